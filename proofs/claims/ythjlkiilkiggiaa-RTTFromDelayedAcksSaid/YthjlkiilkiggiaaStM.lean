/- Plain arithmetic of the round-trip estimator. -/
import Derived.Test.YthjlkiilkiggiaaBas
namespace Go.Proofs.Ythjlkiilkiggiaa.Rt
open Go.Proofs.Ythjlkiilkiggiaa
set_option linter.unusedVariables false

def mxZ (a b : Int) : Int := if a < b then b else a
def mnZ (a b : Int) : Int := if b < a then b else a
theorem mxZ_bd (a b : Int) : a ≤ mxZ a b ∧ b ≤ mxZ a b ∧ (mxZ a b = a ∨ mxZ a b = b) := by unfold mxZ; split <;> omega
theorem mnZ_bd (a b : Int) : mnZ a b ≤ a ∧ mnZ a b ≤ b ∧ (mnZ a b = a ∨ mnZ a b = b) := by unfold mnZ; split <;> omega

def rcZ (r : Int) : Int := mxZ r 1
def minZ (M r : Int) : Int := if M = 0 then rcZ r else mnZ M (rcZ r)
def adjZ (M r d : Int) : Int := if mxZ d 0 ≤ rcZ r - minZ M r then rcZ r - mxZ d 0 else rcZ r
def smoZ (S M r d : Int) : Int := if M = 0 then 8 * rcZ r else S + (adjZ M r d - S / 8)
def varZ (S V M r d : Int) : Int := if M = 0 then 2 * rcZ r else V + (mxZ (S / 8 - adjZ M r d) (adjZ M r d - S / 8) - V / 4)

/-- What an estimator's four numbers satisfy. -/
def RInv (S V L M : Int) : Prop := (L = 0 ∧ M = 0 ∧ S = 80 ∧ V = 20) ∨ (1 ≤ M ∧ M ≤ L ∧ L ≤ 1000000 ∧ 8 * M ≤ S ∧ S ≤ 8000000 ∧ 0 ≤ V ∧ V ≤ 4000000)
theorem RInv.start : RInv 80 20 0 0 := .inl ⟨rfl, rfl, rfl, rfl⟩
theorem RInv.bd {S V L M : Int} (h : RInv S V L M) : 8 ≤ S ∧ S ≤ 8000000 ∧ 0 ≤ V ∧ V ≤ 4000000 ∧ 0 ≤ M ∧ M ≤ L ∧ L ≤ 1000000 := by
  rcases h with h | h <;> omega
theorem rcZ_bd {r : Int} (h0 : 0 ≤ r) (h1 : r ≤ 1000000) : 1 ≤ rcZ r ∧ rcZ r ≤ 1000000 ∧ r ≤ rcZ r := by
  have := mxZ_bd r 1; unfold rcZ; omega
theorem minZ_bd {M r : Int} (h0 : 0 ≤ r) (h1 : r ≤ 1000000) (hM : 0 ≤ M) : 1 ≤ minZ M r ∧ minZ M r ≤ rcZ r ∧ (M ≠ 0 → minZ M r ≤ M) := by
  have a := rcZ_bd h0 h1; have b := mnZ_bd M (rcZ r); unfold minZ; split <;> omega
theorem adjZ_bd {M r d : Int} (h0 : 0 ≤ r) (h1 : r ≤ 1000000) (hM : 0 ≤ M) : minZ M r ≤ adjZ M r d ∧ adjZ M r d ≤ rcZ r ∧ (mxZ d 0 ≤ 0 → adjZ M r d = rcZ r) := by
  have a := rcZ_bd h0 h1; have b := minZ_bd h0 h1 hM; have c := mxZ_bd d 0; unfold adjZ; split <;> omega
theorem RInv.step {S V L M r d : Int} (h : RInv S V L M) (h0 : 0 ≤ r) (h1 : r ≤ 1000000) : RInv (smoZ S M r d) (varZ S V M r d) (rcZ r) (minZ M r) ∧ minZ M r ≠ 0 := by
  have b := h.bd
  have c := rcZ_bd h0 h1
  have e := minZ_bd (M := M) h0 h1 (by omega)
  have f := adjZ_bd (M := M) (d := d) h0 h1 (by omega)
  have g := mxZ_bd (S / 8 - adjZ M r d) (adjZ M r d - S / 8)
  refine ⟨.inr ⟨by omega, by omega, by omega, ?_, ?_, ?_, ?_⟩, by omega⟩
  all_goals first | unfold smoZ | unfold varZ
  all_goals rcases h with h | h
  all_goals first | rw [if_pos (by omega)] | rw [if_neg (by omega)]
  all_goals first | omega | (unfold minZ; rw [if_pos (by omega)]; omega)

/-- The probe timeout of n behind k doublings. -/
def prZ : Nat → Int → Int
  | 0, n => mnZ n 64
  | k + 1, n => prZ k (2 * n)
theorem prZ_big (k : Nat) : ∀ n : Int, 64 ≤ n → prZ k n = 64 := by
  induction k with
  | zero => intro n h; show mnZ n 64 = 64; have := mnZ_bd n 64; unfold mnZ; split <;> omega
  | succ k ih => intro n h; exact ih _ (by omega)
theorem prZ_cap (k : Nat) (m : Int) : prZ k (mnZ m 64) = prZ k m := by
  by_cases h : m ≤ 64
  · rw [show mnZ m 64 = m from by unfold mnZ; rw [if_neg (by omega)]]
  · rw [show mnZ m 64 = 64 from by unfold mnZ; rw [if_pos (by omega)], prZ_big k 64 (by omega), prZ_big k m (by omega)]
theorem prZ_mono (k : Nat) : ∀ n m : Int, n ≤ m → prZ k n ≤ prZ k m := by
  induction k with
  | zero => intro n m h; show mnZ n 64 ≤ mnZ m 64; unfold mnZ; repeat' split
            all_goals omega
  | succ k ih => intro n m h; exact ih _ _ (by omega)
theorem prZ_next (k : Nat) (n : Int) (h : 0 ≤ n) : prZ k n ≤ prZ (k + 1) n := prZ_mono k _ _ (by omega)
theorem prZ_more (j k : Nat) (n : Int) (h : 0 ≤ n) (hj : j ≤ k) : prZ j n ≤ prZ k n := by
  induction hj with
  | refl => exact Int.le_refl _
  | step _ ih => exact Int.le_trans ih (prZ_next _ n h)
theorem prZ_bd (k : Nat) : ∀ n : Int, 1 ≤ n → 1 ≤ prZ k n ∧ prZ k n ≤ 64 := by
  induction k with
  | zero => intro n h; show 1 ≤ mnZ n 64 ∧ mnZ n 64 ≤ 64; have := mnZ_bd n 64; omega
  | succ k ih => intro n h; exact ih _ (by omega)
/-- The timeout before the doublings. -/
def toZ (S V d : Int) : Int := S / 8 + mxZ (4 * (V / 4)) 1 + mxZ d 0
def probeZ (S V d b : Int) : Int := if 64 ≤ d then 64 else if 64 ≤ b then 64 else prZ (mxZ b 0).toNat (toZ S V d)
theorem toZ_bd {S V L M d : Int} (h : RInv S V L M) (hd : d < 64) : 2 ≤ toZ S V d ∧ toZ S V d ≤ 10000000 := by
  have a := h.bd; have b := mxZ_bd (4 * (V / 4)) 1; have c := mxZ_bd d 0; unfold toZ; omega
theorem probeZ_bd {S V L M : Int} (h : RInv S V L M) (d b : Int) : 1 ≤ probeZ S V d b ∧ probeZ S V d b ≤ 64 := by
  unfold probeZ; repeat' split
  · omega
  · omega
  · exact prZ_bd _ _ (by have := toZ_bd (d := d) h (by omega); omega)
theorem probeZ_mono {S V L M : Int} (h : RInv S V L M) (d d' b b' : Int) (hd : d ≤ d') (hb : b ≤ b') : probeZ S V d b ≤ probeZ S V d' b' := by
  have z := probeZ_bd h d b
  unfold probeZ at z ⊢
  by_cases h1 : 64 ≤ d'
  · simp only [if_pos h1]; exact z.2
  by_cases h2 : 64 ≤ b'
  · simp only [if_neg h1, if_pos h2]; exact z.2
  have e := toZ_bd (d := d) h (by omega)
  have x := mxZ_bd b 0
  have y := mxZ_bd b' 0
  simp only [if_neg h1, if_neg h2, if_neg (show ¬ 64 ≤ d by omega), if_neg (show ¬ 64 ≤ b by omega)]
  have hk : (mxZ b 0).toNat ≤ (mxZ b' 0).toNat := by omega
  refine Int.le_trans (prZ_more _ _ _ (by omega) hk) (prZ_mono _ _ _ ?_)
  unfold toZ mxZ
  repeat' split
  all_goals omega
def lossZ (S L : Int) : Int := mxZ (mxZ (S / 8) L + (mxZ (S / 8) L + 7) / 8) 1
theorem lossZ_eq (S L : Int) : lossZ S L = mxZ ((9 * mxZ (S / 8) L + 7) / 8) 1 := by
  unfold lossZ; rw [show mxZ (S / 8) L + (mxZ (S / 8) L + 7) / 8 = (9 * mxZ (S / 8) L + 7) / 8 from by omega]
end Go.Proofs.Ythjlkiilkiggiaa.Rt
