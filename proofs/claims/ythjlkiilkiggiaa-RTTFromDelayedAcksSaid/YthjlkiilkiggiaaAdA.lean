/- Plain law of RTTFromDelayedAcks: what stands from tick to tick. -/
import Derived.Test.YthjlkiilkiggiaaAkP
import Derived.Test.YthjlkiilkiggiaaStM
namespace Go.Proofs.Ythjlkiilkiggiaa
open Go Go.RowKit Go.Shelf
open Go.Proofs.Ythjlkiilkiggiaa.Rt
set_option linter.unusedVariables false
set_option linter.unusedSectionVars false
set_option linter.unusedSimpArgs false

/-- The times at which the packets are sent rise. -/
def Rise (n : Nat) (T : Nat → Int) : Prop := ∀ i, i + 1 < n → T i < T (i + 1)
/-- The intervals when the packets 0, .., k - 1 have come. -/
def lowL (k : Nat) : List (Int × Int) := if k = 0 then [] else [(0, (k : Int))]
theorem lowL_step (k : Nat) : capL (ins (lowL k) k) = lowL (k + 1) ∧ capF (ins (lowL k) k) 0 = 0 ∧ ¬ In (lowL k) k := by
  unfold lowL
  by_cases h : k = 0
  · subst h; simp [ins, capL, capF, In]
  · rw [if_neg h]
    have h1 : ¬ ((k : Int) < k) := by omega
    have e : ins [(0, (k : Int))] k = [(0, (k : Int) + 1)] := by simp [ins]
    rw [e]
    simp [capL, capF, In]
/-- What stands inside a tick a: k packets have come. -/
structure MInv (n : Nat) (T : Nat → Int) (th dl a : Int) (k : Nat) (lg wh ct du seen : Int) : Prop where
  kn : k ≤ n
  lgk : lg = (k : Int) - 1
  old : 0 < k → wh = T (k - 1) + th ∧ wh ≤ a
  new : k < n → a ≤ T k + th
  st : (ct = 0 ∧ du = -1 ∧ seen = (k : Int) - 1) ∨ (0 < k ∧ ct = 1 ∧ du = wh + dl ∧ a ≤ du ∧ seen = (k : Int) - 2) ∨ (1 < k ∧ ct = 2 ∧ du = a ∧ wh = a ∧ -1 ≤ seen ∧ seen < (k : Int) - 1)
theorem MInv.start (n : Nat) (T : Nat → Int) (th dl : Int) (h : 0 < n → 0 ≤ T 0 + th) : MInv n T th dl 0 0 (-1) 0 0 (-1) (-1) :=
  ⟨by omega, by omega, by omega, fun h' => h h', .inl ⟨rfl, rfl, by omega⟩⟩
section
variable {n : Nat} {T : Nat → Int} {th dl a : Int} {k : Nat} {lg wh ct du seen : Int} (h : MInv n T th dl a k lg wh ct du seen) (hT : Rise n T) (d0 : 0 ≤ dl) (ha : 0 ≤ a)
include h hT d0 ha
theorem MInv.recv (hk : k < n) (hs : T k + th ≤ a) : MInv n T th dl a (k + 1) k a (ct + 1) (duZ ct dl du a true) seen ∧ 0 ≤ ct ∧ ct ≤ 1 := by
  obtain ⟨kn, lgk, old, new, st⟩ := h
  have e := new hk
  have r1 : k + 1 < n → T k < T (k + 1) := hT k
  have r0 : 0 < k → T (k - 1) < T k := fun h0 => by
    have := hT (k - 1) (by omega)
    rwa [show k - 1 + 1 = k from by omega] at this
  have hu : duZ ct dl du a true = if du = -1 ∨ atZ ct dl a true < du then atZ ct dl a true else du := rfl
  have hat : atZ ct dl a true = if ct + 1 < 2 ∧ true = true then a + dl else a := rfl
  generalize duZ ct dl du a true = D at hu ⊢
  generalize atZ ct dl a true = A at hu hat
  rcases st with ⟨rfl, rfl, s3⟩ | ⟨s1, rfl, s3, s4, s5⟩ | ⟨s1, s2, s3, s4, s5, s6⟩
  · rw [if_pos ⟨by omega, rfl⟩] at hat
    rw [if_pos (.inl rfl)] at hu
    refine ⟨⟨by omega, by omega, fun _ => ⟨by rw [show k + 1 - 1 = k from by omega]; omega, by omega⟩, fun h1 => by have := r1 h1; omega, .inr (.inl ⟨by omega, by omega, by omega, by omega, by omega⟩)⟩, by omega, by omega⟩
  · rw [if_neg (by omega)] at hat
    have hD : D = a := by
      rw [hu]; split
      · exact hat
      · rename_i hh; simp at hh; omega
    have := old s1
    refine ⟨⟨by omega, by omega, fun _ => ⟨by rw [show k + 1 - 1 = k from by omega]; omega, by omega⟩, fun h1 => by have := r1 h1; omega, .inr (.inr ⟨by omega, by omega, by omega, by omega, by omega, by omega⟩)⟩, by omega, by omega⟩
  · have := old (by omega); have := r0 (by omega); omega
theorem MInv.idle (hx : ¬ (k < n ∧ T k + th ≤ a)) (hp : ¬ (du ≠ -1 ∧ du ≤ a)) : MInv n T th dl (a + 1) k lg wh ct du seen := by
  obtain ⟨kn, lgk, old, new, st⟩ := h
  refine ⟨kn, lgk, fun h0 => ⟨(old h0).1, by have := (old h0).2; omega⟩, fun h0 => ?_, ?_⟩
  · have : ¬ (T k + th ≤ a) := fun h1 => hx ⟨h0, h1⟩
    omega
  · rcases st with s | ⟨s1, s2, s3, s4, s5⟩ | ⟨s1, s2, s3, s4, s5, s6⟩
    · exact .inl s
    · refine .inr (.inl ⟨s1, s2, s3, ?_, s5⟩)
      have := old s1
      have : ¬ (du ≤ a) := fun h1 => hp ⟨by omega, h1⟩
      omega
    · exact absurd ⟨by omega, by omega⟩ hp
theorem MInv.ack (hx : ¬ (k < n ∧ T k + th ≤ a)) (hp : du ≠ -1 ∧ du ≤ a) : 0 < k ∧ wh = T (k - 1) + th ∧ wh ≤ a ∧ a - wh ≤ dl ∧ -1 ≤ seen ∧ seen < (k : Int) - 1 ∧ MInv n T th dl (a + 1) k lg wh 0 (-1) ((k : Int) - 1) := by
  obtain ⟨kn, lgk, old, new, st⟩ := h
  have hN : k < n → a + 1 ≤ T k + th := fun h0 => by
    have : ¬ (T k + th ≤ a) := fun h1 => hx ⟨h0, h1⟩
    omega
  have hO : 0 < k → wh = T (k - 1) + th ∧ wh ≤ a + 1 := fun h0 => ⟨(old h0).1, by have := (old h0).2; omega⟩
  rcases st with ⟨s1, s2, s3⟩ | ⟨s1, s2, s3, s4, s5⟩ | ⟨s1, s2, s3, s4, s5, s6⟩
  · omega
  · have := old s1
    exact ⟨s1, this.1, this.2, by omega, by omega, by omega, kn, lgk, hO, hN, .inl ⟨rfl, rfl, rfl⟩⟩
  · have := old (by omega)
    exact ⟨by omega, this.1, this.2, by omega, by omega, by omega, kn, lgk, hO, hN, .inl ⟨rfl, rfl, rfl⟩⟩
theorem MInv.done (hl : ∀ i, i < n → T i + th + dl < a) : seen = (n : Int) - 1 := by
  obtain ⟨kn, lgk, old, new, st⟩ := h
  have hk : k = n := by
    rcases Nat.lt_or_ge k n with h1 | h1
    · have := hl k h1; have := new h1; omega
    · omega
  subst hk
  rcases st with ⟨s1, s2, s3⟩ | ⟨s1, s2, s3, s4, s5⟩ | ⟨s1, s2, s3, s4, s5, s6⟩
  · exact s3
  · have := hl (k - 1) (by omega); have := old s1; omega
  · have := hl (k - 1) (by omega); have := old (by omega); omega
end
/-- What stands of the estimator: P the round-trip time. -/
def EInv (P dl S V L M : Int) : Prop := RInv S V L M ∧ ((L = 0 ∧ M = 0) ∨ (P ≤ M ∧ M ≤ P + dl ∧ 8 * P ≤ S ∧ S ≤ 8 * (P + dl)))
theorem EInv.start (P dl : Int) : EInv P dl 80 20 0 0 := ⟨RInv.start, .inl ⟨rfl, rfl⟩⟩
theorem EInv.step {P dl S V L M D : Int} (h : EInv P dl S V L M) (hP : 1 ≤ P) (hP2 : P ≤ 1000) (d0 : 0 ≤ D) (d1 : D ≤ dl) (d2 : dl ≤ 20) :
    EInv P dl (smoZ S M (P + D) D) (varZ S V M (P + D) D) (rcZ (P + D)) (minZ M (P + D)) ∧ P ≤ smoZ S M (P + D) D / 8 ∧ smoZ S M (P + D) D / 8 ≤ P + dl ∧ P ≤ minZ M (P + D) ∧ minZ M (P + D) ≤ P + dl := by
  obtain ⟨hR, hE⟩ := h
  have hst := hR.step (r := P + D) (d := D) (by omega) (by omega)
  have hrc : rcZ (P + D) = P + D := by unfold rcZ mxZ; rw [if_neg (by omega)]
  have hmx : mxZ D 0 = D := by unfold mxZ; split <;> omega
  have key : 8 * P ≤ smoZ S M (P + D) D ∧ smoZ S M (P + D) D ≤ 8 * (P + dl) ∧ P ≤ minZ M (P + D) ∧ minZ M (P + D) ≤ P + dl := by
    rcases hE with ⟨rfl, rfl⟩ | ⟨e1, e2, e3, e4⟩
    · unfold smoZ minZ; rw [if_pos rfl, if_pos rfl, hrc]; omega
    · have hM : M ≠ 0 := by omega
      have hm : P ≤ minZ M (P + D) ∧ minZ M (P + D) ≤ P + D ∧ minZ M (P + D) ≤ M := by
        unfold minZ; rw [if_neg hM, hrc]; unfold mnZ; split <;> omega
      have ha : P ≤ adjZ M (P + D) D ∧ adjZ M (P + D) D ≤ P + D := by
        unfold adjZ; rw [hrc, hmx]; split <;> omega
      have hs : smoZ S M (P + D) D = S + (adjZ M (P + D) D - S / 8) := by unfold smoZ; rw [if_neg hM]
      rw [hs]
      omega
  exact ⟨⟨hst.1, .inr ⟨key.2.2.1, key.2.2.2, key.1, key.2.1⟩⟩, by omega, by omega, key.2.2.1, key.2.2.2⟩
end Go.Proofs.Ythjlkiilkiggiaa
