/- Words for the walks of the laws of chapter 12, and their arithmetic. -/
import Derived.Test.YtdjjcocmhfmpeaaRtE
import Derived.Test.YtdjjcocmhfmpeaaArg
namespace Go.Proofs.Ytdjjcocmhfmpeaa
open Go.RowKit
set_option linter.unusedVariables false
set_option linter.unusedSimpArgs false

def EAt (w : World) (g : Nat) (S V L M : Int) : Prop := At w g 48 #[.int .i64 S, .int .i64 V, .int .i64 L, .int .i64 M]
theorem EAt.ons {w w1 w2 : World} {g : Nat} {S V L M : Int} {T : List Nat} (h : EAt w g S V L M) (ho : Only T w1 w2) (hd : w1.heap = w.heap) (hg : g ∉ T) : EAt w2 g S V L M := by
  have h1 : At w1 g 48 #[.int .i64 S, .int .i64 V, .int .i64 L, .int .i64 M] := by unfold At; rw [hd]; exact h
  exact h1.keep ho hg
theorem below_ons {w a w1 w2 : World} {T : List Nat} (h : Below w.heap.size w a) (ho : Only T w1 w2) (hd : w1.heap = a.heap) (e1 : w1.os = a.os) (e2 : w1.tape = a.tape) (e3 : w1.output = a.output) (hg : ∀ k ∈ T, w.heap.size ≤ k) : Below w.heap.size w w2 := by
  have h1 : Below w.heap.size w w1 := ⟨e1.trans h.os, e2.trans h.tape, e3.trans h.output, by rw [hd]; exact h.size, by rw [hd]; exact h.block⟩
  exact h1.trans (ho.below hg h1.size)

/-- Sample, and what holds behind it. -/
theorem samp_at (g : Nat) (S V L M r d : Int) (w : World) (hA : EAt w g S V L M) (hi : RInv S V L M) (h0 : 0 ≤ r) (h1 : r ≤ 1000000) :
    Calls Try.prog 23 #[.pointer (some ⟨g, 0, none⟩), .int .i64 r, .int .i64 d] w fun e w' => ∃ S' V' L' M', e = .returned (.tuple #[]) ∧ EAt w' g S' V' L' M' ∧ RInv S' V' L' M' ∧ Only [g] w w' ∧ S' = smoZ S M r d ∧ V' = varZ S V M r d ∧ L' = rcZ r ∧ M' = minZ M r :=
  (sample_c g S V L M r d w hA hi h0 h1).mono fun e w' ⟨h2, h3, h4⟩ => ⟨_, _, _, _, h2, h3, (hi.step h0 h1).1, h4, rfl, rfl, rfl, rfl⟩
/-- Any sample. -/
theorem samp_whatever (g : Nat) (S V L M r d : Int) (w : World) (hA : EAt w g S V L M) (hi : RInv S V L M) :
    Calls Try.prog 23 #[.pointer (some ⟨g, 0, none⟩), .int .i64 r, .int .i64 d] w fun e w' => ∃ S' V' L' M', e = .returned (.tuple #[]) ∧ EAt w' g S' V' L' M' ∧ RInv S' V' L' M' ∧ Only [g] w w' := by
  by_cases hv : 0 ≤ r ∧ r ≤ 1000000
  · exact (samp_at g S V L M r d w hA hi hv.1 hv.2).mono fun e w' ⟨a, b, c, x, h1, h2, h3, h4, _⟩ => ⟨a, b, c, x, h1, h2, h3, h4⟩
  · exact (sample_bad g S V L M r d w hA (by omega)).mono fun e w' ⟨h1, h2⟩ => ⟨_, _, _, _, h1, h2 ▸ hA, hi, h2 ▸ Only.refl _ _⟩

theorem rc_pos {r : Int} (h : 1 ≤ r) : rcZ r = r := by unfold rcZ mxZ; rw [if_neg (by omega)]
theorem adj_zero {M r : Int} (h0 : 1 ≤ r) (h1 : r ≤ 1000000) (hM : 0 ≤ M) : adjZ M r 0 = r := by
  have := (adjZ_bd (M := M) (r := r) (d := 0) (by omega) h1 hM).2.2 (by decide)
  rw [this, rc_pos h0]
/-- V's value behind j equal samples. -/
def vSeq (n : Int) : Nat → Int
  | 0 => 0
  | 1 => 2 * n
  | j + 2 => vSeq n (j + 1) - vSeq n (j + 1) / 4
def CMath (n : Int) (j : Nat) (S V M : Int) : Prop := (j = 0 ∧ M = 0) ∨ (1 ≤ j ∧ S = 8 * n ∧ M = n ∧ V = vSeq n j)
theorem CMath.step {n : Int} {j : Nat} {S V L M : Int} (h : CMath n j S V M) (n0 : 1 ≤ n) (n1 : n ≤ 1000000) : CMath n (j + 1) (smoZ S M n 0) (varZ S V M n 0) (minZ M n) := by
  right
  rcases h with ⟨rfl, rfl⟩ | ⟨hj, rfl, rfl, rfl⟩
  · refine ⟨by omega, ?_, ?_, ?_⟩
    · unfold smoZ; rw [if_pos rfl, rc_pos n0]
    · unfold minZ; rw [if_pos rfl, rc_pos n0]
    · unfold varZ; rw [if_pos rfl, rc_pos n0]; rfl
  · have ha := adj_zero (M := M) n0 n1 (by omega)
    refine ⟨by omega, ?_, ?_, ?_⟩
    · unfold smoZ; rw [if_neg (by omega), ha]; omega
    · unfold minZ; rw [if_neg (by omega), rc_pos n0]; unfold mnZ; rw [if_neg (by omega)]
    · unfold varZ; rw [if_neg (by omega), ha]
      obtain ⟨k, rfl⟩ : ∃ k, j = k + 1 := ⟨j - 1, by omega⟩
      have : mxZ (8 * M / 8 - M) (M - 8 * M / 8) = 0 := by unfold mxZ; split <;> omega
      rw [this]; show _ = vSeq M (k + 1) - vSeq M (k + 1) / 4; omega
theorem vSeq_step (n : Int) (k : Nat) : vSeq n (k + 2) = vSeq n (k + 1) - vSeq n (k + 1) / 4 := rfl
/-- How V decays: a bound on vSeq n (j + 1), j steps behind 2000. -/
def vTop : Nat → Int
  | 0 => 2000
  | j + 1 => vTop j - vTop j / 4
theorem vSeq_top (n : Int) (h0 : 1 ≤ n) (h1 : n ≤ 1000) (j : Nat) : 0 ≤ vSeq n (j + 1) ∧ vSeq n (j + 1) ≤ vTop j := by
  induction j with
  | zero => show 0 ≤ 2 * n ∧ 2 * n ≤ 2000; omega
  | succ j ih => rw [vSeq_step]; show _ ∧ _ ≤ vTop j - vTop j / 4; omega
theorem vSeq_end (n : Int) (h0 : 1 ≤ n) (h1 : n ≤ 1000) : vSeq n 60 / 4 ≤ 1 := by
  have h : vSeq n 60 ≤ vTop 59 := (vSeq_top n h0 h1 59).2
  have e : vTop 59 ≤ 7 := by decide +kernel
  omega
/-- All samples lie in low .. hi. -/
def IMath (low hi least S M : Int) : Prop := (M = 0 ∧ least = 1000) ∨ (8 * low ≤ S ∧ S ≤ 8 * hi ∧ M = least ∧ 1 ≤ M)
theorem IMath.step {low hi least S M r : Int} (h : IMath low hi least S M) (h1 : 1 ≤ low) (h2 : low ≤ r) (h3 : r ≤ hi) (h4 : hi ≤ 1000) :
    8 * low ≤ smoZ S M r 0 ∧ smoZ S M r 0 ≤ 8 * hi ∧ minZ M r = mnZ least r ∧ 1 ≤ minZ M r := by
  rcases h with ⟨rfl, rfl⟩ | ⟨a, b, rfl, c⟩
  · have e : smoZ S 0 r 0 = 8 * r := by unfold smoZ; rw [if_pos rfl, rc_pos (by omega)]
    have f : minZ 0 r = r := by unfold minZ; rw [if_pos rfl, rc_pos (by omega)]
    rw [e, f]
    refine ⟨by omega, by omega, ?_, by omega⟩
    unfold mnZ; split <;> omega
  · have e : smoZ S M r 0 = S + (r - S / 8) := by unfold smoZ; rw [if_neg (by omega), adj_zero (by omega) (by omega) (by omega)]
    have f : minZ M r = mnZ M r := by unfold minZ; rw [if_neg (by omega), rc_pos (by omega)]
    have g := mnZ_bd M r
    rw [e, f]
    exact ⟨by omega, by omega, rfl, by omega⟩
/-- Samples up to 1000 with whatever delays. -/
def DMath (least S M : Int) : Prop := (M = 0 ∧ least = 1000) ∨ (M = least ∧ 1 ≤ M ∧ 8 * M ≤ S ∧ S ≤ 8000)
theorem DMath.step {least S M r d : Int} (h : DMath least S M) (h2 : 1 ≤ r) (h3 : r ≤ 1000) :
    minZ M r = mnZ least r ∧ 1 ≤ minZ M r ∧ 8 * minZ M r ≤ smoZ S M r d ∧ smoZ S M r d ≤ 8000 := by
  have hr := rc_pos h2
  rcases h with ⟨rfl, rfl⟩ | ⟨rfl, c, a, b⟩
  · have e : smoZ S 0 r d = 8 * r := by unfold smoZ; rw [if_pos rfl, hr]
    have f : minZ 0 r = r := by unfold minZ; rw [if_pos rfl, hr]
    rw [e, f]
    refine ⟨?_, by omega, by omega, by omega⟩
    unfold mnZ; split <;> omega
  · have ha := adjZ_bd (M := M) (r := r) (d := d) (by omega) (by omega) (by omega)
    have e : smoZ S M r d = S + (adjZ M r d - S / 8) := by unfold smoZ; rw [if_neg (by omega)]
    have f : minZ M r = mnZ M r := by unfold minZ; rw [if_neg (by omega), hr]
    have g := mnZ_bd M r
    rw [f, hr] at ha
    rw [e, f]
    exact ⟨rfl, by omega, by omega, by omega⟩
theorem loss_bd {S L : Int} (h1 : 1 ≤ L) : S / 8 < lossZ S L ∧ L < lossZ S L ∧ lossZ S L ≤ 2 * mxZ L (S / 8) := by
  have a := mxZ_bd (S / 8) L
  have b := mxZ_bd L (S / 8)
  have c := mxZ_bd (mxZ (S / 8) L + (mxZ (S / 8) L + 7) / 8) 1
  unfold lossZ
  omega
theorem same_in (S M r d : Int) (V : Int) : smoZ S M (mxZ r 1) (mxZ d 0) = smoZ S M r d ∧ varZ S V M (mxZ r 1) (mxZ d 0) = varZ S V M r d ∧ rcZ (mxZ r 1) = rcZ r ∧ minZ M (mxZ r 1) = minZ M r := by
  have e1 : rcZ (mxZ r 1) = rcZ r := by have a := mxZ_bd r 1; unfold rcZ; have b := mxZ_bd (mxZ r 1) 1; omega
  have e2 : mxZ (mxZ d 0) 0 = mxZ d 0 := by have a := mxZ_bd d 0; have b := mxZ_bd (mxZ d 0) 0; omega
  have e3 : minZ M (mxZ r 1) = minZ M r := by unfold minZ; rw [e1]
  have e4 : adjZ M (mxZ r 1) (mxZ d 0) = adjZ M r d := by unfold adjZ; rw [e1, e2, e3]
  exact ⟨by unfold smoZ; rw [e1, e4], by unfold varZ; rw [e1, e4], e1, e3⟩
end Go.Proofs.Ytdjjcocmhfmpeaa
