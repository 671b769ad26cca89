/- The walk of AcksTruncated. -/
import Derived.Test.YthjlkiilkiggiaaAkV
import Derived.Test.YthjlkiilkiggiaaArg
namespace Go.Proofs.Ythjlkiilkiggiaa
open Go Go.RowKit Go.Shelf
set_option linter.unusedVariables false
set_option linter.unusedSectionVars false
set_option linter.unusedSimpArgs false

/-- What stands when k numbers have travelled. -/
structure TInv (k : Nat) (L : List (Int × Int)) (fl lg ct base first : Int) : Prop where
  good : Good (-1) L
  lo : ∀ x, In L x → x ≤ lg
  flo : fl ≤ lg + 1
  b0 : 0 ≤ base
  f0 : base ≤ first
  f1 : first ≤ lg
  lg1 : lg ≤ base + 100 * k
  ct0 : 0 ≤ ct
  ct1 : ct ≤ k + 1
theorem TInv.step {k : Nat} {L : List (Int × Int)} {fl lg ct base first : Int} (h : TInv k L fl lg ct base first) (pn : Int) (hp : lg < pn) (hp2 : pn ≤ lg + 100) (first' : Int) (hf : base ≤ first' ∧ first' ≤ pn) :
    TInv (k + 1) (capL (ins L pn)) (capF (ins L pn) fl) pn (ct + 1) base first' ∧ fl ≤ pn ∧ ¬ In L pn ∧ 0 ≤ pn := by
  obtain ⟨g, lo, flo, b0, f0, f1, lg1, ct0, ct1⟩ := h
  have hn : ¬ In L pn := fun hi => by have := lo pn hi; omega
  have hg := ins_good g (by omega) hn
  have hi : ∀ x, In (ins L pn) x → x ≤ pn := fun x hx => by
    rcases (In_ins g (by omega) hn x).1 hx with hx | hx
    · have := lo x hx; omega
    · omega
  exact ⟨⟨hg.capL, fun x hx => hi x (In_capL hx), capF_le hg hi (by omega), b0, hf.1, hf.2, by push_cast; omega, by omega, by push_cast; omega⟩, by omega, hn, by omega⟩
theorem TInv.start (base : Int) (hb : 0 ≤ base) : TInv 0 (capL (ins [] base)) (capF (ins [] base) 0) base 1 base base :=
  ⟨⟨by omega, by omega, trivial⟩, fun x hx => by simp [ins, capL, In] at hx; omega, by simp [ins, capF]; omega, hb, by omega, by omega, by omega, by omega, by omega⟩
/-- The number that has just come is a number had already, or below the floor. -/
theorem cap_dup {L : List (Int × Int)} {pn fl : Int} (g : Good (-1) L) (hp : 0 ≤ pn) (hn : ¬ In L pn) : pn < capF (ins L pn) fl ∨ In (capL (ins L pn)) pn := by
  have hi := (In_ins g (by omega) hn pn).2 (.inr rfl)
  unfold capF capL
  split
  · rename_i h
    generalize ins L pn = M at hi h
    cases M with
    | nil => exact hi.elim
    | cons p M =>
      obtain ⟨f, t⟩ := p
      rcases hi with hi | hi
      · left; simpa using hi.2
      · right; simpa using hi
  · exact .inr hi
end Go.Proofs.Ythjlkiilkiggiaa
