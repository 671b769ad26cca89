/- Contracts of package frame: a block that holds a part. -/
import Derived.Test.YtmmgmpghkpbgkaaFrP
import Derived.Deep.CutRange
import Derived.Carry
namespace Go.Proofs.Ytmmgmpghkpbgkaa
open Go Go.RowKit
set_option linter.unusedVariables false
set_option linter.unusedSimpArgs false

/-- Block q holds the three functions of the part p. -/
def PB (w : World) (B : Nat) (p : Pt) (q : Nat) : Prop := ∃ f0 c0 f1 c1 f2 c2, At w q 105 #[.func (.func f0) #[] c0, .func (.func f1) #[] c1, .func (.func f2) #[] c2] ∧ PartV w B p (.func (.func f0) #[] c0) (.func (.func f1) #[] c1) (.func (.func f2) #[] c2)
theorem PB.keep {w w' : World} {B : Nat} {p : Pt} {q : Nat} (h : PB w B p q) {S : List Nat} (ho : Only S w w') (hS : ∀ k ∈ S, k < B ∨ w.heap.size ≤ k) (hq : q ∉ S) : PB w' B p q := by
  obtain ⟨f0, c0, f1, c1, f2, c2, h1, h2⟩ := h
  exact ⟨f0, c0, f1, c1, f2, c2, h1.keep ho hq, h2.keep ho hS⟩
theorem PB.keep0 {w w' : World} {B : Nat} {p : Pt} {q : Nat} (h : PB w B p q) (ho : Only [] w w') : PB w' B p q := h.keep ho (by simp) (by simp)
theorem PB.new {w' : World} {B C : Nat} {p : Pt} {f0 f1 f2 : Nat} {c0 c1 c2 : Array Value} (hB : B ≤ C) (h : PartV w' C p (.func (.func f0) #[] c0) (.func (.func f1) #[] c1) (.func (.func f2) #[] c2)) :
    PB (w'.alloc (.cells #[.func (.func f0) #[] c0, .func (.func f1) #[] c1, .func (.func f2) #[] c2] 105)) B p w'.heap.size := by
  have h2 := h.keep (S := []) ((Only.refl [] w').alloc (.cells #[.func (.func f0) #[] c0, .func (.func f1) #[] c1, .func (.func f2) #[] c2] 105)) (by simp)
  refine ⟨f0, c0, f1, c1, f2, c2, At.new _ _ _, ?_⟩
  cases p with
  | int most x => obtain ⟨fk, q1, q2, a, b, c, r⟩ := h2; exact ⟨fk, q1, q2, a, by omega, by omega, r⟩
  | text least most => obtain ⟨q1, q2, b, c, r⟩ := h2; exact ⟨q1, q2, by omega, by omega, r⟩
  | chal => obtain ⟨q1, q2, b, c, r⟩ := h2; exact ⟨q1, q2, by omega, by omega, r⟩
  | cidp => obtain ⟨q1, q2, b, c, r⟩ := h2; exact ⟨q1, q2, by omega, by omega, r⟩
  | uni => exact h2
  | retire => obtain ⟨q1, b, r⟩ := h2; exact ⟨q1, by omega, r⟩
  | ranges => exact h2
end Go.Proofs.Ytmmgmpghkpbgkaa
