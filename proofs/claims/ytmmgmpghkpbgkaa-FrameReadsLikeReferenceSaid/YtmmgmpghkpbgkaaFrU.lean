/- The table of parts: what a load, a slice literal and a call yield. -/
import Derived.Test.YtmmgmpghkpbgkaaFrT
import Derived.Test.YtmmgmpghkpbgkaaFrQ0
namespace Go.Proofs.Ytmmgmpghkpbgkaa
open Go Go.RowKit
set_option linter.unusedVariables false
set_option linter.unusedSimpArgs false

set_option maxRecDepth 100000 in
theorem run_ld {w : World} {B : Nat} {p : Pt} {q : Nat} (h : PB w B p q) : ∃ v, (Instr.loadAt 105 (pv q)).run Try.prog w = .ok v w ∧ PV w B p v := by
  obtain ⟨f0, c0, f1, c1, f2, c2, hA, hV⟩ := h
  have k0 : w.cell? ⟨q, 0, none⟩ = some (.func (.func f0) #[] c0) := hA.cell 0 rfl
  have k1 : w.cell? ⟨q, 1, none⟩ = some (.func (.func f1) #[] c1) := hA.cell 1 rfl
  have k2 : w.cell? ⟨q, 2, none⟩ = some (.func (.func f2) #[] c2) := hA.cell 2 rfl
  refine ⟨_, ?_, f0, c0, f1, c1, f2, c2, rfl, hV⟩
  unfold pv
  have h1 := Try.underlying105
  simp [go_sem, k0, k1, k2, h1]
set_option maxRecDepth 100000 in
theorem run_bd0 (w : World) (B : Nat) : ∃ v w', (Instr.buildSlice 98 0 #[]).run Try.prog w = .ok v w' ∧ Only [] w w' ∧ SlAt w' B [] v := by
  refine ⟨_, w.alloc (.cells #[] 105), ?_, (Only.refl [] w).alloc _, w.heap.size, #[], rfl, At.new _ _ _, fun i hi => by simp at hi⟩
  simp [go_sem]
set_option maxRecDepth 100000 in
set_option maxHeartbeats 1000000 in
theorem run_bd1 {w : World} {B : Nat} {p0 : Pt} {v0 : Value} (h0 : PV w B p0 v0) : ∃ v w', (Instr.buildSlice 98 1 #[(0, v0)]).run Try.prog w = .ok v w' ∧ Only [] w w' ∧ SlAt w' B [p0] v := by
  obtain ⟨f00, c00, f01, c01, f02, c02, rfl, hV0⟩ := h0
  have ho := (Only.refl [] w).alloc (.cells #[.func (.func f00) #[] c00, .func (.func f01) #[] c01, .func (.func f02) #[] c02] 105)
  refine ⟨_, w.alloc (.cells #[.func (.func f00) #[] c00, .func (.func f01) #[] c01, .func (.func f02) #[] c02] 105), ?_, ho, w.heap.size, _, rfl, At.new _ _ _, fun i hi => ?_⟩
  · simp [go_sem]
  · match i, hi with
    | 0, _ => exact ⟨f00, c00, f01, c01, f02, c02, rfl, rfl, rfl, hV0.keeps (Keeps.of_only ho)⟩
    | (i + 1), hi => simp at hi
set_option maxRecDepth 100000 in
set_option maxHeartbeats 1000000 in
theorem run_bd2 {w : World} {B : Nat} {p0 p1 : Pt} {v0 v1 : Value} (h0 : PV w B p0 v0) (h1 : PV w B p1 v1) : ∃ v w', (Instr.buildSlice 98 2 #[(0, v0), (1, v1)]).run Try.prog w = .ok v w' ∧ Only [] w w' ∧ SlAt w' B [p0, p1] v := by
  obtain ⟨f00, c00, f01, c01, f02, c02, rfl, hV0⟩ := h0
  obtain ⟨f10, c10, f11, c11, f12, c12, rfl, hV1⟩ := h1
  have ho := (Only.refl [] w).alloc (.cells #[.func (.func f00) #[] c00, .func (.func f01) #[] c01, .func (.func f02) #[] c02, .func (.func f10) #[] c10, .func (.func f11) #[] c11, .func (.func f12) #[] c12] 105)
  refine ⟨_, w.alloc (.cells #[.func (.func f00) #[] c00, .func (.func f01) #[] c01, .func (.func f02) #[] c02, .func (.func f10) #[] c10, .func (.func f11) #[] c11, .func (.func f12) #[] c12] 105), ?_, ho, w.heap.size, _, rfl, At.new _ _ _, fun i hi => ?_⟩
  · simp [go_sem]
  · match i, hi with
    | 0, _ => exact ⟨f00, c00, f01, c01, f02, c02, rfl, rfl, rfl, hV0.keeps (Keeps.of_only ho)⟩
    | 1, _ => exact ⟨f10, c10, f11, c11, f12, c12, rfl, rfl, rfl, hV1.keeps (Keeps.of_only ho)⟩
    | (i + 2), hi => simp at hi; omega
set_option maxRecDepth 100000 in
set_option maxHeartbeats 1000000 in
theorem run_bd3 {w : World} {B : Nat} {p0 p1 p2 : Pt} {v0 v1 v2 : Value} (h0 : PV w B p0 v0) (h1 : PV w B p1 v1) (h2 : PV w B p2 v2) : ∃ v w', (Instr.buildSlice 98 3 #[(0, v0), (1, v1), (2, v2)]).run Try.prog w = .ok v w' ∧ Only [] w w' ∧ SlAt w' B [p0, p1, p2] v := by
  obtain ⟨f00, c00, f01, c01, f02, c02, rfl, hV0⟩ := h0
  obtain ⟨f10, c10, f11, c11, f12, c12, rfl, hV1⟩ := h1
  obtain ⟨f20, c20, f21, c21, f22, c22, rfl, hV2⟩ := h2
  have ho := (Only.refl [] w).alloc (.cells #[.func (.func f00) #[] c00, .func (.func f01) #[] c01, .func (.func f02) #[] c02, .func (.func f10) #[] c10, .func (.func f11) #[] c11, .func (.func f12) #[] c12, .func (.func f20) #[] c20, .func (.func f21) #[] c21, .func (.func f22) #[] c22] 105)
  refine ⟨_, w.alloc (.cells #[.func (.func f00) #[] c00, .func (.func f01) #[] c01, .func (.func f02) #[] c02, .func (.func f10) #[] c10, .func (.func f11) #[] c11, .func (.func f12) #[] c12, .func (.func f20) #[] c20, .func (.func f21) #[] c21, .func (.func f22) #[] c22] 105), ?_, ho, w.heap.size, _, rfl, At.new _ _ _, fun i hi => ?_⟩
  · simp [go_sem]
  · match i, hi with
    | 0, _ => exact ⟨f00, c00, f01, c01, f02, c02, rfl, rfl, rfl, hV0.keeps (Keeps.of_only ho)⟩
    | 1, _ => exact ⟨f10, c10, f11, c11, f12, c12, rfl, rfl, rfl, hV1.keeps (Keeps.of_only ho)⟩
    | 2, _ => exact ⟨f20, c20, f21, c21, f22, c22, rfl, rfl, rfl, hV2.keeps (Keeps.of_only ho)⟩
    | (i + 3), hi => simp at hi; omega
end Go.Proofs.Ytmmgmpghkpbgkaa
