/- A slice argument of structs of a byte, two numbers and a bool. -/
import Derived.Test.YthjlkiilkiggiaaArg
namespace Go.Proofs.Ythjlkiilkiggiaa
open Go.RowKit Go.ChangeShapes Go.WideShapes Go.Deep
set_option linter.unusedVariables false

def Steps (w : World) (a : Option Addr) (len : Nat) (V : Nat → Int × Int × Int × Bool) : Prop :=
  ∀ i, i < len → ∃ b off, a = some ⟨b, off, none⟩ ∧ b < w.heap.size ∧
    w.cell? ⟨b, off + i * 4, none⟩ = some (.int .u8 (V i).1) ∧ w.cell? ⟨b, off + i * 4 + 1, none⟩ = some (.int .i64 (V i).2.1) ∧ w.cell? ⟨b, off + i * 4 + 2, none⟩ = some (.int .i64 (V i).2.2.1) ∧ w.cell? ⟨b, off + i * 4 + 3, none⟩ = some (.bool (V i).2.2.2) ∧
    (Lit.int .u8 (V i).1).wf = true ∧ (Lit.int .i64 (V i).2.1).wf = true ∧ (Lit.int .i64 (V i).2.2.1).wf = true

section
variable {H : Type} {enc : TypeId × Value → H} {P : Program} {w : World} {base : Nat} {held : Bool}
theorem steps_of {t e : TypeId} {f0 f1 f2 f3 : Field} {fuel len cap : Nat} {a : Option Addr} {x : DataW H × List MemPlace} (ht : P.underlying t = some (.slice e)) (he : P.underlying e = some (.struct #[f0, f1, f2, f3]))
    (hone : oneCellFields P #[f0, f1, f2, f3] = true) (hc : P.cellsOf e = 4) (u0 : P.underlying f0.type = some (.int .u8)) (u1 : P.underlying f1.type = some (.int .i64)) (u2 : P.underlying f2.type = some (.int .i64)) (u3 : P.underlying f3.type = some .bool)
    (h : DataW.trod enc P w base (fun _ => true) held fuel t [.slice a len cap] = some x) : ∃ V, Steps w a len V := by
  have key : ∀ i, i < len → ∃ (q : Int × Int × Int × Bool) (b off : Nat), a = some ⟨b, off, none⟩ ∧ b < w.heap.size ∧
      w.cell? ⟨b, off + i * 4, none⟩ = some (.int .u8 q.1) ∧ w.cell? ⟨b, off + i * 4 + 1, none⟩ = some (.int .i64 q.2.1) ∧ w.cell? ⟨b, off + i * 4 + 2, none⟩ = some (.int .i64 q.2.2.1) ∧ w.cell? ⟨b, off + i * 4 + 3, none⟩ = some (.bool q.2.2.2) ∧
      (Lit.int .u8 q.1).wf = true ∧ (Lit.int .i64 q.2.1).wf = true ∧ (Lit.int .i64 q.2.2.1).wf = true := by
    intro i hi
    obtain ⟨b, off, n, cs, y, h1, h2, h3, h4, h5⟩ := elem_of ht hc (by omega) h i hi
    obtain ⟨ys, n', _, _, _, hyl, hf⟩ := DataW.trod_struct he h5
    obtain ⟨o0, c0⟩ := hone_of hone 0 f0 rfl
    obtain ⟨o1, c1⟩ := hone_of hone 1 f1 rfl
    obtain ⟨o2, c2⟩ := hone_of hone 2 f2 rfl
    obtain ⟨o3, c3⟩ := hone_of hone 3 f3 rfl
    match cs, h3 with
    | [v0, v1, v2, v3], _ =>
      have g0 := hf 0 f0 rfl
      have g1 := hf 1 f1 rfl
      have g2 := hf 2 f2 rfl
      have g3 := hf 3 f3 rfl
      rw [o0, c0] at g0
      rw [o1, c1] at g1
      rw [o2, c2] at g2
      rw [o3, c3] at g3
      match ys, hyl with
      | [y0, y1, y2, y3], _ =>
        obtain ⟨z0, e0, _, w0⟩ := DataW.trod_int u0 g0
        obtain ⟨z1, e1, _, w1⟩ := DataW.trod_int u1 g1
        obtain ⟨z2, e2, _, w2⟩ := DataW.trod_int u2 g2
        obtain ⟨z3, e3, _⟩ := DataW.trod_bool u3 g3
        simp at e0 e1 e2 e3
        subst e0 e1 e2 e3
        exact ⟨(z0, z1, z2, z3), b, off, h1, h2, by simpa using h4 0 (by omega), by simpa using h4 1 (by omega), by simpa using h4 2 (by omega), by simpa using h4 3 (by omega), w0, w1, w2⟩
  obtain ⟨Q, hQ⟩ := choose_lt key
  exact ⟨Q, fun i hi => hQ i hi⟩
end
end Go.Proofs.Ythjlkiilkiggiaa
