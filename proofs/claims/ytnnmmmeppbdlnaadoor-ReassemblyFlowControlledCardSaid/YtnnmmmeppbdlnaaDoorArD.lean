/- A slice argument of structs of a bool, two numbers, a string and a bool. -/
import Derived.Test.YtnnmmmeppbdlnaaDoorArg
import Derived.ChangeArms
namespace Go.Proofs.YtnnmmmeppbdlnaaDoor
open Go.RowKit Go.ChangeShapes Go.WideShapes Go.Deep
set_option linter.unusedVariables false

/-- The fields of an element. -/
structure Sp where
  rd : Bool
  n : Int
  off : Int
  s : ByteArray
  fin : Bool
instance : Inhabited Sp := ⟨⟨false, 0, 0, .empty, false⟩⟩
def spCells (v : Sp) : Array Value := #[.bool v.rd, .int .i64 v.n, .int .i64 v.off, .string v.s, .bool v.fin]
def Steps (w : World) (a : Option Addr) (len : Nat) (V : Nat → Sp) : Prop :=
  ∀ i, i < len → ∃ b off, a = some ⟨b, off, none⟩ ∧ b < w.heap.size ∧ (∀ j, j < 5 → w.cell? ⟨b, off + i * 5 + j, none⟩ = (spCells (V i))[j]?) ∧
    (Lit.int .i64 (V i).n).wf = true ∧ (Lit.int .i64 (V i).off).wf = true ∧ (V i).s.size ≤ maxLen

section
variable {H : Type} {enc : TypeId × Value → H} {P : Program} {w : World} {base : Nat} {held : Bool}
theorem steps_of {t e : TypeId} {f0 f1 f2 f3 f4 : Field} {fuel len cap : Nat} {a : Option Addr} {x : DataW H × List MemPlace} (ht : P.underlying t = some (.slice e)) (he : P.underlying e = some (.struct #[f0, f1, f2, f3, f4]))
    (hone : oneCellFields P #[f0, f1, f2, f3, f4] = true) (hc : P.cellsOf e = 5) (u0 : P.underlying f0.type = some .bool) (u1 : P.underlying f1.type = some (.int .i64)) (u2 : P.underlying f2.type = some (.int .i64)) (u3 : P.underlying f3.type = some .string) (u4 : P.underlying f4.type = some .bool)
    (h : DataW.trod enc P w base (fun _ => true) held fuel t [.slice a len cap] = some x) : ∃ V, Steps w a len V := by
  have key : ∀ i, i < len → ∃ (q : Sp) (b off : Nat), a = some ⟨b, off, none⟩ ∧ b < w.heap.size ∧ (∀ j, j < 5 → w.cell? ⟨b, off + i * 5 + j, none⟩ = (spCells q)[j]?) ∧
      (Lit.int .i64 q.n).wf = true ∧ (Lit.int .i64 q.off).wf = true ∧ q.s.size ≤ maxLen := by
    intro i hi
    obtain ⟨b, off, n, cs, y, h1, h2, h3, h4, h5⟩ := elem_of ht hc (by omega) h i hi
    obtain ⟨ys, n', _, _, _, hyl, hf⟩ := DataW.trod_struct he h5
    obtain ⟨o0, c0⟩ := hone_of hone 0 f0 rfl
    obtain ⟨o1, c1⟩ := hone_of hone 1 f1 rfl
    obtain ⟨o2, c2⟩ := hone_of hone 2 f2 rfl
    obtain ⟨o3, c3⟩ := hone_of hone 3 f3 rfl
    obtain ⟨o4, c4⟩ := hone_of hone 4 f4 rfl
    match cs, h3 with
    | [v0, v1, v2, v3, v4], _ =>
      have g0 := hf 0 f0 rfl
      have g1 := hf 1 f1 rfl
      have g2 := hf 2 f2 rfl
      have g3 := hf 3 f3 rfl
      have g4 := hf 4 f4 rfl
      rw [o0, c0] at g0
      rw [o1, c1] at g1
      rw [o2, c2] at g2
      rw [o3, c3] at g3
      rw [o4, c4] at g4
      match ys, hyl with
      | [y0, y1, y2, y3, y4], _ =>
        obtain ⟨z0, e0, _⟩ := DataW.trod_bool u0 g0
        obtain ⟨z1, e1, _, w1⟩ := DataW.trod_int u1 g1
        obtain ⟨z2, e2, _, w2⟩ := DataW.trod_int u2 g2
        obtain ⟨z3, e3, _, w3⟩ := DataW.trod_string u3 g3
        obtain ⟨z4, e4, _⟩ := DataW.trod_bool u4 g4
        simp at e0 e1 e2 e3 e4
        subst e0 e1 e2 e3 e4
        exact ⟨⟨z0, z1, z2, z3, z4⟩, b, off, h1, h2, fun j hj => by
          rw [h4 j hj]
          rcases j with _ | _ | _ | _ | _ | j
          · rfl
          · rfl
          · rfl
          · rfl
          · rfl
          · omega, w1, w2, w3⟩
  obtain ⟨Q, hQ⟩ := choose_lt key
  exact ⟨Q, fun i hi => hQ i hi⟩
end
end Go.Proofs.YtnnmmmeppbdlnaaDoor
