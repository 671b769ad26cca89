/- An argument that is a frame, and how it follows from the argument's reading. -/
import Derived.Test.YtmmgmpghkpbgkaaArE
namespace Go.Proofs.Ytmmgmpghkpbgkaa
open Go Go.RowKit Go.ChangeShapes Go.WideShapes Go.Deep
set_option linter.unusedVariables false

theorem strB_data (s : ByteArray) : strB s.data.toList = s := by
  unfold strB
  cases s
  simp
section
variable {H : Type} {enc : TypeId × Value → H} {w : World} {base : Nat} {held : Bool}
set_option maxRecDepth 100000 in
/-- An argument of the type of frames. -/
theorem fr_open {b0 : Nat} {v : Value} {d : DataW H} {p : List MemPlace} (hv : Value.okWide Try.prog w .any b0 33 v) (h : DataW.Trod enc Try.prog w 0 (fun _ => true) true 33 v d p) :
    ∃ (f : Fr) (rv : Value), v = .agg (frC f rv) ∧ RgAt w rv f.rg ∧ (-9223372036854775808 ≤ f.ty ∧ f.ty ≤ 9223372036854775807) := by
  obtain ⟨cs, rfl, hsz⟩ := okWide_struct Try.underlying33 hv
  rw [show Try.prog.cellsOf 33 = 13 by kernel_rfl] at hsz
  obtain ⟨fuel, h⟩ := h
  obtain ⟨ys, n', _, _, _, hyl, hf⟩ := DataW.trod_struct Try.underlying33 h
  have ci : Try.prog.cellsOf 3 = 1 := by kernel_rfl
  have cs' : Try.prog.cellsOf 9 = 1 := by kernel_rfl
  have cb : Try.prog.cellsOf 4 = 1 := by kernel_rfl
  have cr : Try.prog.cellsOf 31 = 1 := by kernel_rfl
  obtain ⟨l⟩ := cs
  match l, hsz with
  | [v0, v1, v2, v3, v4, v5, v6, v7, v8, v9, v10, v11, v12], _ =>
    have g0 := hf 0 _ rfl
    have g1 := hf 1 _ rfl
    have g2 := hf 2 _ rfl
    have g3 := hf 3 _ rfl
    have g4 := hf 4 _ rfl
    have g5 := hf 5 _ rfl
    have g6 := hf 6 _ rfl
    have g7 := hf 7 _ rfl
    have g8 := hf 8 _ rfl
    have g9 := hf 9 _ rfl
    have g10 := hf 10 _ rfl
    have g11 := hf 11 _ rfl
    have g12 := hf 12 _ rfl
    simp only [List.getElem_toArray, List.getElem_cons_zero, List.getElem_cons_succ] at g0 g1 g2 g3 g4 g5 g6 g7 g8 g9 g10 g11 g12
    simp only [ci, cs', cb, cr, Value.cells] at g0 g1 g2 g3 g4 g5 g6 g7 g8 g9 g10 g11 g12
    have hy : ys.length = 13 := hyl
    match ys, hy with
    | [y0, y1, y2, y3, y4, y5, y6, y7, y8, y9, y10, y11, y12], _ =>
      obtain ⟨z0, e0, _, w0⟩ := DataW.trod_int Try.underlying3 g0
      obtain ⟨z1, e1, _, w1⟩ := DataW.trod_int Try.underlying3 g1
      obtain ⟨z2, e2, _, w2⟩ := DataW.trod_int Try.underlying3 g2
      obtain ⟨z3, e3, _, w3⟩ := DataW.trod_string Try.underlying9 g3
      obtain ⟨z4, e4, _⟩ := DataW.trod_bool Try.underlying4 g4
      obtain ⟨z5, e5, _, w5⟩ := DataW.trod_int Try.underlying3 g5
      obtain ⟨z6, e6, _, w6⟩ := DataW.trod_int Try.underlying3 g6
      obtain ⟨z7, e7, _⟩ := DataW.trod_bool Try.underlying4 g7
      obtain ⟨z8, e8, _, w8⟩ := DataW.trod_int Try.underlying3 g8
      obtain ⟨z10, e10, _, w10⟩ := DataW.trod_int Try.underlying3 g10
      obtain ⟨z11, e11, _, w11⟩ := DataW.trod_int Try.underlying3 g11
      obtain ⟨z12, e12, _, w12⟩ := DataW.trod_string Try.underlying9 g12
      obtain ⟨v, L, e9, hL⟩ := rgs_of g9
      simp at e0 e1 e2 e3 e4 e5 e6 e7 e8 e9 e10 e11 e12
      subst e0 e1 e2 e3 e4 e5 e6 e7 e8 e9 e10 e11 e12
      exact ⟨⟨z0, z1, z2, z3.data.toList, z4, z5, z6, z7, z8, L, z10, z11, z12.data.toList⟩, v9, by simp only [frC, strB_data], hL, wf_i64 w0⟩
end
end Go.Proofs.Ytmmgmpghkpbgkaa
