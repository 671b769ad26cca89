/- An argument of the parameters of a generated frame, and how it follows from the argument's reading. -/
import Derived.Test.YtmmgmpghkpbgkaaArg
import Derived.Test.YtmmgmpghkpbgkaaFsG
import Derived.ChangeArms
namespace Go.Proofs.Ytmmgmpghkpbgkaa
open Go Go.RowKit Go.ChangeShapes Go.WideShapes Go.Deep
set_option linter.unusedVariables false

theorem rgAt_of_pairs {w : World} {a : Option Addr} {len cap : Nat} {K N : Nat → Int} (h : Pairs .i64 .i64 w a len K N) : ∃ L, L.length = len ∧ RgAt w (.slice a len cap) L := by
  refine ⟨(List.range len).map fun i => (K i, N i), by simp, a, cap, by simp, fun i hi => ?_⟩
  obtain ⟨b, off, h1, h2, h3, h4, w1, w2⟩ := h i (by simpa using hi)
  refine ⟨b, off, h1, h2, by simpa using h3, by simpa using h4, ?_, ?_⟩
  · simpa using wf_i64 w1
  · simpa using wf_i64 w2
section
variable {H : Type} {enc : TypeId × Value → H} {w : World} {base : Nat} {held : Bool}
/-- A slice of ranges. -/
theorem rgs_of {fuel : Nat} {cs : List Value} {x : DataW H × List MemPlace} (h : DataW.trod enc Try.prog w base (fun _ => true) held fuel 31 cs = some x) : ∃ v L, cs = [v] ∧ RgAt w v L := by
  rcases open_slice Try.underlying31 h with ⟨rfl, _⟩ | ⟨ad, l, cp, m, n, D, Pl, rfl, _⟩
  · exact ⟨_, [], rfl, RgAt.nil w⟩
  · obtain ⟨K, N, hp⟩ := pairs_of (cap := cp) Try.underlying31 Try.underlying43 (by kernel_rfl) (by kernel_rfl) Try.underlying3 Try.underlying3 h
    obtain ⟨L, _, hL⟩ := rgAt_of_pairs (cap := cp) hp
    exact ⟨_, L, rfl, hL⟩
set_option maxRecDepth 100000 in
/-- The fields of the parameters. -/
theorem fp_core {fuel : Nat} {cs : List Value} {x : DataW H × List MemPlace} (hl : cs.length = 7) (h : DataW.trod enc Try.prog w base (fun _ => true) held fuel 46 cs = some x) :
    ∃ (ty A B C : Int) (s : ByteArray) (fin : Bool) (sv : Value) (SL : List (Int × Int)), cs = (fpC ty A B C s fin sv).toList ∧ FpOk ty A B C s ∧ RgAt w sv SL := by
  obtain ⟨ys, n', _, _, _, hyl, hf⟩ := DataW.trod_struct Try.underlying46 h
  have ci : Try.prog.cellsOf 3 = 1 := by kernel_rfl
  have cs' : Try.prog.cellsOf 9 = 1 := by kernel_rfl
  have cb : Try.prog.cellsOf 4 = 1 := by kernel_rfl
  have cr : Try.prog.cellsOf 31 = 1 := by kernel_rfl
  match cs, hl with
  | [v0, v1, v2, v3, v4, v5, v6], _ =>
    have g0 := hf 0 _ rfl
    have g1 := hf 1 _ rfl
    have g2 := hf 2 _ rfl
    have g3 := hf 3 _ rfl
    have g4 := hf 4 _ rfl
    have g5 := hf 5 _ rfl
    have g6 := hf 6 _ rfl
    simp only [List.getElem_toArray, List.getElem_cons_zero, List.getElem_cons_succ] at g0 g1 g2 g3 g4 g5 g6
    simp only [ci, cs', cb, cr] at g0 g1 g2 g3 g4 g5 g6
    have hy : ys.length = 7 := hyl
    match ys, hy with
    | [y0, y1, y2, y3, y4, y5, y6], _ =>
      obtain ⟨z0, e0, _, w0⟩ := DataW.trod_int Try.underlying3 g0
      obtain ⟨z1, e1, _, w1⟩ := DataW.trod_int Try.underlying3 g1
      obtain ⟨z2, e2, _, w2⟩ := DataW.trod_int Try.underlying3 g2
      obtain ⟨z3, e3, _, w3⟩ := DataW.trod_int Try.underlying3 g3
      obtain ⟨z4, e4, _, w4⟩ := DataW.trod_string Try.underlying9 g4
      obtain ⟨z5, e5, _⟩ := DataW.trod_bool Try.underlying4 g5
      obtain ⟨v, L, e6, hL⟩ := rgs_of g6
      simp at e0 e1 e2 e3 e4 e5 e6
      subst e0 e1 e2 e3 e4 e5 e6
      exact ⟨z0, z1, z2, z3, z4, z5, v6, L, rfl, ⟨wf_i64 w0, wf_i64 w1, wf_i64 w2, wf_i64 w3, by unfold maxLen at w4; omega⟩, hL⟩
set_option maxRecDepth 100000 in
/-- An argument of that type. -/
theorem fp_open {b0 : Nat} {v : Value} {d : DataW H} {p : List MemPlace} (hv : Value.okWide Try.prog w .any b0 46 v) (h : DataW.Trod enc Try.prog w 0 (fun _ => true) true 46 v d p) :
    ∃ (ty A B C : Int) (s : ByteArray) (fin : Bool) (sv : Value) (SL : List (Int × Int)), v = .agg (fpC ty A B C s fin sv) ∧ FpOk ty A B C s ∧ RgAt w sv SL := by
  obtain ⟨cs, rfl, hsz⟩ := okWide_struct Try.underlying46 hv
  rw [show Try.prog.cellsOf 46 = 7 by kernel_rfl] at hsz
  obtain ⟨fuel, hf⟩ := h
  obtain ⟨ty, A, B, C, s, fin, sv, SL, e, h1, h2⟩ := fp_core (by simpa [Value.cells] using hsz) hf
  refine ⟨ty, A, B, C, s, fin, sv, SL, ?_, h1, h2⟩
  congr 1
  rw [← Array.toList_inj]
  simpa [Value.cells] using e
end
end Go.Proofs.Ytmmgmpghkpbgkaa
