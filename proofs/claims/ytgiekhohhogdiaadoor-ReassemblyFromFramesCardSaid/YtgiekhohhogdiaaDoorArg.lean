/- What a walk is told of a slice argument, and how it follows from the argument's reading. -/
import Derived.Test.YtgiekhohhogdiaaDoorBas
import Derived.Deep.Slices
import Derived.Deep.Fields
import Derived.ChangeSame
import Derived.ChangeOld
import Derived.ShutString
namespace Go.Proofs.YtgiekhohhogdiaaDoor
open Go.RowKit Go.ChangeShapes Go.WideShapes Go.Deep
set_option linter.unusedVariables false

/-- A slice of numbers: element i is Z i. -/
def Ints (k : IntKind) (w : World) (a : Option Addr) (len : Nat) (Z : Nat → Int) : Prop :=
  ∀ i, i < len → ∃ b off, a = some ⟨b, off, none⟩ ∧ b < w.heap.size ∧ w.cell? ⟨b, off + i, none⟩ = some (.int k (Z i)) ∧ (Lit.int k (Z i)).wf = true
/-- A slice of structs of two numbers: the fields of element i are K i and N i. -/
def Pairs (k0 k1 : IntKind) (w : World) (a : Option Addr) (len : Nat) (K N : Nat → Int) : Prop :=
  ∀ i, i < len → ∃ b off, a = some ⟨b, off, none⟩ ∧ b < w.heap.size ∧
    w.cell? ⟨b, off + i * 2, none⟩ = some (.int k0 (K i)) ∧ w.cell? ⟨b, off + i * 2 + 1, none⟩ = some (.int k1 (N i)) ∧ (Lit.int k0 (K i)).wf = true ∧ (Lit.int k1 (N i)).wf = true

theorem lt_of_cell {w : World} {a : Addr} {v : Value} (h : w.cell? a = some v) : a.block < w.heap.size := by
  rcases Nat.lt_or_ge a.block w.heap.size with hl | hl
  · exact hl
  · unfold World.cell? at h; rw [Array.getElem?_eq_none hl] at h; cases h
theorem spot_of_cell {w : World} {a : Addr} {v : Value} (h : w.cell? a = some v) : a = ⟨a.block, a.off, none⟩ := by
  obtain ⟨b, o, s⟩ := a
  unfold World.cell? at h
  cases s with
  | none => rfl
  | some x => simp at h; split at h <;> cases h
theorem add_of_none (b o n : Nat) : (⟨b, o, none⟩ : Addr).add n = ⟨b, o + n, none⟩ := by
  unfold Addr.add; by_cases h : n = 0 <;> simp [h]

section
variable {H : Type} {enc : TypeId × Value → H} {P : Program} {w : World} {base : Nat} {held : Bool}
/-- Every element of a slice argument: its address, its cells and its reading. -/
theorem elem_of {t e : TypeId} {fuel len cap c : Nat} {a : Option Addr} {x : DataW H × List MemPlace} (ht : P.underlying t = some (.slice e)) (hc : P.cellsOf e = c) (h0 : 0 < c)
    (h : DataW.trod enc P w base (fun _ => true) held fuel t [.slice a len cap] = some x) (i : Nat) (hi : i < len) :
    ∃ (b off n : Nat) (cs : List Value) (y : DataW H × List MemPlace), a = some ⟨b, off, none⟩ ∧ b < w.heap.size ∧ cs.length = c ∧ (∀ j, j < c → w.cell? ⟨b, off + i * c + j, none⟩ = cs[j]?) ∧
      DataW.trod enc P w base (fun _ => true) held n e cs = some y := by
  rcases open_slice ht h with ⟨hcs, _⟩ | ⟨ad, l, cp, m, n, D, Pl, hcs, _, hl, _, hm, _, hall⟩
  · simp at hcs; omega
  · simp at hcs
    obtain ⟨rfl, rfl, rfl⟩ := hcs
    simp at hm
    subst hm
    obtain ⟨cs0, z1, z2⟩ := hall 0 (by omega)
    obtain ⟨cs1, y1, y2⟩ := hall i (by omega)
    rw [hc] at z1 y1
    obtain ⟨_, zl, zc⟩ := World.cells?_some z1
    obtain ⟨_, yl, yc⟩ := World.cells?_some y1
    have zz := zc 0 h0
    rw [List.getElem?_eq_getElem (by omega)] at zz
    simp [Addr.add] at zz
    have sp := spot_of_cell zz
    have lt := lt_of_cell zz
    generalize ad.block = b at sp lt
    generalize ad.off = off at sp
    subst sp
    refine ⟨b, off, n, cs1, _, rfl, lt, yl, fun j hj => ?_, y2⟩
    have := yc j hj
    rw [add_of_none, add_of_none] at this
    exact this

theorem ints_of {t e : TypeId} {k : IntKind} {fuel len cap : Nat} {a : Option Addr} {x : DataW H × List MemPlace} (ht : P.underlying t = some (.slice e)) (he : P.underlying e = some (.int k)) (hc : P.cellsOf e = 1)
    (h : DataW.trod enc P w base (fun _ => true) held fuel t [.slice a len cap] = some x) : ∃ Z, Ints k w a len Z := by
  have key : ∀ i, i < len → ∃ z b off, a = some ⟨b, off, none⟩ ∧ b < w.heap.size ∧ w.cell? ⟨b, off + i, none⟩ = some (.int k z) ∧ (Lit.int k z).wf = true := by
    intro i hi
    obtain ⟨b, off, n, cs, y, h1, h2, h3, h4, h5⟩ := elem_of ht hc (by omega) h i hi
    obtain ⟨z, rfl, _, hw⟩ := DataW.trod_int he h5
    exact ⟨z, b, off, h1, h2, by simpa using h4 0 (by omega), hw⟩
  obtain ⟨Z, hZ⟩ := choose_lt key
  exact ⟨Z, fun i hi => hZ i hi⟩

theorem pairs_of {t e : TypeId} {f0 f1 : Field} {k0 k1 : IntKind} {fuel len cap : Nat} {a : Option Addr} {x : DataW H × List MemPlace} (ht : P.underlying t = some (.slice e)) (he : P.underlying e = some (.struct #[f0, f1]))
    (hone : oneCellFields P #[f0, f1] = true) (hc : P.cellsOf e = 2) (u0 : P.underlying f0.type = some (.int k0)) (u1 : P.underlying f1.type = some (.int k1))
    (h : DataW.trod enc P w base (fun _ => true) held fuel t [.slice a len cap] = some x) : ∃ K N, Pairs k0 k1 w a len K N := by
  have key : ∀ i, i < len → ∃ (q : Int × Int) (b off : Nat), a = some ⟨b, off, none⟩ ∧ b < w.heap.size ∧
      w.cell? ⟨b, off + i * 2, none⟩ = some (.int k0 q.1) ∧ w.cell? ⟨b, off + i * 2 + 1, none⟩ = some (.int k1 q.2) ∧ (Lit.int k0 q.1).wf = true ∧ (Lit.int k1 q.2).wf = true := by
    intro i hi
    obtain ⟨b, off, n, cs, y, h1, h2, h3, h4, h5⟩ := elem_of ht hc (by omega) h i hi
    obtain ⟨ys, n', _, _, _, hyl, hf⟩ := DataW.trod_struct he h5
    obtain ⟨o0, c0⟩ := hone_of hone 0 f0 rfl
    obtain ⟨o1, c1⟩ := hone_of hone 1 f1 rfl
    match cs, h3 with
    | [v0, v1], _ =>
      have g0 := hf 0 f0 rfl
      have g1 := hf 1 f1 rfl
      rw [o0, c0] at g0
      rw [o1, c1] at g1
      match ys, hyl with
      | [y0, y1], _ =>
        obtain ⟨z0, e0, _, w0⟩ := DataW.trod_int u0 g0
        obtain ⟨z1, e1, _, w1⟩ := DataW.trod_int u1 g1
        simp at e0 e1
        subst e0 e1
        exact ⟨(z0, z1), b, off, h1, h2, by simpa using h4 0 (by omega), by simpa using h4 1 (by omega), w0, w1⟩
  obtain ⟨Q, hQ⟩ := choose_lt key
  exact ⟨fun i => (Q i).1, fun i => (Q i).2, fun i hi => hQ i hi⟩
end
end Go.Proofs.YtgiekhohhogdiaaDoor
