/- Slicing, copying within and clearing a block of bytes or of marks. -/
import Derived.Test.YtnnmmmeppbdlnaaDoorSnB
import Derived.Laws.CopyRow
import Derived.Laws.BytesArg
import Derived.Lib.SliceRun
namespace Go.Proofs.YtnnmmmeppbdlnaaDoor
open Go Go.RowKit
set_option linter.unusedVariables false
set_option linter.unusedSectionVars false
set_option linter.unusedSimpArgs false

/-- Where a slice of block g from c on begins: an empty end keeps the block's beginning. -/
def slA (g c n : Nat) : Option Addr := if n = c then some ⟨g, 0, none⟩ else some ⟨g, c, none⟩
theorem slice_at {P : Program} (T : TypeId) (ht : P.underlying T = some (.slice (P.elem T))) (hs : (P.info? (P.elem T)).map (·.size) = some 1) (g n c : Nat) (hc : c ≤ n) (w : World) :
    (Instr.slice T (.slice (some ⟨g, 0, none⟩) n n) (some (.int .i64 c)) none none).run P w = .ok (.slice (slA g c n) (n - c) (n - c)) w := by
  rw [run_slice_l w T _ n n ht .i64 c (by omega) (by omega)]
  cases hq : P.info? (P.elem T) with
  | none => simp [hq] at hs
  | some i =>
    have hi : i.size = 1 := by simpa [hq] using hs
    simp [sizeOf, typeInfo, hq, hi, sliced, slA, Result.andThen, Addr.add]
    split <;> simp
    intro h; omega
theorem copy_at {P : Program} (T e : TypeId) (hu : P.underlying T = some (.slice e)) (hs : (P.info? e).map (·.size) = some 1) {w : World} {g n c : Nat} {t : TypeId} {cs : Array Value} (hA : At w g t cs) (hn : cs.size = n) (hc : c ≤ n) (h1 : ∀ v ∈ cs.toList, v.oneCell' = true) :
    ∃ w', (∀ ty, (Builtin.copy_ #[T, T] ty #[.slice (some ⟨g, 0, none⟩) n n, .slice (slA g c n) (n - c) (n - c)]).run P w = .ok (goInt (n - c : Nat)) w') ∧ At w' g t (cs.toList.drop c ++ cs.toList.drop (n - c)).toArray ∧ Only [g] w w' := by
  subst hn
  have hl : (cs.toList.drop c).length = cs.size - c := by simp
  refine ⟨w.setRow g (cs.toList.drop c ++ cs.toList.drop (cs.size - c)).toArray, fun ty => ?_, setRow_heap w g cs _ t (0, 0) hA, rfl, rfl, rfl, by simp [World.setRow], fun k _ hk => setRow_other w g k _ (by simpa using hk)⟩
  have key := fun a hsrc => run_copy_row (P := P) w T T ty e g 0 cs.size cs.size a (cs.size - c) (cs.size - c) cs t (cs.toList.drop c) hu hs hA (by rw [hl]; simp [Nat.min_def]) hsrc (by rw [hl]; omega) (fun v hv => h1 v (List.mem_of_mem_drop hv))
  rw [hl] at key
  simp only [List.take_zero, List.nil_append, Nat.zero_add] at key
  unfold slA
  by_cases e0 : cs.size = c
  · rw [if_pos e0]
    exact key _ (fun j v hj => by
      have : j < (cs.toList.drop c).length := (List.getElem?_eq_some_iff.1 hj).1
      omega)
  · rw [if_neg e0]
    refine key _ (fun j v hj => ?_)
    have hp : (⟨g, c, none⟩ : Addr).add j = ⟨g, c + j, none⟩ := by unfold Addr.add; split <;> simp_all
    rw [hp]
    refine hA.cell (c + j) ?_
    rw [List.getElem?_drop] at hj
    simpa using hj
theorem setCells_at (g : Nat) (t : TypeId) : ∀ (vs : List Value) (o : Nat) (cs : Array Value) (w : World), At w g t cs → o + vs.length ≤ cs.size →
    ∃ cs', At (w.setCells g o vs) g t cs' ∧ cs'.size = cs.size ∧ (∀ k, cs'[k]? = if o ≤ k ∧ k < o + vs.length then vs[k - o]? else cs[k]?) ∧ Only [g] w (w.setCells g o vs)
  | [], o, cs, w, h, _ => ⟨cs, h, rfl, fun k => by rw [if_neg (by simp)], Only.refl _ _⟩
  | v :: vs, o, cs, w, h, hl => by
    simp only [List.length_cons] at hl
    obtain ⟨cs', h1, h2, h3, h4⟩ := setCells_at g t vs (o + 1) (cs.setIfInBounds o v) (w.setCell ⟨g, o, none⟩ v) (h.set o v rfl) (by simp; omega)
    refine ⟨cs', h1, by simpa using h2, fun k => ?_, (Only.put (g := g) (Only.refl _ _) (by simp) _).trans h4⟩
    rw [h3 k]
    simp only [List.length_cons]
    by_cases e : k = o
    · subst e
      rw [if_neg (by omega), if_pos (by omega), Array.getElem?_setIfInBounds, if_pos rfl, if_pos (by omega)]
      simp
    · by_cases e2 : o + 1 ≤ k ∧ k < o + 1 + vs.length
      · rw [if_pos e2, if_pos (by omega)]
        obtain ⟨j, rfl⟩ : ∃ j, k = o + 1 + j := ⟨k - (o + 1), by omega⟩
        rw [show o + 1 + j - (o + 1) = j by omega, show o + 1 + j - o = j + 1 by omega]
        simp
      · rw [if_neg e2, if_neg (by omega), Array.getElem?_setIfInBounds, if_neg (fun h => e h.symm)]
theorem clear_at {P : Program} (T e : TypeId) (z : Value) (hu : P.underlying T = some (.slice e)) (hv : ∀ w, (zeroValue e).run P w = .ok z w) (hz : z.cells = #[z]) (hz1 : z.oneCell' = true) {w : World} {g n m : Nat} {t : TypeId} {cs : Array Value} (hA : At w g t cs) (hn : cs.size = n) (hm : m ≤ n) :
    ∃ w' cs', (∀ ty, (Builtin.clear_ #[T] ty #[.slice (slA g m n) (n - m) (n - m)]).run P w = .ok (.tuple #[]) w') ∧ At w' g t cs' ∧ cs'.size = n ∧ (∀ k, cs'[k]? = if m ≤ k ∧ k < n then some z else cs[k]?) ∧ Only [g] w w' := by
  subst hn
  by_cases e0 : cs.size = m
  · refine ⟨w, cs, fun ty => ?_, hA, rfl, fun k => by rw [if_neg (by omega)], Only.refl _ _⟩
    unfold slA
    rw [if_pos e0, ← e0, Nat.sub_self]
    simp [Builtin.clear_, run_underlying hu]
  · obtain ⟨cs', h1, h2, h3, h4⟩ := setCells_at g t (List.replicate (cs.size - m) z) m cs w hA (by simp; omega)
    refine ⟨_, cs', fun ty => ?_, h1, h2, fun k => ?_, h4⟩
    · unfold slA
      rw [if_neg e0]
      exact Lib.run_clear_slice (P := P) w T e ty z hu hv hz hz1 g m (cs.size - m) (cs.size - m) (by omega) (fun j hj => by
        rw [hA.cell (m + j) (Array.getElem?_eq_getElem (by omega))]; rfl) (fun j hj => hA.free _)
    · rw [h3 k]
      simp only [List.length_replicate]
      by_cases c : m ≤ k ∧ k < cs.size
      · rw [if_pos c, if_pos (by omega)]
        simp [List.getElem?_replicate]
        omega
      · rw [if_neg c, if_neg (by omega)]
theorem A_size8 : (Tryd.prog.info? 5).map (·.size) = some 1 := by kernel_rfl
theorem A_sizeB : (Tryd.prog.info? 4).map (·.size) = some 1 := by kernel_rfl
theorem A_zero8 (w : World) : (zeroValue 5).run Tryd.prog w = .ok (.int .u8 0) w := by kernel_rfl
theorem A_zeroB (w : World) : (zeroValue 4).run Tryd.prog w = .ok (.bool false) w := by kernel_rfl
section
variable {w : World} {g n : Nat} {B : Nat → UInt8} {H : Nat → Bool}
set_option maxRecDepth 10000 in
theorem slice_b (c : Nat) (hc : c ≤ n) (w : World) : (Instr.slice 39 (.slice (some ⟨g, 0, none⟩) n n) (some (.int .i64 c)) none none).run Tryd.prog w = .ok (.slice (slA g c n) (n - c) (n - c)) w :=
  slice_at _ Tryd.underlying39 A_size8 g n c hc w
set_option maxRecDepth 10000 in
theorem slice_h (c : Nat) (hc : c ≤ n) (w : World) : (Instr.slice 40 (.slice (some ⟨g, 0, none⟩) n n) (some (.int .i64 c)) none none).run Tryd.prog w = .ok (.slice (slA g c n) (n - c) (n - c)) w :=
  slice_at _ Tryd.underlying40 A_sizeB g n c hc w
theorem drop_get (cs : Array Value) (c k : Nat) (hc : c ≤ cs.size) (hk : k < cs.size) : (cs.toList.drop c ++ cs.toList.drop (cs.size - c)).toArray[k]? = if k + c < cs.size then cs[k + c]? else cs[k]? := by
  by_cases e : k + c < cs.size
  · rw [if_pos e]
    simp only [List.getElem?_toArray]
    rw [List.getElem?_append_left (by simp; omega), List.getElem?_drop]
    simp [Nat.add_comm]
  · rw [if_neg e]
    simp only [List.getElem?_toArray]
    rw [List.getElem?_append_right (by simp; omega), List.getElem?_drop]
    simp only [List.length_drop, Array.length_toList]
    rw [show cs.size - c + (k - (cs.size - c)) = k by omega]
    simp
theorem copy_b (h : RowB w g n B) (c : Nat) (hc : c ≤ n) :
    ∃ w', (∀ ty, (Builtin.copy_ #[39, 39] ty #[.slice (some ⟨g, 0, none⟩) n n, .slice (slA g c n) (n - c) (n - c)]).run Tryd.prog w = .ok (goInt (n - c : Nat)) w') ∧ RowB w' g n (fun k => if k + c < n then B (k + c) else B k) ∧ Only [g] w w' := by
  obtain ⟨cs, a, b, d⟩ := h
  obtain ⟨w', e1, e2, e3⟩ := copy_at (P := Tryd.prog) 39 5 Tryd.underlying39 A_size8 a b hc (fun v hv => by
    obtain ⟨i, hi, rfl⟩ := List.getElem_of_mem hv
    have hi' : i < cs.size := by simpa using hi
    have := d i (by omega)
    rw [Array.getElem?_eq_getElem hi'] at this
    simp at this
    simp [this, Value.oneCell'])
  subst b
  refine ⟨w', e1, ⟨_, e2, by simp, fun k hk => ?_⟩, e3⟩
  rw [drop_get cs c k hc hk]
  by_cases e : k + c < cs.size
  · rw [if_pos e]; simp only [if_pos e]; exact d _ e
  · rw [if_neg e]; simp only [if_neg e]; exact d _ hk
theorem copy_h (h : RowH w g n H) (c : Nat) (hc : c ≤ n) :
    ∃ w', (∀ ty, (Builtin.copy_ #[40, 40] ty #[.slice (some ⟨g, 0, none⟩) n n, .slice (slA g c n) (n - c) (n - c)]).run Tryd.prog w = .ok (goInt (n - c : Nat)) w') ∧ RowH w' g n (fun k => if k + c < n then H (k + c) else H k) ∧ Only [g] w w' := by
  obtain ⟨cs, a, b, d⟩ := h
  obtain ⟨w', e1, e2, e3⟩ := copy_at (P := Tryd.prog) 40 4 Tryd.underlying40 A_sizeB a b hc (fun v hv => by
    obtain ⟨i, hi, rfl⟩ := List.getElem_of_mem hv
    have hi' : i < cs.size := by simpa using hi
    have := d i (by omega)
    rw [Array.getElem?_eq_getElem hi'] at this
    simp at this
    simp [this, Value.oneCell'])
  subst b
  refine ⟨w', e1, ⟨_, e2, by simp, fun k hk => ?_⟩, e3⟩
  rw [drop_get cs c k hc hk]
  by_cases e : k + c < cs.size
  · rw [if_pos e]; simp only [if_pos e]; exact d _ e
  · rw [if_neg e]; simp only [if_neg e]; exact d _ hk
theorem clear_b (h : RowB w g n B) (m : Nat) (hm : m ≤ n) :
    ∃ w', (∀ ty, (Builtin.clear_ #[39] ty #[.slice (slA g m n) (n - m) (n - m)]).run Tryd.prog w = .ok (.tuple #[]) w') ∧ RowB w' g n (fun k => if k < m then B k else 0) ∧ Only [g] w w' := by
  obtain ⟨cs, a, b, d⟩ := h
  obtain ⟨w', cs', e1, e2, e3, e4, e5⟩ := clear_at (P := Tryd.prog) 39 5 (.int .u8 0) Tryd.underlying39 A_zero8 rfl rfl a b hm
  refine ⟨w', e1, ⟨cs', e2, e3, fun k hk => ?_⟩, e5⟩
  rw [e4 k]
  by_cases e : k < m
  · rw [if_neg (by omega)]; simp only [if_pos e]; exact d _ hk
  · rw [if_pos (by omega)]; simp only [if_neg e]; rfl
theorem clear_h (h : RowH w g n H) (m : Nat) (hm : m ≤ n) :
    ∃ w', (∀ ty, (Builtin.clear_ #[40] ty #[.slice (slA g m n) (n - m) (n - m)]).run Tryd.prog w = .ok (.tuple #[]) w') ∧ RowH w' g n (fun k => if k < m then H k else false) ∧ Only [g] w w' := by
  obtain ⟨cs, a, b, d⟩ := h
  obtain ⟨w', cs', e1, e2, e3, e4, e5⟩ := clear_at (P := Tryd.prog) 40 4 (.bool false) Tryd.underlying40 A_zeroB rfl rfl a b hm
  refine ⟨w', e1, ⟨cs', e2, e3, fun k hk => ?_⟩, e5⟩
  rw [e4 k]
  by_cases e : k < m
  · rw [if_neg (by omega)]; simp only [if_pos e]; exact d _ hk
  · rw [if_pos (by omega)]; simp only [if_neg e]
end
/-- A string of the bytes of a list. -/
def strB (l : List UInt8) : ByteArray := ⟨l.toArray⟩
theorem strB_size (l : List UInt8) : (strB l).size = l.length := by simp [strB, ByteArray.size]
theorem strB_list (l : List UInt8) : (strB l).data.toList = l := by simp [strB]
theorem strOf_bytes (l : List UInt8) : strOfNums (l.map fun u => (u.toNat : Int)) = strB l := by
  simp only [strOfNums, strB, List.map_map]
  congr 2
  have : ((fun n : Int => UInt8.ofNat n.toNat) ∘ fun u : UInt8 => (u.toNat : Int)) = id := by funext u; simp
  rw [this]; simp
theorem conv_b {w : World} {g n : Nat} {B : Nat → UInt8} (h : RowB w g n B) (c cap : Nat) (hc : c ≤ n) : (convert 39 9 (.slice (some ⟨g, 0, none⟩) c cap)).run Tryd.prog w = .ok (.string (strB ((List.range c).map B))) w := by
  have := run_convert_bytes_arg (P := Tryd.prog) w 39 5 Tryd.underlying39 Tryd.underlying5 g 0 c cap (((List.range c).map B).map fun u => (u.toNat : Int)) (by simp) (fun i hi => by
    rw [Nat.zero_add, h.cell i (by omega)]
    simp [List.getD_eq_getElem?_getD, hi]) 9 Tryd.underlying9
  rw [strOf_bytes] at this
  exact this
end Go.Proofs.YtnnmmmeppbdlnaaDoor
