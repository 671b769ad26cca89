/- Contracts of package frame: what makes a part. -/
import Derived.Test.YtgiekhohhogdiaaDoorRfF
import Derived.Laws.NewBlocks
import Derived.Laws.EntriesVeiled
namespace Go.Proofs.YtgiekhohhogdiaaDoor
open Go Go.RowKit
set_option linter.unusedVariables false
set_option linter.unusedSimpArgs false

def fnv (k : Nat) (cap : Array Value) : Value := .func (.func k) #[] cap
def pv (q : Nat) : Value := .pointer (some ⟨q, 0, none⟩)
/-- The function that names a field. -/
def FldFn : Fld → Nat → Prop
  | .st, k => k = 38
  | .mx, k => k = 39 ∨ k = 40
  | .cd, k => k = 41
  | .off, k => k = 42
  | .sq, k => k = 43
  | .dl, k => k = 44
/-- The three functions that stand for the part p; what they capture lies in blocks from B on. -/
def PartV (w : World) (B : Nat) : Pt → Value → Value → Value → Prop
  | .int most x, v0, v1, v2 => ∃ fk q1 q2, FldFn x fk ∧ B ≤ q1 ∧ B ≤ q2 ∧ v0 = fnv 62 #[pv q1, pv q2] ∧ v1 = fnv 64 #[pv q1] ∧ v2 = fnv 66 #[pv q1] ∧
      w.cell? ⟨q1, 0, none⟩ = some (fnv fk #[]) ∧ w.cell? ⟨q2, 0, none⟩ = some (.int .i64 most)
  | .text least most, v0, v1, v2 => ∃ q1 q2, B ≤ q1 ∧ B ≤ q2 ∧ v0 = fnv 67 #[pv q1, pv q2] ∧ v1 = fnv 68 #[] ∧ v2 = fnv 70 #[] ∧
      w.cell? ⟨q1, 0, none⟩ = some (.int .i64 least) ∧ w.cell? ⟨q2, 0, none⟩ = some (.int .i64 most)
  | .chal, v0, v1, v2 => ∃ q1 q2, B ≤ q1 ∧ B ≤ q2 ∧ v0 = fnv 71 #[pv q1, pv q2] ∧ v1 = fnv 72 #[pv q2, pv q1] ∧ v2 = fnv 73 #[pv q1] ∧
      w.cell? ⟨q1, 0, none⟩ = some (fnv 47 #[]) ∧ w.cell? ⟨q2, 0, none⟩ = some (.int .i64 8)
  | .cidp, v0, v1, v2 => ∃ q1 q2, B ≤ q1 ∧ B ≤ q2 ∧ v0 = fnv 71 #[pv q1, pv q2] ∧ v1 = fnv 72 #[pv q2, pv q1] ∧ v2 = fnv 73 #[pv q1] ∧
      w.cell? ⟨q1, 0, none⟩ = some (fnv 48 #[]) ∧ w.cell? ⟨q2, 0, none⟩ = some (.int .i64 8)
  | .uni, v0, v1, v2 => v0 = fnv 74 #[] ∧ v1 = fnv 75 #[] ∧ v2 = fnv 76 #[]
  | .retire, v0, v1, v2 => ∃ q1, B ≤ q1 ∧ v0 = fnv 78 #[] ∧ v1 = fnv 64 #[pv q1] ∧ v2 = fnv 66 #[pv q1] ∧
      w.cell? ⟨q1, 0, none⟩ = some (fnv 77 #[])
  | .ranges, v0, v1, v2 => v0 = fnv 49 #[] ∧ v1 = fnv 50 #[] ∧ v2 = fnv 51 #[]
theorem cell_only {S : List Nat} {w w' : World} (ho : Only S w w') {q : Nat} {v : Value} (h : w.cell? ⟨q, 0, none⟩ = some v) (hq : q ∉ S) : w'.cell? ⟨q, 0, none⟩ = some v :=
  (ho.cell (p := ⟨q, 0, none⟩) (World.block_lt_of_cell? _ _ h) hq).trans h
theorem PartV.keep {w w' : World} {B : Nat} {p : Pt} {v0 v1 v2 : Value} (h : PartV w B p v0 v1 v2) {S : List Nat} (ho : Only S w w') (hS : ∀ k ∈ S, k < B ∨ w.heap.size ≤ k) : PartV w' B p v0 v1 v2 := by
  have key : ∀ (q : Nat) (v : Value), B ≤ q → w.cell? ⟨q, 0, none⟩ = some v → w'.cell? ⟨q, 0, none⟩ = some v := fun q v hq h => cell_only ho h (fun hm => by
    have h1 := hS q hm
    have h2 := World.block_lt_of_cell? _ _ h
    simp only at h2
    omega)
  cases p with
  | int most x => obtain ⟨fk, q1, q2, a, b, c, d, e, f, g, h⟩ := h; exact ⟨fk, q1, q2, a, b, c, d, e, f, key _ _ b g, key _ _ c h⟩
  | text least most => obtain ⟨q1, q2, b, c, d, e, f, g, h⟩ := h; exact ⟨q1, q2, b, c, d, e, f, key _ _ b g, key _ _ c h⟩
  | chal => obtain ⟨q1, q2, b, c, d, e, f, g, h⟩ := h; exact ⟨q1, q2, b, c, d, e, f, key _ _ b g, key _ _ c h⟩
  | cidp => obtain ⟨q1, q2, b, c, d, e, f, g, h⟩ := h; exact ⟨q1, q2, b, c, d, e, f, key _ _ b g, key _ _ c h⟩
  | uni => exact h
  | retire => obtain ⟨q1, b, d, e, f, g⟩ := h; exact ⟨q1, b, d, e, f, key _ _ b g⟩
  | ranges => exact h
/-- What a maker of a part returns. -/
def MadeP (p : Pt) (w : World) (e : Ending) (w' : World) : Prop := ∃ v0 v1 v2, e = .returned (.agg #[v0, v1, v2]) ∧ PartV w' w.heap.size p v0 v1 v2 ∧ (∃ f0 c0 f1 c1 f2 c2, v0 = .func (.func f0) #[] c0 ∧ v1 = .func (.func f1) #[] c1 ∧ v2 = .func (.func f2) #[] c2) ∧ Only [] w w'
/- The makers. -/
theorem cellA (w : World) (cs : Array Value) (t : TypeId) (o2 o3 : Obj) : (((w.alloc (.cells cs t)).alloc o2).alloc o3).cell? ⟨w.heap.size, 0, none⟩ = cs[0]? :=
  cell_of_row _ _ 0 cs t (0, 0) (((At.new w t cs).alloc o2).alloc o3)
theorem cellB (w : World) (cs : Array Value) (t : TypeId) (o1 o3 : Obj) : (((w.alloc o1).alloc (.cells cs t)).alloc o3).cell? ⟨w.heap.size + 1, 0, none⟩ = cs[0]? := by
  have h := (At.new (w.alloc o1) t cs).alloc o3
  have e : (w.alloc o1).heap.size = w.heap.size + 1 := by simp
  rw [e] at h
  exact cell_of_row _ _ 0 cs t (0, 0) h
set_option maxRecDepth 100000 in
set_option maxHeartbeats 1000000 in
theorem integer_c (most : Int) (fk : Nat) (x : Fld) (hx : FldFn x fk) (w : World) : Calls Tryd.prog 37 #[.int .i64 most, .func (.func fk) #[] #[]] w (MadeP (.int most x) w) := by
  have hmf : ∀ (fn : Fn) (first cap : Array Value) (w : World), (Instr.makeFunc fn first cap).run Tryd.prog w = .ok (.func fn first cap) w := fun _ _ _ _ => rfl
  go_enter Tryd.func37, Tryd.ntmps37
  go_wp2_with fail
  refine ⟨rfl, .agg #[.func (.func 62) #[] #[.pointer (some ⟨w.heap.size + 1, 0, none⟩), .pointer (some ⟨w.heap.size, 0, none⟩)], .func (.func 64) #[] #[.pointer (some ⟨w.heap.size + 1, 0, none⟩)], .func (.func 66) #[] #[.pointer (some ⟨w.heap.size + 1, 0, none⟩)]], ?_, ?_⟩
  · simp [results, Tryd.f37, go_sem]
  · refine ⟨_, _, _, rfl, ?_, ⟨_, _, _, _, _, _, rfl, rfl, rfl⟩, ?_⟩
    · refine ⟨fk, w.heap.size + 1, w.heap.size, hx, by omega, Nat.le_refl _, rfl, rfl, rfl, ?_, ?_⟩
      · exact cellB w _ _ _ _
      · exact cellA w _ _ _ _
    · exact (((Only.refl [] w).alloc _).alloc _).alloc _
set_option maxRecDepth 100000 in
set_option maxHeartbeats 1000000 in
theorem text_c (least most : Nat) (w : World) : Calls Tryd.prog 45 #[.int .i64 least, .int .i64 most] w (MadeP (.text least most) w) := by
  have hmf : ∀ (fn : Fn) (first cap : Array Value) (w : World), (Instr.makeFunc fn first cap).run Tryd.prog w = .ok (.func fn first cap) w := fun _ _ _ _ => rfl
  go_enter Tryd.func45, Tryd.ntmps45
  go_wp2_with fail
  refine ⟨rfl, .agg #[.func (.func 67) #[] #[.pointer (some ⟨w.heap.size, 0, none⟩), .pointer (some ⟨w.heap.size + 1, 0, none⟩)], .func (.func 68) #[] #[], .func (.func 70) #[] #[]], ?_, ?_⟩
  · simp [results, Tryd.f45, go_sem]
  · refine ⟨_, _, _, rfl, ?_, ⟨_, _, _, _, _, _, rfl, rfl, rfl⟩, ?_⟩
    · refine ⟨w.heap.size, w.heap.size + 1, Nat.le_refl _, by omega, rfl, rfl, rfl, ?_, ?_⟩
      · exact cellA w _ _ _ _
      · exact cellB w _ _ _ _
    · exact (((Only.refl [] w).alloc _).alloc _).alloc _
set_option maxRecDepth 100000 in
set_option maxHeartbeats 1000000 in
theorem chal_c (w : World) : Calls Tryd.prog 46 #[.int .i64 8, .func (.func 47) #[] #[]] w (MadeP (.chal) w) := by
  have hmf : ∀ (fn : Fn) (first cap : Array Value) (w : World), (Instr.makeFunc fn first cap).run Tryd.prog w = .ok (.func fn first cap) w := fun _ _ _ _ => rfl
  go_enter Tryd.func46, Tryd.ntmps46
  go_wp2_with fail
  refine ⟨rfl, .agg #[.func (.func 71) #[] #[.pointer (some ⟨w.heap.size + 1, 0, none⟩), .pointer (some ⟨w.heap.size, 0, none⟩)], .func (.func 72) #[] #[.pointer (some ⟨w.heap.size, 0, none⟩), .pointer (some ⟨w.heap.size + 1, 0, none⟩)], .func (.func 73) #[] #[.pointer (some ⟨w.heap.size + 1, 0, none⟩)]], ?_, ?_⟩
  · simp [results, Tryd.f46, go_sem]
  · refine ⟨_, _, _, rfl, ?_, ⟨_, _, _, _, _, _, rfl, rfl, rfl⟩, ?_⟩
    · refine ⟨w.heap.size + 1, w.heap.size, by omega, Nat.le_refl _, rfl, rfl, rfl, ?_, ?_⟩
      · exact cellB w _ _ _ _
      · exact cellA w _ _ _ _
    · exact (((Only.refl [] w).alloc _).alloc _).alloc _
set_option maxRecDepth 100000 in
set_option maxHeartbeats 1000000 in
theorem cidp_c (w : World) : Calls Tryd.prog 46 #[.int .i64 8, .func (.func 48) #[] #[]] w (MadeP (.cidp) w) := by
  have hmf : ∀ (fn : Fn) (first cap : Array Value) (w : World), (Instr.makeFunc fn first cap).run Tryd.prog w = .ok (.func fn first cap) w := fun _ _ _ _ => rfl
  go_enter Tryd.func46, Tryd.ntmps46
  go_wp2_with fail
  refine ⟨rfl, .agg #[.func (.func 71) #[] #[.pointer (some ⟨w.heap.size + 1, 0, none⟩), .pointer (some ⟨w.heap.size, 0, none⟩)], .func (.func 72) #[] #[.pointer (some ⟨w.heap.size, 0, none⟩), .pointer (some ⟨w.heap.size + 1, 0, none⟩)], .func (.func 73) #[] #[.pointer (some ⟨w.heap.size + 1, 0, none⟩)]], ?_, ?_⟩
  · simp [results, Tryd.f46, go_sem]
  · refine ⟨_, _, _, rfl, ?_, ⟨_, _, _, _, _, _, rfl, rfl, rfl⟩, ?_⟩
    · refine ⟨w.heap.size + 1, w.heap.size, by omega, Nat.le_refl _, rfl, rfl, rfl, ?_, ?_⟩
      · exact cellB w _ _ _ _
      · exact cellA w _ _ _ _
    · exact (((Only.refl [] w).alloc _).alloc _).alloc _
set_option maxRecDepth 100000 in
set_option maxHeartbeats 1000000 in
theorem uni_c (w : World) : Calls Tryd.prog 52 #[] w (MadeP (.uni) w) := by
  have hmf : ∀ (fn : Fn) (first cap : Array Value) (w : World), (Instr.makeFunc fn first cap).run Tryd.prog w = .ok (.func fn first cap) w := fun _ _ _ _ => rfl
  go_enter Tryd.func52, Tryd.ntmps52
  go_wp2_with fail
  refine ⟨rfl, .agg #[.func (.func 74) #[] #[], .func (.func 75) #[] #[], .func (.func 76) #[] #[]], ?_, ?_⟩
  · simp [results, Tryd.f52, go_sem]
  · refine ⟨_, _, _, rfl, ?_, ⟨_, _, _, _, _, _, rfl, rfl, rfl⟩, ?_⟩
    · exact ⟨rfl, rfl, rfl⟩
    · exact (Only.refl [] w).alloc _
set_option maxRecDepth 100000 in
set_option maxHeartbeats 1000000 in
theorem integer_raw (most : Int) (fk : Nat) (w : World) : Calls Tryd.prog 37 #[.int .i64 most, .func (.func fk) #[] #[]] w fun e w' => e = .returned (.agg #[.func (.func 62) #[] #[.pointer (some ⟨w.heap.size + 1, 0, none⟩), .pointer (some ⟨w.heap.size, 0, none⟩)], .func (.func 64) #[] #[.pointer (some ⟨w.heap.size + 1, 0, none⟩)], .func (.func 66) #[] #[.pointer (some ⟨w.heap.size + 1, 0, none⟩)]]) ∧ w'.cell? ⟨w.heap.size + 1, 0, none⟩ = some (.func (.func fk) #[] #[]) ∧ w.heap.size + 3 ≤ w'.heap.size ∧ Only [] w w' := by
  have hmf : ∀ (fn : Fn) (first cap : Array Value) (w : World), (Instr.makeFunc fn first cap).run Tryd.prog w = .ok (.func fn first cap) w := fun _ _ _ _ => rfl
  go_enter Tryd.func37, Tryd.ntmps37
  go_wp2_with fail
  refine ⟨rfl, .agg #[.func (.func 62) #[] #[.pointer (some ⟨w.heap.size + 1, 0, none⟩), .pointer (some ⟨w.heap.size, 0, none⟩)], .func (.func 64) #[] #[.pointer (some ⟨w.heap.size + 1, 0, none⟩)], .func (.func 66) #[] #[.pointer (some ⟨w.heap.size + 1, 0, none⟩)]], ?_, rfl, cellB w _ _ _ _, by simp, (((Only.refl [] w).alloc _).alloc _).alloc _⟩
  simp [results, Tryd.f37, go_sem]
set_option maxRecDepth 100000 in
set_option maxHeartbeats 1000000 in
theorem retire_c (w : World) : Calls Tryd.prog 53 #[] w (MadeP .retire w) := by
  have hmf : ∀ (fn : Fn) (first cap : Array Value) (w : World), (Instr.makeFunc fn first cap).run Tryd.prog w = .ok (.func fn first cap) w := fun _ _ _ _ => rfl
  go_enter Tryd.func53, Tryd.ntmps53
  go_wp2_with fail
  refine (integer_raw 4611686018427387903 77 _).mono ?_
  rintro e w2 ⟨rfl, hc, hsz, ho⟩
  have hAr := (At.new w 80 #[.nilFunc, .nilFunc, .nilFunc]).keep ho (by simp)
  have HO := Lib.hid (((Only.refl [] w).alloc _).trans ho)
  have HC := Lib.hid hc
  have k0 : ∀ o, (w2.alloc o).cell? ⟨w.heap.size, 0, none⟩ = some .nilFunc := fun o => (hAr.alloc o).cell 0 rfl
  have k1 : ∀ o, (w2.alloc o).cell? ⟨w.heap.size, 1, none⟩ = some .nilFunc := fun o => (hAr.alloc o).cell 1 rfl
  have k2 : ∀ o, (w2.alloc o).cell? ⟨w.heap.size, 2, none⟩ = some .nilFunc := fun o => (hAr.alloc o).cell 2 rfl
  have r0 : ∀ o, (w2.alloc o).frozen? ⟨w.heap.size, 0, none⟩ = false := fun o => (hAr.alloc o).free 0
  have r1 : ∀ o, (w2.alloc o).frozen? ⟨w.heap.size, 1, none⟩ = false := fun o => (hAr.alloc o).free 1
  have r2 : ∀ o, (w2.alloc o).frozen? ⟨w.heap.size, 2, none⟩ = false := fun o => (hAr.alloc o).free 2
  have hne : w.heap.size ≠ w2.heap.size := by have := hAr.lt; omega
  clear ho hc hAr
  go_wp2_with fail
  refine ⟨rfl, .agg #[.func (.func 78) #[] #[], .func (.func 64) #[] #[.pointer (some ⟨w.heap.size + 1 + 1, 0, none⟩)], .func (.func 66) #[] #[.pointer (some ⟨w.heap.size + 1 + 1, 0, none⟩)]], ?_, ?_⟩
  · simp [results, Tryd.f53, go_sem, k0, k1, k2]
  · refine ⟨_, _, _, rfl, ⟨w.heap.size + 1 + 1, by omega, rfl, rfl, rfl, ?_⟩, ⟨_, _, _, _, _, _, rfl, rfl, rfl⟩, (((HO.out.alloc _).putn (Nat.le_refl _) _).putn (Nat.le_refl _) _).putn (Nat.le_refl _) _⟩
    exact cell_only ((((Only.refl [w.heap.size] w2).alloc _).put (by simp) _).put (by simp) _ |>.put (by simp) _) (by simpa [fnv] using HC.out) (by simp; omega)
end Go.Proofs.YtgiekhohhogdiaaDoor
