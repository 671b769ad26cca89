/- The table of parts as a map literal whose order is drawn: an invariant law for a region, and the invariant. -/
import Derived.Test.YtgiekhohhogdiaaDoorRfG
import Derived.Test.YtgiekhohhogdiaaDoorRfA
import Derived.Deep.RegionHeld3
import Derived.WideMake
import Derived.Deep.CutRange
import Derived.Carry
namespace Go.Proofs.YtgiekhohhogdiaaDoor
open Go Go.RowKit
set_option linter.unusedVariables false
set_option linter.unusedSimpArgs false

/-- A region in whatever order, by an invariant. -/
theorem wpAny_inv {P : Program} {md : Region.Mode} {ops : Array Oper} {Q : Exit → Act → World → Prop} (I : Array Bool → Act → World → Prop)
    (step : ∀ listed a w i, I listed a w → i ∈ Region.ready md ops listed → wpOp P ops Q i (fun a' w' => I (listed.setIfInBounds i true) a' w') a w)
    (fin : ∀ listed a w, I listed a w → Region.ready md ops listed = [] → Q .normal a w)
    (cnt : Array Bool → Nat) (hc : ∀ listed i, i ∈ Region.ready md ops listed → cnt (listed.setIfInBounds i true) < cnt listed) :
    ∀ fuel listed a w, I listed a w → cnt listed ≤ fuel → wpAny P md ops Q fuel listed a w := by
  intro fuel
  induction fuel with
  | zero =>
    intro listed a w h hf
    have hr : Region.ready md ops listed = [] := by
      cases hq : Region.ready md ops listed with
      | nil => rfl
      | cons i r => have := hc listed i (by rw [hq]; simp); omega
    exact ⟨hr, fin _ _ _ h hr⟩
  | succ fuel ih =>
    intro listed a w h hf
    exact ⟨fun hr => fin _ _ _ h hr, fun i hi => wpOp_mono (fun a' w' h' => ih _ _ _ h' (by have := hc listed i hi; omega)) (step _ _ _ _ h hi)⟩
theorem ready_out {md : Region.Mode} {ops : Array Oper} {listed : Array Bool} {i : Nat} (h : i ∈ Region.ready md ops listed) : i < ops.size ∧ listed.getD i true = false ∧ ∀ o, ops[i]? = some o → ∀ e ∈ o.after.toList, Region.binds md e = true → listed.getD e.on false = true := by
  unfold Region.ready at h
  obtain ⟨h1, h2⟩ := List.mem_filter.1 h
  rw [Bool.and_eq_true] at h2
  refine ⟨List.mem_range.1 h1, by simpa using h2.1, fun o ho e he hb => ?_⟩
  have h3 := h2.2
  rw [ho] at h3
  simp only [Option.map_some, Option.getD_some] at h3
  have h4 := (Array.all_eq_true_iff_forall_mem.1 h3) e (by simpa using he)
  rw [hb] at h4
  simpa using h4
/-- How many have not come up. -/
def left (listed : Array Bool) : Nat := (listed.toList.filter (fun b => !b)).length
theorem left_set {listed : Array Bool} {i : Nat} (h : listed.getD i true = false) : left (listed.setIfInBounds i true) < left listed := by
  have hi : i < listed.size := by
    rcases Nat.lt_or_ge i listed.size with x | x
    · exact x
    · simp [Array.getD, Nat.not_lt.2 x] at h
  have hv : listed[i] = false := by simpa [Array.getD, hi] using h
  unfold left
  simp only [Array.toList_setIfInBounds]
  have key : ∀ (l : List Bool) (i : Nat) (hi : i < l.length), l[i] = false → ((l.set i true).filter (fun b => !b)).length < (l.filter (fun b => !b)).length := by
    intro l
    induction l with
    | nil => intro i hi; simp at hi
    | cons x l ih =>
      intro i hi hv
      cases i with
      | zero => simp at hv; subst hv; simp
      | succ i =>
        have := ih i (by simpa using hi) (by simpa using hv)
        cases x <;> simp <;> omega
  exact key listed.toList i (by simpa using hi) (by simpa using hv)
/-- A value that stands for the part p. -/
def PV (w : World) (B : Nat) (p : Pt) (v : Value) : Prop := ∃ f0 c0 f1 c1 f2 c2, v = .agg #[.func (.func f0) #[] c0, .func (.func f1) #[] c1, .func (.func f2) #[] c2] ∧ PartV w B p (.func (.func f0) #[] c0) (.func (.func f1) #[] c1) (.func (.func f2) #[] c2)
/-- Every block of cells stands. -/
def Keeps (w w' : World) : Prop := w.heap.size ≤ w'.heap.size ∧ ∀ (k : Nat) (cs : Array Value) (t : TypeId) (fz : Nat × Nat), w.heap[k]? = some (Obj.cells cs t fz) → w'.heap[k]? = some (Obj.cells cs t fz)
theorem Keeps.refl (w : World) : Keeps w w := ⟨Nat.le_refl _, fun _ _ _ _ h => h⟩
theorem Keeps.of_only {w w' : World} (h : Only [] w w') : Keeps w w' := ⟨h.size, fun k cs t fz hk => (h.block k (Array.getElem?_eq_some_iff.1 hk).1 (by simp)).trans hk⟩
theorem Keeps.put {w : World} {r : Nat} {es : Array MapEntry} {c c' : Nat} {es' : Array MapEntry} (h : w.heap[r]? = some (.map es c)) : Keeps w (w.putObj r (.map es' c')) := by
  refine ⟨by simp, fun k cs t fz hk => ?_⟩
  rw [World.putObj_heap_other (fun e => by subst e; rw [h] at hk; cases hk)]
  exact hk
theorem Keeps.cell {w w' : World} (h : Keeps w w') {q : Nat} {v : Value} (hc : w.cell? ⟨q, 0, none⟩ = some v) : w'.cell? ⟨q, 0, none⟩ = some v := by
  unfold World.cell? at hc ⊢
  cases hq : w.heap[q]? with
  | none => simp [hq] at hc
  | some o =>
    cases o with
    | cells cs t fz => rw [h.2 q cs t fz hq]; rw [hq] at hc; exact hc
    | _ => simp [hq] at hc
theorem PartV.keeps {w w' : World} {B : Nat} {p : Pt} {v0 v1 v2 : Value} (h : PartV w B p v0 v1 v2) (k : Keeps w w') : PartV w' B p v0 v1 v2 := by
  cases p with
  | int most x => obtain ⟨fk, q1, q2, a, b, c, d, e, f, g, h⟩ := h; exact ⟨fk, q1, q2, a, b, c, d, e, f, k.cell g, k.cell h⟩
  | text least most => obtain ⟨q1, q2, b, c, d, e, f, g, h⟩ := h; exact ⟨q1, q2, b, c, d, e, f, k.cell g, k.cell h⟩
  | chal => obtain ⟨q1, q2, b, c, d, e, f, g, h⟩ := h; exact ⟨q1, q2, b, c, d, e, f, k.cell g, k.cell h⟩
  | cidp => obtain ⟨q1, q2, b, c, d, e, f, g, h⟩ := h; exact ⟨q1, q2, b, c, d, e, f, k.cell g, k.cell h⟩
  | uni => exact h
  | retire => obtain ⟨q1, b, d, e, f, g⟩ := h; exact ⟨q1, b, d, e, f, k.cell g⟩
  | ranges => exact h
theorem PV.keeps {w w' : World} {B : Nat} {p : Pt} {v : Value} (h : PV w B p v) (k : Keeps w w') : PV w' B p v := by
  obtain ⟨f0, c0, f1, c1, f2, c2, h1, h2⟩ := h
  exact ⟨f0, c0, f1, c1, f2, c2, h1, h2.keeps k⟩
/-- The slice v holds the functions of the parts l, three cells each. -/
def SlAt (w : World) (B : Nat) (l : List Pt) (v : Value) : Prop := ∃ g cs, v = .slice (some ⟨g, 0, none⟩) l.length l.length ∧ w.heap[g]? = some (.cells cs 80 (0, 0)) ∧
  ∀ i (hi : i < l.length), ∃ f0 c0 f1 c1 f2 c2, cs[i * 3]? = some (.func (.func f0) #[] c0) ∧ cs[i * 3 + 1]? = some (.func (.func f1) #[] c1) ∧ cs[i * 3 + 2]? = some (.func (.func f2) #[] c2) ∧
    PartV w B (l[i]'hi) (.func (.func f0) #[] c0) (.func (.func f1) #[] c1) (.func (.func f2) #[] c2)
theorem SlAt.keeps {w w' : World} {B : Nat} {l : List Pt} {v : Value} (h : SlAt w B l v) (k : Keeps w w') : SlAt w' B l v := by
  obtain ⟨g, cs, h1, h2, h3⟩ := h
  refine ⟨g, cs, h1, k.2 _ _ _ _ h2, fun i hi => ?_⟩
  obtain ⟨f0, c0, f1, c1, f2, c2, a, b, c, d⟩ := h3 i hi
  exact ⟨f0, c0, f1, c1, f2, c2, a, b, c, d.keeps k⟩
/-- The entries of a map: each key has its parts; no other key than those of S. -/
def MapOk (w : World) (B : Nat) (S : Int → Prop) (es : Array MapEntry) : Prop :=
  (∀ e ∈ es.toList, ∃ k l, e.key = .int .i64 k ∧ S k ∧ tab k = some l ∧ SlAt w B l e.val) ∧ ∀ k, S k → ∃ e ∈ es.toList, e.key = .int .i64 k
theorem MapOk.keeps {w w' : World} {B : Nat} {S : Int → Prop} {es : Array MapEntry} (h : MapOk w B S es) (k : Keeps w w') : MapOk w' B S es :=
  ⟨fun e he => by obtain ⟨x, l, a, b, c, d⟩ := h.1 e he; exact ⟨x, l, a, b, c, d.keeps k⟩, h.2⟩
theorem MapOk.push {w : World} {B : Nat} {S : Int → Prop} {es : Array MapEntry} (h : MapOk w B S es) {k : Int} {l : List Pt} {v : Value} {c : Nat} (ht : tab k = some l) (hv : SlAt w B l v) : MapOk w B (fun x => S x ∨ x = k) (es.push { key := .int .i64 k, val := v, born := c }) := by
  refine ⟨fun e he => ?_, fun x hx => ?_⟩
  · rw [Array.toList_push, List.mem_append, List.mem_singleton] at he
    rcases he with he | rfl
    · obtain ⟨x, l, a, b, c, d⟩ := h.1 e he; exact ⟨x, l, a, .inl b, c, d⟩
    · exact ⟨k, l, rfl, .inr rfl, ht, hv⟩
  · rcases hx with hx | rfl
    · obtain ⟨e, he, hk⟩ := h.2 x hx
      exact ⟨e, by rw [Array.toList_push]; simp [he], hk⟩
    · exact ⟨{ key := .int .i64 x, val := v, born := c }, by rw [Array.toList_push]; simp, rfl⟩
theorem findNow_none (k : Int) : ∀ (l : List MapEntry) (n : Nat), (∀ e ∈ l, ∃ x, e.key = .int .i64 x ∧ x ≠ k) → Instr.findNow (.int .i64) (.int .i64 k) l n = some none := by
  intro l
  induction l with
  | nil => intro n _; rfl
  | cons e l ih =>
    intro n h
    obtain ⟨x, hx, hne⟩ := h e (by simp)
    unfold Instr.findNow
    rw [hx]
    have : Instr.sameNow (.int .i64) (.int .i64 k) (.int .i64 x) = some false := by
      simp only [Instr.sameNow, if_true]
      congr 1
      exact beq_eq_false_iff_ne.2 (fun e => hne e.symm)
    rw [this]
    exact ih (n + 1) (fun e he => h e (by simp [he]))
theorem findNow_some (k : Int) (P : Value → Prop) : ∀ (l : List MapEntry) (n : Nat), (∀ e ∈ l, ∃ x, e.key = .int .i64 x ∧ (x = k → P e.val)) → (∃ e ∈ l, e.key = .int .i64 k) → ∃ j v, Instr.findNow (.int .i64) (.int .i64 k) l n = some (some (j, v)) ∧ P v := by
  intro l
  induction l with
  | nil => intro n _ h; obtain ⟨e, he, _⟩ := h; cases he
  | cons e l ih =>
    intro n h hex
    obtain ⟨x, hx, hp⟩ := h e (by simp)
    unfold Instr.findNow
    rw [hx]
    by_cases hq : x = k
    · subst hq
      have : Instr.sameNow (.int .i64) (.int .i64 x) (.int .i64 x) = some true := by simp [Instr.sameNow]
      rw [this]
      exact ⟨n, e.val, rfl, hp rfl⟩
    · have : Instr.sameNow (.int .i64) (.int .i64 k) (.int .i64 x) = some false := by
        simp only [Instr.sameNow, if_true]
        congr 1
        exact beq_eq_false_iff_ne.2 (fun e => hq e.symm)
      rw [this]
      refine ih (n + 1) (fun e he => h e (by simp [he])) ?_
      obtain ⟨e', he', hk'⟩ := hex
      rcases List.mem_cons.1 he' with rfl | he'
      · rw [hx] at hk'; cases hk'; exact absurd rfl hq
      · exact ⟨e', he', hk'⟩
theorem A_map : Tryd.prog.underlying 74 = some (.map 3 73) := by kernel_rfl
set_option maxRecDepth 100000 in
theorem ins_run {w : World} {r c : Nat} {es : Array MapEntry} {k : Int} {v : Value} (hb : w.heap[r]? = some (.map es c)) (hk : ∀ e ∈ es.toList, ∃ x, e.key = .int .i64 x ∧ x ≠ k) :
    (Instr.mapUpdate 74 (.map (some r)) (.int .i64 k) v).run Tryd.prog w = .ok () (w.putObj r (.map (es.push { key := .int .i64 k, val := v, born := c }) (c + 1))) := by
  have hu : Tryd.prog.underlying 3 = some (.int .i64) := Tryd.underlying3
  have hf := findNow_none k es.toList 0 hk
  have hc : (Instr.checkKey false 10000 3 (.int .i64 k)).run Tryd.prog w = .ok () w := MapKept.run_checkKey (k := .int .i64 k) hu (show MapKept.IsKey (.int .i64) (.int .i64 k) from rfl) false 9999
  simp [Instr.mapUpdate, run_underlying A_map, MapKept.run_getObj_map hb, hc, MapKept.run_findKey hu hf, MapKept.run_setObj_map _ hb, Result.andThen, World.putObj]
set_option maxRecDepth 100000 in
theorem look_run {w : World} {r c : Nat} {es : Array MapEntry} {k : Int} {j : Nat} {v : Value} (hb : w.heap[r]? = some (.map es c)) (hf : Instr.findNow (.int .i64) (.int .i64 k) es.toList 0 = some (some (j, v))) (ok : Bool) :
    (Instr.lookup 74 (.map (some r)) (.int .i64 k) ok).run Tryd.prog w = .ok (if ok then .tuple #[v, .bool true] else v) w := by
  have hu : Tryd.prog.underlying 3 = some (.int .i64) := Tryd.underlying3
  have hc : (Instr.checkKey es.isEmpty 10000 3 (.int .i64 k)).run Tryd.prog w = .ok () w := MapKept.run_checkKey (k := .int .i64 k) hu (show MapKept.IsKey (.int .i64) (.int .i64 k) from rfl) _ 9999
  simp [Instr.lookup, run_underlying A_map, MapKept.run_getObj_map hb, hc, MapKept.run_findKey hu hf, Result.andThen]
set_option maxRecDepth 100000 in
theorem look_no {w : World} {r c : Nat} {es : Array MapEntry} {k : Int} (hb : w.heap[r]? = some (.map es c)) (hf : Instr.findNow (.int .i64) (.int .i64 k) es.toList 0 = some none) (ok : Bool) :
    (Instr.lookup 74 (.map (some r)) (.int .i64 k) ok).run Tryd.prog w = .ok (if ok then .tuple #[.slice none 0 0, .bool false] else .slice none 0 0) w := by
  have hu : Tryd.prog.underlying 3 = some (.int .i64) := Tryd.underlying3
  have hc : (Instr.checkKey es.isEmpty 10000 3 (.int .i64 k)).run Tryd.prog w = .ok () w := MapKept.run_checkKey (k := .int .i64 k) hu (show MapKept.IsKey (.int .i64) (.int .i64 k) from rfl) _ 9999
  have hz : (zeroValue 73).run Tryd.prog w = .ok (.slice none 0 0) w := by have := Tryd.zeroValue73; simp [this]
  simp [Instr.lookup, run_underlying A_map, MapKept.run_getObj_map hb, hc, MapKept.run_findKey hu hf, Result.andThen, hz]
end Go.Proofs.YtgiekhohhogdiaaDoor
/- The table of parts: the operations of the map literal, and the invariant. -/
namespace Go.Proofs.YtgiekhohhogdiaaDoor
open Go Go.RowKit
set_option linter.unusedVariables false
set_option linter.unusedSimpArgs false

/-- What a slot stands for: a part; the parts of a type. -/
def slotPt (t : Nat) : Option Pt := if 81 ≤ t then none else match t with
  | 29 => some (.int mV .dl)
  | 30 => some (.ranges)
  | 32 => some (.int mV .st)
  | 33 => some (.int mC .cd)
  | 34 => some (.int mO .mx)
  | 36 => some (.int mV .st)
  | 37 => some (.int mC .cd)
  | 39 => some (.int mO .off)
  | 40 => some (.text 0 1024)
  | 42 => some (.text 1 128)
  | 44 => some (.int mV .st)
  | 45 => some (.int mO .off)
  | 46 => some (.text 0 1024)
  | 48 => some (.int mV .mx)
  | 50 => some (.int mV .mx)
  | 52 => some (.int mV .st)
  | 53 => some (.int mV .mx)
  | 55 => some (.int mV .st)
  | 56 => some (.int mV .mx)
  | 58 => some (.uni)
  | 59 => some (.int mV .mx)
  | 61 => some (.uni)
  | 62 => some (.int mV .mx)
  | 64 => some (.int mV .sq)
  | 65 => some (.retire)
  | 66 => some (.cidp)
  | 68 => some (.int mV .sq)
  | 70 => some (.chal)
  | 72 => some (.chal)
  | 74 => some (.int mC .cd)
  | 75 => some (.text 0 64)
  | 77 => some (.int mC .cd)
  | 78 => some (.text 0 64)
  | _ => none
def slotPl (t : Nat) : Option (List Pt) := if 81 ≤ t then none else match t with
  | 26 => some []
  | 27 => some []
  | 28 => some []
  | 31 => some [.int mV .dl, .ranges]
  | 35 => some [.int mV .st, .int mC .cd, .int mO .mx]
  | 38 => some [.int mV .st, .int mC .cd]
  | 41 => some [.int mO .off, .text 0 1024]
  | 43 => some [.text 1 128]
  | 47 => some [.int mV .st, .int mO .off, .text 0 1024]
  | 49 => some [.int mV .mx]
  | 51 => some [.int mV .mx]
  | 54 => some [.int mV .st, .int mV .mx]
  | 57 => some [.int mV .st, .int mV .mx]
  | 60 => some [.uni, .int mV .mx]
  | 63 => some [.uni, .int mV .mx]
  | 67 => some [.int mV .sq, .retire, .cidp]
  | 69 => some [.int mV .sq]
  | 71 => some [.chal]
  | 73 => some [.chal]
  | 76 => some [.int mC .cd, .text 0 64]
  | 79 => some [.int mC .cd, .text 0 64]
  | _ => none
/-- The operation that writes a slot; the key that an operation inserts. -/
def opOf (t : Nat) : Nat := match t with
  | 0 => 77
  | 25 => 0
  | 26 => 1
  | 27 => 3
  | 28 => 5
  | 29 => 7
  | 30 => 8
  | 31 => 9
  | 32 => 11
  | 33 => 12
  | 34 => 13
  | 35 => 14
  | 36 => 16
  | 37 => 17
  | 38 => 18
  | 39 => 20
  | 40 => 21
  | 41 => 22
  | 42 => 24
  | 43 => 25
  | 44 => 27
  | 45 => 28
  | 46 => 29
  | 47 => 30
  | 48 => 32
  | 49 => 33
  | 50 => 35
  | 51 => 36
  | 52 => 38
  | 53 => 39
  | 54 => 40
  | 55 => 42
  | 56 => 43
  | 57 => 44
  | 58 => 46
  | 59 => 47
  | 60 => 48
  | 61 => 50
  | 62 => 51
  | 63 => 52
  | 64 => 54
  | 65 => 55
  | 66 => 56
  | 67 => 57
  | 68 => 59
  | 69 => 60
  | 70 => 62
  | 71 => 63
  | 72 => 65
  | 73 => 66
  | 74 => 68
  | 75 => 69
  | 76 => 70
  | 77 => 72
  | 78 => 73
  | 79 => 74
  | 80 => 76
  | _ => 99
def insK (i : Nat) : Option Int := match i with
  | 2 => some 0
  | 4 => some 1
  | 6 => some 30
  | 10 => some 2
  | 15 => some 4
  | 19 => some 5
  | 23 => some 6
  | 26 => some 7
  | 31 => some 8
  | 34 => some 16
  | 37 => some 20
  | 41 => some 17
  | 45 => some 21
  | 49 => some 18
  | 53 => some 22
  | 58 => some 24
  | 61 => some 25
  | 64 => some 26
  | 67 => some 27
  | 71 => some 28
  | 75 => some 29
  | _ => none
def InsIn (listed : Array Bool) (k : Int) : Prop := ∃ i, i < 78 ∧ insK i = some k ∧ listed.getD i false = true
/-- What holds while the map literal is evaluated, in whatever order. -/
structure Ivt (W : World) (B : Nat) (p : Nat → Nat) (listed : Array Bool) (a : Act) (w : World) : Prop where
  sz : listed.size = 78
  ts : a.tmps.size = 81
  df : a.defers = []
  ho : Only [] W w
  fx : ∀ j, 1 ≤ j → j ≤ 12 → a.tmps[j]? = some (pv (p j))
  pt : ∀ t q, slotPt t = some q → listed.getD (opOf t) false = true → ∃ v, a.tmps[t]? = some v ∧ PV w B q v
  pl : ∀ t l, slotPl t = some l → listed.getD (opOf t) false = true → ∃ v, a.tmps[t]? = some v ∧ SlAt w B l v
  mp : listed.getD 0 false = true → ∃ mb es c, a.tmps[25]? = some (.map (some mb)) ∧ w.heap[mb]? = some (.map es c) ∧ W.heap.size ≤ mb ∧ MapOk w B (InsIn listed) es
  m0 : listed.getD 0 false = false → ∀ i, insK i ≠ none ∨ 76 ≤ i → listed.getD i false = false
  l6 : listed.getD 76 false = true → a.tmps[80]? = a.tmps[25]?
  l7 : listed.getD 77 false = true → a.tmps[0]? = a.tmps[25]?
theorem put_get (a : Act) (d : Nat) (v : Value) (t : Nat) (hd : d < a.tmps.size) : (a.put (some d) v).tmps[t]? = if t = d then some v else a.tmps[t]? := by
  show (a.tmps.setIfInBounds d v)[t]? = _
  rw [Array.getElem?_setIfInBounds]
  by_cases h : d = t
  · subst h; simp [hd]
  · rw [if_neg h, if_neg (fun e => h e.symm)]
theorem getD_set (listed : Array Bool) (i j : Nat) (hi : i < listed.size) : (listed.setIfInBounds i true).getD j false = if j = i then true else listed.getD j false := by
  simp only [Array.getD_eq_getD_getElem?, Array.getElem?_setIfInBounds]
  by_cases h : i = j
  · subst h; simp [hi]
  · rw [if_neg h, if_neg (fun e => h e.symm)]
theorem slotPt_lt {t : Nat} {q : Pt} (h : slotPt t = some q) : t < 81 := by
  unfold slotPt at h
  by_cases c : 81 ≤ t
  · rw [if_pos c] at h; cases h
  · omega
theorem slotPl_lt {t : Nat} {q : List Pt} (h : slotPl t = some q) : t < 81 := by
  unfold slotPl at h
  by_cases c : 81 ≤ t
  · rw [if_pos c] at h; cases h
  · omega
theorem insIn_set {listed : Array Bool} {i : Nat} (hi : i < listed.size) (hn : insK i = none) (k : Int) : InsIn (listed.setIfInBounds i true) k ↔ InsIn listed k := by
  unfold InsIn
  constructor
  · rintro ⟨j, h1, h2, h3⟩
    rw [getD_set listed i j hi, if_neg (fun e => by subst e; rw [hn] at h2; cases h2)] at h3
    exact ⟨j, h1, h2, h3⟩
  · rintro ⟨j, h1, h2, h3⟩
    exact ⟨j, h1, h2, by rw [getD_set listed i j hi, if_neg (fun e => by subst e; rw [hn] at h2; cases h2)]; exact h3⟩
theorem MapOk.iff {w : World} {B : Nat} {S T : Int → Prop} {es : Array MapEntry} (h : MapOk w B S es) (e : ∀ k, T k ↔ S k) : MapOk w B T es := by
  have : T = S := funext fun k => propext (e k)
  rw [this]; exact h
section
variable {W : World} {B : Nat} {p : Nat → Nat} {listed : Array Bool} {a : Act} {w w' : World} (H : Ivt W B p listed a w)
include H
/-- An operation that yields a value. -/
theorem Ivt.val (i d : Nat) (v : Value) (hi : i < 78) (h2 : 25 < d ∧ d < 80) (h4 : insK i = none) (h5 : i ≠ 0 ∧ i ≠ 76 ∧ i ≠ 77)
    (h6 : ∀ t, t < 81 → (slotPt t ≠ none ∨ slotPl t ≠ none) → opOf t = i → t = d) (ho : Only [] w w')
    (hp : ∀ q, slotPt d = some q → PV w' B q v) (hl : ∀ l, slotPl d = some l → SlAt w' B l v) : Ivt W B p (listed.setIfInBounds i true) (a.put (some d) v) w' := by
  have hs := H.sz
  have ht := H.ts
  have hd : d < a.tmps.size := by omega
  have hk := Keeps.of_only ho
  refine ⟨by simpa using hs, by show (a.tmps.setIfInBounds d v).size = 81; simpa using ht, H.df, H.ho.trans ho, fun j j1 j2 => ?_, fun t q hq hL => ?_, fun t l hq hL => ?_, fun hL => ?_, fun hL j hj => ?_, fun hL => ?_, fun hL => ?_⟩
  · rw [put_get a d v j hd, if_neg (by omega)]; exact H.fx j j1 j2
  · rw [put_get a d v t hd]
    by_cases e : t = d
    · subst e; rw [if_pos rfl]; exact ⟨v, rfl, hp q hq⟩
    · rw [if_neg e]
      rw [getD_set listed i _ (by omega), if_neg (fun e2 => e (h6 t (slotPt_lt hq) (.inl (by rw [hq]; simp)) e2))] at hL
      obtain ⟨u, u1, u2⟩ := H.pt t q hq hL
      exact ⟨u, u1, u2.keeps hk⟩
  · rw [put_get a d v t hd]
    by_cases e : t = d
    · subst e; rw [if_pos rfl]; exact ⟨v, rfl, hl l hq⟩
    · rw [if_neg e]
      rw [getD_set listed i _ (by omega), if_neg (fun e2 => e (h6 t (slotPl_lt hq) (.inr (by rw [hq]; simp)) e2))] at hL
      obtain ⟨u, u1, u2⟩ := H.pl t l hq hL
      exact ⟨u, u1, u2.keeps hk⟩
  · rw [getD_set listed i _ (by omega), if_neg (by omega)] at hL
    obtain ⟨mb, es, c, m1, m2, m3, m4⟩ := H.mp hL
    refine ⟨mb, es, c, by rw [put_get a d v 25 hd, if_neg (by omega)]; exact m1, (ho.block mb (Array.getElem?_eq_some_iff.1 m2).1 (by simp)).trans m2, m3, (m4.keeps hk).iff (fun k => insIn_set (by omega) h4 k)⟩
  · rw [getD_set listed i _ (by omega), if_neg (by omega)] at hL
    rw [getD_set listed i _ (by omega), if_neg (fun e => by subst e; exact hj.elim (fun x => x h4) (fun x => by omega))]
    exact H.m0 hL j hj
  · rw [getD_set listed i _ (by omega), if_neg (by omega)] at hL
    rw [put_get a d v 80 hd, if_neg (by omega), put_get a d v 25 hd, if_neg (by omega)]
    exact H.l6 hL
  · rw [getD_set listed i _ (by omega), if_neg (by omega)] at hL
    rw [put_get a d v 0 hd, if_neg (by omega), put_get a d v 25 hd, if_neg (by omega)]
    exact H.l7 hL
/-- An operation that inserts a key. -/
theorem Ivt.ins (i s : Nat) (k : Int) (l : List Pt) (hi : i < 78) (hk : insK i = some k) (h5 : i ≠ 0 ∧ i ≠ 76 ∧ i ≠ 77) (hinj : ∀ j, j < 78 → insK j = some k → j = i)
    (h6 : ∀ t, t < 81 → (slotPt t ≠ none ∨ slotPl t ≠ none) → opOf t ≠ i) (hs : slotPl s = some l) (ht : tab k = some l)
    (d0 : listed.getD 0 false = true) (ds : listed.getD (opOf s) false = true) (dn : listed.getD i false = false) :
    ∃ mb v, a.eval (.tmp 25) = .map (some mb) ∧ a.eval (.tmp s) = v ∧ ∃ w', (Instr.mapUpdate 74 (.map (some mb)) (.int .i64 k) v).run Tryd.prog w = .ok () w' ∧ Ivt W B p (listed.setIfInBounds i true) a w' := by
  have hz := H.sz
  obtain ⟨mb, es, c, m1, m2, m3, m4⟩ := H.mp d0
  obtain ⟨v, v1, v2⟩ := H.pl s l hs ds
  have hfresh : ∀ e ∈ es.toList, ∃ x, e.key = .int .i64 x ∧ x ≠ k := fun e he => by
    obtain ⟨x, lx, e1, ⟨j, j1, j2, j3⟩, _⟩ := m4.1 e he
    refine ⟨x, e1, fun e2 => ?_⟩
    subst e2
    have := hinj j j1 j2
    subst this
    rw [dn] at j3; cases j3
  have hK := Keeps.put (es' := es.push { key := .int .i64 k, val := v, born := c }) (c' := c + 1) m2
  have hmb : mb < w.heap.size := (Array.getElem?_eq_some_iff.1 m2).1
  have hO : Only [] W (w.putObj mb (.map (es.push { key := .int .i64 k, val := v, born := c }) (c + 1))) :=
    ⟨H.ho.os, H.ho.tape, H.ho.output, by simpa using H.ho.size, fun q hq hn => by rw [World.putObj_heap_other (by omega)]; exact H.ho.block q hq hn⟩
  refine ⟨mb, v, by simp [Act.eval, Array.getD_eq_getD_getElem?, m1], by simp [Act.eval, Array.getD_eq_getD_getElem?, v1], _, ins_run m2 hfresh, ?_⟩
  refine ⟨by simpa using hz, H.ts, H.df, hO, H.fx, fun t q hq hL => ?_, fun t q hq hL => ?_, fun _ => ?_, fun hL j hj => ?_, fun hL => ?_, fun hL => ?_⟩
  · rw [getD_set listed i _ (by omega), if_neg (h6 t (slotPt_lt hq) (.inl (by rw [hq]; simp)))] at hL
    obtain ⟨u, u1, u2⟩ := H.pt t q hq hL
    exact ⟨u, u1, u2.keeps hK⟩
  · rw [getD_set listed i _ (by omega), if_neg (h6 t (slotPl_lt hq) (.inr (by rw [hq]; simp)))] at hL
    obtain ⟨u, u1, u2⟩ := H.pl t q hq hL
    exact ⟨u, u1, u2.keeps hK⟩
  · refine ⟨mb, _, _, m1, World.putObj_heap_same hmb, m3, ((m4.keeps hK).push ht (v2.keeps hK)).iff (fun x => ?_)⟩
    unfold InsIn
    constructor
    · rintro ⟨j, h1, h2, h3⟩
      by_cases e : j = i
      · subst e; rw [hk] at h2; cases h2; exact .inr rfl
      · rw [getD_set listed i j (by omega), if_neg e] at h3
        exact .inl ⟨j, h1, h2, h3⟩
    · rintro (⟨j, h1, h2, h3⟩ | rfl)
      · exact ⟨j, h1, h2, by rw [getD_set listed i j (by omega), h3]; simp⟩
      · exact ⟨i, hi, hk, by rw [getD_set listed i i (by omega), if_pos rfl]⟩
  · rw [getD_set listed i _ (by omega), if_neg (by omega)] at hL
    rw [d0] at hL; cases hL
  · rw [getD_set listed i _ (by omega), if_neg (by omega)] at hL; exact H.l6 hL
  · rw [getD_set listed i _ (by omega), if_neg (by omega)] at hL; exact H.l7 hL
/-- The map is made. -/
theorem Ivt.mk0 (h6 : ∀ t, t < 81 → (slotPt t ≠ none ∨ slotPl t ≠ none) → opOf t ≠ 0 ∧ t ≠ 25) (hn : insK 0 = none) (d0 : listed.getD 0 false = false) : Ivt W B p (listed.setIfInBounds 0 true) (a.put (some 25) (.map (some w.heap.size))) (w.alloc (.map #[] 0)) := by
  have hs := H.sz
  have ht := H.ts
  have hd : 25 < a.tmps.size := by omega
  have ho : Only [] w (w.alloc (.map #[] 0)) := (Only.refl [] w).alloc _
  have hk := Keeps.of_only ho
  have hno := H.m0 d0
  refine ⟨by simpa using hs, by show (a.tmps.setIfInBounds 25 _).size = 81; simpa using ht, H.df, H.ho.trans ho, fun j j1 j2 => ?_, fun t q hq hL => ?_, fun t l hq hL => ?_, fun hL => ?_, fun hL j hj => ?_, fun hL => ?_, fun hL => ?_⟩
  · rw [put_get a 25 _ j hd, if_neg (by omega)]; exact H.fx j j1 j2
  · obtain ⟨x1, x2⟩ := h6 t (slotPt_lt hq) (.inl (by rw [hq]; simp))
    rw [getD_set listed 0 _ (by omega), if_neg x1] at hL
    obtain ⟨u, u1, u2⟩ := H.pt t q hq hL
    exact ⟨u, by rw [put_get a 25 _ t hd, if_neg x2]; exact u1, u2.keeps hk⟩
  · obtain ⟨x1, x2⟩ := h6 t (slotPl_lt hq) (.inr (by rw [hq]; simp))
    rw [getD_set listed 0 _ (by omega), if_neg x1] at hL
    obtain ⟨u, u1, u2⟩ := H.pl t l hq hL
    exact ⟨u, by rw [put_get a 25 _ t hd, if_neg x2]; exact u1, u2.keeps hk⟩
  · refine ⟨w.heap.size, #[], 0, by rw [put_get a 25 _ 25 hd, if_pos rfl], by show (w.heap.push _)[w.heap.size]? = _; simp, H.ho.size, fun e he => by simp at he, fun k hk2 => ?_⟩
    obtain ⟨j, j1, j2, j3⟩ := hk2
    rw [getD_set listed 0 j (by omega), if_neg (fun e => by subst e; rw [hn] at j2; cases j2), hno j (.inl (by rw [j2]; simp))] at j3
    cases j3
  · rw [getD_set listed 0 0 (by omega), if_pos rfl] at hL; cases hL
  · rw [getD_set listed 0 _ (by omega), if_neg (by omega), hno 76 (.inr (by omega))] at hL; cases hL
  · rw [getD_set listed 0 _ (by omega), if_neg (by omega), hno 77 (.inr (by omega))] at hL; cases hL
/-- The map is handed on. -/
theorem Ivt.mv (i d s : Nat) (v : Value) (hi : (i = 76 ∧ d = 80 ∧ s = 25) ∨ (i = 77 ∧ d = 0 ∧ s = 80)) (hn : insK i = none) (h6 : ∀ t, t < 81 → (slotPt t ≠ none ∨ slotPl t ≠ none) → opOf t ≠ i ∧ t ≠ d)
    (d0 : listed.getD 0 false = true) (d6 : i = 77 → listed.getD 76 false = true) (hv : a.tmps[s]? = some v) : Ivt W B p (listed.setIfInBounds i true) (a.put (some d) v) w := by
  have hs := H.sz
  have ht := H.ts
  have hd : d < a.tmps.size := by omega
  refine ⟨by simpa using hs, by show (a.tmps.setIfInBounds d _).size = 81; simpa using ht, H.df, H.ho, fun j j1 j2 => ?_, fun t q hq hL => ?_, fun t l hq hL => ?_, fun hL => ?_, fun hL j hj => ?_, fun hL => ?_, fun hL => ?_⟩
  · rw [put_get a d _ j hd, if_neg (by omega)]; exact H.fx j j1 j2
  · obtain ⟨x1, x2⟩ := h6 t (slotPt_lt hq) (.inl (by rw [hq]; simp))
    rw [getD_set listed i _ (by omega), if_neg x1] at hL
    obtain ⟨u, u1, u2⟩ := H.pt t q hq hL
    exact ⟨u, by rw [put_get a d _ t hd, if_neg x2]; exact u1, u2⟩
  · obtain ⟨x1, x2⟩ := h6 t (slotPl_lt hq) (.inr (by rw [hq]; simp))
    rw [getD_set listed i _ (by omega), if_neg x1] at hL
    obtain ⟨u, u1, u2⟩ := H.pl t l hq hL
    exact ⟨u, by rw [put_get a d _ t hd, if_neg x2]; exact u1, u2⟩
  · obtain ⟨mb, es, c, m1, m2, m3, m4⟩ := H.mp d0
    exact ⟨mb, es, c, by rw [put_get a d _ 25 hd, if_neg (by omega)]; exact m1, m2, m3, m4.iff (fun k => insIn_set (by omega) hn k)⟩
  · rw [getD_set listed i _ (by omega), if_neg (by omega), d0] at hL; cases hL
  · rcases hi with ⟨rfl, rfl, rfl⟩ | ⟨rfl, rfl, rfl⟩
    · rw [put_get a 80 _ 80 hd, if_pos rfl, put_get a 80 _ 25 hd, if_neg (by omega), hv]
    · rw [put_get a 0 _ 80 hd, if_neg (by omega), put_get a 0 _ 25 hd, if_neg (by omega)]; exact H.l6 (d6 rfl)
  · rcases hi with ⟨rfl, rfl, rfl⟩ | ⟨rfl, rfl, rfl⟩
    · rw [getD_set listed 76 _ (by omega), if_neg (by omega)] at hL
      rw [put_get a 80 _ 0 hd, if_neg (by omega), put_get a 80 _ 25 hd, if_neg (by omega)]; exact H.l7 hL
    · rw [put_get a 0 _ 0 hd, if_pos rfl, put_get a 0 _ 25 hd, if_neg (by omega), ← hv]; exact H.l6 (d6 rfl)
end
end Go.Proofs.YtgiekhohhogdiaaDoor
/- Contracts of package frame: a block that holds a part. -/
namespace Go.Proofs.YtgiekhohhogdiaaDoor
open Go Go.RowKit
set_option linter.unusedVariables false
set_option linter.unusedSimpArgs false

/-- Block q holds the three functions of the part p. -/
def PB (w : World) (B : Nat) (p : Pt) (q : Nat) : Prop := ∃ f0 c0 f1 c1 f2 c2, At w q 80 #[.func (.func f0) #[] c0, .func (.func f1) #[] c1, .func (.func f2) #[] c2] ∧ PartV w B p (.func (.func f0) #[] c0) (.func (.func f1) #[] c1) (.func (.func f2) #[] c2)
theorem PB.keep {w w' : World} {B : Nat} {p : Pt} {q : Nat} (h : PB w B p q) {S : List Nat} (ho : Only S w w') (hS : ∀ k ∈ S, k < B ∨ w.heap.size ≤ k) (hq : q ∉ S) : PB w' B p q := by
  obtain ⟨f0, c0, f1, c1, f2, c2, h1, h2⟩ := h
  exact ⟨f0, c0, f1, c1, f2, c2, h1.keep ho hq, h2.keep ho hS⟩
theorem PB.keep0 {w w' : World} {B : Nat} {p : Pt} {q : Nat} (h : PB w B p q) (ho : Only [] w w') : PB w' B p q := h.keep ho (by simp) (by simp)
theorem PB.new {w' : World} {B C : Nat} {p : Pt} {f0 f1 f2 : Nat} {c0 c1 c2 : Array Value} (hB : B ≤ C) (h : PartV w' C p (.func (.func f0) #[] c0) (.func (.func f1) #[] c1) (.func (.func f2) #[] c2)) :
    PB (w'.alloc (.cells #[.func (.func f0) #[] c0, .func (.func f1) #[] c1, .func (.func f2) #[] c2] 80)) B p w'.heap.size := by
  have h2 := h.keep (S := []) ((Only.refl [] w').alloc (.cells #[.func (.func f0) #[] c0, .func (.func f1) #[] c1, .func (.func f2) #[] c2] 80)) (by simp)
  refine ⟨f0, c0, f1, c1, f2, c2, At.new _ _ _, ?_⟩
  cases p with
  | int most x => obtain ⟨fk, q1, q2, a, b, c, r⟩ := h2; exact ⟨fk, q1, q2, a, by omega, by omega, r⟩
  | text least most => obtain ⟨q1, q2, b, c, r⟩ := h2; exact ⟨q1, q2, by omega, by omega, r⟩
  | chal => obtain ⟨q1, q2, b, c, r⟩ := h2; exact ⟨q1, q2, by omega, by omega, r⟩
  | cidp => obtain ⟨q1, q2, b, c, r⟩ := h2; exact ⟨q1, q2, by omega, by omega, r⟩
  | uni => exact h2
  | retire => obtain ⟨q1, b, r⟩ := h2; exact ⟨q1, by omega, r⟩
  | ranges => exact h2
end Go.Proofs.YtgiekhohhogdiaaDoor
/- The table of parts: what a load, a slice literal and a call yield. -/
namespace Go.Proofs.YtgiekhohhogdiaaDoor
open Go Go.RowKit
set_option linter.unusedVariables false
set_option linter.unusedSimpArgs false

set_option maxRecDepth 100000 in
theorem run_ld {w : World} {B : Nat} {p : Pt} {q : Nat} (h : PB w B p q) : ∃ v, (Instr.loadAt 80 (pv q)).run Tryd.prog w = .ok v w ∧ PV w B p v := by
  obtain ⟨f0, c0, f1, c1, f2, c2, hA, hV⟩ := h
  have k0 : w.cell? ⟨q, 0, none⟩ = some (.func (.func f0) #[] c0) := hA.cell 0 rfl
  have k1 : w.cell? ⟨q, 1, none⟩ = some (.func (.func f1) #[] c1) := hA.cell 1 rfl
  have k2 : w.cell? ⟨q, 2, none⟩ = some (.func (.func f2) #[] c2) := hA.cell 2 rfl
  refine ⟨_, ?_, f0, c0, f1, c1, f2, c2, rfl, hV⟩
  unfold pv
  have h1 := Tryd.underlying80
  simp [go_sem, k0, k1, k2, h1]
set_option maxRecDepth 100000 in
theorem run_bd0 (w : World) (B : Nat) : ∃ v w', (Instr.buildSlice 73 0 #[]).run Tryd.prog w = .ok v w' ∧ Only [] w w' ∧ SlAt w' B [] v := by
  refine ⟨_, w.alloc (.cells #[] 80), ?_, (Only.refl [] w).alloc _, w.heap.size, #[], rfl, At.new _ _ _, fun i hi => by simp at hi⟩
  simp [go_sem]
set_option maxRecDepth 100000 in
set_option maxHeartbeats 1000000 in
theorem run_bd1 {w : World} {B : Nat} {p0 : Pt} {v0 : Value} (h0 : PV w B p0 v0) : ∃ v w', (Instr.buildSlice 73 1 #[(0, v0)]).run Tryd.prog w = .ok v w' ∧ Only [] w w' ∧ SlAt w' B [p0] v := by
  obtain ⟨f00, c00, f01, c01, f02, c02, rfl, hV0⟩ := h0
  have ho := (Only.refl [] w).alloc (.cells #[.func (.func f00) #[] c00, .func (.func f01) #[] c01, .func (.func f02) #[] c02] 80)
  refine ⟨_, w.alloc (.cells #[.func (.func f00) #[] c00, .func (.func f01) #[] c01, .func (.func f02) #[] c02] 80), ?_, ho, w.heap.size, _, rfl, At.new _ _ _, fun i hi => ?_⟩
  · simp [go_sem]
  · match i, hi with
    | 0, _ => exact ⟨f00, c00, f01, c01, f02, c02, rfl, rfl, rfl, hV0.keeps (Keeps.of_only ho)⟩
    | (i + 1), hi => simp at hi
set_option maxRecDepth 100000 in
set_option maxHeartbeats 1000000 in
theorem run_bd2 {w : World} {B : Nat} {p0 p1 : Pt} {v0 v1 : Value} (h0 : PV w B p0 v0) (h1 : PV w B p1 v1) : ∃ v w', (Instr.buildSlice 73 2 #[(0, v0), (1, v1)]).run Tryd.prog w = .ok v w' ∧ Only [] w w' ∧ SlAt w' B [p0, p1] v := by
  obtain ⟨f00, c00, f01, c01, f02, c02, rfl, hV0⟩ := h0
  obtain ⟨f10, c10, f11, c11, f12, c12, rfl, hV1⟩ := h1
  have ho := (Only.refl [] w).alloc (.cells #[.func (.func f00) #[] c00, .func (.func f01) #[] c01, .func (.func f02) #[] c02, .func (.func f10) #[] c10, .func (.func f11) #[] c11, .func (.func f12) #[] c12] 80)
  refine ⟨_, w.alloc (.cells #[.func (.func f00) #[] c00, .func (.func f01) #[] c01, .func (.func f02) #[] c02, .func (.func f10) #[] c10, .func (.func f11) #[] c11, .func (.func f12) #[] c12] 80), ?_, ho, w.heap.size, _, rfl, At.new _ _ _, fun i hi => ?_⟩
  · simp [go_sem]
  · match i, hi with
    | 0, _ => exact ⟨f00, c00, f01, c01, f02, c02, rfl, rfl, rfl, hV0.keeps (Keeps.of_only ho)⟩
    | 1, _ => exact ⟨f10, c10, f11, c11, f12, c12, rfl, rfl, rfl, hV1.keeps (Keeps.of_only ho)⟩
    | (i + 2), hi => simp at hi; omega
set_option maxRecDepth 100000 in
set_option maxHeartbeats 1000000 in
theorem run_bd3 {w : World} {B : Nat} {p0 p1 p2 : Pt} {v0 v1 v2 : Value} (h0 : PV w B p0 v0) (h1 : PV w B p1 v1) (h2 : PV w B p2 v2) : ∃ v w', (Instr.buildSlice 73 3 #[(0, v0), (1, v1), (2, v2)]).run Tryd.prog w = .ok v w' ∧ Only [] w w' ∧ SlAt w' B [p0, p1, p2] v := by
  obtain ⟨f00, c00, f01, c01, f02, c02, rfl, hV0⟩ := h0
  obtain ⟨f10, c10, f11, c11, f12, c12, rfl, hV1⟩ := h1
  obtain ⟨f20, c20, f21, c21, f22, c22, rfl, hV2⟩ := h2
  have ho := (Only.refl [] w).alloc (.cells #[.func (.func f00) #[] c00, .func (.func f01) #[] c01, .func (.func f02) #[] c02, .func (.func f10) #[] c10, .func (.func f11) #[] c11, .func (.func f12) #[] c12, .func (.func f20) #[] c20, .func (.func f21) #[] c21, .func (.func f22) #[] c22] 80)
  refine ⟨_, w.alloc (.cells #[.func (.func f00) #[] c00, .func (.func f01) #[] c01, .func (.func f02) #[] c02, .func (.func f10) #[] c10, .func (.func f11) #[] c11, .func (.func f12) #[] c12, .func (.func f20) #[] c20, .func (.func f21) #[] c21, .func (.func f22) #[] c22] 80), ?_, ho, w.heap.size, _, rfl, At.new _ _ _, fun i hi => ?_⟩
  · simp [go_sem]
  · match i, hi with
    | 0, _ => exact ⟨f00, c00, f01, c01, f02, c02, rfl, rfl, rfl, hV0.keeps (Keeps.of_only ho)⟩
    | 1, _ => exact ⟨f10, c10, f11, c11, f12, c12, rfl, rfl, rfl, hV1.keeps (Keeps.of_only ho)⟩
    | 2, _ => exact ⟨f20, c20, f21, c21, f22, c22, rfl, rfl, rfl, hV2.keeps (Keeps.of_only ho)⟩
    | (i + 3), hi => simp at hi; omega
end Go.Proofs.YtgiekhohhogdiaaDoor
/- The table of parts: one operation of the map literal, whichever comes up. -/
namespace Go.Proofs.YtgiekhohhogdiaaDoor
open Go Go.RowKit
set_option linter.unusedVariables false
set_option linter.unusedSimpArgs false

theorem wpOp_val {P : Program} {ops : Array Oper} {Q : Exit → Act → World → Prop} {i : Nat} {o : Oper} {K : Act → World → Prop} {a : Act} {w w' : World} {v : Value} (ho : ops[i]? = some o) (hg : o.guard = none) (hr : (execOp a.eval o).run P w = .ok (.value v) w') (h : K (a.put o.dst v) w') : wpOp P ops Q i K a w := by
  refine wpOp_step ho (fun K' hK => ?_)
  rw [if_pos (by simp [Region.wanted, hg])]
  unfold Oper.wp
  rw [hr]
  exact hK _ _ h
theorem wpOp_skip {P : Program} {ops : Array Oper} {Q : Exit → Act → World → Prop} {i : Nat} {o : Oper} {K : Act → World → Prop} {a : Act} {w w' : World} (ho : ops[i]? = some o) (hg : o.guard = none) (hr : (execOp a.eval o).run P w = .ok .skip w') (h : K (a.put o.dst undef) w') : wpOp P ops Q i K a w := by
  refine wpOp_step ho (fun K' hK => ?_)
  rw [if_pos (by simp [Region.wanted, hg])]
  unfold Oper.wp
  rw [hr]
  exact hK _ _ h
theorem wpOp_call {P : Program} {ops : Array Oper} {Q : Exit → Act → World → Prop} {i : Nat} {o : Oper} {K : Act → World → Prop} {a : Act} {w : World} {f : FuncId} {args : Array Value} (ho : ops[i]? = some o) (hg : o.guard = none) (hr : (execOp a.eval o).run P w = .ok (.enter f args) w) (h : Calls P f args w fun e w' => ∃ v, e = .returned v ∧ K (a.put o.dst v) w') : wpOp P ops Q i K a w := by
  refine wpOp_step ho (fun K' hK => ?_)
  rw [if_pos (by simp [Region.wanted, hg])]
  unfold Oper.wp
  rw [hr, Oper.upon_enter]
  refine h.mono ?_
  rintro e w' ⟨v, rfl, hk⟩
  exact hK _ _ hk
def chkS (i d : Nat) : Bool := (List.range 81).all fun t => !((slotPt t).isSome || (slotPl t).isSome) || opOf t != i || t == d
theorem chkS_out {i d : Nat} (h : chkS i d = true) : ∀ t, t < 81 → (slotPt t ≠ none ∨ slotPl t ≠ none) → opOf t = i → t = d := by
  intro t ht hs he
  have := (List.all_eq_true.1 h) t (List.mem_range.2 ht)
  simp only [Bool.or_eq_true, Bool.not_eq_true', bne_iff_ne, beq_iff_eq] at this
  rcases this with (h1 | h1) | h1
  · rw [Bool.or_eq_false_iff] at h1
    rcases hs with x | x
    · rw [Option.isSome_eq_false_iff, Option.isNone_iff_eq_none] at h1; exact absurd h1.1 x
    · have h2 := h1.2; rw [Option.isSome_eq_false_iff, Option.isNone_iff_eq_none] at h2; exact absurd h2 x
  · exact absurd he h1
  · exact h1
def chkN (i d : Nat) : Bool := (List.range 81).all fun t => !((slotPt t).isSome || (slotPl t).isSome) || (opOf t != i && t != d)
theorem chkN_out {i d : Nat} (h : chkN i d = true) : ∀ t, t < 81 → (slotPt t ≠ none ∨ slotPl t ≠ none) → opOf t ≠ i ∧ t ≠ d := by
  intro t ht hs
  have := (List.all_eq_true.1 h) t (List.mem_range.2 ht)
  simp only [Bool.or_eq_true, Bool.and_eq_true, Bool.not_eq_true', bne_iff_ne] at this
  rcases this with h1 | h1
  · rw [Bool.or_eq_false_iff] at h1
    rcases hs with x | x
    · rw [Option.isSome_eq_false_iff, Option.isNone_iff_eq_none] at h1; exact absurd h1.1 x
    · have h2 := h1.2; rw [Option.isSome_eq_false_iff, Option.isNone_iff_eq_none] at h2; exact absurd h2 x
  · exact h1
def chkI (i : Nat) (k : Int) : Bool := (List.range 78).all fun j => insK j != some k || j == i
theorem chkI_out {i : Nat} {k : Int} (h : chkI i k = true) : ∀ j, j < 78 → insK j = some k → j = i := by
  intro j hj hk
  have := (List.all_eq_true.1 h) j (List.mem_range.2 hj)
  rw [hk] at this
  simpa using this
/-- What is asked of an operation of the literal. -/
structure Row (ops : Array Oper) (i : Nat) (d : Option Tmp) (op : Op) (ds : List Nat) : Prop where
  out : ∃ o, ops[i]? = some o ∧ o.guard = none ∧ o.dst = d ∧ o.op = op ∧ ∀ x ∈ ds, ∃ e ∈ o.after.toList, e.on = x ∧ Region.binds .any e = true
section
variable {W : World} {B : Nat} {p : Nat → Nat} {ops : Array Oper} {listed : Array Bool} {a : Act} {w : World} {Q : Exit → Act → World → Prop} (H : Ivt W B p listed a w)
include H
omit H in
theorem ev_tmp {t : Nat} {v : Value} (h : a.tmps[t]? = some v) : a.eval (.tmp t) = v := by simp [Act.eval, Array.getD_eq_getD_getElem?, h]
theorem step_ld (i j d : Nat) (q : Pt) (hR : Row ops i (some d) (.load 80 (.tmp j)) []) (hj : 1 ≤ j ∧ j ≤ 12) (hP : PB W B q (p j)) (hi : i < 78) (h2 : 25 < d ∧ d < 80) (h4 : insK i = none) (h5 : i ≠ 0 ∧ i ≠ 76 ∧ i ≠ 77) (h6 : chkS i d = true) (hq : slotPt d = some q) (hl : slotPl d = none) :
    wpOp Tryd.prog ops Q i (fun a' w' => Ivt W B p (listed.setIfInBounds i true) a' w') a w := by
  obtain ⟨o, ho, hg, hd, hop, _⟩ := hR.out
  obtain ⟨v, hv, hV⟩ := run_ld (hP.keep0 H.ho)
  have he := ev_tmp (H.fx j hj.1 hj.2)
  refine wpOp_val ho hg (v := v) (w' := w) ?_ ?_
  · unfold execOp
    rw [hop]
    simp only [he, Sem.run_bind, hv, Result.andThen, Sem.run_pure]
  · rw [hd]
    exact H.val i d v hi h2 h4 h5 (chkS_out h6) (Only.refl _ _) (fun q' e => by rw [hq] at e; cases e; exact hV) (fun l e => by rw [hl] at e; cases e)
end
end Go.Proofs.YtgiekhohhogdiaaDoor
/- The table of parts: the other operations of the map literal, and the region as a whole. -/
namespace Go.Proofs.YtgiekhohhogdiaaDoor
open Go Go.RowKit
set_option linter.unusedVariables false
set_option linter.unusedSimpArgs false

theorem run_goes {P : Program} {f : FuncId} {fn : Func} (hf : P.funcs[f]? = some fn) (hn : (fn.name == "runtime.NumGoroutine") = false) (hb : fn.body.isNone = false) (args : Array Value) (w : World) : (callFunc f args).run P w = .ok (.enter f args) w := by
  have hn' : ¬ fn.name = "runtime.NumGoroutine" := by simpa using hn
  have hb' : ¬ fn.body = none := fun e => by rw [e] at hb; cases hb
  simp [callFunc, go_sem, hf, hn', hb']
theorem dep_in {ops : Array Oper} {listed : Array Bool} {i : Nat} {d : Option Tmp} {op : Op} {ds : List Nat} (hR : Row ops i d op ds) (hr : i ∈ Region.ready .any ops listed) : ∃ o, ops[i]? = some o ∧ o.guard = none ∧ o.dst = d ∧ o.op = op ∧ listed.getD i true = false ∧ ∀ x ∈ ds, listed.getD x false = true := by
  obtain ⟨o, ho, hg, hd, hop, hdep⟩ := hR.out
  have hrd := ready_out hr
  exact ⟨o, ho, hg, hd, hop, hrd.2.1, fun x hx => by obtain ⟨e, he, he2, hb⟩ := hdep x hx; have := hrd.2.2 o ho e he hb; rwa [he2] at this⟩
theorem getD_no {listed : Array Bool} {i : Nat} (h : listed.getD i true = false) : listed.getD i false = false := by
  rcases Nat.lt_or_ge i listed.size with x | x
  · simpa [Array.getD, x] using h
  · simp [Array.getD, Nat.not_lt.2 x]
theorem PartV.low {w : World} {B C : Nat} {p : Pt} {v0 v1 v2 : Value} (h2 : PartV w C p v0 v1 v2) (hB : B ≤ C) : PartV w B p v0 v1 v2 := by
  cases p with
  | int most x => obtain ⟨fk, q1, q2, a, b, c, r⟩ := h2; exact ⟨fk, q1, q2, a, by omega, by omega, r⟩
  | text least most => obtain ⟨q1, q2, b, c, r⟩ := h2; exact ⟨q1, q2, by omega, by omega, r⟩
  | chal => obtain ⟨q1, q2, b, c, r⟩ := h2; exact ⟨q1, q2, by omega, by omega, r⟩
  | cidp => obtain ⟨q1, q2, b, c, r⟩ := h2; exact ⟨q1, q2, by omega, by omega, r⟩
  | uni => exact h2
  | retire => obtain ⟨q1, b, r⟩ := h2; exact ⟨q1, by omega, r⟩
  | ranges => exact h2
section
variable {W : World} {B : Nat} {p : Nat → Nat} {ops : Array Oper} {listed : Array Bool} {a : Act} {w : World} {Q : Exit → Act → World → Prop} (H : Ivt W B p listed a w)
include H
set_option maxHeartbeats 1000000 in
theorem step_bd0 (i d : Nat) (hR : Row ops i (some d) (.buildSlice 73 0 #[]) []) (hr : i ∈ Region.ready .any ops listed) (hi : i < 78) (h2 : 25 < d ∧ d < 80) (h4 : insK i = none) (h5 : i ≠ 0 ∧ i ≠ 76 ∧ i ≠ 77) (h6 : chkS i d = true) (hq : slotPt d = none) (hl : slotPl d = some []) :
    wpOp Tryd.prog ops Q i (fun a' w' => Ivt W B p (listed.setIfInBounds i true) a' w') a w := by
  obtain ⟨o, ho, hg, hd, hop, _, hdep⟩ := dep_in hR hr
  obtain ⟨v, w', hv, ho', hV⟩ := run_bd0 w B
  refine wpOp_val ho hg (v := v) (w' := w') ?_ ?_
  · unfold execOp
    rw [hop]
    simp only [List.map_toArray, List.map_cons, List.map_nil, Sem.run_bind, hv, Result.andThen, Sem.run_pure]
  · rw [hd]
    exact H.val i d v hi h2 h4 h5 (chkS_out h6) ho' (fun q' e => by rw [hq] at e; cases e) (fun l e => by rw [hl] at e; cases e; exact hV)
set_option maxHeartbeats 1000000 in
theorem step_bd1 (i d : Nat) (t0 : Nat) (q0 : Pt) (hR : Row ops i (some d) (.buildSlice 73 1 #[(0, .tmp t0)]) [opOf t0]) (hr : i ∈ Region.ready .any ops listed) (s0 : slotPt t0 = some q0) (hi : i < 78) (h2 : 25 < d ∧ d < 80) (h4 : insK i = none) (h5 : i ≠ 0 ∧ i ≠ 76 ∧ i ≠ 77) (h6 : chkS i d = true) (hq : slotPt d = none) (hl : slotPl d = some [q0]) :
    wpOp Tryd.prog ops Q i (fun a' w' => Ivt W B p (listed.setIfInBounds i true) a' w') a w := by
  obtain ⟨o, ho, hg, hd, hop, _, hdep⟩ := dep_in hR hr
  obtain ⟨v0, g0, V0⟩ := H.pt t0 q0 s0 (hdep _ (by simp))
  have e0 := ev_tmp g0
  obtain ⟨v, w', hv, ho', hV⟩ := run_bd1 V0
  refine wpOp_val ho hg (v := v) (w' := w') ?_ ?_
  · unfold execOp
    rw [hop]
    simp only [List.map_toArray, List.map_cons, List.map_nil, e0, Sem.run_bind, hv, Result.andThen, Sem.run_pure]
  · rw [hd]
    exact H.val i d v hi h2 h4 h5 (chkS_out h6) ho' (fun q' e => by rw [hq] at e; cases e) (fun l e => by rw [hl] at e; cases e; exact hV)
set_option maxHeartbeats 1000000 in
theorem step_bd2 (i d : Nat) (t0 t1 : Nat) (q0 q1 : Pt) (hR : Row ops i (some d) (.buildSlice 73 2 #[(0, .tmp t0), (1, .tmp t1)]) [opOf t0, opOf t1]) (hr : i ∈ Region.ready .any ops listed) (s0 : slotPt t0 = some q0) (s1 : slotPt t1 = some q1) (hi : i < 78) (h2 : 25 < d ∧ d < 80) (h4 : insK i = none) (h5 : i ≠ 0 ∧ i ≠ 76 ∧ i ≠ 77) (h6 : chkS i d = true) (hq : slotPt d = none) (hl : slotPl d = some [q0, q1]) :
    wpOp Tryd.prog ops Q i (fun a' w' => Ivt W B p (listed.setIfInBounds i true) a' w') a w := by
  obtain ⟨o, ho, hg, hd, hop, _, hdep⟩ := dep_in hR hr
  obtain ⟨v0, g0, V0⟩ := H.pt t0 q0 s0 (hdep _ (by simp))
  have e0 := ev_tmp g0
  obtain ⟨v1, g1, V1⟩ := H.pt t1 q1 s1 (hdep _ (by simp))
  have e1 := ev_tmp g1
  obtain ⟨v, w', hv, ho', hV⟩ := run_bd2 V0 V1
  refine wpOp_val ho hg (v := v) (w' := w') ?_ ?_
  · unfold execOp
    rw [hop]
    simp only [List.map_toArray, List.map_cons, List.map_nil, e0, e1, Sem.run_bind, hv, Result.andThen, Sem.run_pure]
  · rw [hd]
    exact H.val i d v hi h2 h4 h5 (chkS_out h6) ho' (fun q' e => by rw [hq] at e; cases e) (fun l e => by rw [hl] at e; cases e; exact hV)
set_option maxHeartbeats 1000000 in
theorem step_bd3 (i d : Nat) (t0 t1 t2 : Nat) (q0 q1 q2 : Pt) (hR : Row ops i (some d) (.buildSlice 73 3 #[(0, .tmp t0), (1, .tmp t1), (2, .tmp t2)]) [opOf t0, opOf t1, opOf t2]) (hr : i ∈ Region.ready .any ops listed) (s0 : slotPt t0 = some q0) (s1 : slotPt t1 = some q1) (s2 : slotPt t2 = some q2) (hi : i < 78) (h2 : 25 < d ∧ d < 80) (h4 : insK i = none) (h5 : i ≠ 0 ∧ i ≠ 76 ∧ i ≠ 77) (h6 : chkS i d = true) (hq : slotPt d = none) (hl : slotPl d = some [q0, q1, q2]) :
    wpOp Tryd.prog ops Q i (fun a' w' => Ivt W B p (listed.setIfInBounds i true) a' w') a w := by
  obtain ⟨o, ho, hg, hd, hop, _, hdep⟩ := dep_in hR hr
  obtain ⟨v0, g0, V0⟩ := H.pt t0 q0 s0 (hdep _ (by simp))
  have e0 := ev_tmp g0
  obtain ⟨v1, g1, V1⟩ := H.pt t1 q1 s1 (hdep _ (by simp))
  have e1 := ev_tmp g1
  obtain ⟨v2, g2, V2⟩ := H.pt t2 q2 s2 (hdep _ (by simp))
  have e2 := ev_tmp g2
  obtain ⟨v, w', hv, ho', hV⟩ := run_bd3 V0 V1 V2
  refine wpOp_val ho hg (v := v) (w' := w') ?_ ?_
  · unfold execOp
    rw [hop]
    simp only [List.map_toArray, List.map_cons, List.map_nil, e0, e1, e2, Sem.run_bind, hv, Result.andThen, Sem.run_pure]
  · rw [hd]
    exact H.val i d v hi h2 h4 h5 (chkS_out h6) ho' (fun q' e => by rw [hq] at e; cases e) (fun l e => by rw [hl] at e; cases e; exact hV)
theorem step_cl (i d f : Nat) (xs : Array Operand) (ats : Array TypeId) (q : Pt) (hR : Row ops i (some d) (.call { callee := .value (.func f), args := xs, argTypes := ats }) []) (hr : i ∈ Region.ready .any ops listed)
    (hf : ∀ args w, (callFunc f args).run Tryd.prog w = .ok (.enter f args) w) (hc : ∀ w, Calls Tryd.prog f (#[] ++ xs.map a.eval ++ #[]) w (MadeP q w)) (hB : B ≤ W.heap.size) (hi : i < 78) (h2 : 25 < d ∧ d < 80) (h4 : insK i = none) (h5 : i ≠ 0 ∧ i ≠ 76 ∧ i ≠ 77) (h6 : chkS i d = true) (hq : slotPt d = some q) (hl : slotPl d = none) :
    wpOp Tryd.prog ops Q i (fun a' w' => Ivt W B p (listed.setIfInBounds i true) a' w') a w := by
  obtain ⟨o, ho, hg, hd, hop, _, hdep⟩ := dep_in hR hr
  refine wpOp_call ho hg (f := f) (args := #[] ++ xs.map a.eval ++ #[]) ?_ ((hc w).mono ?_)
  · cases o
    simp only at hop
    subst hop
    exact hf _ _
  · rintro e w' ⟨v0, v1, v2, rfl, hp, ⟨f0, c0, f1, c1, f2, c2, rfl, rfl, rfl⟩, ho'⟩
    refine ⟨_, rfl, ?_⟩
    rw [hd]
    have hsz := H.ho.size
    exact H.val i d _ hi h2 h4 h5 (chkS_out h6) ho' (fun q' e => by rw [hq] at e; cases e; exact ⟨_, _, _, _, _, _, rfl, hp.low (by omega)⟩) (fun l e => by rw [hl] at e; cases e)
theorem step_ins (i s : Nat) (k : Int) (l : List Pt) (hR : Row ops i none (.insert 74 (.tmp 25) (.const (.int .i64 k)) (.tmp s)) [0, opOf s]) (hr : i ∈ Region.ready .any ops listed)
    (hi : i < 78) (hk : insK i = some k) (h5 : i ≠ 0 ∧ i ≠ 76 ∧ i ≠ 77) (hinj : chkI i k = true) (h6 : chkN i 100 = true) (hs : slotPl s = some l) (ht : tab k = some l) :
    wpOp Tryd.prog ops Q i (fun a' w' => Ivt W B p (listed.setIfInBounds i true) a' w') a w := by
  obtain ⟨o, ho, hg, hd, hop, hn, hdep⟩ := dep_in hR hr
  obtain ⟨mb, v, e1, e2, w', hrun, hI⟩ := H.ins i s k l hi hk h5 (chkI_out hinj) (fun t ht hs => (chkN_out h6 t ht hs).1) hs ht (hdep _ (by simp)) (hdep _ (by simp)) (getD_no hn)
  have ek : a.eval (.const (.int .i64 k)) = .int .i64 k := rfl
  refine wpOp_skip ho hg (w' := w') ?_ ?_
  · unfold execOp
    rw [hop]
    simp only [e1, e2, ek, Sem.run_bind, hrun, Result.andThen, Sem.run_pure]
  · rw [hd]; exact hI
theorem step_mk (hR : Row ops 0 (some 25) (.makeMap 74 none) []) (hr : 0 ∈ Region.ready .any ops listed) (h6 : chkN 0 25 = true) :
    wpOp Tryd.prog ops Q 0 (fun a' w' => Ivt W B p (listed.setIfInBounds 0 true) a' w') a w := by
  obtain ⟨o, ho, hg, hd, hop, hn, hdep⟩ := dep_in hR hr
  refine wpOp_val ho hg (v := .map (some w.heap.size)) (w' := w.alloc (.map #[] 0)) ?_ ?_
  · unfold execOp
    rw [hop]
    simp [go_sem, run_makeMap, Result.andThen]
  · rw [hd]; exact H.mk0 (chkN_out h6) rfl (getD_no hn)
theorem step_mv (hR : Row ops 76 (some 80) (.move (.tmp 25)) [0]) (hr : 76 ∈ Region.ready .any ops listed) (h6 : chkN 76 80 = true) :
    wpOp Tryd.prog ops Q 76 (fun a' w' => Ivt W B p (listed.setIfInBounds 76 true) a' w') a w := by
  obtain ⟨o, ho, hg, hd, hop, hn, hdep⟩ := dep_in hR hr
  have d0 := hdep 0 (by simp)
  obtain ⟨mb, es, c, m1, _⟩ := H.mp d0
  refine wpOp_val ho hg (v := .map (some mb)) (w' := w) ?_ ?_
  · unfold execOp
    rw [hop]
    simp only [ev_tmp m1, Sem.run_pure]
  · rw [hd]; exact H.mv 76 80 25 _ (.inl ⟨rfl, rfl, rfl⟩) rfl (chkN_out h6) d0 (fun h => by omega) m1
theorem step_as (hR : Row ops 77 (some 0) (.assign (.tmp 80)) [0, 76]) (hr : 77 ∈ Region.ready .any ops listed) (h6 : chkN 77 0 = true) :
    wpOp Tryd.prog ops Q 77 (fun a' w' => Ivt W B p (listed.setIfInBounds 77 true) a' w') a w := by
  obtain ⟨o, ho, hg, hd, hop, hn, hdep⟩ := dep_in hR hr
  have d0 := hdep 0 (by simp)
  obtain ⟨mb, es, c, m1, _⟩ := H.mp d0
  have m2 := H.l6 (hdep 76 (by simp))
  rw [m1] at m2
  refine wpOp_val ho hg (v := .map (some mb)) (w' := w) ?_ ?_
  · unfold execOp
    rw [hop]
    simp only [ev_tmp m2, Sem.run_pure]
  · rw [hd]; exact H.mv 77 0 80 _ (.inr ⟨rfl, rfl, rfl⟩) rfl (chkN_out h6) d0 (fun _ => hdep 76 (by simp)) m2
end
end Go.Proofs.YtgiekhohhogdiaaDoor
