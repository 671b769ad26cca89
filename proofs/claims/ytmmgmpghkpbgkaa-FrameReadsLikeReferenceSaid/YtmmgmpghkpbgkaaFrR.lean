/- The table of parts as a map literal whose order is drawn: an invariant law for a region, and the invariant. -/
import Derived.Test.YtmmgmpghkpbgkaaFrP
import Derived.Test.YtmmgmpghkpbgkaaFrN
import Derived.Deep.RegionHeld3
import Derived.WideMake
namespace Go.Proofs.Ytmmgmpghkpbgkaa
open Go Go.RowKit
set_option linter.unusedVariables false
set_option linter.unusedSimpArgs false

/-- A region in whatever order, by an invariant. -/
theorem wpAny_inv {P : Program} {md : Region.Mode} {ops : Array Oper} {Q : Exit → Act → World → Prop} (I : Array Bool → Act → World → Prop)
    (step : ∀ listed a w i, I listed a w → i ∈ Region.ready md ops listed → wpOp P ops Q i (fun a' w' => I (listed.setIfInBounds i true) a' w') a w)
    (fin : ∀ listed a w, I listed a w → Region.ready md ops listed = [] → Q .normal a w)
    (cnt : Array Bool → Nat) (hc : ∀ listed i, i ∈ Region.ready md ops listed → cnt (listed.setIfInBounds i true) < cnt listed) :
    ∀ fuel listed a w, I listed a w → cnt listed ≤ fuel → wpAny P md ops Q fuel listed a w := by
  intro fuel
  induction fuel with
  | zero =>
    intro listed a w h hf
    have hr : Region.ready md ops listed = [] := by
      cases hq : Region.ready md ops listed with
      | nil => rfl
      | cons i r => have := hc listed i (by rw [hq]; simp); omega
    exact ⟨hr, fin _ _ _ h hr⟩
  | succ fuel ih =>
    intro listed a w h hf
    exact ⟨fun hr => fin _ _ _ h hr, fun i hi => wpOp_mono (fun a' w' h' => ih _ _ _ h' (by have := hc listed i hi; omega)) (step _ _ _ _ h hi)⟩
theorem ready_out {md : Region.Mode} {ops : Array Oper} {listed : Array Bool} {i : Nat} (h : i ∈ Region.ready md ops listed) : i < ops.size ∧ listed.getD i true = false ∧ ∀ o, ops[i]? = some o → ∀ e ∈ o.after.toList, Region.binds md e = true → listed.getD e.on false = true := by
  unfold Region.ready at h
  obtain ⟨h1, h2⟩ := List.mem_filter.1 h
  rw [Bool.and_eq_true] at h2
  refine ⟨List.mem_range.1 h1, by simpa using h2.1, fun o ho e he hb => ?_⟩
  have h3 := h2.2
  rw [ho] at h3
  simp only [Option.map_some, Option.getD_some] at h3
  have h4 := (Array.all_eq_true_iff_forall_mem.1 h3) e (by simpa using he)
  rw [hb] at h4
  simpa using h4
/-- How many have not come up. -/
def left (listed : Array Bool) : Nat := (listed.toList.filter (fun b => !b)).length
theorem left_set {listed : Array Bool} {i : Nat} (h : listed.getD i true = false) : left (listed.setIfInBounds i true) < left listed := by
  have hi : i < listed.size := by
    rcases Nat.lt_or_ge i listed.size with x | x
    · exact x
    · simp [Array.getD, Nat.not_lt.2 x] at h
  have hv : listed[i] = false := by simpa [Array.getD, hi] using h
  unfold left
  simp only [Array.toList_setIfInBounds]
  have key : ∀ (l : List Bool) (i : Nat) (hi : i < l.length), l[i] = false → ((l.set i true).filter (fun b => !b)).length < (l.filter (fun b => !b)).length := by
    intro l
    induction l with
    | nil => intro i hi; simp at hi
    | cons x l ih =>
      intro i hi hv
      cases i with
      | zero => simp at hv; subst hv; simp
      | succ i =>
        have := ih i (by simpa using hi) (by simpa using hv)
        cases x <;> simp <;> omega
  exact key listed.toList i (by simpa using hi) (by simpa using hv)
/-- A value that stands for the part p. -/
def PV (w : World) (B : Nat) (p : Pt) (v : Value) : Prop := ∃ f0 c0 f1 c1 f2 c2, v = .agg #[.func (.func f0) #[] c0, .func (.func f1) #[] c1, .func (.func f2) #[] c2] ∧ PartV w B p (.func (.func f0) #[] c0) (.func (.func f1) #[] c1) (.func (.func f2) #[] c2)
/-- Every block of cells stands. -/
def Keeps (w w' : World) : Prop := w.heap.size ≤ w'.heap.size ∧ ∀ (k : Nat) (cs : Array Value) (t : TypeId) (fz : Nat × Nat), w.heap[k]? = some (Obj.cells cs t fz) → w'.heap[k]? = some (Obj.cells cs t fz)
theorem Keeps.refl (w : World) : Keeps w w := ⟨Nat.le_refl _, fun _ _ _ _ h => h⟩
theorem Keeps.of_only {w w' : World} (h : Only [] w w') : Keeps w w' := ⟨h.size, fun k cs t fz hk => (h.block k (Array.getElem?_eq_some_iff.1 hk).1 (by simp)).trans hk⟩
theorem Keeps.put {w : World} {r : Nat} {es : Array MapEntry} {c c' : Nat} {es' : Array MapEntry} (h : w.heap[r]? = some (.map es c)) : Keeps w (w.putObj r (.map es' c')) := by
  refine ⟨by simp, fun k cs t fz hk => ?_⟩
  rw [World.putObj_heap_other (fun e => by subst e; rw [h] at hk; cases hk)]
  exact hk
theorem Keeps.cell {w w' : World} (h : Keeps w w') {q : Nat} {v : Value} (hc : w.cell? ⟨q, 0, none⟩ = some v) : w'.cell? ⟨q, 0, none⟩ = some v := by
  unfold World.cell? at hc ⊢
  cases hq : w.heap[q]? with
  | none => simp [hq] at hc
  | some o =>
    cases o with
    | cells cs t fz => rw [h.2 q cs t fz hq]; rw [hq] at hc; exact hc
    | _ => simp [hq] at hc
theorem PartV.keeps {w w' : World} {B : Nat} {p : Pt} {v0 v1 v2 : Value} (h : PartV w B p v0 v1 v2) (k : Keeps w w') : PartV w' B p v0 v1 v2 := by
  cases p with
  | int most x => obtain ⟨fk, q1, q2, a, b, c, d, e, f, g, h⟩ := h; exact ⟨fk, q1, q2, a, b, c, d, e, f, k.cell g, k.cell h⟩
  | text least most => obtain ⟨q1, q2, b, c, d, e, f, g, h⟩ := h; exact ⟨q1, q2, b, c, d, e, f, k.cell g, k.cell h⟩
  | chal => obtain ⟨q1, q2, b, c, d, e, f, g, h⟩ := h; exact ⟨q1, q2, b, c, d, e, f, k.cell g, k.cell h⟩
  | cidp => obtain ⟨q1, q2, b, c, d, e, f, g, h⟩ := h; exact ⟨q1, q2, b, c, d, e, f, k.cell g, k.cell h⟩
  | uni => exact h
  | retire => obtain ⟨q1, b, d, e, f, g⟩ := h; exact ⟨q1, b, d, e, f, k.cell g⟩
  | ranges => exact h
theorem PV.keeps {w w' : World} {B : Nat} {p : Pt} {v : Value} (h : PV w B p v) (k : Keeps w w') : PV w' B p v := by
  obtain ⟨f0, c0, f1, c1, f2, c2, h1, h2⟩ := h
  exact ⟨f0, c0, f1, c1, f2, c2, h1, h2.keeps k⟩
/-- The slice v holds the functions of the parts l, three cells each. -/
def SlAt (w : World) (B : Nat) (l : List Pt) (v : Value) : Prop := ∃ g cs, v = .slice (some ⟨g, 0, none⟩) l.length l.length ∧ w.heap[g]? = some (.cells cs 105 (0, 0)) ∧
  ∀ i (hi : i < l.length), ∃ f0 c0 f1 c1 f2 c2, cs[i * 3]? = some (.func (.func f0) #[] c0) ∧ cs[i * 3 + 1]? = some (.func (.func f1) #[] c1) ∧ cs[i * 3 + 2]? = some (.func (.func f2) #[] c2) ∧
    PartV w B (l[i]'hi) (.func (.func f0) #[] c0) (.func (.func f1) #[] c1) (.func (.func f2) #[] c2)
theorem SlAt.keeps {w w' : World} {B : Nat} {l : List Pt} {v : Value} (h : SlAt w B l v) (k : Keeps w w') : SlAt w' B l v := by
  obtain ⟨g, cs, h1, h2, h3⟩ := h
  refine ⟨g, cs, h1, k.2 _ _ _ _ h2, fun i hi => ?_⟩
  obtain ⟨f0, c0, f1, c1, f2, c2, a, b, c, d⟩ := h3 i hi
  exact ⟨f0, c0, f1, c1, f2, c2, a, b, c, d.keeps k⟩
/-- The entries of a map: each key has its parts; no other key than those of S. -/
def MapOk (w : World) (B : Nat) (S : Int → Prop) (es : Array MapEntry) : Prop :=
  (∀ e ∈ es.toList, ∃ k l, e.key = .int .i64 k ∧ S k ∧ tab k = some l ∧ SlAt w B l e.val) ∧ ∀ k, S k → ∃ e ∈ es.toList, e.key = .int .i64 k
theorem MapOk.keeps {w w' : World} {B : Nat} {S : Int → Prop} {es : Array MapEntry} (h : MapOk w B S es) (k : Keeps w w') : MapOk w' B S es :=
  ⟨fun e he => by obtain ⟨x, l, a, b, c, d⟩ := h.1 e he; exact ⟨x, l, a, b, c, d.keeps k⟩, h.2⟩
theorem MapOk.push {w : World} {B : Nat} {S : Int → Prop} {es : Array MapEntry} (h : MapOk w B S es) {k : Int} {l : List Pt} {v : Value} {c : Nat} (ht : tab k = some l) (hv : SlAt w B l v) : MapOk w B (fun x => S x ∨ x = k) (es.push { key := .int .i64 k, val := v, born := c }) := by
  refine ⟨fun e he => ?_, fun x hx => ?_⟩
  · rw [Array.toList_push, List.mem_append, List.mem_singleton] at he
    rcases he with he | rfl
    · obtain ⟨x, l, a, b, c, d⟩ := h.1 e he; exact ⟨x, l, a, .inl b, c, d⟩
    · exact ⟨k, l, rfl, .inr rfl, ht, hv⟩
  · rcases hx with hx | rfl
    · obtain ⟨e, he, hk⟩ := h.2 x hx
      exact ⟨e, by rw [Array.toList_push]; simp [he], hk⟩
    · exact ⟨{ key := .int .i64 x, val := v, born := c }, by rw [Array.toList_push]; simp, rfl⟩
theorem findNow_none (k : Int) : ∀ (l : List MapEntry) (n : Nat), (∀ e ∈ l, ∃ x, e.key = .int .i64 x ∧ x ≠ k) → Instr.findNow (.int .i64) (.int .i64 k) l n = some none := by
  intro l
  induction l with
  | nil => intro n _; rfl
  | cons e l ih =>
    intro n h
    obtain ⟨x, hx, hne⟩ := h e (by simp)
    unfold Instr.findNow
    rw [hx]
    have : Instr.sameNow (.int .i64) (.int .i64 k) (.int .i64 x) = some false := by
      simp only [Instr.sameNow, if_true]
      congr 1
      exact beq_eq_false_iff_ne.2 (fun e => hne e.symm)
    rw [this]
    exact ih (n + 1) (fun e he => h e (by simp [he]))
theorem findNow_some (k : Int) (P : Value → Prop) : ∀ (l : List MapEntry) (n : Nat), (∀ e ∈ l, ∃ x, e.key = .int .i64 x ∧ (x = k → P e.val)) → (∃ e ∈ l, e.key = .int .i64 k) → ∃ j v, Instr.findNow (.int .i64) (.int .i64 k) l n = some (some (j, v)) ∧ P v := by
  intro l
  induction l with
  | nil => intro n _ h; obtain ⟨e, he, _⟩ := h; cases he
  | cons e l ih =>
    intro n h hex
    obtain ⟨x, hx, hp⟩ := h e (by simp)
    unfold Instr.findNow
    rw [hx]
    by_cases hq : x = k
    · subst hq
      have : Instr.sameNow (.int .i64) (.int .i64 x) (.int .i64 x) = some true := by simp [Instr.sameNow]
      rw [this]
      exact ⟨n, e.val, rfl, hp rfl⟩
    · have : Instr.sameNow (.int .i64) (.int .i64 k) (.int .i64 x) = some false := by
        simp only [Instr.sameNow, if_true]
        congr 1
        exact beq_eq_false_iff_ne.2 (fun e => hq e.symm)
      rw [this]
      refine ih (n + 1) (fun e he => h e (by simp [he])) ?_
      obtain ⟨e', he', hk'⟩ := hex
      rcases List.mem_cons.1 he' with rfl | he'
      · rw [hx] at hk'; cases hk'; exact absurd rfl hq
      · exact ⟨e', he', hk'⟩
theorem A_map : Try.prog.underlying 99 = some (.map 3 98) := by kernel_rfl
set_option maxRecDepth 100000 in
theorem ins_run {w : World} {r c : Nat} {es : Array MapEntry} {k : Int} {v : Value} (hb : w.heap[r]? = some (.map es c)) (hk : ∀ e ∈ es.toList, ∃ x, e.key = .int .i64 x ∧ x ≠ k) :
    (Instr.mapUpdate 99 (.map (some r)) (.int .i64 k) v).run Try.prog w = .ok () (w.putObj r (.map (es.push { key := .int .i64 k, val := v, born := c }) (c + 1))) := by
  have hu : Try.prog.underlying 3 = some (.int .i64) := Try.underlying3
  have hf := findNow_none k es.toList 0 hk
  have hc : (Instr.checkKey false 10000 3 (.int .i64 k)).run Try.prog w = .ok () w := MapKept.run_checkKey (k := .int .i64 k) hu (show MapKept.IsKey (.int .i64) (.int .i64 k) from rfl) false 9999
  simp [Instr.mapUpdate, run_underlying A_map, MapKept.run_getObj_map hb, hc, MapKept.run_findKey hu hf, MapKept.run_setObj_map _ hb, Result.andThen, World.putObj]
set_option maxRecDepth 100000 in
theorem look_run {w : World} {r c : Nat} {es : Array MapEntry} {k : Int} {j : Nat} {v : Value} (hb : w.heap[r]? = some (.map es c)) (hf : Instr.findNow (.int .i64) (.int .i64 k) es.toList 0 = some (some (j, v))) (ok : Bool) :
    (Instr.lookup 99 (.map (some r)) (.int .i64 k) ok).run Try.prog w = .ok (if ok then .tuple #[v, .bool true] else v) w := by
  have hu : Try.prog.underlying 3 = some (.int .i64) := Try.underlying3
  have hc : (Instr.checkKey es.isEmpty 10000 3 (.int .i64 k)).run Try.prog w = .ok () w := MapKept.run_checkKey (k := .int .i64 k) hu (show MapKept.IsKey (.int .i64) (.int .i64 k) from rfl) _ 9999
  simp [Instr.lookup, run_underlying A_map, MapKept.run_getObj_map hb, hc, MapKept.run_findKey hu hf, Result.andThen]
set_option maxRecDepth 100000 in
theorem look_no {w : World} {r c : Nat} {es : Array MapEntry} {k : Int} (hb : w.heap[r]? = some (.map es c)) (hf : Instr.findNow (.int .i64) (.int .i64 k) es.toList 0 = some none) (ok : Bool) :
    (Instr.lookup 99 (.map (some r)) (.int .i64 k) ok).run Try.prog w = .ok (if ok then .tuple #[.slice none 0 0, .bool false] else .slice none 0 0) w := by
  have hu : Try.prog.underlying 3 = some (.int .i64) := Try.underlying3
  have hc : (Instr.checkKey es.isEmpty 10000 3 (.int .i64 k)).run Try.prog w = .ok () w := MapKept.run_checkKey (k := .int .i64 k) hu (show MapKept.IsKey (.int .i64) (.int .i64 k) from rfl) _ 9999
  have hz : (zeroValue 98).run Try.prog w = .ok (.slice none 0 0) w := by have := Try.zeroValue98; simp [this]
  simp [Instr.lookup, run_underlying A_map, MapKept.run_getObj_map hb, hc, MapKept.run_findKey hu hf, Result.andThen, hz]
end Go.Proofs.Ytmmgmpghkpbgkaa
