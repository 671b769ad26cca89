/- The table of parts: the other operations of the map literal, and the region as a whole. -/
import Derived.Test.YtmmgmpghkpbgkaaFrV
namespace Go.Proofs.Ytmmgmpghkpbgkaa
open Go Go.RowKit
set_option linter.unusedVariables false
set_option linter.unusedSimpArgs false

theorem run_goes {P : Program} {f : FuncId} {fn : Func} (hf : P.funcs[f]? = some fn) (hn : (fn.name == "runtime.NumGoroutine") = false) (hb : fn.body.isNone = false) (args : Array Value) (w : World) : (callFunc f args).run P w = .ok (.enter f args) w := by
  have hn' : ¬ fn.name = "runtime.NumGoroutine" := by simpa using hn
  have hb' : ¬ fn.body = none := fun e => by rw [e] at hb; cases hb
  simp [callFunc, go_sem, hf, hn', hb']
theorem dep_in {ops : Array Oper} {listed : Array Bool} {i : Nat} {d : Option Tmp} {op : Op} {ds : List Nat} (hR : Row ops i d op ds) (hr : i ∈ Region.ready .any ops listed) : ∃ o, ops[i]? = some o ∧ o.guard = none ∧ o.dst = d ∧ o.op = op ∧ listed.getD i true = false ∧ ∀ x ∈ ds, listed.getD x false = true := by
  obtain ⟨o, ho, hg, hd, hop, hdep⟩ := hR.out
  have hrd := ready_out hr
  exact ⟨o, ho, hg, hd, hop, hrd.2.1, fun x hx => by obtain ⟨e, he, he2, hb⟩ := hdep x hx; have := hrd.2.2 o ho e he hb; rwa [he2] at this⟩
theorem getD_no {listed : Array Bool} {i : Nat} (h : listed.getD i true = false) : listed.getD i false = false := by
  rcases Nat.lt_or_ge i listed.size with x | x
  · simpa [Array.getD, x] using h
  · simp [Array.getD, Nat.not_lt.2 x]
theorem PartV.low {w : World} {B C : Nat} {p : Pt} {v0 v1 v2 : Value} (h2 : PartV w C p v0 v1 v2) (hB : B ≤ C) : PartV w B p v0 v1 v2 := by
  cases p with
  | int most x => obtain ⟨fk, q1, q2, a, b, c, r⟩ := h2; exact ⟨fk, q1, q2, a, by omega, by omega, r⟩
  | text least most => obtain ⟨q1, q2, b, c, r⟩ := h2; exact ⟨q1, q2, by omega, by omega, r⟩
  | chal => obtain ⟨q1, q2, b, c, r⟩ := h2; exact ⟨q1, q2, by omega, by omega, r⟩
  | cidp => obtain ⟨q1, q2, b, c, r⟩ := h2; exact ⟨q1, q2, by omega, by omega, r⟩
  | uni => exact h2
  | retire => obtain ⟨q1, b, r⟩ := h2; exact ⟨q1, by omega, r⟩
  | ranges => exact h2
section
variable {W : World} {B : Nat} {p : Nat → Nat} {ops : Array Oper} {listed : Array Bool} {a : Act} {w : World} {Q : Exit → Act → World → Prop} (H : Ivt W B p listed a w)
include H
set_option maxHeartbeats 1000000 in
theorem step_bd0 (i d : Nat) (hR : Row ops i (some d) (.buildSlice 98 0 #[]) []) (hr : i ∈ Region.ready .any ops listed) (hi : i < 78) (h2 : 25 < d ∧ d < 80) (h4 : insK i = none) (h5 : i ≠ 0 ∧ i ≠ 76 ∧ i ≠ 77) (h6 : chkS i d = true) (hq : slotPt d = none) (hl : slotPl d = some []) :
    wpOp Try.prog ops Q i (fun a' w' => Ivt W B p (listed.setIfInBounds i true) a' w') a w := by
  obtain ⟨o, ho, hg, hd, hop, _, hdep⟩ := dep_in hR hr
  obtain ⟨v, w', hv, ho', hV⟩ := run_bd0 w B
  refine wpOp_val ho hg (v := v) (w' := w') ?_ ?_
  · unfold execOp
    rw [hop]
    simp only [List.map_toArray, List.map_cons, List.map_nil, Sem.run_bind, hv, Result.andThen, Sem.run_pure]
  · rw [hd]
    exact H.val i d v hi h2 h4 h5 (chkS_out h6) ho' (fun q' e => by rw [hq] at e; cases e) (fun l e => by rw [hl] at e; cases e; exact hV)
set_option maxHeartbeats 1000000 in
theorem step_bd1 (i d : Nat) (t0 : Nat) (q0 : Pt) (hR : Row ops i (some d) (.buildSlice 98 1 #[(0, .tmp t0)]) [opOf t0]) (hr : i ∈ Region.ready .any ops listed) (s0 : slotPt t0 = some q0) (hi : i < 78) (h2 : 25 < d ∧ d < 80) (h4 : insK i = none) (h5 : i ≠ 0 ∧ i ≠ 76 ∧ i ≠ 77) (h6 : chkS i d = true) (hq : slotPt d = none) (hl : slotPl d = some [q0]) :
    wpOp Try.prog ops Q i (fun a' w' => Ivt W B p (listed.setIfInBounds i true) a' w') a w := by
  obtain ⟨o, ho, hg, hd, hop, _, hdep⟩ := dep_in hR hr
  obtain ⟨v0, g0, V0⟩ := H.pt t0 q0 s0 (hdep _ (by simp))
  have e0 := ev_tmp g0
  obtain ⟨v, w', hv, ho', hV⟩ := run_bd1 V0
  refine wpOp_val ho hg (v := v) (w' := w') ?_ ?_
  · unfold execOp
    rw [hop]
    simp only [List.map_toArray, List.map_cons, List.map_nil, e0, Sem.run_bind, hv, Result.andThen, Sem.run_pure]
  · rw [hd]
    exact H.val i d v hi h2 h4 h5 (chkS_out h6) ho' (fun q' e => by rw [hq] at e; cases e) (fun l e => by rw [hl] at e; cases e; exact hV)
set_option maxHeartbeats 1000000 in
theorem step_bd2 (i d : Nat) (t0 t1 : Nat) (q0 q1 : Pt) (hR : Row ops i (some d) (.buildSlice 98 2 #[(0, .tmp t0), (1, .tmp t1)]) [opOf t0, opOf t1]) (hr : i ∈ Region.ready .any ops listed) (s0 : slotPt t0 = some q0) (s1 : slotPt t1 = some q1) (hi : i < 78) (h2 : 25 < d ∧ d < 80) (h4 : insK i = none) (h5 : i ≠ 0 ∧ i ≠ 76 ∧ i ≠ 77) (h6 : chkS i d = true) (hq : slotPt d = none) (hl : slotPl d = some [q0, q1]) :
    wpOp Try.prog ops Q i (fun a' w' => Ivt W B p (listed.setIfInBounds i true) a' w') a w := by
  obtain ⟨o, ho, hg, hd, hop, _, hdep⟩ := dep_in hR hr
  obtain ⟨v0, g0, V0⟩ := H.pt t0 q0 s0 (hdep _ (by simp))
  have e0 := ev_tmp g0
  obtain ⟨v1, g1, V1⟩ := H.pt t1 q1 s1 (hdep _ (by simp))
  have e1 := ev_tmp g1
  obtain ⟨v, w', hv, ho', hV⟩ := run_bd2 V0 V1
  refine wpOp_val ho hg (v := v) (w' := w') ?_ ?_
  · unfold execOp
    rw [hop]
    simp only [List.map_toArray, List.map_cons, List.map_nil, e0, e1, Sem.run_bind, hv, Result.andThen, Sem.run_pure]
  · rw [hd]
    exact H.val i d v hi h2 h4 h5 (chkS_out h6) ho' (fun q' e => by rw [hq] at e; cases e) (fun l e => by rw [hl] at e; cases e; exact hV)
set_option maxHeartbeats 1000000 in
theorem step_bd3 (i d : Nat) (t0 t1 t2 : Nat) (q0 q1 q2 : Pt) (hR : Row ops i (some d) (.buildSlice 98 3 #[(0, .tmp t0), (1, .tmp t1), (2, .tmp t2)]) [opOf t0, opOf t1, opOf t2]) (hr : i ∈ Region.ready .any ops listed) (s0 : slotPt t0 = some q0) (s1 : slotPt t1 = some q1) (s2 : slotPt t2 = some q2) (hi : i < 78) (h2 : 25 < d ∧ d < 80) (h4 : insK i = none) (h5 : i ≠ 0 ∧ i ≠ 76 ∧ i ≠ 77) (h6 : chkS i d = true) (hq : slotPt d = none) (hl : slotPl d = some [q0, q1, q2]) :
    wpOp Try.prog ops Q i (fun a' w' => Ivt W B p (listed.setIfInBounds i true) a' w') a w := by
  obtain ⟨o, ho, hg, hd, hop, _, hdep⟩ := dep_in hR hr
  obtain ⟨v0, g0, V0⟩ := H.pt t0 q0 s0 (hdep _ (by simp))
  have e0 := ev_tmp g0
  obtain ⟨v1, g1, V1⟩ := H.pt t1 q1 s1 (hdep _ (by simp))
  have e1 := ev_tmp g1
  obtain ⟨v2, g2, V2⟩ := H.pt t2 q2 s2 (hdep _ (by simp))
  have e2 := ev_tmp g2
  obtain ⟨v, w', hv, ho', hV⟩ := run_bd3 V0 V1 V2
  refine wpOp_val ho hg (v := v) (w' := w') ?_ ?_
  · unfold execOp
    rw [hop]
    simp only [List.map_toArray, List.map_cons, List.map_nil, e0, e1, e2, Sem.run_bind, hv, Result.andThen, Sem.run_pure]
  · rw [hd]
    exact H.val i d v hi h2 h4 h5 (chkS_out h6) ho' (fun q' e => by rw [hq] at e; cases e) (fun l e => by rw [hl] at e; cases e; exact hV)
theorem step_cl (i d f : Nat) (xs : Array Operand) (ats : Array TypeId) (q : Pt) (hR : Row ops i (some d) (.call { callee := .value (.func f), args := xs, argTypes := ats }) []) (hr : i ∈ Region.ready .any ops listed)
    (hf : ∀ args w, (callFunc f args).run Try.prog w = .ok (.enter f args) w) (hc : ∀ w, Calls Try.prog f (#[] ++ xs.map a.eval ++ #[]) w (MadeP q w)) (hB : B ≤ W.heap.size) (hi : i < 78) (h2 : 25 < d ∧ d < 80) (h4 : insK i = none) (h5 : i ≠ 0 ∧ i ≠ 76 ∧ i ≠ 77) (h6 : chkS i d = true) (hq : slotPt d = some q) (hl : slotPl d = none) :
    wpOp Try.prog ops Q i (fun a' w' => Ivt W B p (listed.setIfInBounds i true) a' w') a w := by
  obtain ⟨o, ho, hg, hd, hop, _, hdep⟩ := dep_in hR hr
  refine wpOp_call ho hg (f := f) (args := #[] ++ xs.map a.eval ++ #[]) ?_ ((hc w).mono ?_)
  · cases o
    simp only at hop
    subst hop
    exact hf _ _
  · rintro e w' ⟨v0, v1, v2, rfl, hp, ⟨f0, c0, f1, c1, f2, c2, rfl, rfl, rfl⟩, ho'⟩
    refine ⟨_, rfl, ?_⟩
    rw [hd]
    have hsz := H.ho.size
    exact H.val i d _ hi h2 h4 h5 (chkS_out h6) ho' (fun q' e => by rw [hq] at e; cases e; exact ⟨_, _, _, _, _, _, rfl, hp.low (by omega)⟩) (fun l e => by rw [hl] at e; cases e)
theorem step_ins (i s : Nat) (k : Int) (l : List Pt) (hR : Row ops i none (.insert 99 (.tmp 25) (.const (.int .i64 k)) (.tmp s)) [0, opOf s]) (hr : i ∈ Region.ready .any ops listed)
    (hi : i < 78) (hk : insK i = some k) (h5 : i ≠ 0 ∧ i ≠ 76 ∧ i ≠ 77) (hinj : chkI i k = true) (h6 : chkN i 100 = true) (hs : slotPl s = some l) (ht : tab k = some l) :
    wpOp Try.prog ops Q i (fun a' w' => Ivt W B p (listed.setIfInBounds i true) a' w') a w := by
  obtain ⟨o, ho, hg, hd, hop, hn, hdep⟩ := dep_in hR hr
  obtain ⟨mb, v, e1, e2, w', hrun, hI⟩ := H.ins i s k l hi hk h5 (chkI_out hinj) (fun t ht hs => (chkN_out h6 t ht hs).1) hs ht (hdep _ (by simp)) (hdep _ (by simp)) (getD_no hn)
  have ek : a.eval (.const (.int .i64 k)) = .int .i64 k := rfl
  refine wpOp_skip ho hg (w' := w') ?_ ?_
  · unfold execOp
    rw [hop]
    simp only [e1, e2, ek, Sem.run_bind, hrun, Result.andThen, Sem.run_pure]
  · rw [hd]; exact hI
theorem step_mk (hR : Row ops 0 (some 25) (.makeMap 99 none) []) (hr : 0 ∈ Region.ready .any ops listed) (h6 : chkN 0 25 = true) :
    wpOp Try.prog ops Q 0 (fun a' w' => Ivt W B p (listed.setIfInBounds 0 true) a' w') a w := by
  obtain ⟨o, ho, hg, hd, hop, hn, hdep⟩ := dep_in hR hr
  refine wpOp_val ho hg (v := .map (some w.heap.size)) (w' := w.alloc (.map #[] 0)) ?_ ?_
  · unfold execOp
    rw [hop]
    simp [go_sem, run_makeMap, Result.andThen]
  · rw [hd]; exact H.mk0 (chkN_out h6) rfl (getD_no hn)
theorem step_mv (hR : Row ops 76 (some 80) (.move (.tmp 25)) [0]) (hr : 76 ∈ Region.ready .any ops listed) (h6 : chkN 76 80 = true) :
    wpOp Try.prog ops Q 76 (fun a' w' => Ivt W B p (listed.setIfInBounds 76 true) a' w') a w := by
  obtain ⟨o, ho, hg, hd, hop, hn, hdep⟩ := dep_in hR hr
  have d0 := hdep 0 (by simp)
  obtain ⟨mb, es, c, m1, _⟩ := H.mp d0
  refine wpOp_val ho hg (v := .map (some mb)) (w' := w) ?_ ?_
  · unfold execOp
    rw [hop]
    simp only [ev_tmp m1, Sem.run_pure]
  · rw [hd]; exact H.mv 76 80 25 _ (.inl ⟨rfl, rfl, rfl⟩) rfl (chkN_out h6) d0 (fun h => by omega) m1
theorem step_as (hR : Row ops 77 (some 0) (.assign (.tmp 80)) [0, 76]) (hr : 77 ∈ Region.ready .any ops listed) (h6 : chkN 77 0 = true) :
    wpOp Try.prog ops Q 77 (fun a' w' => Ivt W B p (listed.setIfInBounds 77 true) a' w') a w := by
  obtain ⟨o, ho, hg, hd, hop, hn, hdep⟩ := dep_in hR hr
  have d0 := hdep 0 (by simp)
  obtain ⟨mb, es, c, m1, _⟩ := H.mp d0
  have m2 := H.l6 (hdep 76 (by simp))
  rw [m1] at m2
  refine wpOp_val ho hg (v := .map (some mb)) (w' := w) ?_ ?_
  · unfold execOp
    rw [hop]
    simp only [ev_tmp m2, Sem.run_pure]
  · rw [hd]; exact H.mv 77 0 80 _ (.inr ⟨rfl, rfl, rfl⟩) rfl (chkN_out h6) d0 (fun _ => hdep 76 (by simp)) m2
end
end Go.Proofs.Ytmmgmpghkpbgkaa
