/- The table of parts: one operation of the map literal, whichever comes up. -/
import Derived.Test.YtmmgmpghkpbgkaaFrU
namespace Go.Proofs.Ytmmgmpghkpbgkaa
open Go Go.RowKit
set_option linter.unusedVariables false
set_option linter.unusedSimpArgs false

theorem wpOp_val {P : Program} {ops : Array Oper} {Q : Exit → Act → World → Prop} {i : Nat} {o : Oper} {K : Act → World → Prop} {a : Act} {w w' : World} {v : Value} (ho : ops[i]? = some o) (hg : o.guard = none) (hr : (execOp a.eval o).run P w = .ok (.value v) w') (h : K (a.put o.dst v) w') : wpOp P ops Q i K a w := by
  refine wpOp_step ho (fun K' hK => ?_)
  rw [if_pos (by simp [Region.wanted, hg])]
  unfold Oper.wp
  rw [hr]
  exact hK _ _ h
theorem wpOp_skip {P : Program} {ops : Array Oper} {Q : Exit → Act → World → Prop} {i : Nat} {o : Oper} {K : Act → World → Prop} {a : Act} {w w' : World} (ho : ops[i]? = some o) (hg : o.guard = none) (hr : (execOp a.eval o).run P w = .ok .skip w') (h : K (a.put o.dst undef) w') : wpOp P ops Q i K a w := by
  refine wpOp_step ho (fun K' hK => ?_)
  rw [if_pos (by simp [Region.wanted, hg])]
  unfold Oper.wp
  rw [hr]
  exact hK _ _ h
theorem wpOp_call {P : Program} {ops : Array Oper} {Q : Exit → Act → World → Prop} {i : Nat} {o : Oper} {K : Act → World → Prop} {a : Act} {w : World} {f : FuncId} {args : Array Value} (ho : ops[i]? = some o) (hg : o.guard = none) (hr : (execOp a.eval o).run P w = .ok (.enter f args) w) (h : Calls P f args w fun e w' => ∃ v, e = .returned v ∧ K (a.put o.dst v) w') : wpOp P ops Q i K a w := by
  refine wpOp_step ho (fun K' hK => ?_)
  rw [if_pos (by simp [Region.wanted, hg])]
  unfold Oper.wp
  rw [hr, Oper.upon_enter]
  refine h.mono ?_
  rintro e w' ⟨v, rfl, hk⟩
  exact hK _ _ hk
def chkS (i d : Nat) : Bool := (List.range 81).all fun t => !((slotPt t).isSome || (slotPl t).isSome) || opOf t != i || t == d
theorem chkS_out {i d : Nat} (h : chkS i d = true) : ∀ t, t < 81 → (slotPt t ≠ none ∨ slotPl t ≠ none) → opOf t = i → t = d := by
  intro t ht hs he
  have := (List.all_eq_true.1 h) t (List.mem_range.2 ht)
  simp only [Bool.or_eq_true, Bool.not_eq_true', bne_iff_ne, beq_iff_eq] at this
  rcases this with (h1 | h1) | h1
  · rw [Bool.or_eq_false_iff] at h1
    rcases hs with x | x
    · rw [Option.isSome_eq_false_iff, Option.isNone_iff_eq_none] at h1; exact absurd h1.1 x
    · have h2 := h1.2; rw [Option.isSome_eq_false_iff, Option.isNone_iff_eq_none] at h2; exact absurd h2 x
  · exact absurd he h1
  · exact h1
def chkN (i d : Nat) : Bool := (List.range 81).all fun t => !((slotPt t).isSome || (slotPl t).isSome) || (opOf t != i && t != d)
theorem chkN_out {i d : Nat} (h : chkN i d = true) : ∀ t, t < 81 → (slotPt t ≠ none ∨ slotPl t ≠ none) → opOf t ≠ i ∧ t ≠ d := by
  intro t ht hs
  have := (List.all_eq_true.1 h) t (List.mem_range.2 ht)
  simp only [Bool.or_eq_true, Bool.and_eq_true, Bool.not_eq_true', bne_iff_ne] at this
  rcases this with h1 | h1
  · rw [Bool.or_eq_false_iff] at h1
    rcases hs with x | x
    · rw [Option.isSome_eq_false_iff, Option.isNone_iff_eq_none] at h1; exact absurd h1.1 x
    · have h2 := h1.2; rw [Option.isSome_eq_false_iff, Option.isNone_iff_eq_none] at h2; exact absurd h2 x
  · exact h1
def chkI (i : Nat) (k : Int) : Bool := (List.range 78).all fun j => insK j != some k || j == i
theorem chkI_out {i : Nat} {k : Int} (h : chkI i k = true) : ∀ j, j < 78 → insK j = some k → j = i := by
  intro j hj hk
  have := (List.all_eq_true.1 h) j (List.mem_range.2 hj)
  rw [hk] at this
  simpa using this
/-- What is asked of an operation of the literal. -/
structure Row (ops : Array Oper) (i : Nat) (d : Option Tmp) (op : Op) (ds : List Nat) : Prop where
  out : ∃ o, ops[i]? = some o ∧ o.guard = none ∧ o.dst = d ∧ o.op = op ∧ ∀ x ∈ ds, ∃ e ∈ o.after.toList, e.on = x ∧ Region.binds .any e = true
section
variable {W : World} {B : Nat} {p : Nat → Nat} {ops : Array Oper} {listed : Array Bool} {a : Act} {w : World} {Q : Exit → Act → World → Prop} (H : Ivt W B p listed a w)
include H
omit H in
theorem ev_tmp {t : Nat} {v : Value} (h : a.tmps[t]? = some v) : a.eval (.tmp t) = v := by simp [Act.eval, Array.getD_eq_getD_getElem?, h]
theorem step_ld (i j d : Nat) (q : Pt) (hR : Row ops i (some d) (.load 105 (.tmp j)) []) (hj : 1 ≤ j ∧ j ≤ 12) (hP : PB W B q (p j)) (hi : i < 78) (h2 : 25 < d ∧ d < 80) (h4 : insK i = none) (h5 : i ≠ 0 ∧ i ≠ 76 ∧ i ≠ 77) (h6 : chkS i d = true) (hq : slotPt d = some q) (hl : slotPl d = none) :
    wpOp Try.prog ops Q i (fun a' w' => Ivt W B p (listed.setIfInBounds i true) a' w') a w := by
  obtain ⟨o, ho, hg, hd, hop, _⟩ := hR.out
  obtain ⟨v, hv, hV⟩ := run_ld (hP.keep0 H.ho)
  have he := ev_tmp (H.fx j hj.1 hj.2)
  refine wpOp_val ho hg (v := v) (w' := w) ?_ ?_
  · unfold execOp
    rw [hop]
    simp only [he, Sem.run_bind, hv, Result.andThen, Sem.run_pure]
  · rw [hd]
    exact H.val i d v hi h2 h4 h5 (chkS_out h6) (Only.refl _ _) (fun q' e => by rw [hq] at e; cases e; exact hV) (fun l e => by rw [hl] at e; cases e)
end
end Go.Proofs.Ytmmgmpghkpbgkaa
