/- A drawing region of loads before one store, inside a fence (a round of a range over a function too). -/
import Derived.Test.YtnnmmmeppbdlnaaDoorSnC
import Derived.StillTailTactics
namespace Go.Proofs.YtnnmmmeppbdlnaaDoor
open Go Go.RowKit Go.Shelf
set_option linter.unusedVariables false
set_option linter.unusedSimpArgs false

def calmOp (o : Oper) : Bool := match o.op with
  | .move _ | .pick _ _ _ | .index _ _ _ | .unOp _ _ _ | .load _ _ | .store _ _ _ | .binOp _ _ _ _ _ | .fieldAddr _ _ _ | .indexAddr _ _ _ | .convert _ _ _ | .alloc _ => true
  | .nilCheck _ => true
  | _ => false

def calmRes : Result Next → Prop
  | .ok (.value _) _ => True
  | .ok .skip _ => True
  | .ok _ _ => False
  | .halt _ _ => True

theorem calm_v {s : Sem Value} (P : Program) (w : World) : calmRes ((do pure (.value (← s)) : Sem Next).run P w) := by
  rw [Sem.run_bind]
  cases s.run P w <;> simp [calmRes]
theorem calm_u {s : Sem Unit} (P : Program) (w : World) : calmRes ((do s; pure .skip : Sem Next).run P w) := by
  rw [Sem.run_bind]
  cases s.run P w <;> simp [calmRes]

theorem calm_next {o : Oper} (h : calmOp o = true) (hn : ∀ x, o.op ≠ .nilCheck x) (ρ : Operand → Value) (P : Program) (w : World) : calmRes ((execOp ρ o).run P w) := by
  unfold execOp
  unfold calmOp at h
  cases ho : o.op <;> simp only [ho] at h hn ⊢ <;> first | contradiction | exact calm_v P w | exact calm_u P w | exact absurd rfl (hn _) | (simp [calmRes]; done) | (simp [calmRes]; generalize Sem.run P _ w = r; cases r <;> simp [Result.andThen])

theorem calm_panic (P : Program) (w : World) : calmRes ((runtimePanic .nilDeref : Sem Next).run P w) := by
  unfold runtimePanic
  simp [go_sem, calmRes]
theorem calm_chk {o : Oper} (x : Operand) (hx : o.op = .nilCheck x) (ρ : Operand → Value) (P : Program) (w : World) : calmRes ((execOp ρ o).run P w) := by
  unfold execOp
  simp only [hx]
  split
  · exact calm_panic P w
  · exact calm_panic P w
  · exact calm_panic P w
  · split
    · exact calm_panic P w
    · simp [calmRes, Result.andThen]
      generalize Sem.run P (nilAhead (P.types.size + Made.depth) _ _ _) w = r
      cases r with
      | halt _ _ => simp
      | ok b w' =>
        simp only
        by_cases hb : b = some false <;> simp [hb]
    · simp [calmRes]
  · simp [calmRes]
theorem calm_op {o : Oper} (h : calmOp o = true) (ρ : Operand → Value) (P : Program) (w : World) : calmRes ((execOp ρ o).run P w) := by
  by_cases hn : ∀ x, o.op ≠ .nilCheck x
  · exact calm_next h hn ρ P w
  · obtain ⟨x, hx⟩ := Classical.not_forall.1 hn
    exact calm_chk x (Classical.not_not.1 hx) ρ P w
theorem calm_about {o : Oper} (h : calmOp o = true) (P : Program) (w : World) (ρ : Operand → Value) : o.about P w ρ = none := by
  unfold Oper.about
  unfold calmOp at h
  cases ho : o.op <;> simp only [ho] at h ⊢ <;> contradiction
theorem calm_defer {o : Oper} (h : calmOp o = true) (c : Call) : o.op ≠ .defer c := by
  intro hc; unfold calmOp at h; rw [hc] at h; cases h

section
variable {F : Fence} {n : Nat} {P : Program} {ops : Array Oper} {Q : Exit → Act → World → Prop} {md : Region.Mode}
theorem calm_wpIn {o : Oper} {a : Act} {w : World} {K : Act → World → Prop} (h : calmOp o = true) (hh : o.wp P a w K Q) : o.wpIn F n P a w K Q := by
  unfold Oper.wpIn
  refine ⟨fun f hf => (by rw [calm_about h] at hf; cases hf), ?_⟩
  rw [Oper.semAt_eq _ _ _ (calm_defer h)]
  unfold Oper.wp at hh
  have hc := calm_op h a.eval P w
  generalize (execOp a.eval o).run P w = r at *
  cases r with
  | ok x w' => cases x <;> first | exact hh | exact hc.elim
  | halt x w' => cases x <;> exact hh
theorem calm_wpOpIn {i : Nat} {K : Act → World → Prop} {a : Act} {w : World} (hq : ¬ LetsOut Q) (h : ∀ o, ops[i]? = some o → calmOp o = true) (hh : wpOp P ops Q i K a w) : wpOpIn F n P ops Q i K a w := by
  unfold wpOp at hh
  unfold wpOpIn
  cases ho : ops[i]? with
  | none => simpa [ho] using hh
  | some o =>
    simp only [ho] at hh ⊢
    split
    · rename_i hw
      simp only [hw, if_true] at hh
      exact calm_wpIn (h o ho) (hh.resolve_right fun x => hq x.2)
    · rename_i hw
      simp only [hw] at hh
      exact ⟨fun f hf => (by rw [calm_about (h o ho)] at hf; cases hf), hh⟩
theorem calm_any (hq : ¬ LetsOut Q) (h : ∀ (i : Nat) o, ops[i]? = some o → calmOp o = true) : ∀ (fuel : Nat) (listed : Array Bool) (a : Act) (w : World),
    wpAny P md ops Q fuel listed a w → wpAnyIn F n P md ops Q fuel listed a w
  | 0, listed, a, w, hh => hh
  | fuel + 1, listed, a, w, hh => ⟨hh.1, fun i hi => calm_wpOpIn hq (h i) (wpOp_mono (fun a w => calm_any hq h fuel _ a w) (hh.2 i hi))⟩
end

section
variable {F : Fence} {m : Nat} {P : Program}
theorem wpIn_region_still_tail {id : Nat} {Q : Exit → Act → World → Prop} {a : Act} {w : World} {l : List Oper} (n : Nat) (hm : P.follows .mixedOrders = true) (hB : Region.lexTailB .any l.toArray n = true) (hcalm : l.all calmOp = true)
    (h : wpStill P l.toArray { w with drawn := w.drawn + 1 } (fun a' => wpList P l.toArray (fun e a w => e ≠ .outgrown ∧ Q e a w) (l.drop n) a' { w with drawn := w.drawn + 1 }) (l.take n) a) : (Code.region id l.toArray true).wpIn F m P Q a w := by
  simp only [Region.lexTailB, Bool.and_eq_true, decide_eq_true_eq] at hB
  obtain ⟨⟨⟨⟨hsel, hn⟩, hs⟩, hc⟩, hlex⟩ := hB
  have hn' : n < l.length := by simpa using hn
  have htl : (l.take n).length = n := by simp; omega
  have hdl : (l.drop n).length = l.toArray.size - n := by simp
  have inv0 : HeadInv .any l.toArray n (Array.replicate l.toArray.size false) :=
    ⟨by simp, fun j oj _ hl => (by rw [getD_replicate_false] at hl; cases hl), fun t _ ht => getD_in (by simpa using ht) (getD_replicate_false _ _)⟩
  have H := wpAnyL_lex (md := .any) (g := l.toArray.size - n) hsel hs hc hn (l.take n) 0 _ a (fun j hj => by
    have hj' : j < n := by rw [htl] at hj; exact hj
    simp [hj']) (by simpa using htl) inv0 (by rw [htl]; exact hlex) h
  have := wpAny_of_head (Q' := fun e a w => e ≠ .outgrown ∧ Q e a w) (g := l.toArray.size - n) (fun listed a' hL => by
    have := wpAny_of_seq (md := .any) (Q' := fun e a w => e ≠ .outgrown ∧ Q e a w) (l.drop n) n listed a' { w with drawn := w.drawn + 1 } (fun j => by simp [List.getElem?_drop]) (by rw [hdl]; exact hL.1) hL.2
    rwa [hdl] at this) _ _ _ H
  rw [htl, show n + (l.toArray.size - n) = l.toArray.size by omega] at this
  have hcalm' : ∀ (i : Nat) o, l.toArray[i]? = some o → calmOp o = true := fun i o ho => by
    rw [List.all_eq_true] at hcalm
    exact hcalm o (List.mem_of_getElem? (by simpa using ho))
  have hno : ¬ LetsOut (fun e a w => e ≠ .outgrown ∧ Q e a w) := fun ⟨a, w, h1, _⟩ => h1 rfl
  have := calm_any (F := F) (n := m) hno hcalm' _ _ _ _ this
  have hmono : ∀ (fuel : Nat) (listed : Array Bool) (a : Act) (w : World), wpAnyIn F m P .any l.toArray (fun e a w => e ≠ .outgrown ∧ Q e a w) fuel listed a w → wpAnyIn F m P .any l.toArray Q fuel listed a w := by
    intro fuel
    induction fuel with
    | zero => exact fun _ _ _ h => ⟨h.1, h.2.2⟩
    | succ k ih =>
      intro listed a w h
      refine ⟨fun e => (h.1 e).2, fun i hi => ?_⟩
      have h1 := wpOpIn_mono (fun a w => ih _ a w) (h.2 i hi)
      unfold wpOpIn at h1 ⊢
      cases ho : l.toArray[i]? with
      | none => simpa [ho] using h1
      | some o =>
        simp only [ho] at h1 ⊢
        split
        · rename_i hw
          simp only [hw, if_true] at h1
          unfold Oper.wpIn at h1 ⊢
          refine ⟨h1.1, ?_⟩
          have hc := calm_op (hcalm' i o ho) a.eval P w
          rw [Oper.semAt_eq _ _ _ (calm_defer (hcalm' i o ho))] at h1 ⊢
          have h2 := h1.2
          generalize (execOp a.eval o).run P w = r at *
          cases r with
          | ok x w' => cases x <;> first | exact h2 | exact hc.elim
          | halt x w' => cases x <;> first | exact h2.2 | exact h2
        · rename_i hw
          simp only [hw] at h1
          exact h1
  exact wpIn_region_any hm (hmono _ _ _ _ this)
end
end Go.Proofs.YtnnmmmeppbdlnaaDoor
