/- Contracts of package frame: guard. -/
import Derived.Test.YtgiekhohhogdiaaDoorRfC
import Derived.Tactics
import Derived.Tactics2
import Derived.Defers
import Derived.Recover
import Derived.Conc.MuLone
namespace Go.Proofs.YtgiekhohhogdiaaDoor
open Go Go.RowKit
set_option linter.unusedVariables false
set_option linter.unusedSimpArgs false

theorem as_mal (v : Value) (W : World) : (Instr.typeAssert (.iface 91 v) 20 91 true).run Tryd.prog W = .ok (.tuple #[v, .bool true]) W := by kernel_rfl
/-- A call of this function enters it. -/
def Ent (fn : Nat) : Prop := ∀ (args : Array Value) (w : World), (callFunc fn args).run Tryd.prog w = .ok (.enter fn args) w
theorem ent_encode : Ent 25 := fun args w => MuLone.run_callFunc_enter Tryd.func25 (by kernel_rfl) rfl args w
theorem ent_decode : Ent 28 := fun args w => MuLone.run_callFunc_enter Tryd.func28 (by kernel_rfl) rfl args w
set_option maxRecDepth 100000 in
set_option maxHeartbeats 1000000 in
theorem grd_panicking (w : World) : CallsD Tryd.prog 34 #[] (.panicking ({ v := .iface 91 (.agg #[]), recovered := false } :: [])) w fun e u' w' =>
    e = .returned (.tuple #[]) ∧ u' = .panicking ({ v := .iface 91 (.agg #[]), recovered := true } :: []) ∧ Only [] w w' := by
  refine callsD_of_wpS Tryd.func34 rfl fun c₀ cs hu => ?_
  apply wpS_seq
  apply wpS_region
  simp [wpOpsS, go_sem, recoverD, hu, Tryd.ntmps34, Exit.thenS]
  refine wpS_of_wp ?_
  have has := fun W => as_mal (.agg #[]) W
  go_wp2_with fail
  refine ⟨rfl, _, rfl, .tuple #[], ?_, rfl, rfl, (Only.refl [] w).alloc _⟩
  simp [results, Tryd.f34, go_sem]
set_option maxRecDepth 100000 in
set_option maxHeartbeats 1000000 in
theorem grd_idle (w : World) : CallsD Tryd.prog 34 #[] .returning w fun e u' w' => e = .returned (.tuple #[]) ∧ u' = .returning ∧ w' = w := by
  refine callsD_of_wpS Tryd.func34 rfl fun c₀ cs hu => ?_
  apply wpS_seq
  apply wpS_region
  simp [wpOpsS, go_sem, recoverD, hu, Tryd.ntmps34, Exit.thenS]
  refine wpS_of_wp ?_
  go_wp2_with fail
  refine ⟨rfl, .returning, by rw [← hu], .tuple #[], ?_, rfl, rfl, rfl⟩
  simp [results, Tryd.f34, go_sem]
set_option maxRecDepth 100000 in
set_option maxHeartbeats 1000000 in
theorem guard_true {fn : Nat} {cap : Array Value} (w : World) (R : World → Prop) (hE : Ent fn) (h : Calls Tryd.prog fn cap w fun e w' => e = .returned (.tuple #[]) ∧ R w') :
    Calls Tryd.prog 24 #[.func (.func fn) #[] cap] w fun e w' => e = .returned (.bool true) ∧ R w' := by
  have hE2 : (callFunc fn cap).run Tryd.prog w = .ok (.enter fn cap) w := hE cap w
  go_enter_defers Tryd.func24, Tryd.ntmps24
  go_wp2_with fail
  refine h.mono ?_
  rintro e w2 ⟨rfl, hr⟩
  go_wp2_with fail
  refine leaves_cons (f := 34) (args := #[]) (by simp) (by simp [go_sem]) ?_
  refine (grd_idle _).mono ?_
  rintro e u' w'' ⟨rfl, rfl, rfl⟩
  simp [Leaves, settle, results, Tryd.f24, go_sem]
  exact hr
set_option maxRecDepth 100000 in
set_option maxHeartbeats 1000000 in
theorem guard_false {fn : Nat} {cap : Array Value} (w : World) (R : World → Prop) (hR : ∀ a b, R a → Only [] a b → R b) (hE : Ent fn) (h : Calls Tryd.prog fn cap w fun e w' => e = MAL ∧ R w') :
    Calls Tryd.prog 24 #[.func (.func fn) #[] cap] w fun e w' => e = .returned (.bool false) ∧ R w' := by
  unfold MAL at h
  have hE2 : (callFunc fn cap).run Tryd.prog w = .ok (.enter fn cap) w := hE cap w
  go_enter_defers Tryd.func24, Tryd.ntmps24
  go_wp2_with fail
  refine h.mono ?_
  rintro e w2 ⟨rfl, hr⟩
  go_wp2_with fail
  refine leaves_cons (f := 34) (args := #[]) (by simp) (by simp [go_sem]) ?_
  refine (grd_panicking _).mono ?_
  rintro e u' w'' ⟨rfl, rfl, ho⟩
  simp [Leaves, settle, results, Tryd.f24, go_sem]
  exact hR _ _ hr ho
end Go.Proofs.YtgiekhohhogdiaaDoor
