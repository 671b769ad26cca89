/- Contracts of package frame: guard. -/
import Derived.Test.YtmmgmpghkpbgkaaFrA
import Derived.Tactics
import Derived.Tactics2
import Derived.Defers
import Derived.Recover
import Derived.Conc.MuLone
namespace Go.Proofs.Ytmmgmpghkpbgkaa
open Go Go.RowKit
set_option linter.unusedVariables false
set_option linter.unusedSimpArgs false

theorem as_mal (v : Value) (W : World) : (Instr.typeAssert (.iface 136 v) 20 136 true).run Try.prog W = .ok (.tuple #[v, .bool true]) W := by kernel_rfl
/-- A call of this function enters it. -/
def Ent (fn : Nat) : Prop := ∀ (args : Array Value) (w : World), (callFunc fn args).run Try.prog w = .ok (.enter fn args) w
theorem ent_valid : Ent 61 := fun args w => MuLone.run_callFunc_enter Try.func61 (by kernel_rfl) rfl args w
theorem ent_encode : Ent 57 := fun args w => MuLone.run_callFunc_enter Try.func57 (by kernel_rfl) rfl args w
theorem ent_decode : Ent 59 := fun args w => MuLone.run_callFunc_enter Try.func59 (by kernel_rfl) rfl args w
set_option maxRecDepth 100000 in
set_option maxHeartbeats 1000000 in
theorem grd_panicking (w : World) : CallsD Try.prog 76 #[] (.panicking ({ v := .iface 136 (.agg #[]), recovered := false } :: [])) w fun e u' w' =>
    e = .returned (.tuple #[]) ∧ u' = .panicking ({ v := .iface 136 (.agg #[]), recovered := true } :: []) ∧ Only [] w w' := by
  refine callsD_of_wpS Try.func76 rfl fun c₀ cs hu => ?_
  apply wpS_seq
  apply wpS_region
  simp [wpOpsS, go_sem, recoverD, hu, Try.ntmps76, Exit.thenS]
  refine wpS_of_wp ?_
  have has := fun W => as_mal (.agg #[]) W
  go_wp2_with fail
  refine ⟨rfl, _, rfl, .tuple #[], ?_, rfl, rfl, (Only.refl [] w).alloc _⟩
  simp [results, Try.f76, go_sem]
set_option maxRecDepth 100000 in
set_option maxHeartbeats 1000000 in
theorem grd_idle (w : World) : CallsD Try.prog 76 #[] .returning w fun e u' w' => e = .returned (.tuple #[]) ∧ u' = .returning ∧ w' = w := by
  refine callsD_of_wpS Try.func76 rfl fun c₀ cs hu => ?_
  apply wpS_seq
  apply wpS_region
  simp [wpOpsS, go_sem, recoverD, hu, Try.ntmps76, Exit.thenS]
  refine wpS_of_wp ?_
  go_wp2_with fail
  refine ⟨rfl, .returning, by rw [← hu], .tuple #[], ?_, rfl, rfl, rfl⟩
  simp [results, Try.f76, go_sem]
set_option maxRecDepth 100000 in
set_option maxHeartbeats 1000000 in
theorem guard_true {fn : Nat} {cap : Array Value} (w : World) (R : World → Prop) (hE : Ent fn) (h : Calls Try.prog fn cap w fun e w' => e = .returned (.tuple #[]) ∧ R w') :
    Calls Try.prog 56 #[.func (.func fn) #[] cap] w fun e w' => e = .returned (.bool true) ∧ R w' := by
  have hE2 : (callFunc fn cap).run Try.prog w = .ok (.enter fn cap) w := hE cap w
  go_enter_defers Try.func56, Try.ntmps56
  go_wp2_with fail
  refine h.mono ?_
  rintro e w2 ⟨rfl, hr⟩
  go_wp2_with fail
  refine leaves_cons (f := 76) (args := #[]) (by simp) (by simp [go_sem]) ?_
  refine (grd_idle _).mono ?_
  rintro e u' w'' ⟨rfl, rfl, rfl⟩
  simp [Leaves, settle, results, Try.f56, go_sem]
  exact hr
set_option maxRecDepth 100000 in
set_option maxHeartbeats 1000000 in
theorem guard_false {fn : Nat} {cap : Array Value} (w : World) (R : World → Prop) (hR : ∀ a b, R a → Only [] a b → R b) (hE : Ent fn) (h : Calls Try.prog fn cap w fun e w' => e = MAL ∧ R w') :
    Calls Try.prog 56 #[.func (.func fn) #[] cap] w fun e w' => e = .returned (.bool false) ∧ R w' := by
  unfold MAL at h
  have hE2 : (callFunc fn cap).run Try.prog w = .ok (.enter fn cap) w := hE cap w
  go_enter_defers Try.func56, Try.ntmps56
  go_wp2_with fail
  refine h.mono ?_
  rintro e w2 ⟨rfl, hr⟩
  go_wp2_with fail
  refine leaves_cons (f := 76) (args := #[]) (by simp) (by simp [go_sem]) ?_
  refine (grd_panicking _).mono ?_
  rintro e u' w'' ⟨rfl, rfl, ho⟩
  simp [Leaves, settle, results, Try.f56, go_sem]
  exact hR _ _ hr ho
end Go.Proofs.Ytmmgmpghkpbgkaa
