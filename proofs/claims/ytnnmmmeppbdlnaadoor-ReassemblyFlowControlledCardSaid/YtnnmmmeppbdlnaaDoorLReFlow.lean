/-
  Proved: ReassemblyFlowControlled returns true for every input, on every world, and leaves its arguments alone; no condition besides the statement's own.
-/
import Derived.Test.YtnnmmmeppbdlnaaDoorRows
import Derived.Test.YtnnmmmeppbdlnaaDoorCards
import Derived.Test.YtnnmmmeppbdlnaaDoorTie
import Derived.Test.YtnnmmmeppbdlnaaDoorSnS
import Derived.SevenTiedAt
import Derived.WalkKit
import Derived.ProofKit
import Derived.OpenShut
import Derived.ShutString
import Derived.ChangeOld
import Derived.Below
import Derived.Test.YtnnmmmeppbdlnaaDoorArg
import Derived.Test.YtnnmmmeppbdlnaaDoorFoX
namespace Go.Proofs.YtnnmmmeppbdlnaaDoor.reassemblyFlowControlled
open Go.ChangeShapes Go.WideShapes Go.ChangeAt Go.RowKit
open Go.ChangeMaps (open_string shut_string)
set_option linter.unusedVariables false

theorem own : ownKnob Tryd.prog.godebug = none := by kernel_rfl
theorem laidOut : laidOutB Tryd.prog = true := by kernel_rfl

set_option maxRecDepth 100000 in
theorem lifted (os : Os) (started : os.Started) (H : Type) (enc : TypeId × Value → H) :
    ReturnsInHanded {} Tryd.checked os 10 .any (fun w args => (Rows.reassemblyFlowControlledSpec.pre enc Tryd.prog Tryd.f10 [] false w args ∧ laidMet Tryd.prog lst w) ∧ sizedMet enc Tryd.prog Tryd.f10 (OpenSpec.ofChange Rows.reassemblyFlowControlledSpec) false w args) (Rows.reassemblyFlowControlledSpec.post enc Tryd.prog Tryd.f10 false true false false) := by
  refine returnsInHanded_of_change_and (C := Tryd.checked) (X := fun w _ => laidMet Tryd.prog lst w) (fun _ _ _ hh h => h.of_heap hh) own started (by kernel_rfl) Tryd.func10
    (ChangeSpec.witness_shaped (enc := enc) (C := Tryd.checked) (os := os) (X := fun w _ => laidMet Tryd.prog lst w) false (World.doorLaid Tryd.prog 400 os) #[.int .i64 0, .int .i64 0, .slice none 0 0] 8 rfl (World.shaped_of_RefB (by kernel_rfl) (by kernel_rfl)) (by kernel_rfl) (by kernel_rfl) (by kernel_rfl) (door_met os _)) ?_
  intro W base args ds gs before hval0 hW _ _ hL _
  obtain ⟨sc, sf, sr, sg, hSnt⟩ := snt_of_laid hL
  have hval : ∀ (j : Nat) t v, Tryd.f10.params[j]? = some t → args[j]? = some v → Value.okWide Tryd.prog W .any base t v := hval0
  have hW' := hW
  obtain ⟨p, q, hA0, hV, rfl, hfz, hnd⟩ := hW
  have hA : DataW.TrodAll enc Tryd.prog W 0 (fun _ => true) true Tryd.f10.params.toList args.toList ds p := hA0
  rw [Tryd.params10] at hA hval
  obtain ⟨v0, vs0, d0, ds0, p0, q0, hargs, rfl, rfl, h0, r0⟩ := trodAll_cons hA
  obtain ⟨v1, vs1, d1, ds1, p1, q1, rfl, rfl, rfl, h1, r1⟩ := trodAll_cons r0
  obtain ⟨v2, vs2, d2, ds2, p2, q2, rfl, rfl, rfl, h2, r2⟩ := trodAll_cons r1
  obtain ⟨rfl, rfl, rfl⟩ := trodAll_nil r2
  obtain rfl : args = #[v0, v1, v2] := by cases args; simp_all
  obtain ⟨rfl, rfl⟩ := trodVars_none hV
  obtain ⟨a0, rfl, rfl, rfl, w0⟩ := open_int Tryd.underlying3 (hval 0 3 v0 rfl rfl) h0
  obtain ⟨a1, rfl, rfl, rfl, w1⟩ := open_int Tryd.underlying3 (hval 1 3 v1 rfl rfl) h1
  obtain ⟨a2, len2, cap2, rfl⟩ := okWide_slice Tryd.underlying22 (hval 2 22 v2 rfl rfl)
  have k2 := h2
  have lt2 : ∀ x ∈ p2, x.block < W.heap.size := by obtain ⟨m, hm⟩ := k2; exact DataW.trod_lt m _ _ _ hm
  obtain ⟨fuel2, hf2⟩ := h2
  obtain ⟨V2, w2⟩ := steps_of (cap := cap2) Tryd.underlying22 Tryd.underlying32 (by kernel_rfl) (by kernel_rfl) Tryd.underlying4 Tryd.underlying3 Tryd.underlying3 Tryd.underlying9 Tryd.underlying4 hf2
  clear hA0 hval0
  refine (flow_walk a0 a1 a2 len2 cap2 V2 W w0 w1 w2 sc sf sr sg hSnt).mono fun e W' ⟨he, bel⟩ => ?_
  subst he
  exact ⟨_, rfl, _, _, _, [], _, [], hW', trodAll_mk1 (shut_bool Tryd.underlying4 _), (trodAll_cons_mk (shut_int Tryd.underlying3 w0) (trodAll_cons_mk (shut_int Tryd.underlying3 w1) (trodAll_cons_mk (Below.trod laidOut (by kernel_rfl) (of_decide_eq_true (by kernel_rfl)) k2 bel lt2) trodAll_mk0))), rfl, bel.frame _, fun h => by cases h⟩

theorem over : Rows.ReassemblyFlowControlledSaid :=
  OpenClaim.holds_of_wide 10 Tryd.f10 rfl rfl rfl rfl rfl rfl rfl ⟨rfl, rfl, rfl, rfl, rfl⟩ rfl rfl rfl rfl rfl (by kernel_rfl) Tryd.func10 (by kernel_rfl)
    (of_decide_eq_true (by kernel_rfl)) (by unfold Func.isWrapper; first | (rw [if_pos (by decide +kernel)]; kernel_rfl) | (rw [if_neg (by decide +kernel)]; exact ⟨rfl, rfl⟩))
    (fun os started H enc _ => lifted os started H enc)

theorem proved : Rows.ReassemblyFlowControlledCardSaid :=
  Claim7.holds_tied_plain_at .later [] [.sentinel, .sentinel, .sentinel, .sentinel] true (true, "54825d672e9b7ba9b14490500a975c545bf7869081864ee6c759c337f4131a90") true
    over (fun _ h => by cases h) (by kernel_rfl) (fun _ h => by cases h) reassemblyFlowControlled_row_tie rfl ⟨rfl, rfl⟩ (by kernel_rfl) rfl
    (fun fx fn hf hfn => by
      obtain rfl : fx = 10 := Option.some.inj ((show Tryd.prog.funcNamed "peregrine/peregrinelaw16.ReassemblyFlowControlled" = some 10 by kernel_rfl).symm.trans hf) |>.symm
      obtain rfl : fn = Tryd.f10 := (Option.some.inj (Tryd.func10.symm.trans hfn)).symm
      exact ⟨by kernel_rfl, fun j t ht => by
        rw [Tryd.params10] at ht
        have hj : j < 3 := by have := (Array.getElem?_eq_some_iff.1 ht).1; simpa using this
        have hall : (Tryd.prog.wantsStandIn t) = false := by
          rcases j with _ | _ | _ | _ | _ | j
          all_goals first | omega | (simp at ht; subst ht; kernel_rfl)
        exact hall⟩)
    (by kernel_rfl)
#print axioms proved
end Go.Proofs.YtnnmmmeppbdlnaaDoor.reassemblyFlowControlled
