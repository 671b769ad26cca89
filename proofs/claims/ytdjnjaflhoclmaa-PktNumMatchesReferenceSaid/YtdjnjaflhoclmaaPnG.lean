/- The walk of the law PktNumMatchesReference. -/
import Derived.Test.YtdjnjaflhoclmaaPnD
namespace Go.Proofs.Ytdjnjaflhoclmaa
open Go.RowKit
set_option linter.unusedVariables false
set_option linter.unusedSimpArgs false

set_option maxHeartbeats 8000000 in
theorem match_walk (a0 a1 a2 a3 a4 : Int) (w0 : (Lit.int .i64 a0).wf = true) (w1 : (Lit.int .i64 a1).wf = true) (w2 : (Lit.int .i64 a2).wf = true) (w3 : (Lit.int .i64 a3).wf = true) (w4 : (Lit.int .i64 a4).wf = true) (w : World) :
    Calls Try.prog 3 #[.int .i64 a0, .int .i64 a1, .int .i64 a2, .int .i64 a3, .int .i64 a4] w fun e w' => e = .returned (.bool true) ∧ Grown w w' := by
  obtain ⟨b0, c0⟩ := wf_i64 w0; obtain ⟨b1, c1⟩ := wf_i64 w1; obtain ⟨b2, c2⟩ := wf_i64 w2; obtain ⟨b3, c3⟩ := wf_i64 w3; obtain ⟨b4, c4⟩ := wf_i64 w4
  clear w0 w1 w2 w3 w4
  go_enter Try.func3, Try.ntmps3
  go_wp2_with (first | (go_at_call 7; refine (sane_any _).mono ?_; rintro e w' ⟨rfl, rfl⟩) | (go_at_call 8; refine (pick_ex _ _ _ (by omega) (by omega) (by omega)).mono ?_; rintro e w' ⟨r, hr0, hr1, rfl, rfl⟩) | (go_at_call 9; refine (width_any _ _ _ (by omega)).mono ?_; rintro e w' ⟨rfl, rfl⟩) | (go_at_call 10; refine (rwidth_any _ _ _ (by omega)).mono ?_; rintro e w' ⟨rfl, rfl⟩) | (go_at_call 11; refine (trunc_any _ _ _).mono ?_; rintro e w' ⟨rfl, rfl⟩) | (go_at_call 12; refine (rtrunc_any _ _ _).mono ?_; rintro e w' ⟨rfl, rfl⟩) | (go_at_call 13; refine (exp_any _ _ _ _).mono ?_; rintro e w' ⟨rfl, rfl⟩) | (go_at_call 14; refine (rexp_any _ _ _ _).mono ?_; rintro e w' ⟨rfl, rfl⟩))
  repeat' (first | (rw [rounds_succ]; go_wp2_with (first | (go_at_call 7; refine (sane_any _).mono ?_; rintro e w' ⟨rfl, rfl⟩) | (go_at_call 8; refine (pick_ex _ _ _ (by omega) (by omega) (by omega)).mono ?_; rintro e w' ⟨r, hr0, hr1, rfl, rfl⟩) | (go_at_call 9; refine (width_any _ _ _ (by omega)).mono ?_; rintro e w' ⟨rfl, rfl⟩) | (go_at_call 10; refine (rwidth_any _ _ _ (by omega)).mono ?_; rintro e w' ⟨rfl, rfl⟩) | (go_at_call 11; refine (trunc_any _ _ _).mono ?_; rintro e w' ⟨rfl, rfl⟩) | (go_at_call 12; refine (rtrunc_any _ _ _).mono ?_; rintro e w' ⟨rfl, rfl⟩) | (go_at_call 13; refine (exp_any _ _ _ _).mono ?_; rintro e w' ⟨rfl, rfl⟩) | (go_at_call 14; refine (rexp_any _ _ _ _).mono ?_; rintro e w' ⟨rfl, rfl⟩))) | (refine wp_loop_rounds 7 ?_; rw [rounds_succ]; go_wp2_with (first | (go_at_call 7; refine (sane_any _).mono ?_; rintro e w' ⟨rfl, rfl⟩) | (go_at_call 8; refine (pick_ex _ _ _ (by omega) (by omega) (by omega)).mono ?_; rintro e w' ⟨r, hr0, hr1, rfl, rfl⟩) | (go_at_call 9; refine (width_any _ _ _ (by omega)).mono ?_; rintro e w' ⟨rfl, rfl⟩) | (go_at_call 10; refine (rwidth_any _ _ _ (by omega)).mono ?_; rintro e w' ⟨rfl, rfl⟩) | (go_at_call 11; refine (trunc_any _ _ _).mono ?_; rintro e w' ⟨rfl, rfl⟩) | (go_at_call 12; refine (rtrunc_any _ _ _).mono ?_; rintro e w' ⟨rfl, rfl⟩) | (go_at_call 13; refine (exp_any _ _ _ _).mono ?_; rintro e w' ⟨rfl, rfl⟩) | (go_at_call 14; refine (rexp_any _ _ _ _).mono ?_; rintro e w' ⟨rfl, rfl⟩))))
  all_goals (try go_ret)
  all_goals exact ⟨rfl, by repeat (first | with_reducible exact Grown.refl _ | with_reducible apply Grown.alloc | with_reducible apply Grown.drew)⟩
end Go.Proofs.Ytdjnjaflhoclmaa
