/- The walk of the law PktNumRoundTrip. -/
import Derived.Test.YtdjnjaflhoclmaaPnD
namespace Go.Proofs.Ytdjnjaflhoclmaa
open Go.RowKit
set_option linter.unusedVariables false
set_option linter.unusedSimpArgs false

theorem pick4v (c k : Int) (w : World) (h1 : -9223372036854775808 ≤ c) (h2 : c ≤ 9223372036854775807) (hk : pickZ c 4 = k) :
    Calls Try.prog 8 #[.int .i64 c, .int .i64 4] w fun e w' => e = .returned (.int .i64 k) ∧ w = w' := by
  subst hk; exact pick_any c 4 w h1 h2 (by omega)
set_option maxHeartbeats 8000000 in
theorem round_walk (a0 a1 a2 a3 : Int) (w0 : (Lit.int .i64 a0).wf = true) (w1 : (Lit.int .i64 a1).wf = true) (w2 : (Lit.int .i64 a2).wf = true) (w3 : (Lit.int .i64 a3).wf = true) (w : World) :
    Calls Try.prog 4 #[.int .i64 a0, .int .i64 a1, .int .i64 a2, .int .i64 a3] w fun e w' => e = .returned (.bool true) ∧ Grown w w' := by
  obtain ⟨b0, c0⟩ := wf_i64 w0; obtain ⟨b1, c1⟩ := wf_i64 w1; obtain ⟨b2, c2⟩ := wf_i64 w2; obtain ⟨b3, c3⟩ := wf_i64 w3
  clear w0 w1 w2 w3
  have hb := pickZ_bd a3 4 (by omega)
  obtain hk | hk | hk | hk : pickZ a3 4 = 0 ∨ pickZ a3 4 = 1 ∨ pickZ a3 4 = 2 ∨ pickZ a3 4 = 3 := by omega
  all_goals clear hb
  all_goals (go_enter Try.func4, Try.ntmps4)
  all_goals (go_wp2_with (first | (go_at_call 7; refine (sane_any _).mono ?_; rintro e w' ⟨rfl, rfl⟩) | (go_at_call 8; (with_reducible refine (pick4v _ _ _ (by omega) (by omega) hk).mono ?_); rintro e w' ⟨rfl, rfl⟩) | (go_at_call 8; refine (pick_ex _ _ _ (by omega) (by omega) (by omega)).mono ?_; rintro e w' ⟨r, hr0, hr1, rfl, rfl⟩) | (go_at_call 9; refine (width_of _ _ _ _ (by omega) (by omega) (by omega) (by omega) rfl (by omega)).mono ?_; rintro e w' ⟨rfl, ⟨rfl, hd⟩ | ⟨rfl, hd, hd'⟩ | ⟨rfl, hd, hd'⟩ | ⟨rfl, hd⟩⟩ <;> try (exfalso; omega)) | (go_at_call 11; first | ((with_reducible refine (trunc1 _ _ (by omega) (by omega)).mono ?_); rintro e w' ⟨rfl, rfl⟩) | ((with_reducible refine (trunc2 _ _ (by omega) (by omega)).mono ?_); rintro e w' ⟨rfl, rfl⟩) | ((with_reducible refine (trunc3 _ _ (by omega) (by omega)).mono ?_); rintro e w' ⟨rfl, rfl⟩) | ((with_reducible refine (trunc4 _ _ (by omega) (by omega)).mono ?_); rintro e w' ⟨rfl, rfl⟩)) | (go_at_call 13; first | ((with_reducible refine (back1 _ _ _ (by omega) (by omega) (by omega) (by omega) (by omega) (by omega)).mono ?_); rintro e w' ⟨rfl, rfl⟩) | ((with_reducible refine (back2 _ _ _ (by omega) (by omega) (by omega) (by omega) (by omega) (by omega)).mono ?_); rintro e w' ⟨rfl, rfl⟩) | ((with_reducible refine (back3 _ _ _ (by omega) (by omega) (by omega) (by omega) (by omega) (by omega)).mono ?_); rintro e w' ⟨rfl, rfl⟩) | ((with_reducible refine (back4 _ _ _ (by omega) (by omega) (by omega) (by omega) (by omega) (by omega)).mono ?_); rintro e w' ⟨rfl, rfl⟩))))
  all_goals (refine wp_loop_rounds 5 ?_)
  all_goals (repeat' (rw [rounds_succ]; go_wp2_with (first | (go_at_call 7; refine (sane_any _).mono ?_; rintro e w' ⟨rfl, rfl⟩) | (go_at_call 8; (with_reducible refine (pick4v _ _ _ (by omega) (by omega) hk).mono ?_); rintro e w' ⟨rfl, rfl⟩) | (go_at_call 8; refine (pick_ex _ _ _ (by omega) (by omega) (by omega)).mono ?_; rintro e w' ⟨r, hr0, hr1, rfl, rfl⟩) | (go_at_call 9; refine (width_of _ _ _ _ (by omega) (by omega) (by omega) (by omega) rfl (by omega)).mono ?_; rintro e w' ⟨rfl, ⟨rfl, hd⟩ | ⟨rfl, hd, hd'⟩ | ⟨rfl, hd, hd'⟩ | ⟨rfl, hd⟩⟩ <;> try (exfalso; omega)) | (go_at_call 11; first | ((with_reducible refine (trunc1 _ _ (by omega) (by omega)).mono ?_); rintro e w' ⟨rfl, rfl⟩) | ((with_reducible refine (trunc2 _ _ (by omega) (by omega)).mono ?_); rintro e w' ⟨rfl, rfl⟩) | ((with_reducible refine (trunc3 _ _ (by omega) (by omega)).mono ?_); rintro e w' ⟨rfl, rfl⟩) | ((with_reducible refine (trunc4 _ _ (by omega) (by omega)).mono ?_); rintro e w' ⟨rfl, rfl⟩)) | (go_at_call 13; first | ((with_reducible refine (back1 _ _ _ (by omega) (by omega) (by omega) (by omega) (by omega) (by omega)).mono ?_); rintro e w' ⟨rfl, rfl⟩) | ((with_reducible refine (back2 _ _ _ (by omega) (by omega) (by omega) (by omega) (by omega) (by omega)).mono ?_); rintro e w' ⟨rfl, rfl⟩) | ((with_reducible refine (back3 _ _ _ (by omega) (by omega) (by omega) (by omega) (by omega) (by omega)).mono ?_); rintro e w' ⟨rfl, rfl⟩) | ((with_reducible refine (back4 _ _ _ (by omega) (by omega) (by omega) (by omega) (by omega) (by omega)).mono ?_); rintro e w' ⟨rfl, rfl⟩)))))
  all_goals (try go_ret)
  all_goals exact ⟨rfl, Grown.refl _⟩
end Go.Proofs.Ytdjnjaflhoclmaa
