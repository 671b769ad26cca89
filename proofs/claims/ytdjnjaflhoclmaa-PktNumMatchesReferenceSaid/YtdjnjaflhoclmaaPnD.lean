/- The walks of the four pktnum laws. -/
import Derived.Test.YtdjnjaflhoclmaaPnC
namespace Go.Proofs.Ytdjnjaflhoclmaa
open Go.RowKit
set_option linter.unusedVariables false
set_option linter.unusedSimpArgs false

theorem wf_i64 {a : Int} (h : (Lit.int .i64 a).wf = true) : -9223372036854775808 ≤ a ∧ a ≤ 9223372036854775807 := by
  simp [Lit.wf, IntKind.min, IntKind.max, IntKind.signed, IntKind.bits] at h
  omega

set_option maxHeartbeats 2000000 in
theorem mono_walk (a0 a1 a2 a3 : Int) (w0 : (Lit.int .i64 a0).wf = true) (w1 : (Lit.int .i64 a1).wf = true) (w2 : (Lit.int .i64 a2).wf = true) (w3 : (Lit.int .i64 a3).wf = true) (w : World) :
    Calls Try.prog 6 #[.int .i64 a0, .int .i64 a1, .int .i64 a2, .int .i64 a3] w fun e w' => e = .returned (.bool true) ∧ Grown w w' := by
  obtain ⟨b0, c0⟩ := wf_i64 w0; obtain ⟨b1, c1⟩ := wf_i64 w1; obtain ⟨b2, c2⟩ := wf_i64 w2; obtain ⟨b3, c3⟩ := wf_i64 w3
  clear w0 w1 w2 w3
  go_enter Try.func6, Try.ntmps6
  go_wp2_with (first | (go_at_call 7; refine (sane_any _).mono ?_; rintro e w' ⟨rfl, rfl⟩) | (go_at_call 8; refine (pick_ex _ _ _ (by omega) (by omega) (by omega)).mono ?_; rintro e w' ⟨r, hr0, hr1, rfl, rfl⟩) | (go_at_call 9; refine (width_of _ _ _ _ (by omega) (by omega) (by omega) (by omega) rfl (by omega)).mono ?_; rintro e w' ⟨rfl, ⟨rfl, hd⟩ | ⟨rfl, hd, hd'⟩ | ⟨rfl, hd, hd'⟩ | ⟨rfl, hd⟩⟩ <;> try (exfalso; omega)))
  all_goals go_ret
  all_goals exact ⟨ret_bool (by simp <;> omega), Grown.refl _⟩

set_option maxHeartbeats 4000000 in
theorem near_walk (a0 a1 a2 : Int) (w0 : (Lit.int .i64 a0).wf = true) (w1 : (Lit.int .i64 a1).wf = true) (w2 : (Lit.int .i64 a2).wf = true) (w : World) :
    Calls Try.prog 5 #[.int .i64 a0, .int .i64 a1, .int .i64 a2] w fun e w' => e = .returned (.bool true) ∧ Grown w w' := by
  obtain ⟨b0, c0⟩ := wf_i64 w0; obtain ⟨b1, c1⟩ := wf_i64 w1; obtain ⟨b2, c2⟩ := wf_i64 w2
  clear w0 w1 w2
  go_enter Try.func5, Try.ntmps5
  go_wp2_with (first | (go_at_call 7; refine (sane_any _).mono ?_; rintro e w' ⟨rfl, rfl⟩) | (go_at_call 8; (with_reducible refine (pick4 _ _ (by omega) (by omega)).mono ?_); rintro e w' ⟨rfl, rfl | rfl | rfl | rfl⟩) | (go_at_call 8; refine (pick_ex _ _ _ (by omega) (by omega) (by omega)).mono ?_; rintro e w' ⟨r, hr0, hr1, rfl, rfl⟩) | (go_at_call 13; first | ((with_reducible refine (near1 _ _ _ (by omega) (by omega) (by omega) (by omega)).mono ?_); rintro e w' ⟨rfl, ⟨rfl, hq⟩ | ⟨q, rfl, hq1, hq2, hq3, hq4⟩⟩) | ((with_reducible refine (near2 _ _ _ (by omega) (by omega) (by omega) (by omega)).mono ?_); rintro e w' ⟨rfl, ⟨rfl, hq⟩ | ⟨q, rfl, hq1, hq2, hq3, hq4⟩⟩) | ((with_reducible refine (near3 _ _ _ (by omega) (by omega) (by omega) (by omega)).mono ?_); rintro e w' ⟨rfl, ⟨rfl, hq⟩ | ⟨q, rfl, hq1, hq2, hq3, hq4⟩⟩) | ((with_reducible refine (near4 _ _ _ (by omega) (by omega) (by omega) (by omega)).mono ?_); rintro e w' ⟨rfl, ⟨rfl, hq⟩ | ⟨q, rfl, hq1, hq2, hq3, hq4⟩⟩)))
  all_goals go_ret
  all_goals exact ⟨ret_bool (by simp <;> omega), Grown.refl _⟩
end Go.Proofs.Ytdjnjaflhoclmaa
