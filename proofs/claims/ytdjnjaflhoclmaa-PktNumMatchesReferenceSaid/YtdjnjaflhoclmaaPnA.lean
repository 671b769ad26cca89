/- Contracts of package pktnum, of its reference and of the law package's small functions. -/
import Derived.Test.YtdjnjaflhoclmaaRows
import Derived.WalkKit
import Derived.ProofKit
import Derived.OpenShut
import Derived.IntWalk
import Derived.Outline
import Derived.Handy
import Derived.WalkMore
import Derived.Lib.Hide
namespace Go.Proofs.Ytdjnjaflhoclmaa
open Go.RowKit
set_option linter.unusedVariables false
set_option linter.unusedSimpArgs false

theorem ret_int {k : IntKind} {a b : Int} (h : a = b) : Ending.returned (.int k a) = .returned (.int k b) := by rw [h]
theorem ret_two {k k2 : IntKind} {a b c d : Int} (h : a = b) (h2 : c = d) : Ending.returned (.tuple #[.int k a, .int k2 c]) = .returned (.tuple #[.int k b, .int k2 d]) := by rw [h, h2]

/-- What 'pick' answers. -/
def pickZ (c n : Int) : Int := (if c < 0 then -(c + 1) else c) % n

theorem pickZ_bd (c n : Int) (hn : 0 < n) : 0 ≤ pickZ c n ∧ pickZ c n < n := by
  unfold pickZ
  exact ⟨Int.emod_nonneg _ (by omega), Int.emod_lt_of_pos _ hn⟩

theorem pick_any (c n : Int) (w : World) (h1 : -9223372036854775808 ≤ c) (h2 : c ≤ 9223372036854775807) (hn : 0 < n) :
    Calls Try.prog 8 #[.int .i64 c, .int .i64 n] w fun e w' => e = .returned (.int .i64 (pickZ c n)) ∧ w = w' := by
  have e1 : c < 0 → -((c + 1).tmod n) = pickZ c n := by
    intro h; unfold pickZ; rw [if_pos h]; rw [← Int.neg_tmod]; exact Int.tmod_eq_emod_of_nonneg (by omega)
  have e2 : 0 ≤ c → c % n = pickZ c n := by
    intro h; unfold pickZ; rw [if_neg (by omega)]
  have E1 := Lib.hid e1
  have E2 := Lib.hid e2
  clear e1 e2
  by_cases hc : c < 0
  · go_enter Try.func8, Try.ntmps8
    go_wp2
    go_ret
    exact ⟨ret_int (E1.out hc), rfl⟩
  · go_enter Try.func8, Try.ntmps8
    go_wp2
    go_ret
    exact ⟨ret_int (E2.out (by omega)), rfl⟩

def validB (n : Int) : Bool := decide (0 ≤ n ∧ n ≤ 281474976710655)

theorem valid_any (n : Int) (w : World) :
    Calls Try.prog 15 #[.int .i64 n] w fun e w' => e = .returned (.bool (validB n)) ∧ w = w' := by
  have e : validB n = decide (0 ≤ n ∧ n ≤ 281474976710655) := rfl
  have E := Lib.hid e; clear e
  by_cases h0 : 0 ≤ n
  · by_cases h1 : n ≤ 281474976710655
    all_goals
      go_enter Try.func15, Try.ntmps15
      go_wp2
      go_ret
      exact ⟨by rw [E.out]; simp [h0, h1], rfl⟩
  · go_enter Try.func15, Try.ntmps15
    go_wp2
    go_ret
    exact ⟨by rw [E.out]; simp; omega, rfl⟩
theorem valid_t (n : Int) (w : World) (h0 : 0 ≤ n) (h1 : n ≤ 281474976710655) :
    Calls Try.prog 15 #[.int .i64 n] w fun e w' => e = .returned (.bool true) ∧ w = w' :=
  (valid_any n w).mono fun _ _ ⟨he, hw⟩ => ⟨by rw [he]; simp [validB, h0, h1], hw⟩
theorem valid_f (n : Int) (w : World) (h : ¬ (0 ≤ n ∧ n ≤ 281474976710655)) :
    Calls Try.prog 15 #[.int .i64 n] w fun e w' => e = .returned (.bool false) ∧ w = w' :=
  (valid_any n w).mono fun _ _ ⟨he, hw⟩ => ⟨by rw [he]; unfold validB; rw [decide_eq_false h], hw⟩

theorem window1 (w : World) : Calls Try.prog 16 #[.int .i64 1] w fun e w' => e = .returned (.int .i64 256) ∧ w = w' := by
  go_enter Try.func16, Try.ntmps16
  go_wp2
  go_ret
  exact ⟨rfl, rfl⟩
theorem window2 (w : World) : Calls Try.prog 16 #[.int .i64 2] w fun e w' => e = .returned (.int .i64 65536) ∧ w = w' := by
  go_enter Try.func16, Try.ntmps16
  go_wp2
  go_ret
  exact ⟨rfl, rfl⟩
theorem window3 (w : World) : Calls Try.prog 16 #[.int .i64 3] w fun e w' => e = .returned (.int .i64 16777216) ∧ w = w' := by
  go_enter Try.func16, Try.ntmps16
  go_wp2
  go_ret
  exact ⟨rfl, rfl⟩
theorem window4 (w : World) : Calls Try.prog 16 #[.int .i64 4] w fun e w' => e = .returned (.int .i64 4294967296) ∧ w = w' := by
  go_enter Try.func16, Try.ntmps16
  go_wp2
  go_ret
  exact ⟨rfl, rfl⟩

/-- What Width answers: the width, and the error's number. -/
def widthW (pn acked : Int) : Int :=
  if 0 ≤ pn ∧ pn ≤ 281474976710655 ∧ -1 ≤ acked ∧ acked < pn then
    if 2 * (pn - acked) < 256 then 1 else if 2 * (pn - acked) < 65536 then 2 else if 2 * (pn - acked) < 16777216 then 3 else if 2 * (pn - acked) < 4294967296 then 4 else 0
  else 0
def widthE (pn acked : Int) : Int :=
  if 0 ≤ pn ∧ pn ≤ 281474976710655 ∧ -1 ≤ acked ∧ acked < pn ∧ 2 * (pn - acked) < 4294967296 then 0 else 60
def Two (a b : Int) (w : World) (e : Ending) (w' : World) : Prop := e = .returned (.tuple #[.int .i64 a, .int .i64 b]) ∧ w = w'
theorem two_mk {a b a' b' : Int} {w : World} (h : a' = a) (h2 : b' = b) : Two a b w (.returned (.tuple #[.int .i64 a', .int .i64 b'])) w := ⟨by rw [h, h2], rfl⟩

set_option maxHeartbeats 1000000 in
theorem width_any (pn acked : Int) (w : World) (h1 : -9223372036854775808 ≤ acked) :
    Calls Try.prog 9 #[.int .i64 pn, .int .i64 acked] w (Two (widthW pn acked) (widthE pn acked) w) := by
  by_cases hv : 0 ≤ pn ∧ pn ≤ 281474976710655
  · obtain ⟨hv1, hv2⟩ := hv
    by_cases ha : acked < -1
    · go_enter Try.func9, Try.ntmps9
      go_wp2
      go_step3
      go_wp2_with (go_at_call 15; refine (valid_t _ _ hv1 hv2).mono ?_; rintro e w' ⟨rfl, rfl⟩)
      rw [Exit.noGoto_ret]
      go_ret2
      exact two_mk (by unfold widthW; rw [if_neg (by omega)]) (by unfold widthE; rw [if_neg (by omega)])
    · by_cases hb : pn ≤ acked
      · go_enter Try.func9, Try.ntmps9
        go_wp2
        go_step3
        go_wp2_with (go_at_call 15; refine (valid_t _ _ hv1 hv2).mono ?_; rintro e w' ⟨rfl, rfl⟩)
        rw [Exit.noGoto_ret]
        go_ret2
        exact two_mk (by unfold widthW; rw [if_neg (by omega)]) (by unfold widthE; rw [if_neg (by omega)])
      · go_enter Try.func9, Try.ntmps9
        go_wp2
        go_step3
        go_wp2_with (go_at_call 15; refine (valid_t _ _ hv1 hv2).mono ?_; rintro e w' ⟨rfl, rfl⟩)
        go_step3
        go_wp2
        refine wp_loop_rounds 4 ?_
        rw [rounds_succ]
        go_wp2
        · (try rw [Exit.noGoto_ret]); go_ret2; exact two_mk (by unfold widthW; rw [if_pos (by omega), if_pos (by assumption)]) (by unfold widthE; rw [if_pos (by omega)])
        rw [rounds_succ]
        go_wp2
        · (try rw [Exit.noGoto_ret]); go_ret2; exact two_mk (by unfold widthW; rw [if_pos (by omega), if_neg (by omega), if_pos (by assumption)]) (by unfold widthE; rw [if_pos (by omega)])
        rw [rounds_succ]
        go_wp2
        · (try rw [Exit.noGoto_ret]); go_ret2; exact two_mk (by unfold widthW; rw [if_pos (by omega), if_neg (by omega), if_neg (by omega), if_pos (by assumption)]) (by unfold widthE; rw [if_pos (by omega)])
        rw [rounds_succ]
        go_wp2
        · (try rw [Exit.noGoto_ret]); go_ret2; exact two_mk (by unfold widthW; rw [if_pos (by omega), if_neg (by omega), if_neg (by omega), if_neg (by omega), if_pos (by assumption)]) (by unfold widthE; rw [if_pos (by omega)])
        · (try rw [Exit.noGoto_ret]); go_ret2; exact two_mk (by unfold widthW; rw [if_pos (by omega), if_neg (by omega), if_neg (by omega), if_neg (by omega), if_neg (by omega)]) (by unfold widthE; rw [if_neg (by omega)])
  · go_enter Try.func9, Try.ntmps9
    go_wp2
    go_step3
    go_wp2_with (go_at_call 15; refine (valid_f _ _ hv).mono ?_; rintro e w' ⟨rfl, rfl⟩)
    rw [Exit.noGoto_ret]
    go_ret2
    exact two_mk (by unfold widthW; rw [if_neg (by omega)]) (by unfold widthE; rw [if_neg (by omega)])
theorem power1 (w : World) : Calls Try.prog 17 #[.int .i64 1] w fun e w' => e = .returned (.int .i64 256) ∧ w = w' := by
  go_enter Try.func17, Try.ntmps17
  go_wp2
  go_rounds 5
  go_ret
  exact ⟨rfl, rfl⟩
theorem power2 (w : World) : Calls Try.prog 17 #[.int .i64 2] w fun e w' => e = .returned (.int .i64 65536) ∧ w = w' := by
  go_enter Try.func17, Try.ntmps17
  go_wp2
  go_rounds 5
  go_ret
  exact ⟨rfl, rfl⟩
theorem power3 (w : World) : Calls Try.prog 17 #[.int .i64 3] w fun e w' => e = .returned (.int .i64 16777216) ∧ w = w' := by
  go_enter Try.func17, Try.ntmps17
  go_wp2
  go_rounds 5
  go_ret
  exact ⟨rfl, rfl⟩
theorem power4 (w : World) : Calls Try.prog 17 #[.int .i64 4] w fun e w' => e = .returned (.int .i64 4294967296) ∧ w = w' := by
  go_enter Try.func17, Try.ntmps17
  go_wp2
  go_rounds 5
  go_ret
  exact ⟨rfl, rfl⟩

set_option maxHeartbeats 1000000 in
theorem rwidth_any (pn acked : Int) (w : World) (h1 : -9223372036854775808 ≤ acked) :
    Calls Try.prog 10 #[.int .i64 pn, .int .i64 acked] w (Two (widthW pn acked) (widthE pn acked) w) := by
  by_cases hv : 0 ≤ pn ∧ pn ≤ 281474976710655 ∧ -1 ≤ acked ∧ acked < pn
  · obtain ⟨hv1, hv2, hv3, hv4⟩ := hv
    go_enter Try.func10, Try.ntmps10
    go_wp2
    refine wp_loop_rounds 5 ?_
    rw [rounds_succ]
    go_wp2_with (first | (go_at_call 17; ((with_reducible refine (power1 _).mono ?_); rintro e w' ⟨rfl, rfl⟩)) | (go_at_call 17; ((with_reducible refine (power2 _).mono ?_); rintro e w' ⟨rfl, rfl⟩)) | (go_at_call 17; ((with_reducible refine (power3 _).mono ?_); rintro e w' ⟨rfl, rfl⟩)) | (go_at_call 17; ((with_reducible refine (power4 _).mono ?_); rintro e w' ⟨rfl, rfl⟩)))
    · go_ret2; exact two_mk (by unfold widthW; rw [if_pos (by omega), if_pos (by assumption)]) (by unfold widthE; rw [if_pos (by omega)])
    rw [rounds_succ]
    go_wp2_with (first | (go_at_call 17; ((with_reducible refine (power1 _).mono ?_); rintro e w' ⟨rfl, rfl⟩)) | (go_at_call 17; ((with_reducible refine (power2 _).mono ?_); rintro e w' ⟨rfl, rfl⟩)) | (go_at_call 17; ((with_reducible refine (power3 _).mono ?_); rintro e w' ⟨rfl, rfl⟩)) | (go_at_call 17; ((with_reducible refine (power4 _).mono ?_); rintro e w' ⟨rfl, rfl⟩)))
    · go_ret2; exact two_mk (by unfold widthW; rw [if_pos (by omega), if_neg (by omega), if_pos (by assumption)]) (by unfold widthE; rw [if_pos (by omega)])
    rw [rounds_succ]
    go_wp2_with (first | (go_at_call 17; ((with_reducible refine (power1 _).mono ?_); rintro e w' ⟨rfl, rfl⟩)) | (go_at_call 17; ((with_reducible refine (power2 _).mono ?_); rintro e w' ⟨rfl, rfl⟩)) | (go_at_call 17; ((with_reducible refine (power3 _).mono ?_); rintro e w' ⟨rfl, rfl⟩)) | (go_at_call 17; ((with_reducible refine (power4 _).mono ?_); rintro e w' ⟨rfl, rfl⟩)))
    · go_ret2; exact two_mk (by unfold widthW; rw [if_pos (by omega), if_neg (by omega), if_neg (by omega), if_pos (by assumption)]) (by unfold widthE; rw [if_pos (by omega)])
    rw [rounds_succ]
    go_wp2_with (first | (go_at_call 17; ((with_reducible refine (power1 _).mono ?_); rintro e w' ⟨rfl, rfl⟩)) | (go_at_call 17; ((with_reducible refine (power2 _).mono ?_); rintro e w' ⟨rfl, rfl⟩)) | (go_at_call 17; ((with_reducible refine (power3 _).mono ?_); rintro e w' ⟨rfl, rfl⟩)) | (go_at_call 17; ((with_reducible refine (power4 _).mono ?_); rintro e w' ⟨rfl, rfl⟩)))
    · go_ret2; exact two_mk (by unfold widthW; rw [if_pos (by omega), if_neg (by omega), if_neg (by omega), if_neg (by omega), if_pos (by assumption)]) (by unfold widthE; rw [if_pos (by omega)])
    rw [rounds_succ]
    go_wp2
    go_ret2; exact two_mk (by unfold widthW; rw [if_pos (by omega), if_neg (by omega), if_neg (by omega), if_neg (by omega), if_neg (by omega)]) (by unfold widthE; rw [if_neg (by omega)])
  · have hx : widthW pn acked = 0 := by unfold widthW; rw [if_neg (by omega)]
    have hy : widthE pn acked = 60 := by unfold widthE; rw [if_neg (by omega)]
    rw [hx, hy]
    clear hx hy
    by_cases h0 : pn < 0
    · go_enter Try.func10, Try.ntmps10
      go_wp2
      go_ret2; exact two_mk rfl rfl
    by_cases h2 : 281474976710655 < pn
    · go_enter Try.func10, Try.ntmps10
      go_wp2
      go_ret2; exact two_mk rfl rfl
    by_cases h3 : acked < -1
    · go_enter Try.func10, Try.ntmps10
      go_wp2
      go_ret2; exact two_mk rfl rfl
    have h4 : pn ≤ acked := by omega
    clear hv
    go_enter Try.func10, Try.ntmps10
    go_wp2
    go_ret2; exact two_mk rfl rfl
end Go.Proofs.Ytdjnjaflhoclmaa
