/- Contracts of pktnum.Truncate and pktnum.Expand, and of their references. -/
import Derived.Test.YtdjnjaflhoclmaaPnA
namespace Go.Proofs.Ytdjnjaflhoclmaa
open Go.RowKit
set_option linter.unusedVariables false
set_option linter.unusedSimpArgs false

def winZ (w : Int) : Int := if w = 1 then 256 else if w = 2 then 65536 else if w = 3 then 16777216 else 4294967296
def truncV (pn w : Int) : Int := if 0 ≤ pn ∧ pn ≤ 281474976710655 ∧ 1 ≤ w ∧ w ≤ 4 then pn % winZ w else 0
def truncE (pn w : Int) : Int := if 0 ≤ pn ∧ pn ≤ 281474976710655 ∧ 1 ≤ w ∧ w ≤ 4 then 0 else 60
def ExpOK (l t w : Int) : Prop := -1 ≤ l ∧ l ≤ 281474976710655 ∧ 1 ≤ w ∧ w ≤ 4 ∧ 0 ≤ t ∧ t < winZ w
/-- The candidate: the number with truncation t in the window of the expected number x. -/
def candZ (win x t : Int) : Int := x - x % win + t
def expRaw (win x t : Int) : Int :=
  if candZ win x t ≤ x - win / 2 ∧ candZ win x t + win ≤ 281474976710655 then candZ win x t + win
  else if x + win / 2 < candZ win x t ∧ win ≤ candZ win x t then candZ win x t - win else candZ win x t
open Classical in
noncomputable def expV (l t w : Int) : Int := if ExpOK l t w ∧ expRaw (winZ w) (l + 1) t ≤ 281474976710655 then expRaw (winZ w) (l + 1) t else 0
open Classical in
noncomputable def expE (l t w : Int) : Int := if ExpOK l t w ∧ expRaw (winZ w) (l + 1) t ≤ 281474976710655 then 0 else 60

theorem exp_bad {l t w : Int} (h : ¬ ExpOK l t w) : expV l t w = 0 ∧ expE l t w = 60 := by
  unfold expV expE; rw [if_neg (fun x => h x.1), if_neg (fun x => h x.1)]; exact ⟨rfl, rfl⟩
theorem exp_good {l t w r win : Int} (h1 : -1 ≤ l) (h2 : l ≤ 281474976710655) (h3 : 1 ≤ w) (h4 : w ≤ 4) (h5 : 0 ≤ t) (hw : winZ w = win) (h6 : t < win) (hr : expRaw win (l + 1) t = r) (hm : r ≤ 281474976710655) : r = expV l t w ∧ 0 = expE l t w := by
  subst hw hr
  have hk : ExpOK l t w ∧ expRaw (winZ w) (l + 1) t ≤ 281474976710655 := ⟨⟨h1, h2, h3, h4, h5, h6⟩, hm⟩
  unfold expV expE; rw [if_pos hk, if_pos hk]; exact ⟨rfl, rfl⟩
theorem exp_big {l t w r win : Int} (hw : winZ w = win) (hr : expRaw win (l + 1) t = r) (hm : 281474976710655 < r) : 0 = expV l t w ∧ 60 = expE l t w := by
  subst hw hr
  have hk : ¬ (ExpOK l t w ∧ expRaw (winZ w) (l + 1) t ≤ 281474976710655) := fun x => by omega
  unfold expV expE; rw [if_neg hk, if_neg hk]; exact ⟨rfl, rfl⟩
theorem two_mk' {a b a' b' : Int} {w : World} (h : a' = a ∧ b' = b) : Two a b w (.returned (.tuple #[.int .i64 a', .int .i64 b'])) w := two_mk h.1 h.2
theorem two_mk'' {a b a' b' : Int} {w : World} (h : a = a' ∧ b = b') : Two a b w (.returned (.tuple #[.int .i64 a', .int .i64 b'])) w := two_mk h.1.symm h.2.symm

set_option maxHeartbeats 1000000 in
theorem trunc_any (pn wd : Int) (w : World) : Calls Try.prog 11 #[.int .i64 pn, .int .i64 wd] w (Two (truncV pn wd) (truncE pn wd) w) := by
  by_cases hv : 0 ≤ pn ∧ pn ≤ 281474976710655
  · obtain ⟨hv1, hv2⟩ := hv
    by_cases h1 : wd < 1
    · go_enter Try.func11, Try.ntmps11
      go_wp2_with (first | (go_at_call 16; first | ((with_reducible refine (window1 _).mono ?_); rintro e w' ⟨rfl, rfl⟩) | ((with_reducible refine (window2 _).mono ?_); rintro e w' ⟨rfl, rfl⟩) | ((with_reducible refine (window3 _).mono ?_); rintro e w' ⟨rfl, rfl⟩) | ((with_reducible refine (window4 _).mono ?_); rintro e w' ⟨rfl, rfl⟩)) | (go_at_call 15; refine (valid_t _ _ (by omega) (by omega)).mono ?_; rintro e w' ⟨rfl, rfl⟩))
      go_ret2
      exact two_mk (by unfold truncV; rw [if_neg (by omega)]) (by unfold truncE; rw [if_neg (by omega)])
    by_cases h2 : 4 < wd
    · go_enter Try.func11, Try.ntmps11
      go_wp2_with (first | (go_at_call 16; first | ((with_reducible refine (window1 _).mono ?_); rintro e w' ⟨rfl, rfl⟩) | ((with_reducible refine (window2 _).mono ?_); rintro e w' ⟨rfl, rfl⟩) | ((with_reducible refine (window3 _).mono ?_); rintro e w' ⟨rfl, rfl⟩) | ((with_reducible refine (window4 _).mono ?_); rintro e w' ⟨rfl, rfl⟩)) | (go_at_call 15; refine (valid_t _ _ (by omega) (by omega)).mono ?_; rintro e w' ⟨rfl, rfl⟩))
      go_ret2
      exact two_mk (by unfold truncV; rw [if_neg (by omega)]) (by unfold truncE; rw [if_neg (by omega)])
    obtain rfl | rfl | rfl | rfl : wd = 1 ∨ wd = 2 ∨ wd = 3 ∨ wd = 4 := by omega
    · go_enter Try.func11, Try.ntmps11
      go_wp2_with (first | (go_at_call 16; first | ((with_reducible refine (window1 _).mono ?_); rintro e w' ⟨rfl, rfl⟩) | ((with_reducible refine (window2 _).mono ?_); rintro e w' ⟨rfl, rfl⟩) | ((with_reducible refine (window3 _).mono ?_); rintro e w' ⟨rfl, rfl⟩) | ((with_reducible refine (window4 _).mono ?_); rintro e w' ⟨rfl, rfl⟩)) | (go_at_call 15; refine (valid_t _ _ (by omega) (by omega)).mono ?_; rintro e w' ⟨rfl, rfl⟩))
      go_ret2
      exact two_mk (by unfold truncV; rw [if_pos (by omega)]; rfl) (by unfold truncE; rw [if_pos (by omega)])
    · go_enter Try.func11, Try.ntmps11
      go_wp2_with (first | (go_at_call 16; first | ((with_reducible refine (window1 _).mono ?_); rintro e w' ⟨rfl, rfl⟩) | ((with_reducible refine (window2 _).mono ?_); rintro e w' ⟨rfl, rfl⟩) | ((with_reducible refine (window3 _).mono ?_); rintro e w' ⟨rfl, rfl⟩) | ((with_reducible refine (window4 _).mono ?_); rintro e w' ⟨rfl, rfl⟩)) | (go_at_call 15; refine (valid_t _ _ (by omega) (by omega)).mono ?_; rintro e w' ⟨rfl, rfl⟩))
      go_ret2
      exact two_mk (by unfold truncV; rw [if_pos (by omega)]; rfl) (by unfold truncE; rw [if_pos (by omega)])
    · go_enter Try.func11, Try.ntmps11
      go_wp2_with (first | (go_at_call 16; first | ((with_reducible refine (window1 _).mono ?_); rintro e w' ⟨rfl, rfl⟩) | ((with_reducible refine (window2 _).mono ?_); rintro e w' ⟨rfl, rfl⟩) | ((with_reducible refine (window3 _).mono ?_); rintro e w' ⟨rfl, rfl⟩) | ((with_reducible refine (window4 _).mono ?_); rintro e w' ⟨rfl, rfl⟩)) | (go_at_call 15; refine (valid_t _ _ (by omega) (by omega)).mono ?_; rintro e w' ⟨rfl, rfl⟩))
      go_ret2
      exact two_mk (by unfold truncV; rw [if_pos (by omega)]; rfl) (by unfold truncE; rw [if_pos (by omega)])
    · go_enter Try.func11, Try.ntmps11
      go_wp2_with (first | (go_at_call 16; first | ((with_reducible refine (window1 _).mono ?_); rintro e w' ⟨rfl, rfl⟩) | ((with_reducible refine (window2 _).mono ?_); rintro e w' ⟨rfl, rfl⟩) | ((with_reducible refine (window3 _).mono ?_); rintro e w' ⟨rfl, rfl⟩) | ((with_reducible refine (window4 _).mono ?_); rintro e w' ⟨rfl, rfl⟩)) | (go_at_call 15; refine (valid_t _ _ (by omega) (by omega)).mono ?_; rintro e w' ⟨rfl, rfl⟩))
      go_ret2
      exact two_mk (by unfold truncV; rw [if_pos (by omega)]; rfl) (by unfold truncE; rw [if_pos (by omega)])
  · go_enter Try.func11, Try.ntmps11
    go_wp2_with (first | (go_at_call 15; refine (valid_f _ _ hv).mono ?_; rintro e w' ⟨rfl, rfl⟩))
    go_ret2
    exact two_mk (by unfold truncV; rw [if_neg (by omega)]) (by unfold truncE; rw [if_neg (by omega)])

set_option maxHeartbeats 1000000 in
theorem rtrunc_any (pn wd : Int) (w : World) : Calls Try.prog 12 #[.int .i64 pn, .int .i64 wd] w (Two (truncV pn wd) (truncE pn wd) w) := by
  by_cases hv : 0 ≤ pn ∧ pn ≤ 281474976710655
  · obtain ⟨hv1, hv2⟩ := hv
    by_cases h1 : wd < 1
    · go_enter Try.func12, Try.ntmps12
      go_wp2_with (fail)
      go_ret2
      exact two_mk (by unfold truncV; rw [if_neg (by omega)]) (by unfold truncE; rw [if_neg (by omega)])
    by_cases h2 : 4 < wd
    · go_enter Try.func12, Try.ntmps12
      go_wp2_with (fail)
      go_ret2
      exact two_mk (by unfold truncV; rw [if_neg (by omega)]) (by unfold truncE; rw [if_neg (by omega)])
    obtain rfl | rfl | rfl | rfl : wd = 1 ∨ wd = 2 ∨ wd = 3 ∨ wd = 4 := by omega
    · go_enter Try.func12, Try.ntmps12
      go_wp2_with ((go_at_call 17; ((with_reducible refine (power1 _).mono ?_); rintro e w' ⟨rfl, rfl⟩)))
      go_ret2
      exact two_mk (by unfold truncV; rw [if_pos (by omega)]; rfl) (by unfold truncE; rw [if_pos (by omega)])
    · go_enter Try.func12, Try.ntmps12
      go_wp2_with ((go_at_call 17; ((with_reducible refine (power2 _).mono ?_); rintro e w' ⟨rfl, rfl⟩)))
      go_ret2
      exact two_mk (by unfold truncV; rw [if_pos (by omega)]; rfl) (by unfold truncE; rw [if_pos (by omega)])
    · go_enter Try.func12, Try.ntmps12
      go_wp2_with ((go_at_call 17; ((with_reducible refine (power3 _).mono ?_); rintro e w' ⟨rfl, rfl⟩)))
      go_ret2
      exact two_mk (by unfold truncV; rw [if_pos (by omega)]; rfl) (by unfold truncE; rw [if_pos (by omega)])
    · go_enter Try.func12, Try.ntmps12
      go_wp2_with ((go_at_call 17; ((with_reducible refine (power4 _).mono ?_); rintro e w' ⟨rfl, rfl⟩)))
      go_ret2
      exact two_mk (by unfold truncV; rw [if_pos (by omega)]; rfl) (by unfold truncE; rw [if_pos (by omega)])
  · have hx : truncV pn wd = 0 := by unfold truncV; rw [if_neg (by omega)]
    have hy : truncE pn wd = 60 := by unfold truncE; rw [if_neg (by omega)]
    rw [hx, hy]
    clear hx hy
    by_cases h0 : pn < 0
    · go_enter Try.func12, Try.ntmps12
      go_wp2
      go_ret2; exact two_mk rfl rfl
    have h2 : 281474976710655 < pn := by omega
    clear hv
    go_enter Try.func12, Try.ntmps12
    go_wp2
    go_ret2; exact two_mk rfl rfl

set_option maxHeartbeats 2000000 in
theorem exp_badw (l t wd : Int) (w : World) (h : ¬ ExpOK l t wd) : Calls Try.prog 13 #[.int .i64 l, .int .i64 t, .int .i64 wd] w (Two 0 60 w) := by
  unfold ExpOK at h
  by_cases h1 : l < -1
  · clear h
    go_enter Try.func13, Try.ntmps13
    go_wp2
    go_ret2; exact two_mk rfl rfl
  by_cases h2 : 281474976710655 < l
  · clear h
    go_enter Try.func13, Try.ntmps13
    go_wp2
    go_ret2; exact two_mk rfl rfl
  by_cases h3 : wd < 1
  · clear h
    go_enter Try.func13, Try.ntmps13
    go_wp2
    go_ret2; exact two_mk rfl rfl
  by_cases h4 : 4 < wd
  · clear h
    go_enter Try.func13, Try.ntmps13
    go_wp2
    go_ret2; exact two_mk rfl rfl
  by_cases h5 : t < 0
  · clear h
    go_enter Try.func13, Try.ntmps13
    go_wp2
    go_ret2; exact two_mk rfl rfl
  obtain rfl | rfl | rfl | rfl : wd = 1 ∨ wd = 2 ∨ wd = 3 ∨ wd = 4 := by omega
  · have h6 : 256 ≤ t := by have e : winZ 1 = 256 := rfl; rw [e] at h; omega
    clear h
    go_enter Try.func13, Try.ntmps13
    go_wp2_with (go_at_call 16; first | ((with_reducible refine (window1 _).mono ?_); rintro e w' ⟨rfl, rfl⟩) | ((with_reducible refine (window2 _).mono ?_); rintro e w' ⟨rfl, rfl⟩) | ((with_reducible refine (window3 _).mono ?_); rintro e w' ⟨rfl, rfl⟩) | ((with_reducible refine (window4 _).mono ?_); rintro e w' ⟨rfl, rfl⟩))
    go_ret2; exact two_mk rfl rfl
  · have h6 : 65536 ≤ t := by have e : winZ 2 = 65536 := rfl; rw [e] at h; omega
    clear h
    go_enter Try.func13, Try.ntmps13
    go_wp2_with (go_at_call 16; first | ((with_reducible refine (window1 _).mono ?_); rintro e w' ⟨rfl, rfl⟩) | ((with_reducible refine (window2 _).mono ?_); rintro e w' ⟨rfl, rfl⟩) | ((with_reducible refine (window3 _).mono ?_); rintro e w' ⟨rfl, rfl⟩) | ((with_reducible refine (window4 _).mono ?_); rintro e w' ⟨rfl, rfl⟩))
    go_ret2; exact two_mk rfl rfl
  · have h6 : 16777216 ≤ t := by have e : winZ 3 = 16777216 := rfl; rw [e] at h; omega
    clear h
    go_enter Try.func13, Try.ntmps13
    go_wp2_with (go_at_call 16; first | ((with_reducible refine (window1 _).mono ?_); rintro e w' ⟨rfl, rfl⟩) | ((with_reducible refine (window2 _).mono ?_); rintro e w' ⟨rfl, rfl⟩) | ((with_reducible refine (window3 _).mono ?_); rintro e w' ⟨rfl, rfl⟩) | ((with_reducible refine (window4 _).mono ?_); rintro e w' ⟨rfl, rfl⟩))
    go_ret2; exact two_mk rfl rfl
  · have h6 : 4294967296 ≤ t := by have e : winZ 4 = 4294967296 := rfl; rw [e] at h; omega
    clear h
    go_enter Try.func13, Try.ntmps13
    go_wp2_with (go_at_call 16; first | ((with_reducible refine (window1 _).mono ?_); rintro e w' ⟨rfl, rfl⟩) | ((with_reducible refine (window2 _).mono ?_); rintro e w' ⟨rfl, rfl⟩) | ((with_reducible refine (window3 _).mono ?_); rintro e w' ⟨rfl, rfl⟩) | ((with_reducible refine (window4 _).mono ?_); rintro e w' ⟨rfl, rfl⟩))
    go_ret2; exact two_mk rfl rfl

set_option maxHeartbeats 2000000 in
theorem exp_g1 (l t : Int) (w : World) (h1 : -1 ≤ l) (h2 : l ≤ 281474976710655) (h3 : 0 ≤ t) (h4 : t < 256) : Calls Try.prog 13 #[.int .i64 l, .int .i64 t, .int .i64 1] w (Two (expV l t 1) (expE l t 1) w) := by
  go_enter Try.func13, Try.ntmps13
  go_wp2_with (first | (go_at_call 16; first | ((with_reducible refine (window1 _).mono ?_); rintro e w' ⟨rfl, rfl⟩) | ((with_reducible refine (window2 _).mono ?_); rintro e w' ⟨rfl, rfl⟩) | ((with_reducible refine (window3 _).mono ?_); rintro e w' ⟨rfl, rfl⟩) | ((with_reducible refine (window4 _).mono ?_); rintro e w' ⟨rfl, rfl⟩)) | (go_at_call 15; go_in))
  all_goals go_ret2
  all_goals (try simp only [Bool.not_eq_true', Bool.not_eq_false', Bool.not_eq_eq_eq_not, Bool.not_true, Bool.not_false, decide_eq_true_eq, decide_eq_false_iff_not] at *)
  all_goals first
    | (exfalso; omega)
    | (refine two_mk' (exp_good (l := l) (t := t) (w := 1) (win := 256) h1 h2 (by omega) (by omega) h3 rfl h4 ?_ ?_) <;> first | omega | (unfold expRaw candZ; (repeat' split) <;> omega))
    | (refine two_mk' (exp_big (l := l) (t := t) (w := 1) (win := 256) ?_ rfl ?_) <;> (try rfl) <;> (unfold expRaw candZ; (repeat' split) <;> omega))

set_option maxHeartbeats 2000000 in
theorem exp_g2 (l t : Int) (w : World) (h1 : -1 ≤ l) (h2 : l ≤ 281474976710655) (h3 : 0 ≤ t) (h4 : t < 65536) : Calls Try.prog 13 #[.int .i64 l, .int .i64 t, .int .i64 2] w (Two (expV l t 2) (expE l t 2) w) := by
  go_enter Try.func13, Try.ntmps13
  go_wp2_with (first | (go_at_call 16; first | ((with_reducible refine (window1 _).mono ?_); rintro e w' ⟨rfl, rfl⟩) | ((with_reducible refine (window2 _).mono ?_); rintro e w' ⟨rfl, rfl⟩) | ((with_reducible refine (window3 _).mono ?_); rintro e w' ⟨rfl, rfl⟩) | ((with_reducible refine (window4 _).mono ?_); rintro e w' ⟨rfl, rfl⟩)) | (go_at_call 15; go_in))
  all_goals go_ret2
  all_goals (try simp only [Bool.not_eq_true', Bool.not_eq_false', Bool.not_eq_eq_eq_not, Bool.not_true, Bool.not_false, decide_eq_true_eq, decide_eq_false_iff_not] at *)
  all_goals first
    | (exfalso; omega)
    | (refine two_mk' (exp_good (l := l) (t := t) (w := 2) (win := 65536) h1 h2 (by omega) (by omega) h3 rfl h4 ?_ ?_) <;> first | omega | (unfold expRaw candZ; (repeat' split) <;> omega))
    | (refine two_mk' (exp_big (l := l) (t := t) (w := 2) (win := 65536) ?_ rfl ?_) <;> (try rfl) <;> (unfold expRaw candZ; (repeat' split) <;> omega))

set_option maxHeartbeats 2000000 in
theorem exp_g3 (l t : Int) (w : World) (h1 : -1 ≤ l) (h2 : l ≤ 281474976710655) (h3 : 0 ≤ t) (h4 : t < 16777216) : Calls Try.prog 13 #[.int .i64 l, .int .i64 t, .int .i64 3] w (Two (expV l t 3) (expE l t 3) w) := by
  go_enter Try.func13, Try.ntmps13
  go_wp2_with (first | (go_at_call 16; first | ((with_reducible refine (window1 _).mono ?_); rintro e w' ⟨rfl, rfl⟩) | ((with_reducible refine (window2 _).mono ?_); rintro e w' ⟨rfl, rfl⟩) | ((with_reducible refine (window3 _).mono ?_); rintro e w' ⟨rfl, rfl⟩) | ((with_reducible refine (window4 _).mono ?_); rintro e w' ⟨rfl, rfl⟩)) | (go_at_call 15; go_in))
  all_goals go_ret2
  all_goals (try simp only [Bool.not_eq_true', Bool.not_eq_false', Bool.not_eq_eq_eq_not, Bool.not_true, Bool.not_false, decide_eq_true_eq, decide_eq_false_iff_not] at *)
  all_goals first
    | (exfalso; omega)
    | (refine two_mk' (exp_good (l := l) (t := t) (w := 3) (win := 16777216) h1 h2 (by omega) (by omega) h3 rfl h4 ?_ ?_) <;> first | omega | (unfold expRaw candZ; (repeat' split) <;> omega))
    | (refine two_mk' (exp_big (l := l) (t := t) (w := 3) (win := 16777216) ?_ rfl ?_) <;> (try rfl) <;> (unfold expRaw candZ; (repeat' split) <;> omega))

set_option maxHeartbeats 2000000 in
theorem exp_g4 (l t : Int) (w : World) (h1 : -1 ≤ l) (h2 : l ≤ 281474976710655) (h3 : 0 ≤ t) (h4 : t < 4294967296) : Calls Try.prog 13 #[.int .i64 l, .int .i64 t, .int .i64 4] w (Two (expV l t 4) (expE l t 4) w) := by
  go_enter Try.func13, Try.ntmps13
  go_wp2_with (first | (go_at_call 16; first | ((with_reducible refine (window1 _).mono ?_); rintro e w' ⟨rfl, rfl⟩) | ((with_reducible refine (window2 _).mono ?_); rintro e w' ⟨rfl, rfl⟩) | ((with_reducible refine (window3 _).mono ?_); rintro e w' ⟨rfl, rfl⟩) | ((with_reducible refine (window4 _).mono ?_); rintro e w' ⟨rfl, rfl⟩)) | (go_at_call 15; go_in))
  all_goals go_ret2
  all_goals (try simp only [Bool.not_eq_true', Bool.not_eq_false', Bool.not_eq_eq_eq_not, Bool.not_true, Bool.not_false, decide_eq_true_eq, decide_eq_false_iff_not] at *)
  all_goals first
    | (exfalso; omega)
    | (refine two_mk' (exp_good (l := l) (t := t) (w := 4) (win := 4294967296) h1 h2 (by omega) (by omega) h3 rfl h4 ?_ ?_) <;> first | omega | (unfold expRaw candZ; (repeat' split) <;> omega))
    | (refine two_mk' (exp_big (l := l) (t := t) (w := 4) (win := 4294967296) ?_ rfl ?_) <;> (try rfl) <;> (unfold expRaw candZ; (repeat' split) <;> omega))

set_option maxHeartbeats 2000000 in
theorem rexp_badw (l t wd : Int) (w : World) (h : ¬ ExpOK l t wd) : Calls Try.prog 14 #[.int .i64 l, .int .i64 t, .int .i64 wd] w (Two 0 60 w) := by
  unfold ExpOK at h
  by_cases h1 : l < -1
  · clear h
    go_enter Try.func14, Try.ntmps14
    go_wp2
    go_ret2; exact two_mk rfl rfl
  by_cases h2 : 281474976710655 < l
  · clear h
    go_enter Try.func14, Try.ntmps14
    go_wp2
    go_ret2; exact two_mk rfl rfl
  by_cases h3 : wd < 1
  · clear h
    go_enter Try.func14, Try.ntmps14
    go_wp2
    go_ret2; exact two_mk rfl rfl
  by_cases h4 : 4 < wd
  · clear h
    go_enter Try.func14, Try.ntmps14
    go_wp2
    go_ret2; exact two_mk rfl rfl
  by_cases h5 : t < 0
  · clear h
    obtain rfl | rfl | rfl | rfl : wd = 1 ∨ wd = 2 ∨ wd = 3 ∨ wd = 4 := by omega
    · go_enter Try.func14, Try.ntmps14
      go_wp2_with ((go_at_call 17; ((with_reducible refine (power1 _).mono ?_); rintro e w' ⟨rfl, rfl⟩)))
      go_ret2; exact two_mk rfl rfl
    · go_enter Try.func14, Try.ntmps14
      go_wp2_with ((go_at_call 17; ((with_reducible refine (power2 _).mono ?_); rintro e w' ⟨rfl, rfl⟩)))
      go_ret2; exact two_mk rfl rfl
    · go_enter Try.func14, Try.ntmps14
      go_wp2_with ((go_at_call 17; ((with_reducible refine (power3 _).mono ?_); rintro e w' ⟨rfl, rfl⟩)))
      go_ret2; exact two_mk rfl rfl
    · go_enter Try.func14, Try.ntmps14
      go_wp2_with ((go_at_call 17; ((with_reducible refine (power4 _).mono ?_); rintro e w' ⟨rfl, rfl⟩)))
      go_ret2; exact two_mk rfl rfl
  obtain rfl | rfl | rfl | rfl : wd = 1 ∨ wd = 2 ∨ wd = 3 ∨ wd = 4 := by omega
  · have h6 : 256 ≤ t := by have e : winZ 1 = 256 := rfl; rw [e] at h; omega
    clear h
    go_enter Try.func14, Try.ntmps14
    go_wp2_with ((go_at_call 17; ((with_reducible refine (power1 _).mono ?_); rintro e w' ⟨rfl, rfl⟩)))
    go_ret2; exact two_mk rfl rfl
  · have h6 : 65536 ≤ t := by have e : winZ 2 = 65536 := rfl; rw [e] at h; omega
    clear h
    go_enter Try.func14, Try.ntmps14
    go_wp2_with ((go_at_call 17; ((with_reducible refine (power2 _).mono ?_); rintro e w' ⟨rfl, rfl⟩)))
    go_ret2; exact two_mk rfl rfl
  · have h6 : 16777216 ≤ t := by have e : winZ 3 = 16777216 := rfl; rw [e] at h; omega
    clear h
    go_enter Try.func14, Try.ntmps14
    go_wp2_with ((go_at_call 17; ((with_reducible refine (power3 _).mono ?_); rintro e w' ⟨rfl, rfl⟩)))
    go_ret2; exact two_mk rfl rfl
  · have h6 : 4294967296 ≤ t := by have e : winZ 4 = 4294967296 := rfl; rw [e] at h; omega
    clear h
    go_enter Try.func14, Try.ntmps14
    go_wp2_with ((go_at_call 17; ((with_reducible refine (power4 _).mono ?_); rintro e w' ⟨rfl, rfl⟩)))
    go_ret2; exact two_mk rfl rfl

set_option maxHeartbeats 2000000 in
theorem rexp_g1 (l t : Int) (w : World) (h1 : -1 ≤ l) (h2 : l ≤ 281474976710655) (h3 : 0 ≤ t) (h4 : t < 256) : Calls Try.prog 14 #[.int .i64 l, .int .i64 t, .int .i64 1] w (Two (expV l t 1) (expE l t 1) w) := by
  go_enter Try.func14, Try.ntmps14
  go_wp2_with ((go_at_call 17; ((with_reducible refine (power1 _).mono ?_); rintro e w' ⟨rfl, rfl⟩)))
  all_goals go_ret2
  all_goals (try simp only [Bool.not_eq_true', Bool.not_eq_false', Bool.not_eq_eq_eq_not, Bool.not_true, Bool.not_false, decide_eq_true_eq, decide_eq_false_iff_not] at *)
  all_goals first
    | (exfalso; omega)
    | (refine two_mk' (exp_good (l := l) (t := t) (w := 1) (win := 256) h1 h2 (by omega) (by omega) h3 rfl h4 ?_ ?_) <;> first | omega | (unfold expRaw candZ; (repeat' split) <;> omega))
    | (refine two_mk' (exp_big (l := l) (t := t) (w := 1) (win := 256) ?_ rfl ?_) <;> (try rfl) <;> (unfold expRaw candZ; (repeat' split) <;> omega))

set_option maxHeartbeats 2000000 in
theorem rexp_g2 (l t : Int) (w : World) (h1 : -1 ≤ l) (h2 : l ≤ 281474976710655) (h3 : 0 ≤ t) (h4 : t < 65536) : Calls Try.prog 14 #[.int .i64 l, .int .i64 t, .int .i64 2] w (Two (expV l t 2) (expE l t 2) w) := by
  go_enter Try.func14, Try.ntmps14
  go_wp2_with ((go_at_call 17; ((with_reducible refine (power2 _).mono ?_); rintro e w' ⟨rfl, rfl⟩)))
  all_goals go_ret2
  all_goals (try simp only [Bool.not_eq_true', Bool.not_eq_false', Bool.not_eq_eq_eq_not, Bool.not_true, Bool.not_false, decide_eq_true_eq, decide_eq_false_iff_not] at *)
  all_goals first
    | (exfalso; omega)
    | (refine two_mk' (exp_good (l := l) (t := t) (w := 2) (win := 65536) h1 h2 (by omega) (by omega) h3 rfl h4 ?_ ?_) <;> first | omega | (unfold expRaw candZ; (repeat' split) <;> omega))
    | (refine two_mk' (exp_big (l := l) (t := t) (w := 2) (win := 65536) ?_ rfl ?_) <;> (try rfl) <;> (unfold expRaw candZ; (repeat' split) <;> omega))

set_option maxHeartbeats 2000000 in
theorem rexp_g3 (l t : Int) (w : World) (h1 : -1 ≤ l) (h2 : l ≤ 281474976710655) (h3 : 0 ≤ t) (h4 : t < 16777216) : Calls Try.prog 14 #[.int .i64 l, .int .i64 t, .int .i64 3] w (Two (expV l t 3) (expE l t 3) w) := by
  go_enter Try.func14, Try.ntmps14
  go_wp2_with ((go_at_call 17; ((with_reducible refine (power3 _).mono ?_); rintro e w' ⟨rfl, rfl⟩)))
  all_goals go_ret2
  all_goals (try simp only [Bool.not_eq_true', Bool.not_eq_false', Bool.not_eq_eq_eq_not, Bool.not_true, Bool.not_false, decide_eq_true_eq, decide_eq_false_iff_not] at *)
  all_goals first
    | (exfalso; omega)
    | (refine two_mk' (exp_good (l := l) (t := t) (w := 3) (win := 16777216) h1 h2 (by omega) (by omega) h3 rfl h4 ?_ ?_) <;> first | omega | (unfold expRaw candZ; (repeat' split) <;> omega))
    | (refine two_mk' (exp_big (l := l) (t := t) (w := 3) (win := 16777216) ?_ rfl ?_) <;> (try rfl) <;> (unfold expRaw candZ; (repeat' split) <;> omega))

set_option maxHeartbeats 2000000 in
theorem rexp_g4 (l t : Int) (w : World) (h1 : -1 ≤ l) (h2 : l ≤ 281474976710655) (h3 : 0 ≤ t) (h4 : t < 4294967296) : Calls Try.prog 14 #[.int .i64 l, .int .i64 t, .int .i64 4] w (Two (expV l t 4) (expE l t 4) w) := by
  go_enter Try.func14, Try.ntmps14
  go_wp2_with ((go_at_call 17; ((with_reducible refine (power4 _).mono ?_); rintro e w' ⟨rfl, rfl⟩)))
  all_goals go_ret2
  all_goals (try simp only [Bool.not_eq_true', Bool.not_eq_false', Bool.not_eq_eq_eq_not, Bool.not_true, Bool.not_false, decide_eq_true_eq, decide_eq_false_iff_not] at *)
  all_goals first
    | (exfalso; omega)
    | (refine two_mk' (exp_good (l := l) (t := t) (w := 4) (win := 4294967296) h1 h2 (by omega) (by omega) h3 rfl h4 ?_ ?_) <;> first | omega | (unfold expRaw candZ; (repeat' split) <;> omega))
    | (refine two_mk' (exp_big (l := l) (t := t) (w := 4) (win := 4294967296) ?_ rfl ?_) <;> (try rfl) <;> (unfold expRaw candZ; (repeat' split) <;> omega))

theorem exp_cases (l t wd : Int) (h : ExpOK l t wd) : (wd = 1 ∧ -1 ≤ l ∧ l ≤ 281474976710655 ∧ 0 ≤ t ∧ t < 256) ∨ (wd = 2 ∧ -1 ≤ l ∧ l ≤ 281474976710655 ∧ 0 ≤ t ∧ t < 65536) ∨ (wd = 3 ∧ -1 ≤ l ∧ l ≤ 281474976710655 ∧ 0 ≤ t ∧ t < 16777216) ∨ (wd = 4 ∧ -1 ≤ l ∧ l ≤ 281474976710655 ∧ 0 ≤ t ∧ t < 4294967296) := by
  obtain ⟨a, b, c, d, e, f⟩ := h
  obtain rfl | rfl | rfl | rfl : wd = 1 ∨ wd = 2 ∨ wd = 3 ∨ wd = 4 := by omega
  · exact .inl ⟨rfl, a, b, e, f⟩
  · exact .inr (.inl ⟨rfl, a, b, e, f⟩)
  · exact .inr (.inr (.inl ⟨rfl, a, b, e, f⟩))
  · exact .inr (.inr (.inr ⟨rfl, a, b, e, f⟩))
theorem exp_any (l t wd : Int) (w : World) : Calls Try.prog 13 #[.int .i64 l, .int .i64 t, .int .i64 wd] w (Two (expV l t wd) (expE l t wd) w) := by
  by_cases h : ExpOK l t wd
  · obtain ⟨rfl, a, b, c, d⟩ | ⟨rfl, a, b, c, d⟩ | ⟨rfl, a, b, c, d⟩ | ⟨rfl, a, b, c, d⟩ := exp_cases l t wd h
    · exact exp_g1 l t w a b c d
    · exact exp_g2 l t w a b c d
    · exact exp_g3 l t w a b c d
    · exact exp_g4 l t w a b c d
  · obtain ⟨e1, e2⟩ := exp_bad h
    rw [e1, e2]
    exact exp_badw l t wd w h
theorem rexp_any (l t wd : Int) (w : World) : Calls Try.prog 14 #[.int .i64 l, .int .i64 t, .int .i64 wd] w (Two (expV l t wd) (expE l t wd) w) := by
  by_cases h : ExpOK l t wd
  · obtain ⟨rfl, a, b, c, d⟩ | ⟨rfl, a, b, c, d⟩ | ⟨rfl, a, b, c, d⟩ | ⟨rfl, a, b, c, d⟩ := exp_cases l t wd h
    · exact rexp_g1 l t w a b c d
    · exact rexp_g2 l t w a b c d
    · exact rexp_g3 l t w a b c d
    · exact rexp_g4 l t w a b c d
  · obtain ⟨e1, e2⟩ := exp_bad h
    rw [e1, e2]
    exact rexp_badw l t wd w h
end Go.Proofs.Ytdjnjaflhoclmaa
