/- Contracts of pktnum (of XPnA and XPnB), for seats without chapter 06. -/
import Derived.Test.YthjlkiilkiggiaaBas
import Derived.ProofKit
import Derived.OpenShut
import Derived.IntWalk
import Derived.Outline
import Derived.Handy
import Derived.WalkMore
import Derived.Lib.Hide
namespace Go.Proofs.Ythjlkiilkiggiaa
open Go.RowKit
set_option linter.unusedVariables false
set_option linter.unusedSimpArgs false


theorem ret_two {k k2 : IntKind} {a b c d : Int} (h : a = b) (h2 : c = d) : Ending.returned (.tuple #[.int k a, .int k2 c]) = .returned (.tuple #[.int k b, .int k2 d]) := by rw [h, h2]

def validB (n : Int) : Bool := decide (0 ≤ n ∧ n ≤ 281474976710655)

theorem valid_any (n : Int) (w : World) :
    Calls Try.prog 35 #[.int .i64 n] w fun e w' => e = .returned (.bool (validB n)) ∧ w = w' := by
  have e : validB n = decide (0 ≤ n ∧ n ≤ 281474976710655) := rfl
  have E := Lib.hid e; clear e
  by_cases h0 : 0 ≤ n
  · by_cases h1 : n ≤ 281474976710655
    all_goals
      go_enter Try.func35, Try.ntmps35
      go_wp2
      go_ret
      exact ⟨by rw [E.out]; simp [h0, h1], rfl⟩
  · go_enter Try.func35, Try.ntmps35
    go_wp2
    go_ret
    exact ⟨by rw [E.out]; simp; omega, rfl⟩
theorem valid_t (n : Int) (w : World) (h0 : 0 ≤ n) (h1 : n ≤ 281474976710655) :
    Calls Try.prog 35 #[.int .i64 n] w fun e w' => e = .returned (.bool true) ∧ w = w' :=
  (valid_any n w).mono fun _ _ ⟨he, hw⟩ => ⟨by rw [he]; simp [validB, h0, h1], hw⟩
theorem valid_f (n : Int) (w : World) (h : ¬ (0 ≤ n ∧ n ≤ 281474976710655)) :
    Calls Try.prog 35 #[.int .i64 n] w fun e w' => e = .returned (.bool false) ∧ w = w' :=
  (valid_any n w).mono fun _ _ ⟨he, hw⟩ => ⟨by rw [he]; unfold validB; rw [decide_eq_false h], hw⟩

theorem window1 (w : World) : Calls Try.prog 36 #[.int .i64 1] w fun e w' => e = .returned (.int .i64 256) ∧ w = w' := by
  go_enter Try.func36, Try.ntmps36
  go_wp2
  go_ret
  exact ⟨rfl, rfl⟩
theorem window2 (w : World) : Calls Try.prog 36 #[.int .i64 2] w fun e w' => e = .returned (.int .i64 65536) ∧ w = w' := by
  go_enter Try.func36, Try.ntmps36
  go_wp2
  go_ret
  exact ⟨rfl, rfl⟩
theorem window3 (w : World) : Calls Try.prog 36 #[.int .i64 3] w fun e w' => e = .returned (.int .i64 16777216) ∧ w = w' := by
  go_enter Try.func36, Try.ntmps36
  go_wp2
  go_ret
  exact ⟨rfl, rfl⟩
theorem window4 (w : World) : Calls Try.prog 36 #[.int .i64 4] w fun e w' => e = .returned (.int .i64 4294967296) ∧ w = w' := by
  go_enter Try.func36, Try.ntmps36
  go_wp2
  go_ret
  exact ⟨rfl, rfl⟩

/-- What Width answers: the width, and the error's number. -/
def widthW (pn acked : Int) : Int :=
  if 0 ≤ pn ∧ pn ≤ 281474976710655 ∧ -1 ≤ acked ∧ acked < pn then
    if 2 * (pn - acked) < 256 then 1 else if 2 * (pn - acked) < 65536 then 2 else if 2 * (pn - acked) < 16777216 then 3 else if 2 * (pn - acked) < 4294967296 then 4 else 0
  else 0
def widthE (pn acked : Int) : Int :=
  if 0 ≤ pn ∧ pn ≤ 281474976710655 ∧ -1 ≤ acked ∧ acked < pn ∧ 2 * (pn - acked) < 4294967296 then 0 else 60
def PTwo (a b : Int) (w : World) (e : Ending) (w' : World) : Prop := e = .returned (.tuple #[.int .i64 a, .int .i64 b]) ∧ w = w'
theorem two_mk {a b a' b' : Int} {w : World} (h : a' = a) (h2 : b' = b) : PTwo a b w (.returned (.tuple #[.int .i64 a', .int .i64 b'])) w := ⟨by rw [h, h2], rfl⟩

set_option maxHeartbeats 1000000 in
theorem width_any (pn acked : Int) (w : World) (h1 : -9223372036854775808 ≤ acked) :
    Calls Try.prog 19 #[.int .i64 pn, .int .i64 acked] w (PTwo (widthW pn acked) (widthE pn acked) w) := by
  by_cases hv : 0 ≤ pn ∧ pn ≤ 281474976710655
  · obtain ⟨hv1, hv2⟩ := hv
    by_cases ha : acked < -1
    · go_enter Try.func19, Try.ntmps19
      go_wp2
      go_step3
      go_wp2_with (go_at_call 35; refine (valid_t _ _ hv1 hv2).mono ?_; rintro e w' ⟨rfl, rfl⟩)
      rw [Exit.noGoto_ret]
      go_ret2
      exact two_mk (by unfold widthW; rw [if_neg (by omega)]) (by unfold widthE; rw [if_neg (by omega)])
    · by_cases hb : pn ≤ acked
      · go_enter Try.func19, Try.ntmps19
        go_wp2
        go_step3
        go_wp2_with (go_at_call 35; refine (valid_t _ _ hv1 hv2).mono ?_; rintro e w' ⟨rfl, rfl⟩)
        rw [Exit.noGoto_ret]
        go_ret2
        exact two_mk (by unfold widthW; rw [if_neg (by omega)]) (by unfold widthE; rw [if_neg (by omega)])
      · go_enter Try.func19, Try.ntmps19
        go_wp2
        go_step3
        go_wp2_with (go_at_call 35; refine (valid_t _ _ hv1 hv2).mono ?_; rintro e w' ⟨rfl, rfl⟩)
        go_step3
        go_wp2
        refine wp_loop_rounds 4 ?_
        rw [rounds_succ]
        go_wp2
        · (try rw [Exit.noGoto_ret]); go_ret2; exact two_mk (by unfold widthW; rw [if_pos (by omega), if_pos (by assumption)]) (by unfold widthE; rw [if_pos (by omega)])
        rw [rounds_succ]
        go_wp2
        · (try rw [Exit.noGoto_ret]); go_ret2; exact two_mk (by unfold widthW; rw [if_pos (by omega), if_neg (by omega), if_pos (by assumption)]) (by unfold widthE; rw [if_pos (by omega)])
        rw [rounds_succ]
        go_wp2
        · (try rw [Exit.noGoto_ret]); go_ret2; exact two_mk (by unfold widthW; rw [if_pos (by omega), if_neg (by omega), if_neg (by omega), if_pos (by assumption)]) (by unfold widthE; rw [if_pos (by omega)])
        rw [rounds_succ]
        go_wp2
        · (try rw [Exit.noGoto_ret]); go_ret2; exact two_mk (by unfold widthW; rw [if_pos (by omega), if_neg (by omega), if_neg (by omega), if_neg (by omega), if_pos (by assumption)]) (by unfold widthE; rw [if_pos (by omega)])
        · (try rw [Exit.noGoto_ret]); go_ret2; exact two_mk (by unfold widthW; rw [if_pos (by omega), if_neg (by omega), if_neg (by omega), if_neg (by omega), if_neg (by omega)]) (by unfold widthE; rw [if_neg (by omega)])
  · go_enter Try.func19, Try.ntmps19
    go_wp2
    go_step3
    go_wp2_with (go_at_call 35; refine (valid_f _ _ hv).mono ?_; rintro e w' ⟨rfl, rfl⟩)
    rw [Exit.noGoto_ret]
    go_ret2
    exact two_mk (by unfold widthW; rw [if_neg (by omega)]) (by unfold widthE; rw [if_neg (by omega)])

def winZ (w : Int) : Int := if w = 1 then 256 else if w = 2 then 65536 else if w = 3 then 16777216 else 4294967296
def truncV (pn w : Int) : Int := if 0 ≤ pn ∧ pn ≤ 281474976710655 ∧ 1 ≤ w ∧ w ≤ 4 then pn % winZ w else 0
def truncE (pn w : Int) : Int := if 0 ≤ pn ∧ pn ≤ 281474976710655 ∧ 1 ≤ w ∧ w ≤ 4 then 0 else 60
def ExpOK (l t w : Int) : Prop := -1 ≤ l ∧ l ≤ 281474976710655 ∧ 1 ≤ w ∧ w ≤ 4 ∧ 0 ≤ t ∧ t < winZ w
/-- The candidate: the number with truncation t in the window of the expected number x. -/
def candZ (win x t : Int) : Int := x - x % win + t
def expRaw (win x t : Int) : Int :=
  if candZ win x t ≤ x - win / 2 ∧ candZ win x t + win ≤ 281474976710655 then candZ win x t + win
  else if x + win / 2 < candZ win x t ∧ win ≤ candZ win x t then candZ win x t - win else candZ win x t
open Classical in
noncomputable def expV (l t w : Int) : Int := if ExpOK l t w ∧ expRaw (winZ w) (l + 1) t ≤ 281474976710655 then expRaw (winZ w) (l + 1) t else 0
open Classical in
noncomputable def expE (l t w : Int) : Int := if ExpOK l t w ∧ expRaw (winZ w) (l + 1) t ≤ 281474976710655 then 0 else 60

theorem exp_bad {l t w : Int} (h : ¬ ExpOK l t w) : expV l t w = 0 ∧ expE l t w = 60 := by
  unfold expV expE; rw [if_neg (fun x => h x.1), if_neg (fun x => h x.1)]; exact ⟨rfl, rfl⟩
theorem exp_good {l t w r win : Int} (h1 : -1 ≤ l) (h2 : l ≤ 281474976710655) (h3 : 1 ≤ w) (h4 : w ≤ 4) (h5 : 0 ≤ t) (hw : winZ w = win) (h6 : t < win) (hr : expRaw win (l + 1) t = r) (hm : r ≤ 281474976710655) : r = expV l t w ∧ 0 = expE l t w := by
  subst hw hr
  have hk : ExpOK l t w ∧ expRaw (winZ w) (l + 1) t ≤ 281474976710655 := ⟨⟨h1, h2, h3, h4, h5, h6⟩, hm⟩
  unfold expV expE; rw [if_pos hk, if_pos hk]; exact ⟨rfl, rfl⟩
theorem exp_big {l t w r win : Int} (hw : winZ w = win) (hr : expRaw win (l + 1) t = r) (hm : 281474976710655 < r) : 0 = expV l t w ∧ 60 = expE l t w := by
  subst hw hr
  have hk : ¬ (ExpOK l t w ∧ expRaw (winZ w) (l + 1) t ≤ 281474976710655) := fun x => by omega
  unfold expV expE; rw [if_neg hk, if_neg hk]; exact ⟨rfl, rfl⟩
theorem two_mk' {a b a' b' : Int} {w : World} (h : a' = a ∧ b' = b) : PTwo a b w (.returned (.tuple #[.int .i64 a', .int .i64 b'])) w := two_mk h.1 h.2
theorem two_mk'' {a b a' b' : Int} {w : World} (h : a = a' ∧ b = b') : PTwo a b w (.returned (.tuple #[.int .i64 a', .int .i64 b'])) w := two_mk h.1.symm h.2.symm

set_option maxHeartbeats 1000000 in
theorem trunc_any (pn wd : Int) (w : World) : Calls Try.prog 20 #[.int .i64 pn, .int .i64 wd] w (PTwo (truncV pn wd) (truncE pn wd) w) := by
  by_cases hv : 0 ≤ pn ∧ pn ≤ 281474976710655
  · obtain ⟨hv1, hv2⟩ := hv
    by_cases h1 : wd < 1
    · go_enter Try.func20, Try.ntmps20
      go_wp2_with (first | (go_at_call 36; first | ((with_reducible refine (window1 _).mono ?_); rintro e w' ⟨rfl, rfl⟩) | ((with_reducible refine (window2 _).mono ?_); rintro e w' ⟨rfl, rfl⟩) | ((with_reducible refine (window3 _).mono ?_); rintro e w' ⟨rfl, rfl⟩) | ((with_reducible refine (window4 _).mono ?_); rintro e w' ⟨rfl, rfl⟩)) | (go_at_call 35; refine (valid_t _ _ (by omega) (by omega)).mono ?_; rintro e w' ⟨rfl, rfl⟩))
      go_ret2
      exact two_mk (by unfold truncV; rw [if_neg (by omega)]) (by unfold truncE; rw [if_neg (by omega)])
    by_cases h2 : 4 < wd
    · go_enter Try.func20, Try.ntmps20
      go_wp2_with (first | (go_at_call 36; first | ((with_reducible refine (window1 _).mono ?_); rintro e w' ⟨rfl, rfl⟩) | ((with_reducible refine (window2 _).mono ?_); rintro e w' ⟨rfl, rfl⟩) | ((with_reducible refine (window3 _).mono ?_); rintro e w' ⟨rfl, rfl⟩) | ((with_reducible refine (window4 _).mono ?_); rintro e w' ⟨rfl, rfl⟩)) | (go_at_call 35; refine (valid_t _ _ (by omega) (by omega)).mono ?_; rintro e w' ⟨rfl, rfl⟩))
      go_ret2
      exact two_mk (by unfold truncV; rw [if_neg (by omega)]) (by unfold truncE; rw [if_neg (by omega)])
    obtain rfl | rfl | rfl | rfl : wd = 1 ∨ wd = 2 ∨ wd = 3 ∨ wd = 4 := by omega
    · go_enter Try.func20, Try.ntmps20
      go_wp2_with (first | (go_at_call 36; first | ((with_reducible refine (window1 _).mono ?_); rintro e w' ⟨rfl, rfl⟩) | ((with_reducible refine (window2 _).mono ?_); rintro e w' ⟨rfl, rfl⟩) | ((with_reducible refine (window3 _).mono ?_); rintro e w' ⟨rfl, rfl⟩) | ((with_reducible refine (window4 _).mono ?_); rintro e w' ⟨rfl, rfl⟩)) | (go_at_call 35; refine (valid_t _ _ (by omega) (by omega)).mono ?_; rintro e w' ⟨rfl, rfl⟩))
      go_ret2
      exact two_mk (by unfold truncV; rw [if_pos (by omega)]; rfl) (by unfold truncE; rw [if_pos (by omega)])
    · go_enter Try.func20, Try.ntmps20
      go_wp2_with (first | (go_at_call 36; first | ((with_reducible refine (window1 _).mono ?_); rintro e w' ⟨rfl, rfl⟩) | ((with_reducible refine (window2 _).mono ?_); rintro e w' ⟨rfl, rfl⟩) | ((with_reducible refine (window3 _).mono ?_); rintro e w' ⟨rfl, rfl⟩) | ((with_reducible refine (window4 _).mono ?_); rintro e w' ⟨rfl, rfl⟩)) | (go_at_call 35; refine (valid_t _ _ (by omega) (by omega)).mono ?_; rintro e w' ⟨rfl, rfl⟩))
      go_ret2
      exact two_mk (by unfold truncV; rw [if_pos (by omega)]; rfl) (by unfold truncE; rw [if_pos (by omega)])
    · go_enter Try.func20, Try.ntmps20
      go_wp2_with (first | (go_at_call 36; first | ((with_reducible refine (window1 _).mono ?_); rintro e w' ⟨rfl, rfl⟩) | ((with_reducible refine (window2 _).mono ?_); rintro e w' ⟨rfl, rfl⟩) | ((with_reducible refine (window3 _).mono ?_); rintro e w' ⟨rfl, rfl⟩) | ((with_reducible refine (window4 _).mono ?_); rintro e w' ⟨rfl, rfl⟩)) | (go_at_call 35; refine (valid_t _ _ (by omega) (by omega)).mono ?_; rintro e w' ⟨rfl, rfl⟩))
      go_ret2
      exact two_mk (by unfold truncV; rw [if_pos (by omega)]; rfl) (by unfold truncE; rw [if_pos (by omega)])
    · go_enter Try.func20, Try.ntmps20
      go_wp2_with (first | (go_at_call 36; first | ((with_reducible refine (window1 _).mono ?_); rintro e w' ⟨rfl, rfl⟩) | ((with_reducible refine (window2 _).mono ?_); rintro e w' ⟨rfl, rfl⟩) | ((with_reducible refine (window3 _).mono ?_); rintro e w' ⟨rfl, rfl⟩) | ((with_reducible refine (window4 _).mono ?_); rintro e w' ⟨rfl, rfl⟩)) | (go_at_call 35; refine (valid_t _ _ (by omega) (by omega)).mono ?_; rintro e w' ⟨rfl, rfl⟩))
      go_ret2
      exact two_mk (by unfold truncV; rw [if_pos (by omega)]; rfl) (by unfold truncE; rw [if_pos (by omega)])
  · go_enter Try.func20, Try.ntmps20
    go_wp2_with (first | (go_at_call 35; refine (valid_f _ _ hv).mono ?_; rintro e w' ⟨rfl, rfl⟩))
    go_ret2
    exact two_mk (by unfold truncV; rw [if_neg (by omega)]) (by unfold truncE; rw [if_neg (by omega)])

set_option maxHeartbeats 2000000 in
theorem exp_badw (l t wd : Int) (w : World) (h : ¬ ExpOK l t wd) : Calls Try.prog 21 #[.int .i64 l, .int .i64 t, .int .i64 wd] w (PTwo 0 60 w) := by
  unfold ExpOK at h
  by_cases h1 : l < -1
  · clear h
    go_enter Try.func21, Try.ntmps21
    go_wp2
    go_ret2; exact two_mk rfl rfl
  by_cases h2 : 281474976710655 < l
  · clear h
    go_enter Try.func21, Try.ntmps21
    go_wp2
    go_ret2; exact two_mk rfl rfl
  by_cases h3 : wd < 1
  · clear h
    go_enter Try.func21, Try.ntmps21
    go_wp2
    go_ret2; exact two_mk rfl rfl
  by_cases h4 : 4 < wd
  · clear h
    go_enter Try.func21, Try.ntmps21
    go_wp2
    go_ret2; exact two_mk rfl rfl
  by_cases h5 : t < 0
  · clear h
    go_enter Try.func21, Try.ntmps21
    go_wp2
    go_ret2; exact two_mk rfl rfl
  obtain rfl | rfl | rfl | rfl : wd = 1 ∨ wd = 2 ∨ wd = 3 ∨ wd = 4 := by omega
  · have h6 : 256 ≤ t := by have e : winZ 1 = 256 := rfl; rw [e] at h; omega
    clear h
    go_enter Try.func21, Try.ntmps21
    go_wp2_with (go_at_call 36; first | ((with_reducible refine (window1 _).mono ?_); rintro e w' ⟨rfl, rfl⟩) | ((with_reducible refine (window2 _).mono ?_); rintro e w' ⟨rfl, rfl⟩) | ((with_reducible refine (window3 _).mono ?_); rintro e w' ⟨rfl, rfl⟩) | ((with_reducible refine (window4 _).mono ?_); rintro e w' ⟨rfl, rfl⟩))
    go_ret2; exact two_mk rfl rfl
  · have h6 : 65536 ≤ t := by have e : winZ 2 = 65536 := rfl; rw [e] at h; omega
    clear h
    go_enter Try.func21, Try.ntmps21
    go_wp2_with (go_at_call 36; first | ((with_reducible refine (window1 _).mono ?_); rintro e w' ⟨rfl, rfl⟩) | ((with_reducible refine (window2 _).mono ?_); rintro e w' ⟨rfl, rfl⟩) | ((with_reducible refine (window3 _).mono ?_); rintro e w' ⟨rfl, rfl⟩) | ((with_reducible refine (window4 _).mono ?_); rintro e w' ⟨rfl, rfl⟩))
    go_ret2; exact two_mk rfl rfl
  · have h6 : 16777216 ≤ t := by have e : winZ 3 = 16777216 := rfl; rw [e] at h; omega
    clear h
    go_enter Try.func21, Try.ntmps21
    go_wp2_with (go_at_call 36; first | ((with_reducible refine (window1 _).mono ?_); rintro e w' ⟨rfl, rfl⟩) | ((with_reducible refine (window2 _).mono ?_); rintro e w' ⟨rfl, rfl⟩) | ((with_reducible refine (window3 _).mono ?_); rintro e w' ⟨rfl, rfl⟩) | ((with_reducible refine (window4 _).mono ?_); rintro e w' ⟨rfl, rfl⟩))
    go_ret2; exact two_mk rfl rfl
  · have h6 : 4294967296 ≤ t := by have e : winZ 4 = 4294967296 := rfl; rw [e] at h; omega
    clear h
    go_enter Try.func21, Try.ntmps21
    go_wp2_with (go_at_call 36; first | ((with_reducible refine (window1 _).mono ?_); rintro e w' ⟨rfl, rfl⟩) | ((with_reducible refine (window2 _).mono ?_); rintro e w' ⟨rfl, rfl⟩) | ((with_reducible refine (window3 _).mono ?_); rintro e w' ⟨rfl, rfl⟩) | ((with_reducible refine (window4 _).mono ?_); rintro e w' ⟨rfl, rfl⟩))
    go_ret2; exact two_mk rfl rfl

set_option maxHeartbeats 2000000 in
theorem exp_g1 (l t : Int) (w : World) (h1 : -1 ≤ l) (h2 : l ≤ 281474976710655) (h3 : 0 ≤ t) (h4 : t < 256) : Calls Try.prog 21 #[.int .i64 l, .int .i64 t, .int .i64 1] w (PTwo (expV l t 1) (expE l t 1) w) := by
  go_enter Try.func21, Try.ntmps21
  go_wp2_with (first | (go_at_call 36; first | ((with_reducible refine (window1 _).mono ?_); rintro e w' ⟨rfl, rfl⟩) | ((with_reducible refine (window2 _).mono ?_); rintro e w' ⟨rfl, rfl⟩) | ((with_reducible refine (window3 _).mono ?_); rintro e w' ⟨rfl, rfl⟩) | ((with_reducible refine (window4 _).mono ?_); rintro e w' ⟨rfl, rfl⟩)) | (go_at_call 35; go_in))
  all_goals go_ret2
  all_goals (try simp only [Bool.not_eq_true', Bool.not_eq_false', Bool.not_eq_eq_eq_not, Bool.not_true, Bool.not_false, decide_eq_true_eq, decide_eq_false_iff_not] at *)
  all_goals first
    | (exfalso; omega)
    | (refine two_mk' (exp_good (l := l) (t := t) (w := 1) (win := 256) h1 h2 (by omega) (by omega) h3 rfl h4 ?_ ?_) <;> first | omega | (unfold expRaw candZ; (repeat' split) <;> omega))
    | (refine two_mk' (exp_big (l := l) (t := t) (w := 1) (win := 256) ?_ rfl ?_) <;> (try rfl) <;> (unfold expRaw candZ; (repeat' split) <;> omega))

set_option maxHeartbeats 2000000 in
theorem exp_g2 (l t : Int) (w : World) (h1 : -1 ≤ l) (h2 : l ≤ 281474976710655) (h3 : 0 ≤ t) (h4 : t < 65536) : Calls Try.prog 21 #[.int .i64 l, .int .i64 t, .int .i64 2] w (PTwo (expV l t 2) (expE l t 2) w) := by
  go_enter Try.func21, Try.ntmps21
  go_wp2_with (first | (go_at_call 36; first | ((with_reducible refine (window1 _).mono ?_); rintro e w' ⟨rfl, rfl⟩) | ((with_reducible refine (window2 _).mono ?_); rintro e w' ⟨rfl, rfl⟩) | ((with_reducible refine (window3 _).mono ?_); rintro e w' ⟨rfl, rfl⟩) | ((with_reducible refine (window4 _).mono ?_); rintro e w' ⟨rfl, rfl⟩)) | (go_at_call 35; go_in))
  all_goals go_ret2
  all_goals (try simp only [Bool.not_eq_true', Bool.not_eq_false', Bool.not_eq_eq_eq_not, Bool.not_true, Bool.not_false, decide_eq_true_eq, decide_eq_false_iff_not] at *)
  all_goals first
    | (exfalso; omega)
    | (refine two_mk' (exp_good (l := l) (t := t) (w := 2) (win := 65536) h1 h2 (by omega) (by omega) h3 rfl h4 ?_ ?_) <;> first | omega | (unfold expRaw candZ; (repeat' split) <;> omega))
    | (refine two_mk' (exp_big (l := l) (t := t) (w := 2) (win := 65536) ?_ rfl ?_) <;> (try rfl) <;> (unfold expRaw candZ; (repeat' split) <;> omega))

set_option maxHeartbeats 2000000 in
theorem exp_g3 (l t : Int) (w : World) (h1 : -1 ≤ l) (h2 : l ≤ 281474976710655) (h3 : 0 ≤ t) (h4 : t < 16777216) : Calls Try.prog 21 #[.int .i64 l, .int .i64 t, .int .i64 3] w (PTwo (expV l t 3) (expE l t 3) w) := by
  go_enter Try.func21, Try.ntmps21
  go_wp2_with (first | (go_at_call 36; first | ((with_reducible refine (window1 _).mono ?_); rintro e w' ⟨rfl, rfl⟩) | ((with_reducible refine (window2 _).mono ?_); rintro e w' ⟨rfl, rfl⟩) | ((with_reducible refine (window3 _).mono ?_); rintro e w' ⟨rfl, rfl⟩) | ((with_reducible refine (window4 _).mono ?_); rintro e w' ⟨rfl, rfl⟩)) | (go_at_call 35; go_in))
  all_goals go_ret2
  all_goals (try simp only [Bool.not_eq_true', Bool.not_eq_false', Bool.not_eq_eq_eq_not, Bool.not_true, Bool.not_false, decide_eq_true_eq, decide_eq_false_iff_not] at *)
  all_goals first
    | (exfalso; omega)
    | (refine two_mk' (exp_good (l := l) (t := t) (w := 3) (win := 16777216) h1 h2 (by omega) (by omega) h3 rfl h4 ?_ ?_) <;> first | omega | (unfold expRaw candZ; (repeat' split) <;> omega))
    | (refine two_mk' (exp_big (l := l) (t := t) (w := 3) (win := 16777216) ?_ rfl ?_) <;> (try rfl) <;> (unfold expRaw candZ; (repeat' split) <;> omega))

set_option maxHeartbeats 2000000 in
theorem exp_g4 (l t : Int) (w : World) (h1 : -1 ≤ l) (h2 : l ≤ 281474976710655) (h3 : 0 ≤ t) (h4 : t < 4294967296) : Calls Try.prog 21 #[.int .i64 l, .int .i64 t, .int .i64 4] w (PTwo (expV l t 4) (expE l t 4) w) := by
  go_enter Try.func21, Try.ntmps21
  go_wp2_with (first | (go_at_call 36; first | ((with_reducible refine (window1 _).mono ?_); rintro e w' ⟨rfl, rfl⟩) | ((with_reducible refine (window2 _).mono ?_); rintro e w' ⟨rfl, rfl⟩) | ((with_reducible refine (window3 _).mono ?_); rintro e w' ⟨rfl, rfl⟩) | ((with_reducible refine (window4 _).mono ?_); rintro e w' ⟨rfl, rfl⟩)) | (go_at_call 35; go_in))
  all_goals go_ret2
  all_goals (try simp only [Bool.not_eq_true', Bool.not_eq_false', Bool.not_eq_eq_eq_not, Bool.not_true, Bool.not_false, decide_eq_true_eq, decide_eq_false_iff_not] at *)
  all_goals first
    | (exfalso; omega)
    | (refine two_mk' (exp_good (l := l) (t := t) (w := 4) (win := 4294967296) h1 h2 (by omega) (by omega) h3 rfl h4 ?_ ?_) <;> first | omega | (unfold expRaw candZ; (repeat' split) <;> omega))
    | (refine two_mk' (exp_big (l := l) (t := t) (w := 4) (win := 4294967296) ?_ rfl ?_) <;> (try rfl) <;> (unfold expRaw candZ; (repeat' split) <;> omega))

theorem exp_cases (l t wd : Int) (h : ExpOK l t wd) : (wd = 1 ∧ -1 ≤ l ∧ l ≤ 281474976710655 ∧ 0 ≤ t ∧ t < 256) ∨ (wd = 2 ∧ -1 ≤ l ∧ l ≤ 281474976710655 ∧ 0 ≤ t ∧ t < 65536) ∨ (wd = 3 ∧ -1 ≤ l ∧ l ≤ 281474976710655 ∧ 0 ≤ t ∧ t < 16777216) ∨ (wd = 4 ∧ -1 ≤ l ∧ l ≤ 281474976710655 ∧ 0 ≤ t ∧ t < 4294967296) := by
  obtain ⟨a, b, c, d, e, f⟩ := h
  obtain rfl | rfl | rfl | rfl : wd = 1 ∨ wd = 2 ∨ wd = 3 ∨ wd = 4 := by omega
  · exact .inl ⟨rfl, a, b, e, f⟩
  · exact .inr (.inl ⟨rfl, a, b, e, f⟩)
  · exact .inr (.inr (.inl ⟨rfl, a, b, e, f⟩))
  · exact .inr (.inr (.inr ⟨rfl, a, b, e, f⟩))
theorem exp_any (l t wd : Int) (w : World) : Calls Try.prog 21 #[.int .i64 l, .int .i64 t, .int .i64 wd] w (PTwo (expV l t wd) (expE l t wd) w) := by
  by_cases h : ExpOK l t wd
  · obtain ⟨rfl, a, b, c, d⟩ | ⟨rfl, a, b, c, d⟩ | ⟨rfl, a, b, c, d⟩ | ⟨rfl, a, b, c, d⟩ := exp_cases l t wd h
    · exact exp_g1 l t w a b c d
    · exact exp_g2 l t w a b c d
    · exact exp_g3 l t w a b c d
    · exact exp_g4 l t w a b c d
  · obtain ⟨e1, e2⟩ := exp_bad h
    rw [e1, e2]
    exact exp_badw l t wd w h
end Go.Proofs.Ythjlkiilkiggiaa
