/- The fixed calls of the pktnum laws, and the contracts in the form in which the laws' walks take them. -/
import Derived.Test.YtdjnjaflhoclmaaPnB
namespace Go.Proofs.Ytdjnjaflhoclmaa
open Go.RowKit
set_option linter.unusedVariables false
set_option linter.unusedSimpArgs false

theorem two_of {P : Nat} {args : Array Value} {w : World} {a b a' b' : Int} (h : Calls Try.prog P args w (Two a b w)) (e1 : a = a') (e2 : b = b') : Calls Try.prog P args w (Two a' b' w) := by
  subst e1 e2; exact h
theorem expG (l t w r win : Int) (h1 : -1 ≤ l) (h2 : l ≤ 281474976710655) (h3 : 1 ≤ w) (h4 : w ≤ 4) (h5 : 0 ≤ t) (hw : winZ w = win) (h6 : t < win) (hr : expRaw win (l + 1) t = r) (hm : r ≤ 281474976710655) (W : World) :
    Calls Try.prog 13 #[.int .i64 l, .int .i64 t, .int .i64 w] W (Two r 0 W) :=
  two_of (exp_any l t w W) (exp_good h1 h2 h3 h4 h5 hw h6 hr hm).1.symm (exp_good h1 h2 h3 h4 h5 hw h6 hr hm).2.symm

theorem s1 (x y : Int) (w : World) (hx : x = 300) (hy : y = 200) : Calls Try.prog 9 #[.int .i64 x, .int .i64 y] w (Two 1 0 w) := by
  subst hx hy; exact two_of (width_any 300 200 w (by decide)) (by decide) (by decide)
theorem s2 (x y : Int) (w : World) (hx : x = 300) (hy : y = (-1)) : Calls Try.prog 9 #[.int .i64 x, .int .i64 y] w (Two 2 0 w) := by
  subst hx hy; exact two_of (width_any 300 (-1) w (by decide)) (by decide) (by decide)
theorem s3 (x y z : Int) (w : World) (hx : x = 170) (hy : y = 171) (hz : z = 1) : Calls Try.prog 13 #[.int .i64 x, .int .i64 y, .int .i64 z] w (Two 171 0 w) := by
  subst hx hy hz; exact expG 170 171 1 171 256 (by decide) (by decide) (by decide) (by decide) (by decide) rfl (by decide) (by decide) (by decide) w
theorem s4 (x y z : Int) (w : World) (hx : x = 255) (hy : y = 0) (hz : z = 1) : Calls Try.prog 13 #[.int .i64 x, .int .i64 y, .int .i64 z] w (Two 256 0 w) := by
  subst hx hy hz; exact expG 255 0 1 256 256 (by decide) (by decide) (by decide) (by decide) (by decide) rfl (by decide) (by decide) (by decide) w
theorem s5 (x y : Int) (w : World) (hx : x = 257) (hy : y = 1) : Calls Try.prog 11 #[.int .i64 x, .int .i64 y] w (Two 1 0 w) := by
  subst hx hy; exact two_of (trunc_any 257 1 w) (by decide) (by decide)
theorem s6 (x y : Int) (w : World) (hx : x = 5) (hy : y = 5) : Calls Try.prog 9 #[.int .i64 x, .int .i64 y] w (Two 0 60 w) := by
  subst hx hy; exact two_of (width_any 5 5 w (by decide)) (by decide) (by decide)
theorem s7 (x y : Int) (w : World) (hx : x = 5) (hy : y = 5) : Calls Try.prog 11 #[.int .i64 x, .int .i64 y] w (Two 0 60 w) := by
  subst hx hy; exact two_of (trunc_any 5 5 w) (by decide) (by decide)
theorem s8 (x y z : Int) (w : World) (hx : x = 5) (hy : y = 256) (hz : z = 1) : Calls Try.prog 13 #[.int .i64 x, .int .i64 y, .int .i64 z] w (Two 0 60 w) := by
  subst hx hy hz; exact exp_badw 5 256 1 w (by unfold ExpOK; have e : winZ 1 = 256 := rfl; rw [e]; omega)

set_option maxHeartbeats 2000000 in
theorem sane_any (w : World) : Calls Try.prog 7 #[] w fun e w' => e = .returned (.bool true) ∧ w = w' := by
  go_enter Try.func7, Try.ntmps7
  go_wp2_with (first | (go_at_call 9; first | ((with_reducible refine (s1 _ _ _ (by decide) (by decide)).mono ?_); rintro e w' ⟨rfl, rfl⟩) | ((with_reducible refine (s2 _ _ _ (by decide) (by decide)).mono ?_); rintro e w' ⟨rfl, rfl⟩) | ((with_reducible refine (s6 _ _ _ (by decide) (by decide)).mono ?_); rintro e w' ⟨rfl, rfl⟩)) | (go_at_call 13; first | ((with_reducible refine (s3 _ _ _ _ (by decide) (by decide) (by decide)).mono ?_); rintro e w' ⟨rfl, rfl⟩) | ((with_reducible refine (s4 _ _ _ _ (by decide) (by decide) (by decide)).mono ?_); rintro e w' ⟨rfl, rfl⟩) | ((with_reducible refine (s8 _ _ _ _ (by decide) (by decide) (by decide)).mono ?_); rintro e w' ⟨rfl, rfl⟩)) | (go_at_call 11; first | ((with_reducible refine (s5 _ _ _ (by decide) (by decide)).mono ?_); rintro e w' ⟨rfl, rfl⟩) | ((with_reducible refine (s7 _ _ _ (by decide) (by decide)).mono ?_); rintro e w' ⟨rfl, rfl⟩)))
  go_ret
  exact ⟨rfl, rfl⟩

theorem pick_ex (c n : Int) (w : World) (h1 : -9223372036854775808 ≤ c) (h2 : c ≤ 9223372036854775807) (hn : 0 < n) :
    Calls Try.prog 8 #[.int .i64 c, .int .i64 n] w fun e w' => ∃ r, 0 ≤ r ∧ r < n ∧ e = .returned (.int .i64 r) ∧ w = w' :=
  (pick_any c n w h1 h2 hn).mono fun _ _ ⟨he, hw⟩ => ⟨pickZ c n, (pickZ_bd c n hn).1, (pickZ_bd c n hn).2, he, hw⟩

theorem pick4 (c : Int) (w : World) (h1 : -9223372036854775808 ≤ c) (h2 : c ≤ 9223372036854775807) :
    Calls Try.prog 8 #[.int .i64 c, .int .i64 4] w fun e w' => w = w' ∧ (e = .returned (.int .i64 0) ∨ e = .returned (.int .i64 1) ∨ e = .returned (.int .i64 2) ∨ e = .returned (.int .i64 3)) :=
  (pick_ex c 4 w h1 h2 (by omega)).mono fun _ _ ⟨r, hr0, hr1, he, hw⟩ => ⟨hw, by
    obtain rfl | rfl | rfl | rfl : r = 0 ∨ r = 1 ∨ r = 2 ∨ r = 3 := by omega
    · exact .inl he
    · exact .inr (.inl he)
    · exact .inr (.inr (.inl he))
    · exact .inr (.inr (.inr he))⟩
theorem ret_bool {b : Bool} (h : b = true) : Ending.returned (.bool b) = .returned (.bool true) := by rw [h]

def Wof (d : Int) (w : World) (e : Ending) (w' : World) : Prop :=
  w = w' ∧ ((e = .returned (.tuple #[.int .i64 1, .int .i64 0]) ∧ 2 * d < 256) ∨ (e = .returned (.tuple #[.int .i64 2, .int .i64 0]) ∧ 256 ≤ 2 * d ∧ 2 * d < 65536) ∨ (e = .returned (.tuple #[.int .i64 3, .int .i64 0]) ∧ 65536 ≤ 2 * d ∧ 2 * d < 16777216) ∨ (e = .returned (.tuple #[.int .i64 4, .int .i64 0]) ∧ 16777216 ≤ 2 * d))
theorem width_of (pn acked d : Int) (w : World) (h1 : 0 ≤ pn) (h2 : pn ≤ 281474976710655) (h3 : -1 ≤ acked) (h4 : acked < pn) (hd : pn - acked = d) (h5 : 2 * d < 4294967296) :
    Calls Try.prog 9 #[.int .i64 pn, .int .i64 acked] w (Wof d w) := by
  refine (width_any pn acked w (by omega)).mono ?_
  rintro e w' ⟨rfl, rfl⟩
  refine ⟨rfl, ?_⟩
  have hE : widthE pn acked = 0 := by unfold widthE; rw [if_pos (by omega)]
  have hW : widthW pn acked = if 2 * d < 256 then 1 else if 2 * d < 65536 then 2 else if 2 * d < 16777216 then 3 else if 2 * d < 4294967296 then 4 else 0 := by
    unfold widthW; rw [if_pos (by omega), hd]
  rw [hE, hW]
  by_cases a1 : 2 * d < 256
  · rw [if_pos a1]; exact .inl ⟨rfl, a1⟩
  rw [if_neg a1]
  by_cases a2 : 2 * d < 65536
  · rw [if_pos a2]; exact .inr (.inl ⟨rfl, by omega, a2⟩)
  rw [if_neg a2]
  by_cases a3 : 2 * d < 16777216
  · rw [if_pos a3]; exact .inr (.inr (.inl ⟨rfl, by omega, a3⟩))
  rw [if_neg a3, if_pos h5]; exact .inr (.inr (.inr ⟨rfl, by omega⟩))

theorem trunc1 (p : Int) (w : World) (h1 : 0 ≤ p) (h2 : p ≤ 281474976710655) : Calls Try.prog 11 #[.int .i64 p, .int .i64 1] w (Two (p % 256) 0 w) :=
  two_of (trunc_any p 1 w) (by unfold truncV; rw [if_pos (by omega)]; rfl) (by unfold truncE; rw [if_pos (by omega)])
theorem back1 (l p : Int) (w : World) (h0 : -1 ≤ l) (h1 : l ≤ 281474976710655) (h2 : 0 ≤ p) (h3 : p ≤ 281474976710655) (h4 : 2 * (p - l) < 256) (h5 : 2 * (l + 2 - p) < 256) :
    Calls Try.prog 13 #[.int .i64 l, .int .i64 (p % 256), .int .i64 1] w (Two p 0 w) :=
  expG l (p % 256) 1 p 256 h0 h1 (by omega) (by omega) (by omega) rfl (by omega) (by unfold expRaw candZ; (repeat' split) <;> omega) h3 w
def Near1 (l t : Int) (w : World) (e : Ending) (w' : World) : Prop :=
  w = w' ∧ ((e = .returned (.tuple #[.int .i64 0, .int .i64 60]) ∧ 281474976710655 - 256 < l) ∨ (∃ q : Int, e = .returned (.tuple #[.int .i64 q, .int .i64 0]) ∧ 0 ≤ q ∧ q ≤ 281474976710655 ∧ q % 256 = t ∧ (((q - (l + 1) ≤ 128 ∧ l + 1 - q ≤ 128) ∨ q < 256) ∨ 281474976710655 < q + 256)))
theorem near1 (l t : Int) (w : World) (h0 : -1 ≤ l) (h1 : l ≤ 281474976710655) (h2 : 0 ≤ t) (h3 : t < 256) :
    Calls Try.prog 13 #[.int .i64 l, .int .i64 t, .int .i64 1] w (Near1 l t w) := by
  refine (exp_any l t 1 w).mono ?_
  rintro e w' ⟨rfl, rfl⟩
  refine ⟨rfl, ?_⟩
  by_cases hb : expRaw 256 (l + 1) t ≤ 281474976710655
  · obtain ⟨e1, e2⟩ := exp_good (w := 1) (win := 256) h0 h1 (by omega) (by omega) h2 rfl h3 rfl hb
    rw [← e1, ← e2]
    refine .inr ⟨_, rfl, ?_, hb, ?_, ?_⟩
    · clear hb e1 e2; unfold expRaw candZ; (repeat' split) <;> omega
    · clear hb e1 e2; unfold expRaw candZ; (repeat' split) <;> omega
    · revert hb; clear e1 e2; unfold expRaw candZ; (repeat' split) <;> omega
  · obtain ⟨e1, e2⟩ := exp_big (l := l) (t := t) (w := 1) (win := 256) rfl rfl (by omega)
    rw [← e1, ← e2]
    refine .inl ⟨rfl, ?_⟩
    revert hb; clear e1 e2; unfold expRaw candZ; (repeat' split) <;> omega

theorem trunc2 (p : Int) (w : World) (h1 : 0 ≤ p) (h2 : p ≤ 281474976710655) : Calls Try.prog 11 #[.int .i64 p, .int .i64 2] w (Two (p % 65536) 0 w) :=
  two_of (trunc_any p 2 w) (by unfold truncV; rw [if_pos (by omega)]; rfl) (by unfold truncE; rw [if_pos (by omega)])
theorem back2 (l p : Int) (w : World) (h0 : -1 ≤ l) (h1 : l ≤ 281474976710655) (h2 : 0 ≤ p) (h3 : p ≤ 281474976710655) (h4 : 2 * (p - l) < 65536) (h5 : 2 * (l + 2 - p) < 65536) :
    Calls Try.prog 13 #[.int .i64 l, .int .i64 (p % 65536), .int .i64 2] w (Two p 0 w) :=
  expG l (p % 65536) 2 p 65536 h0 h1 (by omega) (by omega) (by omega) rfl (by omega) (by unfold expRaw candZ; (repeat' split) <;> omega) h3 w
def Near2 (l t : Int) (w : World) (e : Ending) (w' : World) : Prop :=
  w = w' ∧ ((e = .returned (.tuple #[.int .i64 0, .int .i64 60]) ∧ 281474976710655 - 65536 < l) ∨ (∃ q : Int, e = .returned (.tuple #[.int .i64 q, .int .i64 0]) ∧ 0 ≤ q ∧ q ≤ 281474976710655 ∧ q % 65536 = t ∧ (((q - (l + 1) ≤ 32768 ∧ l + 1 - q ≤ 32768) ∨ q < 65536) ∨ 281474976710655 < q + 65536)))
theorem near2 (l t : Int) (w : World) (h0 : -1 ≤ l) (h1 : l ≤ 281474976710655) (h2 : 0 ≤ t) (h3 : t < 65536) :
    Calls Try.prog 13 #[.int .i64 l, .int .i64 t, .int .i64 2] w (Near2 l t w) := by
  refine (exp_any l t 2 w).mono ?_
  rintro e w' ⟨rfl, rfl⟩
  refine ⟨rfl, ?_⟩
  by_cases hb : expRaw 65536 (l + 1) t ≤ 281474976710655
  · obtain ⟨e1, e2⟩ := exp_good (w := 2) (win := 65536) h0 h1 (by omega) (by omega) h2 rfl h3 rfl hb
    rw [← e1, ← e2]
    refine .inr ⟨_, rfl, ?_, hb, ?_, ?_⟩
    · clear hb e1 e2; unfold expRaw candZ; (repeat' split) <;> omega
    · clear hb e1 e2; unfold expRaw candZ; (repeat' split) <;> omega
    · revert hb; clear e1 e2; unfold expRaw candZ; (repeat' split) <;> omega
  · obtain ⟨e1, e2⟩ := exp_big (l := l) (t := t) (w := 2) (win := 65536) rfl rfl (by omega)
    rw [← e1, ← e2]
    refine .inl ⟨rfl, ?_⟩
    revert hb; clear e1 e2; unfold expRaw candZ; (repeat' split) <;> omega

theorem trunc3 (p : Int) (w : World) (h1 : 0 ≤ p) (h2 : p ≤ 281474976710655) : Calls Try.prog 11 #[.int .i64 p, .int .i64 3] w (Two (p % 16777216) 0 w) :=
  two_of (trunc_any p 3 w) (by unfold truncV; rw [if_pos (by omega)]; rfl) (by unfold truncE; rw [if_pos (by omega)])
theorem back3 (l p : Int) (w : World) (h0 : -1 ≤ l) (h1 : l ≤ 281474976710655) (h2 : 0 ≤ p) (h3 : p ≤ 281474976710655) (h4 : 2 * (p - l) < 16777216) (h5 : 2 * (l + 2 - p) < 16777216) :
    Calls Try.prog 13 #[.int .i64 l, .int .i64 (p % 16777216), .int .i64 3] w (Two p 0 w) :=
  expG l (p % 16777216) 3 p 16777216 h0 h1 (by omega) (by omega) (by omega) rfl (by omega) (by unfold expRaw candZ; (repeat' split) <;> omega) h3 w
def Near3 (l t : Int) (w : World) (e : Ending) (w' : World) : Prop :=
  w = w' ∧ ((e = .returned (.tuple #[.int .i64 0, .int .i64 60]) ∧ 281474976710655 - 16777216 < l) ∨ (∃ q : Int, e = .returned (.tuple #[.int .i64 q, .int .i64 0]) ∧ 0 ≤ q ∧ q ≤ 281474976710655 ∧ q % 16777216 = t ∧ (((q - (l + 1) ≤ 8388608 ∧ l + 1 - q ≤ 8388608) ∨ q < 16777216) ∨ 281474976710655 < q + 16777216)))
theorem near3 (l t : Int) (w : World) (h0 : -1 ≤ l) (h1 : l ≤ 281474976710655) (h2 : 0 ≤ t) (h3 : t < 16777216) :
    Calls Try.prog 13 #[.int .i64 l, .int .i64 t, .int .i64 3] w (Near3 l t w) := by
  refine (exp_any l t 3 w).mono ?_
  rintro e w' ⟨rfl, rfl⟩
  refine ⟨rfl, ?_⟩
  by_cases hb : expRaw 16777216 (l + 1) t ≤ 281474976710655
  · obtain ⟨e1, e2⟩ := exp_good (w := 3) (win := 16777216) h0 h1 (by omega) (by omega) h2 rfl h3 rfl hb
    rw [← e1, ← e2]
    refine .inr ⟨_, rfl, ?_, hb, ?_, ?_⟩
    · clear hb e1 e2; unfold expRaw candZ; (repeat' split) <;> omega
    · clear hb e1 e2; unfold expRaw candZ; (repeat' split) <;> omega
    · revert hb; clear e1 e2; unfold expRaw candZ; (repeat' split) <;> omega
  · obtain ⟨e1, e2⟩ := exp_big (l := l) (t := t) (w := 3) (win := 16777216) rfl rfl (by omega)
    rw [← e1, ← e2]
    refine .inl ⟨rfl, ?_⟩
    revert hb; clear e1 e2; unfold expRaw candZ; (repeat' split) <;> omega

theorem trunc4 (p : Int) (w : World) (h1 : 0 ≤ p) (h2 : p ≤ 281474976710655) : Calls Try.prog 11 #[.int .i64 p, .int .i64 4] w (Two (p % 4294967296) 0 w) :=
  two_of (trunc_any p 4 w) (by unfold truncV; rw [if_pos (by omega)]; rfl) (by unfold truncE; rw [if_pos (by omega)])
theorem back4 (l p : Int) (w : World) (h0 : -1 ≤ l) (h1 : l ≤ 281474976710655) (h2 : 0 ≤ p) (h3 : p ≤ 281474976710655) (h4 : 2 * (p - l) < 4294967296) (h5 : 2 * (l + 2 - p) < 4294967296) :
    Calls Try.prog 13 #[.int .i64 l, .int .i64 (p % 4294967296), .int .i64 4] w (Two p 0 w) :=
  expG l (p % 4294967296) 4 p 4294967296 h0 h1 (by omega) (by omega) (by omega) rfl (by omega) (by unfold expRaw candZ; (repeat' split) <;> omega) h3 w
def Near4 (l t : Int) (w : World) (e : Ending) (w' : World) : Prop :=
  w = w' ∧ ((e = .returned (.tuple #[.int .i64 0, .int .i64 60]) ∧ 281474976710655 - 4294967296 < l) ∨ (∃ q : Int, e = .returned (.tuple #[.int .i64 q, .int .i64 0]) ∧ 0 ≤ q ∧ q ≤ 281474976710655 ∧ q % 4294967296 = t ∧ (((q - (l + 1) ≤ 2147483648 ∧ l + 1 - q ≤ 2147483648) ∨ q < 4294967296) ∨ 281474976710655 < q + 4294967296)))
theorem near4 (l t : Int) (w : World) (h0 : -1 ≤ l) (h1 : l ≤ 281474976710655) (h2 : 0 ≤ t) (h3 : t < 4294967296) :
    Calls Try.prog 13 #[.int .i64 l, .int .i64 t, .int .i64 4] w (Near4 l t w) := by
  refine (exp_any l t 4 w).mono ?_
  rintro e w' ⟨rfl, rfl⟩
  refine ⟨rfl, ?_⟩
  by_cases hb : expRaw 4294967296 (l + 1) t ≤ 281474976710655
  · obtain ⟨e1, e2⟩ := exp_good (w := 4) (win := 4294967296) h0 h1 (by omega) (by omega) h2 rfl h3 rfl hb
    rw [← e1, ← e2]
    refine .inr ⟨_, rfl, ?_, hb, ?_, ?_⟩
    · clear hb e1 e2; unfold expRaw candZ; (repeat' split) <;> omega
    · clear hb e1 e2; unfold expRaw candZ; (repeat' split) <;> omega
    · revert hb; clear e1 e2; unfold expRaw candZ; (repeat' split) <;> omega
  · obtain ⟨e1, e2⟩ := exp_big (l := l) (t := t) (w := 4) (win := 4294967296) rfl rfl (by omega)
    rw [← e1, ← e2]
    refine .inl ⟨rfl, ?_⟩
    revert hb; clear e1 e2; unfold expRaw candZ; (repeat' split) <;> omega
end Go.Proofs.Ytdjnjaflhoclmaa
