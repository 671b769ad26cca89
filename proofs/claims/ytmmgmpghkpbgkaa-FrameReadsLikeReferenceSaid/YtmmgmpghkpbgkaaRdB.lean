/- Contracts of the reference's variable-length integers: Class, Decode. -/
import Derived.Test.YtmmgmpghkpbgkaaVrA
import Derived.Test.YtmmgmpghkpbgkaaRdA
import Derived.Test.YtmmgmpghkpbgkaaFrC
import Derived.Deep.RegionHeld3
import Derived.WalkSmall
import Derived.Test.YtmmgmpghkpbgkaaFrF
import Derived.Laws.Bits64b
import Derived.Test.YtmmgmpghkpbgkaaFrZc
import Derived.Test.YtmmgmpghkpbgkaaFrD
namespace Go.Proofs.Ytmmgmpghkpbgkaa
open Go Go.RowKit
set_option linter.unusedVariables false
set_option linter.unusedSimpArgs false

set_option maxRecDepth 100000 in
set_option maxHeartbeats 1000000 in
theorem rclass_c (n : Int) (w : World) : Calls Try.prog 128 #[.int .i64 n] w fun e w' => e = .returned (.int .i64 (vCls n)) ∧ w = w' := by
  by_cases h0 : n < 0
  · skip
    have hv : (-1 : Int) = vCls n := by unfold vCls; rw [if_pos h0]
    have HV := Lib.hid hv
    clear hv
    go_enter Try.func128, Try.ntmps128
    go_wp2_with fail
    go_ret
    exact ⟨ret_int HV.out, rfl⟩
  by_cases h4 : 4611686018427387903 < n
  · skip
    have hv : (-1 : Int) = vCls n := by unfold vCls; rw [if_neg (by omega), if_neg (by omega), if_neg (by omega), if_neg (by omega), if_neg (by omega)]
    have HV := Lib.hid hv
    clear hv
    go_enter Try.func128, Try.ntmps128
    go_wp2_with fail
    go_ret
    exact ⟨ret_int HV.out, rfl⟩
  by_cases h3 : 1073741823 < n
  · skip
    have hv : (3 : Int) = vCls n := by unfold vCls; rw [if_neg (by omega), if_neg (by omega), if_neg (by omega), if_neg (by omega), if_pos (by omega)]
    have HV := Lib.hid hv
    clear hv
    go_enter Try.func128, Try.ntmps128
    go_wp2_with fail
    go_ret
    exact ⟨ret_int HV.out, rfl⟩
  by_cases h2 : 16383 < n
  · skip
    have hv : (2 : Int) = vCls n := by unfold vCls; rw [if_neg (by omega), if_neg (by omega), if_neg (by omega), if_pos (by omega)]
    have HV := Lib.hid hv
    clear hv
    go_enter Try.func128, Try.ntmps128
    go_wp2_with fail
    go_ret
    exact ⟨ret_int HV.out, rfl⟩
  by_cases h1 : 63 < n
  · skip
    have hv : (1 : Int) = vCls n := by unfold vCls; rw [if_neg (by omega), if_neg (by omega), if_pos (by omega)]
    have HV := Lib.hid hv
    clear hv
    go_enter Try.func128, Try.ntmps128
    go_wp2_with fail
    go_ret
    exact ⟨ret_int HV.out, rfl⟩
  have hv : (0 : Int) = vCls n := by unfold vCls; rw [if_neg (by omega), if_pos (by omega)]
  have HV := Lib.hid hv
  clear hv
  go_enter Try.func128, Try.ntmps128
  go_wp2_with fail
  go_ret
  exact ⟨ret_int HV.out, rfl⟩

/-- The number in the first k bytes, without the mark. -/
def rdM (s : ByteArray) (a k : Nat) : Nat := rdK s a k % (64 * 256 ^ (k - 1))
theorem rdM_one (s : ByteArray) (a : Nat) (h : a < s.size) : rdM s a 1 = (s[a]).toNat % 64 := by
  unfold rdM
  rw [rdK_succ s a 0 (by omega)]
  have : rdK s a 0 = 0 := by unfold rdK; rfl
  rw [this]; simp
theorem rdM_succ (s : ByteArray) (a k : Nat) (h : a + k < s.size) (hk : 1 ≤ k) : rdM s a (k + 1) = rdM s a k * 256 + (s[a + k]).toNat := by
  unfold rdM
  rw [rdK_succ s a k h]
  obtain ⟨j, rfl⟩ : ∃ j, k = j + 1 := ⟨k - 1, by omega⟩
  have hx := (s[a + (j + 1)]).toNat_lt
  generalize (s[a + (j + 1)]).toNat = x at hx
  generalize rdK s a (j + 1) = m
  simp only [Nat.add_sub_cancel]
  rw [show 64 * 256 ^ (j + 1) = (64 * 256 ^ j) * 256 from by rw [Nat.pow_succ, Nat.mul_assoc]]
  generalize 64 * 256 ^ j = T
  rw [Nat.mul_comm m 256, Nat.mul_comm T 256, Nat.mod_mul, Nat.mul_add_mod, Nat.mul_add_div (by omega), Nat.mod_eq_of_lt (by omega : x < 256), Nat.div_eq_of_lt (by omega : x < 256), Nat.add_zero]
  omega
theorem rdM_lt (s : ByteArray) (a k : Nat) (h1 : 1 ≤ k) (h8 : k ≤ 8) : rdM s a k < 4611686018427387904 := by
  unfold rdM
  have hp : 64 * 256 ^ (k - 1) ≤ 64 * 256 ^ 7 := Nat.mul_le_mul_left _ (Nat.pow_le_pow_right (by omega) (by omega))
  have h7 : (64 : Nat) * 256 ^ 7 = 4611686018427387904 := by decide
  have h0 : 0 < 64 * 256 ^ (k - 1) := Nat.mul_pos (by omega) (Nat.pow_pos (by omega))
  have := Nat.mod_lt (rdK s a k) h0
  omega
set_option maxRecDepth 100000 in
set_option maxHeartbeats 4000000 in
theorem rdecode_c (s : ByteArray) (a : Nat) (ha : a ≤ s.size) (hs : s.size ≤ 4611686018427387903) (w : World) : Calls Try.prog 125 #[.string s, .int .i64 a] w fun e w' => DecPost s a e ∧ w = w' := by
  by_cases h0 : a = s.size
  · have hD : DecPost s a (.returned (.tuple #[.int .i64 0, .int .i64 0, .int .i64 11])) := by
      unfold DecPost
      rw [List.drop_eq_nil_of_le (by rw [size_list]; omega)]
      exact ⟨11, by decide, rfl⟩
    have h0' : (a : Int) = s.size := by omega
    have HD := Lib.hid hD
    clear hD
    go_enter Try.func125, Try.ntmps125
    go_wp2_with fail
    go_ret3
    exact ⟨HD.out, rfl⟩
  · have h1 : a < s.size := by omega
    have hm1 := rdM_one s a h1
    obtain ⟨x, hx⟩ : ∃ x : UInt8, s[a] = x := ⟨_, rfl⟩
    have hx4 := x.toNat_lt
    obtain ⟨c, hc⟩ : ∃ c, x.toNat / 64 = c := ⟨_, rfl⟩
    have hd := vDec_at s a h1 c (by rw [hx, hc])
    have hc3 : c = 0 ∨ c = 1 ∨ c = 2 ∨ c = 3 := by omega
    have h0' : ¬ (a : Int) = s.size := by omega
    have h1' : (a : Int) < s.size := by omega
    have hb : ((a : Int) == s.size) = false := beq_eq_false_iff_ne.2 h0'
    have f1 : IntKind.i64.wrap ((s.size : Int) - a) = (s.size : Int) - a := IntWalk.i64_in _ (by omega)
    have x1 : IntKind.i64.wrap ((x.toNat : Nat) : Int) = x.toNat := IntWalk.i64_in _ (by omega)
    have x2 : ((x.toNat : Nat) : Int).tdiv 64 = ((c : Nat) : Int) := by rw [Int.tdiv_eq_ediv_of_nonneg (by omega)]; omega
    have x3 : ((x.toNat : Nat) : Int).tmod 64 = ((x.toNat % 64 : Nat) : Int) := by rw [Int.tmod_eq_emod_of_nonneg (by omega)]; omega
    rw [hx] at hm1
    rw [← hm1] at x3
    have x4 : IntKind.i64.wrap ((rdM s a 1 : Nat) : Int) = (rdM s a 1 : Nat) := IntWalk.i64_in _ (by have := rdM_lt s a 1 (by omega) (by omega); omega)
    clear hm1
    rcases hc3 with rfl | rfl | rfl | rfl
    · have hd : vDec (s.data.toList.drop a) = if s.size - a < 1 then none else if vCls ((rdM s a 1 : Nat) : Int) = (0 : Nat) then some (((rdM s a 1 : Nat) : Int), 1) else none := hd
      have x5 : IntKind.i64.wrap ((0 : Nat) : Int) = 0 := by kernel_rfl
      have x2' : ((x.toNat : Nat) : Int).tdiv 64 = 0 := x2
      have hp2 : wrap64 (1) = 1 := by kernel_rfl
      clear x2
      by_cases hw : s.size - a < 1
      · exfalso; omega
      · have hw' : ¬ (s.size : Int) - a < 1 := by omega
        have hD : ∀ e, e = (if vCls ((rdM s a 1 : Nat) : Int) = 0 then Ending.returned (.tuple #[.int .i64 (rdM s a 1 : Nat), .int .i64 ((a : Int) + 1), .int .i64 0]) else .returned (.tuple #[.int .i64 0, .int .i64 0, .int .i64 10])) → DecPost s a e := by
          intro e he
          subst he
          unfold DecPost
          rw [hd, if_neg hw]
          by_cases hk : vCls ((rdM s a 1 : Nat) : Int) = 0
          · rw [if_pos hk, if_pos (by rw [hk]; rfl)]; simp
          · rw [if_neg hk, if_neg (fun e => hk (by rw [e]; rfl))]; exact ⟨10, by decide, rfl⟩
        have HD := Lib.hid hD
        have f2 : IntKind.i64.wrap ((a : Int) + 1) = (a : Int) + 1 := IntWalk.i64_in _ (by omega)
        clear hD hd hc
        go_enter Try.func125, Try.ntmps125
        go_wp2_with fail
        go_loopw [9, 10] (fun n i wr => wr = w ∧ ∃ k : Nat, 1 ≤ k ∧ k ≤ 1 ∧ i = .int .i64 k ∧ n = .int .i64 (rdM s a k : Nat)) (fun _ i _ => 1 - (intOf i).toNat)
        case atStart => exact ⟨rfl, 1, by omega, by omega, rfl, rfl⟩
        case round =>
          obtain ⟨rfl, k, hk1, hk, rfl, rfl⟩ := hrel
          by_cases hl : k < 1
          · exfalso; omega
          · have hl' : ¬ (k : Int) < 1 := by omega
            obtain rfl : k = 1 := by omega
            generalize rdM s a 1 = v at HD
            by_cases hv : vCls (v : Int) = 0
            · have hv2 : (vCls (v : Int) != 0) = false := by simp [hv]
              have HD2 := Lib.hid (HD.out _ (if_pos hv).symm)
              go_wp2_with fail
              refine (rclass_c _ _).mono ?_
              rintro e wk ⟨rfl, rfl⟩
              go_wp2_with fail
              go_ret3
              exact ⟨HD2.out, rfl⟩
            · have hv2 : (vCls (v : Int) != 0) = true := by simp [hv]
              have HD2 := Lib.hid (HD.out _ (if_neg hv).symm)
              go_wp2_with fail
              refine (rclass_c _ _).mono ?_
              rintro e wk ⟨rfl, rfl⟩
              go_wp2_with fail
              go_ret3
              exact ⟨HD2.out, rfl⟩
    · have hd : vDec (s.data.toList.drop a) = if s.size - a < 2 then none else if vCls ((rdM s a 2 : Nat) : Int) = (1 : Nat) then some (((rdM s a 2 : Nat) : Int), 2) else none := hd
      have x5 : IntKind.i64.wrap ((1 : Nat) : Int) = 1 := by kernel_rfl
      have x2' : ((x.toNat : Nat) : Int).tdiv 64 = 1 := x2
      have hp2 : wrap64 (2) = 2 := by kernel_rfl
      clear x2
      by_cases hw : s.size - a < 2
      · have hD : DecPost s a (.returned (.tuple #[.int .i64 0, .int .i64 0, .int .i64 11])) := by
          unfold DecPost
          rw [hd, if_pos hw]
          exact ⟨11, by decide, rfl⟩
        have HD := Lib.hid hD
        have hw' : (s.size : Int) - a < 2 := by omega
        clear hD hd
        go_enter Try.func125, Try.ntmps125
        go_wp2_with fail
        go_ret3
        exact ⟨HD.out, rfl⟩
      · have hw' : ¬ (s.size : Int) - a < 2 := by omega
        have hD : ∀ e, e = (if vCls ((rdM s a 2 : Nat) : Int) = 1 then Ending.returned (.tuple #[.int .i64 (rdM s a 2 : Nat), .int .i64 ((a : Int) + 2), .int .i64 0]) else .returned (.tuple #[.int .i64 0, .int .i64 0, .int .i64 10])) → DecPost s a e := by
          intro e he
          subst he
          unfold DecPost
          rw [hd, if_neg hw]
          by_cases hk : vCls ((rdM s a 2 : Nat) : Int) = 1
          · rw [if_pos hk, if_pos (by rw [hk]; rfl)]; simp
          · rw [if_neg hk, if_neg (fun e => hk (by rw [e]; rfl))]; exact ⟨10, by decide, rfl⟩
        have HD := Lib.hid hD
        have f2 : IntKind.i64.wrap ((a : Int) + 2) = (a : Int) + 2 := IntWalk.i64_in _ (by omega)
        clear hD hd hc
        go_enter Try.func125, Try.ntmps125
        go_wp2_with fail
        go_loopw [9, 10] (fun n i wr => wr = w ∧ ∃ k : Nat, 1 ≤ k ∧ k ≤ 2 ∧ i = .int .i64 k ∧ n = .int .i64 (rdM s a k : Nat)) (fun _ i _ => 2 - (intOf i).toNat)
        case atStart => exact ⟨rfl, 1, by omega, by omega, rfl, rfl⟩
        case round =>
          obtain ⟨rfl, k, hk1, hk, rfl, rfl⟩ := hrel
          by_cases hl : k < 2
          · have hl' : (k : Int) < 2 := by omega
            have g1 : IntKind.i64.wrap ((k : Int) + 1) = k + 1 := IntWalk.i64_in _ (by omega)
            have g2 : IntKind.i64.wrap ((a : Int) + k) = a + k := IntWalk.i64_in _ (by omega)
            have g3 : (a : Int) + k < s.size := by omega
            have hsc := rdM_succ s a k (by omega) hk1
            have hlt := rdM_lt s a k hk1 (by omega)
            have hlt2 := rdM_lt s a (k + 1) (by omega) (by omega)
            have hb4 := (s[a + k]'(by omega)).toNat_lt
            have g4 : IntKind.i64.wrap (256 * ((rdM s a k : Nat) : Int)) = 256 * ((rdM s a k : Nat) : Int) := IntWalk.i64_in _ (by omega)
            have g5 : IntKind.i64.wrap (((s[a + k]'(by omega)).toNat : Nat) : Int) = ((s[a + k]'(by omega)).toNat : Nat) := IntWalk.i64_in _ (by omega)
            have g6 : IntKind.i64.wrap (256 * ((rdM s a k : Nat) : Int) + (((s[a + k]'(by omega)).toNat : Nat) : Int)) = ((rdM s a (k + 1) : Nat) : Int) := by rw [IntWalk.i64_in _ (by omega)]; omega
            have g7 : wrap64 (256 * ((rdM s a k : Nat) : Int)) = 256 * ((rdM s a k : Nat) : Int) := IntWalk.wrap64_in _ (by omega)
            clear hsc hlt hlt2 hb4
            go_wp2_with fail
            exact ⟨⟨trivial, k + 1, by omega, by omega, by simp, rfl⟩, by simp [intOf]; omega⟩
          · have hl' : ¬ (k : Int) < 2 := by omega
            obtain rfl : k = 2 := by omega
            generalize rdM s a 2 = v at HD
            by_cases hv : vCls (v : Int) = 1
            · have hv2 : (vCls (v : Int) != 1) = false := by simp [hv]
              have HD2 := Lib.hid (HD.out _ (if_pos hv).symm)
              go_wp2_with fail
              refine (rclass_c _ _).mono ?_
              rintro e wk ⟨rfl, rfl⟩
              go_wp2_with fail
              go_ret3
              exact ⟨HD2.out, rfl⟩
            · have hv2 : (vCls (v : Int) != 1) = true := by simp [hv]
              have HD2 := Lib.hid (HD.out _ (if_neg hv).symm)
              go_wp2_with fail
              refine (rclass_c _ _).mono ?_
              rintro e wk ⟨rfl, rfl⟩
              go_wp2_with fail
              go_ret3
              exact ⟨HD2.out, rfl⟩
    · have hd : vDec (s.data.toList.drop a) = if s.size - a < 4 then none else if vCls ((rdM s a 4 : Nat) : Int) = (2 : Nat) then some (((rdM s a 4 : Nat) : Int), 4) else none := hd
      have x5 : IntKind.i64.wrap ((2 : Nat) : Int) = 2 := by kernel_rfl
      have x2' : ((x.toNat : Nat) : Int).tdiv 64 = 2 := x2
      have hp2 : wrap64 (4) = 4 := by kernel_rfl
      clear x2
      by_cases hw : s.size - a < 4
      · have hD : DecPost s a (.returned (.tuple #[.int .i64 0, .int .i64 0, .int .i64 11])) := by
          unfold DecPost
          rw [hd, if_pos hw]
          exact ⟨11, by decide, rfl⟩
        have HD := Lib.hid hD
        have hw' : (s.size : Int) - a < 4 := by omega
        clear hD hd
        go_enter Try.func125, Try.ntmps125
        go_wp2_with fail
        go_ret3
        exact ⟨HD.out, rfl⟩
      · have hw' : ¬ (s.size : Int) - a < 4 := by omega
        have hD : ∀ e, e = (if vCls ((rdM s a 4 : Nat) : Int) = 2 then Ending.returned (.tuple #[.int .i64 (rdM s a 4 : Nat), .int .i64 ((a : Int) + 4), .int .i64 0]) else .returned (.tuple #[.int .i64 0, .int .i64 0, .int .i64 10])) → DecPost s a e := by
          intro e he
          subst he
          unfold DecPost
          rw [hd, if_neg hw]
          by_cases hk : vCls ((rdM s a 4 : Nat) : Int) = 2
          · rw [if_pos hk, if_pos (by rw [hk]; rfl)]; simp
          · rw [if_neg hk, if_neg (fun e => hk (by rw [e]; rfl))]; exact ⟨10, by decide, rfl⟩
        have HD := Lib.hid hD
        have f2 : IntKind.i64.wrap ((a : Int) + 4) = (a : Int) + 4 := IntWalk.i64_in _ (by omega)
        clear hD hd hc
        go_enter Try.func125, Try.ntmps125
        go_wp2_with fail
        go_loopw [9, 10] (fun n i wr => wr = w ∧ ∃ k : Nat, 1 ≤ k ∧ k ≤ 4 ∧ i = .int .i64 k ∧ n = .int .i64 (rdM s a k : Nat)) (fun _ i _ => 4 - (intOf i).toNat)
        case atStart => exact ⟨rfl, 1, by omega, by omega, rfl, rfl⟩
        case round =>
          obtain ⟨rfl, k, hk1, hk, rfl, rfl⟩ := hrel
          by_cases hl : k < 4
          · have hl' : (k : Int) < 4 := by omega
            have g1 : IntKind.i64.wrap ((k : Int) + 1) = k + 1 := IntWalk.i64_in _ (by omega)
            have g2 : IntKind.i64.wrap ((a : Int) + k) = a + k := IntWalk.i64_in _ (by omega)
            have g3 : (a : Int) + k < s.size := by omega
            have hsc := rdM_succ s a k (by omega) hk1
            have hlt := rdM_lt s a k hk1 (by omega)
            have hlt2 := rdM_lt s a (k + 1) (by omega) (by omega)
            have hb4 := (s[a + k]'(by omega)).toNat_lt
            have g4 : IntKind.i64.wrap (256 * ((rdM s a k : Nat) : Int)) = 256 * ((rdM s a k : Nat) : Int) := IntWalk.i64_in _ (by omega)
            have g5 : IntKind.i64.wrap (((s[a + k]'(by omega)).toNat : Nat) : Int) = ((s[a + k]'(by omega)).toNat : Nat) := IntWalk.i64_in _ (by omega)
            have g6 : IntKind.i64.wrap (256 * ((rdM s a k : Nat) : Int) + (((s[a + k]'(by omega)).toNat : Nat) : Int)) = ((rdM s a (k + 1) : Nat) : Int) := by rw [IntWalk.i64_in _ (by omega)]; omega
            have g7 : wrap64 (256 * ((rdM s a k : Nat) : Int)) = 256 * ((rdM s a k : Nat) : Int) := IntWalk.wrap64_in _ (by omega)
            clear hsc hlt hlt2 hb4
            go_wp2_with fail
            exact ⟨⟨trivial, k + 1, by omega, by omega, by simp, rfl⟩, by simp [intOf]; omega⟩
          · have hl' : ¬ (k : Int) < 4 := by omega
            obtain rfl : k = 4 := by omega
            generalize rdM s a 4 = v at HD
            by_cases hv : vCls (v : Int) = 2
            · have hv2 : (vCls (v : Int) != 2) = false := by simp [hv]
              have HD2 := Lib.hid (HD.out _ (if_pos hv).symm)
              go_wp2_with fail
              refine (rclass_c _ _).mono ?_
              rintro e wk ⟨rfl, rfl⟩
              go_wp2_with fail
              go_ret3
              exact ⟨HD2.out, rfl⟩
            · have hv2 : (vCls (v : Int) != 2) = true := by simp [hv]
              have HD2 := Lib.hid (HD.out _ (if_neg hv).symm)
              go_wp2_with fail
              refine (rclass_c _ _).mono ?_
              rintro e wk ⟨rfl, rfl⟩
              go_wp2_with fail
              go_ret3
              exact ⟨HD2.out, rfl⟩
    · have hd : vDec (s.data.toList.drop a) = if s.size - a < 8 then none else if vCls ((rdM s a 8 : Nat) : Int) = (3 : Nat) then some (((rdM s a 8 : Nat) : Int), 8) else none := hd
      have x5 : IntKind.i64.wrap ((3 : Nat) : Int) = 3 := by kernel_rfl
      have x2' : ((x.toNat : Nat) : Int).tdiv 64 = 3 := x2
      have hp2 : wrap64 (8) = 8 := by kernel_rfl
      clear x2
      by_cases hw : s.size - a < 8
      · have hD : DecPost s a (.returned (.tuple #[.int .i64 0, .int .i64 0, .int .i64 11])) := by
          unfold DecPost
          rw [hd, if_pos hw]
          exact ⟨11, by decide, rfl⟩
        have HD := Lib.hid hD
        have hw' : (s.size : Int) - a < 8 := by omega
        clear hD hd
        go_enter Try.func125, Try.ntmps125
        go_wp2_with fail
        go_ret3
        exact ⟨HD.out, rfl⟩
      · have hw' : ¬ (s.size : Int) - a < 8 := by omega
        have hD : ∀ e, e = (if vCls ((rdM s a 8 : Nat) : Int) = 3 then Ending.returned (.tuple #[.int .i64 (rdM s a 8 : Nat), .int .i64 ((a : Int) + 8), .int .i64 0]) else .returned (.tuple #[.int .i64 0, .int .i64 0, .int .i64 10])) → DecPost s a e := by
          intro e he
          subst he
          unfold DecPost
          rw [hd, if_neg hw]
          by_cases hk : vCls ((rdM s a 8 : Nat) : Int) = 3
          · rw [if_pos hk, if_pos (by rw [hk]; rfl)]; simp
          · rw [if_neg hk, if_neg (fun e => hk (by rw [e]; rfl))]; exact ⟨10, by decide, rfl⟩
        have HD := Lib.hid hD
        have f2 : IntKind.i64.wrap ((a : Int) + 8) = (a : Int) + 8 := IntWalk.i64_in _ (by omega)
        clear hD hd hc
        go_enter Try.func125, Try.ntmps125
        go_wp2_with fail
        go_loopw [9, 10] (fun n i wr => wr = w ∧ ∃ k : Nat, 1 ≤ k ∧ k ≤ 8 ∧ i = .int .i64 k ∧ n = .int .i64 (rdM s a k : Nat)) (fun _ i _ => 8 - (intOf i).toNat)
        case atStart => exact ⟨rfl, 1, by omega, by omega, rfl, rfl⟩
        case round =>
          obtain ⟨rfl, k, hk1, hk, rfl, rfl⟩ := hrel
          by_cases hl : k < 8
          · have hl' : (k : Int) < 8 := by omega
            have g1 : IntKind.i64.wrap ((k : Int) + 1) = k + 1 := IntWalk.i64_in _ (by omega)
            have g2 : IntKind.i64.wrap ((a : Int) + k) = a + k := IntWalk.i64_in _ (by omega)
            have g3 : (a : Int) + k < s.size := by omega
            have hsc := rdM_succ s a k (by omega) hk1
            have hlt := rdM_lt s a k hk1 (by omega)
            have hlt2 := rdM_lt s a (k + 1) (by omega) (by omega)
            have hb4 := (s[a + k]'(by omega)).toNat_lt
            have g4 : IntKind.i64.wrap (256 * ((rdM s a k : Nat) : Int)) = 256 * ((rdM s a k : Nat) : Int) := IntWalk.i64_in _ (by omega)
            have g5 : IntKind.i64.wrap (((s[a + k]'(by omega)).toNat : Nat) : Int) = ((s[a + k]'(by omega)).toNat : Nat) := IntWalk.i64_in _ (by omega)
            have g6 : IntKind.i64.wrap (256 * ((rdM s a k : Nat) : Int) + (((s[a + k]'(by omega)).toNat : Nat) : Int)) = ((rdM s a (k + 1) : Nat) : Int) := by rw [IntWalk.i64_in _ (by omega)]; omega
            have g7 : wrap64 (256 * ((rdM s a k : Nat) : Int)) = 256 * ((rdM s a k : Nat) : Int) := IntWalk.wrap64_in _ (by omega)
            clear hsc hlt hlt2 hb4
            go_wp2_with fail
            exact ⟨⟨trivial, k + 1, by omega, by omega, by simp, rfl⟩, by simp [intOf]; omega⟩
          · have hl' : ¬ (k : Int) < 8 := by omega
            obtain rfl : k = 8 := by omega
            generalize rdM s a 8 = v at HD
            by_cases hv : vCls (v : Int) = 3
            · have hv2 : (vCls (v : Int) != 3) = false := by simp [hv]
              have HD2 := Lib.hid (HD.out _ (if_pos hv).symm)
              go_wp2_with fail
              refine (rclass_c _ _).mono ?_
              rintro e wk ⟨rfl, rfl⟩
              go_wp2_with fail
              go_ret3
              exact ⟨HD2.out, rfl⟩
            · have hv2 : (vCls (v : Int) != 3) = true := by simp [hv]
              have HD2 := Lib.hid (HD.out _ (if_neg hv).symm)
              go_wp2_with fail
              refine (rclass_c _ _).mono ?_
              rintro e wk ⟨rfl, rfl⟩
              go_wp2_with fail
              go_ret3
              exact ⟨HD2.out, rfl⟩
end Go.Proofs.Ytmmgmpghkpbgkaa
/- Contracts of the reference's reader: v, take. -/
namespace Go.Proofs.Ytmmgmpghkpbgkaa
open Go Go.RowKit
set_option linter.unusedVariables false
set_option linter.unusedSimpArgs false

attribute [local irreducible] wpStill
/-- The reference's reader of s: where it stands, or that something was missing. -/
def RdX (w : World) (b : Nat) (s : ByteArray) (st : Option Nat) : Prop := ∃ a : Nat, a ≤ s.size ∧ At w b 110 #[.string s, .int .i64 a, .bool st.isNone] ∧ ∀ c, st = some c → c = a
theorem RdX.keep {w w' : World} {b : Nat} {s : ByteArray} {st : Option Nat} {S : List Nat} (h : RdX w b s st) (ho : Only S w w') (hb : b ∉ S) : RdX w' b s st := by
  obtain ⟨a, h1, h2, h3⟩ := h; exact ⟨a, h1, h2.keep ho hb, h3⟩
theorem RdX.alloc {w : World} {b : Nat} {s : ByteArray} {st : Option Nat} (h : RdX w b s st) (o : Obj) : RdX (w.alloc o) b s st := by
  obtain ⟨a, h1, h2, h3⟩ := h; exact ⟨a, h1, h2.alloc o, h3⟩
theorem RdX.far {w : World} {b : Nat} {s : ByteArray} {st : Option Nat} (h : RdX w b s st) {p : Addr} (hp : b ≠ p.block) (u : Value) : RdX (w.setCell p u) b s st := by
  obtain ⟨a, h1, h2, h3⟩ := h; exact ⟨a, h1, h2.far hp u, h3⟩
theorem RdX.drew {w : World} {b : Nat} {s : ByteArray} {st : Option Nat} (h : RdX w b s st) : RdX w.drew b s st := h
theorem RdX.lt {w : World} {b : Nat} {s : ByteArray} {st : Option Nat} (h : RdX w b s st) : b < w.heap.size := by
  obtain ⟨a, h1, h2, h3⟩ := h; exact h2.lt
theorem RdX.same {w : World} {b : Nat} {s : ByteArray} {st st' : Option Nat} (h : RdX w b s st) (e : st = st') : RdX w b s st' := e ▸ h
set_option maxRecDepth 100000 in
set_option maxHeartbeats 2000000 in
theorem xv_good (b : Nat) (s : ByteArray) (a : Nat) (n : Int) (k : Nat) (hd : vDec (s.data.toList.drop a) = some (n, k)) (ha : a ≤ s.size) (hs : s.size ≤ 4611686018427387903) (w : World) (hA : At w b 110 #[.string s, .int .i64 a, .bool false]) :
    Calls Try.prog 99 #[.pointer (some ⟨b, 0, none⟩)] w fun e w' => e = .returned (.int .i64 n) ∧ At w' b 110 #[.string s, .int .i64 ((a + k : Nat) : Int), .bool false] ∧ Only [b] w w' := by
  have c0 : w.drew.cell? ⟨b, 0, none⟩ = some (.string s) := At.cell hA 0 rfl
  have c1 : w.drew.cell? ⟨b, 1, none⟩ = some (.int .i64 a) := At.cell hA 1 rfl
  have c0' : w.cell? ⟨b, 0, none⟩ = some (.string s) := At.cell hA 0 rfl
  have c1' : w.cell? ⟨b, 1, none⟩ = some (.int .i64 a) := At.cell hA 1 rfl
  have HA : Hid (At w.drew b 110 #[.string s, .int .i64 a, .bool false]) := Lib.hid hA
  clear hA
  go_enter Try.func99, Try.ntmps99
  go_wp2_with fail
  go_region_held3 (fun w' => w'.cell? ⟨b, 0, none⟩ = some (.string s) ∧ w'.cell? ⟨b, 1, none⟩ = some (.int .i64 a)) (first | exact ⟨d0, d1⟩ | exact ⟨c0, c1⟩) ((go_at_call 125; refine (rdecode_c s a ha hs _).mono ?_; rintro e w2 ⟨hp, hw⟩; have hq := hp.some hd; subst hq; have HA2 : Hid (At w2 b 110 #[.string s, .int .i64 a, .bool false]) := Lib.hid (hw ▸ HA.out); have HO : Hid (Only [] w.drew w2) := Lib.hid (hw ▸ Only.refl _ _); clear hp hw; have d0 : w2.cell? ⟨b, 0, none⟩ = some (.string s) := At.cell HA2.out 0 rfl; have d1 : w2.cell? ⟨b, 1, none⟩ = some (.int .i64 a) := At.cell HA2.out 1 rfl))
  have d2 : w2.cell? ⟨b, 2, none⟩ = some (.bool false) := At.cell HA2.out 2 rfl
  have fr1 : w2.frozen? ⟨b, 1, none⟩ = false := At.free HA2.out 1
  have fr2 : w2.frozen? ⟨b, 2, none⟩ = false := At.free HA2.out 2
  go_wp2_with fail
  go_ret
  exact ⟨rfl, HA2.out.set 1 _ (by simp), (Only.trans ((Only.refl [b] w).drew) (HO.out.mono (by simp))).put (by simp) _⟩
set_option maxRecDepth 100000 in
set_option maxHeartbeats 2000000 in
theorem xv_bad1 (b : Nat) (s : ByteArray) (a : Nat) (hd : vDec (s.data.toList.drop a) = none) (ha : a ≤ s.size) (hs : s.size ≤ 4611686018427387903) (w : World) (hA : At w b 110 #[.string s, .int .i64 a, .bool false]) :
    Calls Try.prog 99 #[.pointer (some ⟨b, 0, none⟩)] w fun e w' => e = .returned (.int .i64 0) ∧ At w' b 110 #[.string s, .int .i64 a, .bool true] ∧ Only [b] w w' := by
  have c0 : w.drew.cell? ⟨b, 0, none⟩ = some (.string s) := At.cell hA 0 rfl
  have c1 : w.drew.cell? ⟨b, 1, none⟩ = some (.int .i64 a) := At.cell hA 1 rfl
  have c0' : w.cell? ⟨b, 0, none⟩ = some (.string s) := At.cell hA 0 rfl
  have c1' : w.cell? ⟨b, 1, none⟩ = some (.int .i64 a) := At.cell hA 1 rfl
  have HA : Hid (At w.drew b 110 #[.string s, .int .i64 a, .bool false]) := Lib.hid hA
  clear hA
  go_enter Try.func99, Try.ntmps99
  go_wp2_with fail
  go_region_held3 (fun w' => w'.cell? ⟨b, 0, none⟩ = some (.string s) ∧ w'.cell? ⟨b, 1, none⟩ = some (.int .i64 a)) (first | exact ⟨d0, d1⟩ | exact ⟨c0, c1⟩) ((go_at_call 125; refine (rdecode_c s a ha hs _).mono ?_; rintro e w2 ⟨hp, hw⟩; obtain ⟨c, hc, hq⟩ := hp.none hd; subst hq; have hc2 : (c != 0) = true := bne_iff_ne.2 hc; have HA2 : Hid (At w2 b 110 #[.string s, .int .i64 a, .bool false]) := Lib.hid (hw ▸ HA.out); have HO : Hid (Only [] w.drew w2) := Lib.hid (hw ▸ Only.refl _ _); clear hp hw; have d0 : w2.cell? ⟨b, 0, none⟩ = some (.string s) := At.cell HA2.out 0 rfl; have d1 : w2.cell? ⟨b, 1, none⟩ = some (.int .i64 a) := At.cell HA2.out 1 rfl))
  have d2 : w2.cell? ⟨b, 2, none⟩ = some (.bool false) := At.cell HA2.out 2 rfl
  have fr1 : w2.frozen? ⟨b, 1, none⟩ = false := At.free HA2.out 1
  have fr2 : w2.frozen? ⟨b, 2, none⟩ = false := At.free HA2.out 2
  go_wp2_with fail
  go_ret
  exact ⟨rfl, HA2.out.set 2 _ (by simp), (Only.trans ((Only.refl [b] w).drew) (HO.out.mono (by simp))).put (by simp) _⟩
set_option maxRecDepth 100000 in
set_option maxHeartbeats 2000000 in
theorem xv_bad2 (b : Nat) (s : ByteArray) (a : Nat) (hd : vDec (s.data.toList.drop a) = none) (ha : a ≤ s.size) (hs : s.size ≤ 4611686018427387903) (w : World) (hA : At w b 110 #[.string s, .int .i64 a, .bool true]) :
    Calls Try.prog 99 #[.pointer (some ⟨b, 0, none⟩)] w fun e w' => e = .returned (.int .i64 0) ∧ At w' b 110 #[.string s, .int .i64 a, .bool true] ∧ Only [b] w w' := by
  have c0 : w.drew.cell? ⟨b, 0, none⟩ = some (.string s) := At.cell hA 0 rfl
  have c1 : w.drew.cell? ⟨b, 1, none⟩ = some (.int .i64 a) := At.cell hA 1 rfl
  have c0' : w.cell? ⟨b, 0, none⟩ = some (.string s) := At.cell hA 0 rfl
  have c1' : w.cell? ⟨b, 1, none⟩ = some (.int .i64 a) := At.cell hA 1 rfl
  have HA : Hid (At w.drew b 110 #[.string s, .int .i64 a, .bool true]) := Lib.hid hA
  clear hA
  go_enter Try.func99, Try.ntmps99
  go_wp2_with fail
  go_region_held3 (fun w' => w'.cell? ⟨b, 0, none⟩ = some (.string s) ∧ w'.cell? ⟨b, 1, none⟩ = some (.int .i64 a)) (first | exact ⟨d0, d1⟩ | exact ⟨c0, c1⟩) ((go_at_call 125; refine (rdecode_c s a ha hs _).mono ?_; rintro e w2 ⟨hp, hw⟩; obtain ⟨c, hc, hq⟩ := hp.none hd; subst hq; have hc2 : (c != 0) = true := bne_iff_ne.2 hc; have HA2 : Hid (At w2 b 110 #[.string s, .int .i64 a, .bool true]) := Lib.hid (hw ▸ HA.out); have HO : Hid (Only [] w.drew w2) := Lib.hid (hw ▸ Only.refl _ _); clear hp hw; have d0 : w2.cell? ⟨b, 0, none⟩ = some (.string s) := At.cell HA2.out 0 rfl; have d1 : w2.cell? ⟨b, 1, none⟩ = some (.int .i64 a) := At.cell HA2.out 1 rfl))
  have d2 : w2.cell? ⟨b, 2, none⟩ = some (.bool true) := At.cell HA2.out 2 rfl
  have fr1 : w2.frozen? ⟨b, 1, none⟩ = false := At.free HA2.out 1
  have fr2 : w2.frozen? ⟨b, 2, none⟩ = false := At.free HA2.out 2
  go_wp2_with fail
  go_ret
  exact ⟨rfl, HA2.out.set 2 _ (by simp), (Only.trans ((Only.refl [b] w).drew) (HO.out.mono (by simp))).put (by simp) _⟩
set_option maxRecDepth 100000 in
set_option maxHeartbeats 2000000 in
theorem xv_bad3 (b : Nat) (s : ByteArray) (a : Nat) (n : Int) (k : Nat) (hd : vDec (s.data.toList.drop a) = some (n, k)) (ha : a ≤ s.size) (hs : s.size ≤ 4611686018427387903) (w : World) (hA : At w b 110 #[.string s, .int .i64 a, .bool true]) :
    Calls Try.prog 99 #[.pointer (some ⟨b, 0, none⟩)] w fun e w' => e = .returned (.int .i64 0) ∧ At w' b 110 #[.string s, .int .i64 a, .bool true] ∧ Only [b] w w' := by
  have c0 : w.drew.cell? ⟨b, 0, none⟩ = some (.string s) := At.cell hA 0 rfl
  have c1 : w.drew.cell? ⟨b, 1, none⟩ = some (.int .i64 a) := At.cell hA 1 rfl
  have c0' : w.cell? ⟨b, 0, none⟩ = some (.string s) := At.cell hA 0 rfl
  have c1' : w.cell? ⟨b, 1, none⟩ = some (.int .i64 a) := At.cell hA 1 rfl
  have HA : Hid (At w.drew b 110 #[.string s, .int .i64 a, .bool true]) := Lib.hid hA
  clear hA
  go_enter Try.func99, Try.ntmps99
  go_wp2_with fail
  go_region_held3 (fun w' => w'.cell? ⟨b, 0, none⟩ = some (.string s) ∧ w'.cell? ⟨b, 1, none⟩ = some (.int .i64 a)) (first | exact ⟨d0, d1⟩ | exact ⟨c0, c1⟩) ((go_at_call 125; refine (rdecode_c s a ha hs _).mono ?_; rintro e w2 ⟨hp, hw⟩; have hq := hp.some hd; subst hq; have HA2 : Hid (At w2 b 110 #[.string s, .int .i64 a, .bool true]) := Lib.hid (hw ▸ HA.out); have HO : Hid (Only [] w.drew w2) := Lib.hid (hw ▸ Only.refl _ _); clear hp hw; have d0 : w2.cell? ⟨b, 0, none⟩ = some (.string s) := At.cell HA2.out 0 rfl; have d1 : w2.cell? ⟨b, 1, none⟩ = some (.int .i64 a) := At.cell HA2.out 1 rfl))
  have d2 : w2.cell? ⟨b, 2, none⟩ = some (.bool true) := At.cell HA2.out 2 rfl
  have fr1 : w2.frozen? ⟨b, 1, none⟩ = false := At.free HA2.out 1
  have fr2 : w2.frozen? ⟨b, 2, none⟩ = false := At.free HA2.out 2
  go_wp2_with fail
  go_ret
  exact ⟨rfl, HA2.out.set 2 _ (by simp), (Only.trans ((Only.refl [b] w).drew) (HO.out.mono (by simp))).put (by simp) _⟩
theorem xv_c (b : Nat) (s : ByteArray) (st : Option Nat) (hs : s.size ≤ 4611686018427387903) (w : World) (hR : RdX w b s st) :
    Calls Try.prog 99 #[.pointer (some ⟨b, 0, none⟩)] w fun e w' => e = .returned (.int .i64 (vR s.data.toList st).1) ∧ RdX w' b s (vR s.data.toList st).2 ∧ Only [b] w w' := by
  obtain ⟨a, ha, hA, hc⟩ := hR
  cases st with
  | none =>
    cases hd : vDec (s.data.toList.drop a) with
    | none => exact (xv_bad2 b s a hd ha hs w hA).mono fun e w' h => ⟨h.1, ⟨a, ha, h.2.1, fun c h => by cases h⟩, h.2.2⟩
    | some p => exact (xv_bad3 b s a p.1 p.2 hd ha hs w hA).mono fun e w' h => ⟨h.1, ⟨a, ha, h.2.1, fun c h => by cases h⟩, h.2.2⟩
  | some c =>
    obtain rfl := hc c rfl
    simp only [vR]
    cases hd : vDec (s.data.toList.drop c) with
    | none => exact (xv_bad1 b s c hd ha hs w hA).mono fun e w' h => ⟨h.1, ⟨c, ha, h.2.1, fun c h => by cases h⟩, h.2.2⟩
    | some p =>
      have hb := vR_at (s := s.data.toList) (st := some c) (b := c + p.2) (by simp only [vR]; rw [hd])
      rw [size_list] at hb
      exact (xv_good b s c p.1 p.2 hd ha hs w hA).mono fun e w' h => ⟨h.1, ⟨c + p.2, hb, h.2.1, fun d h => by cases h; rfl⟩, h.2.2⟩
set_option maxRecDepth 100000 in
set_option maxHeartbeats 2000000 in
theorem xt_good (b : Nat) (s : ByteArray) (a n : Nat) (h : a + n ≤ s.size) (hs : s.size ≤ 4611686018427387903) (w : World) (hA : At w b 110 #[.string s, .int .i64 a, .bool false]) :
    Calls Try.prog 101 #[.pointer (some ⟨b, 0, none⟩), .int .i64 n] w fun e w' => e = .returned (.string (s.extract a (a + n))) ∧ At w' b 110 #[.string s, .int .i64 ((a + n : Nat) : Int), .bool false] ∧ Only [b] w w' := by
  have c0 : w.cell? ⟨b, 0, none⟩ = some (.string s) := At.cell hA 0 rfl
  have c1 : w.cell? ⟨b, 1, none⟩ = some (.int .i64 a) := At.cell hA 1 rfl
  have c2 : w.cell? ⟨b, 2, none⟩ = some (.bool false) := At.cell hA 2 rfl
  have fr1 : w.frozen? ⟨b, 1, none⟩ = false := At.free hA 1
  have f1 : IntKind.i64.wrap ((s.size : Int) - a) = (s.size : Int) - a := IntWalk.i64_in _ (by omega)
  have f2 : IntKind.i64.wrap ((a : Int) + n) = (a : Int) + n := IntWalk.i64_in _ (by omega)
  have h1 : ¬ (s.size : Int) - a < n := by omega
  have HA := Lib.hid hA
  clear hA
  go_enter Try.func101, Try.ntmps101
  go_wp2_with fail
  go_still (by kernel_rfl)
  go_wp2_with fail
  have hz0 : At (w.setCell ⟨b, 1, none⟩ (.int .i64 ((a : Int) + n))).drew b 110 #[.string s, .int .i64 ((a + n : Nat) : Int), .bool false] := (HA.out.set 1 _ (by simp)).drew
  have hoz : Only [b] w (w.setCell ⟨b, 1, none⟩ (.int .i64 ((a : Int) + n))).drew := ((Only.refl [b] w).put (by simp) _).drew
  generalize (w.setCell ⟨b, 1, none⟩ (.int .i64 ((a : Int) + n))).drew = wz at hz0 hoz ⊢
  have d0 : wz.cell? ⟨b, 0, none⟩ = some (.string s) := At.cell hz0 0 rfl
  have d1 : wz.cell? ⟨b, 1, none⟩ = some (.int .i64 ((a : Int) + n)) := At.cell hz0 1 (by simp)
  have f3 : IntKind.i64.wrap ((a : Int) + n - n) = (a : Int) := by rw [Int.add_sub_cancel]; exact IntWalk.i64_in _ (by omega)
  have f4 : IntKind.i64.wrap (a : Int) = (a : Int) := IntWalk.i64_in _ (by omega)
  have hsl : ∀ ww, (Instr.slice 9 (.string s) (some (.int .i64 a)) (some (.int .i64 ((a : Int) + n))) none).run Try.prog ww = .ok (.string (s.extract a (a + n))) ww := fun ww => by
    rw [run_slice_string_if ww 9 _ _ _ _ _ Try.underlying9]
    have e1 : ((a : Int) + n).toNat = a + n := by omega
    rw [if_pos (by omega), if_pos (by omega), e1, Int.toNat_natCast]
  have HZ := Lib.hid hz0
  have HOz := Lib.hid hoz
  clear c0 c1 c2 fr1 HA hz0 hoz
  go_still (by kernel_rfl)
  go_wp2_with fail
  go_ret
  exact ⟨rfl, HZ.out.drew, HOz.out.drew⟩
set_option maxRecDepth 100000 in
set_option maxHeartbeats 2000000 in
theorem xt_bad (b : Nat) (s : ByteArray) (a : Nat) (n : Int) (ha : a ≤ s.size) (h : (s.size : Int) - a < n) (hs : s.size ≤ 4611686018427387903) (w : World) (hA : At w b 110 #[.string s, .int .i64 a, .bool false]) :
    Calls Try.prog 101 #[.pointer (some ⟨b, 0, none⟩), .int .i64 n] w fun e w' => e = .returned (.string (strB [])) ∧ At w' b 110 #[.string s, .int .i64 a, .bool true] ∧ Only [b] w w' := by
  have c0 : w.cell? ⟨b, 0, none⟩ = some (.string s) := At.cell hA 0 rfl
  have c1 : w.cell? ⟨b, 1, none⟩ = some (.int .i64 a) := At.cell hA 1 rfl
  have c2 : w.cell? ⟨b, 2, none⟩ = some (.bool false) := At.cell hA 2 rfl
  have fr2 : w.frozen? ⟨b, 2, none⟩ = false := At.free hA 2
  have f1 : IntKind.i64.wrap ((s.size : Int) - a) = (s.size : Int) - a := IntWalk.i64_in _ (by omega)
  have HA := Lib.hid hA
  clear hA
  go_enter Try.func101, Try.ntmps101
  go_wp2_with fail
  go_still (by kernel_rfl)
  go_wp2_with fail
  go_ret
  exact ⟨rfl, HA.out.drew.set 2 _ (by simp), (Only.refl [b] w).drew.put (by simp) _⟩
set_option maxRecDepth 100000 in
set_option maxHeartbeats 2000000 in
theorem xt_bad2 (b : Nat) (s : ByteArray) (a : Nat) (n : Int) (w : World) (hA : At w b 110 #[.string s, .int .i64 a, .bool true]) :
    Calls Try.prog 101 #[.pointer (some ⟨b, 0, none⟩), .int .i64 n] w fun e w' => e = .returned (.string (strB [])) ∧ At w' b 110 #[.string s, .int .i64 a, .bool true] ∧ Only [b] w w' := by
  have c2 : w.cell? ⟨b, 2, none⟩ = some (.bool true) := At.cell hA 2 rfl
  have fr2 : w.frozen? ⟨b, 2, none⟩ = false := At.free hA 2
  have HA := Lib.hid hA
  clear hA
  go_enter Try.func101, Try.ntmps101
  go_wp2_with fail
  go_still (by kernel_rfl)
  go_wp2_with fail
  go_ret
  exact ⟨rfl, HA.out.drew.set 2 _ (by simp), (Only.refl [b] w).drew.put (by simp) _⟩
theorem xt_c (b : Nat) (s : ByteArray) (st : Option Nat) (n : Int) (hn : 0 ≤ n) (hs : s.size ≤ 4611686018427387903) (w : World) (hR : RdX w b s st) :
    Calls Try.prog 101 #[.pointer (some ⟨b, 0, none⟩), .int .i64 n] w fun e w' => e = .returned (.string (strB (tR s.data.toList n st).1)) ∧ RdX w' b s (tR s.data.toList n st).2 ∧ Only [b] w w' := by
  obtain ⟨a, ha, hA, hc⟩ := hR
  cases st with
  | none => exact (xt_bad2 b s a n w hA).mono fun e w' h => ⟨h.1, ⟨a, ha, h.2.1, fun c h => by cases h⟩, h.2.2⟩
  | some c =>
    obtain rfl := hc c rfl
    simp only [tR, size_list]
    by_cases h : (s.size : Int) - c < n
    · rw [if_pos h]
      exact (xt_bad b s c n ha h hs w hA).mono fun e w' h => ⟨h.1, ⟨c, ha, h.2.1, fun c h => by cases h⟩, h.2.2⟩
    · rw [if_neg h]
      obtain ⟨m, rfl⟩ : ∃ m : Nat, n = m := ⟨n.toNat, by omega⟩
      have he : s.extract c (c + m) = strB ((s.data.toList.drop c).take m) := by rw [ext_list]; congr 2; omega
      rw [Int.toNat_natCast, ← he]
      exact (xt_good b s c m (by omega) hs w hA).mono fun e w' h => ⟨h.1, ⟨c + m, by omega, h.2.1, fun d h => by cases h; rfl⟩, h.2.2⟩
end Go.Proofs.Ytmmgmpghkpbgkaa
/- Contracts of the reference's reader: ranges. -/
namespace Go.Proofs.Ytmmgmpghkpbgkaa
open Go Go.RowKit
set_option linter.unusedVariables false
set_option linter.unusedSimpArgs false

theorem RgO.shape' {w : World} {base : Nat} {v : Value} {L : List (Int × Int)} (h : RgO w base v L) : ∃ a cap, v = .slice a L.length cap := by
  rcases h.2 with ⟨rfl, h2⟩ | ⟨g, cap, cur, rfl, _⟩
  · rw [h2]; exact ⟨_, _, rfl⟩
  · exact ⟨_, _, rfl⟩
theorem RdX.below {w w' : World} {b B : Nat} {s : ByteArray} {st : Option Nat} (h : RdX w b s st) (ho : Below B w w') (hb : b < B) : RdX w' b s st := by
  obtain ⟨a, h1, h2, h3⟩ := h; exact ⟨a, h1, h2.below ho hb, h3⟩
theorem xw64_bd (x : Int) : -9223372036854775808 ≤ w64 x ∧ w64 x ≤ 9223372036854775807 := by rw [w64_eq]; omega
theorem w64_wrap (x : Int) : w64 x = wrap64 x := by rw [w64_eq]; unfold wrap64; rfl
def XrRel (rb : Nat) (s : ByteArray) (m : Nat) (st0 : Option Nat) (w : World) (gk : Nat) (ov iv : Value) (wr : World) : Prop :=
  ∃ (k : Nat) (acc : List (Int × Int)) (st : Option Nat), gk = m - k ∧ k ≤ m ∧ iv = .int .i64 k ∧ acc.length = k ∧ Hid (InI acc) ∧ Hid (RdX wr rb s st) ∧ Hid (RgO wr w.heap.size ov acc) ∧ Hid (rR s.data.toList m [] st0 = rR s.data.toList (m - k) acc st) ∧ Hid (Only [rb] w wr)
set_option maxRecDepth 100000 in
set_option maxHeartbeats 4000000 in
theorem xranges_c (rb : Nat) (s : ByteArray) (stq : Option Nat) (hs : s.size ≤ 4611686018427387903) (w : World) (hR : RdX w rb s stq) :
    Calls Try.prog 100 #[.pointer (some ⟨rb, 0, none⟩)] w fun e w' => ∃ rv, e = .returned rv ∧ RgO w' w.heap.size rv (raR s.data.toList stq).1 ∧ InI (raR s.data.toList stq).1 ∧ RdX w' rb s (raR s.data.toList stq).2 ∧ Only [rb] w w' := by
  obtain ⟨L, hL⟩ : ∃ L, s.data.toList = L := ⟨_, rfl⟩
  have hcl := fun ww st hh => xv_c rb s st hs ww hh
  have hrl := hR.lt
  obtain ⟨n0, n1⟩ := vR_pos s.data.toList stq
  obtain ⟨n, hn⟩ : ∃ n : Nat, (vR s.data.toList stq).1 = n := ⟨(vR s.data.toList stq).1.toNat, by omega⟩
  obtain ⟨st0, hst0⟩ : ∃ st0, (vR s.data.toList stq).2 = st0 := ⟨_, rfl⟩
  obtain ⟨m, hm⟩ : ∃ m, min n 17 = m := ⟨_, rfl⟩
  have HQ : Hid (raR s.data.toList stq = rR s.data.toList m [] st0) := Lib.hid (by unfold raR; rw [hn, hst0, Int.toNat_natCast, hm])
  have hfirst := hcl w stq hR
  rw [hn, hst0] at hfirst
  clear hL hst0 hR
  rw [hn] at n1
  clear n0 hn
  go_enter Try.func100, Try.ntmps100
  go_wp2_with fail
  refine hfirst.mono ?_
  rintro e w1 ⟨rfl, hX, ho⟩
  have HX := Lib.hid hX
  have HO := Lib.hid ho
  clear hX ho hfirst
  go_wp2_with fail
  go_loopg [4, 5] m (fun gk ov iv wr => XrRel rb s m st0 w gk ov iv wr)
  case atStart => exact ⟨0, [], st0, by omega, by omega, rfl, rfl, Lib.hid (fun p hp => by cases hp), HX, Lib.hid ⟨rfl, .inl ⟨rfl, rfl⟩⟩, Lib.hid rfl, HO⟩
  case round =>
    obtain ⟨k, acc, st, rfl, hk, rfl, hal, hI, hR, hG, hE, hO⟩ := hrel
    clear HX HO
    obtain ⟨ga, gc, rfl⟩ := hG.out.shape'
    rw [hal] at hG ⊢
    by_cases hin : k < n ∧ k < 17
    · obtain ⟨hk1, hk2⟩ := hin
      have hk1' : (k : Int) < n := by omega
      have hk2' : (k : Int) < 17 := by omega
      cases st with
      | none =>
        obtain ⟨a, ha, hA, _⟩ := hR.out
        have c2 : wr.cell? ⟨rb, 2, none⟩ = some (.bool true) := hA.cell 2 rfl
        have HF : Hid (raR s.data.toList stq = (acc, none)) := Lib.hid (by rw [HQ.out, hE.out, rR_none])
        clear hA
        go_wp2_with fail
        go_ret
        rw [HF.out]
        exact ⟨_, rfl, hG.out, hI.out, hR.out, hO.out⟩
      | some a1 =>
        obtain ⟨a, ha, hA, haa⟩ := hR.out
        have c2 : wr.cell? ⟨rb, 2, none⟩ = some (.bool false) := hA.cell 2 rfl
        clear hA haa ha
        obtain ⟨j, hj⟩ : ∃ j, m - k = j + 1 := ⟨m - k - 1, by omega⟩
        obtain ⟨x, hx⟩ : ∃ x, (vR s.data.toList (some a1)).1 = x := ⟨_, rfl⟩
        obtain ⟨s2, hs2⟩ : ∃ s2, (vR s.data.toList (some a1)).2 = s2 := ⟨_, rfl⟩
        obtain ⟨y, hy⟩ : ∃ y, (vR s.data.toList s2).1 = y := ⟨_, rfl⟩
        obtain ⟨s3, hs3⟩ : ∃ s3, (vR s.data.toList s2).2 = s3 := ⟨_, rfl⟩
        have bx := vR_pos s.data.toList (some a1)
        have by' := vR_pos s.data.toList s2
        obtain ⟨lst, hlst⟩ : ∃ lst, (match acc.getLast? with | none => x | some p => w64 (w64 (p.1 - x) - 2)) = lst := ⟨_, rfl⟩
        have hE2 : rR s.data.toList (m - k) acc (some a1) = rR s.data.toList j (acc ++ [(w64 (lst - y), w64 (lst + 1))]) s3 := by
          rw [hj, ← hlst, ← hs3, ← hy, ← hs2, ← hx]; rfl
        have HE := Lib.hid (hE.out.trans hE2)
        have hcx := fun ww hh => hcl ww (some a1) hh
        have hcy := fun ww hh => hcl ww s2 hh
        simp only [hx, hs2] at hcx
        simp only [hy, hs3] at hcy
        rw [hx] at bx
        rw [hy] at by'
        clear hE2 hE hx hs2 hy hs3
        have f9 : IntKind.i64.wrap ((k : Int) + 1) = ((k + 1 : Nat) : Int) := by rw [show (k : Int) + 1 = ((k + 1 : Nat) : Int) by omega]; exact IntWalk.i64_in _ (by omega)
        go_wp2_with fail
        refine (hcx _ hR.out).mono ?_
        rintro e w4 ⟨rfl, hX4, ho4⟩
        have HX4 := Lib.hid hX4
        have HG4 := Lib.hid (hG.out.keep ho4 (by simpa using hrl))
        have HO4 := Lib.hid (hO.out.trans ho4)
        clear hX4 ho4 c2 hR hG hO hcx
        by_cases hk0 : k = 0
        · have hk3 : ¬ (0 : Int) < k := by omega
          have hl0 : lst = x := by rw [← hlst]; have : acc = [] := List.length_eq_zero_iff.1 (hal.trans hk0); rw [this]; rfl
          clear hlst
          subst hl0
          clear hk0
          have hPQ : Hid (w64 (lst - y) = lst - y ∧ w64 (lst + 1) = lst + 1) := Lib.hid ⟨IntWalk.i64_in _ (by omega), IntWalk.i64_in _ (by omega)⟩
          go_wp2_with fail
          refine (hcy _ HX4.out).mono ?_
          rintro e w5 ⟨rfl, hX5, ho5⟩
          have HX5 := Lib.hid hX5
          have HG5 := Lib.hid (HG4.out.keep ho5 (by simpa using hrl))
          have HO5 := Lib.hid (HO4.out.trans ho5)
          clear hX5 ho5 HX4 HG4 HO4 hcy
          obtain ⟨v', w6, eA, hG6, hB6, hkp⟩ := (show RgO w5 w.heap.size _ acc from HG5.out).append (lst - y, lst + 1) (by omega) HO5.out.size
          obtain ⟨va, vc, rfl⟩ := hG6.shape'
          rw [show (acc ++ [(lst - y, lst + 1)]).length = k + 1 by simp [hal]] at hG6
          have HG6 := Lib.hid hG6
          have HX6 := Lib.hid (show RdX w6 rb s s3 from HX5.out.below hB6 hrl)
          have HO6 := Lib.hid (only_bl HO5.out hB6)
          clear hG6 hB6 hkp HX5
          go_wp2_with (at_builtin; refine Lib.wpList_append_run _ rfl _ _ _ _ rfl _ _ rfl rfl _ _ (eA _) ?_)
          go_roundg (m - (k + 1))
          case measure => omega
          case rel => exact ⟨k + 1, acc ++ [(lst - y, lst + 1)], s3, rfl, by omega, rfl, by simp [hal], Lib.hid (fun p hp => by rcases List.mem_append.1 hp with hp | hp; exact hI.out p hp; rw [List.mem_singleton] at hp; subst hp; rw [← hPQ.out.1, ← hPQ.out.2]; exact ⟨xw64_bd _, xw64_bd _⟩), HX6, HG6, by rw [show m - (k + 1) = j by omega, ← hPQ.out.1, ← hPQ.out.2]; exact HE, HO6⟩
        · have hk3 : (0 : Int) < k := by omega
          have hne : acc ≠ [] := fun e => by rw [e] at hal; simp at hal; omega
          obtain ⟨F, T, hlast⟩ : ∃ F T, acc.getLast? = some (F, T) := ⟨(acc.getLast hne).1, (acc.getLast hne).2, by rw [List.getLast?_eq_some_getLast hne]⟩
          have hget : acc[k - 1]? = some (F, T) := by rw [← hlast, List.getLast?_eq_getElem?, hal]
          rw [hlast] at hlst
          simp only at hlst
          obtain ⟨g, off, hga, hg, c0, _⟩ : ∃ g off, ga = some ⟨g, off, none⟩ ∧ g < w4.heap.size ∧ w4.cell? ⟨g, off + (k - 1) * 2, none⟩ = some (.int .i64 F) ∧ True := by
            obtain ⟨a', cap', e1, e2⟩ := HG4.out.at hI.out
            injection e1 with e1a e1b e1c
            subst e1a
            obtain ⟨g, off, e3, hg, d0, _⟩ := e2 (k - 1) (by omega)
            have e4 : acc[k - 1]'(by omega) = (F, T) := Option.some.inj ((List.getElem?_eq_getElem (by omega)).symm.trans hget)
            rw [e4] at d0
            exact ⟨g, off, e3, hg, d0, trivial⟩
          subst hga
          have i1 : IntKind.i64.wrap ((k : Int) - 1) = (k : Int) - 1 := IntWalk.i64_in _ (by omega)
          have i2 : (0 : Int) ≤ (k : Int) - 1 := by omega
          have i3 : (k : Int) - 1 < k := by omega
          have i4 : ((k : Int) - 1).toNat = k - 1 := by omega
          have i5 : (1 : Int) ≤ k := by omega
          have i6 : wrap64 (wrap64 (F - x) - 2) = lst := by rw [← hlst, w64_wrap, w64_wrap]
          have hPQ : Hid (w64 (lst - y) = wrap64 (lst - y) ∧ w64 (lst + 1) = wrap64 (lst + 1)) := Lib.hid ⟨w64_wrap _, w64_wrap _⟩
          clear hget hlast hne hk0
          go_wp2_with fail
          refine (hcy _ HX4.out).mono ?_
          rintro e w5 ⟨rfl, hX5, ho5⟩
          have HX5 := Lib.hid hX5
          have HG5 := Lib.hid (HG4.out.keep ho5 (by simpa using hrl))
          have HO5 := Lib.hid (HO4.out.trans ho5)
          clear hX5 ho5 HX4 HG4 HO4 hcy
          obtain ⟨v', w6, eA, hG6, hB6, hkp⟩ := (show RgO w5 w.heap.size _ acc from HG5.out).append (wrap64 (lst - y), wrap64 (lst + 1)) (by omega) HO5.out.size
          obtain ⟨va, vc, rfl⟩ := hG6.shape'
          rw [show (acc ++ [(wrap64 (lst - y), wrap64 (lst + 1))]).length = k + 1 by simp [hal]] at hG6
          have HG6 := Lib.hid hG6
          have HX6 := Lib.hid (show RdX w6 rb s s3 from HX5.out.below hB6 hrl)
          have HO6 := Lib.hid (only_bl HO5.out hB6)
          clear hG6 hB6 hkp HX5
          go_wp2_with (at_builtin; refine Lib.wpList_append_run _ rfl _ _ _ _ rfl _ _ rfl rfl _ _ (eA _) ?_)
          go_roundg (m - (k + 1))
          case measure => omega
          case rel => exact ⟨k + 1, acc ++ [(wrap64 (lst - y), wrap64 (lst + 1))], s3, rfl, by omega, rfl, by simp [hal], Lib.hid (fun p hp => by rcases List.mem_append.1 hp with hp | hp; exact hI.out p hp; rw [List.mem_singleton] at hp; subst hp; rw [← hPQ.out.1, ← hPQ.out.2]; exact ⟨xw64_bd _, xw64_bd _⟩), HX6, HG6, by rw [show m - (k + 1) = j by omega, ← hPQ.out.1, ← hPQ.out.2]; exact HE, HO6⟩
    · have hkm : k = m := by omega
      have HF : Hid (raR s.data.toList stq = (acc, st)) := Lib.hid (by rw [HQ.out, hE.out, hkm, Nat.sub_self]; rfl)
      clear hE hkm
      by_cases hk1 : (k : Int) < n
      · have hk2 : ¬ (k : Int) < 17 := by omega
        clear hin
        go_wp2_with fail
        go_ret
        rw [HF.out]
        exact ⟨_, rfl, hG.out, hI.out, hR.out, hO.out⟩
      · clear hin
        go_wp2_with fail
        go_ret
        rw [HF.out]
        exact ⟨_, rfl, hG.out, hI.out, hR.out, hO.out⟩
end Go.Proofs.Ytmmgmpghkpbgkaa
/- Contracts of the reference's encodings: numbers, texts; what is answered is a string of bounded length. -/
namespace Go.Proofs.Ytmmgmpghkpbgkaa
open Go Go.RowKit
set_option linter.unusedVariables false
set_option linter.unusedSimpArgs false

/-- A string of at most m bytes is answered. -/
def StrQ (m : Nat) (w : World) (e : Ending) (w' : World) : Prop := ∃ S : ByteArray, e = .returned (.string S) ∧ S.size ≤ m ∧ Only [] w w'
theorem StrQ.mk {m : Nat} {w w' : World} {S : ByteArray} (h : S.size ≤ m) (ho : Only [] w w') : StrQ m w (.returned (.string S)) w' := ⟨S, rfl, h, ho⟩
/-- A block of n bytes. -/
def ByR (w : World) (g n : Nat) : Prop := ∃ cs, At w g 5 cs ∧ cs.size = n ∧ ∀ i, i < n → ∃ x : Int, cs[i]? = some (.int .u8 x)
theorem ByR.cell {w : World} {g n : Nat} (h : ByR w g n) (i : Nat) (hi : i < n) : ∃ x : Int, w.cell? ⟨g, i, none⟩ = some (.int .u8 x) := by
  obtain ⟨cs, h1, h2, h3⟩ := h
  obtain ⟨x, hx⟩ := h3 i hi
  exact ⟨x, h1.cell i hx⟩
theorem ByR.free {w : World} {g n : Nat} (h : ByR w g n) (i : Nat) : w.frozen? ⟨g, i, none⟩ = false := by
  obtain ⟨cs, h1, h2, h3⟩ := h; exact h1.free i
theorem ByR.set {w : World} {g n : Nat} (h : ByR w g n) (p : Nat) (hp : p < n) (x : Int) : ByR (w.setCell ⟨g, p, none⟩ (.int .u8 x)) g n := by
  obtain ⟨cs, h1, h2, h3⟩ := h
  refine ⟨_, h1.set p _ rfl, by simpa using h2, fun i hi => ?_⟩
  by_cases e : i = p
  · subst e; exact ⟨x, by simp [Array.getElem?_setIfInBounds, h2, hp]⟩
  · obtain ⟨y, hy⟩ := h3 i hi
    exact ⟨y, by rw [Array.getElem?_setIfInBounds, if_neg (fun h => e h.symm)]; exact hy⟩
theorem ByR.conv {w : World} {g n : Nat} (h : ByR w g n) : ∃ S : ByteArray, S.size = n ∧ (convert 22 9 (.slice (some ⟨g, 0, none⟩) n n)).run Try.prog w = .ok (.string S) w := by
  have hx : ∀ i : Fin n, ∃ x : Int, w.cell? ⟨g, i.1, none⟩ = some (.int .u8 x) := fun i => h.cell i.1 i.2
  let ns : List Int := (List.finRange n).map fun i => Classical.choose (hx i)
  have hl : ns.length = n := by simp [ns]
  have := run_convert_bytes_arg (P := Try.prog) w 22 5 Try.underlying22 Try.underlying5 g 0 n n ns hl (fun i hi => by
    rw [Nat.zero_add, Classical.choose_spec (hx ⟨i, hi⟩)]
    congr 2
    rw [List.getD_eq_getElem?_getD, List.getElem?_map, List.getElem?_eq_getElem (by simpa using hi)]
    simp) 9 Try.underlying9
  exact ⟨strOfNums ns, by simp [strOfNums, ByteArray.size, hl], this⟩
theorem bzero1 : Builtin.zeroCells #[.int .u8 0] 1 = Array.replicate 1 (Value.int .u8 0) := by kernel_rfl
theorem ByR.new1 (w : World) : ByR (w.alloc (.cells (Builtin.zeroCells #[.int .u8 0] 1) 5)) w.heap.size 1 :=
  ⟨_, At.new _ _ _, by rw [bzero1]; simp, fun i hi => ⟨0, by rw [bzero1]; simp [hi]⟩⟩
set_option maxRecDepth 100000 in
set_option maxHeartbeats 2000000 in
theorem rbytes_1 (n : Int) (w : World) : Calls Try.prog 129 #[.int .i64 n, .int .i64 1] w (StrQ 8 w) := by
  have hmk : ∀ w : World, (Instr.makeSlice 22 (.int .i64 1) (.int .i64 1)).run Try.prog w = .ok (.slice (some ⟨w.heap.size, 0, none⟩) 1 1) (w.alloc (.cells (Builtin.zeroCells #[.int .u8 0] 1) 5)) := fun _ => by kernel_rfl
  have hR := ByR.new1 w
  have hO := (Only.refl [] w).alloc (.cells (Builtin.zeroCells #[.int .u8 0] 1) 5)
  go_enter Try.func129, Try.ntmps129
  go_wp2_with fail
  generalize w.alloc (.cells (Builtin.zeroCells #[.int .u8 0] 1) 5) = w1 at hR hO ⊢
  obtain ⟨g, hg⟩ : ∃ g, w.heap.size = g := ⟨_, rfl⟩
  rw [hg] at hR ⊢
  have HG : Hid (w.heap.size ≤ g) := Lib.hid (by omega)
  have HR := Lib.hid hR
  have HO := Lib.hid hO
  clear hR hO hg hmk
  go_loopw [0, 6] (fun nv iv wr => ∃ (k : Nat) (m : Int), iv = .int .i64 ((k : Int) - 1) ∧ k ≤ 1 ∧ nv = .int .i64 m ∧ Hid (ByR wr g 1) ∧ Hid (Only [] w wr)) (fun _ iv _ => (intOf iv + 1).toNat)
  case atStart => exact ⟨1, n, rfl, by omega, rfl, HR, HO⟩
  case round =>
    obtain ⟨k, m, rfl, hk, rfl, hR, hO⟩ := hrel
    clear HR HO
    cases k with
    | zero =>
      obtain ⟨S, hS, hcv⟩ := hR.out.conv
      have HS : Hid (S.size ≤ 8) := Lib.hid (by omega)
      clear hS
      go_wp2_with fail
      go_ret
      exact StrQ.mk HS.out hO.out
    | succ q =>
      have e0 : ((q + 1 : Nat) : Int) - 1 = q := by omega
      rw [e0]
      clear e0
      obtain ⟨u, hu⟩ := hR.out.cell q (by omega)
      have hfr := hR.out.free q
      have i1 : (0 : Int) ≤ q := by omega
      have i2 : (q : Int) < 1 := by omega
      have i3 : IntKind.i64.wrap ((q : Int) - 1) = (q : Int) - 1 := IntWalk.i64_in _ (by omega)
      have i4 : q < 1 := by omega
      go_wp2_with fail
      exact ⟨⟨q, _, rfl, by omega, rfl, Lib.hid (hR.out.set q i4 _), Lib.hid (hO.out.putn HG.out _)⟩, by simp [intOf]⟩
theorem bzero2 : Builtin.zeroCells #[.int .u8 0] 2 = Array.replicate 2 (Value.int .u8 0) := by kernel_rfl
theorem ByR.new2 (w : World) : ByR (w.alloc (.cells (Builtin.zeroCells #[.int .u8 0] 2) 5)) w.heap.size 2 :=
  ⟨_, At.new _ _ _, by rw [bzero2]; simp, fun i hi => ⟨0, by rw [bzero2]; simp [hi]⟩⟩
set_option maxRecDepth 100000 in
set_option maxHeartbeats 2000000 in
theorem rbytes_2 (n : Int) (w : World) : Calls Try.prog 129 #[.int .i64 n, .int .i64 2] w (StrQ 8 w) := by
  have hmk : ∀ w : World, (Instr.makeSlice 22 (.int .i64 2) (.int .i64 2)).run Try.prog w = .ok (.slice (some ⟨w.heap.size, 0, none⟩) 2 2) (w.alloc (.cells (Builtin.zeroCells #[.int .u8 0] 2) 5)) := fun _ => by kernel_rfl
  have hR := ByR.new2 w
  have hO := (Only.refl [] w).alloc (.cells (Builtin.zeroCells #[.int .u8 0] 2) 5)
  go_enter Try.func129, Try.ntmps129
  go_wp2_with fail
  generalize w.alloc (.cells (Builtin.zeroCells #[.int .u8 0] 2) 5) = w1 at hR hO ⊢
  obtain ⟨g, hg⟩ : ∃ g, w.heap.size = g := ⟨_, rfl⟩
  rw [hg] at hR ⊢
  have HG : Hid (w.heap.size ≤ g) := Lib.hid (by omega)
  have HR := Lib.hid hR
  have HO := Lib.hid hO
  clear hR hO hg hmk
  go_loopw [0, 6] (fun nv iv wr => ∃ (k : Nat) (m : Int), iv = .int .i64 ((k : Int) - 1) ∧ k ≤ 2 ∧ nv = .int .i64 m ∧ Hid (ByR wr g 2) ∧ Hid (Only [] w wr)) (fun _ iv _ => (intOf iv + 1).toNat)
  case atStart => exact ⟨2, n, rfl, by omega, rfl, HR, HO⟩
  case round =>
    obtain ⟨k, m, rfl, hk, rfl, hR, hO⟩ := hrel
    clear HR HO
    cases k with
    | zero =>
      obtain ⟨S, hS, hcv⟩ := hR.out.conv
      have HS : Hid (S.size ≤ 8) := Lib.hid (by omega)
      clear hS
      go_wp2_with fail
      go_ret
      exact StrQ.mk HS.out hO.out
    | succ q =>
      have e0 : ((q + 1 : Nat) : Int) - 1 = q := by omega
      rw [e0]
      clear e0
      obtain ⟨u, hu⟩ := hR.out.cell q (by omega)
      have hfr := hR.out.free q
      have i1 : (0 : Int) ≤ q := by omega
      have i2 : (q : Int) < 2 := by omega
      have i3 : IntKind.i64.wrap ((q : Int) - 1) = (q : Int) - 1 := IntWalk.i64_in _ (by omega)
      have i4 : q < 2 := by omega
      go_wp2_with fail
      exact ⟨⟨q, _, rfl, by omega, rfl, Lib.hid (hR.out.set q i4 _), Lib.hid (hO.out.putn HG.out _)⟩, by simp [intOf]⟩
theorem bzero4 : Builtin.zeroCells #[.int .u8 0] 4 = Array.replicate 4 (Value.int .u8 0) := by kernel_rfl
theorem ByR.new4 (w : World) : ByR (w.alloc (.cells (Builtin.zeroCells #[.int .u8 0] 4) 5)) w.heap.size 4 :=
  ⟨_, At.new _ _ _, by rw [bzero4]; simp, fun i hi => ⟨0, by rw [bzero4]; simp [hi]⟩⟩
set_option maxRecDepth 100000 in
set_option maxHeartbeats 2000000 in
theorem rbytes_4 (n : Int) (w : World) : Calls Try.prog 129 #[.int .i64 n, .int .i64 4] w (StrQ 8 w) := by
  have hmk : ∀ w : World, (Instr.makeSlice 22 (.int .i64 4) (.int .i64 4)).run Try.prog w = .ok (.slice (some ⟨w.heap.size, 0, none⟩) 4 4) (w.alloc (.cells (Builtin.zeroCells #[.int .u8 0] 4) 5)) := fun _ => by kernel_rfl
  have hR := ByR.new4 w
  have hO := (Only.refl [] w).alloc (.cells (Builtin.zeroCells #[.int .u8 0] 4) 5)
  go_enter Try.func129, Try.ntmps129
  go_wp2_with fail
  generalize w.alloc (.cells (Builtin.zeroCells #[.int .u8 0] 4) 5) = w1 at hR hO ⊢
  obtain ⟨g, hg⟩ : ∃ g, w.heap.size = g := ⟨_, rfl⟩
  rw [hg] at hR ⊢
  have HG : Hid (w.heap.size ≤ g) := Lib.hid (by omega)
  have HR := Lib.hid hR
  have HO := Lib.hid hO
  clear hR hO hg hmk
  go_loopw [0, 6] (fun nv iv wr => ∃ (k : Nat) (m : Int), iv = .int .i64 ((k : Int) - 1) ∧ k ≤ 4 ∧ nv = .int .i64 m ∧ Hid (ByR wr g 4) ∧ Hid (Only [] w wr)) (fun _ iv _ => (intOf iv + 1).toNat)
  case atStart => exact ⟨4, n, rfl, by omega, rfl, HR, HO⟩
  case round =>
    obtain ⟨k, m, rfl, hk, rfl, hR, hO⟩ := hrel
    clear HR HO
    cases k with
    | zero =>
      obtain ⟨S, hS, hcv⟩ := hR.out.conv
      have HS : Hid (S.size ≤ 8) := Lib.hid (by omega)
      clear hS
      go_wp2_with fail
      go_ret
      exact StrQ.mk HS.out hO.out
    | succ q =>
      have e0 : ((q + 1 : Nat) : Int) - 1 = q := by omega
      rw [e0]
      clear e0
      obtain ⟨u, hu⟩ := hR.out.cell q (by omega)
      have hfr := hR.out.free q
      have i1 : (0 : Int) ≤ q := by omega
      have i2 : (q : Int) < 4 := by omega
      have i3 : IntKind.i64.wrap ((q : Int) - 1) = (q : Int) - 1 := IntWalk.i64_in _ (by omega)
      have i4 : q < 4 := by omega
      go_wp2_with fail
      exact ⟨⟨q, _, rfl, by omega, rfl, Lib.hid (hR.out.set q i4 _), Lib.hid (hO.out.putn HG.out _)⟩, by simp [intOf]⟩
theorem bzero8 : Builtin.zeroCells #[.int .u8 0] 8 = Array.replicate 8 (Value.int .u8 0) := by kernel_rfl
theorem ByR.new8 (w : World) : ByR (w.alloc (.cells (Builtin.zeroCells #[.int .u8 0] 8) 5)) w.heap.size 8 :=
  ⟨_, At.new _ _ _, by rw [bzero8]; simp, fun i hi => ⟨0, by rw [bzero8]; simp [hi]⟩⟩
set_option maxRecDepth 100000 in
set_option maxHeartbeats 2000000 in
theorem rbytes_8 (n : Int) (w : World) : Calls Try.prog 129 #[.int .i64 n, .int .i64 8] w (StrQ 8 w) := by
  have hmk : ∀ w : World, (Instr.makeSlice 22 (.int .i64 8) (.int .i64 8)).run Try.prog w = .ok (.slice (some ⟨w.heap.size, 0, none⟩) 8 8) (w.alloc (.cells (Builtin.zeroCells #[.int .u8 0] 8) 5)) := fun _ => by kernel_rfl
  have hR := ByR.new8 w
  have hO := (Only.refl [] w).alloc (.cells (Builtin.zeroCells #[.int .u8 0] 8) 5)
  go_enter Try.func129, Try.ntmps129
  go_wp2_with fail
  generalize w.alloc (.cells (Builtin.zeroCells #[.int .u8 0] 8) 5) = w1 at hR hO ⊢
  obtain ⟨g, hg⟩ : ∃ g, w.heap.size = g := ⟨_, rfl⟩
  rw [hg] at hR ⊢
  have HG : Hid (w.heap.size ≤ g) := Lib.hid (by omega)
  have HR := Lib.hid hR
  have HO := Lib.hid hO
  clear hR hO hg hmk
  go_loopw [0, 6] (fun nv iv wr => ∃ (k : Nat) (m : Int), iv = .int .i64 ((k : Int) - 1) ∧ k ≤ 8 ∧ nv = .int .i64 m ∧ Hid (ByR wr g 8) ∧ Hid (Only [] w wr)) (fun _ iv _ => (intOf iv + 1).toNat)
  case atStart => exact ⟨8, n, rfl, by omega, rfl, HR, HO⟩
  case round =>
    obtain ⟨k, m, rfl, hk, rfl, hR, hO⟩ := hrel
    clear HR HO
    cases k with
    | zero =>
      obtain ⟨S, hS, hcv⟩ := hR.out.conv
      have HS : Hid (S.size ≤ 8) := Lib.hid (by omega)
      clear hS
      go_wp2_with fail
      go_ret
      exact StrQ.mk HS.out hO.out
    | succ q =>
      have e0 : ((q + 1 : Nat) : Int) - 1 = q := by omega
      rw [e0]
      clear e0
      obtain ⟨u, hu⟩ := hR.out.cell q (by omega)
      have hfr := hR.out.free q
      have i1 : (0 : Int) ≤ q := by omega
      have i2 : (q : Int) < 8 := by omega
      have i3 : IntKind.i64.wrap ((q : Int) - 1) = (q : Int) - 1 := IntWalk.i64_in _ (by omega)
      have i4 : q < 8 := by omega
      go_wp2_with fail
      exact ⟨⟨q, _, rfl, by omega, rfl, Lib.hid (hR.out.set q i4 _), Lib.hid (hO.out.putn HG.out _)⟩, by simp [intOf]⟩
def EncW (w : World) (e : Ending) (w' : World) : Prop := ∃ (S : ByteArray) (c : Int), e = .returned (.tuple #[.string S, .int .i64 c]) ∧ S.size ≤ 8 ∧ Only [] w w'
theorem EncW.mk {w w' : World} {S : ByteArray} {c : Int} (h : S.size ≤ 8) (ho : Only [] w w') : EncW w (.returned (.tuple #[.string S, .int .i64 c])) w' := ⟨S, c, rfl, h, ho⟩
theorem vCls_cases (n : Int) : vCls n = -1 ∨ vCls n = 0 ∨ vCls n = 1 ∨ vCls n = 2 ∨ vCls n = 3 := by
  unfold vCls
  repeat' (first | omega | split)
set_option maxRecDepth 100000 in
set_option maxHeartbeats 4000000 in
theorem rencode_w (n : Int) (w : World) : Calls Try.prog 124 #[.int .i64 n] w (EncW w) := by
  have hcl := fun ww => rclass_c n ww
  rcases vCls_cases n with h | h | h | h | h
  · simp only [h] at hcl
    clear h
    go_enter Try.func124, Try.ntmps124
    go_wp2_with fail
    refine (hcl _).mono ?_
    rintro e w1 ⟨rfl, rfl⟩
    go_wp2_with fail
    go_ret2
    exact EncW.mk (by show 0 ≤ _; omega) (Only.refl _ _)
  · simp only [h] at hcl
    clear h
    have hp2 : wrap64 (1) = 1 := by kernel_rfl
    go_enter Try.func124, Try.ntmps124
    go_wp2_with fail
    refine (hcl _).mono ?_
    rintro e w1 ⟨rfl, rfl⟩
    go_wp2_with fail
    go_loopw [6, 7] (fun mv iv wr => wr = w ∧ ∃ (k : Nat) (m : Int), iv = .int .i64 k ∧ k ≤ 6 ∧ mv = .int .i64 m) (fun _ iv _ => 6 - (intOf iv).toNat)
    case atStart => exact ⟨rfl, 0, _, rfl, by omega, rfl⟩
    case round =>
      obtain ⟨rfl, k, m, rfl, hk, rfl⟩ := hrel
      by_cases hlt : k < 6
      · have hlt' : (k : Int) < 6 := by omega
        have i3 : IntKind.i64.wrap ((k : Int) + 1) = (k : Int) + 1 := IntWalk.i64_in _ (by omega)
        go_wp2_with fail
        exact ⟨⟨trivial, k + 1, _, by simp, by omega, rfl⟩, by simp [intOf] <;> omega⟩
      · have hlt' : ¬ (k : Int) < 6 := by omega
        go_wp2_with fail
        refine (rbytes_1 _ _).mono ?_
        rintro e w2 ⟨S, rfl, hS, ho⟩
        have HS := Lib.hid hS
        have HO := Lib.hid ho
        clear hS ho
        go_wp2_with fail
        go_ret2
        exact EncW.mk HS.out HO.out
  · simp only [h] at hcl
    clear h
    have hp2 : wrap64 (2) = 2 := by kernel_rfl
    go_enter Try.func124, Try.ntmps124
    go_wp2_with fail
    refine (hcl _).mono ?_
    rintro e w1 ⟨rfl, rfl⟩
    go_wp2_with fail
    go_loopw [6, 7] (fun mv iv wr => wr = w ∧ ∃ (k : Nat) (m : Int), iv = .int .i64 k ∧ k ≤ 14 ∧ mv = .int .i64 m) (fun _ iv _ => 14 - (intOf iv).toNat)
    case atStart => exact ⟨rfl, 0, _, rfl, by omega, rfl⟩
    case round =>
      obtain ⟨rfl, k, m, rfl, hk, rfl⟩ := hrel
      by_cases hlt : k < 14
      · have hlt' : (k : Int) < 14 := by omega
        have i3 : IntKind.i64.wrap ((k : Int) + 1) = (k : Int) + 1 := IntWalk.i64_in _ (by omega)
        go_wp2_with fail
        exact ⟨⟨trivial, k + 1, _, by simp, by omega, rfl⟩, by simp [intOf] <;> omega⟩
      · have hlt' : ¬ (k : Int) < 14 := by omega
        go_wp2_with fail
        refine (rbytes_2 _ _).mono ?_
        rintro e w2 ⟨S, rfl, hS, ho⟩
        have HS := Lib.hid hS
        have HO := Lib.hid ho
        clear hS ho
        go_wp2_with fail
        go_ret2
        exact EncW.mk HS.out HO.out
  · simp only [h] at hcl
    clear h
    have hp2 : wrap64 (4) = 4 := by kernel_rfl
    go_enter Try.func124, Try.ntmps124
    go_wp2_with fail
    refine (hcl _).mono ?_
    rintro e w1 ⟨rfl, rfl⟩
    go_wp2_with fail
    go_loopw [6, 7] (fun mv iv wr => wr = w ∧ ∃ (k : Nat) (m : Int), iv = .int .i64 k ∧ k ≤ 30 ∧ mv = .int .i64 m) (fun _ iv _ => 30 - (intOf iv).toNat)
    case atStart => exact ⟨rfl, 0, _, rfl, by omega, rfl⟩
    case round =>
      obtain ⟨rfl, k, m, rfl, hk, rfl⟩ := hrel
      by_cases hlt : k < 30
      · have hlt' : (k : Int) < 30 := by omega
        have i3 : IntKind.i64.wrap ((k : Int) + 1) = (k : Int) + 1 := IntWalk.i64_in _ (by omega)
        go_wp2_with fail
        exact ⟨⟨trivial, k + 1, _, by simp, by omega, rfl⟩, by simp [intOf] <;> omega⟩
      · have hlt' : ¬ (k : Int) < 30 := by omega
        go_wp2_with fail
        refine (rbytes_4 _ _).mono ?_
        rintro e w2 ⟨S, rfl, hS, ho⟩
        have HS := Lib.hid hS
        have HO := Lib.hid ho
        clear hS ho
        go_wp2_with fail
        go_ret2
        exact EncW.mk HS.out HO.out
  · simp only [h] at hcl
    clear h
    have hp2 : wrap64 (8) = 8 := by kernel_rfl
    go_enter Try.func124, Try.ntmps124
    go_wp2_with fail
    refine (hcl _).mono ?_
    rintro e w1 ⟨rfl, rfl⟩
    go_wp2_with fail
    go_loopw [6, 7] (fun mv iv wr => wr = w ∧ ∃ (k : Nat) (m : Int), iv = .int .i64 k ∧ k ≤ 62 ∧ mv = .int .i64 m) (fun _ iv _ => 62 - (intOf iv).toNat)
    case atStart => exact ⟨rfl, 0, _, rfl, by omega, rfl⟩
    case round =>
      obtain ⟨rfl, k, m, rfl, hk, rfl⟩ := hrel
      by_cases hlt : k < 62
      · have hlt' : (k : Int) < 62 := by omega
        have i3 : IntKind.i64.wrap ((k : Int) + 1) = (k : Int) + 1 := IntWalk.i64_in _ (by omega)
        go_wp2_with fail
        exact ⟨⟨trivial, k + 1, _, by simp, by omega, rfl⟩, by simp [intOf] <;> omega⟩
      · have hlt' : ¬ (k : Int) < 62 := by omega
        go_wp2_with fail
        refine (rbytes_8 _ _).mono ?_
        rintro e w2 ⟨S, rfl, hS, ho⟩
        have HS := Lib.hid hS
        have HO := Lib.hid ho
        clear hS ho
        go_wp2_with fail
        go_ret2
        exact EncW.mk HS.out HO.out
set_option maxHeartbeats 1000000 in
theorem rv_w (n : Int) (w : World) : Calls Try.prog 96 #[.int .i64 n] w (StrQ 8 w) := by
  go_enter Try.func96, Try.ntmps96
  go_wp2_with fail
  refine (rencode_w n _).mono ?_
  rintro e w1 ⟨S, c, rfl, hS, ho⟩
  have HS := Lib.hid hS
  have HO := Lib.hid ho
  clear hS ho
  go_wp2_with fail
  go_ret
  exact StrQ.mk HS.out HO.out
theorem rflag_w (b : Bool) (w : World) : Calls Try.prog 98 #[.bool b] w (StrQ 8 w) := by
  cases b
  all_goals
    go_enter Try.func98, Try.ntmps98
    go_wp2_with fail
    go_ret
    exact StrQ.mk (by show 1 ≤ _; omega) (Only.refl _ _)
theorem rtext_w (s : ByteArray) (hs : s.size ≤ 1100) (w : World) : Calls Try.prog 97 #[.string s] w (StrQ 1108 w) := by
  go_enter Try.func97, Try.ntmps97
  go_wp2_with fail
  refine (rv_w _ _).mono ?_
  rintro e w1 ⟨S, rfl, hS, ho⟩
  have z1 : ¬ 9223372036854775807 < S.size + s.size := by omega
  have HS : Hid ((S ++ s).size ≤ 1108) := Lib.hid (by rw [ByteArray.size_append]; omega)
  have HO := Lib.hid ho
  clear hS ho
  go_wp2_with fail
  go_ret
  exact StrQ.mk HS.out HO.out
end Go.Proofs.Ytmmgmpghkpbgkaa
/- Contracts of the reference's reader: frame. -/
namespace Go.Proofs.Ytmmgmpghkpbgkaa
open Go Go.RowKit
set_option linter.unusedVariables false
set_option linter.unusedSimpArgs false

/-- What reading the parts of a frame leaves. -/
def FrmQ (s : ByteArray) (rb : Nat) (R : Fr × Option Nat) (w : World) (e : Ending) (w' : World) : Prop := ∃ rv, e = .returned (.agg (frC R.1 rv)) ∧ RgAt w' rv R.1.rg ∧ InI R.1.rg ∧ RgNew w.heap.size rv ∧ RdX w' rb s R.2 ∧ Only [rb] w w'
/-- What stands while a frame is read: the result's block, the frame's block, the reader. -/
structure FrmS (s : ByteArray) (rb : Nat) (w : World) (pr pf : Nat) (F : Fr) (rv : Value) (st : Option Nat) (wr : World) : Prop where
  fr : At wr pf 33 (frC F rv)
  res : At wr pr 33 (frC (Fr.zero 0) (.slice none 0 0))
  rd : RdX wr rb s st
  ho : Only [rb] w wr
  h1 : w.heap.size ≤ pf
  h2 : w.heap.size ≤ pr
  h3 : pr ≠ pf
  h4 : rb < w.heap.size
theorem FrmS.start {s : ByteArray} {rb : Nat} {w : World} {st : Option Nat} (F : Fr) (hX : RdX w rb s st) : FrmS s rb w w.heap.size (w.heap.size + 1) F (.slice none 0 0) st ((w.alloc (.cells (frC (Fr.zero 0) (.slice none 0 0)) 33)).alloc (.cells (frC F (.slice none 0 0)) 33)) := by
  have h := At.new (w.alloc (.cells (frC (Fr.zero 0) (.slice none 0 0)) 33)) 33 (frC F (.slice none 0 0))
  simp only [World.size_alloc] at h
  exact ⟨h, (At.new _ _ _).alloc _, (hX.alloc _).alloc _, ((Only.refl _ _).alloc _).alloc _, by omega, Nat.le_refl _, by omega, hX.lt⟩
theorem FrmS.call {s : ByteArray} {rb : Nat} {w : World} {pr pf : Nat} {F : Fr} {rv : Value} {st st' : Option Nat} {wr w' : World} (h : FrmS s rb w pr pf F rv st wr) (ho : Only [rb] wr w') (hX : RdX w' rb s st') : FrmS s rb w pr pf F rv st' w' := by
  have := h.h1; have := h.h2; have := h.h4
  exact ⟨h.fr.keep ho (by simp; omega), h.res.keep ho (by simp; omega), hX, h.ho.trans ho, h.h1, h.h2, h.h3, h.h4⟩
theorem FrmS.store {s : ByteArray} {rb : Nat} {w : World} {pr pf : Nat} {F F' : Fr} {rv rv' : Value} {st : Option Nat} {wr : World} (h : FrmS s rb w pr pf F rv st wr) (j : Nat) (v : Value) (e : (frC F rv).setIfInBounds j v = frC F' rv') : FrmS s rb w pr pf F' rv' st (wr.setCell ⟨pf, j, none⟩ v) := by
  have := h.h1; have := h.h2; have := h.h4; have := h.h3
  exact ⟨h.fr.set j v e, h.res.far (by simpa using h.h3) v, h.rd.far (by show rb ≠ pf; omega) v, h.ho.putn h.h1 v, h.h1, h.h2, h.h3, h.h4⟩
theorem FrmS.free {s : ByteArray} {rb : Nat} {w : World} {pr pf : Nat} {F : Fr} {rv : Value} {st : Option Nat} {wr : World} (h : FrmS s rb w pr pf F rv st wr) (j : Nat) : wr.frozen? ⟨pf, j, none⟩ = false := h.fr.free j
theorem FrmS.zs {s : ByteArray} {rb : Nat} {w : World} {pr pf : Nat} {F : Fr} {rv : Value} {st : Option Nat} {wr : World} (h : FrmS s rb w pr pf F rv st wr) :
    (wr.cell? ⟨pr, 0, none⟩ = some (.int .i64 0) ∧ wr.cell? ⟨pr, 1, none⟩ = some (.int .i64 0) ∧ wr.cell? ⟨pr, 2, none⟩ = some (.int .i64 0) ∧ wr.cell? ⟨pr, 3, none⟩ = some (.string ⟨#[]⟩) ∧ wr.cell? ⟨pr, 4, none⟩ = some (.bool false) ∧ wr.cell? ⟨pr, 5, none⟩ = some (.int .i64 0) ∧ wr.cell? ⟨pr, 6, none⟩ = some (.int .i64 0) ∧ wr.cell? ⟨pr, 7, none⟩ = some (.bool false) ∧ wr.cell? ⟨pr, 8, none⟩ = some (.int .i64 0) ∧ wr.cell? ⟨pr, 9, none⟩ = some (.slice none 0 0) ∧ wr.cell? ⟨pr, 10, none⟩ = some (.int .i64 0) ∧ wr.cell? ⟨pr, 11, none⟩ = some (.int .i64 0) ∧ wr.cell? ⟨pr, 12, none⟩ = some (.string ⟨#[]⟩)) ∧ ∀ i, wr.frozen? ⟨pr, i, none⟩ = false :=
  ⟨h.res.c13, fun i => h.res.free i⟩
theorem FrmS.same {s : ByteArray} {rb : Nat} {w : World} {pr pf : Nat} {F : Fr} {rv : Value} {st : Option Nat} {wr : World} (h : FrmS s rb w pr pf F rv st wr) {F' : Fr} (e : F = F') : FrmS s rb w pr pf F' rv st wr := e ▸ h
/-- The frame as it is handed over: thirteen stores into the result's block. -/
def handed (wr : World) (pr : Nat) (F : Fr) (rv : Value) : World := ((((((((((((wr.setCell ⟨pr, 0, none⟩ (.int .i64 F.ty)).setCell ⟨pr, 1, none⟩ (.int .i64 F.st)).setCell ⟨pr, 2, none⟩ (.int .i64 F.off)).setCell ⟨pr, 3, none⟩ (.string (strB F.S))).setCell ⟨pr, 4, none⟩ (.bool F.fin)).setCell ⟨pr, 5, none⟩ (.int .i64 F.mx)).setCell ⟨pr, 6, none⟩ (.int .i64 F.cd)).setCell ⟨pr, 7, none⟩ (.bool F.uni)).setCell ⟨pr, 8, none⟩ (.int .i64 F.dl)).setCell ⟨pr, 9, none⟩ (rv)).setCell ⟨pr, 10, none⟩ (.int .i64 F.sq)).setCell ⟨pr, 11, none⟩ (.int .i64 F.rt)).setCell ⟨pr, 12, none⟩ (.string (strB F.cid))
theorem handed_only (wr : World) (pr : Nat) (F : Fr) (rv : Value) {S : List Nat} (h : pr ∈ S) : Only S wr (handed wr pr F rv) := by
  unfold handed
  exact ((((((((((((((Only.refl S wr).put h _).put h _).put h _).put h _).put h _).put h _).put h _).put h _).put h _).put h _).put h _).put h _).put h _)
theorem FrmS.hand {s : ByteArray} {rb : Nat} {w : World} {pr pf : Nat} {F : Fr} {rv : Value} {st : Option Nat} {wr : World} (h : FrmS s rb w pr pf F rv st wr) : At (handed wr pr F rv) pr 33 (frC F rv) ∧ RdX (handed wr pr F rv) rb s st ∧ Only [rb] w (handed wr pr F rv) := by
  have := h.h1; have := h.h2; have := h.h4; have := h.h3
  refine ⟨?_, ?_, ?_⟩
  · unfold handed
    have h0 := h.res
    have h1 := h0.set 0 (.int .i64 F.ty) (cs' := #[.int .i64 F.ty, .int .i64 0, .int .i64 0, .string (strB []), .bool false, .int .i64 0, .int .i64 0, .bool false, .int .i64 0, .slice none 0 0, .int .i64 0, .int .i64 0, .string (strB [])]) rfl
    have h2 := h1.set 1 (.int .i64 F.st) (cs' := #[.int .i64 F.ty, .int .i64 F.st, .int .i64 0, .string (strB []), .bool false, .int .i64 0, .int .i64 0, .bool false, .int .i64 0, .slice none 0 0, .int .i64 0, .int .i64 0, .string (strB [])]) rfl
    have h3 := h2.set 2 (.int .i64 F.off) (cs' := #[.int .i64 F.ty, .int .i64 F.st, .int .i64 F.off, .string (strB []), .bool false, .int .i64 0, .int .i64 0, .bool false, .int .i64 0, .slice none 0 0, .int .i64 0, .int .i64 0, .string (strB [])]) rfl
    have h4 := h3.set 3 (.string (strB F.S)) (cs' := #[.int .i64 F.ty, .int .i64 F.st, .int .i64 F.off, .string (strB F.S), .bool false, .int .i64 0, .int .i64 0, .bool false, .int .i64 0, .slice none 0 0, .int .i64 0, .int .i64 0, .string (strB [])]) rfl
    have h5 := h4.set 4 (.bool F.fin) (cs' := #[.int .i64 F.ty, .int .i64 F.st, .int .i64 F.off, .string (strB F.S), .bool F.fin, .int .i64 0, .int .i64 0, .bool false, .int .i64 0, .slice none 0 0, .int .i64 0, .int .i64 0, .string (strB [])]) rfl
    have h6 := h5.set 5 (.int .i64 F.mx) (cs' := #[.int .i64 F.ty, .int .i64 F.st, .int .i64 F.off, .string (strB F.S), .bool F.fin, .int .i64 F.mx, .int .i64 0, .bool false, .int .i64 0, .slice none 0 0, .int .i64 0, .int .i64 0, .string (strB [])]) rfl
    have h7 := h6.set 6 (.int .i64 F.cd) (cs' := #[.int .i64 F.ty, .int .i64 F.st, .int .i64 F.off, .string (strB F.S), .bool F.fin, .int .i64 F.mx, .int .i64 F.cd, .bool false, .int .i64 0, .slice none 0 0, .int .i64 0, .int .i64 0, .string (strB [])]) rfl
    have h8 := h7.set 7 (.bool F.uni) (cs' := #[.int .i64 F.ty, .int .i64 F.st, .int .i64 F.off, .string (strB F.S), .bool F.fin, .int .i64 F.mx, .int .i64 F.cd, .bool F.uni, .int .i64 0, .slice none 0 0, .int .i64 0, .int .i64 0, .string (strB [])]) rfl
    have h9 := h8.set 8 (.int .i64 F.dl) (cs' := #[.int .i64 F.ty, .int .i64 F.st, .int .i64 F.off, .string (strB F.S), .bool F.fin, .int .i64 F.mx, .int .i64 F.cd, .bool F.uni, .int .i64 F.dl, .slice none 0 0, .int .i64 0, .int .i64 0, .string (strB [])]) rfl
    have h10 := h9.set 9 (rv) (cs' := #[.int .i64 F.ty, .int .i64 F.st, .int .i64 F.off, .string (strB F.S), .bool F.fin, .int .i64 F.mx, .int .i64 F.cd, .bool F.uni, .int .i64 F.dl, rv, .int .i64 0, .int .i64 0, .string (strB [])]) rfl
    have h11 := h10.set 10 (.int .i64 F.sq) (cs' := #[.int .i64 F.ty, .int .i64 F.st, .int .i64 F.off, .string (strB F.S), .bool F.fin, .int .i64 F.mx, .int .i64 F.cd, .bool F.uni, .int .i64 F.dl, rv, .int .i64 F.sq, .int .i64 0, .string (strB [])]) rfl
    have h12 := h11.set 11 (.int .i64 F.rt) (cs' := #[.int .i64 F.ty, .int .i64 F.st, .int .i64 F.off, .string (strB F.S), .bool F.fin, .int .i64 F.mx, .int .i64 F.cd, .bool F.uni, .int .i64 F.dl, rv, .int .i64 F.sq, .int .i64 F.rt, .string (strB [])]) rfl
    have h13 := h12.set 12 (.string (strB F.cid)) (cs' := #[.int .i64 F.ty, .int .i64 F.st, .int .i64 F.off, .string (strB F.S), .bool F.fin, .int .i64 F.mx, .int .i64 F.cd, .bool F.uni, .int .i64 F.dl, rv, .int .i64 F.sq, .int .i64 F.rt, .string (strB F.cid)]) rfl
    exact h13
  · exact h.rd.keep (handed_only wr pr F rv (S := [pr]) (by simp)) (by simp; omega)
  · have h0 := h.ho
    unfold handed
    exact (((((((((((((h0.putn h.h2 _).putn h.h2 _).putn h.h2 _).putn h.h2 _).putn h.h2 _).putn h.h2 _).putn h.h2 _).putn h.h2 _).putn h.h2 _).putn h.h2 _).putn h.h2 _).putn h.h2 _).putn h.h2 _)
theorem RdX.bad {w : World} {b : Nat} {s : ByteArray} {st : Option Nat} (h : RdX w b s st) : RdX (w.setCell ⟨b, 2, none⟩ (.bool true)) b s none := by
  obtain ⟨a, h1, h2, h3⟩ := h; exact ⟨a, h1, h2.set 2 _ rfl, fun c h => by cases h⟩
theorem RdX.good {w : World} {b : Nat} {s : ByteArray} {c : Nat} (h : RdX w b s (some c)) : RdX (w.setCell ⟨b, 2, none⟩ (.bool false)) b s (some c) := by
  obtain ⟨a, h1, h2, h3⟩ := h; exact ⟨a, h1, h2.set 2 _ rfl, h3⟩
theorem RdX.c2 {w : World} {b : Nat} {s : ByteArray} {st : Option Nat} (h : RdX w b s st) : w.cell? ⟨b, 2, none⟩ = some (.bool st.isNone) ∧ w.frozen? ⟨b, 2, none⟩ = false := by
  obtain ⟨a, h1, h2, h3⟩ := h; exact ⟨h2.cell 2 rfl, h2.free 2⟩
theorem FrmS.rdput {s : ByteArray} {rb : Nat} {w : World} {pr pf : Nat} {F : Fr} {rv : Value} {st st' : Option Nat} {wr : World} (h : FrmS s rb w pr pf F rv st wr) (v : Value) (hX : RdX (wr.setCell ⟨rb, 2, none⟩ v) rb s st') : FrmS s rb w pr pf F rv st' (wr.setCell ⟨rb, 2, none⟩ v) := by
  have := h.h1; have := h.h2; have := h.h4
  exact ⟨h.fr.far (by show pf ≠ rb; omega) v, h.res.far (by show pr ≠ rb; omega) v, hX, h.ho.put (by simp) v, h.h1, h.h2, h.h3, h.h4⟩
theorem gtr_0 (w : World) : (binOp .gtr 9 (.string (strB [])) (.string ⟨#[1]⟩)).run Try.prog w = .ok (.bool false) w := by kernel_rfl
theorem eql_0 : ((strB []).toList == [1]) = false := by rw [ByteArray.toList_eq]; rfl
theorem uni_facts (s : List UInt8) (st : Option Nat) (b : List UInt8) (q : Option Nat) (x : Bool) (z : Option Nat) (e1 : (tR s 1 st).1 = b) (e2 : (tR s 1 st).2 = q) (e3 : (uR s st).1 = x) (e4 : (uR s st).2 = z) :
    x = decide (b = [1]) ∧ ((b = [] ∨ b = [0] ∨ b = [1]) ∧ z = q ∨ (∃ u : UInt8, b = [u] ∧ 1 < u.toNat ∧ z = none ∧ q ≠ none)) := by
  subst e1 e2 e3 e4
  refine ⟨rfl, ?_⟩
  unfold uR
  simp only
  by_cases h : (tR s 1 st).1 = [] ∨ (tR s 1 st).1 = [0] ∨ (tR s 1 st).1 = [1]
  · left; rw [if_pos h]; exact ⟨h, rfl⟩
  · right
    rw [if_neg h]
    cases st with
    | none => exact absurd (.inl rfl) h
    | some a =>
      simp only [tR] at h ⊢
      by_cases c : (s.length : Int) - a < 1
      · rw [if_pos c] at h; exact absurd (.inl rfl) h
      · rw [if_neg c] at h ⊢
        simp only [show (1 : Int).toNat = 1 from rfl] at h ⊢
        cases hd : s.drop a with
        | nil => rw [hd] at h; exact absurd (.inl rfl) h
        | cons u r =>
          rw [hd] at h
          simp only [List.take_succ_cons, List.take_zero, List.cons.injEq, and_true, reduceCtorEq, false_or, not_or] at h
          refine ⟨u, rfl, ?_, by first | rfl | trivial, by simp⟩
          have h0 : u.toNat ≠ 0 := fun e => h.1 (UInt8.toNat_inj.1 (by rw [e]; rfl))
          have h1 : u.toNat ≠ 1 := fun e => h.2 (UInt8.toNat_inj.1 (by rw [e]; rfl))
          omega
theorem uni_ops (b : List UInt8) (q : Option Nat) (x : Bool) (z : Option Nat) (hux : x = decide (b = [1])) (hU : (b = [] ∨ b = [0] ∨ b = [1]) ∧ z = q ∨ (∃ u : UInt8, b = [u] ∧ 1 < u.toNat ∧ z = none ∧ q ≠ none)) :
    ((strB b).toList == [1]) = x ∧ ∃ g : Bool, (∀ w, (binOp .gtr 9 (.string (strB b)) (.string ⟨#[1]⟩)).run Try.prog w = .ok (.bool g) w) ∧
      ((q = none ∧ z = none) ∨ (∃ c, q = some c ∧ g = true ∧ z = none) ∨ (∃ c, q = some c ∧ g = false ∧ z = some c)) := by
  have hz : ∀ g : Bool, g = false → z = q → ((q = none ∧ z = none) ∨ (∃ c, q = some c ∧ g = true ∧ z = none) ∨ (∃ c, q = some c ∧ g = false ∧ z = some c)) := fun g hg e => by
    cases q with
    | none => exact .inl ⟨rfl, e⟩
    | some c => exact .inr (.inr ⟨c, rfl, hg, e⟩)
  rcases hU with ⟨rfl | rfl | rfl, h⟩ | ⟨u, rfl, hu, h, hq⟩
  · exact ⟨by rw [hux]; exact eql_0, false, gtr_0, hz _ rfl h⟩
  · exact ⟨by rw [hux]; exact eq_one 0, false, gtr_c 0, hz _ rfl h⟩
  · exact ⟨by rw [hux]; exact eq_one 1, false, gtr_c 1, hz _ rfl h⟩
  · refine ⟨?_, true, fun w => ?_, ?_⟩
    · rw [hux, eq_one u]
      have h1 : decide (u.toNat = 1) = false := decide_eq_false (by omega)
      have h2 : decide ([u] = [(1 : UInt8)]) = false := decide_eq_false (fun e => by
        have h3 : u = 1 := (List.cons.inj e).1
        rw [h3] at hu
        exact absurd hu (by decide))
      rw [h1, h2]
    · rw [gtr_c u w, decide_eq_true hu]
    · cases q with
      | none => exact absurd rfl hq
      | some c => exact .inr (.inl ⟨c, rfl, rfl, h⟩)
end Go.Proofs.Ytmmgmpghkpbgkaa
