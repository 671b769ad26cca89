/- Contracts of package varint: class, read, Decode. -/
import Derived.Test.YtgiekhohhogdiaaDoorBas
import Derived.Test.YtgiekhohhogdiaaDoorRfA
import Derived.Laws.Bits64b
import Derived.BigQuiet
import Derived.RangeFuncNested
import Derived.RangeFuncBound
import Derived.RangeFuncCalls
import Derived.RangeFuncLeaves
import Derived.RangeFuncBox
import Derived.Shelf.Abstract
import Derived.Shelf.RegionOpen
import Derived.WalkKit
import Derived.OwnWalkIn
import Derived.TacticsInMore
import Derived.LoopNIn
import Derived.LoopIn
import Derived.Maps.AppendAt
import Derived.Laws.BytesArg
namespace Go.Proofs.YtgiekhohhogdiaaDoor
open Go Go.RowKit
set_option linter.unusedVariables false
set_option linter.unusedSimpArgs false

def limC : Array Value := #[.int .i64 63, .int .i64 16383, .int .i64 1073741823, .int .i64 4611686018427387903]
theorem idx_0 (w : World) : (Instr.index 139 (.agg #[.int .i64 63, .int .i64 16383, .int .i64 1073741823, .int .i64 4611686018427387903]) (.int .i64 0)).run Tryd.prog w = .ok (.int .i64 63) w := by kernel_rfl
theorem idx_1 (w : World) : (Instr.index 139 (.agg #[.int .i64 63, .int .i64 16383, .int .i64 1073741823, .int .i64 4611686018427387903]) (.int .i64 1)).run Tryd.prog w = .ok (.int .i64 16383) w := by kernel_rfl
theorem idx_2 (w : World) : (Instr.index 139 (.agg #[.int .i64 63, .int .i64 16383, .int .i64 1073741823, .int .i64 4611686018427387903]) (.int .i64 2)).run Tryd.prog w = .ok (.int .i64 1073741823) w := by kernel_rfl
theorem idx_3 (w : World) : (Instr.index 139 (.agg #[.int .i64 63, .int .i64 16383, .int .i64 1073741823, .int .i64 4611686018427387903]) (.int .i64 3)).run Tryd.prog w = .ok (.int .i64 4611686018427387903) w := by kernel_rfl
set_option maxRecDepth 100000 in
set_option maxHeartbeats 1000000 in
theorem class_c (n : Int) (w : World) : Calls Tryd.prog 82 #[.int .i64 n] w fun e w' => e = .returned (.int .i64 (vCls n)) ∧ Only [] w w' := by
  have i0 := idx_0
  have i1 := idx_1
  have i2 := idx_2
  have i3 := idx_3
  by_cases h0 : n < 0
  · have hv : (-1 : Int) = vCls n := by unfold vCls; rw [if_pos h0]
    have HV := Lib.hid hv
    clear hv
    go_enter Tryd.func82, Tryd.ntmps82
    go_wp2_with fail
    go_ret
    exact ⟨ret_int HV.out, (Only.refl _ _).alloc _⟩
  by_cases h1 : n ≤ 63
  · have hv : (0 : Int) = vCls n := by unfold vCls; rw [if_neg h0, if_pos h1]
    have HV := Lib.hid hv
    clear hv
    go_enter Tryd.func82, Tryd.ntmps82
    go_wp2_with fail
    refine wp_loop_rounds 6 ?_
    rw [rounds_succ]
    go_wp2_with fail
    go_ret
    exact ⟨ret_int HV.out, (Only.refl _ _).alloc _⟩
  by_cases h2 : n ≤ 16383
  · have hv : (1 : Int) = vCls n := by unfold vCls; rw [if_neg h0, if_neg h1, if_pos h2]
    have HV := Lib.hid hv
    clear hv
    go_enter Tryd.func82, Tryd.ntmps82
    go_wp2_with fail
    refine wp_loop_rounds 6 ?_
    rw [rounds_succ]
    go_wp2_with fail
    rw [rounds_succ]
    go_wp2_with fail
    go_ret
    exact ⟨ret_int HV.out, (Only.refl _ _).alloc _⟩
  by_cases h3 : n ≤ 1073741823
  · have hv : (2 : Int) = vCls n := by unfold vCls; rw [if_neg h0, if_neg h1, if_neg h2, if_pos h3]
    have HV := Lib.hid hv
    clear hv
    go_enter Tryd.func82, Tryd.ntmps82
    go_wp2_with fail
    refine wp_loop_rounds 6 ?_
    rw [rounds_succ]
    go_wp2_with fail
    rw [rounds_succ]
    go_wp2_with fail
    rw [rounds_succ]
    go_wp2_with fail
    go_ret
    exact ⟨ret_int HV.out, (Only.refl _ _).alloc _⟩
  by_cases h4 : n ≤ 4611686018427387903
  · have hv : (3 : Int) = vCls n := by unfold vCls; rw [if_neg h0, if_neg h1, if_neg h2, if_neg h3, if_pos h4]
    have HV := Lib.hid hv
    clear hv
    go_enter Tryd.func82, Tryd.ntmps82
    go_wp2_with fail
    refine wp_loop_rounds 6 ?_
    rw [rounds_succ]
    go_wp2_with fail
    rw [rounds_succ]
    go_wp2_with fail
    rw [rounds_succ]
    go_wp2_with fail
    rw [rounds_succ]
    go_wp2_with fail
    go_ret
    exact ⟨ret_int HV.out, (Only.refl _ _).alloc _⟩
  have hv : (-1 : Int) = vCls n := by unfold vCls; rw [if_neg h0, if_neg h1, if_neg h2, if_neg h3, if_neg h4]
  have HV := Lib.hid hv
  clear hv
  go_enter Tryd.func82, Tryd.ntmps82
  go_wp2_with fail
  refine wp_loop_rounds 6 ?_
  rw [rounds_succ]
  go_wp2_with fail
  rw [rounds_succ]
  go_wp2_with fail
  rw [rounds_succ]
  go_wp2_with fail
  rw [rounds_succ]
  go_wp2_with fail
  rw [rounds_succ]
  go_wp2_with fail
  go_ret
  exact ⟨ret_int HV.out, (Only.refl _ _).alloc _⟩
/-- The number of the first k bytes from a on. -/
def rdK (s : ByteArray) (a k : Nat) : Nat := rdB ((s.data.toList.drop a).take k)
theorem size_list (s : ByteArray) : s.data.toList.length = s.size := by simp
theorem get_list (s : ByteArray) (i : Nat) (h : i < s.size) : s[i] = s.data.toList[i]'(by rw [size_list]; exact h) := by
  simp [ByteArray.getElem_eq_getElem_data]
theorem rdK_succ (s : ByteArray) (a k : Nat) (h : a + k < s.size) : rdK s a (k + 1) = rdK s a k * 256 + (s[a + k]).toNat := by
  unfold rdK
  have hl := size_list s
  rw [List.take_add_one, List.getElem?_drop, List.getElem?_eq_getElem (by omega)]
  simp only [Option.toList]
  rw [rdB_snoc, get_list s (a + k) h]
theorem rdK_lt (s : ByteArray) (a k : Nat) : rdK s a k < 256 ^ k := by
  have h := rdB_lt ((s.data.toList.drop a).take k)
  have h2 : ((s.data.toList.drop a).take k).length ≤ k := by simp; omega
  exact Nat.lt_of_lt_of_le h (Nat.pow_le_pow_right (by omega) h2)
theorem or_byte (m : Nat) (x : UInt8) (k : Nat) (hm : m < 256 ^ k) (hk : k ≤ 7) : bits .or .u64 (IntKind.u64.wrap ((m : Int) * 256)) (IntKind.u64.wrap ((x.toNat : Nat) : Int)) = ((m * 256 + x.toNat : Nat) : Int) := by
  have hx := x.toNat_lt
  have h7 : 256 ^ k ≤ 256 ^ 7 := Nat.pow_le_pow_right (by omega) hk
  have e7 : (256 : Nat) ^ 7 = 72057594037927936 := by decide
  have e1 : IntKind.u64.wrap ((m : Int) * 256) = ((m * 256 : Nat) : Int) := by rw [IntKind.wrap_u64]; omega
  have e2 : IntKind.u64.wrap ((x.toNat : Nat) : Int) = ((x.toNat : Nat) : Int) := by rw [IntKind.wrap_u64]; omega
  rw [e1, e2, bits_or_u64_nat _ _ (by omega) (by omega)]
  have := Nat.two_pow_add_eq_or_of_lt (i := 8) (b := x.toNat) (by omega) m
  rw [show m * 256 = 2 ^ 8 * m by omega, ← this]
set_option maxRecDepth 100000 in
set_option maxHeartbeats 1000000 in
theorem vread_c (s : ByteArray) (a wd : Nat) (h : a + wd ≤ s.size) (hw : wd ≤ 8) (hs : s.size ≤ 9223372036854775807) (w : World) : Calls Tryd.prog 85 #[.string s, .int .i64 a, .int .i64 wd] w fun e w' => e = .returned (.int .u64 (rdK s a wd)) ∧ w = w' := by
  go_enter Tryd.func85, Tryd.ntmps85
  go_wp2_with fail
  go_loopw [7, 10] (fun n i wr => wr = w ∧ ∃ k : Nat, k ≤ wd ∧ i = .int .i64 k ∧ n = .int .u64 (rdK s a k)) (fun _ i _ => wd - (intOf i).toNat)
  case atStart => exact ⟨rfl, 0, by omega, rfl, rfl⟩
  case round =>
    obtain ⟨rfl, k, hk, rfl, rfl⟩ := hrel
    by_cases hl : k < wd
    · have hl' : (k : Int) < wd := by omega
      have f1 : IntKind.i64.wrap ((k : Int) + 1) = k + 1 := IntWalk.i64_in _ (by omega)
      have f2 : IntKind.i64.wrap ((a : Int) + k) = a + k := IntWalk.i64_in _ (by omega)
      have f3 : (a : Int) + k < s.size := by omega
      have hor := or_byte (rdK s a k) (s[a + k]'(by omega)) k (rdK_lt s a k) (by omega)
      have hsc := rdK_succ s a k (by omega)
      go_wp2_with fail
      exact ⟨⟨trivial, k + 1, by omega, by simp, by rw [hsc]; simp⟩, by simp [intOf]; omega⟩
    · have hl' : ¬ (k : Int) < wd := by omega
      obtain rfl : k = wd := by omega
      go_wp2_with fail
      go_ret
      exact ⟨rfl, rfl⟩
theorem vDec_at (s : ByteArray) (a : Nat) (h : a < s.size) (c : Nat) (hc : (s[a]).toNat / 64 = c) : vDec (s.data.toList.drop a) = if s.size - a < vWid c then none else
    if vCls ((rdK s a (vWid c) % vTop c : Nat) : Int) = c then some (((rdK s a (vWid c) % vTop c : Nat) : Int), vWid c) else none := by
  have hl := size_list s
  unfold rdK
  rw [List.drop_eq_getElem_cons (by omega)]
  simp only [vDec]
  rw [← get_list s a h, hc, List.length_drop, hl, show s.size - (a + 1) + 1 = s.size - a by omega]
theorem and_mask (m t k : Nat) (ht : t = 2 ^ k) (hk : k ≤ 63) (hm : m < 18446744073709551616) : bits .and .u64 ((m : Nat) : Int) ((t : Int) - 1) = ((m % t : Nat) : Int) := by
  have h1 : 1 ≤ t := by rw [ht]; exact Nat.one_le_two_pow
  have h2 : t ≤ 2 ^ 63 := by rw [ht]; exact Nat.pow_le_pow_right (by omega) hk
  have e : (t : Int) - 1 = ((t - 1 : Nat) : Int) := by omega
  rw [e, bits_and_u64_nat _ _ hm (by omega), ht, Nat.and_two_pow_sub_one_eq_mod]
def DecPost (s : ByteArray) (a : Nat) (e : Ending) : Prop := match vDec (s.data.toList.drop a) with
  | some (n, k) => e = .returned (.tuple #[.int .i64 n, .int .i64 ((a + k : Nat) : Int), .int .i64 0])
  | none => ∃ c : Int, c ≠ 0 ∧ e = .returned (.tuple #[.int .i64 0, .int .i64 0, .int .i64 c])
set_option maxRecDepth 100000 in
set_option maxHeartbeats 4000000 in
theorem vdecode_c (s : ByteArray) (a : Nat) (ha : a ≤ s.size) (hs : s.size ≤ 4611686018427387903) (w : World) : Calls Tryd.prog 81 #[.string s, .int .i64 a] w fun e w' => DecPost s a e ∧ Only [] w w' := by
  by_cases h0 : a = s.size
  · have hD : DecPost s a (.returned (.tuple #[.int .i64 0, .int .i64 0, .int .i64 11])) := by
      unfold DecPost
      rw [List.drop_eq_nil_of_le (by rw [size_list]; omega)]
      exact ⟨11, by decide, rfl⟩
    have h0' : (a : Int) = s.size := by omega
    have HD := Lib.hid hD
    clear hD
    go_enter Tryd.func81, Tryd.ntmps81
    go_wp2_with fail
    go_ret3
    exact ⟨HD.out, Only.refl _ _⟩
  · have h1 : a < s.size := by omega
    obtain ⟨x, hx⟩ : ∃ x : UInt8, s[a] = x := ⟨_, rfl⟩
    have hx4 := x.toNat_lt
    obtain ⟨c, hc⟩ : ∃ c, x.toNat / 64 = c := ⟨_, rfl⟩
    have hd := vDec_at s a h1 c (by rw [hx, hc])
    have hc3 : c = 0 ∨ c = 1 ∨ c = 2 ∨ c = 3 := by omega
    rcases hc3 with rfl | rfl | rfl | rfl
    · have hd : vDec (s.data.toList.drop a) = if s.size - a < 1 then none else if vCls ((rdK s a 1 % 64 : Nat) : Int) = (0 : Nat) then some (((rdK s a 1 % 64 : Nat) : Int), 1) else none := hd
      have hcI : (x.toNat : Int) / 64 = 0 := by omega
      have hp2 : wrap64 (1) = 1 := by kernel_rfl
      have h0' : ¬ (a : Int) = s.size := by omega
      have h1' : (a : Int) < s.size := by omega
      have hb : ((a : Int) == s.size) = false := beq_eq_false_iff_ne.2 h0'
      have f1 : IntKind.i64.wrap ((s.size : Int) - a) = (s.size : Int) - a := IntWalk.i64_in _ (by omega)
      by_cases hw : s.size - a < 1
      · exfalso; omega
      · have hw' : ¬ (s.size : Int) - a < 1 := by omega
        obtain ⟨m, hm⟩ : ∃ m, rdK s a 1 = m := ⟨_, rfl⟩
        have hml : m < 256 ^ 1 := by rw [← hm]; exact rdK_lt s a 1
        have hcall := fun ww => vread_c s a 1 (by omega) (by omega) (by omega) ww
        have hmask : bits .and .u64 ((m : Nat) : Int) 63 = ((m % 64 : Nat) : Int) := and_mask m 64 6 (by decide) (by omega) (by omega)
        rw [hm] at hd
        simp only [hm] at hcall
        obtain ⟨v, hv⟩ : ∃ v : Nat, m % 64 = v := ⟨_, rfl⟩
        have hvl : v < 64 := by omega
        rw [hv] at hd hmask
        have f2 : IntKind.i64.wrap ((a : Int) + 1) = (a : Int) + 1 := IntWalk.i64_in _ (by omega)
        have f3 : IntKind.i64.wrap (v : Int) = (v : Int) := IntWalk.i64_in _ (by omega)
        have f4 : wrap64 (v : Int) = (v : Int) := IntWalk.wrap64_in _ (by omega)
        have hcl := fun ww => class_c v ww
        by_cases hk : vCls (v : Int) = 0
        · have hD : DecPost s a (.returned (.tuple #[.int .i64 v, .int .i64 ((a : Int) + 1), .int .i64 0])) := by
            unfold DecPost
            rw [hd, if_neg hw, if_pos (by rw [hk]; rfl)]
            simp
          simp only [hk] at hcl
          clear hk
          have HD := Lib.hid hD
          clear hD hd hv hm hml hc
          go_enter Tryd.func81, Tryd.ntmps81
          go_wp2_with fail
          go_quiet (first | (go_at_call 85; refine Calls.quiet_of_same ((hcall _).mono fun _ _ h => ⟨h.1, h.2.symm⟩)))
          go_wp2_with fail
          refine (hcl _).mono ?_
          rintro e w2 ⟨rfl, ho⟩
          have HO := Lib.hid (Only.trans ((Only.refl [] w).drewN _) ho)
          clear ho
          go_wp2_with fail
          go_ret3
          exact ⟨HD.out, HO.out⟩
        · have hD : DecPost s a (.returned (.tuple #[.int .i64 0, .int .i64 0, .int .i64 10])) := by
            unfold DecPost
            rw [hd, if_neg hw, if_neg (fun e => hk (by rw [e]; rfl))]
            exact ⟨10, by decide, rfl⟩
          have hk2 : (vCls (v : Int) == 0) = false := beq_eq_false_iff_ne.2 hk
          have hk3 : (vCls (v : Int) != 0) = true := by simp only [bne, hk2, Bool.not_false]
          have HD := Lib.hid hD
          clear hD hd hv hm hml hc
          go_enter Tryd.func81, Tryd.ntmps81
          go_wp2_with fail
          go_quiet (first | (go_at_call 85; refine Calls.quiet_of_same ((hcall _).mono fun _ _ h => ⟨h.1, h.2.symm⟩)))
          go_wp2_with fail
          refine (hcl _).mono ?_
          rintro e w2 ⟨rfl, ho⟩
          have HO := Lib.hid (Only.trans ((Only.refl [] w).drewN _) ho)
          clear ho
          go_wp2_with fail
          go_ret3
          exact ⟨HD.out, HO.out⟩
    · have hd : vDec (s.data.toList.drop a) = if s.size - a < 2 then none else if vCls ((rdK s a 2 % 16384 : Nat) : Int) = (1 : Nat) then some (((rdK s a 2 % 16384 : Nat) : Int), 2) else none := hd
      have hcI : (x.toNat : Int) / 64 = 1 := by omega
      have hp2 : wrap64 (2) = 2 := by kernel_rfl
      have h0' : ¬ (a : Int) = s.size := by omega
      have h1' : (a : Int) < s.size := by omega
      have hb : ((a : Int) == s.size) = false := beq_eq_false_iff_ne.2 h0'
      have f1 : IntKind.i64.wrap ((s.size : Int) - a) = (s.size : Int) - a := IntWalk.i64_in _ (by omega)
      by_cases hw : s.size - a < 2
      · have hD : DecPost s a (.returned (.tuple #[.int .i64 0, .int .i64 0, .int .i64 11])) := by
          unfold DecPost
          rw [hd, if_pos hw]
          exact ⟨11, by decide, rfl⟩
        have HD := Lib.hid hD
        have hw' : (s.size : Int) - a < 2 := by omega
        clear hD hd
        go_enter Tryd.func81, Tryd.ntmps81
        go_wp2_with fail
        go_ret3
        exact ⟨HD.out, Only.refl _ _⟩
      · have hw' : ¬ (s.size : Int) - a < 2 := by omega
        obtain ⟨m, hm⟩ : ∃ m, rdK s a 2 = m := ⟨_, rfl⟩
        have hml : m < 256 ^ 2 := by rw [← hm]; exact rdK_lt s a 2
        have hcall := fun ww => vread_c s a 2 (by omega) (by omega) (by omega) ww
        have hmask : bits .and .u64 ((m : Nat) : Int) 16383 = ((m % 16384 : Nat) : Int) := and_mask m 16384 14 (by decide) (by omega) (by omega)
        rw [hm] at hd
        simp only [hm] at hcall
        obtain ⟨v, hv⟩ : ∃ v : Nat, m % 16384 = v := ⟨_, rfl⟩
        have hvl : v < 16384 := by omega
        rw [hv] at hd hmask
        have f2 : IntKind.i64.wrap ((a : Int) + 2) = (a : Int) + 2 := IntWalk.i64_in _ (by omega)
        have f3 : IntKind.i64.wrap (v : Int) = (v : Int) := IntWalk.i64_in _ (by omega)
        have f4 : wrap64 (v : Int) = (v : Int) := IntWalk.wrap64_in _ (by omega)
        have hcl := fun ww => class_c v ww
        by_cases hk : vCls (v : Int) = 1
        · have hD : DecPost s a (.returned (.tuple #[.int .i64 v, .int .i64 ((a : Int) + 2), .int .i64 0])) := by
            unfold DecPost
            rw [hd, if_neg hw, if_pos (by rw [hk]; rfl)]
            simp
          simp only [hk] at hcl
          clear hk
          have HD := Lib.hid hD
          clear hD hd hv hm hml hc
          go_enter Tryd.func81, Tryd.ntmps81
          go_wp2_with fail
          go_quiet (first | (go_at_call 85; refine Calls.quiet_of_same ((hcall _).mono fun _ _ h => ⟨h.1, h.2.symm⟩)))
          go_wp2_with fail
          refine (hcl _).mono ?_
          rintro e w2 ⟨rfl, ho⟩
          have HO := Lib.hid (Only.trans ((Only.refl [] w).drewN _) ho)
          clear ho
          go_wp2_with fail
          go_ret3
          exact ⟨HD.out, HO.out⟩
        · have hD : DecPost s a (.returned (.tuple #[.int .i64 0, .int .i64 0, .int .i64 10])) := by
            unfold DecPost
            rw [hd, if_neg hw, if_neg (fun e => hk (by rw [e]; rfl))]
            exact ⟨10, by decide, rfl⟩
          have hk2 : (vCls (v : Int) == 1) = false := beq_eq_false_iff_ne.2 hk
          have hk3 : (vCls (v : Int) != 1) = true := by simp only [bne, hk2, Bool.not_false]
          have HD := Lib.hid hD
          clear hD hd hv hm hml hc
          go_enter Tryd.func81, Tryd.ntmps81
          go_wp2_with fail
          go_quiet (first | (go_at_call 85; refine Calls.quiet_of_same ((hcall _).mono fun _ _ h => ⟨h.1, h.2.symm⟩)))
          go_wp2_with fail
          refine (hcl _).mono ?_
          rintro e w2 ⟨rfl, ho⟩
          have HO := Lib.hid (Only.trans ((Only.refl [] w).drewN _) ho)
          clear ho
          go_wp2_with fail
          go_ret3
          exact ⟨HD.out, HO.out⟩
    · have hd : vDec (s.data.toList.drop a) = if s.size - a < 4 then none else if vCls ((rdK s a 4 % 1073741824 : Nat) : Int) = (2 : Nat) then some (((rdK s a 4 % 1073741824 : Nat) : Int), 4) else none := hd
      have hcI : (x.toNat : Int) / 64 = 2 := by omega
      have hp2 : wrap64 (4) = 4 := by kernel_rfl
      have h0' : ¬ (a : Int) = s.size := by omega
      have h1' : (a : Int) < s.size := by omega
      have hb : ((a : Int) == s.size) = false := beq_eq_false_iff_ne.2 h0'
      have f1 : IntKind.i64.wrap ((s.size : Int) - a) = (s.size : Int) - a := IntWalk.i64_in _ (by omega)
      by_cases hw : s.size - a < 4
      · have hD : DecPost s a (.returned (.tuple #[.int .i64 0, .int .i64 0, .int .i64 11])) := by
          unfold DecPost
          rw [hd, if_pos hw]
          exact ⟨11, by decide, rfl⟩
        have HD := Lib.hid hD
        have hw' : (s.size : Int) - a < 4 := by omega
        clear hD hd
        go_enter Tryd.func81, Tryd.ntmps81
        go_wp2_with fail
        go_ret3
        exact ⟨HD.out, Only.refl _ _⟩
      · have hw' : ¬ (s.size : Int) - a < 4 := by omega
        obtain ⟨m, hm⟩ : ∃ m, rdK s a 4 = m := ⟨_, rfl⟩
        have hml : m < 256 ^ 4 := by rw [← hm]; exact rdK_lt s a 4
        have hcall := fun ww => vread_c s a 4 (by omega) (by omega) (by omega) ww
        have hmask : bits .and .u64 ((m : Nat) : Int) 1073741823 = ((m % 1073741824 : Nat) : Int) := and_mask m 1073741824 30 (by decide) (by omega) (by omega)
        rw [hm] at hd
        simp only [hm] at hcall
        obtain ⟨v, hv⟩ : ∃ v : Nat, m % 1073741824 = v := ⟨_, rfl⟩
        have hvl : v < 1073741824 := by omega
        rw [hv] at hd hmask
        have f2 : IntKind.i64.wrap ((a : Int) + 4) = (a : Int) + 4 := IntWalk.i64_in _ (by omega)
        have f3 : IntKind.i64.wrap (v : Int) = (v : Int) := IntWalk.i64_in _ (by omega)
        have f4 : wrap64 (v : Int) = (v : Int) := IntWalk.wrap64_in _ (by omega)
        have hcl := fun ww => class_c v ww
        by_cases hk : vCls (v : Int) = 2
        · have hD : DecPost s a (.returned (.tuple #[.int .i64 v, .int .i64 ((a : Int) + 4), .int .i64 0])) := by
            unfold DecPost
            rw [hd, if_neg hw, if_pos (by rw [hk]; rfl)]
            simp
          simp only [hk] at hcl
          clear hk
          have HD := Lib.hid hD
          clear hD hd hv hm hml hc
          go_enter Tryd.func81, Tryd.ntmps81
          go_wp2_with fail
          go_quiet (first | (go_at_call 85; refine Calls.quiet_of_same ((hcall _).mono fun _ _ h => ⟨h.1, h.2.symm⟩)))
          go_wp2_with fail
          refine (hcl _).mono ?_
          rintro e w2 ⟨rfl, ho⟩
          have HO := Lib.hid (Only.trans ((Only.refl [] w).drewN _) ho)
          clear ho
          go_wp2_with fail
          go_ret3
          exact ⟨HD.out, HO.out⟩
        · have hD : DecPost s a (.returned (.tuple #[.int .i64 0, .int .i64 0, .int .i64 10])) := by
            unfold DecPost
            rw [hd, if_neg hw, if_neg (fun e => hk (by rw [e]; rfl))]
            exact ⟨10, by decide, rfl⟩
          have hk2 : (vCls (v : Int) == 2) = false := beq_eq_false_iff_ne.2 hk
          have hk3 : (vCls (v : Int) != 2) = true := by simp only [bne, hk2, Bool.not_false]
          have HD := Lib.hid hD
          clear hD hd hv hm hml hc
          go_enter Tryd.func81, Tryd.ntmps81
          go_wp2_with fail
          go_quiet (first | (go_at_call 85; refine Calls.quiet_of_same ((hcall _).mono fun _ _ h => ⟨h.1, h.2.symm⟩)))
          go_wp2_with fail
          refine (hcl _).mono ?_
          rintro e w2 ⟨rfl, ho⟩
          have HO := Lib.hid (Only.trans ((Only.refl [] w).drewN _) ho)
          clear ho
          go_wp2_with fail
          go_ret3
          exact ⟨HD.out, HO.out⟩
    · have hd : vDec (s.data.toList.drop a) = if s.size - a < 8 then none else if vCls ((rdK s a 8 % 4611686018427387904 : Nat) : Int) = (3 : Nat) then some (((rdK s a 8 % 4611686018427387904 : Nat) : Int), 8) else none := hd
      have hcI : (x.toNat : Int) / 64 = 3 := by omega
      have hp2 : wrap64 (8) = 8 := by kernel_rfl
      have h0' : ¬ (a : Int) = s.size := by omega
      have h1' : (a : Int) < s.size := by omega
      have hb : ((a : Int) == s.size) = false := beq_eq_false_iff_ne.2 h0'
      have f1 : IntKind.i64.wrap ((s.size : Int) - a) = (s.size : Int) - a := IntWalk.i64_in _ (by omega)
      by_cases hw : s.size - a < 8
      · have hD : DecPost s a (.returned (.tuple #[.int .i64 0, .int .i64 0, .int .i64 11])) := by
          unfold DecPost
          rw [hd, if_pos hw]
          exact ⟨11, by decide, rfl⟩
        have HD := Lib.hid hD
        have hw' : (s.size : Int) - a < 8 := by omega
        clear hD hd
        go_enter Tryd.func81, Tryd.ntmps81
        go_wp2_with fail
        go_ret3
        exact ⟨HD.out, Only.refl _ _⟩
      · have hw' : ¬ (s.size : Int) - a < 8 := by omega
        obtain ⟨m, hm⟩ : ∃ m, rdK s a 8 = m := ⟨_, rfl⟩
        have hml : m < 256 ^ 8 := by rw [← hm]; exact rdK_lt s a 8
        have hcall := fun ww => vread_c s a 8 (by omega) (by omega) (by omega) ww
        have hmask : bits .and .u64 ((m : Nat) : Int) 4611686018427387903 = ((m % 4611686018427387904 : Nat) : Int) := and_mask m 4611686018427387904 62 (by decide) (by omega) (by omega)
        rw [hm] at hd
        simp only [hm] at hcall
        obtain ⟨v, hv⟩ : ∃ v : Nat, m % 4611686018427387904 = v := ⟨_, rfl⟩
        have hvl : v < 4611686018427387904 := by omega
        rw [hv] at hd hmask
        have f2 : IntKind.i64.wrap ((a : Int) + 8) = (a : Int) + 8 := IntWalk.i64_in _ (by omega)
        have f3 : IntKind.i64.wrap (v : Int) = (v : Int) := IntWalk.i64_in _ (by omega)
        have f4 : wrap64 (v : Int) = (v : Int) := IntWalk.wrap64_in _ (by omega)
        have hcl := fun ww => class_c v ww
        by_cases hk : vCls (v : Int) = 3
        · have hD : DecPost s a (.returned (.tuple #[.int .i64 v, .int .i64 ((a : Int) + 8), .int .i64 0])) := by
            unfold DecPost
            rw [hd, if_neg hw, if_pos (by rw [hk]; rfl)]
            simp
          simp only [hk] at hcl
          clear hk
          have HD := Lib.hid hD
          clear hD hd hv hm hml hc
          go_enter Tryd.func81, Tryd.ntmps81
          go_wp2_with fail
          go_quiet (first | (go_at_call 85; refine Calls.quiet_of_same ((hcall _).mono fun _ _ h => ⟨h.1, h.2.symm⟩)))
          go_wp2_with fail
          refine (hcl _).mono ?_
          rintro e w2 ⟨rfl, ho⟩
          have HO := Lib.hid (Only.trans ((Only.refl [] w).drewN _) ho)
          clear ho
          go_wp2_with fail
          go_ret3
          exact ⟨HD.out, HO.out⟩
        · have hD : DecPost s a (.returned (.tuple #[.int .i64 0, .int .i64 0, .int .i64 10])) := by
            unfold DecPost
            rw [hd, if_neg hw, if_neg (fun e => hk (by rw [e]; rfl))]
            exact ⟨10, by decide, rfl⟩
          have hk2 : (vCls (v : Int) == 3) = false := beq_eq_false_iff_ne.2 hk
          have hk3 : (vCls (v : Int) != 3) = true := by simp only [bne, hk2, Bool.not_false]
          have HD := Lib.hid hD
          clear hD hd hv hm hml hc
          go_enter Tryd.func81, Tryd.ntmps81
          go_wp2_with fail
          go_quiet (first | (go_at_call 85; refine Calls.quiet_of_same ((hcall _).mono fun _ _ h => ⟨h.1, h.2.symm⟩)))
          go_wp2_with fail
          refine (hcl _).mono ?_
          rintro e w2 ⟨rfl, ho⟩
          have HO := Lib.hid (Only.trans ((Only.refl [] w).drewN _) ho)
          clear ho
          go_wp2_with fail
          go_ret3
          exact ⟨HD.out, HO.out⟩
end Go.Proofs.YtgiekhohhogdiaaDoor
/- Contracts of package varint: the bytes of a number, Encode. -/
namespace Go.Proofs.YtgiekhohhogdiaaDoor
open Go Go.RowKit Go.Shelf
set_option linter.unusedVariables false
set_option linter.unusedSimpArgs false
attribute [local go_sem] Oper.semAt_some

def bytOf (x : UInt8) : Array Value := #[.int .u8 x.toNat]
/-- The first k of the wd bytes of n. -/
def upB (n wd k : Nat) : List UInt8 := (beL wd n).take k
theorem beL_get (wd : Nat) : ∀ (n k : Nat) (h : k < wd), (beL wd n)[k]? = some (byt (n / 256 ^ (wd - 1 - k))) := by
  induction wd with
  | zero => intro n k h; omega
  | succ wd ih =>
    intro n k h
    simp only [beL]
    cases k with
    | zero => simp
    | succ k => rw [List.getElem?_cons_succ, ih n k (by omega), show wd + 1 - 1 - (k + 1) = wd - 1 - k by omega]
theorem upB_succ (n wd k : Nat) (h : k < wd) : upB n wd (k + 1) = upB n wd k ++ [byt (n / 256 ^ (wd - 1 - k))] := by
  unfold upB
  rw [List.take_add_one, beL_get wd n k h]
  rfl
theorem upB_len (n wd k : Nat) (h : k ≤ wd) : (upB n wd k).length = k := by unfold upB; rw [List.length_take, beL_len]; omega
/-- The blocks b and c are as they were. -/
def Two (b c : Nat) (W W' : World) : Prop := W'.heap[b]? = W.heap[b]? ∧ W'.heap[c]? = W.heap[c]?
theorem Two.refl (b c : Nat) (W : World) : Two b c W W := ⟨rfl, rfl⟩
theorem Two.trans {b c : Nat} {A B C : World} (h : Two b c A B) (k : Two b c B C) : Two b c A C := ⟨k.1.trans h.1, k.2.trans h.2⟩
theorem Two.put {b c n : Nat} (hb : b < n) (hc : c < n) (W : World) (l : Nat) (o o' : Obj) (hl : n ≤ l) (_h : W.heap[l]? = some o) (_h1 : o.isCells = false) (_h2 : o.isWalk = false) : Two b c W (W.putObj l o') :=
  ⟨World.putObj_heap_other (by omega), World.putObj_heap_other (by omega)⟩
theorem Two.of_below {b c n : Nat} {W W' : World} (h : Below n W W') (hb : b < n) (hc : c < n) : Two b c W W' := ⟨h.block b hb, h.block c hc⟩
theorem Two.fst {b c : Nat} {W W' : World} (h : Two b c W W') {v : Value} (k : W.cell? ⟨b, 0, none⟩ = some v) : W'.cell? ⟨b, 0, none⟩ = some v := (World.cell?_of_block (w := W) h.1).trans k
theorem Two.snd {b c : Nat} {W W' : World} (h : Two b c W W') {v : Value} (k : W.cell? ⟨c, 0, none⟩ = some v) : W'.cell? ⟨c, 0, none⟩ = some v := (World.cell?_of_block (w := W) h.2).trans k

set_option maxRecDepth 100000 in
set_option maxHeartbeats 2000000 in
theorem be1_in (F0 : Fence) (m : Nat) (hf : F0.fn 86) (hro : F0.round = none) (hm : 1 ≤ m) (l Bw Bn : Nat) (wd n : Nat) (hw : wd ≤ 8) (hn : n < 18446744073709551616) (J Jx : List UInt8 → World → Prop)
    (hY : ∀ pre x W, J pre W → pre.length < wd → YieldAt F0 (m - 1) Tryd.prog l (bytOf x) W fun e W' =>
      (e = .returned (.bool true) ∧ J (pre ++ [x]) W' ∧ Two Bw Bn W W') ∨ (e = .returned (.bool false) ∧ Jx (pre ++ [x]) W'))
    (W : World) (hBw : W.cell? ⟨Bw, 0, none⟩ = some (.int .i64 wd)) (hBn : W.cell? ⟨Bn, 0, none⟩ = some (.int .u64 n)) (h0 : J [] W) :
    CallsIn F0 m Tryd.prog 86 #[.func (.yield l) #[] #[], .pointer (some ⟨Bw, 0, none⟩), .pointer (some ⟨Bn, 0, none⟩)] W fun e W' => (∃ v, e = .returned v) ∧
      ((∃ ys, ys = upB n wd wd ∧ J ys W') ∨ (∃ pre, (∃ k, k ≤ wd ∧ pre = upB n wd k) ∧ Jx pre W')) := by
  refine callsIn_of_wp Tryd.func86 rfl hf ?_ hro
  simp only [Tryd.ntmps86, List.size_toArray, List.length_cons, List.length_nil, Nat.reduceAdd, Nat.reduceSub, Array.replicate_succ, Array.replicate_zero, List.push_toArray, List.append_toArray, List.nil_append, List.cons_append]
  have f0 : IntKind.i64.wrap ((wd : Int) - 1) = (wd : Int) - 1 := IntWalk.i64_in _ (by omega)
  gi_wp2
  gi_loopw [4] (fun i wr => ∃ k : Nat, k ≤ wd ∧ i = .int .i64 ((wd : Int) - 1 - k) ∧ J (upB n wd k) wr ∧ Two Bw Bn W wr)
    (fun i _ => (intOf i + 1).toNat)
  case atStart => exact ⟨0, Nat.zero_le _, by simp, h0, Two.refl _ _ _⟩
  case round =>
    obtain ⟨k, hk, rfl, hJs, hnx⟩ := hrel
    have hB2 := hnx.snd hBn
    clear hBw hBn
    by_cases hlt : k < wd
    · obtain ⟨q, hq⟩ : ∃ q, wd - 1 - k = q := ⟨_, rfl⟩
      have hqI : (wd : Int) - 1 - k = q := by omega
      rw [hqI]
      obtain ⟨fn, tmps, assign, body, hy, hR⟩ := hY _ (byt (n / 256 ^ q)) wr hJs (by rw [upB_len _ _ _ (by omega)]; exact hlt)
      simp only [bytOf] at hy
      have f1 : IntKind.i64.wrap (8 * (q : Int)) = 8 * q := IntWalk.i64_in _ (by omega)
      have f2 : (0 : Int) ≤ q := by omega
      have f3 : IntKind.i64.wrap ((q : Int) - 1) = (q : Int) - 1 := IntWalk.i64_in _ (by omega)
      have ev : (((byt (n / 256 ^ q)).toNat : Nat) : Int) = (n : Int) / 2 ^ (8 * q) % 256 := by
        rw [byt_nat, show (2 : Int) ^ (8 * q) = ((256 ^ q : Nat) : Int) from by rw [show (256 : Nat) = 2 ^ 8 from rfl, ← Nat.pow_mul]; simp]
        rfl
      rw [ev] at hy
      gi_wp2
      refine hR.mono ?_
      rintro e W3 (⟨rfl, hJ3, hk3⟩ | ⟨rfl, hJx3⟩)
      · gi_wp2
        go_roundw
        case rel => exact ⟨k + 1, by omega, by rw [show (wd : Int) - 1 - ((k + 1 : Nat) : Int) = (q : Int) - 1 by omega], by rw [upB_succ _ _ _ hlt, hq]; exact hJ3, hnx.trans hk3⟩
        case measure => simp [intOf]
      · gi_wp2
        refine bodyPost_ret (results_none rfl _ _ _) rfl ?_
        exact ⟨⟨_, rfl⟩, .inr ⟨_, ⟨k + 1, by omega, by rw [upB_succ _ _ _ hlt, hq]⟩, hJx3⟩⟩
    · obtain rfl : k = wd := by omega
      have f2 : ¬ (0 : Int) ≤ (k : Int) - 1 - k := by omega
      gi_wp2
      go_end0
      exact ⟨⟨_, rfl⟩, .inl hJs⟩
theorem be_stops (F0 : Fence) (m : Nat) (hf : F0.fn 86) (hro : F0.round = none) (hm : 1 ≤ m) (Bw Bn wd n : Nat) (hw : wd ≤ 8) (hn : n < 18446744073709551616) (w : World) (hwl : Bw < w.heap.size) (hnl : Bn < w.heap.size)
    (hBw : w.cell? ⟨Bw, 0, none⟩ = some (.int .i64 wd)) (hBn : w.cell? ⟨Bn, 0, none⟩ = some (.int .u64 n)) :
    SeqStopsK F0 m Tryd.prog 86 #[.pointer (some ⟨Bw, 0, none⟩), .pointer (some ⟨Bn, 0, none⟩)] bytOf (Two Bw Bn) (fun ys => ys = upB n wd wd)
      (fun pre => ∃ k, k ≤ wd ∧ pre = upB n wd k) wd w := fun l J Jx W hW _ _ hY h0 =>
  be1_in F0 m hf hro hm l Bw Bn wd n hw hn J Jx hY W ((Two.of_below hW hwl hnl).fst hBw) ((Two.of_below hW hwl hnl).snd hBn) h0
def rowB (l : List UInt8) : List Value := l.map fun u => Value.int .u8 u.toNat
theorem rowB_snoc (l : List UInt8) (x : UInt8) : rowB (l ++ [x]) = rowB l ++ [Value.int .u8 x.toNat] := by simp [rowB]
theorem rowB_len (l : List UInt8) : (rowB l).length = l.length := by simp [rowB]
def NilIff (v : Value) (k : Nat) : Prop := v = .slice none 0 0 ↔ k = 0
def strB (l : List UInt8) : ByteArray := ⟨l.toArray⟩
theorem strB_size (l : List UInt8) : (strB l).size = l.length := by simp [strB, ByteArray.size]
theorem strB_list (l : List UInt8) : (strB l).data.toList = l := by simp [strB]
theorem strOf_bytes (l : List UInt8) : strOfNums (l.map fun u => (u.toNat : Int)) = strB l := by
  simp only [strOfNums, strB, List.map_map]
  congr 2
  have : ((fun n : Int => UInt8.ofNat n.toNat) ∘ fun u : UInt8 => (u.toNat : Int)) = id := by funext u; simp
  rw [this]; simp
theorem A_info8 : (Tryd.prog.info? 5).map (fun i => (i.zero, i.size, i.bytes)) = some (some (.int .u8 0), 1, 1) := by kernel_rfl
theorem own_cells {w : World} {base g cap : Nat} {l : List UInt8} (h : w.ownsRow base 5 1 (.slice (some ⟨g, 0, none⟩) l.length cap) l.length (rowB l)) (j : Nat) (hj : j < l.length) : w.cell? ⟨g, 0 + j, none⟩ = some (.int .u8 (l[j]'hj).toNat) := by
  rcases h.2 with ⟨h1, _⟩ | ⟨g', cap', cur, hv, hb, hg, h1, h2, h3, h4⟩
  · cases h1
  · obtain ⟨rfl, rfl⟩ : g = g' ∧ cap = cap' := by simpa using hv
    have hA : At w g 5 cur := hg
    rw [Nat.zero_add]
    refine hA.cell j ?_
    have e : (cur.toList.take (l.length * 1))[j]? = (rowB l)[j]? := by rw [h4]
    rw [List.getElem?_take, if_pos (by omega)] at e
    simpa [rowB, hj] using e
theorem conv_own {w : World} {base g cap : Nat} {l : List UInt8} (h : w.ownsRow base 5 1 (.slice (some ⟨g, 0, none⟩) l.length cap) l.length (rowB l)) : (convert 46 9 (.slice (some ⟨g, 0, none⟩) l.length cap)).run Tryd.prog w = .ok (.string (strB l)) w := by
  have := run_convert_bytes_arg (P := Tryd.prog) w 46 5 Tryd.underlying46 Tryd.underlying5 g 0 l.length cap (l.map fun u => (u.toNat : Int)) (by simp) (fun i hi => by
    rw [own_cells h i hi]
    simp [List.getD_eq_getElem?_getD, hi]) 9 Tryd.underlying9
  rw [strOf_bytes] at this
  exact this
theorem cell_one_at (w : World) (n : Nat) (hn : w.heap.size = n) (x : Value) (t : TypeId) : ∀ j u, [x][j]? = some u → (w.alloc (.cells #[x] t)).cell? ((⟨n, 0, none⟩ : Addr).add j) = some u := by
  subst hn
  intro j u hj
  match j, hj with
  | 0, hj => simp at hj; subst hj; simp [Addr.add]
set_option maxRecDepth 100000 in
set_option maxHeartbeats 4000000 in
theorem collect_in (Bw Bn wd n : Nat) (hw1 : 1 ≤ wd) (hw : wd ≤ 8) (hn : n < 18446744073709551616) (w : World) (hwl : Bw < w.heap.size) (hnl : Bn < w.heap.size) (hBw : w.cell? ⟨Bw, 0, none⟩ = some (.int .i64 wd)) (hBn : w.cell? ⟨Bn, 0, none⟩ = some (.int .u64 n)) :
    CallsIn Fence.wide 3 Tryd.prog 83 #[.func (.func 86) #[] #[.pointer (some ⟨Bw, 0, none⟩), .pointer (some ⟨Bn, 0, none⟩)]] w fun e W' => e = .returned (.string (strB (beL wd n))) ∧ Below w.heap.size w W' := by
  have hro : Fence.wide.round = none := rfl
  have h1 : 1 ≤ 3 := by omega
  obtain ⟨i0, hi, hz0, hz1, hz2⟩ := info_parts A_info8
  refine callsIn_of_wp_marks Tryd.func83 rfl trivial ?_ hro
  simp only [Tryd.ntmps83, List.size_toArray, List.length_cons, List.length_nil, Nat.reduceAdd, Nat.reduceSub, Array.replicate_succ, Array.replicate_zero, List.push_toArray, List.append_toArray, List.nil_append, List.cons_append]
  gi_wp2_with fail
  have bO := Boxed.new w 46 (.slice none 0 0)
  have hB0 : Below w.heap.size w (w.alloc (.cells #[.slice none 0 0] 46)) := (Below.refl _ w).alloc (Nat.le_refl _) _
  have hBw0 : (w.alloc (.cells #[.slice none 0 0] 46)).cell? ⟨Bw, 0, none⟩ = some (.int .i64 wd) := (hB0.cell (p := ⟨Bw, 0, none⟩) hwl).trans hBw
  have hBn0 : (w.alloc (.cells #[.slice none 0 0] 46)).cell? ⟨Bn, 0, none⟩ = some (.int .u64 n) := (hB0.cell (p := ⟨Bn, 0, none⟩) hnl).trans hBn
  have hsz : (w.alloc (.cells #[.slice none 0 0] 46)).heap.size = w.heap.size + 1 := by simp
  obtain ⟨W0, hW0⟩ : ∃ W0, w.alloc (.cells #[.slice none 0 0] 46) = W0 := ⟨_, rfl⟩
  rw [hW0] at bO hB0 hsz hBw0 hBn0 ⊢
  clear hW0
  refine wpIn_rangeFunc_ownH hro h1 (gf := 86) (lb := #[.pointer (some ⟨Bw, 0, none⟩), .pointer (some ⟨Bn, 0, none⟩)]) rfl trivial (enters_of Tryd.func86 (by kernel_rfl) rfl)
    (be_stops Fence.wide 2 trivial hro (by omega) Bw Bn wd n hw hn W0 (by omega) (by omega) hBw0 hBn0) (fun h k => Two.trans h k) (Two.put (by omega) (by omega)) (Below.refl _ _) (fun _ => rfl)
    (fun pre W => (∃ v, Boxed W w.heap.size 46 v ∧ W.ownsRow w.heap.size 5 1 v pre.length (rowB pre) ∧ NilIff v pre.length) ∧ Below w.heap.size w W)
    (fun _ _ _ => False)
    (OwnFrom.and (Own.from (holdsRow_own w.heap.size w.heap.size 46 5 1 (fun pre => pre.length) (fun pre => rowB pre) (fun pre v => NilIff v pre.length)) _) (ownFrom_below (Nat.le_refl _) (by omega)))
    (fun _ _ _ _ _ hs _ _ => hs)
    ⟨⟨_, bO, World.ownsRow_nil _ _ _ _, by simp [NilIff]⟩, hB0⟩
    (fun x a' W => a' = { tmps := #[.func (.func 86) #[] #[.pointer (some ⟨Bw, 0, none⟩), .pointer (some ⟨Bn, 0, none⟩)], undef, .string ⟨#[]⟩, .pointer (some ⟨w.heap.size, 0, none⟩), .int .u8 x.toNat, .func (.func 86) #[] #[.pointer (some ⟨Bw, 0, none⟩), .pointer (some ⟨Bn, 0, none⟩)], .int .u8 x.toNat, undef, undef, undef, undef, undef, undef], defers := [] })
    (fun x a' _ X Y row hs hg hr => hs)
    ?assign ?body ?done ?stop
  case assign =>
    rintro l pre x W K ⟨⟨v, hv, hrow, hnil⟩, hB1⟩ hK
    simp only [bytOf]
    gi_wp2
    exact hK _ _ ((KeepsOthers.refl _).from _) (Two.refl _ _ _) ⟨⟨v, hv, hrow, hnil⟩, hB1⟩ rfl
  case body =>
    rintro l pre x a' W hl ⟨r, hr⟩ ⟨⟨v, hv, hrow, hnil⟩, hB1⟩ rfl hlt
    have hc := hv.cell
    have HN := Lib.hid hnil; clear hnil
    gi_wp2_with (gi_at_builtin; refine wpListIn_append_own _ rfl _ _ 46 rfl w.heap.size 5 i0 (.int .u8 0) 1 1 Tryd.underlying46 hi hz0 hz1 hz2 rfl (by decide) _ _ _ rfl (hrow.alloc _) ⟨W.heap.size, 0, none⟩ 1 1 [.int .u8 x.toNat] rfl rfl (cell_one_at _ _ rfl _ _) (by simp [Value.oneCell']) (by unfold maxLen; omega) (by omega) (by simp; have := hB1.size; omega) ?_; intro v' w1 hown' hgrow _; obtain ⟨g', cap', rfl⟩ := ownsRow_succ hown'; obtain ⟨hv1, hv2, hr2, hk2, hb2⟩ := hv.appended (by decide) hrow (by have := hB1.size; omega) (Nat.le_refl _) hown' hgrow; have hc1 := hv1.cell; have hf1 := hv1.frozen)
    exact ⟨hk2.from _, ⟨hb2.block Bw hwl, hb2.block Bn hnl⟩, ⟨⟨_, hv2, by rw [rowB_snoc]; simpa using hr2, by simp [NilIff]⟩, hB1.trans hb2⟩⟩
  case done =>
    rintro D zs W hD rfl ⟨⟨v, hv, hrow, hnil⟩, hB1⟩ hK
    rw [upB_len _ _ _ (Nat.le_refl _)] at hrow hnil
    have hup : upB n wd wd = beL wd n := by unfold upB; exact List.take_of_length_le (by rw [beL_len]; omega)
    rw [hup] at hrow
    obtain ⟨g, cap, rfl⟩ : ∃ g cap, v = .slice (some ⟨g, 0, none⟩) wd cap := by
      rcases hrow.2 with ⟨rfl, h0⟩ | ⟨g, cap, cur, rfl, _⟩
      · omega
      · exact ⟨_, _, rfl⟩
    have hc := hv.cell
    have hf := hv.frozen
    have hcv : (convert 46 9 (.slice (some ⟨g, 0, none⟩) wd cap)).run Tryd.prog W = .ok (.string (strB (beL wd n))) W := by
      have := conv_own (l := beL wd n) (g := g) (cap := cap) (base := w.heap.size) (w := W) (by rw [beL_len]; exact hrow)
      rw [beL_len] at this
      exact this
    have HN := Lib.hid hnil; clear hnil
    gi_wp2
    refine ⟨by simp, .inl ⟨_, _, rfl, run_takeDeferred hK, ?_⟩⟩
    refine ⟨.string (strB (beL wd n)), ?_, rfl, hB1.trans (belowK_b (w := w) (Nat.le_refl _) _ D _ _ (by omega) hK rfl rfl)⟩
    simp [results, Tryd.f83, go_sem]
  case stop =>
    rintro D c pre W _ _ h _
    exact h.elim
theorem bigend_c (m wd : Nat) (w : World) : Calls Tryd.prog 84 #[.int .u64 m, .int .i64 wd] w fun e w' => e = .returned (.func (.func 86) #[] #[.pointer (some ⟨w.heap.size + 1, 0, none⟩), .pointer (some ⟨w.heap.size, 0, none⟩)]) ∧ w' = (w.alloc (.cells #[.int .u64 m] 136)).alloc (.cells #[.int .i64 wd] 3) := by
  go_enter Tryd.func84, Tryd.ntmps84
  go_wp2_with fail
  go_ret
  exact ⟨rfl, rfl⟩
theorem or_top (n k c : Nat) (hn : n < 2 ^ k) (hc : c ≤ 3) (hk : k ≤ 62) : bits .or .u64 ((n : Nat) : Int) ((c * 2 ^ k : Nat) : Int) = ((n + c * 2 ^ k : Nat) : Int) := by
  have h2 : 2 ^ k ≤ 2 ^ 62 := Nat.pow_le_pow_right (by omega) hk
  have h3 : c * 2 ^ k ≤ 3 * 2 ^ 62 := Nat.mul_le_mul hc h2
  rw [bits_or_u64_nat _ _ (by omega) (by omega), Nat.or_comm, Nat.mul_comm c, ← Nat.two_pow_add_eq_or_of_lt hn, Nat.add_comm]
theorem bytes_c (m wd : Nat) (hw1 : 1 ≤ wd) (hw : wd ≤ 8) (hm : m < 18446744073709551616) (w : World) : Calls Tryd.prog 83 #[.func (.func 86) #[] #[.pointer (some ⟨w.heap.size + 1, 0, none⟩), .pointer (some ⟨w.heap.size, 0, none⟩)]] ((w.alloc (.cells #[.int .u64 m] 136)).alloc (.cells #[.int .i64 wd] 3)) fun e w' => e = .returned (.string (strB (beL wd m))) ∧ Only [] w w' := by
  have hA := (At.new w 136 #[.int .u64 m]).alloc (.cells #[.int .i64 wd] 3)
  have hB := At.new (w.alloc (.cells #[.int .u64 m] 136)) 3 #[.int .i64 wd]
  have hs : (w.alloc (.cells #[.int .u64 m] 136)).heap.size = w.heap.size + 1 := by simp
  rw [hs] at hB
  refine (callsIn_wide.1 (collect_in (w.heap.size + 1) w.heap.size wd m hw1 hw hm _ (by simp) (by simp; omega) (hB.cell 0 rfl) (hA.cell 0 rfl))).mono ?_
  rintro e w' ⟨rfl, hb⟩
  exact ⟨rfl, (((Only.refl [] w).alloc _).alloc _).trans (Only.of_below hb)⟩
theorem vencode_no (n : Int) (h : vCls n < 0) (w : World) : Calls Tryd.prog 80 #[.int .i64 n] w fun e w' => e = .returned (.tuple #[.string ⟨#[]⟩, .int .i64 10]) ∧ Only [] w w' := by
  go_enter Tryd.func80, Tryd.ntmps80
  go_wp2_with fail
  refine (class_c n _).mono ?_
  rintro e w2 ⟨rfl, ho⟩
  have HO := Lib.hid ho
  clear ho
  go_wp2_with fail
  go_ret2
  exact ⟨rfl, HO.out⟩
set_option maxRecDepth 100000 in
set_option maxHeartbeats 2000000 in
theorem vencode_c (n : Nat) (h1 : n ≤ 4611686018427387903) (w : World) : Calls Tryd.prog 80 #[.int .i64 n] w fun e w' => e = .returned (.tuple #[.string (strB (vEnc n)), .int .i64 0]) ∧ Only [] w w' := by
  obtain ⟨c0, c1, c2⟩ := vCls_bd n (by omega) (by omega)
  have hE : vEnc n = beL (vWid (vCls n)) (n + (vCls n).toNat * vTop (vCls n)) := by unfold vEnc; simp
  obtain ⟨c, hc⟩ : ∃ c, vCls n = c := ⟨_, rfl⟩
  rw [hc] at c0 c1 c2 hE
  have hcl := fun ww => class_c n ww
  simp only [hc] at hcl
  have f1 : IntKind.u64.wrap (n : Int) = n := by rw [IntKind.wrap_u64]; omega
  rcases (show c = 0 ∨ c = 1 ∨ c = 2 ∨ c = 3 by omega) with rfl | rfl | rfl | rfl
  · have hn : n < 64 := by simp [vTop] at c2; omega
    have hE2 : vEnc n = beL 1 (n + 0) := by rw [hE]; simp [vWid, vTop]
    have hor : bits .or .u64 ((n : Nat) : Int) 0 = ((n + 0 : Nat) : Int) := or_top n 6 0 (by omega) (by omega) (by omega)
    have hp2 : wrap64 1 = 1 := by kernel_rfl
    have hbe := fun ww => bigend_c (n + 0) 1 ww
    have hby := fun ww => bytes_c (n + 0) 1 (by omega) (by omega) (by omega) ww
    simp only [Int.natCast_add] at hbe
    clear hc hE c2
    go_enter Tryd.func80, Tryd.ntmps80
    go_wp2_with fail
    refine (hcl _).mono ?_
    rintro e w2 ⟨rfl, ho⟩
    have HO := Lib.hid ho
    clear ho
    go_wp2_with fail
    refine (hbe _).mono ?_
    rintro e w3 ⟨rfl, rfl⟩
    have hq := hby w2
    clear hby hbe
    go_wp2_with fail
    refine hq.mono ?_
    rintro e w4 ⟨rfl, ho⟩
    have HO2 := Lib.hid (HO.out.trans ho)
    have HE := Lib.hid hE2
    clear ho hE2
    go_wp2_with fail
    go_ret2
    exact ⟨by rw [HE.out]; rfl, HO2.out⟩
  · have hn : n < 16384 := by simp [vTop] at c2; omega
    have hE2 : vEnc n = beL 2 (n + 16384) := by rw [hE]; simp [vWid, vTop]
    have hor : bits .or .u64 ((n : Nat) : Int) 16384 = ((n + 16384 : Nat) : Int) := or_top n 14 1 (by omega) (by omega) (by omega)
    have hp2 : wrap64 2 = 2 := by kernel_rfl
    have hbe := fun ww => bigend_c (n + 16384) 2 ww
    have hby := fun ww => bytes_c (n + 16384) 2 (by omega) (by omega) (by omega) ww
    simp only [Int.natCast_add] at hbe
    clear hc hE c2
    go_enter Tryd.func80, Tryd.ntmps80
    go_wp2_with fail
    refine (hcl _).mono ?_
    rintro e w2 ⟨rfl, ho⟩
    have HO := Lib.hid ho
    clear ho
    go_wp2_with fail
    refine (hbe _).mono ?_
    rintro e w3 ⟨rfl, rfl⟩
    have hq := hby w2
    clear hby hbe
    go_wp2_with fail
    refine hq.mono ?_
    rintro e w4 ⟨rfl, ho⟩
    have HO2 := Lib.hid (HO.out.trans ho)
    have HE := Lib.hid hE2
    clear ho hE2
    go_wp2_with fail
    go_ret2
    exact ⟨by rw [HE.out]; rfl, HO2.out⟩
  · have hn : n < 1073741824 := by simp [vTop] at c2; omega
    have hE2 : vEnc n = beL 4 (n + 2147483648) := by rw [hE]; simp [vWid, vTop]
    have hor : bits .or .u64 ((n : Nat) : Int) 2147483648 = ((n + 2147483648 : Nat) : Int) := or_top n 30 2 (by omega) (by omega) (by omega)
    have hp2 : wrap64 4 = 4 := by kernel_rfl
    have hbe := fun ww => bigend_c (n + 2147483648) 4 ww
    have hby := fun ww => bytes_c (n + 2147483648) 4 (by omega) (by omega) (by omega) ww
    simp only [Int.natCast_add] at hbe
    clear hc hE c2
    go_enter Tryd.func80, Tryd.ntmps80
    go_wp2_with fail
    refine (hcl _).mono ?_
    rintro e w2 ⟨rfl, ho⟩
    have HO := Lib.hid ho
    clear ho
    go_wp2_with fail
    refine (hbe _).mono ?_
    rintro e w3 ⟨rfl, rfl⟩
    have hq := hby w2
    clear hby hbe
    go_wp2_with fail
    refine hq.mono ?_
    rintro e w4 ⟨rfl, ho⟩
    have HO2 := Lib.hid (HO.out.trans ho)
    have HE := Lib.hid hE2
    clear ho hE2
    go_wp2_with fail
    go_ret2
    exact ⟨by rw [HE.out]; rfl, HO2.out⟩
  · have hn : n < 4611686018427387904 := by simp [vTop] at c2; omega
    have hE2 : vEnc n = beL 8 (n + 13835058055282163712) := by rw [hE]; simp [vWid, vTop]
    have hor : bits .or .u64 ((n : Nat) : Int) 13835058055282163712 = ((n + 13835058055282163712 : Nat) : Int) := or_top n 62 3 (by omega) (by omega) (by omega)
    have hp2 : wrap64 8 = 8 := by kernel_rfl
    have hbe := fun ww => bigend_c (n + 13835058055282163712) 8 ww
    have hby := fun ww => bytes_c (n + 13835058055282163712) 8 (by omega) (by omega) (by omega) ww
    simp only [Int.natCast_add] at hbe
    clear hc hE c2
    go_enter Tryd.func80, Tryd.ntmps80
    go_wp2_with fail
    refine (hcl _).mono ?_
    rintro e w2 ⟨rfl, ho⟩
    have HO := Lib.hid ho
    clear ho
    go_wp2_with fail
    refine (hbe _).mono ?_
    rintro e w3 ⟨rfl, rfl⟩
    have hq := hby w2
    clear hby hbe
    go_wp2_with fail
    refine hq.mono ?_
    rintro e w4 ⟨rfl, ho⟩
    have HO2 := Lib.hid (HO.out.trans ho)
    have HE := Lib.hid hE2
    clear ho hE2
    go_wp2_with fail
    go_ret2
    exact ⟨by rw [HE.out]; rfl, HO2.out⟩
end Go.Proofs.YtgiekhohhogdiaaDoor
