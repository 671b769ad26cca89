/- Contracts of package varint: class, read, Decode. -/
import Derived.Test.YtmmgmpghkpbgkaaBas
import Derived.Test.YtmmgmpghkpbgkaaVaM
import Derived.Laws.Bits64b
import Derived.BigQuiet
namespace Go.Proofs.Ytmmgmpghkpbgkaa
open Go Go.RowKit
set_option linter.unusedVariables false
set_option linter.unusedSimpArgs false

def limC : Array Value := #[.int .i64 63, .int .i64 16383, .int .i64 1073741823, .int .i64 4611686018427387903]
theorem idx_0 (w : World) : (Instr.index 152 (.agg #[.int .i64 63, .int .i64 16383, .int .i64 1073741823, .int .i64 4611686018427387903]) (.int .i64 0)).run Try.prog w = .ok (.int .i64 63) w := by kernel_rfl
theorem idx_1 (w : World) : (Instr.index 152 (.agg #[.int .i64 63, .int .i64 16383, .int .i64 1073741823, .int .i64 4611686018427387903]) (.int .i64 1)).run Try.prog w = .ok (.int .i64 16383) w := by kernel_rfl
theorem idx_2 (w : World) : (Instr.index 152 (.agg #[.int .i64 63, .int .i64 16383, .int .i64 1073741823, .int .i64 4611686018427387903]) (.int .i64 2)).run Try.prog w = .ok (.int .i64 1073741823) w := by kernel_rfl
theorem idx_3 (w : World) : (Instr.index 152 (.agg #[.int .i64 63, .int .i64 16383, .int .i64 1073741823, .int .i64 4611686018427387903]) (.int .i64 3)).run Try.prog w = .ok (.int .i64 4611686018427387903) w := by kernel_rfl
set_option maxRecDepth 100000 in
set_option maxHeartbeats 1000000 in
theorem class_c (n : Int) (w : World) : Calls Try.prog 67 #[.int .i64 n] w fun e w' => e = .returned (.int .i64 (vCls n)) ∧ Only [] w w' := by
  have i0 := idx_0
  have i1 := idx_1
  have i2 := idx_2
  have i3 := idx_3
  by_cases h0 : n < 0
  · have hv : (-1 : Int) = vCls n := by unfold vCls; rw [if_pos h0]
    have HV := Lib.hid hv
    clear hv
    go_enter Try.func67, Try.ntmps67
    go_wp2_with fail
    go_ret
    exact ⟨ret_int HV.out, (Only.refl _ _).alloc _⟩
  by_cases h1 : n ≤ 63
  · have hv : (0 : Int) = vCls n := by unfold vCls; rw [if_neg h0, if_pos h1]
    have HV := Lib.hid hv
    clear hv
    go_enter Try.func67, Try.ntmps67
    go_wp2_with fail
    refine wp_loop_rounds 6 ?_
    rw [rounds_succ]
    go_wp2_with fail
    go_ret
    exact ⟨ret_int HV.out, (Only.refl _ _).alloc _⟩
  by_cases h2 : n ≤ 16383
  · have hv : (1 : Int) = vCls n := by unfold vCls; rw [if_neg h0, if_neg h1, if_pos h2]
    have HV := Lib.hid hv
    clear hv
    go_enter Try.func67, Try.ntmps67
    go_wp2_with fail
    refine wp_loop_rounds 6 ?_
    rw [rounds_succ]
    go_wp2_with fail
    rw [rounds_succ]
    go_wp2_with fail
    go_ret
    exact ⟨ret_int HV.out, (Only.refl _ _).alloc _⟩
  by_cases h3 : n ≤ 1073741823
  · have hv : (2 : Int) = vCls n := by unfold vCls; rw [if_neg h0, if_neg h1, if_neg h2, if_pos h3]
    have HV := Lib.hid hv
    clear hv
    go_enter Try.func67, Try.ntmps67
    go_wp2_with fail
    refine wp_loop_rounds 6 ?_
    rw [rounds_succ]
    go_wp2_with fail
    rw [rounds_succ]
    go_wp2_with fail
    rw [rounds_succ]
    go_wp2_with fail
    go_ret
    exact ⟨ret_int HV.out, (Only.refl _ _).alloc _⟩
  by_cases h4 : n ≤ 4611686018427387903
  · have hv : (3 : Int) = vCls n := by unfold vCls; rw [if_neg h0, if_neg h1, if_neg h2, if_neg h3, if_pos h4]
    have HV := Lib.hid hv
    clear hv
    go_enter Try.func67, Try.ntmps67
    go_wp2_with fail
    refine wp_loop_rounds 6 ?_
    rw [rounds_succ]
    go_wp2_with fail
    rw [rounds_succ]
    go_wp2_with fail
    rw [rounds_succ]
    go_wp2_with fail
    rw [rounds_succ]
    go_wp2_with fail
    go_ret
    exact ⟨ret_int HV.out, (Only.refl _ _).alloc _⟩
  have hv : (-1 : Int) = vCls n := by unfold vCls; rw [if_neg h0, if_neg h1, if_neg h2, if_neg h3, if_neg h4]
  have HV := Lib.hid hv
  clear hv
  go_enter Try.func67, Try.ntmps67
  go_wp2_with fail
  refine wp_loop_rounds 6 ?_
  rw [rounds_succ]
  go_wp2_with fail
  rw [rounds_succ]
  go_wp2_with fail
  rw [rounds_succ]
  go_wp2_with fail
  rw [rounds_succ]
  go_wp2_with fail
  rw [rounds_succ]
  go_wp2_with fail
  go_ret
  exact ⟨ret_int HV.out, (Only.refl _ _).alloc _⟩
/-- The number of the first k bytes from a on. -/
def rdK (s : ByteArray) (a k : Nat) : Nat := rdB ((s.data.toList.drop a).take k)
theorem size_list (s : ByteArray) : s.data.toList.length = s.size := by simp
theorem get_list (s : ByteArray) (i : Nat) (h : i < s.size) : s[i] = s.data.toList[i]'(by rw [size_list]; exact h) := by
  simp [ByteArray.getElem_eq_getElem_data]
theorem rdK_succ (s : ByteArray) (a k : Nat) (h : a + k < s.size) : rdK s a (k + 1) = rdK s a k * 256 + (s[a + k]).toNat := by
  unfold rdK
  have hl := size_list s
  rw [List.take_add_one, List.getElem?_drop, List.getElem?_eq_getElem (by omega)]
  simp only [Option.toList]
  rw [rdB_snoc, get_list s (a + k) h]
theorem rdK_lt (s : ByteArray) (a k : Nat) : rdK s a k < 256 ^ k := by
  have h := rdB_lt ((s.data.toList.drop a).take k)
  have h2 : ((s.data.toList.drop a).take k).length ≤ k := by simp; omega
  exact Nat.lt_of_lt_of_le h (Nat.pow_le_pow_right (by omega) h2)
theorem or_byte (m : Nat) (x : UInt8) (k : Nat) (hm : m < 256 ^ k) (hk : k ≤ 7) : bits .or .u64 (IntKind.u64.wrap ((m : Int) * 256)) (IntKind.u64.wrap ((x.toNat : Nat) : Int)) = ((m * 256 + x.toNat : Nat) : Int) := by
  have hx := x.toNat_lt
  have h7 : 256 ^ k ≤ 256 ^ 7 := Nat.pow_le_pow_right (by omega) hk
  have e7 : (256 : Nat) ^ 7 = 72057594037927936 := by decide
  have e1 : IntKind.u64.wrap ((m : Int) * 256) = ((m * 256 : Nat) : Int) := by rw [IntKind.wrap_u64]; omega
  have e2 : IntKind.u64.wrap ((x.toNat : Nat) : Int) = ((x.toNat : Nat) : Int) := by rw [IntKind.wrap_u64]; omega
  rw [e1, e2, bits_or_u64_nat _ _ (by omega) (by omega)]
  have := Nat.two_pow_add_eq_or_of_lt (i := 8) (b := x.toNat) (by omega) m
  rw [show m * 256 = 2 ^ 8 * m by omega, ← this]
set_option maxRecDepth 100000 in
set_option maxHeartbeats 1000000 in
theorem vread_c (s : ByteArray) (a wd : Nat) (h : a + wd ≤ s.size) (hw : wd ≤ 8) (hs : s.size ≤ 9223372036854775807) (w : World) : Calls Try.prog 130 #[.string s, .int .i64 a, .int .i64 wd] w fun e w' => e = .returned (.int .u64 (rdK s a wd)) ∧ w = w' := by
  go_enter Try.func130, Try.ntmps130
  go_wp2_with fail
  go_loopw [7, 10] (fun n i wr => wr = w ∧ ∃ k : Nat, k ≤ wd ∧ i = .int .i64 k ∧ n = .int .u64 (rdK s a k)) (fun _ i _ => wd - (intOf i).toNat)
  case atStart => exact ⟨rfl, 0, by omega, rfl, rfl⟩
  case round =>
    obtain ⟨rfl, k, hk, rfl, rfl⟩ := hrel
    by_cases hl : k < wd
    · have hl' : (k : Int) < wd := by omega
      have f1 : IntKind.i64.wrap ((k : Int) + 1) = k + 1 := IntWalk.i64_in _ (by omega)
      have f2 : IntKind.i64.wrap ((a : Int) + k) = a + k := IntWalk.i64_in _ (by omega)
      have f3 : (a : Int) + k < s.size := by omega
      have hor := or_byte (rdK s a k) (s[a + k]'(by omega)) k (rdK_lt s a k) (by omega)
      have hsc := rdK_succ s a k (by omega)
      go_wp2_with fail
      exact ⟨⟨trivial, k + 1, by omega, by simp, by rw [hsc]; simp⟩, by simp [intOf]; omega⟩
    · have hl' : ¬ (k : Int) < wd := by omega
      obtain rfl : k = wd := by omega
      go_wp2_with fail
      go_ret
      exact ⟨rfl, rfl⟩
theorem vDec_at (s : ByteArray) (a : Nat) (h : a < s.size) (c : Nat) (hc : (s[a]).toNat / 64 = c) : vDec (s.data.toList.drop a) = if s.size - a < vWid c then none else
    if vCls ((rdK s a (vWid c) % vTop c : Nat) : Int) = c then some (((rdK s a (vWid c) % vTop c : Nat) : Int), vWid c) else none := by
  have hl := size_list s
  unfold rdK
  rw [List.drop_eq_getElem_cons (by omega)]
  simp only [vDec]
  rw [← get_list s a h, hc, List.length_drop, hl, show s.size - (a + 1) + 1 = s.size - a by omega]
theorem and_mask (m t k : Nat) (ht : t = 2 ^ k) (hk : k ≤ 63) (hm : m < 18446744073709551616) : bits .and .u64 ((m : Nat) : Int) ((t : Int) - 1) = ((m % t : Nat) : Int) := by
  have h1 : 1 ≤ t := by rw [ht]; exact Nat.one_le_two_pow
  have h2 : t ≤ 2 ^ 63 := by rw [ht]; exact Nat.pow_le_pow_right (by omega) hk
  have e : (t : Int) - 1 = ((t - 1 : Nat) : Int) := by omega
  rw [e, bits_and_u64_nat _ _ hm (by omega), ht, Nat.and_two_pow_sub_one_eq_mod]
def DecPost (s : ByteArray) (a : Nat) (e : Ending) : Prop := match vDec (s.data.toList.drop a) with
  | some (n, k) => e = .returned (.tuple #[.int .i64 n, .int .i64 ((a + k : Nat) : Int), .int .i64 0])
  | none => ∃ c : Int, c ≠ 0 ∧ e = .returned (.tuple #[.int .i64 0, .int .i64 0, .int .i64 c])
set_option maxRecDepth 100000 in
set_option maxHeartbeats 4000000 in
theorem vdecode_c (s : ByteArray) (a : Nat) (ha : a ≤ s.size) (hs : s.size ≤ 4611686018427387903) (w : World) : Calls Try.prog 127 #[.string s, .int .i64 a] w fun e w' => DecPost s a e ∧ Only [] w w' := by
  by_cases h0 : a = s.size
  · have hD : DecPost s a (.returned (.tuple #[.int .i64 0, .int .i64 0, .int .i64 11])) := by
      unfold DecPost
      rw [List.drop_eq_nil_of_le (by rw [size_list]; omega)]
      exact ⟨11, by decide, rfl⟩
    have h0' : (a : Int) = s.size := by omega
    have HD := Lib.hid hD
    clear hD
    go_enter Try.func127, Try.ntmps127
    go_wp2_with fail
    go_ret3
    exact ⟨HD.out, Only.refl _ _⟩
  · have h1 : a < s.size := by omega
    obtain ⟨x, hx⟩ : ∃ x : UInt8, s[a] = x := ⟨_, rfl⟩
    have hx4 := x.toNat_lt
    obtain ⟨c, hc⟩ : ∃ c, x.toNat / 64 = c := ⟨_, rfl⟩
    have hd := vDec_at s a h1 c (by rw [hx, hc])
    have hc3 : c = 0 ∨ c = 1 ∨ c = 2 ∨ c = 3 := by omega
    rcases hc3 with rfl | rfl | rfl | rfl
    · have hd : vDec (s.data.toList.drop a) = if s.size - a < 1 then none else if vCls ((rdK s a 1 % 64 : Nat) : Int) = (0 : Nat) then some (((rdK s a 1 % 64 : Nat) : Int), 1) else none := hd
      have hcI : (x.toNat : Int) / 64 = 0 := by omega
      have hp2 : wrap64 (1) = 1 := by kernel_rfl
      have h0' : ¬ (a : Int) = s.size := by omega
      have h1' : (a : Int) < s.size := by omega
      have hb : ((a : Int) == s.size) = false := beq_eq_false_iff_ne.2 h0'
      have f1 : IntKind.i64.wrap ((s.size : Int) - a) = (s.size : Int) - a := IntWalk.i64_in _ (by omega)
      by_cases hw : s.size - a < 1
      · exfalso; omega
      · have hw' : ¬ (s.size : Int) - a < 1 := by omega
        obtain ⟨m, hm⟩ : ∃ m, rdK s a 1 = m := ⟨_, rfl⟩
        have hml : m < 256 ^ 1 := by rw [← hm]; exact rdK_lt s a 1
        have hcall := fun ww => vread_c s a 1 (by omega) (by omega) (by omega) ww
        have hmask : bits .and .u64 ((m : Nat) : Int) 63 = ((m % 64 : Nat) : Int) := and_mask m 64 6 (by decide) (by omega) (by omega)
        rw [hm] at hd
        simp only [hm] at hcall
        obtain ⟨v, hv⟩ : ∃ v : Nat, m % 64 = v := ⟨_, rfl⟩
        have hvl : v < 64 := by omega
        rw [hv] at hd hmask
        have f2 : IntKind.i64.wrap ((a : Int) + 1) = (a : Int) + 1 := IntWalk.i64_in _ (by omega)
        have f3 : IntKind.i64.wrap (v : Int) = (v : Int) := IntWalk.i64_in _ (by omega)
        have f4 : wrap64 (v : Int) = (v : Int) := IntWalk.wrap64_in _ (by omega)
        have hcl := fun ww => class_c v ww
        by_cases hk : vCls (v : Int) = 0
        · have hD : DecPost s a (.returned (.tuple #[.int .i64 v, .int .i64 ((a : Int) + 1), .int .i64 0])) := by
            unfold DecPost
            rw [hd, if_neg hw, if_pos (by rw [hk]; rfl)]
            simp
          simp only [hk] at hcl
          clear hk
          have HD := Lib.hid hD
          clear hD hd hv hm hml hc
          go_enter Try.func127, Try.ntmps127
          go_wp2_with fail
          go_quiet (first | (go_at_call 130; refine Calls.quiet_of_same ((hcall _).mono fun _ _ h => ⟨h.1, h.2.symm⟩)))
          go_wp2_with fail
          refine (hcl _).mono ?_
          rintro e w2 ⟨rfl, ho⟩
          have HO := Lib.hid (Only.trans ((Only.refl [] w).drewN _) ho)
          clear ho
          go_wp2_with fail
          go_ret3
          exact ⟨HD.out, HO.out⟩
        · have hD : DecPost s a (.returned (.tuple #[.int .i64 0, .int .i64 0, .int .i64 10])) := by
            unfold DecPost
            rw [hd, if_neg hw, if_neg (fun e => hk (by rw [e]; rfl))]
            exact ⟨10, by decide, rfl⟩
          have hk2 : (vCls (v : Int) == 0) = false := beq_eq_false_iff_ne.2 hk
          have hk3 : (vCls (v : Int) != 0) = true := by simp only [bne, hk2, Bool.not_false]
          have HD := Lib.hid hD
          clear hD hd hv hm hml hc
          go_enter Try.func127, Try.ntmps127
          go_wp2_with fail
          go_quiet (first | (go_at_call 130; refine Calls.quiet_of_same ((hcall _).mono fun _ _ h => ⟨h.1, h.2.symm⟩)))
          go_wp2_with fail
          refine (hcl _).mono ?_
          rintro e w2 ⟨rfl, ho⟩
          have HO := Lib.hid (Only.trans ((Only.refl [] w).drewN _) ho)
          clear ho
          go_wp2_with fail
          go_ret3
          exact ⟨HD.out, HO.out⟩
    · have hd : vDec (s.data.toList.drop a) = if s.size - a < 2 then none else if vCls ((rdK s a 2 % 16384 : Nat) : Int) = (1 : Nat) then some (((rdK s a 2 % 16384 : Nat) : Int), 2) else none := hd
      have hcI : (x.toNat : Int) / 64 = 1 := by omega
      have hp2 : wrap64 (2) = 2 := by kernel_rfl
      have h0' : ¬ (a : Int) = s.size := by omega
      have h1' : (a : Int) < s.size := by omega
      have hb : ((a : Int) == s.size) = false := beq_eq_false_iff_ne.2 h0'
      have f1 : IntKind.i64.wrap ((s.size : Int) - a) = (s.size : Int) - a := IntWalk.i64_in _ (by omega)
      by_cases hw : s.size - a < 2
      · have hD : DecPost s a (.returned (.tuple #[.int .i64 0, .int .i64 0, .int .i64 11])) := by
          unfold DecPost
          rw [hd, if_pos hw]
          exact ⟨11, by decide, rfl⟩
        have HD := Lib.hid hD
        have hw' : (s.size : Int) - a < 2 := by omega
        clear hD hd
        go_enter Try.func127, Try.ntmps127
        go_wp2_with fail
        go_ret3
        exact ⟨HD.out, Only.refl _ _⟩
      · have hw' : ¬ (s.size : Int) - a < 2 := by omega
        obtain ⟨m, hm⟩ : ∃ m, rdK s a 2 = m := ⟨_, rfl⟩
        have hml : m < 256 ^ 2 := by rw [← hm]; exact rdK_lt s a 2
        have hcall := fun ww => vread_c s a 2 (by omega) (by omega) (by omega) ww
        have hmask : bits .and .u64 ((m : Nat) : Int) 16383 = ((m % 16384 : Nat) : Int) := and_mask m 16384 14 (by decide) (by omega) (by omega)
        rw [hm] at hd
        simp only [hm] at hcall
        obtain ⟨v, hv⟩ : ∃ v : Nat, m % 16384 = v := ⟨_, rfl⟩
        have hvl : v < 16384 := by omega
        rw [hv] at hd hmask
        have f2 : IntKind.i64.wrap ((a : Int) + 2) = (a : Int) + 2 := IntWalk.i64_in _ (by omega)
        have f3 : IntKind.i64.wrap (v : Int) = (v : Int) := IntWalk.i64_in _ (by omega)
        have f4 : wrap64 (v : Int) = (v : Int) := IntWalk.wrap64_in _ (by omega)
        have hcl := fun ww => class_c v ww
        by_cases hk : vCls (v : Int) = 1
        · have hD : DecPost s a (.returned (.tuple #[.int .i64 v, .int .i64 ((a : Int) + 2), .int .i64 0])) := by
            unfold DecPost
            rw [hd, if_neg hw, if_pos (by rw [hk]; rfl)]
            simp
          simp only [hk] at hcl
          clear hk
          have HD := Lib.hid hD
          clear hD hd hv hm hml hc
          go_enter Try.func127, Try.ntmps127
          go_wp2_with fail
          go_quiet (first | (go_at_call 130; refine Calls.quiet_of_same ((hcall _).mono fun _ _ h => ⟨h.1, h.2.symm⟩)))
          go_wp2_with fail
          refine (hcl _).mono ?_
          rintro e w2 ⟨rfl, ho⟩
          have HO := Lib.hid (Only.trans ((Only.refl [] w).drewN _) ho)
          clear ho
          go_wp2_with fail
          go_ret3
          exact ⟨HD.out, HO.out⟩
        · have hD : DecPost s a (.returned (.tuple #[.int .i64 0, .int .i64 0, .int .i64 10])) := by
            unfold DecPost
            rw [hd, if_neg hw, if_neg (fun e => hk (by rw [e]; rfl))]
            exact ⟨10, by decide, rfl⟩
          have hk2 : (vCls (v : Int) == 1) = false := beq_eq_false_iff_ne.2 hk
          have hk3 : (vCls (v : Int) != 1) = true := by simp only [bne, hk2, Bool.not_false]
          have HD := Lib.hid hD
          clear hD hd hv hm hml hc
          go_enter Try.func127, Try.ntmps127
          go_wp2_with fail
          go_quiet (first | (go_at_call 130; refine Calls.quiet_of_same ((hcall _).mono fun _ _ h => ⟨h.1, h.2.symm⟩)))
          go_wp2_with fail
          refine (hcl _).mono ?_
          rintro e w2 ⟨rfl, ho⟩
          have HO := Lib.hid (Only.trans ((Only.refl [] w).drewN _) ho)
          clear ho
          go_wp2_with fail
          go_ret3
          exact ⟨HD.out, HO.out⟩
    · have hd : vDec (s.data.toList.drop a) = if s.size - a < 4 then none else if vCls ((rdK s a 4 % 1073741824 : Nat) : Int) = (2 : Nat) then some (((rdK s a 4 % 1073741824 : Nat) : Int), 4) else none := hd
      have hcI : (x.toNat : Int) / 64 = 2 := by omega
      have hp2 : wrap64 (4) = 4 := by kernel_rfl
      have h0' : ¬ (a : Int) = s.size := by omega
      have h1' : (a : Int) < s.size := by omega
      have hb : ((a : Int) == s.size) = false := beq_eq_false_iff_ne.2 h0'
      have f1 : IntKind.i64.wrap ((s.size : Int) - a) = (s.size : Int) - a := IntWalk.i64_in _ (by omega)
      by_cases hw : s.size - a < 4
      · have hD : DecPost s a (.returned (.tuple #[.int .i64 0, .int .i64 0, .int .i64 11])) := by
          unfold DecPost
          rw [hd, if_pos hw]
          exact ⟨11, by decide, rfl⟩
        have HD := Lib.hid hD
        have hw' : (s.size : Int) - a < 4 := by omega
        clear hD hd
        go_enter Try.func127, Try.ntmps127
        go_wp2_with fail
        go_ret3
        exact ⟨HD.out, Only.refl _ _⟩
      · have hw' : ¬ (s.size : Int) - a < 4 := by omega
        obtain ⟨m, hm⟩ : ∃ m, rdK s a 4 = m := ⟨_, rfl⟩
        have hml : m < 256 ^ 4 := by rw [← hm]; exact rdK_lt s a 4
        have hcall := fun ww => vread_c s a 4 (by omega) (by omega) (by omega) ww
        have hmask : bits .and .u64 ((m : Nat) : Int) 1073741823 = ((m % 1073741824 : Nat) : Int) := and_mask m 1073741824 30 (by decide) (by omega) (by omega)
        rw [hm] at hd
        simp only [hm] at hcall
        obtain ⟨v, hv⟩ : ∃ v : Nat, m % 1073741824 = v := ⟨_, rfl⟩
        have hvl : v < 1073741824 := by omega
        rw [hv] at hd hmask
        have f2 : IntKind.i64.wrap ((a : Int) + 4) = (a : Int) + 4 := IntWalk.i64_in _ (by omega)
        have f3 : IntKind.i64.wrap (v : Int) = (v : Int) := IntWalk.i64_in _ (by omega)
        have f4 : wrap64 (v : Int) = (v : Int) := IntWalk.wrap64_in _ (by omega)
        have hcl := fun ww => class_c v ww
        by_cases hk : vCls (v : Int) = 2
        · have hD : DecPost s a (.returned (.tuple #[.int .i64 v, .int .i64 ((a : Int) + 4), .int .i64 0])) := by
            unfold DecPost
            rw [hd, if_neg hw, if_pos (by rw [hk]; rfl)]
            simp
          simp only [hk] at hcl
          clear hk
          have HD := Lib.hid hD
          clear hD hd hv hm hml hc
          go_enter Try.func127, Try.ntmps127
          go_wp2_with fail
          go_quiet (first | (go_at_call 130; refine Calls.quiet_of_same ((hcall _).mono fun _ _ h => ⟨h.1, h.2.symm⟩)))
          go_wp2_with fail
          refine (hcl _).mono ?_
          rintro e w2 ⟨rfl, ho⟩
          have HO := Lib.hid (Only.trans ((Only.refl [] w).drewN _) ho)
          clear ho
          go_wp2_with fail
          go_ret3
          exact ⟨HD.out, HO.out⟩
        · have hD : DecPost s a (.returned (.tuple #[.int .i64 0, .int .i64 0, .int .i64 10])) := by
            unfold DecPost
            rw [hd, if_neg hw, if_neg (fun e => hk (by rw [e]; rfl))]
            exact ⟨10, by decide, rfl⟩
          have hk2 : (vCls (v : Int) == 2) = false := beq_eq_false_iff_ne.2 hk
          have hk3 : (vCls (v : Int) != 2) = true := by simp only [bne, hk2, Bool.not_false]
          have HD := Lib.hid hD
          clear hD hd hv hm hml hc
          go_enter Try.func127, Try.ntmps127
          go_wp2_with fail
          go_quiet (first | (go_at_call 130; refine Calls.quiet_of_same ((hcall _).mono fun _ _ h => ⟨h.1, h.2.symm⟩)))
          go_wp2_with fail
          refine (hcl _).mono ?_
          rintro e w2 ⟨rfl, ho⟩
          have HO := Lib.hid (Only.trans ((Only.refl [] w).drewN _) ho)
          clear ho
          go_wp2_with fail
          go_ret3
          exact ⟨HD.out, HO.out⟩
    · have hd : vDec (s.data.toList.drop a) = if s.size - a < 8 then none else if vCls ((rdK s a 8 % 4611686018427387904 : Nat) : Int) = (3 : Nat) then some (((rdK s a 8 % 4611686018427387904 : Nat) : Int), 8) else none := hd
      have hcI : (x.toNat : Int) / 64 = 3 := by omega
      have hp2 : wrap64 (8) = 8 := by kernel_rfl
      have h0' : ¬ (a : Int) = s.size := by omega
      have h1' : (a : Int) < s.size := by omega
      have hb : ((a : Int) == s.size) = false := beq_eq_false_iff_ne.2 h0'
      have f1 : IntKind.i64.wrap ((s.size : Int) - a) = (s.size : Int) - a := IntWalk.i64_in _ (by omega)
      by_cases hw : s.size - a < 8
      · have hD : DecPost s a (.returned (.tuple #[.int .i64 0, .int .i64 0, .int .i64 11])) := by
          unfold DecPost
          rw [hd, if_pos hw]
          exact ⟨11, by decide, rfl⟩
        have HD := Lib.hid hD
        have hw' : (s.size : Int) - a < 8 := by omega
        clear hD hd
        go_enter Try.func127, Try.ntmps127
        go_wp2_with fail
        go_ret3
        exact ⟨HD.out, Only.refl _ _⟩
      · have hw' : ¬ (s.size : Int) - a < 8 := by omega
        obtain ⟨m, hm⟩ : ∃ m, rdK s a 8 = m := ⟨_, rfl⟩
        have hml : m < 256 ^ 8 := by rw [← hm]; exact rdK_lt s a 8
        have hcall := fun ww => vread_c s a 8 (by omega) (by omega) (by omega) ww
        have hmask : bits .and .u64 ((m : Nat) : Int) 4611686018427387903 = ((m % 4611686018427387904 : Nat) : Int) := and_mask m 4611686018427387904 62 (by decide) (by omega) (by omega)
        rw [hm] at hd
        simp only [hm] at hcall
        obtain ⟨v, hv⟩ : ∃ v : Nat, m % 4611686018427387904 = v := ⟨_, rfl⟩
        have hvl : v < 4611686018427387904 := by omega
        rw [hv] at hd hmask
        have f2 : IntKind.i64.wrap ((a : Int) + 8) = (a : Int) + 8 := IntWalk.i64_in _ (by omega)
        have f3 : IntKind.i64.wrap (v : Int) = (v : Int) := IntWalk.i64_in _ (by omega)
        have f4 : wrap64 (v : Int) = (v : Int) := IntWalk.wrap64_in _ (by omega)
        have hcl := fun ww => class_c v ww
        by_cases hk : vCls (v : Int) = 3
        · have hD : DecPost s a (.returned (.tuple #[.int .i64 v, .int .i64 ((a : Int) + 8), .int .i64 0])) := by
            unfold DecPost
            rw [hd, if_neg hw, if_pos (by rw [hk]; rfl)]
            simp
          simp only [hk] at hcl
          clear hk
          have HD := Lib.hid hD
          clear hD hd hv hm hml hc
          go_enter Try.func127, Try.ntmps127
          go_wp2_with fail
          go_quiet (first | (go_at_call 130; refine Calls.quiet_of_same ((hcall _).mono fun _ _ h => ⟨h.1, h.2.symm⟩)))
          go_wp2_with fail
          refine (hcl _).mono ?_
          rintro e w2 ⟨rfl, ho⟩
          have HO := Lib.hid (Only.trans ((Only.refl [] w).drewN _) ho)
          clear ho
          go_wp2_with fail
          go_ret3
          exact ⟨HD.out, HO.out⟩
        · have hD : DecPost s a (.returned (.tuple #[.int .i64 0, .int .i64 0, .int .i64 10])) := by
            unfold DecPost
            rw [hd, if_neg hw, if_neg (fun e => hk (by rw [e]; rfl))]
            exact ⟨10, by decide, rfl⟩
          have hk2 : (vCls (v : Int) == 3) = false := beq_eq_false_iff_ne.2 hk
          have hk3 : (vCls (v : Int) != 3) = true := by simp only [bne, hk2, Bool.not_false]
          have HD := Lib.hid hD
          clear hD hd hv hm hml hc
          go_enter Try.func127, Try.ntmps127
          go_wp2_with fail
          go_quiet (first | (go_at_call 130; refine Calls.quiet_of_same ((hcall _).mono fun _ _ h => ⟨h.1, h.2.symm⟩)))
          go_wp2_with fail
          refine (hcl _).mono ?_
          rintro e w2 ⟨rfl, ho⟩
          have HO := Lib.hid (Only.trans ((Only.refl [] w).drewN _) ho)
          clear ho
          go_wp2_with fail
          go_ret3
          exact ⟨HD.out, HO.out⟩
end Go.Proofs.Ytmmgmpghkpbgkaa
