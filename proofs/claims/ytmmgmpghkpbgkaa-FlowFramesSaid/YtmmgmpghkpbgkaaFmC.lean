/- Contracts of package flow and of its reference: Limit, the makers, Sender. -/
import Derived.Test.YtmmgmpghkpbgkaaFmB
namespace Go.Proofs.Ytmmgmpghkpbgkaa
open Go.RowKit
set_option linter.unusedVariables false
set_option linter.unusedSimpArgs false

def blkB (m u t : Int) : Bool := decide (m ≤ u ∧ t ≠ m)
def blkN (m u t : Int) : Int := if blkB m u t then m else 0
def blkT (m u t : Int) : Int := if blkB m u t then m else t

theorem limit_c (b : Nat) (m wi h r : Int) (w : World) (hA : At w b 130 #[.int .i64 m, .int .i64 wi, .int .i64 h, .int .i64 r]) :
    Calls Try.prog 72 #[.pointer (some ⟨b, 0, none⟩)] w fun e w' => e = .returned (.int .i64 m) ∧ w = w' := by
  have c0 : w.cell? ⟨b, 0, none⟩ = some (.int .i64 m) := hA.cell 0 rfl
  clear hA
  go_enter Try.func72, Try.ntmps72
  go_wp2
  go_ret
  exact ⟨rfl, rfl⟩

theorem newrec_ok (n : Int) (w : World) (h0 : 0 ≤ n) (h1 : n ≤ 1073741824) :
    Calls Try.prog 37 #[.int .i64 n] w fun e w' => e = .returned (.tuple #[.pointer (some ⟨w.heap.size, 0, none⟩), .int .i64 0]) ∧ w' = w.alloc (.cells #[.int .i64 n, .int .i64 n, .int .i64 0, .int .i64 0] 130) := by
  go_enter Try.func37, Try.ntmps37
  go_wp2
  go_ret2
  exact ⟨rfl, rfl⟩
theorem newrec_no (n : Int) (w : World) (h0 : n < 0 ∨ 1073741824 < n) :
    Calls Try.prog 37 #[.int .i64 n] w fun e w' => e = .returned (.tuple #[.pointer none, .int .i64 2]) ∧ w = w' := by
  rcases h0 with h0 | h0
  · go_enter Try.func37, Try.ntmps37
    go_wp2
    go_ret2
    exact ⟨rfl, rfl⟩
  · have h1 : 0 ≤ n := by omega
    go_enter Try.func37, Try.ntmps37
    go_wp2
    go_ret2
    exact ⟨rfl, rfl⟩

theorem newsnd_ok (n : Int) (w : World) (h0 : 0 ≤ n) (h1 : n ≤ 1099511627776) :
    Calls Try.prog 38 #[.int .i64 n] w fun e w' => e = .returned (.tuple #[.pointer (some ⟨w.heap.size, 0, none⟩), .int .i64 0]) ∧ w' = w.alloc (.cells #[.int .i64 n, .int .i64 0, .int .i64 0] 132) := by
  go_enter Try.func38, Try.ntmps38
  go_wp2
  go_ret2
  exact ⟨rfl, rfl⟩
theorem newsnd_no (n : Int) (w : World) (h0 : n < 0 ∨ 1099511627776 < n) :
    Calls Try.prog 38 #[.int .i64 n] w fun e w' => e = .returned (.tuple #[.pointer none, .int .i64 2]) ∧ w = w' := by
  rcases h0 with h0 | h0
  · go_enter Try.func38, Try.ntmps38
    go_wp2
    go_ret2
    exact ⟨rfl, rfl⟩
  · have h1 : 0 ≤ n := by omega
    go_enter Try.func38, Try.ntmps38
    go_wp2
    go_ret2
    exact ⟨rfl, rfl⟩

theorem avail_c (b : Nat) (m u t : Int) (w : World) (hA : At w b 132 #[.int .i64 m, .int .i64 u, .int .i64 t]) (b0 : 0 ≤ u) (b1 : u ≤ m) (b2 : m ≤ 1099511627776) :
    Calls Try.prog 39 #[.pointer (some ⟨b, 0, none⟩)] w fun e w' => e = .returned (.int .i64 (m - u)) ∧ ∃ n, w' = w.drewN n := by
  have c0 : w.cell? ⟨b, 0, none⟩ = some (.int .i64 m) := hA.cell 0 rfl
  have c1 : w.cell? ⟨b, 1, none⟩ = some (.int .i64 u) := hA.cell 1 rfl
  clear hA
  have e1 : IntKind.i64.wrap (m - u) = m - u := IntWalk.i64_in _ (by omega)
  go_enter Try.func39, Try.ntmps39
  go_wp2
  go_quiet (fail)
  go_wp2
  go_ret
  exact ⟨rfl, _, rfl⟩

theorem sraise_c (b : Nat) (m u t n : Int) (w : World) (hA : At w b 132 #[.int .i64 m, .int .i64 u, .int .i64 t]) :
    Calls Try.prog 44 #[.pointer (some ⟨b, 0, none⟩), .int .i64 n] w fun e w' => e = .returned (.tuple #[]) ∧ At w' b 132 #[.int .i64 (raiseZ m n), .int .i64 u, .int .i64 t] ∧ Only [b] w w' := by
  have c0 : w.cell? ⟨b, 0, none⟩ = some (.int .i64 m) := hA.cell 0 rfl
  have f0 := hA.free 0
  have HA := Lib.hid hA; clear hA
  go_enter Try.func44, Try.ntmps44
  go_wp2_with ((go_at_call 73; refine (raise_c _ _ _ _ c0 f0).mono ?_; rintro e w' ⟨rfl, rfl⟩))
  go_end0
  exact ⟨rfl, at3 (HA.out.set 0 _ rfl) rfl rfl rfl, by repeat (first | with_reducible exact Only.refl _ _ | with_reducible apply Only.drewN | with_reducible apply Only.drew | with_reducible apply Only.alloc | (with_reducible refine Only.put ?_ (by simp) _))⟩

set_option maxHeartbeats 400000 in
theorem use_c (b : Nat) (m u t n : Int) (w : World) (hA : At w b 132 #[.int .i64 m, .int .i64 u, .int .i64 t]) (b0 : 0 ≤ u) (b1 : u ≤ m) (b2 : m ≤ 1099511627776) :
    Calls Try.prog 40 #[.pointer (some ⟨b, 0, none⟩), .int .i64 n] w fun e w' => e = .returned (.int .i64 (useE m u n)) ∧ At w' b 132 #[.int .i64 m, .int .i64 (useU m u n), .int .i64 t] ∧ Only [b] w w' := by
  have c1 : w.cell? ⟨b, 1, none⟩ = some (.int .i64 u) := hA.cell 1 rfl
  have f1 := hA.free 1
  have HA := Lib.hid hA; clear hA
  by_cases h1 : n < 0
  · have z1 : useE m u n = 2 := by simp [useE, h1]
    have z2 : useU m u n = u := by simp [useU, h1]
    have Z1 := Lib.hid z1
    have Z2 := Lib.hid z2
    clear z1 z2
    go_enter Try.func40, Try.ntmps40
    go_wp2_with ((go_at_call 39; refine (avail_c _ _ _ _ _ HA.out b0 b1 b2).mono ?_; rintro e w' ⟨rfl, nd, rfl⟩))
    go_ret
    exact ⟨ret_int Z1.out.symm, at3 HA.out rfl Z2.out.symm rfl, by repeat (first | with_reducible exact Only.refl _ _ | with_reducible apply Only.drewN | with_reducible apply Only.drew | with_reducible apply Only.alloc | (with_reducible refine Only.put ?_ (by simp) _))⟩
  by_cases h2 : m - u < n
  · have z1 : useE m u n = 150 := by simp [useE, h1, h2]
    have z2 : useU m u n = u := by simp [useU, h1, h2]
    have Z1 := Lib.hid z1
    have Z2 := Lib.hid z2
    clear z1 z2
    go_enter Try.func40, Try.ntmps40
    go_wp2_with ((go_at_call 39; refine (avail_c _ _ _ _ _ HA.out b0 b1 b2).mono ?_; rintro e w' ⟨rfl, nd, rfl⟩))
    go_ret
    exact ⟨ret_int Z1.out.symm, at3 HA.out rfl Z2.out.symm rfl, by repeat (first | with_reducible exact Only.refl _ _ | with_reducible apply Only.drewN | with_reducible apply Only.drew | with_reducible apply Only.alloc | (with_reducible refine Only.put ?_ (by simp) _))⟩
  · have z1 : useE m u n = 0 := by simp [useE, h1, h2]
    have z2 : useU m u n = u + n := by simp [useU, h1, h2]
    have Z1 := Lib.hid z1
    have Z2 := Lib.hid z2
    clear z1 z2
    go_enter Try.func40, Try.ntmps40
    go_wp2_with ((go_at_call 39; refine (avail_c _ _ _ _ _ HA.out b0 b1 b2).mono ?_; rintro e w' ⟨rfl, nd, rfl⟩))
    go_ret
    exact ⟨ret_int Z1.out.symm, at3 (HA.out.set 1 _ rfl) rfl Z2.out.symm rfl, by repeat (first | with_reducible exact Only.refl _ _ | with_reducible apply Only.drewN | with_reducible apply Only.drew | with_reducible apply Only.alloc | (with_reducible refine Only.put ?_ (by simp) _))⟩

set_option maxHeartbeats 1000000 in
theorem block_c (b : Nat) (m u t : Int) (w : World) (hA : At w b 132 #[.int .i64 m, .int .i64 u, .int .i64 (t + 1)]) (b0 : 0 ≤ u) (b1 : u ≤ m) (b2 : m ≤ 1099511627776) (b3 : -1 ≤ t) (b4 : t ≤ 1099511627776) :
    Calls Try.prog 45 #[.pointer (some ⟨b, 0, none⟩)] w fun e w' => e = .returned (.tuple #[.int .i64 (blkN m u t), .bool (blkB m u t)]) ∧ At w' b 132 #[.int .i64 m, .int .i64 u, .int .i64 (blkT m u t + 1)] ∧ Only [b] w w' := by
  have c0 : w.cell? ⟨b, 0, none⟩ = some (.int .i64 m) := hA.cell 0 rfl
  have c2 : w.cell? ⟨b, 2, none⟩ = some (.int .i64 (t + 1)) := hA.cell 2 rfl
  have f2 := hA.free 2
  have HA := Lib.hid hA; clear hA
  have e1 : IntKind.i64.wrap (m + 1) = m + 1 := IntWalk.i64_in _ (by omega)
  by_cases h1 : 0 < m - u
  · have h1' : decide (0 < m - u) = true := by simpa using h1
    have h1'' : decide (u < m) = true := by simp; omega
    have z1 : blkB m u t = false := by unfold blkB; rw [decide_eq_false (by omega)]
    have z2 : blkN m u t = 0 := by simp [blkN, z1]
    have z3 : blkT m u t = t := by simp [blkT, z1]
    have Z1 := Lib.hid z1
    have Z2 := Lib.hid z2
    have Z3 := Lib.hid z3
    clear z1 z2 z3
    go_enter Try.func45, Try.ntmps45
    go_wp2
    go_quiet ((go_at_call 39; refine Calls.quiet_of (avail_c _ _ _ _ _ HA.out b0 b1 b2)))
    go_wp2
    go_ret2
    exact ⟨ret_intb Z2.out.symm Z1.out.symm, at3 HA.out rfl rfl (by rw [Z3.out]), by repeat (first | with_reducible exact Only.refl _ _ | with_reducible apply Only.drewN | with_reducible apply Only.drew | with_reducible apply Only.alloc | (with_reducible refine Only.put ?_ (by simp) _))⟩
  · have h1' : decide (0 < m - u) = false := by simpa using h1
    have h1'' : decide (u < m) = false := by simp; omega
    by_cases h2 : t = m
    · subst h2
      have hq : (t == t) = true := by simp
      have z1 : blkB t u t = false := by unfold blkB; simp
      have z2 : blkN t u t = 0 := by simp [blkN, z1]
      have z3 : blkT t u t = t := by simp [blkT, z1]
      have Z1 := Lib.hid z1
      have Z2 := Lib.hid z2
      have Z3 := Lib.hid z3
      clear z1 z2 z3
      go_enter Try.func45, Try.ntmps45
      go_wp2
      go_quiet ((go_at_call 39; refine Calls.quiet_of (avail_c _ _ _ _ _ HA.out b0 b1 b2)))
      go_wp2
      go_ret2
      exact ⟨ret_intb Z2.out.symm Z1.out.symm, at3 HA.out rfl rfl (by rw [Z3.out]), by repeat (first | with_reducible exact Only.refl _ _ | with_reducible apply Only.drewN | with_reducible apply Only.drew | with_reducible apply Only.alloc | (with_reducible refine Only.put ?_ (by simp) _))⟩
    · have hq : (t + 1 == m + 1) = false := by rw [beq_eq_false_iff_ne]; omega
      have z1 : blkB m u t = true := by unfold blkB; rw [decide_eq_true]; omega
      have z2 : blkN m u t = m := by simp [blkN, z1]
      have z3 : blkT m u t = m := by simp [blkT, z1]
      have Z1 := Lib.hid z1
      have Z2 := Lib.hid z2
      have Z3 := Lib.hid z3
      clear z1 z2 z3 h2
      go_enter Try.func45, Try.ntmps45
      go_wp2
      go_quiet ((go_at_call 39; refine Calls.quiet_of (avail_c _ _ _ _ _ HA.out b0 b1 b2)))
      go_wp2
      go_ret2
      exact ⟨ret_intb Z2.out.symm Z1.out.symm, at3 (HA.out.set 2 _ rfl) rfl rfl (by rw [Z3.out]), by repeat (first | with_reducible exact Only.refl _ _ | with_reducible apply Only.drewN | with_reducible apply Only.drew | with_reducible apply Only.alloc | (with_reducible refine Only.put ?_ (by simp) _))⟩

end Go.Proofs.Ytmmgmpghkpbgkaa
