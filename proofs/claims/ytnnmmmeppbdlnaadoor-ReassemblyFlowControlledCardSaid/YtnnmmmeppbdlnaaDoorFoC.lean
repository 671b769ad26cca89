/- Contracts of package flow: Limit, the makers, Sender. -/
import Derived.Test.YtnnmmmeppbdlnaaDoorFoA
namespace Go.Proofs.YtnnmmmeppbdlnaaDoor
open Go.RowKit
set_option linter.unusedVariables false
set_option linter.unusedSimpArgs false

def blkB (m u t : Int) : Bool := decide (m ≤ u ∧ t ≠ m)
def blkN (m u t : Int) : Int := if blkB m u t then m else 0
def blkT (m u t : Int) : Int := if blkB m u t then m else t

theorem newrec_ok (n : Int) (w : World) (h0 : 0 ≤ n) (h1 : n ≤ 1073741824) :
    Calls Tryd.prog 26 #[.int .i64 n] w fun e w' => e = .returned (.tuple #[.pointer (some ⟨w.heap.size, 0, none⟩), .int .i64 0]) ∧ w' = w.alloc (.cells #[.int .i64 n, .int .i64 n, .int .i64 0, .int .i64 0] 78) := by
  go_enter Tryd.func26, Tryd.ntmps26
  go_wp2
  go_ret2
  exact ⟨rfl, rfl⟩
theorem newrec_no (n : Int) (w : World) (h0 : n < 0 ∨ 1073741824 < n) :
    Calls Tryd.prog 26 #[.int .i64 n] w fun e w' => e = .returned (.tuple #[.pointer none, .int .i64 2]) ∧ w = w' := by
  rcases h0 with h0 | h0
  · go_enter Tryd.func26, Tryd.ntmps26
    go_wp2
    go_ret2
    exact ⟨rfl, rfl⟩
  · have h1 : 0 ≤ n := by omega
    go_enter Tryd.func26, Tryd.ntmps26
    go_wp2
    go_ret2
    exact ⟨rfl, rfl⟩

theorem newsnd_ok (n : Int) (w : World) (h0 : 0 ≤ n) (h1 : n ≤ 1099511627776) :
    Calls Tryd.prog 27 #[.int .i64 n] w fun e w' => e = .returned (.tuple #[.pointer (some ⟨w.heap.size, 0, none⟩), .int .i64 0]) ∧ w' = w.alloc (.cells #[.int .i64 n, .int .i64 0, .int .i64 0] 80) := by
  go_enter Tryd.func27, Tryd.ntmps27
  go_wp2
  go_ret2
  exact ⟨rfl, rfl⟩
theorem newsnd_no (n : Int) (w : World) (h0 : n < 0 ∨ 1099511627776 < n) :
    Calls Tryd.prog 27 #[.int .i64 n] w fun e w' => e = .returned (.tuple #[.pointer none, .int .i64 2]) ∧ w = w' := by
  rcases h0 with h0 | h0
  · go_enter Tryd.func27, Tryd.ntmps27
    go_wp2
    go_ret2
    exact ⟨rfl, rfl⟩
  · have h1 : 0 ≤ n := by omega
    go_enter Tryd.func27, Tryd.ntmps27
    go_wp2
    go_ret2
    exact ⟨rfl, rfl⟩

theorem avail_c (b : Nat) (m u t : Int) (w : World) (hA : At w b 80 #[.int .i64 m, .int .i64 u, .int .i64 t]) (b0 : 0 ≤ u) (b1 : u ≤ m) (b2 : m ≤ 1099511627776) :
    Calls Tryd.prog 28 #[.pointer (some ⟨b, 0, none⟩)] w fun e w' => e = .returned (.int .i64 (m - u)) ∧ ∃ n, w' = w.drewN n := by
  have c0 : w.cell? ⟨b, 0, none⟩ = some (.int .i64 m) := hA.cell 0 rfl
  have c1 : w.cell? ⟨b, 1, none⟩ = some (.int .i64 u) := hA.cell 1 rfl
  clear hA
  have e1 : IntKind.i64.wrap (m - u) = m - u := IntWalk.i64_in _ (by omega)
  go_enter Tryd.func28, Tryd.ntmps28
  go_wp2
  go_quiet (fail)
  go_wp2
  go_ret
  exact ⟨rfl, _, rfl⟩

theorem sraise_c (b : Nat) (m u t n : Int) (w : World) (hA : At w b 80 #[.int .i64 m, .int .i64 u, .int .i64 t]) :
    Calls Tryd.prog 33 #[.pointer (some ⟨b, 0, none⟩), .int .i64 n] w fun e w' => e = .returned (.tuple #[]) ∧ At w' b 80 #[.int .i64 (raiseZ m n), .int .i64 u, .int .i64 t] ∧ Only [b] w w' := by
  have c0 : w.cell? ⟨b, 0, none⟩ = some (.int .i64 m) := hA.cell 0 rfl
  have f0 := hA.free 0
  have HA := Lib.hid hA; clear hA
  go_enter Tryd.func33, Tryd.ntmps33
  go_wp2_with ((go_at_call 38; refine (raise_c _ _ _ _ c0 f0).mono ?_; rintro e w' ⟨rfl, rfl⟩))
  go_end0
  exact ⟨rfl, at3 (HA.out.set 0 _ rfl) rfl rfl rfl, by repeat (first | with_reducible exact Only.refl _ _ | with_reducible apply Only.drewN | with_reducible apply Only.drew | with_reducible apply Only.alloc | (with_reducible refine Only.put ?_ (by simp) _))⟩

set_option maxHeartbeats 400000 in
theorem use_c (b : Nat) (m u t n : Int) (w : World) (hA : At w b 80 #[.int .i64 m, .int .i64 u, .int .i64 t]) (b0 : 0 ≤ u) (b1 : u ≤ m) (b2 : m ≤ 1099511627776) :
    Calls Tryd.prog 29 #[.pointer (some ⟨b, 0, none⟩), .int .i64 n] w fun e w' => e = .returned (.int .i64 (useE m u n)) ∧ At w' b 80 #[.int .i64 m, .int .i64 (useU m u n), .int .i64 t] ∧ Only [b] w w' := by
  have c1 : w.cell? ⟨b, 1, none⟩ = some (.int .i64 u) := hA.cell 1 rfl
  have f1 := hA.free 1
  have HA := Lib.hid hA; clear hA
  by_cases h1 : n < 0
  · have z1 : useE m u n = 2 := by simp [useE, h1]
    have z2 : useU m u n = u := by simp [useU, h1]
    have Z1 := Lib.hid z1
    have Z2 := Lib.hid z2
    clear z1 z2
    go_enter Tryd.func29, Tryd.ntmps29
    go_wp2_with ((go_at_call 28; refine (avail_c _ _ _ _ _ HA.out b0 b1 b2).mono ?_; rintro e w' ⟨rfl, nd, rfl⟩))
    go_ret
    exact ⟨ret_int Z1.out.symm, at3 HA.out rfl Z2.out.symm rfl, by repeat (first | with_reducible exact Only.refl _ _ | with_reducible apply Only.drewN | with_reducible apply Only.drew | with_reducible apply Only.alloc | (with_reducible refine Only.put ?_ (by simp) _))⟩
  by_cases h2 : m - u < n
  · have z1 : useE m u n = 150 := by simp [useE, h1, h2]
    have z2 : useU m u n = u := by simp [useU, h1, h2]
    have Z1 := Lib.hid z1
    have Z2 := Lib.hid z2
    clear z1 z2
    go_enter Tryd.func29, Tryd.ntmps29
    go_wp2_with ((go_at_call 28; refine (avail_c _ _ _ _ _ HA.out b0 b1 b2).mono ?_; rintro e w' ⟨rfl, nd, rfl⟩))
    go_ret
    exact ⟨ret_int Z1.out.symm, at3 HA.out rfl Z2.out.symm rfl, by repeat (first | with_reducible exact Only.refl _ _ | with_reducible apply Only.drewN | with_reducible apply Only.drew | with_reducible apply Only.alloc | (with_reducible refine Only.put ?_ (by simp) _))⟩
  · have z1 : useE m u n = 0 := by simp [useE, h1, h2]
    have z2 : useU m u n = u + n := by simp [useU, h1, h2]
    have Z1 := Lib.hid z1
    have Z2 := Lib.hid z2
    clear z1 z2
    go_enter Tryd.func29, Tryd.ntmps29
    go_wp2_with ((go_at_call 28; refine (avail_c _ _ _ _ _ HA.out b0 b1 b2).mono ?_; rintro e w' ⟨rfl, nd, rfl⟩))
    go_ret
    exact ⟨ret_int Z1.out.symm, at3 (HA.out.set 1 _ rfl) rfl Z2.out.symm rfl, by repeat (first | with_reducible exact Only.refl _ _ | with_reducible apply Only.drewN | with_reducible apply Only.drew | with_reducible apply Only.alloc | (with_reducible refine Only.put ?_ (by simp) _))⟩

end Go.Proofs.YtnnmmmeppbdlnaaDoor
