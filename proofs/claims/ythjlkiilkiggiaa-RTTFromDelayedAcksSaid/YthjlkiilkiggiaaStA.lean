/- Contracts of package rtt: the helpers. -/
import Derived.Test.YthjlkiilkiggiaaStM
import Derived.RegionTactic
import Derived.BigRegion
import Derived.Deep.RegionWith
import Derived.Deep.RegionHeld3
import Derived.Laws.EntriesVeiled
namespace Go.Proofs.Ythjlkiilkiggiaa.Rt
open Go.Proofs.Ythjlkiilkiggiaa
open Go.RowKit
set_option linter.unusedVariables false
set_option linter.unusedSimpArgs false


set_option maxHeartbeats 400000 in
theorem most_c (g : Nat) (a b : Int) (w : World) (h0 : w.cell? ⟨g, 0, none⟩ = some (.int .i64 a)) (h1 : w.cell? ⟨g, 1, none⟩ = some (.int .i64 b)) :
    Calls Try.prog 40 #[.slice (some ⟨g, 0, none⟩) 2 2] w fun e w' => e = .returned (.int .i64 (mxZ a b)) ∧ w = w' := by
  have hz : mxZ a b = if a < b then b else a := rfl
  have HZ := Lib.hid hz; clear hz
  by_cases hab : a < b
  all_goals
    go_enter Try.func40, Try.ntmps40
    go_wp2
    refine wp_loop_rounds 2 ?_
    rw [rounds_succ]
    go_wp2
    rw [rounds_succ]
    go_wp2
    go_ret
    exact ⟨ret_int (by rw [HZ.out]; first | rw [if_pos (by omega)] | rw [if_neg (by omega)]), rfl⟩
set_option maxHeartbeats 400000 in
theorem least_c (g : Nat) (a b : Int) (w : World) (h0 : w.cell? ⟨g, 0, none⟩ = some (.int .i64 a)) (h1 : w.cell? ⟨g, 1, none⟩ = some (.int .i64 b)) :
    Calls Try.prog 41 #[.slice (some ⟨g, 0, none⟩) 2 2] w fun e w' => e = .returned (.int .i64 (mnZ a b)) ∧ w = w' := by
  have hz : mnZ a b = if b < a then b else a := rfl
  have HZ := Lib.hid hz; clear hz
  by_cases hab : b < a
  all_goals
    go_enter Try.func41, Try.ntmps41
    go_wp2
    refine wp_loop_rounds 2 ?_
    rw [rounds_succ]
    go_wp2
    rw [rounds_succ]
    go_wp2
    go_ret
    exact ⟨ret_int (by rw [HZ.out]; first | rw [if_pos (by omega)] | rw [if_neg (by omega)]), rfl⟩

section
variable (b : Nat) (S V L M : Int) (w : World) (hA : At w b 78 #[.int .i64 S, .int .i64 V, .int .i64 L, .int .i64 M])
include hA
theorem smoothed_c (h0 : 0 ≤ S) (h1 : S ≤ 1000000000) : Calls Try.prog 27 #[.pointer (some ⟨b, 0, none⟩)] w fun e w' => e = .returned (.int .i64 (S / 8)) ∧ w = w' := by
  have c0 : w.cell? ⟨b, 0, none⟩ = some (.int .i64 S) := hA.cell 0 rfl
  clear hA
  go_enter Try.func27, Try.ntmps27
  go_wp2
  go_ret
  exact ⟨rfl, rfl⟩
theorem variation_c (h0 : 0 ≤ V) (h1 : V ≤ 1000000000) : Calls Try.prog 37 #[.pointer (some ⟨b, 0, none⟩)] w fun e w' => e = .returned (.int .i64 (V / 4)) ∧ w = w' := by
  have c0 : w.cell? ⟨b, 1, none⟩ = some (.int .i64 V) := hA.cell 1 rfl
  clear hA
  go_enter Try.func37, Try.ntmps37
  go_wp2
  go_ret
  exact ⟨rfl, rfl⟩
theorem minimum_c : Calls Try.prog 28 #[.pointer (some ⟨b, 0, none⟩)] w fun e w' => e = .returned (.int .i64 M) ∧ w = w' := by
  have c0 : w.cell? ⟨b, 3, none⟩ = some (.int .i64 M) := hA.cell 3 rfl
  clear hA
  go_enter Try.func28, Try.ntmps28
  go_wp2
  go_ret
  exact ⟨rfl, rfl⟩
end
theorem new_c (w : World) : Calls Try.prog 24 #[] w fun e w' => e = .returned (.pointer (some ⟨w.heap.size, 0, none⟩)) ∧ w' = w.alloc (.cells #[.int .i64 80, .int .i64 20, .int .i64 0, .int .i64 0] 78) := by
  go_enter Try.func24, Try.ntmps24
  go_wp2
  go_ret
  exact ⟨rfl, rfl⟩
end Go.Proofs.Ythjlkiilkiggiaa.Rt
