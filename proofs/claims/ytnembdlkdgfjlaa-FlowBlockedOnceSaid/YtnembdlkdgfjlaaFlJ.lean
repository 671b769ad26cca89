/- The walk of FlowBlockedOnce. -/
import Derived.Test.YtnembdlkdgfjlaaFlG
import Derived.Test.YtnembdlkdgfjlaaArg
import Derived.Deep.RegionHeld3
namespace Go.Proofs.Ytnembdlkdgfjlaa
open Go.RowKit
set_option linter.unusedVariables false
set_option linter.unusedSimpArgs false

theorem only_undrew {S : List Nat} {n : Nat} {w w' : World} (h : Only S (w.drewN n) w') : Only S w w' := ⟨h.os, h.tape, h.output, h.size, h.block⟩
theorem avail_is (b : Nat) (m u t v : Int) (w : World) (hA : At w b 60 #[.int .i64 m, .int .i64 u, .int .i64 t]) (b0 : 0 ≤ u) (b1 : u ≤ m) (b2 : m ≤ 1099511627776) (hv : m - u = v) :
    Calls Try.prog 28 #[.pointer (some ⟨b, 0, none⟩)] w fun e w' => e = .returned (.int .i64 v) ∧ ∃ n, w' = w.drewN n := by
  subst hv; exact avail_c b m u t w hA b0 b1 b2
def ORel (w : World) (sa : Nat) (l i : Value) (wr : World) : Prop := ∃ (k : Nat) (m t : Int), l = .int .i64 m ∧ i = .int .i64 k ∧ k ≤ 60 ∧ 0 ≤ m ∧ m ≤ 256 * (k : Int) ∧ -1 ≤ t ∧ t < m ∧
  At wr sa 60 #[.int .i64 m, .int .i64 m, .int .i64 (t + 1)] ∧ Below w.heap.size w wr

set_option maxRecDepth 100000 in
set_option maxHeartbeats 400000 in
theorem once_walk (a0 : Option Addr) (len0 cap0 : Nat) (Z : Nat → Int) (w : World) (w0 : Ints .u8 w a0 len0 Z) :
    Calls Try.prog 8 #[.slice a0 len0 cap0] w fun e w' => e = .returned (.bool true) ∧ Below w.heap.size w w' := by
  go_enter Try.func8, Try.ntmps8
  go_wp2_with fail
  refine (sane_any _).mono ?_
  rintro e wA ⟨rfl, hb⟩
  go_wp2_with fail
  refine (newsnd_ok _ _ (by omega) (by omega)).mono ?_
  rintro e wk ⟨rfl, rfl⟩
  have ha := at3 (c' := -1 + 1) (At.new wA 60 #[.int .i64 0, .int .i64 0, .int .i64 0]) rfl rfl rfl
  have hbb := hb.alloc hb.size (.cells #[.int .i64 0, .int .i64 0, .int .i64 0] 60)
  go_wp2_with fail
  go_loopw [5, 6] (fun l i wr => ORel w wA.heap.size l i wr) (fun _ i _ => 60 - (intOf i).toNat)
  case atStart => exact ⟨0, _, _, rfl, rfl, by omega, by omega, by omega, by omega, by omega, ha, hbb⟩
  case round =>
    obtain ⟨k, m, t, rfl, rfl, hk, i0, i1, i2, i3, hsa, hbw⟩ := hrel
    have hsz := hb.size
    clear ha hbb hb
    by_cases hlt : k < len0 ∧ k < 60
    · obtain ⟨hlt1, hlt2⟩ := hlt
      obtain ⟨b, off, rfl, hbs, hc0, hw0⟩ := w0 k hlt1
      have hc : w.cell? ⟨b, off + k, none⟩ = some (.int .u8 (Z k)) := hc0
      have HC := Lib.hid hc
      rw [← hbw.cell hbs] at hc0
      obtain ⟨k0, k1⟩ := wf_u8 hw0
      clear hw0 w0 hc
      have e0 : IntKind.i64.wrap (Z k) = Z k := IntWalk.i64_in _ (by omega)
      go_wp2_with fail
      refine (block_yes _ _ _ _ _ hsa (by omega) (by omega) (by omega) (by omega) (by omega) (by omega) (by omega)).mono ?_
      rintro e w2 ⟨rfl, hsa2, ho⟩
      have hbw2 := hbw.trans (ho.below (by simp; omega) hbw.size)
      clear ho
      go_wp2_with fail
      refine (block_no _ _ _ _ _ hsa2 (by omega) (by omega) (by omega) (by omega) (by omega) (by omega)).mono ?_
      rintro e w3 ⟨rfl, hsa3, ho⟩
      have hbw3 := hbw2.trans (ho.below (by simp; omega) hbw2.size)
      clear ho
      have hc3 : w3.cell? ⟨b, off + k, none⟩ = some (.int .u8 (Z k)) := by rw [hbw3.cell hbs]; exact HC.out
      go_wp2_with fail
      refine (raise_up _ _ _ _ _ _ hsa3 (by omega) (by omega)).mono ?_
      rintro e w4 ⟨rfl, hsa4, ho⟩
      have hbw4 := hbw3.trans (ho.below (by simp; omega) hbw3.size)
      clear ho
      go_wp2_with fail
      refine (block_no _ _ _ _ _ hsa4 (by omega) (by omega) (by omega) (by omega) (by omega) (by omega)).mono ?_
      rintro e w5 ⟨rfl, hsa5, ho⟩
      have hbw5 := hbw4.trans (ho.below (by simp; omega) hbw4.size)
      clear ho
      have hc5 : w5.cell? ⟨b, off + k, none⟩ = some (.int .u8 (Z k)) := by rw [hbw5.cell hbs]; exact HC.out
      clear hsa hsa2 hsa3 hsa4 hbw hbw2 hbw3 hbw4 hc0 hc3
      have e1 : IntKind.i64.wrap (1 + Z k) = 1 + Z k := IntWalk.i64_in _ (by omega)
      have e2 : IntKind.i64.wrap (1 + Z k + 1) = 1 + Z k + 1 := IntWalk.i64_in _ (by omega)
      have n1 : (1 + Z k != 1 + Z k) = false := by simp
      go_wp2_with fail
      have hs5 : wA.heap.size < w5.heap.size := hsa5.lt
      have hb5 : b < w5.heap.size := by have := hbw5.size; omega
      have hnb : b ≠ wA.heap.size := by omega
      go_region_held3 (fun w' => w'.cell? ⟨b, off + k, none⟩ = some (.int .u8 (Z k))) (first | exact hc5 | exact hc6 | exact hc7)
        (first
        | (go_at_call 28; (first | refine (avail_is _ _ _ _ (1 + Z k) _ (by exact hsa6) (by omega) (by omega) (by omega) (by omega)).mono ?_ | refine (avail_is _ _ _ _ (1 + Z k) _ (by exact hsa5) (by omega) (by omega) (by omega) (by omega)).mono ?_); rintro e wk ⟨rfl, nd, rfl⟩)
        | (go_at_call 22; first | (refine (use_ok _ _ _ _ _ _ (by exact hsa6) (by omega) (by omega) (by omega) (by omega) (by omega)).mono ?_; rintro e w7 ⟨rfl, hsa7, ho7⟩; have hc7 : w7.cell? ⟨b, off + k, none⟩ = some (.int .u8 (Z k)) := (ho7.cell (p := ⟨b, off + k, none⟩) (by simp; omega) (by simp; omega)).trans hc6) | (refine (use_big _ _ _ _ _ _ (by exact hsa5) (by omega) (by omega) (by omega) (by omega) (by omega)).mono ?_; rintro e w6 ⟨rfl, hsa6, ho6⟩; have hz6 : w5.heap.size ≤ w6.heap.size := ho6.size; have hc6 : w6.cell? ⟨b, off + k, none⟩ = some (.int .u8 (Z k)) := (ho6.cell (p := ⟨b, off + k, none⟩) (by simp; omega) (by simp; omega)).trans hc5)))
      have hbw6 : Below w.heap.size w w6 := hbw5.trans ((only_undrew ho6).below (by simp; omega) hbw5.size)
      have hbw7 : Below w.heap.size w w7 := hbw6.trans ((only_undrew ho7).below (by simp; omega) hbw6.size)
      have hsa8 := at3 (b' := m + 1 + Z k) hsa7 rfl (by omega) rfl
      clear hsa7 ho6 ho7 hsa6 hsa5
      go_wp2_with fail
      refine (raise_low _ _ _ _ _ _ hsa8 (by omega) (by omega)).mono ?_
      rintro e w9 ⟨rfl, hsa9, ho⟩
      have hbw9 := hbw7.trans (ho.below (by simp; omega) hbw7.size)
      clear ho hsa8
      go_wp2_with fail
      refine (avail_is _ _ _ _ 0 _ hsa9 (by omega) (by omega) (by omega) (by omega)).mono ?_
      rintro e wk ⟨rfl, nd, rfl⟩
      go_wp2_with fail
      go_roundw
      case rel => exact ⟨k + 1, _, _, rfl, by go_num, by omega, by omega, by omega, by omega, by omega, hsa9.drewN _, ⟨hbw9.os, hbw9.tape, hbw9.output, hbw9.size, hbw9.block⟩⟩
      case measure => simp [intOf]; omega
    · by_cases hl1 : k < len0
      all_goals
        go_wp2_with fail
        go_ret
        exact ⟨rfl, hbw⟩
end Go.Proofs.Ytnembdlkdgfjlaa
