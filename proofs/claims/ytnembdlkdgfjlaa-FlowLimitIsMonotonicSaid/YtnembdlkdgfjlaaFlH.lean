/- The walk of FlowLimitIsMonotonic. -/
import Derived.Test.YtnembdlkdgfjlaaFlG
import Derived.Test.YtnembdlkdgfjlaaArg
namespace Go.Proofs.Ytnembdlkdgfjlaa
open Go.RowKit
set_option linter.unusedVariables false
set_option linter.unusedSimpArgs false

def MInv (k : Nat) (m wi h r : Int) : Prop := 0 ≤ r ∧ r ≤ h ∧ h ≤ m ∧ m ≤ r + wi ∧ m ≤ 300 * ((k : Int) + 1)
def MRel (w : World) (ra : Nat) (wi : Int) (l hi rd i : Value) (wr : World) : Prop := ∃ (k : Nat) (m h r : Int), l = .int .i64 m ∧ hi = .int .i64 h ∧ rd = .int .i64 r ∧ i = .int .i64 k ∧ k ≤ 100 ∧ MInv k m wi h r ∧
  At wr ra 58 #[.int .i64 m, .int .i64 wi, .int .i64 h, .int .i64 r] ∧ Below w.heap.size w wr

set_option maxRecDepth 100000 in
set_option maxHeartbeats 4000000 in
theorem lmono_walk (a0 : Int) (a1 : Option Addr) (len1 cap1 : Nat) (K N : Nat → Int) (w : World) (w0 : (Lit.int .u16 a0).wf = true) (w1 : Pairs .u8 .i64 w a1 len1 K N) :
    Calls Try.prog 5 #[.int .u16 a0, .slice a1 len1 cap1] w fun e w' => e = .returned (.bool true) ∧ Below w.heap.size w w' := by
  obtain ⟨b0, c0⟩ := wf_u16 w0
  clear w0
  have hw0 : 0 ≤ a0 % 301 := by omega
  have hw1 : a0 % 301 ≤ 300 := by omega
  go_enter Try.func5, Try.ntmps5
  go_wp2_with fail
  refine (sane_any _).mono ?_
  rintro e wA ⟨rfl, hb⟩
  go_wp2_with fail
  refine (newrec_ok _ _ (by omega) (by omega)).mono ?_
  rintro e wk ⟨rfl, rfl⟩
  have ha := At.new wA 58 #[.int .i64 (a0 % 301), .int .i64 (a0 % 301), .int .i64 0, .int .i64 0]
  have hbb := hb.alloc hb.size (.cells #[.int .i64 (a0 % 301), .int .i64 (a0 % 301), .int .i64 0, .int .i64 0] 58)
  go_wp2_with fail
  refine (limit_c _ _ _ _ _ _ ha).mono ?_
  rintro e wk ⟨rfl, rfl⟩
  go_wp2_with fail
  go_loopw [8, 9, 10, 11] (fun l hi rd i wr => MRel w wA.heap.size (a0 % 301) l hi rd i wr) (fun _ _ _ i _ => 100 - (intOf i).toNat)
  case atStart => exact ⟨0, _, _, _, rfl, rfl, rfl, rfl, by omega, ⟨by omega, by omega, by omega, by omega, by omega⟩, ha, hbb⟩
  case round =>
    obtain ⟨k, m, h, r, rfl, rfl, rfl, rfl, hk, hi, hra, hbw⟩ := hrel
    have hsz := hb.size
    clear ha hbb hb
    obtain ⟨i0, i1, i2, i3, i4⟩ := hi
    by_cases hlt : k < len1 ∧ k < 100
    · obtain ⟨hlt1, hlt2⟩ := hlt
      obtain ⟨b, off, rfl, hbs, hc0, hc1, hw0, hw1⟩ := w1 k hlt1
      rw [← hbw.cell hbs] at hc0 hc1
      obtain ⟨k0, k1⟩ := wf_u8 hw0
      obtain ⟨n0, n1⟩ := wf_i64 hw1
      clear hw0 hw1 w1
      go_wp2_with fail
      refine (pick_ex _ _ _ (by omega) (by omega) (by omega)).mono ?_
      rintro e wk ⟨n, hn0, hn1, rfl, rfl⟩
      rcases (by omega : K k % 6 = 0 ∨ K k % 6 = 1 ∨ K k % 6 = 2 ∨ K k % 6 = 3 ∨ K k % 6 = 4 ∨ K k % 6 = 5) with hq | hq | hq | hq | hq | hq
      · skip
        by_cases hle : h + n ≤ m
        · skip
          go_wp2_with fail
          refine (receive_ok _ _ _ _ _ _ _ hra (by omega) (by omega) (by omega)).mono ?_
          rintro e w2 ⟨rfl, hra2, ho⟩
          have hbw2 := hbw.trans (ho.below (by simp; omega) hbw.size)
          clear ho hra hbw
          go_wp2_with ((go_at_call 19; refine (limit_c _ _ _ _ _ _ hra2).mono ?_; rintro e wk ⟨rfl, rfl⟩))
          go_roundw
          case rel => exact ⟨k + 1, _, _, _, rfl, rfl, rfl, by go_num, by omega, ⟨by omega, by omega, by omega, by omega, by omega⟩, hra2, hbw2⟩
          case measure => simp [intOf]; omega
        · skip
          go_wp2_with fail
          refine (receive_big _ _ _ _ _ _ _ hra (by omega) (by omega)).mono ?_
          rintro e w2 ⟨rfl, hra2, ho⟩
          have hbw2 := hbw.trans (ho.below (by simp; omega) hbw.size)
          clear ho hra hbw
          go_wp2_with ((go_at_call 19; refine (limit_c _ _ _ _ _ _ hra2).mono ?_; rintro e wk ⟨rfl, rfl⟩))
          go_roundw
          case rel => exact ⟨k + 1, _, _, _, rfl, rfl, rfl, by go_num, by omega, ⟨by omega, by omega, by omega, by omega, by omega⟩, hra2, hbw2⟩
          case measure => simp [intOf]; omega
      · skip
        by_cases hle : h + n ≤ m
        · skip
          go_wp2_with fail
          refine (receive_ok _ _ _ _ _ _ _ hra (by omega) (by omega) (by omega)).mono ?_
          rintro e w2 ⟨rfl, hra2, ho⟩
          have hbw2 := hbw.trans (ho.below (by simp; omega) hbw.size)
          clear ho hra hbw
          go_wp2_with ((go_at_call 19; refine (limit_c _ _ _ _ _ _ hra2).mono ?_; rintro e wk ⟨rfl, rfl⟩))
          go_roundw
          case rel => exact ⟨k + 1, _, _, _, rfl, rfl, rfl, by go_num, by omega, ⟨by omega, by omega, by omega, by omega, by omega⟩, hra2, hbw2⟩
          case measure => simp [intOf]; omega
        · skip
          go_wp2_with fail
          refine (receive_big _ _ _ _ _ _ _ hra (by omega) (by omega)).mono ?_
          rintro e w2 ⟨rfl, hra2, ho⟩
          have hbw2 := hbw.trans (ho.below (by simp; omega) hbw.size)
          clear ho hra hbw
          go_wp2_with ((go_at_call 19; refine (limit_c _ _ _ _ _ _ hra2).mono ?_; rintro e wk ⟨rfl, rfl⟩))
          go_roundw
          case rel => exact ⟨k + 1, _, _, _, rfl, rfl, rfl, by go_num, by omega, ⟨by omega, by omega, by omega, by omega, by omega⟩, hra2, hbw2⟩
          case measure => simp [intOf]; omega
      · skip
        by_cases hle : h < r + n
        · skip
          go_wp2_with fail
          refine (read_all _ _ _ _ _ _ _ hra (by omega) (by omega) (by omega) (by omega) (by omega)).mono ?_
          rintro e w2 ⟨rfl, hra2, ho⟩
          have hbw2 := hbw.trans (ho.below (by simp; omega) hbw.size)
          clear ho hra hbw
          go_wp2_with ((go_at_call 19; refine (limit_c _ _ _ _ _ _ hra2).mono ?_; rintro e wk ⟨rfl, rfl⟩))
          go_roundw
          case rel => exact ⟨k + 1, _, _, _, rfl, rfl, rfl, by go_num, by omega, ⟨by omega, by omega, by omega, by omega, by omega⟩, hra2, hbw2⟩
          case measure => simp [intOf]; omega
        · skip
          go_wp2_with fail
          refine (read_part _ _ _ _ _ _ _ hra (by omega) (by omega) (by omega) (by omega) (by omega)).mono ?_
          rintro e w2 ⟨rfl, hra2, ho⟩
          have hbw2 := hbw.trans (ho.below (by simp; omega) hbw.size)
          clear ho hra hbw
          go_wp2_with ((go_at_call 19; refine (limit_c _ _ _ _ _ _ hra2).mono ?_; rintro e wk ⟨rfl, rfl⟩))
          go_roundw
          case rel => exact ⟨k + 1, _, _, _, rfl, rfl, rfl, by go_num, by omega, ⟨by omega, by omega, by omega, by omega, by omega⟩, hra2, hbw2⟩
          case measure => simp [intOf]; omega
      · skip
        by_cases hle : h < r + n
        · skip
          go_wp2_with fail
          refine (read_all _ _ _ _ _ _ _ hra (by omega) (by omega) (by omega) (by omega) (by omega)).mono ?_
          rintro e w2 ⟨rfl, hra2, ho⟩
          have hbw2 := hbw.trans (ho.below (by simp; omega) hbw.size)
          clear ho hra hbw
          go_wp2_with ((go_at_call 19; refine (limit_c _ _ _ _ _ _ hra2).mono ?_; rintro e wk ⟨rfl, rfl⟩))
          go_roundw
          case rel => exact ⟨k + 1, _, _, _, rfl, rfl, rfl, by go_num, by omega, ⟨by omega, by omega, by omega, by omega, by omega⟩, hra2, hbw2⟩
          case measure => simp [intOf]; omega
        · skip
          go_wp2_with fail
          refine (read_part _ _ _ _ _ _ _ hra (by omega) (by omega) (by omega) (by omega) (by omega)).mono ?_
          rintro e w2 ⟨rfl, hra2, ho⟩
          have hbw2 := hbw.trans (ho.below (by simp; omega) hbw.size)
          clear ho hra hbw
          go_wp2_with ((go_at_call 19; refine (limit_c _ _ _ _ _ _ hra2).mono ?_; rintro e wk ⟨rfl, rfl⟩))
          go_roundw
          case rel => exact ⟨k + 1, _, _, _, rfl, rfl, rfl, by go_num, by omega, ⟨by omega, by omega, by omega, by omega, by omega⟩, hra2, hbw2⟩
          case measure => simp [intOf]; omega
      · skip
        by_cases hle : a0 % 301 / 2 < m - r ∨ r + a0 % 301 ≤ m
        · skip
          go_wp2_with fail
          refine (update_no _ _ _ _ _ _ hra (by omega) (by omega) (by omega) (by omega) (by omega) hle).mono ?_
          rintro e w2 ⟨rfl, hra2, ho⟩
          have hbw2 := hbw.trans (ho.below (by simp; omega) hbw.size)
          clear ho hra hbw
          go_wp2_with ((go_at_call 19; refine (limit_c _ _ _ _ _ _ hra2).mono ?_; rintro e wk ⟨rfl, rfl⟩))
          go_roundw
          case rel => exact ⟨k + 1, _, _, _, rfl, rfl, rfl, by go_num, by omega, ⟨by omega, by omega, by omega, by omega, by omega⟩, hra2, hbw2⟩
          case measure => simp [intOf]; omega
        · skip
          go_wp2_with fail
          refine (update_yes _ _ _ _ _ _ hra (by omega) (by omega) (by omega) (by omega) (by omega) (by omega) (by omega) (by omega)).mono ?_
          rintro e w2 ⟨rfl, hra2, ho⟩
          have hbw2 := hbw.trans (ho.below (by simp; omega) hbw.size)
          clear ho hra hbw
          go_wp2_with ((go_at_call 19; refine (limit_c _ _ _ _ _ _ hra2).mono ?_; rintro e wk ⟨rfl, rfl⟩))
          go_roundw
          case rel => exact ⟨k + 1, _, _, _, rfl, rfl, rfl, by go_num, by omega, ⟨by omega, by omega, by omega, by omega, by omega⟩, hra2, hbw2⟩
          case measure => simp [intOf]; omega
      · skip
        by_cases hle : a0 % 301 / 2 < m - r ∨ r + a0 % 301 ≤ m
        · skip
          go_wp2_with fail
          refine (update_no _ _ _ _ _ _ hra (by omega) (by omega) (by omega) (by omega) (by omega) hle).mono ?_
          rintro e w2 ⟨rfl, hra2, ho⟩
          have hbw2 := hbw.trans (ho.below (by simp; omega) hbw.size)
          clear ho hra hbw
          go_wp2_with ((go_at_call 19; refine (limit_c _ _ _ _ _ _ hra2).mono ?_; rintro e wk ⟨rfl, rfl⟩))
          go_roundw
          case rel => exact ⟨k + 1, _, _, _, rfl, rfl, rfl, by go_num, by omega, ⟨by omega, by omega, by omega, by omega, by omega⟩, hra2, hbw2⟩
          case measure => simp [intOf]; omega
        · skip
          go_wp2_with fail
          refine (update_yes _ _ _ _ _ _ hra (by omega) (by omega) (by omega) (by omega) (by omega) (by omega) (by omega) (by omega)).mono ?_
          rintro e w2 ⟨rfl, hra2, ho⟩
          have hbw2 := hbw.trans (ho.below (by simp; omega) hbw.size)
          clear ho hra hbw
          go_wp2_with ((go_at_call 19; refine (limit_c _ _ _ _ _ _ hra2).mono ?_; rintro e wk ⟨rfl, rfl⟩))
          go_roundw
          case rel => exact ⟨k + 1, _, _, _, rfl, rfl, rfl, by go_num, by omega, ⟨by omega, by omega, by omega, by omega, by omega⟩, hra2, hbw2⟩
          case measure => simp [intOf]; omega
    · by_cases hl1 : k < len1
      all_goals
        go_wp2_with fail
        go_ret
        exact ⟨ret_boo (by simp <;> omega), hbw⟩
end Go.Proofs.Ytnembdlkdgfjlaa
