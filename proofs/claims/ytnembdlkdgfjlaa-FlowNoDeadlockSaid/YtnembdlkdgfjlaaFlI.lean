/- The walk of FlowNoDeadlock. -/
import Derived.Test.YtnembdlkdgfjlaaFlG
import Derived.Test.YtnembdlkdgfjlaaArg
namespace Go.Proofs.Ytnembdlkdgfjlaa
open Go.RowKit
set_option linter.unusedVariables false
set_option linter.unusedSimpArgs false

def DInv (k : Nat) (m wi s : Int) : Prop := 0 ≤ s ∧ (wi + 1) / 2 ≤ m - s ∧ m ≤ s + wi ∧ m ≤ 300 * ((k : Int) + 1)
def DRel (w : World) (ra sa : Nat) (wi : Int) (s i : Value) (wr : World) : Prop := ∃ (k : Nat) (m x t : Int), s = .int .i64 x ∧ i = .int .i64 k ∧ k ≤ 60 ∧ DInv k m wi x ∧
  At wr ra 58 #[.int .i64 m, .int .i64 wi, .int .i64 x, .int .i64 x] ∧ At wr sa 60 #[.int .i64 m, .int .i64 x, .int .i64 t] ∧ Below w.heap.size w wr

set_option maxRecDepth 100000 in
set_option maxHeartbeats 4000000 in
theorem nodead_walk (a0 : Int) (a1 : Option Addr) (len1 cap1 : Nat) (Z : Nat → Int) (w : World) (w0 : (Lit.int .u16 a0).wf = true) (w1 : Ints .u16 w a1 len1 Z) :
    Calls Try.prog 7 #[.int .u16 a0, .slice a1 len1 cap1] w fun e w' => e = .returned (.bool true) ∧ Below w.heap.size w w' := by
  obtain ⟨b0, c0⟩ := wf_u16 w0
  clear w0
  have hw0 : 0 ≤ a0 % 300 := by omega
  have hw1 : a0 % 300 ≤ 299 := by omega
  go_enter Try.func7, Try.ntmps7
  go_wp2_with fail
  refine (sane_any _).mono ?_
  rintro e wA ⟨rfl, hb⟩
  go_wp2_with fail
  refine (newrec_ok _ _ (by omega) (by omega)).mono ?_
  rintro e wk ⟨rfl, rfl⟩
  go_wp2_with fail
  refine (newsnd_ok _ _ (by omega) (by omega)).mono ?_
  rintro e wk ⟨rfl, rfl⟩
  have ha := (At.new wA 58 #[.int .i64 (1 + a0 % 300), .int .i64 (1 + a0 % 300), .int .i64 0, .int .i64 0]).alloc (.cells #[.int .i64 (1 + a0 % 300), .int .i64 0, .int .i64 0] 60)
  have hx := At.new (wA.alloc (.cells #[.int .i64 (1 + a0 % 300), .int .i64 (1 + a0 % 300), .int .i64 0, .int .i64 0] 58)) 60 #[.int .i64 (1 + a0 % 300), .int .i64 0, .int .i64 0]
  rw [World.size_alloc] at hx
  have hbb := (hb.alloc hb.size (.cells #[.int .i64 (1 + a0 % 300), .int .i64 (1 + a0 % 300), .int .i64 0, .int .i64 0] 58)).alloc (by have := hb.size; simp; omega) (.cells #[.int .i64 (1 + a0 % 300), .int .i64 0, .int .i64 0] 60)
  go_wp2_with fail
  go_loopw [10, 11] (fun s i wr => DRel w wA.heap.size (wA.heap.size + 1) (1 + a0 % 300) s i wr) (fun _ i _ => 60 - (intOf i).toNat)
  case atStart => exact ⟨0, _, _, _, rfl, rfl, by omega, ⟨by omega, by omega, by omega, by omega⟩, ha, hx, hbb⟩
  case round =>
    obtain ⟨k, m, x, t, rfl, rfl, hk, hi, hra, hsa, hbw⟩ := hrel
    have hsz := hb.size
    clear ha hx hbb hb
    obtain ⟨i0, i1, i2, i3⟩ := hi
    by_cases hlt : k < len1 ∧ k < 60
    · obtain ⟨hlt1, hlt2⟩ := hlt
      obtain ⟨b, off, rfl, hbs, hc0, hw0⟩ := w1 k hlt1
      rw [← hbw.cell hbs] at hc0
      obtain ⟨k0, k1⟩ := wf_u16 hw0
      clear hw0 w1
      have e0 : IntKind.i64.wrap (Z k) = Z k := IntWalk.i64_in _ (by omega)
      have e1 : (Z k).tmod 400 = Z k % 400 := Int.tmod_eq_emod_of_nonneg k0
      by_cases hle : m - x < Z k % 400
      · skip
        go_wp2_with fail
        go_quiet ((go_at_call 28; refine Calls.quiet_of (avail_c _ _ _ _ _ hsa (by omega) (by omega) (by omega))))
        replace hra := hra.drewN nq
        replace hsa := hsa.drewN nq
        replace hbw : Below w.heap.size w (wr.drewN nq) := ⟨hbw.os, hbw.tape, hbw.output, hbw.size, hbw.block⟩
        go_wp2_with fail
        refine (use_ok _ _ _ _ _ _ hsa (by omega) (by omega) (by omega) (by omega) (by omega)).mono ?_
        rintro e w2 ⟨rfl, hsa2, ho⟩
        have hra2 := hra.keep ho (by simp)
        have hbw2 := hbw.trans (ho.below (by simp; omega) hbw.size)
        clear ho hra hsa hbw
        go_wp2_with fail
        refine (receive_ok _ _ _ _ _ _ _ hra2 (by omega) (by omega) (by omega)).mono ?_
        rintro e w3 ⟨rfl, hra3, ho⟩
        have hsa3 := hsa2.keep ho (by simp)
        have hbw3 := hbw2.trans (ho.below (by simp; omega) hbw2.size)
        clear ho hra2 hsa2 hbw2
        go_wp2_with fail
        refine (read_part _ _ _ _ _ _ _ hra3 (by omega) (by omega) (by omega) (by omega) (by omega)).mono ?_
        rintro e w4 ⟨rfl, hra4, ho⟩
        have hsa4 := hsa3.keep ho (by simp)
        have hbw4 := hbw3.trans (ho.below (by simp; omega) hbw3.size)
        clear ho hra3 hsa3 hbw3
        by_cases hu : (1 + a0 % 300) / 2 < m - (x + (m - x))
        · exfalso; omega
        · skip
          go_wp2_with fail
          refine (update_yes _ _ _ _ _ _ hra4 (by omega) (by omega) (by omega) (by omega) (by omega) (by omega) (by omega) (by omega)).mono ?_
          rintro e w5 ⟨rfl, hra5, ho⟩
          have hsa5 := hsa4.keep ho (by simp)
          have hbw5 := hbw4.trans (ho.below (by simp; omega) hbw4.size)
          clear ho hra4 hsa4 hbw4
          go_wp2_with fail
          refine (raise_up _ _ _ _ _ _ hsa5 (by omega) (by omega)).mono ?_
          rintro e w6 ⟨rfl, hsaZ, ho⟩
          have hraZ := hra5.keep ho (by simp)
          have hbwZ := hbw5.trans (ho.below (by simp; omega) hbw5.size)
          clear ho hra5 hsa5 hbw5
          go_wp2_with ((go_at_call 28; refine (avail_c _ _ _ _ _ hsaZ (by omega) (by omega) (by omega)).mono ?_; rintro e wk ⟨rfl, nd, rfl⟩; replace hsaZ := hsaZ.drewN nd; replace hraZ := hraZ.drewN nd))
          go_roundw
          case rel => exact ⟨k + 1, _, _, _, rfl, by go_num, by omega, ⟨by omega, by omega, by omega, by omega⟩, hraZ, hsaZ, ⟨hbwZ.os, hbwZ.tape, hbwZ.output, hbwZ.size, hbwZ.block⟩⟩
          case measure => simp [intOf]; omega
      · skip
        go_wp2_with fail
        go_quiet ((go_at_call 28; refine Calls.quiet_of (avail_c _ _ _ _ _ hsa (by omega) (by omega) (by omega))))
        replace hra := hra.drewN nq
        replace hsa := hsa.drewN nq
        replace hbw : Below w.heap.size w (wr.drewN nq) := ⟨hbw.os, hbw.tape, hbw.output, hbw.size, hbw.block⟩
        go_wp2_with fail
        refine (use_ok _ _ _ _ _ _ hsa (by omega) (by omega) (by omega) (by omega) (by omega)).mono ?_
        rintro e w2 ⟨rfl, hsa2, ho⟩
        have hra2 := hra.keep ho (by simp)
        have hbw2 := hbw.trans (ho.below (by simp; omega) hbw.size)
        clear ho hra hsa hbw
        go_wp2_with fail
        refine (receive_ok _ _ _ _ _ _ _ hra2 (by omega) (by omega) (by omega)).mono ?_
        rintro e w3 ⟨rfl, hra3, ho⟩
        have hsa3 := hsa2.keep ho (by simp)
        have hbw3 := hbw2.trans (ho.below (by simp; omega) hbw2.size)
        clear ho hra2 hsa2 hbw2
        go_wp2_with fail
        refine (read_part _ _ _ _ _ _ _ hra3 (by omega) (by omega) (by omega) (by omega) (by omega)).mono ?_
        rintro e w4 ⟨rfl, hra4, ho⟩
        have hsa4 := hsa3.keep ho (by simp)
        have hbw4 := hbw3.trans (ho.below (by simp; omega) hbw3.size)
        clear ho hra3 hsa3 hbw3
        by_cases hu : (1 + a0 % 300) / 2 < m - (x + (Z k % 400))
        · skip
          go_wp2_with fail
          refine (update_no _ _ _ _ _ _ hra4 (by omega) (by omega) (by omega) (by omega) (by omega) (.inl hu)).mono ?_
          rintro e w5 ⟨rfl, hraZ, ho⟩
          have hsaZ := hsa4.keep ho (by simp)
          have hbwZ := hbw4.trans (ho.below (by simp; omega) hbw4.size)
          clear ho hra4 hsa4 hbw4
          go_wp2_with ((go_at_call 28; refine (avail_c _ _ _ _ _ hsaZ (by omega) (by omega) (by omega)).mono ?_; rintro e wk ⟨rfl, nd, rfl⟩; replace hsaZ := hsaZ.drewN nd; replace hraZ := hraZ.drewN nd))
          go_roundw
          case rel => exact ⟨k + 1, _, _, _, rfl, by go_num, by omega, ⟨by omega, by omega, by omega, by omega⟩, hraZ, hsaZ, ⟨hbwZ.os, hbwZ.tape, hbwZ.output, hbwZ.size, hbwZ.block⟩⟩
          case measure => simp [intOf]; omega
        · skip
          go_wp2_with fail
          refine (update_yes _ _ _ _ _ _ hra4 (by omega) (by omega) (by omega) (by omega) (by omega) (by omega) (by omega) (by omega)).mono ?_
          rintro e w5 ⟨rfl, hra5, ho⟩
          have hsa5 := hsa4.keep ho (by simp)
          have hbw5 := hbw4.trans (ho.below (by simp; omega) hbw4.size)
          clear ho hra4 hsa4 hbw4
          go_wp2_with fail
          refine (raise_up _ _ _ _ _ _ hsa5 (by omega) (by omega)).mono ?_
          rintro e w6 ⟨rfl, hsaZ, ho⟩
          have hraZ := hra5.keep ho (by simp)
          have hbwZ := hbw5.trans (ho.below (by simp; omega) hbw5.size)
          clear ho hra5 hsa5 hbw5
          go_wp2_with ((go_at_call 28; refine (avail_c _ _ _ _ _ hsaZ (by omega) (by omega) (by omega)).mono ?_; rintro e wk ⟨rfl, nd, rfl⟩; replace hsaZ := hsaZ.drewN nd; replace hraZ := hraZ.drewN nd))
          go_roundw
          case rel => exact ⟨k + 1, _, _, _, rfl, by go_num, by omega, ⟨by omega, by omega, by omega, by omega⟩, hraZ, hsaZ, ⟨hbwZ.os, hbwZ.tape, hbwZ.output, hbwZ.size, hbwZ.block⟩⟩
          case measure => simp [intOf]; omega
    · by_cases hl1 : k < len1
      all_goals
        go_wp2_with fail
        go_ret
        exact ⟨rfl, hbw⟩
end Go.Proofs.Ytnembdlkdgfjlaa
