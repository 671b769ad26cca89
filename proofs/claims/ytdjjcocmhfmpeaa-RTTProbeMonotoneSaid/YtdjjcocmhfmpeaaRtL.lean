/- The walk of RTTProbeMonotone. -/
import Derived.Test.YtdjjcocmhfmpeaaRtV
namespace Go.Proofs.Ytdjjcocmhfmpeaa
open Go.RowKit
set_option linter.unusedVariables false
set_option linter.unusedSimpArgs false

def PRel (w : World) (g : Nat) (i : Value) (wr : World) : Prop := ∃ (j : Nat) (S V L M : Int), i = .int .i64 j ∧ j ≤ 60 ∧ Hid (RInv S V L M) ∧ Hid (EAt wr g S V L M) ∧ Below w.heap.size w wr
set_option maxRecDepth 100000 in
set_option maxHeartbeats 4000000 in
theorem rtl_walk (a0 : Option Addr) (len0 cap0 : Nat) (K N : Nat → Int) (a1 a2 a3 a4 : Int) (w : World) (w0 : Pairs .i64 .i64 w a0 len0 K N) (w1 : (Lit.int .i64 a1).wf = true) (w2 : (Lit.int .i64 a2).wf = true) (w3 : (Lit.int .i64 a3).wf = true) (w4 : (Lit.int .i64 a4).wf = true) :
    Calls Try.prog 8 #[.slice a0 len0 cap0, .int .i64 a1, .int .i64 a2, .int .i64 a3, .int .i64 a4] w fun e w' => e = .returned (.bool true) ∧ Below w.heap.size w w' := by
  obtain ⟨b4, c4⟩ := wf_i64 w4
  clear w4
  go_enter Try.func8, Try.ntmps8
  go_wp2_with fail
  refine (sane_any _).mono ?_
  rintro e wA ⟨rfl, hb⟩
  go_wp2_with fail
  refine (new_at _).mono ?_
  rintro e wB ⟨g, rfl, hA, ho, hg⟩
  have hgw : w.heap.size ≤ g := by have := hb.size; omega
  replace hb := hb.trans ((ho.below (B := w.heap.size) (by simp) hb.size))
  have HA := Lib.hid (p := EAt wB g 80 20 0 0) hA
  clear ho hA hg
  go_wp2_with fail
  go_loopw [13] (fun i wr => PRel w g i wr) (fun i _ => 60 - (intOf i).toNat)
  case atStart => exact ⟨0, 80, 20, 0, 0, rfl, by omega, RInv.start, HA, hb⟩
  case round =>
    obtain ⟨j, S, V, L, M, rfl, hj, hi, hA, hbw⟩ := hrel
    clear hb HA
    by_cases hlt : j < len0 ∧ j < 60
    · obtain ⟨hlt1, hlt2⟩ := hlt
      obtain ⟨b, off, rfl, hbs, hc0, hc1, hw0, hw1⟩ := w0 j hlt1
      rw [← hbw.cell hbs] at hc0 hc1
      clear w0 hw0 hw1
      go_wp2_with fail
      go_still_tail 11, (by kernel_rfl)
      go_wp2_with fail
      refine (samp_whatever g S V L M _ _ _ (by exact hA.out) hi.out).mono ?_
      rintro e w4 ⟨S', V', L', M', rfl, hA4, hi4, ho⟩
      have HA4 := Lib.hid hA4
      have HI4 := Lib.hid hi4
      have hbw4 := below_ons hbw ho rfl rfl rfl rfl (by simp; omega)
      clear ho hA4 hi4 hc0 hc1
      go_wp2_with fail
      go_roundw
      case rel => exact ⟨j + 1, _, _, _, _, by go_num, by omega, HI4, HA4, hbw4⟩
      case measure => simp [intOf]; omega
    · obtain ⟨A1, hA1⟩ : ∃ z, mnZ a1 a2 = z := ⟨_, rfl⟩
      obtain ⟨A2, hA2⟩ : ∃ z, mxZ a1 a2 = z := ⟨_, rfl⟩
      obtain ⟨B1, hB1⟩ : ∃ z, mnZ a3 a4 = z := ⟨_, rfl⟩
      obtain ⟨B2, hB2⟩ : ∃ z, mxZ a3 a4 = z := ⟨_, rfl⟩
      have hm1 : A1 ≤ A2 := by rw [← hA1, ← hA2]; have := mnZ_bd a1 a2; have := mxZ_bd a1 a2; omega
      have hm2 : B1 ≤ B2 := by rw [← hB1, ← hB2]; have := mnZ_bd a3 a4; have := mxZ_bd a3 a4; omega
      have hpm := probeZ_mono hi.out A1 A2 B1 B2 hm1 hm2
      have hp1 := probeZ_bd hi.out A1 B1
      have hp2 := probeZ_bd hi.out A2 B2
      obtain ⟨P1, hP1⟩ : ∃ z, probeZ S V A1 B1 = z := ⟨_, rfl⟩
      obtain ⟨P2, hP2⟩ : ∃ z, probeZ S V A2 B2 = z := ⟨_, rfl⟩
      rw [hP1, hP2] at hpm
      rw [hP1] at hp1
      rw [hP2] at hp2
      obtain ⟨p1, p2⟩ := hp1
      obtain ⟨p3, p4⟩ := hp2
      have HP1 := Lib.hid hP1
      have HP2 := Lib.hid hP2
      have q1 : (if a2 < a1 then a2 else a1) = A1 := hA1
      have q2 : (if a1 < a2 then a2 else a1) = A2 := hA2
      have q3 : (if a4 < a3 then a4 else a3) = B1 := hB1
      have q4 : (if a3 < a4 then a4 else a3) = B2 := hB2
      clear hA1 hA2 hB1 hB2 hP1 hP2 hm1 hm2
      by_cases hl1 : j < len0
      all_goals
        go_wp2_with fail
        refine (probe_v g S V L M _ (by exact hA.out) hi.out _ _ _ HP1.out).mono ?_
        rintro e w5 ⟨rfl, hA5, ho⟩
        have HA5 : Hid (EAt w5 g S V L M) := hA5
        have hbw5 := below_ons hbw ho rfl rfl rfl rfl (by simp)
        clear ho hA5
        go_wp2_with fail
        refine (probe_v g S V L M _ (by exact HA5.out) hi.out _ _ _ HP2.out).mono ?_
        rintro e w6 ⟨rfl, hA6, ho⟩
        have HA6 : Hid (EAt w6 g S V L M) := hA6
        have hbw6 := below_ons hbw5 ho rfl rfl rfl rfl (by simp)
        clear ho hA6 q1 q2 q3 q4
        go_wp2_with fail
        refine (pick_ex _ _ _ (by omega) (by omega) (by omega)).mono ?_
        rintro e wk ⟨r, r0, r1, rfl, rfl⟩
        go_wp2_with fail
        refine (probe_any g S V L M _ _ _ (by exact HA6.out) hi.out).mono ?_
        rintro e w7 ⟨z, rfl, z0, ho⟩
        have hbw7 := below_ons hbw6 ho rfl rfl rfl rfl (by simp)
        clear ho
        go_wp2_with fail
        go_ret
        exact ⟨ret_boo (by simp <;> omega), hbw7⟩
end Go.Proofs.Ytdjjcocmhfmpeaa
