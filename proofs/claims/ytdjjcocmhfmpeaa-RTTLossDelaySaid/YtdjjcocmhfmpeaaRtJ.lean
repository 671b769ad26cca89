/- The walk of RTTLossDelay. -/
import Derived.Test.YtdjjcocmhfmpeaaRtW
namespace Go.Proofs.Ytdjjcocmhfmpeaa
open Go.RowKit
set_option linter.unusedVariables false
set_option linter.unusedSimpArgs false

def LRel (w : World) (g : Nat) (i : Value) (wr : World) : Prop := ∃ (j : Nat) (S V L M : Int), i = .int .i64 j ∧ j ≤ 60 ∧ Hid (RInv S V L M) ∧ Hid (EAt wr g S V L M) ∧ Below w.heap.size w wr
set_option maxRecDepth 100000 in
set_option maxHeartbeats 4000000 in
theorem rtj_walk (a0 : Option Addr) (len0 cap0 : Nat) (K N : Nat → Int) (w : World) (w0 : Pairs .i64 .i64 w a0 len0 K N) :
    Calls Try.prog 9 #[.slice a0 len0 cap0] w fun e w' => e = .returned (.bool true) ∧ Below w.heap.size w w' := by
  go_enter Try.func9, Try.ntmps9
  go_wp2_with fail
  refine (sane_any _).mono ?_
  rintro e wA ⟨rfl, hb⟩
  go_wp2_with fail
  refine (new_at _).mono ?_
  rintro e wB ⟨g, rfl, hA, ho, hg⟩
  have hgw : w.heap.size ≤ g := by have := hb.size; omega
  replace hb := hb.trans ((ho.below (B := w.heap.size) (by simp) hb.size))
  have HA := Lib.hid (p := EAt wB g 80 20 0 0) hA
  clear ho hA hg
  go_wp2_with fail
  go_loopw [5] (fun i wr => LRel w g i wr) (fun i _ => 60 - (intOf i).toNat)
  case atStart => exact ⟨0, 80, 20, 0, 0, rfl, by omega, RInv.start, HA, hb⟩
  case round =>
    obtain ⟨j, S, V, L, M, rfl, hj, hi, hA, hbw⟩ := hrel
    clear hb HA
    by_cases hlt : j < len0 ∧ j < 60
    · obtain ⟨hlt1, hlt2⟩ := hlt
      obtain ⟨b, off, rfl, hbs, hc0, hc1, hw0, hw1⟩ := w0 j hlt1
      obtain ⟨z0, z1⟩ := wf_i64 hw0
      rw [← hbw.cell hbs] at hc0 hc1
      clear w0 hw0 hw1
      go_wp2_with fail
      refine (pick_ex _ _ _ (by omega) (by omega) (by omega)).mono ?_
      rintro e wk ⟨r, r0, r1, rfl, rfl⟩
      go_wp2_with fail
      refine (samp_at g S V L M (1 + r) (N j) _ (by exact hA.out) hi.out (by omega) (by omega)).mono ?_
      rintro e w4 ⟨S', V', L', M', rfl, hA4, hi4, ho, eS, eV, eL, eM⟩
      have HA4 := Lib.hid hA4
      have HI4 := Lib.hid hi4
      have hl : L' = 1 + r := by rw [eL, rc_pos (by omega)]
      have hbd := hi4.bd
      obtain ⟨y, hy⟩ : ∃ y, S' / 8 = y := ⟨_, rfl⟩
      have y0 : 0 ≤ y := by omega
      have y9 : y ≤ 1000000 := by omega
      have hld := loss_bd (S := S') (L := L') (by omega)
      rw [hy, hl] at hld
      obtain ⟨dz, hdz⟩ : ∃ dz, lossZ S' (1 + r) = dz := ⟨_, rfl⟩
      rw [hdz] at hld
      rw [← hl] at hdz
      obtain ⟨d1, d2, d3⟩ := hld
      have q : (if 1 + r < y then y else 1 + r) = mxZ (1 + r) y := rfl
      obtain ⟨mz, hmz⟩ : ∃ mz, mxZ (1 + r) y = mz := ⟨_, rfl⟩
      have hmb := mxZ_bd (1 + r) y
      rw [hmz] at q d3 hmb
      obtain ⟨m1, m2, m3⟩ := hmb
      have m4 : mz ≤ 1000000 := by omega
      clear m3 hmz hl hbd
      have HY := Lib.hid hy
      have HD := Lib.hid hdz
      have HQ : Hid ((if 1 + r < y then y else 1 + r) = mz) := q
      clear hy hdz q hc0 hc1
      have hbw4 := below_ons hbw ho rfl rfl rfl rfl (by simp; omega)
      clear ho hA4 hi4 eS eV eL eM
      go_wp2_with fail
      refine (loss_v g S' V' L' M' _ (by exact HA4.out) HI4.out _ HD.out).mono ?_
      rintro e w5 ⟨rfl, hA5, ho⟩
      have HA5 : Hid (EAt w5 g S' V' L' M') := hA5
      have hbw5 := below_ons hbw4 ho rfl rfl rfl rfl (by simp)
      clear ho hA5
      go_wp2_with fail
      refine (smo_v g S' V' L' M' _ (by exact HA5.out) HI4.out _ HY.out).mono ?_
      rintro e wk ⟨rfl, rfl⟩
      go_wp2_with fail
      refine (smo_v g S' V' L' M' _ (by exact HA5.out) HI4.out _ HY.out).mono ?_
      rintro e wk ⟨rfl, rfl⟩
      have q := HQ.out
      go_wp2_with fail
      go_roundw
      case rel => exact ⟨j + 1, _, _, _, _, by go_num, by omega, HI4, HA5, hbw5⟩
      case measure => simp [intOf]; omega
    · by_cases hl1 : j < len0
      all_goals
        go_wp2_with fail
        go_ret
        exact ⟨rfl, hbw⟩
end Go.Proofs.Ytdjjcocmhfmpeaa
