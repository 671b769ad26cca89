/- The walk of RTTDelayIsBounded. -/
import Derived.Test.YtdjjcocmhfmpeaaRtW
namespace Go.Proofs.Ytdjjcocmhfmpeaa
open Go.RowKit
set_option linter.unusedVariables false
set_option linter.unusedSimpArgs false

def DRel (w : World) (g : Nat) (le i : Value) (wr : World) : Prop := ∃ (j : Nat) (S V L M least : Int), i = .int .i64 j ∧ le = .int .i64 least ∧ j ≤ 60 ∧ 0 ≤ least ∧ least ≤ 1000 ∧ Hid (RInv S V L M) ∧ Hid (EAt wr g S V L M) ∧ Hid (DMath least S M) ∧ Below w.heap.size w wr
set_option maxRecDepth 100000 in
set_option maxHeartbeats 4000000 in
theorem rti_walk (a0 : Option Addr) (len0 cap0 : Nat) (K N : Nat → Int) (w : World) (w0 : Pairs .i64 .i64 w a0 len0 K N) :
    Calls Try.prog 6 #[.slice a0 len0 cap0] w fun e w' => e = .returned (.bool true) ∧ Below w.heap.size w w' := by
  go_enter Try.func6, Try.ntmps6
  go_wp2_with fail
  refine (sane_any _).mono ?_
  rintro e wA ⟨rfl, hb⟩
  go_wp2_with fail
  refine (new_at _).mono ?_
  rintro e wB ⟨g, rfl, hA, ho, hg⟩
  have hgw : w.heap.size ≤ g := by have := hb.size; omega
  replace hb := hb.trans ((ho.below (B := w.heap.size) (by simp) hb.size))
  have HA := Lib.hid (p := EAt wB g 80 20 0 0) hA
  clear ho hA hg
  go_wp2_with fail
  go_loopw [5, 6] (fun le i wr => DRel w g le i wr) (fun _ i _ => 60 - (intOf i).toNat)
  case atStart => exact ⟨0, 80, 20, 0, 0, 1000, rfl, rfl, by omega, by omega, by omega, RInv.start, HA, .inl ⟨rfl, rfl⟩, hb⟩
  case round =>
    obtain ⟨j, S, V, L, M, least, rfl, rfl, hj, hle0, hle1, hi, hA, hm, hbw⟩ := hrel
    clear hb HA
    by_cases hlt : j < len0 ∧ j < 60
    · obtain ⟨hlt1, hlt2⟩ := hlt
      obtain ⟨b, off, rfl, hbs, hc0, hc1, hw0, hw1⟩ := w0 j hlt1
      obtain ⟨z0, z1⟩ := wf_i64 hw0
      rw [← hbw.cell hbs] at hc0 hc1
      clear w0 hw0 hw1
      go_wp2_with fail
      refine (pick_ex _ _ _ (by omega) (by omega) (by omega)).mono ?_
      rintro e wk ⟨r, r0, r1, rfl, rfl⟩
      have q : (if 1 + r < least then 1 + r else least) = mnZ least (1 + r) := rfl
      have hbl := mnZ_bd least (1 + r)
      obtain ⟨lz, hlz⟩ : ∃ lz, mnZ least (1 + r) = lz := ⟨_, rfl⟩
      rw [hlz] at q hbl
      have HLZ := Lib.hid hlz; clear hlz
      obtain ⟨q0, q1, q2⟩ := hbl
      clear q2
      have q3 : 0 ≤ lz := by have h := HLZ.out; unfold mnZ at h; split at h <;> omega
      go_wp2_with fail
      refine (samp_at g S V L M (1 + r) (N j) _ (by exact hA.out) hi.out (by omega) (by omega)).mono ?_
      rintro e w4 ⟨S', V', L', M', rfl, hA4, hi4, ho, eS, eV, eL, eM⟩
      have HA4 := Lib.hid hA4
      have HI4 := Lib.hid hi4
      have hm4 := DMath.step (r := 1 + r) (d := N j) hm.out (by omega) (by omega)
      rw [← eS, ← eM, HLZ.out] at hm4
      obtain ⟨h3, h4, h1, h2⟩ := hm4
      have HM4 : Hid (DMath lz S' M') := .inr ⟨h3, h4, h1, h2⟩
      obtain ⟨y, hy⟩ : ∃ y, S' / 8 = y := ⟨_, rfl⟩
      have y1 : lz ≤ y := by omega
      have y2 : y ≤ 1000 := by omega
      have HY := Lib.hid hy
      have HQ := Lib.hid h3
      clear hy h1 h2 h3 h4 q hc0 hc1
      have hbw4 := below_ons hbw ho rfl rfl rfl rfl (by simp; omega)
      clear ho hA4 hi4 eS eV eL eM
      go_wp2_with fail
      refine (min_v g S' V' L' M' _ (by exact HA4.out) HI4.out _ HQ.out).mono ?_
      rintro e wk ⟨rfl, rfl⟩
      go_wp2_with fail
      refine (smo_v g S' V' L' M' _ (by exact HA4.out) HI4.out _ HY.out).mono ?_
      rintro e wk ⟨rfl, rfl⟩
      go_wp2_with fail
      refine (smo_v g S' V' L' M' _ (by exact HA4.out) HI4.out _ HY.out).mono ?_
      rintro e wk ⟨rfl, rfl⟩
      go_wp2_with fail
      go_roundw
      case rel => exact ⟨j + 1, _, _, _, _, _, by go_num, rfl, by omega, by omega, by omega, HI4, HA4, HM4, hbw4⟩
      case measure => simp [intOf]; omega
    · by_cases hl1 : j < len0
      all_goals
        go_wp2_with fail
        go_ret
        exact ⟨rfl, hbw⟩
end Go.Proofs.Ytdjjcocmhfmpeaa
