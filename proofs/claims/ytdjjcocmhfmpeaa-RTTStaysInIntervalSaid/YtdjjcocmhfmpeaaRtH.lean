/- The walk of RTTStaysInInterval. -/
import Derived.Test.YtdjjcocmhfmpeaaRtW
namespace Go.Proofs.Ytdjjcocmhfmpeaa
open Go.RowKit
set_option linter.unusedVariables false
set_option linter.unusedSimpArgs false

def IRel (w : World) (g : Nat) (low wi : Int) (le i : Value) (wr : World) : Prop := ∃ (j : Nat) (S V L M least : Int), i = .int .i64 j ∧ le = .int .i64 least ∧ j ≤ 60 ∧ 0 ≤ least ∧ least ≤ 1000 ∧ Hid (RInv S V L M) ∧ Hid (EAt wr g S V L M) ∧ Hid (IMath (1 + low) (1 + low + wi) least S M) ∧ Below w.heap.size w wr
set_option maxRecDepth 100000 in
set_option maxHeartbeats 4000000 in
theorem rth_walk (a0 : Option Addr) (len0 cap0 : Nat) (Z : Nat → Int) (a1 a2 : Int) (w : World) (w0 : Ints .i64 w a0 len0 Z) (w1 : (Lit.int .i64 a1).wf = true) (w2 : (Lit.int .i64 a2).wf = true) :
    Calls Try.prog 4 #[.slice a0 len0 cap0, .int .i64 a1, .int .i64 a2] w fun e w' => e = .returned (.bool true) ∧ Below w.heap.size w w' := by
  obtain ⟨b1, c1⟩ := wf_i64 w1
  clear w1
  obtain ⟨b2, c2⟩ := wf_i64 w2
  clear w2
  go_enter Try.func4, Try.ntmps4
  go_wp2_with fail
  refine (sane_any _).mono ?_
  rintro e wA ⟨rfl, hb⟩
  go_wp2_with fail
  refine (pick_ex _ _ _ (by omega) (by omega) (by omega)).mono ?_
  rintro e wk ⟨low, n0, n1, rfl, rfl⟩
  go_wp2_with fail
  refine (pick_ex _ _ _ (by omega) (by omega) (by omega)).mono ?_
  rintro e wk ⟨wi, m0, m1, rfl, rfl⟩
  go_wp2_with fail
  refine (new_at _).mono ?_
  rintro e wB ⟨g, rfl, hA, ho, hg⟩
  have hgw : w.heap.size ≤ g := by have := hb.size; omega
  replace hb := hb.trans ((ho.below (B := w.heap.size) (by simp) hb.size))
  have HA := Lib.hid (p := EAt wB g 80 20 0 0) hA
  clear ho hA hg
  go_wp2_with fail
  go_loopw [9, 10] (fun le i wr => IRel w g low wi le i wr) (fun _ i _ => 60 - (intOf i).toNat)
  case atStart => exact ⟨0, 80, 20, 0, 0, 1000, rfl, rfl, by omega, by omega, by omega, RInv.start, HA, .inl ⟨rfl, rfl⟩, hb⟩
  case round =>
    obtain ⟨j, S, V, L, M, least, rfl, rfl, hj, hle0, hle1, hi, hA, hm, hbw⟩ := hrel
    clear hb HA
    by_cases hlt : j < len0 ∧ j < 60
    · obtain ⟨hlt1, hlt2⟩ := hlt
      obtain ⟨b, off, rfl, hbs, hc0, hw0⟩ := w0 j hlt1
      obtain ⟨z0, z1⟩ := wf_i64 hw0
      rw [← hbw.cell hbs] at hc0
      clear w0 hw0
      go_wp2_with fail
      refine (pick_ex _ _ _ (by omega) (by omega) (by omega)).mono ?_
      rintro e wk ⟨r, r0, r1, rfl, rfl⟩
      have q : (if 1 + low + r < least then 1 + low + r else least) = mnZ least (1 + low + r) := rfl
      have hbl := mnZ_bd least (1 + low + r)
      obtain ⟨lz, hlz⟩ : ∃ lz, mnZ least (1 + low + r) = lz := ⟨_, rfl⟩
      rw [hlz] at q hbl
      have HLZ := Lib.hid hlz; clear hlz
      obtain ⟨q0, q1, q2⟩ := hbl
      clear q2
      have q3 : 0 ≤ lz := by have h := HLZ.out; unfold mnZ at h; split at h <;> omega
      go_wp2_with fail
      refine (samp_at g S V L M (1 + low + r) 0 _ (by exact hA.out) hi.out (by omega) (by omega)).mono ?_
      rintro e w4 ⟨S', V', L', M', rfl, hA4, hi4, ho, eS, eV, eL, eM⟩
      have HA4 := Lib.hid hA4
      have HI4 := Lib.hid hi4
      have hm4 := IMath.step hm.out (by omega) (show 1 + low ≤ 1 + low + r by omega) (show 1 + low + r ≤ 1 + low + wi by omega) (by omega)
      rw [← eS, ← eM, HLZ.out] at hm4
      obtain ⟨h1, h2, h3, h4⟩ := hm4
      have HM4 : Hid (IMath (1 + low) (1 + low + wi) lz S' M') := .inr ⟨h1, h2, h3, h4⟩
      obtain ⟨y, hy⟩ : ∃ y, S' / 8 = y := ⟨_, rfl⟩
      have y1 : 1 + low ≤ y := by omega
      have y2 : y ≤ 1 + low + wi := by omega
      have HY := Lib.hid hy
      have HQ := Lib.hid h3
      clear hy h1 h2 h3 h4 q
      have hbw4 := below_ons hbw ho rfl rfl rfl rfl (by simp; omega)
      clear ho hA4 hi4 eS eV eL eM
      go_wp2_with fail
      refine (smo_v g S' V' L' M' _ (by exact HA4.out) HI4.out _ HY.out).mono ?_
      rintro e wk ⟨rfl, rfl⟩
      go_wp2_with fail
      refine (smo_v g S' V' L' M' _ (by exact HA4.out) HI4.out _ HY.out).mono ?_
      rintro e wk ⟨rfl, rfl⟩
      go_wp2_with fail
      refine (min_v g S' V' L' M' _ (by exact HA4.out) HI4.out _ HQ.out).mono ?_
      rintro e wk ⟨rfl, rfl⟩
      go_wp2_with fail
      go_roundw
      case rel => exact ⟨j + 1, _, _, _, _, _, by go_num, rfl, by omega, by omega, by omega, HI4, HA4, HM4, hbw4⟩
      case measure => simp [intOf]; omega
    · by_cases hl1 : j < len0
      all_goals
        go_wp2_with fail
        go_ret
        exact ⟨rfl, hbw⟩
end Go.Proofs.Ytdjjcocmhfmpeaa
