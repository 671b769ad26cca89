/- The walk of RTTConstantSamples. -/
import Derived.Test.YtdjjcocmhfmpeaaRtW
namespace Go.Proofs.Ytdjjcocmhfmpeaa
open Go.RowKit
set_option linter.unusedVariables false
set_option linter.unusedSimpArgs false

def CRel (w : World) (g : Nat) (n : Int) (i : Value) (wr : World) : Prop := ∃ (j : Nat) (S V L M : Int), i = .int .i64 j ∧ j ≤ 60 ∧ Hid (RInv S V L M) ∧ Hid (EAt wr g S V L M) ∧ Hid (CMath (1 + n) j S V M) ∧ Below w.heap.size w wr
set_option maxRecDepth 100000 in
set_option maxHeartbeats 4000000 in
theorem rtg_walk (a0 : Int) (w : World) (w0 : (Lit.int .i64 a0).wf = true) :
    Calls Try.prog 5 #[.int .i64 a0] w fun e w' => e = .returned (.bool true) ∧ Below w.heap.size w w' := by
  obtain ⟨b0, c0⟩ := wf_i64 w0
  clear w0
  go_enter Try.func5, Try.ntmps5
  go_wp2_with fail
  refine (sane_any _).mono ?_
  rintro e wA ⟨rfl, hb⟩
  go_wp2_with fail
  refine (pick_ex _ _ _ (by omega) (by omega) (by omega)).mono ?_
  rintro e wk ⟨n, n0, n1, rfl, rfl⟩
  go_wp2_with fail
  refine (new_at _).mono ?_
  rintro e wB ⟨g, rfl, hA, ho, hg⟩
  have hgw : w.heap.size ≤ g := by have := hb.size; omega
  replace hb := hb.trans ((ho.below (B := w.heap.size) (by simp) hb.size))
  have HA := Lib.hid (p := EAt wB g 80 20 0 0) hA
  clear ho hA hg
  go_wp2_with fail
  go_loopw [5] (fun i wr => CRel w g n i wr) (fun i _ => 60 - (intOf i).toNat)
  case atStart => exact ⟨0, 80, 20, 0, 0, rfl, by omega, RInv.start, HA, .inl ⟨rfl, rfl⟩, hb⟩
  case round =>
    obtain ⟨j, S, V, L, M, rfl, hj, hi, hA, hm, hbw⟩ := hrel
    clear hb HA
    by_cases hlt : j < 60
    · skip
      go_wp2_with fail
      refine (samp_at g S V L M (1 + n) 0 _ (by exact hA.out) hi.out (by omega) (by omega)).mono ?_
      rintro e w4 ⟨S', V', L', M', rfl, hA4, hi4, ho, eS, eV, eL, eM⟩
      have HA4 := Lib.hid hA4
      have HI4 := Lib.hid hi4
      have hm4 : Hid (CMath (1 + n) (j + 1) S' V' M') := by rw [eS, eV, eM]; exact CMath.step (L := L) hm.out (by omega) (by omega)
      have hq : S' / 8 = 1 + n ∧ M' = 1 + n := by rcases hm4.out with h | h <;> omega
      have HQ := Lib.hid hq
      clear hq
      have hbw4 := below_ons hbw ho rfl rfl rfl rfl (by simp; omega)
      clear ho hA4 hi4 eS eV eL eM
      go_wp2_with fail
      refine (smo_v g S' V' L' M' _ (by exact HA4.out) HI4.out _ HQ.out.1).mono ?_
      rintro e wk ⟨rfl, rfl⟩
      go_wp2_with fail
      refine (min_v g S' V' L' M' _ (by exact HA4.out) HI4.out _ HQ.out.2).mono ?_
      rintro e wk ⟨rfl, rfl⟩
      go_wp2_with fail
      go_roundw
      case rel => exact ⟨j + 1, _, _, _, _, by go_num, by omega, HI4, HA4, hm4, hbw4⟩
      case measure => simp [intOf]; omega
    · have hv : V / 4 ≤ 1 := by
        have : j = 60 := by omega
        subst this
        rcases hm.out with h | h
        · omega
        · rw [h.2.2.2]; exact vSeq_end _ (by omega) (by omega)
      obtain ⟨z, hz⟩ : ∃ z, V / 4 = z := ⟨_, rfl⟩
      rw [hz] at hv
      have HZ := Lib.hid hz; clear hz
      go_wp2_with fail
      refine (var_v g S V L M _ (by exact hA.out) hi.out _ HZ.out).mono ?_
      rintro e wk ⟨rfl, rfl⟩
      go_wp2_with fail
      go_ret
      exact ⟨ret_boo (by simp <;> omega), hbw⟩
end Go.Proofs.Ytdjjcocmhfmpeaa
