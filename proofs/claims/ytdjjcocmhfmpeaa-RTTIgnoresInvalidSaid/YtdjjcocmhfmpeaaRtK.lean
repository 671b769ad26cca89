/- The walk of RTTIgnoresInvalid. -/
import Derived.Test.YtdjjcocmhfmpeaaRtV
namespace Go.Proofs.Ytdjjcocmhfmpeaa
open Go.RowKit
set_option linter.unusedVariables false
set_option linter.unusedSimpArgs false

def KRel (w : World) (g h : Nat) (i : Value) (wr : World) : Prop := ∃ (j : Nat) (S V L M : Int), i = .int .i64 j ∧ j ≤ 20 ∧ Hid (RInv S V L M) ∧ Hid (EAt wr g S V L M) ∧ Hid (EAt wr h S V L M) ∧ Below w.heap.size w wr
set_option maxRecDepth 100000 in
set_option maxHeartbeats 4000000 in
theorem rtk_walk (a0 : Option Addr) (len0 cap0 : Nat) (K N : Nat → Int) (a1 : Int) (w : World) (w0 : Pairs .i64 .i64 w a0 len0 K N) (w1 : (Lit.int .i64 a1).wf = true) :
    Calls Try.prog 7 #[.slice a0 len0 cap0, .int .i64 a1] w fun e w' => e = .returned (.bool true) ∧ Below w.heap.size w w' := by
  obtain ⟨b1, c1⟩ := wf_i64 w1
  clear w1
  go_enter Try.func7, Try.ntmps7
  go_wp2_with fail
  refine (sane_any _).mono ?_
  rintro e wA ⟨rfl, hb⟩
  go_wp2_with fail
  refine (new_at _).mono ?_
  rintro e wB ⟨g, rfl, hA, ho, hg⟩
  have hgw : w.heap.size ≤ g := by have := hb.size; omega
  replace hb := hb.trans ((ho.below (B := w.heap.size) (by simp) hb.size))
  have HA := Lib.hid (p := EAt wB g 80 20 0 0) hA
  clear ho hA hg
  go_wp2_with fail
  refine (new_at _).mono ?_
  rintro e wC ⟨h, rfl, hX, ho, hh⟩
  have hlt := At.lt HA.out
  have hgh : g ≠ h := by omega
  have hhw : w.heap.size ≤ h := by have := hb.size; omega
  have HA' := Lib.hid (HA.out.ons ho rfl (by simp))
  have HX := Lib.hid (p := EAt wC h 80 20 0 0) hX
  replace hb := hb.trans ((ho.below (B := w.heap.size) (by simp) hb.size))
  clear ho hX HA hlt hh
  go_wp2_with fail
  go_loopw [8] (fun i wr => KRel w g h i wr) (fun i _ => 20 - (intOf i).toNat)
  case atStart => exact ⟨0, 80, 20, 0, 0, rfl, by omega, RInv.start, HA', HX, hb⟩
  case round =>
    obtain ⟨j, S, V, L, M, rfl, hj, hi, hA, hX, hbw⟩ := hrel
    clear hb HA' HX
    by_cases hlt : j < len0 ∧ j < 20
    · obtain ⟨hlt1, hlt2⟩ := hlt
      obtain ⟨b, off, rfl, hbs, hc0, hc1, hw0, hw1⟩ := w0 j hlt1
      obtain ⟨z0, z1⟩ := wf_i64 hw0
      rw [← hbw.cell hbs] at hc0 hc1
      have w0' := w0
      clear w0 hw0 hw1
      go_wp2_with fail
      refine (pick_ex _ _ _ (by omega) (by omega) (by omega)).mono ?_
      rintro e wk ⟨r, r0, r1, rfl, rfl⟩
      have hbd := mxZ_bd r 1
      obtain ⟨R, hR⟩ : ∃ R, mxZ r 1 = R := ⟨_, rfl⟩
      obtain ⟨D, hD⟩ : ∃ D, mxZ (N j) 0 = D := ⟨_, rfl⟩
      rw [hR] at hbd
      obtain ⟨rr1, rr2, rr3⟩ := hbd
      have rr4 : R ≤ 1000000 := by omega
      clear rr3
      have HR := Lib.hid hR
      have HD := Lib.hid hD
      clear hR hD
      go_wp2_with fail
      refine (samp_at g S V L M r (N j) _ (by exact hA.out) hi.out (by omega) (by omega)).mono ?_
      rintro e w4 ⟨S', V', L', M', rfl, hA4, hi4, ho, eS, eV, eL, eM⟩
      have HA4 := Lib.hid hA4
      have HI4 := Lib.hid hi4
      have hX4 := Lib.hid (hX.out.ons ho rfl (by simp; omega))
      have hbw4 := below_ons hbw ho rfl rfl rfl rfl (by simp; omega)
      clear ho hA4 hi4 hc0 hc1
      have HE := Lib.hid (And.intro eS (And.intro eV (And.intro eL eM)))
      clear eS eV eL eM
      have hc1 : w4.cell? ⟨b, off + j * 2 + 1, none⟩ = some (.int .i64 (N j)) := by
        obtain ⟨b', off', he', hbs', hd0, hd1, hw0, hw1⟩ := w0' j hlt1
        injection he' with he'; injection he' with he1 he2 he3
        subst he1 he2
        exact (hbw4.cell hbs').trans hd1
      have q1 : (if r < 1 then 1 else r) = R := HR.out
      have q2 : (if N j < 0 then 0 else N j) = D := HD.out
      go_wp2_with fail
      refine (samp_at h S V L M R D _ (by exact hX4.out) hi.out (by omega) (by omega)).mono ?_
      rintro e w5 ⟨S2, V2, L2, M2, rfl, hX5, hi5, ho, fS, fV, fL, fM⟩
      have hsm := same_in S M r (N j) V
      rw [HR.out, HD.out] at hsm
      have gS : S2 = S' := by rw [fS, HE.out.1, hsm.1]
      have gV : V2 = V' := by rw [fV, HE.out.2.1, hsm.2.1]
      have gL : L2 = L' := by rw [fL, HE.out.2.2.1, hsm.2.2.1]
      have gM : M2 = M' := by rw [fM, HE.out.2.2.2, hsm.2.2.2]
      clear fS fV fL fM hsm hi5
      subst gS gV gL gM
      have HX5 : Hid (EAt w5 h S2 V2 L2 M2) := hX5
      have HA5 := Lib.hid (HA4.out.ons ho rfl (by simp; omega))
      have hbw5 := below_ons hbw4 ho rfl rfl rfl rfl (by simp; omega)
      have hc1' : w5.cell? ⟨b, off + j * 2 + 1, none⟩ = some (.int .i64 (N j)) := by
        obtain ⟨b', off', he', hbs', hd0, hd1, hw0, hw1⟩ := w0' j hlt1
        injection he' with he'; injection he' with he1 he2 he3
        subst he1 he2
        exact (hbw5.cell hbs').trans hd1
      clear ho hX5 hc1 q1 q2 HE
      have hpb := pickZ_bd a1 1000000 (by omega)
      obtain ⟨P, hP⟩ : ∃ P, pickZ a1 1000000 = P := ⟨_, rfl⟩
      rw [hP] at hpb
      obtain ⟨p0, p1⟩ := hpb
      have HP := Lib.hid hP; clear hP
      have e1 : IntKind.i64.wrap (-1 - P) = -1 - P := IntWalk.i64_in _ (by omega)
      go_wp2_with fail
      go_region_held3 (fun w' => w'.cell? ⟨b, off + j * 2 + 1, none⟩ = some (.int .i64 (N j))) (go_keep) (first | (go_at_call 25; refine (pick_v a1 1000000 P _ (by omega) (by omega) (by omega) HP.out).mono ?_; rintro e wk ⟨rfl, rfl⟩) | (go_at_call 23; refine (sample_bad g S2 V2 L2 M2 _ _ _ (by exact HA5.out) (by omega)).mono ?_; rintro e wk ⟨rfl, rfl⟩))
      obtain ⟨w6, hw6⟩ : ∃ w6, w5.drew = w6 := ⟨_, rfl⟩
      have HA6 : Hid (EAt w6 g S2 V2 L2 M2) := by rw [← hw6]; exact HA5
      have HX6 : Hid (EAt w6 h S2 V2 L2 M2) := by rw [← hw6]; exact HX5
      have hbw6 : Below w.heap.size w w6 := by rw [← hw6]; exact ⟨hbw5.os, hbw5.tape, hbw5.output, hbw5.size, hbw5.block⟩
      rw [hw6]
      clear hw6 hc1' e1
      go_wp2_with fail
      refine (pick_v a1 1000000 P _ (by omega) (by omega) (by omega) HP.out).mono ?_
      rintro e wk ⟨rfl, rfl⟩
      go_wp2_with fail
      refine (sample_bad g S2 V2 L2 M2 _ _ _ (by exact HA6.out) (by omega)).mono ?_
      rintro e wk ⟨rfl, rfl⟩
      go_wp2_with fail
      go_roundw
      case rel => exact ⟨j + 1, _, _, _, _, by go_num, by omega, HI4, HA6, HX6, hbw6⟩
      case measure => simp [intOf]; omega
    · by_cases hl1 : j < len0
      all_goals
        go_wp2_with fail
        refine (smo_v g S V L M _ (by exact hA.out) hi.out _ rfl).mono ?_
        rintro e wk ⟨rfl, rfl⟩
        go_wp2_with fail
        refine (smo_v h S V L M _ (by exact hX.out) hi.out _ rfl).mono ?_
        rintro e wk ⟨rfl, rfl⟩
        go_wp2_with fail
        refine (var_v g S V L M _ (by exact hA.out) hi.out _ rfl).mono ?_
        rintro e wk ⟨rfl, rfl⟩
        go_wp2_with fail
        refine (var_v h S V L M _ (by exact hX.out) hi.out _ rfl).mono ?_
        rintro e wk ⟨rfl, rfl⟩
        go_wp2_with fail
        refine (min_v g S V L M _ (by exact hA.out) hi.out _ rfl).mono ?_
        rintro e wk ⟨rfl, rfl⟩
        go_wp2_with fail
        refine (min_v h S V L M _ (by exact hX.out) hi.out _ rfl).mono ?_
        rintro e wk ⟨rfl, rfl⟩
        go_wp2_with fail
        refine (loss_v g S V L M _ (by exact hA.out) hi.out _ rfl).mono ?_
        rintro e w5 ⟨rfl, hA5, ho⟩
        have HA5 : Hid (EAt w5 g S V L M) := hA5
        have HX5 := Lib.hid (hX.out.ons ho rfl (by simp))
        have hbw5 := below_ons hbw ho rfl rfl rfl rfl (by simp)
        clear ho hA5
        go_wp2_with fail
        refine (loss_v h S V L M _ (by exact HX5.out) hi.out _ rfl).mono ?_
        rintro e w6 ⟨rfl, hX6, ho⟩
        have HX6 : Hid (EAt w6 h S V L M) := hX6
        have HA6 := Lib.hid (HA5.out.ons ho rfl (by simp))
        have hbw6 := below_ons hbw5 ho rfl rfl rfl rfl (by simp)
        clear ho hX6
        go_wp2_with fail
        refine (probe_v g S V L M _ (by exact HA6.out) hi.out _ _ _ rfl).mono ?_
        rintro e w7 ⟨rfl, hA7, ho⟩
        have HX7 := Lib.hid (HX6.out.ons ho rfl (by simp))
        have hbw7 := below_ons hbw6 ho rfl rfl rfl rfl (by simp)
        clear ho hA7
        go_wp2_with fail
        refine (probe_v h S V L M _ (by exact HX7.out) hi.out _ _ _ rfl).mono ?_
        rintro e w8 ⟨rfl, hX8, ho⟩
        have hbw8 := below_ons hbw7 ho rfl rfl rfl rfl (by simp)
        clear ho hX8
        go_wp2_with fail
        go_ret
        exact ⟨ret_boo (by simp), hbw8⟩
end Go.Proofs.Ytdjjcocmhfmpeaa
