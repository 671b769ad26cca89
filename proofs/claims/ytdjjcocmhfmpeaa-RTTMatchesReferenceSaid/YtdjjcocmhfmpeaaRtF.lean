/- The walk of RTTMatchesReference. -/
import Derived.Test.YtdjjcocmhfmpeaaRtE
import Derived.Test.YtdjjcocmhfmpeaaArg
namespace Go.Proofs.Ytdjjcocmhfmpeaa
open Go.RowKit
set_option linter.unusedVariables false
set_option linter.unusedSimpArgs false

def EAt (w : World) (g : Nat) (S V L M : Int) : Prop := At w g 48 #[.int .i64 S, .int .i64 V, .int .i64 L, .int .i64 M]
def XAt (w : World) (g : Nat) (S V L M : Int) : Prop := At w g 30 #[.int .i64 L, .int .i64 M, .int .i64 S, .int .i64 V, .bool (decide (M ≠ 0))]
theorem XAt.on {w w1 w2 : World} {g : Nat} {S V L M : Int} (h : XAt w g S V L M) (ho : Only [] w1 w2) (hd : w1.heap = w.heap) : XAt w2 g S V L M := by
  have h1 : At w1 g 30 #[.int .i64 L, .int .i64 M, .int .i64 S, .int .i64 V, .bool (decide (M ≠ 0))] := by unfold At; rw [hd]; exact h
  exact h1.keep ho (by simp)
theorem EAt.on {w w1 w2 : World} {g : Nat} {S V L M : Int} (h : EAt w g S V L M) (ho : Only [] w1 w2) (hd : w1.heap = w.heap) : EAt w2 g S V L M := by
  have h1 : At w1 g 48 #[.int .i64 S, .int .i64 V, .int .i64 L, .int .i64 M] := by unfold At; rw [hd]; exact h
  exact h1.keep ho (by simp)
theorem XAt.ons {w w1 w2 : World} {g : Nat} {S V L M : Int} {T : List Nat} (h : XAt w g S V L M) (ho : Only T w1 w2) (hd : w1.heap = w.heap) (hg : g ∉ T) : XAt w2 g S V L M := by
  have h1 : At w1 g 30 #[.int .i64 L, .int .i64 M, .int .i64 S, .int .i64 V, .bool (decide (M ≠ 0))] := by unfold At; rw [hd]; exact h
  exact h1.keep ho hg
theorem EAt.ons {w w1 w2 : World} {g : Nat} {S V L M : Int} {T : List Nat} (h : EAt w g S V L M) (ho : Only T w1 w2) (hd : w1.heap = w.heap) (hg : g ∉ T) : EAt w2 g S V L M := by
  have h1 : At w1 g 48 #[.int .i64 S, .int .i64 V, .int .i64 L, .int .i64 M] := by unfold At; rw [hd]; exact h
  exact h1.keep ho hg
theorem below_ons {w a w1 w2 : World} {T : List Nat} (h : Below w.heap.size w a) (ho : Only T w1 w2) (hd : w1.heap = a.heap) (e1 : w1.os = a.os) (e2 : w1.tape = a.tape) (e3 : w1.output = a.output) (hg : ∀ k ∈ T, w.heap.size ≤ k) : Below w.heap.size w w2 := by
  have h1 : Below w.heap.size w w1 := ⟨e1.trans h.os, e2.trans h.tape, e3.trans h.output, by rw [hd]; exact h.size, by rw [hd]; exact h.block⟩
  exact h1.trans (ho.below hg h1.size)
theorem below_on {w a w1 w2 : World} (h : Below w.heap.size w a) (ho : Only [] w1 w2) (hd : w1.heap = a.heap) (e1 : w1.os = a.os) (e2 : w1.tape = a.tape) (e3 : w1.output = a.output) : Below w.heap.size w w2 := by
  have h1 : Below w.heap.size w w1 := ⟨e1.trans h.os, e2.trans h.tape, e3.trans h.output, by rw [hd]; exact h.size, by rw [hd]; exact h.block⟩
  exact h1.trans (ho.below (by simp) h1.size)
def MRel (w : World) (g h : Nat) (i : Value) (wr : World) : Prop := ∃ (j : Nat) (S V L M : Int), i = .int .i64 j ∧ j ≤ 61 ∧ Hid (RInv S V L M) ∧ Hid (EAt wr g S V L M) ∧ Hid (XAt wr h S V L M) ∧ Below w.heap.size w wr
def MRel2 (w : World) (g h : Nat) (S V L M : Int) (k : Value) (wr : World) : Prop := ∃ (kk : Int), k = .int .i64 kk ∧ -1 ≤ kk ∧ kk ≤ 8 ∧ Hid (EAt wr g S V L M) ∧ Hid (XAt wr h S V L M) ∧ Below w.heap.size w wr
set_option maxRecDepth 100000 in
set_option maxHeartbeats 4000000 in
theorem match_walk (a0 : Option Addr) (len0 cap0 : Nat) (K N : Nat → Int) (a1 a2 : Int) (w : World) (w0 : Pairs .i64 .i64 w a0 len0 K N) (w1 : (Lit.int .i64 a1).wf = true) (w2 : (Lit.int .i64 a2).wf = true) :
    Calls Try.prog 3 #[.slice a0 len0 cap0, .int .i64 a1, .int .i64 a2] w fun e w' => e = .returned (.bool true) ∧ Below w.heap.size w w' := by
  go_enter Try.func3, Try.ntmps3
  go_wp2_with fail
  refine (sane_any _).mono ?_
  rintro e wA ⟨rfl, hb⟩
  go_wp2_with fail
  refine (new_at _).mono ?_
  rintro e wB ⟨g, rfl, hA, ho, hg⟩
  have hgA := hb.size
  have hgB := ho.size
  replace hb := hb.trans ((ho.below (B := w.heap.size) (by simp) hb.size)); clear ho
  go_wp2_with fail
  refine (xnew_at _).mono ?_
  rintro e wC ⟨h, rfl, hX, ho, hh⟩
  have hgC := ho.size
  have hlt := hA.lt
  have hgh : g ≠ h := by omega
  have hA' := hA.keep ho (by simp)
  replace hb := hb.trans ((ho.below (B := w.heap.size) (by simp) hb.size)); clear ho hA
  have hgw : w.heap.size ≤ g := by omega
  have hhw : w.heap.size ≤ h := by omega
  clear hg hh hgA hgB hgC hlt
  have HA := Lib.hid (p := EAt wC g 80 20 0 0) hA'
  have HX := Lib.hid (p := XAt wC h 80 20 0 0) hX
  clear hA' hX
  go_wp2_with fail
  go_loopw [10] (fun i wr => MRel w g h i wr) (fun i _ => 62 - (intOf i).toNat)
  case atStart => exact ⟨0, 80, 20, 0, 0, rfl, by omega, RInv.start, HA, HX, hb⟩
  case round =>
    obtain ⟨j, S, V, L, M, rfl, hj, hi, hA, hX, hbw⟩ := hrel
    clear hb
    have hbd := hi.out.bd
    obtain ⟨s0, s1, v0, v1, m0, m1, l1⟩ := hbd
    have s0' : 0 ≤ S := by omega
    have l0 : 0 ≤ L := by omega
    by_cases hlt : j ≤ len0 ∧ j ≤ 60
    · obtain ⟨hlt1, hlt2⟩ := hlt
      have hlt1' : (j : Int) ≤ len0 := by omega
      have hcx : wr.cell? ⟨h, 1, none⟩ = some (.int .i64 M) := At.cell hX.out 1 rfl
      go_wp2_with fail
      go_region_held3 (fun w' => w'.cell? ⟨h, 1, none⟩ = some (.int .i64 M)) (first | exact hcx3 | exact hcx2 | exact hcx) (first | (go_at_call 14; refine (smo_v g S V L M _ (by exact hA.out) hi.out _ rfl).mono ?_; rintro e wk ⟨rfl, rfl⟩) | (go_at_call 15; refine (xsmoothed_c h S V L M _ _ (by exact hX.out) s0' (by omega)).mono ?_; rintro e wk ⟨rfl, rfl⟩) | (go_at_call 16; refine (var_v g S V L M _ (by exact hA.out) hi.out _ rfl).mono ?_; rintro e wk ⟨rfl, rfl⟩) | (go_at_call 17; refine (xvariation_c h S V L M _ _ (by exact hX.out) v0 (by omega)).mono ?_; rintro e wk ⟨rfl, rfl⟩) | (go_at_call 18; refine (min_v g S V L M _ (by exact hA.out) hi.out _ rfl).mono ?_; rintro e wk ⟨rfl, rfl⟩) | (go_at_call 19; refine (loss_c g S V L M _ (by exact hA.out) s0' s1 l0 l1).mono ?_; rintro e w2 ⟨rfl, ho2⟩; have hX2 := Lib.hid (hX.out.on ho2 rfl); have hA2 := Lib.hid (hA.out.on ho2 rfl); have hb2 := below_on hbw ho2 rfl rfl rfl rfl; have hcx2 := At.cell hX2.out 1 rfl; clear ho2) | (go_at_call 20; refine (xloss_c h S V L M _ _ (by exact hX2.out) s0' s1 l0 l1).mono ?_; rintro e w3 ⟨rfl, ho3⟩; have hX3 := Lib.hid (hX2.out.on ho3 rfl); have hA3 := Lib.hid (hA2.out.on ho3 rfl); have hb3 := below_on hb2 ho3 rfl rfl rfl rfl; have hcx3 := At.cell hX3.out 1 rfl; clear ho3))
      clear hcx hcx2 hcx3 hA hX hA2 hX2 hbw hb2
      go_wp2_with fail
      go_loopw [11] (fun k wr' => MRel2 w g h S V L M k wr') (fun k _ => (8 - intOf k).toNat)
      case atStart => exact ⟨-1, rfl, by omega, by omega, hA3, hX3, hb3⟩
      case round =>
        obtain ⟨kk, rfl, k0, k1, hA, hX, hbw⟩ := hrel
        clear hA3 hX3 hb3
        by_cases hk : kk < 8
        · go_wp2_with fail
          refine (probe_c g S V L M _ _ _ (by exact hA.out) hi.out).mono ?_
          rintro e w4 ⟨rfl, ho⟩
          replace hA := Lib.hid (hA.out.on ho rfl)
          replace hX := Lib.hid (hX.out.on ho rfl)
          replace hbw := below_on hbw ho rfl rfl rfl rfl
          clear ho
          go_wp2_with fail
          refine (xprobe_c h S V L M _ _ (by exact hX.out) _ _ hi.out).mono ?_
          rintro e w4 ⟨rfl, ho⟩
          replace hA := Lib.hid (hA.out.on ho rfl)
          replace hX := Lib.hid (hX.out.on ho rfl)
          replace hbw := below_on hbw ho rfl rfl rfl rfl
          clear ho
          go_wp2_with fail
          refine (probe_c g S V L M _ _ _ (by exact hA.out) hi.out).mono ?_
          rintro e w4 ⟨rfl, ho⟩
          replace hA := Lib.hid (hA.out.on ho rfl)
          replace hX := Lib.hid (hX.out.on ho rfl)
          replace hbw := below_on hbw ho rfl rfl rfl rfl
          clear ho
          go_wp2_with fail
          refine (xprobe_c h S V L M _ _ (by exact hX.out) _ _ hi.out).mono ?_
          rintro e w4 ⟨rfl, ho⟩
          replace hA := Lib.hid (hA.out.on ho rfl)
          replace hX := Lib.hid (hX.out.on ho rfl)
          replace hbw := below_on hbw ho rfl rfl rfl rfl
          clear ho
          go_wp2_with fail
          refine (probe_c g S V L M _ _ _ (by exact hA.out) hi.out).mono ?_
          rintro e w4 ⟨rfl, ho⟩
          replace hA := Lib.hid (hA.out.on ho rfl)
          replace hX := Lib.hid (hX.out.on ho rfl)
          replace hbw := below_on hbw ho rfl rfl rfl rfl
          clear ho
          go_wp2_with fail
          refine (xprobe_c h S V L M _ _ (by exact hX.out) _ _ hi.out).mono ?_
          rintro e w4 ⟨rfl, ho⟩
          replace hA := Lib.hid (hA.out.on ho rfl)
          replace hX := Lib.hid (hX.out.on ho rfl)
          replace hbw := below_on hbw ho rfl rfl rfl rfl
          clear ho
          go_wp2_with fail
          go_roundw
          case rel => exact ⟨kk + 1, rfl, by omega, by omega, hA, hX, hbw⟩
          case measure => simp [intOf]; omega
        · by_cases hl : j < len0
          · obtain ⟨b, off, rfl, hbs, hc0, hc1, hw0, hw1⟩ := w0 j hl
            rw [← hbw.cell hbs] at hc0 hc1
            clear hw0 hw1
            have w0' := w0; clear w0
            go_wp2_with fail
            go_still_tail 11, (by kernel_rfl)
            go_wp2_with fail
            by_cases hv : 0 ≤ K j ∧ K j ≤ 1000000
            · obtain ⟨hv1, hv2⟩ := hv
              have hst := hi.out.step (d := N j) hv1 hv2
              have hi' : Hid (RInv (smoZ S M (K j) (N j)) (varZ S V M (K j) (N j)) (rcZ (K j)) (minZ M (K j))) := hst.1
              have hm' : decide (minZ M (K j) ≠ 0) = true := by simpa using hst.2
              clear hst
              refine (sample_c g S V L M _ _ _ (by exact hA.out) hi.out hv1 hv2).mono ?_
              rintro e w4 ⟨rfl, hA4, ho⟩
              have HA4 := Lib.hid hA4; clear hA4
              have hX4 := Lib.hid (hX.out.ons ho rfl (by simp; omega))
              have hbw4 := below_ons hbw ho rfl rfl rfl rfl (by simp; omega)
              clear ho hc0 hc1
              obtain ⟨b', off', he', hbs', hc0, hc1, hw0, hw1⟩ := w0' j hl
              injection he' with he'; injection he' with he1 he2 he3
              subst he1 he2
              rw [← hbw4.cell hbs'] at hc0 hc1
              clear hw0 hw1
              go_wp2_with fail
              go_still_tail 11, (by kernel_rfl)
              go_wp2_with fail
              refine (xsample_c h S V L M _ _ _ _ (by exact hX4.out) hi.out rfl hv1 hv2).mono ?_
              rintro e w5 ⟨rfl, hX5, ho⟩
              have HX5 : Hid (XAt w5 h (smoZ S M (K j) (N j)) (varZ S V M (K j) (N j)) (rcZ (K j)) (minZ M (K j))) := by unfold XAt; rw [hm']; exact hX5
              clear hX5
              have HA5 := Lib.hid (EAt.ons (by exact HA4.out) ho rfl (by simp; omega))
              have hbw5 := below_ons hbw4 ho rfl rfl rfl rfl (by simp; omega)
              clear ho hc0 hc1 hm'
              go_wp2_with fail
              go_roundw
              case rel => exact ⟨j + 1, _, _, _, _, by go_num, by omega, hi', HA5, HX5, hbw5⟩
              case measure => simp [intOf]; omega
            · have hv' : K j < 0 ∨ 1000000 < K j := by omega
              refine (sample_bad g S V L M _ _ _ (by exact hA.out) hv').mono ?_
              rintro e w4 ⟨rfl, hw4⟩
              have hA4 : Hid (EAt w4 g S V L M) := by rw [← hw4]; exact hA
              have hX4 : Hid (XAt w4 h S V L M) := by rw [← hw4]; exact hX
              have hbw4 : Below w.heap.size w w4 := by rw [← hw4]; exact ⟨hbw.os, hbw.tape, hbw.output, hbw.size, hbw.block⟩
              have hd0 : w4.cell? ⟨b, off + j * 2, none⟩ = some (.int .i64 (K j)) := by rw [← hw4]; exact hc0
              have hd1 : w4.cell? ⟨b, off + j * 2 + 1, none⟩ = some (.int .i64 (N j)) := by rw [← hw4]; exact hc1
              clear hw4 hc0 hc1 hA hX hbw
              go_wp2_with fail
              go_still_tail 11, (by kernel_rfl)
              go_wp2_with fail
              refine (xsample_bad h _ _ _ hv').mono ?_
              rintro e w5 ⟨rfl, rfl⟩
              go_wp2_with fail
              go_roundw
              case rel => exact ⟨j + 1, S, V, L, M, by go_num, by omega, hi, hA4, hX4, ⟨hbw4.os, hbw4.tape, hbw4.output, hbw4.size, hbw4.block⟩⟩
              case measure => simp [intOf]; omega
          · go_wp2_with fail
            go_roundw
            case rel => exact ⟨j + 1, S, V, L, M, by go_num, by omega, hi, hA, hX, hbw⟩
            case measure => simp [intOf]; omega
    · by_cases hl1 : j ≤ len0
      all_goals
        go_wp2_with fail
        go_ret
        exact ⟨rfl, hbw⟩
end Go.Proofs.Ytdjjcocmhfmpeaa
