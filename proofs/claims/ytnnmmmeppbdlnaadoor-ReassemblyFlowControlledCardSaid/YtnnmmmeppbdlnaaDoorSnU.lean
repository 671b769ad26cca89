/- ReassemblyBounded: plain law and walk. -/
import Derived.Test.YtnnmmmeppbdlnaaDoorSnR
namespace Go.Proofs.YtnnmmmeppbdlnaaDoor
open Go Go.RowKit
set_option linter.unusedVariables false
set_option linter.unusedSectionVars false
set_option linter.unusedSimpArgs false


/-- The whole window is held. -/
def bdx1 (L : Nat) : Bf := (Bf.new L).hold (0 : Nat) (cutT txt 0 L) false
section
variable (L F n R : Nat) (hL : 1 ≤ L) (hL2 : L ≤ 200) (hF : F ≤ 300) (hn : n ≤ 100) (hR : R ≤ L)
include hL hL2 hF hn hR
theorem bd_1 : (bdx1 L).pos = 0 ∧ (bdx1 L).n = L ∧ (bdx1 L).kn = false := ⟨rfl, rfl, rfl⟩
theorem bd_tx : Tx (bdx1 L) := by have := (Tx.new L).hold 0 L false; exact this
theorem bd_f : (Bf.new L).putC (0 : Nat) (cutS 0 L).data.toList false = 0 :=
  (Tx.new L).put_ok 0 L false (by omega) (by omega) ⟨fun h => by simp at h, .inl rfl⟩ (by simp [Bf.new])
theorem bd_H (k : Nat) (hk : k < L) : (bdx1 L).H k = true := by
  simp only [bdx1, Bf.hold, Bf.new, cutT_len]
  rw [if_pos (by omega)]
theorem bd_ready : (bdx1 L).ready = L := rdy_uniq _ _ _ (Nat.le_refl _) (fun i hi => bd_H L F n R hL hL2 hF hn hR i hi) (fun h => absurd h (Nat.lt_irrefl _))
theorem bd_many : (bdx1 L).many R = R := by
  unfold Bf.many; rw [bd_ready L F n R hL hL2 hF hn hR]; split <;> omega
theorem bd_out : strB ((bdx1 L).out R) = cutS 0 R := by
  unfold cutS cutT Bf.out
  congr 1
  apply List.map_congr_left
  intro k hk
  have hk := List.mem_range.1 hk
  have := (bd_tx L F n R hL hL2 hF hn hR).bytes k (by show k < L; omega) (bd_H L F n R hL hL2 hF hn hR k (by omega))
  simpa [bd_1 L F n R hL hL2 hF hn hR] using this
def bdx2 (L R : Nat) : Bf := (bdx1 L).read R
theorem bd_tx2 : Tx (bdx2 L R) := (bd_tx L F n R hL hL2 hF hn hR).read R
theorem bd_2 : (bdx2 L R).pos = R ∧ (bdx2 L R).n = L ∧ (bdx2 L R).kn = false := ⟨by show (0 : Int) + R = R; omega, rfl, rfl⟩
theorem bd_g0 (h : F + n ≤ R + L) : (bdx2 L R).putC F (cutS F n).data.toList false = 0 :=
  (bd_tx2 L F n R hL hL2 hF hn hR).put_ok F n false (by omega) (by omega) ⟨fun h => by simp at h, .inl rfl⟩ (by obtain ⟨h1, h2, h3⟩ := bd_2 L F n R hL hL2 hF hn hR; rw [h1, h2]; omega)
theorem bd_g1 (h : ¬ F + n ≤ R + L) : (bdx2 L R).putC F (cutS F n).data.toList false = 162 :=
  (bd_tx2 L F n R hL hL2 hF hn hR).put_room F n false (by omega) (by omega) ⟨fun h => by simp at h, .inl rfl⟩ (by obtain ⟨h1, h2, h3⟩ := bd_2 L F n R hL hL2 hF hn hR; rw [h1, h2]; omega)
theorem bd_H2 (k : Nat) (hk : k + R < L) : (bdx2 L R).H k = true := by
  show (if k + R < L then (bdx1 L).H (k + R) else false) = true
  rw [if_pos hk]; exact bd_H L F n R hL hL2 hF hn hR _ hk
theorem bd_rd (y : Bf) (hn : y.n = L) (hy : ∀ k, k + R < L → y.H k = true) : (L : Int) - R ≤ y.ready := by
  have h := rdy_bd y.H y.n 0
  have : L - R ≤ y.ready := by
    rcases Nat.lt_or_ge y.ready (L - R) with c | c
    · have h4 := h.2.2.2 (by show y.ready < 0 + y.n; omega)
      rw [show rdy y.H y.n 0 = y.ready from rfl, hy y.ready (by omega)] at h4
      cases h4
    · exact c
  omega
def bdx3 (L F n R : Nat) : Bf := (bdx2 L R).hold F (cutT txt F n) false
theorem bd_rd2 : (L : Int) - R ≤ (bdx2 L R).ready := bd_rd L F n R hL hL2 hF hn hR _ rfl (fun k hk => bd_H2 L F n R hL hL2 hF hn hR k hk)
theorem bd_rd3 : (L : Int) - R ≤ (bdx3 L F n R).ready := bd_rd L F n R hL hL2 hF hn hR _ rfl (fun k hk => by
  simp only [bdx3, Bf.hold]
  split
  · rfl
  · exact bd_H2 L F n R hL hL2 hF hn hR k hk)
end
theorem slice_to (N m : Nat) (h : m ≤ N) (w : World) : (Instr.slice 9 (.string (txtS N)) none (some (.int .i64 m)) none).run Tryd.prog w = .ok (.string (cutS 0 m)) w := by
  have := slice_txt N 0 m (by omega) w
  simp only [Int.natCast_zero, Int.zero_add] at this
  rw [← this]
  have hs := txtS_size N
  simp [Instr.slice, run_underlying Tryd.underlying9, Instr.sliceBounds, Instr.sliceBound, asIntOf, hs]
set_option maxRecDepth 100000 in
set_option maxHeartbeats 4000000 in
theorem bounded_ok (a0 a1 a2 a3 : Int) (w : World) (v0 : (Lit.int .i64 a0).wf = true) (v1 : (Lit.int .i64 a1).wf = true) (v2 : (Lit.int .i64 a2).wf = true) (v3 : (Lit.int .i64 a3).wf = true) (B : Nat) (c f r g : Addr) (hK : Kp B c f r g w w) (L0 L F n R : Nat) (k0 : pickI a0 200 = L0) (e0 : L0 + 1 = L) (k1 : pickI a1 300 = F) (k2 : pickI a2 100 = n) (k3 : pickI a3 (L + 1 : Int) = R) (hL : 1 ≤ L) (hL2 : L ≤ 200) (hF : F ≤ 300) (hn : n ≤ 100) (hR : R ≤ L) (hc : F + n ≤ R + L) :
    Calls Tryd.prog 9 #[.int .i64 a0, .int .i64 a1, .int .i64 a2, .int .i64 a3] w fun e w' => e = .returned (.bool true) ∧ Below B w w' := by
  have HK := Lib.hid hK; clear hK
  have hsl := slice_txt 700 F n (by omega)
  have hs1 := slice_to 700 L (by omega)
  have hs2 := slice_to 700 R (by omega)
  have z1 := cutS_size 0 R
  have e1 : IntKind.i64.wrap ((F : Int) + n) = F + n := IntWalk.i64_in _ (by omega)
  have e2 : IntKind.i64.wrap (1 + (L0 : Int)) = L := by rw [show (1 : Int) + L0 = L by omega]; exact IntWalk.i64_in _ (by omega)
  have e3 : IntKind.i64.wrap ((L : Int) + 1) = L + 1 := IntWalk.i64_in _ (by omega)
  have e4 : IntKind.i64.wrap ((R : Int) + L) = R + L := IntWalk.i64_in _ (by omega)
  have e5 : IntKind.i64.wrap ((L : Int) - R) = L - R := IntWalk.i64_in _ (by omega)
  have e6 : (if (700 : Int) < (R : Int) then (700 : Int) else (R : Int)) = R := if_neg (by omega)
  have e7 : (if (R : Int) < (700 : Int) then (R : Int) else (700 : Int)) = R := if_pos (by omega)
  have d1 : decide ((F : Int) + n ≤ R + L) = true := decide_eq_true (by omega)
  have d2 : decide ((L : Int) - R ≤ ((bdx3 L F n R).ready : Int)) = true := decide_eq_true (bd_rd3 L F n R hL hL2 hF hn hR)
  go_enter Tryd.func9, Tryd.ntmps9
  go_wp2_with fail
  refine (sane_c B c f r g w _ HK.out).mono ?_
  rintro e w1 ⟨rfl, hK⟩
  replace HK := Lib.hid hK
  clear hK
  go_wp2_with fail
  refine (pick_v a0 200 L0 _ k0 (by omega) (by omega) v0).mono ?_
  rintro e w2 ⟨rfl, rfl⟩
  go_wp2_with fail
  refine (pick_v a1 300 F _ k1 (by omega) (by omega) v1).mono ?_
  rintro e w3 ⟨rfl, rfl⟩
  go_wp2_with fail
  refine (pick_v a2 100 n _ k2 (by omega) (by omega) v2).mono ?_
  rintro e w4 ⟨rfl, rfl⟩
  go_wp2_with fail
  refine (new_c L _ (by omega) (by omega)).mono ?_
  rintro e w5 ⟨b0, g0, h0, rfl, hA, ho, q0, q1, q2⟩
  have HA0 : Hid (BufAt w5 b0 g0 h0 (Bf.new L)) := Lib.hid hA
  have HB0 : Hid (B ≤ b0 ∧ B ≤ g0 ∧ B ≤ h0) := Lib.hid (by have := HK.out.size; omega)
  replace HK := Lib.hid (HK.out.none ho)
  clear hA ho q0 q1 q2
  go_wp2_with fail
  refine (text_c 700 (by omega) _).mono ?_
  rintro e w6 ⟨rfl, ho⟩
  replace HK := Lib.hid (HK.out.none ho)
  replace HA0 := Lib.hid (HA0.out.keep ho (by simp) (by simp) (by simp))
  clear ho
  go_wp2_with fail
  refine (put_v b0 g0 h0 B (Bf.new L) c f r g (0 : Nat) (cutS 0 L) false _ HA0.out HK.out.snt HK.out.size HB0.out 0 (bdx1 L) (bd_f L F n R hL hL2 hF hn hR) (by rw [cutS_list]; rfl)).mono ?_
  rintro e w7 ⟨rfl, hA, ho⟩
  replace HA0 := Lib.hid hA
  replace HK := Lib.hid (HK.out.buf HB0.out ho)
  clear hA ho
  go_wp2_with fail
  refine (pick_v a3 (L + 1 : Int) R _ k3 (by omega) (by omega) v3).mono ?_
  rintro e w8 ⟨rfl, rfl⟩
  go_wp2_with fail
  refine (read_v b0 g0 h0 (bdx1 L) _ HA0.out R R (cutS 0 R) ((bdx1 L).last R) (bdx2 L R) (bd_many L F n R hL hL2 hF hn hR) (bd_out L F n R hL hL2 hF hn hR) rfl rfl (by show (0 : Int) + R ≤ _; omega)).mono ?_
  rintro e w9 ⟨rfl, hA, ho⟩
  replace HA0 := Lib.hid hA
  replace HK := Lib.hid (HK.out.buf HB0.out ho)
  clear hA ho
  go_wp2_with fail
  refine (put_v b0 g0 h0 B (bdx2 L R) c f r g F (cutS F n) false _ HA0.out HK.out.snt HK.out.size HB0.out 0 (bdx3 L F n R) (bd_g0 L F n R hL hL2 hF hn hR hc) (by rw [cutS_list]; rfl)).mono ?_
  rintro e w10 ⟨rfl, hA, ho⟩
  replace HA0 := Lib.hid hA
  replace HK := Lib.hid (HK.out.buf HB0.out ho)
  clear hA ho
  go_wp2_with fail
  refine (ready_c b0 g0 h0 (bdx3 L F n R) _ HA0.out).mono ?_
  rintro e w11 ⟨rfl, rfl⟩
  go_wp2_with fail
  go_ret
  exact ⟨rfl, HK.out.bel⟩
set_option maxRecDepth 100000 in
set_option maxHeartbeats 4000000 in
theorem bounded_no (a0 a1 a2 a3 : Int) (w : World) (v0 : (Lit.int .i64 a0).wf = true) (v1 : (Lit.int .i64 a1).wf = true) (v2 : (Lit.int .i64 a2).wf = true) (v3 : (Lit.int .i64 a3).wf = true) (B : Nat) (c f r g : Addr) (hK : Kp B c f r g w w) (L0 L F n R : Nat) (k0 : pickI a0 200 = L0) (e0 : L0 + 1 = L) (k1 : pickI a1 300 = F) (k2 : pickI a2 100 = n) (k3 : pickI a3 (L + 1 : Int) = R) (hL : 1 ≤ L) (hL2 : L ≤ 200) (hF : F ≤ 300) (hn : n ≤ 100) (hR : R ≤ L) (hc : ¬ F + n ≤ R + L) :
    Calls Tryd.prog 9 #[.int .i64 a0, .int .i64 a1, .int .i64 a2, .int .i64 a3] w fun e w' => e = .returned (.bool true) ∧ Below B w w' := by
  have HK := Lib.hid hK; clear hK
  have hsl := slice_txt 700 F n (by omega)
  have hs1 := slice_to 700 L (by omega)
  have hs2 := slice_to 700 R (by omega)
  have z1 := cutS_size 0 R
  have e1 : IntKind.i64.wrap ((F : Int) + n) = F + n := IntWalk.i64_in _ (by omega)
  have e2 : IntKind.i64.wrap (1 + (L0 : Int)) = L := by rw [show (1 : Int) + L0 = L by omega]; exact IntWalk.i64_in _ (by omega)
  have e3 : IntKind.i64.wrap ((L : Int) + 1) = L + 1 := IntWalk.i64_in _ (by omega)
  have e4 : IntKind.i64.wrap ((R : Int) + L) = R + L := IntWalk.i64_in _ (by omega)
  have e5 : IntKind.i64.wrap ((L : Int) - R) = L - R := IntWalk.i64_in _ (by omega)
  have e6 : (if (700 : Int) < (R : Int) then (700 : Int) else (R : Int)) = R := if_neg (by omega)
  have e7 : (if (R : Int) < (700 : Int) then (R : Int) else (700 : Int)) = R := if_pos (by omega)
  have d1 : decide ((F : Int) + n ≤ R + L) = false := decide_eq_false (by omega)
  have d2 : decide ((L : Int) - R ≤ ((bdx2 L R).ready : Int)) = true := decide_eq_true (bd_rd2 L F n R hL hL2 hF hn hR)
  go_enter Tryd.func9, Tryd.ntmps9
  go_wp2_with fail
  refine (sane_c B c f r g w _ HK.out).mono ?_
  rintro e w1 ⟨rfl, hK⟩
  replace HK := Lib.hid hK
  clear hK
  go_wp2_with fail
  refine (pick_v a0 200 L0 _ k0 (by omega) (by omega) v0).mono ?_
  rintro e w2 ⟨rfl, rfl⟩
  go_wp2_with fail
  refine (pick_v a1 300 F _ k1 (by omega) (by omega) v1).mono ?_
  rintro e w3 ⟨rfl, rfl⟩
  go_wp2_with fail
  refine (pick_v a2 100 n _ k2 (by omega) (by omega) v2).mono ?_
  rintro e w4 ⟨rfl, rfl⟩
  go_wp2_with fail
  refine (new_c L _ (by omega) (by omega)).mono ?_
  rintro e w5 ⟨b0, g0, h0, rfl, hA, ho, q0, q1, q2⟩
  have HA0 : Hid (BufAt w5 b0 g0 h0 (Bf.new L)) := Lib.hid hA
  have HB0 : Hid (B ≤ b0 ∧ B ≤ g0 ∧ B ≤ h0) := Lib.hid (by have := HK.out.size; omega)
  replace HK := Lib.hid (HK.out.none ho)
  clear hA ho q0 q1 q2
  go_wp2_with fail
  refine (text_c 700 (by omega) _).mono ?_
  rintro e w6 ⟨rfl, ho⟩
  replace HK := Lib.hid (HK.out.none ho)
  replace HA0 := Lib.hid (HA0.out.keep ho (by simp) (by simp) (by simp))
  clear ho
  go_wp2_with fail
  refine (put_v b0 g0 h0 B (Bf.new L) c f r g (0 : Nat) (cutS 0 L) false _ HA0.out HK.out.snt HK.out.size HB0.out 0 (bdx1 L) (bd_f L F n R hL hL2 hF hn hR) (by rw [cutS_list]; rfl)).mono ?_
  rintro e w7 ⟨rfl, hA, ho⟩
  replace HA0 := Lib.hid hA
  replace HK := Lib.hid (HK.out.buf HB0.out ho)
  clear hA ho
  go_wp2_with fail
  refine (pick_v a3 (L + 1 : Int) R _ k3 (by omega) (by omega) v3).mono ?_
  rintro e w8 ⟨rfl, rfl⟩
  go_wp2_with fail
  refine (read_v b0 g0 h0 (bdx1 L) _ HA0.out R R (cutS 0 R) ((bdx1 L).last R) (bdx2 L R) (bd_many L F n R hL hL2 hF hn hR) (bd_out L F n R hL hL2 hF hn hR) rfl rfl (by show (0 : Int) + R ≤ _; omega)).mono ?_
  rintro e w9 ⟨rfl, hA, ho⟩
  replace HA0 := Lib.hid hA
  replace HK := Lib.hid (HK.out.buf HB0.out ho)
  clear hA ho
  go_wp2_with fail
  refine (put_v b0 g0 h0 B (bdx2 L R) c f r g F (cutS F n) false _ HA0.out HK.out.snt HK.out.size HB0.out 162 (bdx2 L R) (bd_g1 L F n R hL hL2 hF hn hR hc) rfl).mono ?_
  rintro e w10 ⟨rfl, hA, ho⟩
  replace HA0 := Lib.hid hA
  replace HK := Lib.hid (HK.out.buf HB0.out ho)
  clear hA ho
  go_wp2_with fail
  refine (ready_c b0 g0 h0 (bdx2 L R) _ HA0.out).mono ?_
  rintro e w11 ⟨rfl, rfl⟩
  go_wp2_with fail
  go_ret
  exact ⟨rfl, HK.out.bel⟩
theorem bounded_walk (a0 a1 a2 a3 : Int) (w : World) (v0 : (Lit.int .i64 a0).wf = true) (v1 : (Lit.int .i64 a1).wf = true) (v2 : (Lit.int .i64 a2).wf = true) (v3 : (Lit.int .i64 a3).wf = true) (c f r g : Addr) (hS : Snt w.heap.size c f r g w) :
    Calls Tryd.prog 9 #[.int .i64 a0, .int .i64 a1, .int .i64 a2, .int .i64 a3] w fun e w' => e = .returned (.bool true) ∧ Below w.heap.size w w' := by
  obtain ⟨L0, k0, q0⟩ := pick_nat a0 200 (by omega)
  obtain ⟨F, k1, q1⟩ := pick_nat a1 300 (by omega)
  obtain ⟨n, k2, q2⟩ := pick_nat a2 100 (by omega)
  obtain ⟨R, k3, q3⟩ := pick_nat a3 ((L0 + 1 : Nat) + 1) (by omega)
  by_cases hc : F + n ≤ R + (L0 + 1)
  · exact bounded_ok a0 a1 a2 a3 w v0 v1 v2 v3 _ c f r g (Kp.start hS) L0 (L0 + 1) F n R k0 rfl k1 k2 k3 (by omega) (by omega) (by omega) (by omega) (by omega) hc
  · exact bounded_no a0 a1 a2 a3 w v0 v1 v2 v3 _ c f r g (Kp.start hS) L0 (L0 + 1) F n R k0 rfl k1 k2 k3 (by omega) (by omega) (by omega) (by omega) (by omega) hc
end Go.Proofs.YtnnmmmeppbdlnaaDoor
