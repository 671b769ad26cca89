/- ReassemblyFinalSize: plain law and walk. -/
import Derived.Test.YtnnmmmeppbdlnaaDoorSnR
namespace Go.Proofs.YtnnmmmeppbdlnaaDoor
open Go Go.RowKit
set_option linter.unusedVariables false
set_option linter.unusedSectionVars false
set_option linter.unusedSimpArgs false


theorem finB_def (b : Bf) (e : Int) (f : Bool) : b.finB e f = (!(f && decide (e < b.hi)) && (!b.kn || decide (e = b.fin) || (decide (e < b.fin) && !f))) := rfl
section
variable (S F n : Nat) (hS : S ≤ 100) (hF : F ≤ 120) (hn : n ≤ 120)
include hS hF hn
def fsx1 (S : Nat) : Bf := (Bf.new 300).hold S (cutT txt S 0) true
theorem fs_tx1 : Tx (fsx1 S) := (Tx.new 300).hold S 0 true
theorem fs_g : (Bf.new 300).putC S (cutS S 0).data.toList true = 0 :=
  (Tx.new 300).put_ok S 0 true (by omega) (by omega) ⟨fun h => by have := h.2; simp [Bf.new] at this; omega, .inl rfl⟩ (by simp [Bf.new]; omega)
theorem fs_1 : (fsx1 S).hi = S ∧ (fsx1 S).fin = S ∧ (fsx1 S).kn = true ∧ (fsx1 S).pos = 0 ∧ (fsx1 S).n = 300 := by
  refine ⟨?_, ?_, ?_, ?_, ?_⟩ <;> simp [fsx1, Bf.hold, Bf.new, cutT_len] <;> omega
theorem fs_h : (fsx1 S).putC F (cutS F n).data.toList false = if F + n ≤ S then 0 else 161 := by
  obtain ⟨h1, h2, h3, h4, h5⟩ := fs_1 S F n hS hF hn
  by_cases c : F + n ≤ S
  · rw [if_pos c]
    refine (fs_tx1 S F n hS hF hn).put_ok F n false (by omega) (by omega) ⟨fun h => by simp at h, ?_⟩ (by rw [h4, h5]; omega)
    rw [h2]
    by_cases e : (F : Int) + n = S
    · exact .inr (.inl e)
    · exact .inr (.inr ⟨by omega, rfl⟩)
  · rw [if_neg c]
    refine (fs_tx1 S F n hS hF hn).put_fin F n false (by omega) (by omega) (fun hh => ?_)
    rcases hh.2 with h | h | h
    · rw [h3] at h; cases h
    · rw [h2] at h; omega
    · rw [h2] at h; omega
/-- The buffer behind the second Put. -/
def fsx2 (S F n : Nat) : Bf := if F + n ≤ S then (fsx1 S).hold F (cutT txt F n) false else fsx1 S
theorem fs_tx2 : Tx (fsx2 S F n) := by
  unfold fsx2; split
  · exact (fs_tx1 S F n hS hF hn).hold F n false
  · exact fs_tx1 S F n hS hF hn
theorem fs_2 : (fsx2 S F n).hi = S ∧ (fsx2 S F n).fin = S ∧ (fsx2 S F n).kn = true ∧ (fsx2 S F n).pos = 0 ∧ (fsx2 S F n).n = 300 := by
  obtain ⟨h1, h2, h3, h4, h5⟩ := fs_1 S F n hS hF hn
  unfold fsx2
  by_cases c : F + n ≤ S
  · rw [if_pos c]
    refine ⟨?_, ?_, ?_, ?_, ?_⟩ <;> simp [Bf.hold, cutT_len, h1, h2, h3, h4, h5]
    omega
  · rw [if_neg c]; exact ⟨h1, h2, h3, h4, h5⟩
theorem fs_i : (fsx2 S F n).putC F (cutS F n).data.toList true = if F + n = S then 0 else 161 := by
  obtain ⟨h1, h2, h3, h4, h5⟩ := fs_2 S F n hS hF hn
  by_cases c : F + n = S
  · rw [if_pos c]
    exact (fs_tx2 S F n hS hF hn).put_ok F n true (by omega) (by omega) ⟨fun h => by rw [h1] at h; omega, .inr (.inl (by rw [h2]; omega))⟩ (by rw [h4, h5]; omega)
  · rw [if_neg c]
    refine (fs_tx2 S F n hS hF hn).put_fin F n true (by omega) (by omega) (fun hh => ?_)
    rcases hh.2 with h | h | h
    · rw [h3] at h; cases h
    · rw [h2] at h; omega
    · cases h.2
theorem fs_j : (Bf.new 300).putC F (cutS F n).data.toList false = 0 :=
  (Tx.new 300).put_ok F n false (by omega) (by omega) ⟨fun h => by simp at h, .inl rfl⟩ (by simp [Bf.new]; omega)
def fsy1 (F n : Nat) : Bf := (Bf.new 300).hold F (cutT txt F n) false
theorem fs_k : (fsy1 F n).putC S (cutS S 0).data.toList true = if F + n ≤ S then 0 else 161 := by
  have h1 : (fsy1 F n).hi = F + n := by simp [fsy1, Bf.hold, Bf.new, cutT_len]; omega
  have h3 : (fsy1 F n).kn = false := by simp [fsy1, Bf.hold, Bf.new]
  have h4 : (fsy1 F n).pos = 0 := rfl
  have h5 : (fsy1 F n).n = 300 := rfl
  have ht : Tx (fsy1 F n) := (Tx.new 300).hold F n false
  by_cases c : F + n ≤ S
  · rw [if_pos c]
    exact ht.put_ok S 0 true (by omega) (by omega) ⟨fun h => by rw [h1] at h; omega, .inl h3⟩ (by rw [h4, h5]; omega)
  · rw [if_neg c]
    exact ht.put_fin S 0 true (by omega) (by omega) (fun hh => hh.1 ⟨rfl, by rw [h1]; omega⟩)
end
theorem empty_cut (S : Nat) : (⟨#[]⟩ : ByteArray) = cutS S 0 := rfl
set_option maxRecDepth 100000 in
set_option maxHeartbeats 4000000 in
theorem final_eq (a0 a1 a2 : Int) (w : World) (v0 : (Lit.int .i64 a0).wf = true) (v1 : (Lit.int .i64 a1).wf = true) (v2 : (Lit.int .i64 a2).wf = true) (B : Nat) (c f r g : Addr) (hK : Kp B c f r g w w) (S F n : Nat) (k0 : pickI a0 101 = S) (k1 : pickI a1 121 = F) (k2 : pickI a2 121 = n) (hS : S ≤ 100) (hF : F ≤ 120) (hn : n ≤ 120) (hi : F + n = S) (hc : F + n ≤ S) :
    Calls Tryd.prog 8 #[.int .i64 a0, .int .i64 a1, .int .i64 a2] w fun e w' => e = .returned (.bool true) ∧ Below B w w' := by
  have HK := Lib.hid hK; clear hK
  have hsl := slice_txt 241 F n (by omega)
  have e1 : IntKind.i64.wrap ((F : Int) + n) = F + n := IntWalk.i64_in _ (by omega)
  have d1 : decide ((F : Int) + n ≤ S) = true := decide_eq_true (by omega)
  have d2 : ((F : Int) + n == S) = true := beq_iff_eq.2 (by omega)
  go_enter Tryd.func8, Tryd.ntmps8
  go_wp2_with fail
  refine (sane_c B c f r g w _ HK.out).mono ?_
  rintro e w1 ⟨rfl, hK⟩
  replace HK := Lib.hid hK
  clear hK
  go_wp2_with fail
  refine (pick_v a0 101 S _ k0 (by omega) (by omega) v0).mono ?_
  rintro e w2 ⟨rfl, rfl⟩
  go_wp2_with fail
  refine (pick_v a1 121 F _ k1 (by omega) (by omega) v1).mono ?_
  rintro e w3 ⟨rfl, rfl⟩
  go_wp2_with fail
  refine (pick_v a2 121 n _ k2 (by omega) (by omega) v2).mono ?_
  rintro e w4 ⟨rfl, rfl⟩
  go_wp2_with fail
  refine (text_c 241 (by omega) _).mono ?_
  rintro e w5 ⟨rfl, ho⟩
  replace HK := Lib.hid (HK.out.none ho)
  clear ho
  go_wp2_with fail
  refine (new_c 300 _ (by omega) (by omega)).mono ?_
  rintro e w6 ⟨b0, g0, h0, rfl, hA, ho, q0, q1, q2⟩
  have HA0 : Hid (BufAt w6 b0 g0 h0 (Bf.new 300)) := Lib.hid hA
  have HB0 : Hid (B ≤ b0 ∧ B ≤ g0 ∧ B ≤ h0) := Lib.hid (by have := HK.out.size; omega)
  replace HK := Lib.hid (HK.out.none ho)
  clear hA ho q0 q1 q2
  go_wp2_with fail
  refine (new_c 300 _ (by omega) (by omega)).mono ?_
  rintro e w7 ⟨b1, g1, h1, rfl, hA, ho, q0, q1, q2⟩
  have HA1 : Hid (BufAt w7 b1 g1 h1 (Bf.new 300)) := Lib.hid hA
  have HB1 : Hid (B ≤ b1 ∧ B ≤ g1 ∧ B ≤ h1) := Lib.hid (by have := HK.out.size; omega)
  have HD01 : Hid ((b1 ∉ [b0, g0, h0] ∧ g1 ∉ [b0, g0, h0] ∧ h1 ∉ [b0, g0, h0]) ∧ (b0 ∉ [b1, g1, h1] ∧ g0 ∉ [b1, g1, h1] ∧ h0 ∉ [b1, g1, h1])) := Lib.hid (by have := HA0.out.lt; simp; omega)
  replace HA0 := Lib.hid (HA0.out.keep ho (by simp) (by simp) (by simp))
  replace HK := Lib.hid (HK.out.none ho)
  clear hA ho q0 q1 q2
  go_wp2_with fail
  refine (put_v b0 g0 h0 B (Bf.new 300) c f r g S ⟨#[]⟩ true _ HA0.out HK.out.snt HK.out.size HB0.out 0 (fsx1 S) (fs_g S F n hS hF hn) rfl).mono ?_
  rintro e w8 ⟨rfl, hA, ho⟩
  replace HA0 := Lib.hid hA
  replace HK := Lib.hid (HK.out.buf HB0.out ho)
  replace HA1 := Lib.hid (HA1.out.keep ho HD01.out.1.1 HD01.out.1.2.1 HD01.out.1.2.2)
  clear hA ho
  go_wp2_with fail
  refine (put_v b0 g0 h0 B (fsx1 S) c f r g F (cutS F n) false _ HA0.out HK.out.snt HK.out.size HB0.out 0 (fsx2 S F n) (by rw [fs_h S F n hS hF hn]; simp [hc]) (by rw [cutS_list]; simp [fsx2, hc])).mono ?_
  rintro e w9 ⟨rfl, hA, ho⟩
  replace HA0 := Lib.hid hA
  replace HK := Lib.hid (HK.out.buf HB0.out ho)
  replace HA1 := Lib.hid (HA1.out.keep ho HD01.out.1.1 HD01.out.1.2.1 HD01.out.1.2.2)
  clear hA ho
  go_wp2_with fail
  refine (put_v b0 g0 h0 B (fsx2 S F n) c f r g F (cutS F n) true _ HA0.out HK.out.snt HK.out.size HB0.out 0 _ (by rw [fs_i S F n hS hF hn]; simp [hi]) rfl).mono ?_
  rintro e w10 ⟨rfl, hA, ho⟩
  replace HA0 := Lib.hid hA
  replace HK := Lib.hid (HK.out.buf HB0.out ho)
  replace HA1 := Lib.hid (HA1.out.keep ho HD01.out.1.1 HD01.out.1.2.1 HD01.out.1.2.2)
  clear hA ho
  go_wp2_with fail
  refine (put_v b1 g1 h1 B (Bf.new 300) c f r g F (cutS F n) false _ HA1.out HK.out.snt HK.out.size HB1.out 0 (fsy1 F n) (fs_j S F n hS hF hn) (by rw [cutS_list]; rfl)).mono ?_
  rintro e w11 ⟨rfl, hA, ho⟩
  replace HA1 := Lib.hid hA
  replace HK := Lib.hid (HK.out.buf HB1.out ho)
  replace HA0 := Lib.hid (HA0.out.keep ho HD01.out.2.1 HD01.out.2.2.1 HD01.out.2.2.2)
  clear hA ho
  go_wp2_with fail
  refine (put_v b1 g1 h1 B (fsy1 F n) c f r g S ⟨#[]⟩ true _ HA1.out HK.out.snt HK.out.size HB1.out 0 _ (by have := fs_k S F n hS hF hn; rw [if_pos hc] at this; exact this) rfl).mono ?_
  rintro e w12 ⟨rfl, hA, ho⟩
  replace HA1 := Lib.hid hA
  replace HK := Lib.hid (HK.out.buf HB1.out ho)
  replace HA0 := Lib.hid (HA0.out.keep ho HD01.out.2.1 HD01.out.2.2.1 HD01.out.2.2.2)
  clear hA ho
  go_wp2_with fail
  go_ret
  exact ⟨rfl, HK.out.bel⟩
set_option maxRecDepth 100000 in
set_option maxHeartbeats 4000000 in
theorem final_lt (a0 a1 a2 : Int) (w : World) (v0 : (Lit.int .i64 a0).wf = true) (v1 : (Lit.int .i64 a1).wf = true) (v2 : (Lit.int .i64 a2).wf = true) (B : Nat) (c f r g : Addr) (hK : Kp B c f r g w w) (S F n : Nat) (k0 : pickI a0 101 = S) (k1 : pickI a1 121 = F) (k2 : pickI a2 121 = n) (hS : S ≤ 100) (hF : F ≤ 120) (hn : n ≤ 120) (hi : ¬ F + n = S) (hc : F + n ≤ S) :
    Calls Tryd.prog 8 #[.int .i64 a0, .int .i64 a1, .int .i64 a2] w fun e w' => e = .returned (.bool true) ∧ Below B w w' := by
  have HK := Lib.hid hK; clear hK
  have hsl := slice_txt 241 F n (by omega)
  have e1 : IntKind.i64.wrap ((F : Int) + n) = F + n := IntWalk.i64_in _ (by omega)
  have d1 : decide ((F : Int) + n ≤ S) = true := decide_eq_true (by omega)
  have d2 : ((F : Int) + n == S) = false := Bool.eq_false_iff.2 (fun h => hi (by have := beq_iff_eq.1 h; omega))
  go_enter Tryd.func8, Tryd.ntmps8
  go_wp2_with fail
  refine (sane_c B c f r g w _ HK.out).mono ?_
  rintro e w1 ⟨rfl, hK⟩
  replace HK := Lib.hid hK
  clear hK
  go_wp2_with fail
  refine (pick_v a0 101 S _ k0 (by omega) (by omega) v0).mono ?_
  rintro e w2 ⟨rfl, rfl⟩
  go_wp2_with fail
  refine (pick_v a1 121 F _ k1 (by omega) (by omega) v1).mono ?_
  rintro e w3 ⟨rfl, rfl⟩
  go_wp2_with fail
  refine (pick_v a2 121 n _ k2 (by omega) (by omega) v2).mono ?_
  rintro e w4 ⟨rfl, rfl⟩
  go_wp2_with fail
  refine (text_c 241 (by omega) _).mono ?_
  rintro e w5 ⟨rfl, ho⟩
  replace HK := Lib.hid (HK.out.none ho)
  clear ho
  go_wp2_with fail
  refine (new_c 300 _ (by omega) (by omega)).mono ?_
  rintro e w6 ⟨b0, g0, h0, rfl, hA, ho, q0, q1, q2⟩
  have HA0 : Hid (BufAt w6 b0 g0 h0 (Bf.new 300)) := Lib.hid hA
  have HB0 : Hid (B ≤ b0 ∧ B ≤ g0 ∧ B ≤ h0) := Lib.hid (by have := HK.out.size; omega)
  replace HK := Lib.hid (HK.out.none ho)
  clear hA ho q0 q1 q2
  go_wp2_with fail
  refine (new_c 300 _ (by omega) (by omega)).mono ?_
  rintro e w7 ⟨b1, g1, h1, rfl, hA, ho, q0, q1, q2⟩
  have HA1 : Hid (BufAt w7 b1 g1 h1 (Bf.new 300)) := Lib.hid hA
  have HB1 : Hid (B ≤ b1 ∧ B ≤ g1 ∧ B ≤ h1) := Lib.hid (by have := HK.out.size; omega)
  have HD01 : Hid ((b1 ∉ [b0, g0, h0] ∧ g1 ∉ [b0, g0, h0] ∧ h1 ∉ [b0, g0, h0]) ∧ (b0 ∉ [b1, g1, h1] ∧ g0 ∉ [b1, g1, h1] ∧ h0 ∉ [b1, g1, h1])) := Lib.hid (by have := HA0.out.lt; simp; omega)
  replace HA0 := Lib.hid (HA0.out.keep ho (by simp) (by simp) (by simp))
  replace HK := Lib.hid (HK.out.none ho)
  clear hA ho q0 q1 q2
  go_wp2_with fail
  refine (put_v b0 g0 h0 B (Bf.new 300) c f r g S ⟨#[]⟩ true _ HA0.out HK.out.snt HK.out.size HB0.out 0 (fsx1 S) (fs_g S F n hS hF hn) rfl).mono ?_
  rintro e w8 ⟨rfl, hA, ho⟩
  replace HA0 := Lib.hid hA
  replace HK := Lib.hid (HK.out.buf HB0.out ho)
  replace HA1 := Lib.hid (HA1.out.keep ho HD01.out.1.1 HD01.out.1.2.1 HD01.out.1.2.2)
  clear hA ho
  go_wp2_with fail
  refine (put_v b0 g0 h0 B (fsx1 S) c f r g F (cutS F n) false _ HA0.out HK.out.snt HK.out.size HB0.out 0 (fsx2 S F n) (by rw [fs_h S F n hS hF hn]; simp [hc]) (by rw [cutS_list]; simp [fsx2, hc])).mono ?_
  rintro e w9 ⟨rfl, hA, ho⟩
  replace HA0 := Lib.hid hA
  replace HK := Lib.hid (HK.out.buf HB0.out ho)
  replace HA1 := Lib.hid (HA1.out.keep ho HD01.out.1.1 HD01.out.1.2.1 HD01.out.1.2.2)
  clear hA ho
  go_wp2_with fail
  refine (put_v b0 g0 h0 B (fsx2 S F n) c f r g F (cutS F n) true _ HA0.out HK.out.snt HK.out.size HB0.out 161 _ (by rw [fs_i S F n hS hF hn]; simp [hi]) rfl).mono ?_
  rintro e w10 ⟨rfl, hA, ho⟩
  replace HA0 := Lib.hid hA
  replace HK := Lib.hid (HK.out.buf HB0.out ho)
  replace HA1 := Lib.hid (HA1.out.keep ho HD01.out.1.1 HD01.out.1.2.1 HD01.out.1.2.2)
  clear hA ho
  go_wp2_with fail
  refine (put_v b1 g1 h1 B (Bf.new 300) c f r g F (cutS F n) false _ HA1.out HK.out.snt HK.out.size HB1.out 0 (fsy1 F n) (fs_j S F n hS hF hn) (by rw [cutS_list]; rfl)).mono ?_
  rintro e w11 ⟨rfl, hA, ho⟩
  replace HA1 := Lib.hid hA
  replace HK := Lib.hid (HK.out.buf HB1.out ho)
  replace HA0 := Lib.hid (HA0.out.keep ho HD01.out.2.1 HD01.out.2.2.1 HD01.out.2.2.2)
  clear hA ho
  go_wp2_with fail
  refine (put_v b1 g1 h1 B (fsy1 F n) c f r g S ⟨#[]⟩ true _ HA1.out HK.out.snt HK.out.size HB1.out 0 _ (by have := fs_k S F n hS hF hn; rw [if_pos hc] at this; exact this) rfl).mono ?_
  rintro e w12 ⟨rfl, hA, ho⟩
  replace HA1 := Lib.hid hA
  replace HK := Lib.hid (HK.out.buf HB1.out ho)
  replace HA0 := Lib.hid (HA0.out.keep ho HD01.out.2.1 HD01.out.2.2.1 HD01.out.2.2.2)
  clear hA ho
  go_wp2_with fail
  go_ret
  exact ⟨rfl, HK.out.bel⟩
set_option maxRecDepth 100000 in
set_option maxHeartbeats 4000000 in
theorem final_gt (a0 a1 a2 : Int) (w : World) (v0 : (Lit.int .i64 a0).wf = true) (v1 : (Lit.int .i64 a1).wf = true) (v2 : (Lit.int .i64 a2).wf = true) (B : Nat) (c f r g : Addr) (hK : Kp B c f r g w w) (S F n : Nat) (k0 : pickI a0 101 = S) (k1 : pickI a1 121 = F) (k2 : pickI a2 121 = n) (hS : S ≤ 100) (hF : F ≤ 120) (hn : n ≤ 120) (hi : ¬ F + n = S) (hc : ¬ F + n ≤ S) :
    Calls Tryd.prog 8 #[.int .i64 a0, .int .i64 a1, .int .i64 a2] w fun e w' => e = .returned (.bool true) ∧ Below B w w' := by
  have HK := Lib.hid hK; clear hK
  have hsl := slice_txt 241 F n (by omega)
  have e1 : IntKind.i64.wrap ((F : Int) + n) = F + n := IntWalk.i64_in _ (by omega)
  have d1 : decide ((F : Int) + n ≤ S) = false := decide_eq_false (by omega)
  have d2 : ((F : Int) + n == S) = false := Bool.eq_false_iff.2 (fun h => hi (by have := beq_iff_eq.1 h; omega))
  go_enter Tryd.func8, Tryd.ntmps8
  go_wp2_with fail
  refine (sane_c B c f r g w _ HK.out).mono ?_
  rintro e w1 ⟨rfl, hK⟩
  replace HK := Lib.hid hK
  clear hK
  go_wp2_with fail
  refine (pick_v a0 101 S _ k0 (by omega) (by omega) v0).mono ?_
  rintro e w2 ⟨rfl, rfl⟩
  go_wp2_with fail
  refine (pick_v a1 121 F _ k1 (by omega) (by omega) v1).mono ?_
  rintro e w3 ⟨rfl, rfl⟩
  go_wp2_with fail
  refine (pick_v a2 121 n _ k2 (by omega) (by omega) v2).mono ?_
  rintro e w4 ⟨rfl, rfl⟩
  go_wp2_with fail
  refine (text_c 241 (by omega) _).mono ?_
  rintro e w5 ⟨rfl, ho⟩
  replace HK := Lib.hid (HK.out.none ho)
  clear ho
  go_wp2_with fail
  refine (new_c 300 _ (by omega) (by omega)).mono ?_
  rintro e w6 ⟨b0, g0, h0, rfl, hA, ho, q0, q1, q2⟩
  have HA0 : Hid (BufAt w6 b0 g0 h0 (Bf.new 300)) := Lib.hid hA
  have HB0 : Hid (B ≤ b0 ∧ B ≤ g0 ∧ B ≤ h0) := Lib.hid (by have := HK.out.size; omega)
  replace HK := Lib.hid (HK.out.none ho)
  clear hA ho q0 q1 q2
  go_wp2_with fail
  refine (new_c 300 _ (by omega) (by omega)).mono ?_
  rintro e w7 ⟨b1, g1, h1, rfl, hA, ho, q0, q1, q2⟩
  have HA1 : Hid (BufAt w7 b1 g1 h1 (Bf.new 300)) := Lib.hid hA
  have HB1 : Hid (B ≤ b1 ∧ B ≤ g1 ∧ B ≤ h1) := Lib.hid (by have := HK.out.size; omega)
  have HD01 : Hid ((b1 ∉ [b0, g0, h0] ∧ g1 ∉ [b0, g0, h0] ∧ h1 ∉ [b0, g0, h0]) ∧ (b0 ∉ [b1, g1, h1] ∧ g0 ∉ [b1, g1, h1] ∧ h0 ∉ [b1, g1, h1])) := Lib.hid (by have := HA0.out.lt; simp; omega)
  replace HA0 := Lib.hid (HA0.out.keep ho (by simp) (by simp) (by simp))
  replace HK := Lib.hid (HK.out.none ho)
  clear hA ho q0 q1 q2
  go_wp2_with fail
  refine (put_v b0 g0 h0 B (Bf.new 300) c f r g S ⟨#[]⟩ true _ HA0.out HK.out.snt HK.out.size HB0.out 0 (fsx1 S) (fs_g S F n hS hF hn) rfl).mono ?_
  rintro e w8 ⟨rfl, hA, ho⟩
  replace HA0 := Lib.hid hA
  replace HK := Lib.hid (HK.out.buf HB0.out ho)
  replace HA1 := Lib.hid (HA1.out.keep ho HD01.out.1.1 HD01.out.1.2.1 HD01.out.1.2.2)
  clear hA ho
  go_wp2_with fail
  refine (put_v b0 g0 h0 B (fsx1 S) c f r g F (cutS F n) false _ HA0.out HK.out.snt HK.out.size HB0.out 161 (fsx2 S F n) (by rw [fs_h S F n hS hF hn]; simp [hc]) (by rw [cutS_list]; simp [fsx2, hc])).mono ?_
  rintro e w9 ⟨rfl, hA, ho⟩
  replace HA0 := Lib.hid hA
  replace HK := Lib.hid (HK.out.buf HB0.out ho)
  replace HA1 := Lib.hid (HA1.out.keep ho HD01.out.1.1 HD01.out.1.2.1 HD01.out.1.2.2)
  clear hA ho
  go_wp2_with fail
  refine (put_v b0 g0 h0 B (fsx2 S F n) c f r g F (cutS F n) true _ HA0.out HK.out.snt HK.out.size HB0.out 161 _ (by rw [fs_i S F n hS hF hn]; simp [hi]) rfl).mono ?_
  rintro e w10 ⟨rfl, hA, ho⟩
  replace HA0 := Lib.hid hA
  replace HK := Lib.hid (HK.out.buf HB0.out ho)
  replace HA1 := Lib.hid (HA1.out.keep ho HD01.out.1.1 HD01.out.1.2.1 HD01.out.1.2.2)
  clear hA ho
  go_wp2_with fail
  refine (put_v b1 g1 h1 B (Bf.new 300) c f r g F (cutS F n) false _ HA1.out HK.out.snt HK.out.size HB1.out 0 (fsy1 F n) (fs_j S F n hS hF hn) (by rw [cutS_list]; rfl)).mono ?_
  rintro e w11 ⟨rfl, hA, ho⟩
  replace HA1 := Lib.hid hA
  replace HK := Lib.hid (HK.out.buf HB1.out ho)
  replace HA0 := Lib.hid (HA0.out.keep ho HD01.out.2.1 HD01.out.2.2.1 HD01.out.2.2.2)
  clear hA ho
  go_wp2_with fail
  refine (put_v b1 g1 h1 B (fsy1 F n) c f r g S ⟨#[]⟩ true _ HA1.out HK.out.snt HK.out.size HB1.out 161 _ (by have := fs_k S F n hS hF hn; rw [if_neg hc] at this; exact this) rfl).mono ?_
  rintro e w12 ⟨rfl, hA, ho⟩
  replace HA1 := Lib.hid hA
  replace HK := Lib.hid (HK.out.buf HB1.out ho)
  replace HA0 := Lib.hid (HA0.out.keep ho HD01.out.2.1 HD01.out.2.2.1 HD01.out.2.2.2)
  clear hA ho
  go_wp2_with fail
  go_ret
  exact ⟨rfl, HK.out.bel⟩
theorem final_walk (a0 a1 a2 : Int) (w : World) (v0 : (Lit.int .i64 a0).wf = true) (v1 : (Lit.int .i64 a1).wf = true) (v2 : (Lit.int .i64 a2).wf = true) (c f r g : Addr) (hS : Snt w.heap.size c f r g w) :
    Calls Tryd.prog 8 #[.int .i64 a0, .int .i64 a1, .int .i64 a2] w fun e w' => e = .returned (.bool true) ∧ Below w.heap.size w w' := by
  obtain ⟨S, k0, q0⟩ := pick_nat a0 101 (by omega)
  obtain ⟨F, k1, q1⟩ := pick_nat a1 121 (by omega)
  obtain ⟨n, k2, q2⟩ := pick_nat a2 121 (by omega)
  by_cases hi : F + n = S
  · exact final_eq a0 a1 a2 w v0 v1 v2 _ c f r g (Kp.start hS) S F n k0 k1 k2 (by omega) (by omega) (by omega) hi (by omega)
  · by_cases hc : F + n ≤ S
    · exact final_lt a0 a1 a2 w v0 v1 v2 _ c f r g (Kp.start hS) S F n k0 k1 k2 (by omega) (by omega) (by omega) hi hc
    · exact final_gt a0 a1 a2 w v0 v1 v2 _ c f r g (Kp.start hS) S F n k0 k1 k2 (by omega) (by omega) (by omega) hi hc
end Go.Proofs.YtnnmmmeppbdlnaaDoor
