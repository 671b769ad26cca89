/- ReassemblyConflict: plain law and walk. -/
import Derived.Laws.BitsAllLaws
import Derived.Test.YtnnmmmeppbdlnaaDoorSnR
namespace Go.Proofs.YtnnmmmeppbdlnaaDoor
open Go Go.RowKit
set_option linter.unusedVariables false
set_option linter.unusedSectionVars false
set_option linter.unusedSimpArgs false


theorem xor_byte (t m : UInt8) : bits .xor .u8 (t.toNat : Int) (m.toNat : Int) = ((t ^^^ m).toNat : Int) := by
  rw [u8_xor_nat _ _ (UInt8.toNat_lt t) (UInt8.toNat_lt m), UInt8.toNat_xor]
theorem conv_1 (v : UInt8) (W : World) : (convert 39 9 (.slice (some ⟨W.heap.size, 0, none⟩) 1 1)).run Tryd.prog (W.alloc (.cells #[.int .u8 v.toNat] 5)) = .ok (.string (strB [v])) (W.alloc (.cells #[.int .u8 v.toNat] 5)) := by
  have h : RowB (W.alloc (.cells #[.int .u8 v.toNat] 5)) W.heap.size 1 (fun _ => v) := by
    refine ⟨_, At.new W _ _, rfl, ?_⟩
    intro k hk
    obtain rfl : k = 0 := by omega
    rfl
  exact conv_b h 1 1 (Nat.le_refl _)

/-- The string is held, from the beginning. -/
def cfx1 (L : Nat) : Bf := (Bf.new 100).hold (0 : Nat) (cutT txt 0 L) false
section
variable (L a : Nat) (hL : 1 ≤ L) (hL2 : L ≤ 100) (ha : a < L)
include hL hL2 ha
theorem cf_tx : Tx (cfx1 L) := by have := (Tx.new 100).hold 0 L false; exact this
theorem cf_f : (Bf.new 100).putC (0 : Nat) (cutS 0 L).data.toList false = 0 :=
  (Tx.new 100).put_ok 0 L false (by omega) (by omega) ⟨fun h => by simp at h, .inl rfl⟩ (by simp [Bf.new]; omega)
theorem cf_H (k : Nat) : (cfx1 L).H k = decide (k < L) := by
  simp only [cfx1, Bf.hold, Bf.new, cutT_len]
  by_cases h : k < L
  · rw [if_pos (by omega), decide_eq_true h]
  · rw [if_neg (by omega), decide_eq_false h]
theorem cf_ready : (cfx1 L).ready = L := rdy_uniq _ _ _ hL2 (fun i hi => by rw [cf_H L a hL hL2 ha, decide_eq_true hi]) (fun h => by rw [cf_H L a hL hL2 ha, decide_eq_false (Nat.lt_irrefl _)])
theorem cf_many : (cfx1 L).many L = L := by
  unfold Bf.many; rw [cf_ready L a hL hL2 ha]; split <;> omega
theorem cf_out : strB ((cfx1 L).out L) = txtS L := by
  rw [txtS_cut]
  unfold cutS cutT Bf.out
  congr 1
  apply List.map_congr_left
  intro k hk
  have hk := List.mem_range.1 hk
  have := (cf_tx L a hL hL2 ha).bytes k (by show k < 100; omega) (by rw [cf_H L a hL hL2 ha, decide_eq_true hk])
  simpa [cfx1, Bf.hold, Bf.new] using this
/-- A piece of one byte that differs. -/
theorem cf_bad (v : UInt8) (hv : v ≠ txt a) : (cfx1 L).putC a (strB [v]).data.toList false = 160 := by
  have h1 : (cfx1 L).agrB a [v] = false := Bool.eq_false_iff.2 (fun h => by
    have := ((cfx1 L).agrB_iff a [v]).1 h 0 a (by simp) (by show (a : Int) + (0 : Nat) = 0 + a; omega) (by show a < 100; omega) (by rw [cf_H L a hL hL2 ha, decide_eq_true ha])
    rw [(cf_tx L a hL hL2 ha).bytes a (by show a < 100; omega) (by rw [cf_H L a hL hL2 ha, decide_eq_true ha])] at this
    simp [cfx1, Bf.hold, Bf.new] at this
    exact hv this.symm)
  rw [strB_list]
  unfold Bf.putC
  rw [(Bf.argB_iff _ _).2 ⟨by omega, by omega, by simp, by simp; omega⟩, h1]
  rfl
def cfx2 (L : Nat) : Bf := (cfx1 L).read L
theorem cf_good (v : UInt8) : (cfx2 L).putC a (strB [v]).data.toList false = 0 := by
  have h1 : (cfx2 L).agrB a [v] = true := ((cfx2 L).agrB_iff a [v]).2 (fun i k hi he hk hH => by
    simp at hi
    have he' : (a : Int) + i = (0 + L) + k := he
    omega)
  rw [strB_list, putC_agr (cfx2 L) a [v] false h1 (by omega) (by omega) (by simp), (Bf.finB_iff _ _ _).2 ⟨fun h => by simp at h, .inl rfl⟩, decide_eq_true (by show (a : Int) + 1 ≤ (0 + L) + 100; omega)]
  rfl
def cfx3 (L a : Nat) (v : UInt8) : Bf := (cfx2 L).hold a [v] false
theorem cf_rd3 (v : UInt8) : (cfx3 L a v).ready = 0 := rdy_uniq _ _ _ (Nat.zero_le _) (fun i hi => by omega) (fun _ => by
  have hp : (cfx2 L).pos = L := by show (0 : Int) + L = L; omega
  have hH : (cfx2 L).H 0 = false := by
    show (if 0 + L < 100 then (cfx1 L).H (0 + L) else false) = false
    split
    · rw [cf_H L a hL hL2 ha, decide_eq_false (by omega)]
    · rfl
  simp only [cfx3, Bf.hold, hp, List.length_cons, List.length_nil]
  rw [if_neg (by omega), hH])
end
theorem xor_ne (t m : UInt8) (h : m ≠ 0) : t ^^^ m ≠ t := by
  intro e
  have : t ^^^ (t ^^^ m) = t ^^^ t := by rw [e]
  rw [← UInt8.xor_assoc, UInt8.xor_self] at this
  simp at this
  exact h this
theorem idx_txt (N i : Nat) (h : i < N) (w : World) : (Instr.index 9 (.string (txtS N)) (.int .i64 i)).run Tryd.prog w = .ok (.int .u8 (txt i).toNat) w := by
  have hs := txtS_size N
  rw [run_index_string w 9 _ _ _ Tryd.underlying9, dif_pos (by rw [hs]; omega)]
  have := sb_get (txtS N) i (by rw [hs]; exact h)
  simp only [Int.toNat_natCast, this]
  have h2 : sb (txtS N) i = txt i := by
    unfold sb txtS
    rw [strB_list]
    simp [List.getD_eq_getElem?_getD, h]
  rw [h2]
set_option maxRecDepth 100000 in
set_option maxHeartbeats 4000000 in
theorem conflict_rz (a0 a1 : Int) (w : World) (v0 : (Lit.int .i64 a0).wf = true) (v1 : (Lit.int .i64 a1).wf = true) (B : Nat) (c f r g : Addr) (hK : Kp B c f r g w w) (L0 L a : Nat) (M : UInt8) (k0 : pickI a0 100 = L0) (e0 : L0 + 1 = L) (k1 : pickI a1 (L : Nat) = a) (hL : 1 ≤ L) (hL2 : L ≤ 100) (ha : a < L)  :
    Calls Tryd.prog 7 #[.int .i64 a0, .int .i64 a1, .int .u8 0, .bool true] w fun e w' => e = .returned (.bool true) ∧ Below B w w' := by
  have HK := Lib.hid hK; clear hK
  have z1 := txtS_size L
  have hix := idx_txt L a (by omega)
  obtain ⟨V, hVe⟩ : ∃ V, txt a ^^^ 1 = V := ⟨_, rfl⟩
  have hV : Hid (V ≠ txt a) := Lib.hid (by rw [← hVe]; exact xor_ne _ _ (by decide))
  replace hV := hV.out
  have hxo : bits .xor .u8 ((txt a).toNat : Int) 1 = (V.toNat : Int) := by rw [← hVe]; exact xor_byte _ 1
  have hcv := conv_1 V
  clear hVe

  have e1 : IntKind.i64.wrap (1 + (L0 : Int)) = L := by rw [show (1 : Int) + L0 = L by omega]; exact IntWalk.i64_in _ (by omega)
  go_enter Tryd.func7, Tryd.ntmps7
  go_wp2_with fail
  refine (sane_c B c f r g w _ HK.out).mono ?_
  rintro e w1 ⟨rfl, hK⟩
  replace HK := Lib.hid hK
  clear hK
  go_wp2_with fail
  refine (pick_v a0 100 L0 _ k0 (by omega) (by omega) v0).mono ?_
  rintro e w2 ⟨rfl, rfl⟩
  go_wp2_with fail
  refine (text_c L (by omega) _).mono ?_
  rintro e w3 ⟨rfl, ho⟩
  replace HK := Lib.hid (HK.out.none ho)
  clear ho
  go_wp2_with fail
  refine (pick_v a1 (L : Nat) a _ k1 (by omega) (by omega) v1).mono ?_
  rintro e w4 ⟨rfl, rfl⟩
  go_wp2_with fail
  refine (new_c 100 _ (by omega) (by omega)).mono ?_
  rintro e w5 ⟨b0, g0, h0, rfl, hA, ho, q0, q1, q2⟩
  have HA0 : Hid (BufAt w5 b0 g0 h0 (Bf.new 100)) := Lib.hid hA
  have HB0 : Hid (B ≤ b0 ∧ B ≤ g0 ∧ B ≤ h0) := Lib.hid (by have := HK.out.size; omega)
  replace HK := Lib.hid (HK.out.none ho)
  clear hA ho q0 q1 q2
  go_wp2_with fail
  refine (put_v b0 g0 h0 B (Bf.new 100) c f r g (0 : Nat) (txtS L) false _ HA0.out HK.out.snt HK.out.size HB0.out 0 (cfx1 L) (by rw [txtS_cut]; exact cf_f L a hL hL2 ha) (by rw [txtS_cut, cutS_list]; rfl)).mono ?_
  rintro e w6 ⟨rfl, hA, ho⟩
  replace HA0 := Lib.hid hA
  replace HK := Lib.hid (HK.out.buf HB0.out ho)
  clear hA ho
  go_wp2_with fail
  refine (read_v b0 g0 h0 (cfx1 L) _ HA0.out L L (txtS L) ((cfx1 L).last L) (cfx2 L) (cf_many L a hL hL2 ha) (cf_out L a hL hL2 ha) rfl rfl (by show (0 : Int) + L ≤ _; omega)).mono ?_
  rintro e w7 ⟨rfl, hA, ho⟩
  replace HA0 := Lib.hid hA
  replace HK := Lib.hid (HK.out.buf HB0.out ho)
  clear hA ho
  go_wp2_with fail
  replace HA0 := Lib.hid (HA0.out.alloc (.cells #[.int .u8 V.toNat] 5))
  replace HK := Lib.hid (HK.out.none ((Only.refl _ _).alloc (.cells #[.int .u8 V.toNat] 5)))
  refine (put_v b0 g0 h0 B (cfx2 L) c f r g a (strB [V]) false _ HA0.out HK.out.snt HK.out.size HB0.out 0 (cfx3 L a V) (cf_good L a hL hL2 ha V) (by rw [strB_list]; rfl)).mono ?_
  rintro e w8 ⟨rfl, hA, ho⟩
  replace HA0 := Lib.hid hA
  replace HK := Lib.hid (HK.out.buf HB0.out ho)
  clear hA ho
  go_wp2_with fail
  refine (ready_c b0 g0 h0 (cfx3 L a V) _ HA0.out).mono ?_
  rintro e w9 ⟨rfl, rfl⟩
  rw [cf_rd3 L a hL hL2 ha V]
  go_wp2_with fail
  go_ret
  exact ⟨rfl, HK.out.bel⟩
set_option maxRecDepth 100000 in
set_option maxHeartbeats 4000000 in
theorem conflict_nz (a0 a1 : Int) (w : World) (v0 : (Lit.int .i64 a0).wf = true) (v1 : (Lit.int .i64 a1).wf = true) (B : Nat) (c f r g : Addr) (hK : Kp B c f r g w w) (L0 L a : Nat) (M : UInt8) (k0 : pickI a0 100 = L0) (e0 : L0 + 1 = L) (k1 : pickI a1 (L : Nat) = a) (hL : 1 ≤ L) (hL2 : L ≤ 100) (ha : a < L)  :
    Calls Tryd.prog 7 #[.int .i64 a0, .int .i64 a1, .int .u8 0, .bool false] w fun e w' => e = .returned (.bool true) ∧ Below B w w' := by
  have HK := Lib.hid hK; clear hK
  have z1 := txtS_size L
  have hix := idx_txt L a (by omega)
  obtain ⟨V, hVe⟩ : ∃ V, txt a ^^^ 1 = V := ⟨_, rfl⟩
  have hV : Hid (V ≠ txt a) := Lib.hid (by rw [← hVe]; exact xor_ne _ _ (by decide))
  replace hV := hV.out
  have hxo : bits .xor .u8 ((txt a).toNat : Int) 1 = (V.toNat : Int) := by rw [← hVe]; exact xor_byte _ 1
  have hcv := conv_1 V
  clear hVe

  have e1 : IntKind.i64.wrap (1 + (L0 : Int)) = L := by rw [show (1 : Int) + L0 = L by omega]; exact IntWalk.i64_in _ (by omega)
  go_enter Tryd.func7, Tryd.ntmps7
  go_wp2_with fail
  refine (sane_c B c f r g w _ HK.out).mono ?_
  rintro e w1 ⟨rfl, hK⟩
  replace HK := Lib.hid hK
  clear hK
  go_wp2_with fail
  refine (pick_v a0 100 L0 _ k0 (by omega) (by omega) v0).mono ?_
  rintro e w2 ⟨rfl, rfl⟩
  go_wp2_with fail
  refine (text_c L (by omega) _).mono ?_
  rintro e w3 ⟨rfl, ho⟩
  replace HK := Lib.hid (HK.out.none ho)
  clear ho
  go_wp2_with fail
  refine (pick_v a1 (L : Nat) a _ k1 (by omega) (by omega) v1).mono ?_
  rintro e w4 ⟨rfl, rfl⟩
  go_wp2_with fail
  refine (new_c 100 _ (by omega) (by omega)).mono ?_
  rintro e w5 ⟨b0, g0, h0, rfl, hA, ho, q0, q1, q2⟩
  have HA0 : Hid (BufAt w5 b0 g0 h0 (Bf.new 100)) := Lib.hid hA
  have HB0 : Hid (B ≤ b0 ∧ B ≤ g0 ∧ B ≤ h0) := Lib.hid (by have := HK.out.size; omega)
  replace HK := Lib.hid (HK.out.none ho)
  clear hA ho q0 q1 q2
  go_wp2_with fail
  refine (put_v b0 g0 h0 B (Bf.new 100) c f r g (0 : Nat) (txtS L) false _ HA0.out HK.out.snt HK.out.size HB0.out 0 (cfx1 L) (by rw [txtS_cut]; exact cf_f L a hL hL2 ha) (by rw [txtS_cut, cutS_list]; rfl)).mono ?_
  rintro e w6 ⟨rfl, hA, ho⟩
  replace HA0 := Lib.hid hA
  replace HK := Lib.hid (HK.out.buf HB0.out ho)
  clear hA ho
  go_wp2_with fail
  replace HA0 := Lib.hid (HA0.out.alloc (.cells #[.int .u8 V.toNat] 5))
  replace HK := Lib.hid (HK.out.none ((Only.refl _ _).alloc (.cells #[.int .u8 V.toNat] 5)))
  refine (put_v b0 g0 h0 B (cfx1 L) c f r g a (strB [V]) false _ HA0.out HK.out.snt HK.out.size HB0.out 160 (cfx1 L) (cf_bad L a hL hL2 ha V hV) rfl).mono ?_
  rintro e w7 ⟨rfl, hA, ho⟩
  replace HA0 := Lib.hid hA
  replace HK := Lib.hid (HK.out.buf HB0.out ho)
  clear hA ho
  go_wp2_with fail
  refine (read_v b0 g0 h0 (cfx1 L) _ HA0.out L L (txtS L) ((cfx1 L).last L) (cfx2 L) (cf_many L a hL hL2 ha) (cf_out L a hL hL2 ha) rfl rfl (by show (0 : Int) + L ≤ _; omega)).mono ?_
  rintro e w8 ⟨rfl, hA, ho⟩
  replace HA0 := Lib.hid hA
  replace HK := Lib.hid (HK.out.buf HB0.out ho)
  clear hA ho
  go_wp2_with fail
  go_ret
  exact ⟨rfl, HK.out.bel⟩
set_option maxRecDepth 100000 in
set_option maxHeartbeats 4000000 in
theorem conflict_rm (a0 a1 : Int) (w : World) (v0 : (Lit.int .i64 a0).wf = true) (v1 : (Lit.int .i64 a1).wf = true) (B : Nat) (c f r g : Addr) (hK : Kp B c f r g w w) (L0 L a : Nat) (M : UInt8) (k0 : pickI a0 100 = L0) (e0 : L0 + 1 = L) (k1 : pickI a1 (L : Nat) = a) (hL : 1 ≤ L) (hL2 : L ≤ 100) (ha : a < L) (hM : M ≠ 0) :
    Calls Tryd.prog 7 #[.int .i64 a0, .int .i64 a1, .int .u8 (M.toNat : Nat), .bool true] w fun e w' => e = .returned (.bool true) ∧ Below B w w' := by
  have HK := Lib.hid hK; clear hK
  have z1 := txtS_size L
  have hix := idx_txt L a (by omega)
  obtain ⟨V, hVe⟩ : ∃ V, txt a ^^^ M = V := ⟨_, rfl⟩
  have hV : Hid (V ≠ txt a) := Lib.hid (by rw [← hVe]; exact xor_ne _ _ hM)
  replace hV := hV.out
  have hxo : bits .xor .u8 ((txt a).toNat : Int) (M.toNat : Int) = (V.toNat : Int) := by rw [← hVe]; exact xor_byte _ M
  have hcv := conv_1 V
  clear hVe
  have hmz : ((M.toNat : Int) == 0) = false := Bool.eq_false_iff.2 (fun h => hM (UInt8.toNat_inj.1 (by have := beq_iff_eq.1 h; have h0 : (0 : UInt8).toNat = 0 := rfl; omega)))
  have e1 : IntKind.i64.wrap (1 + (L0 : Int)) = L := by rw [show (1 : Int) + L0 = L by omega]; exact IntWalk.i64_in _ (by omega)
  go_enter Tryd.func7, Tryd.ntmps7
  go_wp2_with fail
  refine (sane_c B c f r g w _ HK.out).mono ?_
  rintro e w1 ⟨rfl, hK⟩
  replace HK := Lib.hid hK
  clear hK
  go_wp2_with fail
  refine (pick_v a0 100 L0 _ k0 (by omega) (by omega) v0).mono ?_
  rintro e w2 ⟨rfl, rfl⟩
  go_wp2_with fail
  refine (text_c L (by omega) _).mono ?_
  rintro e w3 ⟨rfl, ho⟩
  replace HK := Lib.hid (HK.out.none ho)
  clear ho
  go_wp2_with fail
  refine (pick_v a1 (L : Nat) a _ k1 (by omega) (by omega) v1).mono ?_
  rintro e w4 ⟨rfl, rfl⟩
  go_wp2_with fail
  refine (new_c 100 _ (by omega) (by omega)).mono ?_
  rintro e w5 ⟨b0, g0, h0, rfl, hA, ho, q0, q1, q2⟩
  have HA0 : Hid (BufAt w5 b0 g0 h0 (Bf.new 100)) := Lib.hid hA
  have HB0 : Hid (B ≤ b0 ∧ B ≤ g0 ∧ B ≤ h0) := Lib.hid (by have := HK.out.size; omega)
  replace HK := Lib.hid (HK.out.none ho)
  clear hA ho q0 q1 q2
  go_wp2_with fail
  refine (put_v b0 g0 h0 B (Bf.new 100) c f r g (0 : Nat) (txtS L) false _ HA0.out HK.out.snt HK.out.size HB0.out 0 (cfx1 L) (by rw [txtS_cut]; exact cf_f L a hL hL2 ha) (by rw [txtS_cut, cutS_list]; rfl)).mono ?_
  rintro e w6 ⟨rfl, hA, ho⟩
  replace HA0 := Lib.hid hA
  replace HK := Lib.hid (HK.out.buf HB0.out ho)
  clear hA ho
  go_wp2_with fail
  refine (read_v b0 g0 h0 (cfx1 L) _ HA0.out L L (txtS L) ((cfx1 L).last L) (cfx2 L) (cf_many L a hL hL2 ha) (cf_out L a hL hL2 ha) rfl rfl (by show (0 : Int) + L ≤ _; omega)).mono ?_
  rintro e w7 ⟨rfl, hA, ho⟩
  replace HA0 := Lib.hid hA
  replace HK := Lib.hid (HK.out.buf HB0.out ho)
  clear hA ho
  go_wp2_with fail
  replace HA0 := Lib.hid (HA0.out.alloc (.cells #[.int .u8 V.toNat] 5))
  replace HK := Lib.hid (HK.out.none ((Only.refl _ _).alloc (.cells #[.int .u8 V.toNat] 5)))
  refine (put_v b0 g0 h0 B (cfx2 L) c f r g a (strB [V]) false _ HA0.out HK.out.snt HK.out.size HB0.out 0 (cfx3 L a V) (cf_good L a hL hL2 ha V) (by rw [strB_list]; rfl)).mono ?_
  rintro e w8 ⟨rfl, hA, ho⟩
  replace HA0 := Lib.hid hA
  replace HK := Lib.hid (HK.out.buf HB0.out ho)
  clear hA ho
  go_wp2_with fail
  refine (ready_c b0 g0 h0 (cfx3 L a V) _ HA0.out).mono ?_
  rintro e w9 ⟨rfl, rfl⟩
  rw [cf_rd3 L a hL hL2 ha V]
  go_wp2_with fail
  go_ret
  exact ⟨rfl, HK.out.bel⟩
set_option maxRecDepth 100000 in
set_option maxHeartbeats 4000000 in
theorem conflict_nm (a0 a1 : Int) (w : World) (v0 : (Lit.int .i64 a0).wf = true) (v1 : (Lit.int .i64 a1).wf = true) (B : Nat) (c f r g : Addr) (hK : Kp B c f r g w w) (L0 L a : Nat) (M : UInt8) (k0 : pickI a0 100 = L0) (e0 : L0 + 1 = L) (k1 : pickI a1 (L : Nat) = a) (hL : 1 ≤ L) (hL2 : L ≤ 100) (ha : a < L) (hM : M ≠ 0) :
    Calls Tryd.prog 7 #[.int .i64 a0, .int .i64 a1, .int .u8 (M.toNat : Nat), .bool false] w fun e w' => e = .returned (.bool true) ∧ Below B w w' := by
  have HK := Lib.hid hK; clear hK
  have z1 := txtS_size L
  have hix := idx_txt L a (by omega)
  obtain ⟨V, hVe⟩ : ∃ V, txt a ^^^ M = V := ⟨_, rfl⟩
  have hV : Hid (V ≠ txt a) := Lib.hid (by rw [← hVe]; exact xor_ne _ _ hM)
  replace hV := hV.out
  have hxo : bits .xor .u8 ((txt a).toNat : Int) (M.toNat : Int) = (V.toNat : Int) := by rw [← hVe]; exact xor_byte _ M
  have hcv := conv_1 V
  clear hVe
  have hmz : ((M.toNat : Int) == 0) = false := Bool.eq_false_iff.2 (fun h => hM (UInt8.toNat_inj.1 (by have := beq_iff_eq.1 h; have h0 : (0 : UInt8).toNat = 0 := rfl; omega)))
  have e1 : IntKind.i64.wrap (1 + (L0 : Int)) = L := by rw [show (1 : Int) + L0 = L by omega]; exact IntWalk.i64_in _ (by omega)
  go_enter Tryd.func7, Tryd.ntmps7
  go_wp2_with fail
  refine (sane_c B c f r g w _ HK.out).mono ?_
  rintro e w1 ⟨rfl, hK⟩
  replace HK := Lib.hid hK
  clear hK
  go_wp2_with fail
  refine (pick_v a0 100 L0 _ k0 (by omega) (by omega) v0).mono ?_
  rintro e w2 ⟨rfl, rfl⟩
  go_wp2_with fail
  refine (text_c L (by omega) _).mono ?_
  rintro e w3 ⟨rfl, ho⟩
  replace HK := Lib.hid (HK.out.none ho)
  clear ho
  go_wp2_with fail
  refine (pick_v a1 (L : Nat) a _ k1 (by omega) (by omega) v1).mono ?_
  rintro e w4 ⟨rfl, rfl⟩
  go_wp2_with fail
  refine (new_c 100 _ (by omega) (by omega)).mono ?_
  rintro e w5 ⟨b0, g0, h0, rfl, hA, ho, q0, q1, q2⟩
  have HA0 : Hid (BufAt w5 b0 g0 h0 (Bf.new 100)) := Lib.hid hA
  have HB0 : Hid (B ≤ b0 ∧ B ≤ g0 ∧ B ≤ h0) := Lib.hid (by have := HK.out.size; omega)
  replace HK := Lib.hid (HK.out.none ho)
  clear hA ho q0 q1 q2
  go_wp2_with fail
  refine (put_v b0 g0 h0 B (Bf.new 100) c f r g (0 : Nat) (txtS L) false _ HA0.out HK.out.snt HK.out.size HB0.out 0 (cfx1 L) (by rw [txtS_cut]; exact cf_f L a hL hL2 ha) (by rw [txtS_cut, cutS_list]; rfl)).mono ?_
  rintro e w6 ⟨rfl, hA, ho⟩
  replace HA0 := Lib.hid hA
  replace HK := Lib.hid (HK.out.buf HB0.out ho)
  clear hA ho
  go_wp2_with fail
  replace HA0 := Lib.hid (HA0.out.alloc (.cells #[.int .u8 V.toNat] 5))
  replace HK := Lib.hid (HK.out.none ((Only.refl _ _).alloc (.cells #[.int .u8 V.toNat] 5)))
  refine (put_v b0 g0 h0 B (cfx1 L) c f r g a (strB [V]) false _ HA0.out HK.out.snt HK.out.size HB0.out 160 (cfx1 L) (cf_bad L a hL hL2 ha V hV) rfl).mono ?_
  rintro e w7 ⟨rfl, hA, ho⟩
  replace HA0 := Lib.hid hA
  replace HK := Lib.hid (HK.out.buf HB0.out ho)
  clear hA ho
  go_wp2_with fail
  refine (read_v b0 g0 h0 (cfx1 L) _ HA0.out L L (txtS L) ((cfx1 L).last L) (cfx2 L) (cf_many L a hL hL2 ha) (cf_out L a hL hL2 ha) rfl rfl (by show (0 : Int) + L ≤ _; omega)).mono ?_
  rintro e w8 ⟨rfl, hA, ho⟩
  replace HA0 := Lib.hid hA
  replace HK := Lib.hid (HK.out.buf HB0.out ho)
  clear hA ho
  go_wp2_with fail
  go_ret
  exact ⟨rfl, HK.out.bel⟩
theorem conflict_walk (a0 a1 a2 : Int) (a3 : Bool) (w : World) (v0 : (Lit.int .i64 a0).wf = true) (v1 : (Lit.int .i64 a1).wf = true) (v2 : (Lit.int .u8 a2).wf = true) (c f r g : Addr) (hS : Snt w.heap.size c f r g w) :
    Calls Tryd.prog 7 #[.int .i64 a0, .int .i64 a1, .int .u8 a2, .bool a3] w fun e w' => e = .returned (.bool true) ∧ Below w.heap.size w w' := by
  obtain ⟨L0, k0, q0⟩ := pick_nat a0 100 (by omega)
  obtain ⟨a, k1, q1⟩ := pick_nat a1 ((L0 + 1 : Nat) : Int) (by omega)
  by_cases hm : a2 = 0
  · subst hm
    cases a3 with
    | true => exact conflict_rz a0 a1 w v0 v1 _ c f r g (Kp.start hS) L0 (L0 + 1) a 1 k0 rfl k1 (by omega) (by omega) (by omega)
    | false => exact conflict_nz a0 a1 w v0 v1 _ c f r g (Kp.start hS) L0 (L0 + 1) a 1 k0 rfl k1 (by omega) (by omega) (by omega)
  · have hb := wf_u8 v2
    obtain ⟨M, rfl⟩ : ∃ M : UInt8, a2 = (M.toNat : Int) := ⟨UInt8.ofNat a2.toNat, by rw [UInt8.toNat_ofNat']; omega⟩
    have hM : M ≠ 0 := fun h => hm (by rw [h]; rfl)
    cases a3 with
    | true => exact conflict_rm a0 a1 w v0 v1 _ c f r g (Kp.start hS) L0 (L0 + 1) a M k0 rfl k1 (by omega) (by omega) (by omega) hM
    | false => exact conflict_nm a0 a1 w v0 v1 _ c f r g (Kp.start hS) L0 (L0 + 1) a M k0 rfl k1 (by omega) (by omega) (by omega) hM
end Go.Proofs.YtnnmmmeppbdlnaaDoor
