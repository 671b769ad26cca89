/- Contracts of package frame: the closures of fixed, and reading a flag. -/
import Derived.Test.YtmmgmpghkpbgkaaFrC
namespace Go.Proofs.Ytmmgmpghkpbgkaa
open Go Go.RowKit
set_option linter.unusedVariables false
set_option linter.unusedSimpArgs false

theorem lt_one (x : UInt8) : Op.bytesLess (strB [x]).toList [1] = decide (x.toNat < 1) := by
  rw [ByteArray.toList_eq, strB_list]
  simp [Op.bytesLess, UInt8.lt_iff_toNat_lt]
theorem eq_one (x : UInt8) : ((strB [x]).toList == [1]) = decide (x.toNat = 1) := by
  rw [ByteArray.toList_eq, strB_list]
  rw [Bool.eq_iff_iff]
  simp [← UInt8.toNat_inj]
theorem gtr_c (x : UInt8) (w : World) : (binOp .gtr 9 (.string (strB [x])) (.string ⟨#[1]⟩)).run Try.prog w = .ok (.bool (decide (1 < x.toNat))) w := by
  have h1 := lt_one x
  have h2 := eq_one x
  have e : (ByteArray.toList ⟨#[1]⟩) = [1] := by rw [ByteArray.toList_eq]
  have h3 : (!(Op.bytesLess (strB [x]).toList (ByteArray.toList ⟨#[1]⟩) || ((strB [x]).toList == ByteArray.toList ⟨#[1]⟩))) = decide (1 < x.toNat) := by
    rw [e, h1, h2, Bool.eq_iff_iff]
    simp
    omega
  rw [← h3]
  clear h1 h2 h3 e
  have hb : binOp .gtr 9 (.string (strB [x])) (.string ⟨#[1]⟩) = pure (.bool !(Op.bytesLess (strB [x]).toList (ByteArray.toList ⟨#[1]⟩) || (strB [x]).toList == ByteArray.toList ⟨#[1]⟩)) := by simp [binOp, Op.stringOp]
  rw [hb]
  rfl
set_option maxRecDepth 100000 in
set_option maxHeartbeats 2000000 in
theorem get_uni (rb b : Nat) (hrb : rb ≠ b) (s : ByteArray) (a : Nat) (ha : a ≤ s.size) (hs : s.size ≤ 4611686018427387903) (f : Fr) (rv : Value) (w : World) (hR : RdAt w rb s a) (hA : FrAt w b f rv) :
    Calls Try.prog 118 #[.pointer (some ⟨rb, 0, none⟩), .pointer (some ⟨b, 0, none⟩)] w (GetPost .uni rb b s a f rv w) := by
  have HA := Lib.hid hA
  unfold GetPost
  by_cases h0 : a = s.size
  · have hl : s.data.toList.drop a = [] := List.drop_eq_nil_of_le (by rw [size_list]; omega)
    have hg : getP .uni f (s.data.toList.drop a) = none := by rw [hl]; rfl
    rw [hg]
    have ht := fun ww hh => take_none rb s a 1 ha (by omega) hs ww hh
    simp only [MAL] at ht ⊢
    clear hg hl
    go_enter Try.func118, Try.ntmps118
    go_wp2_with fail
    refine (ht _ hR).mono ?_
    rintro e w4 ⟨rfl, ho4⟩
    exact ⟨rfl, ho4.mono (by simp), rfl⟩
  · have h1 : a < s.size := by omega
    obtain ⟨x, hx⟩ : ∃ x : UInt8, s[a] = x := ⟨_, rfl⟩
    have hl : s.data.toList.drop a = x :: s.data.toList.drop (a + 1) := by
      rw [List.drop_eq_getElem_cons (by rw [size_list]; omega), ← get_list s a h1, hx]
    have HX : s.extract a (a + 1) = strB [x] := by rw [ext_list, hl, Nat.add_sub_cancel_left]; rfl
    have hg : getP .uni f (s.data.toList.drop a) = if 1 < x.toNat then none else some ({ f with uni := decide (x.toNat = 1) }, s.data.toList.drop (a + 1)) := by rw [hl]; rfl
    have ht := fun ww hh => take_some rb s a 1 (by omega) hs ww hh
    simp only [HX] at ht
    by_cases k1 : 1 < x.toNat
    · rw [hg, if_pos k1]
      simp only [MAL]
      have hgt := fun ww => gtr_c x ww
      simp only [decide_eq_true k1] at hgt
      clear k1
      clear hg hl
      go_enter Try.func118, Try.ntmps118
      go_wp2_with fail
      refine (ht _ hR).mono ?_
      rintro e w4 ⟨rfl, hR4, ho4⟩
      have HO := Lib.hid ho4
      clear ho4
      go_wp2_with fail
      exact ⟨rfl, HO.out.mono (by simp), rfl⟩
    · rw [hg, if_neg k1]
      have hgt := fun ww => gtr_c x ww
      simp only [decide_eq_false k1] at hgt
      have HEQ := Lib.hid (eq_one x)
      clear hg k1
      have HL := Lib.hid hl
      clear hl
      go_enter Try.func118, Try.ntmps118
      go_wp2_with fail
      refine (ht _ hR).mono ?_
      rintro e w4 ⟨rfl, hR4, ho4⟩
      have hA4 := (show At w b 33 _ from HA.out).keep ho4 (by simp; omega)
      have c0 : ∃ u, w4.cell? ⟨b, 7, none⟩ = some u := ⟨_, At.cell hA4 7 rfl⟩
      obtain ⟨u, c0⟩ := c0
      have fr : w4.frozen? ⟨b, 7, none⟩ = false := At.free hA4 7
      have HA4 := Lib.hid hA4
      have HR4 := Lib.hid hR4
      have HO := Lib.hid ho4
      clear hA4 hR4 ho4 ht
      go_wp2_with fail
      go_end0
      exact ⟨(HO.out.mono (by simp)).put (by simp) _, rfl, HA4.out.set 7 _ (by rw [HEQ.out]; rfl), a + 1, by omega, rfl, (show At w4 rb 97 _ from HR4.out).far (by simpa using hrb) _⟩

theorem fld_chal (b : Nat) (w : World) : Calls Try.prog 87 #[.pointer (some ⟨b, 0, none⟩)] w fun e w' => e = .returned (.pointer (some ⟨b, 3, none⟩)) ∧ w' = w := by
  go_enter Try.func87, Try.ntmps87
  go_wp2_with fail
  go_ret
  exact ⟨rfl, rfl⟩
set_option maxRecDepth 100000 in
set_option maxHeartbeats 2000000 in
theorem put_chal (b q1 q2 : Nat) (f : Fr) (rv : Value) (hf : FrWf f) (w : World) (hA : FrAt w b f rv) (h1 : w.cell? ⟨q1, 0, none⟩ = some (.func (.func 87) #[] #[])) (h2 : w.cell? ⟨q2, 0, none⟩ = some (.int .i64 8)) :
    Calls Try.prog 114 #[.pointer (some ⟨b, 0, none⟩), .pointer (some ⟨q1, 0, none⟩), .pointer (some ⟨q2, 0, none⟩)] w fun e w' => e = strE (putP .chal f) ∧ Only [] w w' := by
  have c0 : w.cell? ⟨b, 3, none⟩ = some (.string (strB f.S)) := At.cell hA 3 rfl
  have hz : (strB f.S).size = f.S.length := strB_size f.S
  clear hA hf
  by_cases k1 : f.S.length = 8
  · have HP : Hid (strE (putP .chal f) = .returned (.string (strB f.S))) := Lib.hid (by simp only [putP]; rw [if_pos k1]; rfl)
    rw [HP.out]
    have k1b : ((f.S.length : Int) != 8) = false := by rw [k1]; rfl
    have k1c : ((f.S.length : Int) == 8) = true := by rw [k1]; rfl
    clear k1
    go_enter Try.func114, Try.ntmps114
    go_wp2_with fail
    go_quiet (first | (go_at_call 87; refine Calls.quiet_of_same (fld_chal b _)))
    go_wp2_with fail
    refine (fld_chal b _).mono ?_
    rintro e w2 ⟨rfl, rfl⟩
    go_wp2_with fail
    go_ret
    exact ⟨rfl, (Only.refl [] w).drewN _⟩
  · have HP : Hid (strE (putP .chal f) = MAL) := Lib.hid (by simp only [putP]; rw [if_neg k1]; rfl)
    rw [HP.out]
    simp only [MAL]
    have k1c : ((f.S.length : Int) == 8) = false := beq_eq_false_iff_ne.2 (by omega)
    have k1b : ((f.S.length : Int) != 8) = true := by simp only [bne, k1c, Bool.not_false]
    clear k1
    go_enter Try.func114, Try.ntmps114
    go_wp2_with fail
    go_quiet (first | (go_at_call 87; refine Calls.quiet_of_same (fld_chal b _)))
    go_wp2_with fail
    exact ⟨rfl, rfl, (Only.refl [] w).drewN _⟩
set_option maxRecDepth 100000 in
set_option maxHeartbeats 2000000 in
theorem clr_chal (b q1 : Nat) (f : Fr) (rv : Value) (w : World) (hA : FrAt w b f rv) (h1 : w.cell? ⟨q1, 0, none⟩ = some (.func (.func 87) #[] #[])) :
    Calls Try.prog 116 #[.pointer (some ⟨b, 0, none⟩), .pointer (some ⟨q1, 0, none⟩)] w fun e w' => e = .returned (.tuple #[]) ∧ FrAt w' b { f with S := [] } rv ∧ Only [b] w w' := by
  have c0 : ∃ u, w.cell? ⟨b, 3, none⟩ = some u := ⟨_, At.cell hA 3 rfl⟩
  obtain ⟨u, c0⟩ := c0
  have fr : w.frozen? ⟨b, 3, none⟩ = false := At.free hA 3
  have HA := Lib.hid hA
  clear hA
  go_enter Try.func116, Try.ntmps116
  go_wp2_with fail
  refine (fld_chal b _).mono ?_
  rintro e w2 ⟨rfl, rfl⟩
  go_wp2_with fail
  go_end0
  exact ⟨rfl, (show At _ b 33 _ from HA.out).set 3 _ rfl, (Only.refl [b] _).put (by simp) _⟩
set_option maxRecDepth 100000 in
set_option maxHeartbeats 2000000 in
theorem get_chal (rb b q1 q2 : Nat) (hrb : rb ≠ b) (hq : q1 ≠ rb ∧ q1 ≠ b ∧ q2 ≠ rb ∧ q2 ≠ b) (s : ByteArray) (a : Nat) (ha : a ≤ s.size) (hs : s.size ≤ 4611686018427387903) (f : Fr) (rv : Value) (w : World) (hR : RdAt w rb s a) (hA : FrAt w b f rv) (h1 : w.cell? ⟨q1, 0, none⟩ = some (.func (.func 87) #[] #[])) (h2 : w.cell? ⟨q2, 0, none⟩ = some (.int .i64 8)) :
    Calls Try.prog 115 #[.pointer (some ⟨rb, 0, none⟩), .pointer (some ⟨b, 0, none⟩), .pointer (some ⟨q2, 0, none⟩), .pointer (some ⟨q1, 0, none⟩)] w (GetPost .chal rb b s a f rv w) := by
  have c1 : w.drew.cell? ⟨q1, 0, none⟩ = some (.func (.func 87) #[] #[]) := h1
  have c2 : w.drew.cell? ⟨q2, 0, none⟩ = some (.int .i64 8) := h2
  have HA : Hid (FrAt w.drew b f rv) := Lib.hid hA
  have HR : Hid (RdAt w.drew rb s a) := Lib.hid hR
  have hdl := drop_len s a
  unfold GetPost
  simp only [getP]
  by_cases hn : (s.data.toList.drop a).length < 8
  · rw [if_pos hn]
    have ht := fun ww hh => take_none rb s a 8 ha (by omega) hs ww hh
    simp only [MAL] at ht ⊢
    clear hn hA hR hdl
    go_enter Try.func115, Try.ntmps115
    go_wp2_with fail
    refine wp_region_held_drew (S := fun w' => w'.cell? ⟨q1, 0, none⟩ = some (.func (.func 87) #[] #[]) ∧ w'.cell? ⟨q2, 0, none⟩ = some (.int .i64 8)) (by kernel_rfl) (by exact ⟨c1, c2⟩) (fun hHeld => ?_)
    refine wpAnyH_take (i := 0) (v := ?_) rfl (by kernel_rfl) (by kernel_rfl) (by kernel_rfl) (fun _ _ _ h => h) (Or.inl ⟨by kernel_rfl, ?_⟩) (by assumption) ?_
    rotate_left
    · intro wS hSw
      try dsimp only at hSw
      go_simp
      try with_reducible rfl
    simp only [List.getElem_toArray, List.getElem_cons_succ, List.getElem_cons_zero, Act.put, List.setIfInBounds_toArray, List.set_cons_zero, List.set_cons_succ]
    refine wpAnyH_take (i := 1) (v := ?_) rfl (by kernel_rfl) (by kernel_rfl) (by kernel_rfl) (fun _ _ _ h => h) (Or.inl ⟨by kernel_rfl, ?_⟩) (by assumption) ?_
    rotate_left
    · intro wS hSw
      try dsimp only at hSw
      go_simp
      try with_reducible rfl
    simp only [List.getElem_toArray, List.getElem_cons_succ, List.getElem_cons_zero, Act.put, List.setIfInBounds_toArray, List.set_cons_zero, List.set_cons_succ]
    refine wpAnyH_take (i := 3) (v := ?_) rfl (by kernel_rfl) (by kernel_rfl) (by kernel_rfl) (fun _ _ _ h => h) (Or.inl ⟨by kernel_rfl, ?_⟩) (by assumption) ?_
    rotate_left
    · intro wS hSw
      try dsimp only at hSw
      go_simp
      try with_reducible rfl
    simp only [List.getElem_toArray, List.getElem_cons_succ, List.getElem_cons_zero, Act.put, List.setIfInBounds_toArray, List.set_cons_zero, List.set_cons_succ]
    refine wpAnyH_take (i := 4) (v := ?_) rfl (by kernel_rfl) (by kernel_rfl) (by kernel_rfl) (fun _ _ _ h => h) (Or.inl ⟨by kernel_rfl, ?_⟩) (by assumption) ?_
    rotate_left
    · intro wS hSw
      try dsimp only at hSw
      go_simp
      try with_reducible rfl
    simp only [List.getElem_toArray, List.getElem_cons_succ, List.getElem_cons_zero, Act.put, List.setIfInBounds_toArray, List.set_cons_zero, List.set_cons_succ]
    refine wpAnyH_ready (rs := [2]) (by kernel_rfl) (by simp) ?_
    refine AllReadyH.cons rfl (fun K hK => ?_) AllReadyH.nil
    go_simp
    refine (fld_chal b _).mono ?_
    rintro e w' ⟨rfl, rfl⟩
    refine hK.out _ _ (by exact hHeld) (fun hHeld' => ?_)
    clear hHeld hK K
    have hHeld := hHeld'
    clear hHeld'
    refine wpAnyH_ready (rs := [5]) (by kernel_rfl) (by simp) ?_
    refine AllReadyH.cons rfl (fun K hK => ?_) AllReadyH.nil
    go_simp
    refine (ht _ HR.out).mono ?_
    rintro e w2 ⟨rfl, ho⟩
    exact ⟨rfl, (clr_only ho).mono (by simp), rfl⟩
  · rw [if_neg hn]
    have ht := fun ww hh => take_some rb s a 8 (by omega) hs ww hh
    have HX : Hid (s.extract a (a + 8) = strB ((s.data.toList.drop a).take 8)) := Lib.hid (by rw [ext_list, Nat.add_sub_cancel_left])
    have HY : Hid ((s.data.toList.drop a).drop 8 = s.data.toList.drop (a + 8)) := Lib.hid (by rw [List.drop_drop])
    have hle : a + 8 ≤ s.size := by omega
    clear hn hA hR hdl
    go_enter Try.func115, Try.ntmps115
    go_wp2_with fail
    refine wp_region_held_drew (S := fun w' => w'.cell? ⟨q1, 0, none⟩ = some (.func (.func 87) #[] #[]) ∧ w'.cell? ⟨q2, 0, none⟩ = some (.int .i64 8)) (by kernel_rfl) (by exact ⟨c1, c2⟩) (fun hHeld => ?_)
    refine wpAnyH_take (i := 0) (v := ?_) rfl (by kernel_rfl) (by kernel_rfl) (by kernel_rfl) (fun _ _ _ h => h) (Or.inl ⟨by kernel_rfl, ?_⟩) (by assumption) ?_
    rotate_left
    · intro wS hSw
      try dsimp only at hSw
      go_simp
      try with_reducible rfl
    simp only [List.getElem_toArray, List.getElem_cons_succ, List.getElem_cons_zero, Act.put, List.setIfInBounds_toArray, List.set_cons_zero, List.set_cons_succ]
    refine wpAnyH_take (i := 1) (v := ?_) rfl (by kernel_rfl) (by kernel_rfl) (by kernel_rfl) (fun _ _ _ h => h) (Or.inl ⟨by kernel_rfl, ?_⟩) (by assumption) ?_
    rotate_left
    · intro wS hSw
      try dsimp only at hSw
      go_simp
      try with_reducible rfl
    simp only [List.getElem_toArray, List.getElem_cons_succ, List.getElem_cons_zero, Act.put, List.setIfInBounds_toArray, List.set_cons_zero, List.set_cons_succ]
    refine wpAnyH_take (i := 3) (v := ?_) rfl (by kernel_rfl) (by kernel_rfl) (by kernel_rfl) (fun _ _ _ h => h) (Or.inl ⟨by kernel_rfl, ?_⟩) (by assumption) ?_
    rotate_left
    · intro wS hSw
      try dsimp only at hSw
      go_simp
      try with_reducible rfl
    simp only [List.getElem_toArray, List.getElem_cons_succ, List.getElem_cons_zero, Act.put, List.setIfInBounds_toArray, List.set_cons_zero, List.set_cons_succ]
    refine wpAnyH_take (i := 4) (v := ?_) rfl (by kernel_rfl) (by kernel_rfl) (by kernel_rfl) (fun _ _ _ h => h) (Or.inl ⟨by kernel_rfl, ?_⟩) (by assumption) ?_
    rotate_left
    · intro wS hSw
      try dsimp only at hSw
      go_simp
      try with_reducible rfl
    simp only [List.getElem_toArray, List.getElem_cons_succ, List.getElem_cons_zero, Act.put, List.setIfInBounds_toArray, List.set_cons_zero, List.set_cons_succ]
    refine wpAnyH_ready (rs := [2]) (by kernel_rfl) (by simp) ?_
    refine AllReadyH.cons rfl (fun K hK => ?_) AllReadyH.nil
    go_simp
    refine (fld_chal b _).mono ?_
    rintro e w' ⟨rfl, rfl⟩
    refine hK.out _ _ (by exact hHeld) (fun hHeld' => ?_)
    clear hHeld hK K
    have hHeld := hHeld'
    clear hHeld'
    refine wpAnyH_ready (rs := [5]) (by kernel_rfl) (by simp) ?_
    refine AllReadyH.cons rfl (fun K hK => ?_) AllReadyH.nil
    go_simp
    refine (ht _ HR.out).mono ?_
    rintro e w4 ⟨rfl, hR4, ho4⟩
    have hA4 := (show At w.drew b 33 _ from HA.out).keep ho4 (by simp; omega)
    have c0 : ∃ u, w4.cell? ⟨b, 3, none⟩ = some u := ⟨_, At.cell hA4 3 rfl⟩
    obtain ⟨u, c0⟩ := c0
    have fr : w4.frozen? ⟨b, 3, none⟩ = false := At.free hA4 3
    have d1 := (ho4.cell (p := ⟨q1, 0, none⟩) (World.block_lt_of_cell? _ _ c1) (by simp; omega)).trans c1
    have d2 := (ho4.cell (p := ⟨q2, 0, none⟩) (World.block_lt_of_cell? _ _ c2) (by simp; omega)).trans c2
    refine hK.out _ _ (by exact ⟨d1, d2⟩) (fun hHeld' => ?_)
    clear hHeld hK K
    have hHeld := hHeld'
    clear hHeld'
    have HA4 := Lib.hid hA4
    have HR4 := Lib.hid hR4
    have HO := Lib.hid ho4
    clear hA4 hR4 ho4 ht
    refine wpAnyH_take (i := 6) (v := ?_) rfl (by kernel_rfl) (by kernel_rfl) (by kernel_rfl) (fun _ _ _ h => h) (Or.inl ⟨by kernel_rfl, ?_⟩) (by assumption) ?_
    rotate_left
    · intro wS hSw
      try dsimp only at hSw
      go_simp
      try with_reducible rfl
    simp only [List.getElem_toArray, List.getElem_cons_succ, List.getElem_cons_zero, Act.put, List.setIfInBounds_toArray, List.set_cons_zero, List.set_cons_succ]
    refine wpAnyH_ready (rs := [7]) (by kernel_rfl) (by simp) ?_
    refine AllReadyH.cons rfl (fun K hK => ?_) AllReadyH.nil
    go_simp
    refine hK.out _ _ (by exact ⟨(World.cell?_setCell_far _ _ _ _ (by simp; omega)).trans d1, (World.cell?_setCell_far _ _ _ _ (by simp; omega)).trans d2⟩) (fun hHeld' => ?_)
    clear hHeld hK K
    refine wpAnyH_done (by kernel_rfl) ?_ _
    go_wp2_with fail
    go_end0
    refine ⟨((clr_only HO.out).mono (by simp)).put (by simp) _, rfl, HA4.out.set 3 _ ?_, a + 8, hle, HY.out, (show At w4 rb 97 _ from HR4.out).far (by simpa using hrb) _⟩
    rw [HX.out]; rfl

theorem fld_cidp (b : Nat) (w : World) : Calls Try.prog 88 #[.pointer (some ⟨b, 0, none⟩)] w fun e w' => e = .returned (.pointer (some ⟨b, 12, none⟩)) ∧ w' = w := by
  go_enter Try.func88, Try.ntmps88
  go_wp2_with fail
  go_ret
  exact ⟨rfl, rfl⟩
set_option maxRecDepth 100000 in
set_option maxHeartbeats 2000000 in
theorem put_cidp (b q1 q2 : Nat) (f : Fr) (rv : Value) (hf : FrWf f) (w : World) (hA : FrAt w b f rv) (h1 : w.cell? ⟨q1, 0, none⟩ = some (.func (.func 88) #[] #[])) (h2 : w.cell? ⟨q2, 0, none⟩ = some (.int .i64 8)) :
    Calls Try.prog 114 #[.pointer (some ⟨b, 0, none⟩), .pointer (some ⟨q1, 0, none⟩), .pointer (some ⟨q2, 0, none⟩)] w fun e w' => e = strE (putP .cidp f) ∧ Only [] w w' := by
  have c0 : w.cell? ⟨b, 12, none⟩ = some (.string (strB f.cid)) := At.cell hA 12 rfl
  have hz : (strB f.cid).size = f.cid.length := strB_size f.cid
  clear hA hf
  by_cases k1 : f.cid.length = 8
  · have HP : Hid (strE (putP .cidp f) = .returned (.string (strB f.cid))) := Lib.hid (by simp only [putP]; rw [if_pos k1]; rfl)
    rw [HP.out]
    have k1b : ((f.cid.length : Int) != 8) = false := by rw [k1]; rfl
    have k1c : ((f.cid.length : Int) == 8) = true := by rw [k1]; rfl
    clear k1
    go_enter Try.func114, Try.ntmps114
    go_wp2_with fail
    go_quiet (first | (go_at_call 88; refine Calls.quiet_of_same (fld_cidp b _)))
    go_wp2_with fail
    refine (fld_cidp b _).mono ?_
    rintro e w2 ⟨rfl, rfl⟩
    go_wp2_with fail
    go_ret
    exact ⟨rfl, (Only.refl [] w).drewN _⟩
  · have HP : Hid (strE (putP .cidp f) = MAL) := Lib.hid (by simp only [putP]; rw [if_neg k1]; rfl)
    rw [HP.out]
    simp only [MAL]
    have k1c : ((f.cid.length : Int) == 8) = false := beq_eq_false_iff_ne.2 (by omega)
    have k1b : ((f.cid.length : Int) != 8) = true := by simp only [bne, k1c, Bool.not_false]
    clear k1
    go_enter Try.func114, Try.ntmps114
    go_wp2_with fail
    go_quiet (first | (go_at_call 88; refine Calls.quiet_of_same (fld_cidp b _)))
    go_wp2_with fail
    exact ⟨rfl, rfl, (Only.refl [] w).drewN _⟩
set_option maxRecDepth 100000 in
set_option maxHeartbeats 2000000 in
theorem clr_cidp (b q1 : Nat) (f : Fr) (rv : Value) (w : World) (hA : FrAt w b f rv) (h1 : w.cell? ⟨q1, 0, none⟩ = some (.func (.func 88) #[] #[])) :
    Calls Try.prog 116 #[.pointer (some ⟨b, 0, none⟩), .pointer (some ⟨q1, 0, none⟩)] w fun e w' => e = .returned (.tuple #[]) ∧ FrAt w' b { f with cid := [] } rv ∧ Only [b] w w' := by
  have c0 : ∃ u, w.cell? ⟨b, 12, none⟩ = some u := ⟨_, At.cell hA 12 rfl⟩
  obtain ⟨u, c0⟩ := c0
  have fr : w.frozen? ⟨b, 12, none⟩ = false := At.free hA 12
  have HA := Lib.hid hA
  clear hA
  go_enter Try.func116, Try.ntmps116
  go_wp2_with fail
  refine (fld_cidp b _).mono ?_
  rintro e w2 ⟨rfl, rfl⟩
  go_wp2_with fail
  go_end0
  exact ⟨rfl, (show At _ b 33 _ from HA.out).set 12 _ rfl, (Only.refl [b] _).put (by simp) _⟩
set_option maxRecDepth 100000 in
set_option maxHeartbeats 2000000 in
theorem get_cidp (rb b q1 q2 : Nat) (hrb : rb ≠ b) (hq : q1 ≠ rb ∧ q1 ≠ b ∧ q2 ≠ rb ∧ q2 ≠ b) (s : ByteArray) (a : Nat) (ha : a ≤ s.size) (hs : s.size ≤ 4611686018427387903) (f : Fr) (rv : Value) (w : World) (hR : RdAt w rb s a) (hA : FrAt w b f rv) (h1 : w.cell? ⟨q1, 0, none⟩ = some (.func (.func 88) #[] #[])) (h2 : w.cell? ⟨q2, 0, none⟩ = some (.int .i64 8)) :
    Calls Try.prog 115 #[.pointer (some ⟨rb, 0, none⟩), .pointer (some ⟨b, 0, none⟩), .pointer (some ⟨q2, 0, none⟩), .pointer (some ⟨q1, 0, none⟩)] w (GetPost .cidp rb b s a f rv w) := by
  have c1 : w.drew.cell? ⟨q1, 0, none⟩ = some (.func (.func 88) #[] #[]) := h1
  have c2 : w.drew.cell? ⟨q2, 0, none⟩ = some (.int .i64 8) := h2
  have HA : Hid (FrAt w.drew b f rv) := Lib.hid hA
  have HR : Hid (RdAt w.drew rb s a) := Lib.hid hR
  have hdl := drop_len s a
  unfold GetPost
  simp only [getP]
  by_cases hn : (s.data.toList.drop a).length < 8
  · rw [if_pos hn]
    have ht := fun ww hh => take_none rb s a 8 ha (by omega) hs ww hh
    simp only [MAL] at ht ⊢
    clear hn hA hR hdl
    go_enter Try.func115, Try.ntmps115
    go_wp2_with fail
    refine wp_region_held_drew (S := fun w' => w'.cell? ⟨q1, 0, none⟩ = some (.func (.func 88) #[] #[]) ∧ w'.cell? ⟨q2, 0, none⟩ = some (.int .i64 8)) (by kernel_rfl) (by exact ⟨c1, c2⟩) (fun hHeld => ?_)
    refine wpAnyH_take (i := 0) (v := ?_) rfl (by kernel_rfl) (by kernel_rfl) (by kernel_rfl) (fun _ _ _ h => h) (Or.inl ⟨by kernel_rfl, ?_⟩) (by assumption) ?_
    rotate_left
    · intro wS hSw
      try dsimp only at hSw
      go_simp
      try with_reducible rfl
    simp only [List.getElem_toArray, List.getElem_cons_succ, List.getElem_cons_zero, Act.put, List.setIfInBounds_toArray, List.set_cons_zero, List.set_cons_succ]
    refine wpAnyH_take (i := 1) (v := ?_) rfl (by kernel_rfl) (by kernel_rfl) (by kernel_rfl) (fun _ _ _ h => h) (Or.inl ⟨by kernel_rfl, ?_⟩) (by assumption) ?_
    rotate_left
    · intro wS hSw
      try dsimp only at hSw
      go_simp
      try with_reducible rfl
    simp only [List.getElem_toArray, List.getElem_cons_succ, List.getElem_cons_zero, Act.put, List.setIfInBounds_toArray, List.set_cons_zero, List.set_cons_succ]
    refine wpAnyH_take (i := 3) (v := ?_) rfl (by kernel_rfl) (by kernel_rfl) (by kernel_rfl) (fun _ _ _ h => h) (Or.inl ⟨by kernel_rfl, ?_⟩) (by assumption) ?_
    rotate_left
    · intro wS hSw
      try dsimp only at hSw
      go_simp
      try with_reducible rfl
    simp only [List.getElem_toArray, List.getElem_cons_succ, List.getElem_cons_zero, Act.put, List.setIfInBounds_toArray, List.set_cons_zero, List.set_cons_succ]
    refine wpAnyH_take (i := 4) (v := ?_) rfl (by kernel_rfl) (by kernel_rfl) (by kernel_rfl) (fun _ _ _ h => h) (Or.inl ⟨by kernel_rfl, ?_⟩) (by assumption) ?_
    rotate_left
    · intro wS hSw
      try dsimp only at hSw
      go_simp
      try with_reducible rfl
    simp only [List.getElem_toArray, List.getElem_cons_succ, List.getElem_cons_zero, Act.put, List.setIfInBounds_toArray, List.set_cons_zero, List.set_cons_succ]
    refine wpAnyH_ready (rs := [2]) (by kernel_rfl) (by simp) ?_
    refine AllReadyH.cons rfl (fun K hK => ?_) AllReadyH.nil
    go_simp
    refine (fld_cidp b _).mono ?_
    rintro e w' ⟨rfl, rfl⟩
    refine hK.out _ _ (by exact hHeld) (fun hHeld' => ?_)
    clear hHeld hK K
    have hHeld := hHeld'
    clear hHeld'
    refine wpAnyH_ready (rs := [5]) (by kernel_rfl) (by simp) ?_
    refine AllReadyH.cons rfl (fun K hK => ?_) AllReadyH.nil
    go_simp
    refine (ht _ HR.out).mono ?_
    rintro e w2 ⟨rfl, ho⟩
    exact ⟨rfl, (clr_only ho).mono (by simp), rfl⟩
  · rw [if_neg hn]
    have ht := fun ww hh => take_some rb s a 8 (by omega) hs ww hh
    have HX : Hid (s.extract a (a + 8) = strB ((s.data.toList.drop a).take 8)) := Lib.hid (by rw [ext_list, Nat.add_sub_cancel_left])
    have HY : Hid ((s.data.toList.drop a).drop 8 = s.data.toList.drop (a + 8)) := Lib.hid (by rw [List.drop_drop])
    have hle : a + 8 ≤ s.size := by omega
    clear hn hA hR hdl
    go_enter Try.func115, Try.ntmps115
    go_wp2_with fail
    refine wp_region_held_drew (S := fun w' => w'.cell? ⟨q1, 0, none⟩ = some (.func (.func 88) #[] #[]) ∧ w'.cell? ⟨q2, 0, none⟩ = some (.int .i64 8)) (by kernel_rfl) (by exact ⟨c1, c2⟩) (fun hHeld => ?_)
    refine wpAnyH_take (i := 0) (v := ?_) rfl (by kernel_rfl) (by kernel_rfl) (by kernel_rfl) (fun _ _ _ h => h) (Or.inl ⟨by kernel_rfl, ?_⟩) (by assumption) ?_
    rotate_left
    · intro wS hSw
      try dsimp only at hSw
      go_simp
      try with_reducible rfl
    simp only [List.getElem_toArray, List.getElem_cons_succ, List.getElem_cons_zero, Act.put, List.setIfInBounds_toArray, List.set_cons_zero, List.set_cons_succ]
    refine wpAnyH_take (i := 1) (v := ?_) rfl (by kernel_rfl) (by kernel_rfl) (by kernel_rfl) (fun _ _ _ h => h) (Or.inl ⟨by kernel_rfl, ?_⟩) (by assumption) ?_
    rotate_left
    · intro wS hSw
      try dsimp only at hSw
      go_simp
      try with_reducible rfl
    simp only [List.getElem_toArray, List.getElem_cons_succ, List.getElem_cons_zero, Act.put, List.setIfInBounds_toArray, List.set_cons_zero, List.set_cons_succ]
    refine wpAnyH_take (i := 3) (v := ?_) rfl (by kernel_rfl) (by kernel_rfl) (by kernel_rfl) (fun _ _ _ h => h) (Or.inl ⟨by kernel_rfl, ?_⟩) (by assumption) ?_
    rotate_left
    · intro wS hSw
      try dsimp only at hSw
      go_simp
      try with_reducible rfl
    simp only [List.getElem_toArray, List.getElem_cons_succ, List.getElem_cons_zero, Act.put, List.setIfInBounds_toArray, List.set_cons_zero, List.set_cons_succ]
    refine wpAnyH_take (i := 4) (v := ?_) rfl (by kernel_rfl) (by kernel_rfl) (by kernel_rfl) (fun _ _ _ h => h) (Or.inl ⟨by kernel_rfl, ?_⟩) (by assumption) ?_
    rotate_left
    · intro wS hSw
      try dsimp only at hSw
      go_simp
      try with_reducible rfl
    simp only [List.getElem_toArray, List.getElem_cons_succ, List.getElem_cons_zero, Act.put, List.setIfInBounds_toArray, List.set_cons_zero, List.set_cons_succ]
    refine wpAnyH_ready (rs := [2]) (by kernel_rfl) (by simp) ?_
    refine AllReadyH.cons rfl (fun K hK => ?_) AllReadyH.nil
    go_simp
    refine (fld_cidp b _).mono ?_
    rintro e w' ⟨rfl, rfl⟩
    refine hK.out _ _ (by exact hHeld) (fun hHeld' => ?_)
    clear hHeld hK K
    have hHeld := hHeld'
    clear hHeld'
    refine wpAnyH_ready (rs := [5]) (by kernel_rfl) (by simp) ?_
    refine AllReadyH.cons rfl (fun K hK => ?_) AllReadyH.nil
    go_simp
    refine (ht _ HR.out).mono ?_
    rintro e w4 ⟨rfl, hR4, ho4⟩
    have hA4 := (show At w.drew b 33 _ from HA.out).keep ho4 (by simp; omega)
    have c0 : ∃ u, w4.cell? ⟨b, 12, none⟩ = some u := ⟨_, At.cell hA4 12 rfl⟩
    obtain ⟨u, c0⟩ := c0
    have fr : w4.frozen? ⟨b, 12, none⟩ = false := At.free hA4 12
    have d1 := (ho4.cell (p := ⟨q1, 0, none⟩) (World.block_lt_of_cell? _ _ c1) (by simp; omega)).trans c1
    have d2 := (ho4.cell (p := ⟨q2, 0, none⟩) (World.block_lt_of_cell? _ _ c2) (by simp; omega)).trans c2
    refine hK.out _ _ (by exact ⟨d1, d2⟩) (fun hHeld' => ?_)
    clear hHeld hK K
    have hHeld := hHeld'
    clear hHeld'
    have HA4 := Lib.hid hA4
    have HR4 := Lib.hid hR4
    have HO := Lib.hid ho4
    clear hA4 hR4 ho4 ht
    refine wpAnyH_take (i := 6) (v := ?_) rfl (by kernel_rfl) (by kernel_rfl) (by kernel_rfl) (fun _ _ _ h => h) (Or.inl ⟨by kernel_rfl, ?_⟩) (by assumption) ?_
    rotate_left
    · intro wS hSw
      try dsimp only at hSw
      go_simp
      try with_reducible rfl
    simp only [List.getElem_toArray, List.getElem_cons_succ, List.getElem_cons_zero, Act.put, List.setIfInBounds_toArray, List.set_cons_zero, List.set_cons_succ]
    refine wpAnyH_ready (rs := [7]) (by kernel_rfl) (by simp) ?_
    refine AllReadyH.cons rfl (fun K hK => ?_) AllReadyH.nil
    go_simp
    refine hK.out _ _ (by exact ⟨(World.cell?_setCell_far _ _ _ _ (by simp; omega)).trans d1, (World.cell?_setCell_far _ _ _ _ (by simp; omega)).trans d2⟩) (fun hHeld' => ?_)
    clear hHeld hK K
    refine wpAnyH_done (by kernel_rfl) ?_ _
    go_wp2_with fail
    go_end0
    refine ⟨((clr_only HO.out).mono (by simp)).put (by simp) _, rfl, HA4.out.set 12 _ ?_, a + 8, hle, HY.out, (show At w4 rb 97 _ from HR4.out).far (by simpa using hrb) _⟩
    rw [HX.out]; rfl
end Go.Proofs.Ytmmgmpghkpbgkaa
