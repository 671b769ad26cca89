/- Contracts of package frame: the closures of text, of uni and of retire. -/
import Derived.Test.YtgiekhohhogdiaaDoorRfC
namespace Go.Proofs.YtgiekhohhogdiaaDoor
open Go Go.RowKit
set_option linter.unusedVariables false
set_option linter.unusedSimpArgs false

theorem strB_app (a c : List UInt8) : strB (a ++ c) = strB a ++ strB c := by
  unfold strB
  exact (ByteArray.mk_append_mk _ _).symm
theorem ext_list (s : ByteArray) (i j : Nat) : s.extract i j = strB ((s.data.toList.drop i).take (j - i)) := by
  apply ByteArray.ext
  rw [← Array.toList_inj]
  simp [strB, ByteArray.data_extract, List.extract_eq_take_drop]
theorem drop_len (s : ByteArray) (a : Nat) : (s.data.toList.drop a).length = s.size - a := by rw [List.length_drop, size_list]
set_option maxRecDepth 100000 in
set_option maxHeartbeats 2000000 in
theorem put_text (b q1 q2 : Nat) (f : Fr) (rv : Value) (least most : Nat) (hl : least ≤ 1024) (hm : most ≤ 1024) (hf : FrWf f) (w : World) (hA : FrAt w b f rv) (h1 : w.cell? ⟨q1, 0, none⟩ = some (.int .i64 least)) (h2 : w.cell? ⟨q2, 0, none⟩ = some (.int .i64 most)) :
    Calls Tryd.prog 67 #[.pointer (some ⟨b, 0, none⟩), .pointer (some ⟨q1, 0, none⟩), .pointer (some ⟨q2, 0, none⟩)] w fun e w' => e = strE (putP (.text least most) f) ∧ Only [] w w' := by
  have c2 : w.cell? ⟨b, 2, none⟩ = some (.int .i64 f.off) := At.cell hA 2 rfl
  have c3 : w.cell? ⟨b, 3, none⟩ = some (.string (strB f.S)) := At.cell hA 3 rfl
  have hz : (strB f.S).size = f.S.length := strB_size f.S
  have hcl := fun ww => number_c (f.S.length : Int) (most : Int) (by have := hf.S; omega) ww
  have HF := Lib.hid hf
  clear hf hA
  by_cases k1 : f.S.length < least
  · have hp : putP (.text least most) f = none := by simp only [putP]; rw [if_pos (.inl k1)]
    rw [hp]
    have k1' : (f.S.length : Int) < least := by omega
    have k1b : decide ((f.S.length : Int) < least) = true := decide_eq_true k1'
    clear hp
    go_enter Tryd.func67, Tryd.ntmps67
    go_wp2_with fail
    go_quiet (fail)
    go_wp2_with fail
    exact ⟨rfl, rfl, (Only.refl [] w).drewN _⟩
  · have k1' : ¬ (f.S.length : Int) < least := by omega
    have k1b : decide ((f.S.length : Int) < least) = false := decide_eq_false k1'
    obtain ⟨W, hW⟩ : ∃ W, IntKind.i64.wrap (f.off + f.S.length) = W := ⟨_, rfl⟩
    by_cases k2 : 1099511627776 < W
    · have hp : putP (.text least most) f = none := by simp only [putP]; rw [if_pos (.inr (by unfold w64; rw [hW]; exact k2))]
      rw [hp]
      have k2b : decide (1099511627776 < W) = true := decide_eq_true k2
      clear hp
      go_enter Tryd.func67, Tryd.ntmps67
      go_wp2_with fail
      go_quiet (fail)
      go_wp2_with fail
      exact ⟨rfl, rfl, (Only.refl [] w).drewN _⟩
    · have k2b : decide (1099511627776 < W) = false := decide_eq_false k2
      have hp : putP (.text least most) f = (numE f.S.length most).map (· ++ f.S) := by simp only [putP]; rw [if_neg (fun h => h.elim k1 (by unfold w64; rw [hW]; exact k2))]
      rw [hp]
      clear hp
      cases hE : numE f.S.length most with
      | none =>
        simp only [hE, strE, MAL, Option.map_none] at hcl ⊢
        clear hE
        go_enter Tryd.func67, Tryd.ntmps67
        go_wp2_with fail
        go_quiet (fail)
        go_wp2_with fail
        have c3 : (w.drewN nq).drew.cell? ⟨b, 3, none⟩ = some (.string (strB f.S)) := c3
        have h2 : (w.drewN nq).drew.cell? ⟨q2, 0, none⟩ = some (.int .i64 most) := h2
        refine wp_region_held_drew (S := fun w' => w'.cell? ⟨b, 3, none⟩ = some (.string (strB f.S)) ∧ w'.cell? ⟨q2, 0, none⟩ = some (.int .i64 most)) (by kernel_rfl) (by exact ⟨c3, h2⟩) (fun hHeld => ?_)
        refine wpAnyH_take (i := 0) (v := ?_) rfl (by kernel_rfl) (by kernel_rfl) (by kernel_rfl) (fun _ _ _ h => h) (Or.inl ⟨by kernel_rfl, ?_⟩) (by assumption) ?_
        rotate_left
        · intro wS hSw
          try dsimp only at hSw
          go_simp
          try with_reducible rfl
        simp only [List.getElem_toArray, List.getElem_cons_succ, List.getElem_cons_zero, Act.put, List.setIfInBounds_toArray, List.set_cons_zero, List.set_cons_succ]
        refine wpAnyH_take (i := 1) (v := ?_) rfl (by kernel_rfl) (by kernel_rfl) (by kernel_rfl) (fun _ _ _ h => h) (Or.inl ⟨by kernel_rfl, ?_⟩) (by assumption) ?_
        rotate_left
        · intro wS hSw
          try dsimp only at hSw
          go_simp
          try with_reducible rfl
        simp only [List.getElem_toArray, List.getElem_cons_succ, List.getElem_cons_zero, Act.put, List.setIfInBounds_toArray, List.set_cons_zero, List.set_cons_succ]
        refine wpAnyH_take (i := 2) (v := ?_) rfl (by kernel_rfl) (by kernel_rfl) (by kernel_rfl) (fun _ _ _ h => h) (Or.inl ⟨by kernel_rfl, ?_⟩) (by assumption) ?_
        rotate_left
        · intro wS hSw
          try dsimp only at hSw
          go_simp
          try with_reducible rfl
        simp only [List.getElem_toArray, List.getElem_cons_succ, List.getElem_cons_zero, Act.put, List.setIfInBounds_toArray, List.set_cons_zero, List.set_cons_succ]
        refine wpAnyH_take (i := 3) (v := ?_) rfl (by kernel_rfl) (by kernel_rfl) (by kernel_rfl) (fun _ _ _ h => h) (Or.inl ⟨by kernel_rfl, ?_⟩) (by assumption) ?_
        rotate_left
        · intro wS hSw
          try dsimp only at hSw
          go_simp
          try with_reducible rfl
        simp only [List.getElem_toArray, List.getElem_cons_succ, List.getElem_cons_zero, Act.put, List.setIfInBounds_toArray, List.set_cons_zero, List.set_cons_succ]
        refine wpAnyH_take (i := 4) (v := ?_) rfl (by kernel_rfl) (by kernel_rfl) (by kernel_rfl) (fun _ _ _ h => h) (Or.inl ⟨by kernel_rfl, ?_⟩) (by assumption) ?_
        rotate_left
        · intro wS hSw
          try dsimp only at hSw
          go_simp
          try with_reducible rfl
        simp only [List.getElem_toArray, List.getElem_cons_succ, List.getElem_cons_zero, Act.put, List.setIfInBounds_toArray, List.set_cons_zero, List.set_cons_succ]
        refine wpAnyH_take (i := 5) (v := ?_) rfl (by kernel_rfl) (by kernel_rfl) (by kernel_rfl) (fun _ _ _ h => h) (Or.inl ⟨by kernel_rfl, ?_⟩) (by assumption) ?_
        rotate_left
        · intro wS hSw
          try dsimp only at hSw
          go_simp
          try with_reducible rfl
        simp only [List.getElem_toArray, List.getElem_cons_succ, List.getElem_cons_zero, Act.put, List.setIfInBounds_toArray, List.set_cons_zero, List.set_cons_succ]
        refine wpAnyH_take (i := 7) (v := ?_) rfl (by kernel_rfl) (by kernel_rfl) (by kernel_rfl) (fun _ _ _ h => h) (Or.inl ⟨by kernel_rfl, ?_⟩) (by assumption) ?_
        rotate_left
        · intro wS hSw
          try dsimp only at hSw
          go_simp
          try with_reducible rfl
        simp only [List.getElem_toArray, List.getElem_cons_succ, List.getElem_cons_zero, Act.put, List.setIfInBounds_toArray, List.set_cons_zero, List.set_cons_succ]
        refine wpAnyH_take (i := 8) (v := ?_) rfl (by kernel_rfl) (by kernel_rfl) (by kernel_rfl) (fun _ _ _ h => h) (Or.inl ⟨by kernel_rfl, ?_⟩) (by assumption) ?_
        rotate_left
        · intro wS hSw
          try dsimp only at hSw
          go_simp
          try with_reducible rfl
        simp only [List.getElem_toArray, List.getElem_cons_succ, List.getElem_cons_zero, Act.put, List.setIfInBounds_toArray, List.set_cons_zero, List.set_cons_succ]
        refine wpAnyH_take (i := 9) (v := ?_) rfl (by kernel_rfl) (by kernel_rfl) (by kernel_rfl) (fun _ _ _ h => h) (Or.inl ⟨by kernel_rfl, ?_⟩) (by assumption) ?_
        rotate_left
        · intro wS hSw
          try dsimp only at hSw
          go_simp
          try with_reducible rfl
        simp only [List.getElem_toArray, List.getElem_cons_succ, List.getElem_cons_zero, Act.put, List.setIfInBounds_toArray, List.set_cons_zero, List.set_cons_succ]
        refine wpAnyH_take (i := 10) (v := ?_) rfl (by kernel_rfl) (by kernel_rfl) (by kernel_rfl) (fun _ _ _ h => h) (Or.inl ⟨by kernel_rfl, ?_⟩) (by assumption) ?_
        rotate_left
        · intro wS hSw
          try dsimp only at hSw
          go_simp
          try with_reducible rfl
        simp only [List.getElem_toArray, List.getElem_cons_succ, List.getElem_cons_zero, Act.put, List.setIfInBounds_toArray, List.set_cons_zero, List.set_cons_succ]
        refine wpAnyH_ready (rs := [6]) (by kernel_rfl) (by simp) ?_
        refine AllReadyH.cons rfl (fun K hK => ?_) AllReadyH.nil
        go_simp
        refine (hcl _).mono ?_
        rintro e w2 ⟨rfl, ho⟩
        exact ⟨rfl, rfl, Only.trans (((Only.refl [] w).drewN nq).drew) ho⟩
      | some sE =>
        simp only [hE, strE, Option.map_some] at hcl ⊢
        obtain ⟨e1, e2, e3, e4⟩ := numE_some hE
        have e5 := vEnc_len (f.S.length : Int)
        rw [← e4] at e5
        have e6 : vWid (vCls (f.S.length : Int)) ≤ 8 := by unfold vWid; split <;> (try split) <;> (try split) <;> omega
        have hz1 : (strB sE).size = sE.length := strB_size sE
        have hz2 : sE.length + f.S.length ≤ 2000 := by omega
        have hz3 : (strB f.S).size = f.S.length := strB_size f.S
        have hz4 : ¬ 9223372036854775807 < sE.length + f.S.length := by omega
        clear hE e1 e2 e3 e4 e5 e6
        go_enter Tryd.func67, Tryd.ntmps67
        go_wp2_with fail
        go_quiet (fail)
        go_wp2_with fail
        have c3 : (w.drewN nq).drew.cell? ⟨b, 3, none⟩ = some (.string (strB f.S)) := c3
        have h2 : (w.drewN nq).drew.cell? ⟨q2, 0, none⟩ = some (.int .i64 most) := h2
        go_region_held3 (fun w' => w'.cell? ⟨b, 3, none⟩ = some (.string (strB f.S)) ∧ w'.cell? ⟨q2, 0, none⟩ = some (.int .i64 most)) (first | exact ⟨d0, d1⟩ | exact ⟨c3, h2⟩) ((go_at_call 63; refine (hcl _).mono ?_; rintro e w2 ⟨rfl, ho⟩; have HO := Lib.hid ho; have d0 := (ho.cell (p := ⟨b, 3, none⟩) (World.block_lt_of_cell? _ _ c3) (by simp)).trans c3; have d1 := (ho.cell (p := ⟨q2, 0, none⟩) (World.block_lt_of_cell? _ _ h2) (by simp)).trans h2; clear ho))
        go_wp2_with fail
        go_ret
        exact ⟨by rw [strB_app]; rfl, Only.trans (((Only.refl [] w).drewN nq).drew) HO.out⟩
set_option maxRecDepth 100000 in
set_option maxHeartbeats 2000000 in
theorem clr_text (b : Nat) (f : Fr) (rv : Value) (w : World) (hA : FrAt w b f rv) :
    Calls Tryd.prog 70 #[.pointer (some ⟨b, 0, none⟩)] w fun e w' => e = .returned (.tuple #[]) ∧ FrAt w' b { f with S := [] } rv ∧ Only [b] w w' := by
  have c0 : ∃ u, w.cell? ⟨b, 3, none⟩ = some u := ⟨_, At.cell hA 3 rfl⟩
  obtain ⟨u, c0⟩ := c0
  have fr : w.frozen? ⟨b, 3, none⟩ = false := At.free hA 3
  have HA := Lib.hid hA
  clear hA
  go_enter Tryd.func70, Tryd.ntmps70
  go_wp2_with fail
  go_end0
  exact ⟨rfl, (show At w b 33 _ from HA.out).set 3 _ rfl, (Only.refl [b] w).put (by simp) _⟩
/-- What a closure 'get' does: it reads as getP says. -/
def GetPost (p : Pt) (rb b : Nat) (s : ByteArray) (a : Nat) (f : Fr) (rv : Value) (w : World) (e : Ending) (w' : World) : Prop :=
  Only [rb, b] w w' ∧ match getP p f (s.data.toList.drop a) with
    | some (g, l) => e = .returned (.tuple #[]) ∧ FrAt w' b g rv ∧ ∃ a', a' ≤ s.size ∧ l = s.data.toList.drop a' ∧ RdAt w' rb s a'
    | none => e = MAL
set_option maxRecDepth 100000 in
set_option maxHeartbeats 2000000 in
theorem get_text (rb b : Nat) (hrb : rb ≠ b) (least most : Nat) (s : ByteArray) (a : Nat) (ha : a ≤ s.size) (hs : s.size ≤ 4611686018427387903) (f : Fr) (rv : Value) (w : World) (hR : RdAt w rb s a) (hA : FrAt w b f rv) :
    Calls Tryd.prog 68 #[.pointer (some ⟨rb, 0, none⟩), .pointer (some ⟨b, 0, none⟩)] w (GetPost (.text least most) rb b s a f rv w) := by
  have HA := Lib.hid hA
  have hdl := drop_len s a
  unfold GetPost
  simp only [getP, numD]
  cases hd : vDec (s.data.toList.drop a) with
  | none =>
    have hcl := fun ww hh => rnum_none rb s a hd ha hs ww hh
    simp only [MAL, Option.map_none] at hcl ⊢
    go_enter Tryd.func68, Tryd.ntmps68
    go_wp2_with fail
    refine (hcl _ hR).mono ?_
    rintro e w3 ⟨rfl, ho⟩
    exact ⟨rfl, ho.mono (by simp), rfl⟩
  | some p =>
    obtain ⟨n, k⟩ := p
    obtain ⟨n0, n1, hkw, k1, hkt⟩ := vDec_some _ _ _ hd
    clear hkw hkt
    simp only [Option.map_some]
    have hdl2 : ((s.data.toList.drop a).drop k).length = s.size - a - k := by rw [List.length_drop, hdl]
    have hcl := fun ww hh => rnum_some rb s a n k hd ha hs ww hh
    by_cases hn : (((s.data.toList.drop a).drop k).length : Int) < n
    · rw [if_pos hn]
      have ht := fun ww hh => take_none rb s (a + k) n (by omega) (by omega) hs ww hh
      simp only [MAL] at ht ⊢
      clear hn hd
      go_enter Tryd.func68, Tryd.ntmps68
      go_wp2_with fail
      refine (hcl _ hR).mono ?_
      rintro e w3 ⟨rfl, hR3, ho⟩
      go_wp2_with fail
      refine (ht _ hR3).mono ?_
      rintro e w4 ⟨rfl, ho4⟩
      exact ⟨rfl, (ho.trans ho4).mono (by simp), rfl⟩
    · rw [if_neg hn]
      obtain ⟨m, rfl⟩ : ∃ m : Nat, n = m := ⟨n.toNat, by omega⟩
      have ht := fun ww hh => take_some rb s (a + k) m (by omega) hs ww hh
      have hle : a + k + m ≤ s.size := by omega
      have HX : Hid (s.extract (a + k) (a + k + m) = strB (((s.data.toList.drop a).drop k).take m)) := Lib.hid (by rw [ext_list, List.drop_drop, Nat.add_sub_cancel_left])
      have HY : Hid (((s.data.toList.drop a).drop k).drop m = s.data.toList.drop (a + k + m)) := Lib.hid (by rw [List.drop_drop, List.drop_drop, Nat.add_assoc])
      clear hn hd hdl2 hdl
      go_enter Tryd.func68, Tryd.ntmps68
      go_wp2_with fail
      refine (hcl _ hR).mono ?_
      rintro e w3 ⟨rfl, hR3, ho⟩
      go_wp2_with fail
      refine (ht _ hR3).mono ?_
      rintro e w4 ⟨rfl, hR4, ho4⟩
      have hA4 := (show At w b 33 _ from HA.out).keep (ho.trans ho4) (by simp; omega)
      have c0 : ∃ u, w4.cell? ⟨b, 3, none⟩ = some u := ⟨_, At.cell hA4 3 rfl⟩
      obtain ⟨u, c0⟩ := c0
      have fr : w4.frozen? ⟨b, 3, none⟩ = false := At.free hA4 3
      have HA4 := Lib.hid hA4
      have HR4 := Lib.hid hR4
      have HO := Lib.hid (ho.trans ho4)
      clear hA4 hR4 ho ho4 hR3 hcl ht
      go_wp2_with fail
      go_end0
      refine ⟨(HO.out.mono (by simp)).put (by simp) _, rfl, HA4.out.set 3 _ ?_, a + k + m, hle, ?_, (show At w4 rb 72 _ from HR4.out).far (by simpa using hrb) _⟩
      · rw [HX.out]; simp only [Int.toNat_natCast]; rfl
      · rw [← HY.out]; simp only [Int.toNat_natCast]
theorem put_uni (b : Nat) (f : Fr) (rv : Value) (w : World) (hA : FrAt w b f rv) :
    Calls Tryd.prog 74 #[.pointer (some ⟨b, 0, none⟩)] w fun e w' => e = strE (putP .uni f) ∧ Only [] w w' := by
  have c0 : w.cell? ⟨b, 7, none⟩ = some (.bool f.uni) := At.cell hA 7 rfl
  clear hA
  cases hu : f.uni with
  | true =>
    rw [hu] at c0
    have HP : Hid (strE (putP .uni f) = .returned (.string ⟨#[1]⟩)) := Lib.hid (by simp only [putP, hu]; rfl)
    rw [HP.out]
    go_enter Tryd.func74, Tryd.ntmps74
    go_wp2_with fail
    go_ret
    exact ⟨rfl, Only.refl _ _⟩
  | false =>
    rw [hu] at c0
    have HP : Hid (strE (putP .uni f) = .returned (.string ⟨#[0]⟩)) := Lib.hid (by simp only [putP, hu]; rfl)
    rw [HP.out]
    go_enter Tryd.func74, Tryd.ntmps74
    go_wp2_with fail
    go_ret
    exact ⟨rfl, Only.refl _ _⟩
theorem clr_uni (b : Nat) (f : Fr) (rv : Value) (w : World) (hA : FrAt w b f rv) :
    Calls Tryd.prog 76 #[.pointer (some ⟨b, 0, none⟩)] w fun e w' => e = .returned (.tuple #[]) ∧ FrAt w' b { f with uni := false } rv ∧ Only [b] w w' := by
  have c0 : ∃ u, w.cell? ⟨b, 7, none⟩ = some u := ⟨_, At.cell hA 7 rfl⟩
  obtain ⟨u, c0⟩ := c0
  have fr : w.frozen? ⟨b, 7, none⟩ = false := At.free hA 7
  have HA := Lib.hid hA
  clear hA
  go_enter Tryd.func76, Tryd.ntmps76
  go_wp2_with fail
  go_end0
  exact ⟨rfl, (show At w b 33 _ from HA.out).set 7 _ rfl, (Only.refl [b] w).put (by simp) _⟩
set_option maxRecDepth 100000 in
set_option maxHeartbeats 2000000 in
theorem put_retire (b : Nat) (f : Fr) (rv : Value) (hf : FrWf f) (w : World) (hA : FrAt w b f rv) :
    Calls Tryd.prog 78 #[.pointer (some ⟨b, 0, none⟩)] w fun e w' => e = strE (putP .retire f) ∧ Only [] w w' := by
  have c0 : w.drew.cell? ⟨b, 11, none⟩ = some (.int .i64 f.rt) := At.cell hA 11 rfl
  have c1 : w.drew.cell? ⟨b, 10, none⟩ = some (.int .i64 f.sq) := At.cell hA 10 rfl
  have hcl := fun ww => number_c f.rt f.sq hf.rt ww
  simp only [putP]
  clear hA
  cases hE : numE f.rt f.sq with
  | none =>
    simp only [hE, strE, MAL] at hcl ⊢
    clear hE hf
    go_enter Tryd.func78, Tryd.ntmps78
    go_wp2_with fail
    refine wp_region_held_drew (S := fun w' => w'.cell? ⟨b, 11, none⟩ = some (.int .i64 f.rt) ∧ w'.cell? ⟨b, 10, none⟩ = some (.int .i64 f.sq)) (by kernel_rfl) (by exact ⟨c0, c1⟩) (fun hHeld => ?_)
    refine wpAnyH_take (i := 0) (v := ?_) rfl (by kernel_rfl) (by kernel_rfl) (by kernel_rfl) (fun _ _ _ h => h) (Or.inl ⟨by kernel_rfl, ?_⟩) (by assumption) ?_
    rotate_left
    · intro wS hSw
      try dsimp only at hSw
      go_simp
      try with_reducible rfl
    simp only [List.getElem_toArray, List.getElem_cons_succ, List.getElem_cons_zero, Act.put, List.setIfInBounds_toArray, List.set_cons_zero, List.set_cons_succ]
    refine wpAnyH_take (i := 1) (v := ?_) rfl (by kernel_rfl) (by kernel_rfl) (by kernel_rfl) (fun _ _ _ h => h) (Or.inl ⟨by kernel_rfl, ?_⟩) (by assumption) ?_
    rotate_left
    · intro wS hSw
      try dsimp only at hSw
      go_simp
      try with_reducible rfl
    simp only [List.getElem_toArray, List.getElem_cons_succ, List.getElem_cons_zero, Act.put, List.setIfInBounds_toArray, List.set_cons_zero, List.set_cons_succ]
    refine wpAnyH_take (i := 2) (v := ?_) rfl (by kernel_rfl) (by kernel_rfl) (by kernel_rfl) (fun _ _ _ h => h) (Or.inl ⟨by kernel_rfl, ?_⟩) (by assumption) ?_
    rotate_left
    · intro wS hSw
      try dsimp only at hSw
      go_simp
      try with_reducible rfl
    simp only [List.getElem_toArray, List.getElem_cons_succ, List.getElem_cons_zero, Act.put, List.setIfInBounds_toArray, List.set_cons_zero, List.set_cons_succ]
    refine wpAnyH_take (i := 3) (v := ?_) rfl (by kernel_rfl) (by kernel_rfl) (by kernel_rfl) (fun _ _ _ h => h) (Or.inl ⟨by kernel_rfl, ?_⟩) (by assumption) ?_
    rotate_left
    · intro wS hSw
      try dsimp only at hSw
      go_simp
      try with_reducible rfl
    simp only [List.getElem_toArray, List.getElem_cons_succ, List.getElem_cons_zero, Act.put, List.setIfInBounds_toArray, List.set_cons_zero, List.set_cons_succ]
    refine wpAnyH_take (i := 4) (v := ?_) rfl (by kernel_rfl) (by kernel_rfl) (by kernel_rfl) (fun _ _ _ h => h) (Or.inl ⟨by kernel_rfl, ?_⟩) (by assumption) ?_
    rotate_left
    · intro wS hSw
      try dsimp only at hSw
      go_simp
      try with_reducible rfl
    simp only [List.getElem_toArray, List.getElem_cons_succ, List.getElem_cons_zero, Act.put, List.setIfInBounds_toArray, List.set_cons_zero, List.set_cons_succ]
    refine wpAnyH_take (i := 5) (v := ?_) rfl (by kernel_rfl) (by kernel_rfl) (by kernel_rfl) (fun _ _ _ h => h) (Or.inl ⟨by kernel_rfl, ?_⟩) (by assumption) ?_
    rotate_left
    · intro wS hSw
      try dsimp only at hSw
      go_simp
      try with_reducible rfl
    simp only [List.getElem_toArray, List.getElem_cons_succ, List.getElem_cons_zero, Act.put, List.setIfInBounds_toArray, List.set_cons_zero, List.set_cons_succ]
    refine wpAnyH_take (i := 6) (v := ?_) rfl (by kernel_rfl) (by kernel_rfl) (by kernel_rfl) (fun _ _ _ h => h) (Or.inl ⟨by kernel_rfl, ?_⟩) (by assumption) ?_
    rotate_left
    · intro wS hSw
      try dsimp only at hSw
      go_simp
      try with_reducible rfl
    simp only [List.getElem_toArray, List.getElem_cons_succ, List.getElem_cons_zero, Act.put, List.setIfInBounds_toArray, List.set_cons_zero, List.set_cons_succ]
    refine wpAnyH_take (i := 7) (v := ?_) rfl (by kernel_rfl) (by kernel_rfl) (by kernel_rfl) (fun _ _ _ h => h) (Or.inl ⟨by kernel_rfl, ?_⟩) (by assumption) ?_
    rotate_left
    · intro wS hSw
      try dsimp only at hSw
      go_simp
      try with_reducible rfl
    simp only [List.getElem_toArray, List.getElem_cons_succ, List.getElem_cons_zero, Act.put, List.setIfInBounds_toArray, List.set_cons_zero, List.set_cons_succ]
    refine wpAnyH_ready (rs := [8]) (by kernel_rfl) (by simp) ?_
    refine AllReadyH.cons rfl (fun K hK => ?_) AllReadyH.nil
    go_simp
    refine (hcl _).mono ?_
    rintro e w2 ⟨rfl, ho⟩
    exact ⟨rfl, rfl, clr_only ho⟩
  | some sE =>
    simp only [hE, strE] at hcl ⊢
    clear hE hf
    go_enter Tryd.func78, Tryd.ntmps78
    go_wp2_with fail
    go_region_held3 (fun w' => w'.cell? ⟨b, 11, none⟩ = some (.int .i64 f.rt) ∧ w'.cell? ⟨b, 10, none⟩ = some (.int .i64 f.sq)) (first | exact ⟨d0, d1⟩ | exact ⟨c0, c1⟩) ((go_at_call 63; refine (hcl _).mono ?_; rintro e w2 ⟨rfl, ho⟩; have HO := Lib.hid ho; have d0 := (ho.cell (p := ⟨b, 11, none⟩) (World.block_lt_of_cell? _ _ c0) (by simp)).trans c0; have d1 := (ho.cell (p := ⟨b, 10, none⟩) (World.block_lt_of_cell? _ _ c1) (by simp)).trans c1; clear ho))
    go_wp2_with fail
    go_ret
    exact ⟨rfl, clr_only HO.out⟩
end Go.Proofs.YtgiekhohhogdiaaDoor
/- Contracts of package frame: the closures of fixed, and reading a flag. -/
namespace Go.Proofs.YtgiekhohhogdiaaDoor
open Go Go.RowKit
set_option linter.unusedVariables false
set_option linter.unusedSimpArgs false

theorem lt_one (x : UInt8) : Op.bytesLess (strB [x]).toList [1] = decide (x.toNat < 1) := by
  rw [ByteArray.toList_eq, strB_list]
  simp [Op.bytesLess, UInt8.lt_iff_toNat_lt]
theorem eq_one (x : UInt8) : ((strB [x]).toList == [1]) = decide (x.toNat = 1) := by
  rw [ByteArray.toList_eq, strB_list]
  rw [Bool.eq_iff_iff]
  simp [← UInt8.toNat_inj]
theorem gtr_c (x : UInt8) (w : World) : (binOp .gtr 9 (.string (strB [x])) (.string ⟨#[1]⟩)).run Tryd.prog w = .ok (.bool (decide (1 < x.toNat))) w := by
  have h1 := lt_one x
  have h2 := eq_one x
  have e : (ByteArray.toList ⟨#[1]⟩) = [1] := by rw [ByteArray.toList_eq]
  have h3 : (!(Op.bytesLess (strB [x]).toList (ByteArray.toList ⟨#[1]⟩) || ((strB [x]).toList == ByteArray.toList ⟨#[1]⟩))) = decide (1 < x.toNat) := by
    rw [e, h1, h2, Bool.eq_iff_iff]
    simp
    omega
  rw [← h3]
  clear h1 h2 h3 e
  have hb : binOp .gtr 9 (.string (strB [x])) (.string ⟨#[1]⟩) = pure (.bool !(Op.bytesLess (strB [x]).toList (ByteArray.toList ⟨#[1]⟩) || (strB [x]).toList == ByteArray.toList ⟨#[1]⟩)) := by simp [binOp, Op.stringOp]
  rw [hb]
  rfl
set_option maxRecDepth 100000 in
set_option maxHeartbeats 2000000 in
theorem get_uni (rb b : Nat) (hrb : rb ≠ b) (s : ByteArray) (a : Nat) (ha : a ≤ s.size) (hs : s.size ≤ 4611686018427387903) (f : Fr) (rv : Value) (w : World) (hR : RdAt w rb s a) (hA : FrAt w b f rv) :
    Calls Tryd.prog 75 #[.pointer (some ⟨rb, 0, none⟩), .pointer (some ⟨b, 0, none⟩)] w (GetPost .uni rb b s a f rv w) := by
  have HA := Lib.hid hA
  unfold GetPost
  by_cases h0 : a = s.size
  · have hl : s.data.toList.drop a = [] := List.drop_eq_nil_of_le (by rw [size_list]; omega)
    have hg : getP .uni f (s.data.toList.drop a) = none := by rw [hl]; rfl
    rw [hg]
    have ht := fun ww hh => take_none rb s a 1 ha (by omega) hs ww hh
    simp only [MAL] at ht ⊢
    clear hg hl
    go_enter Tryd.func75, Tryd.ntmps75
    go_wp2_with fail
    refine (ht _ hR).mono ?_
    rintro e w4 ⟨rfl, ho4⟩
    exact ⟨rfl, ho4.mono (by simp), rfl⟩
  · have h1 : a < s.size := by omega
    obtain ⟨x, hx⟩ : ∃ x : UInt8, s[a] = x := ⟨_, rfl⟩
    have hl : s.data.toList.drop a = x :: s.data.toList.drop (a + 1) := by
      rw [List.drop_eq_getElem_cons (by rw [size_list]; omega), ← get_list s a h1, hx]
    have HX : s.extract a (a + 1) = strB [x] := by rw [ext_list, hl, Nat.add_sub_cancel_left]; rfl
    have hg : getP .uni f (s.data.toList.drop a) = if 1 < x.toNat then none else some ({ f with uni := decide (x.toNat = 1) }, s.data.toList.drop (a + 1)) := by rw [hl]; rfl
    have ht := fun ww hh => take_some rb s a 1 (by omega) hs ww hh
    simp only [HX] at ht
    by_cases k1 : 1 < x.toNat
    · rw [hg, if_pos k1]
      simp only [MAL]
      have hgt := fun ww => gtr_c x ww
      simp only [decide_eq_true k1] at hgt
      clear k1
      clear hg hl
      go_enter Tryd.func75, Tryd.ntmps75
      go_wp2_with fail
      refine (ht _ hR).mono ?_
      rintro e w4 ⟨rfl, hR4, ho4⟩
      have HO := Lib.hid ho4
      clear ho4
      go_wp2_with fail
      exact ⟨rfl, HO.out.mono (by simp), rfl⟩
    · rw [hg, if_neg k1]
      have hgt := fun ww => gtr_c x ww
      simp only [decide_eq_false k1] at hgt
      have HEQ := Lib.hid (eq_one x)
      clear hg k1
      have HL := Lib.hid hl
      clear hl
      go_enter Tryd.func75, Tryd.ntmps75
      go_wp2_with fail
      refine (ht _ hR).mono ?_
      rintro e w4 ⟨rfl, hR4, ho4⟩
      have hA4 := (show At w b 33 _ from HA.out).keep ho4 (by simp; omega)
      have c0 : ∃ u, w4.cell? ⟨b, 7, none⟩ = some u := ⟨_, At.cell hA4 7 rfl⟩
      obtain ⟨u, c0⟩ := c0
      have fr : w4.frozen? ⟨b, 7, none⟩ = false := At.free hA4 7
      have HA4 := Lib.hid hA4
      have HR4 := Lib.hid hR4
      have HO := Lib.hid ho4
      clear hA4 hR4 ho4 ht
      go_wp2_with fail
      go_end0
      exact ⟨(HO.out.mono (by simp)).put (by simp) _, rfl, HA4.out.set 7 _ (by rw [HEQ.out]; rfl), a + 1, by omega, rfl, (show At w4 rb 72 _ from HR4.out).far (by simpa using hrb) _⟩

theorem fld_chal (b : Nat) (w : World) : Calls Tryd.prog 47 #[.pointer (some ⟨b, 0, none⟩)] w fun e w' => e = .returned (.pointer (some ⟨b, 3, none⟩)) ∧ w' = w := by
  go_enter Tryd.func47, Tryd.ntmps47
  go_wp2_with fail
  go_ret
  exact ⟨rfl, rfl⟩
set_option maxRecDepth 100000 in
set_option maxHeartbeats 2000000 in
theorem put_chal (b q1 q2 : Nat) (f : Fr) (rv : Value) (hf : FrWf f) (w : World) (hA : FrAt w b f rv) (h1 : w.cell? ⟨q1, 0, none⟩ = some (.func (.func 47) #[] #[])) (h2 : w.cell? ⟨q2, 0, none⟩ = some (.int .i64 8)) :
    Calls Tryd.prog 71 #[.pointer (some ⟨b, 0, none⟩), .pointer (some ⟨q1, 0, none⟩), .pointer (some ⟨q2, 0, none⟩)] w fun e w' => e = strE (putP .chal f) ∧ Only [] w w' := by
  have c0 : w.cell? ⟨b, 3, none⟩ = some (.string (strB f.S)) := At.cell hA 3 rfl
  have hz : (strB f.S).size = f.S.length := strB_size f.S
  clear hA hf
  by_cases k1 : f.S.length = 8
  · have HP : Hid (strE (putP .chal f) = .returned (.string (strB f.S))) := Lib.hid (by simp only [putP]; rw [if_pos k1]; rfl)
    rw [HP.out]
    have k1b : ((f.S.length : Int) != 8) = false := by rw [k1]; rfl
    have k1c : ((f.S.length : Int) == 8) = true := by rw [k1]; rfl
    clear k1
    go_enter Tryd.func71, Tryd.ntmps71
    go_wp2_with fail
    go_quiet (first | (go_at_call 47; refine Calls.quiet_of_same (fld_chal b _)))
    go_wp2_with fail
    refine (fld_chal b _).mono ?_
    rintro e w2 ⟨rfl, rfl⟩
    go_wp2_with fail
    go_ret
    exact ⟨rfl, (Only.refl [] w).drewN _⟩
  · have HP : Hid (strE (putP .chal f) = MAL) := Lib.hid (by simp only [putP]; rw [if_neg k1]; rfl)
    rw [HP.out]
    simp only [MAL]
    have k1c : ((f.S.length : Int) == 8) = false := beq_eq_false_iff_ne.2 (by omega)
    have k1b : ((f.S.length : Int) != 8) = true := by simp only [bne, k1c, Bool.not_false]
    clear k1
    go_enter Tryd.func71, Tryd.ntmps71
    go_wp2_with fail
    go_quiet (first | (go_at_call 47; refine Calls.quiet_of_same (fld_chal b _)))
    go_wp2_with fail
    exact ⟨rfl, rfl, (Only.refl [] w).drewN _⟩
set_option maxRecDepth 100000 in
set_option maxHeartbeats 2000000 in
theorem clr_chal (b q1 : Nat) (f : Fr) (rv : Value) (w : World) (hA : FrAt w b f rv) (h1 : w.cell? ⟨q1, 0, none⟩ = some (.func (.func 47) #[] #[])) :
    Calls Tryd.prog 73 #[.pointer (some ⟨b, 0, none⟩), .pointer (some ⟨q1, 0, none⟩)] w fun e w' => e = .returned (.tuple #[]) ∧ FrAt w' b { f with S := [] } rv ∧ Only [b] w w' := by
  have c0 : ∃ u, w.cell? ⟨b, 3, none⟩ = some u := ⟨_, At.cell hA 3 rfl⟩
  obtain ⟨u, c0⟩ := c0
  have fr : w.frozen? ⟨b, 3, none⟩ = false := At.free hA 3
  have HA := Lib.hid hA
  clear hA
  go_enter Tryd.func73, Tryd.ntmps73
  go_wp2_with fail
  refine (fld_chal b _).mono ?_
  rintro e w2 ⟨rfl, rfl⟩
  go_wp2_with fail
  go_end0
  exact ⟨rfl, (show At _ b 33 _ from HA.out).set 3 _ rfl, (Only.refl [b] _).put (by simp) _⟩
set_option maxRecDepth 100000 in
set_option maxHeartbeats 2000000 in
theorem get_chal (rb b q1 q2 : Nat) (hrb : rb ≠ b) (hq : q1 ≠ rb ∧ q1 ≠ b ∧ q2 ≠ rb ∧ q2 ≠ b) (s : ByteArray) (a : Nat) (ha : a ≤ s.size) (hs : s.size ≤ 4611686018427387903) (f : Fr) (rv : Value) (w : World) (hR : RdAt w rb s a) (hA : FrAt w b f rv) (h1 : w.cell? ⟨q1, 0, none⟩ = some (.func (.func 47) #[] #[])) (h2 : w.cell? ⟨q2, 0, none⟩ = some (.int .i64 8)) :
    Calls Tryd.prog 72 #[.pointer (some ⟨rb, 0, none⟩), .pointer (some ⟨b, 0, none⟩), .pointer (some ⟨q2, 0, none⟩), .pointer (some ⟨q1, 0, none⟩)] w (GetPost .chal rb b s a f rv w) := by
  have c1 : w.drew.cell? ⟨q1, 0, none⟩ = some (.func (.func 47) #[] #[]) := h1
  have c2 : w.drew.cell? ⟨q2, 0, none⟩ = some (.int .i64 8) := h2
  have HA : Hid (FrAt w.drew b f rv) := Lib.hid hA
  have HR : Hid (RdAt w.drew rb s a) := Lib.hid hR
  have hdl := drop_len s a
  unfold GetPost
  simp only [getP]
  by_cases hn : (s.data.toList.drop a).length < 8
  · rw [if_pos hn]
    have ht := fun ww hh => take_none rb s a 8 ha (by omega) hs ww hh
    simp only [MAL] at ht ⊢
    clear hn hA hR hdl
    go_enter Tryd.func72, Tryd.ntmps72
    go_wp2_with fail
    refine wp_region_held_drew (S := fun w' => w'.cell? ⟨q1, 0, none⟩ = some (.func (.func 47) #[] #[]) ∧ w'.cell? ⟨q2, 0, none⟩ = some (.int .i64 8)) (by kernel_rfl) (by exact ⟨c1, c2⟩) (fun hHeld => ?_)
    refine wpAnyH_take (i := 0) (v := ?_) rfl (by kernel_rfl) (by kernel_rfl) (by kernel_rfl) (fun _ _ _ h => h) (Or.inl ⟨by kernel_rfl, ?_⟩) (by assumption) ?_
    rotate_left
    · intro wS hSw
      try dsimp only at hSw
      go_simp
      try with_reducible rfl
    simp only [List.getElem_toArray, List.getElem_cons_succ, List.getElem_cons_zero, Act.put, List.setIfInBounds_toArray, List.set_cons_zero, List.set_cons_succ]
    refine wpAnyH_take (i := 1) (v := ?_) rfl (by kernel_rfl) (by kernel_rfl) (by kernel_rfl) (fun _ _ _ h => h) (Or.inl ⟨by kernel_rfl, ?_⟩) (by assumption) ?_
    rotate_left
    · intro wS hSw
      try dsimp only at hSw
      go_simp
      try with_reducible rfl
    simp only [List.getElem_toArray, List.getElem_cons_succ, List.getElem_cons_zero, Act.put, List.setIfInBounds_toArray, List.set_cons_zero, List.set_cons_succ]
    refine wpAnyH_take (i := 3) (v := ?_) rfl (by kernel_rfl) (by kernel_rfl) (by kernel_rfl) (fun _ _ _ h => h) (Or.inl ⟨by kernel_rfl, ?_⟩) (by assumption) ?_
    rotate_left
    · intro wS hSw
      try dsimp only at hSw
      go_simp
      try with_reducible rfl
    simp only [List.getElem_toArray, List.getElem_cons_succ, List.getElem_cons_zero, Act.put, List.setIfInBounds_toArray, List.set_cons_zero, List.set_cons_succ]
    refine wpAnyH_take (i := 4) (v := ?_) rfl (by kernel_rfl) (by kernel_rfl) (by kernel_rfl) (fun _ _ _ h => h) (Or.inl ⟨by kernel_rfl, ?_⟩) (by assumption) ?_
    rotate_left
    · intro wS hSw
      try dsimp only at hSw
      go_simp
      try with_reducible rfl
    simp only [List.getElem_toArray, List.getElem_cons_succ, List.getElem_cons_zero, Act.put, List.setIfInBounds_toArray, List.set_cons_zero, List.set_cons_succ]
    refine wpAnyH_ready (rs := [2]) (by kernel_rfl) (by simp) ?_
    refine AllReadyH.cons rfl (fun K hK => ?_) AllReadyH.nil
    go_simp
    refine (fld_chal b _).mono ?_
    rintro e w' ⟨rfl, rfl⟩
    refine hK.out _ _ (by exact hHeld) (fun hHeld' => ?_)
    clear hHeld hK K
    have hHeld := hHeld'
    clear hHeld'
    refine wpAnyH_ready (rs := [5]) (by kernel_rfl) (by simp) ?_
    refine AllReadyH.cons rfl (fun K hK => ?_) AllReadyH.nil
    go_simp
    refine (ht _ HR.out).mono ?_
    rintro e w2 ⟨rfl, ho⟩
    exact ⟨rfl, (clr_only ho).mono (by simp), rfl⟩
  · rw [if_neg hn]
    have ht := fun ww hh => take_some rb s a 8 (by omega) hs ww hh
    have HX : Hid (s.extract a (a + 8) = strB ((s.data.toList.drop a).take 8)) := Lib.hid (by rw [ext_list, Nat.add_sub_cancel_left])
    have HY : Hid ((s.data.toList.drop a).drop 8 = s.data.toList.drop (a + 8)) := Lib.hid (by rw [List.drop_drop])
    have hle : a + 8 ≤ s.size := by omega
    clear hn hA hR hdl
    go_enter Tryd.func72, Tryd.ntmps72
    go_wp2_with fail
    refine wp_region_held_drew (S := fun w' => w'.cell? ⟨q1, 0, none⟩ = some (.func (.func 47) #[] #[]) ∧ w'.cell? ⟨q2, 0, none⟩ = some (.int .i64 8)) (by kernel_rfl) (by exact ⟨c1, c2⟩) (fun hHeld => ?_)
    refine wpAnyH_take (i := 0) (v := ?_) rfl (by kernel_rfl) (by kernel_rfl) (by kernel_rfl) (fun _ _ _ h => h) (Or.inl ⟨by kernel_rfl, ?_⟩) (by assumption) ?_
    rotate_left
    · intro wS hSw
      try dsimp only at hSw
      go_simp
      try with_reducible rfl
    simp only [List.getElem_toArray, List.getElem_cons_succ, List.getElem_cons_zero, Act.put, List.setIfInBounds_toArray, List.set_cons_zero, List.set_cons_succ]
    refine wpAnyH_take (i := 1) (v := ?_) rfl (by kernel_rfl) (by kernel_rfl) (by kernel_rfl) (fun _ _ _ h => h) (Or.inl ⟨by kernel_rfl, ?_⟩) (by assumption) ?_
    rotate_left
    · intro wS hSw
      try dsimp only at hSw
      go_simp
      try with_reducible rfl
    simp only [List.getElem_toArray, List.getElem_cons_succ, List.getElem_cons_zero, Act.put, List.setIfInBounds_toArray, List.set_cons_zero, List.set_cons_succ]
    refine wpAnyH_take (i := 3) (v := ?_) rfl (by kernel_rfl) (by kernel_rfl) (by kernel_rfl) (fun _ _ _ h => h) (Or.inl ⟨by kernel_rfl, ?_⟩) (by assumption) ?_
    rotate_left
    · intro wS hSw
      try dsimp only at hSw
      go_simp
      try with_reducible rfl
    simp only [List.getElem_toArray, List.getElem_cons_succ, List.getElem_cons_zero, Act.put, List.setIfInBounds_toArray, List.set_cons_zero, List.set_cons_succ]
    refine wpAnyH_take (i := 4) (v := ?_) rfl (by kernel_rfl) (by kernel_rfl) (by kernel_rfl) (fun _ _ _ h => h) (Or.inl ⟨by kernel_rfl, ?_⟩) (by assumption) ?_
    rotate_left
    · intro wS hSw
      try dsimp only at hSw
      go_simp
      try with_reducible rfl
    simp only [List.getElem_toArray, List.getElem_cons_succ, List.getElem_cons_zero, Act.put, List.setIfInBounds_toArray, List.set_cons_zero, List.set_cons_succ]
    refine wpAnyH_ready (rs := [2]) (by kernel_rfl) (by simp) ?_
    refine AllReadyH.cons rfl (fun K hK => ?_) AllReadyH.nil
    go_simp
    refine (fld_chal b _).mono ?_
    rintro e w' ⟨rfl, rfl⟩
    refine hK.out _ _ (by exact hHeld) (fun hHeld' => ?_)
    clear hHeld hK K
    have hHeld := hHeld'
    clear hHeld'
    refine wpAnyH_ready (rs := [5]) (by kernel_rfl) (by simp) ?_
    refine AllReadyH.cons rfl (fun K hK => ?_) AllReadyH.nil
    go_simp
    refine (ht _ HR.out).mono ?_
    rintro e w4 ⟨rfl, hR4, ho4⟩
    have hA4 := (show At w.drew b 33 _ from HA.out).keep ho4 (by simp; omega)
    have c0 : ∃ u, w4.cell? ⟨b, 3, none⟩ = some u := ⟨_, At.cell hA4 3 rfl⟩
    obtain ⟨u, c0⟩ := c0
    have fr : w4.frozen? ⟨b, 3, none⟩ = false := At.free hA4 3
    have d1 := (ho4.cell (p := ⟨q1, 0, none⟩) (World.block_lt_of_cell? _ _ c1) (by simp; omega)).trans c1
    have d2 := (ho4.cell (p := ⟨q2, 0, none⟩) (World.block_lt_of_cell? _ _ c2) (by simp; omega)).trans c2
    refine hK.out _ _ (by exact ⟨d1, d2⟩) (fun hHeld' => ?_)
    clear hHeld hK K
    have hHeld := hHeld'
    clear hHeld'
    have HA4 := Lib.hid hA4
    have HR4 := Lib.hid hR4
    have HO := Lib.hid ho4
    clear hA4 hR4 ho4 ht
    refine wpAnyH_take (i := 6) (v := ?_) rfl (by kernel_rfl) (by kernel_rfl) (by kernel_rfl) (fun _ _ _ h => h) (Or.inl ⟨by kernel_rfl, ?_⟩) (by assumption) ?_
    rotate_left
    · intro wS hSw
      try dsimp only at hSw
      go_simp
      try with_reducible rfl
    simp only [List.getElem_toArray, List.getElem_cons_succ, List.getElem_cons_zero, Act.put, List.setIfInBounds_toArray, List.set_cons_zero, List.set_cons_succ]
    refine wpAnyH_ready (rs := [7]) (by kernel_rfl) (by simp) ?_
    refine AllReadyH.cons rfl (fun K hK => ?_) AllReadyH.nil
    go_simp
    refine hK.out _ _ (by exact ⟨(World.cell?_setCell_far _ _ _ _ (by simp; omega)).trans d1, (World.cell?_setCell_far _ _ _ _ (by simp; omega)).trans d2⟩) (fun hHeld' => ?_)
    clear hHeld hK K
    refine wpAnyH_done (by kernel_rfl) ?_ _
    go_wp2_with fail
    go_end0
    refine ⟨((clr_only HO.out).mono (by simp)).put (by simp) _, rfl, HA4.out.set 3 _ ?_, a + 8, hle, HY.out, (show At w4 rb 72 _ from HR4.out).far (by simpa using hrb) _⟩
    rw [HX.out]; rfl

theorem fld_cidp (b : Nat) (w : World) : Calls Tryd.prog 48 #[.pointer (some ⟨b, 0, none⟩)] w fun e w' => e = .returned (.pointer (some ⟨b, 12, none⟩)) ∧ w' = w := by
  go_enter Tryd.func48, Tryd.ntmps48
  go_wp2_with fail
  go_ret
  exact ⟨rfl, rfl⟩
set_option maxRecDepth 100000 in
set_option maxHeartbeats 2000000 in
theorem put_cidp (b q1 q2 : Nat) (f : Fr) (rv : Value) (hf : FrWf f) (w : World) (hA : FrAt w b f rv) (h1 : w.cell? ⟨q1, 0, none⟩ = some (.func (.func 48) #[] #[])) (h2 : w.cell? ⟨q2, 0, none⟩ = some (.int .i64 8)) :
    Calls Tryd.prog 71 #[.pointer (some ⟨b, 0, none⟩), .pointer (some ⟨q1, 0, none⟩), .pointer (some ⟨q2, 0, none⟩)] w fun e w' => e = strE (putP .cidp f) ∧ Only [] w w' := by
  have c0 : w.cell? ⟨b, 12, none⟩ = some (.string (strB f.cid)) := At.cell hA 12 rfl
  have hz : (strB f.cid).size = f.cid.length := strB_size f.cid
  clear hA hf
  by_cases k1 : f.cid.length = 8
  · have HP : Hid (strE (putP .cidp f) = .returned (.string (strB f.cid))) := Lib.hid (by simp only [putP]; rw [if_pos k1]; rfl)
    rw [HP.out]
    have k1b : ((f.cid.length : Int) != 8) = false := by rw [k1]; rfl
    have k1c : ((f.cid.length : Int) == 8) = true := by rw [k1]; rfl
    clear k1
    go_enter Tryd.func71, Tryd.ntmps71
    go_wp2_with fail
    go_quiet (first | (go_at_call 48; refine Calls.quiet_of_same (fld_cidp b _)))
    go_wp2_with fail
    refine (fld_cidp b _).mono ?_
    rintro e w2 ⟨rfl, rfl⟩
    go_wp2_with fail
    go_ret
    exact ⟨rfl, (Only.refl [] w).drewN _⟩
  · have HP : Hid (strE (putP .cidp f) = MAL) := Lib.hid (by simp only [putP]; rw [if_neg k1]; rfl)
    rw [HP.out]
    simp only [MAL]
    have k1c : ((f.cid.length : Int) == 8) = false := beq_eq_false_iff_ne.2 (by omega)
    have k1b : ((f.cid.length : Int) != 8) = true := by simp only [bne, k1c, Bool.not_false]
    clear k1
    go_enter Tryd.func71, Tryd.ntmps71
    go_wp2_with fail
    go_quiet (first | (go_at_call 48; refine Calls.quiet_of_same (fld_cidp b _)))
    go_wp2_with fail
    exact ⟨rfl, rfl, (Only.refl [] w).drewN _⟩
set_option maxRecDepth 100000 in
set_option maxHeartbeats 2000000 in
theorem clr_cidp (b q1 : Nat) (f : Fr) (rv : Value) (w : World) (hA : FrAt w b f rv) (h1 : w.cell? ⟨q1, 0, none⟩ = some (.func (.func 48) #[] #[])) :
    Calls Tryd.prog 73 #[.pointer (some ⟨b, 0, none⟩), .pointer (some ⟨q1, 0, none⟩)] w fun e w' => e = .returned (.tuple #[]) ∧ FrAt w' b { f with cid := [] } rv ∧ Only [b] w w' := by
  have c0 : ∃ u, w.cell? ⟨b, 12, none⟩ = some u := ⟨_, At.cell hA 12 rfl⟩
  obtain ⟨u, c0⟩ := c0
  have fr : w.frozen? ⟨b, 12, none⟩ = false := At.free hA 12
  have HA := Lib.hid hA
  clear hA
  go_enter Tryd.func73, Tryd.ntmps73
  go_wp2_with fail
  refine (fld_cidp b _).mono ?_
  rintro e w2 ⟨rfl, rfl⟩
  go_wp2_with fail
  go_end0
  exact ⟨rfl, (show At _ b 33 _ from HA.out).set 12 _ rfl, (Only.refl [b] _).put (by simp) _⟩
set_option maxRecDepth 100000 in
set_option maxHeartbeats 2000000 in
theorem get_cidp (rb b q1 q2 : Nat) (hrb : rb ≠ b) (hq : q1 ≠ rb ∧ q1 ≠ b ∧ q2 ≠ rb ∧ q2 ≠ b) (s : ByteArray) (a : Nat) (ha : a ≤ s.size) (hs : s.size ≤ 4611686018427387903) (f : Fr) (rv : Value) (w : World) (hR : RdAt w rb s a) (hA : FrAt w b f rv) (h1 : w.cell? ⟨q1, 0, none⟩ = some (.func (.func 48) #[] #[])) (h2 : w.cell? ⟨q2, 0, none⟩ = some (.int .i64 8)) :
    Calls Tryd.prog 72 #[.pointer (some ⟨rb, 0, none⟩), .pointer (some ⟨b, 0, none⟩), .pointer (some ⟨q2, 0, none⟩), .pointer (some ⟨q1, 0, none⟩)] w (GetPost .cidp rb b s a f rv w) := by
  have c1 : w.drew.cell? ⟨q1, 0, none⟩ = some (.func (.func 48) #[] #[]) := h1
  have c2 : w.drew.cell? ⟨q2, 0, none⟩ = some (.int .i64 8) := h2
  have HA : Hid (FrAt w.drew b f rv) := Lib.hid hA
  have HR : Hid (RdAt w.drew rb s a) := Lib.hid hR
  have hdl := drop_len s a
  unfold GetPost
  simp only [getP]
  by_cases hn : (s.data.toList.drop a).length < 8
  · rw [if_pos hn]
    have ht := fun ww hh => take_none rb s a 8 ha (by omega) hs ww hh
    simp only [MAL] at ht ⊢
    clear hn hA hR hdl
    go_enter Tryd.func72, Tryd.ntmps72
    go_wp2_with fail
    refine wp_region_held_drew (S := fun w' => w'.cell? ⟨q1, 0, none⟩ = some (.func (.func 48) #[] #[]) ∧ w'.cell? ⟨q2, 0, none⟩ = some (.int .i64 8)) (by kernel_rfl) (by exact ⟨c1, c2⟩) (fun hHeld => ?_)
    refine wpAnyH_take (i := 0) (v := ?_) rfl (by kernel_rfl) (by kernel_rfl) (by kernel_rfl) (fun _ _ _ h => h) (Or.inl ⟨by kernel_rfl, ?_⟩) (by assumption) ?_
    rotate_left
    · intro wS hSw
      try dsimp only at hSw
      go_simp
      try with_reducible rfl
    simp only [List.getElem_toArray, List.getElem_cons_succ, List.getElem_cons_zero, Act.put, List.setIfInBounds_toArray, List.set_cons_zero, List.set_cons_succ]
    refine wpAnyH_take (i := 1) (v := ?_) rfl (by kernel_rfl) (by kernel_rfl) (by kernel_rfl) (fun _ _ _ h => h) (Or.inl ⟨by kernel_rfl, ?_⟩) (by assumption) ?_
    rotate_left
    · intro wS hSw
      try dsimp only at hSw
      go_simp
      try with_reducible rfl
    simp only [List.getElem_toArray, List.getElem_cons_succ, List.getElem_cons_zero, Act.put, List.setIfInBounds_toArray, List.set_cons_zero, List.set_cons_succ]
    refine wpAnyH_take (i := 3) (v := ?_) rfl (by kernel_rfl) (by kernel_rfl) (by kernel_rfl) (fun _ _ _ h => h) (Or.inl ⟨by kernel_rfl, ?_⟩) (by assumption) ?_
    rotate_left
    · intro wS hSw
      try dsimp only at hSw
      go_simp
      try with_reducible rfl
    simp only [List.getElem_toArray, List.getElem_cons_succ, List.getElem_cons_zero, Act.put, List.setIfInBounds_toArray, List.set_cons_zero, List.set_cons_succ]
    refine wpAnyH_take (i := 4) (v := ?_) rfl (by kernel_rfl) (by kernel_rfl) (by kernel_rfl) (fun _ _ _ h => h) (Or.inl ⟨by kernel_rfl, ?_⟩) (by assumption) ?_
    rotate_left
    · intro wS hSw
      try dsimp only at hSw
      go_simp
      try with_reducible rfl
    simp only [List.getElem_toArray, List.getElem_cons_succ, List.getElem_cons_zero, Act.put, List.setIfInBounds_toArray, List.set_cons_zero, List.set_cons_succ]
    refine wpAnyH_ready (rs := [2]) (by kernel_rfl) (by simp) ?_
    refine AllReadyH.cons rfl (fun K hK => ?_) AllReadyH.nil
    go_simp
    refine (fld_cidp b _).mono ?_
    rintro e w' ⟨rfl, rfl⟩
    refine hK.out _ _ (by exact hHeld) (fun hHeld' => ?_)
    clear hHeld hK K
    have hHeld := hHeld'
    clear hHeld'
    refine wpAnyH_ready (rs := [5]) (by kernel_rfl) (by simp) ?_
    refine AllReadyH.cons rfl (fun K hK => ?_) AllReadyH.nil
    go_simp
    refine (ht _ HR.out).mono ?_
    rintro e w2 ⟨rfl, ho⟩
    exact ⟨rfl, (clr_only ho).mono (by simp), rfl⟩
  · rw [if_neg hn]
    have ht := fun ww hh => take_some rb s a 8 (by omega) hs ww hh
    have HX : Hid (s.extract a (a + 8) = strB ((s.data.toList.drop a).take 8)) := Lib.hid (by rw [ext_list, Nat.add_sub_cancel_left])
    have HY : Hid ((s.data.toList.drop a).drop 8 = s.data.toList.drop (a + 8)) := Lib.hid (by rw [List.drop_drop])
    have hle : a + 8 ≤ s.size := by omega
    clear hn hA hR hdl
    go_enter Tryd.func72, Tryd.ntmps72
    go_wp2_with fail
    refine wp_region_held_drew (S := fun w' => w'.cell? ⟨q1, 0, none⟩ = some (.func (.func 48) #[] #[]) ∧ w'.cell? ⟨q2, 0, none⟩ = some (.int .i64 8)) (by kernel_rfl) (by exact ⟨c1, c2⟩) (fun hHeld => ?_)
    refine wpAnyH_take (i := 0) (v := ?_) rfl (by kernel_rfl) (by kernel_rfl) (by kernel_rfl) (fun _ _ _ h => h) (Or.inl ⟨by kernel_rfl, ?_⟩) (by assumption) ?_
    rotate_left
    · intro wS hSw
      try dsimp only at hSw
      go_simp
      try with_reducible rfl
    simp only [List.getElem_toArray, List.getElem_cons_succ, List.getElem_cons_zero, Act.put, List.setIfInBounds_toArray, List.set_cons_zero, List.set_cons_succ]
    refine wpAnyH_take (i := 1) (v := ?_) rfl (by kernel_rfl) (by kernel_rfl) (by kernel_rfl) (fun _ _ _ h => h) (Or.inl ⟨by kernel_rfl, ?_⟩) (by assumption) ?_
    rotate_left
    · intro wS hSw
      try dsimp only at hSw
      go_simp
      try with_reducible rfl
    simp only [List.getElem_toArray, List.getElem_cons_succ, List.getElem_cons_zero, Act.put, List.setIfInBounds_toArray, List.set_cons_zero, List.set_cons_succ]
    refine wpAnyH_take (i := 3) (v := ?_) rfl (by kernel_rfl) (by kernel_rfl) (by kernel_rfl) (fun _ _ _ h => h) (Or.inl ⟨by kernel_rfl, ?_⟩) (by assumption) ?_
    rotate_left
    · intro wS hSw
      try dsimp only at hSw
      go_simp
      try with_reducible rfl
    simp only [List.getElem_toArray, List.getElem_cons_succ, List.getElem_cons_zero, Act.put, List.setIfInBounds_toArray, List.set_cons_zero, List.set_cons_succ]
    refine wpAnyH_take (i := 4) (v := ?_) rfl (by kernel_rfl) (by kernel_rfl) (by kernel_rfl) (fun _ _ _ h => h) (Or.inl ⟨by kernel_rfl, ?_⟩) (by assumption) ?_
    rotate_left
    · intro wS hSw
      try dsimp only at hSw
      go_simp
      try with_reducible rfl
    simp only [List.getElem_toArray, List.getElem_cons_succ, List.getElem_cons_zero, Act.put, List.setIfInBounds_toArray, List.set_cons_zero, List.set_cons_succ]
    refine wpAnyH_ready (rs := [2]) (by kernel_rfl) (by simp) ?_
    refine AllReadyH.cons rfl (fun K hK => ?_) AllReadyH.nil
    go_simp
    refine (fld_cidp b _).mono ?_
    rintro e w' ⟨rfl, rfl⟩
    refine hK.out _ _ (by exact hHeld) (fun hHeld' => ?_)
    clear hHeld hK K
    have hHeld := hHeld'
    clear hHeld'
    refine wpAnyH_ready (rs := [5]) (by kernel_rfl) (by simp) ?_
    refine AllReadyH.cons rfl (fun K hK => ?_) AllReadyH.nil
    go_simp
    refine (ht _ HR.out).mono ?_
    rintro e w4 ⟨rfl, hR4, ho4⟩
    have hA4 := (show At w.drew b 33 _ from HA.out).keep ho4 (by simp; omega)
    have c0 : ∃ u, w4.cell? ⟨b, 12, none⟩ = some u := ⟨_, At.cell hA4 12 rfl⟩
    obtain ⟨u, c0⟩ := c0
    have fr : w4.frozen? ⟨b, 12, none⟩ = false := At.free hA4 12
    have d1 := (ho4.cell (p := ⟨q1, 0, none⟩) (World.block_lt_of_cell? _ _ c1) (by simp; omega)).trans c1
    have d2 := (ho4.cell (p := ⟨q2, 0, none⟩) (World.block_lt_of_cell? _ _ c2) (by simp; omega)).trans c2
    refine hK.out _ _ (by exact ⟨d1, d2⟩) (fun hHeld' => ?_)
    clear hHeld hK K
    have hHeld := hHeld'
    clear hHeld'
    have HA4 := Lib.hid hA4
    have HR4 := Lib.hid hR4
    have HO := Lib.hid ho4
    clear hA4 hR4 ho4 ht
    refine wpAnyH_take (i := 6) (v := ?_) rfl (by kernel_rfl) (by kernel_rfl) (by kernel_rfl) (fun _ _ _ h => h) (Or.inl ⟨by kernel_rfl, ?_⟩) (by assumption) ?_
    rotate_left
    · intro wS hSw
      try dsimp only at hSw
      go_simp
      try with_reducible rfl
    simp only [List.getElem_toArray, List.getElem_cons_succ, List.getElem_cons_zero, Act.put, List.setIfInBounds_toArray, List.set_cons_zero, List.set_cons_succ]
    refine wpAnyH_ready (rs := [7]) (by kernel_rfl) (by simp) ?_
    refine AllReadyH.cons rfl (fun K hK => ?_) AllReadyH.nil
    go_simp
    refine hK.out _ _ (by exact ⟨(World.cell?_setCell_far _ _ _ _ (by simp; omega)).trans d1, (World.cell?_setCell_far _ _ _ _ (by simp; omega)).trans d2⟩) (fun hHeld' => ?_)
    clear hHeld hK K
    refine wpAnyH_done (by kernel_rfl) ?_ _
    go_wp2_with fail
    go_end0
    refine ⟨((clr_only HO.out).mono (by simp)).put (by simp) _, rfl, HA4.out.set 12 _ ?_, a + 8, hle, HY.out, (show At w4 rb 72 _ from HR4.out).far (by simpa using hrb) _⟩
    rw [HX.out]; rfl
end Go.Proofs.YtgiekhohhogdiaaDoor
