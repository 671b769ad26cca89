/- The walk of FrameUnique. -/
import Derived.Test.YtmmgmpghkpbgkaaFtS
import Derived.Test.YtmmgmpghkpbgkaaArE
import Derived.Test.YtmmgmpghkpbgkaaFuC
import Derived.Deep.LoopGhost
import Derived.Deep.CutRange
namespace Go.Proofs.Ytmmgmpghkpbgkaa
open Go Go.RowKit
set_option linter.unusedVariables false
set_option linter.unusedSimpArgs false

/-- What Decode answers of any bytes. -/
def UqQ (U : ByteArray) (w : World) (e : Ending) (w' : World) : Prop := (e = .returned (.tuple #[.agg #[.int .i64 0, .int .i64 0, .int .i64 0, .string ⟨#[]⟩, .bool false, .int .i64 0, .int .i64 0, .bool false, .int .i64 0, .slice none 0 0, .int .i64 0, .int .i64 0, .string ⟨#[]⟩], .int .i64 0, .int .i64 90]) ∧ Only [] w w') ∨
  ∃ (f : Fr) (ra : Option Addr) (rc : Nat) (s : List UInt8) (n : Nat), e = .returned (.tuple #[.agg #[.int .i64 f.ty, .int .i64 f.st, .int .i64 f.off, .string (strB f.S), .bool f.fin, .int .i64 f.mx, .int .i64 f.cd, .bool f.uni, .int .i64 f.dl, .slice ra f.rg.length rc, .int .i64 f.sq, .int .i64 f.rt, .string (strB f.cid)], .int .i64 n, .int .i64 0]) ∧ FrOk w' f (.slice ra f.rg.length rc) ∧ encF f = some s ∧ n ≤ U.size ∧ U.extract 0 n = strB s ∧ Only [] w w'
theorem uq (U : ByteArray) (hU : U.size ≤ 100000) (w : World) : Calls Try.prog 18 #[.string U, .int .i64 0] w (UqQ U w) := by
  refine (dec_any U (by omega) w).mono fun e w' ⟨h1, h2⟩ => ?_
  cases hd : decF U.data.toList with
  | none => rw [hd] at h2; exact .inl ⟨h2, h1⟩
  | some p =>
    obtain ⟨f, r⟩ := p
    rw [hd] at h2
    obtain ⟨rv, n, he, hok, _, hn, hr⟩ := h2
    obtain ⟨s, hs, hl, _⟩ := enc_dec hd
    obtain ⟨ra, rc, rfl, hx⟩ := hok.rg
    refine .inr ⟨f, ra, rc, s, n, he, ⟨hok.wf, hok.ty, ⟨ra, rc, rfl, hx⟩, hok.sz⟩, hs, hn, ?_, h1⟩
    rw [ext_list, List.drop_zero, Nat.sub_zero]
    congr 1
    have h3 : U.data.toList.take n ++ U.data.toList.drop n = s ++ r := by rw [List.take_append_drop, hl]
    rw [hr] at h3
    exact List.append_cancel_right h3
def UqRel (w : World) (gk : Nat) (ix : Value) (wr : World) : Prop := ∃ k : Nat, gk = 2 - k ∧ k ≤ 2 ∧ ix = .int .i64 k ∧ Hid (Only [] w wr)
set_option maxRecDepth 100000 in
set_option maxHeartbeats 8000000 in
theorem unique_walk (u : ByteArray) (ty A B C : Int) (s : ByteArray) (fin : Bool) (sv : Value) (SL : List (Int × Int)) (a2 a3 : Int) (w : World) (wu : u.size ≤ maxLen) (hF : FpOk ty A B C s) (hS : RgAt w sv SL) (w2 : (Lit.int .i64 a2).wf = true) (w3 : (Lit.int .u8 a3).wf = true) :
    Calls Try.prog 6 #[.string u, .agg (fpC ty A B C s fin sv), .int .i64 a2, .int .u8 a3] w fun e w' => e = .returned (.bool true) ∧ Below w.heap.size w w' := by
  unfold maxLen at wu
  obtain ⟨l2, u2⟩ := wf_i64 w2
  obtain ⟨l3, u3⟩ := wf_u8 w3
  obtain ⟨x, rfl⟩ : ∃ x : UInt8, a3 = x.toNat := ⟨UInt8.ofNat a3.toNat, by simp; omega⟩
  clear w2 w3 l3 u3
  obtain ⟨sa, sc, rfl, hsx⟩ := hS
  have HS : Hid (RgAt w (.slice sa SL.length sc) SL) := Lib.hid ⟨sa, sc, rfl, hsx⟩
  have hff := fun ww hh => frameFrom_c ty A B C s fin (.slice sa SL.length sc) SL ww hh hF
  clear hsx hF
  simp only [fpC] at hff ⊢
  have HO := Lib.hid (Only.refl [] w)
  have em1 : min (u.size : Int) 200 = ((min u.size 200 : Nat) : Int) := by omega
  have ex1 : u.extract 0 (min u.size 200) = strB (u.data.toList.take 200) := take_str u 200 _ rfl
  have zU : (strB (u.data.toList.take 200)).size ≤ 100000 := by rw [strB_size, List.length_take]; omega
  generalize strB (u.data.toList.take 200) = U0 at ex1 zU
  go_enter Try.func6, Try.ntmps6
  go_upto_region 1 with fail
  have hx := At.new w 46 #[.int .i64 ty, .int .i64 A, .int .i64 B, .int .i64 C, .string s, .bool fin, .slice sa SL.length sc]
  replace HO := Lib.hid (HO.out.alloc (.cells #[.int .i64 ty, .int .i64 A, .int .i64 B, .int .i64 C, .string s, .bool fin, .slice sa SL.length sc] 46))
  have hszA : (w.alloc (.cells #[.int .i64 ty, .int .i64 A, .int .i64 B, .int .i64 C, .string s, .bool fin, .slice sa SL.length sc] 46)).heap.size = w.heap.size + 1 := by simp
  generalize w.alloc (.cells #[.int .i64 ty, .int .i64 A, .int .i64 B, .int .i64 C, .string s, .bool fin, .slice sa SL.length sc] 46) = v1 at hx hszA HO ⊢
  generalize w.heap.size = pa at hx hszA  ⊢
  have HA := Lib.hid hx
  clear hx
  have HbA := Lib.hid (Only.refl [] v1)
  go_wp2_with fail
  refine (sane9 _).mono ?_
  rintro e v2 ⟨rfl, ho⟩
  replace HO := Lib.hid (HO.out.trans ho)
  replace HbA := Lib.hid (HbA.out.trans ho)
  clear ho
  have Ax0 : v2.cell? ⟨pa, 0, none⟩ = some (.int .i64 ty) := (HA.out.keep HbA.out (by simp)).cell 0 rfl
  have Ax1 : v2.cell? ⟨pa, 1, none⟩ = some (.int .i64 A) := (HA.out.keep HbA.out (by simp)).cell 1 rfl
  have Ax2 : v2.cell? ⟨pa, 2, none⟩ = some (.int .i64 B) := (HA.out.keep HbA.out (by simp)).cell 2 rfl
  have Ax3 : v2.cell? ⟨pa, 3, none⟩ = some (.int .i64 C) := (HA.out.keep HbA.out (by simp)).cell 3 rfl
  have Ax4 : v2.cell? ⟨pa, 4, none⟩ = some (.string s) := (HA.out.keep HbA.out (by simp)).cell 4 rfl
  have Ax5 : v2.cell? ⟨pa, 5, none⟩ = some (.bool fin) := (HA.out.keep HbA.out (by simp)).cell 5 rfl
  have Ax6 : v2.cell? ⟨pa, 6, none⟩ = some (.slice sa SL.length sc) := (HA.out.keep HbA.out (by simp)).cell 6 rfl
  go_wp2_with fail
  refine (hff _ (HS.out.keep HO.out)).mono ?_
  rintro e v3 ⟨g, gv, t, rfl, hok, _, hen, _, ho⟩
  clear Ax0 Ax1 Ax2 Ax3 Ax4 Ax5 Ax6
  replace HO := Lib.hid (HO.out.trans ho)
  replace HbA := Lib.hid (HbA.out.trans ho)
  clear ho
  have hec := fun ww hh => enc_ok g gv ww hh hen
  have HK := Lib.hid hok
  clear hok hff
  go_wp2_with fail
  refine (hec _ HK.out).mono ?_
  rintro e v4 ⟨rfl, ho⟩
  replace HO := Lib.hid (HO.out.trans ho)
  replace HbA := Lib.hid (HbA.out.trans ho)
  clear ho
  have hl := encF_len hen
  have hz : (strB t).size = t.length := strB_size t
  have hpk := fun ww => pk9 a2 (t.length : Int) ww l2 u2 (by omega)
  have hpb := pkZ_bd a2 (t.length : Int) (by omega)
  obtain ⟨n, hn⟩ : ∃ n : Nat, pkZ a2 (t.length : Int) = n := ⟨(pkZ a2 (t.length : Int)).toNat, by omega⟩
  rw [hn] at hpk hpb
  have hne : ((t.length : Int) == 0) = false := beq_eq_false_iff_ne.2 (by omega)
  have hcut : (strB t).extract 0 n = strB (t.take n) := by rw [ext_list, strB_list]; simp
  have hcut2 : (strB t).extract (n + 1) t.length = strB (t.drop (n + 1)) := by
    rw [ext_list, strB_list]
    congr 1
    exact List.take_of_length_le (by rw [List.length_drop]; omega)
  have hn1 : (n : Int) ≤ t.length := by omega
  have hn2 : n ≤ t.length := by omega
  have hn3 : (n : Int) + 1 ≤ t.length := by omega
  have hn4 : n + 1 ≤ t.length := by omega
  have hn5 : (0 : Int) ≤ (n : Int) + 1 := by omega
  have hm1 : min u.size 200 ≤ u.size := by omega
  have hw1 : IntKind.i64.wrap ((n : Int) + 1) = ((n + 1 : Nat) : Int) := by rw [show (n : Int) + 1 = ((n + 1 : Nat) : Int) by omega]; exact IntWalk.i64_in _ (by omega)
  have ha : strB (t.take n) ++ strB [x] = strB (t.take n ++ [x]) := (strB_app _ _).symm
  have hb : strB (t.take n ++ [x]) ++ strB (t.drop (n + 1)) = strB (t.take n ++ [x] ++ t.drop (n + 1)) := (strB_app _ _).symm
  have z1 : (strB (t.take n)).size ≤ 7000 := by rw [strB_size, List.length_take]; omega
  have z2 : (strB [x]).size = 1 := rfl
  have z3 : (strB (t.take n ++ [x])).size ≤ 7001 := by rw [strB_size, List.length_append, List.length_take]; simp; omega
  have z4 : (strB (t.drop (n + 1))).size ≤ 7000 := by rw [strB_size, List.length_drop]; omega
  have z5 : (strB (t.take n ++ [x] ++ t.drop (n + 1))).size ≤ 100000 := by rw [strB_size]; simp only [List.length_append, List.length_take, List.length_drop, List.length_cons, List.length_nil]; omega
  have hcv := fun ww : World => conv_one ww x
  clear hec hn hen hl HK
  generalize strB (t.take n ++ [x] ++ t.drop (n + 1)) = U1 at hb z5
  generalize strB (t.take n ++ [x]) = T3 at ha hb z3
  generalize strB (t.drop (n + 1)) = T2 at hcut2 hb z4
  generalize strB (t.take n) = T1 at hcut ha z1
  generalize strB [x] = TC at ha z2 hcv
  have y1 : ¬ 9223372036854775807 < T1.size + 1 := by omega
  have y2 : ¬ 9223372036854775807 < T3.size + T2.size := by omega
  go_wp2_with fail
  refine (hpk _).mono ?_
  rintro e wx ⟨rfl, rfl⟩
  go_upto_region 6 with fail
  refine wp_region_held_drew (S := fun _ => True) (by kernel_rfl) (by trivial) (fun hHeld => ?_)
  refine wpAnyH_take (i := 0) (v := ?_) rfl (by kernel_rfl) (by kernel_rfl) (by kernel_rfl) (fun _ _ _ h => h) (Or.inl ⟨by kernel_rfl, ?_⟩) (by assumption) ?_
  rotate_left
  · intro wS hSw
    try dsimp only at hSw
    go_simp
    try with_reducible rfl
  simp only [List.getElem_toArray, List.getElem_cons_succ, List.getElem_cons_zero, Act.put, List.setIfInBounds_toArray, List.set_cons_zero, List.set_cons_succ]
  refine wpAnyH_take (i := 1) (v := ?_) rfl (by kernel_rfl) (by kernel_rfl) (by kernel_rfl) (fun _ _ _ h => h) (Or.inl ⟨by kernel_rfl, ?_⟩) (by assumption) ?_
  rotate_left
  · intro wS hSw
    try dsimp only at hSw
    go_simp
    try with_reducible rfl
  simp only [List.getElem_toArray, List.getElem_cons_succ, List.getElem_cons_zero, Act.put, List.setIfInBounds_toArray, List.set_cons_zero, List.set_cons_succ]
  refine wpAnyH_take (i := 2) (v := ?_) rfl (by kernel_rfl) (by kernel_rfl) (by kernel_rfl) (fun _ _ _ h => h) (Or.inl ⟨by kernel_rfl, ?_⟩) (by assumption) ?_
  rotate_left
  · intro wS hSw
    try dsimp only at hSw
    go_simp
    try with_reducible rfl
  simp only [List.getElem_toArray, List.getElem_cons_succ, List.getElem_cons_zero, Act.put, List.setIfInBounds_toArray, List.set_cons_zero, List.set_cons_succ]
  refine wpAnyH_take (i := 3) (v := ?_) rfl (by kernel_rfl) (by kernel_rfl) (by kernel_rfl) (fun _ _ _ h => h) (Or.inl ⟨by kernel_rfl, ?_⟩) (by assumption) ?_
  rotate_left
  · intro wS hSw
    try dsimp only at hSw
    go_simp
    try with_reducible rfl
  simp only [List.getElem_toArray, List.getElem_cons_succ, List.getElem_cons_zero, Act.put, List.setIfInBounds_toArray, List.set_cons_zero, List.set_cons_succ]
  refine wpAnyH_take (i := 4) (v := ?_) rfl (by kernel_rfl) (by kernel_rfl) (by kernel_rfl) (fun _ _ _ h => h) (Or.inl ⟨by kernel_rfl, ?_⟩) (by assumption) ?_
  rotate_left
  · intro wS hSw
    try dsimp only at hSw
    go_simp
    try with_reducible rfl
  simp only [List.getElem_toArray, List.getElem_cons_succ, List.getElem_cons_zero, Act.put, List.setIfInBounds_toArray, List.set_cons_zero, List.set_cons_succ]
  refine wpAnyH_take (i := 5) (v := ?_) rfl (by kernel_rfl) (by kernel_rfl) (by kernel_rfl) (fun _ _ _ h => h) (Or.inl ⟨by kernel_rfl, ?_⟩) (by assumption) ?_
  rotate_left
  · intro wS hSw
    try dsimp only at hSw
    go_simp
    try with_reducible rfl
  simp only [List.getElem_toArray, List.getElem_cons_succ, List.getElem_cons_zero, Act.put, List.setIfInBounds_toArray, List.set_cons_zero, List.set_cons_succ]
  refine wpAnyH_take (i := 6) (v := ?_) rfl (by kernel_rfl) (by kernel_rfl) (by kernel_rfl) (fun _ _ _ h => h) (Or.inl ⟨by kernel_rfl, ?_⟩) (by assumption) ?_
  rotate_left
  · intro wS hSw
    try dsimp only at hSw
    go_simp
    try with_reducible rfl
  simp only [List.getElem_toArray, List.getElem_cons_succ, List.getElem_cons_zero, Act.put, List.setIfInBounds_toArray, List.set_cons_zero, List.set_cons_succ]
  refine wpAnyH_take (i := 7) (v := ?_) rfl (by kernel_rfl) (by kernel_rfl) (by kernel_rfl) (fun _ _ _ h => h) (Or.inl ⟨by kernel_rfl, ?_⟩) (by assumption) ?_
  rotate_left
  · intro wS hSw
    try dsimp only at hSw
    go_simp
    try with_reducible rfl
  simp only [List.getElem_toArray, List.getElem_cons_succ, List.getElem_cons_zero, Act.put, List.setIfInBounds_toArray, List.set_cons_zero, List.set_cons_succ]
  refine wpAnyH_take (i := 8) (v := ?_) rfl (by kernel_rfl) (by kernel_rfl) (by kernel_rfl) (fun _ _ _ h => h) (Or.inl ⟨by kernel_rfl, ?_⟩) (by assumption) ?_
  rotate_left
  · intro wS hSw
    try dsimp only at hSw
    go_simp
    try with_reducible rfl
  simp only [List.getElem_toArray, List.getElem_cons_succ, List.getElem_cons_zero, Act.put, List.setIfInBounds_toArray, List.set_cons_zero, List.set_cons_succ]
  refine wpAnyH_take (i := 12) (v := ?_) rfl (by kernel_rfl) (by kernel_rfl) (by kernel_rfl) (fun _ _ _ h => h) (Or.inl ⟨by kernel_rfl, ?_⟩) (by assumption) ?_
  rotate_left
  · intro wS hSw
    try dsimp only at hSw
    go_simp
    try with_reducible rfl
  simp only [List.getElem_toArray, List.getElem_cons_succ, List.getElem_cons_zero, Act.put, List.setIfInBounds_toArray, List.set_cons_zero, List.set_cons_succ]
  refine wpAnyH_take (i := 13) (v := ?_) rfl (by kernel_rfl) (by kernel_rfl) (by kernel_rfl) (fun _ _ _ h => h) (Or.inl ⟨by kernel_rfl, ?_⟩) (by assumption) ?_
  rotate_left
  · intro wS hSw
    try dsimp only at hSw
    go_simp
    try with_reducible rfl
  simp only [List.getElem_toArray, List.getElem_cons_succ, List.getElem_cons_zero, Act.put, List.setIfInBounds_toArray, List.set_cons_zero, List.set_cons_succ]
  refine wpAnyH_take (i := 14) (v := ?_) rfl (by kernel_rfl) (by kernel_rfl) (by kernel_rfl) (fun _ _ _ h => h) (Or.inl ⟨by kernel_rfl, ?_⟩) (by assumption) ?_
  rotate_left
  · intro wS hSw
    try dsimp only at hSw
    go_simp
    try with_reducible rfl
  simp only [List.getElem_toArray, List.getElem_cons_succ, List.getElem_cons_zero, Act.put, List.setIfInBounds_toArray, List.set_cons_zero, List.set_cons_succ]
  refine wpAnyH_take (i := 15) (v := ?_) rfl (by kernel_rfl) (by kernel_rfl) (by kernel_rfl) (fun _ _ _ h => h) (Or.inl ⟨by kernel_rfl, ?_⟩) (by assumption) ?_
  rotate_left
  · intro wS hSw
    try dsimp only at hSw
    go_simp
    try with_reducible rfl
  simp only [List.getElem_toArray, List.getElem_cons_succ, List.getElem_cons_zero, Act.put, List.setIfInBounds_toArray, List.set_cons_zero, List.set_cons_succ]
  refine wpAnyH_take (i := 19) (v := ?_) rfl (by kernel_rfl) (by kernel_rfl) (by kernel_rfl) (fun _ _ _ h => h) (Or.inl ⟨by kernel_rfl, ?_⟩) (by assumption) ?_
  rotate_left
  · intro wS hSw
    try dsimp only at hSw
    go_simp
    try with_reducible rfl
  simp only [List.getElem_toArray, List.getElem_cons_succ, List.getElem_cons_zero, Act.put, List.setIfInBounds_toArray, List.set_cons_zero, List.set_cons_succ]
  refine wpAnyH_ready (rs := [9]) (by kernel_rfl) (by simp) ?_
  refine AllReadyH.cons rfl (fun K hK => ?_) AllReadyH.nil
  go_simp
  refine hK.out _ _ trivial (fun hHeld' => ?_)
  clear hHeld hK K
  have hHeld := hHeld'
  clear hHeld'
  try simp only [List.getElem_toArray, List.getElem_cons_succ, List.getElem_cons_zero, Act.put, List.setIfInBounds_toArray, List.set_cons_zero, List.set_cons_succ]
  refine wpAnyH_ready (rs := [10]) (by kernel_rfl) (by simp) ?_
  refine AllReadyH.cons rfl (fun K hK => ?_) AllReadyH.nil
  have hcw : (convert 22 9 (.slice (some ⟨v4.heap.size, 0, none⟩) 1 1)).run Try.prog (v4.alloc (.cells #[.int .u8 x.toNat] 5)).drew = .ok (.string TC) (v4.alloc (.cells #[.int .u8 x.toNat] 5)).drew := hcv v4.drew
  go_simp
  refine hK.out _ _ trivial (fun hHeld' => ?_)
  clear hHeld hK K
  have hHeld := hHeld'
  clear hHeld'
  try simp only [List.getElem_toArray, List.getElem_cons_succ, List.getElem_cons_zero, Act.put, List.setIfInBounds_toArray, List.set_cons_zero, List.set_cons_succ]
  refine wpAnyH_take (i := 11) (v := ?_) rfl (by kernel_rfl) (by kernel_rfl) (by kernel_rfl) (fun _ _ _ h => h) (Or.inl ⟨by kernel_rfl, ?_⟩) (by assumption) ?_
  rotate_left
  · intro wS hSw
    try dsimp only at hSw
    go_simp
    try with_reducible rfl
  simp only [List.getElem_toArray, List.getElem_cons_succ, List.getElem_cons_zero, Act.put, List.setIfInBounds_toArray, List.set_cons_zero, List.set_cons_succ]
  refine wpAnyH_take (i := 16) (v := ?_) rfl (by kernel_rfl) (by kernel_rfl) (by kernel_rfl) (fun _ _ _ h => h) (Or.inl ⟨by kernel_rfl, ?_⟩) (by assumption) ?_
  rotate_left
  · intro wS hSw
    try dsimp only at hSw
    go_simp
    try with_reducible rfl
  simp only [List.getElem_toArray, List.getElem_cons_succ, List.getElem_cons_zero, Act.put, List.setIfInBounds_toArray, List.set_cons_zero, List.set_cons_succ]
  refine wpAnyH_ready (rs := [17]) (by kernel_rfl) (by simp) ?_
  refine AllReadyH.cons rfl (fun K hK => ?_) AllReadyH.nil
  go_simp
  refine hK.out _ _ trivial (fun hHeld' => ?_)
  clear hHeld hK K
  have hHeld := hHeld'
  clear hHeld'
  try simp only [List.getElem_toArray, List.getElem_cons_succ, List.getElem_cons_zero, Act.put, List.setIfInBounds_toArray, List.set_cons_zero, List.set_cons_succ]
  refine wpAnyH_take (i := 18) (v := ?_) rfl (by kernel_rfl) (by kernel_rfl) (by kernel_rfl) (fun _ _ _ h => h) (Or.inl ⟨by kernel_rfl, ?_⟩) (by assumption) ?_
  rotate_left
  · intro wS hSw
    try dsimp only at hSw
    go_simp
    try with_reducible rfl
  simp only [List.getElem_toArray, List.getElem_cons_succ, List.getElem_cons_zero, Act.put, List.setIfInBounds_toArray, List.set_cons_zero, List.set_cons_succ]
  refine wpAnyH_done (by kernel_rfl) ?_ _
  have hx := (At.new (v4.alloc (.cells #[.int .u8 x.toNat] 5)) 9 #[.string U0, .string U1]).drew
  rw [World.size_alloc] at hx
  have hO2 := ((HO.out.alloc (.cells #[.int .u8 x.toNat] 5)).alloc (.cells #[.string U0, .string U1] 9)).drew
  clear HO HA HbA hcw
  generalize ((v4.alloc (.cells #[.int .u8 x.toNat] 5)).alloc (.cells #[.string U0, .string U1] 9)).drew = v5 at hx hO2 ⊢
  generalize v4.heap.size + 1 = pr at hx ⊢
  have HR := Lib.hid hx
  have HO := Lib.hid hO2
  clear hx hO2
  have hq0 := fun ww => uq U0 zU ww
  have hq1 := fun ww => uq U1 z5 ww
  clear zU z1 z2 z3 z4 ha hb hcut hcut2 hcv em1 ex1 hpb y1 y2 hHeld
  go_wp2_with fail
  go_loopg [57] 2 (fun gk ix wr => UqRel v5 gk ix wr)
  case atStart => exact ⟨0, rfl, by omega, rfl, Lib.hid (Only.refl [] _)⟩
  case round =>
    obtain ⟨k, rfl, hk, rfl, hO⟩ := hrel
    rcases (show k = 0 ∨ k = 1 ∨ k = 2 by omega) with rfl | rfl | rfl
    · skip
      have HL := hO
      have r0 : wr.cell? ⟨pr, 0, none⟩ = some (.string U0) := (HR.out.keep HL.out (by simp)).cell 0 rfl
      clear hO
      go_wp2_with fail
      refine (hq0 _).mono ?_
      rintro e v101 h
      clear r0 hq0 hq1
      rcases h with ⟨rfl, ho⟩ | ⟨f, ra, rc, sf, m, rfl, hok, hen, hm, hcut, ho⟩
      · as_aux_lemma =>
          replace HL := Lib.hid (HL.out.trans ho)
          clear ho
          go_wp2_with fail
          go_roundg 1
          case measure => omega
          case rel => exact ⟨1, rfl, by omega, rfl, Lib.hid (HL.out.alloc _)⟩
      · as_aux_lemma =>
          replace HL := Lib.hid (HL.out.trans ho)
          clear ho
          have HK := Lib.hid hok
          have hec := fun ww hh => enc_ok f (.slice ra f.rg.length rc) ww hh hen
          have hvl := fun ww hh => val_ok f (.slice ra f.rg.length rc) ww hh hen
          simp only [frC] at hec hvl
          clear hok hen
          have hm1 : (m : Int) ≤ U0.size := by omega
          have hm2 : ¬ (U0.size : Int) < m := by omega
          have hm3 : ¬ (m : Int) < 0 := by omega
          go_upto_region 10 with fail
          have HKw := Lib.hid (Only.refl [] v101)
          have hx := At.new v101 33 #[.int .i64 f.ty, .int .i64 f.st, .int .i64 f.off, .string (strB f.S), .bool f.fin, .int .i64 f.mx, .int .i64 f.cd, .bool f.uni, .int .i64 f.dl, .slice ra f.rg.length rc, .int .i64 f.sq, .int .i64 f.rt, .string (strB f.cid)]
          replace HL := Lib.hid (HL.out.alloc (.cells #[.int .i64 f.ty, .int .i64 f.st, .int .i64 f.off, .string (strB f.S), .bool f.fin, .int .i64 f.mx, .int .i64 f.cd, .bool f.uni, .int .i64 f.dl, .slice ra f.rg.length rc, .int .i64 f.sq, .int .i64 f.rt, .string (strB f.cid)] 33))
          replace HKw := Lib.hid (HKw.out.alloc (.cells #[.int .i64 f.ty, .int .i64 f.st, .int .i64 f.off, .string (strB f.S), .bool f.fin, .int .i64 f.mx, .int .i64 f.cd, .bool f.uni, .int .i64 f.dl, .slice ra f.rg.length rc, .int .i64 f.sq, .int .i64 f.rt, .string (strB f.cid)] 33))
          have hszX : (v101.alloc (.cells #[.int .i64 f.ty, .int .i64 f.st, .int .i64 f.off, .string (strB f.S), .bool f.fin, .int .i64 f.mx, .int .i64 f.cd, .bool f.uni, .int .i64 f.dl, .slice ra f.rg.length rc, .int .i64 f.sq, .int .i64 f.rt, .string (strB f.cid)] 33)).heap.size = v101.heap.size + 1 := by simp
          generalize v101.alloc (.cells #[.int .i64 f.ty, .int .i64 f.st, .int .i64 f.off, .string (strB f.S), .bool f.fin, .int .i64 f.mx, .int .i64 f.cd, .bool f.uni, .int .i64 f.dl, .slice ra f.rg.length rc, .int .i64 f.sq, .int .i64 f.rt, .string (strB f.cid)] 33) = v102 at hx hszX HL HKw ⊢
          generalize v101.heap.size = px at hx hszX  ⊢
          have HX := Lib.hid hx
          clear hx
          have HbX := Lib.hid (Only.refl [] v102)
          have Xx0 : v102.cell? ⟨px, 0, none⟩ = some (.int .i64 f.ty) := (HX.out.keep HbX.out (by simp)).cell 0 rfl
          have Xx1 : v102.cell? ⟨px, 1, none⟩ = some (.int .i64 f.st) := (HX.out.keep HbX.out (by simp)).cell 1 rfl
          have Xx2 : v102.cell? ⟨px, 2, none⟩ = some (.int .i64 f.off) := (HX.out.keep HbX.out (by simp)).cell 2 rfl
          have Xx3 : v102.cell? ⟨px, 3, none⟩ = some (.string (strB f.S)) := (HX.out.keep HbX.out (by simp)).cell 3 rfl
          have Xx4 : v102.cell? ⟨px, 4, none⟩ = some (.bool f.fin) := (HX.out.keep HbX.out (by simp)).cell 4 rfl
          have Xx5 : v102.cell? ⟨px, 5, none⟩ = some (.int .i64 f.mx) := (HX.out.keep HbX.out (by simp)).cell 5 rfl
          have Xx6 : v102.cell? ⟨px, 6, none⟩ = some (.int .i64 f.cd) := (HX.out.keep HbX.out (by simp)).cell 6 rfl
          have Xx7 : v102.cell? ⟨px, 7, none⟩ = some (.bool f.uni) := (HX.out.keep HbX.out (by simp)).cell 7 rfl
          have Xx8 : v102.cell? ⟨px, 8, none⟩ = some (.int .i64 f.dl) := (HX.out.keep HbX.out (by simp)).cell 8 rfl
          have Xx9 : v102.cell? ⟨px, 9, none⟩ = some (.slice ra f.rg.length rc) := (HX.out.keep HbX.out (by simp)).cell 9 rfl
          have Xx10 : v102.cell? ⟨px, 10, none⟩ = some (.int .i64 f.sq) := (HX.out.keep HbX.out (by simp)).cell 10 rfl
          have Xx11 : v102.cell? ⟨px, 11, none⟩ = some (.int .i64 f.rt) := (HX.out.keep HbX.out (by simp)).cell 11 rfl
          have Xx12 : v102.cell? ⟨px, 12, none⟩ = some (.string (strB f.cid)) := (HX.out.keep HbX.out (by simp)).cell 12 rfl
          go_wp2_with fail
          refine (hec _ (HK.out.keep HKw.out)).mono ?_
          rintro e v103 ⟨rfl, ho⟩
          clear Xx0 Xx1 Xx2 Xx3 Xx4 Xx5 Xx6 Xx7 Xx8 Xx9 Xx10 Xx11 Xx12
          replace HL := Lib.hid (HL.out.trans ho)
          replace HKw := Lib.hid (HKw.out.trans ho)
          replace HbX := Lib.hid (HbX.out.trans ho)
          clear ho
          have Xx0 : v103.cell? ⟨px, 0, none⟩ = some (.int .i64 f.ty) := (HX.out.keep HbX.out (by simp)).cell 0 rfl
          have Xx1 : v103.cell? ⟨px, 1, none⟩ = some (.int .i64 f.st) := (HX.out.keep HbX.out (by simp)).cell 1 rfl
          have Xx2 : v103.cell? ⟨px, 2, none⟩ = some (.int .i64 f.off) := (HX.out.keep HbX.out (by simp)).cell 2 rfl
          have Xx3 : v103.cell? ⟨px, 3, none⟩ = some (.string (strB f.S)) := (HX.out.keep HbX.out (by simp)).cell 3 rfl
          have Xx4 : v103.cell? ⟨px, 4, none⟩ = some (.bool f.fin) := (HX.out.keep HbX.out (by simp)).cell 4 rfl
          have Xx5 : v103.cell? ⟨px, 5, none⟩ = some (.int .i64 f.mx) := (HX.out.keep HbX.out (by simp)).cell 5 rfl
          have Xx6 : v103.cell? ⟨px, 6, none⟩ = some (.int .i64 f.cd) := (HX.out.keep HbX.out (by simp)).cell 6 rfl
          have Xx7 : v103.cell? ⟨px, 7, none⟩ = some (.bool f.uni) := (HX.out.keep HbX.out (by simp)).cell 7 rfl
          have Xx8 : v103.cell? ⟨px, 8, none⟩ = some (.int .i64 f.dl) := (HX.out.keep HbX.out (by simp)).cell 8 rfl
          have Xx9 : v103.cell? ⟨px, 9, none⟩ = some (.slice ra f.rg.length rc) := (HX.out.keep HbX.out (by simp)).cell 9 rfl
          have Xx10 : v103.cell? ⟨px, 10, none⟩ = some (.int .i64 f.sq) := (HX.out.keep HbX.out (by simp)).cell 10 rfl
          have Xx11 : v103.cell? ⟨px, 11, none⟩ = some (.int .i64 f.rt) := (HX.out.keep HbX.out (by simp)).cell 11 rfl
          have Xx12 : v103.cell? ⟨px, 12, none⟩ = some (.string (strB f.cid)) := (HX.out.keep HbX.out (by simp)).cell 12 rfl
          go_wp2_with fail
          refine (hvl _ (HK.out.keep HKw.out)).mono ?_
          rintro e v104 ⟨rfl, ho⟩
          clear Xx0 Xx1 Xx2 Xx3 Xx4 Xx5 Xx6 Xx7 Xx8 Xx9 Xx10 Xx11 Xx12
          replace HL := Lib.hid (HL.out.trans ho)
          replace HKw := Lib.hid (HKw.out.trans ho)
          replace HbX := Lib.hid (HbX.out.trans ho)
          clear ho
          go_wp2_with fail
          go_roundg 1
          case measure => omega
          case rel => exact ⟨1, rfl, by omega, rfl, HL⟩
    · skip
      have HL := hO
      have r0 : wr.cell? ⟨pr, 1, none⟩ = some (.string U1) := (HR.out.keep HL.out (by simp)).cell 1 rfl
      clear hO
      go_wp2_with fail
      refine (hq1 _).mono ?_
      rintro e v101 h
      clear r0 hq0 hq1
      rcases h with ⟨rfl, ho⟩ | ⟨f, ra, rc, sf, m, rfl, hok, hen, hm, hcut, ho⟩
      · as_aux_lemma =>
          replace HL := Lib.hid (HL.out.trans ho)
          clear ho
          go_wp2_with fail
          go_roundg 0
          case measure => omega
          case rel => exact ⟨2, rfl, by omega, rfl, Lib.hid (HL.out.alloc _)⟩
      · as_aux_lemma =>
          replace HL := Lib.hid (HL.out.trans ho)
          clear ho
          have HK := Lib.hid hok
          have hec := fun ww hh => enc_ok f (.slice ra f.rg.length rc) ww hh hen
          have hvl := fun ww hh => val_ok f (.slice ra f.rg.length rc) ww hh hen
          simp only [frC] at hec hvl
          clear hok hen
          have hm1 : (m : Int) ≤ U1.size := by omega
          have hm2 : ¬ (U1.size : Int) < m := by omega
          have hm3 : ¬ (m : Int) < 0 := by omega
          go_upto_region 10 with fail
          have HKw := Lib.hid (Only.refl [] v101)
          have hx := At.new v101 33 #[.int .i64 f.ty, .int .i64 f.st, .int .i64 f.off, .string (strB f.S), .bool f.fin, .int .i64 f.mx, .int .i64 f.cd, .bool f.uni, .int .i64 f.dl, .slice ra f.rg.length rc, .int .i64 f.sq, .int .i64 f.rt, .string (strB f.cid)]
          replace HL := Lib.hid (HL.out.alloc (.cells #[.int .i64 f.ty, .int .i64 f.st, .int .i64 f.off, .string (strB f.S), .bool f.fin, .int .i64 f.mx, .int .i64 f.cd, .bool f.uni, .int .i64 f.dl, .slice ra f.rg.length rc, .int .i64 f.sq, .int .i64 f.rt, .string (strB f.cid)] 33))
          replace HKw := Lib.hid (HKw.out.alloc (.cells #[.int .i64 f.ty, .int .i64 f.st, .int .i64 f.off, .string (strB f.S), .bool f.fin, .int .i64 f.mx, .int .i64 f.cd, .bool f.uni, .int .i64 f.dl, .slice ra f.rg.length rc, .int .i64 f.sq, .int .i64 f.rt, .string (strB f.cid)] 33))
          have hszX : (v101.alloc (.cells #[.int .i64 f.ty, .int .i64 f.st, .int .i64 f.off, .string (strB f.S), .bool f.fin, .int .i64 f.mx, .int .i64 f.cd, .bool f.uni, .int .i64 f.dl, .slice ra f.rg.length rc, .int .i64 f.sq, .int .i64 f.rt, .string (strB f.cid)] 33)).heap.size = v101.heap.size + 1 := by simp
          generalize v101.alloc (.cells #[.int .i64 f.ty, .int .i64 f.st, .int .i64 f.off, .string (strB f.S), .bool f.fin, .int .i64 f.mx, .int .i64 f.cd, .bool f.uni, .int .i64 f.dl, .slice ra f.rg.length rc, .int .i64 f.sq, .int .i64 f.rt, .string (strB f.cid)] 33) = v102 at hx hszX HL HKw ⊢
          generalize v101.heap.size = px at hx hszX  ⊢
          have HX := Lib.hid hx
          clear hx
          have HbX := Lib.hid (Only.refl [] v102)
          have Xx0 : v102.cell? ⟨px, 0, none⟩ = some (.int .i64 f.ty) := (HX.out.keep HbX.out (by simp)).cell 0 rfl
          have Xx1 : v102.cell? ⟨px, 1, none⟩ = some (.int .i64 f.st) := (HX.out.keep HbX.out (by simp)).cell 1 rfl
          have Xx2 : v102.cell? ⟨px, 2, none⟩ = some (.int .i64 f.off) := (HX.out.keep HbX.out (by simp)).cell 2 rfl
          have Xx3 : v102.cell? ⟨px, 3, none⟩ = some (.string (strB f.S)) := (HX.out.keep HbX.out (by simp)).cell 3 rfl
          have Xx4 : v102.cell? ⟨px, 4, none⟩ = some (.bool f.fin) := (HX.out.keep HbX.out (by simp)).cell 4 rfl
          have Xx5 : v102.cell? ⟨px, 5, none⟩ = some (.int .i64 f.mx) := (HX.out.keep HbX.out (by simp)).cell 5 rfl
          have Xx6 : v102.cell? ⟨px, 6, none⟩ = some (.int .i64 f.cd) := (HX.out.keep HbX.out (by simp)).cell 6 rfl
          have Xx7 : v102.cell? ⟨px, 7, none⟩ = some (.bool f.uni) := (HX.out.keep HbX.out (by simp)).cell 7 rfl
          have Xx8 : v102.cell? ⟨px, 8, none⟩ = some (.int .i64 f.dl) := (HX.out.keep HbX.out (by simp)).cell 8 rfl
          have Xx9 : v102.cell? ⟨px, 9, none⟩ = some (.slice ra f.rg.length rc) := (HX.out.keep HbX.out (by simp)).cell 9 rfl
          have Xx10 : v102.cell? ⟨px, 10, none⟩ = some (.int .i64 f.sq) := (HX.out.keep HbX.out (by simp)).cell 10 rfl
          have Xx11 : v102.cell? ⟨px, 11, none⟩ = some (.int .i64 f.rt) := (HX.out.keep HbX.out (by simp)).cell 11 rfl
          have Xx12 : v102.cell? ⟨px, 12, none⟩ = some (.string (strB f.cid)) := (HX.out.keep HbX.out (by simp)).cell 12 rfl
          go_wp2_with fail
          refine (hec _ (HK.out.keep HKw.out)).mono ?_
          rintro e v103 ⟨rfl, ho⟩
          clear Xx0 Xx1 Xx2 Xx3 Xx4 Xx5 Xx6 Xx7 Xx8 Xx9 Xx10 Xx11 Xx12
          replace HL := Lib.hid (HL.out.trans ho)
          replace HKw := Lib.hid (HKw.out.trans ho)
          replace HbX := Lib.hid (HbX.out.trans ho)
          clear ho
          have Xx0 : v103.cell? ⟨px, 0, none⟩ = some (.int .i64 f.ty) := (HX.out.keep HbX.out (by simp)).cell 0 rfl
          have Xx1 : v103.cell? ⟨px, 1, none⟩ = some (.int .i64 f.st) := (HX.out.keep HbX.out (by simp)).cell 1 rfl
          have Xx2 : v103.cell? ⟨px, 2, none⟩ = some (.int .i64 f.off) := (HX.out.keep HbX.out (by simp)).cell 2 rfl
          have Xx3 : v103.cell? ⟨px, 3, none⟩ = some (.string (strB f.S)) := (HX.out.keep HbX.out (by simp)).cell 3 rfl
          have Xx4 : v103.cell? ⟨px, 4, none⟩ = some (.bool f.fin) := (HX.out.keep HbX.out (by simp)).cell 4 rfl
          have Xx5 : v103.cell? ⟨px, 5, none⟩ = some (.int .i64 f.mx) := (HX.out.keep HbX.out (by simp)).cell 5 rfl
          have Xx6 : v103.cell? ⟨px, 6, none⟩ = some (.int .i64 f.cd) := (HX.out.keep HbX.out (by simp)).cell 6 rfl
          have Xx7 : v103.cell? ⟨px, 7, none⟩ = some (.bool f.uni) := (HX.out.keep HbX.out (by simp)).cell 7 rfl
          have Xx8 : v103.cell? ⟨px, 8, none⟩ = some (.int .i64 f.dl) := (HX.out.keep HbX.out (by simp)).cell 8 rfl
          have Xx9 : v103.cell? ⟨px, 9, none⟩ = some (.slice ra f.rg.length rc) := (HX.out.keep HbX.out (by simp)).cell 9 rfl
          have Xx10 : v103.cell? ⟨px, 10, none⟩ = some (.int .i64 f.sq) := (HX.out.keep HbX.out (by simp)).cell 10 rfl
          have Xx11 : v103.cell? ⟨px, 11, none⟩ = some (.int .i64 f.rt) := (HX.out.keep HbX.out (by simp)).cell 11 rfl
          have Xx12 : v103.cell? ⟨px, 12, none⟩ = some (.string (strB f.cid)) := (HX.out.keep HbX.out (by simp)).cell 12 rfl
          go_wp2_with fail
          refine (hvl _ (HK.out.keep HKw.out)).mono ?_
          rintro e v104 ⟨rfl, ho⟩
          clear Xx0 Xx1 Xx2 Xx3 Xx4 Xx5 Xx6 Xx7 Xx8 Xx9 Xx10 Xx11 Xx12
          replace HL := Lib.hid (HL.out.trans ho)
          replace HKw := Lib.hid (HKw.out.trans ho)
          replace HbX := Lib.hid (HbX.out.trans ho)
          clear ho
          go_wp2_with fail
          go_roundg 0
          case measure => omega
          case rel => exact ⟨2, rfl, by omega, rfl, HL⟩
    · have HE := Lib.hid (HO.out.trans hO.out)
      go_wp2_with fail
      go_ret
      exact ⟨rfl, HE.out.below (by simp) (Nat.le_refl _)⟩
end Go.Proofs.Ytmmgmpghkpbgkaa
