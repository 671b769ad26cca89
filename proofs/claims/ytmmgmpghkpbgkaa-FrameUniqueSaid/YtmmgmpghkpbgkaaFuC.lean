/- The walk of FrameRoundTrip. -/
import Derived.Test.YtmmgmpghkpbgkaaFtS
import Derived.Test.YtmmgmpghkpbgkaaArE
namespace Go.Proofs.Ytmmgmpghkpbgkaa
open Go Go.RowKit
set_option linter.unusedVariables false
set_option linter.unusedSimpArgs false

theorem take_str (s : ByteArray) (m n : Nat) (h : n = min s.size m) : s.extract 0 n = strB (s.data.toList.take m) := by
  subst h
  rw [ext_list]
  rw [List.drop_zero, Nat.sub_zero]
  congr 1
  rw [← size_list s]
  rcases Nat.le_total s.data.toList.length m with h | h
  · rw [Nat.min_eq_left h, List.take_length, List.take_of_length_le h]
  · rw [Nat.min_eq_right h]
set_option maxRecDepth 100000 in
set_option maxHeartbeats 4000000 in
theorem round_walk (ty A B C : Int) (s : ByteArray) (fin : Bool) (sv : Value) (SL : List (Int × Int)) (p q : ByteArray) (w : World) (hF : FpOk ty A B C s) (hS : RgAt w sv SL) (wp : p.size ≤ maxLen) (wq : q.size ≤ maxLen) :
    Calls Try.prog 5 #[.agg (fpC ty A B C s fin sv), .string p, .string q] w fun e w' => e = .returned (.bool true) ∧ Below w.heap.size w w' := by
  unfold maxLen at wp wq
  obtain ⟨sa, sc, rfl, hsx⟩ := hS
  have HS : Hid (RgAt w (.slice sa SL.length sc) SL) := Lib.hid ⟨sa, sc, rfl, hsx⟩
  have hff := fun ww hh => frameFrom_c ty A B C s fin (.slice sa SL.length sc) SL ww hh hF
  clear hsx hF
  simp only [fpC] at hff ⊢
  have HO := Lib.hid (Only.refl [] w)
  have em1 : min (p.size : Int) 100 = ((min p.size 100 : Nat) : Int) := by omega
  have em2 : min (q.size : Int) 100 = ((min q.size 100 : Nat) : Int) := by omega
  have ex1 : p.extract 0 (min p.size 100) = strB (p.data.toList.take 100) := take_str p 100 _ rfl
  have ex2 : q.extract 0 (min q.size 100) = strB (q.data.toList.take 100) := take_str q 100 _ rfl
  have lp : (p.data.toList.take 100).length ≤ 100 := by rw [List.length_take]; omega
  have lq : (q.data.toList.take 100).length ≤ 100 := by rw [List.length_take]; omega
  generalize p.data.toList.take 100 = P at ex1 lp
  generalize q.data.toList.take 100 = Q at ex2 lq
  go_enter Try.func5, Try.ntmps5
  go_upto_region 1 with fail
  have hx := At.new w 46 #[.int .i64 ty, .int .i64 A, .int .i64 B, .int .i64 C, .string s, .bool fin, .slice sa SL.length sc]
  replace HO := Lib.hid (HO.out.alloc (.cells #[.int .i64 ty, .int .i64 A, .int .i64 B, .int .i64 C, .string s, .bool fin, .slice sa SL.length sc] 46))
  generalize w.alloc (.cells #[.int .i64 ty, .int .i64 A, .int .i64 B, .int .i64 C, .string s, .bool fin, .slice sa SL.length sc] 46) = v1 at hx HO ⊢
  generalize w.heap.size = pa at hx ⊢
  have HA := Lib.hid hx
  clear hx
  have HbA := Lib.hid (Only.refl [] v1)
  go_wp2_with fail
  refine (sane9 _).mono ?_
  rintro e v2 ⟨rfl, ho⟩
  replace HO := Lib.hid (HO.out.trans ho)
  replace HbA := Lib.hid (HbA.out.trans ho)
  clear ho
  have Ax0 : v2.cell? ⟨pa, 0, none⟩ = some (.int .i64 ty) := (HA.out.keep HbA.out (by simp)).cell 0 rfl
  have Ax1 : v2.cell? ⟨pa, 1, none⟩ = some (.int .i64 A) := (HA.out.keep HbA.out (by simp)).cell 1 rfl
  have Ax2 : v2.cell? ⟨pa, 2, none⟩ = some (.int .i64 B) := (HA.out.keep HbA.out (by simp)).cell 2 rfl
  have Ax3 : v2.cell? ⟨pa, 3, none⟩ = some (.int .i64 C) := (HA.out.keep HbA.out (by simp)).cell 3 rfl
  have Ax4 : v2.cell? ⟨pa, 4, none⟩ = some (.string s) := (HA.out.keep HbA.out (by simp)).cell 4 rfl
  have Ax5 : v2.cell? ⟨pa, 5, none⟩ = some (.bool fin) := (HA.out.keep HbA.out (by simp)).cell 5 rfl
  have Ax6 : v2.cell? ⟨pa, 6, none⟩ = some (.slice sa SL.length sc) := (HA.out.keep HbA.out (by simp)).cell 6 rfl
  go_wp2_with fail
  refine (hff _ (HS.out.keep HO.out)).mono ?_
  rintro e v3 ⟨f, rv, t, rfl, hok, _, hen, _, ho⟩
  clear Ax0 Ax1 Ax2 Ax3 Ax4 Ax5 Ax6
  replace HO := Lib.hid (HO.out.trans ho)
  replace HbA := Lib.hid (HbA.out.trans ho)
  clear ho
  obtain ⟨ra, rc, hrv, hrx⟩ := hok.rg
  subst hrv
  clear hrx hff
  have HK := Lib.hid hok
  clear hok
  simp only [frC]
  go_upto_region 3 with fail
  have HK0 := HK
  have HKw := Lib.hid (Only.refl [] v3)
  have hx := At.new v3 33 #[.int .i64 f.ty, .int .i64 f.st, .int .i64 f.off, .string (strB f.S), .bool f.fin, .int .i64 f.mx, .int .i64 f.cd, .bool f.uni, .int .i64 f.dl, .slice ra f.rg.length rc, .int .i64 f.sq, .int .i64 f.rt, .string (strB f.cid)]
  replace HO := Lib.hid (HO.out.alloc (.cells #[.int .i64 f.ty, .int .i64 f.st, .int .i64 f.off, .string (strB f.S), .bool f.fin, .int .i64 f.mx, .int .i64 f.cd, .bool f.uni, .int .i64 f.dl, .slice ra f.rg.length rc, .int .i64 f.sq, .int .i64 f.rt, .string (strB f.cid)] 33))
  replace HbA := Lib.hid (HbA.out.alloc (.cells #[.int .i64 f.ty, .int .i64 f.st, .int .i64 f.off, .string (strB f.S), .bool f.fin, .int .i64 f.mx, .int .i64 f.cd, .bool f.uni, .int .i64 f.dl, .slice ra f.rg.length rc, .int .i64 f.sq, .int .i64 f.rt, .string (strB f.cid)] 33))
  replace HKw := Lib.hid (HKw.out.alloc (.cells #[.int .i64 f.ty, .int .i64 f.st, .int .i64 f.off, .string (strB f.S), .bool f.fin, .int .i64 f.mx, .int .i64 f.cd, .bool f.uni, .int .i64 f.dl, .slice ra f.rg.length rc, .int .i64 f.sq, .int .i64 f.rt, .string (strB f.cid)] 33))
  generalize v3.alloc (.cells #[.int .i64 f.ty, .int .i64 f.st, .int .i64 f.off, .string (strB f.S), .bool f.fin, .int .i64 f.mx, .int .i64 f.cd, .bool f.uni, .int .i64 f.dl, .slice ra f.rg.length rc, .int .i64 f.sq, .int .i64 f.rt, .string (strB f.cid)] 33) = v4 at hx HO HbA HKw ⊢
  generalize v3.heap.size = pf at hx ⊢
  have HF := Lib.hid hx
  clear hx
  have HbF := Lib.hid (Only.refl [] v4)
  have hl := encF_len hen
  have zt : (strB t).size = t.length := strB_size t
  have zp : (strB P).size = P.length := strB_size P
  have zq : (strB Q).size = Q.length := strB_size Q
  have hec := fun ww hh => enc_ok f (.slice ra f.rg.length rc) ww hh hen
  have hvl := fun ww hh => val_ok f (.slice ra f.rg.length rc) ww hh hen
  have hdc := fun ww => dec_ok (p := P) (r := Q) hen HK.out.inr (by omega) (by omega) ww
  have z1 : ¬ 9223372036854775807 < (strB P).size + (strB t).size := by omega
  have ea : strB P ++ strB t = strB (P ++ t) := (strB_app _ _).symm
  have eb : strB (P ++ t) ++ strB Q = strB (P ++ t ++ Q) := (strB_app _ _).symm
  have z3 : (strB (P ++ t)).size = P.length + t.length := by rw [strB_size]; simp
  have z4 : ¬ 9223372036854775807 < (strB (P ++ t)).size + (strB Q).size := by omega
  obtain ⟨X, hX⟩ : ∃ X, strB (P ++ t ++ Q) = X := ⟨_, rfl⟩
  rw [hX] at eb
  simp only [hX] at hdc
  obtain ⟨Y, hY⟩ : ∃ Y, strB (P ++ t) = Y := ⟨_, rfl⟩
  rw [hY] at ea eb z3 z4
  clear hX hY
  simp only [frC] at hec hvl hdc
  have Fx0 : v4.cell? ⟨pf, 0, none⟩ = some (.int .i64 f.ty) := (HF.out.keep HbF.out (by simp)).cell 0 rfl
  have Fx1 : v4.cell? ⟨pf, 1, none⟩ = some (.int .i64 f.st) := (HF.out.keep HbF.out (by simp)).cell 1 rfl
  have Fx2 : v4.cell? ⟨pf, 2, none⟩ = some (.int .i64 f.off) := (HF.out.keep HbF.out (by simp)).cell 2 rfl
  have Fx3 : v4.cell? ⟨pf, 3, none⟩ = some (.string (strB f.S)) := (HF.out.keep HbF.out (by simp)).cell 3 rfl
  have Fx4 : v4.cell? ⟨pf, 4, none⟩ = some (.bool f.fin) := (HF.out.keep HbF.out (by simp)).cell 4 rfl
  have Fx5 : v4.cell? ⟨pf, 5, none⟩ = some (.int .i64 f.mx) := (HF.out.keep HbF.out (by simp)).cell 5 rfl
  have Fx6 : v4.cell? ⟨pf, 6, none⟩ = some (.int .i64 f.cd) := (HF.out.keep HbF.out (by simp)).cell 6 rfl
  have Fx7 : v4.cell? ⟨pf, 7, none⟩ = some (.bool f.uni) := (HF.out.keep HbF.out (by simp)).cell 7 rfl
  have Fx8 : v4.cell? ⟨pf, 8, none⟩ = some (.int .i64 f.dl) := (HF.out.keep HbF.out (by simp)).cell 8 rfl
  have Fx9 : v4.cell? ⟨pf, 9, none⟩ = some (.slice ra f.rg.length rc) := (HF.out.keep HbF.out (by simp)).cell 9 rfl
  have Fx10 : v4.cell? ⟨pf, 10, none⟩ = some (.int .i64 f.sq) := (HF.out.keep HbF.out (by simp)).cell 10 rfl
  have Fx11 : v4.cell? ⟨pf, 11, none⟩ = some (.int .i64 f.rt) := (HF.out.keep HbF.out (by simp)).cell 11 rfl
  have Fx12 : v4.cell? ⟨pf, 12, none⟩ = some (.string (strB f.cid)) := (HF.out.keep HbF.out (by simp)).cell 12 rfl
  go_wp2_with fail
  refine (hec _ (HK.out.keep HKw.out)).mono ?_
  rintro e v5 ⟨rfl, ho⟩
  clear Fx0 Fx1 Fx2 Fx3 Fx4 Fx5 Fx6 Fx7 Fx8 Fx9 Fx10 Fx11 Fx12
  replace HO := Lib.hid (HO.out.trans ho)
  replace HbA := Lib.hid (HbA.out.trans ho)
  replace HKw := Lib.hid (HKw.out.trans ho)
  replace HbF := Lib.hid (HbF.out.trans ho)
  clear ho
  go_wp2_with fail
  refine (hdc _).mono ?_
  rintro e v6 ⟨rv2, rfl, hok2, _, ho⟩
  replace HO := Lib.hid (HO.out.trans ho)
  replace HbA := Lib.hid (HbA.out.trans ho)
  replace HKw := Lib.hid (HKw.out.trans ho)
  replace HbF := Lib.hid (HbF.out.trans ho)
  clear ho
  obtain ⟨rb, rd, hrv2, hrx2⟩ := hok2.rg
  subst hrv2
  clear hrx2
  have HK2 := Lib.hid hok2
  clear hok2
  go_upto_region 6 with fail
  have HKx := Lib.hid (Only.refl [] v6)
  have hx := At.new v6 33 #[.int .i64 f.ty, .int .i64 f.st, .int .i64 f.off, .string (strB f.S), .bool f.fin, .int .i64 f.mx, .int .i64 f.cd, .bool f.uni, .int .i64 f.dl, .slice rb f.rg.length rd, .int .i64 f.sq, .int .i64 f.rt, .string (strB f.cid)]
  replace HO := Lib.hid (HO.out.alloc (.cells #[.int .i64 f.ty, .int .i64 f.st, .int .i64 f.off, .string (strB f.S), .bool f.fin, .int .i64 f.mx, .int .i64 f.cd, .bool f.uni, .int .i64 f.dl, .slice rb f.rg.length rd, .int .i64 f.sq, .int .i64 f.rt, .string (strB f.cid)] 33))
  replace HbA := Lib.hid (HbA.out.alloc (.cells #[.int .i64 f.ty, .int .i64 f.st, .int .i64 f.off, .string (strB f.S), .bool f.fin, .int .i64 f.mx, .int .i64 f.cd, .bool f.uni, .int .i64 f.dl, .slice rb f.rg.length rd, .int .i64 f.sq, .int .i64 f.rt, .string (strB f.cid)] 33))
  replace HKw := Lib.hid (HKw.out.alloc (.cells #[.int .i64 f.ty, .int .i64 f.st, .int .i64 f.off, .string (strB f.S), .bool f.fin, .int .i64 f.mx, .int .i64 f.cd, .bool f.uni, .int .i64 f.dl, .slice rb f.rg.length rd, .int .i64 f.sq, .int .i64 f.rt, .string (strB f.cid)] 33))
  replace HbF := Lib.hid (HbF.out.alloc (.cells #[.int .i64 f.ty, .int .i64 f.st, .int .i64 f.off, .string (strB f.S), .bool f.fin, .int .i64 f.mx, .int .i64 f.cd, .bool f.uni, .int .i64 f.dl, .slice rb f.rg.length rd, .int .i64 f.sq, .int .i64 f.rt, .string (strB f.cid)] 33))
  replace HKx := Lib.hid (HKx.out.alloc (.cells #[.int .i64 f.ty, .int .i64 f.st, .int .i64 f.off, .string (strB f.S), .bool f.fin, .int .i64 f.mx, .int .i64 f.cd, .bool f.uni, .int .i64 f.dl, .slice rb f.rg.length rd, .int .i64 f.sq, .int .i64 f.rt, .string (strB f.cid)] 33))
  generalize v6.alloc (.cells #[.int .i64 f.ty, .int .i64 f.st, .int .i64 f.off, .string (strB f.S), .bool f.fin, .int .i64 f.mx, .int .i64 f.cd, .bool f.uni, .int .i64 f.dl, .slice rb f.rg.length rd, .int .i64 f.sq, .int .i64 f.rt, .string (strB f.cid)] 33) = v7 at hx HO HbA HKw HbF HKx ⊢
  generalize v6.heap.size = pg at hx ⊢
  have HG := Lib.hid hx
  clear hx
  have HbG := Lib.hid (Only.refl [] v7)
  have hrs := fun ww h1 h2 => rsame_c f f (.slice ra f.rg.length rc) (.slice rb f.rg.length rd) ww h1 h2 HK.out.sz HK.out.sz
  have hsm := fun ww h1 h2 => same_c f f (.slice ra f.rg.length rc) (.slice rb f.rg.length rd) ww h1 h2 HK.out.sz HK.out.sz
  simp only [frC] at hrs hsm
  have hnum : IntKind.i64.wrap ((P.length : Int) + t.length) = ((P.length + t.length : Nat) : Int) := by rw [show (P.length : Int) + t.length = ((P.length + t.length : Nat) : Int) by omega]; exact IntWalk.i64_in _ (by omega)
  have hcp : ((P.length + t.length : Nat) : Int) = (P.length : Int) + t.length := by omega
  clear hec hdc
  have Fx0 : v7.cell? ⟨pf, 0, none⟩ = some (.int .i64 f.ty) := (HF.out.keep HbF.out (by simp)).cell 0 rfl
  have Fx1 : v7.cell? ⟨pf, 1, none⟩ = some (.int .i64 f.st) := (HF.out.keep HbF.out (by simp)).cell 1 rfl
  have Fx2 : v7.cell? ⟨pf, 2, none⟩ = some (.int .i64 f.off) := (HF.out.keep HbF.out (by simp)).cell 2 rfl
  have Fx3 : v7.cell? ⟨pf, 3, none⟩ = some (.string (strB f.S)) := (HF.out.keep HbF.out (by simp)).cell 3 rfl
  have Fx4 : v7.cell? ⟨pf, 4, none⟩ = some (.bool f.fin) := (HF.out.keep HbF.out (by simp)).cell 4 rfl
  have Fx5 : v7.cell? ⟨pf, 5, none⟩ = some (.int .i64 f.mx) := (HF.out.keep HbF.out (by simp)).cell 5 rfl
  have Fx6 : v7.cell? ⟨pf, 6, none⟩ = some (.int .i64 f.cd) := (HF.out.keep HbF.out (by simp)).cell 6 rfl
  have Fx7 : v7.cell? ⟨pf, 7, none⟩ = some (.bool f.uni) := (HF.out.keep HbF.out (by simp)).cell 7 rfl
  have Fx8 : v7.cell? ⟨pf, 8, none⟩ = some (.int .i64 f.dl) := (HF.out.keep HbF.out (by simp)).cell 8 rfl
  have Fx9 : v7.cell? ⟨pf, 9, none⟩ = some (.slice ra f.rg.length rc) := (HF.out.keep HbF.out (by simp)).cell 9 rfl
  have Fx10 : v7.cell? ⟨pf, 10, none⟩ = some (.int .i64 f.sq) := (HF.out.keep HbF.out (by simp)).cell 10 rfl
  have Fx11 : v7.cell? ⟨pf, 11, none⟩ = some (.int .i64 f.rt) := (HF.out.keep HbF.out (by simp)).cell 11 rfl
  have Fx12 : v7.cell? ⟨pf, 12, none⟩ = some (.string (strB f.cid)) := (HF.out.keep HbF.out (by simp)).cell 12 rfl
  have Gx0 : v7.cell? ⟨pg, 0, none⟩ = some (.int .i64 f.ty) := (HG.out.keep HbG.out (by simp)).cell 0 rfl
  have Gx1 : v7.cell? ⟨pg, 1, none⟩ = some (.int .i64 f.st) := (HG.out.keep HbG.out (by simp)).cell 1 rfl
  have Gx2 : v7.cell? ⟨pg, 2, none⟩ = some (.int .i64 f.off) := (HG.out.keep HbG.out (by simp)).cell 2 rfl
  have Gx3 : v7.cell? ⟨pg, 3, none⟩ = some (.string (strB f.S)) := (HG.out.keep HbG.out (by simp)).cell 3 rfl
  have Gx4 : v7.cell? ⟨pg, 4, none⟩ = some (.bool f.fin) := (HG.out.keep HbG.out (by simp)).cell 4 rfl
  have Gx5 : v7.cell? ⟨pg, 5, none⟩ = some (.int .i64 f.mx) := (HG.out.keep HbG.out (by simp)).cell 5 rfl
  have Gx6 : v7.cell? ⟨pg, 6, none⟩ = some (.int .i64 f.cd) := (HG.out.keep HbG.out (by simp)).cell 6 rfl
  have Gx7 : v7.cell? ⟨pg, 7, none⟩ = some (.bool f.uni) := (HG.out.keep HbG.out (by simp)).cell 7 rfl
  have Gx8 : v7.cell? ⟨pg, 8, none⟩ = some (.int .i64 f.dl) := (HG.out.keep HbG.out (by simp)).cell 8 rfl
  have Gx9 : v7.cell? ⟨pg, 9, none⟩ = some (.slice rb f.rg.length rd) := (HG.out.keep HbG.out (by simp)).cell 9 rfl
  have Gx10 : v7.cell? ⟨pg, 10, none⟩ = some (.int .i64 f.sq) := (HG.out.keep HbG.out (by simp)).cell 10 rfl
  have Gx11 : v7.cell? ⟨pg, 11, none⟩ = some (.int .i64 f.rt) := (HG.out.keep HbG.out (by simp)).cell 11 rfl
  have Gx12 : v7.cell? ⟨pg, 12, none⟩ = some (.string (strB f.cid)) := (HG.out.keep HbG.out (by simp)).cell 12 rfl
  go_wp2_with fail
  refine (hrs _ (HK.out.rg.keep HKw.out) (HK2.out.rg.keep HKx.out)).mono ?_
  rintro e v8 ⟨b1, rfl, hb1, ho⟩
  clear Fx0 Fx1 Fx2 Fx3 Fx4 Fx5 Fx6 Fx7 Fx8 Fx9 Fx10 Fx11 Fx12 Gx0 Gx1 Gx2 Gx3 Gx4 Gx5 Gx6 Gx7 Gx8 Gx9 Gx10 Gx11 Gx12
  replace HO := Lib.hid (HO.out.trans ho)
  replace HbA := Lib.hid (HbA.out.trans ho)
  replace HKw := Lib.hid (HKw.out.trans ho)
  replace HbF := Lib.hid (HbF.out.trans ho)
  replace HKx := Lib.hid (HKx.out.trans ho)
  replace HbG := Lib.hid (HbG.out.trans ho)
  clear ho
  obtain rfl : b1 = true := hb1.2 (by first | trivial | rfl)
  have Fx0 : v8.cell? ⟨pf, 0, none⟩ = some (.int .i64 f.ty) := (HF.out.keep HbF.out (by simp)).cell 0 rfl
  have Fx1 : v8.cell? ⟨pf, 1, none⟩ = some (.int .i64 f.st) := (HF.out.keep HbF.out (by simp)).cell 1 rfl
  have Fx2 : v8.cell? ⟨pf, 2, none⟩ = some (.int .i64 f.off) := (HF.out.keep HbF.out (by simp)).cell 2 rfl
  have Fx3 : v8.cell? ⟨pf, 3, none⟩ = some (.string (strB f.S)) := (HF.out.keep HbF.out (by simp)).cell 3 rfl
  have Fx4 : v8.cell? ⟨pf, 4, none⟩ = some (.bool f.fin) := (HF.out.keep HbF.out (by simp)).cell 4 rfl
  have Fx5 : v8.cell? ⟨pf, 5, none⟩ = some (.int .i64 f.mx) := (HF.out.keep HbF.out (by simp)).cell 5 rfl
  have Fx6 : v8.cell? ⟨pf, 6, none⟩ = some (.int .i64 f.cd) := (HF.out.keep HbF.out (by simp)).cell 6 rfl
  have Fx7 : v8.cell? ⟨pf, 7, none⟩ = some (.bool f.uni) := (HF.out.keep HbF.out (by simp)).cell 7 rfl
  have Fx8 : v8.cell? ⟨pf, 8, none⟩ = some (.int .i64 f.dl) := (HF.out.keep HbF.out (by simp)).cell 8 rfl
  have Fx9 : v8.cell? ⟨pf, 9, none⟩ = some (.slice ra f.rg.length rc) := (HF.out.keep HbF.out (by simp)).cell 9 rfl
  have Fx10 : v8.cell? ⟨pf, 10, none⟩ = some (.int .i64 f.sq) := (HF.out.keep HbF.out (by simp)).cell 10 rfl
  have Fx11 : v8.cell? ⟨pf, 11, none⟩ = some (.int .i64 f.rt) := (HF.out.keep HbF.out (by simp)).cell 11 rfl
  have Fx12 : v8.cell? ⟨pf, 12, none⟩ = some (.string (strB f.cid)) := (HF.out.keep HbF.out (by simp)).cell 12 rfl
  go_wp2_with fail
  refine (hvl _ (HK.out.keep HKw.out)).mono ?_
  rintro e v9 ⟨rfl, ho⟩
  clear Fx0 Fx1 Fx2 Fx3 Fx4 Fx5 Fx6 Fx7 Fx8 Fx9 Fx10 Fx11 Fx12
  replace HO := Lib.hid (HO.out.trans ho)
  replace HbA := Lib.hid (HbA.out.trans ho)
  replace HKw := Lib.hid (HKw.out.trans ho)
  replace HbF := Lib.hid (HbF.out.trans ho)
  replace HKx := Lib.hid (HKx.out.trans ho)
  replace HbG := Lib.hid (HbG.out.trans ho)
  clear ho
  have Fx0 : v9.cell? ⟨pf, 0, none⟩ = some (.int .i64 f.ty) := (HF.out.keep HbF.out (by simp)).cell 0 rfl
  have Fx1 : v9.cell? ⟨pf, 1, none⟩ = some (.int .i64 f.st) := (HF.out.keep HbF.out (by simp)).cell 1 rfl
  have Fx2 : v9.cell? ⟨pf, 2, none⟩ = some (.int .i64 f.off) := (HF.out.keep HbF.out (by simp)).cell 2 rfl
  have Fx3 : v9.cell? ⟨pf, 3, none⟩ = some (.string (strB f.S)) := (HF.out.keep HbF.out (by simp)).cell 3 rfl
  have Fx4 : v9.cell? ⟨pf, 4, none⟩ = some (.bool f.fin) := (HF.out.keep HbF.out (by simp)).cell 4 rfl
  have Fx5 : v9.cell? ⟨pf, 5, none⟩ = some (.int .i64 f.mx) := (HF.out.keep HbF.out (by simp)).cell 5 rfl
  have Fx6 : v9.cell? ⟨pf, 6, none⟩ = some (.int .i64 f.cd) := (HF.out.keep HbF.out (by simp)).cell 6 rfl
  have Fx7 : v9.cell? ⟨pf, 7, none⟩ = some (.bool f.uni) := (HF.out.keep HbF.out (by simp)).cell 7 rfl
  have Fx8 : v9.cell? ⟨pf, 8, none⟩ = some (.int .i64 f.dl) := (HF.out.keep HbF.out (by simp)).cell 8 rfl
  have Fx9 : v9.cell? ⟨pf, 9, none⟩ = some (.slice ra f.rg.length rc) := (HF.out.keep HbF.out (by simp)).cell 9 rfl
  have Fx10 : v9.cell? ⟨pf, 10, none⟩ = some (.int .i64 f.sq) := (HF.out.keep HbF.out (by simp)).cell 10 rfl
  have Fx11 : v9.cell? ⟨pf, 11, none⟩ = some (.int .i64 f.rt) := (HF.out.keep HbF.out (by simp)).cell 11 rfl
  have Fx12 : v9.cell? ⟨pf, 12, none⟩ = some (.string (strB f.cid)) := (HF.out.keep HbF.out (by simp)).cell 12 rfl
  have Gx0 : v9.cell? ⟨pg, 0, none⟩ = some (.int .i64 f.ty) := (HG.out.keep HbG.out (by simp)).cell 0 rfl
  have Gx1 : v9.cell? ⟨pg, 1, none⟩ = some (.int .i64 f.st) := (HG.out.keep HbG.out (by simp)).cell 1 rfl
  have Gx2 : v9.cell? ⟨pg, 2, none⟩ = some (.int .i64 f.off) := (HG.out.keep HbG.out (by simp)).cell 2 rfl
  have Gx3 : v9.cell? ⟨pg, 3, none⟩ = some (.string (strB f.S)) := (HG.out.keep HbG.out (by simp)).cell 3 rfl
  have Gx4 : v9.cell? ⟨pg, 4, none⟩ = some (.bool f.fin) := (HG.out.keep HbG.out (by simp)).cell 4 rfl
  have Gx5 : v9.cell? ⟨pg, 5, none⟩ = some (.int .i64 f.mx) := (HG.out.keep HbG.out (by simp)).cell 5 rfl
  have Gx6 : v9.cell? ⟨pg, 6, none⟩ = some (.int .i64 f.cd) := (HG.out.keep HbG.out (by simp)).cell 6 rfl
  have Gx7 : v9.cell? ⟨pg, 7, none⟩ = some (.bool f.uni) := (HG.out.keep HbG.out (by simp)).cell 7 rfl
  have Gx8 : v9.cell? ⟨pg, 8, none⟩ = some (.int .i64 f.dl) := (HG.out.keep HbG.out (by simp)).cell 8 rfl
  have Gx9 : v9.cell? ⟨pg, 9, none⟩ = some (.slice rb f.rg.length rd) := (HG.out.keep HbG.out (by simp)).cell 9 rfl
  have Gx10 : v9.cell? ⟨pg, 10, none⟩ = some (.int .i64 f.sq) := (HG.out.keep HbG.out (by simp)).cell 10 rfl
  have Gx11 : v9.cell? ⟨pg, 11, none⟩ = some (.int .i64 f.rt) := (HG.out.keep HbG.out (by simp)).cell 11 rfl
  have Gx12 : v9.cell? ⟨pg, 12, none⟩ = some (.string (strB f.cid)) := (HG.out.keep HbG.out (by simp)).cell 12 rfl
  go_wp2_with fail
  refine (hsm _ (HK.out.rg.keep HKw.out) (HK2.out.rg.keep HKx.out)).mono ?_
  rintro e v10 ⟨b2, rfl, hb2, ho⟩
  clear Fx0 Fx1 Fx2 Fx3 Fx4 Fx5 Fx6 Fx7 Fx8 Fx9 Fx10 Fx11 Fx12 Gx0 Gx1 Gx2 Gx3 Gx4 Gx5 Gx6 Gx7 Gx8 Gx9 Gx10 Gx11 Gx12
  replace HO := Lib.hid (HO.out.trans ho)
  replace HbA := Lib.hid (HbA.out.trans ho)
  replace HKw := Lib.hid (HKw.out.trans ho)
  replace HbF := Lib.hid (HbF.out.trans ho)
  replace HKx := Lib.hid (HKx.out.trans ho)
  replace HbG := Lib.hid (HbG.out.trans ho)
  clear ho
  obtain rfl : b2 = true := hb2.2 (by first | trivial | rfl)
  go_wp2_with fail
  go_ret
  exact ⟨rfl, HO.out.below (by simp) (Nat.le_refl _)⟩
end Go.Proofs.Ytmmgmpghkpbgkaa
