/- Contracts of package frame: the table of parts. -/
import Derived.Test.YtmmgmpghkpbgkaaFrX
namespace Go.Proofs.Ytmmgmpghkpbgkaa
open Go Go.RowKit
set_option linter.unusedVariables false
set_option linter.unusedSimpArgs false

/-- What the table of parts is: a map in a block of its own. -/
def Parts (W : World) (mb : Nat) (w' : World) : Prop := ∃ es c, w'.heap[mb]? = some (.map es c) ∧ W.heap.size ≤ mb ∧ MapOk w' W.heap.size (fun k => (tab k).isSome = true) es
def selp (p1 p2 p3 p4 p5 p6 p7 p8 p9 p10 p11 p12 : Nat) (j : Nat) : Nat := match j with
  | 1 => p1
  | 2 => p2
  | 3 => p3
  | 4 => p4
  | 5 => p5
  | 6 => p6
  | 7 => p7
  | 8 => p8
  | 9 => p9
  | 10 => p10
  | 11 => p11
  | _ => p12
set_option maxRecDepth 100000 in
set_option maxHeartbeats 8000000 in
theorem parts_c (w : World) : Calls Try.prog 60 #[] w fun e w' => ∃ mb, e = .returned (.map (some mb)) ∧ Parts w mb w' ∧ Only [] w w' := by
  go_enter Try.func60, Try.ntmps60
  have HO : Hid (Only [] w w) := Lib.hid (Only.refl _ _)
  go_wp2_with fail
  refine (integer_c 4611686018427387903 78 .st rfl _).mono ?_
  rintro e wa1 ⟨v0, v1, v2, rfl, hp, ⟨f0, c0, f1, c1, f2, c2, rfl, rfl, rfl⟩, ho⟩
  go_upto_region 2 with fail
  have hPB := PB.new (B := w.heap.size) HO.out.size hp
  have hO := (HO.out.trans ho).alloc (.cells #[.func (.func f0) #[] c0, .func (.func f1) #[] c1, .func (.func f2) #[] c2] 105)
  have ho2 := ho.alloc (.cells #[.func (.func f0) #[] c0, .func (.func f1) #[] c1, .func (.func f2) #[] c2] 105)
  clear hp ho ho2 HO
  generalize wa1.alloc (.cells #[.func (.func f0) #[] c0, .func (.func f1) #[] c1, .func (.func f2) #[] c2] 105) = w1 at *
  generalize wa1.heap.size = p1 at *
  have HP1 := Lib.hid hPB
  have HO := Lib.hid hO
  clear hO hPB
  go_wp2_with fail
  refine (integer_c 4611686018427387903 79 .mx (.inl rfl) _).mono ?_
  rintro e wa2 ⟨v0, v1, v2, rfl, hp, ⟨f0, c0, f1, c1, f2, c2, rfl, rfl, rfl⟩, ho⟩
  go_upto_region 3 with fail
  have hPB := PB.new (B := w.heap.size) HO.out.size hp
  have hO := (HO.out.trans ho).alloc (.cells #[.func (.func f0) #[] c0, .func (.func f1) #[] c1, .func (.func f2) #[] c2] 105)
  have ho2 := ho.alloc (.cells #[.func (.func f0) #[] c0, .func (.func f1) #[] c1, .func (.func f2) #[] c2] 105)
  replace HP1 := Lib.hid (HP1.out.keep0 ho2)
  clear hp ho ho2 HO
  generalize wa2.alloc (.cells #[.func (.func f0) #[] c0, .func (.func f1) #[] c1, .func (.func f2) #[] c2] 105) = w2 at *
  generalize wa2.heap.size = p2 at *
  have HP2 := Lib.hid hPB
  have HO := Lib.hid hO
  clear hO hPB
  go_wp2_with fail
  refine (integer_c 1099511627776 80 .mx (.inr rfl) _).mono ?_
  rintro e wa3 ⟨v0, v1, v2, rfl, hp, ⟨f0, c0, f1, c1, f2, c2, rfl, rfl, rfl⟩, ho⟩
  go_upto_region 4 with fail
  have hPB := PB.new (B := w.heap.size) HO.out.size hp
  have hO := (HO.out.trans ho).alloc (.cells #[.func (.func f0) #[] c0, .func (.func f1) #[] c1, .func (.func f2) #[] c2] 105)
  have ho2 := ho.alloc (.cells #[.func (.func f0) #[] c0, .func (.func f1) #[] c1, .func (.func f2) #[] c2] 105)
  replace HP1 := Lib.hid (HP1.out.keep0 ho2)
  replace HP2 := Lib.hid (HP2.out.keep0 ho2)
  clear hp ho ho2 HO
  generalize wa3.alloc (.cells #[.func (.func f0) #[] c0, .func (.func f1) #[] c1, .func (.func f2) #[] c2] 105) = w3 at *
  generalize wa3.heap.size = p3 at *
  have HP3 := Lib.hid hPB
  have HO := Lib.hid hO
  clear hO hPB
  go_wp2_with fail
  refine (integer_c 1073741823 81 .cd rfl _).mono ?_
  rintro e wa4 ⟨v0, v1, v2, rfl, hp, ⟨f0, c0, f1, c1, f2, c2, rfl, rfl, rfl⟩, ho⟩
  go_upto_region 5 with fail
  have hPB := PB.new (B := w.heap.size) HO.out.size hp
  have hO := (HO.out.trans ho).alloc (.cells #[.func (.func f0) #[] c0, .func (.func f1) #[] c1, .func (.func f2) #[] c2] 105)
  have ho2 := ho.alloc (.cells #[.func (.func f0) #[] c0, .func (.func f1) #[] c1, .func (.func f2) #[] c2] 105)
  replace HP1 := Lib.hid (HP1.out.keep0 ho2)
  replace HP2 := Lib.hid (HP2.out.keep0 ho2)
  replace HP3 := Lib.hid (HP3.out.keep0 ho2)
  clear hp ho ho2 HO
  generalize wa4.alloc (.cells #[.func (.func f0) #[] c0, .func (.func f1) #[] c1, .func (.func f2) #[] c2] 105) = w4 at *
  generalize wa4.heap.size = p4 at *
  have HP4 := Lib.hid hPB
  have HO := Lib.hid hO
  clear hO hPB
  go_wp2_with fail
  refine (integer_c 1099511627776 82 .off rfl _).mono ?_
  rintro e wa5 ⟨v0, v1, v2, rfl, hp, ⟨f0, c0, f1, c1, f2, c2, rfl, rfl, rfl⟩, ho⟩
  go_upto_region 6 with fail
  have hPB := PB.new (B := w.heap.size) HO.out.size hp
  have hO := (HO.out.trans ho).alloc (.cells #[.func (.func f0) #[] c0, .func (.func f1) #[] c1, .func (.func f2) #[] c2] 105)
  have ho2 := ho.alloc (.cells #[.func (.func f0) #[] c0, .func (.func f1) #[] c1, .func (.func f2) #[] c2] 105)
  replace HP1 := Lib.hid (HP1.out.keep0 ho2)
  replace HP2 := Lib.hid (HP2.out.keep0 ho2)
  replace HP3 := Lib.hid (HP3.out.keep0 ho2)
  replace HP4 := Lib.hid (HP4.out.keep0 ho2)
  clear hp ho ho2 HO
  generalize wa5.alloc (.cells #[.func (.func f0) #[] c0, .func (.func f1) #[] c1, .func (.func f2) #[] c2] 105) = w5 at *
  generalize wa5.heap.size = p5 at *
  have HP5 := Lib.hid hPB
  have HO := Lib.hid hO
  clear hO hPB
  go_wp2_with fail
  refine (integer_c 4611686018427387903 83 .sq rfl _).mono ?_
  rintro e wa6 ⟨v0, v1, v2, rfl, hp, ⟨f0, c0, f1, c1, f2, c2, rfl, rfl, rfl⟩, ho⟩
  go_upto_region 7 with fail
  have hPB := PB.new (B := w.heap.size) HO.out.size hp
  have hO := (HO.out.trans ho).alloc (.cells #[.func (.func f0) #[] c0, .func (.func f1) #[] c1, .func (.func f2) #[] c2] 105)
  have ho2 := ho.alloc (.cells #[.func (.func f0) #[] c0, .func (.func f1) #[] c1, .func (.func f2) #[] c2] 105)
  replace HP1 := Lib.hid (HP1.out.keep0 ho2)
  replace HP2 := Lib.hid (HP2.out.keep0 ho2)
  replace HP3 := Lib.hid (HP3.out.keep0 ho2)
  replace HP4 := Lib.hid (HP4.out.keep0 ho2)
  replace HP5 := Lib.hid (HP5.out.keep0 ho2)
  clear hp ho ho2 HO
  generalize wa6.alloc (.cells #[.func (.func f0) #[] c0, .func (.func f1) #[] c1, .func (.func f2) #[] c2] 105) = w6 at *
  generalize wa6.heap.size = p6 at *
  have HP6 := Lib.hid hPB
  have HO := Lib.hid hO
  clear hO hPB
  go_wp2_with fail
  refine (integer_c 4611686018427387903 84 .dl rfl _).mono ?_
  rintro e wa7 ⟨v0, v1, v2, rfl, hp, ⟨f0, c0, f1, c1, f2, c2, rfl, rfl, rfl⟩, ho⟩
  go_upto_region 8 with fail
  have hPB := PB.new (B := w.heap.size) HO.out.size hp
  have hO := (HO.out.trans ho).alloc (.cells #[.func (.func f0) #[] c0, .func (.func f1) #[] c1, .func (.func f2) #[] c2] 105)
  have ho2 := ho.alloc (.cells #[.func (.func f0) #[] c0, .func (.func f1) #[] c1, .func (.func f2) #[] c2] 105)
  replace HP1 := Lib.hid (HP1.out.keep0 ho2)
  replace HP2 := Lib.hid (HP2.out.keep0 ho2)
  replace HP3 := Lib.hid (HP3.out.keep0 ho2)
  replace HP4 := Lib.hid (HP4.out.keep0 ho2)
  replace HP5 := Lib.hid (HP5.out.keep0 ho2)
  replace HP6 := Lib.hid (HP6.out.keep0 ho2)
  clear hp ho ho2 HO
  generalize wa7.alloc (.cells #[.func (.func f0) #[] c0, .func (.func f1) #[] c1, .func (.func f2) #[] c2] 105) = w7 at *
  generalize wa7.heap.size = p7 at *
  have HP7 := Lib.hid hPB
  have HO := Lib.hid hO
  clear hO hPB
  go_wp2_with fail
  refine (text_c 0 1024 _).mono ?_
  rintro e wa8 ⟨v0, v1, v2, rfl, hp, ⟨f0, c0, f1, c1, f2, c2, rfl, rfl, rfl⟩, ho⟩
  go_wp2_with fail
  refine (text_c 0 64 _).mono ?_
  rintro e wa9 ⟨v0, v1, v2, rfl, hp9, ⟨g0, d0, g1, d1, g2, d2, rfl, rfl, rfl⟩, ho9⟩
  go_upto_region 9 with fail
  have hPB8 : PB _ w.heap.size (.text 0 1024) wa9.heap.size := (PB.new (B := w.heap.size) HO.out.size (hp.keep (S := []) ho9 (by simp))).keep0 ((Only.refl [] _).alloc (.cells #[.func (.func g0) #[] d0, .func (.func g1) #[] d1, .func (.func g2) #[] d2] 105))
  have hPB9 := PB.new (w' := wa9.alloc (.cells #[.func (.func f0) #[] c0, .func (.func f1) #[] c1, .func (.func f2) #[] c2] 105)) (B := w.heap.size) (HO.out.trans ho).size (hp9.keep (S := []) ((Only.refl [] _).alloc (.cells #[.func (.func f0) #[] c0, .func (.func f1) #[] c1, .func (.func f2) #[] c2] 105)) (by simp))
  have hO := (((HO.out.trans ho).trans ho9).alloc (.cells #[.func (.func f0) #[] c0, .func (.func f1) #[] c1, .func (.func f2) #[] c2] 105)).alloc (.cells #[.func (.func g0) #[] d0, .func (.func g1) #[] d1, .func (.func g2) #[] d2] 105)
  have ho2 := ((ho.trans ho9).alloc (.cells #[.func (.func f0) #[] c0, .func (.func f1) #[] c1, .func (.func f2) #[] c2] 105)).alloc (.cells #[.func (.func g0) #[] d0, .func (.func g1) #[] d1, .func (.func g2) #[] d2] 105)
  replace HP1 := Lib.hid (HP1.out.keep0 ho2)
  replace HP2 := Lib.hid (HP2.out.keep0 ho2)
  replace HP3 := Lib.hid (HP3.out.keep0 ho2)
  replace HP4 := Lib.hid (HP4.out.keep0 ho2)
  replace HP5 := Lib.hid (HP5.out.keep0 ho2)
  replace HP6 := Lib.hid (HP6.out.keep0 ho2)
  replace HP7 := Lib.hid (HP7.out.keep0 ho2)
  clear hp hp9 ho ho9 ho2 HO
  have hsz9 : (wa9.alloc (.cells #[.func (.func f0) #[] c0, .func (.func f1) #[] c1, .func (.func f2) #[] c2] 105)).heap.size = wa9.heap.size + 1 := by simp
  rw [hsz9] at hPB9
  clear hsz9
  generalize (wa9.alloc (.cells #[.func (.func f0) #[] c0, .func (.func f1) #[] c1, .func (.func f2) #[] c2] 105)).alloc (.cells #[.func (.func g0) #[] d0, .func (.func g1) #[] d1, .func (.func g2) #[] d2] 105) = w9 at *
  generalize wa9.heap.size + 1 = p9 at *
  generalize wa9.heap.size = p8 at *
  have HP8 := Lib.hid hPB8
  have HP9 := Lib.hid hPB9
  have HO := Lib.hid hO
  clear hO hPB8 hPB9
  go_wp2_with fail
  refine (chal_c _).mono ?_
  rintro e wa10 ⟨v0, v1, v2, rfl, hp, ⟨f0, c0, f1, c1, f2, c2, rfl, rfl, rfl⟩, ho⟩
  go_upto_region 10 with fail
  have hPB := PB.new (B := w.heap.size) HO.out.size hp
  have hO := (HO.out.trans ho).alloc (.cells #[.func (.func f0) #[] c0, .func (.func f1) #[] c1, .func (.func f2) #[] c2] 105)
  have ho2 := ho.alloc (.cells #[.func (.func f0) #[] c0, .func (.func f1) #[] c1, .func (.func f2) #[] c2] 105)
  replace HP1 := Lib.hid (HP1.out.keep0 ho2)
  replace HP2 := Lib.hid (HP2.out.keep0 ho2)
  replace HP3 := Lib.hid (HP3.out.keep0 ho2)
  replace HP4 := Lib.hid (HP4.out.keep0 ho2)
  replace HP5 := Lib.hid (HP5.out.keep0 ho2)
  replace HP6 := Lib.hid (HP6.out.keep0 ho2)
  replace HP7 := Lib.hid (HP7.out.keep0 ho2)
  replace HP8 := Lib.hid (HP8.out.keep0 ho2)
  replace HP9 := Lib.hid (HP9.out.keep0 ho2)
  clear hp ho ho2 HO
  generalize wa10.alloc (.cells #[.func (.func f0) #[] c0, .func (.func f1) #[] c1, .func (.func f2) #[] c2] 105) = w10 at *
  generalize wa10.heap.size = p10 at *
  have HP10 := Lib.hid hPB
  have HO := Lib.hid hO
  clear hO hPB
  go_wp2_with fail
  refine (cidp_c _).mono ?_
  rintro e wa11 ⟨v0, v1, v2, rfl, hp, ⟨f0, c0, f1, c1, f2, c2, rfl, rfl, rfl⟩, ho⟩
  go_upto_region 11 with fail
  have hPB := PB.new (B := w.heap.size) HO.out.size hp
  have hO := (HO.out.trans ho).alloc (.cells #[.func (.func f0) #[] c0, .func (.func f1) #[] c1, .func (.func f2) #[] c2] 105)
  have ho2 := ho.alloc (.cells #[.func (.func f0) #[] c0, .func (.func f1) #[] c1, .func (.func f2) #[] c2] 105)
  replace HP1 := Lib.hid (HP1.out.keep0 ho2)
  replace HP2 := Lib.hid (HP2.out.keep0 ho2)
  replace HP3 := Lib.hid (HP3.out.keep0 ho2)
  replace HP4 := Lib.hid (HP4.out.keep0 ho2)
  replace HP5 := Lib.hid (HP5.out.keep0 ho2)
  replace HP6 := Lib.hid (HP6.out.keep0 ho2)
  replace HP7 := Lib.hid (HP7.out.keep0 ho2)
  replace HP8 := Lib.hid (HP8.out.keep0 ho2)
  replace HP9 := Lib.hid (HP9.out.keep0 ho2)
  replace HP10 := Lib.hid (HP10.out.keep0 ho2)
  clear hp ho ho2 HO
  generalize wa11.alloc (.cells #[.func (.func f0) #[] c0, .func (.func f1) #[] c1, .func (.func f2) #[] c2] 105) = w11 at *
  generalize wa11.heap.size = p11 at *
  have HP11 := Lib.hid hPB
  have HO := Lib.hid hO
  clear hO hPB
  go_upto_region 12 with fail
  have hO := HO.out.alloc (.cells #[.func (.func 89) #[] #[], .func (.func 90) #[] #[], .func (.func 91) #[] #[]] 105)
  have ho2 := (Only.refl [] w11).alloc (.cells #[.func (.func 89) #[] #[], .func (.func 90) #[] #[], .func (.func 91) #[] #[]] 105)
  have hP12 : PB (w11.alloc (.cells #[.func (.func 89) #[] #[], .func (.func 90) #[] #[], .func (.func 91) #[] #[]] 105)) w.heap.size .ranges w11.heap.size := ⟨_, _, _, _, _, _, At.new _ _ _, rfl, rfl, rfl⟩
  have hP1 := HP1.out.keep0 ho2
  clear HP1
  have hP2 := HP2.out.keep0 ho2
  clear HP2
  have hP3 := HP3.out.keep0 ho2
  clear HP3
  have hP4 := HP4.out.keep0 ho2
  clear HP4
  have hP5 := HP5.out.keep0 ho2
  clear HP5
  have hP6 := HP6.out.keep0 ho2
  clear HP6
  have hP7 := HP7.out.keep0 ho2
  clear HP7
  have hP8 := HP8.out.keep0 ho2
  clear HP8
  have hP9 := HP9.out.keep0 ho2
  clear HP9
  have hP10 := HP10.out.keep0 ho2
  clear HP10
  have hP11 := HP11.out.keep0 ho2
  clear HP11
  clear HO ho2
  generalize w11.heap.size = p12 at *
  generalize w11.alloc _ = w12 at *
  have hdr : Only [] w12 { w12 with drawn := w12.drawn + 1 } := (Only.refl [] w12).drew
  refine region_map (p := selp p1 p2 p3 p4 p5 p6 p7 p8 p9 p10 p11 p12) (B := w.heap.size) (W := { w12 with drawn := w12.drawn + 1 }) (by kernel_rfl) (by kernel_rfl) (by kernel_rfl) (by kernel_rfl) rfl ?_ ?_ (by kernel_rfl) rfl ?_ ?_
  · intro j j1 j2
    match j, j1, j2 with
    | 1, _, _ => exact hP1.keep0 hdr
    | 2, _, _ => exact hP2.keep0 hdr
    | 3, _, _ => exact hP3.keep0 hdr
    | 4, _, _ => exact hP4.keep0 hdr
    | 5, _, _ => exact hP5.keep0 hdr
    | 6, _, _ => exact hP6.keep0 hdr
    | 7, _, _ => exact hP7.keep0 hdr
    | 8, _, _ => exact hP8.keep0 hdr
    | 9, _, _ => exact hP9.keep0 hdr
    | 10, _, _ => exact hP10.keep0 hdr
    | 11, _, _ => exact hP11.keep0 hdr
    | 12, _, _ => exact hP12.keep0 hdr
    | (n + 13), _, j2 => exact absurd j2 (by omega)
  · exact (hO.trans hdr).size
  · intro j j1 j2
    match j, j1, j2 with
    | 1, _, _ => rfl
    | 2, _, _ => rfl
    | 3, _, _ => rfl
    | 4, _, _ => rfl
    | 5, _, _ => rfl
    | 6, _, _ => rfl
    | 7, _, _ => rfl
    | 8, _, _ => rfl
    | 9, _, _ => rfl
    | 10, _, _ => rfl
    | 11, _, _ => rfl
    | 12, _, _ => rfl
    | (n + 13), _, j2 => exact absurd j2 (by omega)
  · intro a' w' mb es c ho hd0 h0 hm hmb hM
    have hsz := (hO.trans hdr).size
    have hO2 := (hO.trans hdr).trans ho
    rename_i hK
    clear hP1 hP2 hP3 hP4 hP5 hP6 hP7 hP8 hP9 hP10 hP11 hP12 hO hdr ho
    obtain ⟨tmps, defers⟩ := a'
    simp only at hd0 h0
    subst hd0
    refine hK _ _ ?_
    go_wp2_with fail
    refine ⟨rfl, .map (some mb), ?_, mb, rfl, ⟨es, c, hm, by omega, hM⟩, hO2⟩
    simp [results, Try.f60, go_sem, Array.getD_eq_getD_getElem?, h0]
end Go.Proofs.Ytmmgmpghkpbgkaa
