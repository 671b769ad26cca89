/- Contracts of package frame: the table of parts. -/
import Derived.Test.YtgiekhohhogdiaaDoorRfI
namespace Go.Proofs.YtgiekhohhogdiaaDoor
open Go Go.RowKit
set_option linter.unusedVariables false
set_option linter.unusedSimpArgs false

/-- What the table of parts is: a map in a block of its own. -/
def Parts (W : World) (mb : Nat) (w' : World) : Prop := ∃ es c, w'.heap[mb]? = some (.map es c) ∧ W.heap.size ≤ mb ∧ MapOk w' W.heap.size (fun k => (tab k).isSome = true) es
def selp (p1 p2 p3 p4 p5 p6 p7 p8 p9 p10 p11 p12 : Nat) (j : Nat) : Nat := match j with
  | 1 => p1
  | 2 => p2
  | 3 => p3
  | 4 => p4
  | 5 => p5
  | 6 => p6
  | 7 => p7
  | 8 => p8
  | 9 => p9
  | 10 => p10
  | 11 => p11
  | _ => p12
set_option maxRecDepth 100000 in
set_option maxHeartbeats 8000000 in
theorem parts_c (w : World) : Calls Tryd.prog 29 #[] w fun e w' => ∃ mb, e = .returned (.map (some mb)) ∧ Parts w mb w' ∧ Only [] w w' := by
  go_enter Tryd.func29, Tryd.ntmps29
  have HO : Hid (Only [] w w) := Lib.hid (Only.refl _ _)
  go_wp2_with fail
  refine (integer_c 4611686018427387903 38 .st rfl _).mono ?_
  rintro e wa1 ⟨v0, v1, v2, rfl, hp, ⟨f0, c0, f1, c1, f2, c2, rfl, rfl, rfl⟩, ho⟩
  go_upto_region 2 with fail
  have hPB := PB.new (B := w.heap.size) HO.out.size hp
  have hO := (HO.out.trans ho).alloc (.cells #[.func (.func f0) #[] c0, .func (.func f1) #[] c1, .func (.func f2) #[] c2] 80)
  have ho2 := ho.alloc (.cells #[.func (.func f0) #[] c0, .func (.func f1) #[] c1, .func (.func f2) #[] c2] 80)
  clear hp ho ho2 HO
  generalize wa1.alloc (.cells #[.func (.func f0) #[] c0, .func (.func f1) #[] c1, .func (.func f2) #[] c2] 80) = w1 at *
  generalize wa1.heap.size = p1 at *
  have HP1 := Lib.hid hPB
  have HO := Lib.hid hO
  clear hO hPB
  go_wp2_with fail
  refine (integer_c 4611686018427387903 39 .mx (.inl rfl) _).mono ?_
  rintro e wa2 ⟨v0, v1, v2, rfl, hp, ⟨f0, c0, f1, c1, f2, c2, rfl, rfl, rfl⟩, ho⟩
  go_upto_region 3 with fail
  have hPB := PB.new (B := w.heap.size) HO.out.size hp
  have hO := (HO.out.trans ho).alloc (.cells #[.func (.func f0) #[] c0, .func (.func f1) #[] c1, .func (.func f2) #[] c2] 80)
  have ho2 := ho.alloc (.cells #[.func (.func f0) #[] c0, .func (.func f1) #[] c1, .func (.func f2) #[] c2] 80)
  replace HP1 := Lib.hid (HP1.out.keep0 ho2)
  clear hp ho ho2 HO
  generalize wa2.alloc (.cells #[.func (.func f0) #[] c0, .func (.func f1) #[] c1, .func (.func f2) #[] c2] 80) = w2 at *
  generalize wa2.heap.size = p2 at *
  have HP2 := Lib.hid hPB
  have HO := Lib.hid hO
  clear hO hPB
  go_wp2_with fail
  refine (integer_c 1099511627776 40 .mx (.inr rfl) _).mono ?_
  rintro e wa3 ⟨v0, v1, v2, rfl, hp, ⟨f0, c0, f1, c1, f2, c2, rfl, rfl, rfl⟩, ho⟩
  go_upto_region 4 with fail
  have hPB := PB.new (B := w.heap.size) HO.out.size hp
  have hO := (HO.out.trans ho).alloc (.cells #[.func (.func f0) #[] c0, .func (.func f1) #[] c1, .func (.func f2) #[] c2] 80)
  have ho2 := ho.alloc (.cells #[.func (.func f0) #[] c0, .func (.func f1) #[] c1, .func (.func f2) #[] c2] 80)
  replace HP1 := Lib.hid (HP1.out.keep0 ho2)
  replace HP2 := Lib.hid (HP2.out.keep0 ho2)
  clear hp ho ho2 HO
  generalize wa3.alloc (.cells #[.func (.func f0) #[] c0, .func (.func f1) #[] c1, .func (.func f2) #[] c2] 80) = w3 at *
  generalize wa3.heap.size = p3 at *
  have HP3 := Lib.hid hPB
  have HO := Lib.hid hO
  clear hO hPB
  go_wp2_with fail
  refine (integer_c 1073741823 41 .cd rfl _).mono ?_
  rintro e wa4 ⟨v0, v1, v2, rfl, hp, ⟨f0, c0, f1, c1, f2, c2, rfl, rfl, rfl⟩, ho⟩
  go_upto_region 5 with fail
  have hPB := PB.new (B := w.heap.size) HO.out.size hp
  have hO := (HO.out.trans ho).alloc (.cells #[.func (.func f0) #[] c0, .func (.func f1) #[] c1, .func (.func f2) #[] c2] 80)
  have ho2 := ho.alloc (.cells #[.func (.func f0) #[] c0, .func (.func f1) #[] c1, .func (.func f2) #[] c2] 80)
  replace HP1 := Lib.hid (HP1.out.keep0 ho2)
  replace HP2 := Lib.hid (HP2.out.keep0 ho2)
  replace HP3 := Lib.hid (HP3.out.keep0 ho2)
  clear hp ho ho2 HO
  generalize wa4.alloc (.cells #[.func (.func f0) #[] c0, .func (.func f1) #[] c1, .func (.func f2) #[] c2] 80) = w4 at *
  generalize wa4.heap.size = p4 at *
  have HP4 := Lib.hid hPB
  have HO := Lib.hid hO
  clear hO hPB
  go_wp2_with fail
  refine (integer_c 1099511627776 42 .off rfl _).mono ?_
  rintro e wa5 ⟨v0, v1, v2, rfl, hp, ⟨f0, c0, f1, c1, f2, c2, rfl, rfl, rfl⟩, ho⟩
  go_upto_region 6 with fail
  have hPB := PB.new (B := w.heap.size) HO.out.size hp
  have hO := (HO.out.trans ho).alloc (.cells #[.func (.func f0) #[] c0, .func (.func f1) #[] c1, .func (.func f2) #[] c2] 80)
  have ho2 := ho.alloc (.cells #[.func (.func f0) #[] c0, .func (.func f1) #[] c1, .func (.func f2) #[] c2] 80)
  replace HP1 := Lib.hid (HP1.out.keep0 ho2)
  replace HP2 := Lib.hid (HP2.out.keep0 ho2)
  replace HP3 := Lib.hid (HP3.out.keep0 ho2)
  replace HP4 := Lib.hid (HP4.out.keep0 ho2)
  clear hp ho ho2 HO
  generalize wa5.alloc (.cells #[.func (.func f0) #[] c0, .func (.func f1) #[] c1, .func (.func f2) #[] c2] 80) = w5 at *
  generalize wa5.heap.size = p5 at *
  have HP5 := Lib.hid hPB
  have HO := Lib.hid hO
  clear hO hPB
  go_wp2_with fail
  refine (integer_c 4611686018427387903 43 .sq rfl _).mono ?_
  rintro e wa6 ⟨v0, v1, v2, rfl, hp, ⟨f0, c0, f1, c1, f2, c2, rfl, rfl, rfl⟩, ho⟩
  go_upto_region 7 with fail
  have hPB := PB.new (B := w.heap.size) HO.out.size hp
  have hO := (HO.out.trans ho).alloc (.cells #[.func (.func f0) #[] c0, .func (.func f1) #[] c1, .func (.func f2) #[] c2] 80)
  have ho2 := ho.alloc (.cells #[.func (.func f0) #[] c0, .func (.func f1) #[] c1, .func (.func f2) #[] c2] 80)
  replace HP1 := Lib.hid (HP1.out.keep0 ho2)
  replace HP2 := Lib.hid (HP2.out.keep0 ho2)
  replace HP3 := Lib.hid (HP3.out.keep0 ho2)
  replace HP4 := Lib.hid (HP4.out.keep0 ho2)
  replace HP5 := Lib.hid (HP5.out.keep0 ho2)
  clear hp ho ho2 HO
  generalize wa6.alloc (.cells #[.func (.func f0) #[] c0, .func (.func f1) #[] c1, .func (.func f2) #[] c2] 80) = w6 at *
  generalize wa6.heap.size = p6 at *
  have HP6 := Lib.hid hPB
  have HO := Lib.hid hO
  clear hO hPB
  go_wp2_with fail
  refine (integer_c 4611686018427387903 44 .dl rfl _).mono ?_
  rintro e wa7 ⟨v0, v1, v2, rfl, hp, ⟨f0, c0, f1, c1, f2, c2, rfl, rfl, rfl⟩, ho⟩
  go_upto_region 8 with fail
  have hPB := PB.new (B := w.heap.size) HO.out.size hp
  have hO := (HO.out.trans ho).alloc (.cells #[.func (.func f0) #[] c0, .func (.func f1) #[] c1, .func (.func f2) #[] c2] 80)
  have ho2 := ho.alloc (.cells #[.func (.func f0) #[] c0, .func (.func f1) #[] c1, .func (.func f2) #[] c2] 80)
  replace HP1 := Lib.hid (HP1.out.keep0 ho2)
  replace HP2 := Lib.hid (HP2.out.keep0 ho2)
  replace HP3 := Lib.hid (HP3.out.keep0 ho2)
  replace HP4 := Lib.hid (HP4.out.keep0 ho2)
  replace HP5 := Lib.hid (HP5.out.keep0 ho2)
  replace HP6 := Lib.hid (HP6.out.keep0 ho2)
  clear hp ho ho2 HO
  generalize wa7.alloc (.cells #[.func (.func f0) #[] c0, .func (.func f1) #[] c1, .func (.func f2) #[] c2] 80) = w7 at *
  generalize wa7.heap.size = p7 at *
  have HP7 := Lib.hid hPB
  have HO := Lib.hid hO
  clear hO hPB
  go_wp2_with fail
  refine (text_c 0 1024 _).mono ?_
  rintro e wa8 ⟨v0, v1, v2, rfl, hp, ⟨f0, c0, f1, c1, f2, c2, rfl, rfl, rfl⟩, ho⟩
  go_wp2_with fail
  refine (text_c 0 64 _).mono ?_
  rintro e wa9 ⟨v0, v1, v2, rfl, hp9, ⟨g0, d0, g1, d1, g2, d2, rfl, rfl, rfl⟩, ho9⟩
  go_upto_region 9 with fail
  have hPB8 : PB _ w.heap.size (.text 0 1024) wa9.heap.size := (PB.new (B := w.heap.size) HO.out.size (hp.keep (S := []) ho9 (by simp))).keep0 ((Only.refl [] _).alloc (.cells #[.func (.func g0) #[] d0, .func (.func g1) #[] d1, .func (.func g2) #[] d2] 80))
  have hPB9 := PB.new (w' := wa9.alloc (.cells #[.func (.func f0) #[] c0, .func (.func f1) #[] c1, .func (.func f2) #[] c2] 80)) (B := w.heap.size) (HO.out.trans ho).size (hp9.keep (S := []) ((Only.refl [] _).alloc (.cells #[.func (.func f0) #[] c0, .func (.func f1) #[] c1, .func (.func f2) #[] c2] 80)) (by simp))
  have hO := (((HO.out.trans ho).trans ho9).alloc (.cells #[.func (.func f0) #[] c0, .func (.func f1) #[] c1, .func (.func f2) #[] c2] 80)).alloc (.cells #[.func (.func g0) #[] d0, .func (.func g1) #[] d1, .func (.func g2) #[] d2] 80)
  have ho2 := ((ho.trans ho9).alloc (.cells #[.func (.func f0) #[] c0, .func (.func f1) #[] c1, .func (.func f2) #[] c2] 80)).alloc (.cells #[.func (.func g0) #[] d0, .func (.func g1) #[] d1, .func (.func g2) #[] d2] 80)
  replace HP1 := Lib.hid (HP1.out.keep0 ho2)
  replace HP2 := Lib.hid (HP2.out.keep0 ho2)
  replace HP3 := Lib.hid (HP3.out.keep0 ho2)
  replace HP4 := Lib.hid (HP4.out.keep0 ho2)
  replace HP5 := Lib.hid (HP5.out.keep0 ho2)
  replace HP6 := Lib.hid (HP6.out.keep0 ho2)
  replace HP7 := Lib.hid (HP7.out.keep0 ho2)
  clear hp hp9 ho ho9 ho2 HO
  have hsz9 : (wa9.alloc (.cells #[.func (.func f0) #[] c0, .func (.func f1) #[] c1, .func (.func f2) #[] c2] 80)).heap.size = wa9.heap.size + 1 := by simp
  rw [hsz9] at hPB9
  clear hsz9
  generalize (wa9.alloc (.cells #[.func (.func f0) #[] c0, .func (.func f1) #[] c1, .func (.func f2) #[] c2] 80)).alloc (.cells #[.func (.func g0) #[] d0, .func (.func g1) #[] d1, .func (.func g2) #[] d2] 80) = w9 at *
  generalize wa9.heap.size + 1 = p9 at *
  generalize wa9.heap.size = p8 at *
  have HP8 := Lib.hid hPB8
  have HP9 := Lib.hid hPB9
  have HO := Lib.hid hO
  clear hO hPB8 hPB9
  go_wp2_with fail
  refine (chal_c _).mono ?_
  rintro e wa10 ⟨v0, v1, v2, rfl, hp, ⟨f0, c0, f1, c1, f2, c2, rfl, rfl, rfl⟩, ho⟩
  go_upto_region 10 with fail
  have hPB := PB.new (B := w.heap.size) HO.out.size hp
  have hO := (HO.out.trans ho).alloc (.cells #[.func (.func f0) #[] c0, .func (.func f1) #[] c1, .func (.func f2) #[] c2] 80)
  have ho2 := ho.alloc (.cells #[.func (.func f0) #[] c0, .func (.func f1) #[] c1, .func (.func f2) #[] c2] 80)
  replace HP1 := Lib.hid (HP1.out.keep0 ho2)
  replace HP2 := Lib.hid (HP2.out.keep0 ho2)
  replace HP3 := Lib.hid (HP3.out.keep0 ho2)
  replace HP4 := Lib.hid (HP4.out.keep0 ho2)
  replace HP5 := Lib.hid (HP5.out.keep0 ho2)
  replace HP6 := Lib.hid (HP6.out.keep0 ho2)
  replace HP7 := Lib.hid (HP7.out.keep0 ho2)
  replace HP8 := Lib.hid (HP8.out.keep0 ho2)
  replace HP9 := Lib.hid (HP9.out.keep0 ho2)
  clear hp ho ho2 HO
  generalize wa10.alloc (.cells #[.func (.func f0) #[] c0, .func (.func f1) #[] c1, .func (.func f2) #[] c2] 80) = w10 at *
  generalize wa10.heap.size = p10 at *
  have HP10 := Lib.hid hPB
  have HO := Lib.hid hO
  clear hO hPB
  go_wp2_with fail
  refine (cidp_c _).mono ?_
  rintro e wa11 ⟨v0, v1, v2, rfl, hp, ⟨f0, c0, f1, c1, f2, c2, rfl, rfl, rfl⟩, ho⟩
  go_upto_region 11 with fail
  have hPB := PB.new (B := w.heap.size) HO.out.size hp
  have hO := (HO.out.trans ho).alloc (.cells #[.func (.func f0) #[] c0, .func (.func f1) #[] c1, .func (.func f2) #[] c2] 80)
  have ho2 := ho.alloc (.cells #[.func (.func f0) #[] c0, .func (.func f1) #[] c1, .func (.func f2) #[] c2] 80)
  replace HP1 := Lib.hid (HP1.out.keep0 ho2)
  replace HP2 := Lib.hid (HP2.out.keep0 ho2)
  replace HP3 := Lib.hid (HP3.out.keep0 ho2)
  replace HP4 := Lib.hid (HP4.out.keep0 ho2)
  replace HP5 := Lib.hid (HP5.out.keep0 ho2)
  replace HP6 := Lib.hid (HP6.out.keep0 ho2)
  replace HP7 := Lib.hid (HP7.out.keep0 ho2)
  replace HP8 := Lib.hid (HP8.out.keep0 ho2)
  replace HP9 := Lib.hid (HP9.out.keep0 ho2)
  replace HP10 := Lib.hid (HP10.out.keep0 ho2)
  clear hp ho ho2 HO
  generalize wa11.alloc (.cells #[.func (.func f0) #[] c0, .func (.func f1) #[] c1, .func (.func f2) #[] c2] 80) = w11 at *
  generalize wa11.heap.size = p11 at *
  have HP11 := Lib.hid hPB
  have HO := Lib.hid hO
  clear hO hPB
  go_upto_region 12 with fail
  have hO := HO.out.alloc (.cells #[.func (.func 49) #[] #[], .func (.func 50) #[] #[], .func (.func 51) #[] #[]] 80)
  have ho2 := (Only.refl [] w11).alloc (.cells #[.func (.func 49) #[] #[], .func (.func 50) #[] #[], .func (.func 51) #[] #[]] 80)
  have hP12 : PB (w11.alloc (.cells #[.func (.func 49) #[] #[], .func (.func 50) #[] #[], .func (.func 51) #[] #[]] 80)) w.heap.size .ranges w11.heap.size := ⟨_, _, _, _, _, _, At.new _ _ _, rfl, rfl, rfl⟩
  have hP1 := HP1.out.keep0 ho2
  clear HP1
  have hP2 := HP2.out.keep0 ho2
  clear HP2
  have hP3 := HP3.out.keep0 ho2
  clear HP3
  have hP4 := HP4.out.keep0 ho2
  clear HP4
  have hP5 := HP5.out.keep0 ho2
  clear HP5
  have hP6 := HP6.out.keep0 ho2
  clear HP6
  have hP7 := HP7.out.keep0 ho2
  clear HP7
  have hP8 := HP8.out.keep0 ho2
  clear HP8
  have hP9 := HP9.out.keep0 ho2
  clear HP9
  have hP10 := HP10.out.keep0 ho2
  clear HP10
  have hP11 := HP11.out.keep0 ho2
  clear HP11
  clear HO ho2
  generalize w11.heap.size = p12 at *
  generalize w11.alloc _ = w12 at *
  have hdr : Only [] w12 { w12 with drawn := w12.drawn + 1 } := (Only.refl [] w12).drew
  refine region_map (p := selp p1 p2 p3 p4 p5 p6 p7 p8 p9 p10 p11 p12) (B := w.heap.size) (W := { w12 with drawn := w12.drawn + 1 }) (by kernel_rfl) (by kernel_rfl) (by kernel_rfl) (by kernel_rfl) rfl ?_ ?_ (by kernel_rfl) rfl ?_ ?_
  · intro j j1 j2
    match j, j1, j2 with
    | 1, _, _ => exact hP1.keep0 hdr
    | 2, _, _ => exact hP2.keep0 hdr
    | 3, _, _ => exact hP3.keep0 hdr
    | 4, _, _ => exact hP4.keep0 hdr
    | 5, _, _ => exact hP5.keep0 hdr
    | 6, _, _ => exact hP6.keep0 hdr
    | 7, _, _ => exact hP7.keep0 hdr
    | 8, _, _ => exact hP8.keep0 hdr
    | 9, _, _ => exact hP9.keep0 hdr
    | 10, _, _ => exact hP10.keep0 hdr
    | 11, _, _ => exact hP11.keep0 hdr
    | 12, _, _ => exact hP12.keep0 hdr
    | (n + 13), _, j2 => exact absurd j2 (by omega)
  · exact (hO.trans hdr).size
  · intro j j1 j2
    match j, j1, j2 with
    | 1, _, _ => rfl
    | 2, _, _ => rfl
    | 3, _, _ => rfl
    | 4, _, _ => rfl
    | 5, _, _ => rfl
    | 6, _, _ => rfl
    | 7, _, _ => rfl
    | 8, _, _ => rfl
    | 9, _, _ => rfl
    | 10, _, _ => rfl
    | 11, _, _ => rfl
    | 12, _, _ => rfl
    | (n + 13), _, j2 => exact absurd j2 (by omega)
  · intro a' w' mb es c ho hd0 h0 hm hmb hM
    have hsz := (hO.trans hdr).size
    have hO2 := (hO.trans hdr).trans ho
    rename_i hK
    clear hP1 hP2 hP3 hP4 hP5 hP6 hP7 hP8 hP9 hP10 hP11 hP12 hO hdr ho
    obtain ⟨tmps, defers⟩ := a'
    simp only at hd0 h0
    subst hd0
    refine hK _ _ ?_
    go_wp2_with fail
    refine ⟨rfl, .map (some mb), ?_, mb, rfl, ⟨es, c, hm, by omega, hM⟩, hO2⟩
    simp [results, Tryd.f29, go_sem, Array.getD_eq_getD_getElem?, h0]
end Go.Proofs.YtgiekhohhogdiaaDoor
/- Contracts of package frame: the three functions of a part, whichever part it is. -/
namespace Go.Proofs.YtgiekhohhogdiaaDoor
open Go Go.RowKit
set_option linter.unusedVariables false
set_option linter.unusedSimpArgs false

set_option maxRecDepth 100000 in
set_option maxHeartbeats 1000000 in
theorem clr_ranges (b : Nat) (f : Fr) (rv : Value) (w : World) (hA : FrAt w b f rv) :
    Calls Tryd.prog 51 #[.pointer (some ⟨b, 0, none⟩)] w fun e w' => e = .returned (.tuple #[]) ∧ FrAt w' b { f with rg := [] } (.slice none 0 0) ∧ Only [b] w w' := by
  have c0 : ∃ u, w.cell? ⟨b, 9, none⟩ = some u := ⟨_, At.cell hA 9 rfl⟩
  obtain ⟨u, c0⟩ := c0
  have fr : w.frozen? ⟨b, 9, none⟩ = false := At.free hA 9
  have HA := Lib.hid hA
  clear hA
  go_enter Tryd.func51, Tryd.ntmps51
  go_wp2_with fail
  go_end0
  exact ⟨rfl, (show At w b 33 _ from HA.out).set 9 _ rfl, (Only.refl [b] w).put (by simp) _⟩
/-- The bounds of a text are small. -/
def PtOk : Pt → Prop
  | .text least most => least ≤ 1024 ∧ most ≤ 1024
  | _ => True
theorem tab_ok {k : Int} {l : List Pt} (h : tab k = some l) : ∀ p ∈ l, PtOk p := by
  refine tab_ind (P := fun _ l => ∀ p ∈ l, PtOk p) ?_ ?_ ?_ ?_ ?_ ?_ ?_ ?_ ?_ ?_ ?_ ?_ ?_ ?_ ?_ ?_ ?_ ?_ ?_ ?_ ?_ k l h
  all_goals simp [PtOk]
theorem put_p {w : World} {B b f0 : Nat} {c0 : Array Value} {v1 v2 rv : Value} {p : Pt} {f : Fr} (hV : PartV w B p (.func (.func f0) #[] c0) v1 v2) (hk : PtOk p) (hA : FrAt w b f rv) (hf : FrWf f) (hR : RgAt w rv f.rg) (hsz : f.rg.length ≤ 4611686018427387903) :
    Calls Tryd.prog f0 (#[.pointer (some ⟨b, 0, none⟩)] ++ c0) w fun e w' => e = strE (putP p f) ∧ Only [] w w' := by
  cases p with
  | int most x =>
    obtain ⟨fk, q1, q2, hx, _, _, h0, _, _, g1, g2⟩ := hV
    simp only [fnv, Value.func.injEq, Fn.func.injEq, true_and] at h0
    obtain ⟨rfl, rfl⟩ := h0
    cases x with
    | st => simp only [FldFn] at hx; subst hx; exact put_st b q1 q2 f rv most w hA g1 g2 hf.st
    | off => simp only [FldFn] at hx; subst hx; exact put_off b q1 q2 f rv most w hA g1 g2 hf.off
    | cd => simp only [FldFn] at hx; subst hx; exact put_cd b q1 q2 f rv most w hA g1 g2 hf.cd
    | sq => simp only [FldFn] at hx; subst hx; exact put_sq b q1 q2 f rv most w hA g1 g2 hf.sq
    | dl => simp only [FldFn] at hx; subst hx; exact put_dl b q1 q2 f rv most w hA g1 g2 hf.dl
    | mx =>
      rcases hx with rfl | rfl
      · exact put_mx b q1 q2 f rv most w hA g1 g2 hf.mx
      · exact put_mz b q1 q2 f rv most w hA g1 g2 hf.mx
  | text least most =>
    obtain ⟨q1, q2, _, _, h0, _, _, g1, g2⟩ := hV
    simp only [fnv, Value.func.injEq, Fn.func.injEq, true_and] at h0
    obtain ⟨rfl, rfl⟩ := h0
    exact put_text b q1 q2 f rv least most hk.1 hk.2 hf w hA g1 g2
  | chal =>
    obtain ⟨q1, q2, _, _, h0, _, _, g1, g2⟩ := hV
    simp only [fnv, Value.func.injEq, Fn.func.injEq, true_and] at h0
    obtain ⟨rfl, rfl⟩ := h0
    exact put_chal b q1 q2 f rv hf w hA g1 g2
  | cidp =>
    obtain ⟨q1, q2, _, _, h0, _, _, g1, g2⟩ := hV
    simp only [fnv, Value.func.injEq, Fn.func.injEq, true_and] at h0
    obtain ⟨rfl, rfl⟩ := h0
    exact put_cidp b q1 q2 f rv hf w hA g1 g2
  | uni =>
    obtain ⟨h0, _, _⟩ := hV
    simp only [fnv, Value.func.injEq, Fn.func.injEq, true_and] at h0
    obtain ⟨rfl, rfl⟩ := h0
    exact put_uni b f rv w hA
  | retire =>
    obtain ⟨q1, _, h0, _, _, g1⟩ := hV
    simp only [fnv, Value.func.injEq, Fn.func.injEq, true_and] at h0
    obtain ⟨rfl, rfl⟩ := h0
    exact put_retire b f rv hf w hA
  | ranges =>
    obtain ⟨h0, _, _⟩ := hV
    simp only [fnv, Value.func.injEq, Fn.func.injEq, true_and] at h0
    obtain ⟨rfl, rfl⟩ := h0
    exact put_ranges b f rv w hA hR hsz
/-- The slice of the ranges once a part is cleared. -/
def clrV : Pt → Value → Value
  | .ranges, _ => .slice none 0 0
  | _, rv => rv
theorem clr_p {w : World} {B b f2 : Nat} {c2 : Array Value} {v0 v1 rv : Value} {p : Pt} {f : Fr} (hV : PartV w B p v0 v1 (.func (.func f2) #[] c2)) (hA : FrAt w b f rv) :
    Calls Tryd.prog f2 (#[.pointer (some ⟨b, 0, none⟩)] ++ c2) w fun e w' => e = .returned (.tuple #[]) ∧ FrAt w' b (clrP p f) (clrV p rv) ∧ Only [b] w w' := by
  cases p with
  | int most x =>
    obtain ⟨fk, q1, q2, hx, _, _, _, _, h0, g1, g2⟩ := hV
    simp only [fnv, Value.func.injEq, Fn.func.injEq, true_and] at h0
    obtain ⟨rfl, rfl⟩ := h0
    cases x with
    | st => simp only [FldFn] at hx; subst hx; exact clr_st b q1 f rv w hA g1
    | off => simp only [FldFn] at hx; subst hx; exact clr_off b q1 f rv w hA g1
    | cd => simp only [FldFn] at hx; subst hx; exact clr_cd b q1 f rv w hA g1
    | sq => simp only [FldFn] at hx; subst hx; exact clr_sq b q1 f rv w hA g1
    | dl => simp only [FldFn] at hx; subst hx; exact clr_dl b q1 f rv w hA g1
    | mx =>
      rcases hx with rfl | rfl
      · exact clr_mx b q1 f rv w hA g1
      · exact clr_mz b q1 f rv w hA g1
  | text least most =>
    obtain ⟨q1, q2, _, _, _, _, h0, g1, g2⟩ := hV
    simp only [fnv, Value.func.injEq, Fn.func.injEq, true_and] at h0
    obtain ⟨rfl, rfl⟩ := h0
    exact clr_text b f rv w hA
  | chal =>
    obtain ⟨q1, q2, _, _, _, _, h0, g1, g2⟩ := hV
    simp only [fnv, Value.func.injEq, Fn.func.injEq, true_and] at h0
    obtain ⟨rfl, rfl⟩ := h0
    exact clr_chal b q1 f rv w hA g1
  | cidp =>
    obtain ⟨q1, q2, _, _, _, _, h0, g1, g2⟩ := hV
    simp only [fnv, Value.func.injEq, Fn.func.injEq, true_and] at h0
    obtain ⟨rfl, rfl⟩ := h0
    exact clr_cidp b q1 f rv w hA g1
  | uni =>
    obtain ⟨_, _, h0⟩ := hV
    simp only [fnv, Value.func.injEq, Fn.func.injEq, true_and] at h0
    obtain ⟨rfl, rfl⟩ := h0
    exact clr_uni b f rv w hA
  | retire =>
    obtain ⟨q1, _, _, _, h0, g1⟩ := hV
    simp only [fnv, Value.func.injEq, Fn.func.injEq, true_and] at h0
    obtain ⟨rfl, rfl⟩ := h0
    exact clr_rt b q1 f rv w hA g1
  | ranges =>
    obtain ⟨_, _, h0⟩ := hV
    simp only [fnv, Value.func.injEq, Fn.func.injEq, true_and] at h0
    obtain ⟨rfl, rfl⟩ := h0
    exact clr_ranges b f rv w hA
/-- What reading a part leaves: the ranges are there only behind the part that reads them. -/
def GetQ (p : Pt) (R : Option (Fr × List UInt8)) (rb b : Nat) (s : ByteArray) (w : World) (e : Ending) (w' : World) : Prop := Only [rb, b] w w' ∧ match R with
    | some (g, l) => e = .returned (.tuple #[]) ∧ ∃ rv', FrAt w' b g rv' ∧ RgAt w' rv' g.rg ∧ RgNew w.heap.size rv' ∧ (p.isR = false → rv' = .slice none 0 0 ∧ g.rg = []) ∧ ∃ a', a' ≤ s.size ∧ l = s.data.toList.drop a' ∧ RdAt w' rb s a'
    | none => e = MAL
theorem RgAt.nil (w : World) : RgAt w (.slice none 0 0) [] := ⟨none, 0, rfl, fun i hi => by simp at hi⟩
theorem GetQ.of_post {p : Pt} {rb b : Nat} {s : ByteArray} {a : Nat} {f : Fr} {w w' : World} {e : Ending} (h : GetPost p rb b s a f (.slice none 0 0) w e w') (hrg : f.rg = []) (hp : p.isR = false) (hg : ∀ g l, getP p f (s.data.toList.drop a) = some (g, l) → g.rg = f.rg) : GetQ p (getP p f (s.data.toList.drop a)) rb b s w e w' := by
  obtain ⟨h1, h2⟩ := h
  refine ⟨h1, ?_⟩
  cases hR : getP p f (s.data.toList.drop a) with
  | none => rw [hR] at h2; exact h2
  | some q =>
    obtain ⟨g, l⟩ := q
    rw [hR] at h2
    have := hg g l hR
    exact ⟨h2.1, _, h2.2.1, by rw [this, hrg]; exact RgAt.nil w', RgNew.nil _, fun _ => ⟨rfl, by rw [this, hrg]⟩, h2.2.2⟩
theorem GetPost.num {p : Pt} {rb b : Nat} {s : ByteArray} {a : Nat} {f : Fr} {rv : Value} {w w' : World} {e : Ending} (u : Int → Fr) (ha : a ≤ s.size) (hp : getP p f (s.data.toList.drop a) = (numD (s.data.toList.drop a)).map fun q => (u q.1, q.2))
    (h : Only [rb, b] w w' ∧ match vDec (s.data.toList.drop a) with
      | some (n, k) => e = .returned (.tuple #[]) ∧ FrAt w' b (u n) rv ∧ RdAt w' rb s (a + k)
      | none => e = MAL) : GetPost p rb b s a f rv w e w' := by
  obtain ⟨h1, h2⟩ := h
  refine ⟨h1, ?_⟩
  rw [hp]
  unfold numD
  cases hd : vDec (s.data.toList.drop a) with
  | none => rw [hd] at h2; exact h2
  | some q =>
    obtain ⟨n, k⟩ := q
    rw [hd] at h2
    obtain ⟨h0, hn, h3, h4, h5⟩ := vDec_some _ n k hd
    have hk := drop_len s a
    refine ⟨h2.1, h2.2.1, a + k, ?_, by simp [List.drop_drop], h2.2.2⟩
    first | omega | (have := congrArg List.length h5; simp at this; omega)
theorem get_p {w : World} {B rb b f1 : Nat} {c1 : Array Value} {v0 v2 : Value} {p : Pt} {f : Fr} {s : ByteArray} {a : Nat} (hV : PartV w B p v0 (.func (.func f1) #[] c1) v2) (hrb : rb ≠ b) (hB : rb < B ∧ b < B) (ha : a ≤ s.size) (hs : s.size ≤ 4611686018427387903) (hR : RdAt w rb s a) (hA : FrAt w b f (.slice none 0 0)) (hrg : f.rg = []) :
    Calls Tryd.prog f1 (#[.pointer (some ⟨rb, 0, none⟩), .pointer (some ⟨b, 0, none⟩)] ++ c1) w (GetQ p (getP p f (s.data.toList.drop a)) rb b s w) := by
  cases p with
  | int most x =>
    obtain ⟨fk, q1, q2, hx, _, _, _, h0, _, g1, g2⟩ := hV
    simp only [fnv, Value.func.injEq, Fn.func.injEq, true_and] at h0
    obtain ⟨rfl, rfl⟩ := h0
    have hg : ∀ g l, getP (.int most x) f (s.data.toList.drop a) = some (g, l) → g.rg = f.rg := by
      intro g l h
      simp only [getP] at h
      cases hn : numD (s.data.toList.drop a) with
      | none => rw [hn] at h; cases h
      | some q => rw [hn] at h; cases h; exact set_rg f x _
    refine Calls.mono ?_ (fun e w' h => GetQ.of_post h hrg rfl hg)
    cases x with
    | st => simp only [FldFn] at hx; subst hx; exact (get_st rb b q1 hrb s a ha hs f _ w hR hA g1).mono (fun e w' h => GetPost.num (fun n => f.set .st n) ha rfl h)
    | off => simp only [FldFn] at hx; subst hx; exact (get_off rb b q1 hrb s a ha hs f _ w hR hA g1).mono (fun e w' h => GetPost.num (fun n => f.set .off n) ha rfl h)
    | cd => simp only [FldFn] at hx; subst hx; exact (get_cd rb b q1 hrb s a ha hs f _ w hR hA g1).mono (fun e w' h => GetPost.num (fun n => f.set .cd n) ha rfl h)
    | sq => simp only [FldFn] at hx; subst hx; exact (get_sq rb b q1 hrb s a ha hs f _ w hR hA g1).mono (fun e w' h => GetPost.num (fun n => f.set .sq n) ha rfl h)
    | dl => simp only [FldFn] at hx; subst hx; exact (get_dl rb b q1 hrb s a ha hs f _ w hR hA g1).mono (fun e w' h => GetPost.num (fun n => f.set .dl n) ha rfl h)
    | mx =>
      rcases hx with rfl | rfl
      · exact (get_mx rb b q1 hrb s a ha hs f _ w hR hA g1).mono (fun e w' h => GetPost.num (fun n => f.set .mx n) ha rfl h)
      · exact (get_mz rb b q1 hrb s a ha hs f _ w hR hA g1).mono (fun e w' h => GetPost.num (fun n => f.set .mx n) ha rfl h)
  | text least most =>
    obtain ⟨q1, q2, _, _, _, h0, _, g1, g2⟩ := hV
    simp only [fnv, Value.func.injEq, Fn.func.injEq, true_and] at h0
    obtain ⟨rfl, rfl⟩ := h0
    refine (get_text rb b hrb least most s a ha hs f _ w hR hA).mono (fun e w' h => GetQ.of_post h hrg rfl ?_)
    intro g l h
    simp only [getP] at h
    split at h
    · cases h
    · split at h <;> cases h
      rfl
  | chal =>
    obtain ⟨q1, q2, l1, l2, _, h0, _, g1, g2⟩ := hV
    simp only [fnv, Value.func.injEq, Fn.func.injEq, true_and] at h0
    obtain ⟨rfl, rfl⟩ := h0
    refine (get_chal rb b q1 q2 hrb (by omega) s a ha hs f _ w hR hA g1 g2).mono (fun e w' h => GetQ.of_post h hrg rfl ?_)
    intro g l h
    simp only [getP] at h
    split at h <;> cases h
    rfl
  | cidp =>
    obtain ⟨q1, q2, l1, l2, _, h0, _, g1, g2⟩ := hV
    simp only [fnv, Value.func.injEq, Fn.func.injEq, true_and] at h0
    obtain ⟨rfl, rfl⟩ := h0
    refine (get_cidp rb b q1 q2 hrb (by omega) s a ha hs f _ w hR hA g1 g2).mono (fun e w' h => GetQ.of_post h hrg rfl ?_)
    intro g l h
    simp only [getP] at h
    split at h <;> cases h
    rfl
  | uni =>
    obtain ⟨_, h0, _⟩ := hV
    simp only [fnv, Value.func.injEq, Fn.func.injEq, true_and] at h0
    obtain ⟨rfl, rfl⟩ := h0
    refine (get_uni rb b hrb s a ha hs f _ w hR hA).mono (fun e w' h => GetQ.of_post h hrg rfl ?_)
    intro g l h
    simp only [getP] at h
    split at h
    · cases h
    · split at h <;> cases h
      rfl
  | retire =>
    obtain ⟨q1, _, _, h0, _, g1⟩ := hV
    simp only [fnv, Value.func.injEq, Fn.func.injEq, true_and] at h0
    obtain ⟨rfl, rfl⟩ := h0
    have hg : ∀ g l, getP .retire f (s.data.toList.drop a) = some (g, l) → g.rg = f.rg := by
      intro g l h
      simp only [getP] at h
      cases hn : numD (s.data.toList.drop a) with
      | none => rw [hn] at h; cases h
      | some q => rw [hn] at h; cases h; rfl
    exact (get_rt rb b q1 hrb s a ha hs f _ w hR hA g1).mono (fun e w' h => GetQ.of_post (GetPost.num (fun n => { f with rt := n }) ha rfl h) hrg rfl hg)
  | ranges =>
    obtain ⟨_, h0, _⟩ := hV
    simp only [fnv, Value.func.injEq, Fn.func.injEq, true_and] at h0
    obtain ⟨rfl, rfl⟩ := h0
    refine (get_ranges rb b hrb s a ha hs f hrg w hR hA).mono (fun e w' h => ?_)
    obtain ⟨h1, h2⟩ := h
    refine ⟨h1, ?_⟩
    cases hR2 : getP .ranges f (s.data.toList.drop a) with
    | none => rw [hR2] at h2; exact h2
    | some q =>
      obtain ⟨g, l⟩ := q
      rw [hR2] at h2
      obtain ⟨e1, rv', e2, e3, e3n, e4⟩ := h2
      exact ⟨e1, rv', e2, e3, e3n, fun h => by simp [Pt.isR] at h, e4⟩
end Go.Proofs.YtgiekhohhogdiaaDoor
/- Contracts of package frame: equality of ranges and of frames. -/
namespace Go.Proofs.YtgiekhohhogdiaaDoor
open Go Go.RowKit
set_option linter.unusedVariables false
set_option linter.unusedSimpArgs false

def EqRel (w : World) (L M : List (Int × Int)) (gk : Nat) (ix : Value) (wr : World) : Prop := ∃ k : Nat, gk = L.length - k ∧ k ≤ L.length ∧ ix = .int .i64 k ∧ L.take k = M.take k ∧ Only [] w wr
set_option maxRecDepth 100000 in
set_option maxHeartbeats 2000000 in
theorem equal_c (rv sv : Value) (L M : List (Int × Int)) (w : World) (hL : RgAt w rv L) (hM : RgAt w sv M) (hsz : L.length ≤ 4611686018427387903) (hsz2 : M.length ≤ 4611686018427387903) :
    Calls Tryd.prog 61 #[rv, sv] w fun e w' => e = .returned (.bool (decide (L = M))) ∧ Only [] w w' := by
  obtain ⟨a, cap, rfl, hcs⟩ := hL
  obtain ⟨a', cap', rfl, hcs'⟩ := hM
  obtain ⟨z, hz⟩ : ∃ z, decide (L = M) = z := ⟨_, rfl⟩
  rw [hz]
  have HZ := Lib.hid hz
  clear hz
  by_cases hlen : L.length = M.length
  · have hl : ((L.length : Int) != (M.length : Int)) = false := by simp [hlen]
    have HL := Lib.hid hlen
    clear hlen
    have ho := Lib.hid (Only.refl [] w)
    go_enter Tryd.func61, Tryd.ntmps61
    go_wp2_with fail
    go_loopg [13] L.length (fun gk ix wr => EqRel w L M gk ix wr)
    case atStart => exact ⟨0, by simp, by omega, rfl, by simp, ho.out⟩
    case round =>
      obtain ⟨k, rfl, hk, rfl, htk, hO⟩ := hrel
      clear ho
      by_cases hlt : k < L.length
      · have hlt' : (k : Int) < L.length := by omega
        have hlt2 : k < M.length := by have := HL.out; omega
        have hlt2' : (k : Int) < M.length := by omega
        obtain ⟨g, off, rfl, hg, q1, q2, r1, r2⟩ := hcs k hlt
        obtain ⟨g', off', rfl, hg', q1', q2', r1', r2'⟩ := hcs' k hlt2
        obtain ⟨F, hF⟩ : ∃ F, (L[k]'hlt).1 = F := ⟨_, rfl⟩
        obtain ⟨T, hT⟩ : ∃ T, (L[k]'hlt).2 = T := ⟨_, rfl⟩
        obtain ⟨F', hF'⟩ : ∃ F, (M[k]'hlt2).1 = F := ⟨_, rfl⟩
        obtain ⟨T', hT'⟩ : ∃ T, (M[k]'hlt2).2 = T := ⟨_, rfl⟩
        have e1 : L[k]'hlt = (F, T) := by rw [← hF, ← hT]
        have e2 : M[k]'hlt2 = (F', T') := by rw [← hF', ← hT']
        rw [hF] at q1
        rw [hT] at q2
        rw [hF'] at q1'
        rw [hT'] at q2'
        have p1 : wr.drew.cell? ⟨g, off + k * 2, none⟩ = some (.int .i64 F) := (hO.cell (p := ⟨g, off + k * 2, none⟩) hg (by simp)).trans q1
        have p2 : wr.drew.cell? ⟨g, off + k * 2 + 1, none⟩ = some (.int .i64 T) := (hO.cell (p := ⟨g, off + k * 2 + 1, none⟩) hg (by simp)).trans q2
        have p3 : wr.drew.cell? ⟨g', off' + k * 2, none⟩ = some (.int .i64 F') := (hO.cell (p := ⟨g', off' + k * 2, none⟩) hg' (by simp)).trans q1'
        have p4 : wr.drew.cell? ⟨g', off' + k * 2 + 1, none⟩ = some (.int .i64 T') := (hO.cell (p := ⟨g', off' + k * 2 + 1, none⟩) hg' (by simp)).trans q2'
        have f9 : IntKind.i64.wrap ((k : Int) + 1) = ((k + 1 : Nat) : Int) := by rw [show (k : Int) + 1 = ((k + 1 : Nat) : Int) by omega]; exact IntWalk.i64_in _ (by omega)
        have HD := Lib.hid e1
        have HD' := Lib.hid e2
        have HT := Lib.hid htk
        have HO := Lib.hid hO
        clear hF hT hF' hT' q1 q2 q1' q2' r1 r2 r1' r2' hcs hcs' e1 e2 htk hO
        by_cases hq : F = F' ∧ T = T'
        · obtain ⟨rfl, rfl⟩ := hq
          go_wp2_with fail
          go_still (by kernel_rfl)
          go_wp2_with fail
          go_roundg (L.length - (k + 1))
          case measure => omega
          case rel =>
           refine ⟨k + 1, rfl, by omega, by simp <;> omega, ?_, HO.out.drew⟩
           have h1 := HD.out
           have h2 := HD'.out
           rw [List.take_succ_eq_append_getElem hlt, List.take_succ_eq_append_getElem hlt2, HT.out, h1, h2]
        · have hcmp : (F == F' && T == T') = false := by
            rw [Bool.and_eq_false_iff]
            by_cases h : F = F'
            · exact .inr (beq_eq_false_iff_ne.2 (fun e => hq ⟨h, e⟩))
            · exact .inl (beq_eq_false_iff_ne.2 h)
          have hz : z = false := by
            rw [← HZ.out]
            refine decide_eq_false (fun e => hq ?_)
            have h1 := HD.out
            have h2 := HD'.out
            subst e
            rw [h1] at h2
            exact ⟨congrArg Prod.fst h2, congrArg Prod.snd h2⟩
          subst hz
          have hrun : ∀ w, (binOp .neq 114 (.agg #[.int .i64 F, .int .i64 T]) (.agg #[.int .i64 F', .int .i64 T'])).run Tryd.prog w = .ok (.bool true) w := by
            intro w
            simp [go_sem, hcmp]
            exact fun e1 e2 => hq ⟨e1, e2⟩
          go_wp2_with fail
          go_still (by kernel_rfl)
          go_wp2_with fail
          go_ret
          exact ⟨rfl, HO.out.drew⟩
      · obtain rfl : k = L.length := by omega
        have hlt' : ¬ ((L.length : Int) < L.length) := by omega
        have hz : z = true := by
          rw [← HZ.out]
          refine decide_eq_true ?_
          have h1 := HL.out
          rw [List.take_length, h1, List.take_length] at htk
          exact htk
        subst hz
        have HO := Lib.hid hO
        clear htk hO hcs hcs'
        go_wp2_with fail
        go_ret
        exact ⟨rfl, HO.out⟩
  · have hl : ((L.length : Int) != (M.length : Int)) = true := by simp; omega
    have hz : z = false := by
      rw [← HZ.out]
      exact decide_eq_false (fun e => hlen (by rw [e]))
    subst hz
    have ho := Lib.hid (Only.refl [] w)
    clear hcs hcs' hlen HZ
    go_enter Tryd.func61, Tryd.ntmps61
    go_wp2_with fail
    go_ret
    exact ⟨rfl, ho.out⟩
end Go.Proofs.YtgiekhohhogdiaaDoor
