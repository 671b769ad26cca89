/- Contracts of the law's helpers: FrameFrom, type by type. -/
import Derived.Test.YtmmgmpghkpbgkaaRdL
import Derived.Test.YtmmgmpghkpbgkaaRdP
import Derived.Test.YtmmgmpghkpbgkaaRdQ
namespace Go.Proofs.Ytmmgmpghkpbgkaa
open Go Go.RowKit
set_option linter.unusedVariables false
set_option linter.unusedSimpArgs false

set_option maxRecDepth 100000 in
set_option maxHeartbeats 4000000 in
theorem ffp_14 (ty A B C : Int) (s : ByteArray) (fin : Bool) (sv : Value) (SL : List (Int × Int)) (w : World) (hS : RgAt w sv SL) (hi : FfIn ty A B C s) (hj : pkZ ty 21 = 14) : Calls Try.prog 24 #[.agg (fpC ty A B C s fin sv)] w (FfQ 24 A B C s fin w) := by
  unfold fpC
  have hp0 := fun ww => pk9 ty 21 ww hi.h1.1 hi.h1.2 (by omega)
  rw [hj] at hp0
  obtain ⟨sa, sc, rfl, hss⟩ := hS
  have HS : Hid (RgAt w (.slice sa SL.length sc) SL) := Lib.hid ⟨sa, sc, rfl, hss⟩
  clear hss
  obtain ⟨pa, hpa⟩ : ∃ pa, pkZ A 4611686018427387904 = pa := ⟨_, rfl⟩
  obtain ⟨pb, hpb⟩ : ∃ pb, pkZ B 4611686018427387904 = pb := ⟨_, rfl⟩
  have hp1 := fun ww => pk9 A 4611686018427387904 ww hi.h2.1 hi.h2.2 (by omega)
  have hp2 := fun ww => pk9 B 4611686018427387904 ww hi.h3.1 hi.h3.2 (by omega)
  have ba := pkZ_bd A 4611686018427387904 (by omega)
  have bb := pkZ_bd B 4611686018427387904 (by omega)
  rw [hpa] at hp1 ba
  rw [hpb] at hp2 bb
  have h5 := hi.h5
  obtain ⟨x1, hx1⟩ : ∃ x, pkZ B (pa + 1) = x := ⟨_, rfl⟩
  have hp3 := fun ww => pk9 B (pa + 1) ww hi.h3.1 hi.h3.2 (by omega)
  rw [hx1] at hp3
  have HX1 := Lib.hid hx1
  clear hx1
  obtain ⟨ch, hch⟩ : ∃ ch, (few s ++ [49, 50, 51, 52, 53, 54, 55, 56]).take 8 = ch := ⟨_, rfl⟩
  have e8 : strB (few s) ++ ⟨#[49, 50, 51, 52, 53, 54, 55, 56]⟩ = strB (few s ++ [49, 50, 51, 52, 53, 54, 55, 56]) := (strB_app _ _).symm
  have e9 : (strB (few s ++ [49, 50, 51, 52, 53, 54, 55, 56])).extract 0 8 = strB ch := by rw [ext_list, strB_list, ← hch]; rfl
  have HCH := Lib.hid hch
  clear hch
  have e10 : (strB (few s ++ [49, 50, 51, 52, 53, 54, 55, 56])).size = (few s).length + 8 := by rw [strB_size]; simp
  have e11 : (strB (few s)).size = (few s).length := strB_size _
  have e12 := few_len s
  have e13 : ¬ 9223372036854775807 < (strB (few s)).size + 8 := by omega
  have HPA := Lib.hid hpa
  have HPB := Lib.hid hpb
  clear hpa hpb hj
  obtain ⟨w2, hw2⟩ : ∃ x, ffW w #[.int .i64 ty, .int .i64 A, .int .i64 B, .int .i64 C, .string s, .bool fin, .slice sa SL.length sc] = x := ⟨_, rfl⟩
  have hf := ffW_facts w #[.int .i64 ty, .int .i64 A, .int .i64 B, .int .i64 C, .string s, .bool fin, .slice sa SL.length sc]
  have hS3 := FfS.start w w2 _ #[.int .i64 24, .int .i64 0, .int .i64 0, .string ⟨#[]⟩, .bool false, .int .i64 0, .int .i64 0, .bool false, .int .i64 0, .slice none 0 0, .int .i64 0, .int .i64 0, .string ⟨#[]⟩] hw2
  rw [hw2] at hf
  simp only [ffW, ffZ, ffT] at hw2
  have HW2 := Lib.hid hw2
  obtain ⟨hP, _, hT, _⟩ := hf
  have c0 := hP.cell 0 (v := .int .i64 ty) rfl
  have t0 := hT.cell 14 (v := .int .i64 24) rfl
  clear hw2 hP hT
  go_enter Try.func24, Try.ntmps24
  go_upto_region 2 with fail
  rw [HW2.out]
  go_wp2_with fail
  refine (hp0 _).mono ?_
  rintro e w3 ⟨rfl, rfl⟩
  go_upto_region 3 with fail
  clear c0 t0 hp0 HW2
  generalize w2.alloc (.cells #[.int .i64 24, .int .i64 0, .int .i64 0, .string ⟨#[]⟩, .bool false, .int .i64 0, .int .i64 0, .bool false, .int .i64 0, .slice none 0 0, .int .i64 0, .int .i64 0, .string ⟨#[]⟩] 33) = w3 at hS3 ⊢
  generalize w2.heap.size = b at hS3 ⊢
  have H := Lib.hid hS3
  clear hS3
  obtain ⟨c0, c1, c2, c3, c4, c5, c6⟩ := H.out.pr.c7
  obtain ⟨f0, f1, f2, f3, f4, f5, f6, f7, f8, f9, f10, f11, f12⟩ := H.out.fr.c13
  have hfr := fun i => H.out.fr.free i
  have em : min (s.size : Int) 60 = ((min s.size 60 : Nat) : Int) := by omega
  have ex : s.extract 0 (min s.size 60) = strB (few s) := few_str s _ rfl
  go_wp2_with fail
  refine (hp1 _).mono ?_
  rintro e wx ⟨rfl, rfl⟩
  go_wp2_with fail
  refine (hp2 _).mono ?_
  rintro e wx ⟨rfl, rfl⟩
  go_upto_region 40 with fail
  clear c0 c1 c2 c3 c4 c5 c6 f0 f1 f2 f3 f4 f5 f6 f7 f8 f9 f10 f11 f12 hfr
  have h2 := H.out.store 10 (.int .i64 pa) (fc' := #[.int .i64 24, .int .i64 0, .int .i64 0, .string ⟨#[]⟩, .bool false, .int .i64 0, .int .i64 0, .bool false, .int .i64 0, .slice none 0 0, .int .i64 pa, .int .i64 0, .string ⟨#[]⟩]) rfl
  generalize w3.setCell ⟨b, 10, none⟩ (.int .i64 pa) = w4 at h2 ⊢
  replace H := Lib.hid h2
  clear h2
  obtain ⟨c0, c1, c2, c3, c4, c5, c6⟩ := H.out.pr.c7
  obtain ⟨f0, f1, f2, f3, f4, f5, f6, f7, f8, f9, f10, f11, f12⟩ := H.out.fr.c13
  have hfr := fun i => H.out.fr.free i
  go_wp2_with fail
  refine (hp3 _).mono ?_
  rintro e wx ⟨rfl, rfl⟩
  go_upto_region 41 with fail
  clear c0 c1 c2 c3 c4 c5 c6 f0 f1 f2 f3 f4 f5 f6 f7 f8 f9 f10 f11 f12 hfr
  have h2 := H.out.store 11 (.int .i64 x1) (fc' := #[.int .i64 24, .int .i64 0, .int .i64 0, .string ⟨#[]⟩, .bool false, .int .i64 0, .int .i64 0, .bool false, .int .i64 0, .slice none 0 0, .int .i64 pa, .int .i64 x1, .string ⟨#[]⟩]) rfl
  generalize w4.setCell ⟨b, 11, none⟩ (.int .i64 x1) = w5 at h2 ⊢
  replace H := Lib.hid h2
  clear h2
  obtain ⟨c0, c1, c2, c3, c4, c5, c6⟩ := H.out.pr.c7
  obtain ⟨f0, f1, f2, f3, f4, f5, f6, f7, f8, f9, f10, f11, f12⟩ := H.out.fr.c13
  have hfr := fun i => H.out.fr.free i
  go_upto_region 51 with fail
  clear c0 c1 c2 c3 c4 c5 c6 f0 f1 f2 f3 f4 f5 f6 f7 f8 f9 f10 f11 f12 hfr
  have h2 := H.out.store 12 (.string (strB ch)) (fc' := #[.int .i64 24, .int .i64 0, .int .i64 0, .string ⟨#[]⟩, .bool false, .int .i64 0, .int .i64 0, .bool false, .int .i64 0, .slice none 0 0, .int .i64 pa, .int .i64 x1, .string (strB ch)]) rfl
  generalize w5.setCell ⟨b, 12, none⟩ (.string (strB ch)) = w6 at h2 ⊢
  replace H := Lib.hid h2
  clear h2
  obtain ⟨c0, c1, c2, c3, c4, c5, c6⟩ := H.out.pr.c7
  obtain ⟨f0, f1, f2, f3, f4, f5, f6, f7, f8, f9, f10, f11, f12⟩ := H.out.fr.c13
  have hfr := fun i => H.out.fr.free i
  obtain ⟨z0, z1, z2, z3, z4, z5, z6, z7, z8, z9, z10, z11, z12⟩ := H.out.zr.c13
  have hfz := fun i => H.out.zr.free i
  obtain ⟨w9, hw9⟩ : ∃ x, ffH w6 (w.heap.size + 1) (.int .i64 24) (.int .i64 0) (.int .i64 0) (.string ⟨#[]⟩) (.bool false) (.int .i64 0) (.int .i64 0) (.bool false) (.int .i64 0) (.slice none 0 0) (.int .i64 pa) (.int .i64 x1) (.string (strB ch)) = x := ⟨_, rfl⟩
  have hh := H.out.hand
  rw [hw9] at hh
  have HH := Lib.hid hh
  simp only [ffH] at hw9
  have HW := Lib.hid hw9
  clear hh hw9
  go_wp2_with fail
  rw [HW.out]
  clear z0 z1 z2 z3 z4 z5 z6 z7 z8 z9 z10 z11 z12 hfz HW
  clear c0 c1 c2 c3 c4 c5 c6 f0 f1 f2 f3 f4 f5 f6 f7 f8 f9 f10 f11 f12 hfr
  obtain ⟨hA7, hO7⟩ := HH.out
  obtain ⟨y0, y1, y2, y3, y4, y5, y6, y7, y8, y9, y10, y11, y12⟩ := hA7.c13
  refine ⟨rfl, .agg #[.int .i64 24, .int .i64 0, .int .i64 0, .string ⟨#[]⟩, .bool false, .int .i64 0, .int .i64 0, .bool false, .int .i64 0, .slice none 0 0, .int .i64 pa, .int .i64 x1, .string (strB ch)], ?_, ?_⟩
  · simp [results, Try.f24, go_sem, y0, y1, y2, y3, y4, y5, y6, y7, y8, y9, y10, y11, y12]
  · have hPA := HPA.out
    have hPB := HPB.out
    have hX1 := HX1.out
    have hCH := HCH.out
    subst hCH
    subst hPA
    subst hPB
    subst hX1
    exact FfQ.plain (genF 24 A B C (few s) fin [(0, 1)]) rfl rfl hO7 rfl
set_option maxRecDepth 100000 in
set_option maxHeartbeats 4000000 in
theorem ffp_15 (ty A B C : Int) (s : ByteArray) (fin : Bool) (sv : Value) (SL : List (Int × Int)) (w : World) (hS : RgAt w sv SL) (hi : FfIn ty A B C s) (hj : pkZ ty 21 = 15) : Calls Try.prog 24 #[.agg (fpC ty A B C s fin sv)] w (FfQ 25 A B C s fin w) := by
  unfold fpC
  have hp0 := fun ww => pk9 ty 21 ww hi.h1.1 hi.h1.2 (by omega)
  rw [hj] at hp0
  obtain ⟨sa, sc, rfl, hss⟩ := hS
  have HS : Hid (RgAt w (.slice sa SL.length sc) SL) := Lib.hid ⟨sa, sc, rfl, hss⟩
  clear hss
  obtain ⟨pa, hpa⟩ : ∃ pa, pkZ A 4611686018427387904 = pa := ⟨_, rfl⟩
  obtain ⟨pb, hpb⟩ : ∃ pb, pkZ B 4611686018427387904 = pb := ⟨_, rfl⟩
  have hp1 := fun ww => pk9 A 4611686018427387904 ww hi.h2.1 hi.h2.2 (by omega)
  have hp2 := fun ww => pk9 B 4611686018427387904 ww hi.h3.1 hi.h3.2 (by omega)
  have ba := pkZ_bd A 4611686018427387904 (by omega)
  have bb := pkZ_bd B 4611686018427387904 (by omega)
  rw [hpa] at hp1 ba
  rw [hpb] at hp2 bb
  have h5 := hi.h5
  have HPA := Lib.hid hpa
  have HPB := Lib.hid hpb
  clear hpa hpb hj
  obtain ⟨w2, hw2⟩ : ∃ x, ffW w #[.int .i64 ty, .int .i64 A, .int .i64 B, .int .i64 C, .string s, .bool fin, .slice sa SL.length sc] = x := ⟨_, rfl⟩
  have hf := ffW_facts w #[.int .i64 ty, .int .i64 A, .int .i64 B, .int .i64 C, .string s, .bool fin, .slice sa SL.length sc]
  have hS3 := FfS.start w w2 _ #[.int .i64 25, .int .i64 0, .int .i64 0, .string ⟨#[]⟩, .bool false, .int .i64 0, .int .i64 0, .bool false, .int .i64 0, .slice none 0 0, .int .i64 0, .int .i64 0, .string ⟨#[]⟩] hw2
  rw [hw2] at hf
  simp only [ffW, ffZ, ffT] at hw2
  have HW2 := Lib.hid hw2
  obtain ⟨hP, _, hT, _⟩ := hf
  have c0 := hP.cell 0 (v := .int .i64 ty) rfl
  have t0 := hT.cell 15 (v := .int .i64 25) rfl
  clear hw2 hP hT
  go_enter Try.func24, Try.ntmps24
  go_upto_region 2 with fail
  rw [HW2.out]
  go_wp2_with fail
  refine (hp0 _).mono ?_
  rintro e w3 ⟨rfl, rfl⟩
  go_upto_region 3 with fail
  clear c0 t0 hp0 HW2
  generalize w2.alloc (.cells #[.int .i64 25, .int .i64 0, .int .i64 0, .string ⟨#[]⟩, .bool false, .int .i64 0, .int .i64 0, .bool false, .int .i64 0, .slice none 0 0, .int .i64 0, .int .i64 0, .string ⟨#[]⟩] 33) = w3 at hS3 ⊢
  generalize w2.heap.size = b at hS3 ⊢
  have H := Lib.hid hS3
  clear hS3
  obtain ⟨c0, c1, c2, c3, c4, c5, c6⟩ := H.out.pr.c7
  obtain ⟨f0, f1, f2, f3, f4, f5, f6, f7, f8, f9, f10, f11, f12⟩ := H.out.fr.c13
  have hfr := fun i => H.out.fr.free i
  have em : min (s.size : Int) 60 = ((min s.size 60 : Nat) : Int) := by omega
  have ex : s.extract 0 (min s.size 60) = strB (few s) := few_str s _ rfl
  go_wp2_with fail
  refine (hp1 _).mono ?_
  rintro e wx ⟨rfl, rfl⟩
  go_wp2_with fail
  refine (hp2 _).mono ?_
  rintro e wx ⟨rfl, rfl⟩
  go_upto_region 51 with fail
  clear c0 c1 c2 c3 c4 c5 c6 f0 f1 f2 f3 f4 f5 f6 f7 f8 f9 f10 f11 f12 hfr
  have h2 := H.out.store 10 (.int .i64 pa) (fc' := #[.int .i64 25, .int .i64 0, .int .i64 0, .string ⟨#[]⟩, .bool false, .int .i64 0, .int .i64 0, .bool false, .int .i64 0, .slice none 0 0, .int .i64 pa, .int .i64 0, .string ⟨#[]⟩]) rfl
  generalize w3.setCell ⟨b, 10, none⟩ (.int .i64 pa) = w4 at h2 ⊢
  replace H := Lib.hid h2
  clear h2
  obtain ⟨c0, c1, c2, c3, c4, c5, c6⟩ := H.out.pr.c7
  obtain ⟨f0, f1, f2, f3, f4, f5, f6, f7, f8, f9, f10, f11, f12⟩ := H.out.fr.c13
  have hfr := fun i => H.out.fr.free i
  obtain ⟨z0, z1, z2, z3, z4, z5, z6, z7, z8, z9, z10, z11, z12⟩ := H.out.zr.c13
  have hfz := fun i => H.out.zr.free i
  obtain ⟨w9, hw9⟩ : ∃ x, ffH w4 (w.heap.size + 1) (.int .i64 25) (.int .i64 0) (.int .i64 0) (.string ⟨#[]⟩) (.bool false) (.int .i64 0) (.int .i64 0) (.bool false) (.int .i64 0) (.slice none 0 0) (.int .i64 pa) (.int .i64 0) (.string ⟨#[]⟩) = x := ⟨_, rfl⟩
  have hh := H.out.hand
  rw [hw9] at hh
  have HH := Lib.hid hh
  simp only [ffH] at hw9
  have HW := Lib.hid hw9
  clear hh hw9
  go_wp2_with fail
  rw [HW.out]
  clear z0 z1 z2 z3 z4 z5 z6 z7 z8 z9 z10 z11 z12 hfz HW
  clear c0 c1 c2 c3 c4 c5 c6 f0 f1 f2 f3 f4 f5 f6 f7 f8 f9 f10 f11 f12 hfr
  obtain ⟨hA7, hO7⟩ := HH.out
  obtain ⟨y0, y1, y2, y3, y4, y5, y6, y7, y8, y9, y10, y11, y12⟩ := hA7.c13
  refine ⟨rfl, .agg #[.int .i64 25, .int .i64 0, .int .i64 0, .string ⟨#[]⟩, .bool false, .int .i64 0, .int .i64 0, .bool false, .int .i64 0, .slice none 0 0, .int .i64 pa, .int .i64 0, .string ⟨#[]⟩], ?_, ?_⟩
  · simp [results, Try.f24, go_sem, y0, y1, y2, y3, y4, y5, y6, y7, y8, y9, y10, y11, y12]
  · have hPA := HPA.out
    have hPB := HPB.out
    subst hPA
    subst hPB
    exact FfQ.plain (genF 25 A B C (few s) fin [(0, 1)]) rfl rfl hO7 rfl
set_option maxRecDepth 100000 in
set_option maxHeartbeats 4000000 in
theorem ffp_16 (ty A B C : Int) (s : ByteArray) (fin : Bool) (sv : Value) (SL : List (Int × Int)) (w : World) (hS : RgAt w sv SL) (hi : FfIn ty A B C s) (hj : pkZ ty 21 = 16) : Calls Try.prog 24 #[.agg (fpC ty A B C s fin sv)] w (FfQ 26 A B C s fin w) := by
  unfold fpC
  have hp0 := fun ww => pk9 ty 21 ww hi.h1.1 hi.h1.2 (by omega)
  rw [hj] at hp0
  obtain ⟨sa, sc, rfl, hss⟩ := hS
  have HS : Hid (RgAt w (.slice sa SL.length sc) SL) := Lib.hid ⟨sa, sc, rfl, hss⟩
  clear hss
  obtain ⟨pa, hpa⟩ : ∃ pa, pkZ A 4611686018427387904 = pa := ⟨_, rfl⟩
  obtain ⟨pb, hpb⟩ : ∃ pb, pkZ B 4611686018427387904 = pb := ⟨_, rfl⟩
  have hp1 := fun ww => pk9 A 4611686018427387904 ww hi.h2.1 hi.h2.2 (by omega)
  have hp2 := fun ww => pk9 B 4611686018427387904 ww hi.h3.1 hi.h3.2 (by omega)
  have ba := pkZ_bd A 4611686018427387904 (by omega)
  have bb := pkZ_bd B 4611686018427387904 (by omega)
  rw [hpa] at hp1 ba
  rw [hpb] at hp2 bb
  have h5 := hi.h5
  obtain ⟨ch, hch⟩ : ∃ ch, (few s ++ [49, 50, 51, 52, 53, 54, 55, 56]).take 8 = ch := ⟨_, rfl⟩
  have e8 : strB (few s) ++ ⟨#[49, 50, 51, 52, 53, 54, 55, 56]⟩ = strB (few s ++ [49, 50, 51, 52, 53, 54, 55, 56]) := (strB_app _ _).symm
  have e9 : (strB (few s ++ [49, 50, 51, 52, 53, 54, 55, 56])).extract 0 8 = strB ch := by rw [ext_list, strB_list, ← hch]; rfl
  have HCH := Lib.hid hch
  clear hch
  have e10 : (strB (few s ++ [49, 50, 51, 52, 53, 54, 55, 56])).size = (few s).length + 8 := by rw [strB_size]; simp
  have e11 : (strB (few s)).size = (few s).length := strB_size _
  have e12 := few_len s
  have e13 : ¬ 9223372036854775807 < (strB (few s)).size + 8 := by omega
  have HPA := Lib.hid hpa
  have HPB := Lib.hid hpb
  clear hpa hpb hj
  obtain ⟨w2, hw2⟩ : ∃ x, ffW w #[.int .i64 ty, .int .i64 A, .int .i64 B, .int .i64 C, .string s, .bool fin, .slice sa SL.length sc] = x := ⟨_, rfl⟩
  have hf := ffW_facts w #[.int .i64 ty, .int .i64 A, .int .i64 B, .int .i64 C, .string s, .bool fin, .slice sa SL.length sc]
  have hS3 := FfS.start w w2 _ #[.int .i64 26, .int .i64 0, .int .i64 0, .string ⟨#[]⟩, .bool false, .int .i64 0, .int .i64 0, .bool false, .int .i64 0, .slice none 0 0, .int .i64 0, .int .i64 0, .string ⟨#[]⟩] hw2
  rw [hw2] at hf
  simp only [ffW, ffZ, ffT] at hw2
  have HW2 := Lib.hid hw2
  obtain ⟨hP, _, hT, _⟩ := hf
  have c0 := hP.cell 0 (v := .int .i64 ty) rfl
  have t0 := hT.cell 16 (v := .int .i64 26) rfl
  clear hw2 hP hT
  go_enter Try.func24, Try.ntmps24
  go_upto_region 2 with fail
  rw [HW2.out]
  go_wp2_with fail
  refine (hp0 _).mono ?_
  rintro e w3 ⟨rfl, rfl⟩
  go_upto_region 3 with fail
  clear c0 t0 hp0 HW2
  generalize w2.alloc (.cells #[.int .i64 26, .int .i64 0, .int .i64 0, .string ⟨#[]⟩, .bool false, .int .i64 0, .int .i64 0, .bool false, .int .i64 0, .slice none 0 0, .int .i64 0, .int .i64 0, .string ⟨#[]⟩] 33) = w3 at hS3 ⊢
  generalize w2.heap.size = b at hS3 ⊢
  have H := Lib.hid hS3
  clear hS3
  obtain ⟨c0, c1, c2, c3, c4, c5, c6⟩ := H.out.pr.c7
  obtain ⟨f0, f1, f2, f3, f4, f5, f6, f7, f8, f9, f10, f11, f12⟩ := H.out.fr.c13
  have hfr := fun i => H.out.fr.free i
  have em : min (s.size : Int) 60 = ((min s.size 60 : Nat) : Int) := by omega
  have ex : s.extract 0 (min s.size 60) = strB (few s) := few_str s _ rfl
  go_wp2_with fail
  refine (hp1 _).mono ?_
  rintro e wx ⟨rfl, rfl⟩
  go_wp2_with fail
  refine (hp2 _).mono ?_
  rintro e wx ⟨rfl, rfl⟩
  go_upto_region 51 with fail
  clear c0 c1 c2 c3 c4 c5 c6 f0 f1 f2 f3 f4 f5 f6 f7 f8 f9 f10 f11 f12 hfr
  have h2 := H.out.store 3 (.string (strB ch)) (fc' := #[.int .i64 26, .int .i64 0, .int .i64 0, .string (strB ch), .bool false, .int .i64 0, .int .i64 0, .bool false, .int .i64 0, .slice none 0 0, .int .i64 0, .int .i64 0, .string ⟨#[]⟩]) rfl
  generalize w3.setCell ⟨b, 3, none⟩ (.string (strB ch)) = w4 at h2 ⊢
  replace H := Lib.hid h2
  clear h2
  obtain ⟨c0, c1, c2, c3, c4, c5, c6⟩ := H.out.pr.c7
  obtain ⟨f0, f1, f2, f3, f4, f5, f6, f7, f8, f9, f10, f11, f12⟩ := H.out.fr.c13
  have hfr := fun i => H.out.fr.free i
  obtain ⟨z0, z1, z2, z3, z4, z5, z6, z7, z8, z9, z10, z11, z12⟩ := H.out.zr.c13
  have hfz := fun i => H.out.zr.free i
  obtain ⟨w9, hw9⟩ : ∃ x, ffH w4 (w.heap.size + 1) (.int .i64 26) (.int .i64 0) (.int .i64 0) (.string (strB ch)) (.bool false) (.int .i64 0) (.int .i64 0) (.bool false) (.int .i64 0) (.slice none 0 0) (.int .i64 0) (.int .i64 0) (.string ⟨#[]⟩) = x := ⟨_, rfl⟩
  have hh := H.out.hand
  rw [hw9] at hh
  have HH := Lib.hid hh
  simp only [ffH] at hw9
  have HW := Lib.hid hw9
  clear hh hw9
  go_wp2_with fail
  rw [HW.out]
  clear z0 z1 z2 z3 z4 z5 z6 z7 z8 z9 z10 z11 z12 hfz HW
  clear c0 c1 c2 c3 c4 c5 c6 f0 f1 f2 f3 f4 f5 f6 f7 f8 f9 f10 f11 f12 hfr
  obtain ⟨hA7, hO7⟩ := HH.out
  obtain ⟨y0, y1, y2, y3, y4, y5, y6, y7, y8, y9, y10, y11, y12⟩ := hA7.c13
  refine ⟨rfl, .agg #[.int .i64 26, .int .i64 0, .int .i64 0, .string (strB ch), .bool false, .int .i64 0, .int .i64 0, .bool false, .int .i64 0, .slice none 0 0, .int .i64 0, .int .i64 0, .string ⟨#[]⟩], ?_, ?_⟩
  · simp [results, Try.f24, go_sem, y0, y1, y2, y3, y4, y5, y6, y7, y8, y9, y10, y11, y12]
  · have hPA := HPA.out
    have hPB := HPB.out
    have hCH := HCH.out
    subst hCH
    subst hPA
    subst hPB
    exact FfQ.plain (genF 26 A B C (few s) fin [(0, 1)]) rfl rfl hO7 rfl
set_option maxRecDepth 100000 in
set_option maxHeartbeats 4000000 in
theorem ffp_17 (ty A B C : Int) (s : ByteArray) (fin : Bool) (sv : Value) (SL : List (Int × Int)) (w : World) (hS : RgAt w sv SL) (hi : FfIn ty A B C s) (hj : pkZ ty 21 = 17) : Calls Try.prog 24 #[.agg (fpC ty A B C s fin sv)] w (FfQ 27 A B C s fin w) := by
  unfold fpC
  have hp0 := fun ww => pk9 ty 21 ww hi.h1.1 hi.h1.2 (by omega)
  rw [hj] at hp0
  obtain ⟨sa, sc, rfl, hss⟩ := hS
  have HS : Hid (RgAt w (.slice sa SL.length sc) SL) := Lib.hid ⟨sa, sc, rfl, hss⟩
  clear hss
  obtain ⟨pa, hpa⟩ : ∃ pa, pkZ A 4611686018427387904 = pa := ⟨_, rfl⟩
  obtain ⟨pb, hpb⟩ : ∃ pb, pkZ B 4611686018427387904 = pb := ⟨_, rfl⟩
  have hp1 := fun ww => pk9 A 4611686018427387904 ww hi.h2.1 hi.h2.2 (by omega)
  have hp2 := fun ww => pk9 B 4611686018427387904 ww hi.h3.1 hi.h3.2 (by omega)
  have ba := pkZ_bd A 4611686018427387904 (by omega)
  have bb := pkZ_bd B 4611686018427387904 (by omega)
  rw [hpa] at hp1 ba
  rw [hpb] at hp2 bb
  have h5 := hi.h5
  obtain ⟨ch, hch⟩ : ∃ ch, (few s ++ [49, 50, 51, 52, 53, 54, 55, 56]).take 8 = ch := ⟨_, rfl⟩
  have e8 : strB (few s) ++ ⟨#[49, 50, 51, 52, 53, 54, 55, 56]⟩ = strB (few s ++ [49, 50, 51, 52, 53, 54, 55, 56]) := (strB_app _ _).symm
  have e9 : (strB (few s ++ [49, 50, 51, 52, 53, 54, 55, 56])).extract 0 8 = strB ch := by rw [ext_list, strB_list, ← hch]; rfl
  have HCH := Lib.hid hch
  clear hch
  have e10 : (strB (few s ++ [49, 50, 51, 52, 53, 54, 55, 56])).size = (few s).length + 8 := by rw [strB_size]; simp
  have e11 : (strB (few s)).size = (few s).length := strB_size _
  have e12 := few_len s
  have e13 : ¬ 9223372036854775807 < (strB (few s)).size + 8 := by omega
  have HPA := Lib.hid hpa
  have HPB := Lib.hid hpb
  clear hpa hpb hj
  obtain ⟨w2, hw2⟩ : ∃ x, ffW w #[.int .i64 ty, .int .i64 A, .int .i64 B, .int .i64 C, .string s, .bool fin, .slice sa SL.length sc] = x := ⟨_, rfl⟩
  have hf := ffW_facts w #[.int .i64 ty, .int .i64 A, .int .i64 B, .int .i64 C, .string s, .bool fin, .slice sa SL.length sc]
  have hS3 := FfS.start w w2 _ #[.int .i64 27, .int .i64 0, .int .i64 0, .string ⟨#[]⟩, .bool false, .int .i64 0, .int .i64 0, .bool false, .int .i64 0, .slice none 0 0, .int .i64 0, .int .i64 0, .string ⟨#[]⟩] hw2
  rw [hw2] at hf
  simp only [ffW, ffZ, ffT] at hw2
  have HW2 := Lib.hid hw2
  obtain ⟨hP, _, hT, _⟩ := hf
  have c0 := hP.cell 0 (v := .int .i64 ty) rfl
  have t0 := hT.cell 17 (v := .int .i64 27) rfl
  clear hw2 hP hT
  go_enter Try.func24, Try.ntmps24
  go_upto_region 2 with fail
  rw [HW2.out]
  go_wp2_with fail
  refine (hp0 _).mono ?_
  rintro e w3 ⟨rfl, rfl⟩
  go_upto_region 3 with fail
  clear c0 t0 hp0 HW2
  generalize w2.alloc (.cells #[.int .i64 27, .int .i64 0, .int .i64 0, .string ⟨#[]⟩, .bool false, .int .i64 0, .int .i64 0, .bool false, .int .i64 0, .slice none 0 0, .int .i64 0, .int .i64 0, .string ⟨#[]⟩] 33) = w3 at hS3 ⊢
  generalize w2.heap.size = b at hS3 ⊢
  have H := Lib.hid hS3
  clear hS3
  obtain ⟨c0, c1, c2, c3, c4, c5, c6⟩ := H.out.pr.c7
  obtain ⟨f0, f1, f2, f3, f4, f5, f6, f7, f8, f9, f10, f11, f12⟩ := H.out.fr.c13
  have hfr := fun i => H.out.fr.free i
  have em : min (s.size : Int) 60 = ((min s.size 60 : Nat) : Int) := by omega
  have ex : s.extract 0 (min s.size 60) = strB (few s) := few_str s _ rfl
  go_wp2_with fail
  refine (hp1 _).mono ?_
  rintro e wx ⟨rfl, rfl⟩
  go_wp2_with fail
  refine (hp2 _).mono ?_
  rintro e wx ⟨rfl, rfl⟩
  go_upto_region 51 with fail
  clear c0 c1 c2 c3 c4 c5 c6 f0 f1 f2 f3 f4 f5 f6 f7 f8 f9 f10 f11 f12 hfr
  have h2 := H.out.store 3 (.string (strB ch)) (fc' := #[.int .i64 27, .int .i64 0, .int .i64 0, .string (strB ch), .bool false, .int .i64 0, .int .i64 0, .bool false, .int .i64 0, .slice none 0 0, .int .i64 0, .int .i64 0, .string ⟨#[]⟩]) rfl
  generalize w3.setCell ⟨b, 3, none⟩ (.string (strB ch)) = w4 at h2 ⊢
  replace H := Lib.hid h2
  clear h2
  obtain ⟨c0, c1, c2, c3, c4, c5, c6⟩ := H.out.pr.c7
  obtain ⟨f0, f1, f2, f3, f4, f5, f6, f7, f8, f9, f10, f11, f12⟩ := H.out.fr.c13
  have hfr := fun i => H.out.fr.free i
  obtain ⟨z0, z1, z2, z3, z4, z5, z6, z7, z8, z9, z10, z11, z12⟩ := H.out.zr.c13
  have hfz := fun i => H.out.zr.free i
  obtain ⟨w9, hw9⟩ : ∃ x, ffH w4 (w.heap.size + 1) (.int .i64 27) (.int .i64 0) (.int .i64 0) (.string (strB ch)) (.bool false) (.int .i64 0) (.int .i64 0) (.bool false) (.int .i64 0) (.slice none 0 0) (.int .i64 0) (.int .i64 0) (.string ⟨#[]⟩) = x := ⟨_, rfl⟩
  have hh := H.out.hand
  rw [hw9] at hh
  have HH := Lib.hid hh
  simp only [ffH] at hw9
  have HW := Lib.hid hw9
  clear hh hw9
  go_wp2_with fail
  rw [HW.out]
  clear z0 z1 z2 z3 z4 z5 z6 z7 z8 z9 z10 z11 z12 hfz HW
  clear c0 c1 c2 c3 c4 c5 c6 f0 f1 f2 f3 f4 f5 f6 f7 f8 f9 f10 f11 f12 hfr
  obtain ⟨hA7, hO7⟩ := HH.out
  obtain ⟨y0, y1, y2, y3, y4, y5, y6, y7, y8, y9, y10, y11, y12⟩ := hA7.c13
  refine ⟨rfl, .agg #[.int .i64 27, .int .i64 0, .int .i64 0, .string (strB ch), .bool false, .int .i64 0, .int .i64 0, .bool false, .int .i64 0, .slice none 0 0, .int .i64 0, .int .i64 0, .string ⟨#[]⟩], ?_, ?_⟩
  · simp [results, Try.f24, go_sem, y0, y1, y2, y3, y4, y5, y6, y7, y8, y9, y10, y11, y12]
  · have hPA := HPA.out
    have hPB := HPB.out
    have hCH := HCH.out
    subst hCH
    subst hPA
    subst hPB
    exact FfQ.plain (genF 27 A B C (few s) fin [(0, 1)]) rfl rfl hO7 rfl
set_option maxRecDepth 100000 in
set_option maxHeartbeats 4000000 in
theorem ffp_18 (ty A B C : Int) (s : ByteArray) (fin : Bool) (sv : Value) (SL : List (Int × Int)) (w : World) (hS : RgAt w sv SL) (hi : FfIn ty A B C s) (hj : pkZ ty 21 = 18) : Calls Try.prog 24 #[.agg (fpC ty A B C s fin sv)] w (FfQ 28 A B C s fin w) := by
  unfold fpC
  have hp0 := fun ww => pk9 ty 21 ww hi.h1.1 hi.h1.2 (by omega)
  rw [hj] at hp0
  obtain ⟨sa, sc, rfl, hss⟩ := hS
  have HS : Hid (RgAt w (.slice sa SL.length sc) SL) := Lib.hid ⟨sa, sc, rfl, hss⟩
  clear hss
  obtain ⟨pa, hpa⟩ : ∃ pa, pkZ A 4611686018427387904 = pa := ⟨_, rfl⟩
  obtain ⟨pb, hpb⟩ : ∃ pb, pkZ B 4611686018427387904 = pb := ⟨_, rfl⟩
  have hp1 := fun ww => pk9 A 4611686018427387904 ww hi.h2.1 hi.h2.2 (by omega)
  have hp2 := fun ww => pk9 B 4611686018427387904 ww hi.h3.1 hi.h3.2 (by omega)
  have ba := pkZ_bd A 4611686018427387904 (by omega)
  have bb := pkZ_bd B 4611686018427387904 (by omega)
  rw [hpa] at hp1 ba
  rw [hpb] at hp2 bb
  have h5 := hi.h5
  obtain ⟨x1, hx1⟩ : ∃ x, pkZ A 1073741824 = x := ⟨_, rfl⟩
  have hp3 := fun ww => pk9 A 1073741824 ww hi.h2.1 hi.h2.2 (by omega)
  rw [hx1] at hp3
  have HX1 := Lib.hid hx1
  clear hx1
  have HPA := Lib.hid hpa
  have HPB := Lib.hid hpb
  clear hpa hpb hj
  obtain ⟨w2, hw2⟩ : ∃ x, ffW w #[.int .i64 ty, .int .i64 A, .int .i64 B, .int .i64 C, .string s, .bool fin, .slice sa SL.length sc] = x := ⟨_, rfl⟩
  have hf := ffW_facts w #[.int .i64 ty, .int .i64 A, .int .i64 B, .int .i64 C, .string s, .bool fin, .slice sa SL.length sc]
  have hS3 := FfS.start w w2 _ #[.int .i64 28, .int .i64 0, .int .i64 0, .string ⟨#[]⟩, .bool false, .int .i64 0, .int .i64 0, .bool false, .int .i64 0, .slice none 0 0, .int .i64 0, .int .i64 0, .string ⟨#[]⟩] hw2
  rw [hw2] at hf
  simp only [ffW, ffZ, ffT] at hw2
  have HW2 := Lib.hid hw2
  obtain ⟨hP, _, hT, _⟩ := hf
  have c0 := hP.cell 0 (v := .int .i64 ty) rfl
  have t0 := hT.cell 18 (v := .int .i64 28) rfl
  clear hw2 hP hT
  go_enter Try.func24, Try.ntmps24
  go_upto_region 2 with fail
  rw [HW2.out]
  go_wp2_with fail
  refine (hp0 _).mono ?_
  rintro e w3 ⟨rfl, rfl⟩
  go_upto_region 3 with fail
  clear c0 t0 hp0 HW2
  generalize w2.alloc (.cells #[.int .i64 28, .int .i64 0, .int .i64 0, .string ⟨#[]⟩, .bool false, .int .i64 0, .int .i64 0, .bool false, .int .i64 0, .slice none 0 0, .int .i64 0, .int .i64 0, .string ⟨#[]⟩] 33) = w3 at hS3 ⊢
  generalize w2.heap.size = b at hS3 ⊢
  have H := Lib.hid hS3
  clear hS3
  obtain ⟨c0, c1, c2, c3, c4, c5, c6⟩ := H.out.pr.c7
  obtain ⟨f0, f1, f2, f3, f4, f5, f6, f7, f8, f9, f10, f11, f12⟩ := H.out.fr.c13
  have hfr := fun i => H.out.fr.free i
  have em : min (s.size : Int) 60 = ((min s.size 60 : Nat) : Int) := by omega
  have ex : s.extract 0 (min s.size 60) = strB (few s) := few_str s _ rfl
  go_wp2_with fail
  refine (hp1 _).mono ?_
  rintro e wx ⟨rfl, rfl⟩
  go_wp2_with fail
  refine (hp2 _).mono ?_
  rintro e wx ⟨rfl, rfl⟩
  go_wp2_with fail
  refine (hp3 _).mono ?_
  rintro e wx ⟨rfl, rfl⟩
  go_upto_region 50 with fail
  clear c0 c1 c2 c3 c4 c5 c6 f0 f1 f2 f3 f4 f5 f6 f7 f8 f9 f10 f11 f12 hfr
  have h2 := H.out.store 6 (.int .i64 x1) (fc' := #[.int .i64 28, .int .i64 0, .int .i64 0, .string ⟨#[]⟩, .bool false, .int .i64 0, .int .i64 x1, .bool false, .int .i64 0, .slice none 0 0, .int .i64 0, .int .i64 0, .string ⟨#[]⟩]) rfl
  generalize w3.setCell ⟨b, 6, none⟩ (.int .i64 x1) = w4 at h2 ⊢
  replace H := Lib.hid h2
  clear h2
  obtain ⟨c0, c1, c2, c3, c4, c5, c6⟩ := H.out.pr.c7
  obtain ⟨f0, f1, f2, f3, f4, f5, f6, f7, f8, f9, f10, f11, f12⟩ := H.out.fr.c13
  have hfr := fun i => H.out.fr.free i
  go_upto_region 51 with fail
  clear c0 c1 c2 c3 c4 c5 c6 f0 f1 f2 f3 f4 f5 f6 f7 f8 f9 f10 f11 f12 hfr
  have h2 := H.out.store 3 (.string (strB (few s))) (fc' := #[.int .i64 28, .int .i64 0, .int .i64 0, .string (strB (few s)), .bool false, .int .i64 0, .int .i64 x1, .bool false, .int .i64 0, .slice none 0 0, .int .i64 0, .int .i64 0, .string ⟨#[]⟩]) rfl
  generalize w4.setCell ⟨b, 3, none⟩ (.string (strB (few s))) = w5 at h2 ⊢
  replace H := Lib.hid h2
  clear h2
  obtain ⟨c0, c1, c2, c3, c4, c5, c6⟩ := H.out.pr.c7
  obtain ⟨f0, f1, f2, f3, f4, f5, f6, f7, f8, f9, f10, f11, f12⟩ := H.out.fr.c13
  have hfr := fun i => H.out.fr.free i
  obtain ⟨z0, z1, z2, z3, z4, z5, z6, z7, z8, z9, z10, z11, z12⟩ := H.out.zr.c13
  have hfz := fun i => H.out.zr.free i
  obtain ⟨w9, hw9⟩ : ∃ x, ffH w5 (w.heap.size + 1) (.int .i64 28) (.int .i64 0) (.int .i64 0) (.string (strB (few s))) (.bool false) (.int .i64 0) (.int .i64 x1) (.bool false) (.int .i64 0) (.slice none 0 0) (.int .i64 0) (.int .i64 0) (.string ⟨#[]⟩) = x := ⟨_, rfl⟩
  have hh := H.out.hand
  rw [hw9] at hh
  have HH := Lib.hid hh
  simp only [ffH] at hw9
  have HW := Lib.hid hw9
  clear hh hw9
  go_wp2_with fail
  rw [HW.out]
  clear z0 z1 z2 z3 z4 z5 z6 z7 z8 z9 z10 z11 z12 hfz HW
  clear c0 c1 c2 c3 c4 c5 c6 f0 f1 f2 f3 f4 f5 f6 f7 f8 f9 f10 f11 f12 hfr
  obtain ⟨hA7, hO7⟩ := HH.out
  obtain ⟨y0, y1, y2, y3, y4, y5, y6, y7, y8, y9, y10, y11, y12⟩ := hA7.c13
  refine ⟨rfl, .agg #[.int .i64 28, .int .i64 0, .int .i64 0, .string (strB (few s)), .bool false, .int .i64 0, .int .i64 x1, .bool false, .int .i64 0, .slice none 0 0, .int .i64 0, .int .i64 0, .string ⟨#[]⟩], ?_, ?_⟩
  · simp [results, Try.f24, go_sem, y0, y1, y2, y3, y4, y5, y6, y7, y8, y9, y10, y11, y12]
  · have hPA := HPA.out
    have hPB := HPB.out
    have hX1 := HX1.out
    subst hPA
    subst hPB
    subst hX1
    exact FfQ.plain (genF 28 A B C (few s) fin [(0, 1)]) rfl rfl hO7 rfl
set_option maxRecDepth 100000 in
set_option maxHeartbeats 4000000 in
theorem ffp_19 (ty A B C : Int) (s : ByteArray) (fin : Bool) (sv : Value) (SL : List (Int × Int)) (w : World) (hS : RgAt w sv SL) (hi : FfIn ty A B C s) (hj : pkZ ty 21 = 19) : Calls Try.prog 24 #[.agg (fpC ty A B C s fin sv)] w (FfQ 29 A B C s fin w) := by
  unfold fpC
  have hp0 := fun ww => pk9 ty 21 ww hi.h1.1 hi.h1.2 (by omega)
  rw [hj] at hp0
  obtain ⟨sa, sc, rfl, hss⟩ := hS
  have HS : Hid (RgAt w (.slice sa SL.length sc) SL) := Lib.hid ⟨sa, sc, rfl, hss⟩
  clear hss
  obtain ⟨pa, hpa⟩ : ∃ pa, pkZ A 4611686018427387904 = pa := ⟨_, rfl⟩
  obtain ⟨pb, hpb⟩ : ∃ pb, pkZ B 4611686018427387904 = pb := ⟨_, rfl⟩
  have hp1 := fun ww => pk9 A 4611686018427387904 ww hi.h2.1 hi.h2.2 (by omega)
  have hp2 := fun ww => pk9 B 4611686018427387904 ww hi.h3.1 hi.h3.2 (by omega)
  have ba := pkZ_bd A 4611686018427387904 (by omega)
  have bb := pkZ_bd B 4611686018427387904 (by omega)
  rw [hpa] at hp1 ba
  rw [hpb] at hp2 bb
  have h5 := hi.h5
  obtain ⟨x1, hx1⟩ : ∃ x, pkZ A 1073741824 = x := ⟨_, rfl⟩
  have hp3 := fun ww => pk9 A 1073741824 ww hi.h2.1 hi.h2.2 (by omega)
  rw [hx1] at hp3
  have HX1 := Lib.hid hx1
  clear hx1
  have HPA := Lib.hid hpa
  have HPB := Lib.hid hpb
  clear hpa hpb hj
  obtain ⟨w2, hw2⟩ : ∃ x, ffW w #[.int .i64 ty, .int .i64 A, .int .i64 B, .int .i64 C, .string s, .bool fin, .slice sa SL.length sc] = x := ⟨_, rfl⟩
  have hf := ffW_facts w #[.int .i64 ty, .int .i64 A, .int .i64 B, .int .i64 C, .string s, .bool fin, .slice sa SL.length sc]
  have hS3 := FfS.start w w2 _ #[.int .i64 29, .int .i64 0, .int .i64 0, .string ⟨#[]⟩, .bool false, .int .i64 0, .int .i64 0, .bool false, .int .i64 0, .slice none 0 0, .int .i64 0, .int .i64 0, .string ⟨#[]⟩] hw2
  rw [hw2] at hf
  simp only [ffW, ffZ, ffT] at hw2
  have HW2 := Lib.hid hw2
  obtain ⟨hP, _, hT, _⟩ := hf
  have c0 := hP.cell 0 (v := .int .i64 ty) rfl
  have t0 := hT.cell 19 (v := .int .i64 29) rfl
  clear hw2 hP hT
  go_enter Try.func24, Try.ntmps24
  go_upto_region 2 with fail
  rw [HW2.out]
  go_wp2_with fail
  refine (hp0 _).mono ?_
  rintro e w3 ⟨rfl, rfl⟩
  go_upto_region 3 with fail
  clear c0 t0 hp0 HW2
  generalize w2.alloc (.cells #[.int .i64 29, .int .i64 0, .int .i64 0, .string ⟨#[]⟩, .bool false, .int .i64 0, .int .i64 0, .bool false, .int .i64 0, .slice none 0 0, .int .i64 0, .int .i64 0, .string ⟨#[]⟩] 33) = w3 at hS3 ⊢
  generalize w2.heap.size = b at hS3 ⊢
  have H := Lib.hid hS3
  clear hS3
  obtain ⟨c0, c1, c2, c3, c4, c5, c6⟩ := H.out.pr.c7
  obtain ⟨f0, f1, f2, f3, f4, f5, f6, f7, f8, f9, f10, f11, f12⟩ := H.out.fr.c13
  have hfr := fun i => H.out.fr.free i
  have em : min (s.size : Int) 60 = ((min s.size 60 : Nat) : Int) := by omega
  have ex : s.extract 0 (min s.size 60) = strB (few s) := few_str s _ rfl
  go_wp2_with fail
  refine (hp1 _).mono ?_
  rintro e wx ⟨rfl, rfl⟩
  go_wp2_with fail
  refine (hp2 _).mono ?_
  rintro e wx ⟨rfl, rfl⟩
  go_wp2_with fail
  refine (hp3 _).mono ?_
  rintro e wx ⟨rfl, rfl⟩
  go_upto_region 50 with fail
  clear c0 c1 c2 c3 c4 c5 c6 f0 f1 f2 f3 f4 f5 f6 f7 f8 f9 f10 f11 f12 hfr
  have h2 := H.out.store 6 (.int .i64 x1) (fc' := #[.int .i64 29, .int .i64 0, .int .i64 0, .string ⟨#[]⟩, .bool false, .int .i64 0, .int .i64 x1, .bool false, .int .i64 0, .slice none 0 0, .int .i64 0, .int .i64 0, .string ⟨#[]⟩]) rfl
  generalize w3.setCell ⟨b, 6, none⟩ (.int .i64 x1) = w4 at h2 ⊢
  replace H := Lib.hid h2
  clear h2
  obtain ⟨c0, c1, c2, c3, c4, c5, c6⟩ := H.out.pr.c7
  obtain ⟨f0, f1, f2, f3, f4, f5, f6, f7, f8, f9, f10, f11, f12⟩ := H.out.fr.c13
  have hfr := fun i => H.out.fr.free i
  go_upto_region 51 with fail
  clear c0 c1 c2 c3 c4 c5 c6 f0 f1 f2 f3 f4 f5 f6 f7 f8 f9 f10 f11 f12 hfr
  have h2 := H.out.store 3 (.string (strB (few s))) (fc' := #[.int .i64 29, .int .i64 0, .int .i64 0, .string (strB (few s)), .bool false, .int .i64 0, .int .i64 x1, .bool false, .int .i64 0, .slice none 0 0, .int .i64 0, .int .i64 0, .string ⟨#[]⟩]) rfl
  generalize w4.setCell ⟨b, 3, none⟩ (.string (strB (few s))) = w5 at h2 ⊢
  replace H := Lib.hid h2
  clear h2
  obtain ⟨c0, c1, c2, c3, c4, c5, c6⟩ := H.out.pr.c7
  obtain ⟨f0, f1, f2, f3, f4, f5, f6, f7, f8, f9, f10, f11, f12⟩ := H.out.fr.c13
  have hfr := fun i => H.out.fr.free i
  obtain ⟨z0, z1, z2, z3, z4, z5, z6, z7, z8, z9, z10, z11, z12⟩ := H.out.zr.c13
  have hfz := fun i => H.out.zr.free i
  obtain ⟨w9, hw9⟩ : ∃ x, ffH w5 (w.heap.size + 1) (.int .i64 29) (.int .i64 0) (.int .i64 0) (.string (strB (few s))) (.bool false) (.int .i64 0) (.int .i64 x1) (.bool false) (.int .i64 0) (.slice none 0 0) (.int .i64 0) (.int .i64 0) (.string ⟨#[]⟩) = x := ⟨_, rfl⟩
  have hh := H.out.hand
  rw [hw9] at hh
  have HH := Lib.hid hh
  simp only [ffH] at hw9
  have HW := Lib.hid hw9
  clear hh hw9
  go_wp2_with fail
  rw [HW.out]
  clear z0 z1 z2 z3 z4 z5 z6 z7 z8 z9 z10 z11 z12 hfz HW
  clear c0 c1 c2 c3 c4 c5 c6 f0 f1 f2 f3 f4 f5 f6 f7 f8 f9 f10 f11 f12 hfr
  obtain ⟨hA7, hO7⟩ := HH.out
  obtain ⟨y0, y1, y2, y3, y4, y5, y6, y7, y8, y9, y10, y11, y12⟩ := hA7.c13
  refine ⟨rfl, .agg #[.int .i64 29, .int .i64 0, .int .i64 0, .string (strB (few s)), .bool false, .int .i64 0, .int .i64 x1, .bool false, .int .i64 0, .slice none 0 0, .int .i64 0, .int .i64 0, .string ⟨#[]⟩], ?_, ?_⟩
  · simp [results, Try.f24, go_sem, y0, y1, y2, y3, y4, y5, y6, y7, y8, y9, y10, y11, y12]
  · have hPA := HPA.out
    have hPB := HPB.out
    have hX1 := HX1.out
    subst hPA
    subst hPB
    subst hX1
    exact FfQ.plain (genF 29 A B C (few s) fin [(0, 1)]) rfl rfl hO7 rfl
set_option maxRecDepth 100000 in
set_option maxHeartbeats 4000000 in
theorem ffp_20 (ty A B C : Int) (s : ByteArray) (fin : Bool) (sv : Value) (SL : List (Int × Int)) (w : World) (hS : RgAt w sv SL) (hi : FfIn ty A B C s) (hj : pkZ ty 21 = 20) : Calls Try.prog 24 #[.agg (fpC ty A B C s fin sv)] w (FfQ 30 A B C s fin w) := by
  unfold fpC
  have hp0 := fun ww => pk9 ty 21 ww hi.h1.1 hi.h1.2 (by omega)
  rw [hj] at hp0
  obtain ⟨sa, sc, rfl, hss⟩ := hS
  have HS : Hid (RgAt w (.slice sa SL.length sc) SL) := Lib.hid ⟨sa, sc, rfl, hss⟩
  clear hss
  obtain ⟨pa, hpa⟩ : ∃ pa, pkZ A 4611686018427387904 = pa := ⟨_, rfl⟩
  obtain ⟨pb, hpb⟩ : ∃ pb, pkZ B 4611686018427387904 = pb := ⟨_, rfl⟩
  have hp1 := fun ww => pk9 A 4611686018427387904 ww hi.h2.1 hi.h2.2 (by omega)
  have hp2 := fun ww => pk9 B 4611686018427387904 ww hi.h3.1 hi.h3.2 (by omega)
  have ba := pkZ_bd A 4611686018427387904 (by omega)
  have bb := pkZ_bd B 4611686018427387904 (by omega)
  rw [hpa] at hp1 ba
  rw [hpb] at hp2 bb
  have h5 := hi.h5
  have HPA := Lib.hid hpa
  have HPB := Lib.hid hpb
  clear hpa hpb hj
  obtain ⟨w2, hw2⟩ : ∃ x, ffW w #[.int .i64 ty, .int .i64 A, .int .i64 B, .int .i64 C, .string s, .bool fin, .slice sa SL.length sc] = x := ⟨_, rfl⟩
  have hf := ffW_facts w #[.int .i64 ty, .int .i64 A, .int .i64 B, .int .i64 C, .string s, .bool fin, .slice sa SL.length sc]
  have hS3 := FfS.start w w2 _ #[.int .i64 30, .int .i64 0, .int .i64 0, .string ⟨#[]⟩, .bool false, .int .i64 0, .int .i64 0, .bool false, .int .i64 0, .slice none 0 0, .int .i64 0, .int .i64 0, .string ⟨#[]⟩] hw2
  rw [hw2] at hf
  simp only [ffW, ffZ, ffT] at hw2
  have HW2 := Lib.hid hw2
  obtain ⟨hP, _, hT, _⟩ := hf
  have c0 := hP.cell 0 (v := .int .i64 ty) rfl
  have t0 := hT.cell 20 (v := .int .i64 30) rfl
  clear hw2 hP hT
  go_enter Try.func24, Try.ntmps24
  go_upto_region 2 with fail
  rw [HW2.out]
  go_wp2_with fail
  refine (hp0 _).mono ?_
  rintro e w3 ⟨rfl, rfl⟩
  go_upto_region 3 with fail
  clear c0 t0 hp0 HW2
  generalize w2.alloc (.cells #[.int .i64 30, .int .i64 0, .int .i64 0, .string ⟨#[]⟩, .bool false, .int .i64 0, .int .i64 0, .bool false, .int .i64 0, .slice none 0 0, .int .i64 0, .int .i64 0, .string ⟨#[]⟩] 33) = w3 at hS3 ⊢
  generalize w2.heap.size = b at hS3 ⊢
  have H := Lib.hid hS3
  clear hS3
  obtain ⟨c0, c1, c2, c3, c4, c5, c6⟩ := H.out.pr.c7
  obtain ⟨f0, f1, f2, f3, f4, f5, f6, f7, f8, f9, f10, f11, f12⟩ := H.out.fr.c13
  have hfr := fun i => H.out.fr.free i
  have em : min (s.size : Int) 60 = ((min s.size 60 : Nat) : Int) := by omega
  have ex : s.extract 0 (min s.size 60) = strB (few s) := few_str s _ rfl
  go_wp2_with fail
  refine (hp1 _).mono ?_
  rintro e wx ⟨rfl, rfl⟩
  go_wp2_with fail
  refine (hp2 _).mono ?_
  rintro e wx ⟨rfl, rfl⟩
  go_upto_region 51 with fail
  obtain ⟨z0, z1, z2, z3, z4, z5, z6, z7, z8, z9, z10, z11, z12⟩ := H.out.zr.c13
  have hfz := fun i => H.out.zr.free i
  obtain ⟨w9, hw9⟩ : ∃ x, ffH w3 (w.heap.size + 1) (.int .i64 30) (.int .i64 0) (.int .i64 0) (.string ⟨#[]⟩) (.bool false) (.int .i64 0) (.int .i64 0) (.bool false) (.int .i64 0) (.slice none 0 0) (.int .i64 0) (.int .i64 0) (.string ⟨#[]⟩) = x := ⟨_, rfl⟩
  have hh := H.out.hand
  rw [hw9] at hh
  have HH := Lib.hid hh
  simp only [ffH] at hw9
  have HW := Lib.hid hw9
  clear hh hw9
  go_wp2_with fail
  rw [HW.out]
  clear z0 z1 z2 z3 z4 z5 z6 z7 z8 z9 z10 z11 z12 hfz HW
  clear c0 c1 c2 c3 c4 c5 c6 f0 f1 f2 f3 f4 f5 f6 f7 f8 f9 f10 f11 f12 hfr
  obtain ⟨hA7, hO7⟩ := HH.out
  obtain ⟨y0, y1, y2, y3, y4, y5, y6, y7, y8, y9, y10, y11, y12⟩ := hA7.c13
  refine ⟨rfl, .agg #[.int .i64 30, .int .i64 0, .int .i64 0, .string ⟨#[]⟩, .bool false, .int .i64 0, .int .i64 0, .bool false, .int .i64 0, .slice none 0 0, .int .i64 0, .int .i64 0, .string ⟨#[]⟩], ?_, ?_⟩
  · simp [results, Try.f24, go_sem, y0, y1, y2, y3, y4, y5, y6, y7, y8, y9, y10, y11, y12]
  · have hPA := HPA.out
    have hPB := HPB.out
    subst hPA
    subst hPB
    exact FfQ.plain (genF 30 A B C (few s) fin [(0, 1)]) rfl rfl hO7 rfl
end Go.Proofs.Ytmmgmpghkpbgkaa
/- Contracts of the law's helpers: FrameFrom builds a valid frame. -/
namespace Go.Proofs.Ytmmgmpghkpbgkaa
open Go Go.RowKit
set_option linter.unusedVariables false
set_option linter.unusedSimpArgs false

theorem ite_all {α : Type} {P : α → Prop} {c : Prop} [Decidable c] {a b : α} (h1 : c → P a) (h2 : ¬ c → P b) : P (if c then a else b) := by
  by_cases h : c
  · rw [if_pos h]; exact h1 h
  · rw [if_neg h]; exact h2 h
theorem genF_ty (ty A B C : Int) (fw : List UInt8) (fin : Bool) (rg : List (Int × Int)) : (genF ty A B C fw fin rg).ty = ty := by
  show (fun f : Fr => f.ty = ty) (genF ty A B C fw fin rg)
  unfold genF
  repeat' refine ite_all (P := fun f : Fr => f.ty = ty) (fun _ => ?_) (fun _ => ?_)
  all_goals exact rfl
theorem genF_rg (ty A B C : Int) (fw : List UInt8) (fin : Bool) (rg : List (Int × Int)) : (genF ty A B C fw fin rg).rg = rg ∨ (genF ty A B C fw fin rg).rg = [] := by
  show (fun f : Fr => f.rg = rg ∨ f.rg = []) (genF ty A B C fw fin rg)
  unfold genF
  repeat' refine ite_all (P := fun f : Fr => f.rg = rg ∨ f.rg = []) (fun _ => ?_) (fun _ => ?_)
  all_goals first | exact .inr rfl | exact .inl rfl
theorem genF_wf (ty A B C : Int) (fw : List UInt8) (fin : Bool) (rg : List (Int × Int)) (hl : fw.length ≤ 60) : FrWf (genF ty A B C fw fin rg) := by
  have a1 := pkZ_bd A 4611686018427387904 (by omega)
  have a2 := pkZ_bd B 4611686018427387904 (by omega)
  have a3 := pkZ_bd B 1073741824 (by omega)
  have a4 := pkZ_bd C 1099511627777 (by omega)
  have a5 := pkZ_bd A 1099511627676 (by omega)
  have a6 := pkZ_bd B 1099511627676 (by omega)
  have a7 := pkZ_bd A 1073741824 (by omega)
  have a8 := pkZ_bd B (pkZ A 4611686018427387904 + 1) (by omega)
  unfold genF
  repeat' refine ite_all (P := FrWf) (fun _ => ?_) (fun _ => ?_)
  all_goals
    constructor
    all_goals
      simp only [Fr.zero, List.length_append, List.length_take, List.length_cons, List.length_nil]
      omega
/-- The types of generated frames. -/
def tyL : List Int := [0, 1, 2, 4, 5, 6, 7, 8, 16, 17, 18, 20, 21, 22, 24, 25, 26, 27, 28, 29, 30]
theorem tyL_tab : ∀ T ∈ tyL, ∃ l, tab T = some l := by
  intro T hT
  simp only [tyL, List.mem_cons, List.not_mem_nil, or_false] at hT
  rcases hT with rfl | rfl | rfl | rfl | rfl | rfl | rfl | rfl | rfl | rfl | rfl | rfl | rfl | rfl | rfl | rfl | rfl | rfl | rfl | rfl | rfl
  all_goals exact ⟨_, rfl⟩
/-- What FrameFrom answers. -/
def FfA (w : World) (e : Ending) (w' : World) : Prop := ∃ f rv s, e = .returned (.agg (frC f rv)) ∧ FrOk w' f rv ∧ RgNew w.heap.size rv ∧ encF f = some s ∧ f.ty ∈ tyL ∧ Only [] w w'
theorem FfQ.out {T A B C : Int} {s : ByteArray} {fin : Bool} {w w' : World} {e : Ending} (h : FfQ T A B C s fin w e w') (hT : T ∈ tyL) : FfA w e w' := by
  obtain ⟨rv, R, rfl, hR, hN, hO, ho⟩ := h
  have hb : 0 ≤ T ∧ T ≤ 30 := by
    simp only [tyL, List.mem_cons, List.not_mem_nil, or_false] at hT
    omega
  obtain ⟨t, ht⟩ := genF_valid T A B C (few s) fin R (few_len s) hO.1 hO.2.1 hO.2.2 (tyL_tab T hT)
  refine ⟨genF T A B C (few s) fin R, rv, t, rfl, ⟨genF_wf _ _ _ _ _ _ _ (few_len s), by rw [genF_ty]; omega, hR, ?_⟩, hN, ht, by rw [genF_ty]; exact hT, ho⟩
  rcases genF_rg T A B C (few s) fin R with h | h
  · rw [h]; have := hO.2.1; omega
  · rw [h]; simp
/-- The parameters fit. -/
structure FpOk (ty A B C : Int) (s : ByteArray) : Prop where
  b1 : -9223372036854775808 ≤ ty ∧ ty ≤ 9223372036854775807
  b2 : -9223372036854775808 ≤ A ∧ A ≤ 9223372036854775807
  b3 : -9223372036854775808 ≤ B ∧ B ≤ 9223372036854775807
  b4 : -9223372036854775808 ≤ C ∧ C ≤ 9223372036854775807
  b5 : s.size ≤ 9223372036854775807
theorem frameFrom_c (ty A B C : Int) (s : ByteArray) (fin : Bool) (sv : Value) (SL : List (Int × Int)) (w : World) (hS : RgAt w sv SL) (h : FpOk ty A B C s) :
    Calls Try.prog 24 #[.agg (fpC ty A B C s fin sv)] w (FfA w) := by
  obtain ⟨h1, h2, h3, h4, h5⟩ := h
  have hb := pkZ_bd ty 21 (by omega)
  obtain ⟨j, hj⟩ : ∃ j, pkZ ty 21 = j := ⟨_, rfl⟩
  rw [hj] at hb
  have hc : j = 0 ∨ j = 1 ∨ j = 2 ∨ j = 3 ∨ j = 4 ∨ j = 5 ∨ j = 6 ∨ j = 7 ∨ j = 8 ∨ j = 9 ∨ j = 10 ∨ j = 11 ∨ j = 12 ∨ j = 13 ∨ j = 14 ∨ j = 15 ∨ j = 16 ∨ j = 17 ∨ j = 18 ∨ j = 19 ∨ j = 20 := by omega
  rcases hc with rfl | rfl | rfl | rfl | rfl | rfl | rfl | rfl | rfl | rfl | rfl | rfl | rfl | rfl | rfl | rfl | rfl | rfl | rfl | rfl | rfl
  · exact (ffp_0 ty A B C s fin sv SL w hS ⟨h1, h2, h3, h4, h5⟩ hj).mono fun e w' h => h.out (by simp [tyL])
  · exact (ffp_1 ty A B C s fin sv SL w hS ⟨h1, h2, h3, h4, h5⟩ hj).mono fun e w' h => h.out (by simp [tyL])
  · exact (ffp_2 ty A B C s fin sv SL w hS ⟨h1, h2, h3, h4, h5⟩ hj).mono fun e w' h => h.out (by simp [tyL])
  · exact (ffp_3 ty A B C s fin sv SL w hS ⟨h1, h2, h3, h4, h5⟩ hj).mono fun e w' h => h.out (by simp [tyL])
  · exact (ffp_4 ty A B C s fin sv SL w hS ⟨h1, h2, h3, h4, h5⟩ hj).mono fun e w' h => h.out (by simp [tyL])
  · exact (ffp_5 ty A B C s fin sv SL w hS ⟨h1, h2, h3, h4, h5⟩ hj).mono fun e w' h => h.out (by simp [tyL])
  · exact (ffp_6 ty A B C s fin sv SL w hS ⟨h1, h2, h3, h4, h5⟩ hj).mono fun e w' h => h.out (by simp [tyL])
  · exact (ffp_7 ty A B C s fin sv SL w hS ⟨h1, h2, h3, h4, h5⟩ hj).mono fun e w' h => h.out (by simp [tyL])
  · exact (ffp_8 ty A B C s fin sv SL w hS ⟨h1, h2, h3, h4, h5⟩ hj).mono fun e w' h => h.out (by simp [tyL])
  · exact (ffp_9 ty A B C s fin sv SL w hS ⟨h1, h2, h3, h4, h5⟩ hj).mono fun e w' h => h.out (by simp [tyL])
  · exact (ffp_10 ty A B C s fin sv SL w hS ⟨h1, h2, h3, h4, h5⟩ hj).mono fun e w' h => h.out (by simp [tyL])
  · exact (ffp_11 ty A B C s fin sv SL w hS ⟨h1, h2, h3, h4, h5⟩ hj).mono fun e w' h => h.out (by simp [tyL])
  · exact (ffp_12 ty A B C s fin sv SL w hS ⟨h1, h2, h3, h4, h5⟩ hj).mono fun e w' h => h.out (by simp [tyL])
  · exact (ffp_13 ty A B C s fin sv SL w hS ⟨h1, h2, h3, h4, h5⟩ hj).mono fun e w' h => h.out (by simp [tyL])
  · exact (ffp_14 ty A B C s fin sv SL w hS ⟨h1, h2, h3, h4, h5⟩ hj).mono fun e w' h => h.out (by simp [tyL])
  · exact (ffp_15 ty A B C s fin sv SL w hS ⟨h1, h2, h3, h4, h5⟩ hj).mono fun e w' h => h.out (by simp [tyL])
  · exact (ffp_16 ty A B C s fin sv SL w hS ⟨h1, h2, h3, h4, h5⟩ hj).mono fun e w' h => h.out (by simp [tyL])
  · exact (ffp_17 ty A B C s fin sv SL w hS ⟨h1, h2, h3, h4, h5⟩ hj).mono fun e w' h => h.out (by simp [tyL])
  · exact (ffp_18 ty A B C s fin sv SL w hS ⟨h1, h2, h3, h4, h5⟩ hj).mono fun e w' h => h.out (by simp [tyL])
  · exact (ffp_19 ty A B C s fin sv SL w hS ⟨h1, h2, h3, h4, h5⟩ hj).mono fun e w' h => h.out (by simp [tyL])
  · exact (ffp_20 ty A B C s fin sv SL w hS ⟨h1, h2, h3, h4, h5⟩ hj).mono fun e w' h => h.out (by simp [tyL])
end Go.Proofs.Ytmmgmpghkpbgkaa
