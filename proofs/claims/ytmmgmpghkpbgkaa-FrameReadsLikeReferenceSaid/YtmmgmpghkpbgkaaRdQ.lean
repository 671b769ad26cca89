/- Contracts of the law's helpers: FrameFrom, type by type. -/
import Derived.Test.YtmmgmpghkpbgkaaRdL
namespace Go.Proofs.Ytmmgmpghkpbgkaa
open Go Go.RowKit
set_option linter.unusedVariables false
set_option linter.unusedSimpArgs false

set_option maxRecDepth 100000 in
set_option maxHeartbeats 4000000 in
theorem ffp_7 (ty A B C : Int) (s : ByteArray) (fin : Bool) (sv : Value) (SL : List (Int × Int)) (w : World) (hS : RgAt w sv SL) (hi : FfIn ty A B C s) (hj : pkZ ty 21 = 7) : Calls Try.prog 24 #[.agg (fpC ty A B C s fin sv)] w (FfQ 8 A B C s fin w) := by
  unfold fpC
  have hp0 := fun ww => pk9 ty 21 ww hi.h1.1 hi.h1.2 (by omega)
  rw [hj] at hp0
  obtain ⟨sa, sc, rfl, hss⟩ := hS
  have HS : Hid (RgAt w (.slice sa SL.length sc) SL) := Lib.hid ⟨sa, sc, rfl, hss⟩
  clear hss
  obtain ⟨pa, hpa⟩ : ∃ pa, pkZ A 4611686018427387904 = pa := ⟨_, rfl⟩
  obtain ⟨pb, hpb⟩ : ∃ pb, pkZ B 4611686018427387904 = pb := ⟨_, rfl⟩
  have hp1 := fun ww => pk9 A 4611686018427387904 ww hi.h2.1 hi.h2.2 (by omega)
  have hp2 := fun ww => pk9 B 4611686018427387904 ww hi.h3.1 hi.h3.2 (by omega)
  have ba := pkZ_bd A 4611686018427387904 (by omega)
  have bb := pkZ_bd B 4611686018427387904 (by omega)
  rw [hpa] at hp1 ba
  rw [hpb] at hp2 bb
  have h5 := hi.h5
  obtain ⟨x1, hx1⟩ : ∃ x, pkZ B 1099511627676 = x := ⟨_, rfl⟩
  have hp3 := fun ww => pk9 B 1099511627676 ww hi.h3.1 hi.h3.2 (by omega)
  rw [hx1] at hp3
  have HX1 := Lib.hid hx1
  clear hx1
  have HPA := Lib.hid hpa
  have HPB := Lib.hid hpb
  clear hpa hpb hj
  obtain ⟨w2, hw2⟩ : ∃ x, ffW w #[.int .i64 ty, .int .i64 A, .int .i64 B, .int .i64 C, .string s, .bool fin, .slice sa SL.length sc] = x := ⟨_, rfl⟩
  have hf := ffW_facts w #[.int .i64 ty, .int .i64 A, .int .i64 B, .int .i64 C, .string s, .bool fin, .slice sa SL.length sc]
  have hS3 := FfS.start w w2 _ #[.int .i64 8, .int .i64 0, .int .i64 0, .string ⟨#[]⟩, .bool false, .int .i64 0, .int .i64 0, .bool false, .int .i64 0, .slice none 0 0, .int .i64 0, .int .i64 0, .string ⟨#[]⟩] hw2
  rw [hw2] at hf
  simp only [ffW, ffZ, ffT] at hw2
  have HW2 := Lib.hid hw2
  obtain ⟨hP, _, hT, _⟩ := hf
  have c0 := hP.cell 0 (v := .int .i64 ty) rfl
  have t0 := hT.cell 7 (v := .int .i64 8) rfl
  clear hw2 hP hT
  go_enter Try.func24, Try.ntmps24
  go_upto_region 2 with fail
  rw [HW2.out]
  go_wp2_with fail
  refine (hp0 _).mono ?_
  rintro e w3 ⟨rfl, rfl⟩
  go_upto_region 3 with fail
  clear c0 t0 hp0 HW2
  generalize w2.alloc (.cells #[.int .i64 8, .int .i64 0, .int .i64 0, .string ⟨#[]⟩, .bool false, .int .i64 0, .int .i64 0, .bool false, .int .i64 0, .slice none 0 0, .int .i64 0, .int .i64 0, .string ⟨#[]⟩] 33) = w3 at hS3 ⊢
  generalize w2.heap.size = b at hS3 ⊢
  have H := Lib.hid hS3
  clear hS3
  obtain ⟨c0, c1, c2, c3, c4, c5, c6⟩ := H.out.pr.c7
  obtain ⟨f0, f1, f2, f3, f4, f5, f6, f7, f8, f9, f10, f11, f12⟩ := H.out.fr.c13
  have hfr := fun i => H.out.fr.free i
  have em : min (s.size : Int) 60 = ((min s.size 60 : Nat) : Int) := by omega
  have ex : s.extract 0 (min s.size 60) = strB (few s) := few_str s _ rfl
  go_wp2_with fail
  refine (hp1 _).mono ?_
  rintro e wx ⟨rfl, rfl⟩
  go_wp2_with fail
  refine (hp2 _).mono ?_
  rintro e wx ⟨rfl, rfl⟩
  go_upto_region 24 with fail
  clear c0 c1 c2 c3 c4 c5 c6 f0 f1 f2 f3 f4 f5 f6 f7 f8 f9 f10 f11 f12 hfr
  have h2 := H.out.store 1 (.int .i64 pa) (fc' := #[.int .i64 8, .int .i64 pa, .int .i64 0, .string ⟨#[]⟩, .bool false, .int .i64 0, .int .i64 0, .bool false, .int .i64 0, .slice none 0 0, .int .i64 0, .int .i64 0, .string ⟨#[]⟩]) rfl
  generalize w3.setCell ⟨b, 1, none⟩ (.int .i64 pa) = w4 at h2 ⊢
  replace H := Lib.hid h2
  clear h2
  obtain ⟨c0, c1, c2, c3, c4, c5, c6⟩ := H.out.pr.c7
  obtain ⟨f0, f1, f2, f3, f4, f5, f6, f7, f8, f9, f10, f11, f12⟩ := H.out.fr.c13
  have hfr := fun i => H.out.fr.free i
  go_wp2_with fail
  refine (hp3 _).mono ?_
  rintro e wx ⟨rfl, rfl⟩
  go_upto_region 25 with fail
  clear c0 c1 c2 c3 c4 c5 c6 f0 f1 f2 f3 f4 f5 f6 f7 f8 f9 f10 f11 f12 hfr
  have h2 := H.out.store 2 (.int .i64 x1) (fc' := #[.int .i64 8, .int .i64 pa, .int .i64 x1, .string ⟨#[]⟩, .bool false, .int .i64 0, .int .i64 0, .bool false, .int .i64 0, .slice none 0 0, .int .i64 0, .int .i64 0, .string ⟨#[]⟩]) rfl
  generalize w4.setCell ⟨b, 2, none⟩ (.int .i64 x1) = w5 at h2 ⊢
  replace H := Lib.hid h2
  clear h2
  obtain ⟨c0, c1, c2, c3, c4, c5, c6⟩ := H.out.pr.c7
  obtain ⟨f0, f1, f2, f3, f4, f5, f6, f7, f8, f9, f10, f11, f12⟩ := H.out.fr.c13
  have hfr := fun i => H.out.fr.free i
  go_upto_region 26 with fail
  clear c0 c1 c2 c3 c4 c5 c6 f0 f1 f2 f3 f4 f5 f6 f7 f8 f9 f10 f11 f12 hfr
  have h2 := H.out.store 3 (.string (strB (few s))) (fc' := #[.int .i64 8, .int .i64 pa, .int .i64 x1, .string (strB (few s)), .bool false, .int .i64 0, .int .i64 0, .bool false, .int .i64 0, .slice none 0 0, .int .i64 0, .int .i64 0, .string ⟨#[]⟩]) rfl
  generalize w5.setCell ⟨b, 3, none⟩ (.string (strB (few s))) = w6 at h2 ⊢
  replace H := Lib.hid h2
  clear h2
  obtain ⟨c0, c1, c2, c3, c4, c5, c6⟩ := H.out.pr.c7
  obtain ⟨f0, f1, f2, f3, f4, f5, f6, f7, f8, f9, f10, f11, f12⟩ := H.out.fr.c13
  have hfr := fun i => H.out.fr.free i
  go_upto_region 51 with fail
  clear c0 c1 c2 c3 c4 c5 c6 f0 f1 f2 f3 f4 f5 f6 f7 f8 f9 f10 f11 f12 hfr
  have h2 := H.out.store 4 (.bool fin) (fc' := #[.int .i64 8, .int .i64 pa, .int .i64 x1, .string (strB (few s)), .bool fin, .int .i64 0, .int .i64 0, .bool false, .int .i64 0, .slice none 0 0, .int .i64 0, .int .i64 0, .string ⟨#[]⟩]) rfl
  generalize w6.setCell ⟨b, 4, none⟩ (.bool fin) = w7 at h2 ⊢
  replace H := Lib.hid h2
  clear h2
  obtain ⟨c0, c1, c2, c3, c4, c5, c6⟩ := H.out.pr.c7
  obtain ⟨f0, f1, f2, f3, f4, f5, f6, f7, f8, f9, f10, f11, f12⟩ := H.out.fr.c13
  have hfr := fun i => H.out.fr.free i
  obtain ⟨z0, z1, z2, z3, z4, z5, z6, z7, z8, z9, z10, z11, z12⟩ := H.out.zr.c13
  have hfz := fun i => H.out.zr.free i
  obtain ⟨w9, hw9⟩ : ∃ x, ffH w7 (w.heap.size + 1) (.int .i64 8) (.int .i64 pa) (.int .i64 x1) (.string (strB (few s))) (.bool fin) (.int .i64 0) (.int .i64 0) (.bool false) (.int .i64 0) (.slice none 0 0) (.int .i64 0) (.int .i64 0) (.string ⟨#[]⟩) = x := ⟨_, rfl⟩
  have hh := H.out.hand
  rw [hw9] at hh
  have HH := Lib.hid hh
  simp only [ffH] at hw9
  have HW := Lib.hid hw9
  clear hh hw9
  go_wp2_with fail
  rw [HW.out]
  clear z0 z1 z2 z3 z4 z5 z6 z7 z8 z9 z10 z11 z12 hfz HW
  clear c0 c1 c2 c3 c4 c5 c6 f0 f1 f2 f3 f4 f5 f6 f7 f8 f9 f10 f11 f12 hfr
  obtain ⟨hA7, hO7⟩ := HH.out
  obtain ⟨y0, y1, y2, y3, y4, y5, y6, y7, y8, y9, y10, y11, y12⟩ := hA7.c13
  refine ⟨rfl, .agg #[.int .i64 8, .int .i64 pa, .int .i64 x1, .string (strB (few s)), .bool fin, .int .i64 0, .int .i64 0, .bool false, .int .i64 0, .slice none 0 0, .int .i64 0, .int .i64 0, .string ⟨#[]⟩], ?_, ?_⟩
  · simp [results, Try.f24, go_sem, y0, y1, y2, y3, y4, y5, y6, y7, y8, y9, y10, y11, y12]
  · have hPA := HPA.out
    have hPB := HPB.out
    have hX1 := HX1.out
    subst hPA
    subst hPB
    subst hX1
    exact FfQ.plain (genF 8 A B C (few s) fin [(0, 1)]) rfl rfl hO7 rfl
set_option maxRecDepth 100000 in
set_option maxHeartbeats 4000000 in
theorem ffp_8 (ty A B C : Int) (s : ByteArray) (fin : Bool) (sv : Value) (SL : List (Int × Int)) (w : World) (hS : RgAt w sv SL) (hi : FfIn ty A B C s) (hj : pkZ ty 21 = 8) : Calls Try.prog 24 #[.agg (fpC ty A B C s fin sv)] w (FfQ 16 A B C s fin w) := by
  unfold fpC
  have hp0 := fun ww => pk9 ty 21 ww hi.h1.1 hi.h1.2 (by omega)
  rw [hj] at hp0
  obtain ⟨sa, sc, rfl, hss⟩ := hS
  have HS : Hid (RgAt w (.slice sa SL.length sc) SL) := Lib.hid ⟨sa, sc, rfl, hss⟩
  clear hss
  obtain ⟨pa, hpa⟩ : ∃ pa, pkZ A 4611686018427387904 = pa := ⟨_, rfl⟩
  obtain ⟨pb, hpb⟩ : ∃ pb, pkZ B 4611686018427387904 = pb := ⟨_, rfl⟩
  have hp1 := fun ww => pk9 A 4611686018427387904 ww hi.h2.1 hi.h2.2 (by omega)
  have hp2 := fun ww => pk9 B 4611686018427387904 ww hi.h3.1 hi.h3.2 (by omega)
  have ba := pkZ_bd A 4611686018427387904 (by omega)
  have bb := pkZ_bd B 4611686018427387904 (by omega)
  rw [hpa] at hp1 ba
  rw [hpb] at hp2 bb
  have h5 := hi.h5
  have HPA := Lib.hid hpa
  have HPB := Lib.hid hpb
  clear hpa hpb hj
  obtain ⟨w2, hw2⟩ : ∃ x, ffW w #[.int .i64 ty, .int .i64 A, .int .i64 B, .int .i64 C, .string s, .bool fin, .slice sa SL.length sc] = x := ⟨_, rfl⟩
  have hf := ffW_facts w #[.int .i64 ty, .int .i64 A, .int .i64 B, .int .i64 C, .string s, .bool fin, .slice sa SL.length sc]
  have hS3 := FfS.start w w2 _ #[.int .i64 16, .int .i64 0, .int .i64 0, .string ⟨#[]⟩, .bool false, .int .i64 0, .int .i64 0, .bool false, .int .i64 0, .slice none 0 0, .int .i64 0, .int .i64 0, .string ⟨#[]⟩] hw2
  rw [hw2] at hf
  simp only [ffW, ffZ, ffT] at hw2
  have HW2 := Lib.hid hw2
  obtain ⟨hP, _, hT, _⟩ := hf
  have c0 := hP.cell 0 (v := .int .i64 ty) rfl
  have t0 := hT.cell 8 (v := .int .i64 16) rfl
  clear hw2 hP hT
  go_enter Try.func24, Try.ntmps24
  go_upto_region 2 with fail
  rw [HW2.out]
  go_wp2_with fail
  refine (hp0 _).mono ?_
  rintro e w3 ⟨rfl, rfl⟩
  go_upto_region 3 with fail
  clear c0 t0 hp0 HW2
  generalize w2.alloc (.cells #[.int .i64 16, .int .i64 0, .int .i64 0, .string ⟨#[]⟩, .bool false, .int .i64 0, .int .i64 0, .bool false, .int .i64 0, .slice none 0 0, .int .i64 0, .int .i64 0, .string ⟨#[]⟩] 33) = w3 at hS3 ⊢
  generalize w2.heap.size = b at hS3 ⊢
  have H := Lib.hid hS3
  clear hS3
  obtain ⟨c0, c1, c2, c3, c4, c5, c6⟩ := H.out.pr.c7
  obtain ⟨f0, f1, f2, f3, f4, f5, f6, f7, f8, f9, f10, f11, f12⟩ := H.out.fr.c13
  have hfr := fun i => H.out.fr.free i
  have em : min (s.size : Int) 60 = ((min s.size 60 : Nat) : Int) := by omega
  have ex : s.extract 0 (min s.size 60) = strB (few s) := few_str s _ rfl
  go_wp2_with fail
  refine (hp1 _).mono ?_
  rintro e wx ⟨rfl, rfl⟩
  go_wp2_with fail
  refine (hp2 _).mono ?_
  rintro e wx ⟨rfl, rfl⟩
  go_upto_region 51 with fail
  clear c0 c1 c2 c3 c4 c5 c6 f0 f1 f2 f3 f4 f5 f6 f7 f8 f9 f10 f11 f12 hfr
  have h2 := H.out.store 5 (.int .i64 pa) (fc' := #[.int .i64 16, .int .i64 0, .int .i64 0, .string ⟨#[]⟩, .bool false, .int .i64 pa, .int .i64 0, .bool false, .int .i64 0, .slice none 0 0, .int .i64 0, .int .i64 0, .string ⟨#[]⟩]) rfl
  generalize w3.setCell ⟨b, 5, none⟩ (.int .i64 pa) = w4 at h2 ⊢
  replace H := Lib.hid h2
  clear h2
  obtain ⟨c0, c1, c2, c3, c4, c5, c6⟩ := H.out.pr.c7
  obtain ⟨f0, f1, f2, f3, f4, f5, f6, f7, f8, f9, f10, f11, f12⟩ := H.out.fr.c13
  have hfr := fun i => H.out.fr.free i
  obtain ⟨z0, z1, z2, z3, z4, z5, z6, z7, z8, z9, z10, z11, z12⟩ := H.out.zr.c13
  have hfz := fun i => H.out.zr.free i
  obtain ⟨w9, hw9⟩ : ∃ x, ffH w4 (w.heap.size + 1) (.int .i64 16) (.int .i64 0) (.int .i64 0) (.string ⟨#[]⟩) (.bool false) (.int .i64 pa) (.int .i64 0) (.bool false) (.int .i64 0) (.slice none 0 0) (.int .i64 0) (.int .i64 0) (.string ⟨#[]⟩) = x := ⟨_, rfl⟩
  have hh := H.out.hand
  rw [hw9] at hh
  have HH := Lib.hid hh
  simp only [ffH] at hw9
  have HW := Lib.hid hw9
  clear hh hw9
  go_wp2_with fail
  rw [HW.out]
  clear z0 z1 z2 z3 z4 z5 z6 z7 z8 z9 z10 z11 z12 hfz HW
  clear c0 c1 c2 c3 c4 c5 c6 f0 f1 f2 f3 f4 f5 f6 f7 f8 f9 f10 f11 f12 hfr
  obtain ⟨hA7, hO7⟩ := HH.out
  obtain ⟨y0, y1, y2, y3, y4, y5, y6, y7, y8, y9, y10, y11, y12⟩ := hA7.c13
  refine ⟨rfl, .agg #[.int .i64 16, .int .i64 0, .int .i64 0, .string ⟨#[]⟩, .bool false, .int .i64 pa, .int .i64 0, .bool false, .int .i64 0, .slice none 0 0, .int .i64 0, .int .i64 0, .string ⟨#[]⟩], ?_, ?_⟩
  · simp [results, Try.f24, go_sem, y0, y1, y2, y3, y4, y5, y6, y7, y8, y9, y10, y11, y12]
  · have hPA := HPA.out
    have hPB := HPB.out
    subst hPA
    subst hPB
    exact FfQ.plain (genF 16 A B C (few s) fin [(0, 1)]) rfl rfl hO7 rfl
set_option maxRecDepth 100000 in
set_option maxHeartbeats 4000000 in
theorem ffp_9 (ty A B C : Int) (s : ByteArray) (fin : Bool) (sv : Value) (SL : List (Int × Int)) (w : World) (hS : RgAt w sv SL) (hi : FfIn ty A B C s) (hj : pkZ ty 21 = 9) : Calls Try.prog 24 #[.agg (fpC ty A B C s fin sv)] w (FfQ 17 A B C s fin w) := by
  unfold fpC
  have hp0 := fun ww => pk9 ty 21 ww hi.h1.1 hi.h1.2 (by omega)
  rw [hj] at hp0
  obtain ⟨sa, sc, rfl, hss⟩ := hS
  have HS : Hid (RgAt w (.slice sa SL.length sc) SL) := Lib.hid ⟨sa, sc, rfl, hss⟩
  clear hss
  obtain ⟨pa, hpa⟩ : ∃ pa, pkZ A 4611686018427387904 = pa := ⟨_, rfl⟩
  obtain ⟨pb, hpb⟩ : ∃ pb, pkZ B 4611686018427387904 = pb := ⟨_, rfl⟩
  have hp1 := fun ww => pk9 A 4611686018427387904 ww hi.h2.1 hi.h2.2 (by omega)
  have hp2 := fun ww => pk9 B 4611686018427387904 ww hi.h3.1 hi.h3.2 (by omega)
  have ba := pkZ_bd A 4611686018427387904 (by omega)
  have bb := pkZ_bd B 4611686018427387904 (by omega)
  rw [hpa] at hp1 ba
  rw [hpb] at hp2 bb
  have h5 := hi.h5
  have HPA := Lib.hid hpa
  have HPB := Lib.hid hpb
  clear hpa hpb hj
  obtain ⟨w2, hw2⟩ : ∃ x, ffW w #[.int .i64 ty, .int .i64 A, .int .i64 B, .int .i64 C, .string s, .bool fin, .slice sa SL.length sc] = x := ⟨_, rfl⟩
  have hf := ffW_facts w #[.int .i64 ty, .int .i64 A, .int .i64 B, .int .i64 C, .string s, .bool fin, .slice sa SL.length sc]
  have hS3 := FfS.start w w2 _ #[.int .i64 17, .int .i64 0, .int .i64 0, .string ⟨#[]⟩, .bool false, .int .i64 0, .int .i64 0, .bool false, .int .i64 0, .slice none 0 0, .int .i64 0, .int .i64 0, .string ⟨#[]⟩] hw2
  rw [hw2] at hf
  simp only [ffW, ffZ, ffT] at hw2
  have HW2 := Lib.hid hw2
  obtain ⟨hP, _, hT, _⟩ := hf
  have c0 := hP.cell 0 (v := .int .i64 ty) rfl
  have t0 := hT.cell 9 (v := .int .i64 17) rfl
  clear hw2 hP hT
  go_enter Try.func24, Try.ntmps24
  go_upto_region 2 with fail
  rw [HW2.out]
  go_wp2_with fail
  refine (hp0 _).mono ?_
  rintro e w3 ⟨rfl, rfl⟩
  go_upto_region 3 with fail
  clear c0 t0 hp0 HW2
  generalize w2.alloc (.cells #[.int .i64 17, .int .i64 0, .int .i64 0, .string ⟨#[]⟩, .bool false, .int .i64 0, .int .i64 0, .bool false, .int .i64 0, .slice none 0 0, .int .i64 0, .int .i64 0, .string ⟨#[]⟩] 33) = w3 at hS3 ⊢
  generalize w2.heap.size = b at hS3 ⊢
  have H := Lib.hid hS3
  clear hS3
  obtain ⟨c0, c1, c2, c3, c4, c5, c6⟩ := H.out.pr.c7
  obtain ⟨f0, f1, f2, f3, f4, f5, f6, f7, f8, f9, f10, f11, f12⟩ := H.out.fr.c13
  have hfr := fun i => H.out.fr.free i
  have em : min (s.size : Int) 60 = ((min s.size 60 : Nat) : Int) := by omega
  have ex : s.extract 0 (min s.size 60) = strB (few s) := few_str s _ rfl
  go_wp2_with fail
  refine (hp1 _).mono ?_
  rintro e wx ⟨rfl, rfl⟩
  go_wp2_with fail
  refine (hp2 _).mono ?_
  rintro e wx ⟨rfl, rfl⟩
  go_upto_region 33 with fail
  clear c0 c1 c2 c3 c4 c5 c6 f0 f1 f2 f3 f4 f5 f6 f7 f8 f9 f10 f11 f12 hfr
  have h2 := H.out.store 1 (.int .i64 pa) (fc' := #[.int .i64 17, .int .i64 pa, .int .i64 0, .string ⟨#[]⟩, .bool false, .int .i64 0, .int .i64 0, .bool false, .int .i64 0, .slice none 0 0, .int .i64 0, .int .i64 0, .string ⟨#[]⟩]) rfl
  generalize w3.setCell ⟨b, 1, none⟩ (.int .i64 pa) = w4 at h2 ⊢
  replace H := Lib.hid h2
  clear h2
  obtain ⟨c0, c1, c2, c3, c4, c5, c6⟩ := H.out.pr.c7
  obtain ⟨f0, f1, f2, f3, f4, f5, f6, f7, f8, f9, f10, f11, f12⟩ := H.out.fr.c13
  have hfr := fun i => H.out.fr.free i
  go_upto_region 51 with fail
  clear c0 c1 c2 c3 c4 c5 c6 f0 f1 f2 f3 f4 f5 f6 f7 f8 f9 f10 f11 f12 hfr
  have h2 := H.out.store 5 (.int .i64 pb) (fc' := #[.int .i64 17, .int .i64 pa, .int .i64 0, .string ⟨#[]⟩, .bool false, .int .i64 pb, .int .i64 0, .bool false, .int .i64 0, .slice none 0 0, .int .i64 0, .int .i64 0, .string ⟨#[]⟩]) rfl
  generalize w4.setCell ⟨b, 5, none⟩ (.int .i64 pb) = w5 at h2 ⊢
  replace H := Lib.hid h2
  clear h2
  obtain ⟨c0, c1, c2, c3, c4, c5, c6⟩ := H.out.pr.c7
  obtain ⟨f0, f1, f2, f3, f4, f5, f6, f7, f8, f9, f10, f11, f12⟩ := H.out.fr.c13
  have hfr := fun i => H.out.fr.free i
  obtain ⟨z0, z1, z2, z3, z4, z5, z6, z7, z8, z9, z10, z11, z12⟩ := H.out.zr.c13
  have hfz := fun i => H.out.zr.free i
  obtain ⟨w9, hw9⟩ : ∃ x, ffH w5 (w.heap.size + 1) (.int .i64 17) (.int .i64 pa) (.int .i64 0) (.string ⟨#[]⟩) (.bool false) (.int .i64 pb) (.int .i64 0) (.bool false) (.int .i64 0) (.slice none 0 0) (.int .i64 0) (.int .i64 0) (.string ⟨#[]⟩) = x := ⟨_, rfl⟩
  have hh := H.out.hand
  rw [hw9] at hh
  have HH := Lib.hid hh
  simp only [ffH] at hw9
  have HW := Lib.hid hw9
  clear hh hw9
  go_wp2_with fail
  rw [HW.out]
  clear z0 z1 z2 z3 z4 z5 z6 z7 z8 z9 z10 z11 z12 hfz HW
  clear c0 c1 c2 c3 c4 c5 c6 f0 f1 f2 f3 f4 f5 f6 f7 f8 f9 f10 f11 f12 hfr
  obtain ⟨hA7, hO7⟩ := HH.out
  obtain ⟨y0, y1, y2, y3, y4, y5, y6, y7, y8, y9, y10, y11, y12⟩ := hA7.c13
  refine ⟨rfl, .agg #[.int .i64 17, .int .i64 pa, .int .i64 0, .string ⟨#[]⟩, .bool false, .int .i64 pb, .int .i64 0, .bool false, .int .i64 0, .slice none 0 0, .int .i64 0, .int .i64 0, .string ⟨#[]⟩], ?_, ?_⟩
  · simp [results, Try.f24, go_sem, y0, y1, y2, y3, y4, y5, y6, y7, y8, y9, y10, y11, y12]
  · have hPA := HPA.out
    have hPB := HPB.out
    subst hPA
    subst hPB
    exact FfQ.plain (genF 17 A B C (few s) fin [(0, 1)]) rfl rfl hO7 rfl
set_option maxRecDepth 100000 in
set_option maxHeartbeats 4000000 in
theorem ffp_10 (ty A B C : Int) (s : ByteArray) (fin : Bool) (sv : Value) (SL : List (Int × Int)) (w : World) (hS : RgAt w sv SL) (hi : FfIn ty A B C s) (hj : pkZ ty 21 = 10) : Calls Try.prog 24 #[.agg (fpC ty A B C s fin sv)] w (FfQ 18 A B C s fin w) := by
  unfold fpC
  have hp0 := fun ww => pk9 ty 21 ww hi.h1.1 hi.h1.2 (by omega)
  rw [hj] at hp0
  obtain ⟨sa, sc, rfl, hss⟩ := hS
  have HS : Hid (RgAt w (.slice sa SL.length sc) SL) := Lib.hid ⟨sa, sc, rfl, hss⟩
  clear hss
  obtain ⟨pa, hpa⟩ : ∃ pa, pkZ A 4611686018427387904 = pa := ⟨_, rfl⟩
  obtain ⟨pb, hpb⟩ : ∃ pb, pkZ B 4611686018427387904 = pb := ⟨_, rfl⟩
  have hp1 := fun ww => pk9 A 4611686018427387904 ww hi.h2.1 hi.h2.2 (by omega)
  have hp2 := fun ww => pk9 B 4611686018427387904 ww hi.h3.1 hi.h3.2 (by omega)
  have ba := pkZ_bd A 4611686018427387904 (by omega)
  have bb := pkZ_bd B 4611686018427387904 (by omega)
  rw [hpa] at hp1 ba
  rw [hpb] at hp2 bb
  have h5 := hi.h5
  have HPA := Lib.hid hpa
  have HPB := Lib.hid hpb
  clear hpa hpb hj
  obtain ⟨w2, hw2⟩ : ∃ x, ffW w #[.int .i64 ty, .int .i64 A, .int .i64 B, .int .i64 C, .string s, .bool fin, .slice sa SL.length sc] = x := ⟨_, rfl⟩
  have hf := ffW_facts w #[.int .i64 ty, .int .i64 A, .int .i64 B, .int .i64 C, .string s, .bool fin, .slice sa SL.length sc]
  have hS3 := FfS.start w w2 _ #[.int .i64 18, .int .i64 0, .int .i64 0, .string ⟨#[]⟩, .bool false, .int .i64 0, .int .i64 0, .bool false, .int .i64 0, .slice none 0 0, .int .i64 0, .int .i64 0, .string ⟨#[]⟩] hw2
  rw [hw2] at hf
  simp only [ffW, ffZ, ffT] at hw2
  have HW2 := Lib.hid hw2
  obtain ⟨hP, _, hT, _⟩ := hf
  have c0 := hP.cell 0 (v := .int .i64 ty) rfl
  have t0 := hT.cell 10 (v := .int .i64 18) rfl
  clear hw2 hP hT
  go_enter Try.func24, Try.ntmps24
  go_upto_region 2 with fail
  rw [HW2.out]
  go_wp2_with fail
  refine (hp0 _).mono ?_
  rintro e w3 ⟨rfl, rfl⟩
  go_upto_region 3 with fail
  clear c0 t0 hp0 HW2
  generalize w2.alloc (.cells #[.int .i64 18, .int .i64 0, .int .i64 0, .string ⟨#[]⟩, .bool false, .int .i64 0, .int .i64 0, .bool false, .int .i64 0, .slice none 0 0, .int .i64 0, .int .i64 0, .string ⟨#[]⟩] 33) = w3 at hS3 ⊢
  generalize w2.heap.size = b at hS3 ⊢
  have H := Lib.hid hS3
  clear hS3
  obtain ⟨c0, c1, c2, c3, c4, c5, c6⟩ := H.out.pr.c7
  obtain ⟨f0, f1, f2, f3, f4, f5, f6, f7, f8, f9, f10, f11, f12⟩ := H.out.fr.c13
  have hfr := fun i => H.out.fr.free i
  have em : min (s.size : Int) 60 = ((min s.size 60 : Nat) : Int) := by omega
  have ex : s.extract 0 (min s.size 60) = strB (few s) := few_str s _ rfl
  go_wp2_with fail
  refine (hp1 _).mono ?_
  rintro e wx ⟨rfl, rfl⟩
  go_wp2_with fail
  refine (hp2 _).mono ?_
  rintro e wx ⟨rfl, rfl⟩
  go_upto_region 37 with fail
  clear c0 c1 c2 c3 c4 c5 c6 f0 f1 f2 f3 f4 f5 f6 f7 f8 f9 f10 f11 f12 hfr
  have h2 := H.out.store 7 (.bool fin) (fc' := #[.int .i64 18, .int .i64 0, .int .i64 0, .string ⟨#[]⟩, .bool false, .int .i64 0, .int .i64 0, .bool fin, .int .i64 0, .slice none 0 0, .int .i64 0, .int .i64 0, .string ⟨#[]⟩]) rfl
  generalize w3.setCell ⟨b, 7, none⟩ (.bool fin) = w4 at h2 ⊢
  replace H := Lib.hid h2
  clear h2
  obtain ⟨c0, c1, c2, c3, c4, c5, c6⟩ := H.out.pr.c7
  obtain ⟨f0, f1, f2, f3, f4, f5, f6, f7, f8, f9, f10, f11, f12⟩ := H.out.fr.c13
  have hfr := fun i => H.out.fr.free i
  go_upto_region 51 with fail
  clear c0 c1 c2 c3 c4 c5 c6 f0 f1 f2 f3 f4 f5 f6 f7 f8 f9 f10 f11 f12 hfr
  have h2 := H.out.store 5 (.int .i64 pa) (fc' := #[.int .i64 18, .int .i64 0, .int .i64 0, .string ⟨#[]⟩, .bool false, .int .i64 pa, .int .i64 0, .bool fin, .int .i64 0, .slice none 0 0, .int .i64 0, .int .i64 0, .string ⟨#[]⟩]) rfl
  generalize w4.setCell ⟨b, 5, none⟩ (.int .i64 pa) = w5 at h2 ⊢
  replace H := Lib.hid h2
  clear h2
  obtain ⟨c0, c1, c2, c3, c4, c5, c6⟩ := H.out.pr.c7
  obtain ⟨f0, f1, f2, f3, f4, f5, f6, f7, f8, f9, f10, f11, f12⟩ := H.out.fr.c13
  have hfr := fun i => H.out.fr.free i
  obtain ⟨z0, z1, z2, z3, z4, z5, z6, z7, z8, z9, z10, z11, z12⟩ := H.out.zr.c13
  have hfz := fun i => H.out.zr.free i
  obtain ⟨w9, hw9⟩ : ∃ x, ffH w5 (w.heap.size + 1) (.int .i64 18) (.int .i64 0) (.int .i64 0) (.string ⟨#[]⟩) (.bool false) (.int .i64 pa) (.int .i64 0) (.bool fin) (.int .i64 0) (.slice none 0 0) (.int .i64 0) (.int .i64 0) (.string ⟨#[]⟩) = x := ⟨_, rfl⟩
  have hh := H.out.hand
  rw [hw9] at hh
  have HH := Lib.hid hh
  simp only [ffH] at hw9
  have HW := Lib.hid hw9
  clear hh hw9
  go_wp2_with fail
  rw [HW.out]
  clear z0 z1 z2 z3 z4 z5 z6 z7 z8 z9 z10 z11 z12 hfz HW
  clear c0 c1 c2 c3 c4 c5 c6 f0 f1 f2 f3 f4 f5 f6 f7 f8 f9 f10 f11 f12 hfr
  obtain ⟨hA7, hO7⟩ := HH.out
  obtain ⟨y0, y1, y2, y3, y4, y5, y6, y7, y8, y9, y10, y11, y12⟩ := hA7.c13
  refine ⟨rfl, .agg #[.int .i64 18, .int .i64 0, .int .i64 0, .string ⟨#[]⟩, .bool false, .int .i64 pa, .int .i64 0, .bool fin, .int .i64 0, .slice none 0 0, .int .i64 0, .int .i64 0, .string ⟨#[]⟩], ?_, ?_⟩
  · simp [results, Try.f24, go_sem, y0, y1, y2, y3, y4, y5, y6, y7, y8, y9, y10, y11, y12]
  · have hPA := HPA.out
    have hPB := HPB.out
    subst hPA
    subst hPB
    exact FfQ.plain (genF 18 A B C (few s) fin [(0, 1)]) rfl rfl hO7 rfl
set_option maxRecDepth 100000 in
set_option maxHeartbeats 4000000 in
theorem ffp_11 (ty A B C : Int) (s : ByteArray) (fin : Bool) (sv : Value) (SL : List (Int × Int)) (w : World) (hS : RgAt w sv SL) (hi : FfIn ty A B C s) (hj : pkZ ty 21 = 11) : Calls Try.prog 24 #[.agg (fpC ty A B C s fin sv)] w (FfQ 20 A B C s fin w) := by
  unfold fpC
  have hp0 := fun ww => pk9 ty 21 ww hi.h1.1 hi.h1.2 (by omega)
  rw [hj] at hp0
  obtain ⟨sa, sc, rfl, hss⟩ := hS
  have HS : Hid (RgAt w (.slice sa SL.length sc) SL) := Lib.hid ⟨sa, sc, rfl, hss⟩
  clear hss
  obtain ⟨pa, hpa⟩ : ∃ pa, pkZ A 4611686018427387904 = pa := ⟨_, rfl⟩
  obtain ⟨pb, hpb⟩ : ∃ pb, pkZ B 4611686018427387904 = pb := ⟨_, rfl⟩
  have hp1 := fun ww => pk9 A 4611686018427387904 ww hi.h2.1 hi.h2.2 (by omega)
  have hp2 := fun ww => pk9 B 4611686018427387904 ww hi.h3.1 hi.h3.2 (by omega)
  have ba := pkZ_bd A 4611686018427387904 (by omega)
  have bb := pkZ_bd B 4611686018427387904 (by omega)
  rw [hpa] at hp1 ba
  rw [hpb] at hp2 bb
  have h5 := hi.h5
  have HPA := Lib.hid hpa
  have HPB := Lib.hid hpb
  clear hpa hpb hj
  obtain ⟨w2, hw2⟩ : ∃ x, ffW w #[.int .i64 ty, .int .i64 A, .int .i64 B, .int .i64 C, .string s, .bool fin, .slice sa SL.length sc] = x := ⟨_, rfl⟩
  have hf := ffW_facts w #[.int .i64 ty, .int .i64 A, .int .i64 B, .int .i64 C, .string s, .bool fin, .slice sa SL.length sc]
  have hS3 := FfS.start w w2 _ #[.int .i64 20, .int .i64 0, .int .i64 0, .string ⟨#[]⟩, .bool false, .int .i64 0, .int .i64 0, .bool false, .int .i64 0, .slice none 0 0, .int .i64 0, .int .i64 0, .string ⟨#[]⟩] hw2
  rw [hw2] at hf
  simp only [ffW, ffZ, ffT] at hw2
  have HW2 := Lib.hid hw2
  obtain ⟨hP, _, hT, _⟩ := hf
  have c0 := hP.cell 0 (v := .int .i64 ty) rfl
  have t0 := hT.cell 11 (v := .int .i64 20) rfl
  clear hw2 hP hT
  go_enter Try.func24, Try.ntmps24
  go_upto_region 2 with fail
  rw [HW2.out]
  go_wp2_with fail
  refine (hp0 _).mono ?_
  rintro e w3 ⟨rfl, rfl⟩
  go_upto_region 3 with fail
  clear c0 t0 hp0 HW2
  generalize w2.alloc (.cells #[.int .i64 20, .int .i64 0, .int .i64 0, .string ⟨#[]⟩, .bool false, .int .i64 0, .int .i64 0, .bool false, .int .i64 0, .slice none 0 0, .int .i64 0, .int .i64 0, .string ⟨#[]⟩] 33) = w3 at hS3 ⊢
  generalize w2.heap.size = b at hS3 ⊢
  have H := Lib.hid hS3
  clear hS3
  obtain ⟨c0, c1, c2, c3, c4, c5, c6⟩ := H.out.pr.c7
  obtain ⟨f0, f1, f2, f3, f4, f5, f6, f7, f8, f9, f10, f11, f12⟩ := H.out.fr.c13
  have hfr := fun i => H.out.fr.free i
  have em : min (s.size : Int) 60 = ((min s.size 60 : Nat) : Int) := by omega
  have ex : s.extract 0 (min s.size 60) = strB (few s) := few_str s _ rfl
  go_wp2_with fail
  refine (hp1 _).mono ?_
  rintro e wx ⟨rfl, rfl⟩
  go_wp2_with fail
  refine (hp2 _).mono ?_
  rintro e wx ⟨rfl, rfl⟩
  go_upto_region 51 with fail
  clear c0 c1 c2 c3 c4 c5 c6 f0 f1 f2 f3 f4 f5 f6 f7 f8 f9 f10 f11 f12 hfr
  have h2 := H.out.store 5 (.int .i64 pa) (fc' := #[.int .i64 20, .int .i64 0, .int .i64 0, .string ⟨#[]⟩, .bool false, .int .i64 pa, .int .i64 0, .bool false, .int .i64 0, .slice none 0 0, .int .i64 0, .int .i64 0, .string ⟨#[]⟩]) rfl
  generalize w3.setCell ⟨b, 5, none⟩ (.int .i64 pa) = w4 at h2 ⊢
  replace H := Lib.hid h2
  clear h2
  obtain ⟨c0, c1, c2, c3, c4, c5, c6⟩ := H.out.pr.c7
  obtain ⟨f0, f1, f2, f3, f4, f5, f6, f7, f8, f9, f10, f11, f12⟩ := H.out.fr.c13
  have hfr := fun i => H.out.fr.free i
  obtain ⟨z0, z1, z2, z3, z4, z5, z6, z7, z8, z9, z10, z11, z12⟩ := H.out.zr.c13
  have hfz := fun i => H.out.zr.free i
  obtain ⟨w9, hw9⟩ : ∃ x, ffH w4 (w.heap.size + 1) (.int .i64 20) (.int .i64 0) (.int .i64 0) (.string ⟨#[]⟩) (.bool false) (.int .i64 pa) (.int .i64 0) (.bool false) (.int .i64 0) (.slice none 0 0) (.int .i64 0) (.int .i64 0) (.string ⟨#[]⟩) = x := ⟨_, rfl⟩
  have hh := H.out.hand
  rw [hw9] at hh
  have HH := Lib.hid hh
  simp only [ffH] at hw9
  have HW := Lib.hid hw9
  clear hh hw9
  go_wp2_with fail
  rw [HW.out]
  clear z0 z1 z2 z3 z4 z5 z6 z7 z8 z9 z10 z11 z12 hfz HW
  clear c0 c1 c2 c3 c4 c5 c6 f0 f1 f2 f3 f4 f5 f6 f7 f8 f9 f10 f11 f12 hfr
  obtain ⟨hA7, hO7⟩ := HH.out
  obtain ⟨y0, y1, y2, y3, y4, y5, y6, y7, y8, y9, y10, y11, y12⟩ := hA7.c13
  refine ⟨rfl, .agg #[.int .i64 20, .int .i64 0, .int .i64 0, .string ⟨#[]⟩, .bool false, .int .i64 pa, .int .i64 0, .bool false, .int .i64 0, .slice none 0 0, .int .i64 0, .int .i64 0, .string ⟨#[]⟩], ?_, ?_⟩
  · simp [results, Try.f24, go_sem, y0, y1, y2, y3, y4, y5, y6, y7, y8, y9, y10, y11, y12]
  · have hPA := HPA.out
    have hPB := HPB.out
    subst hPA
    subst hPB
    exact FfQ.plain (genF 20 A B C (few s) fin [(0, 1)]) rfl rfl hO7 rfl
set_option maxRecDepth 100000 in
set_option maxHeartbeats 4000000 in
theorem ffp_12 (ty A B C : Int) (s : ByteArray) (fin : Bool) (sv : Value) (SL : List (Int × Int)) (w : World) (hS : RgAt w sv SL) (hi : FfIn ty A B C s) (hj : pkZ ty 21 = 12) : Calls Try.prog 24 #[.agg (fpC ty A B C s fin sv)] w (FfQ 21 A B C s fin w) := by
  unfold fpC
  have hp0 := fun ww => pk9 ty 21 ww hi.h1.1 hi.h1.2 (by omega)
  rw [hj] at hp0
  obtain ⟨sa, sc, rfl, hss⟩ := hS
  have HS : Hid (RgAt w (.slice sa SL.length sc) SL) := Lib.hid ⟨sa, sc, rfl, hss⟩
  clear hss
  obtain ⟨pa, hpa⟩ : ∃ pa, pkZ A 4611686018427387904 = pa := ⟨_, rfl⟩
  obtain ⟨pb, hpb⟩ : ∃ pb, pkZ B 4611686018427387904 = pb := ⟨_, rfl⟩
  have hp1 := fun ww => pk9 A 4611686018427387904 ww hi.h2.1 hi.h2.2 (by omega)
  have hp2 := fun ww => pk9 B 4611686018427387904 ww hi.h3.1 hi.h3.2 (by omega)
  have ba := pkZ_bd A 4611686018427387904 (by omega)
  have bb := pkZ_bd B 4611686018427387904 (by omega)
  rw [hpa] at hp1 ba
  rw [hpb] at hp2 bb
  have h5 := hi.h5
  have HPA := Lib.hid hpa
  have HPB := Lib.hid hpb
  clear hpa hpb hj
  obtain ⟨w2, hw2⟩ : ∃ x, ffW w #[.int .i64 ty, .int .i64 A, .int .i64 B, .int .i64 C, .string s, .bool fin, .slice sa SL.length sc] = x := ⟨_, rfl⟩
  have hf := ffW_facts w #[.int .i64 ty, .int .i64 A, .int .i64 B, .int .i64 C, .string s, .bool fin, .slice sa SL.length sc]
  have hS3 := FfS.start w w2 _ #[.int .i64 21, .int .i64 0, .int .i64 0, .string ⟨#[]⟩, .bool false, .int .i64 0, .int .i64 0, .bool false, .int .i64 0, .slice none 0 0, .int .i64 0, .int .i64 0, .string ⟨#[]⟩] hw2
  rw [hw2] at hf
  simp only [ffW, ffZ, ffT] at hw2
  have HW2 := Lib.hid hw2
  obtain ⟨hP, _, hT, _⟩ := hf
  have c0 := hP.cell 0 (v := .int .i64 ty) rfl
  have t0 := hT.cell 12 (v := .int .i64 21) rfl
  clear hw2 hP hT
  go_enter Try.func24, Try.ntmps24
  go_upto_region 2 with fail
  rw [HW2.out]
  go_wp2_with fail
  refine (hp0 _).mono ?_
  rintro e w3 ⟨rfl, rfl⟩
  go_upto_region 3 with fail
  clear c0 t0 hp0 HW2
  generalize w2.alloc (.cells #[.int .i64 21, .int .i64 0, .int .i64 0, .string ⟨#[]⟩, .bool false, .int .i64 0, .int .i64 0, .bool false, .int .i64 0, .slice none 0 0, .int .i64 0, .int .i64 0, .string ⟨#[]⟩] 33) = w3 at hS3 ⊢
  generalize w2.heap.size = b at hS3 ⊢
  have H := Lib.hid hS3
  clear hS3
  obtain ⟨c0, c1, c2, c3, c4, c5, c6⟩ := H.out.pr.c7
  obtain ⟨f0, f1, f2, f3, f4, f5, f6, f7, f8, f9, f10, f11, f12⟩ := H.out.fr.c13
  have hfr := fun i => H.out.fr.free i
  have em : min (s.size : Int) 60 = ((min s.size 60 : Nat) : Int) := by omega
  have ex : s.extract 0 (min s.size 60) = strB (few s) := few_str s _ rfl
  go_wp2_with fail
  refine (hp1 _).mono ?_
  rintro e wx ⟨rfl, rfl⟩
  go_wp2_with fail
  refine (hp2 _).mono ?_
  rintro e wx ⟨rfl, rfl⟩
  go_upto_region 33 with fail
  clear c0 c1 c2 c3 c4 c5 c6 f0 f1 f2 f3 f4 f5 f6 f7 f8 f9 f10 f11 f12 hfr
  have h2 := H.out.store 1 (.int .i64 pa) (fc' := #[.int .i64 21, .int .i64 pa, .int .i64 0, .string ⟨#[]⟩, .bool false, .int .i64 0, .int .i64 0, .bool false, .int .i64 0, .slice none 0 0, .int .i64 0, .int .i64 0, .string ⟨#[]⟩]) rfl
  generalize w3.setCell ⟨b, 1, none⟩ (.int .i64 pa) = w4 at h2 ⊢
  replace H := Lib.hid h2
  clear h2
  obtain ⟨c0, c1, c2, c3, c4, c5, c6⟩ := H.out.pr.c7
  obtain ⟨f0, f1, f2, f3, f4, f5, f6, f7, f8, f9, f10, f11, f12⟩ := H.out.fr.c13
  have hfr := fun i => H.out.fr.free i
  go_upto_region 51 with fail
  clear c0 c1 c2 c3 c4 c5 c6 f0 f1 f2 f3 f4 f5 f6 f7 f8 f9 f10 f11 f12 hfr
  have h2 := H.out.store 5 (.int .i64 pb) (fc' := #[.int .i64 21, .int .i64 pa, .int .i64 0, .string ⟨#[]⟩, .bool false, .int .i64 pb, .int .i64 0, .bool false, .int .i64 0, .slice none 0 0, .int .i64 0, .int .i64 0, .string ⟨#[]⟩]) rfl
  generalize w4.setCell ⟨b, 5, none⟩ (.int .i64 pb) = w5 at h2 ⊢
  replace H := Lib.hid h2
  clear h2
  obtain ⟨c0, c1, c2, c3, c4, c5, c6⟩ := H.out.pr.c7
  obtain ⟨f0, f1, f2, f3, f4, f5, f6, f7, f8, f9, f10, f11, f12⟩ := H.out.fr.c13
  have hfr := fun i => H.out.fr.free i
  obtain ⟨z0, z1, z2, z3, z4, z5, z6, z7, z8, z9, z10, z11, z12⟩ := H.out.zr.c13
  have hfz := fun i => H.out.zr.free i
  obtain ⟨w9, hw9⟩ : ∃ x, ffH w5 (w.heap.size + 1) (.int .i64 21) (.int .i64 pa) (.int .i64 0) (.string ⟨#[]⟩) (.bool false) (.int .i64 pb) (.int .i64 0) (.bool false) (.int .i64 0) (.slice none 0 0) (.int .i64 0) (.int .i64 0) (.string ⟨#[]⟩) = x := ⟨_, rfl⟩
  have hh := H.out.hand
  rw [hw9] at hh
  have HH := Lib.hid hh
  simp only [ffH] at hw9
  have HW := Lib.hid hw9
  clear hh hw9
  go_wp2_with fail
  rw [HW.out]
  clear z0 z1 z2 z3 z4 z5 z6 z7 z8 z9 z10 z11 z12 hfz HW
  clear c0 c1 c2 c3 c4 c5 c6 f0 f1 f2 f3 f4 f5 f6 f7 f8 f9 f10 f11 f12 hfr
  obtain ⟨hA7, hO7⟩ := HH.out
  obtain ⟨y0, y1, y2, y3, y4, y5, y6, y7, y8, y9, y10, y11, y12⟩ := hA7.c13
  refine ⟨rfl, .agg #[.int .i64 21, .int .i64 pa, .int .i64 0, .string ⟨#[]⟩, .bool false, .int .i64 pb, .int .i64 0, .bool false, .int .i64 0, .slice none 0 0, .int .i64 0, .int .i64 0, .string ⟨#[]⟩], ?_, ?_⟩
  · simp [results, Try.f24, go_sem, y0, y1, y2, y3, y4, y5, y6, y7, y8, y9, y10, y11, y12]
  · have hPA := HPA.out
    have hPB := HPB.out
    subst hPA
    subst hPB
    exact FfQ.plain (genF 21 A B C (few s) fin [(0, 1)]) rfl rfl hO7 rfl
set_option maxRecDepth 100000 in
set_option maxHeartbeats 4000000 in
theorem ffp_13 (ty A B C : Int) (s : ByteArray) (fin : Bool) (sv : Value) (SL : List (Int × Int)) (w : World) (hS : RgAt w sv SL) (hi : FfIn ty A B C s) (hj : pkZ ty 21 = 13) : Calls Try.prog 24 #[.agg (fpC ty A B C s fin sv)] w (FfQ 22 A B C s fin w) := by
  unfold fpC
  have hp0 := fun ww => pk9 ty 21 ww hi.h1.1 hi.h1.2 (by omega)
  rw [hj] at hp0
  obtain ⟨sa, sc, rfl, hss⟩ := hS
  have HS : Hid (RgAt w (.slice sa SL.length sc) SL) := Lib.hid ⟨sa, sc, rfl, hss⟩
  clear hss
  obtain ⟨pa, hpa⟩ : ∃ pa, pkZ A 4611686018427387904 = pa := ⟨_, rfl⟩
  obtain ⟨pb, hpb⟩ : ∃ pb, pkZ B 4611686018427387904 = pb := ⟨_, rfl⟩
  have hp1 := fun ww => pk9 A 4611686018427387904 ww hi.h2.1 hi.h2.2 (by omega)
  have hp2 := fun ww => pk9 B 4611686018427387904 ww hi.h3.1 hi.h3.2 (by omega)
  have ba := pkZ_bd A 4611686018427387904 (by omega)
  have bb := pkZ_bd B 4611686018427387904 (by omega)
  rw [hpa] at hp1 ba
  rw [hpb] at hp2 bb
  have h5 := hi.h5
  have HPA := Lib.hid hpa
  have HPB := Lib.hid hpb
  clear hpa hpb hj
  obtain ⟨w2, hw2⟩ : ∃ x, ffW w #[.int .i64 ty, .int .i64 A, .int .i64 B, .int .i64 C, .string s, .bool fin, .slice sa SL.length sc] = x := ⟨_, rfl⟩
  have hf := ffW_facts w #[.int .i64 ty, .int .i64 A, .int .i64 B, .int .i64 C, .string s, .bool fin, .slice sa SL.length sc]
  have hS3 := FfS.start w w2 _ #[.int .i64 22, .int .i64 0, .int .i64 0, .string ⟨#[]⟩, .bool false, .int .i64 0, .int .i64 0, .bool false, .int .i64 0, .slice none 0 0, .int .i64 0, .int .i64 0, .string ⟨#[]⟩] hw2
  rw [hw2] at hf
  simp only [ffW, ffZ, ffT] at hw2
  have HW2 := Lib.hid hw2
  obtain ⟨hP, _, hT, _⟩ := hf
  have c0 := hP.cell 0 (v := .int .i64 ty) rfl
  have t0 := hT.cell 13 (v := .int .i64 22) rfl
  clear hw2 hP hT
  go_enter Try.func24, Try.ntmps24
  go_upto_region 2 with fail
  rw [HW2.out]
  go_wp2_with fail
  refine (hp0 _).mono ?_
  rintro e w3 ⟨rfl, rfl⟩
  go_upto_region 3 with fail
  clear c0 t0 hp0 HW2
  generalize w2.alloc (.cells #[.int .i64 22, .int .i64 0, .int .i64 0, .string ⟨#[]⟩, .bool false, .int .i64 0, .int .i64 0, .bool false, .int .i64 0, .slice none 0 0, .int .i64 0, .int .i64 0, .string ⟨#[]⟩] 33) = w3 at hS3 ⊢
  generalize w2.heap.size = b at hS3 ⊢
  have H := Lib.hid hS3
  clear hS3
  obtain ⟨c0, c1, c2, c3, c4, c5, c6⟩ := H.out.pr.c7
  obtain ⟨f0, f1, f2, f3, f4, f5, f6, f7, f8, f9, f10, f11, f12⟩ := H.out.fr.c13
  have hfr := fun i => H.out.fr.free i
  have em : min (s.size : Int) 60 = ((min s.size 60 : Nat) : Int) := by omega
  have ex : s.extract 0 (min s.size 60) = strB (few s) := few_str s _ rfl
  go_wp2_with fail
  refine (hp1 _).mono ?_
  rintro e wx ⟨rfl, rfl⟩
  go_wp2_with fail
  refine (hp2 _).mono ?_
  rintro e wx ⟨rfl, rfl⟩
  go_upto_region 37 with fail
  clear c0 c1 c2 c3 c4 c5 c6 f0 f1 f2 f3 f4 f5 f6 f7 f8 f9 f10 f11 f12 hfr
  have h2 := H.out.store 7 (.bool fin) (fc' := #[.int .i64 22, .int .i64 0, .int .i64 0, .string ⟨#[]⟩, .bool false, .int .i64 0, .int .i64 0, .bool fin, .int .i64 0, .slice none 0 0, .int .i64 0, .int .i64 0, .string ⟨#[]⟩]) rfl
  generalize w3.setCell ⟨b, 7, none⟩ (.bool fin) = w4 at h2 ⊢
  replace H := Lib.hid h2
  clear h2
  obtain ⟨c0, c1, c2, c3, c4, c5, c6⟩ := H.out.pr.c7
  obtain ⟨f0, f1, f2, f3, f4, f5, f6, f7, f8, f9, f10, f11, f12⟩ := H.out.fr.c13
  have hfr := fun i => H.out.fr.free i
  go_upto_region 51 with fail
  clear c0 c1 c2 c3 c4 c5 c6 f0 f1 f2 f3 f4 f5 f6 f7 f8 f9 f10 f11 f12 hfr
  have h2 := H.out.store 5 (.int .i64 pa) (fc' := #[.int .i64 22, .int .i64 0, .int .i64 0, .string ⟨#[]⟩, .bool false, .int .i64 pa, .int .i64 0, .bool fin, .int .i64 0, .slice none 0 0, .int .i64 0, .int .i64 0, .string ⟨#[]⟩]) rfl
  generalize w4.setCell ⟨b, 5, none⟩ (.int .i64 pa) = w5 at h2 ⊢
  replace H := Lib.hid h2
  clear h2
  obtain ⟨c0, c1, c2, c3, c4, c5, c6⟩ := H.out.pr.c7
  obtain ⟨f0, f1, f2, f3, f4, f5, f6, f7, f8, f9, f10, f11, f12⟩ := H.out.fr.c13
  have hfr := fun i => H.out.fr.free i
  obtain ⟨z0, z1, z2, z3, z4, z5, z6, z7, z8, z9, z10, z11, z12⟩ := H.out.zr.c13
  have hfz := fun i => H.out.zr.free i
  obtain ⟨w9, hw9⟩ : ∃ x, ffH w5 (w.heap.size + 1) (.int .i64 22) (.int .i64 0) (.int .i64 0) (.string ⟨#[]⟩) (.bool false) (.int .i64 pa) (.int .i64 0) (.bool fin) (.int .i64 0) (.slice none 0 0) (.int .i64 0) (.int .i64 0) (.string ⟨#[]⟩) = x := ⟨_, rfl⟩
  have hh := H.out.hand
  rw [hw9] at hh
  have HH := Lib.hid hh
  simp only [ffH] at hw9
  have HW := Lib.hid hw9
  clear hh hw9
  go_wp2_with fail
  rw [HW.out]
  clear z0 z1 z2 z3 z4 z5 z6 z7 z8 z9 z10 z11 z12 hfz HW
  clear c0 c1 c2 c3 c4 c5 c6 f0 f1 f2 f3 f4 f5 f6 f7 f8 f9 f10 f11 f12 hfr
  obtain ⟨hA7, hO7⟩ := HH.out
  obtain ⟨y0, y1, y2, y3, y4, y5, y6, y7, y8, y9, y10, y11, y12⟩ := hA7.c13
  refine ⟨rfl, .agg #[.int .i64 22, .int .i64 0, .int .i64 0, .string ⟨#[]⟩, .bool false, .int .i64 pa, .int .i64 0, .bool fin, .int .i64 0, .slice none 0 0, .int .i64 0, .int .i64 0, .string ⟨#[]⟩], ?_, ?_⟩
  · simp [results, Try.f24, go_sem, y0, y1, y2, y3, y4, y5, y6, y7, y8, y9, y10, y11, y12]
  · have hPA := HPA.out
    have hPB := HPB.out
    subst hPA
    subst hPB
    exact FfQ.plain (genF 22 A B C (few s) fin [(0, 1)]) rfl rfl hO7 rfl
end Go.Proofs.Ytmmgmpghkpbgkaa
