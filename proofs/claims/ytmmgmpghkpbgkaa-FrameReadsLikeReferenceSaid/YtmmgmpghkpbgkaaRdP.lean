/- Contracts of the law's helpers: FrameFrom, type by type. -/
import Derived.Test.YtmmgmpghkpbgkaaRdL
namespace Go.Proofs.Ytmmgmpghkpbgkaa
open Go Go.RowKit
set_option linter.unusedVariables false
set_option linter.unusedSimpArgs false

set_option maxRecDepth 100000 in
set_option maxHeartbeats 4000000 in
theorem ffp_0 (ty A B C : Int) (s : ByteArray) (fin : Bool) (sv : Value) (SL : List (Int × Int)) (w : World) (hS : RgAt w sv SL) (hi : FfIn ty A B C s) (hj : pkZ ty 21 = 0) : Calls Try.prog 24 #[.agg (fpC ty A B C s fin sv)] w (FfQ 0 A B C s fin w) := by
  unfold fpC
  have hp0 := fun ww => pk9 ty 21 ww hi.h1.1 hi.h1.2 (by omega)
  rw [hj] at hp0
  obtain ⟨sa, sc, rfl, hss⟩ := hS
  have HS : Hid (RgAt w (.slice sa SL.length sc) SL) := Lib.hid ⟨sa, sc, rfl, hss⟩
  clear hss
  obtain ⟨pa, hpa⟩ : ∃ pa, pkZ A 4611686018427387904 = pa := ⟨_, rfl⟩
  obtain ⟨pb, hpb⟩ : ∃ pb, pkZ B 4611686018427387904 = pb := ⟨_, rfl⟩
  have hp1 := fun ww => pk9 A 4611686018427387904 ww hi.h2.1 hi.h2.2 (by omega)
  have hp2 := fun ww => pk9 B 4611686018427387904 ww hi.h3.1 hi.h3.2 (by omega)
  have ba := pkZ_bd A 4611686018427387904 (by omega)
  have bb := pkZ_bd B 4611686018427387904 (by omega)
  rw [hpa] at hp1 ba
  rw [hpb] at hp2 bb
  have h5 := hi.h5
  have HPA := Lib.hid hpa
  have HPB := Lib.hid hpb
  clear hpa hpb hj
  obtain ⟨w2, hw2⟩ : ∃ x, ffW w #[.int .i64 ty, .int .i64 A, .int .i64 B, .int .i64 C, .string s, .bool fin, .slice sa SL.length sc] = x := ⟨_, rfl⟩
  have hf := ffW_facts w #[.int .i64 ty, .int .i64 A, .int .i64 B, .int .i64 C, .string s, .bool fin, .slice sa SL.length sc]
  have hS3 := FfS.start w w2 _ #[.int .i64 0, .int .i64 0, .int .i64 0, .string ⟨#[]⟩, .bool false, .int .i64 0, .int .i64 0, .bool false, .int .i64 0, .slice none 0 0, .int .i64 0, .int .i64 0, .string ⟨#[]⟩] hw2
  rw [hw2] at hf
  simp only [ffW, ffZ, ffT] at hw2
  have HW2 := Lib.hid hw2
  obtain ⟨hP, _, hT, _⟩ := hf
  have c0 := hP.cell 0 (v := .int .i64 ty) rfl
  have t0 := hT.cell 0 (v := .int .i64 0) rfl
  clear hw2 hP hT
  go_enter Try.func24, Try.ntmps24
  go_upto_region 2 with fail
  rw [HW2.out]
  go_wp2_with fail
  refine (hp0 _).mono ?_
  rintro e w3 ⟨rfl, rfl⟩
  go_upto_region 3 with fail
  clear c0 t0 hp0 HW2
  generalize w2.alloc (.cells #[.int .i64 0, .int .i64 0, .int .i64 0, .string ⟨#[]⟩, .bool false, .int .i64 0, .int .i64 0, .bool false, .int .i64 0, .slice none 0 0, .int .i64 0, .int .i64 0, .string ⟨#[]⟩] 33) = w3 at hS3 ⊢
  generalize w2.heap.size = b at hS3 ⊢
  have H := Lib.hid hS3
  clear hS3
  obtain ⟨c0, c1, c2, c3, c4, c5, c6⟩ := H.out.pr.c7
  obtain ⟨f0, f1, f2, f3, f4, f5, f6, f7, f8, f9, f10, f11, f12⟩ := H.out.fr.c13
  have hfr := fun i => H.out.fr.free i
  have em : min (s.size : Int) 60 = ((min s.size 60 : Nat) : Int) := by omega
  have ex : s.extract 0 (min s.size 60) = strB (few s) := few_str s _ rfl
  go_wp2_with fail
  refine (hp1 _).mono ?_
  rintro e wx ⟨rfl, rfl⟩
  go_wp2_with fail
  refine (hp2 _).mono ?_
  rintro e wx ⟨rfl, rfl⟩
  go_upto_region 51 with fail
  obtain ⟨z0, z1, z2, z3, z4, z5, z6, z7, z8, z9, z10, z11, z12⟩ := H.out.zr.c13
  have hfz := fun i => H.out.zr.free i
  obtain ⟨w9, hw9⟩ : ∃ x, ffH w3 (w.heap.size + 1) (.int .i64 0) (.int .i64 0) (.int .i64 0) (.string ⟨#[]⟩) (.bool false) (.int .i64 0) (.int .i64 0) (.bool false) (.int .i64 0) (.slice none 0 0) (.int .i64 0) (.int .i64 0) (.string ⟨#[]⟩) = x := ⟨_, rfl⟩
  have hh := H.out.hand
  rw [hw9] at hh
  have HH := Lib.hid hh
  simp only [ffH] at hw9
  have HW := Lib.hid hw9
  clear hh hw9
  go_wp2_with fail
  rw [HW.out]
  clear z0 z1 z2 z3 z4 z5 z6 z7 z8 z9 z10 z11 z12 hfz HW
  clear c0 c1 c2 c3 c4 c5 c6 f0 f1 f2 f3 f4 f5 f6 f7 f8 f9 f10 f11 f12 hfr
  obtain ⟨hA7, hO7⟩ := HH.out
  obtain ⟨y0, y1, y2, y3, y4, y5, y6, y7, y8, y9, y10, y11, y12⟩ := hA7.c13
  refine ⟨rfl, .agg #[.int .i64 0, .int .i64 0, .int .i64 0, .string ⟨#[]⟩, .bool false, .int .i64 0, .int .i64 0, .bool false, .int .i64 0, .slice none 0 0, .int .i64 0, .int .i64 0, .string ⟨#[]⟩], ?_, ?_⟩
  · simp [results, Try.f24, go_sem, y0, y1, y2, y3, y4, y5, y6, y7, y8, y9, y10, y11, y12]
  · have hPA := HPA.out
    have hPB := HPB.out
    subst hPA
    subst hPB
    exact FfQ.plain (genF 0 A B C (few s) fin [(0, 1)]) rfl rfl hO7 rfl
set_option maxRecDepth 100000 in
set_option maxHeartbeats 4000000 in
theorem ffp_1 (ty A B C : Int) (s : ByteArray) (fin : Bool) (sv : Value) (SL : List (Int × Int)) (w : World) (hS : RgAt w sv SL) (hi : FfIn ty A B C s) (hj : pkZ ty 21 = 1) : Calls Try.prog 24 #[.agg (fpC ty A B C s fin sv)] w (FfQ 1 A B C s fin w) := by
  unfold fpC
  have hp0 := fun ww => pk9 ty 21 ww hi.h1.1 hi.h1.2 (by omega)
  rw [hj] at hp0
  obtain ⟨sa, sc, rfl, hss⟩ := hS
  have HS : Hid (RgAt w (.slice sa SL.length sc) SL) := Lib.hid ⟨sa, sc, rfl, hss⟩
  clear hss
  obtain ⟨pa, hpa⟩ : ∃ pa, pkZ A 4611686018427387904 = pa := ⟨_, rfl⟩
  obtain ⟨pb, hpb⟩ : ∃ pb, pkZ B 4611686018427387904 = pb := ⟨_, rfl⟩
  have hp1 := fun ww => pk9 A 4611686018427387904 ww hi.h2.1 hi.h2.2 (by omega)
  have hp2 := fun ww => pk9 B 4611686018427387904 ww hi.h3.1 hi.h3.2 (by omega)
  have ba := pkZ_bd A 4611686018427387904 (by omega)
  have bb := pkZ_bd B 4611686018427387904 (by omega)
  rw [hpa] at hp1 ba
  rw [hpb] at hp2 bb
  have h5 := hi.h5
  have HPA := Lib.hid hpa
  have HPB := Lib.hid hpb
  clear hpa hpb hj
  obtain ⟨w2, hw2⟩ : ∃ x, ffW w #[.int .i64 ty, .int .i64 A, .int .i64 B, .int .i64 C, .string s, .bool fin, .slice sa SL.length sc] = x := ⟨_, rfl⟩
  have hf := ffW_facts w #[.int .i64 ty, .int .i64 A, .int .i64 B, .int .i64 C, .string s, .bool fin, .slice sa SL.length sc]
  have hS3 := FfS.start w w2 _ #[.int .i64 1, .int .i64 0, .int .i64 0, .string ⟨#[]⟩, .bool false, .int .i64 0, .int .i64 0, .bool false, .int .i64 0, .slice none 0 0, .int .i64 0, .int .i64 0, .string ⟨#[]⟩] hw2
  rw [hw2] at hf
  simp only [ffW, ffZ, ffT] at hw2
  have HW2 := Lib.hid hw2
  obtain ⟨hP, _, hT, _⟩ := hf
  have c0 := hP.cell 0 (v := .int .i64 ty) rfl
  have t0 := hT.cell 1 (v := .int .i64 1) rfl
  clear hw2 hP hT
  go_enter Try.func24, Try.ntmps24
  go_upto_region 2 with fail
  rw [HW2.out]
  go_wp2_with fail
  refine (hp0 _).mono ?_
  rintro e w3 ⟨rfl, rfl⟩
  go_upto_region 3 with fail
  clear c0 t0 hp0 HW2
  generalize w2.alloc (.cells #[.int .i64 1, .int .i64 0, .int .i64 0, .string ⟨#[]⟩, .bool false, .int .i64 0, .int .i64 0, .bool false, .int .i64 0, .slice none 0 0, .int .i64 0, .int .i64 0, .string ⟨#[]⟩] 33) = w3 at hS3 ⊢
  generalize w2.heap.size = b at hS3 ⊢
  have H := Lib.hid hS3
  clear hS3
  obtain ⟨c0, c1, c2, c3, c4, c5, c6⟩ := H.out.pr.c7
  obtain ⟨f0, f1, f2, f3, f4, f5, f6, f7, f8, f9, f10, f11, f12⟩ := H.out.fr.c13
  have hfr := fun i => H.out.fr.free i
  have em : min (s.size : Int) 60 = ((min s.size 60 : Nat) : Int) := by omega
  have ex : s.extract 0 (min s.size 60) = strB (few s) := few_str s _ rfl
  go_wp2_with fail
  refine (hp1 _).mono ?_
  rintro e wx ⟨rfl, rfl⟩
  go_wp2_with fail
  refine (hp2 _).mono ?_
  rintro e wx ⟨rfl, rfl⟩
  go_upto_region 51 with fail
  obtain ⟨z0, z1, z2, z3, z4, z5, z6, z7, z8, z9, z10, z11, z12⟩ := H.out.zr.c13
  have hfz := fun i => H.out.zr.free i
  obtain ⟨w9, hw9⟩ : ∃ x, ffH w3 (w.heap.size + 1) (.int .i64 1) (.int .i64 0) (.int .i64 0) (.string ⟨#[]⟩) (.bool false) (.int .i64 0) (.int .i64 0) (.bool false) (.int .i64 0) (.slice none 0 0) (.int .i64 0) (.int .i64 0) (.string ⟨#[]⟩) = x := ⟨_, rfl⟩
  have hh := H.out.hand
  rw [hw9] at hh
  have HH := Lib.hid hh
  simp only [ffH] at hw9
  have HW := Lib.hid hw9
  clear hh hw9
  go_wp2_with fail
  rw [HW.out]
  clear z0 z1 z2 z3 z4 z5 z6 z7 z8 z9 z10 z11 z12 hfz HW
  clear c0 c1 c2 c3 c4 c5 c6 f0 f1 f2 f3 f4 f5 f6 f7 f8 f9 f10 f11 f12 hfr
  obtain ⟨hA7, hO7⟩ := HH.out
  obtain ⟨y0, y1, y2, y3, y4, y5, y6, y7, y8, y9, y10, y11, y12⟩ := hA7.c13
  refine ⟨rfl, .agg #[.int .i64 1, .int .i64 0, .int .i64 0, .string ⟨#[]⟩, .bool false, .int .i64 0, .int .i64 0, .bool false, .int .i64 0, .slice none 0 0, .int .i64 0, .int .i64 0, .string ⟨#[]⟩], ?_, ?_⟩
  · simp [results, Try.f24, go_sem, y0, y1, y2, y3, y4, y5, y6, y7, y8, y9, y10, y11, y12]
  · have hPA := HPA.out
    have hPB := HPB.out
    subst hPA
    subst hPB
    exact FfQ.plain (genF 1 A B C (few s) fin [(0, 1)]) rfl rfl hO7 rfl
set_option maxRecDepth 100000 in
set_option maxHeartbeats 4000000 in
theorem ffp_2 (ty A B C : Int) (s : ByteArray) (fin : Bool) (sv : Value) (SL : List (Int × Int)) (w : World) (hS : RgAt w sv SL) (hi : FfIn ty A B C s) (hj : pkZ ty 21 = 2) : Calls Try.prog 24 #[.agg (fpC ty A B C s fin sv)] w (FfQ 2 A B C s fin w) := by
  unfold fpC
  have hp0 := fun ww => pk9 ty 21 ww hi.h1.1 hi.h1.2 (by omega)
  rw [hj] at hp0
  obtain ⟨sa, sc, rfl, hss⟩ := hS
  have HS : Hid (RgAt w (.slice sa SL.length sc) SL) := Lib.hid ⟨sa, sc, rfl, hss⟩
  clear hss
  obtain ⟨pa, hpa⟩ : ∃ pa, pkZ A 4611686018427387904 = pa := ⟨_, rfl⟩
  obtain ⟨pb, hpb⟩ : ∃ pb, pkZ B 4611686018427387904 = pb := ⟨_, rfl⟩
  have hp1 := fun ww => pk9 A 4611686018427387904 ww hi.h2.1 hi.h2.2 (by omega)
  have hp2 := fun ww => pk9 B 4611686018427387904 ww hi.h3.1 hi.h3.2 (by omega)
  have ba := pkZ_bd A 4611686018427387904 (by omega)
  have bb := pkZ_bd B 4611686018427387904 (by omega)
  rw [hpa] at hp1 ba
  rw [hpb] at hp2 bb
  have h5 := hi.h5
  have HPA := Lib.hid hpa
  have HPB := Lib.hid hpb
  clear hpa hpb hj
  obtain ⟨w2, hw2⟩ : ∃ x, ffW w #[.int .i64 ty, .int .i64 A, .int .i64 B, .int .i64 C, .string s, .bool fin, .slice sa SL.length sc] = x := ⟨_, rfl⟩
  have hf := ffW_facts w #[.int .i64 ty, .int .i64 A, .int .i64 B, .int .i64 C, .string s, .bool fin, .slice sa SL.length sc]
  have hS3 := FfS.start w w2 _ #[.int .i64 2, .int .i64 0, .int .i64 0, .string ⟨#[]⟩, .bool false, .int .i64 0, .int .i64 0, .bool false, .int .i64 0, .slice none 0 0, .int .i64 0, .int .i64 0, .string ⟨#[]⟩] hw2
  rw [hw2] at hf
  simp only [ffW, ffZ, ffT] at hw2
  have HW2 := Lib.hid hw2
  obtain ⟨hP, _, hT, _⟩ := hf
  have c0 := hP.cell 0 (v := .int .i64 ty) rfl
  have t0 := hT.cell 2 (v := .int .i64 2) rfl
  clear hw2 hP hT
  go_enter Try.func24, Try.ntmps24
  go_upto_region 2 with fail
  rw [HW2.out]
  go_wp2_with fail
  refine (hp0 _).mono ?_
  rintro e w3 ⟨rfl, rfl⟩
  go_upto_region 3 with fail
  clear c0 t0 hp0 HW2
  generalize w2.alloc (.cells #[.int .i64 2, .int .i64 0, .int .i64 0, .string ⟨#[]⟩, .bool false, .int .i64 0, .int .i64 0, .bool false, .int .i64 0, .slice none 0 0, .int .i64 0, .int .i64 0, .string ⟨#[]⟩] 33) = w3 at hS3 ⊢
  generalize w2.heap.size = b at hS3 ⊢
  have H := Lib.hid hS3
  clear hS3
  obtain ⟨c0, c1, c2, c3, c4, c5, c6⟩ := H.out.pr.c7
  obtain ⟨f0, f1, f2, f3, f4, f5, f6, f7, f8, f9, f10, f11, f12⟩ := H.out.fr.c13
  have hfr := fun i => H.out.fr.free i
  have em : min (s.size : Int) 60 = ((min s.size 60 : Nat) : Int) := by omega
  have ex : s.extract 0 (min s.size 60) = strB (few s) := few_str s _ rfl
  go_wp2_with fail
  refine (hp1 _).mono ?_
  rintro e wx ⟨rfl, rfl⟩
  go_wp2_with fail
  refine (hp2 _).mono ?_
  rintro e wx ⟨rfl, rfl⟩
  go_upto_region 9 with fail
  clear c0 c1 c2 c3 c4 c5 c6 f0 f1 f2 f3 f4 f5 f6 f7 f8 f9 f10 f11 f12 hfr
  have h2 := H.out.store 8 (.int .i64 pa) (fc' := #[.int .i64 2, .int .i64 0, .int .i64 0, .string ⟨#[]⟩, .bool false, .int .i64 0, .int .i64 0, .bool false, .int .i64 pa, .slice none 0 0, .int .i64 0, .int .i64 0, .string ⟨#[]⟩]) rfl
  generalize w3.setCell ⟨b, 8, none⟩ (.int .i64 pa) = w4 at h2 ⊢
  replace H := Lib.hid h2
  clear h2
  obtain ⟨c0, c1, c2, c3, c4, c5, c6⟩ := H.out.pr.c7
  obtain ⟨f0, f1, f2, f3, f4, f5, f6, f7, f8, f9, f10, f11, f12⟩ := H.out.fr.c13
  have hfr := fun i => H.out.fr.free i
  go_wp2_with fail
  refine (rangesFrom_c _ SL B _ (HS.out.keep H.out.ho) hi.h3.1 hi.h3.2).mono ?_
  rintro e wr ⟨rv, R, rfl, hG, hne, hlen, hok, ho⟩
  clear c0 c1 c2 c3 c4 c5 c6 f0 f1 f2 f3 f4 f5 f6 f7 f8 f9 f10 f11 f12 hfr
  obtain ⟨B0, hB0⟩ : ∃ x, w4.heap.size = x := ⟨_, rfl⟩
  have hbl : b < B0 ∧ w.heap.size + 1 < B0 ∧ w.heap.size ≤ B0 := ⟨hB0 ▸ H.out.fr.lt, hB0 ▸ H.out.zr.lt, hB0 ▸ H.out.ho.size⟩
  replace H := Lib.hid (H.out.call ho)
  obtain ⟨ra, rc, rfl⟩ := hG.shape
  rw [hB0] at hG
  have HG := Lib.hid hG
  have HR := Lib.hid (And.intro hne (And.intro hlen hok))
  clear hG hne hlen hok ho
  obtain ⟨c0, c1, c2, c3, c4, c5, c6⟩ := H.out.pr.c7
  obtain ⟨f0, f1, f2, f3, f4, f5, f6, f7, f8, f9, f10, f11, f12⟩ := H.out.fr.c13
  have hfr := fun i => H.out.fr.free i
  go_upto_region 51 with fail
  clear c0 c1 c2 c3 c4 c5 c6 f0 f1 f2 f3 f4 f5 f6 f7 f8 f9 f10 f11 f12 hfr
  have h2 := H.out.store 9 (.slice ra R.length rc) (fc' := #[.int .i64 2, .int .i64 0, .int .i64 0, .string ⟨#[]⟩, .bool false, .int .i64 0, .int .i64 0, .bool false, .int .i64 pa, .slice ra R.length rc, .int .i64 0, .int .i64 0, .string ⟨#[]⟩]) rfl
  replace HG := Lib.hid (HG.out.keep (S := [b]) (show Only [b] wr (wr.setCell ⟨b, 9, none⟩ (.slice ra R.length rc)) from (Only.refl [b] wr).put (by simp) _) (by simp; omega))
  generalize wr.setCell ⟨b, 9, none⟩ (.slice ra R.length rc) = w5 at h2 HG ⊢
  replace H := Lib.hid h2
  clear h2
  obtain ⟨c0, c1, c2, c3, c4, c5, c6⟩ := H.out.pr.c7
  obtain ⟨f0, f1, f2, f3, f4, f5, f6, f7, f8, f9, f10, f11, f12⟩ := H.out.fr.c13
  have hfr := fun i => H.out.fr.free i
  obtain ⟨z0, z1, z2, z3, z4, z5, z6, z7, z8, z9, z10, z11, z12⟩ := H.out.zr.c13
  have hfz := fun i => H.out.zr.free i
  obtain ⟨w9, hw9⟩ : ∃ x, ffH w5 (w.heap.size + 1) (.int .i64 2) (.int .i64 0) (.int .i64 0) (.string ⟨#[]⟩) (.bool false) (.int .i64 0) (.int .i64 0) (.bool false) (.int .i64 pa) (.slice ra R.length rc) (.int .i64 0) (.int .i64 0) (.string ⟨#[]⟩) = x := ⟨_, rfl⟩
  have hh := H.out.hand
  rw [hw9] at hh
  have HH := Lib.hid hh
  have hG9 := HG.out.keep (S := [w.heap.size + 1]) (ffH_only (wr := w5) (z := w.heap.size + 1) (a0 := .int .i64 2) (a1 := .int .i64 0) (a2 := .int .i64 0) (a3 := .string ⟨#[]⟩) (a4 := .bool false) (a5 := .int .i64 0) (a6 := .int .i64 0) (a7 := .bool false) (a8 := .int .i64 pa) (a9 := .slice ra R.length rc) (a10 := .int .i64 0) (a11 := .int .i64 0) (a12 := .string ⟨#[]⟩) (by simp)) (by simp; omega)
  rw [hw9] at hG9
  have HG9 := Lib.hid hG9
  clear hG9
  simp only [ffH] at hw9
  have HW := Lib.hid hw9
  clear hh hw9
  go_wp2_with fail
  rw [HW.out]
  clear z0 z1 z2 z3 z4 z5 z6 z7 z8 z9 z10 z11 z12 hfz HW
  clear c0 c1 c2 c3 c4 c5 c6 f0 f1 f2 f3 f4 f5 f6 f7 f8 f9 f10 f11 f12 hfr
  obtain ⟨hA7, hO7⟩ := HH.out
  obtain ⟨y0, y1, y2, y3, y4, y5, y6, y7, y8, y9, y10, y11, y12⟩ := hA7.c13
  refine ⟨rfl, .agg #[.int .i64 2, .int .i64 0, .int .i64 0, .string ⟨#[]⟩, .bool false, .int .i64 0, .int .i64 0, .bool false, .int .i64 pa, .slice ra R.length rc, .int .i64 0, .int .i64 0, .string ⟨#[]⟩], ?_, ?_⟩
  · simp [results, Try.f24, go_sem, y0, y1, y2, y3, y4, y5, y6, y7, y8, y9, y10, y11, y12]
  · have hPA := HPA.out
    have hPB := HPB.out
    subst hPA
    subst hPB
    refine ⟨.slice ra R.length rc, R, rfl, ?_, HG9.out.new.low hbl.2.2, HR.out, hO7⟩
    refine HG9.out.at (fun p hp => ?_)
    have := RgOk.inR HR.out.2.2 p hp
    exact ⟨⟨this.1, this.2.1⟩, this.2.2.1, this.2.2.2⟩
set_option maxRecDepth 100000 in
set_option maxHeartbeats 4000000 in
theorem ffp_3 (ty A B C : Int) (s : ByteArray) (fin : Bool) (sv : Value) (SL : List (Int × Int)) (w : World) (hS : RgAt w sv SL) (hi : FfIn ty A B C s) (hj : pkZ ty 21 = 3) : Calls Try.prog 24 #[.agg (fpC ty A B C s fin sv)] w (FfQ 4 A B C s fin w) := by
  unfold fpC
  have hp0 := fun ww => pk9 ty 21 ww hi.h1.1 hi.h1.2 (by omega)
  rw [hj] at hp0
  obtain ⟨sa, sc, rfl, hss⟩ := hS
  have HS : Hid (RgAt w (.slice sa SL.length sc) SL) := Lib.hid ⟨sa, sc, rfl, hss⟩
  clear hss
  obtain ⟨pa, hpa⟩ : ∃ pa, pkZ A 4611686018427387904 = pa := ⟨_, rfl⟩
  obtain ⟨pb, hpb⟩ : ∃ pb, pkZ B 4611686018427387904 = pb := ⟨_, rfl⟩
  have hp1 := fun ww => pk9 A 4611686018427387904 ww hi.h2.1 hi.h2.2 (by omega)
  have hp2 := fun ww => pk9 B 4611686018427387904 ww hi.h3.1 hi.h3.2 (by omega)
  have ba := pkZ_bd A 4611686018427387904 (by omega)
  have bb := pkZ_bd B 4611686018427387904 (by omega)
  rw [hpa] at hp1 ba
  rw [hpb] at hp2 bb
  have h5 := hi.h5
  obtain ⟨x1, hx1⟩ : ∃ x, pkZ B 1073741824 = x := ⟨_, rfl⟩
  have hp3 := fun ww => pk9 B 1073741824 ww hi.h3.1 hi.h3.2 (by omega)
  rw [hx1] at hp3
  have HX1 := Lib.hid hx1
  clear hx1
  obtain ⟨x2, hx2⟩ : ∃ x, pkZ C 1099511627777 = x := ⟨_, rfl⟩
  have hp4 := fun ww => pk9 C 1099511627777 ww hi.h4.1 hi.h4.2 (by omega)
  rw [hx2] at hp4
  have HX2 := Lib.hid hx2
  clear hx2
  have HPA := Lib.hid hpa
  have HPB := Lib.hid hpb
  clear hpa hpb hj
  obtain ⟨w2, hw2⟩ : ∃ x, ffW w #[.int .i64 ty, .int .i64 A, .int .i64 B, .int .i64 C, .string s, .bool fin, .slice sa SL.length sc] = x := ⟨_, rfl⟩
  have hf := ffW_facts w #[.int .i64 ty, .int .i64 A, .int .i64 B, .int .i64 C, .string s, .bool fin, .slice sa SL.length sc]
  have hS3 := FfS.start w w2 _ #[.int .i64 4, .int .i64 0, .int .i64 0, .string ⟨#[]⟩, .bool false, .int .i64 0, .int .i64 0, .bool false, .int .i64 0, .slice none 0 0, .int .i64 0, .int .i64 0, .string ⟨#[]⟩] hw2
  rw [hw2] at hf
  simp only [ffW, ffZ, ffT] at hw2
  have HW2 := Lib.hid hw2
  obtain ⟨hP, _, hT, _⟩ := hf
  have c0 := hP.cell 0 (v := .int .i64 ty) rfl
  have t0 := hT.cell 3 (v := .int .i64 4) rfl
  clear hw2 hP hT
  go_enter Try.func24, Try.ntmps24
  go_upto_region 2 with fail
  rw [HW2.out]
  go_wp2_with fail
  refine (hp0 _).mono ?_
  rintro e w3 ⟨rfl, rfl⟩
  go_upto_region 3 with fail
  clear c0 t0 hp0 HW2
  generalize w2.alloc (.cells #[.int .i64 4, .int .i64 0, .int .i64 0, .string ⟨#[]⟩, .bool false, .int .i64 0, .int .i64 0, .bool false, .int .i64 0, .slice none 0 0, .int .i64 0, .int .i64 0, .string ⟨#[]⟩] 33) = w3 at hS3 ⊢
  generalize w2.heap.size = b at hS3 ⊢
  have H := Lib.hid hS3
  clear hS3
  obtain ⟨c0, c1, c2, c3, c4, c5, c6⟩ := H.out.pr.c7
  obtain ⟨f0, f1, f2, f3, f4, f5, f6, f7, f8, f9, f10, f11, f12⟩ := H.out.fr.c13
  have hfr := fun i => H.out.fr.free i
  have em : min (s.size : Int) 60 = ((min s.size 60 : Nat) : Int) := by omega
  have ex : s.extract 0 (min s.size 60) = strB (few s) := few_str s _ rfl
  go_wp2_with fail
  refine (hp1 _).mono ?_
  rintro e wx ⟨rfl, rfl⟩
  go_wp2_with fail
  refine (hp2 _).mono ?_
  rintro e wx ⟨rfl, rfl⟩
  go_upto_region 12 with fail
  clear c0 c1 c2 c3 c4 c5 c6 f0 f1 f2 f3 f4 f5 f6 f7 f8 f9 f10 f11 f12 hfr
  have h2 := H.out.store 1 (.int .i64 pa) (fc' := #[.int .i64 4, .int .i64 pa, .int .i64 0, .string ⟨#[]⟩, .bool false, .int .i64 0, .int .i64 0, .bool false, .int .i64 0, .slice none 0 0, .int .i64 0, .int .i64 0, .string ⟨#[]⟩]) rfl
  generalize w3.setCell ⟨b, 1, none⟩ (.int .i64 pa) = w4 at h2 ⊢
  replace H := Lib.hid h2
  clear h2
  obtain ⟨c0, c1, c2, c3, c4, c5, c6⟩ := H.out.pr.c7
  obtain ⟨f0, f1, f2, f3, f4, f5, f6, f7, f8, f9, f10, f11, f12⟩ := H.out.fr.c13
  have hfr := fun i => H.out.fr.free i
  go_wp2_with fail
  refine (hp3 _).mono ?_
  rintro e wx ⟨rfl, rfl⟩
  go_upto_region 13 with fail
  clear c0 c1 c2 c3 c4 c5 c6 f0 f1 f2 f3 f4 f5 f6 f7 f8 f9 f10 f11 f12 hfr
  have h2 := H.out.store 6 (.int .i64 x1) (fc' := #[.int .i64 4, .int .i64 pa, .int .i64 0, .string ⟨#[]⟩, .bool false, .int .i64 0, .int .i64 x1, .bool false, .int .i64 0, .slice none 0 0, .int .i64 0, .int .i64 0, .string ⟨#[]⟩]) rfl
  generalize w4.setCell ⟨b, 6, none⟩ (.int .i64 x1) = w5 at h2 ⊢
  replace H := Lib.hid h2
  clear h2
  obtain ⟨c0, c1, c2, c3, c4, c5, c6⟩ := H.out.pr.c7
  obtain ⟨f0, f1, f2, f3, f4, f5, f6, f7, f8, f9, f10, f11, f12⟩ := H.out.fr.c13
  have hfr := fun i => H.out.fr.free i
  go_wp2_with fail
  refine (hp4 _).mono ?_
  rintro e wx ⟨rfl, rfl⟩
  go_upto_region 51 with fail
  clear c0 c1 c2 c3 c4 c5 c6 f0 f1 f2 f3 f4 f5 f6 f7 f8 f9 f10 f11 f12 hfr
  have h2 := H.out.store 5 (.int .i64 x2) (fc' := #[.int .i64 4, .int .i64 pa, .int .i64 0, .string ⟨#[]⟩, .bool false, .int .i64 x2, .int .i64 x1, .bool false, .int .i64 0, .slice none 0 0, .int .i64 0, .int .i64 0, .string ⟨#[]⟩]) rfl
  generalize w5.setCell ⟨b, 5, none⟩ (.int .i64 x2) = w6 at h2 ⊢
  replace H := Lib.hid h2
  clear h2
  obtain ⟨c0, c1, c2, c3, c4, c5, c6⟩ := H.out.pr.c7
  obtain ⟨f0, f1, f2, f3, f4, f5, f6, f7, f8, f9, f10, f11, f12⟩ := H.out.fr.c13
  have hfr := fun i => H.out.fr.free i
  obtain ⟨z0, z1, z2, z3, z4, z5, z6, z7, z8, z9, z10, z11, z12⟩ := H.out.zr.c13
  have hfz := fun i => H.out.zr.free i
  obtain ⟨w9, hw9⟩ : ∃ x, ffH w6 (w.heap.size + 1) (.int .i64 4) (.int .i64 pa) (.int .i64 0) (.string ⟨#[]⟩) (.bool false) (.int .i64 x2) (.int .i64 x1) (.bool false) (.int .i64 0) (.slice none 0 0) (.int .i64 0) (.int .i64 0) (.string ⟨#[]⟩) = x := ⟨_, rfl⟩
  have hh := H.out.hand
  rw [hw9] at hh
  have HH := Lib.hid hh
  simp only [ffH] at hw9
  have HW := Lib.hid hw9
  clear hh hw9
  go_wp2_with fail
  rw [HW.out]
  clear z0 z1 z2 z3 z4 z5 z6 z7 z8 z9 z10 z11 z12 hfz HW
  clear c0 c1 c2 c3 c4 c5 c6 f0 f1 f2 f3 f4 f5 f6 f7 f8 f9 f10 f11 f12 hfr
  obtain ⟨hA7, hO7⟩ := HH.out
  obtain ⟨y0, y1, y2, y3, y4, y5, y6, y7, y8, y9, y10, y11, y12⟩ := hA7.c13
  refine ⟨rfl, .agg #[.int .i64 4, .int .i64 pa, .int .i64 0, .string ⟨#[]⟩, .bool false, .int .i64 x2, .int .i64 x1, .bool false, .int .i64 0, .slice none 0 0, .int .i64 0, .int .i64 0, .string ⟨#[]⟩], ?_, ?_⟩
  · simp [results, Try.f24, go_sem, y0, y1, y2, y3, y4, y5, y6, y7, y8, y9, y10, y11, y12]
  · have hPA := HPA.out
    have hPB := HPB.out
    have hX1 := HX1.out
    have hX2 := HX2.out
    subst hPA
    subst hPB
    subst hX1
    subst hX2
    exact FfQ.plain (genF 4 A B C (few s) fin [(0, 1)]) rfl rfl hO7 rfl
set_option maxRecDepth 100000 in
set_option maxHeartbeats 4000000 in
theorem ffp_4 (ty A B C : Int) (s : ByteArray) (fin : Bool) (sv : Value) (SL : List (Int × Int)) (w : World) (hS : RgAt w sv SL) (hi : FfIn ty A B C s) (hj : pkZ ty 21 = 4) : Calls Try.prog 24 #[.agg (fpC ty A B C s fin sv)] w (FfQ 5 A B C s fin w) := by
  unfold fpC
  have hp0 := fun ww => pk9 ty 21 ww hi.h1.1 hi.h1.2 (by omega)
  rw [hj] at hp0
  obtain ⟨sa, sc, rfl, hss⟩ := hS
  have HS : Hid (RgAt w (.slice sa SL.length sc) SL) := Lib.hid ⟨sa, sc, rfl, hss⟩
  clear hss
  obtain ⟨pa, hpa⟩ : ∃ pa, pkZ A 4611686018427387904 = pa := ⟨_, rfl⟩
  obtain ⟨pb, hpb⟩ : ∃ pb, pkZ B 4611686018427387904 = pb := ⟨_, rfl⟩
  have hp1 := fun ww => pk9 A 4611686018427387904 ww hi.h2.1 hi.h2.2 (by omega)
  have hp2 := fun ww => pk9 B 4611686018427387904 ww hi.h3.1 hi.h3.2 (by omega)
  have ba := pkZ_bd A 4611686018427387904 (by omega)
  have bb := pkZ_bd B 4611686018427387904 (by omega)
  rw [hpa] at hp1 ba
  rw [hpb] at hp2 bb
  have h5 := hi.h5
  obtain ⟨x1, hx1⟩ : ∃ x, pkZ B 1073741824 = x := ⟨_, rfl⟩
  have hp3 := fun ww => pk9 B 1073741824 ww hi.h3.1 hi.h3.2 (by omega)
  rw [hx1] at hp3
  have HX1 := Lib.hid hx1
  clear hx1
  have HPA := Lib.hid hpa
  have HPB := Lib.hid hpb
  clear hpa hpb hj
  obtain ⟨w2, hw2⟩ : ∃ x, ffW w #[.int .i64 ty, .int .i64 A, .int .i64 B, .int .i64 C, .string s, .bool fin, .slice sa SL.length sc] = x := ⟨_, rfl⟩
  have hf := ffW_facts w #[.int .i64 ty, .int .i64 A, .int .i64 B, .int .i64 C, .string s, .bool fin, .slice sa SL.length sc]
  have hS3 := FfS.start w w2 _ #[.int .i64 5, .int .i64 0, .int .i64 0, .string ⟨#[]⟩, .bool false, .int .i64 0, .int .i64 0, .bool false, .int .i64 0, .slice none 0 0, .int .i64 0, .int .i64 0, .string ⟨#[]⟩] hw2
  rw [hw2] at hf
  simp only [ffW, ffZ, ffT] at hw2
  have HW2 := Lib.hid hw2
  obtain ⟨hP, _, hT, _⟩ := hf
  have c0 := hP.cell 0 (v := .int .i64 ty) rfl
  have t0 := hT.cell 4 (v := .int .i64 5) rfl
  clear hw2 hP hT
  go_enter Try.func24, Try.ntmps24
  go_upto_region 2 with fail
  rw [HW2.out]
  go_wp2_with fail
  refine (hp0 _).mono ?_
  rintro e w3 ⟨rfl, rfl⟩
  go_upto_region 3 with fail
  clear c0 t0 hp0 HW2
  generalize w2.alloc (.cells #[.int .i64 5, .int .i64 0, .int .i64 0, .string ⟨#[]⟩, .bool false, .int .i64 0, .int .i64 0, .bool false, .int .i64 0, .slice none 0 0, .int .i64 0, .int .i64 0, .string ⟨#[]⟩] 33) = w3 at hS3 ⊢
  generalize w2.heap.size = b at hS3 ⊢
  have H := Lib.hid hS3
  clear hS3
  obtain ⟨c0, c1, c2, c3, c4, c5, c6⟩ := H.out.pr.c7
  obtain ⟨f0, f1, f2, f3, f4, f5, f6, f7, f8, f9, f10, f11, f12⟩ := H.out.fr.c13
  have hfr := fun i => H.out.fr.free i
  have em : min (s.size : Int) 60 = ((min s.size 60 : Nat) : Int) := by omega
  have ex : s.extract 0 (min s.size 60) = strB (few s) := few_str s _ rfl
  go_wp2_with fail
  refine (hp1 _).mono ?_
  rintro e wx ⟨rfl, rfl⟩
  go_wp2_with fail
  refine (hp2 _).mono ?_
  rintro e wx ⟨rfl, rfl⟩
  go_upto_region 16 with fail
  clear c0 c1 c2 c3 c4 c5 c6 f0 f1 f2 f3 f4 f5 f6 f7 f8 f9 f10 f11 f12 hfr
  have h2 := H.out.store 1 (.int .i64 pa) (fc' := #[.int .i64 5, .int .i64 pa, .int .i64 0, .string ⟨#[]⟩, .bool false, .int .i64 0, .int .i64 0, .bool false, .int .i64 0, .slice none 0 0, .int .i64 0, .int .i64 0, .string ⟨#[]⟩]) rfl
  generalize w3.setCell ⟨b, 1, none⟩ (.int .i64 pa) = w4 at h2 ⊢
  replace H := Lib.hid h2
  clear h2
  obtain ⟨c0, c1, c2, c3, c4, c5, c6⟩ := H.out.pr.c7
  obtain ⟨f0, f1, f2, f3, f4, f5, f6, f7, f8, f9, f10, f11, f12⟩ := H.out.fr.c13
  have hfr := fun i => H.out.fr.free i
  go_wp2_with fail
  refine (hp3 _).mono ?_
  rintro e wx ⟨rfl, rfl⟩
  go_upto_region 51 with fail
  clear c0 c1 c2 c3 c4 c5 c6 f0 f1 f2 f3 f4 f5 f6 f7 f8 f9 f10 f11 f12 hfr
  have h2 := H.out.store 6 (.int .i64 x1) (fc' := #[.int .i64 5, .int .i64 pa, .int .i64 0, .string ⟨#[]⟩, .bool false, .int .i64 0, .int .i64 x1, .bool false, .int .i64 0, .slice none 0 0, .int .i64 0, .int .i64 0, .string ⟨#[]⟩]) rfl
  generalize w4.setCell ⟨b, 6, none⟩ (.int .i64 x1) = w5 at h2 ⊢
  replace H := Lib.hid h2
  clear h2
  obtain ⟨c0, c1, c2, c3, c4, c5, c6⟩ := H.out.pr.c7
  obtain ⟨f0, f1, f2, f3, f4, f5, f6, f7, f8, f9, f10, f11, f12⟩ := H.out.fr.c13
  have hfr := fun i => H.out.fr.free i
  obtain ⟨z0, z1, z2, z3, z4, z5, z6, z7, z8, z9, z10, z11, z12⟩ := H.out.zr.c13
  have hfz := fun i => H.out.zr.free i
  obtain ⟨w9, hw9⟩ : ∃ x, ffH w5 (w.heap.size + 1) (.int .i64 5) (.int .i64 pa) (.int .i64 0) (.string ⟨#[]⟩) (.bool false) (.int .i64 0) (.int .i64 x1) (.bool false) (.int .i64 0) (.slice none 0 0) (.int .i64 0) (.int .i64 0) (.string ⟨#[]⟩) = x := ⟨_, rfl⟩
  have hh := H.out.hand
  rw [hw9] at hh
  have HH := Lib.hid hh
  simp only [ffH] at hw9
  have HW := Lib.hid hw9
  clear hh hw9
  go_wp2_with fail
  rw [HW.out]
  clear z0 z1 z2 z3 z4 z5 z6 z7 z8 z9 z10 z11 z12 hfz HW
  clear c0 c1 c2 c3 c4 c5 c6 f0 f1 f2 f3 f4 f5 f6 f7 f8 f9 f10 f11 f12 hfr
  obtain ⟨hA7, hO7⟩ := HH.out
  obtain ⟨y0, y1, y2, y3, y4, y5, y6, y7, y8, y9, y10, y11, y12⟩ := hA7.c13
  refine ⟨rfl, .agg #[.int .i64 5, .int .i64 pa, .int .i64 0, .string ⟨#[]⟩, .bool false, .int .i64 0, .int .i64 x1, .bool false, .int .i64 0, .slice none 0 0, .int .i64 0, .int .i64 0, .string ⟨#[]⟩], ?_, ?_⟩
  · simp [results, Try.f24, go_sem, y0, y1, y2, y3, y4, y5, y6, y7, y8, y9, y10, y11, y12]
  · have hPA := HPA.out
    have hPB := HPB.out
    have hX1 := HX1.out
    subst hPA
    subst hPB
    subst hX1
    exact FfQ.plain (genF 5 A B C (few s) fin [(0, 1)]) rfl rfl hO7 rfl
set_option maxRecDepth 100000 in
set_option maxHeartbeats 4000000 in
theorem ffp_5 (ty A B C : Int) (s : ByteArray) (fin : Bool) (sv : Value) (SL : List (Int × Int)) (w : World) (hS : RgAt w sv SL) (hi : FfIn ty A B C s) (hj : pkZ ty 21 = 5) : Calls Try.prog 24 #[.agg (fpC ty A B C s fin sv)] w (FfQ 6 A B C s fin w) := by
  unfold fpC
  have hp0 := fun ww => pk9 ty 21 ww hi.h1.1 hi.h1.2 (by omega)
  rw [hj] at hp0
  obtain ⟨sa, sc, rfl, hss⟩ := hS
  have HS : Hid (RgAt w (.slice sa SL.length sc) SL) := Lib.hid ⟨sa, sc, rfl, hss⟩
  clear hss
  obtain ⟨pa, hpa⟩ : ∃ pa, pkZ A 4611686018427387904 = pa := ⟨_, rfl⟩
  obtain ⟨pb, hpb⟩ : ∃ pb, pkZ B 4611686018427387904 = pb := ⟨_, rfl⟩
  have hp1 := fun ww => pk9 A 4611686018427387904 ww hi.h2.1 hi.h2.2 (by omega)
  have hp2 := fun ww => pk9 B 4611686018427387904 ww hi.h3.1 hi.h3.2 (by omega)
  have ba := pkZ_bd A 4611686018427387904 (by omega)
  have bb := pkZ_bd B 4611686018427387904 (by omega)
  rw [hpa] at hp1 ba
  rw [hpb] at hp2 bb
  have h5 := hi.h5
  obtain ⟨x1, hx1⟩ : ∃ x, pkZ A 1099511627676 = x := ⟨_, rfl⟩
  have hp3 := fun ww => pk9 A 1099511627676 ww hi.h2.1 hi.h2.2 (by omega)
  rw [hx1] at hp3
  have HX1 := Lib.hid hx1
  clear hx1
  have HPA := Lib.hid hpa
  have HPB := Lib.hid hpb
  clear hpa hpb hj
  obtain ⟨w2, hw2⟩ : ∃ x, ffW w #[.int .i64 ty, .int .i64 A, .int .i64 B, .int .i64 C, .string s, .bool fin, .slice sa SL.length sc] = x := ⟨_, rfl⟩
  have hf := ffW_facts w #[.int .i64 ty, .int .i64 A, .int .i64 B, .int .i64 C, .string s, .bool fin, .slice sa SL.length sc]
  have hS3 := FfS.start w w2 _ #[.int .i64 6, .int .i64 0, .int .i64 0, .string ⟨#[]⟩, .bool false, .int .i64 0, .int .i64 0, .bool false, .int .i64 0, .slice none 0 0, .int .i64 0, .int .i64 0, .string ⟨#[]⟩] hw2
  rw [hw2] at hf
  simp only [ffW, ffZ, ffT] at hw2
  have HW2 := Lib.hid hw2
  obtain ⟨hP, _, hT, _⟩ := hf
  have c0 := hP.cell 0 (v := .int .i64 ty) rfl
  have t0 := hT.cell 5 (v := .int .i64 6) rfl
  clear hw2 hP hT
  go_enter Try.func24, Try.ntmps24
  go_upto_region 2 with fail
  rw [HW2.out]
  go_wp2_with fail
  refine (hp0 _).mono ?_
  rintro e w3 ⟨rfl, rfl⟩
  go_upto_region 3 with fail
  clear c0 t0 hp0 HW2
  generalize w2.alloc (.cells #[.int .i64 6, .int .i64 0, .int .i64 0, .string ⟨#[]⟩, .bool false, .int .i64 0, .int .i64 0, .bool false, .int .i64 0, .slice none 0 0, .int .i64 0, .int .i64 0, .string ⟨#[]⟩] 33) = w3 at hS3 ⊢
  generalize w2.heap.size = b at hS3 ⊢
  have H := Lib.hid hS3
  clear hS3
  obtain ⟨c0, c1, c2, c3, c4, c5, c6⟩ := H.out.pr.c7
  obtain ⟨f0, f1, f2, f3, f4, f5, f6, f7, f8, f9, f10, f11, f12⟩ := H.out.fr.c13
  have hfr := fun i => H.out.fr.free i
  have em : min (s.size : Int) 60 = ((min s.size 60 : Nat) : Int) := by omega
  have ex : s.extract 0 (min s.size 60) = strB (few s) := few_str s _ rfl
  go_wp2_with fail
  refine (hp1 _).mono ?_
  rintro e wx ⟨rfl, rfl⟩
  go_wp2_with fail
  refine (hp2 _).mono ?_
  rintro e wx ⟨rfl, rfl⟩
  go_wp2_with fail
  refine (hp3 _).mono ?_
  rintro e wx ⟨rfl, rfl⟩
  go_upto_region 19 with fail
  clear c0 c1 c2 c3 c4 c5 c6 f0 f1 f2 f3 f4 f5 f6 f7 f8 f9 f10 f11 f12 hfr
  have h2 := H.out.store 2 (.int .i64 x1) (fc' := #[.int .i64 6, .int .i64 0, .int .i64 x1, .string ⟨#[]⟩, .bool false, .int .i64 0, .int .i64 0, .bool false, .int .i64 0, .slice none 0 0, .int .i64 0, .int .i64 0, .string ⟨#[]⟩]) rfl
  generalize w3.setCell ⟨b, 2, none⟩ (.int .i64 x1) = w4 at h2 ⊢
  replace H := Lib.hid h2
  clear h2
  obtain ⟨c0, c1, c2, c3, c4, c5, c6⟩ := H.out.pr.c7
  obtain ⟨f0, f1, f2, f3, f4, f5, f6, f7, f8, f9, f10, f11, f12⟩ := H.out.fr.c13
  have hfr := fun i => H.out.fr.free i
  go_upto_region 51 with fail
  clear c0 c1 c2 c3 c4 c5 c6 f0 f1 f2 f3 f4 f5 f6 f7 f8 f9 f10 f11 f12 hfr
  have h2 := H.out.store 3 (.string (strB (few s))) (fc' := #[.int .i64 6, .int .i64 0, .int .i64 x1, .string (strB (few s)), .bool false, .int .i64 0, .int .i64 0, .bool false, .int .i64 0, .slice none 0 0, .int .i64 0, .int .i64 0, .string ⟨#[]⟩]) rfl
  generalize w4.setCell ⟨b, 3, none⟩ (.string (strB (few s))) = w5 at h2 ⊢
  replace H := Lib.hid h2
  clear h2
  obtain ⟨c0, c1, c2, c3, c4, c5, c6⟩ := H.out.pr.c7
  obtain ⟨f0, f1, f2, f3, f4, f5, f6, f7, f8, f9, f10, f11, f12⟩ := H.out.fr.c13
  have hfr := fun i => H.out.fr.free i
  obtain ⟨z0, z1, z2, z3, z4, z5, z6, z7, z8, z9, z10, z11, z12⟩ := H.out.zr.c13
  have hfz := fun i => H.out.zr.free i
  obtain ⟨w9, hw9⟩ : ∃ x, ffH w5 (w.heap.size + 1) (.int .i64 6) (.int .i64 0) (.int .i64 x1) (.string (strB (few s))) (.bool false) (.int .i64 0) (.int .i64 0) (.bool false) (.int .i64 0) (.slice none 0 0) (.int .i64 0) (.int .i64 0) (.string ⟨#[]⟩) = x := ⟨_, rfl⟩
  have hh := H.out.hand
  rw [hw9] at hh
  have HH := Lib.hid hh
  simp only [ffH] at hw9
  have HW := Lib.hid hw9
  clear hh hw9
  go_wp2_with fail
  rw [HW.out]
  clear z0 z1 z2 z3 z4 z5 z6 z7 z8 z9 z10 z11 z12 hfz HW
  clear c0 c1 c2 c3 c4 c5 c6 f0 f1 f2 f3 f4 f5 f6 f7 f8 f9 f10 f11 f12 hfr
  obtain ⟨hA7, hO7⟩ := HH.out
  obtain ⟨y0, y1, y2, y3, y4, y5, y6, y7, y8, y9, y10, y11, y12⟩ := hA7.c13
  refine ⟨rfl, .agg #[.int .i64 6, .int .i64 0, .int .i64 x1, .string (strB (few s)), .bool false, .int .i64 0, .int .i64 0, .bool false, .int .i64 0, .slice none 0 0, .int .i64 0, .int .i64 0, .string ⟨#[]⟩], ?_, ?_⟩
  · simp [results, Try.f24, go_sem, y0, y1, y2, y3, y4, y5, y6, y7, y8, y9, y10, y11, y12]
  · have hPA := HPA.out
    have hPB := HPB.out
    have hX1 := HX1.out
    subst hPA
    subst hPB
    subst hX1
    exact FfQ.plain (genF 6 A B C (few s) fin [(0, 1)]) rfl rfl hO7 rfl
set_option maxRecDepth 100000 in
set_option maxHeartbeats 4000000 in
theorem ffp_6 (ty A B C : Int) (s : ByteArray) (fin : Bool) (sv : Value) (SL : List (Int × Int)) (w : World) (hS : RgAt w sv SL) (hi : FfIn ty A B C s) (hj : pkZ ty 21 = 6) : Calls Try.prog 24 #[.agg (fpC ty A B C s fin sv)] w (FfQ 7 A B C s fin w) := by
  unfold fpC
  have hp0 := fun ww => pk9 ty 21 ww hi.h1.1 hi.h1.2 (by omega)
  rw [hj] at hp0
  obtain ⟨sa, sc, rfl, hss⟩ := hS
  have HS : Hid (RgAt w (.slice sa SL.length sc) SL) := Lib.hid ⟨sa, sc, rfl, hss⟩
  clear hss
  obtain ⟨pa, hpa⟩ : ∃ pa, pkZ A 4611686018427387904 = pa := ⟨_, rfl⟩
  obtain ⟨pb, hpb⟩ : ∃ pb, pkZ B 4611686018427387904 = pb := ⟨_, rfl⟩
  have hp1 := fun ww => pk9 A 4611686018427387904 ww hi.h2.1 hi.h2.2 (by omega)
  have hp2 := fun ww => pk9 B 4611686018427387904 ww hi.h3.1 hi.h3.2 (by omega)
  have ba := pkZ_bd A 4611686018427387904 (by omega)
  have bb := pkZ_bd B 4611686018427387904 (by omega)
  rw [hpa] at hp1 ba
  rw [hpb] at hp2 bb
  have h5 := hi.h5
  have et : strB (few s) ++ ⟨#[116]⟩ = strB (few s ++ [116]) := (strB_app _ _).symm
  have e11 : (strB (few s)).size = (few s).length := strB_size _
  have e12 := few_len s
  have e13 : ¬ 9223372036854775807 < (strB (few s)).size + 1 := by omega
  have HPA := Lib.hid hpa
  have HPB := Lib.hid hpb
  clear hpa hpb hj
  obtain ⟨w2, hw2⟩ : ∃ x, ffW w #[.int .i64 ty, .int .i64 A, .int .i64 B, .int .i64 C, .string s, .bool fin, .slice sa SL.length sc] = x := ⟨_, rfl⟩
  have hf := ffW_facts w #[.int .i64 ty, .int .i64 A, .int .i64 B, .int .i64 C, .string s, .bool fin, .slice sa SL.length sc]
  have hS3 := FfS.start w w2 _ #[.int .i64 7, .int .i64 0, .int .i64 0, .string ⟨#[]⟩, .bool false, .int .i64 0, .int .i64 0, .bool false, .int .i64 0, .slice none 0 0, .int .i64 0, .int .i64 0, .string ⟨#[]⟩] hw2
  rw [hw2] at hf
  simp only [ffW, ffZ, ffT] at hw2
  have HW2 := Lib.hid hw2
  obtain ⟨hP, _, hT, _⟩ := hf
  have c0 := hP.cell 0 (v := .int .i64 ty) rfl
  have t0 := hT.cell 6 (v := .int .i64 7) rfl
  clear hw2 hP hT
  go_enter Try.func24, Try.ntmps24
  go_upto_region 2 with fail
  rw [HW2.out]
  go_wp2_with fail
  refine (hp0 _).mono ?_
  rintro e w3 ⟨rfl, rfl⟩
  go_upto_region 3 with fail
  clear c0 t0 hp0 HW2
  generalize w2.alloc (.cells #[.int .i64 7, .int .i64 0, .int .i64 0, .string ⟨#[]⟩, .bool false, .int .i64 0, .int .i64 0, .bool false, .int .i64 0, .slice none 0 0, .int .i64 0, .int .i64 0, .string ⟨#[]⟩] 33) = w3 at hS3 ⊢
  generalize w2.heap.size = b at hS3 ⊢
  have H := Lib.hid hS3
  clear hS3
  obtain ⟨c0, c1, c2, c3, c4, c5, c6⟩ := H.out.pr.c7
  obtain ⟨f0, f1, f2, f3, f4, f5, f6, f7, f8, f9, f10, f11, f12⟩ := H.out.fr.c13
  have hfr := fun i => H.out.fr.free i
  have em : min (s.size : Int) 60 = ((min s.size 60 : Nat) : Int) := by omega
  have ex : s.extract 0 (min s.size 60) = strB (few s) := few_str s _ rfl
  go_wp2_with fail
  refine (hp1 _).mono ?_
  rintro e wx ⟨rfl, rfl⟩
  go_wp2_with fail
  refine (hp2 _).mono ?_
  rintro e wx ⟨rfl, rfl⟩
  go_upto_region 51 with fail
  clear c0 c1 c2 c3 c4 c5 c6 f0 f1 f2 f3 f4 f5 f6 f7 f8 f9 f10 f11 f12 hfr
  have h2 := H.out.store 3 (.string (strB (few s ++ [116]))) (fc' := #[.int .i64 7, .int .i64 0, .int .i64 0, .string (strB (few s ++ [116])), .bool false, .int .i64 0, .int .i64 0, .bool false, .int .i64 0, .slice none 0 0, .int .i64 0, .int .i64 0, .string ⟨#[]⟩]) rfl
  generalize w3.setCell ⟨b, 3, none⟩ (.string (strB (few s ++ [116]))) = w4 at h2 ⊢
  replace H := Lib.hid h2
  clear h2
  obtain ⟨c0, c1, c2, c3, c4, c5, c6⟩ := H.out.pr.c7
  obtain ⟨f0, f1, f2, f3, f4, f5, f6, f7, f8, f9, f10, f11, f12⟩ := H.out.fr.c13
  have hfr := fun i => H.out.fr.free i
  obtain ⟨z0, z1, z2, z3, z4, z5, z6, z7, z8, z9, z10, z11, z12⟩ := H.out.zr.c13
  have hfz := fun i => H.out.zr.free i
  obtain ⟨w9, hw9⟩ : ∃ x, ffH w4 (w.heap.size + 1) (.int .i64 7) (.int .i64 0) (.int .i64 0) (.string (strB (few s ++ [116]))) (.bool false) (.int .i64 0) (.int .i64 0) (.bool false) (.int .i64 0) (.slice none 0 0) (.int .i64 0) (.int .i64 0) (.string ⟨#[]⟩) = x := ⟨_, rfl⟩
  have hh := H.out.hand
  rw [hw9] at hh
  have HH := Lib.hid hh
  simp only [ffH] at hw9
  have HW := Lib.hid hw9
  clear hh hw9
  go_wp2_with fail
  rw [HW.out]
  clear z0 z1 z2 z3 z4 z5 z6 z7 z8 z9 z10 z11 z12 hfz HW
  clear c0 c1 c2 c3 c4 c5 c6 f0 f1 f2 f3 f4 f5 f6 f7 f8 f9 f10 f11 f12 hfr
  obtain ⟨hA7, hO7⟩ := HH.out
  obtain ⟨y0, y1, y2, y3, y4, y5, y6, y7, y8, y9, y10, y11, y12⟩ := hA7.c13
  refine ⟨rfl, .agg #[.int .i64 7, .int .i64 0, .int .i64 0, .string (strB (few s ++ [116])), .bool false, .int .i64 0, .int .i64 0, .bool false, .int .i64 0, .slice none 0 0, .int .i64 0, .int .i64 0, .string ⟨#[]⟩], ?_, ?_⟩
  · simp [results, Try.f24, go_sem, y0, y1, y2, y3, y4, y5, y6, y7, y8, y9, y10, y11, y12]
  · have hPA := HPA.out
    have hPB := HPB.out
    subst hPA
    subst hPB
    exact FfQ.plain (genF 7 A B C (few s) fin [(0, 1)]) rfl rfl hO7 rfl
end Go.Proofs.Ytmmgmpghkpbgkaa
