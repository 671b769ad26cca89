/- Contracts of the law's helpers: FrameFrom, type by type. -/
import Derived.Test.YtmmgmpghkpbgkaaFsC
namespace Go.Proofs.Ytmmgmpghkpbgkaa
open Go Go.RowKit
set_option linter.unusedVariables false
set_option linter.unusedSimpArgs false

set_option maxRecDepth 100000 in
set_option maxHeartbeats 4000000 in
theorem ff_7 (ty A B C : Int) (s : ByteArray) (fin : Bool) (sv : Value) (SL : List (Int × Int)) (w : World) (hS : RgAt w sv SL) (h1 : -9223372036854775808 ≤ ty ∧ ty ≤ 9223372036854775807) (h2 : -9223372036854775808 ≤ A ∧ A ≤ 9223372036854775807) (h3 : -9223372036854775808 ≤ B ∧ B ≤ 9223372036854775807) (h4 : -9223372036854775808 ≤ C ∧ C ≤ 9223372036854775807) (h5 : s.size ≤ 9223372036854775807) (hj : pkZ ty 21 = 7) :
    Calls Try.prog 24 #[.agg (fpC ty A B C s fin sv)] w (FfQ 8 A B C s fin w) := by
  unfold fpC
  have hp0 := fun ww => pk9 ty 21 ww h1.1 h1.2 (by omega)
  rw [hj] at hp0
  obtain ⟨sa, sc, rfl, hss⟩ := hS
  have HS : Hid (RgAt w (.slice sa SL.length sc) SL) := Lib.hid ⟨sa, sc, rfl, hss⟩
  clear hss
  obtain ⟨pa, hpa⟩ : ∃ pa, pkZ A 4611686018427387904 = pa := ⟨_, rfl⟩
  obtain ⟨pb, hpb⟩ : ∃ pb, pkZ B 4611686018427387904 = pb := ⟨_, rfl⟩
  have hp1 := fun ww => pk9 A 4611686018427387904 ww h2.1 h2.2 (by omega)
  have hp2 := fun ww => pk9 B 4611686018427387904 ww h3.1 h3.2 (by omega)
  have ba := pkZ_bd A 4611686018427387904 (by omega)
  have bb := pkZ_bd B 4611686018427387904 (by omega)
  rw [hpa] at hp1 ba
  rw [hpb] at hp2 bb
  obtain ⟨x1, hx1⟩ : ∃ x, pkZ B 1099511627676 = x := ⟨_, rfl⟩
  have hp4 := fun ww => pk9 B 1099511627676 ww h3.1 h3.2 (by omega)
  rw [hx1] at hp4
  have HX1 := Lib.hid hx1
  clear hx1
  have HPA := Lib.hid hpa
  have HPB := Lib.hid hpb
  clear hpa hpb hj
  go_enter Try.func24, Try.ntmps24
  go_upto_region 2 with fail
  have hP := ((At.new w 46 #[.int .i64 ty, .int .i64 A, .int .i64 B, .int .i64 C, .string s, .bool fin, .slice sa SL.length sc]).alloc (.cells #[.int .i64 0, .int .i64 0, .int .i64 0, .string ⟨#[]⟩, .bool false, .int .i64 0, .int .i64 0, .bool false, .int .i64 0, .slice none 0 0, .int .i64 0, .int .i64 0, .string ⟨#[]⟩] 33)).alloc (.cells #[.int .i64 0, .int .i64 1, .int .i64 2, .int .i64 4, .int .i64 5, .int .i64 6, .int .i64 7, .int .i64 8, .int .i64 16, .int .i64 17, .int .i64 18, .int .i64 20, .int .i64 21, .int .i64 22, .int .i64 24, .int .i64 25, .int .i64 26, .int .i64 27, .int .i64 28, .int .i64 29, .int .i64 30] 3)
  have hZ := (At.new (w.alloc (.cells #[.int .i64 ty, .int .i64 A, .int .i64 B, .int .i64 C, .string s, .bool fin, .slice sa SL.length sc] 46)) 33 #[.int .i64 0, .int .i64 0, .int .i64 0, .string ⟨#[]⟩, .bool false, .int .i64 0, .int .i64 0, .bool false, .int .i64 0, .slice none 0 0, .int .i64 0, .int .i64 0, .string ⟨#[]⟩]).alloc (.cells #[.int .i64 0, .int .i64 1, .int .i64 2, .int .i64 4, .int .i64 5, .int .i64 6, .int .i64 7, .int .i64 8, .int .i64 16, .int .i64 17, .int .i64 18, .int .i64 20, .int .i64 21, .int .i64 22, .int .i64 24, .int .i64 25, .int .i64 26, .int .i64 27, .int .i64 28, .int .i64 29, .int .i64 30] 3)
  have hT := At.new ((w.alloc (.cells #[.int .i64 ty, .int .i64 A, .int .i64 B, .int .i64 C, .string s, .bool fin, .slice sa SL.length sc] 46)).alloc (.cells #[.int .i64 0, .int .i64 0, .int .i64 0, .string ⟨#[]⟩, .bool false, .int .i64 0, .int .i64 0, .bool false, .int .i64 0, .slice none 0 0, .int .i64 0, .int .i64 0, .string ⟨#[]⟩] 33)) 3 #[.int .i64 0, .int .i64 1, .int .i64 2, .int .i64 4, .int .i64 5, .int .i64 6, .int .i64 7, .int .i64 8, .int .i64 16, .int .i64 17, .int .i64 18, .int .i64 20, .int .i64 21, .int .i64 22, .int .i64 24, .int .i64 25, .int .i64 26, .int .i64 27, .int .i64 28, .int .i64 29, .int .i64 30]
  have hO := (((Only.refl [] w).alloc (.cells #[.int .i64 ty, .int .i64 A, .int .i64 B, .int .i64 C, .string s, .bool fin, .slice sa SL.length sc] 46)).alloc (.cells #[.int .i64 0, .int .i64 0, .int .i64 0, .string ⟨#[]⟩, .bool false, .int .i64 0, .int .i64 0, .bool false, .int .i64 0, .slice none 0 0, .int .i64 0, .int .i64 0, .string ⟨#[]⟩] 33)).alloc (.cells #[.int .i64 0, .int .i64 1, .int .i64 2, .int .i64 4, .int .i64 5, .int .i64 6, .int .i64 7, .int .i64 8, .int .i64 16, .int .i64 17, .int .i64 18, .int .i64 20, .int .i64 21, .int .i64 22, .int .i64 24, .int .i64 25, .int .i64 26, .int .i64 27, .int .i64 28, .int .i64 29, .int .i64 30] 3)
  rw [World.size_alloc] at hZ
  rw [World.size_alloc, World.size_alloc] at hT
  generalize ((w.alloc (.cells #[.int .i64 ty, .int .i64 A, .int .i64 B, .int .i64 C, .string s, .bool fin, .slice sa SL.length sc] 46)).alloc (.cells #[.int .i64 0, .int .i64 0, .int .i64 0, .string ⟨#[]⟩, .bool false, .int .i64 0, .int .i64 0, .bool false, .int .i64 0, .slice none 0 0, .int .i64 0, .int .i64 0, .string ⟨#[]⟩] 33)).alloc (.cells #[.int .i64 0, .int .i64 1, .int .i64 2, .int .i64 4, .int .i64 5, .int .i64 6, .int .i64 7, .int .i64 8, .int .i64 16, .int .i64 17, .int .i64 18, .int .i64 20, .int .i64 21, .int .i64 22, .int .i64 24, .int .i64 25, .int .i64 26, .int .i64 27, .int .i64 28, .int .i64 29, .int .i64 30] 3) = w2 at hP hZ hT hO ⊢
  obtain ⟨p, hp⟩ : ∃ p, w.heap.size = p := ⟨_, rfl⟩
  rw [hp] at hP hZ hT ⊢
  have hpz := hp
  obtain ⟨z, hz⟩ : ∃ z, p + 1 = z := ⟨_, rfl⟩
  rw [hz] at hZ hT ⊢
  have c0 : w2.cell? ⟨p, 0, none⟩ = some (.int .i64 ty) := hP.cell 0 rfl
  have t0 : w2.cell? ⟨z + 1, 7, none⟩ = some (.int .i64 8) := hT.cell 7 rfl
  clear hT
  go_wp2_with fail
  refine (hp0 _).mono ?_
  rintro e w3 ⟨rfl, rfl⟩
  go_upto_region 3 with fail
  replace hP := hP.alloc (.cells #[.int .i64 8, .int .i64 0, .int .i64 0, .string ⟨#[]⟩, .bool false, .int .i64 0, .int .i64 0, .bool false, .int .i64 0, .slice none 0 0, .int .i64 0, .int .i64 0, .string ⟨#[]⟩] 33)
  replace hZ := hZ.alloc (.cells #[.int .i64 8, .int .i64 0, .int .i64 0, .string ⟨#[]⟩, .bool false, .int .i64 0, .int .i64 0, .bool false, .int .i64 0, .slice none 0 0, .int .i64 0, .int .i64 0, .string ⟨#[]⟩] 33)
  have hF := At.new w2 33 #[.int .i64 8, .int .i64 0, .int .i64 0, .string ⟨#[]⟩, .bool false, .int .i64 0, .int .i64 0, .bool false, .int .i64 0, .slice none 0 0, .int .i64 0, .int .i64 0, .string ⟨#[]⟩]
  have hbz : w.heap.size ≤ w2.heap.size := hO.size
  have hpl : p < w2.heap.size ∧ z < w2.heap.size := ⟨by have := hZ.lt; have := hP.lt; have := World.block_lt_of_cell? _ _ c0; exact this, by have := World.block_lt_of_cell? _ _ t0; simp at this; omega⟩
  replace hO := hO.alloc (.cells #[.int .i64 8, .int .i64 0, .int .i64 0, .string ⟨#[]⟩, .bool false, .int .i64 0, .int .i64 0, .bool false, .int .i64 0, .slice none 0 0, .int .i64 0, .int .i64 0, .string ⟨#[]⟩] 33)
  clear c0 t0 hp0
  generalize w2.alloc (.cells #[.int .i64 8, .int .i64 0, .int .i64 0, .string ⟨#[]⟩, .bool false, .int .i64 0, .int .i64 0, .bool false, .int .i64 0, .slice none 0 0, .int .i64 0, .int .i64 0, .string ⟨#[]⟩] 33) = w3 at hP hZ hF hO ⊢
  obtain ⟨b, hb⟩ : ∃ b, w2.heap.size = b := ⟨_, rfl⟩
  rw [hb] at hF hbz hpl ⊢
  have HN : Hid (p ≠ b ∧ z ≠ b ∧ w.heap.size ≤ b ∧ w.heap.size ≤ z) := Lib.hid ⟨by omega, by omega, hbz, by omega⟩
  clear hb hpl hz hbz
  have c0 : w3.cell? ⟨p, 0, none⟩ = some (.int .i64 ty) := hP.cell 0 rfl
  have c1 : w3.cell? ⟨p, 1, none⟩ = some (.int .i64 A) := hP.cell 1 rfl
  have c2 : w3.cell? ⟨p, 2, none⟩ = some (.int .i64 B) := hP.cell 2 rfl
  have c3 : w3.cell? ⟨p, 3, none⟩ = some (.int .i64 C) := hP.cell 3 rfl
  have c4 : w3.cell? ⟨p, 4, none⟩ = some (.string s) := hP.cell 4 rfl
  have c5 : w3.cell? ⟨p, 5, none⟩ = some (.bool fin) := hP.cell 5 rfl
  have c6 : w3.cell? ⟨p, 6, none⟩ = some (.slice sa SL.length sc) := hP.cell 6 rfl
  have f0 : w3.cell? ⟨b, 0, none⟩ = some (.int .i64 8) := hF.cell 0 rfl
  have f1 : w3.cell? ⟨b, 1, none⟩ = some (.int .i64 0) := hF.cell 1 rfl
  have f2 : w3.cell? ⟨b, 2, none⟩ = some (.int .i64 0) := hF.cell 2 rfl
  have f3 : w3.cell? ⟨b, 3, none⟩ = some (.string ⟨#[]⟩) := hF.cell 3 rfl
  have f4 : w3.cell? ⟨b, 4, none⟩ = some (.bool false) := hF.cell 4 rfl
  have f5 : w3.cell? ⟨b, 5, none⟩ = some (.int .i64 0) := hF.cell 5 rfl
  have f6 : w3.cell? ⟨b, 6, none⟩ = some (.int .i64 0) := hF.cell 6 rfl
  have f7 : w3.cell? ⟨b, 7, none⟩ = some (.bool false) := hF.cell 7 rfl
  have f8 : w3.cell? ⟨b, 8, none⟩ = some (.int .i64 0) := hF.cell 8 rfl
  have f9 : w3.cell? ⟨b, 9, none⟩ = some (.slice none 0 0) := hF.cell 9 rfl
  have f10 : w3.cell? ⟨b, 10, none⟩ = some (.int .i64 0) := hF.cell 10 rfl
  have f11 : w3.cell? ⟨b, 11, none⟩ = some (.int .i64 0) := hF.cell 11 rfl
  have f12 : w3.cell? ⟨b, 12, none⟩ = some (.string ⟨#[]⟩) := hF.cell 12 rfl
  have hfr := fun i => hF.free i
  have em : min (s.size : Int) 60 = ((min s.size 60 : Nat) : Int) := by omega
  have ex : s.extract 0 (min s.size 60) = strB (few s) := few_str s _ rfl
  go_wp2_with fail
  refine (hp1 _).mono ?_
  rintro e wx ⟨rfl, rfl⟩
  go_wp2_with fail
  refine (hp2 _).mono ?_
  rintro e wx ⟨rfl, rfl⟩
  go_upto_region 24 with fail
  clear c0 c1 c2 c3 c4 c5 c6 f0 f1 f2 f3 f4 f5 f6 f7 f8 f9 f10 f11 f12 hfr
  replace hP := hP.far (p := ⟨b, 1, none⟩) HN.out.1 (.int .i64 pa)
  replace hZ := hZ.far (p := ⟨b, 1, none⟩) HN.out.2.1 (.int .i64 pa)
  replace hF := hF.set 1 (.int .i64 pa) (cs' := #[.int .i64 8, .int .i64 pa, .int .i64 0, .string ⟨#[]⟩, .bool false, .int .i64 0, .int .i64 0, .bool false, .int .i64 0, .slice none 0 0, .int .i64 0, .int .i64 0, .string ⟨#[]⟩]) rfl
  replace hO := hO.putn (g := b) (i := 1) HN.out.2.2.1 (.int .i64 pa)
  generalize w3.setCell ⟨b, 1, none⟩ (.int .i64 pa) = w4 at hP hZ hF hO ⊢
  have c0 : w4.cell? ⟨p, 0, none⟩ = some (.int .i64 ty) := hP.cell 0 rfl
  have c1 : w4.cell? ⟨p, 1, none⟩ = some (.int .i64 A) := hP.cell 1 rfl
  have c2 : w4.cell? ⟨p, 2, none⟩ = some (.int .i64 B) := hP.cell 2 rfl
  have c3 : w4.cell? ⟨p, 3, none⟩ = some (.int .i64 C) := hP.cell 3 rfl
  have c4 : w4.cell? ⟨p, 4, none⟩ = some (.string s) := hP.cell 4 rfl
  have c5 : w4.cell? ⟨p, 5, none⟩ = some (.bool fin) := hP.cell 5 rfl
  have c6 : w4.cell? ⟨p, 6, none⟩ = some (.slice sa SL.length sc) := hP.cell 6 rfl
  have f0 : w4.cell? ⟨b, 0, none⟩ = some (.int .i64 8) := hF.cell 0 rfl
  have f1 : w4.cell? ⟨b, 1, none⟩ = some (.int .i64 pa) := hF.cell 1 rfl
  have f2 : w4.cell? ⟨b, 2, none⟩ = some (.int .i64 0) := hF.cell 2 rfl
  have f3 : w4.cell? ⟨b, 3, none⟩ = some (.string ⟨#[]⟩) := hF.cell 3 rfl
  have f4 : w4.cell? ⟨b, 4, none⟩ = some (.bool false) := hF.cell 4 rfl
  have f5 : w4.cell? ⟨b, 5, none⟩ = some (.int .i64 0) := hF.cell 5 rfl
  have f6 : w4.cell? ⟨b, 6, none⟩ = some (.int .i64 0) := hF.cell 6 rfl
  have f7 : w4.cell? ⟨b, 7, none⟩ = some (.bool false) := hF.cell 7 rfl
  have f8 : w4.cell? ⟨b, 8, none⟩ = some (.int .i64 0) := hF.cell 8 rfl
  have f9 : w4.cell? ⟨b, 9, none⟩ = some (.slice none 0 0) := hF.cell 9 rfl
  have f10 : w4.cell? ⟨b, 10, none⟩ = some (.int .i64 0) := hF.cell 10 rfl
  have f11 : w4.cell? ⟨b, 11, none⟩ = some (.int .i64 0) := hF.cell 11 rfl
  have f12 : w4.cell? ⟨b, 12, none⟩ = some (.string ⟨#[]⟩) := hF.cell 12 rfl
  have hfr := fun i => hF.free i
  go_wp2_with fail
  refine (hp4 _).mono ?_
  rintro e wx ⟨rfl, rfl⟩
  go_upto_region 25 with fail
  clear c0 c1 c2 c3 c4 c5 c6 f0 f1 f2 f3 f4 f5 f6 f7 f8 f9 f10 f11 f12 hfr
  replace hP := hP.far (p := ⟨b, 2, none⟩) HN.out.1 (.int .i64 x1)
  replace hZ := hZ.far (p := ⟨b, 2, none⟩) HN.out.2.1 (.int .i64 x1)
  replace hF := hF.set 2 (.int .i64 x1) (cs' := #[.int .i64 8, .int .i64 pa, .int .i64 x1, .string ⟨#[]⟩, .bool false, .int .i64 0, .int .i64 0, .bool false, .int .i64 0, .slice none 0 0, .int .i64 0, .int .i64 0, .string ⟨#[]⟩]) rfl
  replace hO := hO.putn (g := b) (i := 2) HN.out.2.2.1 (.int .i64 x1)
  generalize w4.setCell ⟨b, 2, none⟩ (.int .i64 x1) = w5 at hP hZ hF hO ⊢
  have c0 : w5.cell? ⟨p, 0, none⟩ = some (.int .i64 ty) := hP.cell 0 rfl
  have c1 : w5.cell? ⟨p, 1, none⟩ = some (.int .i64 A) := hP.cell 1 rfl
  have c2 : w5.cell? ⟨p, 2, none⟩ = some (.int .i64 B) := hP.cell 2 rfl
  have c3 : w5.cell? ⟨p, 3, none⟩ = some (.int .i64 C) := hP.cell 3 rfl
  have c4 : w5.cell? ⟨p, 4, none⟩ = some (.string s) := hP.cell 4 rfl
  have c5 : w5.cell? ⟨p, 5, none⟩ = some (.bool fin) := hP.cell 5 rfl
  have c6 : w5.cell? ⟨p, 6, none⟩ = some (.slice sa SL.length sc) := hP.cell 6 rfl
  have f0 : w5.cell? ⟨b, 0, none⟩ = some (.int .i64 8) := hF.cell 0 rfl
  have f1 : w5.cell? ⟨b, 1, none⟩ = some (.int .i64 pa) := hF.cell 1 rfl
  have f2 : w5.cell? ⟨b, 2, none⟩ = some (.int .i64 x1) := hF.cell 2 rfl
  have f3 : w5.cell? ⟨b, 3, none⟩ = some (.string ⟨#[]⟩) := hF.cell 3 rfl
  have f4 : w5.cell? ⟨b, 4, none⟩ = some (.bool false) := hF.cell 4 rfl
  have f5 : w5.cell? ⟨b, 5, none⟩ = some (.int .i64 0) := hF.cell 5 rfl
  have f6 : w5.cell? ⟨b, 6, none⟩ = some (.int .i64 0) := hF.cell 6 rfl
  have f7 : w5.cell? ⟨b, 7, none⟩ = some (.bool false) := hF.cell 7 rfl
  have f8 : w5.cell? ⟨b, 8, none⟩ = some (.int .i64 0) := hF.cell 8 rfl
  have f9 : w5.cell? ⟨b, 9, none⟩ = some (.slice none 0 0) := hF.cell 9 rfl
  have f10 : w5.cell? ⟨b, 10, none⟩ = some (.int .i64 0) := hF.cell 10 rfl
  have f11 : w5.cell? ⟨b, 11, none⟩ = some (.int .i64 0) := hF.cell 11 rfl
  have f12 : w5.cell? ⟨b, 12, none⟩ = some (.string ⟨#[]⟩) := hF.cell 12 rfl
  have hfr := fun i => hF.free i
  go_upto_region 26 with fail
  clear c0 c1 c2 c3 c4 c5 c6 f0 f1 f2 f3 f4 f5 f6 f7 f8 f9 f10 f11 f12 hfr
  replace hP := hP.far (p := ⟨b, 3, none⟩) HN.out.1 (.string (strB (few s)))
  replace hZ := hZ.far (p := ⟨b, 3, none⟩) HN.out.2.1 (.string (strB (few s)))
  replace hF := hF.set 3 (.string (strB (few s))) (cs' := #[.int .i64 8, .int .i64 pa, .int .i64 x1, .string (strB (few s)), .bool false, .int .i64 0, .int .i64 0, .bool false, .int .i64 0, .slice none 0 0, .int .i64 0, .int .i64 0, .string ⟨#[]⟩]) rfl
  replace hO := hO.putn (g := b) (i := 3) HN.out.2.2.1 (.string (strB (few s)))
  generalize w5.setCell ⟨b, 3, none⟩ (.string (strB (few s))) = w6 at hP hZ hF hO ⊢
  have c0 : w6.cell? ⟨p, 0, none⟩ = some (.int .i64 ty) := hP.cell 0 rfl
  have c1 : w6.cell? ⟨p, 1, none⟩ = some (.int .i64 A) := hP.cell 1 rfl
  have c2 : w6.cell? ⟨p, 2, none⟩ = some (.int .i64 B) := hP.cell 2 rfl
  have c3 : w6.cell? ⟨p, 3, none⟩ = some (.int .i64 C) := hP.cell 3 rfl
  have c4 : w6.cell? ⟨p, 4, none⟩ = some (.string s) := hP.cell 4 rfl
  have c5 : w6.cell? ⟨p, 5, none⟩ = some (.bool fin) := hP.cell 5 rfl
  have c6 : w6.cell? ⟨p, 6, none⟩ = some (.slice sa SL.length sc) := hP.cell 6 rfl
  have f0 : w6.cell? ⟨b, 0, none⟩ = some (.int .i64 8) := hF.cell 0 rfl
  have f1 : w6.cell? ⟨b, 1, none⟩ = some (.int .i64 pa) := hF.cell 1 rfl
  have f2 : w6.cell? ⟨b, 2, none⟩ = some (.int .i64 x1) := hF.cell 2 rfl
  have f3 : w6.cell? ⟨b, 3, none⟩ = some (.string (strB (few s))) := hF.cell 3 rfl
  have f4 : w6.cell? ⟨b, 4, none⟩ = some (.bool false) := hF.cell 4 rfl
  have f5 : w6.cell? ⟨b, 5, none⟩ = some (.int .i64 0) := hF.cell 5 rfl
  have f6 : w6.cell? ⟨b, 6, none⟩ = some (.int .i64 0) := hF.cell 6 rfl
  have f7 : w6.cell? ⟨b, 7, none⟩ = some (.bool false) := hF.cell 7 rfl
  have f8 : w6.cell? ⟨b, 8, none⟩ = some (.int .i64 0) := hF.cell 8 rfl
  have f9 : w6.cell? ⟨b, 9, none⟩ = some (.slice none 0 0) := hF.cell 9 rfl
  have f10 : w6.cell? ⟨b, 10, none⟩ = some (.int .i64 0) := hF.cell 10 rfl
  have f11 : w6.cell? ⟨b, 11, none⟩ = some (.int .i64 0) := hF.cell 11 rfl
  have f12 : w6.cell? ⟨b, 12, none⟩ = some (.string ⟨#[]⟩) := hF.cell 12 rfl
  have hfr := fun i => hF.free i
  go_upto_region 51 with fail
  clear c0 c1 c2 c3 c4 c5 c6 f0 f1 f2 f3 f4 f5 f6 f7 f8 f9 f10 f11 f12 hfr
  replace hP := hP.far (p := ⟨b, 4, none⟩) HN.out.1 (.bool fin)
  replace hZ := hZ.far (p := ⟨b, 4, none⟩) HN.out.2.1 (.bool fin)
  replace hF := hF.set 4 (.bool fin) (cs' := #[.int .i64 8, .int .i64 pa, .int .i64 x1, .string (strB (few s)), .bool fin, .int .i64 0, .int .i64 0, .bool false, .int .i64 0, .slice none 0 0, .int .i64 0, .int .i64 0, .string ⟨#[]⟩]) rfl
  replace hO := hO.putn (g := b) (i := 4) HN.out.2.2.1 (.bool fin)
  generalize w6.setCell ⟨b, 4, none⟩ (.bool fin) = w7 at hP hZ hF hO ⊢
  have c0 : w7.cell? ⟨p, 0, none⟩ = some (.int .i64 ty) := hP.cell 0 rfl
  have c1 : w7.cell? ⟨p, 1, none⟩ = some (.int .i64 A) := hP.cell 1 rfl
  have c2 : w7.cell? ⟨p, 2, none⟩ = some (.int .i64 B) := hP.cell 2 rfl
  have c3 : w7.cell? ⟨p, 3, none⟩ = some (.int .i64 C) := hP.cell 3 rfl
  have c4 : w7.cell? ⟨p, 4, none⟩ = some (.string s) := hP.cell 4 rfl
  have c5 : w7.cell? ⟨p, 5, none⟩ = some (.bool fin) := hP.cell 5 rfl
  have c6 : w7.cell? ⟨p, 6, none⟩ = some (.slice sa SL.length sc) := hP.cell 6 rfl
  have f0 : w7.cell? ⟨b, 0, none⟩ = some (.int .i64 8) := hF.cell 0 rfl
  have f1 : w7.cell? ⟨b, 1, none⟩ = some (.int .i64 pa) := hF.cell 1 rfl
  have f2 : w7.cell? ⟨b, 2, none⟩ = some (.int .i64 x1) := hF.cell 2 rfl
  have f3 : w7.cell? ⟨b, 3, none⟩ = some (.string (strB (few s))) := hF.cell 3 rfl
  have f4 : w7.cell? ⟨b, 4, none⟩ = some (.bool fin) := hF.cell 4 rfl
  have f5 : w7.cell? ⟨b, 5, none⟩ = some (.int .i64 0) := hF.cell 5 rfl
  have f6 : w7.cell? ⟨b, 6, none⟩ = some (.int .i64 0) := hF.cell 6 rfl
  have f7 : w7.cell? ⟨b, 7, none⟩ = some (.bool false) := hF.cell 7 rfl
  have f8 : w7.cell? ⟨b, 8, none⟩ = some (.int .i64 0) := hF.cell 8 rfl
  have f9 : w7.cell? ⟨b, 9, none⟩ = some (.slice none 0 0) := hF.cell 9 rfl
  have f10 : w7.cell? ⟨b, 10, none⟩ = some (.int .i64 0) := hF.cell 10 rfl
  have f11 : w7.cell? ⟨b, 11, none⟩ = some (.int .i64 0) := hF.cell 11 rfl
  have f12 : w7.cell? ⟨b, 12, none⟩ = some (.string ⟨#[]⟩) := hF.cell 12 rfl
  have hfr := fun i => hF.free i
  have z0 : w7.cell? ⟨z, 0, none⟩ = some (.int .i64 0) := hZ.cell 0 rfl
  have z1 : w7.cell? ⟨z, 1, none⟩ = some (.int .i64 0) := hZ.cell 1 rfl
  have z2 : w7.cell? ⟨z, 2, none⟩ = some (.int .i64 0) := hZ.cell 2 rfl
  have z3 : w7.cell? ⟨z, 3, none⟩ = some (.string ⟨#[]⟩) := hZ.cell 3 rfl
  have z4 : w7.cell? ⟨z, 4, none⟩ = some (.bool false) := hZ.cell 4 rfl
  have z5 : w7.cell? ⟨z, 5, none⟩ = some (.int .i64 0) := hZ.cell 5 rfl
  have z6 : w7.cell? ⟨z, 6, none⟩ = some (.int .i64 0) := hZ.cell 6 rfl
  have z7 : w7.cell? ⟨z, 7, none⟩ = some (.bool false) := hZ.cell 7 rfl
  have z8 : w7.cell? ⟨z, 8, none⟩ = some (.int .i64 0) := hZ.cell 8 rfl
  have z9 : w7.cell? ⟨z, 9, none⟩ = some (.slice none 0 0) := hZ.cell 9 rfl
  have z10 : w7.cell? ⟨z, 10, none⟩ = some (.int .i64 0) := hZ.cell 10 rfl
  have z11 : w7.cell? ⟨z, 11, none⟩ = some (.int .i64 0) := hZ.cell 11 rfl
  have z12 : w7.cell? ⟨z, 12, none⟩ = some (.string ⟨#[]⟩) := hZ.cell 12 rfl
  have hfz := fun i => hZ.free i
  go_wp2_with fail
  have hA7 : At (((((((((((((w7.setCell ⟨z, 0, none⟩ (.int .i64 8)).setCell ⟨z, 1, none⟩ (.int .i64 pa)).setCell ⟨z, 2, none⟩ (.int .i64 x1)).setCell ⟨z, 3, none⟩ (.string (strB (few s)))).setCell ⟨z, 4, none⟩ (.bool fin)).setCell ⟨z, 5, none⟩ (.int .i64 0)).setCell ⟨z, 6, none⟩ (.int .i64 0)).setCell ⟨z, 7, none⟩ (.bool false)).setCell ⟨z, 8, none⟩ (.int .i64 0)).setCell ⟨z, 9, none⟩ (.slice none 0 0)).setCell ⟨z, 10, none⟩ (.int .i64 0)).setCell ⟨z, 11, none⟩ (.int .i64 0)).setCell ⟨z, 12, none⟩ (.string ⟨#[]⟩)) z 33 #[.int .i64 8, .int .i64 pa, .int .i64 x1, .string (strB (few s)), .bool fin, .int .i64 0, .int .i64 0, .bool false, .int .i64 0, .slice none 0 0, .int .i64 0, .int .i64 0, .string ⟨#[]⟩] := (((((((((((((hZ.set 0 (.int .i64 8) rfl).set 1 (.int .i64 pa) rfl).set 2 (.int .i64 x1) rfl).set 3 (.string (strB (few s))) rfl).set 4 (.bool fin) rfl).set 5 (.int .i64 0) rfl).set 6 (.int .i64 0) rfl).set 7 (.bool false) rfl).set 8 (.int .i64 0) rfl).set 9 (.slice none 0 0) rfl).set 10 (.int .i64 0) rfl).set 11 (.int .i64 0) rfl).set 12 (.string ⟨#[]⟩) rfl).same (by simp only [List.setIfInBounds_toArray, List.set_cons_zero, List.set_cons_succ])
  have hO7 : Only [] w (((((((((((((w7.setCell ⟨z, 0, none⟩ (.int .i64 8)).setCell ⟨z, 1, none⟩ (.int .i64 pa)).setCell ⟨z, 2, none⟩ (.int .i64 x1)).setCell ⟨z, 3, none⟩ (.string (strB (few s)))).setCell ⟨z, 4, none⟩ (.bool fin)).setCell ⟨z, 5, none⟩ (.int .i64 0)).setCell ⟨z, 6, none⟩ (.int .i64 0)).setCell ⟨z, 7, none⟩ (.bool false)).setCell ⟨z, 8, none⟩ (.int .i64 0)).setCell ⟨z, 9, none⟩ (.slice none 0 0)).setCell ⟨z, 10, none⟩ (.int .i64 0)).setCell ⟨z, 11, none⟩ (.int .i64 0)).setCell ⟨z, 12, none⟩ (.string ⟨#[]⟩)) := (((((((((((((hO.putn (g := z) (i := 0) HN.out.2.2.2 (.int .i64 8)).putn (g := z) (i := 1) HN.out.2.2.2 (.int .i64 pa)).putn (g := z) (i := 2) HN.out.2.2.2 (.int .i64 x1)).putn (g := z) (i := 3) HN.out.2.2.2 (.string (strB (few s)))).putn (g := z) (i := 4) HN.out.2.2.2 (.bool fin)).putn (g := z) (i := 5) HN.out.2.2.2 (.int .i64 0)).putn (g := z) (i := 6) HN.out.2.2.2 (.int .i64 0)).putn (g := z) (i := 7) HN.out.2.2.2 (.bool false)).putn (g := z) (i := 8) HN.out.2.2.2 (.int .i64 0)).putn (g := z) (i := 9) HN.out.2.2.2 (.slice none 0 0)).putn (g := z) (i := 10) HN.out.2.2.2 (.int .i64 0)).putn (g := z) (i := 11) HN.out.2.2.2 (.int .i64 0)).putn (g := z) (i := 12) HN.out.2.2.2 (.string ⟨#[]⟩))
  clear z0 z1 z2 z3 z4 z5 z6 z7 z8 z9 z10 z11 z12 hfz
  clear c0 c1 c2 c3 c4 c5 c6 f0 f1 f2 f3 f4 f5 f6 f7 f8 f9 f10 f11 f12 hfr
  generalize (((((((((((((w7.setCell ⟨z, 0, none⟩ (.int .i64 8)).setCell ⟨z, 1, none⟩ (.int .i64 pa)).setCell ⟨z, 2, none⟩ (.int .i64 x1)).setCell ⟨z, 3, none⟩ (.string (strB (few s)))).setCell ⟨z, 4, none⟩ (.bool fin)).setCell ⟨z, 5, none⟩ (.int .i64 0)).setCell ⟨z, 6, none⟩ (.int .i64 0)).setCell ⟨z, 7, none⟩ (.bool false)).setCell ⟨z, 8, none⟩ (.int .i64 0)).setCell ⟨z, 9, none⟩ (.slice none 0 0)).setCell ⟨z, 10, none⟩ (.int .i64 0)).setCell ⟨z, 11, none⟩ (.int .i64 0)).setCell ⟨z, 12, none⟩ (.string ⟨#[]⟩)) = w9 at hA7 hO7 ⊢
  have y0 : w9.cell? ⟨z, 0, none⟩ = some (.int .i64 8) := hA7.cell 0 rfl
  have y1 : w9.cell? ⟨z, 1, none⟩ = some (.int .i64 pa) := hA7.cell 1 rfl
  have y2 : w9.cell? ⟨z, 2, none⟩ = some (.int .i64 x1) := hA7.cell 2 rfl
  have y3 : w9.cell? ⟨z, 3, none⟩ = some (.string (strB (few s))) := hA7.cell 3 rfl
  have y4 : w9.cell? ⟨z, 4, none⟩ = some (.bool fin) := hA7.cell 4 rfl
  have y5 : w9.cell? ⟨z, 5, none⟩ = some (.int .i64 0) := hA7.cell 5 rfl
  have y6 : w9.cell? ⟨z, 6, none⟩ = some (.int .i64 0) := hA7.cell 6 rfl
  have y7 : w9.cell? ⟨z, 7, none⟩ = some (.bool false) := hA7.cell 7 rfl
  have y8 : w9.cell? ⟨z, 8, none⟩ = some (.int .i64 0) := hA7.cell 8 rfl
  have y9 : w9.cell? ⟨z, 9, none⟩ = some (.slice none 0 0) := hA7.cell 9 rfl
  have y10 : w9.cell? ⟨z, 10, none⟩ = some (.int .i64 0) := hA7.cell 10 rfl
  have y11 : w9.cell? ⟨z, 11, none⟩ = some (.int .i64 0) := hA7.cell 11 rfl
  have y12 : w9.cell? ⟨z, 12, none⟩ = some (.string ⟨#[]⟩) := hA7.cell 12 rfl
  refine ⟨rfl, .agg #[.int .i64 8, .int .i64 pa, .int .i64 x1, .string (strB (few s)), .bool fin, .int .i64 0, .int .i64 0, .bool false, .int .i64 0, .slice none 0 0, .int .i64 0, .int .i64 0, .string ⟨#[]⟩], ?_, ?_⟩
  · simp [results, Try.f24, go_sem, y0, y1, y2, y3, y4, y5, y6, y7, y8, y9, y10, y11, y12]
  · have hPA := HPA.out
    have hPB := HPB.out
    have hX1 := HX1.out
    subst hPA
    subst hPB
    subst hX1
    exact FfQ.plain (genF 8 A B C (few s) fin [(0, 1)]) rfl rfl hO7 rfl
set_option maxRecDepth 100000 in
set_option maxHeartbeats 4000000 in
theorem ff_8 (ty A B C : Int) (s : ByteArray) (fin : Bool) (sv : Value) (SL : List (Int × Int)) (w : World) (hS : RgAt w sv SL) (h1 : -9223372036854775808 ≤ ty ∧ ty ≤ 9223372036854775807) (h2 : -9223372036854775808 ≤ A ∧ A ≤ 9223372036854775807) (h3 : -9223372036854775808 ≤ B ∧ B ≤ 9223372036854775807) (h4 : -9223372036854775808 ≤ C ∧ C ≤ 9223372036854775807) (h5 : s.size ≤ 9223372036854775807) (hj : pkZ ty 21 = 8) :
    Calls Try.prog 24 #[.agg (fpC ty A B C s fin sv)] w (FfQ 16 A B C s fin w) := by
  unfold fpC
  have hp0 := fun ww => pk9 ty 21 ww h1.1 h1.2 (by omega)
  rw [hj] at hp0
  obtain ⟨sa, sc, rfl, hss⟩ := hS
  have HS : Hid (RgAt w (.slice sa SL.length sc) SL) := Lib.hid ⟨sa, sc, rfl, hss⟩
  clear hss
  obtain ⟨pa, hpa⟩ : ∃ pa, pkZ A 4611686018427387904 = pa := ⟨_, rfl⟩
  obtain ⟨pb, hpb⟩ : ∃ pb, pkZ B 4611686018427387904 = pb := ⟨_, rfl⟩
  have hp1 := fun ww => pk9 A 4611686018427387904 ww h2.1 h2.2 (by omega)
  have hp2 := fun ww => pk9 B 4611686018427387904 ww h3.1 h3.2 (by omega)
  have ba := pkZ_bd A 4611686018427387904 (by omega)
  have bb := pkZ_bd B 4611686018427387904 (by omega)
  rw [hpa] at hp1 ba
  rw [hpb] at hp2 bb
  have HPA := Lib.hid hpa
  have HPB := Lib.hid hpb
  clear hpa hpb hj
  go_enter Try.func24, Try.ntmps24
  go_upto_region 2 with fail
  have hP := ((At.new w 46 #[.int .i64 ty, .int .i64 A, .int .i64 B, .int .i64 C, .string s, .bool fin, .slice sa SL.length sc]).alloc (.cells #[.int .i64 0, .int .i64 0, .int .i64 0, .string ⟨#[]⟩, .bool false, .int .i64 0, .int .i64 0, .bool false, .int .i64 0, .slice none 0 0, .int .i64 0, .int .i64 0, .string ⟨#[]⟩] 33)).alloc (.cells #[.int .i64 0, .int .i64 1, .int .i64 2, .int .i64 4, .int .i64 5, .int .i64 6, .int .i64 7, .int .i64 8, .int .i64 16, .int .i64 17, .int .i64 18, .int .i64 20, .int .i64 21, .int .i64 22, .int .i64 24, .int .i64 25, .int .i64 26, .int .i64 27, .int .i64 28, .int .i64 29, .int .i64 30] 3)
  have hZ := (At.new (w.alloc (.cells #[.int .i64 ty, .int .i64 A, .int .i64 B, .int .i64 C, .string s, .bool fin, .slice sa SL.length sc] 46)) 33 #[.int .i64 0, .int .i64 0, .int .i64 0, .string ⟨#[]⟩, .bool false, .int .i64 0, .int .i64 0, .bool false, .int .i64 0, .slice none 0 0, .int .i64 0, .int .i64 0, .string ⟨#[]⟩]).alloc (.cells #[.int .i64 0, .int .i64 1, .int .i64 2, .int .i64 4, .int .i64 5, .int .i64 6, .int .i64 7, .int .i64 8, .int .i64 16, .int .i64 17, .int .i64 18, .int .i64 20, .int .i64 21, .int .i64 22, .int .i64 24, .int .i64 25, .int .i64 26, .int .i64 27, .int .i64 28, .int .i64 29, .int .i64 30] 3)
  have hT := At.new ((w.alloc (.cells #[.int .i64 ty, .int .i64 A, .int .i64 B, .int .i64 C, .string s, .bool fin, .slice sa SL.length sc] 46)).alloc (.cells #[.int .i64 0, .int .i64 0, .int .i64 0, .string ⟨#[]⟩, .bool false, .int .i64 0, .int .i64 0, .bool false, .int .i64 0, .slice none 0 0, .int .i64 0, .int .i64 0, .string ⟨#[]⟩] 33)) 3 #[.int .i64 0, .int .i64 1, .int .i64 2, .int .i64 4, .int .i64 5, .int .i64 6, .int .i64 7, .int .i64 8, .int .i64 16, .int .i64 17, .int .i64 18, .int .i64 20, .int .i64 21, .int .i64 22, .int .i64 24, .int .i64 25, .int .i64 26, .int .i64 27, .int .i64 28, .int .i64 29, .int .i64 30]
  have hO := (((Only.refl [] w).alloc (.cells #[.int .i64 ty, .int .i64 A, .int .i64 B, .int .i64 C, .string s, .bool fin, .slice sa SL.length sc] 46)).alloc (.cells #[.int .i64 0, .int .i64 0, .int .i64 0, .string ⟨#[]⟩, .bool false, .int .i64 0, .int .i64 0, .bool false, .int .i64 0, .slice none 0 0, .int .i64 0, .int .i64 0, .string ⟨#[]⟩] 33)).alloc (.cells #[.int .i64 0, .int .i64 1, .int .i64 2, .int .i64 4, .int .i64 5, .int .i64 6, .int .i64 7, .int .i64 8, .int .i64 16, .int .i64 17, .int .i64 18, .int .i64 20, .int .i64 21, .int .i64 22, .int .i64 24, .int .i64 25, .int .i64 26, .int .i64 27, .int .i64 28, .int .i64 29, .int .i64 30] 3)
  rw [World.size_alloc] at hZ
  rw [World.size_alloc, World.size_alloc] at hT
  generalize ((w.alloc (.cells #[.int .i64 ty, .int .i64 A, .int .i64 B, .int .i64 C, .string s, .bool fin, .slice sa SL.length sc] 46)).alloc (.cells #[.int .i64 0, .int .i64 0, .int .i64 0, .string ⟨#[]⟩, .bool false, .int .i64 0, .int .i64 0, .bool false, .int .i64 0, .slice none 0 0, .int .i64 0, .int .i64 0, .string ⟨#[]⟩] 33)).alloc (.cells #[.int .i64 0, .int .i64 1, .int .i64 2, .int .i64 4, .int .i64 5, .int .i64 6, .int .i64 7, .int .i64 8, .int .i64 16, .int .i64 17, .int .i64 18, .int .i64 20, .int .i64 21, .int .i64 22, .int .i64 24, .int .i64 25, .int .i64 26, .int .i64 27, .int .i64 28, .int .i64 29, .int .i64 30] 3) = w2 at hP hZ hT hO ⊢
  obtain ⟨p, hp⟩ : ∃ p, w.heap.size = p := ⟨_, rfl⟩
  rw [hp] at hP hZ hT ⊢
  have hpz := hp
  obtain ⟨z, hz⟩ : ∃ z, p + 1 = z := ⟨_, rfl⟩
  rw [hz] at hZ hT ⊢
  have c0 : w2.cell? ⟨p, 0, none⟩ = some (.int .i64 ty) := hP.cell 0 rfl
  have t0 : w2.cell? ⟨z + 1, 8, none⟩ = some (.int .i64 16) := hT.cell 8 rfl
  clear hT
  go_wp2_with fail
  refine (hp0 _).mono ?_
  rintro e w3 ⟨rfl, rfl⟩
  go_upto_region 3 with fail
  replace hP := hP.alloc (.cells #[.int .i64 16, .int .i64 0, .int .i64 0, .string ⟨#[]⟩, .bool false, .int .i64 0, .int .i64 0, .bool false, .int .i64 0, .slice none 0 0, .int .i64 0, .int .i64 0, .string ⟨#[]⟩] 33)
  replace hZ := hZ.alloc (.cells #[.int .i64 16, .int .i64 0, .int .i64 0, .string ⟨#[]⟩, .bool false, .int .i64 0, .int .i64 0, .bool false, .int .i64 0, .slice none 0 0, .int .i64 0, .int .i64 0, .string ⟨#[]⟩] 33)
  have hF := At.new w2 33 #[.int .i64 16, .int .i64 0, .int .i64 0, .string ⟨#[]⟩, .bool false, .int .i64 0, .int .i64 0, .bool false, .int .i64 0, .slice none 0 0, .int .i64 0, .int .i64 0, .string ⟨#[]⟩]
  have hbz : w.heap.size ≤ w2.heap.size := hO.size
  have hpl : p < w2.heap.size ∧ z < w2.heap.size := ⟨by have := hZ.lt; have := hP.lt; have := World.block_lt_of_cell? _ _ c0; exact this, by have := World.block_lt_of_cell? _ _ t0; simp at this; omega⟩
  replace hO := hO.alloc (.cells #[.int .i64 16, .int .i64 0, .int .i64 0, .string ⟨#[]⟩, .bool false, .int .i64 0, .int .i64 0, .bool false, .int .i64 0, .slice none 0 0, .int .i64 0, .int .i64 0, .string ⟨#[]⟩] 33)
  clear c0 t0 hp0
  generalize w2.alloc (.cells #[.int .i64 16, .int .i64 0, .int .i64 0, .string ⟨#[]⟩, .bool false, .int .i64 0, .int .i64 0, .bool false, .int .i64 0, .slice none 0 0, .int .i64 0, .int .i64 0, .string ⟨#[]⟩] 33) = w3 at hP hZ hF hO ⊢
  obtain ⟨b, hb⟩ : ∃ b, w2.heap.size = b := ⟨_, rfl⟩
  rw [hb] at hF hbz hpl ⊢
  have HN : Hid (p ≠ b ∧ z ≠ b ∧ w.heap.size ≤ b ∧ w.heap.size ≤ z) := Lib.hid ⟨by omega, by omega, hbz, by omega⟩
  clear hb hpl hz hbz
  have c0 : w3.cell? ⟨p, 0, none⟩ = some (.int .i64 ty) := hP.cell 0 rfl
  have c1 : w3.cell? ⟨p, 1, none⟩ = some (.int .i64 A) := hP.cell 1 rfl
  have c2 : w3.cell? ⟨p, 2, none⟩ = some (.int .i64 B) := hP.cell 2 rfl
  have c3 : w3.cell? ⟨p, 3, none⟩ = some (.int .i64 C) := hP.cell 3 rfl
  have c4 : w3.cell? ⟨p, 4, none⟩ = some (.string s) := hP.cell 4 rfl
  have c5 : w3.cell? ⟨p, 5, none⟩ = some (.bool fin) := hP.cell 5 rfl
  have c6 : w3.cell? ⟨p, 6, none⟩ = some (.slice sa SL.length sc) := hP.cell 6 rfl
  have f0 : w3.cell? ⟨b, 0, none⟩ = some (.int .i64 16) := hF.cell 0 rfl
  have f1 : w3.cell? ⟨b, 1, none⟩ = some (.int .i64 0) := hF.cell 1 rfl
  have f2 : w3.cell? ⟨b, 2, none⟩ = some (.int .i64 0) := hF.cell 2 rfl
  have f3 : w3.cell? ⟨b, 3, none⟩ = some (.string ⟨#[]⟩) := hF.cell 3 rfl
  have f4 : w3.cell? ⟨b, 4, none⟩ = some (.bool false) := hF.cell 4 rfl
  have f5 : w3.cell? ⟨b, 5, none⟩ = some (.int .i64 0) := hF.cell 5 rfl
  have f6 : w3.cell? ⟨b, 6, none⟩ = some (.int .i64 0) := hF.cell 6 rfl
  have f7 : w3.cell? ⟨b, 7, none⟩ = some (.bool false) := hF.cell 7 rfl
  have f8 : w3.cell? ⟨b, 8, none⟩ = some (.int .i64 0) := hF.cell 8 rfl
  have f9 : w3.cell? ⟨b, 9, none⟩ = some (.slice none 0 0) := hF.cell 9 rfl
  have f10 : w3.cell? ⟨b, 10, none⟩ = some (.int .i64 0) := hF.cell 10 rfl
  have f11 : w3.cell? ⟨b, 11, none⟩ = some (.int .i64 0) := hF.cell 11 rfl
  have f12 : w3.cell? ⟨b, 12, none⟩ = some (.string ⟨#[]⟩) := hF.cell 12 rfl
  have hfr := fun i => hF.free i
  have em : min (s.size : Int) 60 = ((min s.size 60 : Nat) : Int) := by omega
  have ex : s.extract 0 (min s.size 60) = strB (few s) := few_str s _ rfl
  go_wp2_with fail
  refine (hp1 _).mono ?_
  rintro e wx ⟨rfl, rfl⟩
  go_wp2_with fail
  refine (hp2 _).mono ?_
  rintro e wx ⟨rfl, rfl⟩
  go_upto_region 51 with fail
  clear c0 c1 c2 c3 c4 c5 c6 f0 f1 f2 f3 f4 f5 f6 f7 f8 f9 f10 f11 f12 hfr
  replace hP := hP.far (p := ⟨b, 5, none⟩) HN.out.1 (.int .i64 pa)
  replace hZ := hZ.far (p := ⟨b, 5, none⟩) HN.out.2.1 (.int .i64 pa)
  replace hF := hF.set 5 (.int .i64 pa) (cs' := #[.int .i64 16, .int .i64 0, .int .i64 0, .string ⟨#[]⟩, .bool false, .int .i64 pa, .int .i64 0, .bool false, .int .i64 0, .slice none 0 0, .int .i64 0, .int .i64 0, .string ⟨#[]⟩]) rfl
  replace hO := hO.putn (g := b) (i := 5) HN.out.2.2.1 (.int .i64 pa)
  generalize w3.setCell ⟨b, 5, none⟩ (.int .i64 pa) = w4 at hP hZ hF hO ⊢
  have c0 : w4.cell? ⟨p, 0, none⟩ = some (.int .i64 ty) := hP.cell 0 rfl
  have c1 : w4.cell? ⟨p, 1, none⟩ = some (.int .i64 A) := hP.cell 1 rfl
  have c2 : w4.cell? ⟨p, 2, none⟩ = some (.int .i64 B) := hP.cell 2 rfl
  have c3 : w4.cell? ⟨p, 3, none⟩ = some (.int .i64 C) := hP.cell 3 rfl
  have c4 : w4.cell? ⟨p, 4, none⟩ = some (.string s) := hP.cell 4 rfl
  have c5 : w4.cell? ⟨p, 5, none⟩ = some (.bool fin) := hP.cell 5 rfl
  have c6 : w4.cell? ⟨p, 6, none⟩ = some (.slice sa SL.length sc) := hP.cell 6 rfl
  have f0 : w4.cell? ⟨b, 0, none⟩ = some (.int .i64 16) := hF.cell 0 rfl
  have f1 : w4.cell? ⟨b, 1, none⟩ = some (.int .i64 0) := hF.cell 1 rfl
  have f2 : w4.cell? ⟨b, 2, none⟩ = some (.int .i64 0) := hF.cell 2 rfl
  have f3 : w4.cell? ⟨b, 3, none⟩ = some (.string ⟨#[]⟩) := hF.cell 3 rfl
  have f4 : w4.cell? ⟨b, 4, none⟩ = some (.bool false) := hF.cell 4 rfl
  have f5 : w4.cell? ⟨b, 5, none⟩ = some (.int .i64 pa) := hF.cell 5 rfl
  have f6 : w4.cell? ⟨b, 6, none⟩ = some (.int .i64 0) := hF.cell 6 rfl
  have f7 : w4.cell? ⟨b, 7, none⟩ = some (.bool false) := hF.cell 7 rfl
  have f8 : w4.cell? ⟨b, 8, none⟩ = some (.int .i64 0) := hF.cell 8 rfl
  have f9 : w4.cell? ⟨b, 9, none⟩ = some (.slice none 0 0) := hF.cell 9 rfl
  have f10 : w4.cell? ⟨b, 10, none⟩ = some (.int .i64 0) := hF.cell 10 rfl
  have f11 : w4.cell? ⟨b, 11, none⟩ = some (.int .i64 0) := hF.cell 11 rfl
  have f12 : w4.cell? ⟨b, 12, none⟩ = some (.string ⟨#[]⟩) := hF.cell 12 rfl
  have hfr := fun i => hF.free i
  have z0 : w4.cell? ⟨z, 0, none⟩ = some (.int .i64 0) := hZ.cell 0 rfl
  have z1 : w4.cell? ⟨z, 1, none⟩ = some (.int .i64 0) := hZ.cell 1 rfl
  have z2 : w4.cell? ⟨z, 2, none⟩ = some (.int .i64 0) := hZ.cell 2 rfl
  have z3 : w4.cell? ⟨z, 3, none⟩ = some (.string ⟨#[]⟩) := hZ.cell 3 rfl
  have z4 : w4.cell? ⟨z, 4, none⟩ = some (.bool false) := hZ.cell 4 rfl
  have z5 : w4.cell? ⟨z, 5, none⟩ = some (.int .i64 0) := hZ.cell 5 rfl
  have z6 : w4.cell? ⟨z, 6, none⟩ = some (.int .i64 0) := hZ.cell 6 rfl
  have z7 : w4.cell? ⟨z, 7, none⟩ = some (.bool false) := hZ.cell 7 rfl
  have z8 : w4.cell? ⟨z, 8, none⟩ = some (.int .i64 0) := hZ.cell 8 rfl
  have z9 : w4.cell? ⟨z, 9, none⟩ = some (.slice none 0 0) := hZ.cell 9 rfl
  have z10 : w4.cell? ⟨z, 10, none⟩ = some (.int .i64 0) := hZ.cell 10 rfl
  have z11 : w4.cell? ⟨z, 11, none⟩ = some (.int .i64 0) := hZ.cell 11 rfl
  have z12 : w4.cell? ⟨z, 12, none⟩ = some (.string ⟨#[]⟩) := hZ.cell 12 rfl
  have hfz := fun i => hZ.free i
  go_wp2_with fail
  have hA7 : At (((((((((((((w4.setCell ⟨z, 0, none⟩ (.int .i64 16)).setCell ⟨z, 1, none⟩ (.int .i64 0)).setCell ⟨z, 2, none⟩ (.int .i64 0)).setCell ⟨z, 3, none⟩ (.string ⟨#[]⟩)).setCell ⟨z, 4, none⟩ (.bool false)).setCell ⟨z, 5, none⟩ (.int .i64 pa)).setCell ⟨z, 6, none⟩ (.int .i64 0)).setCell ⟨z, 7, none⟩ (.bool false)).setCell ⟨z, 8, none⟩ (.int .i64 0)).setCell ⟨z, 9, none⟩ (.slice none 0 0)).setCell ⟨z, 10, none⟩ (.int .i64 0)).setCell ⟨z, 11, none⟩ (.int .i64 0)).setCell ⟨z, 12, none⟩ (.string ⟨#[]⟩)) z 33 #[.int .i64 16, .int .i64 0, .int .i64 0, .string ⟨#[]⟩, .bool false, .int .i64 pa, .int .i64 0, .bool false, .int .i64 0, .slice none 0 0, .int .i64 0, .int .i64 0, .string ⟨#[]⟩] := (((((((((((((hZ.set 0 (.int .i64 16) rfl).set 1 (.int .i64 0) rfl).set 2 (.int .i64 0) rfl).set 3 (.string ⟨#[]⟩) rfl).set 4 (.bool false) rfl).set 5 (.int .i64 pa) rfl).set 6 (.int .i64 0) rfl).set 7 (.bool false) rfl).set 8 (.int .i64 0) rfl).set 9 (.slice none 0 0) rfl).set 10 (.int .i64 0) rfl).set 11 (.int .i64 0) rfl).set 12 (.string ⟨#[]⟩) rfl).same (by simp only [List.setIfInBounds_toArray, List.set_cons_zero, List.set_cons_succ])
  have hO7 : Only [] w (((((((((((((w4.setCell ⟨z, 0, none⟩ (.int .i64 16)).setCell ⟨z, 1, none⟩ (.int .i64 0)).setCell ⟨z, 2, none⟩ (.int .i64 0)).setCell ⟨z, 3, none⟩ (.string ⟨#[]⟩)).setCell ⟨z, 4, none⟩ (.bool false)).setCell ⟨z, 5, none⟩ (.int .i64 pa)).setCell ⟨z, 6, none⟩ (.int .i64 0)).setCell ⟨z, 7, none⟩ (.bool false)).setCell ⟨z, 8, none⟩ (.int .i64 0)).setCell ⟨z, 9, none⟩ (.slice none 0 0)).setCell ⟨z, 10, none⟩ (.int .i64 0)).setCell ⟨z, 11, none⟩ (.int .i64 0)).setCell ⟨z, 12, none⟩ (.string ⟨#[]⟩)) := (((((((((((((hO.putn (g := z) (i := 0) HN.out.2.2.2 (.int .i64 16)).putn (g := z) (i := 1) HN.out.2.2.2 (.int .i64 0)).putn (g := z) (i := 2) HN.out.2.2.2 (.int .i64 0)).putn (g := z) (i := 3) HN.out.2.2.2 (.string ⟨#[]⟩)).putn (g := z) (i := 4) HN.out.2.2.2 (.bool false)).putn (g := z) (i := 5) HN.out.2.2.2 (.int .i64 pa)).putn (g := z) (i := 6) HN.out.2.2.2 (.int .i64 0)).putn (g := z) (i := 7) HN.out.2.2.2 (.bool false)).putn (g := z) (i := 8) HN.out.2.2.2 (.int .i64 0)).putn (g := z) (i := 9) HN.out.2.2.2 (.slice none 0 0)).putn (g := z) (i := 10) HN.out.2.2.2 (.int .i64 0)).putn (g := z) (i := 11) HN.out.2.2.2 (.int .i64 0)).putn (g := z) (i := 12) HN.out.2.2.2 (.string ⟨#[]⟩))
  clear z0 z1 z2 z3 z4 z5 z6 z7 z8 z9 z10 z11 z12 hfz
  clear c0 c1 c2 c3 c4 c5 c6 f0 f1 f2 f3 f4 f5 f6 f7 f8 f9 f10 f11 f12 hfr
  generalize (((((((((((((w4.setCell ⟨z, 0, none⟩ (.int .i64 16)).setCell ⟨z, 1, none⟩ (.int .i64 0)).setCell ⟨z, 2, none⟩ (.int .i64 0)).setCell ⟨z, 3, none⟩ (.string ⟨#[]⟩)).setCell ⟨z, 4, none⟩ (.bool false)).setCell ⟨z, 5, none⟩ (.int .i64 pa)).setCell ⟨z, 6, none⟩ (.int .i64 0)).setCell ⟨z, 7, none⟩ (.bool false)).setCell ⟨z, 8, none⟩ (.int .i64 0)).setCell ⟨z, 9, none⟩ (.slice none 0 0)).setCell ⟨z, 10, none⟩ (.int .i64 0)).setCell ⟨z, 11, none⟩ (.int .i64 0)).setCell ⟨z, 12, none⟩ (.string ⟨#[]⟩)) = w9 at hA7 hO7 ⊢
  have y0 : w9.cell? ⟨z, 0, none⟩ = some (.int .i64 16) := hA7.cell 0 rfl
  have y1 : w9.cell? ⟨z, 1, none⟩ = some (.int .i64 0) := hA7.cell 1 rfl
  have y2 : w9.cell? ⟨z, 2, none⟩ = some (.int .i64 0) := hA7.cell 2 rfl
  have y3 : w9.cell? ⟨z, 3, none⟩ = some (.string ⟨#[]⟩) := hA7.cell 3 rfl
  have y4 : w9.cell? ⟨z, 4, none⟩ = some (.bool false) := hA7.cell 4 rfl
  have y5 : w9.cell? ⟨z, 5, none⟩ = some (.int .i64 pa) := hA7.cell 5 rfl
  have y6 : w9.cell? ⟨z, 6, none⟩ = some (.int .i64 0) := hA7.cell 6 rfl
  have y7 : w9.cell? ⟨z, 7, none⟩ = some (.bool false) := hA7.cell 7 rfl
  have y8 : w9.cell? ⟨z, 8, none⟩ = some (.int .i64 0) := hA7.cell 8 rfl
  have y9 : w9.cell? ⟨z, 9, none⟩ = some (.slice none 0 0) := hA7.cell 9 rfl
  have y10 : w9.cell? ⟨z, 10, none⟩ = some (.int .i64 0) := hA7.cell 10 rfl
  have y11 : w9.cell? ⟨z, 11, none⟩ = some (.int .i64 0) := hA7.cell 11 rfl
  have y12 : w9.cell? ⟨z, 12, none⟩ = some (.string ⟨#[]⟩) := hA7.cell 12 rfl
  refine ⟨rfl, .agg #[.int .i64 16, .int .i64 0, .int .i64 0, .string ⟨#[]⟩, .bool false, .int .i64 pa, .int .i64 0, .bool false, .int .i64 0, .slice none 0 0, .int .i64 0, .int .i64 0, .string ⟨#[]⟩], ?_, ?_⟩
  · simp [results, Try.f24, go_sem, y0, y1, y2, y3, y4, y5, y6, y7, y8, y9, y10, y11, y12]
  · have hPA := HPA.out
    have hPB := HPB.out
    subst hPA
    subst hPB
    exact FfQ.plain (genF 16 A B C (few s) fin [(0, 1)]) rfl rfl hO7 rfl
set_option maxRecDepth 100000 in
set_option maxHeartbeats 4000000 in
theorem ff_9 (ty A B C : Int) (s : ByteArray) (fin : Bool) (sv : Value) (SL : List (Int × Int)) (w : World) (hS : RgAt w sv SL) (h1 : -9223372036854775808 ≤ ty ∧ ty ≤ 9223372036854775807) (h2 : -9223372036854775808 ≤ A ∧ A ≤ 9223372036854775807) (h3 : -9223372036854775808 ≤ B ∧ B ≤ 9223372036854775807) (h4 : -9223372036854775808 ≤ C ∧ C ≤ 9223372036854775807) (h5 : s.size ≤ 9223372036854775807) (hj : pkZ ty 21 = 9) :
    Calls Try.prog 24 #[.agg (fpC ty A B C s fin sv)] w (FfQ 17 A B C s fin w) := by
  unfold fpC
  have hp0 := fun ww => pk9 ty 21 ww h1.1 h1.2 (by omega)
  rw [hj] at hp0
  obtain ⟨sa, sc, rfl, hss⟩ := hS
  have HS : Hid (RgAt w (.slice sa SL.length sc) SL) := Lib.hid ⟨sa, sc, rfl, hss⟩
  clear hss
  obtain ⟨pa, hpa⟩ : ∃ pa, pkZ A 4611686018427387904 = pa := ⟨_, rfl⟩
  obtain ⟨pb, hpb⟩ : ∃ pb, pkZ B 4611686018427387904 = pb := ⟨_, rfl⟩
  have hp1 := fun ww => pk9 A 4611686018427387904 ww h2.1 h2.2 (by omega)
  have hp2 := fun ww => pk9 B 4611686018427387904 ww h3.1 h3.2 (by omega)
  have ba := pkZ_bd A 4611686018427387904 (by omega)
  have bb := pkZ_bd B 4611686018427387904 (by omega)
  rw [hpa] at hp1 ba
  rw [hpb] at hp2 bb
  have HPA := Lib.hid hpa
  have HPB := Lib.hid hpb
  clear hpa hpb hj
  go_enter Try.func24, Try.ntmps24
  go_upto_region 2 with fail
  have hP := ((At.new w 46 #[.int .i64 ty, .int .i64 A, .int .i64 B, .int .i64 C, .string s, .bool fin, .slice sa SL.length sc]).alloc (.cells #[.int .i64 0, .int .i64 0, .int .i64 0, .string ⟨#[]⟩, .bool false, .int .i64 0, .int .i64 0, .bool false, .int .i64 0, .slice none 0 0, .int .i64 0, .int .i64 0, .string ⟨#[]⟩] 33)).alloc (.cells #[.int .i64 0, .int .i64 1, .int .i64 2, .int .i64 4, .int .i64 5, .int .i64 6, .int .i64 7, .int .i64 8, .int .i64 16, .int .i64 17, .int .i64 18, .int .i64 20, .int .i64 21, .int .i64 22, .int .i64 24, .int .i64 25, .int .i64 26, .int .i64 27, .int .i64 28, .int .i64 29, .int .i64 30] 3)
  have hZ := (At.new (w.alloc (.cells #[.int .i64 ty, .int .i64 A, .int .i64 B, .int .i64 C, .string s, .bool fin, .slice sa SL.length sc] 46)) 33 #[.int .i64 0, .int .i64 0, .int .i64 0, .string ⟨#[]⟩, .bool false, .int .i64 0, .int .i64 0, .bool false, .int .i64 0, .slice none 0 0, .int .i64 0, .int .i64 0, .string ⟨#[]⟩]).alloc (.cells #[.int .i64 0, .int .i64 1, .int .i64 2, .int .i64 4, .int .i64 5, .int .i64 6, .int .i64 7, .int .i64 8, .int .i64 16, .int .i64 17, .int .i64 18, .int .i64 20, .int .i64 21, .int .i64 22, .int .i64 24, .int .i64 25, .int .i64 26, .int .i64 27, .int .i64 28, .int .i64 29, .int .i64 30] 3)
  have hT := At.new ((w.alloc (.cells #[.int .i64 ty, .int .i64 A, .int .i64 B, .int .i64 C, .string s, .bool fin, .slice sa SL.length sc] 46)).alloc (.cells #[.int .i64 0, .int .i64 0, .int .i64 0, .string ⟨#[]⟩, .bool false, .int .i64 0, .int .i64 0, .bool false, .int .i64 0, .slice none 0 0, .int .i64 0, .int .i64 0, .string ⟨#[]⟩] 33)) 3 #[.int .i64 0, .int .i64 1, .int .i64 2, .int .i64 4, .int .i64 5, .int .i64 6, .int .i64 7, .int .i64 8, .int .i64 16, .int .i64 17, .int .i64 18, .int .i64 20, .int .i64 21, .int .i64 22, .int .i64 24, .int .i64 25, .int .i64 26, .int .i64 27, .int .i64 28, .int .i64 29, .int .i64 30]
  have hO := (((Only.refl [] w).alloc (.cells #[.int .i64 ty, .int .i64 A, .int .i64 B, .int .i64 C, .string s, .bool fin, .slice sa SL.length sc] 46)).alloc (.cells #[.int .i64 0, .int .i64 0, .int .i64 0, .string ⟨#[]⟩, .bool false, .int .i64 0, .int .i64 0, .bool false, .int .i64 0, .slice none 0 0, .int .i64 0, .int .i64 0, .string ⟨#[]⟩] 33)).alloc (.cells #[.int .i64 0, .int .i64 1, .int .i64 2, .int .i64 4, .int .i64 5, .int .i64 6, .int .i64 7, .int .i64 8, .int .i64 16, .int .i64 17, .int .i64 18, .int .i64 20, .int .i64 21, .int .i64 22, .int .i64 24, .int .i64 25, .int .i64 26, .int .i64 27, .int .i64 28, .int .i64 29, .int .i64 30] 3)
  rw [World.size_alloc] at hZ
  rw [World.size_alloc, World.size_alloc] at hT
  generalize ((w.alloc (.cells #[.int .i64 ty, .int .i64 A, .int .i64 B, .int .i64 C, .string s, .bool fin, .slice sa SL.length sc] 46)).alloc (.cells #[.int .i64 0, .int .i64 0, .int .i64 0, .string ⟨#[]⟩, .bool false, .int .i64 0, .int .i64 0, .bool false, .int .i64 0, .slice none 0 0, .int .i64 0, .int .i64 0, .string ⟨#[]⟩] 33)).alloc (.cells #[.int .i64 0, .int .i64 1, .int .i64 2, .int .i64 4, .int .i64 5, .int .i64 6, .int .i64 7, .int .i64 8, .int .i64 16, .int .i64 17, .int .i64 18, .int .i64 20, .int .i64 21, .int .i64 22, .int .i64 24, .int .i64 25, .int .i64 26, .int .i64 27, .int .i64 28, .int .i64 29, .int .i64 30] 3) = w2 at hP hZ hT hO ⊢
  obtain ⟨p, hp⟩ : ∃ p, w.heap.size = p := ⟨_, rfl⟩
  rw [hp] at hP hZ hT ⊢
  have hpz := hp
  obtain ⟨z, hz⟩ : ∃ z, p + 1 = z := ⟨_, rfl⟩
  rw [hz] at hZ hT ⊢
  have c0 : w2.cell? ⟨p, 0, none⟩ = some (.int .i64 ty) := hP.cell 0 rfl
  have t0 : w2.cell? ⟨z + 1, 9, none⟩ = some (.int .i64 17) := hT.cell 9 rfl
  clear hT
  go_wp2_with fail
  refine (hp0 _).mono ?_
  rintro e w3 ⟨rfl, rfl⟩
  go_upto_region 3 with fail
  replace hP := hP.alloc (.cells #[.int .i64 17, .int .i64 0, .int .i64 0, .string ⟨#[]⟩, .bool false, .int .i64 0, .int .i64 0, .bool false, .int .i64 0, .slice none 0 0, .int .i64 0, .int .i64 0, .string ⟨#[]⟩] 33)
  replace hZ := hZ.alloc (.cells #[.int .i64 17, .int .i64 0, .int .i64 0, .string ⟨#[]⟩, .bool false, .int .i64 0, .int .i64 0, .bool false, .int .i64 0, .slice none 0 0, .int .i64 0, .int .i64 0, .string ⟨#[]⟩] 33)
  have hF := At.new w2 33 #[.int .i64 17, .int .i64 0, .int .i64 0, .string ⟨#[]⟩, .bool false, .int .i64 0, .int .i64 0, .bool false, .int .i64 0, .slice none 0 0, .int .i64 0, .int .i64 0, .string ⟨#[]⟩]
  have hbz : w.heap.size ≤ w2.heap.size := hO.size
  have hpl : p < w2.heap.size ∧ z < w2.heap.size := ⟨by have := hZ.lt; have := hP.lt; have := World.block_lt_of_cell? _ _ c0; exact this, by have := World.block_lt_of_cell? _ _ t0; simp at this; omega⟩
  replace hO := hO.alloc (.cells #[.int .i64 17, .int .i64 0, .int .i64 0, .string ⟨#[]⟩, .bool false, .int .i64 0, .int .i64 0, .bool false, .int .i64 0, .slice none 0 0, .int .i64 0, .int .i64 0, .string ⟨#[]⟩] 33)
  clear c0 t0 hp0
  generalize w2.alloc (.cells #[.int .i64 17, .int .i64 0, .int .i64 0, .string ⟨#[]⟩, .bool false, .int .i64 0, .int .i64 0, .bool false, .int .i64 0, .slice none 0 0, .int .i64 0, .int .i64 0, .string ⟨#[]⟩] 33) = w3 at hP hZ hF hO ⊢
  obtain ⟨b, hb⟩ : ∃ b, w2.heap.size = b := ⟨_, rfl⟩
  rw [hb] at hF hbz hpl ⊢
  have HN : Hid (p ≠ b ∧ z ≠ b ∧ w.heap.size ≤ b ∧ w.heap.size ≤ z) := Lib.hid ⟨by omega, by omega, hbz, by omega⟩
  clear hb hpl hz hbz
  have c0 : w3.cell? ⟨p, 0, none⟩ = some (.int .i64 ty) := hP.cell 0 rfl
  have c1 : w3.cell? ⟨p, 1, none⟩ = some (.int .i64 A) := hP.cell 1 rfl
  have c2 : w3.cell? ⟨p, 2, none⟩ = some (.int .i64 B) := hP.cell 2 rfl
  have c3 : w3.cell? ⟨p, 3, none⟩ = some (.int .i64 C) := hP.cell 3 rfl
  have c4 : w3.cell? ⟨p, 4, none⟩ = some (.string s) := hP.cell 4 rfl
  have c5 : w3.cell? ⟨p, 5, none⟩ = some (.bool fin) := hP.cell 5 rfl
  have c6 : w3.cell? ⟨p, 6, none⟩ = some (.slice sa SL.length sc) := hP.cell 6 rfl
  have f0 : w3.cell? ⟨b, 0, none⟩ = some (.int .i64 17) := hF.cell 0 rfl
  have f1 : w3.cell? ⟨b, 1, none⟩ = some (.int .i64 0) := hF.cell 1 rfl
  have f2 : w3.cell? ⟨b, 2, none⟩ = some (.int .i64 0) := hF.cell 2 rfl
  have f3 : w3.cell? ⟨b, 3, none⟩ = some (.string ⟨#[]⟩) := hF.cell 3 rfl
  have f4 : w3.cell? ⟨b, 4, none⟩ = some (.bool false) := hF.cell 4 rfl
  have f5 : w3.cell? ⟨b, 5, none⟩ = some (.int .i64 0) := hF.cell 5 rfl
  have f6 : w3.cell? ⟨b, 6, none⟩ = some (.int .i64 0) := hF.cell 6 rfl
  have f7 : w3.cell? ⟨b, 7, none⟩ = some (.bool false) := hF.cell 7 rfl
  have f8 : w3.cell? ⟨b, 8, none⟩ = some (.int .i64 0) := hF.cell 8 rfl
  have f9 : w3.cell? ⟨b, 9, none⟩ = some (.slice none 0 0) := hF.cell 9 rfl
  have f10 : w3.cell? ⟨b, 10, none⟩ = some (.int .i64 0) := hF.cell 10 rfl
  have f11 : w3.cell? ⟨b, 11, none⟩ = some (.int .i64 0) := hF.cell 11 rfl
  have f12 : w3.cell? ⟨b, 12, none⟩ = some (.string ⟨#[]⟩) := hF.cell 12 rfl
  have hfr := fun i => hF.free i
  have em : min (s.size : Int) 60 = ((min s.size 60 : Nat) : Int) := by omega
  have ex : s.extract 0 (min s.size 60) = strB (few s) := few_str s _ rfl
  go_wp2_with fail
  refine (hp1 _).mono ?_
  rintro e wx ⟨rfl, rfl⟩
  go_wp2_with fail
  refine (hp2 _).mono ?_
  rintro e wx ⟨rfl, rfl⟩
  go_upto_region 33 with fail
  clear c0 c1 c2 c3 c4 c5 c6 f0 f1 f2 f3 f4 f5 f6 f7 f8 f9 f10 f11 f12 hfr
  replace hP := hP.far (p := ⟨b, 1, none⟩) HN.out.1 (.int .i64 pa)
  replace hZ := hZ.far (p := ⟨b, 1, none⟩) HN.out.2.1 (.int .i64 pa)
  replace hF := hF.set 1 (.int .i64 pa) (cs' := #[.int .i64 17, .int .i64 pa, .int .i64 0, .string ⟨#[]⟩, .bool false, .int .i64 0, .int .i64 0, .bool false, .int .i64 0, .slice none 0 0, .int .i64 0, .int .i64 0, .string ⟨#[]⟩]) rfl
  replace hO := hO.putn (g := b) (i := 1) HN.out.2.2.1 (.int .i64 pa)
  generalize w3.setCell ⟨b, 1, none⟩ (.int .i64 pa) = w4 at hP hZ hF hO ⊢
  have c0 : w4.cell? ⟨p, 0, none⟩ = some (.int .i64 ty) := hP.cell 0 rfl
  have c1 : w4.cell? ⟨p, 1, none⟩ = some (.int .i64 A) := hP.cell 1 rfl
  have c2 : w4.cell? ⟨p, 2, none⟩ = some (.int .i64 B) := hP.cell 2 rfl
  have c3 : w4.cell? ⟨p, 3, none⟩ = some (.int .i64 C) := hP.cell 3 rfl
  have c4 : w4.cell? ⟨p, 4, none⟩ = some (.string s) := hP.cell 4 rfl
  have c5 : w4.cell? ⟨p, 5, none⟩ = some (.bool fin) := hP.cell 5 rfl
  have c6 : w4.cell? ⟨p, 6, none⟩ = some (.slice sa SL.length sc) := hP.cell 6 rfl
  have f0 : w4.cell? ⟨b, 0, none⟩ = some (.int .i64 17) := hF.cell 0 rfl
  have f1 : w4.cell? ⟨b, 1, none⟩ = some (.int .i64 pa) := hF.cell 1 rfl
  have f2 : w4.cell? ⟨b, 2, none⟩ = some (.int .i64 0) := hF.cell 2 rfl
  have f3 : w4.cell? ⟨b, 3, none⟩ = some (.string ⟨#[]⟩) := hF.cell 3 rfl
  have f4 : w4.cell? ⟨b, 4, none⟩ = some (.bool false) := hF.cell 4 rfl
  have f5 : w4.cell? ⟨b, 5, none⟩ = some (.int .i64 0) := hF.cell 5 rfl
  have f6 : w4.cell? ⟨b, 6, none⟩ = some (.int .i64 0) := hF.cell 6 rfl
  have f7 : w4.cell? ⟨b, 7, none⟩ = some (.bool false) := hF.cell 7 rfl
  have f8 : w4.cell? ⟨b, 8, none⟩ = some (.int .i64 0) := hF.cell 8 rfl
  have f9 : w4.cell? ⟨b, 9, none⟩ = some (.slice none 0 0) := hF.cell 9 rfl
  have f10 : w4.cell? ⟨b, 10, none⟩ = some (.int .i64 0) := hF.cell 10 rfl
  have f11 : w4.cell? ⟨b, 11, none⟩ = some (.int .i64 0) := hF.cell 11 rfl
  have f12 : w4.cell? ⟨b, 12, none⟩ = some (.string ⟨#[]⟩) := hF.cell 12 rfl
  have hfr := fun i => hF.free i
  go_upto_region 51 with fail
  clear c0 c1 c2 c3 c4 c5 c6 f0 f1 f2 f3 f4 f5 f6 f7 f8 f9 f10 f11 f12 hfr
  replace hP := hP.far (p := ⟨b, 5, none⟩) HN.out.1 (.int .i64 pb)
  replace hZ := hZ.far (p := ⟨b, 5, none⟩) HN.out.2.1 (.int .i64 pb)
  replace hF := hF.set 5 (.int .i64 pb) (cs' := #[.int .i64 17, .int .i64 pa, .int .i64 0, .string ⟨#[]⟩, .bool false, .int .i64 pb, .int .i64 0, .bool false, .int .i64 0, .slice none 0 0, .int .i64 0, .int .i64 0, .string ⟨#[]⟩]) rfl
  replace hO := hO.putn (g := b) (i := 5) HN.out.2.2.1 (.int .i64 pb)
  generalize w4.setCell ⟨b, 5, none⟩ (.int .i64 pb) = w5 at hP hZ hF hO ⊢
  have c0 : w5.cell? ⟨p, 0, none⟩ = some (.int .i64 ty) := hP.cell 0 rfl
  have c1 : w5.cell? ⟨p, 1, none⟩ = some (.int .i64 A) := hP.cell 1 rfl
  have c2 : w5.cell? ⟨p, 2, none⟩ = some (.int .i64 B) := hP.cell 2 rfl
  have c3 : w5.cell? ⟨p, 3, none⟩ = some (.int .i64 C) := hP.cell 3 rfl
  have c4 : w5.cell? ⟨p, 4, none⟩ = some (.string s) := hP.cell 4 rfl
  have c5 : w5.cell? ⟨p, 5, none⟩ = some (.bool fin) := hP.cell 5 rfl
  have c6 : w5.cell? ⟨p, 6, none⟩ = some (.slice sa SL.length sc) := hP.cell 6 rfl
  have f0 : w5.cell? ⟨b, 0, none⟩ = some (.int .i64 17) := hF.cell 0 rfl
  have f1 : w5.cell? ⟨b, 1, none⟩ = some (.int .i64 pa) := hF.cell 1 rfl
  have f2 : w5.cell? ⟨b, 2, none⟩ = some (.int .i64 0) := hF.cell 2 rfl
  have f3 : w5.cell? ⟨b, 3, none⟩ = some (.string ⟨#[]⟩) := hF.cell 3 rfl
  have f4 : w5.cell? ⟨b, 4, none⟩ = some (.bool false) := hF.cell 4 rfl
  have f5 : w5.cell? ⟨b, 5, none⟩ = some (.int .i64 pb) := hF.cell 5 rfl
  have f6 : w5.cell? ⟨b, 6, none⟩ = some (.int .i64 0) := hF.cell 6 rfl
  have f7 : w5.cell? ⟨b, 7, none⟩ = some (.bool false) := hF.cell 7 rfl
  have f8 : w5.cell? ⟨b, 8, none⟩ = some (.int .i64 0) := hF.cell 8 rfl
  have f9 : w5.cell? ⟨b, 9, none⟩ = some (.slice none 0 0) := hF.cell 9 rfl
  have f10 : w5.cell? ⟨b, 10, none⟩ = some (.int .i64 0) := hF.cell 10 rfl
  have f11 : w5.cell? ⟨b, 11, none⟩ = some (.int .i64 0) := hF.cell 11 rfl
  have f12 : w5.cell? ⟨b, 12, none⟩ = some (.string ⟨#[]⟩) := hF.cell 12 rfl
  have hfr := fun i => hF.free i
  have z0 : w5.cell? ⟨z, 0, none⟩ = some (.int .i64 0) := hZ.cell 0 rfl
  have z1 : w5.cell? ⟨z, 1, none⟩ = some (.int .i64 0) := hZ.cell 1 rfl
  have z2 : w5.cell? ⟨z, 2, none⟩ = some (.int .i64 0) := hZ.cell 2 rfl
  have z3 : w5.cell? ⟨z, 3, none⟩ = some (.string ⟨#[]⟩) := hZ.cell 3 rfl
  have z4 : w5.cell? ⟨z, 4, none⟩ = some (.bool false) := hZ.cell 4 rfl
  have z5 : w5.cell? ⟨z, 5, none⟩ = some (.int .i64 0) := hZ.cell 5 rfl
  have z6 : w5.cell? ⟨z, 6, none⟩ = some (.int .i64 0) := hZ.cell 6 rfl
  have z7 : w5.cell? ⟨z, 7, none⟩ = some (.bool false) := hZ.cell 7 rfl
  have z8 : w5.cell? ⟨z, 8, none⟩ = some (.int .i64 0) := hZ.cell 8 rfl
  have z9 : w5.cell? ⟨z, 9, none⟩ = some (.slice none 0 0) := hZ.cell 9 rfl
  have z10 : w5.cell? ⟨z, 10, none⟩ = some (.int .i64 0) := hZ.cell 10 rfl
  have z11 : w5.cell? ⟨z, 11, none⟩ = some (.int .i64 0) := hZ.cell 11 rfl
  have z12 : w5.cell? ⟨z, 12, none⟩ = some (.string ⟨#[]⟩) := hZ.cell 12 rfl
  have hfz := fun i => hZ.free i
  go_wp2_with fail
  have hA7 : At (((((((((((((w5.setCell ⟨z, 0, none⟩ (.int .i64 17)).setCell ⟨z, 1, none⟩ (.int .i64 pa)).setCell ⟨z, 2, none⟩ (.int .i64 0)).setCell ⟨z, 3, none⟩ (.string ⟨#[]⟩)).setCell ⟨z, 4, none⟩ (.bool false)).setCell ⟨z, 5, none⟩ (.int .i64 pb)).setCell ⟨z, 6, none⟩ (.int .i64 0)).setCell ⟨z, 7, none⟩ (.bool false)).setCell ⟨z, 8, none⟩ (.int .i64 0)).setCell ⟨z, 9, none⟩ (.slice none 0 0)).setCell ⟨z, 10, none⟩ (.int .i64 0)).setCell ⟨z, 11, none⟩ (.int .i64 0)).setCell ⟨z, 12, none⟩ (.string ⟨#[]⟩)) z 33 #[.int .i64 17, .int .i64 pa, .int .i64 0, .string ⟨#[]⟩, .bool false, .int .i64 pb, .int .i64 0, .bool false, .int .i64 0, .slice none 0 0, .int .i64 0, .int .i64 0, .string ⟨#[]⟩] := (((((((((((((hZ.set 0 (.int .i64 17) rfl).set 1 (.int .i64 pa) rfl).set 2 (.int .i64 0) rfl).set 3 (.string ⟨#[]⟩) rfl).set 4 (.bool false) rfl).set 5 (.int .i64 pb) rfl).set 6 (.int .i64 0) rfl).set 7 (.bool false) rfl).set 8 (.int .i64 0) rfl).set 9 (.slice none 0 0) rfl).set 10 (.int .i64 0) rfl).set 11 (.int .i64 0) rfl).set 12 (.string ⟨#[]⟩) rfl).same (by simp only [List.setIfInBounds_toArray, List.set_cons_zero, List.set_cons_succ])
  have hO7 : Only [] w (((((((((((((w5.setCell ⟨z, 0, none⟩ (.int .i64 17)).setCell ⟨z, 1, none⟩ (.int .i64 pa)).setCell ⟨z, 2, none⟩ (.int .i64 0)).setCell ⟨z, 3, none⟩ (.string ⟨#[]⟩)).setCell ⟨z, 4, none⟩ (.bool false)).setCell ⟨z, 5, none⟩ (.int .i64 pb)).setCell ⟨z, 6, none⟩ (.int .i64 0)).setCell ⟨z, 7, none⟩ (.bool false)).setCell ⟨z, 8, none⟩ (.int .i64 0)).setCell ⟨z, 9, none⟩ (.slice none 0 0)).setCell ⟨z, 10, none⟩ (.int .i64 0)).setCell ⟨z, 11, none⟩ (.int .i64 0)).setCell ⟨z, 12, none⟩ (.string ⟨#[]⟩)) := (((((((((((((hO.putn (g := z) (i := 0) HN.out.2.2.2 (.int .i64 17)).putn (g := z) (i := 1) HN.out.2.2.2 (.int .i64 pa)).putn (g := z) (i := 2) HN.out.2.2.2 (.int .i64 0)).putn (g := z) (i := 3) HN.out.2.2.2 (.string ⟨#[]⟩)).putn (g := z) (i := 4) HN.out.2.2.2 (.bool false)).putn (g := z) (i := 5) HN.out.2.2.2 (.int .i64 pb)).putn (g := z) (i := 6) HN.out.2.2.2 (.int .i64 0)).putn (g := z) (i := 7) HN.out.2.2.2 (.bool false)).putn (g := z) (i := 8) HN.out.2.2.2 (.int .i64 0)).putn (g := z) (i := 9) HN.out.2.2.2 (.slice none 0 0)).putn (g := z) (i := 10) HN.out.2.2.2 (.int .i64 0)).putn (g := z) (i := 11) HN.out.2.2.2 (.int .i64 0)).putn (g := z) (i := 12) HN.out.2.2.2 (.string ⟨#[]⟩))
  clear z0 z1 z2 z3 z4 z5 z6 z7 z8 z9 z10 z11 z12 hfz
  clear c0 c1 c2 c3 c4 c5 c6 f0 f1 f2 f3 f4 f5 f6 f7 f8 f9 f10 f11 f12 hfr
  generalize (((((((((((((w5.setCell ⟨z, 0, none⟩ (.int .i64 17)).setCell ⟨z, 1, none⟩ (.int .i64 pa)).setCell ⟨z, 2, none⟩ (.int .i64 0)).setCell ⟨z, 3, none⟩ (.string ⟨#[]⟩)).setCell ⟨z, 4, none⟩ (.bool false)).setCell ⟨z, 5, none⟩ (.int .i64 pb)).setCell ⟨z, 6, none⟩ (.int .i64 0)).setCell ⟨z, 7, none⟩ (.bool false)).setCell ⟨z, 8, none⟩ (.int .i64 0)).setCell ⟨z, 9, none⟩ (.slice none 0 0)).setCell ⟨z, 10, none⟩ (.int .i64 0)).setCell ⟨z, 11, none⟩ (.int .i64 0)).setCell ⟨z, 12, none⟩ (.string ⟨#[]⟩)) = w9 at hA7 hO7 ⊢
  have y0 : w9.cell? ⟨z, 0, none⟩ = some (.int .i64 17) := hA7.cell 0 rfl
  have y1 : w9.cell? ⟨z, 1, none⟩ = some (.int .i64 pa) := hA7.cell 1 rfl
  have y2 : w9.cell? ⟨z, 2, none⟩ = some (.int .i64 0) := hA7.cell 2 rfl
  have y3 : w9.cell? ⟨z, 3, none⟩ = some (.string ⟨#[]⟩) := hA7.cell 3 rfl
  have y4 : w9.cell? ⟨z, 4, none⟩ = some (.bool false) := hA7.cell 4 rfl
  have y5 : w9.cell? ⟨z, 5, none⟩ = some (.int .i64 pb) := hA7.cell 5 rfl
  have y6 : w9.cell? ⟨z, 6, none⟩ = some (.int .i64 0) := hA7.cell 6 rfl
  have y7 : w9.cell? ⟨z, 7, none⟩ = some (.bool false) := hA7.cell 7 rfl
  have y8 : w9.cell? ⟨z, 8, none⟩ = some (.int .i64 0) := hA7.cell 8 rfl
  have y9 : w9.cell? ⟨z, 9, none⟩ = some (.slice none 0 0) := hA7.cell 9 rfl
  have y10 : w9.cell? ⟨z, 10, none⟩ = some (.int .i64 0) := hA7.cell 10 rfl
  have y11 : w9.cell? ⟨z, 11, none⟩ = some (.int .i64 0) := hA7.cell 11 rfl
  have y12 : w9.cell? ⟨z, 12, none⟩ = some (.string ⟨#[]⟩) := hA7.cell 12 rfl
  refine ⟨rfl, .agg #[.int .i64 17, .int .i64 pa, .int .i64 0, .string ⟨#[]⟩, .bool false, .int .i64 pb, .int .i64 0, .bool false, .int .i64 0, .slice none 0 0, .int .i64 0, .int .i64 0, .string ⟨#[]⟩], ?_, ?_⟩
  · simp [results, Try.f24, go_sem, y0, y1, y2, y3, y4, y5, y6, y7, y8, y9, y10, y11, y12]
  · have hPA := HPA.out
    have hPB := HPB.out
    subst hPA
    subst hPB
    exact FfQ.plain (genF 17 A B C (few s) fin [(0, 1)]) rfl rfl hO7 rfl
set_option maxRecDepth 100000 in
set_option maxHeartbeats 4000000 in
theorem ff_10 (ty A B C : Int) (s : ByteArray) (fin : Bool) (sv : Value) (SL : List (Int × Int)) (w : World) (hS : RgAt w sv SL) (h1 : -9223372036854775808 ≤ ty ∧ ty ≤ 9223372036854775807) (h2 : -9223372036854775808 ≤ A ∧ A ≤ 9223372036854775807) (h3 : -9223372036854775808 ≤ B ∧ B ≤ 9223372036854775807) (h4 : -9223372036854775808 ≤ C ∧ C ≤ 9223372036854775807) (h5 : s.size ≤ 9223372036854775807) (hj : pkZ ty 21 = 10) :
    Calls Try.prog 24 #[.agg (fpC ty A B C s fin sv)] w (FfQ 18 A B C s fin w) := by
  unfold fpC
  have hp0 := fun ww => pk9 ty 21 ww h1.1 h1.2 (by omega)
  rw [hj] at hp0
  obtain ⟨sa, sc, rfl, hss⟩ := hS
  have HS : Hid (RgAt w (.slice sa SL.length sc) SL) := Lib.hid ⟨sa, sc, rfl, hss⟩
  clear hss
  obtain ⟨pa, hpa⟩ : ∃ pa, pkZ A 4611686018427387904 = pa := ⟨_, rfl⟩
  obtain ⟨pb, hpb⟩ : ∃ pb, pkZ B 4611686018427387904 = pb := ⟨_, rfl⟩
  have hp1 := fun ww => pk9 A 4611686018427387904 ww h2.1 h2.2 (by omega)
  have hp2 := fun ww => pk9 B 4611686018427387904 ww h3.1 h3.2 (by omega)
  have ba := pkZ_bd A 4611686018427387904 (by omega)
  have bb := pkZ_bd B 4611686018427387904 (by omega)
  rw [hpa] at hp1 ba
  rw [hpb] at hp2 bb
  have HPA := Lib.hid hpa
  have HPB := Lib.hid hpb
  clear hpa hpb hj
  go_enter Try.func24, Try.ntmps24
  go_upto_region 2 with fail
  have hP := ((At.new w 46 #[.int .i64 ty, .int .i64 A, .int .i64 B, .int .i64 C, .string s, .bool fin, .slice sa SL.length sc]).alloc (.cells #[.int .i64 0, .int .i64 0, .int .i64 0, .string ⟨#[]⟩, .bool false, .int .i64 0, .int .i64 0, .bool false, .int .i64 0, .slice none 0 0, .int .i64 0, .int .i64 0, .string ⟨#[]⟩] 33)).alloc (.cells #[.int .i64 0, .int .i64 1, .int .i64 2, .int .i64 4, .int .i64 5, .int .i64 6, .int .i64 7, .int .i64 8, .int .i64 16, .int .i64 17, .int .i64 18, .int .i64 20, .int .i64 21, .int .i64 22, .int .i64 24, .int .i64 25, .int .i64 26, .int .i64 27, .int .i64 28, .int .i64 29, .int .i64 30] 3)
  have hZ := (At.new (w.alloc (.cells #[.int .i64 ty, .int .i64 A, .int .i64 B, .int .i64 C, .string s, .bool fin, .slice sa SL.length sc] 46)) 33 #[.int .i64 0, .int .i64 0, .int .i64 0, .string ⟨#[]⟩, .bool false, .int .i64 0, .int .i64 0, .bool false, .int .i64 0, .slice none 0 0, .int .i64 0, .int .i64 0, .string ⟨#[]⟩]).alloc (.cells #[.int .i64 0, .int .i64 1, .int .i64 2, .int .i64 4, .int .i64 5, .int .i64 6, .int .i64 7, .int .i64 8, .int .i64 16, .int .i64 17, .int .i64 18, .int .i64 20, .int .i64 21, .int .i64 22, .int .i64 24, .int .i64 25, .int .i64 26, .int .i64 27, .int .i64 28, .int .i64 29, .int .i64 30] 3)
  have hT := At.new ((w.alloc (.cells #[.int .i64 ty, .int .i64 A, .int .i64 B, .int .i64 C, .string s, .bool fin, .slice sa SL.length sc] 46)).alloc (.cells #[.int .i64 0, .int .i64 0, .int .i64 0, .string ⟨#[]⟩, .bool false, .int .i64 0, .int .i64 0, .bool false, .int .i64 0, .slice none 0 0, .int .i64 0, .int .i64 0, .string ⟨#[]⟩] 33)) 3 #[.int .i64 0, .int .i64 1, .int .i64 2, .int .i64 4, .int .i64 5, .int .i64 6, .int .i64 7, .int .i64 8, .int .i64 16, .int .i64 17, .int .i64 18, .int .i64 20, .int .i64 21, .int .i64 22, .int .i64 24, .int .i64 25, .int .i64 26, .int .i64 27, .int .i64 28, .int .i64 29, .int .i64 30]
  have hO := (((Only.refl [] w).alloc (.cells #[.int .i64 ty, .int .i64 A, .int .i64 B, .int .i64 C, .string s, .bool fin, .slice sa SL.length sc] 46)).alloc (.cells #[.int .i64 0, .int .i64 0, .int .i64 0, .string ⟨#[]⟩, .bool false, .int .i64 0, .int .i64 0, .bool false, .int .i64 0, .slice none 0 0, .int .i64 0, .int .i64 0, .string ⟨#[]⟩] 33)).alloc (.cells #[.int .i64 0, .int .i64 1, .int .i64 2, .int .i64 4, .int .i64 5, .int .i64 6, .int .i64 7, .int .i64 8, .int .i64 16, .int .i64 17, .int .i64 18, .int .i64 20, .int .i64 21, .int .i64 22, .int .i64 24, .int .i64 25, .int .i64 26, .int .i64 27, .int .i64 28, .int .i64 29, .int .i64 30] 3)
  rw [World.size_alloc] at hZ
  rw [World.size_alloc, World.size_alloc] at hT
  generalize ((w.alloc (.cells #[.int .i64 ty, .int .i64 A, .int .i64 B, .int .i64 C, .string s, .bool fin, .slice sa SL.length sc] 46)).alloc (.cells #[.int .i64 0, .int .i64 0, .int .i64 0, .string ⟨#[]⟩, .bool false, .int .i64 0, .int .i64 0, .bool false, .int .i64 0, .slice none 0 0, .int .i64 0, .int .i64 0, .string ⟨#[]⟩] 33)).alloc (.cells #[.int .i64 0, .int .i64 1, .int .i64 2, .int .i64 4, .int .i64 5, .int .i64 6, .int .i64 7, .int .i64 8, .int .i64 16, .int .i64 17, .int .i64 18, .int .i64 20, .int .i64 21, .int .i64 22, .int .i64 24, .int .i64 25, .int .i64 26, .int .i64 27, .int .i64 28, .int .i64 29, .int .i64 30] 3) = w2 at hP hZ hT hO ⊢
  obtain ⟨p, hp⟩ : ∃ p, w.heap.size = p := ⟨_, rfl⟩
  rw [hp] at hP hZ hT ⊢
  have hpz := hp
  obtain ⟨z, hz⟩ : ∃ z, p + 1 = z := ⟨_, rfl⟩
  rw [hz] at hZ hT ⊢
  have c0 : w2.cell? ⟨p, 0, none⟩ = some (.int .i64 ty) := hP.cell 0 rfl
  have t0 : w2.cell? ⟨z + 1, 10, none⟩ = some (.int .i64 18) := hT.cell 10 rfl
  clear hT
  go_wp2_with fail
  refine (hp0 _).mono ?_
  rintro e w3 ⟨rfl, rfl⟩
  go_upto_region 3 with fail
  replace hP := hP.alloc (.cells #[.int .i64 18, .int .i64 0, .int .i64 0, .string ⟨#[]⟩, .bool false, .int .i64 0, .int .i64 0, .bool false, .int .i64 0, .slice none 0 0, .int .i64 0, .int .i64 0, .string ⟨#[]⟩] 33)
  replace hZ := hZ.alloc (.cells #[.int .i64 18, .int .i64 0, .int .i64 0, .string ⟨#[]⟩, .bool false, .int .i64 0, .int .i64 0, .bool false, .int .i64 0, .slice none 0 0, .int .i64 0, .int .i64 0, .string ⟨#[]⟩] 33)
  have hF := At.new w2 33 #[.int .i64 18, .int .i64 0, .int .i64 0, .string ⟨#[]⟩, .bool false, .int .i64 0, .int .i64 0, .bool false, .int .i64 0, .slice none 0 0, .int .i64 0, .int .i64 0, .string ⟨#[]⟩]
  have hbz : w.heap.size ≤ w2.heap.size := hO.size
  have hpl : p < w2.heap.size ∧ z < w2.heap.size := ⟨by have := hZ.lt; have := hP.lt; have := World.block_lt_of_cell? _ _ c0; exact this, by have := World.block_lt_of_cell? _ _ t0; simp at this; omega⟩
  replace hO := hO.alloc (.cells #[.int .i64 18, .int .i64 0, .int .i64 0, .string ⟨#[]⟩, .bool false, .int .i64 0, .int .i64 0, .bool false, .int .i64 0, .slice none 0 0, .int .i64 0, .int .i64 0, .string ⟨#[]⟩] 33)
  clear c0 t0 hp0
  generalize w2.alloc (.cells #[.int .i64 18, .int .i64 0, .int .i64 0, .string ⟨#[]⟩, .bool false, .int .i64 0, .int .i64 0, .bool false, .int .i64 0, .slice none 0 0, .int .i64 0, .int .i64 0, .string ⟨#[]⟩] 33) = w3 at hP hZ hF hO ⊢
  obtain ⟨b, hb⟩ : ∃ b, w2.heap.size = b := ⟨_, rfl⟩
  rw [hb] at hF hbz hpl ⊢
  have HN : Hid (p ≠ b ∧ z ≠ b ∧ w.heap.size ≤ b ∧ w.heap.size ≤ z) := Lib.hid ⟨by omega, by omega, hbz, by omega⟩
  clear hb hpl hz hbz
  have c0 : w3.cell? ⟨p, 0, none⟩ = some (.int .i64 ty) := hP.cell 0 rfl
  have c1 : w3.cell? ⟨p, 1, none⟩ = some (.int .i64 A) := hP.cell 1 rfl
  have c2 : w3.cell? ⟨p, 2, none⟩ = some (.int .i64 B) := hP.cell 2 rfl
  have c3 : w3.cell? ⟨p, 3, none⟩ = some (.int .i64 C) := hP.cell 3 rfl
  have c4 : w3.cell? ⟨p, 4, none⟩ = some (.string s) := hP.cell 4 rfl
  have c5 : w3.cell? ⟨p, 5, none⟩ = some (.bool fin) := hP.cell 5 rfl
  have c6 : w3.cell? ⟨p, 6, none⟩ = some (.slice sa SL.length sc) := hP.cell 6 rfl
  have f0 : w3.cell? ⟨b, 0, none⟩ = some (.int .i64 18) := hF.cell 0 rfl
  have f1 : w3.cell? ⟨b, 1, none⟩ = some (.int .i64 0) := hF.cell 1 rfl
  have f2 : w3.cell? ⟨b, 2, none⟩ = some (.int .i64 0) := hF.cell 2 rfl
  have f3 : w3.cell? ⟨b, 3, none⟩ = some (.string ⟨#[]⟩) := hF.cell 3 rfl
  have f4 : w3.cell? ⟨b, 4, none⟩ = some (.bool false) := hF.cell 4 rfl
  have f5 : w3.cell? ⟨b, 5, none⟩ = some (.int .i64 0) := hF.cell 5 rfl
  have f6 : w3.cell? ⟨b, 6, none⟩ = some (.int .i64 0) := hF.cell 6 rfl
  have f7 : w3.cell? ⟨b, 7, none⟩ = some (.bool false) := hF.cell 7 rfl
  have f8 : w3.cell? ⟨b, 8, none⟩ = some (.int .i64 0) := hF.cell 8 rfl
  have f9 : w3.cell? ⟨b, 9, none⟩ = some (.slice none 0 0) := hF.cell 9 rfl
  have f10 : w3.cell? ⟨b, 10, none⟩ = some (.int .i64 0) := hF.cell 10 rfl
  have f11 : w3.cell? ⟨b, 11, none⟩ = some (.int .i64 0) := hF.cell 11 rfl
  have f12 : w3.cell? ⟨b, 12, none⟩ = some (.string ⟨#[]⟩) := hF.cell 12 rfl
  have hfr := fun i => hF.free i
  have em : min (s.size : Int) 60 = ((min s.size 60 : Nat) : Int) := by omega
  have ex : s.extract 0 (min s.size 60) = strB (few s) := few_str s _ rfl
  go_wp2_with fail
  refine (hp1 _).mono ?_
  rintro e wx ⟨rfl, rfl⟩
  go_wp2_with fail
  refine (hp2 _).mono ?_
  rintro e wx ⟨rfl, rfl⟩
  go_upto_region 37 with fail
  clear c0 c1 c2 c3 c4 c5 c6 f0 f1 f2 f3 f4 f5 f6 f7 f8 f9 f10 f11 f12 hfr
  replace hP := hP.far (p := ⟨b, 7, none⟩) HN.out.1 (.bool fin)
  replace hZ := hZ.far (p := ⟨b, 7, none⟩) HN.out.2.1 (.bool fin)
  replace hF := hF.set 7 (.bool fin) (cs' := #[.int .i64 18, .int .i64 0, .int .i64 0, .string ⟨#[]⟩, .bool false, .int .i64 0, .int .i64 0, .bool fin, .int .i64 0, .slice none 0 0, .int .i64 0, .int .i64 0, .string ⟨#[]⟩]) rfl
  replace hO := hO.putn (g := b) (i := 7) HN.out.2.2.1 (.bool fin)
  generalize w3.setCell ⟨b, 7, none⟩ (.bool fin) = w4 at hP hZ hF hO ⊢
  have c0 : w4.cell? ⟨p, 0, none⟩ = some (.int .i64 ty) := hP.cell 0 rfl
  have c1 : w4.cell? ⟨p, 1, none⟩ = some (.int .i64 A) := hP.cell 1 rfl
  have c2 : w4.cell? ⟨p, 2, none⟩ = some (.int .i64 B) := hP.cell 2 rfl
  have c3 : w4.cell? ⟨p, 3, none⟩ = some (.int .i64 C) := hP.cell 3 rfl
  have c4 : w4.cell? ⟨p, 4, none⟩ = some (.string s) := hP.cell 4 rfl
  have c5 : w4.cell? ⟨p, 5, none⟩ = some (.bool fin) := hP.cell 5 rfl
  have c6 : w4.cell? ⟨p, 6, none⟩ = some (.slice sa SL.length sc) := hP.cell 6 rfl
  have f0 : w4.cell? ⟨b, 0, none⟩ = some (.int .i64 18) := hF.cell 0 rfl
  have f1 : w4.cell? ⟨b, 1, none⟩ = some (.int .i64 0) := hF.cell 1 rfl
  have f2 : w4.cell? ⟨b, 2, none⟩ = some (.int .i64 0) := hF.cell 2 rfl
  have f3 : w4.cell? ⟨b, 3, none⟩ = some (.string ⟨#[]⟩) := hF.cell 3 rfl
  have f4 : w4.cell? ⟨b, 4, none⟩ = some (.bool false) := hF.cell 4 rfl
  have f5 : w4.cell? ⟨b, 5, none⟩ = some (.int .i64 0) := hF.cell 5 rfl
  have f6 : w4.cell? ⟨b, 6, none⟩ = some (.int .i64 0) := hF.cell 6 rfl
  have f7 : w4.cell? ⟨b, 7, none⟩ = some (.bool fin) := hF.cell 7 rfl
  have f8 : w4.cell? ⟨b, 8, none⟩ = some (.int .i64 0) := hF.cell 8 rfl
  have f9 : w4.cell? ⟨b, 9, none⟩ = some (.slice none 0 0) := hF.cell 9 rfl
  have f10 : w4.cell? ⟨b, 10, none⟩ = some (.int .i64 0) := hF.cell 10 rfl
  have f11 : w4.cell? ⟨b, 11, none⟩ = some (.int .i64 0) := hF.cell 11 rfl
  have f12 : w4.cell? ⟨b, 12, none⟩ = some (.string ⟨#[]⟩) := hF.cell 12 rfl
  have hfr := fun i => hF.free i
  go_upto_region 51 with fail
  clear c0 c1 c2 c3 c4 c5 c6 f0 f1 f2 f3 f4 f5 f6 f7 f8 f9 f10 f11 f12 hfr
  replace hP := hP.far (p := ⟨b, 5, none⟩) HN.out.1 (.int .i64 pa)
  replace hZ := hZ.far (p := ⟨b, 5, none⟩) HN.out.2.1 (.int .i64 pa)
  replace hF := hF.set 5 (.int .i64 pa) (cs' := #[.int .i64 18, .int .i64 0, .int .i64 0, .string ⟨#[]⟩, .bool false, .int .i64 pa, .int .i64 0, .bool fin, .int .i64 0, .slice none 0 0, .int .i64 0, .int .i64 0, .string ⟨#[]⟩]) rfl
  replace hO := hO.putn (g := b) (i := 5) HN.out.2.2.1 (.int .i64 pa)
  generalize w4.setCell ⟨b, 5, none⟩ (.int .i64 pa) = w5 at hP hZ hF hO ⊢
  have c0 : w5.cell? ⟨p, 0, none⟩ = some (.int .i64 ty) := hP.cell 0 rfl
  have c1 : w5.cell? ⟨p, 1, none⟩ = some (.int .i64 A) := hP.cell 1 rfl
  have c2 : w5.cell? ⟨p, 2, none⟩ = some (.int .i64 B) := hP.cell 2 rfl
  have c3 : w5.cell? ⟨p, 3, none⟩ = some (.int .i64 C) := hP.cell 3 rfl
  have c4 : w5.cell? ⟨p, 4, none⟩ = some (.string s) := hP.cell 4 rfl
  have c5 : w5.cell? ⟨p, 5, none⟩ = some (.bool fin) := hP.cell 5 rfl
  have c6 : w5.cell? ⟨p, 6, none⟩ = some (.slice sa SL.length sc) := hP.cell 6 rfl
  have f0 : w5.cell? ⟨b, 0, none⟩ = some (.int .i64 18) := hF.cell 0 rfl
  have f1 : w5.cell? ⟨b, 1, none⟩ = some (.int .i64 0) := hF.cell 1 rfl
  have f2 : w5.cell? ⟨b, 2, none⟩ = some (.int .i64 0) := hF.cell 2 rfl
  have f3 : w5.cell? ⟨b, 3, none⟩ = some (.string ⟨#[]⟩) := hF.cell 3 rfl
  have f4 : w5.cell? ⟨b, 4, none⟩ = some (.bool false) := hF.cell 4 rfl
  have f5 : w5.cell? ⟨b, 5, none⟩ = some (.int .i64 pa) := hF.cell 5 rfl
  have f6 : w5.cell? ⟨b, 6, none⟩ = some (.int .i64 0) := hF.cell 6 rfl
  have f7 : w5.cell? ⟨b, 7, none⟩ = some (.bool fin) := hF.cell 7 rfl
  have f8 : w5.cell? ⟨b, 8, none⟩ = some (.int .i64 0) := hF.cell 8 rfl
  have f9 : w5.cell? ⟨b, 9, none⟩ = some (.slice none 0 0) := hF.cell 9 rfl
  have f10 : w5.cell? ⟨b, 10, none⟩ = some (.int .i64 0) := hF.cell 10 rfl
  have f11 : w5.cell? ⟨b, 11, none⟩ = some (.int .i64 0) := hF.cell 11 rfl
  have f12 : w5.cell? ⟨b, 12, none⟩ = some (.string ⟨#[]⟩) := hF.cell 12 rfl
  have hfr := fun i => hF.free i
  have z0 : w5.cell? ⟨z, 0, none⟩ = some (.int .i64 0) := hZ.cell 0 rfl
  have z1 : w5.cell? ⟨z, 1, none⟩ = some (.int .i64 0) := hZ.cell 1 rfl
  have z2 : w5.cell? ⟨z, 2, none⟩ = some (.int .i64 0) := hZ.cell 2 rfl
  have z3 : w5.cell? ⟨z, 3, none⟩ = some (.string ⟨#[]⟩) := hZ.cell 3 rfl
  have z4 : w5.cell? ⟨z, 4, none⟩ = some (.bool false) := hZ.cell 4 rfl
  have z5 : w5.cell? ⟨z, 5, none⟩ = some (.int .i64 0) := hZ.cell 5 rfl
  have z6 : w5.cell? ⟨z, 6, none⟩ = some (.int .i64 0) := hZ.cell 6 rfl
  have z7 : w5.cell? ⟨z, 7, none⟩ = some (.bool false) := hZ.cell 7 rfl
  have z8 : w5.cell? ⟨z, 8, none⟩ = some (.int .i64 0) := hZ.cell 8 rfl
  have z9 : w5.cell? ⟨z, 9, none⟩ = some (.slice none 0 0) := hZ.cell 9 rfl
  have z10 : w5.cell? ⟨z, 10, none⟩ = some (.int .i64 0) := hZ.cell 10 rfl
  have z11 : w5.cell? ⟨z, 11, none⟩ = some (.int .i64 0) := hZ.cell 11 rfl
  have z12 : w5.cell? ⟨z, 12, none⟩ = some (.string ⟨#[]⟩) := hZ.cell 12 rfl
  have hfz := fun i => hZ.free i
  go_wp2_with fail
  have hA7 : At (((((((((((((w5.setCell ⟨z, 0, none⟩ (.int .i64 18)).setCell ⟨z, 1, none⟩ (.int .i64 0)).setCell ⟨z, 2, none⟩ (.int .i64 0)).setCell ⟨z, 3, none⟩ (.string ⟨#[]⟩)).setCell ⟨z, 4, none⟩ (.bool false)).setCell ⟨z, 5, none⟩ (.int .i64 pa)).setCell ⟨z, 6, none⟩ (.int .i64 0)).setCell ⟨z, 7, none⟩ (.bool fin)).setCell ⟨z, 8, none⟩ (.int .i64 0)).setCell ⟨z, 9, none⟩ (.slice none 0 0)).setCell ⟨z, 10, none⟩ (.int .i64 0)).setCell ⟨z, 11, none⟩ (.int .i64 0)).setCell ⟨z, 12, none⟩ (.string ⟨#[]⟩)) z 33 #[.int .i64 18, .int .i64 0, .int .i64 0, .string ⟨#[]⟩, .bool false, .int .i64 pa, .int .i64 0, .bool fin, .int .i64 0, .slice none 0 0, .int .i64 0, .int .i64 0, .string ⟨#[]⟩] := (((((((((((((hZ.set 0 (.int .i64 18) rfl).set 1 (.int .i64 0) rfl).set 2 (.int .i64 0) rfl).set 3 (.string ⟨#[]⟩) rfl).set 4 (.bool false) rfl).set 5 (.int .i64 pa) rfl).set 6 (.int .i64 0) rfl).set 7 (.bool fin) rfl).set 8 (.int .i64 0) rfl).set 9 (.slice none 0 0) rfl).set 10 (.int .i64 0) rfl).set 11 (.int .i64 0) rfl).set 12 (.string ⟨#[]⟩) rfl).same (by simp only [List.setIfInBounds_toArray, List.set_cons_zero, List.set_cons_succ])
  have hO7 : Only [] w (((((((((((((w5.setCell ⟨z, 0, none⟩ (.int .i64 18)).setCell ⟨z, 1, none⟩ (.int .i64 0)).setCell ⟨z, 2, none⟩ (.int .i64 0)).setCell ⟨z, 3, none⟩ (.string ⟨#[]⟩)).setCell ⟨z, 4, none⟩ (.bool false)).setCell ⟨z, 5, none⟩ (.int .i64 pa)).setCell ⟨z, 6, none⟩ (.int .i64 0)).setCell ⟨z, 7, none⟩ (.bool fin)).setCell ⟨z, 8, none⟩ (.int .i64 0)).setCell ⟨z, 9, none⟩ (.slice none 0 0)).setCell ⟨z, 10, none⟩ (.int .i64 0)).setCell ⟨z, 11, none⟩ (.int .i64 0)).setCell ⟨z, 12, none⟩ (.string ⟨#[]⟩)) := (((((((((((((hO.putn (g := z) (i := 0) HN.out.2.2.2 (.int .i64 18)).putn (g := z) (i := 1) HN.out.2.2.2 (.int .i64 0)).putn (g := z) (i := 2) HN.out.2.2.2 (.int .i64 0)).putn (g := z) (i := 3) HN.out.2.2.2 (.string ⟨#[]⟩)).putn (g := z) (i := 4) HN.out.2.2.2 (.bool false)).putn (g := z) (i := 5) HN.out.2.2.2 (.int .i64 pa)).putn (g := z) (i := 6) HN.out.2.2.2 (.int .i64 0)).putn (g := z) (i := 7) HN.out.2.2.2 (.bool fin)).putn (g := z) (i := 8) HN.out.2.2.2 (.int .i64 0)).putn (g := z) (i := 9) HN.out.2.2.2 (.slice none 0 0)).putn (g := z) (i := 10) HN.out.2.2.2 (.int .i64 0)).putn (g := z) (i := 11) HN.out.2.2.2 (.int .i64 0)).putn (g := z) (i := 12) HN.out.2.2.2 (.string ⟨#[]⟩))
  clear z0 z1 z2 z3 z4 z5 z6 z7 z8 z9 z10 z11 z12 hfz
  clear c0 c1 c2 c3 c4 c5 c6 f0 f1 f2 f3 f4 f5 f6 f7 f8 f9 f10 f11 f12 hfr
  generalize (((((((((((((w5.setCell ⟨z, 0, none⟩ (.int .i64 18)).setCell ⟨z, 1, none⟩ (.int .i64 0)).setCell ⟨z, 2, none⟩ (.int .i64 0)).setCell ⟨z, 3, none⟩ (.string ⟨#[]⟩)).setCell ⟨z, 4, none⟩ (.bool false)).setCell ⟨z, 5, none⟩ (.int .i64 pa)).setCell ⟨z, 6, none⟩ (.int .i64 0)).setCell ⟨z, 7, none⟩ (.bool fin)).setCell ⟨z, 8, none⟩ (.int .i64 0)).setCell ⟨z, 9, none⟩ (.slice none 0 0)).setCell ⟨z, 10, none⟩ (.int .i64 0)).setCell ⟨z, 11, none⟩ (.int .i64 0)).setCell ⟨z, 12, none⟩ (.string ⟨#[]⟩)) = w9 at hA7 hO7 ⊢
  have y0 : w9.cell? ⟨z, 0, none⟩ = some (.int .i64 18) := hA7.cell 0 rfl
  have y1 : w9.cell? ⟨z, 1, none⟩ = some (.int .i64 0) := hA7.cell 1 rfl
  have y2 : w9.cell? ⟨z, 2, none⟩ = some (.int .i64 0) := hA7.cell 2 rfl
  have y3 : w9.cell? ⟨z, 3, none⟩ = some (.string ⟨#[]⟩) := hA7.cell 3 rfl
  have y4 : w9.cell? ⟨z, 4, none⟩ = some (.bool false) := hA7.cell 4 rfl
  have y5 : w9.cell? ⟨z, 5, none⟩ = some (.int .i64 pa) := hA7.cell 5 rfl
  have y6 : w9.cell? ⟨z, 6, none⟩ = some (.int .i64 0) := hA7.cell 6 rfl
  have y7 : w9.cell? ⟨z, 7, none⟩ = some (.bool fin) := hA7.cell 7 rfl
  have y8 : w9.cell? ⟨z, 8, none⟩ = some (.int .i64 0) := hA7.cell 8 rfl
  have y9 : w9.cell? ⟨z, 9, none⟩ = some (.slice none 0 0) := hA7.cell 9 rfl
  have y10 : w9.cell? ⟨z, 10, none⟩ = some (.int .i64 0) := hA7.cell 10 rfl
  have y11 : w9.cell? ⟨z, 11, none⟩ = some (.int .i64 0) := hA7.cell 11 rfl
  have y12 : w9.cell? ⟨z, 12, none⟩ = some (.string ⟨#[]⟩) := hA7.cell 12 rfl
  refine ⟨rfl, .agg #[.int .i64 18, .int .i64 0, .int .i64 0, .string ⟨#[]⟩, .bool false, .int .i64 pa, .int .i64 0, .bool fin, .int .i64 0, .slice none 0 0, .int .i64 0, .int .i64 0, .string ⟨#[]⟩], ?_, ?_⟩
  · simp [results, Try.f24, go_sem, y0, y1, y2, y3, y4, y5, y6, y7, y8, y9, y10, y11, y12]
  · have hPA := HPA.out
    have hPB := HPB.out
    subst hPA
    subst hPB
    exact FfQ.plain (genF 18 A B C (few s) fin [(0, 1)]) rfl rfl hO7 rfl
set_option maxRecDepth 100000 in
set_option maxHeartbeats 4000000 in
theorem ff_11 (ty A B C : Int) (s : ByteArray) (fin : Bool) (sv : Value) (SL : List (Int × Int)) (w : World) (hS : RgAt w sv SL) (h1 : -9223372036854775808 ≤ ty ∧ ty ≤ 9223372036854775807) (h2 : -9223372036854775808 ≤ A ∧ A ≤ 9223372036854775807) (h3 : -9223372036854775808 ≤ B ∧ B ≤ 9223372036854775807) (h4 : -9223372036854775808 ≤ C ∧ C ≤ 9223372036854775807) (h5 : s.size ≤ 9223372036854775807) (hj : pkZ ty 21 = 11) :
    Calls Try.prog 24 #[.agg (fpC ty A B C s fin sv)] w (FfQ 20 A B C s fin w) := by
  unfold fpC
  have hp0 := fun ww => pk9 ty 21 ww h1.1 h1.2 (by omega)
  rw [hj] at hp0
  obtain ⟨sa, sc, rfl, hss⟩ := hS
  have HS : Hid (RgAt w (.slice sa SL.length sc) SL) := Lib.hid ⟨sa, sc, rfl, hss⟩
  clear hss
  obtain ⟨pa, hpa⟩ : ∃ pa, pkZ A 4611686018427387904 = pa := ⟨_, rfl⟩
  obtain ⟨pb, hpb⟩ : ∃ pb, pkZ B 4611686018427387904 = pb := ⟨_, rfl⟩
  have hp1 := fun ww => pk9 A 4611686018427387904 ww h2.1 h2.2 (by omega)
  have hp2 := fun ww => pk9 B 4611686018427387904 ww h3.1 h3.2 (by omega)
  have ba := pkZ_bd A 4611686018427387904 (by omega)
  have bb := pkZ_bd B 4611686018427387904 (by omega)
  rw [hpa] at hp1 ba
  rw [hpb] at hp2 bb
  have HPA := Lib.hid hpa
  have HPB := Lib.hid hpb
  clear hpa hpb hj
  go_enter Try.func24, Try.ntmps24
  go_upto_region 2 with fail
  have hP := ((At.new w 46 #[.int .i64 ty, .int .i64 A, .int .i64 B, .int .i64 C, .string s, .bool fin, .slice sa SL.length sc]).alloc (.cells #[.int .i64 0, .int .i64 0, .int .i64 0, .string ⟨#[]⟩, .bool false, .int .i64 0, .int .i64 0, .bool false, .int .i64 0, .slice none 0 0, .int .i64 0, .int .i64 0, .string ⟨#[]⟩] 33)).alloc (.cells #[.int .i64 0, .int .i64 1, .int .i64 2, .int .i64 4, .int .i64 5, .int .i64 6, .int .i64 7, .int .i64 8, .int .i64 16, .int .i64 17, .int .i64 18, .int .i64 20, .int .i64 21, .int .i64 22, .int .i64 24, .int .i64 25, .int .i64 26, .int .i64 27, .int .i64 28, .int .i64 29, .int .i64 30] 3)
  have hZ := (At.new (w.alloc (.cells #[.int .i64 ty, .int .i64 A, .int .i64 B, .int .i64 C, .string s, .bool fin, .slice sa SL.length sc] 46)) 33 #[.int .i64 0, .int .i64 0, .int .i64 0, .string ⟨#[]⟩, .bool false, .int .i64 0, .int .i64 0, .bool false, .int .i64 0, .slice none 0 0, .int .i64 0, .int .i64 0, .string ⟨#[]⟩]).alloc (.cells #[.int .i64 0, .int .i64 1, .int .i64 2, .int .i64 4, .int .i64 5, .int .i64 6, .int .i64 7, .int .i64 8, .int .i64 16, .int .i64 17, .int .i64 18, .int .i64 20, .int .i64 21, .int .i64 22, .int .i64 24, .int .i64 25, .int .i64 26, .int .i64 27, .int .i64 28, .int .i64 29, .int .i64 30] 3)
  have hT := At.new ((w.alloc (.cells #[.int .i64 ty, .int .i64 A, .int .i64 B, .int .i64 C, .string s, .bool fin, .slice sa SL.length sc] 46)).alloc (.cells #[.int .i64 0, .int .i64 0, .int .i64 0, .string ⟨#[]⟩, .bool false, .int .i64 0, .int .i64 0, .bool false, .int .i64 0, .slice none 0 0, .int .i64 0, .int .i64 0, .string ⟨#[]⟩] 33)) 3 #[.int .i64 0, .int .i64 1, .int .i64 2, .int .i64 4, .int .i64 5, .int .i64 6, .int .i64 7, .int .i64 8, .int .i64 16, .int .i64 17, .int .i64 18, .int .i64 20, .int .i64 21, .int .i64 22, .int .i64 24, .int .i64 25, .int .i64 26, .int .i64 27, .int .i64 28, .int .i64 29, .int .i64 30]
  have hO := (((Only.refl [] w).alloc (.cells #[.int .i64 ty, .int .i64 A, .int .i64 B, .int .i64 C, .string s, .bool fin, .slice sa SL.length sc] 46)).alloc (.cells #[.int .i64 0, .int .i64 0, .int .i64 0, .string ⟨#[]⟩, .bool false, .int .i64 0, .int .i64 0, .bool false, .int .i64 0, .slice none 0 0, .int .i64 0, .int .i64 0, .string ⟨#[]⟩] 33)).alloc (.cells #[.int .i64 0, .int .i64 1, .int .i64 2, .int .i64 4, .int .i64 5, .int .i64 6, .int .i64 7, .int .i64 8, .int .i64 16, .int .i64 17, .int .i64 18, .int .i64 20, .int .i64 21, .int .i64 22, .int .i64 24, .int .i64 25, .int .i64 26, .int .i64 27, .int .i64 28, .int .i64 29, .int .i64 30] 3)
  rw [World.size_alloc] at hZ
  rw [World.size_alloc, World.size_alloc] at hT
  generalize ((w.alloc (.cells #[.int .i64 ty, .int .i64 A, .int .i64 B, .int .i64 C, .string s, .bool fin, .slice sa SL.length sc] 46)).alloc (.cells #[.int .i64 0, .int .i64 0, .int .i64 0, .string ⟨#[]⟩, .bool false, .int .i64 0, .int .i64 0, .bool false, .int .i64 0, .slice none 0 0, .int .i64 0, .int .i64 0, .string ⟨#[]⟩] 33)).alloc (.cells #[.int .i64 0, .int .i64 1, .int .i64 2, .int .i64 4, .int .i64 5, .int .i64 6, .int .i64 7, .int .i64 8, .int .i64 16, .int .i64 17, .int .i64 18, .int .i64 20, .int .i64 21, .int .i64 22, .int .i64 24, .int .i64 25, .int .i64 26, .int .i64 27, .int .i64 28, .int .i64 29, .int .i64 30] 3) = w2 at hP hZ hT hO ⊢
  obtain ⟨p, hp⟩ : ∃ p, w.heap.size = p := ⟨_, rfl⟩
  rw [hp] at hP hZ hT ⊢
  have hpz := hp
  obtain ⟨z, hz⟩ : ∃ z, p + 1 = z := ⟨_, rfl⟩
  rw [hz] at hZ hT ⊢
  have c0 : w2.cell? ⟨p, 0, none⟩ = some (.int .i64 ty) := hP.cell 0 rfl
  have t0 : w2.cell? ⟨z + 1, 11, none⟩ = some (.int .i64 20) := hT.cell 11 rfl
  clear hT
  go_wp2_with fail
  refine (hp0 _).mono ?_
  rintro e w3 ⟨rfl, rfl⟩
  go_upto_region 3 with fail
  replace hP := hP.alloc (.cells #[.int .i64 20, .int .i64 0, .int .i64 0, .string ⟨#[]⟩, .bool false, .int .i64 0, .int .i64 0, .bool false, .int .i64 0, .slice none 0 0, .int .i64 0, .int .i64 0, .string ⟨#[]⟩] 33)
  replace hZ := hZ.alloc (.cells #[.int .i64 20, .int .i64 0, .int .i64 0, .string ⟨#[]⟩, .bool false, .int .i64 0, .int .i64 0, .bool false, .int .i64 0, .slice none 0 0, .int .i64 0, .int .i64 0, .string ⟨#[]⟩] 33)
  have hF := At.new w2 33 #[.int .i64 20, .int .i64 0, .int .i64 0, .string ⟨#[]⟩, .bool false, .int .i64 0, .int .i64 0, .bool false, .int .i64 0, .slice none 0 0, .int .i64 0, .int .i64 0, .string ⟨#[]⟩]
  have hbz : w.heap.size ≤ w2.heap.size := hO.size
  have hpl : p < w2.heap.size ∧ z < w2.heap.size := ⟨by have := hZ.lt; have := hP.lt; have := World.block_lt_of_cell? _ _ c0; exact this, by have := World.block_lt_of_cell? _ _ t0; simp at this; omega⟩
  replace hO := hO.alloc (.cells #[.int .i64 20, .int .i64 0, .int .i64 0, .string ⟨#[]⟩, .bool false, .int .i64 0, .int .i64 0, .bool false, .int .i64 0, .slice none 0 0, .int .i64 0, .int .i64 0, .string ⟨#[]⟩] 33)
  clear c0 t0 hp0
  generalize w2.alloc (.cells #[.int .i64 20, .int .i64 0, .int .i64 0, .string ⟨#[]⟩, .bool false, .int .i64 0, .int .i64 0, .bool false, .int .i64 0, .slice none 0 0, .int .i64 0, .int .i64 0, .string ⟨#[]⟩] 33) = w3 at hP hZ hF hO ⊢
  obtain ⟨b, hb⟩ : ∃ b, w2.heap.size = b := ⟨_, rfl⟩
  rw [hb] at hF hbz hpl ⊢
  have HN : Hid (p ≠ b ∧ z ≠ b ∧ w.heap.size ≤ b ∧ w.heap.size ≤ z) := Lib.hid ⟨by omega, by omega, hbz, by omega⟩
  clear hb hpl hz hbz
  have c0 : w3.cell? ⟨p, 0, none⟩ = some (.int .i64 ty) := hP.cell 0 rfl
  have c1 : w3.cell? ⟨p, 1, none⟩ = some (.int .i64 A) := hP.cell 1 rfl
  have c2 : w3.cell? ⟨p, 2, none⟩ = some (.int .i64 B) := hP.cell 2 rfl
  have c3 : w3.cell? ⟨p, 3, none⟩ = some (.int .i64 C) := hP.cell 3 rfl
  have c4 : w3.cell? ⟨p, 4, none⟩ = some (.string s) := hP.cell 4 rfl
  have c5 : w3.cell? ⟨p, 5, none⟩ = some (.bool fin) := hP.cell 5 rfl
  have c6 : w3.cell? ⟨p, 6, none⟩ = some (.slice sa SL.length sc) := hP.cell 6 rfl
  have f0 : w3.cell? ⟨b, 0, none⟩ = some (.int .i64 20) := hF.cell 0 rfl
  have f1 : w3.cell? ⟨b, 1, none⟩ = some (.int .i64 0) := hF.cell 1 rfl
  have f2 : w3.cell? ⟨b, 2, none⟩ = some (.int .i64 0) := hF.cell 2 rfl
  have f3 : w3.cell? ⟨b, 3, none⟩ = some (.string ⟨#[]⟩) := hF.cell 3 rfl
  have f4 : w3.cell? ⟨b, 4, none⟩ = some (.bool false) := hF.cell 4 rfl
  have f5 : w3.cell? ⟨b, 5, none⟩ = some (.int .i64 0) := hF.cell 5 rfl
  have f6 : w3.cell? ⟨b, 6, none⟩ = some (.int .i64 0) := hF.cell 6 rfl
  have f7 : w3.cell? ⟨b, 7, none⟩ = some (.bool false) := hF.cell 7 rfl
  have f8 : w3.cell? ⟨b, 8, none⟩ = some (.int .i64 0) := hF.cell 8 rfl
  have f9 : w3.cell? ⟨b, 9, none⟩ = some (.slice none 0 0) := hF.cell 9 rfl
  have f10 : w3.cell? ⟨b, 10, none⟩ = some (.int .i64 0) := hF.cell 10 rfl
  have f11 : w3.cell? ⟨b, 11, none⟩ = some (.int .i64 0) := hF.cell 11 rfl
  have f12 : w3.cell? ⟨b, 12, none⟩ = some (.string ⟨#[]⟩) := hF.cell 12 rfl
  have hfr := fun i => hF.free i
  have em : min (s.size : Int) 60 = ((min s.size 60 : Nat) : Int) := by omega
  have ex : s.extract 0 (min s.size 60) = strB (few s) := few_str s _ rfl
  go_wp2_with fail
  refine (hp1 _).mono ?_
  rintro e wx ⟨rfl, rfl⟩
  go_wp2_with fail
  refine (hp2 _).mono ?_
  rintro e wx ⟨rfl, rfl⟩
  go_upto_region 51 with fail
  clear c0 c1 c2 c3 c4 c5 c6 f0 f1 f2 f3 f4 f5 f6 f7 f8 f9 f10 f11 f12 hfr
  replace hP := hP.far (p := ⟨b, 5, none⟩) HN.out.1 (.int .i64 pa)
  replace hZ := hZ.far (p := ⟨b, 5, none⟩) HN.out.2.1 (.int .i64 pa)
  replace hF := hF.set 5 (.int .i64 pa) (cs' := #[.int .i64 20, .int .i64 0, .int .i64 0, .string ⟨#[]⟩, .bool false, .int .i64 pa, .int .i64 0, .bool false, .int .i64 0, .slice none 0 0, .int .i64 0, .int .i64 0, .string ⟨#[]⟩]) rfl
  replace hO := hO.putn (g := b) (i := 5) HN.out.2.2.1 (.int .i64 pa)
  generalize w3.setCell ⟨b, 5, none⟩ (.int .i64 pa) = w4 at hP hZ hF hO ⊢
  have c0 : w4.cell? ⟨p, 0, none⟩ = some (.int .i64 ty) := hP.cell 0 rfl
  have c1 : w4.cell? ⟨p, 1, none⟩ = some (.int .i64 A) := hP.cell 1 rfl
  have c2 : w4.cell? ⟨p, 2, none⟩ = some (.int .i64 B) := hP.cell 2 rfl
  have c3 : w4.cell? ⟨p, 3, none⟩ = some (.int .i64 C) := hP.cell 3 rfl
  have c4 : w4.cell? ⟨p, 4, none⟩ = some (.string s) := hP.cell 4 rfl
  have c5 : w4.cell? ⟨p, 5, none⟩ = some (.bool fin) := hP.cell 5 rfl
  have c6 : w4.cell? ⟨p, 6, none⟩ = some (.slice sa SL.length sc) := hP.cell 6 rfl
  have f0 : w4.cell? ⟨b, 0, none⟩ = some (.int .i64 20) := hF.cell 0 rfl
  have f1 : w4.cell? ⟨b, 1, none⟩ = some (.int .i64 0) := hF.cell 1 rfl
  have f2 : w4.cell? ⟨b, 2, none⟩ = some (.int .i64 0) := hF.cell 2 rfl
  have f3 : w4.cell? ⟨b, 3, none⟩ = some (.string ⟨#[]⟩) := hF.cell 3 rfl
  have f4 : w4.cell? ⟨b, 4, none⟩ = some (.bool false) := hF.cell 4 rfl
  have f5 : w4.cell? ⟨b, 5, none⟩ = some (.int .i64 pa) := hF.cell 5 rfl
  have f6 : w4.cell? ⟨b, 6, none⟩ = some (.int .i64 0) := hF.cell 6 rfl
  have f7 : w4.cell? ⟨b, 7, none⟩ = some (.bool false) := hF.cell 7 rfl
  have f8 : w4.cell? ⟨b, 8, none⟩ = some (.int .i64 0) := hF.cell 8 rfl
  have f9 : w4.cell? ⟨b, 9, none⟩ = some (.slice none 0 0) := hF.cell 9 rfl
  have f10 : w4.cell? ⟨b, 10, none⟩ = some (.int .i64 0) := hF.cell 10 rfl
  have f11 : w4.cell? ⟨b, 11, none⟩ = some (.int .i64 0) := hF.cell 11 rfl
  have f12 : w4.cell? ⟨b, 12, none⟩ = some (.string ⟨#[]⟩) := hF.cell 12 rfl
  have hfr := fun i => hF.free i
  have z0 : w4.cell? ⟨z, 0, none⟩ = some (.int .i64 0) := hZ.cell 0 rfl
  have z1 : w4.cell? ⟨z, 1, none⟩ = some (.int .i64 0) := hZ.cell 1 rfl
  have z2 : w4.cell? ⟨z, 2, none⟩ = some (.int .i64 0) := hZ.cell 2 rfl
  have z3 : w4.cell? ⟨z, 3, none⟩ = some (.string ⟨#[]⟩) := hZ.cell 3 rfl
  have z4 : w4.cell? ⟨z, 4, none⟩ = some (.bool false) := hZ.cell 4 rfl
  have z5 : w4.cell? ⟨z, 5, none⟩ = some (.int .i64 0) := hZ.cell 5 rfl
  have z6 : w4.cell? ⟨z, 6, none⟩ = some (.int .i64 0) := hZ.cell 6 rfl
  have z7 : w4.cell? ⟨z, 7, none⟩ = some (.bool false) := hZ.cell 7 rfl
  have z8 : w4.cell? ⟨z, 8, none⟩ = some (.int .i64 0) := hZ.cell 8 rfl
  have z9 : w4.cell? ⟨z, 9, none⟩ = some (.slice none 0 0) := hZ.cell 9 rfl
  have z10 : w4.cell? ⟨z, 10, none⟩ = some (.int .i64 0) := hZ.cell 10 rfl
  have z11 : w4.cell? ⟨z, 11, none⟩ = some (.int .i64 0) := hZ.cell 11 rfl
  have z12 : w4.cell? ⟨z, 12, none⟩ = some (.string ⟨#[]⟩) := hZ.cell 12 rfl
  have hfz := fun i => hZ.free i
  go_wp2_with fail
  have hA7 : At (((((((((((((w4.setCell ⟨z, 0, none⟩ (.int .i64 20)).setCell ⟨z, 1, none⟩ (.int .i64 0)).setCell ⟨z, 2, none⟩ (.int .i64 0)).setCell ⟨z, 3, none⟩ (.string ⟨#[]⟩)).setCell ⟨z, 4, none⟩ (.bool false)).setCell ⟨z, 5, none⟩ (.int .i64 pa)).setCell ⟨z, 6, none⟩ (.int .i64 0)).setCell ⟨z, 7, none⟩ (.bool false)).setCell ⟨z, 8, none⟩ (.int .i64 0)).setCell ⟨z, 9, none⟩ (.slice none 0 0)).setCell ⟨z, 10, none⟩ (.int .i64 0)).setCell ⟨z, 11, none⟩ (.int .i64 0)).setCell ⟨z, 12, none⟩ (.string ⟨#[]⟩)) z 33 #[.int .i64 20, .int .i64 0, .int .i64 0, .string ⟨#[]⟩, .bool false, .int .i64 pa, .int .i64 0, .bool false, .int .i64 0, .slice none 0 0, .int .i64 0, .int .i64 0, .string ⟨#[]⟩] := (((((((((((((hZ.set 0 (.int .i64 20) rfl).set 1 (.int .i64 0) rfl).set 2 (.int .i64 0) rfl).set 3 (.string ⟨#[]⟩) rfl).set 4 (.bool false) rfl).set 5 (.int .i64 pa) rfl).set 6 (.int .i64 0) rfl).set 7 (.bool false) rfl).set 8 (.int .i64 0) rfl).set 9 (.slice none 0 0) rfl).set 10 (.int .i64 0) rfl).set 11 (.int .i64 0) rfl).set 12 (.string ⟨#[]⟩) rfl).same (by simp only [List.setIfInBounds_toArray, List.set_cons_zero, List.set_cons_succ])
  have hO7 : Only [] w (((((((((((((w4.setCell ⟨z, 0, none⟩ (.int .i64 20)).setCell ⟨z, 1, none⟩ (.int .i64 0)).setCell ⟨z, 2, none⟩ (.int .i64 0)).setCell ⟨z, 3, none⟩ (.string ⟨#[]⟩)).setCell ⟨z, 4, none⟩ (.bool false)).setCell ⟨z, 5, none⟩ (.int .i64 pa)).setCell ⟨z, 6, none⟩ (.int .i64 0)).setCell ⟨z, 7, none⟩ (.bool false)).setCell ⟨z, 8, none⟩ (.int .i64 0)).setCell ⟨z, 9, none⟩ (.slice none 0 0)).setCell ⟨z, 10, none⟩ (.int .i64 0)).setCell ⟨z, 11, none⟩ (.int .i64 0)).setCell ⟨z, 12, none⟩ (.string ⟨#[]⟩)) := (((((((((((((hO.putn (g := z) (i := 0) HN.out.2.2.2 (.int .i64 20)).putn (g := z) (i := 1) HN.out.2.2.2 (.int .i64 0)).putn (g := z) (i := 2) HN.out.2.2.2 (.int .i64 0)).putn (g := z) (i := 3) HN.out.2.2.2 (.string ⟨#[]⟩)).putn (g := z) (i := 4) HN.out.2.2.2 (.bool false)).putn (g := z) (i := 5) HN.out.2.2.2 (.int .i64 pa)).putn (g := z) (i := 6) HN.out.2.2.2 (.int .i64 0)).putn (g := z) (i := 7) HN.out.2.2.2 (.bool false)).putn (g := z) (i := 8) HN.out.2.2.2 (.int .i64 0)).putn (g := z) (i := 9) HN.out.2.2.2 (.slice none 0 0)).putn (g := z) (i := 10) HN.out.2.2.2 (.int .i64 0)).putn (g := z) (i := 11) HN.out.2.2.2 (.int .i64 0)).putn (g := z) (i := 12) HN.out.2.2.2 (.string ⟨#[]⟩))
  clear z0 z1 z2 z3 z4 z5 z6 z7 z8 z9 z10 z11 z12 hfz
  clear c0 c1 c2 c3 c4 c5 c6 f0 f1 f2 f3 f4 f5 f6 f7 f8 f9 f10 f11 f12 hfr
  generalize (((((((((((((w4.setCell ⟨z, 0, none⟩ (.int .i64 20)).setCell ⟨z, 1, none⟩ (.int .i64 0)).setCell ⟨z, 2, none⟩ (.int .i64 0)).setCell ⟨z, 3, none⟩ (.string ⟨#[]⟩)).setCell ⟨z, 4, none⟩ (.bool false)).setCell ⟨z, 5, none⟩ (.int .i64 pa)).setCell ⟨z, 6, none⟩ (.int .i64 0)).setCell ⟨z, 7, none⟩ (.bool false)).setCell ⟨z, 8, none⟩ (.int .i64 0)).setCell ⟨z, 9, none⟩ (.slice none 0 0)).setCell ⟨z, 10, none⟩ (.int .i64 0)).setCell ⟨z, 11, none⟩ (.int .i64 0)).setCell ⟨z, 12, none⟩ (.string ⟨#[]⟩)) = w9 at hA7 hO7 ⊢
  have y0 : w9.cell? ⟨z, 0, none⟩ = some (.int .i64 20) := hA7.cell 0 rfl
  have y1 : w9.cell? ⟨z, 1, none⟩ = some (.int .i64 0) := hA7.cell 1 rfl
  have y2 : w9.cell? ⟨z, 2, none⟩ = some (.int .i64 0) := hA7.cell 2 rfl
  have y3 : w9.cell? ⟨z, 3, none⟩ = some (.string ⟨#[]⟩) := hA7.cell 3 rfl
  have y4 : w9.cell? ⟨z, 4, none⟩ = some (.bool false) := hA7.cell 4 rfl
  have y5 : w9.cell? ⟨z, 5, none⟩ = some (.int .i64 pa) := hA7.cell 5 rfl
  have y6 : w9.cell? ⟨z, 6, none⟩ = some (.int .i64 0) := hA7.cell 6 rfl
  have y7 : w9.cell? ⟨z, 7, none⟩ = some (.bool false) := hA7.cell 7 rfl
  have y8 : w9.cell? ⟨z, 8, none⟩ = some (.int .i64 0) := hA7.cell 8 rfl
  have y9 : w9.cell? ⟨z, 9, none⟩ = some (.slice none 0 0) := hA7.cell 9 rfl
  have y10 : w9.cell? ⟨z, 10, none⟩ = some (.int .i64 0) := hA7.cell 10 rfl
  have y11 : w9.cell? ⟨z, 11, none⟩ = some (.int .i64 0) := hA7.cell 11 rfl
  have y12 : w9.cell? ⟨z, 12, none⟩ = some (.string ⟨#[]⟩) := hA7.cell 12 rfl
  refine ⟨rfl, .agg #[.int .i64 20, .int .i64 0, .int .i64 0, .string ⟨#[]⟩, .bool false, .int .i64 pa, .int .i64 0, .bool false, .int .i64 0, .slice none 0 0, .int .i64 0, .int .i64 0, .string ⟨#[]⟩], ?_, ?_⟩
  · simp [results, Try.f24, go_sem, y0, y1, y2, y3, y4, y5, y6, y7, y8, y9, y10, y11, y12]
  · have hPA := HPA.out
    have hPB := HPB.out
    subst hPA
    subst hPB
    exact FfQ.plain (genF 20 A B C (few s) fin [(0, 1)]) rfl rfl hO7 rfl
set_option maxRecDepth 100000 in
set_option maxHeartbeats 4000000 in
theorem ff_12 (ty A B C : Int) (s : ByteArray) (fin : Bool) (sv : Value) (SL : List (Int × Int)) (w : World) (hS : RgAt w sv SL) (h1 : -9223372036854775808 ≤ ty ∧ ty ≤ 9223372036854775807) (h2 : -9223372036854775808 ≤ A ∧ A ≤ 9223372036854775807) (h3 : -9223372036854775808 ≤ B ∧ B ≤ 9223372036854775807) (h4 : -9223372036854775808 ≤ C ∧ C ≤ 9223372036854775807) (h5 : s.size ≤ 9223372036854775807) (hj : pkZ ty 21 = 12) :
    Calls Try.prog 24 #[.agg (fpC ty A B C s fin sv)] w (FfQ 21 A B C s fin w) := by
  unfold fpC
  have hp0 := fun ww => pk9 ty 21 ww h1.1 h1.2 (by omega)
  rw [hj] at hp0
  obtain ⟨sa, sc, rfl, hss⟩ := hS
  have HS : Hid (RgAt w (.slice sa SL.length sc) SL) := Lib.hid ⟨sa, sc, rfl, hss⟩
  clear hss
  obtain ⟨pa, hpa⟩ : ∃ pa, pkZ A 4611686018427387904 = pa := ⟨_, rfl⟩
  obtain ⟨pb, hpb⟩ : ∃ pb, pkZ B 4611686018427387904 = pb := ⟨_, rfl⟩
  have hp1 := fun ww => pk9 A 4611686018427387904 ww h2.1 h2.2 (by omega)
  have hp2 := fun ww => pk9 B 4611686018427387904 ww h3.1 h3.2 (by omega)
  have ba := pkZ_bd A 4611686018427387904 (by omega)
  have bb := pkZ_bd B 4611686018427387904 (by omega)
  rw [hpa] at hp1 ba
  rw [hpb] at hp2 bb
  have HPA := Lib.hid hpa
  have HPB := Lib.hid hpb
  clear hpa hpb hj
  go_enter Try.func24, Try.ntmps24
  go_upto_region 2 with fail
  have hP := ((At.new w 46 #[.int .i64 ty, .int .i64 A, .int .i64 B, .int .i64 C, .string s, .bool fin, .slice sa SL.length sc]).alloc (.cells #[.int .i64 0, .int .i64 0, .int .i64 0, .string ⟨#[]⟩, .bool false, .int .i64 0, .int .i64 0, .bool false, .int .i64 0, .slice none 0 0, .int .i64 0, .int .i64 0, .string ⟨#[]⟩] 33)).alloc (.cells #[.int .i64 0, .int .i64 1, .int .i64 2, .int .i64 4, .int .i64 5, .int .i64 6, .int .i64 7, .int .i64 8, .int .i64 16, .int .i64 17, .int .i64 18, .int .i64 20, .int .i64 21, .int .i64 22, .int .i64 24, .int .i64 25, .int .i64 26, .int .i64 27, .int .i64 28, .int .i64 29, .int .i64 30] 3)
  have hZ := (At.new (w.alloc (.cells #[.int .i64 ty, .int .i64 A, .int .i64 B, .int .i64 C, .string s, .bool fin, .slice sa SL.length sc] 46)) 33 #[.int .i64 0, .int .i64 0, .int .i64 0, .string ⟨#[]⟩, .bool false, .int .i64 0, .int .i64 0, .bool false, .int .i64 0, .slice none 0 0, .int .i64 0, .int .i64 0, .string ⟨#[]⟩]).alloc (.cells #[.int .i64 0, .int .i64 1, .int .i64 2, .int .i64 4, .int .i64 5, .int .i64 6, .int .i64 7, .int .i64 8, .int .i64 16, .int .i64 17, .int .i64 18, .int .i64 20, .int .i64 21, .int .i64 22, .int .i64 24, .int .i64 25, .int .i64 26, .int .i64 27, .int .i64 28, .int .i64 29, .int .i64 30] 3)
  have hT := At.new ((w.alloc (.cells #[.int .i64 ty, .int .i64 A, .int .i64 B, .int .i64 C, .string s, .bool fin, .slice sa SL.length sc] 46)).alloc (.cells #[.int .i64 0, .int .i64 0, .int .i64 0, .string ⟨#[]⟩, .bool false, .int .i64 0, .int .i64 0, .bool false, .int .i64 0, .slice none 0 0, .int .i64 0, .int .i64 0, .string ⟨#[]⟩] 33)) 3 #[.int .i64 0, .int .i64 1, .int .i64 2, .int .i64 4, .int .i64 5, .int .i64 6, .int .i64 7, .int .i64 8, .int .i64 16, .int .i64 17, .int .i64 18, .int .i64 20, .int .i64 21, .int .i64 22, .int .i64 24, .int .i64 25, .int .i64 26, .int .i64 27, .int .i64 28, .int .i64 29, .int .i64 30]
  have hO := (((Only.refl [] w).alloc (.cells #[.int .i64 ty, .int .i64 A, .int .i64 B, .int .i64 C, .string s, .bool fin, .slice sa SL.length sc] 46)).alloc (.cells #[.int .i64 0, .int .i64 0, .int .i64 0, .string ⟨#[]⟩, .bool false, .int .i64 0, .int .i64 0, .bool false, .int .i64 0, .slice none 0 0, .int .i64 0, .int .i64 0, .string ⟨#[]⟩] 33)).alloc (.cells #[.int .i64 0, .int .i64 1, .int .i64 2, .int .i64 4, .int .i64 5, .int .i64 6, .int .i64 7, .int .i64 8, .int .i64 16, .int .i64 17, .int .i64 18, .int .i64 20, .int .i64 21, .int .i64 22, .int .i64 24, .int .i64 25, .int .i64 26, .int .i64 27, .int .i64 28, .int .i64 29, .int .i64 30] 3)
  rw [World.size_alloc] at hZ
  rw [World.size_alloc, World.size_alloc] at hT
  generalize ((w.alloc (.cells #[.int .i64 ty, .int .i64 A, .int .i64 B, .int .i64 C, .string s, .bool fin, .slice sa SL.length sc] 46)).alloc (.cells #[.int .i64 0, .int .i64 0, .int .i64 0, .string ⟨#[]⟩, .bool false, .int .i64 0, .int .i64 0, .bool false, .int .i64 0, .slice none 0 0, .int .i64 0, .int .i64 0, .string ⟨#[]⟩] 33)).alloc (.cells #[.int .i64 0, .int .i64 1, .int .i64 2, .int .i64 4, .int .i64 5, .int .i64 6, .int .i64 7, .int .i64 8, .int .i64 16, .int .i64 17, .int .i64 18, .int .i64 20, .int .i64 21, .int .i64 22, .int .i64 24, .int .i64 25, .int .i64 26, .int .i64 27, .int .i64 28, .int .i64 29, .int .i64 30] 3) = w2 at hP hZ hT hO ⊢
  obtain ⟨p, hp⟩ : ∃ p, w.heap.size = p := ⟨_, rfl⟩
  rw [hp] at hP hZ hT ⊢
  have hpz := hp
  obtain ⟨z, hz⟩ : ∃ z, p + 1 = z := ⟨_, rfl⟩
  rw [hz] at hZ hT ⊢
  have c0 : w2.cell? ⟨p, 0, none⟩ = some (.int .i64 ty) := hP.cell 0 rfl
  have t0 : w2.cell? ⟨z + 1, 12, none⟩ = some (.int .i64 21) := hT.cell 12 rfl
  clear hT
  go_wp2_with fail
  refine (hp0 _).mono ?_
  rintro e w3 ⟨rfl, rfl⟩
  go_upto_region 3 with fail
  replace hP := hP.alloc (.cells #[.int .i64 21, .int .i64 0, .int .i64 0, .string ⟨#[]⟩, .bool false, .int .i64 0, .int .i64 0, .bool false, .int .i64 0, .slice none 0 0, .int .i64 0, .int .i64 0, .string ⟨#[]⟩] 33)
  replace hZ := hZ.alloc (.cells #[.int .i64 21, .int .i64 0, .int .i64 0, .string ⟨#[]⟩, .bool false, .int .i64 0, .int .i64 0, .bool false, .int .i64 0, .slice none 0 0, .int .i64 0, .int .i64 0, .string ⟨#[]⟩] 33)
  have hF := At.new w2 33 #[.int .i64 21, .int .i64 0, .int .i64 0, .string ⟨#[]⟩, .bool false, .int .i64 0, .int .i64 0, .bool false, .int .i64 0, .slice none 0 0, .int .i64 0, .int .i64 0, .string ⟨#[]⟩]
  have hbz : w.heap.size ≤ w2.heap.size := hO.size
  have hpl : p < w2.heap.size ∧ z < w2.heap.size := ⟨by have := hZ.lt; have := hP.lt; have := World.block_lt_of_cell? _ _ c0; exact this, by have := World.block_lt_of_cell? _ _ t0; simp at this; omega⟩
  replace hO := hO.alloc (.cells #[.int .i64 21, .int .i64 0, .int .i64 0, .string ⟨#[]⟩, .bool false, .int .i64 0, .int .i64 0, .bool false, .int .i64 0, .slice none 0 0, .int .i64 0, .int .i64 0, .string ⟨#[]⟩] 33)
  clear c0 t0 hp0
  generalize w2.alloc (.cells #[.int .i64 21, .int .i64 0, .int .i64 0, .string ⟨#[]⟩, .bool false, .int .i64 0, .int .i64 0, .bool false, .int .i64 0, .slice none 0 0, .int .i64 0, .int .i64 0, .string ⟨#[]⟩] 33) = w3 at hP hZ hF hO ⊢
  obtain ⟨b, hb⟩ : ∃ b, w2.heap.size = b := ⟨_, rfl⟩
  rw [hb] at hF hbz hpl ⊢
  have HN : Hid (p ≠ b ∧ z ≠ b ∧ w.heap.size ≤ b ∧ w.heap.size ≤ z) := Lib.hid ⟨by omega, by omega, hbz, by omega⟩
  clear hb hpl hz hbz
  have c0 : w3.cell? ⟨p, 0, none⟩ = some (.int .i64 ty) := hP.cell 0 rfl
  have c1 : w3.cell? ⟨p, 1, none⟩ = some (.int .i64 A) := hP.cell 1 rfl
  have c2 : w3.cell? ⟨p, 2, none⟩ = some (.int .i64 B) := hP.cell 2 rfl
  have c3 : w3.cell? ⟨p, 3, none⟩ = some (.int .i64 C) := hP.cell 3 rfl
  have c4 : w3.cell? ⟨p, 4, none⟩ = some (.string s) := hP.cell 4 rfl
  have c5 : w3.cell? ⟨p, 5, none⟩ = some (.bool fin) := hP.cell 5 rfl
  have c6 : w3.cell? ⟨p, 6, none⟩ = some (.slice sa SL.length sc) := hP.cell 6 rfl
  have f0 : w3.cell? ⟨b, 0, none⟩ = some (.int .i64 21) := hF.cell 0 rfl
  have f1 : w3.cell? ⟨b, 1, none⟩ = some (.int .i64 0) := hF.cell 1 rfl
  have f2 : w3.cell? ⟨b, 2, none⟩ = some (.int .i64 0) := hF.cell 2 rfl
  have f3 : w3.cell? ⟨b, 3, none⟩ = some (.string ⟨#[]⟩) := hF.cell 3 rfl
  have f4 : w3.cell? ⟨b, 4, none⟩ = some (.bool false) := hF.cell 4 rfl
  have f5 : w3.cell? ⟨b, 5, none⟩ = some (.int .i64 0) := hF.cell 5 rfl
  have f6 : w3.cell? ⟨b, 6, none⟩ = some (.int .i64 0) := hF.cell 6 rfl
  have f7 : w3.cell? ⟨b, 7, none⟩ = some (.bool false) := hF.cell 7 rfl
  have f8 : w3.cell? ⟨b, 8, none⟩ = some (.int .i64 0) := hF.cell 8 rfl
  have f9 : w3.cell? ⟨b, 9, none⟩ = some (.slice none 0 0) := hF.cell 9 rfl
  have f10 : w3.cell? ⟨b, 10, none⟩ = some (.int .i64 0) := hF.cell 10 rfl
  have f11 : w3.cell? ⟨b, 11, none⟩ = some (.int .i64 0) := hF.cell 11 rfl
  have f12 : w3.cell? ⟨b, 12, none⟩ = some (.string ⟨#[]⟩) := hF.cell 12 rfl
  have hfr := fun i => hF.free i
  have em : min (s.size : Int) 60 = ((min s.size 60 : Nat) : Int) := by omega
  have ex : s.extract 0 (min s.size 60) = strB (few s) := few_str s _ rfl
  go_wp2_with fail
  refine (hp1 _).mono ?_
  rintro e wx ⟨rfl, rfl⟩
  go_wp2_with fail
  refine (hp2 _).mono ?_
  rintro e wx ⟨rfl, rfl⟩
  go_upto_region 33 with fail
  clear c0 c1 c2 c3 c4 c5 c6 f0 f1 f2 f3 f4 f5 f6 f7 f8 f9 f10 f11 f12 hfr
  replace hP := hP.far (p := ⟨b, 1, none⟩) HN.out.1 (.int .i64 pa)
  replace hZ := hZ.far (p := ⟨b, 1, none⟩) HN.out.2.1 (.int .i64 pa)
  replace hF := hF.set 1 (.int .i64 pa) (cs' := #[.int .i64 21, .int .i64 pa, .int .i64 0, .string ⟨#[]⟩, .bool false, .int .i64 0, .int .i64 0, .bool false, .int .i64 0, .slice none 0 0, .int .i64 0, .int .i64 0, .string ⟨#[]⟩]) rfl
  replace hO := hO.putn (g := b) (i := 1) HN.out.2.2.1 (.int .i64 pa)
  generalize w3.setCell ⟨b, 1, none⟩ (.int .i64 pa) = w4 at hP hZ hF hO ⊢
  have c0 : w4.cell? ⟨p, 0, none⟩ = some (.int .i64 ty) := hP.cell 0 rfl
  have c1 : w4.cell? ⟨p, 1, none⟩ = some (.int .i64 A) := hP.cell 1 rfl
  have c2 : w4.cell? ⟨p, 2, none⟩ = some (.int .i64 B) := hP.cell 2 rfl
  have c3 : w4.cell? ⟨p, 3, none⟩ = some (.int .i64 C) := hP.cell 3 rfl
  have c4 : w4.cell? ⟨p, 4, none⟩ = some (.string s) := hP.cell 4 rfl
  have c5 : w4.cell? ⟨p, 5, none⟩ = some (.bool fin) := hP.cell 5 rfl
  have c6 : w4.cell? ⟨p, 6, none⟩ = some (.slice sa SL.length sc) := hP.cell 6 rfl
  have f0 : w4.cell? ⟨b, 0, none⟩ = some (.int .i64 21) := hF.cell 0 rfl
  have f1 : w4.cell? ⟨b, 1, none⟩ = some (.int .i64 pa) := hF.cell 1 rfl
  have f2 : w4.cell? ⟨b, 2, none⟩ = some (.int .i64 0) := hF.cell 2 rfl
  have f3 : w4.cell? ⟨b, 3, none⟩ = some (.string ⟨#[]⟩) := hF.cell 3 rfl
  have f4 : w4.cell? ⟨b, 4, none⟩ = some (.bool false) := hF.cell 4 rfl
  have f5 : w4.cell? ⟨b, 5, none⟩ = some (.int .i64 0) := hF.cell 5 rfl
  have f6 : w4.cell? ⟨b, 6, none⟩ = some (.int .i64 0) := hF.cell 6 rfl
  have f7 : w4.cell? ⟨b, 7, none⟩ = some (.bool false) := hF.cell 7 rfl
  have f8 : w4.cell? ⟨b, 8, none⟩ = some (.int .i64 0) := hF.cell 8 rfl
  have f9 : w4.cell? ⟨b, 9, none⟩ = some (.slice none 0 0) := hF.cell 9 rfl
  have f10 : w4.cell? ⟨b, 10, none⟩ = some (.int .i64 0) := hF.cell 10 rfl
  have f11 : w4.cell? ⟨b, 11, none⟩ = some (.int .i64 0) := hF.cell 11 rfl
  have f12 : w4.cell? ⟨b, 12, none⟩ = some (.string ⟨#[]⟩) := hF.cell 12 rfl
  have hfr := fun i => hF.free i
  go_upto_region 51 with fail
  clear c0 c1 c2 c3 c4 c5 c6 f0 f1 f2 f3 f4 f5 f6 f7 f8 f9 f10 f11 f12 hfr
  replace hP := hP.far (p := ⟨b, 5, none⟩) HN.out.1 (.int .i64 pb)
  replace hZ := hZ.far (p := ⟨b, 5, none⟩) HN.out.2.1 (.int .i64 pb)
  replace hF := hF.set 5 (.int .i64 pb) (cs' := #[.int .i64 21, .int .i64 pa, .int .i64 0, .string ⟨#[]⟩, .bool false, .int .i64 pb, .int .i64 0, .bool false, .int .i64 0, .slice none 0 0, .int .i64 0, .int .i64 0, .string ⟨#[]⟩]) rfl
  replace hO := hO.putn (g := b) (i := 5) HN.out.2.2.1 (.int .i64 pb)
  generalize w4.setCell ⟨b, 5, none⟩ (.int .i64 pb) = w5 at hP hZ hF hO ⊢
  have c0 : w5.cell? ⟨p, 0, none⟩ = some (.int .i64 ty) := hP.cell 0 rfl
  have c1 : w5.cell? ⟨p, 1, none⟩ = some (.int .i64 A) := hP.cell 1 rfl
  have c2 : w5.cell? ⟨p, 2, none⟩ = some (.int .i64 B) := hP.cell 2 rfl
  have c3 : w5.cell? ⟨p, 3, none⟩ = some (.int .i64 C) := hP.cell 3 rfl
  have c4 : w5.cell? ⟨p, 4, none⟩ = some (.string s) := hP.cell 4 rfl
  have c5 : w5.cell? ⟨p, 5, none⟩ = some (.bool fin) := hP.cell 5 rfl
  have c6 : w5.cell? ⟨p, 6, none⟩ = some (.slice sa SL.length sc) := hP.cell 6 rfl
  have f0 : w5.cell? ⟨b, 0, none⟩ = some (.int .i64 21) := hF.cell 0 rfl
  have f1 : w5.cell? ⟨b, 1, none⟩ = some (.int .i64 pa) := hF.cell 1 rfl
  have f2 : w5.cell? ⟨b, 2, none⟩ = some (.int .i64 0) := hF.cell 2 rfl
  have f3 : w5.cell? ⟨b, 3, none⟩ = some (.string ⟨#[]⟩) := hF.cell 3 rfl
  have f4 : w5.cell? ⟨b, 4, none⟩ = some (.bool false) := hF.cell 4 rfl
  have f5 : w5.cell? ⟨b, 5, none⟩ = some (.int .i64 pb) := hF.cell 5 rfl
  have f6 : w5.cell? ⟨b, 6, none⟩ = some (.int .i64 0) := hF.cell 6 rfl
  have f7 : w5.cell? ⟨b, 7, none⟩ = some (.bool false) := hF.cell 7 rfl
  have f8 : w5.cell? ⟨b, 8, none⟩ = some (.int .i64 0) := hF.cell 8 rfl
  have f9 : w5.cell? ⟨b, 9, none⟩ = some (.slice none 0 0) := hF.cell 9 rfl
  have f10 : w5.cell? ⟨b, 10, none⟩ = some (.int .i64 0) := hF.cell 10 rfl
  have f11 : w5.cell? ⟨b, 11, none⟩ = some (.int .i64 0) := hF.cell 11 rfl
  have f12 : w5.cell? ⟨b, 12, none⟩ = some (.string ⟨#[]⟩) := hF.cell 12 rfl
  have hfr := fun i => hF.free i
  have z0 : w5.cell? ⟨z, 0, none⟩ = some (.int .i64 0) := hZ.cell 0 rfl
  have z1 : w5.cell? ⟨z, 1, none⟩ = some (.int .i64 0) := hZ.cell 1 rfl
  have z2 : w5.cell? ⟨z, 2, none⟩ = some (.int .i64 0) := hZ.cell 2 rfl
  have z3 : w5.cell? ⟨z, 3, none⟩ = some (.string ⟨#[]⟩) := hZ.cell 3 rfl
  have z4 : w5.cell? ⟨z, 4, none⟩ = some (.bool false) := hZ.cell 4 rfl
  have z5 : w5.cell? ⟨z, 5, none⟩ = some (.int .i64 0) := hZ.cell 5 rfl
  have z6 : w5.cell? ⟨z, 6, none⟩ = some (.int .i64 0) := hZ.cell 6 rfl
  have z7 : w5.cell? ⟨z, 7, none⟩ = some (.bool false) := hZ.cell 7 rfl
  have z8 : w5.cell? ⟨z, 8, none⟩ = some (.int .i64 0) := hZ.cell 8 rfl
  have z9 : w5.cell? ⟨z, 9, none⟩ = some (.slice none 0 0) := hZ.cell 9 rfl
  have z10 : w5.cell? ⟨z, 10, none⟩ = some (.int .i64 0) := hZ.cell 10 rfl
  have z11 : w5.cell? ⟨z, 11, none⟩ = some (.int .i64 0) := hZ.cell 11 rfl
  have z12 : w5.cell? ⟨z, 12, none⟩ = some (.string ⟨#[]⟩) := hZ.cell 12 rfl
  have hfz := fun i => hZ.free i
  go_wp2_with fail
  have hA7 : At (((((((((((((w5.setCell ⟨z, 0, none⟩ (.int .i64 21)).setCell ⟨z, 1, none⟩ (.int .i64 pa)).setCell ⟨z, 2, none⟩ (.int .i64 0)).setCell ⟨z, 3, none⟩ (.string ⟨#[]⟩)).setCell ⟨z, 4, none⟩ (.bool false)).setCell ⟨z, 5, none⟩ (.int .i64 pb)).setCell ⟨z, 6, none⟩ (.int .i64 0)).setCell ⟨z, 7, none⟩ (.bool false)).setCell ⟨z, 8, none⟩ (.int .i64 0)).setCell ⟨z, 9, none⟩ (.slice none 0 0)).setCell ⟨z, 10, none⟩ (.int .i64 0)).setCell ⟨z, 11, none⟩ (.int .i64 0)).setCell ⟨z, 12, none⟩ (.string ⟨#[]⟩)) z 33 #[.int .i64 21, .int .i64 pa, .int .i64 0, .string ⟨#[]⟩, .bool false, .int .i64 pb, .int .i64 0, .bool false, .int .i64 0, .slice none 0 0, .int .i64 0, .int .i64 0, .string ⟨#[]⟩] := (((((((((((((hZ.set 0 (.int .i64 21) rfl).set 1 (.int .i64 pa) rfl).set 2 (.int .i64 0) rfl).set 3 (.string ⟨#[]⟩) rfl).set 4 (.bool false) rfl).set 5 (.int .i64 pb) rfl).set 6 (.int .i64 0) rfl).set 7 (.bool false) rfl).set 8 (.int .i64 0) rfl).set 9 (.slice none 0 0) rfl).set 10 (.int .i64 0) rfl).set 11 (.int .i64 0) rfl).set 12 (.string ⟨#[]⟩) rfl).same (by simp only [List.setIfInBounds_toArray, List.set_cons_zero, List.set_cons_succ])
  have hO7 : Only [] w (((((((((((((w5.setCell ⟨z, 0, none⟩ (.int .i64 21)).setCell ⟨z, 1, none⟩ (.int .i64 pa)).setCell ⟨z, 2, none⟩ (.int .i64 0)).setCell ⟨z, 3, none⟩ (.string ⟨#[]⟩)).setCell ⟨z, 4, none⟩ (.bool false)).setCell ⟨z, 5, none⟩ (.int .i64 pb)).setCell ⟨z, 6, none⟩ (.int .i64 0)).setCell ⟨z, 7, none⟩ (.bool false)).setCell ⟨z, 8, none⟩ (.int .i64 0)).setCell ⟨z, 9, none⟩ (.slice none 0 0)).setCell ⟨z, 10, none⟩ (.int .i64 0)).setCell ⟨z, 11, none⟩ (.int .i64 0)).setCell ⟨z, 12, none⟩ (.string ⟨#[]⟩)) := (((((((((((((hO.putn (g := z) (i := 0) HN.out.2.2.2 (.int .i64 21)).putn (g := z) (i := 1) HN.out.2.2.2 (.int .i64 pa)).putn (g := z) (i := 2) HN.out.2.2.2 (.int .i64 0)).putn (g := z) (i := 3) HN.out.2.2.2 (.string ⟨#[]⟩)).putn (g := z) (i := 4) HN.out.2.2.2 (.bool false)).putn (g := z) (i := 5) HN.out.2.2.2 (.int .i64 pb)).putn (g := z) (i := 6) HN.out.2.2.2 (.int .i64 0)).putn (g := z) (i := 7) HN.out.2.2.2 (.bool false)).putn (g := z) (i := 8) HN.out.2.2.2 (.int .i64 0)).putn (g := z) (i := 9) HN.out.2.2.2 (.slice none 0 0)).putn (g := z) (i := 10) HN.out.2.2.2 (.int .i64 0)).putn (g := z) (i := 11) HN.out.2.2.2 (.int .i64 0)).putn (g := z) (i := 12) HN.out.2.2.2 (.string ⟨#[]⟩))
  clear z0 z1 z2 z3 z4 z5 z6 z7 z8 z9 z10 z11 z12 hfz
  clear c0 c1 c2 c3 c4 c5 c6 f0 f1 f2 f3 f4 f5 f6 f7 f8 f9 f10 f11 f12 hfr
  generalize (((((((((((((w5.setCell ⟨z, 0, none⟩ (.int .i64 21)).setCell ⟨z, 1, none⟩ (.int .i64 pa)).setCell ⟨z, 2, none⟩ (.int .i64 0)).setCell ⟨z, 3, none⟩ (.string ⟨#[]⟩)).setCell ⟨z, 4, none⟩ (.bool false)).setCell ⟨z, 5, none⟩ (.int .i64 pb)).setCell ⟨z, 6, none⟩ (.int .i64 0)).setCell ⟨z, 7, none⟩ (.bool false)).setCell ⟨z, 8, none⟩ (.int .i64 0)).setCell ⟨z, 9, none⟩ (.slice none 0 0)).setCell ⟨z, 10, none⟩ (.int .i64 0)).setCell ⟨z, 11, none⟩ (.int .i64 0)).setCell ⟨z, 12, none⟩ (.string ⟨#[]⟩)) = w9 at hA7 hO7 ⊢
  have y0 : w9.cell? ⟨z, 0, none⟩ = some (.int .i64 21) := hA7.cell 0 rfl
  have y1 : w9.cell? ⟨z, 1, none⟩ = some (.int .i64 pa) := hA7.cell 1 rfl
  have y2 : w9.cell? ⟨z, 2, none⟩ = some (.int .i64 0) := hA7.cell 2 rfl
  have y3 : w9.cell? ⟨z, 3, none⟩ = some (.string ⟨#[]⟩) := hA7.cell 3 rfl
  have y4 : w9.cell? ⟨z, 4, none⟩ = some (.bool false) := hA7.cell 4 rfl
  have y5 : w9.cell? ⟨z, 5, none⟩ = some (.int .i64 pb) := hA7.cell 5 rfl
  have y6 : w9.cell? ⟨z, 6, none⟩ = some (.int .i64 0) := hA7.cell 6 rfl
  have y7 : w9.cell? ⟨z, 7, none⟩ = some (.bool false) := hA7.cell 7 rfl
  have y8 : w9.cell? ⟨z, 8, none⟩ = some (.int .i64 0) := hA7.cell 8 rfl
  have y9 : w9.cell? ⟨z, 9, none⟩ = some (.slice none 0 0) := hA7.cell 9 rfl
  have y10 : w9.cell? ⟨z, 10, none⟩ = some (.int .i64 0) := hA7.cell 10 rfl
  have y11 : w9.cell? ⟨z, 11, none⟩ = some (.int .i64 0) := hA7.cell 11 rfl
  have y12 : w9.cell? ⟨z, 12, none⟩ = some (.string ⟨#[]⟩) := hA7.cell 12 rfl
  refine ⟨rfl, .agg #[.int .i64 21, .int .i64 pa, .int .i64 0, .string ⟨#[]⟩, .bool false, .int .i64 pb, .int .i64 0, .bool false, .int .i64 0, .slice none 0 0, .int .i64 0, .int .i64 0, .string ⟨#[]⟩], ?_, ?_⟩
  · simp [results, Try.f24, go_sem, y0, y1, y2, y3, y4, y5, y6, y7, y8, y9, y10, y11, y12]
  · have hPA := HPA.out
    have hPB := HPB.out
    subst hPA
    subst hPB
    exact FfQ.plain (genF 21 A B C (few s) fin [(0, 1)]) rfl rfl hO7 rfl
set_option maxRecDepth 100000 in
set_option maxHeartbeats 4000000 in
theorem ff_13 (ty A B C : Int) (s : ByteArray) (fin : Bool) (sv : Value) (SL : List (Int × Int)) (w : World) (hS : RgAt w sv SL) (h1 : -9223372036854775808 ≤ ty ∧ ty ≤ 9223372036854775807) (h2 : -9223372036854775808 ≤ A ∧ A ≤ 9223372036854775807) (h3 : -9223372036854775808 ≤ B ∧ B ≤ 9223372036854775807) (h4 : -9223372036854775808 ≤ C ∧ C ≤ 9223372036854775807) (h5 : s.size ≤ 9223372036854775807) (hj : pkZ ty 21 = 13) :
    Calls Try.prog 24 #[.agg (fpC ty A B C s fin sv)] w (FfQ 22 A B C s fin w) := by
  unfold fpC
  have hp0 := fun ww => pk9 ty 21 ww h1.1 h1.2 (by omega)
  rw [hj] at hp0
  obtain ⟨sa, sc, rfl, hss⟩ := hS
  have HS : Hid (RgAt w (.slice sa SL.length sc) SL) := Lib.hid ⟨sa, sc, rfl, hss⟩
  clear hss
  obtain ⟨pa, hpa⟩ : ∃ pa, pkZ A 4611686018427387904 = pa := ⟨_, rfl⟩
  obtain ⟨pb, hpb⟩ : ∃ pb, pkZ B 4611686018427387904 = pb := ⟨_, rfl⟩
  have hp1 := fun ww => pk9 A 4611686018427387904 ww h2.1 h2.2 (by omega)
  have hp2 := fun ww => pk9 B 4611686018427387904 ww h3.1 h3.2 (by omega)
  have ba := pkZ_bd A 4611686018427387904 (by omega)
  have bb := pkZ_bd B 4611686018427387904 (by omega)
  rw [hpa] at hp1 ba
  rw [hpb] at hp2 bb
  have HPA := Lib.hid hpa
  have HPB := Lib.hid hpb
  clear hpa hpb hj
  go_enter Try.func24, Try.ntmps24
  go_upto_region 2 with fail
  have hP := ((At.new w 46 #[.int .i64 ty, .int .i64 A, .int .i64 B, .int .i64 C, .string s, .bool fin, .slice sa SL.length sc]).alloc (.cells #[.int .i64 0, .int .i64 0, .int .i64 0, .string ⟨#[]⟩, .bool false, .int .i64 0, .int .i64 0, .bool false, .int .i64 0, .slice none 0 0, .int .i64 0, .int .i64 0, .string ⟨#[]⟩] 33)).alloc (.cells #[.int .i64 0, .int .i64 1, .int .i64 2, .int .i64 4, .int .i64 5, .int .i64 6, .int .i64 7, .int .i64 8, .int .i64 16, .int .i64 17, .int .i64 18, .int .i64 20, .int .i64 21, .int .i64 22, .int .i64 24, .int .i64 25, .int .i64 26, .int .i64 27, .int .i64 28, .int .i64 29, .int .i64 30] 3)
  have hZ := (At.new (w.alloc (.cells #[.int .i64 ty, .int .i64 A, .int .i64 B, .int .i64 C, .string s, .bool fin, .slice sa SL.length sc] 46)) 33 #[.int .i64 0, .int .i64 0, .int .i64 0, .string ⟨#[]⟩, .bool false, .int .i64 0, .int .i64 0, .bool false, .int .i64 0, .slice none 0 0, .int .i64 0, .int .i64 0, .string ⟨#[]⟩]).alloc (.cells #[.int .i64 0, .int .i64 1, .int .i64 2, .int .i64 4, .int .i64 5, .int .i64 6, .int .i64 7, .int .i64 8, .int .i64 16, .int .i64 17, .int .i64 18, .int .i64 20, .int .i64 21, .int .i64 22, .int .i64 24, .int .i64 25, .int .i64 26, .int .i64 27, .int .i64 28, .int .i64 29, .int .i64 30] 3)
  have hT := At.new ((w.alloc (.cells #[.int .i64 ty, .int .i64 A, .int .i64 B, .int .i64 C, .string s, .bool fin, .slice sa SL.length sc] 46)).alloc (.cells #[.int .i64 0, .int .i64 0, .int .i64 0, .string ⟨#[]⟩, .bool false, .int .i64 0, .int .i64 0, .bool false, .int .i64 0, .slice none 0 0, .int .i64 0, .int .i64 0, .string ⟨#[]⟩] 33)) 3 #[.int .i64 0, .int .i64 1, .int .i64 2, .int .i64 4, .int .i64 5, .int .i64 6, .int .i64 7, .int .i64 8, .int .i64 16, .int .i64 17, .int .i64 18, .int .i64 20, .int .i64 21, .int .i64 22, .int .i64 24, .int .i64 25, .int .i64 26, .int .i64 27, .int .i64 28, .int .i64 29, .int .i64 30]
  have hO := (((Only.refl [] w).alloc (.cells #[.int .i64 ty, .int .i64 A, .int .i64 B, .int .i64 C, .string s, .bool fin, .slice sa SL.length sc] 46)).alloc (.cells #[.int .i64 0, .int .i64 0, .int .i64 0, .string ⟨#[]⟩, .bool false, .int .i64 0, .int .i64 0, .bool false, .int .i64 0, .slice none 0 0, .int .i64 0, .int .i64 0, .string ⟨#[]⟩] 33)).alloc (.cells #[.int .i64 0, .int .i64 1, .int .i64 2, .int .i64 4, .int .i64 5, .int .i64 6, .int .i64 7, .int .i64 8, .int .i64 16, .int .i64 17, .int .i64 18, .int .i64 20, .int .i64 21, .int .i64 22, .int .i64 24, .int .i64 25, .int .i64 26, .int .i64 27, .int .i64 28, .int .i64 29, .int .i64 30] 3)
  rw [World.size_alloc] at hZ
  rw [World.size_alloc, World.size_alloc] at hT
  generalize ((w.alloc (.cells #[.int .i64 ty, .int .i64 A, .int .i64 B, .int .i64 C, .string s, .bool fin, .slice sa SL.length sc] 46)).alloc (.cells #[.int .i64 0, .int .i64 0, .int .i64 0, .string ⟨#[]⟩, .bool false, .int .i64 0, .int .i64 0, .bool false, .int .i64 0, .slice none 0 0, .int .i64 0, .int .i64 0, .string ⟨#[]⟩] 33)).alloc (.cells #[.int .i64 0, .int .i64 1, .int .i64 2, .int .i64 4, .int .i64 5, .int .i64 6, .int .i64 7, .int .i64 8, .int .i64 16, .int .i64 17, .int .i64 18, .int .i64 20, .int .i64 21, .int .i64 22, .int .i64 24, .int .i64 25, .int .i64 26, .int .i64 27, .int .i64 28, .int .i64 29, .int .i64 30] 3) = w2 at hP hZ hT hO ⊢
  obtain ⟨p, hp⟩ : ∃ p, w.heap.size = p := ⟨_, rfl⟩
  rw [hp] at hP hZ hT ⊢
  have hpz := hp
  obtain ⟨z, hz⟩ : ∃ z, p + 1 = z := ⟨_, rfl⟩
  rw [hz] at hZ hT ⊢
  have c0 : w2.cell? ⟨p, 0, none⟩ = some (.int .i64 ty) := hP.cell 0 rfl
  have t0 : w2.cell? ⟨z + 1, 13, none⟩ = some (.int .i64 22) := hT.cell 13 rfl
  clear hT
  go_wp2_with fail
  refine (hp0 _).mono ?_
  rintro e w3 ⟨rfl, rfl⟩
  go_upto_region 3 with fail
  replace hP := hP.alloc (.cells #[.int .i64 22, .int .i64 0, .int .i64 0, .string ⟨#[]⟩, .bool false, .int .i64 0, .int .i64 0, .bool false, .int .i64 0, .slice none 0 0, .int .i64 0, .int .i64 0, .string ⟨#[]⟩] 33)
  replace hZ := hZ.alloc (.cells #[.int .i64 22, .int .i64 0, .int .i64 0, .string ⟨#[]⟩, .bool false, .int .i64 0, .int .i64 0, .bool false, .int .i64 0, .slice none 0 0, .int .i64 0, .int .i64 0, .string ⟨#[]⟩] 33)
  have hF := At.new w2 33 #[.int .i64 22, .int .i64 0, .int .i64 0, .string ⟨#[]⟩, .bool false, .int .i64 0, .int .i64 0, .bool false, .int .i64 0, .slice none 0 0, .int .i64 0, .int .i64 0, .string ⟨#[]⟩]
  have hbz : w.heap.size ≤ w2.heap.size := hO.size
  have hpl : p < w2.heap.size ∧ z < w2.heap.size := ⟨by have := hZ.lt; have := hP.lt; have := World.block_lt_of_cell? _ _ c0; exact this, by have := World.block_lt_of_cell? _ _ t0; simp at this; omega⟩
  replace hO := hO.alloc (.cells #[.int .i64 22, .int .i64 0, .int .i64 0, .string ⟨#[]⟩, .bool false, .int .i64 0, .int .i64 0, .bool false, .int .i64 0, .slice none 0 0, .int .i64 0, .int .i64 0, .string ⟨#[]⟩] 33)
  clear c0 t0 hp0
  generalize w2.alloc (.cells #[.int .i64 22, .int .i64 0, .int .i64 0, .string ⟨#[]⟩, .bool false, .int .i64 0, .int .i64 0, .bool false, .int .i64 0, .slice none 0 0, .int .i64 0, .int .i64 0, .string ⟨#[]⟩] 33) = w3 at hP hZ hF hO ⊢
  obtain ⟨b, hb⟩ : ∃ b, w2.heap.size = b := ⟨_, rfl⟩
  rw [hb] at hF hbz hpl ⊢
  have HN : Hid (p ≠ b ∧ z ≠ b ∧ w.heap.size ≤ b ∧ w.heap.size ≤ z) := Lib.hid ⟨by omega, by omega, hbz, by omega⟩
  clear hb hpl hz hbz
  have c0 : w3.cell? ⟨p, 0, none⟩ = some (.int .i64 ty) := hP.cell 0 rfl
  have c1 : w3.cell? ⟨p, 1, none⟩ = some (.int .i64 A) := hP.cell 1 rfl
  have c2 : w3.cell? ⟨p, 2, none⟩ = some (.int .i64 B) := hP.cell 2 rfl
  have c3 : w3.cell? ⟨p, 3, none⟩ = some (.int .i64 C) := hP.cell 3 rfl
  have c4 : w3.cell? ⟨p, 4, none⟩ = some (.string s) := hP.cell 4 rfl
  have c5 : w3.cell? ⟨p, 5, none⟩ = some (.bool fin) := hP.cell 5 rfl
  have c6 : w3.cell? ⟨p, 6, none⟩ = some (.slice sa SL.length sc) := hP.cell 6 rfl
  have f0 : w3.cell? ⟨b, 0, none⟩ = some (.int .i64 22) := hF.cell 0 rfl
  have f1 : w3.cell? ⟨b, 1, none⟩ = some (.int .i64 0) := hF.cell 1 rfl
  have f2 : w3.cell? ⟨b, 2, none⟩ = some (.int .i64 0) := hF.cell 2 rfl
  have f3 : w3.cell? ⟨b, 3, none⟩ = some (.string ⟨#[]⟩) := hF.cell 3 rfl
  have f4 : w3.cell? ⟨b, 4, none⟩ = some (.bool false) := hF.cell 4 rfl
  have f5 : w3.cell? ⟨b, 5, none⟩ = some (.int .i64 0) := hF.cell 5 rfl
  have f6 : w3.cell? ⟨b, 6, none⟩ = some (.int .i64 0) := hF.cell 6 rfl
  have f7 : w3.cell? ⟨b, 7, none⟩ = some (.bool false) := hF.cell 7 rfl
  have f8 : w3.cell? ⟨b, 8, none⟩ = some (.int .i64 0) := hF.cell 8 rfl
  have f9 : w3.cell? ⟨b, 9, none⟩ = some (.slice none 0 0) := hF.cell 9 rfl
  have f10 : w3.cell? ⟨b, 10, none⟩ = some (.int .i64 0) := hF.cell 10 rfl
  have f11 : w3.cell? ⟨b, 11, none⟩ = some (.int .i64 0) := hF.cell 11 rfl
  have f12 : w3.cell? ⟨b, 12, none⟩ = some (.string ⟨#[]⟩) := hF.cell 12 rfl
  have hfr := fun i => hF.free i
  have em : min (s.size : Int) 60 = ((min s.size 60 : Nat) : Int) := by omega
  have ex : s.extract 0 (min s.size 60) = strB (few s) := few_str s _ rfl
  go_wp2_with fail
  refine (hp1 _).mono ?_
  rintro e wx ⟨rfl, rfl⟩
  go_wp2_with fail
  refine (hp2 _).mono ?_
  rintro e wx ⟨rfl, rfl⟩
  go_upto_region 37 with fail
  clear c0 c1 c2 c3 c4 c5 c6 f0 f1 f2 f3 f4 f5 f6 f7 f8 f9 f10 f11 f12 hfr
  replace hP := hP.far (p := ⟨b, 7, none⟩) HN.out.1 (.bool fin)
  replace hZ := hZ.far (p := ⟨b, 7, none⟩) HN.out.2.1 (.bool fin)
  replace hF := hF.set 7 (.bool fin) (cs' := #[.int .i64 22, .int .i64 0, .int .i64 0, .string ⟨#[]⟩, .bool false, .int .i64 0, .int .i64 0, .bool fin, .int .i64 0, .slice none 0 0, .int .i64 0, .int .i64 0, .string ⟨#[]⟩]) rfl
  replace hO := hO.putn (g := b) (i := 7) HN.out.2.2.1 (.bool fin)
  generalize w3.setCell ⟨b, 7, none⟩ (.bool fin) = w4 at hP hZ hF hO ⊢
  have c0 : w4.cell? ⟨p, 0, none⟩ = some (.int .i64 ty) := hP.cell 0 rfl
  have c1 : w4.cell? ⟨p, 1, none⟩ = some (.int .i64 A) := hP.cell 1 rfl
  have c2 : w4.cell? ⟨p, 2, none⟩ = some (.int .i64 B) := hP.cell 2 rfl
  have c3 : w4.cell? ⟨p, 3, none⟩ = some (.int .i64 C) := hP.cell 3 rfl
  have c4 : w4.cell? ⟨p, 4, none⟩ = some (.string s) := hP.cell 4 rfl
  have c5 : w4.cell? ⟨p, 5, none⟩ = some (.bool fin) := hP.cell 5 rfl
  have c6 : w4.cell? ⟨p, 6, none⟩ = some (.slice sa SL.length sc) := hP.cell 6 rfl
  have f0 : w4.cell? ⟨b, 0, none⟩ = some (.int .i64 22) := hF.cell 0 rfl
  have f1 : w4.cell? ⟨b, 1, none⟩ = some (.int .i64 0) := hF.cell 1 rfl
  have f2 : w4.cell? ⟨b, 2, none⟩ = some (.int .i64 0) := hF.cell 2 rfl
  have f3 : w4.cell? ⟨b, 3, none⟩ = some (.string ⟨#[]⟩) := hF.cell 3 rfl
  have f4 : w4.cell? ⟨b, 4, none⟩ = some (.bool false) := hF.cell 4 rfl
  have f5 : w4.cell? ⟨b, 5, none⟩ = some (.int .i64 0) := hF.cell 5 rfl
  have f6 : w4.cell? ⟨b, 6, none⟩ = some (.int .i64 0) := hF.cell 6 rfl
  have f7 : w4.cell? ⟨b, 7, none⟩ = some (.bool fin) := hF.cell 7 rfl
  have f8 : w4.cell? ⟨b, 8, none⟩ = some (.int .i64 0) := hF.cell 8 rfl
  have f9 : w4.cell? ⟨b, 9, none⟩ = some (.slice none 0 0) := hF.cell 9 rfl
  have f10 : w4.cell? ⟨b, 10, none⟩ = some (.int .i64 0) := hF.cell 10 rfl
  have f11 : w4.cell? ⟨b, 11, none⟩ = some (.int .i64 0) := hF.cell 11 rfl
  have f12 : w4.cell? ⟨b, 12, none⟩ = some (.string ⟨#[]⟩) := hF.cell 12 rfl
  have hfr := fun i => hF.free i
  go_upto_region 51 with fail
  clear c0 c1 c2 c3 c4 c5 c6 f0 f1 f2 f3 f4 f5 f6 f7 f8 f9 f10 f11 f12 hfr
  replace hP := hP.far (p := ⟨b, 5, none⟩) HN.out.1 (.int .i64 pa)
  replace hZ := hZ.far (p := ⟨b, 5, none⟩) HN.out.2.1 (.int .i64 pa)
  replace hF := hF.set 5 (.int .i64 pa) (cs' := #[.int .i64 22, .int .i64 0, .int .i64 0, .string ⟨#[]⟩, .bool false, .int .i64 pa, .int .i64 0, .bool fin, .int .i64 0, .slice none 0 0, .int .i64 0, .int .i64 0, .string ⟨#[]⟩]) rfl
  replace hO := hO.putn (g := b) (i := 5) HN.out.2.2.1 (.int .i64 pa)
  generalize w4.setCell ⟨b, 5, none⟩ (.int .i64 pa) = w5 at hP hZ hF hO ⊢
  have c0 : w5.cell? ⟨p, 0, none⟩ = some (.int .i64 ty) := hP.cell 0 rfl
  have c1 : w5.cell? ⟨p, 1, none⟩ = some (.int .i64 A) := hP.cell 1 rfl
  have c2 : w5.cell? ⟨p, 2, none⟩ = some (.int .i64 B) := hP.cell 2 rfl
  have c3 : w5.cell? ⟨p, 3, none⟩ = some (.int .i64 C) := hP.cell 3 rfl
  have c4 : w5.cell? ⟨p, 4, none⟩ = some (.string s) := hP.cell 4 rfl
  have c5 : w5.cell? ⟨p, 5, none⟩ = some (.bool fin) := hP.cell 5 rfl
  have c6 : w5.cell? ⟨p, 6, none⟩ = some (.slice sa SL.length sc) := hP.cell 6 rfl
  have f0 : w5.cell? ⟨b, 0, none⟩ = some (.int .i64 22) := hF.cell 0 rfl
  have f1 : w5.cell? ⟨b, 1, none⟩ = some (.int .i64 0) := hF.cell 1 rfl
  have f2 : w5.cell? ⟨b, 2, none⟩ = some (.int .i64 0) := hF.cell 2 rfl
  have f3 : w5.cell? ⟨b, 3, none⟩ = some (.string ⟨#[]⟩) := hF.cell 3 rfl
  have f4 : w5.cell? ⟨b, 4, none⟩ = some (.bool false) := hF.cell 4 rfl
  have f5 : w5.cell? ⟨b, 5, none⟩ = some (.int .i64 pa) := hF.cell 5 rfl
  have f6 : w5.cell? ⟨b, 6, none⟩ = some (.int .i64 0) := hF.cell 6 rfl
  have f7 : w5.cell? ⟨b, 7, none⟩ = some (.bool fin) := hF.cell 7 rfl
  have f8 : w5.cell? ⟨b, 8, none⟩ = some (.int .i64 0) := hF.cell 8 rfl
  have f9 : w5.cell? ⟨b, 9, none⟩ = some (.slice none 0 0) := hF.cell 9 rfl
  have f10 : w5.cell? ⟨b, 10, none⟩ = some (.int .i64 0) := hF.cell 10 rfl
  have f11 : w5.cell? ⟨b, 11, none⟩ = some (.int .i64 0) := hF.cell 11 rfl
  have f12 : w5.cell? ⟨b, 12, none⟩ = some (.string ⟨#[]⟩) := hF.cell 12 rfl
  have hfr := fun i => hF.free i
  have z0 : w5.cell? ⟨z, 0, none⟩ = some (.int .i64 0) := hZ.cell 0 rfl
  have z1 : w5.cell? ⟨z, 1, none⟩ = some (.int .i64 0) := hZ.cell 1 rfl
  have z2 : w5.cell? ⟨z, 2, none⟩ = some (.int .i64 0) := hZ.cell 2 rfl
  have z3 : w5.cell? ⟨z, 3, none⟩ = some (.string ⟨#[]⟩) := hZ.cell 3 rfl
  have z4 : w5.cell? ⟨z, 4, none⟩ = some (.bool false) := hZ.cell 4 rfl
  have z5 : w5.cell? ⟨z, 5, none⟩ = some (.int .i64 0) := hZ.cell 5 rfl
  have z6 : w5.cell? ⟨z, 6, none⟩ = some (.int .i64 0) := hZ.cell 6 rfl
  have z7 : w5.cell? ⟨z, 7, none⟩ = some (.bool false) := hZ.cell 7 rfl
  have z8 : w5.cell? ⟨z, 8, none⟩ = some (.int .i64 0) := hZ.cell 8 rfl
  have z9 : w5.cell? ⟨z, 9, none⟩ = some (.slice none 0 0) := hZ.cell 9 rfl
  have z10 : w5.cell? ⟨z, 10, none⟩ = some (.int .i64 0) := hZ.cell 10 rfl
  have z11 : w5.cell? ⟨z, 11, none⟩ = some (.int .i64 0) := hZ.cell 11 rfl
  have z12 : w5.cell? ⟨z, 12, none⟩ = some (.string ⟨#[]⟩) := hZ.cell 12 rfl
  have hfz := fun i => hZ.free i
  go_wp2_with fail
  have hA7 : At (((((((((((((w5.setCell ⟨z, 0, none⟩ (.int .i64 22)).setCell ⟨z, 1, none⟩ (.int .i64 0)).setCell ⟨z, 2, none⟩ (.int .i64 0)).setCell ⟨z, 3, none⟩ (.string ⟨#[]⟩)).setCell ⟨z, 4, none⟩ (.bool false)).setCell ⟨z, 5, none⟩ (.int .i64 pa)).setCell ⟨z, 6, none⟩ (.int .i64 0)).setCell ⟨z, 7, none⟩ (.bool fin)).setCell ⟨z, 8, none⟩ (.int .i64 0)).setCell ⟨z, 9, none⟩ (.slice none 0 0)).setCell ⟨z, 10, none⟩ (.int .i64 0)).setCell ⟨z, 11, none⟩ (.int .i64 0)).setCell ⟨z, 12, none⟩ (.string ⟨#[]⟩)) z 33 #[.int .i64 22, .int .i64 0, .int .i64 0, .string ⟨#[]⟩, .bool false, .int .i64 pa, .int .i64 0, .bool fin, .int .i64 0, .slice none 0 0, .int .i64 0, .int .i64 0, .string ⟨#[]⟩] := (((((((((((((hZ.set 0 (.int .i64 22) rfl).set 1 (.int .i64 0) rfl).set 2 (.int .i64 0) rfl).set 3 (.string ⟨#[]⟩) rfl).set 4 (.bool false) rfl).set 5 (.int .i64 pa) rfl).set 6 (.int .i64 0) rfl).set 7 (.bool fin) rfl).set 8 (.int .i64 0) rfl).set 9 (.slice none 0 0) rfl).set 10 (.int .i64 0) rfl).set 11 (.int .i64 0) rfl).set 12 (.string ⟨#[]⟩) rfl).same (by simp only [List.setIfInBounds_toArray, List.set_cons_zero, List.set_cons_succ])
  have hO7 : Only [] w (((((((((((((w5.setCell ⟨z, 0, none⟩ (.int .i64 22)).setCell ⟨z, 1, none⟩ (.int .i64 0)).setCell ⟨z, 2, none⟩ (.int .i64 0)).setCell ⟨z, 3, none⟩ (.string ⟨#[]⟩)).setCell ⟨z, 4, none⟩ (.bool false)).setCell ⟨z, 5, none⟩ (.int .i64 pa)).setCell ⟨z, 6, none⟩ (.int .i64 0)).setCell ⟨z, 7, none⟩ (.bool fin)).setCell ⟨z, 8, none⟩ (.int .i64 0)).setCell ⟨z, 9, none⟩ (.slice none 0 0)).setCell ⟨z, 10, none⟩ (.int .i64 0)).setCell ⟨z, 11, none⟩ (.int .i64 0)).setCell ⟨z, 12, none⟩ (.string ⟨#[]⟩)) := (((((((((((((hO.putn (g := z) (i := 0) HN.out.2.2.2 (.int .i64 22)).putn (g := z) (i := 1) HN.out.2.2.2 (.int .i64 0)).putn (g := z) (i := 2) HN.out.2.2.2 (.int .i64 0)).putn (g := z) (i := 3) HN.out.2.2.2 (.string ⟨#[]⟩)).putn (g := z) (i := 4) HN.out.2.2.2 (.bool false)).putn (g := z) (i := 5) HN.out.2.2.2 (.int .i64 pa)).putn (g := z) (i := 6) HN.out.2.2.2 (.int .i64 0)).putn (g := z) (i := 7) HN.out.2.2.2 (.bool fin)).putn (g := z) (i := 8) HN.out.2.2.2 (.int .i64 0)).putn (g := z) (i := 9) HN.out.2.2.2 (.slice none 0 0)).putn (g := z) (i := 10) HN.out.2.2.2 (.int .i64 0)).putn (g := z) (i := 11) HN.out.2.2.2 (.int .i64 0)).putn (g := z) (i := 12) HN.out.2.2.2 (.string ⟨#[]⟩))
  clear z0 z1 z2 z3 z4 z5 z6 z7 z8 z9 z10 z11 z12 hfz
  clear c0 c1 c2 c3 c4 c5 c6 f0 f1 f2 f3 f4 f5 f6 f7 f8 f9 f10 f11 f12 hfr
  generalize (((((((((((((w5.setCell ⟨z, 0, none⟩ (.int .i64 22)).setCell ⟨z, 1, none⟩ (.int .i64 0)).setCell ⟨z, 2, none⟩ (.int .i64 0)).setCell ⟨z, 3, none⟩ (.string ⟨#[]⟩)).setCell ⟨z, 4, none⟩ (.bool false)).setCell ⟨z, 5, none⟩ (.int .i64 pa)).setCell ⟨z, 6, none⟩ (.int .i64 0)).setCell ⟨z, 7, none⟩ (.bool fin)).setCell ⟨z, 8, none⟩ (.int .i64 0)).setCell ⟨z, 9, none⟩ (.slice none 0 0)).setCell ⟨z, 10, none⟩ (.int .i64 0)).setCell ⟨z, 11, none⟩ (.int .i64 0)).setCell ⟨z, 12, none⟩ (.string ⟨#[]⟩)) = w9 at hA7 hO7 ⊢
  have y0 : w9.cell? ⟨z, 0, none⟩ = some (.int .i64 22) := hA7.cell 0 rfl
  have y1 : w9.cell? ⟨z, 1, none⟩ = some (.int .i64 0) := hA7.cell 1 rfl
  have y2 : w9.cell? ⟨z, 2, none⟩ = some (.int .i64 0) := hA7.cell 2 rfl
  have y3 : w9.cell? ⟨z, 3, none⟩ = some (.string ⟨#[]⟩) := hA7.cell 3 rfl
  have y4 : w9.cell? ⟨z, 4, none⟩ = some (.bool false) := hA7.cell 4 rfl
  have y5 : w9.cell? ⟨z, 5, none⟩ = some (.int .i64 pa) := hA7.cell 5 rfl
  have y6 : w9.cell? ⟨z, 6, none⟩ = some (.int .i64 0) := hA7.cell 6 rfl
  have y7 : w9.cell? ⟨z, 7, none⟩ = some (.bool fin) := hA7.cell 7 rfl
  have y8 : w9.cell? ⟨z, 8, none⟩ = some (.int .i64 0) := hA7.cell 8 rfl
  have y9 : w9.cell? ⟨z, 9, none⟩ = some (.slice none 0 0) := hA7.cell 9 rfl
  have y10 : w9.cell? ⟨z, 10, none⟩ = some (.int .i64 0) := hA7.cell 10 rfl
  have y11 : w9.cell? ⟨z, 11, none⟩ = some (.int .i64 0) := hA7.cell 11 rfl
  have y12 : w9.cell? ⟨z, 12, none⟩ = some (.string ⟨#[]⟩) := hA7.cell 12 rfl
  refine ⟨rfl, .agg #[.int .i64 22, .int .i64 0, .int .i64 0, .string ⟨#[]⟩, .bool false, .int .i64 pa, .int .i64 0, .bool fin, .int .i64 0, .slice none 0 0, .int .i64 0, .int .i64 0, .string ⟨#[]⟩], ?_, ?_⟩
  · simp [results, Try.f24, go_sem, y0, y1, y2, y3, y4, y5, y6, y7, y8, y9, y10, y11, y12]
  · have hPA := HPA.out
    have hPB := HPB.out
    subst hPA
    subst hPB
    exact FfQ.plain (genF 22 A B C (few s) fin [(0, 1)]) rfl rfl hO7 rfl
end Go.Proofs.Ytmmgmpghkpbgkaa
