/- The walk of the law package's sane. -/
import Derived.Test.YthjlkiilkiggiaaAkP
namespace Go.Proofs.Ythjlkiilkiggiaa
open Go Go.RowKit Go.Shelf
set_option linter.unusedVariables false
set_option linter.unusedSectionVars false
set_option linter.unusedSimpArgs false

set_option maxRecDepth 100000 in
set_option maxHeartbeats 4000000 in
theorem sane_any (w : World) : Calls Try.prog 9 #[] w fun e w' => e = .returned (.bool true) ∧ Below w.heap.size w w' := by
  go_enter Try.func9, Try.ntmps9
  go_wp2_with fail
  refine (new_k 3 _ (by omega) (by omega)).mono ?_
  rintro e w1 ⟨g, rfl, hT, ho, hg⟩
  have hb : Below w.heap.size w w1 := ho.below (by simp) (Nat.le_refl _)
  clear ho
  go_wp2_with fail
  refine (new_bad 21 _ (by omega)).mono ?_
  rintro e wk ⟨rfl, rfl⟩
  go_wp2_with fail
  refine (new_bad (-1) _ (by omega)).mono ?_
  rintro e wk ⟨rfl, rfl⟩
  go_wp2_with fail
  refine (recv_ok g [] 3 0 (-1) 0 0 (-1) 10 0 true _ hT (by omega) (by omega) (by omega) (by omega) (by omega) (by simp [In]) (by omega) (by omega) (by omega) (by omega) (by omega) (by omega)).mono ?_
  rintro e w2 ⟨rfl, hX, ho⟩
  replace hT := hX.same (L' := [(0, 1)]) (fl' := 0) (lg' := 0) (wh' := 10) (ct' := 1) (du' := 13) (by decide) (by decide) (by decide) (by decide) (by decide) (by decide)
  replace hb := hb.trans (ho.below (by simpa using hg) hb.size)
  clear hX ho
  go_wp2_with fail
  refine (pending_k g _ _ _ _ _ _ _ _ hT 12 false (by decide)).mono ?_
  rintro e w3 ⟨rfl, hX, ho⟩
  replace hT := hX
  replace hb := hb.trans (ho.below (by simp) hb.size)
  clear hX ho
  go_wp2_with fail
  refine (pending_k g _ _ _ _ _ _ _ _ hT 13 true (by decide)).mono ?_
  rintro e w4 ⟨rfl, hX, ho⟩
  replace hT := hX
  replace hb := hb.trans (ho.below (by simp) hb.size)
  clear hX ho
  go_wp2_with fail
  refine (recv_ok g _ _ _ _ _ _ _ 10 1 false _ hT (by omega) (by omega) (by omega) (by omega) (by omega) (by simp [In]) (by omega) (by omega) (by omega) (by omega) (by omega) (by omega)).mono ?_
  rintro e w5 ⟨rfl, hX, ho⟩
  replace hT := hX.same (L' := [(0, 2)]) (fl' := 0) (lg' := 1) (wh' := 10) (ct' := 1) (du' := 13) (by decide) (by decide) (by decide) (by decide) (by decide) (by decide)
  replace hb := hb.trans (ho.below (by simpa using hg) hb.size)
  clear hX ho
  go_wp2_with fail
  refine (recv_ok g _ _ _ _ _ _ _ 10 5 false _ hT (by omega) (by omega) (by omega) (by omega) (by omega) (by simp [In]) (by omega) (by omega) (by omega) (by omega) (by omega) (by omega)).mono ?_
  rintro e w6 ⟨rfl, hX, ho⟩
  replace hT := hX.same (L' := [(0, 2), (5, 6)]) (fl' := 0) (lg' := 5) (wh' := 10) (ct' := 1) (du' := 13) (by decide) (by decide) (by decide) (by decide) (by decide) (by decide)
  replace hb := hb.trans (ho.below (by simpa using hg) hb.size)
  clear hX ho
  go_wp2_with fail
  refine (frame_two g 12 0 2 5 6 _ _ _ _ _ _ (by omega) (by omega) (by omega) (by omega) (by omega) _ hT).mono ?_
  rintro e w7 ⟨r, rfl, hR, hr, ho⟩
  rw [show (12 : Int) - 10 = 2 from rfl]
  have hrw : w.heap.size ≤ r := Nat.le_trans hb.size hr
  have hgr : r ≠ g := by have := hT.lt; omega
  replace hT := hT.below ho hT.lt
  replace hb := hb.trans (ho.mono hb.size)
  clear ho hr
  have hq : ∃ q, w7.heap.size = q := ⟨_, rfl⟩
  obtain ⟨q, hq⟩ := hq
  have hF := At.new w7 57 #[.int .i64 2, .int .i64 0, .int .i64 0, .string { data := #[] }, .bool false, .int .i64 0, .int .i64 0, .bool false, .int .i64 2, .slice (some ⟨r, 0, none⟩) 2 2, .int .i64 0, .int .i64 0, .string { data := #[] }]
  have hqr : q ≠ r := by have := hR.lt; omega
  have hqg : q ≠ g := by have := hT.lt; omega
  have hqw : w.heap.size ≤ q := by have := hb.size; omega
  replace hR := hR.alloc (.cells #[.int .i64 2, .int .i64 0, .int .i64 0, .string { data := #[] }, .bool false, .int .i64 0, .int .i64 0, .bool false, .int .i64 2, .slice (some ⟨r, 0, none⟩) 2 2, .int .i64 0, .int .i64 0, .string { data := #[] }] 57)
  replace hT := hT.alloc (.cells #[.int .i64 2, .int .i64 0, .int .i64 0, .string { data := #[] }, .bool false, .int .i64 0, .int .i64 0, .bool false, .int .i64 2, .slice (some ⟨r, 0, none⟩) 2 2, .int .i64 0, .int .i64 0, .string { data := #[] }] 57)
  replace hb := hb.alloc hb.size (.cells #[.int .i64 2, .int .i64 0, .int .i64 0, .string { data := #[] }, .bool false, .int .i64 0, .int .i64 0, .bool false, .int .i64 2, .slice (some ⟨r, 0, none⟩) 2 2, .int .i64 0, .int .i64 0, .string { data := #[] }] 57)
  go_wp2_with fail
  obtain ⟨w8, hw8⟩ : ∃ w8, w7.alloc (.cells #[.int .i64 2, .int .i64 0, .int .i64 0, .string { data := #[] }, .bool false, .int .i64 0, .int .i64 0, .bool false, .int .i64 2, .slice (some ⟨r, 0, none⟩) 2 2, .int .i64 0, .int .i64 0, .string { data := #[] }] 57) = w8 := ⟨_, rfl⟩
  rw [hw8] at hR hT hb hF ⊢
  rw [hq] at hF
  clear hw8 hq
  refine (recv_dup g _ _ _ _ _ _ _ 11 5 true _ hT (by omega) (by omega) (by omega) (by omega) (.inr (by simp [In]))).mono ?_
  rintro e w9 ⟨rfl, hX, ho⟩
  replace hT := hX
  replace hR := hR.keep ho (by simp)
  replace hF := hF.keep ho (by simp)
  replace hb := hb.trans (ho.below (by simp) hb.size)
  clear hX ho
  go_wp2_with fail
  refine (deadline_k g _ _ _ _ _ _ _ _ hT).mono ?_
  rintro e wk ⟨rfl, rfl⟩
  go_wp2_with fail
  refine (sent_k g _ _ _ _ _ _ _ _ hT).mono ?_
  rintro e w10 ⟨rfl, hX, ho⟩
  replace hT := hX
  replace hR := hR.keep ho (by simpa using hgr)
  replace hF := hF.keep ho (by simpa using hqg)
  replace hb := hb.trans (ho.below (by simpa using hg) hb.size)
  clear hX ho
  go_wp2_with fail
  refine (recv_ok g _ _ _ _ _ _ _ 11 3 true _ hT (by omega) (by omega) (by omega) (by omega) (by omega) (by simp [In]) (by omega) (by omega) (by omega) (by omega) (by omega) (by omega)).mono ?_
  rintro e w11 ⟨rfl, hX, ho⟩
  replace hT := hX.same (L' := [(0, 2), (3, 4), (5, 6)]) (fl' := 0) (lg' := 5) (wh' := 10) (ct' := 1) (du' := 11) (by decide) (by decide) (by decide) (by decide) (by decide) (by decide)
  replace hR := hR.keep ho (by simpa using hgr)
  replace hF := hF.keep ho (by simpa using hqg)
  replace hb := hb.trans (ho.below (by simpa using hg) hb.size)
  clear hX ho
  go_wp2_with fail
  refine (frame_nil _).mono ?_
  rintro e w12 ⟨rfl, ho⟩
  replace hT := hT.below ho hT.lt
  replace hR := hR.below ho hR.lt
  replace hF := hF.below ho hF.lt
  replace hb := hb.trans (ho.mono hb.size)
  clear ho
  have hq12 : q < w12.heap.size := hF.lt
  have hr12 : r < w12.heap.size := hR.lt
  have d0 : w12.cell? ⟨q, 0, none⟩ = some (.int .i64 2) := hF.cell 0 rfl
  have d8 : w12.cell? ⟨q, 8, none⟩ = some (.int .i64 2) := hF.cell 8 rfl
  have d9 : w12.cell? ⟨q, 9, none⟩ = some (.slice (some ⟨r, 0, none⟩) 2 2) := hF.cell 9 rfl
  replace hT := hT.alloc (.cells #[.int .i64 0, .int .i64 0, .int .i64 0, .string { data := #[] }, .bool false, .int .i64 0, .int .i64 0, .bool false, .int .i64 0, .slice none 0 0, .int .i64 0, .int .i64 0, .string { data := #[] }] 57)
  replace hR := hR.alloc (.cells #[.int .i64 0, .int .i64 0, .int .i64 0, .string { data := #[] }, .bool false, .int .i64 0, .int .i64 0, .bool false, .int .i64 0, .slice none 0 0, .int .i64 0, .int .i64 0, .string { data := #[] }] 57)
  replace hF := hF.alloc (.cells #[.int .i64 0, .int .i64 0, .int .i64 0, .string { data := #[] }, .bool false, .int .i64 0, .int .i64 0, .bool false, .int .i64 0, .slice none 0 0, .int .i64 0, .int .i64 0, .string { data := #[] }] 57)
  replace hb := hb.alloc hb.size (.cells #[.int .i64 0, .int .i64 0, .int .i64 0, .string { data := #[] }, .bool false, .int .i64 0, .int .i64 0, .bool false, .int .i64 0, .slice none 0 0, .int .i64 0, .int .i64 0, .string { data := #[] }] 57)
  have f0 : (w12.alloc (.cells #[.int .i64 0, .int .i64 0, .int .i64 0, .string { data := #[] }, .bool false, .int .i64 0, .int .i64 0, .bool false, .int .i64 0, .slice none 0 0, .int .i64 0, .int .i64 0, .string { data := #[] }] 57)).cell? ⟨q, 0, none⟩ = some (.int .i64 2) := hF.cell 0 rfl
  have f8 : (w12.alloc (.cells #[.int .i64 0, .int .i64 0, .int .i64 0, .string { data := #[] }, .bool false, .int .i64 0, .int .i64 0, .bool false, .int .i64 0, .slice none 0 0, .int .i64 0, .int .i64 0, .string { data := #[] }] 57)).cell? ⟨q, 8, none⟩ = some (.int .i64 2) := hF.cell 8 rfl
  have HT := Lib.hid hT
  have HR := Lib.hid hR
  have HF := Lib.hid hF
  have HB := Lib.hid hb
  clear hT hR hF hb
  go_wp2_with fail
  have hT := HT.out.alloc (.cells #[.int .i64 5, .int .i64 6, .int .i64 0, .int .i64 2] 40)
  have hR := HR.out.alloc (.cells #[.int .i64 5, .int .i64 6, .int .i64 0, .int .i64 2] 40)
  have hS := At.new (w12.alloc (.cells #[.int .i64 0, .int .i64 0, .int .i64 0, .string { data := #[] }, .bool false, .int .i64 0, .int .i64 0, .bool false, .int .i64 0, .slice none 0 0, .int .i64 0, .int .i64 0, .string { data := #[] }] 57)) 40 #[.int .i64 5, .int .i64 6, .int .i64 0, .int .i64 2]
  have hb := HB.out.alloc HB.out.size (.cells #[.int .i64 5, .int .i64 6, .int .i64 0, .int .i64 2] 40)
  clear HT HR HF HB f0 f8 d0 d8 d9
  simp only [World.size_alloc] at hS
  refine (same_two _ _ _ _ _ _ _ hR hS).mono ?_
  rintro e w13 ⟨rfl, ho⟩
  replace hT := hT.below ho hT.lt
  replace hb := hb.trans (ho.mono hb.size)
  clear ho hR hS
  go_wp2_with fail
  refine (pending_k g _ _ _ _ _ _ _ _ hT 11 true (by decide)).mono ?_
  rintro e w14 ⟨rfl, hX, ho⟩
  replace hT := hX
  replace hb := hb.trans (ho.below (by simp) hb.size)
  clear hX ho
  go_wp2_with fail
  refine (largest_k g _ _ _ _ _ _ _ _ hT).mono ?_
  rintro e wk ⟨rfl, rfl⟩
  go_wp2_with fail
  refine (recv_nil _).mono ?_
  rintro e wk ⟨rfl, rfl⟩
  go_wp2_with fail
  refine (largest_nil _).mono ?_
  rintro e wk ⟨rfl, rfl⟩
  go_wp2_with fail
  refine (deadline_nil _).mono ?_
  rintro e wk ⟨rfl, rfl⟩
  go_wp2_with fail
  go_ret
  exact ⟨rfl, hb⟩
end Go.Proofs.Ythjlkiilkiggiaa
