/- Contracts of the reference's encodings: Encode. -/
import Derived.Test.YtmmgmpghkpbgkaaRdI
import Derived.Test.YtmmgmpghkpbgkaaRdH
import Derived.Deep.RegionHeld3
import Derived.Deep.CutRange
import Derived.Test.YtmmgmpghkpbgkaaRdA
namespace Go.Proofs.Ytmmgmpghkpbgkaa
open Go Go.RowKit
set_option linter.unusedVariables false
set_option linter.unusedSimpArgs false

theorem rparts_w (f : Fr) (rv : Value) (w : World) (hL : RgAt w rv f.rg) (hr : f.rg.length ≤ 16) (hS : (strB f.S).size ≤ 1100) (hC : (strB f.cid).size ≤ 1100) (hty : ∃ l, tab f.ty = some l) : Calls Try.prog 64 #[.agg (frC f rv)] w (StrQ 4000 w) := by
  obtain ⟨ra, rc, rfl, hcs⟩ := hL
  have hL : RgAt w (.slice ra f.rg.length rc) f.rg := ⟨ra, rc, rfl, hcs⟩
  clear hcs
  obtain ⟨k, st, off, S, fin, mx, cd, uni, dl, rg, sq, rt, cid⟩ := f
  simp only at hL hS hC hr hty
  by_cases k0 : k = 0
  · subst k0
    exact parts_0 st off mx cd dl sq rt fin uni S cid rg ra rc w hS hC
  by_cases k1 : k = 1
  · subst k1
    exact parts_1 st off mx cd dl sq rt fin uni S cid rg ra rc w hS hC
  by_cases k30 : k = 30
  · subst k30
    exact parts_30 st off mx cd dl sq rt fin uni S cid rg ra rc w hS hC
  by_cases k2 : k = 2
  · subst k2
    exact parts_2 st off mx cd dl sq rt fin uni S cid rg ra rc w hr hL
  by_cases k4 : k = 4
  · subst k4
    exact parts_4 st off mx cd dl sq rt fin uni S cid rg ra rc w hS hC
  by_cases k5 : k = 5
  · subst k5
    exact parts_5 st off mx cd dl sq rt fin uni S cid rg ra rc w hS hC
  by_cases k6 : k = 6
  · subst k6
    exact parts_6 st off mx cd dl sq rt fin uni S cid rg ra rc w hS hC
  by_cases k7 : k = 7
  · subst k7
    exact parts_7 st off mx cd dl sq rt fin uni S cid rg ra rc w hS hC
  by_cases k8 : k = 8
  · subst k8
    exact parts_8 st off mx cd dl sq rt fin uni S cid rg ra rc w hS hC
  by_cases k16 : k = 16
  · subst k16
    exact parts_16 st off mx cd dl sq rt fin uni S cid rg ra rc w hS hC
  by_cases k20 : k = 20
  · subst k20
    exact parts_20 st off mx cd dl sq rt fin uni S cid rg ra rc w hS hC
  by_cases k17 : k = 17
  · subst k17
    exact parts_17 st off mx cd dl sq rt fin uni S cid rg ra rc w hS hC
  by_cases k21 : k = 21
  · subst k21
    exact parts_21 st off mx cd dl sq rt fin uni S cid rg ra rc w hS hC
  by_cases k18 : k = 18
  · subst k18
    exact parts_18 st off mx cd dl sq rt fin uni S cid rg ra rc w hS hC
  by_cases k22 : k = 22
  · subst k22
    exact parts_22 st off mx cd dl sq rt fin uni S cid rg ra rc w hS hC
  by_cases k24 : k = 24
  · subst k24
    exact parts_24 st off mx cd dl sq rt fin uni S cid rg ra rc w hS hC
  by_cases k25 : k = 25
  · subst k25
    exact parts_25 st off mx cd dl sq rt fin uni S cid rg ra rc w hS hC
  by_cases k26 : k = 26
  · subst k26
    exact parts_26 st off mx cd dl sq rt fin uni S cid rg ra rc w hS hC
  by_cases k27 : k = 27
  · subst k27
    exact parts_27 st off mx cd dl sq rt fin uni S cid rg ra rc w hS hC
  by_cases k28 : k = 28
  · subst k28
    exact parts_28 st off mx cd dl sq rt fin uni S cid rg ra rc w hS hC
  by_cases k29 : k = 29
  · subst k29
    exact parts_29 st off mx cd dl sq rt fin uni S cid rg ra rc w hS hC
  obtain ⟨l, hl⟩ := hty
  exfalso
  unfold tab at hl
  rw [if_neg k0, if_neg k1, if_neg k30, if_neg k2, if_neg k4, if_neg k5, if_neg k6, if_neg k7, if_neg k8, if_neg k16, if_neg k20, if_neg k17, if_neg k21, if_neg k18, if_neg k22, if_neg k24, if_neg k25, if_neg k26, if_neg k27, if_neg k28, if_neg k29] at hl
  cases hl
theorem conv1 (w : World) (q : Nat) (x : Int) (hc : w.cell? ⟨q, 0, none⟩ = some (.int .u8 x)) : (convert 22 9 (.slice (some ⟨q, 0, none⟩) 1 1)).run Try.prog w = .ok (.string (strOfNums [x])) w :=
  run_convert_bytes_arg (P := Try.prog) w 22 5 Try.underlying22 Try.underlying5 q 0 1 1 [x] rfl (fun i hi => by
    obtain rfl : i = 0 := by omega
    exact hc) 9 Try.underlying9
theorem conv1_size (x : Int) : (strOfNums [x]).size = 1 := by simp [strOfNums, ByteArray.size]
def EncB (w : World) (e : Ending) (w' : World) : Prop := ∃ (S : ByteArray) (c : Int), e = .returned (.tuple #[.string S, .int .i64 c]) ∧ S.size ≤ 4001 ∧ Only [] w w'
theorem EncB.mk {w w' : World} {S : ByteArray} {c : Int} (h : S.size ≤ 4001) (ho : Only [] w w') : EncB w (.returned (.tuple #[.string S, .int .i64 c])) w' := ⟨S, c, rfl, h, ho⟩
set_option maxRecDepth 100000 in
set_option maxHeartbeats 8000000 in
theorem renc_w (f : Fr) (rv : Value) (w : World) (hF : FrOk w f rv) (hr : f.rg.length ≤ 16) (hS : (strB f.S).size ≤ 1100) (hC : (strB f.cid).size ≤ 1100) (hty : ∃ l, tab f.ty = some l) : Calls Try.prog 23 #[.agg (frC f rv)] w (EncB w) := by
  obtain ⟨ra, rc, rfl, hcs⟩ := hF.rg
  have HF := Lib.hid hF
  have hk := hF.ty
  clear hcs hF
  have hvl := fun ww hh => rvalid_c f (.slice ra f.rg.length rc) ww hh
  have hpt := fun ww hh => rparts_w f (.slice ra f.rg.length rc) ww hh hr hS hC hty
  have hkk : ∃ kk : Int, f.ty = kk := ⟨_, rfl⟩
  simp only [frC] at hvl hpt ⊢
  have ek : IntKind.i64.wrap (f.ty + 1) = f.ty + 1 := IntWalk.i64_in _ (by obtain ⟨l, hl⟩ := hty; have := tab_cases hl; omega)
  clear hr hS hC hty hkk hk
  go_enter Try.func23, Try.ntmps23
  go_upto_region 1 with fail
  have hx := At.new w 33 #[.int .i64 f.ty, .int .i64 f.st, .int .i64 f.off, .string (strB f.S), .bool f.fin, .int .i64 f.mx, .int .i64 f.cd, .bool f.uni, .int .i64 f.dl, .slice ra f.rg.length rc, .int .i64 f.sq, .int .i64 f.rt, .string (strB f.cid)]
  have hO := (Only.refl [] w).alloc (.cells #[.int .i64 f.ty, .int .i64 f.st, .int .i64 f.off, .string (strB f.S), .bool f.fin, .int .i64 f.mx, .int .i64 f.cd, .bool f.uni, .int .i64 f.dl, .slice ra f.rg.length rc, .int .i64 f.sq, .int .i64 f.rt, .string (strB f.cid)] 33)
  generalize w.alloc (.cells #[.int .i64 f.ty, .int .i64 f.st, .int .i64 f.off, .string (strB f.S), .bool f.fin, .int .i64 f.mx, .int .i64 f.cd, .bool f.uni, .int .i64 f.dl, .slice ra f.rg.length rc, .int .i64 f.sq, .int .i64 f.rt, .string (strB f.cid)] 33) = w1 at hx hO ⊢
  generalize w.heap.size = pb at hx ⊢
  have HB := Lib.hid hx
  have HO := Lib.hid hO
  clear hx hO
  obtain ⟨y0, y1, y2, y3, y4, y5, y6, y7, y8, y9, y10, y11, y12⟩ := (show At w1 pb _ _ from HB.out).c13
  go_wp2_with fail
  refine (hvl _ (HF.out.keep HO.out)).mono ?_
  rintro e w2 ⟨z, rfl, hz, ho⟩
  clear y0 y1 y2 y3 y4 y5 y6 y7 y8 y9 y10 y11 y12 hz hvl
  replace HB := Lib.hid (HB.out.keep ho (by simp))
  replace HO := Lib.hid (HO.out.trans ho)
  clear ho
  have y0 : w2.cell? ⟨pb, 0, none⟩ = some (.int .i64 f.ty) := HB.out.cell 0 rfl
  have y4 : w2.cell? ⟨pb, 4, none⟩ = some (.bool f.fin) := HB.out.cell 4 rfl
  cases z with
  | false =>
    go_wp2_with fail
    go_ret2
    exact EncB.mk (by show 0 ≤ _; omega) HO.out
  | true =>
    have hb : f.fin = false ∨ f.fin = true := by cases f.fin <;> simp
    rcases hb with hfin | hfin
    · rw [hfin] at y4
      clear hfin
      go_upto_region 7 with fail
      have HB1 : Hid (At w2.drew pb 33 #[.int .i64 f.ty, .int .i64 f.st, .int .i64 f.off, .string (strB f.S), .bool f.fin, .int .i64 f.mx, .int .i64 f.cd, .bool f.uni, .int .i64 f.dl, .slice ra f.rg.length rc, .int .i64 f.sq, .int .i64 f.rt, .string (strB f.cid)]) := Lib.hid HB.out.drew
      have HO1 : Hid (Only [] w w2.drew) := Lib.hid HO.out.drew
      have HF1 : Hid (FrOk w2.drew f (.slice ra f.rg.length rc)) := Lib.hid (HF.out.keep HO1.out)
      have hpl : pb < w2.drew.heap.size := HB1.out.lt
      clear y0 y4 HB HO HF
      obtain ⟨x0, x1, x2, x3, x4, x5, x6, x7, x8, x9, x10, x11, x12⟩ := (show At w2.drew pb _ _ from HB1.out).c13
      refine wp_region_held_drew (S := fun w' => Only [] w2.drew w') (by kernel_rfl) (by exact Only.refl _ _) (fun hHeld => ?_)
      refine tkH (i := 0) (v := ?_) rfl ?_ ?_
      rotate_left
      · intro wS hSw
        go_simp
        try with_reducible rfl
      simp only [tk1, tk2, tk3, Act.put, tk4, tk5, tk6]
      refine tkH (i := 1) (v := ?_) rfl ?_ ?_
      rotate_left
      · intro wS hSw
        go_simp
        try with_reducible rfl
      simp only [tk1, tk2, tk3, Act.put, tk4, tk5, tk6]
      refine tkH (i := 4) (v := ?_) rfl ?_ ?_
      rotate_left
      · intro wS hSw
        have e0 := (hSw.cell (p := ⟨pb, 0, none⟩) hpl (by simp)).trans x0
        have e1 := (hSw.cell (p := ⟨pb, 1, none⟩) hpl (by simp)).trans x1
        have e2 := (hSw.cell (p := ⟨pb, 2, none⟩) hpl (by simp)).trans x2
        have e3 := (hSw.cell (p := ⟨pb, 3, none⟩) hpl (by simp)).trans x3
        have e4 := (hSw.cell (p := ⟨pb, 4, none⟩) hpl (by simp)).trans x4
        have e5 := (hSw.cell (p := ⟨pb, 5, none⟩) hpl (by simp)).trans x5
        have e6 := (hSw.cell (p := ⟨pb, 6, none⟩) hpl (by simp)).trans x6
        have e7 := (hSw.cell (p := ⟨pb, 7, none⟩) hpl (by simp)).trans x7
        have e8 := (hSw.cell (p := ⟨pb, 8, none⟩) hpl (by simp)).trans x8
        have e9 := (hSw.cell (p := ⟨pb, 9, none⟩) hpl (by simp)).trans x9
        have e10 := (hSw.cell (p := ⟨pb, 10, none⟩) hpl (by simp)).trans x10
        have e11 := (hSw.cell (p := ⟨pb, 11, none⟩) hpl (by simp)).trans x11
        have e12 := (hSw.cell (p := ⟨pb, 12, none⟩) hpl (by simp)).trans x12
        go_simp
        try with_reducible rfl
      simp only [tk1, tk2, tk3, Act.put, tk4, tk5, tk6]
      clear x0 x1 x2 x3 x4 x5 x6 x7 x8 x9 x10 x11 x12
      refine wpAnyH_ready (rs := [2, 5]) (by kernel_rfl) (by simp) ?_
      refine AllReadyH.cons rfl (fun K hK => ?_) (AllReadyH.cons rfl (fun K hK => ?_) AllReadyH.nil)
      · skip
        go_simp
        have hA3 := (At.new w2 5 #[.int .u8 (IntKind.u8.wrap f.ty)]).drew
        have hO3 : Only [] w2.drew (w2.alloc (.cells #[.int .u8 (IntKind.u8.wrap f.ty)] 5)).drew := (fun (o : Only [] w2 _) => ⟨o.os, o.tape, o.output, o.size, o.block⟩) (((Only.refl [] w2).alloc (.cells #[.int .u8 (IntKind.u8.wrap f.ty)] 5)).drew)
        generalize (w2.alloc (.cells #[.int .u8 (IntKind.u8.wrap f.ty)] 5)).drew = w3 at hA3 hO3 ⊢
        generalize w2.heap.size = q at hA3 ⊢
        have HA3 := Lib.hid hA3
        have HO3 := Lib.hid hO3
        clear hA3 hO3
        refine hK.out _ _ (HO3.out) (fun hHeld' => ?_)
        clear hHeld hK K
        have hHeld := hHeld'
        clear hHeld'
        try simp only [tk1, tk2, tk3, Act.put, tk4, tk5, tk6]
        refine wpAnyH_ready (rs := [3, 5]) (by kernel_rfl) (by simp) ?_
        refine AllReadyH.cons rfl (fun K hK => ?_) (AllReadyH.cons rfl (fun K hK => ?_) AllReadyH.nil)
        · skip
          have hcv := conv1 w3 q _ (HA3.out.cell 0 rfl)
          go_simp
          clear hcv
          refine hK.out _ _ (HO3.out) (fun hHeld' => ?_)
          clear hHeld hK K
          have hHeld := hHeld'
          clear hHeld'
          try simp only [tk1, tk2, tk3, Act.put, tk4, tk5, tk6]
          refine wpAnyH_ready (rs := [5]) (by kernel_rfl) (by simp) ?_
          refine AllReadyH.cons rfl (fun K hK => ?_) AllReadyH.nil
          go_simp
          refine (hpt _ (HF1.out.rg.keep HO3.out)).mono ?_
          rintro e w4 ⟨P, rfl, hz, ho⟩
          have HP : Hid (P.size ≤ 4000) := Lib.hid hz
          have HOp := Lib.hid ho
          clear hz ho
          refine hK.out _ _ (HO3.out.trans HOp.out) (fun hHeld' => ?_)
          clear hHeld hK K
          have hHeld := hHeld'
          clear hHeld'
          try simp only [tk1, tk2, tk3, Act.put, tk4, tk5, tk6]
          have g6 : ¬ 9223372036854775807 < (strOfNums [IntKind.u8.wrap f.ty]).size + P.size := by have := HP.out; have := conv1_size (IntKind.u8.wrap f.ty); omega
          have HT : Hid ((strOfNums [IntKind.u8.wrap f.ty] ++ P).size ≤ 4001) := Lib.hid (by have := HP.out; have := conv1_size (IntKind.u8.wrap f.ty); rw [ByteArray.size_append]; omega)
          refine tkH (i := 6) (v := ?_) rfl ?_ ?_
          rotate_left
          · intro wS hSw
            go_simp
            try with_reducible rfl
          simp only [tk1, tk2, tk3, Act.put, tk4, tk5, tk6]
          refine tkH (i := 7) (v := ?_) rfl ?_ ?_
          rotate_left
          · intro wS hSw
            go_simp
            try with_reducible rfl
          simp only [tk1, tk2, tk3, Act.put, tk4, tk5, tk6]
          refine tkH (i := 8) (v := ?_) rfl ?_ ?_
          rotate_left
          · intro wS hSw
            go_simp
            try with_reducible rfl
          simp only [tk1, tk2, tk3, Act.put, tk4, tk5, tk6]
          refine wpAnyH_done (by kernel_rfl) ?_ _
          clear g6 hHeld
          go_wp2_with fail
          go_ret2
          exact EncB.mk HT.out ((HO1.out.trans HO3.out).trans HOp.out)
        · skip
          go_simp
          refine (hpt _ (HF1.out.rg.keep HO3.out)).mono ?_
          rintro e w4 ⟨P, rfl, hz, ho⟩
          have HP : Hid (P.size ≤ 4000) := Lib.hid hz
          have HOp := Lib.hid ho
          clear hz ho
          refine hK.out _ _ (HO3.out.trans HOp.out) (fun hHeld' => ?_)
          clear hHeld hK K
          have hHeld := hHeld'
          clear hHeld'
          try simp only [tk1, tk2, tk3, Act.put, tk4, tk5, tk6]
          refine wpAnyH_ready (rs := [3]) (by kernel_rfl) (by simp) ?_
          refine AllReadyH.cons rfl (fun K hK => ?_) AllReadyH.nil
          have hcv := conv1 w4 q _ ((HA3.out.keep HOp.out (by simp)).cell 0 rfl)
          go_simp
          clear hcv
          refine hK.out _ _ (HO3.out.trans HOp.out) (fun hHeld' => ?_)
          clear hHeld hK K
          have hHeld := hHeld'
          clear hHeld'
          try simp only [tk1, tk2, tk3, Act.put, tk4, tk5, tk6]
          have g6 : ¬ 9223372036854775807 < (strOfNums [IntKind.u8.wrap f.ty]).size + P.size := by have := HP.out; have := conv1_size (IntKind.u8.wrap f.ty); omega
          have HT : Hid ((strOfNums [IntKind.u8.wrap f.ty] ++ P).size ≤ 4001) := Lib.hid (by have := HP.out; have := conv1_size (IntKind.u8.wrap f.ty); rw [ByteArray.size_append]; omega)
          refine tkH (i := 6) (v := ?_) rfl ?_ ?_
          rotate_left
          · intro wS hSw
            go_simp
            try with_reducible rfl
          simp only [tk1, tk2, tk3, Act.put, tk4, tk5, tk6]
          refine tkH (i := 7) (v := ?_) rfl ?_ ?_
          rotate_left
          · intro wS hSw
            go_simp
            try with_reducible rfl
          simp only [tk1, tk2, tk3, Act.put, tk4, tk5, tk6]
          refine tkH (i := 8) (v := ?_) rfl ?_ ?_
          rotate_left
          · intro wS hSw
            go_simp
            try with_reducible rfl
          simp only [tk1, tk2, tk3, Act.put, tk4, tk5, tk6]
          refine wpAnyH_done (by kernel_rfl) ?_ _
          clear g6 hHeld
          go_wp2_with fail
          go_ret2
          exact EncB.mk HT.out ((HO1.out.trans HO3.out).trans HOp.out)
      · skip
        go_simp
        refine (hpt _ (HF1.out.rg.keep (Only.refl _ _))).mono ?_
        rintro e w3 ⟨P, rfl, hz, ho⟩
        have HP : Hid (P.size ≤ 4000) := Lib.hid hz
        have HOp := Lib.hid ho
        clear hz ho
        refine hK.out _ _ (HOp.out) (fun hHeld' => ?_)
        clear hHeld hK K
        have hHeld := hHeld'
        clear hHeld'
        try simp only [tk1, tk2, tk3, Act.put, tk4, tk5, tk6]
        refine wpAnyH_ready (rs := [2]) (by kernel_rfl) (by simp) ?_
        refine AllReadyH.cons rfl (fun K hK => ?_) AllReadyH.nil
        go_simp
        have hA3 := At.new w3 5 #[.int .u8 (IntKind.u8.wrap f.ty)]
        have hO3 := HOp.out.alloc (.cells #[.int .u8 (IntKind.u8.wrap f.ty)] 5)
        generalize w3.alloc (.cells #[.int .u8 (IntKind.u8.wrap f.ty)] 5) = w4 at hA3 hO3 ⊢
        generalize w3.heap.size = q at hA3 ⊢
        have HA3 := Lib.hid hA3
        have HO3 := Lib.hid hO3
        clear hA3 hO3
        refine hK.out _ _ (HO3.out) (fun hHeld' => ?_)
        clear hHeld hK K
        have hHeld := hHeld'
        clear hHeld'
        try simp only [tk1, tk2, tk3, Act.put, tk4, tk5, tk6]
        refine wpAnyH_ready (rs := [3]) (by kernel_rfl) (by simp) ?_
        refine AllReadyH.cons rfl (fun K hK => ?_) AllReadyH.nil
        have hcv := conv1 w4 q _ (HA3.out.cell 0 rfl)
        go_simp
        clear hcv
        refine hK.out _ _ (HO3.out) (fun hHeld' => ?_)
        clear hHeld hK K
        have hHeld := hHeld'
        clear hHeld'
        try simp only [tk1, tk2, tk3, Act.put, tk4, tk5, tk6]
        have g6 : ¬ 9223372036854775807 < (strOfNums [IntKind.u8.wrap f.ty]).size + P.size := by have := HP.out; have := conv1_size (IntKind.u8.wrap f.ty); omega
        have HT : Hid ((strOfNums [IntKind.u8.wrap f.ty] ++ P).size ≤ 4001) := Lib.hid (by have := HP.out; have := conv1_size (IntKind.u8.wrap f.ty); rw [ByteArray.size_append]; omega)
        refine tkH (i := 6) (v := ?_) rfl ?_ ?_
        rotate_left
        · intro wS hSw
          go_simp
          try with_reducible rfl
        simp only [tk1, tk2, tk3, Act.put, tk4, tk5, tk6]
        refine tkH (i := 7) (v := ?_) rfl ?_ ?_
        rotate_left
        · intro wS hSw
          go_simp
          try with_reducible rfl
        simp only [tk1, tk2, tk3, Act.put, tk4, tk5, tk6]
        refine tkH (i := 8) (v := ?_) rfl ?_ ?_
        rotate_left
        · intro wS hSw
          go_simp
          try with_reducible rfl
        simp only [tk1, tk2, tk3, Act.put, tk4, tk5, tk6]
        refine wpAnyH_done (by kernel_rfl) ?_ _
        clear g6 hHeld
        go_wp2_with fail
        go_ret2
        exact EncB.mk HT.out (HO1.out.trans HO3.out)

    · rw [hfin] at y4
      clear hfin
      go_upto_region 7 with fail
      have HB1 : Hid (At w2.drew pb 33 #[.int .i64 f.ty, .int .i64 f.st, .int .i64 f.off, .string (strB f.S), .bool f.fin, .int .i64 f.mx, .int .i64 f.cd, .bool f.uni, .int .i64 f.dl, .slice ra f.rg.length rc, .int .i64 f.sq, .int .i64 f.rt, .string (strB f.cid)]) := Lib.hid HB.out.drew
      have HO1 : Hid (Only [] w w2.drew) := Lib.hid HO.out.drew
      have HF1 : Hid (FrOk w2.drew f (.slice ra f.rg.length rc)) := Lib.hid (HF.out.keep HO1.out)
      have hpl : pb < w2.drew.heap.size := HB1.out.lt
      clear y0 y4 HB HO HF
      obtain ⟨x0, x1, x2, x3, x4, x5, x6, x7, x8, x9, x10, x11, x12⟩ := (show At w2.drew pb _ _ from HB1.out).c13
      refine wp_region_held_drew (S := fun w' => Only [] w2.drew w') (by kernel_rfl) (by exact Only.refl _ _) (fun hHeld => ?_)
      refine tkH (i := 0) (v := ?_) rfl ?_ ?_
      rotate_left
      · intro wS hSw
        go_simp
        try with_reducible rfl
      simp only [tk1, tk2, tk3, Act.put, tk4, tk5, tk6]
      refine tkH (i := 1) (v := ?_) rfl ?_ ?_
      rotate_left
      · intro wS hSw
        go_simp
        try with_reducible rfl
      simp only [tk1, tk2, tk3, Act.put, tk4, tk5, tk6]
      refine tkH (i := 4) (v := ?_) rfl ?_ ?_
      rotate_left
      · intro wS hSw
        have e0 := (hSw.cell (p := ⟨pb, 0, none⟩) hpl (by simp)).trans x0
        have e1 := (hSw.cell (p := ⟨pb, 1, none⟩) hpl (by simp)).trans x1
        have e2 := (hSw.cell (p := ⟨pb, 2, none⟩) hpl (by simp)).trans x2
        have e3 := (hSw.cell (p := ⟨pb, 3, none⟩) hpl (by simp)).trans x3
        have e4 := (hSw.cell (p := ⟨pb, 4, none⟩) hpl (by simp)).trans x4
        have e5 := (hSw.cell (p := ⟨pb, 5, none⟩) hpl (by simp)).trans x5
        have e6 := (hSw.cell (p := ⟨pb, 6, none⟩) hpl (by simp)).trans x6
        have e7 := (hSw.cell (p := ⟨pb, 7, none⟩) hpl (by simp)).trans x7
        have e8 := (hSw.cell (p := ⟨pb, 8, none⟩) hpl (by simp)).trans x8
        have e9 := (hSw.cell (p := ⟨pb, 9, none⟩) hpl (by simp)).trans x9
        have e10 := (hSw.cell (p := ⟨pb, 10, none⟩) hpl (by simp)).trans x10
        have e11 := (hSw.cell (p := ⟨pb, 11, none⟩) hpl (by simp)).trans x11
        have e12 := (hSw.cell (p := ⟨pb, 12, none⟩) hpl (by simp)).trans x12
        go_simp
        try with_reducible rfl
      simp only [tk1, tk2, tk3, Act.put, tk4, tk5, tk6]
      clear x0 x1 x2 x3 x4 x5 x6 x7 x8 x9 x10 x11 x12
      refine wpAnyH_ready (rs := [2, 5]) (by kernel_rfl) (by simp) ?_
      refine AllReadyH.cons rfl (fun K hK => ?_) (AllReadyH.cons rfl (fun K hK => ?_) AllReadyH.nil)
      · skip
        go_simp
        have hA3 := (At.new w2 5 #[.int .u8 (IntKind.u8.wrap (f.ty + 1))]).drew
        have hO3 : Only [] w2.drew (w2.alloc (.cells #[.int .u8 (IntKind.u8.wrap (f.ty + 1))] 5)).drew := (fun (o : Only [] w2 _) => ⟨o.os, o.tape, o.output, o.size, o.block⟩) (((Only.refl [] w2).alloc (.cells #[.int .u8 (IntKind.u8.wrap (f.ty + 1))] 5)).drew)
        generalize (w2.alloc (.cells #[.int .u8 (IntKind.u8.wrap (f.ty + 1))] 5)).drew = w3 at hA3 hO3 ⊢
        generalize w2.heap.size = q at hA3 ⊢
        have HA3 := Lib.hid hA3
        have HO3 := Lib.hid hO3
        clear hA3 hO3
        refine hK.out _ _ (HO3.out) (fun hHeld' => ?_)
        clear hHeld hK K
        have hHeld := hHeld'
        clear hHeld'
        try simp only [tk1, tk2, tk3, Act.put, tk4, tk5, tk6]
        refine wpAnyH_ready (rs := [3, 5]) (by kernel_rfl) (by simp) ?_
        refine AllReadyH.cons rfl (fun K hK => ?_) (AllReadyH.cons rfl (fun K hK => ?_) AllReadyH.nil)
        · skip
          have hcv := conv1 w3 q _ (HA3.out.cell 0 rfl)
          go_simp
          clear hcv
          refine hK.out _ _ (HO3.out) (fun hHeld' => ?_)
          clear hHeld hK K
          have hHeld := hHeld'
          clear hHeld'
          try simp only [tk1, tk2, tk3, Act.put, tk4, tk5, tk6]
          refine wpAnyH_ready (rs := [5]) (by kernel_rfl) (by simp) ?_
          refine AllReadyH.cons rfl (fun K hK => ?_) AllReadyH.nil
          go_simp
          refine (hpt _ (HF1.out.rg.keep HO3.out)).mono ?_
          rintro e w4 ⟨P, rfl, hz, ho⟩
          have HP : Hid (P.size ≤ 4000) := Lib.hid hz
          have HOp := Lib.hid ho
          clear hz ho
          refine hK.out _ _ (HO3.out.trans HOp.out) (fun hHeld' => ?_)
          clear hHeld hK K
          have hHeld := hHeld'
          clear hHeld'
          try simp only [tk1, tk2, tk3, Act.put, tk4, tk5, tk6]
          have g6 : ¬ 9223372036854775807 < (strOfNums [IntKind.u8.wrap (f.ty + 1)]).size + P.size := by have := HP.out; have := conv1_size (IntKind.u8.wrap (f.ty + 1)); omega
          have HT : Hid ((strOfNums [IntKind.u8.wrap (f.ty + 1)] ++ P).size ≤ 4001) := Lib.hid (by have := HP.out; have := conv1_size (IntKind.u8.wrap (f.ty + 1)); rw [ByteArray.size_append]; omega)
          refine tkH (i := 6) (v := ?_) rfl ?_ ?_
          rotate_left
          · intro wS hSw
            go_simp
            try with_reducible rfl
          simp only [tk1, tk2, tk3, Act.put, tk4, tk5, tk6]
          refine tkH (i := 7) (v := ?_) rfl ?_ ?_
          rotate_left
          · intro wS hSw
            go_simp
            try with_reducible rfl
          simp only [tk1, tk2, tk3, Act.put, tk4, tk5, tk6]
          refine tkH (i := 8) (v := ?_) rfl ?_ ?_
          rotate_left
          · intro wS hSw
            go_simp
            try with_reducible rfl
          simp only [tk1, tk2, tk3, Act.put, tk4, tk5, tk6]
          refine wpAnyH_done (by kernel_rfl) ?_ _
          clear g6 hHeld
          go_wp2_with fail
          go_ret2
          exact EncB.mk HT.out ((HO1.out.trans HO3.out).trans HOp.out)
        · skip
          go_simp
          refine (hpt _ (HF1.out.rg.keep HO3.out)).mono ?_
          rintro e w4 ⟨P, rfl, hz, ho⟩
          have HP : Hid (P.size ≤ 4000) := Lib.hid hz
          have HOp := Lib.hid ho
          clear hz ho
          refine hK.out _ _ (HO3.out.trans HOp.out) (fun hHeld' => ?_)
          clear hHeld hK K
          have hHeld := hHeld'
          clear hHeld'
          try simp only [tk1, tk2, tk3, Act.put, tk4, tk5, tk6]
          refine wpAnyH_ready (rs := [3]) (by kernel_rfl) (by simp) ?_
          refine AllReadyH.cons rfl (fun K hK => ?_) AllReadyH.nil
          have hcv := conv1 w4 q _ ((HA3.out.keep HOp.out (by simp)).cell 0 rfl)
          go_simp
          clear hcv
          refine hK.out _ _ (HO3.out.trans HOp.out) (fun hHeld' => ?_)
          clear hHeld hK K
          have hHeld := hHeld'
          clear hHeld'
          try simp only [tk1, tk2, tk3, Act.put, tk4, tk5, tk6]
          have g6 : ¬ 9223372036854775807 < (strOfNums [IntKind.u8.wrap (f.ty + 1)]).size + P.size := by have := HP.out; have := conv1_size (IntKind.u8.wrap (f.ty + 1)); omega
          have HT : Hid ((strOfNums [IntKind.u8.wrap (f.ty + 1)] ++ P).size ≤ 4001) := Lib.hid (by have := HP.out; have := conv1_size (IntKind.u8.wrap (f.ty + 1)); rw [ByteArray.size_append]; omega)
          refine tkH (i := 6) (v := ?_) rfl ?_ ?_
          rotate_left
          · intro wS hSw
            go_simp
            try with_reducible rfl
          simp only [tk1, tk2, tk3, Act.put, tk4, tk5, tk6]
          refine tkH (i := 7) (v := ?_) rfl ?_ ?_
          rotate_left
          · intro wS hSw
            go_simp
            try with_reducible rfl
          simp only [tk1, tk2, tk3, Act.put, tk4, tk5, tk6]
          refine tkH (i := 8) (v := ?_) rfl ?_ ?_
          rotate_left
          · intro wS hSw
            go_simp
            try with_reducible rfl
          simp only [tk1, tk2, tk3, Act.put, tk4, tk5, tk6]
          refine wpAnyH_done (by kernel_rfl) ?_ _
          clear g6 hHeld
          go_wp2_with fail
          go_ret2
          exact EncB.mk HT.out ((HO1.out.trans HO3.out).trans HOp.out)
      · skip
        go_simp
        refine (hpt _ (HF1.out.rg.keep (Only.refl _ _))).mono ?_
        rintro e w3 ⟨P, rfl, hz, ho⟩
        have HP : Hid (P.size ≤ 4000) := Lib.hid hz
        have HOp := Lib.hid ho
        clear hz ho
        refine hK.out _ _ (HOp.out) (fun hHeld' => ?_)
        clear hHeld hK K
        have hHeld := hHeld'
        clear hHeld'
        try simp only [tk1, tk2, tk3, Act.put, tk4, tk5, tk6]
        refine wpAnyH_ready (rs := [2]) (by kernel_rfl) (by simp) ?_
        refine AllReadyH.cons rfl (fun K hK => ?_) AllReadyH.nil
        go_simp
        have hA3 := At.new w3 5 #[.int .u8 (IntKind.u8.wrap (f.ty + 1))]
        have hO3 := HOp.out.alloc (.cells #[.int .u8 (IntKind.u8.wrap (f.ty + 1))] 5)
        generalize w3.alloc (.cells #[.int .u8 (IntKind.u8.wrap (f.ty + 1))] 5) = w4 at hA3 hO3 ⊢
        generalize w3.heap.size = q at hA3 ⊢
        have HA3 := Lib.hid hA3
        have HO3 := Lib.hid hO3
        clear hA3 hO3
        refine hK.out _ _ (HO3.out) (fun hHeld' => ?_)
        clear hHeld hK K
        have hHeld := hHeld'
        clear hHeld'
        try simp only [tk1, tk2, tk3, Act.put, tk4, tk5, tk6]
        refine wpAnyH_ready (rs := [3]) (by kernel_rfl) (by simp) ?_
        refine AllReadyH.cons rfl (fun K hK => ?_) AllReadyH.nil
        have hcv := conv1 w4 q _ (HA3.out.cell 0 rfl)
        go_simp
        clear hcv
        refine hK.out _ _ (HO3.out) (fun hHeld' => ?_)
        clear hHeld hK K
        have hHeld := hHeld'
        clear hHeld'
        try simp only [tk1, tk2, tk3, Act.put, tk4, tk5, tk6]
        have g6 : ¬ 9223372036854775807 < (strOfNums [IntKind.u8.wrap (f.ty + 1)]).size + P.size := by have := HP.out; have := conv1_size (IntKind.u8.wrap (f.ty + 1)); omega
        have HT : Hid ((strOfNums [IntKind.u8.wrap (f.ty + 1)] ++ P).size ≤ 4001) := Lib.hid (by have := HP.out; have := conv1_size (IntKind.u8.wrap (f.ty + 1)); rw [ByteArray.size_append]; omega)
        refine tkH (i := 6) (v := ?_) rfl ?_ ?_
        rotate_left
        · intro wS hSw
          go_simp
          try with_reducible rfl
        simp only [tk1, tk2, tk3, Act.put, tk4, tk5, tk6]
        refine tkH (i := 7) (v := ?_) rfl ?_ ?_
        rotate_left
        · intro wS hSw
          go_simp
          try with_reducible rfl
        simp only [tk1, tk2, tk3, Act.put, tk4, tk5, tk6]
        refine tkH (i := 8) (v := ?_) rfl ?_ ?_
        rotate_left
        · intro wS hSw
          go_simp
          try with_reducible rfl
        simp only [tk1, tk2, tk3, Act.put, tk4, tk5, tk6]
        refine wpAnyH_done (by kernel_rfl) ?_ _
        clear g6 hHeld
        go_wp2_with fail
        go_ret2
        exact EncB.mk HT.out (HO1.out.trans HO3.out)

end Go.Proofs.Ytmmgmpghkpbgkaa
