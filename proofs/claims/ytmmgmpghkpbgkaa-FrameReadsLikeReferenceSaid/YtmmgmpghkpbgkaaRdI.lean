/- Contracts of the reference's encodings: the parts of a frame. -/
import Derived.Test.YtmmgmpghkpbgkaaRdB
import Derived.Test.YtmmgmpghkpbgkaaRdG
import Derived.Test.YtmmgmpghkpbgkaaFrZc
import Derived.Deep.RegionHeld3
import Derived.Deep.LoopGhost
import Derived.Test.YtmmgmpghkpbgkaaRdA
namespace Go.Proofs.Ytmmgmpghkpbgkaa
open Go Go.RowKit
set_option linter.unusedVariables false
set_option linter.unusedSimpArgs false

def PtRel (pb : Nat) (cs : Array Value) (n : Nat) (w : World) (gk : Nat) (sv iv : Value) (wr : World) : Prop := ∃ (i : Nat) (T : ByteArray), gk = n - i ∧ i ≤ n ∧ iv = .int .i64 i ∧ sv = .string T ∧ Hid (T.size ≤ 16 + 16 * i) ∧ Hid (At wr pb 33 cs) ∧ Hid (Only [] w wr)
set_option maxRecDepth 100000 in
set_option maxHeartbeats 8000000 in
theorem parts_2 (st off mx cd dl sq rt : Int) (fin uni : Bool) (S cid : List UInt8) (rg : List (Int × Int)) (ra : Option Addr) (rc : Nat) (w : World) (hsz : rg.length ≤ 16) (hL : RgAt w (.slice ra rg.length rc) rg) :
    Calls Try.prog 64 #[.agg #[.int .i64 2, .int .i64 st, .int .i64 off, .string (strB S), .bool fin, .int .i64 mx, .int .i64 cd, .bool uni, .int .i64 dl, .slice ra rg.length rc, .int .i64 sq, .int .i64 rt, .string (strB cid)]] w (StrQ 4000 w) := by
  obtain ⟨ra', rc', hre, hcs⟩ := hL
  injection hre with e1 e2 e3
  subst e1
  clear e2 e3
  have HC := Lib.hid hcs
  clear hcs
  go_enter Try.func64, Try.ntmps64
  go_upto_region 1 with fail
  have hx := At.new w 33 #[.int .i64 2, .int .i64 st, .int .i64 off, .string (strB S), .bool fin, .int .i64 mx, .int .i64 cd, .bool uni, .int .i64 dl, .slice ra rg.length rc, .int .i64 sq, .int .i64 rt, .string (strB cid)]
  have hO := (Only.refl [] w).alloc (.cells #[.int .i64 2, .int .i64 st, .int .i64 off, .string (strB S), .bool fin, .int .i64 mx, .int .i64 cd, .bool uni, .int .i64 dl, .slice ra rg.length rc, .int .i64 sq, .int .i64 rt, .string (strB cid)] 33)
  generalize w.alloc (.cells #[.int .i64 2, .int .i64 st, .int .i64 off, .string (strB S), .bool fin, .int .i64 mx, .int .i64 cd, .bool uni, .int .i64 dl, .slice ra rg.length rc, .int .i64 sq, .int .i64 rt, .string (strB cid)] 33) = w1 at hx hO ⊢
  generalize w.heap.size = pb at hx ⊢
  have HB := Lib.hid hx
  have HO := Lib.hid hO
  clear hx hO
  have y0 : w1.cell? ⟨pb, 0, none⟩ = some (.int .i64 2) := HB.out.cell 0 rfl
  go_upto_region 3 with fail
  clear y0
  have HKP : Hid (∀ ww, Only [] w1.drew ww → (ww.cell? ⟨pb, 8, none⟩ = some (.int .i64 dl) ∧ ww.cell? ⟨pb, 9, none⟩ = some (.slice ra rg.length rc))) := Lib.hid (fun ww o => ⟨((HB.out.drew).keep o (by simp)).cell 8 rfl, ((HB.out.drew).keep o (by simp)).cell 9 rfl⟩)
  have HW0 : Hid (Only [] w1.drew w1.drew) := Lib.hid (Only.refl _ _)
  refine wp_region_held_drew (S := fun w' => (w'.cell? ⟨pb, 8, none⟩ = some (.int .i64 dl) ∧ w'.cell? ⟨pb, 9, none⟩ = some (.slice ra rg.length rc))) (by kernel_rfl) (by exact HKP.out _ (Only.refl _ _)) (fun hHeld => ?_)
  refine tkH (i := 0) rfl (fun wS hSw => by (try dsimp only at hSw); go_simp; try with_reducible rfl) ?_
  simp only [tk1, tk2, tk3, Act.put, tk4, tk5, tk6]
  refine tkH (i := 1) rfl (fun wS hSw => by (try dsimp only at hSw); go_simp; try with_reducible rfl) ?_
  simp only [tk1, tk2, tk3, Act.put, tk4, tk5, tk6]
  refine tkH (i := 3) rfl (fun wS hSw => by (try dsimp only at hSw); go_simp; try with_reducible rfl) ?_
  simp only [tk1, tk2, tk3, Act.put, tk4, tk5, tk6]
  refine tkH (i := 4) rfl (fun wS hSw => by (try dsimp only at hSw); go_simp; try with_reducible rfl) ?_
  simp only [tk1, tk2, tk3, Act.put, tk4, tk5, tk6]
  refine tkH (i := 5) rfl (fun wS hSw => by (try dsimp only at hSw); go_simp; try with_reducible rfl) ?_
  simp only [tk1, tk2, tk3, Act.put, tk4, tk5, tk6]
  refine wpAnyH_ready (rs := [2]) (by kernel_rfl) (by simp) ?_
  refine AllReadyH.cons rfl (fun K hK => ?_) AllReadyH.nil
  go_simp
  refine (rv_w dl _).mono ?_
  rintro e w2 ⟨S0, rfl, hz0, ho⟩
  replace HW0 := Lib.hid (HW0.out.trans ho)
  clear ho
  refine hK.out _ _ (HKP.out _ HW0.out) (fun hHeld' => ?_)
  clear hHeld hK K
  have hHeld := hHeld'
  clear hHeld'
  try simp only [tk1, tk2, tk3, Act.put, tk4, tk5, tk6]
  refine wpAnyH_ready (rs := [6]) (by kernel_rfl) (by simp) ?_
  refine AllReadyH.cons rfl (fun K hK => ?_) AllReadyH.nil
  go_simp
  refine (rv_w rg.length _).mono ?_
  rintro e w3 ⟨S1, rfl, hz1, ho⟩
  replace HW0 := Lib.hid (HW0.out.trans ho)
  clear ho
  refine hK.out _ _ (HKP.out _ HW0.out) (fun hHeld' => ?_)
  clear hHeld hK K
  have hHeld := hHeld'
  clear hHeld'
  try simp only [tk1, tk2, tk3, Act.put, tk4, tk5, tk6]
  have g1 : ¬ 9223372036854775807 < S0.size + S1.size := by omega
  have hA1 : (S0 ++ S1).size ≤ 16 := by rw [ByteArray.size_append]; omega
  refine tkH (i := 7) rfl (fun wS hSw => by (try dsimp only at hSw); go_simp; try with_reducible rfl) ?_
  simp only [tk1, tk2, tk3, Act.put, tk4, tk5, tk6]
  generalize S0 ++ S1 = T1 at hA1 ⊢
  refine tkH (i := 8) rfl (fun wS hSw => by (try dsimp only at hSw); go_simp; try with_reducible rfl) ?_
  simp only [tk1, tk2, tk3, Act.put, tk4, tk5, tk6]
  refine wpAnyH_done (by kernel_rfl) ?_ _
  have HT : Hid (T1.size ≤ 16 + 16 * 0) := Lib.hid (by omega)
  have HB3 : Hid (At w3 pb 33 #[.int .i64 2, .int .i64 st, .int .i64 off, .string (strB S), .bool fin, .int .i64 mx, .int .i64 cd, .bool uni, .int .i64 dl, .slice ra rg.length rc, .int .i64 sq, .int .i64 rt, .string (strB cid)]) := Lib.hid ((HB.out.drew).keep HW0.out (by simp))
  have HO3 : Hid (Only [] w w3) := Lib.hid (HO.out.drew.trans HW0.out)
  clear HKP hHeld HW0 HB HO hz0 hz1 hA1 g1
  go_wp2_with fail
  go_loopg [3, 4] rg.length (fun gk sv iv wr => PtRel pb #[.int .i64 2, .int .i64 st, .int .i64 off, .string (strB S), .bool fin, .int .i64 mx, .int .i64 cd, .bool uni, .int .i64 dl, .slice ra rg.length rc, .int .i64 sq, .int .i64 rt, .string (strB cid)] rg.length w gk sv iv wr)
  case atStart => exact ⟨0, T1, by omega, by omega, rfl, rfl, HT, HB3, HO3⟩
  case round =>
    obtain ⟨i, T, rfl, hi, rfl, rfl, hT, hB, hO⟩ := hrel
    clear HT HB3 HO3
    have HT := hT
    clear hT
    have y9 : wr.cell? ⟨pb, 9, none⟩ = some (.slice ra rg.length rc) := hB.out.cell 9 rfl
    by_cases hlt : i < rg.length
    · have hlt' : (i : Int) < rg.length := by omega
      obtain ⟨g, off, rfl, hg, c0, c1, b0, b1⟩ := HC.out i hlt
      obtain ⟨A0, hA0⟩ : ∃ A0, (rg[i]).1 = A0 := ⟨_, rfl⟩
      obtain ⟨B0, hB0⟩ : ∃ B0, (rg[i]).2 = B0 := ⟨_, rfl⟩
      rw [hA0] at c0
      rw [hB0] at c1
      have d0 : wr.cell? ⟨g, off + i * 2, none⟩ = some (.int .i64 A0) := (hO.out.cell (p := ⟨g, off + i * 2, none⟩) hg (by simp)).trans c0
      have d1 : wr.cell? ⟨g, off + i * 2 + 1, none⟩ = some (.int .i64 B0) := (hO.out.cell (p := ⟨g, off + i * 2 + 1, none⟩) hg (by simp)).trans c1
      have f9 : IntKind.i64.wrap ((i : Int) + 1) = ((i + 1 : Nat) : Int) := by rw [show (i : Int) + 1 = ((i + 1 : Nat) : Int) by omega]; exact IntWalk.i64_in _ (by omega)
      clear c0 c1 b0 b1 hA0 hB0
      go_upto_region 8 with fail
      have hQ := At.new wr 43 #[.int .i64 A0, .int .i64 B0]
      have HB5 := Lib.hid (hB.out.alloc (.cells #[.int .i64 A0, .int .i64 B0] 43))
      have HO5 := Lib.hid (hO.out.alloc (.cells #[.int .i64 A0, .int .i64 B0] 43))
      clear d0 d1 y9 hB hO
      generalize wr.alloc (.cells #[.int .i64 A0, .int .i64 B0] 43) = w5 at hQ HB5 HO5 ⊢
      generalize wr.heap.size = q at hQ ⊢
      have HQ := Lib.hid hQ
      clear hQ
      by_cases hi0 : i = 0
      · have hi1 : ((i : Int) == 0) = true := by simp; omega
        have q1 : w5.cell? ⟨q, 1, none⟩ = some (.int .i64 B0) := HQ.out.cell 1 rfl
        go_wp2_with fail
        refine (rv_w _ _).mono ?_
        rintro e w6 ⟨S6, rfl, hz6, ho⟩
        have HO6 := Lib.hid ho
        have g6 : ¬ 9223372036854775807 < T.size + S6.size := by have := HT.out; omega
        have hA6 : (T ++ S6).size ≤ 24 + 16 * i := by have := HT.out; rw [ByteArray.size_append]; omega
        clear ho q1
        have HTT : Hid ((T ++ S6).size ≤ 24 + 16 * i) := Lib.hid (by have := HT.out; omega)
        have qq0 : w6.cell? ⟨q, 0, none⟩ = some (.int .i64 A0) := (HQ.out.keep HO6.out (by simp)).cell 0 rfl
        have qq1 : w6.cell? ⟨q, 1, none⟩ = some (.int .i64 B0) := (HQ.out.keep HO6.out (by simp)).cell 1 rfl
        have HBB := Lib.hid (HB5.out.keep HO6.out (by simp))
        have HOO := Lib.hid (HO5.out.trans HO6.out)
        clear hA6 hz6
        go_wp2_with fail
        refine (rv_w _ _).mono ?_
        rintro e w8 ⟨S8, rfl, hz8, ho⟩
        have g8 : ¬ 9223372036854775807 < (T ++ S6).size + S8.size := by have := HTT.out; omega
        have HT8 : Hid (((T ++ S6) ++ S8).size ≤ 16 + 16 * (i + 1)) := Lib.hid (by have := HTT.out; rw [ByteArray.size_append]; omega)
        have HO8 := Lib.hid (HOO.out.trans ho)
        have HB8 := Lib.hid (HBB.out.keep ho (by simp))
        clear ho hz8 qq0 qq1
        go_wp2_with fail
        go_roundg (rg.length - (i + 1))
        case measure => omega
        case rel => exact ⟨i + 1, _, rfl, by omega, by first | (simp; done) | (simp; omega), rfl, HT8, HB8, HO8⟩
      · have hi1 : ((i : Int) == 0) = false := by simp; omega
        obtain ⟨g', off', hga, _, c2, _⟩ := HC.out (i - 1) (by omega)
        cases hga
        obtain ⟨C0, hC0⟩ : ∃ C0, (rg[i - 1]'(by omega)).1 = C0 := ⟨_, rfl⟩
        rw [hC0] at c2
        have i1 : IntKind.i64.wrap ((i : Int) - 1) = (i : Int) - 1 := IntWalk.i64_in _ (by omega)
        have i2 : (0 : Int) ≤ (i : Int) - 1 := by omega
        have i3 : (i : Int) - 1 < (rg.length : Int) := by omega
        have i4 : (i : Int) ≤ (rg.length : Int) := by omega
        have i5 : (1 : Int) ≤ (i : Int) := by omega
        have i8 : ((i : Int) - 1).toNat = i - 1 := by omega
        have HKP2 : Hid (∀ ww, Only [] w5.drew ww → (ww.cell? ⟨pb, 9, none⟩ = some (.slice (some ⟨g, off, none⟩) rg.length rc) ∧ ww.cell? ⟨g, off + (i - 1) * 2, none⟩ = some (.int .i64 C0) ∧ ww.cell? ⟨q, 1, none⟩ = some (.int .i64 B0))) := Lib.hid (fun ww o => ⟨((HB5.out.drew).keep o (by simp)).cell 9 rfl, ((HO5.out.drew.trans o).cell (p := ⟨g, off + (i - 1) * 2, none⟩) hg (by simp)).trans c2, ((HQ.out.drew).keep o (by simp)).cell 1 rfl⟩)
        have hTm : T.size ≤ 16 + 16 * i := HT.out
        go_upto_region 10 with fail
        refine wp_region_held_drew (S := fun w' => (w'.cell? ⟨pb, 9, none⟩ = some (.slice (some ⟨g, off, none⟩) rg.length rc) ∧ w'.cell? ⟨g, off + (i - 1) * 2, none⟩ = some (.int .i64 C0) ∧ w'.cell? ⟨q, 1, none⟩ = some (.int .i64 B0))) (by kernel_rfl) (by exact HKP2.out _ (Only.refl _ _)) (fun hHeld => ?_)
        refine tkH (i := 0) rfl (fun wS hSw => by (try dsimp only at hSw); go_simp; try with_reducible rfl) ?_
        simp only [tk1, tk2, tk3, Act.put, tk4, tk5, tk6]
        refine tkH (i := 1) rfl (fun wS hSw => by (try dsimp only at hSw); go_simp; try with_reducible rfl) ?_
        simp only [tk1, tk2, tk3, Act.put, tk4, tk5, tk6]
        refine tkH (i := 2) rfl (fun wS hSw => by (try dsimp only at hSw); go_simp; try with_reducible rfl) ?_
        simp only [tk1, tk2, tk3, Act.put, tk4, tk5, tk6]
        refine tkH (i := 3) rfl (fun wS hSw => by (try dsimp only at hSw); go_simp; try with_reducible rfl) ?_
        simp only [tk1, tk2, tk3, Act.put, tk4, tk5, tk6]
        refine tkH (i := 4) rfl (fun wS hSw => by (try dsimp only at hSw); go_simp; try with_reducible rfl) ?_
        simp only [tk1, tk2, tk3, Act.put, tk4, tk5, tk6]
        refine tkH (i := 5) rfl (fun wS hSw => by (try dsimp only at hSw); go_simp; try with_reducible rfl) ?_
        simp only [tk1, tk2, tk3, Act.put, tk4, tk5, tk6]
        refine tkH (i := 6) rfl (fun wS hSw => by (try dsimp only at hSw); go_simp; try with_reducible rfl) ?_
        simp only [tk1, tk2, tk3, Act.put, tk4, tk5, tk6]
        refine tkH (i := 7) rfl (fun wS hSw => by (try dsimp only at hSw); go_simp; try with_reducible rfl) ?_
        simp only [tk1, tk2, tk3, Act.put, tk4, tk5, tk6]
        refine tkH (i := 8) rfl (fun wS hSw => by (try dsimp only at hSw); go_simp; try with_reducible rfl) ?_
        simp only [tk1, tk2, tk3, Act.put, tk4, tk5, tk6]
        refine tkH (i := 9) rfl (fun wS hSw => by (try dsimp only at hSw); go_simp; try with_reducible rfl) ?_
        simp only [tk1, tk2, tk3, Act.put, tk4, tk5, tk6]
        refine tkH (i := 10) rfl (fun wS hSw => by (try dsimp only at hSw); go_simp; try with_reducible rfl) ?_
        simp only [tk1, tk2, tk3, Act.put, tk4, tk5, tk6]
        refine tkH (i := 11) rfl (fun wS hSw => by (try dsimp only at hSw); go_simp; try with_reducible rfl) ?_
        simp only [tk1, tk2, tk3, Act.put, tk4, tk5, tk6]
        refine wpAnyH_ready (rs := [12]) (by kernel_rfl) (by simp) ?_
        refine AllReadyH.cons rfl (fun K hK => ?_) AllReadyH.nil
        go_simp
        refine (rv_w _ _).mono ?_
        rintro e w6 ⟨S6, rfl, hz6, ho⟩
        have HO6 := Lib.hid ho
        clear ho
        refine hK.out _ _ (HKP2.out _ HO6.out) (fun hHeld' => ?_)
        clear hHeld hK K
        have hHeld := hHeld'
        clear hHeld'
        try simp only [tk1, tk2, tk3, Act.put, tk4, tk5, tk6]
        have g6 : ¬ 9223372036854775807 < T.size + S6.size := by omega
        have hA6 : (T ++ S6).size ≤ 24 + 16 * i := by rw [ByteArray.size_append]; omega
        refine tkH (i := 13) rfl (fun wS hSw => by (try dsimp only at hSw); go_simp; try with_reducible rfl) ?_
        simp only [tk1, tk2, tk3, Act.put, tk4, tk5, tk6]
        generalize T ++ S6 = T6 at hA6 ⊢
        refine tkH (i := 14) rfl (fun wS hSw => by (try dsimp only at hSw); go_simp; try with_reducible rfl) ?_
        simp only [tk1, tk2, tk3, Act.put, tk4, tk5, tk6]
        refine wpAnyH_done (by kernel_rfl) ?_ _
        have HO6' : Hid (Only [] w5 w6) := Lib.hid (clr_only HO6.out)
        clear HKP2 hHeld HO6
        have HTT : Hid (T6.size ≤ 24 + 16 * i) := Lib.hid (by have := HT.out; omega)
        have qq0 : w6.cell? ⟨q, 0, none⟩ = some (.int .i64 A0) := (HQ.out.keep HO6'.out (by simp)).cell 0 rfl
        have qq1 : w6.cell? ⟨q, 1, none⟩ = some (.int .i64 B0) := (HQ.out.keep HO6'.out (by simp)).cell 1 rfl
        have HBB := Lib.hid (HB5.out.keep HO6'.out (by simp))
        have HOO := Lib.hid (HO5.out.trans HO6'.out)
        clear hA6 hz6 hTm
        go_wp2_with fail
        refine (rv_w _ _).mono ?_
        rintro e w8 ⟨S8, rfl, hz8, ho⟩
        have g8 : ¬ 9223372036854775807 < T6.size + S8.size := by have := HTT.out; omega
        have HT8 : Hid ((T6 ++ S8).size ≤ 16 + 16 * (i + 1)) := Lib.hid (by have := HTT.out; rw [ByteArray.size_append]; omega)
        have HO8 := Lib.hid (HOO.out.trans ho)
        have HB8 := Lib.hid (HBB.out.keep ho (by simp))
        clear ho hz8 qq0 qq1
        go_wp2_with fail
        go_roundg (rg.length - (i + 1))
        case measure => omega
        case rel => exact ⟨i + 1, _, rfl, by omega, by first | (simp; done) | (simp; omega), rfl, HT8, HB8, HO8⟩
    · have hlt' : ¬ (i : Int) < rg.length := by omega
      have HTT : Hid (T.size ≤ 4000) := Lib.hid (by have := HT.out; omega)
      go_wp2_with fail
      go_ret
      exact StrQ.mk HTT.out hO.out
set_option maxRecDepth 100000 in
set_option maxHeartbeats 4000000 in
theorem parts_0 (st off mx cd dl sq rt : Int) (fin uni : Bool) (S cid : List UInt8) (rg : List (Int × Int)) (ra : Option Addr) (rc : Nat) (w : World) (hS : (strB S).size ≤ 1100) (hC : (strB cid).size ≤ 1100) :
    Calls Try.prog 64 #[.agg #[.int .i64 0, .int .i64 st, .int .i64 off, .string (strB S), .bool fin, .int .i64 mx, .int .i64 cd, .bool uni, .int .i64 dl, .slice ra rg.length rc, .int .i64 sq, .int .i64 rt, .string (strB cid)]] w (StrQ 4000 w) := by
  have zS : (strB S).size ≤ 1100 := hS
  have zcid : (strB cid).size ≤ 1100 := hC
  go_enter Try.func64, Try.ntmps64
  go_upto_region 1 with fail
  have hx := At.new w 33 #[.int .i64 0, .int .i64 st, .int .i64 off, .string (strB S), .bool fin, .int .i64 mx, .int .i64 cd, .bool uni, .int .i64 dl, .slice ra rg.length rc, .int .i64 sq, .int .i64 rt, .string (strB cid)]
  have hO := (Only.refl [] w).alloc (.cells #[.int .i64 0, .int .i64 st, .int .i64 off, .string (strB S), .bool fin, .int .i64 mx, .int .i64 cd, .bool uni, .int .i64 dl, .slice ra rg.length rc, .int .i64 sq, .int .i64 rt, .string (strB cid)] 33)
  generalize w.alloc (.cells #[.int .i64 0, .int .i64 st, .int .i64 off, .string (strB S), .bool fin, .int .i64 mx, .int .i64 cd, .bool uni, .int .i64 dl, .slice ra rg.length rc, .int .i64 sq, .int .i64 rt, .string (strB cid)] 33) = w1 at hx hO ⊢
  generalize w.heap.size = pb at hx ⊢
  have HB := Lib.hid hx
  have HO := Lib.hid hO
  clear hx hO
  have y0 : w1.cell? ⟨pb, 0, none⟩ = some (.int .i64 0) := HB.out.cell 0 rfl
  clear zS zcid
  go_wp2_with fail
  go_ret
  exact StrQ.mk (by show 0 ≤ _; omega) HO.out
set_option maxRecDepth 100000 in
set_option maxHeartbeats 4000000 in
theorem parts_1 (st off mx cd dl sq rt : Int) (fin uni : Bool) (S cid : List UInt8) (rg : List (Int × Int)) (ra : Option Addr) (rc : Nat) (w : World) (hS : (strB S).size ≤ 1100) (hC : (strB cid).size ≤ 1100) :
    Calls Try.prog 64 #[.agg #[.int .i64 1, .int .i64 st, .int .i64 off, .string (strB S), .bool fin, .int .i64 mx, .int .i64 cd, .bool uni, .int .i64 dl, .slice ra rg.length rc, .int .i64 sq, .int .i64 rt, .string (strB cid)]] w (StrQ 4000 w) := by
  have zS : (strB S).size ≤ 1100 := hS
  have zcid : (strB cid).size ≤ 1100 := hC
  go_enter Try.func64, Try.ntmps64
  go_upto_region 1 with fail
  have hx := At.new w 33 #[.int .i64 1, .int .i64 st, .int .i64 off, .string (strB S), .bool fin, .int .i64 mx, .int .i64 cd, .bool uni, .int .i64 dl, .slice ra rg.length rc, .int .i64 sq, .int .i64 rt, .string (strB cid)]
  have hO := (Only.refl [] w).alloc (.cells #[.int .i64 1, .int .i64 st, .int .i64 off, .string (strB S), .bool fin, .int .i64 mx, .int .i64 cd, .bool uni, .int .i64 dl, .slice ra rg.length rc, .int .i64 sq, .int .i64 rt, .string (strB cid)] 33)
  generalize w.alloc (.cells #[.int .i64 1, .int .i64 st, .int .i64 off, .string (strB S), .bool fin, .int .i64 mx, .int .i64 cd, .bool uni, .int .i64 dl, .slice ra rg.length rc, .int .i64 sq, .int .i64 rt, .string (strB cid)] 33) = w1 at hx hO ⊢
  generalize w.heap.size = pb at hx ⊢
  have HB := Lib.hid hx
  have HO := Lib.hid hO
  clear hx hO
  have y0 : w1.cell? ⟨pb, 0, none⟩ = some (.int .i64 1) := HB.out.cell 0 rfl
  clear zS zcid
  go_wp2_with fail
  go_ret
  exact StrQ.mk (by show 0 ≤ _; omega) HO.out
set_option maxRecDepth 100000 in
set_option maxHeartbeats 4000000 in
theorem parts_30 (st off mx cd dl sq rt : Int) (fin uni : Bool) (S cid : List UInt8) (rg : List (Int × Int)) (ra : Option Addr) (rc : Nat) (w : World) (hS : (strB S).size ≤ 1100) (hC : (strB cid).size ≤ 1100) :
    Calls Try.prog 64 #[.agg #[.int .i64 30, .int .i64 st, .int .i64 off, .string (strB S), .bool fin, .int .i64 mx, .int .i64 cd, .bool uni, .int .i64 dl, .slice ra rg.length rc, .int .i64 sq, .int .i64 rt, .string (strB cid)]] w (StrQ 4000 w) := by
  have zS : (strB S).size ≤ 1100 := hS
  have zcid : (strB cid).size ≤ 1100 := hC
  go_enter Try.func64, Try.ntmps64
  go_upto_region 1 with fail
  have hx := At.new w 33 #[.int .i64 30, .int .i64 st, .int .i64 off, .string (strB S), .bool fin, .int .i64 mx, .int .i64 cd, .bool uni, .int .i64 dl, .slice ra rg.length rc, .int .i64 sq, .int .i64 rt, .string (strB cid)]
  have hO := (Only.refl [] w).alloc (.cells #[.int .i64 30, .int .i64 st, .int .i64 off, .string (strB S), .bool fin, .int .i64 mx, .int .i64 cd, .bool uni, .int .i64 dl, .slice ra rg.length rc, .int .i64 sq, .int .i64 rt, .string (strB cid)] 33)
  generalize w.alloc (.cells #[.int .i64 30, .int .i64 st, .int .i64 off, .string (strB S), .bool fin, .int .i64 mx, .int .i64 cd, .bool uni, .int .i64 dl, .slice ra rg.length rc, .int .i64 sq, .int .i64 rt, .string (strB cid)] 33) = w1 at hx hO ⊢
  generalize w.heap.size = pb at hx ⊢
  have HB := Lib.hid hx
  have HO := Lib.hid hO
  clear hx hO
  have y0 : w1.cell? ⟨pb, 0, none⟩ = some (.int .i64 30) := HB.out.cell 0 rfl
  clear zS zcid
  go_wp2_with fail
  go_ret
  exact StrQ.mk (by show 0 ≤ _; omega) HO.out
set_option maxRecDepth 100000 in
set_option maxHeartbeats 4000000 in
theorem parts_4 (st off mx cd dl sq rt : Int) (fin uni : Bool) (S cid : List UInt8) (rg : List (Int × Int)) (ra : Option Addr) (rc : Nat) (w : World) (hS : (strB S).size ≤ 1100) (hC : (strB cid).size ≤ 1100) :
    Calls Try.prog 64 #[.agg #[.int .i64 4, .int .i64 st, .int .i64 off, .string (strB S), .bool fin, .int .i64 mx, .int .i64 cd, .bool uni, .int .i64 dl, .slice ra rg.length rc, .int .i64 sq, .int .i64 rt, .string (strB cid)]] w (StrQ 4000 w) := by
  have zS : (strB S).size ≤ 1100 := hS
  have zcid : (strB cid).size ≤ 1100 := hC
  go_enter Try.func64, Try.ntmps64
  go_upto_region 1 with fail
  have hx := At.new w 33 #[.int .i64 4, .int .i64 st, .int .i64 off, .string (strB S), .bool fin, .int .i64 mx, .int .i64 cd, .bool uni, .int .i64 dl, .slice ra rg.length rc, .int .i64 sq, .int .i64 rt, .string (strB cid)]
  have hO := (Only.refl [] w).alloc (.cells #[.int .i64 4, .int .i64 st, .int .i64 off, .string (strB S), .bool fin, .int .i64 mx, .int .i64 cd, .bool uni, .int .i64 dl, .slice ra rg.length rc, .int .i64 sq, .int .i64 rt, .string (strB cid)] 33)
  generalize w.alloc (.cells #[.int .i64 4, .int .i64 st, .int .i64 off, .string (strB S), .bool fin, .int .i64 mx, .int .i64 cd, .bool uni, .int .i64 dl, .slice ra rg.length rc, .int .i64 sq, .int .i64 rt, .string (strB cid)] 33) = w1 at hx hO ⊢
  generalize w.heap.size = pb at hx ⊢
  have HB := Lib.hid hx
  have HO := Lib.hid hO
  clear hx hO
  have y0 : w1.cell? ⟨pb, 0, none⟩ = some (.int .i64 4) := HB.out.cell 0 rfl
  go_upto_region 14 with fail
  clear y0
  have HKP : Hid (∀ ww, Only [] w1.drew ww → ww.cell? ⟨pb, 1, none⟩ = some (.int .i64 st) ∧ ww.cell? ⟨pb, 5, none⟩ = some (.int .i64 mx) ∧ ww.cell? ⟨pb, 6, none⟩ = some (.int .i64 cd)) := Lib.hid (fun ww o => ⟨((HB.out.drew).keep o (by simp)).cell 1 rfl, ((HB.out.drew).keep o (by simp)).cell 5 rfl, ((HB.out.drew).keep o (by simp)).cell 6 rfl⟩)
  have HW0 : Hid (Only [] w1.drew w1.drew) := Lib.hid (Only.refl _ _)
  refine wp_region_held_drew (S := fun w' => w'.cell? ⟨pb, 1, none⟩ = some (.int .i64 st) ∧ w'.cell? ⟨pb, 5, none⟩ = some (.int .i64 mx) ∧ w'.cell? ⟨pb, 6, none⟩ = some (.int .i64 cd)) (by kernel_rfl) (by exact HKP.out _ (Only.refl _ _)) (fun hHeld => ?_)
  refine tkH (i := 0) rfl (fun wS hSw => by (try dsimp only at hSw); go_simp; try with_reducible rfl) ?_
  simp only [tk1, tk2, tk3, Act.put, tk4, tk5, tk6]
  refine tkH (i := 1) rfl (fun wS hSw => by (try dsimp only at hSw); go_simp; try with_reducible rfl) ?_
  simp only [tk1, tk2, tk3, Act.put, tk4, tk5, tk6]
  refine tkH (i := 3) rfl (fun wS hSw => by (try dsimp only at hSw); go_simp; try with_reducible rfl) ?_
  simp only [tk1, tk2, tk3, Act.put, tk4, tk5, tk6]
  refine tkH (i := 4) rfl (fun wS hSw => by (try dsimp only at hSw); go_simp; try with_reducible rfl) ?_
  simp only [tk1, tk2, tk3, Act.put, tk4, tk5, tk6]
  refine tkH (i := 7) rfl (fun wS hSw => by (try dsimp only at hSw); go_simp; try with_reducible rfl) ?_
  simp only [tk1, tk2, tk3, Act.put, tk4, tk5, tk6]
  refine tkH (i := 8) rfl (fun wS hSw => by (try dsimp only at hSw); go_simp; try with_reducible rfl) ?_
  simp only [tk1, tk2, tk3, Act.put, tk4, tk5, tk6]
  refine wpAnyH_ready (rs := [2]) (by kernel_rfl) (by simp) ?_
  refine AllReadyH.cons rfl (fun K hK => ?_) AllReadyH.nil
  go_simp
  refine (rv_w st _).mono ?_
  rintro e w2 ⟨S0, rfl, hz0, ho⟩
  replace HW0 := Lib.hid (HW0.out.trans ho)
  clear ho
  refine hK.out _ _ (HKP.out _ HW0.out) (fun hHeld' => ?_)
  clear hHeld hK K
  have hHeld := hHeld'
  clear hHeld'
  try simp only [tk1, tk2, tk3, Act.put, tk4, tk5, tk6]
  refine wpAnyH_ready (rs := [5]) (by kernel_rfl) (by simp) ?_
  refine AllReadyH.cons rfl (fun K hK => ?_) AllReadyH.nil
  go_simp
  refine (rv_w cd _).mono ?_
  rintro e w3 ⟨S1, rfl, hz1, ho⟩
  replace HW0 := Lib.hid (HW0.out.trans ho)
  clear ho
  refine hK.out _ _ (HKP.out _ HW0.out) (fun hHeld' => ?_)
  clear hHeld hK K
  have hHeld := hHeld'
  clear hHeld'
  try simp only [tk1, tk2, tk3, Act.put, tk4, tk5, tk6]
  have g1 : ¬ 9223372036854775807 < S0.size + S1.size := by omega
  have hA1 : (S0 ++ S1).size ≤ 2220 := by rw [ByteArray.size_append]; omega
  refine tkH (i := 6) rfl (fun wS hSw => by (try dsimp only at hSw); go_simp; try with_reducible rfl) ?_
  simp only [tk1, tk2, tk3, Act.put, tk4, tk5, tk6]
  generalize S0 ++ S1 = T1 at hA1 ⊢
  refine wpAnyH_ready (rs := [9]) (by kernel_rfl) (by simp) ?_
  refine AllReadyH.cons rfl (fun K hK => ?_) AllReadyH.nil
  go_simp
  refine (rv_w mx _).mono ?_
  rintro e w4 ⟨S2, rfl, hz2, ho⟩
  replace HW0 := Lib.hid (HW0.out.trans ho)
  clear ho
  refine hK.out _ _ (HKP.out _ HW0.out) (fun hHeld' => ?_)
  clear hHeld hK K
  have hHeld := hHeld'
  clear hHeld'
  try simp only [tk1, tk2, tk3, Act.put, tk4, tk5, tk6]
  have g2 : ¬ 9223372036854775807 < T1.size + S2.size := by omega
  have hA2 : (T1 ++ S2).size ≤ 3330 := by rw [ByteArray.size_append]; omega
  refine tkH (i := 10) rfl (fun wS hSw => by (try dsimp only at hSw); go_simp; try with_reducible rfl) ?_
  simp only [tk1, tk2, tk3, Act.put, tk4, tk5, tk6]
  generalize T1 ++ S2 = T2 at hA2 ⊢
  refine tkH (i := 11) rfl (fun wS hSw => by (try dsimp only at hSw); go_simp; try with_reducible rfl) ?_
  simp only [tk1, tk2, tk3, Act.put, tk4, tk5, tk6]
  refine wpAnyH_done (by kernel_rfl) ?_ _
  have HT : Hid (T2.size ≤ 4000) := Lib.hid (by omega)
  have HO2 : Hid (Only [] w _) := Lib.hid (HO.out.drew.trans HW0.out)
  clear HKP hHeld
  go_wp2_with fail
  go_ret
  exact StrQ.mk HT.out HO2.out
set_option maxRecDepth 100000 in
set_option maxHeartbeats 4000000 in
theorem parts_5 (st off mx cd dl sq rt : Int) (fin uni : Bool) (S cid : List UInt8) (rg : List (Int × Int)) (ra : Option Addr) (rc : Nat) (w : World) (hS : (strB S).size ≤ 1100) (hC : (strB cid).size ≤ 1100) :
    Calls Try.prog 64 #[.agg #[.int .i64 5, .int .i64 st, .int .i64 off, .string (strB S), .bool fin, .int .i64 mx, .int .i64 cd, .bool uni, .int .i64 dl, .slice ra rg.length rc, .int .i64 sq, .int .i64 rt, .string (strB cid)]] w (StrQ 4000 w) := by
  have zS : (strB S).size ≤ 1100 := hS
  have zcid : (strB cid).size ≤ 1100 := hC
  go_enter Try.func64, Try.ntmps64
  go_upto_region 1 with fail
  have hx := At.new w 33 #[.int .i64 5, .int .i64 st, .int .i64 off, .string (strB S), .bool fin, .int .i64 mx, .int .i64 cd, .bool uni, .int .i64 dl, .slice ra rg.length rc, .int .i64 sq, .int .i64 rt, .string (strB cid)]
  have hO := (Only.refl [] w).alloc (.cells #[.int .i64 5, .int .i64 st, .int .i64 off, .string (strB S), .bool fin, .int .i64 mx, .int .i64 cd, .bool uni, .int .i64 dl, .slice ra rg.length rc, .int .i64 sq, .int .i64 rt, .string (strB cid)] 33)
  generalize w.alloc (.cells #[.int .i64 5, .int .i64 st, .int .i64 off, .string (strB S), .bool fin, .int .i64 mx, .int .i64 cd, .bool uni, .int .i64 dl, .slice ra rg.length rc, .int .i64 sq, .int .i64 rt, .string (strB cid)] 33) = w1 at hx hO ⊢
  generalize w.heap.size = pb at hx ⊢
  have HB := Lib.hid hx
  have HO := Lib.hid hO
  clear hx hO
  have y0 : w1.cell? ⟨pb, 0, none⟩ = some (.int .i64 5) := HB.out.cell 0 rfl
  go_upto_region 16 with fail
  clear y0
  have HKP : Hid (∀ ww, Only [] w1.drew ww → ww.cell? ⟨pb, 1, none⟩ = some (.int .i64 st) ∧ ww.cell? ⟨pb, 6, none⟩ = some (.int .i64 cd)) := Lib.hid (fun ww o => ⟨((HB.out.drew).keep o (by simp)).cell 1 rfl, ((HB.out.drew).keep o (by simp)).cell 6 rfl⟩)
  have HW0 : Hid (Only [] w1.drew w1.drew) := Lib.hid (Only.refl _ _)
  refine wp_region_held_drew (S := fun w' => w'.cell? ⟨pb, 1, none⟩ = some (.int .i64 st) ∧ w'.cell? ⟨pb, 6, none⟩ = some (.int .i64 cd)) (by kernel_rfl) (by exact HKP.out _ (Only.refl _ _)) (fun hHeld => ?_)
  refine tkH (i := 0) rfl (fun wS hSw => by (try dsimp only at hSw); go_simp; try with_reducible rfl) ?_
  simp only [tk1, tk2, tk3, Act.put, tk4, tk5, tk6]
  refine tkH (i := 1) rfl (fun wS hSw => by (try dsimp only at hSw); go_simp; try with_reducible rfl) ?_
  simp only [tk1, tk2, tk3, Act.put, tk4, tk5, tk6]
  refine tkH (i := 3) rfl (fun wS hSw => by (try dsimp only at hSw); go_simp; try with_reducible rfl) ?_
  simp only [tk1, tk2, tk3, Act.put, tk4, tk5, tk6]
  refine tkH (i := 4) rfl (fun wS hSw => by (try dsimp only at hSw); go_simp; try with_reducible rfl) ?_
  simp only [tk1, tk2, tk3, Act.put, tk4, tk5, tk6]
  refine wpAnyH_ready (rs := [2]) (by kernel_rfl) (by simp) ?_
  refine AllReadyH.cons rfl (fun K hK => ?_) AllReadyH.nil
  go_simp
  refine (rv_w st _).mono ?_
  rintro e w2 ⟨S0, rfl, hz0, ho⟩
  replace HW0 := Lib.hid (HW0.out.trans ho)
  clear ho
  refine hK.out _ _ (HKP.out _ HW0.out) (fun hHeld' => ?_)
  clear hHeld hK K
  have hHeld := hHeld'
  clear hHeld'
  try simp only [tk1, tk2, tk3, Act.put, tk4, tk5, tk6]
  refine wpAnyH_ready (rs := [5]) (by kernel_rfl) (by simp) ?_
  refine AllReadyH.cons rfl (fun K hK => ?_) AllReadyH.nil
  go_simp
  refine (rv_w cd _).mono ?_
  rintro e w3 ⟨S1, rfl, hz1, ho⟩
  replace HW0 := Lib.hid (HW0.out.trans ho)
  clear ho
  refine hK.out _ _ (HKP.out _ HW0.out) (fun hHeld' => ?_)
  clear hHeld hK K
  have hHeld := hHeld'
  clear hHeld'
  try simp only [tk1, tk2, tk3, Act.put, tk4, tk5, tk6]
  have g1 : ¬ 9223372036854775807 < S0.size + S1.size := by omega
  have hA1 : (S0 ++ S1).size ≤ 2220 := by rw [ByteArray.size_append]; omega
  refine tkH (i := 6) rfl (fun wS hSw => by (try dsimp only at hSw); go_simp; try with_reducible rfl) ?_
  simp only [tk1, tk2, tk3, Act.put, tk4, tk5, tk6]
  generalize S0 ++ S1 = T1 at hA1 ⊢
  refine tkH (i := 7) rfl (fun wS hSw => by (try dsimp only at hSw); go_simp; try with_reducible rfl) ?_
  simp only [tk1, tk2, tk3, Act.put, tk4, tk5, tk6]
  refine wpAnyH_done (by kernel_rfl) ?_ _
  have HT : Hid (T1.size ≤ 4000) := Lib.hid (by omega)
  have HO2 : Hid (Only [] w _) := Lib.hid (HO.out.drew.trans HW0.out)
  clear HKP hHeld
  go_wp2_with fail
  go_ret
  exact StrQ.mk HT.out HO2.out
set_option maxRecDepth 100000 in
set_option maxHeartbeats 4000000 in
theorem parts_6 (st off mx cd dl sq rt : Int) (fin uni : Bool) (S cid : List UInt8) (rg : List (Int × Int)) (ra : Option Addr) (rc : Nat) (w : World) (hS : (strB S).size ≤ 1100) (hC : (strB cid).size ≤ 1100) :
    Calls Try.prog 64 #[.agg #[.int .i64 6, .int .i64 st, .int .i64 off, .string (strB S), .bool fin, .int .i64 mx, .int .i64 cd, .bool uni, .int .i64 dl, .slice ra rg.length rc, .int .i64 sq, .int .i64 rt, .string (strB cid)]] w (StrQ 4000 w) := by
  have zS : (strB S).size ≤ 1100 := hS
  have zcid : (strB cid).size ≤ 1100 := hC
  go_enter Try.func64, Try.ntmps64
  go_upto_region 1 with fail
  have hx := At.new w 33 #[.int .i64 6, .int .i64 st, .int .i64 off, .string (strB S), .bool fin, .int .i64 mx, .int .i64 cd, .bool uni, .int .i64 dl, .slice ra rg.length rc, .int .i64 sq, .int .i64 rt, .string (strB cid)]
  have hO := (Only.refl [] w).alloc (.cells #[.int .i64 6, .int .i64 st, .int .i64 off, .string (strB S), .bool fin, .int .i64 mx, .int .i64 cd, .bool uni, .int .i64 dl, .slice ra rg.length rc, .int .i64 sq, .int .i64 rt, .string (strB cid)] 33)
  generalize w.alloc (.cells #[.int .i64 6, .int .i64 st, .int .i64 off, .string (strB S), .bool fin, .int .i64 mx, .int .i64 cd, .bool uni, .int .i64 dl, .slice ra rg.length rc, .int .i64 sq, .int .i64 rt, .string (strB cid)] 33) = w1 at hx hO ⊢
  generalize w.heap.size = pb at hx ⊢
  have HB := Lib.hid hx
  have HO := Lib.hid hO
  clear hx hO
  have y0 : w1.cell? ⟨pb, 0, none⟩ = some (.int .i64 6) := HB.out.cell 0 rfl
  go_upto_region 18 with fail
  clear y0
  have HKP : Hid (∀ ww, Only [] w1.drew ww → ww.cell? ⟨pb, 2, none⟩ = some (.int .i64 off) ∧ ww.cell? ⟨pb, 3, none⟩ = some (.string (strB S))) := Lib.hid (fun ww o => ⟨((HB.out.drew).keep o (by simp)).cell 2 rfl, ((HB.out.drew).keep o (by simp)).cell 3 rfl⟩)
  have HW0 : Hid (Only [] w1.drew w1.drew) := Lib.hid (Only.refl _ _)
  refine wp_region_held_drew (S := fun w' => w'.cell? ⟨pb, 2, none⟩ = some (.int .i64 off) ∧ w'.cell? ⟨pb, 3, none⟩ = some (.string (strB S))) (by kernel_rfl) (by exact HKP.out _ (Only.refl _ _)) (fun hHeld => ?_)
  refine tkH (i := 0) rfl (fun wS hSw => by (try dsimp only at hSw); go_simp; try with_reducible rfl) ?_
  simp only [tk1, tk2, tk3, Act.put, tk4, tk5, tk6]
  refine tkH (i := 1) rfl (fun wS hSw => by (try dsimp only at hSw); go_simp; try with_reducible rfl) ?_
  simp only [tk1, tk2, tk3, Act.put, tk4, tk5, tk6]
  refine tkH (i := 3) rfl (fun wS hSw => by (try dsimp only at hSw); go_simp; try with_reducible rfl) ?_
  simp only [tk1, tk2, tk3, Act.put, tk4, tk5, tk6]
  refine tkH (i := 4) rfl (fun wS hSw => by (try dsimp only at hSw); go_simp; try with_reducible rfl) ?_
  simp only [tk1, tk2, tk3, Act.put, tk4, tk5, tk6]
  refine wpAnyH_ready (rs := [2]) (by kernel_rfl) (by simp) ?_
  refine AllReadyH.cons rfl (fun K hK => ?_) AllReadyH.nil
  go_simp
  refine (rv_w off _).mono ?_
  rintro e w2 ⟨S0, rfl, hz0, ho⟩
  replace HW0 := Lib.hid (HW0.out.trans ho)
  clear ho
  refine hK.out _ _ (HKP.out _ HW0.out) (fun hHeld' => ?_)
  clear hHeld hK K
  have hHeld := hHeld'
  clear hHeld'
  try simp only [tk1, tk2, tk3, Act.put, tk4, tk5, tk6]
  refine wpAnyH_ready (rs := [5]) (by kernel_rfl) (by simp) ?_
  refine AllReadyH.cons rfl (fun K hK => ?_) AllReadyH.nil
  go_simp
  refine (rtext_w (strB S) hS _).mono ?_
  rintro e w3 ⟨S1, rfl, hz1, ho⟩
  replace HW0 := Lib.hid (HW0.out.trans ho)
  clear ho
  refine hK.out _ _ (HKP.out _ HW0.out) (fun hHeld' => ?_)
  clear hHeld hK K
  have hHeld := hHeld'
  clear hHeld'
  try simp only [tk1, tk2, tk3, Act.put, tk4, tk5, tk6]
  have g1 : ¬ 9223372036854775807 < S0.size + S1.size := by omega
  have hA1 : (S0 ++ S1).size ≤ 2220 := by rw [ByteArray.size_append]; omega
  refine tkH (i := 6) rfl (fun wS hSw => by (try dsimp only at hSw); go_simp; try with_reducible rfl) ?_
  simp only [tk1, tk2, tk3, Act.put, tk4, tk5, tk6]
  generalize S0 ++ S1 = T1 at hA1 ⊢
  refine tkH (i := 7) rfl (fun wS hSw => by (try dsimp only at hSw); go_simp; try with_reducible rfl) ?_
  simp only [tk1, tk2, tk3, Act.put, tk4, tk5, tk6]
  refine wpAnyH_done (by kernel_rfl) ?_ _
  have HT : Hid (T1.size ≤ 4000) := Lib.hid (by omega)
  have HO2 : Hid (Only [] w _) := Lib.hid (HO.out.drew.trans HW0.out)
  clear HKP hHeld
  go_wp2_with fail
  go_ret
  exact StrQ.mk HT.out HO2.out
set_option maxRecDepth 100000 in
set_option maxHeartbeats 4000000 in
theorem parts_7 (st off mx cd dl sq rt : Int) (fin uni : Bool) (S cid : List UInt8) (rg : List (Int × Int)) (ra : Option Addr) (rc : Nat) (w : World) (hS : (strB S).size ≤ 1100) (hC : (strB cid).size ≤ 1100) :
    Calls Try.prog 64 #[.agg #[.int .i64 7, .int .i64 st, .int .i64 off, .string (strB S), .bool fin, .int .i64 mx, .int .i64 cd, .bool uni, .int .i64 dl, .slice ra rg.length rc, .int .i64 sq, .int .i64 rt, .string (strB cid)]] w (StrQ 4000 w) := by
  have zS : (strB S).size ≤ 1100 := hS
  have zcid : (strB cid).size ≤ 1100 := hC
  go_enter Try.func64, Try.ntmps64
  go_upto_region 1 with fail
  have hx := At.new w 33 #[.int .i64 7, .int .i64 st, .int .i64 off, .string (strB S), .bool fin, .int .i64 mx, .int .i64 cd, .bool uni, .int .i64 dl, .slice ra rg.length rc, .int .i64 sq, .int .i64 rt, .string (strB cid)]
  have hO := (Only.refl [] w).alloc (.cells #[.int .i64 7, .int .i64 st, .int .i64 off, .string (strB S), .bool fin, .int .i64 mx, .int .i64 cd, .bool uni, .int .i64 dl, .slice ra rg.length rc, .int .i64 sq, .int .i64 rt, .string (strB cid)] 33)
  generalize w.alloc (.cells #[.int .i64 7, .int .i64 st, .int .i64 off, .string (strB S), .bool fin, .int .i64 mx, .int .i64 cd, .bool uni, .int .i64 dl, .slice ra rg.length rc, .int .i64 sq, .int .i64 rt, .string (strB cid)] 33) = w1 at hx hO ⊢
  generalize w.heap.size = pb at hx ⊢
  have HB := Lib.hid hx
  have HO := Lib.hid hO
  clear hx hO
  have y0 : w1.cell? ⟨pb, 0, none⟩ = some (.int .i64 7) := HB.out.cell 0 rfl
  have y3 : w1.cell? ⟨pb, 3, none⟩ = some (.string (strB S)) := HB.out.cell 3 rfl
  have HS : Hid ((strB S).size ≤ 4000) := Lib.hid (by omega)
  clear zcid
  go_wp2_with fail
  refine (rtext_w (strB S) hS _).mono ?_
  rintro e w2 ⟨T, rfl, hz, ho⟩
  have HT : Hid (T.size ≤ 4000) := Lib.hid (by omega)
  have HO2 := Lib.hid (HO.out.trans ho)
  clear hz ho
  go_wp2_with fail
  go_ret
  exact StrQ.mk HT.out HO2.out
set_option maxRecDepth 100000 in
set_option maxHeartbeats 4000000 in
theorem parts_8 (st off mx cd dl sq rt : Int) (fin uni : Bool) (S cid : List UInt8) (rg : List (Int × Int)) (ra : Option Addr) (rc : Nat) (w : World) (hS : (strB S).size ≤ 1100) (hC : (strB cid).size ≤ 1100) :
    Calls Try.prog 64 #[.agg #[.int .i64 8, .int .i64 st, .int .i64 off, .string (strB S), .bool fin, .int .i64 mx, .int .i64 cd, .bool uni, .int .i64 dl, .slice ra rg.length rc, .int .i64 sq, .int .i64 rt, .string (strB cid)]] w (StrQ 4000 w) := by
  have zS : (strB S).size ≤ 1100 := hS
  have zcid : (strB cid).size ≤ 1100 := hC
  go_enter Try.func64, Try.ntmps64
  go_upto_region 1 with fail
  have hx := At.new w 33 #[.int .i64 8, .int .i64 st, .int .i64 off, .string (strB S), .bool fin, .int .i64 mx, .int .i64 cd, .bool uni, .int .i64 dl, .slice ra rg.length rc, .int .i64 sq, .int .i64 rt, .string (strB cid)]
  have hO := (Only.refl [] w).alloc (.cells #[.int .i64 8, .int .i64 st, .int .i64 off, .string (strB S), .bool fin, .int .i64 mx, .int .i64 cd, .bool uni, .int .i64 dl, .slice ra rg.length rc, .int .i64 sq, .int .i64 rt, .string (strB cid)] 33)
  generalize w.alloc (.cells #[.int .i64 8, .int .i64 st, .int .i64 off, .string (strB S), .bool fin, .int .i64 mx, .int .i64 cd, .bool uni, .int .i64 dl, .slice ra rg.length rc, .int .i64 sq, .int .i64 rt, .string (strB cid)] 33) = w1 at hx hO ⊢
  generalize w.heap.size = pb at hx ⊢
  have HB := Lib.hid hx
  have HO := Lib.hid hO
  clear hx hO
  have y0 : w1.cell? ⟨pb, 0, none⟩ = some (.int .i64 8) := HB.out.cell 0 rfl
  go_upto_region 22 with fail
  clear y0
  have HKP : Hid (∀ ww, Only [] w1.drew ww → ww.cell? ⟨pb, 1, none⟩ = some (.int .i64 st) ∧ ww.cell? ⟨pb, 2, none⟩ = some (.int .i64 off) ∧ ww.cell? ⟨pb, 3, none⟩ = some (.string (strB S))) := Lib.hid (fun ww o => ⟨((HB.out.drew).keep o (by simp)).cell 1 rfl, ((HB.out.drew).keep o (by simp)).cell 2 rfl, ((HB.out.drew).keep o (by simp)).cell 3 rfl⟩)
  have HW0 : Hid (Only [] w1.drew w1.drew) := Lib.hid (Only.refl _ _)
  refine wp_region_held_drew (S := fun w' => w'.cell? ⟨pb, 1, none⟩ = some (.int .i64 st) ∧ w'.cell? ⟨pb, 2, none⟩ = some (.int .i64 off) ∧ w'.cell? ⟨pb, 3, none⟩ = some (.string (strB S))) (by kernel_rfl) (by exact HKP.out _ (Only.refl _ _)) (fun hHeld => ?_)
  refine tkH (i := 0) rfl (fun wS hSw => by (try dsimp only at hSw); go_simp; try with_reducible rfl) ?_
  simp only [tk1, tk2, tk3, Act.put, tk4, tk5, tk6]
  refine tkH (i := 1) rfl (fun wS hSw => by (try dsimp only at hSw); go_simp; try with_reducible rfl) ?_
  simp only [tk1, tk2, tk3, Act.put, tk4, tk5, tk6]
  refine tkH (i := 3) rfl (fun wS hSw => by (try dsimp only at hSw); go_simp; try with_reducible rfl) ?_
  simp only [tk1, tk2, tk3, Act.put, tk4, tk5, tk6]
  refine tkH (i := 4) rfl (fun wS hSw => by (try dsimp only at hSw); go_simp; try with_reducible rfl) ?_
  simp only [tk1, tk2, tk3, Act.put, tk4, tk5, tk6]
  refine tkH (i := 7) rfl (fun wS hSw => by (try dsimp only at hSw); go_simp; try with_reducible rfl) ?_
  simp only [tk1, tk2, tk3, Act.put, tk4, tk5, tk6]
  refine tkH (i := 8) rfl (fun wS hSw => by (try dsimp only at hSw); go_simp; try with_reducible rfl) ?_
  simp only [tk1, tk2, tk3, Act.put, tk4, tk5, tk6]
  refine wpAnyH_ready (rs := [2]) (by kernel_rfl) (by simp) ?_
  refine AllReadyH.cons rfl (fun K hK => ?_) AllReadyH.nil
  go_simp
  refine (rv_w st _).mono ?_
  rintro e w2 ⟨S0, rfl, hz0, ho⟩
  replace HW0 := Lib.hid (HW0.out.trans ho)
  clear ho
  refine hK.out _ _ (HKP.out _ HW0.out) (fun hHeld' => ?_)
  clear hHeld hK K
  have hHeld := hHeld'
  clear hHeld'
  try simp only [tk1, tk2, tk3, Act.put, tk4, tk5, tk6]
  refine wpAnyH_ready (rs := [5]) (by kernel_rfl) (by simp) ?_
  refine AllReadyH.cons rfl (fun K hK => ?_) AllReadyH.nil
  go_simp
  refine (rv_w off _).mono ?_
  rintro e w3 ⟨S1, rfl, hz1, ho⟩
  replace HW0 := Lib.hid (HW0.out.trans ho)
  clear ho
  refine hK.out _ _ (HKP.out _ HW0.out) (fun hHeld' => ?_)
  clear hHeld hK K
  have hHeld := hHeld'
  clear hHeld'
  try simp only [tk1, tk2, tk3, Act.put, tk4, tk5, tk6]
  have g1 : ¬ 9223372036854775807 < S0.size + S1.size := by omega
  have hA1 : (S0 ++ S1).size ≤ 2220 := by rw [ByteArray.size_append]; omega
  refine tkH (i := 6) rfl (fun wS hSw => by (try dsimp only at hSw); go_simp; try with_reducible rfl) ?_
  simp only [tk1, tk2, tk3, Act.put, tk4, tk5, tk6]
  generalize S0 ++ S1 = T1 at hA1 ⊢
  refine wpAnyH_ready (rs := [9]) (by kernel_rfl) (by simp) ?_
  refine AllReadyH.cons rfl (fun K hK => ?_) AllReadyH.nil
  go_simp
  refine (rtext_w (strB S) hS _).mono ?_
  rintro e w4 ⟨S2, rfl, hz2, ho⟩
  replace HW0 := Lib.hid (HW0.out.trans ho)
  clear ho
  refine hK.out _ _ (HKP.out _ HW0.out) (fun hHeld' => ?_)
  clear hHeld hK K
  have hHeld := hHeld'
  clear hHeld'
  try simp only [tk1, tk2, tk3, Act.put, tk4, tk5, tk6]
  have g2 : ¬ 9223372036854775807 < T1.size + S2.size := by omega
  have hA2 : (T1 ++ S2).size ≤ 3330 := by rw [ByteArray.size_append]; omega
  refine tkH (i := 10) rfl (fun wS hSw => by (try dsimp only at hSw); go_simp; try with_reducible rfl) ?_
  simp only [tk1, tk2, tk3, Act.put, tk4, tk5, tk6]
  generalize T1 ++ S2 = T2 at hA2 ⊢
  refine tkH (i := 11) rfl (fun wS hSw => by (try dsimp only at hSw); go_simp; try with_reducible rfl) ?_
  simp only [tk1, tk2, tk3, Act.put, tk4, tk5, tk6]
  refine wpAnyH_done (by kernel_rfl) ?_ _
  have HT : Hid (T2.size ≤ 4000) := Lib.hid (by omega)
  have HO2 : Hid (Only [] w _) := Lib.hid (HO.out.drew.trans HW0.out)
  clear HKP hHeld
  go_wp2_with fail
  go_ret
  exact StrQ.mk HT.out HO2.out
set_option maxRecDepth 100000 in
set_option maxHeartbeats 4000000 in
theorem parts_16 (st off mx cd dl sq rt : Int) (fin uni : Bool) (S cid : List UInt8) (rg : List (Int × Int)) (ra : Option Addr) (rc : Nat) (w : World) (hS : (strB S).size ≤ 1100) (hC : (strB cid).size ≤ 1100) :
    Calls Try.prog 64 #[.agg #[.int .i64 16, .int .i64 st, .int .i64 off, .string (strB S), .bool fin, .int .i64 mx, .int .i64 cd, .bool uni, .int .i64 dl, .slice ra rg.length rc, .int .i64 sq, .int .i64 rt, .string (strB cid)]] w (StrQ 4000 w) := by
  have zS : (strB S).size ≤ 1100 := hS
  have zcid : (strB cid).size ≤ 1100 := hC
  go_enter Try.func64, Try.ntmps64
  go_upto_region 1 with fail
  have hx := At.new w 33 #[.int .i64 16, .int .i64 st, .int .i64 off, .string (strB S), .bool fin, .int .i64 mx, .int .i64 cd, .bool uni, .int .i64 dl, .slice ra rg.length rc, .int .i64 sq, .int .i64 rt, .string (strB cid)]
  have hO := (Only.refl [] w).alloc (.cells #[.int .i64 16, .int .i64 st, .int .i64 off, .string (strB S), .bool fin, .int .i64 mx, .int .i64 cd, .bool uni, .int .i64 dl, .slice ra rg.length rc, .int .i64 sq, .int .i64 rt, .string (strB cid)] 33)
  generalize w.alloc (.cells #[.int .i64 16, .int .i64 st, .int .i64 off, .string (strB S), .bool fin, .int .i64 mx, .int .i64 cd, .bool uni, .int .i64 dl, .slice ra rg.length rc, .int .i64 sq, .int .i64 rt, .string (strB cid)] 33) = w1 at hx hO ⊢
  generalize w.heap.size = pb at hx ⊢
  have HB := Lib.hid hx
  have HO := Lib.hid hO
  clear hx hO
  have y0 : w1.cell? ⟨pb, 0, none⟩ = some (.int .i64 16) := HB.out.cell 0 rfl
  have y5 : w1.cell? ⟨pb, 5, none⟩ = some (.int .i64 mx) := HB.out.cell 5 rfl
  have HS : Hid ((strB S).size ≤ 4000) := Lib.hid (by omega)
  clear zcid
  go_wp2_with fail
  refine (rv_w mx _).mono ?_
  rintro e w2 ⟨T, rfl, hz, ho⟩
  have HT : Hid (T.size ≤ 4000) := Lib.hid (by omega)
  have HO2 := Lib.hid (HO.out.trans ho)
  clear hz ho
  go_wp2_with fail
  go_ret
  exact StrQ.mk HT.out HO2.out
set_option maxRecDepth 100000 in
set_option maxHeartbeats 4000000 in
theorem parts_20 (st off mx cd dl sq rt : Int) (fin uni : Bool) (S cid : List UInt8) (rg : List (Int × Int)) (ra : Option Addr) (rc : Nat) (w : World) (hS : (strB S).size ≤ 1100) (hC : (strB cid).size ≤ 1100) :
    Calls Try.prog 64 #[.agg #[.int .i64 20, .int .i64 st, .int .i64 off, .string (strB S), .bool fin, .int .i64 mx, .int .i64 cd, .bool uni, .int .i64 dl, .slice ra rg.length rc, .int .i64 sq, .int .i64 rt, .string (strB cid)]] w (StrQ 4000 w) := by
  have zS : (strB S).size ≤ 1100 := hS
  have zcid : (strB cid).size ≤ 1100 := hC
  go_enter Try.func64, Try.ntmps64
  go_upto_region 1 with fail
  have hx := At.new w 33 #[.int .i64 20, .int .i64 st, .int .i64 off, .string (strB S), .bool fin, .int .i64 mx, .int .i64 cd, .bool uni, .int .i64 dl, .slice ra rg.length rc, .int .i64 sq, .int .i64 rt, .string (strB cid)]
  have hO := (Only.refl [] w).alloc (.cells #[.int .i64 20, .int .i64 st, .int .i64 off, .string (strB S), .bool fin, .int .i64 mx, .int .i64 cd, .bool uni, .int .i64 dl, .slice ra rg.length rc, .int .i64 sq, .int .i64 rt, .string (strB cid)] 33)
  generalize w.alloc (.cells #[.int .i64 20, .int .i64 st, .int .i64 off, .string (strB S), .bool fin, .int .i64 mx, .int .i64 cd, .bool uni, .int .i64 dl, .slice ra rg.length rc, .int .i64 sq, .int .i64 rt, .string (strB cid)] 33) = w1 at hx hO ⊢
  generalize w.heap.size = pb at hx ⊢
  have HB := Lib.hid hx
  have HO := Lib.hid hO
  clear hx hO
  have y0 : w1.cell? ⟨pb, 0, none⟩ = some (.int .i64 20) := HB.out.cell 0 rfl
  have y5 : w1.cell? ⟨pb, 5, none⟩ = some (.int .i64 mx) := HB.out.cell 5 rfl
  have HS : Hid ((strB S).size ≤ 4000) := Lib.hid (by omega)
  clear zcid
  go_wp2_with fail
  refine (rv_w mx _).mono ?_
  rintro e w2 ⟨T, rfl, hz, ho⟩
  have HT : Hid (T.size ≤ 4000) := Lib.hid (by omega)
  have HO2 := Lib.hid (HO.out.trans ho)
  clear hz ho
  go_wp2_with fail
  go_ret
  exact StrQ.mk HT.out HO2.out
set_option maxRecDepth 100000 in
set_option maxHeartbeats 4000000 in
theorem parts_17 (st off mx cd dl sq rt : Int) (fin uni : Bool) (S cid : List UInt8) (rg : List (Int × Int)) (ra : Option Addr) (rc : Nat) (w : World) (hS : (strB S).size ≤ 1100) (hC : (strB cid).size ≤ 1100) :
    Calls Try.prog 64 #[.agg #[.int .i64 17, .int .i64 st, .int .i64 off, .string (strB S), .bool fin, .int .i64 mx, .int .i64 cd, .bool uni, .int .i64 dl, .slice ra rg.length rc, .int .i64 sq, .int .i64 rt, .string (strB cid)]] w (StrQ 4000 w) := by
  have zS : (strB S).size ≤ 1100 := hS
  have zcid : (strB cid).size ≤ 1100 := hC
  go_enter Try.func64, Try.ntmps64
  go_upto_region 1 with fail
  have hx := At.new w 33 #[.int .i64 17, .int .i64 st, .int .i64 off, .string (strB S), .bool fin, .int .i64 mx, .int .i64 cd, .bool uni, .int .i64 dl, .slice ra rg.length rc, .int .i64 sq, .int .i64 rt, .string (strB cid)]
  have hO := (Only.refl [] w).alloc (.cells #[.int .i64 17, .int .i64 st, .int .i64 off, .string (strB S), .bool fin, .int .i64 mx, .int .i64 cd, .bool uni, .int .i64 dl, .slice ra rg.length rc, .int .i64 sq, .int .i64 rt, .string (strB cid)] 33)
  generalize w.alloc (.cells #[.int .i64 17, .int .i64 st, .int .i64 off, .string (strB S), .bool fin, .int .i64 mx, .int .i64 cd, .bool uni, .int .i64 dl, .slice ra rg.length rc, .int .i64 sq, .int .i64 rt, .string (strB cid)] 33) = w1 at hx hO ⊢
  generalize w.heap.size = pb at hx ⊢
  have HB := Lib.hid hx
  have HO := Lib.hid hO
  clear hx hO
  have y0 : w1.cell? ⟨pb, 0, none⟩ = some (.int .i64 17) := HB.out.cell 0 rfl
  go_upto_region 28 with fail
  clear y0
  have HKP : Hid (∀ ww, Only [] w1.drew ww → ww.cell? ⟨pb, 1, none⟩ = some (.int .i64 st) ∧ ww.cell? ⟨pb, 5, none⟩ = some (.int .i64 mx)) := Lib.hid (fun ww o => ⟨((HB.out.drew).keep o (by simp)).cell 1 rfl, ((HB.out.drew).keep o (by simp)).cell 5 rfl⟩)
  have HW0 : Hid (Only [] w1.drew w1.drew) := Lib.hid (Only.refl _ _)
  refine wp_region_held_drew (S := fun w' => w'.cell? ⟨pb, 1, none⟩ = some (.int .i64 st) ∧ w'.cell? ⟨pb, 5, none⟩ = some (.int .i64 mx)) (by kernel_rfl) (by exact HKP.out _ (Only.refl _ _)) (fun hHeld => ?_)
  refine tkH (i := 0) rfl (fun wS hSw => by (try dsimp only at hSw); go_simp; try with_reducible rfl) ?_
  simp only [tk1, tk2, tk3, Act.put, tk4, tk5, tk6]
  refine tkH (i := 1) rfl (fun wS hSw => by (try dsimp only at hSw); go_simp; try with_reducible rfl) ?_
  simp only [tk1, tk2, tk3, Act.put, tk4, tk5, tk6]
  refine tkH (i := 3) rfl (fun wS hSw => by (try dsimp only at hSw); go_simp; try with_reducible rfl) ?_
  simp only [tk1, tk2, tk3, Act.put, tk4, tk5, tk6]
  refine tkH (i := 4) rfl (fun wS hSw => by (try dsimp only at hSw); go_simp; try with_reducible rfl) ?_
  simp only [tk1, tk2, tk3, Act.put, tk4, tk5, tk6]
  refine wpAnyH_ready (rs := [2]) (by kernel_rfl) (by simp) ?_
  refine AllReadyH.cons rfl (fun K hK => ?_) AllReadyH.nil
  go_simp
  refine (rv_w st _).mono ?_
  rintro e w2 ⟨S0, rfl, hz0, ho⟩
  replace HW0 := Lib.hid (HW0.out.trans ho)
  clear ho
  refine hK.out _ _ (HKP.out _ HW0.out) (fun hHeld' => ?_)
  clear hHeld hK K
  have hHeld := hHeld'
  clear hHeld'
  try simp only [tk1, tk2, tk3, Act.put, tk4, tk5, tk6]
  refine wpAnyH_ready (rs := [5]) (by kernel_rfl) (by simp) ?_
  refine AllReadyH.cons rfl (fun K hK => ?_) AllReadyH.nil
  go_simp
  refine (rv_w mx _).mono ?_
  rintro e w3 ⟨S1, rfl, hz1, ho⟩
  replace HW0 := Lib.hid (HW0.out.trans ho)
  clear ho
  refine hK.out _ _ (HKP.out _ HW0.out) (fun hHeld' => ?_)
  clear hHeld hK K
  have hHeld := hHeld'
  clear hHeld'
  try simp only [tk1, tk2, tk3, Act.put, tk4, tk5, tk6]
  have g1 : ¬ 9223372036854775807 < S0.size + S1.size := by omega
  have hA1 : (S0 ++ S1).size ≤ 2220 := by rw [ByteArray.size_append]; omega
  refine tkH (i := 6) rfl (fun wS hSw => by (try dsimp only at hSw); go_simp; try with_reducible rfl) ?_
  simp only [tk1, tk2, tk3, Act.put, tk4, tk5, tk6]
  generalize S0 ++ S1 = T1 at hA1 ⊢
  refine tkH (i := 7) rfl (fun wS hSw => by (try dsimp only at hSw); go_simp; try with_reducible rfl) ?_
  simp only [tk1, tk2, tk3, Act.put, tk4, tk5, tk6]
  refine wpAnyH_done (by kernel_rfl) ?_ _
  have HT : Hid (T1.size ≤ 4000) := Lib.hid (by omega)
  have HO2 : Hid (Only [] w _) := Lib.hid (HO.out.drew.trans HW0.out)
  clear HKP hHeld
  go_wp2_with fail
  go_ret
  exact StrQ.mk HT.out HO2.out
set_option maxRecDepth 100000 in
set_option maxHeartbeats 4000000 in
theorem parts_21 (st off mx cd dl sq rt : Int) (fin uni : Bool) (S cid : List UInt8) (rg : List (Int × Int)) (ra : Option Addr) (rc : Nat) (w : World) (hS : (strB S).size ≤ 1100) (hC : (strB cid).size ≤ 1100) :
    Calls Try.prog 64 #[.agg #[.int .i64 21, .int .i64 st, .int .i64 off, .string (strB S), .bool fin, .int .i64 mx, .int .i64 cd, .bool uni, .int .i64 dl, .slice ra rg.length rc, .int .i64 sq, .int .i64 rt, .string (strB cid)]] w (StrQ 4000 w) := by
  have zS : (strB S).size ≤ 1100 := hS
  have zcid : (strB cid).size ≤ 1100 := hC
  go_enter Try.func64, Try.ntmps64
  go_upto_region 1 with fail
  have hx := At.new w 33 #[.int .i64 21, .int .i64 st, .int .i64 off, .string (strB S), .bool fin, .int .i64 mx, .int .i64 cd, .bool uni, .int .i64 dl, .slice ra rg.length rc, .int .i64 sq, .int .i64 rt, .string (strB cid)]
  have hO := (Only.refl [] w).alloc (.cells #[.int .i64 21, .int .i64 st, .int .i64 off, .string (strB S), .bool fin, .int .i64 mx, .int .i64 cd, .bool uni, .int .i64 dl, .slice ra rg.length rc, .int .i64 sq, .int .i64 rt, .string (strB cid)] 33)
  generalize w.alloc (.cells #[.int .i64 21, .int .i64 st, .int .i64 off, .string (strB S), .bool fin, .int .i64 mx, .int .i64 cd, .bool uni, .int .i64 dl, .slice ra rg.length rc, .int .i64 sq, .int .i64 rt, .string (strB cid)] 33) = w1 at hx hO ⊢
  generalize w.heap.size = pb at hx ⊢
  have HB := Lib.hid hx
  have HO := Lib.hid hO
  clear hx hO
  have y0 : w1.cell? ⟨pb, 0, none⟩ = some (.int .i64 21) := HB.out.cell 0 rfl
  go_upto_region 28 with fail
  clear y0
  have HKP : Hid (∀ ww, Only [] w1.drew ww → ww.cell? ⟨pb, 1, none⟩ = some (.int .i64 st) ∧ ww.cell? ⟨pb, 5, none⟩ = some (.int .i64 mx)) := Lib.hid (fun ww o => ⟨((HB.out.drew).keep o (by simp)).cell 1 rfl, ((HB.out.drew).keep o (by simp)).cell 5 rfl⟩)
  have HW0 : Hid (Only [] w1.drew w1.drew) := Lib.hid (Only.refl _ _)
  refine wp_region_held_drew (S := fun w' => w'.cell? ⟨pb, 1, none⟩ = some (.int .i64 st) ∧ w'.cell? ⟨pb, 5, none⟩ = some (.int .i64 mx)) (by kernel_rfl) (by exact HKP.out _ (Only.refl _ _)) (fun hHeld => ?_)
  refine tkH (i := 0) rfl (fun wS hSw => by (try dsimp only at hSw); go_simp; try with_reducible rfl) ?_
  simp only [tk1, tk2, tk3, Act.put, tk4, tk5, tk6]
  refine tkH (i := 1) rfl (fun wS hSw => by (try dsimp only at hSw); go_simp; try with_reducible rfl) ?_
  simp only [tk1, tk2, tk3, Act.put, tk4, tk5, tk6]
  refine tkH (i := 3) rfl (fun wS hSw => by (try dsimp only at hSw); go_simp; try with_reducible rfl) ?_
  simp only [tk1, tk2, tk3, Act.put, tk4, tk5, tk6]
  refine tkH (i := 4) rfl (fun wS hSw => by (try dsimp only at hSw); go_simp; try with_reducible rfl) ?_
  simp only [tk1, tk2, tk3, Act.put, tk4, tk5, tk6]
  refine wpAnyH_ready (rs := [2]) (by kernel_rfl) (by simp) ?_
  refine AllReadyH.cons rfl (fun K hK => ?_) AllReadyH.nil
  go_simp
  refine (rv_w st _).mono ?_
  rintro e w2 ⟨S0, rfl, hz0, ho⟩
  replace HW0 := Lib.hid (HW0.out.trans ho)
  clear ho
  refine hK.out _ _ (HKP.out _ HW0.out) (fun hHeld' => ?_)
  clear hHeld hK K
  have hHeld := hHeld'
  clear hHeld'
  try simp only [tk1, tk2, tk3, Act.put, tk4, tk5, tk6]
  refine wpAnyH_ready (rs := [5]) (by kernel_rfl) (by simp) ?_
  refine AllReadyH.cons rfl (fun K hK => ?_) AllReadyH.nil
  go_simp
  refine (rv_w mx _).mono ?_
  rintro e w3 ⟨S1, rfl, hz1, ho⟩
  replace HW0 := Lib.hid (HW0.out.trans ho)
  clear ho
  refine hK.out _ _ (HKP.out _ HW0.out) (fun hHeld' => ?_)
  clear hHeld hK K
  have hHeld := hHeld'
  clear hHeld'
  try simp only [tk1, tk2, tk3, Act.put, tk4, tk5, tk6]
  have g1 : ¬ 9223372036854775807 < S0.size + S1.size := by omega
  have hA1 : (S0 ++ S1).size ≤ 2220 := by rw [ByteArray.size_append]; omega
  refine tkH (i := 6) rfl (fun wS hSw => by (try dsimp only at hSw); go_simp; try with_reducible rfl) ?_
  simp only [tk1, tk2, tk3, Act.put, tk4, tk5, tk6]
  generalize S0 ++ S1 = T1 at hA1 ⊢
  refine tkH (i := 7) rfl (fun wS hSw => by (try dsimp only at hSw); go_simp; try with_reducible rfl) ?_
  simp only [tk1, tk2, tk3, Act.put, tk4, tk5, tk6]
  refine wpAnyH_done (by kernel_rfl) ?_ _
  have HT : Hid (T1.size ≤ 4000) := Lib.hid (by omega)
  have HO2 : Hid (Only [] w _) := Lib.hid (HO.out.drew.trans HW0.out)
  clear HKP hHeld
  go_wp2_with fail
  go_ret
  exact StrQ.mk HT.out HO2.out
set_option maxRecDepth 100000 in
set_option maxHeartbeats 4000000 in
theorem parts_18 (st off mx cd dl sq rt : Int) (fin uni : Bool) (S cid : List UInt8) (rg : List (Int × Int)) (ra : Option Addr) (rc : Nat) (w : World) (hS : (strB S).size ≤ 1100) (hC : (strB cid).size ≤ 1100) :
    Calls Try.prog 64 #[.agg #[.int .i64 18, .int .i64 st, .int .i64 off, .string (strB S), .bool fin, .int .i64 mx, .int .i64 cd, .bool uni, .int .i64 dl, .slice ra rg.length rc, .int .i64 sq, .int .i64 rt, .string (strB cid)]] w (StrQ 4000 w) := by
  have zS : (strB S).size ≤ 1100 := hS
  have zcid : (strB cid).size ≤ 1100 := hC
  go_enter Try.func64, Try.ntmps64
  go_upto_region 1 with fail
  have hx := At.new w 33 #[.int .i64 18, .int .i64 st, .int .i64 off, .string (strB S), .bool fin, .int .i64 mx, .int .i64 cd, .bool uni, .int .i64 dl, .slice ra rg.length rc, .int .i64 sq, .int .i64 rt, .string (strB cid)]
  have hO := (Only.refl [] w).alloc (.cells #[.int .i64 18, .int .i64 st, .int .i64 off, .string (strB S), .bool fin, .int .i64 mx, .int .i64 cd, .bool uni, .int .i64 dl, .slice ra rg.length rc, .int .i64 sq, .int .i64 rt, .string (strB cid)] 33)
  generalize w.alloc (.cells #[.int .i64 18, .int .i64 st, .int .i64 off, .string (strB S), .bool fin, .int .i64 mx, .int .i64 cd, .bool uni, .int .i64 dl, .slice ra rg.length rc, .int .i64 sq, .int .i64 rt, .string (strB cid)] 33) = w1 at hx hO ⊢
  generalize w.heap.size = pb at hx ⊢
  have HB := Lib.hid hx
  have HO := Lib.hid hO
  clear hx hO
  have y0 : w1.cell? ⟨pb, 0, none⟩ = some (.int .i64 18) := HB.out.cell 0 rfl
  go_upto_region 31 with fail
  clear y0
  have HKP : Hid (∀ ww, Only [] w1.drew ww → ww.cell? ⟨pb, 5, none⟩ = some (.int .i64 mx) ∧ ww.cell? ⟨pb, 7, none⟩ = some (.bool uni)) := Lib.hid (fun ww o => ⟨((HB.out.drew).keep o (by simp)).cell 5 rfl, ((HB.out.drew).keep o (by simp)).cell 7 rfl⟩)
  have HW0 : Hid (Only [] w1.drew w1.drew) := Lib.hid (Only.refl _ _)
  refine wp_region_held_drew (S := fun w' => w'.cell? ⟨pb, 5, none⟩ = some (.int .i64 mx) ∧ w'.cell? ⟨pb, 7, none⟩ = some (.bool uni)) (by kernel_rfl) (by exact HKP.out _ (Only.refl _ _)) (fun hHeld => ?_)
  refine tkH (i := 0) rfl (fun wS hSw => by (try dsimp only at hSw); go_simp; try with_reducible rfl) ?_
  simp only [tk1, tk2, tk3, Act.put, tk4, tk5, tk6]
  refine tkH (i := 1) rfl (fun wS hSw => by (try dsimp only at hSw); go_simp; try with_reducible rfl) ?_
  simp only [tk1, tk2, tk3, Act.put, tk4, tk5, tk6]
  refine tkH (i := 3) rfl (fun wS hSw => by (try dsimp only at hSw); go_simp; try with_reducible rfl) ?_
  simp only [tk1, tk2, tk3, Act.put, tk4, tk5, tk6]
  refine tkH (i := 4) rfl (fun wS hSw => by (try dsimp only at hSw); go_simp; try with_reducible rfl) ?_
  simp only [tk1, tk2, tk3, Act.put, tk4, tk5, tk6]
  refine wpAnyH_ready (rs := [2]) (by kernel_rfl) (by simp) ?_
  refine AllReadyH.cons rfl (fun K hK => ?_) AllReadyH.nil
  go_simp
  refine (rflag_w uni _).mono ?_
  rintro e w2 ⟨S0, rfl, hz0, ho⟩
  replace HW0 := Lib.hid (HW0.out.trans ho)
  clear ho
  refine hK.out _ _ (HKP.out _ HW0.out) (fun hHeld' => ?_)
  clear hHeld hK K
  have hHeld := hHeld'
  clear hHeld'
  try simp only [tk1, tk2, tk3, Act.put, tk4, tk5, tk6]
  refine wpAnyH_ready (rs := [5]) (by kernel_rfl) (by simp) ?_
  refine AllReadyH.cons rfl (fun K hK => ?_) AllReadyH.nil
  go_simp
  refine (rv_w mx _).mono ?_
  rintro e w3 ⟨S1, rfl, hz1, ho⟩
  replace HW0 := Lib.hid (HW0.out.trans ho)
  clear ho
  refine hK.out _ _ (HKP.out _ HW0.out) (fun hHeld' => ?_)
  clear hHeld hK K
  have hHeld := hHeld'
  clear hHeld'
  try simp only [tk1, tk2, tk3, Act.put, tk4, tk5, tk6]
  have g1 : ¬ 9223372036854775807 < S0.size + S1.size := by omega
  have hA1 : (S0 ++ S1).size ≤ 2220 := by rw [ByteArray.size_append]; omega
  refine tkH (i := 6) rfl (fun wS hSw => by (try dsimp only at hSw); go_simp; try with_reducible rfl) ?_
  simp only [tk1, tk2, tk3, Act.put, tk4, tk5, tk6]
  generalize S0 ++ S1 = T1 at hA1 ⊢
  refine tkH (i := 7) rfl (fun wS hSw => by (try dsimp only at hSw); go_simp; try with_reducible rfl) ?_
  simp only [tk1, tk2, tk3, Act.put, tk4, tk5, tk6]
  refine wpAnyH_done (by kernel_rfl) ?_ _
  have HT : Hid (T1.size ≤ 4000) := Lib.hid (by omega)
  have HO2 : Hid (Only [] w _) := Lib.hid (HO.out.drew.trans HW0.out)
  clear HKP hHeld
  go_wp2_with fail
  go_ret
  exact StrQ.mk HT.out HO2.out
set_option maxRecDepth 100000 in
set_option maxHeartbeats 4000000 in
theorem parts_22 (st off mx cd dl sq rt : Int) (fin uni : Bool) (S cid : List UInt8) (rg : List (Int × Int)) (ra : Option Addr) (rc : Nat) (w : World) (hS : (strB S).size ≤ 1100) (hC : (strB cid).size ≤ 1100) :
    Calls Try.prog 64 #[.agg #[.int .i64 22, .int .i64 st, .int .i64 off, .string (strB S), .bool fin, .int .i64 mx, .int .i64 cd, .bool uni, .int .i64 dl, .slice ra rg.length rc, .int .i64 sq, .int .i64 rt, .string (strB cid)]] w (StrQ 4000 w) := by
  have zS : (strB S).size ≤ 1100 := hS
  have zcid : (strB cid).size ≤ 1100 := hC
  go_enter Try.func64, Try.ntmps64
  go_upto_region 1 with fail
  have hx := At.new w 33 #[.int .i64 22, .int .i64 st, .int .i64 off, .string (strB S), .bool fin, .int .i64 mx, .int .i64 cd, .bool uni, .int .i64 dl, .slice ra rg.length rc, .int .i64 sq, .int .i64 rt, .string (strB cid)]
  have hO := (Only.refl [] w).alloc (.cells #[.int .i64 22, .int .i64 st, .int .i64 off, .string (strB S), .bool fin, .int .i64 mx, .int .i64 cd, .bool uni, .int .i64 dl, .slice ra rg.length rc, .int .i64 sq, .int .i64 rt, .string (strB cid)] 33)
  generalize w.alloc (.cells #[.int .i64 22, .int .i64 st, .int .i64 off, .string (strB S), .bool fin, .int .i64 mx, .int .i64 cd, .bool uni, .int .i64 dl, .slice ra rg.length rc, .int .i64 sq, .int .i64 rt, .string (strB cid)] 33) = w1 at hx hO ⊢
  generalize w.heap.size = pb at hx ⊢
  have HB := Lib.hid hx
  have HO := Lib.hid hO
  clear hx hO
  have y0 : w1.cell? ⟨pb, 0, none⟩ = some (.int .i64 22) := HB.out.cell 0 rfl
  go_upto_region 31 with fail
  clear y0
  have HKP : Hid (∀ ww, Only [] w1.drew ww → ww.cell? ⟨pb, 5, none⟩ = some (.int .i64 mx) ∧ ww.cell? ⟨pb, 7, none⟩ = some (.bool uni)) := Lib.hid (fun ww o => ⟨((HB.out.drew).keep o (by simp)).cell 5 rfl, ((HB.out.drew).keep o (by simp)).cell 7 rfl⟩)
  have HW0 : Hid (Only [] w1.drew w1.drew) := Lib.hid (Only.refl _ _)
  refine wp_region_held_drew (S := fun w' => w'.cell? ⟨pb, 5, none⟩ = some (.int .i64 mx) ∧ w'.cell? ⟨pb, 7, none⟩ = some (.bool uni)) (by kernel_rfl) (by exact HKP.out _ (Only.refl _ _)) (fun hHeld => ?_)
  refine tkH (i := 0) rfl (fun wS hSw => by (try dsimp only at hSw); go_simp; try with_reducible rfl) ?_
  simp only [tk1, tk2, tk3, Act.put, tk4, tk5, tk6]
  refine tkH (i := 1) rfl (fun wS hSw => by (try dsimp only at hSw); go_simp; try with_reducible rfl) ?_
  simp only [tk1, tk2, tk3, Act.put, tk4, tk5, tk6]
  refine tkH (i := 3) rfl (fun wS hSw => by (try dsimp only at hSw); go_simp; try with_reducible rfl) ?_
  simp only [tk1, tk2, tk3, Act.put, tk4, tk5, tk6]
  refine tkH (i := 4) rfl (fun wS hSw => by (try dsimp only at hSw); go_simp; try with_reducible rfl) ?_
  simp only [tk1, tk2, tk3, Act.put, tk4, tk5, tk6]
  refine wpAnyH_ready (rs := [2]) (by kernel_rfl) (by simp) ?_
  refine AllReadyH.cons rfl (fun K hK => ?_) AllReadyH.nil
  go_simp
  refine (rflag_w uni _).mono ?_
  rintro e w2 ⟨S0, rfl, hz0, ho⟩
  replace HW0 := Lib.hid (HW0.out.trans ho)
  clear ho
  refine hK.out _ _ (HKP.out _ HW0.out) (fun hHeld' => ?_)
  clear hHeld hK K
  have hHeld := hHeld'
  clear hHeld'
  try simp only [tk1, tk2, tk3, Act.put, tk4, tk5, tk6]
  refine wpAnyH_ready (rs := [5]) (by kernel_rfl) (by simp) ?_
  refine AllReadyH.cons rfl (fun K hK => ?_) AllReadyH.nil
  go_simp
  refine (rv_w mx _).mono ?_
  rintro e w3 ⟨S1, rfl, hz1, ho⟩
  replace HW0 := Lib.hid (HW0.out.trans ho)
  clear ho
  refine hK.out _ _ (HKP.out _ HW0.out) (fun hHeld' => ?_)
  clear hHeld hK K
  have hHeld := hHeld'
  clear hHeld'
  try simp only [tk1, tk2, tk3, Act.put, tk4, tk5, tk6]
  have g1 : ¬ 9223372036854775807 < S0.size + S1.size := by omega
  have hA1 : (S0 ++ S1).size ≤ 2220 := by rw [ByteArray.size_append]; omega
  refine tkH (i := 6) rfl (fun wS hSw => by (try dsimp only at hSw); go_simp; try with_reducible rfl) ?_
  simp only [tk1, tk2, tk3, Act.put, tk4, tk5, tk6]
  generalize S0 ++ S1 = T1 at hA1 ⊢
  refine tkH (i := 7) rfl (fun wS hSw => by (try dsimp only at hSw); go_simp; try with_reducible rfl) ?_
  simp only [tk1, tk2, tk3, Act.put, tk4, tk5, tk6]
  refine wpAnyH_done (by kernel_rfl) ?_ _
  have HT : Hid (T1.size ≤ 4000) := Lib.hid (by omega)
  have HO2 : Hid (Only [] w _) := Lib.hid (HO.out.drew.trans HW0.out)
  clear HKP hHeld
  go_wp2_with fail
  go_ret
  exact StrQ.mk HT.out HO2.out
set_option maxRecDepth 100000 in
set_option maxHeartbeats 4000000 in
theorem parts_24 (st off mx cd dl sq rt : Int) (fin uni : Bool) (S cid : List UInt8) (rg : List (Int × Int)) (ra : Option Addr) (rc : Nat) (w : World) (hS : (strB S).size ≤ 1100) (hC : (strB cid).size ≤ 1100) :
    Calls Try.prog 64 #[.agg #[.int .i64 24, .int .i64 st, .int .i64 off, .string (strB S), .bool fin, .int .i64 mx, .int .i64 cd, .bool uni, .int .i64 dl, .slice ra rg.length rc, .int .i64 sq, .int .i64 rt, .string (strB cid)]] w (StrQ 4000 w) := by
  have zS : (strB S).size ≤ 1100 := hS
  have zcid : (strB cid).size ≤ 1100 := hC
  go_enter Try.func64, Try.ntmps64
  go_upto_region 1 with fail
  have hx := At.new w 33 #[.int .i64 24, .int .i64 st, .int .i64 off, .string (strB S), .bool fin, .int .i64 mx, .int .i64 cd, .bool uni, .int .i64 dl, .slice ra rg.length rc, .int .i64 sq, .int .i64 rt, .string (strB cid)]
  have hO := (Only.refl [] w).alloc (.cells #[.int .i64 24, .int .i64 st, .int .i64 off, .string (strB S), .bool fin, .int .i64 mx, .int .i64 cd, .bool uni, .int .i64 dl, .slice ra rg.length rc, .int .i64 sq, .int .i64 rt, .string (strB cid)] 33)
  generalize w.alloc (.cells #[.int .i64 24, .int .i64 st, .int .i64 off, .string (strB S), .bool fin, .int .i64 mx, .int .i64 cd, .bool uni, .int .i64 dl, .slice ra rg.length rc, .int .i64 sq, .int .i64 rt, .string (strB cid)] 33) = w1 at hx hO ⊢
  generalize w.heap.size = pb at hx ⊢
  have HB := Lib.hid hx
  have HO := Lib.hid hO
  clear hx hO
  have y0 : w1.cell? ⟨pb, 0, none⟩ = some (.int .i64 24) := HB.out.cell 0 rfl
  go_upto_region 33 with fail
  clear y0
  have HKP : Hid (∀ ww, Only [] w1.drew ww → ww.cell? ⟨pb, 10, none⟩ = some (.int .i64 sq) ∧ ww.cell? ⟨pb, 11, none⟩ = some (.int .i64 rt) ∧ ww.cell? ⟨pb, 12, none⟩ = some (.string (strB cid))) := Lib.hid (fun ww o => ⟨((HB.out.drew).keep o (by simp)).cell 10 rfl, ((HB.out.drew).keep o (by simp)).cell 11 rfl, ((HB.out.drew).keep o (by simp)).cell 12 rfl⟩)
  have HW0 : Hid (Only [] w1.drew w1.drew) := Lib.hid (Only.refl _ _)
  refine wp_region_held_drew (S := fun w' => w'.cell? ⟨pb, 10, none⟩ = some (.int .i64 sq) ∧ w'.cell? ⟨pb, 11, none⟩ = some (.int .i64 rt) ∧ w'.cell? ⟨pb, 12, none⟩ = some (.string (strB cid))) (by kernel_rfl) (by exact HKP.out _ (Only.refl _ _)) (fun hHeld => ?_)
  refine tkH (i := 0) rfl (fun wS hSw => by (try dsimp only at hSw); go_simp; try with_reducible rfl) ?_
  simp only [tk1, tk2, tk3, Act.put, tk4, tk5, tk6]
  refine tkH (i := 1) rfl (fun wS hSw => by (try dsimp only at hSw); go_simp; try with_reducible rfl) ?_
  simp only [tk1, tk2, tk3, Act.put, tk4, tk5, tk6]
  refine tkH (i := 3) rfl (fun wS hSw => by (try dsimp only at hSw); go_simp; try with_reducible rfl) ?_
  simp only [tk1, tk2, tk3, Act.put, tk4, tk5, tk6]
  refine tkH (i := 4) rfl (fun wS hSw => by (try dsimp only at hSw); go_simp; try with_reducible rfl) ?_
  simp only [tk1, tk2, tk3, Act.put, tk4, tk5, tk6]
  refine tkH (i := 7) rfl (fun wS hSw => by (try dsimp only at hSw); go_simp; try with_reducible rfl) ?_
  simp only [tk1, tk2, tk3, Act.put, tk4, tk5, tk6]
  refine tkH (i := 8) rfl (fun wS hSw => by (try dsimp only at hSw); go_simp; try with_reducible rfl) ?_
  simp only [tk1, tk2, tk3, Act.put, tk4, tk5, tk6]
  refine wpAnyH_ready (rs := [2]) (by kernel_rfl) (by simp) ?_
  refine AllReadyH.cons rfl (fun K hK => ?_) AllReadyH.nil
  go_simp
  refine (rv_w sq _).mono ?_
  rintro e w2 ⟨S0, rfl, hz0, ho⟩
  replace HW0 := Lib.hid (HW0.out.trans ho)
  clear ho
  refine hK.out _ _ (HKP.out _ HW0.out) (fun hHeld' => ?_)
  clear hHeld hK K
  have hHeld := hHeld'
  clear hHeld'
  try simp only [tk1, tk2, tk3, Act.put, tk4, tk5, tk6]
  refine wpAnyH_ready (rs := [5]) (by kernel_rfl) (by simp) ?_
  refine AllReadyH.cons rfl (fun K hK => ?_) AllReadyH.nil
  go_simp
  refine (rv_w rt _).mono ?_
  rintro e w3 ⟨S1, rfl, hz1, ho⟩
  replace HW0 := Lib.hid (HW0.out.trans ho)
  clear ho
  refine hK.out _ _ (HKP.out _ HW0.out) (fun hHeld' => ?_)
  clear hHeld hK K
  have hHeld := hHeld'
  clear hHeld'
  try simp only [tk1, tk2, tk3, Act.put, tk4, tk5, tk6]
  have g1 : ¬ 9223372036854775807 < S0.size + S1.size := by omega
  have hA1 : (S0 ++ S1).size ≤ 2220 := by rw [ByteArray.size_append]; omega
  refine tkH (i := 6) rfl (fun wS hSw => by (try dsimp only at hSw); go_simp; try with_reducible rfl) ?_
  simp only [tk1, tk2, tk3, Act.put, tk4, tk5, tk6]
  generalize S0 ++ S1 = T1 at hA1 ⊢
  have g2 : ¬ 9223372036854775807 < T1.size + (strB cid).size := by omega
  have hA2 : (T1 ++ (strB cid)).size ≤ 3330 := by rw [ByteArray.size_append]; omega
  refine tkH (i := 9) rfl (fun wS hSw => by (try dsimp only at hSw); go_simp; try with_reducible rfl) ?_
  simp only [tk1, tk2, tk3, Act.put, tk4, tk5, tk6]
  generalize T1 ++ (strB cid) = T2 at hA2 ⊢
  refine tkH (i := 10) rfl (fun wS hSw => by (try dsimp only at hSw); go_simp; try with_reducible rfl) ?_
  simp only [tk1, tk2, tk3, Act.put, tk4, tk5, tk6]
  refine wpAnyH_done (by kernel_rfl) ?_ _
  have HT : Hid (T2.size ≤ 4000) := Lib.hid (by omega)
  have HO2 : Hid (Only [] w _) := Lib.hid (HO.out.drew.trans HW0.out)
  clear HKP hHeld
  go_wp2_with fail
  go_ret
  exact StrQ.mk HT.out HO2.out
set_option maxRecDepth 100000 in
set_option maxHeartbeats 4000000 in
theorem parts_25 (st off mx cd dl sq rt : Int) (fin uni : Bool) (S cid : List UInt8) (rg : List (Int × Int)) (ra : Option Addr) (rc : Nat) (w : World) (hS : (strB S).size ≤ 1100) (hC : (strB cid).size ≤ 1100) :
    Calls Try.prog 64 #[.agg #[.int .i64 25, .int .i64 st, .int .i64 off, .string (strB S), .bool fin, .int .i64 mx, .int .i64 cd, .bool uni, .int .i64 dl, .slice ra rg.length rc, .int .i64 sq, .int .i64 rt, .string (strB cid)]] w (StrQ 4000 w) := by
  have zS : (strB S).size ≤ 1100 := hS
  have zcid : (strB cid).size ≤ 1100 := hC
  go_enter Try.func64, Try.ntmps64
  go_upto_region 1 with fail
  have hx := At.new w 33 #[.int .i64 25, .int .i64 st, .int .i64 off, .string (strB S), .bool fin, .int .i64 mx, .int .i64 cd, .bool uni, .int .i64 dl, .slice ra rg.length rc, .int .i64 sq, .int .i64 rt, .string (strB cid)]
  have hO := (Only.refl [] w).alloc (.cells #[.int .i64 25, .int .i64 st, .int .i64 off, .string (strB S), .bool fin, .int .i64 mx, .int .i64 cd, .bool uni, .int .i64 dl, .slice ra rg.length rc, .int .i64 sq, .int .i64 rt, .string (strB cid)] 33)
  generalize w.alloc (.cells #[.int .i64 25, .int .i64 st, .int .i64 off, .string (strB S), .bool fin, .int .i64 mx, .int .i64 cd, .bool uni, .int .i64 dl, .slice ra rg.length rc, .int .i64 sq, .int .i64 rt, .string (strB cid)] 33) = w1 at hx hO ⊢
  generalize w.heap.size = pb at hx ⊢
  have HB := Lib.hid hx
  have HO := Lib.hid hO
  clear hx hO
  have y0 : w1.cell? ⟨pb, 0, none⟩ = some (.int .i64 25) := HB.out.cell 0 rfl
  have y10 : w1.cell? ⟨pb, 10, none⟩ = some (.int .i64 sq) := HB.out.cell 10 rfl
  have HS : Hid ((strB S).size ≤ 4000) := Lib.hid (by omega)
  clear zcid
  go_wp2_with fail
  refine (rv_w sq _).mono ?_
  rintro e w2 ⟨T, rfl, hz, ho⟩
  have HT : Hid (T.size ≤ 4000) := Lib.hid (by omega)
  have HO2 := Lib.hid (HO.out.trans ho)
  clear hz ho
  go_wp2_with fail
  go_ret
  exact StrQ.mk HT.out HO2.out
set_option maxRecDepth 100000 in
set_option maxHeartbeats 4000000 in
theorem parts_26 (st off mx cd dl sq rt : Int) (fin uni : Bool) (S cid : List UInt8) (rg : List (Int × Int)) (ra : Option Addr) (rc : Nat) (w : World) (hS : (strB S).size ≤ 1100) (hC : (strB cid).size ≤ 1100) :
    Calls Try.prog 64 #[.agg #[.int .i64 26, .int .i64 st, .int .i64 off, .string (strB S), .bool fin, .int .i64 mx, .int .i64 cd, .bool uni, .int .i64 dl, .slice ra rg.length rc, .int .i64 sq, .int .i64 rt, .string (strB cid)]] w (StrQ 4000 w) := by
  have zS : (strB S).size ≤ 1100 := hS
  have zcid : (strB cid).size ≤ 1100 := hC
  go_enter Try.func64, Try.ntmps64
  go_upto_region 1 with fail
  have hx := At.new w 33 #[.int .i64 26, .int .i64 st, .int .i64 off, .string (strB S), .bool fin, .int .i64 mx, .int .i64 cd, .bool uni, .int .i64 dl, .slice ra rg.length rc, .int .i64 sq, .int .i64 rt, .string (strB cid)]
  have hO := (Only.refl [] w).alloc (.cells #[.int .i64 26, .int .i64 st, .int .i64 off, .string (strB S), .bool fin, .int .i64 mx, .int .i64 cd, .bool uni, .int .i64 dl, .slice ra rg.length rc, .int .i64 sq, .int .i64 rt, .string (strB cid)] 33)
  generalize w.alloc (.cells #[.int .i64 26, .int .i64 st, .int .i64 off, .string (strB S), .bool fin, .int .i64 mx, .int .i64 cd, .bool uni, .int .i64 dl, .slice ra rg.length rc, .int .i64 sq, .int .i64 rt, .string (strB cid)] 33) = w1 at hx hO ⊢
  generalize w.heap.size = pb at hx ⊢
  have HB := Lib.hid hx
  have HO := Lib.hid hO
  clear hx hO
  have y0 : w1.cell? ⟨pb, 0, none⟩ = some (.int .i64 26) := HB.out.cell 0 rfl
  have y3 : w1.cell? ⟨pb, 3, none⟩ = some (.string (strB S)) := HB.out.cell 3 rfl
  have HS : Hid ((strB S).size ≤ 4000) := Lib.hid (by omega)
  clear zcid
  go_wp2_with fail
  go_ret
  exact StrQ.mk HS.out HO.out
set_option maxRecDepth 100000 in
set_option maxHeartbeats 4000000 in
theorem parts_27 (st off mx cd dl sq rt : Int) (fin uni : Bool) (S cid : List UInt8) (rg : List (Int × Int)) (ra : Option Addr) (rc : Nat) (w : World) (hS : (strB S).size ≤ 1100) (hC : (strB cid).size ≤ 1100) :
    Calls Try.prog 64 #[.agg #[.int .i64 27, .int .i64 st, .int .i64 off, .string (strB S), .bool fin, .int .i64 mx, .int .i64 cd, .bool uni, .int .i64 dl, .slice ra rg.length rc, .int .i64 sq, .int .i64 rt, .string (strB cid)]] w (StrQ 4000 w) := by
  have zS : (strB S).size ≤ 1100 := hS
  have zcid : (strB cid).size ≤ 1100 := hC
  go_enter Try.func64, Try.ntmps64
  go_upto_region 1 with fail
  have hx := At.new w 33 #[.int .i64 27, .int .i64 st, .int .i64 off, .string (strB S), .bool fin, .int .i64 mx, .int .i64 cd, .bool uni, .int .i64 dl, .slice ra rg.length rc, .int .i64 sq, .int .i64 rt, .string (strB cid)]
  have hO := (Only.refl [] w).alloc (.cells #[.int .i64 27, .int .i64 st, .int .i64 off, .string (strB S), .bool fin, .int .i64 mx, .int .i64 cd, .bool uni, .int .i64 dl, .slice ra rg.length rc, .int .i64 sq, .int .i64 rt, .string (strB cid)] 33)
  generalize w.alloc (.cells #[.int .i64 27, .int .i64 st, .int .i64 off, .string (strB S), .bool fin, .int .i64 mx, .int .i64 cd, .bool uni, .int .i64 dl, .slice ra rg.length rc, .int .i64 sq, .int .i64 rt, .string (strB cid)] 33) = w1 at hx hO ⊢
  generalize w.heap.size = pb at hx ⊢
  have HB := Lib.hid hx
  have HO := Lib.hid hO
  clear hx hO
  have y0 : w1.cell? ⟨pb, 0, none⟩ = some (.int .i64 27) := HB.out.cell 0 rfl
  have y3 : w1.cell? ⟨pb, 3, none⟩ = some (.string (strB S)) := HB.out.cell 3 rfl
  have HS : Hid ((strB S).size ≤ 4000) := Lib.hid (by omega)
  clear zcid
  go_wp2_with fail
  go_ret
  exact StrQ.mk HS.out HO.out
set_option maxRecDepth 100000 in
set_option maxHeartbeats 4000000 in
theorem parts_28 (st off mx cd dl sq rt : Int) (fin uni : Bool) (S cid : List UInt8) (rg : List (Int × Int)) (ra : Option Addr) (rc : Nat) (w : World) (hS : (strB S).size ≤ 1100) (hC : (strB cid).size ≤ 1100) :
    Calls Try.prog 64 #[.agg #[.int .i64 28, .int .i64 st, .int .i64 off, .string (strB S), .bool fin, .int .i64 mx, .int .i64 cd, .bool uni, .int .i64 dl, .slice ra rg.length rc, .int .i64 sq, .int .i64 rt, .string (strB cid)]] w (StrQ 4000 w) := by
  have zS : (strB S).size ≤ 1100 := hS
  have zcid : (strB cid).size ≤ 1100 := hC
  go_enter Try.func64, Try.ntmps64
  go_upto_region 1 with fail
  have hx := At.new w 33 #[.int .i64 28, .int .i64 st, .int .i64 off, .string (strB S), .bool fin, .int .i64 mx, .int .i64 cd, .bool uni, .int .i64 dl, .slice ra rg.length rc, .int .i64 sq, .int .i64 rt, .string (strB cid)]
  have hO := (Only.refl [] w).alloc (.cells #[.int .i64 28, .int .i64 st, .int .i64 off, .string (strB S), .bool fin, .int .i64 mx, .int .i64 cd, .bool uni, .int .i64 dl, .slice ra rg.length rc, .int .i64 sq, .int .i64 rt, .string (strB cid)] 33)
  generalize w.alloc (.cells #[.int .i64 28, .int .i64 st, .int .i64 off, .string (strB S), .bool fin, .int .i64 mx, .int .i64 cd, .bool uni, .int .i64 dl, .slice ra rg.length rc, .int .i64 sq, .int .i64 rt, .string (strB cid)] 33) = w1 at hx hO ⊢
  generalize w.heap.size = pb at hx ⊢
  have HB := Lib.hid hx
  have HO := Lib.hid hO
  clear hx hO
  have y0 : w1.cell? ⟨pb, 0, none⟩ = some (.int .i64 28) := HB.out.cell 0 rfl
  go_upto_region 41 with fail
  clear y0
  have HKP : Hid (∀ ww, Only [] w1.drew ww → ww.cell? ⟨pb, 3, none⟩ = some (.string (strB S)) ∧ ww.cell? ⟨pb, 6, none⟩ = some (.int .i64 cd)) := Lib.hid (fun ww o => ⟨((HB.out.drew).keep o (by simp)).cell 3 rfl, ((HB.out.drew).keep o (by simp)).cell 6 rfl⟩)
  have HW0 : Hid (Only [] w1.drew w1.drew) := Lib.hid (Only.refl _ _)
  refine wp_region_held_drew (S := fun w' => w'.cell? ⟨pb, 3, none⟩ = some (.string (strB S)) ∧ w'.cell? ⟨pb, 6, none⟩ = some (.int .i64 cd)) (by kernel_rfl) (by exact HKP.out _ (Only.refl _ _)) (fun hHeld => ?_)
  refine tkH (i := 0) rfl (fun wS hSw => by (try dsimp only at hSw); go_simp; try with_reducible rfl) ?_
  simp only [tk1, tk2, tk3, Act.put, tk4, tk5, tk6]
  refine tkH (i := 1) rfl (fun wS hSw => by (try dsimp only at hSw); go_simp; try with_reducible rfl) ?_
  simp only [tk1, tk2, tk3, Act.put, tk4, tk5, tk6]
  refine tkH (i := 3) rfl (fun wS hSw => by (try dsimp only at hSw); go_simp; try with_reducible rfl) ?_
  simp only [tk1, tk2, tk3, Act.put, tk4, tk5, tk6]
  refine tkH (i := 4) rfl (fun wS hSw => by (try dsimp only at hSw); go_simp; try with_reducible rfl) ?_
  simp only [tk1, tk2, tk3, Act.put, tk4, tk5, tk6]
  refine wpAnyH_ready (rs := [2]) (by kernel_rfl) (by simp) ?_
  refine AllReadyH.cons rfl (fun K hK => ?_) AllReadyH.nil
  go_simp
  refine (rv_w cd _).mono ?_
  rintro e w2 ⟨S0, rfl, hz0, ho⟩
  replace HW0 := Lib.hid (HW0.out.trans ho)
  clear ho
  refine hK.out _ _ (HKP.out _ HW0.out) (fun hHeld' => ?_)
  clear hHeld hK K
  have hHeld := hHeld'
  clear hHeld'
  try simp only [tk1, tk2, tk3, Act.put, tk4, tk5, tk6]
  refine wpAnyH_ready (rs := [5]) (by kernel_rfl) (by simp) ?_
  refine AllReadyH.cons rfl (fun K hK => ?_) AllReadyH.nil
  go_simp
  refine (rtext_w (strB S) hS _).mono ?_
  rintro e w3 ⟨S1, rfl, hz1, ho⟩
  replace HW0 := Lib.hid (HW0.out.trans ho)
  clear ho
  refine hK.out _ _ (HKP.out _ HW0.out) (fun hHeld' => ?_)
  clear hHeld hK K
  have hHeld := hHeld'
  clear hHeld'
  try simp only [tk1, tk2, tk3, Act.put, tk4, tk5, tk6]
  have g1 : ¬ 9223372036854775807 < S0.size + S1.size := by omega
  have hA1 : (S0 ++ S1).size ≤ 2220 := by rw [ByteArray.size_append]; omega
  refine tkH (i := 6) rfl (fun wS hSw => by (try dsimp only at hSw); go_simp; try with_reducible rfl) ?_
  simp only [tk1, tk2, tk3, Act.put, tk4, tk5, tk6]
  generalize S0 ++ S1 = T1 at hA1 ⊢
  refine tkH (i := 7) rfl (fun wS hSw => by (try dsimp only at hSw); go_simp; try with_reducible rfl) ?_
  simp only [tk1, tk2, tk3, Act.put, tk4, tk5, tk6]
  refine wpAnyH_done (by kernel_rfl) ?_ _
  have HT : Hid (T1.size ≤ 4000) := Lib.hid (by omega)
  have HO2 : Hid (Only [] w _) := Lib.hid (HO.out.drew.trans HW0.out)
  clear HKP hHeld
  go_wp2_with fail
  go_ret
  exact StrQ.mk HT.out HO2.out
set_option maxRecDepth 100000 in
set_option maxHeartbeats 4000000 in
theorem parts_29 (st off mx cd dl sq rt : Int) (fin uni : Bool) (S cid : List UInt8) (rg : List (Int × Int)) (ra : Option Addr) (rc : Nat) (w : World) (hS : (strB S).size ≤ 1100) (hC : (strB cid).size ≤ 1100) :
    Calls Try.prog 64 #[.agg #[.int .i64 29, .int .i64 st, .int .i64 off, .string (strB S), .bool fin, .int .i64 mx, .int .i64 cd, .bool uni, .int .i64 dl, .slice ra rg.length rc, .int .i64 sq, .int .i64 rt, .string (strB cid)]] w (StrQ 4000 w) := by
  have zS : (strB S).size ≤ 1100 := hS
  have zcid : (strB cid).size ≤ 1100 := hC
  go_enter Try.func64, Try.ntmps64
  go_upto_region 1 with fail
  have hx := At.new w 33 #[.int .i64 29, .int .i64 st, .int .i64 off, .string (strB S), .bool fin, .int .i64 mx, .int .i64 cd, .bool uni, .int .i64 dl, .slice ra rg.length rc, .int .i64 sq, .int .i64 rt, .string (strB cid)]
  have hO := (Only.refl [] w).alloc (.cells #[.int .i64 29, .int .i64 st, .int .i64 off, .string (strB S), .bool fin, .int .i64 mx, .int .i64 cd, .bool uni, .int .i64 dl, .slice ra rg.length rc, .int .i64 sq, .int .i64 rt, .string (strB cid)] 33)
  generalize w.alloc (.cells #[.int .i64 29, .int .i64 st, .int .i64 off, .string (strB S), .bool fin, .int .i64 mx, .int .i64 cd, .bool uni, .int .i64 dl, .slice ra rg.length rc, .int .i64 sq, .int .i64 rt, .string (strB cid)] 33) = w1 at hx hO ⊢
  generalize w.heap.size = pb at hx ⊢
  have HB := Lib.hid hx
  have HO := Lib.hid hO
  clear hx hO
  have y0 : w1.cell? ⟨pb, 0, none⟩ = some (.int .i64 29) := HB.out.cell 0 rfl
  go_upto_region 41 with fail
  clear y0
  have HKP : Hid (∀ ww, Only [] w1.drew ww → ww.cell? ⟨pb, 3, none⟩ = some (.string (strB S)) ∧ ww.cell? ⟨pb, 6, none⟩ = some (.int .i64 cd)) := Lib.hid (fun ww o => ⟨((HB.out.drew).keep o (by simp)).cell 3 rfl, ((HB.out.drew).keep o (by simp)).cell 6 rfl⟩)
  have HW0 : Hid (Only [] w1.drew w1.drew) := Lib.hid (Only.refl _ _)
  refine wp_region_held_drew (S := fun w' => w'.cell? ⟨pb, 3, none⟩ = some (.string (strB S)) ∧ w'.cell? ⟨pb, 6, none⟩ = some (.int .i64 cd)) (by kernel_rfl) (by exact HKP.out _ (Only.refl _ _)) (fun hHeld => ?_)
  refine tkH (i := 0) rfl (fun wS hSw => by (try dsimp only at hSw); go_simp; try with_reducible rfl) ?_
  simp only [tk1, tk2, tk3, Act.put, tk4, tk5, tk6]
  refine tkH (i := 1) rfl (fun wS hSw => by (try dsimp only at hSw); go_simp; try with_reducible rfl) ?_
  simp only [tk1, tk2, tk3, Act.put, tk4, tk5, tk6]
  refine tkH (i := 3) rfl (fun wS hSw => by (try dsimp only at hSw); go_simp; try with_reducible rfl) ?_
  simp only [tk1, tk2, tk3, Act.put, tk4, tk5, tk6]
  refine tkH (i := 4) rfl (fun wS hSw => by (try dsimp only at hSw); go_simp; try with_reducible rfl) ?_
  simp only [tk1, tk2, tk3, Act.put, tk4, tk5, tk6]
  refine wpAnyH_ready (rs := [2]) (by kernel_rfl) (by simp) ?_
  refine AllReadyH.cons rfl (fun K hK => ?_) AllReadyH.nil
  go_simp
  refine (rv_w cd _).mono ?_
  rintro e w2 ⟨S0, rfl, hz0, ho⟩
  replace HW0 := Lib.hid (HW0.out.trans ho)
  clear ho
  refine hK.out _ _ (HKP.out _ HW0.out) (fun hHeld' => ?_)
  clear hHeld hK K
  have hHeld := hHeld'
  clear hHeld'
  try simp only [tk1, tk2, tk3, Act.put, tk4, tk5, tk6]
  refine wpAnyH_ready (rs := [5]) (by kernel_rfl) (by simp) ?_
  refine AllReadyH.cons rfl (fun K hK => ?_) AllReadyH.nil
  go_simp
  refine (rtext_w (strB S) hS _).mono ?_
  rintro e w3 ⟨S1, rfl, hz1, ho⟩
  replace HW0 := Lib.hid (HW0.out.trans ho)
  clear ho
  refine hK.out _ _ (HKP.out _ HW0.out) (fun hHeld' => ?_)
  clear hHeld hK K
  have hHeld := hHeld'
  clear hHeld'
  try simp only [tk1, tk2, tk3, Act.put, tk4, tk5, tk6]
  have g1 : ¬ 9223372036854775807 < S0.size + S1.size := by omega
  have hA1 : (S0 ++ S1).size ≤ 2220 := by rw [ByteArray.size_append]; omega
  refine tkH (i := 6) rfl (fun wS hSw => by (try dsimp only at hSw); go_simp; try with_reducible rfl) ?_
  simp only [tk1, tk2, tk3, Act.put, tk4, tk5, tk6]
  generalize S0 ++ S1 = T1 at hA1 ⊢
  refine tkH (i := 7) rfl (fun wS hSw => by (try dsimp only at hSw); go_simp; try with_reducible rfl) ?_
  simp only [tk1, tk2, tk3, Act.put, tk4, tk5, tk6]
  refine wpAnyH_done (by kernel_rfl) ?_ _
  have HT : Hid (T1.size ≤ 4000) := Lib.hid (by omega)
  have HO2 : Hid (Only [] w _) := Lib.hid (HO.out.drew.trans HW0.out)
  clear HKP hHeld
  go_wp2_with fail
  go_ret
  exact StrQ.mk HT.out HO2.out
end Go.Proofs.Ytmmgmpghkpbgkaa
