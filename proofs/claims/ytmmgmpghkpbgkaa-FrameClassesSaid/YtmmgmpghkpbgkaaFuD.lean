/- The walk of FrameClasses. -/
import Derived.Test.YtmmgmpghkpbgkaaFtS
import Derived.Test.YtmmgmpghkpbgkaaArE
import Derived.Test.YtmmgmpghkpbgkaaArF
import Derived.Deep.LoopGhost
import Derived.Deep.CutRange
namespace Go.Proofs.Ytmmgmpghkpbgkaa
open Go Go.RowKit
set_option linter.unusedVariables false
set_option linter.unusedSimpArgs false

theorem allow_cases (T : Int) (h : T ∈ tyL) : allow 2 T = allow 0 T ∧ allow 3 T = false ∧ allow 4 T = true ∧ ((allow 0 T = true ∧ allow 1 T = true ∧ (T = 0 ∨ T = 1 ∨ T = 28)) ∨ (allow 0 T = true ∧ allow 1 T = false) ∨ allow 0 T = false) := by
  simp only [tyL, List.mem_cons, List.not_mem_nil, or_false] at h
  rcases h with rfl | rfl | rfl | rfl | rfl | rfl | rfl | rfl | rfl | rfl | rfl | rfl | rfl | rfl | rfl | rfl | rfl | rfl | rfl | rfl | rfl
  all_goals
    refine ⟨rfl, rfl, rfl, ?_⟩
    first | exact .inr (.inr rfl) | exact .inl ⟨rfl, rfl, by omega⟩ | exact .inr (.inl ⟨rfl, rfl⟩)
def ClRel (w : World) (gk : Nat) (ix : Value) (wr : World) : Prop := ∃ k : Nat, gk = 2 - k ∧ k ≤ 2 ∧ ix = .int .i64 k ∧ Hid (Only [] w wr)
set_option maxRecDepth 100000 in
set_option maxHeartbeats 8000000 in
theorem classes_walk (ty A B C : Int) (s : ByteArray) (fin : Bool) (sv : Value) (SL : List (Int × Int)) (g : Fr) (gv : Value) (w : World) (hF : FpOk ty A B C s) (hS : RgAt w sv SL) (hG : RgAt w gv g.rg) (hgt : -9223372036854775808 ≤ g.ty ∧ g.ty ≤ 9223372036854775807) :
    Calls Try.prog 9 #[.agg (fpC ty A B C s fin sv), .agg (frC g gv)] w fun e w' => e = .returned (.bool true) ∧ Below w.heap.size w w' := by
  obtain ⟨sa, sc, rfl, hsx⟩ := hS
  have HS : Hid (RgAt w (.slice sa SL.length sc) SL) := Lib.hid ⟨sa, sc, rfl, hsx⟩
  have hff := fun ww hh => frameFrom_c ty A B C s fin (.slice sa SL.length sc) SL ww hh hF
  clear hsx hF
  simp only [fpC] at hff ⊢
  obtain ⟨ga, gc, rfl, hgx⟩ := hG
  clear hgx hgt
  simp only [frC]
  have HO := Lib.hid (Only.refl [] w)
  go_enter Try.func9, Try.ntmps9
  go_upto_region 1 with fail
  have hx := At.new w 46 #[.int .i64 ty, .int .i64 A, .int .i64 B, .int .i64 C, .string s, .bool fin, .slice sa SL.length sc]
  replace HO := Lib.hid (HO.out.alloc (.cells #[.int .i64 ty, .int .i64 A, .int .i64 B, .int .i64 C, .string s, .bool fin, .slice sa SL.length sc] 46))
  have hszA : (w.alloc (.cells #[.int .i64 ty, .int .i64 A, .int .i64 B, .int .i64 C, .string s, .bool fin, .slice sa SL.length sc] 46)).heap.size = w.heap.size + 1 := by simp
  generalize w.alloc (.cells #[.int .i64 ty, .int .i64 A, .int .i64 B, .int .i64 C, .string s, .bool fin, .slice sa SL.length sc] 46) = v1 at hx hszA HO ⊢
  generalize w.heap.size = pa at hx hszA  ⊢
  have HA := Lib.hid hx
  clear hx
  have HbA := Lib.hid (Only.refl [] v1)
  have hx := At.new v1 33 #[.int .i64 g.ty, .int .i64 g.st, .int .i64 g.off, .string (strB g.S), .bool g.fin, .int .i64 g.mx, .int .i64 g.cd, .bool g.uni, .int .i64 g.dl, .slice ga g.rg.length gc, .int .i64 g.sq, .int .i64 g.rt, .string (strB g.cid)]
  replace HO := Lib.hid (HO.out.alloc (.cells #[.int .i64 g.ty, .int .i64 g.st, .int .i64 g.off, .string (strB g.S), .bool g.fin, .int .i64 g.mx, .int .i64 g.cd, .bool g.uni, .int .i64 g.dl, .slice ga g.rg.length gc, .int .i64 g.sq, .int .i64 g.rt, .string (strB g.cid)] 33))
  replace HbA := Lib.hid (HbA.out.alloc (.cells #[.int .i64 g.ty, .int .i64 g.st, .int .i64 g.off, .string (strB g.S), .bool g.fin, .int .i64 g.mx, .int .i64 g.cd, .bool g.uni, .int .i64 g.dl, .slice ga g.rg.length gc, .int .i64 g.sq, .int .i64 g.rt, .string (strB g.cid)] 33))
  have hszB : (v1.alloc (.cells #[.int .i64 g.ty, .int .i64 g.st, .int .i64 g.off, .string (strB g.S), .bool g.fin, .int .i64 g.mx, .int .i64 g.cd, .bool g.uni, .int .i64 g.dl, .slice ga g.rg.length gc, .int .i64 g.sq, .int .i64 g.rt, .string (strB g.cid)] 33)).heap.size = v1.heap.size + 1 := by simp
  generalize v1.alloc (.cells #[.int .i64 g.ty, .int .i64 g.st, .int .i64 g.off, .string (strB g.S), .bool g.fin, .int .i64 g.mx, .int .i64 g.cd, .bool g.uni, .int .i64 g.dl, .slice ga g.rg.length gc, .int .i64 g.sq, .int .i64 g.rt, .string (strB g.cid)] 33) = v2 at hx hszB HO HbA ⊢
  rw [hszA] at hx hszB 
  generalize pa + 1 = po at hx hszB  ⊢
  have HB := Lib.hid hx
  clear hx
  have HbB := Lib.hid (Only.refl [] v2)
  go_wp2_with fail
  refine (sane9 _).mono ?_
  rintro e v3 ⟨rfl, ho⟩
  replace HO := Lib.hid (HO.out.trans ho)
  replace HbA := Lib.hid (HbA.out.trans ho)
  replace HbB := Lib.hid (HbB.out.trans ho)
  clear ho
  have Ax0 : v3.cell? ⟨pa, 0, none⟩ = some (.int .i64 ty) := (HA.out.keep HbA.out (by simp)).cell 0 rfl
  have Ax1 : v3.cell? ⟨pa, 1, none⟩ = some (.int .i64 A) := (HA.out.keep HbA.out (by simp)).cell 1 rfl
  have Ax2 : v3.cell? ⟨pa, 2, none⟩ = some (.int .i64 B) := (HA.out.keep HbA.out (by simp)).cell 2 rfl
  have Ax3 : v3.cell? ⟨pa, 3, none⟩ = some (.int .i64 C) := (HA.out.keep HbA.out (by simp)).cell 3 rfl
  have Ax4 : v3.cell? ⟨pa, 4, none⟩ = some (.string s) := (HA.out.keep HbA.out (by simp)).cell 4 rfl
  have Ax5 : v3.cell? ⟨pa, 5, none⟩ = some (.bool fin) := (HA.out.keep HbA.out (by simp)).cell 5 rfl
  have Ax6 : v3.cell? ⟨pa, 6, none⟩ = some (.slice sa SL.length sc) := (HA.out.keep HbA.out (by simp)).cell 6 rfl
  go_wp2_with fail
  refine (hff _ (HS.out.keep HO.out)).mono ?_
  rintro e v4 ⟨f, rv, t, rfl, hok, _, _, hty, ho⟩
  clear Ax0 Ax1 Ax2 Ax3 Ax4 Ax5 Ax6
  replace HO := Lib.hid (HO.out.trans ho)
  replace HbA := Lib.hid (HbA.out.trans ho)
  replace HbB := Lib.hid (HbB.out.trans ho)
  clear ho
  obtain ⟨ra, rc, hrv, hrx⟩ := hok.rg
  subst hrv
  clear hrx hff hok
  have a0 := fun ww => allow_c 0 f (.slice ra f.rg.length rc) ww
  have a1 := fun ww => allow_c 1 f (.slice ra f.rg.length rc) ww
  have a2 := fun ww => allow_c 2 f (.slice ra f.rg.length rc) ww
  have a3 := fun ww => allow_c 3 f (.slice ra f.rg.length rc) ww
  have a4 := fun ww => allow_c 4 f (.slice ra f.rg.length rc) ww
  have b0 := fun ww => allow_c 0 { g with ty := f.ty } (.slice ga g.rg.length gc) ww
  have b1 := fun ww => allow_c 1 { g with ty := f.ty } (.slice ga g.rg.length gc) ww
  have b2 := fun ww => allow_c 2 { g with ty := f.ty } (.slice ga g.rg.length gc) ww
  have b3 := fun ww => allow_c 3 { g with ty := f.ty } (.slice ga g.rg.length gc) ww
  have b4 := fun ww => allow_c 4 { g with ty := f.ty } (.slice ga g.rg.length gc) ww
  have ef := fun ww => elic_c f (.slice ra f.rg.length rc) ww
  have eg := fun ww => elic_c { g with ty := f.ty } (.slice ga g.rg.length gc) ww
  obtain ⟨T, hT⟩ : ∃ T, f.ty = T := ⟨_, rfl⟩
  rw [hT] at hty
  obtain ⟨q2, q3, q4, qc⟩ := allow_cases T hty
  simp only [frC, hT] at a0 a1 a2 a3 a4 b0 b1 b2 b3 b4 ef eg ⊢
  rw [q2] at a2 b2
  rw [q3] at a3 b3
  rw [q4] at a4 b4
  have HC := Lib.hid qc
  have HTY := Lib.hid hty
  clear q2 q3 q4 qc hty hT
  obtain ⟨x0, hx0⟩ : ∃ x, allow 0 T = x := ⟨_, rfl⟩
  obtain ⟨x1, hx1⟩ : ∃ x, allow 1 T = x := ⟨_, rfl⟩
  obtain ⟨xe, hxe⟩ : ∃ x, elic T = x := ⟨_, rfl⟩
  rw [hx0] at a0 b0 a2 b2 HC
  rw [hx1] at a1 b1 HC
  rw [hxe] at ef eg
  clear hx0 hx1 hxe
  go_upto_region 3 with fail
  have hx := At.new v4 33 #[.int .i64 T, .int .i64 f.st, .int .i64 f.off, .string (strB f.S), .bool f.fin, .int .i64 f.mx, .int .i64 f.cd, .bool f.uni, .int .i64 f.dl, .slice ra f.rg.length rc, .int .i64 f.sq, .int .i64 f.rt, .string (strB f.cid)]
  replace HO := Lib.hid (HO.out.alloc (.cells #[.int .i64 T, .int .i64 f.st, .int .i64 f.off, .string (strB f.S), .bool f.fin, .int .i64 f.mx, .int .i64 f.cd, .bool f.uni, .int .i64 f.dl, .slice ra f.rg.length rc, .int .i64 f.sq, .int .i64 f.rt, .string (strB f.cid)] 33))
  replace HbA := Lib.hid (HbA.out.alloc (.cells #[.int .i64 T, .int .i64 f.st, .int .i64 f.off, .string (strB f.S), .bool f.fin, .int .i64 f.mx, .int .i64 f.cd, .bool f.uni, .int .i64 f.dl, .slice ra f.rg.length rc, .int .i64 f.sq, .int .i64 f.rt, .string (strB f.cid)] 33))
  replace HbB := Lib.hid (HbB.out.alloc (.cells #[.int .i64 T, .int .i64 f.st, .int .i64 f.off, .string (strB f.S), .bool f.fin, .int .i64 f.mx, .int .i64 f.cd, .bool f.uni, .int .i64 f.dl, .slice ra f.rg.length rc, .int .i64 f.sq, .int .i64 f.rt, .string (strB f.cid)] 33))
  have hszF : (v4.alloc (.cells #[.int .i64 T, .int .i64 f.st, .int .i64 f.off, .string (strB f.S), .bool f.fin, .int .i64 f.mx, .int .i64 f.cd, .bool f.uni, .int .i64 f.dl, .slice ra f.rg.length rc, .int .i64 f.sq, .int .i64 f.rt, .string (strB f.cid)] 33)).heap.size = v4.heap.size + 1 := by simp
  generalize v4.alloc (.cells #[.int .i64 T, .int .i64 f.st, .int .i64 f.off, .string (strB f.S), .bool f.fin, .int .i64 f.mx, .int .i64 f.cd, .bool f.uni, .int .i64 f.dl, .slice ra f.rg.length rc, .int .i64 f.sq, .int .i64 f.rt, .string (strB f.cid)] 33) = v5 at hx hszF HO HbA HbB ⊢
  generalize v4.heap.size = pf at hx hszF  ⊢
  have HF := Lib.hid hx
  clear hx
  have HbF := Lib.hid (Only.refl [] v5)
  have Bx0 : v5.cell? ⟨po, 0, none⟩ = some (.int .i64 g.ty) := (HB.out.keep HbB.out (by simp)).cell 0 rfl
  have Bx1 : v5.cell? ⟨po, 1, none⟩ = some (.int .i64 g.st) := (HB.out.keep HbB.out (by simp)).cell 1 rfl
  have Bx2 : v5.cell? ⟨po, 2, none⟩ = some (.int .i64 g.off) := (HB.out.keep HbB.out (by simp)).cell 2 rfl
  have Bx3 : v5.cell? ⟨po, 3, none⟩ = some (.string (strB g.S)) := (HB.out.keep HbB.out (by simp)).cell 3 rfl
  have Bx4 : v5.cell? ⟨po, 4, none⟩ = some (.bool g.fin) := (HB.out.keep HbB.out (by simp)).cell 4 rfl
  have Bx5 : v5.cell? ⟨po, 5, none⟩ = some (.int .i64 g.mx) := (HB.out.keep HbB.out (by simp)).cell 5 rfl
  have Bx6 : v5.cell? ⟨po, 6, none⟩ = some (.int .i64 g.cd) := (HB.out.keep HbB.out (by simp)).cell 6 rfl
  have Bx7 : v5.cell? ⟨po, 7, none⟩ = some (.bool g.uni) := (HB.out.keep HbB.out (by simp)).cell 7 rfl
  have Bx8 : v5.cell? ⟨po, 8, none⟩ = some (.int .i64 g.dl) := (HB.out.keep HbB.out (by simp)).cell 8 rfl
  have Bx9 : v5.cell? ⟨po, 9, none⟩ = some (.slice ga g.rg.length gc) := (HB.out.keep HbB.out (by simp)).cell 9 rfl
  have Bx10 : v5.cell? ⟨po, 10, none⟩ = some (.int .i64 g.sq) := (HB.out.keep HbB.out (by simp)).cell 10 rfl
  have Bx11 : v5.cell? ⟨po, 11, none⟩ = some (.int .i64 g.rt) := (HB.out.keep HbB.out (by simp)).cell 11 rfl
  have Bx12 : v5.cell? ⟨po, 12, none⟩ = some (.string (strB g.cid)) := (HB.out.keep HbB.out (by simp)).cell 12 rfl
  go_upto_region 4 with fail
  clear Bx0 Bx1 Bx2 Bx3 Bx4 Bx5 Bx6 Bx7 Bx8 Bx9 Bx10 Bx11 Bx12
  have hs1 := HO.out.size
  have hp1 := (HF.out.keep HbF.out (by simp)).lt
  have hx := At.new v5 33 #[.int .i64 g.ty, .int .i64 g.st, .int .i64 g.off, .string (strB g.S), .bool g.fin, .int .i64 g.mx, .int .i64 g.cd, .bool g.uni, .int .i64 g.dl, .slice ga g.rg.length gc, .int .i64 g.sq, .int .i64 g.rt, .string (strB g.cid)]
  replace HO := Lib.hid (HO.out.alloc (.cells #[.int .i64 g.ty, .int .i64 g.st, .int .i64 g.off, .string (strB g.S), .bool g.fin, .int .i64 g.mx, .int .i64 g.cd, .bool g.uni, .int .i64 g.dl, .slice ga g.rg.length gc, .int .i64 g.sq, .int .i64 g.rt, .string (strB g.cid)] 33))
  replace HbA := Lib.hid (HbA.out.alloc (.cells #[.int .i64 g.ty, .int .i64 g.st, .int .i64 g.off, .string (strB g.S), .bool g.fin, .int .i64 g.mx, .int .i64 g.cd, .bool g.uni, .int .i64 g.dl, .slice ga g.rg.length gc, .int .i64 g.sq, .int .i64 g.rt, .string (strB g.cid)] 33))
  replace HbB := Lib.hid (HbB.out.alloc (.cells #[.int .i64 g.ty, .int .i64 g.st, .int .i64 g.off, .string (strB g.S), .bool g.fin, .int .i64 g.mx, .int .i64 g.cd, .bool g.uni, .int .i64 g.dl, .slice ga g.rg.length gc, .int .i64 g.sq, .int .i64 g.rt, .string (strB g.cid)] 33))
  replace HbF := Lib.hid (HbF.out.alloc (.cells #[.int .i64 g.ty, .int .i64 g.st, .int .i64 g.off, .string (strB g.S), .bool g.fin, .int .i64 g.mx, .int .i64 g.cd, .bool g.uni, .int .i64 g.dl, .slice ga g.rg.length gc, .int .i64 g.sq, .int .i64 g.rt, .string (strB g.cid)] 33))
  have hszG : (v5.alloc (.cells #[.int .i64 g.ty, .int .i64 g.st, .int .i64 g.off, .string (strB g.S), .bool g.fin, .int .i64 g.mx, .int .i64 g.cd, .bool g.uni, .int .i64 g.dl, .slice ga g.rg.length gc, .int .i64 g.sq, .int .i64 g.rt, .string (strB g.cid)] 33)).heap.size = v5.heap.size + 1 := by simp
  generalize v5.alloc (.cells #[.int .i64 g.ty, .int .i64 g.st, .int .i64 g.off, .string (strB g.S), .bool g.fin, .int .i64 g.mx, .int .i64 g.cd, .bool g.uni, .int .i64 g.dl, .slice ga g.rg.length gc, .int .i64 g.sq, .int .i64 g.rt, .string (strB g.cid)] 33) = v6 at hx hszG HO HbA HbB HbF ⊢
  rw [hszF] at hx hszG hs1 hp1
  generalize pf + 1 = pg at hx hszG hs1 hp1 ⊢
  have HG := Lib.hid hx
  clear hx
  have HbG := Lib.hid (Only.refl [] v6)
  have Fx0 : v6.cell? ⟨pf, 0, none⟩ = some (.int .i64 T) := (HF.out.keep HbF.out (by simp)).cell 0 rfl
  have Gx0 : v6.cell? ⟨pg, 0, none⟩ = some (.int .i64 g.ty) := (HG.out.keep HbG.out (by simp)).cell 0 rfl
  have Gx1 : v6.cell? ⟨pg, 1, none⟩ = some (.int .i64 g.st) := (HG.out.keep HbG.out (by simp)).cell 1 rfl
  have Gx2 : v6.cell? ⟨pg, 2, none⟩ = some (.int .i64 g.off) := (HG.out.keep HbG.out (by simp)).cell 2 rfl
  have Gx3 : v6.cell? ⟨pg, 3, none⟩ = some (.string (strB g.S)) := (HG.out.keep HbG.out (by simp)).cell 3 rfl
  have Gx4 : v6.cell? ⟨pg, 4, none⟩ = some (.bool g.fin) := (HG.out.keep HbG.out (by simp)).cell 4 rfl
  have Gx5 : v6.cell? ⟨pg, 5, none⟩ = some (.int .i64 g.mx) := (HG.out.keep HbG.out (by simp)).cell 5 rfl
  have Gx6 : v6.cell? ⟨pg, 6, none⟩ = some (.int .i64 g.cd) := (HG.out.keep HbG.out (by simp)).cell 6 rfl
  have Gx7 : v6.cell? ⟨pg, 7, none⟩ = some (.bool g.uni) := (HG.out.keep HbG.out (by simp)).cell 7 rfl
  have Gx8 : v6.cell? ⟨pg, 8, none⟩ = some (.int .i64 g.dl) := (HG.out.keep HbG.out (by simp)).cell 8 rfl
  have Gx9 : v6.cell? ⟨pg, 9, none⟩ = some (.slice ga g.rg.length gc) := (HG.out.keep HbG.out (by simp)).cell 9 rfl
  have Gx10 : v6.cell? ⟨pg, 10, none⟩ = some (.int .i64 g.sq) := (HG.out.keep HbG.out (by simp)).cell 10 rfl
  have Gx11 : v6.cell? ⟨pg, 11, none⟩ = some (.int .i64 g.rt) := (HG.out.keep HbG.out (by simp)).cell 11 rfl
  have Gx12 : v6.cell? ⟨pg, 12, none⟩ = some (.string (strB g.cid)) := (HG.out.keep HbG.out (by simp)).cell 12 rfl
  have gfr := fun i => (HG.out.keep HbG.out (by simp)).free i
  go_upto_region 5 with fail
  clear Fx0 Gx0 Gx1 Gx2 Gx3 Gx4 Gx5 Gx6 Gx7 Gx8 Gx9 Gx10 Gx11 Gx12
  clear gfr
  have hG2 := (HG.out.keep HbG.out (by simp)).set 0 (.int .i64 T) (cs' := #[.int .i64 T, .int .i64 g.st, .int .i64 g.off, .string (strB g.S), .bool g.fin, .int .i64 g.mx, .int .i64 g.cd, .bool g.uni, .int .i64 g.dl, .slice ga g.rg.length gc, .int .i64 g.sq, .int .i64 g.rt, .string (strB g.cid)]) rfl
  have hF2 := (HF.out.keep HbF.out (by simp)).far (p := ⟨pg, 0, none⟩) (show pf ≠ pg by omega) (.int .i64 T)
  have hO2 := HO.out.putn (g := pg) (i := 0) hs1 (.int .i64 T)
  clear HA HB HbA HbB HF HbF HG HbG HO
  generalize v6.setCell ⟨pg, 0, none⟩ (.int .i64 T) = v7 at hG2 hF2 hO2 ⊢
  have HG := Lib.hid hG2
  have HF := Lib.hid hF2
  have HO := Lib.hid hO2
  clear hG2 hF2 hO2
  have Hb := Lib.hid (Only.refl [] v7)
  have Fx0 : v7.cell? ⟨pf, 0, none⟩ = some (.int .i64 T) := (HF.out.keep Hb.out (by simp)).cell 0 rfl
  have Fx1 : v7.cell? ⟨pf, 1, none⟩ = some (.int .i64 f.st) := (HF.out.keep Hb.out (by simp)).cell 1 rfl
  have Fx2 : v7.cell? ⟨pf, 2, none⟩ = some (.int .i64 f.off) := (HF.out.keep Hb.out (by simp)).cell 2 rfl
  have Fx3 : v7.cell? ⟨pf, 3, none⟩ = some (.string (strB f.S)) := (HF.out.keep Hb.out (by simp)).cell 3 rfl
  have Fx4 : v7.cell? ⟨pf, 4, none⟩ = some (.bool f.fin) := (HF.out.keep Hb.out (by simp)).cell 4 rfl
  have Fx5 : v7.cell? ⟨pf, 5, none⟩ = some (.int .i64 f.mx) := (HF.out.keep Hb.out (by simp)).cell 5 rfl
  have Fx6 : v7.cell? ⟨pf, 6, none⟩ = some (.int .i64 f.cd) := (HF.out.keep Hb.out (by simp)).cell 6 rfl
  have Fx7 : v7.cell? ⟨pf, 7, none⟩ = some (.bool f.uni) := (HF.out.keep Hb.out (by simp)).cell 7 rfl
  have Fx8 : v7.cell? ⟨pf, 8, none⟩ = some (.int .i64 f.dl) := (HF.out.keep Hb.out (by simp)).cell 8 rfl
  have Fx9 : v7.cell? ⟨pf, 9, none⟩ = some (.slice ra f.rg.length rc) := (HF.out.keep Hb.out (by simp)).cell 9 rfl
  have Fx10 : v7.cell? ⟨pf, 10, none⟩ = some (.int .i64 f.sq) := (HF.out.keep Hb.out (by simp)).cell 10 rfl
  have Fx11 : v7.cell? ⟨pf, 11, none⟩ = some (.int .i64 f.rt) := (HF.out.keep Hb.out (by simp)).cell 11 rfl
  have Fx12 : v7.cell? ⟨pf, 12, none⟩ = some (.string (strB f.cid)) := (HF.out.keep Hb.out (by simp)).cell 12 rfl
  have Gx0 : v7.cell? ⟨pg, 0, none⟩ = some (.int .i64 T) := (HG.out.keep Hb.out (by simp)).cell 0 rfl
  have Gx1 : v7.cell? ⟨pg, 1, none⟩ = some (.int .i64 g.st) := (HG.out.keep Hb.out (by simp)).cell 1 rfl
  have Gx2 : v7.cell? ⟨pg, 2, none⟩ = some (.int .i64 g.off) := (HG.out.keep Hb.out (by simp)).cell 2 rfl
  have Gx3 : v7.cell? ⟨pg, 3, none⟩ = some (.string (strB g.S)) := (HG.out.keep Hb.out (by simp)).cell 3 rfl
  have Gx4 : v7.cell? ⟨pg, 4, none⟩ = some (.bool g.fin) := (HG.out.keep Hb.out (by simp)).cell 4 rfl
  have Gx5 : v7.cell? ⟨pg, 5, none⟩ = some (.int .i64 g.mx) := (HG.out.keep Hb.out (by simp)).cell 5 rfl
  have Gx6 : v7.cell? ⟨pg, 6, none⟩ = some (.int .i64 g.cd) := (HG.out.keep Hb.out (by simp)).cell 6 rfl
  have Gx7 : v7.cell? ⟨pg, 7, none⟩ = some (.bool g.uni) := (HG.out.keep Hb.out (by simp)).cell 7 rfl
  have Gx8 : v7.cell? ⟨pg, 8, none⟩ = some (.int .i64 g.dl) := (HG.out.keep Hb.out (by simp)).cell 8 rfl
  have Gx9 : v7.cell? ⟨pg, 9, none⟩ = some (.slice ga g.rg.length gc) := (HG.out.keep Hb.out (by simp)).cell 9 rfl
  have Gx10 : v7.cell? ⟨pg, 10, none⟩ = some (.int .i64 g.sq) := (HG.out.keep Hb.out (by simp)).cell 10 rfl
  have Gx11 : v7.cell? ⟨pg, 11, none⟩ = some (.int .i64 g.rt) := (HG.out.keep Hb.out (by simp)).cell 11 rfl
  have Gx12 : v7.cell? ⟨pg, 12, none⟩ = some (.string (strB g.cid)) := (HG.out.keep Hb.out (by simp)).cell 12 rfl
  go_wp2_with fail
  clear Fx0 Fx1 Fx2 Fx3 Fx4 Fx5 Fx6 Fx7 Fx8 Fx9 Fx10 Fx11 Fx12 Gx0 Gx1 Gx2 Gx3 Gx4 Gx5 Gx6 Gx7 Gx8 Gx9 Gx10 Gx11 Gx12
  have hx := At.new v7 33 #[.int .i64 T, .int .i64 f.st, .int .i64 f.off, .string (strB f.S), .bool f.fin, .int .i64 f.mx, .int .i64 f.cd, .bool f.uni, .int .i64 f.dl, .slice ra f.rg.length rc, .int .i64 f.sq, .int .i64 f.rt, .string (strB f.cid), .int .i64 T, .int .i64 g.st, .int .i64 g.off, .string (strB g.S), .bool g.fin, .int .i64 g.mx, .int .i64 g.cd, .bool g.uni, .int .i64 g.dl, .slice ga g.rg.length gc, .int .i64 g.sq, .int .i64 g.rt, .string (strB g.cid)]
  replace HO := Lib.hid (HO.out.alloc (.cells #[.int .i64 T, .int .i64 f.st, .int .i64 f.off, .string (strB f.S), .bool f.fin, .int .i64 f.mx, .int .i64 f.cd, .bool f.uni, .int .i64 f.dl, .slice ra f.rg.length rc, .int .i64 f.sq, .int .i64 f.rt, .string (strB f.cid), .int .i64 T, .int .i64 g.st, .int .i64 g.off, .string (strB g.S), .bool g.fin, .int .i64 g.mx, .int .i64 g.cd, .bool g.uni, .int .i64 g.dl, .slice ga g.rg.length gc, .int .i64 g.sq, .int .i64 g.rt, .string (strB g.cid)] 33))
  replace Hb := Lib.hid (Hb.out.alloc (.cells #[.int .i64 T, .int .i64 f.st, .int .i64 f.off, .string (strB f.S), .bool f.fin, .int .i64 f.mx, .int .i64 f.cd, .bool f.uni, .int .i64 f.dl, .slice ra f.rg.length rc, .int .i64 f.sq, .int .i64 f.rt, .string (strB f.cid), .int .i64 T, .int .i64 g.st, .int .i64 g.off, .string (strB g.S), .bool g.fin, .int .i64 g.mx, .int .i64 g.cd, .bool g.uni, .int .i64 g.dl, .slice ga g.rg.length gc, .int .i64 g.sq, .int .i64 g.rt, .string (strB g.cid)] 33))
  have hszR : (v7.alloc (.cells #[.int .i64 T, .int .i64 f.st, .int .i64 f.off, .string (strB f.S), .bool f.fin, .int .i64 f.mx, .int .i64 f.cd, .bool f.uni, .int .i64 f.dl, .slice ra f.rg.length rc, .int .i64 f.sq, .int .i64 f.rt, .string (strB f.cid), .int .i64 T, .int .i64 g.st, .int .i64 g.off, .string (strB g.S), .bool g.fin, .int .i64 g.mx, .int .i64 g.cd, .bool g.uni, .int .i64 g.dl, .slice ga g.rg.length gc, .int .i64 g.sq, .int .i64 g.rt, .string (strB g.cid)] 33)).heap.size = v7.heap.size + 1 := by simp
  generalize v7.alloc (.cells #[.int .i64 T, .int .i64 f.st, .int .i64 f.off, .string (strB f.S), .bool f.fin, .int .i64 f.mx, .int .i64 f.cd, .bool f.uni, .int .i64 f.dl, .slice ra f.rg.length rc, .int .i64 f.sq, .int .i64 f.rt, .string (strB f.cid), .int .i64 T, .int .i64 g.st, .int .i64 g.off, .string (strB g.S), .bool g.fin, .int .i64 g.mx, .int .i64 g.cd, .bool g.uni, .int .i64 g.dl, .slice ga g.rg.length gc, .int .i64 g.sq, .int .i64 g.rt, .string (strB g.cid)] 33) = v8 at hx hszR HO Hb ⊢
  generalize v7.heap.size = pr at hx hszR  ⊢
  have HR := Lib.hid hx
  clear hx
  have HbR := Lib.hid (Only.refl [] v8)
  go_loopg [24] 2 (fun gk ix wr => ClRel v8 gk ix wr)
  case atStart => exact ⟨0, rfl, by omega, rfl, Lib.hid (Only.refl [] _)⟩
  case round =>
    obtain ⟨k, rfl, hk, rfl, hO⟩ := hrel
    rcases (show k = 0 ∨ k = 1 ∨ k = 2 by omega) with rfl | rfl | rfl
    · as_aux_lemma =>
        have HL := hO
        have r0 : wr.cell? ⟨pr, 0, none⟩ = some (.int .i64 T) := ((HR.out.keep HbR.out (by simp)).keep HL.out (by simp)).cell 0 rfl
        have r1 : wr.cell? ⟨pr, 1, none⟩ = some (.int .i64 f.st) := ((HR.out.keep HbR.out (by simp)).keep HL.out (by simp)).cell 1 rfl
        have r2 : wr.cell? ⟨pr, 2, none⟩ = some (.int .i64 f.off) := ((HR.out.keep HbR.out (by simp)).keep HL.out (by simp)).cell 2 rfl
        have r3 : wr.cell? ⟨pr, 3, none⟩ = some (.string (strB f.S)) := ((HR.out.keep HbR.out (by simp)).keep HL.out (by simp)).cell 3 rfl
        have r4 : wr.cell? ⟨pr, 4, none⟩ = some (.bool f.fin) := ((HR.out.keep HbR.out (by simp)).keep HL.out (by simp)).cell 4 rfl
        have r5 : wr.cell? ⟨pr, 5, none⟩ = some (.int .i64 f.mx) := ((HR.out.keep HbR.out (by simp)).keep HL.out (by simp)).cell 5 rfl
        have r6 : wr.cell? ⟨pr, 6, none⟩ = some (.int .i64 f.cd) := ((HR.out.keep HbR.out (by simp)).keep HL.out (by simp)).cell 6 rfl
        have r7 : wr.cell? ⟨pr, 7, none⟩ = some (.bool f.uni) := ((HR.out.keep HbR.out (by simp)).keep HL.out (by simp)).cell 7 rfl
        have r8 : wr.cell? ⟨pr, 8, none⟩ = some (.int .i64 f.dl) := ((HR.out.keep HbR.out (by simp)).keep HL.out (by simp)).cell 8 rfl
        have r9 : wr.cell? ⟨pr, 9, none⟩ = some (.slice ra f.rg.length rc) := ((HR.out.keep HbR.out (by simp)).keep HL.out (by simp)).cell 9 rfl
        have r10 : wr.cell? ⟨pr, 10, none⟩ = some (.int .i64 f.sq) := ((HR.out.keep HbR.out (by simp)).keep HL.out (by simp)).cell 10 rfl
        have r11 : wr.cell? ⟨pr, 11, none⟩ = some (.int .i64 f.rt) := ((HR.out.keep HbR.out (by simp)).keep HL.out (by simp)).cell 11 rfl
        have r12 : wr.cell? ⟨pr, 12, none⟩ = some (.string (strB f.cid)) := ((HR.out.keep HbR.out (by simp)).keep HL.out (by simp)).cell 12 rfl
        go_upto_region 8 with fail
        clear r0 r1 r2 r3 r4 r5 r6 r7 r8 r9 r10 r11 r12 hO
        have hx := At.new wr 33 #[.int .i64 T, .int .i64 f.st, .int .i64 f.off, .string (strB f.S), .bool f.fin, .int .i64 f.mx, .int .i64 f.cd, .bool f.uni, .int .i64 f.dl, .slice ra f.rg.length rc, .int .i64 f.sq, .int .i64 f.rt, .string (strB f.cid)]
        replace HL := Lib.hid (HL.out.alloc (.cells #[.int .i64 T, .int .i64 f.st, .int .i64 f.off, .string (strB f.S), .bool f.fin, .int .i64 f.mx, .int .i64 f.cd, .bool f.uni, .int .i64 f.dl, .slice ra f.rg.length rc, .int .i64 f.sq, .int .i64 f.rt, .string (strB f.cid)] 33))
        have hszX : (wr.alloc (.cells #[.int .i64 T, .int .i64 f.st, .int .i64 f.off, .string (strB f.S), .bool f.fin, .int .i64 f.mx, .int .i64 f.cd, .bool f.uni, .int .i64 f.dl, .slice ra f.rg.length rc, .int .i64 f.sq, .int .i64 f.rt, .string (strB f.cid)] 33)).heap.size = wr.heap.size + 1 := by simp
        generalize wr.alloc (.cells #[.int .i64 T, .int .i64 f.st, .int .i64 f.off, .string (strB f.S), .bool f.fin, .int .i64 f.mx, .int .i64 f.cd, .bool f.uni, .int .i64 f.dl, .slice ra f.rg.length rc, .int .i64 f.sq, .int .i64 f.rt, .string (strB f.cid)] 33) = v101 at hx hszX HL ⊢
        generalize wr.heap.size = px at hx hszX  ⊢
        have HX := Lib.hid hx
        clear hx
        have HbX := Lib.hid (Only.refl [] v101)
        have Xx0 : v101.cell? ⟨px, 0, none⟩ = some (.int .i64 T) := (HX.out.keep HbX.out (by simp)).cell 0 rfl
        have Xx1 : v101.cell? ⟨px, 1, none⟩ = some (.int .i64 f.st) := (HX.out.keep HbX.out (by simp)).cell 1 rfl
        have Xx2 : v101.cell? ⟨px, 2, none⟩ = some (.int .i64 f.off) := (HX.out.keep HbX.out (by simp)).cell 2 rfl
        have Xx3 : v101.cell? ⟨px, 3, none⟩ = some (.string (strB f.S)) := (HX.out.keep HbX.out (by simp)).cell 3 rfl
        have Xx4 : v101.cell? ⟨px, 4, none⟩ = some (.bool f.fin) := (HX.out.keep HbX.out (by simp)).cell 4 rfl
        have Xx5 : v101.cell? ⟨px, 5, none⟩ = some (.int .i64 f.mx) := (HX.out.keep HbX.out (by simp)).cell 5 rfl
        have Xx6 : v101.cell? ⟨px, 6, none⟩ = some (.int .i64 f.cd) := (HX.out.keep HbX.out (by simp)).cell 6 rfl
        have Xx7 : v101.cell? ⟨px, 7, none⟩ = some (.bool f.uni) := (HX.out.keep HbX.out (by simp)).cell 7 rfl
        have Xx8 : v101.cell? ⟨px, 8, none⟩ = some (.int .i64 f.dl) := (HX.out.keep HbX.out (by simp)).cell 8 rfl
        have Xx9 : v101.cell? ⟨px, 9, none⟩ = some (.slice ra f.rg.length rc) := (HX.out.keep HbX.out (by simp)).cell 9 rfl
        have Xx10 : v101.cell? ⟨px, 10, none⟩ = some (.int .i64 f.sq) := (HX.out.keep HbX.out (by simp)).cell 10 rfl
        have Xx11 : v101.cell? ⟨px, 11, none⟩ = some (.int .i64 f.rt) := (HX.out.keep HbX.out (by simp)).cell 11 rfl
        have Xx12 : v101.cell? ⟨px, 12, none⟩ = some (.string (strB f.cid)) := (HX.out.keep HbX.out (by simp)).cell 12 rfl
        go_wp2_with fail
        refine (a0 _).mono ?_
        rintro e v102 ⟨rfl, ho⟩
        clear Xx0 Xx1 Xx2 Xx3 Xx4 Xx5 Xx6 Xx7 Xx8 Xx9 Xx10 Xx11 Xx12
        replace HL := Lib.hid (HL.out.trans ho)
        replace HbX := Lib.hid (HbX.out.trans ho)
        clear ho
        have Xx0 : v102.cell? ⟨px, 0, none⟩ = some (.int .i64 T) := (HX.out.keep HbX.out (by simp)).cell 0 rfl
        have Xx1 : v102.cell? ⟨px, 1, none⟩ = some (.int .i64 f.st) := (HX.out.keep HbX.out (by simp)).cell 1 rfl
        have Xx2 : v102.cell? ⟨px, 2, none⟩ = some (.int .i64 f.off) := (HX.out.keep HbX.out (by simp)).cell 2 rfl
        have Xx3 : v102.cell? ⟨px, 3, none⟩ = some (.string (strB f.S)) := (HX.out.keep HbX.out (by simp)).cell 3 rfl
        have Xx4 : v102.cell? ⟨px, 4, none⟩ = some (.bool f.fin) := (HX.out.keep HbX.out (by simp)).cell 4 rfl
        have Xx5 : v102.cell? ⟨px, 5, none⟩ = some (.int .i64 f.mx) := (HX.out.keep HbX.out (by simp)).cell 5 rfl
        have Xx6 : v102.cell? ⟨px, 6, none⟩ = some (.int .i64 f.cd) := (HX.out.keep HbX.out (by simp)).cell 6 rfl
        have Xx7 : v102.cell? ⟨px, 7, none⟩ = some (.bool f.uni) := (HX.out.keep HbX.out (by simp)).cell 7 rfl
        have Xx8 : v102.cell? ⟨px, 8, none⟩ = some (.int .i64 f.dl) := (HX.out.keep HbX.out (by simp)).cell 8 rfl
        have Xx9 : v102.cell? ⟨px, 9, none⟩ = some (.slice ra f.rg.length rc) := (HX.out.keep HbX.out (by simp)).cell 9 rfl
        have Xx10 : v102.cell? ⟨px, 10, none⟩ = some (.int .i64 f.sq) := (HX.out.keep HbX.out (by simp)).cell 10 rfl
        have Xx11 : v102.cell? ⟨px, 11, none⟩ = some (.int .i64 f.rt) := (HX.out.keep HbX.out (by simp)).cell 11 rfl
        have Xx12 : v102.cell? ⟨px, 12, none⟩ = some (.string (strB f.cid)) := (HX.out.keep HbX.out (by simp)).cell 12 rfl
        go_wp2_with fail
        refine (a2 _).mono ?_
        rintro e v103 ⟨rfl, ho⟩
        clear Xx0 Xx1 Xx2 Xx3 Xx4 Xx5 Xx6 Xx7 Xx8 Xx9 Xx10 Xx11 Xx12
        replace HL := Lib.hid (HL.out.trans ho)
        replace HbX := Lib.hid (HbX.out.trans ho)
        clear ho
        have Xx0 : v103.cell? ⟨px, 0, none⟩ = some (.int .i64 T) := (HX.out.keep HbX.out (by simp)).cell 0 rfl
        have Xx1 : v103.cell? ⟨px, 1, none⟩ = some (.int .i64 f.st) := (HX.out.keep HbX.out (by simp)).cell 1 rfl
        have Xx2 : v103.cell? ⟨px, 2, none⟩ = some (.int .i64 f.off) := (HX.out.keep HbX.out (by simp)).cell 2 rfl
        have Xx3 : v103.cell? ⟨px, 3, none⟩ = some (.string (strB f.S)) := (HX.out.keep HbX.out (by simp)).cell 3 rfl
        have Xx4 : v103.cell? ⟨px, 4, none⟩ = some (.bool f.fin) := (HX.out.keep HbX.out (by simp)).cell 4 rfl
        have Xx5 : v103.cell? ⟨px, 5, none⟩ = some (.int .i64 f.mx) := (HX.out.keep HbX.out (by simp)).cell 5 rfl
        have Xx6 : v103.cell? ⟨px, 6, none⟩ = some (.int .i64 f.cd) := (HX.out.keep HbX.out (by simp)).cell 6 rfl
        have Xx7 : v103.cell? ⟨px, 7, none⟩ = some (.bool f.uni) := (HX.out.keep HbX.out (by simp)).cell 7 rfl
        have Xx8 : v103.cell? ⟨px, 8, none⟩ = some (.int .i64 f.dl) := (HX.out.keep HbX.out (by simp)).cell 8 rfl
        have Xx9 : v103.cell? ⟨px, 9, none⟩ = some (.slice ra f.rg.length rc) := (HX.out.keep HbX.out (by simp)).cell 9 rfl
        have Xx10 : v103.cell? ⟨px, 10, none⟩ = some (.int .i64 f.sq) := (HX.out.keep HbX.out (by simp)).cell 10 rfl
        have Xx11 : v103.cell? ⟨px, 11, none⟩ = some (.int .i64 f.rt) := (HX.out.keep HbX.out (by simp)).cell 11 rfl
        have Xx12 : v103.cell? ⟨px, 12, none⟩ = some (.string (strB f.cid)) := (HX.out.keep HbX.out (by simp)).cell 12 rfl
        go_wp2_with fail
        refine (a1 _).mono ?_
        rintro e v104 ⟨rfl, ho⟩
        clear Xx0 Xx1 Xx2 Xx3 Xx4 Xx5 Xx6 Xx7 Xx8 Xx9 Xx10 Xx11 Xx12
        replace HL := Lib.hid (HL.out.trans ho)
        replace HbX := Lib.hid (HbX.out.trans ho)
        clear ho
        rcases HC.out with ⟨rfl, rfl, hT3⟩ | ⟨rfl, rfl⟩ | rfl
        · rcases hT3 with rfl | rfl | rfl
          · as_aux_lemma =>
              have Xx0 : v104.cell? ⟨px, 0, none⟩ = some (.int .i64 0) := (HX.out.keep HbX.out (by simp)).cell 0 rfl
              have Xx1 : v104.cell? ⟨px, 1, none⟩ = some (.int .i64 f.st) := (HX.out.keep HbX.out (by simp)).cell 1 rfl
              have Xx2 : v104.cell? ⟨px, 2, none⟩ = some (.int .i64 f.off) := (HX.out.keep HbX.out (by simp)).cell 2 rfl
              have Xx3 : v104.cell? ⟨px, 3, none⟩ = some (.string (strB f.S)) := (HX.out.keep HbX.out (by simp)).cell 3 rfl
              have Xx4 : v104.cell? ⟨px, 4, none⟩ = some (.bool f.fin) := (HX.out.keep HbX.out (by simp)).cell 4 rfl
              have Xx5 : v104.cell? ⟨px, 5, none⟩ = some (.int .i64 f.mx) := (HX.out.keep HbX.out (by simp)).cell 5 rfl
              have Xx6 : v104.cell? ⟨px, 6, none⟩ = some (.int .i64 f.cd) := (HX.out.keep HbX.out (by simp)).cell 6 rfl
              have Xx7 : v104.cell? ⟨px, 7, none⟩ = some (.bool f.uni) := (HX.out.keep HbX.out (by simp)).cell 7 rfl
              have Xx8 : v104.cell? ⟨px, 8, none⟩ = some (.int .i64 f.dl) := (HX.out.keep HbX.out (by simp)).cell 8 rfl
              have Xx9 : v104.cell? ⟨px, 9, none⟩ = some (.slice ra f.rg.length rc) := (HX.out.keep HbX.out (by simp)).cell 9 rfl
              have Xx10 : v104.cell? ⟨px, 10, none⟩ = some (.int .i64 f.sq) := (HX.out.keep HbX.out (by simp)).cell 10 rfl
              have Xx11 : v104.cell? ⟨px, 11, none⟩ = some (.int .i64 f.rt) := (HX.out.keep HbX.out (by simp)).cell 11 rfl
              have Xx12 : v104.cell? ⟨px, 12, none⟩ = some (.string (strB f.cid)) := (HX.out.keep HbX.out (by simp)).cell 12 rfl
              go_wp2_with fail
              refine (a3 _).mono ?_
              rintro e v105 ⟨rfl, ho⟩
              clear Xx0 Xx1 Xx2 Xx3 Xx4 Xx5 Xx6 Xx7 Xx8 Xx9 Xx10 Xx11 Xx12
              replace HL := Lib.hid (HL.out.trans ho)
              replace HbX := Lib.hid (HbX.out.trans ho)
              clear ho
              have Xx0 : v105.cell? ⟨px, 0, none⟩ = some (.int .i64 0) := (HX.out.keep HbX.out (by simp)).cell 0 rfl
              have Xx1 : v105.cell? ⟨px, 1, none⟩ = some (.int .i64 f.st) := (HX.out.keep HbX.out (by simp)).cell 1 rfl
              have Xx2 : v105.cell? ⟨px, 2, none⟩ = some (.int .i64 f.off) := (HX.out.keep HbX.out (by simp)).cell 2 rfl
              have Xx3 : v105.cell? ⟨px, 3, none⟩ = some (.string (strB f.S)) := (HX.out.keep HbX.out (by simp)).cell 3 rfl
              have Xx4 : v105.cell? ⟨px, 4, none⟩ = some (.bool f.fin) := (HX.out.keep HbX.out (by simp)).cell 4 rfl
              have Xx5 : v105.cell? ⟨px, 5, none⟩ = some (.int .i64 f.mx) := (HX.out.keep HbX.out (by simp)).cell 5 rfl
              have Xx6 : v105.cell? ⟨px, 6, none⟩ = some (.int .i64 f.cd) := (HX.out.keep HbX.out (by simp)).cell 6 rfl
              have Xx7 : v105.cell? ⟨px, 7, none⟩ = some (.bool f.uni) := (HX.out.keep HbX.out (by simp)).cell 7 rfl
              have Xx8 : v105.cell? ⟨px, 8, none⟩ = some (.int .i64 f.dl) := (HX.out.keep HbX.out (by simp)).cell 8 rfl
              have Xx9 : v105.cell? ⟨px, 9, none⟩ = some (.slice ra f.rg.length rc) := (HX.out.keep HbX.out (by simp)).cell 9 rfl
              have Xx10 : v105.cell? ⟨px, 10, none⟩ = some (.int .i64 f.sq) := (HX.out.keep HbX.out (by simp)).cell 10 rfl
              have Xx11 : v105.cell? ⟨px, 11, none⟩ = some (.int .i64 f.rt) := (HX.out.keep HbX.out (by simp)).cell 11 rfl
              have Xx12 : v105.cell? ⟨px, 12, none⟩ = some (.string (strB f.cid)) := (HX.out.keep HbX.out (by simp)).cell 12 rfl
              go_wp2_with fail
              refine (a4 _).mono ?_
              rintro e v106 ⟨rfl, ho⟩
              clear Xx0 Xx1 Xx2 Xx3 Xx4 Xx5 Xx6 Xx7 Xx8 Xx9 Xx10 Xx11 Xx12
              replace HL := Lib.hid (HL.out.trans ho)
              replace HbX := Lib.hid (HbX.out.trans ho)
              clear ho
              have Xx0 : v106.cell? ⟨px, 0, none⟩ = some (.int .i64 0) := (HX.out.keep HbX.out (by simp)).cell 0 rfl
              go_wp2_with fail
              go_roundg 1
              case measure => omega
              case rel => exact ⟨1, rfl, by omega, rfl, HL⟩
          · as_aux_lemma =>
              have Xx0 : v104.cell? ⟨px, 0, none⟩ = some (.int .i64 1) := (HX.out.keep HbX.out (by simp)).cell 0 rfl
              have Xx1 : v104.cell? ⟨px, 1, none⟩ = some (.int .i64 f.st) := (HX.out.keep HbX.out (by simp)).cell 1 rfl
              have Xx2 : v104.cell? ⟨px, 2, none⟩ = some (.int .i64 f.off) := (HX.out.keep HbX.out (by simp)).cell 2 rfl
              have Xx3 : v104.cell? ⟨px, 3, none⟩ = some (.string (strB f.S)) := (HX.out.keep HbX.out (by simp)).cell 3 rfl
              have Xx4 : v104.cell? ⟨px, 4, none⟩ = some (.bool f.fin) := (HX.out.keep HbX.out (by simp)).cell 4 rfl
              have Xx5 : v104.cell? ⟨px, 5, none⟩ = some (.int .i64 f.mx) := (HX.out.keep HbX.out (by simp)).cell 5 rfl
              have Xx6 : v104.cell? ⟨px, 6, none⟩ = some (.int .i64 f.cd) := (HX.out.keep HbX.out (by simp)).cell 6 rfl
              have Xx7 : v104.cell? ⟨px, 7, none⟩ = some (.bool f.uni) := (HX.out.keep HbX.out (by simp)).cell 7 rfl
              have Xx8 : v104.cell? ⟨px, 8, none⟩ = some (.int .i64 f.dl) := (HX.out.keep HbX.out (by simp)).cell 8 rfl
              have Xx9 : v104.cell? ⟨px, 9, none⟩ = some (.slice ra f.rg.length rc) := (HX.out.keep HbX.out (by simp)).cell 9 rfl
              have Xx10 : v104.cell? ⟨px, 10, none⟩ = some (.int .i64 f.sq) := (HX.out.keep HbX.out (by simp)).cell 10 rfl
              have Xx11 : v104.cell? ⟨px, 11, none⟩ = some (.int .i64 f.rt) := (HX.out.keep HbX.out (by simp)).cell 11 rfl
              have Xx12 : v104.cell? ⟨px, 12, none⟩ = some (.string (strB f.cid)) := (HX.out.keep HbX.out (by simp)).cell 12 rfl
              go_wp2_with fail
              refine (a3 _).mono ?_
              rintro e v105 ⟨rfl, ho⟩
              clear Xx0 Xx1 Xx2 Xx3 Xx4 Xx5 Xx6 Xx7 Xx8 Xx9 Xx10 Xx11 Xx12
              replace HL := Lib.hid (HL.out.trans ho)
              replace HbX := Lib.hid (HbX.out.trans ho)
              clear ho
              have Xx0 : v105.cell? ⟨px, 0, none⟩ = some (.int .i64 1) := (HX.out.keep HbX.out (by simp)).cell 0 rfl
              have Xx1 : v105.cell? ⟨px, 1, none⟩ = some (.int .i64 f.st) := (HX.out.keep HbX.out (by simp)).cell 1 rfl
              have Xx2 : v105.cell? ⟨px, 2, none⟩ = some (.int .i64 f.off) := (HX.out.keep HbX.out (by simp)).cell 2 rfl
              have Xx3 : v105.cell? ⟨px, 3, none⟩ = some (.string (strB f.S)) := (HX.out.keep HbX.out (by simp)).cell 3 rfl
              have Xx4 : v105.cell? ⟨px, 4, none⟩ = some (.bool f.fin) := (HX.out.keep HbX.out (by simp)).cell 4 rfl
              have Xx5 : v105.cell? ⟨px, 5, none⟩ = some (.int .i64 f.mx) := (HX.out.keep HbX.out (by simp)).cell 5 rfl
              have Xx6 : v105.cell? ⟨px, 6, none⟩ = some (.int .i64 f.cd) := (HX.out.keep HbX.out (by simp)).cell 6 rfl
              have Xx7 : v105.cell? ⟨px, 7, none⟩ = some (.bool f.uni) := (HX.out.keep HbX.out (by simp)).cell 7 rfl
              have Xx8 : v105.cell? ⟨px, 8, none⟩ = some (.int .i64 f.dl) := (HX.out.keep HbX.out (by simp)).cell 8 rfl
              have Xx9 : v105.cell? ⟨px, 9, none⟩ = some (.slice ra f.rg.length rc) := (HX.out.keep HbX.out (by simp)).cell 9 rfl
              have Xx10 : v105.cell? ⟨px, 10, none⟩ = some (.int .i64 f.sq) := (HX.out.keep HbX.out (by simp)).cell 10 rfl
              have Xx11 : v105.cell? ⟨px, 11, none⟩ = some (.int .i64 f.rt) := (HX.out.keep HbX.out (by simp)).cell 11 rfl
              have Xx12 : v105.cell? ⟨px, 12, none⟩ = some (.string (strB f.cid)) := (HX.out.keep HbX.out (by simp)).cell 12 rfl
              go_wp2_with fail
              refine (a4 _).mono ?_
              rintro e v106 ⟨rfl, ho⟩
              clear Xx0 Xx1 Xx2 Xx3 Xx4 Xx5 Xx6 Xx7 Xx8 Xx9 Xx10 Xx11 Xx12
              replace HL := Lib.hid (HL.out.trans ho)
              replace HbX := Lib.hid (HbX.out.trans ho)
              clear ho
              have Xx0 : v106.cell? ⟨px, 0, none⟩ = some (.int .i64 1) := (HX.out.keep HbX.out (by simp)).cell 0 rfl
              go_wp2_with fail
              go_roundg 1
              case measure => omega
              case rel => exact ⟨1, rfl, by omega, rfl, HL⟩
          · as_aux_lemma =>
              have Xx0 : v104.cell? ⟨px, 0, none⟩ = some (.int .i64 28) := (HX.out.keep HbX.out (by simp)).cell 0 rfl
              have Xx1 : v104.cell? ⟨px, 1, none⟩ = some (.int .i64 f.st) := (HX.out.keep HbX.out (by simp)).cell 1 rfl
              have Xx2 : v104.cell? ⟨px, 2, none⟩ = some (.int .i64 f.off) := (HX.out.keep HbX.out (by simp)).cell 2 rfl
              have Xx3 : v104.cell? ⟨px, 3, none⟩ = some (.string (strB f.S)) := (HX.out.keep HbX.out (by simp)).cell 3 rfl
              have Xx4 : v104.cell? ⟨px, 4, none⟩ = some (.bool f.fin) := (HX.out.keep HbX.out (by simp)).cell 4 rfl
              have Xx5 : v104.cell? ⟨px, 5, none⟩ = some (.int .i64 f.mx) := (HX.out.keep HbX.out (by simp)).cell 5 rfl
              have Xx6 : v104.cell? ⟨px, 6, none⟩ = some (.int .i64 f.cd) := (HX.out.keep HbX.out (by simp)).cell 6 rfl
              have Xx7 : v104.cell? ⟨px, 7, none⟩ = some (.bool f.uni) := (HX.out.keep HbX.out (by simp)).cell 7 rfl
              have Xx8 : v104.cell? ⟨px, 8, none⟩ = some (.int .i64 f.dl) := (HX.out.keep HbX.out (by simp)).cell 8 rfl
              have Xx9 : v104.cell? ⟨px, 9, none⟩ = some (.slice ra f.rg.length rc) := (HX.out.keep HbX.out (by simp)).cell 9 rfl
              have Xx10 : v104.cell? ⟨px, 10, none⟩ = some (.int .i64 f.sq) := (HX.out.keep HbX.out (by simp)).cell 10 rfl
              have Xx11 : v104.cell? ⟨px, 11, none⟩ = some (.int .i64 f.rt) := (HX.out.keep HbX.out (by simp)).cell 11 rfl
              have Xx12 : v104.cell? ⟨px, 12, none⟩ = some (.string (strB f.cid)) := (HX.out.keep HbX.out (by simp)).cell 12 rfl
              go_wp2_with fail
              refine (a3 _).mono ?_
              rintro e v105 ⟨rfl, ho⟩
              clear Xx0 Xx1 Xx2 Xx3 Xx4 Xx5 Xx6 Xx7 Xx8 Xx9 Xx10 Xx11 Xx12
              replace HL := Lib.hid (HL.out.trans ho)
              replace HbX := Lib.hid (HbX.out.trans ho)
              clear ho
              have Xx0 : v105.cell? ⟨px, 0, none⟩ = some (.int .i64 28) := (HX.out.keep HbX.out (by simp)).cell 0 rfl
              have Xx1 : v105.cell? ⟨px, 1, none⟩ = some (.int .i64 f.st) := (HX.out.keep HbX.out (by simp)).cell 1 rfl
              have Xx2 : v105.cell? ⟨px, 2, none⟩ = some (.int .i64 f.off) := (HX.out.keep HbX.out (by simp)).cell 2 rfl
              have Xx3 : v105.cell? ⟨px, 3, none⟩ = some (.string (strB f.S)) := (HX.out.keep HbX.out (by simp)).cell 3 rfl
              have Xx4 : v105.cell? ⟨px, 4, none⟩ = some (.bool f.fin) := (HX.out.keep HbX.out (by simp)).cell 4 rfl
              have Xx5 : v105.cell? ⟨px, 5, none⟩ = some (.int .i64 f.mx) := (HX.out.keep HbX.out (by simp)).cell 5 rfl
              have Xx6 : v105.cell? ⟨px, 6, none⟩ = some (.int .i64 f.cd) := (HX.out.keep HbX.out (by simp)).cell 6 rfl
              have Xx7 : v105.cell? ⟨px, 7, none⟩ = some (.bool f.uni) := (HX.out.keep HbX.out (by simp)).cell 7 rfl
              have Xx8 : v105.cell? ⟨px, 8, none⟩ = some (.int .i64 f.dl) := (HX.out.keep HbX.out (by simp)).cell 8 rfl
              have Xx9 : v105.cell? ⟨px, 9, none⟩ = some (.slice ra f.rg.length rc) := (HX.out.keep HbX.out (by simp)).cell 9 rfl
              have Xx10 : v105.cell? ⟨px, 10, none⟩ = some (.int .i64 f.sq) := (HX.out.keep HbX.out (by simp)).cell 10 rfl
              have Xx11 : v105.cell? ⟨px, 11, none⟩ = some (.int .i64 f.rt) := (HX.out.keep HbX.out (by simp)).cell 11 rfl
              have Xx12 : v105.cell? ⟨px, 12, none⟩ = some (.string (strB f.cid)) := (HX.out.keep HbX.out (by simp)).cell 12 rfl
              go_wp2_with fail
              refine (a4 _).mono ?_
              rintro e v106 ⟨rfl, ho⟩
              clear Xx0 Xx1 Xx2 Xx3 Xx4 Xx5 Xx6 Xx7 Xx8 Xx9 Xx10 Xx11 Xx12
              replace HL := Lib.hid (HL.out.trans ho)
              replace HbX := Lib.hid (HbX.out.trans ho)
              clear ho
              have Xx0 : v106.cell? ⟨px, 0, none⟩ = some (.int .i64 28) := (HX.out.keep HbX.out (by simp)).cell 0 rfl
              go_wp2_with fail
              go_roundg 1
              case measure => omega
              case rel => exact ⟨1, rfl, by omega, rfl, HL⟩
        · as_aux_lemma =>
            have Xx0 : v104.cell? ⟨px, 0, none⟩ = some (.int .i64 T) := (HX.out.keep HbX.out (by simp)).cell 0 rfl
            have Xx1 : v104.cell? ⟨px, 1, none⟩ = some (.int .i64 f.st) := (HX.out.keep HbX.out (by simp)).cell 1 rfl
            have Xx2 : v104.cell? ⟨px, 2, none⟩ = some (.int .i64 f.off) := (HX.out.keep HbX.out (by simp)).cell 2 rfl
            have Xx3 : v104.cell? ⟨px, 3, none⟩ = some (.string (strB f.S)) := (HX.out.keep HbX.out (by simp)).cell 3 rfl
            have Xx4 : v104.cell? ⟨px, 4, none⟩ = some (.bool f.fin) := (HX.out.keep HbX.out (by simp)).cell 4 rfl
            have Xx5 : v104.cell? ⟨px, 5, none⟩ = some (.int .i64 f.mx) := (HX.out.keep HbX.out (by simp)).cell 5 rfl
            have Xx6 : v104.cell? ⟨px, 6, none⟩ = some (.int .i64 f.cd) := (HX.out.keep HbX.out (by simp)).cell 6 rfl
            have Xx7 : v104.cell? ⟨px, 7, none⟩ = some (.bool f.uni) := (HX.out.keep HbX.out (by simp)).cell 7 rfl
            have Xx8 : v104.cell? ⟨px, 8, none⟩ = some (.int .i64 f.dl) := (HX.out.keep HbX.out (by simp)).cell 8 rfl
            have Xx9 : v104.cell? ⟨px, 9, none⟩ = some (.slice ra f.rg.length rc) := (HX.out.keep HbX.out (by simp)).cell 9 rfl
            have Xx10 : v104.cell? ⟨px, 10, none⟩ = some (.int .i64 f.sq) := (HX.out.keep HbX.out (by simp)).cell 10 rfl
            have Xx11 : v104.cell? ⟨px, 11, none⟩ = some (.int .i64 f.rt) := (HX.out.keep HbX.out (by simp)).cell 11 rfl
            have Xx12 : v104.cell? ⟨px, 12, none⟩ = some (.string (strB f.cid)) := (HX.out.keep HbX.out (by simp)).cell 12 rfl
            go_wp2_with fail
            refine (a3 _).mono ?_
            rintro e v105 ⟨rfl, ho⟩
            clear Xx0 Xx1 Xx2 Xx3 Xx4 Xx5 Xx6 Xx7 Xx8 Xx9 Xx10 Xx11 Xx12
            replace HL := Lib.hid (HL.out.trans ho)
            replace HbX := Lib.hid (HbX.out.trans ho)
            clear ho
            have Xx0 : v105.cell? ⟨px, 0, none⟩ = some (.int .i64 T) := (HX.out.keep HbX.out (by simp)).cell 0 rfl
            have Xx1 : v105.cell? ⟨px, 1, none⟩ = some (.int .i64 f.st) := (HX.out.keep HbX.out (by simp)).cell 1 rfl
            have Xx2 : v105.cell? ⟨px, 2, none⟩ = some (.int .i64 f.off) := (HX.out.keep HbX.out (by simp)).cell 2 rfl
            have Xx3 : v105.cell? ⟨px, 3, none⟩ = some (.string (strB f.S)) := (HX.out.keep HbX.out (by simp)).cell 3 rfl
            have Xx4 : v105.cell? ⟨px, 4, none⟩ = some (.bool f.fin) := (HX.out.keep HbX.out (by simp)).cell 4 rfl
            have Xx5 : v105.cell? ⟨px, 5, none⟩ = some (.int .i64 f.mx) := (HX.out.keep HbX.out (by simp)).cell 5 rfl
            have Xx6 : v105.cell? ⟨px, 6, none⟩ = some (.int .i64 f.cd) := (HX.out.keep HbX.out (by simp)).cell 6 rfl
            have Xx7 : v105.cell? ⟨px, 7, none⟩ = some (.bool f.uni) := (HX.out.keep HbX.out (by simp)).cell 7 rfl
            have Xx8 : v105.cell? ⟨px, 8, none⟩ = some (.int .i64 f.dl) := (HX.out.keep HbX.out (by simp)).cell 8 rfl
            have Xx9 : v105.cell? ⟨px, 9, none⟩ = some (.slice ra f.rg.length rc) := (HX.out.keep HbX.out (by simp)).cell 9 rfl
            have Xx10 : v105.cell? ⟨px, 10, none⟩ = some (.int .i64 f.sq) := (HX.out.keep HbX.out (by simp)).cell 10 rfl
            have Xx11 : v105.cell? ⟨px, 11, none⟩ = some (.int .i64 f.rt) := (HX.out.keep HbX.out (by simp)).cell 11 rfl
            have Xx12 : v105.cell? ⟨px, 12, none⟩ = some (.string (strB f.cid)) := (HX.out.keep HbX.out (by simp)).cell 12 rfl
            go_wp2_with fail
            refine (a4 _).mono ?_
            rintro e v106 ⟨rfl, ho⟩
            clear Xx0 Xx1 Xx2 Xx3 Xx4 Xx5 Xx6 Xx7 Xx8 Xx9 Xx10 Xx11 Xx12
            replace HL := Lib.hid (HL.out.trans ho)
            replace HbX := Lib.hid (HbX.out.trans ho)
            clear ho
            have Xx0 : v106.cell? ⟨px, 0, none⟩ = some (.int .i64 T) := (HX.out.keep HbX.out (by simp)).cell 0 rfl
            go_wp2_with fail
            go_roundg 1
            case measure => omega
            case rel => exact ⟨1, rfl, by omega, rfl, HL⟩
        · as_aux_lemma =>
            have Xx0 : v104.cell? ⟨px, 0, none⟩ = some (.int .i64 T) := (HX.out.keep HbX.out (by simp)).cell 0 rfl
            have Xx1 : v104.cell? ⟨px, 1, none⟩ = some (.int .i64 f.st) := (HX.out.keep HbX.out (by simp)).cell 1 rfl
            have Xx2 : v104.cell? ⟨px, 2, none⟩ = some (.int .i64 f.off) := (HX.out.keep HbX.out (by simp)).cell 2 rfl
            have Xx3 : v104.cell? ⟨px, 3, none⟩ = some (.string (strB f.S)) := (HX.out.keep HbX.out (by simp)).cell 3 rfl
            have Xx4 : v104.cell? ⟨px, 4, none⟩ = some (.bool f.fin) := (HX.out.keep HbX.out (by simp)).cell 4 rfl
            have Xx5 : v104.cell? ⟨px, 5, none⟩ = some (.int .i64 f.mx) := (HX.out.keep HbX.out (by simp)).cell 5 rfl
            have Xx6 : v104.cell? ⟨px, 6, none⟩ = some (.int .i64 f.cd) := (HX.out.keep HbX.out (by simp)).cell 6 rfl
            have Xx7 : v104.cell? ⟨px, 7, none⟩ = some (.bool f.uni) := (HX.out.keep HbX.out (by simp)).cell 7 rfl
            have Xx8 : v104.cell? ⟨px, 8, none⟩ = some (.int .i64 f.dl) := (HX.out.keep HbX.out (by simp)).cell 8 rfl
            have Xx9 : v104.cell? ⟨px, 9, none⟩ = some (.slice ra f.rg.length rc) := (HX.out.keep HbX.out (by simp)).cell 9 rfl
            have Xx10 : v104.cell? ⟨px, 10, none⟩ = some (.int .i64 f.sq) := (HX.out.keep HbX.out (by simp)).cell 10 rfl
            have Xx11 : v104.cell? ⟨px, 11, none⟩ = some (.int .i64 f.rt) := (HX.out.keep HbX.out (by simp)).cell 11 rfl
            have Xx12 : v104.cell? ⟨px, 12, none⟩ = some (.string (strB f.cid)) := (HX.out.keep HbX.out (by simp)).cell 12 rfl
            go_wp2_with fail
            refine (a3 _).mono ?_
            rintro e v105 ⟨rfl, ho⟩
            clear Xx0 Xx1 Xx2 Xx3 Xx4 Xx5 Xx6 Xx7 Xx8 Xx9 Xx10 Xx11 Xx12
            replace HL := Lib.hid (HL.out.trans ho)
            replace HbX := Lib.hid (HbX.out.trans ho)
            clear ho
            have Xx0 : v105.cell? ⟨px, 0, none⟩ = some (.int .i64 T) := (HX.out.keep HbX.out (by simp)).cell 0 rfl
            have Xx1 : v105.cell? ⟨px, 1, none⟩ = some (.int .i64 f.st) := (HX.out.keep HbX.out (by simp)).cell 1 rfl
            have Xx2 : v105.cell? ⟨px, 2, none⟩ = some (.int .i64 f.off) := (HX.out.keep HbX.out (by simp)).cell 2 rfl
            have Xx3 : v105.cell? ⟨px, 3, none⟩ = some (.string (strB f.S)) := (HX.out.keep HbX.out (by simp)).cell 3 rfl
            have Xx4 : v105.cell? ⟨px, 4, none⟩ = some (.bool f.fin) := (HX.out.keep HbX.out (by simp)).cell 4 rfl
            have Xx5 : v105.cell? ⟨px, 5, none⟩ = some (.int .i64 f.mx) := (HX.out.keep HbX.out (by simp)).cell 5 rfl
            have Xx6 : v105.cell? ⟨px, 6, none⟩ = some (.int .i64 f.cd) := (HX.out.keep HbX.out (by simp)).cell 6 rfl
            have Xx7 : v105.cell? ⟨px, 7, none⟩ = some (.bool f.uni) := (HX.out.keep HbX.out (by simp)).cell 7 rfl
            have Xx8 : v105.cell? ⟨px, 8, none⟩ = some (.int .i64 f.dl) := (HX.out.keep HbX.out (by simp)).cell 8 rfl
            have Xx9 : v105.cell? ⟨px, 9, none⟩ = some (.slice ra f.rg.length rc) := (HX.out.keep HbX.out (by simp)).cell 9 rfl
            have Xx10 : v105.cell? ⟨px, 10, none⟩ = some (.int .i64 f.sq) := (HX.out.keep HbX.out (by simp)).cell 10 rfl
            have Xx11 : v105.cell? ⟨px, 11, none⟩ = some (.int .i64 f.rt) := (HX.out.keep HbX.out (by simp)).cell 11 rfl
            have Xx12 : v105.cell? ⟨px, 12, none⟩ = some (.string (strB f.cid)) := (HX.out.keep HbX.out (by simp)).cell 12 rfl
            go_wp2_with fail
            refine (a4 _).mono ?_
            rintro e v106 ⟨rfl, ho⟩
            clear Xx0 Xx1 Xx2 Xx3 Xx4 Xx5 Xx6 Xx7 Xx8 Xx9 Xx10 Xx11 Xx12
            replace HL := Lib.hid (HL.out.trans ho)
            replace HbX := Lib.hid (HbX.out.trans ho)
            clear ho
            have Xx0 : v106.cell? ⟨px, 0, none⟩ = some (.int .i64 T) := (HX.out.keep HbX.out (by simp)).cell 0 rfl
            go_wp2_with fail
            go_roundg 1
            case measure => omega
            case rel => exact ⟨1, rfl, by omega, rfl, HL⟩
    · as_aux_lemma =>
        have HL := hO
        have r0 : wr.cell? ⟨pr, 13, none⟩ = some (.int .i64 T) := ((HR.out.keep HbR.out (by simp)).keep HL.out (by simp)).cell 13 rfl
        have r1 : wr.cell? ⟨pr, 14, none⟩ = some (.int .i64 g.st) := ((HR.out.keep HbR.out (by simp)).keep HL.out (by simp)).cell 14 rfl
        have r2 : wr.cell? ⟨pr, 15, none⟩ = some (.int .i64 g.off) := ((HR.out.keep HbR.out (by simp)).keep HL.out (by simp)).cell 15 rfl
        have r3 : wr.cell? ⟨pr, 16, none⟩ = some (.string (strB g.S)) := ((HR.out.keep HbR.out (by simp)).keep HL.out (by simp)).cell 16 rfl
        have r4 : wr.cell? ⟨pr, 17, none⟩ = some (.bool g.fin) := ((HR.out.keep HbR.out (by simp)).keep HL.out (by simp)).cell 17 rfl
        have r5 : wr.cell? ⟨pr, 18, none⟩ = some (.int .i64 g.mx) := ((HR.out.keep HbR.out (by simp)).keep HL.out (by simp)).cell 18 rfl
        have r6 : wr.cell? ⟨pr, 19, none⟩ = some (.int .i64 g.cd) := ((HR.out.keep HbR.out (by simp)).keep HL.out (by simp)).cell 19 rfl
        have r7 : wr.cell? ⟨pr, 20, none⟩ = some (.bool g.uni) := ((HR.out.keep HbR.out (by simp)).keep HL.out (by simp)).cell 20 rfl
        have r8 : wr.cell? ⟨pr, 21, none⟩ = some (.int .i64 g.dl) := ((HR.out.keep HbR.out (by simp)).keep HL.out (by simp)).cell 21 rfl
        have r9 : wr.cell? ⟨pr, 22, none⟩ = some (.slice ga g.rg.length gc) := ((HR.out.keep HbR.out (by simp)).keep HL.out (by simp)).cell 22 rfl
        have r10 : wr.cell? ⟨pr, 23, none⟩ = some (.int .i64 g.sq) := ((HR.out.keep HbR.out (by simp)).keep HL.out (by simp)).cell 23 rfl
        have r11 : wr.cell? ⟨pr, 24, none⟩ = some (.int .i64 g.rt) := ((HR.out.keep HbR.out (by simp)).keep HL.out (by simp)).cell 24 rfl
        have r12 : wr.cell? ⟨pr, 25, none⟩ = some (.string (strB g.cid)) := ((HR.out.keep HbR.out (by simp)).keep HL.out (by simp)).cell 25 rfl
        go_upto_region 8 with fail
        clear r0 r1 r2 r3 r4 r5 r6 r7 r8 r9 r10 r11 r12 hO
        have hx := At.new wr 33 #[.int .i64 T, .int .i64 g.st, .int .i64 g.off, .string (strB g.S), .bool g.fin, .int .i64 g.mx, .int .i64 g.cd, .bool g.uni, .int .i64 g.dl, .slice ga g.rg.length gc, .int .i64 g.sq, .int .i64 g.rt, .string (strB g.cid)]
        replace HL := Lib.hid (HL.out.alloc (.cells #[.int .i64 T, .int .i64 g.st, .int .i64 g.off, .string (strB g.S), .bool g.fin, .int .i64 g.mx, .int .i64 g.cd, .bool g.uni, .int .i64 g.dl, .slice ga g.rg.length gc, .int .i64 g.sq, .int .i64 g.rt, .string (strB g.cid)] 33))
        have hszX : (wr.alloc (.cells #[.int .i64 T, .int .i64 g.st, .int .i64 g.off, .string (strB g.S), .bool g.fin, .int .i64 g.mx, .int .i64 g.cd, .bool g.uni, .int .i64 g.dl, .slice ga g.rg.length gc, .int .i64 g.sq, .int .i64 g.rt, .string (strB g.cid)] 33)).heap.size = wr.heap.size + 1 := by simp
        generalize wr.alloc (.cells #[.int .i64 T, .int .i64 g.st, .int .i64 g.off, .string (strB g.S), .bool g.fin, .int .i64 g.mx, .int .i64 g.cd, .bool g.uni, .int .i64 g.dl, .slice ga g.rg.length gc, .int .i64 g.sq, .int .i64 g.rt, .string (strB g.cid)] 33) = v101 at hx hszX HL ⊢
        generalize wr.heap.size = px at hx hszX  ⊢
        have HX := Lib.hid hx
        clear hx
        have HbX := Lib.hid (Only.refl [] v101)
        have Xx0 : v101.cell? ⟨px, 0, none⟩ = some (.int .i64 T) := (HX.out.keep HbX.out (by simp)).cell 0 rfl
        have Xx1 : v101.cell? ⟨px, 1, none⟩ = some (.int .i64 g.st) := (HX.out.keep HbX.out (by simp)).cell 1 rfl
        have Xx2 : v101.cell? ⟨px, 2, none⟩ = some (.int .i64 g.off) := (HX.out.keep HbX.out (by simp)).cell 2 rfl
        have Xx3 : v101.cell? ⟨px, 3, none⟩ = some (.string (strB g.S)) := (HX.out.keep HbX.out (by simp)).cell 3 rfl
        have Xx4 : v101.cell? ⟨px, 4, none⟩ = some (.bool g.fin) := (HX.out.keep HbX.out (by simp)).cell 4 rfl
        have Xx5 : v101.cell? ⟨px, 5, none⟩ = some (.int .i64 g.mx) := (HX.out.keep HbX.out (by simp)).cell 5 rfl
        have Xx6 : v101.cell? ⟨px, 6, none⟩ = some (.int .i64 g.cd) := (HX.out.keep HbX.out (by simp)).cell 6 rfl
        have Xx7 : v101.cell? ⟨px, 7, none⟩ = some (.bool g.uni) := (HX.out.keep HbX.out (by simp)).cell 7 rfl
        have Xx8 : v101.cell? ⟨px, 8, none⟩ = some (.int .i64 g.dl) := (HX.out.keep HbX.out (by simp)).cell 8 rfl
        have Xx9 : v101.cell? ⟨px, 9, none⟩ = some (.slice ga g.rg.length gc) := (HX.out.keep HbX.out (by simp)).cell 9 rfl
        have Xx10 : v101.cell? ⟨px, 10, none⟩ = some (.int .i64 g.sq) := (HX.out.keep HbX.out (by simp)).cell 10 rfl
        have Xx11 : v101.cell? ⟨px, 11, none⟩ = some (.int .i64 g.rt) := (HX.out.keep HbX.out (by simp)).cell 11 rfl
        have Xx12 : v101.cell? ⟨px, 12, none⟩ = some (.string (strB g.cid)) := (HX.out.keep HbX.out (by simp)).cell 12 rfl
        go_wp2_with fail
        refine (b0 _).mono ?_
        rintro e v102 ⟨rfl, ho⟩
        clear Xx0 Xx1 Xx2 Xx3 Xx4 Xx5 Xx6 Xx7 Xx8 Xx9 Xx10 Xx11 Xx12
        replace HL := Lib.hid (HL.out.trans ho)
        replace HbX := Lib.hid (HbX.out.trans ho)
        clear ho
        have Xx0 : v102.cell? ⟨px, 0, none⟩ = some (.int .i64 T) := (HX.out.keep HbX.out (by simp)).cell 0 rfl
        have Xx1 : v102.cell? ⟨px, 1, none⟩ = some (.int .i64 g.st) := (HX.out.keep HbX.out (by simp)).cell 1 rfl
        have Xx2 : v102.cell? ⟨px, 2, none⟩ = some (.int .i64 g.off) := (HX.out.keep HbX.out (by simp)).cell 2 rfl
        have Xx3 : v102.cell? ⟨px, 3, none⟩ = some (.string (strB g.S)) := (HX.out.keep HbX.out (by simp)).cell 3 rfl
        have Xx4 : v102.cell? ⟨px, 4, none⟩ = some (.bool g.fin) := (HX.out.keep HbX.out (by simp)).cell 4 rfl
        have Xx5 : v102.cell? ⟨px, 5, none⟩ = some (.int .i64 g.mx) := (HX.out.keep HbX.out (by simp)).cell 5 rfl
        have Xx6 : v102.cell? ⟨px, 6, none⟩ = some (.int .i64 g.cd) := (HX.out.keep HbX.out (by simp)).cell 6 rfl
        have Xx7 : v102.cell? ⟨px, 7, none⟩ = some (.bool g.uni) := (HX.out.keep HbX.out (by simp)).cell 7 rfl
        have Xx8 : v102.cell? ⟨px, 8, none⟩ = some (.int .i64 g.dl) := (HX.out.keep HbX.out (by simp)).cell 8 rfl
        have Xx9 : v102.cell? ⟨px, 9, none⟩ = some (.slice ga g.rg.length gc) := (HX.out.keep HbX.out (by simp)).cell 9 rfl
        have Xx10 : v102.cell? ⟨px, 10, none⟩ = some (.int .i64 g.sq) := (HX.out.keep HbX.out (by simp)).cell 10 rfl
        have Xx11 : v102.cell? ⟨px, 11, none⟩ = some (.int .i64 g.rt) := (HX.out.keep HbX.out (by simp)).cell 11 rfl
        have Xx12 : v102.cell? ⟨px, 12, none⟩ = some (.string (strB g.cid)) := (HX.out.keep HbX.out (by simp)).cell 12 rfl
        go_wp2_with fail
        refine (b2 _).mono ?_
        rintro e v103 ⟨rfl, ho⟩
        clear Xx0 Xx1 Xx2 Xx3 Xx4 Xx5 Xx6 Xx7 Xx8 Xx9 Xx10 Xx11 Xx12
        replace HL := Lib.hid (HL.out.trans ho)
        replace HbX := Lib.hid (HbX.out.trans ho)
        clear ho
        have Xx0 : v103.cell? ⟨px, 0, none⟩ = some (.int .i64 T) := (HX.out.keep HbX.out (by simp)).cell 0 rfl
        have Xx1 : v103.cell? ⟨px, 1, none⟩ = some (.int .i64 g.st) := (HX.out.keep HbX.out (by simp)).cell 1 rfl
        have Xx2 : v103.cell? ⟨px, 2, none⟩ = some (.int .i64 g.off) := (HX.out.keep HbX.out (by simp)).cell 2 rfl
        have Xx3 : v103.cell? ⟨px, 3, none⟩ = some (.string (strB g.S)) := (HX.out.keep HbX.out (by simp)).cell 3 rfl
        have Xx4 : v103.cell? ⟨px, 4, none⟩ = some (.bool g.fin) := (HX.out.keep HbX.out (by simp)).cell 4 rfl
        have Xx5 : v103.cell? ⟨px, 5, none⟩ = some (.int .i64 g.mx) := (HX.out.keep HbX.out (by simp)).cell 5 rfl
        have Xx6 : v103.cell? ⟨px, 6, none⟩ = some (.int .i64 g.cd) := (HX.out.keep HbX.out (by simp)).cell 6 rfl
        have Xx7 : v103.cell? ⟨px, 7, none⟩ = some (.bool g.uni) := (HX.out.keep HbX.out (by simp)).cell 7 rfl
        have Xx8 : v103.cell? ⟨px, 8, none⟩ = some (.int .i64 g.dl) := (HX.out.keep HbX.out (by simp)).cell 8 rfl
        have Xx9 : v103.cell? ⟨px, 9, none⟩ = some (.slice ga g.rg.length gc) := (HX.out.keep HbX.out (by simp)).cell 9 rfl
        have Xx10 : v103.cell? ⟨px, 10, none⟩ = some (.int .i64 g.sq) := (HX.out.keep HbX.out (by simp)).cell 10 rfl
        have Xx11 : v103.cell? ⟨px, 11, none⟩ = some (.int .i64 g.rt) := (HX.out.keep HbX.out (by simp)).cell 11 rfl
        have Xx12 : v103.cell? ⟨px, 12, none⟩ = some (.string (strB g.cid)) := (HX.out.keep HbX.out (by simp)).cell 12 rfl
        go_wp2_with fail
        refine (b1 _).mono ?_
        rintro e v104 ⟨rfl, ho⟩
        clear Xx0 Xx1 Xx2 Xx3 Xx4 Xx5 Xx6 Xx7 Xx8 Xx9 Xx10 Xx11 Xx12
        replace HL := Lib.hid (HL.out.trans ho)
        replace HbX := Lib.hid (HbX.out.trans ho)
        clear ho
        rcases HC.out with ⟨rfl, rfl, hT3⟩ | ⟨rfl, rfl⟩ | rfl
        · rcases hT3 with rfl | rfl | rfl
          · as_aux_lemma =>
              have Xx0 : v104.cell? ⟨px, 0, none⟩ = some (.int .i64 0) := (HX.out.keep HbX.out (by simp)).cell 0 rfl
              have Xx1 : v104.cell? ⟨px, 1, none⟩ = some (.int .i64 g.st) := (HX.out.keep HbX.out (by simp)).cell 1 rfl
              have Xx2 : v104.cell? ⟨px, 2, none⟩ = some (.int .i64 g.off) := (HX.out.keep HbX.out (by simp)).cell 2 rfl
              have Xx3 : v104.cell? ⟨px, 3, none⟩ = some (.string (strB g.S)) := (HX.out.keep HbX.out (by simp)).cell 3 rfl
              have Xx4 : v104.cell? ⟨px, 4, none⟩ = some (.bool g.fin) := (HX.out.keep HbX.out (by simp)).cell 4 rfl
              have Xx5 : v104.cell? ⟨px, 5, none⟩ = some (.int .i64 g.mx) := (HX.out.keep HbX.out (by simp)).cell 5 rfl
              have Xx6 : v104.cell? ⟨px, 6, none⟩ = some (.int .i64 g.cd) := (HX.out.keep HbX.out (by simp)).cell 6 rfl
              have Xx7 : v104.cell? ⟨px, 7, none⟩ = some (.bool g.uni) := (HX.out.keep HbX.out (by simp)).cell 7 rfl
              have Xx8 : v104.cell? ⟨px, 8, none⟩ = some (.int .i64 g.dl) := (HX.out.keep HbX.out (by simp)).cell 8 rfl
              have Xx9 : v104.cell? ⟨px, 9, none⟩ = some (.slice ga g.rg.length gc) := (HX.out.keep HbX.out (by simp)).cell 9 rfl
              have Xx10 : v104.cell? ⟨px, 10, none⟩ = some (.int .i64 g.sq) := (HX.out.keep HbX.out (by simp)).cell 10 rfl
              have Xx11 : v104.cell? ⟨px, 11, none⟩ = some (.int .i64 g.rt) := (HX.out.keep HbX.out (by simp)).cell 11 rfl
              have Xx12 : v104.cell? ⟨px, 12, none⟩ = some (.string (strB g.cid)) := (HX.out.keep HbX.out (by simp)).cell 12 rfl
              go_wp2_with fail
              refine (b3 _).mono ?_
              rintro e v105 ⟨rfl, ho⟩
              clear Xx0 Xx1 Xx2 Xx3 Xx4 Xx5 Xx6 Xx7 Xx8 Xx9 Xx10 Xx11 Xx12
              replace HL := Lib.hid (HL.out.trans ho)
              replace HbX := Lib.hid (HbX.out.trans ho)
              clear ho
              have Xx0 : v105.cell? ⟨px, 0, none⟩ = some (.int .i64 0) := (HX.out.keep HbX.out (by simp)).cell 0 rfl
              have Xx1 : v105.cell? ⟨px, 1, none⟩ = some (.int .i64 g.st) := (HX.out.keep HbX.out (by simp)).cell 1 rfl
              have Xx2 : v105.cell? ⟨px, 2, none⟩ = some (.int .i64 g.off) := (HX.out.keep HbX.out (by simp)).cell 2 rfl
              have Xx3 : v105.cell? ⟨px, 3, none⟩ = some (.string (strB g.S)) := (HX.out.keep HbX.out (by simp)).cell 3 rfl
              have Xx4 : v105.cell? ⟨px, 4, none⟩ = some (.bool g.fin) := (HX.out.keep HbX.out (by simp)).cell 4 rfl
              have Xx5 : v105.cell? ⟨px, 5, none⟩ = some (.int .i64 g.mx) := (HX.out.keep HbX.out (by simp)).cell 5 rfl
              have Xx6 : v105.cell? ⟨px, 6, none⟩ = some (.int .i64 g.cd) := (HX.out.keep HbX.out (by simp)).cell 6 rfl
              have Xx7 : v105.cell? ⟨px, 7, none⟩ = some (.bool g.uni) := (HX.out.keep HbX.out (by simp)).cell 7 rfl
              have Xx8 : v105.cell? ⟨px, 8, none⟩ = some (.int .i64 g.dl) := (HX.out.keep HbX.out (by simp)).cell 8 rfl
              have Xx9 : v105.cell? ⟨px, 9, none⟩ = some (.slice ga g.rg.length gc) := (HX.out.keep HbX.out (by simp)).cell 9 rfl
              have Xx10 : v105.cell? ⟨px, 10, none⟩ = some (.int .i64 g.sq) := (HX.out.keep HbX.out (by simp)).cell 10 rfl
              have Xx11 : v105.cell? ⟨px, 11, none⟩ = some (.int .i64 g.rt) := (HX.out.keep HbX.out (by simp)).cell 11 rfl
              have Xx12 : v105.cell? ⟨px, 12, none⟩ = some (.string (strB g.cid)) := (HX.out.keep HbX.out (by simp)).cell 12 rfl
              go_wp2_with fail
              refine (b4 _).mono ?_
              rintro e v106 ⟨rfl, ho⟩
              clear Xx0 Xx1 Xx2 Xx3 Xx4 Xx5 Xx6 Xx7 Xx8 Xx9 Xx10 Xx11 Xx12
              replace HL := Lib.hid (HL.out.trans ho)
              replace HbX := Lib.hid (HbX.out.trans ho)
              clear ho
              have Xx0 : v106.cell? ⟨px, 0, none⟩ = some (.int .i64 0) := (HX.out.keep HbX.out (by simp)).cell 0 rfl
              go_wp2_with fail
              go_roundg 0
              case measure => omega
              case rel => exact ⟨2, rfl, by omega, rfl, HL⟩
          · as_aux_lemma =>
              have Xx0 : v104.cell? ⟨px, 0, none⟩ = some (.int .i64 1) := (HX.out.keep HbX.out (by simp)).cell 0 rfl
              have Xx1 : v104.cell? ⟨px, 1, none⟩ = some (.int .i64 g.st) := (HX.out.keep HbX.out (by simp)).cell 1 rfl
              have Xx2 : v104.cell? ⟨px, 2, none⟩ = some (.int .i64 g.off) := (HX.out.keep HbX.out (by simp)).cell 2 rfl
              have Xx3 : v104.cell? ⟨px, 3, none⟩ = some (.string (strB g.S)) := (HX.out.keep HbX.out (by simp)).cell 3 rfl
              have Xx4 : v104.cell? ⟨px, 4, none⟩ = some (.bool g.fin) := (HX.out.keep HbX.out (by simp)).cell 4 rfl
              have Xx5 : v104.cell? ⟨px, 5, none⟩ = some (.int .i64 g.mx) := (HX.out.keep HbX.out (by simp)).cell 5 rfl
              have Xx6 : v104.cell? ⟨px, 6, none⟩ = some (.int .i64 g.cd) := (HX.out.keep HbX.out (by simp)).cell 6 rfl
              have Xx7 : v104.cell? ⟨px, 7, none⟩ = some (.bool g.uni) := (HX.out.keep HbX.out (by simp)).cell 7 rfl
              have Xx8 : v104.cell? ⟨px, 8, none⟩ = some (.int .i64 g.dl) := (HX.out.keep HbX.out (by simp)).cell 8 rfl
              have Xx9 : v104.cell? ⟨px, 9, none⟩ = some (.slice ga g.rg.length gc) := (HX.out.keep HbX.out (by simp)).cell 9 rfl
              have Xx10 : v104.cell? ⟨px, 10, none⟩ = some (.int .i64 g.sq) := (HX.out.keep HbX.out (by simp)).cell 10 rfl
              have Xx11 : v104.cell? ⟨px, 11, none⟩ = some (.int .i64 g.rt) := (HX.out.keep HbX.out (by simp)).cell 11 rfl
              have Xx12 : v104.cell? ⟨px, 12, none⟩ = some (.string (strB g.cid)) := (HX.out.keep HbX.out (by simp)).cell 12 rfl
              go_wp2_with fail
              refine (b3 _).mono ?_
              rintro e v105 ⟨rfl, ho⟩
              clear Xx0 Xx1 Xx2 Xx3 Xx4 Xx5 Xx6 Xx7 Xx8 Xx9 Xx10 Xx11 Xx12
              replace HL := Lib.hid (HL.out.trans ho)
              replace HbX := Lib.hid (HbX.out.trans ho)
              clear ho
              have Xx0 : v105.cell? ⟨px, 0, none⟩ = some (.int .i64 1) := (HX.out.keep HbX.out (by simp)).cell 0 rfl
              have Xx1 : v105.cell? ⟨px, 1, none⟩ = some (.int .i64 g.st) := (HX.out.keep HbX.out (by simp)).cell 1 rfl
              have Xx2 : v105.cell? ⟨px, 2, none⟩ = some (.int .i64 g.off) := (HX.out.keep HbX.out (by simp)).cell 2 rfl
              have Xx3 : v105.cell? ⟨px, 3, none⟩ = some (.string (strB g.S)) := (HX.out.keep HbX.out (by simp)).cell 3 rfl
              have Xx4 : v105.cell? ⟨px, 4, none⟩ = some (.bool g.fin) := (HX.out.keep HbX.out (by simp)).cell 4 rfl
              have Xx5 : v105.cell? ⟨px, 5, none⟩ = some (.int .i64 g.mx) := (HX.out.keep HbX.out (by simp)).cell 5 rfl
              have Xx6 : v105.cell? ⟨px, 6, none⟩ = some (.int .i64 g.cd) := (HX.out.keep HbX.out (by simp)).cell 6 rfl
              have Xx7 : v105.cell? ⟨px, 7, none⟩ = some (.bool g.uni) := (HX.out.keep HbX.out (by simp)).cell 7 rfl
              have Xx8 : v105.cell? ⟨px, 8, none⟩ = some (.int .i64 g.dl) := (HX.out.keep HbX.out (by simp)).cell 8 rfl
              have Xx9 : v105.cell? ⟨px, 9, none⟩ = some (.slice ga g.rg.length gc) := (HX.out.keep HbX.out (by simp)).cell 9 rfl
              have Xx10 : v105.cell? ⟨px, 10, none⟩ = some (.int .i64 g.sq) := (HX.out.keep HbX.out (by simp)).cell 10 rfl
              have Xx11 : v105.cell? ⟨px, 11, none⟩ = some (.int .i64 g.rt) := (HX.out.keep HbX.out (by simp)).cell 11 rfl
              have Xx12 : v105.cell? ⟨px, 12, none⟩ = some (.string (strB g.cid)) := (HX.out.keep HbX.out (by simp)).cell 12 rfl
              go_wp2_with fail
              refine (b4 _).mono ?_
              rintro e v106 ⟨rfl, ho⟩
              clear Xx0 Xx1 Xx2 Xx3 Xx4 Xx5 Xx6 Xx7 Xx8 Xx9 Xx10 Xx11 Xx12
              replace HL := Lib.hid (HL.out.trans ho)
              replace HbX := Lib.hid (HbX.out.trans ho)
              clear ho
              have Xx0 : v106.cell? ⟨px, 0, none⟩ = some (.int .i64 1) := (HX.out.keep HbX.out (by simp)).cell 0 rfl
              go_wp2_with fail
              go_roundg 0
              case measure => omega
              case rel => exact ⟨2, rfl, by omega, rfl, HL⟩
          · as_aux_lemma =>
              have Xx0 : v104.cell? ⟨px, 0, none⟩ = some (.int .i64 28) := (HX.out.keep HbX.out (by simp)).cell 0 rfl
              have Xx1 : v104.cell? ⟨px, 1, none⟩ = some (.int .i64 g.st) := (HX.out.keep HbX.out (by simp)).cell 1 rfl
              have Xx2 : v104.cell? ⟨px, 2, none⟩ = some (.int .i64 g.off) := (HX.out.keep HbX.out (by simp)).cell 2 rfl
              have Xx3 : v104.cell? ⟨px, 3, none⟩ = some (.string (strB g.S)) := (HX.out.keep HbX.out (by simp)).cell 3 rfl
              have Xx4 : v104.cell? ⟨px, 4, none⟩ = some (.bool g.fin) := (HX.out.keep HbX.out (by simp)).cell 4 rfl
              have Xx5 : v104.cell? ⟨px, 5, none⟩ = some (.int .i64 g.mx) := (HX.out.keep HbX.out (by simp)).cell 5 rfl
              have Xx6 : v104.cell? ⟨px, 6, none⟩ = some (.int .i64 g.cd) := (HX.out.keep HbX.out (by simp)).cell 6 rfl
              have Xx7 : v104.cell? ⟨px, 7, none⟩ = some (.bool g.uni) := (HX.out.keep HbX.out (by simp)).cell 7 rfl
              have Xx8 : v104.cell? ⟨px, 8, none⟩ = some (.int .i64 g.dl) := (HX.out.keep HbX.out (by simp)).cell 8 rfl
              have Xx9 : v104.cell? ⟨px, 9, none⟩ = some (.slice ga g.rg.length gc) := (HX.out.keep HbX.out (by simp)).cell 9 rfl
              have Xx10 : v104.cell? ⟨px, 10, none⟩ = some (.int .i64 g.sq) := (HX.out.keep HbX.out (by simp)).cell 10 rfl
              have Xx11 : v104.cell? ⟨px, 11, none⟩ = some (.int .i64 g.rt) := (HX.out.keep HbX.out (by simp)).cell 11 rfl
              have Xx12 : v104.cell? ⟨px, 12, none⟩ = some (.string (strB g.cid)) := (HX.out.keep HbX.out (by simp)).cell 12 rfl
              go_wp2_with fail
              refine (b3 _).mono ?_
              rintro e v105 ⟨rfl, ho⟩
              clear Xx0 Xx1 Xx2 Xx3 Xx4 Xx5 Xx6 Xx7 Xx8 Xx9 Xx10 Xx11 Xx12
              replace HL := Lib.hid (HL.out.trans ho)
              replace HbX := Lib.hid (HbX.out.trans ho)
              clear ho
              have Xx0 : v105.cell? ⟨px, 0, none⟩ = some (.int .i64 28) := (HX.out.keep HbX.out (by simp)).cell 0 rfl
              have Xx1 : v105.cell? ⟨px, 1, none⟩ = some (.int .i64 g.st) := (HX.out.keep HbX.out (by simp)).cell 1 rfl
              have Xx2 : v105.cell? ⟨px, 2, none⟩ = some (.int .i64 g.off) := (HX.out.keep HbX.out (by simp)).cell 2 rfl
              have Xx3 : v105.cell? ⟨px, 3, none⟩ = some (.string (strB g.S)) := (HX.out.keep HbX.out (by simp)).cell 3 rfl
              have Xx4 : v105.cell? ⟨px, 4, none⟩ = some (.bool g.fin) := (HX.out.keep HbX.out (by simp)).cell 4 rfl
              have Xx5 : v105.cell? ⟨px, 5, none⟩ = some (.int .i64 g.mx) := (HX.out.keep HbX.out (by simp)).cell 5 rfl
              have Xx6 : v105.cell? ⟨px, 6, none⟩ = some (.int .i64 g.cd) := (HX.out.keep HbX.out (by simp)).cell 6 rfl
              have Xx7 : v105.cell? ⟨px, 7, none⟩ = some (.bool g.uni) := (HX.out.keep HbX.out (by simp)).cell 7 rfl
              have Xx8 : v105.cell? ⟨px, 8, none⟩ = some (.int .i64 g.dl) := (HX.out.keep HbX.out (by simp)).cell 8 rfl
              have Xx9 : v105.cell? ⟨px, 9, none⟩ = some (.slice ga g.rg.length gc) := (HX.out.keep HbX.out (by simp)).cell 9 rfl
              have Xx10 : v105.cell? ⟨px, 10, none⟩ = some (.int .i64 g.sq) := (HX.out.keep HbX.out (by simp)).cell 10 rfl
              have Xx11 : v105.cell? ⟨px, 11, none⟩ = some (.int .i64 g.rt) := (HX.out.keep HbX.out (by simp)).cell 11 rfl
              have Xx12 : v105.cell? ⟨px, 12, none⟩ = some (.string (strB g.cid)) := (HX.out.keep HbX.out (by simp)).cell 12 rfl
              go_wp2_with fail
              refine (b4 _).mono ?_
              rintro e v106 ⟨rfl, ho⟩
              clear Xx0 Xx1 Xx2 Xx3 Xx4 Xx5 Xx6 Xx7 Xx8 Xx9 Xx10 Xx11 Xx12
              replace HL := Lib.hid (HL.out.trans ho)
              replace HbX := Lib.hid (HbX.out.trans ho)
              clear ho
              have Xx0 : v106.cell? ⟨px, 0, none⟩ = some (.int .i64 28) := (HX.out.keep HbX.out (by simp)).cell 0 rfl
              go_wp2_with fail
              go_roundg 0
              case measure => omega
              case rel => exact ⟨2, rfl, by omega, rfl, HL⟩
        · as_aux_lemma =>
            have Xx0 : v104.cell? ⟨px, 0, none⟩ = some (.int .i64 T) := (HX.out.keep HbX.out (by simp)).cell 0 rfl
            have Xx1 : v104.cell? ⟨px, 1, none⟩ = some (.int .i64 g.st) := (HX.out.keep HbX.out (by simp)).cell 1 rfl
            have Xx2 : v104.cell? ⟨px, 2, none⟩ = some (.int .i64 g.off) := (HX.out.keep HbX.out (by simp)).cell 2 rfl
            have Xx3 : v104.cell? ⟨px, 3, none⟩ = some (.string (strB g.S)) := (HX.out.keep HbX.out (by simp)).cell 3 rfl
            have Xx4 : v104.cell? ⟨px, 4, none⟩ = some (.bool g.fin) := (HX.out.keep HbX.out (by simp)).cell 4 rfl
            have Xx5 : v104.cell? ⟨px, 5, none⟩ = some (.int .i64 g.mx) := (HX.out.keep HbX.out (by simp)).cell 5 rfl
            have Xx6 : v104.cell? ⟨px, 6, none⟩ = some (.int .i64 g.cd) := (HX.out.keep HbX.out (by simp)).cell 6 rfl
            have Xx7 : v104.cell? ⟨px, 7, none⟩ = some (.bool g.uni) := (HX.out.keep HbX.out (by simp)).cell 7 rfl
            have Xx8 : v104.cell? ⟨px, 8, none⟩ = some (.int .i64 g.dl) := (HX.out.keep HbX.out (by simp)).cell 8 rfl
            have Xx9 : v104.cell? ⟨px, 9, none⟩ = some (.slice ga g.rg.length gc) := (HX.out.keep HbX.out (by simp)).cell 9 rfl
            have Xx10 : v104.cell? ⟨px, 10, none⟩ = some (.int .i64 g.sq) := (HX.out.keep HbX.out (by simp)).cell 10 rfl
            have Xx11 : v104.cell? ⟨px, 11, none⟩ = some (.int .i64 g.rt) := (HX.out.keep HbX.out (by simp)).cell 11 rfl
            have Xx12 : v104.cell? ⟨px, 12, none⟩ = some (.string (strB g.cid)) := (HX.out.keep HbX.out (by simp)).cell 12 rfl
            go_wp2_with fail
            refine (b3 _).mono ?_
            rintro e v105 ⟨rfl, ho⟩
            clear Xx0 Xx1 Xx2 Xx3 Xx4 Xx5 Xx6 Xx7 Xx8 Xx9 Xx10 Xx11 Xx12
            replace HL := Lib.hid (HL.out.trans ho)
            replace HbX := Lib.hid (HbX.out.trans ho)
            clear ho
            have Xx0 : v105.cell? ⟨px, 0, none⟩ = some (.int .i64 T) := (HX.out.keep HbX.out (by simp)).cell 0 rfl
            have Xx1 : v105.cell? ⟨px, 1, none⟩ = some (.int .i64 g.st) := (HX.out.keep HbX.out (by simp)).cell 1 rfl
            have Xx2 : v105.cell? ⟨px, 2, none⟩ = some (.int .i64 g.off) := (HX.out.keep HbX.out (by simp)).cell 2 rfl
            have Xx3 : v105.cell? ⟨px, 3, none⟩ = some (.string (strB g.S)) := (HX.out.keep HbX.out (by simp)).cell 3 rfl
            have Xx4 : v105.cell? ⟨px, 4, none⟩ = some (.bool g.fin) := (HX.out.keep HbX.out (by simp)).cell 4 rfl
            have Xx5 : v105.cell? ⟨px, 5, none⟩ = some (.int .i64 g.mx) := (HX.out.keep HbX.out (by simp)).cell 5 rfl
            have Xx6 : v105.cell? ⟨px, 6, none⟩ = some (.int .i64 g.cd) := (HX.out.keep HbX.out (by simp)).cell 6 rfl
            have Xx7 : v105.cell? ⟨px, 7, none⟩ = some (.bool g.uni) := (HX.out.keep HbX.out (by simp)).cell 7 rfl
            have Xx8 : v105.cell? ⟨px, 8, none⟩ = some (.int .i64 g.dl) := (HX.out.keep HbX.out (by simp)).cell 8 rfl
            have Xx9 : v105.cell? ⟨px, 9, none⟩ = some (.slice ga g.rg.length gc) := (HX.out.keep HbX.out (by simp)).cell 9 rfl
            have Xx10 : v105.cell? ⟨px, 10, none⟩ = some (.int .i64 g.sq) := (HX.out.keep HbX.out (by simp)).cell 10 rfl
            have Xx11 : v105.cell? ⟨px, 11, none⟩ = some (.int .i64 g.rt) := (HX.out.keep HbX.out (by simp)).cell 11 rfl
            have Xx12 : v105.cell? ⟨px, 12, none⟩ = some (.string (strB g.cid)) := (HX.out.keep HbX.out (by simp)).cell 12 rfl
            go_wp2_with fail
            refine (b4 _).mono ?_
            rintro e v106 ⟨rfl, ho⟩
            clear Xx0 Xx1 Xx2 Xx3 Xx4 Xx5 Xx6 Xx7 Xx8 Xx9 Xx10 Xx11 Xx12
            replace HL := Lib.hid (HL.out.trans ho)
            replace HbX := Lib.hid (HbX.out.trans ho)
            clear ho
            have Xx0 : v106.cell? ⟨px, 0, none⟩ = some (.int .i64 T) := (HX.out.keep HbX.out (by simp)).cell 0 rfl
            go_wp2_with fail
            go_roundg 0
            case measure => omega
            case rel => exact ⟨2, rfl, by omega, rfl, HL⟩
        · as_aux_lemma =>
            have Xx0 : v104.cell? ⟨px, 0, none⟩ = some (.int .i64 T) := (HX.out.keep HbX.out (by simp)).cell 0 rfl
            have Xx1 : v104.cell? ⟨px, 1, none⟩ = some (.int .i64 g.st) := (HX.out.keep HbX.out (by simp)).cell 1 rfl
            have Xx2 : v104.cell? ⟨px, 2, none⟩ = some (.int .i64 g.off) := (HX.out.keep HbX.out (by simp)).cell 2 rfl
            have Xx3 : v104.cell? ⟨px, 3, none⟩ = some (.string (strB g.S)) := (HX.out.keep HbX.out (by simp)).cell 3 rfl
            have Xx4 : v104.cell? ⟨px, 4, none⟩ = some (.bool g.fin) := (HX.out.keep HbX.out (by simp)).cell 4 rfl
            have Xx5 : v104.cell? ⟨px, 5, none⟩ = some (.int .i64 g.mx) := (HX.out.keep HbX.out (by simp)).cell 5 rfl
            have Xx6 : v104.cell? ⟨px, 6, none⟩ = some (.int .i64 g.cd) := (HX.out.keep HbX.out (by simp)).cell 6 rfl
            have Xx7 : v104.cell? ⟨px, 7, none⟩ = some (.bool g.uni) := (HX.out.keep HbX.out (by simp)).cell 7 rfl
            have Xx8 : v104.cell? ⟨px, 8, none⟩ = some (.int .i64 g.dl) := (HX.out.keep HbX.out (by simp)).cell 8 rfl
            have Xx9 : v104.cell? ⟨px, 9, none⟩ = some (.slice ga g.rg.length gc) := (HX.out.keep HbX.out (by simp)).cell 9 rfl
            have Xx10 : v104.cell? ⟨px, 10, none⟩ = some (.int .i64 g.sq) := (HX.out.keep HbX.out (by simp)).cell 10 rfl
            have Xx11 : v104.cell? ⟨px, 11, none⟩ = some (.int .i64 g.rt) := (HX.out.keep HbX.out (by simp)).cell 11 rfl
            have Xx12 : v104.cell? ⟨px, 12, none⟩ = some (.string (strB g.cid)) := (HX.out.keep HbX.out (by simp)).cell 12 rfl
            go_wp2_with fail
            refine (b3 _).mono ?_
            rintro e v105 ⟨rfl, ho⟩
            clear Xx0 Xx1 Xx2 Xx3 Xx4 Xx5 Xx6 Xx7 Xx8 Xx9 Xx10 Xx11 Xx12
            replace HL := Lib.hid (HL.out.trans ho)
            replace HbX := Lib.hid (HbX.out.trans ho)
            clear ho
            have Xx0 : v105.cell? ⟨px, 0, none⟩ = some (.int .i64 T) := (HX.out.keep HbX.out (by simp)).cell 0 rfl
            have Xx1 : v105.cell? ⟨px, 1, none⟩ = some (.int .i64 g.st) := (HX.out.keep HbX.out (by simp)).cell 1 rfl
            have Xx2 : v105.cell? ⟨px, 2, none⟩ = some (.int .i64 g.off) := (HX.out.keep HbX.out (by simp)).cell 2 rfl
            have Xx3 : v105.cell? ⟨px, 3, none⟩ = some (.string (strB g.S)) := (HX.out.keep HbX.out (by simp)).cell 3 rfl
            have Xx4 : v105.cell? ⟨px, 4, none⟩ = some (.bool g.fin) := (HX.out.keep HbX.out (by simp)).cell 4 rfl
            have Xx5 : v105.cell? ⟨px, 5, none⟩ = some (.int .i64 g.mx) := (HX.out.keep HbX.out (by simp)).cell 5 rfl
            have Xx6 : v105.cell? ⟨px, 6, none⟩ = some (.int .i64 g.cd) := (HX.out.keep HbX.out (by simp)).cell 6 rfl
            have Xx7 : v105.cell? ⟨px, 7, none⟩ = some (.bool g.uni) := (HX.out.keep HbX.out (by simp)).cell 7 rfl
            have Xx8 : v105.cell? ⟨px, 8, none⟩ = some (.int .i64 g.dl) := (HX.out.keep HbX.out (by simp)).cell 8 rfl
            have Xx9 : v105.cell? ⟨px, 9, none⟩ = some (.slice ga g.rg.length gc) := (HX.out.keep HbX.out (by simp)).cell 9 rfl
            have Xx10 : v105.cell? ⟨px, 10, none⟩ = some (.int .i64 g.sq) := (HX.out.keep HbX.out (by simp)).cell 10 rfl
            have Xx11 : v105.cell? ⟨px, 11, none⟩ = some (.int .i64 g.rt) := (HX.out.keep HbX.out (by simp)).cell 11 rfl
            have Xx12 : v105.cell? ⟨px, 12, none⟩ = some (.string (strB g.cid)) := (HX.out.keep HbX.out (by simp)).cell 12 rfl
            go_wp2_with fail
            refine (b4 _).mono ?_
            rintro e v106 ⟨rfl, ho⟩
            clear Xx0 Xx1 Xx2 Xx3 Xx4 Xx5 Xx6 Xx7 Xx8 Xx9 Xx10 Xx11 Xx12
            replace HL := Lib.hid (HL.out.trans ho)
            replace HbX := Lib.hid (HbX.out.trans ho)
            clear ho
            have Xx0 : v106.cell? ⟨px, 0, none⟩ = some (.int .i64 T) := (HX.out.keep HbX.out (by simp)).cell 0 rfl
            go_wp2_with fail
            go_roundg 0
            case measure => omega
            case rel => exact ⟨2, rfl, by omega, rfl, HL⟩
    · as_aux_lemma =>
        have HL := hO.out
        have f0 : wr.drew.cell? ⟨pf, 0, none⟩ = some (.int .i64 T) := ((HF.out.keep Hb.out (by simp)).keep HL (by simp)).cell 0 rfl
        have f1 : wr.drew.cell? ⟨pf, 1, none⟩ = some (.int .i64 f.st) := ((HF.out.keep Hb.out (by simp)).keep HL (by simp)).cell 1 rfl
        have f2 : wr.drew.cell? ⟨pf, 2, none⟩ = some (.int .i64 f.off) := ((HF.out.keep Hb.out (by simp)).keep HL (by simp)).cell 2 rfl
        have f3 : wr.drew.cell? ⟨pf, 3, none⟩ = some (.string (strB f.S)) := ((HF.out.keep Hb.out (by simp)).keep HL (by simp)).cell 3 rfl
        have f4 : wr.drew.cell? ⟨pf, 4, none⟩ = some (.bool f.fin) := ((HF.out.keep Hb.out (by simp)).keep HL (by simp)).cell 4 rfl
        have f5 : wr.drew.cell? ⟨pf, 5, none⟩ = some (.int .i64 f.mx) := ((HF.out.keep Hb.out (by simp)).keep HL (by simp)).cell 5 rfl
        have f6 : wr.drew.cell? ⟨pf, 6, none⟩ = some (.int .i64 f.cd) := ((HF.out.keep Hb.out (by simp)).keep HL (by simp)).cell 6 rfl
        have f7 : wr.drew.cell? ⟨pf, 7, none⟩ = some (.bool f.uni) := ((HF.out.keep Hb.out (by simp)).keep HL (by simp)).cell 7 rfl
        have f8 : wr.drew.cell? ⟨pf, 8, none⟩ = some (.int .i64 f.dl) := ((HF.out.keep Hb.out (by simp)).keep HL (by simp)).cell 8 rfl
        have f9 : wr.drew.cell? ⟨pf, 9, none⟩ = some (.slice ra f.rg.length rc) := ((HF.out.keep Hb.out (by simp)).keep HL (by simp)).cell 9 rfl
        have f10 : wr.drew.cell? ⟨pf, 10, none⟩ = some (.int .i64 f.sq) := ((HF.out.keep Hb.out (by simp)).keep HL (by simp)).cell 10 rfl
        have f11 : wr.drew.cell? ⟨pf, 11, none⟩ = some (.int .i64 f.rt) := ((HF.out.keep Hb.out (by simp)).keep HL (by simp)).cell 11 rfl
        have f12 : wr.drew.cell? ⟨pf, 12, none⟩ = some (.string (strB f.cid)) := ((HF.out.keep Hb.out (by simp)).keep HL (by simp)).cell 12 rfl
        have g0 : wr.drew.cell? ⟨pg, 0, none⟩ = some (.int .i64 T) := ((HG.out.keep Hb.out (by simp)).keep HL (by simp)).cell 0 rfl
        have g1 : wr.drew.cell? ⟨pg, 1, none⟩ = some (.int .i64 g.st) := ((HG.out.keep Hb.out (by simp)).keep HL (by simp)).cell 1 rfl
        have g2 : wr.drew.cell? ⟨pg, 2, none⟩ = some (.int .i64 g.off) := ((HG.out.keep Hb.out (by simp)).keep HL (by simp)).cell 2 rfl
        have g3 : wr.drew.cell? ⟨pg, 3, none⟩ = some (.string (strB g.S)) := ((HG.out.keep Hb.out (by simp)).keep HL (by simp)).cell 3 rfl
        have g4 : wr.drew.cell? ⟨pg, 4, none⟩ = some (.bool g.fin) := ((HG.out.keep Hb.out (by simp)).keep HL (by simp)).cell 4 rfl
        have g5 : wr.drew.cell? ⟨pg, 5, none⟩ = some (.int .i64 g.mx) := ((HG.out.keep Hb.out (by simp)).keep HL (by simp)).cell 5 rfl
        have g6 : wr.drew.cell? ⟨pg, 6, none⟩ = some (.int .i64 g.cd) := ((HG.out.keep Hb.out (by simp)).keep HL (by simp)).cell 6 rfl
        have g7 : wr.drew.cell? ⟨pg, 7, none⟩ = some (.bool g.uni) := ((HG.out.keep Hb.out (by simp)).keep HL (by simp)).cell 7 rfl
        have g8 : wr.drew.cell? ⟨pg, 8, none⟩ = some (.int .i64 g.dl) := ((HG.out.keep Hb.out (by simp)).keep HL (by simp)).cell 8 rfl
        have g9 : wr.drew.cell? ⟨pg, 9, none⟩ = some (.slice ga g.rg.length gc) := ((HG.out.keep Hb.out (by simp)).keep HL (by simp)).cell 9 rfl
        have g10 : wr.drew.cell? ⟨pg, 10, none⟩ = some (.int .i64 g.sq) := ((HG.out.keep Hb.out (by simp)).keep HL (by simp)).cell 10 rfl
        have g11 : wr.drew.cell? ⟨pg, 11, none⟩ = some (.int .i64 g.rt) := ((HG.out.keep Hb.out (by simp)).keep HL (by simp)).cell 11 rfl
        have g12 : wr.drew.cell? ⟨pg, 12, none⟩ = some (.string (strB g.cid)) := ((HG.out.keep Hb.out (by simp)).keep HL (by simp)).cell 12 rfl
        have hfl := ((HF.out.keep Hb.out (by simp)).keep HL (by simp)).lt
        have hgl := ((HG.out.keep Hb.out (by simp)).keep HL (by simp)).lt
        have HOE := Lib.hid (HO.out.trans HL)
        clear hO
        have z4 : ∀ ww, Calls Try.prog 33 #[.int .i64 4, .agg #[.int .i64 3, .int .i64 0, .int .i64 0, .string ⟨#[]⟩, .bool false, .int .i64 0, .int .i64 0, .bool false, .int .i64 0, .slice none 0 0, .int .i64 0, .int .i64 0, .string ⟨#[]⟩]] ww fun e w' => e = .returned (.bool false) ∧ Only [] ww w' := fun ww => allow_c 4 (Fr.zero 3) (.slice none 0 0) ww
        have ze : ∀ ww, Calls Try.prog 21 #[.agg #[.int .i64 3, .int .i64 0, .int .i64 0, .string ⟨#[]⟩, .bool false, .int .i64 0, .int .i64 0, .bool false, .int .i64 0, .slice none 0 0, .int .i64 0, .int .i64 0, .string ⟨#[]⟩]] ww fun e w' => e = .returned (.bool false) ∧ Only [] ww w' := fun ww => elic_c (Fr.zero 3) (.slice none 0 0) ww
        go_upto_region 14 with fail
        refine wp_region_held_drew (S := fun w' => Only [] wr.drew w') (by kernel_rfl) (by exact Only.refl _ _) (fun hHeld => ?_)
        refine wpAnyH_take (i := 0) (v := ?_) rfl (by kernel_rfl) (by kernel_rfl) (by kernel_rfl) (fun _ _ _ h => h) (Or.inl ⟨by kernel_rfl, ?_⟩) (by assumption) ?_
        rotate_left
        · intro wS hSw
          try dsimp only at hSw
          go_simp
          try with_reducible rfl
        simp only [List.getElem_toArray, List.getElem_cons_succ, List.getElem_cons_zero, Act.put, List.setIfInBounds_toArray, List.set_cons_zero, List.set_cons_succ]
        refine wpAnyH_take (i := 1) (v := ?_) rfl (by kernel_rfl) (by kernel_rfl) (by kernel_rfl) (fun _ _ _ h => h) (Or.inl ⟨by kernel_rfl, ?_⟩) (by assumption) ?_
        rotate_left
        · intro wS hSw
          try dsimp only at hSw
          go_simp
          try with_reducible rfl
        simp only [List.getElem_toArray, List.getElem_cons_succ, List.getElem_cons_zero, Act.put, List.setIfInBounds_toArray, List.set_cons_zero, List.set_cons_succ]
        refine wpAnyH_take (i := 2) (v := ?_) rfl (by kernel_rfl) (by kernel_rfl) (by kernel_rfl) (fun _ _ _ h => h) (Or.inl ⟨by kernel_rfl, ?_⟩) (by assumption) ?_
        rotate_left
        · intro wS hSw
          have e0 := (hSw.cell (p := ⟨pf, 0, none⟩) hfl (by simp)).trans f0
          have e1 := (hSw.cell (p := ⟨pf, 1, none⟩) hfl (by simp)).trans f1
          have e2 := (hSw.cell (p := ⟨pf, 2, none⟩) hfl (by simp)).trans f2
          have e3 := (hSw.cell (p := ⟨pf, 3, none⟩) hfl (by simp)).trans f3
          have e4 := (hSw.cell (p := ⟨pf, 4, none⟩) hfl (by simp)).trans f4
          have e5 := (hSw.cell (p := ⟨pf, 5, none⟩) hfl (by simp)).trans f5
          have e6 := (hSw.cell (p := ⟨pf, 6, none⟩) hfl (by simp)).trans f6
          have e7 := (hSw.cell (p := ⟨pf, 7, none⟩) hfl (by simp)).trans f7
          have e8 := (hSw.cell (p := ⟨pf, 8, none⟩) hfl (by simp)).trans f8
          have e9 := (hSw.cell (p := ⟨pf, 9, none⟩) hfl (by simp)).trans f9
          have e10 := (hSw.cell (p := ⟨pf, 10, none⟩) hfl (by simp)).trans f10
          have e11 := (hSw.cell (p := ⟨pf, 11, none⟩) hfl (by simp)).trans f11
          have e12 := (hSw.cell (p := ⟨pf, 12, none⟩) hfl (by simp)).trans f12
          try dsimp only at hSw
          go_simp
          try with_reducible rfl
        simp only [List.getElem_toArray, List.getElem_cons_succ, List.getElem_cons_zero, Act.put, List.setIfInBounds_toArray, List.set_cons_zero, List.set_cons_succ]
        refine wpAnyH_take (i := 4) (v := ?_) rfl (by kernel_rfl) (by kernel_rfl) (by kernel_rfl) (fun _ _ _ h => h) (Or.inl ⟨by kernel_rfl, ?_⟩) (by assumption) ?_
        rotate_left
        · intro wS hSw
          have e0 := (hSw.cell (p := ⟨pg, 0, none⟩) hgl (by simp)).trans g0
          have e1 := (hSw.cell (p := ⟨pg, 1, none⟩) hgl (by simp)).trans g1
          have e2 := (hSw.cell (p := ⟨pg, 2, none⟩) hgl (by simp)).trans g2
          have e3 := (hSw.cell (p := ⟨pg, 3, none⟩) hgl (by simp)).trans g3
          have e4 := (hSw.cell (p := ⟨pg, 4, none⟩) hgl (by simp)).trans g4
          have e5 := (hSw.cell (p := ⟨pg, 5, none⟩) hgl (by simp)).trans g5
          have e6 := (hSw.cell (p := ⟨pg, 6, none⟩) hgl (by simp)).trans g6
          have e7 := (hSw.cell (p := ⟨pg, 7, none⟩) hgl (by simp)).trans g7
          have e8 := (hSw.cell (p := ⟨pg, 8, none⟩) hgl (by simp)).trans g8
          have e9 := (hSw.cell (p := ⟨pg, 9, none⟩) hgl (by simp)).trans g9
          have e10 := (hSw.cell (p := ⟨pg, 10, none⟩) hgl (by simp)).trans g10
          have e11 := (hSw.cell (p := ⟨pg, 11, none⟩) hgl (by simp)).trans g11
          have e12 := (hSw.cell (p := ⟨pg, 12, none⟩) hgl (by simp)).trans g12
          try dsimp only at hSw
          go_simp
          try with_reducible rfl
        simp only [List.getElem_toArray, List.getElem_cons_succ, List.getElem_cons_zero, Act.put, List.setIfInBounds_toArray, List.set_cons_zero, List.set_cons_succ]
        clear f0 g0 f1 g1 f2 g2 f3 g3 f4 g4 f5 g5 f6 g6 f7 g7 f8 g8 f9 g9 f10 g10 f11 g11 f12 g12
        refine wpAnyH_ready (rs := [3]) (by kernel_rfl) (by simp) ?_
        refine AllReadyH.cons rfl (fun K hK => ?_) AllReadyH.nil
        go_simp
        refine (ef _).mono ?_
        rintro e y1 ⟨rfl, ho⟩
        refine hK.out _ _ (by exact hHeld.trans ho) (fun hHeld' => ?_)
        clear hHeld hK K ho
        have hHeld := hHeld'
        clear hHeld'
        refine wpAnyH_ready (rs := [5]) (by kernel_rfl) (by simp) ?_
        refine AllReadyH.cons rfl (fun K hK => ?_) AllReadyH.nil
        go_simp
        refine (eg _).mono ?_
        rintro e y2 ⟨rfl, ho⟩
        refine hK.out _ _ (by exact hHeld.trans ho) (fun hHeld' => ?_)
        clear hHeld hK K ho
        have hHeld := hHeld'
        clear hHeld'
        refine wpAnyH_take (i := 6) (v := ?_) rfl (by kernel_rfl) (by kernel_rfl) (by kernel_rfl) (fun _ _ _ h => h) (Or.inl ⟨by kernel_rfl, ?_⟩) (by assumption) ?_
        rotate_left
        · intro wS hSw
          try dsimp only at hSw
          go_simp
          try with_reducible rfl
        simp only [List.getElem_toArray, List.getElem_cons_succ, List.getElem_cons_zero, Act.put, List.setIfInBounds_toArray, List.set_cons_zero, List.set_cons_succ]
        refine wpAnyH_take (i := 7) (v := ?_) rfl (by kernel_rfl) (by kernel_rfl) (by kernel_rfl) (fun _ _ _ h => h) (Or.inl ⟨by kernel_rfl, ?_⟩) (by assumption) ?_
        rotate_left
        · intro wS hSw
          try dsimp only at hSw
          go_simp
          try with_reducible rfl
        simp only [List.getElem_toArray, List.getElem_cons_succ, List.getElem_cons_zero, Act.put, List.setIfInBounds_toArray, List.set_cons_zero, List.set_cons_succ]
        refine wpAnyH_take (i := 8) (v := ?_) rfl (by kernel_rfl) (by kernel_rfl) (by kernel_rfl) (fun _ _ _ h => h) (Or.inl ⟨by kernel_rfl, ?_⟩) (by assumption) ?_
        rotate_left
        · intro wS hSw
          try dsimp only at hSw
          go_simp
          try with_reducible rfl
        simp only [List.getElem_toArray, List.getElem_cons_succ, List.getElem_cons_zero, Act.put, List.setIfInBounds_toArray, List.set_cons_zero, List.set_cons_succ]
        refine wpAnyH_take (i := 9) (v := ?_) rfl (by kernel_rfl) (by kernel_rfl) (by kernel_rfl) (fun _ _ _ h => h) (Or.inl ⟨by kernel_rfl, ?_⟩) (by assumption) ?_
        rotate_left
        · intro wS hSw
          try dsimp only at hSw
          go_simp
          try with_reducible rfl
        simp only [List.getElem_toArray, List.getElem_cons_succ, List.getElem_cons_zero, Act.put, List.setIfInBounds_toArray, List.set_cons_zero, List.set_cons_succ]
        refine wpAnyH_ready (rs := [10]) (by kernel_rfl) (by simp) ?_
        refine AllReadyH.cons rfl (fun K hK => ?_) AllReadyH.nil
        go_simp
        refine (z4 _).mono ?_
        rintro e y3 ⟨rfl, ho⟩
        refine hK.out _ _ (by exact hHeld.trans ho) (fun hHeld' => ?_)
        clear hHeld hK K ho
        have hHeld := hHeld'
        clear hHeld'
        refine wpAnyH_take (i := 11) (v := ?_) rfl (by kernel_rfl) (by kernel_rfl) (by kernel_rfl) (fun _ _ _ h => h) (Or.inl ⟨by kernel_rfl, ?_⟩) (by assumption) ?_
        rotate_left
        · intro wS hSw
          try dsimp only at hSw
          go_simp
          try with_reducible rfl
        simp only [List.getElem_toArray, List.getElem_cons_succ, List.getElem_cons_zero, Act.put, List.setIfInBounds_toArray, List.set_cons_zero, List.set_cons_succ]
        refine wpAnyH_take (i := 12) (v := ?_) rfl (by kernel_rfl) (by kernel_rfl) (by kernel_rfl) (fun _ _ _ h => h) (Or.inl ⟨by kernel_rfl, ?_⟩) (by assumption) ?_
        rotate_left
        · intro wS hSw
          try dsimp only at hSw
          go_simp
          try with_reducible rfl
        simp only [List.getElem_toArray, List.getElem_cons_succ, List.getElem_cons_zero, Act.put, List.setIfInBounds_toArray, List.set_cons_zero, List.set_cons_succ]
        refine wpAnyH_take (i := 13) (v := ?_) rfl (by kernel_rfl) (by kernel_rfl) (by kernel_rfl) (fun _ _ _ h => h) (Or.inl ⟨by kernel_rfl, ?_⟩) (by assumption) ?_
        rotate_left
        · intro wS hSw
          try dsimp only at hSw
          go_simp
          try with_reducible rfl
        simp only [List.getElem_toArray, List.getElem_cons_succ, List.getElem_cons_zero, Act.put, List.setIfInBounds_toArray, List.set_cons_zero, List.set_cons_succ]
        refine wpAnyH_take (i := 14) (v := ?_) rfl (by kernel_rfl) (by kernel_rfl) (by kernel_rfl) (fun _ _ _ h => h) (Or.inl ⟨by kernel_rfl, ?_⟩) (by assumption) ?_
        rotate_left
        · intro wS hSw
          try dsimp only at hSw
          go_simp
          try with_reducible rfl
        simp only [List.getElem_toArray, List.getElem_cons_succ, List.getElem_cons_zero, Act.put, List.setIfInBounds_toArray, List.set_cons_zero, List.set_cons_succ]
        refine wpAnyH_ready (rs := [15]) (by kernel_rfl) (by simp) ?_
        refine AllReadyH.cons rfl (fun K hK => ?_) AllReadyH.nil
        go_simp
        refine (ze _).mono ?_
        rintro e y4 ⟨rfl, ho⟩
        refine hK.out _ _ (by exact hHeld.trans ho) (fun hHeld' => ?_)
        clear hHeld hK K ho
        have hHeld := hHeld'
        clear hHeld'
        refine wpAnyH_take (i := 16) (v := ?_) rfl (by kernel_rfl) (by kernel_rfl) (by kernel_rfl) (fun _ _ _ h => h) (Or.inl ⟨by kernel_rfl, ?_⟩) (by assumption) ?_
        rotate_left
        · intro wS hSw
          try dsimp only at hSw
          go_simp
          try with_reducible rfl
        simp only [List.getElem_toArray, List.getElem_cons_succ, List.getElem_cons_zero, Act.put, List.setIfInBounds_toArray, List.set_cons_zero, List.set_cons_succ]
        refine wpAnyH_take (i := 17) (v := ?_) rfl (by kernel_rfl) (by kernel_rfl) (by kernel_rfl) (fun _ _ _ h => h) (Or.inl ⟨by kernel_rfl, ?_⟩) (by assumption) ?_
        rotate_left
        · intro wS hSw
          try dsimp only at hSw
          go_simp
          try with_reducible rfl
        simp only [List.getElem_toArray, List.getElem_cons_succ, List.getElem_cons_zero, Act.put, List.setIfInBounds_toArray, List.set_cons_zero, List.set_cons_succ]
        refine wpAnyH_take (i := 18) (v := ?_) rfl (by kernel_rfl) (by kernel_rfl) (by kernel_rfl) (fun _ _ _ h => h) (Or.inl ⟨by kernel_rfl, ?_⟩) (by assumption) ?_
        rotate_left
        · intro wS hSw
          try dsimp only at hSw
          go_simp
          try with_reducible rfl
        simp only [List.getElem_toArray, List.getElem_cons_succ, List.getElem_cons_zero, Act.put, List.setIfInBounds_toArray, List.set_cons_zero, List.set_cons_succ]
        refine wpAnyH_done (by kernel_rfl) ?_ _
        go_wp2_with fail
        go_ret
        exact ⟨rfl, (HOE.out.drew.trans hHeld).below (by simp) (Nat.le_refl _)⟩
end Go.Proofs.Ytmmgmpghkpbgkaa
