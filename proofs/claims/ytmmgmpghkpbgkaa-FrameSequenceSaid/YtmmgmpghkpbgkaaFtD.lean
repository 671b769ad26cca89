/- Contracts of the reference of frames: equality of lists. -/
import Derived.Test.YtmmgmpghkpbgkaaFtC
import Derived.Test.YtmmgmpghkpbgkaaFrH
import Derived.Deep.LoopGhost
import Derived.Deep.CutRange
namespace Go.Proofs.Ytmmgmpghkpbgkaa
open Go Go.RowKit
set_option linter.unusedVariables false
set_option linter.unusedSimpArgs false

def SAllQ (L M : List Fr) (w : World) (e : Ending) (w' : World) : Prop := ∃ z : Bool, e = .returned (.bool z) ∧ (z = true ↔ L = M) ∧ Only [] w w'
def SAllRel (w : World) (L M : List Fr) (gk : Nat) (ix : Value) (wr : World) : Prop := ∃ k : Nat, gk = L.length - k ∧ k ≤ L.length ∧ ix = .int .i64 k ∧ Hid (L.take k = M.take k) ∧ Hid (Only [] w wr)
set_option maxRecDepth 100000 in
set_option maxHeartbeats 4000000 in
theorem sameAll_c (v v2 : Value) (xs ys : List (Fr × Value)) (w : World) (hX : FrSl w v xs) (hY : FrSl w v2 ys) (hn : xs.length ≤ 1000000) :
    Calls Try.prog 28 #[v, v2] w (SAllQ (xs.map Prod.fst) (ys.map Prod.fst) w) := by
  obtain ⟨a, cap, rfl, hcs, hok⟩ := hX
  obtain ⟨a2, cap2, rfl, hcs2, hok2⟩ := hY
  have HOK := Lib.hid hok
  have HOK2 := Lib.hid hok2
  clear hok hok2
  have hor := Lib.hid (Only.refl [] w)
  by_cases hl : xs.length = ys.length
  · have hl' : ((xs.length : Int) != (ys.length : Int)) = false := by simp [hl]
    have HL := Lib.hid hl
    clear hl
    go_enter Try.func28, Try.ntmps28
    go_wp2_with fail
    go_loopg [5] xs.length (fun gk ix wr => SAllRel w (xs.map Prod.fst) (ys.map Prod.fst) gk ix wr)
    case atStart => exact ⟨0, by simp, by omega, rfl, Lib.hid rfl, hor⟩
    case round =>
      obtain ⟨k, rfl, hk, rfl, hT, hO⟩ := hrel
      clear hor
      rw [List.length_map] at hk
      by_cases hlt : k < xs.length
      · have hlt' : (k : Int) < xs.length := by omega
        have hlt2 : k < ys.length := by have := HL.out; omega
        have hlt2' : (k : Int) < ys.length := by omega
        obtain ⟨g, off, rfl, hg, hcc⟩ := hcs k hlt
        obtain ⟨g2, off2, rfl, hg2, hcc2⟩ := hcs2 k hlt2
        obtain ⟨x, hx⟩ : ∃ x, xs[k]'hlt = x := ⟨_, rfl⟩
        obtain ⟨y, hy⟩ : ∃ y, ys[k]'hlt2 = y := ⟨_, rfl⟩
        have hokx := HOK.out x (hx ▸ List.getElem_mem _)
        have hoky := HOK2.out y (hy ▸ List.getElem_mem _)
        rw [hx] at hcc
        rw [hy] at hcc2
        have HTX : Hid ((xs.map Prod.fst).take (k + 1) = (xs.map Prod.fst).take k ++ [x.1]) := Lib.hid (by
          rw [List.take_succ_eq_append_getElem (by simpa using hlt)]
          simp [hx])
        have HTY : Hid ((ys.map Prod.fst).take (k + 1) = (ys.map Prod.fst).take k ++ [y.1]) := Lib.hid (by
          rw [List.take_succ_eq_append_getElem (by simpa using hlt2)]
          simp [hy])
        have HNE : Hid (xs.map Prod.fst = ys.map Prod.fst → x.1 = y.1) := Lib.hid (fun e => by
          have h1 := HTX.out
          rw [e, HTY.out] at h1
          have := List.append_inj_right' h1 rfl
          simpa using this.symm)
        clear hx hy
        obtain ⟨f, rv⟩ := x
        obtain ⟨f2, rv2⟩ := y
        obtain ⟨ra, rc, rfl, hrx⟩ := (show RgAt w rv f.rg from hokx.rg)
        obtain ⟨rb, rd, rfl, hry⟩ := (show RgAt w rv2 f2.rg from hoky.rg)
        have hrs := fun ww h1 h2 => rsame_c f f2 (.slice ra f.rg.length rc) (.slice rb f2.rg.length rd) ww h1 h2 hokx.sz hoky.sz
        have HK := Lib.hid (hokx.keep hO.out).rg
        have HK2 := Lib.hid (hoky.keep hO.out).rg
        have hcw := fun j hj => (hO.out.cell (p := ⟨g, off + k * 13 + j, none⟩) hg (by simp)).trans (hcc j hj)
        have hcw2 := fun j hj => (hO.out.cell (p := ⟨g2, off2 + k * 13 + j, none⟩) hg2 (by simp)).trans (hcc2 j hj)
        have p0 : wr.drew.cell? ⟨g, off + k * 13, none⟩ = some (.int .i64 f.ty) := hcw 0 (by omega)
        have p1 : wr.drew.cell? ⟨g, off + k * 13 + 1, none⟩ = some (.int .i64 f.st) := hcw 1 (by omega)
        have p2 : wr.drew.cell? ⟨g, off + k * 13 + 2, none⟩ = some (.int .i64 f.off) := hcw 2 (by omega)
        have p3 : wr.drew.cell? ⟨g, off + k * 13 + 3, none⟩ = some (.string (strB f.S)) := hcw 3 (by omega)
        have p4 : wr.drew.cell? ⟨g, off + k * 13 + 4, none⟩ = some (.bool f.fin) := hcw 4 (by omega)
        have p5 : wr.drew.cell? ⟨g, off + k * 13 + 5, none⟩ = some (.int .i64 f.mx) := hcw 5 (by omega)
        have p6 : wr.drew.cell? ⟨g, off + k * 13 + 6, none⟩ = some (.int .i64 f.cd) := hcw 6 (by omega)
        have p7 : wr.drew.cell? ⟨g, off + k * 13 + 7, none⟩ = some (.bool f.uni) := hcw 7 (by omega)
        have p8 : wr.drew.cell? ⟨g, off + k * 13 + 8, none⟩ = some (.int .i64 f.dl) := hcw 8 (by omega)
        have p9 : wr.drew.cell? ⟨g, off + k * 13 + 9, none⟩ = some (.slice ra f.rg.length rc) := hcw 9 (by omega)
        have p10 : wr.drew.cell? ⟨g, off + k * 13 + 10, none⟩ = some (.int .i64 f.sq) := hcw 10 (by omega)
        have p11 : wr.drew.cell? ⟨g, off + k * 13 + 11, none⟩ = some (.int .i64 f.rt) := hcw 11 (by omega)
        have p12 : wr.drew.cell? ⟨g, off + k * 13 + 12, none⟩ = some (.string (strB f.cid)) := hcw 12 (by omega)
        have q0 : wr.drew.cell? ⟨g2, off2 + k * 13, none⟩ = some (.int .i64 f2.ty) := hcw2 0 (by omega)
        have q1 : wr.drew.cell? ⟨g2, off2 + k * 13 + 1, none⟩ = some (.int .i64 f2.st) := hcw2 1 (by omega)
        have q2 : wr.drew.cell? ⟨g2, off2 + k * 13 + 2, none⟩ = some (.int .i64 f2.off) := hcw2 2 (by omega)
        have q3 : wr.drew.cell? ⟨g2, off2 + k * 13 + 3, none⟩ = some (.string (strB f2.S)) := hcw2 3 (by omega)
        have q4 : wr.drew.cell? ⟨g2, off2 + k * 13 + 4, none⟩ = some (.bool f2.fin) := hcw2 4 (by omega)
        have q5 : wr.drew.cell? ⟨g2, off2 + k * 13 + 5, none⟩ = some (.int .i64 f2.mx) := hcw2 5 (by omega)
        have q6 : wr.drew.cell? ⟨g2, off2 + k * 13 + 6, none⟩ = some (.int .i64 f2.cd) := hcw2 6 (by omega)
        have q7 : wr.drew.cell? ⟨g2, off2 + k * 13 + 7, none⟩ = some (.bool f2.uni) := hcw2 7 (by omega)
        have q8 : wr.drew.cell? ⟨g2, off2 + k * 13 + 8, none⟩ = some (.int .i64 f2.dl) := hcw2 8 (by omega)
        have q9 : wr.drew.cell? ⟨g2, off2 + k * 13 + 9, none⟩ = some (.slice rb f2.rg.length rd) := hcw2 9 (by omega)
        have q10 : wr.drew.cell? ⟨g2, off2 + k * 13 + 10, none⟩ = some (.int .i64 f2.sq) := hcw2 10 (by omega)
        have q11 : wr.drew.cell? ⟨g2, off2 + k * 13 + 11, none⟩ = some (.int .i64 f2.rt) := hcw2 11 (by omega)
        have q12 : wr.drew.cell? ⟨g2, off2 + k * 13 + 12, none⟩ = some (.string (strB f2.cid)) := hcw2 12 (by omega)
        have f9 : IntKind.i64.wrap ((k : Int) + 1) = ((k + 1 : Nat) : Int) := by rw [show (k : Int) + 1 = ((k + 1 : Nat) : Int) by omega]; exact IntWalk.i64_in _ (by omega)
        have hgr : g < wr.drew.heap.size := Nat.lt_of_lt_of_le hg hO.out.size
        have hgr2 : g2 < wr.drew.heap.size := Nat.lt_of_lt_of_le hg2 hO.out.size
        clear hcw hcc hcs hcw2 hcc2 hcs2 hokx hoky hrx hry
        simp only [frC] at hrs
        go_upto_region 6 with fail
        refine wp_region_held_drew (S := fun w' => Only [] wr.drew w') (by kernel_rfl) (by exact Only.refl _ _) (fun hHeld => ?_)
        refine wpAnyH_take (i := 0) (v := ?_) rfl (by kernel_rfl) (by kernel_rfl) (by kernel_rfl) (fun _ _ _ h => h) (Or.inl ⟨by kernel_rfl, ?_⟩) (by assumption) ?_
        rotate_left
        · intro wS hSw
          try dsimp only at hSw
          go_simp
          try with_reducible rfl
        simp only [List.getElem_toArray, List.getElem_cons_succ, List.getElem_cons_zero, Act.put, List.setIfInBounds_toArray, List.set_cons_zero, List.set_cons_succ]
        refine wpAnyH_take (i := 1) (v := ?_) rfl (by kernel_rfl) (by kernel_rfl) (by kernel_rfl) (fun _ _ _ h => h) (Or.inl ⟨by kernel_rfl, ?_⟩) (by assumption) ?_
        rotate_left
        · intro wS hSw
          try dsimp only at hSw
          go_simp
          try with_reducible rfl
        simp only [List.getElem_toArray, List.getElem_cons_succ, List.getElem_cons_zero, Act.put, List.setIfInBounds_toArray, List.set_cons_zero, List.set_cons_succ]
        refine wpAnyH_take (i := 2) (v := ?_) rfl (by kernel_rfl) (by kernel_rfl) (by kernel_rfl) (fun _ _ _ h => h) (Or.inl ⟨by kernel_rfl, ?_⟩) (by assumption) ?_
        rotate_left
        · intro wS hSw
          try dsimp only at hSw
          go_simp
          try with_reducible rfl
        simp only [List.getElem_toArray, List.getElem_cons_succ, List.getElem_cons_zero, Act.put, List.setIfInBounds_toArray, List.set_cons_zero, List.set_cons_succ]
        refine wpAnyH_take (i := 3) (v := ?_) rfl (by kernel_rfl) (by kernel_rfl) (by kernel_rfl) (fun _ _ _ h => h) (Or.inl ⟨by kernel_rfl, ?_⟩) (by assumption) ?_
        rotate_left
        · intro wS hSw
          have e0 := (hSw.cell (p := ⟨g, off + k * 13, none⟩) hgr (by simp)).trans p0
          have e1 := (hSw.cell (p := ⟨g, off + k * 13 + 1, none⟩) hgr (by simp)).trans p1
          have e2 := (hSw.cell (p := ⟨g, off + k * 13 + 2, none⟩) hgr (by simp)).trans p2
          have e3 := (hSw.cell (p := ⟨g, off + k * 13 + 3, none⟩) hgr (by simp)).trans p3
          have e4 := (hSw.cell (p := ⟨g, off + k * 13 + 4, none⟩) hgr (by simp)).trans p4
          have e5 := (hSw.cell (p := ⟨g, off + k * 13 + 5, none⟩) hgr (by simp)).trans p5
          have e6 := (hSw.cell (p := ⟨g, off + k * 13 + 6, none⟩) hgr (by simp)).trans p6
          have e7 := (hSw.cell (p := ⟨g, off + k * 13 + 7, none⟩) hgr (by simp)).trans p7
          have e8 := (hSw.cell (p := ⟨g, off + k * 13 + 8, none⟩) hgr (by simp)).trans p8
          have e9 := (hSw.cell (p := ⟨g, off + k * 13 + 9, none⟩) hgr (by simp)).trans p9
          have e10 := (hSw.cell (p := ⟨g, off + k * 13 + 10, none⟩) hgr (by simp)).trans p10
          have e11 := (hSw.cell (p := ⟨g, off + k * 13 + 11, none⟩) hgr (by simp)).trans p11
          have e12 := (hSw.cell (p := ⟨g, off + k * 13 + 12, none⟩) hgr (by simp)).trans p12
          try dsimp only at hSw
          go_simp
          try with_reducible rfl
        simp only [List.getElem_toArray, List.getElem_cons_succ, List.getElem_cons_zero, Act.put, List.setIfInBounds_toArray, List.set_cons_zero, List.set_cons_succ]
        refine wpAnyH_take (i := 4) (v := ?_) rfl (by kernel_rfl) (by kernel_rfl) (by kernel_rfl) (fun _ _ _ h => h) (Or.inl ⟨by kernel_rfl, ?_⟩) (by assumption) ?_
        rotate_left
        · intro wS hSw
          try dsimp only at hSw
          go_simp
          try with_reducible rfl
        simp only [List.getElem_toArray, List.getElem_cons_succ, List.getElem_cons_zero, Act.put, List.setIfInBounds_toArray, List.set_cons_zero, List.set_cons_succ]
        refine wpAnyH_take (i := 5) (v := ?_) rfl (by kernel_rfl) (by kernel_rfl) (by kernel_rfl) (fun _ _ _ h => h) (Or.inl ⟨by kernel_rfl, ?_⟩) (by assumption) ?_
        rotate_left
        · intro wS hSw
          try dsimp only at hSw
          go_simp
          try with_reducible rfl
        simp only [List.getElem_toArray, List.getElem_cons_succ, List.getElem_cons_zero, Act.put, List.setIfInBounds_toArray, List.set_cons_zero, List.set_cons_succ]
        refine wpAnyH_take (i := 6) (v := ?_) rfl (by kernel_rfl) (by kernel_rfl) (by kernel_rfl) (fun _ _ _ h => h) (Or.inl ⟨by kernel_rfl, ?_⟩) (by assumption) ?_
        rotate_left
        · intro wS hSw
          try dsimp only at hSw
          go_simp
          try with_reducible rfl
        simp only [List.getElem_toArray, List.getElem_cons_succ, List.getElem_cons_zero, Act.put, List.setIfInBounds_toArray, List.set_cons_zero, List.set_cons_succ]
        refine wpAnyH_take (i := 7) (v := ?_) rfl (by kernel_rfl) (by kernel_rfl) (by kernel_rfl) (fun _ _ _ h => h) (Or.inl ⟨by kernel_rfl, ?_⟩) (by assumption) ?_
        rotate_left
        · intro wS hSw
          have e0 := (hSw.cell (p := ⟨g2, off2 + k * 13, none⟩) hgr2 (by simp)).trans q0
          have e1 := (hSw.cell (p := ⟨g2, off2 + k * 13 + 1, none⟩) hgr2 (by simp)).trans q1
          have e2 := (hSw.cell (p := ⟨g2, off2 + k * 13 + 2, none⟩) hgr2 (by simp)).trans q2
          have e3 := (hSw.cell (p := ⟨g2, off2 + k * 13 + 3, none⟩) hgr2 (by simp)).trans q3
          have e4 := (hSw.cell (p := ⟨g2, off2 + k * 13 + 4, none⟩) hgr2 (by simp)).trans q4
          have e5 := (hSw.cell (p := ⟨g2, off2 + k * 13 + 5, none⟩) hgr2 (by simp)).trans q5
          have e6 := (hSw.cell (p := ⟨g2, off2 + k * 13 + 6, none⟩) hgr2 (by simp)).trans q6
          have e7 := (hSw.cell (p := ⟨g2, off2 + k * 13 + 7, none⟩) hgr2 (by simp)).trans q7
          have e8 := (hSw.cell (p := ⟨g2, off2 + k * 13 + 8, none⟩) hgr2 (by simp)).trans q8
          have e9 := (hSw.cell (p := ⟨g2, off2 + k * 13 + 9, none⟩) hgr2 (by simp)).trans q9
          have e10 := (hSw.cell (p := ⟨g2, off2 + k * 13 + 10, none⟩) hgr2 (by simp)).trans q10
          have e11 := (hSw.cell (p := ⟨g2, off2 + k * 13 + 11, none⟩) hgr2 (by simp)).trans q11
          have e12 := (hSw.cell (p := ⟨g2, off2 + k * 13 + 12, none⟩) hgr2 (by simp)).trans q12
          try dsimp only at hSw
          go_simp
          try with_reducible rfl
        simp only [List.getElem_toArray, List.getElem_cons_succ, List.getElem_cons_zero, Act.put, List.setIfInBounds_toArray, List.set_cons_zero, List.set_cons_succ]
        clear p0 q0 p1 q1 p2 q2 p3 q3 p4 q4 p5 q5 p6 q6 p7 q7 p8 q8 p9 q9 p10 q10 p11 q11 p12 q12
        refine wpAnyH_ready (rs := [8]) (by kernel_rfl) (by simp) ?_
        refine AllReadyH.cons rfl (fun K hK => ?_) AllReadyH.nil
        go_simp
        refine (hrs _ (HK.out.keep (Only.trans (Only.drew (Only.refl [] wr)) hHeld)) (HK2.out.keep (Only.trans (Only.drew (Only.refl [] wr)) hHeld))).mono ?_
        rintro e y1 ⟨z, rfl, hz, ho⟩
        refine hK.out _ _ (by exact hHeld.trans ho) (fun hHeld' => ?_)
        clear hHeld hK K ho
        have hHeld := hHeld'
        clear hHeld'
        refine wpAnyH_take (i := 9) (v := ?_) rfl (by kernel_rfl) (by kernel_rfl) (by kernel_rfl) (fun _ _ _ h => h) (Or.inl ⟨by kernel_rfl, ?_⟩) (by assumption) ?_
        rotate_left
        · intro wS hSw
          try dsimp only at hSw
          go_simp
          try with_reducible rfl
        simp only [List.getElem_toArray, List.getElem_cons_succ, List.getElem_cons_zero, Act.put, List.setIfInBounds_toArray, List.set_cons_zero, List.set_cons_succ]
        refine wpAnyH_done (by kernel_rfl) ?_ _
        cases z with
        | true =>
          have HE : Hid (f = f2) := Lib.hid (hz.1 rfl)
          clear hz
          go_wp2_with fail
          go_roundg ((xs.map Prod.fst).length - (k + 1))
          case measure => simp; omega
          case rel => exact ⟨k + 1, rfl, by simp; omega, by simp <;> omega, Lib.hid (by rw [HTX.out, HTY.out, hT.out]; exact congrArg _ (congrArg (fun q => [q]) HE.out)), Lib.hid (hO.out.drew.trans hHeld)⟩
        | false =>
          have HN : Hid (¬ (xs.map Prod.fst = ys.map Prod.fst)) := Lib.hid (fun e => by cases hz.2 (HNE.out e))
          clear hz
          go_wp2_with fail
          go_ret
          exact ⟨false, rfl, ⟨fun h => (by cases h), fun h => absurd h HN.out⟩, hO.out.drew.trans hHeld⟩
      · obtain rfl : k = xs.length := by omega
        have hlt' : ¬ (xs.length : Int) < xs.length := by omega
        have HE : Hid (xs.map Prod.fst = ys.map Prod.fst) := Lib.hid (by
          have h := hT.out
          rw [List.take_of_length_le (by simp), List.take_of_length_le (by rw [List.length_map]; have := HL.out; omega)] at h
          exact h)
        clear hcs hcs2
        go_wp2_with fail
        go_ret
        exact ⟨true, rfl, ⟨fun _ => HE.out, fun _ => rfl⟩, hO.out⟩
  · have hl' : ((xs.length : Int) != (ys.length : Int)) = true := by simp; omega
    have HN : Hid (¬ (xs.map Prod.fst = ys.map Prod.fst)) := Lib.hid (fun e => hl (by have := congrArg List.length e; simpa using this))
    clear hl hcs hcs2
    go_enter Try.func28, Try.ntmps28
    go_wp2_with fail
    go_ret
    exact ⟨false, rfl, ⟨fun h => (by cases h), fun h => absurd h HN.out⟩, hor.out⟩
end Go.Proofs.Ytmmgmpghkpbgkaa
