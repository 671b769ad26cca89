/- The walk of FrameSequence. -/
import Derived.Test.YtmmgmpghkpbgkaaFtS
import Derived.Test.YtmmgmpghkpbgkaaFtD
import Derived.Test.YtmmgmpghkpbgkaaFtE
import Derived.Test.YtmmgmpghkpbgkaaArG
import Derived.Deep.LoopGhost
import Derived.Deep.CutRange
import Derived.Deep.CutBlock
import Derived.Lib.AppendZeros
namespace Go.Proofs.Ytmmgmpghkpbgkaa
open Go Go.RowKit
set_option linter.unusedVariables false
set_option linter.unusedSimpArgs false

theorem Fps.keep {w w' : World} {a : Option Addr} {len : Nat} (h : Fps w a len) (ho : Only [] w w') : Fps w' a len := by
  intro i hi
  obtain ⟨b, off, ty, A, B, C, s, fin, sv, SL, h1, h2, h3, h4, h5⟩ := h i hi
  exact ⟨b, off, ty, A, B, C, s, fin, sv, SL, h1, Nat.lt_of_lt_of_le h2 ho.size, fun j hj => (ho.cell (p := ⟨b, off + i * 7 + j, none⟩) h2 (by simp)).trans (h3 j hj), h4, h5.keep ho⟩
theorem only_grown {w w' : World} (h : w.grownBy w' none) : Only [] w w' := ⟨h.os, h.tape, h.output, h.size, fun k hk _ => h.block k hk (by simp)⟩
theorem encAll_ok (v : Value) (xs : List (Fr × Value)) (w : World) (t : List UInt8) (hS : FrSl w v xs) (hn : xs.length ≤ 1000000) (h : eaF (xs.map Prod.fst) = some t) :
    Calls Try.prog 35 #[v] w fun e w' => e = .returned (.tuple #[.string (strB t), .int .i64 0]) ∧ Only [] w w' :=
  (encAll_c v xs w hS hn).mono fun e w' ⟨h1, h2⟩ => ⟨by rw [h1, h]; rfl, h2⟩
theorem encAll_no (v : Value) (xs : List (Fr × Value)) (w : World) (hS : FrSl w v xs) (hn : xs.length ≤ 1000000) (h : eaF (xs.map Prod.fst) = none) :
    Calls Try.prog 35 #[v] w fun e w' => e = .returned (.tuple #[.string (strB []), .int .i64 90]) ∧ Only [] w w' :=
  (encAll_c v xs w hS hn).mono fun e w' ⟨h1, h2⟩ => ⟨by rw [h1, h]; rfl, h2⟩
theorem decAll_ok (s : ByteArray) (w : World) (L : List Fr) (hs : s.size ≤ 900000) (h : daF (s.size + 1) s.data.toList = some L) :
    Calls Try.prog 26 #[.string s] w fun e w' => ∃ v xs, e = .returned (.tuple #[v, .int .i64 0]) ∧ FrRow w' w.heap.size v xs ∧ xs.map Prod.fst = L ∧ Only [] w w' := by
  refine (decAll_c s hs w).mono fun e w' ⟨h1, h2⟩ => ?_
  rw [h] at h2
  obtain ⟨v, xs, a, b, c⟩ := h2
  exact ⟨v, xs, a, b, c, h1⟩
/-- Frames as FrameFrom builds them. -/
def Gen (xs : List (Fr × Value)) : Prop := ∀ x ∈ xs, ∃ s, encF x.1 = some s
def SqRel (w : World) (gk : Nat) (av iv : Value) (wr : World) : Prop := ∃ (k : Nat) (xs : List (Fr × Value)), gk = 10 - k ∧ k ≤ 10 ∧ iv = .int .i64 k ∧ xs.length = k ∧ Hid (Gen xs) ∧ Hid (FrRow wr w.heap.size av xs) ∧ Hid (Below w.heap.size w wr)
def SqOut (w : World) (av : Value) (wr : World) : Prop := ∃ xs : List (Fr × Value), xs.length ≤ 10 ∧ Gen xs ∧ FrRow wr w.heap.size av xs ∧ Below w.heap.size w wr
set_option maxRecDepth 100000 in
set_option maxHeartbeats 8000000 in
theorem seq_walk (a : Option Addr) (len cap : Nat) (a2 : Option Addr) (len2 cap2 : Nat) (w : World) (hP : Fps w a len) (hQ : Fps w a2 len2) :
    Calls Try.prog 11 #[.slice a len cap, .slice a2 len2 cap2] w fun e w' => e = .returned (.bool true) ∧ Below w.heap.size w w' := by
  have HP := Lib.hid hP
  have HQ := Lib.hid hQ
  clear hP hQ
  go_enter Try.func11, Try.ntmps11
  go_wp2_with fail
  refine (sane9 _).mono ?_
  rintro e w1 ⟨rfl, ho⟩
  have HO1 := Lib.hid ho
  clear ho
  go_upto_block 0 with fail
  go_cut [6, 8] from 22 to 39 (fun s6 s8 wx => SqOut w1 s6 wx)
  case first =>
      go_wp2_with fail
      go_loopg [6, 8] 10 (fun gk av iv wr => SqRel w1 gk av iv wr)
      case atStart => exact ⟨0, [], rfl, by omega, rfl, rfl, Lib.hid (fun x hx => by cases hx), Lib.hid (FrRow.nil _ _), Lib.hid (Below.refl _ _)⟩
      case round =>
        obtain ⟨k, xs, rfl, hk, rfl, hxl, hV, hG, hB⟩ := hrel
        have HXL := Lib.hid hxl
        clear hxl
        obtain ⟨oa, oc, rfl⟩ := hG.out.shape
        by_cases hin : k < len ∧ k < 10
        · obtain ⟨hk1, hk2⟩ := hin
          have hk1' : (k : Int) < len := by omega
          have hk2' : (k : Int) < 10 := by omega
          obtain ⟨b, off, ty, A, B, C, s, fin, sv, SL, rfl, hb, hc, hF, hS⟩ := HP.out k hk1
          have hbo : Only [] w wr := HO1.out.trans (Only.of_below hB.out)
          have hcw := fun j hj => (hbo.cell (p := ⟨b, off + k * 7 + j, none⟩) hb (by simp)).trans (hc j hj)
          obtain ⟨sa, sc, rfl, hsx⟩ := hS
          have hff := frameFrom_c ty A B C s fin (.slice sa SL.length sc) SL wr (RgAt.keep ⟨sa, sc, rfl, hsx⟩ hbo) hF
          simp only [fpC] at hff
          have c0 : wr.cell? ⟨b, off + k * 7, none⟩ = some (.int .i64 ty) := hcw 0 (by omega)
          have c1 : wr.cell? ⟨b, off + k * 7 + 1, none⟩ = some (.int .i64 A) := hcw 1 (by omega)
          have c2 : wr.cell? ⟨b, off + k * 7 + 2, none⟩ = some (.int .i64 B) := hcw 2 (by omega)
          have c3 : wr.cell? ⟨b, off + k * 7 + 3, none⟩ = some (.int .i64 C) := hcw 3 (by omega)
          have c4 : wr.cell? ⟨b, off + k * 7 + 4, none⟩ = some (.string s) := hcw 4 (by omega)
          have c5 : wr.cell? ⟨b, off + k * 7 + 5, none⟩ = some (.bool fin) := hcw 5 (by omega)
          have c6 : wr.cell? ⟨b, off + k * 7 + 6, none⟩ = some (.slice sa SL.length sc) := hcw 6 (by omega)
          have f9 : IntKind.i64.wrap ((k : Int) + 1) = ((k + 1 : Nat) : Int) := by rw [show (k : Int) + 1 = ((k + 1 : Nat) : Int) by omega]; exact IntWalk.i64_in _ (by omega)
          clear hcw hc hsx hbo
          go_wp2_with fail
          refine hff.mono ?_
          rintro e w4 ⟨f, rv, t, rfl, hok, hnew, hen, _, ho⟩
          obtain ⟨ra, rc, hrv, hrx⟩ := hok.rg
          subst hrv
          have hoff : RgOff (Value.ownBlock (.slice oa xs.length oc)) (f, .slice ra f.rg.length rc) := fun hne' g n c e' hb' => by
            have h1 := hnew _ _ _ e'
            have h2 := (World.ownsRow.lt hG.out.own _ hb').2
            omega
          have hB4 := hB.out.trans (ho.below (by simp) hB.out.size)
          obtain ⟨v', w6, eA, hG6, hB6, _⟩ := (hG.out.keep ho).push f (.slice ra f.rg.length rc) hok hoff (by have := HXL.out; omega) (Nat.le_trans hB.out.size ho.size)
          obtain ⟨va, vc, rfl⟩ : ∃ va vc, v' = .slice va (xs ++ [(f, Value.slice ra f.rg.length rc)]).length vc := hG6.shape
          have HG6 := Lib.hid hG6
          have HB6 := Lib.hid (hB4.trans hB6)
          have HV6 : Hid (Gen (xs ++ [(f, Value.slice ra f.rg.length rc)])) := Lib.hid (fun x hx => by
            rcases List.mem_append.1 hx with hx | hx
            · exact hV.out x hx
            · rw [List.mem_singleton] at hx; subst hx; exact ⟨t, hen⟩)
          clear hrx hok hnew hen ho hoff hB4 hG6 hB6 hG hB hV c0 c1 c2 c3 c4 c5 c6
          simp only [frC]
          go_wp2_with (at_builtin; refine Lib.wpList_append_run _ rfl _ _ _ _ rfl _ _ rfl rfl _ _ (eA _) ?_)
          go_roundg (10 - (k + 1))
          case measure => omega
          case rel => exact ⟨k + 1, xs ++ [(f, Value.slice ra f.rg.length rc)], rfl, by omega, by simp <;> omega, by simp [HXL.out], HV6, Lib.hid (by simpa using HG6.out), HB6⟩
        · by_cases hl1 : (k : Int) < len
          · have hl2 : ¬ (k : Int) < 10 := fun h => hin ⟨by omega, by omega⟩
            obtain ⟨b, off, ty, A, B, C, s, fin, sv, SL, rfl, _⟩ := HP.out k (by omega)
            go_wp2_with fail
            go_meet
            exact ⟨xs, by have := HXL.out; omega, hV.out, hG.out, hB.out⟩
          · go_wp2_with fail
            go_meet
            exact ⟨xs, by have := HXL.out; omega, hV.out, hG.out, hB.out⟩
  case rest =>
  obtain ⟨xs, hx1, hx2, hx3, hx4⟩ := hcut
  obtain ⟨oa, oc, rfl⟩ := hx3.shape
  have HX1 := Lib.hid hx1
  have HX2 := Lib.hid hx2
  have HX3 := Lib.hid hx3
  have HO2 := Lib.hid (HO1.out.trans (Only.of_below hx4))
  clear hx1 hx2 hx3 hx4
  go_upto_block 2 with fail
  go_cut [7, 9] from 40 to 57 (fun s6 s8 wx => SqOut wc s6 wx)
  case first =>
      go_wp2_with fail
      go_loopg [7, 9] 10 (fun gk av iv wr => SqRel wc gk av iv wr)
      case atStart => exact ⟨0, [], rfl, by omega, rfl, rfl, Lib.hid (fun x hx => by cases hx), Lib.hid (FrRow.nil _ _), Lib.hid (Below.refl _ _)⟩
      case round =>
        obtain ⟨k, xs, rfl, hk, rfl, hxl, hV, hG, hB⟩ := hrel
        have HXL := Lib.hid hxl
        clear hxl
        obtain ⟨oa, oc, rfl⟩ := hG.out.shape
        by_cases hin : k < len2 ∧ k < 10
        · obtain ⟨hk1, hk2⟩ := hin
          have hk1' : (k : Int) < len2 := by omega
          have hk2' : (k : Int) < 10 := by omega
          obtain ⟨b, off, ty, A, B, C, s, fin, sv, SL, rfl, hb, hc, hF, hS⟩ := HQ.out k hk1
          have hbo : Only [] w wr := HO2.out.trans (Only.of_below hB.out)
          have hcw := fun j hj => (hbo.cell (p := ⟨b, off + k * 7 + j, none⟩) hb (by simp)).trans (hc j hj)
          obtain ⟨sa, sc, rfl, hsx⟩ := hS
          have hff := frameFrom_c ty A B C s fin (.slice sa SL.length sc) SL wr (RgAt.keep ⟨sa, sc, rfl, hsx⟩ hbo) hF
          simp only [fpC] at hff
          have c0 : wr.cell? ⟨b, off + k * 7, none⟩ = some (.int .i64 ty) := hcw 0 (by omega)
          have c1 : wr.cell? ⟨b, off + k * 7 + 1, none⟩ = some (.int .i64 A) := hcw 1 (by omega)
          have c2 : wr.cell? ⟨b, off + k * 7 + 2, none⟩ = some (.int .i64 B) := hcw 2 (by omega)
          have c3 : wr.cell? ⟨b, off + k * 7 + 3, none⟩ = some (.int .i64 C) := hcw 3 (by omega)
          have c4 : wr.cell? ⟨b, off + k * 7 + 4, none⟩ = some (.string s) := hcw 4 (by omega)
          have c5 : wr.cell? ⟨b, off + k * 7 + 5, none⟩ = some (.bool fin) := hcw 5 (by omega)
          have c6 : wr.cell? ⟨b, off + k * 7 + 6, none⟩ = some (.slice sa SL.length sc) := hcw 6 (by omega)
          have f9 : IntKind.i64.wrap ((k : Int) + 1) = ((k + 1 : Nat) : Int) := by rw [show (k : Int) + 1 = ((k + 1 : Nat) : Int) by omega]; exact IntWalk.i64_in _ (by omega)
          clear hcw hc hsx hbo
          go_wp2_with fail
          refine hff.mono ?_
          rintro e w4 ⟨f, rv, t, rfl, hok, hnew, hen, _, ho⟩
          obtain ⟨ra, rc, hrv, hrx⟩ := hok.rg
          subst hrv
          have hoff : RgOff (Value.ownBlock (.slice oa xs.length oc)) (f, .slice ra f.rg.length rc) := fun hne' g n c e' hb' => by
            have h1 := hnew _ _ _ e'
            have h2 := (World.ownsRow.lt hG.out.own _ hb').2
            omega
          have hB4 := hB.out.trans (ho.below (by simp) hB.out.size)
          obtain ⟨v', w6, eA, hG6, hB6, _⟩ := (hG.out.keep ho).push f (.slice ra f.rg.length rc) hok hoff (by have := HXL.out; omega) (Nat.le_trans hB.out.size ho.size)
          obtain ⟨va, vc, rfl⟩ : ∃ va vc, v' = .slice va (xs ++ [(f, Value.slice ra f.rg.length rc)]).length vc := hG6.shape
          have HG6 := Lib.hid hG6
          have HB6 := Lib.hid (hB4.trans hB6)
          have HV6 : Hid (Gen (xs ++ [(f, Value.slice ra f.rg.length rc)])) := Lib.hid (fun x hx => by
            rcases List.mem_append.1 hx with hx | hx
            · exact hV.out x hx
            · rw [List.mem_singleton] at hx; subst hx; exact ⟨t, hen⟩)
          clear hrx hok hnew hen ho hoff hB4 hG6 hB6 hG hB hV c0 c1 c2 c3 c4 c5 c6
          simp only [frC]
          go_wp2_with (at_builtin; refine Lib.wpList_append_run _ rfl _ _ _ _ rfl _ _ rfl rfl _ _ (eA _) ?_)
          go_roundg (10 - (k + 1))
          case measure => omega
          case rel => exact ⟨k + 1, xs ++ [(f, Value.slice ra f.rg.length rc)], rfl, by omega, by simp <;> omega, by simp [HXL.out], HV6, Lib.hid (by simpa using HG6.out), HB6⟩
        · by_cases hl1 : (k : Int) < len2
          · have hl2 : ¬ (k : Int) < 10 := fun h => hin ⟨by omega, by omega⟩
            obtain ⟨b, off, ty, A, B, C, s, fin, sv, SL, rfl, _⟩ := HQ.out k (by omega)
            go_wp2_with fail
            go_meet
            exact ⟨xs, by have := HXL.out; omega, hV.out, hG.out, hB.out⟩
          · go_wp2_with fail
            go_meet
            exact ⟨xs, by have := HXL.out; omega, hV.out, hG.out, hB.out⟩
  case rest =>
  obtain ⟨ys, hy1, hy2, hy3, hy4⟩ := hcut
  obtain ⟨ob, od, rfl⟩ := hy3.shape
  rename_i wd
  have HY1 := Lib.hid hy1
  have HA := Lib.hid (HX3.out.keep (Only.of_below hy4))
  have HB := Lib.hid hy3
  have HO := Lib.hid (HO2.out.trans (Only.of_below hy4))
  have hi1 : ∀ f ∈ xs.map Prod.fst, InR f.rg := fun f hf => by
    obtain ⟨x, hx, rfl⟩ := List.mem_map.1 hf
    exact (HX3.out.ok x hx).inr
  have hi2 : ∀ f ∈ ys.map Prod.fst, InR f.rg := fun f hf => by
    obtain ⟨x, hx, rfl⟩ := List.mem_map.1 hf
    exact (hy3.ok x hx).inr
  obtain ⟨t1, ht1, hl1⟩ := eaF_all (xs.map Prod.fst) (fun f hf => by
    obtain ⟨x, hx, rfl⟩ := List.mem_map.1 hf
    exact HX2.out x hx)
  obtain ⟨t2, ht2, hl2⟩ := eaF_all (ys.map Prod.fst) (fun f hf => by
    obtain ⟨x, hx, rfl⟩ := List.mem_map.1 hf
    exact hy2 x hx)
  rw [List.length_map] at hl1 hl2
  have hz1 : (strB t1).size ≤ 60010 := by rw [strB_size]; have := HX1.out; omega
  have hz2 : (strB t2).size ≤ 60010 := by rw [strB_size]; have := HY1.out; omega
  have ht3 : eaF ((xs ++ ys).map Prod.fst) = some (t1 ++ t2) := by rw [List.map_append]; exact eaF_app ht1 ht2
  have hbad : eaF ((xs ++ [(Fr.zero 3, Value.slice none 0 0)]).map Prod.fst) = none := by
    rw [List.map_append]
    exact eaF_bad ht1 (encF_no2 (f := Fr.zero 3) rfl)
  have ec : strB t1 ++ strB t2 = strB (t1 ++ t2) := (strB_app _ _).symm
  have hda : daF ((strB (t1 ++ t2)).size + 1) (strB (t1 ++ t2)).data.toList = some ((xs ++ ys).map Prod.fst) := by
    rw [strB_list, strB_size]
    refine daF_eaF _ _ ht3 (fun f hf => ?_) ?_
    · rw [List.map_append] at hf
      rcases List.mem_append.1 hf with hf | hf
      · exact hi1 f hf
      · exact hi2 f hf
    · have := eaF_len _ ht3
      omega
  have hzz : (strB (t1 ++ t2)).size ≤ 120020 := by rw [← ec, ByteArray.size_append]; omega
  have hzc : ¬ 9223372036854775807 < (strB t1).size + (strB t2).size := by omega
  have e1 := fun ww hh => encAll_ok (.slice oa xs.length oc) xs ww t1 hh (by have := HX1.out; omega) ht1
  have e2 := fun ww hh => encAll_ok (.slice ob ys.length od) ys ww t2 hh (by have := HY1.out; omega) ht2
  have e3 := fun v ww hh => encAll_ok v (xs ++ ys) ww (t1 ++ t2) hh (by have := HX1.out; have := HY1.out; simp; omega) ht3
  have e4 := fun v ww hh => encAll_no v (xs ++ [(Fr.zero 3, Value.slice none 0 0)]) ww hh (by have := HX1.out; simp; omega) hbad
  have ed := fun ww => decAll_ok (strB (t1 ++ t2)) ww _ (by omega) hda
  obtain ⟨al, hal⟩ : ∃ al, xs ++ ys = al := ⟨_, rfl⟩
  obtain ⟨bl, hbl⟩ : ∃ bl, xs ++ [(Fr.zero 3, Value.slice none 0 0)] = bl := ⟨_, rfl⟩
  have HAL : Hid (al.length ≤ 20) := Lib.hid (by rw [← hal]; have := HX1.out; have := HY1.out; simp; omega)
  have HBL := Lib.hid hbl
  have HAE := Lib.hid hal
  simp only [hal] at e3 ed
  simp only [hbl] at e4
  clear hal hbl
  clear hi1 hi2 hl1 hl2 ht1 ht2 ht3 hbad hda hy1 hy2 hy3 hy4 HX2 HX3 HO2
  generalize strB (t1 ++ t2) = X at ec hzz e3 ed
  generalize strB t1 = X1 at ec hzc e1 hz1
  generalize strB t2 = X2 at ec hzc e2 hz2
  go_wp2_with fail
  refine (e1 _ HA.out.sl).mono ?_
  rintro e w3 ⟨rfl, ho⟩
  replace HA := Lib.hid (HA.out.keep ho)
  replace HB := Lib.hid (HB.out.keep ho)
  replace HO := Lib.hid (HO.out.trans ho)
  clear ho e1
  go_wp2_with fail
  refine (e2 _ HB.out.sl).mono ?_
  rintro e w5 ⟨rfl, ho⟩
  replace HA := Lib.hid (HA.out.keep ho)
  replace HB := Lib.hid (HB.out.keep ho)
  replace HO := Lib.hid (HO.out.trans ho)
  clear ho e2
  obtain ⟨v1, w6, eA1, r1, g1, k1⟩ := (FrRow.nil w5 w5.heap.size).cat HA.out (fun x _ => RgOff.none x) (by have := HX1.out; simp; omega) (Nat.le_refl _)
  rw [List.nil_append] at r1
  have o1 : Only [] w5 w6 := only_grown g1
  obtain ⟨v2, w7, eA2, r2, g2, k2⟩ := r1.cat (HB.out.keep o1) (fun x hx => RgOff.new (HB.out.ok x hx) (RgOff.none x) k1) (by have := HX1.out; have := HY1.out; omega) o1.size
  have o2 : Only [] w5 w7 := Only.of_below ((o1.below (B := w5.heap.size) (by simp) (Nat.le_refl _)).grown g2 o1.size (fun j e => (World.ownsRow.lt r1.own j e).1))
  rw [HAE.out] at r2
  obtain ⟨q1, p1, rfl⟩ := r1.shape
  obtain ⟨q2, p2, rfl⟩ := r2.shape
  replace HA := Lib.hid (HA.out.keep o2)
  have HC := Lib.hid r2
  replace HO := Lib.hid (HO.out.trans o2)
  clear HB r1 g1 k1 r2 g2 k2 o1 o2
  go_wp2_with (at_builtin; first | (refine Lib.wpList_append_run _ rfl _ _ _ _ rfl _ _ rfl rfl _ _ (eA1 _) ?_; clear eA1) | (refine Lib.wpList_append_run _ rfl _ _ _ _ rfl _ _ rfl rfl _ _ (eA2 _) ?_; clear eA2))
  refine (e3 _ _ HC.out.sl).mono ?_
  rintro e w8 ⟨rfl, ho⟩
  replace HA := Lib.hid (HA.out.keep ho)
  replace HC := Lib.hid (HC.out.keep ho)
  replace HO := Lib.hid (HO.out.trans ho)
  clear ho e3
  go_wp2_with fail
  refine (ed _).mono ?_
  rintro e w9 ⟨vd, zs, rfl, hzs, hm, ho⟩
  obtain ⟨q3, p3, rfl⟩ := hzs.shape
  have HD := Lib.hid hzs
  have HM := Lib.hid hm
  replace HA := Lib.hid (HA.out.keep ho)
  replace HC := Lib.hid (HC.out.keep ho)
  replace HO := Lib.hid (HO.out.trans ho)
  clear ho ed hzs hm
  obtain ⟨v3, w10, eA3, r3, g3, k3⟩ := (FrRow.nil w9 w9.heap.size).cat HA.out (fun x _ => RgOff.none x) (by have := HX1.out; simp; omega) (Nat.le_refl _)
  rw [List.nil_append] at r3
  have o3 : Only [] w9 w10 := only_grown g3
  obtain ⟨v4, w11, eA4, r4, hB4, _⟩ := r3.push (Fr.zero 3) (.slice none 0 0) (okZ w10 _ (by constructor <;> simp [Fr.zero]) (by simp [Fr.zero]) rfl) (fun h => absurd rfl h) (by have := HX1.out; omega) o3.size
  have o4 : Only [] w9 w11 := only_bl o3 hB4
  rw [HBL.out] at r4
  obtain ⟨q4, p4, rfl⟩ := r3.shape
  obtain ⟨q5, p5, rfl⟩ := r4.shape
  replace HC := Lib.hid (HC.out.keep o4)
  replace HD := Lib.hid (HD.out.keep o4)
  have HE := Lib.hid r4
  replace HO := Lib.hid (HO.out.trans o4)
  clear HA r3 g3 k3 r4 hB4 o3 o4
  go_wp2_with (at_builtin; first | (refine Lib.wpList_append_run _ rfl _ _ _ _ rfl _ _ rfl rfl _ _ (eA3 _) ?_; clear eA3) | (refine Lib.wpList_append_run _ rfl _ _ _ _ rfl _ _ rfl rfl _ _ (eA4 _) ?_; clear eA4))
  refine (e4 _ _ HE.out.sl).mono ?_
  rintro e w12 ⟨rfl, ho⟩
  replace HC := Lib.hid (HC.out.keep ho)
  replace HD := Lib.hid (HD.out.keep ho)
  replace HO := Lib.hid (HO.out.trans ho)
  clear ho e4 HE
  go_wp2_with fail
  refine (sameAll_c _ _ zs al _ HD.out.sl HC.out.sl (by have h1 := congrArg List.length HM.out; have := HAL.out; simp at h1; omega)).mono ?_
  rintro e w13 ⟨z, rfl, hz, ho⟩
  obtain rfl : z = true := hz.2 HM.out
  replace HO := Lib.hid (HO.out.trans ho)
  clear ho hz
  go_wp2_with fail
  go_ret
  exact ⟨rfl, HO.out.below (by simp) (Nat.le_refl _)⟩
end Go.Proofs.Ytmmgmpghkpbgkaa
