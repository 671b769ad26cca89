/- Contracts of package frame: DecodeAll. -/
import Derived.Test.YtgiekhohhogdiaaDoorRfP
import Derived.Deep.LoopGhost
import Derived.Lib.AppendZeros
namespace Go.Proofs.YtgiekhohhogdiaaDoor
open Go Go.RowKit
set_option linter.unusedVariables false
set_option linter.unusedSimpArgs false

/-- All the frames of some bytes; n bounds their number. -/
noncomputable def daF : Nat → List UInt8 → Option (List Fr)
  | 0, _ => none
  | n + 1, l => if l = [] then some [] else match decF l with
    | none => none
    | some (f, r) => (daF n r).map (f :: ·)
theorem decF_less {l r : List UInt8} {f : Fr} (h : decF l = some (f, r)) : r.length < l.length := by
  obtain ⟨s, hs, rfl, _⟩ := enc_dec h
  have := encF_len hs
  simp only [List.length_append]
  omega
def DaQ (R : Option (List Fr)) (w : World) (e : Ending) (w' : World) : Prop := Only [] w w' ∧ match R with
  | some L => ∃ v xs, e = .returned (.tuple #[v, .int .i64 0]) ∧ FrRow w' w.heap.size v xs ∧ xs.map Prod.fst = L
  | none => e = .returned (.tuple #[.slice none 0 0, .int .i64 90])
theorem DaQ.good {R : Option (List Fr)} {w w' : World} {v : Value} {xs : List (Fr × Value)} (hR : R = some (xs.map Prod.fst)) (ho : Only [] w w') (h : FrRow w' w.heap.size v xs) : DaQ R w (.returned (.tuple #[v, .int .i64 0])) w' := by
  subst hR; exact ⟨ho, v, xs, rfl, h, rfl⟩
theorem DaQ.bad {R : Option (List Fr)} {w w' : World} (hR : R = none) (ho : Only [] w w') : DaQ R w (.returned (.tuple #[.slice none 0 0, .int .i64 90])) w' := by
  subst hR; exact ⟨ho, rfl⟩
def DaRel (s : ByteArray) (R : Option (List Fr)) (w : World) (gk : Nat) (ov av : Value) (wr : World) : Prop := ∃ (a : Nat) (xs : List (Fr × Value)), gk = s.size - a ∧ a ≤ s.size ∧ av = .int .i64 a ∧ xs.length ≤ a ∧ Hid (FrRow wr w.heap.size ov xs) ∧
  Hid (R = (daF (s.size + 1 - xs.length) (s.data.toList.drop a)).map (xs.map Prod.fst ++ ·)) ∧ Hid (Only [] w wr)
set_option maxRecDepth 100000 in
set_option maxHeartbeats 4000000 in
theorem decAll_c (s : ByteArray) (hs : s.size ≤ 900000) (w : World) :
    Calls Tryd.prog 9 #[.string s] w (DaQ (daF (s.size + 1) s.data.toList) w) := by
  obtain ⟨R, hR⟩ : ∃ R, daF (s.size + 1) s.data.toList = R := ⟨_, rfl⟩
  rw [hR]
  have hor := Lib.hid (Only.refl [] w)
  have HRR : Hid (R = (daF (s.size + 1 - 0) (s.data.toList.drop 0)).map (([] : List (Fr × Value)).map Prod.fst ++ ·)) := Lib.hid (by rw [← hR]; simp)
  clear hR
  go_enter Tryd.func9, Tryd.ntmps9
  go_wp2_with fail
  go_loopg [4, 5] s.size (fun gk ov av wr => DaRel s R w gk ov av wr)
  case atStart => exact ⟨0, [], by simp, by omega, rfl, by simp, Lib.hid (FrRow.nil _ _), HRR, hor⟩
  case round =>
    obtain ⟨a, xs, rfl, ha, rfl, hxl, hG, hD, hO⟩ := hrel
    clear hor HRR
    obtain ⟨oa, oc, rfl⟩ := hG.out.shape
    by_cases hlt : a < s.size
    · have hlt' : (a : Int) < s.size := by omega
      have hdc := decode_c s a hlt (by omega) wr
      obtain ⟨m, hm⟩ : ∃ m, s.size + 1 - xs.length = m + 1 := ⟨s.size - xs.length, by omega⟩
      have hne : s.data.toList.drop a ≠ [] := by
        intro e; have := congrArg List.length e; rw [drop_len] at this; simp at this; omega
      cases hq : decF (s.data.toList.drop a) with
      | none =>
        have HF : Hid (R = none) := Lib.hid (by rw [hD.out, hm]; simp only [daF]; rw [if_neg hne, hq]; rfl)
        rw [hq] at hdc
        clear hq
        go_wp2_with fail
        refine hdc.mono ?_
        rintro e w4 ⟨ho, rfl⟩
        have HO4 := Lib.hid (hO.out.trans ho)
        clear ho hdc hG hD hO
        simp only [zeroFrV, frC, Fr.zero]
        go_wp2_with fail
        refine ⟨rfl, .tuple #[.slice none 0 0, .int .i64 90], ?_, DaQ.bad HF.out (HO4.out.alloc _)⟩
        simp [results, Tryd.f9, go_sem]
      | some p =>
        obtain ⟨f, l1⟩ := p
        have hless := decF_less hq
        have HF : Hid (R = (daF m l1).map ((xs.map Prod.fst ++ [f]) ++ ·)) := Lib.hid (by
          rw [hD.out, hm]
          simp only [daF]
          rw [if_neg hne, hq]
          simp only [Option.map_map]
          congr 1
          funext L
          simp)
        rw [hq] at hdc
        clear hq
        go_wp2_with fail
        refine hdc.mono ?_
        rintro e w4 ⟨ho, rv, a', rfl, hok, hnew, ha', rfl⟩
        rw [drop_len, drop_len] at hless
        obtain ⟨ra, rc, rfl, hrx⟩ := hok.rg
        have HK := Lib.hid hok
        have HOf : Hid (RgOff (Value.ownBlock (.slice oa xs.length oc)) (f, .slice ra f.rg.length rc)) := Lib.hid (fun hne' g n c e' hb => by
          have h1 := hnew _ _ _ e'
          have h2 := (World.ownsRow.lt hG.out.own _ hb).2
          omega)
        have HG4 := Lib.hid (hG.out.keep ho)
        have HO4 := Lib.hid (hO.out.trans ho)
        clear hrx hok hnew ho hG hO hdc
        simp only [frC]
        go_upto_region 5 with fail
        have hA5 := At.new w4 33 #[.int .i64 f.ty, .int .i64 f.st, .int .i64 f.off, .string (strB f.S), .bool f.fin, .int .i64 f.mx, .int .i64 f.cd, .bool f.uni, .int .i64 f.dl, .slice ra f.rg.length rc, .int .i64 f.sq, .int .i64 f.rt, .string (strB f.cid)]
        have hO5 := HO4.out.alloc (.cells #[.int .i64 f.ty, .int .i64 f.st, .int .i64 f.off, .string (strB f.S), .bool f.fin, .int .i64 f.mx, .int .i64 f.cd, .bool f.uni, .int .i64 f.dl, .slice ra f.rg.length rc, .int .i64 f.sq, .int .i64 f.rt, .string (strB f.cid)] 33)
        have hG5 := HG4.out.keep ((Only.refl [] w4).alloc (.cells #[.int .i64 f.ty, .int .i64 f.st, .int .i64 f.off, .string (strB f.S), .bool f.fin, .int .i64 f.mx, .int .i64 f.cd, .bool f.uni, .int .i64 f.dl, .slice ra f.rg.length rc, .int .i64 f.sq, .int .i64 f.rt, .string (strB f.cid)] 33))
        have hK5 := HK.out.keep ((Only.refl [] w4).alloc (.cells #[.int .i64 f.ty, .int .i64 f.st, .int .i64 f.off, .string (strB f.S), .bool f.fin, .int .i64 f.mx, .int .i64 f.cd, .bool f.uni, .int .i64 f.dl, .slice ra f.rg.length rc, .int .i64 f.sq, .int .i64 f.rt, .string (strB f.cid)] 33))
        generalize w4.alloc (.cells #[.int .i64 f.ty, .int .i64 f.st, .int .i64 f.off, .string (strB f.S), .bool f.fin, .int .i64 f.mx, .int .i64 f.cd, .bool f.uni, .int .i64 f.dl, .slice ra f.rg.length rc, .int .i64 f.sq, .int .i64 f.rt, .string (strB f.cid)] 33) = w5 at hA5 hO5 hG5 hK5 ⊢
        generalize w4.heap.size = b at hA5 ⊢
        have d0 : w5.cell? ⟨b, 0, none⟩ = some (.int .i64 f.ty) := hA5.cell 0 rfl
        have d1 : w5.cell? ⟨b, 1, none⟩ = some (.int .i64 f.st) := hA5.cell 1 rfl
        have d2 : w5.cell? ⟨b, 2, none⟩ = some (.int .i64 f.off) := hA5.cell 2 rfl
        have d3 : w5.cell? ⟨b, 3, none⟩ = some (.string (strB f.S)) := hA5.cell 3 rfl
        have d4 : w5.cell? ⟨b, 4, none⟩ = some (.bool f.fin) := hA5.cell 4 rfl
        have d5 : w5.cell? ⟨b, 5, none⟩ = some (.int .i64 f.mx) := hA5.cell 5 rfl
        have d6 : w5.cell? ⟨b, 6, none⟩ = some (.int .i64 f.cd) := hA5.cell 6 rfl
        have d7 : w5.cell? ⟨b, 7, none⟩ = some (.bool f.uni) := hA5.cell 7 rfl
        have d8 : w5.cell? ⟨b, 8, none⟩ = some (.int .i64 f.dl) := hA5.cell 8 rfl
        have d9 : w5.cell? ⟨b, 9, none⟩ = some (.slice ra f.rg.length rc) := hA5.cell 9 rfl
        have d10 : w5.cell? ⟨b, 10, none⟩ = some (.int .i64 f.sq) := hA5.cell 10 rfl
        have d11 : w5.cell? ⟨b, 11, none⟩ = some (.int .i64 f.rt) := hA5.cell 11 rfl
        have d12 : w5.cell? ⟨b, 12, none⟩ = some (.string (strB f.cid)) := hA5.cell 12 rfl
        obtain ⟨v', w6, eA, hG6, hB6, hkp⟩ := hG5.push f (.slice ra f.rg.length rc) hK5 HOf.out (by omega) hO5.size
        obtain ⟨va, vc, rfl⟩ : ∃ va vc, v' = .slice va (xs ++ [(f, Value.slice ra f.rg.length rc)]).length vc := hG6.shape
        have HG6 := Lib.hid hG6
        have HO6 : Hid (Only [] w w6) := Lib.hid (only_bl hO5 hB6)
        clear hG6 hB6 hkp hA5 hO5 hG5 hK5
        go_wp2_with (at_builtin; refine Lib.wpList_append_run _ rfl _ _ _ _ rfl _ _ rfl rfl _ _ (eA _) ?_)
        go_roundg (s.size - a')
        case measure => omega
        case rel =>
          refine ⟨a', xs ++ [(f, Value.slice ra f.rg.length rc)], rfl, ha', rfl, by simp; omega, by simpa using HG6, Lib.hid ?_, HO6⟩
          rw [HF.out]
          simp only [List.map_append, List.map_cons, List.map_nil, List.length_append, List.length_cons, List.length_nil]
          rw [show s.size + 1 - (xs.length + (0 + 1)) = m by omega]
    · obtain rfl : a = s.size := by omega
      have hlt' : ¬ (s.size : Int) < s.size := by omega
      have HF : Hid (R = some (xs.map Prod.fst)) := Lib.hid (by
        obtain ⟨m, hm⟩ : ∃ m, s.size + 1 - xs.length = m + 1 := ⟨s.size - xs.length, by omega⟩
        rw [hD.out, hm]
        simp only [daF]
        rw [if_pos (List.length_eq_zero_iff.1 (by rw [drop_len]; omega))]
        simp)
      go_wp2_with fail
      refine ⟨rfl, .tuple #[.slice oa xs.length oc, .int .i64 0], ?_, DaQ.good HF.out hO.out hG.out⟩
      simp [results, Tryd.f9, go_sem]
end Go.Proofs.YtgiekhohhogdiaaDoor
