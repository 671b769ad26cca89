/- ReassemblyFlowControlled: the walk. -/
import Derived.Test.YtnnmmmeppbdlnaaDoorFoM
import Derived.Laws.Cover1
import Derived.Lib.AppendZeros
import Derived.Deep.RegionHeld3
namespace Go.Proofs.YtnnmmmeppbdlnaaDoor
open Go Go.RowKit
set_option linter.unusedVariables false
set_option linter.unusedSectionVars false
set_option linter.unusedSimpArgs false

def FRel (B base b0 g0 h0 rb sb : Nat) (c f r g : Addr) (w : World) (W N : Nat) (gk : Nat) (s15 s16 s17 s18 : Value) (wr : World) : Prop :=
  ∃ (i got sent m h : Nat) (L : List (Nat × Nat)) (x : Bf), gk = 4000 - i ∧ i ≤ 4000 ∧ s15 = .string (cutS 0 got) ∧ s16 = .int .i64 sent ∧ s18 = .int .i64 i ∧
    Mm B base b0 g0 h0 rb sb c f r g w W got sent m h s17 L x wr ∧ Fv W N got sent m h L x ∧ Lv N got sent L i ∧ L.length ≤ i
def dfl (i : Nat) : Sp := ⟨(i : Int) % 3 == 2, 50, (i : Int) % 3, ⟨#[]⟩, false⟩
theorem dfl_ok (i : Nat) : Dflt i (dfl i) := fun _ => ⟨by simp only [dfl]; rw [Bool.eq_iff_iff]; simp; omega, rfl, by simp [dfl], rfl⟩
theorem dfl_wn (i : Nat) : (Lit.int .i64 (dfl i).n).wf = true := by show (Lit.int .i64 50).wf = true; decide
theorem dfl_wf (i : Nat) : (Lit.int .i64 (dfl i).off).wf = true := by
  simp [dfl, Lit.wf, IntKind.min, IntKind.max, IntKind.signed, IntKind.bits]
  omega
set_option maxRecDepth 100000 in
set_option maxHeartbeats 12000000 in
theorem flow_walk (a0 a1 : Int) (a : Option Addr) (len cap : Nat) (V : Nat → Sp) (w : World) (v0 : (Lit.int .i64 a0).wf = true) (v1 : (Lit.int .i64 a1).wf = true) (hl : Steps w a len V) (c f r g : Addr) (hS : Snt w.heap.size c f r g w) :
    Calls Tryd.prog 10 #[.int .i64 a0, .int .i64 a1, .slice a len cap] w fun e w' => e = .returned (.bool true) ∧ Below w.heap.size w w' := by
  obtain ⟨W0, k0, q0⟩ := pick_nat a0 200 (by omega)
  obtain ⟨W, e0⟩ : ∃ W, W0 + 1 = W := ⟨_, rfl⟩
  obtain ⟨N, kN, qN⟩ := pick_nat a1 1001 (by omega)
  have hW : W ≤ 200 := by omega
  have hW1 : 1 ≤ W := by omega
  have hN : N ≤ 1000 := by omega
  have HL := Lib.hid hl; clear hl
  have HK : Hid (Kp w.heap.size c f r g w w) := Lib.hid (Kp.start hS); clear hS
  have z1 : ∀ m n, (cutS m n).size = n := cutS_size
  have e1 : IntKind.i64.wrap (1 + (W0 : Int)) = W := by rw [show (1 : Int) + W0 = W by omega]; exact IntWalk.i64_in _ (by omega)
  go_enter Tryd.func10, Tryd.ntmps10
  go_wp2_with fail
  refine (sane_c w.heap.size c f r g w _ HK.out).mono ?_
  rintro e w1 ⟨rfl, hK⟩
  replace HK := Lib.hid hK
  clear hK
  go_wp2_with fail
  refine (pick_v a0 200 W0 _ k0 (by omega) (by omega) v0).mono ?_
  rintro e w2 ⟨rfl, rfl⟩
  go_wp2_with fail
  refine (pick_v a1 1001 N _ kN (by omega) (by omega) v1).mono ?_
  rintro e w3 ⟨rfl, rfl⟩
  go_wp2_with fail
  refine (text_c N (by omega) _).mono ?_
  rintro e w3 ⟨rfl, ho⟩
  rw [txtS_cut]
  replace HK := Lib.hid (HK.out.none ho)
  clear ho
  go_wp2_with fail
  refine (new_c W _ (by omega) (by omega)).mono ?_
  rintro e w4 ⟨b0, g0, h0, rfl, hA, ho, q0, q1, q2⟩
  have HA0 : Hid (BufAt w4 b0 g0 h0 (Bf.new W)) := Lib.hid hA
  have HB0 : Hid (w.heap.size ≤ b0 ∧ w.heap.size ≤ g0 ∧ w.heap.size ≤ h0) := Lib.hid (by have := HK.out.size; omega)
  replace HK := Lib.hid (HK.out.none ho)
  clear hA ho q0 q1 q2
  go_wp2_with fail
  refine (newrec_ok W _ (by omega) (by omega)).mono ?_
  rintro e w5 ⟨rfl, hw5⟩
  obtain ⟨rb, hrb⟩ : ∃ rb, w4.heap.size = rb := ⟨_, rfl⟩
  have hR : At w5 rb 78 #[.int .i64 W, .int .i64 W, .int .i64 0, .int .i64 0] := by rw [hw5, ← hrb]; exact At.new _ _ _
  have ho : Only [] w4 w5 := by rw [hw5]; exact (Only.refl _ _).alloc _
  have HS5 : Hid (w5.heap.size = rb + 1) := Lib.hid (by rw [hw5]; simp [hrb])
  have HT : Hid (b0 < rb ∧ g0 < rb ∧ h0 < rb ∧ w.heap.size ≤ rb) := Lib.hid (by have := HA0.out.lt; have := HK.out.size; omega)
  replace HA0 := Lib.hid (HA0.out.keep ho (by simp) (by simp) (by simp))
  replace HK := Lib.hid (HK.out.none ho)
  have HR := Lib.hid hR
  rw [hrb]
  clear hR ho hw5 hrb
  go_wp2_with fail
  refine (newsnd_ok W _ (by omega) (by omega)).mono ?_
  rintro e w6 ⟨rfl, hw6⟩
  obtain ⟨sb, hsb⟩ : ∃ sb, w5.heap.size = sb := ⟨_, rfl⟩
  have hR : At w6 sb 80 #[.int .i64 W, .int .i64 0, .int .i64 0] := by rw [hw6, ← hsb]; exact At.new _ _ _
  have ho : Only [] w5 w6 := by rw [hw6]; exact (Only.refl _ _).alloc _
  have HS6 : Hid (w6.heap.size = sb + 1 ∧ sb = rb + 1) := Lib.hid ⟨by rw [hw6]; simp [hsb], by rw [← hsb]; exact HS5.out⟩
  replace HA0 := Lib.hid (HA0.out.keep ho (by simp) (by simp) (by simp))
  replace HK := Lib.hid (HK.out.none ho)
  replace HR := Lib.hid (HR.out.keep ho (by simp))
  have HSn := Lib.hid hR
  rw [hsb]
  clear hR ho hw6 hsb HS5
  obtain ⟨base, hbase⟩ : ∃ base, w6.heap.size = base := ⟨_, rfl⟩
  have HD : Hid (Dj w.heap.size base b0 g0 h0 rb sb) := Lib.hid (by
    have h1 := HB0.out; have h2 := HT.out; have h3 := HS6.out
    exact ⟨by omega, by omega, by omega⟩)
  have HM : Hid (Mm w.heap.size base b0 g0 h0 rb sb c f r g w W 0 0 W 0 (.slice none 0 0) [] (Bf.new W) w6) := Lib.hid ⟨HA0.out, HR.out, HSn.out, Wire.nil _ _, HK.out, by omega⟩
  clear HS6 HB0 HT HA0 HK HR HSn hbase
  go_wp2_with fail
  go_loopg [15, 16, 17, 18] 4000 (fun gk s15 s16 s17 s18 wr => FRel w.heap.size base b0 g0 h0 rb sb c f r g w W N gk s15 s16 s17 s18 wr)
  case atStart => exact ⟨0, 0, 0, W, 0, [], Bf.new W, rfl, by omega, rfl, rfl, rfl, HM.out, Fv.start W N hW1, Lv.early hN (by simp) (by omega), by simp⟩
  case round =>
    obtain ⟨i, got, sent, m, h, L, x, rfl, hi, rfl, rfl, rfl, hM, hF, hLv, hLl⟩ := hrel
    replace HM := Lib.hid hM
    have HF := Lib.hid hF
    have HLv := Lib.hid hLv
    clear hM hF hLv
    have hgN : got ≤ N := by have := HF.out.gh; have := HF.out.hs; have := HF.out.sN; omega
    have hsN : sent ≤ N := HF.out.sN
    have hsm : sent ≤ m := HF.out.sm
    have hmg : m ≤ got + W := HF.out.mg
    by_cases t1 : i < 4000 ∧ got < N
    · obtain ⟨t2, t3⟩ := t1
      have t2' : (i : Int) < 4000 := by omega
      have t3' : (got : Int) < N := by omega
      have f3 : Int.tmod (i : Int) 3 = ((i % 3 : Nat) : Int) := by rw [Int.tmod_eq_emod_of_nonneg (by omega)]; omega
      go_upto_region 16 with fail
      go_cut [19, 83] from 59 to 213 (fun s19 s83 wx => (∃ z : Bool, s83 = .bool z ∧ (z = true ↔ i < len ∧ i < 60)) ∧ ∃ bx, s19 = .pointer (some ⟨bx, 0, none⟩) ∧ base ≤ bx ∧ (∀ j, u17.ownBlock = some j → j ≠ bx) ∧ At wx bx 32 (spCells (dfl i)) ∧ Mm w.heap.size base b0 g0 h0 rb sb c f r g w W got sent m h u17 L x wx)
      case first => as_aux_lemma =>
        have hfin : ∀ b : Bool, (b = true ↔ i < len ∧ i < 60) → (∃ z : Bool, Value.bool b = .bool z ∧ (z = true ↔ i < len ∧ i < 60)) ∧ ∃ bx, Value.pointer (some ⟨wr.heap.size, 0, none⟩) = .pointer (some ⟨bx, 0, none⟩) ∧ base ≤ bx ∧ (∀ j, u17.ownBlock = some j → j ≠ bx) ∧ At (wr.alloc (.cells #[.bool ((i : Int) % 3 == 2), .int .i64 50, .int .i64 ((i : Int) % 3), .string ⟨#[]⟩, .bool false] 32)) bx 32 (spCells (dfl i)) ∧ Mm w.heap.size base b0 g0 h0 rb sb c f r g w W got sent m h u17 L x (wr.alloc (.cells #[.bool ((i : Int) % 3 == 2), .int .i64 50, .int .i64 ((i : Int) % 3), .string ⟨#[]⟩, .bool false] 32)) :=
          fun b hb => ⟨⟨b, rfl, hb⟩, wr.heap.size, rfl, HM.out.sz, fun j hj => by have := (World.ownsRow.lt HM.out.wi j hj).2; omega, At.new _ _ _, HM.out.new HD.out ((Below.refl _ _).alloc (Nat.le_refl _) _)⟩
        have HFn := Lib.hid hfin
        clear hfin
        by_cases c1 : i < len
        · have c1' : (i : Int) < len := by omega
          by_cases c2 : i < 60
          · have c2' : (i : Int) < 60 := by omega
            go_wp2_with fail
            go_meet
            exact HFn.out true (Iff.intro (fun _ => ⟨c1, c2⟩) (fun _ => rfl))
          · have c2' : ¬ (i : Int) < 60 := by omega
            go_wp2_with fail
            go_meet
            exact HFn.out false (Iff.intro (fun q => by cases q) (fun q => absurd q.2 c2))
        · have c1' : ¬ (i : Int) < len := by omega
          go_wp2_with fail
          go_meet
          exact HFn.out false (Iff.intro (fun q => by cases q) (fun q => absurd q.1 c1))
      case rest =>
        obtain ⟨⟨z, rfl, hz⟩, bx, rfl, hbx, hnb, hX, hM⟩ := hcut
        have HZ := Lib.hid hz
        replace HM := Lib.hid hM
        have HX := Lib.hid hX
        have HNB := Lib.hid hnb
        clear hM hX hnb hz
        go_upto_if 83 with fail
        go_cut [] from 59 to 213 (fun wx => ∃ S : Sp, Dflt i S ∧ (Lit.int .i64 S.n).wf = true ∧ (Lit.int .i64 S.off).wf = true ∧ At wx bx 32 (spCells S) ∧ Mm w.heap.size base b0 g0 h0 rb sb c f r g w W got sent m h u17 L x wx)
        case first => as_aux_lemma =>
          cases z with
          | true =>
            have hb := HZ.out.1 rfl
            obtain ⟨bb, off, rfl, hbb, hcs, w1, w2, w3⟩ := HL.out i hb.1
            obtain ⟨S, hS⟩ : ∃ S, V i = S := ⟨_, rfl⟩
            rw [hS] at hcs w1 w2 w3
            obtain ⟨rd, nn, oo, ss, ff⟩ := S
            have cc0 : wc.cell? ⟨bb, off + i * 5, none⟩ = some (.bool rd) := cell_kp HM.out.kp (p := ⟨bb, off + i * 5, none⟩) hbb (by have := hcs 0 (by omega); simpa [spCells] using this)
            have cc1 : wc.cell? ⟨bb, off + i * 5 + 1, none⟩ = some (.int .i64 nn) := cell_kp HM.out.kp (p := ⟨bb, off + i * 5 + 1, none⟩) hbb (by have := hcs 1 (by omega); simpa [spCells] using this)
            have cc2 : wc.cell? ⟨bb, off + i * 5 + 2, none⟩ = some (.int .i64 oo) := cell_kp HM.out.kp (p := ⟨bb, off + i * 5 + 2, none⟩) hbb (by have := hcs 2 (by omega); simpa [spCells] using this)
            have cc3 : wc.cell? ⟨bb, off + i * 5 + 3, none⟩ = some (.string ss) := cell_kp HM.out.kp (p := ⟨bb, off + i * 5 + 3, none⟩) hbb (by have := hcs 3 (by omega); simpa [spCells] using this)
            have cc4 : wc.cell? ⟨bb, off + i * 5 + 4, none⟩ = some (.bool ff) := cell_kp HM.out.kp (p := ⟨bb, off + i * 5 + 4, none⟩) hbb (by have := hcs 4 (by omega); simpa [spCells] using this)
            have hx0 : wc.cell? ⟨bx, 0, none⟩ = some (.bool ((i : Int) % 3 == 2)) := HX.out.cell 0 rfl
            have hx1 : wc.cell? ⟨bx, 1, none⟩ = some (.int .i64 50) := HX.out.cell 1 rfl
            have hx2 : wc.cell? ⟨bx, 2, none⟩ = some (.int .i64 ((i : Int) % 3)) := HX.out.cell 2 rfl
            have hx3 : wc.cell? ⟨bx, 3, none⟩ = some (.string ⟨#[]⟩) := HX.out.cell 3 rfl
            have hx4 : wc.cell? ⟨bx, 4, none⟩ = some (.bool false) := HX.out.cell 4 rfl
            have fr0 := HX.out.free 0
            have fr1 := HX.out.free 1
            have fr2 := HX.out.free 2
            have fr3 := HX.out.free 3
            have fr4 := HX.out.free 4
            have c1' : (i : Int) < len := by omega
            have HWf := Lib.hid (And.intro w1 w2)
            have HB := Lib.hid hb
            clear hS hcs w1 w2 w3 hb
            go_wp2_with fail
            go_meet
            have hAx := ((((HX.out.set 0 (.bool rd) rfl).set 1 (.int .i64 nn) rfl).set 2 (.int .i64 oo) rfl).set 3 (.string ss) rfl).set 4 (.bool ff) rfl
            refine ⟨⟨rd, nn, oo, ss, ff⟩, fun q => by have := HB.out.2; omega, HWf.out.1, HWf.out.2, hAx, HM.out.far HD.out (((((Only.refl [bx] wc).put (by simp) _).put (by simp) _).put (by simp) _).put (by simp) _ |>.put (by simp) _) hbx HNB.out⟩
          | false =>
            go_wp2_with fail
            go_meet
            exact ⟨dfl i, dfl_ok i, dfl_wn i, dfl_wf i, HX.out, HM.out⟩
        case rest =>
          obtain ⟨S, hS, s1, s2, hX, hM⟩ := hcut
          replace HM := Lib.hid hM
          replace HX := Lib.hid hX
          have HV := Lib.hid hS
          clear hM hX hS HZ
          obtain ⟨b, kb, qb⟩ := pick_nat S.n 60 (by omega)
          obtain ⟨o, ko, qo⟩ := pick_nat S.off 3 (by omega)
          have hx1 : wc.cell? ⟨bx, 1, none⟩ = some (.int .i64 S.n) := HX.out.cell 1 rfl
          obtain ⟨n, hn⟩ : ∃ n, min (b + 1) (min (m - sent) (N - sent)) = n := ⟨_, rfl⟩
          have g1 : IntKind.i64.wrap ((b : Int) + 1) = (b : Int) + 1 := IntWalk.i64_in _ (by omega)
          have g2 : IntKind.i64.wrap ((N : Int) - sent) = (N : Int) - sent := IntWalk.i64_in _ (by omega)
          have hmn : (if (N : Int) - sent < (if (m : Int) - sent < (b : Int) + 1 then (m : Int) - sent else (b : Int) + 1) then (N : Int) - sent else (if (m : Int) - sent < (b : Int) + 1 then (m : Int) - sent else (b : Int) + 1)) = (n : Nat) := by
            split <;> split at * <;> omega
          go_upto_region 18 with fail
          go_cut [20] from 59 to 213 (fun s wx => s = .int .i64 (n : Nat) ∧ At wx bx 32 (spCells S) ∧ Mm w.heap.size base b0 g0 h0 rb sb c f r g w W got sent m h u17 L x wx)
          case first => as_aux_lemma =>
            go_wp2_with fail
            refine (pick_v S.n 60 b _ kb (by omega) (by omega) s1).mono ?_
            rintro e w7 ⟨rfl, rfl⟩
            go_wp2_with fail
            refine (avail_c sb m sent 0 _ HM.out.sn (by omega) (by omega) (by omega)).mono ?_
            rintro e w8 ⟨rfl, nd, hw8⟩
            have hbe : Below wc.heap.size wc w8 := by rw [hw8]; exact ((Only.refl [] wc).drewN nd).below (by simp) (Nat.le_refl _)
            replace HX := Lib.hid (HX.out.below hbe HX.out.lt)
            replace HM := Lib.hid (HM.out.new HD.out hbe)
            clear hw8 hbe hx1
            have HMN := Lib.hid hmn
            clear hmn
            go_wp2_with fail
            all_goals go_meet
            all_goals refine ⟨congrArg (Value.int .i64) ?_, HX.out, HM.out⟩
            all_goals (have hq := HMN.out; first | omega | (repeat' split at hq) <;> first | omega | (split at * <;> omega))
          case rest =>
            obtain ⟨rfl, hX, hM⟩ := hcut
            replace HM := Lib.hid hM
            replace HX := Lib.hid hX
            clear hM hX hmn hx1
            go_upto_region 19 with fail
            go_cut [106] from 59 to 213 (fun s wx => wx = wc ∧ ∃ z : Bool, s = .bool z ∧ (z = true ↔ 1 ≤ n ∧ o = 0))
            case first => as_aux_lemma =>
              have hx2 : wc.cell? ⟨bx, 2, none⟩ = some (.int .i64 S.off) := HX.out.cell 2 rfl
              by_cases c1 : 1 ≤ n
              · have c1' : (0 : Int) < n := by omega
                go_wp2_with fail
                refine (pick_v S.off 3 o _ ko (by omega) (by omega) s2).mono ?_
                rintro e w9 ⟨rfl, rfl⟩
                go_wp2_with fail
                go_meet
                exact ⟨rfl, _, rfl, by simp; omega⟩
              · have c1' : ¬ (0 : Int) < n := by omega
                go_wp2_with fail
                go_meet
                exact ⟨rfl, false, rfl, by simp; omega⟩
            case rest =>
              obtain ⟨rfl, z, rfl, hz⟩ := hcut
              have HZ := Lib.hid hz
              clear hz
              go_upto_if 106 with fail
              go_cut [16, 17] from 59 to 213 (fun s16 s17 wx => ∃ (sent' : Nat) (L' : List (Nat × Nat)), s16 = .int .i64 sent' ∧ At wx bx 32 (spCells S) ∧ Mm w.heap.size base b0 g0 h0 rb sb c f r g w W got sent' m h s17 L' x wx ∧ Fv W N got sent' m h L' x ∧ L'.length ≤ i + 1 ∧ ((o = 0 ∧ Mid N got sent' L' i S.rd) ∨ (sent' = sent ∧ L' = L ∧ ¬ (1 ≤ n ∧ o = 0))))
              case first => as_aux_lemma =>
                cases z with
                | true =>
                  obtain ⟨p1, p2⟩ := HZ.out.1 rfl
                  have pu : useE m sent n = 0 := by unfold useE; rw [if_neg (by omega), if_neg (by omega)]
                  have pv : useU m sent n = ((sent + n : Nat) : Int) := by unfold useU; rw [if_neg (by omega), if_neg (by omega)]; omega
                  have hcall := use_c sb m sent 0 n wc HM.out.sn (by omega) (by omega) (by omega)
                  rw [pu, pv] at hcall
                  have HMd := Lib.hid (Mid.send HF.out HLv.out HV.out t3 o n ko p2 b kb hn.symm p1)
                  have HFs := Lib.hid (HF.out.send n p1 (by omega) (by omega) (by omega))
                  have hsl : ∀ ww, (Instr.slice 9 (.string (cutS 0 N)) (some (.int .i64 sent)) (some (.int .i64 ((sent : Int) + n))) none).run Tryd.prog ww = .ok (.string (cutS sent n)) ww := fun ww => by
                    rw [← txtS_cut]; exact slice_txt N sent n (by omega) ww
                  have g3 : IntKind.i64.wrap ((sent : Int) + n) = (sent : Int) + n := IntWalk.i64_in _ (by omega)
                  clear pu pv hn HZ
                  go_wp2_with fail
                  refine hcall.mono ?_
                  rintro e wq ⟨rfl, hA, ho⟩
                  replace HM := Lib.hid (HM.out.snd HD.out hA ho rfl)
                  replace HX := Lib.hid (HX.out.keep ho (by simp; have := HD.out.hi; omega))
                  clear hA ho hcall
                  obtain ⟨v', wn, eA0, nW, gW⟩ := Wire.append (World.ownsRow.alloc HM.out.wi (.cells #[.bool false, .int .i64 0, .int .i64 (sent : Nat), .string (cutS sent n), .bool false] 32)) ⟨wq.heap.size, 0, none⟩ [(sent, n)] 1 (fun k hk j hj => by
                    obtain rfl : k = 0 := by simpa using hk
                    rw [add_at]
                    have hAn := At.new wq 32 #[.bool false, .int .i64 0, .int .i64 (sent : Nat), .string (cutS sent n), .bool false]
                    rcases j with _ | _ | _ | _ | _ | j
                    · exact hAn.cell 0 rfl
                    · exact hAn.cell 1 rfl
                    · exact hAn.cell 2 rfl
                    · exact hAn.cell 3 rfl
                    · exact hAn.cell 4 rfl
                    · omega) (by simp; omega) (by have := HM.out.sz; simp; omega)
                  have eA : ∀ ty, (Builtin.append_ #[22, 22] ty #[u17, .slice (some ⟨wq.heap.size, 0, none⟩) 1 1]).run Tryd.prog (wq.alloc (.cells #[.bool false, .int .i64 0, .int .i64 (sent : Nat), .string (cutS sent n), .bool false] 32)) = .ok v' wn := eA0
                  have hBn : Below base wq wn := ((Below.refl base wq).alloc HM.out.sz _).grown gW (by have := HM.out.sz; simp; omega) (fun j e => (World.ownsRow.lt HM.out.wi j e).1)
                  have hXn : At wn bx 32 (spCells S) := (HX.out.alloc _).keep (S := u17.ownBlock.toList) (only_of_grown gW (fun r hr => by rw [hr]; simp)) (by
                    intro hm
                    rw [Option.mem_toList] at hm
                    exact HNB.out bx hm rfl)
                  have HMn := Lib.hid (HM.out.under HD.out hBn nW)
                  have HXn := Lib.hid hXn
                  clear eA0 nW gW hBn hXn
                  go_wp2_with (at_builtin; refine Lib.wpList_append_run _ rfl _ _ _ _ rfl _ _ rfl rfl _ _ (eA _) ?_)
                  go_meet
                  exact ⟨sent + n, L ++ [(sent, n)], by simp, HXn.out, HMn.out, HFs.out, by simp; omega, .inl ⟨p2, HMd.out⟩⟩
                | false =>
                  go_wp2_with fail
                  go_meet
                  exact ⟨sent, L, rfl, HX.out, HM.out, HF.out, by omega, .inr ⟨rfl, rfl, fun q => by have := HZ.out.2 q; cases this⟩⟩
              case rest =>
                obtain ⟨sent', L', rfl, hX, hM, hF, hl, hmid⟩ := hcut
                replace HM := Lib.hid hM
                replace HX := Lib.hid hX
                have HF2 := Lib.hid hF
                have HMid := Lib.hid hmid
                obtain ⟨wa, wcap, rfl⟩ := hM.wi.shape
                clear hX hM hF hmid HZ
                go_upto_region 24 with fail
                go_cut [133] from 59 to 213 (fun s wx => wx = wc ∧ ∃ z : Bool, s = .bool z ∧ (z = true ↔ 0 < L'.length ∧ o = 1))
                case first => as_aux_lemma =>
                  have hx2 : wc.cell? ⟨bx, 2, none⟩ = some (.int .i64 S.off) := HX.out.cell 2 rfl
                  by_cases c1 : 0 < L'.length
                  · have c1' : (0 : Int) < L'.length := by omega
                    go_wp2_with fail
                    refine (pick_v S.off 3 o _ ko (by omega) (by omega) s2).mono ?_
                    rintro e w9 ⟨rfl, rfl⟩
                    go_wp2_with fail
                    go_meet
                    exact ⟨rfl, _, rfl, by simp; omega⟩
                  · have c1' : ¬ (0 : Int) < L'.length := by omega
                    go_wp2_with fail
                    go_meet
                    exact ⟨rfl, false, rfl, by simp; omega⟩
                case rest =>
                  obtain ⟨rfl, z, rfl, hz⟩ := hcut
                  have HZ := Lib.hid hz
                  clear hz
                  go_upto_if 133 with fail
                  go_cut [17] from 59 to 213 (fun s17 wx => ∃ (h' : Nat) (L'' : List (Nat × Nat)) (x' : Bf), At wx bx 32 (spCells S) ∧ Mm w.heap.size base b0 g0 h0 rb sb c f r g w W got sent' m h' s17 L'' x' wx ∧ Fv W N got sent' m h' L'' x' ∧ L''.length ≤ i + 1 ∧ Mid N got sent' L'' i S.rd)
                  case first => as_aux_lemma =>
                    cases z with
                    | true =>
                      obtain ⟨p1, p2⟩ := HZ.out.1 rfl
                      obtain ⟨rfl, rfl, _⟩ : sent' = sent ∧ L' = L ∧ ¬ (1 ≤ n ∧ o = 0) := by
                        rcases HMid.out with q | q
                        · have := q.1; omega
                        · exact q
                      obtain ⟨gg, cap', hv, hgb, hgl, hcap, hcells⟩ := HM.out.wi.form p1
                      obtain ⟨rfl, rfl⟩ : wa = some ⟨gg, 0, none⟩ ∧ wcap = cap' := by simpa using hv
                      clear hv
                      have hLl : (0 : Int) < L'.length := by omega
                      have hL4 : L'.length ≤ 4000 := by omega
                      obtain ⟨kk, kO, qO⟩ := pick_nat S.n (L'.length : Int) hLl
                      have hkk : kk < L'.length := by omega
                      obtain ⟨F, nn, hFn⟩ : ∃ F nn, L'[kk]'hkk = (F, nn) := ⟨_, _, rfl⟩
                      have hmem : (F, nn) ∈ L' := by rw [← hFn]; exact List.getElem_mem hkk
                      have hel := HF2.out.el _ hmem
                      simp only at hel
                      have ck : ∀ j, j < 5 → wc.cell? ⟨gg, kk * 5 + j, none⟩ = (pcs (F, nn))[j]? := fun j hj => by rw [← hFn]; exact hcells kk hkk j hj
                      have ck0 : wc.cell? ⟨gg, kk * 5, none⟩ = some (.bool false) := ck 0 (by omega)
                      have ck1 : wc.cell? ⟨gg, kk * 5 + 1, none⟩ = some (.int .i64 0) := ck 1 (by omega)
                      have ck2 : wc.cell? ⟨gg, kk * 5 + 2, none⟩ = some (.int .i64 (F : Nat)) := ck 2 (by omega)
                      have ck3 : wc.cell? ⟨gg, kk * 5 + 3, none⟩ = some (.string (cutS F nn)) := ck 3 (by omega)
                      have ck4 : wc.cell? ⟨gg, kk * 5 + 4, none⟩ = some (.bool false) := ck 4 (by omega)
                      have hx1 : wc.cell? ⟨bx, 1, none⟩ = some (.int .i64 S.n) := HX.out.cell 1 rfl
                      have hkk' : (kk : Int) < L'.length := by omega
                      have HCL := Lib.hid hcells
                      have HFn := Lib.hid hFn
                      have HMem := Lib.hid hmem
                      clear ck hcells hFn hmem
                      go_wp2_with fail
                      refine (pick_v S.n (L'.length : Int) kk _ kO (by omega) (by omega) s1).mono ?_
                      rintro e w9 ⟨rfl, rfl⟩
                      go_upto_region 27 with fail
                      have hbsz : base ≤ wc.heap.size := HM.out.sz
                      generalize hwp : World.alloc wc _ = wp
                      obtain ⟨pb, hpb⟩ : ∃ pb, wc.heap.size = pb := ⟨_, rfl⟩
                      have hP : At wp pb 32 #[.bool false, .int .i64 0, .int .i64 (F : Nat), .string (cutS F nn), .bool false] := by rw [← hwp, ← hpb]; exact At.new _ _ _
                      have hbe : Below wc.heap.size wc wp := by rw [← hwp]; exact (Below.refl _ _).alloc (Nat.le_refl _) _
                      rw [hpb]
                      replace HX := Lib.hid (HX.out.below hbe HX.out.lt)
                      replace HM := Lib.hid (HM.out.new HD.out hbe)
                      replace HCL : Hid (∀ k (hk : k < L'.length) j, j < 5 → wp.cell? ⟨gg, k * 5 + j, none⟩ = (pcs (L'[k]'hk))[j]?) := Lib.hid (fun k hk j hj => (hbe.cell (p := ⟨gg, k * 5 + j, none⟩) hgl).trans (HCL.out k hk j hj))
                      replace hgl := Nat.lt_of_lt_of_le hgl hbe.size
                      have HPb : Hid (base ≤ pb) := Lib.hid (by rw [← hpb]; exact hbsz)
                      have HP := Lib.hid hP
                      have hx4 : wp.cell? ⟨bx, 4, none⟩ = some (.bool S.fin) := HX.out.cell 4 rfl
                      clear hbsz hwp hpb hP hbe ck0 ck1 ck2 ck3 ck4 hx1 kO qO hLl
                      go_upto_if 145 with fail
                      go_cut [17] from 59 to 213 (fun s17 wx => ∃ (L'' : List (Nat × Nat)), At wx bx 32 (spCells S) ∧ At wx pb 32 #[.bool false, .int .i64 0, .int .i64 (F : Nat), .string (cutS F nn), .bool false] ∧ Mm w.heap.size base b0 g0 h0 rb sb c f r g w W got sent' m h s17 L'' x wx ∧ (∀ q ∈ L'', q ∈ L') ∧ (∀ q ∈ L', q ∈ L'' ∨ q = (F, nn)) ∧ (S.fin = false → L''.length + 1 = L'.length) ∧ L''.length ≤ L'.length)
                      case first => as_aux_lemma =>
                        cases hfin : S.fin with
                        | true =>
                          rw [hfin] at hx4
                          go_wp2_with fail
                          go_meet
                          exact ⟨L', HX.out, HP.out, HM.out, fun q hq => hq, fun q hq => .inl hq, by rw [hfin]; exact fun e => by simp at e, Nat.le_refl _⟩
                        | false =>
                          rw [hfin] at hx4
                          have s1' := slice_head5 gg L'.length wcap kk (by omega) hcap
                          have s2' := slice_rest5 gg L'.length wcap (kk + 1) (by omega) hcap
                          obtain ⟨va, wA1, vb, wA2, eA, eB, hR2, hB2⟩ := cut_wire HM.out.wi hgl HCL.out hcap (by omega) kk hkk
                          have f1 : IntKind.i64.wrap ((kk : Int) + 1) = kk + 1 := IntWalk.i64_in _ (by omega)
                          obtain ⟨kk1, hk1⟩ : ∃ m, kk + 1 = m := ⟨_, rfl⟩
                          have e9 : ((kk1 : Nat) : Int) = kk + 1 := by omega
                          rw [hk1] at s2' eB
                          simp only [e9] at s2'
                          have HK1 := Lib.hid (And.intro hkk hk1)
                          have hXn := Lib.hid (HX.out.below hB2 HX.out.lt)
                          have hPn := Lib.hid (HP.out.below hB2 HP.out.lt)
                          have hMn := Lib.hid (HM.out.under HD.out (hB2.mono HM.out.sz) (Wire.weaken hR2 HM.out.sz))
                          have hq1 : ∀ q ∈ L'.take kk ++ L'.drop (kk + 1), q ∈ L' := fun q hq => by
                            rcases List.mem_append.1 hq with e | e
                            · exact List.mem_of_mem_take e
                            · exact List.mem_of_mem_drop e
                          have hq2 : ∀ q ∈ L', q ∈ L'.take kk ++ L'.drop (kk + 1) ∨ q = (F, nn) := fun q hq => by
                            have e : L'.take kk ++ (F, nn) :: L'.drop (kk + 1) = L' := by rw [← HFn.out, ← List.drop_eq_getElem_cons hkk, List.take_append_drop]
                            rw [← e] at hq
                            simp only [List.mem_append, List.mem_cons] at hq ⊢
                            rcases hq with a | a | a
                            · exact .inl (.inl a)
                            · exact .inr a
                            · exact .inl (.inr a)
                          have hq3 : (L'.take kk ++ L'.drop (kk + 1)).length + 1 = L'.length := by simp; omega
                          have HQ := Lib.hid (And.intro hq1 (And.intro hq2 hq3))
                          clear hq1 hq2 hq3 hR2 hB2 hcap hk1 e9 hgl hkk' HFn HCL HMem
                          clear hkk
                          go_upto_region 28 with fail
                          go_region_held3 (fun _ => True) (exact trivial) (first | (rw [if_pos (by rfl)]; refine Lib.wp_append_run _ (.tmp 146) (.tmp 149) 22 22 rfl _ _ rfl rfl _ _ (eA _) ?_) | (rw [if_pos (by rfl)]; refine Lib.wp_append_run _ (.tmp 150) (.tmp 154) 22 22 rfl _ _ rfl rfl _ _ (eB _) ?_))
                          go_wp2_with fail
                          go_meet
                          exact ⟨_, hXn.out, hPn.out, hMn.out, HQ.out.1, HQ.out.2.1, fun _ => HQ.out.2.2, by have := HQ.out.2.2; omega⟩
                      case rest =>
                        obtain ⟨L'', hX, hP, hM, hq1, hq2, hq3, hq4⟩ := hcut
                        replace HM := Lib.hid hM
                        replace HX := Lib.hid hX
                        have HF3 := Lib.hid (HF2.out.deliver F nn HMem.out L'' hq1 hq2)
                        have HMd := Lib.hid (Mid.deliver HF.out HLv.out HV.out t3 o ko p2 L'' hq3)
                        have hp2 : wc.cell? ⟨pb, 2, none⟩ = some (.int .i64 (F : Nat)) := hP.cell 2 rfl
                        have hp3 : wc.cell? ⟨pb, 3, none⟩ = some (.string (cutS F nn)) := hP.cell 3 rfl
                        have HP2 := Lib.hid hP
                        have pr : rcvE m ((F : Int) + nn) = 0 := by unfold rcvE; rw [if_neg (by omega), if_neg (by omega)]
                        have ph : rcvH m h ((F : Int) + nn) = ((max h (F + nn) : Nat) : Int) := by unfold rcvH; rw [if_neg (by omega), if_neg (by omega)]; split <;> omega
                        have hrc := receive_c rb m W h got ((F : Int) + nn) wc HM.out.rc
                        rw [pr, ph] at hrc
                        have pA : x.putC F (cutS F nn).data.toList false = 0 := by
                          rw [HF2.out.of.putC F nn false (by omega) (fun h => by cases h) (by omega) (by omega), if_neg (by rw [HF2.out.pos, HF2.out.n]; omega)]
                        have hyB : x.hold F (cutS F nn).data.toList false = x.hold F (cutT txt F nn) false := by rw [cutS_list]
                        have g3 : IntKind.i64.wrap ((F : Int) + nn) = (F : Int) + nn := IntWalk.i64_in _ (by omega)
                        clear hX hM hP hq1 hq2 hq3 pr ph hx4 hgl hcap
                        go_wp2_with fail
                        refine hrc.mono ?_
                        rintro e wq ⟨rfl, hA, ho⟩
                        replace HX := Lib.hid (HX.out.keep ho (by simp; have := HD.out.hi; omega))
                        replace HP2 := Lib.hid (HP2.out.keep ho (by simp; have := HD.out.hi; have := HPb.out; omega))
                        have hp2 : wq.cell? ⟨pb, 2, none⟩ = some (.int .i64 (F : Nat)) := HP2.out.cell 2 rfl
                        have hp3 : wq.cell? ⟨pb, 3, none⟩ = some (.string (cutS F nn)) := HP2.out.cell 3 rfl
                        replace HM := Lib.hid (HM.out.rcv (h' := max h (F + nn)) HD.out hA ho rfl rfl rfl rfl)
                        clear hA ho hrc
                        go_wp2_with fail
                        refine (put_v b0 g0 h0 w.heap.size x c f r g F (cutS F nn) false _ HM.out.buf HM.out.kp.snt HM.out.kp.size HD.out.bw 0 _ pA hyB).mono ?_
                        rintro e wP ⟨rfl, hA, ho⟩
                        replace HX := Lib.hid (HX.out.keep ho (by simp; have := HD.out.hi; omega))
                        replace HM := Lib.hid (HM.out.putb HD.out hA ho)
                        clear hA ho pA hyB
                        go_wp2_with fail
                        go_meet
                        exact ⟨_, L'', _, HX.out, HM.out, HF3.out, by omega, HMd.out⟩
                    | false =>
                      go_wp2_with fail
                      go_meet
                      refine ⟨h, L', x, HX.out, HM.out, HF2.out, hl, ?_⟩
                      rcases HMid.out with q | ⟨rfl, rfl, q⟩
                      · exact q.2
                      · exact Mid.idle HF2.out HLv.out HV.out t3 o ko b kb (fun e => by omega) (fun e => by
                          by_cases c : 0 < L'.length
                          · have := HZ.out.2 ⟨c, e⟩; cases this
                          · omega)
                  case rest =>
                    obtain ⟨h', L'', x', hX, hM, hF, hl2, hMid⟩ := hcut
                    replace HM := Lib.hid hM
                    have HF3 := Lib.hid hF
                    have HMd := Lib.hid hMid
                    have hx0 : wc.cell? ⟨bx, 0, none⟩ = some (.bool S.rd) := hX.cell 0 rfl
                    have hx1 : wc.cell? ⟨bx, 1, none⟩ = some (.int .i64 S.n) := hX.cell 1 rfl
                    have f5 : IntKind.i64.wrap ((i : Int) + 1) = ((i + 1 : Nat) : Int) := by rw [show (i : Int) + 1 = ((i + 1 : Nat) : Int) by omega]; exact IntWalk.i64_in _ (by omega)
                    clear hX hM hF hMid HX HMid HF2 HF HLv HZ HNB hn
                    cases hrd : S.rd with
                    | false =>
                      rw [hrd] at hx0
                      have HFin : Hid (FRel w.heap.size base b0 g0 h0 rb sb c f r g w W N (4000 - (i + 1)) (.string (cutS 0 got)) (.int .i64 sent') u17 (.int .i64 ((i + 1 : Nat) : Int)) wc) := Lib.hid ⟨i + 1, got, sent', m, h', L'', x', rfl, by omega, rfl, rfl, rfl, HM.out, HF3.out, HMd.out.skip hN hl2 hrd, hl2⟩
                      go_wp2_with fail
                      go_roundg (4000 - (i + 1))
                      case measure => omega
                      case rel => exact HFin.out
                    | true =>
                      rw [hrd] at hx0
                      obtain ⟨C, hC⟩ : ∃ C, x'.many ((b : Int) + 1) = C := ⟨_, rfl⟩
                      have hmy := (x'.many_le ((b : Int) + 1)).1
                      have hCm : C = min (b + 1) x'.ready := by rw [← hC]; unfold Bf.many; split <;> omega
                      rw [hC] at hmy
                      have hpos := HF3.out.pos
                      have hout := HF3.out.of.outS C got hpos hmy
                      obtain ⟨last, hlast⟩ : ∃ last, x'.last C = last := ⟨_, rfl⟩
                      have hgC : got + C ≤ h' ∧ h' ≤ sent' ∧ sent' ≤ N ∧ sent' ≤ m ∧ m ≤ got + W := by
                        have h1 := (HF3.out.read C (max m (got + C + W)) hmy (by omega) (by have := HF3.out.mg; omega) (by omega)).gh
                        exact ⟨h1, HF3.out.hs, HF3.out.sN, HF3.out.sm, HF3.out.mg⟩
                      have HFR : Hid (∀ m', m ≤ m' → m' ≤ got + C + W → got + C < m' → Fv W N (got + C) sent' m' h' L'' (x'.read C)) := Lib.hid (fun m' k1 k2 k3 => HF3.out.read C m' hmy k1 k2 k3)
                      have HLv2 := Lib.hid (HMd.out.read HF3.out HV.out hN hl2 hrd b kb C hCm)
                      have hp : x'.pos + C ≤ 1099511627776 := by rw [hpos]; omega
                      have hrr : readR h' got (C : Int) = ((got + C : Nat) : Int) := by unfold readR; split <;> (try split) <;> omega
                      have happ := cutS_app 0 got C
                      rw [Nat.zero_add] at happ
                      have g1 : IntKind.i64.wrap ((b : Int) + 1) = (b : Int) + 1 := IntWalk.i64_in _ (by omega)
                      have hsl : ∀ ww, (Instr.slice 9 (.string (cutS 0 N)) none (some (.int .i64 ((got + C : Nat) : Int))) none).run Tryd.prog ww = .ok (.string (cutS 0 (got + C))) ww := fun ww => by
                        rw [← txtS_cut]; exact slice_to N (got + C) (by omega) ww
                      have hd1 : ¬ (N : Int) < ((got + C : Nat) : Int) := by omega
                      have hd2 : ¬ (N : Int) < (got : Int) + C := by omega
                      have hd3 : decide ((N : Int) < ((got + C : Nat) : Int)) = false := decide_eq_false hd1
                      have hd4 : decide ((N : Int) < (got : Int) + C) = false := decide_eq_false hd2
                      have hex : (cutS 0 N).extract 0 (got + C) = cutS 0 (got + C) := by have := cutS_ext 0 N 0 (got + C) (by omega); rwa [Nat.zero_add] at this
                      have z5 := cutS_size 0 (got + C)
                      have z4 := cutS_size got C
                      have HN : Hid (4000 - (i + 1) < 4000 - i) := Lib.hid (by omega)
                      have HH := Lib.hid hgC
                      clear hCm hmy HF3 HMd hgC
                      go_wp2_with fail
                      refine (pick_v S.n 60 b _ kb (by omega) (by omega) s1).mono ?_
                      rintro e wa ⟨rfl, rfl⟩
                      go_wp2_with fail
                      refine (read_v b0 g0 h0 x' _ HM.out.buf ((b : Int) + 1) C (cutS got C) last (x'.read C) hC hout hlast rfl hp).mono ?_
                      rintro e wb ⟨rfl, hA, ho⟩
                      replace HM := Lib.hid (HM.out.putb HD.out hA ho)
                      clear hA ho hC hout hlast hp hx0 hx1
                      go_wp2_with fail
                      have hfr := flread_c rb m W h' got C wb HM.out.rc (by omega) (by have := HH.out; omega) (by have := HH.out; omega)
                      rw [hrr] at hfr
                      refine hfr.mono ?_
                      rintro e wd ⟨rfl, hA, ho⟩
                      replace HM := Lib.hid (HM.out.rcv (got' := got + C) (h' := h') (m' := m) HD.out hA ho rfl rfl rfl rfl)
                      clear hA ho hfr hrr
                      go_wp2_with fail
                      have hup := update_c rb m W h' ((got + C : Nat) : Int) wd HM.out.rc (by omega) (by have := HH.out; omega) (by have := HH.out; omega) (by omega) (by omega)
                      by_cases hu : W / 2 < m - (got + C)
                      · have u1 : updM m W ((got + C : Nat) : Int) = m := by unfold updM; rw [if_pos (by omega)]
                        have u2 : updN m W ((got + C : Nat) : Int) = 0 := by unfold updN; rw [u1, if_neg (by omega)]
                        have u3 : updB m W ((got + C : Nat) : Int) = false := by unfold updB; rw [u1]; exact decide_eq_false (by omega)
                        rw [u1, u2, u3] at hup
                        refine hup.mono ?_
                        rintro e we ⟨rfl, hA, ho⟩
                        replace HM := Lib.hid (HM.out.rcv (got' := got + C) (h' := h') (m' := m) HD.out hA ho rfl rfl rfl rfl)
                        have HFin : Hid (FRel w.heap.size base b0 g0 h0 rb sb c f r g w W N (4000 - (i + 1)) (.string (cutS 0 (got + C))) (.int .i64 sent') u17 (.int .i64 ((i + 1 : Nat) : Int)) we) := Lib.hid ⟨i + 1, got + C, sent', m, h', L'', x'.read C, rfl, by omega, rfl, rfl, rfl, HM.out, HFR.out m (Nat.le_refl _) (by have := HH.out; omega) (by omega), HLv2.out, hl2⟩
                        clear hA ho hup u1 u2 u3 hu
                        go_wp2_with fail
                        go_roundg (4000 - (i + 1))
                        case measure => exact HN.out
                        case rel => exact HFin.out
                      · have hgt : m < got + C + W := by have := HH.out; omega
                        have c1 : ∀ z : Int, z = ((got + C + W : Nat) : Int) → raiseZ m z = z := fun z hz => by
                          have e : capZ z = z := by unfold capZ; rw [if_neg (by have := HH.out; omega)]
                          unfold raiseZ
                          rw [e, if_pos (by omega)]
                        have u1 : updM m W ((got + C : Nat) : Int) = ((got + C + W : Nat) : Int) := by
                          unfold updM
                          rw [if_neg (by omega), c1 _ (by omega)]; omega
                        have u2 : updN m W ((got + C : Nat) : Int) = ((got + C + W : Nat) : Int) := by unfold updN; rw [u1, if_pos (by omega)]
                        have u3 : updB m W ((got + C : Nat) : Int) = true := by unfold updB; rw [u1]; exact decide_eq_true (by omega)
                        rw [u1, u2, u3] at hup
                        have HC1 := Lib.hid (c1 _ rfl)
                        refine hup.mono ?_
                        rintro e we ⟨rfl, hA, ho⟩
                        have HA2 := Lib.hid hA
                        have HO2 := Lib.hid ho
                        have hS2 := sraise_c sb m sent' 0 ((got + C + W : Nat) : Int) we (HM.out.sn.keep ho (by simp; have := HD.out.dj; omega))
                        rw [HC1.out] at hS2
                        clear hA ho hup u1 u2 u3 hu c1
                        go_wp2_with fail
                        refine hS2.mono ?_
                        rintro e wf ⟨rfl, hA, ho⟩
                        replace HM := Lib.hid (HM.out.both (m' := got + C + W) HD.out HA2.out HO2.out hA ho rfl rfl)
                        have HFin : Hid (FRel w.heap.size base b0 g0 h0 rb sb c f r g w W N (4000 - (i + 1)) (.string (cutS 0 (got + C))) (.int .i64 sent') u17 (.int .i64 ((i + 1 : Nat) : Int)) wf) := Lib.hid ⟨i + 1, got + C, sent', got + C + W, h', L'', x'.read C, rfl, by omega, rfl, rfl, rfl, HM.out, HFR.out _ (by omega) (Nat.le_refl _) (by omega), HLv2.out, hl2⟩
                        clear hA ho hS2 hgt
                        go_wp2_with fail
                        go_roundg (4000 - (i + 1))
                        case measure => exact HN.out
                        case rel => exact HFin.out
    · by_cases t2 : i < 4000
      · have t3 : got = N := by omega
        subst t3
        have t2' : (i : Int) < 4000 := by omega
        go_wp2_with fail
        go_ret
        exact ⟨rfl, HM.out.kp.bel⟩
      · obtain rfl : i = 4000 := by omega
        exact (HLv.out.final).elim
end Go.Proofs.YtnnmmmeppbdlnaaDoor
