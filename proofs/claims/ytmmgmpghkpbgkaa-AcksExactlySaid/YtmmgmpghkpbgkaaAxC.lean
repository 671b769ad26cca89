/- The walk of AcksExactly. -/
import Derived.Test.YtmmgmpghkpbgkaaAxB
import Derived.Test.YtmmgmpghkpbgkaaFrI
import Derived.Test.YtmmgmpghkpbgkaaArg
import Derived.Deep.CutRange
import Derived.Deep.CutBlock
namespace Go.Proofs.Ytmmgmpghkpbgkaa
open Go Go.RowKit Go.Shelf
set_option linter.unusedVariables false
set_option linter.unusedSectionVars false
set_option linter.unusedSimpArgs false

attribute [local irreducible] wpStill
def XRel1 (w : World) (g r : Nat) (i : Value) (wr : World) : Prop := ∃ (k : Nat) (L : List (Int × Int)) (lg wh ct du : Int) (G : Nat → Bool), i = .int .i64 k ∧ k ≤ 60 ∧ Hid (XInv k L lg wh ct G) ∧ Hid (TK wr g L 0 0 lg wh ct du) ∧ Hid (BRw wr r 30 G) ∧ Below w.heap.size w wr
def XOut1 (w : World) (g r len0 : Nat) (wr : World) : Prop := ∃ (k : Nat) (L : List (Int × Int)) (lg wh ct du : Int) (G : Nat → Bool), Hid (XInv k L lg wh ct G) ∧ Hid (TK wr g L 0 0 lg wh ct du) ∧ Hid (BRw wr r 30 G) ∧ Below w.heap.size w wr ∧ (L = [] → len0 = 0)
theorem rg_cells {w : World} {ra : Option Addr} {rc : Nat} {R : List (Int × Int)} (h : RgAt w (.slice ra R.length rc) R) (hne : R ≠ []) : ∃ gb off, ra = some ⟨gb, off, none⟩ ∧ gb < w.heap.size ∧
    ∀ i x, R[i]? = some x → w.cell? ⟨gb, off + i * 2, none⟩ = some (.int .i64 x.1) ∧ w.cell? ⟨gb, off + i * 2 + 1, none⟩ = some (.int .i64 x.2) := by
  obtain ⟨a, cap, e, hc⟩ := h
  injection e with e1 e2 e3
  subst e1
  obtain ⟨gb, off, rfl, hg, _⟩ := hc 0 (List.length_pos_iff.2 hne)
  refine ⟨gb, off, rfl, hg, fun i x hx => ?_⟩
  obtain ⟨hi, rfl⟩ := List.getElem?_eq_some_iff.1 hx
  obtain ⟨g', off', e', _, c1, c2, _⟩ := hc i hi
  cases e'
  exact ⟨c1, c2⟩
def XRel2 (wz : World) (rn : Nat) (R : List (Int × Int)) (v : Value) (wr : World) : Prop := ∃ i : Nat, v = .int .i64 i ∧ i ≤ R.length ∧ Hid (BRw wr rn 30 (namedTo R i 0 0)) ∧ Hid (Only [rn] wz wr)
def XRel3 (wz : World) (rn : Nat) (R : List (Int × Int)) (i : Nat) (A B : Int) (v : Value) (wr : World) : Prop := ∃ x : Nat, v = .int .i64 x ∧ A ≤ x ∧ (x : Int) ≤ B ∧ Hid (BRw wr rn 30 (namedTo R i A x)) ∧ Hid (Only [rn] wz wr)
def XRel4 (wz : World) (rn : Nat) (R : List (Int × Int)) (v : Value) (wr : World) : Prop := ∃ k : Nat, v = .int .i64 k ∧ k ≤ 30 ∧ Hid (BRw wr rn 30 (namedTo R R.length 0 0)) ∧ Hid (Only [rn] wz wr)
set_option maxRecDepth 100000 in
set_option maxHeartbeats 12000000 in
theorem exactly_walk (a0 : Option Addr) (len0 cap0 : Nat) (Z : Nat → Int) (now : Int) (w : World) (hZ : Ints .u8 w a0 len0 Z) (w1 : (Lit.int .u16 now).wf = true) :
    Calls Try.prog 3 #[.slice a0 len0 cap0, .int .u16 now] w fun e w' => e = .returned (.bool true) ∧ Below w.heap.size w w' := by
  have hnow := wf_u16 w1
  clear w1
  have hmk : ∀ w : World, (Instr.makeSlice 29 (.int .i64 30) (.int .i64 30)).run Try.prog w = .ok (.slice (some ⟨w.heap.size, 0, none⟩) 30 30) (w.alloc (.cells (Builtin.zeroCells #[.bool false] 30) 4)) := fun _ => by kernel_rfl
  go_enter Try.func3, Try.ntmps3
  go_wp2_with fail
  refine (sane_any _).mono ?_
  rintro e w1 ⟨rfl, hb⟩
  go_wp2_with fail
  refine (new_k 0 _ (by omega) (by omega)).mono ?_
  rintro e w2 ⟨g, rfl, hT, ho, hg⟩
  have hgw : w.heap.size ≤ g := Nat.le_trans hb.size hg
  replace hb := hb.trans (ho.below (by simp) hb.size)
  clear ho hg
  have hgl := hT.lt
  have hR := BRw.new w2
  replace hT := hT.alloc (.cells (Builtin.zeroCells #[.bool false] 30) 4)
  have hb2 := hb.alloc hb.size (.cells (Builtin.zeroCells #[.bool false] 30) 4)
  go_upto_block 0 with fail
  obtain ⟨r, hr⟩ : ∃ r, w2.heap.size = r := ⟨_, rfl⟩
  obtain ⟨w3, hw3⟩ : ∃ w3, w2.alloc (.cells (Builtin.zeroCells #[.bool false] 30) 4) = w3 := ⟨_, rfl⟩
  have hrw : w.heap.size ≤ r := by have := hb.size; omega
  have hrg : r ≠ g := by omega
  rw [hw3] at hT hR hb2 ⊢
  rw [hr] at hR ⊢
  replace hT := Lib.hid hT
  replace hR := Lib.hid hR
  clear hw3 hr hb hgl
  go_cut [8] from 35 to 64 (fun _ wx => XOut1 w g r len0 wx)
  case first =>
    go_wp2_with fail
    go_loopw [8] (fun i wr => XRel1 w g r i wr) (fun i _ => 60 - (intOf i).toNat)
    case atStart => exact ⟨0, [], -1, 0, 0, -1, _, rfl, by omega, Lib.hid XInv.start, hT, hR, hb2⟩
    case round =>
      obtain ⟨k, L, lg, wh, ct, du, G, rfl, hk, hI, hK, hG, hbw⟩ := hrel
      clear hb2 hT hR
      by_cases hlt : k < len0 ∧ k < 60
      · obtain ⟨hlt1, hlt2⟩ := hlt
        obtain ⟨bs, off, rfl, hbs, q0, v0⟩ := hZ k hlt1
        rw [← hbw.cell hbs] at q0
        replace v0 := wf_u8 v0
        generalize Z k = z at q0 v0
        obtain ⟨v1, v2⟩ := v0
        have hlt1' : (k : Int) < len0 := by omega
        have hlt2' : (k : Int) < 60 := by omega
        obtain ⟨p, hp, hp30⟩ : ∃ p : Nat, z % 30 = p ∧ p < 30 := ⟨(z % 30).toNat, by omega, by omega⟩
        have et : z.tmod 30 = p := by rw [Int.tmod_eq_emod_of_nonneg v1]; exact hp
        have ew : IntKind.i64.wrap z = z := IntWalk.i64_in _ (by omega)
        have ew2 : IntKind.i64.wrap (p : Int) = p := IntWalk.i64_in _ (by omega)
        have g0 := hI.out.lg0
        have g1 := hI.out.lg1
        have g2 := hI.out.ct0
        have g3 := hI.out.ct1
        have hp0 : (0 : Int) ≤ (p : Int) := by omega
        have hp31 : (p : Int) < 30 := by omega
        have hmark := fun (ww : World) (h : BRw ww r 30 G) => h.mark p hp30
        cases hz : G p with
        | true =>
          obtain ⟨hin, hI2⟩ := hI.out.dup p hp30 hz
          go_wp2_with fail
          refine (recv_dup g L 0 0 lg wh ct du k p true _ (by exact hK.out) (by omega) (by omega) (by omega) (by omega) (.inr hin)).mono ?_
          rintro e w4 ⟨rfl, hX, ho⟩
          replace hI2 := Lib.hid hI2
          replace hK := Lib.hid hX
          replace hG := Lib.hid (hG.out.keep ho (by simp))
          replace hbw := hbw.trans (ho.below (by simp) hbw.size)
          clear hX ho hI hin q0
          have cG : w4.cell? ⟨r, p, none⟩ = some (.bool true) := by rw [← hz]; exact hG.out.cell p hp30
          have fG := hG.out.free p
          have hK2 := Lib.hid (hK.out.far (p := ⟨r, p, none⟩) (fun h => hrg h.symm) (.bool true))
          have hG2 := Lib.hid (hG.out.mark p hp30)
          have hb2 := hbw.setCell (p := ⟨r, p, none⟩) hrw (.bool true)
          clear hK hG hbw hz hmark
          go_wp2_with fail
          exact ⟨⟨k + 1, _, _, _, _, _, _, rfl, by omega, hI2, hK2, hG2, hb2⟩, by simp [intOf] <;> omega⟩
        | false =>
          obtain ⟨hn, hc1, hc2, hI2⟩ := hI.out.add p hp30 hlt2 hz
          go_wp2_with fail
          refine (recv_ok g L 0 0 lg wh ct du k p true _ (by exact hK.out) (by omega) (by omega) (by omega) (by omega) (by omega) hn (by omega) (by omega) (by omega) (by omega) (by omega) (by omega)).mono ?_
          rintro e w4 ⟨rfl, hX, ho⟩
          rw [hc1, hc2, if_pos rfl, if_pos rfl] at hX
          replace hI2 := Lib.hid hI2
          replace hK := Lib.hid hX
          replace hG := Lib.hid (hG.out.keep ho (by simpa using hrg))
          replace hbw := hbw.trans (ho.below (by simpa using hgw) hbw.size)
          clear hX ho hI hn hc1 hc2 q0
          have cG : w4.cell? ⟨r, p, none⟩ = some (.bool false) := by rw [← hz]; exact hG.out.cell p hp30
          have fG := hG.out.free p
          have hK2 := Lib.hid (hK.out.far (p := ⟨r, p, none⟩) (fun h => hrg h.symm) (.bool true))
          have hG2 := Lib.hid (hG.out.mark p hp30)
          have hb2 := hbw.setCell (p := ⟨r, p, none⟩) hrw (.bool true)
          clear hK hG hbw hz hmark
          go_wp2_with fail
          exact ⟨⟨k + 1, _, _, _, _, _, _, rfl, by omega, hI2, hK2, hG2, hb2⟩, by simp [intOf] <;> omega⟩
      · have hz : L = [] → len0 = 0 := fun h => by
          have : k = 0 := by
            rcases Nat.eq_zero_or_pos k with h0 | h0
            · exact h0
            · exact absurd h (hI.out.ne h0)
          omega
        by_cases hl1 : (k : Int) < len0
        · have hl2 : ¬ (k : Int) < 60 := fun h => hlt ⟨by omega, by omega⟩
          go_wp2_with fail
          go_meet
          exact ⟨k, L, lg, wh, ct, du, G, hI, hK, hG, hbw, hz⟩
        · go_wp2_with fail
          go_meet
          exact ⟨k, L, lg, wh, ct, du, G, hI, hK, hG, hbw, hz⟩
  case rest =>
  obtain ⟨k, L, lg, wh, ct, du, G, hI, hK, hG, hbw, hz⟩ := hcut
  clear hb2 hT hR hZ hmk
  have hmk : ∀ w : World, (Instr.makeSlice 29 (.int .i64 30) (.int .i64 30)).run Try.prog w = .ok (.slice (some ⟨w.heap.size, 0, none⟩) 30 30) (w.alloc (.cells (Builtin.zeroCells #[.bool false] 30) 4)) := fun _ => by kernel_rfl
  have ewn : IntKind.i64.wrap now = now := IntWalk.i64_in _ (by omega)
  by_cases hL : L = []
  · subst hL
    obtain rfl := hz rfl
    go_wp2_with fail
    refine (frame_none g now 0 0 lg wh ct du _ (by exact hK.out)).mono ?_
    rintro e w4 ⟨rfl, hB4⟩
    have hb4 := hbw.trans (hB4.mono hbw.size)
    go_wp2_with fail
    go_ret
    exact ⟨rfl, hb4.alloc hb4.size _⟩
  · skip
    have HO := Lib.hid (Only.refl [] wc)
    obtain ⟨R, hRe⟩ : ∃ R, L.reverse = R := ⟨_, rfl⟩
    have hlen := good_len15 hI.out.good hI.out.top
    have hok : RgOk 281474976710658 R := by rw [← hRe]; exact good_rev (by omega) hI.out.good hI.out.top
    have hRl : L.length = R.length := by rw [← hRe, List.length_reverse]
    have hRne : R ≠ [] := fun e => hL (by rw [← List.reverse_reverse L, hRe, e]; rfl)
    have hIR : ∀ n : Nat, n < 30 → (G n = true ↔ In R n) := fun n hn => by rw [hI.out.inn n hn, ← In_rev, hRe]
    have hR29 : ∀ x, In R x → x ≤ 29 := fun x hx => hI.out.top x (by rw [← In_rev, hRe]; exact hx)
    have hfr := fun ww hh => frame_any g L now 0 0 lg wh ct du (by omega) (by omega) hI.out.wh0 (by have := hI.out.wh1; omega) hL (by rw [hRe]; exact hok) ww hh
    simp only [hRe, hRl] at hfr
    rw [hRl] at hlen
    clear hI hRe hL hRl hz
    go_wp2_with fail
    refine (hfr _ (by exact hK.out)).mono ?_
    rintro e v1 ⟨dl, gx, rfl, hd0, hd1, hx, hgx, hB4⟩
    replace HO := Lib.hid (HO.out.trans (Only.of_below hB4))
    clear hB4
    obtain ⟨s, hs⟩ := ackD_ok hd0 hd1 hRne (by omega) hok
    have hFw : FrWf (ackD dl R) := by constructor <;> simp [ackD, Fr.zero] <;> omega
    have hF0 : ∀ ww rvv, RgAt ww rvv R → FrOk ww (ackD dl R) rvv := fun ww rvv h => ⟨hFw, by simp [ackD, Fr.zero], h, by show R.length ≤ _; omega⟩
    have hec := fun ww hh => enc_ok (ackD dl R) (.slice (some ⟨gx, 0, none⟩) R.length R.length) ww hh hs
    have hvl := fun ww hh => val_ok (ackD dl R) (.slice (some ⟨gx, 0, none⟩) R.length R.length) ww hh hs
    have hdc := fun ww => dec_ok0 hs (by intro p hp; exact RgOk.inR hok p hp) ww
    have hel := fun ww => elic_c (ackD dl R) (.slice (some ⟨gx, 0, none⟩) R.length R.length) ww
    have hel2 : elic (ackD dl R).ty = false := rfl
    rw [hel2] at hel
    have hl := encF_len hs
    have zt : (strB s).size = s.length := strB_size s
    have HF0 := Lib.hid hF0
    have HOK := Lib.hid hok
    have HIR := Lib.hid hIR
    have HRN := Lib.hid (And.intro hRne (And.intro hlen hR29))
    have HXR := Lib.hid hx
    simp only [frC, ackD, Fr.zero] at hec hvl hdc hel ⊢
    clear hx hok hFw hF0 hIR hRne hR29 hfr hel2 hlen hs hgx hd0 hd1
    go_wp2_with fail
    have HXr := Lib.hid (Only.refl [] v1)
    have hx := At.new v1 33 #[.int .i64 2, .int .i64 0, .int .i64 0, .string (strB []), .bool false, .int .i64 0, .int .i64 0, .bool false, .int .i64 dl, .slice (some ⟨gx, 0, none⟩) R.length R.length, .int .i64 0, .int .i64 0, .string (strB [])]
    replace HO := Lib.hid (HO.out.alloc (.cells #[.int .i64 2, .int .i64 0, .int .i64 0, .string (strB []), .bool false, .int .i64 0, .int .i64 0, .bool false, .int .i64 dl, .slice (some ⟨gx, 0, none⟩) R.length R.length, .int .i64 0, .int .i64 0, .string (strB [])] 33))
    replace HXr := Lib.hid (HXr.out.alloc (.cells #[.int .i64 2, .int .i64 0, .int .i64 0, .string (strB []), .bool false, .int .i64 0, .int .i64 0, .bool false, .int .i64 dl, .slice (some ⟨gx, 0, none⟩) R.length R.length, .int .i64 0, .int .i64 0, .string (strB [])] 33))
    have hszX : (v1.alloc (.cells #[.int .i64 2, .int .i64 0, .int .i64 0, .string (strB []), .bool false, .int .i64 0, .int .i64 0, .bool false, .int .i64 dl, .slice (some ⟨gx, 0, none⟩) R.length R.length, .int .i64 0, .int .i64 0, .string (strB [])] 33)).heap.size = v1.heap.size + 1 := by simp
    generalize v1.alloc (.cells #[.int .i64 2, .int .i64 0, .int .i64 0, .string (strB []), .bool false, .int .i64 0, .int .i64 0, .bool false, .int .i64 dl, .slice (some ⟨gx, 0, none⟩) R.length R.length, .int .i64 0, .int .i64 0, .string (strB [])] 33) = v2 at hx hszX HO HXr ⊢
    generalize v1.heap.size = px at hx hszX  ⊢
    have HX := Lib.hid hx
    clear hx
    have HbX := Lib.hid (Only.refl [] v2)
    refine (hec _ (HF0.out _ _ (HXR.out.keep HXr.out))).mono ?_
    rintro e v3 ⟨rfl, ho⟩
    replace HO := Lib.hid (HO.out.trans ho)
    replace HXr := Lib.hid (HXr.out.trans ho)
    replace HbX := Lib.hid (HbX.out.trans ho)
    clear ho
    go_wp2_with fail
    refine (hdc _).mono ?_
    rintro e v4 ⟨rvb, rfl, hok2, _, ho⟩
    replace HO := Lib.hid (HO.out.trans ho)
    replace HXr := Lib.hid (HXr.out.trans ho)
    replace HbX := Lib.hid (HbX.out.trans ho)
    clear ho
    obtain ⟨ra, rc, hrb, hrx⟩ := (show RgAt _ rvb R from hok2.rg)
    subst hrb
    have HYR : Hid (RgAt v4 (.slice ra R.length rc) R) := Lib.hid ⟨_, _, rfl, hrx⟩
    clear hrx hok2
    obtain ⟨gb, off, rfl, hgb, hcb⟩ := rg_cells HYR.out HRN.out.1
    have HC := Lib.hid hcb
    clear hcb
    go_upto_region 20 with fail
    have HYr := Lib.hid (Only.refl [] v4)
    have hx := At.new v4 33 #[.int .i64 2, .int .i64 0, .int .i64 0, .string (strB []), .bool false, .int .i64 0, .int .i64 0, .bool false, .int .i64 dl, .slice (some ⟨gb, off, none⟩) R.length rc, .int .i64 0, .int .i64 0, .string (strB [])]
    replace HO := Lib.hid (HO.out.alloc (.cells #[.int .i64 2, .int .i64 0, .int .i64 0, .string (strB []), .bool false, .int .i64 0, .int .i64 0, .bool false, .int .i64 dl, .slice (some ⟨gb, off, none⟩) R.length rc, .int .i64 0, .int .i64 0, .string (strB [])] 33))
    replace HXr := Lib.hid (HXr.out.alloc (.cells #[.int .i64 2, .int .i64 0, .int .i64 0, .string (strB []), .bool false, .int .i64 0, .int .i64 0, .bool false, .int .i64 dl, .slice (some ⟨gb, off, none⟩) R.length rc, .int .i64 0, .int .i64 0, .string (strB [])] 33))
    replace HbX := Lib.hid (HbX.out.alloc (.cells #[.int .i64 2, .int .i64 0, .int .i64 0, .string (strB []), .bool false, .int .i64 0, .int .i64 0, .bool false, .int .i64 dl, .slice (some ⟨gb, off, none⟩) R.length rc, .int .i64 0, .int .i64 0, .string (strB [])] 33))
    replace HYr := Lib.hid (HYr.out.alloc (.cells #[.int .i64 2, .int .i64 0, .int .i64 0, .string (strB []), .bool false, .int .i64 0, .int .i64 0, .bool false, .int .i64 dl, .slice (some ⟨gb, off, none⟩) R.length rc, .int .i64 0, .int .i64 0, .string (strB [])] 33))
    have hszY : (v4.alloc (.cells #[.int .i64 2, .int .i64 0, .int .i64 0, .string (strB []), .bool false, .int .i64 0, .int .i64 0, .bool false, .int .i64 dl, .slice (some ⟨gb, off, none⟩) R.length rc, .int .i64 0, .int .i64 0, .string (strB [])] 33)).heap.size = v4.heap.size + 1 := by simp
    generalize v4.alloc (.cells #[.int .i64 2, .int .i64 0, .int .i64 0, .string (strB []), .bool false, .int .i64 0, .int .i64 0, .bool false, .int .i64 dl, .slice (some ⟨gb, off, none⟩) R.length rc, .int .i64 0, .int .i64 0, .string (strB [])] 33) = v5 at hx hszY HO HXr HbX HYr ⊢
    generalize v4.heap.size = py at hx hszY  ⊢
    have HY := Lib.hid hx
    clear hx
    have HbY := Lib.hid (Only.refl [] v5)
    have hsm := fun ww h1 h2 => same_c (ackD dl R) (ackD dl R) (.slice (some ⟨gx, 0, none⟩) R.length R.length) (.slice (some ⟨gb, off, none⟩) R.length rc) ww h1 h2 (by show R.length ≤ _; have := HRN.out.2.1; omega) (by show R.length ≤ _; have := HRN.out.2.1; omega)
    simp only [frC, ackD, Fr.zero] at hsm
    clear hec hdc
    have Xx0 : v5.cell? ⟨px, 0, none⟩ = some (.int .i64 2) := (HX.out.keep HbX.out (by simp)).cell 0 rfl
    have Xx1 : v5.cell? ⟨px, 1, none⟩ = some (.int .i64 0) := (HX.out.keep HbX.out (by simp)).cell 1 rfl
    have Xx2 : v5.cell? ⟨px, 2, none⟩ = some (.int .i64 0) := (HX.out.keep HbX.out (by simp)).cell 2 rfl
    have Xx3 : v5.cell? ⟨px, 3, none⟩ = some (.string (strB [])) := (HX.out.keep HbX.out (by simp)).cell 3 rfl
    have Xx4 : v5.cell? ⟨px, 4, none⟩ = some (.bool false) := (HX.out.keep HbX.out (by simp)).cell 4 rfl
    have Xx5 : v5.cell? ⟨px, 5, none⟩ = some (.int .i64 0) := (HX.out.keep HbX.out (by simp)).cell 5 rfl
    have Xx6 : v5.cell? ⟨px, 6, none⟩ = some (.int .i64 0) := (HX.out.keep HbX.out (by simp)).cell 6 rfl
    have Xx7 : v5.cell? ⟨px, 7, none⟩ = some (.bool false) := (HX.out.keep HbX.out (by simp)).cell 7 rfl
    have Xx8 : v5.cell? ⟨px, 8, none⟩ = some (.int .i64 dl) := (HX.out.keep HbX.out (by simp)).cell 8 rfl
    have Xx9 : v5.cell? ⟨px, 9, none⟩ = some (.slice (some ⟨gx, 0, none⟩) R.length R.length) := (HX.out.keep HbX.out (by simp)).cell 9 rfl
    have Xx10 : v5.cell? ⟨px, 10, none⟩ = some (.int .i64 0) := (HX.out.keep HbX.out (by simp)).cell 10 rfl
    have Xx11 : v5.cell? ⟨px, 11, none⟩ = some (.int .i64 0) := (HX.out.keep HbX.out (by simp)).cell 11 rfl
    have Xx12 : v5.cell? ⟨px, 12, none⟩ = some (.string (strB [])) := (HX.out.keep HbX.out (by simp)).cell 12 rfl
    go_wp2_with fail
    refine (hvl _ (HF0.out _ _ (HXR.out.keep HXr.out))).mono ?_
    rintro e v6 ⟨rfl, ho⟩
    clear Xx0 Xx1 Xx2 Xx3 Xx4 Xx5 Xx6 Xx7 Xx8 Xx9 Xx10 Xx11 Xx12
    replace HO := Lib.hid (HO.out.trans ho)
    replace HXr := Lib.hid (HXr.out.trans ho)
    replace HbX := Lib.hid (HbX.out.trans ho)
    replace HYr := Lib.hid (HYr.out.trans ho)
    replace HbY := Lib.hid (HbY.out.trans ho)
    clear ho
    have Xx0 : v6.cell? ⟨px, 0, none⟩ = some (.int .i64 2) := (HX.out.keep HbX.out (by simp)).cell 0 rfl
    have Xx1 : v6.cell? ⟨px, 1, none⟩ = some (.int .i64 0) := (HX.out.keep HbX.out (by simp)).cell 1 rfl
    have Xx2 : v6.cell? ⟨px, 2, none⟩ = some (.int .i64 0) := (HX.out.keep HbX.out (by simp)).cell 2 rfl
    have Xx3 : v6.cell? ⟨px, 3, none⟩ = some (.string (strB [])) := (HX.out.keep HbX.out (by simp)).cell 3 rfl
    have Xx4 : v6.cell? ⟨px, 4, none⟩ = some (.bool false) := (HX.out.keep HbX.out (by simp)).cell 4 rfl
    have Xx5 : v6.cell? ⟨px, 5, none⟩ = some (.int .i64 0) := (HX.out.keep HbX.out (by simp)).cell 5 rfl
    have Xx6 : v6.cell? ⟨px, 6, none⟩ = some (.int .i64 0) := (HX.out.keep HbX.out (by simp)).cell 6 rfl
    have Xx7 : v6.cell? ⟨px, 7, none⟩ = some (.bool false) := (HX.out.keep HbX.out (by simp)).cell 7 rfl
    have Xx8 : v6.cell? ⟨px, 8, none⟩ = some (.int .i64 dl) := (HX.out.keep HbX.out (by simp)).cell 8 rfl
    have Xx9 : v6.cell? ⟨px, 9, none⟩ = some (.slice (some ⟨gx, 0, none⟩) R.length R.length) := (HX.out.keep HbX.out (by simp)).cell 9 rfl
    have Xx10 : v6.cell? ⟨px, 10, none⟩ = some (.int .i64 0) := (HX.out.keep HbX.out (by simp)).cell 10 rfl
    have Xx11 : v6.cell? ⟨px, 11, none⟩ = some (.int .i64 0) := (HX.out.keep HbX.out (by simp)).cell 11 rfl
    have Xx12 : v6.cell? ⟨px, 12, none⟩ = some (.string (strB [])) := (HX.out.keep HbX.out (by simp)).cell 12 rfl
    have Yx0 : v6.cell? ⟨py, 0, none⟩ = some (.int .i64 2) := (HY.out.keep HbY.out (by simp)).cell 0 rfl
    have Yx1 : v6.cell? ⟨py, 1, none⟩ = some (.int .i64 0) := (HY.out.keep HbY.out (by simp)).cell 1 rfl
    have Yx2 : v6.cell? ⟨py, 2, none⟩ = some (.int .i64 0) := (HY.out.keep HbY.out (by simp)).cell 2 rfl
    have Yx3 : v6.cell? ⟨py, 3, none⟩ = some (.string (strB [])) := (HY.out.keep HbY.out (by simp)).cell 3 rfl
    have Yx4 : v6.cell? ⟨py, 4, none⟩ = some (.bool false) := (HY.out.keep HbY.out (by simp)).cell 4 rfl
    have Yx5 : v6.cell? ⟨py, 5, none⟩ = some (.int .i64 0) := (HY.out.keep HbY.out (by simp)).cell 5 rfl
    have Yx6 : v6.cell? ⟨py, 6, none⟩ = some (.int .i64 0) := (HY.out.keep HbY.out (by simp)).cell 6 rfl
    have Yx7 : v6.cell? ⟨py, 7, none⟩ = some (.bool false) := (HY.out.keep HbY.out (by simp)).cell 7 rfl
    have Yx8 : v6.cell? ⟨py, 8, none⟩ = some (.int .i64 dl) := (HY.out.keep HbY.out (by simp)).cell 8 rfl
    have Yx9 : v6.cell? ⟨py, 9, none⟩ = some (.slice (some ⟨gb, off, none⟩) R.length rc) := (HY.out.keep HbY.out (by simp)).cell 9 rfl
    have Yx10 : v6.cell? ⟨py, 10, none⟩ = some (.int .i64 0) := (HY.out.keep HbY.out (by simp)).cell 10 rfl
    have Yx11 : v6.cell? ⟨py, 11, none⟩ = some (.int .i64 0) := (HY.out.keep HbY.out (by simp)).cell 11 rfl
    have Yx12 : v6.cell? ⟨py, 12, none⟩ = some (.string (strB [])) := (HY.out.keep HbY.out (by simp)).cell 12 rfl
    go_wp2_with fail
    refine (hsm _ (HXR.out.keep HXr.out) (HYR.out.keep HYr.out)).mono ?_
    rintro e v7 ⟨b2, rfl, hb2, ho⟩
    clear Xx0 Xx1 Xx2 Xx3 Xx4 Xx5 Xx6 Xx7 Xx8 Xx9 Xx10 Xx11 Xx12 Yx0 Yx1 Yx2 Yx3 Yx4 Yx5 Yx6 Yx7 Yx8 Yx9 Yx10 Yx11 Yx12
    replace HO := Lib.hid (HO.out.trans ho)
    replace HXr := Lib.hid (HXr.out.trans ho)
    replace HbX := Lib.hid (HbX.out.trans ho)
    replace HYr := Lib.hid (HYr.out.trans ho)
    replace HbY := Lib.hid (HbY.out.trans ho)
    clear ho
    obtain rfl : b2 = true := hb2.2 (by first | trivial | rfl)
    clear hb2
    have Xx0 : v7.cell? ⟨px, 0, none⟩ = some (.int .i64 2) := (HX.out.keep HbX.out (by simp)).cell 0 rfl
    have Xx1 : v7.cell? ⟨px, 1, none⟩ = some (.int .i64 0) := (HX.out.keep HbX.out (by simp)).cell 1 rfl
    have Xx2 : v7.cell? ⟨px, 2, none⟩ = some (.int .i64 0) := (HX.out.keep HbX.out (by simp)).cell 2 rfl
    have Xx3 : v7.cell? ⟨px, 3, none⟩ = some (.string (strB [])) := (HX.out.keep HbX.out (by simp)).cell 3 rfl
    have Xx4 : v7.cell? ⟨px, 4, none⟩ = some (.bool false) := (HX.out.keep HbX.out (by simp)).cell 4 rfl
    have Xx5 : v7.cell? ⟨px, 5, none⟩ = some (.int .i64 0) := (HX.out.keep HbX.out (by simp)).cell 5 rfl
    have Xx6 : v7.cell? ⟨px, 6, none⟩ = some (.int .i64 0) := (HX.out.keep HbX.out (by simp)).cell 6 rfl
    have Xx7 : v7.cell? ⟨px, 7, none⟩ = some (.bool false) := (HX.out.keep HbX.out (by simp)).cell 7 rfl
    have Xx8 : v7.cell? ⟨px, 8, none⟩ = some (.int .i64 dl) := (HX.out.keep HbX.out (by simp)).cell 8 rfl
    have Xx9 : v7.cell? ⟨px, 9, none⟩ = some (.slice (some ⟨gx, 0, none⟩) R.length R.length) := (HX.out.keep HbX.out (by simp)).cell 9 rfl
    have Xx10 : v7.cell? ⟨px, 10, none⟩ = some (.int .i64 0) := (HX.out.keep HbX.out (by simp)).cell 10 rfl
    have Xx11 : v7.cell? ⟨px, 11, none⟩ = some (.int .i64 0) := (HX.out.keep HbX.out (by simp)).cell 11 rfl
    have Xx12 : v7.cell? ⟨px, 12, none⟩ = some (.string (strB [])) := (HX.out.keep HbX.out (by simp)).cell 12 rfl
    go_wp2_with fail
    refine (hel _).mono ?_
    rintro e v8 ⟨rfl, ho⟩
    clear Xx0 Xx1 Xx2 Xx3 Xx4 Xx5 Xx6 Xx7 Xx8 Xx9 Xx10 Xx11 Xx12
    replace HO := Lib.hid (HO.out.trans ho)
    replace HXr := Lib.hid (HXr.out.trans ho)
    replace HbX := Lib.hid (HbX.out.trans ho)
    replace HYr := Lib.hid (HYr.out.trans ho)
    replace HbY := Lib.hid (HbY.out.trans ho)
    clear ho
    have hN0 := (BRw.new v8).same (named_start R).symm
    have hGz := (hG.out.keep HO.out (by simp)).alloc (.cells (Builtin.zeroCells #[.bool false] 30) 4)
    have hYz := (HY.out.keep HbY.out (by simp)).alloc (.cells (Builtin.zeroCells #[.bool false] 30) 4)
    have hOz := HO.out.alloc (.cells (Builtin.zeroCells #[.bool false] 30) 4)
    have hrl := (hG.out.keep HO.out (by simp)).lt
    have hyl := (HY.out.keep HbY.out (by simp)).lt
    have hgl : gb < v8.heap.size := Nat.lt_of_lt_of_le hgb HYr.out.size
    have hCz : ∀ i x, R[i]? = some x → (v8.alloc (.cells (Builtin.zeroCells #[.bool false] 30) 4)).cell? ⟨gb, off + i * 2, none⟩ = some (.int .i64 x.1) ∧ (v8.alloc (.cells (Builtin.zeroCells #[.bool false] 30) 4)).cell? ⟨gb, off + i * 2 + 1, none⟩ = some (.int .i64 x.2) := fun i x hx =>
      ⟨((HYr.out.alloc _).cell (p := ⟨gb, off + i * 2, none⟩) hgb (by simp)).trans (HC.out i x hx).1, ((HYr.out.alloc _).cell (p := ⟨gb, off + i * 2 + 1, none⟩) hgb (by simp)).trans (HC.out i x hx).2⟩
    have hsz0 : (v8.alloc (.cells (Builtin.zeroCells #[.bool false] 30) 4)).heap.size = v8.heap.size + 1 := by simp
    clear HC hvl hsm hel
    go_wp2_with fail
    generalize v8.alloc (.cells (Builtin.zeroCells #[.bool false] 30) 4) = wz at hN0 hGz hYz hOz hCz hsz0 ⊢
    have hrn0 : w.heap.size ≤ v8.heap.size := Nat.le_trans hbw.size HO.out.size
    generalize v8.heap.size = rn at hN0 hrl hyl hgl hsz0 hrn0 ⊢
    have HCz := Lib.hid hCz
    have HGz := Lib.hid hGz
    have HYz := Lib.hid hYz
    have HOz := Lib.hid (hbw.trans (hOz.below (by simp) hbw.size))
    have hr1 : r ≠ rn := by omega
    have hy1 : py ≠ rn := by omega
    have hg1 : gb ≠ rn := by omega
    have hr2 : r < wz.heap.size := by omega
    have hy2 : py < wz.heap.size := by omega
    have hg2 : gb < wz.heap.size := by omega
    have HZ0 := Lib.hid hN0
    have HEND : Hid (∀ wr, Only [rn] wz wr → Below w.heap.size w wr) := Lib.hid (fun wr h => HOz.out.trans (h.below (by simpa using hrn0) HOz.out.size))
    clear hN0 hGz hYz hOz hCz hrl hyl hgl hsz0 hrn0 hG hK hbw HXR HYR HF0 HX HY HOz hgb HO HXr HbX HYr HbY hszX hszY hl zt ewn hmk
    go_loopw [19] (fun v wr => XRel2 wz rn R v wr) (fun v _ => R.length - (intOf v).toNat)
    case atStart => exact ⟨0, rfl, by omega, HZ0, Lib.hid (Only.refl _ _)⟩
    case round =>
      obtain ⟨i, rfl, hi, hN, hOn⟩ := hrel
      clear HZ0
      have c9 : wr.cell? ⟨py, 9, none⟩ = some (.slice (some ⟨gb, off, none⟩) R.length rc) := (hOn.out.cell (p := ⟨py, 9, none⟩) hy2 (by simpa using hy1)).trans (HYz.out.cell 9 rfl)
      by_cases hlt : i < R.length
      · have hq : R[i]? = some R[i] := List.getElem?_eq_getElem hlt
        obtain ⟨A, B, hAB⟩ : ∃ A B, R[i] = (A, B) := ⟨_, _, rfl⟩
        rw [hAB] at hq
        clear hAB
        obtain ⟨k1, k2, k3, k4⟩ := rgOk_get HOK.out i _ hq
        have hB30 : B ≤ 30 := by
          have := HRN.out.2.2 (B - 1) (In_mem.2 ⟨(A, B), List.mem_of_getElem? hq, by show A ≤ B - 1; simp only at k2; omega, by show B - 1 < B; omega⟩)
          omega
        simp only at k1 k2 k3
        have d0 : wr.cell? ⟨gb, off + i * 2, none⟩ = some (.int .i64 A) := (hOn.out.cell (p := ⟨gb, off + i * 2, none⟩) hg2 (by simpa using hg1)).trans (HCz.out i _ hq).1
        have d1 : wr.cell? ⟨gb, off + i * 2 + 1, none⟩ = some (.int .i64 B) := (hOn.out.cell (p := ⟨gb, off + i * 2 + 1, none⟩) hg2 (by simpa using hg1)).trans (HCz.out i _ hq).2
        have hlt' : (i : Int) < R.length := by omega
        have HQ := Lib.hid hq
        go_upto_region 26 with fail
        go_cut [140] from 123 to 140 (fun v wx => v = .bool false ∧ wx = wr.drew)
        case first =>
          by_cases hi0 : i = 0
          · subst hi0
            clear hq HQ k4
            go_wp2_with fail
            go_still (by kernel_rfl)
            go_wp2_with fail
            go_meet
            exact ⟨rfl, rfl⟩
          · have hy : R[i - 1]? = some R[i - 1] := List.getElem?_eq_getElem (by omega)
            obtain ⟨C, D, hCD⟩ : ∃ C D, R[i - 1]'(by omega) = (C, D) := ⟨_, _, rfl⟩
            rw [hCD] at hy
            clear hCD
            have k5 := k4 (i - 1) _ (by omega) hy
            simp only at k5
            have d2 : wr.cell? ⟨gb, off + (i - 1) * 2, none⟩ = some (.int .i64 C) := (hOn.out.cell (p := ⟨gb, off + (i - 1) * 2, none⟩) hg2 (by simpa using hg1)).trans (HCz.out (i - 1) _ hy).1
            have e1 : IntKind.i64.wrap ((i : Int) - 1) = (i : Int) - 1 := IntWalk.i64_in _ (by have := HRN.out.2.1; omega)
            have i0 : (0 : Int) < i := by omega
            have i1 : (0 : Int) ≤ (i : Int) - 1 := by omega
            have i2 : (i : Int) - 1 < (R.length : Int) := by omega
            have i4 : (i : Int) ≤ (R.length : Int) := by omega
            have i5 : (1 : Int) ≤ (i : Int) := by omega
            have i6 : 0 < i := by omega
            have i7 : 1 ≤ i := i6
            have i3 : ((i : Int) - 1).toNat = i - 1 := by omega
            have i9 : decide (C ≤ B) = false := by simp; omega
            clear hq hy HQ k4 hi0
            go_wp2_with fail
            go_still (by kernel_rfl)
            go_wp2_with fail
            go_meet
            exact ⟨by first | rfl | rw [i9], rfl⟩
        case rest =>
        obtain ⟨rfl, rfl⟩ := hcut
        clear c9 d0 d1 k4 hq
        replace hN := Lib.hid hN.out.drew
        replace hOn := Lib.hid hOn.out.drew
        generalize wr.drew = wq at hN hOn ⊢
        have c9 : wq.cell? ⟨py, 9, none⟩ = some (.slice (some ⟨gb, off, none⟩) R.length rc) := (hOn.out.cell (p := ⟨py, 9, none⟩) hy2 (by simpa using hy1)).trans (HYz.out.cell 9 rfl)
        have d0 : wq.cell? ⟨gb, off + i * 2, none⟩ = some (.int .i64 A) := (hOn.out.cell (p := ⟨gb, off + i * 2, none⟩) hg2 (by simpa using hg1)).trans (HCz.out i _ HQ.out).1
        go_wp2_with fail
        go_loopw [20] (fun v wr2 => XRel3 wz rn R i A B v wr2) (fun v _ => (B - intOf v).toNat)
        case atStart => exact ⟨A.toNat, by rw [Int.toNat_of_nonneg k1], by omega, by omega, Lib.hid (hN.out.same (by rw [Int.toNat_of_nonneg k1]; exact named_begin R i 0 A)), hOn⟩
        case round =>
          obtain ⟨x, rfl, hx1, hx2, hN2, hOn2⟩ := hrel
          clear hN hOn c9 d0
          have c9 : wr.cell? ⟨py, 9, none⟩ = some (.slice (some ⟨gb, off, none⟩) R.length rc) := (hOn2.out.cell (p := ⟨py, 9, none⟩) hy2 (by simpa using hy1)).trans (HYz.out.cell 9 rfl)
          have d1 : wr.cell? ⟨gb, off + i * 2 + 1, none⟩ = some (.int .i64 B) := (hOn2.out.cell (p := ⟨gb, off + i * 2 + 1, none⟩) hg2 (by simpa using hg1)).trans (HCz.out i _ HQ.out).2
          by_cases hxB : (x : Int) < B
          · have hx30 : x < 30 := by omega
            have hx31 : (x : Int) < 30 := by omega
            have hx32 : ¬ ((x : Int) < 0) := by omega
            have hx33 : ¬ (30 ≤ (x : Int)) := by omega
            have cN : wr.cell? ⟨rn, x, none⟩ = some (.bool false) := by
              have := hN2.out.cell x hx30
              rw [named_not R HOK.out i (A, B) HQ.out x hx1 hxB] at this
              exact this
            have fN := hN2.out.free x
            have hN3 := Lib.hid ((hN2.out.mark x hx30).same (named_mark R i A x hx1))
            have hO3 := Lib.hid (hOn2.out.put (g := rn) (by simp) (i := x) (.bool true))
            have f9 : IntKind.i64.wrap ((x : Int) + 1) = (x : Int) + 1 := IntWalk.i64_in _ (by omega)
            clear hN2 hOn2
            go_wp2_with fail
            exact ⟨⟨x + 1, by simp, by omega, by omega, hN3, hO3⟩, by simp [intOf]; omega⟩
          · have hxe : (x : Int) = B := by omega
            have hN3 := Lib.hid (hN2.out.same ((congrArg (namedTo R i A) hxe).trans (named_end R i (A, B) HQ.out)))
            clear hN2 hxe
            have f9 : IntKind.i64.wrap ((i : Int) + 1) = (i : Int) + 1 := IntWalk.i64_in _ (by have := HRN.out.2.1; omega)
            go_wp2_with fail
            exact ⟨⟨i + 1, by simp, by omega, hN3, hOn2⟩, by simp [intOf]; omega⟩
      · have hie : i = R.length := by omega
        have hN3 := Lib.hid (hN.out.same (by rw [hie]))
        clear hie hN
        have hlt' : ¬ (i : Int) < R.length := by omega
        go_wp2_with fail
        go_loopw [21] (fun v wr2 => XRel4 wz rn R v wr2) (fun v _ => 30 - (intOf v).toNat)
        case atStart => exact ⟨0, rfl, by omega, hN3, hOn⟩
        case round =>
          obtain ⟨k, rfl, hk, hN4, hO4⟩ := hrel
          clear hN3 hOn c9
          by_cases hk3 : k < 30
          · have hk4 : (k : Int) < 30 := by omega
            have cN := hN4.out.cell k hk3
            have cG : wr.cell? ⟨r, k, none⟩ = some (.bool (G k)) := (hO4.out.cell (p := ⟨r, k, none⟩) hr2 (by simpa using hr1)).trans (HGz.out.cell k hk3)
            have hee : namedTo R R.length 0 0 k = G k := Bool.eq_iff_iff.2 ((named_all R R.length (Nat.le_refl _) k).trans (HIR.out k hk3).symm)
            rw [hee] at cN
            clear hee
            have f9 : IntKind.i64.wrap ((k : Int) + 1) = (k : Int) + 1 := IntWalk.i64_in _ (by omega)
            generalize G k = z at cN cG
            cases z
            · go_wp2_with fail
              go_still (by kernel_rfl)
              go_wp2_with fail
              exact ⟨⟨k + 1, by simp, by omega, Lib.hid hN4.out.drew, Lib.hid hO4.out.drew⟩, by simp [intOf]; omega⟩
            · go_wp2_with fail
              go_still (by kernel_rfl)
              go_wp2_with fail
              exact ⟨⟨k + 1, by simp, by omega, Lib.hid hN4.out.drew, Lib.hid hO4.out.drew⟩, by simp [intOf]; omega⟩
          · have hk4 : ¬ (k : Int) < 30 := by omega
            go_wp2_with fail
            go_ret
            exact ⟨rfl, HEND.out _ hO4.out⟩
end Go.Proofs.Ytmmgmpghkpbgkaa
