/- The walk of AcksBounded. -/
import Derived.Test.YthjlkiilkiggiaaAkT
import Derived.Test.YthjlkiilkiggiaaArg
namespace Go.Proofs.Ythjlkiilkiggiaa
open Go Go.RowKit Go.Shelf
set_option linter.unusedVariables false
set_option linter.unusedSectionVars false
set_option linter.unusedSimpArgs false

attribute [local irreducible] wpStill
def BRel (w : World) (g : Nat) (i : Value) (wr : World) : Prop := ∃ (k : Nat) (L : List (Int × Int)) (fl lg wh ct du : Int), i = .int .i64 k ∧ k ≤ 120 ∧ Hid (BInv (3 * k) L fl lg ct 499) ∧ Hid (TK wr g L 3 fl lg wh ct du) ∧ Below w.heap.size w wr

def BRel2 (w : World) (g r : Nat) (L : List (Int × Int)) (fl lg wh ct du : Int) (j : Value) (wr : World) : Prop := ∃ jn : Nat, j = .int .i64 jn ∧ jn ≤ L.length ∧ Hid (TK wr g L 3 fl lg wh ct du) ∧ Hid (Spans wr r L) ∧ r < wr.heap.size ∧ Below w.heap.size w wr

set_option maxRecDepth 100000 in
set_option maxHeartbeats 6000000 in
theorem bounded_walk (a0 : Option Addr) (len0 cap0 : Nat) (Z : Nat → Int) (w : World) (hZ : Ints .u16 w a0 len0 Z) :
    Calls Try.prog 4 #[.slice a0 len0 cap0] w fun e w' => e = .returned (.bool true) ∧ Below w.heap.size w w' := by
  go_enter Try.func4, Try.ntmps4
  go_wp2_with fail
  refine (sane_any _).mono ?_
  rintro e w1 ⟨rfl, hb⟩
  go_wp2_with fail
  refine (new_k 3 _ (by omega) (by omega)).mono ?_
  rintro e w2 ⟨g, rfl, hT, ho, hg⟩
  have hgw : w.heap.size ≤ g := Nat.le_trans hb.size hg
  replace hb := hb.trans (ho.below (by simp) hb.size)
  clear ho hg
  replace hT := Lib.hid hT
  go_wp2_with fail
  go_loopw [5] (fun i wr => BRel w g i wr) (fun i _ => 120 - (intOf i).toNat)
  case atStart => exact ⟨0, [], 0, -1, 0, 0, -1, rfl, by omega, Lib.hid (BInv.start 499 (by omega)), hT, hb⟩
  case round =>
    obtain ⟨k, L0, fl0, lg0, wh0, ct0, du0, rfl, hk, hI, hK, hbw⟩ := hrel
    clear hb hT
    by_cases hlt : k < len0 ∧ k < 120
    · obtain ⟨hlt1, hlt2⟩ := hlt
      obtain ⟨bs, off, rfl, hbs, q0, v0⟩ := hZ k hlt1
      rw [← hbw.cell hbs] at q0
      replace v0 := wf_u16 v0
      generalize Z k = z at q0 v0
      obtain ⟨v1, v2⟩ := v0
      have hlt1' : (k : Int) < len0 := by omega
      have hlt2' : (k : Int) < 120 := by omega
      obtain ⟨pn, hpn, p0, p1⟩ : ∃ pn, z % 500 = pn ∧ 0 ≤ pn ∧ pn ≤ 499 := ⟨_, rfl, by omega, by omega⟩
      have et : z.tmod 500 = pn := by rw [Int.tmod_eq_emod_of_nonneg v1]; exact hpn
      have ew : IntKind.i64.wrap z = z := IntWalk.i64_in _ (by omega)
      have ew2 : IntKind.i64.wrap pn = pn := IntWalk.i64_in _ (by omega)
      go_wp2_with fail
      refine (recv_inv g (3 * k) L0 3 fl0 lg0 wh0 ct0 du0 499 k pn true _ (by exact hK.out) (by exact hI.out) (by omega) (by omega) p0 p1 (by omega) (by omega) (by omega) (by omega)).mono ?_
      rintro e w3 ⟨f, L, fl, lg, wh, ct, du, rfl, hf, hne, hI2, hK2, ho⟩
      replace hbw := hbw.trans (ho.below (by simpa using hgw) hbw.size)
      clear hK hI ho q0 et ew ew2 hpn
      go_wp2_with fail
      refine (ranges_k g L 3 fl lg wh ct du _ hK2 hne).mono ?_
      rintro e w4 ⟨r, cap, rfl, hS, hr, hr2, ho⟩
      have hgr : r ≠ g := by have := hK2.lt; omega
      have hrw : w.heap.size ≤ r := Nat.le_trans hbw.size hr
      replace hK2 := Lib.hid (hK2.below ho hK2.lt)
      replace hbw := hbw.trans (ho.mono hbw.size)
      replace hS := Lib.hid hS
      replace hI2 := Lib.hid hI2
      have hlen : L.length ≤ 16 := hK2.out.len
      have hlen0 : 0 < L.length := List.length_pos_iff.2 hne
      have hl1 : (L.length : Int) ≤ 16 := by omega
      have hl2 : ¬ ((L.length : Int) = 0) := by omega
      clear ho hr
      have hff : (f = 0 ∨ f = 110) := hf
      have hl3 : decide (16 < (L.length : Int)) = false := by simp; omega
      have hl4 : ((L.length : Int) == 0) = false := by simp; omega
      clear hf hl1
      rcases hff with rfl | rfl
      · go_wp2_with fail
        go_loopw [9] (fun j wr => BRel2 w g r L fl lg wh ct du j wr) (fun j _ => 16 - (intOf j).toNat)
        case atStart => exact ⟨0, rfl, by omega, hK2, hS, hr2, hbw⟩
        case round =>
          obtain ⟨jn, rfl, hj, hK3, hS3, hr3, hbw3⟩ := hrel
          clear hK2 hS hr2 hbw
          by_cases hjl : jn < L.length
          · have hx : L[jn]? = some L[jn] := List.getElem?_eq_getElem hjl
            generalize L[jn] = x at hx
            obtain ⟨c0, c1⟩ := hS3.out jn x hx
            obtain ⟨b0, b1, _⟩ := hI2.out.good.get jn x hx
            have hjl' : (jn : Int) < L.length := by omega
            have hb1 : ¬ (x.2 ≤ x.1) := by omega
            by_cases hj0 : jn = 0
            · subst hj0
              go_wp2_with fail
              go_still (by kernel_rfl)
              go_wp2_with fail
              exact ⟨⟨1, rfl, by omega, Lib.hid hK3.out.drew, Lib.hid (p := Spans wr.drew r L) hS3.out, hr3, hbw3.drew⟩, by simp [intOf]⟩
            · have hy : L[jn - 1]? = some L[jn - 1] := List.getElem?_eq_getElem (by omega)
              generalize L[jn - 1] = y at hy
              obtain ⟨c2, c3⟩ := hS3.out (jn - 1) y hy
              obtain ⟨_, _, b2⟩ := hI2.out.good.get (jn - 1) y hy
              have b3 := b2 x (by rw [show jn - 1 + 1 = jn by omega]; exact hx)
              have e1 : IntKind.i64.wrap ((jn : Int) - 1) = (jn : Int) - 1 := IntWalk.i64_in _ (by omega)
              have i0 : (0 : Int) < jn := by omega
              have i1 : (0 : Int) ≤ (jn : Int) - 1 := by omega
              have i2 : (jn : Int) - 1 < (L.length : Int) := by omega
              have i4 : (jn : Int) ≤ (L.length : Int) := by omega
              have i5 : (1 : Int) ≤ (jn : Int) := by omega
              have i6 : 0 < jn := by omega
              have i7 : 1 ≤ jn := i6
              have i8 : jn ≤ L.length := by omega
              have i3 : ((jn : Int) - 1).toNat = jn - 1 := by omega
              have hb3 : ¬ (x.1 ≤ y.2) := by omega
              clear b2 hj0
              go_wp2_with fail
              go_still (by kernel_rfl)
              go_wp2_with fail
              exact ⟨⟨jn + 1, rfl, by omega, Lib.hid hK3.out.drew, Lib.hid (p := Spans wr.drew r L) hS3.out, hr3, hbw3.drew⟩, by simp [intOf] <;> omega⟩
          · have hx : L[0]? = some L[0] := List.getElem?_eq_getElem hlen0
            generalize L[0] = x at hx
            have c0 := (hS3.out 0 x hx).1
            obtain ⟨b0, b1, _⟩ := hI2.out.good.get 0 x hx
            have hin := In_get (z := x.1) 0 x hx (by omega) b1
            have hix := hI2.out.lo _ hin
            have hm := hI2.out.lg1
            have hjl' : ¬ ((jn : Int) < L.length) := by omega
            have hl0' : (0 : Int) < L.length := by omega
            go_wp2_with fail
            refine (recv_dup g L 3 fl lg wh ct du k x.1 true _ (by exact hK3.out) (by omega) (by omega) (by omega) (by omega) (.inr hin)).mono ?_
            rintro e w5 ⟨rfl, hX, ho⟩
            replace hK3 := Lib.hid hX
            replace hS3 := Lib.hid (hS3.out.only ho hr3 (by simp))
            replace hbw3 := hbw3.trans (ho.below (by simp) hbw3.size)
            clear hX ho c0 hin b0 b1
            have hy : L[L.length - 1]? = some L[L.length - 1] := List.getElem?_eq_getElem (by omega)
            generalize L[L.length - 1] = y at hy
            have c1 := (hS3.out (L.length - 1) y hy).2
            obtain ⟨b0, b1, _⟩ := hI2.out.good.get (L.length - 1) y hy
            have hin := In_get (z := y.2 - 1) (L.length - 1) y hy (by omega) (by omega)
            have hiy := hI2.out.lo _ hin
            have e1 : IntKind.i64.wrap ((L.length : Int) - 1) = (L.length : Int) - 1 := IntWalk.i64_in _ (by omega)
            have e2 : IntKind.i64.wrap (y.2 - 1) = y.2 - 1 := IntWalk.i64_in _ (by omega)
            have i1 : (0 : Int) ≤ (L.length : Int) - 1 := by omega
            have i2 : (L.length : Int) - 1 < (L.length : Int) := by omega
            have i3 : ((L.length : Int) - 1).toNat = L.length - 1 := by omega
            have i5 : (1 : Int) ≤ (L.length : Int) := by omega
            go_wp2_with fail
            refine (recv_dup g L 3 fl lg wh ct du k (y.2 - 1) true _ (by exact hK3.out) (by omega) (by omega) (by omega) (by omega) (.inr hin)).mono ?_
            rintro e w6 ⟨rfl, hX, ho⟩
            replace hK3 := Lib.hid hX
            replace hbw3 := hbw3.trans (ho.below (by simp) hbw3.size)
            clear hX ho
            go_wp2_with fail
            exact ⟨⟨k + 1, L, fl, lg, wh, ct, du, rfl, by omega, Lib.hid (hI2.out.mono (by omega)), hK3, hbw3⟩, by simp [intOf] <;> omega⟩
      · go_wp2_with fail
        go_loopw [9] (fun j wr => BRel2 w g r L fl lg wh ct du j wr) (fun j _ => 16 - (intOf j).toNat)
        case atStart => exact ⟨0, rfl, by omega, hK2, hS, hr2, hbw⟩
        case round =>
          obtain ⟨jn, rfl, hj, hK3, hS3, hr3, hbw3⟩ := hrel
          clear hK2 hS hr2 hbw
          by_cases hjl : jn < L.length
          · have hx : L[jn]? = some L[jn] := List.getElem?_eq_getElem hjl
            generalize L[jn] = x at hx
            obtain ⟨c0, c1⟩ := hS3.out jn x hx
            obtain ⟨b0, b1, _⟩ := hI2.out.good.get jn x hx
            have hjl' : (jn : Int) < L.length := by omega
            have hb1 : ¬ (x.2 ≤ x.1) := by omega
            by_cases hj0 : jn = 0
            · subst hj0
              go_wp2_with fail
              go_still (by kernel_rfl)
              go_wp2_with fail
              exact ⟨⟨1, rfl, by omega, Lib.hid hK3.out.drew, Lib.hid (p := Spans wr.drew r L) hS3.out, hr3, hbw3.drew⟩, by simp [intOf]⟩
            · have hy : L[jn - 1]? = some L[jn - 1] := List.getElem?_eq_getElem (by omega)
              generalize L[jn - 1] = y at hy
              obtain ⟨c2, c3⟩ := hS3.out (jn - 1) y hy
              obtain ⟨_, _, b2⟩ := hI2.out.good.get (jn - 1) y hy
              have b3 := b2 x (by rw [show jn - 1 + 1 = jn by omega]; exact hx)
              have e1 : IntKind.i64.wrap ((jn : Int) - 1) = (jn : Int) - 1 := IntWalk.i64_in _ (by omega)
              have i0 : (0 : Int) < jn := by omega
              have i1 : (0 : Int) ≤ (jn : Int) - 1 := by omega
              have i2 : (jn : Int) - 1 < (L.length : Int) := by omega
              have i4 : (jn : Int) ≤ (L.length : Int) := by omega
              have i5 : (1 : Int) ≤ (jn : Int) := by omega
              have i6 : 0 < jn := by omega
              have i7 : 1 ≤ jn := i6
              have i8 : jn ≤ L.length := by omega
              have i3 : ((jn : Int) - 1).toNat = jn - 1 := by omega
              have hb3 : ¬ (x.1 ≤ y.2) := by omega
              clear b2 hj0
              go_wp2_with fail
              go_still (by kernel_rfl)
              go_wp2_with fail
              exact ⟨⟨jn + 1, rfl, by omega, Lib.hid hK3.out.drew, Lib.hid (p := Spans wr.drew r L) hS3.out, hr3, hbw3.drew⟩, by simp [intOf] <;> omega⟩
          · have hx : L[0]? = some L[0] := List.getElem?_eq_getElem hlen0
            generalize L[0] = x at hx
            have c0 := (hS3.out 0 x hx).1
            obtain ⟨b0, b1, _⟩ := hI2.out.good.get 0 x hx
            have hin := In_get (z := x.1) 0 x hx (by omega) b1
            have hix := hI2.out.lo _ hin
            have hm := hI2.out.lg1
            have hjl' : ¬ ((jn : Int) < L.length) := by omega
            have hl0' : (0 : Int) < L.length := by omega
            go_wp2_with fail
            refine (recv_dup g L 3 fl lg wh ct du k x.1 true _ (by exact hK3.out) (by omega) (by omega) (by omega) (by omega) (.inr hin)).mono ?_
            rintro e w5 ⟨rfl, hX, ho⟩
            replace hK3 := Lib.hid hX
            replace hS3 := Lib.hid (hS3.out.only ho hr3 (by simp))
            replace hbw3 := hbw3.trans (ho.below (by simp) hbw3.size)
            clear hX ho c0 hin b0 b1
            have hy : L[L.length - 1]? = some L[L.length - 1] := List.getElem?_eq_getElem (by omega)
            generalize L[L.length - 1] = y at hy
            have c1 := (hS3.out (L.length - 1) y hy).2
            obtain ⟨b0, b1, _⟩ := hI2.out.good.get (L.length - 1) y hy
            have hin := In_get (z := y.2 - 1) (L.length - 1) y hy (by omega) (by omega)
            have hiy := hI2.out.lo _ hin
            have e1 : IntKind.i64.wrap ((L.length : Int) - 1) = (L.length : Int) - 1 := IntWalk.i64_in _ (by omega)
            have e2 : IntKind.i64.wrap (y.2 - 1) = y.2 - 1 := IntWalk.i64_in _ (by omega)
            have i1 : (0 : Int) ≤ (L.length : Int) - 1 := by omega
            have i2 : (L.length : Int) - 1 < (L.length : Int) := by omega
            have i3 : ((L.length : Int) - 1).toNat = L.length - 1 := by omega
            have i5 : (1 : Int) ≤ (L.length : Int) := by omega
            go_wp2_with fail
            refine (recv_dup g L 3 fl lg wh ct du k (y.2 - 1) true _ (by exact hK3.out) (by omega) (by omega) (by omega) (by omega) (.inr hin)).mono ?_
            rintro e w6 ⟨rfl, hX, ho⟩
            replace hK3 := Lib.hid hX
            replace hbw3 := hbw3.trans (ho.below (by simp) hbw3.size)
            clear hX ho
            go_wp2_with fail
            exact ⟨⟨k + 1, L, fl, lg, wh, ct, du, rfl, by omega, Lib.hid (hI2.out.mono (by omega)), hK3, hbw3⟩, by simp [intOf] <;> omega⟩
    · go_wp2_with fail
      all_goals (go_ret; exact ⟨rfl, hbw⟩)
end Go.Proofs.Ythjlkiilkiggiaa
