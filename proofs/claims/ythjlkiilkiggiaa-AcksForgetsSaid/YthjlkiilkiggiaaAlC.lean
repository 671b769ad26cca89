/- The walk of AcksForgets. -/
import Derived.Test.YthjlkiilkiggiaaAlB
import Derived.Test.YthjlkiilkiggiaaArg
namespace Go.Proofs.Ythjlkiilkiggiaa
open Go Go.RowKit Go.Shelf
set_option linter.unusedVariables false
set_option linter.unusedSectionVars false
set_option linter.unusedSimpArgs false

attribute [local irreducible] wpStill
/-- The cells of intervals. -/
def flatL (L : List (Int × Int)) : List Value := L.flatMap fun x => [Value.int .i64 x.1, Value.int .i64 x.2]
theorem flatL_len (L : List (Int × Int)) : (flatL L).length = L.length * 2 := by
  induction L with
  | nil => rfl
  | cons x r ih => simp only [flatL, List.flatMap_cons, List.length_append, List.length_cons, List.length_nil] at ih ⊢; omega
theorem flatL_snoc (L : List (Int × Int)) (x : Int × Int) : flatL (L ++ [x]) = flatL L ++ [Value.int .i64 x.1, Value.int .i64 x.2] := by simp [flatL]
theorem flatL_get (L : List (Int × Int)) : ∀ i x, L[i]? = some x → (flatL L)[i * 2]? = some (.int .i64 x.1) ∧ (flatL L)[i * 2 + 1]? = some (.int .i64 x.2) := by
  induction L with
  | nil => intro i x h; simp at h
  | cons p r ih =>
    intro i x h
    cases i with
    | zero => simp at h; subst h; exact ⟨rfl, rfl⟩
    | succ i =>
      simp at h
      obtain ⟨a, b⟩ := ih i x h
      simp only [flatL, List.flatMap_cons] at a b ⊢
      rw [show (i + 1) * 2 = i * 2 + 2 from by omega, show i * 2 + 2 + 1 = (i * 2 + 1) + 2 from by omega]
      exact ⟨by simpa using a, by simpa using b⟩
theorem own_spans {w : World} {B : Nat} {v : Value} {L : List (Int × Int)} (h : w.ownsRow B 40 2 v L.length (flatL L)) : ∃ a cap, v = .slice a L.length cap ∧ SpA w B a L := by
  rcases h.2 with ⟨rfl, h0⟩ | ⟨g, cap, cur, rfl, hg, hgb, h1, h2, h3, h4⟩
  · refine ⟨none, 0, by rw [h0], fun i x hx => ?_⟩
    have := (List.getElem?_eq_some_iff.1 hx).1
    omega
  · refine ⟨some ⟨g, 0, none⟩, cap, rfl, fun i x hx => ⟨g, rfl, hg, At.lt (show At w g _ cur from hgb), ?_⟩⟩
    have hi := (List.getElem?_eq_some_iff.1 hx).1
    obtain ⟨k1, k2⟩ := flatL_get L i x hx
    rw [← h4, List.getElem?_take_of_lt (by omega)] at k1 k2
    simp only [Array.getElem?_toList] at k1 k2
    exact ⟨(cell_of_row w g _ cur _ (0, 0) hgb).trans k1, (cell_of_row w g _ cur _ (0, 0) hgb).trans k2⟩
theorem cell_two_at (w : World) (n : Nat) (hn : w.heap.size = n) (x y : Value) (t : TypeId) : ∀ j u, [x, y][j]? = some u → (w.alloc (.cells #[x, y] t)).cell? ((⟨n, 0, none⟩ : Addr).add j) = some u := by
  subst hn; exact cell_two_new w x y t
def FRel1 (w : World) (g : Nat) (i : Value) (wr : World) : Prop := ∃ (k : Nat) (L : List (Int × Int)) (fl lg wh ct du : Int), i = .int .i64 k ∧ k ≤ 60 ∧ Hid (BInv k L fl lg ct 99) ∧ Hid (Flo L fl) ∧ Hid (TK wr g L 3 fl lg wh ct du) ∧ Below w.heap.size w wr
def FRel3 (w : World) (g B2 B3 : Nat) (a2 a3 : Option Addr) (L : List (Int × Int)) (fl lg wh ct du : Int) (i : Value) (wr : World) : Prop := ∃ k : Nat, i = .int .i64 k ∧ k ≤ L.length ∧ Hid (SpA wr B2 a2 L) ∧ Hid (SpA wr B3 a3 L) ∧ Hid (TK wr g L 3 fl lg wh ct du) ∧ Below w.heap.size w wr
def FRel2 (w7 : World) (W : Nat → List (Int × Int)) (n : Nat) (v i : Value) (wr : World) : Prop := ∃ k : Nat, i = .int .i64 k ∧ k ≤ n ∧ Hid (wr.ownsRow w7.heap.size 40 2 v (W k).length (flatL (W k))) ∧ Hid (Below w7.heap.size w7 wr)

set_option maxRecDepth 100000 in
set_option maxHeartbeats 6000000 in
theorem forgets_walk (a0 : Option Addr) (len0 cap0 : Nat) (Z : Nat → Int) (bd : Int) (w : World) (hZ : Ints .u8 w a0 len0 Z) (w1 : (Lit.int .i8 bd).wf = true) :
    Calls Try.prog 6 #[.slice a0 len0 cap0, .int .i8 bd] w fun e w' => e = .returned (.bool true) ∧ Below w.heap.size w w' := by
  have hbd : -128 ≤ bd ∧ bd ≤ 127 := by
    simp [Lit.wf, IntKind.min, IntKind.max, IntKind.signed, IntKind.bits] at w1; omega
  obtain ⟨b0, b1⟩ := hbd
  go_enter Try.func6, Try.ntmps6
  go_wp2_with fail
  refine (sane_any _).mono ?_
  rintro e w1 ⟨rfl, hb⟩
  go_wp2_with fail
  refine (new_k 3 _ (by omega) (by omega)).mono ?_
  rintro e w2 ⟨g, rfl, hT, ho, hg⟩
  have hgw : w.heap.size ≤ g := Nat.le_trans hb.size hg
  replace hb := hb.trans (ho.below (by simp) hb.size)
  clear ho hg
  replace hT := Lib.hid hT
  go_wp2_with fail
  go_loopw [7] (fun i wr => FRel1 w g i wr) (fun i _ => 60 - (intOf i).toNat)
  case atStart => exact ⟨0, [], 0, -1, 0, 0, -1, rfl, by omega, Lib.hid (BInv.start 99 (by omega)), Lib.hid Flo.start, hT, hb⟩
  case round =>
    obtain ⟨k, L0, fl0, lg0, wh0, ct0, du0, rfl, hk, hI, hF, hK, hbw⟩ := hrel
    clear hb hT
    by_cases hlt : k < len0 ∧ k < 60
    · obtain ⟨hlt1, hlt2⟩ := hlt
      obtain ⟨bs, off, rfl, hbs, q0, v0⟩ := hZ k hlt1
      rw [← hbw.cell hbs] at q0
      replace v0 := wf_u8 v0
      generalize Z k = z at q0 v0
      obtain ⟨v1, v2⟩ := v0
      have hlt1' : (k : Int) < len0 := by omega
      have hlt2' : (k : Int) < 60 := by omega
      obtain ⟨pn, hpn, p0, p1⟩ : ∃ pn, z % 100 = pn ∧ 0 ≤ pn ∧ pn ≤ 99 := ⟨_, rfl, by omega, by omega⟩
      have et : z.tmod 100 = pn := by rw [Int.tmod_eq_emod_of_nonneg v1]; exact hpn
      have ew : IntKind.i64.wrap z = z := IntWalk.i64_in _ (by omega)
      have ew2 : IntKind.i64.wrap pn = pn := IntWalk.i64_in _ (by omega)
      go_wp2_with fail
      refine (recv_g g k L0 3 fl0 lg0 wh0 ct0 du0 99 k pn true _ (by exact hK.out) (by exact hI.out) (by exact hF.out) (by omega) (by omega) p0 p1 (by omega) (by omega) (by omega) (by omega)).mono ?_
      rintro e w3 ⟨f, L, fl, lg, wh, ct, du, rfl, hI2, hF2, hK2, ho⟩
      replace hbw := hbw.trans (ho.below (by simpa using hgw) hbw.size)
      replace hI2 := Lib.hid hI2
      replace hF2 := Lib.hid hF2
      replace hK2 := Lib.hid hK2
      clear hK hI hF ho q0 et ew ew2 hpn
      go_wp2_with fail
      exact ⟨⟨k + 1, L, fl, lg, wh, ct, du, rfl, by omega, hI2, hF2, hK2, hbw⟩, by simp [intOf] <;> omega⟩
    · have hlg0 := hI.out.lg0
      have hlg1 := hI.out.lg1
      have hflo := hI.out.flo
      have hgl := hK.out.lt
      have hls : L0.length ≤ 16 := hK.out.len
      have ebd : IntKind.i64.wrap bd = bd := IntWalk.i64_in _ (by omega)
      have ebd1 : IntKind.i64.wrap (bd + 1) = bd + 1 := IntWalk.i64_in _ (by omega)
      obtain ⟨i0, hi, hz0, hz1, hz2⟩ := info_parts A_spanInfo3
      go_wp2_with fail
      all_goals
        clear hlt
        refine (ranges_a g L0 3 fl0 lg0 wh0 ct0 du0 _ (by exact hK.out)).mono ?_
        rintro e w4 ⟨r1, c1, rfl, hS1, hB⟩
        replace hK := Lib.hid (hK.out.below hB hgl)
        replace hbw := hbw.trans (hB.mono hbw.size)
        clear hB
        go_wp2_with fail
        refine (largest_k g _ _ _ _ _ _ _ _ (by exact hK.out)).mono ?_
        rintro e wk ⟨rfl, rfl⟩
        go_wp2_with fail
        refine (forget_any g L0 3 fl0 lg0 wh0 ct0 du0 bd _ (by exact hK.out) (by omega) (by omega) hF.out (by omega)).mono ?_
        rintro e w5 ⟨rfl, L2, fl2, hK2, hW, hfl, ho⟩
        replace hbw := hbw.trans (ho.below (by simpa using hgw) hbw.size)
        replace hS1 := hS1.only ho (by simpa using hgl)
        have hgl5 := hK2.lt
        clear ho hK hI hF hgl
        replace hK2 := Lib.hid hK2
        replace hW := Lib.hid hW
        replace hfl := Lib.hid hfl
        go_wp2_with fail
        refine (ranges_a g L2 3 fl2 lg0 wh0 ct0 du0 _ (by exact hK2.out)).mono ?_
        rintro e w6 ⟨r2, c2, rfl, hS2, hB⟩
        replace hK2 := Lib.hid (hK2.out.below hB hgl5)
        replace hS1 := Lib.hid (hS1.below hB (Nat.le_refl _))
        replace hS2 := Lib.hid hS2
        replace hbw := hbw.trans (hB.mono hbw.size)
        have hgl6 := hK2.out.lt
        clear hB hgl5
        go_wp2_with fail
        go_loopw [12, 13] (fun v i wr => FRel2 w6 (fun k => wantL (L0.take k) (bd + 1)) L0.length v i wr) (fun _ i _ => 16 - (intOf i).toNat)
        case atStart => exact ⟨0, rfl, by omega, Lib.hid (World.ownsRow_nil _ _ _ _), Lib.hid (Below.refl _ _)⟩
        case round =>
          obtain ⟨k, rfl, hk, hrow, hbel⟩ := hrel
          by_cases hlt : k < L0.length
          · have hx : L0[k]? = some L0[k] := List.getElem?_eq_getElem hlt
            generalize L0[k] = x at hx
            have hwt := wantL_take L0 (bd + 1) k x hx
            have hll := wantL_len (L0.take k) (bd + 1)
            have hlk : (wantL (L0.take k) (bd + 1)).length ≤ 16 := by simp at hll; omega
            clear hll
            obtain ⟨rr, hr1, hrB, hrl, x0, x1⟩ := (hS1.out.below hbel.out (Nat.le_refl _)) k x hx
            clear hx
            subst hr1
            have hlt' : (k : Int) < L0.length := by omega
            have hbsz := hbel.out.size
            obtain ⟨f', hf'⟩ : ∃ f', (if x.1 < bd + 1 then bd + 1 else x.1) = f' := ⟨_, rfl⟩
            rw [hf'] at hwt
            by_cases hft : f' < x.2
            · rw [if_pos hft] at hwt
              have HWT := Lib.hid hwt
              clear hwt
              change Hid (wr.ownsRow w6.heap.size 40 2 _ (wantL (L0.take k) (bd + 1)).length (flatL (wantL (L0.take k) (bd + 1)))) at hrow
              generalize hWk : wantL (L0.take k) (bd + 1) = Wk at hrow hlk HWT
              clear hWk
              go_wp2_with (at_builtin; refine wpList_append_own _ rfl (.tmp 79) (.tmp 81) 37 rfl w6.heap.size 40 i0 (.agg #[.int .i64 0, .int .i64 0]) 2 16 Try.underlying37 hi hz0 hz1 hz2 rfl (by decide) _ Wk.length (flatL Wk) rfl ((hrow.out.alloc _).alloc _) ⟨wr.heap.size + 1, 0, none⟩ 1 1 [.int .i64 f', .int .i64 x.2] rfl rfl (cell_two_at _ _ (by simp) _ _ _) (by simp [Value.oneCell']) (by unfold maxLen; omega) (by omega) (by simp; omega) ?_; intro v' wn hown' hgrow _)
              have hb2 : Below w6.heap.size w6 wn := ((hbel.out.alloc hbsz _).alloc (by simp; omega) _).grown hgrow (by simp; omega) (fun j e => (hrow.out.lt j e).1)
              exact ⟨⟨k + 1, rfl, by omega, Lib.hid (by dsimp only; rw [HWT.out, flatL_snoc]; simpa using hown'), Lib.hid hb2⟩, by simp [intOf] <;> omega⟩
            · rw [if_neg hft] at hwt
              have HWT := Lib.hid hwt
              clear hwt
              go_wp2_with fail
              exact ⟨⟨k + 1, rfl, by omega, Lib.hid (by dsimp only; rw [HWT.out]; exact hrow.out.alloc _), Lib.hid (hbel.out.alloc hbsz _)⟩, by simp [intOf] <;> omega⟩
          · have hkl : L0.take k = L0 := List.take_of_length_le (by omega)
            have hrow2 := hrow.out
            simp only [hkl] at hrow2
            rw [hW.out] at hrow2
            obtain ⟨r3, c3, rfl, hS3⟩ := own_spans hrow2
            replace hS2 := Lib.hid (hS2.out.below hbel.out (Nat.le_refl _))
            replace hK2 := Lib.hid (hK2.out.below hbel.out hgl6)
            replace hbw := hbw.trans (hbel.out.mono hbw.size)
            replace hS3 := Lib.hid hS3
            have hl2 : L2.length ≤ 16 := hK2.out.len
            clear hrow hrow2 hbel hkl hS1
            go_wp2_with fail
            refine (largest_k g _ _ _ _ _ _ _ _ (by exact hK2.out)).mono ?_
            rintro e wk ⟨rfl, rfl⟩
            go_wp2_with fail
            go_loopw [15] (fun i wr => FRel3 w g _ _ r2 r3 L2 fl2 lg0 wh0 ct0 du0 i wr) (fun i _ => 16 - (intOf i).toNat)
            case atStart => exact ⟨0, rfl, by omega, hS2, hS3, hK2, hbw⟩
            case round =>
              obtain ⟨k, rfl, hk3, hP2, hP3, hK3, hbw3⟩ := hrel
              clear hS2 hS3 hK2 hbw
              by_cases hlt : k < L2.length
              · have hx : L2[k]? = some L2[k] := List.getElem?_eq_getElem hlt
                generalize L2[k] = x at hx
                obtain ⟨ra, ha1, _, hal, x0, x1⟩ := hP2.out k x hx
                obtain ⟨rb, hb1, _, hbl, y0, y1⟩ := hP3.out k x hx
                subst ha1 hb1
                have hlt' : (k : Int) < L2.length := by omega
                clear hx
                go_wp2_with fail
                go_still (by kernel_rfl)
                go_wp2_with fail
                exact ⟨⟨k + 1, rfl, by omega, Lib.hid (p := SpA wr.drew _ _ L2) hP2.out, Lib.hid (p := SpA wr.drew _ _ L2) hP3.out, Lib.hid hK3.out.drew, hbw3.drew⟩, by simp [intOf] <;> omega⟩
              · by_cases hbn : bd < 0
                · go_wp2_with fail
                  go_ret
                  exact ⟨rfl, hbw3⟩
                · have hf2 := hfl.out (by omega)
                  go_wp2_with fail
                  refine (recv_dup g L2 3 fl2 lg0 wh0 ct0 du0 1000 bd true _ (by exact hK3.out) (by omega) (by omega) (by omega) (by omega) (.inl hf2)).mono ?_
                  rintro e w8 ⟨rfl, hX, ho⟩
                  replace hK3 := Lib.hid hX
                  replace hbw3 := hbw3.trans (ho.below (by simp) hbw3.size)
                  clear hX ho
                  go_wp2_with fail
                  refine (recv_dup g L2 3 fl2 lg0 wh0 ct0 du0 1000 0 true _ (by exact hK3.out) (by omega) (by omega) (by omega) (by omega) (.inl (by omega))).mono ?_
                  rintro e w9 ⟨rfl, hX, ho⟩
                  replace hbw3 := hbw3.trans (ho.below (by simp) hbw3.size)
                  go_wp2_with fail
                  go_ret
                  exact ⟨rfl, hbw3⟩
end Go.Proofs.Ythjlkiilkiggiaa
