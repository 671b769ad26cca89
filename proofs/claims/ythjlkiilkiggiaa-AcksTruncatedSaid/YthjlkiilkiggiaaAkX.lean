/- The walk of AcksTruncated. -/
import Derived.Test.YthjlkiilkiggiaaAkW
namespace Go.Proofs.Ythjlkiilkiggiaa
open Go Go.RowKit Go.Shelf
set_option linter.unusedVariables false
set_option linter.unusedSectionVars false
set_option linter.unusedSimpArgs false

attribute [local irreducible] wpStill
theorem largest_s (b : Nat) (L : List (Int × Int)) (d fl lg wh ct du : Int) (w : World) (hT : TK w b L d fl lg wh ct du) : Calls Try.prog 15 #[.pointer (some ⟨b, 0, none⟩)] w fun e w' => e = .returned (.int .i64 lg) ∧ w' = w :=
  (largest_k b L d fl lg wh ct du w hT).mono fun _ _ h => ⟨h.1, h.2.symm⟩
def TRel (w : World) (g : Nat) (base : Int) (f i : Value) (wr : World) : Prop := ∃ (k : Nat) (L : List (Int × Int)) (fl lg wh ct du first : Int), f = .int .i64 first ∧ i = .int .i64 k ∧ k ≤ 60 ∧ Hid (TInv k L fl lg ct base first) ∧ Hid (TK wr g L 3 fl lg wh ct du) ∧ Below w.heap.size w wr

set_option maxRecDepth 100000 in
set_option maxHeartbeats 6000000 in
theorem trunc_walk (a0 : Option Addr) (len0 cap0 : Nat) (Z : Nat → Int) (base : Int) (w : World) (hZ : Ints .u8 w a0 len0 Z) (w1 : (Lit.int .u32 base).wf = true) :
    Calls Try.prog 7 #[.slice a0 len0 cap0, .int .u32 base] w fun e w' => e = .returned (.bool true) ∧ Below w.heap.size w w' := by
  have hbase : 0 ≤ base ∧ base ≤ 4294967295 := by
    simp [Lit.wf, IntKind.min, IntKind.max, IntKind.signed, IntKind.bits] at w1; omega
  obtain ⟨hb0, hb1⟩ := hbase
  have ew0 : IntKind.i64.wrap base = base := IntWalk.i64_in _ (by omega)
  go_enter Try.func7, Try.ntmps7
  go_wp2_with fail
  refine (sane_any _).mono ?_
  rintro e w1 ⟨rfl, hb⟩
  go_wp2_with fail
  refine (new_k 3 _ (by omega) (by omega)).mono ?_
  rintro e w2 ⟨g, rfl, hT, ho, hg⟩
  have hgw : w.heap.size ≤ g := Nat.le_trans hb.size hg
  replace hb := hb.trans (ho.below (by simp) hb.size)
  clear ho hg
  go_wp2_with fail
  refine (recv_ok g [] 3 0 (-1) 0 0 (-1) 0 base true _ hT (by omega) (by omega) (by omega) (by omega) (by omega) (by simp [In]) (by omega) (by omega) (by omega) (by omega) (by omega) (by omega)).mono ?_
  rintro e w3 ⟨rfl, hX, ho⟩
  rw [if_pos (show (-1 : Int) < base by omega), if_pos (show (-1 : Int) < base by omega)] at hX
  simp only [if_true] at hX
  replace hT := Lib.hid hX
  replace hb := hb.trans (ho.below (by simpa using hgw) hb.size)
  clear ho hX
  have hI := Lib.hid (TInv.start base hb0)
  go_wp2_with fail
  go_loopw [7, 8] (fun f i wr => TRel w g base f i wr) (fun _ i _ => 60 - (intOf i).toNat)
  case atStart => exact ⟨0, _, _, _, _, _, _, base, rfl, rfl, by omega, hI, hT, hb⟩
  case round =>
    obtain ⟨k, L, fl, lg, wh, ct, du, first, rfl, rfl, hk, hI, hK, hbw⟩ := hrel
    clear hb hT
    by_cases hlt : k < len0 ∧ k < 60
    · obtain ⟨hlt1, hlt2⟩ := hlt
      obtain ⟨bs, off, rfl, hbs, q0, v0⟩ := hZ k hlt1
      rw [← hbw.cell hbs] at q0
      replace v0 := wf_u8 v0
      generalize Z k = z at q0 v0
      obtain ⟨v1, v2⟩ := v0
      have hlt1' : (k : Int) < len0 := by omega
      have hlt2' : (k : Int) < 60 := by omega
      have g0 := hI.out.b0
      have g1 := hI.out.f0
      have g2 := hI.out.f1
      have g3 := hI.out.lg1
      have g4 := hI.out.ct0
      have g5 := hI.out.ct1
      obtain ⟨q, hq, p0, p1⟩ : ∃ q, z % 100 = q ∧ 0 ≤ q ∧ q ≤ 99 := ⟨_, rfl, by omega, by omega⟩
      have et : z.tmod 100 = q := by rw [Int.tmod_eq_emod_of_nonneg v1]; exact hq
      have ew : IntKind.i64.wrap z = z := IntWalk.i64_in _ (by omega)
      have ew2 : IntKind.i64.wrap q = q := IntWalk.i64_in _ (by omega)
      have ew3 : IntKind.i64.wrap (lg + 1) = lg + 1 := IntWalk.i64_in _ (by omega)
      have ew4 : IntKind.i64.wrap (lg + 1 + q) = lg + 1 + q := IntWalk.i64_in _ (by omega)
      go_wp2_with fail
      refine wp_region_still_lit (by kernel_rfl) (by kernel_rfl) ?_
      repeat still_step
      still_call (largest_s g _ _ _ _ _ _ _ _ (by exact hK.out.drew))
      repeat still_step
      refine wpStill_nil ?_
      go_wp2_with fail
      obtain ⟨k1, k2, k3, k4⟩ := width_back (lg + 1 + q) first lg (by omega) g2 (by omega) (by omega) (by omega)
      have hst := fun f' hf => hI.out.step (lg + 1 + q) (by omega) (by omega) f' hf
      have hfr := (hst first (by omega)).2
      have hcd := cap_dup (fl := fl) hI.out.good hfr.2.2 hfr.2.1
      have HS := Lib.hid hst
      replace hK := Lib.hid hK.out.drew
      replace hbw := hbw.drew
      have q1 : wr.drew.cell? ⟨bs, off + k, none⟩ = some (.int .u8 z) := q0
      have hbl : bs < wr.drew.heap.size := Nat.lt_of_lt_of_le hbs hbw.size
      obtain ⟨wd, hwd⟩ : ∃ wd, wr.drew = wd := ⟨_, rfl⟩
      rw [hwd] at hK hbw q1 hbl ⊢
      clear hwd q0 hst hI
      refine (width_any (lg + 1 + q) first _ (by omega)).mono ?_
      rintro e wk ⟨rfl, rfl⟩
      rw [k1]
      generalize widthW (lg + 1 + q) first = W at k2 k3 k4 ⊢
      go_wp2_with fail
      refine (trunc_any (lg + 1 + q) W _).mono ?_
      rintro e wk ⟨rfl, rfl⟩
      rw [k2]
      generalize truncV (lg + 1 + q) W = S at k3 k4 ⊢
      go_wp2_with fail
      refine (largest_k g _ _ _ _ _ _ _ _ (by exact hK.out)).mono ?_
      rintro e wk ⟨rfl, rfl⟩
      go_wp2_with fail
      refine (exp_any lg S W _).mono ?_
      rintro e wk ⟨rfl, rfl⟩
      rw [k3, k4]
      clear k1 k2 k3 k4
      go_wp2_with fail
      refine (recv_ok g L 3 fl lg wh ct du k (lg + 1 + q) true _ (by exact hK.out) (by omega) (by omega) (by omega) (by omega) hfr.1 hfr.2.1 (by omega) (by omega) (by omega) (by omega) (by omega) (by omega)).mono ?_
      rintro e w3 ⟨rfl, hX, ho⟩
      rw [if_pos (show lg < lg + 1 + q by omega), if_pos (show lg < lg + 1 + q by omega)] at hX
      simp only [if_true] at hX
      replace hK := Lib.hid hX
      replace hbw := hbw.trans (ho.below (by simpa using hgw) hbw.size)
      replace q1 : w3.cell? ⟨bs, off + k, none⟩ = some (.int .u8 z) := by rw [ho.cell (p := ⟨bs, off + k, none⟩) hbl (by simp; omega)]; exact q1
      have hbl3 : bs < w3.heap.size := Nat.lt_of_lt_of_le hbl ho.size
      clear ho hX hbl
      go_wp2_with fail
      refine (recv_dup g _ _ _ _ _ _ _ k (lg + 1 + q) true _ (by exact hK.out) (by omega) (by omega) (by omega) (by omega) hcd).mono ?_
      rintro e w4 ⟨rfl, hX, ho⟩
      replace hK := Lib.hid hX
      replace hbw := hbw.trans (ho.below (by simp) hbw.size)
      replace q1 : w4.cell? ⟨bs, off + k, none⟩ = some (.int .u8 z) := by rw [ho.cell (p := ⟨bs, off + k, none⟩) hbl3 (by simp)]; exact q1
      clear ho hX hbl3 hcd hfr et ew2 ew3 ew4
      have et3 : z.tmod 3 = z % 3 := Int.tmod_eq_emod_of_nonneg v1
      have ew5 : IntKind.i64.wrap (z % 3) = z % 3 := IntWalk.i64_in _ (by omega)
      by_cases h3 : z % 3 = 0
      · go_wp2_with fail
        refine (largest_k g _ _ _ _ _ _ _ _ (by exact hK.out)).mono ?_
        rintro e wk ⟨rfl, rfl⟩
        go_wp2_with fail
        exact ⟨⟨k + 1, _, _, _, _, _, _, _, rfl, rfl, by omega, Lib.hid (HS.out _ (by omega)).1, hK, hbw⟩, by simp [intOf] <;> omega⟩
      · go_wp2_with fail
        exact ⟨⟨k + 1, _, _, _, _, _, _, first, rfl, rfl, by omega, Lib.hid (HS.out first (by omega)).1, hK, hbw⟩, by simp [intOf] <;> omega⟩
    · go_wp2_with fail
      all_goals (go_ret; exact ⟨rfl, hbw⟩)
end Go.Proofs.Ythjlkiilkiggiaa
