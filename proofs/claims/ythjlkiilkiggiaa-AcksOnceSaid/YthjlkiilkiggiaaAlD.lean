/- The walk of AcksOnce. -/
import Derived.Test.YthjlkiilkiggiaaAlB
import Derived.Test.YthjlkiilkiggiaaArC
namespace Go.Proofs.Ythjlkiilkiggiaa
open Go Go.RowKit Go.Shelf
set_option linter.unusedVariables false
set_option linter.unusedSectionVars false
set_option linter.unusedSimpArgs false

attribute [local irreducible] wpStill
def ORel (w : World) (g r : Nat) (i : Value) (wr : World) : Prop := ∃ (k : Nat) (L : List (Int × Int)) (fl lg wh ct du : Int) (G : Nat → Bool), i = .int .i64 k ∧ k ≤ 150 ∧ Hid (OInv k L fl lg ct G) ∧ Hid (TK wr g L 3 fl lg wh ct du) ∧ Hid (BRow wr r G) ∧ Below w.heap.size w wr
theorem zero_row : Builtin.zeroCells #[.bool false] 60 = Array.replicate 60 (Value.bool false) := by kernel_rfl
theorem BRow.new (w : World) : BRow (w.alloc (.cells (Builtin.zeroCells #[.bool false] 60) 4)) w.heap.size (fun _ => false) :=
  ⟨_, At.new _ _ _, by rw [zero_row]; simp, fun i hi => by rw [zero_row]; simp [hi]⟩

set_option maxRecDepth 100000 in
set_option maxHeartbeats 12000000 in
theorem once_walk (a0 : Option Addr) (len0 cap0 : Nat) (V : Nat → Int × Int × Int × Bool) (w : World) (hV : Steps w a0 len0 V) :
    Calls Try.prog 5 #[.slice a0 len0 cap0] w fun e w' => e = .returned (.bool true) ∧ Below w.heap.size w w' := by
  have hmk : ∀ w : World, (Instr.makeSlice 42 (.int .i64 60) (.int .i64 60)).run Try.prog w = .ok (.slice (some ⟨w.heap.size, 0, none⟩) 60 60) (w.alloc (.cells (Builtin.zeroCells #[.bool false] 60) 4)) := fun _ => by kernel_rfl
  go_enter Try.func5, Try.ntmps5
  go_wp2_with fail
  refine (sane_any _).mono ?_
  rintro e w1 ⟨rfl, hb⟩
  go_wp2_with fail
  refine (new_k 3 _ (by omega) (by omega)).mono ?_
  rintro e w2 ⟨g, rfl, hT, ho, hg⟩
  have hgw : w.heap.size ≤ g := Nat.le_trans hb.size hg
  replace hb := hb.trans (ho.below (by simp) hb.size)
  clear ho hg
  have hgl := hT.lt
  have hR := BRow.new w2
  replace hT := hT.alloc (.cells (Builtin.zeroCells #[.bool false] 60) 4)
  have hb2 := hb.alloc hb.size (.cells (Builtin.zeroCells #[.bool false] 60) 4)
  go_wp2_with fail
  obtain ⟨r, hr⟩ : ∃ r, w2.heap.size = r := ⟨_, rfl⟩
  obtain ⟨w3, hw3⟩ : ∃ w3, w2.alloc (.cells (Builtin.zeroCells #[.bool false] 60) 4) = w3 := ⟨_, rfl⟩
  have hrw : w.heap.size ≤ r := by have := hb.size; omega
  have hrg : r ≠ g := by omega
  rw [hw3] at hT hR hb2 ⊢
  rw [hr] at hR ⊢
  replace hT := Lib.hid hT
  replace hR := Lib.hid hR
  clear hw3 hr hb hgl hmk
  go_loopw [6] (fun i wr => ORel w g r i wr) (fun i _ => 150 - (intOf i).toNat)
  case atStart => exact ⟨0, [], 0, -1, 0, 0, -1, _, rfl, by omega, Lib.hid OInv.start, hT, hR, hb2⟩
  case round =>
    obtain ⟨k, L, fl, lg, wh, ct, du, G, rfl, hk, hI, hK, hG, hbw⟩ := hrel
    clear hb2 hT hR
    by_cases hlt : k < len0 ∧ k < 150
    · obtain ⟨hlt1, hlt2⟩ := hlt
      obtain ⟨bs, off, rfl, hbs, q0, q1, q2, q3, v0, v1, v2⟩ := hV k hlt1
      have hbsw := hbs
      rw [← hbw.cell hbs] at q0 q1 q2 q3
      generalize hVk : V k = Vk at q0 q1 q2 q3 v0 v1 v2
      obtain ⟨K, PN, TM, EL⟩ := Vk
      simp only at q0 q1 q2 q3 v0 v1 v2
      replace v0 := wf_u8 v0
      replace v1 := wf_i64 v1
      clear v2 hVk q2
      have hlt1' : (k : Int) < len0 := by omega
      have hlt2' : (k : Int) < 150 := by omega
      have hbl : bs < wr.heap.size := Nat.lt_of_lt_of_le hbs hbw.size
      have em : K.tmod 8 = K % 8 := Int.tmod_eq_emod_of_nonneg v0.1
      have g0 := hI.out.lg0
      have g1 := hI.out.lg1
      have g2 := hI.out.ct0
      have g3 := hI.out.ct1
      have g4 := hI.out.flo.fl0
      have g5 : fl ≤ 1000 := by rcases hI.out.fll with h | h <;> omega
      go_wp2_with fail
      refine (pk_any PN 60 _ v1.1 v1.2 (by omega)).mono ?_
      rintro e wk ⟨rfl, rfl⟩
      have hp := pkZ_bd PN 60 (by omega)
      obtain ⟨p, hpz⟩ : ∃ p : Nat, pkZ PN 60 = p := ⟨(pkZ PN 60).toNat, by omega⟩
      rw [hpz] at hp ⊢
      obtain ⟨hp0, hp1⟩ := hp
      have hp60 : p < 60 := by omega
      clear hpz q1
      by_cases h6 : K % 8 = 6
      · go_wp2_with fail
        refine (sent_k g _ _ _ _ _ _ _ _ (by exact hK.out)).mono ?_
        rintro e w3 ⟨rfl, hX, ho⟩
        replace hK := Lib.hid hX
        replace hG := Lib.hid (hG.out.keep ho (by simpa using hrg))
        replace hbw := hbw.trans (ho.below (by simpa using hgw) hbw.size)
        clear hX ho q0 q3
        go_wp2_with fail
        exact ⟨⟨k + 1, L, fl, lg, wh, 0, -1, G, rfl, by omega, Lib.hid hI.out.sent, hK, hG, hbw⟩, by simp [intOf] <;> omega⟩
      by_cases h7 : K % 8 = 7
      · obtain ⟨q, hq⟩ : ∃ q : Int, (p : Int) / 4 = q := ⟨_, rfl⟩
        have e4 : ((p : Int)).tdiv 4 = q := by rw [Int.tdiv_eq_ediv_of_nonneg hp0]; exact hq
        have hq0 : 0 ≤ q := by omega
        have hq1 : q ≤ 14 := by omega
        have e5 : IntKind.i64.wrap q = q := IntWalk.i64_in _ (by omega)
        have e6 : IntKind.i64.wrap (q - 1) = q - 1 := IntWalk.i64_in _ (by omega)
        by_cases hqz : q < 1
        · go_wp2_with fail
          refine (forget_neg g (q - 1) _ (by omega)).mono ?_
          rintro e wk ⟨rfl, rfl⟩
          clear q0 q3 e4 e5 e6 hq
          go_wp2_with fail
          exact ⟨⟨k + 1, L, fl, lg, wh, ct, du, G, rfl, by omega, Lib.hid hI.out.same, hK, hG, hbw⟩, by simp [intOf] <;> omega⟩
        · go_wp2_with fail
          refine (forget_k g L 3 fl lg wh ct du (q - 1) _ (by exact hK.out) (by omega) (by omega) g4 (by omega)).mono ?_
          rintro e w3 ⟨rfl, hX, ho⟩
          replace hI := Lib.hid (hI.out.forget (q - 1) (by omega) (by omega))
          replace hK := Lib.hid hX
          replace hG := Lib.hid (hG.out.keep ho (by simpa using hrg))
          replace hbw := hbw.trans (ho.below (by simpa using hgw) hbw.size)
          clear hX ho q0 q3 e4 e5 e6 hq
          go_wp2_with fail
          exact ⟨⟨k + 1, _, _, lg, wh, ct, du, G, rfl, by omega, hI, hK, hG, hbw⟩, by simp [intOf] <;> omega⟩
      · go_wp2_with fail
        refine (ranges_a g L 3 fl lg wh ct du _ (by exact hK.out)).mono ?_
        rintro e w3 ⟨ra, rcap, rfl, hS, hB3⟩
        replace hK := Lib.hid (hK.out.below hB3 hK.out.lt)
        replace hG := Lib.hid (hG.out.below hB3 hG.out.lt)
        rw [← hB3.cell (p := ⟨bs, off + k * 4 + 3, none⟩) hbl] at q3
        replace hbl : bs < w3.heap.size := Nat.lt_of_lt_of_le hbl hB3.size
        replace hbw := hbw.trans (hB3.mono hbw.size)
        clear hB3 q0 em
        go_wp2_with fail
        refine (largest_k g _ _ _ _ _ _ _ _ (by exact hK.out)).mono ?_
        rintro e wk ⟨rfl, rfl⟩
        have cG : w3.cell? ⟨r, p, none⟩ = some (.bool (G p)) := hG.out.cell p hp60
        have len16 : L.length ≤ 16 := hK.out.len
        by_cases hd : (p : Int) < fl ∨ In L p
        · obtain ⟨hd1, hd2⟩ := hI.out.dup p hp60 hd
          by_cases hab : lg < p
          · have h14 : ¬ (14 < (p : Int)) := by have := hd1 hab; omega
            clear hd1
            by_cases hl : L.length = 0
            · have hl' : ¬ ((0 : Int) < L.length) := by omega
              clear hd2 hS
              cases hz : G p with
              | false =>
                rw [hz] at cG
                go_wp2_with fail
                refine (recv_dup g L 3 fl lg wh ct du k p EL _ (by exact hK.out) (by omega) (by omega) (by omega) (by omega) hd).mono ?_
                rintro e w4 ⟨rfl, hX, ho⟩
                have hI2 := Lib.hid hI.out.same
                replace hK := Lib.hid hX
                replace hG := Lib.hid (hG.out.keep ho (by simp))
                replace hbw := hbw.trans (ho.below (by simp) hbw.size)
                clear hX ho q3 cG hI hd hl hl'
                have cG : w4.cell? ⟨r, p, none⟩ = some (.bool false) := by rw [← hz]; exact hG.out.cell p hp60
                have fG := hG.out.free p
                have hK2 := Lib.hid (hK.out.far (p := ⟨r, p, none⟩) (fun h => hrg h.symm) (.bool false))
                have hG2 := Lib.hid ((hG.out.set p hp60 false).same (mark_same G p false hz))
                have hb2 := hbw.setCell (p := ⟨r, p, none⟩) hrw (.bool false)
                clear hK hG hbw hz
                go_wp2_with fail
                exact ⟨⟨k + 1, _, _, _, _, _, _, _, rfl, by omega, hI2, hK2, hG2, hb2⟩, by simp [intOf] <;> omega⟩
              | true =>
                rw [hz] at cG
                go_wp2_with fail
                refine (recv_dup g L 3 fl lg wh ct du k p EL _ (by exact hK.out) (by omega) (by omega) (by omega) (by omega) hd).mono ?_
                rintro e w4 ⟨rfl, hX, ho⟩
                have hI2 := Lib.hid hI.out.same
                replace hK := Lib.hid hX
                replace hG := Lib.hid (hG.out.keep ho (by simp))
                replace hbw := hbw.trans (ho.below (by simp) hbw.size)
                clear hX ho q3 cG hI hd hl hl'
                have cG : w4.cell? ⟨r, p, none⟩ = some (.bool true) := by rw [← hz]; exact hG.out.cell p hp60
                have fG := hG.out.free p
                have hK2 := Lib.hid (hK.out.far (p := ⟨r, p, none⟩) (fun h => hrg h.symm) (.bool true))
                have hG2 := Lib.hid ((hG.out.set p hp60 true).same (mark_same G p true hz))
                have hb2 := hbw.setCell (p := ⟨r, p, none⟩) hrw (.bool true)
                clear hK hG hbw hz
                go_wp2_with fail
                exact ⟨⟨k + 1, _, _, _, _, _, _, _, rfl, by omega, hI2, hK2, hG2, hb2⟩, by simp [intOf] <;> omega⟩
            · have hl1 : 0 < L.length := by omega
              have hl2 : (0 : Int) < L.length := by omega
              obtain ⟨x, hx⟩ : ∃ x, L[0]? = some x := ⟨_, List.getElem?_eq_getElem hl1⟩
              obtain ⟨rr, rfl, hrr, hrl, x0, x1⟩ := hS 0 x hx
              by_cases hxa : x.1 < p
              · skip
                have hz : G p = true := by
                  cases L with
                  | nil => simp at hl1
                  | cons y ys => simp at hx; subst hx; exact hd2 _ _ _ rfl hxa
                rw [hz] at cG
                clear hd2 hS
                go_wp2_with fail
                refine (recv_dup g L 3 fl lg wh ct du k p EL _ (by exact hK.out) (by omega) (by omega) (by omega) (by omega) hd).mono ?_
                rintro e w4 ⟨rfl, hX, ho⟩
                have hI2 := Lib.hid hI.out.same
                replace hK := Lib.hid hX
                replace hG := Lib.hid (hG.out.keep ho (by simp))
                replace hbw := hbw.trans (ho.below (by simp) hbw.size)
                clear hX ho q3 cG hI hd hl hl1 hl2 hx hrr hrl x0 x1 hxa
                have cG : w4.cell? ⟨r, p, none⟩ = some (.bool true) := by rw [← hz]; exact hG.out.cell p hp60
                have fG := hG.out.free p
                have hK2 := Lib.hid (hK.out.far (p := ⟨r, p, none⟩) (fun h => hrg h.symm) (.bool true))
                have hG2 := Lib.hid ((hG.out.set p hp60 true).same (mark_same G p true hz))
                have hb2 := hbw.setCell (p := ⟨r, p, none⟩) hrw (.bool true)
                clear hK hG hbw hz
                go_wp2_with fail
                exact ⟨⟨k + 1, _, _, _, _, _, _, _, rfl, by omega, hI2, hK2, hG2, hb2⟩, by simp [intOf] <;> omega⟩
              · skip
                clear hd2 hS
                cases hz : G p with
                | false =>
                  rw [hz] at cG
                  go_wp2_with fail
                  refine (recv_dup g L 3 fl lg wh ct du k p EL _ (by exact hK.out) (by omega) (by omega) (by omega) (by omega) hd).mono ?_
                  rintro e w4 ⟨rfl, hX, ho⟩
                  have hI2 := Lib.hid hI.out.same
                  replace hK := Lib.hid hX
                  replace hG := Lib.hid (hG.out.keep ho (by simp))
                  replace hbw := hbw.trans (ho.below (by simp) hbw.size)
                  clear hX ho q3 cG hI hd hl hl1 hl2 hx hrr hrl x0 x1 hxa
                  have cG : w4.cell? ⟨r, p, none⟩ = some (.bool false) := by rw [← hz]; exact hG.out.cell p hp60
                  have fG := hG.out.free p
                  have hK2 := Lib.hid (hK.out.far (p := ⟨r, p, none⟩) (fun h => hrg h.symm) (.bool false))
                  have hG2 := Lib.hid ((hG.out.set p hp60 false).same (mark_same G p false hz))
                  have hb2 := hbw.setCell (p := ⟨r, p, none⟩) hrw (.bool false)
                  clear hK hG hbw hz
                  go_wp2_with fail
                  exact ⟨⟨k + 1, _, _, _, _, _, _, _, rfl, by omega, hI2, hK2, hG2, hb2⟩, by simp [intOf] <;> omega⟩
                | true =>
                  rw [hz] at cG
                  go_wp2_with fail
                  refine (recv_dup g L 3 fl lg wh ct du k p EL _ (by exact hK.out) (by omega) (by omega) (by omega) (by omega) hd).mono ?_
                  rintro e w4 ⟨rfl, hX, ho⟩
                  have hI2 := Lib.hid hI.out.same
                  replace hK := Lib.hid hX
                  replace hG := Lib.hid (hG.out.keep ho (by simp))
                  replace hbw := hbw.trans (ho.below (by simp) hbw.size)
                  clear hX ho q3 cG hI hd hl hl1 hl2 hx hrr hrl x0 x1 hxa
                  have cG : w4.cell? ⟨r, p, none⟩ = some (.bool true) := by rw [← hz]; exact hG.out.cell p hp60
                  have fG := hG.out.free p
                  have hK2 := Lib.hid (hK.out.far (p := ⟨r, p, none⟩) (fun h => hrg h.symm) (.bool true))
                  have hG2 := Lib.hid ((hG.out.set p hp60 true).same (mark_same G p true hz))
                  have hb2 := hbw.setCell (p := ⟨r, p, none⟩) hrw (.bool true)
                  clear hK hG hbw hz
                  go_wp2_with fail
                  exact ⟨⟨k + 1, _, _, _, _, _, _, _, rfl, by omega, hI2, hK2, hG2, hb2⟩, by simp [intOf] <;> omega⟩
          · clear hd1
            by_cases hl : L.length = 0
            · have hl' : ¬ ((0 : Int) < L.length) := by omega
              clear hd2 hS
              cases hz : G p with
              | false =>
                rw [hz] at cG
                go_wp2_with fail
                refine (recv_dup g L 3 fl lg wh ct du k p EL _ (by exact hK.out) (by omega) (by omega) (by omega) (by omega) hd).mono ?_
                rintro e w4 ⟨rfl, hX, ho⟩
                have hI2 := Lib.hid hI.out.same
                replace hK := Lib.hid hX
                replace hG := Lib.hid (hG.out.keep ho (by simp))
                replace hbw := hbw.trans (ho.below (by simp) hbw.size)
                clear hX ho q3 cG hI hd hl hl'
                have cG : w4.cell? ⟨r, p, none⟩ = some (.bool false) := by rw [← hz]; exact hG.out.cell p hp60
                have fG := hG.out.free p
                have hK2 := Lib.hid (hK.out.far (p := ⟨r, p, none⟩) (fun h => hrg h.symm) (.bool false))
                have hG2 := Lib.hid ((hG.out.set p hp60 false).same (mark_same G p false hz))
                have hb2 := hbw.setCell (p := ⟨r, p, none⟩) hrw (.bool false)
                clear hK hG hbw hz
                go_wp2_with fail
                exact ⟨⟨k + 1, _, _, _, _, _, _, _, rfl, by omega, hI2, hK2, hG2, hb2⟩, by simp [intOf] <;> omega⟩
              | true =>
                rw [hz] at cG
                go_wp2_with fail
                refine (recv_dup g L 3 fl lg wh ct du k p EL _ (by exact hK.out) (by omega) (by omega) (by omega) (by omega) hd).mono ?_
                rintro e w4 ⟨rfl, hX, ho⟩
                have hI2 := Lib.hid hI.out.same
                replace hK := Lib.hid hX
                replace hG := Lib.hid (hG.out.keep ho (by simp))
                replace hbw := hbw.trans (ho.below (by simp) hbw.size)
                clear hX ho q3 cG hI hd hl hl'
                have cG : w4.cell? ⟨r, p, none⟩ = some (.bool true) := by rw [← hz]; exact hG.out.cell p hp60
                have fG := hG.out.free p
                have hK2 := Lib.hid (hK.out.far (p := ⟨r, p, none⟩) (fun h => hrg h.symm) (.bool true))
                have hG2 := Lib.hid ((hG.out.set p hp60 true).same (mark_same G p true hz))
                have hb2 := hbw.setCell (p := ⟨r, p, none⟩) hrw (.bool true)
                clear hK hG hbw hz
                go_wp2_with fail
                exact ⟨⟨k + 1, _, _, _, _, _, _, _, rfl, by omega, hI2, hK2, hG2, hb2⟩, by simp [intOf] <;> omega⟩
            · have hl1 : 0 < L.length := by omega
              have hl2 : (0 : Int) < L.length := by omega
              obtain ⟨x, hx⟩ : ∃ x, L[0]? = some x := ⟨_, List.getElem?_eq_getElem hl1⟩
              obtain ⟨rr, rfl, hrr, hrl, x0, x1⟩ := hS 0 x hx
              by_cases hxa : x.1 < p
              · skip
                have hz : G p = true := by
                  cases L with
                  | nil => simp at hl1
                  | cons y ys => simp at hx; subst hx; exact hd2 _ _ _ rfl hxa
                rw [hz] at cG
                clear hd2 hS
                go_wp2_with fail
                refine (recv_dup g L 3 fl lg wh ct du k p EL _ (by exact hK.out) (by omega) (by omega) (by omega) (by omega) hd).mono ?_
                rintro e w4 ⟨rfl, hX, ho⟩
                have hI2 := Lib.hid hI.out.same
                replace hK := Lib.hid hX
                replace hG := Lib.hid (hG.out.keep ho (by simp))
                replace hbw := hbw.trans (ho.below (by simp) hbw.size)
                clear hX ho q3 cG hI hd hl hl1 hl2 hx hrr hrl x0 x1 hxa
                have cG : w4.cell? ⟨r, p, none⟩ = some (.bool true) := by rw [← hz]; exact hG.out.cell p hp60
                have fG := hG.out.free p
                have hK2 := Lib.hid (hK.out.far (p := ⟨r, p, none⟩) (fun h => hrg h.symm) (.bool true))
                have hG2 := Lib.hid ((hG.out.set p hp60 true).same (mark_same G p true hz))
                have hb2 := hbw.setCell (p := ⟨r, p, none⟩) hrw (.bool true)
                clear hK hG hbw hz
                go_wp2_with fail
                exact ⟨⟨k + 1, _, _, _, _, _, _, _, rfl, by omega, hI2, hK2, hG2, hb2⟩, by simp [intOf] <;> omega⟩
              · skip
                clear hd2 hS
                cases hz : G p with
                | false =>
                  rw [hz] at cG
                  go_wp2_with fail
                  refine (recv_dup g L 3 fl lg wh ct du k p EL _ (by exact hK.out) (by omega) (by omega) (by omega) (by omega) hd).mono ?_
                  rintro e w4 ⟨rfl, hX, ho⟩
                  have hI2 := Lib.hid hI.out.same
                  replace hK := Lib.hid hX
                  replace hG := Lib.hid (hG.out.keep ho (by simp))
                  replace hbw := hbw.trans (ho.below (by simp) hbw.size)
                  clear hX ho q3 cG hI hd hl hl1 hl2 hx hrr hrl x0 x1 hxa
                  have cG : w4.cell? ⟨r, p, none⟩ = some (.bool false) := by rw [← hz]; exact hG.out.cell p hp60
                  have fG := hG.out.free p
                  have hK2 := Lib.hid (hK.out.far (p := ⟨r, p, none⟩) (fun h => hrg h.symm) (.bool false))
                  have hG2 := Lib.hid ((hG.out.set p hp60 false).same (mark_same G p false hz))
                  have hb2 := hbw.setCell (p := ⟨r, p, none⟩) hrw (.bool false)
                  clear hK hG hbw hz
                  go_wp2_with fail
                  exact ⟨⟨k + 1, _, _, _, _, _, _, _, rfl, by omega, hI2, hK2, hG2, hb2⟩, by simp [intOf] <;> omega⟩
                | true =>
                  rw [hz] at cG
                  go_wp2_with fail
                  refine (recv_dup g L 3 fl lg wh ct du k p EL _ (by exact hK.out) (by omega) (by omega) (by omega) (by omega) hd).mono ?_
                  rintro e w4 ⟨rfl, hX, ho⟩
                  have hI2 := Lib.hid hI.out.same
                  replace hK := Lib.hid hX
                  replace hG := Lib.hid (hG.out.keep ho (by simp))
                  replace hbw := hbw.trans (ho.below (by simp) hbw.size)
                  clear hX ho q3 cG hI hd hl hl1 hl2 hx hrr hrl x0 x1 hxa
                  have cG : w4.cell? ⟨r, p, none⟩ = some (.bool true) := by rw [← hz]; exact hG.out.cell p hp60
                  have fG := hG.out.free p
                  have hK2 := Lib.hid (hK.out.far (p := ⟨r, p, none⟩) (fun h => hrg h.symm) (.bool true))
                  have hG2 := Lib.hid ((hG.out.set p hp60 true).same (mark_same G p true hz))
                  have hb2 := hbw.setCell (p := ⟨r, p, none⟩) hrw (.bool true)
                  clear hK hG hbw hz
                  go_wp2_with fail
                  exact ⟨⟨k + 1, _, _, _, _, _, _, _, rfl, by omega, hI2, hK2, hG2, hb2⟩, by simp [intOf] <;> omega⟩
        · have hz := hI.out.new p hp60 hd
          have hf : fl ≤ p := by have : ¬ (p : Int) < fl := fun h => hd (.inl h); omega
          have hn : ¬ In L p := fun h => hd (.inr h)
          rw [hz] at cG
          by_cases hab : lg < p
          · skip
            by_cases hl : L.length = 0
            · have hl' : ¬ ((0 : Int) < L.length) := by omega
              clear hS
              go_wp2_with fail
              refine (recv_ok g L 3 fl lg wh ct du k p EL _ (by exact hK.out) (by omega) (by omega) (by omega) (by omega) hf hn (by omega) (by omega) (by omega) (by omega) (by omega) (by omega)).mono ?_
              rintro e w4 ⟨rfl, hX, ho⟩
              have hI2 := Lib.hid (hI.out.add p hp60 hf hn EL)
              replace hK := Lib.hid hX
              replace hG := Lib.hid (hG.out.keep ho (by simpa using hrg))
              replace hbw := hbw.trans (ho.below (by simpa using hgw) hbw.size)
              clear hX ho q3 cG hI hn hf hd hl hl'
              have cG : w4.cell? ⟨r, p, none⟩ = some (.bool false) := by rw [← hz]; exact hG.out.cell p hp60
              have fG := hG.out.free p
              have hK2 := Lib.hid (hK.out.far (p := ⟨r, p, none⟩) (fun h => hrg h.symm) (.bool true))
              have hG2 := Lib.hid (hG.out.set p hp60 true)
              have hb2 := hbw.setCell (p := ⟨r, p, none⟩) hrw (.bool true)
              clear hK hG hbw hz
              go_wp2_with fail
              exact ⟨⟨k + 1, _, _, _, _, _, _, _, rfl, by omega, hI2, hK2, hG2, hb2⟩, by simp [intOf] <;> omega⟩
            · have hl1 : 0 < L.length := by omega
              have hl2 : (0 : Int) < L.length := by omega
              obtain ⟨x, hx⟩ : ∃ x, L[0]? = some x := ⟨_, List.getElem?_eq_getElem hl1⟩
              obtain ⟨rr, rfl, hrr, hrl, x0, x1⟩ := hS 0 x hx
              by_cases hxa : x.1 < p
              · skip
                clear hS
                go_wp2_with fail
                refine (recv_ok g L 3 fl lg wh ct du k p EL _ (by exact hK.out) (by omega) (by omega) (by omega) (by omega) hf hn (by omega) (by omega) (by omega) (by omega) (by omega) (by omega)).mono ?_
                rintro e w4 ⟨rfl, hX, ho⟩
                have hI2 := Lib.hid (hI.out.add p hp60 hf hn EL)
                replace hK := Lib.hid hX
                replace hG := Lib.hid (hG.out.keep ho (by simpa using hrg))
                replace hbw := hbw.trans (ho.below (by simpa using hgw) hbw.size)
                clear hX ho q3 cG hI hn hf hd hl hl1 hl2 hx hrr hrl x0 x1 hxa
                have cG : w4.cell? ⟨r, p, none⟩ = some (.bool false) := by rw [← hz]; exact hG.out.cell p hp60
                have fG := hG.out.free p
                have hK2 := Lib.hid (hK.out.far (p := ⟨r, p, none⟩) (fun h => hrg h.symm) (.bool true))
                have hG2 := Lib.hid (hG.out.set p hp60 true)
                have hb2 := hbw.setCell (p := ⟨r, p, none⟩) hrw (.bool true)
                clear hK hG hbw hz
                go_wp2_with fail
                exact ⟨⟨k + 1, _, _, _, _, _, _, _, rfl, by omega, hI2, hK2, hG2, hb2⟩, by simp [intOf] <;> omega⟩
              · skip
                clear hS
                go_wp2_with fail
                refine (recv_ok g L 3 fl lg wh ct du k p EL _ (by exact hK.out) (by omega) (by omega) (by omega) (by omega) hf hn (by omega) (by omega) (by omega) (by omega) (by omega) (by omega)).mono ?_
                rintro e w4 ⟨rfl, hX, ho⟩
                have hI2 := Lib.hid (hI.out.add p hp60 hf hn EL)
                replace hK := Lib.hid hX
                replace hG := Lib.hid (hG.out.keep ho (by simpa using hrg))
                replace hbw := hbw.trans (ho.below (by simpa using hgw) hbw.size)
                clear hX ho q3 cG hI hn hf hd hl hl1 hl2 hx hrr hrl x0 x1 hxa
                have cG : w4.cell? ⟨r, p, none⟩ = some (.bool false) := by rw [← hz]; exact hG.out.cell p hp60
                have fG := hG.out.free p
                have hK2 := Lib.hid (hK.out.far (p := ⟨r, p, none⟩) (fun h => hrg h.symm) (.bool true))
                have hG2 := Lib.hid (hG.out.set p hp60 true)
                have hb2 := hbw.setCell (p := ⟨r, p, none⟩) hrw (.bool true)
                clear hK hG hbw hz
                go_wp2_with fail
                exact ⟨⟨k + 1, _, _, _, _, _, _, _, rfl, by omega, hI2, hK2, hG2, hb2⟩, by simp [intOf] <;> omega⟩
          · skip
            by_cases hl : L.length = 0
            · have hl' : ¬ ((0 : Int) < L.length) := by omega
              clear hS
              go_wp2_with fail
              refine (recv_ok g L 3 fl lg wh ct du k p EL _ (by exact hK.out) (by omega) (by omega) (by omega) (by omega) hf hn (by omega) (by omega) (by omega) (by omega) (by omega) (by omega)).mono ?_
              rintro e w4 ⟨rfl, hX, ho⟩
              have hI2 := Lib.hid (hI.out.add p hp60 hf hn EL)
              replace hK := Lib.hid hX
              replace hG := Lib.hid (hG.out.keep ho (by simpa using hrg))
              replace hbw := hbw.trans (ho.below (by simpa using hgw) hbw.size)
              clear hX ho q3 cG hI hn hf hd hl hl'
              have cG : w4.cell? ⟨r, p, none⟩ = some (.bool false) := by rw [← hz]; exact hG.out.cell p hp60
              have fG := hG.out.free p
              have hK2 := Lib.hid (hK.out.far (p := ⟨r, p, none⟩) (fun h => hrg h.symm) (.bool true))
              have hG2 := Lib.hid (hG.out.set p hp60 true)
              have hb2 := hbw.setCell (p := ⟨r, p, none⟩) hrw (.bool true)
              clear hK hG hbw hz
              go_wp2_with fail
              exact ⟨⟨k + 1, _, _, _, _, _, _, _, rfl, by omega, hI2, hK2, hG2, hb2⟩, by simp [intOf] <;> omega⟩
            · have hl1 : 0 < L.length := by omega
              have hl2 : (0 : Int) < L.length := by omega
              obtain ⟨x, hx⟩ : ∃ x, L[0]? = some x := ⟨_, List.getElem?_eq_getElem hl1⟩
              obtain ⟨rr, rfl, hrr, hrl, x0, x1⟩ := hS 0 x hx
              by_cases hxa : x.1 < p
              · skip
                clear hS
                go_wp2_with fail
                refine (recv_ok g L 3 fl lg wh ct du k p EL _ (by exact hK.out) (by omega) (by omega) (by omega) (by omega) hf hn (by omega) (by omega) (by omega) (by omega) (by omega) (by omega)).mono ?_
                rintro e w4 ⟨rfl, hX, ho⟩
                have hI2 := Lib.hid (hI.out.add p hp60 hf hn EL)
                replace hK := Lib.hid hX
                replace hG := Lib.hid (hG.out.keep ho (by simpa using hrg))
                replace hbw := hbw.trans (ho.below (by simpa using hgw) hbw.size)
                clear hX ho q3 cG hI hn hf hd hl hl1 hl2 hx hrr hrl x0 x1 hxa
                have cG : w4.cell? ⟨r, p, none⟩ = some (.bool false) := by rw [← hz]; exact hG.out.cell p hp60
                have fG := hG.out.free p
                have hK2 := Lib.hid (hK.out.far (p := ⟨r, p, none⟩) (fun h => hrg h.symm) (.bool true))
                have hG2 := Lib.hid (hG.out.set p hp60 true)
                have hb2 := hbw.setCell (p := ⟨r, p, none⟩) hrw (.bool true)
                clear hK hG hbw hz
                go_wp2_with fail
                exact ⟨⟨k + 1, _, _, _, _, _, _, _, rfl, by omega, hI2, hK2, hG2, hb2⟩, by simp [intOf] <;> omega⟩
              · skip
                clear hS
                go_wp2_with fail
                refine (recv_ok g L 3 fl lg wh ct du k p EL _ (by exact hK.out) (by omega) (by omega) (by omega) (by omega) hf hn (by omega) (by omega) (by omega) (by omega) (by omega) (by omega)).mono ?_
                rintro e w4 ⟨rfl, hX, ho⟩
                have hI2 := Lib.hid (hI.out.add p hp60 hf hn EL)
                replace hK := Lib.hid hX
                replace hG := Lib.hid (hG.out.keep ho (by simpa using hrg))
                replace hbw := hbw.trans (ho.below (by simpa using hgw) hbw.size)
                clear hX ho q3 cG hI hn hf hd hl hl1 hl2 hx hrr hrl x0 x1 hxa
                have cG : w4.cell? ⟨r, p, none⟩ = some (.bool false) := by rw [← hz]; exact hG.out.cell p hp60
                have fG := hG.out.free p
                have hK2 := Lib.hid (hK.out.far (p := ⟨r, p, none⟩) (fun h => hrg h.symm) (.bool true))
                have hG2 := Lib.hid (hG.out.set p hp60 true)
                have hb2 := hbw.setCell (p := ⟨r, p, none⟩) hrw (.bool true)
                clear hK hG hbw hz
                go_wp2_with fail
                exact ⟨⟨k + 1, _, _, _, _, _, _, _, rfl, by omega, hI2, hK2, hG2, hb2⟩, by simp [intOf] <;> omega⟩
    · go_wp2_with fail
      all_goals (go_ret; exact ⟨rfl, hbw⟩)
end Go.Proofs.Ythjlkiilkiggiaa
