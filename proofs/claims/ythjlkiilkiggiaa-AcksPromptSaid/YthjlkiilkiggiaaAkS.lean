/- The walk of AcksPrompt. -/
import Derived.Test.YthjlkiilkiggiaaAkR
import Derived.Test.YthjlkiilkiggiaaArC
namespace Go.Proofs.Ythjlkiilkiggiaa
open Go Go.RowKit Go.Shelf
set_option linter.unusedVariables false
set_option linter.unusedSectionVars false
set_option linter.unusedSimpArgs false

/-- What 'pick' answers. -/
def pickZ (c n : Int) : Int := (if c < 0 then -(c + 1) else c) % n
theorem pickZ_bd (c n : Int) (hn : 0 < n) : 0 ≤ pickZ c n ∧ pickZ c n < n := by
  unfold pickZ
  exact ⟨Int.emod_nonneg _ (by omega), Int.emod_lt_of_pos _ hn⟩
theorem pick_any (c n : Int) (w : World) (h1 : -9223372036854775808 ≤ c) (h2 : c ≤ 9223372036854775807) (hn : 0 < n) :
    Calls Try.prog 10 #[.int .i64 c, .int .i64 n] w fun e w' => e = .returned (.int .i64 (pickZ c n)) ∧ w = w' := by
  have e1 : c < 0 → -((c + 1).tmod n) = pickZ c n := by
    intro h; unfold pickZ; rw [if_pos h]; rw [← Int.neg_tmod]; exact Int.tmod_eq_emod_of_nonneg (by omega)
  have e2 : 0 ≤ c → c % n = pickZ c n := by
    intro h; unfold pickZ; rw [if_neg (by omega)]
  have E1 := Lib.hid e1
  have E2 := Lib.hid e2
  clear e1 e2
  by_cases hc : c < 0
  · go_enter Try.func10, Try.ntmps10
    go_wp2
    go_ret
    exact ⟨ret_int (E1.out hc), rfl⟩
  · go_enter Try.func10, Try.ntmps10
    go_wp2
    go_ret
    exact ⟨ret_int (E2.out (by omega)), rfl⟩

def PRel (w : World) (g : Nat) (d : Int) (f m i : Value) (wr : World) : Prop := ∃ (k : Nat) (L : List (Int × Int)) (fl lg wh ct du first many : Int), f = .int .i64 first ∧ m = .int .i64 many ∧ i = .int .i64 k ∧ k ≤ 100 ∧ Hid (PInv d k L fl lg ct du first many) ∧ Hid (TK wr g L d fl lg wh ct du) ∧ Below w.heap.size w wr

set_option maxRecDepth 100000 in
set_option maxHeartbeats 6000000 in
theorem prompt_walk (a0 : Int) (a1 : Option Addr) (len1 cap1 : Nat) (V : Nat → Int × Int × Int × Bool) (w : World) (w0 : (Lit.int .i64 a0).wf = true) (hV : Steps w a1 len1 V) :
    Calls Try.prog 3 #[.int .i64 a0, .slice a1 len1 cap1] w fun e w' => e = .returned (.bool true) ∧ Below w.heap.size w w' := by
  have ha := wf_i64 w0
  go_enter Try.func3, Try.ntmps3
  go_wp2_with fail
  refine (sane_any _).mono ?_
  rintro e w1 ⟨rfl, hb⟩
  go_wp2_with fail
  refine (pick_any a0 21 _ ha.1 ha.2 (by omega)).mono ?_
  rintro e wk ⟨rfl, rfl⟩
  have hd := pickZ_bd a0 21 (by omega)
  generalize pickZ a0 21 = d at hd
  go_wp2_with fail
  refine (new_k d _ (by omega) (by omega)).mono ?_
  rintro e w2 ⟨g, rfl, hT, ho, hg⟩
  have hgw : w.heap.size ≤ g := Nat.le_trans hb.size hg
  replace hb := hb.trans (ho.below (by simp) hb.size)
  clear ho
  replace hT := Lib.hid hT
  obtain ⟨d0, d1⟩ := hd
  have d1' : d ≤ 20 := by omega
  clear hg d1
  go_wp2_with fail
  go_loopw [8, 9, 10] (fun f m i wr => PRel w g d f m i wr) (fun _ _ i _ => 100 - (intOf i).toNat)
  case atStart => exact ⟨0, [], 0, -1, 0, 0, -1, -1, 0, rfl, rfl, rfl, by omega, Lib.hid (PInv.start d), hT, hb⟩
  case round =>
    obtain ⟨k, L, fl, lg, wh, ct, du, first, many, rfl, rfl, rfl, hk, hI, hK, hbw⟩ := hrel
    clear hb hT
    by_cases hlt : k < len1 ∧ k < 100
    · obtain ⟨hlt1, hlt2⟩ := hlt
      obtain ⟨bs, off, rfl, hbs, q0, q1, q2, q3, v0, v1, v2⟩ := hV k hlt1
      rw [← hbw.cell hbs] at q0 q1 q2 q3
      generalize hVk : V k = Vk at q0 q1 q2 q3 v0 v1 v2
      obtain ⟨K, PN, TM, EL⟩ := Vk
      simp only at q0 q1 q2 q3 v0 v1 v2
      replace v0 := wf_u8 v0
      replace v1 := wf_i64 v1
      clear v2 hVk q2
      have hlt1' : (k : Int) < len1 := by omega
      have hlt2' : (k : Int) < 100 := by omega
      have em : K.tmod 4 = K % 4 := Int.tmod_eq_emod_of_nonneg v0.1
      have e3 : IntKind.i64.wrap (3 * (k : Int)) = 3 * k := IntWalk.i64_in _ (by omega)
      have hbl : bs < wr.heap.size := Nat.lt_of_lt_of_le hbs hbw.size
      have e1000 : IntKind.i64.wrap (3 * (k : Int) + 1000) = 3 * k + 1000 := IntWalk.i64_in _ (by omega)
      by_cases h4 : K % 4 = 0
      · go_wp2_with fail
        refine (sent_k g _ _ _ _ _ _ _ _ (by exact hK.out)).mono ?_
        rintro e w3 ⟨rfl, hX, ho⟩
        replace hK := Lib.hid hX
        replace hbw := hbw.trans (ho.below (by simpa using hgw) hbw.size)
        clear hX ho q0 q1 q3
        go_wp2_with fail
        refine (deadline_k g _ _ _ _ _ _ _ _ (by exact hK.out)).mono ?_
        rintro e wk ⟨rfl, rfl⟩
        go_wp2_with fail
        refine (pending_k g _ _ _ _ _ _ _ _ (by exact hK.out) _ false (by simp)).mono ?_
        rintro e w4 ⟨rfl, hX, ho⟩
        replace hK := Lib.hid hX
        replace hbw := hbw.trans (ho.below (by simp) hbw.size)
        clear hX ho
        go_wp2_with fail
        exact ⟨⟨k + 1, L, fl, lg, wh, 0, -1, -1, 0, rfl, rfl, rfl, by omega, Lib.hid (hI.out.sent d0 d1'), hK, hbw⟩, by simp [intOf]; omega⟩
      · go_wp2_with fail
        refine (largest_k g _ _ _ _ _ _ _ _ (by exact hK.out)).mono ?_
        rintro e wk ⟨rfl, rfl⟩
        have g0 := hI.out.lg0
        have g1 := hI.out.lg1
        have g2 := hI.out.ct0
        have g3 := hI.out.ct1
        have g4 := hI.out.cnt
        have elg : IntKind.i64.wrap (lg + 1) = lg + 1 := IntWalk.i64_in _ (by omega)
        go_wp2_with fail
        refine (pick_any PN 4 _ v1.1 v1.2 (by omega)).mono ?_
        rintro e wk ⟨rfl, rfl⟩
        have hp := pickZ_bd PN 4 (by omega)
        generalize pickZ PN 4 = pz at hp
        obtain ⟨p, hpz, p0, p1⟩ : ∃ p, pz / 3 = p ∧ 0 ≤ p ∧ p ≤ 1 := ⟨_, rfl, by omega, by omega⟩
        have et : pz.tdiv 3 = p := by rw [Int.tdiv_eq_ediv_of_nonneg hp.1]; exact hpz
        have et2 : IntKind.i64.wrap p = p := IntWalk.i64_in _ (by omega)
        have et3 : IntKind.i64.wrap (lg + 1 + p) = lg + 1 + p := IntWalk.i64_in _ (by omega)
        subst g4
        go_wp2_with fail
        have hfr := hI.out.fresh d0 d1' (lg + 1 + p) (by omega)
        refine (recv_ok g L d fl lg wh many du (3 * k) (lg + 1 + p) EL _ (by exact hK.out) (by omega) (by omega) (by omega) (by omega) hfr.1 hfr.2 d0 d1' (by omega) (by omega) (by omega) (by omega)).mono ?_
        rintro e w3 ⟨rfl, hX, ho⟩
        rw [if_pos (show lg < lg + 1 + p by omega), if_pos (show lg < lg + 1 + p by omega)] at hX
        replace hbw := hbw.trans (ho.below (by simpa using hgw) hbw.size)
        have qq : w3.cell? ⟨bs, off + k * 4 + 3, none⟩ = some (.bool EL) := by rw [ho.cell (p := ⟨bs, off + k * 4 + 3, none⟩) hbl (by simp; omega)]; exact q3
        clear ho q0 q1 q3 hfr hpz et et2 et3 hp hK
        have eF : IntKind.i64.wrap (3 * (k : Int) + d) = 3 * k + d := IntWalk.i64_in _ (by omega)
        cases EL with
        | false =>
          have hI2 := Lib.hid (hI.out.calm d0 d1' (lg + 1 + p) (by omega) (by omega))
          have hK := Lib.hid hX
          simp only [Bool.false_eq_true, if_false] at hK
          have hdue := hI.out.due
          clear hI hX
          rcases hdue with ⟨rfl, rfl, rfl⟩ | ⟨m0, f0, f1, u0, u1⟩
          · clear eF
            have eF : IntKind.i64.wrap (3 * (k : Int) + d) = 3 * k + d := IntWalk.i64_in _ (by omega)
            go_wp2_with fail
            refine (pending_k g _ _ _ _ _ _ _ _ (by exact hK.out) _ false (by simp <;> omega)).mono ?_
            rintro e w5 ⟨rfl, hX, ho⟩
            replace hK := Lib.hid hX
            replace hbw := hbw.trans (ho.below (by simp) hbw.size)
            clear hX ho
            go_wp2_with fail
            exact ⟨⟨k + 1, _, _, _, _, _, _, -1, 0, rfl, rfl, rfl, by omega, hI2, hK, hbw⟩, by simp [intOf] <;> omega⟩
          · have eG : IntKind.i64.wrap (first + d) = first + d := IntWalk.i64_in _ (by omega)
            go_wp2_with fail
            refine (pending_k g _ _ _ _ _ _ _ _ (by exact hK.out) _ true (by simp <;> omega)).mono ?_
            rintro e w5 ⟨rfl, hX, ho⟩
            replace hK := Lib.hid hX
            replace hbw := hbw.trans (ho.below (by simp) hbw.size)
            clear hX ho
            go_wp2_with fail
            refine (deadline_k g _ _ _ _ _ _ _ _ (by exact hK.out)).mono ?_
            rintro e wk ⟨rfl, rfl⟩
            go_wp2_with fail
            exact ⟨⟨k + 1, _, _, _, _, _, _, first, many, rfl, rfl, rfl, by omega, hI2, hK, hbw⟩, by simp [intOf] <;> omega⟩
        | true =>
          have hE := hI.out.elic d0 d1' (lg + 1 + p) (by omega) (by omega) _ rfl
          simp only [if_true] at hX
          generalize duZ many d du (3 * (k : Int)) (decide (lg = -1 ∨ lg + 1 + p = lg + 1)) = D at hE hX
          obtain ⟨hI2, hD⟩ := hE
          have hK := Lib.hid hX
          have hdue := hI.out.due
          have hdue2 := hI2.due
          clear hI hX
          have eM : IntKind.i64.wrap (many + 1) = many + 1 := IntWalk.i64_in _ (by omega)
          rcases hdue with ⟨rfl, rfl, rfl⟩ | ⟨m0, f0, f1, u0, u1⟩
          · rw [if_pos (by omega)] at hI2 hdue2
            replace hI2 := Lib.hid hI2
            have hD0 : 0 ≤ D ∧ D ≤ 3 * k + d := by omega
            have eG : IntKind.i64.wrap (3 * (k : Int) + d) = 3 * k + d := IntWalk.i64_in _ (by omega)
            obtain ⟨hD0, hD1⟩ := hD0
            clear hdue2
            by_cases hc : 0 ≤ lg ∧ lg + 1 + p ≠ lg + 1
            · have hD2 := hD (.inr hc)
              obtain ⟨hc1, hc2⟩ := hc
              have hc2' : ¬ (lg + 1 + p = lg + 1) := hc2
              clear hD hc2
              go_wp2_with fail
              refine (pending_k g _ _ _ _ _ _ _ _ (by exact hK.out) _ true (by simp <;> omega)).mono ?_
              rintro e w4 ⟨rfl, hX, ho⟩
              replace hK := Lib.hid hX
              replace hbw := hbw.trans (ho.below (by simp) hbw.size)
              clear hX ho
              go_wp2_with fail
              refine (pending_k g _ _ _ _ _ _ _ _ (by exact hK.out) _ true (by simp <;> omega)).mono ?_
              rintro e w5 ⟨rfl, hX, ho⟩
              replace hK := Lib.hid hX
              replace hbw := hbw.trans (ho.below (by simp) hbw.size)
              clear hX ho
              go_wp2_with fail
              refine (deadline_k g _ _ _ _ _ _ _ _ (by exact hK.out)).mono ?_
              rintro e wk ⟨rfl, rfl⟩
              go_wp2_with fail
              exact ⟨⟨k + 1, _, _, _, _, _, _, 3 * (k : Int), 1, rfl, rfl, rfl, by omega, hI2, hK, hbw⟩, by simp [intOf] <;> omega⟩
            · clear hD
              rcases (by omega : lg < 0 ∨ (0 ≤ lg ∧ p = 0)) with hc1 | ⟨hc1, rfl⟩
              · clear hc
                go_wp2_with fail
                refine (pending_k g _ _ _ _ _ _ _ _ (by exact hK.out) _ true (by simp <;> omega)).mono ?_
                rintro e w5 ⟨rfl, hX, ho⟩
                replace hK := Lib.hid hX
                replace hbw := hbw.trans (ho.below (by simp) hbw.size)
                clear hX ho
                go_wp2_with fail
                refine (deadline_k g _ _ _ _ _ _ _ _ (by exact hK.out)).mono ?_
                rintro e wk ⟨rfl, rfl⟩
                go_wp2_with fail
                exact ⟨⟨k + 1, _, _, _, _, _, _, 3 * (k : Int), 1, rfl, rfl, rfl, by omega, hI2, hK, hbw⟩, by simp [intOf] <;> omega⟩
              · clear hc
                go_wp2_with fail
                refine (pending_k g _ _ _ _ _ _ _ _ (by exact hK.out) _ true (by simp <;> omega)).mono ?_
                rintro e w5 ⟨rfl, hX, ho⟩
                replace hK := Lib.hid hX
                replace hbw := hbw.trans (ho.below (by simp) hbw.size)
                clear hX ho
                go_wp2_with fail
                refine (deadline_k g _ _ _ _ _ _ _ _ (by exact hK.out)).mono ?_
                rintro e wk ⟨rfl, rfl⟩
                go_wp2_with fail
                exact ⟨⟨k + 1, _, _, _, _, _, _, 3 * (k : Int), 1, rfl, rfl, rfl, by omega, hI2, hK, hbw⟩, by simp [intOf] <;> omega⟩
          · have hD2 := hD (.inl (by omega))
            rw [if_neg (by omega)] at hI2 hdue2
            replace hI2 := Lib.hid hI2
            have hD0 : 0 ≤ D ∧ D ≤ first + d := by omega
            have eG : IntKind.i64.wrap (first + d) = first + d := IntWalk.i64_in _ (by omega)
            obtain ⟨hD0, hD1⟩ := hD0
            have m2 : 2 ≤ many + 1 := by omega
            clear hdue2 hD
            go_wp2_with fail
            refine (pending_k g _ _ _ _ _ _ _ _ (by exact hK.out) _ true (by simp <;> omega)).mono ?_
            rintro e w4 ⟨rfl, hX, ho⟩
            replace hK := Lib.hid hX
            replace hbw := hbw.trans (ho.below (by simp) hbw.size)
            clear hX ho
            go_wp2_with fail
            refine (pending_k g _ _ _ _ _ _ _ _ (by exact hK.out) _ true (by simp <;> omega)).mono ?_
            rintro e w5 ⟨rfl, hX, ho⟩
            replace hK := Lib.hid hX
            replace hbw := hbw.trans (ho.below (by simp) hbw.size)
            clear hX ho
            go_wp2_with fail
            refine (deadline_k g _ _ _ _ _ _ _ _ (by exact hK.out)).mono ?_
            rintro e wk ⟨rfl, rfl⟩
            go_wp2_with fail
            exact ⟨⟨k + 1, _, _, _, _, _, _, first, many + 1, rfl, rfl, rfl, by omega, hI2, hK, hbw⟩, by simp [intOf] <;> omega⟩
    · go_wp2_with fail
      all_goals (go_ret; exact ⟨rfl, hbw⟩)
end Go.Proofs.Ythjlkiilkiggiaa
