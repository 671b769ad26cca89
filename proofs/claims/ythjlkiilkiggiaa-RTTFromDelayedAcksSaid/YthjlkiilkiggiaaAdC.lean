/- The walk of RTTFromDelayedAcks. -/
import Derived.Test.YthjlkiilkiggiaaAdB
namespace Go.Proofs.Ythjlkiilkiggiaa
open Go Go.RowKit Go.Shelf
set_option linter.unusedVariables false
set_option linter.unusedSectionVars false
set_option linter.unusedSimpArgs false

attribute [local irreducible] wpStill
/-- A slice of numbers from block B on that holds Ts. -/
def IntA (w : World) (B : Nat) (a : Option Addr) (Ts : List Int) : Prop := ∀ i, i < Ts.length → ∃ r, a = some ⟨r, 0, none⟩ ∧ B ≤ r ∧ r < w.heap.size ∧ w.cell? ⟨r, i, none⟩ = some (.int .i64 (Ts.getD i 0))
theorem IntA.only {w w' : World} {B : Nat} {a : Option Addr} {Ts : List Int} {S : List Nat} (h : IntA w B a Ts) (ho : Only S w w') (hS : ∀ k ∈ S, k < B) : IntA w' B a Ts := fun i hi => by
  obtain ⟨r, h1, h2, h3, h4⟩ := h i hi
  have hn : r ∉ S := fun hm => by have := hS r hm; omega
  exact ⟨r, h1, h2, Nat.lt_of_lt_of_le h3 ho.size, (ho.cell (p := ⟨r, _, none⟩) h3 hn).trans h4⟩
theorem IntA.below {w w' : World} {B C : Nat} {a : Option Addr} {Ts : List Int} (h : IntA w B a Ts) (ho : Below C w w') (hC : w.heap.size ≤ C) : IntA w' B a Ts := h.only (S := []) (Only.of_below (ho.mono hC)) (by simp)
theorem own_ints {w : World} {B : Nat} {v : Value} {Ts : List Int} (h : w.ownsRow B 3 1 v Ts.length (Ts.map (Value.int .i64))) : ∃ a cap, v = .slice a Ts.length cap ∧ IntA w B a Ts := by
  rcases h.2 with ⟨rfl, h0⟩ | ⟨g, cap, cur, rfl, hg, hgb, h1, h2, h3, h4⟩
  · exact ⟨none, 0, by rw [h0], fun i hi => by omega⟩
  · refine ⟨some ⟨g, 0, none⟩, cap, rfl, fun i hi => ⟨g, rfl, hg, At.lt (show At w g _ cur from hgb), ?_⟩⟩
    have k1 : (Ts.map (Value.int .i64))[i]? = some (.int .i64 (Ts.getD i 0)) := by
      rw [List.getElem?_map, List.getElem?_eq_getElem hi, List.getD_eq_getElem?_getD, List.getElem?_eq_getElem hi]; rfl
    rw [← h4, List.getElem?_take_of_lt (by omega)] at k1
    simp only [Array.getElem?_toList] at k1
    exact (cell_of_row w g _ cur _ (0, 0) hgb).trans k1
def DRel1 (w5 : World) (v n i : Value) (wr : World) : Prop := ∃ (k : Nat) (Ts : List Int) (now : Int), n = .int .i64 now ∧ i = .int .i64 k ∧ k ≤ 30 ∧ Ts.length = k ∧ Hid (SentAt Ts now) ∧ Hid (wr.ownsRow w5.heap.size 3 1 v Ts.length (Ts.map (Value.int .i64))) ∧ Hid (Below w5.heap.size w5 wr)
def DRel2 (w : World) (g eb B : Nat) (a : Option Addr) (Ts : List Int) (now th bk dl : Int) (v16 v17 v18 : Value) (wr : World) : Prop := ∃ (k at' : Nat) (lg wh ct du seen S V L M : Int), v16 = .int .i64 k ∧ v17 = .int .i64 seen ∧ v18 = .int .i64 at' ∧ (at' : Int) ≤ now + th + dl + 1 ∧
  Hid (MInv Ts.length (fun i => Ts.getD i 0) th dl at' k lg wh ct du seen) ∧ Hid (EInv (th + bk) dl S V L M) ∧ Hid (TK wr g (lowL k) dl 0 lg wh ct du) ∧ Hid (At wr eb 78 #[.int .i64 S, .int .i64 V, .int .i64 L, .int .i64 M]) ∧ Hid (IntA wr B a Ts) ∧ Below w.heap.size w wr
def DRel3 (w2 : World) (g B : Nat) (a : Option Addr) (Ts : List Int) (th dl : Int) (at' : Nat) (seen : Int) (v16 : Value) (wr : World) : Prop := ∃ (k : Nat) (lg wh ct du : Int), v16 = .int .i64 k ∧ Hid (MInv Ts.length (fun i => Ts.getD i 0) th dl at' k lg wh ct du seen) ∧ Hid (TK wr g (lowL k) dl 0 lg wh ct du) ∧ Hid (IntA wr B a Ts) ∧ Hid (Only [g] w2 wr)

set_option maxRecDepth 100000 in
set_option maxHeartbeats 12000000 in
theorem delayed_walk (a0 a1 a2 : Int) (a3 : Option Addr) (len3 cap3 : Nat) (Z : Nat → Int) (w : World) (w0 : (Lit.int .i64 a0).wf = true) (w1 : (Lit.int .i64 a1).wf = true) (w2 : (Lit.int .i64 a2).wf = true) (hZ : Ints .i64 w a3 len3 Z) :
    Calls Try.prog 8 #[.int .i64 a0, .int .i64 a1, .int .i64 a2, .slice a3 len3 cap3] w fun e w' => e = .returned (.bool true) ∧ Below w.heap.size w w' := by
  have ha0 := wf_i64 w0
  have ha1 := wf_i64 w1
  have ha2 := wf_i64 w2
  clear w0 w1 w2
  obtain ⟨i0, hi, hz0, hz1, hz2⟩ := info_parts A_intInfo
  go_enter Try.func8, Try.ntmps8
  go_wp2_with fail
  refine (Rt.sane_any _).mono ?_
  rintro e w1 ⟨rfl, hb⟩
  go_wp2_with fail
  refine (Rt.pick_any a0 100 _ ha0.1 ha0.2 (by omega)).mono ?_
  rintro e wk ⟨rfl, rfl⟩
  have t0 := Rt.pickZ_bd a0 100 (by omega)
  generalize Rt.pickZ a0 100 = z0 at t0
  go_wp2_with fail
  refine (Rt.pick_any a1 100 _ ha1.1 ha1.2 (by omega)).mono ?_
  rintro e wk ⟨rfl, rfl⟩
  have t1 := Rt.pickZ_bd a1 100 (by omega)
  generalize Rt.pickZ a1 100 = z1 at t1
  go_wp2_with fail
  refine (Rt.pick_any a2 21 _ ha2.1 ha2.2 (by omega)).mono ?_
  rintro e wk ⟨rfl, rfl⟩
  have t2 := Rt.pickZ_bd a2 21 (by omega)
  generalize Rt.pickZ a2 21 = dl at t2
  clear ha0 ha1 ha2
  go_wp2_with fail
  refine (new_k dl _ (by omega) (by omega)).mono ?_
  rintro e w2 ⟨g, rfl, hT, ho, hg⟩
  have hgw : w.heap.size ≤ g := Nat.le_trans hb.size hg
  replace hb := hb.trans (ho.below (by simp) hb.size)
  have hgl := hT.lt
  replace hT := Lib.hid hT
  clear ho hg
  go_wp2_with fail
  refine (Rt.new_at _).mono ?_
  rintro e w3 ⟨eb, rfl, hE, ho, hg⟩
  have hew : w.heap.size ≤ eb := by have := hb.size; omega
  have hge : g ≠ eb := by omega
  replace hb := hb.trans (ho.below (by simp) hb.size)
  replace hT := Lib.hid (hT.out.keep ho (by simp))
  have hgl3 := hT.out.lt
  have hel3 := hE.lt
  replace hE := Lib.hid hE
  clear ho hg hgl
  go_wp2_with fail
  go_loopw [13, 14, 15] (fun v n i wr => DRel1 w3 v n i wr) (fun _ _ i _ => 30 - (intOf i).toNat)
  case atStart => exact ⟨0, [], 0, rfl, rfl, by omega, rfl, Lib.hid SentAt.start, Lib.hid (World.ownsRow_nil _ _ _ _), Lib.hid (Below.refl _ _)⟩
  case round =>
    obtain ⟨k, Ts, now, rfl, rfl, hk, hTk, hS, hrow, hbel⟩ := hrel
    have hn0 := hS.out.now0
    have hn1 := hS.out.top
    rw [hTk] at hn1
    by_cases hlt : k < len3 ∧ k < 30
    · obtain ⟨hlt1, hlt2⟩ := hlt
      obtain ⟨bs, off, rfl, hbs, q0, v0⟩ := hZ k hlt1
      rw [← (hb.trans (hbel.out.mono hb.size)).cell hbs] at q0
      replace v0 := wf_i64 v0
      have hlt1' : (k : Int) < len3 := by omega
      have hlt2' : (k : Int) < 30 := by omega
      have hbsz := hbel.out.size
      go_wp2_with fail
      refine (Rt.pick_any (Z k) 30 _ v0.1 v0.2 (by omega)).mono ?_
      rintro e wk ⟨rfl, rfl⟩
      have t3 := Rt.pickZ_bd (Z k) 30 (by omega)
      generalize Rt.pickZ (Z k) 30 = gp at t3
      have hS2 := Lib.hid (hS.out.snoc gp (by omega) (by omega))
      clear q0 v0 hS
      go_wp2_with (at_builtin; refine wpList_append_own _ rfl (.tmp 58) (.tmp 60) 53 rfl w3.heap.size 3 i0 (.int .i64 0) 1 8 Try.underlying53 hi hz0 hz1 hz2 rfl (by decide) _ Ts.length (Ts.map (Value.int .i64)) rfl (hrow.out.alloc _) ⟨wr.heap.size, 0, none⟩ 1 1 [.int .i64 (now + 1 + gp)] rfl rfl (cell_one_at _ _ rfl _ _) (by simp [Value.oneCell']) (by unfold maxLen; omega) (by omega) (by simp; omega) ?_; intro v' wn hown' hgrow _)
      have hb2 : Below w3.heap.size w3 wn := (hbel.out.alloc hbsz _).grown hgrow (by simp; omega) (fun j e => (hrow.out.lt j e).1)
      exact ⟨⟨k + 1, Ts ++ [now + 1 + gp], _, rfl, rfl, by omega, by simp; omega, hS2, Lib.hid (by simpa using hown'), Lib.hid hb2⟩, by simp [intOf] <;> omega⟩
    · obtain ⟨ar, cr, rfl, hIA⟩ := own_ints hrow.out
      replace hT := Lib.hid (hT.out.below hbel.out hgl3)
      replace hE := Lib.hid (hE.out.below hbel.out hel3)
      replace hb := hb.trans (hbel.out.mono hb.size)
      replace hIA := Lib.hid hIA
      have hRise : Rise Ts.length (fun i => Ts.getD i 0) := hS.out.rise
      have hT00 : 0 < Ts.length → 0 ≤ (fun i => Ts.getD i 0) 0 + (1 + z0) := fun h => by have := hS.out.first 0 h; simp only; omega
      have hRise := Lib.hid hRise
      have hn2 : now ≤ 900 := by omega
      clear hrow hbel hZ hn1
      by_cases hl1 : k < len3
      all_goals
        go_wp2_with fail
        clear hlt hl1
        go_loopw [16, 17, 18] (fun v16 v17 v18 wr => DRel2 w g eb w3.heap.size ar Ts now (1 + z0) (1 + z1) dl v16 v17 v18 wr) (fun _ _ t _ => (now + (1 + z0) + dl + 2).toNat - (intOf t).toNat)
        case atStart => exact ⟨0, 0, -1, 0, 0, -1, -1, 80, 20, 0, 0, rfl, rfl, rfl, by omega, Lib.hid (MInv.start _ _ _ _ hT00), Lib.hid (EInv.start _ _), hT, hE, hIA, hb⟩
        case round =>
          obtain ⟨k, at', lg, wh, ct, du, seen, S, V, L, M, rfl, rfl, rfl, hat, hM, hEI, hK, hE2, hI2, hbw⟩ := hrel
          clear hT hE hIA hb hT00
          by_cases hlt : (at' : Int) ≤ now + (1 + z0) + dl
          · go_wp2_with fail
            go_loopw [16] (fun v wx => DRel3 wr g w3.heap.size ar Ts (1 + z0) dl at' seen v wx) (fun v _ => Ts.length - (intOf v).toNat)
            case atStart => exact ⟨k, lg, wh, ct, du, rfl, hM, hK, hI2, Lib.hid (Only.refl _ _)⟩
            case round =>
              obtain ⟨k, lg, wh, ct, du, rfl, hM, hK, hI2, hO⟩ := hrel
              by_cases hx : k < Ts.length ∧ Ts.getD k 0 + (1 + z0) ≤ at'
              · obtain ⟨hx1, hx2⟩ := hx
                obtain ⟨r, hr1, hrB, hrl, x0⟩ := hI2.out k hx1
                subst hr1
                have hlgk := hM.out.lgk
                obtain ⟨c1, c2, c3⟩ := lowL_step k
                obtain ⟨hst, s1, s2⟩ := hM.out.recv hRise.out (by omega) (by omega) hx1 hx2
                have hsT := hS.out.first k hx1
                have hdu : duZ ct dl du at' true = duZ ct dl du at' (decide (lg = -1 ∨ (k : Int) = lg + 1)) := by rw [decide_eq_true (by omega)]
                have HST := Lib.hid hst
                have HC := Lib.hid c1
                have HC2 := Lib.hid c2
                have HC3 := Lib.hid c3
                have HDU := Lib.hid hdu
                have hx1' : (k : Int) < Ts.length := by omega
                generalize Ts.getD k 0 = tk at x0 hx2 hsT
                clear hst c1 c2 c3 hdu
                go_wp2_with fail
                refine (recv_ok g (lowL k) dl 0 lg wh ct du at' k true _ (by exact hK.out) (by omega) (by omega) (by omega) (by omega) (by omega) HC3.out (by omega) (by omega) (by omega) (by omega) (by omega) (by omega)).mono ?_
                rintro e w4 ⟨rfl, hT', ho⟩
                have hT4 := Lib.hid (hT'.same HC.out HC2.out (if_pos (by omega)) (if_pos (by omega)) (if_pos rfl) ((if_pos rfl).trans HDU.out.symm))
                replace hI2 := Lib.hid (hI2.out.only ho (by simpa using hgl3))
                replace hO := Lib.hid (hO.out.trans ho)
                clear hT' ho x0 hK
                go_wp2_with fail
                exact ⟨⟨k + 1, _, _, _, _, rfl, HST, hT4, hI2, hO⟩, by simp [intOf] <;> omega⟩
              · have hO' := hO.out
                replace hbw := hbw.trans (hO'.below (by simpa using hgw) hbw.size)
                replace hE2 := Lib.hid (hE2.out.keep hO' (by simpa using hge.symm))
                clear hO hO'
                have hx' : ¬ (k < Ts.length ∧ (fun i => Ts.getD i 0) k + (1 + z0) ≤ at') := hx
                have hkn := hM.out.kn
                have hlgk := hM.out.lgk
                have hgl5 := hK.out.lt
                have hE5 := hE2.out.lt
                by_cases hp : du ≠ -1 ∧ du ≤ at'
                · obtain ⟨q0, q1, q2, q3, q4, q5, q6⟩ := hM.out.ack hRise.out (by omega) (by omega) hx' hp
                  obtain ⟨j, hkj⟩ : ∃ j, k = j + 1 := ⟨k - 1, by omega⟩
                  have q1' : wh = Ts.getD j 0 + (1 + z0) := by rw [hkj] at q1; exact q1
                  have hsT := hS.out.first j (by omega)
                  obtain ⟨tj, htj⟩ : ∃ tj, Ts.getD j 0 = tj := ⟨_, rfl⟩
                  rw [htj] at q1' hsT
                  subst q1'
                  obtain ⟨h1, h2, h3, h4, h5⟩ := hEI.out.step (D := at' - (tj + (1 + z0))) (by omega) (by omega) (by omega) q3 (by omega)
                  rw [show (1 + z0) + (1 + z1) + ((at' : Int) - (tj + (1 + z0))) = at' + (1 + z1) - tj from by omega] at h1 h2 h3 h4 h5
                  obtain ⟨S', hS'⟩ : ∃ x, Rt.smoZ S M ((at' : Int) + (1 + z1) - tj) (at' - (tj + (1 + z0))) = x := ⟨_, rfl⟩
                  obtain ⟨V', hV'⟩ : ∃ x, Rt.varZ S V M ((at' : Int) + (1 + z1) - tj) (at' - (tj + (1 + z0))) = x := ⟨_, rfl⟩
                  obtain ⟨L', hL'⟩ : ∃ x, Rt.rcZ ((at' : Int) + (1 + z1) - tj) = x := ⟨_, rfl⟩
                  obtain ⟨M', hM'⟩ : ∃ x, Rt.minZ M ((at' : Int) + (1 + z1) - tj) = x := ⟨_, rfl⟩
                  rw [hS', hV', hL', hM'] at h1
                  rw [hS'] at h2 h3
                  rw [hM'] at h4 h5
                  obtain ⟨sm, hsm⟩ : ∃ x, S' / 8 = x := ⟨_, rfl⟩
                  rw [hsm] at h2 h3
                  have HS' := Lib.hid hS'
                  have HV' := Lib.hid hV'
                  have HL' := Lib.hid hL'
                  have HM' := Lib.hid hM'
                  have HSM := Lib.hid hsm
                  have HTJ := Lib.hid htj
                  clear hS' hV' hL' hM' hsm htj
                  rw [show (k : Int) - 1 = j from by omega] at q6
                  have HM := Lib.hid q6
                  have HE := Lib.hid h1
                  have HL : Hid (lowL k = [(0, (k : Int))]) := Lib.hid (if_neg (by omega))
                  have hjk : (j : Int) + 1 = k := by omega
                  have hjl : j < Ts.length := by omega
                  have hjl' : (j : Int) < Ts.length := by omega
                  have q5' : seen < (j : Int) := by omega
                  have hkn' : (k : Int) ≤ Ts.length := by omega
                  have ejk : IntKind.i64.wrap ((k : Int) - 1) = j := by rw [IntWalk.i64_in _ (by omega)]; omega
                  have hRI := Lib.hid hEI.out.1
                  obtain ⟨r, hr1, _, hrl, x0⟩ := hI2.out j hjl
                  subst hr1
                  clear x0 hrl q6 h1 q0 q1 hEI hM q5 hkj
                  by_cases hx1 : k < Ts.length
                  · obtain ⟨r2, hr2, _, hrl, x0⟩ := hI2.out k hx1
                    cases hr2
                    have hx2 : ¬ (Ts.getD k 0 + (1 + z0) ≤ at') := fun h => hx ⟨hx1, h⟩
                    have hsT2 := hS.out.first k hx1
                    have hx1' : (k : Int) < Ts.length := by omega
                    generalize Ts.getD k 0 = tk at x0 hx2 hsT2
                    clear hx hx'
                    go_wp2_with fail
                    clear x0 hx2 hsT2 hx1'
                    refine (pending_k g _ _ _ _ _ _ _ _ (by exact hK.out) _ true (by simp <;> omega)).mono ?_
                    rintro e w5 ⟨rfl, hX, ho⟩
                    replace hK := Lib.hid hX
                    replace hI2 := Lib.hid (hI2.out.only ho (by simp))
                    replace hE2 := Lib.hid (hE2.out.keep ho (by simp))
                    replace hbw := hbw.trans (ho.below (by simp) hbw.size)
                    have hgl6 := hK.out.lt
                    have hel6 := hE2.out.lt
                    clear hX ho hgl5 hE5
                    go_wp2_with fail
                    refine (frame_one g at' 0 k dl 0 lg _ ct du (by omega) (by omega) (by omega) (by omega) q2 _ (by have := hK.out; rwa [HL.out] at this)).mono ?_
                    rintro e w6 ⟨gf, rfl, hA6, hgf, hB6⟩
                    replace hK := Lib.hid (hK.out.below hB6 hgl6)
                    replace hI2 := Lib.hid (hI2.out.below hB6 (Nat.le_refl _))
                    replace hE2 := Lib.hid (hE2.out.below hB6 hel6)
                    replace hbw := hbw.trans (hB6.mono hbw.size)
                    have hgfg : gf ≠ g := by omega
                    have hgfe : gf ≠ eb := by omega
                    have hsz := hB6.size
                    have HA6 := Lib.hid hA6
                    clear hB6 hA6
                    go_wp2_with fail
                    refine (sent_k g _ _ _ _ _ _ _ _ (by exact hK.out.alloc _)).mono ?_
                    rintro e w7 ⟨rfl, hX, ho⟩
                    replace hK := Lib.hid hX
                    have hgl7 := hX.lt
                    replace hI2 := Lib.hid ((hI2.out.only (w' := w6.alloc _) ((Only.refl [] _).alloc _) (by simp)).only ho (by simpa using hgl3))
                    replace hE2 := Lib.hid ((hE2.out.alloc _).keep ho (by simpa using hge.symm))
                    have hA7 := (HA6.out.alloc _).keep ho (by simpa using hgfg)
                    have hFr := (At.new w6 57 _).keep ho (by simp; omega)
                    replace hbw := (hbw.alloc hbw.size _).trans (ho.below (by simpa using hgw) (hbw.alloc hbw.size _).size)
                    obtain ⟨r3, hr3, _, hrl, x0⟩ := hI2.out j hjl
                    cases hr3
                    rw [HTJ.out] at x0
                    have y0 := hA7.cell 1 rfl
                    have y1 := hFr.cell 9 rfl
                    have y2 := hFr.cell 8 rfl
                    clear hX ho
                    go_wp2_with fail
                    clear y0 y1 y2 x0
                    refine (Rt.samp_v eb S V L M _ (by exact hE2.out) hRI.out _ _ S' V' L' M' (by omega) (by omega) HS'.out HV'.out HL'.out HM'.out).mono ?_
                    rintro e w8 ⟨rfl, hX, ho⟩
                    have hE3 := Lib.hid hX
                    replace hK := Lib.hid (hK.out.keep ho (by simpa using hge))
                    replace hI2 := Lib.hid (hI2.out.only ho (by simpa using hel3))
                    replace hbw := hbw.trans (ho.below (by simpa using hew) hbw.size)
                    clear hX ho hA7 hFr hE2 hRI HS' HV' HL' HM'
                    have hRI := Lib.hid HE.out.1
                    go_wp2_with fail
                    refine (Rt.smo_v eb S' V' L' M' _ (by exact hE3.out) hRI.out _ HSM.out).mono ?_
                    rintro e wk ⟨rfl, rfl⟩
                    go_wp2_with fail
                    refine (Rt.smo_v eb S' V' L' M' _ (by exact hE3.out) hRI.out _ HSM.out).mono ?_
                    rintro e wk ⟨rfl, rfl⟩
                    go_wp2_with fail
                    refine (Rt.min_v eb S' V' L' M' _ (by exact hE3.out) hRI.out _ rfl).mono ?_
                    rintro e wk ⟨rfl, rfl⟩
                    go_wp2_with fail
                    refine (Rt.min_v eb S' V' L' M' _ (by exact hE3.out) hRI.out _ rfl).mono ?_
                    rintro e wk ⟨rfl, rfl⟩
                    go_wp2_with fail
                    exact ⟨⟨k, at' + 1, lg, _, 0, -1, j, S', V', L', M', rfl, rfl, rfl, by omega, HM, HE, hK, hE3, hI2, hbw⟩, by simp [intOf] <;> omega⟩
                  · have hx1' : ¬ (k : Int) < Ts.length := by omega
                    clear hx hx'
                    go_wp2_with fail
                    refine (pending_k g _ _ _ _ _ _ _ _ (by exact hK.out) _ true (by simp <;> omega)).mono ?_
                    rintro e w5 ⟨rfl, hX, ho⟩
                    replace hK := Lib.hid hX
                    replace hI2 := Lib.hid (hI2.out.only ho (by simp))
                    replace hE2 := Lib.hid (hE2.out.keep ho (by simp))
                    replace hbw := hbw.trans (ho.below (by simp) hbw.size)
                    have hgl6 := hK.out.lt
                    have hel6 := hE2.out.lt
                    clear hX ho hgl5 hE5
                    go_wp2_with fail
                    refine (frame_one g at' 0 k dl 0 lg _ ct du (by omega) (by omega) (by omega) (by omega) q2 _ (by have := hK.out; rwa [HL.out] at this)).mono ?_
                    rintro e w6 ⟨gf, rfl, hA6, hgf, hB6⟩
                    replace hK := Lib.hid (hK.out.below hB6 hgl6)
                    replace hI2 := Lib.hid (hI2.out.below hB6 (Nat.le_refl _))
                    replace hE2 := Lib.hid (hE2.out.below hB6 hel6)
                    replace hbw := hbw.trans (hB6.mono hbw.size)
                    have hgfg : gf ≠ g := by omega
                    have hgfe : gf ≠ eb := by omega
                    have hsz := hB6.size
                    have HA6 := Lib.hid hA6
                    clear hB6 hA6
                    go_wp2_with fail
                    refine (sent_k g _ _ _ _ _ _ _ _ (by exact hK.out.alloc _)).mono ?_
                    rintro e w7 ⟨rfl, hX, ho⟩
                    replace hK := Lib.hid hX
                    have hgl7 := hX.lt
                    replace hI2 := Lib.hid ((hI2.out.only (w' := w6.alloc _) ((Only.refl [] _).alloc _) (by simp)).only ho (by simpa using hgl3))
                    replace hE2 := Lib.hid ((hE2.out.alloc _).keep ho (by simpa using hge.symm))
                    have hA7 := (HA6.out.alloc _).keep ho (by simpa using hgfg)
                    have hFr := (At.new w6 57 _).keep ho (by simp; omega)
                    replace hbw := (hbw.alloc hbw.size _).trans (ho.below (by simpa using hgw) (hbw.alloc hbw.size _).size)
                    obtain ⟨r3, hr3, _, hrl, x0⟩ := hI2.out j hjl
                    cases hr3
                    rw [HTJ.out] at x0
                    have y0 := hA7.cell 1 rfl
                    have y1 := hFr.cell 9 rfl
                    have y2 := hFr.cell 8 rfl
                    clear hX ho
                    go_wp2_with fail
                    clear y0 y1 y2 x0
                    refine (Rt.samp_v eb S V L M _ (by exact hE2.out) hRI.out _ _ S' V' L' M' (by omega) (by omega) HS'.out HV'.out HL'.out HM'.out).mono ?_
                    rintro e w8 ⟨rfl, hX, ho⟩
                    have hE3 := Lib.hid hX
                    replace hK := Lib.hid (hK.out.keep ho (by simpa using hge))
                    replace hI2 := Lib.hid (hI2.out.only ho (by simpa using hel3))
                    replace hbw := hbw.trans (ho.below (by simpa using hew) hbw.size)
                    clear hX ho hA7 hFr hE2 hRI HS' HV' HL' HM'
                    have hRI := Lib.hid HE.out.1
                    go_wp2_with fail
                    refine (Rt.smo_v eb S' V' L' M' _ (by exact hE3.out) hRI.out _ HSM.out).mono ?_
                    rintro e wk ⟨rfl, rfl⟩
                    go_wp2_with fail
                    refine (Rt.smo_v eb S' V' L' M' _ (by exact hE3.out) hRI.out _ HSM.out).mono ?_
                    rintro e wk ⟨rfl, rfl⟩
                    go_wp2_with fail
                    refine (Rt.min_v eb S' V' L' M' _ (by exact hE3.out) hRI.out _ rfl).mono ?_
                    rintro e wk ⟨rfl, rfl⟩
                    go_wp2_with fail
                    refine (Rt.min_v eb S' V' L' M' _ (by exact hE3.out) hRI.out _ rfl).mono ?_
                    rintro e wk ⟨rfl, rfl⟩
                    go_wp2_with fail
                    exact ⟨⟨k, at' + 1, lg, _, 0, -1, j, S', V', L', M', rfl, rfl, rfl, by omega, HM, HE, hK, hE3, hI2, hbw⟩, by simp [intOf] <;> omega⟩
                · have q6 := Lib.hid (hM.out.idle hRise.out (by omega) (by omega) hx' hp)
                  by_cases hx1 : k < Ts.length
                  · obtain ⟨r, hr1, hrB, hrl, x0⟩ := hI2.out k hx1
                    subst hr1
                    have hx2 : ¬ (Ts.getD k 0 + (1 + z0) ≤ at') := fun h => hx ⟨hx1, h⟩
                    have hsT := hS.out.first k hx1
                    have hx1' : (k : Int) < Ts.length := by omega
                    generalize Ts.getD k 0 = tk at x0 hx2 hsT
                    clear hx hx'
                    go_wp2_with fail
                    clear x0 hx2 hsT
                    refine (pending_k g _ _ _ _ _ _ _ _ (by exact hK.out) _ false (decide_eq_false (by exact hp))).mono ?_
                    rintro e w5 ⟨rfl, hX, ho⟩
                    replace hK := Lib.hid hX
                    replace hI2 := Lib.hid (hI2.out.only ho (by simp))
                    replace hE2 := Lib.hid (hE2.out.keep ho (by simp))
                    replace hbw := hbw.trans (ho.below (by simp) hbw.size)
                    clear hX ho
                    go_wp2_with fail
                    exact ⟨⟨k, at' + 1, lg, wh, ct, du, seen, S, V, L, M, rfl, rfl, rfl, by omega, q6, hEI, hK, hE2, hI2, hbw⟩, by simp [intOf] <;> omega⟩
                  · have hx1' : ¬ (k : Int) < Ts.length := by omega
                    clear hx hx'
                    go_wp2_with fail
                    refine (pending_k g _ _ _ _ _ _ _ _ (by exact hK.out) _ false (decide_eq_false (by exact hp))).mono ?_
                    rintro e w5 ⟨rfl, hX, ho⟩
                    replace hK := Lib.hid hX
                    replace hI2 := Lib.hid (hI2.out.only ho (by simp))
                    replace hE2 := Lib.hid (hE2.out.keep ho (by simp))
                    replace hbw := hbw.trans (ho.below (by simp) hbw.size)
                    clear hX ho
                    go_wp2_with fail
                    exact ⟨⟨k, at' + 1, lg, wh, ct, du, seen, S, V, L, M, rfl, rfl, rfl, by omega, q6, hEI, hK, hE2, hI2, hbw⟩, by simp [intOf] <;> omega⟩
          · have hdone := hM.out.done hRise.out (by omega) (by omega) (fun i hi => by have := hS.out.first i hi; omega)
            go_wp2_with fail
            go_ret
            exact ⟨rfl, hbw⟩
end Go.Proofs.Ythjlkiilkiggiaa
