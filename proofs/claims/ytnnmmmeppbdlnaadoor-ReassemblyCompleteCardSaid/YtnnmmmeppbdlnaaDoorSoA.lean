/- ReassemblyComplete: the walk. -/
import Derived.Test.YtnnmmmeppbdlnaaDoorSnZ
import Derived.Lib.AppendZeros
import Derived.Deep.RegionHeld3
import Derived.Test.YtnnmmmeppbdlnaaDoorSnR
namespace Go.Proofs.YtnnmmmeppbdlnaaDoor
open Go Go.RowKit
set_option linter.unusedVariables false
set_option linter.unusedSectionVars false
set_option linter.unusedSimpArgs false


theorem BufAt.under {w w' : World} {b g1 g2 C : Nat} {x : Bf} (h : BufAt w b g1 g2 x) (ho : Below C w w') (hC : b < C ∧ g1 < C ∧ g2 < C) : BufAt w' b g1 g2 x :=
  ⟨(ho.block _ hC.1).trans h.at_, h.rb.block (ho.block _ hC.2.1), h.rh.block (ho.block _ hC.2.2), h.d1, h.d2, h.d3, h.n1, h.n0, h.p0, h.p1, h.h0, h.h1⟩
theorem Kp.under {B C : Nat} {c f r g : Addr} {w0 w w' : World} (h : Kp B c f r g w0 w) (ho : Below C w w') (hC : B ≤ C) : Kp B c f r g w0 w' :=
  ⟨h.snt.below (ho.mono hC), Nat.le_trans h.size ho.size, h.bel.trans (ho.mono hC)⟩
theorem Cv.zmany {N p : Nat} {x : Bf} (h : Cv N p [] x) (hN : N ≤ 300) : (x.read N).many 1 = 0 := by
  have := ((x.read N).many_le 1).1
  rw [Cv.ready2 h hN] at this
  omega
theorem Cv.zout {N : Nat} (hN0 : N = 0) (x : Bf) : strB ((x.read N).out 0) = txtS N := by subst hN0; rfl
theorem Cv.zlast {N p : Nat} {x : Bf} (h : Cv N p [] x) (hN : N ≤ 300) (hN0 : N = 0) : (x.read N).last 0 = true := by
  have k := h.kn (by simp)
  have f := h.of.fi k
  unfold Bf.last
  show (x.kn && (x.pos + N + (0 : Nat) == x.fin)) = true
  rw [k, f, h.pos]
  simp
theorem Cv.zready {N p : Nat} {x : Bf} (h : Cv N p [] x) (hN : N ≤ 300) : ((x.read N).read 0).ready = 0 := rdy_uniq _ _ _ (Nat.zero_le _) (fun i hi => by omega) (fun _ => by
  show (if 0 + 0 < x.n then (if 0 + 0 + N < x.n then x.H (0 + 0 + N) else false) else false) = false
  rw [if_pos (by rw [h.n]; omega), if_pos (by rw [h.n]; omega)]
  simp only [Nat.zero_add]
  exact Cv.top h hN N (Nat.le_refl _) (by omega))
theorem cell_one_at (w : World) (n : Nat) (hn : w.heap.size = n) (x : Value) (t : TypeId) : ∀ j u, [x][j]? = some u → (w.alloc (.cells #[x] t)).cell? ((⟨n, 0, none⟩ : Addr).add j) = some u := by
  subst hn
  intro j u hj
  match j, hj with
  | 0, hj => simp at hj; subst hj; simp [Addr.add]
  | (j + 1), hj => simp at hj
theorem nxt_le (N p j q : Nat) (hp : 1 ≤ p) (hq : j * p = q) (hj : (j - 1) * p < N ∨ j ≤ 1) (t1 : q < N ∨ q = 0) : (j + 1 - 1) * p < N ∨ j + 1 ≤ 1 := by
  rw [Nat.add_sub_cancel, hq]
  rcases t1 with t | t
  · exact .inl t
  · right
    rcases Nat.eq_zero_or_pos j with e | e
    · omega
    · have : 1 * 1 ≤ j * p := Nat.mul_le_mul e hp
      omega
def CRel1 (N p b0 g0 h0 : Nat) (c f r g : Addr) (w w5 : World) (v i : Value) (wr : World) : Prop := ∃ j q : Nat, j * p = q ∧ i = .int .i64 q ∧ Nums wr w5.heap.size v (stL p j) ∧ ((j - 1) * p < N ∨ j ≤ 1) ∧ BufAt wr b0 g0 h0 (Bf.new 301) ∧ Kp w.heap.size c f r g w wr ∧ Below w5.heap.size w5 wr
def CRel2 (N p b0 g0 h0 : Nat) (c f r g : Addr) (w w5 : World) (v n : Value) (wr : World) : Prop := ∃ (k : Nat) (L : List Int) (x : Bf), n = .int .i64 k ∧ k + L.length ≤ 400 ∧ Nums wr w5.heap.size v L ∧ Cv N p L x ∧ BufAt wr b0 g0 h0 x ∧ Kp w.heap.size c f r g w wr ∧ w5.heap.size ≤ wr.heap.size
theorem stL_succ (p j : Nat) : stL p (j + 1) = stL p j ++ [((j * p : Nat) : Int)] := by simp [stL, List.range_succ]
theorem stL_len (p j : Nat) : (stL p j).length = j := by simp [stL]
set_option maxRecDepth 100000 in
set_option maxHeartbeats 12000000 in
theorem complete_walk (a0 a1 : Int) (a2 : Option Addr) (len2 cap2 : Nat) (Z2 : Nat → Int) (a3 : Option Addr) (len3 cap3 : Nat) (K M : Nat → Int) (w : World) (v0 : (Lit.int .i64 a0).wf = true) (v1 : (Lit.int .i64 a1).wf = true) (hl2 : Ints .i64 w a2 len2 Z2) (hl3 : Pairs .i64 .i64 w a3 len3 K M) (c f r g : Addr) (hS : Snt w.heap.size c f r g w) :
    Calls Tryd.prog 5 #[.int .i64 a0, .int .i64 a1, .slice a2 len2 cap2, .slice a3 len3 cap3] w fun e w' => e = .returned (.bool true) ∧ Below w.heap.size w w' := by
  obtain ⟨N, k0, q0⟩ := pick_nat a0 301 (by omega)
  obtain ⟨p0, k1, q1⟩ := pick_nat a1 50 (by omega)
  obtain ⟨p, e0⟩ : ∃ p, p0 + 1 = p := ⟨_, rfl⟩
  have hN : N ≤ 300 := by omega
  have hp : 1 ≤ p := by omega
  have hp2 : p ≤ 50 := by omega
  have HL2 := Lib.hid hl2; clear hl2
  have HL3 := Lib.hid hl3; clear hl3
  have HK : Hid (Kp w.heap.size c f r g w w) := Lib.hid (Kp.start hS); clear hS
  have z1 := txtS_size N
  have e1 : IntKind.i64.wrap (1 + (p0 : Int)) = p := by rw [show (1 : Int) + p0 = p by omega]; exact IntWalk.i64_in _ (by omega)
  go_enter Tryd.func5, Tryd.ntmps5
  go_wp2_with fail
  refine (sane_c w.heap.size c f r g w _ HK.out).mono ?_
  rintro e w1 ⟨rfl, hK⟩
  replace HK := Lib.hid hK
  clear hK
  go_wp2_with fail
  refine (pick_v a0 301 N _ k0 (by omega) (by omega) v0).mono ?_
  rintro e w2 ⟨rfl, rfl⟩
  go_wp2_with fail
  refine (text_c N (by omega) _).mono ?_
  rintro e w3 ⟨rfl, ho⟩
  replace HK := Lib.hid (HK.out.none ho)
  clear ho
  go_wp2_with fail
  refine (pick_v a1 50 p0 _ k1 (by omega) (by omega) v1).mono ?_
  rintro e w4 ⟨rfl, rfl⟩
  go_wp2_with fail
  refine (new_c 301 _ (by omega) (by omega)).mono ?_
  rintro e w5 ⟨b0, g0, h0, rfl, hA, ho, q0, q1, q2⟩
  have HA0 : Hid (BufAt w5 b0 g0 h0 (Bf.new 301)) := Lib.hid hA
  have HB0 : Hid (w.heap.size ≤ b0 ∧ w.heap.size ≤ g0 ∧ w.heap.size ≤ h0) := Lib.hid (by have := HK.out.size; omega)
  replace HK := Lib.hid (HK.out.none ho)
  clear hA ho q0 q1 q2
  go_wp2_with fail
  have hlb := HA0.out.lt
  have hw5 := HK.out.size
  go_loopw [13, 14] (fun v i wr => CRel1 N p b0 g0 h0 c f r g w w5 v i wr) (fun _ i _ => 1000 - (intOf i).toNat)
  case atStart => exact ⟨0, 0, by omega, rfl, World.ownsRow_nil _ _ _ _, .inr (by omega), HA0.out, HK.out, Below.refl _ _⟩
  case round =>
    obtain ⟨j, q, hq, rfl, hR, hj, hA0, hK, hB5⟩ := hrel
    replace HA0 := Lib.hid hA0
    replace HK := Lib.hid hK
    have HR := Lib.hid hR
    have HB5 := Lib.hid hB5
    clear hA0 hK hR hB5
    by_cases t1 : q < N ∨ q = 0
    · have hq3 : q ≤ 300 := by omega
      have hj3 : j ≤ 300 := by
        have : j * 1 ≤ j * p := Nat.mul_le_mul_left j hp
        omega
      have f1 : IntKind.i64.wrap ((q : Int) + p) = q + p := IntWalk.i64_in _ (by omega)
      obtain ⟨i0, hi, hzz⟩ := Option.map_eq_some_iff.1 A_infoI
      simp only [Prod.mk.injEq] at hzz
      obtain ⟨hz0, hz1, hz2⟩ := hzz
      have hjl := stL_len p j
      have h5s := HB5.out.size
      by_cases t2 : (q : Int) < N
      · go_wp2_with (at_builtin; refine wpList_append_own _ rfl (.tmp 46) (.tmp 48) 50 rfl w5.heap.size 3 i0 (.int .i64 0) 1 8 Tryd.underlying50 hi hz0 hz1 hz2 rfl (by decide) _ (stL p j).length ((stL p j).map (Value.int .i64)) rfl (World.ownsRow.alloc HR.out _) ⟨wr.heap.size, 0, none⟩ 1 1 [.int .i64 (q : Nat)] rfl rfl (cell_one_at _ _ rfl _ _) (by simp [Value.oneCell']) (by unfold maxLen; omega) (by omega) (by simp; omega) ?_; intro v' wn hown' hgr _)
        have hRn : Nums wn w5.heap.size v' (stL p (j + 1)) := by
          rw [stL_succ, hq]
          unfold Nums
          rw [List.length_append, List.map_append]
          exact hown'
        have hBn : Below w5.heap.size w5 wn := (HB5.out.alloc HB5.out.size _).grown hgr (by simp; omega) (fun i e => (World.ownsRow.lt HR.out i e).1)
        have hOn : Below w5.heap.size wr wn := ((Below.refl w5.heap.size wr).alloc HB5.out.size _).grown hgr (by simp; omega) (fun i e => (World.ownsRow.lt HR.out i e).1)
        exact ⟨⟨j + 1, q + p, by rw [Nat.succ_mul, hq], by simp, hRn, nxt_le N p j q hp hq hj t1, HA0.out.under hOn hlb, HK.out.under hOn hw5, hBn⟩, by simp [intOf]; omega⟩
      · have t3 : ((q : Int) == 0) = true := by rcases t1 with t | t <;> simp <;> omega
        go_wp2_with (at_builtin; refine wpList_append_own _ rfl (.tmp 46) (.tmp 48) 50 rfl w5.heap.size 3 i0 (.int .i64 0) 1 8 Tryd.underlying50 hi hz0 hz1 hz2 rfl (by decide) _ (stL p j).length ((stL p j).map (Value.int .i64)) rfl (World.ownsRow.alloc HR.out _) ⟨wr.heap.size, 0, none⟩ 1 1 [.int .i64 (q : Nat)] rfl rfl (cell_one_at _ _ rfl _ _) (by simp [Value.oneCell']) (by unfold maxLen; omega) (by omega) (by simp; omega) ?_; intro v' wn hown' hgr _)
        have hRn : Nums wn w5.heap.size v' (stL p (j + 1)) := by
          rw [stL_succ, hq]
          unfold Nums
          rw [List.length_append, List.map_append]
          exact hown'
        have hBn : Below w5.heap.size w5 wn := (HB5.out.alloc HB5.out.size _).grown hgr (by simp; omega) (fun i e => (World.ownsRow.lt HR.out i e).1)
        have hOn : Below w5.heap.size wr wn := ((Below.refl w5.heap.size wr).alloc HB5.out.size _).grown hgr (by simp; omega) (fun i e => (World.ownsRow.lt HR.out i e).1)
        exact ⟨⟨j + 1, q + p, by rw [Nat.succ_mul, hq], by simp, hRn, nxt_le N p j q hp hq hj t1, HA0.out.under hOn hlb, HK.out.under hOn hw5, hBn⟩, by simp [intOf]; omega⟩
    · have t2 : ¬ (q : Int) < N := by omega
      have t3 : ((q : Int) == 0) = false := Bool.eq_false_iff.2 (fun h => by have := beq_iff_eq.1 h; omega)
      have hj1 : 1 ≤ j := by
        rcases Nat.eq_zero_or_pos j with e | e
        · rw [e] at hq; omega
        · exact e
      have hC := Cv.start N p j hp hj1 (by omega) (by omega)
      have hj5 : j ≤ 301 := by
        have hx : (j - 1) * 1 ≤ (j - 1) * p := Nat.mul_le_mul_left (j - 1) hp
        omega
      have HC := Lib.hid hC
      have hsz := HB5.out.size
      clear hC t1 hj hq
      go_wp2_with fail
      go_loopw [13, 15] (fun v n wr => CRel2 N p b0 g0 h0 c f r g w w5 v n wr) (fun v _ _ => vlen v)
      case atStart => exact ⟨0, stL p j, Bf.new 301, rfl, by rw [stL_len]; omega, HR.out, HC.out, HA0.out, HK.out, hsz⟩
      case round =>
        clear HA0 HK HR HB5 HC hsz t2 t3
        obtain ⟨n, L, x, rfl, hnl, hR, hC, hA0, hK, hsz⟩ := hrel
        replace HA0 := Lib.hid hA0
        replace HK := Lib.hid hK
        have HR := Lib.hid hR
        have HC := Lib.hid hC
        clear hA0 hK hR hC
        rcases Nat.eq_zero_or_pos L.length with hL0 | hL0
        · obtain rfl : L = [] := List.eq_nil_of_length_eq_zero hL0
          have hv : u13 = .slice none 0 0 ∨ ∃ g' cap', u13 = .slice (some ⟨g', 0, none⟩) 0 cap' := by
            rcases HR.out.2 with ⟨h1, _⟩ | ⟨g', cap', cur, h1, _⟩
            · exact .inl h1
            · exact .inr ⟨g', cap', h1⟩
          have hpr : x.pos + (N : Nat) ≤ 1099511627776 := by rw [HC.out.pos]; omega
          by_cases hN0 : N = 0
          · have t4 : ((N : Int) == 0) = true := by simp; omega
            have hpr2 : (x.read N).pos + (0 : Nat) ≤ 1099511627776 := by show x.pos + N + (0 : Nat) ≤ _; omega
            have HN0 := Lib.hid hN0
            clear hN0
            rcases hv with rfl | ⟨g', cap', rfl⟩
            all_goals (
              go_wp2_with fail
              refine (read_v b0 g0 h0 x _ HA0.out N N (txtS N) true (x.read N) (Cv.many HC.out hN) (Cv.out HC.out hN) (Cv.last HC.out hN) rfl hpr).mono ?_
              rintro e w61 ⟨rfl, hA, ho⟩
              replace HA0 := Lib.hid hA
              replace HK := Lib.hid (HK.out.buf HB0.out ho)
              clear hA ho
              go_wp2_with fail
              refine (read_v b0 g0 h0 (x.read N) _ HA0.out 1 0 (txtS N) true ((x.read N).read 0) (Cv.zmany HC.out hN) (Cv.zout HN0.out x) (Cv.zlast HC.out hN HN0.out) rfl hpr2).mono ?_
              rintro e w61 ⟨rfl, hA, ho⟩
              replace HA0 := Lib.hid hA
              replace HK := Lib.hid (HK.out.buf HB0.out ho)
              clear hA ho
              go_wp2_with fail
              refine (ready_c b0 g0 h0 ((x.read N).read 0) _ HA0.out).mono ?_
              rintro e w62 ⟨rfl, rfl⟩
              rw [(Cv.zready HC.out hN)]
              go_wp2_with fail
              go_ret
              exact ⟨rfl, HK.out.bel⟩)
          · have t4 : ((N : Int) == 0) = false := by simp; omega
            clear hN0
            rcases hv with rfl | ⟨g', cap', rfl⟩
            all_goals (
              go_wp2_with fail
              refine (read_v b0 g0 h0 x _ HA0.out N N (txtS N) true (x.read N) (Cv.many HC.out hN) (Cv.out HC.out hN) (Cv.last HC.out hN) rfl hpr).mono ?_
              rintro e w61 ⟨rfl, hA, ho⟩
              replace HA0 := Lib.hid hA
              replace HK := Lib.hid (HK.out.buf HB0.out ho)
              clear hA ho
              go_wp2_with fail
              refine (ready_c b0 g0 h0 (x.read N) _ HA0.out).mono ?_
              rintro e w62 ⟨rfl, rfl⟩
              rw [(Cv.ready2 HC.out hN)]
              go_wp2_with fail
              go_ret
              exact ⟨rfl, HK.out.bel⟩)
        · obtain ⟨gg, cap, rfl, hgb, hgl, hcap, hcells⟩ := HR.out.form hL0
          have hLl : (0 : Int) < L.length := by omega
          have hL4 : L.length ≤ 400 := by omega
          by_cases tO : n < len2
          · obtain ⟨bo, oo, rfl, hbo, cO, wO⟩ := HL2.out n tO
            have tO' : (n : Int) < len2 := by omega
            have cO1 := cell_kp HK.out (p := ⟨bo, oo + n, none⟩) hbo cO
            obtain ⟨kk, kO, qO⟩ := pick_nat (Z2 n) (L.length : Int) hLl
            have hkk : kk < L.length := by omega
            clear cO
            obtain ⟨F, hF⟩ : ∃ F : Nat, L[kk]'hkk = (F : Int) := ⟨(L[kk]'hkk).toNat, by have := (HC.out.el _ (List.getElem_mem hkk)).1; omega⟩
            have hck : wr.cell? ⟨gg, kk, none⟩ = some (.int .i64 (F : Nat)) := by rw [hcells kk hkk, hF]
            have HSP : Hid (L.take kk ++ (F : Int) :: L.drop (kk + 1) = L) := Lib.hid (by rw [← hF, ← List.drop_eq_getElem_cons hkk, List.take_append_drop])
            have HCL := Lib.hid hcells
            have HF := Lib.hid hF
            clear hcells hF
            go_wp2_with fail
            refine (pick_v (Z2 n) (L.length : Int) kk _ kO (by omega) (by omega) wO).mono ?_
            rintro e w81 ⟨rfl, rfl⟩
            go_wp2_with fail
            have s1 := slice_head gg L.length cap kk (by omega) hcap
            have s2 := slice_rest gg L.length cap (kk + 1) (by omega) hcap
            obtain ⟨v1, wA1, v2, wA2, eA, eB, hR2, hB2⟩ := cut_rows HR.out hgl HCL.out hcap (by omega) kk hkk
            have f1 : IntKind.i64.wrap ((kk : Int) + 1) = kk + 1 := IntWalk.i64_in _ (by omega)
            obtain ⟨kk1, hk1⟩ : ∃ m, kk + 1 = m := ⟨_, rfl⟩
            have e9 : ((kk1 : Nat) : Int) = kk + 1 := by omega
            rw [hk1] at s2 eB
            simp only [e9] at s2
            have HK1 := Lib.hid (And.intro hkk hk1)
            have HR2 := Lib.hid hR2
            have HBB := Lib.hid hB2
            clear hLl qO HF HCL hcap hk1 e9 hR2 hB2 cO1 hgl hck
            clear hkk
            go_region_held3 (fun _ => True) (exact trivial) (first | (rw [if_pos (by rfl)]; refine Lib.wp_append_run _ (.tmp 70) (.tmp 73) 50 50 rfl _ _ rfl rfl _ _ (eA _) ?_) | (rw [if_pos (by rfl)]; refine Lib.wp_append_run _ (.tmp 74) (.tmp 78) 50 50 rfl _ _ rfl rfl _ _ (eB _) ?_))
            clear eA eB s1 s2 f1
            have hrl := HA0.out.lt
            replace HA0 := Lib.hid (HA0.out.under HBB.out hrl)
            replace HK := Lib.hid (HK.out.under HBB.out HK.out.size)
            have HRn := Lib.hid (Nums.weaken HR2.out hsz)
            replace hsz := Nat.le_trans hsz HBB.out.size
            have HLn : Hid (L.length = (L.take kk ++ L.drop (kk + 1)).length + 1) := Lib.hid (by have := HK1.out.1; simp; omega)
            obtain ⟨L', hL'⟩ : ∃ L', L.take kk ++ L.drop (kk + 1) = L' := ⟨_, rfl⟩
            have hFN : F ≤ N := by
              have := HC.out.el (F : Int) (by rw [← HSP.out]; simp)
              omega
            obtain ⟨to, hto⟩ : ∃ to, min (F + p) N = to := ⟨_, rfl⟩
            have f2 : IntKind.i64.wrap ((F : Int) + p) = F + p := IntWalk.i64_in _ (by omega)
            have hm1 : (if (N : Int) < (F : Int) + p then (N : Int) else (F : Int) + p) = to := by split <;> omega
            have hm2 : (if (F : Int) + p < (N : Int) then (F : Int) + p else (N : Int)) = to := by split <;> omega
            have hsl : ∀ w, (Instr.slice 9 (.string (txtS N)) (some (.int .i64 F)) (some (.int .i64 to)) none).run Tryd.prog w = .ok (.string (cutS F (to - F))) w := fun w => by
              have := slice_txt N F (to - F) (by omega) w
              rwa [show (F : Int) + ((to - F : Nat) : Int) = to by omega] at this
            obtain ⟨z, hz⟩ : ∃ z, ((to : Int) == (N : Int)) = z := ⟨_, rfl⟩
            have HZ : Hid (z = true ↔ to = N) := Lib.hid ⟨fun h => by rw [h] at hz; have := beq_iff_eq.1 hz; omega, fun h => by rw [← hz]; exact beq_iff_eq.2 (by omega)⟩
            have pA : x.putC F (cutS F (to - F)).data.toList z = 0 := by
              rw [HC.out.of.putC F (to - F) z (by omega) (fun h => by have := HZ.out.1 h; omega) (by omega) (by omega), if_neg (by rw [HC.out.pos, HC.out.n]; omega)]
            have HY : Hid (Cv N p L' (x.hold F (cutT txt F (to - F)) z)) := Lib.hid (by rw [← hL']; exact Cv.piece hp (A := L.take kk) (C := L.drop (kk + 1)) (s := (F : Int)) (by rw [HSP.out]; exact HC.out) F to rfl hto.symm z HZ.out)
            obtain ⟨y, hy⟩ : ∃ y, x.hold F (cutT txt F (to - F)) z = y := ⟨_, rfl⟩
            rw [hy] at HY
            rw [hL'] at HRn HLn
            have hyB : x.hold F (cutS F (to - F)).data.toList z = y := by rw [cutS_list]; exact hy
            clear hy hL' HR2 HBB hrl hto HR
            go_wp2_with fail
            refine (put_v b0 g0 h0 w.heap.size x c f r g F (cutS F (to - F)) z _ HA0.out HK.out.snt HK.out.size HB0.out 0 y pA hyB).mono ?_
            rintro e wP ⟨rfl, hA, ho⟩
            replace HA0 := Lib.hid hA
            replace HK := Lib.hid (HK.out.buf HB0.out ho)
            replace HRn := Lib.hid (Nums.keep HRn.out ho (by simp; omega))
            replace hsz := Nat.le_trans hsz ho.size
            clear hA ho pA hyB hsl hm1 hm2 f2
            have fn1 : IntKind.i64.wrap ((n : Int) + 1) = n + 1 := IntWalk.i64_in _ (by omega)
            have hfin : ∀ (wz : World) (yz : Bf), Cv N p L' yz → BufAt wz b0 g0 h0 yz → Kp w.heap.size c f r g w wz → Nums wz w5.heap.size v2 L' → w5.heap.size ≤ wz.heap.size → CRel2 N p b0 g0 h0 c f r g w w5 v2 (.int .i64 ((n : Int) + 1)) wz := fun wz yz q1 q2 q3 q4 q5 => ⟨n + 1, L', yz, by simp, by have := HLn.out; omega, q4, q1, q2, q3, q5⟩
            have HFN := Lib.hid hfin
            have HV : Hid (vlen v2 < L.length) := Lib.hid (by rw [Nums.vlen HRn.out]; have := HLn.out; omega)
            clear hfin
            by_cases tE : n < len3
            · obtain ⟨be, oe, rfl, hbe, cK, cM, wK, wM⟩ := HL3.out n tE
              have tE' : (n : Int) < len3 := by omega
              have cK1 := cell_kp HK.out (p := ⟨be, oe + n * 2, none⟩) hbe cK
              have cM1 := cell_kp HK.out (p := ⟨be, oe + n * 2 + 1, none⟩) hbe cM
              obtain ⟨G, kG, qG⟩ := pick_nat (K n) (N + 1 : Int) (by omega)
              obtain ⟨m, km, qm⟩ := pick_nat (M n) (N - G + 1 : Int) (by omega)
              have g1 : IntKind.i64.wrap ((N : Int) + 1) = N + 1 := IntWalk.i64_in _ (by omega)
              have g2 : IntKind.i64.wrap ((N : Int) - G) = N - G := IntWalk.i64_in _ (by omega)
              have g3 : IntKind.i64.wrap ((N : Int) - G + 1) = N - G + 1 := IntWalk.i64_in _ (by omega)
              have g4 : IntKind.i64.wrap ((G : Int) + m) = G + m := IntWalk.i64_in _ (by omega)
              have hsG := slice_txt N G m (by omega)
              have pB : y.putC G (cutS G m).data.toList false = 0 := by
                rw [HY.out.of.putC G m false (by omega) (fun h => by cases h) (by omega) (by omega), if_neg (by rw [HY.out.pos, HY.out.n]; omega)]
              have hyC : y.hold G (cutS G m).data.toList false = y.hold G (cutT txt G m) false := by rw [cutS_list]
              have HY2 := Lib.hid (HY.out.extra G m (by omega))
              clear cK cM
              go_wp2_with fail
              refine (pick_v (K n) (N + 1 : Int) G _ kG (by omega) (by omega) wK).mono ?_
              rintro e wa ⟨rfl, rfl⟩
              go_wp2_with fail
              refine (pick_v (M n) (N - G + 1 : Int) m _ km (by omega) (by omega) wM).mono ?_
              rintro e wb ⟨rfl, rfl⟩
              go_wp2_with fail
              refine (put_v b0 g0 h0 w.heap.size y c f r g G (cutS G m) false _ HA0.out HK.out.snt HK.out.size HB0.out 0 _ pB hyC).mono ?_
              rintro e wQ ⟨rfl, hA, ho⟩
              replace HA0 := Lib.hid hA
              replace HK := Lib.hid (HK.out.buf HB0.out ho)
              replace HRn := Lib.hid (Nums.keep HRn.out ho (by simp; omega))
              replace hsz := Nat.le_trans hsz ho.size
              clear hA ho pB hyC hsG
              go_wp2_with fail
              exact ⟨HFN.out _ _ HY2.out HA0.out HK.out HRn.out hsz, by simpa [vlen] using HV.out⟩
            · have tE' : ¬ (n : Int) < len3 := by omega
              go_wp2_with fail
              exact ⟨HFN.out _ _ HY.out HA0.out HK.out HRn.out hsz, by simpa [vlen] using HV.out⟩
          · have tO' : ¬ (n : Int) < len2 := by omega
            obtain ⟨kk, hk0⟩ : ∃ kk : Nat, kk = 0 := ⟨0, rfl⟩
            have hkk : kk < L.length := by omega
            obtain ⟨F, hF⟩ : ∃ F : Nat, L[kk]'hkk = (F : Int) := ⟨(L[kk]'hkk).toNat, by have := (HC.out.el _ (List.getElem_mem hkk)).1; omega⟩
            have hck : wr.cell? ⟨gg, 0, none⟩ = some (.int .i64 (F : Nat)) := by have := hcells kk hkk; rw [hF, hk0] at this; exact this
            have HSP : Hid (L.take kk ++ (F : Int) :: L.drop (kk + 1) = L) := Lib.hid (by rw [← hF, ← List.drop_eq_getElem_cons hkk, List.take_append_drop])
            have HCL := Lib.hid hcells
            have HF := Lib.hid hF
            have HK0 := Lib.hid hk0
            clear hcells hF hk0
            go_wp2_with fail
            have s1 := slice_head gg L.length cap kk (by omega) hcap
            have s2 := slice_rest gg L.length cap (kk + 1) (by omega) hcap
            rw [show ((kk : Nat) : Int) = 0 by have := HK0.out; omega] at s1
            rw [show ((kk + 1 : Nat) : Int) = 1 by have := HK0.out; omega] at s2
            obtain ⟨v1, wA1, v2, wA2, eA, eB, hR2, hB2⟩ := cut_rows HR.out hgl HCL.out hcap (by omega) kk hkk
            have f1 : IntKind.i64.wrap 1 = 1 := rfl
            obtain ⟨kk1, hk1⟩ : ∃ m, kk + 1 = m := ⟨_, rfl⟩
            rw [hk1] at s2 eB
            have HK1 := Lib.hid (And.intro hkk hk1)
            have HR2 := Lib.hid hR2
            have HBB := Lib.hid hB2
            clear hLl HF HCL hcap hk1 hR2 hB2 hgl hck
            clear hkk
            go_region_held3 (fun _ => True) (exact trivial) (first | (rw [if_pos (by rfl)]; refine Lib.wp_append_run _ (.tmp 70) (.tmp 73) 50 50 rfl _ _ rfl rfl _ _ (eA _) ?_) | (rw [if_pos (by rfl)]; refine Lib.wp_append_run _ (.tmp 74) (.tmp 78) 50 50 rfl _ _ rfl rfl _ _ (eB _) ?_))
            clear eA eB s1 s2 f1
            have hrl := HA0.out.lt
            replace HA0 := Lib.hid (HA0.out.under HBB.out hrl)
            replace HK := Lib.hid (HK.out.under HBB.out HK.out.size)
            have HRn := Lib.hid (Nums.weaken HR2.out hsz)
            replace hsz := Nat.le_trans hsz HBB.out.size
            have HLn : Hid (L.length = (L.take kk ++ L.drop (kk + 1)).length + 1) := Lib.hid (by have := HK1.out.1; simp; omega)
            obtain ⟨L', hL'⟩ : ∃ L', L.take kk ++ L.drop (kk + 1) = L' := ⟨_, rfl⟩
            have hFN : F ≤ N := by
              have := HC.out.el (F : Int) (by rw [← HSP.out]; simp)
              omega
            obtain ⟨to, hto⟩ : ∃ to, min (F + p) N = to := ⟨_, rfl⟩
            have f2 : IntKind.i64.wrap ((F : Int) + p) = F + p := IntWalk.i64_in _ (by omega)
            have hm1 : (if (N : Int) < (F : Int) + p then (N : Int) else (F : Int) + p) = to := by split <;> omega
            have hm2 : (if (F : Int) + p < (N : Int) then (F : Int) + p else (N : Int)) = to := by split <;> omega
            have hsl : ∀ w, (Instr.slice 9 (.string (txtS N)) (some (.int .i64 F)) (some (.int .i64 to)) none).run Tryd.prog w = .ok (.string (cutS F (to - F))) w := fun w => by
              have := slice_txt N F (to - F) (by omega) w
              rwa [show (F : Int) + ((to - F : Nat) : Int) = to by omega] at this
            obtain ⟨z, hz⟩ : ∃ z, ((to : Int) == (N : Int)) = z := ⟨_, rfl⟩
            have HZ : Hid (z = true ↔ to = N) := Lib.hid ⟨fun h => by rw [h] at hz; have := beq_iff_eq.1 hz; omega, fun h => by rw [← hz]; exact beq_iff_eq.2 (by omega)⟩
            have pA : x.putC F (cutS F (to - F)).data.toList z = 0 := by
              rw [HC.out.of.putC F (to - F) z (by omega) (fun h => by have := HZ.out.1 h; omega) (by omega) (by omega), if_neg (by rw [HC.out.pos, HC.out.n]; omega)]
            have HY : Hid (Cv N p L' (x.hold F (cutT txt F (to - F)) z)) := Lib.hid (by rw [← hL']; exact Cv.piece hp (A := L.take kk) (C := L.drop (kk + 1)) (s := (F : Int)) (by rw [HSP.out]; exact HC.out) F to rfl hto.symm z HZ.out)
            obtain ⟨y, hy⟩ : ∃ y, x.hold F (cutT txt F (to - F)) z = y := ⟨_, rfl⟩
            rw [hy] at HY
            rw [hL'] at HRn HLn
            have hyB : x.hold F (cutS F (to - F)).data.toList z = y := by rw [cutS_list]; exact hy
            clear hy hL' HR2 HBB hrl hto HR
            go_wp2_with fail
            refine (put_v b0 g0 h0 w.heap.size x c f r g F (cutS F (to - F)) z _ HA0.out HK.out.snt HK.out.size HB0.out 0 y pA hyB).mono ?_
            rintro e wP ⟨rfl, hA, ho⟩
            replace HA0 := Lib.hid hA
            replace HK := Lib.hid (HK.out.buf HB0.out ho)
            replace HRn := Lib.hid (Nums.keep HRn.out ho (by simp; omega))
            replace hsz := Nat.le_trans hsz ho.size
            clear hA ho pA hyB hsl hm1 hm2 f2
            have fn1 : IntKind.i64.wrap ((n : Int) + 1) = n + 1 := IntWalk.i64_in _ (by omega)
            have hfin : ∀ (wz : World) (yz : Bf), Cv N p L' yz → BufAt wz b0 g0 h0 yz → Kp w.heap.size c f r g w wz → Nums wz w5.heap.size v2 L' → w5.heap.size ≤ wz.heap.size → CRel2 N p b0 g0 h0 c f r g w w5 v2 (.int .i64 ((n : Int) + 1)) wz := fun wz yz q1 q2 q3 q4 q5 => ⟨n + 1, L', yz, by simp, by have := HLn.out; omega, q4, q1, q2, q3, q5⟩
            have HFN := Lib.hid hfin
            have HV : Hid (vlen v2 < L.length) := Lib.hid (by rw [Nums.vlen HRn.out]; have := HLn.out; omega)
            clear hfin
            by_cases tE : n < len3
            · obtain ⟨be, oe, rfl, hbe, cK, cM, wK, wM⟩ := HL3.out n tE
              have tE' : (n : Int) < len3 := by omega
              have cK1 := cell_kp HK.out (p := ⟨be, oe + n * 2, none⟩) hbe cK
              have cM1 := cell_kp HK.out (p := ⟨be, oe + n * 2 + 1, none⟩) hbe cM
              obtain ⟨G, kG, qG⟩ := pick_nat (K n) (N + 1 : Int) (by omega)
              obtain ⟨m, km, qm⟩ := pick_nat (M n) (N - G + 1 : Int) (by omega)
              have g1 : IntKind.i64.wrap ((N : Int) + 1) = N + 1 := IntWalk.i64_in _ (by omega)
              have g2 : IntKind.i64.wrap ((N : Int) - G) = N - G := IntWalk.i64_in _ (by omega)
              have g3 : IntKind.i64.wrap ((N : Int) - G + 1) = N - G + 1 := IntWalk.i64_in _ (by omega)
              have g4 : IntKind.i64.wrap ((G : Int) + m) = G + m := IntWalk.i64_in _ (by omega)
              have hsG := slice_txt N G m (by omega)
              have pB : y.putC G (cutS G m).data.toList false = 0 := by
                rw [HY.out.of.putC G m false (by omega) (fun h => by cases h) (by omega) (by omega), if_neg (by rw [HY.out.pos, HY.out.n]; omega)]
              have hyC : y.hold G (cutS G m).data.toList false = y.hold G (cutT txt G m) false := by rw [cutS_list]
              have HY2 := Lib.hid (HY.out.extra G m (by omega))
              clear cK cM
              go_wp2_with fail
              refine (pick_v (K n) (N + 1 : Int) G _ kG (by omega) (by omega) wK).mono ?_
              rintro e wa ⟨rfl, rfl⟩
              go_wp2_with fail
              refine (pick_v (M n) (N - G + 1 : Int) m _ km (by omega) (by omega) wM).mono ?_
              rintro e wb ⟨rfl, rfl⟩
              go_wp2_with fail
              refine (put_v b0 g0 h0 w.heap.size y c f r g G (cutS G m) false _ HA0.out HK.out.snt HK.out.size HB0.out 0 _ pB hyC).mono ?_
              rintro e wQ ⟨rfl, hA, ho⟩
              replace HA0 := Lib.hid hA
              replace HK := Lib.hid (HK.out.buf HB0.out ho)
              replace HRn := Lib.hid (Nums.keep HRn.out ho (by simp; omega))
              replace hsz := Nat.le_trans hsz ho.size
              clear hA ho pB hyC hsG
              go_wp2_with fail
              exact ⟨HFN.out _ _ HY2.out HA0.out HK.out HRn.out hsz, by simpa [vlen] using HV.out⟩
            · have tE' : ¬ (n : Int) < len3 := by omega
              go_wp2_with fail
              exact ⟨HFN.out _ _ HY.out HA0.out HK.out HRn.out hsz, by simpa [vlen] using HV.out⟩
end Go.Proofs.YtnnmmmeppbdlnaaDoor
