/- ReassemblyFromFrames: the walk. -/
import Derived.Test.YtgiekhohhogdiaaDoorRhB
import Derived.Test.YtgiekhohhogdiaaDoorArg
import Derived.LoopTactic
import Derived.Deep.CutRange
import Derived.Deep.LoopGhost
import Derived.Lib.AppendZeros
import Derived.Deep.RegionHeld3
namespace Go.Proofs.YtgiekhohhogdiaaDoor
open Go Go.RowKit
set_option linter.unusedVariables false
set_option linter.unusedSectionVars false
set_option linter.unusedSimpArgs false

theorem BufAt.under {w w' : World} {b g1 g2 C : Nat} {x : Bf} (h : BufAt w b g1 g2 x) (ho : Below C w w') (hC : b < C ∧ g1 < C ∧ g2 < C) : BufAt w' b g1 g2 x :=
  ⟨(ho.block _ hC.1).trans h.at_, h.rb.block (ho.block _ hC.2.1), h.rh.block (ho.block _ hC.2.2), h.d1, h.d2, h.d3, h.n1, h.n0, h.p0, h.p1, h.h0, h.h1⟩
theorem Kp.under {B C : Nat} {c f r g : Addr} {w0 w w' : World} (h : Kp B c f r g w0 w) (ho : Below C w w') (hC : B ≤ C) : Kp B c f r g w0 w' :=
  ⟨h.snt.below (ho.mono hC), Nat.le_trans h.size ho.size, h.bel.trans (ho.mono hC)⟩
theorem cell_kp {B : Nat} {c f r g : Addr} {w wr : World} (h : Kp B c f r g w wr) {p : Addr} (hp : p.block < B) {v : Value} (hv : w.cell? p = some v) : wr.cell? p = some v := (h.bel.cell hp).trans hv
theorem nxt_le (N p j q : Nat) (hp : 1 ≤ p) (hq : j * p = q) (hj : (j - 1) * p < N ∨ j ≤ 1) (t1 : q < N ∨ q = 0) : (j + 1 - 1) * p < N ∨ j + 1 ≤ 1 := by
  rw [Nat.add_sub_cancel, hq]
  rcases t1 with t | t
  · exact .inl t
  · right
    rcases Nat.eq_zero_or_pos j with e | e
    · omega
    · have : 1 * 1 ≤ j * p := Nat.mul_le_mul e hp
      omega

/-- append of one string that lies in a new block. -/
theorem Strs.push {w : World} {base : Nat} {v : Value} {L : List ByteArray} (h : Strs w base v L) (s : ByteArray) (hs : L.length ≤ 9000) (hb : base ≤ w.heap.size) :
    ∃ v' w', (∀ ty, (Builtin.append_ #[34, 34] ty #[v, .slice (some ⟨w.heap.size, 0, none⟩) 1 1]).run Tryd.prog (w.alloc (.cells #[.string s] 9)) = .ok v' w') ∧ Strs w' base v' (L ++ [s]) ∧ Below base w w' := by
  have h2 : Strs (w.alloc (.cells #[.string s] 9)) base v L := h.keep ((Only.refl [] w).alloc _) (by simp)
  obtain ⟨v', w', e1, e2, e3⟩ := h2.append ⟨w.heap.size, 0, none⟩ [s] 1 (fun j hj => by
    have hj0 : j = 0 := by simpa using hj
    subst hj0
    exact cell_one_at w _ rfl (.string s) _ 0 _ rfl) (by simp; omega) (by simp; omega)
  exact ⟨v', w', e1, e2, ((Below.refl base w).alloc hb _).grown e3 (by simp; omega) (fun j e => (World.ownsRow.lt h j e).1)⟩
theorem Strs.shape {w : World} {base : Nat} {v : Value} {L : List ByteArray} (h : Strs w base v L) : ∃ a cap, v = .slice a L.length cap := by
  rcases h.2 with ⟨rfl, h2⟩ | ⟨g, cap, cur, rfl, _⟩
  · rw [h2]; exact ⟨_, _, rfl⟩
  · exact ⟨_, _, rfl⟩
theorem pcs_of {N p j q : Nat} (hp : 1 ≤ p) (hq : j * p = q) (h1 : ¬ (q < N ∨ q = 0)) (h2 : (j - 1) * p < N ∨ j ≤ 1) : Pcs N p j := by
  have hj : 1 ≤ j := by
    rcases Nat.eq_zero_or_pos j with e | e
    · rw [e] at hq; omega
    · exact e
  exact ⟨hp, hj, by omega, by omega⟩
theorem pcs_J {N p J : Nat} (h : Pcs N p J) (hN : N ≤ 400) : J ≤ 401 := by
  have hp := h.p1
  have : (J - 1) * 1 ≤ (J - 1) * p := Nat.mul_le_mul_left (J - 1) hp
  rcases h.dn with a | a <;> omega
def FRel1 (N p b0 g0 h0 : Nat) (c f r g : Addr) (w w5 : World) (v i : Value) (wr : World) : Prop := ∃ j q : Nat, j * p = q ∧ i = .int .i64 q ∧ FrRow wr w5.heap.size v (xsL N p (List.range j)) ∧ ((j - 1) * p < N ∨ j ≤ 1) ∧ BufAt wr b0 g0 h0 (Bf.new 401) ∧ Kp w.heap.size c f r g w wr ∧ Below w5.heap.size w5 wr
def FRel2 (N p J b0 g0 h0 : Nat) (c f r g : Addr) (w w6 : World) (v i : Value) (wr : World) : Prop := ∃ (k : Nat) (L : List (List Nat)), i = .int .i64 k ∧ k ≤ J + 3 ∧ L.length ≤ k ∧ Strs wr w6.heap.size v (L.map (eD N p)) ∧ Dg J (min k J) L ∧ BufAt wr b0 g0 h0 (Bf.new 401) ∧ Kp w.heap.size c f r g w wr ∧ Below w6.heap.size w6 wr
def FRel3 (N p J b0 g0 h0 : Nat) (c f r g : Addr) (w w6 : World) (v i : Value) (wr : World) : Prop := ∃ (k : Nat) (L : List (List Nat)), i = .int .i64 k ∧ k ≤ 20 ∧ L.length ≤ 410 + k ∧ 0 < L.length ∧ Strs wr w6.heap.size v (L.map (eD N p)) ∧ Dg J J L ∧ BufAt wr b0 g0 h0 (Bf.new 401) ∧ Kp w.heap.size c f r g w wr ∧ w6.heap.size ≤ wr.heap.size
def FRel4 (N p J b0 g0 h0 : Nat) (c f r g : Addr) (w w6 : World) (v i : Value) (wr : World) : Prop := ∃ (k : Nat) (L : List (List Nat)) (x : Bf), i = .int .i64 k ∧ k + L.length ≤ 500 ∧ Strs wr w6.heap.size v (L.map (eD N p)) ∧ (∀ d ∈ L, d ≠ [] ∧ d.length ≤ 3) ∧ Dv N p J L x ∧ BufAt wr b0 g0 h0 x ∧ Kp w.heap.size c f r g w wr ∧ w6.heap.size ≤ wr.heap.size
def FRel5 (N p J b0 g0 h0 : Nat) (c f r g : Addr) (w w6 w9 : World) (v2 : Value) (d : List Nat) (L : List (List Nat)) (i : Value) (wr : World) : Prop := ∃ (k : Nat) (x : Bf), i = .int .i64 k ∧ k ≤ d.length ∧ Strs wr w6.heap.size v2 (L.map (eD N p)) ∧ Dv N p J (d.drop k :: L) x ∧ BufAt wr b0 g0 h0 x ∧ Kp w.heap.size c f r g w wr ∧ w6.heap.size ≤ wr.heap.size ∧ Only [b0, g0, h0] w9 wr
def fixF (N p q : Nat) : Prop := True
set_option maxRecDepth 100000 in
set_option maxHeartbeats 12000000 in
theorem frames_walk (a0 a1 a2 : Int) (a3 : Option Addr) (len3 cap3 : Nat) (Z3 : Nat → Int) (w : World) (v0 : (Lit.int .i64 a0).wf = true) (v1 : (Lit.int .i64 a1).wf = true) (v2 : (Lit.int .i64 a2).wf = true) (hl3 : Ints .i64 w a3 len3 Z3) (c f r g : Addr) (hS : Snt w.heap.size c f r g w) :
    Calls Tryd.prog 3 #[.int .i64 a0, .int .i64 a1, .int .i64 a2, .slice a3 len3 cap3] w fun e w' => e = .returned (.bool true) ∧ Below w.heap.size w w' := by
  obtain ⟨N, k0, q0⟩ := pick_nat a0 401 (by omega)
  obtain ⟨p0, k1, q1⟩ := pick_nat a1 60 (by omega)
  obtain ⟨m0, k2, q2⟩ := pick_nat a2 3 (by omega)
  obtain ⟨p, e0⟩ : ∃ p, p0 + 1 = p := ⟨_, rfl⟩
  obtain ⟨m, e9⟩ : ∃ m, m0 + 1 = m := ⟨_, rfl⟩
  have hN : N ≤ 400 := by omega
  have hp : 1 ≤ p := by omega
  have hp2 : p ≤ 60 := by omega
  have hm1 : 1 ≤ m := by omega
  have hm3 : m ≤ 3 := by omega
  have HL3 := Lib.hid hl3; clear hl3
  have HK : Hid (Kp w.heap.size c f r g w w) := Lib.hid (Kp.start hS); clear hS
  have z1 := txtS_size N
  have e1 : IntKind.i64.wrap (1 + (p0 : Int)) = p := by rw [show (1 : Int) + p0 = p by omega]; exact IntWalk.i64_in _ (by omega)
  have e2 : IntKind.i64.wrap (1 + (m0 : Int)) = m := by rw [show (1 : Int) + m0 = m by omega]; exact IntWalk.i64_in _ (by omega)
  go_enter Tryd.func3, Tryd.ntmps3
  go_wp2_with fail
  refine (sane_c w.heap.size c f r g w _ HK.out).mono ?_
  rintro e w1 ⟨rfl, hK⟩
  replace HK := Lib.hid hK
  clear hK
  go_wp2_with fail
  refine (pick_v a0 401 N _ k0 (by omega) (by omega) v0).mono ?_
  rintro e w2 ⟨rfl, rfl⟩
  go_wp2_with fail
  refine (txt_c N (by omega) _).mono ?_
  rintro e w3 ⟨rfl, ho⟩
  replace HK := Lib.hid (HK.out.none ho)
  clear ho
  go_wp2_with fail
  refine (pick_v a1 60 p0 _ k1 (by omega) (by omega) v1).mono ?_
  rintro e w4 ⟨rfl, rfl⟩
  go_wp2_with fail
  refine (pick_v a2 3 m0 _ k2 (by omega) (by omega) v2).mono ?_
  rintro e w4 ⟨rfl, rfl⟩
  go_wp2_with fail
  refine (new_c 401 _ (by omega) (by omega)).mono ?_
  rintro e w5 ⟨b0, g0, h0, rfl, hA, ho, q0, q1, q2⟩
  have HA0 : Hid (BufAt w5 b0 g0 h0 (Bf.new 401)) := Lib.hid hA
  have HB0 : Hid (w.heap.size ≤ b0 ∧ w.heap.size ≤ g0 ∧ w.heap.size ≤ h0) := Lib.hid (by have := HK.out.size; omega)
  replace HK := Lib.hid (HK.out.none ho)
  clear hA ho q0 q1 q2
  go_wp2_with fail
  have hlb := HA0.out.lt
  have hw5 := HK.out.size
  go_loopw [13, 14] (fun v i wr => FRel1 N p b0 g0 h0 c f r g w w5 v i wr) (fun _ i _ => 1000 - (intOf i).toNat)
  case atStart => exact ⟨0, 0, by omega, rfl, FrRow.nil _ _, .inr (by omega), HA0.out, HK.out, Below.refl _ _⟩
  case round =>
    obtain ⟨j, q, hq, rfl, hR, hj, hA0, hK, hB5⟩ := hrel
    replace HA0 := Lib.hid hA0
    replace HK := Lib.hid hK
    have HR := Lib.hid hR
    have HB5 := Lib.hid hB5
    clear hA0 hK hR hB5
    by_cases t1 : q < N ∨ q = 0
    · have hq3 : q ≤ 400 := by omega
      have hj3 : j ≤ 400 := by
        have : j * 1 ≤ j * p := Nat.mul_le_mul_left j hp
        omega
      have f1 : IntKind.i64.wrap ((q : Int) + p) = q + p := IntWalk.i64_in _ (by omega)
      have h5s := HB5.out.size
      obtain ⟨tz, hto⟩ : ∃ tz, pcE N p (j * p) = tz := ⟨_, rfl⟩
      have hto2 : min (q + p) N = tz := by rw [← hto, hq]; rfl
      have hm1' : (if (N : Int) < (q : Int) + p then (N : Int) else (q : Int) + p) = tz := by split <;> omega
      have hm0' : min ((q : Int) + p) (N : Int) = tz := by omega
      have hm2' : (if (q : Int) + p < (N : Int) then (q : Int) + p else (N : Int)) = tz := by split <;> omega
      have hsl : ∀ w, (Instr.slice 9 (.string (txtS N)) (some (.int .i64 q)) (some (.int .i64 tz)) none).run Tryd.prog w = .ok (.string (cutS q (tz - q))) w := fun w => by
        have := slice_txt N q (tz - q) (by omega) w
        rwa [show (q : Int) + ((tz - q : Nat) : Int) = tz by omega] at this
      obtain ⟨z, hz⟩ : ∃ z, ((tz : Int) == (N : Int)) = z := ⟨_, rfl⟩
      have hzf : (pf N p j).fin = z := by
        show decide (pcE N p (j * p) = N) = z
        rw [← hz, hto]
        by_cases e : tz = N
        · rw [e]; simp
        · rw [decide_eq_false e]; symm; rw [beq_eq_false_iff_ne]; omega
      have hfs : strB (pf N p j).S = cutS q (tz - q) := by show strB (cutT txt (j * p) (pcE N p (j * p) - j * p)) = _; rw [hto, hq]; rfl
      obtain ⟨v', wn, eA, hG, hBp, hkp⟩ := HR.out.push (pf N p j) nilV (pf_ok N p j wr hp2 (by omega)) (fun h => absurd rfl h) (by rw [xsL_len, List.length_range]; omega) h5s
      have eA2 : ∀ ty, (Builtin.append_ #[30, 30] ty #[u13, .slice (some ⟨wr.heap.size, 0, none⟩) 1 1]).run Tryd.prog (wr.alloc (.cells #[.int .i64 8, .int .i64 4, .int .i64 (q : Nat), .string (cutS q (tz - q)), .bool z, .int .i64 0, .int .i64 0, .bool false, .int .i64 0, .slice none 0 0, .int .i64 0, .int .i64 0, .string ⟨#[]⟩] 33)) = .ok v' wn := fun ty => by
        have := eA ty
        unfold frC at this
        rw [hfs, hzf] at this
        rw [← hq]
        rw [← hq] at this
        exact this
      obtain ⟨va, vc, rfl⟩ := HR.out.shape
      have hRn : FrRow wn w5.heap.size v' (xsL N p (List.range (j + 1))) := by rw [xsL_snoc]; exact hG
      have hBn : Below w5.heap.size w5 wn := HB5.out.trans hBp
      have HREL : Hid (FRel1 N p b0 g0 h0 c f r g w w5 v' (.int .i64 ((q : Int) + p)) wn) := Lib.hid ⟨j + 1, q + p, by rw [Nat.succ_mul, hq], by simp, hRn, nxt_le N p j q hp hq hj t1, HA0.out.under hBp hlb, HK.out.under hBp hw5, hBn⟩
      have hlen0 : (xsL N p (List.range j)).length = j := by rw [xsL_len, List.length_range]
      rw [hlen0] at eA2
      simp only [hlen0]
      clear hG hBp hkp hRn hBn hfs hzf eA hto hto2
      by_cases t2 : (q : Int) < N
      · go_upto_region 13 with fail
        go_wp2_with (at_builtin; refine Lib.wpList_append_run _ rfl _ _ _ _ rfl _ _ rfl rfl _ _ (eA2 _) ?_)
        exact ⟨HREL.out, by simp [intOf]; omega⟩
      · have t3 : ((q : Int) == 0) = true := by rcases t1 with t | t <;> simp <;> omega
        have hto3 : tz = N := by rw [if_pos (by omega)] at hm1'; omega
        subst hto3
        have hz1 : z = true := by rw [← hz]; simp
        subst hz1
        clear hm1' hm2' hz
        go_upto_region 13 with fail
        go_wp2_with (at_builtin; refine Lib.wpList_append_run _ rfl _ _ _ _ rfl _ _ rfl rfl _ _ (eA2 _) ?_)
        exact ⟨HREL.out, by simp [intOf]; omega⟩
    · have t2 : ¬ (q : Int) < N := by omega
      have t3 : ((q : Int) == 0) = false := Bool.eq_false_iff.2 (fun h => by have := beq_iff_eq.1 h; omega)
      have hP := pcs_of hp hq t1 hj
      have hJ := pcs_J hP hN
      have HP := Lib.hid hP
      have hj1 := hP.j1
      have hsz := HB5.out.size
      obtain ⟨gf, cf, rfl, _, hgl, hcf, hcells⟩ := HR.out.form (by rw [xsL_len, List.length_range]; omega)
      have HCF := Lib.hid hcells
      rw [xsL_len, List.length_range] at hcf
      simp only [xsL_len, List.length_range]
      clear hcells hP t1 hj hq HR HB5
      obtain ⟨w6, hw6⟩ : ∃ x, x = wr := ⟨_, rfl⟩
      subst hw6
      go_wp2_with fail
      go_loopw [16, 17] (fun v i wz => FRel2 N p j b0 g0 h0 c f r g w w6 v i wz) (fun _ i _ => 1000 - (intOf i).toNat)
      case atStart => exact ⟨0, [], rfl, by omega, by simp, World.ownsRow_nil _ _ _ _, by simpa using Dg.nil j, HA0.out, HK.out, Below.refl _ _⟩
      case round =>
        obtain ⟨i, L, rfl, hi3, hLi, hR, hD, hA0, hK, hB6⟩ := hrel
        replace HA0 := Lib.hid hA0
        replace HK := Lib.hid hK
        have HR := Lib.hid hR
        have HD := Lib.hid hD
        have HB6 := Lib.hid hB6
        clear hA0 hK hR hB6 hD
        obtain ⟨vL, hvL⟩ : ∃ vL, L.map (eD N p) = vL := ⟨_, rfl⟩
        have hlv : vL.length = L.length := by rw [← hvL]; simp
        rw [hvL] at HR
        by_cases t4 : i < j
        · have t4' : (i : Int) < j := by omega
          obtain ⟨e, he⟩ : ∃ e, min (i + m) j = e := ⟨_, rfl⟩
          have hie : i < e := by omega
          have hej : e ≤ j := by omega
          have f1 : IntKind.i64.wrap ((i : Int) + m) = i + m := IntWalk.i64_in _ (by omega)
          have hmA : (if (j : Int) < (i : Int) + m then (j : Int) else (i : Int) + m) = e := by split <;> omega
          have hmC : min ((i : Int) + m) (j : Int) = e := by omega
          have hmB : (if (i : Int) + m < (j : Int) then (i : Int) + m else (j : Int)) = e := by split <;> omega
          have hsf := slice_fr gf j cf i e hie hej hcf
          have hSl := sl_chunk (cf - i) hp2 hN HP.out hgl HCF.out HB6.out hie hej
          have hdd : ∀ x ∈ List.range' i (e - i), x * p ≤ 400 := fun x hx => by
            have := List.mem_range'_1.1 hx
            have := HP.out.le (q := x) (by omega)
            omega
          have hdl : (List.range' i (e - i)).length ≤ 3 := by rw [List.length_range']; omega
          have HSl := Lib.hid hSl
          have HDN : Hid (Dg j e (L ++ [List.range' i (e - i)])) := Lib.hid (by have := HD.out; rw [Nat.min_eq_left (by omega)] at this; exact this.next hie (by omega) hej)
          have HIE := Lib.hid (And.intro hie (And.intro hej he))
          obtain ⟨dd, hdd2⟩ : ∃ dd, List.range' i (e - i) = dd := ⟨_, rfl⟩
          obtain ⟨o1, ho1⟩ : ∃ o, i * 13 = o := ⟨_, rfl⟩
          obtain ⟨n1, hn1⟩ : ∃ o, e - i = o := ⟨_, rfl⟩
          obtain ⟨c1, hc1⟩ : ∃ o, cf - i = o := ⟨_, rfl⟩
          rw [hdd2] at hdd hdl HSl HDN
          rw [ho1, hn1, hc1] at hsf HSl
          clear hSl hie hej he ho1 hn1 hc1 hdd2 HD
          go_wp2_with fail
          refine (enc_chunk N p dd _ _ hp2 hdd hdl HSl.out).mono ?_
          rintro e7 w7 ⟨rfl, ho⟩
          have HR7 := Lib.hid (HR.out.keep ho (by simp))
          have hB7 : Below w6.heap.size w6 w7 := HB6.out.trans (ho.below (by simp) HB6.out.size)
          replace HA0 := Lib.hid (HA0.out.keep ho (by simp) (by simp) (by simp))
          replace HK := Lib.hid (HK.out.none ho)
          have h7s := hB7.size
          obtain ⟨v', wn, eA, hG, hBp⟩ := HR7.out.push (eD N p dd) (by omega) h7s
          have HREL : Hid (FRel2 N p j b0 g0 h0 c f r g w w6 v' (.int .i64 ((i : Int) + m)) wn) := Lib.hid ⟨i + m, L ++ [dd], by simp, by omega, by simp; omega, by rw [List.map_append, hvL]; exact hG, by rw [HIE.out.2.2]; exact HDN.out, HA0.out.under hBp (by omega), HK.out.under hBp (by omega), hB7.trans hBp⟩
          obtain ⟨va, vc, rfl⟩ : ∃ va vc, u16 = .slice va vL.length vc := HR7.out.shape
          clear hG hBp hB7 ho HR HR7 HSl hdd hdl hlv hvL
          go_wp2_with (at_builtin; refine Lib.wpList_append_run _ rfl _ _ _ _ rfl _ _ rfl rfl _ _ (eA _) ?_)
          exact ⟨HREL.out, by simp [intOf]; omega⟩
        · have t4' : ¬ (i : Int) < j := by omega
          have HD2 : Hid (Dg j j L) := Lib.hid (by have := HD.out; rwa [Nat.min_eq_right (by omega)] at this)
          have hL0 : 0 < L.length := by
            obtain ⟨d, hd, _⟩ := HD2.out.cov 0 (by omega)
            exact List.length_pos_of_mem hd
          have h6s := HB6.out.size
          have HST := Lib.hid (And.intro hLi hi3)
          obtain ⟨va, vc, rfl⟩ : ∃ va vc, u16 = .slice va vL.length vc := HR.out.shape
          clear HD HB6 hLi hlv
          go_wp2_with fail
          go_loopw [16, 20] (fun v i wr => FRel3 N p j b0 g0 h0 c f r g w w6 v i wr) (fun _ i _ => 30 - (intOf i).toNat)
          case atStart => exact ⟨0, L, rfl, by omega, by have := HST.out; omega, hL0, by rw [hvL]; exact HR.out, HD2.out, HA0.out, HK.out, h6s⟩
          case round =>
            clear HA0 HK HR HD2 HST hL0 h6s t4' hvL
            obtain ⟨n, L3, rfl, hn20, hL3, hL30, hR, hD, hA0, hK, hsz3⟩ := hrel
            replace HA0 := Lib.hid hA0
            replace HK := Lib.hid hK
            have HR := Lib.hid hR
            have HD := Lib.hid hD
            clear hA0 hK hR hD
            obtain ⟨sL, hsL⟩ : ∃ sL, L3.map (eD N p) = sL := ⟨_, rfl⟩
            have hls : sL.length = L3.length := by rw [← hsL]; simp
            rw [hsL] at HR
            by_cases tO : n < len3 ∧ n < 20
            · obtain ⟨tO1, tO2⟩ := tO
              obtain ⟨bo, oo, rfl, hbo, cO, wO⟩ := HL3.out n tO1
              have tO1' : (n : Int) < len3 := by omega
              have tO2' : (n : Int) < 20 := by omega
              have cO1 := cell_kp HK.out (p := ⟨bo, oo + n, none⟩) hbo cO
              obtain ⟨kk, kO, qO⟩ := pick_nat (Z3 n) (sL.length : Int) (by omega)
              have hkk : kk < sL.length := by omega
              obtain ⟨gg, cap, hv16, hgb, hgg, hcap, hcells⟩ := HR.out.form (by omega)
              subst hv16
              have hkL : kk < L3.length := by omega
              have hck : wr.cell? ⟨gg, kk, none⟩ = some (.string (eD N p (L3[kk]'hkL))) := by rw [hcells kk hkk]; congr 2; simp [← hsL]
              obtain ⟨v', wn, eA, hG, hBp⟩ := HR.out.push (eD N p (L3[kk]'hkL)) (by omega) hsz3
              obtain ⟨s9, hs9⟩ : ∃ s9, eD N p (L3[kk]'hkL) = s9 := ⟨_, rfl⟩
              have fn1 : IntKind.i64.wrap ((n : Int) + 1) = n + 1 := IntWalk.i64_in _ (by omega)
              have HREL : Hid (FRel3 N p j b0 g0 h0 c f r g w w6 v' (.int .i64 ((n : Int) + 1)) wn) := Lib.hid ⟨n + 1, L3 ++ [L3[kk]'hkL], by simp, by omega, by simp; omega, by simp, by rw [List.map_append, hsL]; exact hG, HD.out.again kk hkL, HA0.out.under hBp (by omega), HK.out.under hBp (by omega), Nat.le_trans hsz3 hBp.size⟩
              have hsl4 : sL.length ≤ 500 := by omega
              rw [hs9] at hck eA
              clear cO hG hBp hs9 HR hcells hls hL30
              go_wp2_with fail
              refine (pick_v (Z3 n) (sL.length : Int) kk _ kO (by omega) (by omega) wO).mono ?_
              rintro e w81 ⟨rfl, rfl⟩
              go_wp2_with (at_builtin; refine Lib.wpList_append_run _ rfl _ _ _ _ rfl _ _ rfl rfl _ _ (eA _) ?_)
              exact ⟨HREL.out, by simp [intOf]; omega⟩
            · have HV := Lib.hid (And.intro hL3 hn20)
              have HX : Hid (Dv N p j L3 (Bf.new 401)) := Lib.hid (Dv.start HP.out HD.out)
              have HE : Hid (∀ d ∈ L3, d ≠ [] ∧ d.length ≤ 3) := Lib.hid (fun d hd => ⟨(HD.out.el d hd).1, (HD.out.el d hd).2.1⟩)
              obtain ⟨va, vc, rfl⟩ : ∃ va vc, u16 = .slice va sL.length vc := HR.out.shape
              have tAB : ((n : Int) < len3 ∧ ¬ (n : Int) < 20) ∨ (¬ (n : Int) < len3) := by omega
              have HR3 : Hid (Strs wr w6.heap.size (.slice va sL.length vc) (L3.map (eD N p))) := Lib.hid (by rw [hsL]; exact HR.out)
              clear HD tO hL3 hL30 hls hsL HR
              go_upto_region 23 with fail
              go_cut [107] from 100 to 122 (fun s wx => wr = wx ∧ s = .bool false)
              case first =>
                rcases tAB with ⟨tA, tB⟩ | tA
                all_goals (
                  go_wp2_with fail
                  go_meet
                  exact ⟨rfl, rfl⟩)
              case rest =>
                obtain ⟨rfl, rfl⟩ := hcut
                clear tAB
                go_wp2_with fail
                go_loopw [16, 21] (fun v i wr => FRel4 N p j b0 g0 h0 c f r g w w6 v i wr) (fun v _ _ => vlen v)
                case atStart => exact ⟨0, L3, _, rfl, by have := HV.out; omega, HR3.out, HE.out, HX.out, HA0.out, HK.out, hsz3⟩
                case round =>
                  clear HA0 HK HR3 HX HE HV hn20 hsz3
                  obtain ⟨n, L, x, rfl, hnl, hR, hE, hX, hA0, hK, hsz⟩ := hrel
                  replace HA0 := Lib.hid hA0
                  replace HK := Lib.hid hK
                  have HR := Lib.hid hR
                  have HE := Lib.hid hE
                  have HX := Lib.hid hX
                  clear hA0 hK hR hE hX
                  obtain ⟨sL, hsL⟩ : ∃ sL, L.map (eD N p) = sL := ⟨_, rfl⟩
                  have hls : sL.length = L.length := by rw [← hsL]; simp
                  rw [hsL] at HR
                  rcases Nat.eq_zero_or_pos L.length with hL0 | hL0
                  · have HX0 : Hid (Dv N p j [] x) := Lib.hid (by have h := HX.out; rw [List.eq_nil_of_length_eq_zero hL0] at h; exact h)
                    have hs0 : sL.length = 0 := by omega
                    have hv : u16 = .slice none 0 0 ∨ ∃ g' cap', u16 = .slice (some ⟨g', 0, none⟩) 0 cap' := by
                      rcases HR.out.2 with ⟨h1, _⟩ | ⟨g', cap', cur, h1, _⟩
                      · exact .inl h1
                      · rw [hs0] at h1; exact .inr ⟨g', cap', h1⟩
                    have hpr : x.pos + (N : Nat) ≤ 1099511627776 := by rw [HX0.out.pos]; omega
                    obtain ⟨N1, hN1⟩ : ∃ a, N + 1 = a := ⟨_, rfl⟩
                    have fN : IntKind.i64.wrap ((N : Int) + 1) = N1 := by rw [IntWalk.i64_in _ (by omega)]; omega
                    have hmn : x.many (N1 : Int) = N := by rw [← hN1]; exact Dv.many HX0.out hN
                    clear hL0 hs0 hls hsL HR HE HX
                    rcases hv with rfl | ⟨g', cap', rfl⟩
                    all_goals (
                      go_wp2_with fail
                      refine (read_v b0 g0 h0 x _ HA0.out (N1 : Int) N (txtS N) true (x.read N) hmn (Dv.out HX0.out hN) (Dv.last HX0.out hN) rfl hpr).mono ?_
                      rintro e w61 ⟨rfl, hA, ho⟩
                      replace HK := Lib.hid (HK.out.buf HB0.out ho)
                      clear hA ho
                      go_wp2_with fail
                      go_ret
                      exact ⟨rfl, HK.out.bel⟩)
                  · obtain ⟨gg, cap, rfl, hgb, hgl, hcap, hcells⟩ := HR.out.form (by omega)
                    have hLl : (0 : Int) < sL.length := by omega
                    have hL4 : sL.length ≤ 500 := by omega
                    have HLL := Lib.hid (And.intro hls hsL)
                    have HCC := Lib.hid hcells
                    have HLP := Lib.hid (And.intro hL0 (And.intro hnl hcap))
                    clear hls hsL hcells hL0 hnl hcap
                    go_upto_if 131 with fail
                    go_cut [22] from 123 to 195 (fun s wx => wr = wx ∧ ∃ kk : Nat, kk < sL.length ∧ s = .int .i64 kk)
                    case first =>
                      by_cases tO : n < len3
                      · obtain ⟨bo, oo, rfl, hbo, cO, wO⟩ := HL3.out n tO
                        have tO' : (n : Int) < len3 := by omega
                        have cO1 := cell_kp HK.out (p := ⟨bo, oo + n, none⟩) hbo cO
                        obtain ⟨kk, kO, qO⟩ := pick_nat (Z3 n) (sL.length : Int) hLl
                        have hkk : kk < sL.length := by omega
                        clear cO
                        go_wp2_with fail
                        refine (pick_v (Z3 n) (sL.length : Int) kk _ kO (by omega) (by omega) wO).mono ?_
                        rintro e w81 ⟨rfl, rfl⟩
                        go_wp2_with fail
                        go_meet
                        exact ⟨rfl, kk, hkk, rfl⟩
                      · have tO' : ¬ (n : Int) < len3 := by omega
                        go_wp2_with fail
                        go_meet
                        exact ⟨rfl, 0, by omega, rfl⟩
                    case rest =>
                      obtain ⟨rfl, kk, hkk, rfl⟩ := hcut
                      have hls := HLL.out.1
                      have hsL := HLL.out.2
                      have hcells := HCC.out
                      have hL0 := HLP.out.1
                      have hnl := HLP.out.2.1
                      have hcap := HLP.out.2.2
                      clear HLL HCC HLP
                      have s1 := slice_head gg sL.length cap kk (by omega) hcap
                      have s2 := slice_rest gg sL.length cap (kk + 1) (by omega) hcap
                      have f1 : IntKind.i64.wrap ((kk : Int) + 1) = kk + 1 := IntWalk.i64_in _ (by omega)
                      obtain ⟨kk1, hk1⟩ : ∃ m, kk + 1 = m := ⟨_, rfl⟩
                      have e9 : ((kk1 : Nat) : Int) = kk + 1 := by omega
                      rw [hk1] at s2
                      simp only [e9] at s2
                      clear e9
                      have hck := hcells kk hkk
                      have hkL : kk < L.length := by omega
                      obtain ⟨d, hd⟩ : ∃ d, L[kk]'hkL = d := ⟨_, rfl⟩
                      have hsd : sL[kk]'hkk = eD N p d := by rw [← hd]; simp [← hsL]
                      rw [hsd] at hck
                      have HSP : Hid (L.take kk ++ d :: L.drop (kk + 1) = L) := Lib.hid (by rw [← hd, ← List.drop_eq_getElem_cons hkL, List.take_append_drop])
                      have hdm : d ∈ L := by rw [← hd]; exact List.getElem_mem hkL
                      obtain ⟨hd0, hd3⟩ := HE.out d hdm
                      have hdd : ∀ x ∈ d, x * p ≤ 400 := fun q hq => by have := HP.out.le (HX.out.el d hdm q hq); omega
                      have hd1 : 0 < d.length := List.length_pos_iff.2 hd0
                      obtain ⟨s9, hs9⟩ : ∃ s9, eD N p d = s9 := ⟨_, rfl⟩
                      have HDC : ∀ w, Calls Tryd.prog 9 #[.string s9] w fun e w' => ∃ v xs, e = .returned (.tuple #[v, .int .i64 0]) ∧ FrRow w' w.heap.size v xs ∧ xs.map Prod.fst = d.map (pf N p) ∧ Only [] w w' := fun w => by rw [← hs9]; exact dec_chunk N p d w hp2 hdd hd3
                      rw [hs9] at hck
                      obtain ⟨L', hL'⟩ : ∃ L', L.take kk ++ L.drop (kk + 1) = L' := ⟨_, rfl⟩
                      have HX2 : Hid (Dv N p j (d :: L') x) := Lib.hid (by rw [← hL']; exact Dv.front (by rw [HSP.out]; exact HX.out))
                      have HE2 : Hid (∀ d ∈ L', d ≠ [] ∧ d.length ≤ 3) := Lib.hid (fun t ht => HE.out t (by rw [← HSP.out]; rw [← hL'] at ht; simp only [List.mem_append, List.mem_cons] at ht ⊢; rcases ht with a | a <;> simp [a]))
                      have hLn : L.length = L'.length + 1 := by rw [← hL']; simp; omega
                      have hmap : sL.take kk ++ sL.drop (kk + 1) = L'.map (eD N p) := by rw [← hL', ← hsL, List.map_append, List.map_take, List.map_drop]
                      have HML := Lib.hid (And.intro hmap (And.intro hLn (And.intro hnl hd3)))
                      have HCL := Lib.hid hcells
                      have HLS := Lib.hid hls
                      clear hcells hsd hd hdm hdd hd0 hs9 hL' hLn hmap HX HE hnl hsL hkL hL0 hls
                      go_wp2_with fail
                      refine (HDC _).mono ?_
                      rintro e w82 ⟨lv, xs, rfl, hFr, hxs, ho⟩
                      have h82 := ho.size
                      replace HA0 := Lib.hid (HA0.out.keep ho (by simp) (by simp) (by simp))
                      replace HK := Lib.hid (HK.out.none ho)
                      replace HR := Lib.hid (HR.out.keep ho (by simp))
                      have HCL2 : Hid (∀ j (hj : j < sL.length), w82.cell? ⟨gg, j, none⟩ = some (.string (sL[j]'hj))) := Lib.hid (fun j hj => (ho.cell (p := ⟨gg, j, none⟩) hgl (by simp)).trans (HCL.out j hj))
                      obtain ⟨g2, o2, cap2, rfl, hg2b, hg2, hdc⟩ := dec_cells hFr hxs hd1
                      have HDL := Lib.hid hdc
                      have hd1' : ((d.length : Int) == 0) = false := Bool.eq_false_iff.2 (fun h => by have := beq_iff_eq.1 h; omega)
                      have hgl2 : gg < w82.heap.size := by omega
                      clear hdc hFr hxs ho HDC hck HCL
                      go_wp2_with fail
                      obtain ⟨v1, wA1, v2, wA2, eA, eB, hR2, hB2⟩ := cut_rows HR.out hgl2 HCL2.out hcap (by omega) kk hkk
                      rw [hk1] at eB
                      have HR2 := Lib.hid hR2
                      have HBB := Lib.hid hB2
                      have HKK := Lib.hid (And.intro hkk (And.intro hk1 hd1))
                      clear hLl hcap hR2 hB2 hgl hgl2 hkk hk1 hd1 HR HCL2 hd1'
                      go_region_held3 (fun _ => True) (exact trivial) (first | (rw [if_pos (by rfl)]; refine Lib.wp_append_run _ (.tmp 154) (.tmp 157) 34 34 rfl _ _ rfl rfl _ _ (eA _) ?_) | (rw [if_pos (by rfl)]; refine Lib.wp_append_run _ (.tmp 158) (.tmp 162) 34 34 rfl _ _ rfl rfl _ _ (eB _) ?_))
                      clear eA eB s1 s2 f1
                      replace HA0 := Lib.hid (HA0.out.below HBB.out (Nat.le_refl _))
                      replace HK := Lib.hid (HK.out.under HBB.out HK.out.size)
                      have HRn : Hid (Strs wA2 w6.heap.size v2 (L'.map (eD N p))) := Lib.hid (by rw [← HML.out.1]; exact Strs.weaken HR2.out (by omega))
                      have HDL2 : Hid (∀ k (hk : k < d.length), wA2.cell? ⟨g2, o2 + k * 13 + 1, none⟩ = some (.int .i64 4) ∧ wA2.cell? ⟨g2, o2 + k * 13 + 2, none⟩ = some (.int .i64 ((d[k]'hk * p : Nat) : Int)) ∧ wA2.cell? ⟨g2, o2 + k * 13 + 3, none⟩ = some (.string (strB (pf N p (d[k]'hk)).S)) ∧ wA2.cell? ⟨g2, o2 + k * 13 + 4, none⟩ = some (.bool (pf N p (d[k]'hk)).fin)) := Lib.hid (fun k hk => by
                        have h := HDL.out k hk
                        exact ⟨(HBB.out.cell (p := ⟨g2, o2 + k * 13 + 1, none⟩) hg2).trans h.1, (HBB.out.cell (p := ⟨g2, o2 + k * 13 + 2, none⟩) hg2).trans h.2.1, (HBB.out.cell (p := ⟨g2, o2 + k * 13 + 3, none⟩) hg2).trans h.2.2.1, (HBB.out.cell (p := ⟨g2, o2 + k * 13 + 4, none⟩) hg2).trans h.2.2.2⟩)
                      have hszA : w6.heap.size ≤ wA2.heap.size := by have := HBB.out.size; omega
                      have hgA : g2 < wA2.heap.size := by have := HBB.out.size; omega
                      have hgN : b0 ≠ g2 ∧ g0 ≠ g2 ∧ h0 ≠ g2 := by omega
                      have HV2 : Hid (vlen v2 = L'.length) := Lib.hid (by rw [Strs.vlen HRn.out]; simp)
                      obtain ⟨wB, hwB⟩ : ∃ wB, wA2 = wB := ⟨_, rfl⟩
                      clear HR2 HDL HBB
                      go_wp2_with fail
                      go_loopw [25] (fun i wy => FRel5 N p j b0 g0 h0 c f r g w w6 wA2 v2 d L' i wy) (fun i _ => 10 - (intOf i).toNat)
                      case atStart => exact ⟨0, x, rfl, by omega, HRn.out, by simpa using HX2.out, HA0.out, HK.out, hszA, Only.refl _ _⟩
                      case round =>
                        clear HA0 HK HRn HX2 hszA
                        obtain ⟨k, y, rfl, hkd, hR, hY, hA0, hK, hsz5, ho9⟩ := hrel
                        replace HA0 := Lib.hid hA0
                        replace HK := Lib.hid hK
                        have HR := Lib.hid hR
                        have HY := Lib.hid hY
                        have HO9 := Lib.hid ho9
                        clear hA0 hK hR hY ho9
                        have fk : IntKind.i64.wrap ((k : Int) + 1) = k + 1 := IntWalk.i64_in _ (by have := HML.out.2.2.2; omega)
                        by_cases tk : k < d.length
                        · have tk' : (k : Int) < d.length := by omega
                          obtain ⟨q, hq⟩ : ∃ q, d[k]'tk = q := ⟨_, rfl⟩
                          have h4 := HDL2.out k tk
                          rw [hq] at h4
                          have hn2 : g2 ∉ [b0, g0, h0] := by simp; omega
                          have c1 := (HO9.out.cell (p := ⟨g2, o2 + k * 13 + 1, none⟩) hgA hn2).trans h4.1
                          have c2 := (HO9.out.cell (p := ⟨g2, o2 + k * 13 + 2, none⟩) hgA hn2).trans h4.2.1
                          have c3 := (HO9.out.cell (p := ⟨g2, o2 + k * 13 + 3, none⟩) hgA hn2).trans h4.2.2.1
                          have c4 := (HO9.out.cell (p := ⟨g2, o2 + k * 13 + 4, none⟩) hgA hn2).trans h4.2.2.2
                          have hDr : d.drop k = q :: d.drop (k + 1) := by rw [← hq]; exact List.drop_eq_getElem_cons tk
                          have HYq : Hid (Dv N p j ((q :: d.drop (k + 1)) :: L') y) := Lib.hid (by rw [← hDr]; exact HY.out)
                          have pA := Dv.put HP.out hN HYq.out
                          have HYn := Lib.hid (Dv.piece HP.out HYq.out)
                          obtain ⟨qp, hqp⟩ : ∃ qp, q * p = qp := ⟨_, rfl⟩
                          obtain ⟨sq, hsq⟩ : ∃ sq, strB (pf N p q).S = sq := ⟨_, rfl⟩
                          obtain ⟨fq, hfq⟩ : ∃ fq, (pf N p q).fin = fq := ⟨_, rfl⟩
                          rw [hqp] at c2 pA HYn
                          rw [hsq] at c3 pA HYn
                          rw [hfq] at c4 pA HYn
                          obtain ⟨yn, hyn⟩ : ∃ yn, y.hold (qp : Nat) sq.data.toList fq = yn := ⟨_, rfl⟩
                          rw [hyn] at HYn
                          clear h4 hq hqp hsq hfq hDr HY HYq
                          go_wp2_with fail
                          have hgW : g2 < wr.heap.size := Nat.lt_of_lt_of_le hgA HO9.out.size
                          have HAd : Hid (BufAt wr.drew b0 g0 h0 y) := Lib.hid (HA0.out.keep (S := []) (Only.drew (Only.refl _ _)) (by simp) (by simp) (by simp))
                          have HKd : Hid (Kp w.heap.size c f r g w wr.drew) := Lib.hid (HK.out.none (Only.drew (Only.refl _ _)))
                          have HRd : Hid (Strs wr.drew w6.heap.size v2 (L'.map (eD N p))) := Lib.hid (HR.out.keep (S := []) (Only.drew (Only.refl _ _)) (by simp))
                          have HOd : Hid (Only [b0, g0, h0] wA2 wr.drew) := Lib.hid (Only.drew HO9.out)
                          have hszd : w6.heap.size ≤ wr.drew.heap.size := hsz5
                          have hgW2 : g2 < wr.drew.heap.size := hgW
                          have hbl : ∀ t ∈ [b0, g0, h0], t < w6.heap.size := by simp; omega
                          have HPB := Lib.hid hbl
                          clear HA0 HK HR HO9 hbl
                          go_region_held3 (fun w' => w'.cell? ⟨g2, o2 + k * 13 + 1, none⟩ = some (.int .i64 4) ∧ w'.cell? ⟨g2, o2 + k * 13 + 2, none⟩ = some (.int .i64 (qp : Nat)) ∧ w'.cell? ⟨g2, o2 + k * 13 + 3, none⟩ = some (.string sq) ∧ w'.cell? ⟨g2, o2 + k * 13 + 4, none⟩ = some (.bool fq)) (first | exact ⟨d1, d2, d3, d4⟩ | exact ⟨c1, c2, c3, c4⟩) ((go_at_call 10; refine (put_v b0 g0 h0 w.heap.size y c f r g (qp : Nat) sq fq _ (by exact HAd.out) (by exact HKd.out.snt) (by exact HKd.out.size) HB0.out 0 yn pA hyn).mono ?_; rintro e wP ⟨rfl, hA, ho⟩; have d1 := (ho.cell (p := ⟨g2, o2 + k * 13 + 1, none⟩) hgW2 hn2).trans c1; have d2 := (ho.cell (p := ⟨g2, o2 + k * 13 + 2, none⟩) hgW2 hn2).trans c2; have d3 := (ho.cell (p := ⟨g2, o2 + k * 13 + 3, none⟩) hgW2 hn2).trans c3; have d4 := (ho.cell (p := ⟨g2, o2 + k * 13 + 4, none⟩) hgW2 hn2).trans c4; have HAn := Lib.hid hA; have HKn := Lib.hid (HKd.out.buf HB0.out ho); have HRn := Lib.hid (HRd.out.keep ho HPB.out); have HOn := Lib.hid (HOd.out.trans ho); have hszn := Nat.le_trans hszd ho.size; clear hA ho))
                          go_wp2_with fail
                          exact ⟨⟨k + 1, yn, by simp, by omega, HRn.out, HYn.out, HAn.out, HKn.out, hszn, HOn.out⟩, by simp [intOf]; omega⟩
                        · have tk' : ¬ (k : Int) < d.length := by omega
                          obtain rfl : k = d.length := by omega
                          have HYd : Hid (Dv N p j L' y) := Lib.hid (Dv.done (by have := HY.out; rwa [List.drop_length] at this))
                          have fn1 : IntKind.i64.wrap ((n : Int) + 1) = n + 1 := IntWalk.i64_in _ (by have := HML.out.2.2.1; omega)
                          go_wp2_with fail
                          exact ⟨⟨n + 1, L', y, by simp, by have := HML.out; omega, HR.out, HE2.out, HYd.out, HA0.out, HK.out, hsz5⟩, by have h1 := HV2.out; have h2 := HML.out.2.1; have h3 := HLS.out; show vlen v2 < sL.length; omega⟩
end Go.Proofs.YtgiekhohhogdiaaDoor
