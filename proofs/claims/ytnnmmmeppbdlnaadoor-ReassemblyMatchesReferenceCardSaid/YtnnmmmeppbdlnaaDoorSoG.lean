/- ReassemblyMatchesReference: the walk. -/
import Derived.Test.YtnnmmmeppbdlnaaDoorSoF
import Derived.Test.YtnnmmmeppbdlnaaDoorArD
import Derived.Test.YtnnmmmeppbdlnaaDoorSnR
import Derived.Test.YtnnmmmeppbdlnaaDoorSnW
import Derived.StillTailTactics
import Derived.Deep.RegionHeld3
namespace Go.Proofs.YtnnmmmeppbdlnaaDoor
open Go Go.RowKit
set_option linter.unusedVariables false
set_option linter.unusedSectionVars false
set_option linter.unusedSimpArgs false

theorem slice_q (s : ByteArray) (q : Nat) (h : q ≤ s.size) (w : World) : (Instr.slice 9 (.string s) none (some (.int .i64 q)) none).run Tryd.prog w = .ok (.string (s.extract 0 q)) w := by
  rw [run_slice_string_to_if w 9 s .i64 q Tryd.underlying9, if_pos (by omega)]; rfl
/-- Both buffers hold x. -/
structure Both (w0 w : World) (b g h xb : Nat) (c f r g0 : Addr) (x : Bf) : Prop where
  a : BufAt w b g h x
  m : Mi x
  k : Kp w0.heap.size c f r g0 w0 w
  lo : w0.heap.size ≤ b ∧ w0.heap.size ≤ g ∧ w0.heap.size ≤ h ∧ w0.heap.size ≤ xb
  ne : xb ≠ b ∧ xb ≠ g ∧ xb ≠ h
  x : ∃ xg xh c1 c2, XBuf w xb xg xh c1 c2 x ∧ w0.heap.size ≤ xg ∧ w0.heap.size ≤ xh ∧ (xg ≠ b ∧ xg ≠ g ∧ xg ≠ h) ∧ (xh ≠ b ∧ xh ≠ g ∧ xh ≠ h)
section
variable {w0 w w' : World} {b g h xb : Nat} {c f r g0 : Addr} {x y : Bf}
theorem Both.none (H : Both w0 w b g h xb c f r g0 x) (ho : Only [] w w') : Both w0 w' b g h xb c f r g0 x := by
  obtain ⟨a, m, k, lo, ne, xg, xh, c1, c2, hx, l1, l2, n1, n2⟩ := H
  exact ⟨a.keep ho (by simp) (by simp) (by simp), m, k.none ho, lo, ne, xg, xh, c1, c2, hx.keep ho (by simp) (by simp) (by simp), l1, l2, n1, n2⟩
/-- A change of a block that is none of theirs. -/
theorem Both.other (H : Both w0 w b g h xb c f r g0 x) {z : Nat} (hz : w.heap.size ≤ z) {w1 : World} (h1 : Only [] w w1) (ho : Only [z] w1 w') : Both w0 w' b g h xb c f r g0 x := by
  refine H.none ⟨ho.os.trans h1.os, ho.tape.trans h1.tape, ho.output.trans h1.output, Nat.le_trans h1.size ho.size, fun k hk hn => ?_⟩
  rw [ho.block k (Nat.lt_of_lt_of_le hk h1.size) (by simp; omega), h1.block k hk hn]
end
def MRel (w : World) (b g h xb : Nat) (c f r g0 : Addr) (len : Nat) (i : Value) (wr : World) : Prop := ∃ (k : Nat) (x : Bf), i = .int .i64 k ∧ k ≤ len ∧ Both w wr b g h xb c f r g0 x
set_option maxRecDepth 100000 in
set_option maxHeartbeats 8000000 in
theorem match_walk (a0 : Int) (a : Option Addr) (len cap : Nat) (V : Nat → Sp) (w : World) (v0 : (Lit.int .i64 a0).wf = true) (hl : Steps w a len V) (c f r g0 : Addr) (hS : Snt w.heap.size c f r g0 w) :
    Calls Tryd.prog 3 #[.int .i64 a0, .slice a len cap] w fun e w' => e = .returned (.bool true) ∧ Below w.heap.size w w' := by
  have HL := Lib.hid hl; clear hl
  have HK : Hid (Kp w.heap.size c f r g0 w w) := Lib.hid (Kp.start hS); clear hS
  by_cases hr : a0 < 1 ∨ 8192 < a0
  · go_enter Tryd.func3, Tryd.ntmps3
    go_wp2_with fail
    refine (sane_c w.heap.size c f r g0 w _ HK.out).mono ?_
    rintro e w1 ⟨rfl, hK⟩
    replace HK := Lib.hid hK
    clear hK
    go_wp2_with fail
    refine (new_bad a0 _ hr).mono ?_
    rintro e w2 ⟨rfl, rfl⟩
    go_wp2_with fail
    refine (xnew_bad a0 _ hr).mono ?_
    rintro e w3 ⟨rfl, rfl⟩
    clear hr
    go_wp2_with fail
    go_ret
    exact ⟨rfl, HK.out.bel⟩
  obtain ⟨n, rfl⟩ : ∃ n : Nat, a0 = n := ⟨a0.toNat, by omega⟩
  have hn1 : 1 ≤ n := by omega
  have hn2 : n ≤ 8192 := by omega
  clear hr v0
  go_enter Tryd.func3, Tryd.ntmps3
  go_wp2_with fail
  refine (sane_c w.heap.size c f r g0 w _ HK.out).mono ?_
  rintro e w1 ⟨rfl, hK⟩
  replace HK := Lib.hid hK
  clear hK
  go_wp2_with fail
  refine (new_c n _ hn1 hn2).mono ?_
  rintro e w2 ⟨b, g, h, rfl, hA, ho, q0, q1, q2⟩
  have HA := Lib.hid hA
  have HB := Lib.hid (And.intro q0 (And.intro q1 q2))
  have hsz := HK.out.size
  replace HK := Lib.hid (HK.out.none ho)
  clear hA ho q0 q1 q2
  go_wp2_with fail
  refine (xnew_c n _ hn1 hn2).mono ?_
  rintro e w3 ⟨xb, xg, xh, rfl, hX, ho, q0, q1, q2⟩
  have HH : Hid (Both w w3 b g h xb c f r g0 (Bf.new n)) := Lib.hid (by
    have hb := HB.out
    have hl := HA.out.lt
    exact ⟨HA.out.keep ho (by simp) (by simp) (by simp), Mi.new n, HK.out.none ho, by omega, by omega, xg, xh, n, n, hX, by omega, by omega, by omega, by omega⟩)
  clear hX ho q0 q1 q2 HA HB hsz HK
  go_wp2_with fail
  go_loopw [10] (fun i wr => MRel w b g h xb c f r g0 len i wr) (fun i _ => len - (intOf i).toNat)
  case atStart => exact ⟨0, _, rfl, by omega, HH.out⟩
  case round =>
    obtain ⟨k, x, rfl, hk, hH⟩ := hrel
    clear HH hn1 hn2
    have HH := Lib.hid hH
    clear hH
    by_cases t1 : k < len ∧ k < 40
    · obtain ⟨t2, t3⟩ := t1
      have t2' : (k : Int) < len := by omega
      have t3' : (k : Int) < 40 := by omega
      obtain ⟨bb, off, rfl, hbb, hc, wn, wo, ws⟩ := HL.out k t2
      have hc0 := hc 0 (by omega)
      have hc1 := hc 1 (by omega)
      have hc2 := hc 2 (by omega)
      have hc3 := hc 3 (by omega)
      have hc4 := hc 4 (by omega)
      clear hc
      generalize V k = v at *
      obtain ⟨rd, N, O, s, fl⟩ := v
      have cc0 : wr.cell? ⟨bb, off + k * 5, none⟩ = some (.bool rd) := cell_kp HH.out.k (p := ⟨bb, off + k * 5, none⟩) hbb hc0
      have cc1 : wr.cell? ⟨bb, off + k * 5 + 1, none⟩ = some (.int .i64 N) := cell_kp HH.out.k (p := ⟨bb, off + k * 5 + 1, none⟩) hbb hc1
      have cc2 : wr.cell? ⟨bb, off + k * 5 + 2, none⟩ = some (.int .i64 O) := cell_kp HH.out.k (p := ⟨bb, off + k * 5 + 2, none⟩) hbb hc2
      have cc3 : wr.cell? ⟨bb, off + k * 5 + 3, none⟩ = some (.string s) := cell_kp HH.out.k (p := ⟨bb, off + k * 5 + 3, none⟩) hbb hc3
      have cc4 : wr.cell? ⟨bb, off + k * 5 + 4, none⟩ = some (.bool fl) := cell_kp HH.out.k (p := ⟨bb, off + k * 5 + 4, none⟩) hbb hc4
      clear hc0 hc1 hc2 hc3 hc4
      have f5 : IntKind.i64.wrap ((k : Int) + 1) = k + 1 := IntWalk.i64_in _ (by omega)
      cases rd with
      | true =>
        have hwN := wf_i64 wn
        obtain ⟨C, hC⟩ : ∃ C, x.many N = C := ⟨_, rfl⟩
        have hCr : C ≤ x.ready := by rw [← hC]; exact (x.many_le N).1
        obtain ⟨o, hO⟩ : ∃ o, strB (x.out C) = o := ⟨_, rfl⟩
        obtain ⟨z, hZ⟩ : ∃ z, x.last C = z := ⟨_, rfl⟩
        obtain ⟨y, hY⟩ : ∃ y, x.read C = y := ⟨_, rfl⟩
        have HC := Lib.hid (And.intro hC (And.intro hO (And.intro hZ hY)))
        have HM : Hid (Mi y) := Lib.hid (by rw [← hY]; exact HH.out.m.read C)
        have HPC : Hid (x.pos + C ≤ 1099511627776) := Lib.hid (HH.out.m.many HH.out.a.p1 C hCr)
        clear hwN hC hO hZ hY hCr
        have zz : (z != z) = false := bne_self_eq_false _
        go_wp2_with fail
        have hy5 : At (wr.alloc (.cells (spCells ⟨true, N, O, s, fl⟩) 32)) wr.heap.size 32 (spCells ⟨true, N, O, s, fl⟩) := At.new wr _ _
        obtain ⟨hA, hM, hK, hlo, hne, xg0, xh0, c10, c20, hX, l1, l2, n1, n2⟩ := HH.out
        have hyn : Hid ((wr.heap.size ≠ b ∧ wr.heap.size ≠ g ∧ wr.heap.size ≠ h) ∧ wr.heap.size ≠ xb) := Lib.hid (by
          have := hA.lt
          have := hX.lt
          omega)
        have o5 : Only [] wr (wr.alloc (.cells (spCells ⟨true, N, O, s, fl⟩) 32)) := (Only.refl _ _).alloc _
        have hA5 := Lib.hid (hA.keep o5 (by simp) (by simp) (by simp))
        have hX5 := Lib.hid (hX.keep o5 (by simp) (by simp) (by simp))
        have hK5 := Lib.hid (hK.none o5)
        have HLO0 : Hid ((w.heap.size ≤ b ∧ w.heap.size ≤ g ∧ w.heap.size ≤ h ∧ w.heap.size ≤ xb) ∧ (xb ≠ b ∧ xb ≠ g ∧ xb ≠ h) ∧ w.heap.size ≤ xg0 ∧ w.heap.size ≤ xh0 ∧ (xg0 ≠ b ∧ xg0 ≠ g ∧ xg0 ≠ h) ∧ (xh0 ≠ b ∧ xh0 ≠ g ∧ xh0 ≠ h)) := Lib.hid ⟨hlo, hne, l1, l2, n1, n2⟩
        clear hA hM hK hlo hne hX l1 l2 n1 n2 o5 HH cc0 cc1 cc2 cc3 cc4
        have e5 : wr.alloc (.cells #[.bool true, .int .i64 N, .int .i64 O, .string s, .bool fl] 32) = wr.alloc (.cells (spCells ⟨true, N, O, s, fl⟩) 32) := rfl
        rw [e5]
        clear e5
        generalize wr.alloc (.cells (spCells ⟨true, N, O, s, fl⟩) 32) = w5 at *
        generalize wr.heap.size = ya at *
        have HY5 := Lib.hid hy5
        clear hy5 wn wo ws
        refine (read_v b g h x _ hA5.out N C o z y HC.out.1 HC.out.2.1 HC.out.2.2.1 HC.out.2.2.2 HPC.out).mono ?_
        rintro e w6 ⟨rfl, hA, ho⟩
        have HA := Lib.hid hA
        have hX6 := Lib.hid (hX5.out.keep ho (by have := HLO0.out; simp; omega) (by have := HLO0.out; simp; omega) (by have := HLO0.out; simp; omega))
        have HK := Lib.hid (hK5.out.buf ⟨HLO0.out.1.1, HLO0.out.1.2.1, HLO0.out.1.2.2.1⟩ ho)
        have hy6 := HY5.out.keep ho (by have := hyn.out; simp; omega)
        have cy6 : w6.cell? ⟨ya, 1, none⟩ = some (.int .i64 N) := hy6.cell 1 rfl
        clear hy6 hA ho hA5 hX5 hK5 HY5
        go_wp2_with fail
        refine (xread_v xb xg0 xh0 c10 c20 x _ hX6.out N C o z y HC.out.1 HC.out.2.1 HC.out.2.2.1 HC.out.2.2.2 HPC.out).mono ?_
        rintro e w7 ⟨xg, xh, c1, c2, rfl, hX, ho, q1, q2⟩
        have HX := Lib.hid hX
        have HLO : Hid ((w.heap.size ≤ b ∧ w.heap.size ≤ g ∧ w.heap.size ≤ h ∧ w.heap.size ≤ xb) ∧ (xb ≠ b ∧ xb ≠ g ∧ xb ≠ h) ∧ w.heap.size ≤ xg ∧ w.heap.size ≤ xh ∧ (xg ≠ b ∧ xg ≠ g ∧ xg ≠ h) ∧ (xh ≠ b ∧ xh ≠ g ∧ xh ≠ h)) := Lib.hid (by have := HLO0.out; have := HA.out.lt; have := HK.out.size; omega)
        replace HA := Lib.hid (HA.out.keep ho (by have := HLO0.out; simp; omega) (by have := HLO0.out; simp; omega) (by have := HLO0.out; simp; omega))
        replace HK := Lib.hid (HK.out.only ho (by have := HLO0.out; simp; omega))
        clear hX ho q1 q2 hX6 HLO0 cy6 hyn HC HPC
        go_wp2_with fail
        refine (final_c b g h y _ HA.out).mono ?_
        rintro e w8 ⟨rfl, hA, ho⟩
        replace HA := Lib.hid hA
        replace HX := Lib.hid (HX.out.keep ho (by simp) (by simp) (by simp))
        replace HK := Lib.hid (HK.out.none ho)
        clear hA ho
        go_wp2_with fail
        refine (xfinal_c xb xg xh c1 c2 y _ HX.out).mono ?_
        rintro e w9 ⟨rfl, rfl⟩
        have hfin : (if y.kn then y.fin else 0) = y.fin := by
          cases hkn : y.kn with
          | true => rfl
          | false => rw [HM.out.f0 hkn]; rfl
        rw [hfin]
        clear hfin
        have x1 := HX.out.q1
        have x4 := HX.out.q4
        have z1 : (y.pos != y.pos) = false := bne_self_eq_false _
        have z2 : ((y.ready : Int) != y.ready) = false := bne_self_eq_false _
        have z3 : (y.hi != y.hi) = false := bne_self_eq_false _
        have z4 : (y.fin != y.fin) = false := bne_self_eq_false _
        have z5 : (y.kn != y.kn) = false := bne_self_eq_false _
        go_wp2_with fail
        go_quiet (first | (go_at_call 20; refine Calls.quiet_of_same ((offset_c b g h y _ (HA.out.drewN _)).mono fun _ _ h => ⟨h.1, h.2.symm⟩)) | (go_at_call 21; refine Calls.quiet_of_same ((ready_c b g h y _ (HA.out.drewN _)).mono fun _ _ h => ⟨h.1, h.2.symm⟩)) | (go_at_call 23; refine Calls.quiet_of_same ((highest_c b g h y _ (HA.out.drewN _)).mono fun _ _ h => ⟨h.1, h.2.symm⟩)) | (go_at_call 22; refine Calls.quiet_of_same ((xready_c xb xg xh c1 c2 y _ (HX.out.keep (S := []) ((Only.refl _ _).drewN _) (by simp) (by simp) (by simp))).mono fun _ _ h => ⟨h.1, h.2.symm⟩)))
        go_wp2_with fail
        exact ⟨⟨k + 1, y, by simp, by omega, (Both.mk HA.out HM.out HK.out HLO.out.1 HLO.out.2.1 ⟨xg, xh, c1, c2, HX.out, HLO.out.2.2⟩ : Both w _ b g h xb c f r g0 y).none ((Only.refl _ _).drewN _)⟩, by simp [intOf]; omega⟩
      | false =>
        obtain ⟨q, hq, hq3, hm1, hm2, hm3, hm4⟩ : ∃ q : Nat, q ≤ s.size ∧ q ≤ 300 ∧ (if (300 : Int) < (s.size : Int) then (300 : Int) else (s.size : Int)) = q ∧ (if (s.size : Int) < (300 : Int) then (s.size : Int) else (300 : Int)) = q ∧ (if (s.size : Int) ≤ (300 : Int) then (s.size : Int) else (300 : Int)) = q ∧ (if (300 : Int) ≤ (s.size : Int) then (300 : Int) else (s.size : Int)) = q :=
          ⟨min s.size 300, by omega, by omega, by split <;> omega, by split <;> omega, by split <;> omega, by split <;> omega⟩
        have hsl := slice_q s q hq
        obtain ⟨t, ht⟩ : ∃ t, s.extract 0 q = t := ⟨_, rfl⟩
        rw [ht] at hsl
        have ht2 : t.size = q := by rw [← ht, ByteArray.size_extract]; omega
        clear ht
        go_wp2_with fail
        have hy5 : At (wr.alloc (.cells (spCells ⟨false, N, O, t, fl⟩) 32)) wr.heap.size 32 (spCells ⟨false, N, O, t, fl⟩) := At.new wr _ _
        obtain ⟨hA, hM, hK, hlo, hne, xg, xh, c1, c2, hX, l1, l2, n1, n2⟩ := HH.out
        have hyn : Hid ((wr.heap.size ≠ b ∧ wr.heap.size ≠ g ∧ wr.heap.size ≠ h) ∧ wr.heap.size ≠ xb ∧ wr.heap.size ≠ xg ∧ wr.heap.size ≠ xh) := Lib.hid (by
          have := hA.lt
          have := hX.lt
          omega)
        have o5 : Only [] wr (wr.alloc (.cells (spCells ⟨false, N, O, t, fl⟩) 32)) := (Only.refl _ _).alloc _
        have hA5 := Lib.hid (hA.keep o5 (by simp) (by simp) (by simp))
        have hX5 := Lib.hid (hX.keep o5 (by simp) (by simp) (by simp))
        have hK5 := Lib.hid (hK.none o5)
        have HLO : Hid ((w.heap.size ≤ b ∧ w.heap.size ≤ g ∧ w.heap.size ≤ h ∧ w.heap.size ≤ xb) ∧ (xb ≠ b ∧ xb ≠ g ∧ xb ≠ h) ∧ w.heap.size ≤ xg ∧ w.heap.size ≤ xh ∧ (xg ≠ b ∧ xg ≠ g ∧ xg ≠ h) ∧ (xh ≠ b ∧ xh ≠ g ∧ xh ≠ h)) := Lib.hid ⟨hlo, hne, l1, l2, n1, n2⟩
        have HM0 := Lib.hid hM
        clear hA hM hK hlo hne hX l1 l2 n1 n2 o5 HH cc0 cc1 cc2 cc3 cc4
        have e5 : wr.alloc (.cells #[.bool false, .int .i64 N, .int .i64 O, .string t, .bool fl] 32) = wr.alloc (.cells (spCells ⟨false, N, O, t, fl⟩) 32) := rfl
        rw [e5]
        clear e5
        generalize wr.alloc (.cells (spCells ⟨false, N, O, t, fl⟩) 32) = w5 at *
        generalize wr.heap.size = ya at *
        have hwo := wf_i64 wo
        obtain ⟨A, hPA⟩ : ∃ A, x.putC O t.data.toList fl = A := ⟨_, rfl⟩
        obtain ⟨y, hPY⟩ : ∃ y, (bif A == 0 then x.hold O t.data.toList fl else x) = y := ⟨_, rfl⟩
        have HM : Hid (Mi y) := Lib.hid (HM0.out.put O _ fl A y hPA hPY)
        have HP := Lib.hid (And.intro hPA hPY)
        have zA : (A != A) = false := bne_self_eq_false _
        clear hPA hPY HM0
        have hs5 : w5.cell? ⟨ya, 2, none⟩ = some (.int .i64 O) ∧ w5.cell? ⟨ya, 3, none⟩ = some (.string t) ∧ w5.cell? ⟨ya, 4, none⟩ = some (.bool fl) := ⟨hy5.cell 2 rfl, hy5.cell 3 rfl, hy5.cell 4 rfl⟩
        have HY5 := Lib.hid hy5
        clear hy5
        have HWO := Lib.hid hwo
        clear hwo wn wo ws ht2 hm1 hm2 hm3 hm4 hsl hq hq3
        have hA5d : Hid (BufAt w5.drew b g h x) := Lib.hid (hA5.out.keep (S := []) (Only.refl _ _).drew (by simp) (by simp) (by simp))
        have hK5d : Hid (Kp w.heap.size c f r g0 w w5.drew) := Lib.hid (hK5.out.none (Only.refl _ _).drew)
        have hX5d : Hid (XBuf w5.drew xb xg xh c1 c2 x) := Lib.hid (hX5.out.keep (S := []) (Only.refl _ _).drew (by simp) (by simp) (by simp))
        have HY5d : Hid (At w5.drew ya 32 (spCells ⟨false, N, O, t, fl⟩)) := Lib.hid HY5.out.drew
        clear hA5 hK5 hX5 HY5
        go_region_held3 (fun w' => w'.cell? ⟨ya, 2, none⟩ = some (.int .i64 O) ∧ w'.cell? ⟨ya, 3, none⟩ = some (.string t) ∧ w'.cell? ⟨ya, 4, none⟩ = some (.bool fl)) (first | exact hs7 | exact hs6 | exact hs5) (first | (go_at_call 16; refine (put_v b g h w.heap.size x c f r g0 O t fl _ (by exact hA5d.out) (by exact hK5d.out.snt) (by exact hK5d.out.size) ⟨HLO.out.1.1, HLO.out.1.2.1, HLO.out.1.2.2.1⟩ A y HP.out.1 HP.out.2).mono ?_; rintro e w6 ⟨rfl, hA, ho⟩; have hA6 := Lib.hid hA; have hX6 := Lib.hid (hX5d.out.keep ho (by have := HLO.out; simp; omega) (by have := HLO.out; simp; omega) (by have := HLO.out; simp; omega)); have hK6 := Lib.hid (hK5d.out.buf ⟨HLO.out.1.1, HLO.out.1.2.1, HLO.out.1.2.2.1⟩ ho); have hy6 := HY5d.out.keep ho (by have := hyn.out; simp; omega); have hs6 : w6.cell? ⟨ya, 2, none⟩ = some (.int .i64 O) ∧ w6.cell? ⟨ya, 3, none⟩ = some (.string t) ∧ w6.cell? ⟨ya, 4, none⟩ = some (.bool fl) := ⟨hy6.cell 2 rfl, hy6.cell 3 rfl, hy6.cell 4 rfl⟩; have HY6 := Lib.hid hy6; clear hy6 hA ho) | (go_at_call 17; refine (xput_v xb xg xh c1 c2 x O t fl _ (by exact hX6.out) HWO.out A y HP.out.1 HP.out.2).mono ?_; rintro e w7 ⟨rfl, hX, ho⟩; have HX := Lib.hid hX; have HA := Lib.hid (hA6.out.keep ho (by have := HLO.out; simp; omega) (by have := HLO.out; simp; omega) (by have := HLO.out; simp; omega)); have HK := Lib.hid (hK6.out.only ho (by have := HLO.out; simp; omega)); have hy7 := HY6.out.keep ho (by have := hyn.out; simp; omega); have hs7 : w7.cell? ⟨ya, 2, none⟩ = some (.int .i64 O) ∧ w7.cell? ⟨ya, 3, none⟩ = some (.string t) ∧ w7.cell? ⟨ya, 4, none⟩ = some (.bool fl) := ⟨hy7.cell 2 rfl, hy7.cell 3 rfl, hy7.cell 4 rfl⟩; clear hy7 hX ho))
        clear hs5 hs6 hs7 hA5d hA6 hX5d hX6 hK5d hK6 HY5d HY6 hyn HP HWO
        go_wp2_with fail
        refine (final_c b g h y _ HA.out).mono ?_
        rintro e w8 ⟨rfl, hA, ho⟩
        replace HA := Lib.hid hA
        replace HX := Lib.hid (HX.out.keep ho (by simp) (by simp) (by simp))
        replace HK := Lib.hid (HK.out.none ho)
        clear hA ho
        go_wp2_with fail
        refine (xfinal_c xb xg xh c1 c2 y _ HX.out).mono ?_
        rintro e w9 ⟨rfl, rfl⟩
        have hfin : (if y.kn then y.fin else 0) = y.fin := by
          cases hkn : y.kn with
          | true => rfl
          | false => rw [HM.out.f0 hkn]; rfl
        rw [hfin]
        clear hfin
        have x1 := HX.out.q1
        have x4 := HX.out.q4
        have z1 : (y.pos != y.pos) = false := bne_self_eq_false _
        have z2 : ((y.ready : Int) != y.ready) = false := bne_self_eq_false _
        have z3 : (y.hi != y.hi) = false := bne_self_eq_false _
        have z4 : (y.fin != y.fin) = false := bne_self_eq_false _
        have z5 : (y.kn != y.kn) = false := bne_self_eq_false _
        go_wp2_with fail
        go_quiet (first | (go_at_call 20; refine Calls.quiet_of_same ((offset_c b g h y _ (HA.out.drewN _)).mono fun _ _ h => ⟨h.1, h.2.symm⟩)) | (go_at_call 21; refine Calls.quiet_of_same ((ready_c b g h y _ (HA.out.drewN _)).mono fun _ _ h => ⟨h.1, h.2.symm⟩)) | (go_at_call 23; refine Calls.quiet_of_same ((highest_c b g h y _ (HA.out.drewN _)).mono fun _ _ h => ⟨h.1, h.2.symm⟩)) | (go_at_call 22; refine Calls.quiet_of_same ((xready_c xb xg xh c1 c2 y _ (HX.out.keep (S := []) ((Only.refl _ _).drewN _) (by simp) (by simp) (by simp))).mono fun _ _ h => ⟨h.1, h.2.symm⟩)))
        go_wp2_with fail
        exact ⟨⟨k + 1, y, by simp, by omega, (Both.mk HA.out HM.out HK.out HLO.out.1 HLO.out.2.1 ⟨xg, xh, c1, c2, HX.out, HLO.out.2.2⟩ : Both w _ b g h xb c f r g0 y).none ((Only.refl _ _).drewN _)⟩, by simp [intOf]; omega⟩
    · have hno : (k : Int) < len → ¬ (k : Int) < 40 := fun h1 h2 => t1 (by omega)
      by_cases t2 : (k : Int) < len
      · have t3 := hno t2
        clear hno
        go_wp2_with fail
        go_ret
        exact ⟨rfl, HH.out.k.bel⟩
      · clear hno
        go_wp2_with fail
        go_ret
        exact ⟨rfl, HH.out.k.bel⟩
end Go.Proofs.YtnnmmmeppbdlnaaDoor
