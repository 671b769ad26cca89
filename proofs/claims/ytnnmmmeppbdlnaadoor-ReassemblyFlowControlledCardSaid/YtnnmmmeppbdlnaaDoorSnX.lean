/- ReassemblyPrefix: the walk. -/
import Derived.Test.YtnnmmmeppbdlnaaDoorSnW
import Derived.Test.YtnnmmmeppbdlnaaDoorSnU
import Derived.Test.YtnnmmmeppbdlnaaDoorSnR
namespace Go.Proofs.YtnnmmmeppbdlnaaDoor
open Go Go.RowKit
set_option linter.unusedVariables false
set_option linter.unusedSectionVars false
set_option linter.unusedSimpArgs false


theorem cutS_app (f a c : Nat) : cutS f a ++ cutS (f + a) c = cutS f (a + c) := by
  unfold cutS
  rw [cutT_add]
  unfold strB
  exact ByteArray.mk_append_mk _ _
theorem Of.outS {N : Nat} {b : Bf} (h : Of txt N b) (c P : Nat) (hP : b.pos = P) (hc : c ≤ b.ready) : strB (b.out c) = cutS P c := by
  rw [h.out c hc, hP]; rfl
theorem Of.lastS {N : Nat} {b : Bf} (h : Of txt N b) (c P : Nat) (hP : b.pos = P) (hl : b.last c = true) : P + c = N := by
  unfold Bf.last at hl
  rw [Bool.and_eq_true] at hl
  have h1 := h.fi hl.1
  have h2 := beq_iff_eq.1 hl.2
  omega
def PRel (N b0 g0 h0 : Nat) (c f r g : Addr) (w : World) (len : Nat) (got i : Value) (wr : World) : Prop := ∃ (k P : Nat) (x : Bf), i = .int .i64 k ∧ k ≤ len ∧ got = .string (cutS 0 P) ∧ BufAt wr b0 g0 h0 x ∧ Of txt N x ∧ x.n = 100 ∧ x.pos = P ∧ Kp w.heap.size c f r g w wr
set_option maxRecDepth 100000 in
set_option maxHeartbeats 8000000 in
theorem prefix_walk (a0 : Int) (a : Option Addr) (len cap : Nat) (K M : Nat → Int) (a2 : Int) (w : World) (v0 : (Lit.int .i64 a0).wf = true) (hl : Pairs .i64 .i64 w a len K M) (v2 : (Lit.int .i64 a2).wf = true) (c f r g : Addr) (hS : Snt w.heap.size c f r g w) :
    Calls Tryd.prog 4 #[.int .i64 a0, .slice a len cap, .int .i64 a2] w fun e w' => e = .returned (.bool true) ∧ Below w.heap.size w w' := by
  obtain ⟨N0, k0, q0⟩ := pick_nat a0 400 (by omega)
  obtain ⟨N, e0⟩ : ∃ N, N0 + 1 = N := ⟨_, rfl⟩
  obtain ⟨R, kR, qR⟩ := pick_nat a2 120 (by omega)
  have hN : N ≤ 400 := by omega
  have hN1 : 1 ≤ N := by omega
  have HL := Lib.hid hl; clear hl
  have HK : Hid (Kp w.heap.size c f r g w w) := Lib.hid (Kp.start hS); clear hS
  have z1 := txtS_size N
  have z2 : ∀ m, (cutS 0 m).size = m := cutS_size 0
  have e1 : IntKind.i64.wrap (1 + (N0 : Int)) = N := by rw [show (1 : Int) + N0 = N by omega]; exact IntWalk.i64_in _ (by omega)
  go_enter Tryd.func4, Tryd.ntmps4
  go_wp2_with fail
  refine (sane_c w.heap.size c f r g w _ HK.out).mono ?_
  rintro e w1 ⟨rfl, hK⟩
  replace HK := Lib.hid hK
  clear hK
  go_wp2_with fail
  refine (pick_v a0 400 N0 _ k0 (by omega) (by omega) v0).mono ?_
  rintro e w2 ⟨rfl, rfl⟩
  go_wp2_with fail
  refine (text_c N (by omega) _).mono ?_
  rintro e w3 ⟨rfl, ho⟩
  replace HK := Lib.hid (HK.out.none ho)
  clear ho
  go_wp2_with fail
  refine (new_c 100 _ (by omega) (by omega)).mono ?_
  rintro e w4 ⟨b0, g0, h0, rfl, hA, ho, q0, q1, q2⟩
  have HA0 : Hid (BufAt w4 b0 g0 h0 (Bf.new 100)) := Lib.hid hA
  have HB0 : Hid (w.heap.size ≤ b0 ∧ w.heap.size ≤ g0 ∧ w.heap.size ≤ h0) := Lib.hid (by have := HK.out.size; omega)
  replace HK := Lib.hid (HK.out.none ho)
  clear hA ho q0 q1 q2
  go_wp2_with fail
  go_loopw [11, 12] (fun got i wr => PRel N b0 g0 h0 c f r g w len got i wr) (fun _ i _ => len - (intOf i).toNat)
  case atStart => exact ⟨0, 0, Bf.new 100, rfl, by omega, rfl, HA0.out, Of.new _ _ _, rfl, rfl, HK.out⟩
  case round =>
    obtain ⟨k, P, x, rfl, hk, rfl, hA0, hof, xn, xp, hK⟩ := hrel
    replace HA0 := Lib.hid hA0
    replace HK := Lib.hid hK
    have HO := Lib.hid hof
    clear hA0 hK hof
    by_cases t1 : k < len ∧ k < 40
    · obtain ⟨t2, t3⟩ := t1
      have t2' : (k : Int) < len := by omega
      have t3' : (k : Int) < 40 := by omega
      obtain ⟨bb, off, rfl, hbb, cK, cM, wK, wM⟩ := HL.out k t2
      have cK1 := cell_kp HK.out (p := ⟨bb, off + k * 2, none⟩) hbb cK
      have cM0 := Lib.hid cM
      have hPN : (P : Int) ≤ N := by have := HO.out.pN; omega
      obtain ⟨F, kF, qF⟩ := pick_nat (K k) (N + 1 : Int) (by omega)
      obtain ⟨n, kn, qn⟩ := pick_nat (M k) (N - F + 1 : Int) (by omega)
      have f1 : IntKind.i64.wrap ((N : Int) + 1) = N + 1 := IntWalk.i64_in _ (by omega)
      have f2 : IntKind.i64.wrap ((N : Int) - F) = N - F := IntWalk.i64_in _ (by omega)
      have f3 : IntKind.i64.wrap ((N : Int) - F + 1) = N - F + 1 := IntWalk.i64_in _ (by omega)
      have f4 : IntKind.i64.wrap ((F : Int) + n) = F + n := IntWalk.i64_in _ (by omega)
      have f5 : IntKind.i64.wrap ((k : Int) + 1) = k + 1 := IntWalk.i64_in _ (by omega)
      have f6 : IntKind.i64.wrap ((P : Int) + 100) = P + 100 := IntWalk.i64_in _ (by omega)
      have hsl := slice_txt N F n (by omega)
      obtain ⟨z, hz⟩ : ∃ z, ((F : Int) + n == (N : Int)) = z := ⟨_, rfl⟩
      have HZ : Hid (z = true → F + n = N) := Lib.hid (fun h => by rw [h] at hz; have := beq_iff_eq.1 hz; omega)
      clear cK cM
      obtain ⟨A, y, hA, hy, hAy⟩ : ∃ (A : Int) (y : Bf), x.putC F (cutS F n).data.toList z = A ∧ (bif A == 0 then x.hold F (cutS F n).data.toList z else x) = y ∧ ((A = 0) ∨ (A = 162 ∧ decide ((F : Int) + n ≤ P + 100) = false)) ∧ Of txt N y ∧ y.n = 100 ∧ y.pos = P := by
        rw [HO.out.putC F n z (by omega) HZ.out (by omega) (by omega), cutS_list]
        by_cases c : x.pos + x.n < (F : Int) + n
        · rw [if_pos c]
          exact ⟨_, _, rfl, rfl, .inr ⟨rfl, decide_eq_false (by rw [xn, xp] at c; omega)⟩, HO.out, xn, xp⟩
        · rw [if_neg c]
          exact ⟨_, _, rfl, rfl, .inl rfl, HO.out.hold F n z (by omega) HZ.out, xn, xp⟩
      obtain ⟨hA2, oy, yn, yp⟩ := hAy
      have HOY := Lib.hid oy; clear oy
      have hmy := (y.many_le R).1
      have hry := y.ready_le
      obtain ⟨C, hC⟩ : ∃ C, y.many R = C := ⟨_, rfl⟩
      rw [hC] at hmy
      have hout := HOY.out.outS C P yp hmy
      have HOZ := Lib.hid (HOY.out.read C hmy)
      have hpc : ((P + C : Nat) : Int) ≤ N := by have := HOZ.out.pN; have h2 : (y.read C).pos = y.pos + C := rfl; omega
      obtain ⟨last, hlast⟩ : ∃ last, y.last C = last := ⟨_, rfl⟩
      have HLS : Hid (last = true → P + C = N) := Lib.hid (fun h => by rw [← hlast] at h; exact HOY.out.lastS C P yp h)
      have happ := cutS_app 0 P C
      rw [Nat.zero_add] at happ
      have z4 := cutS_size P C
      have z5 := cutS_size 0 (P + C)
      have hsl2 := slice_to N (P + C) (by omega)
      have d1 : decide ((N : Int) < ((P + C : Nat) : Int)) = false := decide_eq_false (by omega)
      have hex : (txtS N).extract 0 (P + C) = cutS 0 (P + C) := by have := txtS_ext N 0 (P + C) (by omega); rwa [Nat.zero_add] at this
      have d5 : decide ((N : Int) < (P : Int) + C) = false := decide_eq_false (by omega)
      have hyp : (y.read C).pos = ((P + C : Nat) : Int) := by show y.pos + C = _; rw [yp]; omega
      have hy2 : y.pos + C ≤ 1099511627776 := by rw [yp]; omega
      clear xn
      go_wp2_with fail
      refine (pick_v (K k) (N + 1 : Int) F _ kF (by omega) (by omega) wK).mono ?_
      rintro e wa ⟨rfl, rfl⟩
      have cM1 := cell_kp HK.out (p := ⟨bb, off + k * 2 + 1, none⟩) hbb cM0.out
      go_wp2_with fail
      refine (pick_v (M k) (N - F + 1 : Int) n _ kn (by omega) (by omega) wM).mono ?_
      rintro e wb ⟨rfl, rfl⟩
      go_wp2_with fail
      rcases hA2 with rfl | ⟨rfl, hd⟩
      · cases last with
        | true =>
          have hPC : P + C = N := HLS.out rfl
          have d2 : (((P + C : Nat) : Int) == (N : Int)) = true := beq_iff_eq.2 (by omega)
          have d3 : (((P : Int) + C) == (N : Int)) = true := beq_iff_eq.2 (by omega)
          have d4 : P + C = N ↔ True := ⟨fun _ => trivial, fun _ => hPC⟩
          clear hPC d4
          refine (put_v b0 g0 h0 w.heap.size x c f r g F (cutS F n) z _ HA0.out HK.out.snt HK.out.size HB0.out 0 y hA hy).mono ?_
          rintro e w31 ⟨rfl, hA, ho⟩
          replace HA0 := Lib.hid hA
          replace HK := Lib.hid (HK.out.buf HB0.out ho)
          clear hA ho
          go_wp2_with fail
          refine (pick_v a2 120 R _ kR (by omega) (by omega) v2).mono ?_
          rintro e w32 ⟨rfl, rfl⟩
          go_wp2_with fail
          refine (read_v b0 g0 h0 y _ HA0.out R C (cutS P C) true (y.read C) hC hout hlast rfl hy2).mono ?_
          rintro e w33 ⟨rfl, hA, ho⟩
          replace HA0 := Lib.hid hA
          replace HK := Lib.hid (HK.out.buf HB0.out ho)
          clear hA ho
          clear hA hy hlast hout
          go_wp2_with fail
          refine (offset_c b0 g0 h0 (y.read C) _ HA0.out).mono ?_
          rintro e w34 ⟨rfl, rfl⟩
          rw [hyp]
          go_wp2_with fail
          exact ⟨⟨k + 1, P + C, y.read C, by simp, by omega, rfl, HA0.out, HOZ.out, yn, hyp, HK.out⟩, by simp [intOf]; omega⟩
        | false =>
          refine (put_v b0 g0 h0 w.heap.size x c f r g F (cutS F n) z _ HA0.out HK.out.snt HK.out.size HB0.out 0 y hA hy).mono ?_
          rintro e w31 ⟨rfl, hA, ho⟩
          replace HA0 := Lib.hid hA
          replace HK := Lib.hid (HK.out.buf HB0.out ho)
          clear hA ho
          go_wp2_with fail
          refine (pick_v a2 120 R _ kR (by omega) (by omega) v2).mono ?_
          rintro e w32 ⟨rfl, rfl⟩
          go_wp2_with fail
          refine (read_v b0 g0 h0 y _ HA0.out R C (cutS P C) false (y.read C) hC hout hlast rfl hy2).mono ?_
          rintro e w33 ⟨rfl, hA, ho⟩
          replace HA0 := Lib.hid hA
          replace HK := Lib.hid (HK.out.buf HB0.out ho)
          clear hA ho
          clear hA hy hlast hout
          go_wp2_with fail
          refine (offset_c b0 g0 h0 (y.read C) _ HA0.out).mono ?_
          rintro e w34 ⟨rfl, rfl⟩
          rw [hyp]
          go_wp2_with fail
          exact ⟨⟨k + 1, P + C, y.read C, by simp, by omega, rfl, HA0.out, HOZ.out, yn, hyp, HK.out⟩, by simp [intOf]; omega⟩
      · cases last with
        | true =>
          have hPC : P + C = N := HLS.out rfl
          have d2 : (((P + C : Nat) : Int) == (N : Int)) = true := beq_iff_eq.2 (by omega)
          have d3 : (((P : Int) + C) == (N : Int)) = true := beq_iff_eq.2 (by omega)
          have d4 : P + C = N ↔ True := ⟨fun _ => trivial, fun _ => hPC⟩
          clear hPC d4
          refine (put_v b0 g0 h0 w.heap.size x c f r g F (cutS F n) z _ HA0.out HK.out.snt HK.out.size HB0.out 162 y hA hy).mono ?_
          rintro e w31 ⟨rfl, hA, ho⟩
          replace HA0 := Lib.hid hA
          replace HK := Lib.hid (HK.out.buf HB0.out ho)
          clear hA ho
          go_wp2_with fail
          refine (pick_v a2 120 R _ kR (by omega) (by omega) v2).mono ?_
          rintro e w32 ⟨rfl, rfl⟩
          go_wp2_with fail
          refine (read_v b0 g0 h0 y _ HA0.out R C (cutS P C) true (y.read C) hC hout hlast rfl hy2).mono ?_
          rintro e w33 ⟨rfl, hA, ho⟩
          replace HA0 := Lib.hid hA
          replace HK := Lib.hid (HK.out.buf HB0.out ho)
          clear hA ho
          clear hA hy hlast hout
          go_wp2_with fail
          refine (offset_c b0 g0 h0 (y.read C) _ HA0.out).mono ?_
          rintro e w34 ⟨rfl, rfl⟩
          rw [hyp]
          go_wp2_with fail
          exact ⟨⟨k + 1, P + C, y.read C, by simp, by omega, rfl, HA0.out, HOZ.out, yn, hyp, HK.out⟩, by simp [intOf]; omega⟩
        | false =>
          refine (put_v b0 g0 h0 w.heap.size x c f r g F (cutS F n) z _ HA0.out HK.out.snt HK.out.size HB0.out 162 y hA hy).mono ?_
          rintro e w31 ⟨rfl, hA, ho⟩
          replace HA0 := Lib.hid hA
          replace HK := Lib.hid (HK.out.buf HB0.out ho)
          clear hA ho
          go_wp2_with fail
          refine (pick_v a2 120 R _ kR (by omega) (by omega) v2).mono ?_
          rintro e w32 ⟨rfl, rfl⟩
          go_wp2_with fail
          refine (read_v b0 g0 h0 y _ HA0.out R C (cutS P C) false (y.read C) hC hout hlast rfl hy2).mono ?_
          rintro e w33 ⟨rfl, hA, ho⟩
          replace HA0 := Lib.hid hA
          replace HK := Lib.hid (HK.out.buf HB0.out ho)
          clear hA ho
          clear hA hy hlast hout
          go_wp2_with fail
          refine (offset_c b0 g0 h0 (y.read C) _ HA0.out).mono ?_
          rintro e w34 ⟨rfl, rfl⟩
          rw [hyp]
          go_wp2_with fail
          exact ⟨⟨k + 1, P + C, y.read C, by simp, by omega, rfl, HA0.out, HOZ.out, yn, hyp, HK.out⟩, by simp [intOf]; omega⟩
    · have hno : (k : Int) < len → ¬ (k : Int) < 40 := fun h1 h2 => t1 (by omega)
      by_cases t2 : (k : Int) < len
      · have t3 := hno t2
        clear hno
        go_wp2_with fail
        go_ret
        exact ⟨rfl, HK.out.bel⟩
      · clear hno
        go_wp2_with fail
        go_ret
        exact ⟨rfl, HK.out.bel⟩
end Go.Proofs.YtnnmmmeppbdlnaaDoor
