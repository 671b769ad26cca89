/- ReassemblyIdempotent: the walk. -/
import Derived.Test.YtnnmmmeppbdlnaaDoorArg
import Derived.LoopTactic
import Derived.Test.YtnnmmmeppbdlnaaDoorSnR
namespace Go.Proofs.YtnnmmmeppbdlnaaDoor
open Go Go.RowKit
set_option linter.unusedVariables false
set_option linter.unusedSectionVars false
set_option linter.unusedSimpArgs false


theorem Of.putC {N : Nat} {b : Bf} (h : Of txt N b) (f n : Nat) (z : Bool) (hn : f + n ≤ N) (hz : z = true → f + n = N) (h1 : n ≤ 8192) (h2 : N ≤ 1099511627776) : b.putC f (cutS f n).data.toList z = if b.pos + b.n < f + n then 162 else 0 := by
  rw [cutS_list, ← Bf.putC_eq, h.putE f n z hn hz h1 h2]
def IRel (N : Nat) (b0 g0 h0 b1 g1 h1 : Nat) (c f r g : Addr) (w : World) (len : Nat) (i : Value) (wr : World) : Prop := ∃ (k : Nat) (x : Bf), i = .int .i64 k ∧ k ≤ len ∧ BufAt wr b0 g0 h0 x ∧ BufAt wr b1 g1 h1 x ∧ Of txt N x ∧ x.n = 200 ∧ x.pos = 0 ∧ Kp w.heap.size c f r g w wr
theorem cell_kp {B : Nat} {c f r g : Addr} {w wr : World} (h : Kp B c f r g w wr) {p : Addr} (hp : p.block < B) {v : Value} (hv : w.cell? p = some v) : wr.cell? p = some v := (h.bel.cell hp).trans hv
set_option maxRecDepth 100000 in
set_option maxHeartbeats 8000000 in
theorem idem_walk (a0 : Int) (a : Option Addr) (len cap : Nat) (K M : Nat → Int) (w : World) (v0 : (Lit.int .i64 a0).wf = true) (hl : Pairs .i64 .i64 w a len K M) (c f r g : Addr) (hS : Snt w.heap.size c f r g w) :
    Calls Tryd.prog 6 #[.int .i64 a0, .slice a len cap] w fun e w' => e = .returned (.bool true) ∧ Below w.heap.size w w' := by
  obtain ⟨N0, k0, q0⟩ := pick_nat a0 200 (by omega)
  obtain ⟨N, e0⟩ : ∃ N, N0 + 1 = N := ⟨_, rfl⟩
  have hN : N ≤ 200 := by omega
  have hN1 : 1 ≤ N := by omega
  have HL := Lib.hid hl; clear hl
  have HK : Hid (Kp w.heap.size c f r g w w) := Lib.hid (Kp.start hS); clear hS
  have z1 := txtS_size N
  have e1 : IntKind.i64.wrap (1 + (N0 : Int)) = N := by rw [show (1 : Int) + N0 = N by omega]; exact IntWalk.i64_in _ (by omega)
  go_enter Tryd.func6, Tryd.ntmps6
  go_wp2_with fail
  refine (sane_c w.heap.size c f r g w _ HK.out).mono ?_
  rintro e w1 ⟨rfl, hK⟩
  replace HK := Lib.hid hK
  clear hK
  go_wp2_with fail
  refine (pick_v a0 200 N0 _ k0 (by omega) (by omega) v0).mono ?_
  rintro e w2 ⟨rfl, rfl⟩
  go_wp2_with fail
  refine (text_c N (by omega) _).mono ?_
  rintro e w3 ⟨rfl, ho⟩
  replace HK := Lib.hid (HK.out.none ho)
  clear ho
  go_wp2_with fail
  refine (new_c 200 _ (by omega) (by omega)).mono ?_
  rintro e w4 ⟨b0, g0, h0, rfl, hA, ho, q0, q1, q2⟩
  have HA0 : Hid (BufAt w4 b0 g0 h0 (Bf.new 200)) := Lib.hid hA
  have HB0 : Hid (w.heap.size ≤ b0 ∧ w.heap.size ≤ g0 ∧ w.heap.size ≤ h0) := Lib.hid (by have := HK.out.size; omega)
  replace HK := Lib.hid (HK.out.none ho)
  clear hA ho q0 q1 q2
  go_wp2_with fail
  refine (new_c 200 _ (by omega) (by omega)).mono ?_
  rintro e w5 ⟨b1, g1, h1, rfl, hA, ho, q0, q1, q2⟩
  have HA1 : Hid (BufAt w5 b1 g1 h1 (Bf.new 200)) := Lib.hid hA
  have HB1 : Hid (w.heap.size ≤ b1 ∧ w.heap.size ≤ g1 ∧ w.heap.size ≤ h1) := Lib.hid (by have := HK.out.size; omega)
  have HD01 : Hid ((b1 ∉ [b0, g0, h0] ∧ g1 ∉ [b0, g0, h0] ∧ h1 ∉ [b0, g0, h0]) ∧ (b0 ∉ [b1, g1, h1] ∧ g0 ∉ [b1, g1, h1] ∧ h0 ∉ [b1, g1, h1])) := Lib.hid (by have := HA0.out.lt; simp; omega)
  replace HA0 := Lib.hid (HA0.out.keep ho (by simp) (by simp) (by simp))
  replace HK := Lib.hid (HK.out.none ho)
  clear hA ho q0 q1 q2
  go_wp2_with fail
  go_loopw [11] (fun i wr => IRel N b0 g0 h0 b1 g1 h1 c f r g w len i wr) (fun i _ => len - (intOf i).toNat)
  case atStart => exact ⟨0, Bf.new 200, rfl, by omega, HA0.out, HA1.out, Of.new _ _ _, rfl, rfl, HK.out⟩
  case round =>
    obtain ⟨k, x, rfl, hk, hA0, hA1, hof, xn, xp, hK⟩ := hrel
    replace HA0 := Lib.hid hA0
    replace HA1 := Lib.hid hA1
    replace HK := Lib.hid hK
    have HO := Lib.hid hof
    clear hA0 hA1 hK hof
    by_cases t1 : k < len ∧ k < 20
    · obtain ⟨t2, t3⟩ := t1
      have t2' : (k : Int) < len := by omega
      have t3' : (k : Int) < 20 := by omega
      obtain ⟨bb, off, rfl, hbb, cK, cM, wK, wM⟩ := HL.out k t2
      have cK1 := cell_kp HK.out (p := ⟨bb, off + k * 2, none⟩) hbb cK
      have cM1 := cell_kp HK.out (p := ⟨bb, off + k * 2 + 1, none⟩) hbb cM
      obtain ⟨F, kF, qF⟩ := pick_nat (K k) (N + 1 : Int) (by omega)
      obtain ⟨n, kn, qn⟩ := pick_nat (M k) (N - F + 1 : Int) (by omega)
      have f1 : IntKind.i64.wrap ((N : Int) + 1) = N + 1 := IntWalk.i64_in _ (by omega)
      have f2 : IntKind.i64.wrap ((N : Int) - F) = N - F := IntWalk.i64_in _ (by omega)
      have f3 : IntKind.i64.wrap ((N : Int) - F + 1) = N - F + 1 := IntWalk.i64_in _ (by omega)
      have f4 : IntKind.i64.wrap ((F : Int) + n) = F + n := IntWalk.i64_in _ (by omega)
      have hsl := slice_txt N F n (by omega)
      obtain ⟨z, hz⟩ : ∃ z, ((F : Int) + n == (N : Int)) = z := ⟨_, rfl⟩
      have HZ : Hid (z = true → F + n = N) := Lib.hid (fun h => by rw [h] at hz; have := beq_iff_eq.1 hz; omega)
      clear cK cM
      have f5 : IntKind.i64.wrap ((k : Int) + 1) = k + 1 := IntWalk.i64_in _ (by omega)
      have a1 : x.putC F (cutS F n).data.toList z = 0 := by rw [HO.out.putC F n z (by omega) HZ.out (by omega) (by omega), if_neg (by rw [xn, xp]; omega)]
      have HY := Lib.hid (HO.out.hold F n z (by omega) HZ.out)
      obtain ⟨y, hy⟩ : ∃ y, x.hold F (cutT txt F n) z = y := ⟨_, rfl⟩
      have hy1 : x.hold F (cutS F n).data.toList z = y := by rw [cutS_list]; exact hy
      have yn : y.n = 200 := by rw [← hy]; exact xn
      have yp : y.pos = 0 := by rw [← hy]; exact xp
      have hy2 : y.hold F (cutS F n).data.toList z = y := by rw [cutS_list, ← hy]; exact hold_same _ _ _ _ (by omega)
      rw [hy] at HY
      have a2 : y.putC F (cutS F n).data.toList z = 0 := by rw [HY.out.putC F n z (by omega) HZ.out (by omega) (by omega), if_neg (by rw [yn, yp]; omega)]
      clear hy
      go_wp2_with fail
      refine (pick_v (K k) (N + 1 : Int) F _ kF (by omega) (by omega) wK).mono ?_
      rintro e wa ⟨rfl, rfl⟩
      go_wp2_with fail
      refine (pick_v (M k) (N - F + 1 : Int) n _ kn (by omega) (by omega) wM).mono ?_
      rintro e wb ⟨rfl, rfl⟩
      go_wp2_with fail
      refine (put_v b0 g0 h0 w.heap.size x c f r g F (cutS F n) z _ HA0.out HK.out.snt HK.out.size HB0.out 0 y a1 hy1).mono ?_
      rintro e w21 ⟨rfl, hA, ho⟩
      replace HA0 := Lib.hid hA
      replace HK := Lib.hid (HK.out.buf HB0.out ho)
      replace HA1 := Lib.hid (HA1.out.keep ho HD01.out.1.1 HD01.out.1.2.1 HD01.out.1.2.2)
      clear hA ho
      go_wp2_with fail
      refine (put_v b0 g0 h0 w.heap.size y c f r g F (cutS F n) z _ HA0.out HK.out.snt HK.out.size HB0.out 0 y a2 hy2).mono ?_
      rintro e w22 ⟨rfl, hA, ho⟩
      replace HA0 := Lib.hid hA
      replace HK := Lib.hid (HK.out.buf HB0.out ho)
      replace HA1 := Lib.hid (HA1.out.keep ho HD01.out.1.1 HD01.out.1.2.1 HD01.out.1.2.2)
      clear hA ho
      go_wp2_with fail
      refine (put_v b1 g1 h1 w.heap.size x c f r g F (cutS F n) z _ HA1.out HK.out.snt HK.out.size HB1.out 0 y a1 hy1).mono ?_
      rintro e w23 ⟨rfl, hA, ho⟩
      replace HA1 := Lib.hid hA
      replace HK := Lib.hid (HK.out.buf HB1.out ho)
      replace HA0 := Lib.hid (HA0.out.keep ho HD01.out.2.1 HD01.out.2.2.1 HD01.out.2.2.2)
      clear hA ho
      go_wp2_with fail
      refine (ready_c b0 g0 h0 y _ HA0.out).mono ?_
      rintro e w24 ⟨rfl, rfl⟩
      go_wp2_with fail
      refine (ready_c b1 g1 h1 y _ HA1.out).mono ?_
      rintro e w25 ⟨rfl, rfl⟩
      go_wp2_with fail
      refine (highest_c b0 g0 h0 y _ HA0.out).mono ?_
      rintro e w26 ⟨rfl, rfl⟩
      go_wp2_with fail
      refine (highest_c b1 g1 h1 y _ HA1.out).mono ?_
      rintro e w27 ⟨rfl, rfl⟩
      go_wp2_with fail
      exact ⟨⟨k + 1, y, by simp, by omega, HA0.out, HA1.out, HY.out, yn, yp, HK.out⟩, by simp [intOf]; omega⟩
    · have hno : (k : Int) < len → ¬ (k : Int) < 20 := fun h1 h2 => t1 (by omega)
      have hro : x.ready = x.ready := rfl
      have hpr : x.pos + (x.many 1000 : Nat) ≤ 1099511627776 := by have := (x.many_le 1000).1; have := x.ready_le; omega
      by_cases t2 : (k : Int) < len
      · have t3 := hno t2
        clear hno hro
        go_wp2_with fail
        refine (read_v b0 g0 h0 x _ HA0.out 1000 (x.many 1000) (strB (x.out (x.many 1000))) (x.last (x.many 1000)) _ rfl rfl rfl rfl hpr).mono ?_
        rintro e w41 ⟨rfl, hA, ho⟩
        replace HA0 := Lib.hid hA
        replace HK := Lib.hid (HK.out.buf HB0.out ho)
        replace HA1 := Lib.hid (HA1.out.keep ho HD01.out.1.1 HD01.out.1.2.1 HD01.out.1.2.2)
        clear hA ho
        go_wp2_with fail
        refine (read_v b1 g1 h1 x _ HA1.out 1000 (x.many 1000) (strB (x.out (x.many 1000))) (x.last (x.many 1000)) _ rfl rfl rfl rfl hpr).mono ?_
        rintro e w42 ⟨rfl, hA, ho⟩
        replace HA1 := Lib.hid hA
        replace HK := Lib.hid (HK.out.buf HB1.out ho)
        replace HA0 := Lib.hid (HA0.out.keep ho HD01.out.2.1 HD01.out.2.2.1 HD01.out.2.2.2)
        clear hA ho
        go_wp2_with fail
        go_ret
        exact ⟨rfl, HK.out.bel⟩
      · clear hno hro
        go_wp2_with fail
        refine (read_v b0 g0 h0 x _ HA0.out 1000 (x.many 1000) (strB (x.out (x.many 1000))) (x.last (x.many 1000)) _ rfl rfl rfl rfl hpr).mono ?_
        rintro e w41 ⟨rfl, hA, ho⟩
        replace HA0 := Lib.hid hA
        replace HK := Lib.hid (HK.out.buf HB0.out ho)
        replace HA1 := Lib.hid (HA1.out.keep ho HD01.out.1.1 HD01.out.1.2.1 HD01.out.1.2.2)
        clear hA ho
        go_wp2_with fail
        refine (read_v b1 g1 h1 x _ HA1.out 1000 (x.many 1000) (strB (x.out (x.many 1000))) (x.last (x.many 1000)) _ rfl rfl rfl rfl hpr).mono ?_
        rintro e w42 ⟨rfl, hA, ho⟩
        replace HA1 := Lib.hid hA
        replace HK := Lib.hid (HK.out.buf HB1.out ho)
        replace HA0 := Lib.hid (HA0.out.keep ho HD01.out.2.1 HD01.out.2.2.1 HD01.out.2.2.2)
        clear hA ho
        go_wp2_with fail
        go_ret
        exact ⟨rfl, HK.out.bel⟩
end Go.Proofs.YtnnmmmeppbdlnaaDoor
