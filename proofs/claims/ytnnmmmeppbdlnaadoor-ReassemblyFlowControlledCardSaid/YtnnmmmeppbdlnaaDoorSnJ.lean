/- Contracts of package reassembly: take. -/
import Derived.Test.YtnnmmmeppbdlnaaDoorSnI
import Derived.StillTailTactics
namespace Go.Proofs.YtnnmmmeppbdlnaaDoor
open Go Go.RowKit
set_option linter.unusedVariables false
set_option linter.unusedSectionVars false
set_option linter.unusedSimpArgs false

set_option maxRecDepth 100000 in
set_option maxHeartbeats 4000000 in
theorem take_c (b g1 g2 : Nat) (x : Bf) (w : World) (hA : BufAt w b g1 g2 x) (c : Nat) (hc : c ≤ x.n) (hp : x.pos + c ≤ 1099511627776) :
    Calls Tryd.prog 34 #[.pointer (some ⟨b, 0, none⟩), .int .i64 c] w fun e w' => e = .returned (.string (strB (x.out c))) ∧ BufAt w' b g1 g2 (x.read c) ∧ Only [b, g1, g2] w w' := by
  have hcv := conv_b hA.rb c x.n hc
  have c1 := hA.c1
  have k0 : (0 : Int) ≤ c := by omega
  have k1 : (c : Int) ≤ x.n := by omega
  have HA := Lib.hid hA; clear hA
  have HC := Lib.hid hc; clear hc
  unfold Bf.out
  go_enter Tryd.func34, Tryd.ntmps34
  go_wp2_with fail
  clear k0 k1 hcv
  have s1 := slice_b (g := g1) (n := x.n) c HC.out
  obtain ⟨w1, e1, rb1, o1⟩ := copy_b (HA.out.rb.block (w' := w.drew) rfl) c HC.out
  go_still_tail 10, (by kernel_rfl)
  go_wp2_with fail
  clear s1 e1
  have hd1 := HA.out.d1
  have hd2 := HA.out.d2
  have hd3 := HA.out.d3
  have hl := HA.out.lt
  have ab1 := (HA.out.at_.drew).keep o1 (by simp; exact hd1)
  have rh1 : RowH w1 g2 x.n x.H := HA.out.rh.block (o1.block _ hl.2.2 (by simp; exact fun e => hd3 e.symm))
  have O1 : Hid (Only [b, g1, g2] w w1) := Lib.hid ((((Only.refl [g1] w).drew).trans o1).mono (by simp))
  have c2 : w1.cell? ⟨b, 2, none⟩ = some (.slice (some ⟨g2, 0, none⟩) x.n x.n) := ab1.cell 2 rfl
  have s1 := slice_h (g := g2) (n := x.n) c HC.out
  obtain ⟨w2, e1, rh2, o2⟩ := copy_h (rh1.block (w' := w1.drew) rfl) c HC.out
  clear c1 o1 rh1
  have AB1 := Lib.hid ab1; clear ab1
  have RB1 := Lib.hid rb1; clear rb1
  have HD := Lib.hid (And.intro hd1 (And.intro hd2 hd3)); clear hd1 hd2 hd3
  have HL := Lib.hid hl; clear hl
  go_still_tail 10, (by kernel_rfl)
  have hl := HL.out
  obtain ⟨hd1, hd2, hd3⟩ := HD.out
  have hm : x.n - c ≤ x.n := by omega
  have ab2 := (AB1.out.drew).keep o2 (by simp; exact hd2)
  have rb2 : RowB w2 g1 x.n (fun k => if k + c < x.n then x.B (k + c) else x.B k) := RB1.out.block (o2.block _ (Nat.lt_of_lt_of_le hl.2.1 O1.out.size) (by simp; exact hd3))
  have O2 : Hid (Only [b, g1, g2] w w2) := Lib.hid (O1.out.trans ((((Only.refl [g2] w1).drew).trans o2).mono (by simp)))
  have cA : w2.cell? ⟨b, 1, none⟩ = some (.slice (some ⟨g1, 0, none⟩) x.n x.n) := ab2.cell 1 rfl
  have sA := slice_b (g := g1) (n := x.n) (x.n - c) hm
  obtain ⟨w3, eA, rb3, o3⟩ := clear_b rb2 (x.n - c) hm
  have ab3 := ab2.keep o3 (by simp; exact hd1)
  have rh3 : RowH w3 g2 x.n (fun k => if k + c < x.n then x.H (k + c) else x.H k) := rh2.block (o3.block _ (Nat.lt_of_lt_of_le hl.2.2 O2.out.size) (by simp; exact fun e => hd3 e.symm))
  have cB : w3.cell? ⟨b, 2, none⟩ = some (.slice (some ⟨g2, 0, none⟩) x.n x.n) := ab3.cell 2 rfl
  have sB := slice_h (g := g2) (n := x.n) (x.n - c) hm
  obtain ⟨w4, eB, rh4, o4⟩ := clear_h rh3 (x.n - c) hm
  have ab4 := ab3.keep o4 (by simp; exact hd2)
  have rb4 := rb3.block (o4.block _ (Nat.lt_of_lt_of_le hl.2.1 (Nat.le_trans O2.out.size o3.size)) (by simp; exact hd3))
  have O4 : Hid (Only [b, g1, g2] w w4) := Lib.hid ((O2.out.trans (o3.mono (by simp))).trans (o4.mono (by simp)))
  have cC : w4.cell? ⟨b, 0, none⟩ = some (.int .i64 x.pos) := ab4.cell 0 rfl
  have fC : w4.frozen? ⟨b, 0, none⟩ = false := ab4.free 0
  have hp0 := HA.out.p0
  have hp1 := HA.out.p1
  have ew : IntKind.i64.wrap (x.pos + (c : Int)) = x.pos + c := IntWalk.i64_in _ (by omega)
  have HF : Hid (BufAt (w4.setCell ⟨b, 0, none⟩ (.int .i64 (x.pos + c))) b g1 g2 (x.read c)) := Lib.hid ⟨ab4.set 0 _ rfl, (rb4.far (p := ⟨b, 0, none⟩) (fun e => hd1 e.symm) _).congr (fun k hk => by
      simp only [Bf.read]
      by_cases h1 : k < x.n - c
      · rw [if_pos h1, if_pos (by omega), if_pos (by omega)]
      · rw [if_neg h1, if_neg (by omega)]), (rh4.far (p := ⟨b, 0, none⟩) (fun e => hd2 e.symm) _).congr (fun k hk => by
      simp only [Bf.read]
      by_cases h1 : k < x.n - c
      · rw [if_pos h1, if_pos (by omega), if_pos (by omega)]
      · rw [if_neg h1, if_neg (by omega)]), hd1, hd2, hd3, HA.out.n1, HA.out.n0, by simp only [Bf.read]; omega, hp, HA.out.h0, HA.out.h1⟩
  clear ab2 rb2 ab3 rh3 ab4 rb4 rh4 rh2 rb3 o2 o3 o4 hm hl hd1 hd2 hd3 hp0 hp1 hp
  go_wp2_with fail
  go_ret
  exact ⟨rfl, HF.out, O4.out.put (by simp) _⟩
end Go.Proofs.YtnnmmmeppbdlnaaDoor
