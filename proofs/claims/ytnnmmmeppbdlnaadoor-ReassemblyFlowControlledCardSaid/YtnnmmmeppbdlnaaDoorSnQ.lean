/- The fixed calls of the law's package (sane). -/
import Derived.Test.YtnnmmmeppbdlnaaDoorSnO
import Derived.Test.YtnnmmmeppbdlnaaDoorSnP
namespace Go.Proofs.YtnnmmmeppbdlnaaDoor
open Go Go.RowKit
set_option linter.unusedVariables false
set_option linter.unusedSectionVars false
set_option linter.unusedSimpArgs false

theorem put_v (b g1 g2 B : Nat) (x : Bf) (c f r g : Addr) (off : Int) (s : ByteArray) (fl : Bool) (w : World) (hA : BufAt w b g1 g2 x) (hS : Snt B c f r g w) (hB : B ≤ w.heap.size) (hb : B ≤ b ∧ B ≤ g1 ∧ B ≤ g2) (k : Int) (y : Bf) (hk : x.putC off s.data.toList fl = k) (hy : (bif k == 0 then x.hold off s.data.toList fl else x) = y) :
    Calls Tryd.prog 16 #[.pointer (some ⟨b, 0, none⟩), .int .i64 off, .string s, .bool fl] w fun e w' => e = .returned (.int .i64 k) ∧ BufAt w' b g1 g2 y ∧ Only [b, g1, g2] w w' := by
  subst hk hy
  exact Put_c b g1 g2 B x c f r g off s fl w hA hS hB hb.1 hb.2.1 hb.2.2
theorem read_v (b g1 g2 : Nat) (x : Bf) (w : World) (hA : BufAt w b g1 g2 x) (m : Int) (k : Nat) (o : ByteArray) (z : Bool) (y : Bf) (hk : x.many m = k) (ho : strB (x.out k) = o) (hz : x.last k = z) (hy : x.read k = y) (hp : x.pos + k ≤ 1099511627776) :
    Calls Tryd.prog 14 #[.pointer (some ⟨b, 0, none⟩), .int .i64 m] w fun e w' => e = .returned (.tuple #[.string o, .bool z]) ∧ BufAt w' b g1 g2 y ∧ Only [b, g1, g2] w w' := by
  subst hk ho hz hy
  exact read_c b g1 g2 x w hA m hp
/-- What the walk of a law carries of a world: the sentinels, and that nothing below B has changed. -/
structure Kp (B : Nat) (c f r g : Addr) (w0 w : World) : Prop where
  snt : Snt B c f r g w
  size : B ≤ w.heap.size
  bel : Below B w0 w
theorem Kp.start {w : World} {c f r g : Addr} (h : Snt w.heap.size c f r g w) : Kp w.heap.size c f r g w w := ⟨h, Nat.le_refl _, Below.refl _ _⟩
theorem Kp.only {B : Nat} {c f r g : Addr} {w0 w w' : World} {S : List Nat} (h : Kp B c f r g w0 w) (ho : Only S w w') (hS : ∀ k ∈ S, B ≤ k) : Kp B c f r g w0 w' :=
  ⟨h.snt.below (ho.below hS h.size), Nat.le_trans h.size ho.size, h.bel.trans (ho.below hS h.size)⟩
theorem Kp.buf {B b g1 g2 : Nat} {c f r g : Addr} {w0 w w' : World} (h : Kp B c f r g w0 w) (hb : B ≤ b ∧ B ≤ g1 ∧ B ≤ g2) (ho : Only [b, g1, g2] w w') : Kp B c f r g w0 w' := h.only ho (by simp; omega)
theorem Kp.none {B : Nat} {c f r g : Addr} {w0 w w' : World} (h : Kp B c f r g w0 w) (ho : Only [] w w') : Kp B c f r g w0 w' := h.only ho (by simp)
def sx0 : Bf := Bf.new 10
def sx1 : Bf := sx0.hold 3 [100, 101, 102] false
theorem sy1 : sx0.putC 3 [100, 101, 102] false = 0 := by kernel_rfl
def sx2 : Bf := sx1.hold 0 [97, 98, 99, 100] false
theorem sy2 : sx1.putC 0 [97, 98, 99, 100] false = 0 := by kernel_rfl
theorem sy3 : sx2.putC 1 [120] false = 160 := by kernel_rfl
theorem sy4 : sx2.ready = 6 := by kernel_rfl
theorem sy5 : sx2.putC 9 [106, 107] false = 162 := by kernel_rfl
def sx3 : Bf := sx2.read 6
theorem sy6 : sx2.many 9 = 6 := by kernel_rfl
theorem so6 : strB (sx2.out 6) = ⟨#[97, 98, 99, 100, 101, 102]⟩ := by kernel_rfl
theorem sz6 : sx2.last 6 = false := by kernel_rfl
theorem sp6 : sx2.pos + 6 ≤ 1099511627776 := of_decide_eq_true (by kernel_rfl)
def sx4 : Bf := sx3.hold 6 [103] true
theorem sy7 : sx3.putC 6 [103] true = 0 := by kernel_rfl
theorem sy8 : sx4.putC 6 [103, 104] false = 161 := by kernel_rfl
def sx5 : Bf := sx4.read 1
theorem sy9 : sx4.many 9 = 1 := by kernel_rfl
theorem so9 : strB (sx4.out 1) = ⟨#[103]⟩ := by kernel_rfl
theorem sz9 : sx4.last 1 = true := by kernel_rfl
theorem sp9 : sx4.pos + 1 ≤ 1099511627776 := of_decide_eq_true (by kernel_rfl)
theorem sf1 : sx5.fin = 7 ∧ sx5.kn = true ∧ sx5.pos = 7 ∧ sx5.hi = 7 := ⟨by kernel_rfl, by kernel_rfl, by kernel_rfl, by kernel_rfl⟩
set_option maxRecDepth 100000 in
set_option maxHeartbeats 4000000 in
theorem sane_c (B : Nat) (c f r g : Addr) (w0 w : World) (hK : Kp B c f r g w0 w) : Calls Tryd.prog 11 #[] w fun e w' => e = .returned (.bool true) ∧ Kp B c f r g w0 w' := by
  have HK := Lib.hid hK; clear hK
  go_enter Tryd.func11, Tryd.ntmps11
  go_wp2_with fail
  refine (new_c 10 _ (by omega) (by omega)).mono ?_
  rintro e wa ⟨b, g1, g2, rfl, hA, ho, q0, q1, q2⟩
  have HB : Hid (B ≤ b ∧ B ≤ g1 ∧ B ≤ g2) := Lib.hid (by have := HK.out.size; omega)
  have HA : Hid (BufAt wa b g1 g2 sx0) := Lib.hid hA
  replace HK := Lib.hid (HK.out.none ho)
  clear hA ho q0 q1 q2
  go_wp2_with fail
  refine (new_bad 0 _ (by omega)).mono ?_
  rintro e wb ⟨rfl, rfl⟩
  go_wp2_with fail
  refine (put_v b g1 g2 B sx0 c f r g 3 ⟨#[100, 101, 102]⟩ false _ HA.out HK.out.snt HK.out.size HB.out 0 sx1 sy1 rfl).mono ?_
  rintro e w1 ⟨rfl, hA, ho⟩
  replace HA := Lib.hid hA
  replace HK := Lib.hid (HK.out.buf HB.out ho)
  clear hA ho
  go_wp2_with fail
  refine (put_v b g1 g2 B sx1 c f r g 0 ⟨#[97, 98, 99, 100]⟩ false _ HA.out HK.out.snt HK.out.size HB.out 0 sx2 sy2 rfl).mono ?_
  rintro e w2 ⟨rfl, hA, ho⟩
  replace HA := Lib.hid hA
  replace HK := Lib.hid (HK.out.buf HB.out ho)
  clear hA ho
  go_wp2_with fail
  refine (put_v b g1 g2 B sx2 c f r g 1 ⟨#[120]⟩ false _ HA.out HK.out.snt HK.out.size HB.out 160 sx2 sy3 rfl).mono ?_
  rintro e w3 ⟨rfl, hA, ho⟩
  replace HA := Lib.hid hA
  replace HK := Lib.hid (HK.out.buf HB.out ho)
  clear hA ho
  go_wp2_with fail
  refine (ready_c b g1 g2 sx2 _ HA.out).mono ?_
  rintro e w4 ⟨rfl, rfl⟩
  rw [sy4]
  go_wp2_with fail
  refine (put_v b g1 g2 B sx2 c f r g 9 ⟨#[106, 107]⟩ false _ HA.out HK.out.snt HK.out.size HB.out 162 sx2 sy5 rfl).mono ?_
  rintro e w5 ⟨rfl, hA, ho⟩
  replace HA := Lib.hid hA
  replace HK := Lib.hid (HK.out.buf HB.out ho)
  clear hA ho
  go_wp2_with fail
  refine (read_v b g1 g2 sx2 _ HA.out 9 6 ⟨#[97, 98, 99, 100, 101, 102]⟩ false sx3 sy6 so6 sz6 rfl sp6).mono ?_
  rintro e w6 ⟨rfl, hA, ho⟩
  replace HA := Lib.hid hA
  replace HK := Lib.hid (HK.out.buf HB.out ho)
  clear hA ho
  go_wp2_with fail
  refine (put_v b g1 g2 B sx3 c f r g 6 ⟨#[103]⟩ true _ HA.out HK.out.snt HK.out.size HB.out 0 sx4 sy7 rfl).mono ?_
  rintro e w7 ⟨rfl, hA, ho⟩
  replace HA := Lib.hid hA
  replace HK := Lib.hid (HK.out.buf HB.out ho)
  clear hA ho
  go_wp2_with fail
  refine (put_v b g1 g2 B sx4 c f r g 6 ⟨#[103, 104]⟩ false _ HA.out HK.out.snt HK.out.size HB.out 161 sx4 sy8 rfl).mono ?_
  rintro e w8 ⟨rfl, hA, ho⟩
  replace HA := Lib.hid hA
  replace HK := Lib.hid (HK.out.buf HB.out ho)
  clear hA ho
  go_wp2_with fail
  refine (read_v b g1 g2 sx4 _ HA.out 9 1 ⟨#[103]⟩ true sx5 sy9 so9 sz9 rfl sp9).mono ?_
  rintro e w9 ⟨rfl, hA, ho⟩
  replace HA := Lib.hid hA
  replace HK := Lib.hid (HK.out.buf HB.out ho)
  clear hA ho
  go_wp2_with fail
  refine (final_c b g1 g2 sx5 _ HA.out).mono ?_
  rintro e wf ⟨rfl, hA, ho⟩
  replace HA := Lib.hid hA
  replace HK := Lib.hid (HK.out.none ho)
  clear hA ho
  rw [sf1.1, sf1.2.1]
  go_wp2_with fail
  refine (offset_c b g1 g2 sx5 _ HA.out).mono ?_
  rintro e wo ⟨rfl, rfl⟩
  rw [sf1.2.2.1]
  go_wp2_with fail
  refine (highest_c b g1 g2 sx5 _ HA.out).mono ?_
  rintro e wo ⟨rfl, rfl⟩
  rw [sf1.2.2.2]
  go_wp2_with fail
  go_ret
  exact ⟨rfl, HK.out⟩
end Go.Proofs.YtnnmmmeppbdlnaaDoor
