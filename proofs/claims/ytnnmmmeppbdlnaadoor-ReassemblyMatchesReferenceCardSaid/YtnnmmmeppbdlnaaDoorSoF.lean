/- The reference's Put whole; what stands of a buffer in every round of ReassemblyMatchesReference. -/
import Derived.Test.YtnnmmmeppbdlnaaDoorSoC
import Derived.Test.YtnnmmmeppbdlnaaDoorSoE
import Derived.Test.YtnnmmmeppbdlnaaDoorSnQ
namespace Go.Proofs.YtnnmmmeppbdlnaaDoor
open Go Go.RowKit
set_option linter.unusedVariables false
set_option linter.unusedSectionVars false
set_option linter.unusedSimpArgs false

theorem xput_v (b g1 g2 c1 c2 : Nat) (x : Bf) (off : Int) (s : ByteArray) (fl : Bool) (w : World) (hA : XBuf w b g1 g2 c1 c2 x) (hw : -9223372036854775808 ≤ off ∧ off ≤ 9223372036854775807) (k : Int) (y : Bf) (hk : x.putC off s.data.toList fl = k) (hy : (bif k == 0 then x.hold off s.data.toList fl else x) = y) :
    Calls Tryd.prog 17 #[.pointer (some ⟨b, 0, none⟩), .int .i64 off, .string s, .bool fl] w fun e w' => e = .returned (.int .i64 k) ∧ XBuf w' b g1 g2 c1 c2 y ∧ Only [b, g1, g2] w w' := by
  subst hk hy
  have hl : s.data.toList.length = s.size := by simp
  cases h0 : Bf.argB off s.size with
  | false =>
    rw [show x.putC off s.data.toList fl = 2 by simp [Bf.putC, hl, h0]]
    exact (xput_arg b g1 g2 c1 c2 x off s fl w hA h0 hw).mono (by rintro e w' ⟨h1, rfl⟩; exact ⟨h1, hA, Only.refl _ _⟩)
  | true => exact xput_ok b g1 g2 c1 c2 x off s fl w hA h0
theorem xread_v (b g1 g2 c1 c2 : Nat) (x : Bf) (w : World) (hA : XBuf w b g1 g2 c1 c2 x) (m : Int) (k : Nat) (o : ByteArray) (z : Bool) (y : Bf) (hk : x.many m = k) (ho : strB (x.out k) = o) (hz : x.last k = z) (hy : x.read k = y) (hp : x.pos + k ≤ 1099511627776) :
    Calls Tryd.prog 15 #[.pointer (some ⟨b, 0, none⟩), .int .i64 m] w fun e w' => ∃ g3 g4 c3 c4, e = .returned (.tuple #[.string o, .bool z]) ∧ XBuf w' b g3 g4 c3 c4 y ∧ Only [b] w w' ∧ w.heap.size ≤ g3 ∧ w.heap.size ≤ g4 := by
  subst hk ho hz hy
  exact xread_c b g1 g2 c1 c2 x w hA m hp
/-- What holds of the buffer in every round: no final size is 0; no byte is held at or beyond the largest offset. -/
structure Mi (x : Bf) : Prop where
  f0 : x.kn = false → x.fin = 0
  hb : ∀ k : Nat, k < x.n → x.H k = true → x.pos + k < 1099511627776
theorem Mi.new (n : Nat) : Mi (Bf.new n) := ⟨fun _ => rfl, fun k _ h => by simp [Bf.new] at h⟩
theorem Mi.many {x : Bf} (h : Mi x) (hp : x.pos ≤ 1099511627776) (c : Nat) (hc : c ≤ x.ready) : x.pos + c ≤ 1099511627776 := by
  have hr := x.ready_le
  by_cases e : c = 0
  · omega
  · have := h.hb (c - 1) (by omega) (x.held _ (by omega)); omega
theorem Mi.read {x : Bf} (h : Mi x) (c : Nat) : Mi (x.read c) := by
  refine ⟨h.f0, fun k hk hH => ?_⟩
  simp only [Bf.read] at hk hH ⊢
  by_cases e : k + c < x.n
  · rw [if_pos e] at hH
    have := h.hb _ e hH
    omega
  · rw [if_neg e] at hH; cases hH
theorem putC_arg {x : Bf} {off : Int} {s : List UInt8} {fl : Bool} (h : x.putC off s fl = 0) : Bf.argB off s.length = true := by
  unfold Bf.putC at h
  cases h0 : Bf.argB off s.length with
  | true => rfl
  | false => rw [h0] at h; simp at h
theorem Mi.put {x : Bf} (h : Mi x) (off : Int) (s : List UInt8) (fl : Bool) (k : Int) (y : Bf) (hk : x.putC off s fl = k) (hy : (bif k == 0 then x.hold off s fl else x) = y) : Mi y := by
  subst hy
  cases hz : (k == 0) with
  | false => exact h
  | true =>
    rw [beq_iff_eq.1 hz] at hk
    obtain ⟨q0, q1, q2, q3⟩ := (Bf.argB_iff off s.length).1 (putC_arg hk)
    refine ⟨fun hn => ?_, fun j hj hH => ?_⟩
    · simp only [Bf.hold, cond_true] at hn ⊢
      cases fl with
      | true => simp at hn
      | false => simpa using h.f0 (by simpa using hn)
    · simp only [Bf.hold, cond_true] at hj hH ⊢
      by_cases c : off ≤ x.pos + j ∧ x.pos + j < off + s.length
      · omega
      · rw [if_neg c] at hH; exact h.hb j hj hH
end Go.Proofs.YtnnmmmeppbdlnaaDoor
