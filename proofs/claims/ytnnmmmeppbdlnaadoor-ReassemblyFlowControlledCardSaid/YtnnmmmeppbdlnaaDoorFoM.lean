/- ReassemblyFlowControlled: what lies in memory between two steps. -/
import Derived.Test.YtnnmmmeppbdlnaaDoorFoW
import Derived.Test.YtnnmmmeppbdlnaaDoorFoC
import Derived.Deep.CutRange
namespace Go.Proofs.YtnnmmmeppbdlnaaDoor
open Go Go.RowKit
set_option linter.unusedVariables false
set_option linter.unusedSectionVars false
set_option linter.unusedSimpArgs false

/-- The buffer, the receiver, the sender, the wire. -/
structure Mm (B base b0 g0 h0 rb sb : Nat) (c f r g : Addr) (w : World) (W got sent m h : Nat) (v : Value) (L : List (Nat × Nat)) (x : Bf) (wx : World) : Prop where
  buf : BufAt wx b0 g0 h0 x
  rc : At wx rb 78 #[.int .i64 m, .int .i64 W, .int .i64 h, .int .i64 got]
  sn : At wx sb 80 #[.int .i64 m, .int .i64 sent, .int .i64 0]
  wi : Wire wx base v L
  kp : Kp B c f r g w wx
  sz : base ≤ wx.heap.size
structure Dj (B base b0 g0 h0 rb sb : Nat) : Prop where
  lo : B ≤ b0 ∧ B ≤ g0 ∧ B ≤ h0 ∧ B ≤ rb ∧ B ≤ sb
  hi : b0 < base ∧ g0 < base ∧ h0 < base ∧ rb < base ∧ sb < base
  dj : rb ≠ b0 ∧ rb ≠ g0 ∧ rb ≠ h0 ∧ sb ≠ b0 ∧ sb ≠ g0 ∧ sb ≠ h0 ∧ rb ≠ sb
section
variable {B base b0 g0 h0 rb sb : Nat} {c f r g : Addr} {w wx wy : World} {W got sent m h : Nat} {v : Value} {L : List (Nat × Nat)} {x : Bf}
theorem Dj.bw (D : Dj B base b0 g0 h0 rb sb) : B ≤ b0 ∧ B ≤ g0 ∧ B ≤ h0 := ⟨D.lo.1, D.lo.2.1, D.lo.2.2.1⟩
theorem Dj.Bb (D : Dj B base b0 g0 h0 rb sb) : B ≤ base := by have := D.lo; have := D.hi; omega
variable (M : Mm B base b0 g0 h0 rb sb c f r g w W got sent m h v L x wx) (D : Dj B base b0 g0 h0 rb sb)
include M D
theorem Mm.kpo {S : List Nat} (ho : Only S wx wy) (hS : ∀ k ∈ S, B ≤ k) : Kp B c f r g w wy := M.kp.only ho hS
theorem Mm.under {v' : Value} {L' : List (Nat × Nat)} (ho : Below base wx wy) (hw : Wire wy base v' L') : Mm B base b0 g0 h0 rb sb c f r g w W got sent m h v' L' x wy := by
  obtain ⟨lo, hi, dj⟩ := D
  have kb := Below.mono ho (show B ≤ base by omega)
  have hk := M.kp.bel.trans kb
  refine ⟨?_, M.rc.below ho (by omega), M.sn.below ho (by omega), hw, ⟨M.kp.snt.below kb, Nat.le_trans M.kp.size ho.size, hk⟩, Nat.le_trans M.sz ho.size⟩
  exact ⟨M.buf.at_.below ho (by omega), M.buf.rb.block (ho.block _ (by omega)), M.buf.rh.block (ho.block _ (by omega)), M.buf.d1, M.buf.d2, M.buf.d3, M.buf.n1, M.buf.n0, M.buf.p0, M.buf.p1, M.buf.h0, M.buf.h1⟩
theorem Mm.new (ho : Below wx.heap.size wx wy) : Mm B base b0 g0 h0 rb sb c f r g w W got sent m h v L x wy :=
  M.under D (ho.mono M.sz) (M.wi.keep (S := []) (Only.of_below ho) (by simp))
theorem Mm.putb {y : Bf} (hA : BufAt wy b0 g0 h0 y) (ho : Only [b0, g0, h0] wx wy) : Mm B base b0 g0 h0 rb sb c f r g w W got sent m h v L y wy := by
  obtain ⟨lo, hi, dj⟩ := D
  exact ⟨hA, M.rc.keep ho (by simp; omega), M.sn.keep ho (by simp; omega), M.wi.keep ho (by simp; omega), M.kp.only ho (by simp; omega), Nat.le_trans M.sz ho.size⟩
theorem Mm.rcv {m' h' got' : Nat} {x' y' z' : Int} (hA : At wy rb 78 #[.int .i64 x', .int .i64 W, .int .i64 y', .int .i64 z']) (ho : Only [rb] wx wy) (e1 : x' = m') (e2 : y' = h') (e3 : z' = got') (hm : m' = m) : Mm B base b0 g0 h0 rb sb c f r g w W got' sent m h' v L x wy := by
  obtain ⟨lo, hi, dj⟩ := D
  subst e1 e2 e3 hm
  exact ⟨M.buf.keep ho (by simp; omega) (by simp; omega) (by simp; omega), hA, M.sn.keep ho (by simp; omega), M.wi.keep ho (by simp; omega), M.kp.only ho (by simp; omega), Nat.le_trans M.sz ho.size⟩
theorem Mm.snd {sent' : Nat} {x' : Int} (hA : At wy sb 80 #[.int .i64 m, .int .i64 x', .int .i64 0]) (ho : Only [sb] wx wy) (e1 : x' = sent') : Mm B base b0 g0 h0 rb sb c f r g w W got sent' m h v L x wy := by
  obtain ⟨lo, hi, dj⟩ := D
  subst e1
  exact ⟨M.buf.keep ho (by simp; omega) (by simp; omega) (by simp; omega), M.rc.keep ho (by simp; omega), hA, M.wi.keep ho (by simp; omega), M.kp.only ho (by simp; omega), Nat.le_trans M.sz ho.size⟩
/-- A block of the round's own is written. -/
theorem Mm.far {bx : Nat} (ho : Only [bx] wx wy) (hb : base ≤ bx) (hn : ∀ j, v.ownBlock = some j → j ≠ bx) : Mm B base b0 g0 h0 rb sb c f r g w W got sent m h v L x wy := by
  refine M.under D (ho.below (by simp; omega) M.sz) ?_
  refine ⟨M.wi.1, ?_⟩
  rcases M.wi.2 with h2 | ⟨g, cap, cur, rfl, hb, hg, h1, h2, h3, h4⟩
  · exact .inl h2
  · exact .inr ⟨g, cap, cur, rfl, hb, (ho.block g (Array.getElem?_eq_some_iff.1 hg).1 (by simp; exact hn g rfl)).trans hg, h1, h2, h3, h4⟩
/-- The limit is raised at both ends. -/
theorem Mm.both {wz : World} {m' : Nat} {x' y' : Int} (hA : At wy rb 78 #[.int .i64 x', .int .i64 W, .int .i64 h, .int .i64 got]) (ho : Only [rb] wx wy) (hS : At wz sb 80 #[.int .i64 y', .int .i64 sent, .int .i64 0]) (hz : Only [sb] wy wz) (e1 : x' = m') (e2 : y' = m') : Mm B base b0 g0 h0 rb sb c f r g w W got sent m' h v L x wz := by
  obtain ⟨lo, hi, dj⟩ := D
  subst e1 e2
  have M1 := (M.buf.keep ho (by simp; omega) (by simp; omega) (by simp; omega))
  exact ⟨M1.keep hz (by simp; omega) (by simp; omega) (by simp; omega), hA.keep hz (by simp; omega), hS, (M.wi.keep ho (by simp; omega)).keep hz (by simp; omega), (M.kp.only ho (by simp; omega)).only hz (by simp; omega), Nat.le_trans M.sz (Nat.le_trans ho.size hz.size)⟩
end
end Go.Proofs.YtnnmmmeppbdlnaaDoor
