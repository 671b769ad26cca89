/- Pieces of the test data, what Put answers where the bytes agree. -/
import Derived.Test.YtnnmmmeppbdlnaaDoorSnQ
namespace Go.Proofs.YtnnmmmeppbdlnaaDoor
open Go Go.RowKit
set_option linter.unusedVariables false
set_option linter.unusedSectionVars false
set_option linter.unusedSimpArgs false

theorem pick_v (v m : Int) (k : Nat) (w : World) (hk : pickI v m = k) (hm : 0 < m) (hm2 : m ≤ 1000000) (hw : (Lit.int .i64 v).wf = true) : Calls Tryd.prog 25 #[.int .i64 v, .int .i64 m] w fun e w' => e = .returned (.int .i64 k) ∧ w = w' := by
  have h2 := wf_i64 hw
  have := pick_c v m w hm hm2 (by omega) (by omega)
  rw [hk] at this
  exact this
theorem pick_nat (v m : Int) (hm : 0 < m) : ∃ k : Nat, pickI v m = k ∧ (k : Int) < m :=
  ⟨(pickI v m).toNat, by have := pickI_bd v m hm; omega, by have := pickI_bd v m hm; omega⟩
/-- The string of n bytes of the test data from f on. -/
def cutS (f n : Nat) : ByteArray := strB (cutT txt f n)
theorem cutS_size (f n : Nat) : (cutS f n).size = n := by unfold cutS; rw [strB_size, cutT_len]
theorem cutS_list (f n : Nat) : (cutS f n).data.toList = cutT txt f n := strB_list _
theorem txtS_cut (N : Nat) : txtS N = cutS 0 N := by unfold txtS cutS cutT; simp
theorem txtS_size (N : Nat) : (txtS N).size = N := by rw [txtS_cut, cutS_size]
theorem ext_strB (l : List UInt8) (a b : Nat) : (strB l).extract a b = strB ((l.drop a).take (b - a)) := by
  apply ByteArray.ext
  simp [strB, ByteArray.data_extract, List.extract_eq_take_drop]
theorem cutT_sub (f n a m : Nat) (h : a + m ≤ n) : ((cutT txt f n).drop a).take m = cutT txt (f + a) m := by
  unfold cutT
  apply List.ext_getElem
  · simp; omega
  · intro i h1 h2
    simp [Nat.add_assoc]
theorem cutS_ext (f n a m : Nat) (h : a + m ≤ n) : (cutS f n).extract a (a + m) = cutS (f + a) m := by
  unfold cutS
  rw [ext_strB, show a + m - a = m by omega, cutT_sub f n a m h]
theorem txtS_ext (N a m : Nat) (h : a + m ≤ N) : (txtS N).extract a (a + m) = cutS a m := by rw [txtS_cut, cutS_ext 0 N a m h, Nat.zero_add]
theorem slice_txt (N a m : Nat) (h : a + m ≤ N) (w : World) : (Instr.slice 9 (.string (txtS N)) (some (.int .i64 a)) (some (.int .i64 (a + m : Int))) none).run Tryd.prog w = .ok (.string (cutS a m)) w := by
  rw [run_slice_string_if w 9 _ _ _ _ _ Tryd.underlying9]
  have hs := txtS_size N
  have e1 : ((a : Int) + m).toNat = a + m := by omega
  rw [if_pos (by rw [hs]; omega), if_pos (by omega), e1, Int.toNat_natCast, txtS_ext N a m h]
/-- The bytes that are held are those of the test data. -/
structure Tx (b : Bf) : Prop where
  p0 : 0 ≤ b.pos
  bytes : ∀ k : Nat, k < b.n → b.H k = true → b.B k = txt (b.pos.toNat + k)
theorem Tx.new (n : Nat) : Tx (Bf.new n) := ⟨by simp [Bf.new], fun k _ h => by simp [Bf.new] at h⟩
theorem Tx.agr {b : Bf} (h : Tx b) (f n : Nat) : b.agrB f (cutT txt f n) = true := by
  rw [Bf.agrB_iff]
  intro i k hi he hk hH
  rw [cutT_len] at hi
  have := h.p0
  rw [cutT_get txt f n i hi, h.bytes k hk hH]
  congr 1; omega
theorem Tx.hold {b : Bf} (h : Tx b) (f n : Nat) (z : Bool) : Tx (b.hold f (cutT txt f n) z) := by
  refine ⟨h.p0, fun k hk hH => ?_⟩
  have p0 := h.p0
  simp only [Bf.hold, cutT_len] at hH hk ⊢
  by_cases c : (f : Int) ≤ b.pos + k ∧ b.pos + k < (f : Int) + n
  · rw [if_pos c, cutT_get txt f n _ (by omega)]
    congr 1; omega
  · rw [if_neg c] at hH ⊢
    exact h.bytes k hk hH
theorem Tx.read {b : Bf} (h : Tx b) (c : Nat) : Tx (b.read c) := by
  refine ⟨by have := h.p0; simp only [Bf.read]; omega, fun k hk hH => ?_⟩
  have p0 := h.p0
  simp only [Bf.read] at hH hk ⊢
  by_cases e : k + c < b.n
  · rw [if_pos e] at hH ⊢
    rw [h.bytes _ e hH]
    congr 1; omega
  · rw [if_neg e] at hH; cases hH
/-- What Put answers where the piece is in range and the bytes agree. -/
theorem putC_agr (b : Bf) (off : Int) (s : List UInt8) (f : Bool) (h : b.agrB off s = true) (a0 : 0 ≤ off) (a1 : off ≤ 1000000) (a2 : s.length ≤ 8192) :
    b.putC off s f = bif b.finB (off + s.length) f then (bif decide (off + s.length ≤ b.pos + b.n) then 0 else 162) else 161 := by
  unfold Bf.putC
  rw [(Bf.argB_iff off s.length).2 ⟨a0, by omega, a2, by omega⟩, h]
  rfl
theorem Tx.put {b : Bf} (h : Tx b) (f n : Nat) (z : Bool) (a1 : f ≤ 1000000) (a2 : n ≤ 8192) :
    b.putC f (cutS f n).data.toList z = bif b.finB (f + n) z then (bif decide ((f : Int) + n ≤ b.pos + b.n) then 0 else 162) else 161 := by
  rw [cutS_list, putC_agr b f _ z (h.agr f n) (by omega) (by omega) (by rw [cutT_len]; exact a2), cutT_len]
theorem Tx.put_ok {b : Bf} (h : Tx b) (f n : Nat) (z : Bool) (a1 : f ≤ 1000000) (a2 : n ≤ 8192) (h1 : b.finOk (f + n) z) (h2 : (f : Int) + n ≤ b.pos + b.n) : b.putC f (cutS f n).data.toList z = 0 := by
  rw [h.put f n z a1 a2, (Bf.finB_iff _ _ _).2 h1, decide_eq_true h2]; rfl
theorem Tx.put_fin {b : Bf} (h : Tx b) (f n : Nat) (z : Bool) (a1 : f ≤ 1000000) (a2 : n ≤ 8192) (h1 : ¬ b.finOk (f + n) z) : b.putC f (cutS f n).data.toList z = 161 := by
  rw [h.put f n z a1 a2, show b.finB (f + n) z = false from Bool.eq_false_iff.2 (fun hh => h1 ((Bf.finB_iff _ _ _).1 hh))]; rfl
theorem Tx.put_room {b : Bf} (h : Tx b) (f n : Nat) (z : Bool) (a1 : f ≤ 1000000) (a2 : n ≤ 8192) (h1 : b.finOk (f + n) z) (h2 : ¬ (f : Int) + n ≤ b.pos + b.n) : b.putC f (cutS f n).data.toList z = 162 := by
  rw [h.put f n z a1 a2, (Bf.finB_iff _ _ _).2 h1, decide_eq_false h2]; rfl
end Go.Proofs.YtnnmmmeppbdlnaaDoor
