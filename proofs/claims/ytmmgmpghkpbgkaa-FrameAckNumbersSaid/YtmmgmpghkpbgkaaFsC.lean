/- Contracts of the law's helpers: FrameFrom, type by type. -/
import Derived.Test.YtmmgmpghkpbgkaaFsB
import Derived.Test.YtmmgmpghkpbgkaaFrJ
namespace Go.Proofs.Ytmmgmpghkpbgkaa
open Go Go.RowKit
set_option linter.unusedVariables false
set_option linter.unusedSimpArgs false

/-- The cells of the parameters of a generated frame. -/
def fpC (ty A B C : Int) (s : ByteArray) (fin : Bool) (sv : Value) : Array Value := #[.int .i64 ty, .int .i64 A, .int .i64 B, .int .i64 C, .string s, .bool fin, sv]
def few (s : ByteArray) : List UInt8 := s.data.toList.take 60
theorem few_len (s : ByteArray) : (few s).length ≤ 60 := by unfold few; rw [List.length_take]; omega
theorem few_str (s : ByteArray) (n : Nat) (h : n = min s.size 60) : s.extract 0 n = strB (few s) := by
  subst h
  rw [ext_list]
  unfold few
  rw [List.drop_zero, Nat.sub_zero]
  congr 1
  rw [← size_list s]
  rcases Nat.le_total s.data.toList.length 60 with h | h
  · rw [Nat.min_eq_left h, List.take_length, List.take_of_length_le h]
  · rw [Nat.min_eq_right h]
/-- The frame, and where it lies. -/
def FfQ (T A B C : Int) (s : ByteArray) (fin : Bool) (w : World) (e : Ending) (w' : World) : Prop := ∃ rv R, e = .returned (.agg (frC (genF T A B C (few s) fin R) rv)) ∧ RgAt w' rv (genF T A B C (few s) fin R).rg ∧ RgNew w.heap.size rv ∧
  (R ≠ [] ∧ R.length ≤ 16 ∧ RgOk 281474976710658 R) ∧ Only [] w w'
theorem FfQ.plain {T A B C : Int} {s : ByteArray} {fin : Bool} {w w' : World} {v : Value} (f : Fr) (hf : genF T A B C (few s) fin [(0, 1)] = f) (hr : f.rg = []) (ho : Only [] w w') (hv : v = .agg (frC f (.slice none 0 0))) : FfQ T A B C s fin w (.returned v) w' :=
  ⟨.slice none 0 0, [(0, 1)], by rw [hf, hv], by rw [hf, hr]; exact RgAt.nil _, RgNew.nil _, ⟨by simp, by simp, ⟨by omega, by omega, by omega, by omega, trivial⟩⟩, ho⟩
end Go.Proofs.Ytmmgmpghkpbgkaa
