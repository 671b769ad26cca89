/- Contracts of the law's helpers: FrameFrom builds a valid frame. -/
import Derived.Test.YtmmgmpghkpbgkaaFsD
import Derived.Test.YtmmgmpghkpbgkaaFsE
import Derived.Test.YtmmgmpghkpbgkaaFsF
namespace Go.Proofs.Ytmmgmpghkpbgkaa
open Go Go.RowKit
set_option linter.unusedVariables false
set_option linter.unusedSimpArgs false

theorem ite_all {α : Type} {P : α → Prop} {c : Prop} [Decidable c] {a b : α} (h1 : c → P a) (h2 : ¬ c → P b) : P (if c then a else b) := by
  by_cases h : c
  · rw [if_pos h]; exact h1 h
  · rw [if_neg h]; exact h2 h
theorem genF_ty (ty A B C : Int) (fw : List UInt8) (fin : Bool) (rg : List (Int × Int)) : (genF ty A B C fw fin rg).ty = ty := by
  show (fun f : Fr => f.ty = ty) (genF ty A B C fw fin rg)
  unfold genF
  repeat' refine ite_all (P := fun f : Fr => f.ty = ty) (fun _ => ?_) (fun _ => ?_)
  all_goals exact rfl
theorem genF_rg (ty A B C : Int) (fw : List UInt8) (fin : Bool) (rg : List (Int × Int)) : (genF ty A B C fw fin rg).rg = rg ∨ (genF ty A B C fw fin rg).rg = [] := by
  show (fun f : Fr => f.rg = rg ∨ f.rg = []) (genF ty A B C fw fin rg)
  unfold genF
  repeat' refine ite_all (P := fun f : Fr => f.rg = rg ∨ f.rg = []) (fun _ => ?_) (fun _ => ?_)
  all_goals first | exact .inr rfl | exact .inl rfl
theorem genF_wf (ty A B C : Int) (fw : List UInt8) (fin : Bool) (rg : List (Int × Int)) (hl : fw.length ≤ 60) : FrWf (genF ty A B C fw fin rg) := by
  have a1 := pkZ_bd A 4611686018427387904 (by omega)
  have a2 := pkZ_bd B 4611686018427387904 (by omega)
  have a3 := pkZ_bd B 1073741824 (by omega)
  have a4 := pkZ_bd C 1099511627777 (by omega)
  have a5 := pkZ_bd A 1099511627676 (by omega)
  have a6 := pkZ_bd B 1099511627676 (by omega)
  have a7 := pkZ_bd A 1073741824 (by omega)
  have a8 := pkZ_bd B (pkZ A 4611686018427387904 + 1) (by omega)
  unfold genF
  repeat' refine ite_all (P := FrWf) (fun _ => ?_) (fun _ => ?_)
  all_goals
    constructor
    all_goals
      simp only [Fr.zero, List.length_append, List.length_take, List.length_cons, List.length_nil]
      omega
/-- The types of generated frames. -/
def tyL : List Int := [0, 1, 2, 4, 5, 6, 7, 8, 16, 17, 18, 20, 21, 22, 24, 25, 26, 27, 28, 29, 30]
theorem tyL_tab : ∀ T ∈ tyL, ∃ l, tab T = some l := by
  intro T hT
  simp only [tyL, List.mem_cons, List.not_mem_nil, or_false] at hT
  rcases hT with rfl | rfl | rfl | rfl | rfl | rfl | rfl | rfl | rfl | rfl | rfl | rfl | rfl | rfl | rfl | rfl | rfl | rfl | rfl | rfl | rfl
  all_goals exact ⟨_, rfl⟩
/-- What FrameFrom answers. -/
def FfA (w : World) (e : Ending) (w' : World) : Prop := ∃ f rv s, e = .returned (.agg (frC f rv)) ∧ FrOk w' f rv ∧ RgNew w.heap.size rv ∧ encF f = some s ∧ f.ty ∈ tyL ∧ Only [] w w'
theorem FfQ.out {T A B C : Int} {s : ByteArray} {fin : Bool} {w w' : World} {e : Ending} (h : FfQ T A B C s fin w e w') (hT : T ∈ tyL) : FfA w e w' := by
  obtain ⟨rv, R, rfl, hR, hN, hO, ho⟩ := h
  have hb : 0 ≤ T ∧ T ≤ 30 := by
    simp only [tyL, List.mem_cons, List.not_mem_nil, or_false] at hT
    omega
  obtain ⟨t, ht⟩ := genF_valid T A B C (few s) fin R (few_len s) hO.1 hO.2.1 hO.2.2 (tyL_tab T hT)
  refine ⟨genF T A B C (few s) fin R, rv, t, rfl, ⟨genF_wf _ _ _ _ _ _ _ (few_len s), by rw [genF_ty]; omega, hR, ?_⟩, hN, ht, by rw [genF_ty]; exact hT, ho⟩
  rcases genF_rg T A B C (few s) fin R with h | h
  · rw [h]; have := hO.2.1; omega
  · rw [h]; simp
/-- The parameters fit. -/
structure FpOk (ty A B C : Int) (s : ByteArray) : Prop where
  b1 : -9223372036854775808 ≤ ty ∧ ty ≤ 9223372036854775807
  b2 : -9223372036854775808 ≤ A ∧ A ≤ 9223372036854775807
  b3 : -9223372036854775808 ≤ B ∧ B ≤ 9223372036854775807
  b4 : -9223372036854775808 ≤ C ∧ C ≤ 9223372036854775807
  b5 : s.size ≤ 9223372036854775807
theorem frameFrom_c (ty A B C : Int) (s : ByteArray) (fin : Bool) (sv : Value) (SL : List (Int × Int)) (w : World) (hS : RgAt w sv SL) (h : FpOk ty A B C s) :
    Calls Try.prog 24 #[.agg (fpC ty A B C s fin sv)] w (FfA w) := by
  obtain ⟨h1, h2, h3, h4, h5⟩ := h
  have hb := pkZ_bd ty 21 (by omega)
  obtain ⟨j, hj⟩ : ∃ j, pkZ ty 21 = j := ⟨_, rfl⟩
  rw [hj] at hb
  have hc : j = 0 ∨ j = 1 ∨ j = 2 ∨ j = 3 ∨ j = 4 ∨ j = 5 ∨ j = 6 ∨ j = 7 ∨ j = 8 ∨ j = 9 ∨ j = 10 ∨ j = 11 ∨ j = 12 ∨ j = 13 ∨ j = 14 ∨ j = 15 ∨ j = 16 ∨ j = 17 ∨ j = 18 ∨ j = 19 ∨ j = 20 := by omega
  rcases hc with rfl | rfl | rfl | rfl | rfl | rfl | rfl | rfl | rfl | rfl | rfl | rfl | rfl | rfl | rfl | rfl | rfl | rfl | rfl | rfl | rfl
  · exact (ff_0 ty A B C s fin sv SL w hS h1 h2 h3 h4 h5 hj).mono fun e w' h => h.out (by simp [tyL])
  · exact (ff_1 ty A B C s fin sv SL w hS h1 h2 h3 h4 h5 hj).mono fun e w' h => h.out (by simp [tyL])
  · exact (ff_2 ty A B C s fin sv SL w hS h1 h2 h3 h4 h5 hj).mono fun e w' h => h.out (by simp [tyL])
  · exact (ff_3 ty A B C s fin sv SL w hS h1 h2 h3 h4 h5 hj).mono fun e w' h => h.out (by simp [tyL])
  · exact (ff_4 ty A B C s fin sv SL w hS h1 h2 h3 h4 h5 hj).mono fun e w' h => h.out (by simp [tyL])
  · exact (ff_5 ty A B C s fin sv SL w hS h1 h2 h3 h4 h5 hj).mono fun e w' h => h.out (by simp [tyL])
  · exact (ff_6 ty A B C s fin sv SL w hS h1 h2 h3 h4 h5 hj).mono fun e w' h => h.out (by simp [tyL])
  · exact (ff_7 ty A B C s fin sv SL w hS h1 h2 h3 h4 h5 hj).mono fun e w' h => h.out (by simp [tyL])
  · exact (ff_8 ty A B C s fin sv SL w hS h1 h2 h3 h4 h5 hj).mono fun e w' h => h.out (by simp [tyL])
  · exact (ff_9 ty A B C s fin sv SL w hS h1 h2 h3 h4 h5 hj).mono fun e w' h => h.out (by simp [tyL])
  · exact (ff_10 ty A B C s fin sv SL w hS h1 h2 h3 h4 h5 hj).mono fun e w' h => h.out (by simp [tyL])
  · exact (ff_11 ty A B C s fin sv SL w hS h1 h2 h3 h4 h5 hj).mono fun e w' h => h.out (by simp [tyL])
  · exact (ff_12 ty A B C s fin sv SL w hS h1 h2 h3 h4 h5 hj).mono fun e w' h => h.out (by simp [tyL])
  · exact (ff_13 ty A B C s fin sv SL w hS h1 h2 h3 h4 h5 hj).mono fun e w' h => h.out (by simp [tyL])
  · exact (ff_14 ty A B C s fin sv SL w hS h1 h2 h3 h4 h5 hj).mono fun e w' h => h.out (by simp [tyL])
  · exact (ff_15 ty A B C s fin sv SL w hS h1 h2 h3 h4 h5 hj).mono fun e w' h => h.out (by simp [tyL])
  · exact (ff_16 ty A B C s fin sv SL w hS h1 h2 h3 h4 h5 hj).mono fun e w' h => h.out (by simp [tyL])
  · exact (ff_17 ty A B C s fin sv SL w hS h1 h2 h3 h4 h5 hj).mono fun e w' h => h.out (by simp [tyL])
  · exact (ff_18 ty A B C s fin sv SL w hS h1 h2 h3 h4 h5 hj).mono fun e w' h => h.out (by simp [tyL])
  · exact (ff_19 ty A B C s fin sv SL w hS h1 h2 h3 h4 h5 hj).mono fun e w' h => h.out (by simp [tyL])
  · exact (ff_20 ty A B C s fin sv SL w hS h1 h2 h3 h4 h5 hj).mono fun e w' h => h.out (by simp [tyL])
end Go.Proofs.Ytmmgmpghkpbgkaa
