/- Plain law of frames: what is read fits the machine. -/
import Derived.Test.YtmmgmpghkpbgkaaFrZc
namespace Go.Proofs.Ytmmgmpghkpbgkaa
open Go Go.RowKit
set_option linter.unusedVariables false
set_option linter.unusedSimpArgs false

/-- A frame of numbers that fit, its strings no longer than N. -/
structure FrN (f : Fr) : Prop where
  wf : FrWf f
  inr : InR f.rg
theorem FrWf.set {f : Fr} (h : FrWf f) (x : Fld) (n : Int) (hn : 0 ≤ n ∧ n ≤ 4611686018427387903) : FrWf (f.set x n) := by
  have b : -9223372036854775808 ≤ n ∧ n ≤ 9223372036854775807 := by omega
  obtain ⟨a1, a2, a3, a4, a5, a6, a7, a8, a9⟩ := h
  cases x
  · exact ⟨b, a2, a3, a4, a5, a6, a7, a8, a9⟩
  · exact ⟨a1, a2, b, a4, a5, a6, a7, a8, a9⟩
  · exact ⟨a1, a2, a3, b, a5, a6, a7, a8, a9⟩
  · exact ⟨a1, b, a3, a4, a5, a6, a7, a8, a9⟩
  · exact ⟨a1, a2, a3, a4, a5, b, a7, a8, a9⟩
  · exact ⟨a1, a2, a3, a4, b, a6, a7, a8, a9⟩
theorem numD_bd {l r : List UInt8} {n : Int} (h : numD l = some (n, r)) : (0 ≤ n ∧ n ≤ 4611686018427387903) ∧ r.length ≤ l.length := by
  obtain ⟨a, b, rfl⟩ := numD_some h
  exact ⟨⟨a, b⟩, by simp⟩
theorem rngD_bd (n : Nat) : ∀ (acc out : List (Int × Int)) (l r : List UInt8), rngD n acc l = some (out, r) → out.length = acc.length + n ∧ r.length ≤ l.length := by
  induction n with
  | zero => intro acc out l r h; simp only [rngD, Option.some.injEq, Prod.mk.injEq] at h; obtain ⟨rfl, rfl⟩ := h; exact ⟨rfl, Nat.le_refl _⟩
  | succ n ih =>
    intro acc out l r h
    simp only [rngD] at h
    cases ha : numD l with
    | none => rw [ha] at h; simp at h
    | some p =>
      obtain ⟨a, l1⟩ := p
      rw [ha] at h
      simp only at h
      cases hb : numD l1 with
      | none => rw [hb] at h; simp at h
      | some q =>
        obtain ⟨b, l2⟩ := q
        rw [hb] at h
        simp only at h
        obtain ⟨i1, i2⟩ := ih _ _ _ _ h
        have := (numD_bd ha).2
        have := (numD_bd hb).2
        simp at i1
        exact ⟨by omega, by omega⟩
theorem getP_wf {p : Pt} {g g' : Fr} {l r : List UInt8} (h : getP p g l = some (g', r)) (hw : FrWf g) (hl : l.length ≤ 4611686018427387903) : FrWf g' ∧ r.length ≤ l.length ∧ g'.rg.length ≤ g.rg.length + 16 := by
  cases p with
  | int most x =>
    simp only [getP, Option.map_eq_some_iff, Prod.mk.injEq] at h
    obtain ⟨⟨n, t⟩, hn, rfl, rfl⟩ := h
    obtain ⟨h1, h2⟩ := numD_bd hn
    exact ⟨hw.set x n h1, h2, by rw [set_rg]; omega⟩
  | text least most =>
    simp only [getP] at h
    cases hn : numD l with
    | none => rw [hn] at h; cases h
    | some q =>
      obtain ⟨n, t⟩ := q
      rw [hn] at h
      simp only at h
      obtain ⟨h1, h2⟩ := numD_bd hn
      split at h
      · cases h
      · simp only [Option.some.injEq, Prod.mk.injEq] at h
        obtain ⟨rfl, rfl⟩ := h
        obtain ⟨a1, a2, a3, a4, a5, a6, a7, a8, a9⟩ := hw
        refine ⟨⟨a1, a2, a3, a4, a5, a6, a7, ?_, a9⟩, ?_, ?_⟩
        · simp only [List.length_take]; omega
        · simp only [List.length_drop]; omega
        · show g.rg.length ≤ _; omega
  | chal =>
    simp only [getP] at h
    split at h
    · cases h
    · simp only [Option.some.injEq, Prod.mk.injEq] at h
      obtain ⟨rfl, rfl⟩ := h
      obtain ⟨a1, a2, a3, a4, a5, a6, a7, a8, a9⟩ := hw
      refine ⟨⟨a1, a2, a3, a4, a5, a6, a7, ?_, a9⟩, ?_, ?_⟩
      · simp only [List.length_take]; omega
      · simp only [List.length_drop]; omega
      · show g.rg.length ≤ _; omega
  | cidp =>
    simp only [getP] at h
    split at h
    · cases h
    · simp only [Option.some.injEq, Prod.mk.injEq] at h
      obtain ⟨rfl, rfl⟩ := h
      obtain ⟨a1, a2, a3, a4, a5, a6, a7, a8, a9⟩ := hw
      refine ⟨⟨a1, a2, a3, a4, a5, a6, a7, a8, ?_⟩, ?_, ?_⟩
      · simp only [List.length_take]; omega
      · simp only [List.length_drop]; omega
      · show g.rg.length ≤ _; omega
  | uni =>
    cases l with
    | nil => cases h
    | cons x t =>
      simp only [getP] at h
      split at h
      · cases h
      · simp only [Option.some.injEq, Prod.mk.injEq] at h
        obtain ⟨rfl, rfl⟩ := h
        obtain ⟨a1, a2, a3, a4, a5, a6, a7, a8, a9⟩ := hw
        exact ⟨⟨a1, a2, a3, a4, a5, a6, a7, a8, a9⟩, by simp, by show g.rg.length ≤ _; omega⟩
  | retire =>
    simp only [getP, Option.map_eq_some_iff, Prod.mk.injEq] at h
    obtain ⟨⟨n, t⟩, hn, rfl, rfl⟩ := h
    obtain ⟨h1, h2⟩ := numD_bd hn
    obtain ⟨a1, a2, a3, a4, a5, a6, a7, a8, a9⟩ := hw
    exact ⟨⟨a1, a2, a3, a4, a5, a6, by show _ ≤ n ∧ n ≤ _; omega, a8, a9⟩, h2, by show g.rg.length ≤ _; omega⟩
  | ranges =>
    simp only [getP] at h
    cases hn : numD l with
    | none => rw [hn] at h; cases h
    | some q =>
      obtain ⟨n, t⟩ := q
      rw [hn] at h
      simp only at h
      obtain ⟨h1, h2⟩ := numD_bd hn
      split at h
      · cases h
      · simp only [Option.map_eq_some_iff, Prod.mk.injEq] at h
        obtain ⟨⟨o, t2⟩, ho, rfl, rfl⟩ := h
        obtain ⟨h3, h4⟩ := rngD_bd _ _ _ _ _ ho
        obtain ⟨a1, a2, a3, a4, a5, a6, a7, a8, a9⟩ := hw
        refine ⟨⟨a1, a2, a3, a4, a5, a6, a7, a8, a9⟩, by show t2.length ≤ _; omega, ?_⟩
        show o.length ≤ _
        omega
theorem gets_wf (L : List Pt) : ∀ {g f : Fr} {l r : List UInt8}, gets L g l = some (f, r) → FrWf g → l.length ≤ 4611686018427387903 → FrWf f ∧ r.length ≤ l.length ∧ f.rg.length ≤ g.rg.length + 16 * L.length := by
  induction L with
  | nil => intro g f l r h hw hl; simp only [gets, Option.some.injEq, Prod.mk.injEq] at h; obtain ⟨rfl, rfl⟩ := h; exact ⟨hw, Nat.le_refl _, by omega⟩
  | cons p L ih =>
    intro g f l r h hw hl
    simp only [gets] at h
    cases hp : getP p g l with
    | none => rw [hp] at h; cases h
    | some q =>
      obtain ⟨g1, l1⟩ := q
      rw [hp] at h
      simp only at h
      obtain ⟨a, b, c⟩ := getP_wf hp hw hl
      obtain ⟨d, e, f2⟩ := ih h a (by omega)
      refine ⟨d, by omega, ?_⟩
      simp only [List.length_cons]; omega
theorem zero_wf (ty : Int) : FrWf (Fr.zero ty) := by
  constructor <;> simp [Fr.zero]
theorem head_wf (x : UInt8) : FrWf (headF x) ∧ (headF x).rg = [] ∧ 0 ≤ (headF x).ty ∧ (headF x).ty ≤ 255 := by
  have := x.toNat_lt
  unfold headF
  split
  · exact ⟨⟨by simp [Fr.zero], by simp [Fr.zero], by simp [Fr.zero], by simp [Fr.zero], by simp [Fr.zero], by simp [Fr.zero], by simp [Fr.zero], by simp [Fr.zero], by simp [Fr.zero]⟩, rfl, by show (0 : Int) ≤ 8; omega, by show (8 : Int) ≤ 255; omega⟩
  · exact ⟨zero_wf _, rfl, by show (0 : Int) ≤ x.toNat; omega, by show ((x.toNat : Nat) : Int) ≤ 255; omega⟩
/-- What reading the parts and checking the frame yields. -/
noncomputable def rdF (g : Fr) (l : List UInt8) : Option (Fr × List UInt8) := match gets ((tab g.ty).getD []) g l with
  | none => none
  | some (f, l1) => match encF f with
      | none => none
      | some _ => some (f, l1)
theorem decF_cons (x : UInt8) (r : List UInt8) : decF (x :: r) = rdF (headF x) r := rfl
end Go.Proofs.Ytmmgmpghkpbgkaa
