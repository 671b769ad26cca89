/- Rows of frames put behind one another; lists of frames, encoded and read back. -/
import Derived.Test.YtmmgmpghkpbgkaaFtB
import Derived.Test.YtmmgmpghkpbgkaaFtC
import Derived.Deep.Upon
namespace Go.Proofs.Ytmmgmpghkpbgkaa
open Go Go.RowKit
set_option linter.unusedVariables false
set_option linter.unusedSimpArgs false

theorem eaF_app {a b : List Fr} : ∀ {x y : List UInt8}, eaF a = some x → eaF b = some y → eaF (a ++ b) = some (x ++ y) := by
  induction a with
  | nil => intro x y h k; simp only [eaF, Option.some.injEq] at h; subst h; simpa using k
  | cons f r ih =>
    intro x y h k
    simp only [eaF] at h
    cases hf : encF f with
    | none => rw [hf] at h; cases h
    | some s =>
      rw [hf] at h
      cases hr : eaF r with
      | none => rw [hr] at h; cases h
      | some z =>
        rw [hr] at h
        simp only [Option.map_some, Option.some.injEq] at h
        subst h
        simp only [List.cons_append, eaF, hf, ih hr k, Option.map_some, List.append_assoc]
theorem eaF_bad {a : List Fr} {f : Fr} : ∀ {x : List UInt8}, eaF a = some x → encF f = none → eaF (a ++ [f]) = none := by
  induction a with
  | nil => intro x _ k; simp only [List.nil_append, eaF, k]
  | cons g r ih =>
    intro x h k
    simp only [eaF] at h
    cases hf : encF g with
    | none => rw [hf] at h; cases h
    | some s =>
      rw [hf] at h
      cases hr : eaF r with
      | none => rw [hr] at h; cases h
      | some z => simp only [List.cons_append, eaF, hf, ih hr k, Option.map_none]
theorem eaF_all (a : List Fr) : (∀ f ∈ a, ∃ s, encF f = some s) → ∃ t, eaF a = some t ∧ t.length ≤ 6001 * a.length := by
  induction a with
  | nil => intro _; exact ⟨[], rfl, by simp⟩
  | cons f r ih =>
    intro h
    obtain ⟨s, hs⟩ := h f (by simp)
    obtain ⟨t, ht, hl⟩ := ih (fun g hg => h g (by simp [hg]))
    have := (encF_len hs).2
    exact ⟨s ++ t, by simp only [eaF, hs, ht, Option.map_some], by simp only [List.length_append, List.length_cons]; omega⟩
theorem daF_eaF (L : List Fr) : ∀ {t : List UInt8} (n : Nat), eaF L = some t → (∀ f ∈ L, InR f.rg) → L.length < n → daF n t = some L := by
  induction L with
  | nil =>
    intro t n h _ hn
    obtain ⟨m, rfl⟩ : ∃ m, n = m + 1 := ⟨n - 1, by simp at hn; omega⟩
    simp only [eaF, Option.some.injEq] at h
    subst h
    simp [daF]
  | cons f r ih =>
    intro t n h hI hn
    obtain ⟨m, rfl⟩ : ∃ m, n = m + 1 := ⟨n - 1, by simp at hn; omega⟩
    simp only [eaF] at h
    cases hf : encF f with
    | none => rw [hf] at h; cases h
    | some s =>
      rw [hf] at h
      cases hr : eaF r with
      | none => rw [hr] at h; cases h
      | some z =>
        rw [hr] at h
        simp only [Option.map_some, Option.some.injEq] at h
        subst h
        have hne : s ++ z ≠ [] := by
          intro e
          have h1 := congrArg List.length e
          have h2 := (encF_len hf).1
          simp only [List.length_append, List.length_nil] at h1
          omega
        simp only [daF]
        rw [if_neg hne, dec_enc hf (hI f (by simp)) z]
        simp only
        rw [ih m hr (fun g hg => hI g (by simp [hg])) (by simp at hn; omega)]
        rfl
theorem eaF_len (L : List Fr) : ∀ {t : List UInt8}, eaF L = some t → L.length ≤ t.length := by
  induction L with
  | nil => intro t _; simp
  | cons f r ih =>
    intro t h
    simp only [eaF] at h
    cases hf : encF f with
    | none => rw [hf] at h; cases h
    | some s =>
      rw [hf] at h
      cases hr : eaF r with
      | none => rw [hr] at h; cases h
      | some z =>
        rw [hr] at h
        simp only [Option.map_some, Option.some.injEq] at h
        subst h
        have := ih hr
        have := (encF_len hf).1
        simp only [List.length_append, List.length_cons]
        omega
/-- append of all the frames of a row to another row. -/
theorem FrRow.cat {w : World} {base base2 : Nat} {v v2 : Value} {L M : List (Fr × Value)} (h : FrRow w base v L) (h2 : FrRow w base2 v2 M) (hoff : ∀ x ∈ M, RgOff v.ownBlock x) (hs : L.length + M.length ≤ 1000000) (hbase : base ≤ w.heap.size) :
    ∃ v' w', (∀ ty, (Builtin.append_ #[50, 50] ty #[v, v2]).run Try.prog w = .ok v' w') ∧ FrRow w' base v' (L ++ M) ∧ w.grownBy w' v.ownBlock ∧ (v'.ownBlock = v.ownBlock ∨ v'.ownBlock = some w.heap.size) := by
  obtain ⟨i, hi, hzz⟩ := Option.map_eq_some_iff.1 A_infoFr
  simp only [Prod.mk.injEq] at hzz
  obtain ⟨hz0, hsz, hb⟩ := hzz
  obtain ⟨z, hz, hz5⟩ := Option.map_eq_some_iff.1 hz0
  by_cases hM : M = []
  · subst hM
    have hcap : ∃ a n c, v = .slice a n c ∧ n ≤ c := by
      rcases h.own.2 with ⟨rfl, h2⟩ | ⟨g, cap, cur, rfl, _, _, h1, _⟩
      · exact ⟨_, _, _, rfl, Nat.le_refl _⟩
      · exact ⟨_, _, _, rfl, h1⟩
    obtain ⟨a, n, c, rfl, hnc⟩ := hcap
    refine ⟨.slice a n c, w, fun ty => ?_, by rw [List.append_nil]; exact h, ⟨rfl, rfl, rfl, Nat.le_refl _, fun _ _ _ => rfl⟩, .inl rfl⟩
    obtain ⟨a2, c2, rfl⟩ := h2.shape
    refine run_append_nothing w _ _ ty 33 i Try.underlying50 hi a n c hnc _ ?_
    cases a2 with
    | none => exact Src.ofNil w Try.underlying50 c2
    | some a => exact Src.ofSlice w Try.underlying50 a 0 c2 [] (by simp) (by simp) (by simp)
  · obtain ⟨g, cap2, rfl, _, hg, _, hc⟩ := h2.form (List.length_pos_iff.2 hM)
    have key := fun ty => run_append_own_at (P := Try.prog) w base 50 ty 33 i z 13 136 Try.underlying50 hi hz hsz hb hz5 (by decide) v L.length (L.flatMap frc) h.own ⟨g, 0, none⟩ M.length cap2 (M.flatMap frc) (frcs_len M) (fun q u hq => by
      obtain ⟨k, hk, j, hj, rfl, e⟩ := frcs_inv M q u hq
      rw [add_of_none, Nat.zero_add, hc k hk j hj, e]) (fun u hu => by
      obtain ⟨x, hx, hu⟩ := List.mem_flatMap.1 hu
      exact frc_one (rg_one (h2.ok x hx).rg) u hu) (by unfold maxLen; omega) (by omega) hbase
    obtain ⟨v', w', e1, e2, e3, _, e5⟩ := key 50
    refine ⟨v', w', fun ty => ?_, ⟨?_, fun x hx => ?_, fun x hx => ?_⟩, e3, e5⟩
    · rw [← e1]; rfl
    · rw [List.length_append, List.flatMap_append]
      exact e2
    · rcases List.mem_append.1 hx with hx | hx
      · exact (h.ok x hx).grown (h.off x hx) e3
      · exact (h2.ok x hx).grown (hoff x hx) e3
    · rcases List.mem_append.1 hx with hx | hx
      · exact RgOff.new (h.ok x hx) (h.off x hx) e5
      · exact RgOff.new (h2.ok x hx) (hoff x hx) e5
theorem RgOff.none (x : Fr × Value) : RgOff none x := fun _ a n c _ e => by cases e
end Go.Proofs.Ytmmgmpghkpbgkaa
