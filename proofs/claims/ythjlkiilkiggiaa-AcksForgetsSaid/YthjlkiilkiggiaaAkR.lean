/- Plain law of AcksPrompt: what stands from packet to packet. -/
import Derived.Test.YthjlkiilkiggiaaAkQ
namespace Go.Proofs.Ythjlkiilkiggiaa
open Go Go.RowKit Go.Shelf
set_option linter.unusedVariables false
set_option linter.unusedSectionVars false

theorem Good.tail {lo : Int} {p : Int × Int} {L : List (Int × Int)} (h : Good lo (p :: L)) : Good lo L := by
  obtain ⟨a, b⟩ := p
  simp only [Good] at h
  exact h.2.2.mono (by omega)
theorem Good.capL {lo : Int} {L : List (Int × Int)} (h : Good lo L) : Good lo (capL L) := by
  unfold Go.Proofs.Ythjlkiilkiggiaa.capL
  split
  · cases L with
    | nil => exact h
    | cons p L => exact h.tail
  · exact h
theorem In_capL {L : List (Int × Int)} {x : Int} (h : In (capL L) x) : In L x := by
  unfold capL at h
  split at h
  · cases L with
    | nil => exact h
    | cons p L => obtain ⟨a, b⟩ := p; simp only [In]; exact .inr h
  · exact h
theorem capF_le {lo m fl : Int} {L : List (Int × Int)} (h : Good lo L) (hm : ∀ x, In L x → x ≤ m) (hf : fl ≤ m + 1) : capF L fl ≤ m + 1 := by
  unfold capF
  split
  · cases L with
    | nil => simp_all
    | cons p L =>
      obtain ⟨a, b⟩ := p
      simp only [Good] at h
      have := hm (b - 1) (by simp only [In]; left; omega)
      simp; omega
  · exact hf

/-- What stands when k packets and acknowledgments have passed. -/
structure PInv (d : Int) (k : Nat) (L : List (Int × Int)) (fl lg ct du first many : Int) : Prop where
  good : Good (-1) L
  lo : ∀ x, In L x → x ≤ lg
  flo : fl ≤ lg + 1
  lg0 : -1 ≤ lg
  lg1 : lg + 1 ≤ 2 * k
  cnt : many = ct
  ct0 : 0 ≤ ct
  ct1 : ct ≤ k
  due : (many = 0 ∧ first = -1 ∧ du = -1) ∨ (0 < many ∧ 0 ≤ first ∧ first + 3 ≤ 3 * k ∧ 0 ≤ du ∧ du ≤ first + d)

theorem PInv.start (d : Int) : PInv d 0 [] 0 (-1) 0 (-1) (-1) 0 := ⟨trivial, fun x h => h.elim, by omega, by omega, by omega, rfl, by omega, by omega, .inl ⟨rfl, rfl, rfl⟩⟩

section
variable {d : Int} {k : Nat} {L : List (Int × Int)} {fl lg ct du first many : Int} (h : PInv d k L fl lg ct du first many) (hd : 0 ≤ d) (hd2 : d ≤ 20)
include h hd hd2
theorem PInv.sent : PInv d (k + 1) L fl lg 0 (-1) (-1) 0 :=
  ⟨h.good, h.lo, h.flo, h.lg0, by have := h.lg1; omega, rfl, by omega, by omega, .inl ⟨rfl, rfl, rfl⟩⟩
theorem PInv.fresh (pn : Int) (hp : lg < pn) : fl ≤ pn ∧ ¬ In L pn := ⟨by have := h.flo; omega, fun hi => by have := h.lo pn hi; omega⟩
theorem PInv.list (pn : Int) (hp : lg < pn) : Good (-1) (capL (ins L pn)) ∧ (∀ x, In (capL (ins L pn)) x → x ≤ pn) ∧ capF (ins L pn) fl ≤ pn + 1 := by
  have h0 := h.lg0
  have hn := (h.fresh hd hd2 pn hp).2
  have hg := ins_good h.good (by omega) hn
  have hi : ∀ x, In (ins L pn) x → x ≤ pn := fun x hx => by
    rcases (In_ins h.good (by omega) hn x).1 hx with hx | hx
    · have := h.lo x hx; omega
    · omega
  exact ⟨hg.capL, fun x hx => hi x (In_capL hx), capF_le hg hi (by have := h.flo; omega)⟩
theorem PInv.calm (pn : Int) (hp : lg < pn) (hp2 : pn ≤ lg + 2) : PInv d (k + 1) (capL (ins L pn)) (capF (ins L pn) fl) pn ct du first many := by
  obtain ⟨h1, h2, h3⟩ := h.list hd hd2 pn hp
  obtain ⟨g, lo, flo, lg0, lg1, cnt, ct0, ct1, due⟩ := h
  exact ⟨h1, h2, h3, by omega, by omega, cnt, ct0, by omega, due.imp id fun x => by omega⟩
theorem PInv.elic (pn : Int) (hp : lg < pn) (hp2 : pn ≤ lg + 2) (o : Bool) (ho : decide (lg = -1 ∨ pn = lg + 1) = o) : PInv d (k + 1) (capL (ins L pn)) (capF (ins L pn) fl) pn (ct + 1) (duZ ct d du (3 * k) o) (if first < 0 then 3 * (k : Int) else first) (many + 1) ∧
    (2 ≤ many + 1 ∨ (0 ≤ lg ∧ pn ≠ lg + 1) → duZ ct d du (3 * k) o ≤ 3 * k) := by
  obtain ⟨h1, h2, h3⟩ := h.list hd hd2 pn hp
  obtain ⟨g, lo, flo, lg0, lg1, cnt, ct0, ct1, due⟩ := h
  have ha : (o = false ∨ 2 ≤ ct + 1 → atZ ct d (3 * k) o = 3 * k) ∧ 3 * k ≤ atZ ct d (3 * k) o ∧ atZ ct d (3 * k) o ≤ 3 * k + d := by
    unfold atZ
    refine ⟨fun h => ?_, ?_, ?_⟩
    · rw [if_neg]; rintro ⟨h1, h2⟩; rcases h with h | h
      · rw [h] at h2; cases h2
      · omega
    · split <;> omega
    · split <;> omega
  have hD : duZ ct d du (3 * k) o = if du = -1 ∨ atZ ct d (3 * k) o < du then atZ ct d (3 * k) o else du := rfl
  have hof : 0 ≤ lg ∧ pn ≠ lg + 1 → o = false := by
    rintro ⟨a, b⟩; rw [← ho]; simp; omega
  generalize duZ ct d du (3 * (k : Int)) o = D at hD ⊢
  generalize atZ ct d (3 * (k : Int)) o = A at ha hD
  obtain ⟨a1, a2, a3⟩ := ha
  rcases due with ⟨rfl, rfl, rfl⟩ | ⟨m0, f0, f1, u0, u1⟩
  · rw [if_pos (.inl rfl)] at hD
    subst hD
    refine ⟨⟨h1, h2, h3, by omega, by omega, by omega, by omega, by omega, .inr ⟨by omega, ?_, ?_, by omega, ?_⟩⟩, ?_⟩
    · rw [if_pos (by omega)]; omega
    · rw [if_pos (by omega)]; omega
    · rw [if_pos (by omega)]; omega
    · rintro (hh | hh)
      · omega
      · rw [a1 (.inl (hof hh))]; omega
  · have hA := a1 (.inr (by omega))
    have hD2 : 0 ≤ D ∧ D ≤ du ∧ D ≤ A := by
      rw [hD]; split
      · rename_i hh; rcases hh with hh | hh <;> omega
      · rename_i hh; simp at hh; omega
    refine ⟨⟨h1, h2, h3, by omega, by omega, by omega, by omega, by omega, .inr ⟨by omega, ?_, ?_, by omega, ?_⟩⟩, fun _ => by omega⟩
    · rw [if_neg (by omega)]; omega
    · rw [if_neg (by omega)]; omega
    · rw [if_neg (by omega)]; omega
end
end Go.Proofs.Ythjlkiilkiggiaa
