/- Plain laws of AcksOnce and AcksForgets: cutting a list of intervals at a bound. -/
import Derived.Test.YthjlkiilkiggiaaAkY
import Derived.Test.YthjlkiilkiggiaaAkT
namespace Go.Proofs.Ythjlkiilkiggiaa
open Go Go.RowKit Go.Shelf
set_option linter.unusedVariables false
set_option linter.unusedSectionVars false
set_option linter.unusedSimpArgs false

theorem cutL_good (L : List (Int × Int)) (m : Int) : ∀ lo, Good lo L → Good (m - 1) (cutL L m) := by
  induction L with
  | nil => intro lo h; trivial
  | cons p r ih =>
    obtain ⟨f, t⟩ := p
    intro lo h
    obtain ⟨h1, h2, h3⟩ := h
    unfold cutL
    by_cases c : t ≤ m
    · rw [if_pos c]; exact ih t h3
    · rw [if_neg c]
      refine ⟨by split <;> omega, by split <;> omega, h3⟩
theorem cutL_in (L : List (Int × Int)) (m x : Int) : ∀ lo, Good lo L → (In (cutL L m) x ↔ In L x ∧ m ≤ x) := by
  induction L with
  | nil => intro lo h; simp [cutL, In]
  | cons p r ih =>
    obtain ⟨f, t⟩ := p
    intro lo h
    obtain ⟨h1, h2, h3⟩ := h
    unfold cutL
    by_cases c : t ≤ m
    · rw [if_pos c, ih t h3]; simp only [In]
      constructor
      · rintro ⟨a, b⟩; exact ⟨.inr a, b⟩
      · rintro ⟨a | a, b⟩
        · omega
        · exact ⟨a, b⟩
    · rw [if_neg c]; simp only [In]
      have hr := h3.low x
      constructor
      · rintro (a | a)
        · by_cases hf : f < m
          · rw [if_pos hf] at a; exact ⟨.inl (by omega), by omega⟩
          · rw [if_neg hf] at a; exact ⟨.inl (by omega), by omega⟩
        · have := hr a; exact ⟨.inr a, by omega⟩
      · rintro ⟨a | a, b⟩
        · left; split <;> omega
        · exact .inr a
theorem cutL_len (L : List (Int × Int)) (m : Int) : (cutL L m).length ≤ L.length := by
  induction L with
  | nil => simp [cutL]
  | cons p r ih =>
    obtain ⟨f, t⟩ := p
    unfold cutL
    split
    · simp; omega
    · simp
/-- The bound that Forget leaves. -/
def bndZ (fl q : Int) : Int := if fl < q + 1 then q + 1 else fl
/-- What lies above the floor. -/
structure Flo (L : List (Int × Int)) (fl : Int) : Prop where
  fl0 : 0 ≤ fl
  good : Good (fl - 1) L
theorem Flo.start : Flo [] 0 := ⟨by omega, trivial⟩
theorem Flo.cut {L : List (Int × Int)} {fl : Int} (h : Flo L fl) (q : Int) : Flo (cutL L (bndZ fl q)) (bndZ fl q) :=
  ⟨by have := h.fl0; unfold bndZ; split <;> omega, cutL_good L _ _ h.good⟩
theorem Flo.add {L : List (Int × Int)} {fl pn : Int} (h : Flo L fl) (hf : fl ≤ pn) (hn : ¬ In L pn) : Flo (capL (ins L pn)) (capF (ins L pn) fl) := by
  obtain ⟨h0, h1⟩ := h
  have hg := ins_good h1 (by omega) hn
  unfold capL capF
  split
  · cases hL : ins L pn with
    | nil => exact ⟨by simp, trivial⟩
    | cons p r =>
      obtain ⟨a, b⟩ := p
      rw [hL] at hg
      obtain ⟨g1, g2, g3⟩ := hg
      exact ⟨by simp; omega, by simp; exact g3.mono (by omega)⟩
  · exact ⟨h0, hg⟩
theorem cap_mem {L : List (Int × Int)} {lo fl pn : Int} (hg : Good lo (ins L pn)) (x : Int) (h : In (ins L pn) x) : x < capF (ins L pn) fl ∨ In (capL (ins L pn)) x := by
  unfold capF capL
  split
  · cases hL : ins L pn with
    | nil => rw [hL] at h; exact h.elim
    | cons p r =>
      obtain ⟨a, b⟩ := p
      rw [hL] at h
      rcases h with h | h
      · left; simp; omega
      · right; exact h
  · exact .inr h
theorem capF_mono {L : List (Int × Int)} {fl pn : Int} (hg : Good (fl - 1) (ins L pn)) : fl ≤ capF (ins L pn) fl := by
  unfold capF
  split
  · cases hL : ins L pn with
    | nil => rename_i h; rw [hL] at h; simp at h
    | cons p r => obtain ⟨a, b⟩ := p; rw [hL] at hg; obtain ⟨g1, g2, g3⟩ := hg; simp; omega
  · exact Int.le_refl _

/-- What stands in AcksOnce when k calls have passed: G i tells whether i was accepted. -/
structure OInv (k : Nat) (L : List (Int × Int)) (fl lg ct : Int) (G : Nat → Bool) : Prop where
  flo : Flo L fl
  lo : ∀ x, In L x → x ≤ lg
  fll : fl ≤ lg + 1 ∨ fl ≤ 14
  lg0 : -1 ≤ lg
  lg1 : lg ≤ 59
  ct0 : 0 ≤ ct
  ct1 : ct ≤ k
  hv : ∀ i : Nat, i < 60 → G i = true → (i : Int) < fl ∨ In L i
  vh : ∀ i : Nat, i < 60 → In L i → G i = true
theorem OInv.start : OInv 0 [] 0 (-1) 0 (fun _ => false) := ⟨Flo.start, fun x h => h.elim, by omega, by omega, by omega, by omega, by omega, (fun i _ h => by cases h), fun i _ h => h.elim⟩
section
variable {k : Nat} {L : List (Int × Int)} {fl lg ct : Int} {G : Nat → Bool} (h : OInv k L fl lg ct G)
include h
theorem OInv.same : OInv (k + 1) L fl lg ct G := ⟨h.flo, h.lo, h.fll, h.lg0, h.lg1, h.ct0, by have := h.ct1; omega, h.hv, h.vh⟩
theorem OInv.sent : OInv (k + 1) L fl lg 0 G := ⟨h.flo, h.lo, h.fll, h.lg0, h.lg1, by omega, by omega, h.hv, h.vh⟩
theorem OInv.forget (q : Int) (h0 : 0 ≤ q) (h1 : q ≤ 13) : OInv (k + 1) (cutL L (bndZ fl q)) (bndZ fl q) lg ct G := by
  have hi := fun x => cutL_in L (bndZ fl q) x _ h.flo.good
  have hb : fl ≤ bndZ fl q ∧ (bndZ fl q = fl ∨ bndZ fl q ≤ 14) := by unfold bndZ; split <;> omega
  refine ⟨h.flo.cut q, fun x hx => h.lo x ((hi x).1 hx).1, ?_, h.lg0, h.lg1, h.ct0, by have := h.ct1; omega, fun i h60 hG => ?_, fun i h60 hx => h.vh i h60 ((hi _).1 hx).1⟩
  · have := h.fll; omega
  · by_cases hm : (i : Int) < bndZ fl q
    · exact .inl hm
    · rcases h.hv i h60 hG with h3 | h3
      · omega
      · exact .inr ((hi _).2 ⟨h3, by omega⟩)
theorem OInv.add (p : Nat) (hp : p < 60) (hf : fl ≤ p) (hn : ¬ In L p) (el : Bool) : OInv (k + 1) (capL (ins L p)) (capF (ins L p) fl) (if lg < p then (p : Int) else lg) (if el then ct + 1 else ct) (fun i => if i = p then true else G i) := by
  have g0 := h.flo.fl0
  have hg := ins_good h.flo.good (by omega) hn
  have hi := fun x => In_ins h.flo.good (pn := p) (by omega) hn x
  have l0 := h.lg0
  have l1 := h.lg1
  have c0 := h.ct0
  have c1 := h.ct1
  have hm : ∀ x, In (ins L p) x → x ≤ (if lg < p then (p : Int) else lg) := fun x hx => by
    rcases (hi x).1 hx with hx | hx
    · have := h.lo x hx; split <;> omega
    · split <;> omega
  have hm2 := capF_mono hg
  refine ⟨h.flo.add hf hn, fun x hx => hm x (In_capL hx), .inl ?_, by split <;> omega, by split <;> omega, by split <;> omega, by split <;> omega, fun i h60 hG => ?_, fun i h60 hx => ?_⟩
  · unfold capF
    split
    · cases hL : ins L p with
      | nil => simp; split <;> omega
      | cons q r =>
        obtain ⟨a, b⟩ := q
        rw [hL] at hg hm
        obtain ⟨g1, g2, g3⟩ := hg
        have := hm (b - 1) (.inl (by omega))
        simp; omega
    · split
      · omega
      · omega
  · by_cases hip : i = p
    · subst hip; exact cap_mem hg _ ((hi _).2 (.inr rfl))
    · simp only [if_neg hip] at hG
      rcases h.hv i h60 hG with h3 | h3
      · left; omega
      · exact cap_mem hg _ ((hi _).2 (.inl h3))
  · by_cases hip : i = p
    · simp [hip]
    · simp only [if_neg hip]
      rcases (hi _).1 (In_capL hx) with h3 | h3
      · exact h.vh i h60 h3
      · omega
theorem OInv.dup (p : Nat) (hp : p < 60) (hd : (p : Int) < fl ∨ In L p) : (lg < p → (p : Int) ≤ 14) ∧ (∀ a b r, L = (a, b) :: r → a < p → G p = true) := by
  refine ⟨fun hl => ?_, fun a b r hL ha => ?_⟩
  · rcases hd with hd | hd
    · rcases h.fll with h1 | h1 <;> omega
    · have := h.lo _ hd; omega
  · rcases hd with hd | hd
    · have := h.flo.good; rw [hL] at this; obtain ⟨g1, _⟩ := this; omega
    · exact h.vh p hp hd
theorem OInv.new (p : Nat) (hp : p < 60) (hd : ¬ ((p : Int) < fl ∨ In L p)) : G p = false := by
  cases hG : G p with
  | false => rfl
  | true => exact absurd (h.hv p hp hG) hd
end

/-- What AcksForgets wants behind Forget: the intervals clipped at a bound. -/
def wantL : List (Int × Int) → Int → List (Int × Int)
  | [], _ => []
  | (f, t) :: r, m => if (if f < m then m else f) < t then ((if f < m then m else f), t) :: wantL r m else wantL r m
theorem wantL_id (L : List (Int × Int)) (m : Int) : ∀ lo, Good lo L → m ≤ lo + 1 → wantL L m = L := by
  induction L with
  | nil => intro lo h hm; rfl
  | cons p r ih =>
    obtain ⟨f, t⟩ := p
    intro lo h hm
    obtain ⟨h1, h2, h3⟩ := h
    unfold wantL
    rw [if_neg (show ¬ f < m by omega), if_pos h2, ih t h3 (by omega)]
theorem wantL_cut (L : List (Int × Int)) (m : Int) : ∀ lo, Good lo L → wantL L m = cutL L m := by
  induction L with
  | nil => intro lo h; rfl
  | cons p r ih =>
    obtain ⟨f, t⟩ := p
    intro lo h
    obtain ⟨h1, h2, h3⟩ := h
    unfold wantL cutL
    by_cases c : t ≤ m
    · rw [if_neg (by split <;> omega), if_pos c]; exact ih t h3
    · rw [if_pos (by split <;> omega), if_neg c, wantL_id r m t h3 (by omega)]
theorem cutL_id (L : List (Int × Int)) (m : Int) : ∀ lo, Good lo L → m ≤ lo + 1 → cutL L m = L := fun lo h hm => (wantL_cut L m lo h).symm.trans (wantL_id L m lo h hm)
theorem want_forget {L : List (Int × Int)} {fl : Int} (h : Flo L fl) (b : Int) : wantL L (b + 1) = cutL L (bndZ fl b) := by
  unfold bndZ
  split
  · exact wantL_cut L _ _ h.good
  · rw [wantL_id L (b + 1) _ h.good (by omega), cutL_id L fl _ h.good (by omega)]
theorem wantL_cons (x y m : Int) (r : List (Int × Int)) : wantL ((x, y) :: r) m = if (if x < m then m else x) < y then ((if x < m then m else x), y) :: wantL r m else wantL r m := rfl
theorem wantL_snoc (L : List (Int × Int)) (f t m : Int) : wantL (L ++ [(f, t)]) m = wantL L m ++ wantL [(f, t)] m := by
  induction L with
  | nil => rfl
  | cons p r ih =>
    obtain ⟨a, b⟩ := p
    rw [List.cons_append, wantL_cons, wantL_cons, ih]
    generalize (if a < m then m else a) = q
    by_cases c : q < b
    · rw [if_pos c, if_pos c]; rfl
    · rw [if_neg c, if_neg c]
theorem wantL_take (L : List (Int × Int)) (m : Int) (k : Nat) (x : Int × Int) (h : L[k]? = some x) : wantL (L.take (k + 1)) m = if (if x.1 < m then m else x.1) < x.2 then wantL (L.take k) m ++ [((if x.1 < m then m else x.1), x.2)] else wantL (L.take k) m := by
  have hk := (List.getElem?_eq_some_iff.1 h).1
  have hx := (List.getElem?_eq_some_iff.1 h).2
  rw [← List.take_append_getElem hk, hx]
  obtain ⟨f, t⟩ := x
  rw [wantL_snoc, wantL_cons]
  generalize (if f < m then m else f) = q
  by_cases c : q < t
  · rw [if_pos c, if_pos c]; rfl
  · rw [if_neg c, if_neg c]; simp [wantL]
theorem wantL_len (L : List (Int × Int)) (m : Int) : (wantL L m).length ≤ L.length := by
  induction L with
  | nil => simp [wantL]
  | cons p r ih =>
    obtain ⟨f, t⟩ := p
    rw [wantL_cons]
    generalize (if f < m then m else f) = q
    by_cases c : q < t
    · rw [if_pos c]; simp; omega
    · rw [if_neg c]; simp; omega
end Go.Proofs.Ythjlkiilkiggiaa
