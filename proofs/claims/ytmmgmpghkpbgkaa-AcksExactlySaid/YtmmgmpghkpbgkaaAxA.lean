/- Plain law of AcksExactly: intervals below thirty, their reverse as the ranges of a valid frame, and the marks. -/
import Derived.Test.YtmmgmpghkpbgkaaAnF
import Derived.Test.YtmmgmpghkpbgkaaFrG
namespace Go.Proofs.Ytmmgmpghkpbgkaa
open Go Go.RowKit
set_option linter.unusedVariables false
set_option linter.unusedSimpArgs false

theorem good_len {L : List (Int × Int)} : ∀ {lo : Int}, Good lo L → (∀ x, In L x → x ≤ 29) → L ≠ [] → 2 * (L.length : Int) + lo ≤ 30 := by
  induction L with
  | nil => intro lo _ _ h; exact absurd rfl h
  | cons p r ih =>
    obtain ⟨f, t⟩ := p
    intro lo h hx _
    obtain ⟨h1, h2, h3⟩ := h
    by_cases hr : r = []
    · subst hr
      have := hx (t - 1) (.inl ⟨by omega, by omega⟩)
      simp only [List.length_cons, List.length_nil]; omega
    · have := ih h3 (fun x hi => hx x (.inr hi)) hr
      simp only [List.length_cons]; omega
theorem good_len15 {L : List (Int × Int)} (h : Good (-1) L) (hx : ∀ x, In L x → x ≤ 29) : L.length ≤ 15 := by
  by_cases hr : L = []
  · subst hr; simp
  · have := good_len h hx hr; omega
theorem rgOk_snoc {A : List (Int × Int)} : ∀ {fr f t : Int}, RgOk fr A → (A = [] → t < fr) → (∀ q, A.getLast? = some q → t < q.1) → 0 ≤ f → f < t → t ≤ 281474976710656 → RgOk fr (A ++ [(f, t)]) := by
  induction A with
  | nil => intro fr f t _ h1 _ h3 h4 h5; exact ⟨h3, h4, h5, h1 rfl, trivial⟩
  | cons p r ih =>
    obtain ⟨f', t'⟩ := p
    intro fr f t h h1 h2 h3 h4 h5
    obtain ⟨a, b, c, d, e⟩ := h
    refine ⟨a, b, c, d, ih e (fun hr => ?_) (fun q hq => ?_) h3 h4 h5⟩
    · subst hr; exact h2 _ rfl
    · refine h2 q ?_
      cases r with
      | nil => simp at hq
      | cons y ys => rw [List.getLast?_cons_cons]; exact hq
theorem good_rev {L : List (Int × Int)} : ∀ {lo : Int}, -1 ≤ lo → Good lo L → (∀ x, In L x → x ≤ 29) → RgOk 281474976710658 L.reverse := by
  induction L with
  | nil => intro lo _ _ _; trivial
  | cons p r ih =>
    obtain ⟨f, t⟩ := p
    intro lo hl h hx
    obtain ⟨h1, h2, h3⟩ := h
    have h29 := hx (t - 1) (.inl ⟨by omega, by omega⟩)
    rw [List.reverse_cons]
    refine rgOk_snoc (ih (lo := t) (by omega) h3 fun x hi => hx x (.inr hi)) (fun _ => by omega) (fun q hq => ?_) (by omega) h2 (by omega)
    rw [List.getLast?_reverse] at hq
    cases r with
    | nil => simp at hq
    | cons y ys => obtain ⟨f', t'⟩ := y; simp at hq; subst hq; exact h3.1
theorem In_mem {L : List (Int × Int)} {x : Int} : In L x ↔ ∃ p ∈ L, p.1 ≤ x ∧ x < p.2 := by
  induction L with
  | nil => simp [In]
  | cons p r ih => obtain ⟨f, t⟩ := p; simp [In, ih]
/-- The ranges of a frame: each ends below the one before begins. -/
theorem rgOk_get {R : List (Int × Int)} : ∀ {fr : Int}, RgOk fr R → ∀ (i : Nat) (x : Int × Int), R[i]? = some x → 0 ≤ x.1 ∧ x.1 < x.2 ∧ x.2 < fr ∧ ∀ j y, j < i → R[j]? = some y → x.2 < y.1 := by
  induction R with
  | nil => intro fr h i x hx; simp at hx
  | cons p r ih =>
    obtain ⟨f, t⟩ := p
    intro fr h i x hx
    obtain ⟨a, b, c, d, e⟩ := h
    cases i with
    | zero => simp at hx; subst hx; exact ⟨a, b, d, fun j y hj => by omega⟩
    | succ i =>
      simp at hx
      obtain ⟨k1, k2, k3, k4⟩ := ih e i x hx
      refine ⟨k1, k2, by omega, fun j y hj hy => ?_⟩
      cases j with
      | zero => simp at hy; subst hy; exact k3
      | succ j => simp at hy; exact k4 j y (by omega) hy
/-- What the acknowledgment of the first k numbers knows. -/
structure XInv (k : Nat) (L : List (Int × Int)) (lg wh ct : Int) (G : Nat → Bool) : Prop where
  good : Good (-1) L
  inn : ∀ n : Nat, n < 30 → (G n = true ↔ In L n)
  top : ∀ x, In L x → x ≤ 29
  lg0 : -1 ≤ lg
  lg1 : lg ≤ 29
  wh0 : 0 ≤ wh
  wh1 : wh ≤ 60
  ct0 : 0 ≤ ct
  ct1 : ct ≤ k
  ne : 0 < k → L ≠ []
theorem XInv.start : XInv 0 [] (-1) 0 0 (fun _ => false) := ⟨trivial, fun n _ => by simp [In], fun x h => h.elim, by omega, by omega, by omega, by omega, by omega, by omega, fun h => by omega⟩
def mark (G : Nat → Bool) (p : Nat) : Nat → Bool := fun i => if i = p then true else G i
theorem mark_id (G : Nat → Bool) (p : Nat) (h : G p = true) : mark G p = G := by
  funext i; unfold mark; split
  · subst_vars; exact h.symm
  · rfl
theorem XInv.dup {k : Nat} {L : List (Int × Int)} {lg wh ct : Int} {G : Nat → Bool} (h : XInv k L lg wh ct G) (p : Nat) (hp : p < 30) (hG : G p = true) : In L p ∧ XInv (k + 1) L lg wh ct (mark G p) := by
  have hi := (h.inn p hp).1 hG
  rw [mark_id G p hG]
  exact ⟨hi, h.good, h.inn, h.top, h.lg0, h.lg1, h.wh0, h.wh1, h.ct0, by have := h.ct1; omega, fun _ h => by rw [h] at hi; exact hi⟩
theorem XInv.add {k : Nat} {L : List (Int × Int)} {lg wh ct : Int} {G : Nat → Bool} (h : XInv k L lg wh ct G) (p : Nat) (hp : p < 30) (hk : k < 60) (hG : G p = false) :
    ¬ In L p ∧ capL (ins L p) = ins L p ∧ capF (ins L p) 0 = 0 ∧ XInv (k + 1) (ins L p) (if lg < p then (p : Int) else lg) (if lg < p then (k : Int) else wh) (ct + 1) (mark G p) := by
  have hn : ¬ In L p := fun hi => by have := (h.inn p hp).2 hi; rw [hG] at this; cases this
  have hg := ins_good h.good (pn := (p : Int)) (by omega) hn
  have hi := In_ins h.good (pn := (p : Int)) (by omega) hn
  have ht : ∀ x, In (ins L p) x → x ≤ 29 := fun x hx => by
    rcases (hi x).1 hx with hx | hx
    · exact h.top x hx
    · omega
  have h15 := good_len15 hg ht
  have hne : ins L p ≠ [] := fun he => by have := (ins_len L p).2; rw [he] at this; simp at this
  have := h.lg0; have := h.lg1; have := h.wh0; have := h.wh1; have := h.ct0; have := h.ct1
  refine ⟨hn, by unfold capL; rw [if_neg (by omega)], by unfold capF; rw [if_neg (by omega)], hg, fun n hn30 => ?_, ht, by split <;> omega, by split <;> omega, by split <;> omega, by split <;> omega, by omega, by omega, fun _ => hne⟩
  rw [hi]
  unfold mark
  by_cases e : n = p
  · subst e; simp
  · rw [if_neg e, h.inn n hn30]
    constructor
    · exact .inl
    · rintro (hx | hx)
      · exact hx
      · omega
/-- The marks when i ranges have been named, and of the next one those below x. -/
def NamedP (R : List (Int × Int)) (i : Nat) (a x : Int) (n : Nat) : Prop := (∃ j q, j < i ∧ R[j]? = some q ∧ q.1 ≤ (n : Int) ∧ (n : Int) < q.2) ∨ (a ≤ (n : Int) ∧ (n : Int) < x)
noncomputable def namedTo (R : List (Int × Int)) (i : Nat) (a x : Int) : Nat → Bool := open Classical in fun n => decide (NamedP R i a x n)
theorem named_iff (R : List (Int × Int)) (i : Nat) (a x : Int) (n : Nat) : namedTo R i a x n = true ↔ NamedP R i a x n := by
  unfold namedTo; simp
theorem named_ext {R : List (Int × Int)} {i : Nat} {a x : Int} {G : Nat → Bool} (h : ∀ n, NamedP R i a x n ↔ G n = true) : namedTo R i a x = G := by
  funext n; exact Bool.eq_iff_iff.2 ((named_iff _ _ _ _ _).trans (h n))
theorem named_start (R : List (Int × Int)) : namedTo R 0 0 0 = fun _ => false := by
  refine named_ext fun n => ⟨?_, fun h => by cases h⟩
  rintro (⟨j, q, h, _⟩ | h) <;> omega
theorem named_begin (R : List (Int × Int)) (i : Nat) (a a' : Int) : namedTo R i a a = namedTo R i a' a' := by
  refine named_ext fun n => ?_
  rw [named_iff]
  constructor
  · rintro (h | h)
    · exact .inl h
    · omega
  · rintro (h | h)
    · exact .inl h
    · omega
theorem named_mark (R : List (Int × Int)) (i : Nat) (a : Int) (x : Nat) (h : a ≤ x) : mark (namedTo R i a x) x = namedTo R i a ((x : Int) + 1) := by
  refine (named_ext fun n => ?_).symm
  unfold mark
  by_cases e : n = x
  · subst e
    rw [if_pos rfl]
    exact ⟨fun _ => rfl, fun _ => .inr ⟨h, by omega⟩⟩
  · rw [if_neg e, named_iff]
    constructor
    · rintro (h | h)
      · exact .inl h
      · exact .inr ⟨h.1, by omega⟩
    · rintro (h | h)
      · exact .inl h
      · exact .inr ⟨h.1, by omega⟩
theorem named_end (R : List (Int × Int)) (i : Nat) (q : Int × Int) (hq : R[i]? = some q) : namedTo R i q.1 q.2 = namedTo R (i + 1) 0 0 := by
  refine named_ext fun n => ?_
  rw [named_iff]
  constructor
  · rintro (⟨j, p, h1, h2⟩ | h)
    · exact .inl ⟨j, p, by omega, h2⟩
    · exact .inl ⟨i, q, by omega, hq, h⟩
  · rintro (⟨j, p, h1, h2, h3⟩ | h)
    · by_cases e : j = i
      · subst e; rw [hq] at h2; cases h2; exact .inr h3
      · exact .inl ⟨j, p, by omega, h2, h3⟩
    · omega
theorem named_not (R : List (Int × Int)) {fr : Int} (hR : RgOk fr R) (i : Nat) (q : Int × Int) (hq : R[i]? = some q) (x : Nat) (h : q.1 ≤ x) (h2 : (x : Int) < q.2) : namedTo R i q.1 x x = false := by
  rw [← Bool.not_eq_true, named_iff]
  rintro (⟨j, p, h1, hp, h3, h4⟩ | h)
  · have := (rgOk_get hR i q hq).2.2.2 j p h1 hp; omega
  · omega
theorem named_all (R : List (Int × Int)) (i : Nat) (hi : R.length ≤ i) (n : Nat) : (namedTo R i 0 0 n = true ↔ In R n) := by
  rw [named_iff, In_mem]
  constructor
  · rintro (⟨j, p, h1, hp, h3⟩ | h)
    · exact ⟨p, List.mem_of_getElem? hp, h3⟩
    · omega
  · rintro ⟨p, hp, h3⟩
    obtain ⟨j, hj⟩ := List.getElem?_of_mem hp
    exact .inl ⟨j, p, by have := (List.getElem?_eq_some_iff.1 hj).1; omega, hj, h3⟩
theorem In_rev {L : List (Int × Int)} {x : Int} : In L.reverse x ↔ In L x := by
  rw [In_mem, In_mem]; simp
/-- An acknowledgment with a delay. -/
def ackD (dl : Int) (R : List (Int × Int)) : Fr := { Fr.zero 2 with dl := dl, rg := R }
theorem ackD_ok {dl : Int} {R : List (Int × Int)} (d0 : 0 ≤ dl) (d1 : dl ≤ 70000) (h0 : R ≠ []) (h1 : R.length ≤ 16) (h2 : RgOk 281474976710658 R) : ∃ s, encF (ackD dl R) = some s :=
  enc_of (f := ackD dl R) (l := [.int mV .dl, .ranges]) rfl (fun h => by cases h) (puts_cons (putInt d0 (by show dl ≤ mV; unfold mV; omega) (by show dl ≤ _; omega)) (puts_cons (putRanges h0 h1 h2) (puts_nil _))) rfl
end Go.Proofs.Ytmmgmpghkpbgkaa
