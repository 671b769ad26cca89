/- Plain lists of intervals: what adding a number and cutting at a bound do to them. -/
import Derived.Test.YthjlkiilkiggiaaBas
namespace Go.Proofs.Ythjlkiilkiggiaa
set_option linter.unusedVariables false

/-- Each interval is not empty, begins above lo, and does not touch the next. -/
def Good : Int → List (Int × Int) → Prop
  | _, [] => True
  | lo, (f, t) :: r => lo < f ∧ f < t ∧ Good t r
/-- x lies in an interval. -/
def In : List (Int × Int) → Int → Prop
  | [], _ => False
  | (f, t) :: r, x => (f ≤ x ∧ x < t) ∨ In r x
/-- The list with pn. -/
def ins : List (Int × Int) → Int → List (Int × Int)
  | [], pn => [(pn, pn + 1)]
  | (f, t) :: r, pn => if t < pn then (f, t) :: ins r pn else if t = pn then (match r with
      | [] => [(f, pn + 1)]
      | (f', t') :: r' => if f' = pn + 1 then (f, t') :: r' else (f, pn + 1) :: (f', t') :: r') else if f = pn + 1 then (pn, t) :: r else (pn, pn + 1) :: (f, t) :: r
/-- The upper end of the last interval, or lo. -/
def topZ : Int → List (Int × Int) → Int
  | lo, [] => lo
  | _, (_, t) :: r => topZ t r

theorem Good.mono {lo lo' : Int} {L : List (Int × Int)} (h : Good lo L) (hl : lo' ≤ lo) : Good lo' L := by
  cases L with
  | nil => trivial
  | cons p r => obtain ⟨f, t⟩ := p; obtain ⟨h1, h2, h3⟩ := h; exact ⟨by omega, h2, h3⟩
theorem Good.low {L : List (Int × Int)} : ∀ {lo : Int}, Good lo L → ∀ x, In L x → lo < x := by
  induction L with
  | nil => intro lo h x hx; exact hx.elim
  | cons p r ih =>
    obtain ⟨f, t⟩ := p
    intro lo h x hx
    obtain ⟨h1, h2, h3⟩ := h
    rcases hx with hx | hx
    · omega
    · have := ih h3 x hx; omega
theorem Good.top {L : List (Int × Int)} : ∀ {lo : Int}, Good lo L → lo ≤ topZ lo L ∧ ∀ x, In L x → x < topZ lo L := by
  induction L with
  | nil => intro lo h; exact ⟨Int.le_refl _, fun x hx => hx.elim⟩
  | cons p r ih =>
    obtain ⟨f, t⟩ := p
    intro lo h
    obtain ⟨h1, h2, h3⟩ := h
    obtain ⟨i1, i2⟩ := ih h3
    refine ⟨by show lo ≤ topZ t r; omega, fun x hx => ?_⟩
    show x < topZ t r
    rcases hx with hx | hx
    · omega
    · exact i2 x hx
theorem ins_good {L : List (Int × Int)} : ∀ {lo pn : Int}, Good lo L → lo < pn → ¬ In L pn → Good lo (ins L pn) := by
  induction L with
  | nil => intro lo pn h hl hn; exact ⟨hl, by omega, trivial⟩
  | cons p r ih =>
    obtain ⟨f, t⟩ := p
    intro lo pn h hl hn
    obtain ⟨h1, h2, h3⟩ := h
    have hn1 : ¬ (f ≤ pn ∧ pn < t) := fun h => hn (.inl h)
    have hn2 : ¬ In r pn := fun h => hn (.inr h)
    unfold ins
    by_cases c1 : t < pn
    · rw [if_pos c1]; exact ⟨h1, h2, ih h3 c1 hn2⟩
    rw [if_neg c1]
    by_cases c2 : t = pn
    · rw [if_pos c2]
      cases r with
      | nil => exact ⟨h1, by omega, trivial⟩
      | cons q r' =>
        obtain ⟨f', t'⟩ := q
        obtain ⟨g1, g2, g3⟩ := h3
        by_cases c3 : f' = pn + 1
        · simp only [if_pos c3]; exact ⟨h1, by omega, g3⟩
        · simp only [if_neg c3]; exact ⟨h1, by omega, by omega, g2, g3⟩
    rw [if_neg c2]
    by_cases c4 : f = pn + 1
    · rw [if_pos c4]; exact ⟨hl, by omega, h3⟩
    · rw [if_neg c4]; exact ⟨hl, by omega, by omega, h2, h3⟩
theorem In_ins {L : List (Int × Int)} : ∀ {lo pn : Int}, Good lo L → lo < pn → ¬ In L pn → ∀ x, In (ins L pn) x ↔ In L x ∨ x = pn := by
  induction L with
  | nil => intro lo pn h hl hn x; simp only [ins, In, or_false, false_or]; omega
  | cons p r ih =>
    obtain ⟨f, t⟩ := p
    intro lo pn h hl hn x
    obtain ⟨h1, h2, h3⟩ := h
    have hn1 : ¬ (f ≤ pn ∧ pn < t) := fun h => hn (.inl h)
    have hn2 : ¬ In r pn := fun h => hn (.inr h)
    unfold ins
    by_cases c1 : t < pn
    · rw [if_pos c1]; simp only [In]; rw [ih h3 c1 hn2 x, or_assoc]
    rw [if_neg c1]
    by_cases c2 : t = pn
    · rw [if_pos c2]
      cases r with
      | nil => simp only [In, or_false]; omega
      | cons q r' =>
        obtain ⟨f', t'⟩ := q
        obtain ⟨g1, g2, g3⟩ := h3
        by_cases c3 : f' = pn + 1
        · simp only [if_pos c3, In]; by_cases hr : In r' x <;> simp only [hr, or_true, or_false, true_or, iff_self] <;> omega
        · simp only [if_neg c3, In]; by_cases hr : In r' x <;> simp only [hr, or_true, or_false, true_or, iff_self] <;> omega
    rw [if_neg c2]
    by_cases c4 : f = pn + 1
    · rw [if_pos c4]; simp only [In]; by_cases hr : In r x <;> simp only [hr, or_true, or_false, true_or, iff_self] <;> omega
    · rw [if_neg c4]; simp only [In]; by_cases hr : In r x <;> simp only [hr, or_true, or_false, true_or, iff_self] <;> omega
theorem ins_len (L : List (Int × Int)) (pn : Int) : (ins L pn).length ≤ L.length + 1 ∧ 1 ≤ (ins L pn).length := by
  induction L with
  | nil => simp [ins]
  | cons p r ih =>
    obtain ⟨f, t⟩ := p
    unfold ins
    by_cases c1 : t < pn
    · rw [if_pos c1]; simp; omega
    rw [if_neg c1]
    by_cases c2 : t = pn
    · rw [if_pos c2]
      cases r with
      | nil => simp
      | cons q r' =>
        obtain ⟨f', t'⟩ := q
        by_cases c3 : f' = pn + 1
        · simp only [if_pos c3]; simp <;> omega
        · simp only [if_neg c3]; simp
    rw [if_neg c2]
    by_cases c4 : f = pn + 1
    · rw [if_pos c4]; simp
    · rw [if_neg c4]; simp

/-- The intervals k, .., k + m - 1 of two rows of ends. -/
def lst (F T : Nat → Int) : Nat → Nat → List (Int × Int)
  | _, 0 => []
  | k, m + 1 => (F k, T k) :: lst F T (k + 1) m
section
variable {F T F' T' : Nat → Int}
theorem lst_len (m : Nat) : ∀ k, (lst F T k m).length = m := by
  induction m with
  | zero => intro k; rfl
  | succ m ih => intro k; simp [lst, ih]
theorem lst_congr (m : Nat) : ∀ k j, (∀ i, i < m → F (k + i) = F' (j + i) ∧ T (k + i) = T' (j + i)) → lst F T k m = lst F' T' j m := by
  induction m with
  | zero => intro k j h; rfl
  | succ m ih =>
    intro k j h
    have h0 := h 0 (by omega)
    simp at h0
    have := ih (k + 1) (j + 1) fun i hi => by
      have := h (i + 1) (by omega)
      rw [show k + 1 + i = k + (i + 1) from by omega, show j + 1 + i = j + (i + 1) from by omega]; exact this
    simp [lst, h0, this]
theorem lst_add (a : Nat) : ∀ k b, lst F T k (a + b) = lst F T k a ++ lst F T (k + a) b := by
  induction a with
  | zero => intro k b; simp [lst]
  | succ a ih => intro k b; rw [show a + 1 + b = (a + b) + 1 from by omega]; simp [lst, ih, show k + 1 + a = k + (a + 1) from by omega]
theorem lst_get (m : Nat) : ∀ k i, i < m → (lst F T k m)[i]? = some (F (k + i), T (k + i)) := by
  induction m with
  | zero => intro k i h; omega
  | succ m ih =>
    intro k i h
    cases i with
    | zero => simp [lst]
    | succ i => simp [lst, ih (k + 1) i (by omega), show k + 1 + i = k + (i + 1) from by omega]
theorem ins_skip (pn : Int) (R : List (Int × Int)) (a : Nat) : ∀ k, (∀ i, i < a → T (k + i) < pn) → ins (lst F T k a ++ R) pn = lst F T k a ++ ins R pn := by
  induction a with
  | zero => intro k h; simp [lst]
  | succ a ih =>
    intro k h
    have h0 := h 0 (by omega)
    simp only [lst, List.cons_append]
    rw [ins.eq_def]; simp only [if_pos (show T k < pn by simpa using h0)]; rw [ih (k + 1) fun i hi => by rw [show k + 1 + i = k + (i + 1) from by omega]; exact h (i + 1) (by omega)]
theorem In_lst (x : Int) (m : Nat) : ∀ k, In (lst F T k m) x ↔ ∃ i, i < m ∧ F (k + i) ≤ x ∧ x < T (k + i) := by
  induction m with
  | zero => intro k; simp [lst, In]
  | succ m ih =>
    intro k
    simp only [lst, In, ih (k + 1)]
    constructor
    · rintro (h | ⟨i, h1, h2⟩)
      · exact ⟨0, by omega, h⟩
      · exact ⟨i + 1, by omega, by rw [show k + (i + 1) = k + 1 + i from by omega]; exact h2⟩
    · rintro ⟨i, h1, h2⟩
      cases i with
      | zero => exact .inl h2
      | succ i => exact .inr ⟨i, by omega, by rw [show k + 1 + i = k + (i + 1) from by omega]; exact h2⟩
end
end Go.Proofs.Ythjlkiilkiggiaa
