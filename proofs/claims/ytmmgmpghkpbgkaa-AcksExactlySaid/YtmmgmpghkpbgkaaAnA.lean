/- Plain lists of intervals: what adding a number and cutting at a bound do to them. -/
import Derived.Test.YtmmgmpghkpbgkaaBas
import Derived.RangeFuncNested
import Derived.RangeFuncBound
import Derived.RangeFuncCalls
import Derived.RangeFuncLeaves
import Derived.RangeFuncBox
import Derived.Shelf.Abstract
import Derived.Shelf.RegionOpen
import Derived.WalkKit
import Derived.OwnWalkIn
import Derived.TacticsInMore
import Derived.LoopNIn
import Derived.LoopIn
import Derived.WalkMore
namespace Go.Proofs.Ytmmgmpghkpbgkaa
set_option linter.unusedVariables false

/-- Each interval is not empty, begins above lo, and does not touch the next. -/
def Good : Int → List (Int × Int) → Prop
  | _, [] => True
  | lo, (f, t) :: r => lo < f ∧ f < t ∧ Good t r
/-- x lies in an interval. -/
def In : List (Int × Int) → Int → Prop
  | [], _ => False
  | (f, t) :: r, x => (f ≤ x ∧ x < t) ∨ In r x
/-- The list with pn. -/
def ins : List (Int × Int) → Int → List (Int × Int)
  | [], pn => [(pn, pn + 1)]
  | (f, t) :: r, pn => if t < pn then (f, t) :: ins r pn else if t = pn then (match r with
      | [] => [(f, pn + 1)]
      | (f', t') :: r' => if f' = pn + 1 then (f, t') :: r' else (f, pn + 1) :: (f', t') :: r') else if f = pn + 1 then (pn, t) :: r else (pn, pn + 1) :: (f, t) :: r
/-- The upper end of the last interval, or lo. -/
def topZ : Int → List (Int × Int) → Int
  | lo, [] => lo
  | _, (_, t) :: r => topZ t r

theorem Good.mono {lo lo' : Int} {L : List (Int × Int)} (h : Good lo L) (hl : lo' ≤ lo) : Good lo' L := by
  cases L with
  | nil => trivial
  | cons p r => obtain ⟨f, t⟩ := p; obtain ⟨h1, h2, h3⟩ := h; exact ⟨by omega, h2, h3⟩
theorem Good.low {L : List (Int × Int)} : ∀ {lo : Int}, Good lo L → ∀ x, In L x → lo < x := by
  induction L with
  | nil => intro lo h x hx; exact hx.elim
  | cons p r ih =>
    obtain ⟨f, t⟩ := p
    intro lo h x hx
    obtain ⟨h1, h2, h3⟩ := h
    rcases hx with hx | hx
    · omega
    · have := ih h3 x hx; omega
theorem Good.top {L : List (Int × Int)} : ∀ {lo : Int}, Good lo L → lo ≤ topZ lo L ∧ ∀ x, In L x → x < topZ lo L := by
  induction L with
  | nil => intro lo h; exact ⟨Int.le_refl _, fun x hx => hx.elim⟩
  | cons p r ih =>
    obtain ⟨f, t⟩ := p
    intro lo h
    obtain ⟨h1, h2, h3⟩ := h
    obtain ⟨i1, i2⟩ := ih h3
    refine ⟨by show lo ≤ topZ t r; omega, fun x hx => ?_⟩
    show x < topZ t r
    rcases hx with hx | hx
    · omega
    · exact i2 x hx
theorem ins_good {L : List (Int × Int)} : ∀ {lo pn : Int}, Good lo L → lo < pn → ¬ In L pn → Good lo (ins L pn) := by
  induction L with
  | nil => intro lo pn h hl hn; exact ⟨hl, by omega, trivial⟩
  | cons p r ih =>
    obtain ⟨f, t⟩ := p
    intro lo pn h hl hn
    obtain ⟨h1, h2, h3⟩ := h
    have hn1 : ¬ (f ≤ pn ∧ pn < t) := fun h => hn (.inl h)
    have hn2 : ¬ In r pn := fun h => hn (.inr h)
    unfold ins
    by_cases c1 : t < pn
    · rw [if_pos c1]; exact ⟨h1, h2, ih h3 c1 hn2⟩
    rw [if_neg c1]
    by_cases c2 : t = pn
    · rw [if_pos c2]
      cases r with
      | nil => exact ⟨h1, by omega, trivial⟩
      | cons q r' =>
        obtain ⟨f', t'⟩ := q
        obtain ⟨g1, g2, g3⟩ := h3
        by_cases c3 : f' = pn + 1
        · simp only [if_pos c3]; exact ⟨h1, by omega, g3⟩
        · simp only [if_neg c3]; exact ⟨h1, by omega, by omega, g2, g3⟩
    rw [if_neg c2]
    by_cases c4 : f = pn + 1
    · rw [if_pos c4]; exact ⟨hl, by omega, h3⟩
    · rw [if_neg c4]; exact ⟨hl, by omega, by omega, h2, h3⟩
theorem In_ins {L : List (Int × Int)} : ∀ {lo pn : Int}, Good lo L → lo < pn → ¬ In L pn → ∀ x, In (ins L pn) x ↔ In L x ∨ x = pn := by
  induction L with
  | nil => intro lo pn h hl hn x; simp only [ins, In, or_false, false_or]; omega
  | cons p r ih =>
    obtain ⟨f, t⟩ := p
    intro lo pn h hl hn x
    obtain ⟨h1, h2, h3⟩ := h
    have hn1 : ¬ (f ≤ pn ∧ pn < t) := fun h => hn (.inl h)
    have hn2 : ¬ In r pn := fun h => hn (.inr h)
    unfold ins
    by_cases c1 : t < pn
    · rw [if_pos c1]; simp only [In]; rw [ih h3 c1 hn2 x, or_assoc]
    rw [if_neg c1]
    by_cases c2 : t = pn
    · rw [if_pos c2]
      cases r with
      | nil => simp only [In, or_false]; omega
      | cons q r' =>
        obtain ⟨f', t'⟩ := q
        obtain ⟨g1, g2, g3⟩ := h3
        by_cases c3 : f' = pn + 1
        · simp only [if_pos c3, In]; by_cases hr : In r' x <;> simp only [hr, or_true, or_false, true_or, iff_self] <;> omega
        · simp only [if_neg c3, In]; by_cases hr : In r' x <;> simp only [hr, or_true, or_false, true_or, iff_self] <;> omega
    rw [if_neg c2]
    by_cases c4 : f = pn + 1
    · rw [if_pos c4]; simp only [In]; by_cases hr : In r x <;> simp only [hr, or_true, or_false, true_or, iff_self] <;> omega
    · rw [if_neg c4]; simp only [In]; by_cases hr : In r x <;> simp only [hr, or_true, or_false, true_or, iff_self] <;> omega
theorem ins_len (L : List (Int × Int)) (pn : Int) : (ins L pn).length ≤ L.length + 1 ∧ 1 ≤ (ins L pn).length := by
  induction L with
  | nil => simp [ins]
  | cons p r ih =>
    obtain ⟨f, t⟩ := p
    unfold ins
    by_cases c1 : t < pn
    · rw [if_pos c1]; simp; omega
    rw [if_neg c1]
    by_cases c2 : t = pn
    · rw [if_pos c2]
      cases r with
      | nil => simp
      | cons q r' =>
        obtain ⟨f', t'⟩ := q
        by_cases c3 : f' = pn + 1
        · simp only [if_pos c3]; simp <;> omega
        · simp only [if_neg c3]; simp
    rw [if_neg c2]
    by_cases c4 : f = pn + 1
    · rw [if_pos c4]; simp
    · rw [if_neg c4]; simp

/-- The intervals k, .., k + m - 1 of two rows of ends. -/
def lst (F T : Nat → Int) : Nat → Nat → List (Int × Int)
  | _, 0 => []
  | k, m + 1 => (F k, T k) :: lst F T (k + 1) m
section
variable {F T F' T' : Nat → Int}
theorem lst_len (m : Nat) : ∀ k, (lst F T k m).length = m := by
  induction m with
  | zero => intro k; rfl
  | succ m ih => intro k; simp [lst, ih]
theorem lst_congr (m : Nat) : ∀ k j, (∀ i, i < m → F (k + i) = F' (j + i) ∧ T (k + i) = T' (j + i)) → lst F T k m = lst F' T' j m := by
  induction m with
  | zero => intro k j h; rfl
  | succ m ih =>
    intro k j h
    have h0 := h 0 (by omega)
    simp at h0
    have := ih (k + 1) (j + 1) fun i hi => by
      have := h (i + 1) (by omega)
      rw [show k + 1 + i = k + (i + 1) from by omega, show j + 1 + i = j + (i + 1) from by omega]; exact this
    simp [lst, h0, this]
theorem lst_add (a : Nat) : ∀ k b, lst F T k (a + b) = lst F T k a ++ lst F T (k + a) b := by
  induction a with
  | zero => intro k b; simp [lst]
  | succ a ih => intro k b; rw [show a + 1 + b = (a + b) + 1 from by omega]; simp [lst, ih, show k + 1 + a = k + (a + 1) from by omega]
theorem lst_get (m : Nat) : ∀ k i, i < m → (lst F T k m)[i]? = some (F (k + i), T (k + i)) := by
  induction m with
  | zero => intro k i h; omega
  | succ m ih =>
    intro k i h
    cases i with
    | zero => simp [lst]
    | succ i => simp [lst, ih (k + 1) i (by omega), show k + 1 + i = k + (i + 1) from by omega]
theorem ins_skip (pn : Int) (R : List (Int × Int)) (a : Nat) : ∀ k, (∀ i, i < a → T (k + i) < pn) → ins (lst F T k a ++ R) pn = lst F T k a ++ ins R pn := by
  induction a with
  | zero => intro k h; simp [lst]
  | succ a ih =>
    intro k h
    have h0 := h 0 (by omega)
    simp only [lst, List.cons_append]
    rw [ins.eq_def]; simp only [if_pos (show T k < pn by simpa using h0)]; rw [ih (k + 1) fun i hi => by rw [show k + 1 + i = k + (i + 1) from by omega]; exact h (i + 1) (by omega)]
theorem In_lst (x : Int) (m : Nat) : ∀ k, In (lst F T k m) x ↔ ∃ i, i < m ∧ F (k + i) ≤ x ∧ x < T (k + i) := by
  induction m with
  | zero => intro k; simp [lst, In]
  | succ m ih =>
    intro k
    simp only [lst, In, ih (k + 1)]
    constructor
    · rintro (h | ⟨i, h1, h2⟩)
      · exact ⟨0, by omega, h⟩
      · exact ⟨i + 1, by omega, by rw [show k + (i + 1) = k + 1 + i from by omega]; exact h2⟩
    · rintro ⟨i, h1, h2⟩
      cases i with
      | zero => exact .inl h2
      | succ i => exact .inr ⟨i, by omega, by rw [show k + 1 + i = k + (i + 1) from by omega]; exact h2⟩
end
end Go.Proofs.Ytmmgmpghkpbgkaa
/- The block of a Tracker: 17 intervals and seven numbers; its cells; its stores. -/
namespace Go.Proofs.Ytmmgmpghkpbgkaa
open Go.RowKit
set_option linter.unusedVariables false

def upd (F : Nat → Int) (k : Nat) (x : Int) : Nat → Int := fun i => if i = k then x else F i
theorem upd_same (F : Nat → Int) (k : Nat) (x : Int) : upd F k x k = x := by simp [upd]
theorem upd_other (F : Nat → Int) (k i : Nat) (x : Int) (h : i ≠ k) : upd F k x i = F i := by simp [upd, h]
/-- F and T: the ends of the intervals; n: how many count; the delay, the floor, the largest number, its time, the count, the deadline. -/
def trk (F T : Nat → Int) (n d fl lg wh ct du : Int) : Array Value := #[.int .i64 (F 0), .int .i64 (T 0), .int .i64 (F 1), .int .i64 (T 1), .int .i64 (F 2), .int .i64 (T 2), .int .i64 (F 3), .int .i64 (T 3), .int .i64 (F 4), .int .i64 (T 4), .int .i64 (F 5), .int .i64 (T 5), .int .i64 (F 6), .int .i64 (T 6), .int .i64 (F 7), .int .i64 (T 7), .int .i64 (F 8), .int .i64 (T 8), .int .i64 (F 9), .int .i64 (T 9), .int .i64 (F 10), .int .i64 (T 10), .int .i64 (F 11), .int .i64 (T 11), .int .i64 (F 12), .int .i64 (T 12), .int .i64 (F 13), .int .i64 (T 13), .int .i64 (F 14), .int .i64 (T 14), .int .i64 (F 15), .int .i64 (T 15), .int .i64 (F 16), .int .i64 (T 16), .int .i64 n, .int .i64 d, .int .i64 fl, .int .i64 lg, .int .i64 wh, .int .i64 ct, .int .i64 du]
section
variable (F T : Nat → Int) (n d fl lg wh ct du : Int)
theorem trk_F (k : Nat) (hk : k < 17) : (trk F T n d fl lg wh ct du)[k * 2]? = some (.int .i64 (F k)) :=
  match k, hk with
  | 0, _ => rfl
  | 1, _ => rfl
  | 2, _ => rfl
  | 3, _ => rfl
  | 4, _ => rfl
  | 5, _ => rfl
  | 6, _ => rfl
  | 7, _ => rfl
  | 8, _ => rfl
  | 9, _ => rfl
  | 10, _ => rfl
  | 11, _ => rfl
  | 12, _ => rfl
  | 13, _ => rfl
  | 14, _ => rfl
  | 15, _ => rfl
  | 16, _ => rfl
  | n + 17, h => absurd h (by omega)
theorem trk_T (k : Nat) (hk : k < 17) : (trk F T n d fl lg wh ct du)[k * 2 + 1]? = some (.int .i64 (T k)) :=
  match k, hk with
  | 0, _ => rfl
  | 1, _ => rfl
  | 2, _ => rfl
  | 3, _ => rfl
  | 4, _ => rfl
  | 5, _ => rfl
  | 6, _ => rfl
  | 7, _ => rfl
  | 8, _ => rfl
  | 9, _ => rfl
  | 10, _ => rfl
  | 11, _ => rfl
  | 12, _ => rfl
  | 13, _ => rfl
  | 14, _ => rfl
  | 15, _ => rfl
  | 16, _ => rfl
  | n + 17, h => absurd h (by omega)
theorem trk_setF (k : Nat) (hk : k < 17) (x : Int) : (trk F T n d fl lg wh ct du).setIfInBounds (k * 2) (.int .i64 x) = trk (upd F k x) T n d fl lg wh ct du :=
  match k, hk with
  | 0, _ => rfl
  | 1, _ => rfl
  | 2, _ => rfl
  | 3, _ => rfl
  | 4, _ => rfl
  | 5, _ => rfl
  | 6, _ => rfl
  | 7, _ => rfl
  | 8, _ => rfl
  | 9, _ => rfl
  | 10, _ => rfl
  | 11, _ => rfl
  | 12, _ => rfl
  | 13, _ => rfl
  | 14, _ => rfl
  | 15, _ => rfl
  | 16, _ => rfl
  | n + 17, h => absurd h (by omega)
theorem trk_setT (k : Nat) (hk : k < 17) (x : Int) : (trk F T n d fl lg wh ct du).setIfInBounds (k * 2 + 1) (.int .i64 x) = trk F (upd T k x) n d fl lg wh ct du :=
  match k, hk with
  | 0, _ => rfl
  | 1, _ => rfl
  | 2, _ => rfl
  | 3, _ => rfl
  | 4, _ => rfl
  | 5, _ => rfl
  | 6, _ => rfl
  | 7, _ => rfl
  | 8, _ => rfl
  | 9, _ => rfl
  | 10, _ => rfl
  | 11, _ => rfl
  | 12, _ => rfl
  | 13, _ => rfl
  | 14, _ => rfl
  | 15, _ => rfl
  | 16, _ => rfl
  | n + 17, h => absurd h (by omega)
theorem trk_n : (trk F T n d fl lg wh ct du)[34]? = some (.int .i64 n) := rfl
theorem trk_set_n (x : Int) : (trk F T n d fl lg wh ct du).setIfInBounds 34 (.int .i64 x) = trk F T x d fl lg wh ct du := rfl
theorem trk_d : (trk F T n d fl lg wh ct du)[35]? = some (.int .i64 d) := rfl
theorem trk_set_d (x : Int) : (trk F T n d fl lg wh ct du).setIfInBounds 35 (.int .i64 x) = trk F T n x fl lg wh ct du := rfl
theorem trk_fl : (trk F T n d fl lg wh ct du)[36]? = some (.int .i64 fl) := rfl
theorem trk_set_fl (x : Int) : (trk F T n d fl lg wh ct du).setIfInBounds 36 (.int .i64 x) = trk F T n d x lg wh ct du := rfl
theorem trk_lg : (trk F T n d fl lg wh ct du)[37]? = some (.int .i64 lg) := rfl
theorem trk_set_lg (x : Int) : (trk F T n d fl lg wh ct du).setIfInBounds 37 (.int .i64 x) = trk F T n d fl x wh ct du := rfl
theorem trk_wh : (trk F T n d fl lg wh ct du)[38]? = some (.int .i64 wh) := rfl
theorem trk_set_wh (x : Int) : (trk F T n d fl lg wh ct du).setIfInBounds 38 (.int .i64 x) = trk F T n d fl lg x ct du := rfl
theorem trk_ct : (trk F T n d fl lg wh ct du)[39]? = some (.int .i64 ct) := rfl
theorem trk_set_ct (x : Int) : (trk F T n d fl lg wh ct du).setIfInBounds 39 (.int .i64 x) = trk F T n d fl lg wh x du := rfl
theorem trk_du : (trk F T n d fl lg wh ct du)[40]? = some (.int .i64 du) := rfl
theorem trk_set_du (x : Int) : (trk F T n d fl lg wh ct du).setIfInBounds 40 (.int .i64 x) = trk F T n d fl lg wh ct x := rfl
theorem trk_size : (trk F T n d fl lg wh ct du).size = 41 := rfl
end
end Go.Proofs.Ytmmgmpghkpbgkaa
/- The iterator over a tracker's intervals: what it hands to whatever loop body. -/
namespace Go.Proofs.Ytmmgmpghkpbgkaa
open Go Go.RowKit Go.Shelf
set_option linter.unusedVariables false
attribute [local go_sem] Oper.semAt_some

def Trk (w : World) (b : Nat) (F T : Nat → Int) (n : Nat) (d fl lg wh ct du : Int) : Prop := At w b 88 (trk F T n d fl lg wh ct du)
/-- What has come when k rounds are over. -/
def upto (F T : Nat → Int) (k : Nat) : List (Nat × Int × Int) := (List.range k).map fun i => (i, F i, T i)
theorem upto_succ (F T : Nat → Int) (k : Nat) : upto F T (k + 1) = upto F T k ++ [(k, F k, T k)] := by simp [upto, List.range_succ]
theorem upto_length (F T : Nat → Int) (k : Nat) : (upto F T k).length = k := by simp [upto]
def spanOf (x : Nat × Int × Int) : Array Value := #[.int .i64 (x.1 : Int), .agg #[.int .i64 x.2.1, .int .i64 x.2.2]]

section
variable {w : World} {b : Nat} {F T : Nat → Int} {n : Nat} {d fl lg wh ct du : Int} (h : Trk w b F T n d fl lg wh ct du)
include h
theorem Trk.gF (k : Nat) (hk : k < 17) : w.cell? ⟨b, k * 2, none⟩ = some (.int .i64 (F k)) := At.cell h _ (trk_F F T n d fl lg wh ct du k hk)
theorem Trk.gT (k : Nat) (hk : k < 17) : w.cell? ⟨b, k * 2 + 1, none⟩ = some (.int .i64 (T k)) := At.cell h _ (trk_T F T n d fl lg wh ct du k hk)
theorem Trk.gn : w.cell? ⟨b, 34, none⟩ = some (.int .i64 n) := At.cell h 34 rfl
theorem Trk.gd : w.cell? ⟨b, 35, none⟩ = some (.int .i64 d) := At.cell h 35 rfl
theorem Trk.gfl : w.cell? ⟨b, 36, none⟩ = some (.int .i64 fl) := At.cell h 36 rfl
theorem Trk.glg : w.cell? ⟨b, 37, none⟩ = some (.int .i64 lg) := At.cell h 37 rfl
theorem Trk.gwh : w.cell? ⟨b, 38, none⟩ = some (.int .i64 wh) := At.cell h 38 rfl
theorem Trk.gct : w.cell? ⟨b, 39, none⟩ = some (.int .i64 ct) := At.cell h 39 rfl
theorem Trk.gdu : w.cell? ⟨b, 40, none⟩ = some (.int .i64 du) := At.cell h 40 rfl
end

/-- The blocks b and c are as they were. -/
def TwoA (b c : Nat) (W W' : World) : Prop := W'.heap[b]? = W.heap[b]? ∧ W'.heap[c]? = W.heap[c]?
theorem TwoA.refl (b c : Nat) (W : World) : TwoA b c W W := ⟨rfl, rfl⟩
theorem TwoA.trans {b c : Nat} {A B C : World} (h : TwoA b c A B) (k : TwoA b c B C) : TwoA b c A C := ⟨k.1.trans h.1, k.2.trans h.2⟩
theorem TwoA.put {b c n : Nat} (hb : b < n) (hc : c < n) (W : World) (l : Nat) (o o' : Obj) (hl : n ≤ l) (_h : W.heap[l]? = some o) (_h1 : o.isCells = false) (_h2 : o.isWalk = false) : TwoA b c W (W.putObj l o') :=
  ⟨World.putObj_heap_other (by omega), World.putObj_heap_other (by omega)⟩
theorem TwoA.of_below {b c n : Nat} {W W' : World} (h : Below n W W') (hb : b < n) (hc : c < n) : TwoA b c W W' := ⟨h.block b hb, h.block c hc⟩
theorem TwoA.trk {b c : Nat} {W W' : World} (h : TwoA b c W W') {F T : Nat → Int} {n : Nat} {d fl lg wh ct du : Int} (k : Trk W b F T n d fl lg wh ct du) : Trk W' b F T n d fl lg wh ct du := h.1.trans k
theorem TwoA.box {b c : Nat} {W W' : World} (h : TwoA b c W W') {v : Value} (k : W.cell? ⟨c, 0, none⟩ = some v) : W'.cell? ⟨c, 0, none⟩ = some v := (World.cell?_of_block (w := W) h.2).trans k

set_option maxRecDepth 100000 in
set_option maxHeartbeats 2000000 in
theorem all1_in (F0 : Fence) (m : Nat) (hf : F0.fn 75) (hro : F0.round = none) (hm : 1 ≤ m) (l Bs b : Nat) (F T : Nat → Int) (n : Nat) (d fl lg wh ct du : Int) (hn : n ≤ 17) (J Jx : List (Nat × Int × Int) → World → Prop)
    (hY : ∀ pre x W, J pre W → pre.length < n → YieldAt F0 (m - 1) Try.prog l (spanOf x) W fun e W' =>
      (e = .returned (.bool true) ∧ J (pre ++ [x]) W' ∧ TwoA b Bs W W') ∨ (e = .returned (.bool false) ∧ Jx (pre ++ [x]) W'))
    (W : World) (hBs : W.cell? ⟨Bs, 0, none⟩ = some (.pointer (some ⟨b, 0, none⟩))) (hT : Trk W b F T n d fl lg wh ct du) (h0 : J [] W) :
    CallsIn F0 m Try.prog 75 #[.func (.yield l) #[] #[], .pointer (some ⟨Bs, 0, none⟩)] W fun e W' => (∃ v, e = .returned v) ∧
      ((∃ ys, ys = upto F T n ∧ J ys W') ∨ (∃ pre, (∃ k, k ≤ n ∧ pre = upto F T k) ∧ Jx pre W')) := by
  have hcn := hT.gn
  have HT := Lib.hid hT; clear hT
  refine callsIn_of_wp Try.func75 rfl hf ?_ hro
  simp only [Try.ntmps75, List.size_toArray, List.length_cons, List.length_nil, Nat.reduceAdd, Nat.reduceSub, Array.replicate_succ, Array.replicate_zero, List.push_toArray, List.append_toArray, List.nil_append, List.cons_append]
  gi_wp2
  gi_loopw [8] (fun i wr => ∃ k : Nat, k ≤ n ∧ i = .int .i64 k ∧ J (upto F T k) wr ∧ TwoA b Bs W wr)
    (fun i _ => n - (intOf i).toNat)
  case atStart => exact ⟨0, Nat.zero_le _, rfl, h0, TwoA.refl _ _ _⟩
  case round =>
    obtain ⟨k, hk, rfl, hJs, hnx⟩ := hrel
    have HT2 := Lib.hid (hnx.trk HT.out)
    have hB2 := hnx.box hBs
    clear hBs hcn
    by_cases hlt : k < n
    · obtain ⟨fn, tmps, assign, body, hy, hR⟩ := hY _ (k, F k, T k) wr hJs (by rw [upto_length]; exact hlt)
      simp only [spanOf] at hy
      have hcF := HT2.out.gF k (by omega)
      have hcT := HT2.out.gT k (by omega)
      gi_wp2
      refine hR.mono ?_
      rintro e W3 (⟨rfl, hJ3, hk3⟩ | ⟨rfl, hJx3⟩)
      · gi_wp2
        go_roundw
        case rel => exact ⟨k + 1, by omega, by simp, by rw [upto_succ]; exact hJ3, hnx.trans hk3⟩
        case measure => simp [intOf]; omega
      · gi_wp2
        refine bodyPost_ret (results_none rfl _ _ _) rfl ?_
        exact ⟨⟨_, rfl⟩, .inr ⟨_, ⟨k + 1, by omega, (upto_succ _ _ _).symm⟩, hJx3⟩⟩
    · obtain rfl : k = n := by omega
      gi_wp2
      go_end0
      exact ⟨⟨_, rfl⟩, .inl ⟨_, rfl, hJs⟩⟩

set_option maxHeartbeats 1000000 in
theorem all_inA (F0 : Fence) (m : Nat) (hf : F0.fn 55) (hro : F0.round = none) (a : Option Addr) (w : World) :
    CallsIn F0 m Try.prog 55 #[.pointer a] w fun e w' => e = .returned (.func (.func 75) #[] #[.pointer (some ⟨w.heap.size, 0, none⟩)]) ∧ w' = w.alloc (.cells #[.pointer a] 133) := by
  refine callsIn_of_wp Try.func55 rfl hf ?_ hro
  simp only [Try.ntmps55, List.size_toArray, List.length_cons, List.length_nil, Nat.reduceAdd, Nat.reduceSub, Array.replicate_succ, Array.replicate_zero, List.push_toArray, List.append_toArray, List.nil_append, List.cons_append]
  gi_wp2
  go_ret
  exact ⟨rfl, rfl⟩

theorem all_stops (F0 : Fence) (m : Nat) (hf : F0.fn 75) (hro : F0.round = none) (hm : 1 ≤ m) (Bs b : Nat) (F T : Nat → Int) (n : Nat) (d fl lg wh ct du : Int) (hn : n ≤ 17) (w : World) (hBl : Bs < w.heap.size) (hbl : b < w.heap.size)
    (hBs : w.cell? ⟨Bs, 0, none⟩ = some (.pointer (some ⟨b, 0, none⟩))) (hT : Trk w b F T n d fl lg wh ct du) :
    SeqStopsK F0 m Try.prog 75 #[.pointer (some ⟨Bs, 0, none⟩)] spanOf (TwoA b Bs) (fun ys => ys = upto F T n)
      (fun pre => ∃ k, k ≤ n ∧ pre = upto F T k) n w := fun l J Jx W hW _ _ hY h0 =>
  all1_in F0 m hf hro hm l Bs b F T n d fl lg wh ct du hn J Jx hY W ((TwoA.of_below hW hbl hBl).box hBs) ((TwoA.of_below hW hbl hBl).trk hT) h0
end Go.Proofs.Ytmmgmpghkpbgkaa
/- Contracts of package acks: has, place. -/
namespace Go.Proofs.Ytmmgmpghkpbgkaa
open Go Go.RowKit Go.Shelf
set_option linter.unusedVariables false
attribute [local go_sem] Oper.semAt_some

theorem at_own {β : Type} (B : Nat) (t : TypeId) (f : β → Array Value) : Own (fun s W => At W B t (f s)) := by
  intro s X Y row hA hg hrow
  refine (hg.block B hA.lt (fun e => ?_)).trans hA
  obtain ⟨o, ho, hc⟩ := hrow B e.symm
  rw [show X.heap[B]? = _ from hA] at ho
  cases ho; cases hc
theorem upto_mem {F T : Nat → Int} {k : Nat} {p : Nat × Int × Int} : p ∈ upto F T k ↔ ∃ i, i < k ∧ p = (i, F i, T i) := by
  simp only [upto, List.mem_map, List.mem_range]
  constructor
  · rintro ⟨i, h1, h2⟩; exact ⟨i, h1, h2.symm⟩
  · rintro ⟨i, h1, h2⟩; exact ⟨i, h1, h2.symm⟩
theorem at_put {W : World} {B : Nat} {t : TypeId} {cs : Array Value} (h : At W B t cs) {l : Nat} {o : Obj} (o' : Obj) (hl : W.heap[l]? = some o) (ho : o.isCells = false) : At (W.putObj l o') B t cs :=
  at_own B t (fun (_ : Unit) => cs) () W _ _ h (grownBy_putObj' W l o') (fun r e => by cases e; exact ⟨_, hl, ho⟩)

def NoneIn (pn : Int) (L : List (Nat × Int × Int)) : Prop := ∀ p ∈ L, ¬ (p.2.1 ≤ pn ∧ pn < p.2.2)
def SomeIn (pn : Int) (L : List (Nat × Int × Int)) : Prop := ∃ p ∈ L, p.2.1 ≤ pn ∧ pn < p.2.2

set_option maxRecDepth 100000 in
set_option maxHeartbeats 4000000 in
theorem has_in (F0 : Fence) (m : Nat) (h1f : F0.fn 51) (h2f : F0.fn 55) (h3f : F0.fn 75) (hro : F0.round = none) (hm : 3 ≤ m) (b : Nat) (pn : Int) (F T : Nat → Int) (n : Nat) (d fl lg wh ct du : Int) (hn : n ≤ 17) (w : World) (hT : Trk w b F T n d fl lg wh ct du) :
    CallsIn F0 m Try.prog 51 #[.pointer (some ⟨b, 0, none⟩), .int .i64 pn] w fun e W' => ((e = .returned (.bool false) ∧ ∀ i, i < n → ¬ (F i ≤ pn ∧ pn < T i)) ∨ (e = .returned (.bool true) ∧ ∃ i, i < n ∧ F i ≤ pn ∧ pn < T i)) ∧ Below w.heap.size w W' := by
  have h1 : 1 ≤ m := by omega
  have hbl := At.lt hT
  refine callsIn_of_wp_marks Try.func51 rfl h1f ?_ hro
  simp only [Try.ntmps51, List.size_toArray, List.length_cons, List.length_nil, Nat.reduceAdd, Nat.reduceSub, Array.replicate_succ, Array.replicate_zero, List.push_toArray, List.append_toArray, List.nil_append, List.cons_append]
  gi_wp2_with (gi_at_call 55; refine (all_inA F0 (m - 1) h2f hro _ _).mono ?_; rintro e w' ⟨rfl, rfl⟩)
  have bP := ((At.new w 3 #[.int .i64 pn]).alloc (.cells #[.bool false] 4)).alloc (.cells #[.pointer (some ⟨b, 0, none⟩)] 133)
  have bR := (At.new (w.alloc (.cells #[.int .i64 pn] 3)) 4 #[.bool false]).alloc (.cells #[.pointer (some ⟨b, 0, none⟩)] 133)
  have bV := At.new ((w.alloc (.cells #[.int .i64 pn] 3)).alloc (.cells #[.bool false] 4)) 133 #[.pointer (some ⟨b, 0, none⟩)]
  simp only [World.size_alloc] at bR bV
  have hT0 : Trk (((w.alloc (.cells #[.int .i64 pn] 3)).alloc (.cells #[.bool false] 4)).alloc (.cells #[.pointer (some ⟨b, 0, none⟩)] 133)) b F T n d fl lg wh ct du := ((At.alloc hT _).alloc _).alloc _
  have hB0 : Below w.heap.size w (((w.alloc (.cells #[.int .i64 pn] 3)).alloc (.cells #[.bool false] 4)).alloc (.cells #[.pointer (some ⟨b, 0, none⟩)] 133)) := (((Below.refl _ w).alloc (Nat.le_refl _) _).alloc (by simp) _).alloc (by simp; omega) _
  have hsz : (((w.alloc (.cells #[.int .i64 pn] 3)).alloc (.cells #[.bool false] 4)).alloc (.cells #[.pointer (some ⟨b, 0, none⟩)] 133)).heap.size = w.heap.size + 3 := by simp
  obtain ⟨W0, hW0⟩ : ∃ W0, ((w.alloc (.cells #[.int .i64 pn] 3)).alloc (.cells #[.bool false] 4)).alloc (.cells #[.pointer (some ⟨b, 0, none⟩)] 133) = W0 := ⟨_, rfl⟩
  rw [hW0] at bP bR bV hB0 hsz hT0 ⊢
  clear hW0 hT
  refine wpIn_rangeFunc_ownH hro h1 (gf := 75) (lb := #[.pointer (some ⟨w.heap.size + 1 + 1, 0, none⟩)]) rfl h3f (enters_of Try.func75 (by kernel_rfl) rfl)
    (all_stops F0 (m - 1) h3f hro (by omega) (w.heap.size + 1 + 1) b F T n d fl lg wh ct du hn W0 (by omega) (by omega) (bV.cell 0 rfl) hT0) (fun h k => TwoA.trans h k) (TwoA.put (by omega) (by omega)) (Below.refl _ _) (fun _ => rfl)
    (fun pre W => (NoneIn pn pre ∧ At W w.heap.size 3 #[.int .i64 pn] ∧ At W (w.heap.size + 1) 4 #[.bool false] ∧ At W (w.heap.size + 1 + 1) 133 #[.pointer (some ⟨b, 0, none⟩)]) ∧ Below w.heap.size w W)
    (fun c pre W => (c = .ret ∧ SomeIn pn pre ∧ At W (w.heap.size + 1) 4 #[.bool true]) ∧ Below w.heap.size w W)
    (OwnFrom.and (OwnFrom.and (ownFrom_pure _ _) (OwnFrom.and (Own.from (at_own _ _ _) _) (OwnFrom.and (Own.from (at_own _ _ _) _) (Own.from (at_own _ _ _) _)))) (ownFrom_below (Nat.le_refl _) (by omega)))
    (fun c => OwnFrom.and (OwnFrom.and (ownFrom_pure _ _) (OwnFrom.and (ownFrom_pure _ _) (Own.from (at_own _ _ _) _))) (ownFrom_below (Nat.le_refl _) (by omega)))
    ⟨⟨fun p hp => by simp at hp, bP, bR, bV⟩, hB0⟩
    (fun x a' W => ∃ Bx, w.heap.size + 1 < Bx ∧ At W Bx 43 #[.int .i64 x.2.1, .int .i64 x.2.2] ∧ a' = { tmps := #[.pointer (some ⟨b, 0, none⟩), .int .i64 pn, undef, .pointer (some ⟨w.heap.size, 0, none⟩), .pointer (some ⟨w.heap.size + 1, 0, none⟩), undef, .pointer (some ⟨Bx, 0, none⟩), .pointer (some ⟨b, 0, none⟩), .func (.func 75) #[] #[.pointer (some ⟨w.heap.size + 1 + 1, 0, none⟩)], .int .i64 x.1, .agg #[.int .i64 x.2.1, .int .i64 x.2.2], undef, undef, undef, undef, undef, undef, undef, undef, undef, undef], defers := [] })
    (fun x a' _ X Y row hs hg hr => by obtain ⟨Bx, h1, h2, h3⟩ := hs; exact ⟨Bx, h1, at_own Bx 43 (fun (_ : Unit) => #[.int .i64 x.2.1, .int .i64 x.2.2]) () X Y row h2 hg (fun r e => (hr r e).2), h3⟩)
    ?assign ?body ?done ?stop
  case assign =>
    rintro l pre x W K ⟨⟨hp, bP1, bR1, bV1⟩, hB1⟩ hK
    have hs1 := bV1.lt
    simp only [spanOf]
    gi_wp2
    exact hK _ _ ((KeepsOthers.alloc _ _).from _) (TwoA.of_below ((Below.refl _ W).alloc (Nat.le_refl _) _) (by omega) (by omega)) ⟨⟨hp, bP1.alloc _, bR1.alloc _, bV1.alloc _⟩, hB1.alloc hB1.size _⟩ ⟨W.heap.size, by omega, At.new _ _ _, rfl⟩
  case body =>
    rintro l pre x a' W hl ⟨r, hr⟩ ⟨⟨hp, bP1, bR1, bV1⟩, hB1⟩ ⟨Bx, hBx, bX, rfl⟩ hlt
    have c1 := bP1.cell 0 rfl
    have c2 := bX.cell 0 rfl
    have c3 := bX.cell 1 rfl
    have c4 := bR1.cell 0 rfl
    have f1 := bR1.free 0
    have hne : ¬ (x.2.1 ≤ pn ∧ pn < x.2.2) → NoneIn pn (pre ++ [x]) := fun h p hp' => (List.mem_append.1 hp').elim (hp p) (fun e => by simp at e; subst e; exact h)
    have HN := Lib.hid hne; clear hne
    have HP := Lib.hid hp; clear hp
    have HPs := Lib.hid (show x ∈ pre ++ [x] by simp)
    by_cases t1 : x.2.1 ≤ pn
    · by_cases t2 : pn < x.2.2
      · have hyes := Lib.hid (And.intro t1 t2)
        gi_wp2
        exact ⟨(KeepsOthers.setCell _ _ _).from _, ⟨rfl, ⟨x, HPs.out, hyes.out⟩, bR1.set 0 _ rfl⟩, hB1.setCell (p := ⟨w.heap.size + 1, 0, none⟩) (by simp) _⟩
      · have hno := Lib.hid (show ¬ (x.2.1 ≤ pn ∧ pn < x.2.2) from fun h => t2 h.2)
        gi_wp2
        exact ⟨KeepsFrom.refl _ _, TwoA.refl _ _ _, ⟨HN.out hno.out, bP1, bR1, bV1⟩, hB1⟩
    · have hno := Lib.hid (show ¬ (x.2.1 ≤ pn ∧ pn < x.2.2) from fun h => t1 h.1)
      gi_wp2
      exact ⟨KeepsFrom.refl _ _, TwoA.refl _ _ _, ⟨HN.out hno.out, bP1, bR1, bV1⟩, hB1⟩
  case done =>
    rintro D zs W hD rfl ⟨⟨hp, bP1, bR1, bV1⟩, hB1⟩ hK
    have c1 := bR1.cell 0 rfl
    have f1 := bR1.free 0
    have HP := Lib.hid hp; clear hp
    gi_wp2
    have hK' := (KeepsOthers.setCell W ⟨w.heap.size + 1, 0, none⟩ (.bool false)).same D _ hK rfl
    refine ⟨by simp, .inl ⟨_, _, rfl, run_takeDeferred hK', ?_⟩⟩
    have hc5 := (at_put (bR1.set 0 (.bool false) rfl) (.deferred none) hK' rfl).cell 0 rfl
    refine ⟨.bool false, ?_, .inl ⟨rfl, fun i hi => HP.out (i, F i, T i) (upto_mem.2 ⟨i, hi, rfl⟩)⟩, (hB1.setCell (p := ⟨w.heap.size + 1, 0, none⟩) (by simp) _).trans (belowK_b (w := w) (Nat.le_refl _) _ D _ _ (by omega) hK' rfl rfl)⟩
    simp [results, Try.f51, go_sem, hc5]
  case stop =>
    rintro D c pre W hD ⟨k, hk, rfl⟩ ⟨⟨rfl, hp, bR1⟩, hB1⟩ hK
    have HP := Lib.hid hp; clear hp
    gi_wp2
    refine ⟨by simp, .inl ⟨_, _, rfl, run_takeDeferred hK, ?_⟩⟩
    have hc5 := (at_put bR1 (.deferred none) hK rfl).cell 0 rfl
    obtain ⟨p, hpm, hpi⟩ := HP.out
    obtain ⟨i, hi, rfl⟩ := upto_mem.1 hpm
    refine ⟨.bool true, ?_, .inr ⟨rfl, i, by omega, hpi⟩, hB1.trans (belowK_b (w := w) (Nat.le_refl _) _ D _ _ (by omega) hK rfl rfl)⟩
    simp [results, Try.f51, go_sem, hc5]
end Go.Proofs.Ytmmgmpghkpbgkaa
/- Contracts of package acks: place. -/
namespace Go.Proofs.Ytmmgmpghkpbgkaa
open Go Go.RowKit Go.Shelf
set_option linter.unusedVariables false
attribute [local go_sem] Oper.semAt_some

def AllLt (pn : Int) (L : List (Nat × Int × Int)) : Prop := ∀ p ∈ L, p.2.2 < pn
def LastGe (pn : Int) (L : List (Nat × Int × Int)) (z : Int) : Prop := ∃ ini last, L = ini ++ [last] ∧ AllLt pn ini ∧ pn ≤ last.2.2 ∧ z = (last.1 : Int)
theorem AllLt.upto {pn : Int} {F T : Nat → Int} {k : Nat} (h : AllLt pn (upto F T k)) (i : Nat) (hi : i < k) : T i < pn := h (i, F i, T i) (upto_mem.2 ⟨i, hi, rfl⟩)
theorem LastGe.upto {pn z : Int} {F T : Nat → Int} {k : Nat} (h : LastGe pn (upto F T k) z) : ∃ j, k = j + 1 ∧ z = (j : Int) ∧ pn ≤ T j ∧ ∀ i, i < j → T i < pn := by
  obtain ⟨ini, last, h1, h2, h3, h4⟩ := h
  cases k with
  | zero => simp [Go.Proofs.Ytmmgmpghkpbgkaa.upto] at h1
  | succ j =>
    rw [upto_succ] at h1
    obtain ⟨e1, e2⟩ := List.append_inj' h1 rfl
    obtain rfl : (j, F j, T j) = last := by simpa using e2
    subst e1
    exact ⟨j, rfl, h4, h3, h2.upto⟩

set_option maxRecDepth 100000 in
set_option maxHeartbeats 4000000 in
theorem place_in (b : Nat) (pn : Int) (F T : Nat → Int) (n : Nat) (d fl lg wh ct du : Int) (hn : n ≤ 17) (w : World) (hT : Trk w b F T n d fl lg wh ct du) :
    CallsIn Fence.wide 3 Try.prog 74 #[.pointer (some ⟨b, 0, none⟩), .int .i64 pn] w fun e W' => (∃ k : Nat, k ≤ n ∧ e = .returned (.int .i64 k) ∧ (∀ i, i < k → T i < pn) ∧ (k < n → pn ≤ T k)) ∧ Below w.heap.size w W' := by
  have hro : Fence.wide.round = none := rfl
  have h1 : 1 ≤ 3 := by omega
  have hbl := At.lt hT
  have hcn : (w.alloc (.cells #[.int .i64 pn] 3)).cell? ⟨b, 34, none⟩ = some (.int .i64 n) := Trk.gn (At.alloc hT _)
  refine callsIn_of_wp_marks Try.func74 rfl trivial ?_ hro
  simp only [Try.ntmps74, List.size_toArray, List.length_cons, List.length_nil, Nat.reduceAdd, Nat.reduceSub, Array.replicate_succ, Array.replicate_zero, List.push_toArray, List.append_toArray, List.nil_append, List.cons_append]
  gi_wp2_with fail
  refine wpIn_wide.2 ?_
  apply wp_scope_straight
  refine (wpIn_wide (n := 3)).1 ?_
  gi_wp2_with fail
  refine wpIn_label ?_
  gi_wp2_with fail
  refine ⟨trivial, ?_⟩
  refine (all_inA Fence.wide 2 trivial hro _ _).mono ?_
  rintro e w' ⟨rfl, rfl⟩
  gi_wp2_with fail
  have bP := ((At.new w 3 #[.int .i64 pn]).alloc (.cells #[.int .i64 n] 3)).alloc (.cells #[.pointer (some ⟨b, 0, none⟩)] 133)
  have bR := (At.new (w.alloc (.cells #[.int .i64 pn] 3)) 3 #[.int .i64 n]).alloc (.cells #[.pointer (some ⟨b, 0, none⟩)] 133)
  have bV := At.new ((w.alloc (.cells #[.int .i64 pn] 3)).alloc (.cells #[.int .i64 n] 3)) 133 #[.pointer (some ⟨b, 0, none⟩)]
  simp only [World.size_alloc] at bR bV
  have hT0 : Trk (((w.alloc (.cells #[.int .i64 pn] 3)).alloc (.cells #[.int .i64 n] 3)).alloc (.cells #[.pointer (some ⟨b, 0, none⟩)] 133)) b F T n d fl lg wh ct du := ((At.alloc hT _).alloc _).alloc _
  have hB0 : Below w.heap.size w (((w.alloc (.cells #[.int .i64 pn] 3)).alloc (.cells #[.int .i64 n] 3)).alloc (.cells #[.pointer (some ⟨b, 0, none⟩)] 133)) := (((Below.refl _ w).alloc (Nat.le_refl _) _).alloc (by simp) _).alloc (by simp; omega) _
  have hsz : (((w.alloc (.cells #[.int .i64 pn] 3)).alloc (.cells #[.int .i64 n] 3)).alloc (.cells #[.pointer (some ⟨b, 0, none⟩)] 133)).heap.size = w.heap.size + 3 := by simp
  obtain ⟨W0, hW0⟩ : ∃ W0, ((w.alloc (.cells #[.int .i64 pn] 3)).alloc (.cells #[.int .i64 n] 3)).alloc (.cells #[.pointer (some ⟨b, 0, none⟩)] 133) = W0 := ⟨_, rfl⟩
  rw [hW0] at bP bR bV hB0 hsz hT0 ⊢
  clear hW0 hT hcn
  refine wpIn_rangeFunc_ownH hro h1 (gf := 75) (lb := #[.pointer (some ⟨w.heap.size + 1 + 1, 0, none⟩)]) rfl trivial (enters_of Try.func75 (by kernel_rfl) rfl)
    (all_stops Fence.wide 2 trivial hro (by omega) (w.heap.size + 1 + 1) b F T n d fl lg wh ct du hn W0 (by omega) (by omega) (bV.cell 0 rfl) hT0) (fun h k => TwoA.trans h k) (TwoA.put (by omega) (by omega)) (Below.refl _ _) (fun _ => rfl)
    (fun pre W => (AllLt pn pre ∧ At W w.heap.size 3 #[.int .i64 pn] ∧ At W (w.heap.size + 1) 3 #[.int .i64 n] ∧ At W (w.heap.size + 1 + 1) 133 #[.pointer (some ⟨b, 0, none⟩)]) ∧ Below w.heap.size w W)
    (fun c pre W => ∃ z : Int, (c = .exit 0 ∧ LastGe pn pre z ∧ At W (w.heap.size + 1) 3 #[.int .i64 z]) ∧ Below w.heap.size w W)
    (OwnFrom.and (OwnFrom.and (ownFrom_pure _ _) (OwnFrom.and (Own.from (at_own _ _ _) _) (OwnFrom.and (Own.from (at_own _ _ _) _) (Own.from (at_own _ _ _) _)))) (ownFrom_below (Nat.le_refl _) (by omega)))
    (fun c s X Y row hs hg hr => by
      obtain ⟨z, ⟨h1, h2, h3⟩, h4⟩ := hs
      exact ⟨z, ⟨h1, h2, at_own _ _ (fun (_ : Unit) => #[Value.int .i64 z]) () X Y row h3 hg (fun r e => (hr r e).2)⟩, ownFrom_below (β := Unit) (Nat.le_refl _) (by omega) () X Y row h4 hg hr⟩)
    ⟨⟨fun p hp => by simp at hp, bP, bR, bV⟩, hB0⟩
    (fun x a' W => ∃ Bx, w.heap.size + 1 < Bx ∧ At W Bx 43 #[.int .i64 x.2.1, .int .i64 x.2.2] ∧ a' = { tmps := #[.pointer (some ⟨b, 0, none⟩), .int .i64 pn, undef, .pointer (some ⟨w.heap.size, 0, none⟩), .int .i64 0, .pointer (some ⟨w.heap.size + 1, 0, none⟩), .int .i64 x.1, .pointer (some ⟨Bx, 0, none⟩), .pointer (some ⟨b, 0, none⟩), .pointer (some ⟨b, 0, none⟩), .pointer (some ⟨b, 34, none⟩), .int .i64 n, .pointer (some ⟨b, 0, none⟩), .func (.func 75) #[] #[.pointer (some ⟨w.heap.size + 1 + 1, 0, none⟩)], .int .i64 x.1, .agg #[.int .i64 x.2.1, .int .i64 x.2.2], undef, undef, undef, undef, undef, undef], defers := [] })
    (fun x a' _ X Y row hs hg hr => by obtain ⟨Bx, h1, h2, h3⟩ := hs; exact ⟨Bx, h1, at_own Bx 43 (fun (_ : Unit) => #[.int .i64 x.2.1, .int .i64 x.2.2]) () X Y row h2 hg (fun r e => (hr r e).2), h3⟩)
    ?assign ?body ?done ?stop
  case assign =>
    rintro l pre x W K ⟨⟨hp, bP1, bR1, bV1⟩, hB1⟩ hK
    have hs1 := bV1.lt
    simp only [spanOf]
    gi_wp2
    exact hK _ _ ((KeepsOthers.alloc _ _).from _) (TwoA.of_below ((Below.refl _ W).alloc (Nat.le_refl _) _) (by omega) (by omega)) ⟨⟨hp, bP1.alloc _, bR1.alloc _, bV1.alloc _⟩, hB1.alloc hB1.size _⟩ ⟨W.heap.size, by omega, At.new _ _ _, rfl⟩
  case body =>
    rintro l pre x a' W hl ⟨r, hr⟩ ⟨⟨hp, bP1, bR1, bV1⟩, hB1⟩ ⟨Bx, hBx, bX, rfl⟩ hlt
    have c1 := bP1.cell 0 rfl
    have c3 := bX.cell 1 rfl
    have c4 := bR1.cell 0 rfl
    have f1 := bR1.free 0
    have hne : x.2.2 < pn → AllLt pn (pre ++ [x]) := fun h p hp' => (List.mem_append.1 hp').elim (hp p) (fun e => by simp at e; subst e; exact h)
    have hye : pn ≤ x.2.2 → LastGe pn (pre ++ [x]) (x.1 : Int) := fun h => ⟨pre, x, rfl, hp, h, rfl⟩
    have HN := Lib.hid hne; clear hne
    have HY := Lib.hid hye; clear hye
    have HP := Lib.hid hp; clear hp
    by_cases t1 : pn ≤ x.2.2
    · have hyes := Lib.hid (HY.out t1)
      gi_wp2
      exact ⟨(KeepsOthers.setCell _ _ _).from _, _, ⟨rfl, hyes.out, bR1.set 0 _ rfl⟩, hB1.setCell (p := ⟨w.heap.size + 1, 0, none⟩) (by simp) _⟩
    · have hno := Lib.hid (HN.out (by omega))
      gi_wp2
      exact ⟨KeepsFrom.refl _ _, TwoA.refl _ _ _, ⟨hno.out, bP1, bR1, bV1⟩, hB1⟩
  case done =>
    rintro D zs W hD rfl ⟨⟨hp, bP1, bR1, bV1⟩, hB1⟩ hK
    have c1 := bR1.cell 0 rfl
    have HP := Lib.hid hp; clear hp
    gi_wp2
    refine ⟨by simp, .inl ⟨_, _, rfl, run_takeDeferred hK, ?_⟩⟩
    exact ⟨_, results_tmp rfl _ _ _, ⟨n, Nat.le_refl _, rfl, HP.out.upto, fun h => absurd h (by omega)⟩, hB1.trans (belowK_b (w := w) (Nat.le_refl _) W D _ _ (by omega) hK rfl rfl)⟩
  case stop =>
    rintro D c pre W hD ⟨k, hk, rfl⟩ ⟨z, ⟨rfl, hp, bR1⟩, hB1⟩ hK
    obtain ⟨j, rfl, rfl, hj1, hj2⟩ := hp.upto
    have HP := Lib.hid hp; clear hp
    have H1 := Lib.hid hj1; clear hj1
    have H2 := Lib.hid hj2; clear hj2
    have c1 := bR1.cell 0 rfl
    gi_wp2
    refine ⟨by simp, .inl ⟨_, _, rfl, run_takeDeferred hK, ?_⟩⟩
    exact ⟨_, results_tmp rfl _ _ _, ⟨j, by omega, rfl, H2.out, fun _ => H1.out⟩, hB1.trans (belowK_b (w := w) (Nat.le_refl _) W D _ _ (by omega) hK rfl rfl)⟩
end Go.Proofs.Ytmmgmpghkpbgkaa
