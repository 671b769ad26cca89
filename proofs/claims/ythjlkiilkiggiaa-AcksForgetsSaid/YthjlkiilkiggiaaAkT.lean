/- Ranges by TK; a Receive of any small number; the invariant of AcksBounded. -/
import Derived.Test.YthjlkiilkiggiaaAkR
namespace Go.Proofs.Ythjlkiilkiggiaa
open Go Go.RowKit Go.Shelf
set_option linter.unusedVariables false
set_option linter.unusedSectionVars false
set_option linter.unusedSimpArgs false

theorem rowOf_get (F T : Nat → Int) (n : Nat) : ∀ i, i < n → (rowOf (upto F T n))[i * 2]? = some (.int .i64 (F i)) ∧ (rowOf (upto F T n))[i * 2 + 1]? = some (.int .i64 (T i)) := by
  induction n with
  | zero => intro i hi; omega
  | succ n ih =>
    intro i hi
    rw [upto_succ, rowOf_snoc]
    have hl : (rowOf (upto F T n)).length = n * 2 := by rw [upto_row_len, upto_length]
    rcases Nat.lt_or_ge i n with h | h
    · obtain ⟨h1, h2⟩ := ih i h
      exact ⟨by rw [List.getElem?_append_left (by omega)]; exact h1, by rw [List.getElem?_append_left (by omega)]; exact h2⟩
    · obtain rfl : i = n := by omega
      exact ⟨by rw [List.getElem?_append_right (by omega), hl]; simp, by rw [List.getElem?_append_right (by omega), hl]; simp [show i * 2 + 1 - i * 2 = 1 by omega]⟩
/-- A slice of spans with the intervals of L. -/
def Spans (w : World) (r : Nat) (L : List (Int × Int)) : Prop := ∀ i x, L[i]? = some x → w.cell? ⟨r, i * 2, none⟩ = some (.int .i64 x.1) ∧ w.cell? ⟨r, i * 2 + 1, none⟩ = some (.int .i64 x.2)
theorem Spans.only {w w' : World} {r : Nat} {L : List (Int × Int)} {S : List Nat} (h : Spans w r L) (ho : Only S w w') (hr : r < w.heap.size) (hn : r ∉ S) : Spans w' r L :=
  fun i x hx => ⟨(ho.cell (p := ⟨r, _, none⟩) hr hn).trans (h i x hx).1, (ho.cell (p := ⟨r, _, none⟩) hr hn).trans (h i x hx).2⟩
theorem ranges_k (b : Nat) (L : List (Int × Int)) (d fl lg wh ct du : Int) (w : World) (hT : TK w b L d fl lg wh ct du) (hL : L ≠ []) :
    Calls Try.prog 17 #[.pointer (some ⟨b, 0, none⟩)] w fun e w' => ∃ r cap, e = .returned (.slice (some ⟨r, 0, none⟩) L.length cap) ∧ Spans w' r L ∧ w.heap.size ≤ r ∧ r < w'.heap.size ∧ Below w.heap.size w w' := by
  obtain ⟨F, T, n, rfl, hn, hT⟩ := hT
  refine (callsIn_wide.1 (ranges_in b F T n d fl lg wh ct du (by omega) w hT)).mono ?_
  rintro e w' ⟨v, rfl, hrow, hnil, hB⟩
  have hn0 : n ≠ 0 := by rintro rfl; exact hL rfl
  rcases hrow.2 with ⟨rfl, h0⟩ | ⟨g, cap, cur, rfl, hg, hgb, h1, h2, h3, h4⟩
  · exact absurd h0 hn0
  · refine ⟨g, cap, by rw [lst_len], ?_, hg, ?_, hB⟩
    · intro i x hx
      have hi : i < n := by
        have := (List.getElem?_eq_some_iff.1 hx).1
        rwa [lst_len] at this
      rw [lst_get n 0 i hi] at hx
      simp at hx
      subst hx
      obtain ⟨k1, k2⟩ := rowOf_get F T n i hi
      rw [← h4, List.getElem?_take_of_lt (by omega)] at k1 k2
      simp only [Array.getElem?_toList] at k1 k2
      exact ⟨(cell_of_row w' g _ cur _ (0, 0) hgb).trans k1, (cell_of_row w' g _ cur _ (0, 0) hgb).trans k2⟩
    · exact At.lt (show At w' g _ cur from hgb)

theorem Good.get {L : List (Int × Int)} : ∀ {lo : Int}, Good lo L → ∀ (i : Nat) (x : Int × Int), L[i]? = some x → lo < x.1 ∧ x.1 < x.2 ∧ ∀ y, L[i + 1]? = some y → x.2 < y.1 := by
  induction L with
  | nil => intro lo h i x hx; simp at hx
  | cons p L ih =>
    intro lo h i x hx
    obtain ⟨f, t⟩ := p
    obtain ⟨h1, h2, h3⟩ := h
    cases i with
    | zero =>
      simp at hx; subst hx
      refine ⟨h1, h2, fun y hy => ?_⟩
      simp at hy
      exact (ih h3 0 y hy).1
    | succ i =>
      simp at hx
      obtain ⟨a, b, c⟩ := ih h3 i x hx
      exact ⟨by omega, b, fun y hy => c y (by simpa using hy)⟩
theorem In_get {L : List (Int × Int)} {z : Int} : ∀ (i : Nat) (x : Int × Int), L[i]? = some x → x.1 ≤ z → z < x.2 → In L z := by
  induction L with
  | nil => intro i x hx; simp at hx
  | cons p L ih =>
    intro i x hx h1 h2
    obtain ⟨f, t⟩ := p
    cases i with
    | zero => simp at hx; subst hx; exact .inl ⟨h1, h2⟩
    | succ i => simp at hx; exact .inr (ih i x hx h1 h2)

structure BInv (k : Nat) (L : List (Int × Int)) (fl lg ct m : Int) : Prop where
  good : Good (-1) L
  lo : ∀ x, In L x → x ≤ lg
  flo : fl ≤ lg + 1
  lg0 : -1 ≤ lg
  lg1 : lg ≤ m
  ct0 : 0 ≤ ct
  ct1 : ct ≤ k
  some : L = [] → fl ≤ 0
theorem BInv.start (m : Int) (hm : 0 ≤ m) : BInv 0 [] 0 (-1) 0 m := ⟨trivial, fun x h => h.elim, by omega, by omega, by omega, by omega, by omega, fun _ => by omega⟩
theorem BInv.mono {k : Nat} {L : List (Int × Int)} {fl lg ct m : Int} (h : BInv k L fl lg ct m) {k' : Nat} (hk : k ≤ k') : BInv k' L fl lg ct m := ⟨h.good, h.lo, h.flo, h.lg0, h.lg1, h.ct0, by have := h.ct1; omega, h.some⟩
theorem capL_ne {L : List (Int × Int)} (h : 1 ≤ L.length) : capL L ≠ [] := by
  unfold capL
  split
  · intro h2; have := congrArg List.length h2; simp at this; omega
  · intro h2; rw [h2] at h; simp at h
theorem BInv.add {k : Nat} {L : List (Int × Int)} {fl lg ct m pn : Int} (h : BInv k L fl lg ct m) (p0 : 0 ≤ pn) (p1 : pn ≤ m) (hn : ¬ In L pn) (hf : fl ≤ pn) (el : Bool) :
    BInv (k + 1) (capL (ins L pn)) (capF (ins L pn) fl) (if lg < pn then pn else lg) (if el then ct + 1 else ct) m ∧ capL (ins L pn) ≠ [] := by
  obtain ⟨g, lo, flo, lg0, lg1, ct0, ct1, hs⟩ := h
  have hg := ins_good g (by omega) hn
  have hne := capL_ne (ins_len L pn).2
  have hi : ∀ x, In (ins L pn) x → x ≤ (if lg < pn then pn else lg) := fun x hx => by
    rcases (In_ins g (by omega) hn x).1 hx with hx | hx
    · have := lo x hx; split <;> omega
    · split <;> omega
  refine ⟨⟨hg.capL, fun x hx => hi x (In_capL hx), capF_le hg hi (by split <;> omega), by split <;> omega, by split <;> omega, by split <;> omega, by split <;> omega, fun h => absurd h hne⟩, hne⟩
theorem recv_inv (b k : Nat) (L : List (Int × Int)) (d fl lg wh ct du m now pn : Int) (el : Bool) (w : World) (hT : TK w b L d fl lg wh ct du) (hI : BInv k L fl lg ct m) (h0 : 0 ≤ now) (h1 : now ≤ 1099511627776) (p0 : 0 ≤ pn) (p1 : pn ≤ m) (hm : m ≤ 281474976710655)
    (d0 : 0 ≤ d) (d1 : d ≤ 20) (hk : k ≤ 1000000) :
    Calls Try.prog 16 #[.pointer (some ⟨b, 0, none⟩), .int .i64 now, .int .i64 pn, .bool el] w fun e w' => ∃ f L' fl' lg' wh' ct' du', e = .returned (.int .i64 f) ∧ (f = 0 ∨ f = 110) ∧ L' ≠ [] ∧ BInv (k + 1) L' fl' lg' ct' m ∧ TK w' b L' d fl' lg' wh' ct' du' ∧ Only [b] w w' := by
  by_cases hd : pn < fl ∨ In L pn
  · refine (recv_dup b L d fl lg wh ct du now pn el w hT h0 h1 p0 (by omega) hd).mono ?_
    rintro e w' ⟨rfl, hT', ho⟩
    refine ⟨110, L, fl, lg, wh, ct, du, rfl, .inr rfl, ?_, hI.mono (by omega), hT', ho.mono (by simp)⟩
    rintro rfl
    have := hI.some rfl
    rcases hd with hd | hd
    · omega
    · exact hd.elim
  · have hf : fl ≤ pn := by have : ¬ pn < fl := fun h => hd (.inl h); omega
    have hn : ¬ In L pn := fun h => hd (.inr h)
    have := hI.ct0; have := hI.ct1; have := hI.lg0; have := hI.lg1
    refine (recv_ok b L d fl lg wh ct du now pn el w hT h0 h1 p0 (by omega) hf hn d0 d1 (by omega) (by omega) (by omega) (by omega)).mono ?_
    rintro e w' ⟨rfl, hT', ho⟩
    obtain ⟨hI', hne⟩ := hI.add p0 p1 hn hf el
    exact ⟨0, _, _, _, _, _, _, rfl, .inl rfl, hne, hI', hT', ho⟩
end Go.Proofs.Ythjlkiilkiggiaa
