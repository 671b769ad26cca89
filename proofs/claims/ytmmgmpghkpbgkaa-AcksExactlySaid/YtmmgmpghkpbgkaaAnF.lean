/- The walk of the law package's sane. -/
import Derived.Test.YtmmgmpghkpbgkaaAnE
namespace Go.Proofs.Ytmmgmpghkpbgkaa
open Go Go.RowKit Go.Shelf
set_option linter.unusedVariables false
set_option linter.unusedSectionVars false
set_option linter.unusedSimpArgs false

set_option maxRecDepth 100000 in
set_option maxHeartbeats 4000000 in
theorem sane_any (w : World) : Calls Try.prog 13 #[] w fun e w' => e = .returned (.bool true) ∧ Below w.heap.size w w' := by
  go_enter Try.func13, Try.ntmps13
  go_wp2_with fail
  refine (new_k 3 _ (by omega) (by omega)).mono ?_
  rintro e w1 ⟨g, rfl, hT, ho, hg⟩
  have hb : Below w.heap.size w w1 := ho.below (by simp) (Nat.le_refl _)
  clear ho
  go_wp2_with fail
  refine (new_bad 21 _ (by omega)).mono ?_
  rintro e wk ⟨rfl, rfl⟩
  go_wp2_with fail
  refine (new_bad (-1) _ (by omega)).mono ?_
  rintro e wk ⟨rfl, rfl⟩
  go_wp2_with fail
  refine (recv_ok g [] 3 0 (-1) 0 0 (-1) 10 0 true _ hT (by omega) (by omega) (by omega) (by omega) (by omega) (by simp [In]) (by omega) (by omega) (by omega) (by omega) (by omega) (by omega)).mono ?_
  rintro e w2 ⟨rfl, hX, ho⟩
  replace hT := hX.same (L' := [(0, 1)]) (fl' := 0) (lg' := 0) (wh' := 10) (ct' := 1) (du' := 13) (by decide) (by decide) (by decide) (by decide) (by decide) (by decide)
  replace hb := hb.trans (ho.below (by simpa using hg) hb.size)
  clear hX ho
  go_wp2_with fail
  refine (pending_k g _ _ _ _ _ _ _ _ hT 12 false (by decide)).mono ?_
  rintro e w3 ⟨rfl, hX, ho⟩
  replace hT := hX
  replace hb := hb.trans (ho.below (by simp) hb.size)
  clear hX ho
  go_wp2_with fail
  refine (pending_k g _ _ _ _ _ _ _ _ hT 13 true (by decide)).mono ?_
  rintro e w4 ⟨rfl, hX, ho⟩
  replace hT := hX
  replace hb := hb.trans (ho.below (by simp) hb.size)
  clear hX ho
  go_wp2_with fail
  refine (recv_ok g _ _ _ _ _ _ _ 10 1 false _ hT (by omega) (by omega) (by omega) (by omega) (by omega) (by simp [In]) (by omega) (by omega) (by omega) (by omega) (by omega) (by omega)).mono ?_
  rintro e w5 ⟨rfl, hX, ho⟩
  replace hT := hX.same (L' := [(0, 2)]) (fl' := 0) (lg' := 1) (wh' := 10) (ct' := 1) (du' := 13) (by decide) (by decide) (by decide) (by decide) (by decide) (by decide)
  replace hb := hb.trans (ho.below (by simpa using hg) hb.size)
  clear hX ho
  go_wp2_with fail
  refine (recv_ok g _ _ _ _ _ _ _ 10 5 false _ hT (by omega) (by omega) (by omega) (by omega) (by omega) (by simp [In]) (by omega) (by omega) (by omega) (by omega) (by omega) (by omega)).mono ?_
  rintro e w6 ⟨rfl, hX, ho⟩
  replace hT := hX.same (L' := [(0, 2), (5, 6)]) (fl' := 0) (lg' := 5) (wh' := 10) (ct' := 1) (du' := 13) (by decide) (by decide) (by decide) (by decide) (by decide) (by decide)
  replace hb := hb.trans (ho.below (by simpa using hg) hb.size)
  clear hX ho
  go_wp2_with fail
  refine (frame_two g 12 0 2 5 6 _ _ _ _ _ _ (by omega) (by omega) (by omega) (by omega) (by omega) _ hT).mono ?_
  rintro e w7 ⟨r, rfl, hR, hr, ho⟩
  rw [show (12 : Int) - 10 = 2 from rfl]
  have hrw : w.heap.size ≤ r := Nat.le_trans hb.size hr
  have hgr : r ≠ g := by have := hT.lt; omega
  replace hT := hT.below ho hT.lt
  replace hb := hb.trans (ho.mono hb.size)
  clear ho hr
  have hq : ∃ q, w7.heap.size = q := ⟨_, rfl⟩
  obtain ⟨q, hq⟩ := hq
  have hF := At.new w7 33 #[.int .i64 2, .int .i64 0, .int .i64 0, .string { data := #[] }, .bool false, .int .i64 0, .int .i64 0, .bool false, .int .i64 2, .slice (some ⟨r, 0, none⟩) 2 2, .int .i64 0, .int .i64 0, .string { data := #[] }]
  have hqr : q ≠ r := by have := hR.lt; omega
  have hqg : q ≠ g := by have := hT.lt; omega
  have hqw : w.heap.size ≤ q := by have := hb.size; omega
  replace hR := hR.alloc (.cells #[.int .i64 2, .int .i64 0, .int .i64 0, .string { data := #[] }, .bool false, .int .i64 0, .int .i64 0, .bool false, .int .i64 2, .slice (some ⟨r, 0, none⟩) 2 2, .int .i64 0, .int .i64 0, .string { data := #[] }] 33)
  replace hT := hT.alloc (.cells #[.int .i64 2, .int .i64 0, .int .i64 0, .string { data := #[] }, .bool false, .int .i64 0, .int .i64 0, .bool false, .int .i64 2, .slice (some ⟨r, 0, none⟩) 2 2, .int .i64 0, .int .i64 0, .string { data := #[] }] 33)
  replace hb := hb.alloc hb.size (.cells #[.int .i64 2, .int .i64 0, .int .i64 0, .string { data := #[] }, .bool false, .int .i64 0, .int .i64 0, .bool false, .int .i64 2, .slice (some ⟨r, 0, none⟩) 2 2, .int .i64 0, .int .i64 0, .string { data := #[] }] 33)
  go_wp2_with fail
  obtain ⟨w8, hw8⟩ : ∃ w8, w7.alloc (.cells #[.int .i64 2, .int .i64 0, .int .i64 0, .string { data := #[] }, .bool false, .int .i64 0, .int .i64 0, .bool false, .int .i64 2, .slice (some ⟨r, 0, none⟩) 2 2, .int .i64 0, .int .i64 0, .string { data := #[] }] 33) = w8 := ⟨_, rfl⟩
  rw [hw8] at hR hT hb hF ⊢
  rw [hq] at hF
  clear hw8 hq
  refine (recv_dup g _ _ _ _ _ _ _ 11 5 true _ hT (by omega) (by omega) (by omega) (by omega) (.inr (by simp [In]))).mono ?_
  rintro e w9 ⟨rfl, hX, ho⟩
  replace hT := hX
  replace hR := hR.keep ho (by simp)
  replace hF := hF.keep ho (by simp)
  replace hb := hb.trans (ho.below (by simp) hb.size)
  clear hX ho
  go_wp2_with fail
  refine (deadline_k g _ _ _ _ _ _ _ _ hT).mono ?_
  rintro e wk ⟨rfl, rfl⟩
  go_wp2_with fail
  refine (sent_k g _ _ _ _ _ _ _ _ hT).mono ?_
  rintro e w10 ⟨rfl, hX, ho⟩
  replace hT := hX
  replace hR := hR.keep ho (by simpa using hgr)
  replace hF := hF.keep ho (by simpa using hqg)
  replace hb := hb.trans (ho.below (by simpa using hg) hb.size)
  clear hX ho
  go_wp2_with fail
  refine (recv_ok g _ _ _ _ _ _ _ 11 3 true _ hT (by omega) (by omega) (by omega) (by omega) (by omega) (by simp [In]) (by omega) (by omega) (by omega) (by omega) (by omega) (by omega)).mono ?_
  rintro e w11 ⟨rfl, hX, ho⟩
  replace hT := hX.same (L' := [(0, 2), (3, 4), (5, 6)]) (fl' := 0) (lg' := 5) (wh' := 10) (ct' := 1) (du' := 11) (by decide) (by decide) (by decide) (by decide) (by decide) (by decide)
  replace hR := hR.keep ho (by simpa using hgr)
  replace hF := hF.keep ho (by simpa using hqg)
  replace hb := hb.trans (ho.below (by simpa using hg) hb.size)
  clear hX ho
  go_wp2_with fail
  refine (frame_nil _).mono ?_
  rintro e w12 ⟨rfl, ho⟩
  replace hT := hT.below ho hT.lt
  replace hR := hR.below ho hR.lt
  replace hF := hF.below ho hF.lt
  replace hb := hb.trans (ho.mono hb.size)
  clear ho
  have hq12 : q < w12.heap.size := hF.lt
  have hr12 : r < w12.heap.size := hR.lt
  have d0 : w12.cell? ⟨q, 0, none⟩ = some (.int .i64 2) := hF.cell 0 rfl
  have d8 : w12.cell? ⟨q, 8, none⟩ = some (.int .i64 2) := hF.cell 8 rfl
  have d9 : w12.cell? ⟨q, 9, none⟩ = some (.slice (some ⟨r, 0, none⟩) 2 2) := hF.cell 9 rfl
  replace hT := hT.alloc (.cells #[.int .i64 0, .int .i64 0, .int .i64 0, .string { data := #[] }, .bool false, .int .i64 0, .int .i64 0, .bool false, .int .i64 0, .slice none 0 0, .int .i64 0, .int .i64 0, .string { data := #[] }] 33)
  replace hR := hR.alloc (.cells #[.int .i64 0, .int .i64 0, .int .i64 0, .string { data := #[] }, .bool false, .int .i64 0, .int .i64 0, .bool false, .int .i64 0, .slice none 0 0, .int .i64 0, .int .i64 0, .string { data := #[] }] 33)
  replace hF := hF.alloc (.cells #[.int .i64 0, .int .i64 0, .int .i64 0, .string { data := #[] }, .bool false, .int .i64 0, .int .i64 0, .bool false, .int .i64 0, .slice none 0 0, .int .i64 0, .int .i64 0, .string { data := #[] }] 33)
  replace hb := hb.alloc hb.size (.cells #[.int .i64 0, .int .i64 0, .int .i64 0, .string { data := #[] }, .bool false, .int .i64 0, .int .i64 0, .bool false, .int .i64 0, .slice none 0 0, .int .i64 0, .int .i64 0, .string { data := #[] }] 33)
  have f0 : (w12.alloc (.cells #[.int .i64 0, .int .i64 0, .int .i64 0, .string { data := #[] }, .bool false, .int .i64 0, .int .i64 0, .bool false, .int .i64 0, .slice none 0 0, .int .i64 0, .int .i64 0, .string { data := #[] }] 33)).cell? ⟨q, 0, none⟩ = some (.int .i64 2) := hF.cell 0 rfl
  have f8 : (w12.alloc (.cells #[.int .i64 0, .int .i64 0, .int .i64 0, .string { data := #[] }, .bool false, .int .i64 0, .int .i64 0, .bool false, .int .i64 0, .slice none 0 0, .int .i64 0, .int .i64 0, .string { data := #[] }] 33)).cell? ⟨q, 8, none⟩ = some (.int .i64 2) := hF.cell 8 rfl
  have HT := Lib.hid hT
  have HR := Lib.hid hR
  have HF := Lib.hid hF
  have HB := Lib.hid hb
  clear hT hR hF hb
  go_wp2_with fail
  have hT := HT.out.alloc (.cells #[.int .i64 5, .int .i64 6, .int .i64 0, .int .i64 2] 43)
  have hR := HR.out.alloc (.cells #[.int .i64 5, .int .i64 6, .int .i64 0, .int .i64 2] 43)
  have hS := At.new (w12.alloc (.cells #[.int .i64 0, .int .i64 0, .int .i64 0, .string { data := #[] }, .bool false, .int .i64 0, .int .i64 0, .bool false, .int .i64 0, .slice none 0 0, .int .i64 0, .int .i64 0, .string { data := #[] }] 33)) 43 #[.int .i64 5, .int .i64 6, .int .i64 0, .int .i64 2]
  have hb := HB.out.alloc HB.out.size (.cells #[.int .i64 5, .int .i64 6, .int .i64 0, .int .i64 2] 43)
  clear HT HR HF HB f0 f8 d0 d8 d9
  simp only [World.size_alloc] at hS
  refine (same_two _ _ _ _ _ _ _ hR hS).mono ?_
  rintro e w13 ⟨rfl, ho⟩
  replace hT := hT.below ho hT.lt
  replace hb := hb.trans (ho.mono hb.size)
  clear ho hR hS
  go_wp2_with fail
  refine (pending_k g _ _ _ _ _ _ _ _ hT 11 true (by decide)).mono ?_
  rintro e w14 ⟨rfl, hX, ho⟩
  replace hT := hX
  replace hb := hb.trans (ho.below (by simp) hb.size)
  clear hX ho
  go_wp2_with fail
  refine (largest_k g _ _ _ _ _ _ _ _ hT).mono ?_
  rintro e wk ⟨rfl, rfl⟩
  go_wp2_with fail
  refine (recv_nil _).mono ?_
  rintro e wk ⟨rfl, rfl⟩
  go_wp2_with fail
  refine (largest_nil _).mono ?_
  rintro e wk ⟨rfl, rfl⟩
  go_wp2_with fail
  refine (deadline_nil _).mono ?_
  rintro e wk ⟨rfl, rfl⟩
  go_wp2_with fail
  go_ret
  exact ⟨rfl, hb⟩
end Go.Proofs.Ytmmgmpghkpbgkaa
/- Plain law of AcksPrompt: what stands from packet to packet. -/
namespace Go.Proofs.Ytmmgmpghkpbgkaa
open Go Go.RowKit Go.Shelf
set_option linter.unusedVariables false
set_option linter.unusedSectionVars false

theorem Good.tail {lo : Int} {p : Int × Int} {L : List (Int × Int)} (h : Good lo (p :: L)) : Good lo L := by
  obtain ⟨a, b⟩ := p
  simp only [Good] at h
  exact h.2.2.mono (by omega)
theorem Good.capL {lo : Int} {L : List (Int × Int)} (h : Good lo L) : Good lo (capL L) := by
  unfold Go.Proofs.Ytmmgmpghkpbgkaa.capL
  split
  · cases L with
    | nil => exact h
    | cons p L => exact h.tail
  · exact h
theorem In_capL {L : List (Int × Int)} {x : Int} (h : In (capL L) x) : In L x := by
  unfold capL at h
  split at h
  · cases L with
    | nil => exact h
    | cons p L => obtain ⟨a, b⟩ := p; simp only [In]; exact .inr h
  · exact h
theorem capF_le {lo m fl : Int} {L : List (Int × Int)} (h : Good lo L) (hm : ∀ x, In L x → x ≤ m) (hf : fl ≤ m + 1) : capF L fl ≤ m + 1 := by
  unfold capF
  split
  · cases L with
    | nil => simp_all
    | cons p L =>
      obtain ⟨a, b⟩ := p
      simp only [Good] at h
      have := hm (b - 1) (by simp only [In]; left; omega)
      simp; omega
  · exact hf

/-- What stands when k packets and acknowledgments have passed. -/
structure PInv (d : Int) (k : Nat) (L : List (Int × Int)) (fl lg ct du first many : Int) : Prop where
  good : Good (-1) L
  lo : ∀ x, In L x → x ≤ lg
  flo : fl ≤ lg + 1
  lg0 : -1 ≤ lg
  lg1 : lg + 1 ≤ 2 * k
  cnt : many = ct
  ct0 : 0 ≤ ct
  ct1 : ct ≤ k
  due : (many = 0 ∧ first = -1 ∧ du = -1) ∨ (0 < many ∧ 0 ≤ first ∧ first + 3 ≤ 3 * k ∧ 0 ≤ du ∧ du ≤ first + d)

theorem PInv.start (d : Int) : PInv d 0 [] 0 (-1) 0 (-1) (-1) 0 := ⟨trivial, fun x h => h.elim, by omega, by omega, by omega, rfl, by omega, by omega, .inl ⟨rfl, rfl, rfl⟩⟩

section
variable {d : Int} {k : Nat} {L : List (Int × Int)} {fl lg ct du first many : Int} (h : PInv d k L fl lg ct du first many) (hd : 0 ≤ d) (hd2 : d ≤ 20)
include h hd hd2
theorem PInv.sent : PInv d (k + 1) L fl lg 0 (-1) (-1) 0 :=
  ⟨h.good, h.lo, h.flo, h.lg0, by have := h.lg1; omega, rfl, by omega, by omega, .inl ⟨rfl, rfl, rfl⟩⟩
theorem PInv.fresh (pn : Int) (hp : lg < pn) : fl ≤ pn ∧ ¬ In L pn := ⟨by have := h.flo; omega, fun hi => by have := h.lo pn hi; omega⟩
theorem PInv.list (pn : Int) (hp : lg < pn) : Good (-1) (capL (ins L pn)) ∧ (∀ x, In (capL (ins L pn)) x → x ≤ pn) ∧ capF (ins L pn) fl ≤ pn + 1 := by
  have h0 := h.lg0
  have hn := (h.fresh hd hd2 pn hp).2
  have hg := ins_good h.good (by omega) hn
  have hi : ∀ x, In (ins L pn) x → x ≤ pn := fun x hx => by
    rcases (In_ins h.good (by omega) hn x).1 hx with hx | hx
    · have := h.lo x hx; omega
    · omega
  exact ⟨hg.capL, fun x hx => hi x (In_capL hx), capF_le hg hi (by have := h.flo; omega)⟩
theorem PInv.calm (pn : Int) (hp : lg < pn) (hp2 : pn ≤ lg + 2) : PInv d (k + 1) (capL (ins L pn)) (capF (ins L pn) fl) pn ct du first many := by
  obtain ⟨h1, h2, h3⟩ := h.list hd hd2 pn hp
  obtain ⟨g, lo, flo, lg0, lg1, cnt, ct0, ct1, due⟩ := h
  exact ⟨h1, h2, h3, by omega, by omega, cnt, ct0, by omega, due.imp id fun x => by omega⟩
theorem PInv.elic (pn : Int) (hp : lg < pn) (hp2 : pn ≤ lg + 2) (o : Bool) (ho : decide (lg = -1 ∨ pn = lg + 1) = o) : PInv d (k + 1) (capL (ins L pn)) (capF (ins L pn) fl) pn (ct + 1) (duZ ct d du (3 * k) o) (if first < 0 then 3 * (k : Int) else first) (many + 1) ∧
    (2 ≤ many + 1 ∨ (0 ≤ lg ∧ pn ≠ lg + 1) → duZ ct d du (3 * k) o ≤ 3 * k) := by
  obtain ⟨h1, h2, h3⟩ := h.list hd hd2 pn hp
  obtain ⟨g, lo, flo, lg0, lg1, cnt, ct0, ct1, due⟩ := h
  have ha : (o = false ∨ 2 ≤ ct + 1 → atZ ct d (3 * k) o = 3 * k) ∧ 3 * k ≤ atZ ct d (3 * k) o ∧ atZ ct d (3 * k) o ≤ 3 * k + d := by
    unfold atZ
    refine ⟨fun h => ?_, ?_, ?_⟩
    · rw [if_neg]; rintro ⟨h1, h2⟩; rcases h with h | h
      · rw [h] at h2; cases h2
      · omega
    · split <;> omega
    · split <;> omega
  have hD : duZ ct d du (3 * k) o = if du = -1 ∨ atZ ct d (3 * k) o < du then atZ ct d (3 * k) o else du := rfl
  have hof : 0 ≤ lg ∧ pn ≠ lg + 1 → o = false := by
    rintro ⟨a, b⟩; rw [← ho]; simp; omega
  generalize duZ ct d du (3 * (k : Int)) o = D at hD ⊢
  generalize atZ ct d (3 * (k : Int)) o = A at ha hD
  obtain ⟨a1, a2, a3⟩ := ha
  rcases due with ⟨rfl, rfl, rfl⟩ | ⟨m0, f0, f1, u0, u1⟩
  · rw [if_pos (.inl rfl)] at hD
    subst hD
    refine ⟨⟨h1, h2, h3, by omega, by omega, by omega, by omega, by omega, .inr ⟨by omega, ?_, ?_, by omega, ?_⟩⟩, ?_⟩
    · rw [if_pos (by omega)]; omega
    · rw [if_pos (by omega)]; omega
    · rw [if_pos (by omega)]; omega
    · rintro (hh | hh)
      · omega
      · rw [a1 (.inl (hof hh))]; omega
  · have hA := a1 (.inr (by omega))
    have hD2 : 0 ≤ D ∧ D ≤ du ∧ D ≤ A := by
      rw [hD]; split
      · rename_i hh; rcases hh with hh | hh <;> omega
      · rename_i hh; simp at hh; omega
    refine ⟨⟨h1, h2, h3, by omega, by omega, by omega, by omega, by omega, .inr ⟨by omega, ?_, ?_, by omega, ?_⟩⟩, fun _ => by omega⟩
    · rw [if_neg (by omega)]; omega
    · rw [if_neg (by omega)]; omega
    · rw [if_neg (by omega)]; omega
end
end Go.Proofs.Ytmmgmpghkpbgkaa
/- Ranges by TK; a Receive of any small number; the invariant of AcksBounded. -/
namespace Go.Proofs.Ytmmgmpghkpbgkaa
open Go Go.RowKit Go.Shelf
set_option linter.unusedVariables false
set_option linter.unusedSectionVars false
set_option linter.unusedSimpArgs false

theorem rowOf_get (F T : Nat → Int) (n : Nat) : ∀ i, i < n → (rowOf (upto F T n))[i * 2]? = some (.int .i64 (F i)) ∧ (rowOf (upto F T n))[i * 2 + 1]? = some (.int .i64 (T i)) := by
  induction n with
  | zero => intro i hi; omega
  | succ n ih =>
    intro i hi
    rw [upto_succ, rowOf_snoc]
    have hl : (rowOf (upto F T n)).length = n * 2 := by rw [upto_row_len, upto_length]
    rcases Nat.lt_or_ge i n with h | h
    · obtain ⟨h1, h2⟩ := ih i h
      exact ⟨by rw [List.getElem?_append_left (by omega)]; exact h1, by rw [List.getElem?_append_left (by omega)]; exact h2⟩
    · obtain rfl : i = n := by omega
      exact ⟨by rw [List.getElem?_append_right (by omega), hl]; simp, by rw [List.getElem?_append_right (by omega), hl]; simp [show i * 2 + 1 - i * 2 = 1 by omega]⟩
/-- A slice of spans with the intervals of L. -/
def Spans (w : World) (r : Nat) (L : List (Int × Int)) : Prop := ∀ i x, L[i]? = some x → w.cell? ⟨r, i * 2, none⟩ = some (.int .i64 x.1) ∧ w.cell? ⟨r, i * 2 + 1, none⟩ = some (.int .i64 x.2)
theorem Spans.only {w w' : World} {r : Nat} {L : List (Int × Int)} {S : List Nat} (h : Spans w r L) (ho : Only S w w') (hr : r < w.heap.size) (hn : r ∉ S) : Spans w' r L :=
  fun i x hx => ⟨(ho.cell (p := ⟨r, _, none⟩) hr hn).trans (h i x hx).1, (ho.cell (p := ⟨r, _, none⟩) hr hn).trans (h i x hx).2⟩
theorem Good.get {L : List (Int × Int)} : ∀ {lo : Int}, Good lo L → ∀ (i : Nat) (x : Int × Int), L[i]? = some x → lo < x.1 ∧ x.1 < x.2 ∧ ∀ y, L[i + 1]? = some y → x.2 < y.1 := by
  induction L with
  | nil => intro lo h i x hx; simp at hx
  | cons p L ih =>
    intro lo h i x hx
    obtain ⟨f, t⟩ := p
    obtain ⟨h1, h2, h3⟩ := h
    cases i with
    | zero =>
      simp at hx; subst hx
      refine ⟨h1, h2, fun y hy => ?_⟩
      simp at hy
      exact (ih h3 0 y hy).1
    | succ i =>
      simp at hx
      obtain ⟨a, b, c⟩ := ih h3 i x hx
      exact ⟨by omega, b, fun y hy => c y (by simpa using hy)⟩
theorem In_get {L : List (Int × Int)} {z : Int} : ∀ (i : Nat) (x : Int × Int), L[i]? = some x → x.1 ≤ z → z < x.2 → In L z := by
  induction L with
  | nil => intro i x hx; simp at hx
  | cons p L ih =>
    intro i x hx h1 h2
    obtain ⟨f, t⟩ := p
    cases i with
    | zero => simp at hx; subst hx; exact .inl ⟨h1, h2⟩
    | succ i => simp at hx; exact .inr (ih i x hx h1 h2)

structure BInv (k : Nat) (L : List (Int × Int)) (fl lg ct m : Int) : Prop where
  good : Good (-1) L
  lo : ∀ x, In L x → x ≤ lg
  flo : fl ≤ lg + 1
  lg0 : -1 ≤ lg
  lg1 : lg ≤ m
  ct0 : 0 ≤ ct
  ct1 : ct ≤ k
  some : L = [] → fl ≤ 0
theorem BInv.start (m : Int) (hm : 0 ≤ m) : BInv 0 [] 0 (-1) 0 m := ⟨trivial, fun x h => h.elim, by omega, by omega, by omega, by omega, by omega, fun _ => by omega⟩
theorem BInv.mono {k : Nat} {L : List (Int × Int)} {fl lg ct m : Int} (h : BInv k L fl lg ct m) {k' : Nat} (hk : k ≤ k') : BInv k' L fl lg ct m := ⟨h.good, h.lo, h.flo, h.lg0, h.lg1, h.ct0, by have := h.ct1; omega, h.some⟩
theorem capL_ne {L : List (Int × Int)} (h : 1 ≤ L.length) : capL L ≠ [] := by
  unfold capL
  split
  · intro h2; have := congrArg List.length h2; simp at this; omega
  · intro h2; rw [h2] at h; simp at h
theorem BInv.add {k : Nat} {L : List (Int × Int)} {fl lg ct m pn : Int} (h : BInv k L fl lg ct m) (p0 : 0 ≤ pn) (p1 : pn ≤ m) (hn : ¬ In L pn) (hf : fl ≤ pn) (el : Bool) :
    BInv (k + 1) (capL (ins L pn)) (capF (ins L pn) fl) (if lg < pn then pn else lg) (if el then ct + 1 else ct) m ∧ capL (ins L pn) ≠ [] := by
  obtain ⟨g, lo, flo, lg0, lg1, ct0, ct1, hs⟩ := h
  have hg := ins_good g (by omega) hn
  have hne := capL_ne (ins_len L pn).2
  have hi : ∀ x, In (ins L pn) x → x ≤ (if lg < pn then pn else lg) := fun x hx => by
    rcases (In_ins g (by omega) hn x).1 hx with hx | hx
    · have := lo x hx; split <;> omega
    · split <;> omega
  refine ⟨⟨hg.capL, fun x hx => hi x (In_capL hx), capF_le hg hi (by split <;> omega), by split <;> omega, by split <;> omega, by split <;> omega, by split <;> omega, fun h => absurd h hne⟩, hne⟩
theorem recv_inv (b k : Nat) (L : List (Int × Int)) (d fl lg wh ct du m now pn : Int) (el : Bool) (w : World) (hT : TK w b L d fl lg wh ct du) (hI : BInv k L fl lg ct m) (h0 : 0 ≤ now) (h1 : now ≤ 1099511627776) (p0 : 0 ≤ pn) (p1 : pn ≤ m) (hm : m ≤ 281474976710655)
    (d0 : 0 ≤ d) (d1 : d ≤ 20) (hk : k ≤ 1000000) :
    Calls Try.prog 15 #[.pointer (some ⟨b, 0, none⟩), .int .i64 now, .int .i64 pn, .bool el] w fun e w' => ∃ f L' fl' lg' wh' ct' du', e = .returned (.int .i64 f) ∧ (f = 0 ∨ f = 110) ∧ L' ≠ [] ∧ BInv (k + 1) L' fl' lg' ct' m ∧ TK w' b L' d fl' lg' wh' ct' du' ∧ Only [b] w w' := by
  by_cases hd : pn < fl ∨ In L pn
  · refine (recv_dup b L d fl lg wh ct du now pn el w hT h0 h1 p0 (by omega) hd).mono ?_
    rintro e w' ⟨rfl, hT', ho⟩
    refine ⟨110, L, fl, lg, wh, ct, du, rfl, .inr rfl, ?_, hI.mono (by omega), hT', ho.mono (by simp)⟩
    rintro rfl
    have := hI.some rfl
    rcases hd with hd | hd
    · omega
    · exact hd.elim
  · have hf : fl ≤ pn := by have : ¬ pn < fl := fun h => hd (.inl h); omega
    have hn : ¬ In L pn := fun h => hd (.inr h)
    have := hI.ct0; have := hI.ct1; have := hI.lg0; have := hI.lg1
    refine (recv_ok b L d fl lg wh ct du now pn el w hT h0 h1 p0 (by omega) hf hn d0 d1 (by omega) (by omega) (by omega) (by omega)).mono ?_
    rintro e w' ⟨rfl, hT', ho⟩
    obtain ⟨hI', hne⟩ := hI.add p0 p1 hn hf el
    exact ⟨0, _, _, _, _, _, _, rfl, .inl rfl, hne, hI', hT', ho⟩
end Go.Proofs.Ytmmgmpghkpbgkaa
