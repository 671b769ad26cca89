/- Frame of one interval; the lists that the walk of RTTFromDelayedAcks keeps. -/
import Derived.Test.YthjlkiilkiggiaaAdA
import Derived.Test.YthjlkiilkiggiaaStE
import Derived.Test.YthjlkiilkiggiaaArg
namespace Go.Proofs.Ythjlkiilkiggiaa
open Go Go.RowKit Go.Shelf
set_option linter.unusedVariables false
set_option linter.unusedSectionVars false
set_option linter.unusedSimpArgs false

theorem frame_one (b : Nat) (now a1 b1 d fl lg wh ct du : Int) (h0 : 0 ≤ now) (h1 : now ≤ 1099511627776) (h2 : 0 ≤ wh) (h3 : wh ≤ 1099511627776) (hnw : wh ≤ now) (w : World) (hT : TK w b [(a1, b1)] d fl lg wh ct du) :
    Calls Try.prog 25 #[.pointer (some ⟨b, 0, none⟩), .int .i64 now] w fun e w' => ∃ g, e = .returned (.tuple #[.agg #[.int .i64 2, .int .i64 0, .int .i64 0, .string { data := #[] }, .bool false, .int .i64 0, .int .i64 0, .bool false, .int .i64 (now - wh), .slice (some ⟨g, 0, none⟩) 1 1, .int .i64 0, .int .i64 0, .string { data := #[] }], .bool true]) ∧ At w' g 40 #[.int .i64 a1, .int .i64 b1] ∧ w.heap.size ≤ g ∧ Below w.heap.size w w' := by
  obtain ⟨F, T, n, hL, hn, hT⟩ := hT
  obtain rfl : n = 1 := by have := congrArg List.length hL; simp [lst_len] at this; omega
  simp [lst] at hL
  obtain ⟨e1, e2⟩ := hL
  by_cases hlt : wh < now
  · refine (callsIn_wide.1 (frame_late b now F T 1 d fl lg wh ct du (by omega) (by omega) h0 h1 h2 h3 hlt w hT)).mono ?_
    rintro e w' ⟨g, rfl, hA, hg, hB⟩
    exact ⟨g, rfl, hA.same (by rw [e1, e2]; rfl), hg, hB⟩
  · refine (callsIn_wide.1 (frame_now b now F T 1 d fl lg wh ct du (by omega) (by omega) h0 h1 h2 h3 hlt w hT)).mono ?_
    rintro e w' ⟨g, rfl, hA, hg, hB⟩
    rw [show now - wh = 0 from by omega]
    exact ⟨g, rfl, hA.same (by rw [e1, e2]; rfl), hg, hB⟩
theorem A_intInfo : (Try.prog.info? 3).map (fun i => (i.zero, i.size, i.bytes)) = some (some (.int .i64 0), 1, 8) := by kernel_rfl
theorem cell_one_at (w : World) (n : Nat) (hn : w.heap.size = n) (x : Value) (t : TypeId) : ∀ j u, [x][j]? = some u → (w.alloc (.cells #[x] t)).cell? ((⟨n, 0, none⟩ : Addr).add j) = some u := by
  subst hn
  intro j u hj
  match j, hj with
  | 0, hj => simp at hj; subst hj; simp [Addr.add]
/-- The times are those that the list holds, the last is now. -/
structure SentAt (Ts : List Int) (now : Int) : Prop where
  rise : ∀ i, i + 1 < Ts.length → Ts.getD i 0 < Ts.getD (i + 1) 0
  first : ∀ i, i < Ts.length → 1 ≤ Ts.getD i 0 ∧ Ts.getD i 0 ≤ now
  last : Ts ≠ [] → Ts.getD (Ts.length - 1) 0 = now
  now0 : 0 ≤ now
  top : now ≤ 30 * Ts.length
theorem SentAt.start : SentAt [] 0 := ⟨fun i h => by simp at h, fun i h => by simp at h, fun h => absurd rfl h, by omega, by simp⟩
theorem getD_snoc (L : List Int) (x : Int) (i : Nat) : (L ++ [x]).getD i 0 = if i < L.length then L.getD i 0 else if i = L.length then x else 0 := by
  simp only [List.getD_eq_getElem?_getD]
  by_cases h : i < L.length
  · rw [if_pos h, List.getElem?_append_left h]
  · rw [if_neg h, List.getElem?_append_right (by omega)]
    by_cases h2 : i = L.length
    · rw [if_pos h2, h2]; simp
    · rw [if_neg h2, List.getElem?_eq_none (by simp; omega)]; rfl
theorem SentAt.snoc {Ts : List Int} {now : Int} (h : SentAt Ts now) (g : Int) (g0 : 0 ≤ g) (g1 : g ≤ 29) : SentAt (Ts ++ [now + 1 + g]) (now + 1 + g) := by
  obtain ⟨rise, first, last, now0, top⟩ := h
  refine ⟨fun i hi => ?_, fun i hi => ?_, fun _ => ?_, by omega, by simp; omega⟩
  · simp at hi
    rw [getD_snoc, getD_snoc, if_pos (by omega)]
    by_cases h2 : i + 1 < Ts.length
    · rw [if_pos h2]; exact rise i h2
    · rw [if_neg h2, if_pos (by omega)]; have := first i (by omega); omega
  · simp at hi
    rw [getD_snoc]
    by_cases h2 : i < Ts.length
    · rw [if_pos h2]; have := first i h2; omega
    · rw [if_neg h2, if_pos (by omega)]; omega
  · rw [getD_snoc]; simp
end Go.Proofs.Ythjlkiilkiggiaa
