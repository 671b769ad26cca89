/- Contracts of package acks: Frame. -/
import Derived.Test.YthjlkiilkiggiaaAkK
import Derived.Test.YthjlkiilkiggiaaAkE
import Derived.Test.YthjlkiilkiggiaaAkI
import Derived.Laws.MakeOwn
namespace Go.Proofs.Ythjlkiilkiggiaa
open Go Go.RowKit Go.Shelf
set_option linter.unusedVariables false
set_option linter.unusedSimpArgs false
attribute [local go_sem] Oper.semAt_some

def rowA (n : Nat) (G H : Nat → Int) : Array Value := (cellsOf G H 0 n).toArray
theorem rowA_get (n : Nat) (G H : Nat → Int) (j : Nat) (hj : j < n * 2) : (rowA n G H)[j]? = some (.int .i64 (if j % 2 = 0 then G (j / 2) else H (j / 2))) := by
  unfold rowA; rw [List.getElem?_toArray, cellsOf_get _ _ _ _ _ hj]; simp
theorem rowA_size (n : Nat) (G H : Nat → Int) : (rowA n G H).size = n * 2 := by simp [rowA, cellsOf_len]
theorem rowA_G (n : Nat) (G H : Nat → Int) (i : Nat) (hi : i < n) : (rowA n G H)[i * 2]? = some (.int .i64 (G i)) := by
  rw [rowA_get _ _ _ _ (by omega), if_pos (by omega), show i * 2 / 2 = i from by omega]
theorem rowA_H (n : Nat) (G H : Nat → Int) (i : Nat) (hi : i < n) : (rowA n G H)[i * 2 + 1]? = some (.int .i64 (H i)) := by
  rw [rowA_get _ _ _ _ (by omega), if_neg (by omega), show (i * 2 + 1) / 2 = i from by omega]
theorem rowA_setG (n : Nat) (G H : Nat → Int) (i : Nat) (hi : i < n) (x : Int) : (rowA n G H).setIfInBounds (i * 2) (.int .i64 x) = rowA n (upd G i x) H := by
  apply Array.ext_getElem?
  intro j
  rw [Array.getElem?_setIfInBounds]
  rcases Nat.lt_or_ge j (n * 2) with h | h
  · rw [rowA_get _ _ _ _ h, rowA_get _ _ _ _ h, rowA_size]
    by_cases hj : i * 2 = j
    · subst hj
      rw [if_pos rfl, if_pos h, if_pos (by omega), show i * 2 / 2 = i from by omega, upd_same]
    · rw [if_neg hj]
      by_cases h2 : j % 2 = 0
      · rw [if_pos h2, if_pos h2, upd_other _ _ _ _ (by omega)]
      · rw [if_neg h2, if_neg h2]
  · rw [if_neg (by omega), Array.getElem?_eq_none (by rw [rowA_size]; exact h), Array.getElem?_eq_none (by rw [rowA_size]; exact h)]
theorem rowA_setH (n : Nat) (G H : Nat → Int) (i : Nat) (hi : i < n) (x : Int) : (rowA n G H).setIfInBounds (i * 2 + 1) (.int .i64 x) = rowA n G (upd H i x) := by
  apply Array.ext_getElem?
  intro j
  rw [Array.getElem?_setIfInBounds]
  rcases Nat.lt_or_ge j (n * 2) with h | h
  · rw [rowA_get _ _ _ _ h, rowA_get _ _ _ _ h, rowA_size]
    by_cases hj : i * 2 + 1 = j
    · subst hj
      rw [if_pos rfl, if_pos h, if_neg (by omega), show (i * 2 + 1) / 2 = i from by omega, upd_same]
    · rw [if_neg hj]
      by_cases h2 : j % 2 = 0
      · rw [if_pos h2, if_pos h2]
      · rw [if_neg h2, if_neg h2, upd_other _ _ _ _ (by omega)]
  · rw [if_neg (by omega), Array.getElem?_eq_none (by rw [rowA_size]; exact h), Array.getElem?_eq_none (by rw [rowA_size]; exact h)]
theorem rowA_zero (n : Nat) : madeCells #[.int .i64 0, .int .i64 0] (n * 2) = rowA n zF zF := by
  apply Array.ext_getElem?
  intro j
  rcases Nat.lt_or_ge j (n * 2) with h | h
  · rw [rowA_get _ _ _ _ h]
    have hm : j % 2 = 0 ∨ j % 2 = 1 := by omega
    rcases hm with hm | hm <;> simp [madeCells, h, hm, zF]
  · rw [Array.getElem?_eq_none (by rw [size_madeCells]; exact h), Array.getElem?_eq_none (by rw [rowA_size]; exact h)]
theorem run_make_span (n : Nat) (hn : n ≤ 1000) (w : World) : (Instr.makeSlice 37 (.int .i64 n) (.int .i64 n)).run Try.prog w = .ok (.slice (some ⟨w.heap.size, 0, none⟩) n n) (w.alloc (.cells (rowA n zF zF) 40)) := by
  obtain ⟨i0, hi, hz0, hz1, hz2⟩ := info_parts A_spanInfo3
  have hr := run_make (P := Try.prog) w 37 40 i0 (.agg #[.int .i64 0, .int .i64 0]) Try.underlying37 hi hz0 .i64 .i64 n n (by omega) (Int.le_refl _) (by rw [hz2]; omega) (by omega)
  rw [Int.toNat_natCast, hz1] at hr
  rw [hr, ← rowA_zero]
  rfl
set_option maxRecDepth 100000 in
set_option maxHeartbeats 2000000 in
theorem all1k_in (F0 : Fence) (m : Nat) (hf : F0.fn 44) (hro : F0.round = none) (hm : 1 ≤ m) (l Bs b : Nat) (F T : Nat → Int) (n : Nat) (d fl lg wh ct du : Int) (hn : n ≤ 17) (J Jx : Nat → World → Prop)
    (hY : ∀ k W, k < n → J k W → YieldAt F0 (m - 1) Try.prog l (spanOf (k, F k, T k)) W fun e W' =>
      (e = .returned (.bool true) ∧ J (k + 1) W' ∧ Two b Bs W W') ∨ (e = .returned (.bool false) ∧ Jx (k + 1) W'))
    (W : World) (hBs : W.cell? ⟨Bs, 0, none⟩ = some (.pointer (some ⟨b, 0, none⟩))) (hT : Trk W b F T n d fl lg wh ct du) (h0 : J 0 W) :
    CallsIn F0 m Try.prog 44 #[.func (.yield l) #[] #[], .pointer (some ⟨Bs, 0, none⟩)] W fun e W' => (∃ v, e = .returned v) ∧
      (J n W' ∨ (∃ k, k ≤ n ∧ Jx k W')) := by
  have hcn := hT.gn
  have HT := Lib.hid hT; clear hT
  refine callsIn_of_wp Try.func44 rfl hf ?_ hro
  simp only [Try.ntmps44, List.size_toArray, List.length_cons, List.length_nil, Nat.reduceAdd, Nat.reduceSub, Array.replicate_succ, Array.replicate_zero, List.push_toArray, List.append_toArray, List.nil_append, List.cons_append]
  gi_wp2
  gi_loopw [8] (fun i wr => ∃ k : Nat, k ≤ n ∧ i = .int .i64 k ∧ J k wr ∧ Two b Bs W wr)
    (fun i _ => n - (intOf i).toNat)
  case atStart => exact ⟨0, Nat.zero_le _, rfl, h0, Two.refl _ _ _⟩
  case round =>
    obtain ⟨k, hk, rfl, hJs, hnx⟩ := hrel
    have HT2 := Lib.hid (hnx.trk HT.out)
    have hB2 := hnx.box hBs
    clear hBs hcn
    by_cases hlt : k < n
    · obtain ⟨fn, tmps, assign, body, hy, hR⟩ := hY k wr hlt hJs
      simp only [spanOf] at hy
      have hcF := HT2.out.gF k (by omega)
      have hcT := HT2.out.gT k (by omega)
      gi_wp2
      refine hR.mono ?_
      rintro e W3 (⟨rfl, hJ3, hk3⟩ | ⟨rfl, hJx3⟩)
      · gi_wp2
        go_roundw
        case rel => exact ⟨k + 1, by omega, by simp, hJ3, hnx.trans hk3⟩
        case measure => simp [intOf]; omega
      · gi_wp2
        refine bodyPost_ret (results_none rfl _ _ _) rfl ?_
        exact ⟨⟨_, rfl⟩, .inr ⟨k + 1, by omega, hJx3⟩⟩
    · obtain rfl : k = n := by omega
      gi_wp2
      go_end0
      exact ⟨⟨_, rfl⟩, .inl hJs⟩


theorem finTake_succ (n k : Nat) (h : k < n) : (List.finRange n).take (k + 1) = (List.finRange n).take k ++ [⟨k, h⟩] := by
  rw [List.take_succ_eq_append_getElem (by simpa using h)]
  simp
theorem allF_stops (F0 : Fence) (m : Nat) (hf : F0.fn 44) (hro : F0.round = none) (hm : 1 ≤ m) (Bs b : Nat) (F T : Nat → Int) (n : Nat) (d fl lg wh ct du : Int) (hn : n ≤ 17) (w : World) (hBl : Bs < w.heap.size) (hbl : b < w.heap.size)
    (hBs : w.cell? ⟨Bs, 0, none⟩ = some (.pointer (some ⟨b, 0, none⟩))) (hT : Trk w b F T n d fl lg wh ct du) :
    SeqStopsK F0 m Try.prog 44 #[.pointer (some ⟨Bs, 0, none⟩)] (fun i : Fin n => spanOf (i.1, F i.1, T i.1)) (Two b Bs) (fun ys => ys = List.finRange n)
      (fun pre => ∃ k, k ≤ n ∧ pre = (List.finRange n).take k) n w := fun l J Jx W hW _ _ hY h0 => by
  refine (all1k_in F0 m hf hro hm l Bs b F T n d fl lg wh ct du hn (fun k => J ((List.finRange n).take k)) (fun k => Jx ((List.finRange n).take k)) ?_ W ((Two.of_below hW hbl hBl).box hBs) ((Two.of_below hW hbl hBl).trk hT) (by simpa using h0)).mono ?_
  · intro k W hk hJ
    rw [finTake_succ n k hk]
    exact hY _ ⟨k, hk⟩ W hJ (by simp; omega)
  · rintro e W' ⟨h1, h2 | ⟨k, h3, h4⟩⟩
    · have h2' : J ((List.finRange n).take n) W' := h2
      rw [List.take_of_length_le (by simp)] at h2'
      exact ⟨h1, .inl ⟨_, rfl, h2'⟩⟩
    · exact ⟨h1, .inr ⟨_, ⟨k, h3, rfl⟩, h4⟩⟩
end Go.Proofs.Ythjlkiilkiggiaa
