/- Moving intervals within a tracker's block. -/
import Derived.Test.YthjlkiilkiggiaaAkD
import Derived.StillTailTactics
import Derived.Laws.CopyRow
import Derived.Laws.CopyOwn
namespace Go.Proofs.Ythjlkiilkiggiaa
open Go Go.RowKit Go.Shelf
set_option linter.unusedVariables false

/-- F with m elements from s on laid from d on. -/
def mv (F : Nat → Int) (d s m : Nat) : Nat → Int := fun i => if d ≤ i ∧ i < d + m then F (s + (i - d)) else F i
section
variable (F T : Nat → Int) (n d fl lg wh ct du : Int)
theorem trk_get (i : Nat) (hi : i < 34) : (trk F T n d fl lg wh ct du)[i]? = some (.int .i64 (if i % 2 = 0 then F (i / 2) else T (i / 2))) := by
  by_cases h : i % 2 = 0
  · rw [if_pos h]
    have := trk_F F T n d fl lg wh ct du (i / 2) (by omega)
    rwa [show i / 2 * 2 = i from by omega] at this
  · rw [if_neg h]
    have := trk_T F T n d fl lg wh ct du (i / 2) (by omega)
    rwa [show i / 2 * 2 + 1 = i from by omega] at this
theorem trk_tail (F' T' : Nat → Int) (i : Nat) (hi : 34 ≤ i) : (trk F T n d fl lg wh ct du)[i]? = (trk F' T' n d fl lg wh ct du)[i]? := by
  rcases Nat.lt_or_ge i 41 with h | h
  · obtain rfl | rfl | rfl | rfl | rfl | rfl | rfl : i = 34 ∨ i = 35 ∨ i = 36 ∨ i = 37 ∨ i = 38 ∨ i = 39 ∨ i = 40 := by omega
    all_goals rfl
  · rw [Array.getElem?_eq_none (by rw [trk_size]; exact h), Array.getElem?_eq_none (by rw [trk_size]; exact h)]
/-- The cells of m intervals from s on. -/
def cellsOf (F T : Nat → Int) (s m : Nat) : List Value := (List.range (m * 2)).map fun j => .int .i64 (if j % 2 = 0 then F (s + j / 2) else T (s + j / 2))
theorem cellsOf_len (F T : Nat → Int) (s m : Nat) : (cellsOf F T s m).length = m * 2 := by simp [cellsOf]
theorem cellsOf_get (F T : Nat → Int) (s m j : Nat) (hj : j < m * 2) : (cellsOf F T s m)[j]? = some (.int .i64 (if j % 2 = 0 then F (s + j / 2) else T (s + j / 2))) := by
  simp [cellsOf, hj]
theorem trk_move (a s m : Nat) (ha : a + m ≤ 17) : ((trk F T n d fl lg wh ct du).toList.take (a * 2) ++ cellsOf F T s m ++ (trk F T n d fl lg wh ct du).toList.drop (a * 2 + m * 2)).toArray = trk (mv F a s m) (mv T a s m) n d fl lg wh ct du := by
  apply Array.ext_getElem?
  intro i
  have hsz : (trk F T n d fl lg wh ct du).toList.length = 41 := rfl
  rw [List.getElem?_toArray]
  rcases Nat.lt_or_ge i (a * 2) with h1 | h1
  · rw [List.append_assoc, List.getElem?_append_left (by rw [List.length_take]; omega), List.getElem?_take, if_pos h1, Array.getElem?_toList, trk_get _ _ _ _ _ _ _ _ _ _ (by omega), trk_get _ _ _ _ _ _ _ _ _ _ (by omega)]
    simp only [mv]
    rw [if_neg (show ¬ (a ≤ i / 2 ∧ i / 2 < a + m) by omega), if_neg (show ¬ (a ≤ i / 2 ∧ i / 2 < a + m) by omega)]
  · rcases Nat.lt_or_ge i (a * 2 + m * 2) with h2 | h2
    · rw [List.append_assoc, List.getElem?_append_right (by rw [List.length_take]; omega), List.getElem?_append_left (by rw [List.length_take, cellsOf_len]; omega), cellsOf_get _ _ _ _ _ (by rw [List.length_take]; omega), trk_get _ _ _ _ _ _ _ _ _ _ (by omega)]
      rw [List.length_take, hsz, show min (a * 2) 41 = a * 2 from by omega]
      simp only [mv]
      rw [if_pos (show a ≤ i / 2 ∧ i / 2 < a + m by omega), if_pos (show a ≤ i / 2 ∧ i / 2 < a + m by omega), show (i - a * 2) % 2 = i % 2 from by omega, show (i - a * 2) / 2 = i / 2 - a from by omega]
    · rw [List.getElem?_append_right (by rw [List.length_append, List.length_take, cellsOf_len]; omega), List.getElem?_drop, Array.getElem?_toList, List.length_append, List.length_take, cellsOf_len, hsz]
      rw [show a * 2 + m * 2 + (i - (min (a * 2) 41 + m * 2)) = i from by omega]
      rcases Nat.lt_or_ge i 34 with h3 | h3
      · rw [trk_get _ _ _ _ _ _ _ _ _ _ h3, trk_get _ _ _ _ _ _ _ _ _ _ h3]
        simp only [mv]
        rw [if_neg (show ¬ (a ≤ i / 2 ∧ i / 2 < a + m) by omega), if_neg (show ¬ (a ≤ i / 2 ∧ i / 2 < a + m) by omega)]
      · exact trk_tail _ _ _ _ _ _ _ _ _ _ _ _ h3
end
theorem At.setRow {w : World} {b : Nat} {t : TypeId} {cs : Array Value} (h : At w b t cs) (cs' : Array Value) : At (w.setRow b cs') b t cs' := setRow_heap w b cs cs' t (0, 0) h
theorem only_setRow {S : List Nat} {a w : World} (h : Only S a w) {b : Nat} (hb : b ∈ S) (cs : Array Value) : Only S a (w.setRow b cs) :=
  ⟨h.os, h.tape, h.output, by simpa [World.setRow] using h.size, fun k hk hn => (setRow_other w b k cs (fun e => hn (e ▸ hb))).trans (h.block k hk hn)⟩
theorem A_spanInfo : (Try.prog.info? 40).map (fun i => i.size) = some 2 := by kernel_rfl
theorem trk_copy {w : World} {b : Nat} {F T : Nat → Int} {n : Nat} {d fl lg wh ct du : Int} (h : Trk w b F T n d fl lg wh ct du) (a s m dl dc sc : Nat) (hm : m ≤ dl) (ha : a + m ≤ 17) (hs : s + m ≤ 17) :
    (Builtin.copy_ #[37, 37] 3 #[.slice (some ⟨b, a * 2, none⟩) dl dc, .slice (some ⟨b, s * 2, none⟩) m sc]).run Try.prog w = .ok (goInt m) (w.setRow b (trk (mv F a s m) (mv T a s m) n d fl lg wh ct du)) := by
  have hl := run_loadCells_list (P := Try.prog) w ⟨b, s * 2, none⟩ (cellsOf F T s m) (by
    intro j v hv
    have hj : j < m * 2 := by
      rcases Nat.lt_or_ge j (m * 2) with h | h
      · exact h
      · rw [List.getElem?_eq_none (by rw [cellsOf_len]; exact h)] at hv; cases hv
    rw [cellsOf_get _ _ _ _ _ hj] at hv
    injection hv with hv
    subst hv
    have hadd : (⟨b, s * 2, none⟩ : Addr).add j = ⟨b, s * 2 + j, none⟩ := by unfold Addr.add; split <;> simp_all
    rw [hadd]
    have := At.cell h (s * 2 + j) (trk_get F T n d fl lg wh ct du (s * 2 + j) (by omega))
    rwa [show (s * 2 + j) % 2 = j % 2 from by omega, show (s * 2 + j) / 2 = s + j / 2 from by omega] at this)
  have hst := run_storeCells_at Try.prog b (a * 2) 67 (cellsOf F T s m) 0 (trk F T n d fl lg wh ct du) w h (by rw [cellsOf_len, trk_size]; omega) (by
    intro v hv
    simp only [cellsOf, List.mem_map] at hv
    obtain ⟨j, _, rfl⟩ := hv
    rfl)
  rw [Nat.add_zero, cellsOf_len, trk_move _ _ _ _ _ _ _ _ _ _ _ _ ha] at hst
  rw [cellsOf_len] at hl
  cases hq : Try.prog.info? 40 with
  | none => have := A_spanInfo; simp [hq] at this
  | some i =>
    have hi : i.size = 2 := by have := A_spanInfo; simpa [hq] using this
    have hmn : min m dl = m := by omega
    simp [Builtin.copy_, run_underlying Try.underlying37, Builtin.lenOf, Builtin.firstCells, sizeOf, typeInfo, hq, hi, hmn, hl, hst]
end Go.Proofs.Ythjlkiilkiggiaa
