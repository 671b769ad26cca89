/- Contracts of package acks: Ranges. -/
import Derived.Test.YtmmgmpghkpbgkaaAnA
import Derived.Maps.AppendAt
import Derived.StillTailTactics
import Derived.Laws.CopyRow
import Derived.Laws.CopyOwn
import Derived.Deep.QuietTactic
import Derived.BigQuiet
namespace Go.Proofs.Ytmmgmpghkpbgkaa
open Go Go.RowKit Go.Shelf
set_option linter.unusedVariables false
set_option linter.unusedSimpArgs false
attribute [local go_sem] Oper.semAt_some

def rowOf (pre : List (Nat × Int × Int)) : List Value := pre.flatMap fun x => [Value.int .i64 x.2.1, Value.int .i64 x.2.2]
theorem rowOf_snoc (pre : List (Nat × Int × Int)) (x : Nat × Int × Int) : rowOf (pre ++ [x]) = rowOf pre ++ [Value.int .i64 x.2.1, Value.int .i64 x.2.2] := by simp [rowOf]
theorem A_spanInfo3 : (Try.prog.info? 43).map (fun i => (i.zero, i.size, i.bytes)) = some (some (.agg #[.int .i64 0, .int .i64 0]), 2, 16) := by kernel_rfl
theorem cell_two_new (w : World) (x y : Value) (t : TypeId) : ∀ j u, [x, y][j]? = some u → (w.alloc (.cells #[x, y] t)).cell? ((⟨w.heap.size, 0, none⟩ : Addr).add j) = some u := by
  intro j u hj
  match j, hj with
  | 0, hj => simp at hj; subst hj; simp [Addr.add]
  | 1, hj => simp at hj; subst hj; simp [Addr.add]
theorem upto_row_len (pre : List (Nat × Int × Int)) : (rowOf pre).length = pre.length * 2 := by
  induction pre with
  | nil => rfl
  | cons x r ih => simp only [rowOf, List.flatMap_cons, List.length_append, List.length_cons, List.length_nil] at ih ⊢; omega
theorem at_not_row {W : World} {B : Nat} {t e : TypeId} {cs : Array Value} (h : At W B t cs) (hte : t ≠ e) {base size k : Nat} {v : Value} {xs : List Value} (hr : W.ownsRow base e size v k xs) : some B ≠ v.ownBlock := by
  rcases hr.2 with ⟨rfl, _⟩ | ⟨g, cap, cur, rfl, _, hgb, _⟩
  · simp [Value.ownBlock]
  · intro e'
    obtain rfl : B = g := by simpa [Value.ownBlock] using e'
    have := (show W.heap[B]? = _ from h).symm.trans hgb
    simp at this
    exact hte this.2
theorem at_appended {W w1 : World} {B C : Nat} {t e : TypeId} {cs : Array Value} (h : At W B t cs) (hte : t ≠ e) {base size k : Nat} {v : Value} {xs : List Value} (hr : W.ownsRow base e size v k xs) {tmp : Obj} (hg : (W.alloc tmp).grownBy w1 v.ownBlock) (hC : B ≠ C) (u : Value) : At (w1.setCell ⟨C, 0, none⟩ u) B t cs := by
  have h1 := h.alloc tmp
  have h2 : At w1 B t cs := (hg.block B h1.lt (at_not_row h hte hr)).trans h1
  exact h2.far hC u
def NilIffA (v : Value) (k : Nat) : Prop := v = .slice none 0 0 ↔ k = 0
end Go.Proofs.Ytmmgmpghkpbgkaa
/- Moving intervals within a tracker's block. -/
namespace Go.Proofs.Ytmmgmpghkpbgkaa
open Go Go.RowKit Go.Shelf
set_option linter.unusedVariables false

/-- F with m elements from s on laid from d on. -/
def mv (F : Nat → Int) (d s m : Nat) : Nat → Int := fun i => if d ≤ i ∧ i < d + m then F (s + (i - d)) else F i
section
variable (F T : Nat → Int) (n d fl lg wh ct du : Int)
theorem trk_get (i : Nat) (hi : i < 34) : (trk F T n d fl lg wh ct du)[i]? = some (.int .i64 (if i % 2 = 0 then F (i / 2) else T (i / 2))) := by
  by_cases h : i % 2 = 0
  · rw [if_pos h]
    have := trk_F F T n d fl lg wh ct du (i / 2) (by omega)
    rwa [show i / 2 * 2 = i from by omega] at this
  · rw [if_neg h]
    have := trk_T F T n d fl lg wh ct du (i / 2) (by omega)
    rwa [show i / 2 * 2 + 1 = i from by omega] at this
theorem trk_tail (F' T' : Nat → Int) (i : Nat) (hi : 34 ≤ i) : (trk F T n d fl lg wh ct du)[i]? = (trk F' T' n d fl lg wh ct du)[i]? := by
  rcases Nat.lt_or_ge i 41 with h | h
  · obtain rfl | rfl | rfl | rfl | rfl | rfl | rfl : i = 34 ∨ i = 35 ∨ i = 36 ∨ i = 37 ∨ i = 38 ∨ i = 39 ∨ i = 40 := by omega
    all_goals rfl
  · rw [Array.getElem?_eq_none (by rw [trk_size]; exact h), Array.getElem?_eq_none (by rw [trk_size]; exact h)]
/-- The cells of m intervals from s on. -/
def cellsOf (F T : Nat → Int) (s m : Nat) : List Value := (List.range (m * 2)).map fun j => .int .i64 (if j % 2 = 0 then F (s + j / 2) else T (s + j / 2))
theorem cellsOf_len (F T : Nat → Int) (s m : Nat) : (cellsOf F T s m).length = m * 2 := by simp [cellsOf]
theorem cellsOf_get (F T : Nat → Int) (s m j : Nat) (hj : j < m * 2) : (cellsOf F T s m)[j]? = some (.int .i64 (if j % 2 = 0 then F (s + j / 2) else T (s + j / 2))) := by
  simp [cellsOf, hj]
theorem trk_move (a s m : Nat) (ha : a + m ≤ 17) : ((trk F T n d fl lg wh ct du).toList.take (a * 2) ++ cellsOf F T s m ++ (trk F T n d fl lg wh ct du).toList.drop (a * 2 + m * 2)).toArray = trk (mv F a s m) (mv T a s m) n d fl lg wh ct du := by
  apply Array.ext_getElem?
  intro i
  have hsz : (trk F T n d fl lg wh ct du).toList.length = 41 := rfl
  rw [List.getElem?_toArray]
  rcases Nat.lt_or_ge i (a * 2) with h1 | h1
  · rw [List.append_assoc, List.getElem?_append_left (by rw [List.length_take]; omega), List.getElem?_take, if_pos h1, Array.getElem?_toList, trk_get _ _ _ _ _ _ _ _ _ _ (by omega), trk_get _ _ _ _ _ _ _ _ _ _ (by omega)]
    simp only [mv]
    rw [if_neg (show ¬ (a ≤ i / 2 ∧ i / 2 < a + m) by omega), if_neg (show ¬ (a ≤ i / 2 ∧ i / 2 < a + m) by omega)]
  · rcases Nat.lt_or_ge i (a * 2 + m * 2) with h2 | h2
    · rw [List.append_assoc, List.getElem?_append_right (by rw [List.length_take]; omega), List.getElem?_append_left (by rw [List.length_take, cellsOf_len]; omega), cellsOf_get _ _ _ _ _ (by rw [List.length_take]; omega), trk_get _ _ _ _ _ _ _ _ _ _ (by omega)]
      rw [List.length_take, hsz, show min (a * 2) 41 = a * 2 from by omega]
      simp only [mv]
      rw [if_pos (show a ≤ i / 2 ∧ i / 2 < a + m by omega), if_pos (show a ≤ i / 2 ∧ i / 2 < a + m by omega), show (i - a * 2) % 2 = i % 2 from by omega, show (i - a * 2) / 2 = i / 2 - a from by omega]
    · rw [List.getElem?_append_right (by rw [List.length_append, List.length_take, cellsOf_len]; omega), List.getElem?_drop, Array.getElem?_toList, List.length_append, List.length_take, cellsOf_len, hsz]
      rw [show a * 2 + m * 2 + (i - (min (a * 2) 41 + m * 2)) = i from by omega]
      rcases Nat.lt_or_ge i 34 with h3 | h3
      · rw [trk_get _ _ _ _ _ _ _ _ _ _ h3, trk_get _ _ _ _ _ _ _ _ _ _ h3]
        simp only [mv]
        rw [if_neg (show ¬ (a ≤ i / 2 ∧ i / 2 < a + m) by omega), if_neg (show ¬ (a ≤ i / 2 ∧ i / 2 < a + m) by omega)]
      · exact trk_tail _ _ _ _ _ _ _ _ _ _ _ _ h3
end
theorem At.setRow {w : World} {b : Nat} {t : TypeId} {cs : Array Value} (h : At w b t cs) (cs' : Array Value) : At (w.setRow b cs') b t cs' := setRow_heap w b cs cs' t (0, 0) h
theorem only_setRow {S : List Nat} {a w : World} (h : Only S a w) {b : Nat} (hb : b ∈ S) (cs : Array Value) : Only S a (w.setRow b cs) :=
  ⟨h.os, h.tape, h.output, by simpa [World.setRow] using h.size, fun k hk hn => (setRow_other w b k cs (fun e => hn (e ▸ hb))).trans (h.block k hk hn)⟩
theorem A_spanInfo : (Try.prog.info? 43).map (fun i => i.size) = some 2 := by kernel_rfl
theorem trk_copy {w : World} {b : Nat} {F T : Nat → Int} {n : Nat} {d fl lg wh ct du : Int} (h : Trk w b F T n d fl lg wh ct du) (a s m dl dc sc : Nat) (hm : m ≤ dl) (ha : a + m ≤ 17) (hs : s + m ≤ 17) :
    (Builtin.copy_ #[31, 31] 3 #[.slice (some ⟨b, a * 2, none⟩) dl dc, .slice (some ⟨b, s * 2, none⟩) m sc]).run Try.prog w = .ok (goInt m) (w.setRow b (trk (mv F a s m) (mv T a s m) n d fl lg wh ct du)) := by
  have hl := run_loadCells_list (P := Try.prog) w ⟨b, s * 2, none⟩ (cellsOf F T s m) (by
    intro j v hv
    have hj : j < m * 2 := by
      rcases Nat.lt_or_ge j (m * 2) with h | h
      · exact h
      · rw [List.getElem?_eq_none (by rw [cellsOf_len]; exact h)] at hv; cases hv
    rw [cellsOf_get _ _ _ _ _ hj] at hv
    injection hv with hv
    subst hv
    have hadd : (⟨b, s * 2, none⟩ : Addr).add j = ⟨b, s * 2 + j, none⟩ := by unfold Addr.add; split <;> simp_all
    rw [hadd]
    have := At.cell h (s * 2 + j) (trk_get F T n d fl lg wh ct du (s * 2 + j) (by omega))
    rwa [show (s * 2 + j) % 2 = j % 2 from by omega, show (s * 2 + j) / 2 = s + j / 2 from by omega] at this)
  have hst := run_storeCells_at Try.prog b (a * 2) 88 (cellsOf F T s m) 0 (trk F T n d fl lg wh ct du) w h (by rw [cellsOf_len, trk_size]; omega) (by
    intro v hv
    simp only [cellsOf, List.mem_map] at hv
    obtain ⟨j, _, rfl⟩ := hv
    rfl)
  rw [Nat.add_zero, cellsOf_len, trk_move _ _ _ _ _ _ _ _ _ _ _ _ ha] at hst
  rw [cellsOf_len] at hl
  cases hq : Try.prog.info? 43 with
  | none => have := A_spanInfo; simp [hq] at this
  | some i =>
    have hi : i.size = 2 := by have := A_spanInfo; simpa [hq] using this
    have hmn : min m dl = m := by omega
    simp [Builtin.copy_, run_underlying Try.underlying31, Builtin.lenOf, Builtin.firstCells, sizeOf, typeInfo, hq, hi, hmn, hl, hst]
end Go.Proofs.Ytmmgmpghkpbgkaa
/- Contracts of package acks: the small methods. -/
namespace Go.Proofs.Ytmmgmpghkpbgkaa
open Go Go.RowKit Go.Shelf
set_option linter.unusedVariables false
set_option linter.unusedSimpArgs false

def zF : Nat → Int := fun _ => 0
theorem trk_zero (d : Int) : trk zF zF 0 d 0 (-1) 0 0 (-1) = (trk zF zF 0 d 0 (-1) 0 0 (-1)) := rfl
set_option maxRecDepth 100000 in
theorem new_c (d : Int) (w : World) (h0 : 0 ≤ d) (h1 : d ≤ 20) : Calls Try.prog 14 #[.int .i64 d] w fun e w' => ∃ g, e = .returned (.tuple #[.pointer (some ⟨g, 0, none⟩), .int .i64 0]) ∧ Trk w' g zF zF 0 d 0 (-1) 0 0 (-1) ∧ Only [] w w' ∧ w.heap.size ≤ g := by
  go_enter Try.func14, Try.ntmps14
  go_wp2_with fail
  go_ret2
  exact ⟨_, rfl, At.new _ _ _, (Only.refl _ _).alloc _, Nat.le_refl _⟩
theorem new_bad (d : Int) (w : World) (h : d < 0 ∨ 20 < d) : Calls Try.prog 14 #[.int .i64 d] w fun e w' => e = .returned (.tuple #[.pointer none, .int .i64 2]) ∧ w = w' := by
  rcases h with h | h
  · go_enter Try.func14, Try.ntmps14
    go_wp2_with fail
    go_ret2
    exact ⟨rfl, rfl⟩
  · have h' : ¬ d < 0 := by omega
    go_enter Try.func14, Try.ntmps14
    go_wp2_with fail
    go_ret2
    exact ⟨rfl, rfl⟩
section
variable (b : Nat) (F T : Nat → Int) (n : Nat) (d fl lg wh ct du : Int) (w : World) (hT : Trk w b F T n d fl lg wh ct du)
include hT
theorem largest_c : Calls Try.prog 50 #[.pointer (some ⟨b, 0, none⟩)] w fun e w' => e = .returned (.int .i64 lg) ∧ w = w' := by
  have c := hT.glg
  clear hT
  go_enter Try.func50, Try.ntmps50
  go_wp2_with fail
  go_ret
  exact ⟨rfl, rfl⟩
theorem deadline_c : Calls Try.prog 47 #[.pointer (some ⟨b, 0, none⟩)] w fun e w' => e = .returned (.int .i64 du) ∧ w = w' := by
  have c := hT.gdu
  clear hT
  go_enter Try.func47, Try.ntmps47
  go_wp2_with fail
  go_ret
  exact ⟨rfl, rfl⟩
theorem pending_c (now : Int) (z : Bool) (hz : decide (du ≠ -1 ∧ du ≤ now) = z) : Calls Try.prog 46 #[.pointer (some ⟨b, 0, none⟩), .int .i64 now] w fun e w' => e = .returned (.bool z) ∧ Trk w' b F T n d fl lg wh ct du ∧ Only [] w w' := by
  have c := hT.gdu
  have HT := Lib.hid hT; clear hT
  by_cases h1 : du = -1
  · have q : (du == -1) = true := by simpa using h1
    have hz' : z = false := by rw [← hz]; simp [h1]
    clear hz; subst hz'
    go_enter Try.func46, Try.ntmps46
    go_wp2_with fail
    go_ret
    exact ⟨rfl, HT.out, Only.refl _ _⟩
  · have q : (du == -1) = false := by simpa using h1
    by_cases h2 : du ≤ now
    · have hz' : z = true := by rw [← hz]; simp [h1, h2]
      clear hz; subst hz'
      go_enter Try.func46, Try.ntmps46
      go_wp2_with fail
      go_ret
      exact ⟨ret_boo (by simp <;> omega), HT.out, Only.refl _ _⟩
    · have hz' : z = false := by rw [← hz]; simp [h2]
      clear hz; subst hz'
      go_enter Try.func46, Try.ntmps46
      go_wp2_with fail
      go_ret
      exact ⟨ret_boo (by simp <;> omega), HT.out, Only.refl _ _⟩
set_option maxHeartbeats 400000 in
theorem sent_c : Calls Try.prog 48 #[.pointer (some ⟨b, 0, none⟩)] w fun e w' => e = .returned (.tuple #[]) ∧ Trk w' b F T n d fl lg wh 0 (-1) ∧ Only [b] w w' := by
  have c := hT.gdu
  have c1 := hT.gct
  have f := At.free hT 39
  have f1 := At.free hT 40
  have HT := Lib.hid hT; clear hT
  go_enter Try.func48, Try.ntmps48
  go_wp2_with fail
  go_end0
  exact ⟨rfl, (At.set HT.out 40 _ rfl).set 39 _ rfl, ((Only.refl _ _).put (by simp) _).put (by simp) _⟩
def atZ (ct d now : Int) (o : Bool) : Int := if ct + 1 < 2 ∧ o = true then now + d else now
def duZ (ct d du now : Int) (o : Bool) : Int := if du = -1 ∨ atZ ct d now o < du then atZ ct d now o else du
set_option maxHeartbeats 1000000 in
theorem schedule_c (now : Int) (o : Bool) (h0 : 0 ≤ now) (h1 : now ≤ 1099511627776) (d0 : 0 ≤ d) (d1 : d ≤ 20) (k0 : 0 ≤ ct) (k1 : ct ≤ 1000000) :
    Calls Try.prog 54 #[.pointer (some ⟨b, 0, none⟩), .int .i64 now, .bool o] w fun e w' => e = .returned (.tuple #[]) ∧ Trk w' b F T n d fl lg wh (ct + 1) (duZ ct d du now o) ∧ Only [b] w w' := by
  have c := hT.gct
  have c1 := hT.gd
  have c2 := hT.gdu
  have f := At.free hT 39
  have f1 := At.free hT 40
  have HT := Lib.hid hT; clear hT
  cases o
  · skip
    have ea : atZ ct d now false = now := by simp [atZ]
    by_cases q2 : du = -1
    · have ed : duZ ct d du now false = now := by unfold duZ; rw [ea, if_pos (.inl q2)]
      have q3 : (du == -1) = true := by simpa using q2
      rw [ed]; clear ed ea q2
      go_enter Try.func54, Try.ntmps54
      go_wp2_with fail
      all_goals go_end0
      all_goals first | exact ⟨rfl, (At.set HT.out 39 _ rfl).set 40 _ rfl, ((Only.refl _ _).put (by simp) _).put (by simp) _⟩ | exact ⟨rfl, At.set HT.out 39 _ rfl, (Only.refl _ _).put (by simp) _⟩
    · have q3 : (du == -1) = false := by simpa using q2
      by_cases q4 : now < du
      · have ed : duZ ct d du now false = now := by unfold duZ; rw [ea, if_pos (.inr q4)]
        rw [ed]; clear ed ea q2
        go_enter Try.func54, Try.ntmps54
        go_wp2_with fail
        all_goals go_end0
        all_goals first | exact ⟨rfl, (At.set HT.out 39 _ rfl).set 40 _ rfl, ((Only.refl _ _).put (by simp) _).put (by simp) _⟩ | exact ⟨rfl, At.set HT.out 39 _ rfl, (Only.refl _ _).put (by simp) _⟩
      · have ed : duZ ct d du now false = du := by unfold duZ; rw [ea, if_neg (by omega)]
        rw [ed]; clear ed ea q2
        go_enter Try.func54, Try.ntmps54
        go_wp2_with fail
        all_goals go_end0
        all_goals first | exact ⟨rfl, (At.set HT.out 39 _ rfl).set 40 _ rfl, ((Only.refl _ _).put (by simp) _).put (by simp) _⟩ | exact ⟨rfl, At.set HT.out 39 _ rfl, (Only.refl _ _).put (by simp) _⟩
  · by_cases q1 : ct + 1 < 2
    · skip
      have ea : atZ ct d now true = (now + d) := by simp [atZ, q1]
      by_cases q2 : du = -1
      · have ed : duZ ct d du now true = (now + d) := by unfold duZ; rw [ea, if_pos (.inl q2)]
        have q3 : (du == -1) = true := by simpa using q2
        rw [ed]; clear ed ea q2
        go_enter Try.func54, Try.ntmps54
        go_wp2_with fail
        all_goals go_end0
        all_goals first | exact ⟨rfl, (At.set HT.out 39 _ rfl).set 40 _ rfl, ((Only.refl _ _).put (by simp) _).put (by simp) _⟩ | exact ⟨rfl, At.set HT.out 39 _ rfl, (Only.refl _ _).put (by simp) _⟩
      · have q3 : (du == -1) = false := by simpa using q2
        by_cases q4 : (now + d) < du
        · have ed : duZ ct d du now true = (now + d) := by unfold duZ; rw [ea, if_pos (.inr q4)]
          rw [ed]; clear ed ea q2
          go_enter Try.func54, Try.ntmps54
          go_wp2_with fail
          all_goals go_end0
          all_goals first | exact ⟨rfl, (At.set HT.out 39 _ rfl).set 40 _ rfl, ((Only.refl _ _).put (by simp) _).put (by simp) _⟩ | exact ⟨rfl, At.set HT.out 39 _ rfl, (Only.refl _ _).put (by simp) _⟩
        · have ed : duZ ct d du now true = du := by unfold duZ; rw [ea, if_neg (by omega)]
          rw [ed]; clear ed ea q2
          go_enter Try.func54, Try.ntmps54
          go_wp2_with fail
          all_goals go_end0
          all_goals first | exact ⟨rfl, (At.set HT.out 39 _ rfl).set 40 _ rfl, ((Only.refl _ _).put (by simp) _).put (by simp) _⟩ | exact ⟨rfl, At.set HT.out 39 _ rfl, (Only.refl _ _).put (by simp) _⟩
    · skip
      have ea : atZ ct d now true = now := by simp [atZ, q1]
      by_cases q2 : du = -1
      · have ed : duZ ct d du now true = now := by unfold duZ; rw [ea, if_pos (.inl q2)]
        have q3 : (du == -1) = true := by simpa using q2
        rw [ed]; clear ed ea q2
        go_enter Try.func54, Try.ntmps54
        go_wp2_with fail
        all_goals go_end0
        all_goals first | exact ⟨rfl, (At.set HT.out 39 _ rfl).set 40 _ rfl, ((Only.refl _ _).put (by simp) _).put (by simp) _⟩ | exact ⟨rfl, At.set HT.out 39 _ rfl, (Only.refl _ _).put (by simp) _⟩
      · have q3 : (du == -1) = false := by simpa using q2
        by_cases q4 : now < du
        · have ed : duZ ct d du now true = now := by unfold duZ; rw [ea, if_pos (.inr q4)]
          rw [ed]; clear ed ea q2
          go_enter Try.func54, Try.ntmps54
          go_wp2_with fail
          all_goals go_end0
          all_goals first | exact ⟨rfl, (At.set HT.out 39 _ rfl).set 40 _ rfl, ((Only.refl _ _).put (by simp) _).put (by simp) _⟩ | exact ⟨rfl, At.set HT.out 39 _ rfl, (Only.refl _ _).put (by simp) _⟩
        · have ed : duZ ct d du now true = du := by unfold duZ; rw [ea, if_neg (by omega)]
          rw [ed]; clear ed ea q2
          go_enter Try.func54, Try.ntmps54
          go_wp2_with fail
          all_goals go_end0
          all_goals first | exact ⟨rfl, (At.set HT.out 39 _ rfl).set 40 _ rfl, ((Only.refl _ _).put (by simp) _).put (by simp) _⟩ | exact ⟨rfl, At.set HT.out 39 _ rfl, (Only.refl _ _).put (by simp) _⟩
end
end Go.Proofs.Ytmmgmpghkpbgkaa
