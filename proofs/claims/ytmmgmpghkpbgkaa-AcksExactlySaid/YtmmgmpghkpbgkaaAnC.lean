/- Contracts of package acks: Frame. -/
import Derived.Test.YtmmgmpghkpbgkaaAnB
import Derived.Laws.MakeOwn
import Derived.StillTailTactics
import Derived.Stop.RegionWithIn
namespace Go.Proofs.Ytmmgmpghkpbgkaa
open Go Go.RowKit Go.Shelf
set_option linter.unusedVariables false
set_option linter.unusedSimpArgs false
attribute [local go_sem] Oper.semAt_some

def rowA (n : Nat) (G H : Nat → Int) : Array Value := (cellsOf G H 0 n).toArray
theorem rowA_get (n : Nat) (G H : Nat → Int) (j : Nat) (hj : j < n * 2) : (rowA n G H)[j]? = some (.int .i64 (if j % 2 = 0 then G (j / 2) else H (j / 2))) := by
  unfold rowA; rw [List.getElem?_toArray, cellsOf_get _ _ _ _ _ hj]; simp
theorem rowA_size (n : Nat) (G H : Nat → Int) : (rowA n G H).size = n * 2 := by simp [rowA, cellsOf_len]
theorem rowA_G (n : Nat) (G H : Nat → Int) (i : Nat) (hi : i < n) : (rowA n G H)[i * 2]? = some (.int .i64 (G i)) := by
  rw [rowA_get _ _ _ _ (by omega), if_pos (by omega), show i * 2 / 2 = i from by omega]
theorem rowA_H (n : Nat) (G H : Nat → Int) (i : Nat) (hi : i < n) : (rowA n G H)[i * 2 + 1]? = some (.int .i64 (H i)) := by
  rw [rowA_get _ _ _ _ (by omega), if_neg (by omega), show (i * 2 + 1) / 2 = i from by omega]
theorem rowA_setG (n : Nat) (G H : Nat → Int) (i : Nat) (hi : i < n) (x : Int) : (rowA n G H).setIfInBounds (i * 2) (.int .i64 x) = rowA n (upd G i x) H := by
  apply Array.ext_getElem?
  intro j
  rw [Array.getElem?_setIfInBounds]
  rcases Nat.lt_or_ge j (n * 2) with h | h
  · rw [rowA_get _ _ _ _ h, rowA_get _ _ _ _ h, rowA_size]
    by_cases hj : i * 2 = j
    · subst hj
      rw [if_pos rfl, if_pos h, if_pos (by omega), show i * 2 / 2 = i from by omega, upd_same]
    · rw [if_neg hj]
      by_cases h2 : j % 2 = 0
      · rw [if_pos h2, if_pos h2, upd_other _ _ _ _ (by omega)]
      · rw [if_neg h2, if_neg h2]
  · rw [if_neg (by omega), Array.getElem?_eq_none (by rw [rowA_size]; exact h), Array.getElem?_eq_none (by rw [rowA_size]; exact h)]
theorem rowA_setH (n : Nat) (G H : Nat → Int) (i : Nat) (hi : i < n) (x : Int) : (rowA n G H).setIfInBounds (i * 2 + 1) (.int .i64 x) = rowA n G (upd H i x) := by
  apply Array.ext_getElem?
  intro j
  rw [Array.getElem?_setIfInBounds]
  rcases Nat.lt_or_ge j (n * 2) with h | h
  · rw [rowA_get _ _ _ _ h, rowA_get _ _ _ _ h, rowA_size]
    by_cases hj : i * 2 + 1 = j
    · subst hj
      rw [if_pos rfl, if_pos h, if_neg (by omega), show (i * 2 + 1) / 2 = i from by omega, upd_same]
    · rw [if_neg hj]
      by_cases h2 : j % 2 = 0
      · rw [if_pos h2, if_pos h2]
      · rw [if_neg h2, if_neg h2, upd_other _ _ _ _ (by omega)]
  · rw [if_neg (by omega), Array.getElem?_eq_none (by rw [rowA_size]; exact h), Array.getElem?_eq_none (by rw [rowA_size]; exact h)]
theorem rowA_zero (n : Nat) : madeCells #[.int .i64 0, .int .i64 0] (n * 2) = rowA n zF zF := by
  apply Array.ext_getElem?
  intro j
  rcases Nat.lt_or_ge j (n * 2) with h | h
  · rw [rowA_get _ _ _ _ h]
    have hm : j % 2 = 0 ∨ j % 2 = 1 := by omega
    rcases hm with hm | hm <;> simp [madeCells, h, hm, zF]
  · rw [Array.getElem?_eq_none (by rw [size_madeCells]; exact h), Array.getElem?_eq_none (by rw [rowA_size]; exact h)]
theorem run_make_span (n : Nat) (hn : n ≤ 1000) (w : World) : (Instr.makeSlice 31 (.int .i64 n) (.int .i64 n)).run Try.prog w = .ok (.slice (some ⟨w.heap.size, 0, none⟩) n n) (w.alloc (.cells (rowA n zF zF) 43)) := by
  obtain ⟨i0, hi, hz0, hz1, hz2⟩ := info_parts A_spanInfo3
  have hr := run_make (P := Try.prog) w 31 43 i0 (.agg #[.int .i64 0, .int .i64 0]) Try.underlying31 hi hz0 .i64 .i64 n n (by omega) (Int.le_refl _) (by rw [hz2]; omega) (by omega)
  rw [Int.toNat_natCast, hz1] at hr
  rw [hr, ← rowA_zero]
  rfl
set_option maxRecDepth 100000 in
set_option maxHeartbeats 2000000 in
theorem all1k_in (F0 : Fence) (m : Nat) (hf : F0.fn 75) (hro : F0.round = none) (hm : 1 ≤ m) (l Bs b : Nat) (F T : Nat → Int) (n : Nat) (d fl lg wh ct du : Int) (hn : n ≤ 17) (J Jx : Nat → World → Prop)
    (hY : ∀ k W, k < n → J k W → YieldAt F0 (m - 1) Try.prog l (spanOf (k, F k, T k)) W fun e W' =>
      (e = .returned (.bool true) ∧ J (k + 1) W' ∧ TwoA b Bs W W') ∨ (e = .returned (.bool false) ∧ Jx (k + 1) W'))
    (W : World) (hBs : W.cell? ⟨Bs, 0, none⟩ = some (.pointer (some ⟨b, 0, none⟩))) (hT : Trk W b F T n d fl lg wh ct du) (h0 : J 0 W) :
    CallsIn F0 m Try.prog 75 #[.func (.yield l) #[] #[], .pointer (some ⟨Bs, 0, none⟩)] W fun e W' => (∃ v, e = .returned v) ∧
      (J n W' ∨ (∃ k, k ≤ n ∧ Jx k W')) := by
  have hcn := hT.gn
  have HT := Lib.hid hT; clear hT
  refine callsIn_of_wp Try.func75 rfl hf ?_ hro
  simp only [Try.ntmps75, List.size_toArray, List.length_cons, List.length_nil, Nat.reduceAdd, Nat.reduceSub, Array.replicate_succ, Array.replicate_zero, List.push_toArray, List.append_toArray, List.nil_append, List.cons_append]
  gi_wp2
  gi_loopw [8] (fun i wr => ∃ k : Nat, k ≤ n ∧ i = .int .i64 k ∧ J k wr ∧ TwoA b Bs W wr)
    (fun i _ => n - (intOf i).toNat)
  case atStart => exact ⟨0, Nat.zero_le _, rfl, h0, TwoA.refl _ _ _⟩
  case round =>
    obtain ⟨k, hk, rfl, hJs, hnx⟩ := hrel
    have HT2 := Lib.hid (hnx.trk HT.out)
    have hB2 := hnx.box hBs
    clear hBs hcn
    by_cases hlt : k < n
    · obtain ⟨fn, tmps, assign, body, hy, hR⟩ := hY k wr hlt hJs
      simp only [spanOf] at hy
      have hcF := HT2.out.gF k (by omega)
      have hcT := HT2.out.gT k (by omega)
      gi_wp2
      refine hR.mono ?_
      rintro e W3 (⟨rfl, hJ3, hk3⟩ | ⟨rfl, hJx3⟩)
      · gi_wp2
        go_roundw
        case rel => exact ⟨k + 1, by omega, by simp, hJ3, hnx.trans hk3⟩
        case measure => simp [intOf]; omega
      · gi_wp2
        refine bodyPost_ret (results_none rfl _ _ _) rfl ?_
        exact ⟨⟨_, rfl⟩, .inr ⟨k + 1, by omega, hJx3⟩⟩
    · obtain rfl : k = n := by omega
      gi_wp2
      go_end0
      exact ⟨⟨_, rfl⟩, .inl hJs⟩


theorem finTake_succ (n k : Nat) (h : k < n) : (List.finRange n).take (k + 1) = (List.finRange n).take k ++ [⟨k, h⟩] := by
  rw [List.take_succ_eq_append_getElem (by simpa using h)]
  simp
theorem allF_stops (F0 : Fence) (m : Nat) (hf : F0.fn 75) (hro : F0.round = none) (hm : 1 ≤ m) (Bs b : Nat) (F T : Nat → Int) (n : Nat) (d fl lg wh ct du : Int) (hn : n ≤ 17) (w : World) (hBl : Bs < w.heap.size) (hbl : b < w.heap.size)
    (hBs : w.cell? ⟨Bs, 0, none⟩ = some (.pointer (some ⟨b, 0, none⟩))) (hT : Trk w b F T n d fl lg wh ct du) :
    SeqStopsK F0 m Try.prog 75 #[.pointer (some ⟨Bs, 0, none⟩)] (fun i : Fin n => spanOf (i.1, F i.1, T i.1)) (TwoA b Bs) (fun ys => ys = List.finRange n)
      (fun pre => ∃ k, k ≤ n ∧ pre = (List.finRange n).take k) n w := fun l J Jx W hW _ _ hY h0 => by
  refine (all1k_in F0 m hf hro hm l Bs b F T n d fl lg wh ct du hn (fun k => J ((List.finRange n).take k)) (fun k => Jx ((List.finRange n).take k)) ?_ W ((TwoA.of_below hW hbl hBl).box hBs) ((TwoA.of_below hW hbl hBl).trk hT) (by simpa using h0)).mono ?_
  · intro k W hk hJ
    rw [finTake_succ n k hk]
    exact hY _ ⟨k, hk⟩ W hJ (by simp; omega)
  · rintro e W' ⟨h1, h2 | ⟨k, h3, h4⟩⟩
    · have h2' : J ((List.finRange n).take n) W' := h2
      rw [List.take_of_length_le (by simp)] at h2'
      exact ⟨h1, .inl ⟨_, rfl, h2'⟩⟩
    · exact ⟨h1, .inr ⟨_, ⟨k, h3, rfl⟩, h4⟩⟩
end Go.Proofs.Ytmmgmpghkpbgkaa
/- A drawing region of loads before one store, inside a fence (a round of a range over a function too). -/
namespace Go.Proofs.Ytmmgmpghkpbgkaa
open Go Go.RowKit Go.Shelf
set_option linter.unusedVariables false
set_option linter.unusedSimpArgs false

def calmOp (o : Oper) : Bool := match o.op with
  | .move _ | .load _ _ | .store _ _ _ | .binOp _ _ _ _ _ | .fieldAddr _ _ _ | .indexAddr _ _ _ | .convert _ _ _ | .alloc _ => true
  | .nilCheck _ => true
  | _ => false

def calmRes : Result Next → Prop
  | .ok (.value _) _ => True
  | .ok .skip _ => True
  | .ok _ _ => False
  | .halt _ _ => True

theorem calm_v {s : Sem Value} (P : Program) (w : World) : calmRes ((do pure (.value (← s)) : Sem Next).run P w) := by
  rw [Sem.run_bind]
  cases s.run P w <;> simp [calmRes]
theorem calm_u {s : Sem Unit} (P : Program) (w : World) : calmRes ((do s; pure .skip : Sem Next).run P w) := by
  rw [Sem.run_bind]
  cases s.run P w <;> simp [calmRes]

theorem calm_next {o : Oper} (h : calmOp o = true) (hn : ∀ x, o.op ≠ .nilCheck x) (ρ : Operand → Value) (P : Program) (w : World) : calmRes ((execOp ρ o).run P w) := by
  unfold execOp
  unfold calmOp at h
  cases ho : o.op <;> simp only [ho] at h hn ⊢ <;> first | contradiction | exact calm_v P w | exact calm_u P w | exact absurd rfl (hn _) | simp [calmRes]

theorem calm_panic (P : Program) (w : World) : calmRes ((runtimePanic .nilDeref : Sem Next).run P w) := by
  unfold runtimePanic
  simp [go_sem, calmRes]
theorem calm_chk {o : Oper} (x : Operand) (hx : o.op = .nilCheck x) (ρ : Operand → Value) (P : Program) (w : World) : calmRes ((execOp ρ o).run P w) := by
  unfold execOp
  simp only [hx]
  split
  · exact calm_panic P w
  · exact calm_panic P w
  · exact calm_panic P w
  · split
    · exact calm_panic P w
    · simp [calmRes, Result.andThen]
      generalize Sem.run P (nilAhead (P.types.size + Made.depth) _ _ _) w = r
      cases r with
      | halt _ _ => simp
      | ok b w' =>
        simp only
        by_cases hb : b = some false <;> simp [hb]
    · simp [calmRes]
  · simp [calmRes]
theorem calm_op {o : Oper} (h : calmOp o = true) (ρ : Operand → Value) (P : Program) (w : World) : calmRes ((execOp ρ o).run P w) := by
  by_cases hn : ∀ x, o.op ≠ .nilCheck x
  · exact calm_next h hn ρ P w
  · obtain ⟨x, hx⟩ := Classical.not_forall.1 hn
    exact calm_chk x (Classical.not_not.1 hx) ρ P w
theorem calm_about {o : Oper} (h : calmOp o = true) (P : Program) (w : World) (ρ : Operand → Value) : o.about P w ρ = none := by
  unfold Oper.about
  unfold calmOp at h
  cases ho : o.op <;> simp only [ho] at h ⊢ <;> contradiction
theorem calm_defer {o : Oper} (h : calmOp o = true) (c : Call) : o.op ≠ .defer c := by
  intro hc; unfold calmOp at h; rw [hc] at h; cases h

section
variable {F : Fence} {n : Nat} {P : Program} {ops : Array Oper} {Q : Exit → Act → World → Prop} {md : Region.Mode}
theorem calm_wpIn {o : Oper} {a : Act} {w : World} {K : Act → World → Prop} (h : calmOp o = true) (hh : o.wp P a w K Q) : o.wpIn F n P a w K Q := by
  unfold Oper.wpIn
  refine ⟨fun f hf => (by rw [calm_about h] at hf; cases hf), ?_⟩
  rw [Oper.semAt_eq _ _ _ (calm_defer h)]
  unfold Oper.wp at hh
  have hc := calm_op h a.eval P w
  generalize (execOp a.eval o).run P w = r at *
  cases r with
  | ok x w' => cases x <;> first | exact hh | exact hc.elim
  | halt x w' => cases x <;> exact hh
theorem calm_wpOpIn {i : Nat} {K : Act → World → Prop} {a : Act} {w : World} (hq : ¬ LetsOut Q) (h : ∀ o, ops[i]? = some o → calmOp o = true) (hh : wpOp P ops Q i K a w) : wpOpIn F n P ops Q i K a w := by
  unfold wpOp at hh
  unfold wpOpIn
  cases ho : ops[i]? with
  | none => simpa [ho] using hh
  | some o =>
    simp only [ho] at hh ⊢
    split
    · rename_i hw
      simp only [hw, if_true] at hh
      exact calm_wpIn (h o ho) (hh.resolve_right fun x => hq x.2)
    · rename_i hw
      simp only [hw] at hh
      exact ⟨fun f hf => (by rw [calm_about (h o ho)] at hf; cases hf), hh⟩
theorem calm_any (hq : ¬ LetsOut Q) (h : ∀ (i : Nat) o, ops[i]? = some o → calmOp o = true) : ∀ (fuel : Nat) (listed : Array Bool) (a : Act) (w : World),
    wpAny P md ops Q fuel listed a w → wpAnyIn F n P md ops Q fuel listed a w
  | 0, listed, a, w, hh => hh
  | fuel + 1, listed, a, w, hh => ⟨hh.1, fun i hi => calm_wpOpIn hq (h i) (wpOp_mono (fun a w => calm_any hq h fuel _ a w) (hh.2 i hi))⟩
end

section
variable {F : Fence} {m : Nat} {P : Program}
theorem wpIn_region_still_tail {id : Nat} {Q : Exit → Act → World → Prop} {a : Act} {w : World} {l : List Oper} (n : Nat) (hm : P.follows .mixedOrders = true) (hB : Region.lexTailB .any l.toArray n = true) (hcalm : l.all calmOp = true)
    (h : wpStill P l.toArray { w with drawn := w.drawn + 1 } (fun a' => wpList P l.toArray (fun e a w => e ≠ .outgrown ∧ Q e a w) (l.drop n) a' { w with drawn := w.drawn + 1 }) (l.take n) a) : (Code.region id l.toArray true).wpIn F m P Q a w := by
  simp only [Region.lexTailB, Bool.and_eq_true, decide_eq_true_eq] at hB
  obtain ⟨⟨⟨⟨hsel, hn⟩, hs⟩, hc⟩, hlex⟩ := hB
  have hn' : n < l.length := by simpa using hn
  have htl : (l.take n).length = n := by simp; omega
  have hdl : (l.drop n).length = l.toArray.size - n := by simp
  have inv0 : HeadInv .any l.toArray n (Array.replicate l.toArray.size false) :=
    ⟨by simp, fun j oj _ hl => (by rw [getD_replicate_false] at hl; cases hl), fun t _ ht => getD_in (by simpa using ht) (getD_replicate_false _ _)⟩
  have H := wpAnyL_lex (md := .any) (g := l.toArray.size - n) hsel hs hc hn (l.take n) 0 _ a (fun j hj => by
    have hj' : j < n := by rw [htl] at hj; exact hj
    simp [hj']) (by simpa using htl) inv0 (by rw [htl]; exact hlex) h
  have := wpAny_of_head (Q' := fun e a w => e ≠ .outgrown ∧ Q e a w) (g := l.toArray.size - n) (fun listed a' hL => by
    have := wpAny_of_seq (md := .any) (Q' := fun e a w => e ≠ .outgrown ∧ Q e a w) (l.drop n) n listed a' { w with drawn := w.drawn + 1 } (fun j => by simp [List.getElem?_drop]) (by rw [hdl]; exact hL.1) hL.2
    rwa [hdl] at this) _ _ _ H
  rw [htl, show n + (l.toArray.size - n) = l.toArray.size by omega] at this
  have hcalm' : ∀ (i : Nat) o, l.toArray[i]? = some o → calmOp o = true := fun i o ho => by
    rw [List.all_eq_true] at hcalm
    exact hcalm o (List.mem_of_getElem? (by simpa using ho))
  have hno : ¬ LetsOut (fun e a w => e ≠ .outgrown ∧ Q e a w) := fun ⟨a, w, h1, _⟩ => h1 rfl
  have := calm_any (F := F) (n := m) hno hcalm' _ _ _ _ this
  have hmono : ∀ (fuel : Nat) (listed : Array Bool) (a : Act) (w : World), wpAnyIn F m P .any l.toArray (fun e a w => e ≠ .outgrown ∧ Q e a w) fuel listed a w → wpAnyIn F m P .any l.toArray Q fuel listed a w := by
    intro fuel
    induction fuel with
    | zero => exact fun _ _ _ h => ⟨h.1, h.2.2⟩
    | succ k ih =>
      intro listed a w h
      refine ⟨fun e => (h.1 e).2, fun i hi => ?_⟩
      have h1 := wpOpIn_mono (fun a w => ih _ a w) (h.2 i hi)
      unfold wpOpIn at h1 ⊢
      cases ho : l.toArray[i]? with
      | none => simpa [ho] using h1
      | some o =>
        simp only [ho] at h1 ⊢
        split
        · rename_i hw
          simp only [hw, if_true] at h1
          unfold Oper.wpIn at h1 ⊢
          refine ⟨h1.1, ?_⟩
          have hc := calm_op (hcalm' i o ho) a.eval P w
          rw [Oper.semAt_eq _ _ _ (calm_defer (hcalm' i o ho))] at h1 ⊢
          have h2 := h1.2
          generalize (execOp a.eval o).run P w = r at *
          cases r with
          | ok x w' => cases x <;> first | exact h2 | exact hc.elim
          | halt x w' => cases x <;> first | exact h2.2 | exact h2
        · rename_i hw
          simp only [hw] at h1
          exact h1
  exact wpIn_region_any hm (hmono _ _ _ _ this)
end
end Go.Proofs.Ytmmgmpghkpbgkaa
/- Contracts of package acks: Frame. -/
namespace Go.Proofs.Ytmmgmpghkpbgkaa
open Go Go.RowKit Go.Shelf
set_option linter.unusedVariables false
set_option linter.unusedSimpArgs false
attribute [local go_sem] Oper.semAt_some

/-- The row's ends when the intervals of pre have been laid. -/
def revG (n : Nat) (F : Nat → Int) (pre : List (Fin n)) : Nat → Int := fun i => if ∃ p ∈ pre, p.1 = n - 1 - i ∧ i < n then F (n - 1 - i) else 0
theorem revG_nil (n : Nat) (F : Nat → Int) : revG n F [] = zF := by funext i; simp [revG, zF]
theorem revG_snoc (n : Nat) (F : Nat → Int) (pre : List (Fin n)) (x : Fin n) : revG n F (pre ++ [x]) = upd (revG n F pre) (n - 1 - x.1) (F x.1) := by
  funext i
  have hx := x.2
  by_cases h : i = n - 1 - x.1
  · subst h
    rw [upd_same]
    unfold revG
    rw [if_pos ⟨x, by simp, by omega, by omega⟩]
    congr 1; omega
  · rw [upd_other _ _ _ _ h]
    unfold revG
    have : (∃ p ∈ pre ++ [x], p.1 = n - 1 - i ∧ i < n) ↔ (∃ p ∈ pre, p.1 = n - 1 - i ∧ i < n) := by
      constructor
      · rintro ⟨p, hp, h1, h2⟩
        rcases List.mem_append.1 hp with hp | hp
        · exact ⟨p, hp, h1, h2⟩
        · simp at hp; subst hp; omega
      · rintro ⟨p, hp, h1⟩; exact ⟨p, List.mem_append.2 (.inl hp), h1⟩
    simp only [this]
theorem rowA_all (n : Nat) (F T : Nat → Int) : rowA n (revG n F (List.finRange n)) (revG n T (List.finRange n)) = rowA n (fun i => F (n - 1 - i)) (fun i => T (n - 1 - i)) := by
  apply Array.ext_getElem?
  intro j
  rcases Nat.lt_or_ge j (n * 2) with h | h
  · rw [rowA_get _ _ _ _ h, rowA_get _ _ _ _ h]
    unfold revG
    have he : ∃ p ∈ List.finRange n, p.1 = n - 1 - j / 2 ∧ j / 2 < n := ⟨⟨n - 1 - j / 2, by omega⟩, by simp, rfl, by omega⟩
    simp only [if_pos he]
  · rw [Array.getElem?_eq_none (by rw [rowA_size]; exact h), Array.getElem?_eq_none (by rw [rowA_size]; exact h)]
def FramePost (b : Nat) (F T : Nat → Int) (n : Nat) (dl : Int) (w : World) (e : Ending) (w' : World) : Prop := ∃ g, e = .returned (.tuple #[.agg #[.int .i64 2, .int .i64 0, .int .i64 0, .string { data := #[] }, .bool false, .int .i64 0, .int .i64 0, .bool false, .int .i64 dl, .slice (some ⟨g, 0, none⟩) n n, .int .i64 0, .int .i64 0, .string { data := #[] }], .bool true]) ∧ At w' g 43 (rowA n (fun i => F (n - 1 - i)) (fun i => T (n - 1 - i))) ∧ w.heap.size ≤ g ∧ Below w.heap.size w w'
set_option maxRecDepth 100000 in
set_option maxHeartbeats 4000000 in
theorem frame_late (b : Nat) (now : Int) (F T : Nat → Int) (n : Nat) (d fl lg wh ct du : Int) (hn : n ≤ 17) (hn0 : 0 < n) (h0 : 0 ≤ now) (h1 : now ≤ 1099511627776) (h2 : 0 ≤ wh) (h3 : wh ≤ 1099511627776) (hnw : wh < now) (w : World) (hT : Trk w b F T n d fl lg wh ct du) :
    CallsIn Fence.wide 3 Try.prog 16 #[.pointer (some ⟨b, 0, none⟩), .int .i64 now] w (FramePost b F T n (now - wh) w) := by
  have hro : Fence.wide.round = none := rfl
  have h1' : 1 ≤ 3 := by omega
  have hbl := At.lt hT
  have hmk := run_make_span n (by omega)
  have hcn : (w.alloc (.cells #[.pointer (some ⟨b, 0, none⟩)] 25)).cell? ⟨b, 34, none⟩ = some (.int .i64 n) := Trk.gn (At.alloc hT _)
  have q0 : ((n : Int) == 0) = false := by simp; omega
  have hcw : ((((w.alloc (.cells #[.pointer (some ⟨b, 0, none⟩)] 25)).alloc (.cells #[.int .i64 0, .int .i64 0, .int .i64 0, .string { data := #[] }, .bool false, .int .i64 0, .int .i64 0, .bool false, .int .i64 0, .slice none 0 0, .int .i64 0, .int .i64 0, .string { data := #[] }] 33)).alloc (.cells (rowA n zF zF) 43)).alloc (.cells #[.int .i64 2, .int .i64 0, .int .i64 0, .string { data := #[] }, .bool false, .int .i64 0, .int .i64 0, .bool false, .int .i64 0, .slice (some ⟨w.heap.size + 1 + 1, 0, none⟩) n n, .int .i64 0, .int .i64 0, .string { data := #[] }] 33)).cell? ⟨b, 38, none⟩ = some (.int .i64 wh) := Trk.gwh (At.alloc (At.alloc (At.alloc (At.alloc hT _) _) _) _)
  have bT := (((At.new w 25 #[.pointer (some ⟨b, 0, none⟩)]).alloc (.cells #[.int .i64 0, .int .i64 0, .int .i64 0, .string { data := #[] }, .bool false, .int .i64 0, .int .i64 0, .bool false, .int .i64 0, .slice none 0 0, .int .i64 0, .int .i64 0, .string { data := #[] }] 33)).alloc (.cells (rowA n zF zF) 43)).alloc (.cells #[.int .i64 2, .int .i64 0, .int .i64 0, .string { data := #[] }, .bool false, .int .i64 0, .int .i64 0, .bool false, .int .i64 (now - wh), .slice (some ⟨w.heap.size + 1 + 1, 0, none⟩) n n, .int .i64 0, .int .i64 0, .string { data := #[] }] 33)
  have bT := bT.alloc (.cells #[.pointer (some ⟨b, 0, none⟩)] 133)
  have bR := ((At.new ((w.alloc (.cells #[.pointer (some ⟨b, 0, none⟩)] 25)).alloc (.cells #[.int .i64 0, .int .i64 0, .int .i64 0, .string { data := #[] }, .bool false, .int .i64 0, .int .i64 0, .bool false, .int .i64 0, .slice none 0 0, .int .i64 0, .int .i64 0, .string { data := #[] }] 33)) 43 (rowA n zF zF)).alloc (.cells #[.int .i64 2, .int .i64 0, .int .i64 0, .string { data := #[] }, .bool false, .int .i64 0, .int .i64 0, .bool false, .int .i64 (now - wh), .slice (some ⟨w.heap.size + 1 + 1, 0, none⟩) n n, .int .i64 0, .int .i64 0, .string { data := #[] }] 33)).alloc (.cells #[.pointer (some ⟨b, 0, none⟩)] 133)
  have bF := (At.new (((w.alloc (.cells #[.pointer (some ⟨b, 0, none⟩)] 25)).alloc (.cells #[.int .i64 0, .int .i64 0, .int .i64 0, .string { data := #[] }, .bool false, .int .i64 0, .int .i64 0, .bool false, .int .i64 0, .slice none 0 0, .int .i64 0, .int .i64 0, .string { data := #[] }] 33)).alloc (.cells (rowA n zF zF) 43)) 33 #[.int .i64 2, .int .i64 0, .int .i64 0, .string { data := #[] }, .bool false, .int .i64 0, .int .i64 0, .bool false, .int .i64 (now - wh), .slice (some ⟨w.heap.size + 1 + 1, 0, none⟩) n n, .int .i64 0, .int .i64 0, .string { data := #[] }]).alloc (.cells #[.pointer (some ⟨b, 0, none⟩)] 133)
  have bV := At.new ((((w.alloc (.cells #[.pointer (some ⟨b, 0, none⟩)] 25)).alloc (.cells #[.int .i64 0, .int .i64 0, .int .i64 0, .string { data := #[] }, .bool false, .int .i64 0, .int .i64 0, .bool false, .int .i64 0, .slice none 0 0, .int .i64 0, .int .i64 0, .string { data := #[] }] 33)).alloc (.cells (rowA n zF zF) 43)).alloc (.cells #[.int .i64 2, .int .i64 0, .int .i64 0, .string { data := #[] }, .bool false, .int .i64 0, .int .i64 0, .bool false, .int .i64 (now - wh), .slice (some ⟨w.heap.size + 1 + 1, 0, none⟩) n n, .int .i64 0, .int .i64 0, .string { data := #[] }] 33)) 133 #[.pointer (some ⟨b, 0, none⟩)]
  simp only [World.size_alloc] at bR bF bV
  have bQ := (((At.new (w.alloc (.cells #[.pointer (some ⟨b, 0, none⟩)] 25)) 33 #[.int .i64 0, .int .i64 0, .int .i64 0, .string { data := #[] }, .bool false, .int .i64 0, .int .i64 0, .bool false, .int .i64 0, .slice none 0 0, .int .i64 0, .int .i64 0, .string { data := #[] }]).alloc (.cells (rowA n zF zF) 43)).alloc (.cells #[.int .i64 2, .int .i64 0, .int .i64 0, .string { data := #[] }, .bool false, .int .i64 0, .int .i64 0, .bool false, .int .i64 (now - wh), .slice (some ⟨w.heap.size + 1 + 1, 0, none⟩) n n, .int .i64 0, .int .i64 0, .string { data := #[] }] 33)).alloc (.cells #[.pointer (some ⟨b, 0, none⟩)] 133)
  simp only [World.size_alloc] at bQ
  have hT0 : Trk (((((w.alloc (.cells #[.pointer (some ⟨b, 0, none⟩)] 25)).alloc (.cells #[.int .i64 0, .int .i64 0, .int .i64 0, .string { data := #[] }, .bool false, .int .i64 0, .int .i64 0, .bool false, .int .i64 0, .slice none 0 0, .int .i64 0, .int .i64 0, .string { data := #[] }] 33)).alloc (.cells (rowA n zF zF) 43)).alloc (.cells #[.int .i64 2, .int .i64 0, .int .i64 0, .string { data := #[] }, .bool false, .int .i64 0, .int .i64 0, .bool false, .int .i64 (now - wh), .slice (some ⟨w.heap.size + 1 + 1, 0, none⟩) n n, .int .i64 0, .int .i64 0, .string { data := #[] }] 33)).alloc (.cells #[.pointer (some ⟨b, 0, none⟩)] 133)) b F T n d fl lg wh ct du := At.alloc (At.alloc (At.alloc (At.alloc (At.alloc hT _) _) _) _) _
  have hB0 : Below w.heap.size w (((((w.alloc (.cells #[.pointer (some ⟨b, 0, none⟩)] 25)).alloc (.cells #[.int .i64 0, .int .i64 0, .int .i64 0, .string { data := #[] }, .bool false, .int .i64 0, .int .i64 0, .bool false, .int .i64 0, .slice none 0 0, .int .i64 0, .int .i64 0, .string { data := #[] }] 33)).alloc (.cells (rowA n zF zF) 43)).alloc (.cells #[.int .i64 2, .int .i64 0, .int .i64 0, .string { data := #[] }, .bool false, .int .i64 0, .int .i64 0, .bool false, .int .i64 (now - wh), .slice (some ⟨w.heap.size + 1 + 1, 0, none⟩) n n, .int .i64 0, .int .i64 0, .string { data := #[] }] 33)).alloc (.cells #[.pointer (some ⟨b, 0, none⟩)] 133)) := (((((Below.refl _ w).alloc (Nat.le_refl _) _).alloc (by simp) _).alloc (by simp; omega) _).alloc (by simp; omega) _).alloc (by simp; omega) _
  have hsz : (((((w.alloc (.cells #[.pointer (some ⟨b, 0, none⟩)] 25)).alloc (.cells #[.int .i64 0, .int .i64 0, .int .i64 0, .string { data := #[] }, .bool false, .int .i64 0, .int .i64 0, .bool false, .int .i64 0, .slice none 0 0, .int .i64 0, .int .i64 0, .string { data := #[] }] 33)).alloc (.cells (rowA n zF zF) 43)).alloc (.cells #[.int .i64 2, .int .i64 0, .int .i64 0, .string { data := #[] }, .bool false, .int .i64 0, .int .i64 0, .bool false, .int .i64 (now - wh), .slice (some ⟨w.heap.size + 1 + 1, 0, none⟩) n n, .int .i64 0, .int .i64 0, .string { data := #[] }] 33)).alloc (.cells #[.pointer (some ⟨b, 0, none⟩)] 133)).heap.size = w.heap.size + 5 := by simp
  have HT0 := Lib.hid hT0
  have HB0 := Lib.hid hB0
  have HSZ := Lib.hid hsz
  have BT := Lib.hid bT
  have BR := Lib.hid bR
  have BF := Lib.hid bF
  have BV := Lib.hid bV
  have BQ := Lib.hid bQ
  clear hT hT0 hB0 hsz bT bR bF bV bQ
  refine callsIn_of_wp_marks Try.func16 rfl trivial ?_ hro
  simp only [Try.ntmps16, List.size_toArray, List.length_cons, List.length_nil, Nat.reduceAdd, Nat.reduceSub, Array.replicate_succ, Array.replicate_zero, List.push_toArray, List.append_toArray, List.nil_append, List.cons_append]
  gi_wp2_with fail
  refine ⟨trivial, ?_⟩
  refine (all_inA Fence.wide 2 trivial hro _ _).mono ?_
  rintro e w' ⟨rfl, rfl⟩
  clear hcn hcw hmk
  gi_wp2_with fail
  obtain ⟨W0, hW0⟩ : ∃ W0, (((((w.alloc (.cells #[.pointer (some ⟨b, 0, none⟩)] 25)).alloc (.cells #[.int .i64 0, .int .i64 0, .int .i64 0, .string { data := #[] }, .bool false, .int .i64 0, .int .i64 0, .bool false, .int .i64 0, .slice none 0 0, .int .i64 0, .int .i64 0, .string { data := #[] }] 33)).alloc (.cells (rowA n zF zF) 43)).alloc (.cells #[.int .i64 2, .int .i64 0, .int .i64 0, .string { data := #[] }, .bool false, .int .i64 0, .int .i64 0, .bool false, .int .i64 (now - wh), .slice (some ⟨w.heap.size + 1 + 1, 0, none⟩) n n, .int .i64 0, .int .i64 0, .string { data := #[] }] 33)).alloc (.cells #[.pointer (some ⟨b, 0, none⟩)] 133)) = W0 := ⟨_, rfl⟩
  rw [hW0] at HT0 HB0 HSZ BT BR BF BV BQ ⊢
  clear hW0
  have hT0 := HT0.out
  have hB0 := HB0.out
  have hsz := HSZ.out
  have bT := BT.out
  have bR := BR.out
  have bF := BF.out
  have bV := BV.out
  have bQ := BQ.out
  clear HT0 HB0 HSZ BT BR BF BV BQ
  refine wpIn_rangeFunc_ownH hro h1' (gf := 75) (lb := #[.pointer (some ⟨w.heap.size + 1 + 1 + 1 + 1, 0, none⟩)]) rfl trivial (enters_of Try.func75 (by kernel_rfl) rfl)
    (allF_stops Fence.wide 2 trivial hro (by omega) (w.heap.size + 1 + 1 + 1 + 1) b F T n d fl lg wh ct du hn W0 (by omega) (by omega) (bV.cell 0 rfl) hT0) (fun h k => TwoA.trans h k) (TwoA.put (by omega) (by omega)) (Below.refl _ _) (fun _ => rfl)
    (fun pre W => ((At W w.heap.size 25 #[.pointer (some ⟨b, 0, none⟩)] ∧ At W (w.heap.size + 1 + 1) 43 (rowA n (revG n F pre) (revG n T pre)) ∧ At W (w.heap.size + 1 + 1 + 1) 33 #[.int .i64 2, .int .i64 0, .int .i64 0, .string { data := #[] }, .bool false, .int .i64 0, .int .i64 0, .bool false, .int .i64 (now - wh), .slice (some ⟨w.heap.size + 1 + 1, 0, none⟩) n n, .int .i64 0, .int .i64 0, .string { data := #[] }] ∧ At W (w.heap.size + 1 + 1 + 1 + 1) 133 #[.pointer (some ⟨b, 0, none⟩)] ∧ At W (w.heap.size + 1) 33 #[.int .i64 0, .int .i64 0, .int .i64 0, .string { data := #[] }, .bool false, .int .i64 0, .int .i64 0, .bool false, .int .i64 0, .slice none 0 0, .int .i64 0, .int .i64 0, .string { data := #[] }] ∧ Trk W b F T n d fl lg wh ct du) ∧ Below w.heap.size w W))
    (fun _ _ _ => False)
    (OwnFrom.and (OwnFrom.and (Own.from (at_own _ _ _) _) (OwnFrom.and (Own.from (at_own _ _ _) _) (OwnFrom.and (Own.from (at_own _ _ _) _) (OwnFrom.and (Own.from (at_own _ _ _) _) (OwnFrom.and (Own.from (at_own _ _ _) _) (Own.from (at_own _ _ _) _)))))) (ownFrom_below (Nat.le_refl _) (by omega)))
    (fun _ _ _ _ _ hs _ _ => hs)
    ⟨⟨bT, by rw [revG_nil, revG_nil]; exact bR, bF, bV, bQ, hT0⟩, hB0⟩
    (fun x a' W => ∃ Bx, w.heap.size + 4 < Bx ∧ At W Bx 43 #[.int .i64 (F x.1), .int .i64 (T x.1)] ∧ a' = { tmps := #[.pointer (some ⟨b, 0, none⟩), .int .i64 now, .pointer (some ⟨w.heap.size, 0, none⟩), undef, .pointer (some ⟨w.heap.size + 1, 0, none⟩), .bool false, .pointer (some ⟨w.heap.size + 1 + 1 + 1, 0, none⟩), .int .i64 x.1, .pointer (some ⟨Bx, 0, none⟩), .pointer (some ⟨b, 0, none⟩), .bool false, .bool false, .pointer (some ⟨b, 0, none⟩), .pointer (some ⟨b, 0, none⟩), .pointer (some ⟨b, 0, none⟩), .pointer (some ⟨b, 34, none⟩), .int .i64 n, .bool false, .bool false, undef, .pointer (some ⟨b, 0, none⟩), .pointer (some ⟨b, 0, none⟩), .pointer (some ⟨b, 0, none⟩), .pointer (some ⟨b, 34, none⟩), .int .i64 n, .slice (some ⟨w.heap.size + 1 + 1, 0, none⟩) n n, .agg #[.int .i64 2, .int .i64 0, .int .i64 0, .string { data := #[] }, .bool false, .int .i64 0, .int .i64 0, .bool false, .int .i64 0, .slice (some ⟨w.heap.size + 1 + 1, 0, none⟩) n n, .int .i64 0, .int .i64 0, .string { data := #[] }], .int .i64 now, .pointer (some ⟨b, 0, none⟩), .pointer (some ⟨b, 0, none⟩), .pointer (some ⟨b, 38, none⟩), .int .i64 wh, .bool true, .int .i64 now, .pointer (some ⟨b, 0, none⟩), .pointer (some ⟨b, 0, none⟩), .pointer (some ⟨b, 38, none⟩), .int .i64 wh, .int .i64 (now - wh), .pointer (some ⟨w.heap.size + 1 + 1 + 1, 8, none⟩), .pointer (some ⟨b, 0, none⟩), .pointer (some ⟨b, 0, none⟩), .pointer (some ⟨b, 0, none⟩), .func (.func 75) #[] #[.pointer (some ⟨w.heap.size + 1 + 1 + 1 + 1, 0, none⟩)], .int .i64 x.1, .agg #[.int .i64 (F x.1), .int .i64 (T x.1)], undef, undef, undef, undef, undef, undef, undef, undef, undef, undef, undef, undef, undef], defers := [] })
    (fun x a' _ X Y row hs hg hr => by obtain ⟨Bx, h1, h2, h3⟩ := hs; exact ⟨Bx, h1, at_own Bx 43 (fun (_ : Unit) => #[.int .i64 (F x.1), .int .i64 (T x.1)]) () X Y row h2 hg (fun r e => (hr r e).2), h3⟩)
    ?assign ?body ?done ?stop
  case assign =>
    rintro l pre x W K ⟨⟨bT1, bR1, bF1, bV1, bQ1, hT1⟩, hB1⟩ hK
    have hs1 := bV1.lt
    simp only [spanOf]
    gi_wp2
    exact hK _ _ ((KeepsOthers.alloc _ _).from _) (TwoA.of_below ((Below.refl _ W).alloc (Nat.le_refl _) _) (by omega) (by omega)) ⟨⟨bT1.alloc _, bR1.alloc _, bF1.alloc _, bV1.alloc _, bQ1.alloc _, At.alloc hT1 _⟩, hB1.alloc hB1.size _⟩ ⟨W.heap.size, by omega, At.new _ _ _, rfl⟩
  case body =>
    rintro l pre x a' W hl ⟨r, hr⟩ ⟨⟨bT1, bR1, bF1, bV1, bQ1, hT1⟩, hB1⟩ ⟨Bx, hBx, bX, rfl⟩ hlt
    obtain ⟨k, hk⟩ := x
    have c1 : W.cell? ⟨w.heap.size, 0, none⟩ = some (.pointer (some ⟨b, 0, none⟩)) := bT1.cell 0 rfl
    have c2 : W.cell? ⟨w.heap.size + 1 + 1 + 1, 9, none⟩ = some (.slice (some ⟨w.heap.size + 1 + 1, 0, none⟩) n n) := bF1.cell 9 rfl
    have c3 : W.cell? ⟨Bx, 0, none⟩ = some (.int .i64 (F k)) := bX.cell 0 rfl
    have c4 : W.cell? ⟨Bx, 1, none⟩ = some (.int .i64 (T k)) := bX.cell 1 rfl
    have c5 := hT1.gn
    have c6 : W.cell? ⟨w.heap.size + 1 + 1, (n - 1 - k) * 2, none⟩ = some (.int .i64 (revG n F pre (n - 1 - k))) := bR1.cell _ (rowA_G _ _ _ _ (by omega))
    have c7 : W.cell? ⟨w.heap.size + 1 + 1, (n - 1 - k) * 2 + 1, none⟩ = some (.int .i64 (revG n T pre (n - 1 - k))) := bR1.cell _ (rowA_H _ _ _ _ (by omega))
    have f6 : W.frozen? ⟨w.heap.size + 1 + 1, (n - 1 - k) * 2, none⟩ = false := bR1.free _
    have f7 : W.frozen? ⟨w.heap.size + 1 + 1, (n - 1 - k) * 2 + 1, none⟩ = false := bR1.free _
    have e1 : IntKind.i64.wrap ((n : Int) - 1) = (n : Int) - 1 := IntWalk.i64_in _ (by omega)
    have e2 : IntKind.i64.wrap ((n : Int) - 1 - (k : Int)) = (n : Int) - 1 - (k : Int) := IntWalk.i64_in _ (by omega)
    have i1 : (0 : Int) ≤ (n : Int) - 1 - (k : Int) := by omega
    have i2 : (n : Int) - 1 - (k : Int) < (n : Int) := by omega
    have i4 : (k : Int) ≤ (n : Int) - 1 := by omega
    have i3 : ((n : Int) - 1 - (k : Int)).toNat = n - 1 - k := by omega
    have HB := Lib.hid (And.intro bT1 (And.intro bR1 (And.intro bF1 (And.intro bV1 (And.intro bQ1 hT1)))))
    clear bT1 bR1 bF1 bV1 bQ1 hT1 bX
    gi_wp2
    refine wpIn_region_still_tail 12 (by kernel_rfl) (by kernel_rfl) (by kernel_rfl) ?_
    simp only [List.take_succ_cons, List.take_zero, List.drop_succ_cons, List.drop_zero]
    repeat still_step
    try refine wpStill_nil ?_
    go_wp2
    refine ⟨by simp, ?_⟩
    gi_wp2
    obtain ⟨bT1, bR1, bF1, bV1, bQ1, hT1⟩ := HB.out
    have hbl := At.lt hT1
    have hB2 := (hB1.setCell (p := ⟨w.heap.size + 1 + 1, (n - 1 - k) * 2, none⟩) (by simp; omega) (.int .i64 (F k))).setCell (p := ⟨w.heap.size + 1 + 1, (n - 1 - k) * 2 + 1, none⟩) (by simp; omega) (.int .i64 (T k))
    have hfar : ∀ g, g ≠ w.heap.size + 1 + 1 → ((W.setCell ⟨w.heap.size + 1 + 1, (n - 1 - k) * 2, none⟩ (.int .i64 (F k))).setCell ⟨w.heap.size + 1 + 1, (n - 1 - k) * 2 + 1, none⟩ (.int .i64 (T k))).heap[g]? = W.heap[g]? := fun g hg => (Below.heap_setCell _ _ _ g hg).trans (Below.heap_setCell _ _ _ g hg)
    have hrow := (bR1.set _ _ (rowA_setG n (revG n F pre) (revG n T pre) (n - 1 - k) (by omega) (F k))).set _ _ (rowA_setH n _ (revG n T pre) (n - 1 - k) (by omega) (T k))
    exact ⟨(((KeepsOthers.setCell W _ _).trans (KeepsOthers.setCell _ _ _)).trans (KeepsOthers.drew _)).from _, ⟨hfar b (by omega), hfar _ (by omega)⟩, ⟨(hfar _ (by omega)).trans bT1, by rw [revG_snoc, revG_snoc]; exact hrow, (hfar _ (by omega)).trans bF1, (hfar _ (by omega)).trans bV1, (hfar _ (by omega)).trans bQ1, (hfar b (by omega)).trans hT1⟩, hB2.drew⟩
  case done =>
    rintro D zs W hD rfl ⟨⟨bT1, bR1, bF1, bV1, bQ1, hT1⟩, hB1⟩ hK
    rw [rowA_all] at bR1
    have a0 : W.cell? ⟨w.heap.size + 1 + 1 + 1, 0, none⟩ = some (.int .i64 2) := bF1.cell 0 rfl
    have z0 : W.cell? ⟨w.heap.size + 1, 0, none⟩ = some (.int .i64 0) := bQ1.cell 0 rfl
    have f0 : W.frozen? ⟨w.heap.size + 1, 0, none⟩ = false := bQ1.free 0
    have a1 : W.cell? ⟨w.heap.size + 1 + 1 + 1, 1, none⟩ = some (.int .i64 0) := bF1.cell 1 rfl
    have z1 : W.cell? ⟨w.heap.size + 1, 1, none⟩ = some (.int .i64 0) := bQ1.cell 1 rfl
    have f1 : W.frozen? ⟨w.heap.size + 1, 1, none⟩ = false := bQ1.free 1
    have a2 : W.cell? ⟨w.heap.size + 1 + 1 + 1, 2, none⟩ = some (.int .i64 0) := bF1.cell 2 rfl
    have z2 : W.cell? ⟨w.heap.size + 1, 2, none⟩ = some (.int .i64 0) := bQ1.cell 2 rfl
    have f2 : W.frozen? ⟨w.heap.size + 1, 2, none⟩ = false := bQ1.free 2
    have a3 : W.cell? ⟨w.heap.size + 1 + 1 + 1, 3, none⟩ = some (.string { data := #[] }) := bF1.cell 3 rfl
    have z3 : W.cell? ⟨w.heap.size + 1, 3, none⟩ = some (.string { data := #[] }) := bQ1.cell 3 rfl
    have f3 : W.frozen? ⟨w.heap.size + 1, 3, none⟩ = false := bQ1.free 3
    have a4 : W.cell? ⟨w.heap.size + 1 + 1 + 1, 4, none⟩ = some (.bool false) := bF1.cell 4 rfl
    have z4 : W.cell? ⟨w.heap.size + 1, 4, none⟩ = some (.bool false) := bQ1.cell 4 rfl
    have f4 : W.frozen? ⟨w.heap.size + 1, 4, none⟩ = false := bQ1.free 4
    have a5 : W.cell? ⟨w.heap.size + 1 + 1 + 1, 5, none⟩ = some (.int .i64 0) := bF1.cell 5 rfl
    have z5 : W.cell? ⟨w.heap.size + 1, 5, none⟩ = some (.int .i64 0) := bQ1.cell 5 rfl
    have f5 : W.frozen? ⟨w.heap.size + 1, 5, none⟩ = false := bQ1.free 5
    have a6 : W.cell? ⟨w.heap.size + 1 + 1 + 1, 6, none⟩ = some (.int .i64 0) := bF1.cell 6 rfl
    have z6 : W.cell? ⟨w.heap.size + 1, 6, none⟩ = some (.int .i64 0) := bQ1.cell 6 rfl
    have f6 : W.frozen? ⟨w.heap.size + 1, 6, none⟩ = false := bQ1.free 6
    have a7 : W.cell? ⟨w.heap.size + 1 + 1 + 1, 7, none⟩ = some (.bool false) := bF1.cell 7 rfl
    have z7 : W.cell? ⟨w.heap.size + 1, 7, none⟩ = some (.bool false) := bQ1.cell 7 rfl
    have f7 : W.frozen? ⟨w.heap.size + 1, 7, none⟩ = false := bQ1.free 7
    have a8 : W.cell? ⟨w.heap.size + 1 + 1 + 1, 8, none⟩ = some (.int .i64 (now - wh)) := bF1.cell 8 rfl
    have z8 : W.cell? ⟨w.heap.size + 1, 8, none⟩ = some (.int .i64 0) := bQ1.cell 8 rfl
    have f8 : W.frozen? ⟨w.heap.size + 1, 8, none⟩ = false := bQ1.free 8
    have a9 : W.cell? ⟨w.heap.size + 1 + 1 + 1, 9, none⟩ = some (.slice (some ⟨w.heap.size + 1 + 1, 0, none⟩) n n) := bF1.cell 9 rfl
    have z9 : W.cell? ⟨w.heap.size + 1, 9, none⟩ = some (.slice none 0 0) := bQ1.cell 9 rfl
    have f9 : W.frozen? ⟨w.heap.size + 1, 9, none⟩ = false := bQ1.free 9
    have a10 : W.cell? ⟨w.heap.size + 1 + 1 + 1, 10, none⟩ = some (.int .i64 0) := bF1.cell 10 rfl
    have z10 : W.cell? ⟨w.heap.size + 1, 10, none⟩ = some (.int .i64 0) := bQ1.cell 10 rfl
    have f10 : W.frozen? ⟨w.heap.size + 1, 10, none⟩ = false := bQ1.free 10
    have a11 : W.cell? ⟨w.heap.size + 1 + 1 + 1, 11, none⟩ = some (.int .i64 0) := bF1.cell 11 rfl
    have z11 : W.cell? ⟨w.heap.size + 1, 11, none⟩ = some (.int .i64 0) := bQ1.cell 11 rfl
    have f11 : W.frozen? ⟨w.heap.size + 1, 11, none⟩ = false := bQ1.free 11
    have a12 : W.cell? ⟨w.heap.size + 1 + 1 + 1, 12, none⟩ = some (.string { data := #[] }) := bF1.cell 12 rfl
    have z12 : W.cell? ⟨w.heap.size + 1, 12, none⟩ = some (.string { data := #[] }) := bQ1.cell 12 rfl
    have f12 : W.frozen? ⟨w.heap.size + 1, 12, none⟩ = false := bQ1.free 12
    gi_wp2
    have k0 := KeepsOthers.setCell W ⟨w.heap.size + 1, 0, none⟩ (.int .i64 2)
    have q0 := bQ1.set 0 (.int .i64 2) rfl
    have r0 := bR1.far (p := ⟨w.heap.size + 1, 0, none⟩) (by simp) (.int .i64 2)
    have b0 := hB1.setCell (p := ⟨w.heap.size + 1, 0, none⟩) (by simp) (.int .i64 2)
    have k1 := k0.trans (KeepsOthers.setCell _ ⟨w.heap.size + 1, 1, none⟩ (.int .i64 0))
    have q1 := q0.set 1 (.int .i64 0) rfl
    have r1 := r0.far (p := ⟨w.heap.size + 1, 1, none⟩) (by simp) (.int .i64 0)
    have b1 := b0.setCell (p := ⟨w.heap.size + 1, 1, none⟩) (by simp) (.int .i64 0)
    have k2 := k1.trans (KeepsOthers.setCell _ ⟨w.heap.size + 1, 2, none⟩ (.int .i64 0))
    have q2 := q1.set 2 (.int .i64 0) rfl
    have r2 := r1.far (p := ⟨w.heap.size + 1, 2, none⟩) (by simp) (.int .i64 0)
    have b2 := b1.setCell (p := ⟨w.heap.size + 1, 2, none⟩) (by simp) (.int .i64 0)
    have k3 := k2.trans (KeepsOthers.setCell _ ⟨w.heap.size + 1, 3, none⟩ (.string { data := #[] }))
    have q3 := q2.set 3 (.string { data := #[] }) rfl
    have r3 := r2.far (p := ⟨w.heap.size + 1, 3, none⟩) (by simp) (.string { data := #[] })
    have b3 := b2.setCell (p := ⟨w.heap.size + 1, 3, none⟩) (by simp) (.string { data := #[] })
    have k4 := k3.trans (KeepsOthers.setCell _ ⟨w.heap.size + 1, 4, none⟩ (.bool false))
    have q4 := q3.set 4 (.bool false) rfl
    have r4 := r3.far (p := ⟨w.heap.size + 1, 4, none⟩) (by simp) (.bool false)
    have b4 := b3.setCell (p := ⟨w.heap.size + 1, 4, none⟩) (by simp) (.bool false)
    have k5 := k4.trans (KeepsOthers.setCell _ ⟨w.heap.size + 1, 5, none⟩ (.int .i64 0))
    have q5 := q4.set 5 (.int .i64 0) rfl
    have r5 := r4.far (p := ⟨w.heap.size + 1, 5, none⟩) (by simp) (.int .i64 0)
    have b5 := b4.setCell (p := ⟨w.heap.size + 1, 5, none⟩) (by simp) (.int .i64 0)
    have k6 := k5.trans (KeepsOthers.setCell _ ⟨w.heap.size + 1, 6, none⟩ (.int .i64 0))
    have q6 := q5.set 6 (.int .i64 0) rfl
    have r6 := r5.far (p := ⟨w.heap.size + 1, 6, none⟩) (by simp) (.int .i64 0)
    have b6 := b5.setCell (p := ⟨w.heap.size + 1, 6, none⟩) (by simp) (.int .i64 0)
    have k7 := k6.trans (KeepsOthers.setCell _ ⟨w.heap.size + 1, 7, none⟩ (.bool false))
    have q7 := q6.set 7 (.bool false) rfl
    have r7 := r6.far (p := ⟨w.heap.size + 1, 7, none⟩) (by simp) (.bool false)
    have b7 := b6.setCell (p := ⟨w.heap.size + 1, 7, none⟩) (by simp) (.bool false)
    have k8 := k7.trans (KeepsOthers.setCell _ ⟨w.heap.size + 1, 8, none⟩ (.int .i64 (now - wh)))
    have q8 := q7.set 8 (.int .i64 (now - wh)) rfl
    have r8 := r7.far (p := ⟨w.heap.size + 1, 8, none⟩) (by simp) (.int .i64 (now - wh))
    have b8 := b7.setCell (p := ⟨w.heap.size + 1, 8, none⟩) (by simp) (.int .i64 (now - wh))
    have k9 := k8.trans (KeepsOthers.setCell _ ⟨w.heap.size + 1, 9, none⟩ (.slice (some ⟨w.heap.size + 1 + 1, 0, none⟩) n n))
    have q9 := q8.set 9 (.slice (some ⟨w.heap.size + 1 + 1, 0, none⟩) n n) rfl
    have r9 := r8.far (p := ⟨w.heap.size + 1, 9, none⟩) (by simp) (.slice (some ⟨w.heap.size + 1 + 1, 0, none⟩) n n)
    have b9 := b8.setCell (p := ⟨w.heap.size + 1, 9, none⟩) (by simp) (.slice (some ⟨w.heap.size + 1 + 1, 0, none⟩) n n)
    have k10 := k9.trans (KeepsOthers.setCell _ ⟨w.heap.size + 1, 10, none⟩ (.int .i64 0))
    have q10 := q9.set 10 (.int .i64 0) rfl
    have r10 := r9.far (p := ⟨w.heap.size + 1, 10, none⟩) (by simp) (.int .i64 0)
    have b10 := b9.setCell (p := ⟨w.heap.size + 1, 10, none⟩) (by simp) (.int .i64 0)
    have k11 := k10.trans (KeepsOthers.setCell _ ⟨w.heap.size + 1, 11, none⟩ (.int .i64 0))
    have q11 := q10.set 11 (.int .i64 0) rfl
    have r11 := r10.far (p := ⟨w.heap.size + 1, 11, none⟩) (by simp) (.int .i64 0)
    have b11 := b10.setCell (p := ⟨w.heap.size + 1, 11, none⟩) (by simp) (.int .i64 0)
    have k12 := k11.trans (KeepsOthers.setCell _ ⟨w.heap.size + 1, 12, none⟩ (.string { data := #[] }))
    have q12 := q11.set 12 (.string { data := #[] }) rfl
    have r12 := r11.far (p := ⟨w.heap.size + 1, 12, none⟩) (by simp) (.string { data := #[] })
    have b12 := b11.setCell (p := ⟨w.heap.size + 1, 12, none⟩) (by simp) (.string { data := #[] })
    have hK' := k12.same D _ hK rfl
    refine ⟨by simp, .inl ⟨_, _, rfl, run_takeDeferred hK', ?_⟩⟩
    have qq := at_put q12 (.deferred none) hK' rfl
    have u0 := qq.cell 0 (v := .int .i64 2) rfl
    have u1 := qq.cell 1 (v := .int .i64 0) rfl
    have u2 := qq.cell 2 (v := .int .i64 0) rfl
    have u3 := qq.cell 3 (v := .string { data := #[] }) rfl
    have u4 := qq.cell 4 (v := .bool false) rfl
    have u5 := qq.cell 5 (v := .int .i64 0) rfl
    have u6 := qq.cell 6 (v := .int .i64 0) rfl
    have u7 := qq.cell 7 (v := .bool false) rfl
    have u8 := qq.cell 8 (v := .int .i64 (now - wh)) rfl
    have u9 := qq.cell 9 (v := .slice (some ⟨w.heap.size + 1 + 1, 0, none⟩) n n) rfl
    have u10 := qq.cell 10 (v := .int .i64 0) rfl
    have u11 := qq.cell 11 (v := .int .i64 0) rfl
    have u12 := qq.cell 12 (v := .string { data := #[] }) rfl
    refine ⟨.tuple #[.agg #[.int .i64 2, .int .i64 0, .int .i64 0, .string { data := #[] }, .bool false, .int .i64 0, .int .i64 0, .bool false, .int .i64 (now - wh), .slice (some ⟨w.heap.size + 1 + 1, 0, none⟩) n n, .int .i64 0, .int .i64 0, .string { data := #[] }], .bool true], ?_, w.heap.size + 1 + 1, rfl, at_put r12 _ hK' rfl, by omega, b12.trans (belowK_b (w := w) (Nat.le_refl _) _ D _ _ (by omega) hK' rfl rfl)⟩
    simp [results, Try.f16, go_sem, u0, u1, u2, u3, u4, u5, u6, u7, u8, u9, u10, u11, u12]
  case stop =>
    rintro D c pre W _ _ h _
    exact h.elim
set_option maxRecDepth 100000 in
set_option maxHeartbeats 4000000 in
theorem frame_now (b : Nat) (now : Int) (F T : Nat → Int) (n : Nat) (d fl lg wh ct du : Int) (hn : n ≤ 17) (hn0 : 0 < n) (h0 : 0 ≤ now) (h1 : now ≤ 1099511627776) (h2 : 0 ≤ wh) (h3 : wh ≤ 1099511627776) (hnw : ¬ wh < now) (w : World) (hT : Trk w b F T n d fl lg wh ct du) :
    CallsIn Fence.wide 3 Try.prog 16 #[.pointer (some ⟨b, 0, none⟩), .int .i64 now] w (FramePost b F T n 0 w) := by
  have hro : Fence.wide.round = none := rfl
  have h1' : 1 ≤ 3 := by omega
  have hbl := At.lt hT
  have hmk := run_make_span n (by omega)
  have hcn : (w.alloc (.cells #[.pointer (some ⟨b, 0, none⟩)] 25)).cell? ⟨b, 34, none⟩ = some (.int .i64 n) := Trk.gn (At.alloc hT _)
  have q0 : ((n : Int) == 0) = false := by simp; omega
  have hcw : ((((w.alloc (.cells #[.pointer (some ⟨b, 0, none⟩)] 25)).alloc (.cells #[.int .i64 0, .int .i64 0, .int .i64 0, .string { data := #[] }, .bool false, .int .i64 0, .int .i64 0, .bool false, .int .i64 0, .slice none 0 0, .int .i64 0, .int .i64 0, .string { data := #[] }] 33)).alloc (.cells (rowA n zF zF) 43)).alloc (.cells #[.int .i64 2, .int .i64 0, .int .i64 0, .string { data := #[] }, .bool false, .int .i64 0, .int .i64 0, .bool false, .int .i64 0, .slice (some ⟨w.heap.size + 1 + 1, 0, none⟩) n n, .int .i64 0, .int .i64 0, .string { data := #[] }] 33)).cell? ⟨b, 38, none⟩ = some (.int .i64 wh) := Trk.gwh (At.alloc (At.alloc (At.alloc (At.alloc hT _) _) _) _)
  have bT := (((At.new w 25 #[.pointer (some ⟨b, 0, none⟩)]).alloc (.cells #[.int .i64 0, .int .i64 0, .int .i64 0, .string { data := #[] }, .bool false, .int .i64 0, .int .i64 0, .bool false, .int .i64 0, .slice none 0 0, .int .i64 0, .int .i64 0, .string { data := #[] }] 33)).alloc (.cells (rowA n zF zF) 43)).alloc (.cells #[.int .i64 2, .int .i64 0, .int .i64 0, .string { data := #[] }, .bool false, .int .i64 0, .int .i64 0, .bool false, .int .i64 0, .slice (some ⟨w.heap.size + 1 + 1, 0, none⟩) n n, .int .i64 0, .int .i64 0, .string { data := #[] }] 33)
  have bT := bT.alloc (.cells #[.pointer (some ⟨b, 0, none⟩)] 133)
  have bR := ((At.new ((w.alloc (.cells #[.pointer (some ⟨b, 0, none⟩)] 25)).alloc (.cells #[.int .i64 0, .int .i64 0, .int .i64 0, .string { data := #[] }, .bool false, .int .i64 0, .int .i64 0, .bool false, .int .i64 0, .slice none 0 0, .int .i64 0, .int .i64 0, .string { data := #[] }] 33)) 43 (rowA n zF zF)).alloc (.cells #[.int .i64 2, .int .i64 0, .int .i64 0, .string { data := #[] }, .bool false, .int .i64 0, .int .i64 0, .bool false, .int .i64 0, .slice (some ⟨w.heap.size + 1 + 1, 0, none⟩) n n, .int .i64 0, .int .i64 0, .string { data := #[] }] 33)).alloc (.cells #[.pointer (some ⟨b, 0, none⟩)] 133)
  have bF := (At.new (((w.alloc (.cells #[.pointer (some ⟨b, 0, none⟩)] 25)).alloc (.cells #[.int .i64 0, .int .i64 0, .int .i64 0, .string { data := #[] }, .bool false, .int .i64 0, .int .i64 0, .bool false, .int .i64 0, .slice none 0 0, .int .i64 0, .int .i64 0, .string { data := #[] }] 33)).alloc (.cells (rowA n zF zF) 43)) 33 #[.int .i64 2, .int .i64 0, .int .i64 0, .string { data := #[] }, .bool false, .int .i64 0, .int .i64 0, .bool false, .int .i64 0, .slice (some ⟨w.heap.size + 1 + 1, 0, none⟩) n n, .int .i64 0, .int .i64 0, .string { data := #[] }]).alloc (.cells #[.pointer (some ⟨b, 0, none⟩)] 133)
  have bV := At.new ((((w.alloc (.cells #[.pointer (some ⟨b, 0, none⟩)] 25)).alloc (.cells #[.int .i64 0, .int .i64 0, .int .i64 0, .string { data := #[] }, .bool false, .int .i64 0, .int .i64 0, .bool false, .int .i64 0, .slice none 0 0, .int .i64 0, .int .i64 0, .string { data := #[] }] 33)).alloc (.cells (rowA n zF zF) 43)).alloc (.cells #[.int .i64 2, .int .i64 0, .int .i64 0, .string { data := #[] }, .bool false, .int .i64 0, .int .i64 0, .bool false, .int .i64 0, .slice (some ⟨w.heap.size + 1 + 1, 0, none⟩) n n, .int .i64 0, .int .i64 0, .string { data := #[] }] 33)) 133 #[.pointer (some ⟨b, 0, none⟩)]
  simp only [World.size_alloc] at bR bF bV
  have bQ := (((At.new (w.alloc (.cells #[.pointer (some ⟨b, 0, none⟩)] 25)) 33 #[.int .i64 0, .int .i64 0, .int .i64 0, .string { data := #[] }, .bool false, .int .i64 0, .int .i64 0, .bool false, .int .i64 0, .slice none 0 0, .int .i64 0, .int .i64 0, .string { data := #[] }]).alloc (.cells (rowA n zF zF) 43)).alloc (.cells #[.int .i64 2, .int .i64 0, .int .i64 0, .string { data := #[] }, .bool false, .int .i64 0, .int .i64 0, .bool false, .int .i64 0, .slice (some ⟨w.heap.size + 1 + 1, 0, none⟩) n n, .int .i64 0, .int .i64 0, .string { data := #[] }] 33)).alloc (.cells #[.pointer (some ⟨b, 0, none⟩)] 133)
  simp only [World.size_alloc] at bQ
  have hT0 : Trk (((((w.alloc (.cells #[.pointer (some ⟨b, 0, none⟩)] 25)).alloc (.cells #[.int .i64 0, .int .i64 0, .int .i64 0, .string { data := #[] }, .bool false, .int .i64 0, .int .i64 0, .bool false, .int .i64 0, .slice none 0 0, .int .i64 0, .int .i64 0, .string { data := #[] }] 33)).alloc (.cells (rowA n zF zF) 43)).alloc (.cells #[.int .i64 2, .int .i64 0, .int .i64 0, .string { data := #[] }, .bool false, .int .i64 0, .int .i64 0, .bool false, .int .i64 0, .slice (some ⟨w.heap.size + 1 + 1, 0, none⟩) n n, .int .i64 0, .int .i64 0, .string { data := #[] }] 33)).alloc (.cells #[.pointer (some ⟨b, 0, none⟩)] 133)) b F T n d fl lg wh ct du := At.alloc (At.alloc (At.alloc (At.alloc (At.alloc hT _) _) _) _) _
  have hB0 : Below w.heap.size w (((((w.alloc (.cells #[.pointer (some ⟨b, 0, none⟩)] 25)).alloc (.cells #[.int .i64 0, .int .i64 0, .int .i64 0, .string { data := #[] }, .bool false, .int .i64 0, .int .i64 0, .bool false, .int .i64 0, .slice none 0 0, .int .i64 0, .int .i64 0, .string { data := #[] }] 33)).alloc (.cells (rowA n zF zF) 43)).alloc (.cells #[.int .i64 2, .int .i64 0, .int .i64 0, .string { data := #[] }, .bool false, .int .i64 0, .int .i64 0, .bool false, .int .i64 0, .slice (some ⟨w.heap.size + 1 + 1, 0, none⟩) n n, .int .i64 0, .int .i64 0, .string { data := #[] }] 33)).alloc (.cells #[.pointer (some ⟨b, 0, none⟩)] 133)) := (((((Below.refl _ w).alloc (Nat.le_refl _) _).alloc (by simp) _).alloc (by simp; omega) _).alloc (by simp; omega) _).alloc (by simp; omega) _
  have hsz : (((((w.alloc (.cells #[.pointer (some ⟨b, 0, none⟩)] 25)).alloc (.cells #[.int .i64 0, .int .i64 0, .int .i64 0, .string { data := #[] }, .bool false, .int .i64 0, .int .i64 0, .bool false, .int .i64 0, .slice none 0 0, .int .i64 0, .int .i64 0, .string { data := #[] }] 33)).alloc (.cells (rowA n zF zF) 43)).alloc (.cells #[.int .i64 2, .int .i64 0, .int .i64 0, .string { data := #[] }, .bool false, .int .i64 0, .int .i64 0, .bool false, .int .i64 0, .slice (some ⟨w.heap.size + 1 + 1, 0, none⟩) n n, .int .i64 0, .int .i64 0, .string { data := #[] }] 33)).alloc (.cells #[.pointer (some ⟨b, 0, none⟩)] 133)).heap.size = w.heap.size + 5 := by simp
  have HT0 := Lib.hid hT0
  have HB0 := Lib.hid hB0
  have HSZ := Lib.hid hsz
  have BT := Lib.hid bT
  have BR := Lib.hid bR
  have BF := Lib.hid bF
  have BV := Lib.hid bV
  have BQ := Lib.hid bQ
  clear hT hT0 hB0 hsz bT bR bF bV bQ
  refine callsIn_of_wp_marks Try.func16 rfl trivial ?_ hro
  simp only [Try.ntmps16, List.size_toArray, List.length_cons, List.length_nil, Nat.reduceAdd, Nat.reduceSub, Array.replicate_succ, Array.replicate_zero, List.push_toArray, List.append_toArray, List.nil_append, List.cons_append]
  gi_wp2_with fail
  refine ⟨trivial, ?_⟩
  refine (all_inA Fence.wide 2 trivial hro _ _).mono ?_
  rintro e w' ⟨rfl, rfl⟩
  clear hcn hcw hmk
  gi_wp2_with fail
  obtain ⟨W0, hW0⟩ : ∃ W0, (((((w.alloc (.cells #[.pointer (some ⟨b, 0, none⟩)] 25)).alloc (.cells #[.int .i64 0, .int .i64 0, .int .i64 0, .string { data := #[] }, .bool false, .int .i64 0, .int .i64 0, .bool false, .int .i64 0, .slice none 0 0, .int .i64 0, .int .i64 0, .string { data := #[] }] 33)).alloc (.cells (rowA n zF zF) 43)).alloc (.cells #[.int .i64 2, .int .i64 0, .int .i64 0, .string { data := #[] }, .bool false, .int .i64 0, .int .i64 0, .bool false, .int .i64 0, .slice (some ⟨w.heap.size + 1 + 1, 0, none⟩) n n, .int .i64 0, .int .i64 0, .string { data := #[] }] 33)).alloc (.cells #[.pointer (some ⟨b, 0, none⟩)] 133)) = W0 := ⟨_, rfl⟩
  rw [hW0] at HT0 HB0 HSZ BT BR BF BV BQ ⊢
  clear hW0
  have hT0 := HT0.out
  have hB0 := HB0.out
  have hsz := HSZ.out
  have bT := BT.out
  have bR := BR.out
  have bF := BF.out
  have bV := BV.out
  have bQ := BQ.out
  clear HT0 HB0 HSZ BT BR BF BV BQ
  refine wpIn_rangeFunc_ownH hro h1' (gf := 75) (lb := #[.pointer (some ⟨w.heap.size + 1 + 1 + 1 + 1, 0, none⟩)]) rfl trivial (enters_of Try.func75 (by kernel_rfl) rfl)
    (allF_stops Fence.wide 2 trivial hro (by omega) (w.heap.size + 1 + 1 + 1 + 1) b F T n d fl lg wh ct du hn W0 (by omega) (by omega) (bV.cell 0 rfl) hT0) (fun h k => TwoA.trans h k) (TwoA.put (by omega) (by omega)) (Below.refl _ _) (fun _ => rfl)
    (fun pre W => ((At W w.heap.size 25 #[.pointer (some ⟨b, 0, none⟩)] ∧ At W (w.heap.size + 1 + 1) 43 (rowA n (revG n F pre) (revG n T pre)) ∧ At W (w.heap.size + 1 + 1 + 1) 33 #[.int .i64 2, .int .i64 0, .int .i64 0, .string { data := #[] }, .bool false, .int .i64 0, .int .i64 0, .bool false, .int .i64 0, .slice (some ⟨w.heap.size + 1 + 1, 0, none⟩) n n, .int .i64 0, .int .i64 0, .string { data := #[] }] ∧ At W (w.heap.size + 1 + 1 + 1 + 1) 133 #[.pointer (some ⟨b, 0, none⟩)] ∧ At W (w.heap.size + 1) 33 #[.int .i64 0, .int .i64 0, .int .i64 0, .string { data := #[] }, .bool false, .int .i64 0, .int .i64 0, .bool false, .int .i64 0, .slice none 0 0, .int .i64 0, .int .i64 0, .string { data := #[] }] ∧ Trk W b F T n d fl lg wh ct du) ∧ Below w.heap.size w W))
    (fun _ _ _ => False)
    (OwnFrom.and (OwnFrom.and (Own.from (at_own _ _ _) _) (OwnFrom.and (Own.from (at_own _ _ _) _) (OwnFrom.and (Own.from (at_own _ _ _) _) (OwnFrom.and (Own.from (at_own _ _ _) _) (OwnFrom.and (Own.from (at_own _ _ _) _) (Own.from (at_own _ _ _) _)))))) (ownFrom_below (Nat.le_refl _) (by omega)))
    (fun _ _ _ _ _ hs _ _ => hs)
    ⟨⟨bT, by rw [revG_nil, revG_nil]; exact bR, bF, bV, bQ, hT0⟩, hB0⟩
    (fun x a' W => ∃ Bx, w.heap.size + 4 < Bx ∧ At W Bx 43 #[.int .i64 (F x.1), .int .i64 (T x.1)] ∧ a' = { tmps := #[.pointer (some ⟨b, 0, none⟩), .int .i64 now, .pointer (some ⟨w.heap.size, 0, none⟩), undef, .pointer (some ⟨w.heap.size + 1, 0, none⟩), .bool false, .pointer (some ⟨w.heap.size + 1 + 1 + 1, 0, none⟩), .int .i64 x.1, .pointer (some ⟨Bx, 0, none⟩), .pointer (some ⟨b, 0, none⟩), .bool false, .bool false, .pointer (some ⟨b, 0, none⟩), .pointer (some ⟨b, 0, none⟩), .pointer (some ⟨b, 0, none⟩), .pointer (some ⟨b, 34, none⟩), .int .i64 n, .bool false, .bool false, undef, .pointer (some ⟨b, 0, none⟩), .pointer (some ⟨b, 0, none⟩), .pointer (some ⟨b, 0, none⟩), .pointer (some ⟨b, 34, none⟩), .int .i64 n, .slice (some ⟨w.heap.size + 1 + 1, 0, none⟩) n n, .agg #[.int .i64 2, .int .i64 0, .int .i64 0, .string { data := #[] }, .bool false, .int .i64 0, .int .i64 0, .bool false, .int .i64 0, .slice (some ⟨w.heap.size + 1 + 1, 0, none⟩) n n, .int .i64 0, .int .i64 0, .string { data := #[] }], .int .i64 now, .pointer (some ⟨b, 0, none⟩), .pointer (some ⟨b, 0, none⟩), .pointer (some ⟨b, 38, none⟩), .int .i64 wh, .bool false, undef, undef, undef, undef, undef, undef, undef, .pointer (some ⟨b, 0, none⟩), .pointer (some ⟨b, 0, none⟩), .pointer (some ⟨b, 0, none⟩), .func (.func 75) #[] #[.pointer (some ⟨w.heap.size + 1 + 1 + 1 + 1, 0, none⟩)], .int .i64 x.1, .agg #[.int .i64 (F x.1), .int .i64 (T x.1)], undef, undef, undef, undef, undef, undef, undef, undef, undef, undef, undef, undef, undef], defers := [] })
    (fun x a' _ X Y row hs hg hr => by obtain ⟨Bx, h1, h2, h3⟩ := hs; exact ⟨Bx, h1, at_own Bx 43 (fun (_ : Unit) => #[.int .i64 (F x.1), .int .i64 (T x.1)]) () X Y row h2 hg (fun r e => (hr r e).2), h3⟩)
    ?assign ?body ?done ?stop
  case assign =>
    rintro l pre x W K ⟨⟨bT1, bR1, bF1, bV1, bQ1, hT1⟩, hB1⟩ hK
    have hs1 := bV1.lt
    simp only [spanOf]
    gi_wp2
    exact hK _ _ ((KeepsOthers.alloc _ _).from _) (TwoA.of_below ((Below.refl _ W).alloc (Nat.le_refl _) _) (by omega) (by omega)) ⟨⟨bT1.alloc _, bR1.alloc _, bF1.alloc _, bV1.alloc _, bQ1.alloc _, At.alloc hT1 _⟩, hB1.alloc hB1.size _⟩ ⟨W.heap.size, by omega, At.new _ _ _, rfl⟩
  case body =>
    rintro l pre x a' W hl ⟨r, hr⟩ ⟨⟨bT1, bR1, bF1, bV1, bQ1, hT1⟩, hB1⟩ ⟨Bx, hBx, bX, rfl⟩ hlt
    obtain ⟨k, hk⟩ := x
    have c1 : W.cell? ⟨w.heap.size, 0, none⟩ = some (.pointer (some ⟨b, 0, none⟩)) := bT1.cell 0 rfl
    have c2 : W.cell? ⟨w.heap.size + 1 + 1 + 1, 9, none⟩ = some (.slice (some ⟨w.heap.size + 1 + 1, 0, none⟩) n n) := bF1.cell 9 rfl
    have c3 : W.cell? ⟨Bx, 0, none⟩ = some (.int .i64 (F k)) := bX.cell 0 rfl
    have c4 : W.cell? ⟨Bx, 1, none⟩ = some (.int .i64 (T k)) := bX.cell 1 rfl
    have c5 := hT1.gn
    have c6 : W.cell? ⟨w.heap.size + 1 + 1, (n - 1 - k) * 2, none⟩ = some (.int .i64 (revG n F pre (n - 1 - k))) := bR1.cell _ (rowA_G _ _ _ _ (by omega))
    have c7 : W.cell? ⟨w.heap.size + 1 + 1, (n - 1 - k) * 2 + 1, none⟩ = some (.int .i64 (revG n T pre (n - 1 - k))) := bR1.cell _ (rowA_H _ _ _ _ (by omega))
    have f6 : W.frozen? ⟨w.heap.size + 1 + 1, (n - 1 - k) * 2, none⟩ = false := bR1.free _
    have f7 : W.frozen? ⟨w.heap.size + 1 + 1, (n - 1 - k) * 2 + 1, none⟩ = false := bR1.free _
    have e1 : IntKind.i64.wrap ((n : Int) - 1) = (n : Int) - 1 := IntWalk.i64_in _ (by omega)
    have e2 : IntKind.i64.wrap ((n : Int) - 1 - (k : Int)) = (n : Int) - 1 - (k : Int) := IntWalk.i64_in _ (by omega)
    have i1 : (0 : Int) ≤ (n : Int) - 1 - (k : Int) := by omega
    have i2 : (n : Int) - 1 - (k : Int) < (n : Int) := by omega
    have i4 : (k : Int) ≤ (n : Int) - 1 := by omega
    have i3 : ((n : Int) - 1 - (k : Int)).toNat = n - 1 - k := by omega
    have HB := Lib.hid (And.intro bT1 (And.intro bR1 (And.intro bF1 (And.intro bV1 (And.intro bQ1 hT1)))))
    clear bT1 bR1 bF1 bV1 bQ1 hT1 bX
    gi_wp2
    refine wpIn_region_still_tail 12 (by kernel_rfl) (by kernel_rfl) (by kernel_rfl) ?_
    simp only [List.take_succ_cons, List.take_zero, List.drop_succ_cons, List.drop_zero]
    repeat still_step
    try refine wpStill_nil ?_
    go_wp2
    refine ⟨by simp, ?_⟩
    gi_wp2
    obtain ⟨bT1, bR1, bF1, bV1, bQ1, hT1⟩ := HB.out
    have hbl := At.lt hT1
    have hB2 := (hB1.setCell (p := ⟨w.heap.size + 1 + 1, (n - 1 - k) * 2, none⟩) (by simp; omega) (.int .i64 (F k))).setCell (p := ⟨w.heap.size + 1 + 1, (n - 1 - k) * 2 + 1, none⟩) (by simp; omega) (.int .i64 (T k))
    have hfar : ∀ g, g ≠ w.heap.size + 1 + 1 → ((W.setCell ⟨w.heap.size + 1 + 1, (n - 1 - k) * 2, none⟩ (.int .i64 (F k))).setCell ⟨w.heap.size + 1 + 1, (n - 1 - k) * 2 + 1, none⟩ (.int .i64 (T k))).heap[g]? = W.heap[g]? := fun g hg => (Below.heap_setCell _ _ _ g hg).trans (Below.heap_setCell _ _ _ g hg)
    have hrow := (bR1.set _ _ (rowA_setG n (revG n F pre) (revG n T pre) (n - 1 - k) (by omega) (F k))).set _ _ (rowA_setH n _ (revG n T pre) (n - 1 - k) (by omega) (T k))
    exact ⟨(((KeepsOthers.setCell W _ _).trans (KeepsOthers.setCell _ _ _)).trans (KeepsOthers.drew _)).from _, ⟨hfar b (by omega), hfar _ (by omega)⟩, ⟨(hfar _ (by omega)).trans bT1, by rw [revG_snoc, revG_snoc]; exact hrow, (hfar _ (by omega)).trans bF1, (hfar _ (by omega)).trans bV1, (hfar _ (by omega)).trans bQ1, (hfar b (by omega)).trans hT1⟩, hB2.drew⟩
  case done =>
    rintro D zs W hD rfl ⟨⟨bT1, bR1, bF1, bV1, bQ1, hT1⟩, hB1⟩ hK
    rw [rowA_all] at bR1
    have a0 : W.cell? ⟨w.heap.size + 1 + 1 + 1, 0, none⟩ = some (.int .i64 2) := bF1.cell 0 rfl
    have z0 : W.cell? ⟨w.heap.size + 1, 0, none⟩ = some (.int .i64 0) := bQ1.cell 0 rfl
    have f0 : W.frozen? ⟨w.heap.size + 1, 0, none⟩ = false := bQ1.free 0
    have a1 : W.cell? ⟨w.heap.size + 1 + 1 + 1, 1, none⟩ = some (.int .i64 0) := bF1.cell 1 rfl
    have z1 : W.cell? ⟨w.heap.size + 1, 1, none⟩ = some (.int .i64 0) := bQ1.cell 1 rfl
    have f1 : W.frozen? ⟨w.heap.size + 1, 1, none⟩ = false := bQ1.free 1
    have a2 : W.cell? ⟨w.heap.size + 1 + 1 + 1, 2, none⟩ = some (.int .i64 0) := bF1.cell 2 rfl
    have z2 : W.cell? ⟨w.heap.size + 1, 2, none⟩ = some (.int .i64 0) := bQ1.cell 2 rfl
    have f2 : W.frozen? ⟨w.heap.size + 1, 2, none⟩ = false := bQ1.free 2
    have a3 : W.cell? ⟨w.heap.size + 1 + 1 + 1, 3, none⟩ = some (.string { data := #[] }) := bF1.cell 3 rfl
    have z3 : W.cell? ⟨w.heap.size + 1, 3, none⟩ = some (.string { data := #[] }) := bQ1.cell 3 rfl
    have f3 : W.frozen? ⟨w.heap.size + 1, 3, none⟩ = false := bQ1.free 3
    have a4 : W.cell? ⟨w.heap.size + 1 + 1 + 1, 4, none⟩ = some (.bool false) := bF1.cell 4 rfl
    have z4 : W.cell? ⟨w.heap.size + 1, 4, none⟩ = some (.bool false) := bQ1.cell 4 rfl
    have f4 : W.frozen? ⟨w.heap.size + 1, 4, none⟩ = false := bQ1.free 4
    have a5 : W.cell? ⟨w.heap.size + 1 + 1 + 1, 5, none⟩ = some (.int .i64 0) := bF1.cell 5 rfl
    have z5 : W.cell? ⟨w.heap.size + 1, 5, none⟩ = some (.int .i64 0) := bQ1.cell 5 rfl
    have f5 : W.frozen? ⟨w.heap.size + 1, 5, none⟩ = false := bQ1.free 5
    have a6 : W.cell? ⟨w.heap.size + 1 + 1 + 1, 6, none⟩ = some (.int .i64 0) := bF1.cell 6 rfl
    have z6 : W.cell? ⟨w.heap.size + 1, 6, none⟩ = some (.int .i64 0) := bQ1.cell 6 rfl
    have f6 : W.frozen? ⟨w.heap.size + 1, 6, none⟩ = false := bQ1.free 6
    have a7 : W.cell? ⟨w.heap.size + 1 + 1 + 1, 7, none⟩ = some (.bool false) := bF1.cell 7 rfl
    have z7 : W.cell? ⟨w.heap.size + 1, 7, none⟩ = some (.bool false) := bQ1.cell 7 rfl
    have f7 : W.frozen? ⟨w.heap.size + 1, 7, none⟩ = false := bQ1.free 7
    have a8 : W.cell? ⟨w.heap.size + 1 + 1 + 1, 8, none⟩ = some (.int .i64 0) := bF1.cell 8 rfl
    have z8 : W.cell? ⟨w.heap.size + 1, 8, none⟩ = some (.int .i64 0) := bQ1.cell 8 rfl
    have f8 : W.frozen? ⟨w.heap.size + 1, 8, none⟩ = false := bQ1.free 8
    have a9 : W.cell? ⟨w.heap.size + 1 + 1 + 1, 9, none⟩ = some (.slice (some ⟨w.heap.size + 1 + 1, 0, none⟩) n n) := bF1.cell 9 rfl
    have z9 : W.cell? ⟨w.heap.size + 1, 9, none⟩ = some (.slice none 0 0) := bQ1.cell 9 rfl
    have f9 : W.frozen? ⟨w.heap.size + 1, 9, none⟩ = false := bQ1.free 9
    have a10 : W.cell? ⟨w.heap.size + 1 + 1 + 1, 10, none⟩ = some (.int .i64 0) := bF1.cell 10 rfl
    have z10 : W.cell? ⟨w.heap.size + 1, 10, none⟩ = some (.int .i64 0) := bQ1.cell 10 rfl
    have f10 : W.frozen? ⟨w.heap.size + 1, 10, none⟩ = false := bQ1.free 10
    have a11 : W.cell? ⟨w.heap.size + 1 + 1 + 1, 11, none⟩ = some (.int .i64 0) := bF1.cell 11 rfl
    have z11 : W.cell? ⟨w.heap.size + 1, 11, none⟩ = some (.int .i64 0) := bQ1.cell 11 rfl
    have f11 : W.frozen? ⟨w.heap.size + 1, 11, none⟩ = false := bQ1.free 11
    have a12 : W.cell? ⟨w.heap.size + 1 + 1 + 1, 12, none⟩ = some (.string { data := #[] }) := bF1.cell 12 rfl
    have z12 : W.cell? ⟨w.heap.size + 1, 12, none⟩ = some (.string { data := #[] }) := bQ1.cell 12 rfl
    have f12 : W.frozen? ⟨w.heap.size + 1, 12, none⟩ = false := bQ1.free 12
    gi_wp2
    have k0 := KeepsOthers.setCell W ⟨w.heap.size + 1, 0, none⟩ (.int .i64 2)
    have q0 := bQ1.set 0 (.int .i64 2) rfl
    have r0 := bR1.far (p := ⟨w.heap.size + 1, 0, none⟩) (by simp) (.int .i64 2)
    have b0 := hB1.setCell (p := ⟨w.heap.size + 1, 0, none⟩) (by simp) (.int .i64 2)
    have k1 := k0.trans (KeepsOthers.setCell _ ⟨w.heap.size + 1, 1, none⟩ (.int .i64 0))
    have q1 := q0.set 1 (.int .i64 0) rfl
    have r1 := r0.far (p := ⟨w.heap.size + 1, 1, none⟩) (by simp) (.int .i64 0)
    have b1 := b0.setCell (p := ⟨w.heap.size + 1, 1, none⟩) (by simp) (.int .i64 0)
    have k2 := k1.trans (KeepsOthers.setCell _ ⟨w.heap.size + 1, 2, none⟩ (.int .i64 0))
    have q2 := q1.set 2 (.int .i64 0) rfl
    have r2 := r1.far (p := ⟨w.heap.size + 1, 2, none⟩) (by simp) (.int .i64 0)
    have b2 := b1.setCell (p := ⟨w.heap.size + 1, 2, none⟩) (by simp) (.int .i64 0)
    have k3 := k2.trans (KeepsOthers.setCell _ ⟨w.heap.size + 1, 3, none⟩ (.string { data := #[] }))
    have q3 := q2.set 3 (.string { data := #[] }) rfl
    have r3 := r2.far (p := ⟨w.heap.size + 1, 3, none⟩) (by simp) (.string { data := #[] })
    have b3 := b2.setCell (p := ⟨w.heap.size + 1, 3, none⟩) (by simp) (.string { data := #[] })
    have k4 := k3.trans (KeepsOthers.setCell _ ⟨w.heap.size + 1, 4, none⟩ (.bool false))
    have q4 := q3.set 4 (.bool false) rfl
    have r4 := r3.far (p := ⟨w.heap.size + 1, 4, none⟩) (by simp) (.bool false)
    have b4 := b3.setCell (p := ⟨w.heap.size + 1, 4, none⟩) (by simp) (.bool false)
    have k5 := k4.trans (KeepsOthers.setCell _ ⟨w.heap.size + 1, 5, none⟩ (.int .i64 0))
    have q5 := q4.set 5 (.int .i64 0) rfl
    have r5 := r4.far (p := ⟨w.heap.size + 1, 5, none⟩) (by simp) (.int .i64 0)
    have b5 := b4.setCell (p := ⟨w.heap.size + 1, 5, none⟩) (by simp) (.int .i64 0)
    have k6 := k5.trans (KeepsOthers.setCell _ ⟨w.heap.size + 1, 6, none⟩ (.int .i64 0))
    have q6 := q5.set 6 (.int .i64 0) rfl
    have r6 := r5.far (p := ⟨w.heap.size + 1, 6, none⟩) (by simp) (.int .i64 0)
    have b6 := b5.setCell (p := ⟨w.heap.size + 1, 6, none⟩) (by simp) (.int .i64 0)
    have k7 := k6.trans (KeepsOthers.setCell _ ⟨w.heap.size + 1, 7, none⟩ (.bool false))
    have q7 := q6.set 7 (.bool false) rfl
    have r7 := r6.far (p := ⟨w.heap.size + 1, 7, none⟩) (by simp) (.bool false)
    have b7 := b6.setCell (p := ⟨w.heap.size + 1, 7, none⟩) (by simp) (.bool false)
    have k8 := k7.trans (KeepsOthers.setCell _ ⟨w.heap.size + 1, 8, none⟩ (.int .i64 0))
    have q8 := q7.set 8 (.int .i64 0) rfl
    have r8 := r7.far (p := ⟨w.heap.size + 1, 8, none⟩) (by simp) (.int .i64 0)
    have b8 := b7.setCell (p := ⟨w.heap.size + 1, 8, none⟩) (by simp) (.int .i64 0)
    have k9 := k8.trans (KeepsOthers.setCell _ ⟨w.heap.size + 1, 9, none⟩ (.slice (some ⟨w.heap.size + 1 + 1, 0, none⟩) n n))
    have q9 := q8.set 9 (.slice (some ⟨w.heap.size + 1 + 1, 0, none⟩) n n) rfl
    have r9 := r8.far (p := ⟨w.heap.size + 1, 9, none⟩) (by simp) (.slice (some ⟨w.heap.size + 1 + 1, 0, none⟩) n n)
    have b9 := b8.setCell (p := ⟨w.heap.size + 1, 9, none⟩) (by simp) (.slice (some ⟨w.heap.size + 1 + 1, 0, none⟩) n n)
    have k10 := k9.trans (KeepsOthers.setCell _ ⟨w.heap.size + 1, 10, none⟩ (.int .i64 0))
    have q10 := q9.set 10 (.int .i64 0) rfl
    have r10 := r9.far (p := ⟨w.heap.size + 1, 10, none⟩) (by simp) (.int .i64 0)
    have b10 := b9.setCell (p := ⟨w.heap.size + 1, 10, none⟩) (by simp) (.int .i64 0)
    have k11 := k10.trans (KeepsOthers.setCell _ ⟨w.heap.size + 1, 11, none⟩ (.int .i64 0))
    have q11 := q10.set 11 (.int .i64 0) rfl
    have r11 := r10.far (p := ⟨w.heap.size + 1, 11, none⟩) (by simp) (.int .i64 0)
    have b11 := b10.setCell (p := ⟨w.heap.size + 1, 11, none⟩) (by simp) (.int .i64 0)
    have k12 := k11.trans (KeepsOthers.setCell _ ⟨w.heap.size + 1, 12, none⟩ (.string { data := #[] }))
    have q12 := q11.set 12 (.string { data := #[] }) rfl
    have r12 := r11.far (p := ⟨w.heap.size + 1, 12, none⟩) (by simp) (.string { data := #[] })
    have b12 := b11.setCell (p := ⟨w.heap.size + 1, 12, none⟩) (by simp) (.string { data := #[] })
    have hK' := k12.same D _ hK rfl
    refine ⟨by simp, .inl ⟨_, _, rfl, run_takeDeferred hK', ?_⟩⟩
    have qq := at_put q12 (.deferred none) hK' rfl
    have u0 := qq.cell 0 (v := .int .i64 2) rfl
    have u1 := qq.cell 1 (v := .int .i64 0) rfl
    have u2 := qq.cell 2 (v := .int .i64 0) rfl
    have u3 := qq.cell 3 (v := .string { data := #[] }) rfl
    have u4 := qq.cell 4 (v := .bool false) rfl
    have u5 := qq.cell 5 (v := .int .i64 0) rfl
    have u6 := qq.cell 6 (v := .int .i64 0) rfl
    have u7 := qq.cell 7 (v := .bool false) rfl
    have u8 := qq.cell 8 (v := .int .i64 0) rfl
    have u9 := qq.cell 9 (v := .slice (some ⟨w.heap.size + 1 + 1, 0, none⟩) n n) rfl
    have u10 := qq.cell 10 (v := .int .i64 0) rfl
    have u11 := qq.cell 11 (v := .int .i64 0) rfl
    have u12 := qq.cell 12 (v := .string { data := #[] }) rfl
    refine ⟨.tuple #[.agg #[.int .i64 2, .int .i64 0, .int .i64 0, .string { data := #[] }, .bool false, .int .i64 0, .int .i64 0, .bool false, .int .i64 0, .slice (some ⟨w.heap.size + 1 + 1, 0, none⟩) n n, .int .i64 0, .int .i64 0, .string { data := #[] }], .bool true], ?_, w.heap.size + 1 + 1, rfl, at_put r12 _ hK' rfl, by omega, b12.trans (belowK_b (w := w) (Nat.le_refl _) _ D _ _ (by omega) hK' rfl rfl)⟩
    simp [results, Try.f16, go_sem, u0, u1, u2, u3, u4, u5, u6, u7, u8, u9, u10, u11, u12]
  case stop =>
    rintro D c pre W _ _ h _
    exact h.elim
end Go.Proofs.Ytmmgmpghkpbgkaa
