/- The iterator over the indexes of a piece that lie in the window: what it hands to whatever loop body. -/
import Derived.RangeFuncNested
import Derived.RangeFuncBound
import Derived.RangeFuncCalls
import Derived.RangeFuncLeaves
import Derived.RangeFuncBox
import Derived.Shelf.Abstract
import Derived.Shelf.RegionOpen
import Derived.WalkKit
import Derived.OwnWalkIn
import Derived.TacticsInMore
import Derived.LoopNIn
import Derived.LoopIn
import Derived.Scope
import Derived.WalkMore
import Derived.Sort.QuietIn
import Derived.Test.YtgiekhohhogdiaaDoorRgC
import Derived.StillTailTactics
namespace Go.Proofs.YtgiekhohhogdiaaDoor
open Go Go.RowKit Go.Shelf
set_option linter.unusedVariables false
set_option linter.unusedSectionVars false
set_option linter.unusedSimpArgs false
attribute [local go_sem] Oper.semAt_some

theorem stepR_scope' {P : Program} {b : Frame} {a : Act} {k : List Item} {cs : List Frame} {w : World} {c : Code} : step P (lone (b.atR a (.code (.scope c) :: k)) cs w) = .next (lone (b.atR a (.code c :: .inScope c :: k)) cs w) :=
  step_lone_go (by simp [stepG, stepG.exec, Frame.atR])
theorem stepR_inScope' {P : Program} {b : Frame} {a : Act} {k : List Item} {cs : List Frame} {w : World} {c : Code} : step P (lone (b.atR a (.inScope c :: k)) cs w) = .next (lone (b.atR a k) cs w) :=
  step_lone_go (by simp [stepG, stepG.exec, Frame.atR])
/-- A scope through which the run goes without a goto, inside a fence. -/
theorem wpIn_scope_straight' {F : Fence} {n : Nat} {P : Program} {Q : Exit → Act → World → Prop} {a : Act} {w : World} {c : Code} (h : c.wpIn F n P (Exit.noGoto Q) a w) : (Code.scope c).wpIn F n P Q a w := by
  intro b k cs hro hb hr
  have h0 : (lone (b.atR a (.code (.scope c) :: k)) cs w).fenced P F := fenced_calm hb hr rfl
  obtain ⟨e, a₁, w₁, hq, harr⟩ := h b (.inScope c :: k) cs hro hb hr
  cases e with
  | normal => exact ⟨.normal, a₁, w₁, hq, .head h0 stepR_scope' (StepsIn.trans harr (.one (fenced_calm hb hr rfl) stepR_inScope'))⟩
  | exit id =>
    have hx : exitTo id (.inScope c :: k) = exitTo id k := by simp [exitTo]
    exact ⟨.exit id, a₁, w₁, hq, fun k' hk => .head h0 stepR_scope' (harr.1 k' (by rw [hx]; exact hk)),
      fun hr' hk => let ⟨k₁, h1, h2⟩ := harr.2 hr' (by rw [hx]; exact hk); ⟨k₁, h1, .head h0 stepR_scope' h2⟩⟩
  | goto l => exact hq.elim
  | ret => exact ⟨_, a₁, w₁, hq, .of_steps (.one h0 stepR_scope') harr⟩
  | panic ch => exact ⟨_, a₁, w₁, hq, .of_steps (.one h0 stepR_scope') harr⟩
  | outgrown => exact ⟨_, a₁, w₁, hq, .of_steps (.one h0 stepR_scope') harr⟩

/-- Where the piece begins in itself, and in the window; how many of its bytes lie in the window. -/
def ov0 (pos off : Int) : Nat := (pos - off).toNat
def ov1 (pos off : Int) : Nat := (off - pos).toNat
def ovN (n len : Nat) (pos off : Int) : Nat := min (len - ov0 pos off) (n - ov1 pos off)
theorem ov_eq (pos off : Int) : off + ov0 pos off = pos + ov1 pos off := by unfold ov0 ov1; omega
theorem ov_lt {n len j : Nat} {pos off : Int} (h : j < ovN n len pos off) : ov0 pos off + j < len ∧ ov1 pos off + j < n := by unfold ovN at h; omega

/-- The blocks b, c, d are as they were. -/
def Tri (b c d : Nat) (W W' : World) : Prop := W'.heap[b]? = W.heap[b]? ∧ W'.heap[c]? = W.heap[c]? ∧ W'.heap[d]? = W.heap[d]?
theorem Tri.refl (b c d : Nat) (W : World) : Tri b c d W W := ⟨rfl, rfl, rfl⟩
theorem Tri.trans {b c d : Nat} {A B C : World} (h : Tri b c d A B) (k : Tri b c d B C) : Tri b c d A C := ⟨k.1.trans h.1, k.2.1.trans h.2.1, k.2.2.trans h.2.2⟩
theorem Tri.put {b c d n : Nat} (hb : b < n) (hc : c < n) (hd : d < n) (W : World) (l : Nat) (o o' : Obj) (hl : n ≤ l) (_h : W.heap[l]? = some o) (_h1 : o.isCells = false) (_h2 : o.isWalk = false) : Tri b c d W (W.putObj l o') :=
  ⟨World.putObj_heap_other (by omega), World.putObj_heap_other (by omega), World.putObj_heap_other (by omega)⟩
theorem Tri.of_below {b c d n : Nat} {W W' : World} (h : Below n W W') (hb : b < n) (hc : c < n) (hd : d < n) : Tri b c d W W' := ⟨h.block b hb, h.block c hc, h.block d hd⟩
theorem Tri.at1 {b c d : Nat} {W W' : World} (h : Tri b c d W W') {i : Nat} {v : Value} (k : W.cell? ⟨b, i, none⟩ = some v) : W'.cell? ⟨b, i, none⟩ = some v := (World.cell?_of_block (w := W) h.1).trans k
theorem Tri.at2 {b c d : Nat} {W W' : World} (h : Tri b c d W W') {i : Nat} {v : Value} (k : W.cell? ⟨c, i, none⟩ = some v) : W'.cell? ⟨c, i, none⟩ = some v := (World.cell?_of_block (w := W) h.2.1).trans k
theorem Tri.at3 {b c d : Nat} {W W' : World} (h : Tri b c d W W') {i : Nat} {v : Value} (k : W.cell? ⟨d, i, none⟩ = some v) : W'.cell? ⟨d, i, none⟩ = some v := (World.cell?_of_block (w := W) h.2.2).trans k

set_option maxRecDepth 100000 in
set_option maxHeartbeats 2000000 in
theorem ov_in (m : Nat) (hm : 1 ≤ m) (l Bw Bp b g1 n : Nat) (pos off : Int) (s : ByteArray) (hn : n ≤ 8192) (hs : s.size ≤ 8192) (p0 : 0 ≤ pos) (p1 : pos ≤ 1099511627776) (q0 : 0 ≤ off) (q1 : off ≤ 1099511627776) (J Jx : Nat → World → Prop) (hD : ∀ j W k, J j W → J j (W.drewN k)) (hDx : ∀ j W k, Jx j W → Jx j (W.drewN k))
    (hY : ∀ j W, j < ovN n s.size pos off → J j W → YieldAt Fence.wide (m - 1) Tryd.prog l #[.int .i64 ((ov0 pos off + j : Nat) : Int), .int .i64 ((ov1 pos off + j : Nat) : Int)] W fun e W' =>
      (e = .returned (.bool true) ∧ J (j + 1) W' ∧ Tri b Bw Bp W W') ∨ (e = .returned (.bool false) ∧ Jx (j + 1) W'))
    (W : World) (hBw : W.cell? ⟨Bw, 0, none⟩ = some (.pointer (some ⟨b, 0, none⟩))) (hBo : W.cell? ⟨Bp, 0, none⟩ = some (.int .i64 off)) (hBs : W.cell? ⟨Bp, 1, none⟩ = some (.string s))
    (hc0 : W.cell? ⟨b, 0, none⟩ = some (.int .i64 pos)) (hc1 : W.cell? ⟨b, 1, none⟩ = some (.slice (some ⟨g1, 0, none⟩) n n)) (h0 : J 0 W) :
    CallsIn Fence.wide m Tryd.prog 79 #[.func (.yield l) #[] #[], .pointer (some ⟨Bw, 0, none⟩), .pointer (some ⟨Bp, 0, none⟩)] W fun e W' => (∃ v, e = .returned v) ∧
      (J (ovN n s.size pos off) W' ∨ (∃ k, k ≤ ovN n s.size pos off ∧ Jx k W')) := by
  have hmx : (if pos - off < 0 then 0 else pos - off) = ((ov0 pos off : Nat) : Int) := by unfold ov0; split <;> omega
  have hsp : IntKind.i64.wrap (pos - off) = pos - off := IntWalk.i64_in _ (by omega)
  refine callsIn_of_wp Tryd.func79 rfl trivial ?_ rfl
  simp only [Tryd.ntmps79, List.size_toArray, List.length_cons, List.length_nil, Nat.reduceAdd, Nat.reduceSub, Array.replicate_succ, Array.replicate_zero, List.push_toArray, List.append_toArray, List.nil_append, List.cons_append]
  gi_wp2
  apply wpIn_scope_straight'
  gi_wp2
  apply wpIn_label
  gi_wp2
  gi_quiet (fail)
  gi_wp2
  gi_loopw [4, 5] (fun i _ wr => ∃ j : Nat, j ≤ ovN n s.size pos off ∧ i = .int .i64 ((ov0 pos off + j : Nat) : Int) ∧ J j wr ∧ Tri b Bw Bp W wr)
    (fun i _ _ => ov0 pos off + ovN n s.size pos off - (intOf i).toNat)
  case atStart => exact ⟨0, Nat.zero_le _, rfl, hD _ _ _ h0, ⟨rfl, rfl, rfl⟩⟩
  case round =>
    obtain ⟨j, hj, rfl, hJs, hT⟩ := hrel
    have c0 := hT.at1 hc0
    have c1 := hT.at1 hc1
    have cw := hT.at2 hBw
    have co := hT.at3 hBo
    have cs := hT.at3 hBs
    clear hc0 hc1 hBw hBo hBs hmx hsp h0
    have hov := ov_eq pos off
    obtain ⟨iv, hiv⟩ : ∃ iv, ov0 pos off + j = iv := ⟨_, rfl⟩
    obtain ⟨kv, hkv⟩ : ∃ kv, ov1 pos off + j = kv := ⟨_, rfl⟩
    have ek : off + (iv : Int) - pos = kv := by omega
    have ei : IntKind.i64.wrap (off + (iv : Int)) = off + iv := IntWalk.i64_in _ (by unfold ovN ov0 at hj; unfold ov0 at hiv; omega)
    have ek2 : IntKind.i64.wrap (kv : Int) = kv := IntWalk.i64_in _ (by unfold ovN ov1 at hj; unfold ov1 at hkv; omega)
    have hiv1 : iv + 1 = ov0 pos off + (j + 1) := by omega
    have hi1 : (iv : Int) ≤ 2199023255553 := by unfold ovN ov0 at hj; unfold ov0 at hiv; omega
    by_cases hlt : j < ovN n s.size pos off
    · obtain ⟨hl1, hl2⟩ := ov_lt hlt
      rw [hiv] at hl1 ⊢
      rw [hkv] at hl2
      have hl1' : (iv : Int) < s.size := by omega
      have hl2' : (kv : Int) < n := by omega
      have hl2'' : decide ((n : Int) ≤ kv) = false := decide_eq_false (by omega)
      gi_wp2
      gi_quiet (fail)
      obtain ⟨fn, tmps, assign, body, hy, hR⟩ := hY j (wr.drewN nq) hlt (hD _ _ _ hJs)
      rw [hiv, hkv] at hy
      gi_wp2
      refine hR.mono ?_
      rintro e W3 (⟨rfl, hJ3, hk3⟩ | ⟨rfl, hJx3⟩)
      · gi_wp2
        exact ⟨⟨j + 1, by omega, by rw [← hiv1]; simp, hJ3, hT.trans (Tri.trans ⟨rfl, rfl, rfl⟩ hk3)⟩, by simp [intOf]; omega⟩
      · gi_wp2
        rw [Exit.noGoto_normal]
        go_end0
        exact ⟨⟨_, rfl⟩, .inr ⟨j + 1, by omega, hJx3⟩⟩
    · rw [hiv]
      by_cases hl1 : iv < s.size
      · have hl2 : ¬ kv < n := by unfold ovN at hlt hj; omega
        have hl1' : (iv : Int) < s.size := by omega
        have hl2' : (n : Int) ≤ kv := by omega
        obtain rfl : j = ovN n s.size pos off := by omega
        gi_wp2
        gi_quiet (fail)
        gi_wp2
        refine ⟨fun f h => (by cases h), ?_⟩
        gi_wp2
        first | rw [Exit.noGoto_normal] | skip
        go_end0
        exact ⟨⟨_, rfl⟩, .inl (hD _ _ _ hJs)⟩
      · have hl1' : ¬ (iv : Int) < s.size := by omega
        obtain rfl : j = ovN n s.size pos off := by omega
        gi_wp2
        go_end0
        exact ⟨⟨_, rfl⟩, .inl hJs⟩

theorem finTake_succ (n k : Nat) (h : k < n) : (List.finRange n).take (k + 1) = (List.finRange n).take k ++ [⟨k, h⟩] := by
  rw [List.take_succ_eq_append_getElem (by simpa using h)]
  simp
theorem grown_drewN' (w : World) (n : Nat) (row : Option Nat) : w.grownBy (w.drewN n) row := ⟨rfl, rfl, rfl, Nat.le_refl _, fun _ _ _ => rfl⟩
/-- What the body is handed: the index in the piece, the index in the window. -/
def ovP (pos off : Int) (j : Nat) : Array Value := #[.int .i64 ((ov0 pos off + j : Nat) : Int), .int .i64 ((ov1 pos off + j : Nat) : Int)]
theorem ov_stops (m : Nat) (hm : 1 ≤ m) (Bw Bp b g1 n : Nat) (pos off : Int) (s : ByteArray) (hn : n ≤ 8192) (hs : s.size ≤ 8192) (p0 : 0 ≤ pos) (p1 : pos ≤ 1099511627776) (q0 : 0 ≤ off) (q1 : off ≤ 1099511627776) (w : World)
    (hBw : w.cell? ⟨Bw, 0, none⟩ = some (.pointer (some ⟨b, 0, none⟩))) (hBo : w.cell? ⟨Bp, 0, none⟩ = some (.int .i64 off)) (hBs : w.cell? ⟨Bp, 1, none⟩ = some (.string s))
    (hc0 : w.cell? ⟨b, 0, none⟩ = some (.int .i64 pos)) (hc1 : w.cell? ⟨b, 1, none⟩ = some (.slice (some ⟨g1, 0, none⟩) n n)) :
    SeqStopsK Fence.wide m Tryd.prog 79 #[.pointer (some ⟨Bw, 0, none⟩), .pointer (some ⟨Bp, 0, none⟩)] (fun i : Fin (ovN n s.size pos off) => ovP pos off i.1) (Tri b Bw Bp) (fun ys => ys = List.finRange (ovN n s.size pos off))
      (fun pre => ∃ k, k ≤ ovN n s.size pos off ∧ pre = (List.finRange (ovN n s.size pos off)).take k) (ovN n s.size pos off) w := fun l J Jx W hW hJ hJx hY h0 => by
  have hb : b < w.heap.size := World.block_lt_of_cell? _ _ hc0
  have hw : Bw < w.heap.size := World.block_lt_of_cell? _ _ hBw
  have hp : Bp < w.heap.size := World.block_lt_of_cell? _ _ hBo
  have T := Tri.of_below hW hb hw hp
  refine (ov_in m hm l Bw Bp b g1 n pos off s hn hs p0 p1 q0 q1 (fun k => J ((List.finRange (ovN n s.size pos off)).take k)) (fun k => Jx ((List.finRange (ovN n s.size pos off)).take k)) (fun j W k h => hJ _ _ _ none h (grown_drewN' _ _ _) (fun r e => by cases e)) (fun j W k h => hJx _ _ _ none h (grown_drewN' _ _ _) (fun r e => by cases e)) ?_ W (T.at2 hBw) (T.at3 hBo) (T.at3 hBs) (T.at1 hc0) (T.at1 hc1) (by simpa using h0)).mono ?_
  · intro k W hk hJ
    rw [finTake_succ _ k hk]
    exact hY _ ⟨k, hk⟩ W hJ (by simp; omega)
  · rintro e W' ⟨h1, h2 | ⟨k, h3, h4⟩⟩
    · have h2' : J ((List.finRange (ovN n s.size pos off)).take (ovN n s.size pos off)) W' := h2
      rw [List.take_of_length_le (by simp)] at h2'
      exact ⟨h1, .inl ⟨_, rfl, h2'⟩⟩
    · exact ⟨h1, .inr ⟨_, ⟨k, h3, rfl⟩, h4⟩⟩
set_option maxHeartbeats 1000000 in
theorem overlap_in (m : Nat) (b : Nat) (off : Int) (s : ByteArray) (f : Bool) (w : World) :
    CallsIn Fence.wide m Tryd.prog 60 #[.pointer (some ⟨b, 0, none⟩), .agg #[.int .i64 off, .string s, .bool f]] w fun e w' => e = .returned (.func (.func 79) #[] #[.pointer (some ⟨w.heap.size, 0, none⟩), .pointer (some ⟨w.heap.size + 1, 0, none⟩)]) ∧ w' = (w.alloc (.cells #[.pointer (some ⟨b, 0, none⟩)] 89)).alloc (.cells #[.int .i64 off, .string s, .bool f] 66) := by
  refine callsIn_of_wp Tryd.func60 rfl trivial ?_ rfl
  simp only [Tryd.ntmps60, List.size_toArray, List.length_cons, List.length_nil, Nat.reduceAdd, Nat.reduceSub, Array.replicate_succ, Array.replicate_zero, List.push_toArray, List.append_toArray, List.nil_append, List.cons_append]
  gi_wp2
  go_ret
  exact ⟨rfl, rfl⟩
end Go.Proofs.YtgiekhohhogdiaaDoor
/- A drawing region of loads before one store, inside a fence (a round of a range over a function too). -/
namespace Go.Proofs.YtgiekhohhogdiaaDoor
open Go Go.RowKit Go.Shelf
set_option linter.unusedVariables false
set_option linter.unusedSimpArgs false

def calmOp (o : Oper) : Bool := match o.op with
  | .move _ | .pick _ _ _ | .index _ _ _ | .unOp _ _ _ | .load _ _ | .store _ _ _ | .binOp _ _ _ _ _ | .fieldAddr _ _ _ | .indexAddr _ _ _ | .convert _ _ _ | .alloc _ => true
  | .nilCheck _ => true
  | _ => false

def calmRes : Result Next → Prop
  | .ok (.value _) _ => True
  | .ok .skip _ => True
  | .ok _ _ => False
  | .halt _ _ => True

theorem calm_v {s : Sem Value} (P : Program) (w : World) : calmRes ((do pure (.value (← s)) : Sem Next).run P w) := by
  rw [Sem.run_bind]
  cases s.run P w <;> simp [calmRes]
theorem calm_u {s : Sem Unit} (P : Program) (w : World) : calmRes ((do s; pure .skip : Sem Next).run P w) := by
  rw [Sem.run_bind]
  cases s.run P w <;> simp [calmRes]

theorem calm_next {o : Oper} (h : calmOp o = true) (hn : ∀ x, o.op ≠ .nilCheck x) (ρ : Operand → Value) (P : Program) (w : World) : calmRes ((execOp ρ o).run P w) := by
  unfold execOp
  unfold calmOp at h
  cases ho : o.op <;> simp only [ho] at h hn ⊢ <;> first | contradiction | exact calm_v P w | exact calm_u P w | exact absurd rfl (hn _) | (simp [calmRes]; done) | (simp [calmRes]; generalize Sem.run P _ w = r; cases r <;> simp [Result.andThen])

theorem calm_panic (P : Program) (w : World) : calmRes ((runtimePanic .nilDeref : Sem Next).run P w) := by
  unfold runtimePanic
  simp [go_sem, calmRes]
theorem calm_chk {o : Oper} (x : Operand) (hx : o.op = .nilCheck x) (ρ : Operand → Value) (P : Program) (w : World) : calmRes ((execOp ρ o).run P w) := by
  unfold execOp
  simp only [hx]
  split
  · exact calm_panic P w
  · exact calm_panic P w
  · exact calm_panic P w
  · split
    · exact calm_panic P w
    · simp [calmRes, Result.andThen]
      generalize Sem.run P (nilAhead (P.types.size + Made.depth) _ _ _) w = r
      cases r with
      | halt _ _ => simp
      | ok b w' =>
        simp only
        by_cases hb : b = some false <;> simp [hb]
    · simp [calmRes]
  · simp [calmRes]
theorem calm_op {o : Oper} (h : calmOp o = true) (ρ : Operand → Value) (P : Program) (w : World) : calmRes ((execOp ρ o).run P w) := by
  by_cases hn : ∀ x, o.op ≠ .nilCheck x
  · exact calm_next h hn ρ P w
  · obtain ⟨x, hx⟩ := Classical.not_forall.1 hn
    exact calm_chk x (Classical.not_not.1 hx) ρ P w
theorem calm_about {o : Oper} (h : calmOp o = true) (P : Program) (w : World) (ρ : Operand → Value) : o.about P w ρ = none := by
  unfold Oper.about
  unfold calmOp at h
  cases ho : o.op <;> simp only [ho] at h ⊢ <;> contradiction
theorem calm_defer {o : Oper} (h : calmOp o = true) (c : Call) : o.op ≠ .defer c := by
  intro hc; unfold calmOp at h; rw [hc] at h; cases h

section
variable {F : Fence} {n : Nat} {P : Program} {ops : Array Oper} {Q : Exit → Act → World → Prop} {md : Region.Mode}
theorem calm_wpIn {o : Oper} {a : Act} {w : World} {K : Act → World → Prop} (h : calmOp o = true) (hh : o.wp P a w K Q) : o.wpIn F n P a w K Q := by
  unfold Oper.wpIn
  refine ⟨fun f hf => (by rw [calm_about h] at hf; cases hf), ?_⟩
  rw [Oper.semAt_eq _ _ _ (calm_defer h)]
  unfold Oper.wp at hh
  have hc := calm_op h a.eval P w
  generalize (execOp a.eval o).run P w = r at *
  cases r with
  | ok x w' => cases x <;> first | exact hh | exact hc.elim
  | halt x w' => cases x <;> exact hh
theorem calm_wpOpIn {i : Nat} {K : Act → World → Prop} {a : Act} {w : World} (hq : ¬ LetsOut Q) (h : ∀ o, ops[i]? = some o → calmOp o = true) (hh : wpOp P ops Q i K a w) : wpOpIn F n P ops Q i K a w := by
  unfold wpOp at hh
  unfold wpOpIn
  cases ho : ops[i]? with
  | none => simpa [ho] using hh
  | some o =>
    simp only [ho] at hh ⊢
    split
    · rename_i hw
      simp only [hw, if_true] at hh
      exact calm_wpIn (h o ho) (hh.resolve_right fun x => hq x.2)
    · rename_i hw
      simp only [hw] at hh
      exact ⟨fun f hf => (by rw [calm_about (h o ho)] at hf; cases hf), hh⟩
theorem calm_any (hq : ¬ LetsOut Q) (h : ∀ (i : Nat) o, ops[i]? = some o → calmOp o = true) : ∀ (fuel : Nat) (listed : Array Bool) (a : Act) (w : World),
    wpAny P md ops Q fuel listed a w → wpAnyIn F n P md ops Q fuel listed a w
  | 0, listed, a, w, hh => hh
  | fuel + 1, listed, a, w, hh => ⟨hh.1, fun i hi => calm_wpOpIn hq (h i) (wpOp_mono (fun a w => calm_any hq h fuel _ a w) (hh.2 i hi))⟩
end

section
variable {F : Fence} {m : Nat} {P : Program}
theorem wpIn_region_still_tail {id : Nat} {Q : Exit → Act → World → Prop} {a : Act} {w : World} {l : List Oper} (n : Nat) (hm : P.follows .mixedOrders = true) (hB : Region.lexTailB .any l.toArray n = true) (hcalm : l.all calmOp = true)
    (h : wpStill P l.toArray { w with drawn := w.drawn + 1 } (fun a' => wpList P l.toArray (fun e a w => e ≠ .outgrown ∧ Q e a w) (l.drop n) a' { w with drawn := w.drawn + 1 }) (l.take n) a) : (Code.region id l.toArray true).wpIn F m P Q a w := by
  simp only [Region.lexTailB, Bool.and_eq_true, decide_eq_true_eq] at hB
  obtain ⟨⟨⟨⟨hsel, hn⟩, hs⟩, hc⟩, hlex⟩ := hB
  have hn' : n < l.length := by simpa using hn
  have htl : (l.take n).length = n := by simp; omega
  have hdl : (l.drop n).length = l.toArray.size - n := by simp
  have inv0 : HeadInv .any l.toArray n (Array.replicate l.toArray.size false) :=
    ⟨by simp, fun j oj _ hl => (by rw [getD_replicate_false] at hl; cases hl), fun t _ ht => getD_in (by simpa using ht) (getD_replicate_false _ _)⟩
  have H := wpAnyL_lex (md := .any) (g := l.toArray.size - n) hsel hs hc hn (l.take n) 0 _ a (fun j hj => by
    have hj' : j < n := by rw [htl] at hj; exact hj
    simp [hj']) (by simpa using htl) inv0 (by rw [htl]; exact hlex) h
  have := wpAny_of_head (Q' := fun e a w => e ≠ .outgrown ∧ Q e a w) (g := l.toArray.size - n) (fun listed a' hL => by
    have := wpAny_of_seq (md := .any) (Q' := fun e a w => e ≠ .outgrown ∧ Q e a w) (l.drop n) n listed a' { w with drawn := w.drawn + 1 } (fun j => by simp [List.getElem?_drop]) (by rw [hdl]; exact hL.1) hL.2
    rwa [hdl] at this) _ _ _ H
  rw [htl, show n + (l.toArray.size - n) = l.toArray.size by omega] at this
  have hcalm' : ∀ (i : Nat) o, l.toArray[i]? = some o → calmOp o = true := fun i o ho => by
    rw [List.all_eq_true] at hcalm
    exact hcalm o (List.mem_of_getElem? (by simpa using ho))
  have hno : ¬ LetsOut (fun e a w => e ≠ .outgrown ∧ Q e a w) := fun ⟨a, w, h1, _⟩ => h1 rfl
  have := calm_any (F := F) (n := m) hno hcalm' _ _ _ _ this
  have hmono : ∀ (fuel : Nat) (listed : Array Bool) (a : Act) (w : World), wpAnyIn F m P .any l.toArray (fun e a w => e ≠ .outgrown ∧ Q e a w) fuel listed a w → wpAnyIn F m P .any l.toArray Q fuel listed a w := by
    intro fuel
    induction fuel with
    | zero => exact fun _ _ _ h => ⟨h.1, h.2.2⟩
    | succ k ih =>
      intro listed a w h
      refine ⟨fun e => (h.1 e).2, fun i hi => ?_⟩
      have h1 := wpOpIn_mono (fun a w => ih _ a w) (h.2 i hi)
      unfold wpOpIn at h1 ⊢
      cases ho : l.toArray[i]? with
      | none => simpa [ho] using h1
      | some o =>
        simp only [ho] at h1 ⊢
        split
        · rename_i hw
          simp only [hw, if_true] at h1
          unfold Oper.wpIn at h1 ⊢
          refine ⟨h1.1, ?_⟩
          have hc := calm_op (hcalm' i o ho) a.eval P w
          rw [Oper.semAt_eq _ _ _ (calm_defer (hcalm' i o ho))] at h1 ⊢
          have h2 := h1.2
          generalize (execOp a.eval o).run P w = r at *
          cases r with
          | ok x w' => cases x <;> first | exact h2 | exact hc.elim
          | halt x w' => cases x <;> first | exact h2.2 | exact h2
        · rename_i hw
          simp only [hw] at h1
          exact h1
  exact wpIn_region_any hm (hmono _ _ _ _ this)
end
end Go.Proofs.YtgiekhohhogdiaaDoor
/- A drawing region inside a fence: one copy that waits for nothing is taken first, then loads, then a chain of stores. -/
namespace Go.Proofs.YtgiekhohhogdiaaDoor
open Go Go.RowKit Go.Shelf
set_option linter.unusedVariables false
set_option linter.unusedSimpArgs false

section
variable {P : Program} {ops : Array Oper} {md : Region.Mode} {w : World}
/-- Each head operation has been taken from the start, or something up to n waits for it. -/
def sinkFrom (md : Region.Mode) (ops : Array Oper) (L0 : Array Bool) (n : Nat) : Bool :=
  (List.range n).all fun i => L0.getD i false || (List.range (n + 1)).any fun j => decide (i < j) && Region.waitsFor md ops j i
structure InvF (md : Region.Mode) (ops : Array Oper) (L0 : Array Bool) (n : Nat) (listed : Array Bool) : Prop where
  base : HeadInv md ops n listed
  sub : ∀ i, L0.getD i false = true → listed.getD i false = true
theorem InvF.set {L0 : Array Bool} {n i : Nat} {listed : Array Bool} (inv : InvF md ops L0 n listed) (hi : i ∈ Region.ready md ops listed) (hin : i < n) : InvF md ops L0 n (listed.setIfInBounds i true) :=
  ⟨inv.base.set hi hin, fun k hk => getD_set_true (inv.sub k hk)⟩
theorem late_waits {L0 : Array Bool} {n : Nat} {listed : Array Bool} (hs : sinkFrom md ops L0 n = true) (hc : Region.chainB md ops n = true) (hn : n < ops.size) (inv : InvF md ops L0 n listed) :
    ∀ (d i : Nat), n - i = d → i < n → listed.getD i true = false → ∀ t, n ≤ t → t ∉ Region.ready md ops listed := by
  intro d
  induction d using Nat.strongRecOn with
  | _ d ih =>
    intro i hd hi hun t ht hr
    obtain ⟨_, ot, hot, hall⟩ := mem_ready.1 hr
    have htlt : t < ops.size := (Array.getElem?_eq_some_iff.1 hot).1
    by_cases htn : t = n
    · subst htn
      have h1 := List.all_eq_true.1 hs i (List.mem_range.2 hi)
      rcases Bool.or_eq_true_iff.1 h1 with h1 | h1
      · have := inv.sub i h1
        rw [getD_both hun] at this
        cases this
      · obtain ⟨j, hj, hj2⟩ := List.any_eq_true.1 h1
        simp only [Bool.and_eq_true, decide_eq_true_eq] at hj2
        obtain ⟨oj, hoj, e, he, hb, hon⟩ := Region.waitsFor_spec hj2.2
        have hjle : j ≤ t := by have := List.mem_range.1 hj; omega
        by_cases hjt : j = t
        · subst hjt
          obtain rfl : oj = ot := Option.some.inj (hoj.symm.trans hot)
          have h2 := hall e he hb
          rw [hon, getD_both hun] at h2
          cases h2
        · cases hl : listed.getD j false with
          | true =>
            have h2 := inv.base.closed j oj hoj hl e he hb
            rw [hon, getD_both hun] at h2
            cases h2
          | false =>
            have hjs : j < listed.size := by rw [inv.base.size]; omega
            exact ih (t - j) (by omega) j rfl (by omega) (getD_in hjs hl) t (Nat.le_refl _) hr
    · have h1 := List.all_eq_true.1 hc t (List.mem_range.2 htlt)
      simp only [Bool.or_eq_true, decide_eq_true_eq] at h1
      rcases h1 with h1 | h1
      · omega
      · obtain ⟨o', ho', e, he, hb, hon⟩ := Region.waitsFor_spec h1
        obtain rfl : o' = ot := Option.some.inj (ho'.symm.trans hot)
        have h2 := hall e he hb
        rw [hon, getD_both (inv.base.tail (t - 1) (by omega) (by omega))] at h2
        cases h2
theorem late_first {L0 : Array Bool} {n i : Nat} {oi : Oper} {v : Value} {L : Array Bool → Act → Prop} (hi : ops[i]? = some oi) (hsel : ∀ (j : Nat) (o : Oper) cs b, ops[j]? = some o → o.op ≠ .select cs b)
    (hs : sinkFrom md ops L0 n = true) (hc : Region.chainB md ops n = true) (hn : n < ops.size) (hin : i < n)
    (hdone : ∀ listed a, L listed a → ∀ j ∈ Region.ready md ops listed, n ≤ j) :
    ∀ (f : Nat) (listed : Array Bool) (a : Act), InvF md ops L0 n listed →
      (∀ j oj, ops[j]? = some oj → j ≠ i → listed.getD j true = false → (∀ e ∈ oj.after, Region.binds md e = true → e.on ≠ i) → oi.apart ops oj = true) →
      i ∈ Region.ready md ops listed → YieldsAt P ops w oi v a →
      wpAnyL P md ops w n L f (listed.setIfInBounds i true) (a.put oi.dst v) → wpAnyL P md ops w n L (f + 1) listed a := by
  intro f
  induction f with
  | zero =>
    intro listed a inv _ hr hy H
    have hun := (mem_ready.1 hr).1
    refine ⟨fun h => (by rw [h] at hr; cases hr), fun j hj => ?_⟩
    have hjn : j < n := (Nat.lt_or_ge j n).elim id fun h => absurd hj (late_waits hs hc hn inv _ i rfl hin hun j h)
    refine ⟨hjn, ?_⟩
    by_cases hji : j = i
    · subst hji; exact hy.stOp hi H
    · have := hdone _ _ H j (ready_mono hj hji)
      omega
  | succ f ih =>
    intro listed a inv hfree hr hy H
    have hun := (mem_ready.1 hr).1
    refine ⟨fun h => (by rw [h] at hr; cases hr), fun j hj => ?_⟩
    have hjn : j < n := (Nat.lt_or_ge j n).elim id fun h => absurd hj (late_waits hs hc hn inv _ i rfl hin hun j h)
    refine ⟨hjn, ?_⟩
    by_cases hji : j = i
    · subst hji; exact hy.stOp hi H
    · have h1 := (H.2 j (ready_mono hj hji)).2
      obtain ⟨hjun, oj, hoj, hall⟩ := mem_ready.1 hj
      have hnot : ∀ e ∈ oj.after, Region.binds md e = true → e.on ≠ i := fun e he hb heq => by
        have h1 := hall e he hb
        rw [heq, getD_both hun] at h1
        cases h1
      have h2 := stOp_put hoj (hfree j oj hoj hji hjun hnot) (fun cs b => hsel i oi cs b hi) (fun cs b => hsel j oj cs b hoj) hy h1
      have hfree' : ∀ k ok, ops[k]? = some ok → k ≠ i → (listed.setIfInBounds j true).getD k true = false →
          (∀ e ∈ ok.after, Region.binds md e = true → e.on ≠ i) → oi.apart ops ok = true := fun k ok hk hki hun hno => by
        refine hfree k ok hk hki ?_ hno
        by_cases hjk : j = k
        · subst hjk; exact hjun
        · rw [getD_set_ne true hjk] at hun; exact hun
      refine stOp_mono (fun a' h3 => ih (listed.setIfInBounds j true) a' (inv.set hj hjn) hfree' (ready_mono hr (Ne.symm hji)) h3.1 ?_) h2
      rw [Array.setIfInBounds_comm _ _ hji]
      exact h3.2
/-- The indexes ks may be taken one after the other; then the chain from n on is all that is left. -/
def lexKs (md : Region.Mode) (ops : Array Oper) (g n : Nat) : List Nat → Array Bool → Bool
  | [], listed => Region.seqB md ops g n listed
  | k :: ks, listed => decide (k < n) && (Region.ready md ops listed).contains k && Region.free md ops listed k && lexKs md ops g n ks (listed.setIfInBounds k true)
theorem late_lex {L0 : Array Bool} {n g : Nat} {Lq : Act → Prop} (hsel : Region.noSelect ops = true) (hs : sinkFrom md ops L0 n = true) (hc : Region.chainB md ops n = true) (hn : n < ops.size) :
    ∀ (ks : List Nat) (l : List Oper) (listed : Array Bool) (a : Act), (ks.map (ops[·]?) = l.map some) → InvF md ops L0 n listed →
    lexKs md ops g n ks listed = true → wpStill P ops w Lq l a →
    wpAnyL P md ops w n (fun listed' a' => Region.seqB md ops g n listed' = true ∧ Lq a') ks.length listed a
  | [], [], listed, a, _, inv, hB, h => ⟨hB, h⟩
  | [], _ :: _, _, _, hl, _, _, _ => by simp at hl
  | _ :: _, [], _, _, hl, _, _, _ => by simp at hl
  | k :: ks, o :: l, listed, a, hl, inv, hB, h => by
    simp only [List.map_cons, List.cons.injEq] at hl
    have h0 : ops[k]? = some o := hl.1
    simp only [lexKs, Bool.and_eq_true, decide_eq_true_eq] at hB
    obtain ⟨⟨⟨hkn, hr⟩, hf⟩, hB'⟩ := hB
    have hr' : k ∈ Region.ready md ops listed := by simpa using hr
    have hst : stOp P ops w k (wpStill P ops w Lq l) a := by unfold stOp; simp only [h0]; exact h
    obtain ⟨v, hy, hK⟩ := yieldsAt_of_stOp h0 hst
    exact late_first h0 (Region.noSelect_spec hsel) hs hc hn hkn (fun listed' a' hL => seqB_ready hL.1) ks.length listed a inv (Region.free_spec h0 hf) hr' hy
      (late_lex hsel hs hc hn ks l _ _ hl.2 (inv.set hr' hkn) hB' hK)
def takeB (ops : Array Oper) (t n : Nat) (ks : List Nat) : Bool :=
  Region.noSelect ops && decide (n < ops.size) && decide (t < n) && decide (ks.length + 1 = n) && (Region.ready .any ops (Array.replicate ops.size false)).contains t && Region.free .any ops (Array.replicate ops.size false) t &&
  sinkFrom .any ops ((Array.replicate ops.size false).setIfInBounds t true) n && Region.chainB .any ops n && lexKs .any ops (ops.size - n) n ks ((Array.replicate ops.size false).setIfInBounds t true)
end

section
variable {F : Fence} {m : Nat} {P : Program}
theorem wpIn_region_of_any {id : Nat} {Q : Exit → Act → World → Prop} {a : Act} {w : World} {l : List Oper} (hm : P.follows .mixedOrders = true) (hcalm : l.all calmOp = true)
    (h : wpAny P .any l.toArray (fun e a w => e ≠ .outgrown ∧ Q e a w) l.toArray.size (Array.replicate l.toArray.size false) a { w with drawn := w.drawn + 1 }) : (Code.region id l.toArray true).wpIn F m P Q a w := by
  have hcalm' : ∀ (i : Nat) o, l.toArray[i]? = some o → calmOp o = true := fun i o ho => by
    rw [List.all_eq_true] at hcalm
    exact hcalm o (List.mem_of_getElem? (by simpa using ho))
  have hno : ¬ LetsOut (fun e a w => e ≠ .outgrown ∧ Q e a w) := fun ⟨a, w, h1, _⟩ => h1 rfl
  have := calm_any (F := F) (n := m) hno hcalm' _ _ _ _ h
  have hmono : ∀ (fuel : Nat) (listed : Array Bool) (a : Act) (w : World), wpAnyIn F m P .any l.toArray (fun e a w => e ≠ .outgrown ∧ Q e a w) fuel listed a w → wpAnyIn F m P .any l.toArray Q fuel listed a w := by
    intro fuel
    induction fuel with
    | zero => exact fun _ _ _ h => ⟨h.1, h.2.2⟩
    | succ k ih =>
      intro listed a w h
      refine ⟨fun e => (h.1 e).2, fun i hi => ?_⟩
      have h1 := wpOpIn_mono (fun a w => ih _ a w) (h.2 i hi)
      unfold wpOpIn at h1 ⊢
      cases ho : l.toArray[i]? with
      | none => simpa [ho] using h1
      | some o =>
        simp only [ho] at h1 ⊢
        split
        · rename_i hw
          simp only [hw, if_true] at h1
          unfold Oper.wpIn at h1 ⊢
          refine ⟨h1.1, ?_⟩
          have hc := calm_op (hcalm' i o ho) a.eval P w
          rw [Oper.semAt_eq _ _ _ (calm_defer (hcalm' i o ho))] at h1 ⊢
          have h2 := h1.2
          generalize (execOp a.eval o).run P w = r at *
          cases r with
          | ok x w' => cases x <;> first | exact h2 | exact hc.elim
          | halt x w' => cases x <;> first | exact h2.2 | exact h2
        · rename_i hw
          simp only [hw] at h1
          exact h1
  exact wpIn_region_any hm (hmono _ _ _ _ this)
theorem wpIn_region_take_tail {id : Nat} {Q : Exit → Act → World → Prop} {a : Act} {w : World} {l : List Oper} (t n : Nat) (ks : List Nat) (l' : List Oper) (ot : Oper) (v : Value) (hm : P.follows .mixedOrders = true) (hB : takeB l.toArray t n ks = true) (hcalm : l.all calmOp = true)
    (ho : l.toArray[t]? = some ot) (hl' : ks.map (l.toArray[·]?) = l'.map some) (hQ : ∀ c a w, Q (.panic c) (a.put ot.dst v) w → Q (.panic c) a w) (hy : Yields P l.toArray ot v a)
    (h : wpStill P l.toArray { w with drawn := w.drawn + 1 } (fun a' => wpList P l.toArray (fun e a w => e ≠ .outgrown ∧ Q e a w) (l.drop n) a' { w with drawn := w.drawn + 1 }) l' (a.put ot.dst v)) : (Code.region id l.toArray true).wpIn F m P Q a w := by
  simp only [takeB, Bool.and_eq_true, decide_eq_true_eq] at hB
  obtain ⟨⟨⟨⟨⟨⟨⟨⟨hsel, hn⟩, ht⟩, hks⟩, hr⟩, hf⟩, hs⟩, hc⟩, hlex⟩ := hB
  have hn' : n < l.length := by simpa using hn
  have hdl : (l.drop n).length = l.toArray.size - n := by simp
  have inv00 : HeadInv .any l.toArray n (Array.replicate l.toArray.size false) :=
    ⟨by simp, fun j oj _ hl => (by rw [getD_replicate_false] at hl; cases hl), fun t _ ht => getD_in (by simpa using ht) (getD_replicate_false _ _)⟩
  have inv0 : InvF .any l.toArray ((Array.replicate l.toArray.size false).setIfInBounds t true) n ((Array.replicate l.toArray.size false).setIfInBounds t true) := ⟨inv00.set (by simpa using hr) ht, fun _ h => h⟩
  have H := late_lex (md := .any) (P := P) (g := l.toArray.size - n) hsel hs hc hn ks l' _ _ hl' inv0 hlex h
  have := wpAny_of_head (Q' := fun e a w => e ≠ .outgrown ∧ Q e a w) (g := l.toArray.size - n) (fun listed a' hL => by
    have := wpAny_of_seq (md := .any) (Q' := fun e a w => e ≠ .outgrown ∧ Q e a w) (l.drop n) n listed a' { w with drawn := w.drawn + 1 } (fun j => by simp [List.getElem?_drop]) (by rw [hdl]; exact hL.1) hL.2
    rwa [hdl] at this) _ _ _ H
  refine wpIn_region_of_any hm hcalm ?_
  rw [show l.toArray.size = (ks.length + (l.toArray.size - n)) + 1 by omega]
  refine wpAny_take ho hsel ?_ ?_ (fun c a w hh => ⟨hh.1, hQ c a w hh.2⟩) hy ?_
  · rw [show (ks.length + (l.toArray.size - n)) + 1 = l.toArray.size by omega]; exact hf
  · rw [show (ks.length + (l.toArray.size - n)) + 1 = l.toArray.size by omega]; exact hr
  · rw [show Array.replicate (ks.length + (l.toArray.size - n) + 1) false = Array.replicate l.toArray.size false by rw [show (ks.length + (l.toArray.size - n)) + 1 = l.toArray.size by omega]]; exact this
theorem wpIn_region_take_tail' {id : Nat} {Q : Exit → Act → World → Prop} {a : Act} {w : World} {l : List Oper} (t n : Nat) (ks : List Nat) (ot : Oper) (v : Value) (hm : P.follows .mixedOrders = true) (hB : takeB l.toArray t n ks = true) (hcalm : l.all calmOp = true)
    (ho : l.toArray[t]? = some ot) (hl' : ks.map (l.toArray[·]?) = (l.take t ++ (l.drop (t + 1)).take (n - t - 1)).map some) (hQ : ∀ c a w, Q (.panic c) (a.put ot.dst v) w → Q (.panic c) a w) (hy : Yields P l.toArray ot v a)
    (h : wpStill P l.toArray { w with drawn := w.drawn + 1 } (fun a' => wpList P l.toArray (fun e a w => e ≠ .outgrown ∧ Q e a w) (l.drop n) a' { w with drawn := w.drawn + 1 }) (l.take t ++ (l.drop (t + 1)).take (n - t - 1)) (a.put ot.dst v)) : (Code.region id l.toArray true).wpIn F m P Q a w :=
  wpIn_region_take_tail t n ks _ ot v hm hB hcalm ho hl' hQ hy h
end
end Go.Proofs.YtgiekhohhogdiaaDoor
