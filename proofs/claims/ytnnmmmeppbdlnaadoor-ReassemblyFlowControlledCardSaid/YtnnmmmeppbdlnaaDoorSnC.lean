/- The iterator over the indexes of a piece that lie in the window: what it hands to whatever loop body. -/
import Derived.RangeFuncNested
import Derived.RangeFuncBound
import Derived.RangeFuncCalls
import Derived.RangeFuncLeaves
import Derived.RangeFuncBox
import Derived.Shelf.Abstract
import Derived.Shelf.RegionOpen
import Derived.WalkKit
import Derived.OwnWalkIn
import Derived.TacticsInMore
import Derived.LoopNIn
import Derived.LoopIn
import Derived.Scope
import Derived.WalkMore
import Derived.Sort.QuietIn
import Derived.Test.YtnnmmmeppbdlnaaDoorSnB
namespace Go.Proofs.YtnnmmmeppbdlnaaDoor
open Go Go.RowKit Go.Shelf
set_option linter.unusedVariables false
set_option linter.unusedSectionVars false
set_option linter.unusedSimpArgs false
attribute [local go_sem] Oper.semAt_some

theorem stepR_scope' {P : Program} {b : Frame} {a : Act} {k : List Item} {cs : List Frame} {w : World} {c : Code} : step P (lone (b.atR a (.code (.scope c) :: k)) cs w) = .next (lone (b.atR a (.code c :: .inScope c :: k)) cs w) :=
  step_lone_go (by simp [stepG, stepG.exec, Frame.atR])
theorem stepR_inScope' {P : Program} {b : Frame} {a : Act} {k : List Item} {cs : List Frame} {w : World} {c : Code} : step P (lone (b.atR a (.inScope c :: k)) cs w) = .next (lone (b.atR a k) cs w) :=
  step_lone_go (by simp [stepG, stepG.exec, Frame.atR])
/-- A scope through which the run goes without a goto, inside a fence. -/
theorem wpIn_scope_straight' {F : Fence} {n : Nat} {P : Program} {Q : Exit → Act → World → Prop} {a : Act} {w : World} {c : Code} (h : c.wpIn F n P (Exit.noGoto Q) a w) : (Code.scope c).wpIn F n P Q a w := by
  intro b k cs hro hb hr
  have h0 : (lone (b.atR a (.code (.scope c) :: k)) cs w).fenced P F := fenced_calm hb hr rfl
  obtain ⟨e, a₁, w₁, hq, harr⟩ := h b (.inScope c :: k) cs hro hb hr
  cases e with
  | normal => exact ⟨.normal, a₁, w₁, hq, .head h0 stepR_scope' (StepsIn.trans harr (.one (fenced_calm hb hr rfl) stepR_inScope'))⟩
  | exit id =>
    have hx : exitTo id (.inScope c :: k) = exitTo id k := by simp [exitTo]
    exact ⟨.exit id, a₁, w₁, hq, fun k' hk => .head h0 stepR_scope' (harr.1 k' (by rw [hx]; exact hk)),
      fun hr' hk => let ⟨k₁, h1, h2⟩ := harr.2 hr' (by rw [hx]; exact hk); ⟨k₁, h1, .head h0 stepR_scope' h2⟩⟩
  | goto l => exact hq.elim
  | ret => exact ⟨_, a₁, w₁, hq, .of_steps (.one h0 stepR_scope') harr⟩
  | panic ch => exact ⟨_, a₁, w₁, hq, .of_steps (.one h0 stepR_scope') harr⟩
  | outgrown => exact ⟨_, a₁, w₁, hq, .of_steps (.one h0 stepR_scope') harr⟩

/-- Where the piece begins in itself, and in the window; how many of its bytes lie in the window. -/
def ov0 (pos off : Int) : Nat := (pos - off).toNat
def ov1 (pos off : Int) : Nat := (off - pos).toNat
def ovN (n len : Nat) (pos off : Int) : Nat := min (len - ov0 pos off) (n - ov1 pos off)
theorem ov_eq (pos off : Int) : off + ov0 pos off = pos + ov1 pos off := by unfold ov0 ov1; omega
theorem ov_lt {n len j : Nat} {pos off : Int} (h : j < ovN n len pos off) : ov0 pos off + j < len ∧ ov1 pos off + j < n := by unfold ovN at h; omega

/-- The blocks b, c, d are as they were. -/
def Tri (b c d : Nat) (W W' : World) : Prop := W'.heap[b]? = W.heap[b]? ∧ W'.heap[c]? = W.heap[c]? ∧ W'.heap[d]? = W.heap[d]?
theorem Tri.refl (b c d : Nat) (W : World) : Tri b c d W W := ⟨rfl, rfl, rfl⟩
theorem Tri.trans {b c d : Nat} {A B C : World} (h : Tri b c d A B) (k : Tri b c d B C) : Tri b c d A C := ⟨k.1.trans h.1, k.2.1.trans h.2.1, k.2.2.trans h.2.2⟩
theorem Tri.put {b c d n : Nat} (hb : b < n) (hc : c < n) (hd : d < n) (W : World) (l : Nat) (o o' : Obj) (hl : n ≤ l) (_h : W.heap[l]? = some o) (_h1 : o.isCells = false) (_h2 : o.isWalk = false) : Tri b c d W (W.putObj l o') :=
  ⟨World.putObj_heap_other (by omega), World.putObj_heap_other (by omega), World.putObj_heap_other (by omega)⟩
theorem Tri.of_below {b c d n : Nat} {W W' : World} (h : Below n W W') (hb : b < n) (hc : c < n) (hd : d < n) : Tri b c d W W' := ⟨h.block b hb, h.block c hc, h.block d hd⟩
theorem Tri.at1 {b c d : Nat} {W W' : World} (h : Tri b c d W W') {i : Nat} {v : Value} (k : W.cell? ⟨b, i, none⟩ = some v) : W'.cell? ⟨b, i, none⟩ = some v := (World.cell?_of_block (w := W) h.1).trans k
theorem Tri.at2 {b c d : Nat} {W W' : World} (h : Tri b c d W W') {i : Nat} {v : Value} (k : W.cell? ⟨c, i, none⟩ = some v) : W'.cell? ⟨c, i, none⟩ = some v := (World.cell?_of_block (w := W) h.2.1).trans k
theorem Tri.at3 {b c d : Nat} {W W' : World} (h : Tri b c d W W') {i : Nat} {v : Value} (k : W.cell? ⟨d, i, none⟩ = some v) : W'.cell? ⟨d, i, none⟩ = some v := (World.cell?_of_block (w := W) h.2.2).trans k

set_option maxRecDepth 100000 in
set_option maxHeartbeats 2000000 in
theorem ov_in (m : Nat) (hm : 1 ≤ m) (l Bw Bp b g1 n : Nat) (pos off : Int) (s : ByteArray) (hn : n ≤ 8192) (hs : s.size ≤ 8192) (p0 : 0 ≤ pos) (p1 : pos ≤ 1099511627776) (q0 : 0 ≤ off) (q1 : off ≤ 1099511627776) (J Jx : Nat → World → Prop) (hD : ∀ j W k, J j W → J j (W.drewN k)) (hDx : ∀ j W k, Jx j W → Jx j (W.drewN k))
    (hY : ∀ j W, j < ovN n s.size pos off → J j W → YieldAt Fence.wide (m - 1) Tryd.prog l #[.int .i64 ((ov0 pos off + j : Nat) : Int), .int .i64 ((ov1 pos off + j : Nat) : Int)] W fun e W' =>
      (e = .returned (.bool true) ∧ J (j + 1) W' ∧ Tri b Bw Bp W W') ∨ (e = .returned (.bool false) ∧ Jx (j + 1) W'))
    (W : World) (hBw : W.cell? ⟨Bw, 0, none⟩ = some (.pointer (some ⟨b, 0, none⟩))) (hBo : W.cell? ⟨Bp, 0, none⟩ = some (.int .i64 off)) (hBs : W.cell? ⟨Bp, 1, none⟩ = some (.string s))
    (hc0 : W.cell? ⟨b, 0, none⟩ = some (.int .i64 pos)) (hc1 : W.cell? ⟨b, 1, none⟩ = some (.slice (some ⟨g1, 0, none⟩) n n)) (h0 : J 0 W) :
    CallsIn Fence.wide m Tryd.prog 50 #[.func (.yield l) #[] #[], .pointer (some ⟨Bw, 0, none⟩), .pointer (some ⟨Bp, 0, none⟩)] W fun e W' => (∃ v, e = .returned v) ∧
      (J (ovN n s.size pos off) W' ∨ (∃ k, k ≤ ovN n s.size pos off ∧ Jx k W')) := by
  have hmx : (if pos - off < 0 then 0 else pos - off) = ((ov0 pos off : Nat) : Int) := by unfold ov0; split <;> omega
  have hsp : IntKind.i64.wrap (pos - off) = pos - off := IntWalk.i64_in _ (by omega)
  refine callsIn_of_wp Tryd.func50 rfl trivial ?_ rfl
  simp only [Tryd.ntmps50, List.size_toArray, List.length_cons, List.length_nil, Nat.reduceAdd, Nat.reduceSub, Array.replicate_succ, Array.replicate_zero, List.push_toArray, List.append_toArray, List.nil_append, List.cons_append]
  gi_wp2
  apply wpIn_scope_straight'
  gi_wp2
  apply wpIn_label
  gi_wp2
  gi_quiet (fail)
  gi_wp2
  gi_loopw [4, 5] (fun i _ wr => ∃ j : Nat, j ≤ ovN n s.size pos off ∧ i = .int .i64 ((ov0 pos off + j : Nat) : Int) ∧ J j wr ∧ Tri b Bw Bp W wr)
    (fun i _ _ => ov0 pos off + ovN n s.size pos off - (intOf i).toNat)
  case atStart => exact ⟨0, Nat.zero_le _, rfl, hD _ _ _ h0, ⟨rfl, rfl, rfl⟩⟩
  case round =>
    obtain ⟨j, hj, rfl, hJs, hT⟩ := hrel
    have c0 := hT.at1 hc0
    have c1 := hT.at1 hc1
    have cw := hT.at2 hBw
    have co := hT.at3 hBo
    have cs := hT.at3 hBs
    clear hc0 hc1 hBw hBo hBs hmx hsp h0
    have hov := ov_eq pos off
    obtain ⟨iv, hiv⟩ : ∃ iv, ov0 pos off + j = iv := ⟨_, rfl⟩
    obtain ⟨kv, hkv⟩ : ∃ kv, ov1 pos off + j = kv := ⟨_, rfl⟩
    have ek : off + (iv : Int) - pos = kv := by omega
    have ei : IntKind.i64.wrap (off + (iv : Int)) = off + iv := IntWalk.i64_in _ (by unfold ovN ov0 at hj; unfold ov0 at hiv; omega)
    have ek2 : IntKind.i64.wrap (kv : Int) = kv := IntWalk.i64_in _ (by unfold ovN ov1 at hj; unfold ov1 at hkv; omega)
    have hiv1 : iv + 1 = ov0 pos off + (j + 1) := by omega
    have hi1 : (iv : Int) ≤ 2199023255553 := by unfold ovN ov0 at hj; unfold ov0 at hiv; omega
    by_cases hlt : j < ovN n s.size pos off
    · obtain ⟨hl1, hl2⟩ := ov_lt hlt
      rw [hiv] at hl1 ⊢
      rw [hkv] at hl2
      have hl1' : (iv : Int) < s.size := by omega
      have hl2' : (kv : Int) < n := by omega
      have hl2'' : decide ((n : Int) ≤ kv) = false := decide_eq_false (by omega)
      gi_wp2
      gi_quiet (fail)
      obtain ⟨fn, tmps, assign, body, hy, hR⟩ := hY j (wr.drewN nq) hlt (hD _ _ _ hJs)
      rw [hiv, hkv] at hy
      gi_wp2
      refine hR.mono ?_
      rintro e W3 (⟨rfl, hJ3, hk3⟩ | ⟨rfl, hJx3⟩)
      · gi_wp2
        exact ⟨⟨j + 1, by omega, by rw [← hiv1]; simp, hJ3, hT.trans (Tri.trans ⟨rfl, rfl, rfl⟩ hk3)⟩, by simp [intOf]; omega⟩
      · gi_wp2
        rw [Exit.noGoto_normal]
        go_end0
        exact ⟨⟨_, rfl⟩, .inr ⟨j + 1, by omega, hJx3⟩⟩
    · rw [hiv]
      by_cases hl1 : iv < s.size
      · have hl2 : ¬ kv < n := by unfold ovN at hlt hj; omega
        have hl1' : (iv : Int) < s.size := by omega
        have hl2' : (n : Int) ≤ kv := by omega
        obtain rfl : j = ovN n s.size pos off := by omega
        gi_wp2
        gi_quiet (fail)
        gi_wp2
        refine ⟨fun f h => (by cases h), ?_⟩
        gi_wp2
        first | rw [Exit.noGoto_normal] | skip
        go_end0
        exact ⟨⟨_, rfl⟩, .inl (hD _ _ _ hJs)⟩
      · have hl1' : ¬ (iv : Int) < s.size := by omega
        obtain rfl : j = ovN n s.size pos off := by omega
        gi_wp2
        go_end0
        exact ⟨⟨_, rfl⟩, .inl hJs⟩

theorem finTake_succ (n k : Nat) (h : k < n) : (List.finRange n).take (k + 1) = (List.finRange n).take k ++ [⟨k, h⟩] := by
  rw [List.take_succ_eq_append_getElem (by simpa using h)]
  simp
theorem grown_drewN' (w : World) (n : Nat) (row : Option Nat) : w.grownBy (w.drewN n) row := ⟨rfl, rfl, rfl, Nat.le_refl _, fun _ _ _ => rfl⟩
/-- What the body is handed: the index in the piece, the index in the window. -/
def ovP (pos off : Int) (j : Nat) : Array Value := #[.int .i64 ((ov0 pos off + j : Nat) : Int), .int .i64 ((ov1 pos off + j : Nat) : Int)]
theorem ov_stops (m : Nat) (hm : 1 ≤ m) (Bw Bp b g1 n : Nat) (pos off : Int) (s : ByteArray) (hn : n ≤ 8192) (hs : s.size ≤ 8192) (p0 : 0 ≤ pos) (p1 : pos ≤ 1099511627776) (q0 : 0 ≤ off) (q1 : off ≤ 1099511627776) (w : World)
    (hBw : w.cell? ⟨Bw, 0, none⟩ = some (.pointer (some ⟨b, 0, none⟩))) (hBo : w.cell? ⟨Bp, 0, none⟩ = some (.int .i64 off)) (hBs : w.cell? ⟨Bp, 1, none⟩ = some (.string s))
    (hc0 : w.cell? ⟨b, 0, none⟩ = some (.int .i64 pos)) (hc1 : w.cell? ⟨b, 1, none⟩ = some (.slice (some ⟨g1, 0, none⟩) n n)) :
    SeqStopsK Fence.wide m Tryd.prog 50 #[.pointer (some ⟨Bw, 0, none⟩), .pointer (some ⟨Bp, 0, none⟩)] (fun i : Fin (ovN n s.size pos off) => ovP pos off i.1) (Tri b Bw Bp) (fun ys => ys = List.finRange (ovN n s.size pos off))
      (fun pre => ∃ k, k ≤ ovN n s.size pos off ∧ pre = (List.finRange (ovN n s.size pos off)).take k) (ovN n s.size pos off) w := fun l J Jx W hW hJ hJx hY h0 => by
  have hb : b < w.heap.size := World.block_lt_of_cell? _ _ hc0
  have hw : Bw < w.heap.size := World.block_lt_of_cell? _ _ hBw
  have hp : Bp < w.heap.size := World.block_lt_of_cell? _ _ hBo
  have T := Tri.of_below hW hb hw hp
  refine (ov_in m hm l Bw Bp b g1 n pos off s hn hs p0 p1 q0 q1 (fun k => J ((List.finRange (ovN n s.size pos off)).take k)) (fun k => Jx ((List.finRange (ovN n s.size pos off)).take k)) (fun j W k h => hJ _ _ _ none h (grown_drewN' _ _ _) (fun r e => by cases e)) (fun j W k h => hJx _ _ _ none h (grown_drewN' _ _ _) (fun r e => by cases e)) ?_ W (T.at2 hBw) (T.at3 hBo) (T.at3 hBs) (T.at1 hc0) (T.at1 hc1) (by simpa using h0)).mono ?_
  · intro k W hk hJ
    rw [finTake_succ _ k hk]
    exact hY _ ⟨k, hk⟩ W hJ (by simp; omega)
  · rintro e W' ⟨h1, h2 | ⟨k, h3, h4⟩⟩
    · have h2' : J ((List.finRange (ovN n s.size pos off)).take (ovN n s.size pos off)) W' := h2
      rw [List.take_of_length_le (by simp)] at h2'
      exact ⟨h1, .inl ⟨_, rfl, h2'⟩⟩
    · exact ⟨h1, .inr ⟨_, ⟨k, h3, rfl⟩, h4⟩⟩
set_option maxHeartbeats 1000000 in
theorem overlap_in (m : Nat) (b : Nat) (off : Int) (s : ByteArray) (f : Bool) (w : World) :
    CallsIn Fence.wide m Tryd.prog 49 #[.pointer (some ⟨b, 0, none⟩), .agg #[.int .i64 off, .string s, .bool f]] w fun e w' => e = .returned (.func (.func 50) #[] #[.pointer (some ⟨w.heap.size, 0, none⟩), .pointer (some ⟨w.heap.size + 1, 0, none⟩)]) ∧ w' = (w.alloc (.cells #[.pointer (some ⟨b, 0, none⟩)] 81)).alloc (.cells #[.int .i64 off, .string s, .bool f] 74) := by
  refine callsIn_of_wp Tryd.func49 rfl trivial ?_ rfl
  simp only [Tryd.ntmps49, List.size_toArray, List.length_cons, List.length_nil, Nat.reduceAdd, Nat.reduceSub, Array.replicate_succ, Array.replicate_zero, List.push_toArray, List.append_toArray, List.nil_append, List.cons_append]
  gi_wp2
  go_ret
  exact ⟨rfl, rfl⟩
end Go.Proofs.YtnnmmmeppbdlnaaDoor
