/- The iterator over a tracker's intervals: what it hands to whatever loop body. -/
import Derived.RangeFuncNested
import Derived.RangeFuncBound
import Derived.RangeFuncCalls
import Derived.RangeFuncLeaves
import Derived.RangeFuncBox
import Derived.Shelf.Abstract
import Derived.Shelf.RegionOpen
import Derived.WalkKit
import Derived.OwnWalkIn
import Derived.TacticsInMore
import Derived.LoopNIn
import Derived.LoopIn
import Derived.Test.YthjlkiilkiggiaaAkA
namespace Go.Proofs.Ythjlkiilkiggiaa
open Go Go.RowKit Go.Shelf
set_option linter.unusedVariables false
attribute [local go_sem] Oper.semAt_some

def Trk (w : World) (b : Nat) (F T : Nat → Int) (n : Nat) (d fl lg wh ct du : Int) : Prop := At w b 67 (trk F T n d fl lg wh ct du)
/-- What has come when k rounds are over. -/
def upto (F T : Nat → Int) (k : Nat) : List (Nat × Int × Int) := (List.range k).map fun i => (i, F i, T i)
theorem upto_succ (F T : Nat → Int) (k : Nat) : upto F T (k + 1) = upto F T k ++ [(k, F k, T k)] := by simp [upto, List.range_succ]
theorem upto_length (F T : Nat → Int) (k : Nat) : (upto F T k).length = k := by simp [upto]
def spanOf (x : Nat × Int × Int) : Array Value := #[.int .i64 (x.1 : Int), .agg #[.int .i64 x.2.1, .int .i64 x.2.2]]

section
variable {w : World} {b : Nat} {F T : Nat → Int} {n : Nat} {d fl lg wh ct du : Int} (h : Trk w b F T n d fl lg wh ct du)
include h
theorem Trk.gF (k : Nat) (hk : k < 17) : w.cell? ⟨b, k * 2, none⟩ = some (.int .i64 (F k)) := At.cell h _ (trk_F F T n d fl lg wh ct du k hk)
theorem Trk.gT (k : Nat) (hk : k < 17) : w.cell? ⟨b, k * 2 + 1, none⟩ = some (.int .i64 (T k)) := At.cell h _ (trk_T F T n d fl lg wh ct du k hk)
theorem Trk.gn : w.cell? ⟨b, 34, none⟩ = some (.int .i64 n) := At.cell h 34 rfl
theorem Trk.gd : w.cell? ⟨b, 35, none⟩ = some (.int .i64 d) := At.cell h 35 rfl
theorem Trk.gfl : w.cell? ⟨b, 36, none⟩ = some (.int .i64 fl) := At.cell h 36 rfl
theorem Trk.glg : w.cell? ⟨b, 37, none⟩ = some (.int .i64 lg) := At.cell h 37 rfl
theorem Trk.gwh : w.cell? ⟨b, 38, none⟩ = some (.int .i64 wh) := At.cell h 38 rfl
theorem Trk.gct : w.cell? ⟨b, 39, none⟩ = some (.int .i64 ct) := At.cell h 39 rfl
theorem Trk.gdu : w.cell? ⟨b, 40, none⟩ = some (.int .i64 du) := At.cell h 40 rfl
end

/-- The blocks b and c are as they were. -/
def Two (b c : Nat) (W W' : World) : Prop := W'.heap[b]? = W.heap[b]? ∧ W'.heap[c]? = W.heap[c]?
theorem Two.refl (b c : Nat) (W : World) : Two b c W W := ⟨rfl, rfl⟩
theorem Two.trans {b c : Nat} {A B C : World} (h : Two b c A B) (k : Two b c B C) : Two b c A C := ⟨k.1.trans h.1, k.2.trans h.2⟩
theorem Two.put {b c n : Nat} (hb : b < n) (hc : c < n) (W : World) (l : Nat) (o o' : Obj) (hl : n ≤ l) (_h : W.heap[l]? = some o) (_h1 : o.isCells = false) (_h2 : o.isWalk = false) : Two b c W (W.putObj l o') :=
  ⟨World.putObj_heap_other (by omega), World.putObj_heap_other (by omega)⟩
theorem Two.of_below {b c n : Nat} {W W' : World} (h : Below n W W') (hb : b < n) (hc : c < n) : Two b c W W' := ⟨h.block b hb, h.block c hc⟩
theorem Two.trk {b c : Nat} {W W' : World} (h : Two b c W W') {F T : Nat → Int} {n : Nat} {d fl lg wh ct du : Int} (k : Trk W b F T n d fl lg wh ct du) : Trk W' b F T n d fl lg wh ct du := h.1.trans k
theorem Two.box {b c : Nat} {W W' : World} (h : Two b c W W') {v : Value} (k : W.cell? ⟨c, 0, none⟩ = some v) : W'.cell? ⟨c, 0, none⟩ = some v := (World.cell?_of_block (w := W) h.2).trans k

set_option maxRecDepth 100000 in
set_option maxHeartbeats 2000000 in
theorem all1_in (F0 : Fence) (m : Nat) (hf : F0.fn 44) (hro : F0.round = none) (hm : 1 ≤ m) (l Bs b : Nat) (F T : Nat → Int) (n : Nat) (d fl lg wh ct du : Int) (hn : n ≤ 17) (J Jx : List (Nat × Int × Int) → World → Prop)
    (hY : ∀ pre x W, J pre W → pre.length < n → YieldAt F0 (m - 1) Try.prog l (spanOf x) W fun e W' =>
      (e = .returned (.bool true) ∧ J (pre ++ [x]) W' ∧ Two b Bs W W') ∨ (e = .returned (.bool false) ∧ Jx (pre ++ [x]) W'))
    (W : World) (hBs : W.cell? ⟨Bs, 0, none⟩ = some (.pointer (some ⟨b, 0, none⟩))) (hT : Trk W b F T n d fl lg wh ct du) (h0 : J [] W) :
    CallsIn F0 m Try.prog 44 #[.func (.yield l) #[] #[], .pointer (some ⟨Bs, 0, none⟩)] W fun e W' => (∃ v, e = .returned v) ∧
      ((∃ ys, ys = upto F T n ∧ J ys W') ∨ (∃ pre, (∃ k, k ≤ n ∧ pre = upto F T k) ∧ Jx pre W')) := by
  have hcn := hT.gn
  have HT := Lib.hid hT; clear hT
  refine callsIn_of_wp Try.func44 rfl hf ?_ hro
  simp only [Try.ntmps44, List.size_toArray, List.length_cons, List.length_nil, Nat.reduceAdd, Nat.reduceSub, Array.replicate_succ, Array.replicate_zero, List.push_toArray, List.append_toArray, List.nil_append, List.cons_append]
  gi_wp2
  gi_loopw [8] (fun i wr => ∃ k : Nat, k ≤ n ∧ i = .int .i64 k ∧ J (upto F T k) wr ∧ Two b Bs W wr)
    (fun i _ => n - (intOf i).toNat)
  case atStart => exact ⟨0, Nat.zero_le _, rfl, h0, Two.refl _ _ _⟩
  case round =>
    obtain ⟨k, hk, rfl, hJs, hnx⟩ := hrel
    have HT2 := Lib.hid (hnx.trk HT.out)
    have hB2 := hnx.box hBs
    clear hBs hcn
    by_cases hlt : k < n
    · obtain ⟨fn, tmps, assign, body, hy, hR⟩ := hY _ (k, F k, T k) wr hJs (by rw [upto_length]; exact hlt)
      simp only [spanOf] at hy
      have hcF := HT2.out.gF k (by omega)
      have hcT := HT2.out.gT k (by omega)
      gi_wp2
      refine hR.mono ?_
      rintro e W3 (⟨rfl, hJ3, hk3⟩ | ⟨rfl, hJx3⟩)
      · gi_wp2
        go_roundw
        case rel => exact ⟨k + 1, by omega, by simp, by rw [upto_succ]; exact hJ3, hnx.trans hk3⟩
        case measure => simp [intOf]; omega
      · gi_wp2
        refine bodyPost_ret (results_none rfl _ _ _) rfl ?_
        exact ⟨⟨_, rfl⟩, .inr ⟨_, ⟨k + 1, by omega, (upto_succ _ _ _).symm⟩, hJx3⟩⟩
    · obtain rfl : k = n := by omega
      gi_wp2
      go_end0
      exact ⟨⟨_, rfl⟩, .inl ⟨_, rfl, hJs⟩⟩

set_option maxHeartbeats 1000000 in
theorem all_in (F0 : Fence) (m : Nat) (hf : F0.fn 34) (hro : F0.round = none) (a : Option Addr) (w : World) :
    CallsIn F0 m Try.prog 34 #[.pointer a] w fun e w' => e = .returned (.func (.func 44) #[] #[.pointer (some ⟨w.heap.size, 0, none⟩)]) ∧ w' = w.alloc (.cells #[.pointer a] 80) := by
  refine callsIn_of_wp Try.func34 rfl hf ?_ hro
  simp only [Try.ntmps34, List.size_toArray, List.length_cons, List.length_nil, Nat.reduceAdd, Nat.reduceSub, Array.replicate_succ, Array.replicate_zero, List.push_toArray, List.append_toArray, List.nil_append, List.cons_append]
  gi_wp2
  go_ret
  exact ⟨rfl, rfl⟩

theorem all_stops (F0 : Fence) (m : Nat) (hf : F0.fn 44) (hro : F0.round = none) (hm : 1 ≤ m) (Bs b : Nat) (F T : Nat → Int) (n : Nat) (d fl lg wh ct du : Int) (hn : n ≤ 17) (w : World) (hBl : Bs < w.heap.size) (hbl : b < w.heap.size)
    (hBs : w.cell? ⟨Bs, 0, none⟩ = some (.pointer (some ⟨b, 0, none⟩))) (hT : Trk w b F T n d fl lg wh ct du) :
    SeqStopsK F0 m Try.prog 44 #[.pointer (some ⟨Bs, 0, none⟩)] spanOf (Two b Bs) (fun ys => ys = upto F T n)
      (fun pre => ∃ k, k ≤ n ∧ pre = upto F T k) n w := fun l J Jx W hW _ _ hY h0 =>
  all1_in F0 m hf hro hm l Bs b F T n d fl lg wh ct du hn J Jx hY W ((Two.of_below hW hbl hBl).box hBs) ((Two.of_below hW hbl hBl).trk hT) h0
end Go.Proofs.Ythjlkiilkiggiaa
