/- Package reassembly: the buffer in memory; New, Offset, Highest, Final, Ready, the end of a piece. -/
import Derived.Test.YtgiekhohhogdiaaDoorRgA
import Derived.Test.YtgiekhohhogdiaaDoorRfB
import Derived.Test.YtgiekhohhogdiaaDoorRgB
import Derived.RegionTactic
import Derived.BigRegion
import Derived.BigQuiet
import Derived.Deep.QuietTactic
import Derived.Deep.RegionWith
import Derived.LoopTactic
import Derived.Deep.OwnRows
namespace Go.Proofs.YtgiekhohhogdiaaDoor
open Go Go.RowKit
set_option linter.unusedVariables false
set_option linter.unusedSectionVars false
set_option linter.unusedSimpArgs false

/-- A block of n bytes. -/
def RowB (w : World) (g n : Nat) (B : Nat → UInt8) : Prop := ∃ cs, At w g 5 cs ∧ cs.size = n ∧ ∀ k, k < n → cs[k]? = some (.int .u8 (B k).toNat)
/-- A block of n marks. -/
def RowH (w : World) (g n : Nat) (H : Nat → Bool) : Prop := ∃ cs, At w g 4 cs ∧ cs.size = n ∧ ∀ k, k < n → cs[k]? = some (.bool (H k))
section
variable {w w' : World} {g n : Nat} {B : Nat → UInt8} {H : Nat → Bool}
theorem RowB.cell (h : RowB w g n B) (k : Nat) (hk : k < n) : w.cell? ⟨g, k, none⟩ = some (.int .u8 (B k).toNat) := by obtain ⟨cs, a, b, c⟩ := h; exact a.cell k (c k hk)
theorem RowH.cell (h : RowH w g n H) (k : Nat) (hk : k < n) : w.cell? ⟨g, k, none⟩ = some (.bool (H k)) := by obtain ⟨cs, a, b, c⟩ := h; exact a.cell k (c k hk)
theorem RowB.free (h : RowB w g n B) (k : Nat) : w.frozen? ⟨g, k, none⟩ = false := by obtain ⟨cs, a, b, c⟩ := h; exact a.free k
theorem RowH.free (h : RowH w g n H) (k : Nat) : w.frozen? ⟨g, k, none⟩ = false := by obtain ⟨cs, a, b, c⟩ := h; exact a.free k
theorem RowB.lt (h : RowB w g n B) : g < w.heap.size := by obtain ⟨cs, a, b, c⟩ := h; exact a.lt
theorem RowH.lt (h : RowH w g n H) : g < w.heap.size := by obtain ⟨cs, a, b, c⟩ := h; exact a.lt
theorem RowB.block (h : RowB w g n B) (hb : w'.heap[g]? = w.heap[g]?) : RowB w' g n B := by obtain ⟨cs, a, b, c⟩ := h; exact ⟨cs, hb.trans a, b, c⟩
theorem RowH.block (h : RowH w g n H) (hb : w'.heap[g]? = w.heap[g]?) : RowH w' g n H := by obtain ⟨cs, a, b, c⟩ := h; exact ⟨cs, hb.trans a, b, c⟩
theorem RowB.put (h : RowB w g n B) (k : Nat) (v : UInt8) : RowB (w.setCell ⟨g, k, none⟩ (.int .u8 v.toNat)) g n (fun i => if i = k then v else B i) := by
  obtain ⟨cs, a, b, c⟩ := h
  refine ⟨_, a.set k _ rfl, by simpa using b, fun i hi => ?_⟩
  by_cases e : i = k
  · subst e; rw [Array.getElem?_setIfInBounds, if_pos rfl, if_pos (by omega)]; simp
  · rw [Array.getElem?_setIfInBounds, if_neg (fun h => e h.symm)]; simp only [if_neg e]; exact c i hi
theorem RowH.put (h : RowH w g n H) (k : Nat) (v : Bool) : RowH (w.setCell ⟨g, k, none⟩ (.bool v)) g n (fun i => if i = k then v else H i) := by
  obtain ⟨cs, a, b, c⟩ := h
  refine ⟨_, a.set k _ rfl, by simpa using b, fun i hi => ?_⟩
  by_cases e : i = k
  · subst e; rw [Array.getElem?_setIfInBounds, if_pos rfl, if_pos (by omega)]; simp
  · rw [Array.getElem?_setIfInBounds, if_neg (fun h => e h.symm)]; simp only [if_neg e]; exact c i hi
theorem RowB.far (h : RowB w g n B) {p : Addr} (hp : g ≠ p.block) (u : Value) : RowB (w.setCell p u) g n B := h.block (Below.heap_setCell w p u g hp)
theorem RowH.far (h : RowH w g n H) {p : Addr} (hp : g ≠ p.block) (u : Value) : RowH (w.setCell p u) g n H := h.block (Below.heap_setCell w p u g hp)
theorem RowB.congr {B' : Nat → UInt8} (h : RowB w g n B) (he : ∀ k, k < n → B k = B' k) : RowB w g n B' := by obtain ⟨cs, a, b, c⟩ := h; exact ⟨cs, a, b, fun k hk => by rw [c k hk, he k hk]⟩
theorem RowH.congr {H' : Nat → Bool} (h : RowH w g n H) (he : ∀ k, k < n → H k = H' k) : RowH w g n H' := by obtain ⟨cs, a, b, c⟩ := h; exact ⟨cs, a, b, fun k hk => by rw [c k hk, he k hk]⟩
end
/-- The six cells of a buffer. -/
def bufCells (g1 g2 : Nat) (x : Bf) : Array Value := #[.int .i64 x.pos, .slice (some ⟨g1, 0, none⟩) x.n x.n, .slice (some ⟨g2, 0, none⟩) x.n x.n, .int .i64 x.hi, .int .i64 x.fin, .bool x.kn]
/-- The buffer x lies in the blocks b, g1, g2. -/
structure BufAt (w : World) (b g1 g2 : Nat) (x : Bf) : Prop where
  at_ : At w b 51 (bufCells g1 g2 x)
  rb : RowB w g1 x.n x.B
  rh : RowH w g2 x.n x.H
  d1 : b ≠ g1
  d2 : b ≠ g2
  d3 : g1 ≠ g2
  n1 : x.n ≤ 8192
  n0 : 1 ≤ x.n
  p0 : 0 ≤ x.pos
  p1 : x.pos ≤ 1099511627776
  h0 : 0 ≤ x.hi
  h1 : x.hi ≤ 1099511627776
section
variable {w w' : World} {b g1 g2 : Nat} {x : Bf}
theorem BufAt.c0 (h : BufAt w b g1 g2 x) : w.cell? ⟨b, 0, none⟩ = some (.int .i64 x.pos) := h.at_.cell 0 rfl
theorem BufAt.c1 (h : BufAt w b g1 g2 x) : w.cell? ⟨b, 1, none⟩ = some (.slice (some ⟨g1, 0, none⟩) x.n x.n) := h.at_.cell 1 rfl
theorem BufAt.c2 (h : BufAt w b g1 g2 x) : w.cell? ⟨b, 2, none⟩ = some (.slice (some ⟨g2, 0, none⟩) x.n x.n) := h.at_.cell 2 rfl
theorem BufAt.c3 (h : BufAt w b g1 g2 x) : w.cell? ⟨b, 3, none⟩ = some (.int .i64 x.hi) := h.at_.cell 3 rfl
theorem BufAt.c4 (h : BufAt w b g1 g2 x) : w.cell? ⟨b, 4, none⟩ = some (.int .i64 x.fin) := h.at_.cell 4 rfl
theorem BufAt.c5 (h : BufAt w b g1 g2 x) : w.cell? ⟨b, 5, none⟩ = some (.bool x.kn) := h.at_.cell 5 rfl
theorem BufAt.keep {S : List Nat} (h : BufAt w b g1 g2 x) (ho : Only S w w') (k0 : b ∉ S) (k1 : g1 ∉ S) (k2 : g2 ∉ S) : BufAt w' b g1 g2 x :=
  ⟨h.at_.keep ho k0, h.rb.block (ho.block _ h.rb.lt k1), h.rh.block (ho.block _ h.rh.lt k2), h.d1, h.d2, h.d3, h.n1, h.n0, h.p0, h.p1, h.h0, h.h1⟩
theorem BufAt.alloc (h : BufAt w b g1 g2 x) (o : Obj) : BufAt (w.alloc o) b g1 g2 x := h.keep (S := []) ((Only.refl _ _).alloc o) (by simp) (by simp) (by simp)
theorem BufAt.drewN (h : BufAt w b g1 g2 x) (k : Nat) : BufAt (w.drewN k) b g1 g2 x := h.keep (S := []) ((Only.refl _ _).drewN k) (by simp) (by simp) (by simp)
theorem BufAt.below {C : Nat} (h : BufAt w b g1 g2 x) (ho : Below C w w') (hC : w.heap.size ≤ C) : BufAt w' b g1 g2 x :=
  h.keep (S := []) (Only.of_below (ho.mono hC)) (by simp) (by simp) (by simp)
theorem BufAt.lt (h : BufAt w b g1 g2 x) : b < w.heap.size ∧ g1 < w.heap.size ∧ g2 < w.heap.size := ⟨h.at_.lt, h.rb.lt, h.rh.lt⟩
end

theorem A_infoB : (Tryd.prog.info? 4).map (fun i => (i.zero, i.size, i.bytes)) = some (some (.bool false), 1, 1) := by kernel_rfl
theorem make_b (n : Nat) (hn : n ≤ 8192) (w : World) : (Instr.makeSlice 46 (.int .i64 n) (.int .i64 n)).run Tryd.prog w = .ok (.slice (some ⟨w.heap.size, 0, none⟩) n n) (w.alloc (.cells (madeCells #[.int .u8 0] n) 5)) :=
  run_make_row' _ _ _ 1 Tryd.underlying46 A_info8 rfl .i64 .i64 n (by omega) (by omega) w
theorem make_h (n : Nat) (hn : n ≤ 8192) (w : World) : (Instr.makeSlice 47 (.int .i64 n) (.int .i64 n)).run Tryd.prog w = .ok (.slice (some ⟨w.heap.size, 0, none⟩) n n) (w.alloc (.cells (madeCells #[.bool false] n) 4)) :=
  run_make_row' _ _ _ 1 Tryd.underlying47 A_infoB rfl .i64 .i64 n (by omega) (by omega) w
theorem made_get (v : Value) (n k : Nat) (hk : k < n) : (madeCells #[v] n)[k]? = some v := by simp [madeCells, hk, Nat.mod_one]
theorem row_made_b {w : World} {g n : Nat} (h : At w g 5 (madeCells #[.int .u8 0] n)) : RowB w g n (fun _ => 0) := ⟨_, h, by simp [madeCells], fun k hk => made_get _ n k hk⟩
theorem row_made_h {w : World} {g n : Nat} (h : At w g 4 (madeCells #[.bool false] n)) : RowH w g n (fun _ => false) := ⟨_, h, by simp [madeCells], fun k hk => made_get _ n k hk⟩

theorem new_at1 (n : Nat) (w : World) (h1 : 1 ≤ n) (h2 : n ≤ 8192) : BufAt (((w.alloc (.cells (madeCells #[.int .u8 0] n) 5)).alloc (.cells (madeCells #[.bool false] n) 4)).alloc (.cells (bufCells w.heap.size (w.heap.size + 1) (Bf.new n)) 51)).drew (w.heap.size + 1 + 1) w.heap.size (w.heap.size + 1) (Bf.new n) := by
  refine ⟨?_, ?_, ?_, by omega, by omega, by omega, h2, h1, by simp [Bf.new], by simp [Bf.new], by simp [Bf.new], by simp [Bf.new]⟩
  · have := At.new ((w.alloc (.cells (madeCells #[.int .u8 0] n) 5)).alloc (.cells (madeCells #[.bool false] n) 4)) 51 (bufCells w.heap.size (w.heap.size + 1) (Bf.new n))
    simpa using this.drew
  · exact row_made_b (((At.new w _ _).alloc _).alloc _).drew
  · have := At.new (w.alloc (.cells (madeCells #[.int .u8 0] n) 5)) 4 (madeCells #[.bool false] n)
    exact row_made_h (n := n) (by simpa using (this.alloc _).drew)
theorem new_at2 (n : Nat) (w : World) (h1 : 1 ≤ n) (h2 : n ≤ 8192) : BufAt (((w.alloc (.cells (madeCells #[.bool false] n) 4)).alloc (.cells (madeCells #[.int .u8 0] n) 5)).alloc (.cells (bufCells (w.heap.size + 1) w.heap.size (Bf.new n)) 51)).drew (w.heap.size + 1 + 1) (w.heap.size + 1) w.heap.size (Bf.new n) := by
  refine ⟨?_, ?_, ?_, by omega, by omega, by omega, h2, h1, by simp [Bf.new], by simp [Bf.new], by simp [Bf.new], by simp [Bf.new]⟩
  · have := At.new ((w.alloc (.cells (madeCells #[.bool false] n) 4)).alloc (.cells (madeCells #[.int .u8 0] n) 5)) 51 (bufCells (w.heap.size + 1) w.heap.size (Bf.new n))
    simpa using this.drew
  · have := At.new (w.alloc (.cells (madeCells #[.bool false] n) 4)) 5 (madeCells #[.int .u8 0] n)
    exact row_made_b (n := n) (by simpa using (this.alloc _).drew)
  · exact row_made_h (((At.new w _ _).alloc _).alloc _).drew
set_option maxRecDepth 100000 in
set_option maxHeartbeats 1000000 in
theorem new_c (n : Nat) (w : World) (h1 : 1 ≤ n) (h2 : n ≤ 8192) : Calls Tryd.prog 7 #[.int .i64 n] w fun e w' => ∃ b g1 g2, e = .returned (.tuple #[.pointer (some ⟨b, 0, none⟩), .int .i64 0]) ∧ BufAt w' b g1 g2 (Bf.new n) ∧ Only [] w w' ∧ w.heap.size ≤ b ∧ w.heap.size ≤ g1 ∧ w.heap.size ≤ g2 := by
  have m1 := make_b n h2
  have m2 := make_h n h2
  have k1 : (1 : Int) ≤ n := by omega
  have k2 : (n : Int) ≤ 8192 := by omega
  go_enter Tryd.func7, Tryd.ntmps7
  go_wp2
  go_region
  all_goals go_wp2
  all_goals go_ret2
  · exact ⟨_, _, _, rfl, new_at1 n w h1 h2, ((((Only.refl _ _).alloc _).alloc _).alloc _).drew, by omega, by omega, by omega⟩
  · exact ⟨_, _, _, rfl, new_at2 n w h1 h2, ((((Only.refl _ _).alloc _).alloc _).alloc _).drew, by omega, by omega, by omega⟩
theorem new_bad (n : Int) (w : World) (h : n < 1 ∨ 8192 < n) : Calls Tryd.prog 7 #[.int .i64 n] w fun e w' => e = .returned (.tuple #[.pointer none, .int .i64 2]) ∧ w = w' := by
  by_cases h1 : n < 1
  · go_enter Tryd.func7, Tryd.ntmps7
    go_wp2
    go_ret2
    exact ⟨rfl, rfl⟩
  · have h2 : 8192 < n := by omega
    go_enter Tryd.func7, Tryd.ntmps7
    go_wp2
    go_ret2
    exact ⟨rfl, rfl⟩
section
variable (b g1 g2 : Nat) (x : Bf) (w : World) (hA : BufAt w b g1 g2 x)
include hA
theorem offset_c : Calls Tryd.prog 14 #[.pointer (some ⟨b, 0, none⟩)] w fun e w' => e = .returned (.int .i64 x.pos) ∧ w = w' := by
  have c0 := hA.c0
  go_enter Tryd.func14, Tryd.ntmps14
  go_wp2
  go_ret
  exact ⟨rfl, rfl⟩
theorem highest_c : Calls Tryd.prog 15 #[.pointer (some ⟨b, 0, none⟩)] w fun e w' => e = .returned (.int .i64 x.hi) ∧ w = w' := by
  have c0 := hA.c3
  go_enter Tryd.func15, Tryd.ntmps15
  go_wp2
  go_ret
  exact ⟨rfl, rfl⟩
theorem final_c : Calls Tryd.prog 13 #[.pointer (some ⟨b, 0, none⟩)] w fun e w' => e = .returned (.tuple #[.int .i64 x.fin, .bool x.kn]) ∧ BufAt w' b g1 g2 x ∧ Only [] w w' := by
  have c4 := hA.c4
  have c5 := hA.c5
  have HA := Lib.hid hA; clear hA
  go_enter Tryd.func13, Tryd.ntmps13
  go_wp2
  go_quiet (fail)
  go_wp2
  go_ret2
  exact ⟨rfl, HA.out.drewN _, (Only.refl _ _).drewN _⟩
def RRel (w : World) (n : Nat) (H : Nat → Bool) (i : Value) (wr : World) : Prop := ∃ k : Nat, i = .int .i64 k ∧ k ≤ n ∧ (∀ j, j < k → H j = true) ∧ wr = w
set_option maxRecDepth 100000 in
set_option maxHeartbeats 1000000 in
theorem wready_c : Calls Tryd.prog 23 #[.pointer (some ⟨b, 0, none⟩)] w fun e w' => e = .returned (.int .i64 x.ready) ∧ w = w' := by
  have c2 := hA.c2
  have hn := hA.n1
  have HA := Lib.hid hA; clear hA
  go_enter Tryd.func23, Tryd.ntmps23
  go_wp2
  go_loopw [3, 4, 10] (fun _ _ i wr => RRel w x.n x.H i wr) (fun _ _ i _ => x.n - (intOf i).toNat)
  case atStart => exact ⟨0, rfl, by omega, fun j hj => by omega, rfl⟩
  case round =>
    obtain ⟨k, rfl, hk, hj, rfl⟩ := hrel
    by_cases hlt : k < x.n
    · have q := HA.out.rh.cell k hlt
      have hlt' : (k : Int) < x.n := by omega
      cases hH : x.H k with
      | true =>
        rw [hH] at q
        go_wp2
        exact ⟨⟨k + 1, rfl, by omega, fun j hj2 => by
          by_cases e : j = k
          · rw [e]; exact hH
          · exact hj j (by omega), rfl⟩, by simp [intOf] <;> omega⟩
      | false =>
        rw [hH] at q
        have hr : x.ready = k := rdy_uniq _ _ _ (by omega) hj (fun _ => hH)
        go_wp2
        go_ret
        exact ⟨by rw [hr]; rfl, rfl⟩
    · obtain rfl : k = x.n := by omega
      have hr : x.ready = x.n := rdy_uniq _ _ _ (by omega) hj (fun h => by omega)
      go_wp2
      go_ret
      exact ⟨by rw [hr]; rfl, rfl⟩
theorem ready_c : Calls Tryd.prog 12 #[.pointer (some ⟨b, 0, none⟩)] w fun e w' => e = .returned (.int .i64 x.ready) ∧ w = w' := by
  have c2 := hA.c2
  have HA := Lib.hid hA; clear hA
  go_enter Tryd.func12, Tryd.ntmps12
  go_wp2_with fail
  refine (wready_c b g1 g2 x _ HA.out).mono ?_
  rintro e w' ⟨rfl, rfl⟩
  go_wp2_with fail
  go_ret
  exact ⟨rfl, rfl⟩
end
theorem end_c (off : Int) (s : ByteArray) (f : Bool) (w : World) (h0 : -1000000000000000 ≤ off) (h1 : off ≤ 1000000000000000) (hs : s.size ≤ 8192) : Calls Tryd.prog 33 #[.agg #[.int .i64 off, .string s, .bool f]] w fun e w' => e = .returned (.int .i64 (off + s.size)) ∧ w' = w.alloc (.cells #[.int .i64 off, .string s, .bool f] 66) := by
  go_enter Tryd.func33, Tryd.ntmps33
  go_wp2
  go_ret
  exact ⟨rfl, rfl⟩
end Go.Proofs.YtgiekhohhogdiaaDoor
