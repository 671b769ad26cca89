/- Contracts of the reference implementation of reassembly: New, Ready, Final. -/
import Derived.Test.YtnnmmmeppbdlnaaDoorSnR
namespace Go.Proofs.YtnnmmmeppbdlnaaDoor
open Go Go.RowKit
set_option linter.unusedVariables false
set_option linter.unusedSectionVars false
set_option linter.unusedSimpArgs false

/-- The six cells of a reference buffer. -/
def xCells (g1 g2 c1 c2 : Nat) (x : Bf) : Array Value := #[.int .i64 x.n, .int .i64 x.pos, .slice (some ⟨g1, 0, none⟩) x.n c1, .slice (some ⟨g2, 0, none⟩) x.n c2, .int .i64 x.hi, .int .i64 (if x.kn then x.fin else -1)]
/-- A block whose first n cells are the bytes B. -/
def RowP (w : World) (g n : Nat) (B : Nat → UInt8) : Prop := ∃ cs, At w g 5 cs ∧ n ≤ cs.size ∧ ∀ k, k < n → cs[k]? = some (.int .u8 (B k).toNat)
/-- A block whose first n cells are the marks H. -/
def RowQ (w : World) (g n : Nat) (H : Nat → Bool) : Prop := ∃ cs, At w g 4 cs ∧ n ≤ cs.size ∧ ∀ k, k < n → cs[k]? = some (.bool (H k))
section
variable {w w' : World} {g n : Nat} {B : Nat → UInt8} {H : Nat → Bool}
theorem RowP.cell (h : RowP w g n B) (k : Nat) (hk : k < n) : w.cell? ⟨g, k, none⟩ = some (.int .u8 (B k).toNat) := by obtain ⟨cs, a, b, c⟩ := h; exact a.cell k (c k hk)
theorem RowQ.cell (h : RowQ w g n H) (k : Nat) (hk : k < n) : w.cell? ⟨g, k, none⟩ = some (.bool (H k)) := by obtain ⟨cs, a, b, c⟩ := h; exact a.cell k (c k hk)
theorem RowP.free (h : RowP w g n B) (k : Nat) : w.frozen? ⟨g, k, none⟩ = false := by obtain ⟨cs, a, b, c⟩ := h; exact a.free k
theorem RowQ.free (h : RowQ w g n H) (k : Nat) : w.frozen? ⟨g, k, none⟩ = false := by obtain ⟨cs, a, b, c⟩ := h; exact a.free k
theorem RowP.lt (h : RowP w g n B) : g < w.heap.size := by obtain ⟨cs, a, b, c⟩ := h; exact a.lt
theorem RowQ.lt (h : RowQ w g n H) : g < w.heap.size := by obtain ⟨cs, a, b, c⟩ := h; exact a.lt
theorem RowP.block (h : RowP w g n B) (hb : w'.heap[g]? = w.heap[g]?) : RowP w' g n B := by obtain ⟨cs, a, b, c⟩ := h; exact ⟨cs, hb.trans a, b, c⟩
theorem RowQ.block (h : RowQ w g n H) (hb : w'.heap[g]? = w.heap[g]?) : RowQ w' g n H := by obtain ⟨cs, a, b, c⟩ := h; exact ⟨cs, hb.trans a, b, c⟩
theorem RowP.far (h : RowP w g n B) {p : Addr} (hp : g ≠ p.block) (u : Value) : RowP (w.setCell p u) g n B := h.block (Below.heap_setCell w p u g hp)
theorem RowQ.far (h : RowQ w g n H) {p : Addr} (hp : g ≠ p.block) (u : Value) : RowQ (w.setCell p u) g n H := h.block (Below.heap_setCell w p u g hp)
theorem RowP.congr {B' : Nat → UInt8} (h : RowP w g n B) (he : ∀ k, k < n → B k = B' k) : RowP w g n B' := by obtain ⟨cs, a, b, c⟩ := h; exact ⟨cs, a, b, fun k hk => by rw [c k hk, he k hk]⟩
theorem RowQ.congr {H' : Nat → Bool} (h : RowQ w g n H) (he : ∀ k, k < n → H k = H' k) : RowQ w g n H' := by obtain ⟨cs, a, b, c⟩ := h; exact ⟨cs, a, b, fun k hk => by rw [c k hk, he k hk]⟩
theorem RowP.put (h : RowP w g n B) (k : Nat) (v : UInt8) : RowP (w.setCell ⟨g, k, none⟩ (.int .u8 v.toNat)) g n (fun i => if i = k then v else B i) := by
  obtain ⟨cs, a, b, c⟩ := h
  refine ⟨_, a.set k _ rfl, by simpa using b, fun i hi => ?_⟩
  by_cases e : i = k
  · subst e; rw [Array.getElem?_setIfInBounds, if_pos rfl, if_pos (by omega)]; simp
  · rw [Array.getElem?_setIfInBounds, if_neg (fun h => e h.symm)]; simp only [if_neg e]; exact c i hi
theorem RowQ.put (h : RowQ w g n H) (k : Nat) (v : Bool) : RowQ (w.setCell ⟨g, k, none⟩ (.bool v)) g n (fun i => if i = k then v else H i) := by
  obtain ⟨cs, a, b, c⟩ := h
  refine ⟨_, a.set k _ rfl, by simpa using b, fun i hi => ?_⟩
  by_cases e : i = k
  · subst e; rw [Array.getElem?_setIfInBounds, if_pos rfl, if_pos (by omega)]; simp
  · rw [Array.getElem?_setIfInBounds, if_neg (fun h => e h.symm)]; simp only [if_neg e]; exact c i hi
theorem RowB.part (h : RowB w g n B) : RowP w g n B := by obtain ⟨cs, a, b, c⟩ := h; exact ⟨cs, a, by omega, c⟩
theorem RowH.part (h : RowH w g n H) : RowQ w g n H := by obtain ⟨cs, a, b, c⟩ := h; exact ⟨cs, a, by omega, c⟩
end
/-- The reference buffer of x lies in the blocks b, g1, g2. -/
structure XBuf (w : World) (b g1 g2 c1 c2 : Nat) (x : Bf) : Prop where
  at_ : At w b 42 (xCells g1 g2 c1 c2 x)
  rb : RowP w g1 x.n x.B
  rh : RowQ w g2 x.n x.H
  d1 : b ≠ g1
  d2 : b ≠ g2
  d3 : g1 ≠ g2
  k1 : x.n ≤ c1
  k2 : x.n ≤ c2
  n1 : x.n ≤ 8192
  n0 : 1 ≤ x.n
  p0 : 0 ≤ x.pos
  p1 : x.pos ≤ 1099511627776
  h0 : 0 ≤ x.hi
  h1 : x.hi ≤ 1099511627776
  f0 : 0 ≤ x.fin
  f1 : x.fin ≤ 1099511627776
section
variable {w w' : World} {b g1 g2 c1 c2 : Nat} {x : Bf}
theorem XBuf.q0 (h : XBuf w b g1 g2 c1 c2 x) : w.cell? ⟨b, 0, none⟩ = some (.int .i64 x.n) := h.at_.cell 0 rfl
theorem XBuf.q1 (h : XBuf w b g1 g2 c1 c2 x) : w.cell? ⟨b, 1, none⟩ = some (.int .i64 x.pos) := h.at_.cell 1 rfl
theorem XBuf.q2 (h : XBuf w b g1 g2 c1 c2 x) : w.cell? ⟨b, 2, none⟩ = some (.slice (some ⟨g1, 0, none⟩) x.n c1) := h.at_.cell 2 rfl
theorem XBuf.q3 (h : XBuf w b g1 g2 c1 c2 x) : w.cell? ⟨b, 3, none⟩ = some (.slice (some ⟨g2, 0, none⟩) x.n c2) := h.at_.cell 3 rfl
theorem XBuf.q4 (h : XBuf w b g1 g2 c1 c2 x) : w.cell? ⟨b, 4, none⟩ = some (.int .i64 x.hi) := h.at_.cell 4 rfl
theorem XBuf.q5 (h : XBuf w b g1 g2 c1 c2 x) : w.cell? ⟨b, 5, none⟩ = some (.int .i64 (if x.kn then x.fin else -1)) := h.at_.cell 5 rfl
theorem XBuf.cb (h : XBuf w b g1 g2 c1 c2 x) (k : Nat) (hk : k < x.n) : w.cell? ⟨g1, k, none⟩ = some (.int .u8 (x.B k).toNat) := h.rb.cell k hk
theorem XBuf.ch (h : XBuf w b g1 g2 c1 c2 x) (k : Nat) (hk : k < x.n) : w.cell? ⟨g2, k, none⟩ = some (.bool (x.H k)) := h.rh.cell k hk
theorem XBuf.lt (h : XBuf w b g1 g2 c1 c2 x) : b < w.heap.size ∧ g1 < w.heap.size ∧ g2 < w.heap.size := ⟨h.at_.lt, h.rb.lt, h.rh.lt⟩
theorem XBuf.keep {S : List Nat} (h : XBuf w b g1 g2 c1 c2 x) (ho : Only S w w') (k0 : b ∉ S) (k1 : g1 ∉ S) (k2 : g2 ∉ S) : XBuf w' b g1 g2 c1 c2 x := by
  have hl := h.lt
  obtain ⟨a, hB, hH, r1, r2, r3, r4, r5, r6, r7, r8, r9, r10, r11, r12, r13⟩ := h
  exact ⟨a.keep ho k0, hB.block (ho.block _ hl.2.1 k1), hH.block (ho.block _ hl.2.2 k2), r1, r2, r3, r4, r5, r6, r7, r8, r9, r10, r11, r12, r13⟩
end
theorem xmake (w : World) (n : Nat) (hn : n ≤ 8192) (hn0 : 1 ≤ n) (w' : World) (g1 g2 b : Nat) (h1 : At w' g1 5 (madeCells #[.int .u8 0] n)) (h2 : At w' g2 4 (madeCells #[.bool false] n)) (h3 : At w' b 42 (xCells g1 g2 n n (Bf.new n))) (d1 : b ≠ g1) (d2 : b ≠ g2) (d3 : g1 ≠ g2) : XBuf w' b g1 g2 n n (Bf.new n) :=
  ⟨h3, (row_made_b h1).part, (row_made_h h2).part, d1, d2, d3, Nat.le_refl _, Nat.le_refl _, hn, hn0, by simp [Bf.new], by simp [Bf.new], by simp [Bf.new], by simp [Bf.new], by simp [Bf.new], by simp [Bf.new]⟩
set_option maxRecDepth 100000 in
set_option maxHeartbeats 1000000 in
theorem xnew_c (n : Nat) (w : World) (h1 : 1 ≤ n) (h2 : n ≤ 8192) : Calls Tryd.prog 13 #[.int .i64 n] w fun e w' => ∃ b g1 g2, e = .returned (.tuple #[.pointer (some ⟨b, 0, none⟩), .int .i64 0]) ∧ XBuf w' b g1 g2 n n (Bf.new n) ∧ Only [] w w' ∧ w.heap.size ≤ b ∧ w.heap.size ≤ g1 ∧ w.heap.size ≤ g2 := by
  have m1 := make_b n h2
  have m2 := make_h n h2
  have k1 : (1 : Int) ≤ n := by omega
  have k2 : (n : Int) ≤ 8192 := by omega
  go_enter Tryd.func13, Tryd.ntmps13
  go_wp2
  go_region
  all_goals go_wp2
  all_goals go_ret2
  · refine ⟨_, _, _, rfl, xmake w n h2 h1 _ w.heap.size (w.heap.size + 1) (w.heap.size + 1 + 1) ?_ ?_ ?_ (by omega) (by omega) (by omega), ((((Only.refl _ _).alloc _).alloc _).alloc _).drew, by omega, by omega, by omega⟩
    · exact (((At.new w _ _).alloc _).alloc _).drew
    · have := ((At.new (w.alloc (.cells (madeCells #[.int .u8 0] n) 5)) 4 (madeCells #[.bool false] n)).alloc (.cells (xCells w.heap.size (w.heap.size + 1) n n (Bf.new n)) 42)).drew
      simp only [World.size_alloc] at this
      exact this
    · have := (At.new ((w.alloc (.cells (madeCells #[.int .u8 0] n) 5)).alloc (.cells (madeCells #[.bool false] n) 4)) 42 (xCells w.heap.size (w.heap.size + 1) n n (Bf.new n))).drew
      simp only [World.size_alloc] at this
      exact this
  · refine ⟨_, _, _, rfl, xmake w n h2 h1 _ (w.heap.size + 1) w.heap.size (w.heap.size + 1 + 1) ?_ ?_ ?_ (by omega) (by omega) (by omega), ((((Only.refl _ _).alloc _).alloc _).alloc _).drew, by omega, by omega, by omega⟩
    · have := ((At.new (w.alloc (.cells (madeCells #[.bool false] n) 4)) 5 (madeCells #[.int .u8 0] n)).alloc (.cells (xCells (w.heap.size + 1) w.heap.size n n (Bf.new n)) 42)).drew
      simp only [World.size_alloc] at this
      exact this
    · exact (((At.new w _ _).alloc _).alloc _).drew
    · have := (At.new ((w.alloc (.cells (madeCells #[.bool false] n) 4)).alloc (.cells (madeCells #[.int .u8 0] n) 5)) 42 (xCells (w.heap.size + 1) w.heap.size n n (Bf.new n))).drew
      simp only [World.size_alloc] at this
      exact this
theorem xnew_bad (n : Int) (w : World) (h : n < 1 ∨ 8192 < n) : Calls Tryd.prog 13 #[.int .i64 n] w fun e w' => e = .returned (.tuple #[.pointer none, .int .i64 2]) ∧ w = w' := by
  by_cases h1 : n < 1
  · go_enter Tryd.func13, Tryd.ntmps13
    go_wp2
    go_ret2
    exact ⟨rfl, rfl⟩
  · have h2 : 8192 < n := by omega
    go_enter Tryd.func13, Tryd.ntmps13
    go_wp2
    go_ret2
    exact ⟨rfl, rfl⟩
section
variable (b g1 g2 c1 c2 : Nat) (x : Bf) (w : World) (hA : XBuf w b g1 g2 c1 c2 x)
include hA
theorem xfinal_c : Calls Tryd.prog 19 #[.pointer (some ⟨b, 0, none⟩)] w fun e w' => e = .returned (.tuple #[.int .i64 (if x.kn then x.fin else 0), .bool x.kn]) ∧ w = w' := by
  have c5 := hA.q5
  have f0 := hA.f0
  clear hA
  cases hk : x.kn with
  | true =>
    rw [hk] at c5
    have c5' : w.cell? ⟨b, 5, none⟩ = some (.int .i64 x.fin) := c5
    have d1 : ¬ x.fin < 0 := by omega
    clear c5 hk
    go_enter Tryd.func19, Tryd.ntmps19
    go_wp2
    go_ret2
    exact ⟨rfl, rfl⟩
  | false =>
    rw [hk] at c5
    have c5' : w.cell? ⟨b, 5, none⟩ = some (.int .i64 (-1)) := c5
    clear c5 hk
    go_enter Tryd.func19, Tryd.ntmps19
    go_wp2
    go_ret2
    exact ⟨rfl, rfl⟩
def XRel (w : World) (n : Nat) (H : Nat → Bool) (i : Value) (wr : World) : Prop := ∃ k : Nat, i = .int .i64 k ∧ k ≤ n ∧ (∀ j, j < k → H j = true) ∧ wr = w
set_option maxRecDepth 100000 in
set_option maxHeartbeats 1000000 in
theorem xready_c : Calls Tryd.prog 22 #[.pointer (some ⟨b, 0, none⟩)] w fun e w' => e = .returned (.int .i64 x.ready) ∧ w = w' := by
  have k0 := hA.q0
  have k3 := hA.q3
  have hn := hA.n1
  have HA := Lib.hid hA; clear hA
  go_enter Tryd.func22, Tryd.ntmps22
  go_wp2
  go_loopw [3] (fun i wr => XRel w x.n x.H i wr) (fun i _ => x.n - (intOf i).toNat)
  case atStart => exact ⟨0, rfl, by omega, fun j hj => by omega, rfl⟩
  case round =>
    obtain ⟨k, rfl, hk, hj, rfl⟩ := hrel
    by_cases hlt : k < x.n
    · have q := HA.out.ch k hlt
      have hlt' : (k : Int) < x.n := by omega
      have e1 : IntKind.i64.wrap ((k : Int) + 1) = k + 1 := IntWalk.i64_in _ (by omega)
      cases hH : x.H k with
      | true =>
        rw [hH] at q
        go_wp2
        exact ⟨⟨k + 1, by simp, by omega, fun j hj2 => by
          by_cases e : j = k
          · rw [e]; exact hH
          · exact hj j (by omega), rfl⟩, by simp [intOf] <;> omega⟩
      | false =>
        rw [hH] at q
        have hr : x.ready = k := rdy_uniq _ _ _ (by omega) hj (fun _ => hH)
        go_wp2
        go_ret
        exact ⟨by rw [hr]; rfl, rfl⟩
    · obtain rfl : k = x.n := by omega
      have hr : x.ready = x.n := rdy_uniq _ _ _ (by omega) hj (fun h => by omega)
      go_wp2
      go_ret
      exact ⟨by rw [hr]; rfl, rfl⟩
end
end Go.Proofs.YtnnmmmeppbdlnaaDoor
