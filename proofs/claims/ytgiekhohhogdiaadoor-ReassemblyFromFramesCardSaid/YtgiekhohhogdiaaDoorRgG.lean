/- Contracts of package reassembly: the four checks of a piece. -/
import Derived.Test.YtgiekhohhogdiaaDoorRgF
import Derived.StillTailTactics
import Derived.Deep.RegionHeld3
namespace Go.Proofs.YtgiekhohhogdiaaDoor
open Go Go.RowKit
set_option linter.unusedVariables false
set_option linter.unusedSectionVars false
set_option linter.unusedSimpArgs false

theorem agrees_c (b g1 g2 : Nat) (x : Bf) (off : Int) (s : ByteArray) (f : Bool) (hs : s.size ≤ 8192) (q0 : 0 ≤ off) (q1 : off ≤ 1099511627776) (w : World) (hA : BufAt w b g1 g2 x) :
    Calls Tryd.prog 57 #[.pointer (some ⟨b, 0, none⟩), .agg #[.int .i64 off, .string s, .bool f]] w fun e w' => e = .returned (.bool (x.agrB off s.data.toList)) ∧ Only [] w w' :=
  (callsIn_wide.1 (agrees_in 3 (by omega) b g1 g2 x off s f hs q0 q1 w hA)).mono fun e w' ⟨h1, h2⟩ => ⟨h1, Only.of_below h2⟩
theorem hold_c (b g1 g2 : Nat) (x : Bf) (off : Int) (s : ByteArray) (f : Bool) (hs : s.size ≤ 8192) (q0 : 0 ≤ off) (q1 : off ≤ 1099511627776) (w : World) (hA : BufAt w b g1 g2 x) :
    Calls Tryd.prog 32 #[.pointer (some ⟨b, 0, none⟩), .agg #[.int .i64 off, .string s, .bool f]] w fun e w' => e = .returned (.tuple #[]) ∧ BufAt w' b g1 g2 { x with B := (x.hold off s.data.toList f).B, H := (x.hold off s.data.toList f).H } ∧ Only [g1, g2] w w' :=
  callsIn_wide.1 (hold_in 3 (by omega) b g1 g2 x off s f hs q0 q1 w hA)

set_option maxHeartbeats 1000000 in
theorem chk1_c (off : Int) (s : ByteArray) (f : Bool) (w : World) : Calls Tryd.prog 56 #[.agg #[.int .i64 off, .string s, .bool f]] w fun e w' => e = .returned (.bool (Bf.argB off s.size)) ∧ Only [] w w' := by
  unfold Bf.argB
  by_cases h1 : 0 ≤ off
  · by_cases h2 : off ≤ 1099511627776
    · by_cases h3 : (s.size : Int) ≤ 8192
      · have h3' : s.size ≤ 8192 := by omega
        go_enter Tryd.func56, Tryd.ntmps56
        go_wp2_with fail
        refine (end_c off s f _ (by omega) (by omega) h3').mono ?_
        rintro e w' ⟨rfl, rfl⟩
        go_wp2_with fail
        go_ret
        exact ⟨by simp [h1, h2, h3'], (((Only.refl _ _).alloc _).alloc _)⟩
      · have h3' : ¬ s.size ≤ 8192 := by omega
        go_enter Tryd.func56, Tryd.ntmps56
        go_wp2_with fail
        go_ret
        exact ⟨by simp [h1, h2, h3'], ((Only.refl _ _).alloc _)⟩
    · go_enter Tryd.func56, Tryd.ntmps56
      go_wp2_with fail
      go_ret
      exact ⟨by simp [h1, h2] <;> (intros; omega), ((Only.refl _ _).alloc _)⟩
  · have h1' : ¬ off ≥ 0 := by omega
    go_enter Tryd.func56, Tryd.ntmps56
    go_wp2_with fail
    go_ret
    exact ⟨by simp [h1] <;> (intros; omega), ((Only.refl _ _).alloc _)⟩

section
variable (b g1 g2 : Nat) (x : Bf) (w : World) (hA : BufAt w b g1 g2 x)
include hA
set_option maxHeartbeats 1000000 in
theorem chk2_c (bx : Nat) (off : Int) (s : ByteArray) (f : Bool) (hs : s.size ≤ 8192) (q0 : 0 ≤ off) (q1 : off ≤ 1099511627776) (hb : At w bx 26 #[.pointer (some ⟨b, 0, none⟩)]) : Calls Tryd.prog 59 #[.agg #[.int .i64 off, .string s, .bool f], .pointer (some ⟨bx, 0, none⟩)] w fun e w' => e = .returned (.bool (decide (off + s.size ≤ x.pos + x.n))) ∧ Only [] w w' := by
  have c0 := hA.c0
  have c1 := hA.c1
  have cb : w.cell? ⟨bx, 0, none⟩ = some (.pointer (some ⟨b, 0, none⟩)) := hb.cell 0 rfl
  have n1 := hA.n1
  have p0 := hA.p0
  have p1 := hA.p1
  have e1 : IntKind.i64.wrap (x.pos + (x.n : Int)) = x.pos + x.n := IntWalk.i64_in _ (by omega)
  have l1 : b < w.heap.size := hA.lt.1
  have l2 : bx < w.heap.size := hb.lt
  clear hA hb
  go_enter Tryd.func59, Tryd.ntmps59
  go_wp2_with fail
  go_region_held3 (fun w' => w'.cell? ⟨b, 0, none⟩ = some (.int .i64 x.pos) ∧ w'.cell? ⟨b, 1, none⟩ = some (.slice (some ⟨g1, 0, none⟩) x.n x.n) ∧ w'.cell? ⟨bx, 0, none⟩ = some (.pointer (some ⟨b, 0, none⟩)) ∧ w'.cell? ⟨w.heap.size, 0, none⟩ = some (.int .i64 off) ∧ w'.cell? ⟨w.heap.size, 1, none⟩ = some (.string s) ∧ w'.cell? ⟨w.heap.size, 2, none⟩ = some (.bool f)) (go_keep) ((go_at_call 33; refine (end_c off s f _ (by omega) (by omega) hs).mono ?_; rintro e w' ⟨rfl, rfl⟩))
  all_goals go_wp2_with fail
  all_goals go_ret
  all_goals exact ⟨rfl, (((Only.refl _ _).alloc _).alloc _).drew⟩
attribute [local go_sem] undef
set_option maxHeartbeats 2000000 in
theorem fin_lt (off : Int) (s : ByteArray) (hs : s.size ≤ 8192) (q0 : 0 ≤ off) (q1 : off ≤ 1099511627776) (hi : off + s.size < x.hi) : Calls Tryd.prog 58 #[.pointer (some ⟨b, 0, none⟩), .agg #[.int .i64 off, .string s, .bool true]] w fun e w' => e = .returned (.bool false) ∧ Only [] w w' := by
  have c3 := hA.c3
  have c4 := hA.c4
  have c5 := hA.c5
  have l1 : b < w.heap.size := hA.lt.1
  have l2 : b < w.heap.size + 1 := by omega
  have l3 : b < w.heap.size + 1 + 1 := by omega
  have l4 : b < w.heap.size + 2 := by omega
  have l5 : b < w.heap.size + 3 := by omega
  clear hA
  have d1 : decide (off + (s.size : Int) < x.hi) = true := decide_eq_true hi
  clear hi
  go_enter Tryd.func58, Tryd.ntmps58
  go_wp2_with fail
  go_region_held3 (fun w' => w'.cell? ⟨b, 3, none⟩ = some (.int .i64 x.hi) ∧ w'.cell? ⟨b, 4, none⟩ = some (.int .i64 x.fin) ∧ w'.cell? ⟨b, 5, none⟩ = some (.bool x.kn) ∧ w'.cell? ⟨w.heap.size, 0, none⟩ = some (.int .i64 off) ∧ w'.cell? ⟨w.heap.size, 1, none⟩ = some (.string s) ∧ w'.cell? ⟨w.heap.size, 2, none⟩ = some (.bool true)) (go_keep) ((go_at_call 33; refine (end_c off s true _ (by omega) (by omega) hs).mono ?_; rintro e w' ⟨rfl, rfl⟩))
  all_goals go_wp2_with fail
  all_goals go_ret
  all_goals exact ⟨rfl, ((((Only.refl _ _).alloc _)).alloc _).drew⟩
set_option maxHeartbeats 2000000 in
theorem fin_u1 (off : Int) (s : ByteArray) (hs : s.size ≤ 8192) (q0 : 0 ≤ off) (q1 : off ≤ 1099511627776) (hk : x.kn = false) (hi : ¬ off + s.size < x.hi) : Calls Tryd.prog 58 #[.pointer (some ⟨b, 0, none⟩), .agg #[.int .i64 off, .string s, .bool true]] w fun e w' => e = .returned (.bool true) ∧ Only [] w w' := by
  have c3 := hA.c3
  have c4 := hA.c4
  have c5 := hA.c5
  rw [hk] at c5
  clear hk
  have l1 : b < w.heap.size := hA.lt.1
  have l2 : b < w.heap.size + 1 := by omega
  have l3 : b < w.heap.size + 1 + 1 := by omega
  have l4 : b < w.heap.size + 2 := by omega
  have l5 : b < w.heap.size + 3 := by omega
  clear hA
  have d1 : decide (off + (s.size : Int) < x.hi) = false := decide_eq_false hi
  clear hi
  go_enter Tryd.func58, Tryd.ntmps58
  go_wp2_with fail
  go_region_held3 (fun w' => w'.cell? ⟨b, 3, none⟩ = some (.int .i64 x.hi) ∧ w'.cell? ⟨b, 4, none⟩ = some (.int .i64 x.fin) ∧ w'.cell? ⟨b, 5, none⟩ = some (.bool false) ∧ w'.cell? ⟨w.heap.size, 0, none⟩ = some (.int .i64 off) ∧ w'.cell? ⟨w.heap.size, 1, none⟩ = some (.string s) ∧ w'.cell? ⟨w.heap.size, 2, none⟩ = some (.bool true)) (go_keep) ((go_at_call 33; refine (end_c off s true _ (by omega) (by omega) hs).mono ?_; rintro e w' ⟨rfl, rfl⟩))
  all_goals go_wp2_with fail
  have ho1 : Only [] w ((w.alloc (.cells #[.int .i64 off, .string s, .bool true] 66)).alloc (.cells #[.int .i64 off, .string s, .bool true] 66)).drew := ((((Only.refl _ _).alloc _)).alloc _).drew
  have k3 : ((w.alloc (.cells #[.int .i64 off, .string s, .bool true] 66)).alloc (.cells #[.int .i64 off, .string s, .bool true] 66)).drew.cell? ⟨b, 3, none⟩ = some (.int .i64 x.hi) := by rw [ho1.cell (p := ⟨b, 3, none⟩) l1 (by simp)]; exact c3
  have k4 : ((w.alloc (.cells #[.int .i64 off, .string s, .bool true] 66)).alloc (.cells #[.int .i64 off, .string s, .bool true] 66)).drew.cell? ⟨b, 4, none⟩ = some (.int .i64 x.fin) := by rw [ho1.cell (p := ⟨b, 4, none⟩) l1 (by simp)]; exact c4
  have k5 : ((w.alloc (.cells #[.int .i64 off, .string s, .bool true] 66)).alloc (.cells #[.int .i64 off, .string s, .bool true] 66)).drew.cell? ⟨b, 5, none⟩ = some (.bool false) := by rw [ho1.cell (p := ⟨b, 5, none⟩) l1 (by simp)]; exact c5
  have bPx : At ((w.alloc (.cells #[.int .i64 off, .string s, .bool true] 66)).alloc (.cells #[.int .i64 off, .string s, .bool true] 66)).drew w.heap.size 66 #[.int .i64 off, .string s, .bool true] := ((At.new w _ _).alloc _).drew
  have k0 : ((w.alloc (.cells #[.int .i64 off, .string s, .bool true] 66)).alloc (.cells #[.int .i64 off, .string s, .bool true] 66)).drew.cell? ⟨w.heap.size, 0, none⟩ = some (.int .i64 off) := bPx.cell 0 rfl
  have k1 : ((w.alloc (.cells #[.int .i64 off, .string s, .bool true] 66)).alloc (.cells #[.int .i64 off, .string s, .bool true] 66)).drew.cell? ⟨w.heap.size, 1, none⟩ = some (.string s) := bPx.cell 1 rfl
  have k2 : ((w.alloc (.cells #[.int .i64 off, .string s, .bool true] 66)).alloc (.cells #[.int .i64 off, .string s, .bool true] 66)).drew.cell? ⟨w.heap.size, 2, none⟩ = some (.bool true) := bPx.cell 2 rfl
  have l6 : b < ((w.alloc (.cells #[.int .i64 off, .string s, .bool true] 66)).alloc (.cells #[.int .i64 off, .string s, .bool true] 66)).drew.heap.size := Nat.lt_of_lt_of_le l1 ho1.size
  have l7 : w.heap.size < ((w.alloc (.cells #[.int .i64 off, .string s, .bool true] 66)).alloc (.cells #[.int .i64 off, .string s, .bool true] 66)).drew.heap.size := bPx.lt
  obtain ⟨W1, hW1⟩ : ∃ W1, ((w.alloc (.cells #[.int .i64 off, .string s, .bool true] 66)).alloc (.cells #[.int .i64 off, .string s, .bool true] 66)).drew = W1 := ⟨_, rfl⟩
  clear bPx
  rw [hW1] at ho1 k3 k4 k5 k0 k1 k2 l6 l7
  simp only [hW1]
  clear hW1
  have l8 : b < W1.heap.size + 1 := by omega
  have l9 : w.heap.size < W1.heap.size + 1 := by omega
  clear l1 l2 l3 l4 l5 c3 c4 c5
  go_quiet (fail)
  all_goals go_wp2_with fail
  all_goals go_ret
  all_goals exact ⟨rfl, ho1.drewN _⟩
set_option maxHeartbeats 2000000 in
theorem fin_e1 (off : Int) (s : ByteArray) (hs : s.size ≤ 8192) (q0 : 0 ≤ off) (q1 : off ≤ 1099511627776) (hk : x.kn = true) (hi : ¬ off + s.size < x.hi) (he : off + s.size = x.fin) : Calls Tryd.prog 58 #[.pointer (some ⟨b, 0, none⟩), .agg #[.int .i64 off, .string s, .bool true]] w fun e w' => e = .returned (.bool true) ∧ Only [] w w' := by
  have c3 := hA.c3
  have c4 := hA.c4
  have c5 := hA.c5
  rw [hk] at c5
  clear hk
  have l1 : b < w.heap.size := hA.lt.1
  have l2 : b < w.heap.size + 1 := by omega
  have l3 : b < w.heap.size + 1 + 1 := by omega
  have l4 : b < w.heap.size + 2 := by omega
  have l5 : b < w.heap.size + 3 := by omega
  clear hA
  have d1 : decide (off + (s.size : Int) < x.hi) = false := decide_eq_false hi
  clear hi
  have d2 : (off + (s.size : Int) == x.fin) = true := beq_iff_eq.2 he
  clear he
  go_enter Tryd.func58, Tryd.ntmps58
  go_wp2_with fail
  go_region_held3 (fun w' => w'.cell? ⟨b, 3, none⟩ = some (.int .i64 x.hi) ∧ w'.cell? ⟨b, 4, none⟩ = some (.int .i64 x.fin) ∧ w'.cell? ⟨b, 5, none⟩ = some (.bool true) ∧ w'.cell? ⟨w.heap.size, 0, none⟩ = some (.int .i64 off) ∧ w'.cell? ⟨w.heap.size, 1, none⟩ = some (.string s) ∧ w'.cell? ⟨w.heap.size, 2, none⟩ = some (.bool true)) (go_keep) ((go_at_call 33; refine (end_c off s true _ (by omega) (by omega) hs).mono ?_; rintro e w' ⟨rfl, rfl⟩))
  all_goals go_wp2_with fail
  have ho1 : Only [] w ((w.alloc (.cells #[.int .i64 off, .string s, .bool true] 66)).alloc (.cells #[.int .i64 off, .string s, .bool true] 66)).drew := ((((Only.refl _ _).alloc _)).alloc _).drew
  have k3 : ((w.alloc (.cells #[.int .i64 off, .string s, .bool true] 66)).alloc (.cells #[.int .i64 off, .string s, .bool true] 66)).drew.cell? ⟨b, 3, none⟩ = some (.int .i64 x.hi) := by rw [ho1.cell (p := ⟨b, 3, none⟩) l1 (by simp)]; exact c3
  have k4 : ((w.alloc (.cells #[.int .i64 off, .string s, .bool true] 66)).alloc (.cells #[.int .i64 off, .string s, .bool true] 66)).drew.cell? ⟨b, 4, none⟩ = some (.int .i64 x.fin) := by rw [ho1.cell (p := ⟨b, 4, none⟩) l1 (by simp)]; exact c4
  have k5 : ((w.alloc (.cells #[.int .i64 off, .string s, .bool true] 66)).alloc (.cells #[.int .i64 off, .string s, .bool true] 66)).drew.cell? ⟨b, 5, none⟩ = some (.bool true) := by rw [ho1.cell (p := ⟨b, 5, none⟩) l1 (by simp)]; exact c5
  have bPx : At ((w.alloc (.cells #[.int .i64 off, .string s, .bool true] 66)).alloc (.cells #[.int .i64 off, .string s, .bool true] 66)).drew w.heap.size 66 #[.int .i64 off, .string s, .bool true] := ((At.new w _ _).alloc _).drew
  have k0 : ((w.alloc (.cells #[.int .i64 off, .string s, .bool true] 66)).alloc (.cells #[.int .i64 off, .string s, .bool true] 66)).drew.cell? ⟨w.heap.size, 0, none⟩ = some (.int .i64 off) := bPx.cell 0 rfl
  have k1 : ((w.alloc (.cells #[.int .i64 off, .string s, .bool true] 66)).alloc (.cells #[.int .i64 off, .string s, .bool true] 66)).drew.cell? ⟨w.heap.size, 1, none⟩ = some (.string s) := bPx.cell 1 rfl
  have k2 : ((w.alloc (.cells #[.int .i64 off, .string s, .bool true] 66)).alloc (.cells #[.int .i64 off, .string s, .bool true] 66)).drew.cell? ⟨w.heap.size, 2, none⟩ = some (.bool true) := bPx.cell 2 rfl
  have l6 : b < ((w.alloc (.cells #[.int .i64 off, .string s, .bool true] 66)).alloc (.cells #[.int .i64 off, .string s, .bool true] 66)).drew.heap.size := Nat.lt_of_lt_of_le l1 ho1.size
  have l7 : w.heap.size < ((w.alloc (.cells #[.int .i64 off, .string s, .bool true] 66)).alloc (.cells #[.int .i64 off, .string s, .bool true] 66)).drew.heap.size := bPx.lt
  obtain ⟨W1, hW1⟩ : ∃ W1, ((w.alloc (.cells #[.int .i64 off, .string s, .bool true] 66)).alloc (.cells #[.int .i64 off, .string s, .bool true] 66)).drew = W1 := ⟨_, rfl⟩
  clear bPx
  rw [hW1] at ho1 k3 k4 k5 k0 k1 k2 l6 l7
  simp only [hW1]
  clear hW1
  have l8 : b < W1.heap.size + 1 := by omega
  have l9 : w.heap.size < W1.heap.size + 1 := by omega
  clear l1 l2 l3 l4 l5 c3 c4 c5
  refine wp_region_held_drew (S := (fun w' => w'.cell? ⟨b, 3, none⟩ = some (.int .i64 x.hi) ∧ w'.cell? ⟨b, 4, none⟩ = some (.int .i64 x.fin) ∧ w'.cell? ⟨b, 5, none⟩ = some (.bool true) ∧ w'.cell? ⟨w.heap.size, 0, none⟩ = some (.int .i64 off) ∧ w'.cell? ⟨w.heap.size, 1, none⟩ = some (.string s) ∧ w'.cell? ⟨w.heap.size, 2, none⟩ = some (.bool true))) (by kernel_rfl) (by go_keep) (fun hHeld => ?_)
  refine wpAnyH_take (i := 0) (v := ?_) rfl (by kernel_rfl) (by kernel_rfl) (by kernel_rfl) (fun _ _ _ h => h) (Or.inl ⟨by kernel_rfl, ?_⟩) (by assumption) ?_
  rotate_left
  · intro wS hSw
    try dsimp only at hSw
    go_simp
    try with_reducible rfl
  simp only [List.getElem_toArray, List.getElem_cons_succ, List.getElem_cons_zero, Act.put, List.setIfInBounds_toArray, List.set_cons_zero, List.set_cons_succ]
  refine wpAnyH_take (i := 1) (v := ?_) rfl (by kernel_rfl) (by kernel_rfl) (by kernel_rfl) (fun _ _ _ h => h) (Or.inl ⟨by kernel_rfl, ?_⟩) (by assumption) ?_
  rotate_left
  · intro wS hSw
    try dsimp only at hSw
    go_simp
    try with_reducible rfl
  simp only [List.getElem_toArray, List.getElem_cons_succ, List.getElem_cons_zero, Act.put, List.setIfInBounds_toArray, List.set_cons_zero, List.set_cons_succ]
  refine wpAnyH_take (i := 2) (v := ?_) rfl (by kernel_rfl) (by kernel_rfl) (by kernel_rfl) (fun _ _ _ h => h) (Or.inl ⟨by kernel_rfl, ?_⟩) (by assumption) ?_
  rotate_left
  · intro wS hSw
    try dsimp only at hSw
    go_simp
    try with_reducible rfl
  simp only [List.getElem_toArray, List.getElem_cons_succ, List.getElem_cons_zero, Act.put, List.setIfInBounds_toArray, List.set_cons_zero, List.set_cons_succ]
  refine wpAnyH_take (i := 3) (v := ?_) rfl (by kernel_rfl) (by kernel_rfl) (by kernel_rfl) (fun _ _ _ h => h) (Or.inl ⟨by kernel_rfl, ?_⟩) (by assumption) ?_
  rotate_left
  · intro wS hSw
    try dsimp only at hSw
    go_simp
    try with_reducible rfl
  simp only [List.getElem_toArray, List.getElem_cons_succ, List.getElem_cons_zero, Act.put, List.setIfInBounds_toArray, List.set_cons_zero, List.set_cons_succ]
  refine wpAnyH_take (i := 4) (v := ?_) rfl (by kernel_rfl) (by kernel_rfl) (by kernel_rfl) (fun _ _ _ h => h) (Or.inl ⟨by kernel_rfl, ?_⟩) (by assumption) ?_
  rotate_left
  · intro wS hSw
    try dsimp only at hSw
    go_simp
    try with_reducible rfl
  simp only [List.getElem_toArray, List.getElem_cons_succ, List.getElem_cons_zero, Act.put, List.setIfInBounds_toArray, List.set_cons_zero, List.set_cons_succ]
  refine wpAnyH_take (i := 5) (v := ?_) rfl (by kernel_rfl) (by kernel_rfl) (by kernel_rfl) (fun _ _ _ h => h) (Or.inl ⟨by kernel_rfl, ?_⟩) (by assumption) ?_
  rotate_left
  · intro wS hSw
    try dsimp only at hSw
    go_simp
    try with_reducible rfl
  simp only [List.getElem_toArray, List.getElem_cons_succ, List.getElem_cons_zero, Act.put, List.setIfInBounds_toArray, List.set_cons_zero, List.set_cons_succ]
  refine wpAnyH_take (i := 6) (v := ?_) rfl (by kernel_rfl) (by kernel_rfl) (by kernel_rfl) (fun _ _ _ h => h) (Or.inl ⟨by kernel_rfl, ?_⟩) (by assumption) ?_
  rotate_left
  · intro wS hSw
    try dsimp only at hSw
    go_simp
    try with_reducible rfl
  simp only [List.getElem_toArray, List.getElem_cons_succ, List.getElem_cons_zero, Act.put, List.setIfInBounds_toArray, List.set_cons_zero, List.set_cons_succ]
  refine wpAnyH_take (i := 8) (v := ?_) rfl (by kernel_rfl) (by kernel_rfl) (by kernel_rfl) (fun _ _ _ h => h) (Or.inl ⟨by kernel_rfl, ?_⟩) (by assumption) ?_
  rotate_left
  · intro wS hSw
    try dsimp only at hSw
    go_simp
    try with_reducible rfl
  simp only [List.getElem_toArray, List.getElem_cons_succ, List.getElem_cons_zero, Act.put, List.setIfInBounds_toArray, List.set_cons_zero, List.set_cons_succ]
  refine wpAnyH_take (i := 9) (v := ?_) rfl (by kernel_rfl) (by kernel_rfl) (by kernel_rfl) (fun _ _ _ h => h) (Or.inl ⟨by kernel_rfl, ?_⟩) (by assumption) ?_
  rotate_left
  · intro wS hSw
    try dsimp only at hSw
    go_simp
    try with_reducible rfl
  simp only [List.getElem_toArray, List.getElem_cons_succ, List.getElem_cons_zero, Act.put, List.setIfInBounds_toArray, List.set_cons_zero, List.set_cons_succ]
  refine wpAnyH_take (i := 10) (v := ?_) rfl (by kernel_rfl) (by kernel_rfl) (by kernel_rfl) (fun _ _ _ h => h) (Or.inl ⟨by kernel_rfl, ?_⟩) (by assumption) ?_
  rotate_left
  · intro wS hSw
    try dsimp only at hSw
    go_simp
    try with_reducible rfl
  simp only [List.getElem_toArray, List.getElem_cons_succ, List.getElem_cons_zero, Act.put, List.setIfInBounds_toArray, List.set_cons_zero, List.set_cons_succ]
  refine wpAnyH_take (i := 11) (v := ?_) rfl (by kernel_rfl) (by kernel_rfl) (by kernel_rfl) (fun _ _ _ h => h) (Or.inl ⟨by kernel_rfl, ?_⟩) (by assumption) ?_
  rotate_left
  · intro wS hSw
    try dsimp only at hSw
    go_simp
    try with_reducible rfl
  simp only [List.getElem_toArray, List.getElem_cons_succ, List.getElem_cons_zero, Act.put, List.setIfInBounds_toArray, List.set_cons_zero, List.set_cons_succ]
  refine wpAnyH_ready (rs := [7]) (by kernel_rfl) (by simp) ?_
  refine AllReadyH.cons rfl (fun K hK => ?_) AllReadyH.nil
  go_simp
  refine (end_c off s true _ (by omega) (by omega) hs).mono ?_
  rintro e w' ⟨rfl, rfl⟩
  refine hK.out _ _ ?_ (fun hHeld2 => ?_)
  · go_keep
  clear hHeld
  refine wpAnyH_take (i := 12) (v := ?_) rfl (by kernel_rfl) (by kernel_rfl) (by kernel_rfl) (fun _ _ _ h => h) (Or.inl ⟨by kernel_rfl, ?_⟩) (by assumption) ?_
  rotate_left
  · intro wS hSw
    try dsimp only at hSw
    go_simp
    try with_reducible rfl
  simp only [List.getElem_toArray, List.getElem_cons_succ, List.getElem_cons_zero, Act.put, List.setIfInBounds_toArray, List.set_cons_zero, List.set_cons_succ]
  refine wpAnyH_take (i := 13) (v := ?_) rfl (by kernel_rfl) (by kernel_rfl) (by kernel_rfl) (fun _ _ _ h => h) (Or.inl ⟨by kernel_rfl, ?_⟩) (by assumption) ?_
  rotate_left
  · intro wS hSw
    try dsimp only at hSw
    go_simp
    try with_reducible rfl
  simp only [List.getElem_toArray, List.getElem_cons_succ, List.getElem_cons_zero, Act.put, List.setIfInBounds_toArray, List.set_cons_zero, List.set_cons_succ]
  refine wpAnyH_take (i := 14) (v := ?_) rfl (by kernel_rfl) (by kernel_rfl) (by kernel_rfl) (fun _ _ _ h => h) (Or.inl ⟨by kernel_rfl, ?_⟩) (by assumption) ?_
  rotate_left
  · intro wS hSw
    try dsimp only at hSw
    go_simp
    try with_reducible rfl
  simp only [List.getElem_toArray, List.getElem_cons_succ, List.getElem_cons_zero, Act.put, List.setIfInBounds_toArray, List.set_cons_zero, List.set_cons_succ]
  refine wpAnyH_take (i := 15) (v := undef) rfl (by kernel_rfl) (by kernel_rfl) (by kernel_rfl) (fun _ _ _ h => h) (Or.inr ⟨by kernel_rfl, rfl⟩) (by assumption) ?_
  simp only [List.getElem_toArray, List.getElem_cons_succ, List.getElem_cons_zero, Act.put, List.setIfInBounds_toArray, List.set_cons_zero, List.set_cons_succ]
  refine wpAnyH_take (i := 16) (v := undef) rfl (by kernel_rfl) (by kernel_rfl) (by kernel_rfl) (fun _ _ _ h => h) (Or.inr ⟨by kernel_rfl, rfl⟩) (by assumption) ?_
  simp only [List.getElem_toArray, List.getElem_cons_succ, List.getElem_cons_zero, Act.put, List.setIfInBounds_toArray, List.set_cons_zero, List.set_cons_succ]
  refine wpAnyH_take (i := 17) (v := undef) rfl (by kernel_rfl) (by kernel_rfl) (by kernel_rfl) (fun _ _ _ h => h) (Or.inr ⟨by kernel_rfl, rfl⟩) (by assumption) ?_
  simp only [List.getElem_toArray, List.getElem_cons_succ, List.getElem_cons_zero, Act.put, List.setIfInBounds_toArray, List.set_cons_zero, List.set_cons_succ]
  refine wpAnyH_take (i := 18) (v := undef) rfl (by kernel_rfl) (by kernel_rfl) (by kernel_rfl) (fun _ _ _ h => h) (Or.inr ⟨by kernel_rfl, rfl⟩) (by assumption) ?_
  simp only [List.getElem_toArray, List.getElem_cons_succ, List.getElem_cons_zero, Act.put, List.setIfInBounds_toArray, List.set_cons_zero, List.set_cons_succ]
  refine wpAnyH_take (i := 19) (v := undef) rfl (by kernel_rfl) (by kernel_rfl) (by kernel_rfl) (fun _ _ _ h => h) (Or.inr ⟨by kernel_rfl, rfl⟩) (by assumption) ?_
  simp only [List.getElem_toArray, List.getElem_cons_succ, List.getElem_cons_zero, Act.put, List.setIfInBounds_toArray, List.set_cons_zero, List.set_cons_succ]
  refine wpAnyH_take (i := 20) (v := undef) rfl (by kernel_rfl) (by kernel_rfl) (by kernel_rfl) (fun _ _ _ h => h) (Or.inr ⟨by kernel_rfl, rfl⟩) (by assumption) ?_
  simp only [List.getElem_toArray, List.getElem_cons_succ, List.getElem_cons_zero, Act.put, List.setIfInBounds_toArray, List.set_cons_zero, List.set_cons_succ]
  refine wpAnyH_take (i := 21) (v := undef) rfl (by kernel_rfl) (by kernel_rfl) (by kernel_rfl) (fun _ _ _ h => h) (Or.inr ⟨by kernel_rfl, rfl⟩) (by assumption) ?_
  simp only [List.getElem_toArray, List.getElem_cons_succ, List.getElem_cons_zero, Act.put, List.setIfInBounds_toArray, List.set_cons_zero, List.set_cons_succ]
  refine wpAnyH_take (i := 22) (v := undef) rfl (by kernel_rfl) (by kernel_rfl) (by kernel_rfl) (fun _ _ _ h => h) (Or.inr ⟨by kernel_rfl, rfl⟩) (by assumption) ?_
  simp only [List.getElem_toArray, List.getElem_cons_succ, List.getElem_cons_zero, Act.put, List.setIfInBounds_toArray, List.set_cons_zero, List.set_cons_succ]
  refine wpAnyH_take (i := 23) (v := undef) rfl (by kernel_rfl) (by kernel_rfl) (by kernel_rfl) (fun _ _ _ h => h) (Or.inr ⟨by kernel_rfl, rfl⟩) (by assumption) ?_
  simp only [List.getElem_toArray, List.getElem_cons_succ, List.getElem_cons_zero, Act.put, List.setIfInBounds_toArray, List.set_cons_zero, List.set_cons_succ]
  refine wpAnyH_take (i := 24) (v := undef) rfl (by kernel_rfl) (by kernel_rfl) (by kernel_rfl) (fun _ _ _ h => h) (Or.inr ⟨by kernel_rfl, rfl⟩) (by assumption) ?_
  simp only [List.getElem_toArray, List.getElem_cons_succ, List.getElem_cons_zero, Act.put, List.setIfInBounds_toArray, List.set_cons_zero, List.set_cons_succ]
  refine wpAnyH_take (i := 25) (v := undef) rfl (by kernel_rfl) (by kernel_rfl) (by kernel_rfl) (fun _ _ _ h => h) (Or.inr ⟨by kernel_rfl, rfl⟩) (by assumption) ?_
  simp only [List.getElem_toArray, List.getElem_cons_succ, List.getElem_cons_zero, Act.put, List.setIfInBounds_toArray, List.set_cons_zero, List.set_cons_succ]
  refine wpAnyH_take (i := 26) (v := undef) rfl (by kernel_rfl) (by kernel_rfl) (by kernel_rfl) (fun _ _ _ h => h) (Or.inr ⟨by kernel_rfl, rfl⟩) (by assumption) ?_
  simp only [List.getElem_toArray, List.getElem_cons_succ, List.getElem_cons_zero, Act.put, List.setIfInBounds_toArray, List.set_cons_zero, List.set_cons_succ]
  refine wpAnyH_take (i := 27) (v := ?_) rfl (by kernel_rfl) (by kernel_rfl) (by kernel_rfl) (fun _ _ _ h => h) (Or.inl ⟨by kernel_rfl, ?_⟩) (by assumption) ?_
  rotate_left
  · intro wS hSw
    try dsimp only at hSw
    go_simp
    try with_reducible rfl
  simp only [List.getElem_toArray, List.getElem_cons_succ, List.getElem_cons_zero, Act.put, List.setIfInBounds_toArray, List.set_cons_zero, List.set_cons_succ]
  refine wpAnyH_take (i := 28) (v := ?_) rfl (by kernel_rfl) (by kernel_rfl) (by kernel_rfl) (fun _ _ _ h => h) (Or.inl ⟨by kernel_rfl, ?_⟩) (by assumption) ?_
  rotate_left
  · intro wS hSw
    try dsimp only at hSw
    go_simp
    try with_reducible rfl
  simp only [List.getElem_toArray, List.getElem_cons_succ, List.getElem_cons_zero, Act.put, List.setIfInBounds_toArray, List.set_cons_zero, List.set_cons_succ]
  refine wpAnyH_done (by kernel_rfl) ?_ _
  all_goals go_wp2_with fail
  all_goals go_ret
  all_goals exact ⟨rfl, (ho1.alloc _).drew⟩
set_option maxHeartbeats 2000000 in
theorem fin_n1 (off : Int) (s : ByteArray) (hs : s.size ≤ 8192) (q0 : 0 ≤ off) (q1 : off ≤ 1099511627776) (hk : x.kn = true) (hi : ¬ off + s.size < x.hi) (he : ¬ off + s.size = x.fin) (hl : off + s.size < x.fin) : Calls Tryd.prog 58 #[.pointer (some ⟨b, 0, none⟩), .agg #[.int .i64 off, .string s, .bool true]] w fun e w' => e = .returned (.bool false) ∧ Only [] w w' := by
  have c3 := hA.c3
  have c4 := hA.c4
  have c5 := hA.c5
  rw [hk] at c5
  clear hk
  have l1 : b < w.heap.size := hA.lt.1
  have l2 : b < w.heap.size + 1 := by omega
  have l3 : b < w.heap.size + 1 + 1 := by omega
  have l4 : b < w.heap.size + 2 := by omega
  have l5 : b < w.heap.size + 3 := by omega
  clear hA
  have d1 : decide (off + (s.size : Int) < x.hi) = false := decide_eq_false hi
  clear hi
  have d2 : (off + (s.size : Int) == x.fin) = false := Bool.eq_false_iff.2 (fun h => he (beq_iff_eq.1 h))
  clear he
  have d3 : decide (off + (s.size : Int) < x.fin) = true := decide_eq_true hl
  clear hl
  go_enter Tryd.func58, Tryd.ntmps58
  go_wp2_with fail
  go_region_held3 (fun w' => w'.cell? ⟨b, 3, none⟩ = some (.int .i64 x.hi) ∧ w'.cell? ⟨b, 4, none⟩ = some (.int .i64 x.fin) ∧ w'.cell? ⟨b, 5, none⟩ = some (.bool true) ∧ w'.cell? ⟨w.heap.size, 0, none⟩ = some (.int .i64 off) ∧ w'.cell? ⟨w.heap.size, 1, none⟩ = some (.string s) ∧ w'.cell? ⟨w.heap.size, 2, none⟩ = some (.bool true)) (go_keep) ((go_at_call 33; refine (end_c off s true _ (by omega) (by omega) hs).mono ?_; rintro e w' ⟨rfl, rfl⟩))
  all_goals go_wp2_with fail
  have ho1 : Only [] w ((w.alloc (.cells #[.int .i64 off, .string s, .bool true] 66)).alloc (.cells #[.int .i64 off, .string s, .bool true] 66)).drew := ((((Only.refl _ _).alloc _)).alloc _).drew
  have k3 : ((w.alloc (.cells #[.int .i64 off, .string s, .bool true] 66)).alloc (.cells #[.int .i64 off, .string s, .bool true] 66)).drew.cell? ⟨b, 3, none⟩ = some (.int .i64 x.hi) := by rw [ho1.cell (p := ⟨b, 3, none⟩) l1 (by simp)]; exact c3
  have k4 : ((w.alloc (.cells #[.int .i64 off, .string s, .bool true] 66)).alloc (.cells #[.int .i64 off, .string s, .bool true] 66)).drew.cell? ⟨b, 4, none⟩ = some (.int .i64 x.fin) := by rw [ho1.cell (p := ⟨b, 4, none⟩) l1 (by simp)]; exact c4
  have k5 : ((w.alloc (.cells #[.int .i64 off, .string s, .bool true] 66)).alloc (.cells #[.int .i64 off, .string s, .bool true] 66)).drew.cell? ⟨b, 5, none⟩ = some (.bool true) := by rw [ho1.cell (p := ⟨b, 5, none⟩) l1 (by simp)]; exact c5
  have bPx : At ((w.alloc (.cells #[.int .i64 off, .string s, .bool true] 66)).alloc (.cells #[.int .i64 off, .string s, .bool true] 66)).drew w.heap.size 66 #[.int .i64 off, .string s, .bool true] := ((At.new w _ _).alloc _).drew
  have k0 : ((w.alloc (.cells #[.int .i64 off, .string s, .bool true] 66)).alloc (.cells #[.int .i64 off, .string s, .bool true] 66)).drew.cell? ⟨w.heap.size, 0, none⟩ = some (.int .i64 off) := bPx.cell 0 rfl
  have k1 : ((w.alloc (.cells #[.int .i64 off, .string s, .bool true] 66)).alloc (.cells #[.int .i64 off, .string s, .bool true] 66)).drew.cell? ⟨w.heap.size, 1, none⟩ = some (.string s) := bPx.cell 1 rfl
  have k2 : ((w.alloc (.cells #[.int .i64 off, .string s, .bool true] 66)).alloc (.cells #[.int .i64 off, .string s, .bool true] 66)).drew.cell? ⟨w.heap.size, 2, none⟩ = some (.bool true) := bPx.cell 2 rfl
  have l6 : b < ((w.alloc (.cells #[.int .i64 off, .string s, .bool true] 66)).alloc (.cells #[.int .i64 off, .string s, .bool true] 66)).drew.heap.size := Nat.lt_of_lt_of_le l1 ho1.size
  have l7 : w.heap.size < ((w.alloc (.cells #[.int .i64 off, .string s, .bool true] 66)).alloc (.cells #[.int .i64 off, .string s, .bool true] 66)).drew.heap.size := bPx.lt
  obtain ⟨W1, hW1⟩ : ∃ W1, ((w.alloc (.cells #[.int .i64 off, .string s, .bool true] 66)).alloc (.cells #[.int .i64 off, .string s, .bool true] 66)).drew = W1 := ⟨_, rfl⟩
  clear bPx
  rw [hW1] at ho1 k3 k4 k5 k0 k1 k2 l6 l7
  simp only [hW1]
  clear hW1
  have l8 : b < W1.heap.size + 1 := by omega
  have l9 : w.heap.size < W1.heap.size + 1 := by omega
  clear l1 l2 l3 l4 l5 c3 c4 c5
  refine wp_region_held_drew (S := (fun w' => w'.cell? ⟨b, 3, none⟩ = some (.int .i64 x.hi) ∧ w'.cell? ⟨b, 4, none⟩ = some (.int .i64 x.fin) ∧ w'.cell? ⟨b, 5, none⟩ = some (.bool true) ∧ w'.cell? ⟨w.heap.size, 0, none⟩ = some (.int .i64 off) ∧ w'.cell? ⟨w.heap.size, 1, none⟩ = some (.string s) ∧ w'.cell? ⟨w.heap.size, 2, none⟩ = some (.bool true))) (by kernel_rfl) (by go_keep) (fun hHeld => ?_)
  refine wpAnyH_take (i := 0) (v := ?_) rfl (by kernel_rfl) (by kernel_rfl) (by kernel_rfl) (fun _ _ _ h => h) (Or.inl ⟨by kernel_rfl, ?_⟩) (by assumption) ?_
  rotate_left
  · intro wS hSw
    try dsimp only at hSw
    go_simp
    try with_reducible rfl
  simp only [List.getElem_toArray, List.getElem_cons_succ, List.getElem_cons_zero, Act.put, List.setIfInBounds_toArray, List.set_cons_zero, List.set_cons_succ]
  refine wpAnyH_take (i := 1) (v := ?_) rfl (by kernel_rfl) (by kernel_rfl) (by kernel_rfl) (fun _ _ _ h => h) (Or.inl ⟨by kernel_rfl, ?_⟩) (by assumption) ?_
  rotate_left
  · intro wS hSw
    try dsimp only at hSw
    go_simp
    try with_reducible rfl
  simp only [List.getElem_toArray, List.getElem_cons_succ, List.getElem_cons_zero, Act.put, List.setIfInBounds_toArray, List.set_cons_zero, List.set_cons_succ]
  refine wpAnyH_take (i := 2) (v := ?_) rfl (by kernel_rfl) (by kernel_rfl) (by kernel_rfl) (fun _ _ _ h => h) (Or.inl ⟨by kernel_rfl, ?_⟩) (by assumption) ?_
  rotate_left
  · intro wS hSw
    try dsimp only at hSw
    go_simp
    try with_reducible rfl
  simp only [List.getElem_toArray, List.getElem_cons_succ, List.getElem_cons_zero, Act.put, List.setIfInBounds_toArray, List.set_cons_zero, List.set_cons_succ]
  refine wpAnyH_take (i := 3) (v := ?_) rfl (by kernel_rfl) (by kernel_rfl) (by kernel_rfl) (fun _ _ _ h => h) (Or.inl ⟨by kernel_rfl, ?_⟩) (by assumption) ?_
  rotate_left
  · intro wS hSw
    try dsimp only at hSw
    go_simp
    try with_reducible rfl
  simp only [List.getElem_toArray, List.getElem_cons_succ, List.getElem_cons_zero, Act.put, List.setIfInBounds_toArray, List.set_cons_zero, List.set_cons_succ]
  refine wpAnyH_take (i := 4) (v := ?_) rfl (by kernel_rfl) (by kernel_rfl) (by kernel_rfl) (fun _ _ _ h => h) (Or.inl ⟨by kernel_rfl, ?_⟩) (by assumption) ?_
  rotate_left
  · intro wS hSw
    try dsimp only at hSw
    go_simp
    try with_reducible rfl
  simp only [List.getElem_toArray, List.getElem_cons_succ, List.getElem_cons_zero, Act.put, List.setIfInBounds_toArray, List.set_cons_zero, List.set_cons_succ]
  refine wpAnyH_take (i := 5) (v := ?_) rfl (by kernel_rfl) (by kernel_rfl) (by kernel_rfl) (fun _ _ _ h => h) (Or.inl ⟨by kernel_rfl, ?_⟩) (by assumption) ?_
  rotate_left
  · intro wS hSw
    try dsimp only at hSw
    go_simp
    try with_reducible rfl
  simp only [List.getElem_toArray, List.getElem_cons_succ, List.getElem_cons_zero, Act.put, List.setIfInBounds_toArray, List.set_cons_zero, List.set_cons_succ]
  refine wpAnyH_take (i := 6) (v := ?_) rfl (by kernel_rfl) (by kernel_rfl) (by kernel_rfl) (fun _ _ _ h => h) (Or.inl ⟨by kernel_rfl, ?_⟩) (by assumption) ?_
  rotate_left
  · intro wS hSw
    try dsimp only at hSw
    go_simp
    try with_reducible rfl
  simp only [List.getElem_toArray, List.getElem_cons_succ, List.getElem_cons_zero, Act.put, List.setIfInBounds_toArray, List.set_cons_zero, List.set_cons_succ]
  refine wpAnyH_take (i := 8) (v := ?_) rfl (by kernel_rfl) (by kernel_rfl) (by kernel_rfl) (fun _ _ _ h => h) (Or.inl ⟨by kernel_rfl, ?_⟩) (by assumption) ?_
  rotate_left
  · intro wS hSw
    try dsimp only at hSw
    go_simp
    try with_reducible rfl
  simp only [List.getElem_toArray, List.getElem_cons_succ, List.getElem_cons_zero, Act.put, List.setIfInBounds_toArray, List.set_cons_zero, List.set_cons_succ]
  refine wpAnyH_take (i := 9) (v := ?_) rfl (by kernel_rfl) (by kernel_rfl) (by kernel_rfl) (fun _ _ _ h => h) (Or.inl ⟨by kernel_rfl, ?_⟩) (by assumption) ?_
  rotate_left
  · intro wS hSw
    try dsimp only at hSw
    go_simp
    try with_reducible rfl
  simp only [List.getElem_toArray, List.getElem_cons_succ, List.getElem_cons_zero, Act.put, List.setIfInBounds_toArray, List.set_cons_zero, List.set_cons_succ]
  refine wpAnyH_take (i := 10) (v := ?_) rfl (by kernel_rfl) (by kernel_rfl) (by kernel_rfl) (fun _ _ _ h => h) (Or.inl ⟨by kernel_rfl, ?_⟩) (by assumption) ?_
  rotate_left
  · intro wS hSw
    try dsimp only at hSw
    go_simp
    try with_reducible rfl
  simp only [List.getElem_toArray, List.getElem_cons_succ, List.getElem_cons_zero, Act.put, List.setIfInBounds_toArray, List.set_cons_zero, List.set_cons_succ]
  refine wpAnyH_take (i := 11) (v := ?_) rfl (by kernel_rfl) (by kernel_rfl) (by kernel_rfl) (fun _ _ _ h => h) (Or.inl ⟨by kernel_rfl, ?_⟩) (by assumption) ?_
  rotate_left
  · intro wS hSw
    try dsimp only at hSw
    go_simp
    try with_reducible rfl
  simp only [List.getElem_toArray, List.getElem_cons_succ, List.getElem_cons_zero, Act.put, List.setIfInBounds_toArray, List.set_cons_zero, List.set_cons_succ]
  refine wpAnyH_ready (rs := [7]) (by kernel_rfl) (by simp) ?_
  refine AllReadyH.cons rfl (fun K hK => ?_) AllReadyH.nil
  go_simp
  refine (end_c off s true _ (by omega) (by omega) hs).mono ?_
  rintro e w' ⟨rfl, rfl⟩
  refine hK.out _ _ ?_ (fun hHeld2 => ?_)
  · go_keep
  clear hHeld hK K
  refine wpAnyH_take (i := 12) (v := ?_) rfl (by kernel_rfl) (by kernel_rfl) (by kernel_rfl) (fun _ _ _ h => h) (Or.inl ⟨by kernel_rfl, ?_⟩) (by assumption) ?_
  rotate_left
  · intro wS hSw
    try dsimp only at hSw
    go_simp
    try with_reducible rfl
  simp only [List.getElem_toArray, List.getElem_cons_succ, List.getElem_cons_zero, Act.put, List.setIfInBounds_toArray, List.set_cons_zero, List.set_cons_succ]
  refine wpAnyH_take (i := 13) (v := ?_) rfl (by kernel_rfl) (by kernel_rfl) (by kernel_rfl) (fun _ _ _ h => h) (Or.inl ⟨by kernel_rfl, ?_⟩) (by assumption) ?_
  rotate_left
  · intro wS hSw
    try dsimp only at hSw
    go_simp
    try with_reducible rfl
  simp only [List.getElem_toArray, List.getElem_cons_succ, List.getElem_cons_zero, Act.put, List.setIfInBounds_toArray, List.set_cons_zero, List.set_cons_succ]
  refine wpAnyH_take (i := 14) (v := ?_) rfl (by kernel_rfl) (by kernel_rfl) (by kernel_rfl) (fun _ _ _ h => h) (Or.inl ⟨by kernel_rfl, ?_⟩) (by assumption) ?_
  rotate_left
  · intro wS hSw
    try dsimp only at hSw
    go_simp
    try with_reducible rfl
  simp only [List.getElem_toArray, List.getElem_cons_succ, List.getElem_cons_zero, Act.put, List.setIfInBounds_toArray, List.set_cons_zero, List.set_cons_succ]
  refine wpAnyH_take (i := 15) (v := ?_) rfl (by kernel_rfl) (by kernel_rfl) (by kernel_rfl) (fun _ _ _ h => h) (Or.inl ⟨by kernel_rfl, ?_⟩) (by assumption) ?_
  rotate_left
  · intro wS hSw
    try dsimp only at hSw
    go_simp
    try with_reducible rfl
  simp only [List.getElem_toArray, List.getElem_cons_succ, List.getElem_cons_zero, Act.put, List.setIfInBounds_toArray, List.set_cons_zero, List.set_cons_succ]
  refine wpAnyH_take (i := 17) (v := ?_) rfl (by kernel_rfl) (by kernel_rfl) (by kernel_rfl) (fun _ _ _ h => h) (Or.inl ⟨by kernel_rfl, ?_⟩) (by assumption) ?_
  rotate_left
  · intro wS hSw
    try dsimp only at hSw
    go_simp
    try with_reducible rfl
  simp only [List.getElem_toArray, List.getElem_cons_succ, List.getElem_cons_zero, Act.put, List.setIfInBounds_toArray, List.set_cons_zero, List.set_cons_succ]
  refine wpAnyH_take (i := 18) (v := ?_) rfl (by kernel_rfl) (by kernel_rfl) (by kernel_rfl) (fun _ _ _ h => h) (Or.inl ⟨by kernel_rfl, ?_⟩) (by assumption) ?_
  rotate_left
  · intro wS hSw
    try dsimp only at hSw
    go_simp
    try with_reducible rfl
  simp only [List.getElem_toArray, List.getElem_cons_succ, List.getElem_cons_zero, Act.put, List.setIfInBounds_toArray, List.set_cons_zero, List.set_cons_succ]
  refine wpAnyH_take (i := 19) (v := ?_) rfl (by kernel_rfl) (by kernel_rfl) (by kernel_rfl) (fun _ _ _ h => h) (Or.inl ⟨by kernel_rfl, ?_⟩) (by assumption) ?_
  rotate_left
  · intro wS hSw
    try dsimp only at hSw
    go_simp
    try with_reducible rfl
  simp only [List.getElem_toArray, List.getElem_cons_succ, List.getElem_cons_zero, Act.put, List.setIfInBounds_toArray, List.set_cons_zero, List.set_cons_succ]
  refine wpAnyH_take (i := 20) (v := ?_) rfl (by kernel_rfl) (by kernel_rfl) (by kernel_rfl) (fun _ _ _ h => h) (Or.inl ⟨by kernel_rfl, ?_⟩) (by assumption) ?_
  rotate_left
  · intro wS hSw
    try dsimp only at hSw
    go_simp
    try with_reducible rfl
  simp only [List.getElem_toArray, List.getElem_cons_succ, List.getElem_cons_zero, Act.put, List.setIfInBounds_toArray, List.set_cons_zero, List.set_cons_succ]
  refine wpAnyH_ready (rs := [16]) (by kernel_rfl) (by simp) ?_
  refine AllReadyH.cons rfl (fun K hK => ?_) AllReadyH.nil
  go_simp
  refine (end_c off s true _ (by omega) (by omega) hs).mono ?_
  rintro e w' ⟨rfl, rfl⟩
  refine hK.out _ _ ?_ (fun hHeld3 => ?_)
  · go_keep
  clear hHeld2 hK K
  refine wpAnyH_take (i := 21) (v := ?_) rfl (by kernel_rfl) (by kernel_rfl) (by kernel_rfl) (fun _ _ _ h => h) (Or.inl ⟨by kernel_rfl, ?_⟩) (by assumption) ?_
  rotate_left
  · intro wS hSw
    try dsimp only at hSw
    go_simp
    try with_reducible rfl
  simp only [List.getElem_toArray, List.getElem_cons_succ, List.getElem_cons_zero, Act.put, List.setIfInBounds_toArray, List.set_cons_zero, List.set_cons_succ]
  refine wpAnyH_take (i := 22) (v := ?_) rfl (by kernel_rfl) (by kernel_rfl) (by kernel_rfl) (fun _ _ _ h => h) (Or.inl ⟨by kernel_rfl, ?_⟩) (by assumption) ?_
  rotate_left
  · intro wS hSw
    try dsimp only at hSw
    go_simp
    try with_reducible rfl
  simp only [List.getElem_toArray, List.getElem_cons_succ, List.getElem_cons_zero, Act.put, List.setIfInBounds_toArray, List.set_cons_zero, List.set_cons_succ]
  refine wpAnyH_take (i := 23) (v := ?_) rfl (by kernel_rfl) (by kernel_rfl) (by kernel_rfl) (fun _ _ _ h => h) (Or.inl ⟨by kernel_rfl, ?_⟩) (by assumption) ?_
  rotate_left
  · intro wS hSw
    try dsimp only at hSw
    go_simp
    try with_reducible rfl
  simp only [List.getElem_toArray, List.getElem_cons_succ, List.getElem_cons_zero, Act.put, List.setIfInBounds_toArray, List.set_cons_zero, List.set_cons_succ]
  refine wpAnyH_take (i := 24) (v := ?_) rfl (by kernel_rfl) (by kernel_rfl) (by kernel_rfl) (fun _ _ _ h => h) (Or.inl ⟨by kernel_rfl, ?_⟩) (by assumption) ?_
  rotate_left
  · intro wS hSw
    try dsimp only at hSw
    go_simp
    try with_reducible rfl
  simp only [List.getElem_toArray, List.getElem_cons_succ, List.getElem_cons_zero, Act.put, List.setIfInBounds_toArray, List.set_cons_zero, List.set_cons_succ]
  refine wpAnyH_take (i := 25) (v := ?_) rfl (by kernel_rfl) (by kernel_rfl) (by kernel_rfl) (fun _ _ _ h => h) (Or.inl ⟨by kernel_rfl, ?_⟩) (by assumption) ?_
  rotate_left
  · intro wS hSw
    try dsimp only at hSw
    go_simp
    try with_reducible rfl
  simp only [List.getElem_toArray, List.getElem_cons_succ, List.getElem_cons_zero, Act.put, List.setIfInBounds_toArray, List.set_cons_zero, List.set_cons_succ]
  refine wpAnyH_take (i := 26) (v := ?_) rfl (by kernel_rfl) (by kernel_rfl) (by kernel_rfl) (fun _ _ _ h => h) (Or.inl ⟨by kernel_rfl, ?_⟩) (by assumption) ?_
  rotate_left
  · intro wS hSw
    try dsimp only at hSw
    go_simp
    try with_reducible rfl
  simp only [List.getElem_toArray, List.getElem_cons_succ, List.getElem_cons_zero, Act.put, List.setIfInBounds_toArray, List.set_cons_zero, List.set_cons_succ]
  refine wpAnyH_take (i := 27) (v := ?_) rfl (by kernel_rfl) (by kernel_rfl) (by kernel_rfl) (fun _ _ _ h => h) (Or.inl ⟨by kernel_rfl, ?_⟩) (by assumption) ?_
  rotate_left
  · intro wS hSw
    try dsimp only at hSw
    go_simp
    try with_reducible rfl
  simp only [List.getElem_toArray, List.getElem_cons_succ, List.getElem_cons_zero, Act.put, List.setIfInBounds_toArray, List.set_cons_zero, List.set_cons_succ]
  refine wpAnyH_take (i := 28) (v := ?_) rfl (by kernel_rfl) (by kernel_rfl) (by kernel_rfl) (fun _ _ _ h => h) (Or.inl ⟨by kernel_rfl, ?_⟩) (by assumption) ?_
  rotate_left
  · intro wS hSw
    try dsimp only at hSw
    go_simp
    try with_reducible rfl
  simp only [List.getElem_toArray, List.getElem_cons_succ, List.getElem_cons_zero, Act.put, List.setIfInBounds_toArray, List.set_cons_zero, List.set_cons_succ]
  refine wpAnyH_done (by kernel_rfl) ?_ _
  all_goals go_wp2_with fail
  all_goals go_ret
  all_goals exact ⟨rfl, ((ho1.alloc _).alloc _).drew⟩
set_option maxHeartbeats 2000000 in
theorem fin_m1 (off : Int) (s : ByteArray) (hs : s.size ≤ 8192) (q0 : 0 ≤ off) (q1 : off ≤ 1099511627776) (hk : x.kn = true) (hi : ¬ off + s.size < x.hi) (he : ¬ off + s.size = x.fin) (hl : ¬ off + s.size < x.fin) : Calls Tryd.prog 58 #[.pointer (some ⟨b, 0, none⟩), .agg #[.int .i64 off, .string s, .bool true]] w fun e w' => e = .returned (.bool false) ∧ Only [] w w' := by
  have c3 := hA.c3
  have c4 := hA.c4
  have c5 := hA.c5
  rw [hk] at c5
  clear hk
  have l1 : b < w.heap.size := hA.lt.1
  have l2 : b < w.heap.size + 1 := by omega
  have l3 : b < w.heap.size + 1 + 1 := by omega
  have l4 : b < w.heap.size + 2 := by omega
  have l5 : b < w.heap.size + 3 := by omega
  clear hA
  have d1 : decide (off + (s.size : Int) < x.hi) = false := decide_eq_false hi
  clear hi
  have d2 : (off + (s.size : Int) == x.fin) = false := Bool.eq_false_iff.2 (fun h => he (beq_iff_eq.1 h))
  clear he
  have d3 : decide (off + (s.size : Int) < x.fin) = false := decide_eq_false hl
  clear hl
  go_enter Tryd.func58, Tryd.ntmps58
  go_wp2_with fail
  go_region_held3 (fun w' => w'.cell? ⟨b, 3, none⟩ = some (.int .i64 x.hi) ∧ w'.cell? ⟨b, 4, none⟩ = some (.int .i64 x.fin) ∧ w'.cell? ⟨b, 5, none⟩ = some (.bool true) ∧ w'.cell? ⟨w.heap.size, 0, none⟩ = some (.int .i64 off) ∧ w'.cell? ⟨w.heap.size, 1, none⟩ = some (.string s) ∧ w'.cell? ⟨w.heap.size, 2, none⟩ = some (.bool true)) (go_keep) ((go_at_call 33; refine (end_c off s true _ (by omega) (by omega) hs).mono ?_; rintro e w' ⟨rfl, rfl⟩))
  all_goals go_wp2_with fail
  have ho1 : Only [] w ((w.alloc (.cells #[.int .i64 off, .string s, .bool true] 66)).alloc (.cells #[.int .i64 off, .string s, .bool true] 66)).drew := ((((Only.refl _ _).alloc _)).alloc _).drew
  have k3 : ((w.alloc (.cells #[.int .i64 off, .string s, .bool true] 66)).alloc (.cells #[.int .i64 off, .string s, .bool true] 66)).drew.cell? ⟨b, 3, none⟩ = some (.int .i64 x.hi) := by rw [ho1.cell (p := ⟨b, 3, none⟩) l1 (by simp)]; exact c3
  have k4 : ((w.alloc (.cells #[.int .i64 off, .string s, .bool true] 66)).alloc (.cells #[.int .i64 off, .string s, .bool true] 66)).drew.cell? ⟨b, 4, none⟩ = some (.int .i64 x.fin) := by rw [ho1.cell (p := ⟨b, 4, none⟩) l1 (by simp)]; exact c4
  have k5 : ((w.alloc (.cells #[.int .i64 off, .string s, .bool true] 66)).alloc (.cells #[.int .i64 off, .string s, .bool true] 66)).drew.cell? ⟨b, 5, none⟩ = some (.bool true) := by rw [ho1.cell (p := ⟨b, 5, none⟩) l1 (by simp)]; exact c5
  have bPx : At ((w.alloc (.cells #[.int .i64 off, .string s, .bool true] 66)).alloc (.cells #[.int .i64 off, .string s, .bool true] 66)).drew w.heap.size 66 #[.int .i64 off, .string s, .bool true] := ((At.new w _ _).alloc _).drew
  have k0 : ((w.alloc (.cells #[.int .i64 off, .string s, .bool true] 66)).alloc (.cells #[.int .i64 off, .string s, .bool true] 66)).drew.cell? ⟨w.heap.size, 0, none⟩ = some (.int .i64 off) := bPx.cell 0 rfl
  have k1 : ((w.alloc (.cells #[.int .i64 off, .string s, .bool true] 66)).alloc (.cells #[.int .i64 off, .string s, .bool true] 66)).drew.cell? ⟨w.heap.size, 1, none⟩ = some (.string s) := bPx.cell 1 rfl
  have k2 : ((w.alloc (.cells #[.int .i64 off, .string s, .bool true] 66)).alloc (.cells #[.int .i64 off, .string s, .bool true] 66)).drew.cell? ⟨w.heap.size, 2, none⟩ = some (.bool true) := bPx.cell 2 rfl
  have l6 : b < ((w.alloc (.cells #[.int .i64 off, .string s, .bool true] 66)).alloc (.cells #[.int .i64 off, .string s, .bool true] 66)).drew.heap.size := Nat.lt_of_lt_of_le l1 ho1.size
  have l7 : w.heap.size < ((w.alloc (.cells #[.int .i64 off, .string s, .bool true] 66)).alloc (.cells #[.int .i64 off, .string s, .bool true] 66)).drew.heap.size := bPx.lt
  obtain ⟨W1, hW1⟩ : ∃ W1, ((w.alloc (.cells #[.int .i64 off, .string s, .bool true] 66)).alloc (.cells #[.int .i64 off, .string s, .bool true] 66)).drew = W1 := ⟨_, rfl⟩
  clear bPx
  rw [hW1] at ho1 k3 k4 k5 k0 k1 k2 l6 l7
  simp only [hW1]
  clear hW1
  have l8 : b < W1.heap.size + 1 := by omega
  have l9 : w.heap.size < W1.heap.size + 1 := by omega
  clear l1 l2 l3 l4 l5 c3 c4 c5
  refine wp_region_held_drew (S := (fun w' => w'.cell? ⟨b, 3, none⟩ = some (.int .i64 x.hi) ∧ w'.cell? ⟨b, 4, none⟩ = some (.int .i64 x.fin) ∧ w'.cell? ⟨b, 5, none⟩ = some (.bool true) ∧ w'.cell? ⟨w.heap.size, 0, none⟩ = some (.int .i64 off) ∧ w'.cell? ⟨w.heap.size, 1, none⟩ = some (.string s) ∧ w'.cell? ⟨w.heap.size, 2, none⟩ = some (.bool true))) (by kernel_rfl) (by go_keep) (fun hHeld => ?_)
  refine wpAnyH_take (i := 0) (v := ?_) rfl (by kernel_rfl) (by kernel_rfl) (by kernel_rfl) (fun _ _ _ h => h) (Or.inl ⟨by kernel_rfl, ?_⟩) (by assumption) ?_
  rotate_left
  · intro wS hSw
    try dsimp only at hSw
    go_simp
    try with_reducible rfl
  simp only [List.getElem_toArray, List.getElem_cons_succ, List.getElem_cons_zero, Act.put, List.setIfInBounds_toArray, List.set_cons_zero, List.set_cons_succ]
  refine wpAnyH_take (i := 1) (v := ?_) rfl (by kernel_rfl) (by kernel_rfl) (by kernel_rfl) (fun _ _ _ h => h) (Or.inl ⟨by kernel_rfl, ?_⟩) (by assumption) ?_
  rotate_left
  · intro wS hSw
    try dsimp only at hSw
    go_simp
    try with_reducible rfl
  simp only [List.getElem_toArray, List.getElem_cons_succ, List.getElem_cons_zero, Act.put, List.setIfInBounds_toArray, List.set_cons_zero, List.set_cons_succ]
  refine wpAnyH_take (i := 2) (v := ?_) rfl (by kernel_rfl) (by kernel_rfl) (by kernel_rfl) (fun _ _ _ h => h) (Or.inl ⟨by kernel_rfl, ?_⟩) (by assumption) ?_
  rotate_left
  · intro wS hSw
    try dsimp only at hSw
    go_simp
    try with_reducible rfl
  simp only [List.getElem_toArray, List.getElem_cons_succ, List.getElem_cons_zero, Act.put, List.setIfInBounds_toArray, List.set_cons_zero, List.set_cons_succ]
  refine wpAnyH_take (i := 3) (v := ?_) rfl (by kernel_rfl) (by kernel_rfl) (by kernel_rfl) (fun _ _ _ h => h) (Or.inl ⟨by kernel_rfl, ?_⟩) (by assumption) ?_
  rotate_left
  · intro wS hSw
    try dsimp only at hSw
    go_simp
    try with_reducible rfl
  simp only [List.getElem_toArray, List.getElem_cons_succ, List.getElem_cons_zero, Act.put, List.setIfInBounds_toArray, List.set_cons_zero, List.set_cons_succ]
  refine wpAnyH_take (i := 4) (v := ?_) rfl (by kernel_rfl) (by kernel_rfl) (by kernel_rfl) (fun _ _ _ h => h) (Or.inl ⟨by kernel_rfl, ?_⟩) (by assumption) ?_
  rotate_left
  · intro wS hSw
    try dsimp only at hSw
    go_simp
    try with_reducible rfl
  simp only [List.getElem_toArray, List.getElem_cons_succ, List.getElem_cons_zero, Act.put, List.setIfInBounds_toArray, List.set_cons_zero, List.set_cons_succ]
  refine wpAnyH_take (i := 5) (v := ?_) rfl (by kernel_rfl) (by kernel_rfl) (by kernel_rfl) (fun _ _ _ h => h) (Or.inl ⟨by kernel_rfl, ?_⟩) (by assumption) ?_
  rotate_left
  · intro wS hSw
    try dsimp only at hSw
    go_simp
    try with_reducible rfl
  simp only [List.getElem_toArray, List.getElem_cons_succ, List.getElem_cons_zero, Act.put, List.setIfInBounds_toArray, List.set_cons_zero, List.set_cons_succ]
  refine wpAnyH_take (i := 6) (v := ?_) rfl (by kernel_rfl) (by kernel_rfl) (by kernel_rfl) (fun _ _ _ h => h) (Or.inl ⟨by kernel_rfl, ?_⟩) (by assumption) ?_
  rotate_left
  · intro wS hSw
    try dsimp only at hSw
    go_simp
    try with_reducible rfl
  simp only [List.getElem_toArray, List.getElem_cons_succ, List.getElem_cons_zero, Act.put, List.setIfInBounds_toArray, List.set_cons_zero, List.set_cons_succ]
  refine wpAnyH_take (i := 8) (v := ?_) rfl (by kernel_rfl) (by kernel_rfl) (by kernel_rfl) (fun _ _ _ h => h) (Or.inl ⟨by kernel_rfl, ?_⟩) (by assumption) ?_
  rotate_left
  · intro wS hSw
    try dsimp only at hSw
    go_simp
    try with_reducible rfl
  simp only [List.getElem_toArray, List.getElem_cons_succ, List.getElem_cons_zero, Act.put, List.setIfInBounds_toArray, List.set_cons_zero, List.set_cons_succ]
  refine wpAnyH_take (i := 9) (v := ?_) rfl (by kernel_rfl) (by kernel_rfl) (by kernel_rfl) (fun _ _ _ h => h) (Or.inl ⟨by kernel_rfl, ?_⟩) (by assumption) ?_
  rotate_left
  · intro wS hSw
    try dsimp only at hSw
    go_simp
    try with_reducible rfl
  simp only [List.getElem_toArray, List.getElem_cons_succ, List.getElem_cons_zero, Act.put, List.setIfInBounds_toArray, List.set_cons_zero, List.set_cons_succ]
  refine wpAnyH_take (i := 10) (v := ?_) rfl (by kernel_rfl) (by kernel_rfl) (by kernel_rfl) (fun _ _ _ h => h) (Or.inl ⟨by kernel_rfl, ?_⟩) (by assumption) ?_
  rotate_left
  · intro wS hSw
    try dsimp only at hSw
    go_simp
    try with_reducible rfl
  simp only [List.getElem_toArray, List.getElem_cons_succ, List.getElem_cons_zero, Act.put, List.setIfInBounds_toArray, List.set_cons_zero, List.set_cons_succ]
  refine wpAnyH_take (i := 11) (v := ?_) rfl (by kernel_rfl) (by kernel_rfl) (by kernel_rfl) (fun _ _ _ h => h) (Or.inl ⟨by kernel_rfl, ?_⟩) (by assumption) ?_
  rotate_left
  · intro wS hSw
    try dsimp only at hSw
    go_simp
    try with_reducible rfl
  simp only [List.getElem_toArray, List.getElem_cons_succ, List.getElem_cons_zero, Act.put, List.setIfInBounds_toArray, List.set_cons_zero, List.set_cons_succ]
  refine wpAnyH_ready (rs := [7]) (by kernel_rfl) (by simp) ?_
  refine AllReadyH.cons rfl (fun K hK => ?_) AllReadyH.nil
  go_simp
  refine (end_c off s true _ (by omega) (by omega) hs).mono ?_
  rintro e w' ⟨rfl, rfl⟩
  refine hK.out _ _ ?_ (fun hHeld2 => ?_)
  · go_keep
  clear hHeld hK K
  refine wpAnyH_take (i := 12) (v := ?_) rfl (by kernel_rfl) (by kernel_rfl) (by kernel_rfl) (fun _ _ _ h => h) (Or.inl ⟨by kernel_rfl, ?_⟩) (by assumption) ?_
  rotate_left
  · intro wS hSw
    try dsimp only at hSw
    go_simp
    try with_reducible rfl
  simp only [List.getElem_toArray, List.getElem_cons_succ, List.getElem_cons_zero, Act.put, List.setIfInBounds_toArray, List.set_cons_zero, List.set_cons_succ]
  refine wpAnyH_take (i := 13) (v := ?_) rfl (by kernel_rfl) (by kernel_rfl) (by kernel_rfl) (fun _ _ _ h => h) (Or.inl ⟨by kernel_rfl, ?_⟩) (by assumption) ?_
  rotate_left
  · intro wS hSw
    try dsimp only at hSw
    go_simp
    try with_reducible rfl
  simp only [List.getElem_toArray, List.getElem_cons_succ, List.getElem_cons_zero, Act.put, List.setIfInBounds_toArray, List.set_cons_zero, List.set_cons_succ]
  refine wpAnyH_take (i := 14) (v := ?_) rfl (by kernel_rfl) (by kernel_rfl) (by kernel_rfl) (fun _ _ _ h => h) (Or.inl ⟨by kernel_rfl, ?_⟩) (by assumption) ?_
  rotate_left
  · intro wS hSw
    try dsimp only at hSw
    go_simp
    try with_reducible rfl
  simp only [List.getElem_toArray, List.getElem_cons_succ, List.getElem_cons_zero, Act.put, List.setIfInBounds_toArray, List.set_cons_zero, List.set_cons_succ]
  refine wpAnyH_take (i := 15) (v := ?_) rfl (by kernel_rfl) (by kernel_rfl) (by kernel_rfl) (fun _ _ _ h => h) (Or.inl ⟨by kernel_rfl, ?_⟩) (by assumption) ?_
  rotate_left
  · intro wS hSw
    try dsimp only at hSw
    go_simp
    try with_reducible rfl
  simp only [List.getElem_toArray, List.getElem_cons_succ, List.getElem_cons_zero, Act.put, List.setIfInBounds_toArray, List.set_cons_zero, List.set_cons_succ]
  refine wpAnyH_take (i := 17) (v := ?_) rfl (by kernel_rfl) (by kernel_rfl) (by kernel_rfl) (fun _ _ _ h => h) (Or.inl ⟨by kernel_rfl, ?_⟩) (by assumption) ?_
  rotate_left
  · intro wS hSw
    try dsimp only at hSw
    go_simp
    try with_reducible rfl
  simp only [List.getElem_toArray, List.getElem_cons_succ, List.getElem_cons_zero, Act.put, List.setIfInBounds_toArray, List.set_cons_zero, List.set_cons_succ]
  refine wpAnyH_take (i := 18) (v := ?_) rfl (by kernel_rfl) (by kernel_rfl) (by kernel_rfl) (fun _ _ _ h => h) (Or.inl ⟨by kernel_rfl, ?_⟩) (by assumption) ?_
  rotate_left
  · intro wS hSw
    try dsimp only at hSw
    go_simp
    try with_reducible rfl
  simp only [List.getElem_toArray, List.getElem_cons_succ, List.getElem_cons_zero, Act.put, List.setIfInBounds_toArray, List.set_cons_zero, List.set_cons_succ]
  refine wpAnyH_take (i := 19) (v := ?_) rfl (by kernel_rfl) (by kernel_rfl) (by kernel_rfl) (fun _ _ _ h => h) (Or.inl ⟨by kernel_rfl, ?_⟩) (by assumption) ?_
  rotate_left
  · intro wS hSw
    try dsimp only at hSw
    go_simp
    try with_reducible rfl
  simp only [List.getElem_toArray, List.getElem_cons_succ, List.getElem_cons_zero, Act.put, List.setIfInBounds_toArray, List.set_cons_zero, List.set_cons_succ]
  refine wpAnyH_take (i := 20) (v := ?_) rfl (by kernel_rfl) (by kernel_rfl) (by kernel_rfl) (fun _ _ _ h => h) (Or.inl ⟨by kernel_rfl, ?_⟩) (by assumption) ?_
  rotate_left
  · intro wS hSw
    try dsimp only at hSw
    go_simp
    try with_reducible rfl
  simp only [List.getElem_toArray, List.getElem_cons_succ, List.getElem_cons_zero, Act.put, List.setIfInBounds_toArray, List.set_cons_zero, List.set_cons_succ]
  refine wpAnyH_ready (rs := [16]) (by kernel_rfl) (by simp) ?_
  refine AllReadyH.cons rfl (fun K hK => ?_) AllReadyH.nil
  go_simp
  refine (end_c off s true _ (by omega) (by omega) hs).mono ?_
  rintro e w' ⟨rfl, rfl⟩
  refine hK.out _ _ ?_ (fun hHeld3 => ?_)
  · go_keep
  clear hHeld2 hK K
  refine wpAnyH_take (i := 21) (v := ?_) rfl (by kernel_rfl) (by kernel_rfl) (by kernel_rfl) (fun _ _ _ h => h) (Or.inl ⟨by kernel_rfl, ?_⟩) (by assumption) ?_
  rotate_left
  · intro wS hSw
    try dsimp only at hSw
    go_simp
    try with_reducible rfl
  simp only [List.getElem_toArray, List.getElem_cons_succ, List.getElem_cons_zero, Act.put, List.setIfInBounds_toArray, List.set_cons_zero, List.set_cons_succ]
  refine wpAnyH_take (i := 22) (v := ?_) rfl (by kernel_rfl) (by kernel_rfl) (by kernel_rfl) (fun _ _ _ h => h) (Or.inl ⟨by kernel_rfl, ?_⟩) (by assumption) ?_
  rotate_left
  · intro wS hSw
    try dsimp only at hSw
    go_simp
    try with_reducible rfl
  simp only [List.getElem_toArray, List.getElem_cons_succ, List.getElem_cons_zero, Act.put, List.setIfInBounds_toArray, List.set_cons_zero, List.set_cons_succ]
  refine wpAnyH_take (i := 23) (v := undef) rfl (by kernel_rfl) (by kernel_rfl) (by kernel_rfl) (fun _ _ _ h => h) (Or.inr ⟨by kernel_rfl, rfl⟩) (by assumption) ?_
  simp only [List.getElem_toArray, List.getElem_cons_succ, List.getElem_cons_zero, Act.put, List.setIfInBounds_toArray, List.set_cons_zero, List.set_cons_succ]
  refine wpAnyH_take (i := 24) (v := undef) rfl (by kernel_rfl) (by kernel_rfl) (by kernel_rfl) (fun _ _ _ h => h) (Or.inr ⟨by kernel_rfl, rfl⟩) (by assumption) ?_
  simp only [List.getElem_toArray, List.getElem_cons_succ, List.getElem_cons_zero, Act.put, List.setIfInBounds_toArray, List.set_cons_zero, List.set_cons_succ]
  refine wpAnyH_take (i := 25) (v := undef) rfl (by kernel_rfl) (by kernel_rfl) (by kernel_rfl) (fun _ _ _ h => h) (Or.inr ⟨by kernel_rfl, rfl⟩) (by assumption) ?_
  simp only [List.getElem_toArray, List.getElem_cons_succ, List.getElem_cons_zero, Act.put, List.setIfInBounds_toArray, List.set_cons_zero, List.set_cons_succ]
  refine wpAnyH_take (i := 26) (v := ?_) rfl (by kernel_rfl) (by kernel_rfl) (by kernel_rfl) (fun _ _ _ h => h) (Or.inl ⟨by kernel_rfl, ?_⟩) (by assumption) ?_
  rotate_left
  · intro wS hSw
    try dsimp only at hSw
    go_simp
    try with_reducible rfl
  simp only [List.getElem_toArray, List.getElem_cons_succ, List.getElem_cons_zero, Act.put, List.setIfInBounds_toArray, List.set_cons_zero, List.set_cons_succ]
  refine wpAnyH_take (i := 27) (v := ?_) rfl (by kernel_rfl) (by kernel_rfl) (by kernel_rfl) (fun _ _ _ h => h) (Or.inl ⟨by kernel_rfl, ?_⟩) (by assumption) ?_
  rotate_left
  · intro wS hSw
    try dsimp only at hSw
    go_simp
    try with_reducible rfl
  simp only [List.getElem_toArray, List.getElem_cons_succ, List.getElem_cons_zero, Act.put, List.setIfInBounds_toArray, List.set_cons_zero, List.set_cons_succ]
  refine wpAnyH_take (i := 28) (v := ?_) rfl (by kernel_rfl) (by kernel_rfl) (by kernel_rfl) (fun _ _ _ h => h) (Or.inl ⟨by kernel_rfl, ?_⟩) (by assumption) ?_
  rotate_left
  · intro wS hSw
    try dsimp only at hSw
    go_simp
    try with_reducible rfl
  simp only [List.getElem_toArray, List.getElem_cons_succ, List.getElem_cons_zero, Act.put, List.setIfInBounds_toArray, List.set_cons_zero, List.set_cons_succ]
  refine wpAnyH_done (by kernel_rfl) ?_ _
  all_goals go_wp2_with fail
  all_goals go_ret
  all_goals exact ⟨rfl, ((ho1.alloc _).alloc _).drew⟩
set_option maxHeartbeats 2000000 in
theorem fin_u0 (off : Int) (s : ByteArray) (hs : s.size ≤ 8192) (q0 : 0 ≤ off) (q1 : off ≤ 1099511627776) (hk : x.kn = false) : Calls Tryd.prog 58 #[.pointer (some ⟨b, 0, none⟩), .agg #[.int .i64 off, .string s, .bool false]] w fun e w' => e = .returned (.bool true) ∧ Only [] w w' := by
  have c3 := hA.c3
  have c4 := hA.c4
  have c5 := hA.c5
  rw [hk] at c5
  clear hk
  have l1 : b < w.heap.size := hA.lt.1
  have l2 : b < w.heap.size + 1 := by omega
  have l3 : b < w.heap.size + 1 + 1 := by omega
  have l4 : b < w.heap.size + 2 := by omega
  have l5 : b < w.heap.size + 3 := by omega
  clear hA
  go_enter Tryd.func58, Tryd.ntmps58
  go_wp2_with fail
  go_quiet (fail)
  all_goals go_wp2_with fail
  have ho1 : Only [] w ((w.alloc (.cells #[.int .i64 off, .string s, .bool false] 66)).drewN nq) := ((Only.refl _ _).alloc _).drewN _
  have k3 : ((w.alloc (.cells #[.int .i64 off, .string s, .bool false] 66)).drewN nq).cell? ⟨b, 3, none⟩ = some (.int .i64 x.hi) := by rw [ho1.cell (p := ⟨b, 3, none⟩) l1 (by simp)]; exact c3
  have k4 : ((w.alloc (.cells #[.int .i64 off, .string s, .bool false] 66)).drewN nq).cell? ⟨b, 4, none⟩ = some (.int .i64 x.fin) := by rw [ho1.cell (p := ⟨b, 4, none⟩) l1 (by simp)]; exact c4
  have k5 : ((w.alloc (.cells #[.int .i64 off, .string s, .bool false] 66)).drewN nq).cell? ⟨b, 5, none⟩ = some (.bool false) := by rw [ho1.cell (p := ⟨b, 5, none⟩) l1 (by simp)]; exact c5
  have bPx : At ((w.alloc (.cells #[.int .i64 off, .string s, .bool false] 66)).drewN nq) w.heap.size 66 #[.int .i64 off, .string s, .bool false] := (At.new w _ _).drewN _
  have k0 : ((w.alloc (.cells #[.int .i64 off, .string s, .bool false] 66)).drewN nq).cell? ⟨w.heap.size, 0, none⟩ = some (.int .i64 off) := bPx.cell 0 rfl
  have k1 : ((w.alloc (.cells #[.int .i64 off, .string s, .bool false] 66)).drewN nq).cell? ⟨w.heap.size, 1, none⟩ = some (.string s) := bPx.cell 1 rfl
  have k2 : ((w.alloc (.cells #[.int .i64 off, .string s, .bool false] 66)).drewN nq).cell? ⟨w.heap.size, 2, none⟩ = some (.bool false) := bPx.cell 2 rfl
  have l6 : b < ((w.alloc (.cells #[.int .i64 off, .string s, .bool false] 66)).drewN nq).heap.size := Nat.lt_of_lt_of_le l1 ho1.size
  have l7 : w.heap.size < ((w.alloc (.cells #[.int .i64 off, .string s, .bool false] 66)).drewN nq).heap.size := bPx.lt
  obtain ⟨W1, hW1⟩ : ∃ W1, ((w.alloc (.cells #[.int .i64 off, .string s, .bool false] 66)).drewN nq) = W1 := ⟨_, rfl⟩
  clear bPx
  rw [hW1] at ho1 k3 k4 k5 k0 k1 k2 l6 l7
  simp only [hW1]
  clear hW1
  have l8 : b < W1.heap.size + 1 := by omega
  have l9 : w.heap.size < W1.heap.size + 1 := by omega
  clear l1 l2 l3 l4 l5 c3 c4 c5
  go_quiet (fail)
  all_goals go_wp2_with fail
  all_goals go_ret
  all_goals exact ⟨rfl, ho1.drewN _⟩
set_option maxHeartbeats 2000000 in
theorem fin_e0 (off : Int) (s : ByteArray) (hs : s.size ≤ 8192) (q0 : 0 ≤ off) (q1 : off ≤ 1099511627776) (hk : x.kn = true) (he : off + s.size = x.fin) : Calls Tryd.prog 58 #[.pointer (some ⟨b, 0, none⟩), .agg #[.int .i64 off, .string s, .bool false]] w fun e w' => e = .returned (.bool true) ∧ Only [] w w' := by
  have c3 := hA.c3
  have c4 := hA.c4
  have c5 := hA.c5
  rw [hk] at c5
  clear hk
  have l1 : b < w.heap.size := hA.lt.1
  have l2 : b < w.heap.size + 1 := by omega
  have l3 : b < w.heap.size + 1 + 1 := by omega
  have l4 : b < w.heap.size + 2 := by omega
  have l5 : b < w.heap.size + 3 := by omega
  clear hA
  have d2 : (off + (s.size : Int) == x.fin) = true := beq_iff_eq.2 he
  clear he
  go_enter Tryd.func58, Tryd.ntmps58
  go_wp2_with fail
  go_quiet (fail)
  all_goals go_wp2_with fail
  have ho1 : Only [] w ((w.alloc (.cells #[.int .i64 off, .string s, .bool false] 66)).drewN nq) := ((Only.refl _ _).alloc _).drewN _
  have k3 : ((w.alloc (.cells #[.int .i64 off, .string s, .bool false] 66)).drewN nq).cell? ⟨b, 3, none⟩ = some (.int .i64 x.hi) := by rw [ho1.cell (p := ⟨b, 3, none⟩) l1 (by simp)]; exact c3
  have k4 : ((w.alloc (.cells #[.int .i64 off, .string s, .bool false] 66)).drewN nq).cell? ⟨b, 4, none⟩ = some (.int .i64 x.fin) := by rw [ho1.cell (p := ⟨b, 4, none⟩) l1 (by simp)]; exact c4
  have k5 : ((w.alloc (.cells #[.int .i64 off, .string s, .bool false] 66)).drewN nq).cell? ⟨b, 5, none⟩ = some (.bool true) := by rw [ho1.cell (p := ⟨b, 5, none⟩) l1 (by simp)]; exact c5
  have bPx : At ((w.alloc (.cells #[.int .i64 off, .string s, .bool false] 66)).drewN nq) w.heap.size 66 #[.int .i64 off, .string s, .bool false] := (At.new w _ _).drewN _
  have k0 : ((w.alloc (.cells #[.int .i64 off, .string s, .bool false] 66)).drewN nq).cell? ⟨w.heap.size, 0, none⟩ = some (.int .i64 off) := bPx.cell 0 rfl
  have k1 : ((w.alloc (.cells #[.int .i64 off, .string s, .bool false] 66)).drewN nq).cell? ⟨w.heap.size, 1, none⟩ = some (.string s) := bPx.cell 1 rfl
  have k2 : ((w.alloc (.cells #[.int .i64 off, .string s, .bool false] 66)).drewN nq).cell? ⟨w.heap.size, 2, none⟩ = some (.bool false) := bPx.cell 2 rfl
  have l6 : b < ((w.alloc (.cells #[.int .i64 off, .string s, .bool false] 66)).drewN nq).heap.size := Nat.lt_of_lt_of_le l1 ho1.size
  have l7 : w.heap.size < ((w.alloc (.cells #[.int .i64 off, .string s, .bool false] 66)).drewN nq).heap.size := bPx.lt
  obtain ⟨W1, hW1⟩ : ∃ W1, ((w.alloc (.cells #[.int .i64 off, .string s, .bool false] 66)).drewN nq) = W1 := ⟨_, rfl⟩
  clear bPx
  rw [hW1] at ho1 k3 k4 k5 k0 k1 k2 l6 l7
  simp only [hW1]
  clear hW1
  have l8 : b < W1.heap.size + 1 := by omega
  have l9 : w.heap.size < W1.heap.size + 1 := by omega
  clear l1 l2 l3 l4 l5 c3 c4 c5
  refine wp_region_held_drew (S := (fun w' => w'.cell? ⟨b, 3, none⟩ = some (.int .i64 x.hi) ∧ w'.cell? ⟨b, 4, none⟩ = some (.int .i64 x.fin) ∧ w'.cell? ⟨b, 5, none⟩ = some (.bool true) ∧ w'.cell? ⟨w.heap.size, 0, none⟩ = some (.int .i64 off) ∧ w'.cell? ⟨w.heap.size, 1, none⟩ = some (.string s) ∧ w'.cell? ⟨w.heap.size, 2, none⟩ = some (.bool false))) (by kernel_rfl) (by go_keep) (fun hHeld => ?_)
  refine wpAnyH_take (i := 0) (v := ?_) rfl (by kernel_rfl) (by kernel_rfl) (by kernel_rfl) (fun _ _ _ h => h) (Or.inl ⟨by kernel_rfl, ?_⟩) (by assumption) ?_
  rotate_left
  · intro wS hSw
    try dsimp only at hSw
    go_simp
    try with_reducible rfl
  simp only [List.getElem_toArray, List.getElem_cons_succ, List.getElem_cons_zero, Act.put, List.setIfInBounds_toArray, List.set_cons_zero, List.set_cons_succ]
  refine wpAnyH_take (i := 1) (v := ?_) rfl (by kernel_rfl) (by kernel_rfl) (by kernel_rfl) (fun _ _ _ h => h) (Or.inl ⟨by kernel_rfl, ?_⟩) (by assumption) ?_
  rotate_left
  · intro wS hSw
    try dsimp only at hSw
    go_simp
    try with_reducible rfl
  simp only [List.getElem_toArray, List.getElem_cons_succ, List.getElem_cons_zero, Act.put, List.setIfInBounds_toArray, List.set_cons_zero, List.set_cons_succ]
  refine wpAnyH_take (i := 2) (v := ?_) rfl (by kernel_rfl) (by kernel_rfl) (by kernel_rfl) (fun _ _ _ h => h) (Or.inl ⟨by kernel_rfl, ?_⟩) (by assumption) ?_
  rotate_left
  · intro wS hSw
    try dsimp only at hSw
    go_simp
    try with_reducible rfl
  simp only [List.getElem_toArray, List.getElem_cons_succ, List.getElem_cons_zero, Act.put, List.setIfInBounds_toArray, List.set_cons_zero, List.set_cons_succ]
  refine wpAnyH_take (i := 3) (v := ?_) rfl (by kernel_rfl) (by kernel_rfl) (by kernel_rfl) (fun _ _ _ h => h) (Or.inl ⟨by kernel_rfl, ?_⟩) (by assumption) ?_
  rotate_left
  · intro wS hSw
    try dsimp only at hSw
    go_simp
    try with_reducible rfl
  simp only [List.getElem_toArray, List.getElem_cons_succ, List.getElem_cons_zero, Act.put, List.setIfInBounds_toArray, List.set_cons_zero, List.set_cons_succ]
  refine wpAnyH_take (i := 4) (v := ?_) rfl (by kernel_rfl) (by kernel_rfl) (by kernel_rfl) (fun _ _ _ h => h) (Or.inl ⟨by kernel_rfl, ?_⟩) (by assumption) ?_
  rotate_left
  · intro wS hSw
    try dsimp only at hSw
    go_simp
    try with_reducible rfl
  simp only [List.getElem_toArray, List.getElem_cons_succ, List.getElem_cons_zero, Act.put, List.setIfInBounds_toArray, List.set_cons_zero, List.set_cons_succ]
  refine wpAnyH_take (i := 5) (v := ?_) rfl (by kernel_rfl) (by kernel_rfl) (by kernel_rfl) (fun _ _ _ h => h) (Or.inl ⟨by kernel_rfl, ?_⟩) (by assumption) ?_
  rotate_left
  · intro wS hSw
    try dsimp only at hSw
    go_simp
    try with_reducible rfl
  simp only [List.getElem_toArray, List.getElem_cons_succ, List.getElem_cons_zero, Act.put, List.setIfInBounds_toArray, List.set_cons_zero, List.set_cons_succ]
  refine wpAnyH_take (i := 6) (v := ?_) rfl (by kernel_rfl) (by kernel_rfl) (by kernel_rfl) (fun _ _ _ h => h) (Or.inl ⟨by kernel_rfl, ?_⟩) (by assumption) ?_
  rotate_left
  · intro wS hSw
    try dsimp only at hSw
    go_simp
    try with_reducible rfl
  simp only [List.getElem_toArray, List.getElem_cons_succ, List.getElem_cons_zero, Act.put, List.setIfInBounds_toArray, List.set_cons_zero, List.set_cons_succ]
  refine wpAnyH_take (i := 8) (v := ?_) rfl (by kernel_rfl) (by kernel_rfl) (by kernel_rfl) (fun _ _ _ h => h) (Or.inl ⟨by kernel_rfl, ?_⟩) (by assumption) ?_
  rotate_left
  · intro wS hSw
    try dsimp only at hSw
    go_simp
    try with_reducible rfl
  simp only [List.getElem_toArray, List.getElem_cons_succ, List.getElem_cons_zero, Act.put, List.setIfInBounds_toArray, List.set_cons_zero, List.set_cons_succ]
  refine wpAnyH_take (i := 9) (v := ?_) rfl (by kernel_rfl) (by kernel_rfl) (by kernel_rfl) (fun _ _ _ h => h) (Or.inl ⟨by kernel_rfl, ?_⟩) (by assumption) ?_
  rotate_left
  · intro wS hSw
    try dsimp only at hSw
    go_simp
    try with_reducible rfl
  simp only [List.getElem_toArray, List.getElem_cons_succ, List.getElem_cons_zero, Act.put, List.setIfInBounds_toArray, List.set_cons_zero, List.set_cons_succ]
  refine wpAnyH_take (i := 10) (v := ?_) rfl (by kernel_rfl) (by kernel_rfl) (by kernel_rfl) (fun _ _ _ h => h) (Or.inl ⟨by kernel_rfl, ?_⟩) (by assumption) ?_
  rotate_left
  · intro wS hSw
    try dsimp only at hSw
    go_simp
    try with_reducible rfl
  simp only [List.getElem_toArray, List.getElem_cons_succ, List.getElem_cons_zero, Act.put, List.setIfInBounds_toArray, List.set_cons_zero, List.set_cons_succ]
  refine wpAnyH_take (i := 11) (v := ?_) rfl (by kernel_rfl) (by kernel_rfl) (by kernel_rfl) (fun _ _ _ h => h) (Or.inl ⟨by kernel_rfl, ?_⟩) (by assumption) ?_
  rotate_left
  · intro wS hSw
    try dsimp only at hSw
    go_simp
    try with_reducible rfl
  simp only [List.getElem_toArray, List.getElem_cons_succ, List.getElem_cons_zero, Act.put, List.setIfInBounds_toArray, List.set_cons_zero, List.set_cons_succ]
  refine wpAnyH_ready (rs := [7]) (by kernel_rfl) (by simp) ?_
  refine AllReadyH.cons rfl (fun K hK => ?_) AllReadyH.nil
  go_simp
  refine (end_c off s false _ (by omega) (by omega) hs).mono ?_
  rintro e w' ⟨rfl, rfl⟩
  refine hK.out _ _ ?_ (fun hHeld2 => ?_)
  · go_keep
  clear hHeld
  refine wpAnyH_take (i := 12) (v := ?_) rfl (by kernel_rfl) (by kernel_rfl) (by kernel_rfl) (fun _ _ _ h => h) (Or.inl ⟨by kernel_rfl, ?_⟩) (by assumption) ?_
  rotate_left
  · intro wS hSw
    try dsimp only at hSw
    go_simp
    try with_reducible rfl
  simp only [List.getElem_toArray, List.getElem_cons_succ, List.getElem_cons_zero, Act.put, List.setIfInBounds_toArray, List.set_cons_zero, List.set_cons_succ]
  refine wpAnyH_take (i := 13) (v := ?_) rfl (by kernel_rfl) (by kernel_rfl) (by kernel_rfl) (fun _ _ _ h => h) (Or.inl ⟨by kernel_rfl, ?_⟩) (by assumption) ?_
  rotate_left
  · intro wS hSw
    try dsimp only at hSw
    go_simp
    try with_reducible rfl
  simp only [List.getElem_toArray, List.getElem_cons_succ, List.getElem_cons_zero, Act.put, List.setIfInBounds_toArray, List.set_cons_zero, List.set_cons_succ]
  refine wpAnyH_take (i := 14) (v := ?_) rfl (by kernel_rfl) (by kernel_rfl) (by kernel_rfl) (fun _ _ _ h => h) (Or.inl ⟨by kernel_rfl, ?_⟩) (by assumption) ?_
  rotate_left
  · intro wS hSw
    try dsimp only at hSw
    go_simp
    try with_reducible rfl
  simp only [List.getElem_toArray, List.getElem_cons_succ, List.getElem_cons_zero, Act.put, List.setIfInBounds_toArray, List.set_cons_zero, List.set_cons_succ]
  refine wpAnyH_take (i := 15) (v := undef) rfl (by kernel_rfl) (by kernel_rfl) (by kernel_rfl) (fun _ _ _ h => h) (Or.inr ⟨by kernel_rfl, rfl⟩) (by assumption) ?_
  simp only [List.getElem_toArray, List.getElem_cons_succ, List.getElem_cons_zero, Act.put, List.setIfInBounds_toArray, List.set_cons_zero, List.set_cons_succ]
  refine wpAnyH_take (i := 16) (v := undef) rfl (by kernel_rfl) (by kernel_rfl) (by kernel_rfl) (fun _ _ _ h => h) (Or.inr ⟨by kernel_rfl, rfl⟩) (by assumption) ?_
  simp only [List.getElem_toArray, List.getElem_cons_succ, List.getElem_cons_zero, Act.put, List.setIfInBounds_toArray, List.set_cons_zero, List.set_cons_succ]
  refine wpAnyH_take (i := 17) (v := undef) rfl (by kernel_rfl) (by kernel_rfl) (by kernel_rfl) (fun _ _ _ h => h) (Or.inr ⟨by kernel_rfl, rfl⟩) (by assumption) ?_
  simp only [List.getElem_toArray, List.getElem_cons_succ, List.getElem_cons_zero, Act.put, List.setIfInBounds_toArray, List.set_cons_zero, List.set_cons_succ]
  refine wpAnyH_take (i := 18) (v := undef) rfl (by kernel_rfl) (by kernel_rfl) (by kernel_rfl) (fun _ _ _ h => h) (Or.inr ⟨by kernel_rfl, rfl⟩) (by assumption) ?_
  simp only [List.getElem_toArray, List.getElem_cons_succ, List.getElem_cons_zero, Act.put, List.setIfInBounds_toArray, List.set_cons_zero, List.set_cons_succ]
  refine wpAnyH_take (i := 19) (v := undef) rfl (by kernel_rfl) (by kernel_rfl) (by kernel_rfl) (fun _ _ _ h => h) (Or.inr ⟨by kernel_rfl, rfl⟩) (by assumption) ?_
  simp only [List.getElem_toArray, List.getElem_cons_succ, List.getElem_cons_zero, Act.put, List.setIfInBounds_toArray, List.set_cons_zero, List.set_cons_succ]
  refine wpAnyH_take (i := 20) (v := undef) rfl (by kernel_rfl) (by kernel_rfl) (by kernel_rfl) (fun _ _ _ h => h) (Or.inr ⟨by kernel_rfl, rfl⟩) (by assumption) ?_
  simp only [List.getElem_toArray, List.getElem_cons_succ, List.getElem_cons_zero, Act.put, List.setIfInBounds_toArray, List.set_cons_zero, List.set_cons_succ]
  refine wpAnyH_take (i := 21) (v := undef) rfl (by kernel_rfl) (by kernel_rfl) (by kernel_rfl) (fun _ _ _ h => h) (Or.inr ⟨by kernel_rfl, rfl⟩) (by assumption) ?_
  simp only [List.getElem_toArray, List.getElem_cons_succ, List.getElem_cons_zero, Act.put, List.setIfInBounds_toArray, List.set_cons_zero, List.set_cons_succ]
  refine wpAnyH_take (i := 22) (v := undef) rfl (by kernel_rfl) (by kernel_rfl) (by kernel_rfl) (fun _ _ _ h => h) (Or.inr ⟨by kernel_rfl, rfl⟩) (by assumption) ?_
  simp only [List.getElem_toArray, List.getElem_cons_succ, List.getElem_cons_zero, Act.put, List.setIfInBounds_toArray, List.set_cons_zero, List.set_cons_succ]
  refine wpAnyH_take (i := 23) (v := undef) rfl (by kernel_rfl) (by kernel_rfl) (by kernel_rfl) (fun _ _ _ h => h) (Or.inr ⟨by kernel_rfl, rfl⟩) (by assumption) ?_
  simp only [List.getElem_toArray, List.getElem_cons_succ, List.getElem_cons_zero, Act.put, List.setIfInBounds_toArray, List.set_cons_zero, List.set_cons_succ]
  refine wpAnyH_take (i := 24) (v := undef) rfl (by kernel_rfl) (by kernel_rfl) (by kernel_rfl) (fun _ _ _ h => h) (Or.inr ⟨by kernel_rfl, rfl⟩) (by assumption) ?_
  simp only [List.getElem_toArray, List.getElem_cons_succ, List.getElem_cons_zero, Act.put, List.setIfInBounds_toArray, List.set_cons_zero, List.set_cons_succ]
  refine wpAnyH_take (i := 25) (v := undef) rfl (by kernel_rfl) (by kernel_rfl) (by kernel_rfl) (fun _ _ _ h => h) (Or.inr ⟨by kernel_rfl, rfl⟩) (by assumption) ?_
  simp only [List.getElem_toArray, List.getElem_cons_succ, List.getElem_cons_zero, Act.put, List.setIfInBounds_toArray, List.set_cons_zero, List.set_cons_succ]
  refine wpAnyH_take (i := 26) (v := undef) rfl (by kernel_rfl) (by kernel_rfl) (by kernel_rfl) (fun _ _ _ h => h) (Or.inr ⟨by kernel_rfl, rfl⟩) (by assumption) ?_
  simp only [List.getElem_toArray, List.getElem_cons_succ, List.getElem_cons_zero, Act.put, List.setIfInBounds_toArray, List.set_cons_zero, List.set_cons_succ]
  refine wpAnyH_take (i := 27) (v := ?_) rfl (by kernel_rfl) (by kernel_rfl) (by kernel_rfl) (fun _ _ _ h => h) (Or.inl ⟨by kernel_rfl, ?_⟩) (by assumption) ?_
  rotate_left
  · intro wS hSw
    try dsimp only at hSw
    go_simp
    try with_reducible rfl
  simp only [List.getElem_toArray, List.getElem_cons_succ, List.getElem_cons_zero, Act.put, List.setIfInBounds_toArray, List.set_cons_zero, List.set_cons_succ]
  refine wpAnyH_take (i := 28) (v := ?_) rfl (by kernel_rfl) (by kernel_rfl) (by kernel_rfl) (fun _ _ _ h => h) (Or.inl ⟨by kernel_rfl, ?_⟩) (by assumption) ?_
  rotate_left
  · intro wS hSw
    try dsimp only at hSw
    go_simp
    try with_reducible rfl
  simp only [List.getElem_toArray, List.getElem_cons_succ, List.getElem_cons_zero, Act.put, List.setIfInBounds_toArray, List.set_cons_zero, List.set_cons_succ]
  refine wpAnyH_done (by kernel_rfl) ?_ _
  all_goals go_wp2_with fail
  all_goals go_ret
  all_goals exact ⟨rfl, (ho1.alloc _).drew⟩
set_option maxHeartbeats 2000000 in
theorem fin_l0 (off : Int) (s : ByteArray) (hs : s.size ≤ 8192) (q0 : 0 ≤ off) (q1 : off ≤ 1099511627776) (hk : x.kn = true) (he : ¬ off + s.size = x.fin) (hl : off + s.size < x.fin) : Calls Tryd.prog 58 #[.pointer (some ⟨b, 0, none⟩), .agg #[.int .i64 off, .string s, .bool false]] w fun e w' => e = .returned (.bool true) ∧ Only [] w w' := by
  have c3 := hA.c3
  have c4 := hA.c4
  have c5 := hA.c5
  rw [hk] at c5
  clear hk
  have l1 : b < w.heap.size := hA.lt.1
  have l2 : b < w.heap.size + 1 := by omega
  have l3 : b < w.heap.size + 1 + 1 := by omega
  have l4 : b < w.heap.size + 2 := by omega
  have l5 : b < w.heap.size + 3 := by omega
  clear hA
  have d2 : (off + (s.size : Int) == x.fin) = false := Bool.eq_false_iff.2 (fun h => he (beq_iff_eq.1 h))
  clear he
  have d3 : decide (off + (s.size : Int) < x.fin) = true := decide_eq_true hl
  clear hl
  go_enter Tryd.func58, Tryd.ntmps58
  go_wp2_with fail
  go_quiet (fail)
  all_goals go_wp2_with fail
  have ho1 : Only [] w ((w.alloc (.cells #[.int .i64 off, .string s, .bool false] 66)).drewN nq) := ((Only.refl _ _).alloc _).drewN _
  have k3 : ((w.alloc (.cells #[.int .i64 off, .string s, .bool false] 66)).drewN nq).cell? ⟨b, 3, none⟩ = some (.int .i64 x.hi) := by rw [ho1.cell (p := ⟨b, 3, none⟩) l1 (by simp)]; exact c3
  have k4 : ((w.alloc (.cells #[.int .i64 off, .string s, .bool false] 66)).drewN nq).cell? ⟨b, 4, none⟩ = some (.int .i64 x.fin) := by rw [ho1.cell (p := ⟨b, 4, none⟩) l1 (by simp)]; exact c4
  have k5 : ((w.alloc (.cells #[.int .i64 off, .string s, .bool false] 66)).drewN nq).cell? ⟨b, 5, none⟩ = some (.bool true) := by rw [ho1.cell (p := ⟨b, 5, none⟩) l1 (by simp)]; exact c5
  have bPx : At ((w.alloc (.cells #[.int .i64 off, .string s, .bool false] 66)).drewN nq) w.heap.size 66 #[.int .i64 off, .string s, .bool false] := (At.new w _ _).drewN _
  have k0 : ((w.alloc (.cells #[.int .i64 off, .string s, .bool false] 66)).drewN nq).cell? ⟨w.heap.size, 0, none⟩ = some (.int .i64 off) := bPx.cell 0 rfl
  have k1 : ((w.alloc (.cells #[.int .i64 off, .string s, .bool false] 66)).drewN nq).cell? ⟨w.heap.size, 1, none⟩ = some (.string s) := bPx.cell 1 rfl
  have k2 : ((w.alloc (.cells #[.int .i64 off, .string s, .bool false] 66)).drewN nq).cell? ⟨w.heap.size, 2, none⟩ = some (.bool false) := bPx.cell 2 rfl
  have l6 : b < ((w.alloc (.cells #[.int .i64 off, .string s, .bool false] 66)).drewN nq).heap.size := Nat.lt_of_lt_of_le l1 ho1.size
  have l7 : w.heap.size < ((w.alloc (.cells #[.int .i64 off, .string s, .bool false] 66)).drewN nq).heap.size := bPx.lt
  obtain ⟨W1, hW1⟩ : ∃ W1, ((w.alloc (.cells #[.int .i64 off, .string s, .bool false] 66)).drewN nq) = W1 := ⟨_, rfl⟩
  clear bPx
  rw [hW1] at ho1 k3 k4 k5 k0 k1 k2 l6 l7
  simp only [hW1]
  clear hW1
  have l8 : b < W1.heap.size + 1 := by omega
  have l9 : w.heap.size < W1.heap.size + 1 := by omega
  clear l1 l2 l3 l4 l5 c3 c4 c5
  refine wp_region_held_drew (S := (fun w' => w'.cell? ⟨b, 3, none⟩ = some (.int .i64 x.hi) ∧ w'.cell? ⟨b, 4, none⟩ = some (.int .i64 x.fin) ∧ w'.cell? ⟨b, 5, none⟩ = some (.bool true) ∧ w'.cell? ⟨w.heap.size, 0, none⟩ = some (.int .i64 off) ∧ w'.cell? ⟨w.heap.size, 1, none⟩ = some (.string s) ∧ w'.cell? ⟨w.heap.size, 2, none⟩ = some (.bool false))) (by kernel_rfl) (by go_keep) (fun hHeld => ?_)
  refine wpAnyH_take (i := 0) (v := ?_) rfl (by kernel_rfl) (by kernel_rfl) (by kernel_rfl) (fun _ _ _ h => h) (Or.inl ⟨by kernel_rfl, ?_⟩) (by assumption) ?_
  rotate_left
  · intro wS hSw
    try dsimp only at hSw
    go_simp
    try with_reducible rfl
  simp only [List.getElem_toArray, List.getElem_cons_succ, List.getElem_cons_zero, Act.put, List.setIfInBounds_toArray, List.set_cons_zero, List.set_cons_succ]
  refine wpAnyH_take (i := 1) (v := ?_) rfl (by kernel_rfl) (by kernel_rfl) (by kernel_rfl) (fun _ _ _ h => h) (Or.inl ⟨by kernel_rfl, ?_⟩) (by assumption) ?_
  rotate_left
  · intro wS hSw
    try dsimp only at hSw
    go_simp
    try with_reducible rfl
  simp only [List.getElem_toArray, List.getElem_cons_succ, List.getElem_cons_zero, Act.put, List.setIfInBounds_toArray, List.set_cons_zero, List.set_cons_succ]
  refine wpAnyH_take (i := 2) (v := ?_) rfl (by kernel_rfl) (by kernel_rfl) (by kernel_rfl) (fun _ _ _ h => h) (Or.inl ⟨by kernel_rfl, ?_⟩) (by assumption) ?_
  rotate_left
  · intro wS hSw
    try dsimp only at hSw
    go_simp
    try with_reducible rfl
  simp only [List.getElem_toArray, List.getElem_cons_succ, List.getElem_cons_zero, Act.put, List.setIfInBounds_toArray, List.set_cons_zero, List.set_cons_succ]
  refine wpAnyH_take (i := 3) (v := ?_) rfl (by kernel_rfl) (by kernel_rfl) (by kernel_rfl) (fun _ _ _ h => h) (Or.inl ⟨by kernel_rfl, ?_⟩) (by assumption) ?_
  rotate_left
  · intro wS hSw
    try dsimp only at hSw
    go_simp
    try with_reducible rfl
  simp only [List.getElem_toArray, List.getElem_cons_succ, List.getElem_cons_zero, Act.put, List.setIfInBounds_toArray, List.set_cons_zero, List.set_cons_succ]
  refine wpAnyH_take (i := 4) (v := ?_) rfl (by kernel_rfl) (by kernel_rfl) (by kernel_rfl) (fun _ _ _ h => h) (Or.inl ⟨by kernel_rfl, ?_⟩) (by assumption) ?_
  rotate_left
  · intro wS hSw
    try dsimp only at hSw
    go_simp
    try with_reducible rfl
  simp only [List.getElem_toArray, List.getElem_cons_succ, List.getElem_cons_zero, Act.put, List.setIfInBounds_toArray, List.set_cons_zero, List.set_cons_succ]
  refine wpAnyH_take (i := 5) (v := ?_) rfl (by kernel_rfl) (by kernel_rfl) (by kernel_rfl) (fun _ _ _ h => h) (Or.inl ⟨by kernel_rfl, ?_⟩) (by assumption) ?_
  rotate_left
  · intro wS hSw
    try dsimp only at hSw
    go_simp
    try with_reducible rfl
  simp only [List.getElem_toArray, List.getElem_cons_succ, List.getElem_cons_zero, Act.put, List.setIfInBounds_toArray, List.set_cons_zero, List.set_cons_succ]
  refine wpAnyH_take (i := 6) (v := ?_) rfl (by kernel_rfl) (by kernel_rfl) (by kernel_rfl) (fun _ _ _ h => h) (Or.inl ⟨by kernel_rfl, ?_⟩) (by assumption) ?_
  rotate_left
  · intro wS hSw
    try dsimp only at hSw
    go_simp
    try with_reducible rfl
  simp only [List.getElem_toArray, List.getElem_cons_succ, List.getElem_cons_zero, Act.put, List.setIfInBounds_toArray, List.set_cons_zero, List.set_cons_succ]
  refine wpAnyH_take (i := 8) (v := ?_) rfl (by kernel_rfl) (by kernel_rfl) (by kernel_rfl) (fun _ _ _ h => h) (Or.inl ⟨by kernel_rfl, ?_⟩) (by assumption) ?_
  rotate_left
  · intro wS hSw
    try dsimp only at hSw
    go_simp
    try with_reducible rfl
  simp only [List.getElem_toArray, List.getElem_cons_succ, List.getElem_cons_zero, Act.put, List.setIfInBounds_toArray, List.set_cons_zero, List.set_cons_succ]
  refine wpAnyH_take (i := 9) (v := ?_) rfl (by kernel_rfl) (by kernel_rfl) (by kernel_rfl) (fun _ _ _ h => h) (Or.inl ⟨by kernel_rfl, ?_⟩) (by assumption) ?_
  rotate_left
  · intro wS hSw
    try dsimp only at hSw
    go_simp
    try with_reducible rfl
  simp only [List.getElem_toArray, List.getElem_cons_succ, List.getElem_cons_zero, Act.put, List.setIfInBounds_toArray, List.set_cons_zero, List.set_cons_succ]
  refine wpAnyH_take (i := 10) (v := ?_) rfl (by kernel_rfl) (by kernel_rfl) (by kernel_rfl) (fun _ _ _ h => h) (Or.inl ⟨by kernel_rfl, ?_⟩) (by assumption) ?_
  rotate_left
  · intro wS hSw
    try dsimp only at hSw
    go_simp
    try with_reducible rfl
  simp only [List.getElem_toArray, List.getElem_cons_succ, List.getElem_cons_zero, Act.put, List.setIfInBounds_toArray, List.set_cons_zero, List.set_cons_succ]
  refine wpAnyH_take (i := 11) (v := ?_) rfl (by kernel_rfl) (by kernel_rfl) (by kernel_rfl) (fun _ _ _ h => h) (Or.inl ⟨by kernel_rfl, ?_⟩) (by assumption) ?_
  rotate_left
  · intro wS hSw
    try dsimp only at hSw
    go_simp
    try with_reducible rfl
  simp only [List.getElem_toArray, List.getElem_cons_succ, List.getElem_cons_zero, Act.put, List.setIfInBounds_toArray, List.set_cons_zero, List.set_cons_succ]
  refine wpAnyH_ready (rs := [7]) (by kernel_rfl) (by simp) ?_
  refine AllReadyH.cons rfl (fun K hK => ?_) AllReadyH.nil
  go_simp
  refine (end_c off s false _ (by omega) (by omega) hs).mono ?_
  rintro e w' ⟨rfl, rfl⟩
  refine hK.out _ _ ?_ (fun hHeld2 => ?_)
  · go_keep
  clear hHeld hK K
  refine wpAnyH_take (i := 12) (v := ?_) rfl (by kernel_rfl) (by kernel_rfl) (by kernel_rfl) (fun _ _ _ h => h) (Or.inl ⟨by kernel_rfl, ?_⟩) (by assumption) ?_
  rotate_left
  · intro wS hSw
    try dsimp only at hSw
    go_simp
    try with_reducible rfl
  simp only [List.getElem_toArray, List.getElem_cons_succ, List.getElem_cons_zero, Act.put, List.setIfInBounds_toArray, List.set_cons_zero, List.set_cons_succ]
  refine wpAnyH_take (i := 13) (v := ?_) rfl (by kernel_rfl) (by kernel_rfl) (by kernel_rfl) (fun _ _ _ h => h) (Or.inl ⟨by kernel_rfl, ?_⟩) (by assumption) ?_
  rotate_left
  · intro wS hSw
    try dsimp only at hSw
    go_simp
    try with_reducible rfl
  simp only [List.getElem_toArray, List.getElem_cons_succ, List.getElem_cons_zero, Act.put, List.setIfInBounds_toArray, List.set_cons_zero, List.set_cons_succ]
  refine wpAnyH_take (i := 14) (v := ?_) rfl (by kernel_rfl) (by kernel_rfl) (by kernel_rfl) (fun _ _ _ h => h) (Or.inl ⟨by kernel_rfl, ?_⟩) (by assumption) ?_
  rotate_left
  · intro wS hSw
    try dsimp only at hSw
    go_simp
    try with_reducible rfl
  simp only [List.getElem_toArray, List.getElem_cons_succ, List.getElem_cons_zero, Act.put, List.setIfInBounds_toArray, List.set_cons_zero, List.set_cons_succ]
  refine wpAnyH_take (i := 15) (v := ?_) rfl (by kernel_rfl) (by kernel_rfl) (by kernel_rfl) (fun _ _ _ h => h) (Or.inl ⟨by kernel_rfl, ?_⟩) (by assumption) ?_
  rotate_left
  · intro wS hSw
    try dsimp only at hSw
    go_simp
    try with_reducible rfl
  simp only [List.getElem_toArray, List.getElem_cons_succ, List.getElem_cons_zero, Act.put, List.setIfInBounds_toArray, List.set_cons_zero, List.set_cons_succ]
  refine wpAnyH_take (i := 17) (v := ?_) rfl (by kernel_rfl) (by kernel_rfl) (by kernel_rfl) (fun _ _ _ h => h) (Or.inl ⟨by kernel_rfl, ?_⟩) (by assumption) ?_
  rotate_left
  · intro wS hSw
    try dsimp only at hSw
    go_simp
    try with_reducible rfl
  simp only [List.getElem_toArray, List.getElem_cons_succ, List.getElem_cons_zero, Act.put, List.setIfInBounds_toArray, List.set_cons_zero, List.set_cons_succ]
  refine wpAnyH_take (i := 18) (v := ?_) rfl (by kernel_rfl) (by kernel_rfl) (by kernel_rfl) (fun _ _ _ h => h) (Or.inl ⟨by kernel_rfl, ?_⟩) (by assumption) ?_
  rotate_left
  · intro wS hSw
    try dsimp only at hSw
    go_simp
    try with_reducible rfl
  simp only [List.getElem_toArray, List.getElem_cons_succ, List.getElem_cons_zero, Act.put, List.setIfInBounds_toArray, List.set_cons_zero, List.set_cons_succ]
  refine wpAnyH_take (i := 19) (v := ?_) rfl (by kernel_rfl) (by kernel_rfl) (by kernel_rfl) (fun _ _ _ h => h) (Or.inl ⟨by kernel_rfl, ?_⟩) (by assumption) ?_
  rotate_left
  · intro wS hSw
    try dsimp only at hSw
    go_simp
    try with_reducible rfl
  simp only [List.getElem_toArray, List.getElem_cons_succ, List.getElem_cons_zero, Act.put, List.setIfInBounds_toArray, List.set_cons_zero, List.set_cons_succ]
  refine wpAnyH_take (i := 20) (v := ?_) rfl (by kernel_rfl) (by kernel_rfl) (by kernel_rfl) (fun _ _ _ h => h) (Or.inl ⟨by kernel_rfl, ?_⟩) (by assumption) ?_
  rotate_left
  · intro wS hSw
    try dsimp only at hSw
    go_simp
    try with_reducible rfl
  simp only [List.getElem_toArray, List.getElem_cons_succ, List.getElem_cons_zero, Act.put, List.setIfInBounds_toArray, List.set_cons_zero, List.set_cons_succ]
  refine wpAnyH_ready (rs := [16]) (by kernel_rfl) (by simp) ?_
  refine AllReadyH.cons rfl (fun K hK => ?_) AllReadyH.nil
  go_simp
  refine (end_c off s false _ (by omega) (by omega) hs).mono ?_
  rintro e w' ⟨rfl, rfl⟩
  refine hK.out _ _ ?_ (fun hHeld3 => ?_)
  · go_keep
  clear hHeld2 hK K
  refine wpAnyH_take (i := 21) (v := ?_) rfl (by kernel_rfl) (by kernel_rfl) (by kernel_rfl) (fun _ _ _ h => h) (Or.inl ⟨by kernel_rfl, ?_⟩) (by assumption) ?_
  rotate_left
  · intro wS hSw
    try dsimp only at hSw
    go_simp
    try with_reducible rfl
  simp only [List.getElem_toArray, List.getElem_cons_succ, List.getElem_cons_zero, Act.put, List.setIfInBounds_toArray, List.set_cons_zero, List.set_cons_succ]
  refine wpAnyH_take (i := 22) (v := ?_) rfl (by kernel_rfl) (by kernel_rfl) (by kernel_rfl) (fun _ _ _ h => h) (Or.inl ⟨by kernel_rfl, ?_⟩) (by assumption) ?_
  rotate_left
  · intro wS hSw
    try dsimp only at hSw
    go_simp
    try with_reducible rfl
  simp only [List.getElem_toArray, List.getElem_cons_succ, List.getElem_cons_zero, Act.put, List.setIfInBounds_toArray, List.set_cons_zero, List.set_cons_succ]
  refine wpAnyH_take (i := 23) (v := ?_) rfl (by kernel_rfl) (by kernel_rfl) (by kernel_rfl) (fun _ _ _ h => h) (Or.inl ⟨by kernel_rfl, ?_⟩) (by assumption) ?_
  rotate_left
  · intro wS hSw
    try dsimp only at hSw
    go_simp
    try with_reducible rfl
  simp only [List.getElem_toArray, List.getElem_cons_succ, List.getElem_cons_zero, Act.put, List.setIfInBounds_toArray, List.set_cons_zero, List.set_cons_succ]
  refine wpAnyH_take (i := 24) (v := ?_) rfl (by kernel_rfl) (by kernel_rfl) (by kernel_rfl) (fun _ _ _ h => h) (Or.inl ⟨by kernel_rfl, ?_⟩) (by assumption) ?_
  rotate_left
  · intro wS hSw
    try dsimp only at hSw
    go_simp
    try with_reducible rfl
  simp only [List.getElem_toArray, List.getElem_cons_succ, List.getElem_cons_zero, Act.put, List.setIfInBounds_toArray, List.set_cons_zero, List.set_cons_succ]
  refine wpAnyH_take (i := 25) (v := ?_) rfl (by kernel_rfl) (by kernel_rfl) (by kernel_rfl) (fun _ _ _ h => h) (Or.inl ⟨by kernel_rfl, ?_⟩) (by assumption) ?_
  rotate_left
  · intro wS hSw
    try dsimp only at hSw
    go_simp
    try with_reducible rfl
  simp only [List.getElem_toArray, List.getElem_cons_succ, List.getElem_cons_zero, Act.put, List.setIfInBounds_toArray, List.set_cons_zero, List.set_cons_succ]
  refine wpAnyH_take (i := 26) (v := ?_) rfl (by kernel_rfl) (by kernel_rfl) (by kernel_rfl) (fun _ _ _ h => h) (Or.inl ⟨by kernel_rfl, ?_⟩) (by assumption) ?_
  rotate_left
  · intro wS hSw
    try dsimp only at hSw
    go_simp
    try with_reducible rfl
  simp only [List.getElem_toArray, List.getElem_cons_succ, List.getElem_cons_zero, Act.put, List.setIfInBounds_toArray, List.set_cons_zero, List.set_cons_succ]
  refine wpAnyH_take (i := 27) (v := ?_) rfl (by kernel_rfl) (by kernel_rfl) (by kernel_rfl) (fun _ _ _ h => h) (Or.inl ⟨by kernel_rfl, ?_⟩) (by assumption) ?_
  rotate_left
  · intro wS hSw
    try dsimp only at hSw
    go_simp
    try with_reducible rfl
  simp only [List.getElem_toArray, List.getElem_cons_succ, List.getElem_cons_zero, Act.put, List.setIfInBounds_toArray, List.set_cons_zero, List.set_cons_succ]
  refine wpAnyH_take (i := 28) (v := ?_) rfl (by kernel_rfl) (by kernel_rfl) (by kernel_rfl) (fun _ _ _ h => h) (Or.inl ⟨by kernel_rfl, ?_⟩) (by assumption) ?_
  rotate_left
  · intro wS hSw
    try dsimp only at hSw
    go_simp
    try with_reducible rfl
  simp only [List.getElem_toArray, List.getElem_cons_succ, List.getElem_cons_zero, Act.put, List.setIfInBounds_toArray, List.set_cons_zero, List.set_cons_succ]
  refine wpAnyH_done (by kernel_rfl) ?_ _
  all_goals go_wp2_with fail
  all_goals go_ret
  all_goals exact ⟨rfl, ((ho1.alloc _).alloc _).drew⟩
set_option maxHeartbeats 2000000 in
theorem fin_n0 (off : Int) (s : ByteArray) (hs : s.size ≤ 8192) (q0 : 0 ≤ off) (q1 : off ≤ 1099511627776) (hk : x.kn = true) (he : ¬ off + s.size = x.fin) (hl : ¬ off + s.size < x.fin) : Calls Tryd.prog 58 #[.pointer (some ⟨b, 0, none⟩), .agg #[.int .i64 off, .string s, .bool false]] w fun e w' => e = .returned (.bool false) ∧ Only [] w w' := by
  have c3 := hA.c3
  have c4 := hA.c4
  have c5 := hA.c5
  rw [hk] at c5
  clear hk
  have l1 : b < w.heap.size := hA.lt.1
  have l2 : b < w.heap.size + 1 := by omega
  have l3 : b < w.heap.size + 1 + 1 := by omega
  have l4 : b < w.heap.size + 2 := by omega
  have l5 : b < w.heap.size + 3 := by omega
  clear hA
  have d2 : (off + (s.size : Int) == x.fin) = false := Bool.eq_false_iff.2 (fun h => he (beq_iff_eq.1 h))
  clear he
  have d3 : decide (off + (s.size : Int) < x.fin) = false := decide_eq_false hl
  clear hl
  go_enter Tryd.func58, Tryd.ntmps58
  go_wp2_with fail
  go_quiet (fail)
  all_goals go_wp2_with fail
  have ho1 : Only [] w ((w.alloc (.cells #[.int .i64 off, .string s, .bool false] 66)).drewN nq) := ((Only.refl _ _).alloc _).drewN _
  have k3 : ((w.alloc (.cells #[.int .i64 off, .string s, .bool false] 66)).drewN nq).cell? ⟨b, 3, none⟩ = some (.int .i64 x.hi) := by rw [ho1.cell (p := ⟨b, 3, none⟩) l1 (by simp)]; exact c3
  have k4 : ((w.alloc (.cells #[.int .i64 off, .string s, .bool false] 66)).drewN nq).cell? ⟨b, 4, none⟩ = some (.int .i64 x.fin) := by rw [ho1.cell (p := ⟨b, 4, none⟩) l1 (by simp)]; exact c4
  have k5 : ((w.alloc (.cells #[.int .i64 off, .string s, .bool false] 66)).drewN nq).cell? ⟨b, 5, none⟩ = some (.bool true) := by rw [ho1.cell (p := ⟨b, 5, none⟩) l1 (by simp)]; exact c5
  have bPx : At ((w.alloc (.cells #[.int .i64 off, .string s, .bool false] 66)).drewN nq) w.heap.size 66 #[.int .i64 off, .string s, .bool false] := (At.new w _ _).drewN _
  have k0 : ((w.alloc (.cells #[.int .i64 off, .string s, .bool false] 66)).drewN nq).cell? ⟨w.heap.size, 0, none⟩ = some (.int .i64 off) := bPx.cell 0 rfl
  have k1 : ((w.alloc (.cells #[.int .i64 off, .string s, .bool false] 66)).drewN nq).cell? ⟨w.heap.size, 1, none⟩ = some (.string s) := bPx.cell 1 rfl
  have k2 : ((w.alloc (.cells #[.int .i64 off, .string s, .bool false] 66)).drewN nq).cell? ⟨w.heap.size, 2, none⟩ = some (.bool false) := bPx.cell 2 rfl
  have l6 : b < ((w.alloc (.cells #[.int .i64 off, .string s, .bool false] 66)).drewN nq).heap.size := Nat.lt_of_lt_of_le l1 ho1.size
  have l7 : w.heap.size < ((w.alloc (.cells #[.int .i64 off, .string s, .bool false] 66)).drewN nq).heap.size := bPx.lt
  obtain ⟨W1, hW1⟩ : ∃ W1, ((w.alloc (.cells #[.int .i64 off, .string s, .bool false] 66)).drewN nq) = W1 := ⟨_, rfl⟩
  clear bPx
  rw [hW1] at ho1 k3 k4 k5 k0 k1 k2 l6 l7
  simp only [hW1]
  clear hW1
  have l8 : b < W1.heap.size + 1 := by omega
  have l9 : w.heap.size < W1.heap.size + 1 := by omega
  clear l1 l2 l3 l4 l5 c3 c4 c5
  refine wp_region_held_drew (S := (fun w' => w'.cell? ⟨b, 3, none⟩ = some (.int .i64 x.hi) ∧ w'.cell? ⟨b, 4, none⟩ = some (.int .i64 x.fin) ∧ w'.cell? ⟨b, 5, none⟩ = some (.bool true) ∧ w'.cell? ⟨w.heap.size, 0, none⟩ = some (.int .i64 off) ∧ w'.cell? ⟨w.heap.size, 1, none⟩ = some (.string s) ∧ w'.cell? ⟨w.heap.size, 2, none⟩ = some (.bool false))) (by kernel_rfl) (by go_keep) (fun hHeld => ?_)
  refine wpAnyH_take (i := 0) (v := ?_) rfl (by kernel_rfl) (by kernel_rfl) (by kernel_rfl) (fun _ _ _ h => h) (Or.inl ⟨by kernel_rfl, ?_⟩) (by assumption) ?_
  rotate_left
  · intro wS hSw
    try dsimp only at hSw
    go_simp
    try with_reducible rfl
  simp only [List.getElem_toArray, List.getElem_cons_succ, List.getElem_cons_zero, Act.put, List.setIfInBounds_toArray, List.set_cons_zero, List.set_cons_succ]
  refine wpAnyH_take (i := 1) (v := ?_) rfl (by kernel_rfl) (by kernel_rfl) (by kernel_rfl) (fun _ _ _ h => h) (Or.inl ⟨by kernel_rfl, ?_⟩) (by assumption) ?_
  rotate_left
  · intro wS hSw
    try dsimp only at hSw
    go_simp
    try with_reducible rfl
  simp only [List.getElem_toArray, List.getElem_cons_succ, List.getElem_cons_zero, Act.put, List.setIfInBounds_toArray, List.set_cons_zero, List.set_cons_succ]
  refine wpAnyH_take (i := 2) (v := ?_) rfl (by kernel_rfl) (by kernel_rfl) (by kernel_rfl) (fun _ _ _ h => h) (Or.inl ⟨by kernel_rfl, ?_⟩) (by assumption) ?_
  rotate_left
  · intro wS hSw
    try dsimp only at hSw
    go_simp
    try with_reducible rfl
  simp only [List.getElem_toArray, List.getElem_cons_succ, List.getElem_cons_zero, Act.put, List.setIfInBounds_toArray, List.set_cons_zero, List.set_cons_succ]
  refine wpAnyH_take (i := 3) (v := ?_) rfl (by kernel_rfl) (by kernel_rfl) (by kernel_rfl) (fun _ _ _ h => h) (Or.inl ⟨by kernel_rfl, ?_⟩) (by assumption) ?_
  rotate_left
  · intro wS hSw
    try dsimp only at hSw
    go_simp
    try with_reducible rfl
  simp only [List.getElem_toArray, List.getElem_cons_succ, List.getElem_cons_zero, Act.put, List.setIfInBounds_toArray, List.set_cons_zero, List.set_cons_succ]
  refine wpAnyH_take (i := 4) (v := ?_) rfl (by kernel_rfl) (by kernel_rfl) (by kernel_rfl) (fun _ _ _ h => h) (Or.inl ⟨by kernel_rfl, ?_⟩) (by assumption) ?_
  rotate_left
  · intro wS hSw
    try dsimp only at hSw
    go_simp
    try with_reducible rfl
  simp only [List.getElem_toArray, List.getElem_cons_succ, List.getElem_cons_zero, Act.put, List.setIfInBounds_toArray, List.set_cons_zero, List.set_cons_succ]
  refine wpAnyH_take (i := 5) (v := ?_) rfl (by kernel_rfl) (by kernel_rfl) (by kernel_rfl) (fun _ _ _ h => h) (Or.inl ⟨by kernel_rfl, ?_⟩) (by assumption) ?_
  rotate_left
  · intro wS hSw
    try dsimp only at hSw
    go_simp
    try with_reducible rfl
  simp only [List.getElem_toArray, List.getElem_cons_succ, List.getElem_cons_zero, Act.put, List.setIfInBounds_toArray, List.set_cons_zero, List.set_cons_succ]
  refine wpAnyH_take (i := 6) (v := ?_) rfl (by kernel_rfl) (by kernel_rfl) (by kernel_rfl) (fun _ _ _ h => h) (Or.inl ⟨by kernel_rfl, ?_⟩) (by assumption) ?_
  rotate_left
  · intro wS hSw
    try dsimp only at hSw
    go_simp
    try with_reducible rfl
  simp only [List.getElem_toArray, List.getElem_cons_succ, List.getElem_cons_zero, Act.put, List.setIfInBounds_toArray, List.set_cons_zero, List.set_cons_succ]
  refine wpAnyH_take (i := 8) (v := ?_) rfl (by kernel_rfl) (by kernel_rfl) (by kernel_rfl) (fun _ _ _ h => h) (Or.inl ⟨by kernel_rfl, ?_⟩) (by assumption) ?_
  rotate_left
  · intro wS hSw
    try dsimp only at hSw
    go_simp
    try with_reducible rfl
  simp only [List.getElem_toArray, List.getElem_cons_succ, List.getElem_cons_zero, Act.put, List.setIfInBounds_toArray, List.set_cons_zero, List.set_cons_succ]
  refine wpAnyH_take (i := 9) (v := ?_) rfl (by kernel_rfl) (by kernel_rfl) (by kernel_rfl) (fun _ _ _ h => h) (Or.inl ⟨by kernel_rfl, ?_⟩) (by assumption) ?_
  rotate_left
  · intro wS hSw
    try dsimp only at hSw
    go_simp
    try with_reducible rfl
  simp only [List.getElem_toArray, List.getElem_cons_succ, List.getElem_cons_zero, Act.put, List.setIfInBounds_toArray, List.set_cons_zero, List.set_cons_succ]
  refine wpAnyH_take (i := 10) (v := ?_) rfl (by kernel_rfl) (by kernel_rfl) (by kernel_rfl) (fun _ _ _ h => h) (Or.inl ⟨by kernel_rfl, ?_⟩) (by assumption) ?_
  rotate_left
  · intro wS hSw
    try dsimp only at hSw
    go_simp
    try with_reducible rfl
  simp only [List.getElem_toArray, List.getElem_cons_succ, List.getElem_cons_zero, Act.put, List.setIfInBounds_toArray, List.set_cons_zero, List.set_cons_succ]
  refine wpAnyH_take (i := 11) (v := ?_) rfl (by kernel_rfl) (by kernel_rfl) (by kernel_rfl) (fun _ _ _ h => h) (Or.inl ⟨by kernel_rfl, ?_⟩) (by assumption) ?_
  rotate_left
  · intro wS hSw
    try dsimp only at hSw
    go_simp
    try with_reducible rfl
  simp only [List.getElem_toArray, List.getElem_cons_succ, List.getElem_cons_zero, Act.put, List.setIfInBounds_toArray, List.set_cons_zero, List.set_cons_succ]
  refine wpAnyH_ready (rs := [7]) (by kernel_rfl) (by simp) ?_
  refine AllReadyH.cons rfl (fun K hK => ?_) AllReadyH.nil
  go_simp
  refine (end_c off s false _ (by omega) (by omega) hs).mono ?_
  rintro e w' ⟨rfl, rfl⟩
  refine hK.out _ _ ?_ (fun hHeld2 => ?_)
  · go_keep
  clear hHeld hK K
  refine wpAnyH_take (i := 12) (v := ?_) rfl (by kernel_rfl) (by kernel_rfl) (by kernel_rfl) (fun _ _ _ h => h) (Or.inl ⟨by kernel_rfl, ?_⟩) (by assumption) ?_
  rotate_left
  · intro wS hSw
    try dsimp only at hSw
    go_simp
    try with_reducible rfl
  simp only [List.getElem_toArray, List.getElem_cons_succ, List.getElem_cons_zero, Act.put, List.setIfInBounds_toArray, List.set_cons_zero, List.set_cons_succ]
  refine wpAnyH_take (i := 13) (v := ?_) rfl (by kernel_rfl) (by kernel_rfl) (by kernel_rfl) (fun _ _ _ h => h) (Or.inl ⟨by kernel_rfl, ?_⟩) (by assumption) ?_
  rotate_left
  · intro wS hSw
    try dsimp only at hSw
    go_simp
    try with_reducible rfl
  simp only [List.getElem_toArray, List.getElem_cons_succ, List.getElem_cons_zero, Act.put, List.setIfInBounds_toArray, List.set_cons_zero, List.set_cons_succ]
  refine wpAnyH_take (i := 14) (v := ?_) rfl (by kernel_rfl) (by kernel_rfl) (by kernel_rfl) (fun _ _ _ h => h) (Or.inl ⟨by kernel_rfl, ?_⟩) (by assumption) ?_
  rotate_left
  · intro wS hSw
    try dsimp only at hSw
    go_simp
    try with_reducible rfl
  simp only [List.getElem_toArray, List.getElem_cons_succ, List.getElem_cons_zero, Act.put, List.setIfInBounds_toArray, List.set_cons_zero, List.set_cons_succ]
  refine wpAnyH_take (i := 15) (v := ?_) rfl (by kernel_rfl) (by kernel_rfl) (by kernel_rfl) (fun _ _ _ h => h) (Or.inl ⟨by kernel_rfl, ?_⟩) (by assumption) ?_
  rotate_left
  · intro wS hSw
    try dsimp only at hSw
    go_simp
    try with_reducible rfl
  simp only [List.getElem_toArray, List.getElem_cons_succ, List.getElem_cons_zero, Act.put, List.setIfInBounds_toArray, List.set_cons_zero, List.set_cons_succ]
  refine wpAnyH_take (i := 17) (v := ?_) rfl (by kernel_rfl) (by kernel_rfl) (by kernel_rfl) (fun _ _ _ h => h) (Or.inl ⟨by kernel_rfl, ?_⟩) (by assumption) ?_
  rotate_left
  · intro wS hSw
    try dsimp only at hSw
    go_simp
    try with_reducible rfl
  simp only [List.getElem_toArray, List.getElem_cons_succ, List.getElem_cons_zero, Act.put, List.setIfInBounds_toArray, List.set_cons_zero, List.set_cons_succ]
  refine wpAnyH_take (i := 18) (v := ?_) rfl (by kernel_rfl) (by kernel_rfl) (by kernel_rfl) (fun _ _ _ h => h) (Or.inl ⟨by kernel_rfl, ?_⟩) (by assumption) ?_
  rotate_left
  · intro wS hSw
    try dsimp only at hSw
    go_simp
    try with_reducible rfl
  simp only [List.getElem_toArray, List.getElem_cons_succ, List.getElem_cons_zero, Act.put, List.setIfInBounds_toArray, List.set_cons_zero, List.set_cons_succ]
  refine wpAnyH_take (i := 19) (v := ?_) rfl (by kernel_rfl) (by kernel_rfl) (by kernel_rfl) (fun _ _ _ h => h) (Or.inl ⟨by kernel_rfl, ?_⟩) (by assumption) ?_
  rotate_left
  · intro wS hSw
    try dsimp only at hSw
    go_simp
    try with_reducible rfl
  simp only [List.getElem_toArray, List.getElem_cons_succ, List.getElem_cons_zero, Act.put, List.setIfInBounds_toArray, List.set_cons_zero, List.set_cons_succ]
  refine wpAnyH_take (i := 20) (v := ?_) rfl (by kernel_rfl) (by kernel_rfl) (by kernel_rfl) (fun _ _ _ h => h) (Or.inl ⟨by kernel_rfl, ?_⟩) (by assumption) ?_
  rotate_left
  · intro wS hSw
    try dsimp only at hSw
    go_simp
    try with_reducible rfl
  simp only [List.getElem_toArray, List.getElem_cons_succ, List.getElem_cons_zero, Act.put, List.setIfInBounds_toArray, List.set_cons_zero, List.set_cons_succ]
  refine wpAnyH_ready (rs := [16]) (by kernel_rfl) (by simp) ?_
  refine AllReadyH.cons rfl (fun K hK => ?_) AllReadyH.nil
  go_simp
  refine (end_c off s false _ (by omega) (by omega) hs).mono ?_
  rintro e w' ⟨rfl, rfl⟩
  refine hK.out _ _ ?_ (fun hHeld3 => ?_)
  · go_keep
  clear hHeld2 hK K
  refine wpAnyH_take (i := 21) (v := ?_) rfl (by kernel_rfl) (by kernel_rfl) (by kernel_rfl) (fun _ _ _ h => h) (Or.inl ⟨by kernel_rfl, ?_⟩) (by assumption) ?_
  rotate_left
  · intro wS hSw
    try dsimp only at hSw
    go_simp
    try with_reducible rfl
  simp only [List.getElem_toArray, List.getElem_cons_succ, List.getElem_cons_zero, Act.put, List.setIfInBounds_toArray, List.set_cons_zero, List.set_cons_succ]
  refine wpAnyH_take (i := 22) (v := ?_) rfl (by kernel_rfl) (by kernel_rfl) (by kernel_rfl) (fun _ _ _ h => h) (Or.inl ⟨by kernel_rfl, ?_⟩) (by assumption) ?_
  rotate_left
  · intro wS hSw
    try dsimp only at hSw
    go_simp
    try with_reducible rfl
  simp only [List.getElem_toArray, List.getElem_cons_succ, List.getElem_cons_zero, Act.put, List.setIfInBounds_toArray, List.set_cons_zero, List.set_cons_succ]
  refine wpAnyH_take (i := 23) (v := undef) rfl (by kernel_rfl) (by kernel_rfl) (by kernel_rfl) (fun _ _ _ h => h) (Or.inr ⟨by kernel_rfl, rfl⟩) (by assumption) ?_
  simp only [List.getElem_toArray, List.getElem_cons_succ, List.getElem_cons_zero, Act.put, List.setIfInBounds_toArray, List.set_cons_zero, List.set_cons_succ]
  refine wpAnyH_take (i := 24) (v := undef) rfl (by kernel_rfl) (by kernel_rfl) (by kernel_rfl) (fun _ _ _ h => h) (Or.inr ⟨by kernel_rfl, rfl⟩) (by assumption) ?_
  simp only [List.getElem_toArray, List.getElem_cons_succ, List.getElem_cons_zero, Act.put, List.setIfInBounds_toArray, List.set_cons_zero, List.set_cons_succ]
  refine wpAnyH_take (i := 25) (v := undef) rfl (by kernel_rfl) (by kernel_rfl) (by kernel_rfl) (fun _ _ _ h => h) (Or.inr ⟨by kernel_rfl, rfl⟩) (by assumption) ?_
  simp only [List.getElem_toArray, List.getElem_cons_succ, List.getElem_cons_zero, Act.put, List.setIfInBounds_toArray, List.set_cons_zero, List.set_cons_succ]
  refine wpAnyH_take (i := 26) (v := ?_) rfl (by kernel_rfl) (by kernel_rfl) (by kernel_rfl) (fun _ _ _ h => h) (Or.inl ⟨by kernel_rfl, ?_⟩) (by assumption) ?_
  rotate_left
  · intro wS hSw
    try dsimp only at hSw
    go_simp
    try with_reducible rfl
  simp only [List.getElem_toArray, List.getElem_cons_succ, List.getElem_cons_zero, Act.put, List.setIfInBounds_toArray, List.set_cons_zero, List.set_cons_succ]
  refine wpAnyH_take (i := 27) (v := ?_) rfl (by kernel_rfl) (by kernel_rfl) (by kernel_rfl) (fun _ _ _ h => h) (Or.inl ⟨by kernel_rfl, ?_⟩) (by assumption) ?_
  rotate_left
  · intro wS hSw
    try dsimp only at hSw
    go_simp
    try with_reducible rfl
  simp only [List.getElem_toArray, List.getElem_cons_succ, List.getElem_cons_zero, Act.put, List.setIfInBounds_toArray, List.set_cons_zero, List.set_cons_succ]
  refine wpAnyH_take (i := 28) (v := ?_) rfl (by kernel_rfl) (by kernel_rfl) (by kernel_rfl) (fun _ _ _ h => h) (Or.inl ⟨by kernel_rfl, ?_⟩) (by assumption) ?_
  rotate_left
  · intro wS hSw
    try dsimp only at hSw
    go_simp
    try with_reducible rfl
  simp only [List.getElem_toArray, List.getElem_cons_succ, List.getElem_cons_zero, Act.put, List.setIfInBounds_toArray, List.set_cons_zero, List.set_cons_succ]
  refine wpAnyH_done (by kernel_rfl) ?_ _
  all_goals go_wp2_with fail
  all_goals go_ret
  all_goals exact ⟨rfl, ((ho1.alloc _).alloc _).drew⟩
end
end Go.Proofs.YtgiekhohhogdiaaDoor
