/- Contracts of package frame: Eliciting and Allowed. -/
import Derived.Test.YtmmgmpghkpbgkaaFrZc
import Derived.Deep.LoopGhost
import Derived.Deep.CutRange
namespace Go.Proofs.Ytmmgmpghkpbgkaa
open Go Go.RowKit
set_option linter.unusedVariables false
set_option linter.unusedSimpArgs false

def IxRel (w : World) (l : List Int) (x : Int) (gk : Nat) (ix : Value) (wr : World) : Prop := ∃ k : Nat, gk = l.length - k ∧ k ≤ l.length ∧ ix = .int .i64 k ∧ x ∉ l.take k ∧ Only [] w wr
/-- What a search answers. -/
def IxQ (l : List Int) (x : Int) (w : World) (e : Ending) (w' : World) : Prop := ∃ i : Int, e = .returned (.int .i64 i) ∧ (0 ≤ i ↔ x ∈ l) ∧ Only [] w w'
set_option maxRecDepth 100000 in
set_option maxHeartbeats 4000000 in
theorem index_c (l : List Int) (x : Int) (g : Nat) (w : World) (hc : ∀ i (hi : i < l.length), w.cell? ⟨g, i, none⟩ = some (.int .i64 (l[i]'hi))) (hg : g < w.heap.size) (hsz : l.length ≤ 1000) :
    Calls Try.prog 102 #[.slice (some ⟨g, 0, none⟩) l.length l.length, .int .i64 x] w (IxQ l x w) := by
  have ho := Lib.hid (Only.refl [] w)
  go_enter Try.func102, Try.ntmps102
  go_wp2_with fail
  go_loopg [8] l.length (fun gk ix wr => IxRel w l x gk ix wr)
  case atStart => exact ⟨0, by simp, by omega, rfl, by simp, ho.out⟩
  case round =>
    obtain ⟨k, rfl, hk, rfl, hn, hO⟩ := hrel
    clear ho
    by_cases hlt : k < l.length
    · have hlt' : (k : Int) < l.length := by omega
      obtain ⟨y, hy⟩ : ∃ y, l[k]'hlt = y := ⟨_, rfl⟩
      have p0 : wr.cell? ⟨g, k, none⟩ = some (.int .i64 y) := (hO.cell (p := ⟨g, k, none⟩) hg (by simp)).trans (by rw [hc k hlt, hy])
      have f9 : IntKind.i64.wrap ((k : Int) + 1) = ((k + 1 : Nat) : Int) := by rw [show (k : Int) + 1 = ((k + 1 : Nat) : Int) by omega]; exact IntWalk.i64_in _ (by omega)
      have HY := Lib.hid hy
      have HN := Lib.hid hn
      have HO := Lib.hid hO
      clear hc hy hn hO
      by_cases hq : x = y
      · subst hq
        have hm : Hid (x ∈ l) := Lib.hid (by have := HY.out; rw [← this]; exact List.getElem_mem _)
        go_wp2_with fail
        go_ret
        exact ⟨_, rfl, ⟨fun _ => hm.out, fun _ => by omega⟩, HO.out⟩
      · have hq' : (x == y) = false := beq_eq_false_iff_ne.2 hq
        go_wp2_with fail
        go_roundg (l.length - (k + 1))
        case measure => omega
        case rel =>
          refine ⟨k + 1, rfl, by omega, rfl, ?_, HO.out⟩
          rw [List.take_succ_eq_append_getElem hlt, HY.out]
          simp only [List.mem_append, List.mem_singleton, not_or]
          exact ⟨HN.out, hq⟩
    · obtain rfl : k = l.length := by omega
      have hlt' : ¬ ((l.length : Int) < l.length) := by omega
      rw [List.take_length] at hn
      have HN := Lib.hid hn
      have HO := Lib.hid hO
      clear hn hO hc
      go_wp2_with fail
      go_ret
      exact ⟨_, rfl, ⟨fun h => by omega, fun h => absurd h HN.out⟩, HO.out⟩
/-- What a test answers. -/
def CnQ (l : List Int) (x : Int) (w : World) (e : Ending) (w' : World) : Prop := e = .returned (.bool (decide (x ∈ l))) ∧ Only [] w w'
set_option maxRecDepth 100000 in
set_option maxHeartbeats 4000000 in
theorem contains_c (l : List Int) (x : Int) (g : Nat) (w : World) (hc : ∀ i (hi : i < l.length), w.cell? ⟨g, i, none⟩ = some (.int .i64 (l[i]'hi))) (hg : g < w.heap.size) (hsz : l.length ≤ 1000) :
    Calls Try.prog 66 #[.slice (some ⟨g, 0, none⟩) l.length l.length, .int .i64 x] w (CnQ l x w) := by
  have hin := index_c l x g w hc hg hsz
  clear hc
  go_enter Try.func66, Try.ntmps66
  go_wp2_with fail
  refine hin.mono ?_
  rintro e w2 ⟨i, rfl, hi, ho⟩
  by_cases hm : x ∈ l
  · have h0 : 0 ≤ i := hi.2 hm
    have HM := Lib.hid hm
    clear hi hm
    go_wp2_with fail
    go_ret
    exact ⟨by rw [decide_eq_true HM.out]; rfl, ho⟩
  · have h0 : ¬ 0 ≤ i := fun h => hm (hi.1 h)
    have HM := Lib.hid hm
    clear hi hm
    go_wp2_with fail
    go_ret
    exact ⟨by rw [decide_eq_false HM.out]; exact ret_boo (decide_eq_false (by omega)), ho⟩
/-- Which types want an acknowledgement. -/
def elic (k : Int) : Bool := (tab k).isSome && !decide (k ∈ [0, 2, 28, 29])
set_option maxRecDepth 100000 in
set_option maxHeartbeats 4000000 in
theorem elic_c (f : Fr) (rv : Value) (w : World) :
    Calls Try.prog 21 #[.agg (frC f rv)] w fun e w' => e = .returned (.bool (elic f.ty)) ∧ Only [] w w' := by
  obtain ⟨z, hz⟩ : ∃ z, elic f.ty = z := ⟨_, rfl⟩
  rw [hz]
  unfold elic at hz
  by_cases hx : f.ty ∈ [0, 2, 28, 29]
  · have hzf : z = false := by rw [← hz, decide_eq_true hx]; simp
    subst hzf
    clear hz
    have hO := Lib.hid ((Only.refl [] w).alloc (.cells (frC f rv) 33))
    have c0 : (w.alloc (.cells (frC f rv) 33)).cell? ⟨w.heap.size, 0, none⟩ = some (.int .i64 f.ty) := (At.new w 33 (frC f rv)).cell 0 rfl
    simp only [List.mem_cons, List.not_mem_nil, or_false] at hx
    generalize f.ty = ty at hx c0
    rcases hx with rfl | rfl | rfl | rfl
    all_goals
      go_enter Try.func21, Try.ntmps21
      go_wp2_with fail
      go_ret
      exact ⟨rfl, hO.out⟩
  · have hzf : (tab f.ty).isSome = z := by rw [← hz, decide_eq_false hx]; simp
    clear hz
    have hk := hzf
    clear hzf
    simp only [List.mem_cons, List.not_mem_nil, or_false, not_or] at hx
    obtain ⟨h0, h2, h28, h29⟩ := hx
    have h0' : (f.ty == 0) = false := beq_eq_false_iff_ne.2 h0
    have h2' : (f.ty == 2) = false := beq_eq_false_iff_ne.2 h2
    have h28' : (f.ty == 28) = false := beq_eq_false_iff_ne.2 h28
    have h29' : (f.ty == 29) = false := beq_eq_false_iff_ne.2 h29
    have hA1 := At.new w 33 (frC f rv)
    have ho1 := (Only.refl [] w).alloc (.cells (frC f rv) 33)
    have c0 : (w.alloc (.cells (frC f rv) 33)).cell? ⟨w.heap.size, 0, none⟩ = some (.int .i64 f.ty) := hA1.cell 0 rfl
    go_enter Try.func21, Try.ntmps21
    go_upto_region 7 with fail
    clear c0
    generalize hb : w.heap.size = b at *
    generalize w.alloc (.cells (frC f rv) 33) = w1 at *
    have c0 : w1.drew.cell? ⟨b, 0, none⟩ = some (.int .i64 f.ty) := hA1.cell 0 rfl
    have HA1 : Hid (At w1.drew b 33 (frC f rv)) := Lib.hid hA1
    have HO1 : Hid (Only [] w w1.drew) := Lib.hid ho1.drew
    clear hA1 ho1
    refine wp_region_held_drew (S := fun w' => w'.cell? ⟨b, 0, none⟩ = some (.int .i64 f.ty)) (by kernel_rfl) (by exact c0) (fun hHeld => ?_)
    refine wpAnyH_take (i := 1) (v := ?_) rfl (by kernel_rfl) (by kernel_rfl) (by kernel_rfl) (fun _ _ _ h => h) (Or.inl ⟨by kernel_rfl, ?_⟩) (by assumption) ?_
    rotate_left
    · intro wS hSw
      try dsimp only at hSw
      go_simp
      try with_reducible rfl
    simp only [List.getElem_toArray, List.getElem_cons_succ, List.getElem_cons_zero, Act.put, List.setIfInBounds_toArray, List.set_cons_zero, List.set_cons_succ]
    refine wpAnyH_take (i := 2) (v := ?_) rfl (by kernel_rfl) (by kernel_rfl) (by kernel_rfl) (fun _ _ _ h => h) (Or.inl ⟨by kernel_rfl, ?_⟩) (by assumption) ?_
    rotate_left
    · intro wS hSw
      try dsimp only at hSw
      go_simp
      try with_reducible rfl
    simp only [List.getElem_toArray, List.getElem_cons_succ, List.getElem_cons_zero, Act.put, List.setIfInBounds_toArray, List.set_cons_zero, List.set_cons_succ]
    refine wpAnyH_ready (rs := [0]) (by kernel_rfl) (by simp) ?_
    refine AllReadyH.cons rfl (fun K hK => ?_) AllReadyH.nil
    go_simp
    refine (parts_c _).mono ?_
    rintro e w2 ⟨mb, rfl, hP, ho2⟩
    obtain ⟨v, hlk0, hq⟩ := look_tab hP f.ty
    have hlk := hlk0 true
    simp only [if_true] at hlk
    rw [hk] at hlk
    clear hlk0 hq
    have HO2 := Lib.hid ho2
    have d0 := (ho2.cell (p := ⟨b, 0, none⟩) (World.block_lt_of_cell? _ _ c0) (by simp)).trans c0
    clear hP ho2
    refine hK.out _ _ (by exact d0) (fun hHeld' => ?_)
    clear hHeld hK K
    have hHeld := hHeld'
    clear hHeld'
    refine wpAnyH_ready (rs := [3]) (by kernel_rfl) (by simp) ?_
    refine AllReadyH.cons rfl (fun K hK => ?_) AllReadyH.nil
    go_simp
    refine hK.out _ _ (by exact hHeld) (fun hHeld' => ?_)
    clear hHeld hK K hlk
    have hHeld := hHeld'
    clear hHeld'
    refine wpAnyH_take (i := 4) (v := ?_) rfl (by kernel_rfl) (by kernel_rfl) (by kernel_rfl) (fun _ _ _ h => h) (Or.inl ⟨by kernel_rfl, ?_⟩) (by assumption) ?_
    rotate_left
    · intro wS hSw
      try dsimp only at hSw
      go_simp
      try with_reducible rfl
    simp only [List.getElem_toArray, List.getElem_cons_succ, List.getElem_cons_zero, Act.put, List.setIfInBounds_toArray, List.set_cons_zero, List.set_cons_succ]
    refine wpAnyH_take (i := 5) (v := ?_) rfl (by kernel_rfl) (by kernel_rfl) (by kernel_rfl) (fun _ _ _ h => h) (Or.inl ⟨by kernel_rfl, ?_⟩) (by assumption) ?_
    rotate_left
    · intro wS hSw
      try dsimp only at hSw
      go_simp
      try with_reducible rfl
    simp only [List.getElem_toArray, List.getElem_cons_succ, List.getElem_cons_zero, Act.put, List.setIfInBounds_toArray, List.set_cons_zero, List.set_cons_succ]
    refine wpAnyH_take (i := 6) (v := ?_) rfl (by kernel_rfl) (by kernel_rfl) (by kernel_rfl) (fun _ _ _ h => h) (Or.inl ⟨by kernel_rfl, ?_⟩) (by assumption) ?_
    rotate_left
    · intro wS hSw
      try dsimp only at hSw
      go_simp
      try with_reducible rfl
    simp only [List.getElem_toArray, List.getElem_cons_succ, List.getElem_cons_zero, Act.put, List.setIfInBounds_toArray, List.set_cons_zero, List.set_cons_succ]
    refine wpAnyH_take (i := 7) (v := ?_) rfl (by kernel_rfl) (by kernel_rfl) (by kernel_rfl) (fun _ _ _ h => h) (Or.inl ⟨by kernel_rfl, ?_⟩) (by assumption) ?_
    rotate_left
    · intro wS hSw
      try dsimp only at hSw
      go_simp
      try with_reducible rfl
    simp only [List.getElem_toArray, List.getElem_cons_succ, List.getElem_cons_zero, Act.put, List.setIfInBounds_toArray, List.set_cons_zero, List.set_cons_succ]
    refine wpAnyH_take (i := 8) (v := ?_) rfl (by kernel_rfl) (by kernel_rfl) (by kernel_rfl) (fun _ _ _ h => h) (Or.inl ⟨by kernel_rfl, ?_⟩) (by assumption) ?_
    rotate_left
    · intro wS hSw
      try dsimp only at hSw
      go_simp
      try with_reducible rfl
    simp only [List.getElem_toArray, List.getElem_cons_succ, List.getElem_cons_zero, Act.put, List.setIfInBounds_toArray, List.set_cons_zero, List.set_cons_succ]
    refine wpAnyH_done (by kernel_rfl) ?_ _
    clear d0 c0
    go_wp2_with fail
    go_ret
    exact ⟨rfl, HO1.out.trans HO2.out⟩
/-- Which types a packet allows. -/
def allow (p k : Int) : Bool := if p = 4 then (tab k).isSome else if p = 0 ∨ p = 2 then decide (k ∈ [0, 1, 2, 6, 28]) else if p = 1 then (tab k).isSome && !decide (k ∈ [2, 6, 7, 25, 27, 30]) else false
set_option maxRecDepth 100000 in
set_option maxHeartbeats 4000000 in
theorem allow_4 (p : Int) (f : Fr) (rv : Value) (w : World) (hp : p = 4) :
    Calls Try.prog 33 #[.int .i64 p, .agg (frC f rv)] w fun e w' => e = .returned (.bool (allow p f.ty)) ∧ Only [] w w' := by
  obtain ⟨z, hz⟩ : ∃ z, allow p f.ty = z := ⟨_, rfl⟩
  rw [hz]
  unfold allow at hz
  rw [if_pos hp] at hz
  subst hp
  have hk := hz
  clear hz
  have hA1 := At.new w 33 (frC f rv)
  have ho1 := (Only.refl [] w).alloc (.cells (frC f rv) 33)
  go_enter Try.func33, Try.ntmps33
  go_upto_region 1 with fail
  generalize hb : w.heap.size = b at *
  generalize w.alloc (.cells (frC f rv) 33) = w1 at *
  have c0 : w1.drew.cell? ⟨b, 0, none⟩ = some (.int .i64 f.ty) := hA1.cell 0 rfl
  have HA1 : Hid (At w1.drew b 33 (frC f rv)) := Lib.hid hA1
  have HO1 : Hid (Only [] w w1.drew) := Lib.hid ho1.drew
  clear hA1 ho1
  refine wp_region_held_drew (S := fun w' => w'.cell? ⟨b, 0, none⟩ = some (.int .i64 f.ty)) (by kernel_rfl) (by exact c0) (fun hHeld => ?_)
  refine wpAnyH_take (i := 1) (v := ?_) rfl (by kernel_rfl) (by kernel_rfl) (by kernel_rfl) (fun _ _ _ h => h) (Or.inl ⟨by kernel_rfl, ?_⟩) (by assumption) ?_
  rotate_left
  · intro wS hSw
    try dsimp only at hSw
    go_simp
    try with_reducible rfl
  simp only [List.getElem_toArray, List.getElem_cons_succ, List.getElem_cons_zero, Act.put, List.setIfInBounds_toArray, List.set_cons_zero, List.set_cons_succ]
  refine wpAnyH_take (i := 2) (v := ?_) rfl (by kernel_rfl) (by kernel_rfl) (by kernel_rfl) (fun _ _ _ h => h) (Or.inl ⟨by kernel_rfl, ?_⟩) (by assumption) ?_
  rotate_left
  · intro wS hSw
    try dsimp only at hSw
    go_simp
    try with_reducible rfl
  simp only [List.getElem_toArray, List.getElem_cons_succ, List.getElem_cons_zero, Act.put, List.setIfInBounds_toArray, List.set_cons_zero, List.set_cons_succ]
  refine wpAnyH_ready (rs := [0]) (by kernel_rfl) (by simp) ?_
  refine AllReadyH.cons rfl (fun K hK => ?_) AllReadyH.nil
  go_simp
  refine (parts_c _).mono ?_
  rintro e w2 ⟨mb, rfl, hP, ho2⟩
  obtain ⟨v, hlk0, hq⟩ := look_tab hP f.ty
  have hlk := hlk0 true
  simp only [if_true] at hlk
  rw [hk] at hlk
  clear hlk0 hq
  have HO2 := Lib.hid ho2
  have d0 := (ho2.cell (p := ⟨b, 0, none⟩) (World.block_lt_of_cell? _ _ c0) (by simp)).trans c0
  clear hP ho2
  refine hK.out _ _ (by exact d0) (fun hHeld' => ?_)
  clear hHeld hK K
  have hHeld := hHeld'
  clear hHeld'
  refine wpAnyH_ready (rs := [3]) (by kernel_rfl) (by simp) ?_
  refine AllReadyH.cons rfl (fun K hK => ?_) AllReadyH.nil
  go_simp
  refine hK.out _ _ (by exact hHeld) (fun hHeld' => ?_)
  clear hHeld hK K hlk
  have hHeld := hHeld'
  clear hHeld'
  refine wpAnyH_take (i := 4) (v := ?_) rfl (by kernel_rfl) (by kernel_rfl) (by kernel_rfl) (fun _ _ _ h => h) (Or.inl ⟨by kernel_rfl, ?_⟩) (by assumption) ?_
  rotate_left
  · intro wS hSw
    try dsimp only at hSw
    go_simp
    try with_reducible rfl
  simp only [List.getElem_toArray, List.getElem_cons_succ, List.getElem_cons_zero, Act.put, List.setIfInBounds_toArray, List.set_cons_zero, List.set_cons_succ]
  refine wpAnyH_take (i := 5) (v := ?_) rfl (by kernel_rfl) (by kernel_rfl) (by kernel_rfl) (fun _ _ _ h => h) (Or.inl ⟨by kernel_rfl, ?_⟩) (by assumption) ?_
  rotate_left
  · intro wS hSw
    try dsimp only at hSw
    go_simp
    try with_reducible rfl
  simp only [List.getElem_toArray, List.getElem_cons_succ, List.getElem_cons_zero, Act.put, List.setIfInBounds_toArray, List.set_cons_zero, List.set_cons_succ]
  refine wpAnyH_take (i := 6) (v := ?_) rfl (by kernel_rfl) (by kernel_rfl) (by kernel_rfl) (fun _ _ _ h => h) (Or.inl ⟨by kernel_rfl, ?_⟩) (by assumption) ?_
  rotate_left
  · intro wS hSw
    try dsimp only at hSw
    go_simp
    try with_reducible rfl
  simp only [List.getElem_toArray, List.getElem_cons_succ, List.getElem_cons_zero, Act.put, List.setIfInBounds_toArray, List.set_cons_zero, List.set_cons_succ]
  refine wpAnyH_take (i := 7) (v := ?_) rfl (by kernel_rfl) (by kernel_rfl) (by kernel_rfl) (fun _ _ _ h => h) (Or.inl ⟨by kernel_rfl, ?_⟩) (by assumption) ?_
  rotate_left
  · intro wS hSw
    try dsimp only at hSw
    go_simp
    try with_reducible rfl
  simp only [List.getElem_toArray, List.getElem_cons_succ, List.getElem_cons_zero, Act.put, List.setIfInBounds_toArray, List.set_cons_zero, List.set_cons_succ]
  refine wpAnyH_take (i := 8) (v := ?_) rfl (by kernel_rfl) (by kernel_rfl) (by kernel_rfl) (fun _ _ _ h => h) (Or.inl ⟨by kernel_rfl, ?_⟩) (by assumption) ?_
  rotate_left
  · intro wS hSw
    try dsimp only at hSw
    go_simp
    try with_reducible rfl
  simp only [List.getElem_toArray, List.getElem_cons_succ, List.getElem_cons_zero, Act.put, List.setIfInBounds_toArray, List.set_cons_zero, List.set_cons_succ]
  refine wpAnyH_done (by kernel_rfl) ?_ _
  clear d0 c0
  go_wp2_with fail
  go_ret
  exact ⟨rfl, HO1.out.trans HO2.out⟩
set_option maxRecDepth 100000 in
set_option maxHeartbeats 4000000 in
theorem allow_02 (p : Int) (f : Fr) (rv : Value) (w : World) (hp : p = 0 ∨ p = 2) :
    Calls Try.prog 33 #[.int .i64 p, .agg (frC f rv)] w fun e w' => e = .returned (.bool (allow p f.ty)) ∧ Only [] w w' := by
  obtain ⟨z, hz⟩ : ∃ z, allow p f.ty = z := ⟨_, rfl⟩
  rw [hz]
  unfold allow at hz
  rw [if_neg (by omega), if_pos hp] at hz
  obtain ⟨kn, hk⟩ : ∃ kn, (tab f.ty).isSome = kn := ⟨_, rfl⟩
  rcases hp with rfl | rfl
  · have hA1 := At.new w 33 (frC f rv)
    have ho1 := (Only.refl [] w).alloc (.cells (frC f rv) 33)
    go_enter Try.func33, Try.ntmps33
    go_upto_region 1 with fail
    generalize hb : w.heap.size = b at *
    generalize w.alloc (.cells (frC f rv) 33) = w1 at *
    have c0 : w1.drew.cell? ⟨b, 0, none⟩ = some (.int .i64 f.ty) := hA1.cell 0 rfl
    have HA1 : Hid (At w1.drew b 33 (frC f rv)) := Lib.hid hA1
    have HO1 : Hid (Only [] w w1.drew) := Lib.hid ho1.drew
    clear hA1 ho1
    refine wp_region_held_drew (S := fun w' => w'.cell? ⟨b, 0, none⟩ = some (.int .i64 f.ty)) (by kernel_rfl) (by exact c0) (fun hHeld => ?_)
    refine wpAnyH_take (i := 1) (v := ?_) rfl (by kernel_rfl) (by kernel_rfl) (by kernel_rfl) (fun _ _ _ h => h) (Or.inl ⟨by kernel_rfl, ?_⟩) (by assumption) ?_
    rotate_left
    · intro wS hSw
      try dsimp only at hSw
      go_simp
      try with_reducible rfl
    simp only [List.getElem_toArray, List.getElem_cons_succ, List.getElem_cons_zero, Act.put, List.setIfInBounds_toArray, List.set_cons_zero, List.set_cons_succ]
    refine wpAnyH_take (i := 2) (v := ?_) rfl (by kernel_rfl) (by kernel_rfl) (by kernel_rfl) (fun _ _ _ h => h) (Or.inl ⟨by kernel_rfl, ?_⟩) (by assumption) ?_
    rotate_left
    · intro wS hSw
      try dsimp only at hSw
      go_simp
      try with_reducible rfl
    simp only [List.getElem_toArray, List.getElem_cons_succ, List.getElem_cons_zero, Act.put, List.setIfInBounds_toArray, List.set_cons_zero, List.set_cons_succ]
    refine wpAnyH_ready (rs := [0]) (by kernel_rfl) (by simp) ?_
    refine AllReadyH.cons rfl (fun K hK => ?_) AllReadyH.nil
    go_simp
    refine (parts_c _).mono ?_
    rintro e w2 ⟨mb, rfl, hP, ho2⟩
    obtain ⟨v, hlk0, hq⟩ := look_tab hP f.ty
    have hlk := hlk0 true
    simp only [if_true] at hlk
    rw [hk] at hlk
    clear hlk0 hq
    have HO2 := Lib.hid ho2
    have d0 := (ho2.cell (p := ⟨b, 0, none⟩) (World.block_lt_of_cell? _ _ c0) (by simp)).trans c0
    clear hP ho2
    refine hK.out _ _ (by exact d0) (fun hHeld' => ?_)
    clear hHeld hK K
    have hHeld := hHeld'
    clear hHeld'
    refine wpAnyH_ready (rs := [3]) (by kernel_rfl) (by simp) ?_
    refine AllReadyH.cons rfl (fun K hK => ?_) AllReadyH.nil
    go_simp
    refine hK.out _ _ (by exact hHeld) (fun hHeld' => ?_)
    clear hHeld hK K hlk
    have hHeld := hHeld'
    clear hHeld'
    refine wpAnyH_take (i := 4) (v := ?_) rfl (by kernel_rfl) (by kernel_rfl) (by kernel_rfl) (fun _ _ _ h => h) (Or.inl ⟨by kernel_rfl, ?_⟩) (by assumption) ?_
    rotate_left
    · intro wS hSw
      try dsimp only at hSw
      go_simp
      try with_reducible rfl
    simp only [List.getElem_toArray, List.getElem_cons_succ, List.getElem_cons_zero, Act.put, List.setIfInBounds_toArray, List.set_cons_zero, List.set_cons_succ]
    refine wpAnyH_take (i := 5) (v := ?_) rfl (by kernel_rfl) (by kernel_rfl) (by kernel_rfl) (fun _ _ _ h => h) (Or.inl ⟨by kernel_rfl, ?_⟩) (by assumption) ?_
    rotate_left
    · intro wS hSw
      try dsimp only at hSw
      go_simp
      try with_reducible rfl
    simp only [List.getElem_toArray, List.getElem_cons_succ, List.getElem_cons_zero, Act.put, List.setIfInBounds_toArray, List.set_cons_zero, List.set_cons_succ]
    refine wpAnyH_take (i := 6) (v := ?_) rfl (by kernel_rfl) (by kernel_rfl) (by kernel_rfl) (fun _ _ _ h => h) (Or.inl ⟨by kernel_rfl, ?_⟩) (by assumption) ?_
    rotate_left
    · intro wS hSw
      try dsimp only at hSw
      go_simp
      try with_reducible rfl
    simp only [List.getElem_toArray, List.getElem_cons_succ, List.getElem_cons_zero, Act.put, List.setIfInBounds_toArray, List.set_cons_zero, List.set_cons_succ]
    refine wpAnyH_take (i := 7) (v := ?_) rfl (by kernel_rfl) (by kernel_rfl) (by kernel_rfl) (fun _ _ _ h => h) (Or.inl ⟨by kernel_rfl, ?_⟩) (by assumption) ?_
    rotate_left
    · intro wS hSw
      try dsimp only at hSw
      go_simp
      try with_reducible rfl
    simp only [List.getElem_toArray, List.getElem_cons_succ, List.getElem_cons_zero, Act.put, List.setIfInBounds_toArray, List.set_cons_zero, List.set_cons_succ]
    refine wpAnyH_take (i := 8) (v := ?_) rfl (by kernel_rfl) (by kernel_rfl) (by kernel_rfl) (fun _ _ _ h => h) (Or.inl ⟨by kernel_rfl, ?_⟩) (by assumption) ?_
    rotate_left
    · intro wS hSw
      try dsimp only at hSw
      go_simp
      try with_reducible rfl
    simp only [List.getElem_toArray, List.getElem_cons_succ, List.getElem_cons_zero, Act.put, List.setIfInBounds_toArray, List.set_cons_zero, List.set_cons_succ]
    refine wpAnyH_done (by kernel_rfl) ?_ _
    clear d0 c0
    have hcn := contains_c [0, 1, 2, 6, 28] f.ty w2.heap.size (w2.alloc (.cells #[.int .i64 0, .int .i64 1, .int .i64 2, .int .i64 6, .int .i64 28] 3)) (fun i hi => by
      have hA := At.new w2 3 #[.int .i64 0, .int .i64 1, .int .i64 2, .int .i64 6, .int .i64 28]
      match i, hi with
      | 0, _ => exact hA.cell 0 rfl
      | 1, _ => exact hA.cell 1 rfl
      | 2, _ => exact hA.cell 2 rfl
      | 3, _ => exact hA.cell 3 rfl
      | 4, _ => exact hA.cell 4 rfl
      | (n + 5), h => exact absurd h (by simp)) (by simp) (by simp)
    have HOa := Lib.hid ((Only.refl [] w2).alloc (.cells #[.int .i64 0, .int .i64 1, .int .i64 2, .int .i64 6, .int .i64 28] 3))
    have c0 := hHeld
    have c0a : (w2.alloc (.cells #[.int .i64 0, .int .i64 1, .int .i64 2, .int .i64 6, .int .i64 28] 3)).cell? ⟨b, 0, none⟩ = some (.int .i64 f.ty) := (HOa.out.cell (p := ⟨b, 0, none⟩) (World.block_lt_of_cell? _ _ c0) (by simp)).trans c0
    go_wp2_with fail
    refine hcn.mono ?_
    rintro e w3 ⟨rfl, ho3⟩
    go_wp2_with fail
    go_ret
    exact ⟨by rw [← hz]; exact ret_boo (by simp), (HO1.out.trans HO2.out).trans (HOa.out.trans ho3)⟩
  · have hA1 := At.new w 33 (frC f rv)
    have ho1 := (Only.refl [] w).alloc (.cells (frC f rv) 33)
    go_enter Try.func33, Try.ntmps33
    go_upto_region 1 with fail
    generalize hb : w.heap.size = b at *
    generalize w.alloc (.cells (frC f rv) 33) = w1 at *
    have c0 : w1.drew.cell? ⟨b, 0, none⟩ = some (.int .i64 f.ty) := hA1.cell 0 rfl
    have HA1 : Hid (At w1.drew b 33 (frC f rv)) := Lib.hid hA1
    have HO1 : Hid (Only [] w w1.drew) := Lib.hid ho1.drew
    clear hA1 ho1
    refine wp_region_held_drew (S := fun w' => w'.cell? ⟨b, 0, none⟩ = some (.int .i64 f.ty)) (by kernel_rfl) (by exact c0) (fun hHeld => ?_)
    refine wpAnyH_take (i := 1) (v := ?_) rfl (by kernel_rfl) (by kernel_rfl) (by kernel_rfl) (fun _ _ _ h => h) (Or.inl ⟨by kernel_rfl, ?_⟩) (by assumption) ?_
    rotate_left
    · intro wS hSw
      try dsimp only at hSw
      go_simp
      try with_reducible rfl
    simp only [List.getElem_toArray, List.getElem_cons_succ, List.getElem_cons_zero, Act.put, List.setIfInBounds_toArray, List.set_cons_zero, List.set_cons_succ]
    refine wpAnyH_take (i := 2) (v := ?_) rfl (by kernel_rfl) (by kernel_rfl) (by kernel_rfl) (fun _ _ _ h => h) (Or.inl ⟨by kernel_rfl, ?_⟩) (by assumption) ?_
    rotate_left
    · intro wS hSw
      try dsimp only at hSw
      go_simp
      try with_reducible rfl
    simp only [List.getElem_toArray, List.getElem_cons_succ, List.getElem_cons_zero, Act.put, List.setIfInBounds_toArray, List.set_cons_zero, List.set_cons_succ]
    refine wpAnyH_ready (rs := [0]) (by kernel_rfl) (by simp) ?_
    refine AllReadyH.cons rfl (fun K hK => ?_) AllReadyH.nil
    go_simp
    refine (parts_c _).mono ?_
    rintro e w2 ⟨mb, rfl, hP, ho2⟩
    obtain ⟨v, hlk0, hq⟩ := look_tab hP f.ty
    have hlk := hlk0 true
    simp only [if_true] at hlk
    rw [hk] at hlk
    clear hlk0 hq
    have HO2 := Lib.hid ho2
    have d0 := (ho2.cell (p := ⟨b, 0, none⟩) (World.block_lt_of_cell? _ _ c0) (by simp)).trans c0
    clear hP ho2
    refine hK.out _ _ (by exact d0) (fun hHeld' => ?_)
    clear hHeld hK K
    have hHeld := hHeld'
    clear hHeld'
    refine wpAnyH_ready (rs := [3]) (by kernel_rfl) (by simp) ?_
    refine AllReadyH.cons rfl (fun K hK => ?_) AllReadyH.nil
    go_simp
    refine hK.out _ _ (by exact hHeld) (fun hHeld' => ?_)
    clear hHeld hK K hlk
    have hHeld := hHeld'
    clear hHeld'
    refine wpAnyH_take (i := 4) (v := ?_) rfl (by kernel_rfl) (by kernel_rfl) (by kernel_rfl) (fun _ _ _ h => h) (Or.inl ⟨by kernel_rfl, ?_⟩) (by assumption) ?_
    rotate_left
    · intro wS hSw
      try dsimp only at hSw
      go_simp
      try with_reducible rfl
    simp only [List.getElem_toArray, List.getElem_cons_succ, List.getElem_cons_zero, Act.put, List.setIfInBounds_toArray, List.set_cons_zero, List.set_cons_succ]
    refine wpAnyH_take (i := 5) (v := ?_) rfl (by kernel_rfl) (by kernel_rfl) (by kernel_rfl) (fun _ _ _ h => h) (Or.inl ⟨by kernel_rfl, ?_⟩) (by assumption) ?_
    rotate_left
    · intro wS hSw
      try dsimp only at hSw
      go_simp
      try with_reducible rfl
    simp only [List.getElem_toArray, List.getElem_cons_succ, List.getElem_cons_zero, Act.put, List.setIfInBounds_toArray, List.set_cons_zero, List.set_cons_succ]
    refine wpAnyH_take (i := 6) (v := ?_) rfl (by kernel_rfl) (by kernel_rfl) (by kernel_rfl) (fun _ _ _ h => h) (Or.inl ⟨by kernel_rfl, ?_⟩) (by assumption) ?_
    rotate_left
    · intro wS hSw
      try dsimp only at hSw
      go_simp
      try with_reducible rfl
    simp only [List.getElem_toArray, List.getElem_cons_succ, List.getElem_cons_zero, Act.put, List.setIfInBounds_toArray, List.set_cons_zero, List.set_cons_succ]
    refine wpAnyH_take (i := 7) (v := ?_) rfl (by kernel_rfl) (by kernel_rfl) (by kernel_rfl) (fun _ _ _ h => h) (Or.inl ⟨by kernel_rfl, ?_⟩) (by assumption) ?_
    rotate_left
    · intro wS hSw
      try dsimp only at hSw
      go_simp
      try with_reducible rfl
    simp only [List.getElem_toArray, List.getElem_cons_succ, List.getElem_cons_zero, Act.put, List.setIfInBounds_toArray, List.set_cons_zero, List.set_cons_succ]
    refine wpAnyH_take (i := 8) (v := ?_) rfl (by kernel_rfl) (by kernel_rfl) (by kernel_rfl) (fun _ _ _ h => h) (Or.inl ⟨by kernel_rfl, ?_⟩) (by assumption) ?_
    rotate_left
    · intro wS hSw
      try dsimp only at hSw
      go_simp
      try with_reducible rfl
    simp only [List.getElem_toArray, List.getElem_cons_succ, List.getElem_cons_zero, Act.put, List.setIfInBounds_toArray, List.set_cons_zero, List.set_cons_succ]
    refine wpAnyH_done (by kernel_rfl) ?_ _
    clear d0 c0
    have hcn := contains_c [0, 1, 2, 6, 28] f.ty w2.heap.size (w2.alloc (.cells #[.int .i64 0, .int .i64 1, .int .i64 2, .int .i64 6, .int .i64 28] 3)) (fun i hi => by
      have hA := At.new w2 3 #[.int .i64 0, .int .i64 1, .int .i64 2, .int .i64 6, .int .i64 28]
      match i, hi with
      | 0, _ => exact hA.cell 0 rfl
      | 1, _ => exact hA.cell 1 rfl
      | 2, _ => exact hA.cell 2 rfl
      | 3, _ => exact hA.cell 3 rfl
      | 4, _ => exact hA.cell 4 rfl
      | (n + 5), h => exact absurd h (by simp)) (by simp) (by simp)
    have HOa := Lib.hid ((Only.refl [] w2).alloc (.cells #[.int .i64 0, .int .i64 1, .int .i64 2, .int .i64 6, .int .i64 28] 3))
    have c0 := hHeld
    have c0a : (w2.alloc (.cells #[.int .i64 0, .int .i64 1, .int .i64 2, .int .i64 6, .int .i64 28] 3)).cell? ⟨b, 0, none⟩ = some (.int .i64 f.ty) := (HOa.out.cell (p := ⟨b, 0, none⟩) (World.block_lt_of_cell? _ _ c0) (by simp)).trans c0
    go_wp2_with fail
    refine hcn.mono ?_
    rintro e w3 ⟨rfl, ho3⟩
    go_wp2_with fail
    go_ret
    exact ⟨by rw [← hz]; exact ret_boo (by simp), (HO1.out.trans HO2.out).trans (HOa.out.trans ho3)⟩
set_option maxRecDepth 100000 in
set_option maxHeartbeats 4000000 in
theorem allow_1 (p : Int) (f : Fr) (rv : Value) (w : World) (hp : p = 1) :
    Calls Try.prog 33 #[.int .i64 p, .agg (frC f rv)] w fun e w' => e = .returned (.bool (allow p f.ty)) ∧ Only [] w w' := by
  obtain ⟨z, hz⟩ : ∃ z, allow p f.ty = z := ⟨_, rfl⟩
  rw [hz]
  unfold allow at hz
  rw [if_neg (by omega), if_neg (by omega), if_pos hp] at hz
  subst hp
  cases hk : (tab f.ty).isSome with
  | false =>
    rw [hk] at hz
    simp only [Bool.false_and] at hz
    subst hz
    have hA1 := At.new w 33 (frC f rv)
    have ho1 := (Only.refl [] w).alloc (.cells (frC f rv) 33)
    go_enter Try.func33, Try.ntmps33
    go_upto_region 1 with fail
    generalize hb : w.heap.size = b at *
    generalize w.alloc (.cells (frC f rv) 33) = w1 at *
    have c0 : w1.drew.cell? ⟨b, 0, none⟩ = some (.int .i64 f.ty) := hA1.cell 0 rfl
    have HA1 : Hid (At w1.drew b 33 (frC f rv)) := Lib.hid hA1
    have HO1 : Hid (Only [] w w1.drew) := Lib.hid ho1.drew
    clear hA1 ho1
    refine wp_region_held_drew (S := fun w' => w'.cell? ⟨b, 0, none⟩ = some (.int .i64 f.ty)) (by kernel_rfl) (by exact c0) (fun hHeld => ?_)
    refine wpAnyH_take (i := 1) (v := ?_) rfl (by kernel_rfl) (by kernel_rfl) (by kernel_rfl) (fun _ _ _ h => h) (Or.inl ⟨by kernel_rfl, ?_⟩) (by assumption) ?_
    rotate_left
    · intro wS hSw
      try dsimp only at hSw
      go_simp
      try with_reducible rfl
    simp only [List.getElem_toArray, List.getElem_cons_succ, List.getElem_cons_zero, Act.put, List.setIfInBounds_toArray, List.set_cons_zero, List.set_cons_succ]
    refine wpAnyH_take (i := 2) (v := ?_) rfl (by kernel_rfl) (by kernel_rfl) (by kernel_rfl) (fun _ _ _ h => h) (Or.inl ⟨by kernel_rfl, ?_⟩) (by assumption) ?_
    rotate_left
    · intro wS hSw
      try dsimp only at hSw
      go_simp
      try with_reducible rfl
    simp only [List.getElem_toArray, List.getElem_cons_succ, List.getElem_cons_zero, Act.put, List.setIfInBounds_toArray, List.set_cons_zero, List.set_cons_succ]
    refine wpAnyH_ready (rs := [0]) (by kernel_rfl) (by simp) ?_
    refine AllReadyH.cons rfl (fun K hK => ?_) AllReadyH.nil
    go_simp
    refine (parts_c _).mono ?_
    rintro e w2 ⟨mb, rfl, hP, ho2⟩
    obtain ⟨v, hlk0, hq⟩ := look_tab hP f.ty
    have hlk := hlk0 true
    simp only [if_true] at hlk
    rw [hk] at hlk
    clear hlk0 hq
    have HO2 := Lib.hid ho2
    have d0 := (ho2.cell (p := ⟨b, 0, none⟩) (World.block_lt_of_cell? _ _ c0) (by simp)).trans c0
    clear hP ho2
    refine hK.out _ _ (by exact d0) (fun hHeld' => ?_)
    clear hHeld hK K
    have hHeld := hHeld'
    clear hHeld'
    refine wpAnyH_ready (rs := [3]) (by kernel_rfl) (by simp) ?_
    refine AllReadyH.cons rfl (fun K hK => ?_) AllReadyH.nil
    go_simp
    refine hK.out _ _ (by exact hHeld) (fun hHeld' => ?_)
    clear hHeld hK K hlk
    have hHeld := hHeld'
    clear hHeld'
    refine wpAnyH_take (i := 4) (v := ?_) rfl (by kernel_rfl) (by kernel_rfl) (by kernel_rfl) (fun _ _ _ h => h) (Or.inl ⟨by kernel_rfl, ?_⟩) (by assumption) ?_
    rotate_left
    · intro wS hSw
      try dsimp only at hSw
      go_simp
      try with_reducible rfl
    simp only [List.getElem_toArray, List.getElem_cons_succ, List.getElem_cons_zero, Act.put, List.setIfInBounds_toArray, List.set_cons_zero, List.set_cons_succ]
    refine wpAnyH_take (i := 5) (v := ?_) rfl (by kernel_rfl) (by kernel_rfl) (by kernel_rfl) (fun _ _ _ h => h) (Or.inl ⟨by kernel_rfl, ?_⟩) (by assumption) ?_
    rotate_left
    · intro wS hSw
      try dsimp only at hSw
      go_simp
      try with_reducible rfl
    simp only [List.getElem_toArray, List.getElem_cons_succ, List.getElem_cons_zero, Act.put, List.setIfInBounds_toArray, List.set_cons_zero, List.set_cons_succ]
    refine wpAnyH_take (i := 6) (v := ?_) rfl (by kernel_rfl) (by kernel_rfl) (by kernel_rfl) (fun _ _ _ h => h) (Or.inl ⟨by kernel_rfl, ?_⟩) (by assumption) ?_
    rotate_left
    · intro wS hSw
      try dsimp only at hSw
      go_simp
      try with_reducible rfl
    simp only [List.getElem_toArray, List.getElem_cons_succ, List.getElem_cons_zero, Act.put, List.setIfInBounds_toArray, List.set_cons_zero, List.set_cons_succ]
    refine wpAnyH_take (i := 7) (v := ?_) rfl (by kernel_rfl) (by kernel_rfl) (by kernel_rfl) (fun _ _ _ h => h) (Or.inl ⟨by kernel_rfl, ?_⟩) (by assumption) ?_
    rotate_left
    · intro wS hSw
      try dsimp only at hSw
      go_simp
      try with_reducible rfl
    simp only [List.getElem_toArray, List.getElem_cons_succ, List.getElem_cons_zero, Act.put, List.setIfInBounds_toArray, List.set_cons_zero, List.set_cons_succ]
    refine wpAnyH_take (i := 8) (v := ?_) rfl (by kernel_rfl) (by kernel_rfl) (by kernel_rfl) (fun _ _ _ h => h) (Or.inl ⟨by kernel_rfl, ?_⟩) (by assumption) ?_
    rotate_left
    · intro wS hSw
      try dsimp only at hSw
      go_simp
      try with_reducible rfl
    simp only [List.getElem_toArray, List.getElem_cons_succ, List.getElem_cons_zero, Act.put, List.setIfInBounds_toArray, List.set_cons_zero, List.set_cons_succ]
    refine wpAnyH_done (by kernel_rfl) ?_ _
    clear d0 c0
    go_wp2_with fail
    go_ret
    exact ⟨rfl, HO1.out.trans HO2.out⟩
  | true =>
    rw [hk] at hz
    simp only [Bool.true_and] at hz
    have hA1 := At.new w 33 (frC f rv)
    have ho1 := (Only.refl [] w).alloc (.cells (frC f rv) 33)
    go_enter Try.func33, Try.ntmps33
    go_upto_region 1 with fail
    generalize hb : w.heap.size = b at *
    generalize w.alloc (.cells (frC f rv) 33) = w1 at *
    have c0 : w1.drew.cell? ⟨b, 0, none⟩ = some (.int .i64 f.ty) := hA1.cell 0 rfl
    have HA1 : Hid (At w1.drew b 33 (frC f rv)) := Lib.hid hA1
    have HO1 : Hid (Only [] w w1.drew) := Lib.hid ho1.drew
    clear hA1 ho1
    refine wp_region_held_drew (S := fun w' => w'.cell? ⟨b, 0, none⟩ = some (.int .i64 f.ty)) (by kernel_rfl) (by exact c0) (fun hHeld => ?_)
    refine wpAnyH_take (i := 1) (v := ?_) rfl (by kernel_rfl) (by kernel_rfl) (by kernel_rfl) (fun _ _ _ h => h) (Or.inl ⟨by kernel_rfl, ?_⟩) (by assumption) ?_
    rotate_left
    · intro wS hSw
      try dsimp only at hSw
      go_simp
      try with_reducible rfl
    simp only [List.getElem_toArray, List.getElem_cons_succ, List.getElem_cons_zero, Act.put, List.setIfInBounds_toArray, List.set_cons_zero, List.set_cons_succ]
    refine wpAnyH_take (i := 2) (v := ?_) rfl (by kernel_rfl) (by kernel_rfl) (by kernel_rfl) (fun _ _ _ h => h) (Or.inl ⟨by kernel_rfl, ?_⟩) (by assumption) ?_
    rotate_left
    · intro wS hSw
      try dsimp only at hSw
      go_simp
      try with_reducible rfl
    simp only [List.getElem_toArray, List.getElem_cons_succ, List.getElem_cons_zero, Act.put, List.setIfInBounds_toArray, List.set_cons_zero, List.set_cons_succ]
    refine wpAnyH_ready (rs := [0]) (by kernel_rfl) (by simp) ?_
    refine AllReadyH.cons rfl (fun K hK => ?_) AllReadyH.nil
    go_simp
    refine (parts_c _).mono ?_
    rintro e w2 ⟨mb, rfl, hP, ho2⟩
    obtain ⟨v, hlk0, hq⟩ := look_tab hP f.ty
    have hlk := hlk0 true
    simp only [if_true] at hlk
    rw [hk] at hlk
    clear hlk0 hq
    have HO2 := Lib.hid ho2
    have d0 := (ho2.cell (p := ⟨b, 0, none⟩) (World.block_lt_of_cell? _ _ c0) (by simp)).trans c0
    clear hP ho2
    refine hK.out _ _ (by exact d0) (fun hHeld' => ?_)
    clear hHeld hK K
    have hHeld := hHeld'
    clear hHeld'
    refine wpAnyH_ready (rs := [3]) (by kernel_rfl) (by simp) ?_
    refine AllReadyH.cons rfl (fun K hK => ?_) AllReadyH.nil
    go_simp
    refine hK.out _ _ (by exact hHeld) (fun hHeld' => ?_)
    clear hHeld hK K hlk
    have hHeld := hHeld'
    clear hHeld'
    refine wpAnyH_take (i := 4) (v := ?_) rfl (by kernel_rfl) (by kernel_rfl) (by kernel_rfl) (fun _ _ _ h => h) (Or.inl ⟨by kernel_rfl, ?_⟩) (by assumption) ?_
    rotate_left
    · intro wS hSw
      try dsimp only at hSw
      go_simp
      try with_reducible rfl
    simp only [List.getElem_toArray, List.getElem_cons_succ, List.getElem_cons_zero, Act.put, List.setIfInBounds_toArray, List.set_cons_zero, List.set_cons_succ]
    refine wpAnyH_take (i := 5) (v := ?_) rfl (by kernel_rfl) (by kernel_rfl) (by kernel_rfl) (fun _ _ _ h => h) (Or.inl ⟨by kernel_rfl, ?_⟩) (by assumption) ?_
    rotate_left
    · intro wS hSw
      try dsimp only at hSw
      go_simp
      try with_reducible rfl
    simp only [List.getElem_toArray, List.getElem_cons_succ, List.getElem_cons_zero, Act.put, List.setIfInBounds_toArray, List.set_cons_zero, List.set_cons_succ]
    refine wpAnyH_take (i := 6) (v := ?_) rfl (by kernel_rfl) (by kernel_rfl) (by kernel_rfl) (fun _ _ _ h => h) (Or.inl ⟨by kernel_rfl, ?_⟩) (by assumption) ?_
    rotate_left
    · intro wS hSw
      try dsimp only at hSw
      go_simp
      try with_reducible rfl
    simp only [List.getElem_toArray, List.getElem_cons_succ, List.getElem_cons_zero, Act.put, List.setIfInBounds_toArray, List.set_cons_zero, List.set_cons_succ]
    refine wpAnyH_take (i := 7) (v := ?_) rfl (by kernel_rfl) (by kernel_rfl) (by kernel_rfl) (fun _ _ _ h => h) (Or.inl ⟨by kernel_rfl, ?_⟩) (by assumption) ?_
    rotate_left
    · intro wS hSw
      try dsimp only at hSw
      go_simp
      try with_reducible rfl
    simp only [List.getElem_toArray, List.getElem_cons_succ, List.getElem_cons_zero, Act.put, List.setIfInBounds_toArray, List.set_cons_zero, List.set_cons_succ]
    refine wpAnyH_take (i := 8) (v := ?_) rfl (by kernel_rfl) (by kernel_rfl) (by kernel_rfl) (fun _ _ _ h => h) (Or.inl ⟨by kernel_rfl, ?_⟩) (by assumption) ?_
    rotate_left
    · intro wS hSw
      try dsimp only at hSw
      go_simp
      try with_reducible rfl
    simp only [List.getElem_toArray, List.getElem_cons_succ, List.getElem_cons_zero, Act.put, List.setIfInBounds_toArray, List.set_cons_zero, List.set_cons_succ]
    refine wpAnyH_done (by kernel_rfl) ?_ _
    clear d0 c0
    have hcn := contains_c [2, 6, 7, 25, 27, 30] f.ty w2.heap.size (w2.alloc (.cells #[.int .i64 2, .int .i64 6, .int .i64 7, .int .i64 25, .int .i64 27, .int .i64 30] 3)) (fun i hi => by
      have hA := At.new w2 3 #[.int .i64 2, .int .i64 6, .int .i64 7, .int .i64 25, .int .i64 27, .int .i64 30]
      match i, hi with
      | 0, _ => exact hA.cell 0 rfl
      | 1, _ => exact hA.cell 1 rfl
      | 2, _ => exact hA.cell 2 rfl
      | 3, _ => exact hA.cell 3 rfl
      | 4, _ => exact hA.cell 4 rfl
      | 5, _ => exact hA.cell 5 rfl
      | (n + 6), h => exact absurd h (by simp)) (by simp) (by simp)
    have HOa := Lib.hid ((Only.refl [] w2).alloc (.cells #[.int .i64 2, .int .i64 6, .int .i64 7, .int .i64 25, .int .i64 27, .int .i64 30] 3))
    have c0 := hHeld
    have c0a : (w2.alloc (.cells #[.int .i64 2, .int .i64 6, .int .i64 7, .int .i64 25, .int .i64 27, .int .i64 30] 3)).cell? ⟨b, 0, none⟩ = some (.int .i64 f.ty) := (HOa.out.cell (p := ⟨b, 0, none⟩) (World.block_lt_of_cell? _ _ c0) (by simp)).trans c0
    go_wp2_with fail
    refine hcn.mono ?_
    rintro e w3 ⟨rfl, ho3⟩
    go_wp2_with fail
    go_ret
    exact ⟨by rw [← hz]; exact ret_boo (by simp), (HO1.out.trans HO2.out).trans (HOa.out.trans ho3)⟩
set_option maxRecDepth 100000 in
set_option maxHeartbeats 4000000 in
theorem allow_no (p : Int) (f : Fr) (rv : Value) (w : World) (hp : p ≠ 0 ∧ p ≠ 1 ∧ p ≠ 2 ∧ p ≠ 4) :
    Calls Try.prog 33 #[.int .i64 p, .agg (frC f rv)] w fun e w' => e = .returned (.bool (allow p f.ty)) ∧ Only [] w w' := by
  obtain ⟨z, hz⟩ : ∃ z, allow p f.ty = z := ⟨_, rfl⟩
  rw [hz]
  unfold allow at hz
  rw [if_neg (by omega), if_neg (by omega), if_neg (by omega)] at hz
  subst hz
  obtain ⟨kn, hk⟩ : ∃ kn, (tab f.ty).isSome = kn := ⟨_, rfl⟩
  obtain ⟨h0, h1, h2, h4⟩ := hp
  have h0' : (p == 0) = false := beq_eq_false_iff_ne.2 h0
  have h1' : (p == 1) = false := beq_eq_false_iff_ne.2 h1
  have h2' : (p == 2) = false := beq_eq_false_iff_ne.2 h2
  have h4' : (p == 4) = false := beq_eq_false_iff_ne.2 h4
  have hA1 := At.new w 33 (frC f rv)
  have ho1 := (Only.refl [] w).alloc (.cells (frC f rv) 33)
  go_enter Try.func33, Try.ntmps33
  go_upto_region 1 with fail
  generalize hb : w.heap.size = b at *
  generalize w.alloc (.cells (frC f rv) 33) = w1 at *
  have c0 : w1.drew.cell? ⟨b, 0, none⟩ = some (.int .i64 f.ty) := hA1.cell 0 rfl
  have HA1 : Hid (At w1.drew b 33 (frC f rv)) := Lib.hid hA1
  have HO1 : Hid (Only [] w w1.drew) := Lib.hid ho1.drew
  clear hA1 ho1
  refine wp_region_held_drew (S := fun w' => w'.cell? ⟨b, 0, none⟩ = some (.int .i64 f.ty)) (by kernel_rfl) (by exact c0) (fun hHeld => ?_)
  refine wpAnyH_take (i := 1) (v := ?_) rfl (by kernel_rfl) (by kernel_rfl) (by kernel_rfl) (fun _ _ _ h => h) (Or.inl ⟨by kernel_rfl, ?_⟩) (by assumption) ?_
  rotate_left
  · intro wS hSw
    try dsimp only at hSw
    go_simp
    try with_reducible rfl
  simp only [List.getElem_toArray, List.getElem_cons_succ, List.getElem_cons_zero, Act.put, List.setIfInBounds_toArray, List.set_cons_zero, List.set_cons_succ]
  refine wpAnyH_take (i := 2) (v := ?_) rfl (by kernel_rfl) (by kernel_rfl) (by kernel_rfl) (fun _ _ _ h => h) (Or.inl ⟨by kernel_rfl, ?_⟩) (by assumption) ?_
  rotate_left
  · intro wS hSw
    try dsimp only at hSw
    go_simp
    try with_reducible rfl
  simp only [List.getElem_toArray, List.getElem_cons_succ, List.getElem_cons_zero, Act.put, List.setIfInBounds_toArray, List.set_cons_zero, List.set_cons_succ]
  refine wpAnyH_ready (rs := [0]) (by kernel_rfl) (by simp) ?_
  refine AllReadyH.cons rfl (fun K hK => ?_) AllReadyH.nil
  go_simp
  refine (parts_c _).mono ?_
  rintro e w2 ⟨mb, rfl, hP, ho2⟩
  obtain ⟨v, hlk0, hq⟩ := look_tab hP f.ty
  have hlk := hlk0 true
  simp only [if_true] at hlk
  rw [hk] at hlk
  clear hlk0 hq
  have HO2 := Lib.hid ho2
  have d0 := (ho2.cell (p := ⟨b, 0, none⟩) (World.block_lt_of_cell? _ _ c0) (by simp)).trans c0
  clear hP ho2
  refine hK.out _ _ (by exact d0) (fun hHeld' => ?_)
  clear hHeld hK K
  have hHeld := hHeld'
  clear hHeld'
  refine wpAnyH_ready (rs := [3]) (by kernel_rfl) (by simp) ?_
  refine AllReadyH.cons rfl (fun K hK => ?_) AllReadyH.nil
  go_simp
  refine hK.out _ _ (by exact hHeld) (fun hHeld' => ?_)
  clear hHeld hK K hlk
  have hHeld := hHeld'
  clear hHeld'
  refine wpAnyH_take (i := 4) (v := ?_) rfl (by kernel_rfl) (by kernel_rfl) (by kernel_rfl) (fun _ _ _ h => h) (Or.inl ⟨by kernel_rfl, ?_⟩) (by assumption) ?_
  rotate_left
  · intro wS hSw
    try dsimp only at hSw
    go_simp
    try with_reducible rfl
  simp only [List.getElem_toArray, List.getElem_cons_succ, List.getElem_cons_zero, Act.put, List.setIfInBounds_toArray, List.set_cons_zero, List.set_cons_succ]
  refine wpAnyH_take (i := 5) (v := ?_) rfl (by kernel_rfl) (by kernel_rfl) (by kernel_rfl) (fun _ _ _ h => h) (Or.inl ⟨by kernel_rfl, ?_⟩) (by assumption) ?_
  rotate_left
  · intro wS hSw
    try dsimp only at hSw
    go_simp
    try with_reducible rfl
  simp only [List.getElem_toArray, List.getElem_cons_succ, List.getElem_cons_zero, Act.put, List.setIfInBounds_toArray, List.set_cons_zero, List.set_cons_succ]
  refine wpAnyH_take (i := 6) (v := ?_) rfl (by kernel_rfl) (by kernel_rfl) (by kernel_rfl) (fun _ _ _ h => h) (Or.inl ⟨by kernel_rfl, ?_⟩) (by assumption) ?_
  rotate_left
  · intro wS hSw
    try dsimp only at hSw
    go_simp
    try with_reducible rfl
  simp only [List.getElem_toArray, List.getElem_cons_succ, List.getElem_cons_zero, Act.put, List.setIfInBounds_toArray, List.set_cons_zero, List.set_cons_succ]
  refine wpAnyH_take (i := 7) (v := ?_) rfl (by kernel_rfl) (by kernel_rfl) (by kernel_rfl) (fun _ _ _ h => h) (Or.inl ⟨by kernel_rfl, ?_⟩) (by assumption) ?_
  rotate_left
  · intro wS hSw
    try dsimp only at hSw
    go_simp
    try with_reducible rfl
  simp only [List.getElem_toArray, List.getElem_cons_succ, List.getElem_cons_zero, Act.put, List.setIfInBounds_toArray, List.set_cons_zero, List.set_cons_succ]
  refine wpAnyH_take (i := 8) (v := ?_) rfl (by kernel_rfl) (by kernel_rfl) (by kernel_rfl) (fun _ _ _ h => h) (Or.inl ⟨by kernel_rfl, ?_⟩) (by assumption) ?_
  rotate_left
  · intro wS hSw
    try dsimp only at hSw
    go_simp
    try with_reducible rfl
  simp only [List.getElem_toArray, List.getElem_cons_succ, List.getElem_cons_zero, Act.put, List.setIfInBounds_toArray, List.set_cons_zero, List.set_cons_succ]
  refine wpAnyH_done (by kernel_rfl) ?_ _
  clear d0 c0
  go_wp2_with fail
  go_ret
  exact ⟨rfl, HO1.out.trans HO2.out⟩
theorem allow_c (p : Int) (f : Fr) (rv : Value) (w : World) : Calls Try.prog 33 #[.int .i64 p, .agg (frC f rv)] w fun e w' => e = .returned (.bool (allow p f.ty)) ∧ Only [] w w' := by
  by_cases h4 : p = 4
  · exact allow_4 p f rv w h4
  by_cases h0 : p = 0 ∨ p = 2
  · exact allow_02 p f rv w h0
  by_cases h1 : p = 1
  · exact allow_1 p f rv w h1
  · exact allow_no p f rv w (by omega)
end Go.Proofs.Ytmmgmpghkpbgkaa
