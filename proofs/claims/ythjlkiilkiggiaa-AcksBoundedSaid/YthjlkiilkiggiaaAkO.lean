/- Contracts of package acks: Frame. -/
import Derived.Test.YthjlkiilkiggiaaAkL
import Derived.Stop.RegionWithIn
namespace Go.Proofs.Ythjlkiilkiggiaa
open Go Go.RowKit Go.Shelf
set_option linter.unusedVariables false
set_option linter.unusedSimpArgs false
attribute [local go_sem] Oper.semAt_some

/-- The row's ends when the intervals of pre have been laid. -/
def revG (n : Nat) (F : Nat → Int) (pre : List (Fin n)) : Nat → Int := fun i => if ∃ p ∈ pre, p.1 = n - 1 - i ∧ i < n then F (n - 1 - i) else 0
theorem revG_nil (n : Nat) (F : Nat → Int) : revG n F [] = zF := by funext i; simp [revG, zF]
theorem revG_snoc (n : Nat) (F : Nat → Int) (pre : List (Fin n)) (x : Fin n) : revG n F (pre ++ [x]) = upd (revG n F pre) (n - 1 - x.1) (F x.1) := by
  funext i
  have hx := x.2
  by_cases h : i = n - 1 - x.1
  · subst h
    rw [upd_same]
    unfold revG
    rw [if_pos ⟨x, by simp, by omega, by omega⟩]
    congr 1; omega
  · rw [upd_other _ _ _ _ h]
    unfold revG
    have : (∃ p ∈ pre ++ [x], p.1 = n - 1 - i ∧ i < n) ↔ (∃ p ∈ pre, p.1 = n - 1 - i ∧ i < n) := by
      constructor
      · rintro ⟨p, hp, h1, h2⟩
        rcases List.mem_append.1 hp with hp | hp
        · exact ⟨p, hp, h1, h2⟩
        · simp at hp; subst hp; omega
      · rintro ⟨p, hp, h1⟩; exact ⟨p, List.mem_append.2 (.inl hp), h1⟩
    simp only [this]
theorem rowA_all (n : Nat) (F T : Nat → Int) : rowA n (revG n F (List.finRange n)) (revG n T (List.finRange n)) = rowA n (fun i => F (n - 1 - i)) (fun i => T (n - 1 - i)) := by
  apply Array.ext_getElem?
  intro j
  rcases Nat.lt_or_ge j (n * 2) with h | h
  · rw [rowA_get _ _ _ _ h, rowA_get _ _ _ _ h]
    unfold revG
    have he : ∃ p ∈ List.finRange n, p.1 = n - 1 - j / 2 ∧ j / 2 < n := ⟨⟨n - 1 - j / 2, by omega⟩, by simp, rfl, by omega⟩
    simp only [if_pos he]
  · rw [Array.getElem?_eq_none (by rw [rowA_size]; exact h), Array.getElem?_eq_none (by rw [rowA_size]; exact h)]
def FramePost (b : Nat) (F T : Nat → Int) (n : Nat) (dl : Int) (w : World) (e : Ending) (w' : World) : Prop := ∃ g, e = .returned (.tuple #[.agg #[.int .i64 2, .int .i64 0, .int .i64 0, .string { data := #[] }, .bool false, .int .i64 0, .int .i64 0, .bool false, .int .i64 dl, .slice (some ⟨g, 0, none⟩) n n, .int .i64 0, .int .i64 0, .string { data := #[] }], .bool true]) ∧ At w' g 40 (rowA n (fun i => F (n - 1 - i)) (fun i => T (n - 1 - i))) ∧ w.heap.size ≤ g ∧ Below w.heap.size w w'
set_option maxRecDepth 100000 in
set_option maxHeartbeats 4000000 in
theorem frame_late (b : Nat) (now : Int) (F T : Nat → Int) (n : Nat) (d fl lg wh ct du : Int) (hn : n ≤ 17) (hn0 : 0 < n) (h0 : 0 ≤ now) (h1 : now ≤ 1099511627776) (h2 : 0 ≤ wh) (h3 : wh ≤ 1099511627776) (hnw : wh < now) (w : World) (hT : Trk w b F T n d fl lg wh ct du) :
    CallsIn Fence.wide 3 Try.prog 25 #[.pointer (some ⟨b, 0, none⟩), .int .i64 now] w (FramePost b F T n (now - wh) w) := by
  have hro : Fence.wide.round = none := rfl
  have h1' : 1 ≤ 3 := by omega
  have hbl := At.lt hT
  have hmk := run_make_span n (by omega)
  have hcn : (w.alloc (.cells #[.pointer (some ⟨b, 0, none⟩)] 25)).cell? ⟨b, 34, none⟩ = some (.int .i64 n) := Trk.gn (At.alloc hT _)
  have q0 : ((n : Int) == 0) = false := by simp; omega
  have hcw : ((((w.alloc (.cells #[.pointer (some ⟨b, 0, none⟩)] 25)).alloc (.cells #[.int .i64 0, .int .i64 0, .int .i64 0, .string { data := #[] }, .bool false, .int .i64 0, .int .i64 0, .bool false, .int .i64 0, .slice none 0 0, .int .i64 0, .int .i64 0, .string { data := #[] }] 57)).alloc (.cells (rowA n zF zF) 40)).alloc (.cells #[.int .i64 2, .int .i64 0, .int .i64 0, .string { data := #[] }, .bool false, .int .i64 0, .int .i64 0, .bool false, .int .i64 0, .slice (some ⟨w.heap.size + 1 + 1, 0, none⟩) n n, .int .i64 0, .int .i64 0, .string { data := #[] }] 57)).cell? ⟨b, 38, none⟩ = some (.int .i64 wh) := Trk.gwh (At.alloc (At.alloc (At.alloc (At.alloc hT _) _) _) _)
  have bT := (((At.new w 25 #[.pointer (some ⟨b, 0, none⟩)]).alloc (.cells #[.int .i64 0, .int .i64 0, .int .i64 0, .string { data := #[] }, .bool false, .int .i64 0, .int .i64 0, .bool false, .int .i64 0, .slice none 0 0, .int .i64 0, .int .i64 0, .string { data := #[] }] 57)).alloc (.cells (rowA n zF zF) 40)).alloc (.cells #[.int .i64 2, .int .i64 0, .int .i64 0, .string { data := #[] }, .bool false, .int .i64 0, .int .i64 0, .bool false, .int .i64 (now - wh), .slice (some ⟨w.heap.size + 1 + 1, 0, none⟩) n n, .int .i64 0, .int .i64 0, .string { data := #[] }] 57)
  have bT := bT.alloc (.cells #[.pointer (some ⟨b, 0, none⟩)] 80)
  have bR := ((At.new ((w.alloc (.cells #[.pointer (some ⟨b, 0, none⟩)] 25)).alloc (.cells #[.int .i64 0, .int .i64 0, .int .i64 0, .string { data := #[] }, .bool false, .int .i64 0, .int .i64 0, .bool false, .int .i64 0, .slice none 0 0, .int .i64 0, .int .i64 0, .string { data := #[] }] 57)) 40 (rowA n zF zF)).alloc (.cells #[.int .i64 2, .int .i64 0, .int .i64 0, .string { data := #[] }, .bool false, .int .i64 0, .int .i64 0, .bool false, .int .i64 (now - wh), .slice (some ⟨w.heap.size + 1 + 1, 0, none⟩) n n, .int .i64 0, .int .i64 0, .string { data := #[] }] 57)).alloc (.cells #[.pointer (some ⟨b, 0, none⟩)] 80)
  have bF := (At.new (((w.alloc (.cells #[.pointer (some ⟨b, 0, none⟩)] 25)).alloc (.cells #[.int .i64 0, .int .i64 0, .int .i64 0, .string { data := #[] }, .bool false, .int .i64 0, .int .i64 0, .bool false, .int .i64 0, .slice none 0 0, .int .i64 0, .int .i64 0, .string { data := #[] }] 57)).alloc (.cells (rowA n zF zF) 40)) 57 #[.int .i64 2, .int .i64 0, .int .i64 0, .string { data := #[] }, .bool false, .int .i64 0, .int .i64 0, .bool false, .int .i64 (now - wh), .slice (some ⟨w.heap.size + 1 + 1, 0, none⟩) n n, .int .i64 0, .int .i64 0, .string { data := #[] }]).alloc (.cells #[.pointer (some ⟨b, 0, none⟩)] 80)
  have bV := At.new ((((w.alloc (.cells #[.pointer (some ⟨b, 0, none⟩)] 25)).alloc (.cells #[.int .i64 0, .int .i64 0, .int .i64 0, .string { data := #[] }, .bool false, .int .i64 0, .int .i64 0, .bool false, .int .i64 0, .slice none 0 0, .int .i64 0, .int .i64 0, .string { data := #[] }] 57)).alloc (.cells (rowA n zF zF) 40)).alloc (.cells #[.int .i64 2, .int .i64 0, .int .i64 0, .string { data := #[] }, .bool false, .int .i64 0, .int .i64 0, .bool false, .int .i64 (now - wh), .slice (some ⟨w.heap.size + 1 + 1, 0, none⟩) n n, .int .i64 0, .int .i64 0, .string { data := #[] }] 57)) 80 #[.pointer (some ⟨b, 0, none⟩)]
  simp only [World.size_alloc] at bR bF bV
  have bQ := (((At.new (w.alloc (.cells #[.pointer (some ⟨b, 0, none⟩)] 25)) 57 #[.int .i64 0, .int .i64 0, .int .i64 0, .string { data := #[] }, .bool false, .int .i64 0, .int .i64 0, .bool false, .int .i64 0, .slice none 0 0, .int .i64 0, .int .i64 0, .string { data := #[] }]).alloc (.cells (rowA n zF zF) 40)).alloc (.cells #[.int .i64 2, .int .i64 0, .int .i64 0, .string { data := #[] }, .bool false, .int .i64 0, .int .i64 0, .bool false, .int .i64 (now - wh), .slice (some ⟨w.heap.size + 1 + 1, 0, none⟩) n n, .int .i64 0, .int .i64 0, .string { data := #[] }] 57)).alloc (.cells #[.pointer (some ⟨b, 0, none⟩)] 80)
  simp only [World.size_alloc] at bQ
  have hT0 : Trk (((((w.alloc (.cells #[.pointer (some ⟨b, 0, none⟩)] 25)).alloc (.cells #[.int .i64 0, .int .i64 0, .int .i64 0, .string { data := #[] }, .bool false, .int .i64 0, .int .i64 0, .bool false, .int .i64 0, .slice none 0 0, .int .i64 0, .int .i64 0, .string { data := #[] }] 57)).alloc (.cells (rowA n zF zF) 40)).alloc (.cells #[.int .i64 2, .int .i64 0, .int .i64 0, .string { data := #[] }, .bool false, .int .i64 0, .int .i64 0, .bool false, .int .i64 (now - wh), .slice (some ⟨w.heap.size + 1 + 1, 0, none⟩) n n, .int .i64 0, .int .i64 0, .string { data := #[] }] 57)).alloc (.cells #[.pointer (some ⟨b, 0, none⟩)] 80)) b F T n d fl lg wh ct du := At.alloc (At.alloc (At.alloc (At.alloc (At.alloc hT _) _) _) _) _
  have hB0 : Below w.heap.size w (((((w.alloc (.cells #[.pointer (some ⟨b, 0, none⟩)] 25)).alloc (.cells #[.int .i64 0, .int .i64 0, .int .i64 0, .string { data := #[] }, .bool false, .int .i64 0, .int .i64 0, .bool false, .int .i64 0, .slice none 0 0, .int .i64 0, .int .i64 0, .string { data := #[] }] 57)).alloc (.cells (rowA n zF zF) 40)).alloc (.cells #[.int .i64 2, .int .i64 0, .int .i64 0, .string { data := #[] }, .bool false, .int .i64 0, .int .i64 0, .bool false, .int .i64 (now - wh), .slice (some ⟨w.heap.size + 1 + 1, 0, none⟩) n n, .int .i64 0, .int .i64 0, .string { data := #[] }] 57)).alloc (.cells #[.pointer (some ⟨b, 0, none⟩)] 80)) := (((((Below.refl _ w).alloc (Nat.le_refl _) _).alloc (by simp) _).alloc (by simp; omega) _).alloc (by simp; omega) _).alloc (by simp; omega) _
  have hsz : (((((w.alloc (.cells #[.pointer (some ⟨b, 0, none⟩)] 25)).alloc (.cells #[.int .i64 0, .int .i64 0, .int .i64 0, .string { data := #[] }, .bool false, .int .i64 0, .int .i64 0, .bool false, .int .i64 0, .slice none 0 0, .int .i64 0, .int .i64 0, .string { data := #[] }] 57)).alloc (.cells (rowA n zF zF) 40)).alloc (.cells #[.int .i64 2, .int .i64 0, .int .i64 0, .string { data := #[] }, .bool false, .int .i64 0, .int .i64 0, .bool false, .int .i64 (now - wh), .slice (some ⟨w.heap.size + 1 + 1, 0, none⟩) n n, .int .i64 0, .int .i64 0, .string { data := #[] }] 57)).alloc (.cells #[.pointer (some ⟨b, 0, none⟩)] 80)).heap.size = w.heap.size + 5 := by simp
  have HT0 := Lib.hid hT0
  have HB0 := Lib.hid hB0
  have HSZ := Lib.hid hsz
  have BT := Lib.hid bT
  have BR := Lib.hid bR
  have BF := Lib.hid bF
  have BV := Lib.hid bV
  have BQ := Lib.hid bQ
  clear hT hT0 hB0 hsz bT bR bF bV bQ
  refine callsIn_of_wp_marks Try.func25 rfl trivial ?_ hro
  simp only [Try.ntmps25, List.size_toArray, List.length_cons, List.length_nil, Nat.reduceAdd, Nat.reduceSub, Array.replicate_succ, Array.replicate_zero, List.push_toArray, List.append_toArray, List.nil_append, List.cons_append]
  gi_wp2_with fail
  refine ⟨trivial, ?_⟩
  refine (all_in Fence.wide 2 trivial hro _ _).mono ?_
  rintro e w' ⟨rfl, rfl⟩
  clear hcn hcw hmk
  gi_wp2_with fail
  obtain ⟨W0, hW0⟩ : ∃ W0, (((((w.alloc (.cells #[.pointer (some ⟨b, 0, none⟩)] 25)).alloc (.cells #[.int .i64 0, .int .i64 0, .int .i64 0, .string { data := #[] }, .bool false, .int .i64 0, .int .i64 0, .bool false, .int .i64 0, .slice none 0 0, .int .i64 0, .int .i64 0, .string { data := #[] }] 57)).alloc (.cells (rowA n zF zF) 40)).alloc (.cells #[.int .i64 2, .int .i64 0, .int .i64 0, .string { data := #[] }, .bool false, .int .i64 0, .int .i64 0, .bool false, .int .i64 (now - wh), .slice (some ⟨w.heap.size + 1 + 1, 0, none⟩) n n, .int .i64 0, .int .i64 0, .string { data := #[] }] 57)).alloc (.cells #[.pointer (some ⟨b, 0, none⟩)] 80)) = W0 := ⟨_, rfl⟩
  rw [hW0] at HT0 HB0 HSZ BT BR BF BV BQ ⊢
  clear hW0
  have hT0 := HT0.out
  have hB0 := HB0.out
  have hsz := HSZ.out
  have bT := BT.out
  have bR := BR.out
  have bF := BF.out
  have bV := BV.out
  have bQ := BQ.out
  clear HT0 HB0 HSZ BT BR BF BV BQ
  refine wpIn_rangeFunc_ownH hro h1' (gf := 44) (lb := #[.pointer (some ⟨w.heap.size + 1 + 1 + 1 + 1, 0, none⟩)]) rfl trivial (enters_of Try.func44 (by kernel_rfl) rfl)
    (allF_stops Fence.wide 2 trivial hro (by omega) (w.heap.size + 1 + 1 + 1 + 1) b F T n d fl lg wh ct du hn W0 (by omega) (by omega) (bV.cell 0 rfl) hT0) (fun h k => Two.trans h k) (Two.put (by omega) (by omega)) (Below.refl _ _) (fun _ => rfl)
    (fun pre W => ((At W w.heap.size 25 #[.pointer (some ⟨b, 0, none⟩)] ∧ At W (w.heap.size + 1 + 1) 40 (rowA n (revG n F pre) (revG n T pre)) ∧ At W (w.heap.size + 1 + 1 + 1) 57 #[.int .i64 2, .int .i64 0, .int .i64 0, .string { data := #[] }, .bool false, .int .i64 0, .int .i64 0, .bool false, .int .i64 (now - wh), .slice (some ⟨w.heap.size + 1 + 1, 0, none⟩) n n, .int .i64 0, .int .i64 0, .string { data := #[] }] ∧ At W (w.heap.size + 1 + 1 + 1 + 1) 80 #[.pointer (some ⟨b, 0, none⟩)] ∧ At W (w.heap.size + 1) 57 #[.int .i64 0, .int .i64 0, .int .i64 0, .string { data := #[] }, .bool false, .int .i64 0, .int .i64 0, .bool false, .int .i64 0, .slice none 0 0, .int .i64 0, .int .i64 0, .string { data := #[] }] ∧ Trk W b F T n d fl lg wh ct du) ∧ Below w.heap.size w W))
    (fun _ _ _ => False)
    (OwnFrom.and (OwnFrom.and (Own.from (at_own _ _ _) _) (OwnFrom.and (Own.from (at_own _ _ _) _) (OwnFrom.and (Own.from (at_own _ _ _) _) (OwnFrom.and (Own.from (at_own _ _ _) _) (OwnFrom.and (Own.from (at_own _ _ _) _) (Own.from (at_own _ _ _) _)))))) (ownFrom_below (Nat.le_refl _) (by omega)))
    (fun _ _ _ _ _ hs _ _ => hs)
    ⟨⟨bT, by rw [revG_nil, revG_nil]; exact bR, bF, bV, bQ, hT0⟩, hB0⟩
    (fun x a' W => ∃ Bx, w.heap.size + 4 < Bx ∧ At W Bx 40 #[.int .i64 (F x.1), .int .i64 (T x.1)] ∧ a' = { tmps := #[.pointer (some ⟨b, 0, none⟩), .int .i64 now, .pointer (some ⟨w.heap.size, 0, none⟩), undef, .pointer (some ⟨w.heap.size + 1, 0, none⟩), .bool false, .pointer (some ⟨w.heap.size + 1 + 1 + 1, 0, none⟩), .int .i64 x.1, .pointer (some ⟨Bx, 0, none⟩), .pointer (some ⟨b, 0, none⟩), .bool false, .bool false, .pointer (some ⟨b, 0, none⟩), .pointer (some ⟨b, 0, none⟩), .pointer (some ⟨b, 0, none⟩), .pointer (some ⟨b, 34, none⟩), .int .i64 n, .bool false, .bool false, undef, .pointer (some ⟨b, 0, none⟩), .pointer (some ⟨b, 0, none⟩), .pointer (some ⟨b, 0, none⟩), .pointer (some ⟨b, 34, none⟩), .int .i64 n, .slice (some ⟨w.heap.size + 1 + 1, 0, none⟩) n n, .agg #[.int .i64 2, .int .i64 0, .int .i64 0, .string { data := #[] }, .bool false, .int .i64 0, .int .i64 0, .bool false, .int .i64 0, .slice (some ⟨w.heap.size + 1 + 1, 0, none⟩) n n, .int .i64 0, .int .i64 0, .string { data := #[] }], .int .i64 now, .pointer (some ⟨b, 0, none⟩), .pointer (some ⟨b, 0, none⟩), .pointer (some ⟨b, 38, none⟩), .int .i64 wh, .bool true, .int .i64 now, .pointer (some ⟨b, 0, none⟩), .pointer (some ⟨b, 0, none⟩), .pointer (some ⟨b, 38, none⟩), .int .i64 wh, .int .i64 (now - wh), .pointer (some ⟨w.heap.size + 1 + 1 + 1, 8, none⟩), .pointer (some ⟨b, 0, none⟩), .pointer (some ⟨b, 0, none⟩), .pointer (some ⟨b, 0, none⟩), .func (.func 44) #[] #[.pointer (some ⟨w.heap.size + 1 + 1 + 1 + 1, 0, none⟩)], .int .i64 x.1, .agg #[.int .i64 (F x.1), .int .i64 (T x.1)], undef, undef, undef, undef, undef, undef, undef, undef, undef, undef, undef, undef, undef], defers := [] })
    (fun x a' _ X Y row hs hg hr => by obtain ⟨Bx, h1, h2, h3⟩ := hs; exact ⟨Bx, h1, at_own Bx 40 (fun (_ : Unit) => #[.int .i64 (F x.1), .int .i64 (T x.1)]) () X Y row h2 hg (fun r e => (hr r e).2), h3⟩)
    ?assign ?body ?done ?stop
  case assign =>
    rintro l pre x W K ⟨⟨bT1, bR1, bF1, bV1, bQ1, hT1⟩, hB1⟩ hK
    have hs1 := bV1.lt
    simp only [spanOf]
    gi_wp2
    exact hK _ _ ((KeepsOthers.alloc _ _).from _) (Two.of_below ((Below.refl _ W).alloc (Nat.le_refl _) _) (by omega) (by omega)) ⟨⟨bT1.alloc _, bR1.alloc _, bF1.alloc _, bV1.alloc _, bQ1.alloc _, At.alloc hT1 _⟩, hB1.alloc hB1.size _⟩ ⟨W.heap.size, by omega, At.new _ _ _, rfl⟩
  case body =>
    rintro l pre x a' W hl ⟨r, hr⟩ ⟨⟨bT1, bR1, bF1, bV1, bQ1, hT1⟩, hB1⟩ ⟨Bx, hBx, bX, rfl⟩ hlt
    obtain ⟨k, hk⟩ := x
    have c1 : W.cell? ⟨w.heap.size, 0, none⟩ = some (.pointer (some ⟨b, 0, none⟩)) := bT1.cell 0 rfl
    have c2 : W.cell? ⟨w.heap.size + 1 + 1 + 1, 9, none⟩ = some (.slice (some ⟨w.heap.size + 1 + 1, 0, none⟩) n n) := bF1.cell 9 rfl
    have c3 : W.cell? ⟨Bx, 0, none⟩ = some (.int .i64 (F k)) := bX.cell 0 rfl
    have c4 : W.cell? ⟨Bx, 1, none⟩ = some (.int .i64 (T k)) := bX.cell 1 rfl
    have c5 := hT1.gn
    have c6 : W.cell? ⟨w.heap.size + 1 + 1, (n - 1 - k) * 2, none⟩ = some (.int .i64 (revG n F pre (n - 1 - k))) := bR1.cell _ (rowA_G _ _ _ _ (by omega))
    have c7 : W.cell? ⟨w.heap.size + 1 + 1, (n - 1 - k) * 2 + 1, none⟩ = some (.int .i64 (revG n T pre (n - 1 - k))) := bR1.cell _ (rowA_H _ _ _ _ (by omega))
    have f6 : W.frozen? ⟨w.heap.size + 1 + 1, (n - 1 - k) * 2, none⟩ = false := bR1.free _
    have f7 : W.frozen? ⟨w.heap.size + 1 + 1, (n - 1 - k) * 2 + 1, none⟩ = false := bR1.free _
    have e1 : IntKind.i64.wrap ((n : Int) - 1) = (n : Int) - 1 := IntWalk.i64_in _ (by omega)
    have e2 : IntKind.i64.wrap ((n : Int) - 1 - (k : Int)) = (n : Int) - 1 - (k : Int) := IntWalk.i64_in _ (by omega)
    have i1 : (0 : Int) ≤ (n : Int) - 1 - (k : Int) := by omega
    have i2 : (n : Int) - 1 - (k : Int) < (n : Int) := by omega
    have i4 : (k : Int) ≤ (n : Int) - 1 := by omega
    have i3 : ((n : Int) - 1 - (k : Int)).toNat = n - 1 - k := by omega
    have HB := Lib.hid (And.intro bT1 (And.intro bR1 (And.intro bF1 (And.intro bV1 (And.intro bQ1 hT1)))))
    clear bT1 bR1 bF1 bV1 bQ1 hT1 bX
    gi_wp2
    refine wpIn_region_still_tail 12 (by kernel_rfl) (by kernel_rfl) (by kernel_rfl) ?_
    simp only [List.take_succ_cons, List.take_zero, List.drop_succ_cons, List.drop_zero]
    repeat still_step
    try refine wpStill_nil ?_
    go_wp2
    refine ⟨by simp, ?_⟩
    gi_wp2
    obtain ⟨bT1, bR1, bF1, bV1, bQ1, hT1⟩ := HB.out
    have hbl := At.lt hT1
    have hB2 := (hB1.setCell (p := ⟨w.heap.size + 1 + 1, (n - 1 - k) * 2, none⟩) (by simp; omega) (.int .i64 (F k))).setCell (p := ⟨w.heap.size + 1 + 1, (n - 1 - k) * 2 + 1, none⟩) (by simp; omega) (.int .i64 (T k))
    have hfar : ∀ g, g ≠ w.heap.size + 1 + 1 → ((W.setCell ⟨w.heap.size + 1 + 1, (n - 1 - k) * 2, none⟩ (.int .i64 (F k))).setCell ⟨w.heap.size + 1 + 1, (n - 1 - k) * 2 + 1, none⟩ (.int .i64 (T k))).heap[g]? = W.heap[g]? := fun g hg => (Below.heap_setCell _ _ _ g hg).trans (Below.heap_setCell _ _ _ g hg)
    have hrow := (bR1.set _ _ (rowA_setG n (revG n F pre) (revG n T pre) (n - 1 - k) (by omega) (F k))).set _ _ (rowA_setH n _ (revG n T pre) (n - 1 - k) (by omega) (T k))
    exact ⟨(((KeepsOthers.setCell W _ _).trans (KeepsOthers.setCell _ _ _)).trans (KeepsOthers.drew _)).from _, ⟨hfar b (by omega), hfar _ (by omega)⟩, ⟨(hfar _ (by omega)).trans bT1, by rw [revG_snoc, revG_snoc]; exact hrow, (hfar _ (by omega)).trans bF1, (hfar _ (by omega)).trans bV1, (hfar _ (by omega)).trans bQ1, (hfar b (by omega)).trans hT1⟩, hB2.drew⟩
  case done =>
    rintro D zs W hD rfl ⟨⟨bT1, bR1, bF1, bV1, bQ1, hT1⟩, hB1⟩ hK
    rw [rowA_all] at bR1
    have a0 : W.cell? ⟨w.heap.size + 1 + 1 + 1, 0, none⟩ = some (.int .i64 2) := bF1.cell 0 rfl
    have z0 : W.cell? ⟨w.heap.size + 1, 0, none⟩ = some (.int .i64 0) := bQ1.cell 0 rfl
    have f0 : W.frozen? ⟨w.heap.size + 1, 0, none⟩ = false := bQ1.free 0
    have a1 : W.cell? ⟨w.heap.size + 1 + 1 + 1, 1, none⟩ = some (.int .i64 0) := bF1.cell 1 rfl
    have z1 : W.cell? ⟨w.heap.size + 1, 1, none⟩ = some (.int .i64 0) := bQ1.cell 1 rfl
    have f1 : W.frozen? ⟨w.heap.size + 1, 1, none⟩ = false := bQ1.free 1
    have a2 : W.cell? ⟨w.heap.size + 1 + 1 + 1, 2, none⟩ = some (.int .i64 0) := bF1.cell 2 rfl
    have z2 : W.cell? ⟨w.heap.size + 1, 2, none⟩ = some (.int .i64 0) := bQ1.cell 2 rfl
    have f2 : W.frozen? ⟨w.heap.size + 1, 2, none⟩ = false := bQ1.free 2
    have a3 : W.cell? ⟨w.heap.size + 1 + 1 + 1, 3, none⟩ = some (.string { data := #[] }) := bF1.cell 3 rfl
    have z3 : W.cell? ⟨w.heap.size + 1, 3, none⟩ = some (.string { data := #[] }) := bQ1.cell 3 rfl
    have f3 : W.frozen? ⟨w.heap.size + 1, 3, none⟩ = false := bQ1.free 3
    have a4 : W.cell? ⟨w.heap.size + 1 + 1 + 1, 4, none⟩ = some (.bool false) := bF1.cell 4 rfl
    have z4 : W.cell? ⟨w.heap.size + 1, 4, none⟩ = some (.bool false) := bQ1.cell 4 rfl
    have f4 : W.frozen? ⟨w.heap.size + 1, 4, none⟩ = false := bQ1.free 4
    have a5 : W.cell? ⟨w.heap.size + 1 + 1 + 1, 5, none⟩ = some (.int .i64 0) := bF1.cell 5 rfl
    have z5 : W.cell? ⟨w.heap.size + 1, 5, none⟩ = some (.int .i64 0) := bQ1.cell 5 rfl
    have f5 : W.frozen? ⟨w.heap.size + 1, 5, none⟩ = false := bQ1.free 5
    have a6 : W.cell? ⟨w.heap.size + 1 + 1 + 1, 6, none⟩ = some (.int .i64 0) := bF1.cell 6 rfl
    have z6 : W.cell? ⟨w.heap.size + 1, 6, none⟩ = some (.int .i64 0) := bQ1.cell 6 rfl
    have f6 : W.frozen? ⟨w.heap.size + 1, 6, none⟩ = false := bQ1.free 6
    have a7 : W.cell? ⟨w.heap.size + 1 + 1 + 1, 7, none⟩ = some (.bool false) := bF1.cell 7 rfl
    have z7 : W.cell? ⟨w.heap.size + 1, 7, none⟩ = some (.bool false) := bQ1.cell 7 rfl
    have f7 : W.frozen? ⟨w.heap.size + 1, 7, none⟩ = false := bQ1.free 7
    have a8 : W.cell? ⟨w.heap.size + 1 + 1 + 1, 8, none⟩ = some (.int .i64 (now - wh)) := bF1.cell 8 rfl
    have z8 : W.cell? ⟨w.heap.size + 1, 8, none⟩ = some (.int .i64 0) := bQ1.cell 8 rfl
    have f8 : W.frozen? ⟨w.heap.size + 1, 8, none⟩ = false := bQ1.free 8
    have a9 : W.cell? ⟨w.heap.size + 1 + 1 + 1, 9, none⟩ = some (.slice (some ⟨w.heap.size + 1 + 1, 0, none⟩) n n) := bF1.cell 9 rfl
    have z9 : W.cell? ⟨w.heap.size + 1, 9, none⟩ = some (.slice none 0 0) := bQ1.cell 9 rfl
    have f9 : W.frozen? ⟨w.heap.size + 1, 9, none⟩ = false := bQ1.free 9
    have a10 : W.cell? ⟨w.heap.size + 1 + 1 + 1, 10, none⟩ = some (.int .i64 0) := bF1.cell 10 rfl
    have z10 : W.cell? ⟨w.heap.size + 1, 10, none⟩ = some (.int .i64 0) := bQ1.cell 10 rfl
    have f10 : W.frozen? ⟨w.heap.size + 1, 10, none⟩ = false := bQ1.free 10
    have a11 : W.cell? ⟨w.heap.size + 1 + 1 + 1, 11, none⟩ = some (.int .i64 0) := bF1.cell 11 rfl
    have z11 : W.cell? ⟨w.heap.size + 1, 11, none⟩ = some (.int .i64 0) := bQ1.cell 11 rfl
    have f11 : W.frozen? ⟨w.heap.size + 1, 11, none⟩ = false := bQ1.free 11
    have a12 : W.cell? ⟨w.heap.size + 1 + 1 + 1, 12, none⟩ = some (.string { data := #[] }) := bF1.cell 12 rfl
    have z12 : W.cell? ⟨w.heap.size + 1, 12, none⟩ = some (.string { data := #[] }) := bQ1.cell 12 rfl
    have f12 : W.frozen? ⟨w.heap.size + 1, 12, none⟩ = false := bQ1.free 12
    gi_wp2
    have k0 := KeepsOthers.setCell W ⟨w.heap.size + 1, 0, none⟩ (.int .i64 2)
    have q0 := bQ1.set 0 (.int .i64 2) rfl
    have r0 := bR1.far (p := ⟨w.heap.size + 1, 0, none⟩) (by simp) (.int .i64 2)
    have b0 := hB1.setCell (p := ⟨w.heap.size + 1, 0, none⟩) (by simp) (.int .i64 2)
    have k1 := k0.trans (KeepsOthers.setCell _ ⟨w.heap.size + 1, 1, none⟩ (.int .i64 0))
    have q1 := q0.set 1 (.int .i64 0) rfl
    have r1 := r0.far (p := ⟨w.heap.size + 1, 1, none⟩) (by simp) (.int .i64 0)
    have b1 := b0.setCell (p := ⟨w.heap.size + 1, 1, none⟩) (by simp) (.int .i64 0)
    have k2 := k1.trans (KeepsOthers.setCell _ ⟨w.heap.size + 1, 2, none⟩ (.int .i64 0))
    have q2 := q1.set 2 (.int .i64 0) rfl
    have r2 := r1.far (p := ⟨w.heap.size + 1, 2, none⟩) (by simp) (.int .i64 0)
    have b2 := b1.setCell (p := ⟨w.heap.size + 1, 2, none⟩) (by simp) (.int .i64 0)
    have k3 := k2.trans (KeepsOthers.setCell _ ⟨w.heap.size + 1, 3, none⟩ (.string { data := #[] }))
    have q3 := q2.set 3 (.string { data := #[] }) rfl
    have r3 := r2.far (p := ⟨w.heap.size + 1, 3, none⟩) (by simp) (.string { data := #[] })
    have b3 := b2.setCell (p := ⟨w.heap.size + 1, 3, none⟩) (by simp) (.string { data := #[] })
    have k4 := k3.trans (KeepsOthers.setCell _ ⟨w.heap.size + 1, 4, none⟩ (.bool false))
    have q4 := q3.set 4 (.bool false) rfl
    have r4 := r3.far (p := ⟨w.heap.size + 1, 4, none⟩) (by simp) (.bool false)
    have b4 := b3.setCell (p := ⟨w.heap.size + 1, 4, none⟩) (by simp) (.bool false)
    have k5 := k4.trans (KeepsOthers.setCell _ ⟨w.heap.size + 1, 5, none⟩ (.int .i64 0))
    have q5 := q4.set 5 (.int .i64 0) rfl
    have r5 := r4.far (p := ⟨w.heap.size + 1, 5, none⟩) (by simp) (.int .i64 0)
    have b5 := b4.setCell (p := ⟨w.heap.size + 1, 5, none⟩) (by simp) (.int .i64 0)
    have k6 := k5.trans (KeepsOthers.setCell _ ⟨w.heap.size + 1, 6, none⟩ (.int .i64 0))
    have q6 := q5.set 6 (.int .i64 0) rfl
    have r6 := r5.far (p := ⟨w.heap.size + 1, 6, none⟩) (by simp) (.int .i64 0)
    have b6 := b5.setCell (p := ⟨w.heap.size + 1, 6, none⟩) (by simp) (.int .i64 0)
    have k7 := k6.trans (KeepsOthers.setCell _ ⟨w.heap.size + 1, 7, none⟩ (.bool false))
    have q7 := q6.set 7 (.bool false) rfl
    have r7 := r6.far (p := ⟨w.heap.size + 1, 7, none⟩) (by simp) (.bool false)
    have b7 := b6.setCell (p := ⟨w.heap.size + 1, 7, none⟩) (by simp) (.bool false)
    have k8 := k7.trans (KeepsOthers.setCell _ ⟨w.heap.size + 1, 8, none⟩ (.int .i64 (now - wh)))
    have q8 := q7.set 8 (.int .i64 (now - wh)) rfl
    have r8 := r7.far (p := ⟨w.heap.size + 1, 8, none⟩) (by simp) (.int .i64 (now - wh))
    have b8 := b7.setCell (p := ⟨w.heap.size + 1, 8, none⟩) (by simp) (.int .i64 (now - wh))
    have k9 := k8.trans (KeepsOthers.setCell _ ⟨w.heap.size + 1, 9, none⟩ (.slice (some ⟨w.heap.size + 1 + 1, 0, none⟩) n n))
    have q9 := q8.set 9 (.slice (some ⟨w.heap.size + 1 + 1, 0, none⟩) n n) rfl
    have r9 := r8.far (p := ⟨w.heap.size + 1, 9, none⟩) (by simp) (.slice (some ⟨w.heap.size + 1 + 1, 0, none⟩) n n)
    have b9 := b8.setCell (p := ⟨w.heap.size + 1, 9, none⟩) (by simp) (.slice (some ⟨w.heap.size + 1 + 1, 0, none⟩) n n)
    have k10 := k9.trans (KeepsOthers.setCell _ ⟨w.heap.size + 1, 10, none⟩ (.int .i64 0))
    have q10 := q9.set 10 (.int .i64 0) rfl
    have r10 := r9.far (p := ⟨w.heap.size + 1, 10, none⟩) (by simp) (.int .i64 0)
    have b10 := b9.setCell (p := ⟨w.heap.size + 1, 10, none⟩) (by simp) (.int .i64 0)
    have k11 := k10.trans (KeepsOthers.setCell _ ⟨w.heap.size + 1, 11, none⟩ (.int .i64 0))
    have q11 := q10.set 11 (.int .i64 0) rfl
    have r11 := r10.far (p := ⟨w.heap.size + 1, 11, none⟩) (by simp) (.int .i64 0)
    have b11 := b10.setCell (p := ⟨w.heap.size + 1, 11, none⟩) (by simp) (.int .i64 0)
    have k12 := k11.trans (KeepsOthers.setCell _ ⟨w.heap.size + 1, 12, none⟩ (.string { data := #[] }))
    have q12 := q11.set 12 (.string { data := #[] }) rfl
    have r12 := r11.far (p := ⟨w.heap.size + 1, 12, none⟩) (by simp) (.string { data := #[] })
    have b12 := b11.setCell (p := ⟨w.heap.size + 1, 12, none⟩) (by simp) (.string { data := #[] })
    have hK' := k12.same D _ hK rfl
    refine ⟨by simp, .inl ⟨_, _, rfl, run_takeDeferred hK', ?_⟩⟩
    have qq := at_put q12 (.deferred none) hK' rfl
    have u0 := qq.cell 0 (v := .int .i64 2) rfl
    have u1 := qq.cell 1 (v := .int .i64 0) rfl
    have u2 := qq.cell 2 (v := .int .i64 0) rfl
    have u3 := qq.cell 3 (v := .string { data := #[] }) rfl
    have u4 := qq.cell 4 (v := .bool false) rfl
    have u5 := qq.cell 5 (v := .int .i64 0) rfl
    have u6 := qq.cell 6 (v := .int .i64 0) rfl
    have u7 := qq.cell 7 (v := .bool false) rfl
    have u8 := qq.cell 8 (v := .int .i64 (now - wh)) rfl
    have u9 := qq.cell 9 (v := .slice (some ⟨w.heap.size + 1 + 1, 0, none⟩) n n) rfl
    have u10 := qq.cell 10 (v := .int .i64 0) rfl
    have u11 := qq.cell 11 (v := .int .i64 0) rfl
    have u12 := qq.cell 12 (v := .string { data := #[] }) rfl
    refine ⟨.tuple #[.agg #[.int .i64 2, .int .i64 0, .int .i64 0, .string { data := #[] }, .bool false, .int .i64 0, .int .i64 0, .bool false, .int .i64 (now - wh), .slice (some ⟨w.heap.size + 1 + 1, 0, none⟩) n n, .int .i64 0, .int .i64 0, .string { data := #[] }], .bool true], ?_, w.heap.size + 1 + 1, rfl, at_put r12 _ hK' rfl, by omega, b12.trans (belowK_b (w := w) (Nat.le_refl _) _ D _ _ (by omega) hK' rfl rfl)⟩
    simp [results, Try.f25, go_sem, u0, u1, u2, u3, u4, u5, u6, u7, u8, u9, u10, u11, u12]
  case stop =>
    rintro D c pre W _ _ h _
    exact h.elim
set_option maxRecDepth 100000 in
set_option maxHeartbeats 4000000 in
theorem frame_now (b : Nat) (now : Int) (F T : Nat → Int) (n : Nat) (d fl lg wh ct du : Int) (hn : n ≤ 17) (hn0 : 0 < n) (h0 : 0 ≤ now) (h1 : now ≤ 1099511627776) (h2 : 0 ≤ wh) (h3 : wh ≤ 1099511627776) (hnw : ¬ wh < now) (w : World) (hT : Trk w b F T n d fl lg wh ct du) :
    CallsIn Fence.wide 3 Try.prog 25 #[.pointer (some ⟨b, 0, none⟩), .int .i64 now] w (FramePost b F T n 0 w) := by
  have hro : Fence.wide.round = none := rfl
  have h1' : 1 ≤ 3 := by omega
  have hbl := At.lt hT
  have hmk := run_make_span n (by omega)
  have hcn : (w.alloc (.cells #[.pointer (some ⟨b, 0, none⟩)] 25)).cell? ⟨b, 34, none⟩ = some (.int .i64 n) := Trk.gn (At.alloc hT _)
  have q0 : ((n : Int) == 0) = false := by simp; omega
  have hcw : ((((w.alloc (.cells #[.pointer (some ⟨b, 0, none⟩)] 25)).alloc (.cells #[.int .i64 0, .int .i64 0, .int .i64 0, .string { data := #[] }, .bool false, .int .i64 0, .int .i64 0, .bool false, .int .i64 0, .slice none 0 0, .int .i64 0, .int .i64 0, .string { data := #[] }] 57)).alloc (.cells (rowA n zF zF) 40)).alloc (.cells #[.int .i64 2, .int .i64 0, .int .i64 0, .string { data := #[] }, .bool false, .int .i64 0, .int .i64 0, .bool false, .int .i64 0, .slice (some ⟨w.heap.size + 1 + 1, 0, none⟩) n n, .int .i64 0, .int .i64 0, .string { data := #[] }] 57)).cell? ⟨b, 38, none⟩ = some (.int .i64 wh) := Trk.gwh (At.alloc (At.alloc (At.alloc (At.alloc hT _) _) _) _)
  have bT := (((At.new w 25 #[.pointer (some ⟨b, 0, none⟩)]).alloc (.cells #[.int .i64 0, .int .i64 0, .int .i64 0, .string { data := #[] }, .bool false, .int .i64 0, .int .i64 0, .bool false, .int .i64 0, .slice none 0 0, .int .i64 0, .int .i64 0, .string { data := #[] }] 57)).alloc (.cells (rowA n zF zF) 40)).alloc (.cells #[.int .i64 2, .int .i64 0, .int .i64 0, .string { data := #[] }, .bool false, .int .i64 0, .int .i64 0, .bool false, .int .i64 0, .slice (some ⟨w.heap.size + 1 + 1, 0, none⟩) n n, .int .i64 0, .int .i64 0, .string { data := #[] }] 57)
  have bT := bT.alloc (.cells #[.pointer (some ⟨b, 0, none⟩)] 80)
  have bR := ((At.new ((w.alloc (.cells #[.pointer (some ⟨b, 0, none⟩)] 25)).alloc (.cells #[.int .i64 0, .int .i64 0, .int .i64 0, .string { data := #[] }, .bool false, .int .i64 0, .int .i64 0, .bool false, .int .i64 0, .slice none 0 0, .int .i64 0, .int .i64 0, .string { data := #[] }] 57)) 40 (rowA n zF zF)).alloc (.cells #[.int .i64 2, .int .i64 0, .int .i64 0, .string { data := #[] }, .bool false, .int .i64 0, .int .i64 0, .bool false, .int .i64 0, .slice (some ⟨w.heap.size + 1 + 1, 0, none⟩) n n, .int .i64 0, .int .i64 0, .string { data := #[] }] 57)).alloc (.cells #[.pointer (some ⟨b, 0, none⟩)] 80)
  have bF := (At.new (((w.alloc (.cells #[.pointer (some ⟨b, 0, none⟩)] 25)).alloc (.cells #[.int .i64 0, .int .i64 0, .int .i64 0, .string { data := #[] }, .bool false, .int .i64 0, .int .i64 0, .bool false, .int .i64 0, .slice none 0 0, .int .i64 0, .int .i64 0, .string { data := #[] }] 57)).alloc (.cells (rowA n zF zF) 40)) 57 #[.int .i64 2, .int .i64 0, .int .i64 0, .string { data := #[] }, .bool false, .int .i64 0, .int .i64 0, .bool false, .int .i64 0, .slice (some ⟨w.heap.size + 1 + 1, 0, none⟩) n n, .int .i64 0, .int .i64 0, .string { data := #[] }]).alloc (.cells #[.pointer (some ⟨b, 0, none⟩)] 80)
  have bV := At.new ((((w.alloc (.cells #[.pointer (some ⟨b, 0, none⟩)] 25)).alloc (.cells #[.int .i64 0, .int .i64 0, .int .i64 0, .string { data := #[] }, .bool false, .int .i64 0, .int .i64 0, .bool false, .int .i64 0, .slice none 0 0, .int .i64 0, .int .i64 0, .string { data := #[] }] 57)).alloc (.cells (rowA n zF zF) 40)).alloc (.cells #[.int .i64 2, .int .i64 0, .int .i64 0, .string { data := #[] }, .bool false, .int .i64 0, .int .i64 0, .bool false, .int .i64 0, .slice (some ⟨w.heap.size + 1 + 1, 0, none⟩) n n, .int .i64 0, .int .i64 0, .string { data := #[] }] 57)) 80 #[.pointer (some ⟨b, 0, none⟩)]
  simp only [World.size_alloc] at bR bF bV
  have bQ := (((At.new (w.alloc (.cells #[.pointer (some ⟨b, 0, none⟩)] 25)) 57 #[.int .i64 0, .int .i64 0, .int .i64 0, .string { data := #[] }, .bool false, .int .i64 0, .int .i64 0, .bool false, .int .i64 0, .slice none 0 0, .int .i64 0, .int .i64 0, .string { data := #[] }]).alloc (.cells (rowA n zF zF) 40)).alloc (.cells #[.int .i64 2, .int .i64 0, .int .i64 0, .string { data := #[] }, .bool false, .int .i64 0, .int .i64 0, .bool false, .int .i64 0, .slice (some ⟨w.heap.size + 1 + 1, 0, none⟩) n n, .int .i64 0, .int .i64 0, .string { data := #[] }] 57)).alloc (.cells #[.pointer (some ⟨b, 0, none⟩)] 80)
  simp only [World.size_alloc] at bQ
  have hT0 : Trk (((((w.alloc (.cells #[.pointer (some ⟨b, 0, none⟩)] 25)).alloc (.cells #[.int .i64 0, .int .i64 0, .int .i64 0, .string { data := #[] }, .bool false, .int .i64 0, .int .i64 0, .bool false, .int .i64 0, .slice none 0 0, .int .i64 0, .int .i64 0, .string { data := #[] }] 57)).alloc (.cells (rowA n zF zF) 40)).alloc (.cells #[.int .i64 2, .int .i64 0, .int .i64 0, .string { data := #[] }, .bool false, .int .i64 0, .int .i64 0, .bool false, .int .i64 0, .slice (some ⟨w.heap.size + 1 + 1, 0, none⟩) n n, .int .i64 0, .int .i64 0, .string { data := #[] }] 57)).alloc (.cells #[.pointer (some ⟨b, 0, none⟩)] 80)) b F T n d fl lg wh ct du := At.alloc (At.alloc (At.alloc (At.alloc (At.alloc hT _) _) _) _) _
  have hB0 : Below w.heap.size w (((((w.alloc (.cells #[.pointer (some ⟨b, 0, none⟩)] 25)).alloc (.cells #[.int .i64 0, .int .i64 0, .int .i64 0, .string { data := #[] }, .bool false, .int .i64 0, .int .i64 0, .bool false, .int .i64 0, .slice none 0 0, .int .i64 0, .int .i64 0, .string { data := #[] }] 57)).alloc (.cells (rowA n zF zF) 40)).alloc (.cells #[.int .i64 2, .int .i64 0, .int .i64 0, .string { data := #[] }, .bool false, .int .i64 0, .int .i64 0, .bool false, .int .i64 0, .slice (some ⟨w.heap.size + 1 + 1, 0, none⟩) n n, .int .i64 0, .int .i64 0, .string { data := #[] }] 57)).alloc (.cells #[.pointer (some ⟨b, 0, none⟩)] 80)) := (((((Below.refl _ w).alloc (Nat.le_refl _) _).alloc (by simp) _).alloc (by simp; omega) _).alloc (by simp; omega) _).alloc (by simp; omega) _
  have hsz : (((((w.alloc (.cells #[.pointer (some ⟨b, 0, none⟩)] 25)).alloc (.cells #[.int .i64 0, .int .i64 0, .int .i64 0, .string { data := #[] }, .bool false, .int .i64 0, .int .i64 0, .bool false, .int .i64 0, .slice none 0 0, .int .i64 0, .int .i64 0, .string { data := #[] }] 57)).alloc (.cells (rowA n zF zF) 40)).alloc (.cells #[.int .i64 2, .int .i64 0, .int .i64 0, .string { data := #[] }, .bool false, .int .i64 0, .int .i64 0, .bool false, .int .i64 0, .slice (some ⟨w.heap.size + 1 + 1, 0, none⟩) n n, .int .i64 0, .int .i64 0, .string { data := #[] }] 57)).alloc (.cells #[.pointer (some ⟨b, 0, none⟩)] 80)).heap.size = w.heap.size + 5 := by simp
  have HT0 := Lib.hid hT0
  have HB0 := Lib.hid hB0
  have HSZ := Lib.hid hsz
  have BT := Lib.hid bT
  have BR := Lib.hid bR
  have BF := Lib.hid bF
  have BV := Lib.hid bV
  have BQ := Lib.hid bQ
  clear hT hT0 hB0 hsz bT bR bF bV bQ
  refine callsIn_of_wp_marks Try.func25 rfl trivial ?_ hro
  simp only [Try.ntmps25, List.size_toArray, List.length_cons, List.length_nil, Nat.reduceAdd, Nat.reduceSub, Array.replicate_succ, Array.replicate_zero, List.push_toArray, List.append_toArray, List.nil_append, List.cons_append]
  gi_wp2_with fail
  refine ⟨trivial, ?_⟩
  refine (all_in Fence.wide 2 trivial hro _ _).mono ?_
  rintro e w' ⟨rfl, rfl⟩
  clear hcn hcw hmk
  gi_wp2_with fail
  obtain ⟨W0, hW0⟩ : ∃ W0, (((((w.alloc (.cells #[.pointer (some ⟨b, 0, none⟩)] 25)).alloc (.cells #[.int .i64 0, .int .i64 0, .int .i64 0, .string { data := #[] }, .bool false, .int .i64 0, .int .i64 0, .bool false, .int .i64 0, .slice none 0 0, .int .i64 0, .int .i64 0, .string { data := #[] }] 57)).alloc (.cells (rowA n zF zF) 40)).alloc (.cells #[.int .i64 2, .int .i64 0, .int .i64 0, .string { data := #[] }, .bool false, .int .i64 0, .int .i64 0, .bool false, .int .i64 0, .slice (some ⟨w.heap.size + 1 + 1, 0, none⟩) n n, .int .i64 0, .int .i64 0, .string { data := #[] }] 57)).alloc (.cells #[.pointer (some ⟨b, 0, none⟩)] 80)) = W0 := ⟨_, rfl⟩
  rw [hW0] at HT0 HB0 HSZ BT BR BF BV BQ ⊢
  clear hW0
  have hT0 := HT0.out
  have hB0 := HB0.out
  have hsz := HSZ.out
  have bT := BT.out
  have bR := BR.out
  have bF := BF.out
  have bV := BV.out
  have bQ := BQ.out
  clear HT0 HB0 HSZ BT BR BF BV BQ
  refine wpIn_rangeFunc_ownH hro h1' (gf := 44) (lb := #[.pointer (some ⟨w.heap.size + 1 + 1 + 1 + 1, 0, none⟩)]) rfl trivial (enters_of Try.func44 (by kernel_rfl) rfl)
    (allF_stops Fence.wide 2 trivial hro (by omega) (w.heap.size + 1 + 1 + 1 + 1) b F T n d fl lg wh ct du hn W0 (by omega) (by omega) (bV.cell 0 rfl) hT0) (fun h k => Two.trans h k) (Two.put (by omega) (by omega)) (Below.refl _ _) (fun _ => rfl)
    (fun pre W => ((At W w.heap.size 25 #[.pointer (some ⟨b, 0, none⟩)] ∧ At W (w.heap.size + 1 + 1) 40 (rowA n (revG n F pre) (revG n T pre)) ∧ At W (w.heap.size + 1 + 1 + 1) 57 #[.int .i64 2, .int .i64 0, .int .i64 0, .string { data := #[] }, .bool false, .int .i64 0, .int .i64 0, .bool false, .int .i64 0, .slice (some ⟨w.heap.size + 1 + 1, 0, none⟩) n n, .int .i64 0, .int .i64 0, .string { data := #[] }] ∧ At W (w.heap.size + 1 + 1 + 1 + 1) 80 #[.pointer (some ⟨b, 0, none⟩)] ∧ At W (w.heap.size + 1) 57 #[.int .i64 0, .int .i64 0, .int .i64 0, .string { data := #[] }, .bool false, .int .i64 0, .int .i64 0, .bool false, .int .i64 0, .slice none 0 0, .int .i64 0, .int .i64 0, .string { data := #[] }] ∧ Trk W b F T n d fl lg wh ct du) ∧ Below w.heap.size w W))
    (fun _ _ _ => False)
    (OwnFrom.and (OwnFrom.and (Own.from (at_own _ _ _) _) (OwnFrom.and (Own.from (at_own _ _ _) _) (OwnFrom.and (Own.from (at_own _ _ _) _) (OwnFrom.and (Own.from (at_own _ _ _) _) (OwnFrom.and (Own.from (at_own _ _ _) _) (Own.from (at_own _ _ _) _)))))) (ownFrom_below (Nat.le_refl _) (by omega)))
    (fun _ _ _ _ _ hs _ _ => hs)
    ⟨⟨bT, by rw [revG_nil, revG_nil]; exact bR, bF, bV, bQ, hT0⟩, hB0⟩
    (fun x a' W => ∃ Bx, w.heap.size + 4 < Bx ∧ At W Bx 40 #[.int .i64 (F x.1), .int .i64 (T x.1)] ∧ a' = { tmps := #[.pointer (some ⟨b, 0, none⟩), .int .i64 now, .pointer (some ⟨w.heap.size, 0, none⟩), undef, .pointer (some ⟨w.heap.size + 1, 0, none⟩), .bool false, .pointer (some ⟨w.heap.size + 1 + 1 + 1, 0, none⟩), .int .i64 x.1, .pointer (some ⟨Bx, 0, none⟩), .pointer (some ⟨b, 0, none⟩), .bool false, .bool false, .pointer (some ⟨b, 0, none⟩), .pointer (some ⟨b, 0, none⟩), .pointer (some ⟨b, 0, none⟩), .pointer (some ⟨b, 34, none⟩), .int .i64 n, .bool false, .bool false, undef, .pointer (some ⟨b, 0, none⟩), .pointer (some ⟨b, 0, none⟩), .pointer (some ⟨b, 0, none⟩), .pointer (some ⟨b, 34, none⟩), .int .i64 n, .slice (some ⟨w.heap.size + 1 + 1, 0, none⟩) n n, .agg #[.int .i64 2, .int .i64 0, .int .i64 0, .string { data := #[] }, .bool false, .int .i64 0, .int .i64 0, .bool false, .int .i64 0, .slice (some ⟨w.heap.size + 1 + 1, 0, none⟩) n n, .int .i64 0, .int .i64 0, .string { data := #[] }], .int .i64 now, .pointer (some ⟨b, 0, none⟩), .pointer (some ⟨b, 0, none⟩), .pointer (some ⟨b, 38, none⟩), .int .i64 wh, .bool false, undef, undef, undef, undef, undef, undef, undef, .pointer (some ⟨b, 0, none⟩), .pointer (some ⟨b, 0, none⟩), .pointer (some ⟨b, 0, none⟩), .func (.func 44) #[] #[.pointer (some ⟨w.heap.size + 1 + 1 + 1 + 1, 0, none⟩)], .int .i64 x.1, .agg #[.int .i64 (F x.1), .int .i64 (T x.1)], undef, undef, undef, undef, undef, undef, undef, undef, undef, undef, undef, undef, undef], defers := [] })
    (fun x a' _ X Y row hs hg hr => by obtain ⟨Bx, h1, h2, h3⟩ := hs; exact ⟨Bx, h1, at_own Bx 40 (fun (_ : Unit) => #[.int .i64 (F x.1), .int .i64 (T x.1)]) () X Y row h2 hg (fun r e => (hr r e).2), h3⟩)
    ?assign ?body ?done ?stop
  case assign =>
    rintro l pre x W K ⟨⟨bT1, bR1, bF1, bV1, bQ1, hT1⟩, hB1⟩ hK
    have hs1 := bV1.lt
    simp only [spanOf]
    gi_wp2
    exact hK _ _ ((KeepsOthers.alloc _ _).from _) (Two.of_below ((Below.refl _ W).alloc (Nat.le_refl _) _) (by omega) (by omega)) ⟨⟨bT1.alloc _, bR1.alloc _, bF1.alloc _, bV1.alloc _, bQ1.alloc _, At.alloc hT1 _⟩, hB1.alloc hB1.size _⟩ ⟨W.heap.size, by omega, At.new _ _ _, rfl⟩
  case body =>
    rintro l pre x a' W hl ⟨r, hr⟩ ⟨⟨bT1, bR1, bF1, bV1, bQ1, hT1⟩, hB1⟩ ⟨Bx, hBx, bX, rfl⟩ hlt
    obtain ⟨k, hk⟩ := x
    have c1 : W.cell? ⟨w.heap.size, 0, none⟩ = some (.pointer (some ⟨b, 0, none⟩)) := bT1.cell 0 rfl
    have c2 : W.cell? ⟨w.heap.size + 1 + 1 + 1, 9, none⟩ = some (.slice (some ⟨w.heap.size + 1 + 1, 0, none⟩) n n) := bF1.cell 9 rfl
    have c3 : W.cell? ⟨Bx, 0, none⟩ = some (.int .i64 (F k)) := bX.cell 0 rfl
    have c4 : W.cell? ⟨Bx, 1, none⟩ = some (.int .i64 (T k)) := bX.cell 1 rfl
    have c5 := hT1.gn
    have c6 : W.cell? ⟨w.heap.size + 1 + 1, (n - 1 - k) * 2, none⟩ = some (.int .i64 (revG n F pre (n - 1 - k))) := bR1.cell _ (rowA_G _ _ _ _ (by omega))
    have c7 : W.cell? ⟨w.heap.size + 1 + 1, (n - 1 - k) * 2 + 1, none⟩ = some (.int .i64 (revG n T pre (n - 1 - k))) := bR1.cell _ (rowA_H _ _ _ _ (by omega))
    have f6 : W.frozen? ⟨w.heap.size + 1 + 1, (n - 1 - k) * 2, none⟩ = false := bR1.free _
    have f7 : W.frozen? ⟨w.heap.size + 1 + 1, (n - 1 - k) * 2 + 1, none⟩ = false := bR1.free _
    have e1 : IntKind.i64.wrap ((n : Int) - 1) = (n : Int) - 1 := IntWalk.i64_in _ (by omega)
    have e2 : IntKind.i64.wrap ((n : Int) - 1 - (k : Int)) = (n : Int) - 1 - (k : Int) := IntWalk.i64_in _ (by omega)
    have i1 : (0 : Int) ≤ (n : Int) - 1 - (k : Int) := by omega
    have i2 : (n : Int) - 1 - (k : Int) < (n : Int) := by omega
    have i4 : (k : Int) ≤ (n : Int) - 1 := by omega
    have i3 : ((n : Int) - 1 - (k : Int)).toNat = n - 1 - k := by omega
    have HB := Lib.hid (And.intro bT1 (And.intro bR1 (And.intro bF1 (And.intro bV1 (And.intro bQ1 hT1)))))
    clear bT1 bR1 bF1 bV1 bQ1 hT1 bX
    gi_wp2
    refine wpIn_region_still_tail 12 (by kernel_rfl) (by kernel_rfl) (by kernel_rfl) ?_
    simp only [List.take_succ_cons, List.take_zero, List.drop_succ_cons, List.drop_zero]
    repeat still_step
    try refine wpStill_nil ?_
    go_wp2
    refine ⟨by simp, ?_⟩
    gi_wp2
    obtain ⟨bT1, bR1, bF1, bV1, bQ1, hT1⟩ := HB.out
    have hbl := At.lt hT1
    have hB2 := (hB1.setCell (p := ⟨w.heap.size + 1 + 1, (n - 1 - k) * 2, none⟩) (by simp; omega) (.int .i64 (F k))).setCell (p := ⟨w.heap.size + 1 + 1, (n - 1 - k) * 2 + 1, none⟩) (by simp; omega) (.int .i64 (T k))
    have hfar : ∀ g, g ≠ w.heap.size + 1 + 1 → ((W.setCell ⟨w.heap.size + 1 + 1, (n - 1 - k) * 2, none⟩ (.int .i64 (F k))).setCell ⟨w.heap.size + 1 + 1, (n - 1 - k) * 2 + 1, none⟩ (.int .i64 (T k))).heap[g]? = W.heap[g]? := fun g hg => (Below.heap_setCell _ _ _ g hg).trans (Below.heap_setCell _ _ _ g hg)
    have hrow := (bR1.set _ _ (rowA_setG n (revG n F pre) (revG n T pre) (n - 1 - k) (by omega) (F k))).set _ _ (rowA_setH n _ (revG n T pre) (n - 1 - k) (by omega) (T k))
    exact ⟨(((KeepsOthers.setCell W _ _).trans (KeepsOthers.setCell _ _ _)).trans (KeepsOthers.drew _)).from _, ⟨hfar b (by omega), hfar _ (by omega)⟩, ⟨(hfar _ (by omega)).trans bT1, by rw [revG_snoc, revG_snoc]; exact hrow, (hfar _ (by omega)).trans bF1, (hfar _ (by omega)).trans bV1, (hfar _ (by omega)).trans bQ1, (hfar b (by omega)).trans hT1⟩, hB2.drew⟩
  case done =>
    rintro D zs W hD rfl ⟨⟨bT1, bR1, bF1, bV1, bQ1, hT1⟩, hB1⟩ hK
    rw [rowA_all] at bR1
    have a0 : W.cell? ⟨w.heap.size + 1 + 1 + 1, 0, none⟩ = some (.int .i64 2) := bF1.cell 0 rfl
    have z0 : W.cell? ⟨w.heap.size + 1, 0, none⟩ = some (.int .i64 0) := bQ1.cell 0 rfl
    have f0 : W.frozen? ⟨w.heap.size + 1, 0, none⟩ = false := bQ1.free 0
    have a1 : W.cell? ⟨w.heap.size + 1 + 1 + 1, 1, none⟩ = some (.int .i64 0) := bF1.cell 1 rfl
    have z1 : W.cell? ⟨w.heap.size + 1, 1, none⟩ = some (.int .i64 0) := bQ1.cell 1 rfl
    have f1 : W.frozen? ⟨w.heap.size + 1, 1, none⟩ = false := bQ1.free 1
    have a2 : W.cell? ⟨w.heap.size + 1 + 1 + 1, 2, none⟩ = some (.int .i64 0) := bF1.cell 2 rfl
    have z2 : W.cell? ⟨w.heap.size + 1, 2, none⟩ = some (.int .i64 0) := bQ1.cell 2 rfl
    have f2 : W.frozen? ⟨w.heap.size + 1, 2, none⟩ = false := bQ1.free 2
    have a3 : W.cell? ⟨w.heap.size + 1 + 1 + 1, 3, none⟩ = some (.string { data := #[] }) := bF1.cell 3 rfl
    have z3 : W.cell? ⟨w.heap.size + 1, 3, none⟩ = some (.string { data := #[] }) := bQ1.cell 3 rfl
    have f3 : W.frozen? ⟨w.heap.size + 1, 3, none⟩ = false := bQ1.free 3
    have a4 : W.cell? ⟨w.heap.size + 1 + 1 + 1, 4, none⟩ = some (.bool false) := bF1.cell 4 rfl
    have z4 : W.cell? ⟨w.heap.size + 1, 4, none⟩ = some (.bool false) := bQ1.cell 4 rfl
    have f4 : W.frozen? ⟨w.heap.size + 1, 4, none⟩ = false := bQ1.free 4
    have a5 : W.cell? ⟨w.heap.size + 1 + 1 + 1, 5, none⟩ = some (.int .i64 0) := bF1.cell 5 rfl
    have z5 : W.cell? ⟨w.heap.size + 1, 5, none⟩ = some (.int .i64 0) := bQ1.cell 5 rfl
    have f5 : W.frozen? ⟨w.heap.size + 1, 5, none⟩ = false := bQ1.free 5
    have a6 : W.cell? ⟨w.heap.size + 1 + 1 + 1, 6, none⟩ = some (.int .i64 0) := bF1.cell 6 rfl
    have z6 : W.cell? ⟨w.heap.size + 1, 6, none⟩ = some (.int .i64 0) := bQ1.cell 6 rfl
    have f6 : W.frozen? ⟨w.heap.size + 1, 6, none⟩ = false := bQ1.free 6
    have a7 : W.cell? ⟨w.heap.size + 1 + 1 + 1, 7, none⟩ = some (.bool false) := bF1.cell 7 rfl
    have z7 : W.cell? ⟨w.heap.size + 1, 7, none⟩ = some (.bool false) := bQ1.cell 7 rfl
    have f7 : W.frozen? ⟨w.heap.size + 1, 7, none⟩ = false := bQ1.free 7
    have a8 : W.cell? ⟨w.heap.size + 1 + 1 + 1, 8, none⟩ = some (.int .i64 0) := bF1.cell 8 rfl
    have z8 : W.cell? ⟨w.heap.size + 1, 8, none⟩ = some (.int .i64 0) := bQ1.cell 8 rfl
    have f8 : W.frozen? ⟨w.heap.size + 1, 8, none⟩ = false := bQ1.free 8
    have a9 : W.cell? ⟨w.heap.size + 1 + 1 + 1, 9, none⟩ = some (.slice (some ⟨w.heap.size + 1 + 1, 0, none⟩) n n) := bF1.cell 9 rfl
    have z9 : W.cell? ⟨w.heap.size + 1, 9, none⟩ = some (.slice none 0 0) := bQ1.cell 9 rfl
    have f9 : W.frozen? ⟨w.heap.size + 1, 9, none⟩ = false := bQ1.free 9
    have a10 : W.cell? ⟨w.heap.size + 1 + 1 + 1, 10, none⟩ = some (.int .i64 0) := bF1.cell 10 rfl
    have z10 : W.cell? ⟨w.heap.size + 1, 10, none⟩ = some (.int .i64 0) := bQ1.cell 10 rfl
    have f10 : W.frozen? ⟨w.heap.size + 1, 10, none⟩ = false := bQ1.free 10
    have a11 : W.cell? ⟨w.heap.size + 1 + 1 + 1, 11, none⟩ = some (.int .i64 0) := bF1.cell 11 rfl
    have z11 : W.cell? ⟨w.heap.size + 1, 11, none⟩ = some (.int .i64 0) := bQ1.cell 11 rfl
    have f11 : W.frozen? ⟨w.heap.size + 1, 11, none⟩ = false := bQ1.free 11
    have a12 : W.cell? ⟨w.heap.size + 1 + 1 + 1, 12, none⟩ = some (.string { data := #[] }) := bF1.cell 12 rfl
    have z12 : W.cell? ⟨w.heap.size + 1, 12, none⟩ = some (.string { data := #[] }) := bQ1.cell 12 rfl
    have f12 : W.frozen? ⟨w.heap.size + 1, 12, none⟩ = false := bQ1.free 12
    gi_wp2
    have k0 := KeepsOthers.setCell W ⟨w.heap.size + 1, 0, none⟩ (.int .i64 2)
    have q0 := bQ1.set 0 (.int .i64 2) rfl
    have r0 := bR1.far (p := ⟨w.heap.size + 1, 0, none⟩) (by simp) (.int .i64 2)
    have b0 := hB1.setCell (p := ⟨w.heap.size + 1, 0, none⟩) (by simp) (.int .i64 2)
    have k1 := k0.trans (KeepsOthers.setCell _ ⟨w.heap.size + 1, 1, none⟩ (.int .i64 0))
    have q1 := q0.set 1 (.int .i64 0) rfl
    have r1 := r0.far (p := ⟨w.heap.size + 1, 1, none⟩) (by simp) (.int .i64 0)
    have b1 := b0.setCell (p := ⟨w.heap.size + 1, 1, none⟩) (by simp) (.int .i64 0)
    have k2 := k1.trans (KeepsOthers.setCell _ ⟨w.heap.size + 1, 2, none⟩ (.int .i64 0))
    have q2 := q1.set 2 (.int .i64 0) rfl
    have r2 := r1.far (p := ⟨w.heap.size + 1, 2, none⟩) (by simp) (.int .i64 0)
    have b2 := b1.setCell (p := ⟨w.heap.size + 1, 2, none⟩) (by simp) (.int .i64 0)
    have k3 := k2.trans (KeepsOthers.setCell _ ⟨w.heap.size + 1, 3, none⟩ (.string { data := #[] }))
    have q3 := q2.set 3 (.string { data := #[] }) rfl
    have r3 := r2.far (p := ⟨w.heap.size + 1, 3, none⟩) (by simp) (.string { data := #[] })
    have b3 := b2.setCell (p := ⟨w.heap.size + 1, 3, none⟩) (by simp) (.string { data := #[] })
    have k4 := k3.trans (KeepsOthers.setCell _ ⟨w.heap.size + 1, 4, none⟩ (.bool false))
    have q4 := q3.set 4 (.bool false) rfl
    have r4 := r3.far (p := ⟨w.heap.size + 1, 4, none⟩) (by simp) (.bool false)
    have b4 := b3.setCell (p := ⟨w.heap.size + 1, 4, none⟩) (by simp) (.bool false)
    have k5 := k4.trans (KeepsOthers.setCell _ ⟨w.heap.size + 1, 5, none⟩ (.int .i64 0))
    have q5 := q4.set 5 (.int .i64 0) rfl
    have r5 := r4.far (p := ⟨w.heap.size + 1, 5, none⟩) (by simp) (.int .i64 0)
    have b5 := b4.setCell (p := ⟨w.heap.size + 1, 5, none⟩) (by simp) (.int .i64 0)
    have k6 := k5.trans (KeepsOthers.setCell _ ⟨w.heap.size + 1, 6, none⟩ (.int .i64 0))
    have q6 := q5.set 6 (.int .i64 0) rfl
    have r6 := r5.far (p := ⟨w.heap.size + 1, 6, none⟩) (by simp) (.int .i64 0)
    have b6 := b5.setCell (p := ⟨w.heap.size + 1, 6, none⟩) (by simp) (.int .i64 0)
    have k7 := k6.trans (KeepsOthers.setCell _ ⟨w.heap.size + 1, 7, none⟩ (.bool false))
    have q7 := q6.set 7 (.bool false) rfl
    have r7 := r6.far (p := ⟨w.heap.size + 1, 7, none⟩) (by simp) (.bool false)
    have b7 := b6.setCell (p := ⟨w.heap.size + 1, 7, none⟩) (by simp) (.bool false)
    have k8 := k7.trans (KeepsOthers.setCell _ ⟨w.heap.size + 1, 8, none⟩ (.int .i64 0))
    have q8 := q7.set 8 (.int .i64 0) rfl
    have r8 := r7.far (p := ⟨w.heap.size + 1, 8, none⟩) (by simp) (.int .i64 0)
    have b8 := b7.setCell (p := ⟨w.heap.size + 1, 8, none⟩) (by simp) (.int .i64 0)
    have k9 := k8.trans (KeepsOthers.setCell _ ⟨w.heap.size + 1, 9, none⟩ (.slice (some ⟨w.heap.size + 1 + 1, 0, none⟩) n n))
    have q9 := q8.set 9 (.slice (some ⟨w.heap.size + 1 + 1, 0, none⟩) n n) rfl
    have r9 := r8.far (p := ⟨w.heap.size + 1, 9, none⟩) (by simp) (.slice (some ⟨w.heap.size + 1 + 1, 0, none⟩) n n)
    have b9 := b8.setCell (p := ⟨w.heap.size + 1, 9, none⟩) (by simp) (.slice (some ⟨w.heap.size + 1 + 1, 0, none⟩) n n)
    have k10 := k9.trans (KeepsOthers.setCell _ ⟨w.heap.size + 1, 10, none⟩ (.int .i64 0))
    have q10 := q9.set 10 (.int .i64 0) rfl
    have r10 := r9.far (p := ⟨w.heap.size + 1, 10, none⟩) (by simp) (.int .i64 0)
    have b10 := b9.setCell (p := ⟨w.heap.size + 1, 10, none⟩) (by simp) (.int .i64 0)
    have k11 := k10.trans (KeepsOthers.setCell _ ⟨w.heap.size + 1, 11, none⟩ (.int .i64 0))
    have q11 := q10.set 11 (.int .i64 0) rfl
    have r11 := r10.far (p := ⟨w.heap.size + 1, 11, none⟩) (by simp) (.int .i64 0)
    have b11 := b10.setCell (p := ⟨w.heap.size + 1, 11, none⟩) (by simp) (.int .i64 0)
    have k12 := k11.trans (KeepsOthers.setCell _ ⟨w.heap.size + 1, 12, none⟩ (.string { data := #[] }))
    have q12 := q11.set 12 (.string { data := #[] }) rfl
    have r12 := r11.far (p := ⟨w.heap.size + 1, 12, none⟩) (by simp) (.string { data := #[] })
    have b12 := b11.setCell (p := ⟨w.heap.size + 1, 12, none⟩) (by simp) (.string { data := #[] })
    have hK' := k12.same D _ hK rfl
    refine ⟨by simp, .inl ⟨_, _, rfl, run_takeDeferred hK', ?_⟩⟩
    have qq := at_put q12 (.deferred none) hK' rfl
    have u0 := qq.cell 0 (v := .int .i64 2) rfl
    have u1 := qq.cell 1 (v := .int .i64 0) rfl
    have u2 := qq.cell 2 (v := .int .i64 0) rfl
    have u3 := qq.cell 3 (v := .string { data := #[] }) rfl
    have u4 := qq.cell 4 (v := .bool false) rfl
    have u5 := qq.cell 5 (v := .int .i64 0) rfl
    have u6 := qq.cell 6 (v := .int .i64 0) rfl
    have u7 := qq.cell 7 (v := .bool false) rfl
    have u8 := qq.cell 8 (v := .int .i64 0) rfl
    have u9 := qq.cell 9 (v := .slice (some ⟨w.heap.size + 1 + 1, 0, none⟩) n n) rfl
    have u10 := qq.cell 10 (v := .int .i64 0) rfl
    have u11 := qq.cell 11 (v := .int .i64 0) rfl
    have u12 := qq.cell 12 (v := .string { data := #[] }) rfl
    refine ⟨.tuple #[.agg #[.int .i64 2, .int .i64 0, .int .i64 0, .string { data := #[] }, .bool false, .int .i64 0, .int .i64 0, .bool false, .int .i64 0, .slice (some ⟨w.heap.size + 1 + 1, 0, none⟩) n n, .int .i64 0, .int .i64 0, .string { data := #[] }], .bool true], ?_, w.heap.size + 1 + 1, rfl, at_put r12 _ hK' rfl, by omega, b12.trans (belowK_b (w := w) (Nat.le_refl _) _ D _ _ (by omega) hK' rfl rfl)⟩
    simp [results, Try.f25, go_sem, u0, u1, u2, u3, u4, u5, u6, u7, u8, u9, u10, u11, u12]
  case stop =>
    rintro D c pre W _ _ h _
    exact h.elim
end Go.Proofs.Ythjlkiilkiggiaa
