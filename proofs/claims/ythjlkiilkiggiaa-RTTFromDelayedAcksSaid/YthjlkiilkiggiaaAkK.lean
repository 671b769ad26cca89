/- Contracts of package acks: Ranges. -/
import Derived.Test.YthjlkiilkiggiaaAkD
import Derived.Maps.AppendAt
namespace Go.Proofs.Ythjlkiilkiggiaa
open Go Go.RowKit Go.Shelf
set_option linter.unusedVariables false
set_option linter.unusedSimpArgs false
attribute [local go_sem] Oper.semAt_some

def rowOf (pre : List (Nat × Int × Int)) : List Value := pre.flatMap fun x => [Value.int .i64 x.2.1, Value.int .i64 x.2.2]
theorem rowOf_snoc (pre : List (Nat × Int × Int)) (x : Nat × Int × Int) : rowOf (pre ++ [x]) = rowOf pre ++ [Value.int .i64 x.2.1, Value.int .i64 x.2.2] := by simp [rowOf]
theorem A_spanInfo3 : (Try.prog.info? 40).map (fun i => (i.zero, i.size, i.bytes)) = some (some (.agg #[.int .i64 0, .int .i64 0]), 2, 16) := by kernel_rfl
theorem cell_two_new (w : World) (x y : Value) (t : TypeId) : ∀ j u, [x, y][j]? = some u → (w.alloc (.cells #[x, y] t)).cell? ((⟨w.heap.size, 0, none⟩ : Addr).add j) = some u := by
  intro j u hj
  match j, hj with
  | 0, hj => simp at hj; subst hj; simp [Addr.add]
  | 1, hj => simp at hj; subst hj; simp [Addr.add]
theorem upto_row_len (pre : List (Nat × Int × Int)) : (rowOf pre).length = pre.length * 2 := by
  induction pre with
  | nil => rfl
  | cons x r ih => simp only [rowOf, List.flatMap_cons, List.length_append, List.length_cons, List.length_nil] at ih ⊢; omega
theorem at_not_row {W : World} {B : Nat} {t e : TypeId} {cs : Array Value} (h : At W B t cs) (hte : t ≠ e) {base size k : Nat} {v : Value} {xs : List Value} (hr : W.ownsRow base e size v k xs) : some B ≠ v.ownBlock := by
  rcases hr.2 with ⟨rfl, _⟩ | ⟨g, cap, cur, rfl, _, hgb, _⟩
  · simp [Value.ownBlock]
  · intro e'
    obtain rfl : B = g := by simpa [Value.ownBlock] using e'
    have := (show W.heap[B]? = _ from h).symm.trans hgb
    simp at this
    exact hte this.2
theorem at_appended {W w1 : World} {B C : Nat} {t e : TypeId} {cs : Array Value} (h : At W B t cs) (hte : t ≠ e) {base size k : Nat} {v : Value} {xs : List Value} (hr : W.ownsRow base e size v k xs) {tmp : Obj} (hg : (W.alloc tmp).grownBy w1 v.ownBlock) (hC : B ≠ C) (u : Value) : At (w1.setCell ⟨C, 0, none⟩ u) B t cs := by
  have h1 := h.alloc tmp
  have h2 : At w1 B t cs := (hg.block B h1.lt (at_not_row h hte hr)).trans h1
  exact h2.far hC u
def NilIff (v : Value) (k : Nat) : Prop := v = .slice none 0 0 ↔ k = 0
set_option maxRecDepth 100000 in
set_option maxHeartbeats 4000000 in
theorem ranges_in (b : Nat) (F T : Nat → Int) (n : Nat) (d fl lg wh ct du : Int) (hn : n ≤ 17) (w : World) (hT : Trk w b F T n d fl lg wh ct du) :
    CallsIn Fence.wide 3 Try.prog 17 #[.pointer (some ⟨b, 0, none⟩)] w fun e W' => ∃ v, e = .returned v ∧ W'.ownsRow w.heap.size 40 2 v n (rowOf (upto F T n)) ∧ (v = .slice none 0 0 ↔ n = 0) ∧ Below w.heap.size w W' := by
  have hro : Fence.wide.round = none := rfl
  have h1 : 1 ≤ 3 := by omega
  have hbl := At.lt hT
  obtain ⟨i0, hi, hz0, hz1, hz2⟩ := info_parts A_spanInfo3
  refine callsIn_of_wp_marks Try.func17 rfl trivial ?_ hro
  simp only [Try.ntmps17, List.size_toArray, List.length_cons, List.length_nil, Nat.reduceAdd, Nat.reduceSub, Array.replicate_succ, Array.replicate_zero, List.push_toArray, List.append_toArray, List.nil_append, List.cons_append]
  gi_wp2_with fail
  refine ⟨trivial, ?_⟩
  refine (all_in Fence.wide 2 trivial hro _ _).mono ?_
  rintro e w' ⟨rfl, rfl⟩
  gi_wp2_with fail
  have bO := Boxed.new w 37 (.slice none 0 0)
  have bV := At.new (w.alloc (.cells #[.slice none 0 0] 37)) 80 #[.pointer (some ⟨b, 0, none⟩)]
  have bO' := bO.alloc (.cells #[.pointer (some ⟨b, 0, none⟩)] 80)
  have hT0 : Trk ((w.alloc (.cells #[.slice none 0 0] 37)).alloc (.cells #[.pointer (some ⟨b, 0, none⟩)] 80)) b F T n d fl lg wh ct du := (At.alloc hT _).alloc _
  have hB0 : Below w.heap.size w ((w.alloc (.cells #[.slice none 0 0] 37)).alloc (.cells #[.pointer (some ⟨b, 0, none⟩)] 80)) := ((Below.refl _ w).alloc (Nat.le_refl _) _).alloc (by simp) _
  have hsz : ((w.alloc (.cells #[.slice none 0 0] 37)).alloc (.cells #[.pointer (some ⟨b, 0, none⟩)] 80)).heap.size = w.heap.size + 2 := by simp
  simp only [World.size_alloc] at bV
  obtain ⟨W0, hW0⟩ : ∃ W0, (w.alloc (.cells #[.slice none 0 0] 37)).alloc (.cells #[.pointer (some ⟨b, 0, none⟩)] 80) = W0 := ⟨_, rfl⟩
  rw [hW0] at bO' bV hB0 hsz hT0 ⊢
  clear hW0 hT bO
  refine wpIn_rangeFunc_ownH hro h1 (gf := 44) (lb := #[.pointer (some ⟨w.heap.size + 1, 0, none⟩)]) rfl trivial (enters_of Try.func44 (by kernel_rfl) rfl)
    (all_stops Fence.wide 2 trivial hro (by omega) (w.heap.size + 1) b F T n d fl lg wh ct du hn W0 (by omega) (by omega) (bV.cell 0 rfl) hT0) (fun h k => Two.trans h k) (Two.put (by omega) (by omega)) (Below.refl _ _) (fun _ => rfl)
    (fun pre W => ((∃ v, Boxed W w.heap.size 37 v ∧ W.ownsRow w.heap.size 40 2 v pre.length (rowOf pre) ∧ NilIff v pre.length) ∧ At W (w.heap.size + 1) 80 #[.pointer (some ⟨b, 0, none⟩)]) ∧ Below w.heap.size w W)
    (fun _ _ _ => False)
    (OwnFrom.and (OwnFrom.and (Own.from (holdsRow_own w.heap.size w.heap.size 37 40 2 (fun pre => pre.length) (fun pre => rowOf pre) (fun pre v => NilIff v pre.length)) _) (Own.from (at_own _ _ _) _)) (ownFrom_below (Nat.le_refl _) (by omega)))
    (fun _ _ _ _ _ hs _ _ => hs)
    ⟨⟨⟨_, bO', World.ownsRow_nil _ _ _ _, by simp [NilIff]⟩, bV⟩, hB0⟩
    (fun x a' W => ∃ Bx, w.heap.size + 1 < Bx ∧ At W Bx 40 #[.int .i64 x.2.1, .int .i64 x.2.2] ∧ a' = { tmps := #[.pointer (some ⟨b, 0, none⟩), undef, .pointer (some ⟨w.heap.size, 0, none⟩), undef, .pointer (some ⟨Bx, 0, none⟩), .pointer (some ⟨b, 0, none⟩), .bool false, .pointer (some ⟨b, 0, none⟩), .pointer (some ⟨b, 0, none⟩), .pointer (some ⟨b, 0, none⟩), .func (.func 44) #[] #[.pointer (some ⟨w.heap.size + 1, 0, none⟩)], .int .i64 x.1, .agg #[.int .i64 x.2.1, .int .i64 x.2.2], undef, undef, undef, undef, undef], defers := [] })
    (fun x a' _ X Y row hs hg hr => by obtain ⟨Bx, h1, h2, h3⟩ := hs; exact ⟨Bx, h1, at_own Bx 40 (fun (_ : Unit) => #[.int .i64 x.2.1, .int .i64 x.2.2]) () X Y row h2 hg (fun r e => (hr r e).2), h3⟩)
    ?assign ?body ?done ?stop
  case assign =>
    rintro l pre x W K ⟨⟨⟨v, hv, hrow, hnil⟩, bV1⟩, hB1⟩ hK
    have hs1 := bV1.lt
    simp only [spanOf]
    gi_wp2
    exact hK _ _ ((KeepsOthers.alloc _ _).from _) (Two.of_below ((Below.refl _ W).alloc (Nat.le_refl _) _) (by omega) (by omega)) ⟨⟨⟨v, hv.alloc _, hrow.alloc _, hnil⟩, bV1.alloc _⟩, hB1.alloc hB1.size _⟩ ⟨W.heap.size, by omega, At.new _ _ _, rfl⟩
  case body =>
    rintro l pre x a' W hl ⟨r, hr⟩ ⟨⟨⟨v, hv, hrow, hnil⟩, bV1⟩, hB1⟩ ⟨Bx, hBx, bX, rfl⟩ hlt
    have hc := hv.cell
    have c2 := bX.cell 0 rfl
    have c3 := bX.cell 1 rfl
    have hbx := bX.lt
    have HX := Lib.hid bX; clear bX
    have HV := Lib.hid bV1; clear bV1
    have HN := Lib.hid hnil; clear hnil
    gi_wp2_with (gi_at_builtin; refine wpListIn_append_own _ rfl _ _ 37 rfl w.heap.size 40 i0 (.agg #[.int .i64 0, .int .i64 0]) 2 16 Try.underlying37 hi hz0 hz1 hz2 rfl (by decide) _ _ _ rfl (hrow.alloc _) ⟨W.heap.size, 0, none⟩ 1 1 [.int .i64 x.2.1, .int .i64 x.2.2] rfl rfl (cell_two_new _ _ _ _) (by simp [Value.oneCell']) (by unfold maxLen; omega) (by omega) (by simp; omega) ?_; intro v' w1 hown' hgrow _; obtain ⟨g', cap', rfl⟩ := ownsRow_succ hown'; obtain ⟨hv1, hv2, hr2, hk2, hb2⟩ := hv.appended (by decide) hrow (by omega) (Nat.le_refl _) hown' hgrow; have hc1 := hv1.cell; have hf1 := hv1.frozen)
    have bX' := at_appended (C := w.heap.size) HV.out (by decide) hrow hgrow (by omega) (.slice (some ⟨g', 0, none⟩) (pre.length + 1) cap')
    exact ⟨hk2.from _, ⟨hb2.block b hbl, (show _ = _ from bX').trans (show _ = _ from HV.out).symm⟩, ⟨⟨_, hv2, by rw [rowOf_snoc]; simpa using hr2, by simp [NilIff]⟩, bX'⟩, hB1.trans hb2⟩
  case done =>
    rintro D zs W hD rfl ⟨⟨⟨v, hv, hrow, hnil⟩, bV1⟩, hB1⟩ hK
    obtain ⟨sa, sl, sc, rfl⟩ : ∃ a l c, v = .slice a l c := by
      rcases hrow.2 with ⟨rfl, _⟩ | ⟨g, cap, cur, rfl, _⟩ <;> exact ⟨_, _, _, rfl⟩
    have hc := hv.cell
    have hf := hv.frozen
    have HN := Lib.hid hnil; clear hnil
    gi_wp2
    have hK' := (KeepsOthers.setCell W ⟨w.heap.size, 0, none⟩ (.slice sa sl sc)).same D _ hK rfl
    refine ⟨by simp, .inl ⟨_, _, rfl, run_takeDeferred hK', ?_⟩⟩
    have hv2 := hv.set (.slice sa sl sc)
    have hr2 := hrow.kept (grownBy_setCell' W w.heap.size (.slice sa sl sc)) (.inr (hv.not_row (by decide) hrow).symm)
    have hc5 := (at_put (B := w.heap.size) (cs := #[.slice sa sl sc]) hv2 (.deferred none) hK' rfl).cell 0 rfl
    rw [upto_length] at hr2
    refine ⟨.slice sa sl sc, ?_, _, rfl, ownsRow_putObj hr2 _ hK' rfl, by have := HN.out; rwa [upto_length] at this, (hB1.setCell (p := ⟨w.heap.size, 0, none⟩) (by simp) _).trans (belowK_b (w := w) (Nat.le_refl _) _ D _ _ (by omega) hK' rfl rfl)⟩
    simp [results, Try.f17, go_sem, hc5]
  case stop =>
    rintro D c pre W _ _ h _
    exact h.elim
end Go.Proofs.Ythjlkiilkiggiaa
