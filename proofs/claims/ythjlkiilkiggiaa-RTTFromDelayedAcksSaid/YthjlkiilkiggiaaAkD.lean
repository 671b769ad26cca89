/- Contracts of package acks: place. -/
import Derived.Test.YthjlkiilkiggiaaAkC
import Derived.WalkMore
namespace Go.Proofs.Ythjlkiilkiggiaa
open Go Go.RowKit Go.Shelf
set_option linter.unusedVariables false
attribute [local go_sem] Oper.semAt_some

def AllLt (pn : Int) (L : List (Nat × Int × Int)) : Prop := ∀ p ∈ L, p.2.2 < pn
def LastGe (pn : Int) (L : List (Nat × Int × Int)) (z : Int) : Prop := ∃ ini last, L = ini ++ [last] ∧ AllLt pn ini ∧ pn ≤ last.2.2 ∧ z = (last.1 : Int)
theorem AllLt.upto {pn : Int} {F T : Nat → Int} {k : Nat} (h : AllLt pn (upto F T k)) (i : Nat) (hi : i < k) : T i < pn := h (i, F i, T i) (upto_mem.2 ⟨i, hi, rfl⟩)
theorem LastGe.upto {pn z : Int} {F T : Nat → Int} {k : Nat} (h : LastGe pn (upto F T k) z) : ∃ j, k = j + 1 ∧ z = (j : Int) ∧ pn ≤ T j ∧ ∀ i, i < j → T i < pn := by
  obtain ⟨ini, last, h1, h2, h3, h4⟩ := h
  cases k with
  | zero => simp [Go.Proofs.Ythjlkiilkiggiaa.upto] at h1
  | succ j =>
    rw [upto_succ] at h1
    obtain ⟨e1, e2⟩ := List.append_inj' h1 rfl
    obtain rfl : (j, F j, T j) = last := by simpa using e2
    subst e1
    exact ⟨j, rfl, h4, h3, h2.upto⟩

set_option maxRecDepth 100000 in
set_option maxHeartbeats 4000000 in
theorem place_in (b : Nat) (pn : Int) (F T : Nat → Int) (n : Nat) (d fl lg wh ct du : Int) (hn : n ≤ 17) (w : World) (hT : Trk w b F T n d fl lg wh ct du) :
    CallsIn Fence.wide 3 Try.prog 43 #[.pointer (some ⟨b, 0, none⟩), .int .i64 pn] w fun e W' => (∃ k : Nat, k ≤ n ∧ e = .returned (.int .i64 k) ∧ (∀ i, i < k → T i < pn) ∧ (k < n → pn ≤ T k)) ∧ Below w.heap.size w W' := by
  have hro : Fence.wide.round = none := rfl
  have h1 : 1 ≤ 3 := by omega
  have hbl := At.lt hT
  have hcn : (w.alloc (.cells #[.int .i64 pn] 3)).cell? ⟨b, 34, none⟩ = some (.int .i64 n) := Trk.gn (At.alloc hT _)
  refine callsIn_of_wp_marks Try.func43 rfl trivial ?_ hro
  simp only [Try.ntmps43, List.size_toArray, List.length_cons, List.length_nil, Nat.reduceAdd, Nat.reduceSub, Array.replicate_succ, Array.replicate_zero, List.push_toArray, List.append_toArray, List.nil_append, List.cons_append]
  gi_wp2_with fail
  refine wpIn_wide.2 ?_
  apply wp_scope_straight
  refine (wpIn_wide (n := 3)).1 ?_
  gi_wp2_with fail
  refine wpIn_label ?_
  gi_wp2_with fail
  refine ⟨trivial, ?_⟩
  refine (all_in Fence.wide 2 trivial hro _ _).mono ?_
  rintro e w' ⟨rfl, rfl⟩
  gi_wp2_with fail
  have bP := ((At.new w 3 #[.int .i64 pn]).alloc (.cells #[.int .i64 n] 3)).alloc (.cells #[.pointer (some ⟨b, 0, none⟩)] 80)
  have bR := (At.new (w.alloc (.cells #[.int .i64 pn] 3)) 3 #[.int .i64 n]).alloc (.cells #[.pointer (some ⟨b, 0, none⟩)] 80)
  have bV := At.new ((w.alloc (.cells #[.int .i64 pn] 3)).alloc (.cells #[.int .i64 n] 3)) 80 #[.pointer (some ⟨b, 0, none⟩)]
  simp only [World.size_alloc] at bR bV
  have hT0 : Trk (((w.alloc (.cells #[.int .i64 pn] 3)).alloc (.cells #[.int .i64 n] 3)).alloc (.cells #[.pointer (some ⟨b, 0, none⟩)] 80)) b F T n d fl lg wh ct du := ((At.alloc hT _).alloc _).alloc _
  have hB0 : Below w.heap.size w (((w.alloc (.cells #[.int .i64 pn] 3)).alloc (.cells #[.int .i64 n] 3)).alloc (.cells #[.pointer (some ⟨b, 0, none⟩)] 80)) := (((Below.refl _ w).alloc (Nat.le_refl _) _).alloc (by simp) _).alloc (by simp; omega) _
  have hsz : (((w.alloc (.cells #[.int .i64 pn] 3)).alloc (.cells #[.int .i64 n] 3)).alloc (.cells #[.pointer (some ⟨b, 0, none⟩)] 80)).heap.size = w.heap.size + 3 := by simp
  obtain ⟨W0, hW0⟩ : ∃ W0, ((w.alloc (.cells #[.int .i64 pn] 3)).alloc (.cells #[.int .i64 n] 3)).alloc (.cells #[.pointer (some ⟨b, 0, none⟩)] 80) = W0 := ⟨_, rfl⟩
  rw [hW0] at bP bR bV hB0 hsz hT0 ⊢
  clear hW0 hT hcn
  refine wpIn_rangeFunc_ownH hro h1 (gf := 44) (lb := #[.pointer (some ⟨w.heap.size + 1 + 1, 0, none⟩)]) rfl trivial (enters_of Try.func44 (by kernel_rfl) rfl)
    (all_stops Fence.wide 2 trivial hro (by omega) (w.heap.size + 1 + 1) b F T n d fl lg wh ct du hn W0 (by omega) (by omega) (bV.cell 0 rfl) hT0) (fun h k => Two.trans h k) (Two.put (by omega) (by omega)) (Below.refl _ _) (fun _ => rfl)
    (fun pre W => (AllLt pn pre ∧ At W w.heap.size 3 #[.int .i64 pn] ∧ At W (w.heap.size + 1) 3 #[.int .i64 n] ∧ At W (w.heap.size + 1 + 1) 80 #[.pointer (some ⟨b, 0, none⟩)]) ∧ Below w.heap.size w W)
    (fun c pre W => ∃ z : Int, (c = .exit 0 ∧ LastGe pn pre z ∧ At W (w.heap.size + 1) 3 #[.int .i64 z]) ∧ Below w.heap.size w W)
    (OwnFrom.and (OwnFrom.and (ownFrom_pure _ _) (OwnFrom.and (Own.from (at_own _ _ _) _) (OwnFrom.and (Own.from (at_own _ _ _) _) (Own.from (at_own _ _ _) _)))) (ownFrom_below (Nat.le_refl _) (by omega)))
    (fun c s X Y row hs hg hr => by
      obtain ⟨z, ⟨h1, h2, h3⟩, h4⟩ := hs
      exact ⟨z, ⟨h1, h2, at_own _ _ (fun (_ : Unit) => #[Value.int .i64 z]) () X Y row h3 hg (fun r e => (hr r e).2)⟩, ownFrom_below (β := Unit) (Nat.le_refl _) (by omega) () X Y row h4 hg hr⟩)
    ⟨⟨fun p hp => by simp at hp, bP, bR, bV⟩, hB0⟩
    (fun x a' W => ∃ Bx, w.heap.size + 1 < Bx ∧ At W Bx 40 #[.int .i64 x.2.1, .int .i64 x.2.2] ∧ a' = { tmps := #[.pointer (some ⟨b, 0, none⟩), .int .i64 pn, undef, .pointer (some ⟨w.heap.size, 0, none⟩), .int .i64 0, .pointer (some ⟨w.heap.size + 1, 0, none⟩), .int .i64 x.1, .pointer (some ⟨Bx, 0, none⟩), .pointer (some ⟨b, 0, none⟩), .pointer (some ⟨b, 0, none⟩), .pointer (some ⟨b, 34, none⟩), .int .i64 n, .pointer (some ⟨b, 0, none⟩), .func (.func 44) #[] #[.pointer (some ⟨w.heap.size + 1 + 1, 0, none⟩)], .int .i64 x.1, .agg #[.int .i64 x.2.1, .int .i64 x.2.2], undef, undef, undef, undef, undef, undef], defers := [] })
    (fun x a' _ X Y row hs hg hr => by obtain ⟨Bx, h1, h2, h3⟩ := hs; exact ⟨Bx, h1, at_own Bx 40 (fun (_ : Unit) => #[.int .i64 x.2.1, .int .i64 x.2.2]) () X Y row h2 hg (fun r e => (hr r e).2), h3⟩)
    ?assign ?body ?done ?stop
  case assign =>
    rintro l pre x W K ⟨⟨hp, bP1, bR1, bV1⟩, hB1⟩ hK
    have hs1 := bV1.lt
    simp only [spanOf]
    gi_wp2
    exact hK _ _ ((KeepsOthers.alloc _ _).from _) (Two.of_below ((Below.refl _ W).alloc (Nat.le_refl _) _) (by omega) (by omega)) ⟨⟨hp, bP1.alloc _, bR1.alloc _, bV1.alloc _⟩, hB1.alloc hB1.size _⟩ ⟨W.heap.size, by omega, At.new _ _ _, rfl⟩
  case body =>
    rintro l pre x a' W hl ⟨r, hr⟩ ⟨⟨hp, bP1, bR1, bV1⟩, hB1⟩ ⟨Bx, hBx, bX, rfl⟩ hlt
    have c1 := bP1.cell 0 rfl
    have c3 := bX.cell 1 rfl
    have c4 := bR1.cell 0 rfl
    have f1 := bR1.free 0
    have hne : x.2.2 < pn → AllLt pn (pre ++ [x]) := fun h p hp' => (List.mem_append.1 hp').elim (hp p) (fun e => by simp at e; subst e; exact h)
    have hye : pn ≤ x.2.2 → LastGe pn (pre ++ [x]) (x.1 : Int) := fun h => ⟨pre, x, rfl, hp, h, rfl⟩
    have HN := Lib.hid hne; clear hne
    have HY := Lib.hid hye; clear hye
    have HP := Lib.hid hp; clear hp
    by_cases t1 : pn ≤ x.2.2
    · have hyes := Lib.hid (HY.out t1)
      gi_wp2
      exact ⟨(KeepsOthers.setCell _ _ _).from _, _, ⟨rfl, hyes.out, bR1.set 0 _ rfl⟩, hB1.setCell (p := ⟨w.heap.size + 1, 0, none⟩) (by simp) _⟩
    · have hno := Lib.hid (HN.out (by omega))
      gi_wp2
      exact ⟨KeepsFrom.refl _ _, Two.refl _ _ _, ⟨hno.out, bP1, bR1, bV1⟩, hB1⟩
  case done =>
    rintro D zs W hD rfl ⟨⟨hp, bP1, bR1, bV1⟩, hB1⟩ hK
    have c1 := bR1.cell 0 rfl
    have HP := Lib.hid hp; clear hp
    gi_wp2
    refine ⟨by simp, .inl ⟨_, _, rfl, run_takeDeferred hK, ?_⟩⟩
    exact ⟨_, results_tmp rfl _ _ _, ⟨n, Nat.le_refl _, rfl, HP.out.upto, fun h => absurd h (by omega)⟩, hB1.trans (belowK_b (w := w) (Nat.le_refl _) W D _ _ (by omega) hK rfl rfl)⟩
  case stop =>
    rintro D c pre W hD ⟨k, hk, rfl⟩ ⟨z, ⟨rfl, hp, bR1⟩, hB1⟩ hK
    obtain ⟨j, rfl, rfl, hj1, hj2⟩ := hp.upto
    have HP := Lib.hid hp; clear hp
    have H1 := Lib.hid hj1; clear hj1
    have H2 := Lib.hid hj2; clear hj2
    have c1 := bR1.cell 0 rfl
    gi_wp2
    refine ⟨by simp, .inl ⟨_, _, rfl, run_takeDeferred hK, ?_⟩⟩
    exact ⟨_, results_tmp rfl _ _ _, ⟨j, by omega, rfl, H2.out, fun _ => H1.out⟩, hB1.trans (belowK_b (w := w) (Nat.le_refl _) W D _ _ (by omega) hK rfl rfl)⟩
end Go.Proofs.Ythjlkiilkiggiaa
