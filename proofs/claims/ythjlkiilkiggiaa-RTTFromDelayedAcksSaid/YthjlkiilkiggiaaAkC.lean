/- Contracts of package acks: has, place. -/
import Derived.Test.YthjlkiilkiggiaaAkB
namespace Go.Proofs.Ythjlkiilkiggiaa
open Go Go.RowKit Go.Shelf
set_option linter.unusedVariables false
attribute [local go_sem] Oper.semAt_some

theorem at_own {β : Type} (B : Nat) (t : TypeId) (f : β → Array Value) : Own (fun s W => At W B t (f s)) := by
  intro s X Y row hA hg hrow
  refine (hg.block B hA.lt (fun e => ?_)).trans hA
  obtain ⟨o, ho, hc⟩ := hrow B e.symm
  rw [show X.heap[B]? = _ from hA] at ho
  cases ho; cases hc
theorem upto_mem {F T : Nat → Int} {k : Nat} {p : Nat × Int × Int} : p ∈ upto F T k ↔ ∃ i, i < k ∧ p = (i, F i, T i) := by
  simp only [upto, List.mem_map, List.mem_range]
  constructor
  · rintro ⟨i, h1, h2⟩; exact ⟨i, h1, h2.symm⟩
  · rintro ⟨i, h1, h2⟩; exact ⟨i, h1, h2.symm⟩
theorem at_put {W : World} {B : Nat} {t : TypeId} {cs : Array Value} (h : At W B t cs) {l : Nat} {o : Obj} (o' : Obj) (hl : W.heap[l]? = some o) (ho : o.isCells = false) : At (W.putObj l o') B t cs :=
  at_own B t (fun (_ : Unit) => cs) () W _ _ h (grownBy_putObj' W l o') (fun r e => by cases e; exact ⟨_, hl, ho⟩)

def NoneIn (pn : Int) (L : List (Nat × Int × Int)) : Prop := ∀ p ∈ L, ¬ (p.2.1 ≤ pn ∧ pn < p.2.2)
def SomeIn (pn : Int) (L : List (Nat × Int × Int)) : Prop := ∃ p ∈ L, p.2.1 ≤ pn ∧ pn < p.2.2

set_option maxRecDepth 100000 in
set_option maxHeartbeats 4000000 in
theorem has_in (F0 : Fence) (m : Nat) (h1f : F0.fn 30) (h2f : F0.fn 34) (h3f : F0.fn 44) (hro : F0.round = none) (hm : 3 ≤ m) (b : Nat) (pn : Int) (F T : Nat → Int) (n : Nat) (d fl lg wh ct du : Int) (hn : n ≤ 17) (w : World) (hT : Trk w b F T n d fl lg wh ct du) :
    CallsIn F0 m Try.prog 30 #[.pointer (some ⟨b, 0, none⟩), .int .i64 pn] w fun e W' => ((e = .returned (.bool false) ∧ ∀ i, i < n → ¬ (F i ≤ pn ∧ pn < T i)) ∨ (e = .returned (.bool true) ∧ ∃ i, i < n ∧ F i ≤ pn ∧ pn < T i)) ∧ Below w.heap.size w W' := by
  have h1 : 1 ≤ m := by omega
  have hbl := At.lt hT
  refine callsIn_of_wp_marks Try.func30 rfl h1f ?_ hro
  simp only [Try.ntmps30, List.size_toArray, List.length_cons, List.length_nil, Nat.reduceAdd, Nat.reduceSub, Array.replicate_succ, Array.replicate_zero, List.push_toArray, List.append_toArray, List.nil_append, List.cons_append]
  gi_wp2_with (gi_at_call 34; refine (all_in F0 (m - 1) h2f hro _ _).mono ?_; rintro e w' ⟨rfl, rfl⟩)
  have bP := ((At.new w 3 #[.int .i64 pn]).alloc (.cells #[.bool false] 4)).alloc (.cells #[.pointer (some ⟨b, 0, none⟩)] 80)
  have bR := (At.new (w.alloc (.cells #[.int .i64 pn] 3)) 4 #[.bool false]).alloc (.cells #[.pointer (some ⟨b, 0, none⟩)] 80)
  have bV := At.new ((w.alloc (.cells #[.int .i64 pn] 3)).alloc (.cells #[.bool false] 4)) 80 #[.pointer (some ⟨b, 0, none⟩)]
  simp only [World.size_alloc] at bR bV
  have hT0 : Trk (((w.alloc (.cells #[.int .i64 pn] 3)).alloc (.cells #[.bool false] 4)).alloc (.cells #[.pointer (some ⟨b, 0, none⟩)] 80)) b F T n d fl lg wh ct du := ((At.alloc hT _).alloc _).alloc _
  have hB0 : Below w.heap.size w (((w.alloc (.cells #[.int .i64 pn] 3)).alloc (.cells #[.bool false] 4)).alloc (.cells #[.pointer (some ⟨b, 0, none⟩)] 80)) := (((Below.refl _ w).alloc (Nat.le_refl _) _).alloc (by simp) _).alloc (by simp; omega) _
  have hsz : (((w.alloc (.cells #[.int .i64 pn] 3)).alloc (.cells #[.bool false] 4)).alloc (.cells #[.pointer (some ⟨b, 0, none⟩)] 80)).heap.size = w.heap.size + 3 := by simp
  obtain ⟨W0, hW0⟩ : ∃ W0, ((w.alloc (.cells #[.int .i64 pn] 3)).alloc (.cells #[.bool false] 4)).alloc (.cells #[.pointer (some ⟨b, 0, none⟩)] 80) = W0 := ⟨_, rfl⟩
  rw [hW0] at bP bR bV hB0 hsz hT0 ⊢
  clear hW0 hT
  refine wpIn_rangeFunc_ownH hro h1 (gf := 44) (lb := #[.pointer (some ⟨w.heap.size + 1 + 1, 0, none⟩)]) rfl h3f (enters_of Try.func44 (by kernel_rfl) rfl)
    (all_stops F0 (m - 1) h3f hro (by omega) (w.heap.size + 1 + 1) b F T n d fl lg wh ct du hn W0 (by omega) (by omega) (bV.cell 0 rfl) hT0) (fun h k => Two.trans h k) (Two.put (by omega) (by omega)) (Below.refl _ _) (fun _ => rfl)
    (fun pre W => (NoneIn pn pre ∧ At W w.heap.size 3 #[.int .i64 pn] ∧ At W (w.heap.size + 1) 4 #[.bool false] ∧ At W (w.heap.size + 1 + 1) 80 #[.pointer (some ⟨b, 0, none⟩)]) ∧ Below w.heap.size w W)
    (fun c pre W => (c = .ret ∧ SomeIn pn pre ∧ At W (w.heap.size + 1) 4 #[.bool true]) ∧ Below w.heap.size w W)
    (OwnFrom.and (OwnFrom.and (ownFrom_pure _ _) (OwnFrom.and (Own.from (at_own _ _ _) _) (OwnFrom.and (Own.from (at_own _ _ _) _) (Own.from (at_own _ _ _) _)))) (ownFrom_below (Nat.le_refl _) (by omega)))
    (fun c => OwnFrom.and (OwnFrom.and (ownFrom_pure _ _) (OwnFrom.and (ownFrom_pure _ _) (Own.from (at_own _ _ _) _))) (ownFrom_below (Nat.le_refl _) (by omega)))
    ⟨⟨fun p hp => by simp at hp, bP, bR, bV⟩, hB0⟩
    (fun x a' W => ∃ Bx, w.heap.size + 1 < Bx ∧ At W Bx 40 #[.int .i64 x.2.1, .int .i64 x.2.2] ∧ a' = { tmps := #[.pointer (some ⟨b, 0, none⟩), .int .i64 pn, undef, .pointer (some ⟨w.heap.size, 0, none⟩), .pointer (some ⟨w.heap.size + 1, 0, none⟩), undef, .pointer (some ⟨Bx, 0, none⟩), .pointer (some ⟨b, 0, none⟩), .func (.func 44) #[] #[.pointer (some ⟨w.heap.size + 1 + 1, 0, none⟩)], .int .i64 x.1, .agg #[.int .i64 x.2.1, .int .i64 x.2.2], undef, undef, undef, undef, undef, undef, undef, undef, undef, undef], defers := [] })
    (fun x a' _ X Y row hs hg hr => by obtain ⟨Bx, h1, h2, h3⟩ := hs; exact ⟨Bx, h1, at_own Bx 40 (fun (_ : Unit) => #[.int .i64 x.2.1, .int .i64 x.2.2]) () X Y row h2 hg (fun r e => (hr r e).2), h3⟩)
    ?assign ?body ?done ?stop
  case assign =>
    rintro l pre x W K ⟨⟨hp, bP1, bR1, bV1⟩, hB1⟩ hK
    have hs1 := bV1.lt
    simp only [spanOf]
    gi_wp2
    exact hK _ _ ((KeepsOthers.alloc _ _).from _) (Two.of_below ((Below.refl _ W).alloc (Nat.le_refl _) _) (by omega) (by omega)) ⟨⟨hp, bP1.alloc _, bR1.alloc _, bV1.alloc _⟩, hB1.alloc hB1.size _⟩ ⟨W.heap.size, by omega, At.new _ _ _, rfl⟩
  case body =>
    rintro l pre x a' W hl ⟨r, hr⟩ ⟨⟨hp, bP1, bR1, bV1⟩, hB1⟩ ⟨Bx, hBx, bX, rfl⟩ hlt
    have c1 := bP1.cell 0 rfl
    have c2 := bX.cell 0 rfl
    have c3 := bX.cell 1 rfl
    have c4 := bR1.cell 0 rfl
    have f1 := bR1.free 0
    have hne : ¬ (x.2.1 ≤ pn ∧ pn < x.2.2) → NoneIn pn (pre ++ [x]) := fun h p hp' => (List.mem_append.1 hp').elim (hp p) (fun e => by simp at e; subst e; exact h)
    have HN := Lib.hid hne; clear hne
    have HP := Lib.hid hp; clear hp
    have HPs := Lib.hid (show x ∈ pre ++ [x] by simp)
    by_cases t1 : x.2.1 ≤ pn
    · by_cases t2 : pn < x.2.2
      · have hyes := Lib.hid (And.intro t1 t2)
        gi_wp2
        exact ⟨(KeepsOthers.setCell _ _ _).from _, ⟨rfl, ⟨x, HPs.out, hyes.out⟩, bR1.set 0 _ rfl⟩, hB1.setCell (p := ⟨w.heap.size + 1, 0, none⟩) (by simp) _⟩
      · have hno := Lib.hid (show ¬ (x.2.1 ≤ pn ∧ pn < x.2.2) from fun h => t2 h.2)
        gi_wp2
        exact ⟨KeepsFrom.refl _ _, Two.refl _ _ _, ⟨HN.out hno.out, bP1, bR1, bV1⟩, hB1⟩
    · have hno := Lib.hid (show ¬ (x.2.1 ≤ pn ∧ pn < x.2.2) from fun h => t1 h.1)
      gi_wp2
      exact ⟨KeepsFrom.refl _ _, Two.refl _ _ _, ⟨HN.out hno.out, bP1, bR1, bV1⟩, hB1⟩
  case done =>
    rintro D zs W hD rfl ⟨⟨hp, bP1, bR1, bV1⟩, hB1⟩ hK
    have c1 := bR1.cell 0 rfl
    have f1 := bR1.free 0
    have HP := Lib.hid hp; clear hp
    gi_wp2
    have hK' := (KeepsOthers.setCell W ⟨w.heap.size + 1, 0, none⟩ (.bool false)).same D _ hK rfl
    refine ⟨by simp, .inl ⟨_, _, rfl, run_takeDeferred hK', ?_⟩⟩
    have hc5 := (at_put (bR1.set 0 (.bool false) rfl) (.deferred none) hK' rfl).cell 0 rfl
    refine ⟨.bool false, ?_, .inl ⟨rfl, fun i hi => HP.out (i, F i, T i) (upto_mem.2 ⟨i, hi, rfl⟩)⟩, (hB1.setCell (p := ⟨w.heap.size + 1, 0, none⟩) (by simp) _).trans (belowK_b (w := w) (Nat.le_refl _) _ D _ _ (by omega) hK' rfl rfl)⟩
    simp [results, Try.f30, go_sem, hc5]
  case stop =>
    rintro D c pre W hD ⟨k, hk, rfl⟩ ⟨⟨rfl, hp, bR1⟩, hB1⟩ hK
    have HP := Lib.hid hp; clear hp
    gi_wp2
    refine ⟨by simp, .inl ⟨_, _, rfl, run_takeDeferred hK, ?_⟩⟩
    have hc5 := (at_put bR1 (.deferred none) hK rfl).cell 0 rfl
    obtain ⟨p, hpm, hpi⟩ := HP.out
    obtain ⟨i, hi, rfl⟩ := upto_mem.1 hpm
    refine ⟨.bool true, ?_, .inr ⟨rfl, i, by omega, hpi⟩, hB1.trans (belowK_b (w := w) (Nat.le_refl _) _ D _ _ (by omega) hK rfl rfl)⟩
    simp [results, Try.f30, go_sem, hc5]
end Go.Proofs.Ythjlkiilkiggiaa
