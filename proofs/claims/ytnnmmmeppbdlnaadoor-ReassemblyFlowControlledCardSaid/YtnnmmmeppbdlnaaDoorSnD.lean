/- Contracts of package reassembly: agrees (the bytes held agree with the piece). -/
import Derived.Test.YtnnmmmeppbdlnaaDoorSnK
import Derived.Laws.Strings
namespace Go.Proofs.YtnnmmmeppbdlnaaDoor
open Go Go.RowKit Go.Shelf
set_option linter.unusedVariables false
set_option linter.unusedSectionVars false
set_option linter.unusedSimpArgs false
attribute [local go_sem] Oper.semAt_some
attribute [local irreducible] wpStill

theorem at_own {β : Type} (B : Nat) (t : TypeId) (f : β → Array Value) : Own (fun s W => At W B t (f s)) := by
  intro s X Y row hA hg hrow
  refine (hg.block B hA.lt (fun e => ?_)).trans hA
  obtain ⟨o, ho, hc⟩ := hrow B e.symm
  rw [show X.heap[B]? = _ from hA] at ho
  cases ho; cases hc
theorem at_put {W : World} {B : Nat} {t : TypeId} {cs : Array Value} (h : At W B t cs) {l : Nat} {o : Obj} (o' : Obj) (hl : W.heap[l]? = some o) (ho : o.isCells = false) : At (W.putObj l o') B t cs :=
  at_own B t (fun (_ : Unit) => cs) () W _ _ h (grownBy_putObj' W l o') (fun r e => by cases e; exact ⟨_, hl, ho⟩)
theorem buf_own (b g1 g2 : Nat) : Own (fun (x : Bf) W => BufAt W b g1 g2 x) := by
  intro x X Y row h hg hrow
  obtain ⟨a1, ⟨c1, r1, r2, r3⟩, ⟨c2, s1, s2, s3⟩, d1, d2, d3, n1, n0, p0, p1, h0, h1⟩ := h
  exact ⟨at_own b _ (fun (_ : Unit) => bufCells g1 g2 x) () X Y row a1 hg hrow, ⟨c1, at_own g1 _ (fun (_ : Unit) => c1) () X Y row r1 hg hrow, r2, r3⟩, ⟨c2, at_own g2 _ (fun (_ : Unit) => c2) () X Y row s1 hg hrow, s2, s3⟩, d1, d2, d3, n1, n0, p0, p1, h0, h1⟩
/-- The byte i of a string. -/
def sb (s : ByteArray) (i : Nat) : UInt8 := s.data.toList.getD i 0
theorem sb_get (s : ByteArray) (i : Nat) (h : i < s.size) : s[i]'h = sb s i := by
  unfold sb
  have h' : i < s.data.toList.length := by simpa using h
  rw [List.getD_eq_getElem?_getD, List.getElem?_eq_getElem h']
  simp
  rfl
def NoC (x : Bf) (off : Int) (s : ByteArray) {n : Nat} (pre : List (Fin n)) : Prop := ∀ i ∈ pre, x.H (ov1 x.pos off + i.1) = true → x.B (ov1 x.pos off + i.1) = sb s (ov0 x.pos off + i.1)
def HasC (x : Bf) (off : Int) (s : ByteArray) {n : Nat} (pre : List (Fin n)) : Prop := ∃ i ∈ pre, x.H (ov1 x.pos off + i.1) = true ∧ x.B (ov1 x.pos off + i.1) ≠ sb s (ov0 x.pos off + i.1)
theorem agr_of_noc (x : Bf) (off : Int) (s : ByteArray) (h : NoC x off s (List.finRange (ovN x.n s.size x.pos off))) : x.agrB off s.data.toList = true := by
  rw [Bf.agrB_iff]
  intro i k hi he hk hH
  have hl : s.data.toList.length = s.size := by simp
  rw [hl] at hi
  have e := ov_eq x.pos off
  have hj : i - ov0 x.pos off < ovN x.n s.size x.pos off := by unfold ovN ov0 ov1 at *; omega
  have h2 := h ⟨_, hj⟩ (List.mem_finRange _)
  have e1 : ov1 x.pos off + (i - ov0 x.pos off) = k := by unfold ov0 ov1 at *; omega
  have e0 : ov0 x.pos off + (i - ov0 x.pos off) = i := by unfold ov0 ov1 at *; omega
  simp only [e1, e0] at h2
  exact h2 hH
theorem agr_of_hasc (x : Bf) (off : Int) (s : ByteArray) (pre : List (Fin (ovN x.n s.size x.pos off))) (h : HasC x off s pre) : x.agrB off s.data.toList = false := by
  cases hb : x.agrB off s.data.toList with
  | false => rfl
  | true =>
    obtain ⟨i, hi, h1, h2⟩ := h
    have hl : s.data.toList.length = s.size := by simp
    obtain ⟨l1, l2⟩ := ov_lt i.2
    exact absurd ((x.agrB_iff off _).1 hb _ _ (by rw [hl]; exact l1) (by have := ov_eq x.pos off; omega) l2 h1) h2

set_option maxRecDepth 100000 in
set_option maxHeartbeats 4000000 in
theorem agrees_in (m : Nat) (hm : 3 ≤ m) (b g1 g2 : Nat) (x : Bf) (off : Int) (s : ByteArray) (f : Bool) (hs : s.size ≤ 8192) (q0 : 0 ≤ off) (q1 : off ≤ 1099511627776) (w : World) (hA : BufAt w b g1 g2 x) :
    CallsIn Fence.wide m Tryd.prog 46 #[.pointer (some ⟨b, 0, none⟩), .agg #[.int .i64 off, .string s, .bool f]] w fun e W' => e = .returned (.bool (x.agrB off s.data.toList)) ∧ Below w.heap.size w W' := by
  have h1 : 1 ≤ m := by omega
  have hbl := hA.lt
  refine callsIn_of_wp_marks Tryd.func46 rfl trivial ?_ rfl
  simp only [Tryd.ntmps46, List.size_toArray, List.length_cons, List.length_nil, Nat.reduceAdd, Nat.reduceSub, Array.replicate_succ, Array.replicate_zero, List.push_toArray, List.append_toArray, List.nil_append, List.cons_append]
  gi_wp2
  refine ⟨trivial, (overlap_in (m - 1) b off s f _).mono ?_⟩
  rintro e w' ⟨rfl, rfl⟩
  gi_wp2
  have bP := (((At.new (w.alloc (.cells #[.pointer (some ⟨b, 0, none⟩)] 81)) 74 #[.int .i64 off, .string s, .bool f]).alloc (.cells #[.bool false] 4)).alloc (.cells #[.pointer (some ⟨b, 0, none⟩)] 81)).alloc (.cells #[.int .i64 off, .string s, .bool f] 74)
  have bW := ((((At.new w 81 #[.pointer (some ⟨b, 0, none⟩)]).alloc (.cells #[.int .i64 off, .string s, .bool f] 74)).alloc (.cells #[.bool false] 4)).alloc (.cells #[.pointer (some ⟨b, 0, none⟩)] 81)).alloc (.cells #[.int .i64 off, .string s, .bool f] 74)
  have bR := ((At.new ((w.alloc (.cells #[.pointer (some ⟨b, 0, none⟩)] 81)).alloc (.cells #[.int .i64 off, .string s, .bool f] 74)) 4 #[.bool false]).alloc (.cells #[.pointer (some ⟨b, 0, none⟩)] 81)).alloc (.cells #[.int .i64 off, .string s, .bool f] 74)
  have bW2 := (At.new (((w.alloc (.cells #[.pointer (some ⟨b, 0, none⟩)] 81)).alloc (.cells #[.int .i64 off, .string s, .bool f] 74)).alloc (.cells #[.bool false] 4)) 81 #[.pointer (some ⟨b, 0, none⟩)]).alloc (.cells #[.int .i64 off, .string s, .bool f] 74)
  have bP2 := At.new ((((w.alloc (.cells #[.pointer (some ⟨b, 0, none⟩)] 81)).alloc (.cells #[.int .i64 off, .string s, .bool f] 74)).alloc (.cells #[.bool false] 4)).alloc (.cells #[.pointer (some ⟨b, 0, none⟩)] 81)) 74 #[.int .i64 off, .string s, .bool f]
  have hA0 := ((((hA.alloc (.cells #[.pointer (some ⟨b, 0, none⟩)] 81)).alloc (.cells #[.int .i64 off, .string s, .bool f] 74)).alloc (.cells #[.bool false] 4)).alloc (.cells #[.pointer (some ⟨b, 0, none⟩)] 81)).alloc (.cells #[.int .i64 off, .string s, .bool f] 74)
  have hB0 : Below w.heap.size w _ := (((((Below.refl _ w).alloc (Nat.le_refl _) (.cells #[.pointer (some ⟨b, 0, none⟩)] 81)).alloc (by simp) (.cells #[.int .i64 off, .string s, .bool f] 74)).alloc (by simp; omega) (.cells #[.bool false] 4)).alloc (by simp; omega) (.cells #[.pointer (some ⟨b, 0, none⟩)] 81)).alloc (by simp; omega) (.cells #[.int .i64 off, .string s, .bool f] 74)
  simp only [World.size_alloc] at bP bW bR bW2 bP2
  have hsz : (((((w.alloc (.cells #[.pointer (some ⟨b, 0, none⟩)] 81)).alloc (.cells #[.int .i64 off, .string s, .bool f] 74)).alloc (.cells #[.bool false] 4)).alloc (.cells #[.pointer (some ⟨b, 0, none⟩)] 81)).alloc (.cells #[.int .i64 off, .string s, .bool f] 74)).heap.size = w.heap.size + 5 := by simp
  obtain ⟨W0, hW0⟩ : ∃ W0, ((((w.alloc (.cells #[.pointer (some ⟨b, 0, none⟩)] 81)).alloc (.cells #[.int .i64 off, .string s, .bool f] 74)).alloc (.cells #[.bool false] 4)).alloc (.cells #[.pointer (some ⟨b, 0, none⟩)] 81)).alloc (.cells #[.int .i64 off, .string s, .bool f] 74) = W0 := ⟨_, rfl⟩
  rw [hW0] at bP bR bW bW2 bP2 hB0 hsz hA0 ⊢
  clear hW0 hA
  refine wpIn_rangeFunc_ownH rfl h1 (gf := 50) (lb := #[.pointer (some ⟨w.heap.size + 1 + 1 + 1, 0, none⟩), .pointer (some ⟨w.heap.size + 1 + 1 + 1 + 1, 0, none⟩)]) rfl trivial (enters_of Tryd.func50 (by kernel_rfl) rfl)
    (ov_stops (m - 1) (by omega) (w.heap.size + 1 + 1 + 1) (w.heap.size + 1 + 1 + 1 + 1) b g1 x.n x.pos off s hA0.n1 hs hA0.p0 hA0.p1 q0 q1 W0 (bW2.cell 0 rfl) (bP2.cell 0 rfl) (bP2.cell 1 rfl) hA0.c0 hA0.c1) (fun h k => Tri.trans h k) (Tri.put (by omega) (by omega) (by omega)) (Below.refl _ _) (fun _ => rfl)
    (fun pre W => (NoC x off s pre ∧ BufAt W b g1 g2 x ∧ At W w.heap.size 81 #[.pointer (some ⟨b, 0, none⟩)] ∧ At W (w.heap.size + 1) 74 #[.int .i64 off, .string s, .bool f] ∧ At W (w.heap.size + 1 + 1) 4 #[.bool false]) ∧ Below w.heap.size w W)
    (fun c pre W => (c = .ret ∧ HasC x off s pre ∧ At W (w.heap.size + 1 + 1) 4 #[.bool false]) ∧ Below w.heap.size w W)
    (OwnFrom.and (OwnFrom.and (ownFrom_pure _ _) (OwnFrom.and (Own.from (fun y X Y row h => buf_own b g1 g2 x X Y row h) _) (OwnFrom.and (Own.from (at_own _ _ _) _) (OwnFrom.and (Own.from (at_own _ _ _) _) (Own.from (at_own _ _ _) _))))) (ownFrom_below (Nat.le_refl _) (by omega)))
    (fun c => OwnFrom.and (OwnFrom.and (ownFrom_pure _ _) (OwnFrom.and (ownFrom_pure _ _) (Own.from (at_own _ _ _) _))) (ownFrom_below (Nat.le_refl _) (by omega)))
    ⟨⟨fun p hp => by simp at hp, hA0, bW, bP, bR⟩, hB0⟩
    (fun i a' W => a' = { tmps := #[.pointer (some ⟨b, 0, none⟩), .agg #[.int .i64 off, .string s, .bool f], .pointer (some ⟨w.heap.size, 0, none⟩), .pointer (some ⟨w.heap.size + 1, 0, none⟩), .pointer (some ⟨w.heap.size + 1 + 1, 0, none⟩), .int .i64 ((ov0 x.pos off + i.1 : Nat) : Int), .int .i64 ((ov1 x.pos off + i.1 : Nat) : Int), .pointer (some ⟨b, 0, none⟩), .agg #[.int .i64 off, .string s, .bool f], .func (.func 50) #[] #[.pointer (some ⟨w.heap.size + 1 + 1 + 1, 0, none⟩), .pointer (some ⟨w.heap.size + 1 + 1 + 1 + 1, 0, none⟩)], .int .i64 ((ov0 x.pos off + i.1 : Nat) : Int), .int .i64 ((ov1 x.pos off + i.1 : Nat) : Int), undef, undef, undef, undef, undef, undef, undef, undef, undef, undef, undef, undef, undef, undef, undef, undef, undef, undef, undef, undef, undef], defers := [] })
    (fun i a' _ X Y row hs hg hr => hs)
    ?assign ?body ?done ?stop
  case assign =>
    rintro l pre i W K ⟨⟨hp, hA1, bW1, bP1, bR1⟩, hB1⟩ hK
    simp only [ovP]
    gi_wp2
    exact hK _ _ (KeepsFrom.refl _ _) (Tri.refl _ _ _ _) ⟨⟨hp, hA1, bW1, bP1, bR1⟩, hB1⟩ rfl
  case body =>
    rintro l pre i a' W hl ⟨r, hr⟩ ⟨⟨hp, hA1, bW1, bP1, bR1⟩, hB1⟩ rfl hlt
    obtain ⟨hl1, hl2⟩ := ov_lt i.2
    have hsb := sb_get s _ hl1
    have c0 := hA1.c0
    have c1 := hA1.c1
    have c2 := hA1.c2
    have ch := hA1.rh.cell _ hl2
    have cb := hA1.rb.cell _ hl2
    have hcons : ∀ (y : Fin (ovN x.n s.size x.pos off)), (x.H (ov1 x.pos off + y.1) = true → x.B (ov1 x.pos off + y.1) = sb s (ov0 x.pos off + y.1)) → NoC x off s (pre ++ [y]) := fun y h p hp' => (List.mem_append.1 hp').elim (hp p) (fun e => by simp at e; subst e; exact h)
    have HN := Lib.hid (hcons i); clear hcons
    have HP := Lib.hid hp; clear hp
    have HPs := Lib.hid (show i ∈ pre ++ [i] by simp)
    have HA := Lib.hid hA1; clear hA1 hA0
    obtain ⟨iv, hiv⟩ : ∃ iv, ov0 x.pos off + i.1 = iv := ⟨_, rfl⟩
    obtain ⟨kv, hkv⟩ : ∃ kv, ov1 x.pos off + i.1 = kv := ⟨_, rfl⟩
    have HN' : Hid ((x.H kv = true → x.B kv = sb s iv) → NoC x off s (pre ++ [i])) := Lib.hid (by rw [← hiv, ← hkv]; exact HN.out)
    have HY : Hid (x.H kv = true → x.B kv ≠ sb s iv → HasC x off s (pre ++ [i])) := Lib.hid (by rw [← hiv, ← hkv]; exact fun h1 h2 => ⟨i, HPs.out, h1, h2⟩)
    clear HN HPs
    simp only [hiv, hkv] at *
    have j1 : (0 : Int) ≤ iv := by omega
    have j2 : (iv : Int) < s.size := by omega
    have j3 : (kv : Int) < x.n := by omega
    have j4 : (0 : Int) ≤ kv := by omega
    have cw : W.cell? ⟨w.heap.size, 0, none⟩ = some (.pointer (some ⟨b, 0, none⟩)) := bW1.cell 0 rfl
    have cp : W.cell? ⟨w.heap.size + 1, 1, none⟩ = some (.string s) := bP1.cell 1 rfl
    cases hH : x.H kv with
    | false =>
      rw [hH] at ch
      gi_wp2
      refine wpIn_region_still_tail 20 (by kernel_rfl) (by kernel_rfl) (by kernel_rfl) ?_
      simp only [List.take_succ_cons, List.take_zero, List.drop_succ_cons, List.drop_zero]
      repeat still_step
      try refine wpStill_nil ?_
      go_wp2
      refine ⟨by simp, ?_⟩
      gi_wp2
      exact ⟨(KeepsOthers.drew _).from _, (Tri.refl _ _ _ _), ⟨HN'.out (fun h => by rw [hH] at h; cases h), HA.out.keep (S := []) (Only.refl _ _).drew (by simp) (by simp) (by simp), bW1.drew, bP1.drew, bR1.drew⟩, hB1.drew⟩
    | true =>
      rw [hH] at ch
      by_cases hB : x.B kv = sb s iv
      · rw [hB] at cb
        gi_wp2
        refine wpIn_region_still_tail 20 (by kernel_rfl) (by kernel_rfl) (by kernel_rfl) ?_
        simp only [List.take_succ_cons, List.take_zero, List.drop_succ_cons, List.drop_zero]
        repeat still_step
        try refine wpStill_nil ?_
        go_wp2
        refine ⟨by simp, ?_⟩
        gi_wp2
        exact ⟨(KeepsOthers.drew _).from _, (Tri.refl _ _ _ _), ⟨HN'.out (fun _ => hB), HA.out.keep (S := []) (Only.refl _ _).drew (by simp) (by simp) (by simp), bW1.drew, bP1.drew, bR1.drew⟩, hB1.drew⟩
      · have hB2 : ¬ (x.B kv).toNat = (sb s iv).toNat := fun h => hB (UInt8.toNat_inj.1 h)
        have hB3 : ¬ (((x.B kv).toNat : Int) = (sb s iv).toNat) := fun h => hB2 (by omega)
        have hB4 : ((((x.B kv).toNat : Int)) != ((sb s iv).toNat : Int)) = true := by simpa using hB3
        have f1 := bR1.free 0
        have cr : W.cell? ⟨w.heap.size + 1 + 1, 0, none⟩ = some (.bool false) := bR1.cell 0 rfl
        gi_wp2
        refine wpIn_region_still_tail 20 (by kernel_rfl) (by kernel_rfl) (by kernel_rfl) ?_
        simp only [List.take_succ_cons, List.take_zero, List.drop_succ_cons, List.drop_zero]
        repeat still_step
        try refine wpStill_nil ?_
        go_wp2
        refine ⟨by simp, ?_⟩
        gi_wp2
        exact ⟨((KeepsOthers.setCell _ _ _).trans (KeepsOthers.drew _)).from _, ⟨rfl, HY.out hH hB, (bR1.set 0 (.bool false) rfl).drew⟩, (hB1.setCell (p := ⟨w.heap.size + 1 + 1, 0, none⟩) (by simp; omega) _).drew⟩
  case done =>
    rintro D zs W hD rfl ⟨⟨hp, hA1, bW1, bP1, bR1⟩, hB1⟩ hK
    have c1 := bR1.cell 0 rfl
    have f1 := bR1.free 0
    have HP := Lib.hid (agr_of_noc x off s hp); clear hp
    gi_wp2
    have hK' := (KeepsOthers.setCell W ⟨w.heap.size + 1 + 1, 0, none⟩ (.bool true)).same D _ hK rfl
    refine ⟨by simp, .inl ⟨_, _, rfl, run_takeDeferred hK', ?_⟩⟩
    have hc5 := (at_put (bR1.set 0 (.bool true) rfl) (.deferred none) hK' rfl).cell 0 rfl
    refine ⟨.bool true, ?_, by rw [HP.out], (hB1.setCell (p := ⟨w.heap.size + 1 + 1, 0, none⟩) (by simp; omega) _).trans (belowK_b (w := w) (Nat.le_refl _) _ D _ _ (by omega) hK' rfl rfl)⟩
    simp [results, Tryd.f46, go_sem, hc5]
  case stop =>
    rintro D c pre W hD ⟨k, hk, rfl⟩ ⟨⟨rfl, hp, bR1⟩, hB1⟩ hK
    have HP := Lib.hid (agr_of_hasc x off s _ hp); clear hp
    gi_wp2
    refine ⟨by simp, .inl ⟨_, _, rfl, run_takeDeferred hK, ?_⟩⟩
    have hc5 := (at_put bR1 (.deferred none) hK rfl).cell 0 rfl
    refine ⟨.bool false, ?_, by rw [HP.out], hB1.trans (belowK_b (w := w) (Nat.le_refl _) _ D _ _ (by omega) hK rfl rfl)⟩
    simp [results, Tryd.f46, go_sem, hc5]
end Go.Proofs.YtnnmmmeppbdlnaaDoor
