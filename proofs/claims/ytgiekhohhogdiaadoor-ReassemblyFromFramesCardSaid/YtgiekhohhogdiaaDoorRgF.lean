/- Contracts of package reassembly: agrees (the bytes held agree with the piece). -/
import Derived.Test.YtgiekhohhogdiaaDoorRgE
import Derived.Laws.Strings
namespace Go.Proofs.YtgiekhohhogdiaaDoor
open Go Go.RowKit Go.Shelf
set_option linter.unusedVariables false
set_option linter.unusedSectionVars false
set_option linter.unusedSimpArgs false
attribute [local go_sem] Oper.semAt_some
attribute [local irreducible] wpStill

theorem at_own {β : Type} (B : Nat) (t : TypeId) (f : β → Array Value) : Own (fun s W => At W B t (f s)) := by
  intro s X Y row hA hg hrow
  refine (hg.block B hA.lt (fun e => ?_)).trans hA
  obtain ⟨o, ho, hc⟩ := hrow B e.symm
  rw [show X.heap[B]? = _ from hA] at ho
  cases ho; cases hc
theorem at_put {W : World} {B : Nat} {t : TypeId} {cs : Array Value} (h : At W B t cs) {l : Nat} {o : Obj} (o' : Obj) (hl : W.heap[l]? = some o) (ho : o.isCells = false) : At (W.putObj l o') B t cs :=
  at_own B t (fun (_ : Unit) => cs) () W _ _ h (grownBy_putObj' W l o') (fun r e => by cases e; exact ⟨_, hl, ho⟩)
theorem buf_own (b g1 g2 : Nat) : Own (fun (x : Bf) W => BufAt W b g1 g2 x) := by
  intro x X Y row h hg hrow
  obtain ⟨a1, ⟨c1, r1, r2, r3⟩, ⟨c2, s1, s2, s3⟩, d1, d2, d3, n1, n0, p0, p1, h0, h1⟩ := h
  exact ⟨at_own b _ (fun (_ : Unit) => bufCells g1 g2 x) () X Y row a1 hg hrow, ⟨c1, at_own g1 _ (fun (_ : Unit) => c1) () X Y row r1 hg hrow, r2, r3⟩, ⟨c2, at_own g2 _ (fun (_ : Unit) => c2) () X Y row s1 hg hrow, s2, s3⟩, d1, d2, d3, n1, n0, p0, p1, h0, h1⟩
/-- The byte i of a string. -/
def sb (s : ByteArray) (i : Nat) : UInt8 := s.data.toList.getD i 0
theorem sb_get (s : ByteArray) (i : Nat) (h : i < s.size) : s[i]'h = sb s i := by
  unfold sb
  have h' : i < s.data.toList.length := by simpa using h
  rw [List.getD_eq_getElem?_getD, List.getElem?_eq_getElem h']
  simp
  rfl
def NoC (x : Bf) (off : Int) (s : ByteArray) {n : Nat} (pre : List (Fin n)) : Prop := ∀ i ∈ pre, x.H (ov1 x.pos off + i.1) = true → x.B (ov1 x.pos off + i.1) = sb s (ov0 x.pos off + i.1)
def HasC (x : Bf) (off : Int) (s : ByteArray) {n : Nat} (pre : List (Fin n)) : Prop := ∃ i ∈ pre, x.H (ov1 x.pos off + i.1) = true ∧ x.B (ov1 x.pos off + i.1) ≠ sb s (ov0 x.pos off + i.1)
theorem agr_of_noc (x : Bf) (off : Int) (s : ByteArray) (h : NoC x off s (List.finRange (ovN x.n s.size x.pos off))) : x.agrB off s.data.toList = true := by
  rw [Bf.agrB_iff]
  intro i k hi he hk hH
  have hl : s.data.toList.length = s.size := by simp
  rw [hl] at hi
  have e := ov_eq x.pos off
  have hj : i - ov0 x.pos off < ovN x.n s.size x.pos off := by unfold ovN ov0 ov1 at *; omega
  have h2 := h ⟨_, hj⟩ (List.mem_finRange _)
  have e1 : ov1 x.pos off + (i - ov0 x.pos off) = k := by unfold ov0 ov1 at *; omega
  have e0 : ov0 x.pos off + (i - ov0 x.pos off) = i := by unfold ov0 ov1 at *; omega
  simp only [e1, e0] at h2
  exact h2 hH
theorem agr_of_hasc (x : Bf) (off : Int) (s : ByteArray) (pre : List (Fin (ovN x.n s.size x.pos off))) (h : HasC x off s pre) : x.agrB off s.data.toList = false := by
  cases hb : x.agrB off s.data.toList with
  | false => rfl
  | true =>
    obtain ⟨i, hi, h1, h2⟩ := h
    have hl : s.data.toList.length = s.size := by simp
    obtain ⟨l1, l2⟩ := ov_lt i.2
    exact absurd ((x.agrB_iff off _).1 hb _ _ (by rw [hl]; exact l1) (by have := ov_eq x.pos off; omega) l2 h1) h2

set_option maxRecDepth 100000 in
set_option maxHeartbeats 4000000 in
theorem agrees_in (m : Nat) (hm : 3 ≤ m) (b g1 g2 : Nat) (x : Bf) (off : Int) (s : ByteArray) (f : Bool) (hs : s.size ≤ 8192) (q0 : 0 ≤ off) (q1 : off ≤ 1099511627776) (w : World) (hA : BufAt w b g1 g2 x) :
    CallsIn Fence.wide m Tryd.prog 57 #[.pointer (some ⟨b, 0, none⟩), .agg #[.int .i64 off, .string s, .bool f]] w fun e W' => e = .returned (.bool (x.agrB off s.data.toList)) ∧ Below w.heap.size w W' := by
  have h1 : 1 ≤ m := by omega
  have hbl := hA.lt
  refine callsIn_of_wp_marks Tryd.func57 rfl trivial ?_ rfl
  simp only [Tryd.ntmps57, List.size_toArray, List.length_cons, List.length_nil, Nat.reduceAdd, Nat.reduceSub, Array.replicate_succ, Array.replicate_zero, List.push_toArray, List.append_toArray, List.nil_append, List.cons_append]
  gi_wp2
  refine ⟨trivial, (overlap_in (m - 1) b off s f _).mono ?_⟩
  rintro e w' ⟨rfl, rfl⟩
  gi_wp2
  have bP := (((At.new (w.alloc (.cells #[.pointer (some ⟨b, 0, none⟩)] 89)) 66 #[.int .i64 off, .string s, .bool f]).alloc (.cells #[.bool false] 4)).alloc (.cells #[.pointer (some ⟨b, 0, none⟩)] 89)).alloc (.cells #[.int .i64 off, .string s, .bool f] 66)
  have bW := ((((At.new w 89 #[.pointer (some ⟨b, 0, none⟩)]).alloc (.cells #[.int .i64 off, .string s, .bool f] 66)).alloc (.cells #[.bool false] 4)).alloc (.cells #[.pointer (some ⟨b, 0, none⟩)] 89)).alloc (.cells #[.int .i64 off, .string s, .bool f] 66)
  have bR := ((At.new ((w.alloc (.cells #[.pointer (some ⟨b, 0, none⟩)] 89)).alloc (.cells #[.int .i64 off, .string s, .bool f] 66)) 4 #[.bool false]).alloc (.cells #[.pointer (some ⟨b, 0, none⟩)] 89)).alloc (.cells #[.int .i64 off, .string s, .bool f] 66)
  have bW2 := (At.new (((w.alloc (.cells #[.pointer (some ⟨b, 0, none⟩)] 89)).alloc (.cells #[.int .i64 off, .string s, .bool f] 66)).alloc (.cells #[.bool false] 4)) 89 #[.pointer (some ⟨b, 0, none⟩)]).alloc (.cells #[.int .i64 off, .string s, .bool f] 66)
  have bP2 := At.new ((((w.alloc (.cells #[.pointer (some ⟨b, 0, none⟩)] 89)).alloc (.cells #[.int .i64 off, .string s, .bool f] 66)).alloc (.cells #[.bool false] 4)).alloc (.cells #[.pointer (some ⟨b, 0, none⟩)] 89)) 66 #[.int .i64 off, .string s, .bool f]
  have hA0 := ((((hA.alloc (.cells #[.pointer (some ⟨b, 0, none⟩)] 89)).alloc (.cells #[.int .i64 off, .string s, .bool f] 66)).alloc (.cells #[.bool false] 4)).alloc (.cells #[.pointer (some ⟨b, 0, none⟩)] 89)).alloc (.cells #[.int .i64 off, .string s, .bool f] 66)
  have hB0 : Below w.heap.size w _ := (((((Below.refl _ w).alloc (Nat.le_refl _) (.cells #[.pointer (some ⟨b, 0, none⟩)] 89)).alloc (by simp) (.cells #[.int .i64 off, .string s, .bool f] 66)).alloc (by simp; omega) (.cells #[.bool false] 4)).alloc (by simp; omega) (.cells #[.pointer (some ⟨b, 0, none⟩)] 89)).alloc (by simp; omega) (.cells #[.int .i64 off, .string s, .bool f] 66)
  simp only [World.size_alloc] at bP bW bR bW2 bP2
  have hsz : (((((w.alloc (.cells #[.pointer (some ⟨b, 0, none⟩)] 89)).alloc (.cells #[.int .i64 off, .string s, .bool f] 66)).alloc (.cells #[.bool false] 4)).alloc (.cells #[.pointer (some ⟨b, 0, none⟩)] 89)).alloc (.cells #[.int .i64 off, .string s, .bool f] 66)).heap.size = w.heap.size + 5 := by simp
  obtain ⟨W0, hW0⟩ : ∃ W0, ((((w.alloc (.cells #[.pointer (some ⟨b, 0, none⟩)] 89)).alloc (.cells #[.int .i64 off, .string s, .bool f] 66)).alloc (.cells #[.bool false] 4)).alloc (.cells #[.pointer (some ⟨b, 0, none⟩)] 89)).alloc (.cells #[.int .i64 off, .string s, .bool f] 66) = W0 := ⟨_, rfl⟩
  rw [hW0] at bP bR bW bW2 bP2 hB0 hsz hA0 ⊢
  clear hW0 hA
  refine wpIn_rangeFunc_ownH rfl h1 (gf := 79) (lb := #[.pointer (some ⟨w.heap.size + 1 + 1 + 1, 0, none⟩), .pointer (some ⟨w.heap.size + 1 + 1 + 1 + 1, 0, none⟩)]) rfl trivial (enters_of Tryd.func79 (by kernel_rfl) rfl)
    (ov_stops (m - 1) (by omega) (w.heap.size + 1 + 1 + 1) (w.heap.size + 1 + 1 + 1 + 1) b g1 x.n x.pos off s hA0.n1 hs hA0.p0 hA0.p1 q0 q1 W0 (bW2.cell 0 rfl) (bP2.cell 0 rfl) (bP2.cell 1 rfl) hA0.c0 hA0.c1) (fun h k => Tri.trans h k) (Tri.put (by omega) (by omega) (by omega)) (Below.refl _ _) (fun _ => rfl)
    (fun pre W => (NoC x off s pre ∧ BufAt W b g1 g2 x ∧ At W w.heap.size 89 #[.pointer (some ⟨b, 0, none⟩)] ∧ At W (w.heap.size + 1) 66 #[.int .i64 off, .string s, .bool f] ∧ At W (w.heap.size + 1 + 1) 4 #[.bool false]) ∧ Below w.heap.size w W)
    (fun c pre W => (c = .ret ∧ HasC x off s pre ∧ At W (w.heap.size + 1 + 1) 4 #[.bool false]) ∧ Below w.heap.size w W)
    (OwnFrom.and (OwnFrom.and (ownFrom_pure _ _) (OwnFrom.and (Own.from (fun y X Y row h => buf_own b g1 g2 x X Y row h) _) (OwnFrom.and (Own.from (at_own _ _ _) _) (OwnFrom.and (Own.from (at_own _ _ _) _) (Own.from (at_own _ _ _) _))))) (ownFrom_below (Nat.le_refl _) (by omega)))
    (fun c => OwnFrom.and (OwnFrom.and (ownFrom_pure _ _) (OwnFrom.and (ownFrom_pure _ _) (Own.from (at_own _ _ _) _))) (ownFrom_below (Nat.le_refl _) (by omega)))
    ⟨⟨fun p hp => by simp at hp, hA0, bW, bP, bR⟩, hB0⟩
    (fun i a' W => a' = { tmps := #[.pointer (some ⟨b, 0, none⟩), .agg #[.int .i64 off, .string s, .bool f], .pointer (some ⟨w.heap.size, 0, none⟩), .pointer (some ⟨w.heap.size + 1, 0, none⟩), .pointer (some ⟨w.heap.size + 1 + 1, 0, none⟩), .int .i64 ((ov0 x.pos off + i.1 : Nat) : Int), .int .i64 ((ov1 x.pos off + i.1 : Nat) : Int), .pointer (some ⟨b, 0, none⟩), .agg #[.int .i64 off, .string s, .bool f], .func (.func 79) #[] #[.pointer (some ⟨w.heap.size + 1 + 1 + 1, 0, none⟩), .pointer (some ⟨w.heap.size + 1 + 1 + 1 + 1, 0, none⟩)], .int .i64 ((ov0 x.pos off + i.1 : Nat) : Int), .int .i64 ((ov1 x.pos off + i.1 : Nat) : Int), undef, undef, undef, undef, undef, undef, undef, undef, undef, undef, undef, undef, undef, undef, undef, undef, undef, undef, undef, undef, undef], defers := [] })
    (fun i a' _ X Y row hs hg hr => hs)
    ?assign ?body ?done ?stop
  case assign =>
    rintro l pre i W K ⟨⟨hp, hA1, bW1, bP1, bR1⟩, hB1⟩ hK
    simp only [ovP]
    gi_wp2
    exact hK _ _ (KeepsFrom.refl _ _) (Tri.refl _ _ _ _) ⟨⟨hp, hA1, bW1, bP1, bR1⟩, hB1⟩ rfl
  case body =>
    rintro l pre i a' W hl ⟨r, hr⟩ ⟨⟨hp, hA1, bW1, bP1, bR1⟩, hB1⟩ rfl hlt
    obtain ⟨hl1, hl2⟩ := ov_lt i.2
    have hsb := sb_get s _ hl1
    have c0 := hA1.c0
    have c1 := hA1.c1
    have c2 := hA1.c2
    have ch := hA1.rh.cell _ hl2
    have cb := hA1.rb.cell _ hl2
    have hcons : ∀ (y : Fin (ovN x.n s.size x.pos off)), (x.H (ov1 x.pos off + y.1) = true → x.B (ov1 x.pos off + y.1) = sb s (ov0 x.pos off + y.1)) → NoC x off s (pre ++ [y]) := fun y h p hp' => (List.mem_append.1 hp').elim (hp p) (fun e => by simp at e; subst e; exact h)
    have HN := Lib.hid (hcons i); clear hcons
    have HP := Lib.hid hp; clear hp
    have HPs := Lib.hid (show i ∈ pre ++ [i] by simp)
    have HA := Lib.hid hA1; clear hA1 hA0
    obtain ⟨iv, hiv⟩ : ∃ iv, ov0 x.pos off + i.1 = iv := ⟨_, rfl⟩
    obtain ⟨kv, hkv⟩ : ∃ kv, ov1 x.pos off + i.1 = kv := ⟨_, rfl⟩
    have HN' : Hid ((x.H kv = true → x.B kv = sb s iv) → NoC x off s (pre ++ [i])) := Lib.hid (by rw [← hiv, ← hkv]; exact HN.out)
    have HY : Hid (x.H kv = true → x.B kv ≠ sb s iv → HasC x off s (pre ++ [i])) := Lib.hid (by rw [← hiv, ← hkv]; exact fun h1 h2 => ⟨i, HPs.out, h1, h2⟩)
    clear HN HPs
    simp only [hiv, hkv] at *
    have j1 : (0 : Int) ≤ iv := by omega
    have j2 : (iv : Int) < s.size := by omega
    have j3 : (kv : Int) < x.n := by omega
    have j4 : (0 : Int) ≤ kv := by omega
    have cw : W.cell? ⟨w.heap.size, 0, none⟩ = some (.pointer (some ⟨b, 0, none⟩)) := bW1.cell 0 rfl
    have cp : W.cell? ⟨w.heap.size + 1, 1, none⟩ = some (.string s) := bP1.cell 1 rfl
    cases hH : x.H kv with
    | false =>
      rw [hH] at ch
      gi_wp2
      refine wpIn_region_still_tail 20 (by kernel_rfl) (by kernel_rfl) (by kernel_rfl) ?_
      simp only [List.take_succ_cons, List.take_zero, List.drop_succ_cons, List.drop_zero]
      repeat still_step
      try refine wpStill_nil ?_
      go_wp2
      refine ⟨by simp, ?_⟩
      gi_wp2
      exact ⟨(KeepsOthers.drew _).from _, (Tri.refl _ _ _ _), ⟨HN'.out (fun h => by rw [hH] at h; cases h), HA.out.keep (S := []) (Only.refl _ _).drew (by simp) (by simp) (by simp), bW1.drew, bP1.drew, bR1.drew⟩, hB1.drew⟩
    | true =>
      rw [hH] at ch
      by_cases hB : x.B kv = sb s iv
      · rw [hB] at cb
        gi_wp2
        refine wpIn_region_still_tail 20 (by kernel_rfl) (by kernel_rfl) (by kernel_rfl) ?_
        simp only [List.take_succ_cons, List.take_zero, List.drop_succ_cons, List.drop_zero]
        repeat still_step
        try refine wpStill_nil ?_
        go_wp2
        refine ⟨by simp, ?_⟩
        gi_wp2
        exact ⟨(KeepsOthers.drew _).from _, (Tri.refl _ _ _ _), ⟨HN'.out (fun _ => hB), HA.out.keep (S := []) (Only.refl _ _).drew (by simp) (by simp) (by simp), bW1.drew, bP1.drew, bR1.drew⟩, hB1.drew⟩
      · have hB2 : ¬ (x.B kv).toNat = (sb s iv).toNat := fun h => hB (UInt8.toNat_inj.1 h)
        have hB3 : ¬ (((x.B kv).toNat : Int) = (sb s iv).toNat) := fun h => hB2 (by omega)
        have hB4 : ((((x.B kv).toNat : Int)) != ((sb s iv).toNat : Int)) = true := by simpa using hB3
        have f1 := bR1.free 0
        have cr : W.cell? ⟨w.heap.size + 1 + 1, 0, none⟩ = some (.bool false) := bR1.cell 0 rfl
        gi_wp2
        refine wpIn_region_still_tail 20 (by kernel_rfl) (by kernel_rfl) (by kernel_rfl) ?_
        simp only [List.take_succ_cons, List.take_zero, List.drop_succ_cons, List.drop_zero]
        repeat still_step
        try refine wpStill_nil ?_
        go_wp2
        refine ⟨by simp, ?_⟩
        gi_wp2
        exact ⟨((KeepsOthers.setCell _ _ _).trans (KeepsOthers.drew _)).from _, ⟨rfl, HY.out hH hB, (bR1.set 0 (.bool false) rfl).drew⟩, (hB1.setCell (p := ⟨w.heap.size + 1 + 1, 0, none⟩) (by simp; omega) _).drew⟩
  case done =>
    rintro D zs W hD rfl ⟨⟨hp, hA1, bW1, bP1, bR1⟩, hB1⟩ hK
    have c1 := bR1.cell 0 rfl
    have f1 := bR1.free 0
    have HP := Lib.hid (agr_of_noc x off s hp); clear hp
    gi_wp2
    have hK' := (KeepsOthers.setCell W ⟨w.heap.size + 1 + 1, 0, none⟩ (.bool true)).same D _ hK rfl
    refine ⟨by simp, .inl ⟨_, _, rfl, run_takeDeferred hK', ?_⟩⟩
    have hc5 := (at_put (bR1.set 0 (.bool true) rfl) (.deferred none) hK' rfl).cell 0 rfl
    refine ⟨.bool true, ?_, by rw [HP.out], (hB1.setCell (p := ⟨w.heap.size + 1 + 1, 0, none⟩) (by simp; omega) _).trans (belowK_b (w := w) (Nat.le_refl _) _ D _ _ (by omega) hK' rfl rfl)⟩
    simp [results, Tryd.f57, go_sem, hc5]
  case stop =>
    rintro D c pre W hD ⟨k, hk, rfl⟩ ⟨⟨rfl, hp, bR1⟩, hB1⟩ hK
    have HP := Lib.hid (agr_of_hasc x off s _ hp); clear hp
    gi_wp2
    refine ⟨by simp, .inl ⟨_, _, rfl, run_takeDeferred hK, ?_⟩⟩
    have hc5 := (at_put bR1 (.deferred none) hK rfl).cell 0 rfl
    refine ⟨.bool false, ?_, by rw [HP.out], hB1.trans (belowK_b (w := w) (Nat.le_refl _) _ D _ _ (by omega) hK rfl rfl)⟩
    simp [results, Tryd.f57, go_sem, hc5]
end Go.Proofs.YtgiekhohhogdiaaDoor
/- Contracts of package reassembly: hold (the piece's bytes are put into the window). -/
namespace Go.Proofs.YtgiekhohhogdiaaDoor
open Go Go.RowKit Go.Shelf
set_option linter.unusedVariables false
set_option linter.unusedSectionVars false
set_option linter.unusedSimpArgs false
attribute [local go_sem] Oper.semAt_some
attribute [local irreducible] wpStill

theorem ownFrom_only {β : Type} {B : Nat} {S : List Nat} {w₀ : World} (hB : w₀.heap.size ≤ B) : OwnFrom B (fun (_ : β) W => Only S w₀ W) := by
  intro y X Y row h hg hrow
  obtain ⟨h1, h2, h3, h4, h5⟩ := hg
  refine ⟨h1.trans h.os, h2.trans h.tape, h3.trans h.output, Nat.le_trans h.size h4, fun i hi hn => ?_⟩
  refine (h5 i (Nat.lt_of_lt_of_le hi h.size) (fun e => ?_)).trans (h.block i hi hn)
  have := (hrow i e.symm).1
  omega
/-- Is k among the places that the indexes of pre fill? -/
def hit (o1 : Nat) {n : Nat} (pre : List (Fin n)) (k : Nat) : Bool := pre.any fun i => decide (o1 + i.1 = k)
def hBs (x : Bf) (off : Int) (s : ByteArray) {n : Nat} (pre : List (Fin n)) (k : Nat) : UInt8 := if hit (ov1 x.pos off) pre k then sb s (ov0 x.pos off + (k - ov1 x.pos off)) else x.B k
def hHs (x : Bf) (off : Int) {n : Nat} (pre : List (Fin n)) (k : Nat) : Bool := if hit (ov1 x.pos off) pre k then true else x.H k
def hX (x : Bf) (off : Int) (s : ByteArray) {n : Nat} (pre : List (Fin n)) : Bf := { x with B := hBs x off s pre, H := hHs x off pre }
theorem hit_add (o1 : Nat) {n : Nat} (pre : List (Fin n)) (i : Fin n) (k : Nat) : hit o1 (pre ++ [i]) k = (hit o1 pre k || decide (o1 + i.1 = k)) := by simp [hit]
theorem hBs_add (x : Bf) (off : Int) (s : ByteArray) {n : Nat} (pre : List (Fin n)) (i : Fin n) : hBs x off s (pre ++ [i]) = fun k => if k = ov1 x.pos off + i.1 then sb s (ov0 x.pos off + i.1) else hBs x off s pre k := by
  funext k
  unfold hBs
  rw [hit_add]
  by_cases e : k = ov1 x.pos off + i.1
  · subst e; simp
  · have e2 : ¬ ov1 x.pos off + i.1 = k := fun h => e h.symm
    simp [e, e2]
theorem hHs_add (x : Bf) (off : Int) {n : Nat} (pre : List (Fin n)) (i : Fin n) : hHs x off (pre ++ [i]) = fun k => if k = ov1 x.pos off + i.1 then true else hHs x off pre k := by
  funext k
  unfold hHs
  rw [hit_add]
  by_cases e : k = ov1 x.pos off + i.1
  · subst e; simp
  · have e2 : ¬ ov1 x.pos off + i.1 = k := fun h => e h.symm
    simp [e, e2]
theorem hit_all (x : Bf) (off : Int) (m k : Nat) (hk : k < x.n) : hit (ov1 x.pos off) (List.finRange (ovN x.n m x.pos off)) k = decide (off ≤ x.pos + k ∧ x.pos + k < off + m) := by
  rw [Bool.eq_iff_iff]
  simp only [hit, List.any_eq_true, decide_eq_true_eq]
  have e := ov_eq x.pos off
  constructor
  · rintro ⟨i, _, rfl⟩
    obtain ⟨l1, l2⟩ := ov_lt i.2
    omega
  · rintro ⟨a, c⟩
    have hj : k - ov1 x.pos off < ovN x.n m x.pos off := by unfold ovN ov0 ov1 at *; omega
    refine ⟨⟨_, hj⟩, List.mem_finRange _, ?_⟩
    show ov1 x.pos off + (k - ov1 x.pos off) = k
    unfold ov1 at *; omega
theorem hB_all (x : Bf) (off : Int) (s : ByteArray) (f : Bool) (k : Nat) (hk : k < x.n) : hBs x off s (List.finRange (ovN x.n s.size x.pos off)) k = (x.hold off s.data.toList f).B k := by
  have hl : s.data.toList.length = s.size := by simp
  simp only [hBs, Bf.hold, hit_all x off s.size k hk, hl, decide_eq_true_eq]
  by_cases c : off ≤ x.pos + k ∧ x.pos + k < off + s.size
  · rw [if_pos c, if_pos c]
    unfold sb
    congr 1
    unfold ov0 ov1; omega
  · rw [if_neg c, if_neg c]
theorem hH_all (x : Bf) (off : Int) (s : ByteArray) (f : Bool) (k : Nat) (hk : k < x.n) : hHs x off (List.finRange (ovN x.n s.size x.pos off)) k = (x.hold off s.data.toList f).H k := by
  have hl : s.data.toList.length = s.size := by simp
  simp only [hHs, Bf.hold, hit_all x off s.size k hk, hl, decide_eq_true_eq]
theorem hX_all {w : World} {b g1 g2 : Nat} (x : Bf) (off : Int) (s : ByteArray) (f : Bool) (h : BufAt w b g1 g2 (hX x off s (List.finRange (ovN x.n s.size x.pos off)))) : BufAt w b g1 g2 { x with B := (x.hold off s.data.toList f).B, H := (x.hold off s.data.toList f).H } := by
  obtain ⟨a1, r, t, d1, d2, d3, n1, n0, p0, p1, h0, h1⟩ := h
  exact ⟨a1, r.congr (fun k hk => hB_all x off s f k hk), t.congr (fun k hk => hH_all x off s f k hk), d1, d2, d3, n1, n0, p0, p1, h0, h1⟩
theorem hX_put {w : World} {b g1 g2 : Nat} (x : Bf) (off : Int) (s : ByteArray) {n : Nat} (pre : List (Fin n)) (i : Fin n) (h : BufAt w b g1 g2 (hX x off s pre)) (k : Nat) (c : UInt8) (hk : ov1 x.pos off + i.1 = k) (hc : sb s (ov0 x.pos off + i.1) = c) :
    BufAt ((w.setCell ⟨g1, k, none⟩ (.int .u8 c.toNat)).setCell ⟨g2, k, none⟩ (.bool true)) b g1 g2 (hX x off s (pre ++ [i])) := by
  subst hk hc
  obtain ⟨a1, r, t, d1, d2, d3, n1, n0, p0, p1, h0, h1⟩ := h
  refine ⟨(a1.keep (S := [g1, g2]) (((Only.refl _ _).put (by simp) _).put (by simp) _) (by simp; exact ⟨d1, d2⟩)), ?_, ?_, d1, d2, d3, n1, n0, p0, p1, h0, h1⟩
  · have := (r.put (ov1 x.pos off + i.1) (sb s (ov0 x.pos off + i.1))).far (p := ⟨g2, ov1 x.pos off + i.1, none⟩) d3 (.bool true)
    show RowB _ g1 x.n (hBs x off s (pre ++ [i]))
    rw [hBs_add]; exact this
  · have := (t.far (p := ⟨g1, ov1 x.pos off + i.1, none⟩) (fun e => d3 e.symm) (.int .u8 (sb s (ov0 x.pos off + i.1)).toNat)).put (ov1 x.pos off + i.1) true
    show RowH _ g2 x.n (hHs x off (pre ++ [i]))
    rw [hHs_add]; exact this
theorem hX_nil (x : Bf) (off : Int) (s : ByteArray) {n : Nat} : hX x off s ([] : List (Fin n)) = x := rfl

set_option maxRecDepth 100000 in
set_option maxHeartbeats 4000000 in
theorem hold_in (m : Nat) (hm : 3 ≤ m) (b g1 g2 : Nat) (x : Bf) (off : Int) (s : ByteArray) (f : Bool) (hs : s.size ≤ 8192) (q0 : 0 ≤ off) (q1 : off ≤ 1099511627776) (w : World) (hA : BufAt w b g1 g2 x) :
    CallsIn Fence.wide m Tryd.prog 32 #[.pointer (some ⟨b, 0, none⟩), .agg #[.int .i64 off, .string s, .bool f]] w fun e W' => e = .returned (.tuple #[]) ∧ BufAt W' b g1 g2 { x with B := (x.hold off s.data.toList f).B, H := (x.hold off s.data.toList f).H } ∧ Only [g1, g2] w W' := by
  have h1 : 1 ≤ m := by omega
  have hbl := hA.lt
  refine callsIn_of_wp_marks Tryd.func32 rfl trivial ?_ rfl
  simp only [Tryd.ntmps32, List.size_toArray, List.length_cons, List.length_nil, Nat.reduceAdd, Nat.reduceSub, Array.replicate_succ, Array.replicate_zero, List.push_toArray, List.append_toArray, List.nil_append, List.cons_append]
  gi_wp2
  refine ⟨trivial, (overlap_in (m - 1) b off s f _).mono ?_⟩
  rintro e w' ⟨rfl, rfl⟩
  gi_wp2
  have bP := ((At.new (w.alloc (.cells #[.pointer (some ⟨b, 0, none⟩)] 89)) 66 #[.int .i64 off, .string s, .bool f]).alloc (.cells #[.pointer (some ⟨b, 0, none⟩)] 89)).alloc (.cells #[.int .i64 off, .string s, .bool f] 66)
  have bW := (((At.new w 89 #[.pointer (some ⟨b, 0, none⟩)]).alloc (.cells #[.int .i64 off, .string s, .bool f] 66)).alloc (.cells #[.pointer (some ⟨b, 0, none⟩)] 89)).alloc (.cells #[.int .i64 off, .string s, .bool f] 66)
  have bW2 := (At.new ((w.alloc (.cells #[.pointer (some ⟨b, 0, none⟩)] 89)).alloc (.cells #[.int .i64 off, .string s, .bool f] 66)) 89 #[.pointer (some ⟨b, 0, none⟩)]).alloc (.cells #[.int .i64 off, .string s, .bool f] 66)
  have bP2 := At.new (((w.alloc (.cells #[.pointer (some ⟨b, 0, none⟩)] 89)).alloc (.cells #[.int .i64 off, .string s, .bool f] 66)).alloc (.cells #[.pointer (some ⟨b, 0, none⟩)] 89)) 66 #[.int .i64 off, .string s, .bool f]
  have hA0 := (((hA.alloc (.cells #[.pointer (some ⟨b, 0, none⟩)] 89)).alloc (.cells #[.int .i64 off, .string s, .bool f] 66)).alloc (.cells #[.pointer (some ⟨b, 0, none⟩)] 89)).alloc (.cells #[.int .i64 off, .string s, .bool f] 66)
  have hB0 : Only [g1, g2] w ((((w.alloc (.cells #[.pointer (some ⟨b, 0, none⟩)] 89)).alloc (.cells #[.int .i64 off, .string s, .bool f] 66)).alloc (.cells #[.pointer (some ⟨b, 0, none⟩)] 89)).alloc (.cells #[.int .i64 off, .string s, .bool f] 66)) := ((((Only.refl _ w).alloc _).alloc _).alloc _).alloc _
  simp only [World.size_alloc] at bP bW bW2 bP2
  have hsz : ((((w.alloc (.cells #[.pointer (some ⟨b, 0, none⟩)] 89)).alloc (.cells #[.int .i64 off, .string s, .bool f] 66)).alloc (.cells #[.pointer (some ⟨b, 0, none⟩)] 89)).alloc (.cells #[.int .i64 off, .string s, .bool f] 66)).heap.size = w.heap.size + 4 := by simp
  obtain ⟨W0, hW0⟩ : ∃ W0, ((((w.alloc (.cells #[.pointer (some ⟨b, 0, none⟩)] 89)).alloc (.cells #[.int .i64 off, .string s, .bool f] 66)).alloc (.cells #[.pointer (some ⟨b, 0, none⟩)] 89)).alloc (.cells #[.int .i64 off, .string s, .bool f] 66)) = W0 := ⟨_, rfl⟩
  rw [hW0] at bP bW bW2 bP2 hB0 hsz hA0 ⊢
  clear hW0 hA
  refine wpIn_rangeFunc_ownH rfl h1 (gf := 79) (lb := #[.pointer (some ⟨w.heap.size + 1 + 1, 0, none⟩), .pointer (some ⟨w.heap.size + 1 + 1 + 1, 0, none⟩)]) rfl trivial (enters_of Tryd.func79 (by kernel_rfl) rfl)
    (ov_stops (m - 1) (by omega) (w.heap.size + 1 + 1) (w.heap.size + 1 + 1 + 1) b g1 x.n x.pos off s hA0.n1 hs hA0.p0 hA0.p1 q0 q1 W0 (bW2.cell 0 rfl) (bP2.cell 0 rfl) (bP2.cell 1 rfl) hA0.c0 hA0.c1) (fun h k => Tri.trans h k) (Tri.put (by omega) (by omega) (by omega)) (Below.refl _ _) (fun _ => rfl)
    (fun pre W => BufAt W b g1 g2 (hX x off s pre) ∧ At W w.heap.size 89 #[.pointer (some ⟨b, 0, none⟩)] ∧ At W (w.heap.size + 1) 66 #[.int .i64 off, .string s, .bool f] ∧ Only [g1, g2] w W)
    (fun c pre W => False)
    (OwnFrom.and (Own.from (fun y X Y row h => buf_own b g1 g2 (hX x off s y) X Y row h) _) (OwnFrom.and (Own.from (at_own _ _ _) _) (OwnFrom.and (Own.from (at_own _ _ _) _) (ownFrom_only (by omega)))))
    (fun c => fun y X Y row h _ _ => h)
    ⟨hA0, bW, bP, hB0⟩
    (fun i a' W => a' = { tmps := #[.pointer (some ⟨b, 0, none⟩), .agg #[.int .i64 off, .string s, .bool f], .pointer (some ⟨w.heap.size, 0, none⟩), .pointer (some ⟨w.heap.size + 1, 0, none⟩), .int .i64 ((ov0 x.pos off + i.1 : Nat) : Int), .int .i64 ((ov1 x.pos off + i.1 : Nat) : Int), .pointer (some ⟨b, 0, none⟩), .agg #[.int .i64 off, .string s, .bool f], .func (.func 79) #[] #[.pointer (some ⟨w.heap.size + 1 + 1, 0, none⟩), .pointer (some ⟨w.heap.size + 1 + 1 + 1, 0, none⟩)], .int .i64 ((ov0 x.pos off + i.1 : Nat) : Int), .int .i64 ((ov1 x.pos off + i.1 : Nat) : Int), undef, undef, undef, undef, undef, undef, undef, undef, undef, undef, undef, undef, undef, undef, undef, undef], defers := [] })
    (fun i a' _ X Y row hs hg hr => hs)
    ?assign ?body ?done ?stop
  case assign =>
    rintro l pre i W K ⟨hA1, bW1, bP1, hB1⟩ hK
    simp only [ovP]
    gi_wp2
    exact hK _ _ (KeepsFrom.refl _ _) (Tri.refl _ _ _ _) ⟨hA1, bW1, bP1, hB1⟩ rfl
  case body =>
    rintro l pre i a' W hl ⟨r, hr⟩ ⟨hA1, bW1, bP1, hB1⟩ rfl hlt
    obtain ⟨hl1, hl2⟩ := ov_lt i.2
    have c1 : W.cell? ⟨b, 1, none⟩ = some (.slice (some ⟨g1, 0, none⟩) x.n x.n) := hA1.c1
    have c2 : W.cell? ⟨b, 2, none⟩ = some (.slice (some ⟨g2, 0, none⟩) x.n x.n) := hA1.c2
    obtain ⟨u1, ch⟩ : ∃ u, W.cell? ⟨g2, ov1 x.pos off + i.1, none⟩ = some u := ⟨_, hA1.rh.cell _ hl2⟩
    obtain ⟨u2, cb⟩ : ∃ u, W.cell? ⟨g1, ov1 x.pos off + i.1, none⟩ = some u := ⟨_, hA1.rb.cell _ hl2⟩
    have f1 : W.frozen? ⟨g1, ov1 x.pos off + i.1, none⟩ = false := hA1.rb.free _
    have f2 : W.frozen? ⟨g2, ov1 x.pos off + i.1, none⟩ = false := hA1.rh.free _
    have hd : ¬ g1 = g2 := hA1.d3
    have hd' : ¬ g2 = g1 := fun e => hA1.d3 e.symm
    have HP := Lib.hid (fun k c => hX_put x off s pre i hA1 k c)
    have HT : Hid (b ≠ g1 ∧ b ≠ g2 ∧ b < w.heap.size ∧ g1 < w.heap.size ∧ g2 < w.heap.size) := Lib.hid ⟨hA1.d1, hA1.d2, hbl⟩
    clear hA1 hA0
    have cw : W.cell? ⟨w.heap.size, 0, none⟩ = some (.pointer (some ⟨b, 0, none⟩)) := bW1.cell 0 rfl
    have cp : W.cell? ⟨w.heap.size + 1, 1, none⟩ = some (.string s) := bP1.cell 1 rfl
    obtain ⟨iv, hiv⟩ : ∃ iv, ov0 x.pos off + i.1 = iv := ⟨_, rfl⟩
    obtain ⟨kv, hkv⟩ : ∃ kv, ov1 x.pos off + i.1 = kv := ⟨_, rfl⟩
    have HP' := Lib.hid (HP.out kv (sb s iv) hkv (by rw [hiv])); clear HP
    rw [hiv] at hl1 ⊢
    have hsb := sb_get s iv hl1
    rw [hkv] at ch cb f1 f2 hl2 ⊢
    clear hiv hkv
    have j1 : (0 : Int) ≤ iv := by omega
    have j2 : (iv : Int) < s.size := by omega
    have j3 : (kv : Int) < x.n := by omega
    have j4 : (0 : Int) ≤ kv := by omega
    gi_wp2
    refine wpIn_region_take_tail' 9 14 [0, 1, 2, 3, 4, 5, 6, 7, 8, 10, 11, 12, 13] _ _ (by kernel_rfl) (by kernel_rfl) (by kernel_rfl) rfl (by kernel_rfl) (fun _ _ _ h => h) (.inl ⟨rfl, fun _ => rfl⟩) ?_
    simp only [List.take_succ_cons, List.take_zero, List.drop_succ_cons, List.drop_zero, List.cons_append, List.nil_append, Nat.reduceAdd, Nat.reduceSub]
    repeat still_step
    try refine wpStill_nil ?_
    go_wp2
    refine ⟨by simp, ?_⟩
    gi_wp2
    obtain ⟨t1, t2, t3, t4, t5⟩ := HT.out
    have hfar : ∀ g, g ≠ g1 → g ≠ g2 → ((W.setCell ⟨g1, kv, none⟩ (.int .u8 (sb s iv).toNat)).setCell ⟨g2, kv, none⟩ (.bool true)).drew.heap[g]? = W.heap[g]? := fun g e1 e2 => (Below.heap_setCell _ _ _ g e2).trans (Below.heap_setCell _ _ _ g e1)
    have ho : Only [g1, g2] W ((W.setCell ⟨g1, kv, none⟩ (.int .u8 (sb s iv).toNat)).setCell ⟨g2, kv, none⟩ (.bool true)).drew := (((Only.refl _ _).put (by simp) _).put (by simp) _).drew
    exact ⟨(((KeepsOthers.setCell _ _ _).trans (KeepsOthers.setCell _ _ _)).trans (KeepsOthers.drew _)).from _, ⟨hfar _ t1 t2, hfar _ (by omega) (by omega), hfar _ (by omega) (by omega)⟩, HP'.out.keep (S := []) (Only.refl _ _).drew (by simp) (by simp) (by simp), bW1.keep ho (by simp; omega), bP1.keep ho (by simp; omega), hB1.trans ho⟩
  case done =>
    rintro D zs W hD rfl ⟨hA1, bW1, bP1, hB1⟩ hK
    have HA := Lib.hid (hX_all x off s f hA1); clear hA1
    gi_wp2
    refine ⟨by simp, .inl ⟨_, _, rfl, run_takeDeferred hK, ?_⟩⟩
    refine ⟨.tuple #[], ?_, rfl, (buf_own b g1 g2).putObj _ HA.out hK rfl, (ownFrom_only (β := Unit) (S := [g1, g2]) (w₀ := w) (B := w.heap.size) (Nat.le_refl _)).putObj (s := ()) _ hB1 (by omega) hK rfl⟩
    simp [results, Tryd.f32, go_sem]
  case stop =>
    rintro D c pre W hD ⟨k, hk, rfl⟩ h hK
    exact h.elim
end Go.Proofs.YtgiekhohhogdiaaDoor
