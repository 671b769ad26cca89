/- Contracts of package reassembly: hold (the piece's bytes are put into the window). -/
import Derived.Test.YtnnmmmeppbdlnaaDoorSnD
namespace Go.Proofs.YtnnmmmeppbdlnaaDoor
open Go Go.RowKit Go.Shelf
set_option linter.unusedVariables false
set_option linter.unusedSectionVars false
set_option linter.unusedSimpArgs false
attribute [local go_sem] Oper.semAt_some
attribute [local irreducible] wpStill

theorem ownFrom_only {β : Type} {B : Nat} {S : List Nat} {w₀ : World} (hB : w₀.heap.size ≤ B) : OwnFrom B (fun (_ : β) W => Only S w₀ W) := by
  intro y X Y row h hg hrow
  obtain ⟨h1, h2, h3, h4, h5⟩ := hg
  refine ⟨h1.trans h.os, h2.trans h.tape, h3.trans h.output, Nat.le_trans h.size h4, fun i hi hn => ?_⟩
  refine (h5 i (Nat.lt_of_lt_of_le hi h.size) (fun e => ?_)).trans (h.block i hi hn)
  have := (hrow i e.symm).1
  omega
/-- Is k among the places that the indexes of pre fill? -/
def hit (o1 : Nat) {n : Nat} (pre : List (Fin n)) (k : Nat) : Bool := pre.any fun i => decide (o1 + i.1 = k)
def hBs (x : Bf) (off : Int) (s : ByteArray) {n : Nat} (pre : List (Fin n)) (k : Nat) : UInt8 := if hit (ov1 x.pos off) pre k then sb s (ov0 x.pos off + (k - ov1 x.pos off)) else x.B k
def hHs (x : Bf) (off : Int) {n : Nat} (pre : List (Fin n)) (k : Nat) : Bool := if hit (ov1 x.pos off) pre k then true else x.H k
def hX (x : Bf) (off : Int) (s : ByteArray) {n : Nat} (pre : List (Fin n)) : Bf := { x with B := hBs x off s pre, H := hHs x off pre }
theorem hit_add (o1 : Nat) {n : Nat} (pre : List (Fin n)) (i : Fin n) (k : Nat) : hit o1 (pre ++ [i]) k = (hit o1 pre k || decide (o1 + i.1 = k)) := by simp [hit]
theorem hBs_add (x : Bf) (off : Int) (s : ByteArray) {n : Nat} (pre : List (Fin n)) (i : Fin n) : hBs x off s (pre ++ [i]) = fun k => if k = ov1 x.pos off + i.1 then sb s (ov0 x.pos off + i.1) else hBs x off s pre k := by
  funext k
  unfold hBs
  rw [hit_add]
  by_cases e : k = ov1 x.pos off + i.1
  · subst e; simp
  · have e2 : ¬ ov1 x.pos off + i.1 = k := fun h => e h.symm
    simp [e, e2]
theorem hHs_add (x : Bf) (off : Int) {n : Nat} (pre : List (Fin n)) (i : Fin n) : hHs x off (pre ++ [i]) = fun k => if k = ov1 x.pos off + i.1 then true else hHs x off pre k := by
  funext k
  unfold hHs
  rw [hit_add]
  by_cases e : k = ov1 x.pos off + i.1
  · subst e; simp
  · have e2 : ¬ ov1 x.pos off + i.1 = k := fun h => e h.symm
    simp [e, e2]
theorem hit_all (x : Bf) (off : Int) (m k : Nat) (hk : k < x.n) : hit (ov1 x.pos off) (List.finRange (ovN x.n m x.pos off)) k = decide (off ≤ x.pos + k ∧ x.pos + k < off + m) := by
  rw [Bool.eq_iff_iff]
  simp only [hit, List.any_eq_true, decide_eq_true_eq]
  have e := ov_eq x.pos off
  constructor
  · rintro ⟨i, _, rfl⟩
    obtain ⟨l1, l2⟩ := ov_lt i.2
    omega
  · rintro ⟨a, c⟩
    have hj : k - ov1 x.pos off < ovN x.n m x.pos off := by unfold ovN ov0 ov1 at *; omega
    refine ⟨⟨_, hj⟩, List.mem_finRange _, ?_⟩
    show ov1 x.pos off + (k - ov1 x.pos off) = k
    unfold ov1 at *; omega
theorem hB_all (x : Bf) (off : Int) (s : ByteArray) (f : Bool) (k : Nat) (hk : k < x.n) : hBs x off s (List.finRange (ovN x.n s.size x.pos off)) k = (x.hold off s.data.toList f).B k := by
  have hl : s.data.toList.length = s.size := by simp
  simp only [hBs, Bf.hold, hit_all x off s.size k hk, hl, decide_eq_true_eq]
  by_cases c : off ≤ x.pos + k ∧ x.pos + k < off + s.size
  · rw [if_pos c, if_pos c]
    unfold sb
    congr 1
    unfold ov0 ov1; omega
  · rw [if_neg c, if_neg c]
theorem hH_all (x : Bf) (off : Int) (s : ByteArray) (f : Bool) (k : Nat) (hk : k < x.n) : hHs x off (List.finRange (ovN x.n s.size x.pos off)) k = (x.hold off s.data.toList f).H k := by
  have hl : s.data.toList.length = s.size := by simp
  simp only [hHs, Bf.hold, hit_all x off s.size k hk, hl, decide_eq_true_eq]
theorem hX_all {w : World} {b g1 g2 : Nat} (x : Bf) (off : Int) (s : ByteArray) (f : Bool) (h : BufAt w b g1 g2 (hX x off s (List.finRange (ovN x.n s.size x.pos off)))) : BufAt w b g1 g2 { x with B := (x.hold off s.data.toList f).B, H := (x.hold off s.data.toList f).H } := by
  obtain ⟨a1, r, t, d1, d2, d3, n1, n0, p0, p1, h0, h1⟩ := h
  exact ⟨a1, r.congr (fun k hk => hB_all x off s f k hk), t.congr (fun k hk => hH_all x off s f k hk), d1, d2, d3, n1, n0, p0, p1, h0, h1⟩
theorem hX_put {w : World} {b g1 g2 : Nat} (x : Bf) (off : Int) (s : ByteArray) {n : Nat} (pre : List (Fin n)) (i : Fin n) (h : BufAt w b g1 g2 (hX x off s pre)) (k : Nat) (c : UInt8) (hk : ov1 x.pos off + i.1 = k) (hc : sb s (ov0 x.pos off + i.1) = c) :
    BufAt ((w.setCell ⟨g1, k, none⟩ (.int .u8 c.toNat)).setCell ⟨g2, k, none⟩ (.bool true)) b g1 g2 (hX x off s (pre ++ [i])) := by
  subst hk hc
  obtain ⟨a1, r, t, d1, d2, d3, n1, n0, p0, p1, h0, h1⟩ := h
  refine ⟨(a1.keep (S := [g1, g2]) (((Only.refl _ _).put (by simp) _).put (by simp) _) (by simp; exact ⟨d1, d2⟩)), ?_, ?_, d1, d2, d3, n1, n0, p0, p1, h0, h1⟩
  · have := (r.put (ov1 x.pos off + i.1) (sb s (ov0 x.pos off + i.1))).far (p := ⟨g2, ov1 x.pos off + i.1, none⟩) d3 (.bool true)
    show RowB _ g1 x.n (hBs x off s (pre ++ [i]))
    rw [hBs_add]; exact this
  · have := (t.far (p := ⟨g1, ov1 x.pos off + i.1, none⟩) (fun e => d3 e.symm) (.int .u8 (sb s (ov0 x.pos off + i.1)).toNat)).put (ov1 x.pos off + i.1) true
    show RowH _ g2 x.n (hHs x off (pre ++ [i]))
    rw [hHs_add]; exact this
theorem hX_nil (x : Bf) (off : Int) (s : ByteArray) {n : Nat} : hX x off s ([] : List (Fin n)) = x := rfl

set_option maxRecDepth 100000 in
set_option maxHeartbeats 4000000 in
theorem hold_in (m : Nat) (hm : 3 ≤ m) (b g1 g2 : Nat) (x : Bf) (off : Int) (s : ByteArray) (f : Bool) (hs : s.size ≤ 8192) (q0 : 0 ≤ off) (q1 : off ≤ 1099511627776) (w : World) (hA : BufAt w b g1 g2 x) :
    CallsIn Fence.wide m Tryd.prog 41 #[.pointer (some ⟨b, 0, none⟩), .agg #[.int .i64 off, .string s, .bool f]] w fun e W' => e = .returned (.tuple #[]) ∧ BufAt W' b g1 g2 { x with B := (x.hold off s.data.toList f).B, H := (x.hold off s.data.toList f).H } ∧ Only [g1, g2] w W' := by
  have h1 : 1 ≤ m := by omega
  have hbl := hA.lt
  refine callsIn_of_wp_marks Tryd.func41 rfl trivial ?_ rfl
  simp only [Tryd.ntmps41, List.size_toArray, List.length_cons, List.length_nil, Nat.reduceAdd, Nat.reduceSub, Array.replicate_succ, Array.replicate_zero, List.push_toArray, List.append_toArray, List.nil_append, List.cons_append]
  gi_wp2
  refine ⟨trivial, (overlap_in (m - 1) b off s f _).mono ?_⟩
  rintro e w' ⟨rfl, rfl⟩
  gi_wp2
  have bP := ((At.new (w.alloc (.cells #[.pointer (some ⟨b, 0, none⟩)] 81)) 74 #[.int .i64 off, .string s, .bool f]).alloc (.cells #[.pointer (some ⟨b, 0, none⟩)] 81)).alloc (.cells #[.int .i64 off, .string s, .bool f] 74)
  have bW := (((At.new w 81 #[.pointer (some ⟨b, 0, none⟩)]).alloc (.cells #[.int .i64 off, .string s, .bool f] 74)).alloc (.cells #[.pointer (some ⟨b, 0, none⟩)] 81)).alloc (.cells #[.int .i64 off, .string s, .bool f] 74)
  have bW2 := (At.new ((w.alloc (.cells #[.pointer (some ⟨b, 0, none⟩)] 81)).alloc (.cells #[.int .i64 off, .string s, .bool f] 74)) 81 #[.pointer (some ⟨b, 0, none⟩)]).alloc (.cells #[.int .i64 off, .string s, .bool f] 74)
  have bP2 := At.new (((w.alloc (.cells #[.pointer (some ⟨b, 0, none⟩)] 81)).alloc (.cells #[.int .i64 off, .string s, .bool f] 74)).alloc (.cells #[.pointer (some ⟨b, 0, none⟩)] 81)) 74 #[.int .i64 off, .string s, .bool f]
  have hA0 := (((hA.alloc (.cells #[.pointer (some ⟨b, 0, none⟩)] 81)).alloc (.cells #[.int .i64 off, .string s, .bool f] 74)).alloc (.cells #[.pointer (some ⟨b, 0, none⟩)] 81)).alloc (.cells #[.int .i64 off, .string s, .bool f] 74)
  have hB0 : Only [g1, g2] w ((((w.alloc (.cells #[.pointer (some ⟨b, 0, none⟩)] 81)).alloc (.cells #[.int .i64 off, .string s, .bool f] 74)).alloc (.cells #[.pointer (some ⟨b, 0, none⟩)] 81)).alloc (.cells #[.int .i64 off, .string s, .bool f] 74)) := ((((Only.refl _ w).alloc _).alloc _).alloc _).alloc _
  simp only [World.size_alloc] at bP bW bW2 bP2
  have hsz : ((((w.alloc (.cells #[.pointer (some ⟨b, 0, none⟩)] 81)).alloc (.cells #[.int .i64 off, .string s, .bool f] 74)).alloc (.cells #[.pointer (some ⟨b, 0, none⟩)] 81)).alloc (.cells #[.int .i64 off, .string s, .bool f] 74)).heap.size = w.heap.size + 4 := by simp
  obtain ⟨W0, hW0⟩ : ∃ W0, ((((w.alloc (.cells #[.pointer (some ⟨b, 0, none⟩)] 81)).alloc (.cells #[.int .i64 off, .string s, .bool f] 74)).alloc (.cells #[.pointer (some ⟨b, 0, none⟩)] 81)).alloc (.cells #[.int .i64 off, .string s, .bool f] 74)) = W0 := ⟨_, rfl⟩
  rw [hW0] at bP bW bW2 bP2 hB0 hsz hA0 ⊢
  clear hW0 hA
  refine wpIn_rangeFunc_ownH rfl h1 (gf := 50) (lb := #[.pointer (some ⟨w.heap.size + 1 + 1, 0, none⟩), .pointer (some ⟨w.heap.size + 1 + 1 + 1, 0, none⟩)]) rfl trivial (enters_of Tryd.func50 (by kernel_rfl) rfl)
    (ov_stops (m - 1) (by omega) (w.heap.size + 1 + 1) (w.heap.size + 1 + 1 + 1) b g1 x.n x.pos off s hA0.n1 hs hA0.p0 hA0.p1 q0 q1 W0 (bW2.cell 0 rfl) (bP2.cell 0 rfl) (bP2.cell 1 rfl) hA0.c0 hA0.c1) (fun h k => Tri.trans h k) (Tri.put (by omega) (by omega) (by omega)) (Below.refl _ _) (fun _ => rfl)
    (fun pre W => BufAt W b g1 g2 (hX x off s pre) ∧ At W w.heap.size 81 #[.pointer (some ⟨b, 0, none⟩)] ∧ At W (w.heap.size + 1) 74 #[.int .i64 off, .string s, .bool f] ∧ Only [g1, g2] w W)
    (fun c pre W => False)
    (OwnFrom.and (Own.from (fun y X Y row h => buf_own b g1 g2 (hX x off s y) X Y row h) _) (OwnFrom.and (Own.from (at_own _ _ _) _) (OwnFrom.and (Own.from (at_own _ _ _) _) (ownFrom_only (by omega)))))
    (fun c => fun y X Y row h _ _ => h)
    ⟨hA0, bW, bP, hB0⟩
    (fun i a' W => a' = { tmps := #[.pointer (some ⟨b, 0, none⟩), .agg #[.int .i64 off, .string s, .bool f], .pointer (some ⟨w.heap.size, 0, none⟩), .pointer (some ⟨w.heap.size + 1, 0, none⟩), .int .i64 ((ov0 x.pos off + i.1 : Nat) : Int), .int .i64 ((ov1 x.pos off + i.1 : Nat) : Int), .pointer (some ⟨b, 0, none⟩), .agg #[.int .i64 off, .string s, .bool f], .func (.func 50) #[] #[.pointer (some ⟨w.heap.size + 1 + 1, 0, none⟩), .pointer (some ⟨w.heap.size + 1 + 1 + 1, 0, none⟩)], .int .i64 ((ov0 x.pos off + i.1 : Nat) : Int), .int .i64 ((ov1 x.pos off + i.1 : Nat) : Int), undef, undef, undef, undef, undef, undef, undef, undef, undef, undef, undef, undef, undef, undef, undef, undef], defers := [] })
    (fun i a' _ X Y row hs hg hr => hs)
    ?assign ?body ?done ?stop
  case assign =>
    rintro l pre i W K ⟨hA1, bW1, bP1, hB1⟩ hK
    simp only [ovP]
    gi_wp2
    exact hK _ _ (KeepsFrom.refl _ _) (Tri.refl _ _ _ _) ⟨hA1, bW1, bP1, hB1⟩ rfl
  case body =>
    rintro l pre i a' W hl ⟨r, hr⟩ ⟨hA1, bW1, bP1, hB1⟩ rfl hlt
    obtain ⟨hl1, hl2⟩ := ov_lt i.2
    have c1 : W.cell? ⟨b, 1, none⟩ = some (.slice (some ⟨g1, 0, none⟩) x.n x.n) := hA1.c1
    have c2 : W.cell? ⟨b, 2, none⟩ = some (.slice (some ⟨g2, 0, none⟩) x.n x.n) := hA1.c2
    obtain ⟨u1, ch⟩ : ∃ u, W.cell? ⟨g2, ov1 x.pos off + i.1, none⟩ = some u := ⟨_, hA1.rh.cell _ hl2⟩
    obtain ⟨u2, cb⟩ : ∃ u, W.cell? ⟨g1, ov1 x.pos off + i.1, none⟩ = some u := ⟨_, hA1.rb.cell _ hl2⟩
    have f1 : W.frozen? ⟨g1, ov1 x.pos off + i.1, none⟩ = false := hA1.rb.free _
    have f2 : W.frozen? ⟨g2, ov1 x.pos off + i.1, none⟩ = false := hA1.rh.free _
    have hd : ¬ g1 = g2 := hA1.d3
    have hd' : ¬ g2 = g1 := fun e => hA1.d3 e.symm
    have HP := Lib.hid (fun k c => hX_put x off s pre i hA1 k c)
    have HT : Hid (b ≠ g1 ∧ b ≠ g2 ∧ b < w.heap.size ∧ g1 < w.heap.size ∧ g2 < w.heap.size) := Lib.hid ⟨hA1.d1, hA1.d2, hbl⟩
    clear hA1 hA0
    have cw : W.cell? ⟨w.heap.size, 0, none⟩ = some (.pointer (some ⟨b, 0, none⟩)) := bW1.cell 0 rfl
    have cp : W.cell? ⟨w.heap.size + 1, 1, none⟩ = some (.string s) := bP1.cell 1 rfl
    obtain ⟨iv, hiv⟩ : ∃ iv, ov0 x.pos off + i.1 = iv := ⟨_, rfl⟩
    obtain ⟨kv, hkv⟩ : ∃ kv, ov1 x.pos off + i.1 = kv := ⟨_, rfl⟩
    have HP' := Lib.hid (HP.out kv (sb s iv) hkv (by rw [hiv])); clear HP
    rw [hiv] at hl1 ⊢
    have hsb := sb_get s iv hl1
    rw [hkv] at ch cb f1 f2 hl2 ⊢
    clear hiv hkv
    have j1 : (0 : Int) ≤ iv := by omega
    have j2 : (iv : Int) < s.size := by omega
    have j3 : (kv : Int) < x.n := by omega
    have j4 : (0 : Int) ≤ kv := by omega
    gi_wp2
    refine wpIn_region_take_tail' 9 14 [0, 1, 2, 3, 4, 5, 6, 7, 8, 10, 11, 12, 13] _ _ (by kernel_rfl) (by kernel_rfl) (by kernel_rfl) rfl (by kernel_rfl) (fun _ _ _ h => h) (.inl ⟨rfl, fun _ => rfl⟩) ?_
    simp only [List.take_succ_cons, List.take_zero, List.drop_succ_cons, List.drop_zero, List.cons_append, List.nil_append, Nat.reduceAdd, Nat.reduceSub]
    repeat still_step
    try refine wpStill_nil ?_
    go_wp2
    refine ⟨by simp, ?_⟩
    gi_wp2
    obtain ⟨t1, t2, t3, t4, t5⟩ := HT.out
    have hfar : ∀ g, g ≠ g1 → g ≠ g2 → ((W.setCell ⟨g1, kv, none⟩ (.int .u8 (sb s iv).toNat)).setCell ⟨g2, kv, none⟩ (.bool true)).drew.heap[g]? = W.heap[g]? := fun g e1 e2 => (Below.heap_setCell _ _ _ g e2).trans (Below.heap_setCell _ _ _ g e1)
    have ho : Only [g1, g2] W ((W.setCell ⟨g1, kv, none⟩ (.int .u8 (sb s iv).toNat)).setCell ⟨g2, kv, none⟩ (.bool true)).drew := (((Only.refl _ _).put (by simp) _).put (by simp) _).drew
    exact ⟨(((KeepsOthers.setCell _ _ _).trans (KeepsOthers.setCell _ _ _)).trans (KeepsOthers.drew _)).from _, ⟨hfar _ t1 t2, hfar _ (by omega) (by omega), hfar _ (by omega) (by omega)⟩, HP'.out.keep (S := []) (Only.refl _ _).drew (by simp) (by simp) (by simp), bW1.keep ho (by simp; omega), bP1.keep ho (by simp; omega), hB1.trans ho⟩
  case done =>
    rintro D zs W hD rfl ⟨hA1, bW1, bP1, hB1⟩ hK
    have HA := Lib.hid (hX_all x off s f hA1); clear hA1
    gi_wp2
    refine ⟨by simp, .inl ⟨_, _, rfl, run_takeDeferred hK, ?_⟩⟩
    refine ⟨.tuple #[], ?_, rfl, (buf_own b g1 g2).putObj _ HA.out hK rfl, (ownFrom_only (β := Unit) (S := [g1, g2]) (w₀ := w) (B := w.heap.size) (Nat.le_refl _)).putObj (s := ()) _ hB1 (by omega) hK rfl⟩
    simp [results, Tryd.f41, go_sem]
  case stop =>
    rintro D c pre W hD ⟨k, hk, rfl⟩ h hK
    exact h.elim
end Go.Proofs.YtnnmmmeppbdlnaaDoor
