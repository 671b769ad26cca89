/- Contracts of package frame for what is valid: Encode and Decode. -/
import Derived.Test.YtgiekhohhogdiaaDoorRfO
import Derived.Test.YtgiekhohhogdiaaDoorRfA
import Derived.Test.YtgiekhohhogdiaaDoorArg
import Derived.Maps.AppendAt
namespace Go.Proofs.YtgiekhohhogdiaaDoor
open Go Go.RowKit
set_option linter.unusedVariables false
set_option linter.unusedSimpArgs false

theorem puts_len (l : List Pt) : ∀ (f : Fr) (s : List UInt8), puts l f = some s → (∀ p ∈ l, PtOk p) → s.length ≤ 2000 * l.length := by
  induction l with
  | nil => intro f s h _; simp only [puts, Option.some.injEq] at h; subst h; simp
  | cons p r ih =>
    intro f s h hk
    simp only [puts] at h
    cases h1 : putP p f with
    | none => rw [h1] at h; cases h
    | some a =>
      cases h2 : puts r f with
      | none => rw [h1, h2] at h; cases h
      | some b =>
        rw [h1, h2] at h
        simp only [Option.some.injEq] at h
        subst h
        have := putP_len h1 (hk p (by simp))
        have := ih f b h2 (fun q hq => hk q (by simp [hq]))
        simp only [List.length_append, List.length_cons]
        omega
theorem encF_len {f : Fr} {s : List UInt8} (h : encF f = some s) : 1 ≤ s.length ∧ s.length ≤ 6001 := by
  obtain ⟨l, bs, ht, _, hp, _, rfl⟩ := encF_some h
  have h1 := puts_len l f bs hp (tab_ok ht)
  have h2 := (tab_cases ht).2.2.2.2.2
  simp only [List.length_cons]
  omega
theorem FrOk.inr {w : World} {f : Fr} {rv : Value} (h : FrOk w f rv) : InR f.rg := by
  obtain ⟨a, cap, _, hc⟩ := h.rg
  intro p hp
  obtain ⟨i, hi, rfl⟩ := List.getElem_of_mem hp
  obtain ⟨_, _, _, _, _, _, r1, r2⟩ := hc i hi
  exact ⟨r1.1, r1.2, r2.1, r2.2⟩
theorem enc_ok (f : Fr) (rv : Value) (w : World) (hF : FrOk w f rv) {s : List UInt8} (h : encF f = some s) :
    Calls Tryd.prog 16 #[.agg (frC f rv)] w fun e w' => e = .returned (.tuple #[.string (strB s), .int .i64 0]) ∧ Only [] w w' :=
  (Encode_c f rv w hF).mono fun e w' ⟨h1, h2⟩ => ⟨by rw [h1, h]; rfl, h2⟩
theorem enc_no (f : Fr) (rv : Value) (w : World) (hF : FrOk w f rv) (h : encF f = none) :
    Calls Tryd.prog 16 #[.agg (frC f rv)] w fun e w' => e = .returned (.tuple #[.string (strB []), .int .i64 90]) ∧ Only [] w w' :=
  (Encode_c f rv w hF).mono fun e w' ⟨h1, h2⟩ => ⟨by rw [h1, h]; rfl, h2⟩
/-- Decode at the front of any string. -/
theorem dec_any (s : ByteArray) (hs : s.size ≤ 4611686018427387903) (w : World) :
    Calls Tryd.prog 19 #[.string s, .int .i64 0] w (DecQ (decF s.data.toList) s w) := by
  by_cases h : 0 < s.size
  · have := decode_c s 0 h hs w
    simpa using this
  · have h0 : s.size = 0 := by omega
    have hl : s.data.toList = [] := by
      apply List.length_eq_zero_iff.1
      rw [size_list]; exact h0
    have := decode_end s w
    rw [h0] at this
    refine this.mono fun e w' ⟨h1, h2⟩ => ⟨h2, ?_⟩
    rw [hl]
    exact h1
/-- Decode where a valid frame stands. -/
theorem dec_ok {f : Fr} {p s r : List UInt8} (h : encF f = some s) (hR : InR f.rg) (hp : p.length ≤ 100000) (hr : r.length ≤ 100000) (w : World) :
    Calls Tryd.prog 19 #[.string (strB (p ++ s ++ r)), .int .i64 p.length] w fun e w' => ∃ rv, e = .returned (.tuple #[.agg (frC f rv), .int .i64 ((p.length + s.length : Nat) : Int), .int .i64 0]) ∧ FrOk w' f rv ∧ RgNew w.heap.size rv ∧ Only [] w w' := by
  have hl := encF_len h
  have hz : (strB (p ++ s ++ r)).size = p.length + s.length + r.length := by rw [strB_size]; simp only [List.length_append]
  refine (decode_c (strB (p ++ s ++ r)) p.length (by rw [hz]; omega) (by rw [hz]; omega) w).mono fun e w' ⟨h1, h2⟩ => ?_
  have hd : decF ((strB (p ++ s ++ r)).data.toList.drop p.length) = some (f, r) := by
    rw [strB_list, List.append_assoc, List.drop_left]
    exact dec_enc h hR r
  rw [hd] at h2
  obtain ⟨rv, a', rfl, hok, hnw, ha, hra⟩ := h2
  have hlen : r.length = p.length + s.length + r.length - a' := by
    have := congrArg List.length hra
    rw [drop_len, hz] at this
    exact this
  rw [hz] at ha
  have : a' = p.length + s.length := by omega
  subst this
  exact ⟨rv, rfl, hok, hnw, h1⟩
theorem dec_ok0 {f : Fr} {s : List UInt8} (h : encF f = some s) (hR : InR f.rg) (w : World) :
    Calls Tryd.prog 19 #[.string (strB s), .int .i64 0] w fun e w' => ∃ rv, e = .returned (.tuple #[.agg (frC f rv), .int .i64 s.length, .int .i64 0]) ∧ FrOk w' f rv ∧ RgNew w.heap.size rv ∧ Only [] w w' := by
  have := dec_ok (p := []) (r := []) h hR (by simp) (by simp) w
  simpa using this
end Go.Proofs.YtgiekhohhogdiaaDoor
/- Rows of frames: a slice that owns the cells of its frames. -/
namespace Go.Proofs.YtgiekhohhogdiaaDoor
open Go Go.RowKit
set_option linter.unusedVariables false
set_option linter.unusedSimpArgs false

/-- The cells of a frame with the slice of its ranges. -/
def frc (x : Fr × Value) : List Value := (frC x.1 x.2).toList
theorem frc_len (x : Fr × Value) : (frc x).length = 13 := rfl
theorem frcs_len (l : List (Fr × Value)) : (l.flatMap frc).length = l.length * 13 := by
  induction l with
  | nil => rfl
  | cons p L ih => rw [List.flatMap_cons, List.length_append, ih, frc_len, List.length_cons]; omega
theorem frcs_get (L : List (Fr × Value)) : ∀ (k : Nat) (hk : k < L.length) (j : Nat), j < 13 → (L.flatMap frc)[k * 13 + j]? = (frc (L[k]'hk))[j]? := by
  induction L with
  | nil => intro k hk; simp at hk
  | cons p L ih =>
    intro k hk j hj
    rw [List.flatMap_cons]
    cases k with
    | zero => rw [List.getElem?_append_left (by rw [frc_len]; omega), Nat.zero_mul, Nat.zero_add]; rfl
    | succ k =>
      rw [List.getElem?_append_right (by rw [frc_len]; omega), frc_len, show (k + 1) * 13 + j - 13 = k * 13 + j by omega, ih k (by simpa using hk) j hj]
      rfl
theorem frcs_inv (L : List (Fr × Value)) (q : Nat) (u : Value) (h : (L.flatMap frc)[q]? = some u) : ∃ (k : Nat) (hk : k < L.length) (j : Nat), j < 13 ∧ q = k * 13 + j ∧ (frc (L[k]'hk))[j]? = some u := by
  have hq : q < L.length * 13 := by
    rw [← frcs_len]
    rcases Nat.lt_or_ge q (L.flatMap frc).length with x | x
    · exact x
    · rw [List.getElem?_eq_none x] at h; cases h
  have hk : q / 13 < L.length := by omega
  refine ⟨q / 13, hk, q % 13, by omega, by omega, ?_⟩
  rw [← frcs_get L (q / 13) hk (q % 13) (by omega), show q / 13 * 13 + q % 13 = q by omega, h]
theorem rg_one {w : World} {v : Value} {L : List (Int × Int)} (h : RgAt w v L) : v.oneCell' = true := by
  obtain ⟨a, cap, rfl, _⟩ := h; rfl
theorem frc_one {x : Fr × Value} (h : x.2.oneCell' = true) : ∀ u ∈ frc x, u.oneCell' = true := by
  intro u hu
  simp only [frc, frC, List.mem_cons, List.not_mem_nil, or_false] at hu
  rcases hu with rfl | rfl | rfl | rfl | rfl | rfl | rfl | rfl | rfl | rfl | rfl | rfl | rfl
  all_goals first | rfl | exact h
/-- Ranges lie in another block than g. -/
def RgOff (o : Option Nat) (x : Fr × Value) : Prop := x.1.rg ≠ [] → ∀ a n c, x.2 = .slice (some a) n c → o ≠ some a.block
/-- The slice v owns a row of the frames l. -/
structure FrRow (w : World) (base : Nat) (v : Value) (l : List (Fr × Value)) : Prop where
  own : w.ownsRow base 33 13 v l.length (l.flatMap frc)
  ok : ∀ x ∈ l, FrOk w x.1 x.2
  off : ∀ x ∈ l, RgOff v.ownBlock x
theorem FrRow.nil (w : World) (base : Nat) : FrRow w base (.slice none 0 0) [] := ⟨⟨rfl, .inl ⟨rfl, rfl⟩⟩, by simp, by simp⟩
theorem FrRow.shape {w : World} {base : Nat} {v : Value} {L : List (Fr × Value)} (h : FrRow w base v L) : ∃ a cap, v = .slice a L.length cap := by
  rcases h.own.2 with ⟨rfl, h2⟩ | ⟨g, cap, cur, rfl, _⟩
  · rw [h2]; exact ⟨_, _, rfl⟩
  · exact ⟨_, _, rfl⟩
theorem FrRow.weaken {w : World} {base base' : Nat} {v : Value} {L : List (Fr × Value)} (h : FrRow w base v L) (hb : base' ≤ base) : FrRow w base' v L := by
  refine ⟨⟨h.own.1, ?_⟩, h.ok, h.off⟩
  rcases h.own.2 with h2 | ⟨g, cap, cur, rfl, hb2, r⟩
  · exact .inl h2
  · exact .inr ⟨g, cap, cur, rfl, by omega, r⟩
theorem FrRow.keep {w w' : World} {base : Nat} {v : Value} {L : List (Fr × Value)} (h : FrRow w base v L) (ho : Only [] w w') : FrRow w' base v L := by
  refine ⟨⟨h.own.1, ?_⟩, fun x hx => (h.ok x hx).keep ho, h.off⟩
  rcases h.own.2 with h2 | ⟨g, cap, cur, rfl, hb, hg, h1, h2, h3, h4⟩
  · exact .inl h2
  · exact .inr ⟨g, cap, cur, rfl, hb, (ho.block g (Array.getElem?_eq_some_iff.1 hg).1 (by simp)).trans hg, h1, h2, h3, h4⟩
/-- The cells of a row that is not empty. -/
theorem FrRow.form {w : World} {base : Nat} {v : Value} {L : List (Fr × Value)} (h : FrRow w base v L) (hl : 0 < L.length) : ∃ g cap, v = .slice (some ⟨g, 0, none⟩) L.length cap ∧ base ≤ g ∧ g < w.heap.size ∧ L.length ≤ cap ∧ ∀ k (hk : k < L.length) j, j < 13 → w.cell? ⟨g, k * 13 + j, none⟩ = (frc (L[k]'hk))[j]? := by
  rcases h.own.2 with ⟨_, h2⟩ | ⟨g, cap, cur, rfl, hb, hg, h1, h2, h3, h4⟩
  · omega
  · refine ⟨g, cap, rfl, hb, (Array.getElem?_eq_some_iff.1 hg).1, h1, fun k hk j hj => ?_⟩
    have hA : At w g 33 cur := hg
    rw [← frcs_get L k hk j hj]
    have e : (cur.toList.take (L.length * 13))[k * 13 + j]? = (L.flatMap frc)[k * 13 + j]? := by rw [h4]
    rw [List.getElem?_take, if_pos (by omega)] at e
    rw [← e]
    have := frcs_len L
    obtain ⟨u, hu⟩ : ∃ u, (L.flatMap frc)[k * 13 + j]? = some u := ⟨_, List.getElem?_eq_getElem (by omega)⟩
    rw [hu] at e
    have e2 : cur[k * 13 + j]? = some u := by simpa using e
    rw [hA.cell _ e2]
    simpa using e2.symm
theorem A_infoFr : (Tryd.prog.info? 33).map (fun i => (i.zero.map fun z => z.cells.size, i.size, i.bytes)) = some (some 13, 13, 136) := by kernel_rfl
theorem RgAt.grown {w w' : World} {o : Option Nat} {x : Fr × Value} (h : RgAt w x.2 x.1.rg) (ho : RgOff o x) (hg : w.grownBy w' o) : RgAt w' x.2 x.1.rg := by
  by_cases he : x.1.rg = []
  · obtain ⟨a, cap, hv, hc⟩ := h
    exact ⟨a, cap, hv, fun i hi => by rw [he] at hi; simp at hi⟩
  · obtain ⟨a, cap, hv, hc⟩ := h
    refine ⟨a, cap, hv, fun i hi => ?_⟩
    obtain ⟨g, off, rfl, hlt, c1, c2, r1, r2⟩ := hc i hi
    have hn := ho he _ _ _ hv
    have hb := hg.block g hlt (fun e => hn e.symm)
    exact ⟨g, off, rfl, Nat.lt_of_lt_of_le hlt hg.size, (World.cell?_of_block (a := ⟨g, off + i * 2, none⟩) hb).trans c1, (World.cell?_of_block (a := ⟨g, off + i * 2 + 1, none⟩) hb).trans c2, r1, r2⟩
theorem FrOk.grown {w w' : World} {o : Option Nat} {x : Fr × Value} (h : FrOk w x.1 x.2) (ho : RgOff o x) (hg : w.grownBy w' o) : FrOk w' x.1 x.2 := ⟨h.wf, h.ty, RgAt.grown h.rg ho hg, h.sz⟩
theorem RgOff.new {w : World} {o o' : Option Nat} {x : Fr × Value} (h : FrOk w x.1 x.2) (ho : RgOff o x) (hn : o' = o ∨ o' = some w.heap.size) : RgOff o' x := by
  rcases hn with rfl | rfl
  · exact ho
  · intro hne a n c hv e
    obtain ⟨a', cap, hv', hc⟩ := h.rg
    have hl : 0 < x.1.rg.length := List.length_pos_iff.2 hne
    obtain ⟨g, off, rfl, hlt, _⟩ := hc 0 hl
    rw [hv] at hv'
    cases hv'
    cases e
    exact Nat.lt_irrefl _ hlt
/-- append of the frames M, which lie at a, to the row L. -/
theorem FrRow.append {w : World} {base : Nat} {v : Value} {L : List (Fr × Value)} (h : FrRow w base v L) (a : Addr) (M : List (Fr × Value)) (c : Nat) (hM : ∀ k (hk : k < M.length) j, j < 13 → w.cell? (a.add (k * 13 + j)) = (frc (M[k]'hk))[j]?)
    (hok : ∀ x ∈ M, FrOk w x.1 x.2) (hoff : ∀ x ∈ M, RgOff v.ownBlock x) (hs : L.length + M.length ≤ 1000000) (hbase : base ≤ w.heap.size) :
    ∃ v' w', (∀ ty, (Builtin.append_ #[30, 30] ty #[v, .slice (some a) M.length c]).run Tryd.prog w = .ok v' w') ∧ FrRow w' base v' (L ++ M) ∧ w.grownBy w' v.ownBlock := by
  obtain ⟨i, hi, hzz⟩ := Option.map_eq_some_iff.1 A_infoFr
  simp only [Prod.mk.injEq] at hzz
  obtain ⟨hz0, hsz, hb⟩ := hzz
  obtain ⟨z, hz, hz5⟩ := Option.map_eq_some_iff.1 hz0
  have key := fun ty => run_append_own_at (P := Tryd.prog) w base 30 ty 33 i z 13 136 Tryd.underlying30 hi hz hsz hb hz5 (by decide) v L.length (L.flatMap frc) h.own a M.length c (M.flatMap frc) (frcs_len M) (fun q u hq => by
    obtain ⟨k, hk, j, hj, rfl, e⟩ := frcs_inv M q u hq
    rw [hM k hk j hj, e]) (fun u hu => by
    obtain ⟨x, hx, hu⟩ := List.mem_flatMap.1 hu
    exact frc_one (rg_one (hok x hx).rg) u hu) (by unfold maxLen; omega) (by omega) hbase
  obtain ⟨v', w', e1, e2, e3, _, e5⟩ := key 30
  refine ⟨v', w', fun ty => ?_, ⟨?_, fun x hx => ?_, fun x hx => ?_⟩, e3⟩
  · rw [← e1]; rfl
  · rw [List.length_append, List.flatMap_append]
    exact e2
  · rcases List.mem_append.1 hx with hx | hx
    · exact (h.ok x hx).grown (h.off x hx) e3
    · exact (hok x hx).grown (hoff x hx) e3
  · rcases List.mem_append.1 hx with hx | hx
    · exact RgOff.new (h.ok x hx) (h.off x hx) e5
    · exact RgOff.new (hok x hx) (hoff x hx) e5
theorem Below.grow {w0 w w' : World} {B : Nat} {o : Option Nat} (h : Below B w0 w) (hB : B ≤ w.heap.size) (hg : w.grownBy w' o) (ho : ∀ j, o = some j → B ≤ j) : Below B w0 w' := h.grown hg hB ho
/-- append of one frame that lies in a new block. -/
theorem FrRow.push {w : World} {base : Nat} {v : Value} {L : List (Fr × Value)} (h : FrRow w base v L) (f : Fr) (rv : Value) (hok : FrOk w f rv) (hoff : RgOff v.ownBlock (f, rv)) (hs : L.length ≤ 900000) (hbase : base ≤ w.heap.size) :
    ∃ v' w', (∀ ty, (Builtin.append_ #[30, 30] ty #[v, .slice (some ⟨w.heap.size, 0, none⟩) 1 1]).run Tryd.prog (w.alloc (.cells (frC f rv) 33)) = .ok v' w') ∧ FrRow w' base v' (L ++ [(f, rv)]) ∧ Below base w w' ∧
      (∀ q t cs, At w q t cs → t ≠ 33 → At w' q t cs) := by
  have hO : Only [] w (w.alloc (.cells (frC f rv) 33)) := (Only.refl [] w).alloc _
  have hA := At.new w 33 (frC f rv)
  have h2 := h.keep hO
  obtain ⟨v', w', e1, e2, e3⟩ := h2.append ⟨w.heap.size, 0, none⟩ [(f, rv)] 1 (fun k hk j hj => by
    have hk0 : k = 0 := by simpa using hk
    subst hk0
    rw [add_of_none]
    simp only [Nat.zero_mul, Nat.zero_add, List.getElem_cons_zero]
    have hlen : (frc (f, rv)).length = 13 := rfl
    rw [List.getElem?_eq_getElem (by omega)]
    refine hA.cell j ?_
    rw [← Array.getElem?_toList]
    exact List.getElem?_eq_getElem (l := frc (f, rv)) (by omega)) (by
      intro x hx; rw [List.mem_singleton] at hx; subst hx; exact hok.keep hO) (by
      intro x hx; rw [List.mem_singleton] at hx; subst hx; exact hoff) (by simp; omega) (by simp; omega)
  refine ⟨v', w', e1, e2, ((Below.refl base w).alloc hbase _).grown e3 (by simp; omega) (fun j e => (World.ownsRow.lt h.own j e).1), fun q t cs hq ht => ?_⟩
  exact (e3.block q (hq.alloc _).lt (row_not (hq.alloc (.cells (frC f rv) 33)) ht h2.own)).trans (hq.alloc _)
end Go.Proofs.YtgiekhohhogdiaaDoor
