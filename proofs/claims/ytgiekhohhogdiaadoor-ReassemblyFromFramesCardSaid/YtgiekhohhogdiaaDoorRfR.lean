/- Contracts of package frame: EncodeAll. -/
import Derived.Test.YtgiekhohhogdiaaDoorRfP
import Derived.Deep.LoopGhost
import Derived.Test.YtgiekhohhogdiaaDoorRfQ
import Derived.Deep.Upon
namespace Go.Proofs.YtgiekhohhogdiaaDoor
open Go Go.RowKit
set_option linter.unusedVariables false
set_option linter.unusedSimpArgs false

/-- The slice v holds the frames l. -/
def FrSl (w : World) (v : Value) (l : List (Fr × Value)) : Prop := ∃ a cap, v = .slice a l.length cap ∧ (∀ k (hk : k < l.length), ∃ g off, a = some ⟨g, off, none⟩ ∧ g < w.heap.size ∧ ∀ j, j < 13 → w.cell? ⟨g, off + k * 13 + j, none⟩ = (frc (l[k]'hk))[j]?) ∧ ∀ x ∈ l, FrOk w x.1 x.2
theorem FrRow.sl {w : World} {base : Nat} {v : Value} {l : List (Fr × Value)} (h : FrRow w base v l) : FrSl w v l := by
  obtain ⟨a, cap, rfl⟩ := h.shape
  refine ⟨a, cap, rfl, fun k hk => ?_, h.ok⟩
  obtain ⟨g, cap', e, _, h2, _, h4⟩ := h.form (by omega)
  cases e
  exact ⟨g, 0, rfl, h2, fun j hj => by rw [Nat.zero_add]; exact h4 k hk j hj⟩
theorem FrSl.keep {w w' : World} {v : Value} {l : List (Fr × Value)} (h : FrSl w v l) (ho : Only [] w w') : FrSl w' v l := by
  obtain ⟨a, cap, rfl, hc, hk⟩ := h
  refine ⟨a, cap, rfl, fun k hk => ?_, fun x hx => (hk x hx).keep ho⟩
  obtain ⟨g, off, rfl, hg, h4⟩ := hc k hk
  exact ⟨g, off, rfl, Nat.lt_of_lt_of_le hg ho.size, fun j hj => (ho.cell (p := ⟨g, off + k * 13 + j, none⟩) hg (by simp)).trans (h4 j hj)⟩
/-- All frames, encoded. -/
noncomputable def eaF : List Fr → Option (List UInt8)
  | [] => some []
  | f :: r => match encF f with
    | none => none
    | some a => (eaF r).map (a ++ ·)
def eaV (o : Option (List UInt8)) : Value := match o with
  | some s => .tuple #[.string (strB s), .int .i64 0]
  | none => .tuple #[.string (strB []), .int .i64 90]
def EaQ (R : Option (List UInt8)) (w : World) (e : Ending) (w' : World) : Prop := e = .returned (eaV R) ∧ Only [] w w'
theorem isb_keep {T e : TypeId} {B b : Nat} {bs : List Value} {w w' : World} (h : Lib.IsBuilder T e B b bs w) (ho : Only [] w w') : Lib.IsBuilder T e B b bs w' := by
  rcases h with h | h
  · exact .inl (sb_keep h ho)
  · exact .inr (sb_keep h ho)
def EaRel (L : List Fr) (R : Option (List UInt8)) (w : World) (gk : Nat) (ix : Value) (wr : World) : Prop := ∃ (k : Nat) (acc : List UInt8), gk = L.length - k ∧ k ≤ L.length ∧ ix = .int .i64 k ∧ acc.length ≤ 6001 * k ∧
  Hid (Lib.IsBuilder 54 5 w.heap.size w.heap.size (Lib.byteCells acc) wr) ∧ Hid (R = (eaF (L.drop k)).map (acc ++ ·)) ∧ Hid (Only [] w wr)
set_option maxRecDepth 100000 in
set_option maxHeartbeats 4000000 in
theorem encAll_c (v : Value) (xs : List (Fr × Value)) (w : World) (hS : FrSl w v xs) (hn : xs.length ≤ 1000000) :
    Calls Tryd.prog 8 #[v] w (EaQ (eaF (xs.map Prod.fst)) w) := by
  obtain ⟨R, hR⟩ : ∃ R, eaF (xs.map Prod.fst) = R := ⟨_, rfl⟩
  rw [hR]
  have HR : Hid (R = (eaF ((xs.map Prod.fst).drop 0)).map (([] : List UInt8) ++ ·)) := Lib.hid (by rw [← hR]; simp)
  clear hR
  have HS := Lib.hid hS
  obtain ⟨a, cap, rfl, hcs, hok⟩ := hS
  have HOK := Lib.hid hok
  clear hok
  have hor := Lib.hid ((Only.refl [] w).alloc (.cells #[.pointer none, .slice none 0 0] 54))
  have hsb : Hid (Lib.IsBuilder 54 5 w.heap.size w.heap.size (Lib.byteCells []) (w.alloc (.cells #[.pointer none, .slice none 0 0] 54))) := Lib.hid (.inl ⟨Nat.le_refl _, .slice none 0 0, At.new _ _ _, World.ownsRow_nil _ _ _ _, by simp [Value.ownBlock]⟩)
  go_enter Tryd.func8, Tryd.ntmps8
  go_wp2_with fail
  go_loopg [11] xs.length (fun gk ix wr => EaRel (xs.map Prod.fst) R w gk ix wr)
  case atStart => exact ⟨0, [], by simp, by omega, rfl, by simp, hsb, HR, hor⟩
  case round =>
    obtain ⟨k, acc, rfl, hk, rfl, hacc, hB, hD, hO⟩ := hrel
    clear hor hsb HR
    rw [List.length_map] at hk
    by_cases hlt : k < xs.length
    · have hlt' : (k : Int) < xs.length := by omega
      obtain ⟨g, off, rfl, hg, hcc⟩ := hcs k hlt
      obtain ⟨x, hx⟩ : ∃ x, xs[k]'hlt = x := ⟨_, rfl⟩
      have hokx := HOK.out x (hx ▸ List.getElem_mem _)
      rw [hx] at hcc
      have HDr : Hid ((xs.map Prod.fst).drop k = x.1 :: (xs.map Prod.fst).drop (k + 1)) := Lib.hid (by
        rw [List.drop_eq_getElem_cons (by simpa using hlt)]
        simp [hx])
      clear hx
      obtain ⟨f, rv⟩ := x
      obtain ⟨ra, rc, rfl, hrx⟩ := (show RgAt w rv f.rg from hokx.rg)
      have HK := Lib.hid (hokx.keep hO.out)
      have hcw := fun j hj => (hO.out.cell (p := ⟨g, off + k * 13 + j, none⟩) hg (by simp)).trans (hcc j hj)
      have p0 : wr.cell? ⟨g, off + k * 13, none⟩ = some (.int .i64 f.ty) := hcw 0 (by omega)
      have p1 : wr.cell? ⟨g, off + k * 13 + 1, none⟩ = some (.int .i64 f.st) := hcw 1 (by omega)
      have p2 : wr.cell? ⟨g, off + k * 13 + 2, none⟩ = some (.int .i64 f.off) := hcw 2 (by omega)
      have p3 : wr.cell? ⟨g, off + k * 13 + 3, none⟩ = some (.string (strB f.S)) := hcw 3 (by omega)
      have p4 : wr.cell? ⟨g, off + k * 13 + 4, none⟩ = some (.bool f.fin) := hcw 4 (by omega)
      have p5 : wr.cell? ⟨g, off + k * 13 + 5, none⟩ = some (.int .i64 f.mx) := hcw 5 (by omega)
      have p6 : wr.cell? ⟨g, off + k * 13 + 6, none⟩ = some (.int .i64 f.cd) := hcw 6 (by omega)
      have p7 : wr.cell? ⟨g, off + k * 13 + 7, none⟩ = some (.bool f.uni) := hcw 7 (by omega)
      have p8 : wr.cell? ⟨g, off + k * 13 + 8, none⟩ = some (.int .i64 f.dl) := hcw 8 (by omega)
      have p9 : wr.cell? ⟨g, off + k * 13 + 9, none⟩ = some (.slice ra f.rg.length rc) := hcw 9 (by omega)
      have p10 : wr.cell? ⟨g, off + k * 13 + 10, none⟩ = some (.int .i64 f.sq) := hcw 10 (by omega)
      have p11 : wr.cell? ⟨g, off + k * 13 + 11, none⟩ = some (.int .i64 f.rt) := hcw 11 (by omega)
      have p12 : wr.cell? ⟨g, off + k * 13 + 12, none⟩ = some (.string (strB f.cid)) := hcw 12 (by omega)
      have f9 : IntKind.i64.wrap ((k : Int) + 1) = ((k + 1 : Nat) : Int) := by rw [show (k : Int) + 1 = ((k + 1 : Nat) : Int) by omega]; exact IntWalk.i64_in _ (by omega)
      clear hcw hcc hcs hokx hrx
      go_upto_region 5 with fail
      have hA5 := At.new wr 33 #[.int .i64 f.ty, .int .i64 f.st, .int .i64 f.off, .string (strB f.S), .bool f.fin, .int .i64 f.mx, .int .i64 f.cd, .bool f.uni, .int .i64 f.dl, .slice ra f.rg.length rc, .int .i64 f.sq, .int .i64 f.rt, .string (strB f.cid)]
      have hO5 := hO.out.alloc (.cells #[.int .i64 f.ty, .int .i64 f.st, .int .i64 f.off, .string (strB f.S), .bool f.fin, .int .i64 f.mx, .int .i64 f.cd, .bool f.uni, .int .i64 f.dl, .slice ra f.rg.length rc, .int .i64 f.sq, .int .i64 f.rt, .string (strB f.cid)] 33)
      have hB5 := isb_keep hB.out ((Only.refl [] wr).alloc (.cells #[.int .i64 f.ty, .int .i64 f.st, .int .i64 f.off, .string (strB f.S), .bool f.fin, .int .i64 f.mx, .int .i64 f.cd, .bool f.uni, .int .i64 f.dl, .slice ra f.rg.length rc, .int .i64 f.sq, .int .i64 f.rt, .string (strB f.cid)] 33))
      have hK5 := HK.out.keep ((Only.refl [] wr).alloc (.cells #[.int .i64 f.ty, .int .i64 f.st, .int .i64 f.off, .string (strB f.S), .bool f.fin, .int .i64 f.mx, .int .i64 f.cd, .bool f.uni, .int .i64 f.dl, .slice ra f.rg.length rc, .int .i64 f.sq, .int .i64 f.rt, .string (strB f.cid)] 33))
      clear p0 p1 p2 p3 p4 p5 p6 p7 p8 p9 p10 p11 p12
      generalize wr.alloc (.cells #[.int .i64 f.ty, .int .i64 f.st, .int .i64 f.off, .string (strB f.S), .bool f.fin, .int .i64 f.mx, .int .i64 f.cd, .bool f.uni, .int .i64 f.dl, .slice ra f.rg.length rc, .int .i64 f.sq, .int .i64 f.rt, .string (strB f.cid)] 33) = w5 at hA5 hO5 hB5 hK5 ⊢
      generalize wr.heap.size = b at hA5 ⊢
      have d0 : w5.cell? ⟨b, 0, none⟩ = some (.int .i64 f.ty) := hA5.cell 0 rfl
      have d1 : w5.cell? ⟨b, 1, none⟩ = some (.int .i64 f.st) := hA5.cell 1 rfl
      have d2 : w5.cell? ⟨b, 2, none⟩ = some (.int .i64 f.off) := hA5.cell 2 rfl
      have d3 : w5.cell? ⟨b, 3, none⟩ = some (.string (strB f.S)) := hA5.cell 3 rfl
      have d4 : w5.cell? ⟨b, 4, none⟩ = some (.bool f.fin) := hA5.cell 4 rfl
      have d5 : w5.cell? ⟨b, 5, none⟩ = some (.int .i64 f.mx) := hA5.cell 5 rfl
      have d6 : w5.cell? ⟨b, 6, none⟩ = some (.int .i64 f.cd) := hA5.cell 6 rfl
      have d7 : w5.cell? ⟨b, 7, none⟩ = some (.bool f.uni) := hA5.cell 7 rfl
      have d8 : w5.cell? ⟨b, 8, none⟩ = some (.int .i64 f.dl) := hA5.cell 8 rfl
      have d9 : w5.cell? ⟨b, 9, none⟩ = some (.slice ra f.rg.length rc) := hA5.cell 9 rfl
      have d10 : w5.cell? ⟨b, 10, none⟩ = some (.int .i64 f.sq) := hA5.cell 10 rfl
      have d11 : w5.cell? ⟨b, 11, none⟩ = some (.int .i64 f.rt) := hA5.cell 11 rfl
      have d12 : w5.cell? ⟨b, 12, none⟩ = some (.string (strB f.cid)) := hA5.cell 12 rfl
      have HB5 := Lib.hid hB5
      have HO5 := Lib.hid hO5
      clear hA5 hO5 hB5 hB hO HK
      cases hE : encF f with
      | none =>
        have hen := enc_no f (.slice ra f.rg.length rc) w5 hK5 hE
        have HF : Hid (R = none) := Lib.hid (by rw [hD.out, HDr.out]; simp only [eaF, hE]; rfl)
        simp only [frC] at hen
        clear hE hK5
        go_wp2_with fail
        refine hen.mono ?_
        rintro e w6 ⟨rfl, ho⟩
        go_wp2_with fail
        refine ⟨rfl, .tuple #[.string (strB []), .int .i64 90], ?_, by rw [HF.out]; rfl, HO5.out.trans ho⟩
        simp [results, Tryd.f8, go_sem]
        rfl
      | some t =>
        have hen := enc_ok f (.slice ra f.rg.length rc) w5 hK5 hE
        have ht := (encF_len hE).2
        have HF : Hid (R = (eaF ((xs.map Prod.fst).drop (k + 1))).map ((acc ++ t) ++ ·)) := Lib.hid (by
          rw [hD.out, HDr.out]
          simp only [eaF, hE, Option.map_map]
          congr 1
          funext L
          simp)
        simp only [frC] at hen
        clear hE hK5
        go_wp2_with fail
        refine hen.mono ?_
        rintro e w6 ⟨rfl, ho⟩
        have hwr := write_c w.heap.size w.heap.size (Lib.byteCells acc) (strB t) w6 (isb_keep HB5.out ho) (by rw [Lib.byteCells_length, strB_size]; omega) (HO5.out.trans ho).size
        have hcc : Lib.byteCells acc ++ Lib.strCells (strB t) = Lib.byteCells (acc ++ t) := by rw [Lib.strCells_eq, strB_list, ← Lib.byteCells_append]
        rw [hcc] at hwr
        have HO6 := Lib.hid (HO5.out.trans ho)
        clear hcc ho hen
        go_wp2_with fail
        refine hwr.mono ?_
        rintro e w7 ⟨rfl, ⟨hsb7, hb7⟩, _⟩
        have HSB7 := Lib.hid hsb7
        have HO7 := Lib.hid (only_bel HO6.out hb7)
        clear hsb7 hb7 hwr
        go_wp2_with fail
        go_roundg ((xs.map Prod.fst).length - (k + 1))
        case measure => simp; omega
        case rel => exact ⟨k + 1, acc ++ t, rfl, by simp; omega, by simp <;> omega, by simp; omega, Lib.hid (.inr HSB7.out), HF, HO7⟩
    · obtain rfl : k = xs.length := by omega
      have hlt' : ¬ (xs.length : Int) < xs.length := by omega
      have HF : Hid (R = some acc) := Lib.hid (by rw [hD.out, List.drop_of_length_le (by simp)]; simp only [eaF, Option.map_some, List.append_nil])
      clear hcs
      go_wp2_with fail
      refine (Tryd.Builder_String_any w.heap.size w.heap.size acc wr hB.out hO.out.size).mono ?_
      rintro e w9 ⟨rfl, hb9⟩
      have HO9 := Lib.hid (only_bel hO.out hb9)
      clear hb9
      go_wp2_with fail
      refine ⟨rfl, .tuple #[.string (strB acc), .int .i64 0], ?_, by rw [HF.out]; rfl, HO9.out⟩
      simp [results, Tryd.f8, go_sem]
      try rfl
end Go.Proofs.YtgiekhohhogdiaaDoor
/- Rows of frames put behind one another; lists of frames, encoded and read back. -/
namespace Go.Proofs.YtgiekhohhogdiaaDoor
open Go Go.RowKit
set_option linter.unusedVariables false
set_option linter.unusedSimpArgs false

theorem eaF_app {a b : List Fr} : ∀ {x y : List UInt8}, eaF a = some x → eaF b = some y → eaF (a ++ b) = some (x ++ y) := by
  induction a with
  | nil => intro x y h k; simp only [eaF, Option.some.injEq] at h; subst h; simpa using k
  | cons f r ih =>
    intro x y h k
    simp only [eaF] at h
    cases hf : encF f with
    | none => rw [hf] at h; cases h
    | some s =>
      rw [hf] at h
      cases hr : eaF r with
      | none => rw [hr] at h; cases h
      | some z =>
        rw [hr] at h
        simp only [Option.map_some, Option.some.injEq] at h
        subst h
        simp only [List.cons_append, eaF, hf, ih hr k, Option.map_some, List.append_assoc]
theorem eaF_bad {a : List Fr} {f : Fr} : ∀ {x : List UInt8}, eaF a = some x → encF f = none → eaF (a ++ [f]) = none := by
  induction a with
  | nil => intro x _ k; simp only [List.nil_append, eaF, k]
  | cons g r ih =>
    intro x h k
    simp only [eaF] at h
    cases hf : encF g with
    | none => rw [hf] at h; cases h
    | some s =>
      rw [hf] at h
      cases hr : eaF r with
      | none => rw [hr] at h; cases h
      | some z => simp only [List.cons_append, eaF, hf, ih hr k, Option.map_none]
theorem eaF_all (a : List Fr) : (∀ f ∈ a, ∃ s, encF f = some s) → ∃ t, eaF a = some t ∧ t.length ≤ 6001 * a.length := by
  induction a with
  | nil => intro _; exact ⟨[], rfl, by simp⟩
  | cons f r ih =>
    intro h
    obtain ⟨s, hs⟩ := h f (by simp)
    obtain ⟨t, ht, hl⟩ := ih (fun g hg => h g (by simp [hg]))
    have := (encF_len hs).2
    exact ⟨s ++ t, by simp only [eaF, hs, ht, Option.map_some], by simp only [List.length_append, List.length_cons]; omega⟩
theorem daF_eaF (L : List Fr) : ∀ {t : List UInt8} (n : Nat), eaF L = some t → (∀ f ∈ L, InR f.rg) → L.length < n → daF n t = some L := by
  induction L with
  | nil =>
    intro t n h _ hn
    obtain ⟨m, rfl⟩ : ∃ m, n = m + 1 := ⟨n - 1, by simp at hn; omega⟩
    simp only [eaF, Option.some.injEq] at h
    subst h
    simp [daF]
  | cons f r ih =>
    intro t n h hI hn
    obtain ⟨m, rfl⟩ : ∃ m, n = m + 1 := ⟨n - 1, by simp at hn; omega⟩
    simp only [eaF] at h
    cases hf : encF f with
    | none => rw [hf] at h; cases h
    | some s =>
      rw [hf] at h
      cases hr : eaF r with
      | none => rw [hr] at h; cases h
      | some z =>
        rw [hr] at h
        simp only [Option.map_some, Option.some.injEq] at h
        subst h
        have hne : s ++ z ≠ [] := by
          intro e
          have h1 := congrArg List.length e
          have h2 := (encF_len hf).1
          simp only [List.length_append, List.length_nil] at h1
          omega
        simp only [daF]
        rw [if_neg hne, dec_enc hf (hI f (by simp)) z]
        simp only
        rw [ih m hr (fun g hg => hI g (by simp [hg])) (by simp at hn; omega)]
        rfl
theorem eaF_len (L : List Fr) : ∀ {t : List UInt8}, eaF L = some t → L.length ≤ t.length := by
  induction L with
  | nil => intro t _; simp
  | cons f r ih =>
    intro t h
    simp only [eaF] at h
    cases hf : encF f with
    | none => rw [hf] at h; cases h
    | some s =>
      rw [hf] at h
      cases hr : eaF r with
      | none => rw [hr] at h; cases h
      | some z =>
        rw [hr] at h
        simp only [Option.map_some, Option.some.injEq] at h
        subst h
        have := ih hr
        have := (encF_len hf).1
        simp only [List.length_append, List.length_cons]
        omega
/-- append of all the frames of a row to another row. -/
theorem FrRow.cat {w : World} {base base2 : Nat} {v v2 : Value} {L M : List (Fr × Value)} (h : FrRow w base v L) (h2 : FrRow w base2 v2 M) (hoff : ∀ x ∈ M, RgOff v.ownBlock x) (hs : L.length + M.length ≤ 1000000) (hbase : base ≤ w.heap.size) :
    ∃ v' w', (∀ ty, (Builtin.append_ #[30, 30] ty #[v, v2]).run Tryd.prog w = .ok v' w') ∧ FrRow w' base v' (L ++ M) ∧ w.grownBy w' v.ownBlock ∧ (v'.ownBlock = v.ownBlock ∨ v'.ownBlock = some w.heap.size) := by
  obtain ⟨i, hi, hzz⟩ := Option.map_eq_some_iff.1 A_infoFr
  simp only [Prod.mk.injEq] at hzz
  obtain ⟨hz0, hsz, hb⟩ := hzz
  obtain ⟨z, hz, hz5⟩ := Option.map_eq_some_iff.1 hz0
  by_cases hM : M = []
  · subst hM
    have hcap : ∃ a n c, v = .slice a n c ∧ n ≤ c := by
      rcases h.own.2 with ⟨rfl, h2⟩ | ⟨g, cap, cur, rfl, _, _, h1, _⟩
      · exact ⟨_, _, _, rfl, Nat.le_refl _⟩
      · exact ⟨_, _, _, rfl, h1⟩
    obtain ⟨a, n, c, rfl, hnc⟩ := hcap
    refine ⟨.slice a n c, w, fun ty => ?_, by rw [List.append_nil]; exact h, ⟨rfl, rfl, rfl, Nat.le_refl _, fun _ _ _ => rfl⟩, .inl rfl⟩
    obtain ⟨a2, c2, rfl⟩ := h2.shape
    refine run_append_nothing w _ _ ty 33 i Tryd.underlying30 hi a n c hnc _ ?_
    cases a2 with
    | none => exact Src.ofNil w Tryd.underlying30 c2
    | some a => exact Src.ofSlice w Tryd.underlying30 a 0 c2 [] (by simp) (by simp) (by simp)
  · obtain ⟨g, cap2, rfl, _, hg, _, hc⟩ := h2.form (List.length_pos_iff.2 hM)
    have key := fun ty => run_append_own_at (P := Tryd.prog) w base 30 ty 33 i z 13 136 Tryd.underlying30 hi hz hsz hb hz5 (by decide) v L.length (L.flatMap frc) h.own ⟨g, 0, none⟩ M.length cap2 (M.flatMap frc) (frcs_len M) (fun q u hq => by
      obtain ⟨k, hk, j, hj, rfl, e⟩ := frcs_inv M q u hq
      rw [add_of_none, Nat.zero_add, hc k hk j hj, e]) (fun u hu => by
      obtain ⟨x, hx, hu⟩ := List.mem_flatMap.1 hu
      exact frc_one (rg_one (h2.ok x hx).rg) u hu) (by unfold maxLen; omega) (by omega) hbase
    obtain ⟨v', w', e1, e2, e3, _, e5⟩ := key 30
    refine ⟨v', w', fun ty => ?_, ⟨?_, fun x hx => ?_, fun x hx => ?_⟩, e3, e5⟩
    · rw [← e1]; rfl
    · rw [List.length_append, List.flatMap_append]
      exact e2
    · rcases List.mem_append.1 hx with hx | hx
      · exact (h.ok x hx).grown (h.off x hx) e3
      · exact (h2.ok x hx).grown (hoff x hx) e3
    · rcases List.mem_append.1 hx with hx | hx
      · exact RgOff.new (h.ok x hx) (h.off x hx) e5
      · exact RgOff.new (h2.ok x hx) (hoff x hx) e5
theorem RgOff.none (x : Fr × Value) : RgOff none x := fun _ a n c _ e => by cases e
end Go.Proofs.YtgiekhohhogdiaaDoor
