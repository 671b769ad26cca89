/- Contracts of package frame: Valid and Encode. -/
import Derived.Test.YtgiekhohhogdiaaDoorRfM
import Derived.Deep.LoopGhost
import Derived.Deep.CutRange
namespace Go.Proofs.YtgiekhohhogdiaaDoor
open Go Go.RowKit
set_option linter.unusedVariables false
set_option linter.unusedSimpArgs false

/-- A frame in memory that the machine holds. -/
structure FrOk (w : World) (f : Fr) (rv : Value) : Prop where
  wf : FrWf f
  ty : -9223372036854775808 ≤ f.ty ∧ f.ty ≤ 9223372036854775807
  rg : RgAt w rv f.rg
  sz : f.rg.length ≤ 4611686018427387903
theorem FrOk.keep {w w' : World} {f : Fr} {rv : Value} (h : FrOk w f rv) (ho : Only [] w w') : FrOk w' f rv := ⟨h.wf, h.ty, h.rg.keep ho, h.sz⟩
/-- A panic or nothing. -/
def uniE (o : Option (List UInt8)) : Ending := match o with
  | some _ => .returned (.tuple #[])
  | none => MAL
set_option maxRecDepth 100000 in
set_option maxHeartbeats 4000000 in
theorem encode_in (b sb : Nat) (hne : b ≠ sb) (f : Fr) (rv : Value) (u : ByteArray) (w : World) (hA : FrAt w b f rv) (hF : FrOk w f rv) (hS : At w sb 9 #[.string u]) :
    Calls Tryd.prog 25 #[.pointer (some ⟨b, 0, none⟩), .pointer (some ⟨sb, 0, none⟩)] w fun e w' => e = uniE (encF f) ∧ Only [sb] w w' ∧ ∀ s, encF f = some s → At w' sb 9 #[.string (strB s)] := by
  have HA := Lib.hid hA
  have HF := Lib.hid hF
  obtain ⟨hf, hty, hR, hsz⟩ := hF
  obtain ⟨ra, rcap, rfl, hrr⟩ := hR
  clear hrr
  have c0 : w.cell? ⟨b, 0, none⟩ = some (.int .i64 f.ty) := (show At w b 33 _ from HA.out).cell 0 rfl
  have c1 : w.cell? ⟨b, 1, none⟩ = some (.int .i64 f.st) := (show At w b 33 _ from HA.out).cell 1 rfl
  have c2 : w.cell? ⟨b, 2, none⟩ = some (.int .i64 f.off) := (show At w b 33 _ from HA.out).cell 2 rfl
  have c3 : w.cell? ⟨b, 3, none⟩ = some (.string (strB f.S)) := (show At w b 33 _ from HA.out).cell 3 rfl
  have c4 : w.cell? ⟨b, 4, none⟩ = some (.bool f.fin) := (show At w b 33 _ from HA.out).cell 4 rfl
  have c5 : w.cell? ⟨b, 5, none⟩ = some (.int .i64 f.mx) := (show At w b 33 _ from HA.out).cell 5 rfl
  have c6 : w.cell? ⟨b, 6, none⟩ = some (.int .i64 f.cd) := (show At w b 33 _ from HA.out).cell 6 rfl
  have c7 : w.cell? ⟨b, 7, none⟩ = some (.bool f.uni) := (show At w b 33 _ from HA.out).cell 7 rfl
  have c8 : w.cell? ⟨b, 8, none⟩ = some (.int .i64 f.dl) := (show At w b 33 _ from HA.out).cell 8 rfl
  have c9 : w.cell? ⟨b, 9, none⟩ = some (.slice ra f.rg.length rcap) := (show At w b 33 _ from HA.out).cell 9 rfl
  have c10 : w.cell? ⟨b, 10, none⟩ = some (.int .i64 f.sq) := (show At w b 33 _ from HA.out).cell 10 rfl
  have c11 : w.cell? ⟨b, 11, none⟩ = some (.int .i64 f.rt) := (show At w b 33 _ from HA.out).cell 11 rfl
  have c12 : w.cell? ⟨b, 12, none⟩ = some (.string (strB f.cid)) := (show At w b 33 _ from HA.out).cell 12 rfl
  have hen := encode_c f _ w hf hty HF.out.rg hsz
  have HS := Lib.hid hS
  clear hA hS
  cases hE : encF f with
  | none =>
    simp only [hE, strE, uniE, MAL] at hen ⊢
    clear hE
    go_enter Tryd.func25, Tryd.ntmps25
    go_wp2_with fail
    refine hen.mono ?_
    rintro e w2 ⟨rfl, ho⟩
    exact ⟨rfl, rfl, ho.mono (by simp), fun s h => by cases h⟩
  | some s =>
    simp only [hE, strE, uniE] at hen ⊢
    clear hE
    go_enter Tryd.func25, Tryd.ntmps25
    go_wp2_with fail
    refine hen.mono ?_
    rintro e w2 ⟨rfl, ho⟩
    have hS2 := HS.out.keep ho (by simp)
    have k0 : w2.cell? ⟨sb, 0, none⟩ = some (.string u) := hS2.cell 0 rfl
    have k1 := hS2.free 0
    have HS2 := Lib.hid hS2
    have HO := Lib.hid ho
    clear hS2 ho hen
    go_wp2_with fail
    go_end0
    exact ⟨rfl, (HO.out.mono (by simp)).put (by simp) _, fun s2 h => by cases h; exact HS2.out.set 0 _ rfl⟩
/-- A block that is new to w may change. -/
theorem only_old {w a b : World} {k : Nat} (h : Only [] w a) (h2 : Only [k] a b) (hk : w.heap.size ≤ k) : Only [] w b :=
  ⟨h2.os.trans h.os, h2.tape.trans h.tape, h2.output.trans h.output, Nat.le_trans h.size h2.size, fun i hi hn => (h2.block i (Nat.lt_of_lt_of_le hi h.size) (by simp; omega)).trans (h.block i hi hn)⟩
/-- What Encode answers. -/
def encV (o : Option (List UInt8)) : Value := match o with
  | some s => .tuple #[.string (strB s), .int .i64 0]
  | none => .tuple #[.string (strB []), .int .i64 90]
set_option maxRecDepth 100000 in
set_option maxHeartbeats 4000000 in
theorem Encode_c (f : Fr) (rv : Value) (w : World) (hF : FrOk w f rv) :
    Calls Tryd.prog 16 #[.agg (frC f rv)] w fun e w' => e = .returned (encV (encF f)) ∧ Only [] w w' := by
  have hA1 := At.new w 33 (frC f rv)
  have hO1 := (Only.refl [] w).alloc (.cells (frC f rv) 33)
  have hb1 : w.heap.size < (w.alloc (.cells (frC f rv) 33)).heap.size := by simp
  have hz1 : (w.alloc (.cells (frC f rv) 33)).heap.size = w.heap.size + 1 := by simp
  generalize hx : w.alloc (.cells (frC f rv) 33) = w1 at *
  obtain ⟨b, hb⟩ : ∃ b, w.heap.size = b := ⟨_, rfl⟩
  rw [hb] at hA1 hb1
  have hA2 := hA1.alloc (.cells #[.string (strB [])] 9)
  have hS2 := At.new w1 9 #[.string (strB [])]
  have hO2 := hO1.alloc (.cells #[.string (strB [])] 9)
  have hin := encode_in b w1.heap.size (by omega) f rv _ _ hA2 (hF.keep hO2) hS2
  have HO2 := Lib.hid hO2
  have HSB : Hid (w.heap.size ≤ w1.heap.size) := Lib.hid hO1.size
  have HS2 := Lib.hid hS2
  clear hA1 hA2 hS2 hO1 hO2 hb1
  have hy : w1.alloc (.cells #[.string ⟨#[]⟩] 9) = w1.alloc (.cells #[.string (strB [])] 9) := rfl
  generalize hx2 : w1.alloc (.cells #[.string (strB [])] 9) = w2 at *
  obtain ⟨sb, hsb⟩ : ∃ sb, w1.heap.size = sb := ⟨_, rfl⟩
  rw [hsb] at hin HSB HS2 hz1
  rw [hb] at hz1
  have HZ := Lib.hid hz1.symm
  clear hz1
  cases hE : encF f with
  | none =>
    simp only [hE, uniE] at hin
    have hg := guard_false w2 (fun w' => Only [sb] w2 w') (fun a b h k => h.trans (k.mono (by simp))) ent_encode (hin.mono fun e w' h => ⟨h.1, h.2.1⟩)
    simp only [encV, strB]
    have HX := Lib.hid hx
    have HY := Lib.hid hy
    have HB := Lib.hid hb
    have HSb := Lib.hid hsb
    clear hE hin hx2 hx hy hb hsb
    go_enter Tryd.func16, Tryd.ntmps16
    go_wp2_with fail
    rw [HX.out, HB.out, HZ.out, HY.out]
    refine hg.mono ?_
    rintro e w3 ⟨rfl, ho⟩
    go_wp2_with fail
    refine ⟨rfl, .tuple #[.string ⟨#[]⟩, .int .i64 90], ?_, rfl, only_old HO2.out ho HSB.out⟩
    simp [results, Tryd.f16, go_sem]
  | some s =>
    simp only [hE, uniE] at hin
    have hg := guard_true w2 (fun w' => Only [sb] w2 w' ∧ At w' sb 9 #[.string (strB s)]) ent_encode (hin.mono fun e w' h => ⟨h.1, h.2.1, h.2.2 s rfl⟩)
    simp only [encV]
    have HX := Lib.hid hx
    have HY := Lib.hid hy
    have HB := Lib.hid hb
    have HSb := Lib.hid hsb
    clear hE hin hx2 hx hy hb hsb
    go_enter Tryd.func16, Tryd.ntmps16
    go_wp2_with fail
    rw [HX.out, HB.out, HZ.out, HY.out]
    refine hg.mono ?_
    rintro e w3 ⟨rfl, ho, hs3⟩
    have k0 : w3.cell? ⟨sb, 0, none⟩ = some (.string (strB s)) := hs3.cell 0 rfl
    clear hs3
    go_wp2_with fail
    refine ⟨rfl, .tuple #[.string (strB s), .int .i64 0], ?_, rfl, only_old HO2.out ho HSB.out⟩
    simp [results, Tryd.f16, go_sem]
end Go.Proofs.YtgiekhohhogdiaaDoor
/- Plain law of frames: what is read fits the machine. -/
namespace Go.Proofs.YtgiekhohhogdiaaDoor
open Go Go.RowKit
set_option linter.unusedVariables false
set_option linter.unusedSimpArgs false

/-- A frame of numbers that fit, its strings no longer than N. -/
structure FrN (f : Fr) : Prop where
  wf : FrWf f
  inr : InR f.rg
theorem FrWf.set {f : Fr} (h : FrWf f) (x : Fld) (n : Int) (hn : 0 ≤ n ∧ n ≤ 4611686018427387903) : FrWf (f.set x n) := by
  have b : -9223372036854775808 ≤ n ∧ n ≤ 9223372036854775807 := by omega
  obtain ⟨a1, a2, a3, a4, a5, a6, a7, a8, a9⟩ := h
  cases x
  · exact ⟨b, a2, a3, a4, a5, a6, a7, a8, a9⟩
  · exact ⟨a1, a2, b, a4, a5, a6, a7, a8, a9⟩
  · exact ⟨a1, a2, a3, b, a5, a6, a7, a8, a9⟩
  · exact ⟨a1, b, a3, a4, a5, a6, a7, a8, a9⟩
  · exact ⟨a1, a2, a3, a4, a5, b, a7, a8, a9⟩
  · exact ⟨a1, a2, a3, a4, b, a6, a7, a8, a9⟩
theorem numD_bd {l r : List UInt8} {n : Int} (h : numD l = some (n, r)) : (0 ≤ n ∧ n ≤ 4611686018427387903) ∧ r.length ≤ l.length := by
  obtain ⟨a, b, rfl⟩ := numD_some h
  exact ⟨⟨a, b⟩, by simp⟩
theorem rngD_bd (n : Nat) : ∀ (acc out : List (Int × Int)) (l r : List UInt8), rngD n acc l = some (out, r) → out.length = acc.length + n ∧ r.length ≤ l.length := by
  induction n with
  | zero => intro acc out l r h; simp only [rngD, Option.some.injEq, Prod.mk.injEq] at h; obtain ⟨rfl, rfl⟩ := h; exact ⟨rfl, Nat.le_refl _⟩
  | succ n ih =>
    intro acc out l r h
    simp only [rngD] at h
    cases ha : numD l with
    | none => rw [ha] at h; simp at h
    | some p =>
      obtain ⟨a, l1⟩ := p
      rw [ha] at h
      simp only at h
      cases hb : numD l1 with
      | none => rw [hb] at h; simp at h
      | some q =>
        obtain ⟨b, l2⟩ := q
        rw [hb] at h
        simp only at h
        obtain ⟨i1, i2⟩ := ih _ _ _ _ h
        have := (numD_bd ha).2
        have := (numD_bd hb).2
        simp at i1
        exact ⟨by omega, by omega⟩
theorem getP_wf {p : Pt} {g g' : Fr} {l r : List UInt8} (h : getP p g l = some (g', r)) (hw : FrWf g) (hl : l.length ≤ 4611686018427387903) : FrWf g' ∧ r.length ≤ l.length ∧ g'.rg.length ≤ g.rg.length + 16 := by
  cases p with
  | int most x =>
    simp only [getP, Option.map_eq_some_iff, Prod.mk.injEq] at h
    obtain ⟨⟨n, t⟩, hn, rfl, rfl⟩ := h
    obtain ⟨h1, h2⟩ := numD_bd hn
    exact ⟨hw.set x n h1, h2, by rw [set_rg]; omega⟩
  | text least most =>
    simp only [getP] at h
    cases hn : numD l with
    | none => rw [hn] at h; cases h
    | some q =>
      obtain ⟨n, t⟩ := q
      rw [hn] at h
      simp only at h
      obtain ⟨h1, h2⟩ := numD_bd hn
      split at h
      · cases h
      · simp only [Option.some.injEq, Prod.mk.injEq] at h
        obtain ⟨rfl, rfl⟩ := h
        obtain ⟨a1, a2, a3, a4, a5, a6, a7, a8, a9⟩ := hw
        refine ⟨⟨a1, a2, a3, a4, a5, a6, a7, ?_, a9⟩, ?_, ?_⟩
        · simp only [List.length_take]; omega
        · simp only [List.length_drop]; omega
        · show g.rg.length ≤ _; omega
  | chal =>
    simp only [getP] at h
    split at h
    · cases h
    · simp only [Option.some.injEq, Prod.mk.injEq] at h
      obtain ⟨rfl, rfl⟩ := h
      obtain ⟨a1, a2, a3, a4, a5, a6, a7, a8, a9⟩ := hw
      refine ⟨⟨a1, a2, a3, a4, a5, a6, a7, ?_, a9⟩, ?_, ?_⟩
      · simp only [List.length_take]; omega
      · simp only [List.length_drop]; omega
      · show g.rg.length ≤ _; omega
  | cidp =>
    simp only [getP] at h
    split at h
    · cases h
    · simp only [Option.some.injEq, Prod.mk.injEq] at h
      obtain ⟨rfl, rfl⟩ := h
      obtain ⟨a1, a2, a3, a4, a5, a6, a7, a8, a9⟩ := hw
      refine ⟨⟨a1, a2, a3, a4, a5, a6, a7, a8, ?_⟩, ?_, ?_⟩
      · simp only [List.length_take]; omega
      · simp only [List.length_drop]; omega
      · show g.rg.length ≤ _; omega
  | uni =>
    cases l with
    | nil => cases h
    | cons x t =>
      simp only [getP] at h
      split at h
      · cases h
      · simp only [Option.some.injEq, Prod.mk.injEq] at h
        obtain ⟨rfl, rfl⟩ := h
        obtain ⟨a1, a2, a3, a4, a5, a6, a7, a8, a9⟩ := hw
        exact ⟨⟨a1, a2, a3, a4, a5, a6, a7, a8, a9⟩, by simp, by show g.rg.length ≤ _; omega⟩
  | retire =>
    simp only [getP, Option.map_eq_some_iff, Prod.mk.injEq] at h
    obtain ⟨⟨n, t⟩, hn, rfl, rfl⟩ := h
    obtain ⟨h1, h2⟩ := numD_bd hn
    obtain ⟨a1, a2, a3, a4, a5, a6, a7, a8, a9⟩ := hw
    exact ⟨⟨a1, a2, a3, a4, a5, a6, by show _ ≤ n ∧ n ≤ _; omega, a8, a9⟩, h2, by show g.rg.length ≤ _; omega⟩
  | ranges =>
    simp only [getP] at h
    cases hn : numD l with
    | none => rw [hn] at h; cases h
    | some q =>
      obtain ⟨n, t⟩ := q
      rw [hn] at h
      simp only at h
      obtain ⟨h1, h2⟩ := numD_bd hn
      split at h
      · cases h
      · simp only [Option.map_eq_some_iff, Prod.mk.injEq] at h
        obtain ⟨⟨o, t2⟩, ho, rfl, rfl⟩ := h
        obtain ⟨h3, h4⟩ := rngD_bd _ _ _ _ _ ho
        obtain ⟨a1, a2, a3, a4, a5, a6, a7, a8, a9⟩ := hw
        refine ⟨⟨a1, a2, a3, a4, a5, a6, a7, a8, a9⟩, by show t2.length ≤ _; omega, ?_⟩
        show o.length ≤ _
        omega
theorem gets_wf (L : List Pt) : ∀ {g f : Fr} {l r : List UInt8}, gets L g l = some (f, r) → FrWf g → l.length ≤ 4611686018427387903 → FrWf f ∧ r.length ≤ l.length ∧ f.rg.length ≤ g.rg.length + 16 * L.length := by
  induction L with
  | nil => intro g f l r h hw hl; simp only [gets, Option.some.injEq, Prod.mk.injEq] at h; obtain ⟨rfl, rfl⟩ := h; exact ⟨hw, Nat.le_refl _, by omega⟩
  | cons p L ih =>
    intro g f l r h hw hl
    simp only [gets] at h
    cases hp : getP p g l with
    | none => rw [hp] at h; cases h
    | some q =>
      obtain ⟨g1, l1⟩ := q
      rw [hp] at h
      simp only at h
      obtain ⟨a, b, c⟩ := getP_wf hp hw hl
      obtain ⟨d, e, f2⟩ := ih h a (by omega)
      refine ⟨d, by omega, ?_⟩
      simp only [List.length_cons]; omega
theorem zero_wf (ty : Int) : FrWf (Fr.zero ty) := by
  constructor <;> simp [Fr.zero]
theorem head_wf (x : UInt8) : FrWf (headF x) ∧ (headF x).rg = [] ∧ 0 ≤ (headF x).ty ∧ (headF x).ty ≤ 255 := by
  have := x.toNat_lt
  unfold headF
  split
  · exact ⟨⟨by simp [Fr.zero], by simp [Fr.zero], by simp [Fr.zero], by simp [Fr.zero], by simp [Fr.zero], by simp [Fr.zero], by simp [Fr.zero], by simp [Fr.zero], by simp [Fr.zero]⟩, rfl, by show (0 : Int) ≤ 8; omega, by show (8 : Int) ≤ 255; omega⟩
  · exact ⟨zero_wf _, rfl, by show (0 : Int) ≤ x.toNat; omega, by show ((x.toNat : Nat) : Int) ≤ 255; omega⟩
/-- What reading the parts and checking the frame yields. -/
noncomputable def rdF (g : Fr) (l : List UInt8) : Option (Fr × List UInt8) := match gets ((tab g.ty).getD []) g l with
  | none => none
  | some (f, l1) => match encF f with
      | none => none
      | some _ => some (f, l1)
theorem decF_cons (x : UInt8) (r : List UInt8) : decF (x :: r) = rdF (headF x) r := rfl
end Go.Proofs.YtgiekhohhogdiaaDoor
/- Contracts of package frame: the closure of Decode. -/
namespace Go.Proofs.YtgiekhohhogdiaaDoor
open Go Go.RowKit
set_option linter.unusedVariables false
set_option linter.unusedSimpArgs false

/-- The slice v holds the functions of the parts L, or is nil and L empty. -/
def PSl (w : World) (B : Nat) (L : List Pt) (v : Value) : Prop := ∃ a cap, v = .slice a L.length cap ∧ ∀ i (hi : i < L.length), ∃ g cs f0 c0 f1 c1 f2 c2, a = some ⟨g, 0, none⟩ ∧ At w g 80 cs ∧
    cs[i * 3]? = some (.func (.func f0) #[] c0) ∧ cs[i * 3 + 1]? = some (.func (.func f1) #[] c1) ∧ cs[i * 3 + 2]? = some (.func (.func f2) #[] c2) ∧
    PartV w B (L[i]'hi) (.func (.func f0) #[] c0) (.func (.func f1) #[] c1) (.func (.func f2) #[] c2)
theorem LookQ.psl {k : Int} {B : Nat} {v : Value} {w : World} (h : LookQ k B v w) : PSl w B ((tab k).getD []) v := by
  unfold LookQ at h
  cases ht : tab k with
  | none => rw [ht] at h; subst h; exact ⟨none, 0, rfl, fun i hi => by simp at hi⟩
  | some l =>
    rw [ht] at h
    obtain ⟨g, cs, rfl, h2, h3⟩ := h
    refine ⟨_, _, rfl, fun i hi => ?_⟩
    obtain ⟨f0, c0, f1, c1, f2, c2, a, b, c, d⟩ := h3 i hi
    exact ⟨g, cs, f0, c0, f1, c1, f2, c2, rfl, h2, a, b, c, d⟩
theorem rgLast_get {L : List Pt} : rgLast L = true → ∀ (k : Nat) (hk : k + 1 < L.length), (L[k]'(by omega)).isR = false := by
  induction L with
  | nil => intro _ k hk; simp at hk
  | cons p L ih =>
    intro h k hk
    simp only [rgLast, Bool.and_eq_true, Bool.or_eq_true, Bool.not_eq_true', List.isEmpty_iff] at h
    cases k with
    | zero =>
      rcases h.1 with h1 | h1
      · exact h1
      · subst h1; simp at hk
    | succ k => exact ih h.2 k (by simpa using hk)
theorem tabD (k : Int) : rgLast ((tab k).getD []) = true ∧ ((tab k).getD []).length ≤ 3 := by
  cases ht : tab k with
  | none => exact ⟨rfl, by simp⟩
  | some l => obtain ⟨_, _, _, h, _, h2⟩ := tab_cases ht; exact ⟨h, h2⟩
/-- What the closure does: it reads as rdF says. -/
def DecIn (R : Option (Fr × List UInt8)) (rb b : Nat) (s : ByteArray) (w : World) (e : Ending) (w' : World) : Prop := Only [rb, b] w w' ∧ match R with
    | some (f, l) => e = .returned (.tuple #[]) ∧ ∃ rv', FrAt w' b f rv' ∧ FrOk w' f rv' ∧ RgNew w.heap.size rv' ∧ ∃ a', a' ≤ s.size ∧ l = s.data.toList.drop a' ∧ RdAt w' rb s a'
    | none => e = MAL
def DeRel (W2 : World) (rb b : Nat) (s : ByteArray) (L : List Pt) (g : Fr) (l : List UInt8) (gk : Nat) (ix : Value) (wr : World) : Prop :=
  ∃ (k : Nat) (f : Fr) (rv : Value) (a : Nat), gk = L.length - k ∧ k ≤ L.length ∧ ix = .int .i64 k ∧ a ≤ s.size ∧ gets L g l = gets (L.drop k) f (s.data.toList.drop a) ∧ FrAt wr b f rv ∧ RgAt wr rv f.rg ∧ RgNew W2.heap.size rv ∧ RdAt wr rb s a ∧
    (k < L.length → rv = .slice none 0 0 ∧ f.rg = []) ∧ Only [rb, b] W2 wr
set_option maxRecDepth 100000 in
set_option maxHeartbeats 4000000 in
theorem decode_in (b q rb : Nat) (hne : rb ≠ b) (g : Fr) (s : ByteArray) (a : Nat) (w : World) (hs : s.size ≤ 4611686018427387903) (ha : a ≤ s.size) (hA : FrAt w b g (.slice none 0 0)) (hW : FrWf g) (hg : g.rg = []) (hty : 0 ≤ g.ty ∧ g.ty ≤ 255)
    (hR : RdAt w rb s a) (hQ : At w q 70 #[.pointer (some ⟨rb, 0, none⟩)]) :
    Calls Tryd.prog 28 #[.pointer (some ⟨b, 0, none⟩), .pointer (some ⟨q, 0, none⟩)] w (DecIn (rdF g (s.data.toList.drop a)) rb b s w) := by
  obtain ⟨L, hL⟩ : ∃ L, (tab g.ty).getD [] = L := ⟨_, rfl⟩
  obtain ⟨hlast, hl3⟩ := tabD g.ty
  rw [hL] at hlast hl3
  obtain ⟨R, hR0⟩ : ∃ R, rdF g (s.data.toList.drop a) = R := ⟨_, rfl⟩
  rw [hR0]
  unfold rdF at hR0
  rw [hL] at hR0
  have HR0 := Lib.hid hR0
  clear hR0
  have c0 : w.cell? ⟨b, 0, none⟩ = some (.int .i64 g.ty) := At.cell hA 0 rfl
  have hbl := At.lt hA
  have hrl := At.lt hR
  have HA := Lib.hid hA
  have HR := Lib.hid hR
  have HQ := Lib.hid hQ
  have HQn : Hid (q ∉ [rb, b]) := Lib.hid (by
    intro hm
    unfold RdAt at hR
    unfold FrAt at hA
    unfold At at hR hA hQ
    rcases List.mem_cons.1 hm with rfl | hm
    · rw [hR] at hQ; cases hQ
    · obtain rfl := List.mem_singleton.1 hm
      rw [hA] at hQ; cases hQ)
  clear hA hR hQ
  go_enter Tryd.func28, Tryd.ntmps28
  go_upto_region 0 with fail
  refine wp_region_held_drew (S := fun w' => w'.cell? ⟨b, 0, none⟩ = some (.int .i64 g.ty)) (by kernel_rfl) (by exact c0) (fun hHeld => ?_)
  refine wpAnyH_take (i := 1) (v := ?_) rfl (by kernel_rfl) (by kernel_rfl) (by kernel_rfl) (fun _ _ _ h => h) (Or.inl ⟨by kernel_rfl, ?_⟩) (by assumption) ?_
  rotate_left
  · intro wS hSw
    try dsimp only at hSw
    go_simp
    try with_reducible rfl
  simp only [List.getElem_toArray, List.getElem_cons_succ, List.getElem_cons_zero, Act.put, List.setIfInBounds_toArray, List.set_cons_zero, List.set_cons_succ]
  refine wpAnyH_take (i := 2) (v := ?_) rfl (by kernel_rfl) (by kernel_rfl) (by kernel_rfl) (fun _ _ _ h => h) (Or.inl ⟨by kernel_rfl, ?_⟩) (by assumption) ?_
  rotate_left
  · intro wS hSw
    try dsimp only at hSw
    go_simp
    try with_reducible rfl
  simp only [List.getElem_toArray, List.getElem_cons_succ, List.getElem_cons_zero, Act.put, List.setIfInBounds_toArray, List.set_cons_zero, List.set_cons_succ]
  refine wpAnyH_take (i := 5) (v := ?_) rfl (by kernel_rfl) (by kernel_rfl) (by kernel_rfl) (fun _ _ _ h => h) (Or.inl ⟨by kernel_rfl, ?_⟩) (by assumption) ?_
  rotate_left
  · intro wS hSw
    try dsimp only at hSw
    go_simp
    try with_reducible rfl
  simp only [List.getElem_toArray, List.getElem_cons_succ, List.getElem_cons_zero, Act.put, List.setIfInBounds_toArray, List.set_cons_zero, List.set_cons_succ]
  refine wpAnyH_ready (rs := [0]) (by kernel_rfl) (by simp) ?_
  refine AllReadyH.cons rfl (fun K hK => ?_) AllReadyH.nil
  go_simp
  refine (parts_c _).mono ?_
  rintro e w2 ⟨mb, rfl, hP, ho2⟩
  obtain ⟨v, hlk0, hq⟩ := look_tab hP g.ty
  have hlk := hlk0 false
  simp only [Bool.false_eq_true, if_false] at hlk
  clear hlk0
  have hq := hq.psl
  rw [hL] at hq
  obtain ⟨sa, scap, rfl, hsl⟩ := hq
  have HO2 := Lib.hid ho2
  have HSL := Lib.hid hsl
  have d0 := (ho2.cell (p := ⟨b, 0, none⟩) (World.block_lt_of_cell? _ _ c0) (by simp)).trans c0
  clear hP ho2 hsl
  refine hK.out _ _ (by exact d0) (fun hHeld' => ?_)
  clear hHeld hK K
  have hHeld := hHeld'
  clear hHeld'
  refine wpAnyH_ready (rs := [3]) (by kernel_rfl) (by simp) ?_
  refine AllReadyH.cons rfl (fun K hK => ?_) AllReadyH.nil
  go_simp
  refine hK.out _ _ (by exact hHeld) (fun hHeld' => ?_)
  clear hHeld hK K hlk
  have hHeld := hHeld'
  clear hHeld'
  refine wpAnyH_take (i := 4) (v := ?_) rfl (by kernel_rfl) (by kernel_rfl) (by kernel_rfl) (fun _ _ _ h => h) (Or.inl ⟨by kernel_rfl, ?_⟩) (by assumption) ?_
  rotate_left
  · intro wS hSw
    try dsimp only at hSw
    go_simp
    try with_reducible rfl
  simp only [List.getElem_toArray, List.getElem_cons_succ, List.getElem_cons_zero, Act.put, List.setIfInBounds_toArray, List.set_cons_zero, List.set_cons_succ]
  refine wpAnyH_done (by kernel_rfl) ?_ _
  clear d0 c0 hHeld
  have HA2 : Hid (FrAt w2 b g (.slice none 0 0)) := Lib.hid (At.keep (show At w.drew b 33 _ from HA.out) HO2.out (by simp))
  have HRd2 : Hid (RdAt w2 rb s a) := Lib.hid (At.keep (show At w.drew rb 72 _ from HR.out) HO2.out (by simp))
  have HQ2 : Hid (At w2 q 70 #[.pointer (some ⟨rb, 0, none⟩)]) := Lib.hid (At.keep (show At w.drew q 70 _ from HQ.out) HO2.out (by simp))
  have HAD0 := Lib.hid HA2.out
  have HRD0 := Lib.hid HRd2.out
  have HR2 : Hid (Only [rb, b] w2 w2) := Lib.hid (Only.refl _ _)
  have HOw : Hid (Only [rb, b] w w2) := Lib.hid ((((Only.refl [] w).drew).trans HO2.out).mono (by simp))
  have hwd : w.drew.heap.size = w.heap.size := rfl
  rw [hwd] at HSL
  have hbl2 := At.lt HA2.out
  have hrl2 := At.lt HRd2.out
  clear HA HR HQ HO2 hwd
  go_wp2_with fail
  go_loopg [9] L.length (fun gk ix wr => DeRel w2 rb b s L g (s.data.toList.drop a) gk ix wr)
  case atStart => exact ⟨0, g, _, a, by simp, by omega, rfl, ha, rfl, HA2.out, by rw [hg]; exact RgAt.nil _, RgNew.nil _, HRd2.out, fun _ => ⟨rfl, hg⟩, HR2.out⟩
  case round =>
    obtain ⟨k, f, rv, ak, rfl, hk, rfl, hak, hgs, hAr, hRg, hRn, hRr, hlow, hO⟩ := hrel
    have HAr := Lib.hid hAr
    have HRr := Lib.hid hRr
    have HRg := Lib.hid hRg
    have HGS := Lib.hid hgs
    have HO := Lib.hid hO
    clear hAr hRr hgs HA2 HRd2 HR2
    by_cases hlt : k < L.length
    · have hlt' : (k : Int) < L.length := by omega
      have hk4 : k ≤ 3 := by omega
      have f9 : IntKind.i64.wrap ((k : Int) + 1) = ((k + 1 : Nat) : Int) := by rw [show (k : Int) + 1 = ((k + 1 : Nat) : Int) by omega]; exact IntWalk.i64_in _ (by omega)
      obtain ⟨rfl, hfrg⟩ := hlow hlt
      obtain ⟨gg, cs, f0, d0, f1, d1, f2, d2, rfl, hgA, q0, q1, q2, hV⟩ := HSL.out k hlt
      have hgn : gg ∉ [rb, b] := by
        intro hm
        have x1 := HAr.out
        have x2 := HRr.out
        have x3 := HQ2.out
        rcases List.mem_cons.1 hm with rfl | hm
        · have := hgA
          have y := HRD0.out
          unfold RdAt At at y
          unfold At at this
          rw [y] at this; cases this
        · obtain rfl := List.mem_singleton.1 hm
          have := hgA
          have y := HAD0.out
          unfold FrAt At at y
          unfold At at this
          rw [y] at this; cases this
      obtain ⟨E0, E1, E2⟩ := ent_p hV
      have hgr : At wr gg 80 cs := At.keep hgA hO hgn
      have p0 := hgr.cell (k * 3) q0
      have p1 := hgr.cell (k * 3 + 1) q1
      have p2 := hgr.cell (k * 3 + 2) q2
      have k0 : ∀ o, (wr.alloc o).cell? ⟨q, 0, none⟩ = some (.pointer (some ⟨rb, 0, none⟩)) := fun o => ((At.keep HQ2.out hO HQn.out).alloc o).cell 0 rfl
      obtain ⟨p, hp⟩ : ∃ p, L[k]'hlt = p := ⟨_, rfl⟩
      have HIR : Hid (k + 1 < L.length → p.isR = false) := Lib.hid (fun h => by rw [← hp]; exact rgLast_get hlast k h)
      rw [hp] at hV
      have HD : Hid (gets (L.drop k) f (s.data.toList.drop ak) = match getP p f (s.data.toList.drop ak) with
          | none => none
          | some (g, l1) => gets (L.drop (k + 1)) g l1) := Lib.hid (by rw [List.drop_eq_getElem_cons hlt, hp]; rfl)
      have hpb := At.new wr 80 #[.func (.func f0) #[] d0, .func (.func f1) #[] d1, .func (.func f2) #[] d2]
      have hOw := HO.out.alloc (.cells #[.func (.func f0) #[] d0, .func (.func f1) #[] d1, .func (.func f2) #[] d2] 80)
      have hAw := At.alloc HAr.out (.cells #[.func (.func f0) #[] d0, .func (.func f1) #[] d1, .func (.func f2) #[] d2] 80)
      have hRw := At.alloc HRr.out (.cells #[.func (.func f0) #[] d0, .func (.func f1) #[] d1, .func (.func f2) #[] d2] 80)
      have hget := get_p (hV.keep (S := [rb, b]) hOw (by intro z hz; rcases List.mem_cons.1 hz with rfl | hz; exact .inl hrl; obtain rfl := List.mem_singleton.1 hz; exact .inl hbl)) hne ⟨hrl, hbl⟩ hak hs hRw hAw hfrg
      have e1 := fun (W : World) => E1 (#[.pointer (some ⟨rb, 0, none⟩), .pointer (some ⟨b, 0, none⟩)] ++ d1) W
      have HOw2 := Lib.hid hOw
      clear E0 E1 E2 hV q0 q1 q2 hgr hO hp hgA hlow hAw hRw hpb hOw hgn
      unfold GetQ at hget
      cases hE : getP p f (s.data.toList.drop ak) with
      | none =>
        have HN : Hid (R = none) := Lib.hid (by rw [← HR0.out, HGS.out, HD.out, hE])
        simp only [hE, MAL] at hget
        clear hE
        go_wp2_with fail
        refine hget.mono ?_
        rintro e w6 ⟨ho6, rfl⟩
        exact ⟨rfl, by rw [HN.out]; exact ⟨HOw.out.trans (HOw2.out.trans ho6), rfl⟩⟩
      | some z =>
        obtain ⟨f', l'⟩ := z
        have HD2 : Hid (gets L g (s.data.toList.drop a) = gets (L.drop (k + 1)) f' l') := Lib.hid (by rw [HGS.out, HD.out, hE])
        simp only [hE] at hget
        clear hE HD
        go_wp2_with fail
        refine hget.mono ?_
        rintro e w6 ⟨ho6, rfl, rv', hA6, hRg6, hn6, hr6, a', ha', rfl, hR6⟩
        have HO6 := Lib.hid (HOw2.out.trans ho6)
        have HLW : Hid (w2.heap.size ≤ (wr.alloc (.cells #[.func (.func f0) #[] d0, .func (.func f1) #[] d1, .func (.func f2) #[] d2] 80)).heap.size) := Lib.hid HOw2.out.size
        have HA6 := Lib.hid hA6
        have HRg6 := Lib.hid hRg6
        have HR6 := Lib.hid hR6
        clear hA6 hR6 ho6 hget p0 p1 p2 e1 k0
        go_wp2_with fail
        go_roundg (L.length - (k + 1))
        case measure => omega
        case rel => exact ⟨k + 1, f', rv', a', rfl, by omega, rfl, ha', HD2.out, HA6.out, HRg6.out, hn6.low HLW.out, HR6.out, fun h => hr6 (HIR.out h), HO6.out⟩
    · obtain rfl : k = L.length := by omega
      have hlt' : ¬ (L.length : Int) < L.length := by omega
      have hgs : gets L g (s.data.toList.drop a) = some (f, s.data.toList.drop ak) := by rw [HGS.out, List.drop_length]; rfl
      obtain ⟨w1, w2', w3⟩ := gets_wf L hgs hW (by simp; omega)
      obtain ⟨t1, t2, t3⟩ := gets_ty L hgs (by rw [hg]; intro p hp; cases hp)
      have hokf : FrOk wr f rv := ⟨w1, by rw [t1]; omega, hRg, by rw [hg] at w3; simp at w3; omega⟩
      have HOK := Lib.hid hokf
      have hR1 := HR0.out
      rw [hgs] at hR1
      simp only at hR1
      have hen := encode_c f rv wr hokf.wf hokf.ty hokf.rg hokf.sz
      obtain ⟨a9, cap9, rfl, h9⟩ := hRg
      have x0 : wr.cell? ⟨b, 0, none⟩ = some (.int .i64 f.ty) := At.cell HAr.out 0 rfl
      have x1 : wr.cell? ⟨b, 1, none⟩ = some (.int .i64 f.st) := At.cell HAr.out 1 rfl
      have x2 : wr.cell? ⟨b, 2, none⟩ = some (.int .i64 f.off) := At.cell HAr.out 2 rfl
      have x3 : wr.cell? ⟨b, 3, none⟩ = some (.string (strB f.S)) := At.cell HAr.out 3 rfl
      have x4 : wr.cell? ⟨b, 4, none⟩ = some (.bool f.fin) := At.cell HAr.out 4 rfl
      have x5 : wr.cell? ⟨b, 5, none⟩ = some (.int .i64 f.mx) := At.cell HAr.out 5 rfl
      have x6 : wr.cell? ⟨b, 6, none⟩ = some (.int .i64 f.cd) := At.cell HAr.out 6 rfl
      have x7 : wr.cell? ⟨b, 7, none⟩ = some (.bool f.uni) := At.cell HAr.out 7 rfl
      have x8 : wr.cell? ⟨b, 8, none⟩ = some (.int .i64 f.dl) := At.cell HAr.out 8 rfl
      have x9 : wr.cell? ⟨b, 9, none⟩ = some (.slice a9 f.rg.length cap9) := At.cell HAr.out 9 rfl
      have x10 : wr.cell? ⟨b, 10, none⟩ = some (.int .i64 f.sq) := At.cell HAr.out 10 rfl
      have x11 : wr.cell? ⟨b, 11, none⟩ = some (.int .i64 f.rt) := At.cell HAr.out 11 rfl
      have x12 : wr.cell? ⟨b, 12, none⟩ = some (.string (strB f.cid)) := At.cell HAr.out 12 rfl
      have HR1 := Lib.hid hR1
      clear h9 hgs w1 w2' w3 t1 t2 t3 hokf hR1 hO HGS hlow
      cases hE : encF f with
      | none =>
        have HN : Hid (R = none) := Lib.hid (by rw [← HR1.out, hE])
        simp only [hE, strE, MAL] at hen
        clear hE
        go_wp2_with fail
        refine hen.mono ?_
        rintro e w9 ⟨rfl, ho9⟩
        exact ⟨rfl, by rw [HN.out]; exact ⟨HOw.out.trans (HO.out.trans (ho9.mono (by simp))), rfl⟩⟩
      | some sE =>
        have HN : Hid (R = some (f, s.data.toList.drop ak)) := Lib.hid (by rw [← HR1.out, hE])
        simp only [hE, strE] at hen
        clear hE
        go_wp2_with fail
        refine hen.mono ?_
        rintro e w9 ⟨rfl, ho9⟩
        go_wp2_with fail
        go_end0
        rw [HN.out]
        exact ⟨HOw.out.trans (HO.out.trans (ho9.mono (by simp))), rfl, _, At.keep HAr.out ho9 (by simp), HOK.out.keep ho9, hRn.low HOw.out.size, ak, hak, rfl, At.keep HRr.out ho9 (by simp)⟩
end Go.Proofs.YtgiekhohhogdiaaDoor
