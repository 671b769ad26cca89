/- Short words for explicit steps, and for the cells of a block. -/
import Derived.Test.YtmmgmpghkpbgkaaBas
import Derived.Deep.RegionHeld3
import Derived.WalkSmall
import Derived.Test.YtmmgmpghkpbgkaaFrN
import Derived.Test.YtmmgmpghkpbgkaaFrG
namespace Go.Proofs.Ytmmgmpghkpbgkaa
open Go Go.RowKit
set_option linter.unusedVariables false
set_option linter.unusedSimpArgs false

/-- wpAnyH_take, its side conditions filled in: the operation runs in this state. -/
theorem tkH {P : Program} {ops : Array Oper} {Q : Exit → Act → World → Prop} {md : Region.Mode} {S : World → Prop} {i : Nat} {oi : Oper} {v : Value} {fuel : Nat} {listed : Array Bool} {a : Act} {w : World} (hi : ops[i]? = some oi)
    (hy : ∀ w, S w → (execOp a.eval oi).run P w = .ok (.value v) w)
    (h : wpAnyH P md ops Q S fuel (listed.setIfInBounds i true) (a.put oi.dst v) w)
    (hw : Region.wanted oi (yielded ops a.tmps) = true := by kernel_rfl) (hs : Region.noSelect ops = true := by kernel_rfl) (hf : Region.free md ops listed i = true := by kernel_rfl) (hr : (Region.ready md ops listed).contains i = true := by kernel_rfl)
    (hQ : ∀ c a w, Q (.panic c) (a.put oi.dst v) w → Q (.panic c) a w := by exact fun _ _ _ h => h) (hS : S w := by assumption) : wpAnyH P md ops Q S (fuel + 1) listed a w :=
  wpAnyH_take hi hs hf hr hQ (Or.inl ⟨hw, hy⟩) hS h
theorem tk1 {α : Type _} {xs : List α} {i : Nat} (h : i < xs.toArray.size) : xs.toArray[i] = xs[i]'(by simpa using h) := List.getElem_toArray h
theorem tk2 {α : Type _} (a : α) (l : List α) (i : Nat) (h : i + 1 < (a :: l).length) : (a :: l)[i + 1] = l[i]'(by simpa using h) := List.getElem_cons_succ a l i h
theorem tk3 {α : Type _} (a : α) (l : List α) (h : 0 < (a :: l).length) : (a :: l)[0] = a := List.getElem_cons_zero a l h
theorem tk4 {α : Type _} (l : List α) (i : Nat) (a : α) : l.toArray.setIfInBounds i a = (l.set i a).toArray := List.setIfInBounds_toArray l i a
theorem tk5 {α : Type _} {x : α} {xs : List α} {a : α} : (x :: xs).set 0 a = a :: xs := List.set_cons_zero
theorem tk6 {α : Type _} {x : α} {xs : List α} {i : Nat} {a : α} : (x :: xs).set (i + 1) a = x :: xs.set i a := List.set_cons_succ
section
variable {w : World} {g : Nat} {t : TypeId} {a0 a1 a2 a3 a4 a5 a6 a7 a8 a9 a10 a11 a12 : Value}
theorem At.c7 (h : At w g t #[a0, a1, a2, a3, a4, a5, a6]) : w.cell? ⟨g, 0, none⟩ = some a0 ∧ w.cell? ⟨g, 1, none⟩ = some a1 ∧ w.cell? ⟨g, 2, none⟩ = some a2 ∧ w.cell? ⟨g, 3, none⟩ = some a3 ∧ w.cell? ⟨g, 4, none⟩ = some a4 ∧ w.cell? ⟨g, 5, none⟩ = some a5 ∧ w.cell? ⟨g, 6, none⟩ = some a6 :=
  ⟨h.cell 0 rfl, h.cell 1 rfl, h.cell 2 rfl, h.cell 3 rfl, h.cell 4 rfl, h.cell 5 rfl, h.cell 6 rfl⟩
theorem At.c13 (h : At w g t #[a0, a1, a2, a3, a4, a5, a6, a7, a8, a9, a10, a11, a12]) : w.cell? ⟨g, 0, none⟩ = some a0 ∧ w.cell? ⟨g, 1, none⟩ = some a1 ∧ w.cell? ⟨g, 2, none⟩ = some a2 ∧ w.cell? ⟨g, 3, none⟩ = some a3 ∧ w.cell? ⟨g, 4, none⟩ = some a4 ∧ w.cell? ⟨g, 5, none⟩ = some a5 ∧ w.cell? ⟨g, 6, none⟩ = some a6 ∧ w.cell? ⟨g, 7, none⟩ = some a7 ∧ w.cell? ⟨g, 8, none⟩ = some a8 ∧ w.cell? ⟨g, 9, none⟩ = some a9 ∧ w.cell? ⟨g, 10, none⟩ = some a10 ∧ w.cell? ⟨g, 11, none⟩ = some a11 ∧ w.cell? ⟨g, 12, none⟩ = some a12 :=
  ⟨h.cell 0 rfl, h.cell 1 rfl, h.cell 2 rfl, h.cell 3 rfl, h.cell 4 rfl, h.cell 5 rfl, h.cell 6 rfl, h.cell 7 rfl, h.cell 8 rfl, h.cell 9 rfl, h.cell 10 rfl, h.cell 11 rfl, h.cell 12 rfl⟩
end
end Go.Proofs.Ytmmgmpghkpbgkaa
/- Plain law of the reference's reader: what it reads, and which frames it holds for valid. -/
namespace Go.Proofs.Ytmmgmpghkpbgkaa
open Go.RowKit
set_option linter.unusedVariables false
set_option linter.unusedSimpArgs false

/-- A number is read: what is answered, and where the reader stands then; none when something was missing. -/
def vR (s : List UInt8) : Option Nat → Int × Option Nat
  | none => (0, none)
  | some a => match vDec (s.drop a) with
      | none => (0, none)
      | some p => (p.1, some (a + p.2))
def tR (s : List UInt8) (n : Int) : Option Nat → List UInt8 × Option Nat
  | none => ([], none)
  | some a => if (s.length : Int) - a < n then ([], none) else ((s.drop a).take n.toNat, some (a + n.toNat))
/-- The parts that are read from where the reader stands. -/
def getsO (s : List UInt8) (l : List Pt) (f : Fr) : Option Nat → Option (Fr × List UInt8)
  | none => none
  | some a => gets l f (s.drop a)
theorem getsO_nil (s : List UInt8) (f : Fr) (st : Option Nat) : getsO s [] f st = st.map fun a => (f, s.drop a) := by
  cases st <;> rfl
theorem numD_drop (s : List UInt8) (a : Nat) : numD (s.drop a) = (vDec (s.drop a)).map fun p => (p.1, s.drop (a + p.2)) := by
  unfold numD; simp only [List.drop_drop]
theorem vR_pos (s : List UInt8) (st : Option Nat) : 0 ≤ (vR s st).1 ∧ (vR s st).1 ≤ 4611686018427387903 := by
  cases st with
  | none => exact ⟨Int.le_refl _, by show (0 : Int) ≤ _; omega⟩
  | some a =>
    simp only [vR]
    cases h : vDec (s.drop a) with
    | none => exact ⟨Int.le_refl _, by show (0 : Int) ≤ _; omega⟩
    | some p => obtain ⟨n, w⟩ := p; have := vDec_some _ _ _ h; exact ⟨this.1, this.2.1⟩
theorem vR_at {s : List UInt8} {st : Option Nat} {b : Nat} (h : (vR s st).2 = some b) : b ≤ s.length := by
  cases st with
  | none => cases h
  | some a =>
    simp only [vR] at h
    cases hd : vDec (s.drop a) with
    | none => rw [hd] at h; cases h
    | some p =>
      obtain ⟨n, w⟩ := p
      obtain ⟨h0, h1, h2, h3, h4⟩ := vDec_some _ _ _ hd
      rw [hd] at h
      simp only [Option.some.injEq] at h
      have hw : 1 ≤ w := by rw [h2]; unfold vWid; repeat' (first | omega | split)
      simp only [List.length_drop] at h3
      omega
theorem tR_at {s : List UInt8} {n : Int} {st : Option Nat} {b : Nat} (hst : ∀ a, st = some a → a ≤ s.length) (h : (tR s n st).2 = some b) : b ≤ s.length := by
  cases st with
  | none => cases h
  | some a =>
    have := hst a rfl
    simp only [tR] at h
    split at h
    · cases h
    · simp only [Option.some.injEq] at h; omega
theorem getsO_int (s : List UInt8) (most : Int) (x : Fld) (r : List Pt) (f : Fr) (st : Option Nat) : getsO s (.int most x :: r) f st = getsO s r (f.set x (vR s st).1) (vR s st).2 := by
  cases st with
  | none => rfl
  | some a =>
    simp only [getsO, gets, getP, numD_drop, vR]
    cases vDec (s.drop a) <;> rfl
theorem getsO_retire (s : List UInt8) (r : List Pt) (f : Fr) (st : Option Nat) : getsO s (.retire :: r) f st = getsO s r { f with rt := (vR s st).1 } (vR s st).2 := by
  cases st with
  | none => rfl
  | some a =>
    simp only [getsO, gets, getP, numD_drop, vR]
    cases vDec (s.drop a) <;> rfl
theorem getsO_text (s : List UInt8) (least most : Nat) (r : List Pt) (f : Fr) (st : Option Nat) :
    getsO s (.text least most :: r) f st = getsO s r { f with S := (tR s (vR s st).1 (vR s st).2).1 } (tR s (vR s st).1 (vR s st).2).2 := by
  cases st with
  | none => rfl
  | some a =>
    have hb := fun b => vR_at (s := s) (st := some a) (b := b)
    simp only [getsO, gets, getP, numD_drop, vR] at hb ⊢
    cases hd : vDec (s.drop a) with
    | none => rfl
    | some p =>
      rw [hd] at hb
      have hb := hb _ rfl
      have hn := (vDec_some _ _ _ hd).1
      simp only [Option.map_some, tR, List.length_drop]
      by_cases c : (s.length : Int) - (a + p.2 : Nat) < p.1
      · rw [if_pos c, if_pos (by omega)]
      · rw [if_neg c, if_neg (by omega)]; simp only [List.drop_drop]
theorem getsO_chal (s : List UInt8) (r : List Pt) (f : Fr) (st : Option Nat) (hst : ∀ a, st = some a → a ≤ s.length) : getsO s (.chal :: r) f st = getsO s r { f with S := (tR s 8 st).1 } (tR s 8 st).2 := by
  cases st with
  | none => rfl
  | some a =>
    have := hst a rfl
    simp only [getsO, gets, getP, tR, List.length_drop]
    by_cases c : (s.length : Int) - a < 8
    · rw [if_pos c, if_pos (by omega)]
    · rw [if_neg c, if_neg (by omega)]; simp only [List.drop_drop]; rfl
theorem getsO_cidp (s : List UInt8) (r : List Pt) (f : Fr) (st : Option Nat) (hst : ∀ a, st = some a → a ≤ s.length) : getsO s (.cidp :: r) f st = getsO s r { f with cid := (tR s 8 st).1 } (tR s 8 st).2 := by
  cases st with
  | none => rfl
  | some a =>
    have := hst a rfl
    simp only [getsO, gets, getP, tR, List.length_drop]
    by_cases c : (s.length : Int) - a < 8
    · rw [if_pos c, if_pos (by omega)]
    · rw [if_neg c, if_neg (by omega)]; simp only [List.drop_drop]; rfl
/-- A byte of at most 1 is read. -/
def uR (s : List UInt8) (st : Option Nat) : Bool × Option Nat := (decide ((tR s 1 st).1 = [1]), if (tR s 1 st).1 = [] ∨ (tR s 1 st).1 = [0] ∨ (tR s 1 st).1 = [1] then (tR s 1 st).2 else none)
theorem getsO_uni (s : List UInt8) (r : List Pt) (f : Fr) (st : Option Nat) (hst : ∀ a, st = some a → a ≤ s.length) : getsO s (.uni :: r) f st = getsO s r { f with uni := (uR s st).1 } (uR s st).2 := by
  cases st with
  | none => rfl
  | some a =>
    have ha := hst a rfl
    obtain ⟨l, hd⟩ : ∃ l, s.drop a = l := ⟨_, rfl⟩
    have hl := congrArg List.length hd
    rw [List.length_drop] at hl
    cases l with
    | nil =>
      have e : tR s 1 (some a) = ([], none) := by simp only [tR]; rw [if_pos (by simp at hl; omega)]
      simp only [getsO, gets, getP, uR, e, hd]; rfl
    | cons x t =>
      have hd2 : s.drop (a + 1) = t := by rw [← List.drop_drop, hd]; rfl
      have e : tR s 1 (some a) = ([x], some (a + 1)) := by
        simp only [tR]; rw [if_neg (by simp at hl; omega), hd]; rfl
      simp only [getsO, gets, getP, uR, e, hd]
      by_cases c : 1 < x.toNat
      · have h0 : ¬ (x = 0) := by rintro rfl; exact absurd c (by decide)
        have h1 : ¬ (x = 1) := by rintro rfl; exact absurd c (by decide)
        rw [if_pos c, if_neg (by simp [h0, h1])]
      · have h01 : x = 0 ∨ x = 1 := by
          rcases (show x.toNat = 0 ∨ x.toNat = 1 by omega) with h | h
          · exact .inl (UInt8.toNat_inj.1 (by rw [h]; rfl))
          · exact .inr (UInt8.toNat_inj.1 (by rw [h]; rfl))
        rw [if_neg c]
        rcases h01 with rfl | rfl
        · simp [hd2]
        · simp [hd2]
/-- What is read of n ranges more, after acc. -/
def rR (s : List UInt8) : Nat → List (Int × Int) → Option Nat → List (Int × Int) × Option Nat
  | 0, acc, st => (acc, st)
  | _ + 1, acc, none => (acc, none)
  | n + 1, acc, some a =>
    rR s n (acc ++ [(w64 ((match acc.getLast? with | none => (vR s (some a)).1 | some p => w64 (w64 (p.1 - (vR s (some a)).1) - 2)) - (vR s (vR s (some a)).2).1), w64 ((match acc.getLast? with | none => (vR s (some a)).1 | some p => w64 (w64 (p.1 - (vR s (some a)).1) - 2)) + 1))]) (vR s (vR s (some a)).2).2
theorem rR_none (s : List UInt8) (n : Nat) (acc : List (Int × Int)) : rR s n acc none = (acc, none) := by cases n <;> rfl
theorem rR_rngD (s : List UInt8) (n : Nat) : ∀ (acc : List (Int × Int)) (a : Nat), rngD n acc (s.drop a) = (rR s n acc (some a)).2.map fun b => ((rR s n acc (some a)).1, s.drop b) := by
  induction n with
  | zero => intro acc a; rfl
  | succ n ih =>
    intro acc a
    simp only [rngD, rR, numD_drop, vR]
    cases hd : vDec (s.drop a) with
    | none => simp [rR_none]
    | some p =>
      simp only [Option.map_some, numD_drop]
      cases hd2 : vDec (s.drop (a + p.2)) with
      | none => simp [rR_none]
      | some q =>
        simp only [Option.map_some]
        rw [ih]
        rfl
theorem rR_len (s : List UInt8) (n : Nat) : ∀ (acc : List (Int × Int)) (st : Option Nat) (b : Nat), (rR s n acc st).2 = some b → (rR s n acc st).1.length = acc.length + n := by
  induction n with
  | zero => intro acc st b _; rfl
  | succ n ih =>
    intro acc st b h
    cases st with
    | none => cases h
    | some a =>
      simp only [rR] at h ⊢
      rw [ih _ _ b h]
      simp only [List.length_append, List.length_cons, List.length_nil]
      omega
theorem rR_short (s : List UInt8) (n : Nat) : ∀ (acc : List (Int × Int)) (st : Option Nat), (rR s n acc st).1.length ≤ acc.length + n := by
  induction n with
  | zero => intro acc st; exact Nat.le_refl _
  | succ n ih =>
    intro acc st
    cases st with
    | none => show acc.length ≤ _; omega
    | some a =>
      simp only [rR]
      refine Nat.le_trans (ih _ _) ?_
      simp only [List.length_append, List.length_cons, List.length_nil]
      omega
/-- The whole of the ranges. -/
def raR (s : List UInt8) (st : Option Nat) : List (Int × Int) × Option Nat := rR s (min (vR s st).1.toNat 17) [] (vR s st).2
theorem getsO_ranges (s : List UInt8) (f : Fr) (st : Option Nat) (hf : f.rg = []) :
    getsO s [.ranges] f st = getsO s [] { f with rg := (raR s st).1 } (raR s st).2 ∨ (getsO s [.ranges] f st = none ∧ ((raR s st).2 = none ∨ (raR s st).1.length = 17)) := by
  cases st with
  | none => exact .inl (by simp only [raR, vR, rR_none]; rfl)
  | some a =>
    simp only [getsO, gets, getP, numD_drop]
    unfold raR
    simp only [vR]
    cases hd : vDec (s.drop a) with
    | none => left; simp only [rR_none]; rfl
    | some p =>
      have hn := (vDec_some _ _ _ hd).1
      simp only [Option.map_some, hf]
      by_cases c : 16 < p.1
      · right
        rw [if_pos c]
        refine ⟨rfl, ?_⟩
        rw [show min p.1.toNat 17 = 17 from by omega]
        cases h2 : (rR s 17 [] (some (a + p.2))).2 with
        | none => exact .inl rfl
        | some b => right; have := rR_len s 17 _ _ b h2; simpa using this
      · left
        rw [if_neg c, show min p.1.toNat 17 = p.1.toNat from by omega, rR_rngD]
        cases (rR s p.1.toNat [] (some (a + p.2))).2 <;> rfl
theorem rR_at (s : List UInt8) (n : Nat) : ∀ (acc : List (Int × Int)) (st : Option Nat) (b : Nat), (∀ a, st = some a → a ≤ s.length) → (rR s n acc st).2 = some b → b ≤ s.length := by
  induction n with
  | zero => intro acc st b h h2; exact h b h2
  | succ n ih =>
    intro acc st b h h2
    cases st with
    | none => cases h2
    | some a =>
      simp only [rR] at h2
      exact ih _ _ b (fun c hc => vR_at hc) h2
end Go.Proofs.Ytmmgmpghkpbgkaa
/- Plain law of the reference's frames: which are valid. -/
namespace Go.Proofs.Ytmmgmpghkpbgkaa
open Go.RowKit
set_option linter.unusedVariables false
set_option linter.unusedSimpArgs false

/-- What the reference asks of a part. -/
def okP : Pt → Fr → Prop
  | .int most x, f => 0 ≤ f.get x ∧ f.get x ≤ most
  | .text least most, f => least ≤ f.S.length ∧ f.S.length ≤ most
  | .chal, f => f.S.length = 8
  | .cidp, f => f.cid.length = 8
  | .uni, _ => True
  | .retire, f => 0 ≤ f.rt ∧ f.rt ≤ f.sq
  | .ranges, f => 1 ≤ f.rg.length ∧ f.rg.length ≤ 16 ∧ RgOk 281474976710658 f.rg
/-- The fields that the type uses have valid values. -/
def valR (f : Fr) : Prop := ∃ l, tab f.ty = some l ∧ (∀ p ∈ l, okP p f) ∧ (f.ty = 6 ∨ f.ty = 8 → f.off + f.S.length ≤ 1099511627776)
/-- The frame without the fields that its type uses. -/
def usedR (f : Fr) : Fr := clrs ((tab f.ty).getD []) { f with fin := if f.ty = 8 then false else f.fin }

theorem rngE_ok {L : List (Int × Int)} : ∀ {i0 : Bool} {fr : Int} {s : List UInt8}, 0 ≤ fr → fr ≤ 281474976710658 → (i0 = true → fr = 281474976710658) → InR L → rngE i0 fr L = some s → RgOk fr L := by
  induction L with
  | nil => intro i0 fr s _ _ _ _ _; trivial
  | cons p r ih =>
    obtain ⟨f, t⟩ := p
    intro i0 fr s h0 h1 hi hR h
    have hp := hR (f, t) (by simp)
    simp only at hp
    obtain ⟨a, b, c, d, x, hx, _⟩ := rngE_cons h0 h1 hp.2.2.1 hp.2.1 hi h
    exact ⟨a, b, c, d, ih a (by omega) (fun h => by cases h) (fun q hq => hR q (by simp [hq])) hx⟩
theorem okP_put {p : Pt} {f : Fr} (hp : ∀ m x, p = .int m x → m ≤ 4611686018427387903) (hm : ∀ a b, p = .text a b → b ≤ 1024) (hs : p = .retire → f.sq ≤ 4611686018427387903) (ho : ∀ a b, p = .text a b → 0 ≤ f.off ∧ f.off + f.S.length ≤ 1099511627776) (hR : InR f.rg) :
    okP p f ↔ ∃ s, putP p f = some s := by
  cases p with
  | int m x =>
    have := hp m x rfl
    constructor
    · intro h; exact ⟨_, numE_mk h.2 h.1 (by have := h.2; omega)⟩
    · rintro ⟨s, h⟩; have := numE_some h; exact ⟨this.2.1, this.1⟩
  | text a b =>
    have hb := hm a b rfl
    obtain ⟨o1, o2⟩ := ho a b rfl
    constructor
    · intro h; exact putText h.1 h.2 hb o1 o2
    · rintro ⟨s, h⟩
      simp only [putP] at h
      by_cases c : f.S.length < a ∨ 1099511627776 < w64 (f.off + f.S.length)
      · rw [if_pos c] at h; cases h
      rw [if_neg c] at h
      cases hn : numE f.S.length b with
      | none => rw [hn] at h; cases h
      | some z => have := (numE_some hn).1; exact ⟨by omega, by omega⟩
  | chal =>
    constructor
    · intro h; exact ⟨_, by simp only [putP]; rw [if_pos (show f.S.length = 8 from h)]⟩
    · rintro ⟨s, h⟩
      by_cases c : f.S.length = 8
      · exact c
      · simp only [putP] at h; rw [if_neg c] at h; cases h
  | cidp =>
    constructor
    · intro h; exact ⟨_, by simp only [putP]; rw [if_pos (show f.cid.length = 8 from h)]⟩
    · rintro ⟨s, h⟩
      by_cases c : f.cid.length = 8
      · exact c
      · simp only [putP] at h; rw [if_neg c] at h; cases h
  | uni => exact ⟨fun _ => ⟨_, rfl⟩, fun _ => trivial⟩
  | retire =>
    have := hs rfl
    constructor
    · intro h; exact ⟨_, numE_mk h.2 h.1 (by have := h.2; omega)⟩
    · rintro ⟨s, h⟩; have := numE_some h; exact ⟨this.2.1, this.1⟩
  | ranges =>
    constructor
    · intro h; exact putRanges (fun e => by have := h.1; rw [e] at this; simp at this) h.2.1 h.2.2
    · rintro ⟨s, h⟩
      simp only [putP] at h
      by_cases c : f.rg = []
      · rw [if_pos c] at h; cases h
      rw [if_neg c] at h
      cases ha : numE f.rg.length 16 with
      | none => rw [ha] at h; simp at h
      | some a =>
        cases hb : rngE true 281474976710658 f.rg with
        | none => rw [ha, hb] at h; simp at h
        | some b =>
          have := (numE_some ha).1
          exact ⟨by have := List.length_pos_iff.2 c; omega, by omega, rngE_ok (by omega) (by omega) (fun _ => rfl) hR hb⟩
theorem puts_all (l : List Pt) (f : Fr) : (∃ s, puts l f = some s) ↔ ∀ p ∈ l, ∃ s, putP p f = some s := by
  induction l with
  | nil => exact ⟨fun _ p hp => absurd hp (by simp), fun _ => ⟨[], rfl⟩⟩
  | cons p r ih =>
    constructor
    · rintro ⟨s, h⟩
      simp only [puts] at h
      cases h1 : putP p f with
      | none => rw [h1] at h; cases h
      | some a =>
        cases h2 : puts r f with
        | none => rw [h1, h2] at h; cases h
        | some b =>
          intro q hq
          rcases List.mem_cons.1 hq with rfl | hq
          · exact ⟨a, h1⟩
          · exact ih.1 ⟨b, h2⟩ q hq
    · intro h
      obtain ⟨a, ha⟩ := h p (by simp)
      obtain ⟨b, hb⟩ := ih.2 fun q hq => h q (by simp [hq])
      exact ⟨a ++ b, by simp only [puts, ha, hb]⟩
theorem clrs_fin (l : List Pt) : ∀ f : Fr, (clrs l f).fin = f.fin := by
  induction l with
  | nil => intro f; rfl
  | cons p r ih =>
    intro f
    rw [show clrs (p :: r) f = clrs r (clrP p f) from rfl, ih]
    cases p with
    | int m x => cases x <;> rfl
    | _ => rfl
/-- A type's parts: the numbers' bounds, and when the offset is used. -/
theorem tab_facts {k : Int} {l : List Pt} (h : tab k = some l) : (∀ p ∈ l, (∀ m x, p = .int m x → m ≤ 4611686018427387903) ∧ (∀ a b, p = .text a b → b ≤ 1024) ∧ (p = .retire → Pt.int mV .sq ∈ l) ∧ (∀ a b, p = .text a b → (k = 6 ∨ k = 8) ∧ Pt.int mO .off ∈ l ∨ (k ≠ 6 ∧ k ≠ 8 ∧ ∀ f : Fr, (clrs l f).off = f.off))) ∧ ((k = 6 ∨ k = 8) → ∃ a b, Pt.text a b ∈ l) := by
  refine tab_ind (P := fun k l => (∀ p ∈ l, (∀ m x, p = .int m x → m ≤ 4611686018427387903) ∧ (∀ a b, p = .text a b → b ≤ 1024) ∧ (p = .retire → Pt.int mV .sq ∈ l) ∧ (∀ a b, p = .text a b → (k = 6 ∨ k = 8) ∧ Pt.int mO .off ∈ l ∨ (k ≠ 6 ∧ k ≠ 8 ∧ ∀ f : Fr, (clrs l f).off = f.off))) ∧ ((k = 6 ∨ k = 8) → ∃ a b, Pt.text a b ∈ l)) ?_ ?_ ?_ ?_ ?_ ?_ ?_ ?_ ?_ ?_ ?_ ?_ ?_ ?_ ?_ ?_ ?_ ?_ ?_ ?_ ?_ k l h
  all_goals
    refine ⟨?_, ?_⟩
    · intro p hp
      simp only [List.mem_cons, List.not_mem_nil, or_false] at hp
      try rcases hp with rfl | rfl | rfl
      try rcases hp with rfl | rfl
      try subst hp
      all_goals first
        | exact hp.elim
        | (refine ⟨fun m x e => ?_, fun a b e => ?_, fun e => ?_, fun a b e => ?_⟩ <;> first
            | (cases e; done)
            | (cases e; simp [mV, mO, mC]; done)
            | (cases e; exact .inl ⟨by omega, by simp⟩)
            | (cases e; exact .inr ⟨by omega, by omega, fun f => rfl⟩)
            | simp)
    · intro h
      first
        | omega
        | exact ⟨_, _, List.mem_cons_of_mem _ (List.mem_cons_self)⟩
        | exact ⟨_, _, List.mem_cons_of_mem _ (List.mem_cons_of_mem _ (List.mem_cons_self))⟩
/-- The reference holds for valid what the program encodes. -/
theorem valid_iff (f : Fr) (hR : InR f.rg) : (valR f ∧ usedR f = Fr.zero f.ty) ↔ ∃ s, encF f = some s := by
  constructor
  · rintro ⟨⟨l, ht, hl, ho⟩, hu⟩
    unfold usedR at hu
    rw [ht] at hu
    simp only [Option.getD_some] at hu
    obtain ⟨tf, tx⟩ := tab_facts ht
    have hfin : (if f.ty = 8 then false else f.fin) = false := by
      have := congrArg Fr.fin hu
      rw [clrs_fin] at this
      exact this
    rw [hfin] at hu
    refine enc_of ht (fun h => ?_) ((puts_all l f).2 fun p hp => ?_) hu
    · by_cases h8 : f.ty = 8
      · exact h8
      · rw [if_neg h8, h] at hfin; cases hfin
    · obtain ⟨t1, t2, t3, t4⟩ := tf p hp
      refine (okP_put t1 t2 (fun e => (hl _ (t3 e)).2) (fun a b e => ?_) hR).1 (hl p hp)
      rcases t4 a b e with ⟨h1, h2⟩ | ⟨h1, h2, h3⟩
      · exact ⟨(hl _ h2).1, ho h1⟩
      · have h0 : f.off = 0 := (h3 { f with fin := false }).symm.trans (congrArg Fr.off hu)
        have h9 := hl p hp
        subst e
        have h10 := t2 a b rfl
        have h11 : f.S.length ≤ b := h9.2
        omega
  · rintro ⟨s, h⟩
    obtain ⟨l, bs, ht, hf, hp, hc, _⟩ := encF_some h
    obtain ⟨tf, tx⟩ := tab_facts ht
    have hpa := (puts_all l f).1 ⟨bs, hp⟩
    have hint : ∀ m x, Pt.int m x ∈ l → 0 ≤ f.get x ∧ f.get x ≤ m := fun m x hm => by
      obtain ⟨s, h⟩ := hpa _ hm
      have := numE_some h; exact ⟨this.2.1, this.1⟩
    have htx : ∀ a b, Pt.text a b ∈ l → 0 ≤ f.off ∧ f.off + f.S.length ≤ 1099511627776 := fun a b hm => by
      obtain ⟨_, t2, _, t4⟩ := tf _ hm
      have hb := t2 a b rfl
      obtain ⟨s, h⟩ := hpa _ hm
      have h0 : 0 ≤ f.off ∧ f.off ≤ 1099511627776 := by
        rcases t4 a b rfl with ⟨h1, h2⟩ | ⟨h1, h2, h3⟩
        · exact hint _ _ h2
        · have h0 : f.off = 0 := (h3 { f with fin := false }).symm.trans (congrArg Fr.off hc)
          omega
      simp only [putP] at h
      by_cases c : f.S.length < a ∨ 1099511627776 < w64 (f.off + f.S.length)
      · rw [if_pos c] at h; cases h
      rw [if_neg c] at h
      cases hn : numE f.S.length b with
      | none => rw [hn] at h; cases h
      | some z =>
        have := (numE_some hn).1
        rw [w64_in (by omega) (by omega)] at c
        omega
    refine ⟨⟨l, ht, fun p hm => ?_, fun h => ?_⟩, ?_⟩
    · obtain ⟨t1, t2, t3, t4⟩ := tf p hm
      exact (okP_put t1 t2 (fun e => (hint _ _ (t3 e)).2) (fun a b e => by subst e; exact htx a b hm) hR).2 (hpa p hm)
    · obtain ⟨a, b, hm⟩ := tx h
      exact (htx a b hm).2
    · unfold usedR
      rw [ht]
      simp only [Option.getD_some]
      have : (if f.ty = 8 then false else f.fin) = false := by
        by_cases h8 : f.ty = 8
        · rw [if_pos h8]
        · rw [if_neg h8]
          cases hb : f.fin with
          | false => rfl
          | true => exact absurd ⟨hb, h8⟩ hf
      rw [this]
      exact hc
end Go.Proofs.Ytmmgmpghkpbgkaa
/- Plain law of the reference's Decode: it answers what the program's answers. -/
namespace Go.Proofs.Ytmmgmpghkpbgkaa
open Go.RowKit
set_option linter.unusedVariables false
set_option linter.unusedSimpArgs false

/-- A part is read by the reference. -/
def stepR (s : List UInt8) : Pt → Fr → Option Nat → Fr × Option Nat
  | .int _ x, f, st => (f.set x (vR s st).1, (vR s st).2)
  | .text _ _, f, st => ({ f with S := (tR s (vR s st).1 (vR s st).2).1 }, (tR s (vR s st).1 (vR s st).2).2)
  | .chal, f, st => ({ f with S := (tR s 8 st).1 }, (tR s 8 st).2)
  | .cidp, f, st => ({ f with cid := (tR s 8 st).1 }, (tR s 8 st).2)
  | .uni, f, st => ({ f with uni := (uR s st).1 }, (uR s st).2)
  | .retire, f, st => ({ f with rt := (vR s st).1 }, (vR s st).2)
  | .ranges, f, st => ({ f with rg := (raR s st).1 }, (raR s st).2)
def runR (s : List UInt8) : List Pt → Fr → Option Nat → Fr × Option Nat
  | [], f, st => (f, st)
  | p :: r, f, st => runR s r (stepR s p f st).1 (stepR s p f st).2
theorem uR_at {s : List UInt8} {st : Option Nat} {b : Nat} (hst : ∀ a, st = some a → a ≤ s.length) (h : (uR s st).2 = some b) : b ≤ s.length := by
  unfold uR at h
  simp only at h
  split at h
  · exact tR_at hst h
  · cases h
theorem stepR_at {s : List UInt8} {p : Pt} {f : Fr} {st : Option Nat} (hst : ∀ a, st = some a → a ≤ s.length) : ∀ b, (stepR s p f st).2 = some b → b ≤ s.length := by
  intro b h
  cases p with
  | int m x => exact vR_at h
  | text a c => exact tR_at (fun a h => vR_at h) h
  | chal => exact tR_at hst h
  | cidp => exact tR_at hst h
  | uni => exact uR_at hst h
  | retire => exact vR_at h
  | ranges => exact rR_at s _ _ _ _ (fun a h => vR_at h) h
theorem stepR_rg {s : List UInt8} {p : Pt} {f : Fr} {st : Option Nat} (h : p.isR = false) : (stepR s p f st).1.rg = f.rg := by
  cases p with
  | int m x => exact set_rg _ _ _
  | ranges => cases h
  | _ => rfl
theorem stepR_ty {s : List UInt8} {p : Pt} {f : Fr} {st : Option Nat} : (stepR s p f st).1.ty = f.ty := by
  cases p with
  | int m x => cases x <;> rfl
  | _ => rfl
theorem runR_ty {s : List UInt8} (l : List Pt) : ∀ (f : Fr) (st : Option Nat), (runR s l f st).1.ty = f.ty := by
  induction l with
  | nil => intro f st; rfl
  | cons p r ih => intro f st; exact (ih _ _).trans stepR_ty
theorem runR_gets (s : List UInt8) (l : List Pt) : ∀ (f : Fr) (st : Option Nat), rgLast l = true → ((∃ p ∈ l, p.isR = true) → f.rg = []) → (∀ a, st = some a → a ≤ s.length) →
    getsO s l f st = (runR s l f st).2.map (fun a => ((runR s l f st).1, s.drop a)) ∨ (getsO s l f st = none ∧ ((runR s l f st).2 = none ∨ (runR s l f st).1.rg.length = 17)) := by
  induction l with
  | nil => intro f st _ _ _; exact .inl (getsO_nil s f st)
  | cons p r ih =>
    intro f st hl hg hst
    simp only [rgLast, Bool.and_eq_true, Bool.or_eq_true, Bool.not_eq_true'] at hl
    by_cases hp : p.isR = true
    · cases p with
      | ranges =>
        have hr : r = [] := by
          rcases hl.1 with h | h
          · cases h
          · exact List.isEmpty_iff.1 h
        subst hr
        rcases getsO_ranges s f st (hg ⟨.ranges, by simp, rfl⟩) with h | h
        · left; rw [h, getsO_nil]; rfl
        · exact .inr h
      | _ => cases hp
    · have hp : p.isR = false := by cases h : p.isR <;> simp_all
      have hs : getsO s (p :: r) f st = getsO s r (stepR s p f st).1 (stepR s p f st).2 := by
        cases p with
        | int m x => exact getsO_int s m x r f st
        | text a b => exact getsO_text s a b r f st
        | chal => exact getsO_chal s r f st hst
        | cidp => exact getsO_cidp s r f st hst
        | uni => exact getsO_uni s r f st hst
        | retire => exact getsO_retire s r f st
        | ranges => cases hp
      rw [hs]
      exact ih _ _ hl.2 (fun ⟨q, hq, hq2⟩ => by rw [stepR_rg hp]; exact hg ⟨q, by simp [hq], hq2⟩) (stepR_at hst)
/-- A valid frame has at most sixteen ranges. -/
theorem enc_rg16 {f : Fr} {s : List UInt8} (h : encF f = some s) : f.rg.length ≤ 16 := by
  obtain ⟨l, bs, ht, _, hp, hc, _⟩ := encF_some h
  have key : ∀ k l, tab k = some l → Pt.ranges ∈ l ∨ ∀ f : Fr, (clrs l f).rg = f.rg := by
    intro k l h
    refine tab_ind (P := fun k l => Pt.ranges ∈ l ∨ ∀ f : Fr, (clrs l f).rg = f.rg) ?_ ?_ ?_ ?_ ?_ ?_ ?_ ?_ ?_ ?_ ?_ ?_ ?_ ?_ ?_ ?_ ?_ ?_ ?_ ?_ ?_ k l h
    all_goals first
      | exact .inr fun f => rfl
      | exact .inl (by simp)
  rcases key _ _ ht with h1 | h1
  · obtain ⟨z, hz⟩ := (puts_all l f).1 ⟨bs, hp⟩ _ h1
    simp only [putP] at hz
    by_cases c : f.rg = []
    · rw [c]; simp
    rw [if_neg c] at hz
    cases ha : numE f.rg.length 16 with
    | none => rw [ha] at hz; simp at hz
    | some a => have := (numE_some ha).1; omega
  · have := (h1 { f with fin := false }).symm.trans (congrArg Fr.rg hc)
    have h2 : f.rg = [] := this
    rw [h2]; simp
theorem rgLast_tab (k : Int) : rgLast ((tab k).getD []) = true := by
  cases h : tab k with
  | none => rfl
  | some l => exact (tab_cases h).2.2.2.1
theorem headF_rg (x : UInt8) : (headF x).rg = [] := by unfold headF; split <;> rfl
/-- What the reference has read answers as the program's decoding. -/
theorem dec_read (s : List UInt8) (a : Nat) (x : UInt8) (ha : a < s.length) (hx : s.drop a = x :: s.drop (a + 1)) (R : Fr × Option Nat) (hR : runR s ((tab (headF x).ty).getD []) (headF x) (some (a + 1)) = R) :
    decF (s.drop a) = match R.2 with
      | none => none
      | some b => match encF R.1 with
        | none => none
        | some _ => some (R.1, s.drop b) := by
  have h := runR_gets s ((tab (headF x).ty).getD []) (headF x) (some (a + 1)) (rgLast_tab _) (fun _ => headF_rg x) (fun b h => by cases h; omega)
  rw [hR] at h
  rw [hx]
  simp only [decF]
  rw [show gets ((tab (headF x).ty).getD []) (headF x) (s.drop (a + 1)) = getsO s ((tab (headF x).ty).getD []) (headF x) (some (a + 1)) from rfl]
  rcases h with h | ⟨h, h2⟩
  · rw [h]
    cases R.2 <;> rfl
  · rw [h]
    rcases h2 with h2 | h2
    · rw [h2]
    · cases R.2 with
      | none => rfl
      | some b =>
        cases he : encF R.1 with
        | none => rfl
        | some z => have := enc_rg16 he; omega
end Go.Proofs.Ytmmgmpghkpbgkaa
