/- Plain law of frames: encoding, reading, and how they undo each other. -/
import Derived.Test.YtmmgmpghkpbgkaaVaM
namespace Go.Proofs.Ytmmgmpghkpbgkaa
open Go.RowKit
set_option linter.unusedVariables false
set_option linter.unusedSimpArgs false

/-- A frame: type, stream, offset, text, fin, limit, code, uni, delay, ranges, sequence, retire, connection id. -/
structure Fr where
  ty : Int
  st : Int
  off : Int
  S : List UInt8
  fin : Bool
  mx : Int
  cd : Int
  uni : Bool
  dl : Int
  rg : List (Int × Int)
  sq : Int
  rt : Int
  cid : List UInt8
def Fr.zero (ty : Int) : Fr := ⟨ty, 0, 0, [], false, 0, 0, false, 0, [], 0, 0, []⟩
inductive Fld where
  | st | mx | cd | off | sq | dl
def Fr.get (f : Fr) : Fld → Int
  | .st => f.st
  | .mx => f.mx
  | .cd => f.cd
  | .off => f.off
  | .sq => f.sq
  | .dl => f.dl
def Fr.set (f : Fr) (x : Fld) (n : Int) : Fr :=
  match x with
  | .st => { f with st := n }
  | .mx => { f with mx := n }
  | .cd => { f with cd := n }
  | .off => { f with off := n }
  | .sq => { f with sq := n }
  | .dl => { f with dl := n }
/-- The kinds of parts. -/
inductive Pt where
  | int (most : Int) (x : Fld)
  | text (least most : Nat)
  | chal
  | cidp
  | uni
  | retire
  | ranges
def w64 (x : Int) : Int := IntKind.i64.wrap x
/-- A number of at most most, encoded. -/
def numE (n most : Int) : Option (List UInt8) := if most < n then none else if vCls n < 0 then none else some (vEnc n)
def rngE : Bool → Int → List (Int × Int) → Option (List UInt8)
  | _, _, [] => some []
  | i0, from', (f, t) :: r => if f < 0 ∨ 281474976710656 < t ∨ from' ≤ t then none else
      match numE (if i0 then w64 (t - 1) else w64 (w64 (from' - t) - 1)) 4611686018427387903, numE (w64 (w64 (t - f) - 1)) 4611686018427387903, rngE false f r with
      | some a, some b, some c => some (a ++ b ++ c)
      | _, _, _ => none
def putP : Pt → Fr → Option (List UInt8)
  | .int most x, f => numE (f.get x) most
  | .text least most, f => if f.S.length < least ∨ 1099511627776 < w64 (f.off + f.S.length) then none else (numE f.S.length most).map (· ++ f.S)
  | .chal, f => if f.S.length = 8 then some f.S else none
  | .cidp, f => if f.cid.length = 8 then some f.cid else none
  | .uni, f => some [if f.uni then 1 else 0]
  | .retire, f => numE f.rt f.sq
  | .ranges, f => if f.rg = [] then none else
      match numE f.rg.length 16, rngE true 281474976710658 f.rg with
      | some a, some b => some (a ++ b)
      | _, _ => none
def clrP : Pt → Fr → Fr
  | .int _ x, f => f.set x 0
  | .text _ _, f => { f with S := [] }
  | .chal, f => { f with S := [] }
  | .cidp, f => { f with cid := [] }
  | .uni, f => { f with uni := false }
  | .retire, f => { f with rt := 0 }
  | .ranges, f => { f with rg := [] }
/-- A number at the head, and what is left. -/
def numD (l : List UInt8) : Option (Int × List UInt8) := (vDec l).map fun p => (p.1, l.drop p.2)
/-- n ranges more, after acc. -/
def rngD : Nat → List (Int × Int) → List UInt8 → Option (List (Int × Int) × List UInt8)
  | 0, acc, l => some (acc, l)
  | n + 1, acc, l =>
    match numD l with
    | none => none
    | some (a, l1) =>
      match numD l1 with
      | none => none
      | some (b, l2) => rngD n (acc ++ [(w64 ((match acc.getLast? with | none => a | some p => w64 (w64 (p.1 - a) - 2)) - b), w64 ((match acc.getLast? with | none => a | some p => w64 (w64 (p.1 - a) - 2)) + 1))]) l2
def getP : Pt → Fr → List UInt8 → Option (Fr × List UInt8)
  | .int _ x, f, l => (numD l).map fun p => (f.set x p.1, p.2)
  | .text _ _, f, l => match numD l with
      | none => none
      | some (n, l1) => if (l1.length : Int) < n then none else some ({ f with S := l1.take n.toNat }, l1.drop n.toNat)
  | .chal, f, l => if l.length < 8 then none else some ({ f with S := l.take 8 }, l.drop 8)
  | .cidp, f, l => if l.length < 8 then none else some ({ f with cid := l.take 8 }, l.drop 8)
  | .uni, f, l => match l with
      | [] => none
      | x :: r => if 1 < x.toNat then none else some ({ f with uni := decide (x.toNat = 1) }, r)
  | .retire, f, l => (numD l).map fun p => ({ f with rt := p.1 }, p.2)
  | .ranges, f, l => match numD l with
      | none => none
      | some (n, l1) => if 16 < n then none else (rngD n.toNat f.rg l1).map fun p => ({ f with rg := p.1 }, p.2)
def mV : Int := 4611686018427387903
def mO : Int := 1099511627776
def mC : Int := 1073741823
/-- The parts of each type. -/
def tab (k : Int) : Option (List Pt) :=
  if k = 0 then some [] else if k = 1 then some [] else if k = 30 then some []
  else if k = 2 then some [.int mV .dl, .ranges] else if k = 4 then some [.int mV .st, .int mC .cd, .int mO .mx] else if k = 5 then some [.int mV .st, .int mC .cd]
  else if k = 6 then some [.int mO .off, .text 0 1024] else if k = 7 then some [.text 1 128] else if k = 8 then some [.int mV .st, .int mO .off, .text 0 1024]
  else if k = 16 then some [.int mV .mx] else if k = 20 then some [.int mV .mx] else if k = 17 then some [.int mV .st, .int mV .mx] else if k = 21 then some [.int mV .st, .int mV .mx]
  else if k = 18 then some [.uni, .int mV .mx] else if k = 22 then some [.uni, .int mV .mx]
  else if k = 24 then some [.int mV .sq, .retire, .cidp] else if k = 25 then some [.int mV .sq]
  else if k = 26 then some [.chal] else if k = 27 then some [.chal]
  else if k = 28 then some [.int mC .cd, .text 0 64] else if k = 29 then some [.int mC .cd, .text 0 64] else none
def puts : List Pt → Fr → Option (List UInt8)
  | [], _ => some []
  | p :: r, f => match putP p f, puts r f with
      | some a, some b => some (a ++ b)
      | _, _ => none
def clrs : List Pt → Fr → Fr
  | [], f => f
  | p :: r, f => clrs r (clrP p f)
def gets : List Pt → Fr → List UInt8 → Option (Fr × List UInt8)
  | [], f, l => some (f, l)
  | p :: r, f, l => match getP p f l with
      | none => none
      | some (g, l1) => gets r g l1
/-- A frame, encoded; none if it is not valid. -/
noncomputable def encF (f : Fr) : Option (List UInt8) := open Classical in
  match tab f.ty with
  | none => none
  | some l => if f.fin = true ∧ f.ty ≠ 8 then none else
      match puts l f with
      | none => none
      | some s => if clrs l { f with fin := false } = Fr.zero f.ty then some (byt (f.ty.toNat + if f.fin then 1 else 0) :: s) else none
/-- The frame that a type byte begins. -/
def headF (x : UInt8) : Fr := if x.toNat = 9 then { Fr.zero 8 with fin := true } else Fr.zero x.toNat
noncomputable def decF (l : List UInt8) : Option (Fr × List UInt8) :=
  match l with
  | [] => none
  | x :: r => match gets ((tab (headF x).ty).getD []) (headF x) r with
      | none => none
      | some (f, l1) => match encF f with
          | none => none
          | some _ => some (f, l1)

theorem numE_some {n most : Int} {a : List UInt8} (h : numE n most = some a) : n ≤ most ∧ 0 ≤ n ∧ n ≤ 4611686018427387903 ∧ a = vEnc n := by
  unfold numE at h
  by_cases h1 : most < n
  · rw [if_pos h1] at h; cases h
  rw [if_neg h1] at h
  by_cases h2 : vCls n < 0
  · rw [if_pos h2] at h; cases h
  rw [if_neg h2] at h
  have h3 : ¬ (n < 0 ∨ 4611686018427387903 < n) := fun h => h2 ((vCls_neg n).2 h)
  cases h
  exact ⟨by omega, by omega, by omega, rfl⟩
theorem numE_mk {n most : Int} (h : n ≤ most) (h0 : 0 ≤ n) (h1 : n ≤ 4611686018427387903) : numE n most = some (vEnc n) := by
  unfold numE
  rw [if_neg (by omega), if_neg (fun h => by have := (vCls_neg n).1 h; omega)]
theorem numD_enc (n : Int) (h0 : 0 ≤ n) (h1 : n ≤ 4611686018427387903) (r : List UInt8) : numD (vEnc n ++ r) = some (n, r) := by
  unfold numD
  rw [vDec_enc n h0 h1]
  simp [← vEnc_len]
theorem numD_some {l r : List UInt8} {n : Int} (h : numD l = some (n, r)) : 0 ≤ n ∧ n ≤ 4611686018427387903 ∧ l = vEnc n ++ r := by
  unfold numD at h
  cases hd : vDec l with
  | none => rw [hd] at h; cases h
  | some p =>
    obtain ⟨m, w⟩ := p
    rw [hd] at h
    simp only [Option.map_some, Option.some.injEq, Prod.mk.injEq] at h
    obtain ⟨rfl, rfl⟩ := h
    obtain ⟨h0, h1, h2, h3, h4⟩ := vDec_some l m w hd
    exact ⟨h0, h1, by rw [← h4, List.take_append_drop]⟩
theorem w64_in {x : Int} (h0 : -9223372036854775808 ≤ x) (h1 : x ≤ 9223372036854775807) : w64 x = x := IntWalk.i64_in _ ⟨h0, h1⟩
theorem w64_eq (x : Int) : w64 x = (x + 9223372036854775808) % 18446744073709551616 - 9223372036854775808 := by
  unfold w64 IntKind.wrap; simp [IntKind.signed, IntKind.bits]; omega

/-- Ranges that are encoded lie as they should. -/
theorem rngE_cons {i0 : Bool} {fr f t : Int} {r : List (Int × Int)} {s : List UInt8} (b0 : 0 ≤ fr) (b1 : fr ≤ 281474976710658) (bt : -9223372036854775808 ≤ t) (bf : f ≤ 9223372036854775807) (hi : i0 = true → fr = 281474976710658)
    (h : rngE i0 fr ((f, t) :: r) = some s) : 0 ≤ f ∧ f < t ∧ t ≤ 281474976710656 ∧ t < fr ∧ ∃ c, rngE false f r = some c ∧ s = vEnc (if i0 then t - 1 else fr - t - 1) ++ vEnc (t - f - 1) ++ c := by
  simp only [rngE] at h
  by_cases h1 : f < 0 ∨ 281474976710656 < t ∨ fr ≤ t
  · rw [if_pos h1] at h; cases h
  rw [if_neg h1] at h
  cases ha : numE (if i0 then w64 (t - 1) else w64 (w64 (fr - t) - 1)) 4611686018427387903 with
  | none => rw [ha] at h; simp at h
  | some a =>
    cases hb : numE (w64 (w64 (t - f) - 1)) 4611686018427387903 with
    | none => rw [ha, hb] at h; simp at h
    | some b =>
      cases hc : rngE false f r with
      | none => rw [ha, hb, hc] at h; simp at h
      | some c =>
        rw [ha, hb, hc] at h
        simp only [Option.some.injEq] at h
        obtain ⟨a1, a2, a3, rfl⟩ := numE_some ha
        obtain ⟨b1', b2, b3, rfl⟩ := numE_some hb
        have ht : -4611686018427387904 ≤ t := by
          cases i0
          · simp only [Bool.false_eq_true, if_false] at a2 a3
            rw [w64_eq, w64_eq] at a2 a3; omega
          · simp only [if_true] at a2 a3
            rw [w64_eq] at a2 a3; omega
        have hft : f < t := by rw [w64_eq, w64_eq] at b2 b3; omega
        have e1 : w64 (t - 1) = t - 1 := w64_in (by omega) (by omega)
        have e2 : w64 (w64 (fr - t) - 1) = fr - t - 1 := by rw [w64_in (x := fr - t) (by omega) (by omega)]; exact w64_in (by omega) (by omega)
        have e3 : w64 (w64 (t - f) - 1) = t - f - 1 := by rw [w64_in (x := t - f) (by omega) (by omega)]; exact w64_in (by omega) (by omega)
        rw [e1, e2, e3] at h
        exact ⟨by omega, hft, by omega, by omega, c, rfl, h.symm⟩
/-- Ranges of numbers that the machine can hold. -/
def InR (L : List (Int × Int)) : Prop := ∀ p ∈ L, -9223372036854775808 ≤ p.1 ∧ p.1 ≤ 9223372036854775807 ∧ -9223372036854775808 ≤ p.2 ∧ p.2 ≤ 9223372036854775807
theorem rngD_enc (r : List UInt8) (L : List (Int × Int)) : ∀ (acc : List (Int × Int)) (fr : Int) (s : List UInt8), 0 ≤ fr → fr ≤ 281474976710658 → InR L →
    (match acc.getLast? with | none => fr = 281474976710658 | some p => fr = p.1) → rngE acc.isEmpty fr L = some s → rngD L.length acc (s ++ r) = some (acc ++ L, r) := by
  induction L with
  | nil => intro acc fr s b0 b1 hR ha h; simp only [rngE, Option.some.injEq] at h; subst h; simp [rngD]
  | cons p L ih =>
    obtain ⟨f, t⟩ := p
    intro acc fr s b0 b1 hR ha h
    have hp := hR (f, t) (by simp)
    simp only at hp
    have hi : acc.isEmpty = true → fr = 281474976710658 := fun he => by
      cases acc with
      | nil => simpa using ha
      | cons x y => simp at he
    obtain ⟨c1, c2, c3, c4, c, hc, rfl⟩ := rngE_cons b0 b1 hp.2.2.1 hp.2.1 hi h
    have hfst : 0 ≤ (if acc.isEmpty = true then t - 1 else fr - t - 1) ∧ (if acc.isEmpty = true then t - 1 else fr - t - 1) ≤ 4611686018427387903 := by
      split <;> omega
    have hlast : (match acc.getLast? with | none => (if acc.isEmpty = true then t - 1 else fr - t - 1) | some p => w64 (w64 (p.1 - (if acc.isEmpty = true then t - 1 else fr - t - 1)) - 2)) = t - 1 := by
      cases hg : acc.getLast? with
      | none =>
        have : acc = [] := List.getLast?_eq_none_iff.1 hg
        subst this
        rfl
      | some q =>
        rw [hg] at ha
        simp only at ha
        have he : acc.isEmpty = false := by
          cases acc with
          | nil => simp at hg
          | cons x y => rfl
        simp only [he, Bool.false_eq_true, if_false]
        rw [w64_in (x := q.1 - (fr - t - 1)) (by omega) (by omega), w64_in (x := q.1 - (fr - t - 1) - 2) (by omega) (by omega)]; omega
    simp only [List.length_cons, rngD, List.append_assoc]
    rw [numD_enc _ hfst.1 hfst.2]
    simp only
    rw [numD_enc _ (by omega) (by omega)]
    simp only
    rw [hlast, w64_in (x := t - 1 - (t - f - 1)) (by omega) (by omega), w64_in (x := t - 1 + 1) (by omega) (by omega), show t - 1 - (t - f - 1) = f from by omega, show t - 1 + 1 = t from by omega]
    have hem : (acc ++ [(f, t)]).isEmpty = false := by simp
    have := ih (acc ++ [(f, t)]) f c c1 (by omega) (fun q hq => hR q (by simp [hq])) (by simp) (by rw [hem]; exact hc)
    rw [this]; simp
theorem rngD_some (n : Nat) : ∀ (acc out : List (Int × Int)) (l r : List UInt8), rngD n acc l = some (out, r) → InR acc →
    InR out ∧ ∃ L, out = acc ++ L ∧ L.length = n ∧ ∀ (fr : Int) (s : List UInt8), 0 ≤ fr → fr ≤ 281474976710658 → (match acc.getLast? with | none => fr = 281474976710658 | some p => fr = p.1) → rngE acc.isEmpty fr L = some s → l = s ++ r := by
  induction n with
  | zero =>
    intro acc out l r h hR
    simp only [rngD, Option.some.injEq, Prod.mk.injEq] at h
    obtain ⟨rfl, rfl⟩ := h
    exact ⟨hR, [], by simp, rfl, fun fr s _ _ _ hs => by simp only [rngE, Option.some.injEq] at hs; subst hs; rfl⟩
  | succ n ih =>
    intro acc out l r h hR
    simp only [rngD] at h
    cases ha : numD l with
    | none => rw [ha] at h; simp at h
    | some p =>
      obtain ⟨a, l1⟩ := p
      rw [ha] at h
      simp only at h
      cases hb : numD l1 with
      | none => rw [hb] at h; simp at h
      | some q =>
        obtain ⟨b, l2⟩ := q
        rw [hb] at h
        simp only at h
        obtain ⟨a0, a1, rfl⟩ := numD_some ha
        obtain ⟨b0, b1, rfl⟩ := numD_some hb
        generalize hX : (match acc.getLast? with | none => a | some p => w64 (w64 (p.1 - a) - 2)) = X at h
        have hin : InR (acc ++ [(w64 (X - b), w64 (X + 1))]) := fun q hq => by
          rcases List.mem_append.1 hq with hq | hq
          · exact hR q hq
          · simp only [List.mem_singleton] at hq
            subst hq
            simp only [w64_eq]; omega
        obtain ⟨i1, L, rfl, i3, i4⟩ := ih _ _ _ _ h hin
        refine ⟨i1, (w64 (X - b), w64 (X + 1)) :: L, by simp, by simp [i3], fun fr s f0 f1 hf hs => ?_⟩
        have hi : acc.isEmpty = true → fr = 281474976710658 := fun he => by
          cases acc with
          | nil => simpa using hf
          | cons x y => simp at he
        have hw1 : ∀ x, -9223372036854775808 ≤ w64 x ∧ w64 x ≤ 9223372036854775807 := fun x => by rw [w64_eq]; omega
        obtain ⟨c1, c2, c3, c4, c, hc, rfl⟩ := rngE_cons f0 f1 (hw1 _).1 (hw1 _).2 hi hs
        have h4 := i4 (w64 (X - b)) c c1 (by omega) (by simp) (by rw [show (acc ++ [(w64 (X - b), w64 (X + 1))]).isEmpty = false from by simp]; exact hc)
        rw [h4]
        have hXb : -9223372036854775808 ≤ X ∧ X ≤ 9223372036854775807 := by
          rw [← hX]
          cases acc.getLast? with
          | none => simp only; omega
          | some p => simp only; exact hw1 _
        have e2 : w64 (X + 1) = X + 1 := by
          rw [w64_eq] at c2 c3 c1 ⊢
          rw [w64_eq] at c2
          omega
        have e1 : w64 (X - b) = X - b := by
          rw [e2] at c2 c3 c4
          rw [w64_eq] at c1 c2 ⊢; omega
        have e3 : (if acc.isEmpty = true then w64 (X + 1) - 1 else fr - w64 (X + 1) - 1) = a := by
          rw [e2]
          cases hg : acc.getLast? with
          | none =>
            have : acc = [] := List.getLast?_eq_none_iff.1 hg
            subst this
            simp at hX ⊢; omega
          | some q =>
            have he : acc.isEmpty = false := by
              cases acc with
              | nil => simp at hg
              | cons x y => rfl
            rw [hg] at hX hf
            simp only at hX hf
            simp only [he, Bool.false_eq_true, if_false]
            rw [e1] at c1
            rw [e2] at c4
            rw [w64_eq, w64_eq] at hX
            omega
        rw [e3, show w64 (X + 1) - w64 (X - b) - 1 = b from by rw [e1, e2]; omega]
        simp
end Go.Proofs.Ytmmgmpghkpbgkaa
