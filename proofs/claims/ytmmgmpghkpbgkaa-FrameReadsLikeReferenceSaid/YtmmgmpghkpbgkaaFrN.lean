/- Plain law of frames: what is encoded is read back, and what is read is an encoding. -/
import Derived.Test.YtmmgmpghkpbgkaaFrM
namespace Go.Proofs.Ytmmgmpghkpbgkaa
open Go.RowKit
set_option linter.unusedVariables false
set_option linter.unusedSimpArgs false

/-- The field of a part. -/
def Pt.code : Pt → Nat
  | .int _ .st => 0
  | .int _ .mx => 1
  | .int _ .cd => 2
  | .int _ .off => 3
  | .int _ .sq => 4
  | .int _ .dl => 5
  | .text _ _ => 6
  | .chal => 6
  | .cidp => 7
  | .uni => 8
  | .retire => 9
  | .ranges => 10
def agr : Pt → Fr → Fr → Prop
  | .int _ x, g, f => f.get x = g.get x
  | .text _ _, g, f => f.S = g.S
  | .chal, g, f => f.S = g.S
  | .cidp, g, f => f.cid = g.cid
  | .uni, g, f => f.uni = g.uni
  | .retire, g, f => f.rt = g.rt
  | .ranges, g, f => f.rg = g.rg
theorem agr.refl (p : Pt) (g : Fr) : agr p g g := by cases p <;> rfl
theorem agr.trans {p : Pt} {a b c : Fr} (h : agr p a b) (k : agr p b c) : agr p a c := by
  cases p <;> exact Eq.trans k h
def cpP : Pt → Fr → Fr → Fr
  | .int _ x, f, g => g.set x (f.get x)
  | .text _ _, f, g => { g with S := f.S }
  | .chal, f, g => { g with S := f.S }
  | .cidp, f, g => { g with cid := f.cid }
  | .uni, f, g => { g with uni := f.uni }
  | .retire, f, g => { g with rt := f.rt }
  | .ranges, f, g => { g with rg := f.rg }
def cps : List Pt → Fr → Fr → Fr
  | [], _, g => g
  | p :: r, f, g => cps r f (cpP p f g)
def Pt.isR : Pt → Bool
  | .ranges => true
  | _ => false
/-- Ranges stand last. -/
def rgLast : List Pt → Bool
  | [] => true
  | p :: r => (!p.isR || r.isEmpty) && rgLast r
theorem set_rg (g : Fr) (x : Fld) (n : Int) : (g.set x n).rg = g.rg := by cases x <;> rfl
theorem cpP_rg (p : Pt) (f g : Fr) (h : p.isR = false) : (cpP p f g).rg = g.rg := by
  cases p <;> first | rfl | exact set_rg _ _ _ | cases h
theorem get_put (p : Pt) (f g : Fr) (bs r : List UInt8) (h : putP p f = some bs) (hg : p.isR = true → g.rg = []) (hR : InR f.rg) : getP p g (bs ++ r) = some (cpP p f g, r) := by
  cases p with
  | int most x =>
    obtain ⟨h1, h2, h3, rfl⟩ := numE_some h
    simp only [getP, cpP]
    rw [numD_enc _ h2 h3]; rfl
  | text least most =>
    simp only [putP] at h
    by_cases c : f.S.length < least ∨ 1099511627776 < w64 (f.off + f.S.length)
    · rw [if_pos c] at h; cases h
    rw [if_neg c] at h
    cases hn : numE f.S.length most with
    | none => rw [hn] at h; cases h
    | some a =>
      rw [hn] at h
      simp only [Option.map_some, Option.some.injEq] at h
      subst h
      obtain ⟨h1, h2, h3, rfl⟩ := numE_some hn
      simp only [getP, cpP, List.append_assoc]
      rw [numD_enc _ h2 h3]
      simp only
      rw [if_neg (by simp; omega)]
      simp
  | chal =>
    simp only [putP] at h
    by_cases c : f.S.length = 8
    · rw [if_pos c] at h; cases h
      simp only [getP, cpP]
      rw [if_neg (by simp; omega), ← c]; simp
    · rw [if_neg c] at h; cases h
  | cidp =>
    simp only [putP] at h
    by_cases c : f.cid.length = 8
    · rw [if_pos c] at h; cases h
      simp only [getP, cpP]
      rw [if_neg (by simp; omega), ← c]; simp
    · rw [if_neg c] at h; cases h
  | uni =>
    simp only [putP, Option.some.injEq] at h
    subst h
    cases hu : f.uni <;> simp [getP, cpP, hu]
  | retire =>
    obtain ⟨h1, h2, h3, rfl⟩ := numE_some h
    simp only [getP, cpP]
    rw [numD_enc _ h2 h3]; rfl
  | ranges =>
    simp only [putP] at h
    by_cases c : f.rg = []
    · rw [if_pos c] at h; cases h
    rw [if_neg c] at h
    cases ha : numE f.rg.length 16 with
    | none => rw [ha] at h; simp at h
    | some a =>
      cases hb : rngE true 281474976710658 f.rg with
      | none => rw [ha, hb] at h; simp at h
      | some b =>
        rw [ha, hb] at h
        simp only [Option.some.injEq] at h
        subst h
        obtain ⟨h1, h2, h3, rfl⟩ := numE_some ha
        have hd := rngD_enc r f.rg [] 281474976710658 b (by omega) (by omega) hR rfl hb
        simp only [getP, cpP, List.append_assoc]
        rw [numD_enc _ h2 h3, hg rfl]
        simp only
        rw [if_neg (by omega), show (f.rg.length : Int).toNat = f.rg.length from by omega, hd]
        simp
theorem gets_puts (l : List Pt) : ∀ (f g : Fr) (bs r : List UInt8), puts l f = some bs → rgLast l = true → ((∃ p ∈ l, p.isR = true) → g.rg = []) → InR f.rg → gets l g (bs ++ r) = some (cps l f g, r) := by
  induction l with
  | nil => intro f g bs r h _ _ _; simp only [puts, Option.some.injEq] at h; subst h; rfl
  | cons p l ih =>
    intro f g bs r h hl hg hR
    simp only [puts] at h
    cases ha : putP p f with
    | none => rw [ha] at h; simp at h
    | some a =>
      cases hb : puts l f with
      | none => rw [ha, hb] at h; simp at h
      | some b =>
        rw [ha, hb] at h
        simp only [Option.some.injEq] at h
        subst h
        simp only [rgLast, Bool.and_eq_true, Bool.or_eq_true, Bool.not_eq_true'] at hl
        simp only [gets, cps, List.append_assoc]
        rw [get_put p f g a (b ++ r) ha (fun h => hg ⟨p, by simp, h⟩) hR]
        simp only
        refine ih f _ b r hb hl.2 (fun hx => ?_) hR
        rcases hl.1 with h1 | h1
        · rw [cpP_rg _ _ _ h1]
          obtain ⟨q, hq, hq2⟩ := hx
          exact hg ⟨q, by simp [hq], hq2⟩
        · obtain ⟨q, hq, _⟩ := hx
          have := List.isEmpty_iff.1 h1
          subst this
          simp at hq
/-- The rows of the table. -/
theorem tab_ind {P : Int → List Pt → Prop} (h0 : P 0 []) (h1 : P 1 []) (h30 : P 30 []) (h2 : P 2 [.int mV .dl, .ranges]) (h4 : P 4 [.int mV .st, .int mC .cd, .int mO .mx]) (h5 : P 5 [.int mV .st, .int mC .cd]) (h6 : P 6 [.int mO .off, .text 0 1024]) (h7 : P 7 [.text 1 128]) (h8 : P 8 [.int mV .st, .int mO .off, .text 0 1024]) (h16 : P 16 [.int mV .mx]) (h20 : P 20 [.int mV .mx]) (h17 : P 17 [.int mV .st, .int mV .mx]) (h21 : P 21 [.int mV .st, .int mV .mx]) (h18 : P 18 [.uni, .int mV .mx]) (h22 : P 22 [.uni, .int mV .mx]) (h24 : P 24 [.int mV .sq, .retire, .cidp]) (h25 : P 25 [.int mV .sq]) (h26 : P 26 [.chal]) (h27 : P 27 [.chal]) (h28 : P 28 [.int mC .cd, .text 0 64]) (h29 : P 29 [.int mC .cd, .text 0 64]) (k : Int) (l : List Pt) (h : tab k = some l) : P k l := by
  unfold tab at h
  by_cases c : k = 0
  · rw [if_pos c] at h; cases h; rw [c]; exact h0
  rw [if_neg c] at h; clear c
  by_cases c : k = 1
  · rw [if_pos c] at h; cases h; rw [c]; exact h1
  rw [if_neg c] at h; clear c
  by_cases c : k = 30
  · rw [if_pos c] at h; cases h; rw [c]; exact h30
  rw [if_neg c] at h; clear c
  by_cases c : k = 2
  · rw [if_pos c] at h; cases h; rw [c]; exact h2
  rw [if_neg c] at h; clear c
  by_cases c : k = 4
  · rw [if_pos c] at h; cases h; rw [c]; exact h4
  rw [if_neg c] at h; clear c
  by_cases c : k = 5
  · rw [if_pos c] at h; cases h; rw [c]; exact h5
  rw [if_neg c] at h; clear c
  by_cases c : k = 6
  · rw [if_pos c] at h; cases h; rw [c]; exact h6
  rw [if_neg c] at h; clear c
  by_cases c : k = 7
  · rw [if_pos c] at h; cases h; rw [c]; exact h7
  rw [if_neg c] at h; clear c
  by_cases c : k = 8
  · rw [if_pos c] at h; cases h; rw [c]; exact h8
  rw [if_neg c] at h; clear c
  by_cases c : k = 16
  · rw [if_pos c] at h; cases h; rw [c]; exact h16
  rw [if_neg c] at h; clear c
  by_cases c : k = 20
  · rw [if_pos c] at h; cases h; rw [c]; exact h20
  rw [if_neg c] at h; clear c
  by_cases c : k = 17
  · rw [if_pos c] at h; cases h; rw [c]; exact h17
  rw [if_neg c] at h; clear c
  by_cases c : k = 21
  · rw [if_pos c] at h; cases h; rw [c]; exact h21
  rw [if_neg c] at h; clear c
  by_cases c : k = 18
  · rw [if_pos c] at h; cases h; rw [c]; exact h18
  rw [if_neg c] at h; clear c
  by_cases c : k = 22
  · rw [if_pos c] at h; cases h; rw [c]; exact h22
  rw [if_neg c] at h; clear c
  by_cases c : k = 24
  · rw [if_pos c] at h; cases h; rw [c]; exact h24
  rw [if_neg c] at h; clear c
  by_cases c : k = 25
  · rw [if_pos c] at h; cases h; rw [c]; exact h25
  rw [if_neg c] at h; clear c
  by_cases c : k = 26
  · rw [if_pos c] at h; cases h; rw [c]; exact h26
  rw [if_neg c] at h; clear c
  by_cases c : k = 27
  · rw [if_pos c] at h; cases h; rw [c]; exact h27
  rw [if_neg c] at h; clear c
  by_cases c : k = 28
  · rw [if_pos c] at h; cases h; rw [c]; exact h28
  rw [if_neg c] at h; clear c
  by_cases c : k = 29
  · rw [if_pos c] at h; cases h; rw [c]; exact h29
  rw [if_neg c] at h; clear c
  cases h
theorem tab_cases {k : Int} {l : List Pt} (h : tab k = some l) : 0 ≤ k ∧ k ≤ 30 ∧ k ≠ 9 ∧ rgLast l = true ∧ (l.map Pt.code).Nodup ∧ l.length ≤ 3 := by
  refine tab_ind (P := fun k l => 0 ≤ k ∧ k ≤ 30 ∧ k ≠ 9 ∧ rgLast l = true ∧ (l.map Pt.code).Nodup ∧ l.length ≤ 3) ?_ ?_ ?_ ?_ ?_ ?_ ?_ ?_ ?_ ?_ ?_ ?_ ?_ ?_ ?_ ?_ ?_ ?_ ?_ ?_ ?_ k l h
  all_goals exact ⟨by omega, by omega, by omega, rfl, by simp [Pt.code], by simp⟩
theorem clear_back {f : Fr} {l : List Pt} (h : tab f.ty = some l) (hc : clrs l { f with fin := false } = Fr.zero f.ty) : cps l f { Fr.zero f.ty with fin := f.fin } = f := by
  revert f
  have key : ∀ k, tab k = some l → ∀ f : Fr, f.ty = k → clrs l { f with fin := false } = Fr.zero f.ty → cps l f { Fr.zero f.ty with fin := f.fin } = f := by
    intro k hk
    refine tab_ind (P := fun k l => ∀ f : Fr, f.ty = k → clrs l { f with fin := false } = Fr.zero f.ty → cps l f { Fr.zero f.ty with fin := f.fin } = f) ?_ ?_ ?_ ?_ ?_ ?_ ?_ ?_ ?_ ?_ ?_ ?_ ?_ ?_ ?_ ?_ ?_ ?_ ?_ ?_ ?_ k l hk
    all_goals
      rintro ⟨ty, st, off, S, fin, mx, cd, uni, dl, rg, sq, rt, cid⟩ hty hc
      simp only [clrs, clrP, Fr.set, Fr.zero, Fr.mk.injEq] at hc
      simp only [cps, cpP, Fr.set, Fr.get, Fr.zero, Fr.mk.injEq]
      simp_all
  intro f h hc
  exact key f.ty h f rfl hc
theorem headF_byt {f : Fr} {l : List Pt} (h : tab f.ty = some l) (hf : ¬ (f.fin = true ∧ f.ty ≠ 8)) : headF (byt (f.ty.toNat + if f.fin then 1 else 0)) = { Fr.zero f.ty with fin := f.fin } := by
  obtain ⟨h0, h1, h2, _⟩ := tab_cases h
  unfold headF
  rw [byt_nat]
  cases hb : f.fin with
  | false =>
    have e : (f.ty.toNat + 0) % 256 = f.ty.toNat := by omega
    simp only [Bool.false_eq_true, if_false, e]
    rw [if_neg (by omega), show ((f.ty.toNat : Nat) : Int) = f.ty from by omega]
    rfl
  | true =>
    have h8 : f.ty = 8 := by
      by_cases h : f.ty = 8
      · exact h
      · exact absurd ⟨hb, h⟩ hf
    rw [h8]; rfl
theorem encF_some {f : Fr} {s : List UInt8} (h : encF f = some s) : ∃ l bs, tab f.ty = some l ∧ ¬ (f.fin = true ∧ f.ty ≠ 8) ∧ puts l f = some bs ∧ clrs l { f with fin := false } = Fr.zero f.ty ∧ s = byt (f.ty.toNat + if f.fin then 1 else 0) :: bs := by
  unfold encF at h
  cases ht : tab f.ty with
  | none => rw [ht] at h; cases h
  | some l =>
    rw [ht] at h
    simp only at h
    by_cases c : f.fin = true ∧ f.ty ≠ 8
    · rw [if_pos c] at h; cases h
    rw [if_neg c] at h
    cases hp : puts l f with
    | none => rw [hp] at h; cases h
    | some bs =>
      rw [hp] at h
      simp only at h
      by_cases hc : clrs l { f with fin := false } = Fr.zero f.ty
      · rw [if_pos hc] at h
        cases h
        exact ⟨l, bs, rfl, c, hp, hc, rfl⟩
      · rw [if_neg hc] at h; cases h
theorem encF_mk {f : Fr} {l : List Pt} {bs : List UInt8} (ht : tab f.ty = some l) (c : ¬ (f.fin = true ∧ f.ty ≠ 8)) (hp : puts l f = some bs) (hc : clrs l { f with fin := false } = Fr.zero f.ty) : encF f = some (byt (f.ty.toNat + if f.fin then 1 else 0) :: bs) := by
  unfold encF
  rw [ht]
  simp only
  rw [if_neg c, hp]
  simp only
  rw [if_pos hc]
/-- What is encoded is read back. -/
theorem dec_enc {f : Fr} {s : List UInt8} (h : encF f = some s) (hR : InR f.rg) (r : List UInt8) : decF (s ++ r) = some (f, r) := by
  obtain ⟨l, bs, ht, hf, hp, hc, rfl⟩ := encF_some h
  obtain ⟨_, _, _, h4, _, _⟩ := tab_cases ht
  have hg := gets_puts l f { Fr.zero f.ty with fin := f.fin } bs r hp h4 (fun _ => rfl) hR
  rw [clear_back ht hc] at hg
  simp only [List.cons_append, decF]
  rw [headF_byt ht hf]
  simp only [Fr.zero] at hg ⊢
  rw [ht]
  simp only [Option.getD_some]
  rw [hg]
  simp only
  rw [h]

theorem get_ty {p : Pt} {g g' : Fr} {s s' : List UInt8} (h : getP p g s = some (g', s')) : g'.ty = g.ty ∧ g'.fin = g.fin := by
  cases p with
  | int most x =>
    simp only [getP, Option.map_eq_some_iff, Prod.mk.injEq] at h
    obtain ⟨q, _, rfl, _⟩ := h
    cases x <;> exact ⟨rfl, rfl⟩
  | text least most =>
    simp only [getP] at h
    split at h
    · cases h
    · split at h
      · cases h
      · simp only [Option.some.injEq, Prod.mk.injEq] at h; obtain ⟨rfl, _⟩ := h; exact ⟨rfl, rfl⟩
  | chal =>
    simp only [getP] at h
    split at h
    · cases h
    · simp only [Option.some.injEq, Prod.mk.injEq] at h; obtain ⟨rfl, _⟩ := h; exact ⟨rfl, rfl⟩
  | cidp =>
    simp only [getP] at h
    split at h
    · cases h
    · simp only [Option.some.injEq, Prod.mk.injEq] at h; obtain ⟨rfl, _⟩ := h; exact ⟨rfl, rfl⟩
  | uni =>
    simp only [getP] at h
    split at h
    · cases h
    · split at h
      · cases h
      · simp only [Option.some.injEq, Prod.mk.injEq] at h; obtain ⟨rfl, _⟩ := h; exact ⟨rfl, rfl⟩
  | retire =>
    simp only [getP, Option.map_eq_some_iff, Prod.mk.injEq] at h
    obtain ⟨q, _, rfl, _⟩ := h
    exact ⟨rfl, rfl⟩
  | ranges =>
    simp only [getP] at h
    split at h
    · cases h
    · split at h
      · cases h
      · simp only [Option.map_eq_some_iff, Prod.mk.injEq] at h
        obtain ⟨q, _, rfl, _⟩ := h
        exact ⟨rfl, rfl⟩
theorem get_keeps {p q : Pt} {g g' : Fr} {s s' : List UInt8} (h : getP q g s = some (g', s')) (hd : p.code ≠ q.code) : agr p g g' := by
  cases q with
  | int most x =>
    simp only [getP, Option.map_eq_some_iff, Prod.mk.injEq] at h
    obtain ⟨z, _, rfl, _⟩ := h
    cases p with
    | int m y => cases x <;> cases y <;> first | rfl | exact absurd rfl hd
    | _ => cases x <;> rfl
  | text least most =>
    simp only [getP] at h
    split at h
    · cases h
    · split at h
      · cases h
      · simp only [Option.some.injEq, Prod.mk.injEq] at h; obtain ⟨rfl, _⟩ := h
        cases p with
        | int m y => cases y <;> rfl
        | text a b => exact absurd rfl hd
        | chal => exact absurd rfl hd
        | _ => rfl
  | chal =>
    simp only [getP] at h
    split at h
    · cases h
    · simp only [Option.some.injEq, Prod.mk.injEq] at h; obtain ⟨rfl, _⟩ := h
      cases p with
      | int m y => cases y <;> rfl
      | text a b => exact absurd rfl hd
      | chal => exact absurd rfl hd
      | _ => rfl
  | cidp =>
    simp only [getP] at h
    split at h
    · cases h
    · simp only [Option.some.injEq, Prod.mk.injEq] at h; obtain ⟨rfl, _⟩ := h
      cases p with
      | int m y => cases y <;> rfl
      | cidp => exact absurd rfl hd
      | _ => rfl
  | uni =>
    simp only [getP] at h
    split at h
    · cases h
    · split at h
      · cases h
      · simp only [Option.some.injEq, Prod.mk.injEq] at h; obtain ⟨rfl, _⟩ := h
        cases p with
        | int m y => cases y <;> rfl
        | uni => exact absurd rfl hd
        | _ => rfl
  | retire =>
    simp only [getP, Option.map_eq_some_iff, Prod.mk.injEq] at h
    obtain ⟨z, _, rfl, _⟩ := h
    cases p with
    | int m y => cases y <;> rfl
    | retire => exact absurd rfl hd
    | _ => rfl
  | ranges =>
    simp only [getP] at h
    split at h
    · cases h
    · split at h
      · cases h
      · simp only [Option.map_eq_some_iff, Prod.mk.injEq] at h
        obtain ⟨z, _, rfl, _⟩ := h
        cases p with
        | int m y => cases y <;> rfl
        | ranges => exact absurd rfl hd
        | _ => rfl
theorem get_rg {q : Pt} {g g' : Fr} {s s' : List UInt8} (h : getP q g s = some (g', s')) (hR : InR g.rg) : InR g'.rg ∧ (q.isR = false → g'.rg = g.rg) := by
  by_cases hq : q.isR = true
  · cases q with
    | ranges =>
      simp only [getP] at h
      split at h
      · cases h
      · split at h
        · cases h
        · simp only [Option.map_eq_some_iff, Prod.mk.injEq] at h
          obtain ⟨z, hz, rfl, _⟩ := h
          obtain ⟨z1, z2⟩ := z
          exact ⟨(rngD_some _ _ _ _ _ hz hR).1, fun h => by cases h⟩
    | _ => cases hq
  · have hd : Pt.ranges.code ≠ q.code := by
      intro he
      cases q with
      | int m x => cases x <;> cases he
      | ranges => exact hq rfl
      | _ => cases he
    have : g'.rg = g.rg := get_keeps (p := .ranges) h hd
    rw [this]
    exact ⟨hR, fun _ => rfl⟩
theorem gets_keeps (l : List Pt) : ∀ {p : Pt} {g f : Fr} {s t : List UInt8}, gets l g s = some (f, t) → (∀ q ∈ l, p.code ≠ q.code) → agr p g f := by
  induction l with
  | nil => intro p g f s t h _; simp only [gets, Option.some.injEq, Prod.mk.injEq] at h; obtain ⟨rfl, _⟩ := h; exact agr.refl _ _
  | cons q l ih =>
    intro p g f s t h hd
    simp only [gets] at h
    cases hg : getP q g s with
    | none => rw [hg] at h; cases h
    | some z =>
      obtain ⟨g', s'⟩ := z
      rw [hg] at h
      exact (get_keeps hg (hd q (by simp))).trans (ih h fun x hx => hd x (by simp [hx]))
theorem gets_ty (l : List Pt) : ∀ {g f : Fr} {s t : List UInt8}, gets l g s = some (f, t) → InR g.rg → f.ty = g.ty ∧ f.fin = g.fin ∧ InR f.rg := by
  induction l with
  | nil => intro g f s t h hR; simp only [gets, Option.some.injEq, Prod.mk.injEq] at h; obtain ⟨rfl, _⟩ := h; exact ⟨rfl, rfl, hR⟩
  | cons q l ih =>
    intro g f s t h hR
    simp only [gets] at h
    cases hg : getP q g s with
    | none => rw [hg] at h; cases h
    | some z =>
      obtain ⟨g', s'⟩ := z
      rw [hg] at h
      obtain ⟨a, b, c⟩ := ih h (get_rg hg hR).1
      obtain ⟨d, e⟩ := get_ty hg
      exact ⟨a.trans d, b.trans e, c⟩
/-- What a part has read is what it would write. -/
theorem put_back {p : Pt} {g g' f : Fr} {s s' a : List UInt8} (h : getP p g s = some (g', s')) (hA : agr p g' f) (hp : putP p f = some a) (hr : p.isR = true → g.rg = []) : s = a ++ s' := by
  cases p with
  | int most x =>
    simp only [getP, Option.map_eq_some_iff, Prod.mk.injEq] at h
    obtain ⟨z, hz, rfl, rfl⟩ := h
    obtain ⟨n, t⟩ := z
    obtain ⟨n0, n1, rfl⟩ := numD_some hz
    obtain ⟨h1, h2, h3, rfl⟩ := numE_some hp
    have : f.get x = n := by
      have : f.get x = (g.set x n).get x := hA
      rw [this]; cases x <;> rfl
    rw [this]
  | text least most =>
    simp only [getP] at h
    cases hz : numD s with
    | none => rw [hz] at h; cases h
    | some z =>
      obtain ⟨n, t⟩ := z
      obtain ⟨n0, n1, rfl⟩ := numD_some hz
      rw [hz] at h
      simp only at h
      by_cases c : (t.length : Int) < n
      · rw [if_pos c] at h; cases h
      rw [if_neg c] at h
      simp only [Option.some.injEq, Prod.mk.injEq] at h
      obtain ⟨rfl, rfl⟩ := h
      have hS : f.S = t.take n.toNat := hA
      have hlen : (f.S.length : Int) = n := by rw [hS]; simp; omega
      simp only [putP] at hp
      by_cases c2 : f.S.length < least ∨ 1099511627776 < w64 (f.off + f.S.length)
      · rw [if_pos c2] at hp; cases hp
      rw [if_neg c2] at hp
      cases hn : numE f.S.length most with
      | none => rw [hn] at hp; cases hp
      | some b =>
        rw [hn] at hp
        simp only [Option.map_some, Option.some.injEq] at hp
        subst hp
        obtain ⟨h1, h2, h3, rfl⟩ := numE_some hn
        rw [hlen, hS, List.append_assoc, List.take_append_drop]
  | chal =>
    simp only [getP] at h
    by_cases c : s.length < 8
    · rw [if_pos c] at h; cases h
    rw [if_neg c] at h
    simp only [Option.some.injEq, Prod.mk.injEq] at h
    obtain ⟨rfl, rfl⟩ := h
    have hS : f.S = s.take 8 := hA
    simp only [putP] at hp
    split at hp
    · cases hp; rw [hS, List.take_append_drop]
    · cases hp
  | cidp =>
    simp only [getP] at h
    by_cases c : s.length < 8
    · rw [if_pos c] at h; cases h
    rw [if_neg c] at h
    simp only [Option.some.injEq, Prod.mk.injEq] at h
    obtain ⟨rfl, rfl⟩ := h
    have hS : f.cid = s.take 8 := hA
    simp only [putP] at hp
    split at hp
    · cases hp; rw [hS, List.take_append_drop]
    · cases hp
  | uni =>
    cases s with
    | nil => simp [getP] at h
    | cons x t =>
      simp only [getP] at h
      by_cases c : 1 < x.toNat
      · rw [if_pos c] at h; cases h
      rw [if_neg c] at h
      simp only [Option.some.injEq, Prod.mk.injEq] at h
      obtain ⟨rfl, rfl⟩ := h
      have hU : f.uni = decide (x.toNat = 1) := hA
      simp only [putP, Option.some.injEq] at hp
      subst hp
      rw [hU]
      by_cases c1 : x.toNat = 1
      · have : x = 1 := UInt8.toNat_inj.1 (by rw [c1]; rfl)
        subst this; rfl
      · have : x = 0 := UInt8.toNat_inj.1 (by rw [show x.toNat = 0 from by omega]; rfl)
        subst this; rfl
  | retire =>
    simp only [getP, Option.map_eq_some_iff, Prod.mk.injEq] at h
    obtain ⟨z, hz, rfl, rfl⟩ := h
    obtain ⟨n, t⟩ := z
    obtain ⟨n0, n1, rfl⟩ := numD_some hz
    obtain ⟨h1, h2, h3, rfl⟩ := numE_some hp
    have : f.rt = n := hA
    rw [this]
  | ranges =>
    simp only [getP] at h
    cases hz : numD s with
    | none => rw [hz] at h; cases h
    | some z =>
      obtain ⟨n, t⟩ := z
      obtain ⟨n0, n1, rfl⟩ := numD_some hz
      rw [hz] at h
      simp only at h
      by_cases c : 16 < n
      · rw [if_pos c] at h; cases h
      rw [if_neg c] at h
      simp only [Option.map_eq_some_iff, Prod.mk.injEq] at h
      obtain ⟨y, hy, rfl, rfl⟩ := h
      obtain ⟨out, t'⟩ := y
      rw [hr rfl] at hy
      have hin : InR ([] : List (Int × Int)) := fun q hq => by cases hq
      obtain ⟨i1, L, i2, i3, i4⟩ := rngD_some _ _ _ _ _ hy hin
      simp only [List.nil_append] at i2
      subst i2
      have hS : f.rg = out := hA
      simp only [putP] at hp
      by_cases c2 : f.rg = []
      · rw [if_pos c2] at hp; cases hp
      rw [if_neg c2, hS] at hp
      cases ha : numE out.length 16 with
      | none => rw [ha] at hp; simp at hp
      | some b =>
        cases hb : rngE true 281474976710658 out with
        | none => rw [ha, hb] at hp; simp at hp
        | some d =>
          rw [ha, hb] at hp
          simp only [Option.some.injEq] at hp
          subst hp
          obtain ⟨h1, h2, h3, rfl⟩ := numE_some ha
          have := i4 281474976710658 d (by omega) (by omega) rfl hb
          rw [this, i3, show ((n.toNat : Nat) : Int) = n from by omega, List.append_assoc]
theorem gets_back (l : List Pt) : ∀ {g f : Fr} {s t bs : List UInt8}, gets l g s = some (f, t) → (l.map Pt.code).Nodup → rgLast l = true → ((∃ p ∈ l, p.isR = true) → g.rg = []) → InR g.rg → puts l f = some bs → s = bs ++ t := by
  induction l with
  | nil =>
    intro g f s t bs h _ _ _ _ hp
    simp only [gets, Option.some.injEq, Prod.mk.injEq] at h
    obtain ⟨_, rfl⟩ := h
    simp only [puts, Option.some.injEq] at hp
    subst hp; rfl
  | cons q l ih =>
    intro g f s t bs h hn hl hg hR hp
    simp only [gets] at h
    cases hq : getP q g s with
    | none => rw [hq] at h; cases h
    | some z =>
      obtain ⟨g', s'⟩ := z
      rw [hq] at h
      simp only at h
      simp only [puts] at hp
      cases ha : putP q f with
      | none => rw [ha] at hp; simp at hp
      | some a =>
        cases hb : puts l f with
        | none => rw [ha, hb] at hp; simp at hp
        | some b =>
          rw [ha, hb] at hp
          simp only [Option.some.injEq] at hp
          subst hp
          simp only [List.map_cons, List.nodup_cons] at hn
          simp only [rgLast, Bool.and_eq_true, Bool.or_eq_true, Bool.not_eq_true'] at hl
          have hk := gets_keeps l (p := q) h fun x hx he => hn.1 (by rw [he]; exact List.mem_map_of_mem hx)
          have e1 := put_back hq hk ha fun h => hg ⟨q, by simp, h⟩
          have hgr := get_rg hq hR
          have e2 := ih h hn.2 hl.2 (fun hx => by
            rcases hl.1 with h1 | h1
            · rw [hgr.2 h1]
              obtain ⟨y, hy, hy2⟩ := hx
              exact hg ⟨y, by simp [hy], hy2⟩
            · obtain ⟨y, hy, _⟩ := hx
              have := List.isEmpty_iff.1 h1
              subst this
              simp at hy) hgr.1 hb
          rw [e1, e2, List.append_assoc]
/-- What is read is an encoding. -/
theorem enc_dec {l r : List UInt8} {f : Fr} (h : decF l = some (f, r)) : ∃ s, encF f = some s ∧ l = s ++ r ∧ InR f.rg := by
  cases l with
  | nil => cases h
  | cons x t =>
    simp only [decF] at h
    cases hg : gets ((tab (headF x).ty).getD []) (headF x) t with
    | none => rw [hg] at h; cases h
    | some z =>
      obtain ⟨f', t'⟩ := z
      rw [hg] at h
      simp only at h
      cases he : encF f' with
      | none => rw [he] at h; cases h
      | some s =>
        rw [he] at h
        simp only [Option.some.injEq, Prod.mk.injEq] at h
        obtain ⟨rfl, rfl⟩ := h
        refine ⟨s, he, ?_⟩
        obtain ⟨l, bs, ht, hf, hp, hc, rfl⟩ := encF_some he
        have hrg : (headF x).rg = [] := by unfold headF; split <;> rfl
        have hin : InR (headF x).rg := by rw [hrg]; intro q hq; cases hq
        obtain ⟨g1, g2, g3⟩ := gets_ty _ hg hin
        rw [← g1, ht] at hg
        simp only [Option.getD_some] at hg
        obtain ⟨_, _, _, h4, h5, _⟩ := tab_cases ht
        have e := gets_back l hg h5 h4 (fun _ => hrg) hin hp
        refine ⟨?_, g3⟩
        rw [e, List.cons_append]
        congr 1
        rw [g1, g2]
        unfold headF
        by_cases h9 : x.toNat = 9
        · rw [if_pos h9]
          exact UInt8.toNat_inj.1 (by rw [h9]; rfl)
        · rw [if_neg h9]
          simp only [Fr.zero, Bool.false_eq_true, if_false, Nat.add_zero, Int.toNat_natCast]
          exact (byt_of x).symm
/-- The encodings of frames end of themselves. -/
theorem enc_prefix {f g : Fr} {s t a b : List UInt8} (hf : encF f = some s) (hg : encF g = some t) (rf : InR f.rg) (rgg : InR g.rg) (h : s ++ a = t ++ b) : f = g ∧ a = b := by
  have h1 := dec_enc hf rf a
  have h2 := dec_enc hg rgg b
  rw [h, h2] at h1
  simp only [Option.some.injEq, Prod.mk.injEq] at h1
  exact ⟨h1.1.symm, h1.2.symm⟩
end Go.Proofs.Ytmmgmpghkpbgkaa
