/- Contracts of package frame for what is valid: Encode and Decode. -/
import Derived.Test.YtmmgmpghkpbgkaaFrZf
import Derived.Test.YtmmgmpghkpbgkaaFrG
namespace Go.Proofs.Ytmmgmpghkpbgkaa
open Go Go.RowKit
set_option linter.unusedVariables false
set_option linter.unusedSimpArgs false

theorem puts_len (l : List Pt) : ∀ (f : Fr) (s : List UInt8), puts l f = some s → (∀ p ∈ l, PtOk p) → s.length ≤ 2000 * l.length := by
  induction l with
  | nil => intro f s h _; simp only [puts, Option.some.injEq] at h; subst h; simp
  | cons p r ih =>
    intro f s h hk
    simp only [puts] at h
    cases h1 : putP p f with
    | none => rw [h1] at h; cases h
    | some a =>
      cases h2 : puts r f with
      | none => rw [h1, h2] at h; cases h
      | some b =>
        rw [h1, h2] at h
        simp only [Option.some.injEq] at h
        subst h
        have := putP_len h1 (hk p (by simp))
        have := ih f b h2 (fun q hq => hk q (by simp [hq]))
        simp only [List.length_append, List.length_cons]
        omega
theorem encF_len {f : Fr} {s : List UInt8} (h : encF f = some s) : 1 ≤ s.length ∧ s.length ≤ 6001 := by
  obtain ⟨l, bs, ht, _, hp, _, rfl⟩ := encF_some h
  have h1 := puts_len l f bs hp (tab_ok ht)
  have h2 := (tab_cases ht).2.2.2.2.2
  simp only [List.length_cons]
  omega
theorem FrOk.inr {w : World} {f : Fr} {rv : Value} (h : FrOk w f rv) : InR f.rg := by
  obtain ⟨a, cap, _, hc⟩ := h.rg
  intro p hp
  obtain ⟨i, hi, rfl⟩ := List.getElem_of_mem hp
  obtain ⟨_, _, _, _, _, _, r1, r2⟩ := hc i hi
  exact ⟨r1.1, r1.2, r2.1, r2.2⟩
theorem enc_ok (f : Fr) (rv : Value) (w : World) (hF : FrOk w f rv) {s : List UInt8} (h : encF f = some s) :
    Calls Try.prog 17 #[.agg (frC f rv)] w fun e w' => e = .returned (.tuple #[.string (strB s), .int .i64 0]) ∧ Only [] w w' :=
  (Encode_c f rv w hF).mono fun e w' ⟨h1, h2⟩ => ⟨by rw [h1, h]; rfl, h2⟩
theorem enc_no (f : Fr) (rv : Value) (w : World) (hF : FrOk w f rv) (h : encF f = none) :
    Calls Try.prog 17 #[.agg (frC f rv)] w fun e w' => e = .returned (.tuple #[.string (strB []), .int .i64 90]) ∧ Only [] w w' :=
  (Encode_c f rv w hF).mono fun e w' ⟨h1, h2⟩ => ⟨by rw [h1, h]; rfl, h2⟩
theorem val_ok (f : Fr) (rv : Value) (w : World) (hF : FrOk w f rv) {s : List UInt8} (h : encF f = some s) :
    Calls Try.prog 19 #[.agg (frC f rv)] w fun e w' => e = .returned (.bool true) ∧ Only [] w w' :=
  (valid_c f rv w hF).mono fun e w' ⟨h1, h2⟩ => ⟨by rw [h1, h]; rfl, h2⟩
theorem val_no (f : Fr) (rv : Value) (w : World) (hF : FrOk w f rv) (h : encF f = none) :
    Calls Try.prog 19 #[.agg (frC f rv)] w fun e w' => e = .returned (.bool false) ∧ Only [] w w' :=
  (valid_c f rv w hF).mono fun e w' ⟨h1, h2⟩ => ⟨by rw [h1, h]; rfl, h2⟩
/-- Decode at the front of any string. -/
theorem dec_any (s : ByteArray) (hs : s.size ≤ 4611686018427387903) (w : World) :
    Calls Try.prog 18 #[.string s, .int .i64 0] w (DecQ (decF s.data.toList) s w) := by
  by_cases h : 0 < s.size
  · have := decode_c s 0 h hs w
    simpa using this
  · have h0 : s.size = 0 := by omega
    have hl : s.data.toList = [] := by
      apply List.length_eq_zero_iff.1
      rw [size_list]; exact h0
    have := decode_end s w
    rw [h0] at this
    refine this.mono fun e w' ⟨h1, h2⟩ => ⟨h2, ?_⟩
    rw [hl]
    exact h1
/-- Decode where a valid frame stands. -/
theorem dec_ok {f : Fr} {p s r : List UInt8} (h : encF f = some s) (hR : InR f.rg) (hp : p.length ≤ 100000) (hr : r.length ≤ 100000) (w : World) :
    Calls Try.prog 18 #[.string (strB (p ++ s ++ r)), .int .i64 p.length] w fun e w' => ∃ rv, e = .returned (.tuple #[.agg (frC f rv), .int .i64 ((p.length + s.length : Nat) : Int), .int .i64 0]) ∧ FrOk w' f rv ∧ RgNew w.heap.size rv ∧ Only [] w w' := by
  have hl := encF_len h
  have hz : (strB (p ++ s ++ r)).size = p.length + s.length + r.length := by rw [strB_size]; simp only [List.length_append]
  refine (decode_c (strB (p ++ s ++ r)) p.length (by rw [hz]; omega) (by rw [hz]; omega) w).mono fun e w' ⟨h1, h2⟩ => ?_
  have hd : decF ((strB (p ++ s ++ r)).data.toList.drop p.length) = some (f, r) := by
    rw [strB_list, List.append_assoc, List.drop_left]
    exact dec_enc h hR r
  rw [hd] at h2
  obtain ⟨rv, a', rfl, hok, hnw, ha, hra⟩ := h2
  have hlen : r.length = p.length + s.length + r.length - a' := by
    have := congrArg List.length hra
    rw [drop_len, hz] at this
    exact this
  rw [hz] at ha
  have : a' = p.length + s.length := by omega
  subst this
  exact ⟨rv, rfl, hok, hnw, h1⟩
theorem dec_ok0 {f : Fr} {s : List UInt8} (h : encF f = some s) (hR : InR f.rg) (w : World) :
    Calls Try.prog 18 #[.string (strB s), .int .i64 0] w fun e w' => ∃ rv, e = .returned (.tuple #[.agg (frC f rv), .int .i64 s.length, .int .i64 0]) ∧ FrOk w' f rv ∧ RgNew w.heap.size rv ∧ Only [] w w' := by
  have := dec_ok (p := []) (r := []) h hR (by simp) (by simp) w
  simpa using this
end Go.Proofs.Ytmmgmpghkpbgkaa
