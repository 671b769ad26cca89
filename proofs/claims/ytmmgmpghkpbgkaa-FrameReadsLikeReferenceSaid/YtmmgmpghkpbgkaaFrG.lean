/- Plain law of frames: the generated frames are valid. -/
import Derived.Test.YtmmgmpghkpbgkaaFrN
namespace Go.Proofs.Ytmmgmpghkpbgkaa
open Go.RowKit
set_option linter.unusedVariables false
set_option linter.unusedSimpArgs false

/-- What 'pick' answers. -/
def pkZ (c n : Int) : Int := (if c < 0 then -(c + 1) else c) % n
theorem pkZ_bd (c n : Int) (hn : 0 < n) : 0 ≤ pkZ c n ∧ pkZ c n < n := ⟨Int.emod_nonneg _ (by omega), Int.emod_lt_of_pos _ hn⟩
/-- Ranges as they should be, below fr. -/
def RgOk : Int → List (Int × Int) → Prop
  | _, [] => True
  | fr, (f, t) :: r => 0 ≤ f ∧ f < t ∧ t ≤ 281474976710656 ∧ t < fr ∧ RgOk f r
theorem rngE_mk (L : List (Int × Int)) : ∀ (i0 : Bool) (fr : Int), fr ≤ 281474976710658 → RgOk fr L → ∃ s, rngE i0 fr L = some s := by
  induction L with
  | nil => intro i0 fr _ _; exact ⟨[], rfl⟩
  | cons p r ih =>
    obtain ⟨f, t⟩ := p
    intro i0 fr hf h
    obtain ⟨h1, h2, h3, h4, h5⟩ := h
    obtain ⟨c, hc⟩ := ih false f (by omega) h5
    have e1 : w64 (t - 1) = t - 1 := w64_in (by omega) (by omega)
    have e2 : w64 (w64 (fr - t) - 1) = fr - t - 1 := by rw [w64_in (x := fr - t) (by omega) (by omega)]; exact w64_in (by omega) (by omega)
    have e3 : w64 (w64 (t - f) - 1) = t - f - 1 := by rw [w64_in (x := t - f) (by omega) (by omega)]; exact w64_in (by omega) (by omega)
    refine ⟨vEnc (if i0 then t - 1 else fr - t - 1) ++ vEnc (t - f - 1) ++ c, ?_⟩
    simp only [rngE]
    rw [if_neg (by omega), e1, e2, e3, hc]
    cases i0
    · simp only [Bool.false_eq_true, if_false]
      rw [numE_mk (by omega) (by omega) (by omega), numE_mk (by omega) (by omega) (by omega)]
    · simp only [if_true]
      rw [numE_mk (by omega) (by omega) (by omega), numE_mk (by omega) (by omega) (by omega)]
theorem rngE_bad (L : List (Int × Int)) (f t : Int) : ∀ (i0 : Bool) (fr : Int) (q : Int × Int), L.getLast? = some q → q.1 ≤ t → rngE i0 fr (L ++ [(f, t)]) = none := by
  induction L with
  | nil => intro i0 fr q h; simp at h
  | cons p r ih =>
    obtain ⟨a, b⟩ := p
    intro i0 fr q h hq
    have key : rngE false a (r ++ [(f, t)]) = none := by
      cases hr : r with
      | nil =>
        subst hr
        simp at h; subst h
        simp only [List.nil_append, rngE]
        rw [if_pos (.inr (.inr hq))]
      | cons x y =>
        rw [← hr]
        refine ih false a q ?_ hq
        rw [hr] at h ⊢
        simpa using h
    simp only [List.cons_append, rngE, key]
    by_cases c : a < 0 ∨ 281474976710656 < b ∨ fr ≤ b
    · rw [if_pos c]
    · rw [if_neg c]
      split
      · rename_i h3; cases h3
      · rfl
theorem RgOk.inR {L : List (Int × Int)} : ∀ {fr : Int}, RgOk fr L → InR L := by
  induction L with
  | nil => intro fr h p hp; cases hp
  | cons p r ih =>
    obtain ⟨f, t⟩ := p
    intro fr h q hq
    obtain ⟨h1, h2, h3, h4, h5⟩ := h
    rcases List.mem_cons.1 hq with rfl | hq
    · exact ⟨by show -9223372036854775808 ≤ f; omega, by show f ≤ 9223372036854775807; omega, by show -9223372036854775808 ≤ t; omega, by show t ≤ 9223372036854775807; omega⟩
    · exact ih h5 q hq

/-- The frame of a type that is built of arbitrary values. -/
def genF (ty A B C : Int) (few : List UInt8) (fin : Bool) (rg : List (Int × Int)) : Fr :=
  if ty = 2 then { Fr.zero ty with dl := pkZ A 4611686018427387904, rg := rg }
  else if ty = 4 then { Fr.zero ty with st := pkZ A 4611686018427387904, cd := pkZ B 1073741824, mx := pkZ C 1099511627777 }
  else if ty = 5 then { Fr.zero ty with st := pkZ A 4611686018427387904, cd := pkZ B 1073741824 }
  else if ty = 6 then { Fr.zero ty with off := pkZ A 1099511627676, S := few }
  else if ty = 7 then { Fr.zero ty with S := few ++ [116] }
  else if ty = 8 then { Fr.zero ty with st := pkZ A 4611686018427387904, off := pkZ B 1099511627676, S := few, fin := fin }
  else if ty = 16 ∨ ty = 20 then { Fr.zero ty with mx := pkZ A 4611686018427387904 }
  else if ty = 17 ∨ ty = 21 then { Fr.zero ty with st := pkZ A 4611686018427387904, mx := pkZ B 4611686018427387904 }
  else if ty = 18 ∨ ty = 22 then { Fr.zero ty with uni := fin, mx := pkZ A 4611686018427387904 }
  else if ty = 24 then { Fr.zero ty with sq := pkZ A 4611686018427387904, rt := pkZ B (pkZ A 4611686018427387904 + 1), cid := (few ++ [49, 50, 51, 52, 53, 54, 55, 56]).take 8 }
  else if ty = 25 then { Fr.zero ty with sq := pkZ A 4611686018427387904 }
  else if ty = 26 ∨ ty = 27 then { Fr.zero ty with S := (few ++ [49, 50, 51, 52, 53, 54, 55, 56]).take 8 }
  else if ty = 28 ∨ ty = 29 then { Fr.zero ty with cd := pkZ A 1073741824, S := few }
  else Fr.zero ty
theorem putInt {f : Fr} {most : Int} {x : Fld} (h0 : 0 ≤ f.get x) (h1 : f.get x ≤ most) (h2 : f.get x ≤ 4611686018427387903) : ∃ s, putP (.int most x) f = some s := ⟨_, numE_mk h1 h0 h2⟩
theorem putText {f : Fr} {least most : Nat} (h0 : least ≤ f.S.length) (h1 : f.S.length ≤ most) (h2 : most ≤ 1024) (h3 : 0 ≤ f.off) (h4 : f.off + f.S.length ≤ 1099511627776) : ∃ s, putP (.text least most) f = some s := by
  refine ⟨vEnc f.S.length ++ f.S, ?_⟩
  simp only [putP]
  rw [if_neg (by rw [w64_in (by omega) (by omega)]; omega), numE_mk (by omega) (by omega) (by omega)]; rfl
theorem putRanges {f : Fr} (h : f.rg ≠ []) (h1 : f.rg.length ≤ 16) (h2 : RgOk 281474976710658 f.rg) : ∃ s, putP .ranges f = some s := by
  obtain ⟨s, hs⟩ := rngE_mk f.rg true 281474976710658 (by omega) h2
  refine ⟨vEnc f.rg.length ++ s, ?_⟩
  simp only [putP]
  rw [if_neg h, numE_mk (by omega) (by omega) (by omega), hs]
theorem puts_nil (f : Fr) : ∃ s, puts [] f = some s := ⟨[], rfl⟩
theorem puts_cons {p : Pt} {l : List Pt} {f : Fr} (h : ∃ s, putP p f = some s) (k : ∃ s, puts l f = some s) : ∃ s, puts (p :: l) f = some s := by
  obtain ⟨a, ha⟩ := h
  obtain ⟨b, hb⟩ := k
  exact ⟨a ++ b, by simp only [puts, ha, hb]⟩
theorem enc_of {f : Fr} {l : List Pt} (ht : tab f.ty = some l) (c : f.fin = true → f.ty = 8) (hp : ∃ s, puts l f = some s) (hc : clrs l { f with fin := false } = Fr.zero f.ty) : ∃ s, encF f = some s := by
  obtain ⟨s, hs⟩ := hp
  exact ⟨_, encF_mk ht (fun h => h.2 (c h.1)) hs hc⟩
theorem genF_valid (ty A B C : Int) (few : List UInt8) (fin : Bool) (rg : List (Int × Int)) (hl : few.length ≤ 60) (hr : rg ≠ []) (hr1 : rg.length ≤ 16) (hr2 : RgOk 281474976710658 rg) (hty : ∃ l, tab ty = some l) :
    ∃ s, encF (genF ty A B C few fin rg) = some s := by
  obtain ⟨l, hl0⟩ := hty
  have a1 := pkZ_bd A 4611686018427387904 (by omega)
  have a2 := pkZ_bd B 4611686018427387904 (by omega)
  have a3 := pkZ_bd B 1073741824 (by omega)
  have a4 := pkZ_bd C 1099511627777 (by omega)
  have a5 := pkZ_bd A 1099511627676 (by omega)
  have a6 := pkZ_bd B 1099511627676 (by omega)
  have a7 := pkZ_bd A 1073741824 (by omega)
  have a8 := pkZ_bd B (pkZ A 4611686018427387904 + 1) (by omega)
  have hV : mV = 4611686018427387903 := rfl
  have hO : mO = 1099511627776 := rfl
  have hC : mC = 1073741823 := rfl
  have h8 : ((few ++ [49, 50, 51, 52, 53, 54, 55, 56] : List UInt8).take 8).length = 8 := by simp
  refine tab_ind (P := fun ty l => ∃ s, encF (genF ty A B C few fin rg) = some s) ?_ ?_ ?_ ?_ ?_ ?_ ?_ ?_ ?_ ?_ ?_ ?_ ?_ ?_ ?_ ?_ ?_ ?_ ?_ ?_ ?_ ty l hl0
  · exact enc_of (l := []) rfl (fun h => by cases h) (puts_nil _) rfl
  · exact enc_of (l := []) rfl (fun h => by cases h) (puts_nil _) rfl
  · exact enc_of (l := []) rfl (fun h => by cases h) (puts_nil _) rfl
  · exact enc_of (l := [.int mV .dl, .ranges]) rfl (fun h => by cases h) (puts_cons (putInt a1.1 (by show pkZ A _ ≤ mV; omega) (by show pkZ A _ ≤ _; omega)) (puts_cons (putRanges hr hr1 hr2) (puts_nil _))) rfl
  · exact enc_of (l := [.int mV .st, .int mC .cd, .int mO .mx]) rfl (fun h => by cases h) (puts_cons (putInt a1.1 (by show pkZ A _ ≤ mV; omega) (by show pkZ A _ ≤ _; omega)) (puts_cons (putInt a3.1 (by show pkZ B _ ≤ mC; omega) (by show pkZ B _ ≤ _; omega)) (puts_cons (putInt a4.1 (by show pkZ C _ ≤ mO; omega) (by show pkZ C _ ≤ _; omega)) (puts_nil _)))) rfl
  · exact enc_of (l := [.int mV .st, .int mC .cd]) rfl (fun h => by cases h) (puts_cons (putInt a1.1 (by show pkZ A _ ≤ mV; omega) (by show pkZ A _ ≤ _; omega)) (puts_cons (putInt a3.1 (by show pkZ B _ ≤ mC; omega) (by show pkZ B _ ≤ _; omega)) (puts_nil _))) rfl
  · exact enc_of (l := [.int mO .off, .text 0 1024]) rfl (fun h => by cases h) (puts_cons (putInt a5.1 (by show pkZ A _ ≤ mO; omega) (by show pkZ A _ ≤ _; omega)) (puts_cons (putText (Nat.zero_le _) (by show few.length ≤ _; omega) (by omega) a5.1 (by show pkZ A _ + (few.length : Int) ≤ _; omega)) (puts_nil _))) rfl
  · exact enc_of (l := [.text 1 128]) rfl (fun h => by cases h) (puts_cons (putText (by show 1 ≤ (few ++ [116]).length; simp) (by show (few ++ [116]).length ≤ _; simp; omega) (by omega) (by show (0 : Int) ≤ 0; omega) (by show (0 : Int) + ((few ++ [116]).length : Int) ≤ _; simp; omega)) (puts_nil _)) rfl
  · exact enc_of (l := [.int mV .st, .int mO .off, .text 0 1024]) rfl (fun _ => rfl) (puts_cons (putInt a1.1 (by show pkZ A _ ≤ mV; omega) (by show pkZ A _ ≤ _; omega)) (puts_cons (putInt a6.1 (by show pkZ B _ ≤ mO; omega) (by show pkZ B _ ≤ _; omega)) (puts_cons (putText (Nat.zero_le _) (by show few.length ≤ _; omega) (by omega) a6.1 (by show pkZ B _ + (few.length : Int) ≤ _; omega)) (puts_nil _)))) rfl
  · exact enc_of (l := [.int mV .mx]) rfl (fun h => by cases h) (puts_cons (putInt a1.1 (by show pkZ A _ ≤ mV; omega) (by show pkZ A _ ≤ _; omega)) (puts_nil _)) rfl
  · exact enc_of (l := [.int mV .mx]) rfl (fun h => by cases h) (puts_cons (putInt a1.1 (by show pkZ A _ ≤ mV; omega) (by show pkZ A _ ≤ _; omega)) (puts_nil _)) rfl
  · exact enc_of (l := [.int mV .st, .int mV .mx]) rfl (fun h => by cases h) (puts_cons (putInt a1.1 (by show pkZ A _ ≤ mV; omega) (by show pkZ A _ ≤ _; omega)) (puts_cons (putInt a2.1 (by show pkZ B _ ≤ mV; omega) (by show pkZ B _ ≤ _; omega)) (puts_nil _))) rfl
  · exact enc_of (l := [.int mV .st, .int mV .mx]) rfl (fun h => by cases h) (puts_cons (putInt a1.1 (by show pkZ A _ ≤ mV; omega) (by show pkZ A _ ≤ _; omega)) (puts_cons (putInt a2.1 (by show pkZ B _ ≤ mV; omega) (by show pkZ B _ ≤ _; omega)) (puts_nil _))) rfl
  · exact enc_of (l := [.uni, .int mV .mx]) rfl (fun h => by cases h) (puts_cons ⟨_, rfl⟩ (puts_cons (putInt a1.1 (by show pkZ A _ ≤ mV; omega) (by show pkZ A _ ≤ _; omega)) (puts_nil _))) rfl
  · exact enc_of (l := [.uni, .int mV .mx]) rfl (fun h => by cases h) (puts_cons ⟨_, rfl⟩ (puts_cons (putInt a1.1 (by show pkZ A _ ≤ mV; omega) (by show pkZ A _ ≤ _; omega)) (puts_nil _))) rfl
  · exact enc_of (l := [.int mV .sq, .retire, .cidp]) rfl (fun h => by cases h) (puts_cons (putInt a1.1 (by show pkZ A _ ≤ mV; omega) (by show pkZ A _ ≤ _; omega)) (puts_cons ⟨_, numE_mk (n := pkZ B (pkZ A 4611686018427387904 + 1)) (most := pkZ A 4611686018427387904) (by omega) a8.1 (by omega)⟩ (puts_cons ⟨_, if_pos h8⟩ (puts_nil _)))) rfl
  · exact enc_of (l := [.int mV .sq]) rfl (fun h => by cases h) (puts_cons (putInt a1.1 (by show pkZ A _ ≤ mV; omega) (by show pkZ A _ ≤ _; omega)) (puts_nil _)) rfl
  · exact enc_of (l := [.chal]) rfl (fun h => by cases h) (puts_cons ⟨_, if_pos h8⟩ (puts_nil _)) rfl
  · exact enc_of (l := [.chal]) rfl (fun h => by cases h) (puts_cons ⟨_, if_pos h8⟩ (puts_nil _)) rfl
  · exact enc_of (l := [.int mC .cd, .text 0 64]) rfl (fun h => by cases h) (puts_cons (putInt a7.1 (by show pkZ A _ ≤ mC; omega) (by show pkZ A _ ≤ _; omega)) (puts_cons (putText (Nat.zero_le _) (by show few.length ≤ _; omega) (by omega) (by show (0 : Int) ≤ 0; omega) (by show (0 : Int) + (few.length : Int) ≤ _; omega)) (puts_nil _))) rfl
  · exact enc_of (l := [.int mC .cd, .text 0 64]) rfl (fun h => by cases h) (puts_cons (putInt a7.1 (by show pkZ A _ ≤ mC; omega) (by show pkZ A _ ≤ _; omega)) (puts_cons (putText (Nat.zero_le _) (by show few.length ≤ _; omega) (by omega) (by show (0 : Int) ≤ 0; omega) (by show (0 : Int) + (few.length : Int) ≤ _; omega)) (puts_nil _))) rfl
end Go.Proofs.Ytmmgmpghkpbgkaa
