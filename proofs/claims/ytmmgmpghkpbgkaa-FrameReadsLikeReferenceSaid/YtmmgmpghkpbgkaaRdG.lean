/- Contracts of the reference's frames: number, ranges. -/
import Derived.Test.YtmmgmpghkpbgkaaRdA
import Derived.Test.YtmmgmpghkpbgkaaFrF
import Derived.StillTailTactics
import Derived.Deep.QuietTactic
import Derived.Test.YtmmgmpghkpbgkaaFrZc
namespace Go.Proofs.Ytmmgmpghkpbgkaa
open Go Go.RowKit
set_option linter.unusedVariables false
set_option linter.unusedSimpArgs false

attribute [local irreducible] wpStill
/-- A question is answered. -/
def BoolQ (P : Prop) (w : World) (e : Ending) (w' : World) : Prop := ∃ z : Bool, e = .returned (.bool z) ∧ (z = true ↔ P) ∧ Only [] w w'
theorem BoolQ.yes {P : Prop} {w w' : World} (h : P) (ho : Only [] w w') : BoolQ P w (.returned (.bool true)) w' := ⟨true, rfl, ⟨fun _ => h, fun _ => rfl⟩, ho⟩
theorem BoolQ.no {P : Prop} {w w' : World} (h : ¬ P) (ho : Only [] w w') : BoolQ P w (.returned (.bool false)) w' := ⟨false, rfl, ⟨fun h => by (cases h), fun h' => absurd h' h⟩, ho⟩
theorem rnumber_c (n most : Int) (w : World) : Calls Try.prog 122 #[.int .i64 n, .int .i64 most] w (BoolQ (0 ≤ n ∧ n ≤ most) w) := by
  obtain ⟨P, hP⟩ : ∃ P : Prop, (0 ≤ n ∧ n ≤ most) = P := ⟨_, rfl⟩
  rw [hP]
  have HP := Lib.hid hP
  clear hP
  by_cases h0 : 0 ≤ n
  · by_cases h1 : n ≤ most
    · have hF : Hid P := Lib.hid (by rw [← HP.out]; exact ⟨h0, h1⟩)
      go_enter Try.func122, Try.ntmps122
      go_wp2_with fail
      go_ret
      exact BoolQ.yes hF.out (Only.refl _ _)
    · have hF : Hid (¬ P) := Lib.hid (by rw [← HP.out]; exact fun h => h1 h.2)
      have h1' : decide (n ≤ most) = false := decide_eq_false h1
      go_enter Try.func122, Try.ntmps122
      go_wp2_with fail
      go_ret
      exact BoolQ.no hF.out (Only.refl _ _)
  · have hF : Hid (¬ P) := Lib.hid (by rw [← HP.out]; exact fun h => h0 h.1)
    have h0' : decide (0 ≤ n) = false := decide_eq_false h0
    go_enter Try.func122, Try.ntmps122
    go_wp2_with fail
    go_ret
    exact BoolQ.no hF.out (Only.refl _ _)
/-- The ranges from i on, below the one before. -/
def frI (L : List (Int × Int)) (i : Nat) : Int := if i = 0 then 281474976710658 else match L[i - 1]? with
  | some p => p.1
  | none => 0
def RrRel (L : List (Int × Int)) (w : World) (v : Value) (wr : World) : Prop := ∃ i : Nat, v = .int .i64 i ∧ i ≤ L.length ∧ Hid (RgOk 281474976710658 L ↔ RgOk (frI L i) (L.drop i)) ∧ Hid (Only [] w wr)
theorem rr_step {L : List (Int × Int)} {i : Nat} {q : Int × Int} (hq : L[i]? = some q) (h : RgOk 281474976710658 L ↔ RgOk (frI L i) (L.drop i)) : RgOk 281474976710658 L ↔ (0 ≤ q.1 ∧ q.1 < q.2 ∧ q.2 ≤ 281474976710656 ∧ q.2 < frI L i ∧ RgOk (frI L (i + 1)) (L.drop (i + 1))) := by
  rw [h]
  obtain ⟨hi, rfl⟩ := List.getElem?_eq_some_iff.1 hq
  rw [List.drop_eq_getElem_cons hi]
  have e : frI L (i + 1) = (L[i]).1 := by unfold frI; rw [if_neg (by omega), Nat.add_sub_cancel, List.getElem?_eq_getElem hi]
  rw [e]
  rfl
set_option maxRecDepth 100000 in
set_option maxHeartbeats 4000000 in
theorem rranges_c (rv : Value) (L : List (Int × Int)) (w : World) (hL : RgAt w rv L) (hsz : L.length ≤ 4611686018427387903) :
    Calls Try.prog 123 #[rv] w (BoolQ (1 ≤ L.length ∧ L.length ≤ 16 ∧ RgOk 281474976710658 L) w) := by
  obtain ⟨P, hP⟩ : ∃ P : Prop, (1 ≤ L.length ∧ L.length ≤ 16 ∧ RgOk 281474976710658 L) = P := ⟨_, rfl⟩
  rw [hP]
  have HP := Lib.hid hP
  clear hP
  obtain ⟨a, cap, rfl, hc⟩ := hL
  by_cases h1 : 1 ≤ L.length
  · by_cases h16 : L.length ≤ 16
    · have HC := Lib.hid hc
      clear hc
      have g1 : ¬ ((L.length : Int) < 1) := by omega
      have g2 : ¬ ((16 : Int) < L.length) := by omega
      go_enter Try.func123, Try.ntmps123
      go_wp2_with fail
      go_loopw [3] (fun v wr => RrRel L w v wr) (fun v _ => L.length - (intOf v).toNat)
      case atStart => exact ⟨0, rfl, by omega, Lib.hid Iff.rfl, Lib.hid (Only.refl _ _)⟩
      case round =>
        obtain ⟨i, rfl, hi, hE, hO⟩ := hrel
        by_cases hlt : i < L.length
        · have hlt' : (i : Int) < L.length := by omega
          obtain ⟨g, off, rfl, hg, c0, c1, b0, b1⟩ := HC.out i hlt
          have hq : L[i]? = some L[i] := List.getElem?_eq_getElem hlt
          obtain ⟨A, hA⟩ : ∃ A, (L[i]).1 = A := ⟨_, rfl⟩
          obtain ⟨B, hB⟩ : ∃ B, (L[i]).2 = B := ⟨_, rfl⟩
          have hst := rr_step hq hE.out
          rw [hA, hB] at hst
          rw [hA] at c0
          rw [hB] at c1
          have d0 : wr.cell? ⟨g, off + i * 2, none⟩ = some (.int .i64 A) := (hO.out.cell (p := ⟨g, off + i * 2, none⟩) hg (by simp)).trans c0
          have d1 : wr.cell? ⟨g, off + i * 2 + 1, none⟩ = some (.int .i64 B) := (hO.out.cell (p := ⟨g, off + i * 2 + 1, none⟩) hg (by simp)).trans c1
          have f9 : IntKind.i64.wrap ((i : Int) + 1) = (i : Int) + 1 := IntWalk.i64_in _ (by omega)
          have HE := Lib.hid hst
          clear hst hE c0 c1 b0 b1 hq hA hB g1 g2
          by_cases x1 : A < 0
          · have hF : Hid (¬ P) := Lib.hid (by rw [← HP.out]; intro h; have := HE.out.1 h.2.2; omega)
            clear HE
            go_wp2_with fail
            go_still (by kernel_rfl)
            go_wp2_with fail
            go_ret
            exact BoolQ.no hF.out hO.out.drew
          by_cases x2 : B ≤ A
          · have hF : Hid (¬ P) := Lib.hid (by rw [← HP.out]; intro h; have := HE.out.1 h.2.2; omega)
            have e1 : decide (A < 0) = false := decide_eq_false x1
            clear HE
            go_wp2_with fail
            go_still (by kernel_rfl)
            go_wp2_with fail
            go_ret
            exact BoolQ.no hF.out hO.out.drew
          by_cases x3 : 281474976710656 < B
          · have hF : Hid (¬ P) := Lib.hid (by rw [← HP.out]; intro h; have := HE.out.1 h.2.2; omega)
            have e1 : decide (A < 0) = false := decide_eq_false x1
            have e2 : decide (B ≤ A) = false := decide_eq_false x2
            clear HE
            go_wp2_with fail
            go_still (by kernel_rfl)
            go_wp2_with fail
            go_ret
            exact BoolQ.no hF.out hO.out.drew
          have e1 : decide (A < 0) = false := decide_eq_false x1
          have e2 : decide (B ≤ A) = false := decide_eq_false x2
          have e3 : decide (281474976710656 < B) = false := decide_eq_false x3
          by_cases hi0 : i = 0
          · subst hi0
            have hE2 : Hid (RgOk 281474976710658 L ↔ RgOk (frI L (0 + 1)) (L.drop (0 + 1))) := Lib.hid (HE.out.trans ⟨fun h => h.2.2.2.2, fun h => ⟨by omega, by omega, by omega, by show B < 281474976710658; omega, h⟩⟩)
            have d0' : wr.cell? ⟨g, off, none⟩ = some (.int .i64 A) := by simpa using d0
            have d1' : wr.cell? ⟨g, off + 1, none⟩ = some (.int .i64 B) := by simpa using d1
            clear HE d0 d1
            go_wp2_with fail
            go_still (by kernel_rfl)
            go_wp2_with fail
            exact ⟨⟨1, rfl, by omega, hE2, Lib.hid hO.out.drew⟩, by simp [intOf]; omega⟩
          · obtain ⟨g', off', hga, _, c2, _⟩ := HC.out (i - 1) (by omega)
            cases hga
            obtain ⟨C, hC⟩ : ∃ C, (L[i - 1]'(by omega)).1 = C := ⟨_, rfl⟩
            rw [hC] at c2
            have hfr : frI L i = C := by unfold frI; rw [if_neg hi0, List.getElem?_eq_getElem (by omega)]; exact hC
            have d2 : wr.cell? ⟨g, off + (i - 1) * 2, none⟩ = some (.int .i64 C) := (hO.out.cell (p := ⟨g, off + (i - 1) * 2, none⟩) hg (by simp)).trans c2
            have i1 : IntKind.i64.wrap ((i : Int) - 1) = (i : Int) - 1 := IntWalk.i64_in _ (by omega)
            have i0 : (0 : Int) < i := by omega
            have i2 : (0 : Int) ≤ (i : Int) - 1 := by omega
            have i3 : (i : Int) - 1 < (L.length : Int) := by omega
            have i4 : (i : Int) ≤ (L.length : Int) := by omega
            have i5 : (1 : Int) ≤ (i : Int) := by omega
            have i6 : 0 < i := by omega
            have i7 : 1 ≤ i := i6
            have i8 : ((i : Int) - 1).toNat = i - 1 := by omega
            by_cases x4 : C ≤ B
            · have hF : Hid (¬ P) := Lib.hid (by rw [← HP.out]; intro h; have := HE.out.1 h.2.2; rw [hfr] at this; omega)
              clear HE hC hfr c2 hi0
              go_wp2_with fail
              go_still (by kernel_rfl)
              go_wp2_with fail
              go_ret
              exact BoolQ.no hF.out hO.out.drew
            · have hE2 : Hid (RgOk 281474976710658 L ↔ RgOk (frI L (i + 1)) (L.drop (i + 1))) := Lib.hid (HE.out.trans ⟨fun h => h.2.2.2.2, fun h => ⟨by omega, by omega, by omega, by rw [hfr]; omega, h⟩⟩)
              have e4 : decide (C ≤ B) = false := decide_eq_false x4
              clear HE hC hfr c2 hi0
              go_wp2_with fail
              go_still (by kernel_rfl)
              go_wp2_with fail
              exact ⟨⟨i + 1, by simp, by omega, hE2, Lib.hid hO.out.drew⟩, by simp [intOf] <;> omega⟩
        · have hlt' : ¬ (i : Int) < L.length := by omega
          have hF : Hid P := Lib.hid (by rw [← HP.out]; exact ⟨h1, h16, hE.out.2 (by rw [List.drop_eq_nil_of_le (by omega)]; trivial)⟩)
          clear hE
          go_wp2_with fail
          go_ret
          exact BoolQ.yes hF.out hO.out
    · have hF : Hid (¬ P) := Lib.hid (by rw [← HP.out]; exact fun h => h16 h.2.1)
      have g1 : ¬ ((L.length : Int) < 1) := by omega
      have g2 : (16 : Int) < L.length := by omega
      clear hc
      go_enter Try.func123, Try.ntmps123
      go_wp2_with fail
      go_ret
      exact BoolQ.no hF.out (Only.refl _ _)
  · have hF : Hid (¬ P) := Lib.hid (by rw [← HP.out]; exact fun h => h1 h.1)
    have g1 : (L.length : Int) < 1 := by omega
    clear hc
    go_enter Try.func123, Try.ntmps123
    go_wp2_with fail
    go_ret
    exact BoolQ.no hF.out (Only.refl _ _)
end Go.Proofs.Ytmmgmpghkpbgkaa
/- Contracts of the reference's frames: used. -/
namespace Go.Proofs.Ytmmgmpghkpbgkaa
open Go Go.RowKit
set_option linter.unusedVariables false
set_option linter.unusedSimpArgs false

def UsedQ (f : Fr) (w : World) (e : Ending) (w' : World) : Prop := ∃ rv', e = .returned (.agg (frC (usedR f) rv')) ∧ RgAt w' rv' (usedR f).rg ∧ Only [] w w'
theorem UsedQ.mk {f : Fr} {w w' : World} {rv : Value} {e : Ending} {cs : Array Value} (he : e = .returned (.agg cs) ∧ Only [] w w') (hc : cs = frC (usedR f) rv) (hr : RgAt w rv (usedR f).rg) : UsedQ f w e w' := by
  subst hc; exact ⟨rv, he.1, hr.keep he.2, he.2⟩
set_option maxRecDepth 100000 in
set_option maxHeartbeats 40000000 in
theorem rused_c (f : Fr) (rv : Value) (w : World) (hL : RgAt w rv f.rg) : Calls Try.prog 95 #[.agg (frC f rv)] w (UsedQ f w) := by
  obtain ⟨ra, rc, rfl, hcs⟩ := hL
  have hL : RgAt w (.slice ra f.rg.length rc) f.rg := ⟨ra, rc, rfl, hcs⟩
  clear hcs
  obtain ⟨k, st, off, S, fin, mx, cd, uni, dl, rg, sq, rt, cid⟩ := f
  simp only at hL
  have HL := Lib.hid hL
  clear hL
  simp only [frC]
  by_cases k2 : k = 2
  · subst k2
    as_aux_lemma =>
      go_enter Try.func95, Try.ntmps95
      go_wp2_with fail
      refine ⟨rfl, .agg #[.int .i64 2, .int .i64 st, .int .i64 off, .string (strB S), .bool fin, .int .i64 mx, .int .i64 cd, .bool uni, .int .i64 0, .slice none 0 0, .int .i64 sq, .int .i64 rt, .string (strB cid)], ?_, UsedQ.mk (rv := .slice none 0 0) ⟨rfl, ((Only.refl [] w).alloc _).alloc _⟩ rfl (RgAt.nil w)⟩
      simp [results, Try.f95, go_sem]
      try rfl
  by_cases k4 : k = 4
  · subst k4
    as_aux_lemma =>
      go_enter Try.func95, Try.ntmps95
      go_wp2_with fail
      refine ⟨rfl, .agg #[.int .i64 4, .int .i64 0, .int .i64 off, .string (strB S), .bool fin, .int .i64 0, .int .i64 0, .bool uni, .int .i64 dl, .slice ra rg.length rc, .int .i64 sq, .int .i64 rt, .string (strB cid)], ?_, UsedQ.mk (rv := .slice ra rg.length rc) ⟨rfl, ((Only.refl [] w).alloc _).alloc _⟩ rfl HL.out⟩
      simp [results, Try.f95, go_sem]
      try rfl
  by_cases k5 : k = 5
  · subst k5
    as_aux_lemma =>
      go_enter Try.func95, Try.ntmps95
      go_wp2_with fail
      refine ⟨rfl, .agg #[.int .i64 5, .int .i64 0, .int .i64 off, .string (strB S), .bool fin, .int .i64 mx, .int .i64 0, .bool uni, .int .i64 dl, .slice ra rg.length rc, .int .i64 sq, .int .i64 rt, .string (strB cid)], ?_, UsedQ.mk (rv := .slice ra rg.length rc) ⟨rfl, ((Only.refl [] w).alloc _).alloc _⟩ rfl HL.out⟩
      simp [results, Try.f95, go_sem]
      try rfl
  by_cases k6 : k = 6
  · subst k6
    as_aux_lemma =>
      go_enter Try.func95, Try.ntmps95
      go_wp2_with fail
      refine ⟨rfl, .agg #[.int .i64 6, .int .i64 st, .int .i64 0, .string (strB []), .bool fin, .int .i64 mx, .int .i64 cd, .bool uni, .int .i64 dl, .slice ra rg.length rc, .int .i64 sq, .int .i64 rt, .string (strB cid)], ?_, UsedQ.mk (rv := .slice ra rg.length rc) ⟨rfl, ((Only.refl [] w).alloc _).alloc _⟩ rfl HL.out⟩
      simp [results, Try.f95, go_sem]
      try rfl
  by_cases k7 : k = 7
  · subst k7
    as_aux_lemma =>
      go_enter Try.func95, Try.ntmps95
      go_wp2_with fail
      refine ⟨rfl, .agg #[.int .i64 7, .int .i64 st, .int .i64 off, .string (strB []), .bool fin, .int .i64 mx, .int .i64 cd, .bool uni, .int .i64 dl, .slice ra rg.length rc, .int .i64 sq, .int .i64 rt, .string (strB cid)], ?_, UsedQ.mk (rv := .slice ra rg.length rc) ⟨rfl, ((Only.refl [] w).alloc _).alloc _⟩ rfl HL.out⟩
      simp [results, Try.f95, go_sem]
      try rfl
  by_cases k26 : k = 26
  · subst k26
    as_aux_lemma =>
      go_enter Try.func95, Try.ntmps95
      go_wp2_with fail
      refine ⟨rfl, .agg #[.int .i64 26, .int .i64 st, .int .i64 off, .string (strB []), .bool fin, .int .i64 mx, .int .i64 cd, .bool uni, .int .i64 dl, .slice ra rg.length rc, .int .i64 sq, .int .i64 rt, .string (strB cid)], ?_, UsedQ.mk (rv := .slice ra rg.length rc) ⟨rfl, ((Only.refl [] w).alloc _).alloc _⟩ rfl HL.out⟩
      simp [results, Try.f95, go_sem]
      try rfl
  by_cases k27 : k = 27
  · subst k27
    as_aux_lemma =>
      go_enter Try.func95, Try.ntmps95
      go_wp2_with fail
      refine ⟨rfl, .agg #[.int .i64 27, .int .i64 st, .int .i64 off, .string (strB []), .bool fin, .int .i64 mx, .int .i64 cd, .bool uni, .int .i64 dl, .slice ra rg.length rc, .int .i64 sq, .int .i64 rt, .string (strB cid)], ?_, UsedQ.mk (rv := .slice ra rg.length rc) ⟨rfl, ((Only.refl [] w).alloc _).alloc _⟩ rfl HL.out⟩
      simp [results, Try.f95, go_sem]
      try rfl
  by_cases k8 : k = 8
  · subst k8
    as_aux_lemma =>
      go_enter Try.func95, Try.ntmps95
      go_wp2_with fail
      refine ⟨rfl, .agg #[.int .i64 8, .int .i64 0, .int .i64 0, .string (strB []), .bool false, .int .i64 mx, .int .i64 cd, .bool uni, .int .i64 dl, .slice ra rg.length rc, .int .i64 sq, .int .i64 rt, .string (strB cid)], ?_, UsedQ.mk (rv := .slice ra rg.length rc) ⟨rfl, ((Only.refl [] w).alloc _).alloc _⟩ rfl HL.out⟩
      simp [results, Try.f95, go_sem]
      try rfl
  by_cases k16 : k = 16
  · subst k16
    as_aux_lemma =>
      go_enter Try.func95, Try.ntmps95
      go_wp2_with fail
      refine ⟨rfl, .agg #[.int .i64 16, .int .i64 st, .int .i64 off, .string (strB S), .bool fin, .int .i64 0, .int .i64 cd, .bool uni, .int .i64 dl, .slice ra rg.length rc, .int .i64 sq, .int .i64 rt, .string (strB cid)], ?_, UsedQ.mk (rv := .slice ra rg.length rc) ⟨rfl, ((Only.refl [] w).alloc _).alloc _⟩ rfl HL.out⟩
      simp [results, Try.f95, go_sem]
      try rfl
  by_cases k20 : k = 20
  · subst k20
    as_aux_lemma =>
      go_enter Try.func95, Try.ntmps95
      go_wp2_with fail
      refine ⟨rfl, .agg #[.int .i64 20, .int .i64 st, .int .i64 off, .string (strB S), .bool fin, .int .i64 0, .int .i64 cd, .bool uni, .int .i64 dl, .slice ra rg.length rc, .int .i64 sq, .int .i64 rt, .string (strB cid)], ?_, UsedQ.mk (rv := .slice ra rg.length rc) ⟨rfl, ((Only.refl [] w).alloc _).alloc _⟩ rfl HL.out⟩
      simp [results, Try.f95, go_sem]
      try rfl
  by_cases k17 : k = 17
  · subst k17
    as_aux_lemma =>
      go_enter Try.func95, Try.ntmps95
      go_wp2_with fail
      refine ⟨rfl, .agg #[.int .i64 17, .int .i64 0, .int .i64 off, .string (strB S), .bool fin, .int .i64 0, .int .i64 cd, .bool uni, .int .i64 dl, .slice ra rg.length rc, .int .i64 sq, .int .i64 rt, .string (strB cid)], ?_, UsedQ.mk (rv := .slice ra rg.length rc) ⟨rfl, ((Only.refl [] w).alloc _).alloc _⟩ rfl HL.out⟩
      simp [results, Try.f95, go_sem]
      try rfl
  by_cases k21 : k = 21
  · subst k21
    as_aux_lemma =>
      go_enter Try.func95, Try.ntmps95
      go_wp2_with fail
      refine ⟨rfl, .agg #[.int .i64 21, .int .i64 0, .int .i64 off, .string (strB S), .bool fin, .int .i64 0, .int .i64 cd, .bool uni, .int .i64 dl, .slice ra rg.length rc, .int .i64 sq, .int .i64 rt, .string (strB cid)], ?_, UsedQ.mk (rv := .slice ra rg.length rc) ⟨rfl, ((Only.refl [] w).alloc _).alloc _⟩ rfl HL.out⟩
      simp [results, Try.f95, go_sem]
      try rfl
  by_cases k18 : k = 18
  · subst k18
    as_aux_lemma =>
      go_enter Try.func95, Try.ntmps95
      go_wp2_with fail
      refine ⟨rfl, .agg #[.int .i64 18, .int .i64 st, .int .i64 off, .string (strB S), .bool fin, .int .i64 0, .int .i64 cd, .bool false, .int .i64 dl, .slice ra rg.length rc, .int .i64 sq, .int .i64 rt, .string (strB cid)], ?_, UsedQ.mk (rv := .slice ra rg.length rc) ⟨rfl, ((Only.refl [] w).alloc _).alloc _⟩ rfl HL.out⟩
      simp [results, Try.f95, go_sem]
      try rfl
  by_cases k22 : k = 22
  · subst k22
    as_aux_lemma =>
      go_enter Try.func95, Try.ntmps95
      go_wp2_with fail
      refine ⟨rfl, .agg #[.int .i64 22, .int .i64 st, .int .i64 off, .string (strB S), .bool fin, .int .i64 0, .int .i64 cd, .bool false, .int .i64 dl, .slice ra rg.length rc, .int .i64 sq, .int .i64 rt, .string (strB cid)], ?_, UsedQ.mk (rv := .slice ra rg.length rc) ⟨rfl, ((Only.refl [] w).alloc _).alloc _⟩ rfl HL.out⟩
      simp [results, Try.f95, go_sem]
      try rfl
  by_cases k24 : k = 24
  · subst k24
    as_aux_lemma =>
      go_enter Try.func95, Try.ntmps95
      go_wp2_with fail
      refine ⟨rfl, .agg #[.int .i64 24, .int .i64 st, .int .i64 off, .string (strB S), .bool fin, .int .i64 mx, .int .i64 cd, .bool uni, .int .i64 dl, .slice ra rg.length rc, .int .i64 0, .int .i64 0, .string (strB [])], ?_, UsedQ.mk (rv := .slice ra rg.length rc) ⟨rfl, ((Only.refl [] w).alloc _).alloc _⟩ rfl HL.out⟩
      simp [results, Try.f95, go_sem]
      try rfl
  by_cases k25 : k = 25
  · subst k25
    as_aux_lemma =>
      go_enter Try.func95, Try.ntmps95
      go_wp2_with fail
      refine ⟨rfl, .agg #[.int .i64 25, .int .i64 st, .int .i64 off, .string (strB S), .bool fin, .int .i64 mx, .int .i64 cd, .bool uni, .int .i64 dl, .slice ra rg.length rc, .int .i64 0, .int .i64 rt, .string (strB cid)], ?_, UsedQ.mk (rv := .slice ra rg.length rc) ⟨rfl, ((Only.refl [] w).alloc _).alloc _⟩ rfl HL.out⟩
      simp [results, Try.f95, go_sem]
      try rfl
  by_cases k28 : k = 28
  · subst k28
    as_aux_lemma =>
      go_enter Try.func95, Try.ntmps95
      go_wp2_with fail
      refine ⟨rfl, .agg #[.int .i64 28, .int .i64 st, .int .i64 off, .string (strB []), .bool fin, .int .i64 mx, .int .i64 0, .bool uni, .int .i64 dl, .slice ra rg.length rc, .int .i64 sq, .int .i64 rt, .string (strB cid)], ?_, UsedQ.mk (rv := .slice ra rg.length rc) ⟨rfl, ((Only.refl [] w).alloc _).alloc _⟩ rfl HL.out⟩
      simp [results, Try.f95, go_sem]
      try rfl
  by_cases k29 : k = 29
  · subst k29
    as_aux_lemma =>
      go_enter Try.func95, Try.ntmps95
      go_wp2_with fail
      refine ⟨rfl, .agg #[.int .i64 29, .int .i64 st, .int .i64 off, .string (strB []), .bool fin, .int .i64 mx, .int .i64 0, .bool uni, .int .i64 dl, .slice ra rg.length rc, .int .i64 sq, .int .i64 rt, .string (strB cid)], ?_, UsedQ.mk (rv := .slice ra rg.length rc) ⟨rfl, ((Only.refl [] w).alloc _).alloc _⟩ rfl HL.out⟩
      simp [results, Try.f95, go_sem]
      try rfl
  have hu : Hid (usedR ⟨k, st, off, S, fin, mx, cd, uni, dl, rg, sq, rt, cid⟩ = ⟨k, st, off, S, fin, mx, cd, uni, dl, rg, sq, rt, cid⟩) := Lib.hid (by
    unfold usedR
    simp only
    rw [if_neg k8]
    have ht : (tab k).getD [] = [] := by
      by_cases z0 : k = 0
      · rw [z0]; rfl
      by_cases z1 : k = 1
      · rw [z1]; rfl
      by_cases z30 : k = 30
      · rw [z30]; rfl
      unfold tab
      rw [if_neg z0, if_neg z1, if_neg z30, if_neg k2, if_neg k4, if_neg k5, if_neg k6, if_neg k7, if_neg k8, if_neg k16, if_neg k20, if_neg k17, if_neg k21, if_neg k18, if_neg k22, if_neg k24, if_neg k25, if_neg k26, if_neg k27, if_neg k28, if_neg k29]
      rfl
    rw [ht]
    rfl)
  have b2 : (k == 2) = false := beq_eq_false_iff_ne.2 k2
  have b4 : (k == 4) = false := beq_eq_false_iff_ne.2 k4
  have b5 : (k == 5) = false := beq_eq_false_iff_ne.2 k5
  have b6 : (k == 6) = false := beq_eq_false_iff_ne.2 k6
  have b7 : (k == 7) = false := beq_eq_false_iff_ne.2 k7
  have b26 : (k == 26) = false := beq_eq_false_iff_ne.2 k26
  have b27 : (k == 27) = false := beq_eq_false_iff_ne.2 k27
  have b8 : (k == 8) = false := beq_eq_false_iff_ne.2 k8
  have b16 : (k == 16) = false := beq_eq_false_iff_ne.2 k16
  have b20 : (k == 20) = false := beq_eq_false_iff_ne.2 k20
  have b17 : (k == 17) = false := beq_eq_false_iff_ne.2 k17
  have b21 : (k == 21) = false := beq_eq_false_iff_ne.2 k21
  have b18 : (k == 18) = false := beq_eq_false_iff_ne.2 k18
  have b22 : (k == 22) = false := beq_eq_false_iff_ne.2 k22
  have b24 : (k == 24) = false := beq_eq_false_iff_ne.2 k24
  have b25 : (k == 25) = false := beq_eq_false_iff_ne.2 k25
  have b28 : (k == 28) = false := beq_eq_false_iff_ne.2 k28
  have b29 : (k == 29) = false := beq_eq_false_iff_ne.2 k29
  clear k2 k4 k5 k6 k7 k26 k27 k8 k16 k20 k17 k21 k18 k22 k24 k25 k28 k29
  go_enter Try.func95, Try.ntmps95
  go_wp2_with fail
  refine ⟨rfl, .agg #[.int .i64 k, .int .i64 st, .int .i64 off, .string (strB S), .bool fin, .int .i64 mx, .int .i64 cd, .bool uni, .int .i64 dl, .slice ra rg.length rc, .int .i64 sq, .int .i64 rt, .string (strB cid)], ?_, UsedQ.mk (rv := .slice ra rg.length rc) ⟨rfl, ((Only.refl [] w).alloc _).alloc _⟩ (by rw [hu.out]; rfl) (by rw [hu.out]; exact HL.out)⟩
  simp [results, Try.f95, go_sem]
  try rfl
end Go.Proofs.Ytmmgmpghkpbgkaa
