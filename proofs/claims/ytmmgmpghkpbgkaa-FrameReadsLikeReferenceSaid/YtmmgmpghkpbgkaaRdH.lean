/- Contracts of the reference's frames: values, its beginning. -/
import Derived.Test.YtmmgmpghkpbgkaaRdG
import Derived.Test.YtmmgmpghkpbgkaaFrZc
import Derived.Deep.CutRange
import Derived.Test.YtmmgmpghkpbgkaaFrH
import Derived.Test.YtmmgmpghkpbgkaaFrJ
import Derived.Deep.RegionHeld3
namespace Go.Proofs.Ytmmgmpghkpbgkaa
open Go Go.RowKit
set_option linter.unusedVariables false
set_option linter.unusedSimpArgs false

theorem valR_at {f : Fr} {l : List Pt} (ht : tab f.ty = some l) : valR f ↔ ((∀ p ∈ l, okP p f) ∧ (f.ty = 6 ∨ f.ty = 8 → f.off + f.S.length ≤ 1099511627776)) := by
  constructor
  · rintro ⟨l', h1, h2, h3⟩
    obtain rfl : l' = l := Option.some.inj (h1.symm.trans ht)
    exact ⟨h2, h3⟩
  · rintro ⟨h2, h3⟩
    exact ⟨l, ht, h2, h3⟩
theorem valR_no {f : Fr} (ht : tab f.ty = none) : ¬ valR f := by
  rintro ⟨l, h, _⟩; rw [ht] at h; cases h
set_option maxRecDepth 100000 in
set_option maxHeartbeats 40000000 in
theorem valk (k : Int) (st off mx cd dl sq rt : Int) (fin uni : Bool) (S cid : List UInt8) (rg : List (Int × Int)) (ra : Option Addr) (rc : Nat) (w : World) (hS : S.length ≤ 4611686018427387903) (hsz : rg.length ≤ 4611686018427387903) (hL : RgAt w (.slice ra rg.length rc) rg) :
    Calls Try.prog 94 #[.agg #[.int .i64 k, .int .i64 st, .int .i64 off, .string (strB S), .bool fin, .int .i64 mx, .int .i64 cd, .bool uni, .int .i64 dl, .slice ra rg.length rc, .int .i64 sq, .int .i64 rt, .string (strB cid)]] w (BoolQ (valR (⟨k, st, off, S, fin, mx, cd, uni, dl, rg, sq, rt, cid⟩ : Fr)) w) := by
  obtain ⟨P, hP⟩ : ∃ P : Prop, valR (⟨k, st, off, S, fin, mx, cd, uni, dl, rg, sq, rt, cid⟩ : Fr) = P := ⟨_, rfl⟩
  rw [hP]
  have HP := Lib.hid hP
  clear hP
  have zs : (strB S).size = S.length := strB_size S
  have zc : (strB cid).size = cid.length := strB_size cid
  go_enter Try.func94, Try.ntmps94
  go_upto_region 1 with fail
  have hx := At.new w 33 #[.int .i64 k, .int .i64 st, .int .i64 off, .string (strB S), .bool fin, .int .i64 mx, .int .i64 cd, .bool uni, .int .i64 dl, .slice ra rg.length rc, .int .i64 sq, .int .i64 rt, .string (strB cid)]
  have hO := (Only.refl [] w).alloc (.cells #[.int .i64 k, .int .i64 st, .int .i64 off, .string (strB S), .bool fin, .int .i64 mx, .int .i64 cd, .bool uni, .int .i64 dl, .slice ra rg.length rc, .int .i64 sq, .int .i64 rt, .string (strB cid)] 33)
  have hL1 := hL.keep hO
  clear hL
  generalize w.alloc (.cells #[.int .i64 k, .int .i64 st, .int .i64 off, .string (strB S), .bool fin, .int .i64 mx, .int .i64 cd, .bool uni, .int .i64 dl, .slice ra rg.length rc, .int .i64 sq, .int .i64 rt, .string (strB cid)] 33) = w1 at hx hO hL1 ⊢
  generalize w.heap.size = pb at hx ⊢
  have HB := Lib.hid hx
  have HO := Lib.hid hO
  have HL := Lib.hid hL1
  clear hx hO hL1
  go_cut [3] from 4 to 21 (fun v wx => ∃ z : Bool, v = .bool z ∧ Hid (z = true ↔ (0 ≤ off ∧ off ≤ 1099511627776) ∧ S.length ≤ 1024 ∧ off + S.length ≤ 1099511627776) ∧ Only [] w1 wx)
  case first =>
    have y2 : w1.cell? ⟨pb, 2, none⟩ = some (.int .i64 off) := HB.out.cell 2 rfl
    go_wp2_with fail
    refine (rnumber_c off 1099511627776 _).mono ?_
    rintro e w2 ⟨z, rfl, hz, ho⟩
    clear y2
    cases z with
    | false =>
      have hF := Lib.hid hz
      have HO2 := Lib.hid ho
      clear hz ho
      go_wp2_with fail
      go_meet
      exact ⟨false, rfl, Lib.hid ⟨fun h => by (cases h), fun h => hF.out.2 h.1⟩, HO2.out⟩
    | true =>
      have hoff := hz.1 rfl
      have y2 : w2.cell? ⟨pb, 2, none⟩ = some (.int .i64 off) := (HB.out.keep ho (by simp)).cell 2 rfl
      have y3 : w2.cell? ⟨pb, 3, none⟩ = some (.string (strB S)) := (HB.out.keep ho (by simp)).cell 3 rfl
      have HO2 := Lib.hid ho
      have HF := Lib.hid hoff
      clear hz ho
      by_cases h1 : S.length ≤ 1024
      · have h1' : (S.length : Int) ≤ 1024 := by omega
        have ew : IntKind.i64.wrap (off + S.length) = off + S.length := IntWalk.i64_in _ (by omega)
        have ew2 : wrap64 (off + S.length) = off + S.length := IntWalk.wrap64_in _ (by omega)
        by_cases h2 : off + S.length ≤ 1099511627776
        · have HT : Hid (S.length ≤ 1024 ∧ off + S.length ≤ 1099511627776) := Lib.hid ⟨h1, h2⟩
          clear hoff h1
          go_wp2_with fail
          go_meet
          exact ⟨true, rfl, Lib.hid ⟨fun _ => ⟨HF.out, HT.out⟩, fun _ => rfl⟩, HO2.out⟩
        · have HT : Hid (¬ (off + S.length ≤ 1099511627776)) := Lib.hid h2
          have h2' : decide (off + S.length ≤ 1099511627776) = false := decide_eq_false h2
          clear hoff h1 h2
          go_wp2_with fail
          go_meet
          exact ⟨false, rfl, Lib.hid ⟨fun h => by (cases h), fun h => absurd h.2.2 (by have := HT.out; omega)⟩, HO2.out⟩
      · have HT : Hid (¬ (S.length ≤ 1024)) := Lib.hid h1
        have h1' : decide ((S.length : Int) ≤ 1024) = false := decide_eq_false (by omega)
        clear hoff h1
        go_wp2_with fail
        go_meet
        exact ⟨false, rfl, Lib.hid ⟨fun h => by (cases h), fun h => absurd h.2.1 (by have := HT.out; omega)⟩, HO2.out⟩
  case rest =>
  obtain ⟨z0, rfl, hz0, hod⟩ := hcut
  replace HB := Lib.hid (HB.out.keep hod (by simp))
  replace HO := Lib.hid (HO.out.trans hod)
  replace HL := Lib.hid (HL.out.keep hod)
  clear hod
  by_cases k0 : k = 0
  · subst k0
    have HQ : Hid (P = ((∀ p ∈ ([] : List Pt), okP p (⟨0, st, off, S, fin, mx, cd, uni, dl, rg, sq, rt, cid⟩ : Fr)) ∧ ((0 : Int) = 6 ∨ (0 : Int) = 8 → off + S.length ≤ 1099511627776))) := Lib.hid (HP.out.symm.trans (propext (valR_at (f := (⟨0, st, off, S, fin, mx, cd, uni, dl, rg, sq, rt, cid⟩ : Fr)) rfl)))
    clear HP
    clear HL
    have HZ : Hid P := Lib.hid (by
      rw [HQ.out]
      exact ⟨fun p hp => absurd hp (by simp), fun hh => by omega⟩)
    clear HQ
    have y0 : wc.cell? ⟨pb, 0, none⟩ = some (.int .i64 0) := HB.out.cell 0 rfl
    go_wp2_with fail
    go_ret
    exact BoolQ.yes HZ.out HO.out
  by_cases k1 : k = 1
  · subst k1
    have HQ : Hid (P = ((∀ p ∈ ([] : List Pt), okP p (⟨1, st, off, S, fin, mx, cd, uni, dl, rg, sq, rt, cid⟩ : Fr)) ∧ ((1 : Int) = 6 ∨ (1 : Int) = 8 → off + S.length ≤ 1099511627776))) := Lib.hid (HP.out.symm.trans (propext (valR_at (f := (⟨1, st, off, S, fin, mx, cd, uni, dl, rg, sq, rt, cid⟩ : Fr)) rfl)))
    clear HP
    clear HL
    have HZ : Hid P := Lib.hid (by
      rw [HQ.out]
      exact ⟨fun p hp => absurd hp (by simp), fun hh => by omega⟩)
    clear HQ
    have y0 : wc.cell? ⟨pb, 0, none⟩ = some (.int .i64 1) := HB.out.cell 0 rfl
    go_wp2_with fail
    go_ret
    exact BoolQ.yes HZ.out HO.out
  by_cases k30 : k = 30
  · subst k30
    have HQ : Hid (P = ((∀ p ∈ ([] : List Pt), okP p (⟨30, st, off, S, fin, mx, cd, uni, dl, rg, sq, rt, cid⟩ : Fr)) ∧ ((30 : Int) = 6 ∨ (30 : Int) = 8 → off + S.length ≤ 1099511627776))) := Lib.hid (HP.out.symm.trans (propext (valR_at (f := (⟨30, st, off, S, fin, mx, cd, uni, dl, rg, sq, rt, cid⟩ : Fr)) rfl)))
    clear HP
    clear HL
    have HZ : Hid P := Lib.hid (by
      rw [HQ.out]
      exact ⟨fun p hp => absurd hp (by simp), fun hh => by omega⟩)
    clear HQ
    have y0 : wc.cell? ⟨pb, 0, none⟩ = some (.int .i64 30) := HB.out.cell 0 rfl
    go_wp2_with fail
    go_ret
    exact BoolQ.yes HZ.out HO.out
  by_cases k2 : k = 2
  · subst k2
    have HQ : Hid (P = ((∀ p ∈ ([.int mV .dl, .ranges] : List Pt), okP p (⟨2, st, off, S, fin, mx, cd, uni, dl, rg, sq, rt, cid⟩ : Fr)) ∧ ((2 : Int) = 6 ∨ (2 : Int) = 8 → off + S.length ≤ 1099511627776))) := Lib.hid (HP.out.symm.trans (propext (valR_at (f := (⟨2, st, off, S, fin, mx, cd, uni, dl, rg, sq, rt, cid⟩ : Fr)) rfl)))
    clear HP
    have y0 : wc.cell? ⟨pb, 0, none⟩ = some (.int .i64 2) := HB.out.cell 0 rfl
    have y8 : wc.cell? ⟨pb, 8, none⟩ = some (.int .i64 dl) := HB.out.cell 8 rfl
    have y9 : wc.cell? ⟨pb, 9, none⟩ = some (.slice ra rg.length rc) := HB.out.cell 9 rfl
    go_wp2_with fail
    refine (rnumber_c dl 4611686018427387903 _).mono ?_
    rintro e w3 ⟨z, rfl, hz, ho⟩
    clear y0 y8 y9
    replace HB := Lib.hid (HB.out.keep ho (by simp))
    replace HO := Lib.hid (HO.out.trans ho)
    replace HL := Lib.hid (HL.out.keep ho)
    clear ho
    have HC0 := Lib.hid hz
    clear hz
    cases z with
    | false =>
      have y0 : w3.cell? ⟨pb, 0, none⟩ = some (.int .i64 2) := HB.out.cell 0 rfl
      have y9 : w3.cell? ⟨pb, 9, none⟩ = some (.slice ra rg.length rc) := HB.out.cell 9 rfl
      have HZ : Hid (¬ P) := Lib.hid (by rw [HQ.out]; intro x; exact absurd (HC0.out.2 (x.1 (.int mV .dl) (by simp))) (by simp))
      clear HQ
      go_wp2_with fail
      go_ret
      exact BoolQ.no HZ.out HO.out
    | true =>
      have y0 : w3.cell? ⟨pb, 0, none⟩ = some (.int .i64 2) := HB.out.cell 0 rfl
      have y9 : w3.cell? ⟨pb, 9, none⟩ = some (.slice ra rg.length rc) := HB.out.cell 9 rfl
      go_wp2_with fail
      refine (rranges_c _ rg _ HL.out hsz).mono ?_
      rintro e w4 ⟨z, rfl, hz, ho⟩
      clear y0 y9
      replace HB := Lib.hid (HB.out.keep ho (by simp))
      replace HO := Lib.hid (HO.out.trans ho)
      replace HL := Lib.hid (HL.out.keep ho)
      clear ho
      have HC1 := Lib.hid hz
      clear hz
      cases z with
      | false =>
        have y0 : w4.cell? ⟨pb, 0, none⟩ = some (.int .i64 2) := HB.out.cell 0 rfl
        have HZ : Hid (¬ P) := Lib.hid (by rw [HQ.out]; intro x; exact absurd (HC1.out.2 (x.1 (.ranges) (by simp))) (by simp))
        clear HQ
        go_wp2_with fail
        go_ret
        exact BoolQ.no HZ.out HO.out
      | true =>
        have HZ : Hid P := Lib.hid (by
          rw [HQ.out]
          exact ⟨fun p hp => by
            simp only [List.mem_cons, List.not_mem_nil, or_false] at hp
            rcases hp with rfl | rfl
            · exact (HC0.out.1 (by first | rfl | trivial))
            · exact (HC1.out.1 (by first | rfl | trivial)),
            (fun hh => by omega)⟩)
        clear HQ
        have y0 : w4.cell? ⟨pb, 0, none⟩ = some (.int .i64 2) := HB.out.cell 0 rfl
        go_wp2_with fail
        go_ret
        exact BoolQ.yes HZ.out HO.out
  by_cases k4 : k = 4
  · subst k4
    have HQ : Hid (P = ((∀ p ∈ ([.int mV .st, .int mC .cd, .int mO .mx] : List Pt), okP p (⟨4, st, off, S, fin, mx, cd, uni, dl, rg, sq, rt, cid⟩ : Fr)) ∧ ((4 : Int) = 6 ∨ (4 : Int) = 8 → off + S.length ≤ 1099511627776))) := Lib.hid (HP.out.symm.trans (propext (valR_at (f := (⟨4, st, off, S, fin, mx, cd, uni, dl, rg, sq, rt, cid⟩ : Fr)) rfl)))
    clear HP
    clear HL
    have y0 : wc.cell? ⟨pb, 0, none⟩ = some (.int .i64 4) := HB.out.cell 0 rfl
    have y1 : wc.cell? ⟨pb, 1, none⟩ = some (.int .i64 st) := HB.out.cell 1 rfl
    have y5 : wc.cell? ⟨pb, 5, none⟩ = some (.int .i64 mx) := HB.out.cell 5 rfl
    have y6 : wc.cell? ⟨pb, 6, none⟩ = some (.int .i64 cd) := HB.out.cell 6 rfl
    go_wp2_with fail
    refine (rnumber_c st 4611686018427387903 _).mono ?_
    rintro e w3 ⟨z, rfl, hz, ho⟩
    clear y0 y1 y5 y6
    replace HB := Lib.hid (HB.out.keep ho (by simp))
    replace HO := Lib.hid (HO.out.trans ho)
    clear ho
    have HC0 := Lib.hid hz
    clear hz
    cases z with
    | false =>
      have y0 : w3.cell? ⟨pb, 0, none⟩ = some (.int .i64 4) := HB.out.cell 0 rfl
      have y5 : w3.cell? ⟨pb, 5, none⟩ = some (.int .i64 mx) := HB.out.cell 5 rfl
      have y6 : w3.cell? ⟨pb, 6, none⟩ = some (.int .i64 cd) := HB.out.cell 6 rfl
      have HZ : Hid (¬ P) := Lib.hid (by rw [HQ.out]; intro x; exact absurd (HC0.out.2 (x.1 (.int mV .st) (by simp))) (by simp))
      clear HQ
      go_wp2_with fail
      go_ret
      exact BoolQ.no HZ.out HO.out
    | true =>
      have y0 : w3.cell? ⟨pb, 0, none⟩ = some (.int .i64 4) := HB.out.cell 0 rfl
      have y5 : w3.cell? ⟨pb, 5, none⟩ = some (.int .i64 mx) := HB.out.cell 5 rfl
      have y6 : w3.cell? ⟨pb, 6, none⟩ = some (.int .i64 cd) := HB.out.cell 6 rfl
      go_wp2_with fail
      refine (rnumber_c cd 1073741823 _).mono ?_
      rintro e w4 ⟨z, rfl, hz, ho⟩
      clear y0 y5 y6
      replace HB := Lib.hid (HB.out.keep ho (by simp))
      replace HO := Lib.hid (HO.out.trans ho)
      clear ho
      have HC1 := Lib.hid hz
      clear hz
      cases z with
      | false =>
        have y0 : w4.cell? ⟨pb, 0, none⟩ = some (.int .i64 4) := HB.out.cell 0 rfl
        have y5 : w4.cell? ⟨pb, 5, none⟩ = some (.int .i64 mx) := HB.out.cell 5 rfl
        have HZ : Hid (¬ P) := Lib.hid (by rw [HQ.out]; intro x; exact absurd (HC1.out.2 (x.1 (.int mC .cd) (by simp))) (by simp))
        clear HQ
        go_wp2_with fail
        go_ret
        exact BoolQ.no HZ.out HO.out
      | true =>
        have y0 : w4.cell? ⟨pb, 0, none⟩ = some (.int .i64 4) := HB.out.cell 0 rfl
        have y5 : w4.cell? ⟨pb, 5, none⟩ = some (.int .i64 mx) := HB.out.cell 5 rfl
        go_wp2_with fail
        refine (rnumber_c mx 1099511627776 _).mono ?_
        rintro e w5 ⟨z, rfl, hz, ho⟩
        clear y0 y5
        replace HB := Lib.hid (HB.out.keep ho (by simp))
        replace HO := Lib.hid (HO.out.trans ho)
        clear ho
        have HC2 := Lib.hid hz
        clear hz
        cases z with
        | false =>
          have y0 : w5.cell? ⟨pb, 0, none⟩ = some (.int .i64 4) := HB.out.cell 0 rfl
          have HZ : Hid (¬ P) := Lib.hid (by rw [HQ.out]; intro x; exact absurd (HC2.out.2 (x.1 (.int mO .mx) (by simp))) (by simp))
          clear HQ
          go_wp2_with fail
          go_ret
          exact BoolQ.no HZ.out HO.out
        | true =>
          have HZ : Hid P := Lib.hid (by
            rw [HQ.out]
            exact ⟨fun p hp => by
              simp only [List.mem_cons, List.not_mem_nil, or_false] at hp
              rcases hp with rfl | rfl | rfl
              · exact (HC0.out.1 (by first | rfl | trivial))
              · exact (HC1.out.1 (by first | rfl | trivial))
              · exact (HC2.out.1 (by first | rfl | trivial)),
              (fun hh => by omega)⟩)
          clear HQ
          have y0 : w5.cell? ⟨pb, 0, none⟩ = some (.int .i64 4) := HB.out.cell 0 rfl
          go_wp2_with fail
          go_ret
          exact BoolQ.yes HZ.out HO.out
  by_cases k5 : k = 5
  · subst k5
    have HQ : Hid (P = ((∀ p ∈ ([.int mV .st, .int mC .cd] : List Pt), okP p (⟨5, st, off, S, fin, mx, cd, uni, dl, rg, sq, rt, cid⟩ : Fr)) ∧ ((5 : Int) = 6 ∨ (5 : Int) = 8 → off + S.length ≤ 1099511627776))) := Lib.hid (HP.out.symm.trans (propext (valR_at (f := (⟨5, st, off, S, fin, mx, cd, uni, dl, rg, sq, rt, cid⟩ : Fr)) rfl)))
    clear HP
    clear HL
    have y0 : wc.cell? ⟨pb, 0, none⟩ = some (.int .i64 5) := HB.out.cell 0 rfl
    have y1 : wc.cell? ⟨pb, 1, none⟩ = some (.int .i64 st) := HB.out.cell 1 rfl
    have y6 : wc.cell? ⟨pb, 6, none⟩ = some (.int .i64 cd) := HB.out.cell 6 rfl
    go_wp2_with fail
    refine (rnumber_c st 4611686018427387903 _).mono ?_
    rintro e w3 ⟨z, rfl, hz, ho⟩
    clear y0 y1 y6
    replace HB := Lib.hid (HB.out.keep ho (by simp))
    replace HO := Lib.hid (HO.out.trans ho)
    clear ho
    have HC0 := Lib.hid hz
    clear hz
    cases z with
    | false =>
      have y0 : w3.cell? ⟨pb, 0, none⟩ = some (.int .i64 5) := HB.out.cell 0 rfl
      have y6 : w3.cell? ⟨pb, 6, none⟩ = some (.int .i64 cd) := HB.out.cell 6 rfl
      have HZ : Hid (¬ P) := Lib.hid (by rw [HQ.out]; intro x; exact absurd (HC0.out.2 (x.1 (.int mV .st) (by simp))) (by simp))
      clear HQ
      go_wp2_with fail
      go_ret
      exact BoolQ.no HZ.out HO.out
    | true =>
      have y0 : w3.cell? ⟨pb, 0, none⟩ = some (.int .i64 5) := HB.out.cell 0 rfl
      have y6 : w3.cell? ⟨pb, 6, none⟩ = some (.int .i64 cd) := HB.out.cell 6 rfl
      go_wp2_with fail
      refine (rnumber_c cd 1073741823 _).mono ?_
      rintro e w4 ⟨z, rfl, hz, ho⟩
      clear y0 y6
      replace HB := Lib.hid (HB.out.keep ho (by simp))
      replace HO := Lib.hid (HO.out.trans ho)
      clear ho
      have HC1 := Lib.hid hz
      clear hz
      cases z with
      | false =>
        have y0 : w4.cell? ⟨pb, 0, none⟩ = some (.int .i64 5) := HB.out.cell 0 rfl
        have HZ : Hid (¬ P) := Lib.hid (by rw [HQ.out]; intro x; exact absurd (HC1.out.2 (x.1 (.int mC .cd) (by simp))) (by simp))
        clear HQ
        go_wp2_with fail
        go_ret
        exact BoolQ.no HZ.out HO.out
      | true =>
        have HZ : Hid P := Lib.hid (by
          rw [HQ.out]
          exact ⟨fun p hp => by
            simp only [List.mem_cons, List.not_mem_nil, or_false] at hp
            rcases hp with rfl | rfl
            · exact (HC0.out.1 (by first | rfl | trivial))
            · exact (HC1.out.1 (by first | rfl | trivial)),
            (fun hh => by omega)⟩)
        clear HQ
        have y0 : w4.cell? ⟨pb, 0, none⟩ = some (.int .i64 5) := HB.out.cell 0 rfl
        go_wp2_with fail
        go_ret
        exact BoolQ.yes HZ.out HO.out
  by_cases k6 : k = 6
  · subst k6
    have HQ : Hid (P = ((∀ p ∈ ([.int mO .off, .text 0 1024] : List Pt), okP p (⟨6, st, off, S, fin, mx, cd, uni, dl, rg, sq, rt, cid⟩ : Fr)) ∧ ((6 : Int) = 6 ∨ (6 : Int) = 8 → off + S.length ≤ 1099511627776))) := Lib.hid (HP.out.symm.trans (propext (valR_at (f := (⟨6, st, off, S, fin, mx, cd, uni, dl, rg, sq, rt, cid⟩ : Fr)) rfl)))
    clear HP
    clear HL
    cases z0 with
    | false =>
      have y0 : wc.cell? ⟨pb, 0, none⟩ = some (.int .i64 6) := HB.out.cell 0 rfl
      have HZ : Hid (¬ P) := Lib.hid (by rw [HQ.out]; intro x; have h1 := x.1 (.int mO .off) (by simp); have h2 := x.1 (.text 0 1024) (by simp); exact absurd (hz0.out.2 ⟨h1, h2.2, x.2 (by first | omega | trivial | simp)⟩) (by simp))
      clear HQ
      go_wp2_with fail
      go_ret
      exact BoolQ.no HZ.out HO.out
    | true =>
      have HZ : Hid P := Lib.hid (by
        rw [HQ.out]
        exact ⟨fun p hp => by
          simp only [List.mem_cons, List.not_mem_nil, or_false] at hp
          rcases hp with rfl | rfl
          · exact (hz0.out.1 (by first | rfl | trivial)).1
          · exact ⟨Nat.zero_le _, (hz0.out.1 (by first | rfl | trivial)).2.1⟩,
          (fun hh => (hz0.out.1 (by first | rfl | trivial)).2.2)⟩)
      clear HQ
      have y0 : wc.cell? ⟨pb, 0, none⟩ = some (.int .i64 6) := HB.out.cell 0 rfl
      go_wp2_with fail
      go_ret
      exact BoolQ.yes HZ.out HO.out
  by_cases k7 : k = 7
  · subst k7
    have HQ : Hid (P = ((∀ p ∈ ([.text 1 128] : List Pt), okP p (⟨7, st, off, S, fin, mx, cd, uni, dl, rg, sq, rt, cid⟩ : Fr)) ∧ ((7 : Int) = 6 ∨ (7 : Int) = 8 → off + S.length ≤ 1099511627776))) := Lib.hid (HP.out.symm.trans (propext (valR_at (f := (⟨7, st, off, S, fin, mx, cd, uni, dl, rg, sq, rt, cid⟩ : Fr)) rfl)))
    clear HP
    clear HL
    by_cases q0 : 1 ≤ S.length
    · skip
      have e0 : decide (1 ≤ (S.length : Int)) = true := decide_eq_true (by omega)
      by_cases q1 : S.length ≤ 128
      · skip
        have e1 : decide ((S.length : Int) ≤ 128) = true := decide_eq_true (by omega)
        have HZ : Hid P := Lib.hid (by
          rw [HQ.out]
          exact ⟨fun p hp => by
            simp only [List.mem_cons, List.not_mem_nil, or_false] at hp
            subst hp
            · exact ⟨q0, q1⟩,
            (fun hh => by omega)⟩)
        clear HQ
        clear q1
        have y0 : wc.cell? ⟨pb, 0, none⟩ = some (.int .i64 7) := HB.out.cell 0 rfl
        have y3 : wc.cell? ⟨pb, 3, none⟩ = some (.string (strB S)) := HB.out.cell 3 rfl
        go_wp2_with fail
        go_ret
        exact BoolQ.yes HZ.out HO.out
      · skip
        have e1 : decide ((S.length : Int) ≤ 128) = false := decide_eq_false (by omega)
        have y0 : wc.cell? ⟨pb, 0, none⟩ = some (.int .i64 7) := HB.out.cell 0 rfl
        have y3 : wc.cell? ⟨pb, 3, none⟩ = some (.string (strB S)) := HB.out.cell 3 rfl
        have HZ : Hid (¬ P) := Lib.hid (by rw [HQ.out]; intro x; exact q1 ((x.1 (.text 1 128) (by simp)).2))
        clear HQ q1
        go_wp2_with fail
        go_ret
        exact BoolQ.no HZ.out HO.out
    · skip
      have e0 : decide (1 ≤ (S.length : Int)) = false := decide_eq_false (by omega)
      have y0 : wc.cell? ⟨pb, 0, none⟩ = some (.int .i64 7) := HB.out.cell 0 rfl
      have y3 : wc.cell? ⟨pb, 3, none⟩ = some (.string (strB S)) := HB.out.cell 3 rfl
      have HZ : Hid (¬ P) := Lib.hid (by rw [HQ.out]; intro x; exact q0 ((x.1 (.text 1 128) (by simp)).1))
      clear HQ q0
      go_wp2_with fail
      go_ret
      exact BoolQ.no HZ.out HO.out
  by_cases k8 : k = 8
  · subst k8
    have HQ : Hid (P = ((∀ p ∈ ([.int mV .st, .int mO .off, .text 0 1024] : List Pt), okP p (⟨8, st, off, S, fin, mx, cd, uni, dl, rg, sq, rt, cid⟩ : Fr)) ∧ ((8 : Int) = 6 ∨ (8 : Int) = 8 → off + S.length ≤ 1099511627776))) := Lib.hid (HP.out.symm.trans (propext (valR_at (f := (⟨8, st, off, S, fin, mx, cd, uni, dl, rg, sq, rt, cid⟩ : Fr)) rfl)))
    clear HP
    clear HL
    have y0 : wc.cell? ⟨pb, 0, none⟩ = some (.int .i64 8) := HB.out.cell 0 rfl
    have y1 : wc.cell? ⟨pb, 1, none⟩ = some (.int .i64 st) := HB.out.cell 1 rfl
    go_wp2_with fail
    refine (rnumber_c st 4611686018427387903 _).mono ?_
    rintro e w3 ⟨z, rfl, hz, ho⟩
    clear y0 y1
    replace HB := Lib.hid (HB.out.keep ho (by simp))
    replace HO := Lib.hid (HO.out.trans ho)
    clear ho
    have HC0 := Lib.hid hz
    clear hz
    cases z with
    | false =>
      have y0 : w3.cell? ⟨pb, 0, none⟩ = some (.int .i64 8) := HB.out.cell 0 rfl
      have HZ : Hid (¬ P) := Lib.hid (by rw [HQ.out]; intro x; exact absurd (HC0.out.2 (x.1 (.int mV .st) (by simp))) (by simp))
      clear HQ
      go_wp2_with fail
      go_ret
      exact BoolQ.no HZ.out HO.out
    | true =>
      cases z0 with
      | false =>
        have y0 : w3.cell? ⟨pb, 0, none⟩ = some (.int .i64 8) := HB.out.cell 0 rfl
        have HZ : Hid (¬ P) := Lib.hid (by rw [HQ.out]; intro x; have h1 := x.1 (.int mO .off) (by simp); have h2 := x.1 (.text 0 1024) (by simp); exact absurd (hz0.out.2 ⟨h1, h2.2, x.2 (by first | omega | trivial | simp)⟩) (by simp))
        clear HQ
        go_wp2_with fail
        go_ret
        exact BoolQ.no HZ.out HO.out
      | true =>
        have HZ : Hid P := Lib.hid (by
          rw [HQ.out]
          exact ⟨fun p hp => by
            simp only [List.mem_cons, List.not_mem_nil, or_false] at hp
            rcases hp with rfl | rfl | rfl
            · exact (HC0.out.1 (by first | rfl | trivial))
            · exact (hz0.out.1 (by first | rfl | trivial)).1
            · exact ⟨Nat.zero_le _, (hz0.out.1 (by first | rfl | trivial)).2.1⟩,
            (fun hh => (hz0.out.1 (by first | rfl | trivial)).2.2)⟩)
        clear HQ
        have y0 : w3.cell? ⟨pb, 0, none⟩ = some (.int .i64 8) := HB.out.cell 0 rfl
        go_wp2_with fail
        go_ret
        exact BoolQ.yes HZ.out HO.out
  by_cases k16 : k = 16
  · subst k16
    have HQ : Hid (P = ((∀ p ∈ ([.int mV .mx] : List Pt), okP p (⟨16, st, off, S, fin, mx, cd, uni, dl, rg, sq, rt, cid⟩ : Fr)) ∧ ((16 : Int) = 6 ∨ (16 : Int) = 8 → off + S.length ≤ 1099511627776))) := Lib.hid (HP.out.symm.trans (propext (valR_at (f := (⟨16, st, off, S, fin, mx, cd, uni, dl, rg, sq, rt, cid⟩ : Fr)) rfl)))
    clear HP
    clear HL
    have y0 : wc.cell? ⟨pb, 0, none⟩ = some (.int .i64 16) := HB.out.cell 0 rfl
    have y5 : wc.cell? ⟨pb, 5, none⟩ = some (.int .i64 mx) := HB.out.cell 5 rfl
    go_wp2_with fail
    refine (rnumber_c mx 4611686018427387903 _).mono ?_
    rintro e w3 ⟨z, rfl, hz, ho⟩
    clear y0 y5
    replace HB := Lib.hid (HB.out.keep ho (by simp))
    replace HO := Lib.hid (HO.out.trans ho)
    clear ho
    have HC0 := Lib.hid hz
    clear hz
    cases z with
    | false =>
      have y0 : w3.cell? ⟨pb, 0, none⟩ = some (.int .i64 16) := HB.out.cell 0 rfl
      have HZ : Hid (¬ P) := Lib.hid (by rw [HQ.out]; intro x; exact absurd (HC0.out.2 (x.1 (.int mV .mx) (by simp))) (by simp))
      clear HQ
      go_wp2_with fail
      go_ret
      exact BoolQ.no HZ.out HO.out
    | true =>
      have HZ : Hid P := Lib.hid (by
        rw [HQ.out]
        exact ⟨fun p hp => by
          simp only [List.mem_cons, List.not_mem_nil, or_false] at hp
          subst hp
          · exact (HC0.out.1 (by first | rfl | trivial)),
          (fun hh => by omega)⟩)
      clear HQ
      have y0 : w3.cell? ⟨pb, 0, none⟩ = some (.int .i64 16) := HB.out.cell 0 rfl
      go_wp2_with fail
      go_ret
      exact BoolQ.yes HZ.out HO.out
  by_cases k20 : k = 20
  · subst k20
    have HQ : Hid (P = ((∀ p ∈ ([.int mV .mx] : List Pt), okP p (⟨20, st, off, S, fin, mx, cd, uni, dl, rg, sq, rt, cid⟩ : Fr)) ∧ ((20 : Int) = 6 ∨ (20 : Int) = 8 → off + S.length ≤ 1099511627776))) := Lib.hid (HP.out.symm.trans (propext (valR_at (f := (⟨20, st, off, S, fin, mx, cd, uni, dl, rg, sq, rt, cid⟩ : Fr)) rfl)))
    clear HP
    clear HL
    have y0 : wc.cell? ⟨pb, 0, none⟩ = some (.int .i64 20) := HB.out.cell 0 rfl
    have y5 : wc.cell? ⟨pb, 5, none⟩ = some (.int .i64 mx) := HB.out.cell 5 rfl
    go_wp2_with fail
    refine (rnumber_c mx 4611686018427387903 _).mono ?_
    rintro e w3 ⟨z, rfl, hz, ho⟩
    clear y0 y5
    replace HB := Lib.hid (HB.out.keep ho (by simp))
    replace HO := Lib.hid (HO.out.trans ho)
    clear ho
    have HC0 := Lib.hid hz
    clear hz
    cases z with
    | false =>
      have y0 : w3.cell? ⟨pb, 0, none⟩ = some (.int .i64 20) := HB.out.cell 0 rfl
      have HZ : Hid (¬ P) := Lib.hid (by rw [HQ.out]; intro x; exact absurd (HC0.out.2 (x.1 (.int mV .mx) (by simp))) (by simp))
      clear HQ
      go_wp2_with fail
      go_ret
      exact BoolQ.no HZ.out HO.out
    | true =>
      have HZ : Hid P := Lib.hid (by
        rw [HQ.out]
        exact ⟨fun p hp => by
          simp only [List.mem_cons, List.not_mem_nil, or_false] at hp
          subst hp
          · exact (HC0.out.1 (by first | rfl | trivial)),
          (fun hh => by omega)⟩)
      clear HQ
      have y0 : w3.cell? ⟨pb, 0, none⟩ = some (.int .i64 20) := HB.out.cell 0 rfl
      go_wp2_with fail
      go_ret
      exact BoolQ.yes HZ.out HO.out
  by_cases k18 : k = 18
  · subst k18
    have HQ : Hid (P = ((∀ p ∈ ([.uni, .int mV .mx] : List Pt), okP p (⟨18, st, off, S, fin, mx, cd, uni, dl, rg, sq, rt, cid⟩ : Fr)) ∧ ((18 : Int) = 6 ∨ (18 : Int) = 8 → off + S.length ≤ 1099511627776))) := Lib.hid (HP.out.symm.trans (propext (valR_at (f := (⟨18, st, off, S, fin, mx, cd, uni, dl, rg, sq, rt, cid⟩ : Fr)) rfl)))
    clear HP
    clear HL
    have y0 : wc.cell? ⟨pb, 0, none⟩ = some (.int .i64 18) := HB.out.cell 0 rfl
    have y5 : wc.cell? ⟨pb, 5, none⟩ = some (.int .i64 mx) := HB.out.cell 5 rfl
    go_wp2_with fail
    refine (rnumber_c mx 4611686018427387903 _).mono ?_
    rintro e w3 ⟨z, rfl, hz, ho⟩
    clear y0 y5
    replace HB := Lib.hid (HB.out.keep ho (by simp))
    replace HO := Lib.hid (HO.out.trans ho)
    clear ho
    have HC0 := Lib.hid hz
    clear hz
    cases z with
    | false =>
      have y0 : w3.cell? ⟨pb, 0, none⟩ = some (.int .i64 18) := HB.out.cell 0 rfl
      have HZ : Hid (¬ P) := Lib.hid (by rw [HQ.out]; intro x; exact absurd (HC0.out.2 (x.1 (.int mV .mx) (by simp))) (by simp))
      clear HQ
      go_wp2_with fail
      go_ret
      exact BoolQ.no HZ.out HO.out
    | true =>
      have HZ : Hid P := Lib.hid (by
        rw [HQ.out]
        exact ⟨fun p hp => by
          simp only [List.mem_cons, List.not_mem_nil, or_false] at hp
          rcases hp with rfl | rfl
          · exact trivial
          · exact (HC0.out.1 (by first | rfl | trivial)),
          (fun hh => by omega)⟩)
      clear HQ
      have y0 : w3.cell? ⟨pb, 0, none⟩ = some (.int .i64 18) := HB.out.cell 0 rfl
      go_wp2_with fail
      go_ret
      exact BoolQ.yes HZ.out HO.out
  by_cases k22 : k = 22
  · subst k22
    have HQ : Hid (P = ((∀ p ∈ ([.uni, .int mV .mx] : List Pt), okP p (⟨22, st, off, S, fin, mx, cd, uni, dl, rg, sq, rt, cid⟩ : Fr)) ∧ ((22 : Int) = 6 ∨ (22 : Int) = 8 → off + S.length ≤ 1099511627776))) := Lib.hid (HP.out.symm.trans (propext (valR_at (f := (⟨22, st, off, S, fin, mx, cd, uni, dl, rg, sq, rt, cid⟩ : Fr)) rfl)))
    clear HP
    clear HL
    have y0 : wc.cell? ⟨pb, 0, none⟩ = some (.int .i64 22) := HB.out.cell 0 rfl
    have y5 : wc.cell? ⟨pb, 5, none⟩ = some (.int .i64 mx) := HB.out.cell 5 rfl
    go_wp2_with fail
    refine (rnumber_c mx 4611686018427387903 _).mono ?_
    rintro e w3 ⟨z, rfl, hz, ho⟩
    clear y0 y5
    replace HB := Lib.hid (HB.out.keep ho (by simp))
    replace HO := Lib.hid (HO.out.trans ho)
    clear ho
    have HC0 := Lib.hid hz
    clear hz
    cases z with
    | false =>
      have y0 : w3.cell? ⟨pb, 0, none⟩ = some (.int .i64 22) := HB.out.cell 0 rfl
      have HZ : Hid (¬ P) := Lib.hid (by rw [HQ.out]; intro x; exact absurd (HC0.out.2 (x.1 (.int mV .mx) (by simp))) (by simp))
      clear HQ
      go_wp2_with fail
      go_ret
      exact BoolQ.no HZ.out HO.out
    | true =>
      have HZ : Hid P := Lib.hid (by
        rw [HQ.out]
        exact ⟨fun p hp => by
          simp only [List.mem_cons, List.not_mem_nil, or_false] at hp
          rcases hp with rfl | rfl
          · exact trivial
          · exact (HC0.out.1 (by first | rfl | trivial)),
          (fun hh => by omega)⟩)
      clear HQ
      have y0 : w3.cell? ⟨pb, 0, none⟩ = some (.int .i64 22) := HB.out.cell 0 rfl
      go_wp2_with fail
      go_ret
      exact BoolQ.yes HZ.out HO.out
  by_cases k17 : k = 17
  · subst k17
    have HQ : Hid (P = ((∀ p ∈ ([.int mV .st, .int mV .mx] : List Pt), okP p (⟨17, st, off, S, fin, mx, cd, uni, dl, rg, sq, rt, cid⟩ : Fr)) ∧ ((17 : Int) = 6 ∨ (17 : Int) = 8 → off + S.length ≤ 1099511627776))) := Lib.hid (HP.out.symm.trans (propext (valR_at (f := (⟨17, st, off, S, fin, mx, cd, uni, dl, rg, sq, rt, cid⟩ : Fr)) rfl)))
    clear HP
    clear HL
    have y0 : wc.cell? ⟨pb, 0, none⟩ = some (.int .i64 17) := HB.out.cell 0 rfl
    have y1 : wc.cell? ⟨pb, 1, none⟩ = some (.int .i64 st) := HB.out.cell 1 rfl
    have y5 : wc.cell? ⟨pb, 5, none⟩ = some (.int .i64 mx) := HB.out.cell 5 rfl
    go_wp2_with fail
    refine (rnumber_c st 4611686018427387903 _).mono ?_
    rintro e w3 ⟨z, rfl, hz, ho⟩
    clear y0 y1 y5
    replace HB := Lib.hid (HB.out.keep ho (by simp))
    replace HO := Lib.hid (HO.out.trans ho)
    clear ho
    have HC0 := Lib.hid hz
    clear hz
    cases z with
    | false =>
      have y0 : w3.cell? ⟨pb, 0, none⟩ = some (.int .i64 17) := HB.out.cell 0 rfl
      have y5 : w3.cell? ⟨pb, 5, none⟩ = some (.int .i64 mx) := HB.out.cell 5 rfl
      have HZ : Hid (¬ P) := Lib.hid (by rw [HQ.out]; intro x; exact absurd (HC0.out.2 (x.1 (.int mV .st) (by simp))) (by simp))
      clear HQ
      go_wp2_with fail
      go_ret
      exact BoolQ.no HZ.out HO.out
    | true =>
      have y0 : w3.cell? ⟨pb, 0, none⟩ = some (.int .i64 17) := HB.out.cell 0 rfl
      have y5 : w3.cell? ⟨pb, 5, none⟩ = some (.int .i64 mx) := HB.out.cell 5 rfl
      go_wp2_with fail
      refine (rnumber_c mx 4611686018427387903 _).mono ?_
      rintro e w4 ⟨z, rfl, hz, ho⟩
      clear y0 y5
      replace HB := Lib.hid (HB.out.keep ho (by simp))
      replace HO := Lib.hid (HO.out.trans ho)
      clear ho
      have HC1 := Lib.hid hz
      clear hz
      cases z with
      | false =>
        have y0 : w4.cell? ⟨pb, 0, none⟩ = some (.int .i64 17) := HB.out.cell 0 rfl
        have HZ : Hid (¬ P) := Lib.hid (by rw [HQ.out]; intro x; exact absurd (HC1.out.2 (x.1 (.int mV .mx) (by simp))) (by simp))
        clear HQ
        go_wp2_with fail
        go_ret
        exact BoolQ.no HZ.out HO.out
      | true =>
        have HZ : Hid P := Lib.hid (by
          rw [HQ.out]
          exact ⟨fun p hp => by
            simp only [List.mem_cons, List.not_mem_nil, or_false] at hp
            rcases hp with rfl | rfl
            · exact (HC0.out.1 (by first | rfl | trivial))
            · exact (HC1.out.1 (by first | rfl | trivial)),
            (fun hh => by omega)⟩)
        clear HQ
        have y0 : w4.cell? ⟨pb, 0, none⟩ = some (.int .i64 17) := HB.out.cell 0 rfl
        go_wp2_with fail
        go_ret
        exact BoolQ.yes HZ.out HO.out
  by_cases k21 : k = 21
  · subst k21
    have HQ : Hid (P = ((∀ p ∈ ([.int mV .st, .int mV .mx] : List Pt), okP p (⟨21, st, off, S, fin, mx, cd, uni, dl, rg, sq, rt, cid⟩ : Fr)) ∧ ((21 : Int) = 6 ∨ (21 : Int) = 8 → off + S.length ≤ 1099511627776))) := Lib.hid (HP.out.symm.trans (propext (valR_at (f := (⟨21, st, off, S, fin, mx, cd, uni, dl, rg, sq, rt, cid⟩ : Fr)) rfl)))
    clear HP
    clear HL
    have y0 : wc.cell? ⟨pb, 0, none⟩ = some (.int .i64 21) := HB.out.cell 0 rfl
    have y1 : wc.cell? ⟨pb, 1, none⟩ = some (.int .i64 st) := HB.out.cell 1 rfl
    have y5 : wc.cell? ⟨pb, 5, none⟩ = some (.int .i64 mx) := HB.out.cell 5 rfl
    go_wp2_with fail
    refine (rnumber_c st 4611686018427387903 _).mono ?_
    rintro e w3 ⟨z, rfl, hz, ho⟩
    clear y0 y1 y5
    replace HB := Lib.hid (HB.out.keep ho (by simp))
    replace HO := Lib.hid (HO.out.trans ho)
    clear ho
    have HC0 := Lib.hid hz
    clear hz
    cases z with
    | false =>
      have y0 : w3.cell? ⟨pb, 0, none⟩ = some (.int .i64 21) := HB.out.cell 0 rfl
      have y5 : w3.cell? ⟨pb, 5, none⟩ = some (.int .i64 mx) := HB.out.cell 5 rfl
      have HZ : Hid (¬ P) := Lib.hid (by rw [HQ.out]; intro x; exact absurd (HC0.out.2 (x.1 (.int mV .st) (by simp))) (by simp))
      clear HQ
      go_wp2_with fail
      go_ret
      exact BoolQ.no HZ.out HO.out
    | true =>
      have y0 : w3.cell? ⟨pb, 0, none⟩ = some (.int .i64 21) := HB.out.cell 0 rfl
      have y5 : w3.cell? ⟨pb, 5, none⟩ = some (.int .i64 mx) := HB.out.cell 5 rfl
      go_wp2_with fail
      refine (rnumber_c mx 4611686018427387903 _).mono ?_
      rintro e w4 ⟨z, rfl, hz, ho⟩
      clear y0 y5
      replace HB := Lib.hid (HB.out.keep ho (by simp))
      replace HO := Lib.hid (HO.out.trans ho)
      clear ho
      have HC1 := Lib.hid hz
      clear hz
      cases z with
      | false =>
        have y0 : w4.cell? ⟨pb, 0, none⟩ = some (.int .i64 21) := HB.out.cell 0 rfl
        have HZ : Hid (¬ P) := Lib.hid (by rw [HQ.out]; intro x; exact absurd (HC1.out.2 (x.1 (.int mV .mx) (by simp))) (by simp))
        clear HQ
        go_wp2_with fail
        go_ret
        exact BoolQ.no HZ.out HO.out
      | true =>
        have HZ : Hid P := Lib.hid (by
          rw [HQ.out]
          exact ⟨fun p hp => by
            simp only [List.mem_cons, List.not_mem_nil, or_false] at hp
            rcases hp with rfl | rfl
            · exact (HC0.out.1 (by first | rfl | trivial))
            · exact (HC1.out.1 (by first | rfl | trivial)),
            (fun hh => by omega)⟩)
        clear HQ
        have y0 : w4.cell? ⟨pb, 0, none⟩ = some (.int .i64 21) := HB.out.cell 0 rfl
        go_wp2_with fail
        go_ret
        exact BoolQ.yes HZ.out HO.out
  by_cases k24 : k = 24
  · subst k24
    have HQ : Hid (P = ((∀ p ∈ ([.int mV .sq, .retire, .cidp] : List Pt), okP p (⟨24, st, off, S, fin, mx, cd, uni, dl, rg, sq, rt, cid⟩ : Fr)) ∧ ((24 : Int) = 6 ∨ (24 : Int) = 8 → off + S.length ≤ 1099511627776))) := Lib.hid (HP.out.symm.trans (propext (valR_at (f := (⟨24, st, off, S, fin, mx, cd, uni, dl, rg, sq, rt, cid⟩ : Fr)) rfl)))
    clear HP
    clear HL
    have y0 : wc.cell? ⟨pb, 0, none⟩ = some (.int .i64 24) := HB.out.cell 0 rfl
    have y10 : wc.cell? ⟨pb, 10, none⟩ = some (.int .i64 sq) := HB.out.cell 10 rfl
    have y11 : wc.cell? ⟨pb, 11, none⟩ = some (.int .i64 rt) := HB.out.cell 11 rfl
    have y12 : wc.cell? ⟨pb, 12, none⟩ = some (.string (strB cid)) := HB.out.cell 12 rfl
    go_wp2_with fail
    refine (rnumber_c sq 4611686018427387903 _).mono ?_
    rintro e w3 ⟨z, rfl, hz, ho⟩
    clear y0 y10 y11 y12
    replace HB := Lib.hid (HB.out.keep ho (by simp))
    replace HO := Lib.hid (HO.out.trans ho)
    clear ho
    have HC0 := Lib.hid hz
    clear hz
    cases z with
    | false =>
      have y0 : w3.cell? ⟨pb, 0, none⟩ = some (.int .i64 24) := HB.out.cell 0 rfl
      have y10 : w3.cell? ⟨pb, 10, none⟩ = some (.int .i64 sq) := HB.out.cell 10 rfl
      have y11 : w3.cell? ⟨pb, 11, none⟩ = some (.int .i64 rt) := HB.out.cell 11 rfl
      have y12 : w3.cell? ⟨pb, 12, none⟩ = some (.string (strB cid)) := HB.out.cell 12 rfl
      have HZ : Hid (¬ P) := Lib.hid (by rw [HQ.out]; intro x; exact absurd (HC0.out.2 (x.1 (.int mV .sq) (by simp))) (by simp))
      clear HQ
      go_wp2_with fail
      go_ret
      exact BoolQ.no HZ.out HO.out
    | true =>
      have y0 : w3.cell? ⟨pb, 0, none⟩ = some (.int .i64 24) := HB.out.cell 0 rfl
      have y10 : w3.cell? ⟨pb, 10, none⟩ = some (.int .i64 sq) := HB.out.cell 10 rfl
      have y11 : w3.cell? ⟨pb, 11, none⟩ = some (.int .i64 rt) := HB.out.cell 11 rfl
      have y12 : w3.cell? ⟨pb, 12, none⟩ = some (.string (strB cid)) := HB.out.cell 12 rfl
      go_wp2_with fail
      refine (rnumber_c rt sq _).mono ?_
      rintro e w4 ⟨z, rfl, hz, ho⟩
      clear y0 y10 y11 y12
      replace HB := Lib.hid (HB.out.keep ho (by simp))
      replace HO := Lib.hid (HO.out.trans ho)
      clear ho
      have HC1 := Lib.hid hz
      clear hz
      cases z with
      | false =>
        have y0 : w4.cell? ⟨pb, 0, none⟩ = some (.int .i64 24) := HB.out.cell 0 rfl
        have y12 : w4.cell? ⟨pb, 12, none⟩ = some (.string (strB cid)) := HB.out.cell 12 rfl
        have HZ : Hid (¬ P) := Lib.hid (by rw [HQ.out]; intro x; exact absurd (HC1.out.2 (x.1 (.retire) (by simp))) (by simp))
        clear HQ
        go_wp2_with fail
        go_ret
        exact BoolQ.no HZ.out HO.out
      | true =>
        by_cases q2 : cid.length = 8
        · skip
          have e2 : ((cid.length : Int) == 8) = true := by simp; omega
          have HZ : Hid P := Lib.hid (by
            rw [HQ.out]
            exact ⟨fun p hp => by
              simp only [List.mem_cons, List.not_mem_nil, or_false] at hp
              rcases hp with rfl | rfl | rfl
              · exact (HC0.out.1 (by first | rfl | trivial))
              · exact (HC1.out.1 (by first | rfl | trivial))
              · exact q2,
              (fun hh => by omega)⟩)
          clear HQ
          clear q2
          have y0 : w4.cell? ⟨pb, 0, none⟩ = some (.int .i64 24) := HB.out.cell 0 rfl
          have y12 : w4.cell? ⟨pb, 12, none⟩ = some (.string (strB cid)) := HB.out.cell 12 rfl
          go_wp2_with fail
          go_ret
          exact BoolQ.yes HZ.out HO.out
        · skip
          have e2 : ((cid.length : Int) == 8) = false := by simp; omega
          have y0 : w4.cell? ⟨pb, 0, none⟩ = some (.int .i64 24) := HB.out.cell 0 rfl
          have y12 : w4.cell? ⟨pb, 12, none⟩ = some (.string (strB cid)) := HB.out.cell 12 rfl
          have HZ : Hid (¬ P) := Lib.hid (by rw [HQ.out]; intro x; exact q2 (x.1 .cidp (by simp)))
          clear HQ q2
          go_wp2_with fail
          go_ret
          exact BoolQ.no HZ.out HO.out
  by_cases k25 : k = 25
  · subst k25
    have HQ : Hid (P = ((∀ p ∈ ([.int mV .sq] : List Pt), okP p (⟨25, st, off, S, fin, mx, cd, uni, dl, rg, sq, rt, cid⟩ : Fr)) ∧ ((25 : Int) = 6 ∨ (25 : Int) = 8 → off + S.length ≤ 1099511627776))) := Lib.hid (HP.out.symm.trans (propext (valR_at (f := (⟨25, st, off, S, fin, mx, cd, uni, dl, rg, sq, rt, cid⟩ : Fr)) rfl)))
    clear HP
    clear HL
    have y0 : wc.cell? ⟨pb, 0, none⟩ = some (.int .i64 25) := HB.out.cell 0 rfl
    have y10 : wc.cell? ⟨pb, 10, none⟩ = some (.int .i64 sq) := HB.out.cell 10 rfl
    go_wp2_with fail
    refine (rnumber_c sq 4611686018427387903 _).mono ?_
    rintro e w3 ⟨z, rfl, hz, ho⟩
    clear y0 y10
    replace HB := Lib.hid (HB.out.keep ho (by simp))
    replace HO := Lib.hid (HO.out.trans ho)
    clear ho
    have HC0 := Lib.hid hz
    clear hz
    cases z with
    | false =>
      have y0 : w3.cell? ⟨pb, 0, none⟩ = some (.int .i64 25) := HB.out.cell 0 rfl
      have HZ : Hid (¬ P) := Lib.hid (by rw [HQ.out]; intro x; exact absurd (HC0.out.2 (x.1 (.int mV .sq) (by simp))) (by simp))
      clear HQ
      go_wp2_with fail
      go_ret
      exact BoolQ.no HZ.out HO.out
    | true =>
      have HZ : Hid P := Lib.hid (by
        rw [HQ.out]
        exact ⟨fun p hp => by
          simp only [List.mem_cons, List.not_mem_nil, or_false] at hp
          subst hp
          · exact (HC0.out.1 (by first | rfl | trivial)),
          (fun hh => by omega)⟩)
      clear HQ
      have y0 : w3.cell? ⟨pb, 0, none⟩ = some (.int .i64 25) := HB.out.cell 0 rfl
      go_wp2_with fail
      go_ret
      exact BoolQ.yes HZ.out HO.out
  by_cases k26 : k = 26
  · subst k26
    have HQ : Hid (P = ((∀ p ∈ ([.chal] : List Pt), okP p (⟨26, st, off, S, fin, mx, cd, uni, dl, rg, sq, rt, cid⟩ : Fr)) ∧ ((26 : Int) = 6 ∨ (26 : Int) = 8 → off + S.length ≤ 1099511627776))) := Lib.hid (HP.out.symm.trans (propext (valR_at (f := (⟨26, st, off, S, fin, mx, cd, uni, dl, rg, sq, rt, cid⟩ : Fr)) rfl)))
    clear HP
    clear HL
    by_cases q0 : S.length = 8
    · skip
      have e0 : ((S.length : Int) == 8) = true := by simp; omega
      have HZ : Hid P := Lib.hid (by
        rw [HQ.out]
        exact ⟨fun p hp => by
          simp only [List.mem_cons, List.not_mem_nil, or_false] at hp
          subst hp
          · exact q0,
          (fun hh => by omega)⟩)
      clear HQ
      clear q0
      have y0 : wc.cell? ⟨pb, 0, none⟩ = some (.int .i64 26) := HB.out.cell 0 rfl
      have y3 : wc.cell? ⟨pb, 3, none⟩ = some (.string (strB S)) := HB.out.cell 3 rfl
      go_wp2_with fail
      go_ret
      exact BoolQ.yes HZ.out HO.out
    · skip
      have e0 : ((S.length : Int) == 8) = false := by simp; omega
      have y0 : wc.cell? ⟨pb, 0, none⟩ = some (.int .i64 26) := HB.out.cell 0 rfl
      have y3 : wc.cell? ⟨pb, 3, none⟩ = some (.string (strB S)) := HB.out.cell 3 rfl
      have HZ : Hid (¬ P) := Lib.hid (by rw [HQ.out]; intro x; exact q0 (x.1 .chal (by simp)))
      clear HQ q0
      go_wp2_with fail
      go_ret
      exact BoolQ.no HZ.out HO.out
  by_cases k27 : k = 27
  · subst k27
    have HQ : Hid (P = ((∀ p ∈ ([.chal] : List Pt), okP p (⟨27, st, off, S, fin, mx, cd, uni, dl, rg, sq, rt, cid⟩ : Fr)) ∧ ((27 : Int) = 6 ∨ (27 : Int) = 8 → off + S.length ≤ 1099511627776))) := Lib.hid (HP.out.symm.trans (propext (valR_at (f := (⟨27, st, off, S, fin, mx, cd, uni, dl, rg, sq, rt, cid⟩ : Fr)) rfl)))
    clear HP
    clear HL
    by_cases q0 : S.length = 8
    · skip
      have e0 : ((S.length : Int) == 8) = true := by simp; omega
      have HZ : Hid P := Lib.hid (by
        rw [HQ.out]
        exact ⟨fun p hp => by
          simp only [List.mem_cons, List.not_mem_nil, or_false] at hp
          subst hp
          · exact q0,
          (fun hh => by omega)⟩)
      clear HQ
      clear q0
      have y0 : wc.cell? ⟨pb, 0, none⟩ = some (.int .i64 27) := HB.out.cell 0 rfl
      have y3 : wc.cell? ⟨pb, 3, none⟩ = some (.string (strB S)) := HB.out.cell 3 rfl
      go_wp2_with fail
      go_ret
      exact BoolQ.yes HZ.out HO.out
    · skip
      have e0 : ((S.length : Int) == 8) = false := by simp; omega
      have y0 : wc.cell? ⟨pb, 0, none⟩ = some (.int .i64 27) := HB.out.cell 0 rfl
      have y3 : wc.cell? ⟨pb, 3, none⟩ = some (.string (strB S)) := HB.out.cell 3 rfl
      have HZ : Hid (¬ P) := Lib.hid (by rw [HQ.out]; intro x; exact q0 (x.1 .chal (by simp)))
      clear HQ q0
      go_wp2_with fail
      go_ret
      exact BoolQ.no HZ.out HO.out
  by_cases k28 : k = 28
  · subst k28
    have HQ : Hid (P = ((∀ p ∈ ([.int mC .cd, .text 0 64] : List Pt), okP p (⟨28, st, off, S, fin, mx, cd, uni, dl, rg, sq, rt, cid⟩ : Fr)) ∧ ((28 : Int) = 6 ∨ (28 : Int) = 8 → off + S.length ≤ 1099511627776))) := Lib.hid (HP.out.symm.trans (propext (valR_at (f := (⟨28, st, off, S, fin, mx, cd, uni, dl, rg, sq, rt, cid⟩ : Fr)) rfl)))
    clear HP
    clear HL
    have y0 : wc.cell? ⟨pb, 0, none⟩ = some (.int .i64 28) := HB.out.cell 0 rfl
    have y3 : wc.cell? ⟨pb, 3, none⟩ = some (.string (strB S)) := HB.out.cell 3 rfl
    have y6 : wc.cell? ⟨pb, 6, none⟩ = some (.int .i64 cd) := HB.out.cell 6 rfl
    go_wp2_with fail
    refine (rnumber_c cd 1073741823 _).mono ?_
    rintro e w3 ⟨z, rfl, hz, ho⟩
    clear y0 y3 y6
    replace HB := Lib.hid (HB.out.keep ho (by simp))
    replace HO := Lib.hid (HO.out.trans ho)
    clear ho
    have HC0 := Lib.hid hz
    clear hz
    cases z with
    | false =>
      have y0 : w3.cell? ⟨pb, 0, none⟩ = some (.int .i64 28) := HB.out.cell 0 rfl
      have y3 : w3.cell? ⟨pb, 3, none⟩ = some (.string (strB S)) := HB.out.cell 3 rfl
      have HZ : Hid (¬ P) := Lib.hid (by rw [HQ.out]; intro x; exact absurd (HC0.out.2 (x.1 (.int mC .cd) (by simp))) (by simp))
      clear HQ
      go_wp2_with fail
      go_ret
      exact BoolQ.no HZ.out HO.out
    | true =>
      by_cases q1 : S.length ≤ 64
      · skip
        have e1 : decide ((S.length : Int) ≤ 64) = true := decide_eq_true (by omega)
        have HZ : Hid P := Lib.hid (by
          rw [HQ.out]
          exact ⟨fun p hp => by
            simp only [List.mem_cons, List.not_mem_nil, or_false] at hp
            rcases hp with rfl | rfl
            · exact (HC0.out.1 (by first | rfl | trivial))
            · exact ⟨Nat.zero_le _, q1⟩,
            (fun hh => by omega)⟩)
        clear HQ
        clear q1
        have y0 : w3.cell? ⟨pb, 0, none⟩ = some (.int .i64 28) := HB.out.cell 0 rfl
        have y3 : w3.cell? ⟨pb, 3, none⟩ = some (.string (strB S)) := HB.out.cell 3 rfl
        go_wp2_with fail
        go_ret
        exact BoolQ.yes HZ.out HO.out
      · skip
        have e1 : decide ((S.length : Int) ≤ 64) = false := decide_eq_false (by omega)
        have y0 : w3.cell? ⟨pb, 0, none⟩ = some (.int .i64 28) := HB.out.cell 0 rfl
        have y3 : w3.cell? ⟨pb, 3, none⟩ = some (.string (strB S)) := HB.out.cell 3 rfl
        have HZ : Hid (¬ P) := Lib.hid (by rw [HQ.out]; intro x; exact q1 ((x.1 (.text 0 64) (by simp)).2))
        clear HQ q1
        go_wp2_with fail
        go_ret
        exact BoolQ.no HZ.out HO.out
  by_cases k29 : k = 29
  · subst k29
    have HQ : Hid (P = ((∀ p ∈ ([.int mC .cd, .text 0 64] : List Pt), okP p (⟨29, st, off, S, fin, mx, cd, uni, dl, rg, sq, rt, cid⟩ : Fr)) ∧ ((29 : Int) = 6 ∨ (29 : Int) = 8 → off + S.length ≤ 1099511627776))) := Lib.hid (HP.out.symm.trans (propext (valR_at (f := (⟨29, st, off, S, fin, mx, cd, uni, dl, rg, sq, rt, cid⟩ : Fr)) rfl)))
    clear HP
    clear HL
    have y0 : wc.cell? ⟨pb, 0, none⟩ = some (.int .i64 29) := HB.out.cell 0 rfl
    have y3 : wc.cell? ⟨pb, 3, none⟩ = some (.string (strB S)) := HB.out.cell 3 rfl
    have y6 : wc.cell? ⟨pb, 6, none⟩ = some (.int .i64 cd) := HB.out.cell 6 rfl
    go_wp2_with fail
    refine (rnumber_c cd 1073741823 _).mono ?_
    rintro e w3 ⟨z, rfl, hz, ho⟩
    clear y0 y3 y6
    replace HB := Lib.hid (HB.out.keep ho (by simp))
    replace HO := Lib.hid (HO.out.trans ho)
    clear ho
    have HC0 := Lib.hid hz
    clear hz
    cases z with
    | false =>
      have y0 : w3.cell? ⟨pb, 0, none⟩ = some (.int .i64 29) := HB.out.cell 0 rfl
      have y3 : w3.cell? ⟨pb, 3, none⟩ = some (.string (strB S)) := HB.out.cell 3 rfl
      have HZ : Hid (¬ P) := Lib.hid (by rw [HQ.out]; intro x; exact absurd (HC0.out.2 (x.1 (.int mC .cd) (by simp))) (by simp))
      clear HQ
      go_wp2_with fail
      go_ret
      exact BoolQ.no HZ.out HO.out
    | true =>
      by_cases q1 : S.length ≤ 64
      · skip
        have e1 : decide ((S.length : Int) ≤ 64) = true := decide_eq_true (by omega)
        have HZ : Hid P := Lib.hid (by
          rw [HQ.out]
          exact ⟨fun p hp => by
            simp only [List.mem_cons, List.not_mem_nil, or_false] at hp
            rcases hp with rfl | rfl
            · exact (HC0.out.1 (by first | rfl | trivial))
            · exact ⟨Nat.zero_le _, q1⟩,
            (fun hh => by omega)⟩)
        clear HQ
        clear q1
        have y0 : w3.cell? ⟨pb, 0, none⟩ = some (.int .i64 29) := HB.out.cell 0 rfl
        have y3 : w3.cell? ⟨pb, 3, none⟩ = some (.string (strB S)) := HB.out.cell 3 rfl
        go_wp2_with fail
        go_ret
        exact BoolQ.yes HZ.out HO.out
      · skip
        have e1 : decide ((S.length : Int) ≤ 64) = false := decide_eq_false (by omega)
        have y0 : w3.cell? ⟨pb, 0, none⟩ = some (.int .i64 29) := HB.out.cell 0 rfl
        have y3 : w3.cell? ⟨pb, 3, none⟩ = some (.string (strB S)) := HB.out.cell 3 rfl
        have HZ : Hid (¬ P) := Lib.hid (by rw [HQ.out]; intro x; exact q1 ((x.1 (.text 0 64) (by simp)).2))
        clear HQ q1
        go_wp2_with fail
        go_ret
        exact BoolQ.no HZ.out HO.out
  have HN : Hid (¬ P) := Lib.hid (by
    rw [← HP.out]
    refine valR_no ?_
    show tab k = none
    unfold tab
    rw [if_neg k0, if_neg k1, if_neg k30, if_neg k2, if_neg k4, if_neg k5, if_neg k6, if_neg k7, if_neg k8, if_neg k16, if_neg k20, if_neg k17, if_neg k21, if_neg k18, if_neg k22, if_neg k24, if_neg k25, if_neg k26, if_neg k27, if_neg k28, if_neg k29])
  have b0 : (k == 0) = false := beq_eq_false_iff_ne.2 k0
  have b1 : (k == 1) = false := beq_eq_false_iff_ne.2 k1
  have b30 : (k == 30) = false := beq_eq_false_iff_ne.2 k30
  have b2 : (k == 2) = false := beq_eq_false_iff_ne.2 k2
  have b4 : (k == 4) = false := beq_eq_false_iff_ne.2 k4
  have b5 : (k == 5) = false := beq_eq_false_iff_ne.2 k5
  have b6 : (k == 6) = false := beq_eq_false_iff_ne.2 k6
  have b7 : (k == 7) = false := beq_eq_false_iff_ne.2 k7
  have b8 : (k == 8) = false := beq_eq_false_iff_ne.2 k8
  have b16 : (k == 16) = false := beq_eq_false_iff_ne.2 k16
  have b20 : (k == 20) = false := beq_eq_false_iff_ne.2 k20
  have b18 : (k == 18) = false := beq_eq_false_iff_ne.2 k18
  have b22 : (k == 22) = false := beq_eq_false_iff_ne.2 k22
  have b17 : (k == 17) = false := beq_eq_false_iff_ne.2 k17
  have b21 : (k == 21) = false := beq_eq_false_iff_ne.2 k21
  have b24 : (k == 24) = false := beq_eq_false_iff_ne.2 k24
  have b25 : (k == 25) = false := beq_eq_false_iff_ne.2 k25
  have b26 : (k == 26) = false := beq_eq_false_iff_ne.2 k26
  have b27 : (k == 27) = false := beq_eq_false_iff_ne.2 k27
  have b28 : (k == 28) = false := beq_eq_false_iff_ne.2 k28
  have b29 : (k == 29) = false := beq_eq_false_iff_ne.2 k29
  clear k0 k1 k30 k2 k4 k5 k6 k7 k8 k16 k20 k18 k22 k17 k21 k24 k25 k26 k27 k28 k29
  clear HL
  have y0 : wc.cell? ⟨pb, 0, none⟩ = some (.int .i64 k) := HB.out.cell 0 rfl
  go_wp2_with fail
  go_ret
  exact BoolQ.no HN.out HO.out
end Go.Proofs.Ytmmgmpghkpbgkaa
/- Contracts of the reference's frames: values of every kind, Valid. -/
namespace Go.Proofs.Ytmmgmpghkpbgkaa
open Go Go.RowKit
set_option linter.unusedVariables false
set_option linter.unusedSimpArgs false

theorem rvalues_c (f : Fr) (rv : Value) (w : World) (hF : FrOk w f rv) : Calls Try.prog 94 #[.agg (frC f rv)] w (BoolQ (valR f) w) := by
  obtain ⟨ra, rc, rfl, hcs⟩ := hF.rg
  have hL : RgAt w (.slice ra f.rg.length rc) f.rg := ⟨ra, rc, rfl, hcs⟩
  have hS := hF.wf.S
  have hsz := hF.sz
  clear hcs hF
  obtain ⟨k, st, off, S, fin, mx, cd, uni, dl, rg, sq, rt, cid⟩ := f
  simp only at hL hS hsz
  exact valk k st off mx cd dl sq rt fin uni S cid rg ra rc w hS hsz hL
theorem clrs_len (l : List Pt) : ∀ f : Fr, (clrs l f).rg.length ≤ f.rg.length := by
  induction l with
  | nil => intro f; exact Nat.le_refl _
  | cons p r ih =>
    intro f
    refine Nat.le_trans (ih _) ?_
    cases p with
    | int m x => cases x <;> exact Nat.le_refl _
    | ranges => exact Nat.zero_le _
    | _ => exact Nat.le_refl _
theorem used_len (f : Fr) : (usedR f).rg.length ≤ f.rg.length := clrs_len _ _
theorem fr0_ok (w : World) (k : Int) : RgAt w (.slice none 0 0) (Fr.zero k).rg := RgAt.nil w
set_option maxRecDepth 100000 in
set_option maxHeartbeats 4000000 in
theorem rvalid_c (f : Fr) (rv : Value) (w : World) (hF : FrOk w f rv) : Calls Try.prog 63 #[.agg (frC f rv)] w (BoolQ (∃ s, encF f = some s) w) := by
  obtain ⟨ra, rc, rfl, hcs⟩ := hF.rg
  obtain ⟨P, hP⟩ : ∃ P : Prop, (∃ s, encF f = some s) = P := ⟨_, rfl⟩
  have HP : Hid ((valR f ∧ usedR f = Fr.zero f.ty) = P) := Lib.hid ((propext (valid_iff f hF.inr)).trans hP)
  rw [hP]
  have HF := Lib.hid hF
  clear hP hcs hF
  have hvl := fun ww hh => rvalues_c f (.slice ra f.rg.length rc) ww hh
  have hus := fun ww hh => rused_c f (.slice ra f.rg.length rc) ww hh
  simp only [frC] at hvl hus ⊢
  go_enter Try.func63, Try.ntmps63
  go_upto_region 1 with fail
  have hx := At.new w 33 #[.int .i64 f.ty, .int .i64 f.st, .int .i64 f.off, .string (strB f.S), .bool f.fin, .int .i64 f.mx, .int .i64 f.cd, .bool f.uni, .int .i64 f.dl, .slice ra f.rg.length rc, .int .i64 f.sq, .int .i64 f.rt, .string (strB f.cid)]
  have hO := (Only.refl [] w).alloc (.cells #[.int .i64 f.ty, .int .i64 f.st, .int .i64 f.off, .string (strB f.S), .bool f.fin, .int .i64 f.mx, .int .i64 f.cd, .bool f.uni, .int .i64 f.dl, .slice ra f.rg.length rc, .int .i64 f.sq, .int .i64 f.rt, .string (strB f.cid)] 33)
  generalize w.alloc (.cells #[.int .i64 f.ty, .int .i64 f.st, .int .i64 f.off, .string (strB f.S), .bool f.fin, .int .i64 f.mx, .int .i64 f.cd, .bool f.uni, .int .i64 f.dl, .slice ra f.rg.length rc, .int .i64 f.sq, .int .i64 f.rt, .string (strB f.cid)] 33) = w1 at hx hO ⊢
  generalize w.heap.size = pb at hx ⊢
  have HB := Lib.hid hx
  have HO := Lib.hid hO
  clear hx hO
  have y0 : w1.cell? ⟨pb, 0, none⟩ = some (.int .i64 f.ty) := HB.out.cell 0 rfl
  have y1 : w1.cell? ⟨pb, 1, none⟩ = some (.int .i64 f.st) := HB.out.cell 1 rfl
  have y2 : w1.cell? ⟨pb, 2, none⟩ = some (.int .i64 f.off) := HB.out.cell 2 rfl
  have y3 : w1.cell? ⟨pb, 3, none⟩ = some (.string (strB f.S)) := HB.out.cell 3 rfl
  have y4 : w1.cell? ⟨pb, 4, none⟩ = some (.bool f.fin) := HB.out.cell 4 rfl
  have y5 : w1.cell? ⟨pb, 5, none⟩ = some (.int .i64 f.mx) := HB.out.cell 5 rfl
  have y6 : w1.cell? ⟨pb, 6, none⟩ = some (.int .i64 f.cd) := HB.out.cell 6 rfl
  have y7 : w1.cell? ⟨pb, 7, none⟩ = some (.bool f.uni) := HB.out.cell 7 rfl
  have y8 : w1.cell? ⟨pb, 8, none⟩ = some (.int .i64 f.dl) := HB.out.cell 8 rfl
  have y9 : w1.cell? ⟨pb, 9, none⟩ = some (.slice ra f.rg.length rc) := HB.out.cell 9 rfl
  have y10 : w1.cell? ⟨pb, 10, none⟩ = some (.int .i64 f.sq) := HB.out.cell 10 rfl
  have y11 : w1.cell? ⟨pb, 11, none⟩ = some (.int .i64 f.rt) := HB.out.cell 11 rfl
  have y12 : w1.cell? ⟨pb, 12, none⟩ = some (.string (strB f.cid)) := HB.out.cell 12 rfl
  go_wp2_with fail
  refine (hvl _ (HF.out.keep HO.out)).mono ?_
  rintro e w2 ⟨z, rfl, hz, ho⟩
  clear y0 y1 y2 y3 y4 y5 y6 y7 y8 y9 y10 y11 y12
  replace HB := Lib.hid (HB.out.keep ho (by simp))
  replace HO := Lib.hid (HO.out.trans ho)
  have HZ := Lib.hid hz
  clear hz ho hvl
  cases z with
  | false =>
    have HN : Hid (¬ P) := Lib.hid (by rw [← HP.out]; intro h; exact absurd (HZ.out.2 h.1) (by simp))
    go_wp2_with fail
    go_still (by kernel_rfl)
    go_wp2_with fail
    go_ret
    exact BoolQ.no HN.out HO.out.drew
  | true =>
    go_upto_region 2 with fail
    have HB1 : Hid (At w2.drew pb 33 #[.int .i64 f.ty, .int .i64 f.st, .int .i64 f.off, .string (strB f.S), .bool f.fin, .int .i64 f.mx, .int .i64 f.cd, .bool f.uni, .int .i64 f.dl, .slice ra f.rg.length rc, .int .i64 f.sq, .int .i64 f.rt, .string (strB f.cid)]) := Lib.hid HB.out.drew
    have HKP : Hid (∀ ww, Only [] w2.drew ww → ww.cell? ⟨pb, 0, none⟩ = some (.int .i64 f.ty) ∧ ww.cell? ⟨pb, 1, none⟩ = some (.int .i64 f.st) ∧ ww.cell? ⟨pb, 2, none⟩ = some (.int .i64 f.off) ∧ ww.cell? ⟨pb, 3, none⟩ = some (.string (strB f.S)) ∧ ww.cell? ⟨pb, 4, none⟩ = some (.bool f.fin) ∧ ww.cell? ⟨pb, 5, none⟩ = some (.int .i64 f.mx) ∧ ww.cell? ⟨pb, 6, none⟩ = some (.int .i64 f.cd) ∧ ww.cell? ⟨pb, 7, none⟩ = some (.bool f.uni) ∧ ww.cell? ⟨pb, 8, none⟩ = some (.int .i64 f.dl) ∧ ww.cell? ⟨pb, 9, none⟩ = some (.slice ra f.rg.length rc) ∧ ww.cell? ⟨pb, 10, none⟩ = some (.int .i64 f.sq) ∧ ww.cell? ⟨pb, 11, none⟩ = some (.int .i64 f.rt) ∧ ww.cell? ⟨pb, 12, none⟩ = some (.string (strB f.cid))) := Lib.hid (fun ww o => ⟨(HB1.out.keep o (by simp)).cell 0 rfl, (HB1.out.keep o (by simp)).cell 1 rfl, (HB1.out.keep o (by simp)).cell 2 rfl, (HB1.out.keep o (by simp)).cell 3 rfl, (HB1.out.keep o (by simp)).cell 4 rfl, (HB1.out.keep o (by simp)).cell 5 rfl, (HB1.out.keep o (by simp)).cell 6 rfl, (HB1.out.keep o (by simp)).cell 7 rfl, (HB1.out.keep o (by simp)).cell 8 rfl, (HB1.out.keep o (by simp)).cell 9 rfl, (HB1.out.keep o (by simp)).cell 10 rfl, (HB1.out.keep o (by simp)).cell 11 rfl, (HB1.out.keep o (by simp)).cell 12 rfl⟩)
    have HO1 : Hid (Only [] w w2.drew) := Lib.hid HO.out.drew
    refine wp_region_held_drew (S := fun w' => w'.cell? ⟨pb, 0, none⟩ = some (.int .i64 f.ty) ∧ w'.cell? ⟨pb, 1, none⟩ = some (.int .i64 f.st) ∧ w'.cell? ⟨pb, 2, none⟩ = some (.int .i64 f.off) ∧ w'.cell? ⟨pb, 3, none⟩ = some (.string (strB f.S)) ∧ w'.cell? ⟨pb, 4, none⟩ = some (.bool f.fin) ∧ w'.cell? ⟨pb, 5, none⟩ = some (.int .i64 f.mx) ∧ w'.cell? ⟨pb, 6, none⟩ = some (.int .i64 f.cd) ∧ w'.cell? ⟨pb, 7, none⟩ = some (.bool f.uni) ∧ w'.cell? ⟨pb, 8, none⟩ = some (.int .i64 f.dl) ∧ w'.cell? ⟨pb, 9, none⟩ = some (.slice ra f.rg.length rc) ∧ w'.cell? ⟨pb, 10, none⟩ = some (.int .i64 f.sq) ∧ w'.cell? ⟨pb, 11, none⟩ = some (.int .i64 f.rt) ∧ w'.cell? ⟨pb, 12, none⟩ = some (.string (strB f.cid))) (by kernel_rfl) (by exact HKP.out _ (Only.refl _ _)) (fun hHeld => ?_)
    refine wpAnyH_take (i := 0) (v := ?_) rfl (by kernel_rfl) (by kernel_rfl) (by kernel_rfl) (fun _ _ _ h => h) (Or.inl ⟨by kernel_rfl, ?_⟩) (by assumption) ?_
    rotate_left
    · intro wS hSw
      try dsimp only at hSw
      go_simp
      try with_reducible rfl
    simp only [List.getElem_toArray, List.getElem_cons_succ, List.getElem_cons_zero, Act.put, List.setIfInBounds_toArray, List.set_cons_zero, List.set_cons_succ]
    refine wpAnyH_take (i := 1) (v := ?_) rfl (by kernel_rfl) (by kernel_rfl) (by kernel_rfl) (fun _ _ _ h => h) (Or.inl ⟨by kernel_rfl, ?_⟩) (by assumption) ?_
    rotate_left
    · intro wS hSw
      try dsimp only at hSw
      go_simp
      try with_reducible rfl
    simp only [List.getElem_toArray, List.getElem_cons_succ, List.getElem_cons_zero, Act.put, List.setIfInBounds_toArray, List.set_cons_zero, List.set_cons_succ]
    refine wpAnyH_take (i := 2) (v := ?_) rfl (by kernel_rfl) (by kernel_rfl) (by kernel_rfl) (fun _ _ _ h => h) (Or.inl ⟨by kernel_rfl, ?_⟩) (by assumption) ?_
    rotate_left
    · intro wS hSw
      try dsimp only at hSw
      go_simp
      try with_reducible rfl
    simp only [List.getElem_toArray, List.getElem_cons_succ, List.getElem_cons_zero, Act.put, List.setIfInBounds_toArray, List.set_cons_zero, List.set_cons_succ]
    refine wpAnyH_take (i := 4) (v := ?_) rfl (by kernel_rfl) (by kernel_rfl) (by kernel_rfl) (fun _ _ _ h => h) (Or.inl ⟨by kernel_rfl, ?_⟩) (by assumption) ?_
    rotate_left
    · intro wS hSw
      try dsimp only at hSw
      go_simp
      try with_reducible rfl
    simp only [List.getElem_toArray, List.getElem_cons_succ, List.getElem_cons_zero, Act.put, List.setIfInBounds_toArray, List.set_cons_zero, List.set_cons_succ]
    refine wpAnyH_take (i := 5) (v := ?_) rfl (by kernel_rfl) (by kernel_rfl) (by kernel_rfl) (fun _ _ _ h => h) (Or.inl ⟨by kernel_rfl, ?_⟩) (by assumption) ?_
    rotate_left
    · intro wS hSw
      try dsimp only at hSw
      go_simp
      try with_reducible rfl
    simp only [List.getElem_toArray, List.getElem_cons_succ, List.getElem_cons_zero, Act.put, List.setIfInBounds_toArray, List.set_cons_zero, List.set_cons_succ]
    refine wpAnyH_take (i := 6) (v := ?_) rfl (by kernel_rfl) (by kernel_rfl) (by kernel_rfl) (fun _ _ _ h => h) (Or.inl ⟨by kernel_rfl, ?_⟩) (by assumption) ?_
    rotate_left
    · intro wS hSw
      try dsimp only at hSw
      go_simp
      try with_reducible rfl
    simp only [List.getElem_toArray, List.getElem_cons_succ, List.getElem_cons_zero, Act.put, List.setIfInBounds_toArray, List.set_cons_zero, List.set_cons_succ]
    refine wpAnyH_ready (rs := [3]) (by kernel_rfl) (by simp) ?_
    refine AllReadyH.cons rfl (fun K hK => ?_) AllReadyH.nil
    go_simp
    refine (hus _ (HF.out.rg.keep HO1.out)).mono ?_
    rintro e w3 ⟨rv', rfl, hr3, ho3⟩
    obtain ⟨ua, uc, rfl, hux⟩ := hr3
    have HR3 : Hid (RgAt w3 (.slice ua (usedR f).rg.length uc) (usedR f).rg) := Lib.hid ⟨ua, uc, rfl, hux⟩
    have HO3 := Lib.hid ho3
    clear hux ho3 hus
    refine hK.out _ _ (HKP.out _ (HO3.out)) (fun hHeld' => ?_)
    clear hHeld hK K
    have hHeld := hHeld'
    clear hHeld'
    try simp only [List.getElem_toArray, List.getElem_cons_succ, List.getElem_cons_zero, Act.put, List.setIfInBounds_toArray, List.set_cons_zero, List.set_cons_succ]
    refine wpAnyH_ready (rs := [7]) (by kernel_rfl) (by simp) ?_
    refine AllReadyH.cons rfl (fun K hK => ?_) AllReadyH.nil
    go_simp
    have hrs := rsame_c (usedR f) (Fr.zero f.ty) (.slice ua (usedR f).rg.length uc) (.slice none 0 0) w3 HR3.out (fr0_ok w3 f.ty) (by have := HF.out.sz; have := used_len f; omega) (by show 0 ≤ _; omega)
    simp only [frC, Fr.zero] at hrs
    refine hrs.mono ?_
    rintro e w4 ⟨z, rfl, hz4, ho4⟩
    have HZ4 := Lib.hid hz4
    have HO4 := Lib.hid (HO3.out.trans ho4)
    clear hz4 ho4 hrs
    refine hK.out _ _ (HKP.out _ (HO4.out)) (fun hHeld' => ?_)
    clear hHeld hK K
    have hHeld := hHeld'
    clear hHeld'
    try simp only [List.getElem_toArray, List.getElem_cons_succ, List.getElem_cons_zero, Act.put, List.setIfInBounds_toArray, List.set_cons_zero, List.set_cons_succ]
    refine wpAnyH_take (i := 8) (v := ?_) rfl (by kernel_rfl) (by kernel_rfl) (by kernel_rfl) (fun _ _ _ h => h) (Or.inl ⟨by kernel_rfl, ?_⟩) (by assumption) ?_
    rotate_left
    · intro wS hSw
      try dsimp only at hSw
      go_simp
      try with_reducible rfl
    simp only [List.getElem_toArray, List.getElem_cons_succ, List.getElem_cons_zero, Act.put, List.setIfInBounds_toArray, List.set_cons_zero, List.set_cons_succ]
    refine wpAnyH_take (i := 9) (v := ?_) rfl (by kernel_rfl) (by kernel_rfl) (by kernel_rfl) (fun _ _ _ h => h) (Or.inl ⟨by kernel_rfl, ?_⟩) (by assumption) ?_
    rotate_left
    · intro wS hSw
      try dsimp only at hSw
      go_simp
      try with_reducible rfl
    simp only [List.getElem_toArray, List.getElem_cons_succ, List.getElem_cons_zero, Act.put, List.setIfInBounds_toArray, List.set_cons_zero, List.set_cons_succ]
    refine wpAnyH_done (by kernel_rfl) ?_ _
    cases z with
    | false =>
      have HN : Hid (¬ P) := Lib.hid (by rw [← HP.out]; intro h; exact absurd (HZ4.out.2 h.2) (by simp))
      go_wp2_with fail
      go_ret
      exact BoolQ.no HN.out (HO1.out.trans HO4.out)
    | true =>
      have HN : Hid P := Lib.hid (by rw [← HP.out]; exact ⟨HZ.out.1 (by first | rfl | trivial), HZ4.out.1 (by first | rfl | trivial)⟩)
      go_wp2_with fail
      go_ret
      exact BoolQ.yes HN.out (HO1.out.trans HO4.out)
end Go.Proofs.Ytmmgmpghkpbgkaa
