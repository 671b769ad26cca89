/- Contracts of package rtt: the two formulas, Sample. -/
import Derived.Test.YthjlkiilkiggiaaStA
import Derived.Deep.QuietTactic
import Derived.StillTailTactics
namespace Go.Proofs.Ythjlkiilkiggiaa.Rt
open Go.Proofs.Ythjlkiilkiggiaa
open Go.RowKit
set_option linter.unusedVariables false
set_option linter.unusedSimpArgs false

set_option maxHeartbeats 400000 in
theorem rule1_c (b : Nat) (S V L M a : Int) (w : World) (hA : At w b 78 #[.int .i64 S, .int .i64 V, .int .i64 L, .int .i64 M]) (h0 : 0 ≤ S) (h1 : S ≤ 8000000) (h2 : 0 ≤ V) (h3 : V ≤ 4000000) (h4 : 1 ≤ a) (h5 : a ≤ 1000000) :
    Calls Try.prog 48 #[.pointer (some ⟨b, 0, none⟩), .int .i64 a] w fun e w' => e = .returned (.tuple #[]) ∧ At w' b 78 #[.int .i64 S, .int .i64 (V + (mxZ (S / 8 - a) (a - S / 8) - V / 4)), .int .i64 L, .int .i64 M] ∧ Only [b] w w' := by
  have c0 : w.cell? ⟨b, 0, none⟩ = some (.int .i64 S) := hA.cell 0 rfl
  have c1 : w.cell? ⟨b, 1, none⟩ = some (.int .i64 V) := hA.cell 1 rfl
  have f1 := hA.free 1
  have hlt := hA.lt
  have e1 : IntKind.i64.wrap (S.tdiv 8) = S / 8 := by rw [Int.tdiv_eq_ediv_of_nonneg h0]; exact IntWalk.i64_in _ (by omega)
  have e2 : IntKind.i64.wrap (S / 8 - a) = S / 8 - a := IntWalk.i64_in _ (by omega)
  have e3 : IntKind.i64.wrap (a - S / 8) = a - S / 8 := IntWalk.i64_in _ (by omega)
  have e4 : IntKind.i64.wrap (V.tdiv 4) = V / 4 := by rw [Int.tdiv_eq_ediv_of_nonneg h2]; exact IntWalk.i64_in _ (by omega)
  obtain ⟨D, hD⟩ : ∃ D, mxZ (S / 8 - a) (a - S / 8) = D := ⟨_, rfl⟩
  have hb := mxZ_bd (S / 8 - a) (a - S / 8)
  rw [hD] at hb
  have hd0 : 0 ≤ D := by omega
  have hd1 : D ≤ 1000000 := by omega
  have HD := Lib.hid hD; clear hD
  have HB := Lib.hid hb; clear hb
  have e5 : IntKind.i64.wrap (D - V / 4) = D - V / 4 := IntWalk.i64_in _ (by omega)
  have e6 : IntKind.i64.wrap (V + (D - V / 4)) = V + (D - V / 4) := IntWalk.i64_in _ (by omega)
  have HA := Lib.hid hA; clear hA
  rw [HD.out]
  go_enter Try.func48, Try.ntmps48
  go_wp2_with fail
  go_still_tail 14, (by kernel_rfl)
  go_wp2_with fail
  refine (most_c _ (S / 8 - a) (a - S / 8) _ (by simp) (by simp)).mono ?_
  rintro e w2 ⟨rfl, hw2⟩
  rw [HD.out]
  have hA2 := (HA.out.alloc (.cells #[Value.int IntKind.i64 (S / 8 - a), Value.int IntKind.i64 (a - S / 8)] 3)).drew
  have ho2 := ((Only.refl [b] w).alloc (.cells #[Value.int IntKind.i64 (S / 8 - a), Value.int IntKind.i64 (a - S / 8)] 3)).drew
  rw [hw2] at hA2 ho2
  clear hw2 c0 c1 f1 hlt
  have c1 : w2.cell? ⟨b, 1, none⟩ = some (.int .i64 V) := hA2.cell 1 rfl
  have f1 := hA2.free 1
  have HA2 := Lib.hid hA2; clear hA2
  have HO := Lib.hid ho2; clear ho2
  go_wp2_with fail
  go_still_tail 12, (by kernel_rfl)
  go_wp2_with fail
  go_end0
  exact ⟨rfl, (HA2.out.drewN _).set 1 _ rfl, (HO.out.drewN _).set (.inl (by simp)) _⟩
set_option maxHeartbeats 400000 in
theorem rule2_c (b : Nat) (S V L M a : Int) (w : World) (hA : At w b 78 #[.int .i64 S, .int .i64 V, .int .i64 L, .int .i64 M]) (h0 : 0 ≤ S) (h1 : S ≤ 8000000) (h4 : 1 ≤ a) (h5 : a ≤ 1000000) :
    Calls Try.prog 49 #[.pointer (some ⟨b, 0, none⟩), .int .i64 a] w fun e w' => e = .returned (.tuple #[]) ∧ At w' b 78 #[.int .i64 (S + (a - S / 8)), .int .i64 V, .int .i64 L, .int .i64 M] ∧ Only [b] w w' := by
  have c0 : w.cell? ⟨b, 0, none⟩ = some (.int .i64 S) := hA.cell 0 rfl
  have f0 := hA.free 0
  have e1 : IntKind.i64.wrap (S.tdiv 8) = S / 8 := by rw [Int.tdiv_eq_ediv_of_nonneg h0]; exact IntWalk.i64_in _ (by omega)
  have e2 : IntKind.i64.wrap (a - S / 8) = a - S / 8 := IntWalk.i64_in _ (by omega)
  have e3 : IntKind.i64.wrap (S + (a - S / 8)) = S + (a - S / 8) := IntWalk.i64_in _ (by omega)
  have HA := Lib.hid hA; clear hA
  go_enter Try.func49, Try.ntmps49
  go_wp2_with fail
  go_still_tail 12, (by kernel_rfl)
  go_wp2_with fail
  go_end0
  exact ⟨rfl, (HA.out.drewN _).set 0 _ rfl, ((Only.refl _ _).drewN _).set (.inl (by simp)) _⟩
theorem rules_c (w : World) : Calls Try.prog 47 #[] w fun e w' => ∃ g, e = .returned (.slice (some ⟨g, 0, none⟩) 2 2) ∧ At w' g 88 #[.func (.func 48) #[] #[], .func (.func 49) #[] #[]] ∧ Only [] w w' ∧ w.heap.size ≤ g := by
  go_enter Try.func47, Try.ntmps47
  go_wp2_with fail
  go_ret
  exact ⟨_, rfl, At.new _ _ _, (Only.refl _ _).alloc _, Nat.le_refl _⟩
set_option maxHeartbeats 400000 in
theorem add_c (b : Nat) (S V L M a : Int) (w : World) (hA : At w b 78 #[.int .i64 S, .int .i64 V, .int .i64 L, .int .i64 M]) (h0 : 0 ≤ S) (h1 : S ≤ 8000000) (h2 : 0 ≤ V) (h3 : V ≤ 4000000) (h4 : 1 ≤ a) (h5 : a ≤ 1000000) :
    Calls Try.prog 42 #[.pointer (some ⟨b, 0, none⟩), .int .i64 a] w fun e w' => e = .returned (.tuple #[]) ∧ At w' b 78 #[.int .i64 (S + (a - S / 8)), .int .i64 (V + (mxZ (S / 8 - a) (a - S / 8) - V / 4)), .int .i64 L, .int .i64 M] ∧ Only [b] w w' := by
  have hlt := hA.lt
  have HA := Lib.hid hA; clear hA
  go_enter Try.func42, Try.ntmps42
  go_wp2_with fail
  refine (rules_c _).mono ?_
  rintro e w1 ⟨g, rfl, hG1, ho1, hg⟩
  have hgb : g ≠ b := by omega
  have HA1 := Lib.hid (HA.out.keep ho1 (by simp)); clear HA
  have HG1 := Lib.hid hG1; clear hG1
  have HO1 := Lib.hid (ho1.mono (T := [b]) (by simp)); clear ho1
  have hc : w1.cell? ⟨g, 0, none⟩ = some (.func (.func 48) #[] #[]) := HG1.out.cell 0 rfl
  go_wp2_with fail
  refine wp_loop_rounds 3 ?_
  rw [rounds_succ]
  go_wp2_with fail
  refine (rule1_c _ _ _ _ _ _ _ (HA1.out.alloc _) h0 h1 h2 h3 h4 h5).mono ?_
  rintro e w2 ⟨rfl, hA2, ho2⟩
  have HA2 := Lib.hid hA2; clear hA2
  have HG2 := Lib.hid ((HG1.out.alloc (.cells #[.func (.func 48) #[] #[]] 88)).keep ho2 (by simpa using hgb))
  have HO2 := Lib.hid ((HO1.out.alloc (.cells #[.func (.func 48) #[] #[]] 88)).trans ho2)
  clear hc HG1 HA1 HO1 ho2
  have hc : w2.cell? ⟨g, 1, none⟩ = some (.func (.func 49) #[] #[]) := HG2.out.cell 1 rfl
  go_wp2_with fail
  rw [rounds_succ]
  go_wp2_with fail
  refine (rule2_c _ _ _ _ _ _ _ (HA2.out.alloc _) h0 h1 h4 h5).mono ?_
  rintro e w3 ⟨rfl, hA3, ho3⟩
  have HA3 := Lib.hid hA3; clear hA3
  have HO3 := Lib.hid ((HO2.out.alloc (.cells #[.func (.func 49) #[] #[]] 88)).trans ho3)
  clear ho3 hc
  go_wp2_with fail
  rw [rounds_succ]
  go_wp2_with fail
  go_end0
  exact ⟨rfl, HA3.out, HO3.out⟩
set_option maxHeartbeats 800000 in
theorem sample_next (b : Nat) (S V L M r d R D Mn : Int) (w : World) (hA : At w b 78 #[.int .i64 S, .int .i64 V, .int .i64 L, .int .i64 M]) (hi : RInv S V L M) (h0 : 0 ≤ r) (h1 : r ≤ 1000000) (hm : M ≠ 0)
    (hR : mxZ r 1 = R) (hD : mxZ d 0 = D) (hM : mnZ M R = Mn) :
    Calls Try.prog 26 #[.pointer (some ⟨b, 0, none⟩), .int .i64 r, .int .i64 d] w fun e w' => e = .returned (.tuple #[]) ∧ At w' b 78 #[.int .i64 (smoZ S M r d), .int .i64 (varZ S V M r d), .int .i64 (rcZ r), .int .i64 (minZ M r)] ∧ Only [b] w w' := by
  have HA := Lib.hid hA; clear hA
  have hbd := hi.bd
  obtain ⟨s0, s1, v0, v1, m0, m1, l1⟩ := hbd
  have hr := rcZ_bd h0 h1
  have hmm := minZ_bd (M := M) h0 h1 m0
  have e1 : rcZ r = R := hR
  have e2 : minZ M r = Mn := by unfold minZ; rw [if_neg hm, e1]; exact hM
  rw [e2, e1] at hmm
  rw [e1] at hr
  obtain ⟨r0, r1, r2⟩ := hr
  have s0' : 0 ≤ S := by omega
  obtain ⟨n0, n1, n2⟩ := hmm
  have d0 : 0 ≤ D := by have := mxZ_bd d 0; omega
  have hS : smoZ S M r d = if D ≤ R - Mn then S + (R - D - S / 8) else S + (R - S / 8) := by
    unfold smoZ adjZ; rw [if_neg hm, e1, e2, hD]; split <;> rfl
  have hV : varZ S V M r d = if D ≤ R - Mn then V + (mxZ (S / 8 - (R - D)) (R - D - S / 8) - V / 4) else V + (mxZ (S / 8 - R) (R - S / 8) - V / 4) := by
    unfold varZ adjZ; rw [if_neg hm, e1, e2, hD]; split <;> rfl
  rw [hS, hV, e1, e2]
  have HR := Lib.hid hR; clear hR
  have HD := Lib.hid hD; clear hD
  have HM := Lib.hid hM; clear hM
  clear hS hV e1 e2 n2 hi
  by_cases hq : D ≤ R - Mn
  all_goals
    first | rw [if_pos hq, if_pos hq] | rw [if_neg hq, if_neg hq]
    go_enter Try.func26, Try.ntmps26
    go_wp2_with fail
    refine (most_c _ r 1 _ (by simp) (by simp)).mono ?_
    rintro e w1 ⟨rfl, hw1⟩
    rw [HR.out]
    have HA1 := Lib.hid (HA.out.alloc (.cells #[Value.int IntKind.i64 r, Value.int IntKind.i64 1] 3))
    have HO1 := Lib.hid ((Only.refl [b] w).alloc (.cells #[Value.int IntKind.i64 r, Value.int IntKind.i64 1] 3))
    rw [hw1] at HA1 HO1
    clear hw1
    go_wp2_with fail
    refine (most_c _ d 0 _ (by simp) (by simp)).mono ?_
    rintro e w2 ⟨rfl, hw2⟩
    rw [HD.out]
    have HA2 := Lib.hid (HA1.out.alloc (.cells #[Value.int IntKind.i64 d, Value.int IntKind.i64 0] 3))
    have HO2 := Lib.hid (HO1.out.alloc (.cells #[Value.int IntKind.i64 d, Value.int IntKind.i64 0] 3))
    rw [hw2] at HA2 HO2
    clear hw2 HA1 HO1
    have c2 : w2.cell? ⟨b, 2, none⟩ = some (.int .i64 L) := HA2.out.cell 2 rfl
    have c3 : w2.cell? ⟨b, 3, none⟩ = some (.int .i64 M) := HA2.out.cell 3 rfl
    go_wp2_with fail
    refine (least_c _ M R _ (by simp) (by simp)).mono ?_
    rintro e w3 ⟨rfl, hw3⟩
    rw [HM.out]
    have HA3 := Lib.hid (HA2.out.alloc (.cells #[Value.int IntKind.i64 M, Value.int IntKind.i64 R] 3))
    have HO3 := Lib.hid (HO2.out.alloc (.cells #[Value.int IntKind.i64 M, Value.int IntKind.i64 R] 3))
    rw [hw3] at HA3 HO3
    clear hw3 HA2 HO2 c2 c3
    have c2 : w3.cell? ⟨b, 2, none⟩ = some (.int .i64 L) := HA3.out.cell 2 rfl
    have c3 : w3.cell? ⟨b, 3, none⟩ = some (.int .i64 M) := HA3.out.cell 3 rfl
    have f2 := HA3.out.free 2
    have f3 := HA3.out.free 3
    go_wp2_with fail
    refine (add_c _ _ _ _ _ _ _ ((HA3.out.set 2 (.int .i64 R) rfl).set 3 (.int .i64 Mn) rfl) s0' s1 v0 v1 (by omega) (by omega)).mono ?_
    rintro e w4 ⟨rfl, hA4, ho4⟩
    go_wp2_with fail
    go_end0
    exact ⟨rfl, hA4, (((HO3.out.put (by simp) _).put (by simp) _).trans ho4)⟩
set_option maxHeartbeats 800000 in
theorem sample_first (b : Nat) (S V r d R D : Int) (w : World) (hA : At w b 78 #[.int .i64 S, .int .i64 V, .int .i64 0, .int .i64 0]) (h0 : 0 ≤ r) (h1 : r ≤ 1000000)
    (hR : mxZ r 1 = R) (hD : mxZ d 0 = D) :
    Calls Try.prog 26 #[.pointer (some ⟨b, 0, none⟩), .int .i64 r, .int .i64 d] w fun e w' => e = .returned (.tuple #[]) ∧ At w' b 78 #[.int .i64 (8 * R), .int .i64 (2 * R), .int .i64 R, .int .i64 R] ∧ Only [b] w w' := by
  have HA := Lib.hid hA; clear hA
  have hr := rcZ_bd h0 h1
  have e1 : rcZ r = R := hR
  rw [e1] at hr
  clear e1
  obtain ⟨r0, r1, r2⟩ := hr
  have HR := Lib.hid hR; clear hR
  have HD := Lib.hid hD; clear hD
  go_enter Try.func26, Try.ntmps26
  go_wp2_with fail
  refine (most_c _ r 1 _ (by simp) (by simp)).mono ?_
  rintro e w1 ⟨rfl, hw1⟩
  rw [HR.out]
  have HA1 := Lib.hid (HA.out.alloc (.cells #[Value.int IntKind.i64 r, Value.int IntKind.i64 1] 3))
  have HO1 := Lib.hid ((Only.refl [b] w).alloc (.cells #[Value.int IntKind.i64 r, Value.int IntKind.i64 1] 3))
  rw [hw1] at HA1 HO1
  clear hw1
  go_wp2_with fail
  refine (most_c _ d 0 _ (by simp) (by simp)).mono ?_
  rintro e w2 ⟨rfl, hw2⟩
  rw [HD.out]
  have HA2 := Lib.hid (HA1.out.alloc (.cells #[Value.int IntKind.i64 d, Value.int IntKind.i64 0] 3))
  have HO2 := Lib.hid (HO1.out.alloc (.cells #[Value.int IntKind.i64 d, Value.int IntKind.i64 0] 3))
  rw [hw2] at HA2 HO2
  clear hw2 HA1 HO1
  have c0 : w2.cell? ⟨b, 0, none⟩ = some (.int .i64 S) := HA2.out.cell 0 rfl
  have c1 : w2.cell? ⟨b, 1, none⟩ = some (.int .i64 V) := HA2.out.cell 1 rfl
  have c2 : w2.cell? ⟨b, 2, none⟩ = some (.int .i64 0) := HA2.out.cell 2 rfl
  have c3 : w2.cell? ⟨b, 3, none⟩ = some (.int .i64 0) := HA2.out.cell 3 rfl
  have f0 := HA2.out.free 0
  have f1 := HA2.out.free 1
  have f2 := HA2.out.free 2
  have f3 := HA2.out.free 3
  go_wp2_with fail
  first | go_end0 | (refine bodyPost_ret (results_none rfl _ _ _) rfl ?_)
  exact ⟨rfl, at4 ((((HA2.out.set 2 _ rfl).set 3 _ rfl).set 0 _ rfl).set 1 _ rfl) (by omega) (by omega) rfl rfl, ((((HO2.out.put (by simp) _).put (by simp) _).put (by simp) _).put (by simp) _)⟩
theorem sample_c (b : Nat) (S V L M r d : Int) (w : World) (hA : At w b 78 #[.int .i64 S, .int .i64 V, .int .i64 L, .int .i64 M]) (hi : RInv S V L M) (h0 : 0 ≤ r) (h1 : r ≤ 1000000) :
    Calls Try.prog 26 #[.pointer (some ⟨b, 0, none⟩), .int .i64 r, .int .i64 d] w fun e w' => e = .returned (.tuple #[]) ∧ At w' b 78 #[.int .i64 (smoZ S M r d), .int .i64 (varZ S V M r d), .int .i64 (rcZ r), .int .i64 (minZ M r)] ∧ Only [b] w w' := by
  by_cases hm : M = 0
  · obtain rfl : L = 0 := by rcases hi with h | h <;> omega
    subst hm
    refine (sample_first b S V r d _ _ w hA h0 h1 rfl rfl).mono fun e w' ⟨h2, h3, h4⟩ => ⟨h2, at4 h3 ?_ ?_ rfl ?_, h4⟩
    · unfold smoZ; rw [if_pos rfl]; rfl
    · unfold varZ; rw [if_pos rfl]; rfl
    · unfold minZ; rw [if_pos rfl]; rfl
  · exact sample_next b S V L M r d _ _ _ w hA hi h0 h1 hm rfl rfl rfl
set_option maxHeartbeats 400000 in
theorem sample_bad (b : Nat) (S V L M r d : Int) (w : World) (hA : At w b 78 #[.int .i64 S, .int .i64 V, .int .i64 L, .int .i64 M]) (h : r < 0 ∨ 1000000 < r) :
    Calls Try.prog 26 #[.pointer (some ⟨b, 0, none⟩), .int .i64 r, .int .i64 d] w fun e w' => e = .returned (.tuple #[]) ∧ w = w' := by
  clear hA
  rcases h with h | h
  · go_enter Try.func26, Try.ntmps26
    go_wp2_with fail
    first | go_end0 | (refine bodyPost_ret (results_none rfl _ _ _) rfl ?_)
    exact ⟨rfl, rfl⟩
  · have h' : ¬ r < 0 := by omega
    go_enter Try.func26, Try.ntmps26
    go_wp2_with fail
    first | go_end0 | (refine bodyPost_ret (results_none rfl _ _ _) rfl ?_)
    exact ⟨rfl, rfl⟩
end Go.Proofs.Ythjlkiilkiggiaa.Rt
