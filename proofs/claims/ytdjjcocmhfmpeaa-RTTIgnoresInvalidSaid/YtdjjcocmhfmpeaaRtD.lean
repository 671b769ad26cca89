/- Contracts of the reference implementation of layer 12. -/
import Derived.Test.YtdjjcocmhfmpeaaRtC
namespace Go.Proofs.Ytdjjcocmhfmpeaa
open Go.RowKit
set_option linter.unusedVariables false
set_option linter.unusedSimpArgs false

set_option maxHeartbeats 800000 in
/-- A later sample, whose adjusted value is A. -/
theorem xsample_run (b : Nat) (S V L M r d R A Mn X : Int) (w : World) (hA : At w b 30 #[.int .i64 L, .int .i64 M, .int .i64 S, .int .i64 V, .bool true])
    (s0 : 0 ≤ S) (s1 : S ≤ 8000000) (v0 : 0 ≤ V) (v1 : V ≤ 4000000) (h0 : 0 ≤ r) (h1 : r ≤ 1000000) (n0 : 1 ≤ Mn) (n1 : Mn ≤ R) (r1 : R ≤ 1000000) (a1 : Mn ≤ A) (a2 : A ≤ R) (x0 : 0 ≤ X) (x1 : X ≤ 1000000)
    (q1 : (if r < 1 then 1 else r) = R) (q3 : (if R < M then R else M) = Mn) (q4 : (if S / 8 - A < A - S / 8 then A - S / 8 else S / 8 - A) = X)
    (hq : (d < 0 ∧ A = R) ∨ (0 ≤ d ∧ d ≤ R - Mn ∧ A = R - d) ∨ (0 ≤ d ∧ R - Mn < d ∧ A = R)) :
    Calls Try.prog 24 #[.pointer (some ⟨b, 0, none⟩), .int .i64 r, .int .i64 d] w fun e w' => e = .returned (.tuple #[]) ∧ At w' b 30 #[.int .i64 R, .int .i64 Mn, .int .i64 (S - S / 8 + A), .int .i64 (V - V / 4 + X), .bool true] ∧ Only [b] w w' := by
  have c0 : w.cell? ⟨b, 0, none⟩ = some (.int .i64 L) := hA.cell 0 rfl
  have c1 : w.cell? ⟨b, 1, none⟩ = some (.int .i64 M) := hA.cell 1 rfl
  have c4 : w.cell? ⟨b, 4, none⟩ = some (.bool true) := hA.cell 4 rfl
  have f0 := hA.free 0
  have f1 := hA.free 1
  have HA := Lib.hid hA; clear hA
  have e1 : IntKind.i64.wrap (S.tdiv 8) = S / 8 := by rw [Int.tdiv_eq_ediv_of_nonneg s0]; exact IntWalk.i64_in _ (by omega)
  have e2 : IntKind.i64.wrap (V.tdiv 4) = V / 4 := by rw [Int.tdiv_eq_ediv_of_nonneg v0]; exact IntWalk.i64_in _ (by omega)
  have e3 : IntKind.i64.wrap (S / 8 - A) = S / 8 - A := IntWalk.i64_in _ (by omega)
  have e4 : IntKind.i64.wrap (A - S / 8) = A - S / 8 := IntWalk.i64_in _ (by omega)
  have e5 : IntKind.i64.wrap (V - V / 4) = V - V / 4 := IntWalk.i64_in _ (by omega)
  have e6 : IntKind.i64.wrap (V - V / 4 + X) = V - V / 4 + X := IntWalk.i64_in _ (by omega)
  have e7 : IntKind.i64.wrap (S - S / 8) = S - S / 8 := IntWalk.i64_in _ (by omega)
  have e8 : IntKind.i64.wrap (S - S / 8 + A) = S - S / 8 + A := IntWalk.i64_in _ (by omega)
  rcases hq with ⟨h, ha⟩ | ⟨h, h', ha⟩ | ⟨h, h', ha⟩
  · have ha' := ha.symm; clear ha; subst ha'
    go_enter Try.func24, Try.ntmps24
    go_wp2_with fail
    have hA2 := (HA.out.set 0 (.int .i64 R) rfl).set 1 (.int .i64 Mn) rfl
    have ho2 := (((Only.refl [b] w).put (g := b) (i := 0) (by simp) (.int .i64 R)).put (g := b) (i := 1) (by simp) (.int .i64 Mn))
    obtain ⟨w2, hw2⟩ : ∃ w2, (w.setCell ⟨b, 0, none⟩ (.int .i64 R)).setCell ⟨b, 1, none⟩ (.int .i64 Mn) = w2 := ⟨_, rfl⟩
    rw [hw2] at hA2 ho2 ⊢
    clear hw2 c0 c1 c4 f0 f1
    have c2 : w2.cell? ⟨b, 2, none⟩ = some (.int .i64 S) := hA2.cell 2 rfl
    have c3 : w2.cell? ⟨b, 3, none⟩ = some (.int .i64 V) := hA2.cell 3 rfl
    have f3 := hA2.free 3
    have HA2 := Lib.hid hA2; clear hA2
    have HO2 := Lib.hid ho2; clear ho2
    go_still_tail 27, (by kernel_rfl)
    go_wp2_with fail
    have hA3 := (HA2.out.set 3 (.int .i64 (V - V / 4 + X)) rfl).drew
    have ho3 := (HO2.out.put (g := b) (i := 3) (by simp) (.int .i64 (V - V / 4 + X))).drew
    obtain ⟨w3, hw3⟩ : ∃ w3, (w2.setCell ⟨b, 3, none⟩ (.int .i64 (V - V / 4 + X))).drew = w3 := ⟨_, rfl⟩
    rw [hw3] at hA3 ho3 ⊢
    clear hw3 c2 c3 f3 HA2 HO2
    have c2 : w3.cell? ⟨b, 2, none⟩ = some (.int .i64 S) := hA3.cell 2 rfl
    have f2 := hA3.free 2
    have HA3 := Lib.hid hA3; clear hA3
    have HO3 := Lib.hid ho3; clear ho3
    go_still_tail 13, (by kernel_rfl)
    go_wp2_with fail
    go_end0
    exact ⟨rfl, (HA3.out.drewN _).set 2 _ rfl, (HO3.out.drewN _).put (by simp) _⟩
  · have HQ := Lib.hid ha; clear ha
    go_enter Try.func24, Try.ntmps24
    go_wp2_with fail
    rw [← HQ.out]
    have hA2 := (HA.out.set 0 (.int .i64 R) rfl).set 1 (.int .i64 Mn) rfl
    have ho2 := (((Only.refl [b] w).put (g := b) (i := 0) (by simp) (.int .i64 R)).put (g := b) (i := 1) (by simp) (.int .i64 Mn))
    obtain ⟨w2, hw2⟩ : ∃ w2, (w.setCell ⟨b, 0, none⟩ (.int .i64 R)).setCell ⟨b, 1, none⟩ (.int .i64 Mn) = w2 := ⟨_, rfl⟩
    rw [hw2] at hA2 ho2 ⊢
    clear hw2 c0 c1 c4 f0 f1
    have c2 : w2.cell? ⟨b, 2, none⟩ = some (.int .i64 S) := hA2.cell 2 rfl
    have c3 : w2.cell? ⟨b, 3, none⟩ = some (.int .i64 V) := hA2.cell 3 rfl
    have f3 := hA2.free 3
    have HA2 := Lib.hid hA2; clear hA2
    have HO2 := Lib.hid ho2; clear ho2
    go_still_tail 27, (by kernel_rfl)
    go_wp2_with fail
    have hA3 := (HA2.out.set 3 (.int .i64 (V - V / 4 + X)) rfl).drew
    have ho3 := (HO2.out.put (g := b) (i := 3) (by simp) (.int .i64 (V - V / 4 + X))).drew
    obtain ⟨w3, hw3⟩ : ∃ w3, (w2.setCell ⟨b, 3, none⟩ (.int .i64 (V - V / 4 + X))).drew = w3 := ⟨_, rfl⟩
    rw [hw3] at hA3 ho3 ⊢
    clear hw3 c2 c3 f3 HA2 HO2
    have c2 : w3.cell? ⟨b, 2, none⟩ = some (.int .i64 S) := hA3.cell 2 rfl
    have f2 := hA3.free 2
    have HA3 := Lib.hid hA3; clear hA3
    have HO3 := Lib.hid ho3; clear ho3
    go_still_tail 13, (by kernel_rfl)
    go_wp2_with fail
    go_end0
    exact ⟨rfl, (HA3.out.drewN _).set 2 _ rfl, (HO3.out.drewN _).put (by simp) _⟩
  · have ha' := ha.symm; clear ha; subst ha'
    go_enter Try.func24, Try.ntmps24
    go_wp2_with fail
    have hA2 := (HA.out.set 0 (.int .i64 R) rfl).set 1 (.int .i64 Mn) rfl
    have ho2 := (((Only.refl [b] w).put (g := b) (i := 0) (by simp) (.int .i64 R)).put (g := b) (i := 1) (by simp) (.int .i64 Mn))
    obtain ⟨w2, hw2⟩ : ∃ w2, (w.setCell ⟨b, 0, none⟩ (.int .i64 R)).setCell ⟨b, 1, none⟩ (.int .i64 Mn) = w2 := ⟨_, rfl⟩
    rw [hw2] at hA2 ho2 ⊢
    clear hw2 c0 c1 c4 f0 f1
    have c2 : w2.cell? ⟨b, 2, none⟩ = some (.int .i64 S) := hA2.cell 2 rfl
    have c3 : w2.cell? ⟨b, 3, none⟩ = some (.int .i64 V) := hA2.cell 3 rfl
    have f3 := hA2.free 3
    have HA2 := Lib.hid hA2; clear hA2
    have HO2 := Lib.hid ho2; clear ho2
    go_still_tail 27, (by kernel_rfl)
    go_wp2_with fail
    have hA3 := (HA2.out.set 3 (.int .i64 (V - V / 4 + X)) rfl).drew
    have ho3 := (HO2.out.put (g := b) (i := 3) (by simp) (.int .i64 (V - V / 4 + X))).drew
    obtain ⟨w3, hw3⟩ : ∃ w3, (w2.setCell ⟨b, 3, none⟩ (.int .i64 (V - V / 4 + X))).drew = w3 := ⟨_, rfl⟩
    rw [hw3] at hA3 ho3 ⊢
    clear hw3 c2 c3 f3 HA2 HO2
    have c2 : w3.cell? ⟨b, 2, none⟩ = some (.int .i64 S) := hA3.cell 2 rfl
    have f2 := hA3.free 2
    have HA3 := Lib.hid hA3; clear hA3
    have HO3 := Lib.hid ho3; clear ho3
    go_still_tail 13, (by kernel_rfl)
    go_wp2_with fail
    go_end0
    exact ⟨rfl, (HA3.out.drewN _).set 2 _ rfl, (HO3.out.drewN _).put (by simp) _⟩
set_option maxHeartbeats 800000 in
theorem xsample_first (b : Nat) (L M S V r d R : Int) (w : World) (hA : At w b 30 #[.int .i64 L, .int .i64 M, .int .i64 S, .int .i64 V, .bool false]) (h0 : 0 ≤ r) (h1 : r ≤ 1000000) (r0 : 1 ≤ R) (r1 : R ≤ 1000000)
    (q1 : (if r < 1 then 1 else r) = R) :
    Calls Try.prog 24 #[.pointer (some ⟨b, 0, none⟩), .int .i64 r, .int .i64 d] w fun e w' => e = .returned (.tuple #[]) ∧ At w' b 30 #[.int .i64 R, .int .i64 R, .int .i64 (8 * R), .int .i64 (2 * R), .bool true] ∧ Only [b] w w' := by
  have c0 : w.cell? ⟨b, 0, none⟩ = some (.int .i64 L) := hA.cell 0 rfl
  have c1 : w.cell? ⟨b, 1, none⟩ = some (.int .i64 M) := hA.cell 1 rfl
  have c2 : w.cell? ⟨b, 2, none⟩ = some (.int .i64 S) := hA.cell 2 rfl
  have c3 : w.cell? ⟨b, 3, none⟩ = some (.int .i64 V) := hA.cell 3 rfl
  have c4 : w.cell? ⟨b, 4, none⟩ = some (.bool false) := hA.cell 4 rfl
  have f0 := hA.free 0
  have f1 := hA.free 1
  have f2 := hA.free 2
  have f3 := hA.free 3
  have f4 := hA.free 4
  have HA := Lib.hid hA; clear hA
  by_cases hd : d < 0
  all_goals
    go_enter Try.func24, Try.ntmps24
    go_wp2_with fail
    refine bodyPost_ret (results_none rfl _ _ _) rfl ?_
    exact ⟨rfl, ((((HA.out.set 0 _ rfl).set 4 _ rfl).set 1 _ rfl).set 2 _ rfl).set 3 _ rfl, (((((Only.refl [b] w).put (by simp) _).put (by simp) _).put (by simp) _).put (by simp) _).put (by simp) _⟩
theorem at5 {w : World} {b : Nat} {t : TypeId} {k0 k1 k2 k3 : IntKind} {a b' c d a' b'' c' d' : Int} {x : Bool} (h : At w b t #[.int k0 a, .int k1 b', .int k2 c, .int k3 d, .bool x]) (ea : a = a') (eb : b' = b'') (ec : c = c') (ed : d = d') : At w b t #[.int k0 a', .int k1 b'', .int k2 c', .int k3 d', .bool x] := by subst ea eb ec ed; exact h
theorem xsample_c (b : Nat) (S V L M r d : Int) (x : Bool) (w : World) (hA : At w b 30 #[.int .i64 L, .int .i64 M, .int .i64 S, .int .i64 V, .bool x]) (hi : RInv S V L M) (hx : x = decide (M ≠ 0)) (h0 : 0 ≤ r) (h1 : r ≤ 1000000) :
    Calls Try.prog 24 #[.pointer (some ⟨b, 0, none⟩), .int .i64 r, .int .i64 d] w fun e w' => e = .returned (.tuple #[]) ∧ At w' b 30 #[.int .i64 (rcZ r), .int .i64 (minZ M r), .int .i64 (smoZ S M r d), .int .i64 (varZ S V M r d), .bool true] ∧ Only [b] w w' := by
  have r0 := rcZ_bd h0 h1
  by_cases hm : M = 0
  · subst hm
    obtain rfl : x = false := by simpa using hx
    refine (xsample_first b L 0 S V r d (rcZ r) w hA h0 h1 (by omega) (by omega) rfl).mono fun e w' ⟨h2, h3, h4⟩ => ⟨h2, at5 h3 rfl ?_ ?_ ?_, h4⟩
    · unfold minZ; rw [if_pos rfl]
    · unfold smoZ; rw [if_pos rfl]
    · unfold varZ; rw [if_pos rfl]
  · obtain rfl : x = true := by rw [hx]; simpa using hm
    have hbd := hi.bd
    have hmm := minZ_bd (M := M) h0 h1 (by omega)
    have ha := adjZ_bd (M := M) (d := d) h0 h1 (by omega)
    have hX := mxZ_bd (S / 8 - adjZ M r d) (adjZ M r d - S / 8)
    have hq : (d < 0 ∧ adjZ M r d = rcZ r) ∨ (0 ≤ d ∧ d ≤ rcZ r - minZ M r ∧ adjZ M r d = rcZ r - d) ∨ (0 ≤ d ∧ rcZ r - minZ M r < d ∧ adjZ M r d = rcZ r) := by
      have hd : mxZ d 0 = if d < 0 then 0 else d := rfl
      unfold adjZ; rw [hd]
      by_cases h : d < 0
      · left; refine ⟨h, ?_⟩; rw [if_pos h]; split <;> omega
      · right; rw [if_neg h]
        by_cases h' : d ≤ rcZ r - minZ M r
        · left; exact ⟨by omega, h', by rw [if_pos h']⟩
        · right; exact ⟨by omega, by omega, by rw [if_neg h']⟩
    refine (xsample_run b S V L M r d (rcZ r) (adjZ M r d) (minZ M r) _ w hA (by omega) (by omega) (by omega) (by omega) h0 h1 (by omega) (by omega) (by omega) (by omega) (by omega) (by omega) (by omega) rfl (by unfold minZ; rw [if_neg hm]; rfl) (show _ = mxZ (S / 8 - adjZ M r d) (adjZ M r d - S / 8) from rfl) hq).mono fun e w' ⟨h2, h3, h4⟩ => ⟨h2, at5 h3 rfl rfl ?_ ?_, h4⟩
    · unfold smoZ; rw [if_neg hm]; omega
    · unfold varZ; rw [if_neg hm]; omega
set_option maxHeartbeats 400000 in
theorem xsample_bad (b : Nat) (r d : Int) (w : World) (h : r < 0 ∨ 1000000 < r) :
    Calls Try.prog 24 #[.pointer (some ⟨b, 0, none⟩), .int .i64 r, .int .i64 d] w fun e w' => e = .returned (.tuple #[]) ∧ w = w' := by
  rcases h with h | h
  · go_enter Try.func24, Try.ntmps24
    go_wp2_with fail
    refine bodyPost_ret (results_none rfl _ _ _) rfl ?_
    exact ⟨rfl, rfl⟩
  · have h' : ¬ r < 0 := by omega
    go_enter Try.func24, Try.ntmps24
    go_wp2_with fail
    refine bodyPost_ret (results_none rfl _ _ _) rfl ?_
    exact ⟨rfl, rfl⟩
end Go.Proofs.Ytdjjcocmhfmpeaa
