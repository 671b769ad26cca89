/- The reference's reading methods; the methods at known values; pick; the fixed examples. -/
import Derived.Test.YthjlkiilkiggiaaStD
namespace Go.Proofs.Ythjlkiilkiggiaa.Rt
open Go.Proofs.Ythjlkiilkiggiaa
open Go.RowKit
set_option linter.unusedVariables false
set_option linter.unusedSectionVars false
set_option linter.unusedSimpArgs false


/-- What 'pick' answers. -/
def pickZ (c n : Int) : Int := (if c < 0 then -(c + 1) else c) % n
theorem pickZ_bd (c n : Int) (hn : 0 < n) : 0 ≤ pickZ c n ∧ pickZ c n < n := by
  unfold pickZ
  exact ⟨Int.emod_nonneg _ (by omega), Int.emod_lt_of_pos _ hn⟩
theorem pick_any (c n : Int) (w : World) (h1 : -9223372036854775808 ≤ c) (h2 : c ≤ 9223372036854775807) (hn : 0 < n) :
    Calls Try.prog 23 #[.int .i64 c, .int .i64 n] w fun e w' => e = .returned (.int .i64 (pickZ c n)) ∧ w = w' := by
  have e1 : c < 0 → -((c + 1).tmod n) = pickZ c n := by
    intro h; unfold pickZ; rw [if_pos h]; rw [← Int.neg_tmod]; exact Int.tmod_eq_emod_of_nonneg (by omega)
  have e2 : 0 ≤ c → c % n = pickZ c n := by
    intro h; unfold pickZ; rw [if_neg (by omega)]
  have E1 := Lib.hid e1
  have E2 := Lib.hid e2
  clear e1 e2
  by_cases hc : c < 0
  · go_enter Try.func23, Try.ntmps23
    go_wp2
    go_ret
    exact ⟨ret_int (E1.out hc), rfl⟩
  · go_enter Try.func23, Try.ntmps23
    go_wp2
    go_ret
    exact ⟨ret_int (E2.out (by omega)), rfl⟩
theorem pick_ex (c n : Int) (w : World) (h1 : -9223372036854775808 ≤ c) (h2 : c ≤ 9223372036854775807) (hn : 0 < n) :
    Calls Try.prog 23 #[.int .i64 c, .int .i64 n] w fun e w' => ∃ r, 0 ≤ r ∧ r < n ∧ e = .returned (.int .i64 r) ∧ w = w' :=
  (pick_any c n w h1 h2 hn).mono fun _ _ ⟨h, k⟩ => ⟨_, (pickZ_bd c n hn).1, (pickZ_bd c n hn).2, h, k⟩

theorem new_at (w : World) : Calls Try.prog 24 #[] w fun e w' => ∃ g, e = .returned (.pointer (some ⟨g, 0, none⟩)) ∧ At w' g 78 #[.int .i64 80, .int .i64 20, .int .i64 0, .int .i64 0] ∧ Only [] w w' ∧ w.heap.size ≤ g :=
  (new_c w).mono fun e w' ⟨h1, h2⟩ => ⟨_, h1, by rw [h2]; exact At.new _ _ _, by rw [h2]; exact (Only.refl _ _).alloc _, Nat.le_refl _⟩
section
variable (b : Nat) (S V L M : Int) (w : World) (hA : At w b 78 #[.int .i64 S, .int .i64 V, .int .i64 L, .int .i64 M]) (hi : RInv S V L M)
include hA hi
theorem smo_v (z : Int) (hz : S / 8 = z) : Calls Try.prog 27 #[.pointer (some ⟨b, 0, none⟩)] w fun e w' => e = .returned (.int .i64 z) ∧ w = w' := by
  have h := hi.bd; subst hz; exact smoothed_c b S V L M w hA (by omega) (by omega)
theorem var_v (z : Int) (hz : V / 4 = z) : Calls Try.prog 37 #[.pointer (some ⟨b, 0, none⟩)] w fun e w' => e = .returned (.int .i64 z) ∧ w = w' := by
  have h := hi.bd; subst hz; exact variation_c b S V L M w hA (by omega) (by omega)
theorem min_v (z : Int) (hz : M = z) : Calls Try.prog 28 #[.pointer (some ⟨b, 0, none⟩)] w fun e w' => e = .returned (.int .i64 z) ∧ w = w' := by
  subst hz; exact minimum_c b S V L M w hA
theorem loss_v (z : Int) (hz : lossZ S L = z) : Calls Try.prog 39 #[.pointer (some ⟨b, 0, none⟩)] w fun e w' => e = .returned (.int .i64 z) ∧ At w' b 78 #[.int .i64 S, .int .i64 V, .int .i64 L, .int .i64 M] ∧ Only [] w w' := by
  have h := hi.bd; subst hz; exact (loss_c b S V L M w hA (by omega) (by omega) (by omega) (by omega)).mono fun e w' ⟨h1, h2⟩ => ⟨h1, hA.keep h2 (by simp), h2⟩
theorem probe_v (z d k : Int) (hz : probeZ S V d k = z) : Calls Try.prog 38 #[.pointer (some ⟨b, 0, none⟩), .int .i64 d, .int .i64 k] w fun e w' => e = .returned (.int .i64 z) ∧ At w' b 78 #[.int .i64 S, .int .i64 V, .int .i64 L, .int .i64 M] ∧ Only [] w w' := by
  subst hz; exact (probe_c b S V L M d k w hA hi).mono fun e w' ⟨h1, h2⟩ => ⟨h1, hA.keep h2 (by simp), h2⟩
theorem samp_v (r d S' V' L' M' : Int) (h0 : 0 ≤ r) (h1 : r ≤ 1000000) (e1 : smoZ S M r d = S') (e2 : varZ S V M r d = V') (e3 : rcZ r = L') (e4 : minZ M r = M') : Calls Try.prog 26 #[.pointer (some ⟨b, 0, none⟩), .int .i64 r, .int .i64 d] w fun e w' => e = .returned (.tuple #[]) ∧ At w' b 78 #[.int .i64 S', .int .i64 V', .int .i64 L', .int .i64 M'] ∧ Only [b] w w' := by
  subst e1 e2 e3 e4; exact sample_c b S V L M r d w hA hi h0 h1
end
set_option maxRecDepth 100000 in
set_option maxHeartbeats 4000000 in
theorem sane_any (w : World) : Calls Try.prog 22 #[] w fun e w' => e = .returned (.bool true) ∧ Below w.heap.size w w' := by
  go_enter Try.func22, Try.ntmps22
  go_wp2_with fail
  refine (new_at _).mono ?_
  rintro e w0 ⟨g, rfl, hA0, ho0, hg⟩
  have HA0 := Lib.hid hA0; clear hA0
  have HO0 := Lib.hid (ho0.mono (T := [g]) (by simp)); clear ho0
  have hi0 : Hid (RInv 80 20 0 0) := Lib.hid RInv.start
  go_wp2_with fail
  refine (smo_v g 80 20 0 0 _ HA0.out hi0.out 10 (by decide)).mono ?_
  rintro e wz ⟨rfl, rfl⟩
  go_wp2_with fail
  refine (var_v g 80 20 0 0 _ HA0.out hi0.out 5 (by decide)).mono ?_
  rintro e wz ⟨rfl, rfl⟩
  go_wp2_with fail
  refine (min_v g 80 20 0 0 _ HA0.out hi0.out 0 (by decide)).mono ?_
  rintro e wz ⟨rfl, rfl⟩
  go_wp2_with fail
  refine (probe_v g 80 20 0 0 _ HA0.out hi0.out 30 0 0 (by decide)).mono ?_
  rintro e w1 ⟨rfl, hA, ho⟩
  have HA1 := Lib.hid hA
  have HO1 := Lib.hid (HO0.out.trans (ho.mono (T := [g]) (by simp)))
  clear hA ho HA0 HO0
  go_wp2_with fail
  refine (loss_v g 80 20 0 0 _ HA1.out hi0.out 12 (by decide)).mono ?_
  rintro e w2 ⟨rfl, hA, ho⟩
  have HA2 := Lib.hid hA
  have HO2 := Lib.hid (HO1.out.trans (ho.mono (T := [g]) (by simp)))
  clear hA ho HA1 HO1
  go_wp2_with fail
  refine (samp_v g 80 20 0 0 _ HA2.out hi0.out 8 0 64 16 8 8 (by decide) (by decide) (by decide) (by decide) (by decide) (by decide)).mono ?_
  rintro e w3 ⟨rfl, hA, ho⟩
  have HA3 := Lib.hid hA
  have HO3 := Lib.hid (HO2.out.trans ho)
  clear hA ho HA2 HO2
  have hi1 : Hid (RInv 64 16 8 8) := Lib.hid (by unfold RInv; omega)
  go_wp2_with fail
  refine (smo_v g 64 16 8 8 _ HA3.out hi1.out 8 (by decide)).mono ?_
  rintro e wz ⟨rfl, rfl⟩
  go_wp2_with fail
  refine (var_v g 64 16 8 8 _ HA3.out hi1.out 4 (by decide)).mono ?_
  rintro e wz ⟨rfl, rfl⟩
  go_wp2_with fail
  refine (min_v g 64 16 8 8 _ HA3.out hi1.out 8 (by decide)).mono ?_
  rintro e wz ⟨rfl, rfl⟩
  go_wp2_with fail
  refine (probe_v g 64 16 8 8 _ HA3.out hi1.out 27 3 0 (by decide)).mono ?_
  rintro e w4 ⟨rfl, hA, ho⟩
  have HA4 := Lib.hid hA
  have HO4 := Lib.hid (HO3.out.trans (ho.mono (T := [g]) (by simp)))
  clear hA ho HA3 HO3
  go_wp2_with fail
  refine (probe_v g 64 16 8 8 _ HA4.out hi1.out 54 3 1 (by decide)).mono ?_
  rintro e w5 ⟨rfl, hA, ho⟩
  have HA5 := Lib.hid hA
  have HO5 := Lib.hid (HO4.out.trans (ho.mono (T := [g]) (by simp)))
  clear hA ho HA4 HO4
  go_wp2_with fail
  refine (probe_v g 64 16 8 8 _ HA5.out hi1.out 64 3 2 (by decide)).mono ?_
  rintro e w6 ⟨rfl, hA, ho⟩
  have HA6 := Lib.hid hA
  have HO6 := Lib.hid (HO5.out.trans (ho.mono (T := [g]) (by simp)))
  clear hA ho HA5 HO5
  go_wp2_with fail
  refine (loss_v g 64 16 8 8 _ HA6.out hi1.out 9 (by decide)).mono ?_
  rintro e w7 ⟨rfl, hA, ho⟩
  have HA7 := Lib.hid hA
  have HO7 := Lib.hid (HO6.out.trans (ho.mono (T := [g]) (by simp)))
  clear hA ho HA6 HO6
  go_wp2_with fail
  refine (samp_v g 64 16 8 8 _ HA7.out hi1.out 16 0 72 20 16 8 (by decide) (by decide) (by decide) (by decide) (by decide) (by decide)).mono ?_
  rintro e w8 ⟨rfl, hA, ho⟩
  have HA8 := Lib.hid hA
  have HO8 := Lib.hid (HO7.out.trans ho)
  clear hA ho HA7 HO7
  have hi2 : Hid (RInv 72 20 16 8) := Lib.hid (by unfold RInv; omega)
  go_wp2_with fail
  refine (smo_v g 72 20 16 8 _ HA8.out hi2.out 9 (by decide)).mono ?_
  rintro e wz ⟨rfl, rfl⟩
  go_wp2_with fail
  refine (var_v g 72 20 16 8 _ HA8.out hi2.out 5 (by decide)).mono ?_
  rintro e wz ⟨rfl, rfl⟩
  go_wp2_with fail
  refine (min_v g 72 20 16 8 _ HA8.out hi2.out 8 (by decide)).mono ?_
  rintro e wz ⟨rfl, rfl⟩
  go_wp2_with fail
  refine (loss_v g 72 20 16 8 _ HA8.out hi2.out 18 (by decide)).mono ?_
  rintro e w9 ⟨rfl, hA, ho⟩
  have HA9 := Lib.hid hA
  have HO9 := Lib.hid (HO8.out.trans (ho.mono (T := [g]) (by simp)))
  clear hA ho HA8 HO8
  go_wp2_with fail
  refine (samp_v g 72 20 16 8 _ HA9.out hi2.out 20 5 78 21 20 8 (by decide) (by decide) (by decide) (by decide) (by decide) (by decide)).mono ?_
  rintro e w10 ⟨rfl, hA, ho⟩
  have HA10 := Lib.hid hA
  have HO10 := Lib.hid (HO9.out.trans ho)
  clear hA ho HA9 HO9
  have hi3 : Hid (RInv 78 21 20 8) := Lib.hid (by unfold RInv; omega)
  go_wp2_with fail
  refine (min_v g 78 21 20 8 _ HA10.out hi3.out 8 (by decide)).mono ?_
  rintro e wz ⟨rfl, rfl⟩
  go_wp2_with fail
  go_ret
  exact ⟨rfl, HO10.out.below (by simp; omega) (Nat.le_refl _)⟩
end Go.Proofs.Ythjlkiilkiggiaa.Rt
