/- The reference's reading methods; the methods at known values; pick; the fixed examples. -/
import Derived.Test.YtdjjcocmhfmpeaaRtD
namespace Go.Proofs.Ytdjjcocmhfmpeaa
open Go.RowKit
set_option linter.unusedVariables false
set_option linter.unusedSectionVars false
set_option linter.unusedSimpArgs false

section
variable (b : Nat) (S V L M : Int) (x : Bool) (w : World) (hA : At w b 30 #[.int .i64 L, .int .i64 M, .int .i64 S, .int .i64 V, .bool x])
include hA
theorem xsmoothed_c (h0 : 0 ≤ S) (h1 : S ≤ 1000000000) : Calls Try.prog 15 #[.pointer (some ⟨b, 0, none⟩)] w fun e w' => e = .returned (.int .i64 (S / 8)) ∧ w = w' := by
  have c2 : w.cell? ⟨b, 2, none⟩ = some (.int .i64 S) := hA.cell 2 rfl
  clear hA
  go_enter Try.func15, Try.ntmps15
  go_wp2
  go_ret
  exact ⟨rfl, rfl⟩
theorem xvariation_c (h0 : 0 ≤ V) (h1 : V ≤ 1000000000) : Calls Try.prog 17 #[.pointer (some ⟨b, 0, none⟩)] w fun e w' => e = .returned (.int .i64 (V / 4)) ∧ w = w' := by
  have c3 : w.cell? ⟨b, 3, none⟩ = some (.int .i64 V) := hA.cell 3 rfl
  clear hA
  go_enter Try.func17, Try.ntmps17
  go_wp2
  go_ret
  exact ⟨rfl, rfl⟩
set_option maxHeartbeats 400000 in
theorem xloss_c (h0 : 0 ≤ S) (h1 : S ≤ 8000000) (h2 : 0 ≤ L) (h3 : L ≤ 1000000) : Calls Try.prog 20 #[.pointer (some ⟨b, 0, none⟩)] w fun e w' => e = .returned (.int .i64 (lossZ S L)) ∧ Only [] w w' := by
  have c2 : w.cell? ⟨b, 2, none⟩ = some (.int .i64 S) := hA.cell 2 rfl
  have c0 : w.cell? ⟨b, 0, none⟩ = some (.int .i64 L) := hA.cell 0 rfl
  clear hA
  rw [lossZ_eq]
  obtain ⟨Y, hY⟩ : ∃ Y, mxZ (S / 8) L = Y := ⟨_, rfl⟩
  rw [hY]
  have hb := mxZ_bd (S / 8) L
  rw [hY] at hb
  have y0 : 0 ≤ Y := by omega
  have y1 : Y ≤ 1000000 := by omega
  clear hb
  obtain ⟨Z, hZ⟩ : ∃ Z, mxZ ((9 * Y + 7) / 8) 1 = Z := ⟨_, rfl⟩
  rw [hZ]
  have e1 : IntKind.i64.wrap (S.tdiv 8) = S / 8 := by rw [Int.tdiv_eq_ediv_of_nonneg h0]; exact IntWalk.i64_in _ (by omega)
  have e2 : IntKind.i64.wrap (9 * Y) = 9 * Y := IntWalk.i64_in _ (by omega)
  have e3 : IntKind.i64.wrap (9 * Y + 7) = 9 * Y + 7 := IntWalk.i64_in _ (by omega)
  have e4 : IntKind.i64.wrap ((9 * Y + 7).tdiv 8) = (9 * Y + 7) / 8 := by rw [Int.tdiv_eq_ediv_of_nonneg (by omega)]; exact IntWalk.i64_in _ (by omega)
  have q1 : (if S / 8 < L then L else S / 8) = Y := hY
  have q2 : (if (9 * Y + 7) / 8 < 1 then 1 else (9 * Y + 7) / 8) = Z := hZ
  clear hY hZ
  go_enter Try.func20, Try.ntmps20
  go_wp2_with fail
  go_quiet (fail)
  go_wp2_with fail
  go_ret
  exact ⟨rfl, (Only.refl _ _).drewN _⟩
set_option maxHeartbeats 400000 in
theorem xprobe_max (d k : Int) (h : 64 ≤ d ∨ 64 ≤ k) :
    Calls Try.prog 22 #[.pointer (some ⟨b, 0, none⟩), .int .i64 d, .int .i64 k] w fun e w' => e = .returned (.int .i64 64) ∧ w = w' := by
  clear hA
  rcases h with h | h
  · go_enter Try.func22, Try.ntmps22
    go_wp2_with fail
    go_ret
    exact ⟨rfl, rfl⟩
  · by_cases h' : 64 ≤ d
    all_goals
      go_enter Try.func22, Try.ntmps22
      go_wp2_with fail
      go_ret
      exact ⟨rfl, rfl⟩
set_option maxHeartbeats 800000 in
theorem xprobe_run (d k : Int) (h0 : 0 ≤ S) (h1 : S ≤ 8000000) (h2 : 0 ≤ V) (h3 : V ≤ 4000000) (hd : d < 64) (hk : k < 64) :
    Calls Try.prog 22 #[.pointer (some ⟨b, 0, none⟩), .int .i64 d, .int .i64 k] w fun e w' => e = .returned (.int .i64 (prZ (mxZ k 0).toNat (toZ S V d))) ∧ Only [] w w' := by
  have c2 : w.cell? ⟨b, 2, none⟩ = some (.int .i64 S) := hA.cell 2 rfl
  have c3 : w.cell? ⟨b, 3, none⟩ = some (.int .i64 V) := hA.cell 3 rfl
  clear hA
  obtain ⟨G, hG⟩ : ∃ G, mxZ (4 * (V / 4)) 1 = G := ⟨_, rfl⟩
  obtain ⟨D, hD⟩ : ∃ D, mxZ d 0 = D := ⟨_, rfl⟩
  have g0 : 1 ≤ G ∧ G ≤ 4000000 := by have := mxZ_bd (4 * (V / 4)) 1; omega
  have d0 : 0 ≤ D ∧ D ≤ 64 := by have := mxZ_bd d 0; omega
  obtain ⟨g0, g1⟩ := g0
  obtain ⟨d0, d1⟩ := d0
  obtain ⟨Rz, hRz⟩ : ∃ z, prZ (mxZ k 0).toNat (toZ S V d) = z := ⟨_, rfl⟩
  have hz : prZ (mxZ k 0).toNat (S / 8 + G + D) = Rz := by rw [← hRz]; unfold toZ; rw [hG, hD]
  rw [hRz]
  clear hRz
  have HZ := Lib.hid hz; clear hz
  have q1 : decide ((64 : Int) ≤ d) = false := by simp; omega
  have q2 : decide ((64 : Int) ≤ k) = false := by simp; omega
  have e1 : IntKind.i64.wrap (S.tdiv 8) = S / 8 := by rw [Int.tdiv_eq_ediv_of_nonneg h0]; exact IntWalk.i64_in _ (by omega)
  have e2 : IntKind.i64.wrap (V.tdiv 4) = V / 4 := by rw [Int.tdiv_eq_ediv_of_nonneg h2]; exact IntWalk.i64_in _ (by omega)
  have e3 : IntKind.i64.wrap (4 * (V / 4)) = 4 * (V / 4) := IntWalk.i64_in _ (by omega)
  have e4 : IntKind.i64.wrap (S / 8 + G) = S / 8 + G := IntWalk.i64_in _ (by omega)
  have e5 : IntKind.i64.wrap (S / 8 + G + D) = S / 8 + G + D := IntWalk.i64_in _ (by omega)
  have q3 : (if 4 * (V / 4) < 1 then 1 else 4 * (V / 4)) = G := hG
  have q4 : (if d < 0 then 0 else d) = D := hD
  clear hG hD
  go_enter Try.func22, Try.ntmps22
  go_wp2_with fail
  go_quiet (fail)
  clear q3 q4 e1 e2 e3 e4 e5
  go_wp2_with fail
  obtain ⟨K, hK⟩ : ∃ K, (mxZ k 0).toNat = K := ⟨_, rfl⟩
  rw [hK] at HZ
  have hKk : (0 ≤ k → (K : Int) = k) ∧ (k < 0 → K = 0) := by
    have hz : mxZ k 0 = if k < 0 then 0 else k := rfl
    rw [hz] at hK
    by_cases h : k < 0
    · rw [if_pos h] at hK; exact ⟨fun h' => by omega, fun _ => by omega⟩
    · rw [if_neg h] at hK; exact ⟨fun _ => by omega, fun h' => by omega⟩
  have HK := Lib.hid hKk
  clear hK hKk
  go_loop [7, 8] (fun s i => ∃ (t : Int) (j : Nat), s = .int .i64 t ∧ i = .int .i64 j ∧ j ≤ K ∧ K ≤ 64 ∧ 0 ≤ t ∧ t ≤ 10000000 ∧ Hid (prZ (K - j) t = Rz)) (fun _ i => K - (intOf i).toNat)
  case atStart => exact ⟨_, 0, rfl, rfl, by omega, by have := HK.out; omega, by omega, by omega, HZ⟩
  case round =>
    obtain ⟨t, j, rfl, rfl, hj, hK6, t0, t1, ht⟩ := hrel
    by_cases hlt : (j : Int) < k ∧ t < 64
    · obtain ⟨hlt1, hlt2⟩ := hlt
      have hjK : j < K := by have := HK.out; omega
      have hnx : prZ (K - (j + 1)) (2 * t) = Rz := by
        have := ht.out
        rw [show K - j = (K - (j + 1)) + 1 from by omega] at this
        exact this
      have HX := Lib.hid hnx; clear hnx
      go_wp2_with fail
      go_round
      case rel => exact ⟨_, j + 1, rfl, by go_num, by omega, by omega, by omega, by omega, HX⟩
      case measure => simp [intOf]; omega
    · have hfin : mnZ t 64 = Rz := by
        have := ht.out
        by_cases h : t < 64
        · have h' : j = K := by have := HK.out; omega
          rw [h', show K - K = 0 from by omega] at this; exact this
        · rw [prZ_big _ t (by omega)] at this
          rw [← this]; unfold mnZ; split <;> omega
      have HF := Lib.hid hfin; clear hfin
      have hz : mnZ t 64 = if 64 < t then 64 else t := rfl
      have HM := Lib.hid hz; clear hz
      by_cases h64 : 64 < t
      · have h1 : ¬ t < 64 := by omega
        by_cases hjk : (j : Int) < k
        all_goals
          go_wp2_with fail
          go_ret
          exact ⟨ret_int (by rw [← HF.out, HM.out, if_pos (by omega)]), (Only.refl _ _).drewN _⟩
      · by_cases hjk : (j : Int) < k
        all_goals
          go_wp2_with fail
          go_ret
          exact ⟨ret_int (by rw [← HF.out, HM.out, if_neg (by omega)]), (Only.refl _ _).drewN _⟩
theorem xprobe_c (d k : Int) (hi : RInv S V L M) :
    Calls Try.prog 22 #[.pointer (some ⟨b, 0, none⟩), .int .i64 d, .int .i64 k] w fun e w' => e = .returned (.int .i64 (probeZ S V d k)) ∧ Only [] w w' := by
  have hb := hi.bd
  by_cases h1 : 64 ≤ d
  · have : probeZ S V d k = 64 := by unfold probeZ; rw [if_pos h1]
    rw [this]
    exact (xprobe_max b S V L M x w hA d k (.inl h1)).mono fun e w' ⟨x, y⟩ => ⟨x, y ▸ Only.refl _ _⟩
  by_cases h2 : 64 ≤ k
  · have : probeZ S V d k = 64 := by unfold probeZ; rw [if_neg h1, if_pos h2]
    rw [this]
    exact (xprobe_max b S V L M x w hA d k (.inr h2)).mono fun e w' ⟨x, y⟩ => ⟨x, y ▸ Only.refl _ _⟩
  · have : probeZ S V d k = prZ (mxZ k 0).toNat (toZ S V d) := by unfold probeZ; rw [if_neg h1, if_neg h2]
    rw [this]
    exact xprobe_run b S V L M x w hA d k (by omega) (by omega) (by omega) (by omega) (by omega) (by omega)
end

/-- What 'pick' answers. -/
def pickZ (c n : Int) : Int := (if c < 0 then -(c + 1) else c) % n
theorem pickZ_bd (c n : Int) (hn : 0 < n) : 0 ≤ pickZ c n ∧ pickZ c n < n := by
  unfold pickZ
  exact ⟨Int.emod_nonneg _ (by omega), Int.emod_lt_of_pos _ hn⟩
theorem pick_any (c n : Int) (w : World) (h1 : -9223372036854775808 ≤ c) (h2 : c ≤ 9223372036854775807) (hn : 0 < n) :
    Calls Try.prog 25 #[.int .i64 c, .int .i64 n] w fun e w' => e = .returned (.int .i64 (pickZ c n)) ∧ w = w' := by
  have e1 : c < 0 → -((c + 1).tmod n) = pickZ c n := by
    intro h; unfold pickZ; rw [if_pos h]; rw [← Int.neg_tmod]; exact Int.tmod_eq_emod_of_nonneg (by omega)
  have e2 : 0 ≤ c → c % n = pickZ c n := by
    intro h; unfold pickZ; rw [if_neg (by omega)]
  have E1 := Lib.hid e1
  have E2 := Lib.hid e2
  clear e1 e2
  by_cases hc : c < 0
  · go_enter Try.func25, Try.ntmps25
    go_wp2
    go_ret
    exact ⟨ret_int (E1.out hc), rfl⟩
  · go_enter Try.func25, Try.ntmps25
    go_wp2
    go_ret
    exact ⟨ret_int (E2.out (by omega)), rfl⟩
theorem pick_ex (c n : Int) (w : World) (h1 : -9223372036854775808 ≤ c) (h2 : c ≤ 9223372036854775807) (hn : 0 < n) :
    Calls Try.prog 25 #[.int .i64 c, .int .i64 n] w fun e w' => ∃ r, 0 ≤ r ∧ r < n ∧ e = .returned (.int .i64 r) ∧ w = w' :=
  (pick_any c n w h1 h2 hn).mono fun _ _ ⟨h, k⟩ => ⟨_, (pickZ_bd c n hn).1, (pickZ_bd c n hn).2, h, k⟩

theorem new_at (w : World) : Calls Try.prog 12 #[] w fun e w' => ∃ g, e = .returned (.pointer (some ⟨g, 0, none⟩)) ∧ At w' g 48 #[.int .i64 80, .int .i64 20, .int .i64 0, .int .i64 0] ∧ Only [] w w' ∧ w.heap.size ≤ g :=
  (new_c w).mono fun e w' ⟨h1, h2⟩ => ⟨_, h1, by rw [h2]; exact At.new _ _ _, by rw [h2]; exact (Only.refl _ _).alloc _, Nat.le_refl _⟩
theorem xnew_at (w : World) : Calls Try.prog 13 #[] w fun e w' => ∃ g, e = .returned (.pointer (some ⟨g, 0, none⟩)) ∧ At w' g 30 #[.int .i64 0, .int .i64 0, .int .i64 80, .int .i64 20, .bool false] ∧ Only [] w w' ∧ w.heap.size ≤ g :=
  (xnew_c w).mono fun e w' ⟨h1, h2⟩ => ⟨_, h1, by rw [h2]; exact At.new _ _ _, by rw [h2]; exact (Only.refl _ _).alloc _, Nat.le_refl _⟩
section
variable (b : Nat) (S V L M : Int) (w : World) (hA : At w b 48 #[.int .i64 S, .int .i64 V, .int .i64 L, .int .i64 M]) (hi : RInv S V L M)
include hA hi
theorem smo_v (z : Int) (hz : S / 8 = z) : Calls Try.prog 14 #[.pointer (some ⟨b, 0, none⟩)] w fun e w' => e = .returned (.int .i64 z) ∧ w = w' := by
  have h := hi.bd; subst hz; exact smoothed_c b S V L M w hA (by omega) (by omega)
theorem var_v (z : Int) (hz : V / 4 = z) : Calls Try.prog 16 #[.pointer (some ⟨b, 0, none⟩)] w fun e w' => e = .returned (.int .i64 z) ∧ w = w' := by
  have h := hi.bd; subst hz; exact variation_c b S V L M w hA (by omega) (by omega)
theorem min_v (z : Int) (hz : M = z) : Calls Try.prog 18 #[.pointer (some ⟨b, 0, none⟩)] w fun e w' => e = .returned (.int .i64 z) ∧ w = w' := by
  subst hz; exact minimum_c b S V L M w hA
theorem loss_v (z : Int) (hz : lossZ S L = z) : Calls Try.prog 19 #[.pointer (some ⟨b, 0, none⟩)] w fun e w' => e = .returned (.int .i64 z) ∧ At w' b 48 #[.int .i64 S, .int .i64 V, .int .i64 L, .int .i64 M] ∧ Only [] w w' := by
  have h := hi.bd; subst hz; exact (loss_c b S V L M w hA (by omega) (by omega) (by omega) (by omega)).mono fun e w' ⟨h1, h2⟩ => ⟨h1, hA.keep h2 (by simp), h2⟩
theorem probe_v (z d k : Int) (hz : probeZ S V d k = z) : Calls Try.prog 21 #[.pointer (some ⟨b, 0, none⟩), .int .i64 d, .int .i64 k] w fun e w' => e = .returned (.int .i64 z) ∧ At w' b 48 #[.int .i64 S, .int .i64 V, .int .i64 L, .int .i64 M] ∧ Only [] w w' := by
  subst hz; exact (probe_c b S V L M d k w hA hi).mono fun e w' ⟨h1, h2⟩ => ⟨h1, hA.keep h2 (by simp), h2⟩
theorem samp_v (r d S' V' L' M' : Int) (h0 : 0 ≤ r) (h1 : r ≤ 1000000) (e1 : smoZ S M r d = S') (e2 : varZ S V M r d = V') (e3 : rcZ r = L') (e4 : minZ M r = M') : Calls Try.prog 23 #[.pointer (some ⟨b, 0, none⟩), .int .i64 r, .int .i64 d] w fun e w' => e = .returned (.tuple #[]) ∧ At w' b 48 #[.int .i64 S', .int .i64 V', .int .i64 L', .int .i64 M'] ∧ Only [b] w w' := by
  subst e1 e2 e3 e4; exact sample_c b S V L M r d w hA hi h0 h1
end
set_option maxRecDepth 100000 in
set_option maxHeartbeats 4000000 in
theorem sane_any (w : World) : Calls Try.prog 11 #[] w fun e w' => e = .returned (.bool true) ∧ Below w.heap.size w w' := by
  go_enter Try.func11, Try.ntmps11
  go_wp2_with fail
  refine (new_at _).mono ?_
  rintro e w0 ⟨g, rfl, hA0, ho0, hg⟩
  have HA0 := Lib.hid hA0; clear hA0
  have HO0 := Lib.hid (ho0.mono (T := [g]) (by simp)); clear ho0
  have hi0 : Hid (RInv 80 20 0 0) := Lib.hid RInv.start
  go_wp2_with fail
  refine (smo_v g 80 20 0 0 _ HA0.out hi0.out 10 (by decide)).mono ?_
  rintro e wz ⟨rfl, rfl⟩
  go_wp2_with fail
  refine (var_v g 80 20 0 0 _ HA0.out hi0.out 5 (by decide)).mono ?_
  rintro e wz ⟨rfl, rfl⟩
  go_wp2_with fail
  refine (min_v g 80 20 0 0 _ HA0.out hi0.out 0 (by decide)).mono ?_
  rintro e wz ⟨rfl, rfl⟩
  go_wp2_with fail
  refine (probe_v g 80 20 0 0 _ HA0.out hi0.out 30 0 0 (by decide)).mono ?_
  rintro e w1 ⟨rfl, hA, ho⟩
  have HA1 := Lib.hid hA
  have HO1 := Lib.hid (HO0.out.trans (ho.mono (T := [g]) (by simp)))
  clear hA ho HA0 HO0
  go_wp2_with fail
  refine (loss_v g 80 20 0 0 _ HA1.out hi0.out 12 (by decide)).mono ?_
  rintro e w2 ⟨rfl, hA, ho⟩
  have HA2 := Lib.hid hA
  have HO2 := Lib.hid (HO1.out.trans (ho.mono (T := [g]) (by simp)))
  clear hA ho HA1 HO1
  go_wp2_with fail
  refine (samp_v g 80 20 0 0 _ HA2.out hi0.out 8 0 64 16 8 8 (by decide) (by decide) (by decide) (by decide) (by decide) (by decide)).mono ?_
  rintro e w3 ⟨rfl, hA, ho⟩
  have HA3 := Lib.hid hA
  have HO3 := Lib.hid (HO2.out.trans ho)
  clear hA ho HA2 HO2
  have hi1 : Hid (RInv 64 16 8 8) := Lib.hid (by unfold RInv; omega)
  go_wp2_with fail
  refine (smo_v g 64 16 8 8 _ HA3.out hi1.out 8 (by decide)).mono ?_
  rintro e wz ⟨rfl, rfl⟩
  go_wp2_with fail
  refine (var_v g 64 16 8 8 _ HA3.out hi1.out 4 (by decide)).mono ?_
  rintro e wz ⟨rfl, rfl⟩
  go_wp2_with fail
  refine (min_v g 64 16 8 8 _ HA3.out hi1.out 8 (by decide)).mono ?_
  rintro e wz ⟨rfl, rfl⟩
  go_wp2_with fail
  refine (probe_v g 64 16 8 8 _ HA3.out hi1.out 27 3 0 (by decide)).mono ?_
  rintro e w4 ⟨rfl, hA, ho⟩
  have HA4 := Lib.hid hA
  have HO4 := Lib.hid (HO3.out.trans (ho.mono (T := [g]) (by simp)))
  clear hA ho HA3 HO3
  go_wp2_with fail
  refine (probe_v g 64 16 8 8 _ HA4.out hi1.out 54 3 1 (by decide)).mono ?_
  rintro e w5 ⟨rfl, hA, ho⟩
  have HA5 := Lib.hid hA
  have HO5 := Lib.hid (HO4.out.trans (ho.mono (T := [g]) (by simp)))
  clear hA ho HA4 HO4
  go_wp2_with fail
  refine (probe_v g 64 16 8 8 _ HA5.out hi1.out 64 3 2 (by decide)).mono ?_
  rintro e w6 ⟨rfl, hA, ho⟩
  have HA6 := Lib.hid hA
  have HO6 := Lib.hid (HO5.out.trans (ho.mono (T := [g]) (by simp)))
  clear hA ho HA5 HO5
  go_wp2_with fail
  refine (loss_v g 64 16 8 8 _ HA6.out hi1.out 9 (by decide)).mono ?_
  rintro e w7 ⟨rfl, hA, ho⟩
  have HA7 := Lib.hid hA
  have HO7 := Lib.hid (HO6.out.trans (ho.mono (T := [g]) (by simp)))
  clear hA ho HA6 HO6
  go_wp2_with fail
  refine (samp_v g 64 16 8 8 _ HA7.out hi1.out 16 0 72 20 16 8 (by decide) (by decide) (by decide) (by decide) (by decide) (by decide)).mono ?_
  rintro e w8 ⟨rfl, hA, ho⟩
  have HA8 := Lib.hid hA
  have HO8 := Lib.hid (HO7.out.trans ho)
  clear hA ho HA7 HO7
  have hi2 : Hid (RInv 72 20 16 8) := Lib.hid (by unfold RInv; omega)
  go_wp2_with fail
  refine (smo_v g 72 20 16 8 _ HA8.out hi2.out 9 (by decide)).mono ?_
  rintro e wz ⟨rfl, rfl⟩
  go_wp2_with fail
  refine (var_v g 72 20 16 8 _ HA8.out hi2.out 5 (by decide)).mono ?_
  rintro e wz ⟨rfl, rfl⟩
  go_wp2_with fail
  refine (min_v g 72 20 16 8 _ HA8.out hi2.out 8 (by decide)).mono ?_
  rintro e wz ⟨rfl, rfl⟩
  go_wp2_with fail
  refine (loss_v g 72 20 16 8 _ HA8.out hi2.out 18 (by decide)).mono ?_
  rintro e w9 ⟨rfl, hA, ho⟩
  have HA9 := Lib.hid hA
  have HO9 := Lib.hid (HO8.out.trans (ho.mono (T := [g]) (by simp)))
  clear hA ho HA8 HO8
  go_wp2_with fail
  refine (samp_v g 72 20 16 8 _ HA9.out hi2.out 20 5 78 21 20 8 (by decide) (by decide) (by decide) (by decide) (by decide) (by decide)).mono ?_
  rintro e w10 ⟨rfl, hA, ho⟩
  have HA10 := Lib.hid hA
  have HO10 := Lib.hid (HO9.out.trans ho)
  clear hA ho HA9 HO9
  have hi3 : Hid (RInv 78 21 20 8) := Lib.hid (by unfold RInv; omega)
  go_wp2_with fail
  refine (min_v g 78 21 20 8 _ HA10.out hi3.out 8 (by decide)).mono ?_
  rintro e wz ⟨rfl, rfl⟩
  go_wp2_with fail
  go_ret
  exact ⟨rfl, HO10.out.below (by simp; omega) (Nat.le_refl _)⟩
end Go.Proofs.Ytdjjcocmhfmpeaa
