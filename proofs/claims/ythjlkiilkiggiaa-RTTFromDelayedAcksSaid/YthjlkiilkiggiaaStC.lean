/- Contracts of package rtt: LossDelay, Probe. -/
import Derived.Test.YthjlkiilkiggiaaStB
import Derived.LoopTactic
namespace Go.Proofs.Ythjlkiilkiggiaa.Rt
open Go.Proofs.Ythjlkiilkiggiaa
open Go.RowKit
set_option linter.unusedVariables false
set_option linter.unusedSimpArgs false

set_option maxHeartbeats 400000 in
theorem loss_c (b : Nat) (S V L M : Int) (w : World) (hA : At w b 78 #[.int .i64 S, .int .i64 V, .int .i64 L, .int .i64 M]) (h0 : 0 ≤ S) (h1 : S ≤ 8000000) (h2 : 0 ≤ L) (h3 : L ≤ 1000000) :
    Calls Try.prog 39 #[.pointer (some ⟨b, 0, none⟩)] w fun e w' => e = .returned (.int .i64 (lossZ S L)) ∧ Only [] w w' := by
  have c2 : w.cell? ⟨b, 2, none⟩ = some (.int .i64 L) := hA.cell 2 rfl
  obtain ⟨X, hX⟩ : ∃ X, mxZ (S / 8) L = X := ⟨_, rfl⟩
  have hl : lossZ S L = mxZ (X + (X + 8 - 1) / 8) 1 := by unfold lossZ; rw [hX, show X + 7 = X + 8 - 1 from by omega]
  rw [hl]; clear hl
  have hb := mxZ_bd (S / 8) L
  rw [hX] at hb
  have x0 : 0 ≤ X := by omega
  have x1 : X ≤ 1000000 := by omega
  clear hb
  have HX := Lib.hid hX; clear hX
  go_enter Try.func39, Try.ntmps39
  go_wp2_with fail
  go_region_held3 (fun w' => w'.cell? ⟨b, 2, none⟩ = some (.int .i64 L)) (go_keep) (first | (go_at_call 27; refine (smoothed_c b S V L M _ (by exact hA) h0 (by omega)).mono ?_; rintro e w' ⟨rfl, rfl⟩) | (go_at_call 40; refine (most_c _ (S / 8) L _ (by simp) (by simp)).mono ?_; rintro e w' ⟨rfl, rfl⟩))
  rw [HX.out]
  have ho := ((Only.refl [] w).alloc (.cells #[Value.int IntKind.i64 (S / 8), Value.int IntKind.i64 L] 3)).drew
  obtain ⟨w2, hw2⟩ : ∃ w2, (w.alloc (.cells #[Value.int IntKind.i64 (S / 8), Value.int IntKind.i64 L] 3)).drew = w2 := ⟨_, rfl⟩
  rw [hw2] at ho ⊢
  clear hw2 hA c2
  go_wp2_with fail
  refine (most_c _ (X + (X + 8 - 1) / 8) 1 _ (by simp) (by simp)).mono ?_
  rintro e w' ⟨rfl, rfl⟩
  go_wp2_with fail
  go_ret
  exact ⟨rfl, ho.alloc _⟩
set_option maxHeartbeats 400000 in
theorem probe_max (b : Nat) (d k : Int) (w : World) (h : 64 ≤ d ∨ 64 ≤ k) :
    Calls Try.prog 38 #[.pointer (some ⟨b, 0, none⟩), .int .i64 d, .int .i64 k] w fun e w' => e = .returned (.int .i64 64) ∧ w = w' := by
  rcases h with h | h
  · go_enter Try.func38, Try.ntmps38
    go_wp2_with fail
    go_ret
    exact ⟨rfl, rfl⟩
  · by_cases h' : 64 ≤ d
    all_goals
      go_enter Try.func38, Try.ntmps38
      go_wp2_with fail
      go_ret
      exact ⟨rfl, rfl⟩
set_option maxHeartbeats 800000 in
theorem probe_run (b : Nat) (S V L M d k : Int) (w : World) (hA : At w b 78 #[.int .i64 S, .int .i64 V, .int .i64 L, .int .i64 M]) (h0 : 0 ≤ S) (h1 : S ≤ 8000000) (h2 : 0 ≤ V) (h3 : V ≤ 4000000) (hd : d < 64) (hk : k < 64) :
    Calls Try.prog 38 #[.pointer (some ⟨b, 0, none⟩), .int .i64 d, .int .i64 k] w fun e w' => e = .returned (.int .i64 (prZ (mxZ k 0).toNat (toZ S V d))) ∧ Only [] w w' := by
  have HA := Lib.hid hA; clear hA
  obtain ⟨G, hG⟩ : ∃ G, mxZ (4 * (V / 4)) 1 = G := ⟨_, rfl⟩
  obtain ⟨D, hD⟩ : ∃ D, mxZ d 0 = D := ⟨_, rfl⟩
  obtain ⟨K, hK⟩ : ∃ K : Nat, mxZ k 0 = K := ⟨(mxZ k 0).toNat, by have := mxZ_bd k 0; omega⟩
  have g0 : 1 ≤ G ∧ G ≤ 4000000 := by have := mxZ_bd (4 * (V / 4)) 1; omega
  have d0 : 0 ≤ D ∧ D ≤ 64 := by have := mxZ_bd d 0; omega
  have k0 : K ≤ 64 := by have := mxZ_bd k 0; omega
  obtain ⟨g0, g1⟩ := g0
  obtain ⟨d0, d1⟩ := d0
  have hz : prZ (mxZ k 0).toNat (toZ S V d) = prZ K (S / 8 + G + D) := by unfold toZ; rw [hG, hD, hK, Int.toNat_natCast]
  rw [hz]; clear hz
  have q1 : decide ((64 : Int) ≤ d) = false := by simp; omega
  have q2 : decide ((64 : Int) ≤ k) = false := by simp; omega
  obtain ⟨Rz, hRz⟩ : ∃ z, prZ K (S / 8 + G + D) = z := ⟨_, rfl⟩
  rw [hRz]
  have HRz := Lib.hid hRz; clear hRz
  have HG := Lib.hid hG; clear hG
  have HD := Lib.hid hD; clear hD
  have HK := Lib.hid hK; clear hK
  go_enter Try.func38, Try.ntmps38
  go_wp2_with fail
  refine (smoothed_c b S V L M _ HA.out h0 (by omega)).mono ?_
  rintro e w' ⟨rfl, rfl⟩
  go_wp2_with fail
  refine (variation_c b S V L M _ HA.out h2 (by omega)).mono ?_
  rintro e w' ⟨rfl, rfl⟩
  go_wp2_with fail
  refine (most_c _ (4 * (V / 4)) 1 _ (by simp) (by simp)).mono ?_
  rintro e w1 ⟨rfl, hw1⟩
  rw [HG.out]
  have HO1 := Lib.hid ((Only.refl [] w).alloc (.cells #[Value.int IntKind.i64 (4 * (V / 4)), Value.int IntKind.i64 1] 3))
  rw [hw1] at HO1
  clear hw1 HA
  go_wp2_with fail
  refine (most_c _ d 0 _ (by simp) (by simp)).mono ?_
  rintro e w2 ⟨rfl, hw2⟩
  rw [HD.out]
  have HO2 := Lib.hid (HO1.out.alloc (.cells #[Value.int IntKind.i64 d, Value.int IntKind.i64 0] 3))
  rw [hw2] at HO2
  clear hw2 HO1
  go_wp2_with fail
  refine (most_c _ k 0 _ (by simp) (by simp)).mono ?_
  rintro e w3 ⟨rfl, hw3⟩
  rw [HK.out]
  have HO3 := Lib.hid (HO2.out.alloc (.cells #[Value.int IntKind.i64 k, Value.int IntKind.i64 0] 3))
  rw [hw3] at HO3
  clear hw3 HO2
  go_wp2_with fail
  go_loopw [7, 33] (fun s i wr => ∃ (t : Int) (j : Nat), s = .int .i64 t ∧ i = .int .i64 j ∧ j ≤ K ∧ 0 ≤ t ∧ t ≤ 10000000 ∧ Hid (prZ (K - j) t = Rz) ∧ Only [] w wr) (fun _ i _ => K - (intOf i).toNat)
  case atStart => exact ⟨_, 0, rfl, rfl, by omega, by omega, by omega, HRz, HO3.out⟩
  case round =>
    obtain ⟨t, j, rfl, rfl, hj, t0, t1, ht, ho⟩ := hrel
    by_cases hlt : j < K
    · obtain ⟨N, hN⟩ : ∃ N, mnZ (2 * t) 64 = N := ⟨_, rfl⟩
      have hnx : prZ (K - (j + 1)) N = Rz := by
        have := ht.out
        rw [show K - j = (K - (j + 1)) + 1 from by omega] at this
        rw [← this, ← hN, prZ_cap]; rfl
      have hb := mnZ_bd (2 * t) 64
      rw [hN] at hb
      have n0 : 0 ≤ N := by omega
      have n1 : N ≤ 64 := by omega
      clear hb
      have HN := Lib.hid hN; clear hN
      have HX := Lib.hid hnx; clear hnx
      go_wp2_with fail
      refine (least_c _ (2 * t) 64 _ (by simp) (by simp)).mono ?_
      rintro e w4 ⟨rfl, rfl⟩
      rw [HN.out]
      go_wp2_with fail
      go_roundw
      case rel => exact ⟨_, j + 1, rfl, by go_num, by omega, by omega, by omega, HX, ho.alloc _⟩
      case measure => simp [intOf]; omega
    · obtain rfl : j = K := by omega
      have hfin : mnZ t 64 = Rz := by have := ht.out; rw [show j - j = 0 from by omega] at this; exact this
      have HF := Lib.hid hfin; clear hfin
      go_wp2_with fail
      refine (least_c _ t 64 _ (by simp) (by simp)).mono ?_
      rintro e w4 ⟨rfl, rfl⟩
      rw [HF.out]
      go_wp2_with fail
      go_ret
      exact ⟨rfl, ho.alloc _⟩
theorem probe_c (b : Nat) (S V L M d k : Int) (w : World) (hA : At w b 78 #[.int .i64 S, .int .i64 V, .int .i64 L, .int .i64 M]) (hi : RInv S V L M) :
    Calls Try.prog 38 #[.pointer (some ⟨b, 0, none⟩), .int .i64 d, .int .i64 k] w fun e w' => e = .returned (.int .i64 (probeZ S V d k)) ∧ Only [] w w' := by
  have hb := hi.bd
  by_cases h1 : 64 ≤ d
  · have : probeZ S V d k = 64 := by unfold probeZ; rw [if_pos h1]
    rw [this]
    exact (probe_max b d k w (.inl h1)).mono fun e w' ⟨x, y⟩ => ⟨x, y ▸ Only.refl _ _⟩
  by_cases h2 : 64 ≤ k
  · have : probeZ S V d k = 64 := by unfold probeZ; rw [if_neg h1, if_pos h2]
    rw [this]
    exact (probe_max b d k w (.inr h2)).mono fun e w' ⟨x, y⟩ => ⟨x, y ▸ Only.refl _ _⟩
  · have : probeZ S V d k = prZ (mxZ k 0).toNat (toZ S V d) := by unfold probeZ; rw [if_neg h1, if_neg h2]
    rw [this]
    exact probe_run b S V L M d k w hA (by omega) (by omega) (by omega) (by omega) (by omega) (by omega)
end Go.Proofs.Ythjlkiilkiggiaa.Rt
