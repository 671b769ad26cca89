/- Contracts of the law's helpers: pick, RangesFrom. -/
import Derived.Test.YtmmgmpghkpbgkaaFrF
import Derived.Test.YtmmgmpghkpbgkaaFsA
import Derived.Deep.LoopGhost
import Derived.Lib.AppendZeros
namespace Go.Proofs.Ytmmgmpghkpbgkaa
open Go Go.RowKit
set_option linter.unusedVariables false
set_option linter.unusedSimpArgs false

theorem pk9 (c n : Int) (w : World) (h1 : -9223372036854775808 ≤ c) (h2 : c ≤ 9223372036854775807) (hn : 0 < n) :
    Calls Try.prog 25 #[.int .i64 c, .int .i64 n] w fun e w' => e = .returned (.int .i64 (pkZ c n)) ∧ w = w' := by
  have e1 : c < 0 → -((c + 1).tmod n) = pkZ c n := by
    intro h; unfold pkZ; rw [if_pos h]; rw [← Int.neg_tmod]; exact Int.tmod_eq_emod_of_nonneg (by omega)
  have e2 : 0 ≤ c → c % n = pkZ c n := by
    intro h; unfold pkZ; rw [if_neg (by omega)]
  have E1 := Lib.hid e1
  have E2 := Lib.hid e2
  clear e1 e2
  by_cases hc : c < 0
  · go_enter Try.func25, Try.ntmps25
    go_wp2
    go_ret
    exact ⟨ret_int (E1.out hc), rfl⟩
  · go_enter Try.func25, Try.ntmps25
    go_wp2
    go_ret
    exact ⟨ret_int (E2.out (by omega)), rfl⟩
theorem RgO.shape {w : World} {base : Nat} {v : Value} {L : List (Int × Int)} (h : RgO w base v L) : ∃ a cap, v = .slice a L.length cap := by
  rcases h.2 with ⟨rfl, h2⟩ | ⟨g, cap, cur, rfl, _⟩
  · rw [h2]; exact ⟨_, _, rfl⟩
  · exact ⟨_, _, rfl⟩
def RfRel (w : World) (gk : Nat) (tv ov iv : Value) (wr : World) : Prop := ∃ (k : Nat) (L : List (Int × Int)) (tz : Int), gk = 16 - k ∧ k ≤ 16 ∧ iv = .int .i64 k ∧ tv = .int .i64 tz ∧ Hid (RfInv k L tz) ∧ Hid (RgO wr w.heap.size ov L) ∧ Hid (Only [] w wr)
set_option maxRecDepth 100000 in
set_option maxHeartbeats 4000000 in
theorem rangesFrom_c (av : Value) (A : List (Int × Int)) (lg : Int) (w : World) (hA : RgAt w av A) (h1 : -9223372036854775808 ≤ lg) (h2 : lg ≤ 9223372036854775807) :
    Calls Try.prog 31 #[av, .int .i64 lg] w fun e w' => ∃ rv R, e = .returned rv ∧ RgO w' w.heap.size rv R ∧ R ≠ [] ∧ R.length ≤ 16 ∧ RgOk 281474976710658 R ∧ Only [] w w' := by
  obtain ⟨a, cap, rfl, hcs⟩ := hA
  have hp := pkZ_bd lg 1073741824 (by omega)
  obtain ⟨q, hq⟩ : ∃ q, pkZ lg 1073741824 = q := ⟨_, rfl⟩
  have hpk := fun ww => pk9 lg 1073741824 ww h1 h2 (by omega)
  rw [hq] at hp hpk
  clear hq
  go_enter Try.func31, Try.ntmps31
  go_wp2_with fail
  refine (hpk _).mono ?_
  rintro e w1 ⟨rfl, rfl⟩
  have e0 : IntKind.i64.wrap (1 + q) = 1 + q := IntWalk.i64_in _ (by omega)
  go_wp2_with fail
  go_loopg [5, 6, 7] 16 (fun gk tv ov iv wr => RfRel w gk tv ov iv wr)
  case atStart => exact ⟨0, [], _, rfl, by omega, rfl, rfl, Lib.hid (RfInv.start hp.1 hp.2), Lib.hid ⟨rfl, .inl ⟨rfl, rfl⟩⟩, Lib.hid (Only.refl _ _)⟩
  case round =>
    obtain ⟨k, L, tz, rfl, hk, rfl, rfl, hI, hG, hO⟩ := hrel
    obtain ⟨ga, gc, rfl⟩ := hG.out.shape
    have hto := hI.out.top
    have htl := hI.out.low
    by_cases hin : k < A.length ∧ k < 16 ∧ 0 < tz
    · obtain ⟨hk1, hk2, ht⟩ := hin
      obtain ⟨g, off, rfl, hg, c1, c2, r1, r2⟩ := hcs k hk1
      obtain ⟨X, hX⟩ : ∃ X, (A[k]'hk1).1 = X := ⟨_, rfl⟩
      obtain ⟨Y, hY⟩ : ∃ Y, (A[k]'hk1).2 = Y := ⟨_, rfl⟩
      rw [hX] at c1 r1
      rw [hY] at c2 r2
      have c1' : wr.cell? ⟨g, off + k * 2, none⟩ = some (.int .i64 X) := (hO.out.cell (p := ⟨g, off + k * 2, none⟩) hg (by simp)).trans c1
      have c2' : wr.cell? ⟨g, off + k * 2 + 1, none⟩ = some (.int .i64 Y) := (hO.out.cell (p := ⟨g, off + k * 2 + 1, none⟩) hg (by simp)).trans c2
      clear c1 c2 hX hY hcs
      have b1 := pkZ_bd X 20 (by omega)
      have b2 := pkZ_bd Y 20 (by omega)
      have hx := fun ww => pk9 X 20 ww r1.1 r1.2 (by omega)
      have hy := fun ww => pk9 Y 20 ww r2.1 r2.2 (by omega)
      obtain ⟨x, ex⟩ : ∃ x, pkZ X 20 = x := ⟨_, rfl⟩
      obtain ⟨y, ey⟩ : ∃ y, pkZ Y 20 = y := ⟨_, rfl⟩
      rw [ex] at b1 hx
      rw [ey] at b2 hy
      clear ex ey
      obtain ⟨f, hf⟩ : ∃ f, max (tz - 1 - x) 0 = f := ⟨_, rfl⟩
      have hf0 : 0 ≤ f ∧ f < tz := by omega
      have hI2 := Lib.hid (hI.out.step ht b1.1 b1.2 b2.1 b2.2 (f := f) (by split <;> omega))
      have hk1' : (k : Int) < A.length := by omega
      have hk2' : (k : Int) < 16 := by omega
      obtain ⟨v', w5, eA, hG5, hB5, hkp⟩ := hG.out.append (f, tz) (by have := hI.out.len; omega) hO.out.size
      obtain ⟨va, vc, rfl⟩ : ∃ va vc, v' = .slice va (L ++ [(f, tz)]).length vc := hG5.shape
      have HG5 := Lib.hid hG5
      have HO5 : Hid (Only [] w w5) := Lib.hid (only_bl hO.out hB5)
      clear hG5 hB5 hkp
      have c2'' : w5.cell? ⟨g, off + k * 2 + 1, none⟩ = some (.int .i64 Y) := (HO5.out.cell (p := ⟨g, off + k * 2 + 1, none⟩) hg (by simp)).trans ((hO.out.cell (p := ⟨g, off + k * 2 + 1, none⟩) hg (by simp)).symm.trans c2')
      go_wp2_with (at_builtin; refine Lib.wpList_append_run _ rfl _ _ _ _ rfl _ _ rfl rfl _ _ (eA _) ?_)
      refine (hx _).mono ?_
      rintro e w4 ⟨rfl, rfl⟩
      go_wp2_with (at_builtin; refine Lib.wpList_append_run _ rfl _ _ _ _ rfl _ _ rfl rfl _ _ (eA _) ?_)
      refine (hy _).mono ?_
      rintro e w4 ⟨rfl, rfl⟩
      go_wp2_with fail
      go_roundg (16 - (k + 1))
      case measure => omega
      case rel => exact ⟨k + 1, L ++ [(f, tz)], _, rfl, by omega, by simp <;> omega, rfl, hI2, Lib.hid (by simpa using HG5.out), HO5⟩
    · clear hpk
      have hI0 := hI
      have hn : Hid (k ≠ 0 ∨ (k = 0 ∧ L = [] ∧ 1 ≤ tz)) := Lib.hid (by
        by_cases h0 : k = 0
        · exact .inr ⟨h0, List.length_eq_zero_iff.1 (by rw [hI.out.len, h0]), hI.out.one h0⟩
        · exact .inl h0)
      by_cases h0 : k = 0
      · obtain ⟨_, hL, ht1⟩ := hn.out.resolve_left (fun h => h h0)
        subst h0 hL
        have hA0 : ¬ (0 : Int) < A.length := by
          intro h
          exact hin ⟨by omega, by omega, by omega⟩
        obtain ⟨v', w5, eA, hG5, hB5, hkp⟩ := hG.out.append (tz - 1, tz) (by simp) hO.out.size
        obtain ⟨va, vc, rfl⟩ : ∃ va vc, v' = .slice va ([] ++ [(tz - 1, tz)]).length vc := hG5.shape
        have HG5 := Lib.hid hG5
        have HO5 : Hid (Only [] w w5) := Lib.hid (only_bl hO.out hB5)
        clear hG5 hB5 hkp
        go_wp2_with (at_builtin; refine Lib.wpList_append_run _ rfl _ _ _ _ rfl _ _ rfl rfl _ _ (eA _) ?_)
        go_ret
        exact ⟨_, rfl, [(tz - 1, tz)], by simpa using HG5.out, by simp, by simp, ⟨by show 0 ≤ tz - 1; omega, by show tz - 1 < tz; omega, by show tz ≤ _; omega, by show tz < _; omega, trivial⟩, HO5.out⟩
      · have hL0 : (L.length : Int) ≠ 0 := by have := hI.out.len; omega
        have hL1 : ((L.length : Int) == 0) = false := beq_eq_false_iff_ne.2 hL0
        have HF : Hid (L ≠ [] ∧ L.length ≤ 16 ∧ RgOk 281474976710658 L) := Lib.hid ⟨fun e => by rw [e] at hL0; simp at hL0, by have := hI.out.len; omega, hI.out.ok⟩
        by_cases hk1 : (k : Int) < A.length
        · by_cases hk2 : (k : Int) < 16
          · have ht : ¬ 0 < tz := fun h => hin ⟨by omega, by omega, h⟩
            clear hin hI0 hn hI
            obtain ⟨g, off, rfl, hrest⟩ := hcs k (by omega)
            clear hrest hcs
            go_wp2_with fail
            go_ret
            exact ⟨_, rfl, _, hG.out, HF.out.1, HF.out.2.1, HF.out.2.2, hO.out⟩
          · clear hin hI0 hn hI
            obtain ⟨g, off, rfl, hrest⟩ := hcs k (by omega)
            clear hrest hcs
            go_wp2_with fail
            go_ret
            exact ⟨_, rfl, _, hG.out, HF.out.1, HF.out.2.1, HF.out.2.2, hO.out⟩
        · clear hin hI0 hn hI hcs
          go_wp2_with fail
          go_ret
          exact ⟨_, rfl, _, hG.out, HF.out.1, HF.out.2.1, HF.out.2.2, hO.out⟩
end Go.Proofs.Ytmmgmpghkpbgkaa
