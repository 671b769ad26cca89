/- Contracts of package acks: remove. -/
import Derived.Test.YtmmgmpghkpbgkaaAnB
import Derived.Deep.QuietTactic
import Derived.BigQuiet
import Derived.Deep.RegionHeld3
namespace Go.Proofs.Ytmmgmpghkpbgkaa
open Go Go.RowKit Go.Shelf
set_option linter.unusedVariables false
set_option maxRecDepth 100000 in
set_option maxHeartbeats 400000 in
theorem remove_c (b k : Nat) (kz : Int) (F T : Nat → Int) (n : Nat) (d fl lg wh ct du : Int) (hkz : kz = (k : Int)) (hk : k < n) (hk2 : k ≤ 15) (hn : n ≤ 17) (w : World) (hT : Trk w b F T n d fl lg wh ct du) :
    Calls Try.prog 53 #[.pointer (some ⟨b, 0, none⟩), .int .i64 kz] w fun e w' => e = .returned (.tuple #[]) ∧ Trk w' b (mv F k (k + 1) (n - (k + 1))) (mv T k (k + 1) (n - (k + 1))) (n - 1) d fl lg wh ct du ∧ Only [b] w w' := by
  subst hkz
  have hcn := hT.gn
  have hcp := trk_copy (w := w.drew) hT k (k + 1) (n - (k + 1)) (17 - k) (17 - k) (16 - k) (by omega) (by omega) (by omega)
  have HT := Lib.hid (At.setRow (w := w.drew) hT (trk (mv F k (k + 1) (n - (k + 1))) (mv T k (k + 1) (n - (k + 1))) n d fl lg wh ct du))
  have HO := Lib.hid (only_setRow (S := [b]) ((Only.refl [b] w).drew) (b := b) (by simp) (trk (mv F k (k + 1) (n - (k + 1))) (mv T k (k + 1) (n - (k + 1))) n d fl lg wh ct du))
  have hc2 : (w.drew.setRow b (trk (mv F k (k + 1) (n - (k + 1))) (mv T k (k + 1) (n - (k + 1))) n d fl lg wh ct du)).cell? ⟨b, 34, none⟩ = some (.int .i64 n) := HT.out.cell 34 rfl
  have hf2 : (w.drew.setRow b (trk (mv F k (k + 1) (n - (k + 1))) (mv T k (k + 1) (n - (k + 1))) n d fl lg wh ct du)).frozen? ⟨b, 34, none⟩ = false := HT.out.free 34
  clear hT
  have e1 : IntKind.i64.wrap ((k : Int) + 1) = (k : Int) + 1 := IntWalk.i64_in _ (by omega)
  have i0 : (0 : Int) ≤ (k : Int) := by omega
  have i1 : (k : Int) ≤ 17 := by omega
  have i2 : (0 : Int) ≤ (k : Int) + 1 := by omega
  have i3 : (k : Int) + 1 ≤ (n : Int) := by omega
  have i4 : (n : Int) ≤ 17 := by omega
  go_enter Try.func53, Try.ntmps53
  go_wp2_with fail
  go_still_tail 15, (by kernel_rfl)
  go_wp2_with fail
  go_end0
  have e5 : ((n : Int) - 1) = ((n - 1 : Nat) : Int) := by omega
  exact ⟨rfl, HT.out.set 34 _ (by rw [trk_set_n, e5]), HO.out.put (by simp) _⟩
end Go.Proofs.Ytmmgmpghkpbgkaa
/- What the four ways through 'add' do to the list of intervals. -/
namespace Go.Proofs.Ytmmgmpghkpbgkaa
set_option linter.unusedVariables false
section
variable (F T : Nat → Int) (pn : Int) (k n : Nat) (hk : ∀ i, i < k → T i < pn)
include hk
theorem ins_split (m : Nat) (hn : n = k + m) : ins (lst F T 0 n) pn = lst F T 0 k ++ ins (lst F T k m) pn := by
  subst hn
  rw [lst_add k 0 m, ins_skip pn _ k 0 (fun i hi => by rw [Nat.zero_add]; exact hk i hi), Nat.zero_add]
theorem add_end (hn : k = n) : lst (upd (mv F (k + 1) k (n - k)) k pn) (upd (mv T (k + 1) k (n - k)) k (pn + 1)) 0 (n + 1) = ins (lst F T 0 n) pn := by
  subst hn
  rw [ins_split F T pn k k hk 0 rfl, lst_add k 0 1, Nat.zero_add]
  congr 1
  · apply lst_congr
    intro i hi
    rw [Nat.zero_add, upd_other _ _ _ _ (by omega), upd_other _ _ _ _ (by omega)]
    simp only [mv]
    rw [if_neg (by omega), if_neg (by omega)]
    exact ⟨rfl, rfl⟩
  · simp [lst, ins, upd_same]
theorem add_mid (hn : k < n) (h1 : pn < T k) (h2 : F k ≠ pn + 1) : lst (upd (mv F (k + 1) k (n - k)) k pn) (upd (mv T (k + 1) k (n - k)) k (pn + 1)) 0 (n + 1) = ins (lst F T 0 n) pn := by
  obtain ⟨m, rfl⟩ : ∃ m, n = k + (m + 1) := ⟨n - k - 1, by omega⟩
  rw [ins_split F T pn k _ hk (m + 1) rfl, show k + (m + 1) + 1 = k + (1 + (m + 1)) from by omega, lst_add k 0, Nat.zero_add, lst_add 1 k]
  have e : ins (lst F T k (m + 1)) pn = (pn, pn + 1) :: lst F T k (m + 1) := by
    simp only [lst, ins]
    rw [if_neg (by omega), if_neg (by omega), if_neg h2]
  rw [e]
  congr 1
  · apply lst_congr
    intro i hi
    rw [Nat.zero_add, upd_other _ _ _ _ (by omega), upd_other _ _ _ _ (by omega)]
    simp only [mv]
    rw [if_neg (by omega), if_neg (by omega)]
    exact ⟨rfl, rfl⟩
  · simp only [lst, upd_same, List.cons_append, List.nil_append]
    congr 1
    show lst _ _ (k + 1) (m + 1) = lst F T k (m + 1)
    apply lst_congr
    intro i hi
    rw [upd_other _ _ _ _ (by omega), upd_other _ _ _ _ (by omega)]
    simp only [mv]
    rw [if_pos (by omega), if_pos (by omega), show k + (k + 1 + i - (k + 1)) = k + i from by omega]
    exact ⟨rfl, rfl⟩
theorem add_low (hn : k < n) (h1 : pn < T k) (h2 : F k = pn + 1) : lst (upd F k pn) T 0 n = ins (lst F T 0 n) pn := by
  obtain ⟨m, rfl⟩ : ∃ m, n = k + (m + 1) := ⟨n - k - 1, by omega⟩
  rw [ins_split F T pn k _ hk (m + 1) rfl, lst_add k 0, Nat.zero_add]
  have e : ins (lst F T k (m + 1)) pn = (pn, T k) :: lst F T (k + 1) m := by
    simp only [lst, ins]
    rw [if_neg (by omega), if_neg (by omega), if_pos h2]
  rw [e]
  congr 1
  · apply lst_congr
    intro i hi
    rw [Nat.zero_add, upd_other _ _ _ _ (by omega)]
    exact ⟨rfl, rfl⟩
  · simp only [lst, upd_same]
    congr 1
    apply lst_congr
    intro i hi
    rw [upd_other _ _ _ _ (by omega)]
    exact ⟨rfl, rfl⟩
theorem add_top (hn : k < n) (h1 : T k = pn) (h2 : ¬ (k + 1 < n ∧ F (k + 1) = pn + 1)) : lst F (upd T k (pn + 1)) 0 n = ins (lst F T 0 n) pn := by
  obtain ⟨m, rfl⟩ : ∃ m, n = k + (m + 1) := ⟨n - k - 1, by omega⟩
  rw [ins_split F T pn k _ hk (m + 1) rfl, lst_add k 0, Nat.zero_add]
  have e : ins (lst F T k (m + 1)) pn = (F k, pn + 1) :: lst F T (k + 1) m := by
    cases m with
    | zero => simp only [lst, ins]; rw [if_neg (by omega), if_pos h1]
    | succ m =>
      have h3 : F (k + 1) ≠ pn + 1 := fun h => h2 ⟨by omega, h⟩
      simp only [lst, ins]
      rw [if_neg (by omega), if_pos h1, if_neg h3]
  rw [e]
  congr 1
  · apply lst_congr
    intro i hi
    rw [Nat.zero_add, upd_other _ _ _ _ (by omega)]
    exact ⟨rfl, rfl⟩
  · simp only [lst, upd_same]
    congr 1
    apply lst_congr
    intro i hi
    rw [upd_other _ _ _ _ (by omega)]
    exact ⟨rfl, rfl⟩
theorem add_join (hn : k + 1 < n) (h1 : T k = pn) (h2 : F (k + 1) = pn + 1) : lst (mv F (k + 1) (k + 2) (n - (k + 2))) (mv (upd (upd T k (pn + 1)) k (T (k + 1))) (k + 1) (k + 2) (n - (k + 2))) 0 (n - 1) = ins (lst F T 0 n) pn := by
  obtain ⟨m, rfl⟩ : ∃ m, n = k + (m + 2) := ⟨n - k - 2, by omega⟩
  rw [ins_split F T pn k _ hk (m + 2) rfl, show k + (m + 2) - 1 = k + (1 + m) from by omega, lst_add k 0, Nat.zero_add, lst_add 1 k]
  have e : ins (lst F T k (m + 2)) pn = (F k, T (k + 1)) :: lst F T (k + 2) m := by
    simp only [lst, ins]
    rw [if_neg (by omega), if_pos h1, if_pos h2]
  rw [e]
  congr 1
  · apply lst_congr
    intro i hi
    rw [Nat.zero_add]
    simp only [mv]
    rw [if_neg (by omega), if_neg (by omega), upd_other _ _ _ _ (by omega), upd_other _ _ _ _ (by omega)]
    exact ⟨rfl, rfl⟩
  · have e1 : mv F (k + 1) (k + 2) (k + (m + 2) - (k + 2)) k = F k := by simp only [mv]; rw [if_neg (by omega)]
    have e2 : mv (upd (upd T k (pn + 1)) k (T (k + 1))) (k + 1) (k + 2) (k + (m + 2) - (k + 2)) k = T (k + 1) := by simp only [mv]; rw [if_neg (by omega), upd_same]
    simp only [lst, e1, e2, List.cons_append, List.nil_append]
    congr 1
    apply lst_congr
    intro i hi
    simp only [mv]
    rw [if_pos (by omega), if_pos (by omega), upd_other _ _ _ _ (by omega), upd_other _ _ _ _ (by omega), show k + 2 + (k + 1 + i - (k + 1)) = k + 2 + i from by omega]
    exact ⟨rfl, rfl⟩
end
end Go.Proofs.Ytmmgmpghkpbgkaa
/- Contracts of package acks: add. -/
namespace Go.Proofs.Ytmmgmpghkpbgkaa
open Go Go.RowKit Go.Shelf
set_option linter.unusedVariables false
theorem place_c (b : Nat) (pn : Int) (F T : Nat → Int) (n : Nat) (d fl lg wh ct du : Int) (hn : n ≤ 17) (w : World) (hT : Trk w b F T n d fl lg wh ct du) :
    Calls Try.prog 74 #[.pointer (some ⟨b, 0, none⟩), .int .i64 pn] w fun e W' => ∃ k : Nat, k ≤ n ∧ e = .returned (.int .i64 k) ∧ (∀ i, i < k → T i < pn) ∧ (k < n → pn ≤ T k) ∧ Trk W' b F T n d fl lg wh ct du ∧ Only [] w W' :=
  (callsIn_wide.1 (place_in b pn F T n d fl lg wh ct du hn w hT)).mono fun e w' ⟨⟨k, h1, h2, h3, h4⟩, h5⟩ => ⟨k, h1, h2, h3, h4, At.keep (S := []) hT (Only.of_below h5) (by simp), Only.of_below h5⟩
theorem trk_copy0 (w : World) (d a : Option Addr) (dl dc sc : Nat) : (Builtin.copy_ #[31, 31] 3 #[.slice d dl dc, .slice a 0 sc]).run Try.prog w = .ok (goInt 0) w := by
  cases hq : Try.prog.info? 43 with
  | none => have := A_spanInfo; simp [hq] at this
  | some i =>
    have hl : ∀ (x : Addr), (loadCells x 0).run Try.prog w = .ok #[] w := fun x => by simpa using run_loadCells_list (P := Try.prog) w x [] (by simp)
    cases d <;> cases a <;> simp [Builtin.copy_, run_underlying Try.underlying31, Builtin.lenOf, Builtin.firstCells, sizeOf, typeInfo, hq, storeCells, hl]
theorem mv_zero (F : Nat → Int) (d s : Nat) : mv F d s 0 = F := by funext i; unfold mv; rw [if_neg (by omega)]
def AddPost (b : Nat) (pn : Int) (F T : Nat → Int) (n : Nat) (d fl lg wh ct du : Int) (w : World) (e : Ending) (w' : World) : Prop := ∃ (F' T' : Nat → Int) (n' : Nat), e = .returned (.tuple #[]) ∧ lst F' T' 0 n' = ins (lst F T 0 n) pn ∧ n' ≤ n + 1 ∧ Trk w' b F' T' n' d fl lg wh ct du ∧ Only [b] w w'
set_option maxRecDepth 100000 in
set_option maxHeartbeats 4000000 in
theorem add_c (b : Nat) (pn : Int) (F T : Nat → Int) (n : Nat) (d fl lg wh ct du : Int) (hp0 : 0 ≤ pn) (hp1 : pn ≤ 281474976710655) (hn : n ≤ 16) (w : World) (hT : Trk w b F T n d fl lg wh ct du) :
    Calls Try.prog 52 #[.pointer (some ⟨b, 0, none⟩), .int .i64 pn] w (AddPost b pn F T n d fl lg wh ct du w) := by
  have HT := Lib.hid hT; clear hT
  go_enter Try.func52, Try.ntmps52
  go_wp2_with fail
  refine (place_c b pn F T n d fl lg wh ct du (by omega) _ HT.out).mono ?_
  rintro e w1 ⟨k, hk, rfl, hlo, hhi, hT1, ho1⟩
  have HT1 := Lib.hid hT1; clear hT1 HT
  have HO1 := Lib.hid (ho1.mono (T := [b]) (by simp)); clear ho1
  have HLO := Lib.hid hlo; clear hlo
  have HHI := Lib.hid hhi; clear hhi
  by_cases h16 : k = 16
  · obtain rfl : n = 16 := by omega
    subst h16
    have hq := add_end F T pn 16 16 HLO.out rfl
    rw [Nat.sub_self, mv_zero, mv_zero] at hq
    have HQ := Lib.hid hq; clear hq
    have hcn : w1.cell? ⟨b, 34, none⟩ = some (.int .i64 16) := HT1.out.gn
    have x0 : w1.cell? ⟨b, 32, none⟩ = some (.int .i64 (F 16)) := HT1.out.gF 16 (by omega)
    have x1 : w1.cell? ⟨b, 33, none⟩ = some (.int .i64 (T 16)) := HT1.out.gT 16 (by omega)
    have y0 : w1.frozen? ⟨b, 32, none⟩ = false := At.free HT1.out _
    have y1 : w1.frozen? ⟨b, 33, none⟩ = false := At.free HT1.out _
    have y2 : w1.frozen? ⟨b, 34, none⟩ = false := At.free HT1.out _
    have e2 : IntKind.i64.wrap (pn + 1) = pn + 1 := IntWalk.i64_in _ (by omega)
    clear hk hn HLO HHI
    have e1 : IntKind.i64.wrap (16 + 1) = 17 := rfl
    have e3 : IntKind.i64.wrap 17 = 17 := rfl
    have hcp := trk_copy0 w1.drew (some ⟨b, 0, none⟩) (some ⟨b, 32, none⟩) 0 0 1
    go_wp2_with fail
    go_still_tail 15, (by kernel_rfl)
    go_wp2_with fail
    go_end0
    exact ⟨_, _, 17, rfl, HQ.out, by omega, (((At.set HT1.out 32 _ (trk_setF _ _ _ _ _ _ _ _ _ 16 (by omega) pn)).set 33 _ (trk_setT _ _ _ _ _ _ _ _ _ 16 (by omega) (pn + 1))).set 34 _ (trk_set_n _ _ _ _ _ _ _ _ _ _)).drew, (((HO1.out.put (by simp) _).put (by simp) _).put (by simp) _).drew⟩
  have hcn := HT1.out.gn
  have i0 : (0 : Int) ≤ (k : Int) := by omega
  have i1 : (k : Int) < 17 := by omega
  have i2 : (n : Int) ≤ 16 := by omega
  have i3 : (0 : Int) ≤ (k : Int) + 1 := by omega
  have i4 : (k : Int) + 1 ≤ 17 := by omega
  have i5 : (n : Int) ≤ 17 := by omega
  have i6 : (k : Int) ≤ (n : Int) := by omega
  have e1 : IntKind.i64.wrap ((k : Int) + 1) = (k : Int) + 1 := IntWalk.i64_in _ (by omega)
  have e2 : IntKind.i64.wrap (pn + 1) = pn + 1 := IntWalk.i64_in _ (by omega)
  have hcF := HT1.out.gF k (by omega)
  have hcT := HT1.out.gT k (by omega)
  have hfF : w1.frozen? ⟨b, k * 2, none⟩ = false := At.free HT1.out _
  have hfT : w1.frozen? ⟨b, k * 2 + 1, none⟩ = false := At.free HT1.out _
  rcases Nat.lt_or_ge k n with hkn | hkn
  · have j1 : (k : Int) < (n : Int) := by omega
    have hge := HHI.out hkn
    by_cases ht : T k = pn
    · have b1 : (T k == pn) = true := by simpa using ht
      have t1 : T k ≤ pn := by omega
      have t2 : pn ≤ T k := by omega
      have e3 : IntKind.i64.wrap (T k + 1) = T k + 1 := IntWalk.i64_in _ (by omega)
      by_cases hj : k + 1 < n ∧ F (k + 1) = pn + 1
      · have HQ := Lib.hid (add_join F T pn k n HLO.out hj.1 ht hj.2)
        obtain ⟨hj1, hj2⟩ := hj
        have HJ := Lib.hid hj2
        have hcF1 := HT1.out.gF (k + 1) (by omega)
        have hcT1 := HT1.out.gT (k + 1) (by omega)
        have b3 : (F (k + 1) == T k + 1) = true := by rw [ht]; simpa using hj2
        have j2 : (k : Int) + 1 < (n : Int) := by omega
        have z1 : ¬ (k * 2 + 1 = 34) := by omega
        have z2 : ¬ (34 = k * 2 + 1) := by omega
        have z3 : ¬ (k * 2 + 1 = (k + 1) * 2) := by omega
        have z4 : ¬ ((k + 1) * 2 = k * 2 + 1) := by omega
        clear ht hj2
        go_wp2_with fail
        go_still_tail 12, (by kernel_rfl)
        go_wp2_with fail
        have hT2 : Trk (w1.setCell ⟨b, k * 2 + 1, none⟩ (.int .i64 (T k + 1))).drew b F (upd T k (pn + 1)) n d fl lg wh ct du := (At.set HT1.out (k * 2 + 1) _ (by rw [show T k + 1 = pn + 1 from by omega]; exact trk_setT _ _ _ _ _ _ _ _ _ k (by omega) (pn + 1))).drew
        have ho2 := (HO1.out.put (g := b) (i := k * 2 + 1) (by simp) (.int .i64 (T k + 1))).drew
        obtain ⟨w2, hw2⟩ : ∃ w2, (w1.setCell ⟨b, k * 2 + 1, none⟩ (.int .i64 (T k + 1))).drew = w2 := ⟨_, rfl⟩
        rw [hw2] at hT2 ho2 ⊢
        clear hw2 hcn hcF hcT hfF hfT HT1 HO1 z1 z2 z3 z4 b1 e3
        have HT2 := Lib.hid hT2; clear hT2
        have HO2 := Lib.hid ho2; clear ho2
        have hcn := HT2.out.gn
        have hcT : w2.cell? ⟨b, k * 2 + 1, none⟩ = some (.int .i64 (pn + 1)) := by rw [HT2.out.gT k (by omega), upd_same]
        have hfT : w2.frozen? ⟨b, k * 2 + 1, none⟩ = false := At.free HT2.out _
        clear hcF1 hcT1 b3
        have b3 : (F (k + 1) == pn + 1) = true := by simpa using HJ.out
        have hcF1 : w2.cell? ⟨b, (k + 1) * 2, none⟩ = some (.int .i64 (F (k + 1))) := HT2.out.gF (k + 1) (by omega)
        have hcT1 : w2.cell? ⟨b, (k + 1) * 2 + 1, none⟩ = some (.int .i64 (T (k + 1))) := by rw [HT2.out.gT (k + 1) (by omega), upd_other _ _ _ _ (by omega)]
        go_quiet (fail)
        go_wp2_with fail
        obtain ⟨w3, hw3⟩ : ∃ w3, w2.drewN nq = w3 := ⟨_, rfl⟩
        have HT3 : Hid (Trk w3 b F (upd T k (pn + 1)) n d fl lg wh ct du) := by rw [← hw3]; exact At.drewN HT2.out _
        have HO3 : Hid (Only [b] w w3) := by rw [← hw3]; exact HO2.out.drewN _
        rw [hw3]
        clear hw3 hcn hcT hfT hcF1 hcT1 HT2 HO2 b3
        have hcT1 : w3.cell? ⟨b, (k + 1) * 2 + 1, none⟩ = some (.int .i64 (T (k + 1))) := by rw [HT3.out.gT (k + 1) (by omega), upd_other _ _ _ _ (by omega)]
        have hcT : w3.cell? ⟨b, k * 2 + 1, none⟩ = some (.int .i64 (pn + 1)) := by rw [HT3.out.gT k (by omega), upd_same]
        have hfT : w3.frozen? ⟨b, k * 2 + 1, none⟩ = false := At.free HT3.out _
        have j5 : (k : Int) + 1 < 17 := by omega
        go_still_tail 14, (by kernel_rfl)
        go_wp2_with fail
        refine (remove_c b (k + 1) ((k : Int) + 1) F (upd (upd T k (pn + 1)) k (T (k + 1))) n d fl lg wh ct du (by omega) (by omega) (by omega) (by omega) _ (by exact (At.set HT3.out (k * 2 + 1) _ (trk_setT _ _ _ _ _ _ _ _ _ k (by omega) _)).drew)).mono ?_
        rintro e w4 ⟨rfl, hT4, ho4⟩
        go_wp2_with fail
        refine bodyPost_ret (results_none rfl _ _ _) rfl ?_
        exact ⟨_, _, n - 1, rfl, HQ.out, by omega, hT4, ((HO3.out.put (by simp) _).drew).trans ho4⟩
      · have HQ := Lib.hid (add_top F T pn k n HLO.out hkn ht hj)
        have HJ := Lib.hid hj
        have z1 : ¬ (k * 2 + 1 = 34) := by omega
        have z2 : ¬ (34 = k * 2 + 1) := by omega
        have z3 : ¬ (k * 2 + 1 = (k + 1) * 2) := by omega
        have z4 : ¬ ((k + 1) * 2 = k * 2 + 1) := by omega
        clear ht hj
        go_wp2_with fail
        go_still_tail 12, (by kernel_rfl)
        go_wp2_with fail
        have hT2 : Trk (w1.setCell ⟨b, k * 2 + 1, none⟩ (.int .i64 (T k + 1))).drew b F (upd T k (pn + 1)) n d fl lg wh ct du := (At.set HT1.out (k * 2 + 1) _ (by rw [show T k + 1 = pn + 1 from by omega]; exact trk_setT _ _ _ _ _ _ _ _ _ k (by omega) (pn + 1))).drew
        have ho2 := (HO1.out.put (g := b) (i := k * 2 + 1) (by simp) (.int .i64 (T k + 1))).drew
        obtain ⟨w2, hw2⟩ : ∃ w2, (w1.setCell ⟨b, k * 2 + 1, none⟩ (.int .i64 (T k + 1))).drew = w2 := ⟨_, rfl⟩
        rw [hw2] at hT2 ho2 ⊢
        clear hw2 hcn hcF hcT hfF hfT HT1 HO1 z1 z2 z3 z4 b1 e3
        have HT2 := Lib.hid hT2; clear hT2
        have HO2 := Lib.hid ho2; clear ho2
        have hcn := HT2.out.gn
        have hcT : w2.cell? ⟨b, k * 2 + 1, none⟩ = some (.int .i64 (pn + 1)) := by rw [HT2.out.gT k (by omega), upd_same]
        have hfT : w2.frozen? ⟨b, k * 2 + 1, none⟩ = false := At.free HT2.out _
        by_cases j2 : (k : Int) + 1 < (n : Int)
        · have hcF1 : w2.cell? ⟨b, (k + 1) * 2, none⟩ = some (.int .i64 (F (k + 1))) := HT2.out.gF (k + 1) (by omega)
          have b3 : (F (k + 1) == pn + 1) = false := by
            have : ¬ F (k + 1) = pn + 1 := fun h => HJ.out ⟨by omega, h⟩
            simpa using this
          go_quiet (fail)
          go_wp2_with fail
          refine bodyPost_ret (results_none rfl _ _ _) rfl ?_
          exact ⟨_, _, n, rfl, HQ.out, by omega, At.drewN HT2.out _, HO2.out.drewN _⟩
        · have j3 : decide ((k : Int) + 1 < (n : Int)) = false := by simpa using j2
          go_quiet (fail)
          go_wp2_with fail
          refine bodyPost_ret (results_none rfl _ _ _) rfl ?_
          exact ⟨_, _, n, rfl, HQ.out, by omega, At.drewN HT2.out _, HO2.out.drewN _⟩
    · have ht' : pn < T k := by omega
      have b1 : (T k == pn) = false := by simpa using ht
      by_cases hf : F k = pn + 1
      · have b2 : (F k == pn + 1) = true := by simpa using hf
        have HQ := Lib.hid (add_low F T pn k n HLO.out hkn ht' hf)
        have hf1 : F k ≤ pn + 1 := by omega
        have hf2 : pn + 1 ≤ F k := by omega
        have e3 : IntKind.i64.wrap (F k - 1) = F k - 1 := IntWalk.i64_in _ (by omega)
        clear hf
        go_wp2_with fail
        go_still_tail 12, (by kernel_rfl)
        go_wp2_with fail
        refine bodyPost_ret (results_none rfl _ _ _) rfl ?_
        exact ⟨_, _, n, rfl, HQ.out, by omega, (At.set HT1.out (k * 2) _ (by rw [show F k - 1 = pn from by omega]; exact trk_setF _ _ _ _ _ _ _ _ _ k (by omega) pn)).drew, (HO1.out.put (by simp) _).drew⟩
      · have b2 : (F k == pn + 1) = false := by simpa using hf
        have HQ := Lib.hid (add_mid F T pn k n HLO.out hkn ht' hf)
        have hcp := trk_copy (w := w1.drew) HT1.out (k + 1) k (n - k) (16 - k) (16 - k) (17 - k) (by omega) (by omega) (by omega)
        have HT2 : Hid (Trk (w1.drew.setRow b (trk (mv F (k + 1) k (n - k)) (mv T (k + 1) k (n - k)) n d fl lg wh ct du)) b (mv F (k + 1) k (n - k)) (mv T (k + 1) k (n - k)) n d fl lg wh ct du) := Lib.hid (At.setRow (w := w1.drew) HT1.out (trk (mv F (k + 1) k (n - k)) (mv T (k + 1) k (n - k)) n d fl lg wh ct du))
        have HO2 : Hid (Only [b] w (w1.drew.setRow b (trk (mv F (k + 1) k (n - k)) (mv T (k + 1) k (n - k)) n d fl lg wh ct du))) := Lib.hid (only_setRow HO1.out.drew (by simp) (trk (mv F (k + 1) k (n - k)) (mv T (k + 1) k (n - k)) n d fl lg wh ct du))
        obtain ⟨R, hR⟩ : ∃ R, trk (mv F (k + 1) k (n - k)) (mv T (k + 1) k (n - k)) n d fl lg wh ct du = R := ⟨_, rfl⟩
        rw [hR] at hcp HT2 HO2
        have x0 : (w1.drew.setRow b R).cell? ⟨b, k * 2, none⟩ = some (.int .i64 (mv F (k + 1) k (n - k) k)) := HT2.out.gF k (by omega)
        have x1 : (w1.drew.setRow b R).cell? ⟨b, k * 2 + 1, none⟩ = some (.int .i64 (mv T (k + 1) k (n - k) k)) := HT2.out.gT k (by omega)
        have x2 : (w1.drew.setRow b R).cell? ⟨b, 34, none⟩ = some (.int .i64 n) := HT2.out.gn
        have y0 : (w1.drew.setRow b R).frozen? ⟨b, k * 2, none⟩ = false := At.free HT2.out _
        have y1 : (w1.drew.setRow b R).frozen? ⟨b, k * 2 + 1, none⟩ = false := At.free HT2.out _
        have y2 : (w1.drew.setRow b R).frozen? ⟨b, 34, none⟩ = false := At.free HT2.out _
        have z1 : ¬ (34 = k * 2) := by omega
        have z2 : ¬ (34 = k * 2 + 1) := by omega
        have z3 : ¬ (k * 2 = 34) := by omega
        have z4 : ¬ (k * 2 + 1 = 34) := by omega
        clear hR
        go_wp2_with fail
        go_still_tail 15, (by kernel_rfl)
        go_wp2_with fail
        go_end0
        have e5 : ((n : Int) + 1) = ((n + 1 : Nat) : Int) := by omega
        exact ⟨_, _, n + 1, rfl, HQ.out, by omega, ((At.set HT2.out (k * 2) _ (trk_setF _ _ _ _ _ _ _ _ _ k (by omega) pn)).set (k * 2 + 1) _ (trk_setT _ _ _ _ _ _ _ _ _ k (by omega) (pn + 1))).set 34 _ (by rw [trk_set_n, e5]), ((HO2.out.put (by simp) _).put (by simp) _).put (by simp) _⟩
  · obtain rfl : k = n := by omega
    have hq := add_end F T pn k k HLO.out rfl
    rw [Nat.sub_self] at hq
    have HQ := Lib.hid hq; clear hq
    have j1 : decide ((k : Int) < (k : Int)) = false := by simp
    have hcp := trk_copy (w := w1.drew) HT1.out (k + 1) k 0 (16 - k) (16 - k) (17 - k) (by omega) (by omega) (by omega)
    have HT2 : Hid (Trk (w1.drew.setRow b (trk (mv F (k + 1) k 0) (mv T (k + 1) k 0) k d fl lg wh ct du)) b (mv F (k + 1) k 0) (mv T (k + 1) k 0) k d fl lg wh ct du) := Lib.hid (At.setRow (w := w1.drew) HT1.out (trk (mv F (k + 1) k 0) (mv T (k + 1) k 0) k d fl lg wh ct du))
    have HO2 : Hid (Only [b] w (w1.drew.setRow b (trk (mv F (k + 1) k 0) (mv T (k + 1) k 0) k d fl lg wh ct du))) := Lib.hid (only_setRow HO1.out.drew (by simp) (trk (mv F (k + 1) k 0) (mv T (k + 1) k 0) k d fl lg wh ct du))
    obtain ⟨R, hR⟩ : ∃ R, trk (mv F (k + 1) k 0) (mv T (k + 1) k 0) k d fl lg wh ct du = R := ⟨_, rfl⟩
    rw [hR] at hcp HT2 HO2
    have x0 : (w1.drew.setRow b R).cell? ⟨b, k * 2, none⟩ = some (.int .i64 (mv F (k + 1) k 0 k)) := HT2.out.gF k (by omega)
    have x1 : (w1.drew.setRow b R).cell? ⟨b, k * 2 + 1, none⟩ = some (.int .i64 (mv T (k + 1) k 0 k)) := HT2.out.gT k (by omega)
    have x2 : (w1.drew.setRow b R).cell? ⟨b, 34, none⟩ = some (.int .i64 k) := HT2.out.gn
    have y0 : (w1.drew.setRow b R).frozen? ⟨b, k * 2, none⟩ = false := At.free HT2.out _
    have y1 : (w1.drew.setRow b R).frozen? ⟨b, k * 2 + 1, none⟩ = false := At.free HT2.out _
    have y2 : (w1.drew.setRow b R).frozen? ⟨b, 34, none⟩ = false := At.free HT2.out _
    have z1 : ¬ (34 = k * 2) := by omega
    have z2 : ¬ (34 = k * 2 + 1) := by omega
    have z3 : ¬ (k * 2 = 34) := by omega
    have z4 : ¬ (k * 2 + 1 = 34) := by omega
    clear hR
    go_wp2_with fail
    go_still_tail 15, (by kernel_rfl)
    go_wp2_with fail
    go_end0
    have e5 : ((k : Int) + 1) = ((k + 1 : Nat) : Int) := by omega
    exact ⟨_, _, k + 1, rfl, HQ.out, by omega, ((At.set HT2.out (k * 2) _ (trk_setF _ _ _ _ _ _ _ _ _ k (by omega) pn)).set (k * 2 + 1) _ (trk_setT _ _ _ _ _ _ _ _ _ k (by omega) (pn + 1))).set 34 _ (by rw [trk_set_n, e5]), ((HO2.out.put (by simp) _).put (by simp) _).put (by simp) _⟩
end Go.Proofs.Ytmmgmpghkpbgkaa
