/- Contracts of package acks: Forget. -/
import Derived.Test.YthjlkiilkiggiaaAkP
namespace Go.Proofs.Ythjlkiilkiggiaa
open Go Go.RowKit Go.Shelf
set_option linter.unusedVariables false
set_option linter.unusedSectionVars false
set_option linter.unusedSimpArgs false

/-- The list without the numbers below m. -/
def cutL : List (Int × Int) → Int → List (Int × Int)
  | [], _ => []
  | (f, t) :: r, m => if t ≤ m then cutL r m else (if f < m then m else f, t) :: r

theorem forget_neg (b : Nat) (pn : Int) (w : World) (h : pn < 0) :
    Calls Try.prog 18 #[.pointer (some ⟨b, 0, none⟩), .int .i64 pn] w fun e w' => e = .returned (.tuple #[]) ∧ w = w' := by
  go_enter Try.func18, Try.ntmps18
  go_wp2_with fail
  refine bodyPost_ret (results_none rfl _ _ _) rfl ?_
  exact ⟨rfl, rfl⟩
attribute [local irreducible] wpStill
theorem lst_head (F T : Nat → Int) (n : Nat) (hn : 0 < n) : lst F T 0 n = (F 0, T 0) :: lst F T 1 (n - 1) := by
  obtain ⟨m, rfl⟩ : ∃ m, n = m + 1 := ⟨n - 1, by omega⟩
  rfl
theorem lst_mv (F T : Nat → Int) (n : Nat) : lst (mv F 0 1 (n - 1)) (mv T 0 1 (n - 1)) 0 (n - 1) = lst F T 1 (n - 1) :=
  lst_congr (n - 1) 0 1 fun i hi => by
    unfold mv
    rw [if_pos (by omega), if_pos (by omega)]
    constructor <;> congr 1 <;> omega
theorem lst_upd (F T : Nat → Int) (n : Nat) (x : Int) (hn : 0 < n) : lst (upd F 0 x) T 0 n = (x, T 0) :: lst F T 1 (n - 1) := by
  rw [lst_head _ _ _ hn, upd_same]
  congr 1
  exact lst_congr (n - 1) 1 1 fun i hi => ⟨upd_other _ _ _ _ (by omega), rfl⟩
def RelF (w : World) (b : Nat) (C : List (Int × Int)) (M d lg wh ct du : Int) (wr : World) : Prop := ∃ F T n, n ≤ 16 ∧ cutL (lst F T 0 n) M = C ∧ Hid (Trk wr b F T n d M lg wh ct du) ∧ Hid (Only [b] w wr)
def nOf (b : Nat) (wr : World) : Nat := match wr.cell? ⟨b, 34, none⟩ with | some (.int _ n) => n.toNat | _ => 0
theorem nOf_eq {b : Nat} {wr : World} {F T : Nat → Int} {n : Nat} {d fl lg wh ct du : Int} (h : Trk wr b F T n d fl lg wh ct du) : nOf b wr = n := by
  unfold nOf; rw [h.gn]; simp
set_option maxRecDepth 100000 in
set_option maxHeartbeats 2000000 in
theorem forget_c (b : Nat) (F T : Nat → Int) (n : Nat) (pn M d fl lg wh ct du : Int) (hn : n ≤ 16) (h0 : 0 ≤ pn) (h1 : pn ≤ 281474976710655) (hM : (if fl < pn + 1 then pn + 1 else fl) = M) (f0 : 0 ≤ fl) (f1 : fl ≤ 281474976710656) (w : World) (hT : Trk w b F T n d fl lg wh ct du) :
    Calls Try.prog 18 #[.pointer (some ⟨b, 0, none⟩), .int .i64 pn] w fun e w' => e = .returned (.tuple #[]) ∧ TK w' b (cutL (lst F T 0 n) M) d M lg wh ct du ∧ Only [b] w w' := by
  obtain ⟨C, hC⟩ : ∃ C, cutL (lst F T 0 n) M = C := ⟨_, rfl⟩
  rw [hC]
  replace hC := Lib.hid hC
  have c := hT.gfl
  have f := At.free hT 36
  have q1 : (if 281474976710655 < pn then 281474976710655 else pn) = pn := by rw [if_neg (by omega)]
  have q2 : IntKind.i64.wrap (pn + 1) = pn + 1 := IntWalk.i64_in _ (by omega)
  have HT := Lib.hid hT; clear hT
  go_enter Try.func18, Try.ntmps18
  go_wp2_with fail
  have HT2 : Hid (Trk (w.setCell ⟨b, 36, none⟩ (.int .i64 M)) b F T n d M lg wh ct du) := Lib.hid (At.set HT.out 36 _ (trk_set_fl _ _ _ _ _ _ _ _ _ _))
  have HO : Hid (Only [b] w (w.setCell ⟨b, 36, none⟩ (.int .i64 M))) := Lib.hid ((Only.refl _ _).put (by simp) _)
  have hM1 : M ≤ 281474976710656 := by rw [← hM]; split <;> omega
  have hM0 : 0 ≤ M := by rw [← hM]; split <;> omega
  clear HT c f q1 q2 hM
  go_loopw [] (fun wr => RelF w b C M d lg wh ct du wr) (fun wr => nOf b wr)
  case atStart => exact ⟨F, T, n, hn, hC.out, HT2, HO⟩
  case round =>
    obtain ⟨F', T', n', hn', hC', hT, hO⟩ := hrel
    clear HT2 HO hC hn
    have c34 : wr.cell? ⟨b, 34, none⟩ = some (.int .i64 n') := Trk.gn hT.out
    have c36 : wr.cell? ⟨b, 36, none⟩ = some (.int .i64 M) := Trk.gfl hT.out
    have c0 : wr.cell? ⟨b, 0, none⟩ = some (.int .i64 (F' 0)) := Trk.gF hT.out 0 (by omega)
    have c1 : wr.cell? ⟨b, 1, none⟩ = some (.int .i64 (T' 0)) := Trk.gT hT.out 0 (by omega)
    have f0' : wr.frozen? ⟨b, 0, none⟩ = false := At.free hT.out 0
    have HC := Lib.hid hC'
    clear hC'
    by_cases hz : n' = 0
    · subst hz
      go_wp2_with fail
      go_still (by kernel_rfl)
      go_wp2_with fail
      go_end0
      exact ⟨rfl, ⟨F', T', 0, HC.out.symm, by omega, At.drew hT.out⟩, hO.out.drew⟩
    · have hz1 : 0 < n' := by omega
      have hz2 : (0 : Int) < n' := by omega
      by_cases ht : T' 0 ≤ M
      · go_wp2_with fail
        go_still (by kernel_rfl)
        go_wp2_with fail
        refine (remove_c b 0 0 F' T' n' d M lg wh ct du rfl (by omega) (by omega) (by omega) _ (by exact At.drew hT.out)).mono ?_
        rintro e w3 ⟨rfl, hT3, ho3⟩
        have hm : nOf b w3 < nOf b wr := by rw [nOf_eq hT3, nOf_eq hT.out]; omega
        have hO3 := Lib.hid (hO.out.drew.trans ho3)
        have hC3 : cutL (lst (mv F' 0 1 (n' - 1)) (mv T' 0 1 (n' - 1)) 0 (n' - 1)) M = C := by
          rw [lst_mv, ← HC.out, lst_head _ _ _ hz1]; simp only [cutL]; rw [if_pos ht]
        replace hT3 := Lib.hid hT3
        have HC3 := Lib.hid hC3
        clear hC3 ho3 c34 c36 c0 c1 f0'
        go_wp2_with fail
        exact ⟨⟨_, _, n' - 1, by omega, HC3.out, hT3, hO3⟩, hm⟩
      · obtain ⟨X, hX⟩ : ∃ X, (if F' 0 < M then M else F' 0) = X := ⟨_, rfl⟩
        have hC3 : lst (upd F' 0 X) T' 0 n' = C := by
          rw [lst_upd _ _ _ _ hz1, ← HC.out, lst_head F' T' _ hz1]; simp only [cutL]; rw [if_neg ht, hX]
        have HC3 := Lib.hid hC3
        clear hC3
        go_wp2_with fail
        go_still (by kernel_rfl)
        go_wp2_with fail
        have hT2 := Lib.hid (show Trk wr.drew b F' T' n' d M lg wh ct du from At.drew hT.out)
        have hO2 := Lib.hid hO.out.drew
        obtain ⟨wd, hwd⟩ : ∃ wd, wr.drew = wd := ⟨_, rfl⟩
        rw [hwd] at hT2 hO2 ⊢
        clear hwd c34 c36 c0 c1 f0' hT hO
        have c36 : wd.cell? ⟨b, 36, none⟩ = some (.int .i64 M) := Trk.gfl hT2.out
        have c0 : wd.cell? ⟨b, 0, none⟩ = some (.int .i64 (F' 0)) := Trk.gF hT2.out 0 (by omega)
        have f0' : wd.frozen? ⟨b, 0, none⟩ = false := At.free hT2.out 0
        go_still_tail 18, (by kernel_rfl)
        go_wp2_with fail
        go_end0
        exact ⟨rfl, ⟨_, T', n', HC3.out.symm, hn', At.set (At.drew hT2.out) 0 _ (trk_setF _ _ _ _ _ _ _ _ _ 0 (by omega) X)⟩, (hO2.out.drew).put (by simp) _⟩
end Go.Proofs.Ythjlkiilkiggiaa
