/- The walk of the law package's sane, and its pick. -/
import Derived.Test.YtmmgmpghkpbgkaaFmC
namespace Go.Proofs.Ytmmgmpghkpbgkaa
open Go.RowKit
set_option linter.unusedVariables false
set_option linter.unusedSimpArgs false

/-- What 'pick' answers. -/
def pickZ (c n : Int) : Int := (if c < 0 then -(c + 1) else c) % n

theorem pickZ_bd (c n : Int) (hn : 0 < n) : 0 ≤ pickZ c n ∧ pickZ c n < n := by
  unfold pickZ
  exact ⟨Int.emod_nonneg _ (by omega), Int.emod_lt_of_pos _ hn⟩

theorem nilrecv (w : World) : Calls Try.prog 41 #[.pointer none, .int .i64 0] w fun e w' => e = .returned (.int .i64 1) ∧ w' = w := by
  go_enter Try.func41, Try.ntmps41
  go_wp2
  go_ret
  exact ⟨rfl, rfl⟩
theorem niluse (w : World) : Calls Try.prog 40 #[.pointer none, .int .i64 0] w fun e w' => e = .returned (.int .i64 1) ∧ w' = w := by
  go_enter Try.func40, Try.ntmps40
  go_wp2
  go_ret
  exact ⟨rfl, rfl⟩
theorem nillim (w : World) : Calls Try.prog 72 #[.pointer none] w fun e w' => e = .returned (.int .i64 0) ∧ w' = w := by
  go_enter Try.func72, Try.ntmps72
  go_wp2
  go_ret
  exact ⟨rfl, rfl⟩
theorem nilav (w : World) : Calls Try.prog 39 #[.pointer none] w fun e w' => e = .returned (.int .i64 0) ∧ w' = w := by
  go_enter Try.func39, Try.ntmps39
  go_wp2
  go_ret
  exact ⟨rfl, rfl⟩
theorem limit_c' (b : Nat) (m wi h r : Int) (w : World) (hA : At w b 130 #[.int .i64 m, .int .i64 wi, .int .i64 h, .int .i64 r]) :
    Calls Try.prog 72 #[.pointer (some ⟨b, 0, none⟩)] w fun e w' => e = .returned (.int .i64 m) ∧ w' = w :=
  (limit_c b m wi h r w hA).mono fun _ _ h => ⟨h.1, h.2.symm⟩

set_option maxRecDepth 100000 in
set_option maxHeartbeats 4000000 in
theorem sane_any (w : World) : Calls Try.prog 36 #[] w fun e w' => e = .returned (.bool true) ∧ Below w.heap.size w w' := by
  go_enter Try.func36, Try.ntmps36
  go_wp2_with fail
  refine (newrec_ok 100 _ (by omega) (by omega)).mono ?_
  rintro e wk ⟨rfl, rfl⟩
  go_wp2_with fail
  refine (newsnd_ok 10 _ (by omega) (by omega)).mono ?_
  rintro e wk ⟨rfl, rfl⟩
  go_wp2_with fail
  refine (newrec_no (-1) _ (by omega)).mono ?_
  rintro e wk ⟨rfl, rfl⟩
  go_wp2_with fail
  refine (newsnd_no 1099511627777 _ (by omega)).mono ?_
  rintro e wk ⟨rfl, rfl⟩
  have hr := (At.new w 130 #[.int .i64 100, .int .i64 100, .int .i64 0, .int .i64 0]).alloc (.cells #[.int .i64 10, .int .i64 0, .int .i64 0] 132)
  have hs := At.new (w.alloc (.cells #[.int .i64 100, .int .i64 100, .int .i64 0, .int .i64 0] 130)) 132 #[.int .i64 10, .int .i64 0, .int .i64 0]
  have hb : Below w.heap.size w ((w.alloc (.cells #[.int .i64 100, .int .i64 100, .int .i64 0, .int .i64 0] 130)).alloc (.cells #[.int .i64 10, .int .i64 0, .int .i64 0] 132)) := ((Below.refl _ _).alloc (Nat.le_refl _) _).alloc (by simp) _
  rw [World.size_alloc] at hs
  go_wp2_with fail
  refine (receive_c _ 100 100 0 0 101 _ hr).mono ?_
  rintro e wk ⟨rfl, hx, ho⟩
  rw [show rcvE 100 101 = 150 from rfl]
  replace hr := at4 hx rfl rfl (show rcvH 100 0 101 = 0 from rfl) rfl
  replace hs := hs.keep ho (by simp)
  replace hb := hb.trans (ho.below (by simp) hb.size)
  clear hx ho
  go_wp2_with fail
  refine (receive_c _ 100 100 0 0 60 _ hr).mono ?_
  rintro e wk ⟨rfl, hx, ho⟩
  rw [show rcvE 100 60 = 0 from rfl]
  replace hr := at4 hx rfl rfl (show rcvH 100 0 60 = 60 from rfl) rfl
  replace hs := hs.keep ho (by simp)
  replace hb := hb.trans (ho.below (by simp) hb.size)
  clear hx ho
  go_wp2_with fail
  refine (read_c _ 100 100 60 0 49 _ hr (by omega) (by omega) (by omega)).mono ?_
  rintro e wk ⟨rfl, hx, ho⟩
  replace hr := at4 hx rfl rfl rfl (show readR 60 0 49 = 49 from rfl)
  replace hs := hs.keep ho (by simp)
  replace hb := hb.trans (ho.below (by simp) hb.size)
  clear hx ho
  go_wp2_with fail
  refine (update_c _ 100 100 60 49 _ hr (by omega) (by omega) (by omega) (by omega) (by omega)).mono ?_
  rintro e wk ⟨rfl, hx, ho⟩
  rw [show updN 100 100 49 = 0 from rfl, show updB 100 100 49 = false from rfl]
  replace hr := at4 hx (show updM 100 100 49 = 100 from rfl) rfl rfl rfl
  replace hs := hs.keep ho (by simp)
  replace hb := hb.trans (ho.below (by simp) hb.size)
  clear hx ho
  go_wp2_with fail
  refine (read_c _ 100 100 60 49 1 _ hr (by omega) (by omega) (by omega)).mono ?_
  rintro e wk ⟨rfl, hx, ho⟩
  replace hr := at4 hx rfl rfl rfl (show readR 60 49 1 = 50 from rfl)
  replace hs := hs.keep ho (by simp)
  replace hb := hb.trans (ho.below (by simp) hb.size)
  clear hx ho
  go_wp2_with fail
  refine (update_c _ 100 100 60 50 _ hr (by omega) (by omega) (by omega) (by omega) (by omega)).mono ?_
  rintro e wk ⟨rfl, hx, ho⟩
  rw [show updN 100 100 50 = 150 from rfl, show updB 100 100 50 = true from rfl]
  replace hr := at4 hx (show updM 100 100 50 = 150 from rfl) rfl rfl rfl
  replace hs := hs.keep ho (by simp)
  replace hb := hb.trans (ho.below (by simp) hb.size)
  clear hx ho
  go_wp2_with fail
  refine (use_c _ 10 0 0 10 _ hs (by omega) (by omega) (by omega)).mono ?_
  rintro e wk ⟨rfl, hx, ho⟩
  rw [show useE 10 0 10 = 0 from rfl]
  replace hs := at3 hx rfl (show useU 10 0 10 = 10 from rfl) rfl
  replace hr := hr.keep ho (by simp)
  replace hb := hb.trans (ho.below (by simp) hb.size)
  clear hx ho
  go_wp2_with fail
  have hs' := at3 (a' := 10) (b' := 10) (c' := (-1) + 1) hs rfl rfl rfl
  refine (block_c _ 10 10 (-1) _ hs' (by omega) (by omega) (by omega) (by omega) (by omega)).mono ?_
  rintro e wk ⟨rfl, hx, ho⟩
  clear hs'
  rw [show blkN 10 10 (-1) = 10 from rfl, show blkB 10 10 (-1) = true from rfl]
  replace hs := at3 hx rfl rfl (show blkT 10 10 (-1) + 1 = 11 from rfl)
  replace hr := hr.keep ho (by simp)
  replace hb := hb.trans (ho.below (by simp) hb.size)
  clear hx ho
  go_wp2_with fail
  have hs' := at3 (a' := 10) (b' := 10) (c' := 10 + 1) hs rfl rfl rfl
  refine (block_c _ 10 10 10 _ hs' (by omega) (by omega) (by omega) (by omega) (by omega)).mono ?_
  rintro e wk ⟨rfl, hx, ho⟩
  clear hs'
  rw [show blkN 10 10 10 = 0 from rfl, show blkB 10 10 10 = false from rfl]
  replace hs := at3 hx rfl rfl (show blkT 10 10 10 + 1 = 11 from rfl)
  replace hr := hr.keep ho (by simp)
  replace hb := hb.trans (ho.below (by simp) hb.size)
  clear hx ho
  go_wp2_with fail
  refine (sraise_c _ 10 10 11 5 _ hs).mono ?_
  rintro e wk ⟨rfl, hx, ho⟩
  replace hs := at3 hx (show raiseZ 10 5 = 10 from rfl) rfl rfl
  replace hr := hr.keep ho (by simp)
  replace hb := hb.trans (ho.below (by simp) hb.size)
  clear hx ho
  go_wp2_with fail
  refine (avail_c _ 10 10 11 _ hs (by omega) (by omega) (by omega)).mono ?_
  rintro e wk ⟨rfl, nd, rfl⟩
  rw [show (10 - 10 : Int) = 0 from rfl]
  replace hr := hr.drewN nd
  replace hs := hs.drewN nd
  replace hb := hb.trans (((Only.refl [] _).drewN nd).below (by simp) hb.size)
  go_wp2_with fail
  refine (sraise_c _ 10 10 11 12 _ hs).mono ?_
  rintro e wk ⟨rfl, hx, ho⟩
  replace hs := at3 hx (show raiseZ 10 12 = 12 from rfl) rfl rfl
  replace hr := hr.keep ho (by simp)
  replace hb := hb.trans (ho.below (by simp) hb.size)
  clear hx ho
  go_wp2_with fail
  refine (use_c _ 12 10 11 3 _ hs (by omega) (by omega) (by omega)).mono ?_
  rintro e wk ⟨rfl, hx, ho⟩
  rw [show useE 12 10 3 = 150 from rfl]
  replace hs := at3 hx rfl (show useU 12 10 3 = 10 from rfl) rfl
  replace hr := hr.keep ho (by simp)
  replace hb := hb.trans (ho.below (by simp) hb.size)
  clear hx ho
  go_wp2_with fail
  refine (use_c _ 12 10 11 2 _ hs (by omega) (by omega) (by omega)).mono ?_
  rintro e wk ⟨rfl, hx, ho⟩
  rw [show useE 12 10 2 = 0 from rfl]
  replace hs := at3 hx rfl (show useU 12 10 2 = 12 from rfl) rfl
  replace hr := hr.keep ho (by simp)
  replace hb := hb.trans (ho.below (by simp) hb.size)
  clear hx ho
  go_wp2_with fail
  have hs' := at3 (a' := 12) (b' := 12) (c' := 10 + 1) hs rfl rfl rfl
  refine (block_c _ 12 12 10 _ hs' (by omega) (by omega) (by omega) (by omega) (by omega)).mono ?_
  rintro e wk ⟨rfl, hx, ho⟩
  clear hs'
  rw [show blkN 12 12 10 = 12 from rfl, show blkB 12 12 10 = true from rfl]
  replace hs := at3 hx rfl rfl (show blkT 12 12 10 + 1 = 13 from rfl)
  replace hr := hr.keep ho (by simp)
  replace hb := hb.trans (ho.below (by simp) hb.size)
  clear hx ho
  go_wp2_with fail
  refine (limit_c _ 150 100 60 50 _ hr).mono ?_
  rintro e wk ⟨rfl, rfl⟩
  go_wp2_with fail
  refine (nilrecv _).mono ?_
  rintro e wk ⟨rfl, rfl⟩
  go_wp2_with fail
  refine (niluse _).mono ?_
  rintro e wk ⟨rfl, rfl⟩
  go_wp2_with fail
  refine (nillim _).mono ?_
  rintro e wk ⟨rfl, rfl⟩
  go_wp2_with fail
  refine (nilav _).mono ?_
  rintro e wk ⟨rfl, rfl⟩
  go_wp2_with fail
  go_ret
  exact ⟨rfl, hb⟩
end Go.Proofs.Ytmmgmpghkpbgkaa
