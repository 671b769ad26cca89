/- More contracts of package flow and of its reference. -/
import Derived.Test.YtnembdlkdgfjlaaFlA
namespace Go.Proofs.Ytnembdlkdgfjlaa
open Go.RowKit
set_option linter.unusedVariables false
set_option linter.unusedSimpArgs false


set_option maxHeartbeats 1000000 in
theorem xupdate_c (b : Nat) (m wi h r : Int) (w : World) (hA : At w b 40 #[.int .i64 wi, .int .i64 m, .int .i64 h, .int .i64 r]) (b0 : 0 ≤ r) (b1 : r ≤ m) (b2 : m ≤ 1099511627776) (b3 : 0 ≤ wi) (b4 : wi ≤ 1073741824) :
    Calls Try.prog 18 #[.pointer (some ⟨b, 0, none⟩)] w fun e w' => e = .returned (.tuple #[.int .i64 (updN m wi r), .bool (updB m wi r)]) ∧ At w' b 40 #[.int .i64 wi, .int .i64 (updM m wi r), .int .i64 h, .int .i64 r] ∧ Only [b] w w' := by
  have c0 : w.cell? ⟨b, 0, none⟩ = some (.int .i64 wi) := hA.cell 0 rfl
  have c1 : w.cell? ⟨b, 1, none⟩ = some (.int .i64 m) := hA.cell 1 rfl
  have c3 : w.cell? ⟨b, 3, none⟩ = some (.int .i64 r) := hA.cell 3 rfl
  have f1 := hA.free 1
  have HA := Lib.hid hA; clear hA
  have e1 : IntKind.i64.wrap (m - r) = m - r := IntWalk.i64_in _ (by omega)
  have e2 : IntKind.i64.wrap (wi.tdiv 2) = wi / 2 := by rw [Int.tdiv_eq_ediv_of_nonneg b3]; exact IntWalk.i64_in _ (by omega)
  have e3 : IntKind.i64.wrap (r + wi) = r + wi := IntWalk.i64_in _ (by omega)
  have key : ∀ q : Int, capZ (r + wi) = q → (q ≤ m ∨ wi / 2 < m - r) → updM m wi r = m ∧ updN m wi r = 0 ∧ updB m wi r = false := by
    intro q hq hh
    have : updM m wi r = m := by unfold updM raiseZ; rw [hq]; (repeat' (first | omega | split))
    exact ⟨this, by simp [updN, this], by simp [updB, this]⟩
  have key2 : ∀ q : Int, capZ (r + wi) = q → m < q → m - r ≤ wi / 2 → updM m wi r = q ∧ updN m wi r = q ∧ updB m wi r = true := by
    intro q hq hh h3
    have : updM m wi r = q := by unfold updM raiseZ; rw [hq]; (repeat' (first | omega | split))
    exact ⟨this, by unfold updN; rw [this, if_pos hh], by unfold updB; rw [this]; simpa using hh⟩
  have kz : capZ (r + wi) = if 1099511627776 < r + wi then 1099511627776 else r + wi := rfl
  have KEY := Lib.hid key
  have KEY2 := Lib.hid key2
  have KZ := Lib.hid kz
  clear key key2 kz
  by_cases h1 : 1099511627776 < r + wi
  all_goals
    have kq := KZ.out
    first | rw [if_pos h1] at kq | rw [if_neg h1] at kq
    have KQ := Lib.hid kq
    clear kq KZ
  · have h1n : 1099511627776 < r + wi := h1
    by_cases h2 : (1099511627776 : Int) ≤ m
    · have h2' : decide ((1099511627776 : Int) ≤ m) = true := by simpa using h2
      obtain ⟨u1, u2, u3⟩ := KEY.out _ KQ.out (.inl h2)
      have U1 := Lib.hid u1
      have U2 := Lib.hid u2
      have U3 := Lib.hid u3
      clear u1 u2 u3
      go_enter Try.func18, Try.ntmps18
      go_wp2
      go_region
      all_goals go_wp2
      all_goals go_quiet (fail)
      all_goals go_wp2
      all_goals go_ret2
      all_goals exact ⟨ret_intb U2.out.symm U3.out.symm, at4 HA.out rfl U1.out.symm rfl rfl, by repeat (first | with_reducible exact Only.refl _ _ | with_reducible apply Only.drewN | with_reducible apply Only.drew)⟩
    have h2' : decide ((1099511627776 : Int) ≤ m) = false := by simpa using h2
    by_cases h3 : wi / 2 < m - r
    · have h3' : decide (wi / 2 < m - r) = true := by simpa using h3
      obtain ⟨u1, u2, u3⟩ := KEY.out _ KQ.out (.inr h3)
      have U1 := Lib.hid u1
      have U2 := Lib.hid u2
      have U3 := Lib.hid u3
      clear u1 u2 u3
      go_enter Try.func18, Try.ntmps18
      go_wp2
      go_region
      all_goals go_wp2
      all_goals go_quiet (fail)
      all_goals go_wp2
      all_goals go_ret2
      all_goals exact ⟨ret_intb U2.out.symm U3.out.symm, at4 HA.out rfl U1.out.symm rfl rfl, by repeat (first | with_reducible exact Only.refl _ _ | with_reducible apply Only.drewN | with_reducible apply Only.drew)⟩
    · have h3' : decide (wi / 2 < m - r) = false := by simpa using h3
      obtain ⟨u1, u2, u3⟩ := KEY2.out _ KQ.out (by omega) (by omega)
      have U1 := Lib.hid u1
      have U2 := Lib.hid u2
      have U3 := Lib.hid u3
      clear u1 u2 u3
      go_enter Try.func18, Try.ntmps18
      go_wp2
      go_region
      all_goals go_wp2
      all_goals go_quiet (fail)
      all_goals go_wp2
      all_goals go_ret2
      all_goals exact ⟨ret_intb U2.out.symm U3.out.symm, at4 (HA.out.set 1 _ rfl) rfl U1.out.symm rfl rfl, by repeat (first | with_reducible exact Only.refl _ _ | with_reducible apply Only.drewN | with_reducible apply Only.drew | (with_reducible refine Only.put ?_ (by simp) _))⟩
  · have h1n : ¬ (1099511627776 < r + wi) := h1
    by_cases h2 : (r + wi : Int) ≤ m
    · have h2' : decide ((r + wi : Int) ≤ m) = true := by simpa using h2
      obtain ⟨u1, u2, u3⟩ := KEY.out _ KQ.out (.inl h2)
      have U1 := Lib.hid u1
      have U2 := Lib.hid u2
      have U3 := Lib.hid u3
      clear u1 u2 u3
      go_enter Try.func18, Try.ntmps18
      go_wp2
      go_region
      all_goals go_wp2
      all_goals go_quiet (fail)
      all_goals go_wp2
      all_goals go_ret2
      all_goals exact ⟨ret_intb U2.out.symm U3.out.symm, at4 HA.out rfl U1.out.symm rfl rfl, by repeat (first | with_reducible exact Only.refl _ _ | with_reducible apply Only.drewN | with_reducible apply Only.drew)⟩
    have h2' : decide ((r + wi : Int) ≤ m) = false := by simpa using h2
    by_cases h3 : wi / 2 < m - r
    · have h3' : decide (wi / 2 < m - r) = true := by simpa using h3
      obtain ⟨u1, u2, u3⟩ := KEY.out _ KQ.out (.inr h3)
      have U1 := Lib.hid u1
      have U2 := Lib.hid u2
      have U3 := Lib.hid u3
      clear u1 u2 u3
      go_enter Try.func18, Try.ntmps18
      go_wp2
      go_region
      all_goals go_wp2
      all_goals go_quiet (fail)
      all_goals go_wp2
      all_goals go_ret2
      all_goals exact ⟨ret_intb U2.out.symm U3.out.symm, at4 HA.out rfl U1.out.symm rfl rfl, by repeat (first | with_reducible exact Only.refl _ _ | with_reducible apply Only.drewN | with_reducible apply Only.drew)⟩
    · have h3' : decide (wi / 2 < m - r) = false := by simpa using h3
      obtain ⟨u1, u2, u3⟩ := KEY2.out _ KQ.out (by omega) (by omega)
      have U1 := Lib.hid u1
      have U2 := Lib.hid u2
      have U3 := Lib.hid u3
      clear u1 u2 u3
      go_enter Try.func18, Try.ntmps18
      go_wp2
      go_region
      all_goals go_wp2
      all_goals go_quiet (fail)
      all_goals go_wp2
      all_goals go_ret2
      all_goals exact ⟨ret_intb U2.out.symm U3.out.symm, at4 (HA.out.set 1 _ rfl) rfl U1.out.symm rfl rfl, by repeat (first | with_reducible exact Only.refl _ _ | with_reducible apply Only.drewN | with_reducible apply Only.drew | (with_reducible refine Only.put ?_ (by simp) _))⟩
end Go.Proofs.Ytnembdlkdgfjlaa
