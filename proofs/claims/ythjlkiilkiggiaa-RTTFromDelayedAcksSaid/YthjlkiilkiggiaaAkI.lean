/- Contracts of package acks: the small methods. -/
import Derived.Test.YthjlkiilkiggiaaAkE
import Derived.Deep.QuietTactic
import Derived.BigQuiet
namespace Go.Proofs.Ythjlkiilkiggiaa
open Go Go.RowKit Go.Shelf
set_option linter.unusedVariables false
set_option linter.unusedSimpArgs false

def zF : Nat → Int := fun _ => 0
theorem trk_zero (d : Int) : trk zF zF 0 d 0 (-1) 0 0 (-1) = (trk zF zF 0 d 0 (-1) 0 0 (-1)) := rfl
set_option maxRecDepth 100000 in
theorem new_c (d : Int) (w : World) (h0 : 0 ≤ d) (h1 : d ≤ 20) : Calls Try.prog 11 #[.int .i64 d] w fun e w' => ∃ g, e = .returned (.tuple #[.pointer (some ⟨g, 0, none⟩), .int .i64 0]) ∧ Trk w' g zF zF 0 d 0 (-1) 0 0 (-1) ∧ Only [] w w' ∧ w.heap.size ≤ g := by
  go_enter Try.func11, Try.ntmps11
  go_wp2_with fail
  go_ret2
  exact ⟨_, rfl, At.new _ _ _, (Only.refl _ _).alloc _, Nat.le_refl _⟩
theorem new_bad (d : Int) (w : World) (h : d < 0 ∨ 20 < d) : Calls Try.prog 11 #[.int .i64 d] w fun e w' => e = .returned (.tuple #[.pointer none, .int .i64 2]) ∧ w = w' := by
  rcases h with h | h
  · go_enter Try.func11, Try.ntmps11
    go_wp2_with fail
    go_ret2
    exact ⟨rfl, rfl⟩
  · have h' : ¬ d < 0 := by omega
    go_enter Try.func11, Try.ntmps11
    go_wp2_with fail
    go_ret2
    exact ⟨rfl, rfl⟩
section
variable (b : Nat) (F T : Nat → Int) (n : Nat) (d fl lg wh ct du : Int) (w : World) (hT : Trk w b F T n d fl lg wh ct du)
include hT
theorem largest_c : Calls Try.prog 15 #[.pointer (some ⟨b, 0, none⟩)] w fun e w' => e = .returned (.int .i64 lg) ∧ w = w' := by
  have c := hT.glg
  clear hT
  go_enter Try.func15, Try.ntmps15
  go_wp2_with fail
  go_ret
  exact ⟨rfl, rfl⟩
theorem deadline_c : Calls Try.prog 13 #[.pointer (some ⟨b, 0, none⟩)] w fun e w' => e = .returned (.int .i64 du) ∧ w = w' := by
  have c := hT.gdu
  clear hT
  go_enter Try.func13, Try.ntmps13
  go_wp2_with fail
  go_ret
  exact ⟨rfl, rfl⟩
theorem pending_c (now : Int) (z : Bool) (hz : decide (du ≠ -1 ∧ du ≤ now) = z) : Calls Try.prog 14 #[.pointer (some ⟨b, 0, none⟩), .int .i64 now] w fun e w' => e = .returned (.bool z) ∧ Trk w' b F T n d fl lg wh ct du ∧ Only [] w w' := by
  have c := hT.gdu
  have HT := Lib.hid hT; clear hT
  by_cases h1 : du = -1
  · have q : (du == -1) = true := by simpa using h1
    have hz' : z = false := by rw [← hz]; simp [h1]
    clear hz; subst hz'
    go_enter Try.func14, Try.ntmps14
    go_wp2_with fail
    go_ret
    exact ⟨rfl, HT.out, Only.refl _ _⟩
  · have q : (du == -1) = false := by simpa using h1
    by_cases h2 : du ≤ now
    · have hz' : z = true := by rw [← hz]; simp [h1, h2]
      clear hz; subst hz'
      go_enter Try.func14, Try.ntmps14
      go_wp2_with fail
      go_ret
      exact ⟨ret_boo (by simp <;> omega), HT.out, Only.refl _ _⟩
    · have hz' : z = false := by rw [← hz]; simp [h2]
      clear hz; subst hz'
      go_enter Try.func14, Try.ntmps14
      go_wp2_with fail
      go_ret
      exact ⟨ret_boo (by simp <;> omega), HT.out, Only.refl _ _⟩
set_option maxHeartbeats 400000 in
theorem sent_c : Calls Try.prog 12 #[.pointer (some ⟨b, 0, none⟩)] w fun e w' => e = .returned (.tuple #[]) ∧ Trk w' b F T n d fl lg wh 0 (-1) ∧ Only [b] w w' := by
  have c := hT.gdu
  have c1 := hT.gct
  have f := At.free hT 39
  have f1 := At.free hT 40
  have HT := Lib.hid hT; clear hT
  go_enter Try.func12, Try.ntmps12
  go_wp2_with fail
  go_end0
  exact ⟨rfl, (At.set HT.out 40 _ rfl).set 39 _ rfl, ((Only.refl _ _).put (by simp) _).put (by simp) _⟩
def atZ (ct d now : Int) (o : Bool) : Int := if ct + 1 < 2 ∧ o = true then now + d else now
def duZ (ct d du now : Int) (o : Bool) : Int := if du = -1 ∨ atZ ct d now o < du then atZ ct d now o else du
set_option maxHeartbeats 1000000 in
theorem schedule_c (now : Int) (o : Bool) (h0 : 0 ≤ now) (h1 : now ≤ 1099511627776) (d0 : 0 ≤ d) (d1 : d ≤ 20) (k0 : 0 ≤ ct) (k1 : ct ≤ 1000000) :
    Calls Try.prog 33 #[.pointer (some ⟨b, 0, none⟩), .int .i64 now, .bool o] w fun e w' => e = .returned (.tuple #[]) ∧ Trk w' b F T n d fl lg wh (ct + 1) (duZ ct d du now o) ∧ Only [b] w w' := by
  have c := hT.gct
  have c1 := hT.gd
  have c2 := hT.gdu
  have f := At.free hT 39
  have f1 := At.free hT 40
  have HT := Lib.hid hT; clear hT
  cases o
  · skip
    have ea : atZ ct d now false = now := by simp [atZ]
    by_cases q2 : du = -1
    · have ed : duZ ct d du now false = now := by unfold duZ; rw [ea, if_pos (.inl q2)]
      have q3 : (du == -1) = true := by simpa using q2
      rw [ed]; clear ed ea q2
      go_enter Try.func33, Try.ntmps33
      go_wp2_with fail
      all_goals go_end0
      all_goals first | exact ⟨rfl, (At.set HT.out 39 _ rfl).set 40 _ rfl, ((Only.refl _ _).put (by simp) _).put (by simp) _⟩ | exact ⟨rfl, At.set HT.out 39 _ rfl, (Only.refl _ _).put (by simp) _⟩
    · have q3 : (du == -1) = false := by simpa using q2
      by_cases q4 : now < du
      · have ed : duZ ct d du now false = now := by unfold duZ; rw [ea, if_pos (.inr q4)]
        rw [ed]; clear ed ea q2
        go_enter Try.func33, Try.ntmps33
        go_wp2_with fail
        all_goals go_end0
        all_goals first | exact ⟨rfl, (At.set HT.out 39 _ rfl).set 40 _ rfl, ((Only.refl _ _).put (by simp) _).put (by simp) _⟩ | exact ⟨rfl, At.set HT.out 39 _ rfl, (Only.refl _ _).put (by simp) _⟩
      · have ed : duZ ct d du now false = du := by unfold duZ; rw [ea, if_neg (by omega)]
        rw [ed]; clear ed ea q2
        go_enter Try.func33, Try.ntmps33
        go_wp2_with fail
        all_goals go_end0
        all_goals first | exact ⟨rfl, (At.set HT.out 39 _ rfl).set 40 _ rfl, ((Only.refl _ _).put (by simp) _).put (by simp) _⟩ | exact ⟨rfl, At.set HT.out 39 _ rfl, (Only.refl _ _).put (by simp) _⟩
  · by_cases q1 : ct + 1 < 2
    · skip
      have ea : atZ ct d now true = (now + d) := by simp [atZ, q1]
      by_cases q2 : du = -1
      · have ed : duZ ct d du now true = (now + d) := by unfold duZ; rw [ea, if_pos (.inl q2)]
        have q3 : (du == -1) = true := by simpa using q2
        rw [ed]; clear ed ea q2
        go_enter Try.func33, Try.ntmps33
        go_wp2_with fail
        all_goals go_end0
        all_goals first | exact ⟨rfl, (At.set HT.out 39 _ rfl).set 40 _ rfl, ((Only.refl _ _).put (by simp) _).put (by simp) _⟩ | exact ⟨rfl, At.set HT.out 39 _ rfl, (Only.refl _ _).put (by simp) _⟩
      · have q3 : (du == -1) = false := by simpa using q2
        by_cases q4 : (now + d) < du
        · have ed : duZ ct d du now true = (now + d) := by unfold duZ; rw [ea, if_pos (.inr q4)]
          rw [ed]; clear ed ea q2
          go_enter Try.func33, Try.ntmps33
          go_wp2_with fail
          all_goals go_end0
          all_goals first | exact ⟨rfl, (At.set HT.out 39 _ rfl).set 40 _ rfl, ((Only.refl _ _).put (by simp) _).put (by simp) _⟩ | exact ⟨rfl, At.set HT.out 39 _ rfl, (Only.refl _ _).put (by simp) _⟩
        · have ed : duZ ct d du now true = du := by unfold duZ; rw [ea, if_neg (by omega)]
          rw [ed]; clear ed ea q2
          go_enter Try.func33, Try.ntmps33
          go_wp2_with fail
          all_goals go_end0
          all_goals first | exact ⟨rfl, (At.set HT.out 39 _ rfl).set 40 _ rfl, ((Only.refl _ _).put (by simp) _).put (by simp) _⟩ | exact ⟨rfl, At.set HT.out 39 _ rfl, (Only.refl _ _).put (by simp) _⟩
    · skip
      have ea : atZ ct d now true = now := by simp [atZ, q1]
      by_cases q2 : du = -1
      · have ed : duZ ct d du now true = now := by unfold duZ; rw [ea, if_pos (.inl q2)]
        have q3 : (du == -1) = true := by simpa using q2
        rw [ed]; clear ed ea q2
        go_enter Try.func33, Try.ntmps33
        go_wp2_with fail
        all_goals go_end0
        all_goals first | exact ⟨rfl, (At.set HT.out 39 _ rfl).set 40 _ rfl, ((Only.refl _ _).put (by simp) _).put (by simp) _⟩ | exact ⟨rfl, At.set HT.out 39 _ rfl, (Only.refl _ _).put (by simp) _⟩
      · have q3 : (du == -1) = false := by simpa using q2
        by_cases q4 : now < du
        · have ed : duZ ct d du now true = now := by unfold duZ; rw [ea, if_pos (.inr q4)]
          rw [ed]; clear ed ea q2
          go_enter Try.func33, Try.ntmps33
          go_wp2_with fail
          all_goals go_end0
          all_goals first | exact ⟨rfl, (At.set HT.out 39 _ rfl).set 40 _ rfl, ((Only.refl _ _).put (by simp) _).put (by simp) _⟩ | exact ⟨rfl, At.set HT.out 39 _ rfl, (Only.refl _ _).put (by simp) _⟩
        · have ed : duZ ct d du now true = du := by unfold duZ; rw [ea, if_neg (by omega)]
          rw [ed]; clear ed ea q2
          go_enter Try.func33, Try.ntmps33
          go_wp2_with fail
          all_goals go_end0
          all_goals first | exact ⟨rfl, (At.set HT.out 39 _ rfl).set 40 _ rfl, ((Only.refl _ _).put (by simp) _).put (by simp) _⟩ | exact ⟨rfl, At.set HT.out 39 _ rfl, (Only.refl _ _).put (by simp) _⟩
end
end Go.Proofs.Ythjlkiilkiggiaa
