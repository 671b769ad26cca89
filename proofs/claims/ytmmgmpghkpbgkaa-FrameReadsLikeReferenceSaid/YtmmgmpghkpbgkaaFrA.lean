/- Contracts of package frame: number, the reader. -/
import Derived.Test.YtmmgmpghkpbgkaaVrB
import Derived.Test.YtmmgmpghkpbgkaaFrM
import Derived.Deep.RegionHeld3
import Derived.Laws.Panics
import Derived.WalkSmall
namespace Go.Proofs.Ytmmgmpghkpbgkaa
open Go Go.RowKit
set_option linter.unusedVariables false
set_option linter.unusedSimpArgs false

/-- The panic of a malformed frame. -/
def MAL : Ending := .panicked [{ v := .iface 136 (.agg #[]), recovered := false }]
def strE (o : Option (List UInt8)) : Ending := match o with
  | some s => .returned (.string (strB s))
  | none => MAL
set_option maxHeartbeats 1000000 in
theorem number_c (n most : Int) (hn : -9223372036854775808 ≤ n ∧ n ≤ 9223372036854775807) (w : World) : Calls Try.prog 106 #[.int .i64 n, .int .i64 most] w fun e w' => e = strE (numE n most) ∧ Only [] w w' := by
  by_cases h1 : most < n
  · have hE : numE n most = none := by unfold numE; rw [if_pos h1]
    rw [hE]
    go_enter Try.func106, Try.ntmps106
    go_wp2_with fail
    exact ⟨rfl, rfl, Only.refl _ _⟩
  · by_cases h2 : vCls n < 0
    · have hE : numE n most = none := by unfold numE; rw [if_neg h1, if_pos h2]
      rw [hE]
      go_enter Try.func106, Try.ntmps106
      go_wp2_with fail
      refine (vencode_no n h2 _).mono ?_
      rintro e w2 ⟨rfl, ho⟩
      have HO := Lib.hid ho
      clear ho
      go_wp2_with fail
      exact ⟨rfl, rfl, HO.out⟩
    · have hE : numE n most = some (vEnc n) := by unfold numE; rw [if_neg h1, if_neg h2]
      rw [hE]
      have hneg := vCls_neg n
      obtain ⟨k, rfl⟩ : ∃ k : Nat, n = k := ⟨n.toNat, by omega⟩
      go_enter Try.func106, Try.ntmps106
      go_wp2_with fail
      refine (vencode_c k (by omega) _).mono ?_
      rintro e w2 ⟨rfl, ho⟩
      have HO := Lib.hid ho
      clear ho
      go_wp2_with fail
      go_ret
      exact ⟨rfl, HO.out⟩
/-- A reader of s at a. -/
def RdAt (w : World) (b : Nat) (s : ByteArray) (a : Nat) : Prop := At w b 97 #[.string s, .int .i64 a]
theorem DecPost.some {s : ByteArray} {a : Nat} {e : Ending} (h : DecPost s a e) {n : Int} {k : Nat} (hd : vDec (s.data.toList.drop a) = some (n, k)) : e = .returned (.tuple #[.int .i64 n, .int .i64 ((a + k : Nat) : Int), .int .i64 0]) := by
  unfold DecPost at h; rw [hd] at h; exact h
theorem DecPost.none {s : ByteArray} {a : Nat} {e : Ending} (h : DecPost s a e) (hd : vDec (s.data.toList.drop a) = none) : ∃ c : Int, c ≠ 0 ∧ e = .returned (.tuple #[.int .i64 0, .int .i64 0, .int .i64 c]) := by
  unfold DecPost at h; rw [hd] at h; exact h
set_option maxRecDepth 100000 in
set_option maxHeartbeats 2000000 in
theorem rnum_some (b : Nat) (s : ByteArray) (a : Nat) (n : Int) (k : Nat) (hd : vDec (s.data.toList.drop a) = some (n, k)) (ha : a ≤ s.size) (hs : s.size ≤ 4611686018427387903) (w : World) (hA : RdAt w b s a) :
    Calls Try.prog 108 #[.pointer (some ⟨b, 0, none⟩)] w fun e w' => e = .returned (.int .i64 n) ∧ RdAt w' b s (a + k) ∧ Only [b] w w' := by
  have c0 : w.drew.cell? ⟨b, 0, none⟩ = some (.string s) := At.cell hA 0 rfl
  have c1 : w.drew.cell? ⟨b, 1, none⟩ = some (.int .i64 a) := At.cell hA 1 rfl
  have c0' : w.cell? ⟨b, 0, none⟩ = some (.string s) := At.cell hA 0 rfl
  have c1' : w.cell? ⟨b, 1, none⟩ = some (.int .i64 a) := At.cell hA 1 rfl
  have HA : Hid (At w.drew b 97 #[.string s, .int .i64 a]) := Lib.hid hA
  clear hA
  go_enter Try.func108, Try.ntmps108
  go_wp2_with fail
  go_region_held3 (fun w' => w'.cell? ⟨b, 0, none⟩ = some (.string s) ∧ w'.cell? ⟨b, 1, none⟩ = some (.int .i64 a)) (first | exact ⟨d0, d1⟩ | exact ⟨c0, c1⟩) ((go_at_call 127; refine (vdecode_c s a ha hs _).mono ?_; rintro e w2 ⟨hp, ho⟩; have hq := hp.some hd; subst hq; have HA2 := Lib.hid (HA.out.keep ho (by simp)); have HO := Lib.hid ho; clear hp ho; have d0 : w2.cell? ⟨b, 0, none⟩ = some (.string s) := At.cell HA2.out 0 rfl; have d1 : w2.cell? ⟨b, 1, none⟩ = some (.int .i64 a) := At.cell HA2.out 1 rfl))
  have fr1 : w2.frozen? ⟨b, 1, none⟩ = false := At.free HA2.out 1
  go_wp2_with fail
  go_ret
  exact ⟨rfl, (HA2.out.set 1 _ (by simp)), (Only.trans ((Only.refl [b] w).drew) (HO.out.mono (by simp))).put (by simp) _⟩
set_option maxRecDepth 100000 in
set_option maxHeartbeats 2000000 in
theorem rnum_none (b : Nat) (s : ByteArray) (a : Nat) (hd : vDec (s.data.toList.drop a) = none) (ha : a ≤ s.size) (hs : s.size ≤ 4611686018427387903) (w : World) (hA : RdAt w b s a) :
    Calls Try.prog 108 #[.pointer (some ⟨b, 0, none⟩)] w fun e w' => e = MAL ∧ Only [b] w w' := by
  have c0 : w.drew.cell? ⟨b, 0, none⟩ = some (.string s) := At.cell hA 0 rfl
  have c1 : w.drew.cell? ⟨b, 1, none⟩ = some (.int .i64 a) := At.cell hA 1 rfl
  have c0' : w.cell? ⟨b, 0, none⟩ = some (.string s) := At.cell hA 0 rfl
  have c1' : w.cell? ⟨b, 1, none⟩ = some (.int .i64 a) := At.cell hA 1 rfl
  have HA : Hid (At w.drew b 97 #[.string s, .int .i64 a]) := Lib.hid hA
  clear hA
  go_enter Try.func108, Try.ntmps108
  go_wp2_with fail
  go_region_held3 (fun w' => w'.cell? ⟨b, 0, none⟩ = some (.string s) ∧ w'.cell? ⟨b, 1, none⟩ = some (.int .i64 a)) (first | exact ⟨d0, d1⟩ | exact ⟨c0, c1⟩) ((go_at_call 127; refine (vdecode_c s a ha hs _).mono ?_; rintro e w2 ⟨hp, ho⟩; obtain ⟨c, hc, hq⟩ := hp.none hd; subst hq; have hc2 : (c != 0) = true := bne_iff_ne.2 hc; have HA2 := Lib.hid (HA.out.keep ho (by simp)); have HO := Lib.hid ho; clear hp ho; have d0 : w2.cell? ⟨b, 0, none⟩ = some (.string s) := At.cell HA2.out 0 rfl; have d1 : w2.cell? ⟨b, 1, none⟩ = some (.int .i64 a) := At.cell HA2.out 1 rfl))
  go_wp2_with fail
  exact ⟨rfl, rfl, Only.trans ((Only.refl [b] w).drew) (HO.out.mono (by simp))⟩
set_option maxRecDepth 100000 in
set_option maxHeartbeats 2000000 in
theorem take_some (b : Nat) (s : ByteArray) (a n : Nat) (h : a + n ≤ s.size) (hs : s.size ≤ 4611686018427387903) (w : World) (hA : RdAt w b s a) :
    Calls Try.prog 112 #[.pointer (some ⟨b, 0, none⟩), .int .i64 n] w fun e w' => e = .returned (.string (s.extract a (a + n))) ∧ RdAt w' b s (a + n) ∧ Only [b] w w' := by
  have c0 : w.cell? ⟨b, 0, none⟩ = some (.string s) := At.cell hA 0 rfl
  have c1 : w.cell? ⟨b, 1, none⟩ = some (.int .i64 a) := At.cell hA 1 rfl
  have fr1 : w.frozen? ⟨b, 1, none⟩ = false := At.free hA 1
  have f1 : IntKind.i64.wrap ((s.size : Int) - a) = (s.size : Int) - a := IntWalk.i64_in _ (by omega)
  have f2 : IntKind.i64.wrap ((a : Int) + n) = (a : Int) + n := IntWalk.i64_in _ (by omega)
  have h1 : ¬ (s.size : Int) - a < n := by omega
  have HA := Lib.hid hA
  clear hA
  go_enter Try.func112, Try.ntmps112
  go_wp2_with fail
  go_quiet (fail)
  go_wp2_with fail
  have hz0 : RdAt ((w.drewN nq).setCell ⟨b, 1, none⟩ (.int .i64 ((a : Int) + n))) b s (a + n) := ((show At w b 97 _ from HA.out).drewN nq).set 1 _ (by simp)
  have hoz : Only [b] w ((w.drewN nq).setCell ⟨b, 1, none⟩ (.int .i64 ((a : Int) + n))) := ((Only.refl [b] w).drewN nq).put (by simp) _
  generalize (w.drewN nq).setCell ⟨b, 1, none⟩ (.int .i64 ((a : Int) + n)) = wz at hz0 hoz ⊢
  have d0 : wz.cell? ⟨b, 0, none⟩ = some (.string s) := At.cell hz0 0 rfl
  have d1 : wz.cell? ⟨b, 1, none⟩ = some (.int .i64 ((a : Int) + n)) := At.cell hz0 1 (by simp)
  have f3 : IntKind.i64.wrap ((a : Int) + n - n) = (a : Int) := by rw [Int.add_sub_cancel]; exact IntWalk.i64_in _ (by omega)
  have hsl : ∀ ww, (Instr.slice 9 (.string s) (some (.int .i64 a)) (some (.int .i64 ((a : Int) + n))) none).run Try.prog ww = .ok (.string (s.extract a (a + n))) ww := fun ww => by
    rw [run_slice_string_if ww 9 _ _ _ _ _ Try.underlying9]
    have e1 : ((a : Int) + n).toNat = a + n := by omega
    rw [if_pos (by omega), if_pos (by omega), e1, Int.toNat_natCast]
  have HZ := Lib.hid hz0
  have HOz := Lib.hid hoz
  clear c0 c1 hz0 hoz
  go_quiet (fail)
  go_wp2_with fail
  go_ret
  exact ⟨rfl, (show At wz b 97 _ from HZ.out).drewN _, HOz.out.drewN _⟩
set_option maxRecDepth 100000 in
set_option maxHeartbeats 2000000 in
theorem take_none (b : Nat) (s : ByteArray) (a : Nat) (n : Int) (ha : a ≤ s.size) (h : (s.size : Int) - a < n) (hs : s.size ≤ 4611686018427387903) (w : World) (hA : RdAt w b s a) :
    Calls Try.prog 112 #[.pointer (some ⟨b, 0, none⟩), .int .i64 n] w fun e w' => e = MAL ∧ Only [b] w w' := by
  have c0 : w.cell? ⟨b, 0, none⟩ = some (.string s) := At.cell hA 0 rfl
  have c1 : w.cell? ⟨b, 1, none⟩ = some (.int .i64 a) := At.cell hA 1 rfl
  have f1 : IntKind.i64.wrap ((s.size : Int) - a) = (s.size : Int) - a := IntWalk.i64_in _ (by omega)
  have HA := Lib.hid hA
  clear hA
  go_enter Try.func112, Try.ntmps112
  go_wp2_with fail
  go_quiet (fail)
  go_wp2_with fail
  exact ⟨rfl, rfl, (Only.refl [b] w).drewN _⟩
end Go.Proofs.Ytmmgmpghkpbgkaa
