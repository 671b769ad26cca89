/- Contracts of package frame: number, the reader. -/
import Derived.Test.YtgiekhohhogdiaaDoorRfB
import Derived.Test.YtgiekhohhogdiaaDoorRfA
import Derived.Deep.RegionHeld3
import Derived.Laws.Panics
import Derived.WalkSmall
namespace Go.Proofs.YtgiekhohhogdiaaDoor
open Go Go.RowKit
set_option linter.unusedVariables false
set_option linter.unusedSimpArgs false

/-- The panic of a malformed frame. -/
def MAL : Ending := .panicked [{ v := .iface 91 (.agg #[]), recovered := false }]
def strE (o : Option (List UInt8)) : Ending := match o with
  | some s => .returned (.string (strB s))
  | none => MAL
set_option maxHeartbeats 1000000 in
theorem number_c (n most : Int) (hn : -9223372036854775808 ≤ n ∧ n ≤ 9223372036854775807) (w : World) : Calls Tryd.prog 63 #[.int .i64 n, .int .i64 most] w fun e w' => e = strE (numE n most) ∧ Only [] w w' := by
  by_cases h1 : most < n
  · have hE : numE n most = none := by unfold numE; rw [if_pos h1]
    rw [hE]
    go_enter Tryd.func63, Tryd.ntmps63
    go_wp2_with fail
    exact ⟨rfl, rfl, Only.refl _ _⟩
  · by_cases h2 : vCls n < 0
    · have hE : numE n most = none := by unfold numE; rw [if_neg h1, if_pos h2]
      rw [hE]
      go_enter Tryd.func63, Tryd.ntmps63
      go_wp2_with fail
      refine (vencode_no n h2 _).mono ?_
      rintro e w2 ⟨rfl, ho⟩
      have HO := Lib.hid ho
      clear ho
      go_wp2_with fail
      exact ⟨rfl, rfl, HO.out⟩
    · have hE : numE n most = some (vEnc n) := by unfold numE; rw [if_neg h1, if_neg h2]
      rw [hE]
      have hneg := vCls_neg n
      obtain ⟨k, rfl⟩ : ∃ k : Nat, n = k := ⟨n.toNat, by omega⟩
      go_enter Tryd.func63, Tryd.ntmps63
      go_wp2_with fail
      refine (vencode_c k (by omega) _).mono ?_
      rintro e w2 ⟨rfl, ho⟩
      have HO := Lib.hid ho
      clear ho
      go_wp2_with fail
      go_ret
      exact ⟨rfl, HO.out⟩
/-- A reader of s at a. -/
def RdAt (w : World) (b : Nat) (s : ByteArray) (a : Nat) : Prop := At w b 72 #[.string s, .int .i64 a]
theorem DecPost.some {s : ByteArray} {a : Nat} {e : Ending} (h : DecPost s a e) {n : Int} {k : Nat} (hd : vDec (s.data.toList.drop a) = some (n, k)) : e = .returned (.tuple #[.int .i64 n, .int .i64 ((a + k : Nat) : Int), .int .i64 0]) := by
  unfold DecPost at h; rw [hd] at h; exact h
theorem DecPost.none {s : ByteArray} {a : Nat} {e : Ending} (h : DecPost s a e) (hd : vDec (s.data.toList.drop a) = none) : ∃ c : Int, c ≠ 0 ∧ e = .returned (.tuple #[.int .i64 0, .int .i64 0, .int .i64 c]) := by
  unfold DecPost at h; rw [hd] at h; exact h
set_option maxRecDepth 100000 in
set_option maxHeartbeats 2000000 in
theorem rnum_some (b : Nat) (s : ByteArray) (a : Nat) (n : Int) (k : Nat) (hd : vDec (s.data.toList.drop a) = some (n, k)) (ha : a ≤ s.size) (hs : s.size ≤ 4611686018427387903) (w : World) (hA : RdAt w b s a) :
    Calls Tryd.prog 65 #[.pointer (some ⟨b, 0, none⟩)] w fun e w' => e = .returned (.int .i64 n) ∧ RdAt w' b s (a + k) ∧ Only [b] w w' := by
  have c0 : w.drew.cell? ⟨b, 0, none⟩ = some (.string s) := At.cell hA 0 rfl
  have c1 : w.drew.cell? ⟨b, 1, none⟩ = some (.int .i64 a) := At.cell hA 1 rfl
  have c0' : w.cell? ⟨b, 0, none⟩ = some (.string s) := At.cell hA 0 rfl
  have c1' : w.cell? ⟨b, 1, none⟩ = some (.int .i64 a) := At.cell hA 1 rfl
  have HA : Hid (At w.drew b 72 #[.string s, .int .i64 a]) := Lib.hid hA
  clear hA
  go_enter Tryd.func65, Tryd.ntmps65
  go_wp2_with fail
  go_region_held3 (fun w' => w'.cell? ⟨b, 0, none⟩ = some (.string s) ∧ w'.cell? ⟨b, 1, none⟩ = some (.int .i64 a)) (first | exact ⟨d0, d1⟩ | exact ⟨c0, c1⟩) ((go_at_call 81; refine (vdecode_c s a ha hs _).mono ?_; rintro e w2 ⟨hp, ho⟩; have hq := hp.some hd; subst hq; have HA2 := Lib.hid (HA.out.keep ho (by simp)); have HO := Lib.hid ho; clear hp ho; have d0 : w2.cell? ⟨b, 0, none⟩ = some (.string s) := At.cell HA2.out 0 rfl; have d1 : w2.cell? ⟨b, 1, none⟩ = some (.int .i64 a) := At.cell HA2.out 1 rfl))
  have fr1 : w2.frozen? ⟨b, 1, none⟩ = false := At.free HA2.out 1
  go_wp2_with fail
  go_ret
  exact ⟨rfl, (HA2.out.set 1 _ (by simp)), (Only.trans ((Only.refl [b] w).drew) (HO.out.mono (by simp))).put (by simp) _⟩
set_option maxRecDepth 100000 in
set_option maxHeartbeats 2000000 in
theorem rnum_none (b : Nat) (s : ByteArray) (a : Nat) (hd : vDec (s.data.toList.drop a) = none) (ha : a ≤ s.size) (hs : s.size ≤ 4611686018427387903) (w : World) (hA : RdAt w b s a) :
    Calls Tryd.prog 65 #[.pointer (some ⟨b, 0, none⟩)] w fun e w' => e = MAL ∧ Only [b] w w' := by
  have c0 : w.drew.cell? ⟨b, 0, none⟩ = some (.string s) := At.cell hA 0 rfl
  have c1 : w.drew.cell? ⟨b, 1, none⟩ = some (.int .i64 a) := At.cell hA 1 rfl
  have c0' : w.cell? ⟨b, 0, none⟩ = some (.string s) := At.cell hA 0 rfl
  have c1' : w.cell? ⟨b, 1, none⟩ = some (.int .i64 a) := At.cell hA 1 rfl
  have HA : Hid (At w.drew b 72 #[.string s, .int .i64 a]) := Lib.hid hA
  clear hA
  go_enter Tryd.func65, Tryd.ntmps65
  go_wp2_with fail
  go_region_held3 (fun w' => w'.cell? ⟨b, 0, none⟩ = some (.string s) ∧ w'.cell? ⟨b, 1, none⟩ = some (.int .i64 a)) (first | exact ⟨d0, d1⟩ | exact ⟨c0, c1⟩) ((go_at_call 81; refine (vdecode_c s a ha hs _).mono ?_; rintro e w2 ⟨hp, ho⟩; obtain ⟨c, hc, hq⟩ := hp.none hd; subst hq; have hc2 : (c != 0) = true := bne_iff_ne.2 hc; have HA2 := Lib.hid (HA.out.keep ho (by simp)); have HO := Lib.hid ho; clear hp ho; have d0 : w2.cell? ⟨b, 0, none⟩ = some (.string s) := At.cell HA2.out 0 rfl; have d1 : w2.cell? ⟨b, 1, none⟩ = some (.int .i64 a) := At.cell HA2.out 1 rfl))
  go_wp2_with fail
  exact ⟨rfl, rfl, Only.trans ((Only.refl [b] w).drew) (HO.out.mono (by simp))⟩
set_option maxRecDepth 100000 in
set_option maxHeartbeats 2000000 in
theorem take_some (b : Nat) (s : ByteArray) (a n : Nat) (h : a + n ≤ s.size) (hs : s.size ≤ 4611686018427387903) (w : World) (hA : RdAt w b s a) :
    Calls Tryd.prog 69 #[.pointer (some ⟨b, 0, none⟩), .int .i64 n] w fun e w' => e = .returned (.string (s.extract a (a + n))) ∧ RdAt w' b s (a + n) ∧ Only [b] w w' := by
  have c0 : w.cell? ⟨b, 0, none⟩ = some (.string s) := At.cell hA 0 rfl
  have c1 : w.cell? ⟨b, 1, none⟩ = some (.int .i64 a) := At.cell hA 1 rfl
  have fr1 : w.frozen? ⟨b, 1, none⟩ = false := At.free hA 1
  have f1 : IntKind.i64.wrap ((s.size : Int) - a) = (s.size : Int) - a := IntWalk.i64_in _ (by omega)
  have f2 : IntKind.i64.wrap ((a : Int) + n) = (a : Int) + n := IntWalk.i64_in _ (by omega)
  have h1 : ¬ (s.size : Int) - a < n := by omega
  have HA := Lib.hid hA
  clear hA
  go_enter Tryd.func69, Tryd.ntmps69
  go_wp2_with fail
  go_quiet (fail)
  go_wp2_with fail
  have hz0 : RdAt ((w.drewN nq).setCell ⟨b, 1, none⟩ (.int .i64 ((a : Int) + n))) b s (a + n) := ((show At w b 72 _ from HA.out).drewN nq).set 1 _ (by simp)
  have hoz : Only [b] w ((w.drewN nq).setCell ⟨b, 1, none⟩ (.int .i64 ((a : Int) + n))) := ((Only.refl [b] w).drewN nq).put (by simp) _
  generalize (w.drewN nq).setCell ⟨b, 1, none⟩ (.int .i64 ((a : Int) + n)) = wz at hz0 hoz ⊢
  have d0 : wz.cell? ⟨b, 0, none⟩ = some (.string s) := At.cell hz0 0 rfl
  have d1 : wz.cell? ⟨b, 1, none⟩ = some (.int .i64 ((a : Int) + n)) := At.cell hz0 1 (by simp)
  have f3 : IntKind.i64.wrap ((a : Int) + n - n) = (a : Int) := by rw [Int.add_sub_cancel]; exact IntWalk.i64_in _ (by omega)
  have hsl : ∀ ww, (Instr.slice 9 (.string s) (some (.int .i64 a)) (some (.int .i64 ((a : Int) + n))) none).run Tryd.prog ww = .ok (.string (s.extract a (a + n))) ww := fun ww => by
    rw [run_slice_string_if ww 9 _ _ _ _ _ Tryd.underlying9]
    have e1 : ((a : Int) + n).toNat = a + n := by omega
    rw [if_pos (by omega), if_pos (by omega), e1, Int.toNat_natCast]
  have HZ := Lib.hid hz0
  have HOz := Lib.hid hoz
  clear c0 c1 hz0 hoz
  go_quiet (fail)
  go_wp2_with fail
  go_ret
  exact ⟨rfl, (show At wz b 72 _ from HZ.out).drewN _, HOz.out.drewN _⟩
set_option maxRecDepth 100000 in
set_option maxHeartbeats 2000000 in
theorem take_none (b : Nat) (s : ByteArray) (a : Nat) (n : Int) (ha : a ≤ s.size) (h : (s.size : Int) - a < n) (hs : s.size ≤ 4611686018427387903) (w : World) (hA : RdAt w b s a) :
    Calls Tryd.prog 69 #[.pointer (some ⟨b, 0, none⟩), .int .i64 n] w fun e w' => e = MAL ∧ Only [b] w w' := by
  have c0 : w.cell? ⟨b, 0, none⟩ = some (.string s) := At.cell hA 0 rfl
  have c1 : w.cell? ⟨b, 1, none⟩ = some (.int .i64 a) := At.cell hA 1 rfl
  have f1 : IntKind.i64.wrap ((s.size : Int) - a) = (s.size : Int) - a := IntWalk.i64_in _ (by omega)
  have HA := Lib.hid hA
  clear hA
  go_enter Tryd.func69, Tryd.ntmps69
  go_wp2_with fail
  go_quiet (fail)
  go_wp2_with fail
  exact ⟨rfl, rfl, (Only.refl [b] w).drewN _⟩
end Go.Proofs.YtgiekhohhogdiaaDoor
/- Contracts of package frame: a frame in memory, the closures of a part that is a number. -/
namespace Go.Proofs.YtgiekhohhogdiaaDoor
open Go Go.RowKit
set_option linter.unusedVariables false
set_option linter.unusedSimpArgs false

/-- The cells of a frame; rv is the slice of its ranges. -/
def frC (f : Fr) (rv : Value) : Array Value := #[.int .i64 f.ty, .int .i64 f.st, .int .i64 f.off, .string (strB f.S), .bool f.fin, .int .i64 f.mx, .int .i64 f.cd, .bool f.uni, .int .i64 f.dl, rv, .int .i64 f.sq, .int .i64 f.rt, .string (strB f.cid)]
def FrAt (w : World) (b : Nat) (f : Fr) (rv : Value) : Prop := At w b 33 (frC f rv)
/-- The numbers of a frame fit. -/
structure FrWf (f : Fr) : Prop where
  st : -9223372036854775808 ≤ f.st ∧ f.st ≤ 9223372036854775807
  off : -9223372036854775808 ≤ f.off ∧ f.off ≤ 9223372036854775807
  mx : -9223372036854775808 ≤ f.mx ∧ f.mx ≤ 9223372036854775807
  cd : -9223372036854775808 ≤ f.cd ∧ f.cd ≤ 9223372036854775807
  dl : -9223372036854775808 ≤ f.dl ∧ f.dl ≤ 9223372036854775807
  sq : -9223372036854775808 ≤ f.sq ∧ f.sq ≤ 9223372036854775807
  rt : -9223372036854775808 ≤ f.rt ∧ f.rt ≤ 9223372036854775807
  S : f.S.length ≤ 4611686018427387903
  cid : f.cid.length ≤ 4611686018427387903
theorem clr_only {w w' : World} {S : List Nat} (h : Only S w.drew w') : Only S w w' := Only.trans ((Only.refl S w).drew) h

theorem fld_st (b : Nat) (w : World) : Calls Tryd.prog 38 #[.pointer (some ⟨b, 0, none⟩)] w fun e w' => e = .returned (.pointer (some ⟨b, 1, none⟩)) ∧ w = w' := by
  go_enter Tryd.func38, Tryd.ntmps38
  go_wp2_with fail
  go_ret
  exact ⟨rfl, rfl⟩
set_option maxRecDepth 100000 in
set_option maxHeartbeats 2000000 in
theorem put_st (b q1 q2 : Nat) (f : Fr) (rv : Value) (most : Int) (w : World) (hA : FrAt w b f rv) (h1 : w.cell? ⟨q1, 0, none⟩ = some (.func (.func 38) #[] #[])) (h2 : w.cell? ⟨q2, 0, none⟩ = some (.int .i64 most)) (hn : -9223372036854775808 ≤ f.st ∧ f.st ≤ 9223372036854775807) :
    Calls Tryd.prog 62 #[.pointer (some ⟨b, 0, none⟩), .pointer (some ⟨q1, 0, none⟩), .pointer (some ⟨q2, 0, none⟩)] w fun e w' => e = strE (numE f.st most) ∧ Only [] w w' := by
  have c0 : w.drew.cell? ⟨b, 1, none⟩ = some (.int .i64 f.st) := At.cell hA 1 rfl
  have c1 : w.drew.cell? ⟨q1, 0, none⟩ = some (.func (.func 38) #[] #[]) := h1
  have c2 : w.drew.cell? ⟨q2, 0, none⟩ = some (.int .i64 most) := h2
  have hcl := fun ww => number_c f.st most hn ww
  obtain ⟨n, hnn⟩ : ∃ n, f.st = n := ⟨_, rfl⟩
  have HN := Lib.hid hnn
  rw [hnn] at c0 hcl ⊢
  clear hA hnn
  cases hE : numE n most with
  | none =>
    simp only [hE, strE, MAL] at hcl ⊢
    clear hE
    go_enter Tryd.func62, Tryd.ntmps62
    go_wp2_with fail
    refine wp_region_held_drew (S := fun w' => w'.cell? ⟨b, 1, none⟩ = some (.int .i64 n) ∧ w'.cell? ⟨q1, 0, none⟩ = some (.func (.func 38) #[] #[]) ∧ w'.cell? ⟨q2, 0, none⟩ = some (.int .i64 most)) (by kernel_rfl) (by exact ⟨c0, c1, c2⟩) (fun hHeld => ?_)
    refine wpAnyH_take (i := 0) (v := ?_) rfl (by kernel_rfl) (by kernel_rfl) (by kernel_rfl) (fun _ _ _ h => h) (Or.inl ⟨by kernel_rfl, ?_⟩) (by assumption) ?_
    rotate_left
    · intro wS hSw
      try dsimp only at hSw
      go_simp
      try with_reducible rfl
    simp only [List.getElem_toArray, List.getElem_cons_succ, List.getElem_cons_zero, Act.put, List.setIfInBounds_toArray, List.set_cons_zero, List.set_cons_succ]
    refine wpAnyH_take (i := 1) (v := ?_) rfl (by kernel_rfl) (by kernel_rfl) (by kernel_rfl) (fun _ _ _ h => h) (Or.inl ⟨by kernel_rfl, ?_⟩) (by assumption) ?_
    rotate_left
    · intro wS hSw
      try dsimp only at hSw
      go_simp
      try with_reducible rfl
    simp only [List.getElem_toArray, List.getElem_cons_succ, List.getElem_cons_zero, Act.put, List.setIfInBounds_toArray, List.set_cons_zero, List.set_cons_succ]
    refine wpAnyH_take (i := 5) (v := ?_) rfl (by kernel_rfl) (by kernel_rfl) (by kernel_rfl) (fun _ _ _ h => h) (Or.inl ⟨by kernel_rfl, ?_⟩) (by assumption) ?_
    rotate_left
    · intro wS hSw
      try dsimp only at hSw
      go_simp
      try with_reducible rfl
    simp only [List.getElem_toArray, List.getElem_cons_succ, List.getElem_cons_zero, Act.put, List.setIfInBounds_toArray, List.set_cons_zero, List.set_cons_succ]
    refine wpAnyH_ready (rs := [2]) (by kernel_rfl) (by simp) ?_
    refine AllReadyH.cons rfl (fun K hK => ?_) AllReadyH.nil
    go_simp
    refine (fld_st b _).mono ?_
    rintro e w' ⟨rfl, rfl⟩
    refine hK.out _ _ (by exact hHeld) (fun hHeld' => ?_)
    clear hHeld hK K
    rename_i hHeld
    refine wpAnyH_take (i := 3) (v := ?_) rfl (by kernel_rfl) (by kernel_rfl) (by kernel_rfl) (fun _ _ _ h => h) (Or.inl ⟨by kernel_rfl, ?_⟩) (by assumption) ?_
    rotate_left
    · intro wS hSw
      try dsimp only at hSw
      go_simp
      try with_reducible rfl
    simp only [List.getElem_toArray, List.getElem_cons_succ, List.getElem_cons_zero, Act.put, List.setIfInBounds_toArray, List.set_cons_zero, List.set_cons_succ]
    refine wpAnyH_take (i := 4) (v := ?_) rfl (by kernel_rfl) (by kernel_rfl) (by kernel_rfl) (fun _ _ _ h => h) (Or.inl ⟨by kernel_rfl, ?_⟩) (by assumption) ?_
    rotate_left
    · intro wS hSw
      try dsimp only at hSw
      go_simp
      try with_reducible rfl
    simp only [List.getElem_toArray, List.getElem_cons_succ, List.getElem_cons_zero, Act.put, List.setIfInBounds_toArray, List.set_cons_zero, List.set_cons_succ]
    refine wpAnyH_ready (rs := [6]) (by kernel_rfl) (by simp) ?_
    refine AllReadyH.cons rfl (fun K hK => ?_) AllReadyH.nil
    go_simp
    refine (hcl _).mono ?_
    rintro e w2 ⟨rfl, ho⟩
    exact ⟨rfl, rfl, clr_only ho⟩
  | some sE =>
    simp only [hE, strE] at hcl ⊢
    clear hE
    go_enter Tryd.func62, Tryd.ntmps62
    go_wp2_with fail
    go_region_held3 (fun w' => w'.cell? ⟨b, 1, none⟩ = some (.int .i64 n) ∧ w'.cell? ⟨q1, 0, none⟩ = some (.func (.func 38) #[] #[]) ∧ w'.cell? ⟨q2, 0, none⟩ = some (.int .i64 most)) (first | exact ⟨d0, d1, d2⟩ | exact ⟨c0, c1, c2⟩) (first | (go_at_call 38; refine (fld_st b _).mono ?_; rintro e w' ⟨rfl, rfl⟩) | (go_at_call 63; refine (hcl _).mono ?_; rintro e w2 ⟨rfl, ho⟩; have HO := Lib.hid ho; have d0 := (ho.cell (p := ⟨b, 1, none⟩) (World.block_lt_of_cell? _ _ c0) (by simp)).trans c0; have d1 := (ho.cell (p := ⟨q1, 0, none⟩) (World.block_lt_of_cell? _ _ c1) (by simp)).trans c1; have d2 := (ho.cell (p := ⟨q2, 0, none⟩) (World.block_lt_of_cell? _ _ c2) (by simp)).trans c2; clear ho))
    go_wp2_with fail
    go_ret
    exact ⟨rfl, clr_only HO.out⟩
set_option maxRecDepth 100000 in
set_option maxHeartbeats 2000000 in
theorem clr_st (b q1 : Nat) (f : Fr) (rv : Value) (w : World) (hA : FrAt w b f rv) (h1 : w.cell? ⟨q1, 0, none⟩ = some (.func (.func 38) #[] #[])) :
    Calls Tryd.prog 66 #[.pointer (some ⟨b, 0, none⟩), .pointer (some ⟨q1, 0, none⟩)] w fun e w' => e = .returned (.tuple #[]) ∧ FrAt w' b (f.set .st 0) rv ∧ Only [b] w w' := by
  have c0 : ∃ u, w.cell? ⟨b, 1, none⟩ = some u := ⟨_, At.cell hA 1 rfl⟩
  obtain ⟨u, c0⟩ := c0
  have fr : w.frozen? ⟨b, 1, none⟩ = false := At.free hA 1
  have HA := Lib.hid hA
  clear hA
  go_enter Tryd.func66, Tryd.ntmps66
  go_wp2_with fail
  refine (fld_st b _).mono ?_
  rintro e w2 ⟨rfl, rfl⟩
  go_wp2_with fail
  go_end0
  exact ⟨rfl, (show At w b 33 _ from HA.out).set 1 _ rfl, (Only.refl [b] w).put (by simp) _⟩
set_option maxRecDepth 100000 in
set_option maxHeartbeats 2000000 in
theorem get_st (rb b q1 : Nat) (hrb : rb ≠ b) (s : ByteArray) (a : Nat) (ha : a ≤ s.size) (hs : s.size ≤ 4611686018427387903) (f : Fr) (rv : Value) (w : World) (hR : RdAt w rb s a) (hA : FrAt w b f rv) (h1 : w.cell? ⟨q1, 0, none⟩ = some (.func (.func 38) #[] #[])) :
    Calls Tryd.prog 64 #[.pointer (some ⟨rb, 0, none⟩), .pointer (some ⟨b, 0, none⟩), .pointer (some ⟨q1, 0, none⟩)] w fun e w' => Only [rb, b] w w' ∧ match vDec (s.data.toList.drop a) with
      | some (n, k) => e = .returned (.tuple #[]) ∧ FrAt w' b (f.set .st n) rv ∧ RdAt w' rb s (a + k)
      | none => e = MAL := by
  have HA := Lib.hid hA
  cases hd : vDec (s.data.toList.drop a) with
  | none =>
    have hcl := fun ww hh => rnum_none rb s a hd ha hs ww hh
    simp only [MAL] at hcl ⊢
    go_enter Tryd.func64, Tryd.ntmps64
    go_wp2_with fail
    refine (fld_st b _).mono ?_
    rintro e w2 ⟨rfl, rfl⟩
    go_wp2_with fail
    refine (hcl _ hR).mono ?_
    rintro e w3 ⟨rfl, ho⟩
    exact ⟨rfl, ho.mono (by simp), rfl⟩
  | some p =>
    obtain ⟨n, k⟩ := p
    go_enter Tryd.func64, Tryd.ntmps64
    go_wp2_with fail
    refine (fld_st b _).mono ?_
    rintro e w2 ⟨rfl, rfl⟩
    go_wp2_with fail
    refine (rnum_some rb s a n k hd ha hs _ hR).mono ?_
    rintro e w3 ⟨rfl, hR3, ho⟩
    have hA3 := (show At w b 33 _ from HA.out).keep ho (by simp; omega)
    have c0 : ∃ u, w3.cell? ⟨b, 1, none⟩ = some u := ⟨_, At.cell hA3 1 rfl⟩
    obtain ⟨u, c0⟩ := c0
    have fr : w3.frozen? ⟨b, 1, none⟩ = false := At.free hA3 1
    have HA3 := Lib.hid hA3
    have HR3 := Lib.hid hR3
    have HO := Lib.hid ho
    clear hA3 hR3 ho hd
    go_wp2_with fail
    go_end0
    exact ⟨(HO.out.mono (by simp)).put (by simp) _, rfl, HA3.out.set 1 _ rfl, (show At w3 rb 72 _ from HR3.out).far (by simpa using hrb) _⟩

theorem fld_mx (b : Nat) (w : World) : Calls Tryd.prog 39 #[.pointer (some ⟨b, 0, none⟩)] w fun e w' => e = .returned (.pointer (some ⟨b, 5, none⟩)) ∧ w = w' := by
  go_enter Tryd.func39, Tryd.ntmps39
  go_wp2_with fail
  go_ret
  exact ⟨rfl, rfl⟩
set_option maxRecDepth 100000 in
set_option maxHeartbeats 2000000 in
theorem put_mx (b q1 q2 : Nat) (f : Fr) (rv : Value) (most : Int) (w : World) (hA : FrAt w b f rv) (h1 : w.cell? ⟨q1, 0, none⟩ = some (.func (.func 39) #[] #[])) (h2 : w.cell? ⟨q2, 0, none⟩ = some (.int .i64 most)) (hn : -9223372036854775808 ≤ f.mx ∧ f.mx ≤ 9223372036854775807) :
    Calls Tryd.prog 62 #[.pointer (some ⟨b, 0, none⟩), .pointer (some ⟨q1, 0, none⟩), .pointer (some ⟨q2, 0, none⟩)] w fun e w' => e = strE (numE f.mx most) ∧ Only [] w w' := by
  have c0 : w.drew.cell? ⟨b, 5, none⟩ = some (.int .i64 f.mx) := At.cell hA 5 rfl
  have c1 : w.drew.cell? ⟨q1, 0, none⟩ = some (.func (.func 39) #[] #[]) := h1
  have c2 : w.drew.cell? ⟨q2, 0, none⟩ = some (.int .i64 most) := h2
  have hcl := fun ww => number_c f.mx most hn ww
  obtain ⟨n, hnn⟩ : ∃ n, f.mx = n := ⟨_, rfl⟩
  have HN := Lib.hid hnn
  rw [hnn] at c0 hcl ⊢
  clear hA hnn
  cases hE : numE n most with
  | none =>
    simp only [hE, strE, MAL] at hcl ⊢
    clear hE
    go_enter Tryd.func62, Tryd.ntmps62
    go_wp2_with fail
    refine wp_region_held_drew (S := fun w' => w'.cell? ⟨b, 5, none⟩ = some (.int .i64 n) ∧ w'.cell? ⟨q1, 0, none⟩ = some (.func (.func 39) #[] #[]) ∧ w'.cell? ⟨q2, 0, none⟩ = some (.int .i64 most)) (by kernel_rfl) (by exact ⟨c0, c1, c2⟩) (fun hHeld => ?_)
    refine wpAnyH_take (i := 0) (v := ?_) rfl (by kernel_rfl) (by kernel_rfl) (by kernel_rfl) (fun _ _ _ h => h) (Or.inl ⟨by kernel_rfl, ?_⟩) (by assumption) ?_
    rotate_left
    · intro wS hSw
      try dsimp only at hSw
      go_simp
      try with_reducible rfl
    simp only [List.getElem_toArray, List.getElem_cons_succ, List.getElem_cons_zero, Act.put, List.setIfInBounds_toArray, List.set_cons_zero, List.set_cons_succ]
    refine wpAnyH_take (i := 1) (v := ?_) rfl (by kernel_rfl) (by kernel_rfl) (by kernel_rfl) (fun _ _ _ h => h) (Or.inl ⟨by kernel_rfl, ?_⟩) (by assumption) ?_
    rotate_left
    · intro wS hSw
      try dsimp only at hSw
      go_simp
      try with_reducible rfl
    simp only [List.getElem_toArray, List.getElem_cons_succ, List.getElem_cons_zero, Act.put, List.setIfInBounds_toArray, List.set_cons_zero, List.set_cons_succ]
    refine wpAnyH_take (i := 5) (v := ?_) rfl (by kernel_rfl) (by kernel_rfl) (by kernel_rfl) (fun _ _ _ h => h) (Or.inl ⟨by kernel_rfl, ?_⟩) (by assumption) ?_
    rotate_left
    · intro wS hSw
      try dsimp only at hSw
      go_simp
      try with_reducible rfl
    simp only [List.getElem_toArray, List.getElem_cons_succ, List.getElem_cons_zero, Act.put, List.setIfInBounds_toArray, List.set_cons_zero, List.set_cons_succ]
    refine wpAnyH_ready (rs := [2]) (by kernel_rfl) (by simp) ?_
    refine AllReadyH.cons rfl (fun K hK => ?_) AllReadyH.nil
    go_simp
    refine (fld_mx b _).mono ?_
    rintro e w' ⟨rfl, rfl⟩
    refine hK.out _ _ (by exact hHeld) (fun hHeld' => ?_)
    clear hHeld hK K
    rename_i hHeld
    refine wpAnyH_take (i := 3) (v := ?_) rfl (by kernel_rfl) (by kernel_rfl) (by kernel_rfl) (fun _ _ _ h => h) (Or.inl ⟨by kernel_rfl, ?_⟩) (by assumption) ?_
    rotate_left
    · intro wS hSw
      try dsimp only at hSw
      go_simp
      try with_reducible rfl
    simp only [List.getElem_toArray, List.getElem_cons_succ, List.getElem_cons_zero, Act.put, List.setIfInBounds_toArray, List.set_cons_zero, List.set_cons_succ]
    refine wpAnyH_take (i := 4) (v := ?_) rfl (by kernel_rfl) (by kernel_rfl) (by kernel_rfl) (fun _ _ _ h => h) (Or.inl ⟨by kernel_rfl, ?_⟩) (by assumption) ?_
    rotate_left
    · intro wS hSw
      try dsimp only at hSw
      go_simp
      try with_reducible rfl
    simp only [List.getElem_toArray, List.getElem_cons_succ, List.getElem_cons_zero, Act.put, List.setIfInBounds_toArray, List.set_cons_zero, List.set_cons_succ]
    refine wpAnyH_ready (rs := [6]) (by kernel_rfl) (by simp) ?_
    refine AllReadyH.cons rfl (fun K hK => ?_) AllReadyH.nil
    go_simp
    refine (hcl _).mono ?_
    rintro e w2 ⟨rfl, ho⟩
    exact ⟨rfl, rfl, clr_only ho⟩
  | some sE =>
    simp only [hE, strE] at hcl ⊢
    clear hE
    go_enter Tryd.func62, Tryd.ntmps62
    go_wp2_with fail
    go_region_held3 (fun w' => w'.cell? ⟨b, 5, none⟩ = some (.int .i64 n) ∧ w'.cell? ⟨q1, 0, none⟩ = some (.func (.func 39) #[] #[]) ∧ w'.cell? ⟨q2, 0, none⟩ = some (.int .i64 most)) (first | exact ⟨d0, d1, d2⟩ | exact ⟨c0, c1, c2⟩) (first | (go_at_call 39; refine (fld_mx b _).mono ?_; rintro e w' ⟨rfl, rfl⟩) | (go_at_call 63; refine (hcl _).mono ?_; rintro e w2 ⟨rfl, ho⟩; have HO := Lib.hid ho; have d0 := (ho.cell (p := ⟨b, 5, none⟩) (World.block_lt_of_cell? _ _ c0) (by simp)).trans c0; have d1 := (ho.cell (p := ⟨q1, 0, none⟩) (World.block_lt_of_cell? _ _ c1) (by simp)).trans c1; have d2 := (ho.cell (p := ⟨q2, 0, none⟩) (World.block_lt_of_cell? _ _ c2) (by simp)).trans c2; clear ho))
    go_wp2_with fail
    go_ret
    exact ⟨rfl, clr_only HO.out⟩
set_option maxRecDepth 100000 in
set_option maxHeartbeats 2000000 in
theorem clr_mx (b q1 : Nat) (f : Fr) (rv : Value) (w : World) (hA : FrAt w b f rv) (h1 : w.cell? ⟨q1, 0, none⟩ = some (.func (.func 39) #[] #[])) :
    Calls Tryd.prog 66 #[.pointer (some ⟨b, 0, none⟩), .pointer (some ⟨q1, 0, none⟩)] w fun e w' => e = .returned (.tuple #[]) ∧ FrAt w' b (f.set .mx 0) rv ∧ Only [b] w w' := by
  have c0 : ∃ u, w.cell? ⟨b, 5, none⟩ = some u := ⟨_, At.cell hA 5 rfl⟩
  obtain ⟨u, c0⟩ := c0
  have fr : w.frozen? ⟨b, 5, none⟩ = false := At.free hA 5
  have HA := Lib.hid hA
  clear hA
  go_enter Tryd.func66, Tryd.ntmps66
  go_wp2_with fail
  refine (fld_mx b _).mono ?_
  rintro e w2 ⟨rfl, rfl⟩
  go_wp2_with fail
  go_end0
  exact ⟨rfl, (show At w b 33 _ from HA.out).set 5 _ rfl, (Only.refl [b] w).put (by simp) _⟩
set_option maxRecDepth 100000 in
set_option maxHeartbeats 2000000 in
theorem get_mx (rb b q1 : Nat) (hrb : rb ≠ b) (s : ByteArray) (a : Nat) (ha : a ≤ s.size) (hs : s.size ≤ 4611686018427387903) (f : Fr) (rv : Value) (w : World) (hR : RdAt w rb s a) (hA : FrAt w b f rv) (h1 : w.cell? ⟨q1, 0, none⟩ = some (.func (.func 39) #[] #[])) :
    Calls Tryd.prog 64 #[.pointer (some ⟨rb, 0, none⟩), .pointer (some ⟨b, 0, none⟩), .pointer (some ⟨q1, 0, none⟩)] w fun e w' => Only [rb, b] w w' ∧ match vDec (s.data.toList.drop a) with
      | some (n, k) => e = .returned (.tuple #[]) ∧ FrAt w' b (f.set .mx n) rv ∧ RdAt w' rb s (a + k)
      | none => e = MAL := by
  have HA := Lib.hid hA
  cases hd : vDec (s.data.toList.drop a) with
  | none =>
    have hcl := fun ww hh => rnum_none rb s a hd ha hs ww hh
    simp only [MAL] at hcl ⊢
    go_enter Tryd.func64, Tryd.ntmps64
    go_wp2_with fail
    refine (fld_mx b _).mono ?_
    rintro e w2 ⟨rfl, rfl⟩
    go_wp2_with fail
    refine (hcl _ hR).mono ?_
    rintro e w3 ⟨rfl, ho⟩
    exact ⟨rfl, ho.mono (by simp), rfl⟩
  | some p =>
    obtain ⟨n, k⟩ := p
    go_enter Tryd.func64, Tryd.ntmps64
    go_wp2_with fail
    refine (fld_mx b _).mono ?_
    rintro e w2 ⟨rfl, rfl⟩
    go_wp2_with fail
    refine (rnum_some rb s a n k hd ha hs _ hR).mono ?_
    rintro e w3 ⟨rfl, hR3, ho⟩
    have hA3 := (show At w b 33 _ from HA.out).keep ho (by simp; omega)
    have c0 : ∃ u, w3.cell? ⟨b, 5, none⟩ = some u := ⟨_, At.cell hA3 5 rfl⟩
    obtain ⟨u, c0⟩ := c0
    have fr : w3.frozen? ⟨b, 5, none⟩ = false := At.free hA3 5
    have HA3 := Lib.hid hA3
    have HR3 := Lib.hid hR3
    have HO := Lib.hid ho
    clear hA3 hR3 ho hd
    go_wp2_with fail
    go_end0
    exact ⟨(HO.out.mono (by simp)).put (by simp) _, rfl, HA3.out.set 5 _ rfl, (show At w3 rb 72 _ from HR3.out).far (by simpa using hrb) _⟩

theorem fld_mz (b : Nat) (w : World) : Calls Tryd.prog 40 #[.pointer (some ⟨b, 0, none⟩)] w fun e w' => e = .returned (.pointer (some ⟨b, 5, none⟩)) ∧ w = w' := by
  go_enter Tryd.func40, Tryd.ntmps40
  go_wp2_with fail
  go_ret
  exact ⟨rfl, rfl⟩
set_option maxRecDepth 100000 in
set_option maxHeartbeats 2000000 in
theorem put_mz (b q1 q2 : Nat) (f : Fr) (rv : Value) (most : Int) (w : World) (hA : FrAt w b f rv) (h1 : w.cell? ⟨q1, 0, none⟩ = some (.func (.func 40) #[] #[])) (h2 : w.cell? ⟨q2, 0, none⟩ = some (.int .i64 most)) (hn : -9223372036854775808 ≤ f.mx ∧ f.mx ≤ 9223372036854775807) :
    Calls Tryd.prog 62 #[.pointer (some ⟨b, 0, none⟩), .pointer (some ⟨q1, 0, none⟩), .pointer (some ⟨q2, 0, none⟩)] w fun e w' => e = strE (numE f.mx most) ∧ Only [] w w' := by
  have c0 : w.drew.cell? ⟨b, 5, none⟩ = some (.int .i64 f.mx) := At.cell hA 5 rfl
  have c1 : w.drew.cell? ⟨q1, 0, none⟩ = some (.func (.func 40) #[] #[]) := h1
  have c2 : w.drew.cell? ⟨q2, 0, none⟩ = some (.int .i64 most) := h2
  have hcl := fun ww => number_c f.mx most hn ww
  obtain ⟨n, hnn⟩ : ∃ n, f.mx = n := ⟨_, rfl⟩
  have HN := Lib.hid hnn
  rw [hnn] at c0 hcl ⊢
  clear hA hnn
  cases hE : numE n most with
  | none =>
    simp only [hE, strE, MAL] at hcl ⊢
    clear hE
    go_enter Tryd.func62, Tryd.ntmps62
    go_wp2_with fail
    refine wp_region_held_drew (S := fun w' => w'.cell? ⟨b, 5, none⟩ = some (.int .i64 n) ∧ w'.cell? ⟨q1, 0, none⟩ = some (.func (.func 40) #[] #[]) ∧ w'.cell? ⟨q2, 0, none⟩ = some (.int .i64 most)) (by kernel_rfl) (by exact ⟨c0, c1, c2⟩) (fun hHeld => ?_)
    refine wpAnyH_take (i := 0) (v := ?_) rfl (by kernel_rfl) (by kernel_rfl) (by kernel_rfl) (fun _ _ _ h => h) (Or.inl ⟨by kernel_rfl, ?_⟩) (by assumption) ?_
    rotate_left
    · intro wS hSw
      try dsimp only at hSw
      go_simp
      try with_reducible rfl
    simp only [List.getElem_toArray, List.getElem_cons_succ, List.getElem_cons_zero, Act.put, List.setIfInBounds_toArray, List.set_cons_zero, List.set_cons_succ]
    refine wpAnyH_take (i := 1) (v := ?_) rfl (by kernel_rfl) (by kernel_rfl) (by kernel_rfl) (fun _ _ _ h => h) (Or.inl ⟨by kernel_rfl, ?_⟩) (by assumption) ?_
    rotate_left
    · intro wS hSw
      try dsimp only at hSw
      go_simp
      try with_reducible rfl
    simp only [List.getElem_toArray, List.getElem_cons_succ, List.getElem_cons_zero, Act.put, List.setIfInBounds_toArray, List.set_cons_zero, List.set_cons_succ]
    refine wpAnyH_take (i := 5) (v := ?_) rfl (by kernel_rfl) (by kernel_rfl) (by kernel_rfl) (fun _ _ _ h => h) (Or.inl ⟨by kernel_rfl, ?_⟩) (by assumption) ?_
    rotate_left
    · intro wS hSw
      try dsimp only at hSw
      go_simp
      try with_reducible rfl
    simp only [List.getElem_toArray, List.getElem_cons_succ, List.getElem_cons_zero, Act.put, List.setIfInBounds_toArray, List.set_cons_zero, List.set_cons_succ]
    refine wpAnyH_ready (rs := [2]) (by kernel_rfl) (by simp) ?_
    refine AllReadyH.cons rfl (fun K hK => ?_) AllReadyH.nil
    go_simp
    refine (fld_mz b _).mono ?_
    rintro e w' ⟨rfl, rfl⟩
    refine hK.out _ _ (by exact hHeld) (fun hHeld' => ?_)
    clear hHeld hK K
    rename_i hHeld
    refine wpAnyH_take (i := 3) (v := ?_) rfl (by kernel_rfl) (by kernel_rfl) (by kernel_rfl) (fun _ _ _ h => h) (Or.inl ⟨by kernel_rfl, ?_⟩) (by assumption) ?_
    rotate_left
    · intro wS hSw
      try dsimp only at hSw
      go_simp
      try with_reducible rfl
    simp only [List.getElem_toArray, List.getElem_cons_succ, List.getElem_cons_zero, Act.put, List.setIfInBounds_toArray, List.set_cons_zero, List.set_cons_succ]
    refine wpAnyH_take (i := 4) (v := ?_) rfl (by kernel_rfl) (by kernel_rfl) (by kernel_rfl) (fun _ _ _ h => h) (Or.inl ⟨by kernel_rfl, ?_⟩) (by assumption) ?_
    rotate_left
    · intro wS hSw
      try dsimp only at hSw
      go_simp
      try with_reducible rfl
    simp only [List.getElem_toArray, List.getElem_cons_succ, List.getElem_cons_zero, Act.put, List.setIfInBounds_toArray, List.set_cons_zero, List.set_cons_succ]
    refine wpAnyH_ready (rs := [6]) (by kernel_rfl) (by simp) ?_
    refine AllReadyH.cons rfl (fun K hK => ?_) AllReadyH.nil
    go_simp
    refine (hcl _).mono ?_
    rintro e w2 ⟨rfl, ho⟩
    exact ⟨rfl, rfl, clr_only ho⟩
  | some sE =>
    simp only [hE, strE] at hcl ⊢
    clear hE
    go_enter Tryd.func62, Tryd.ntmps62
    go_wp2_with fail
    go_region_held3 (fun w' => w'.cell? ⟨b, 5, none⟩ = some (.int .i64 n) ∧ w'.cell? ⟨q1, 0, none⟩ = some (.func (.func 40) #[] #[]) ∧ w'.cell? ⟨q2, 0, none⟩ = some (.int .i64 most)) (first | exact ⟨d0, d1, d2⟩ | exact ⟨c0, c1, c2⟩) (first | (go_at_call 40; refine (fld_mz b _).mono ?_; rintro e w' ⟨rfl, rfl⟩) | (go_at_call 63; refine (hcl _).mono ?_; rintro e w2 ⟨rfl, ho⟩; have HO := Lib.hid ho; have d0 := (ho.cell (p := ⟨b, 5, none⟩) (World.block_lt_of_cell? _ _ c0) (by simp)).trans c0; have d1 := (ho.cell (p := ⟨q1, 0, none⟩) (World.block_lt_of_cell? _ _ c1) (by simp)).trans c1; have d2 := (ho.cell (p := ⟨q2, 0, none⟩) (World.block_lt_of_cell? _ _ c2) (by simp)).trans c2; clear ho))
    go_wp2_with fail
    go_ret
    exact ⟨rfl, clr_only HO.out⟩
set_option maxRecDepth 100000 in
set_option maxHeartbeats 2000000 in
theorem clr_mz (b q1 : Nat) (f : Fr) (rv : Value) (w : World) (hA : FrAt w b f rv) (h1 : w.cell? ⟨q1, 0, none⟩ = some (.func (.func 40) #[] #[])) :
    Calls Tryd.prog 66 #[.pointer (some ⟨b, 0, none⟩), .pointer (some ⟨q1, 0, none⟩)] w fun e w' => e = .returned (.tuple #[]) ∧ FrAt w' b (f.set .mx 0) rv ∧ Only [b] w w' := by
  have c0 : ∃ u, w.cell? ⟨b, 5, none⟩ = some u := ⟨_, At.cell hA 5 rfl⟩
  obtain ⟨u, c0⟩ := c0
  have fr : w.frozen? ⟨b, 5, none⟩ = false := At.free hA 5
  have HA := Lib.hid hA
  clear hA
  go_enter Tryd.func66, Tryd.ntmps66
  go_wp2_with fail
  refine (fld_mz b _).mono ?_
  rintro e w2 ⟨rfl, rfl⟩
  go_wp2_with fail
  go_end0
  exact ⟨rfl, (show At w b 33 _ from HA.out).set 5 _ rfl, (Only.refl [b] w).put (by simp) _⟩
set_option maxRecDepth 100000 in
set_option maxHeartbeats 2000000 in
theorem get_mz (rb b q1 : Nat) (hrb : rb ≠ b) (s : ByteArray) (a : Nat) (ha : a ≤ s.size) (hs : s.size ≤ 4611686018427387903) (f : Fr) (rv : Value) (w : World) (hR : RdAt w rb s a) (hA : FrAt w b f rv) (h1 : w.cell? ⟨q1, 0, none⟩ = some (.func (.func 40) #[] #[])) :
    Calls Tryd.prog 64 #[.pointer (some ⟨rb, 0, none⟩), .pointer (some ⟨b, 0, none⟩), .pointer (some ⟨q1, 0, none⟩)] w fun e w' => Only [rb, b] w w' ∧ match vDec (s.data.toList.drop a) with
      | some (n, k) => e = .returned (.tuple #[]) ∧ FrAt w' b (f.set .mx n) rv ∧ RdAt w' rb s (a + k)
      | none => e = MAL := by
  have HA := Lib.hid hA
  cases hd : vDec (s.data.toList.drop a) with
  | none =>
    have hcl := fun ww hh => rnum_none rb s a hd ha hs ww hh
    simp only [MAL] at hcl ⊢
    go_enter Tryd.func64, Tryd.ntmps64
    go_wp2_with fail
    refine (fld_mz b _).mono ?_
    rintro e w2 ⟨rfl, rfl⟩
    go_wp2_with fail
    refine (hcl _ hR).mono ?_
    rintro e w3 ⟨rfl, ho⟩
    exact ⟨rfl, ho.mono (by simp), rfl⟩
  | some p =>
    obtain ⟨n, k⟩ := p
    go_enter Tryd.func64, Tryd.ntmps64
    go_wp2_with fail
    refine (fld_mz b _).mono ?_
    rintro e w2 ⟨rfl, rfl⟩
    go_wp2_with fail
    refine (rnum_some rb s a n k hd ha hs _ hR).mono ?_
    rintro e w3 ⟨rfl, hR3, ho⟩
    have hA3 := (show At w b 33 _ from HA.out).keep ho (by simp; omega)
    have c0 : ∃ u, w3.cell? ⟨b, 5, none⟩ = some u := ⟨_, At.cell hA3 5 rfl⟩
    obtain ⟨u, c0⟩ := c0
    have fr : w3.frozen? ⟨b, 5, none⟩ = false := At.free hA3 5
    have HA3 := Lib.hid hA3
    have HR3 := Lib.hid hR3
    have HO := Lib.hid ho
    clear hA3 hR3 ho hd
    go_wp2_with fail
    go_end0
    exact ⟨(HO.out.mono (by simp)).put (by simp) _, rfl, HA3.out.set 5 _ rfl, (show At w3 rb 72 _ from HR3.out).far (by simpa using hrb) _⟩

theorem fld_cd (b : Nat) (w : World) : Calls Tryd.prog 41 #[.pointer (some ⟨b, 0, none⟩)] w fun e w' => e = .returned (.pointer (some ⟨b, 6, none⟩)) ∧ w = w' := by
  go_enter Tryd.func41, Tryd.ntmps41
  go_wp2_with fail
  go_ret
  exact ⟨rfl, rfl⟩
set_option maxRecDepth 100000 in
set_option maxHeartbeats 2000000 in
theorem put_cd (b q1 q2 : Nat) (f : Fr) (rv : Value) (most : Int) (w : World) (hA : FrAt w b f rv) (h1 : w.cell? ⟨q1, 0, none⟩ = some (.func (.func 41) #[] #[])) (h2 : w.cell? ⟨q2, 0, none⟩ = some (.int .i64 most)) (hn : -9223372036854775808 ≤ f.cd ∧ f.cd ≤ 9223372036854775807) :
    Calls Tryd.prog 62 #[.pointer (some ⟨b, 0, none⟩), .pointer (some ⟨q1, 0, none⟩), .pointer (some ⟨q2, 0, none⟩)] w fun e w' => e = strE (numE f.cd most) ∧ Only [] w w' := by
  have c0 : w.drew.cell? ⟨b, 6, none⟩ = some (.int .i64 f.cd) := At.cell hA 6 rfl
  have c1 : w.drew.cell? ⟨q1, 0, none⟩ = some (.func (.func 41) #[] #[]) := h1
  have c2 : w.drew.cell? ⟨q2, 0, none⟩ = some (.int .i64 most) := h2
  have hcl := fun ww => number_c f.cd most hn ww
  obtain ⟨n, hnn⟩ : ∃ n, f.cd = n := ⟨_, rfl⟩
  have HN := Lib.hid hnn
  rw [hnn] at c0 hcl ⊢
  clear hA hnn
  cases hE : numE n most with
  | none =>
    simp only [hE, strE, MAL] at hcl ⊢
    clear hE
    go_enter Tryd.func62, Tryd.ntmps62
    go_wp2_with fail
    refine wp_region_held_drew (S := fun w' => w'.cell? ⟨b, 6, none⟩ = some (.int .i64 n) ∧ w'.cell? ⟨q1, 0, none⟩ = some (.func (.func 41) #[] #[]) ∧ w'.cell? ⟨q2, 0, none⟩ = some (.int .i64 most)) (by kernel_rfl) (by exact ⟨c0, c1, c2⟩) (fun hHeld => ?_)
    refine wpAnyH_take (i := 0) (v := ?_) rfl (by kernel_rfl) (by kernel_rfl) (by kernel_rfl) (fun _ _ _ h => h) (Or.inl ⟨by kernel_rfl, ?_⟩) (by assumption) ?_
    rotate_left
    · intro wS hSw
      try dsimp only at hSw
      go_simp
      try with_reducible rfl
    simp only [List.getElem_toArray, List.getElem_cons_succ, List.getElem_cons_zero, Act.put, List.setIfInBounds_toArray, List.set_cons_zero, List.set_cons_succ]
    refine wpAnyH_take (i := 1) (v := ?_) rfl (by kernel_rfl) (by kernel_rfl) (by kernel_rfl) (fun _ _ _ h => h) (Or.inl ⟨by kernel_rfl, ?_⟩) (by assumption) ?_
    rotate_left
    · intro wS hSw
      try dsimp only at hSw
      go_simp
      try with_reducible rfl
    simp only [List.getElem_toArray, List.getElem_cons_succ, List.getElem_cons_zero, Act.put, List.setIfInBounds_toArray, List.set_cons_zero, List.set_cons_succ]
    refine wpAnyH_take (i := 5) (v := ?_) rfl (by kernel_rfl) (by kernel_rfl) (by kernel_rfl) (fun _ _ _ h => h) (Or.inl ⟨by kernel_rfl, ?_⟩) (by assumption) ?_
    rotate_left
    · intro wS hSw
      try dsimp only at hSw
      go_simp
      try with_reducible rfl
    simp only [List.getElem_toArray, List.getElem_cons_succ, List.getElem_cons_zero, Act.put, List.setIfInBounds_toArray, List.set_cons_zero, List.set_cons_succ]
    refine wpAnyH_ready (rs := [2]) (by kernel_rfl) (by simp) ?_
    refine AllReadyH.cons rfl (fun K hK => ?_) AllReadyH.nil
    go_simp
    refine (fld_cd b _).mono ?_
    rintro e w' ⟨rfl, rfl⟩
    refine hK.out _ _ (by exact hHeld) (fun hHeld' => ?_)
    clear hHeld hK K
    rename_i hHeld
    refine wpAnyH_take (i := 3) (v := ?_) rfl (by kernel_rfl) (by kernel_rfl) (by kernel_rfl) (fun _ _ _ h => h) (Or.inl ⟨by kernel_rfl, ?_⟩) (by assumption) ?_
    rotate_left
    · intro wS hSw
      try dsimp only at hSw
      go_simp
      try with_reducible rfl
    simp only [List.getElem_toArray, List.getElem_cons_succ, List.getElem_cons_zero, Act.put, List.setIfInBounds_toArray, List.set_cons_zero, List.set_cons_succ]
    refine wpAnyH_take (i := 4) (v := ?_) rfl (by kernel_rfl) (by kernel_rfl) (by kernel_rfl) (fun _ _ _ h => h) (Or.inl ⟨by kernel_rfl, ?_⟩) (by assumption) ?_
    rotate_left
    · intro wS hSw
      try dsimp only at hSw
      go_simp
      try with_reducible rfl
    simp only [List.getElem_toArray, List.getElem_cons_succ, List.getElem_cons_zero, Act.put, List.setIfInBounds_toArray, List.set_cons_zero, List.set_cons_succ]
    refine wpAnyH_ready (rs := [6]) (by kernel_rfl) (by simp) ?_
    refine AllReadyH.cons rfl (fun K hK => ?_) AllReadyH.nil
    go_simp
    refine (hcl _).mono ?_
    rintro e w2 ⟨rfl, ho⟩
    exact ⟨rfl, rfl, clr_only ho⟩
  | some sE =>
    simp only [hE, strE] at hcl ⊢
    clear hE
    go_enter Tryd.func62, Tryd.ntmps62
    go_wp2_with fail
    go_region_held3 (fun w' => w'.cell? ⟨b, 6, none⟩ = some (.int .i64 n) ∧ w'.cell? ⟨q1, 0, none⟩ = some (.func (.func 41) #[] #[]) ∧ w'.cell? ⟨q2, 0, none⟩ = some (.int .i64 most)) (first | exact ⟨d0, d1, d2⟩ | exact ⟨c0, c1, c2⟩) (first | (go_at_call 41; refine (fld_cd b _).mono ?_; rintro e w' ⟨rfl, rfl⟩) | (go_at_call 63; refine (hcl _).mono ?_; rintro e w2 ⟨rfl, ho⟩; have HO := Lib.hid ho; have d0 := (ho.cell (p := ⟨b, 6, none⟩) (World.block_lt_of_cell? _ _ c0) (by simp)).trans c0; have d1 := (ho.cell (p := ⟨q1, 0, none⟩) (World.block_lt_of_cell? _ _ c1) (by simp)).trans c1; have d2 := (ho.cell (p := ⟨q2, 0, none⟩) (World.block_lt_of_cell? _ _ c2) (by simp)).trans c2; clear ho))
    go_wp2_with fail
    go_ret
    exact ⟨rfl, clr_only HO.out⟩
set_option maxRecDepth 100000 in
set_option maxHeartbeats 2000000 in
theorem clr_cd (b q1 : Nat) (f : Fr) (rv : Value) (w : World) (hA : FrAt w b f rv) (h1 : w.cell? ⟨q1, 0, none⟩ = some (.func (.func 41) #[] #[])) :
    Calls Tryd.prog 66 #[.pointer (some ⟨b, 0, none⟩), .pointer (some ⟨q1, 0, none⟩)] w fun e w' => e = .returned (.tuple #[]) ∧ FrAt w' b (f.set .cd 0) rv ∧ Only [b] w w' := by
  have c0 : ∃ u, w.cell? ⟨b, 6, none⟩ = some u := ⟨_, At.cell hA 6 rfl⟩
  obtain ⟨u, c0⟩ := c0
  have fr : w.frozen? ⟨b, 6, none⟩ = false := At.free hA 6
  have HA := Lib.hid hA
  clear hA
  go_enter Tryd.func66, Tryd.ntmps66
  go_wp2_with fail
  refine (fld_cd b _).mono ?_
  rintro e w2 ⟨rfl, rfl⟩
  go_wp2_with fail
  go_end0
  exact ⟨rfl, (show At w b 33 _ from HA.out).set 6 _ rfl, (Only.refl [b] w).put (by simp) _⟩
set_option maxRecDepth 100000 in
set_option maxHeartbeats 2000000 in
theorem get_cd (rb b q1 : Nat) (hrb : rb ≠ b) (s : ByteArray) (a : Nat) (ha : a ≤ s.size) (hs : s.size ≤ 4611686018427387903) (f : Fr) (rv : Value) (w : World) (hR : RdAt w rb s a) (hA : FrAt w b f rv) (h1 : w.cell? ⟨q1, 0, none⟩ = some (.func (.func 41) #[] #[])) :
    Calls Tryd.prog 64 #[.pointer (some ⟨rb, 0, none⟩), .pointer (some ⟨b, 0, none⟩), .pointer (some ⟨q1, 0, none⟩)] w fun e w' => Only [rb, b] w w' ∧ match vDec (s.data.toList.drop a) with
      | some (n, k) => e = .returned (.tuple #[]) ∧ FrAt w' b (f.set .cd n) rv ∧ RdAt w' rb s (a + k)
      | none => e = MAL := by
  have HA := Lib.hid hA
  cases hd : vDec (s.data.toList.drop a) with
  | none =>
    have hcl := fun ww hh => rnum_none rb s a hd ha hs ww hh
    simp only [MAL] at hcl ⊢
    go_enter Tryd.func64, Tryd.ntmps64
    go_wp2_with fail
    refine (fld_cd b _).mono ?_
    rintro e w2 ⟨rfl, rfl⟩
    go_wp2_with fail
    refine (hcl _ hR).mono ?_
    rintro e w3 ⟨rfl, ho⟩
    exact ⟨rfl, ho.mono (by simp), rfl⟩
  | some p =>
    obtain ⟨n, k⟩ := p
    go_enter Tryd.func64, Tryd.ntmps64
    go_wp2_with fail
    refine (fld_cd b _).mono ?_
    rintro e w2 ⟨rfl, rfl⟩
    go_wp2_with fail
    refine (rnum_some rb s a n k hd ha hs _ hR).mono ?_
    rintro e w3 ⟨rfl, hR3, ho⟩
    have hA3 := (show At w b 33 _ from HA.out).keep ho (by simp; omega)
    have c0 : ∃ u, w3.cell? ⟨b, 6, none⟩ = some u := ⟨_, At.cell hA3 6 rfl⟩
    obtain ⟨u, c0⟩ := c0
    have fr : w3.frozen? ⟨b, 6, none⟩ = false := At.free hA3 6
    have HA3 := Lib.hid hA3
    have HR3 := Lib.hid hR3
    have HO := Lib.hid ho
    clear hA3 hR3 ho hd
    go_wp2_with fail
    go_end0
    exact ⟨(HO.out.mono (by simp)).put (by simp) _, rfl, HA3.out.set 6 _ rfl, (show At w3 rb 72 _ from HR3.out).far (by simpa using hrb) _⟩

theorem fld_off (b : Nat) (w : World) : Calls Tryd.prog 42 #[.pointer (some ⟨b, 0, none⟩)] w fun e w' => e = .returned (.pointer (some ⟨b, 2, none⟩)) ∧ w = w' := by
  go_enter Tryd.func42, Tryd.ntmps42
  go_wp2_with fail
  go_ret
  exact ⟨rfl, rfl⟩
set_option maxRecDepth 100000 in
set_option maxHeartbeats 2000000 in
theorem put_off (b q1 q2 : Nat) (f : Fr) (rv : Value) (most : Int) (w : World) (hA : FrAt w b f rv) (h1 : w.cell? ⟨q1, 0, none⟩ = some (.func (.func 42) #[] #[])) (h2 : w.cell? ⟨q2, 0, none⟩ = some (.int .i64 most)) (hn : -9223372036854775808 ≤ f.off ∧ f.off ≤ 9223372036854775807) :
    Calls Tryd.prog 62 #[.pointer (some ⟨b, 0, none⟩), .pointer (some ⟨q1, 0, none⟩), .pointer (some ⟨q2, 0, none⟩)] w fun e w' => e = strE (numE f.off most) ∧ Only [] w w' := by
  have c0 : w.drew.cell? ⟨b, 2, none⟩ = some (.int .i64 f.off) := At.cell hA 2 rfl
  have c1 : w.drew.cell? ⟨q1, 0, none⟩ = some (.func (.func 42) #[] #[]) := h1
  have c2 : w.drew.cell? ⟨q2, 0, none⟩ = some (.int .i64 most) := h2
  have hcl := fun ww => number_c f.off most hn ww
  obtain ⟨n, hnn⟩ : ∃ n, f.off = n := ⟨_, rfl⟩
  have HN := Lib.hid hnn
  rw [hnn] at c0 hcl ⊢
  clear hA hnn
  cases hE : numE n most with
  | none =>
    simp only [hE, strE, MAL] at hcl ⊢
    clear hE
    go_enter Tryd.func62, Tryd.ntmps62
    go_wp2_with fail
    refine wp_region_held_drew (S := fun w' => w'.cell? ⟨b, 2, none⟩ = some (.int .i64 n) ∧ w'.cell? ⟨q1, 0, none⟩ = some (.func (.func 42) #[] #[]) ∧ w'.cell? ⟨q2, 0, none⟩ = some (.int .i64 most)) (by kernel_rfl) (by exact ⟨c0, c1, c2⟩) (fun hHeld => ?_)
    refine wpAnyH_take (i := 0) (v := ?_) rfl (by kernel_rfl) (by kernel_rfl) (by kernel_rfl) (fun _ _ _ h => h) (Or.inl ⟨by kernel_rfl, ?_⟩) (by assumption) ?_
    rotate_left
    · intro wS hSw
      try dsimp only at hSw
      go_simp
      try with_reducible rfl
    simp only [List.getElem_toArray, List.getElem_cons_succ, List.getElem_cons_zero, Act.put, List.setIfInBounds_toArray, List.set_cons_zero, List.set_cons_succ]
    refine wpAnyH_take (i := 1) (v := ?_) rfl (by kernel_rfl) (by kernel_rfl) (by kernel_rfl) (fun _ _ _ h => h) (Or.inl ⟨by kernel_rfl, ?_⟩) (by assumption) ?_
    rotate_left
    · intro wS hSw
      try dsimp only at hSw
      go_simp
      try with_reducible rfl
    simp only [List.getElem_toArray, List.getElem_cons_succ, List.getElem_cons_zero, Act.put, List.setIfInBounds_toArray, List.set_cons_zero, List.set_cons_succ]
    refine wpAnyH_take (i := 5) (v := ?_) rfl (by kernel_rfl) (by kernel_rfl) (by kernel_rfl) (fun _ _ _ h => h) (Or.inl ⟨by kernel_rfl, ?_⟩) (by assumption) ?_
    rotate_left
    · intro wS hSw
      try dsimp only at hSw
      go_simp
      try with_reducible rfl
    simp only [List.getElem_toArray, List.getElem_cons_succ, List.getElem_cons_zero, Act.put, List.setIfInBounds_toArray, List.set_cons_zero, List.set_cons_succ]
    refine wpAnyH_ready (rs := [2]) (by kernel_rfl) (by simp) ?_
    refine AllReadyH.cons rfl (fun K hK => ?_) AllReadyH.nil
    go_simp
    refine (fld_off b _).mono ?_
    rintro e w' ⟨rfl, rfl⟩
    refine hK.out _ _ (by exact hHeld) (fun hHeld' => ?_)
    clear hHeld hK K
    rename_i hHeld
    refine wpAnyH_take (i := 3) (v := ?_) rfl (by kernel_rfl) (by kernel_rfl) (by kernel_rfl) (fun _ _ _ h => h) (Or.inl ⟨by kernel_rfl, ?_⟩) (by assumption) ?_
    rotate_left
    · intro wS hSw
      try dsimp only at hSw
      go_simp
      try with_reducible rfl
    simp only [List.getElem_toArray, List.getElem_cons_succ, List.getElem_cons_zero, Act.put, List.setIfInBounds_toArray, List.set_cons_zero, List.set_cons_succ]
    refine wpAnyH_take (i := 4) (v := ?_) rfl (by kernel_rfl) (by kernel_rfl) (by kernel_rfl) (fun _ _ _ h => h) (Or.inl ⟨by kernel_rfl, ?_⟩) (by assumption) ?_
    rotate_left
    · intro wS hSw
      try dsimp only at hSw
      go_simp
      try with_reducible rfl
    simp only [List.getElem_toArray, List.getElem_cons_succ, List.getElem_cons_zero, Act.put, List.setIfInBounds_toArray, List.set_cons_zero, List.set_cons_succ]
    refine wpAnyH_ready (rs := [6]) (by kernel_rfl) (by simp) ?_
    refine AllReadyH.cons rfl (fun K hK => ?_) AllReadyH.nil
    go_simp
    refine (hcl _).mono ?_
    rintro e w2 ⟨rfl, ho⟩
    exact ⟨rfl, rfl, clr_only ho⟩
  | some sE =>
    simp only [hE, strE] at hcl ⊢
    clear hE
    go_enter Tryd.func62, Tryd.ntmps62
    go_wp2_with fail
    go_region_held3 (fun w' => w'.cell? ⟨b, 2, none⟩ = some (.int .i64 n) ∧ w'.cell? ⟨q1, 0, none⟩ = some (.func (.func 42) #[] #[]) ∧ w'.cell? ⟨q2, 0, none⟩ = some (.int .i64 most)) (first | exact ⟨d0, d1, d2⟩ | exact ⟨c0, c1, c2⟩) (first | (go_at_call 42; refine (fld_off b _).mono ?_; rintro e w' ⟨rfl, rfl⟩) | (go_at_call 63; refine (hcl _).mono ?_; rintro e w2 ⟨rfl, ho⟩; have HO := Lib.hid ho; have d0 := (ho.cell (p := ⟨b, 2, none⟩) (World.block_lt_of_cell? _ _ c0) (by simp)).trans c0; have d1 := (ho.cell (p := ⟨q1, 0, none⟩) (World.block_lt_of_cell? _ _ c1) (by simp)).trans c1; have d2 := (ho.cell (p := ⟨q2, 0, none⟩) (World.block_lt_of_cell? _ _ c2) (by simp)).trans c2; clear ho))
    go_wp2_with fail
    go_ret
    exact ⟨rfl, clr_only HO.out⟩
set_option maxRecDepth 100000 in
set_option maxHeartbeats 2000000 in
theorem clr_off (b q1 : Nat) (f : Fr) (rv : Value) (w : World) (hA : FrAt w b f rv) (h1 : w.cell? ⟨q1, 0, none⟩ = some (.func (.func 42) #[] #[])) :
    Calls Tryd.prog 66 #[.pointer (some ⟨b, 0, none⟩), .pointer (some ⟨q1, 0, none⟩)] w fun e w' => e = .returned (.tuple #[]) ∧ FrAt w' b (f.set .off 0) rv ∧ Only [b] w w' := by
  have c0 : ∃ u, w.cell? ⟨b, 2, none⟩ = some u := ⟨_, At.cell hA 2 rfl⟩
  obtain ⟨u, c0⟩ := c0
  have fr : w.frozen? ⟨b, 2, none⟩ = false := At.free hA 2
  have HA := Lib.hid hA
  clear hA
  go_enter Tryd.func66, Tryd.ntmps66
  go_wp2_with fail
  refine (fld_off b _).mono ?_
  rintro e w2 ⟨rfl, rfl⟩
  go_wp2_with fail
  go_end0
  exact ⟨rfl, (show At w b 33 _ from HA.out).set 2 _ rfl, (Only.refl [b] w).put (by simp) _⟩
set_option maxRecDepth 100000 in
set_option maxHeartbeats 2000000 in
theorem get_off (rb b q1 : Nat) (hrb : rb ≠ b) (s : ByteArray) (a : Nat) (ha : a ≤ s.size) (hs : s.size ≤ 4611686018427387903) (f : Fr) (rv : Value) (w : World) (hR : RdAt w rb s a) (hA : FrAt w b f rv) (h1 : w.cell? ⟨q1, 0, none⟩ = some (.func (.func 42) #[] #[])) :
    Calls Tryd.prog 64 #[.pointer (some ⟨rb, 0, none⟩), .pointer (some ⟨b, 0, none⟩), .pointer (some ⟨q1, 0, none⟩)] w fun e w' => Only [rb, b] w w' ∧ match vDec (s.data.toList.drop a) with
      | some (n, k) => e = .returned (.tuple #[]) ∧ FrAt w' b (f.set .off n) rv ∧ RdAt w' rb s (a + k)
      | none => e = MAL := by
  have HA := Lib.hid hA
  cases hd : vDec (s.data.toList.drop a) with
  | none =>
    have hcl := fun ww hh => rnum_none rb s a hd ha hs ww hh
    simp only [MAL] at hcl ⊢
    go_enter Tryd.func64, Tryd.ntmps64
    go_wp2_with fail
    refine (fld_off b _).mono ?_
    rintro e w2 ⟨rfl, rfl⟩
    go_wp2_with fail
    refine (hcl _ hR).mono ?_
    rintro e w3 ⟨rfl, ho⟩
    exact ⟨rfl, ho.mono (by simp), rfl⟩
  | some p =>
    obtain ⟨n, k⟩ := p
    go_enter Tryd.func64, Tryd.ntmps64
    go_wp2_with fail
    refine (fld_off b _).mono ?_
    rintro e w2 ⟨rfl, rfl⟩
    go_wp2_with fail
    refine (rnum_some rb s a n k hd ha hs _ hR).mono ?_
    rintro e w3 ⟨rfl, hR3, ho⟩
    have hA3 := (show At w b 33 _ from HA.out).keep ho (by simp; omega)
    have c0 : ∃ u, w3.cell? ⟨b, 2, none⟩ = some u := ⟨_, At.cell hA3 2 rfl⟩
    obtain ⟨u, c0⟩ := c0
    have fr : w3.frozen? ⟨b, 2, none⟩ = false := At.free hA3 2
    have HA3 := Lib.hid hA3
    have HR3 := Lib.hid hR3
    have HO := Lib.hid ho
    clear hA3 hR3 ho hd
    go_wp2_with fail
    go_end0
    exact ⟨(HO.out.mono (by simp)).put (by simp) _, rfl, HA3.out.set 2 _ rfl, (show At w3 rb 72 _ from HR3.out).far (by simpa using hrb) _⟩

theorem fld_sq (b : Nat) (w : World) : Calls Tryd.prog 43 #[.pointer (some ⟨b, 0, none⟩)] w fun e w' => e = .returned (.pointer (some ⟨b, 10, none⟩)) ∧ w = w' := by
  go_enter Tryd.func43, Tryd.ntmps43
  go_wp2_with fail
  go_ret
  exact ⟨rfl, rfl⟩
set_option maxRecDepth 100000 in
set_option maxHeartbeats 2000000 in
theorem put_sq (b q1 q2 : Nat) (f : Fr) (rv : Value) (most : Int) (w : World) (hA : FrAt w b f rv) (h1 : w.cell? ⟨q1, 0, none⟩ = some (.func (.func 43) #[] #[])) (h2 : w.cell? ⟨q2, 0, none⟩ = some (.int .i64 most)) (hn : -9223372036854775808 ≤ f.sq ∧ f.sq ≤ 9223372036854775807) :
    Calls Tryd.prog 62 #[.pointer (some ⟨b, 0, none⟩), .pointer (some ⟨q1, 0, none⟩), .pointer (some ⟨q2, 0, none⟩)] w fun e w' => e = strE (numE f.sq most) ∧ Only [] w w' := by
  have c0 : w.drew.cell? ⟨b, 10, none⟩ = some (.int .i64 f.sq) := At.cell hA 10 rfl
  have c1 : w.drew.cell? ⟨q1, 0, none⟩ = some (.func (.func 43) #[] #[]) := h1
  have c2 : w.drew.cell? ⟨q2, 0, none⟩ = some (.int .i64 most) := h2
  have hcl := fun ww => number_c f.sq most hn ww
  obtain ⟨n, hnn⟩ : ∃ n, f.sq = n := ⟨_, rfl⟩
  have HN := Lib.hid hnn
  rw [hnn] at c0 hcl ⊢
  clear hA hnn
  cases hE : numE n most with
  | none =>
    simp only [hE, strE, MAL] at hcl ⊢
    clear hE
    go_enter Tryd.func62, Tryd.ntmps62
    go_wp2_with fail
    refine wp_region_held_drew (S := fun w' => w'.cell? ⟨b, 10, none⟩ = some (.int .i64 n) ∧ w'.cell? ⟨q1, 0, none⟩ = some (.func (.func 43) #[] #[]) ∧ w'.cell? ⟨q2, 0, none⟩ = some (.int .i64 most)) (by kernel_rfl) (by exact ⟨c0, c1, c2⟩) (fun hHeld => ?_)
    refine wpAnyH_take (i := 0) (v := ?_) rfl (by kernel_rfl) (by kernel_rfl) (by kernel_rfl) (fun _ _ _ h => h) (Or.inl ⟨by kernel_rfl, ?_⟩) (by assumption) ?_
    rotate_left
    · intro wS hSw
      try dsimp only at hSw
      go_simp
      try with_reducible rfl
    simp only [List.getElem_toArray, List.getElem_cons_succ, List.getElem_cons_zero, Act.put, List.setIfInBounds_toArray, List.set_cons_zero, List.set_cons_succ]
    refine wpAnyH_take (i := 1) (v := ?_) rfl (by kernel_rfl) (by kernel_rfl) (by kernel_rfl) (fun _ _ _ h => h) (Or.inl ⟨by kernel_rfl, ?_⟩) (by assumption) ?_
    rotate_left
    · intro wS hSw
      try dsimp only at hSw
      go_simp
      try with_reducible rfl
    simp only [List.getElem_toArray, List.getElem_cons_succ, List.getElem_cons_zero, Act.put, List.setIfInBounds_toArray, List.set_cons_zero, List.set_cons_succ]
    refine wpAnyH_take (i := 5) (v := ?_) rfl (by kernel_rfl) (by kernel_rfl) (by kernel_rfl) (fun _ _ _ h => h) (Or.inl ⟨by kernel_rfl, ?_⟩) (by assumption) ?_
    rotate_left
    · intro wS hSw
      try dsimp only at hSw
      go_simp
      try with_reducible rfl
    simp only [List.getElem_toArray, List.getElem_cons_succ, List.getElem_cons_zero, Act.put, List.setIfInBounds_toArray, List.set_cons_zero, List.set_cons_succ]
    refine wpAnyH_ready (rs := [2]) (by kernel_rfl) (by simp) ?_
    refine AllReadyH.cons rfl (fun K hK => ?_) AllReadyH.nil
    go_simp
    refine (fld_sq b _).mono ?_
    rintro e w' ⟨rfl, rfl⟩
    refine hK.out _ _ (by exact hHeld) (fun hHeld' => ?_)
    clear hHeld hK K
    rename_i hHeld
    refine wpAnyH_take (i := 3) (v := ?_) rfl (by kernel_rfl) (by kernel_rfl) (by kernel_rfl) (fun _ _ _ h => h) (Or.inl ⟨by kernel_rfl, ?_⟩) (by assumption) ?_
    rotate_left
    · intro wS hSw
      try dsimp only at hSw
      go_simp
      try with_reducible rfl
    simp only [List.getElem_toArray, List.getElem_cons_succ, List.getElem_cons_zero, Act.put, List.setIfInBounds_toArray, List.set_cons_zero, List.set_cons_succ]
    refine wpAnyH_take (i := 4) (v := ?_) rfl (by kernel_rfl) (by kernel_rfl) (by kernel_rfl) (fun _ _ _ h => h) (Or.inl ⟨by kernel_rfl, ?_⟩) (by assumption) ?_
    rotate_left
    · intro wS hSw
      try dsimp only at hSw
      go_simp
      try with_reducible rfl
    simp only [List.getElem_toArray, List.getElem_cons_succ, List.getElem_cons_zero, Act.put, List.setIfInBounds_toArray, List.set_cons_zero, List.set_cons_succ]
    refine wpAnyH_ready (rs := [6]) (by kernel_rfl) (by simp) ?_
    refine AllReadyH.cons rfl (fun K hK => ?_) AllReadyH.nil
    go_simp
    refine (hcl _).mono ?_
    rintro e w2 ⟨rfl, ho⟩
    exact ⟨rfl, rfl, clr_only ho⟩
  | some sE =>
    simp only [hE, strE] at hcl ⊢
    clear hE
    go_enter Tryd.func62, Tryd.ntmps62
    go_wp2_with fail
    go_region_held3 (fun w' => w'.cell? ⟨b, 10, none⟩ = some (.int .i64 n) ∧ w'.cell? ⟨q1, 0, none⟩ = some (.func (.func 43) #[] #[]) ∧ w'.cell? ⟨q2, 0, none⟩ = some (.int .i64 most)) (first | exact ⟨d0, d1, d2⟩ | exact ⟨c0, c1, c2⟩) (first | (go_at_call 43; refine (fld_sq b _).mono ?_; rintro e w' ⟨rfl, rfl⟩) | (go_at_call 63; refine (hcl _).mono ?_; rintro e w2 ⟨rfl, ho⟩; have HO := Lib.hid ho; have d0 := (ho.cell (p := ⟨b, 10, none⟩) (World.block_lt_of_cell? _ _ c0) (by simp)).trans c0; have d1 := (ho.cell (p := ⟨q1, 0, none⟩) (World.block_lt_of_cell? _ _ c1) (by simp)).trans c1; have d2 := (ho.cell (p := ⟨q2, 0, none⟩) (World.block_lt_of_cell? _ _ c2) (by simp)).trans c2; clear ho))
    go_wp2_with fail
    go_ret
    exact ⟨rfl, clr_only HO.out⟩
set_option maxRecDepth 100000 in
set_option maxHeartbeats 2000000 in
theorem clr_sq (b q1 : Nat) (f : Fr) (rv : Value) (w : World) (hA : FrAt w b f rv) (h1 : w.cell? ⟨q1, 0, none⟩ = some (.func (.func 43) #[] #[])) :
    Calls Tryd.prog 66 #[.pointer (some ⟨b, 0, none⟩), .pointer (some ⟨q1, 0, none⟩)] w fun e w' => e = .returned (.tuple #[]) ∧ FrAt w' b (f.set .sq 0) rv ∧ Only [b] w w' := by
  have c0 : ∃ u, w.cell? ⟨b, 10, none⟩ = some u := ⟨_, At.cell hA 10 rfl⟩
  obtain ⟨u, c0⟩ := c0
  have fr : w.frozen? ⟨b, 10, none⟩ = false := At.free hA 10
  have HA := Lib.hid hA
  clear hA
  go_enter Tryd.func66, Tryd.ntmps66
  go_wp2_with fail
  refine (fld_sq b _).mono ?_
  rintro e w2 ⟨rfl, rfl⟩
  go_wp2_with fail
  go_end0
  exact ⟨rfl, (show At w b 33 _ from HA.out).set 10 _ rfl, (Only.refl [b] w).put (by simp) _⟩
set_option maxRecDepth 100000 in
set_option maxHeartbeats 2000000 in
theorem get_sq (rb b q1 : Nat) (hrb : rb ≠ b) (s : ByteArray) (a : Nat) (ha : a ≤ s.size) (hs : s.size ≤ 4611686018427387903) (f : Fr) (rv : Value) (w : World) (hR : RdAt w rb s a) (hA : FrAt w b f rv) (h1 : w.cell? ⟨q1, 0, none⟩ = some (.func (.func 43) #[] #[])) :
    Calls Tryd.prog 64 #[.pointer (some ⟨rb, 0, none⟩), .pointer (some ⟨b, 0, none⟩), .pointer (some ⟨q1, 0, none⟩)] w fun e w' => Only [rb, b] w w' ∧ match vDec (s.data.toList.drop a) with
      | some (n, k) => e = .returned (.tuple #[]) ∧ FrAt w' b (f.set .sq n) rv ∧ RdAt w' rb s (a + k)
      | none => e = MAL := by
  have HA := Lib.hid hA
  cases hd : vDec (s.data.toList.drop a) with
  | none =>
    have hcl := fun ww hh => rnum_none rb s a hd ha hs ww hh
    simp only [MAL] at hcl ⊢
    go_enter Tryd.func64, Tryd.ntmps64
    go_wp2_with fail
    refine (fld_sq b _).mono ?_
    rintro e w2 ⟨rfl, rfl⟩
    go_wp2_with fail
    refine (hcl _ hR).mono ?_
    rintro e w3 ⟨rfl, ho⟩
    exact ⟨rfl, ho.mono (by simp), rfl⟩
  | some p =>
    obtain ⟨n, k⟩ := p
    go_enter Tryd.func64, Tryd.ntmps64
    go_wp2_with fail
    refine (fld_sq b _).mono ?_
    rintro e w2 ⟨rfl, rfl⟩
    go_wp2_with fail
    refine (rnum_some rb s a n k hd ha hs _ hR).mono ?_
    rintro e w3 ⟨rfl, hR3, ho⟩
    have hA3 := (show At w b 33 _ from HA.out).keep ho (by simp; omega)
    have c0 : ∃ u, w3.cell? ⟨b, 10, none⟩ = some u := ⟨_, At.cell hA3 10 rfl⟩
    obtain ⟨u, c0⟩ := c0
    have fr : w3.frozen? ⟨b, 10, none⟩ = false := At.free hA3 10
    have HA3 := Lib.hid hA3
    have HR3 := Lib.hid hR3
    have HO := Lib.hid ho
    clear hA3 hR3 ho hd
    go_wp2_with fail
    go_end0
    exact ⟨(HO.out.mono (by simp)).put (by simp) _, rfl, HA3.out.set 10 _ rfl, (show At w3 rb 72 _ from HR3.out).far (by simpa using hrb) _⟩

theorem fld_dl (b : Nat) (w : World) : Calls Tryd.prog 44 #[.pointer (some ⟨b, 0, none⟩)] w fun e w' => e = .returned (.pointer (some ⟨b, 8, none⟩)) ∧ w = w' := by
  go_enter Tryd.func44, Tryd.ntmps44
  go_wp2_with fail
  go_ret
  exact ⟨rfl, rfl⟩
set_option maxRecDepth 100000 in
set_option maxHeartbeats 2000000 in
theorem put_dl (b q1 q2 : Nat) (f : Fr) (rv : Value) (most : Int) (w : World) (hA : FrAt w b f rv) (h1 : w.cell? ⟨q1, 0, none⟩ = some (.func (.func 44) #[] #[])) (h2 : w.cell? ⟨q2, 0, none⟩ = some (.int .i64 most)) (hn : -9223372036854775808 ≤ f.dl ∧ f.dl ≤ 9223372036854775807) :
    Calls Tryd.prog 62 #[.pointer (some ⟨b, 0, none⟩), .pointer (some ⟨q1, 0, none⟩), .pointer (some ⟨q2, 0, none⟩)] w fun e w' => e = strE (numE f.dl most) ∧ Only [] w w' := by
  have c0 : w.drew.cell? ⟨b, 8, none⟩ = some (.int .i64 f.dl) := At.cell hA 8 rfl
  have c1 : w.drew.cell? ⟨q1, 0, none⟩ = some (.func (.func 44) #[] #[]) := h1
  have c2 : w.drew.cell? ⟨q2, 0, none⟩ = some (.int .i64 most) := h2
  have hcl := fun ww => number_c f.dl most hn ww
  obtain ⟨n, hnn⟩ : ∃ n, f.dl = n := ⟨_, rfl⟩
  have HN := Lib.hid hnn
  rw [hnn] at c0 hcl ⊢
  clear hA hnn
  cases hE : numE n most with
  | none =>
    simp only [hE, strE, MAL] at hcl ⊢
    clear hE
    go_enter Tryd.func62, Tryd.ntmps62
    go_wp2_with fail
    refine wp_region_held_drew (S := fun w' => w'.cell? ⟨b, 8, none⟩ = some (.int .i64 n) ∧ w'.cell? ⟨q1, 0, none⟩ = some (.func (.func 44) #[] #[]) ∧ w'.cell? ⟨q2, 0, none⟩ = some (.int .i64 most)) (by kernel_rfl) (by exact ⟨c0, c1, c2⟩) (fun hHeld => ?_)
    refine wpAnyH_take (i := 0) (v := ?_) rfl (by kernel_rfl) (by kernel_rfl) (by kernel_rfl) (fun _ _ _ h => h) (Or.inl ⟨by kernel_rfl, ?_⟩) (by assumption) ?_
    rotate_left
    · intro wS hSw
      try dsimp only at hSw
      go_simp
      try with_reducible rfl
    simp only [List.getElem_toArray, List.getElem_cons_succ, List.getElem_cons_zero, Act.put, List.setIfInBounds_toArray, List.set_cons_zero, List.set_cons_succ]
    refine wpAnyH_take (i := 1) (v := ?_) rfl (by kernel_rfl) (by kernel_rfl) (by kernel_rfl) (fun _ _ _ h => h) (Or.inl ⟨by kernel_rfl, ?_⟩) (by assumption) ?_
    rotate_left
    · intro wS hSw
      try dsimp only at hSw
      go_simp
      try with_reducible rfl
    simp only [List.getElem_toArray, List.getElem_cons_succ, List.getElem_cons_zero, Act.put, List.setIfInBounds_toArray, List.set_cons_zero, List.set_cons_succ]
    refine wpAnyH_take (i := 5) (v := ?_) rfl (by kernel_rfl) (by kernel_rfl) (by kernel_rfl) (fun _ _ _ h => h) (Or.inl ⟨by kernel_rfl, ?_⟩) (by assumption) ?_
    rotate_left
    · intro wS hSw
      try dsimp only at hSw
      go_simp
      try with_reducible rfl
    simp only [List.getElem_toArray, List.getElem_cons_succ, List.getElem_cons_zero, Act.put, List.setIfInBounds_toArray, List.set_cons_zero, List.set_cons_succ]
    refine wpAnyH_ready (rs := [2]) (by kernel_rfl) (by simp) ?_
    refine AllReadyH.cons rfl (fun K hK => ?_) AllReadyH.nil
    go_simp
    refine (fld_dl b _).mono ?_
    rintro e w' ⟨rfl, rfl⟩
    refine hK.out _ _ (by exact hHeld) (fun hHeld' => ?_)
    clear hHeld hK K
    rename_i hHeld
    refine wpAnyH_take (i := 3) (v := ?_) rfl (by kernel_rfl) (by kernel_rfl) (by kernel_rfl) (fun _ _ _ h => h) (Or.inl ⟨by kernel_rfl, ?_⟩) (by assumption) ?_
    rotate_left
    · intro wS hSw
      try dsimp only at hSw
      go_simp
      try with_reducible rfl
    simp only [List.getElem_toArray, List.getElem_cons_succ, List.getElem_cons_zero, Act.put, List.setIfInBounds_toArray, List.set_cons_zero, List.set_cons_succ]
    refine wpAnyH_take (i := 4) (v := ?_) rfl (by kernel_rfl) (by kernel_rfl) (by kernel_rfl) (fun _ _ _ h => h) (Or.inl ⟨by kernel_rfl, ?_⟩) (by assumption) ?_
    rotate_left
    · intro wS hSw
      try dsimp only at hSw
      go_simp
      try with_reducible rfl
    simp only [List.getElem_toArray, List.getElem_cons_succ, List.getElem_cons_zero, Act.put, List.setIfInBounds_toArray, List.set_cons_zero, List.set_cons_succ]
    refine wpAnyH_ready (rs := [6]) (by kernel_rfl) (by simp) ?_
    refine AllReadyH.cons rfl (fun K hK => ?_) AllReadyH.nil
    go_simp
    refine (hcl _).mono ?_
    rintro e w2 ⟨rfl, ho⟩
    exact ⟨rfl, rfl, clr_only ho⟩
  | some sE =>
    simp only [hE, strE] at hcl ⊢
    clear hE
    go_enter Tryd.func62, Tryd.ntmps62
    go_wp2_with fail
    go_region_held3 (fun w' => w'.cell? ⟨b, 8, none⟩ = some (.int .i64 n) ∧ w'.cell? ⟨q1, 0, none⟩ = some (.func (.func 44) #[] #[]) ∧ w'.cell? ⟨q2, 0, none⟩ = some (.int .i64 most)) (first | exact ⟨d0, d1, d2⟩ | exact ⟨c0, c1, c2⟩) (first | (go_at_call 44; refine (fld_dl b _).mono ?_; rintro e w' ⟨rfl, rfl⟩) | (go_at_call 63; refine (hcl _).mono ?_; rintro e w2 ⟨rfl, ho⟩; have HO := Lib.hid ho; have d0 := (ho.cell (p := ⟨b, 8, none⟩) (World.block_lt_of_cell? _ _ c0) (by simp)).trans c0; have d1 := (ho.cell (p := ⟨q1, 0, none⟩) (World.block_lt_of_cell? _ _ c1) (by simp)).trans c1; have d2 := (ho.cell (p := ⟨q2, 0, none⟩) (World.block_lt_of_cell? _ _ c2) (by simp)).trans c2; clear ho))
    go_wp2_with fail
    go_ret
    exact ⟨rfl, clr_only HO.out⟩
set_option maxRecDepth 100000 in
set_option maxHeartbeats 2000000 in
theorem clr_dl (b q1 : Nat) (f : Fr) (rv : Value) (w : World) (hA : FrAt w b f rv) (h1 : w.cell? ⟨q1, 0, none⟩ = some (.func (.func 44) #[] #[])) :
    Calls Tryd.prog 66 #[.pointer (some ⟨b, 0, none⟩), .pointer (some ⟨q1, 0, none⟩)] w fun e w' => e = .returned (.tuple #[]) ∧ FrAt w' b (f.set .dl 0) rv ∧ Only [b] w w' := by
  have c0 : ∃ u, w.cell? ⟨b, 8, none⟩ = some u := ⟨_, At.cell hA 8 rfl⟩
  obtain ⟨u, c0⟩ := c0
  have fr : w.frozen? ⟨b, 8, none⟩ = false := At.free hA 8
  have HA := Lib.hid hA
  clear hA
  go_enter Tryd.func66, Tryd.ntmps66
  go_wp2_with fail
  refine (fld_dl b _).mono ?_
  rintro e w2 ⟨rfl, rfl⟩
  go_wp2_with fail
  go_end0
  exact ⟨rfl, (show At w b 33 _ from HA.out).set 8 _ rfl, (Only.refl [b] w).put (by simp) _⟩
set_option maxRecDepth 100000 in
set_option maxHeartbeats 2000000 in
theorem get_dl (rb b q1 : Nat) (hrb : rb ≠ b) (s : ByteArray) (a : Nat) (ha : a ≤ s.size) (hs : s.size ≤ 4611686018427387903) (f : Fr) (rv : Value) (w : World) (hR : RdAt w rb s a) (hA : FrAt w b f rv) (h1 : w.cell? ⟨q1, 0, none⟩ = some (.func (.func 44) #[] #[])) :
    Calls Tryd.prog 64 #[.pointer (some ⟨rb, 0, none⟩), .pointer (some ⟨b, 0, none⟩), .pointer (some ⟨q1, 0, none⟩)] w fun e w' => Only [rb, b] w w' ∧ match vDec (s.data.toList.drop a) with
      | some (n, k) => e = .returned (.tuple #[]) ∧ FrAt w' b (f.set .dl n) rv ∧ RdAt w' rb s (a + k)
      | none => e = MAL := by
  have HA := Lib.hid hA
  cases hd : vDec (s.data.toList.drop a) with
  | none =>
    have hcl := fun ww hh => rnum_none rb s a hd ha hs ww hh
    simp only [MAL] at hcl ⊢
    go_enter Tryd.func64, Tryd.ntmps64
    go_wp2_with fail
    refine (fld_dl b _).mono ?_
    rintro e w2 ⟨rfl, rfl⟩
    go_wp2_with fail
    refine (hcl _ hR).mono ?_
    rintro e w3 ⟨rfl, ho⟩
    exact ⟨rfl, ho.mono (by simp), rfl⟩
  | some p =>
    obtain ⟨n, k⟩ := p
    go_enter Tryd.func64, Tryd.ntmps64
    go_wp2_with fail
    refine (fld_dl b _).mono ?_
    rintro e w2 ⟨rfl, rfl⟩
    go_wp2_with fail
    refine (rnum_some rb s a n k hd ha hs _ hR).mono ?_
    rintro e w3 ⟨rfl, hR3, ho⟩
    have hA3 := (show At w b 33 _ from HA.out).keep ho (by simp; omega)
    have c0 : ∃ u, w3.cell? ⟨b, 8, none⟩ = some u := ⟨_, At.cell hA3 8 rfl⟩
    obtain ⟨u, c0⟩ := c0
    have fr : w3.frozen? ⟨b, 8, none⟩ = false := At.free hA3 8
    have HA3 := Lib.hid hA3
    have HR3 := Lib.hid hR3
    have HO := Lib.hid ho
    clear hA3 hR3 ho hd
    go_wp2_with fail
    go_end0
    exact ⟨(HO.out.mono (by simp)).put (by simp) _, rfl, HA3.out.set 8 _ rfl, (show At w3 rb 72 _ from HR3.out).far (by simpa using hrb) _⟩

theorem fld_rt (b : Nat) (w : World) : Calls Tryd.prog 77 #[.pointer (some ⟨b, 0, none⟩)] w fun e w' => e = .returned (.pointer (some ⟨b, 11, none⟩)) ∧ w = w' := by
  go_enter Tryd.func77, Tryd.ntmps77
  go_wp2_with fail
  go_ret
  exact ⟨rfl, rfl⟩
set_option maxRecDepth 100000 in
set_option maxHeartbeats 2000000 in
theorem clr_rt (b q1 : Nat) (f : Fr) (rv : Value) (w : World) (hA : FrAt w b f rv) (h1 : w.cell? ⟨q1, 0, none⟩ = some (.func (.func 77) #[] #[])) :
    Calls Tryd.prog 66 #[.pointer (some ⟨b, 0, none⟩), .pointer (some ⟨q1, 0, none⟩)] w fun e w' => e = .returned (.tuple #[]) ∧ FrAt w' b { f with rt := 0 } rv ∧ Only [b] w w' := by
  have c0 : ∃ u, w.cell? ⟨b, 11, none⟩ = some u := ⟨_, At.cell hA 11 rfl⟩
  obtain ⟨u, c0⟩ := c0
  have fr : w.frozen? ⟨b, 11, none⟩ = false := At.free hA 11
  have HA := Lib.hid hA
  clear hA
  go_enter Tryd.func66, Tryd.ntmps66
  go_wp2_with fail
  refine (fld_rt b _).mono ?_
  rintro e w2 ⟨rfl, rfl⟩
  go_wp2_with fail
  go_end0
  exact ⟨rfl, (show At w b 33 _ from HA.out).set 11 _ rfl, (Only.refl [b] w).put (by simp) _⟩
set_option maxRecDepth 100000 in
set_option maxHeartbeats 2000000 in
theorem get_rt (rb b q1 : Nat) (hrb : rb ≠ b) (s : ByteArray) (a : Nat) (ha : a ≤ s.size) (hs : s.size ≤ 4611686018427387903) (f : Fr) (rv : Value) (w : World) (hR : RdAt w rb s a) (hA : FrAt w b f rv) (h1 : w.cell? ⟨q1, 0, none⟩ = some (.func (.func 77) #[] #[])) :
    Calls Tryd.prog 64 #[.pointer (some ⟨rb, 0, none⟩), .pointer (some ⟨b, 0, none⟩), .pointer (some ⟨q1, 0, none⟩)] w fun e w' => Only [rb, b] w w' ∧ match vDec (s.data.toList.drop a) with
      | some (n, k) => e = .returned (.tuple #[]) ∧ FrAt w' b { f with rt := n } rv ∧ RdAt w' rb s (a + k)
      | none => e = MAL := by
  have HA := Lib.hid hA
  cases hd : vDec (s.data.toList.drop a) with
  | none =>
    have hcl := fun ww hh => rnum_none rb s a hd ha hs ww hh
    simp only [MAL] at hcl ⊢
    go_enter Tryd.func64, Tryd.ntmps64
    go_wp2_with fail
    refine (fld_rt b _).mono ?_
    rintro e w2 ⟨rfl, rfl⟩
    go_wp2_with fail
    refine (hcl _ hR).mono ?_
    rintro e w3 ⟨rfl, ho⟩
    exact ⟨rfl, ho.mono (by simp), rfl⟩
  | some p =>
    obtain ⟨n, k⟩ := p
    go_enter Tryd.func64, Tryd.ntmps64
    go_wp2_with fail
    refine (fld_rt b _).mono ?_
    rintro e w2 ⟨rfl, rfl⟩
    go_wp2_with fail
    refine (rnum_some rb s a n k hd ha hs _ hR).mono ?_
    rintro e w3 ⟨rfl, hR3, ho⟩
    have hA3 := (show At w b 33 _ from HA.out).keep ho (by simp; omega)
    have c0 : ∃ u, w3.cell? ⟨b, 11, none⟩ = some u := ⟨_, At.cell hA3 11 rfl⟩
    obtain ⟨u, c0⟩ := c0
    have fr : w3.frozen? ⟨b, 11, none⟩ = false := At.free hA3 11
    have HA3 := Lib.hid hA3
    have HR3 := Lib.hid hR3
    have HO := Lib.hid ho
    clear hA3 hR3 ho hd
    go_wp2_with fail
    go_end0
    exact ⟨(HO.out.mono (by simp)).put (by simp) _, rfl, HA3.out.set 11 _ rfl, (show At w3 rb 72 _ from HR3.out).far (by simpa using hrb) _⟩
end Go.Proofs.YtgiekhohhogdiaaDoor
