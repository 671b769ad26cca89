/- Contracts of package flow and of its reference: what each method returns and leaves in the struct's block. -/
import Derived.Test.YtmmgmpghkpbgkaaBas
import Derived.RegionTactic
import Derived.BigRegion
import Derived.Deep.RegionWith
namespace Go.Proofs.Ytmmgmpghkpbgkaa
open Go.RowKit
set_option linter.unusedVariables false
set_option linter.unusedSimpArgs false

def rcvE (m n : Int) : Int := if n < 0 then 2 else if m < n then 150 else 0
def rcvH (m h n : Int) : Int := if n < 0 then h else if m < n then h else if h < n then n else h
def readR (h r n : Int) : Int := if 0 < n then (if h - r < n then h else r + n) else r
def capZ (n : Int) : Int := if 1099511627776 < n then 1099511627776 else n
def raiseZ (m n : Int) : Int := if m < capZ n then capZ n else m
def updM (m wi r : Int) : Int := if wi / 2 < m - r then m else raiseZ m (r + wi)
def updN (m wi r : Int) : Int := if m < updM m wi r then updM m wi r else 0
def updB (m wi r : Int) : Bool := decide (m < updM m wi r)
def useE (m u n : Int) : Int := if n < 0 then 2 else if m - u < n then 150 else 0
def useU (m u n : Int) : Int := if n < 0 then u else if m - u < n then u else u + n

set_option maxHeartbeats 400000 in
theorem receive_c (b : Nat) (m wi h r n : Int) (w : World) (hA : At w b 130 #[.int .i64 m, .int .i64 wi, .int .i64 h, .int .i64 r]) :
    Calls Try.prog 41 #[.pointer (some ⟨b, 0, none⟩), .int .i64 n] w fun e w' => e = .returned (.int .i64 (rcvE m n)) ∧ At w' b 130 #[.int .i64 m, .int .i64 wi, .int .i64 (rcvH m h n), .int .i64 r] ∧ Only [b] w w' := by
  have c0 : w.cell? ⟨b, 0, none⟩ = some (.int .i64 m) := hA.cell 0 rfl
  have c2 : w.cell? ⟨b, 2, none⟩ = some (.int .i64 h) := hA.cell 2 rfl
  have f2 := hA.free 2
  have HA := Lib.hid hA; clear hA
  by_cases h1 : n < 0
  · go_enter Try.func41, Try.ntmps41
    go_wp2
    go_ret
    exact ⟨ret_int (by simp only [rcvE, rcvH, readR, capZ, raiseZ, updM, updN, updB, useE, useU]; repeat' (first | omega | split)), at4 HA.out (by simp only [rcvE, rcvH, readR, capZ, raiseZ, updM, updN, updB, useE, useU]; repeat' (first | omega | split)) (by simp only [rcvE, rcvH, readR, capZ, raiseZ, updM, updN, updB, useE, useU]; repeat' (first | omega | split)) (by simp only [rcvE, rcvH, readR, capZ, raiseZ, updM, updN, updB, useE, useU]; repeat' (first | omega | split)) (by simp only [rcvE, rcvH, readR, capZ, raiseZ, updM, updN, updB, useE, useU]; repeat' (first | omega | split)), (Only.refl _ _)⟩
  by_cases h2 : m < n
  · go_enter Try.func41, Try.ntmps41
    go_wp2
    go_ret
    exact ⟨ret_int (by simp only [rcvE, rcvH, readR, capZ, raiseZ, updM, updN, updB, useE, useU]; repeat' (first | omega | split)), at4 HA.out (by simp only [rcvE, rcvH, readR, capZ, raiseZ, updM, updN, updB, useE, useU]; repeat' (first | omega | split)) (by simp only [rcvE, rcvH, readR, capZ, raiseZ, updM, updN, updB, useE, useU]; repeat' (first | omega | split)) (by simp only [rcvE, rcvH, readR, capZ, raiseZ, updM, updN, updB, useE, useU]; repeat' (first | omega | split)) (by simp only [rcvE, rcvH, readR, capZ, raiseZ, updM, updN, updB, useE, useU]; repeat' (first | omega | split)), (Only.refl _ _)⟩
  by_cases h3 : h < n
  all_goals
    go_enter Try.func41, Try.ntmps41
    go_wp2
    go_ret
    exact ⟨ret_int (by simp only [rcvE, rcvH, readR, capZ, raiseZ, updM, updN, updB, useE, useU]; repeat' (first | omega | split)), at4 (HA.out.set 2 _ rfl) (by simp only [rcvE, rcvH, readR, capZ, raiseZ, updM, updN, updB, useE, useU]; repeat' (first | omega | split)) (by simp only [rcvE, rcvH, readR, capZ, raiseZ, updM, updN, updB, useE, useU]; repeat' (first | omega | split)) (by simp only [rcvE, rcvH, readR, capZ, raiseZ, updM, updN, updB, useE, useU]; repeat' (first | omega | split)) (by simp only [rcvE, rcvH, readR, capZ, raiseZ, updM, updN, updB, useE, useU]; repeat' (first | omega | split)), ((Only.refl _ _).set (.inl (by simp)) _)⟩

theorem raise_c (b : Nat) (m n : Int) (w : World) (hc : w.cell? ⟨b, 0, none⟩ = some (.int .i64 m)) (hf : w.frozen? ⟨b, 0, none⟩ = false) :
    Calls Try.prog 73 #[.pointer (some ⟨b, 0, none⟩), .int .i64 n] w fun e w' => e = .returned (.tuple #[]) ∧ w' = w.setCell ⟨b, 0, none⟩ (.int .i64 (raiseZ m n)) := by
  by_cases h1 : 1099511627776 < n
  · have hz : raiseZ m n = if m < 1099511627776 then 1099511627776 else m := by simp [raiseZ, capZ, h1]
    have HZ := Lib.hid hz; clear hz
    by_cases h2 : m < 1099511627776
    all_goals
      go_enter Try.func73, Try.ntmps73
      go_wp2
      go_end0
      exact ⟨rfl, by rw [HZ.out]; first | rw [if_pos (by omega)] | rw [if_neg (by omega)]⟩
  · have hz : raiseZ m n = if m < n then n else m := by simp [raiseZ, capZ, h1]
    have HZ := Lib.hid hz; clear hz
    by_cases h2 : m < n
    all_goals
      go_enter Try.func73, Try.ntmps73
      go_wp2
      go_end0
      exact ⟨rfl, by rw [HZ.out]; first | rw [if_pos (by omega)] | rw [if_neg (by omega)]⟩
set_option maxHeartbeats 1000000 in
theorem update_c (b : Nat) (m wi h r : Int) (w : World) (hA : At w b 130 #[.int .i64 m, .int .i64 wi, .int .i64 h, .int .i64 r]) (b0 : 0 ≤ r) (b1 : r ≤ m) (b2 : m ≤ 1099511627776) (b3 : 0 ≤ wi) (b4 : wi ≤ 1073741824) :
    Calls Try.prog 43 #[.pointer (some ⟨b, 0, none⟩)] w fun e w' => e = .returned (.tuple #[.int .i64 (updN m wi r), .bool (updB m wi r)]) ∧ At w' b 130 #[.int .i64 (updM m wi r), .int .i64 wi, .int .i64 h, .int .i64 r] ∧ Only [b] w w' := by
  have hmf : ∀ (fn : Fn) (first cap : Array Value) (w : World), (Instr.makeFunc fn first cap).run Try.prog w = .ok (.func fn first cap) w := fun _ _ _ _ => rfl
  have c0 : w.cell? ⟨b, 0, none⟩ = some (.int .i64 m) := hA.cell 0 rfl
  have c1 : w.cell? ⟨b, 1, none⟩ = some (.int .i64 wi) := hA.cell 1 rfl
  have c3 : w.cell? ⟨b, 3, none⟩ = some (.int .i64 r) := hA.cell 3 rfl
  have f0 := hA.free 0
  have HA := Lib.hid hA; clear hA
  have e1 : IntKind.i64.wrap (m - r) = m - r := IntWalk.i64_in _ (by omega)
  have e2 : IntKind.i64.wrap (wi.tdiv 2) = wi / 2 := by rw [Int.tdiv_eq_ediv_of_nonneg b3]; exact IntWalk.i64_in _ (by omega)
  have e3 : IntKind.i64.wrap (r + wi) = r + wi := IntWalk.i64_in _ (by omega)
  by_cases h1 : wi / 2 < m - r
  · have hd : decide (wi / 2 < m - r) = true := by simpa using h1
    have u1 : updM m wi r = m := by simp [updM, h1]
    have u2 : updN m wi r = 0 := by simp [updN, u1]
    have u3 : updB m wi r = false := by simp [updB, u1]
    have U1 := Lib.hid u1
    have U2 := Lib.hid u2
    have U3 := Lib.hid u3
    clear u1 u2 u3
    go_enter Try.func43, Try.ntmps43
    go_wp2
    go_quiet (fail)
    go_wp2
    go_ret2
    exact ⟨ret_intb U2.out.symm U3.out.symm, at4 (HA.out.drewN _) U1.out.symm rfl rfl rfl, (Only.refl _ _).drewN _⟩
  · have h1' : decide (wi / 2 < m - r) = false := by simpa using h1
    have u1 : updM m wi r = raiseZ m (r + wi) := by simp [updM, h1]
    have ug : m ≤ raiseZ m (r + wi) := by unfold raiseZ; split <;> omega
    by_cases h2 : raiseZ m (r + wi) = m
    · have u2 : updN m wi r = 0 := by unfold updN; rw [u1, if_neg (by omega)]
      have u3 : updB m wi r = false := by unfold updB; rw [u1]; simp; omega
      have hq : (raiseZ m (r + wi) == m) = true := by simpa using h2
      have U1 := Lib.hid u1
      have U2 := Lib.hid u2
      have U3 := Lib.hid u3
      clear u1 u2 u3 h1 h2 ug
      go_enter Try.func43, Try.ntmps43
      go_wp2
      go_quiet (fail)
      go_wp2
      go_region
      go_wp2
      go_region_with ((go_at_call 73; refine (raise_c _ _ _ _ (by simpa using c0) (by simpa using f0)).mono ?_; rintro e w' ⟨rfl, rfl⟩))
      all_goals go_wp2
      all_goals go_ret2
      all_goals exact ⟨ret_intb U2.out.symm U3.out.symm, at4 (((HA.out.drewN _).set 0 _ rfl)) U1.out.symm rfl rfl rfl, ((Only.refl _ _).drewN _).set (.inl (by simp)) _⟩
    · have u2 : updN m wi r = raiseZ m (r + wi) := by unfold updN; rw [u1, if_pos (by omega)]
      have u3 : updB m wi r = true := by unfold updB; rw [u1]; simp; omega
      have hq : (raiseZ m (r + wi) == m) = false := by simpa using h2
      have U1 := Lib.hid u1
      have U2 := Lib.hid u2
      have U3 := Lib.hid u3
      clear u1 u2 u3 h1 h2 ug
      go_enter Try.func43, Try.ntmps43
      go_wp2
      go_quiet (fail)
      go_wp2
      go_region
      go_wp2
      go_region_with ((go_at_call 73; refine (raise_c _ _ _ _ (by simpa using c0) (by simpa using f0)).mono ?_; rintro e w' ⟨rfl, rfl⟩))
      all_goals go_wp2
      all_goals go_ret2
      all_goals exact ⟨ret_intb U2.out.symm U3.out.symm, at4 (((HA.out.drewN _).set 0 _ rfl)) U1.out.symm rfl rfl rfl, ((Only.refl _ _).drewN _).set (.inl (by simp)) _⟩

set_option maxHeartbeats 1000000 in
theorem read_c (b : Nat) (m wi h r n : Int) (w : World) (hA : At w b 130 #[.int .i64 m, .int .i64 wi, .int .i64 h, .int .i64 r]) (b0 : 0 ≤ r) (b1 : r ≤ h) (b2 : h ≤ 1099511627776) :
    Calls Try.prog 42 #[.pointer (some ⟨b, 0, none⟩), .int .i64 n] w fun e w' => e = .returned (.tuple #[]) ∧ At w' b 130 #[.int .i64 m, .int .i64 wi, .int .i64 h, .int .i64 (readR h r n)] ∧ Only [b] w w' := by
  have c2 : w.cell? ⟨b, 2, none⟩ = some (.int .i64 h) := hA.cell 2 rfl
  have c3 : w.cell? ⟨b, 3, none⟩ = some (.int .i64 r) := hA.cell 3 rfl
  have f3 := hA.free 3
  have HA := Lib.hid hA; clear hA
  have e1 : IntKind.i64.wrap (h - r) = h - r := IntWalk.i64_in _ (by omega)
  by_cases h1 : 0 < n
  · by_cases h2 : h - r < n
    · have e2 : IntKind.i64.wrap (r + (h - r)) = r + (h - r) := IntWalk.i64_in _ (by omega)
      go_enter Try.func42, Try.ntmps42
      go_wp2
      go_region
      all_goals go_wp2
      all_goals go_end0
      all_goals exact ⟨rfl, at4 ((HA.out.set 3 _ rfl).drew) rfl rfl rfl (by simp only [readR]; repeat' (first | omega | split)), ((Only.refl _ _).set (.inl (by simp)) _).drew⟩
    · have e2 : IntKind.i64.wrap (r + n) = r + n := IntWalk.i64_in _ (by omega)
      have h2' : ¬ (h - r < n) := by omega
      go_enter Try.func42, Try.ntmps42
      go_wp2
      go_region
      all_goals go_wp2
      all_goals go_end0
      all_goals exact ⟨rfl, at4 ((HA.out.set 3 _ rfl).drew) rfl rfl rfl (by simp only [readR]; repeat' (first | omega | split)), ((Only.refl _ _).set (.inl (by simp)) _).drew⟩
  · go_enter Try.func42, Try.ntmps42
    go_wp2
    go_end0
    exact ⟨rfl, at4 HA.out rfl rfl rfl (by simp only [readR]; repeat' (first | omega | split)), Only.refl _ _⟩
end Go.Proofs.Ytmmgmpghkpbgkaa
