/- Contracts of package flow, case by case. -/
import Derived.Test.YtmmgmpghkpbgkaaFmD
namespace Go.Proofs.Ytmmgmpghkpbgkaa
open Go.RowKit
set_option linter.unusedVariables false
set_option linter.unusedSimpArgs false

theorem receive_ok (b : Nat) (m wi h r n : Int) (w : World) (hA : At w b 130 #[.int .i64 m, .int .i64 wi, .int .i64 h, .int .i64 r]) (h0 : h ≤ n) (h1 : 0 ≤ n) (h2 : n ≤ m) :
    Calls Try.prog 41 #[.pointer (some ⟨b, 0, none⟩), .int .i64 n] w fun e w' => e = .returned (.int .i64 0) ∧ At w' b 130 #[.int .i64 m, .int .i64 wi, .int .i64 n, .int .i64 r] ∧ Only [b] w w' :=
  (receive_c b m wi h r n w hA).mono fun _ _ ⟨x, y, z⟩ => ⟨x.trans (ret_int (by simp only [rcvE, rcvH]; repeat' (first | omega | split))), at4 y rfl rfl (by simp only [rcvE, rcvH]; repeat' (first | omega | split)) rfl, z⟩
theorem receive_in (b : Nat) (m wi h r n : Int) (w : World) (hA : At w b 130 #[.int .i64 m, .int .i64 wi, .int .i64 h, .int .i64 r]) (h0 : n ≤ h) (h1 : 0 ≤ n) (h2 : n ≤ m) :
    Calls Try.prog 41 #[.pointer (some ⟨b, 0, none⟩), .int .i64 n] w fun e w' => e = .returned (.int .i64 0) ∧ At w' b 130 #[.int .i64 m, .int .i64 wi, .int .i64 h, .int .i64 r] ∧ Only [b] w w' :=
  (receive_c b m wi h r n w hA).mono fun _ _ ⟨x, y, z⟩ => ⟨x.trans (ret_int (by simp only [rcvE, rcvH]; repeat' (first | omega | split))), at4 y rfl rfl (by simp only [rcvE, rcvH]; repeat' (first | omega | split)) rfl, z⟩
theorem receive_big (b : Nat) (m wi h r n : Int) (w : World) (hA : At w b 130 #[.int .i64 m, .int .i64 wi, .int .i64 h, .int .i64 r]) (h1 : 0 ≤ n) (h2 : m < n) :
    Calls Try.prog 41 #[.pointer (some ⟨b, 0, none⟩), .int .i64 n] w fun e w' => e = .returned (.int .i64 150) ∧ At w' b 130 #[.int .i64 m, .int .i64 wi, .int .i64 h, .int .i64 r] ∧ Only [b] w w' :=
  (receive_c b m wi h r n w hA).mono fun _ _ ⟨x, y, z⟩ => ⟨x.trans (ret_int (by simp only [rcvE, rcvH]; repeat' (first | omega | split))), at4 y rfl rfl (by simp only [rcvE, rcvH]; repeat' (first | omega | split)) rfl, z⟩
theorem read_all (b : Nat) (m wi h r n : Int) (w : World) (hA : At w b 130 #[.int .i64 m, .int .i64 wi, .int .i64 h, .int .i64 r]) (b0 : 0 ≤ r) (b1 : r ≤ h) (b2 : h ≤ 1099511627776) (h1 : 0 < n) (h2 : h - r ≤ n) :
    Calls Try.prog 42 #[.pointer (some ⟨b, 0, none⟩), .int .i64 n] w fun e w' => e = .returned (.tuple #[]) ∧ At w' b 130 #[.int .i64 m, .int .i64 wi, .int .i64 h, .int .i64 h] ∧ Only [b] w w' :=
  (read_c b m wi h r n w hA b0 b1 b2).mono fun _ _ ⟨x, y, z⟩ => ⟨x.trans (rfl), at4 y rfl rfl rfl (by simp only [readR]; repeat' (first | omega | split)), z⟩
theorem read_part (b : Nat) (m wi h r n : Int) (w : World) (hA : At w b 130 #[.int .i64 m, .int .i64 wi, .int .i64 h, .int .i64 r]) (b0 : 0 ≤ r) (b1 : r ≤ h) (b2 : h ≤ 1099511627776) (h1 : 0 ≤ n) (h2 : n ≤ h - r) :
    Calls Try.prog 42 #[.pointer (some ⟨b, 0, none⟩), .int .i64 n] w fun e w' => e = .returned (.tuple #[]) ∧ At w' b 130 #[.int .i64 m, .int .i64 wi, .int .i64 h, .int .i64 (r + n)] ∧ Only [b] w w' :=
  (read_c b m wi h r n w hA b0 b1 b2).mono fun _ _ ⟨x, y, z⟩ => ⟨x.trans (rfl), at4 y rfl rfl rfl (by simp only [readR]; repeat' (first | omega | split)), z⟩
theorem update_no (b : Nat) (m wi h r : Int) (w : World) (hA : At w b 130 #[.int .i64 m, .int .i64 wi, .int .i64 h, .int .i64 r]) (b0 : 0 ≤ r) (b1 : r ≤ m) (b2 : m ≤ 1099511627776) (b3 : 0 ≤ wi) (b4 : wi ≤ 1073741824) (h1 : wi / 2 < m - r ∨ r + wi ≤ m) :
    Calls Try.prog 43 #[.pointer (some ⟨b, 0, none⟩)] w fun e w' => e = .returned (.tuple #[.int .i64 0, .bool false]) ∧ At w' b 130 #[.int .i64 m, .int .i64 wi, .int .i64 h, .int .i64 r] ∧ Only [b] w w' :=
  (update_c b m wi h r w hA b0 b1 b2 b3 b4).mono fun _ _ ⟨x, y, z⟩ => ⟨x.trans (ret_intb (by simp only [updN, updM, raiseZ, capZ]; repeat' (first | omega | split)) (by unfold updB; first | (rw [decide_eq_true]; simp only [updM, raiseZ, capZ]; repeat' (first | omega | split)) | (rw [decide_eq_false]; simp only [updM, raiseZ, capZ]; repeat' (first | omega | split)))), at4 y (by simp only [updN, updM, raiseZ, capZ]; repeat' (first | omega | split)) rfl rfl rfl, z⟩
theorem update_yes (b : Nat) (m wi h r : Int) (w : World) (hA : At w b 130 #[.int .i64 m, .int .i64 wi, .int .i64 h, .int .i64 r]) (b0 : 0 ≤ r) (b1 : r ≤ m) (b2 : m ≤ 1099511627776) (b3 : 0 ≤ wi) (b4 : wi ≤ 1073741824) (h1 : m - r ≤ wi / 2) (h2 : m < r + wi) (h3 : r + wi ≤ 1099511627776) :
    Calls Try.prog 43 #[.pointer (some ⟨b, 0, none⟩)] w fun e w' => e = .returned (.tuple #[.int .i64 (r + wi), .bool true]) ∧ At w' b 130 #[.int .i64 (r + wi), .int .i64 wi, .int .i64 h, .int .i64 r] ∧ Only [b] w w' :=
  (update_c b m wi h r w hA b0 b1 b2 b3 b4).mono fun _ _ ⟨x, y, z⟩ => ⟨x.trans (ret_intb (by simp only [updN, updM, raiseZ, capZ]; repeat' (first | omega | split)) (by unfold updB; first | (rw [decide_eq_true]; simp only [updM, raiseZ, capZ]; repeat' (first | omega | split)) | (rw [decide_eq_false]; simp only [updM, raiseZ, capZ]; repeat' (first | omega | split)))), at4 y (by simp only [updN, updM, raiseZ, capZ]; repeat' (first | omega | split)) rfl rfl rfl, z⟩
theorem use_ok (b : Nat) (m u t n : Int) (w : World) (hA : At w b 132 #[.int .i64 m, .int .i64 u, .int .i64 t]) (b0 : 0 ≤ u) (b1 : u ≤ m) (b2 : m ≤ 1099511627776) (h1 : 0 ≤ n) (h2 : n ≤ m - u) :
    Calls Try.prog 40 #[.pointer (some ⟨b, 0, none⟩), .int .i64 n] w fun e w' => e = .returned (.int .i64 0) ∧ At w' b 132 #[.int .i64 m, .int .i64 (u + n), .int .i64 t] ∧ Only [b] w w' :=
  (use_c b m u t n w hA b0 b1 b2).mono fun _ _ ⟨x, y, z⟩ => ⟨x.trans (ret_int (by simp only [useE, useU]; repeat' (first | omega | split))), at3 y rfl (by simp only [useE, useU]; repeat' (first | omega | split)) rfl, z⟩
theorem use_big (b : Nat) (m u t n : Int) (w : World) (hA : At w b 132 #[.int .i64 m, .int .i64 u, .int .i64 t]) (b0 : 0 ≤ u) (b1 : u ≤ m) (b2 : m ≤ 1099511627776) (h1 : 0 ≤ n) (h2 : m - u < n) :
    Calls Try.prog 40 #[.pointer (some ⟨b, 0, none⟩), .int .i64 n] w fun e w' => e = .returned (.int .i64 150) ∧ At w' b 132 #[.int .i64 m, .int .i64 u, .int .i64 t] ∧ Only [b] w w' :=
  (use_c b m u t n w hA b0 b1 b2).mono fun _ _ ⟨x, y, z⟩ => ⟨x.trans (ret_int (by simp only [useE, useU]; repeat' (first | omega | split))), at3 y rfl (by simp only [useE, useU]; repeat' (first | omega | split)) rfl, z⟩
theorem raise_up (b : Nat) (m u t n : Int) (w : World) (hA : At w b 132 #[.int .i64 m, .int .i64 u, .int .i64 t]) (h1 : m ≤ n) (h2 : n ≤ 1099511627776) :
    Calls Try.prog 44 #[.pointer (some ⟨b, 0, none⟩), .int .i64 n] w fun e w' => e = .returned (.tuple #[]) ∧ At w' b 132 #[.int .i64 n, .int .i64 u, .int .i64 t] ∧ Only [b] w w' :=
  (sraise_c b m u t n w hA).mono fun _ _ ⟨x, y, z⟩ => ⟨x.trans (rfl), at3 y (by simp only [raiseZ, capZ]; repeat' (first | omega | split)) rfl rfl, z⟩
theorem raise_low (b : Nat) (m u t n : Int) (w : World) (hA : At w b 132 #[.int .i64 m, .int .i64 u, .int .i64 t]) (h0 : 0 ≤ m) (h1 : n ≤ m) :
    Calls Try.prog 44 #[.pointer (some ⟨b, 0, none⟩), .int .i64 n] w fun e w' => e = .returned (.tuple #[]) ∧ At w' b 132 #[.int .i64 m, .int .i64 u, .int .i64 t] ∧ Only [b] w w' :=
  (sraise_c b m u t n w hA).mono fun _ _ ⟨x, y, z⟩ => ⟨x.trans (rfl), at3 y (by simp only [raiseZ, capZ]; repeat' (first | omega | split)) rfl rfl, z⟩
theorem block_yes (b : Nat) (m u t : Int) (w : World) (hA : At w b 132 #[.int .i64 m, .int .i64 u, .int .i64 (t + 1)]) (b0 : 0 ≤ u) (b1 : u ≤ m) (b2 : m ≤ 1099511627776) (b3 : -1 ≤ t) (b4 : t ≤ 1099511627776) (h1 : m ≤ u) (h2 : t ≠ m) :
    Calls Try.prog 45 #[.pointer (some ⟨b, 0, none⟩)] w fun e w' => e = .returned (.tuple #[.int .i64 m, .bool true]) ∧ At w' b 132 #[.int .i64 m, .int .i64 u, .int .i64 (m + 1)] ∧ Only [b] w w' :=
  (block_c b m u t w hA b0 b1 b2 b3 b4).mono fun _ _ ⟨x, y, z⟩ => ⟨x.trans (ret_intb (by unfold blkN; rw [show blkB m u t = true from (by unfold blkB; rw [decide_eq_true (by omega)])]; rfl) (by unfold blkB; rw [decide_eq_true (by omega)])), at3 y rfl rfl (by unfold blkT; rw [show blkB m u t = true from (by unfold blkB; rw [decide_eq_true (by omega)])]; rfl), z⟩
theorem block_no (b : Nat) (m u t : Int) (w : World) (hA : At w b 132 #[.int .i64 m, .int .i64 u, .int .i64 (t + 1)]) (b0 : 0 ≤ u) (b1 : u ≤ m) (b2 : m ≤ 1099511627776) (b3 : -1 ≤ t) (b4 : t ≤ 1099511627776) (h1 : u < m ∨ t = m) :
    Calls Try.prog 45 #[.pointer (some ⟨b, 0, none⟩)] w fun e w' => e = .returned (.tuple #[.int .i64 0, .bool false]) ∧ At w' b 132 #[.int .i64 m, .int .i64 u, .int .i64 (t + 1)] ∧ Only [b] w w' :=
  (block_c b m u t w hA b0 b1 b2 b3 b4).mono fun _ _ ⟨x, y, z⟩ => ⟨x.trans (ret_intb (by unfold blkN; rw [show blkB m u t = false from (by unfold blkB; rw [decide_eq_false (by omega)])]; rfl) (by unfold blkB; rw [decide_eq_false (by omega)])), at3 y rfl rfl (by unfold blkT; rw [show blkB m u t = false from (by unfold blkB; rw [decide_eq_false (by omega)])]; rfl), z⟩
end Go.Proofs.Ytmmgmpghkpbgkaa
