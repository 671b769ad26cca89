/- What the four ways through 'add' do to the list of intervals. -/
import Derived.Test.YthjlkiilkiggiaaAkE
namespace Go.Proofs.Ythjlkiilkiggiaa
set_option linter.unusedVariables false
section
variable (F T : Nat → Int) (pn : Int) (k n : Nat) (hk : ∀ i, i < k → T i < pn)
include hk
theorem ins_split (m : Nat) (hn : n = k + m) : ins (lst F T 0 n) pn = lst F T 0 k ++ ins (lst F T k m) pn := by
  subst hn
  rw [lst_add k 0 m, ins_skip pn _ k 0 (fun i hi => by rw [Nat.zero_add]; exact hk i hi), Nat.zero_add]
theorem add_end (hn : k = n) : lst (upd (mv F (k + 1) k (n - k)) k pn) (upd (mv T (k + 1) k (n - k)) k (pn + 1)) 0 (n + 1) = ins (lst F T 0 n) pn := by
  subst hn
  rw [ins_split F T pn k k hk 0 rfl, lst_add k 0 1, Nat.zero_add]
  congr 1
  · apply lst_congr
    intro i hi
    rw [Nat.zero_add, upd_other _ _ _ _ (by omega), upd_other _ _ _ _ (by omega)]
    simp only [mv]
    rw [if_neg (by omega), if_neg (by omega)]
    exact ⟨rfl, rfl⟩
  · simp [lst, ins, upd_same]
theorem add_mid (hn : k < n) (h1 : pn < T k) (h2 : F k ≠ pn + 1) : lst (upd (mv F (k + 1) k (n - k)) k pn) (upd (mv T (k + 1) k (n - k)) k (pn + 1)) 0 (n + 1) = ins (lst F T 0 n) pn := by
  obtain ⟨m, rfl⟩ : ∃ m, n = k + (m + 1) := ⟨n - k - 1, by omega⟩
  rw [ins_split F T pn k _ hk (m + 1) rfl, show k + (m + 1) + 1 = k + (1 + (m + 1)) from by omega, lst_add k 0, Nat.zero_add, lst_add 1 k]
  have e : ins (lst F T k (m + 1)) pn = (pn, pn + 1) :: lst F T k (m + 1) := by
    simp only [lst, ins]
    rw [if_neg (by omega), if_neg (by omega), if_neg h2]
  rw [e]
  congr 1
  · apply lst_congr
    intro i hi
    rw [Nat.zero_add, upd_other _ _ _ _ (by omega), upd_other _ _ _ _ (by omega)]
    simp only [mv]
    rw [if_neg (by omega), if_neg (by omega)]
    exact ⟨rfl, rfl⟩
  · simp only [lst, upd_same, List.cons_append, List.nil_append]
    congr 1
    show lst _ _ (k + 1) (m + 1) = lst F T k (m + 1)
    apply lst_congr
    intro i hi
    rw [upd_other _ _ _ _ (by omega), upd_other _ _ _ _ (by omega)]
    simp only [mv]
    rw [if_pos (by omega), if_pos (by omega), show k + (k + 1 + i - (k + 1)) = k + i from by omega]
    exact ⟨rfl, rfl⟩
theorem add_low (hn : k < n) (h1 : pn < T k) (h2 : F k = pn + 1) : lst (upd F k pn) T 0 n = ins (lst F T 0 n) pn := by
  obtain ⟨m, rfl⟩ : ∃ m, n = k + (m + 1) := ⟨n - k - 1, by omega⟩
  rw [ins_split F T pn k _ hk (m + 1) rfl, lst_add k 0, Nat.zero_add]
  have e : ins (lst F T k (m + 1)) pn = (pn, T k) :: lst F T (k + 1) m := by
    simp only [lst, ins]
    rw [if_neg (by omega), if_neg (by omega), if_pos h2]
  rw [e]
  congr 1
  · apply lst_congr
    intro i hi
    rw [Nat.zero_add, upd_other _ _ _ _ (by omega)]
    exact ⟨rfl, rfl⟩
  · simp only [lst, upd_same]
    congr 1
    apply lst_congr
    intro i hi
    rw [upd_other _ _ _ _ (by omega)]
    exact ⟨rfl, rfl⟩
theorem add_top (hn : k < n) (h1 : T k = pn) (h2 : ¬ (k + 1 < n ∧ F (k + 1) = pn + 1)) : lst F (upd T k (pn + 1)) 0 n = ins (lst F T 0 n) pn := by
  obtain ⟨m, rfl⟩ : ∃ m, n = k + (m + 1) := ⟨n - k - 1, by omega⟩
  rw [ins_split F T pn k _ hk (m + 1) rfl, lst_add k 0, Nat.zero_add]
  have e : ins (lst F T k (m + 1)) pn = (F k, pn + 1) :: lst F T (k + 1) m := by
    cases m with
    | zero => simp only [lst, ins]; rw [if_neg (by omega), if_pos h1]
    | succ m =>
      have h3 : F (k + 1) ≠ pn + 1 := fun h => h2 ⟨by omega, h⟩
      simp only [lst, ins]
      rw [if_neg (by omega), if_pos h1, if_neg h3]
  rw [e]
  congr 1
  · apply lst_congr
    intro i hi
    rw [Nat.zero_add, upd_other _ _ _ _ (by omega)]
    exact ⟨rfl, rfl⟩
  · simp only [lst, upd_same]
    congr 1
    apply lst_congr
    intro i hi
    rw [upd_other _ _ _ _ (by omega)]
    exact ⟨rfl, rfl⟩
theorem add_join (hn : k + 1 < n) (h1 : T k = pn) (h2 : F (k + 1) = pn + 1) : lst (mv F (k + 1) (k + 2) (n - (k + 2))) (mv (upd (upd T k (pn + 1)) k (T (k + 1))) (k + 1) (k + 2) (n - (k + 2))) 0 (n - 1) = ins (lst F T 0 n) pn := by
  obtain ⟨m, rfl⟩ : ∃ m, n = k + (m + 2) := ⟨n - k - 2, by omega⟩
  rw [ins_split F T pn k _ hk (m + 2) rfl, show k + (m + 2) - 1 = k + (1 + m) from by omega, lst_add k 0, Nat.zero_add, lst_add 1 k]
  have e : ins (lst F T k (m + 2)) pn = (F k, T (k + 1)) :: lst F T (k + 2) m := by
    simp only [lst, ins]
    rw [if_neg (by omega), if_pos h1, if_pos h2]
  rw [e]
  congr 1
  · apply lst_congr
    intro i hi
    rw [Nat.zero_add]
    simp only [mv]
    rw [if_neg (by omega), if_neg (by omega), upd_other _ _ _ _ (by omega), upd_other _ _ _ _ (by omega)]
    exact ⟨rfl, rfl⟩
  · have e1 : mv F (k + 1) (k + 2) (k + (m + 2) - (k + 2)) k = F k := by simp only [mv]; rw [if_neg (by omega)]
    have e2 : mv (upd (upd T k (pn + 1)) k (T (k + 1))) (k + 1) (k + 2) (k + (m + 2) - (k + 2)) k = T (k + 1) := by simp only [mv]; rw [if_neg (by omega), upd_same]
    simp only [lst, e1, e2, List.cons_append, List.nil_append]
    congr 1
    apply lst_congr
    intro i hi
    simp only [mv]
    rw [if_pos (by omega), if_pos (by omega), upd_other _ _ _ _ (by omega), upd_other _ _ _ _ (by omega), show k + 2 + (k + 1 + i - (k + 1)) = k + 2 + i from by omega]
    exact ⟨rfl, rfl⟩
end
end Go.Proofs.Ythjlkiilkiggiaa
