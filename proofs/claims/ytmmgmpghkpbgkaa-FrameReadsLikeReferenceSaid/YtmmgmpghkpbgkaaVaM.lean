/- Plain law of variable-length integers: bytes of numbers, the greatest first. -/
import Derived.Test.YtmmgmpghkpbgkaaBas
namespace Go.Proofs.Ytmmgmpghkpbgkaa
set_option linter.unusedVariables false
set_option linter.unusedSimpArgs false

def byt (x : Nat) : UInt8 := UInt8.ofNat x
/-- The low w bytes of m, the greatest first. -/
def beL : Nat → Nat → List UInt8
  | 0, _ => []
  | w + 1, m => byt (m / 256 ^ w) :: beL w m
/-- The number in some bytes, the greatest first. -/
def rdB : List UInt8 → Nat
  | [] => 0
  | x :: r => x.toNat * 256 ^ r.length + rdB r
theorem byt_nat (x : Nat) : (byt x).toNat = x % 256 := by simp [byt]
theorem byt_of (x : UInt8) : byt x.toNat = x := by simp [byt]
theorem byt_mod {x y : Nat} (h : x % 256 = y % 256) : byt x = byt y := UInt8.toNat_inj.1 (by rw [byt_nat, byt_nat, h])
theorem beL_len (w m : Nat) : (beL w m).length = w := by
  induction w with
  | zero => rfl
  | succ w ih => simp [beL, ih]
theorem rdB_lt (l : List UInt8) : rdB l < 256 ^ l.length := by
  induction l with
  | nil => simp [rdB]
  | cons x r ih =>
    have hx : x.toNat < 256 := x.toNat_lt
    simp only [rdB, List.length_cons, Nat.pow_succ]
    have : x.toNat * 256 ^ r.length ≤ 255 * 256 ^ r.length := Nat.mul_le_mul_right _ (by omega)
    omega
theorem rdB_snoc (l : List UInt8) (x : UInt8) : rdB (l ++ [x]) = rdB l * 256 + x.toNat := by
  induction l with
  | nil => simp [rdB]
  | cons y r ih => simp only [List.cons_append, rdB, ih, List.length_append, List.length_cons, List.length_nil, Nat.pow_succ, Nat.add_mul, Nat.zero_add]; rw [Nat.mul_assoc]; omega
theorem beL_add (w : Nat) : ∀ (W a m : Nat), w ≤ W → beL w (a * 256 ^ W + m) = beL w m := by
  induction w with
  | zero => intro W a m h; rfl
  | succ w ih =>
    intro W a m h
    obtain ⟨d, rfl⟩ : ∃ d, W = w + 1 + d := ⟨W - (w + 1), by omega⟩
    simp only [beL]
    rw [ih (w + 1 + d) a m (by omega)]
    congr 1
    apply byt_mod
    rw [show a * 256 ^ (w + 1 + d) = 256 ^ w * (a * 256 ^ d * 256) from by rw [Nat.pow_add, Nat.pow_succ]; ac_rfl, Nat.mul_add_div (Nat.pow_pos (by omega))]
    omega
theorem beL_rdB (l : List UInt8) : beL l.length (rdB l) = l := by
  induction l with
  | nil => rfl
  | cons x r ih =>
    have hp : 0 < 256 ^ r.length := Nat.pow_pos (by omega)
    have hr := rdB_lt r
    simp only [List.length_cons, beL, rdB]
    rw [beL_add _ _ _ _ (Nat.le_refl _), ih]
    congr 1
    rw [Nat.add_comm, Nat.add_mul_div_right _ _ hp, Nat.div_eq_of_lt hr, Nat.zero_add, byt_of]
theorem rdB_beL (w m : Nat) : rdB (beL w m) = m % 256 ^ w := by
  induction w with
  | zero => simp [beL, rdB, Nat.mod_one]
  | succ w ih => simp only [beL, rdB, beL_len, ih, byt_nat]; rw [Nat.mod_pow_succ, Nat.mul_comm, Nat.add_comm]

/-- The class of a number, or -1. -/
def vCls (n : Int) : Int := if n < 0 then -1 else if n ≤ 63 then 0 else if n ≤ 16383 then 1 else if n ≤ 1073741823 then 2 else if n ≤ 4611686018427387903 then 3 else -1
/-- The number of bytes of a class, and the weight of its mark. -/
def vWid (c : Int) : Nat := if c = 0 then 1 else if c = 1 then 2 else if c = 2 then 4 else 8
def vTop (c : Int) : Nat := if c = 0 then 64 else if c = 1 then 16384 else if c = 2 then 1073741824 else 4611686018427387904
theorem vCls_bd (n : Int) (h0 : 0 ≤ n) (h1 : n ≤ 4611686018427387903) : 0 ≤ vCls n ∧ vCls n ≤ 3 ∧ n < vTop (vCls n) := by
  unfold vCls
  rw [if_neg (by omega)]
  by_cases a : n ≤ 63
  · rw [if_pos a]; simp [vTop]; omega
  rw [if_neg a]
  by_cases b : n ≤ 16383
  · rw [if_pos b]; simp [vTop]; omega
  rw [if_neg b]
  by_cases c : n ≤ 1073741823
  · rw [if_pos c]; simp [vTop]; omega
  rw [if_neg c, if_pos h1]; simp [vTop]; omega
theorem vCls_neg (n : Int) : vCls n < 0 ↔ n < 0 ∨ 4611686018427387903 < n := by
  unfold vCls
  constructor
  · intro h
    by_cases h0 : n < 0
    · exact .inl h0
    · right
      rw [if_neg h0] at h
      by_cases a : n ≤ 63
      · rw [if_pos a] at h; omega
      rw [if_neg a] at h
      by_cases b : n ≤ 16383
      · rw [if_pos b] at h; omega
      rw [if_neg b] at h
      by_cases c : n ≤ 1073741823
      · rw [if_pos c] at h; omega
      rw [if_neg c] at h
      by_cases d : n ≤ 4611686018427387903
      · rw [if_pos d] at h; omega
      · omega
  · rintro (h | h)
    · rw [if_pos h]; omega
    · rw [if_neg (by omega), if_neg (by omega), if_neg (by omega), if_neg (by omega), if_neg (by omega)]; omega
theorem vWid_top (c : Int) (h0 : 0 ≤ c) (h1 : c ≤ 3) : 256 ^ vWid c = 4 * vTop c ∧ 256 ^ (vWid c - 1) * 64 = vTop c ∧ 1 ≤ vWid c ∧ vWid c ≤ 8 := by
  obtain rfl | rfl | rfl | rfl : c = 0 ∨ c = 1 ∨ c = 2 ∨ c = 3 := by omega
  all_goals simp [vWid, vTop]
/-- The variable-length encoding of a number. -/
def vEnc (n : Int) : List UInt8 := beL (vWid (vCls n)) (n.toNat + (vCls n).toNat * vTop (vCls n))
theorem vEnc_len (n : Int) : (vEnc n).length = vWid (vCls n) := beL_len _ _
/-- What stands at the head of some bytes: the number and its width. -/
def vDec : List UInt8 → Option (Int × Nat)
  | [] => none
  | x :: r => if r.length + 1 < vWid ((x.toNat / 64 : Nat) : Int) then none else
      if vCls ((rdB ((x :: r).take (vWid ((x.toNat / 64 : Nat) : Int))) % vTop ((x.toNat / 64 : Nat) : Int) : Nat) : Int) = ((x.toNat / 64 : Nat) : Int) then
        some (((rdB ((x :: r).take (vWid ((x.toNat / 64 : Nat) : Int))) % vTop ((x.toNat / 64 : Nat) : Int) : Nat) : Int), vWid ((x.toNat / 64 : Nat) : Int)) else none
theorem head_cls (x : UInt8) (r : List UInt8) (w : Nat) (hw : 1 ≤ w) (hl : w ≤ r.length + 1) : rdB ((x :: r).take w) / (256 ^ (w - 1) * 64) = x.toNat / 64 ∧ ((x :: r).take w).length = w := by
  obtain ⟨v, rfl⟩ : ∃ v, w = v + 1 := ⟨w - 1, by omega⟩
  have hlen : (r.take v).length = v := by simp; omega
  have hr := rdB_lt (r.take v)
  rw [hlen] at hr
  have hp : 0 < 256 ^ v := Nat.pow_pos (by omega)
  simp only [List.take_succ_cons, rdB, hlen, Nat.add_sub_cancel, List.length_cons]
  rw [← Nat.div_div_eq_div_mul, Nat.add_comm, Nat.add_mul_div_right _ _ hp, Nat.div_eq_of_lt hr, Nat.zero_add]
  exact ⟨rfl, trivial⟩
theorem vDec_enc (n : Int) (h0 : 0 ≤ n) (h1 : n ≤ 4611686018427387903) (r : List UInt8) : vDec (vEnc n ++ r) = some (n, vWid (vCls n)) := by
  obtain ⟨c0, c1, hn⟩ := vCls_bd n h0 h1
  obtain ⟨t1, t2, w1, w2⟩ := vWid_top (vCls n) c0 c1
  have hlen := vEnc_len n
  have hrd : rdB (vEnc n) = n.toNat + (vCls n).toNat * vTop (vCls n) := by
    unfold vEnc
    rw [rdB_beL, t1]
    apply Nat.mod_eq_of_lt
    have : (vCls n).toNat * vTop (vCls n) ≤ 3 * vTop (vCls n) := Nat.mul_le_mul_right _ (by omega)
    omega
  generalize hE : vEnc n = E at hlen hrd
  cases E with
  | nil => simp at hlen; omega
  | cons x E' =>
    have hlen' : E'.length + 1 = vWid (vCls n) := by simpa using hlen
    obtain ⟨k1, k2⟩ := head_cls x (E' ++ r) (vWid (vCls n)) w1 (by simp; omega)
    have ht : (x :: (E' ++ r)).take (vWid (vCls n)) = x :: E' := by
      rw [← List.cons_append, List.take_append_of_le_length (by simp; omega), List.take_of_length_le (by simp; omega)]
    rw [ht, t2, hrd] at k1
    have hT : 0 < vTop (vCls n) := by omega
    rw [Nat.add_mul_div_right _ _ hT, Nat.div_eq_of_lt (by omega), Nat.zero_add] at k1
    have hc : ((x.toNat / 64 : Nat) : Int) = vCls n := by omega
    have hm : (n.toNat + (vCls n).toNat * vTop (vCls n)) % vTop (vCls n) = n.toNat := by
      rw [Nat.add_mul_mod_self_right]; exact Nat.mod_eq_of_lt (by omega)
    simp only [List.cons_append, vDec]
    rw [hc, ht, hrd, hm, if_neg (by simp; omega), show ((n.toNat : Nat) : Int) = n from by omega, if_pos rfl]
theorem vDec_some (l : List UInt8) (n : Int) (w : Nat) (h : vDec l = some (n, w)) : 0 ≤ n ∧ n ≤ 4611686018427387903 ∧ w = vWid (vCls n) ∧ w ≤ l.length ∧ l.take w = vEnc n := by
  cases l with
  | nil => cases h
  | cons x r =>
    have hx : x.toNat < 256 := x.toNat_lt
    simp only [vDec] at h
    have hc0 : (0 : Int) ≤ ((x.toNat / 64 : Nat) : Int) := by omega
    have hc1 : ((x.toNat / 64 : Nat) : Int) ≤ 3 := by omega
    obtain ⟨c, hc⟩ : ∃ c : Int, ((x.toNat / 64 : Nat) : Int) = c := ⟨_, rfl⟩
    rw [hc] at h hc0 hc1
    obtain ⟨t1, t2, w1, w2⟩ := vWid_top c hc0 hc1
    by_cases hl : r.length + 1 < vWid c
    · rw [if_pos hl] at h; cases h
    rw [if_neg hl] at h
    obtain ⟨k1, k2⟩ := head_cls x r (vWid c) w1 (by omega)
    rw [t2] at k1
    have hb := beL_rdB ((x :: r).take (vWid c))
    rw [k2] at hb
    generalize rdB ((x :: r).take (vWid c)) = m at h k1 hb
    by_cases hk : vCls ((m % vTop c : Nat) : Int) = c
    · rw [if_pos hk] at h
      simp only [Option.some.injEq, Prod.mk.injEq] at h
      obtain ⟨rfl, rfl⟩ := h
      have hneg := vCls_neg ((m % vTop c : Nat) : Int)
      refine ⟨by omega, ?_, by rw [hk], by simp; omega, ?_⟩
      · by_cases h9 : ((m % vTop c : Nat) : Int) ≤ 4611686018427387903
        · exact h9
        · have := hneg.2 (.inr (by omega)); omega
      · unfold vEnc
        rw [hk, ← hb]
        congr 1
        have e := Nat.div_add_mod m (vTop c)
        rw [show c.toNat = m / vTop c from by omega, Int.toNat_natCast, Nat.mul_comm]
        omega
    · rw [if_neg hk] at h; cases h
theorem vEnc_ne (n : Int) : vEnc n ≠ [] := by
  intro h
  have := vEnc_len n
  rw [h] at this
  simp [vWid] at this
  split at this
  · omega
  · split at this
    · omega
    · split at this <;> omega
end Go.Proofs.Ytmmgmpghkpbgkaa
