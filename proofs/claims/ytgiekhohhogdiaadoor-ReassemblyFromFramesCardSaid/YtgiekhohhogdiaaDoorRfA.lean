/- Plain law of variable-length integers: bytes of numbers, the greatest first. -/
import Derived.Test.YtgiekhohhogdiaaDoorBas
namespace Go.Proofs.YtgiekhohhogdiaaDoor
set_option linter.unusedVariables false
set_option linter.unusedSimpArgs false

def byt (x : Nat) : UInt8 := UInt8.ofNat x
/-- The low w bytes of m, the greatest first. -/
def beL : Nat → Nat → List UInt8
  | 0, _ => []
  | w + 1, m => byt (m / 256 ^ w) :: beL w m
/-- The number in some bytes, the greatest first. -/
def rdB : List UInt8 → Nat
  | [] => 0
  | x :: r => x.toNat * 256 ^ r.length + rdB r
theorem byt_nat (x : Nat) : (byt x).toNat = x % 256 := by simp [byt]
theorem byt_of (x : UInt8) : byt x.toNat = x := by simp [byt]
theorem byt_mod {x y : Nat} (h : x % 256 = y % 256) : byt x = byt y := UInt8.toNat_inj.1 (by rw [byt_nat, byt_nat, h])
theorem beL_len (w m : Nat) : (beL w m).length = w := by
  induction w with
  | zero => rfl
  | succ w ih => simp [beL, ih]
theorem rdB_lt (l : List UInt8) : rdB l < 256 ^ l.length := by
  induction l with
  | nil => simp [rdB]
  | cons x r ih =>
    have hx : x.toNat < 256 := x.toNat_lt
    simp only [rdB, List.length_cons, Nat.pow_succ]
    have : x.toNat * 256 ^ r.length ≤ 255 * 256 ^ r.length := Nat.mul_le_mul_right _ (by omega)
    omega
theorem rdB_snoc (l : List UInt8) (x : UInt8) : rdB (l ++ [x]) = rdB l * 256 + x.toNat := by
  induction l with
  | nil => simp [rdB]
  | cons y r ih => simp only [List.cons_append, rdB, ih, List.length_append, List.length_cons, List.length_nil, Nat.pow_succ, Nat.add_mul, Nat.zero_add]; rw [Nat.mul_assoc]; omega
theorem beL_add (w : Nat) : ∀ (W a m : Nat), w ≤ W → beL w (a * 256 ^ W + m) = beL w m := by
  induction w with
  | zero => intro W a m h; rfl
  | succ w ih =>
    intro W a m h
    obtain ⟨d, rfl⟩ : ∃ d, W = w + 1 + d := ⟨W - (w + 1), by omega⟩
    simp only [beL]
    rw [ih (w + 1 + d) a m (by omega)]
    congr 1
    apply byt_mod
    rw [show a * 256 ^ (w + 1 + d) = 256 ^ w * (a * 256 ^ d * 256) from by rw [Nat.pow_add, Nat.pow_succ]; ac_rfl, Nat.mul_add_div (Nat.pow_pos (by omega))]
    omega
theorem beL_rdB (l : List UInt8) : beL l.length (rdB l) = l := by
  induction l with
  | nil => rfl
  | cons x r ih =>
    have hp : 0 < 256 ^ r.length := Nat.pow_pos (by omega)
    have hr := rdB_lt r
    simp only [List.length_cons, beL, rdB]
    rw [beL_add _ _ _ _ (Nat.le_refl _), ih]
    congr 1
    rw [Nat.add_comm, Nat.add_mul_div_right _ _ hp, Nat.div_eq_of_lt hr, Nat.zero_add, byt_of]
theorem rdB_beL (w m : Nat) : rdB (beL w m) = m % 256 ^ w := by
  induction w with
  | zero => simp [beL, rdB, Nat.mod_one]
  | succ w ih => simp only [beL, rdB, beL_len, ih, byt_nat]; rw [Nat.mod_pow_succ, Nat.mul_comm, Nat.add_comm]

/-- The class of a number, or -1. -/
def vCls (n : Int) : Int := if n < 0 then -1 else if n ≤ 63 then 0 else if n ≤ 16383 then 1 else if n ≤ 1073741823 then 2 else if n ≤ 4611686018427387903 then 3 else -1
/-- The number of bytes of a class, and the weight of its mark. -/
def vWid (c : Int) : Nat := if c = 0 then 1 else if c = 1 then 2 else if c = 2 then 4 else 8
def vTop (c : Int) : Nat := if c = 0 then 64 else if c = 1 then 16384 else if c = 2 then 1073741824 else 4611686018427387904
theorem vCls_bd (n : Int) (h0 : 0 ≤ n) (h1 : n ≤ 4611686018427387903) : 0 ≤ vCls n ∧ vCls n ≤ 3 ∧ n < vTop (vCls n) := by
  unfold vCls
  rw [if_neg (by omega)]
  by_cases a : n ≤ 63
  · rw [if_pos a]; simp [vTop]; omega
  rw [if_neg a]
  by_cases b : n ≤ 16383
  · rw [if_pos b]; simp [vTop]; omega
  rw [if_neg b]
  by_cases c : n ≤ 1073741823
  · rw [if_pos c]; simp [vTop]; omega
  rw [if_neg c, if_pos h1]; simp [vTop]; omega
theorem vCls_neg (n : Int) : vCls n < 0 ↔ n < 0 ∨ 4611686018427387903 < n := by
  unfold vCls
  constructor
  · intro h
    by_cases h0 : n < 0
    · exact .inl h0
    · right
      rw [if_neg h0] at h
      by_cases a : n ≤ 63
      · rw [if_pos a] at h; omega
      rw [if_neg a] at h
      by_cases b : n ≤ 16383
      · rw [if_pos b] at h; omega
      rw [if_neg b] at h
      by_cases c : n ≤ 1073741823
      · rw [if_pos c] at h; omega
      rw [if_neg c] at h
      by_cases d : n ≤ 4611686018427387903
      · rw [if_pos d] at h; omega
      · omega
  · rintro (h | h)
    · rw [if_pos h]; omega
    · rw [if_neg (by omega), if_neg (by omega), if_neg (by omega), if_neg (by omega), if_neg (by omega)]; omega
theorem vWid_top (c : Int) (h0 : 0 ≤ c) (h1 : c ≤ 3) : 256 ^ vWid c = 4 * vTop c ∧ 256 ^ (vWid c - 1) * 64 = vTop c ∧ 1 ≤ vWid c ∧ vWid c ≤ 8 := by
  obtain rfl | rfl | rfl | rfl : c = 0 ∨ c = 1 ∨ c = 2 ∨ c = 3 := by omega
  all_goals simp [vWid, vTop]
/-- The variable-length encoding of a number. -/
def vEnc (n : Int) : List UInt8 := beL (vWid (vCls n)) (n.toNat + (vCls n).toNat * vTop (vCls n))
theorem vEnc_len (n : Int) : (vEnc n).length = vWid (vCls n) := beL_len _ _
/-- What stands at the head of some bytes: the number and its width. -/
def vDec : List UInt8 → Option (Int × Nat)
  | [] => none
  | x :: r => if r.length + 1 < vWid ((x.toNat / 64 : Nat) : Int) then none else
      if vCls ((rdB ((x :: r).take (vWid ((x.toNat / 64 : Nat) : Int))) % vTop ((x.toNat / 64 : Nat) : Int) : Nat) : Int) = ((x.toNat / 64 : Nat) : Int) then
        some (((rdB ((x :: r).take (vWid ((x.toNat / 64 : Nat) : Int))) % vTop ((x.toNat / 64 : Nat) : Int) : Nat) : Int), vWid ((x.toNat / 64 : Nat) : Int)) else none
theorem head_cls (x : UInt8) (r : List UInt8) (w : Nat) (hw : 1 ≤ w) (hl : w ≤ r.length + 1) : rdB ((x :: r).take w) / (256 ^ (w - 1) * 64) = x.toNat / 64 ∧ ((x :: r).take w).length = w := by
  obtain ⟨v, rfl⟩ : ∃ v, w = v + 1 := ⟨w - 1, by omega⟩
  have hlen : (r.take v).length = v := by simp; omega
  have hr := rdB_lt (r.take v)
  rw [hlen] at hr
  have hp : 0 < 256 ^ v := Nat.pow_pos (by omega)
  simp only [List.take_succ_cons, rdB, hlen, Nat.add_sub_cancel, List.length_cons]
  rw [← Nat.div_div_eq_div_mul, Nat.add_comm, Nat.add_mul_div_right _ _ hp, Nat.div_eq_of_lt hr, Nat.zero_add]
  exact ⟨rfl, trivial⟩
theorem vDec_enc (n : Int) (h0 : 0 ≤ n) (h1 : n ≤ 4611686018427387903) (r : List UInt8) : vDec (vEnc n ++ r) = some (n, vWid (vCls n)) := by
  obtain ⟨c0, c1, hn⟩ := vCls_bd n h0 h1
  obtain ⟨t1, t2, w1, w2⟩ := vWid_top (vCls n) c0 c1
  have hlen := vEnc_len n
  have hrd : rdB (vEnc n) = n.toNat + (vCls n).toNat * vTop (vCls n) := by
    unfold vEnc
    rw [rdB_beL, t1]
    apply Nat.mod_eq_of_lt
    have : (vCls n).toNat * vTop (vCls n) ≤ 3 * vTop (vCls n) := Nat.mul_le_mul_right _ (by omega)
    omega
  generalize hE : vEnc n = E at hlen hrd
  cases E with
  | nil => simp at hlen; omega
  | cons x E' =>
    have hlen' : E'.length + 1 = vWid (vCls n) := by simpa using hlen
    obtain ⟨k1, k2⟩ := head_cls x (E' ++ r) (vWid (vCls n)) w1 (by simp; omega)
    have ht : (x :: (E' ++ r)).take (vWid (vCls n)) = x :: E' := by
      rw [← List.cons_append, List.take_append_of_le_length (by simp; omega), List.take_of_length_le (by simp; omega)]
    rw [ht, t2, hrd] at k1
    have hT : 0 < vTop (vCls n) := by omega
    rw [Nat.add_mul_div_right _ _ hT, Nat.div_eq_of_lt (by omega), Nat.zero_add] at k1
    have hc : ((x.toNat / 64 : Nat) : Int) = vCls n := by omega
    have hm : (n.toNat + (vCls n).toNat * vTop (vCls n)) % vTop (vCls n) = n.toNat := by
      rw [Nat.add_mul_mod_self_right]; exact Nat.mod_eq_of_lt (by omega)
    simp only [List.cons_append, vDec]
    rw [hc, ht, hrd, hm, if_neg (by simp; omega), show ((n.toNat : Nat) : Int) = n from by omega, if_pos rfl]
theorem vDec_some (l : List UInt8) (n : Int) (w : Nat) (h : vDec l = some (n, w)) : 0 ≤ n ∧ n ≤ 4611686018427387903 ∧ w = vWid (vCls n) ∧ w ≤ l.length ∧ l.take w = vEnc n := by
  cases l with
  | nil => cases h
  | cons x r =>
    have hx : x.toNat < 256 := x.toNat_lt
    simp only [vDec] at h
    have hc0 : (0 : Int) ≤ ((x.toNat / 64 : Nat) : Int) := by omega
    have hc1 : ((x.toNat / 64 : Nat) : Int) ≤ 3 := by omega
    obtain ⟨c, hc⟩ : ∃ c : Int, ((x.toNat / 64 : Nat) : Int) = c := ⟨_, rfl⟩
    rw [hc] at h hc0 hc1
    obtain ⟨t1, t2, w1, w2⟩ := vWid_top c hc0 hc1
    by_cases hl : r.length + 1 < vWid c
    · rw [if_pos hl] at h; cases h
    rw [if_neg hl] at h
    obtain ⟨k1, k2⟩ := head_cls x r (vWid c) w1 (by omega)
    rw [t2] at k1
    have hb := beL_rdB ((x :: r).take (vWid c))
    rw [k2] at hb
    generalize rdB ((x :: r).take (vWid c)) = m at h k1 hb
    by_cases hk : vCls ((m % vTop c : Nat) : Int) = c
    · rw [if_pos hk] at h
      simp only [Option.some.injEq, Prod.mk.injEq] at h
      obtain ⟨rfl, rfl⟩ := h
      have hneg := vCls_neg ((m % vTop c : Nat) : Int)
      refine ⟨by omega, ?_, by rw [hk], by simp; omega, ?_⟩
      · by_cases h9 : ((m % vTop c : Nat) : Int) ≤ 4611686018427387903
        · exact h9
        · have := hneg.2 (.inr (by omega)); omega
      · unfold vEnc
        rw [hk, ← hb]
        congr 1
        have e := Nat.div_add_mod m (vTop c)
        rw [show c.toNat = m / vTop c from by omega, Int.toNat_natCast, Nat.mul_comm]
        omega
    · rw [if_neg hk] at h; cases h
theorem vEnc_ne (n : Int) : vEnc n ≠ [] := by
  intro h
  have := vEnc_len n
  rw [h] at this
  simp [vWid] at this
  split at this
  · omega
  · split at this
    · omega
    · split at this <;> omega
end Go.Proofs.YtgiekhohhogdiaaDoor
/- Plain law of frames: encoding, reading, and how they undo each other. -/
namespace Go.Proofs.YtgiekhohhogdiaaDoor
open Go.RowKit
set_option linter.unusedVariables false
set_option linter.unusedSimpArgs false

/-- A frame: type, stream, offset, text, fin, limit, code, uni, delay, ranges, sequence, retire, connection id. -/
structure Fr where
  ty : Int
  st : Int
  off : Int
  S : List UInt8
  fin : Bool
  mx : Int
  cd : Int
  uni : Bool
  dl : Int
  rg : List (Int × Int)
  sq : Int
  rt : Int
  cid : List UInt8
def Fr.zero (ty : Int) : Fr := ⟨ty, 0, 0, [], false, 0, 0, false, 0, [], 0, 0, []⟩
inductive Fld where
  | st | mx | cd | off | sq | dl
def Fr.get (f : Fr) : Fld → Int
  | .st => f.st
  | .mx => f.mx
  | .cd => f.cd
  | .off => f.off
  | .sq => f.sq
  | .dl => f.dl
def Fr.set (f : Fr) (x : Fld) (n : Int) : Fr :=
  match x with
  | .st => { f with st := n }
  | .mx => { f with mx := n }
  | .cd => { f with cd := n }
  | .off => { f with off := n }
  | .sq => { f with sq := n }
  | .dl => { f with dl := n }
/-- The kinds of parts. -/
inductive Pt where
  | int (most : Int) (x : Fld)
  | text (least most : Nat)
  | chal
  | cidp
  | uni
  | retire
  | ranges
def w64 (x : Int) : Int := IntKind.i64.wrap x
/-- A number of at most most, encoded. -/
def numE (n most : Int) : Option (List UInt8) := if most < n then none else if vCls n < 0 then none else some (vEnc n)
def rngE : Bool → Int → List (Int × Int) → Option (List UInt8)
  | _, _, [] => some []
  | i0, from', (f, t) :: r => if f < 0 ∨ 281474976710656 < t ∨ from' ≤ t then none else
      match numE (if i0 then w64 (t - 1) else w64 (w64 (from' - t) - 1)) 4611686018427387903, numE (w64 (w64 (t - f) - 1)) 4611686018427387903, rngE false f r with
      | some a, some b, some c => some (a ++ b ++ c)
      | _, _, _ => none
def putP : Pt → Fr → Option (List UInt8)
  | .int most x, f => numE (f.get x) most
  | .text least most, f => if f.S.length < least ∨ 1099511627776 < w64 (f.off + f.S.length) then none else (numE f.S.length most).map (· ++ f.S)
  | .chal, f => if f.S.length = 8 then some f.S else none
  | .cidp, f => if f.cid.length = 8 then some f.cid else none
  | .uni, f => some [if f.uni then 1 else 0]
  | .retire, f => numE f.rt f.sq
  | .ranges, f => if f.rg = [] then none else
      match numE f.rg.length 16, rngE true 281474976710658 f.rg with
      | some a, some b => some (a ++ b)
      | _, _ => none
def clrP : Pt → Fr → Fr
  | .int _ x, f => f.set x 0
  | .text _ _, f => { f with S := [] }
  | .chal, f => { f with S := [] }
  | .cidp, f => { f with cid := [] }
  | .uni, f => { f with uni := false }
  | .retire, f => { f with rt := 0 }
  | .ranges, f => { f with rg := [] }
/-- A number at the head, and what is left. -/
def numD (l : List UInt8) : Option (Int × List UInt8) := (vDec l).map fun p => (p.1, l.drop p.2)
/-- n ranges more, after acc. -/
def rngD : Nat → List (Int × Int) → List UInt8 → Option (List (Int × Int) × List UInt8)
  | 0, acc, l => some (acc, l)
  | n + 1, acc, l =>
    match numD l with
    | none => none
    | some (a, l1) =>
      match numD l1 with
      | none => none
      | some (b, l2) => rngD n (acc ++ [(w64 ((match acc.getLast? with | none => a | some p => w64 (w64 (p.1 - a) - 2)) - b), w64 ((match acc.getLast? with | none => a | some p => w64 (w64 (p.1 - a) - 2)) + 1))]) l2
def getP : Pt → Fr → List UInt8 → Option (Fr × List UInt8)
  | .int _ x, f, l => (numD l).map fun p => (f.set x p.1, p.2)
  | .text _ _, f, l => match numD l with
      | none => none
      | some (n, l1) => if (l1.length : Int) < n then none else some ({ f with S := l1.take n.toNat }, l1.drop n.toNat)
  | .chal, f, l => if l.length < 8 then none else some ({ f with S := l.take 8 }, l.drop 8)
  | .cidp, f, l => if l.length < 8 then none else some ({ f with cid := l.take 8 }, l.drop 8)
  | .uni, f, l => match l with
      | [] => none
      | x :: r => if 1 < x.toNat then none else some ({ f with uni := decide (x.toNat = 1) }, r)
  | .retire, f, l => (numD l).map fun p => ({ f with rt := p.1 }, p.2)
  | .ranges, f, l => match numD l with
      | none => none
      | some (n, l1) => if 16 < n then none else (rngD n.toNat f.rg l1).map fun p => ({ f with rg := p.1 }, p.2)
def mV : Int := 4611686018427387903
def mO : Int := 1099511627776
def mC : Int := 1073741823
/-- The parts of each type. -/
def tab (k : Int) : Option (List Pt) :=
  if k = 0 then some [] else if k = 1 then some [] else if k = 30 then some []
  else if k = 2 then some [.int mV .dl, .ranges] else if k = 4 then some [.int mV .st, .int mC .cd, .int mO .mx] else if k = 5 then some [.int mV .st, .int mC .cd]
  else if k = 6 then some [.int mO .off, .text 0 1024] else if k = 7 then some [.text 1 128] else if k = 8 then some [.int mV .st, .int mO .off, .text 0 1024]
  else if k = 16 then some [.int mV .mx] else if k = 20 then some [.int mV .mx] else if k = 17 then some [.int mV .st, .int mV .mx] else if k = 21 then some [.int mV .st, .int mV .mx]
  else if k = 18 then some [.uni, .int mV .mx] else if k = 22 then some [.uni, .int mV .mx]
  else if k = 24 then some [.int mV .sq, .retire, .cidp] else if k = 25 then some [.int mV .sq]
  else if k = 26 then some [.chal] else if k = 27 then some [.chal]
  else if k = 28 then some [.int mC .cd, .text 0 64] else if k = 29 then some [.int mC .cd, .text 0 64] else none
def puts : List Pt → Fr → Option (List UInt8)
  | [], _ => some []
  | p :: r, f => match putP p f, puts r f with
      | some a, some b => some (a ++ b)
      | _, _ => none
def clrs : List Pt → Fr → Fr
  | [], f => f
  | p :: r, f => clrs r (clrP p f)
def gets : List Pt → Fr → List UInt8 → Option (Fr × List UInt8)
  | [], f, l => some (f, l)
  | p :: r, f, l => match getP p f l with
      | none => none
      | some (g, l1) => gets r g l1
/-- A frame, encoded; none if it is not valid. -/
noncomputable def encF (f : Fr) : Option (List UInt8) := open Classical in
  match tab f.ty with
  | none => none
  | some l => if f.fin = true ∧ f.ty ≠ 8 then none else
      match puts l f with
      | none => none
      | some s => if clrs l { f with fin := false } = Fr.zero f.ty then some (byt (f.ty.toNat + if f.fin then 1 else 0) :: s) else none
/-- The frame that a type byte begins. -/
def headF (x : UInt8) : Fr := if x.toNat = 9 then { Fr.zero 8 with fin := true } else Fr.zero x.toNat
noncomputable def decF (l : List UInt8) : Option (Fr × List UInt8) :=
  match l with
  | [] => none
  | x :: r => match gets ((tab (headF x).ty).getD []) (headF x) r with
      | none => none
      | some (f, l1) => match encF f with
          | none => none
          | some _ => some (f, l1)

theorem numE_some {n most : Int} {a : List UInt8} (h : numE n most = some a) : n ≤ most ∧ 0 ≤ n ∧ n ≤ 4611686018427387903 ∧ a = vEnc n := by
  unfold numE at h
  by_cases h1 : most < n
  · rw [if_pos h1] at h; cases h
  rw [if_neg h1] at h
  by_cases h2 : vCls n < 0
  · rw [if_pos h2] at h; cases h
  rw [if_neg h2] at h
  have h3 : ¬ (n < 0 ∨ 4611686018427387903 < n) := fun h => h2 ((vCls_neg n).2 h)
  cases h
  exact ⟨by omega, by omega, by omega, rfl⟩
theorem numE_mk {n most : Int} (h : n ≤ most) (h0 : 0 ≤ n) (h1 : n ≤ 4611686018427387903) : numE n most = some (vEnc n) := by
  unfold numE
  rw [if_neg (by omega), if_neg (fun h => by have := (vCls_neg n).1 h; omega)]
theorem numD_enc (n : Int) (h0 : 0 ≤ n) (h1 : n ≤ 4611686018427387903) (r : List UInt8) : numD (vEnc n ++ r) = some (n, r) := by
  unfold numD
  rw [vDec_enc n h0 h1]
  simp [← vEnc_len]
theorem numD_some {l r : List UInt8} {n : Int} (h : numD l = some (n, r)) : 0 ≤ n ∧ n ≤ 4611686018427387903 ∧ l = vEnc n ++ r := by
  unfold numD at h
  cases hd : vDec l with
  | none => rw [hd] at h; cases h
  | some p =>
    obtain ⟨m, w⟩ := p
    rw [hd] at h
    simp only [Option.map_some, Option.some.injEq, Prod.mk.injEq] at h
    obtain ⟨rfl, rfl⟩ := h
    obtain ⟨h0, h1, h2, h3, h4⟩ := vDec_some l m w hd
    exact ⟨h0, h1, by rw [← h4, List.take_append_drop]⟩
theorem w64_in {x : Int} (h0 : -9223372036854775808 ≤ x) (h1 : x ≤ 9223372036854775807) : w64 x = x := IntWalk.i64_in _ ⟨h0, h1⟩
theorem w64_eq (x : Int) : w64 x = (x + 9223372036854775808) % 18446744073709551616 - 9223372036854775808 := by
  unfold w64 IntKind.wrap; simp [IntKind.signed, IntKind.bits]; omega

/-- Ranges that are encoded lie as they should. -/
theorem rngE_cons {i0 : Bool} {fr f t : Int} {r : List (Int × Int)} {s : List UInt8} (b0 : 0 ≤ fr) (b1 : fr ≤ 281474976710658) (bt : -9223372036854775808 ≤ t) (bf : f ≤ 9223372036854775807) (hi : i0 = true → fr = 281474976710658)
    (h : rngE i0 fr ((f, t) :: r) = some s) : 0 ≤ f ∧ f < t ∧ t ≤ 281474976710656 ∧ t < fr ∧ ∃ c, rngE false f r = some c ∧ s = vEnc (if i0 then t - 1 else fr - t - 1) ++ vEnc (t - f - 1) ++ c := by
  simp only [rngE] at h
  by_cases h1 : f < 0 ∨ 281474976710656 < t ∨ fr ≤ t
  · rw [if_pos h1] at h; cases h
  rw [if_neg h1] at h
  cases ha : numE (if i0 then w64 (t - 1) else w64 (w64 (fr - t) - 1)) 4611686018427387903 with
  | none => rw [ha] at h; simp at h
  | some a =>
    cases hb : numE (w64 (w64 (t - f) - 1)) 4611686018427387903 with
    | none => rw [ha, hb] at h; simp at h
    | some b =>
      cases hc : rngE false f r with
      | none => rw [ha, hb, hc] at h; simp at h
      | some c =>
        rw [ha, hb, hc] at h
        simp only [Option.some.injEq] at h
        obtain ⟨a1, a2, a3, rfl⟩ := numE_some ha
        obtain ⟨b1', b2, b3, rfl⟩ := numE_some hb
        have ht : -4611686018427387904 ≤ t := by
          cases i0
          · simp only [Bool.false_eq_true, if_false] at a2 a3
            rw [w64_eq, w64_eq] at a2 a3; omega
          · simp only [if_true] at a2 a3
            rw [w64_eq] at a2 a3; omega
        have hft : f < t := by rw [w64_eq, w64_eq] at b2 b3; omega
        have e1 : w64 (t - 1) = t - 1 := w64_in (by omega) (by omega)
        have e2 : w64 (w64 (fr - t) - 1) = fr - t - 1 := by rw [w64_in (x := fr - t) (by omega) (by omega)]; exact w64_in (by omega) (by omega)
        have e3 : w64 (w64 (t - f) - 1) = t - f - 1 := by rw [w64_in (x := t - f) (by omega) (by omega)]; exact w64_in (by omega) (by omega)
        rw [e1, e2, e3] at h
        exact ⟨by omega, hft, by omega, by omega, c, rfl, h.symm⟩
/-- Ranges of numbers that the machine can hold. -/
def InR (L : List (Int × Int)) : Prop := ∀ p ∈ L, -9223372036854775808 ≤ p.1 ∧ p.1 ≤ 9223372036854775807 ∧ -9223372036854775808 ≤ p.2 ∧ p.2 ≤ 9223372036854775807
theorem rngD_enc (r : List UInt8) (L : List (Int × Int)) : ∀ (acc : List (Int × Int)) (fr : Int) (s : List UInt8), 0 ≤ fr → fr ≤ 281474976710658 → InR L →
    (match acc.getLast? with | none => fr = 281474976710658 | some p => fr = p.1) → rngE acc.isEmpty fr L = some s → rngD L.length acc (s ++ r) = some (acc ++ L, r) := by
  induction L with
  | nil => intro acc fr s b0 b1 hR ha h; simp only [rngE, Option.some.injEq] at h; subst h; simp [rngD]
  | cons p L ih =>
    obtain ⟨f, t⟩ := p
    intro acc fr s b0 b1 hR ha h
    have hp := hR (f, t) (by simp)
    simp only at hp
    have hi : acc.isEmpty = true → fr = 281474976710658 := fun he => by
      cases acc with
      | nil => simpa using ha
      | cons x y => simp at he
    obtain ⟨c1, c2, c3, c4, c, hc, rfl⟩ := rngE_cons b0 b1 hp.2.2.1 hp.2.1 hi h
    have hfst : 0 ≤ (if acc.isEmpty = true then t - 1 else fr - t - 1) ∧ (if acc.isEmpty = true then t - 1 else fr - t - 1) ≤ 4611686018427387903 := by
      split <;> omega
    have hlast : (match acc.getLast? with | none => (if acc.isEmpty = true then t - 1 else fr - t - 1) | some p => w64 (w64 (p.1 - (if acc.isEmpty = true then t - 1 else fr - t - 1)) - 2)) = t - 1 := by
      cases hg : acc.getLast? with
      | none =>
        have : acc = [] := List.getLast?_eq_none_iff.1 hg
        subst this
        rfl
      | some q =>
        rw [hg] at ha
        simp only at ha
        have he : acc.isEmpty = false := by
          cases acc with
          | nil => simp at hg
          | cons x y => rfl
        simp only [he, Bool.false_eq_true, if_false]
        rw [w64_in (x := q.1 - (fr - t - 1)) (by omega) (by omega), w64_in (x := q.1 - (fr - t - 1) - 2) (by omega) (by omega)]; omega
    simp only [List.length_cons, rngD, List.append_assoc]
    rw [numD_enc _ hfst.1 hfst.2]
    simp only
    rw [numD_enc _ (by omega) (by omega)]
    simp only
    rw [hlast, w64_in (x := t - 1 - (t - f - 1)) (by omega) (by omega), w64_in (x := t - 1 + 1) (by omega) (by omega), show t - 1 - (t - f - 1) = f from by omega, show t - 1 + 1 = t from by omega]
    have hem : (acc ++ [(f, t)]).isEmpty = false := by simp
    have := ih (acc ++ [(f, t)]) f c c1 (by omega) (fun q hq => hR q (by simp [hq])) (by simp) (by rw [hem]; exact hc)
    rw [this]; simp
theorem rngD_some (n : Nat) : ∀ (acc out : List (Int × Int)) (l r : List UInt8), rngD n acc l = some (out, r) → InR acc →
    InR out ∧ ∃ L, out = acc ++ L ∧ L.length = n ∧ ∀ (fr : Int) (s : List UInt8), 0 ≤ fr → fr ≤ 281474976710658 → (match acc.getLast? with | none => fr = 281474976710658 | some p => fr = p.1) → rngE acc.isEmpty fr L = some s → l = s ++ r := by
  induction n with
  | zero =>
    intro acc out l r h hR
    simp only [rngD, Option.some.injEq, Prod.mk.injEq] at h
    obtain ⟨rfl, rfl⟩ := h
    exact ⟨hR, [], by simp, rfl, fun fr s _ _ _ hs => by simp only [rngE, Option.some.injEq] at hs; subst hs; rfl⟩
  | succ n ih =>
    intro acc out l r h hR
    simp only [rngD] at h
    cases ha : numD l with
    | none => rw [ha] at h; simp at h
    | some p =>
      obtain ⟨a, l1⟩ := p
      rw [ha] at h
      simp only at h
      cases hb : numD l1 with
      | none => rw [hb] at h; simp at h
      | some q =>
        obtain ⟨b, l2⟩ := q
        rw [hb] at h
        simp only at h
        obtain ⟨a0, a1, rfl⟩ := numD_some ha
        obtain ⟨b0, b1, rfl⟩ := numD_some hb
        generalize hX : (match acc.getLast? with | none => a | some p => w64 (w64 (p.1 - a) - 2)) = X at h
        have hin : InR (acc ++ [(w64 (X - b), w64 (X + 1))]) := fun q hq => by
          rcases List.mem_append.1 hq with hq | hq
          · exact hR q hq
          · simp only [List.mem_singleton] at hq
            subst hq
            simp only [w64_eq]; omega
        obtain ⟨i1, L, rfl, i3, i4⟩ := ih _ _ _ _ h hin
        refine ⟨i1, (w64 (X - b), w64 (X + 1)) :: L, by simp, by simp [i3], fun fr s f0 f1 hf hs => ?_⟩
        have hi : acc.isEmpty = true → fr = 281474976710658 := fun he => by
          cases acc with
          | nil => simpa using hf
          | cons x y => simp at he
        have hw1 : ∀ x, -9223372036854775808 ≤ w64 x ∧ w64 x ≤ 9223372036854775807 := fun x => by rw [w64_eq]; omega
        obtain ⟨c1, c2, c3, c4, c, hc, rfl⟩ := rngE_cons f0 f1 (hw1 _).1 (hw1 _).2 hi hs
        have h4 := i4 (w64 (X - b)) c c1 (by omega) (by simp) (by rw [show (acc ++ [(w64 (X - b), w64 (X + 1))]).isEmpty = false from by simp]; exact hc)
        rw [h4]
        have hXb : -9223372036854775808 ≤ X ∧ X ≤ 9223372036854775807 := by
          rw [← hX]
          cases acc.getLast? with
          | none => simp only; omega
          | some p => simp only; exact hw1 _
        have e2 : w64 (X + 1) = X + 1 := by
          rw [w64_eq] at c2 c3 c1 ⊢
          rw [w64_eq] at c2
          omega
        have e1 : w64 (X - b) = X - b := by
          rw [e2] at c2 c3 c4
          rw [w64_eq] at c1 c2 ⊢; omega
        have e3 : (if acc.isEmpty = true then w64 (X + 1) - 1 else fr - w64 (X + 1) - 1) = a := by
          rw [e2]
          cases hg : acc.getLast? with
          | none =>
            have : acc = [] := List.getLast?_eq_none_iff.1 hg
            subst this
            simp at hX ⊢; omega
          | some q =>
            have he : acc.isEmpty = false := by
              cases acc with
              | nil => simp at hg
              | cons x y => rfl
            rw [hg] at hX hf
            simp only at hX hf
            simp only [he, Bool.false_eq_true, if_false]
            rw [e1] at c1
            rw [e2] at c4
            rw [w64_eq, w64_eq] at hX
            omega
        rw [e3, show w64 (X + 1) - w64 (X - b) - 1 = b from by rw [e1, e2]; omega]
        simp
end Go.Proofs.YtgiekhohhogdiaaDoor
/- Plain law of frames: what is encoded is read back, and what is read is an encoding. -/
namespace Go.Proofs.YtgiekhohhogdiaaDoor
open Go.RowKit
set_option linter.unusedVariables false
set_option linter.unusedSimpArgs false

/-- The field of a part. -/
def Pt.code : Pt → Nat
  | .int _ .st => 0
  | .int _ .mx => 1
  | .int _ .cd => 2
  | .int _ .off => 3
  | .int _ .sq => 4
  | .int _ .dl => 5
  | .text _ _ => 6
  | .chal => 6
  | .cidp => 7
  | .uni => 8
  | .retire => 9
  | .ranges => 10
def agr : Pt → Fr → Fr → Prop
  | .int _ x, g, f => f.get x = g.get x
  | .text _ _, g, f => f.S = g.S
  | .chal, g, f => f.S = g.S
  | .cidp, g, f => f.cid = g.cid
  | .uni, g, f => f.uni = g.uni
  | .retire, g, f => f.rt = g.rt
  | .ranges, g, f => f.rg = g.rg
theorem agr.refl (p : Pt) (g : Fr) : agr p g g := by cases p <;> rfl
theorem agr.trans {p : Pt} {a b c : Fr} (h : agr p a b) (k : agr p b c) : agr p a c := by
  cases p <;> exact Eq.trans k h
def cpP : Pt → Fr → Fr → Fr
  | .int _ x, f, g => g.set x (f.get x)
  | .text _ _, f, g => { g with S := f.S }
  | .chal, f, g => { g with S := f.S }
  | .cidp, f, g => { g with cid := f.cid }
  | .uni, f, g => { g with uni := f.uni }
  | .retire, f, g => { g with rt := f.rt }
  | .ranges, f, g => { g with rg := f.rg }
def cps : List Pt → Fr → Fr → Fr
  | [], _, g => g
  | p :: r, f, g => cps r f (cpP p f g)
def Pt.isR : Pt → Bool
  | .ranges => true
  | _ => false
/-- Ranges stand last. -/
def rgLast : List Pt → Bool
  | [] => true
  | p :: r => (!p.isR || r.isEmpty) && rgLast r
theorem set_rg (g : Fr) (x : Fld) (n : Int) : (g.set x n).rg = g.rg := by cases x <;> rfl
theorem cpP_rg (p : Pt) (f g : Fr) (h : p.isR = false) : (cpP p f g).rg = g.rg := by
  cases p <;> first | rfl | exact set_rg _ _ _ | cases h
theorem get_put (p : Pt) (f g : Fr) (bs r : List UInt8) (h : putP p f = some bs) (hg : p.isR = true → g.rg = []) (hR : InR f.rg) : getP p g (bs ++ r) = some (cpP p f g, r) := by
  cases p with
  | int most x =>
    obtain ⟨h1, h2, h3, rfl⟩ := numE_some h
    simp only [getP, cpP]
    rw [numD_enc _ h2 h3]; rfl
  | text least most =>
    simp only [putP] at h
    by_cases c : f.S.length < least ∨ 1099511627776 < w64 (f.off + f.S.length)
    · rw [if_pos c] at h; cases h
    rw [if_neg c] at h
    cases hn : numE f.S.length most with
    | none => rw [hn] at h; cases h
    | some a =>
      rw [hn] at h
      simp only [Option.map_some, Option.some.injEq] at h
      subst h
      obtain ⟨h1, h2, h3, rfl⟩ := numE_some hn
      simp only [getP, cpP, List.append_assoc]
      rw [numD_enc _ h2 h3]
      simp only
      rw [if_neg (by simp; omega)]
      simp
  | chal =>
    simp only [putP] at h
    by_cases c : f.S.length = 8
    · rw [if_pos c] at h; cases h
      simp only [getP, cpP]
      rw [if_neg (by simp; omega), ← c]; simp
    · rw [if_neg c] at h; cases h
  | cidp =>
    simp only [putP] at h
    by_cases c : f.cid.length = 8
    · rw [if_pos c] at h; cases h
      simp only [getP, cpP]
      rw [if_neg (by simp; omega), ← c]; simp
    · rw [if_neg c] at h; cases h
  | uni =>
    simp only [putP, Option.some.injEq] at h
    subst h
    cases hu : f.uni <;> simp [getP, cpP, hu]
  | retire =>
    obtain ⟨h1, h2, h3, rfl⟩ := numE_some h
    simp only [getP, cpP]
    rw [numD_enc _ h2 h3]; rfl
  | ranges =>
    simp only [putP] at h
    by_cases c : f.rg = []
    · rw [if_pos c] at h; cases h
    rw [if_neg c] at h
    cases ha : numE f.rg.length 16 with
    | none => rw [ha] at h; simp at h
    | some a =>
      cases hb : rngE true 281474976710658 f.rg with
      | none => rw [ha, hb] at h; simp at h
      | some b =>
        rw [ha, hb] at h
        simp only [Option.some.injEq] at h
        subst h
        obtain ⟨h1, h2, h3, rfl⟩ := numE_some ha
        have hd := rngD_enc r f.rg [] 281474976710658 b (by omega) (by omega) hR rfl hb
        simp only [getP, cpP, List.append_assoc]
        rw [numD_enc _ h2 h3, hg rfl]
        simp only
        rw [if_neg (by omega), show (f.rg.length : Int).toNat = f.rg.length from by omega, hd]
        simp
theorem gets_puts (l : List Pt) : ∀ (f g : Fr) (bs r : List UInt8), puts l f = some bs → rgLast l = true → ((∃ p ∈ l, p.isR = true) → g.rg = []) → InR f.rg → gets l g (bs ++ r) = some (cps l f g, r) := by
  induction l with
  | nil => intro f g bs r h _ _ _; simp only [puts, Option.some.injEq] at h; subst h; rfl
  | cons p l ih =>
    intro f g bs r h hl hg hR
    simp only [puts] at h
    cases ha : putP p f with
    | none => rw [ha] at h; simp at h
    | some a =>
      cases hb : puts l f with
      | none => rw [ha, hb] at h; simp at h
      | some b =>
        rw [ha, hb] at h
        simp only [Option.some.injEq] at h
        subst h
        simp only [rgLast, Bool.and_eq_true, Bool.or_eq_true, Bool.not_eq_true'] at hl
        simp only [gets, cps, List.append_assoc]
        rw [get_put p f g a (b ++ r) ha (fun h => hg ⟨p, by simp, h⟩) hR]
        simp only
        refine ih f _ b r hb hl.2 (fun hx => ?_) hR
        rcases hl.1 with h1 | h1
        · rw [cpP_rg _ _ _ h1]
          obtain ⟨q, hq, hq2⟩ := hx
          exact hg ⟨q, by simp [hq], hq2⟩
        · obtain ⟨q, hq, _⟩ := hx
          have := List.isEmpty_iff.1 h1
          subst this
          simp at hq
/-- The rows of the table. -/
theorem tab_ind {P : Int → List Pt → Prop} (h0 : P 0 []) (h1 : P 1 []) (h30 : P 30 []) (h2 : P 2 [.int mV .dl, .ranges]) (h4 : P 4 [.int mV .st, .int mC .cd, .int mO .mx]) (h5 : P 5 [.int mV .st, .int mC .cd]) (h6 : P 6 [.int mO .off, .text 0 1024]) (h7 : P 7 [.text 1 128]) (h8 : P 8 [.int mV .st, .int mO .off, .text 0 1024]) (h16 : P 16 [.int mV .mx]) (h20 : P 20 [.int mV .mx]) (h17 : P 17 [.int mV .st, .int mV .mx]) (h21 : P 21 [.int mV .st, .int mV .mx]) (h18 : P 18 [.uni, .int mV .mx]) (h22 : P 22 [.uni, .int mV .mx]) (h24 : P 24 [.int mV .sq, .retire, .cidp]) (h25 : P 25 [.int mV .sq]) (h26 : P 26 [.chal]) (h27 : P 27 [.chal]) (h28 : P 28 [.int mC .cd, .text 0 64]) (h29 : P 29 [.int mC .cd, .text 0 64]) (k : Int) (l : List Pt) (h : tab k = some l) : P k l := by
  unfold tab at h
  by_cases c : k = 0
  · rw [if_pos c] at h; cases h; rw [c]; exact h0
  rw [if_neg c] at h; clear c
  by_cases c : k = 1
  · rw [if_pos c] at h; cases h; rw [c]; exact h1
  rw [if_neg c] at h; clear c
  by_cases c : k = 30
  · rw [if_pos c] at h; cases h; rw [c]; exact h30
  rw [if_neg c] at h; clear c
  by_cases c : k = 2
  · rw [if_pos c] at h; cases h; rw [c]; exact h2
  rw [if_neg c] at h; clear c
  by_cases c : k = 4
  · rw [if_pos c] at h; cases h; rw [c]; exact h4
  rw [if_neg c] at h; clear c
  by_cases c : k = 5
  · rw [if_pos c] at h; cases h; rw [c]; exact h5
  rw [if_neg c] at h; clear c
  by_cases c : k = 6
  · rw [if_pos c] at h; cases h; rw [c]; exact h6
  rw [if_neg c] at h; clear c
  by_cases c : k = 7
  · rw [if_pos c] at h; cases h; rw [c]; exact h7
  rw [if_neg c] at h; clear c
  by_cases c : k = 8
  · rw [if_pos c] at h; cases h; rw [c]; exact h8
  rw [if_neg c] at h; clear c
  by_cases c : k = 16
  · rw [if_pos c] at h; cases h; rw [c]; exact h16
  rw [if_neg c] at h; clear c
  by_cases c : k = 20
  · rw [if_pos c] at h; cases h; rw [c]; exact h20
  rw [if_neg c] at h; clear c
  by_cases c : k = 17
  · rw [if_pos c] at h; cases h; rw [c]; exact h17
  rw [if_neg c] at h; clear c
  by_cases c : k = 21
  · rw [if_pos c] at h; cases h; rw [c]; exact h21
  rw [if_neg c] at h; clear c
  by_cases c : k = 18
  · rw [if_pos c] at h; cases h; rw [c]; exact h18
  rw [if_neg c] at h; clear c
  by_cases c : k = 22
  · rw [if_pos c] at h; cases h; rw [c]; exact h22
  rw [if_neg c] at h; clear c
  by_cases c : k = 24
  · rw [if_pos c] at h; cases h; rw [c]; exact h24
  rw [if_neg c] at h; clear c
  by_cases c : k = 25
  · rw [if_pos c] at h; cases h; rw [c]; exact h25
  rw [if_neg c] at h; clear c
  by_cases c : k = 26
  · rw [if_pos c] at h; cases h; rw [c]; exact h26
  rw [if_neg c] at h; clear c
  by_cases c : k = 27
  · rw [if_pos c] at h; cases h; rw [c]; exact h27
  rw [if_neg c] at h; clear c
  by_cases c : k = 28
  · rw [if_pos c] at h; cases h; rw [c]; exact h28
  rw [if_neg c] at h; clear c
  by_cases c : k = 29
  · rw [if_pos c] at h; cases h; rw [c]; exact h29
  rw [if_neg c] at h; clear c
  cases h
theorem tab_cases {k : Int} {l : List Pt} (h : tab k = some l) : 0 ≤ k ∧ k ≤ 30 ∧ k ≠ 9 ∧ rgLast l = true ∧ (l.map Pt.code).Nodup ∧ l.length ≤ 3 := by
  refine tab_ind (P := fun k l => 0 ≤ k ∧ k ≤ 30 ∧ k ≠ 9 ∧ rgLast l = true ∧ (l.map Pt.code).Nodup ∧ l.length ≤ 3) ?_ ?_ ?_ ?_ ?_ ?_ ?_ ?_ ?_ ?_ ?_ ?_ ?_ ?_ ?_ ?_ ?_ ?_ ?_ ?_ ?_ k l h
  all_goals exact ⟨by omega, by omega, by omega, rfl, by simp [Pt.code], by simp⟩
theorem clear_back {f : Fr} {l : List Pt} (h : tab f.ty = some l) (hc : clrs l { f with fin := false } = Fr.zero f.ty) : cps l f { Fr.zero f.ty with fin := f.fin } = f := by
  revert f
  have key : ∀ k, tab k = some l → ∀ f : Fr, f.ty = k → clrs l { f with fin := false } = Fr.zero f.ty → cps l f { Fr.zero f.ty with fin := f.fin } = f := by
    intro k hk
    refine tab_ind (P := fun k l => ∀ f : Fr, f.ty = k → clrs l { f with fin := false } = Fr.zero f.ty → cps l f { Fr.zero f.ty with fin := f.fin } = f) ?_ ?_ ?_ ?_ ?_ ?_ ?_ ?_ ?_ ?_ ?_ ?_ ?_ ?_ ?_ ?_ ?_ ?_ ?_ ?_ ?_ k l hk
    all_goals
      rintro ⟨ty, st, off, S, fin, mx, cd, uni, dl, rg, sq, rt, cid⟩ hty hc
      simp only [clrs, clrP, Fr.set, Fr.zero, Fr.mk.injEq] at hc
      simp only [cps, cpP, Fr.set, Fr.get, Fr.zero, Fr.mk.injEq]
      simp_all
  intro f h hc
  exact key f.ty h f rfl hc
theorem headF_byt {f : Fr} {l : List Pt} (h : tab f.ty = some l) (hf : ¬ (f.fin = true ∧ f.ty ≠ 8)) : headF (byt (f.ty.toNat + if f.fin then 1 else 0)) = { Fr.zero f.ty with fin := f.fin } := by
  obtain ⟨h0, h1, h2, _⟩ := tab_cases h
  unfold headF
  rw [byt_nat]
  cases hb : f.fin with
  | false =>
    have e : (f.ty.toNat + 0) % 256 = f.ty.toNat := by omega
    simp only [Bool.false_eq_true, if_false, e]
    rw [if_neg (by omega), show ((f.ty.toNat : Nat) : Int) = f.ty from by omega]
    rfl
  | true =>
    have h8 : f.ty = 8 := by
      by_cases h : f.ty = 8
      · exact h
      · exact absurd ⟨hb, h⟩ hf
    rw [h8]; rfl
theorem encF_some {f : Fr} {s : List UInt8} (h : encF f = some s) : ∃ l bs, tab f.ty = some l ∧ ¬ (f.fin = true ∧ f.ty ≠ 8) ∧ puts l f = some bs ∧ clrs l { f with fin := false } = Fr.zero f.ty ∧ s = byt (f.ty.toNat + if f.fin then 1 else 0) :: bs := by
  unfold encF at h
  cases ht : tab f.ty with
  | none => rw [ht] at h; cases h
  | some l =>
    rw [ht] at h
    simp only at h
    by_cases c : f.fin = true ∧ f.ty ≠ 8
    · rw [if_pos c] at h; cases h
    rw [if_neg c] at h
    cases hp : puts l f with
    | none => rw [hp] at h; cases h
    | some bs =>
      rw [hp] at h
      simp only at h
      by_cases hc : clrs l { f with fin := false } = Fr.zero f.ty
      · rw [if_pos hc] at h
        cases h
        exact ⟨l, bs, rfl, c, hp, hc, rfl⟩
      · rw [if_neg hc] at h; cases h
theorem encF_mk {f : Fr} {l : List Pt} {bs : List UInt8} (ht : tab f.ty = some l) (c : ¬ (f.fin = true ∧ f.ty ≠ 8)) (hp : puts l f = some bs) (hc : clrs l { f with fin := false } = Fr.zero f.ty) : encF f = some (byt (f.ty.toNat + if f.fin then 1 else 0) :: bs) := by
  unfold encF
  rw [ht]
  simp only
  rw [if_neg c, hp]
  simp only
  rw [if_pos hc]
/-- What is encoded is read back. -/
theorem dec_enc {f : Fr} {s : List UInt8} (h : encF f = some s) (hR : InR f.rg) (r : List UInt8) : decF (s ++ r) = some (f, r) := by
  obtain ⟨l, bs, ht, hf, hp, hc, rfl⟩ := encF_some h
  obtain ⟨_, _, _, h4, _, _⟩ := tab_cases ht
  have hg := gets_puts l f { Fr.zero f.ty with fin := f.fin } bs r hp h4 (fun _ => rfl) hR
  rw [clear_back ht hc] at hg
  simp only [List.cons_append, decF]
  rw [headF_byt ht hf]
  simp only [Fr.zero] at hg ⊢
  rw [ht]
  simp only [Option.getD_some]
  rw [hg]
  simp only
  rw [h]

theorem get_ty {p : Pt} {g g' : Fr} {s s' : List UInt8} (h : getP p g s = some (g', s')) : g'.ty = g.ty ∧ g'.fin = g.fin := by
  cases p with
  | int most x =>
    simp only [getP, Option.map_eq_some_iff, Prod.mk.injEq] at h
    obtain ⟨q, _, rfl, _⟩ := h
    cases x <;> exact ⟨rfl, rfl⟩
  | text least most =>
    simp only [getP] at h
    split at h
    · cases h
    · split at h
      · cases h
      · simp only [Option.some.injEq, Prod.mk.injEq] at h; obtain ⟨rfl, _⟩ := h; exact ⟨rfl, rfl⟩
  | chal =>
    simp only [getP] at h
    split at h
    · cases h
    · simp only [Option.some.injEq, Prod.mk.injEq] at h; obtain ⟨rfl, _⟩ := h; exact ⟨rfl, rfl⟩
  | cidp =>
    simp only [getP] at h
    split at h
    · cases h
    · simp only [Option.some.injEq, Prod.mk.injEq] at h; obtain ⟨rfl, _⟩ := h; exact ⟨rfl, rfl⟩
  | uni =>
    simp only [getP] at h
    split at h
    · cases h
    · split at h
      · cases h
      · simp only [Option.some.injEq, Prod.mk.injEq] at h; obtain ⟨rfl, _⟩ := h; exact ⟨rfl, rfl⟩
  | retire =>
    simp only [getP, Option.map_eq_some_iff, Prod.mk.injEq] at h
    obtain ⟨q, _, rfl, _⟩ := h
    exact ⟨rfl, rfl⟩
  | ranges =>
    simp only [getP] at h
    split at h
    · cases h
    · split at h
      · cases h
      · simp only [Option.map_eq_some_iff, Prod.mk.injEq] at h
        obtain ⟨q, _, rfl, _⟩ := h
        exact ⟨rfl, rfl⟩
theorem get_keeps {p q : Pt} {g g' : Fr} {s s' : List UInt8} (h : getP q g s = some (g', s')) (hd : p.code ≠ q.code) : agr p g g' := by
  cases q with
  | int most x =>
    simp only [getP, Option.map_eq_some_iff, Prod.mk.injEq] at h
    obtain ⟨z, _, rfl, _⟩ := h
    cases p with
    | int m y => cases x <;> cases y <;> first | rfl | exact absurd rfl hd
    | _ => cases x <;> rfl
  | text least most =>
    simp only [getP] at h
    split at h
    · cases h
    · split at h
      · cases h
      · simp only [Option.some.injEq, Prod.mk.injEq] at h; obtain ⟨rfl, _⟩ := h
        cases p with
        | int m y => cases y <;> rfl
        | text a b => exact absurd rfl hd
        | chal => exact absurd rfl hd
        | _ => rfl
  | chal =>
    simp only [getP] at h
    split at h
    · cases h
    · simp only [Option.some.injEq, Prod.mk.injEq] at h; obtain ⟨rfl, _⟩ := h
      cases p with
      | int m y => cases y <;> rfl
      | text a b => exact absurd rfl hd
      | chal => exact absurd rfl hd
      | _ => rfl
  | cidp =>
    simp only [getP] at h
    split at h
    · cases h
    · simp only [Option.some.injEq, Prod.mk.injEq] at h; obtain ⟨rfl, _⟩ := h
      cases p with
      | int m y => cases y <;> rfl
      | cidp => exact absurd rfl hd
      | _ => rfl
  | uni =>
    simp only [getP] at h
    split at h
    · cases h
    · split at h
      · cases h
      · simp only [Option.some.injEq, Prod.mk.injEq] at h; obtain ⟨rfl, _⟩ := h
        cases p with
        | int m y => cases y <;> rfl
        | uni => exact absurd rfl hd
        | _ => rfl
  | retire =>
    simp only [getP, Option.map_eq_some_iff, Prod.mk.injEq] at h
    obtain ⟨z, _, rfl, _⟩ := h
    cases p with
    | int m y => cases y <;> rfl
    | retire => exact absurd rfl hd
    | _ => rfl
  | ranges =>
    simp only [getP] at h
    split at h
    · cases h
    · split at h
      · cases h
      · simp only [Option.map_eq_some_iff, Prod.mk.injEq] at h
        obtain ⟨z, _, rfl, _⟩ := h
        cases p with
        | int m y => cases y <;> rfl
        | ranges => exact absurd rfl hd
        | _ => rfl
theorem get_rg {q : Pt} {g g' : Fr} {s s' : List UInt8} (h : getP q g s = some (g', s')) (hR : InR g.rg) : InR g'.rg ∧ (q.isR = false → g'.rg = g.rg) := by
  by_cases hq : q.isR = true
  · cases q with
    | ranges =>
      simp only [getP] at h
      split at h
      · cases h
      · split at h
        · cases h
        · simp only [Option.map_eq_some_iff, Prod.mk.injEq] at h
          obtain ⟨z, hz, rfl, _⟩ := h
          obtain ⟨z1, z2⟩ := z
          exact ⟨(rngD_some _ _ _ _ _ hz hR).1, fun h => by cases h⟩
    | _ => cases hq
  · have hd : Pt.ranges.code ≠ q.code := by
      intro he
      cases q with
      | int m x => cases x <;> cases he
      | ranges => exact hq rfl
      | _ => cases he
    have : g'.rg = g.rg := get_keeps (p := .ranges) h hd
    rw [this]
    exact ⟨hR, fun _ => rfl⟩
theorem gets_keeps (l : List Pt) : ∀ {p : Pt} {g f : Fr} {s t : List UInt8}, gets l g s = some (f, t) → (∀ q ∈ l, p.code ≠ q.code) → agr p g f := by
  induction l with
  | nil => intro p g f s t h _; simp only [gets, Option.some.injEq, Prod.mk.injEq] at h; obtain ⟨rfl, _⟩ := h; exact agr.refl _ _
  | cons q l ih =>
    intro p g f s t h hd
    simp only [gets] at h
    cases hg : getP q g s with
    | none => rw [hg] at h; cases h
    | some z =>
      obtain ⟨g', s'⟩ := z
      rw [hg] at h
      exact (get_keeps hg (hd q (by simp))).trans (ih h fun x hx => hd x (by simp [hx]))
theorem gets_ty (l : List Pt) : ∀ {g f : Fr} {s t : List UInt8}, gets l g s = some (f, t) → InR g.rg → f.ty = g.ty ∧ f.fin = g.fin ∧ InR f.rg := by
  induction l with
  | nil => intro g f s t h hR; simp only [gets, Option.some.injEq, Prod.mk.injEq] at h; obtain ⟨rfl, _⟩ := h; exact ⟨rfl, rfl, hR⟩
  | cons q l ih =>
    intro g f s t h hR
    simp only [gets] at h
    cases hg : getP q g s with
    | none => rw [hg] at h; cases h
    | some z =>
      obtain ⟨g', s'⟩ := z
      rw [hg] at h
      obtain ⟨a, b, c⟩ := ih h (get_rg hg hR).1
      obtain ⟨d, e⟩ := get_ty hg
      exact ⟨a.trans d, b.trans e, c⟩
/-- What a part has read is what it would write. -/
theorem put_back {p : Pt} {g g' f : Fr} {s s' a : List UInt8} (h : getP p g s = some (g', s')) (hA : agr p g' f) (hp : putP p f = some a) (hr : p.isR = true → g.rg = []) : s = a ++ s' := by
  cases p with
  | int most x =>
    simp only [getP, Option.map_eq_some_iff, Prod.mk.injEq] at h
    obtain ⟨z, hz, rfl, rfl⟩ := h
    obtain ⟨n, t⟩ := z
    obtain ⟨n0, n1, rfl⟩ := numD_some hz
    obtain ⟨h1, h2, h3, rfl⟩ := numE_some hp
    have : f.get x = n := by
      have : f.get x = (g.set x n).get x := hA
      rw [this]; cases x <;> rfl
    rw [this]
  | text least most =>
    simp only [getP] at h
    cases hz : numD s with
    | none => rw [hz] at h; cases h
    | some z =>
      obtain ⟨n, t⟩ := z
      obtain ⟨n0, n1, rfl⟩ := numD_some hz
      rw [hz] at h
      simp only at h
      by_cases c : (t.length : Int) < n
      · rw [if_pos c] at h; cases h
      rw [if_neg c] at h
      simp only [Option.some.injEq, Prod.mk.injEq] at h
      obtain ⟨rfl, rfl⟩ := h
      have hS : f.S = t.take n.toNat := hA
      have hlen : (f.S.length : Int) = n := by rw [hS]; simp; omega
      simp only [putP] at hp
      by_cases c2 : f.S.length < least ∨ 1099511627776 < w64 (f.off + f.S.length)
      · rw [if_pos c2] at hp; cases hp
      rw [if_neg c2] at hp
      cases hn : numE f.S.length most with
      | none => rw [hn] at hp; cases hp
      | some b =>
        rw [hn] at hp
        simp only [Option.map_some, Option.some.injEq] at hp
        subst hp
        obtain ⟨h1, h2, h3, rfl⟩ := numE_some hn
        rw [hlen, hS, List.append_assoc, List.take_append_drop]
  | chal =>
    simp only [getP] at h
    by_cases c : s.length < 8
    · rw [if_pos c] at h; cases h
    rw [if_neg c] at h
    simp only [Option.some.injEq, Prod.mk.injEq] at h
    obtain ⟨rfl, rfl⟩ := h
    have hS : f.S = s.take 8 := hA
    simp only [putP] at hp
    split at hp
    · cases hp; rw [hS, List.take_append_drop]
    · cases hp
  | cidp =>
    simp only [getP] at h
    by_cases c : s.length < 8
    · rw [if_pos c] at h; cases h
    rw [if_neg c] at h
    simp only [Option.some.injEq, Prod.mk.injEq] at h
    obtain ⟨rfl, rfl⟩ := h
    have hS : f.cid = s.take 8 := hA
    simp only [putP] at hp
    split at hp
    · cases hp; rw [hS, List.take_append_drop]
    · cases hp
  | uni =>
    cases s with
    | nil => simp [getP] at h
    | cons x t =>
      simp only [getP] at h
      by_cases c : 1 < x.toNat
      · rw [if_pos c] at h; cases h
      rw [if_neg c] at h
      simp only [Option.some.injEq, Prod.mk.injEq] at h
      obtain ⟨rfl, rfl⟩ := h
      have hU : f.uni = decide (x.toNat = 1) := hA
      simp only [putP, Option.some.injEq] at hp
      subst hp
      rw [hU]
      by_cases c1 : x.toNat = 1
      · have : x = 1 := UInt8.toNat_inj.1 (by rw [c1]; rfl)
        subst this; rfl
      · have : x = 0 := UInt8.toNat_inj.1 (by rw [show x.toNat = 0 from by omega]; rfl)
        subst this; rfl
  | retire =>
    simp only [getP, Option.map_eq_some_iff, Prod.mk.injEq] at h
    obtain ⟨z, hz, rfl, rfl⟩ := h
    obtain ⟨n, t⟩ := z
    obtain ⟨n0, n1, rfl⟩ := numD_some hz
    obtain ⟨h1, h2, h3, rfl⟩ := numE_some hp
    have : f.rt = n := hA
    rw [this]
  | ranges =>
    simp only [getP] at h
    cases hz : numD s with
    | none => rw [hz] at h; cases h
    | some z =>
      obtain ⟨n, t⟩ := z
      obtain ⟨n0, n1, rfl⟩ := numD_some hz
      rw [hz] at h
      simp only at h
      by_cases c : 16 < n
      · rw [if_pos c] at h; cases h
      rw [if_neg c] at h
      simp only [Option.map_eq_some_iff, Prod.mk.injEq] at h
      obtain ⟨y, hy, rfl, rfl⟩ := h
      obtain ⟨out, t'⟩ := y
      rw [hr rfl] at hy
      have hin : InR ([] : List (Int × Int)) := fun q hq => by cases hq
      obtain ⟨i1, L, i2, i3, i4⟩ := rngD_some _ _ _ _ _ hy hin
      simp only [List.nil_append] at i2
      subst i2
      have hS : f.rg = out := hA
      simp only [putP] at hp
      by_cases c2 : f.rg = []
      · rw [if_pos c2] at hp; cases hp
      rw [if_neg c2, hS] at hp
      cases ha : numE out.length 16 with
      | none => rw [ha] at hp; simp at hp
      | some b =>
        cases hb : rngE true 281474976710658 out with
        | none => rw [ha, hb] at hp; simp at hp
        | some d =>
          rw [ha, hb] at hp
          simp only [Option.some.injEq] at hp
          subst hp
          obtain ⟨h1, h2, h3, rfl⟩ := numE_some ha
          have := i4 281474976710658 d (by omega) (by omega) rfl hb
          rw [this, i3, show ((n.toNat : Nat) : Int) = n from by omega, List.append_assoc]
theorem gets_back (l : List Pt) : ∀ {g f : Fr} {s t bs : List UInt8}, gets l g s = some (f, t) → (l.map Pt.code).Nodup → rgLast l = true → ((∃ p ∈ l, p.isR = true) → g.rg = []) → InR g.rg → puts l f = some bs → s = bs ++ t := by
  induction l with
  | nil =>
    intro g f s t bs h _ _ _ _ hp
    simp only [gets, Option.some.injEq, Prod.mk.injEq] at h
    obtain ⟨_, rfl⟩ := h
    simp only [puts, Option.some.injEq] at hp
    subst hp; rfl
  | cons q l ih =>
    intro g f s t bs h hn hl hg hR hp
    simp only [gets] at h
    cases hq : getP q g s with
    | none => rw [hq] at h; cases h
    | some z =>
      obtain ⟨g', s'⟩ := z
      rw [hq] at h
      simp only at h
      simp only [puts] at hp
      cases ha : putP q f with
      | none => rw [ha] at hp; simp at hp
      | some a =>
        cases hb : puts l f with
        | none => rw [ha, hb] at hp; simp at hp
        | some b =>
          rw [ha, hb] at hp
          simp only [Option.some.injEq] at hp
          subst hp
          simp only [List.map_cons, List.nodup_cons] at hn
          simp only [rgLast, Bool.and_eq_true, Bool.or_eq_true, Bool.not_eq_true'] at hl
          have hk := gets_keeps l (p := q) h fun x hx he => hn.1 (by rw [he]; exact List.mem_map_of_mem hx)
          have e1 := put_back hq hk ha fun h => hg ⟨q, by simp, h⟩
          have hgr := get_rg hq hR
          have e2 := ih h hn.2 hl.2 (fun hx => by
            rcases hl.1 with h1 | h1
            · rw [hgr.2 h1]
              obtain ⟨y, hy, hy2⟩ := hx
              exact hg ⟨y, by simp [hy], hy2⟩
            · obtain ⟨y, hy, _⟩ := hx
              have := List.isEmpty_iff.1 h1
              subst this
              simp at hy) hgr.1 hb
          rw [e1, e2, List.append_assoc]
/-- What is read is an encoding. -/
theorem enc_dec {l r : List UInt8} {f : Fr} (h : decF l = some (f, r)) : ∃ s, encF f = some s ∧ l = s ++ r ∧ InR f.rg := by
  cases l with
  | nil => cases h
  | cons x t =>
    simp only [decF] at h
    cases hg : gets ((tab (headF x).ty).getD []) (headF x) t with
    | none => rw [hg] at h; cases h
    | some z =>
      obtain ⟨f', t'⟩ := z
      rw [hg] at h
      simp only at h
      cases he : encF f' with
      | none => rw [he] at h; cases h
      | some s =>
        rw [he] at h
        simp only [Option.some.injEq, Prod.mk.injEq] at h
        obtain ⟨rfl, rfl⟩ := h
        refine ⟨s, he, ?_⟩
        obtain ⟨l, bs, ht, hf, hp, hc, rfl⟩ := encF_some he
        have hrg : (headF x).rg = [] := by unfold headF; split <;> rfl
        have hin : InR (headF x).rg := by rw [hrg]; intro q hq; cases hq
        obtain ⟨g1, g2, g3⟩ := gets_ty _ hg hin
        rw [← g1, ht] at hg
        simp only [Option.getD_some] at hg
        obtain ⟨_, _, _, h4, h5, _⟩ := tab_cases ht
        have e := gets_back l hg h5 h4 (fun _ => hrg) hin hp
        refine ⟨?_, g3⟩
        rw [e, List.cons_append]
        congr 1
        rw [g1, g2]
        unfold headF
        by_cases h9 : x.toNat = 9
        · rw [if_pos h9]
          exact UInt8.toNat_inj.1 (by rw [h9]; rfl)
        · rw [if_neg h9]
          simp only [Fr.zero, Bool.false_eq_true, if_false, Nat.add_zero, Int.toNat_natCast]
          exact (byt_of x).symm
/-- The encodings of frames end of themselves. -/
theorem enc_prefix {f g : Fr} {s t a b : List UInt8} (hf : encF f = some s) (hg : encF g = some t) (rf : InR f.rg) (rgg : InR g.rg) (h : s ++ a = t ++ b) : f = g ∧ a = b := by
  have h1 := dec_enc hf rf a
  have h2 := dec_enc hg rgg b
  rw [h, h2] at h1
  simp only [Option.some.injEq, Prod.mk.injEq] at h1
  exact ⟨h1.1.symm, h1.2.symm⟩
end Go.Proofs.YtgiekhohhogdiaaDoor
/- Plain law of frames: the generated frames are valid. -/
namespace Go.Proofs.YtgiekhohhogdiaaDoor
open Go.RowKit
set_option linter.unusedVariables false
set_option linter.unusedSimpArgs false

/-- What 'pick' answers. -/
def pkZ (c n : Int) : Int := (if c < 0 then -(c + 1) else c) % n
theorem pkZ_bd (c n : Int) (hn : 0 < n) : 0 ≤ pkZ c n ∧ pkZ c n < n := ⟨Int.emod_nonneg _ (by omega), Int.emod_lt_of_pos _ hn⟩
/-- Ranges as they should be, below fr. -/
def RgOk : Int → List (Int × Int) → Prop
  | _, [] => True
  | fr, (f, t) :: r => 0 ≤ f ∧ f < t ∧ t ≤ 281474976710656 ∧ t < fr ∧ RgOk f r
theorem rngE_mk (L : List (Int × Int)) : ∀ (i0 : Bool) (fr : Int), fr ≤ 281474976710658 → RgOk fr L → ∃ s, rngE i0 fr L = some s := by
  induction L with
  | nil => intro i0 fr _ _; exact ⟨[], rfl⟩
  | cons p r ih =>
    obtain ⟨f, t⟩ := p
    intro i0 fr hf h
    obtain ⟨h1, h2, h3, h4, h5⟩ := h
    obtain ⟨c, hc⟩ := ih false f (by omega) h5
    have e1 : w64 (t - 1) = t - 1 := w64_in (by omega) (by omega)
    have e2 : w64 (w64 (fr - t) - 1) = fr - t - 1 := by rw [w64_in (x := fr - t) (by omega) (by omega)]; exact w64_in (by omega) (by omega)
    have e3 : w64 (w64 (t - f) - 1) = t - f - 1 := by rw [w64_in (x := t - f) (by omega) (by omega)]; exact w64_in (by omega) (by omega)
    refine ⟨vEnc (if i0 then t - 1 else fr - t - 1) ++ vEnc (t - f - 1) ++ c, ?_⟩
    simp only [rngE]
    rw [if_neg (by omega), e1, e2, e3, hc]
    cases i0
    · simp only [Bool.false_eq_true, if_false]
      rw [numE_mk (by omega) (by omega) (by omega), numE_mk (by omega) (by omega) (by omega)]
    · simp only [if_true]
      rw [numE_mk (by omega) (by omega) (by omega), numE_mk (by omega) (by omega) (by omega)]
theorem rngE_bad (L : List (Int × Int)) (f t : Int) : ∀ (i0 : Bool) (fr : Int) (q : Int × Int), L.getLast? = some q → q.1 ≤ t → rngE i0 fr (L ++ [(f, t)]) = none := by
  induction L with
  | nil => intro i0 fr q h; simp at h
  | cons p r ih =>
    obtain ⟨a, b⟩ := p
    intro i0 fr q h hq
    have key : rngE false a (r ++ [(f, t)]) = none := by
      cases hr : r with
      | nil =>
        subst hr
        simp at h; subst h
        simp only [List.nil_append, rngE]
        rw [if_pos (.inr (.inr hq))]
      | cons x y =>
        rw [← hr]
        refine ih false a q ?_ hq
        rw [hr] at h ⊢
        simpa using h
    simp only [List.cons_append, rngE, key]
    by_cases c : a < 0 ∨ 281474976710656 < b ∨ fr ≤ b
    · rw [if_pos c]
    · rw [if_neg c]
      split
      · rename_i h3; cases h3
      · rfl
theorem RgOk.inR {L : List (Int × Int)} : ∀ {fr : Int}, RgOk fr L → InR L := by
  induction L with
  | nil => intro fr h p hp; cases hp
  | cons p r ih =>
    obtain ⟨f, t⟩ := p
    intro fr h q hq
    obtain ⟨h1, h2, h3, h4, h5⟩ := h
    rcases List.mem_cons.1 hq with rfl | hq
    · exact ⟨by show -9223372036854775808 ≤ f; omega, by show f ≤ 9223372036854775807; omega, by show -9223372036854775808 ≤ t; omega, by show t ≤ 9223372036854775807; omega⟩
    · exact ih h5 q hq

/-- The frame of a type that is built of arbitrary values. -/
def genF (ty A B C : Int) (few : List UInt8) (fin : Bool) (rg : List (Int × Int)) : Fr :=
  if ty = 2 then { Fr.zero ty with dl := pkZ A 4611686018427387904, rg := rg }
  else if ty = 4 then { Fr.zero ty with st := pkZ A 4611686018427387904, cd := pkZ B 1073741824, mx := pkZ C 1099511627777 }
  else if ty = 5 then { Fr.zero ty with st := pkZ A 4611686018427387904, cd := pkZ B 1073741824 }
  else if ty = 6 then { Fr.zero ty with off := pkZ A 1099511627676, S := few }
  else if ty = 7 then { Fr.zero ty with S := few ++ [116] }
  else if ty = 8 then { Fr.zero ty with st := pkZ A 4611686018427387904, off := pkZ B 1099511627676, S := few, fin := fin }
  else if ty = 16 ∨ ty = 20 then { Fr.zero ty with mx := pkZ A 4611686018427387904 }
  else if ty = 17 ∨ ty = 21 then { Fr.zero ty with st := pkZ A 4611686018427387904, mx := pkZ B 4611686018427387904 }
  else if ty = 18 ∨ ty = 22 then { Fr.zero ty with uni := fin, mx := pkZ A 4611686018427387904 }
  else if ty = 24 then { Fr.zero ty with sq := pkZ A 4611686018427387904, rt := pkZ B (pkZ A 4611686018427387904 + 1), cid := (few ++ [49, 50, 51, 52, 53, 54, 55, 56]).take 8 }
  else if ty = 25 then { Fr.zero ty with sq := pkZ A 4611686018427387904 }
  else if ty = 26 ∨ ty = 27 then { Fr.zero ty with S := (few ++ [49, 50, 51, 52, 53, 54, 55, 56]).take 8 }
  else if ty = 28 ∨ ty = 29 then { Fr.zero ty with cd := pkZ A 1073741824, S := few }
  else Fr.zero ty
theorem putInt {f : Fr} {most : Int} {x : Fld} (h0 : 0 ≤ f.get x) (h1 : f.get x ≤ most) (h2 : f.get x ≤ 4611686018427387903) : ∃ s, putP (.int most x) f = some s := ⟨_, numE_mk h1 h0 h2⟩
theorem putText {f : Fr} {least most : Nat} (h0 : least ≤ f.S.length) (h1 : f.S.length ≤ most) (h2 : most ≤ 1024) (h3 : 0 ≤ f.off) (h4 : f.off + f.S.length ≤ 1099511627776) : ∃ s, putP (.text least most) f = some s := by
  refine ⟨vEnc f.S.length ++ f.S, ?_⟩
  simp only [putP]
  rw [if_neg (by rw [w64_in (by omega) (by omega)]; omega), numE_mk (by omega) (by omega) (by omega)]; rfl
theorem putRanges {f : Fr} (h : f.rg ≠ []) (h1 : f.rg.length ≤ 16) (h2 : RgOk 281474976710658 f.rg) : ∃ s, putP .ranges f = some s := by
  obtain ⟨s, hs⟩ := rngE_mk f.rg true 281474976710658 (by omega) h2
  refine ⟨vEnc f.rg.length ++ s, ?_⟩
  simp only [putP]
  rw [if_neg h, numE_mk (by omega) (by omega) (by omega), hs]
theorem puts_nil (f : Fr) : ∃ s, puts [] f = some s := ⟨[], rfl⟩
theorem puts_cons {p : Pt} {l : List Pt} {f : Fr} (h : ∃ s, putP p f = some s) (k : ∃ s, puts l f = some s) : ∃ s, puts (p :: l) f = some s := by
  obtain ⟨a, ha⟩ := h
  obtain ⟨b, hb⟩ := k
  exact ⟨a ++ b, by simp only [puts, ha, hb]⟩
theorem enc_of {f : Fr} {l : List Pt} (ht : tab f.ty = some l) (c : f.fin = true → f.ty = 8) (hp : ∃ s, puts l f = some s) (hc : clrs l { f with fin := false } = Fr.zero f.ty) : ∃ s, encF f = some s := by
  obtain ⟨s, hs⟩ := hp
  exact ⟨_, encF_mk ht (fun h => h.2 (c h.1)) hs hc⟩
theorem genF_valid (ty A B C : Int) (few : List UInt8) (fin : Bool) (rg : List (Int × Int)) (hl : few.length ≤ 60) (hr : rg ≠ []) (hr1 : rg.length ≤ 16) (hr2 : RgOk 281474976710658 rg) (hty : ∃ l, tab ty = some l) :
    ∃ s, encF (genF ty A B C few fin rg) = some s := by
  obtain ⟨l, hl0⟩ := hty
  have a1 := pkZ_bd A 4611686018427387904 (by omega)
  have a2 := pkZ_bd B 4611686018427387904 (by omega)
  have a3 := pkZ_bd B 1073741824 (by omega)
  have a4 := pkZ_bd C 1099511627777 (by omega)
  have a5 := pkZ_bd A 1099511627676 (by omega)
  have a6 := pkZ_bd B 1099511627676 (by omega)
  have a7 := pkZ_bd A 1073741824 (by omega)
  have a8 := pkZ_bd B (pkZ A 4611686018427387904 + 1) (by omega)
  have hV : mV = 4611686018427387903 := rfl
  have hO : mO = 1099511627776 := rfl
  have hC : mC = 1073741823 := rfl
  have h8 : ((few ++ [49, 50, 51, 52, 53, 54, 55, 56] : List UInt8).take 8).length = 8 := by simp
  refine tab_ind (P := fun ty l => ∃ s, encF (genF ty A B C few fin rg) = some s) ?_ ?_ ?_ ?_ ?_ ?_ ?_ ?_ ?_ ?_ ?_ ?_ ?_ ?_ ?_ ?_ ?_ ?_ ?_ ?_ ?_ ty l hl0
  · exact enc_of (l := []) rfl (fun h => by cases h) (puts_nil _) rfl
  · exact enc_of (l := []) rfl (fun h => by cases h) (puts_nil _) rfl
  · exact enc_of (l := []) rfl (fun h => by cases h) (puts_nil _) rfl
  · exact enc_of (l := [.int mV .dl, .ranges]) rfl (fun h => by cases h) (puts_cons (putInt a1.1 (by show pkZ A _ ≤ mV; omega) (by show pkZ A _ ≤ _; omega)) (puts_cons (putRanges hr hr1 hr2) (puts_nil _))) rfl
  · exact enc_of (l := [.int mV .st, .int mC .cd, .int mO .mx]) rfl (fun h => by cases h) (puts_cons (putInt a1.1 (by show pkZ A _ ≤ mV; omega) (by show pkZ A _ ≤ _; omega)) (puts_cons (putInt a3.1 (by show pkZ B _ ≤ mC; omega) (by show pkZ B _ ≤ _; omega)) (puts_cons (putInt a4.1 (by show pkZ C _ ≤ mO; omega) (by show pkZ C _ ≤ _; omega)) (puts_nil _)))) rfl
  · exact enc_of (l := [.int mV .st, .int mC .cd]) rfl (fun h => by cases h) (puts_cons (putInt a1.1 (by show pkZ A _ ≤ mV; omega) (by show pkZ A _ ≤ _; omega)) (puts_cons (putInt a3.1 (by show pkZ B _ ≤ mC; omega) (by show pkZ B _ ≤ _; omega)) (puts_nil _))) rfl
  · exact enc_of (l := [.int mO .off, .text 0 1024]) rfl (fun h => by cases h) (puts_cons (putInt a5.1 (by show pkZ A _ ≤ mO; omega) (by show pkZ A _ ≤ _; omega)) (puts_cons (putText (Nat.zero_le _) (by show few.length ≤ _; omega) (by omega) a5.1 (by show pkZ A _ + (few.length : Int) ≤ _; omega)) (puts_nil _))) rfl
  · exact enc_of (l := [.text 1 128]) rfl (fun h => by cases h) (puts_cons (putText (by show 1 ≤ (few ++ [116]).length; simp) (by show (few ++ [116]).length ≤ _; simp; omega) (by omega) (by show (0 : Int) ≤ 0; omega) (by show (0 : Int) + ((few ++ [116]).length : Int) ≤ _; simp; omega)) (puts_nil _)) rfl
  · exact enc_of (l := [.int mV .st, .int mO .off, .text 0 1024]) rfl (fun _ => rfl) (puts_cons (putInt a1.1 (by show pkZ A _ ≤ mV; omega) (by show pkZ A _ ≤ _; omega)) (puts_cons (putInt a6.1 (by show pkZ B _ ≤ mO; omega) (by show pkZ B _ ≤ _; omega)) (puts_cons (putText (Nat.zero_le _) (by show few.length ≤ _; omega) (by omega) a6.1 (by show pkZ B _ + (few.length : Int) ≤ _; omega)) (puts_nil _)))) rfl
  · exact enc_of (l := [.int mV .mx]) rfl (fun h => by cases h) (puts_cons (putInt a1.1 (by show pkZ A _ ≤ mV; omega) (by show pkZ A _ ≤ _; omega)) (puts_nil _)) rfl
  · exact enc_of (l := [.int mV .mx]) rfl (fun h => by cases h) (puts_cons (putInt a1.1 (by show pkZ A _ ≤ mV; omega) (by show pkZ A _ ≤ _; omega)) (puts_nil _)) rfl
  · exact enc_of (l := [.int mV .st, .int mV .mx]) rfl (fun h => by cases h) (puts_cons (putInt a1.1 (by show pkZ A _ ≤ mV; omega) (by show pkZ A _ ≤ _; omega)) (puts_cons (putInt a2.1 (by show pkZ B _ ≤ mV; omega) (by show pkZ B _ ≤ _; omega)) (puts_nil _))) rfl
  · exact enc_of (l := [.int mV .st, .int mV .mx]) rfl (fun h => by cases h) (puts_cons (putInt a1.1 (by show pkZ A _ ≤ mV; omega) (by show pkZ A _ ≤ _; omega)) (puts_cons (putInt a2.1 (by show pkZ B _ ≤ mV; omega) (by show pkZ B _ ≤ _; omega)) (puts_nil _))) rfl
  · exact enc_of (l := [.uni, .int mV .mx]) rfl (fun h => by cases h) (puts_cons ⟨_, rfl⟩ (puts_cons (putInt a1.1 (by show pkZ A _ ≤ mV; omega) (by show pkZ A _ ≤ _; omega)) (puts_nil _))) rfl
  · exact enc_of (l := [.uni, .int mV .mx]) rfl (fun h => by cases h) (puts_cons ⟨_, rfl⟩ (puts_cons (putInt a1.1 (by show pkZ A _ ≤ mV; omega) (by show pkZ A _ ≤ _; omega)) (puts_nil _))) rfl
  · exact enc_of (l := [.int mV .sq, .retire, .cidp]) rfl (fun h => by cases h) (puts_cons (putInt a1.1 (by show pkZ A _ ≤ mV; omega) (by show pkZ A _ ≤ _; omega)) (puts_cons ⟨_, numE_mk (n := pkZ B (pkZ A 4611686018427387904 + 1)) (most := pkZ A 4611686018427387904) (by omega) a8.1 (by omega)⟩ (puts_cons ⟨_, if_pos h8⟩ (puts_nil _)))) rfl
  · exact enc_of (l := [.int mV .sq]) rfl (fun h => by cases h) (puts_cons (putInt a1.1 (by show pkZ A _ ≤ mV; omega) (by show pkZ A _ ≤ _; omega)) (puts_nil _)) rfl
  · exact enc_of (l := [.chal]) rfl (fun h => by cases h) (puts_cons ⟨_, if_pos h8⟩ (puts_nil _)) rfl
  · exact enc_of (l := [.chal]) rfl (fun h => by cases h) (puts_cons ⟨_, if_pos h8⟩ (puts_nil _)) rfl
  · exact enc_of (l := [.int mC .cd, .text 0 64]) rfl (fun h => by cases h) (puts_cons (putInt a7.1 (by show pkZ A _ ≤ mC; omega) (by show pkZ A _ ≤ _; omega)) (puts_cons (putText (Nat.zero_le _) (by show few.length ≤ _; omega) (by omega) (by show (0 : Int) ≤ 0; omega) (by show (0 : Int) + (few.length : Int) ≤ _; omega)) (puts_nil _))) rfl
  · exact enc_of (l := [.int mC .cd, .text 0 64]) rfl (fun h => by cases h) (puts_cons (putInt a7.1 (by show pkZ A _ ≤ mC; omega) (by show pkZ A _ ≤ _; omega)) (puts_cons (putText (Nat.zero_le _) (by show few.length ≤ _; omega) (by omega) (by show (0 : Int) ≤ 0; omega) (by show (0 : Int) + (few.length : Int) ≤ _; omega)) (puts_nil _))) rfl
end Go.Proofs.YtgiekhohhogdiaaDoor
