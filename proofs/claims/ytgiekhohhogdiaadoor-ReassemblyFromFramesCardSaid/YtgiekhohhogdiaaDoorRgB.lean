/- Plain law of the reassembly buffer: what adding a piece and reading do, and what stands for pieces of one string. -/
import Derived.Test.YtgiekhohhogdiaaDoorBas
namespace Go.Proofs.YtgiekhohhogdiaaDoor
set_option linter.unusedVariables false
set_option linter.unusedSimpArgs false

/-- A buffer: its size, how many bytes were read, the bytes and which are held, the highest end, the final size and whether it is known. -/
structure Bf where
  n : Nat
  pos : Int
  B : Nat → UInt8
  H : Nat → Bool
  hi : Int
  fin : Int
  kn : Bool
def Bf.new (n : Nat) : Bf := ⟨n, 0, fun _ => 0, fun _ => false, 0, 0, false⟩
/-- The bytes held agree with the piece s at off. -/
def Bf.agrees (b : Bf) (off : Int) (s : List UInt8) : Prop := ∀ i k : Nat, i < s.length → off + i = b.pos + k → k < b.n → b.H k = true → b.B k = s.getD i 0
/-- The end e and the mark f go with the final size. -/
def Bf.finOk (b : Bf) (e : Int) (f : Bool) : Prop := ¬ (f = true ∧ e < b.hi) ∧ (b.kn = false ∨ e = b.fin ∨ (e < b.fin ∧ f = false))
def Bf.argOk (off : Int) (n : Nat) : Prop := 0 ≤ off ∧ off ≤ 1099511627776 ∧ n ≤ 8192 ∧ off + n ≤ 1099511627776
/-- The answer of Put. -/
noncomputable def Bf.putE (b : Bf) (off : Int) (s : List UInt8) (f : Bool) : Int := open Classical in
  if ¬ Bf.argOk off s.length then 2 else if ¬ b.agrees off s then 160 else if ¬ b.finOk (off + s.length) f then 161 else if b.pos + b.n < off + s.length then 162 else 0
/-- The buffer with the piece. -/
def Bf.hold (b : Bf) (off : Int) (s : List UInt8) (f : Bool) : Bf :=
  { b with
    B := fun k => if off ≤ b.pos + k ∧ b.pos + k < off + s.length then s.getD (b.pos + k - off).toNat 0 else b.B k
    H := fun k => if off ≤ b.pos + k ∧ b.pos + k < off + s.length then true else b.H k
    hi := if b.hi < off + s.length then off + s.length else b.hi
    fin := if f then off + s.length else b.fin
    kn := if f then true else b.kn }
noncomputable def Bf.put (b : Bf) (off : Int) (s : List UInt8) (f : Bool) : Bf := open Classical in if b.putE off s f = 0 then b.hold off s f else b
/-- How many of the first n are held without a gap. -/
def rdy (H : Nat → Bool) : Nat → Nat → Nat
  | 0, k => k
  | m + 1, k => if H k then rdy H m (k + 1) else k
def Bf.ready (b : Bf) : Nat := rdy b.H b.n 0
/-- How many bytes Read(m) takes. -/
def Bf.many (b : Bf) (m : Int) : Nat := (if m < b.ready then m else b.ready).toNat
def Bf.read (b : Bf) (c : Nat) : Bf :=
  { b with pos := b.pos + c, B := fun k => if k + c < b.n then b.B (k + c) else 0, H := fun k => if k + c < b.n then b.H (k + c) else false }
def Bf.out (b : Bf) (c : Nat) : List UInt8 := (List.range c).map b.B

theorem rdy_bd (H : Nat → Bool) (m : Nat) : ∀ k, k ≤ rdy H m k ∧ rdy H m k ≤ k + m ∧ (∀ i, k ≤ i → i < rdy H m k → H i = true) ∧ (rdy H m k < k + m → H (rdy H m k) = false) := by
  induction m with
  | zero => intro k; exact ⟨Nat.le_refl _, Nat.le_refl _, fun i h1 h2 => by simp only [rdy] at h2; omega, fun h => by simp only [rdy] at h; omega⟩
  | succ m ih =>
    intro k
    simp only [rdy]
    cases hk : H k with
    | true =>
      simp only [if_true]
      obtain ⟨a, b, c, d⟩ := ih (k + 1)
      refine ⟨by omega, by omega, fun i h1 h2 => ?_, fun h => d (by omega)⟩
      by_cases e : i = k
      · rw [e]; exact hk
      · exact c i (by omega) h2
    | false =>
      simp only [Bool.false_eq_true, if_false]
      exact ⟨Nat.le_refl _, by omega, fun i h1 h2 => by omega, fun _ => hk⟩
theorem rdy_uniq (H : Nat → Bool) (n r : Nat) (hr : r ≤ n) (h1 : ∀ i, i < r → H i = true) (h2 : r < n → H r = false) : rdy H n 0 = r := by
  obtain ⟨a, b, c, d⟩ := rdy_bd H n 0
  rcases Nat.lt_trichotomy (rdy H n 0) r with h | h | h
  · have := d (by omega); have := h1 _ h; simp_all
  · exact h
  · have := c r (by omega) h; have := h2 (by omega); simp_all
theorem Bf.ready_le (b : Bf) : b.ready ≤ b.n := by have := rdy_bd b.H b.n 0; unfold Bf.ready; omega
theorem Bf.many_le (b : Bf) (m : Int) : b.many m ≤ b.ready ∧ (m ≤ 0 → b.many m = 0) ∧ (0 ≤ m → (b.many m : Int) ≤ m) ∧ ((b.ready : Int) ≤ m → b.many m = b.ready) := by
  unfold Bf.many
  split <;> omega
theorem Bf.held (b : Bf) (k : Nat) (h : k < b.ready) : b.H k = true := (rdy_bd b.H b.n 0).2.2.1 k (by omega) h
theorem Bf.out_len (b : Bf) (c : Nat) : (b.out c).length = c := by simp [Bf.out]

/-- The bytes that are held are those of the string T, which ends at N; the final size is N. -/
structure Of (T : Nat → UInt8) (N : Nat) (b : Bf) : Prop where
  p0 : 0 ≤ b.pos
  pN : b.pos ≤ N
  bytes : ∀ k : Nat, k < b.n → b.H k = true → b.B k = T (b.pos.toNat + k) ∧ b.pos + k < N
  hiN : b.hi ≤ N
  fi : b.kn = true → b.fin = N
theorem Of.new (T : Nat → UInt8) (N n : Nat) : Of T N (Bf.new n) := ⟨by simp [Bf.new], by simp [Bf.new], fun k _ h => by simp [Bf.new] at h, by simp [Bf.new], fun h => by simp [Bf.new] at h⟩
/-- The piece of T from f on, n bytes. -/
def cutT (T : Nat → UInt8) (f n : Nat) : List UInt8 := (List.range n).map fun i => T (f + i)
theorem cutT_len (T : Nat → UInt8) (f n : Nat) : (cutT T f n).length = n := by simp [cutT]
theorem cutT_get (T : Nat → UInt8) (f n i : Nat) (h : i < n) : (cutT T f n).getD i 0 = T (f + i) := by
  simp [cutT, List.getD_eq_getElem?_getD, h]
section
variable {T : Nat → UInt8} {N : Nat} {b : Bf} (h : Of T N b)
include h
theorem Of.agr (f n : Nat) : b.agrees f (cutT T f n) := by
  intro i k hi he hk hH
  rw [cutT_len] at hi
  have := h.p0
  rw [cutT_get T f n i hi, (h.bytes k hk hH).1]
  congr 1; omega
/-- What Put answers at a piece of T. -/
theorem Of.putE (f n : Nat) (z : Bool) (hn : f + n ≤ N) (hz : z = true → f + n = N) (h1 : n ≤ 8192) (h2 : N ≤ 1099511627776) : b.putE f (cutT T f n) z = if b.pos + b.n < f + n then 162 else 0 := by
  have hi := h.hiN
  unfold Bf.putE
  rw [cutT_len, if_neg (by simp only [Bf.argOk]; omega), if_neg (fun hh => hh (h.agr f n)), if_neg]
  rw [Classical.not_not]
  refine ⟨fun hh => by have := hz hh.1; omega, ?_⟩
  cases hk : b.kn with
  | false => exact .inl rfl
  | true =>
    have := h.fi hk
    cases z with
    | true => have := hz rfl; exact .inr (.inl (by omega))
    | false => right; by_cases e : (f : Int) + n = b.fin
               · exact .inl e
               · exact .inr ⟨by omega, rfl⟩
theorem Of.hold (f n : Nat) (z : Bool) (hn : f + n ≤ N) (hz : z = true → f + n = N) : Of T N (b.hold f (cutT T f n) z) := by
  obtain ⟨p0, pN, bytes, hiN, fi⟩ := h
  refine ⟨p0, pN, fun k hk hH => ?_, ?_, fun hk => ?_⟩
  · simp only [Bf.hold, cutT_len] at hH hk ⊢
    by_cases c : (f : Int) ≤ b.pos + k ∧ b.pos + k < (f : Int) + n
    · rw [if_pos c]
      refine ⟨?_, by omega⟩
      rw [cutT_get T f n _ (by omega)]
      congr 1; omega
    · rw [if_neg c] at hH ⊢
      exact bytes k hk hH
  · simp only [Bf.hold, cutT_len]; split <;> omega
  · simp only [Bf.hold, cutT_len] at hk ⊢
    cases z with
    | true => have := hz rfl; simp; omega
    | false => simp only [Bool.false_eq_true, if_false] at hk ⊢; exact fi hk
theorem Of.out (c : Nat) (hc : c ≤ b.ready) : b.out c = cutT T b.pos.toNat c := by
  unfold Bf.out cutT
  apply List.map_congr_left
  intro k hk
  have hk := List.mem_range.1 hk
  have hr := b.ready_le
  exact (h.bytes k (by omega) (b.held k (by omega))).1
theorem Of.read (c : Nat) (hc : c ≤ b.ready) : Of T N (b.read c) := by
  obtain ⟨p0, pN, bytes, hiN, fi⟩ := h
  have hr := b.ready_le
  refine ⟨by simp only [Bf.read]; omega, ?_, fun k hk hH => ?_, hiN, fi⟩
  · simp only [Bf.read]
    by_cases e : c = 0
    · omega
    · have := (bytes (c - 1) (by omega) (b.held _ (by omega))).2; omega
  · simp only [Bf.read] at hk hH ⊢
    by_cases e : k + c < b.n
    · rw [if_pos e] at hH ⊢
      obtain ⟨x, y⟩ := bytes (k + c) e hH
      refine ⟨by rw [x]; congr 1; omega, by omega⟩
    · rw [if_neg e] at hH; cases hH
end
theorem hold_n (b : Bf) (off : Int) (s : List UInt8) (f : Bool) : (b.hold off s f).n = b.n ∧ (b.hold off s f).pos = b.pos := ⟨rfl, rfl⟩
theorem read_n (b : Bf) (c : Nat) : (b.read c).n = b.n ∧ (b.read c).pos = b.pos + c := ⟨rfl, rfl⟩
theorem cutT_add (T : Nat → UInt8) (f a c : Nat) : cutT T f (a + c) = cutT T f a ++ cutT T (f + a) c := by
  simp [cutT, List.range_add, Nat.add_assoc]
/-- Adding a piece that is held already changes nothing. -/
theorem hold_same (b : Bf) (off : Int) (s : List UInt8) (f : Bool) (p0 : 0 ≤ b.pos) : (b.hold off s f).hold off s f = b.hold off s f := by
  unfold Bf.hold
  simp only
  congr 1
  · funext k; split <;> rfl
  · funext k; split <;> rfl
  · by_cases c : b.hi < off + s.length <;> simp [c]
  · cases f <;> rfl
  · cases f <;> rfl
end Go.Proofs.YtgiekhohhogdiaaDoor
/- The reassembly buffer, reckoned: what Put answers as a program of plain data. -/
namespace Go.Proofs.YtgiekhohhogdiaaDoor
set_option linter.unusedVariables false
set_option linter.unusedSimpArgs false

def Bf.agrB (b : Bf) (off : Int) (s : List UInt8) : Bool := (List.range b.n).all fun k => !(decide (off ≤ b.pos + k) && decide (b.pos + k < off + s.length) && b.H k) || decide (b.B k = s.getD (b.pos + k - off).toNat 0)
theorem Bf.agrB_iff (b : Bf) (off : Int) (s : List UInt8) : b.agrB off s = true ↔ b.agrees off s := by
  simp only [Bf.agrB, List.all_eq_true, List.mem_range, Bool.or_eq_true, Bool.not_eq_true', Bool.and_eq_false_iff, decide_eq_true_eq, decide_eq_false_iff_not]
  constructor
  · intro h i k hi he hk hH
    rcases h k hk with ((h | h) | h) | h
    · omega
    · omega
    · rw [hH] at h; cases h
    · rw [h]; congr 1; omega
  · intro h k hk
    by_cases c1 : off ≤ b.pos + k
    · by_cases c2 : b.pos + k < off + s.length
      · cases c3 : b.H k with
        | false => exact .inl (.inr rfl)
        | true => exact .inr (h (b.pos + k - off).toNat k (by omega) (by omega) hk c3)
      · exact .inl (.inl (.inr c2))
    · exact .inl (.inl (.inl c1))
def Bf.finB (b : Bf) (e : Int) (f : Bool) : Bool := !(f && decide (e < b.hi)) && (!b.kn || decide (e = b.fin) || (decide (e < b.fin) && !f))
theorem Bf.finB_iff (b : Bf) (e : Int) (f : Bool) : b.finB e f = true ↔ b.finOk e f := by
  unfold Bf.finB Bf.finOk
  cases f <;> cases b.kn <;> simp
def Bf.argB (off : Int) (n : Nat) : Bool := decide (0 ≤ off) && decide (off ≤ 1099511627776) && decide (n ≤ 8192) && decide (off + n ≤ 1099511627776)
theorem Bf.argB_iff (off : Int) (n : Nat) : Bf.argB off n = true ↔ Bf.argOk off n := by
  unfold Bf.argB Bf.argOk
  simp [and_assoc]
/-- The answer of Put, reckoned. -/
def Bf.putC (b : Bf) (off : Int) (s : List UInt8) (f : Bool) : Int :=
  bif Bf.argB off s.length then (bif b.agrB off s then (bif b.finB (off + s.length) f then (bif decide (off + s.length ≤ b.pos + b.n) then 0 else 162) else 161) else 160) else 2
theorem Bf.putC_eq (b : Bf) (off : Int) (s : List UInt8) (f : Bool) : b.putE off s f = b.putC off s f := by
  unfold Bf.putE Bf.putC
  cases h1 : Bf.argB off s.length with
  | false => rw [if_pos (fun h => by rw [(Bf.argB_iff _ _).2 h] at h1; cases h1)]; rfl
  | true =>
    rw [if_neg (fun h => h ((Bf.argB_iff _ _).1 h1))]
    cases h2 : b.agrB off s with
    | false => rw [if_pos (fun h => by rw [(Bf.agrB_iff _ _ _).2 h] at h2; cases h2)]; rfl
    | true =>
      rw [if_neg (fun h => h ((Bf.agrB_iff _ _ _).1 h2))]
      cases h3 : b.finB (off + s.length) f with
      | false => rw [if_pos (fun h => by rw [(Bf.finB_iff _ _ _).2 h] at h3; cases h3)]; rfl
      | true =>
        rw [if_neg (fun h => h ((Bf.finB_iff _ _ _).1 h3))]
        by_cases h4 : off + s.length ≤ b.pos + b.n
        · rw [if_neg (by omega), decide_eq_true h4]; rfl
        · rw [if_pos (by omega), decide_eq_false h4]; rfl
/-- The byte i of the test data. -/
def txt (i : Nat) : UInt8 := UInt8.ofNat (i * (i + 3) % 251)
theorem txt_nat (i : Nat) : (txt i).toNat = i * (i + 3) % 251 := by
  unfold txt
  rw [UInt8.toNat_ofNat']
  omega
end Go.Proofs.YtgiekhohhogdiaaDoor
