/- The reassembly buffer, reckoned: what Put answers as a program of plain data. -/
import Derived.Test.YtnnmmmeppbdlnaaDoorRsM
namespace Go.Proofs.YtnnmmmeppbdlnaaDoor
set_option linter.unusedVariables false
set_option linter.unusedSimpArgs false

def Bf.agrB (b : Bf) (off : Int) (s : List UInt8) : Bool := (List.range b.n).all fun k => !(decide (off ≤ b.pos + k) && decide (b.pos + k < off + s.length) && b.H k) || decide (b.B k = s.getD (b.pos + k - off).toNat 0)
theorem Bf.agrB_iff (b : Bf) (off : Int) (s : List UInt8) : b.agrB off s = true ↔ b.agrees off s := by
  simp only [Bf.agrB, List.all_eq_true, List.mem_range, Bool.or_eq_true, Bool.not_eq_true', Bool.and_eq_false_iff, decide_eq_true_eq, decide_eq_false_iff_not]
  constructor
  · intro h i k hi he hk hH
    rcases h k hk with ((h | h) | h) | h
    · omega
    · omega
    · rw [hH] at h; cases h
    · rw [h]; congr 1; omega
  · intro h k hk
    by_cases c1 : off ≤ b.pos + k
    · by_cases c2 : b.pos + k < off + s.length
      · cases c3 : b.H k with
        | false => exact .inl (.inr rfl)
        | true => exact .inr (h (b.pos + k - off).toNat k (by omega) (by omega) hk c3)
      · exact .inl (.inl (.inr c2))
    · exact .inl (.inl (.inl c1))
def Bf.finB (b : Bf) (e : Int) (f : Bool) : Bool := !(f && decide (e < b.hi)) && (!b.kn || decide (e = b.fin) || (decide (e < b.fin) && !f))
theorem Bf.finB_iff (b : Bf) (e : Int) (f : Bool) : b.finB e f = true ↔ b.finOk e f := by
  unfold Bf.finB Bf.finOk
  cases f <;> cases b.kn <;> simp
def Bf.argB (off : Int) (n : Nat) : Bool := decide (0 ≤ off) && decide (off ≤ 1099511627776) && decide (n ≤ 8192) && decide (off + n ≤ 1099511627776)
theorem Bf.argB_iff (off : Int) (n : Nat) : Bf.argB off n = true ↔ Bf.argOk off n := by
  unfold Bf.argB Bf.argOk
  simp [and_assoc]
/-- The answer of Put, reckoned. -/
def Bf.putC (b : Bf) (off : Int) (s : List UInt8) (f : Bool) : Int :=
  bif Bf.argB off s.length then (bif b.agrB off s then (bif b.finB (off + s.length) f then (bif decide (off + s.length ≤ b.pos + b.n) then 0 else 162) else 161) else 160) else 2
theorem Bf.putC_eq (b : Bf) (off : Int) (s : List UInt8) (f : Bool) : b.putE off s f = b.putC off s f := by
  unfold Bf.putE Bf.putC
  cases h1 : Bf.argB off s.length with
  | false => rw [if_pos (fun h => by rw [(Bf.argB_iff _ _).2 h] at h1; cases h1)]; rfl
  | true =>
    rw [if_neg (fun h => h ((Bf.argB_iff _ _).1 h1))]
    cases h2 : b.agrB off s with
    | false => rw [if_pos (fun h => by rw [(Bf.agrB_iff _ _ _).2 h] at h2; cases h2)]; rfl
    | true =>
      rw [if_neg (fun h => h ((Bf.agrB_iff _ _ _).1 h2))]
      cases h3 : b.finB (off + s.length) f with
      | false => rw [if_pos (fun h => by rw [(Bf.finB_iff _ _ _).2 h] at h3; cases h3)]; rfl
      | true =>
        rw [if_neg (fun h => h ((Bf.finB_iff _ _ _).1 h3))]
        by_cases h4 : off + s.length ≤ b.pos + b.n
        · rw [if_neg (by omega), decide_eq_true h4]; rfl
        · rw [if_pos (by omega), decide_eq_false h4]; rfl
/-- The byte i of the test data. -/
def txt (i : Nat) : UInt8 := UInt8.ofNat (i * (i + 3) % 251)
theorem txt_nat (i : Nat) : (txt i).toNat = i * (i + 3) % 251 := by
  unfold txt
  rw [UInt8.toNat_ofNat']
  omega
end Go.Proofs.YtnnmmmeppbdlnaaDoor
