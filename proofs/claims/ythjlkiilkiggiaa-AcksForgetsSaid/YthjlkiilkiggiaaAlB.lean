/- Contracts of package acks by intervals: Forget, Ranges of any list, Receive above the floor. -/
import Derived.Test.YthjlkiilkiggiaaAkZ
namespace Go.Proofs.Ythjlkiilkiggiaa
open Go Go.RowKit Go.Shelf
set_option linter.unusedVariables false
set_option linter.unusedSectionVars false
set_option linter.unusedSimpArgs false

/-- What 'pick' answers. -/
def pkZ (c n : Int) : Int := (if c < 0 then -(c + 1) else c) % n
theorem pkZ_bd (c n : Int) (hn : 0 < n) : 0 ≤ pkZ c n ∧ pkZ c n < n := by
  unfold pkZ
  exact ⟨Int.emod_nonneg _ (by omega), Int.emod_lt_of_pos _ hn⟩
theorem pk_any (c n : Int) (w : World) (h1 : -9223372036854775808 ≤ c) (h2 : c ≤ 9223372036854775807) (hn : 0 < n) :
    Calls Try.prog 10 #[.int .i64 c, .int .i64 n] w fun e w' => e = .returned (.int .i64 (pkZ c n)) ∧ w = w' := by
  have e1 : c < 0 → -((c + 1).tmod n) = pkZ c n := by
    intro h; unfold pkZ; rw [if_pos h]; rw [← Int.neg_tmod]; exact Int.tmod_eq_emod_of_nonneg (by omega)
  have e2 : 0 ≤ c → c % n = pkZ c n := by
    intro h; unfold pkZ; rw [if_neg (by omega)]
  have E1 := Lib.hid e1
  have E2 := Lib.hid e2
  clear e1 e2
  by_cases hc : c < 0
  · go_enter Try.func10, Try.ntmps10
    go_wp2
    go_ret
    exact ⟨ret_int (E1.out hc), rfl⟩
  · go_enter Try.func10, Try.ntmps10
    go_wp2
    go_ret
    exact ⟨ret_int (E2.out (by omega)), rfl⟩

theorem forget_k (b : Nat) (L : List (Int × Int)) (d fl lg wh ct du q : Int) (w : World) (hT : TK w b L d fl lg wh ct du) (h0 : 0 ≤ q) (h1 : q ≤ 281474976710655) (f0 : 0 ≤ fl) (f1 : fl ≤ 281474976710656) :
    Calls Try.prog 18 #[.pointer (some ⟨b, 0, none⟩), .int .i64 q] w fun e w' => e = .returned (.tuple #[]) ∧ TK w' b (cutL L (bndZ fl q)) d (bndZ fl q) lg wh ct du ∧ Only [b] w w' := by
  obtain ⟨F, T, n, rfl, hn, hT⟩ := hT
  exact forget_c b F T n q (bndZ fl q) d fl lg wh ct du hn h0 h1 rfl f0 f1 w hT
/-- Forget at any small bound. -/
theorem forget_any (b : Nat) (L : List (Int × Int)) (d fl lg wh ct du q : Int) (w : World) (hT : TK w b L d fl lg wh ct du) (h0 : -1000 ≤ q) (h1 : q ≤ 1000) (hF : Flo L fl) (f1 : fl ≤ 1000) :
    Calls Try.prog 18 #[.pointer (some ⟨b, 0, none⟩), .int .i64 q] w fun e w' => e = .returned (.tuple #[]) ∧ ∃ L2 fl2, TK w' b L2 d fl2 lg wh ct du ∧ wantL L (q + 1) = L2 ∧ (0 ≤ q → q < fl2) ∧ Only [b] w w' := by
  by_cases hq : q < 0
  · refine (forget_neg b q w hq).mono ?_
    rintro e w' ⟨rfl, rfl⟩
    exact ⟨rfl, L, fl, hT, wantL_id L _ _ hF.good (by have := hF.fl0; omega), fun h => by omega, Only.refl _ _⟩
  · refine (forget_k b L d fl lg wh ct du q w hT (by omega) (by omega) hF.fl0 (by omega)).mono ?_
    rintro e w' ⟨rfl, hT', ho⟩
    exact ⟨rfl, _, _, hT', want_forget hF q, fun _ => by unfold bndZ; split <;> omega, ho⟩
/-- A slice of spans from block B on that holds the intervals of L. -/
def SpA (w : World) (B : Nat) (a : Option Addr) (L : List (Int × Int)) : Prop := ∀ i x, L[i]? = some x → ∃ r, a = some ⟨r, 0, none⟩ ∧ B ≤ r ∧ r < w.heap.size ∧ w.cell? ⟨r, i * 2, none⟩ = some (.int .i64 x.1) ∧ w.cell? ⟨r, i * 2 + 1, none⟩ = some (.int .i64 x.2)
theorem SpA.only {w w' : World} {B : Nat} {a : Option Addr} {L : List (Int × Int)} {S : List Nat} (h : SpA w B a L) (ho : Only S w w') (hS : ∀ k ∈ S, k < B) : SpA w' B a L := fun i x hx => by
  obtain ⟨r, h1, h2, h3, h4, h5⟩ := h i x hx
  have hn : r ∉ S := fun hm => by have := hS r hm; omega
  exact ⟨r, h1, h2, Nat.lt_of_lt_of_le h3 ho.size, (ho.cell (p := ⟨r, _, none⟩) h3 hn).trans h4, (ho.cell (p := ⟨r, _, none⟩) h3 hn).trans h5⟩
theorem SpA.below {w w' : World} {B C : Nat} {a : Option Addr} {L : List (Int × Int)} (h : SpA w B a L) (ho : Below C w w') (hC : w.heap.size ≤ C) : SpA w' B a L := h.only (S := []) (Only.of_below (ho.mono hC)) (by simp)
theorem ranges_a (b : Nat) (L : List (Int × Int)) (d fl lg wh ct du : Int) (w : World) (hT : TK w b L d fl lg wh ct du) :
    Calls Try.prog 17 #[.pointer (some ⟨b, 0, none⟩)] w fun e w' => ∃ a cap, e = .returned (.slice a L.length cap) ∧ SpA w' w.heap.size a L ∧ Below w.heap.size w w' := by
  by_cases hL : L = []
  · subst hL
    obtain ⟨F, T, n, h1, hn, hT⟩ := hT
    have hn0 : n = 0 := by have := congrArg List.length h1; rw [lst_len] at this; simpa using this.symm
    subst hn0
    refine (callsIn_wide.1 (ranges_in b F T 0 d fl lg wh ct du (by omega) w hT)).mono ?_
    rintro e w' ⟨v, rfl, hrow, hnil, hB⟩
    rw [hnil.2 rfl]
    exact ⟨none, 0, rfl, fun i x hx => by simp at hx, hB⟩
  · refine (ranges_k b L d fl lg wh ct du w hT hL).mono ?_
    rintro e w' ⟨r, cap, rfl, hS, h1, h2, hB⟩
    exact ⟨some ⟨r, 0, none⟩, cap, rfl, fun i x hx => ⟨r, rfl, h1, h2, (hS i x hx).1, (hS i x hx).2⟩, hB⟩
/-- Receive of any small number, with what stands above the floor. -/
theorem recv_g (b k : Nat) (L : List (Int × Int)) (d fl lg wh ct du m now pn : Int) (el : Bool) (w : World) (hT : TK w b L d fl lg wh ct du) (hI : BInv k L fl lg ct m) (hF : Flo L fl) (h0 : 0 ≤ now) (h1 : now ≤ 1099511627776) (p0 : 0 ≤ pn) (p1 : pn ≤ m) (hm : m ≤ 281474976710655)
    (d0 : 0 ≤ d) (d1 : d ≤ 20) (hk : k ≤ 1000000) :
    Calls Try.prog 16 #[.pointer (some ⟨b, 0, none⟩), .int .i64 now, .int .i64 pn, .bool el] w fun e w' => ∃ f L' fl' lg' wh' ct' du', e = .returned (.int .i64 f) ∧ BInv (k + 1) L' fl' lg' ct' m ∧ Flo L' fl' ∧ TK w' b L' d fl' lg' wh' ct' du' ∧ Only [b] w w' := by
  by_cases hd : pn < fl ∨ In L pn
  · refine (recv_dup b L d fl lg wh ct du now pn el w hT h0 h1 p0 (by omega) hd).mono ?_
    rintro e w' ⟨rfl, hT', ho⟩
    exact ⟨110, L, fl, lg, wh, ct, du, rfl, hI.mono (by omega), hF, hT', ho.mono (by simp)⟩
  · have hf : fl ≤ pn := by have : ¬ pn < fl := fun h => hd (.inl h); omega
    have hn : ¬ In L pn := fun h => hd (.inr h)
    have := hI.ct0; have := hI.ct1; have := hI.lg0; have := hI.lg1
    refine (recv_ok b L d fl lg wh ct du now pn el w hT h0 h1 p0 (by omega) hf hn d0 d1 (by omega) (by omega) (by omega) (by omega)).mono ?_
    rintro e w' ⟨rfl, hT', ho⟩
    obtain ⟨hI', hne⟩ := hI.add p0 p1 hn hf el
    exact ⟨0, _, _, _, _, _, _, rfl, hI', hF.add hf hn, hT', ho⟩
/-- A block of sixty marks. -/
def BRow (w : World) (r : Nat) (G : Nat → Bool) : Prop := ∃ cs, At w r 4 cs ∧ cs.size = 60 ∧ ∀ i, i < 60 → cs[i]? = some (.bool (G i))
theorem BRow.cell {w : World} {r : Nat} {G : Nat → Bool} (h : BRow w r G) (i : Nat) (hi : i < 60) : w.cell? ⟨r, i, none⟩ = some (.bool (G i)) := by
  obtain ⟨cs, h1, h2, h3⟩ := h; exact h1.cell i (h3 i hi)
theorem BRow.free {w : World} {r : Nat} {G : Nat → Bool} (h : BRow w r G) (i : Nat) : w.frozen? ⟨r, i, none⟩ = false := by
  obtain ⟨cs, h1, h2, h3⟩ := h; exact h1.free i
theorem BRow.lt {w : World} {r : Nat} {G : Nat → Bool} (h : BRow w r G) : r < w.heap.size := by
  obtain ⟨cs, h1, h2, h3⟩ := h; exact h1.lt
theorem BRow.keep {w w' : World} {r : Nat} {G : Nat → Bool} {S : List Nat} (h : BRow w r G) (ho : Only S w w') (hn : r ∉ S) : BRow w' r G := by
  obtain ⟨cs, h1, h2, h3⟩ := h; exact ⟨cs, h1.keep ho hn, h2, h3⟩
theorem BRow.below {w w' : World} {r : Nat} {G : Nat → Bool} {B : Nat} (h : BRow w r G) (ho : Below B w w') (hn : r < B) : BRow w' r G := by
  obtain ⟨cs, h1, h2, h3⟩ := h; exact ⟨cs, h1.below ho hn, h2, h3⟩
theorem BRow.set {w : World} {r : Nat} {G : Nat → Bool} (h : BRow w r G) (p : Nat) (hp : p < 60) (x : Bool) : BRow (w.setCell ⟨r, p, none⟩ (.bool x)) r (fun i => if i = p then x else G i) := by
  obtain ⟨cs, h1, h2, h3⟩ := h
  refine ⟨_, h1.set p _ rfl, by simpa using h2, fun i hi => ?_⟩
  by_cases e : i = p
  · subst e; simp [Array.getElem?_setIfInBounds, h2, hp]
  · rw [Array.getElem?_setIfInBounds, if_neg (fun h => e h.symm)]; simp only [if_neg e]; exact h3 i hi
theorem BRow.same {w : World} {r : Nat} {G H : Nat → Bool} (h : BRow w r G) (e : G = H) : BRow w r H := e ▸ h
theorem mark_same (G : Nat → Bool) (p : Nat) (x : Bool) (h : G p = x) : (fun i => if i = p then x else G i) = G := by
  funext i
  by_cases e : i = p
  · rw [if_pos e, e, h]
  · rw [if_neg e]
end Go.Proofs.Ythjlkiilkiggiaa
