/- ReassemblyFromFrames: the plain law. -/
import Derived.Test.YtgiekhohhogdiaaDoorRfA
import Derived.Test.YtgiekhohhogdiaaDoorRgI
namespace Go.Proofs.YtgiekhohhogdiaaDoor
open Go Go.RowKit
set_option linter.unusedVariables false
set_option linter.unusedSectionVars false
set_option linter.unusedSimpArgs false

theorem Of.putC {N : Nat} {b : Bf} (h : Of txt N b) (f n : Nat) (z : Bool) (hn : f + n ≤ N) (hz : z = true → f + n = N) (h1 : n ≤ 8192) (h2 : N ≤ 1099511627776) : b.putC f (cutS f n).data.toList z = if b.pos + b.n < f + n then 162 else 0 := by
  rw [cutS_list, ← Bf.putC_eq, h.putE f n z hn hz h1 h2]
theorem hold_H (x : Bf) (off : Int) (s : List UInt8) (f : Bool) (m : Nat) (h : x.H m = true) : (x.hold off s f).H m = true := by
  simp only [Bf.hold]; split
  · rfl
  · exact h
theorem Of.outS {N : Nat} {b : Bf} (h : Of txt N b) (c P : Nat) (hP : b.pos = P) (hc : c ≤ b.ready) : strB (b.out c) = cutS P c := by
  rw [h.out c hc, hP]; rfl
/-- Where the piece that begins at s ends. -/
def pcE (N p s : Nat) : Nat := min (s + p) N
/-- The frame of piece q. -/
def pf (N p q : Nat) : Fr := { Fr.zero 8 with st := 4, off := ((q * p : Nat) : Int), S := cutT txt (q * p) (pcE N p (q * p) - q * p), fin := decide (pcE N p (q * p) = N) }
theorem pf_enc (N p q : Nat) (hp : p ≤ 60) (hq : q * p ≤ 400) : ∃ t, encF (pf N p q) = some t := by
  have hl : (cutT txt (q * p) (pcE N p (q * p) - q * p)).length ≤ 60 := by rw [cutT_len]; unfold pcE; omega
  have hV : mV = 4611686018427387903 := rfl
  have hO : mO = 1099511627776 := rfl
  exact enc_of (f := pf N p q) (l := [.int mV .st, .int mO .off, .text 0 1024]) rfl (fun _ => rfl) (puts_cons (putInt (by show (0 : Int) ≤ 4; omega) (by show (4 : Int) ≤ mV; omega) (by show (4 : Int) ≤ _; omega)) (puts_cons (putInt (by show (0 : Int) ≤ ((q * p : Nat) : Int); omega) (by show ((q * p : Nat) : Int) ≤ mO; omega) (by show ((q * p : Nat) : Int) ≤ _; omega)) (puts_cons (putText (Nat.zero_le _) (by show (cutT txt (q * p) (pcE N p (q * p) - q * p)).length ≤ _; omega) (by omega) (by show (0 : Int) ≤ ((q * p : Nat) : Int); omega) (by show ((q * p : Nat) : Int) + ((cutT txt (q * p) (pcE N p (q * p) - q * p)).length : Int) ≤ _; omega)) (puts_nil _)))) rfl
/-- J pieces of p bytes make N bytes. -/
structure Pcs (N p J : Nat) : Prop where
  p1 : 1 ≤ p
  j1 : 1 ≤ J
  up : N ≤ J * p
  dn : (J - 1) * p < N ∨ J = 1
theorem Pcs.le {N p J q : Nat} (h : Pcs N p J) (hq : q < J) : q * p ≤ N := by
  have h1 : q * p ≤ (J - 1) * p := Nat.mul_le_mul_right p (by omega)
  rcases h.dn with a | a
  · omega
  · have : q = 0 := by omega
    subst this; simp
theorem Pcs.last {N p J q : Nat} (h : Pcs N p J) (hq : q < J) : pcE N p (q * p) = N ↔ q = J - 1 := by
  unfold pcE
  have hp := h.p1
  constructor
  · intro e
    rcases Nat.lt_or_ge q (J - 1) with a | a
    · have h1 : (q + 1) * p ≤ (J - 1) * p := Nat.mul_le_mul_right p (by omega)
      rw [Nat.succ_mul] at h1
      rcases h.dn with b | b <;> omega
    · omega
  · rintro rfl
    have e : (J - 1) * p + p = J * p := by
      obtain ⟨i, rfl⟩ : ∃ i, J = i + 1 := ⟨J - 1, by have := h.j1; omega⟩
      rw [Nat.add_sub_cancel, Nat.succ_mul]
    have := h.up
    omega
theorem Pcs.ends {N p J q : Nat} (h : Pcs N p J) (hq : q < J) : q * p ≤ pcE N p (q * p) ∧ pcE N p (q * p) ≤ N ∧ pcE N p (q * p) ≤ q * p + p := by
  have := h.le hq
  unfold pcE
  omega
/-- What is known of the buffer while the datagrams L are still to come: each the numbers of its pieces. -/
structure Dv (N p J : Nat) (L : List (List Nat)) (x : Bf) : Prop where
  of : Of txt N x
  n : x.n = 401
  pos : x.pos = 0
  el : ∀ d ∈ L, ∀ q ∈ d, q < J
  held : ∀ k : Nat, k < N → (∀ d ∈ L, k / p ∉ d) → x.H k = true
  kn : (∀ d ∈ L, J - 1 ∉ d) → x.kn = true
theorem Dv.put {N p J q : Nat} {d : List Nat} {L : List (List Nat)} {x : Bf} (hP : Pcs N p J) (hN : N ≤ 400) (h : Dv N p J ((q :: d) :: L) x) :
    x.putC ((q * p : Nat) : Int) (strB (pf N p q).S).data.toList (pf N p q).fin = 0 := by
  have hq : q < J := h.el _ List.mem_cons_self _ List.mem_cons_self
  obtain ⟨e1, e2, e3⟩ := hP.ends hq
  have := h.of.putC (q * p) (pcE N p (q * p) - q * p) (decide (pcE N p (q * p) = N)) (by omega) (fun e => by have := of_decide_eq_true e; omega) (by omega) (by omega)
  show x.putC ((q * p : Nat) : Int) (cutS (q * p) (pcE N p (q * p) - q * p)).data.toList (decide (pcE N p (q * p) = N)) = 0
  rw [this, if_neg (by rw [h.pos, h.n]; omega)]
theorem Dv.piece {N p J q : Nat} {d : List Nat} {L : List (List Nat)} {x : Bf} (hP : Pcs N p J) (h : Dv N p J ((q :: d) :: L) x) :
    Dv N p J (d :: L) (x.hold ((q * p : Nat) : Int) (strB (pf N p q).S).data.toList (pf N p q).fin) := by
  have hq : q < J := h.el _ List.mem_cons_self _ List.mem_cons_self
  obtain ⟨e1, e2, e3⟩ := hP.ends hq
  have hp := hP.p1
  rw [strB_list]
  refine ⟨h.of.hold (q * p) (pcE N p (q * p) - q * p) _ (by omega) (fun e => by have := of_decide_eq_true e; omega), h.n, h.pos, fun t ht a ha => ?_, fun m hm hL => ?_, fun hL => ?_⟩
  · rcases List.mem_cons.1 ht with e | e
    · exact h.el _ List.mem_cons_self _ (List.mem_cons_of_mem _ (e ▸ ha))
    · exact h.el _ (List.mem_cons_of_mem _ e) _ ha
  · by_cases e : m / p = q
    · have h2 := Nat.div_add_mod m p
      have h3 := Nat.mod_lt m (show 0 < p by omega)
      rw [Nat.mul_comm, e] at h2
      show (if ((q * p : Nat) : Int) ≤ x.pos + m ∧ x.pos + m < ((q * p : Nat) : Int) + ((cutT txt (q * p) (pcE N p (q * p) - q * p)).length : Nat) then true else x.H m) = true
      rw [cutT_len, if_pos ?_]
      rw [h.pos]
      unfold pcE
      omega
    · refine hold_H _ _ _ _ _ (h.held m hm (fun t ht hm2 => ?_))
      rcases List.mem_cons.1 ht with e2 | e2
      · subst e2
        rcases List.mem_cons.1 hm2 with e3 | e3
        · exact e e3
        · exact hL d List.mem_cons_self e3
      · exact hL t (List.mem_cons_of_mem _ e2) hm2
  · show (if decide (pcE N p (q * p) = N) then true else x.kn) = true
    by_cases e : pcE N p (q * p) = N
    · rw [if_pos (by simpa using e)]
    · rw [if_neg (by simpa using e)]
      refine h.kn (fun t ht hm2 => ?_)
      rcases List.mem_cons.1 ht with e2 | e2
      · subst e2
        rcases List.mem_cons.1 hm2 with e3 | e3
        · exact e ((hP.last hq).2 e3.symm)
        · exact hL d List.mem_cons_self e3
      · exact hL t (List.mem_cons_of_mem _ e2) hm2
theorem Dv.front {N p J : Nat} {d : List Nat} {A C : List (List Nat)} {x : Bf} (h : Dv N p J (A ++ d :: C) x) : Dv N p J (d :: (A ++ C)) x := by
  have hm : ∀ t, t ∈ A ++ d :: C ↔ t ∈ d :: (A ++ C) := fun t => by simp only [List.mem_append, List.mem_cons]; constructor <;> (rintro (a | a | a) <;> simp [a])
  exact ⟨h.of, h.n, h.pos, fun t ht => h.el t ((hm t).2 ht), fun k hk hL => h.held k hk (fun t ht => hL t ((hm t).1 ht)), fun hL => h.kn (fun t ht => hL t ((hm t).1 ht))⟩
theorem Dv.done {N p J : Nat} {L : List (List Nat)} {x : Bf} (h : Dv N p J ([] :: L) x) : Dv N p J L x := by
  have hm : ∀ (P : List Nat → Prop), P [] → (∀ t ∈ L, P t) → ∀ t ∈ [] :: L, P t := fun P h0 h1 t ht => by
    rcases List.mem_cons.1 ht with e | e
    · exact e ▸ h0
    · exact h1 t e
  exact ⟨h.of, h.n, h.pos, fun t ht => h.el t (List.mem_cons_of_mem _ ht), fun k hk hL => h.held k hk (hm _ (by simp) hL), fun hL => h.kn (hm _ (by simp) hL)⟩
/-- The datagrams hold the pieces below i, and none that is not there. -/
structure Dg (J i : Nat) (L : List (List Nat)) : Prop where
  el : ∀ d ∈ L, d ≠ [] ∧ d.length ≤ 3 ∧ ∀ q ∈ d, q < J
  cov : ∀ q, q < i → ∃ d ∈ L, q ∈ d
theorem Dg.nil (J : Nat) : Dg J 0 [] := ⟨by simp, fun q h => by omega⟩
theorem Dg.next {J i e : Nat} {L : List (List Nat)} (h : Dg J i L) (h1 : i < e) (h2 : e ≤ i + 3) (h3 : e ≤ J) : Dg J e (L ++ [List.range' i (e - i)]) := by
  refine ⟨fun d hd => ?_, fun q hq => ?_⟩
  · rcases List.mem_append.1 hd with a | a
    · exact h.el d a
    · obtain rfl := List.mem_singleton.1 a
      refine ⟨fun e => by have := congrArg List.length e; simp at this; omega, by simp; omega, fun q hq => ?_⟩
      have := List.mem_range'_1.1 hq
      omega
  · by_cases c : q < i
    · obtain ⟨d, hd, hq⟩ := h.cov q c
      exact ⟨d, List.mem_append_left _ hd, hq⟩
    · exact ⟨_, List.mem_append_right _ (List.mem_singleton.2 rfl), List.mem_range'_1.2 (by omega)⟩
theorem Dg.again {J i : Nat} {L : List (List Nat)} (h : Dg J i L) (k : Nat) (hk : k < L.length) : Dg J i (L ++ [L[k]'hk]) := by
  refine ⟨fun d hd => ?_, fun q hq => ?_⟩
  · rcases List.mem_append.1 hd with a | a
    · exact h.el d a
    · obtain rfl := List.mem_singleton.1 a
      exact h.el _ (List.getElem_mem hk)
  · obtain ⟨d, hd, hq⟩ := h.cov q hq
    exact ⟨d, List.mem_append_left _ hd, hq⟩
theorem Dv.start {N p J : Nat} {L : List (List Nat)} (hP : Pcs N p J) (h : Dg J J L) : Dv N p J L (Bf.new 401) := by
  refine ⟨Of.new _ _ _, rfl, rfl, fun d hd => (h.el d hd).2.2, fun m hm hL => ?_, fun hL => ?_⟩
  · exfalso
    have : m / p < J := by rw [Nat.div_lt_iff_lt_mul (by have := hP.p1; omega)]; have := hP.up; omega
    obtain ⟨d, hd, hq⟩ := h.cov _ this
    exact hL d hd hq
  · exfalso
    obtain ⟨d, hd, hq⟩ := h.cov (J - 1) (by have := hP.j1; omega)
    exact hL d hd hq
section
variable {N p J : Nat} {x : Bf} (h : Dv N p J [] x) (hN : N ≤ 400)
include h hN
theorem Dv.ready : x.ready = N := rdy_uniq _ _ _ (by rw [h.n]; omega) (fun i hi => h.held i hi (by simp)) (fun hl => by
  cases hH : x.H N with
  | false => rfl
  | true => have := (h.of.bytes N (by rw [h.n]; omega) hH).2; rw [h.pos] at this; omega)
theorem Dv.many : x.many (N + 1 : Nat) = N := by unfold Bf.many; rw [Dv.ready h hN]; split <;> omega
theorem Dv.out : strB (x.out N) = txtS N := by
  rw [h.of.outS N 0 (by rw [h.pos]; rfl) (by rw [Dv.ready h hN]; exact Nat.le_refl _), txtS_cut]
theorem Dv.last : x.last N = true := by
  have k := h.kn (by simp)
  unfold Bf.last
  rw [k, h.of.fi k, h.pos]
  simp
end
end Go.Proofs.YtgiekhohhogdiaaDoor
