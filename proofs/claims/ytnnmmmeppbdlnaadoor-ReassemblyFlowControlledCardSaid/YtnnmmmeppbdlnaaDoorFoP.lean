/- ReassemblyFlowControlled: the plain law. -/
import Derived.Test.YtnnmmmeppbdlnaaDoorSnX
import Derived.Test.YtnnmmmeppbdlnaaDoorArD
namespace Go.Proofs.YtnnmmmeppbdlnaaDoor
open Go Go.RowKit
set_option linter.unusedVariables false
set_option linter.unusedSectionVars false
set_option linter.unusedSimpArgs false

/-- What is known while the sender, the wire and the receiver work: got bytes were read, sent bytes sent, m is the limit, h the highest byte received, L the pieces on the wire. -/
structure Fv (W N got sent m h : Nat) (L : List (Nat × Nat)) (x : Bf) : Prop where
  of : Of txt N x
  n : x.n = W
  pos : x.pos = got
  sm : sent ≤ m
  mg : m ≤ got + W
  gm : got < m
  sN : sent ≤ N
  hs : h ≤ sent
  gh : got ≤ h
  el : ∀ p ∈ L, 1 ≤ p.2 ∧ p.1 + p.2 ≤ sent ∧ p.2 ≤ 60
  cov : ∀ j, got ≤ j → j < sent → x.H (j - got) = true ∨ ∃ p ∈ L, p.1 ≤ j ∧ j < p.1 + p.2
  hh : ∀ k, k < W → x.H k = true → got + k < h
theorem Fv.start (W N : Nat) (hW : 1 ≤ W) : Fv W N 0 0 W 0 [] (Bf.new W) :=
  ⟨Of.new _ _ _, rfl, rfl, by omega, by omega, by omega, by omega, by omega, by omega, fun p hp => by simp at hp, fun j _ h => by omega, fun k _ h => by simp [Bf.new] at h⟩
section
variable {W N got sent m h : Nat} {L : List (Nat × Nat)} {x : Bf} (H : Fv W N got sent m h L x)
include H
theorem Fv.send (n : Nat) (h1 : 1 ≤ n) (h2 : n ≤ 60) (h3 : sent + n ≤ m) (h4 : sent + n ≤ N) : Fv W N got (sent + n) m h (L ++ [(sent, n)]) x := by
  obtain ⟨of, n0, pos, sm, mg, gm, sN, hs, gh, el, cov, hh⟩ := H
  refine ⟨of, n0, pos, h3, mg, gm, h4, by omega, gh, fun p hp => ?_, fun j g1 g2 => ?_, hh⟩
  · rw [List.mem_append, List.mem_singleton] at hp
    rcases hp with hp | rfl
    · have := el p hp; omega
    · simp; omega
  · by_cases e : j < sent
    · rcases cov j g1 e with c | ⟨p, hp, c⟩
      · exact .inl c
      · exact .inr ⟨p, by simp [hp], c⟩
    · exact .inr ⟨(sent, n), by simp, by simp; omega, by simp; omega⟩
theorem Fv.deliver (F n : Nat) (hp : (F, n) ∈ L) (L' : List (Nat × Nat)) (h1 : ∀ q ∈ L', q ∈ L) (h2 : ∀ q ∈ L, q ∈ L' ∨ q = (F, n)) : Fv W N got sent m (max h (F + n)) L' (x.hold F (cutT txt F n) false) := by
  obtain ⟨of, n0, pos, sm, mg, gm, sN, hs, gh, el, cov, hh⟩ := H
  have e0 := el _ hp
  simp only at e0
  refine ⟨of.hold F n false (by omega) (fun e => by cases e), n0, pos, sm, mg, gm, sN, by omega, by omega, fun q hq => el q (h1 q hq), fun j g1 g2 => ?_, fun k hk hH => ?_⟩
  · simp only [Bf.hold, cutT_len]
    rw [pos]
    by_cases e : F ≤ j ∧ j < F + n
    · rw [if_pos (by omega)]; exact .inl rfl
    · rw [if_neg (by omega)]
      rcases cov j g1 g2 with c | ⟨p, hp2, c⟩
      · exact .inl c
      · rcases h2 p hp2 with h3 | rfl
        · exact .inr ⟨p, h3, c⟩
        · exact absurd c (by simpa using e)
  · simp only [Bf.hold, cutT_len] at hH
    rw [pos] at hH
    by_cases e : (F : Int) ≤ got + k ∧ (got : Int) + k < (F : Int) + n
    · omega
    · rw [if_neg e] at hH
      have := hh k hk hH
      omega
theorem Fv.read (c m' : Nat) (hc : c ≤ x.ready) (h1 : m ≤ m') (h2 : m' ≤ got + c + W) (h3 : got + c < m') : Fv W N (got + c) sent m' h L (x.read c) := by
  obtain ⟨of, n0, pos, sm, mg, gm, sN, hs, gh, el, cov, hh⟩ := H
  have hr := x.ready_le
  refine ⟨of.read c hc, n0, by show x.pos + c = _; rw [pos]; omega, by omega, h2, h3, sN, hs, ?_, el, fun j g1 g2 => ?_, fun k hk hH => ?_⟩
  · by_cases e : c = 0
    · omega
    · have := hh (c - 1) (by omega) (x.held _ (by omega)); omega
  · simp only [Bf.read]
    rw [if_pos (by omega)]
    rw [show j - (got + c) + c = j - got by omega]
    exact cov j (by omega) g2
  · simp only [Bf.read] at hH
    by_cases e : k + c < x.n
    · rw [if_pos e] at hH
      have := hh (k + c) (by omega) hH
      omega
    · rw [if_neg e] at hH; cases hH
theorem Fv.all_ready (hL : L = []) : x.ready = sent - got := by
  obtain ⟨of, n0, pos, sm, mg, gm, sN, hs, gh, el, cov, hh⟩ := H
  refine rdy_uniq _ _ _ (by omega) (fun i hi => ?_) (fun hl => ?_)
  · rcases cov (got + i) (by omega) (by omega) with c | ⟨p, hp, _⟩
    · rwa [show got + i - got = i by omega] at c
    · rw [hL] at hp; cases hp
  · cases hH : x.H (sent - got) with
    | false => rfl
    | true => have := hh (sent - got) (by omega) hH; omega
end
/-- How much is left to do. -/
def psi (N got sent : Nat) (L : List (Nat × Nat)) : Nat := 51 * ((N - sent) + L.length) + (N - got)
def Lv (N got sent : Nat) (L : List (Nat × Nat)) (i : Nat) : Prop := 60 ≤ i → ∃ j r, i = 60 + 3 * j + r ∧
  ((r = 0 ∧ (psi N got sent L + 51 * j + 51 ≤ 55111 ∨ (psi N got sent L + 51 * j ≤ 55111 ∧ L.length = 0 ∧ got = sent))) ∨
   (r = 1 ∧ (psi N got sent L + 51 * j + 51 ≤ 55111 ∨ (psi N got sent L + 51 * j ≤ 55111 ∧ L.length = 1))) ∨
   (r = 2 ∧ (psi N got sent L + 51 * j + 102 ≤ 55111 ∨ (psi N got sent L + 51 * j + 51 ≤ 55111 ∧ L.length = 0))))
theorem Lv.early {N got sent i : Nat} {L : List (Nat × Nat)} (hN : N ≤ 1000) (hL : L.length ≤ i) (hi : i ≤ 60) : Lv N got sent L i := by
  intro h
  refine ⟨0, 0, by omega, .inl ⟨rfl, .inl ?_⟩⟩
  unfold psi; omega
theorem Lv.final {N got sent : Nat} {L : List (Nat × Nat)} (h : Lv N got sent L 4000) : False := by
  obtain ⟨j, r, e, c⟩ := h (by omega)
  omega
/-- Behind the sixtieth round the step is the default one. -/
def Dflt (i : Nat) (V : Sp) : Prop := 60 ≤ i → V.rd = decide (i % 3 = 2) ∧ V.n = 50 ∧ V.off = (i % 3 : Nat) ∧ V.fin = false
def Mid (N got sent : Nat) (L : List (Nat × Nat)) (i : Nat) (rd : Bool) : Prop := 60 ≤ i → (rd = false → Lv N got sent L (i + 1)) ∧ (rd = true → i % 3 = 2 ∧ Lv N got sent L i)
section
variable {W N got sent m h i : Nat} {L : List (Nat × Nat)} {x : Bf} {V : Sp} (H : Fv W N got sent m h L x) (hL : Lv N got sent L i) (hV : Dflt i V) (hg : got < N)
include H hL hV hg
theorem Mid.send (o n : Nat) (ho : pickI V.off 3 = o) (h0 : o = 0) (b : Nat) (hb : pickI V.n 60 = b) (hn : n = min (b + 1) (min (m - sent) (N - sent))) (h1 : 1 ≤ n) : Mid N got (sent + n) (L ++ [(sent, n)]) i V.rd := by
  intro hi
  obtain ⟨v1, v2, v3, v4⟩ := hV hi
  have e1 : pickI V.off 3 = ((i % 3 : Nat) : Int) := by rw [v3]; unfold pickI; rw [if_neg (by omega)]; omega
  have e2 : i % 3 = 0 := by omega
  have e3 : V.rd = false := by rw [v1]; exact decide_eq_false (by omega)
  have hb2 : b = 50 := by rw [v2] at hb; have : pickI 50 60 = 50 := by decide
                          omega
  refine ⟨fun _ h2 => ?_, fun h2 => by rw [e3] at h2; cases h2⟩
  obtain ⟨j, r, e, c⟩ := hL hi
  have hr : r = 0 := by omega
  have hlen : (L ++ [(sent, n)]).length = L.length + 1 := by simp
  have hs := H.sm
  have hsN := H.sN
  refine ⟨j, 1, by omega, .inr (.inl ⟨rfl, ?_⟩)⟩
  unfold psi at c ⊢
  rw [hlen]
  omega
theorem Mid.deliver (o : Nat) (ho : pickI V.off 3 = o) (h1 : o = 1) (L' : List (Nat × Nat)) (hl : V.fin = false → L'.length + 1 = L.length) : Mid N got sent L' i V.rd := by
  intro hi
  obtain ⟨v1, v2, v3, v4⟩ := hV hi
  have e1 : pickI V.off 3 = ((i % 3 : Nat) : Int) := by rw [v3]; unfold pickI; rw [if_neg (by omega)]; omega
  have e2 : i % 3 = 1 := by omega
  have e3 : V.rd = false := by rw [v1]; exact decide_eq_false (by omega)
  refine ⟨fun _ h2 => ?_, fun h2 => by rw [e3] at h2; cases h2⟩
  obtain ⟨j, r, e, c⟩ := hL hi
  have hr : r = 1 := by omega
  have hlen := hl v4
  refine ⟨j, 2, by omega, .inr (.inr ⟨rfl, ?_⟩)⟩
  unfold psi at c ⊢
  omega
theorem Mid.idle (o : Nat) (ho : pickI V.off 3 = o) (b : Nat) (hb : pickI V.n 60 = b) (h0 : o = 0 → min (b + 1) (min (m - sent) (N - sent)) = 0) (h1 : o = 1 → L.length = 0) : Mid N got sent L i V.rd := by
  intro hi
  obtain ⟨v1, v2, v3, v4⟩ := hV hi
  have e1 : pickI V.off 3 = ((i % 3 : Nat) : Int) := by rw [v3]; unfold pickI; rw [if_neg (by omega)]; omega
  have hb2 : b = 50 := by rw [v2] at hb; have : pickI 50 60 = 50 := by decide
                          omega
  have hs := H.sm
  have hsN := H.sN
  have hgm := H.gm
  obtain ⟨j, r, e, c⟩ := hL hi
  refine ⟨fun h2 h3 => ?_, fun h2 => ?_⟩
  · rw [v1] at h2
    have h2 := of_decide_eq_false h2
    by_cases r0 : r = 0
    · have := h0 (by omega)
      refine ⟨j, 1, by omega, .inr (.inl ⟨rfl, ?_⟩)⟩
      omega
    · have hr : r = 1 := by omega
      have := h1 (by omega)
      refine ⟨j, 2, by omega, .inr (.inr ⟨rfl, ?_⟩)⟩
      unfold psi at c ⊢
      omega
  · rw [v1] at h2
    have h2 := of_decide_eq_true h2
    exact ⟨h2, hL⟩
end
theorem Mid.skip {N got sent i : Nat} {L : List (Nat × Nat)} (hN : N ≤ 1000) (hl : L.length ≤ i + 1) {rd : Bool} (h : Mid N got sent L i rd) (hr : rd = false) : Lv N got sent L (i + 1) := by
  rcases Nat.lt_or_ge i 60 with c | c
  · exact Lv.early hN hl (by omega)
  · exact (h c).1 hr
theorem Mid.read {W N got sent m h i : Nat} {L : List (Nat × Nat)} {x : Bf} {V : Sp} (H : Fv W N got sent m h L x) (hV : Dflt i V) (hN : N ≤ 1000) (hl : L.length ≤ i + 1) (hM : Mid N got sent L i V.rd) (hr : V.rd = true) (b : Nat) (hb : pickI V.n 60 = b) (c : Nat) (hc : c = min (b + 1) x.ready) : Lv N (got + c) sent L (i + 1) := by
  rcases Nat.lt_or_ge i 60 with g | g
  · exact Lv.early hN hl (by omega)
  · obtain ⟨v1, v2, v3, v4⟩ := hV g
    have hb2 : b = 50 := by rw [v2] at hb; have : pickI 50 60 = 50 := by decide
                            omega
    obtain ⟨e1, e2⟩ := (hM g).2 hr
    intro _
    obtain ⟨j, r, e, k⟩ := e2 g
    have hr2 : r = 2 := by omega
    have hsN := H.sN
    have hgs : got ≤ sent := Nat.le_trans H.gh H.hs
    refine ⟨j + 1, 0, by omega, .inl ⟨rfl, ?_⟩⟩
    by_cases el : L.length = 0
    · have hra := H.all_ready (List.length_eq_zero_iff.1 el)
      unfold psi at k ⊢
      omega
    · unfold psi at k ⊢
      omega
end Go.Proofs.YtnnmmmeppbdlnaaDoor
