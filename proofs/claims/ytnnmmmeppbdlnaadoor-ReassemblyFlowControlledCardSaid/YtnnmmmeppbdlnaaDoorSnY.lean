/- ReassemblyComplete: the plain law, and rows of numbers that are cut apart. -/
import Derived.Test.YtnnmmmeppbdlnaaDoorSnX
import Derived.Laws.AppendOwn
namespace Go.Proofs.YtnnmmmeppbdlnaaDoor
open Go Go.RowKit
set_option linter.unusedVariables false
set_option linter.unusedSectionVars false
set_option linter.unusedSimpArgs false

/-- What is known of the buffer while the starts L are still to come. -/
structure Cv (N p : Nat) (L : List Int) (x : Bf) : Prop where
  of : Of txt N x
  n : x.n = 301
  pos : x.pos = 0
  el : ∀ s ∈ L, 0 ≤ s ∧ (s < N ∨ (N = 0 ∧ s = 0))
  held : ∀ m : Nat, m < N → ((m / p * p : Nat) : Int) ∉ L → x.H m = true
  kn : (∀ s ∈ L, s + p < N) → x.kn = true
theorem hold_H (x : Bf) (off : Int) (s : List UInt8) (f : Bool) (m : Nat) (h : x.H m = true) : (x.hold off s f).H m = true := by
  simp only [Bf.hold]; split
  · rfl
  · exact h
theorem Cv.extra {N p : Nat} {L : List Int} {x : Bf} (h : Cv N p L x) (f n : Nat) (hn : f + n ≤ N) : Cv N p L (x.hold f (cutT txt f n) false) :=
  ⟨h.of.hold f n false hn (fun e => by cases e), h.n, h.pos, h.el, fun m hm hL => hold_H _ _ _ _ _ (h.held m hm hL), fun hL => by simp only [Bf.hold]; exact h.kn hL⟩
theorem Cv.piece {N p : Nat} (hp : 1 ≤ p) {A C : List Int} {s : Int} {x : Bf} (h : Cv N p (A ++ s :: C) x) (F to : Nat) (hF : s = F) (hto : to = min (F + p) N) (z : Bool) (hz : z = true ↔ to = N) : Cv N p (A ++ C) (x.hold F (cutT txt F (to - F)) z) := by
  have hs := h.el s (by simp)
  have hFN : F ≤ N := by omega
  refine ⟨h.of.hold F (to - F) z (by omega) (fun e => by have := hz.1 e; omega), h.n, h.pos, fun t ht => h.el t ?_, fun m hm hL => ?_, fun hL => ?_⟩
  · simp only [List.mem_append, List.mem_cons] at ht ⊢; rcases ht with a | a <;> simp [a]
  · by_cases e : ((m / p * p : Nat) : Int) = s
    · have h1 : m / p * p = F := by omega
      have h2 := Nat.div_add_mod m p
      have h3 := Nat.mod_lt m (show 0 < p by omega)
      rw [Nat.mul_comm] at h2
      simp only [Bf.hold, cutT_len]
      rw [if_pos ?_]
      rw [h.pos]
      omega
    · refine hold_H _ _ _ _ _ (h.held m hm (fun hm2 => ?_))
      simp only [List.mem_append, List.mem_cons] at hm2 hL
      rcases hm2 with a | a | a
      · exact hL (.inl a)
      · exact e a
      · exact hL (.inr a)
  · simp only [Bf.hold]
    cases z with
    | true => rfl
    | false =>
      have : ¬ to = N := fun e => by have := hz.2 e; cases this
      simp only [Bool.false_eq_true, if_false]
      refine h.kn (fun t ht => ?_)
      simp only [List.mem_append, List.mem_cons] at ht
      rcases ht with a | a | a
      · exact hL t (by simp [a])
      · subst a; omega
      · exact hL t (by simp [a])
section
variable {N p : Nat} {x : Bf} (h : Cv N p [] x) (hN : N ≤ 300)
include h hN
theorem Cv.top (k : Nat) (hk : N ≤ k) (hk2 : k < 301) : x.H k = false := by
  cases hH : x.H k with
  | false => rfl
  | true => have := (h.of.bytes k (by rw [h.n]; exact hk2) hH).2; rw [h.pos] at this; omega
theorem Cv.ready : x.ready = N := rdy_uniq _ _ _ (by rw [h.n]; omega) (fun i hi => h.held i hi (by simp)) (fun hl => Cv.top h hN N (Nat.le_refl _) (by omega))
theorem Cv.many : x.many N = N := by unfold Bf.many; rw [Cv.ready h hN]; split <;> omega
theorem Cv.out : strB (x.out N) = txtS N := by
  rw [h.of.outS N 0 (by rw [h.pos]; rfl) (by rw [Cv.ready h hN]; exact Nat.le_refl _), txtS_cut]
theorem Cv.last : x.last N = true := by
  have k := h.kn (by simp)
  unfold Bf.last
  rw [k, h.of.fi k, h.pos]
  simp
theorem Cv.ready2 : (x.read N).ready = 0 := rdy_uniq _ _ _ (Nat.zero_le _) (fun i hi => by omega) (fun _ => by
  show (if 0 + N < x.n then x.H (0 + N) else false) = false
  rw [if_pos (by rw [h.n]; omega), Nat.zero_add]
  exact Cv.top h hN N (Nat.le_refl _) (by omega))
end
/-- The starts of the pieces. -/
def stL (p j : Nat) : List Int := (List.range j).map fun q => ((q * p : Nat) : Int)
theorem Cv.start (N p j : Nat) (hp : 1 ≤ p) (hj : 1 ≤ j) (h1 : N ≤ j * p) (h2 : (j - 1) * p < N ∨ j = 1) : Cv N p (stL p j) (Bf.new 301) := by
  have hle : ∀ q, q < j → q * p ≤ (j - 1) * p := fun q hq => Nat.mul_le_mul_right p (by omega)
  refine ⟨Of.new _ _ _, rfl, rfl, fun s hs => ?_, fun m hm hL => ?_, fun hL => ?_⟩
  · simp only [stL, List.mem_map, List.mem_range] at hs
    obtain ⟨q, hq, rfl⟩ := hs
    have := hle q hq
    rcases h2 with h2 | h2
    · exact ⟨by omega, .inl (by omega)⟩
    · subst h2
      obtain rfl : q = 0 := by omega
      refine ⟨by simp, ?_⟩
      rcases Nat.eq_zero_or_pos N with e | e
      · exact .inr ⟨e, by simp⟩
      · exact .inl (by simp; exact e)
  · exfalso
    apply hL
    simp only [stL, List.mem_map, List.mem_range]
    refine ⟨m / p, ?_, rfl⟩
    rw [Nat.div_lt_iff_lt_mul (by omega)]
    omega
  · have := hL (((j - 1) * p : Nat) : Int) (by simp only [stL, List.mem_map, List.mem_range]; exact ⟨j - 1, by omega, rfl⟩)
    have e : (j - 1) * p + p = j * p := by
      obtain ⟨i, rfl⟩ : ∃ i, j = i + 1 := ⟨j - 1, by omega⟩
      rw [Nat.add_sub_cancel, Nat.succ_mul]
    omega

/-- The slice v owns a row of the numbers L. -/
def Nums (w : World) (base : Nat) (v : Value) (L : List Int) : Prop := w.ownsRow base 3 1 v L.length (L.map (Value.int .i64))
theorem only_of_grown {w w' : World} {row : Option Nat} {S : List Nat} (h : w.grownBy w' row) (hr : ∀ r, row = some r → r ∈ S) : Only S w w' := by
  obtain ⟨h1, h2, h3, h4, h5⟩ := h
  exact ⟨h1, h2, h3, h4, fun k hk hn => h5 k hk (fun e => hn (hr k e.symm))⟩
theorem Nums.form {w : World} {base : Nat} {v : Value} {L : List Int} (h : Nums w base v L) (hl : 0 < L.length) : ∃ g cap, v = .slice (some ⟨g, 0, none⟩) L.length cap ∧ base ≤ g ∧ g < w.heap.size ∧ L.length ≤ cap ∧ ∀ j (hj : j < L.length), w.cell? ⟨g, j, none⟩ = some (.int .i64 (L[j]'hj)) := by
  rcases h.2 with ⟨_, h2⟩ | ⟨g, cap, cur, rfl, hb, hg, h1, h2, h3, h4⟩
  · omega
  · refine ⟨g, cap, rfl, hb, (Array.getElem?_eq_some_iff.1 hg).1, h1, fun j hj => ?_⟩
    have hA : At w g 3 cur := hg
    refine hA.cell j ?_
    have e : (cur.toList.take (L.length * 1))[j]? = (L.map (Value.int .i64))[j]? := by rw [h4]
    rw [List.getElem?_take, if_pos (by omega)] at e
    simpa [hj] using e
theorem Nums.keep {w w' : World} {base : Nat} {v : Value} {L : List Int} (h : Nums w base v L) {S : List Nat} (ho : Only S w w') (hS : ∀ k ∈ S, k < base) : Nums w' base v L := by
  refine ⟨h.1, ?_⟩
  rcases h.2 with h2 | ⟨g, cap, cur, rfl, hb, hg, h1, h2, h3, h4⟩
  · exact .inl h2
  · exact .inr ⟨g, cap, cur, rfl, hb, (ho.block g (Array.getElem?_eq_some_iff.1 hg).1 (fun hm => by have := hS g hm; omega)).trans hg, h1, h2, h3, h4⟩
theorem Nums.weaken {w : World} {base base' : Nat} {v : Value} {L : List Int} (h : Nums w base v L) (hb : base' ≤ base) : Nums w base' v L := by
  refine ⟨h.1, ?_⟩
  rcases h.2 with h2 | ⟨g, cap, cur, rfl, hb2, r⟩
  · exact .inl h2
  · exact .inr ⟨g, cap, cur, rfl, by omega, r⟩
theorem A_infoI : (Tryd.prog.info? 3).map (fun i => (i.zero, i.size, i.bytes)) = some (some (.int .i64 0), 1, 8) := by kernel_rfl
/-- append of the numbers M, which lie at a, to the row L. -/
theorem Nums.append {w : World} {base : Nat} {v : Value} {L : List Int} (h : Nums w base v L) (a : Addr) (M : List Int) (c : Nat) (hM : ∀ j (hj : j < M.length), w.cell? (a.add j) = some (.int .i64 (M[j]'hj))) (hs : L.length + M.length ≤ 10000) (hbase : base ≤ w.heap.size) :
    ∃ v' w', (∀ ty, (Builtin.append_ #[50, 50] ty #[v, .slice (some a) M.length c]).run Tryd.prog w = .ok v' w') ∧ Nums w' base v' (L ++ M) ∧ w.grownBy w' v.ownBlock := by
  obtain ⟨i, hi, hzz⟩ := Option.map_eq_some_iff.1 A_infoI
  simp only [Prod.mk.injEq] at hzz
  obtain ⟨hz, hsz, hb⟩ := hzz
  have key := fun ty => run_append_own (P := Tryd.prog) w base 50 ty 3 i (.int .i64 0) 1 8 Tryd.underlying50 hi hz hsz hb rfl (by decide) v L.length (L.map (Value.int .i64)) h a M.length c (M.map (Value.int .i64)) (by simp) (fun j u hj => by
    have hj1 : j < M.length := by
      rcases Nat.lt_or_ge j M.length with x | x
      · exact x
      · rw [List.getElem?_eq_none (by simpa using x)] at hj; cases hj
    rw [hM j hj1]
    simpa [hj1] using hj) (fun u hu => by simp at hu; obtain ⟨q, _, rfl⟩ := hu; rfl) (by unfold maxLen; omega) (by omega) hbase
  obtain ⟨v', w', e1, e2, e3, _⟩ := key 50
  refine ⟨v', w', fun ty => ?_, ?_, e3⟩
  · rw [← e1]; rfl
  · unfold Nums
    rw [List.length_append, List.map_append]
    exact e2
end Go.Proofs.YtnnmmmeppbdlnaaDoor
