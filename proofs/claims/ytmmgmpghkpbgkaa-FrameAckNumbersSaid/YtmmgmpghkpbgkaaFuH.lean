/- Rows of ranges: append from anywhere. -/
import Derived.Test.YtmmgmpghkpbgkaaFuG
import Derived.Test.YtmmgmpghkpbgkaaArg
import Derived.Maps.AppendAt
namespace Go.Proofs.Ytmmgmpghkpbgkaa
open Go Go.RowKit
set_option linter.unusedVariables false
set_option linter.unusedSimpArgs false

theorem spc_inv (L : List (Int × Int)) (q : Nat) (u : Value) (h : (L.flatMap spc)[q]? = some u) : ∃ (k : Nat) (hk : k < L.length) (j : Nat), j < 2 ∧ q = k * 2 + j ∧ (spc (L[k]'hk))[j]? = some u := by
  have hq : q < L.length * 2 := by
    rw [← spc_flen]
    rcases Nat.lt_or_ge q (L.flatMap spc).length with x | x
    · exact x
    · rw [List.getElem?_eq_none x] at h; cases h
  have hk : q / 2 < L.length := by omega
  refine ⟨q / 2, hk, q % 2, by omega, by omega, ?_⟩
  rw [← spc_get L (q / 2) hk (q % 2) (by omega), show q / 2 * 2 + q % 2 = q by omega, h]
/-- append of the ranges M, which lie at a, to the row L. -/
theorem RgO.app {w : World} {base : Nat} {v : Value} {L : List (Int × Int)} (h : RgO w base v L) (a : Addr) (M : List (Int × Int)) (c : Nat) (hM : ∀ k (hk : k < M.length) j, j < 2 → w.cell? (a.add (k * 2 + j)) = (spc (M[k]'hk))[j]?) (hs : L.length + M.length ≤ 10000) (hbase : base ≤ w.heap.size) :
    ∃ v' w', (∀ ty, (Builtin.append_ #[31, 31] ty #[v, .slice (some a) M.length c]).run Try.prog w = .ok v' w') ∧ RgO w' base v' (L ++ M) ∧ w.grownBy w' v.ownBlock := by
  obtain ⟨i, hi, hzz⟩ := Option.map_eq_some_iff.1 A_infoSp
  simp only [Prod.mk.injEq] at hzz
  obtain ⟨hz0, hsz, hb⟩ := hzz
  obtain ⟨z, hz, hz5⟩ := Option.map_eq_some_iff.1 hz0
  have key := fun ty => run_append_own (P := Try.prog) w base 31 ty 43 i z 2 16 Try.underlying31 hi hz hsz hb hz5 (by decide) v L.length (L.flatMap spc) h a M.length c (M.flatMap spc) (spc_flen M) (fun q u hq => by
    obtain ⟨k, hk, j, hj, rfl, e⟩ := spc_inv M q u hq
    rw [hM k hk j hj, e]) (spc_one M) (by unfold maxLen; omega) (by omega) hbase
  obtain ⟨v', w', e1, e2, e3, _⟩ := key 31
  refine ⟨v', w', fun ty => ?_, ?_, e3⟩
  · rw [← e1]; rfl
  · unfold RgO
    rw [List.length_append, List.flatMap_append]
    exact e2
/-- What 'append(append(nil, r...), x)' makes, in either order. -/
structure TwoApp (w : World) (a : Addr) (n c : Nat) (R : List (Int × Int)) (x : Int × Int) : Prop where
  first : ∃ v1 w1 v2 w2, (∀ ty, (Builtin.append_ #[31, 31] ty #[.slice none 0 0, .slice (some a) n c]).run Try.prog w = .ok v1 w1) ∧ Only [] w w1 ∧
    (∀ ty, (Builtin.append_ #[31, 31] ty #[v1, .slice (some ⟨w1.heap.size, 0, none⟩) 1 1]).run Try.prog (w1.alloc (.cells #[.int .i64 x.1, .int .i64 x.2] 43)) = .ok v2 w2) ∧ (∃ q p, v1 = .slice q n p) ∧ (∃ q p, v2 = .slice q (n + 1) p) ∧ RgAt w2 v2 (R ++ [x]) ∧ Only [] w w2
  last : ∃ v1 w1 v2 w2, (∀ ty, (Builtin.append_ #[31, 31] ty #[.slice none 0 0, .slice (some a) n c]).run Try.prog (w.alloc (.cells #[.int .i64 x.1, .int .i64 x.2] 43)) = .ok v1 w1) ∧ Only [] w w1 ∧
    (∀ ty, (Builtin.append_ #[31, 31] ty #[v1, .slice (some ⟨w.heap.size, 0, none⟩) 1 1]).run Try.prog w1 = .ok v2 w2) ∧ (∃ q p, v1 = .slice q n p) ∧ (∃ q p, v2 = .slice q (n + 1) p) ∧ RgAt w2 v2 (R ++ [x]) ∧ Only [] w w2
theorem only_none {w w' : World} (h : w.grownBy w' none) : Only [] w w' := ⟨h.os, h.tape, h.output, h.size, fun k hk _ => h.block k hk (by simp)⟩
theorem twoApp {w : World} {a : Option Addr} {c : Nat} {R : List (Int × Int)} {x : Int × Int} (hR : RgAt w (.slice a R.length c) R) (hI : InI (R ++ [x])) (h0 : R ≠ []) (hs : R.length ≤ 1000) : ∃ ad, a = some ad ∧ TwoApp w ad R.length c R x := by
  obtain ⟨a', cap', he, hc⟩ := hR
  cases he
  obtain ⟨g, off, rfl, hg, _⟩ := hc 0 (List.length_pos_iff.2 h0)
  have hcell : ∀ k (hk : k < R.length) j, j < 2 → w.cell? ((⟨g, off, none⟩ : Addr).add (k * 2 + j)) = (spc (R[k]'hk))[j]? := by
    intro k hk j hj
    obtain ⟨g2, off2, e, _, c1, c2, _⟩ := hc k hk
    cases e
    rw [add_of_none]
    rcases j with _ | _ | j
    · exact c1
    · exact c2
    · omega
  have hcell2 : ∀ w', Only [] w w' → ∀ k (hk : k < R.length) j, j < 2 → w'.cell? ((⟨g, off, none⟩ : Addr).add (k * 2 + j)) = (spc (R[k]'hk))[j]? := by
    intro w' ho k hk j hj
    rw [← hcell k hk j hj, add_of_none]
    exact ho.cell (p := ⟨g, off + (k * 2 + j), none⟩) hg (by simp)
  have hnil : ∀ (ww : World) base, RgO ww base (.slice none 0 0) [] := fun ww base => ⟨rfl, .inl ⟨rfl, rfl⟩⟩
  refine ⟨⟨g, off, none⟩, rfl, ?_, ?_⟩
  · obtain ⟨v1, w1, e1, r1, g1⟩ := (hnil w w.heap.size).app ⟨g, off, none⟩ R c hcell (by simp; omega) (Nat.le_refl _)
    have o1 : Only [] w w1 := only_none g1
    rw [List.nil_append] at r1
    have oa : Only [] w1 (w1.alloc (.cells #[.int .i64 x.1, .int .i64 x.2] 43)) := (Only.refl [] w1).alloc _
    have hA := At.new w1 43 #[.int .i64 x.1, .int .i64 x.2]
    obtain ⟨v2, w2, e2, r2, g2⟩ := (show RgO (w1.alloc (.cells #[.int .i64 x.1, .int .i64 x.2] 43)) w.heap.size v1 R from r1.keep (S := []) oa (by simp)).app ⟨w1.heap.size, 0, none⟩ [x] 1 (fun k hk j hj => by
      have hk0 : k = 0 := by simpa using hk
      subst hk0
      rw [add_of_none]
      rcases j with _ | _ | j
      · exact hA.cell 0 rfl
      · exact hA.cell 1 rfl
      · omega) (by simp; omega) (by simp; have := o1.size; omega)
    have o2 : Only [] w w2 := Only.of_below (((o1.below (B := w.heap.size) (by simp) (Nat.le_refl _)).alloc o1.size _).grown g2 (by simp; have := o1.size; omega) (fun j e => (World.ownsRow.lt r1 j e).1))
    obtain ⟨q1, p1, rfl⟩ := r1.shape
    obtain ⟨q2, p2, rfl⟩ := r2.shape
    exact ⟨_, _, _, _, e1, o1, e2, ⟨_, _, rfl⟩, ⟨q2, p2, by simp⟩, r2.at hI, o2⟩
  · have oa : Only [] w (w.alloc (.cells #[.int .i64 x.1, .int .i64 x.2] 43)) := (Only.refl [] w).alloc _
    have hA := At.new w 43 #[.int .i64 x.1, .int .i64 x.2]
    obtain ⟨v1, w1, e1, r1, g1⟩ := (hnil (w.alloc (.cells #[.int .i64 x.1, .int .i64 x.2] 43)) (w.heap.size + 1)).app ⟨g, off, none⟩ R c (hcell2 _ oa) (by simp; omega) (by simp)
    have o1 : Only [] (w.alloc (.cells #[.int .i64 x.1, .int .i64 x.2] 43)) w1 := only_none g1
    rw [List.nil_append] at r1
    have hA1 := hA.keep o1 (by simp)
    obtain ⟨v2, w2, e2, r2, g2⟩ := r1.app ⟨w.heap.size, 0, none⟩ [x] 1 (fun k hk j hj => by
      have hk0 : k = 0 := by simpa using hk
      subst hk0
      rw [add_of_none]
      rcases j with _ | _ | j
      · exact hA1.cell 0 rfl
      · exact hA1.cell 1 rfl
      · omega) (by simp; omega) (by have := o1.size; simp at this; omega)
    have o2 : Only [] w w2 := Only.of_below (((oa.trans o1).below (B := w.heap.size) (by simp) (Nat.le_refl _)).grown g2 (oa.trans o1).size (fun j e => Nat.le_trans (Nat.le_succ _) (World.ownsRow.lt r1 j e).1))
    obtain ⟨q1, p1, rfl⟩ := r1.shape
    obtain ⟨q2, p2, rfl⟩ := r2.shape
    exact ⟨_, _, _, _, e1, oa.trans o1, e2, ⟨_, _, rfl⟩, ⟨q2, p2, by simp⟩, r2.at hI, o2⟩
end Go.Proofs.Ytmmgmpghkpbgkaa
