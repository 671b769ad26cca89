/- ReassemblyFlowControlled: the wire, a row of structs of five cells that grows and is cut apart. -/
import Derived.Test.YtnnmmmeppbdlnaaDoorFoP
import Derived.Test.YtnnmmmeppbdlnaaDoorSnZ
namespace Go.Proofs.YtnnmmmeppbdlnaaDoor
open Go Go.RowKit
set_option linter.unusedVariables false
set_option linter.unusedSectionVars false
set_option linter.unusedSimpArgs false

/-- The cells of a piece on the wire. -/
def pcs (p : Nat × Nat) : List Value := [.bool false, .int .i64 0, .int .i64 p.1, .string (cutS p.1 p.2), .bool false]
theorem pcs_len (p : Nat × Nat) : (pcs p).length = 5 := rfl
theorem flat_len (L : List (Nat × Nat)) : (L.flatMap pcs).length = L.length * 5 := by
  induction L with
  | nil => rfl
  | cons p L ih => rw [List.flatMap_cons, List.length_append, ih, pcs_len, List.length_cons]; omega
theorem flat_get (L : List (Nat × Nat)) : ∀ (k : Nat) (hk : k < L.length) (j : Nat), j < 5 → (L.flatMap pcs)[k * 5 + j]? = (pcs (L[k]'hk))[j]? := by
  induction L with
  | nil => intro k hk; simp at hk
  | cons p L ih =>
    intro k hk j hj
    rw [List.flatMap_cons]
    cases k with
    | zero => rw [List.getElem?_append_left (by rw [pcs_len]; omega), Nat.zero_mul, Nat.zero_add]; rfl
    | succ k =>
      rw [List.getElem?_append_right (by rw [pcs_len]; omega), pcs_len, show (k + 1) * 5 + j - 5 = k * 5 + j by omega, ih k (by simpa using hk) j hj]
      rfl
theorem flat_get_inv (L : List (Nat × Nat)) (q : Nat) (u : Value) (h : (L.flatMap pcs)[q]? = some u) : ∃ (k : Nat) (hk : k < L.length) (j : Nat), j < 5 ∧ q = k * 5 + j ∧ (pcs (L[k]'hk))[j]? = some u := by
  have hq : q < L.length * 5 := by
    rw [← flat_len]
    rcases Nat.lt_or_ge q (L.flatMap pcs).length with x | x
    · exact x
    · rw [List.getElem?_eq_none x] at h; cases h
  have hk : q / 5 < L.length := by omega
  refine ⟨q / 5, hk, q % 5, by omega, by omega, ?_⟩
  rw [← flat_get L (q / 5) hk (q % 5) (by omega), show q / 5 * 5 + q % 5 = q by omega, h]
theorem flat_one (L : List (Nat × Nat)) : ∀ u ∈ L.flatMap pcs, u.oneCell' = true := by
  intro u hu
  obtain ⟨p, _, hp⟩ := List.mem_flatMap.1 hu
  simp only [pcs, List.mem_cons, List.not_mem_nil, or_false] at hp
  rcases hp with rfl | rfl | rfl | rfl | rfl <;> rfl
/-- The slice v owns a row of the pieces L. -/
def Wire (w : World) (base : Nat) (v : Value) (L : List (Nat × Nat)) : Prop := w.ownsRow base 32 5 v L.length (L.flatMap pcs)
theorem Wire.form {w : World} {base : Nat} {v : Value} {L : List (Nat × Nat)} (h : Wire w base v L) (hl : 0 < L.length) : ∃ g cap, v = .slice (some ⟨g, 0, none⟩) L.length cap ∧ base ≤ g ∧ g < w.heap.size ∧ L.length ≤ cap ∧ ∀ k (hk : k < L.length) j, j < 5 → w.cell? ⟨g, k * 5 + j, none⟩ = (pcs (L[k]'hk))[j]? := by
  rcases h.2 with ⟨_, h2⟩ | ⟨g, cap, cur, rfl, hb, hg, h1, h2, h3, h4⟩
  · omega
  · refine ⟨g, cap, rfl, hb, (Array.getElem?_eq_some_iff.1 hg).1, h1, fun k hk j hj => ?_⟩
    have hA : At w g 32 cur := hg
    rw [← flat_get L k hk j hj]
    have e : (cur.toList.take (L.length * 5))[k * 5 + j]? = (L.flatMap pcs)[k * 5 + j]? := by rw [h4]
    rw [List.getElem?_take, if_pos (by omega)] at e
    rw [← e]
    have := flat_len L
    obtain ⟨u, hu⟩ : ∃ u, (L.flatMap pcs)[k * 5 + j]? = some u := ⟨_, List.getElem?_eq_getElem (by omega)⟩
    rw [hu] at e
    have e2 : cur[k * 5 + j]? = some u := by simpa using e
    rw [hA.cell _ e2]
    simpa using e2.symm
theorem Wire.keep {w w' : World} {base : Nat} {v : Value} {L : List (Nat × Nat)} (h : Wire w base v L) {S : List Nat} (ho : Only S w w') (hS : ∀ k ∈ S, k < base) : Wire w' base v L := by
  refine ⟨h.1, ?_⟩
  rcases h.2 with h2 | ⟨g, cap, cur, rfl, hb, hg, h1, h2, h3, h4⟩
  · exact .inl h2
  · exact .inr ⟨g, cap, cur, rfl, hb, (ho.block g (Array.getElem?_eq_some_iff.1 hg).1 (fun hm => by have := hS g hm; omega)).trans hg, h1, h2, h3, h4⟩
theorem Wire.weaken {w : World} {base base' : Nat} {v : Value} {L : List (Nat × Nat)} (h : Wire w base v L) (hb : base' ≤ base) : Wire w base' v L := by
  refine ⟨h.1, ?_⟩
  rcases h.2 with h2 | ⟨g, cap, cur, rfl, hb2, r⟩
  · exact .inl h2
  · exact .inr ⟨g, cap, cur, rfl, by omega, r⟩
theorem Wire.shape {w : World} {base : Nat} {v : Value} {L : List (Nat × Nat)} (h : Wire w base v L) : ∃ a cap, v = .slice a L.length cap := by
  rcases h.2 with ⟨rfl, h2⟩ | ⟨g, cap, cur, rfl, _⟩
  · rw [h2]; exact ⟨_, _, rfl⟩
  · exact ⟨_, _, rfl⟩
theorem Wire.nil (w : World) (base : Nat) : Wire w base (.slice none 0 0) [] := ⟨rfl, .inl ⟨rfl, rfl⟩⟩
theorem A_infoP : (Tryd.prog.info? 32).map (fun i => (i.zero.map fun z => z.cells.size, i.size, i.bytes)) = some (some 5, 5, 48) := by kernel_rfl
/-- append of the pieces M, which lie at a, to the row L. -/
theorem Wire.append {w : World} {base : Nat} {v : Value} {L : List (Nat × Nat)} (h : Wire w base v L) (a : Addr) (M : List (Nat × Nat)) (c : Nat) (hM : ∀ k (hk : k < M.length) j, j < 5 → w.cell? (a.add (k * 5 + j)) = (pcs (M[k]'hk))[j]?) (hs : L.length + M.length ≤ 10000) (hbase : base ≤ w.heap.size) :
    ∃ v' w', (∀ ty, (Builtin.append_ #[22, 22] ty #[v, .slice (some a) M.length c]).run Tryd.prog w = .ok v' w') ∧ Wire w' base v' (L ++ M) ∧ w.grownBy w' v.ownBlock := by
  obtain ⟨i, hi, hzz⟩ := Option.map_eq_some_iff.1 A_infoP
  simp only [Prod.mk.injEq] at hzz
  obtain ⟨hz0, hsz, hb⟩ := hzz
  obtain ⟨z, hz, hz5⟩ := Option.map_eq_some_iff.1 hz0
  have key := fun ty => run_append_own (P := Tryd.prog) w base 22 ty 32 i z 5 48 Tryd.underlying22 hi hz hsz hb hz5 (by decide) v L.length (L.flatMap pcs) h a M.length c (M.flatMap pcs) (flat_len M) (fun q u hq => by
    obtain ⟨k, hk, j, hj, rfl, e⟩ := flat_get_inv M q u hq
    rw [hM k hk j hj, e]) (flat_one M) (by unfold maxLen; omega) (by omega) hbase
  obtain ⟨v', w', e1, e2, e3, _⟩ := key 22
  refine ⟨v', w', fun ty => ?_, ?_, e3⟩
  · rw [← e1]; rfl
  · unfold Wire
    rw [List.length_append, List.flatMap_append]
    exact e2
/-- Where a slice from l on begins. -/
def slB5 (g l cap : Nat) : Addr := if cap = l then ⟨g, 0, none⟩ else ⟨g, l * 5, none⟩
theorem A_sizeP : (Tryd.prog.info? 32).map (·.size) = some 5 := by kernel_rfl
set_option maxRecDepth 100000 in
theorem slice_rest5 (g n cap l : Nat) (h : l ≤ n) (h2 : n ≤ cap) (w : World) : (Instr.slice 22 (.slice (some ⟨g, 0, none⟩) n cap) (some (.int .i64 l)) none none).run Tryd.prog w = .ok (.slice (some (slB5 g l cap)) (n - l) (cap - l)) w := by
  rw [run_slice_l w 22 _ n cap Tryd.underlying22 .i64 l (by omega) (by omega)]
  have hs := A_sizeP
  cases hq : Tryd.prog.info? 32 with
  | none => rw [hq] at hs; cases hs
  | some i =>
    rw [hq] at hs
    have hi : i.size = 5 := by simpa using hs
    have he : Tryd.prog.elem 22 = 32 := by kernel_rfl
    simp [sizeOf, typeInfo, he, hq, hi, sliced, slB5, Result.andThen, Addr.add]
    split <;> simp
    all_goals (intro e; omega)
set_option maxRecDepth 100000 in
theorem slice_head5 (g n cap l : Nat) (h : l ≤ n) (h2 : n ≤ cap) (w : World) : (Instr.slice 22 (.slice (some ⟨g, 0, none⟩) n cap) none (some (.int .i64 l)) none).run Tryd.prog w = .ok (.slice (some ⟨g, 0, none⟩) l cap) w := by
  rw [run_slice_h w 22 _ n cap Tryd.underlying22 .i64 l (by omega) (by omega)]
  have hs := A_sizeP
  cases hq : Tryd.prog.info? 32 with
  | none => rw [hq] at hs; cases hs
  | some i =>
    rw [hq] at hs
    have hi : i.size = 5 := by simpa using hs
    have he : Tryd.prog.elem 22 = 32 := by kernel_rfl
    simp [sizeOf, typeInfo, he, hq, hi, sliced, Result.andThen, Addr.add]
/-- One piece is cut out of the row. -/
theorem cut_wire {w : World} {base : Nat} {L : List (Nat × Nat)} {g cap : Nat} (h : Wire w base (.slice (some ⟨g, 0, none⟩) L.length cap) L) (hg : g < w.heap.size) (hc : ∀ k (hk : k < L.length) j, j < 5 → w.cell? ⟨g, k * 5 + j, none⟩ = (pcs (L[k]'hk))[j]?) (hcap : L.length ≤ cap) (hl : L.length ≤ 5000) (k : Nat) (hk : k < L.length) :
    ∃ v1 w1 v2 w2, (∀ ty, (Builtin.append_ #[22, 22] ty #[.slice (some ⟨w.heap.size, 0, none⟩) 0 0, .slice (some ⟨g, 0, none⟩) k cap]).run Tryd.prog (w.alloc (.cells #[] 32)).drew = .ok v1 w1) ∧
      (∀ ty, (Builtin.append_ #[22, 22] ty #[v1, .slice (some (slB5 g (k + 1) cap)) (L.length - (k + 1)) (cap - (k + 1))]).run Tryd.prog w1 = .ok v2 w2) ∧ Wire w2 w.heap.size v2 (L.take k ++ L.drop (k + 1)) ∧ Below w.heap.size w w2 := by
  have hW : Below w.heap.size w (w.alloc (.cells #[] 32)).drew := ((Below.refl _ w).alloc (Nat.le_refl _) _).drew
  have h0 : Wire (w.alloc (.cells #[] 32)).drew w.heap.size (.slice (some ⟨w.heap.size, 0, none⟩) 0 0) [] :=
    ⟨rfl, .inr ⟨w.heap.size, 0, #[], rfl, Nat.le_refl _, (At.new w 32 #[]).drew, Nat.le_refl _, Nat.zero_le _, rfl, rfl⟩⟩
  have hlk : (L.take k).length = k := by simp; omega
  obtain ⟨v1, w1, e1, n1, g1⟩ := h0.append ⟨g, 0, none⟩ (L.take k) cap (fun q hq j hj => by
    rw [add_at, Nat.zero_add, hW.cell (p := ⟨g, q * 5 + j, none⟩) hg, hc q (by omega) j hj]
    simp) (by simp; omega) hW.size
  rw [hlk] at e1
  have hB1 : Below w.heap.size w w1 := hW.grown g1 hW.size (fun j e => (World.ownsRow.lt h0 j e).1)
  have hld : (L.drop (k + 1)).length = L.length - (k + 1) := by simp
  obtain ⟨v2, w2, e2, n2, g2⟩ := n1.append (slB5 g (k + 1) cap) (L.drop (k + 1)) (cap - (k + 1)) (fun q hq j hj => by
    unfold slB5
    rw [if_neg (by omega), add_at, hB1.cell (p := ⟨g, (k + 1) * 5 + (q * 5 + j), none⟩) hg, show (k + 1) * 5 + (q * 5 + j) = (k + 1 + q) * 5 + j by omega, hc (k + 1 + q) (by omega) j hj]
    simp) (by simp; omega) hB1.size
  rw [hld] at e2
  exact ⟨v1, w1, v2, w2, e1, e2, n2, hB1.grown g2 hB1.size (fun j e => (World.ownsRow.lt n1 j e).1)⟩
end Go.Proofs.YtnnmmmeppbdlnaaDoor
