/- ReassemblyComplete: the walk. -/
import Derived.Test.YtnnmmmeppbdlnaaDoorSnY
import Derived.Test.YtnnmmmeppbdlnaaDoorSnR
namespace Go.Proofs.YtnnmmmeppbdlnaaDoor
open Go Go.RowKit
set_option linter.unusedVariables false
set_option linter.unusedSectionVars false
set_option linter.unusedSimpArgs false


/-- Where a slice from l on begins. -/
def slB (g l cap : Nat) : Addr := if cap = l then ⟨g, 0, none⟩ else ⟨g, l, none⟩
theorem A_sizeI : (Tryd.prog.info? 3).map (·.size) = some 1 := by kernel_rfl
set_option maxRecDepth 100000 in
theorem slice_rest (g n cap l : Nat) (h : l ≤ n) (h2 : n ≤ cap) (w : World) : (Instr.slice 50 (.slice (some ⟨g, 0, none⟩) n cap) (some (.int .i64 l)) none none).run Tryd.prog w = .ok (.slice (some (slB g l cap)) (n - l) (cap - l)) w := by
  rw [run_slice_l w 50 _ n cap Tryd.underlying50 .i64 l (by omega) (by omega)]
  have hs := A_sizeI
  cases hq : Tryd.prog.info? 3 with
  | none => rw [hq] at hs; cases hs
  | some i =>
    rw [hq] at hs
    have hi : i.size = 1 := by simpa using hs
    have he : Tryd.prog.elem 50 = 3 := by kernel_rfl
    simp [sizeOf, typeInfo, he, hq, hi, sliced, slB, Result.andThen, Addr.add]
    split <;> simp
    intro e; omega
set_option maxRecDepth 100000 in
theorem slice_head (g n cap l : Nat) (h : l ≤ n) (h2 : n ≤ cap) (w : World) : (Instr.slice 50 (.slice (some ⟨g, 0, none⟩) n cap) none (some (.int .i64 l)) none).run Tryd.prog w = .ok (.slice (some ⟨g, 0, none⟩) l cap) w := by
  rw [run_slice_h w 50 _ n cap Tryd.underlying50 .i64 l (by omega) (by omega)]
  have hs := A_sizeI
  cases hq : Tryd.prog.info? 3 with
  | none => rw [hq] at hs; cases hs
  | some i =>
    rw [hq] at hs
    have hi : i.size = 1 := by simpa using hs
    have he : Tryd.prog.elem 50 = 3 := by kernel_rfl
    simp [sizeOf, typeInfo, he, hq, hi, sliced, Result.andThen, Addr.add]
theorem add_at (g o j : Nat) : (⟨g, o, none⟩ : Addr).add j = ⟨g, o + j, none⟩ := by unfold Addr.add; split <;> simp_all
/-- One number is cut out of the row. -/
theorem cut_rows {w : World} {base : Nat} {L : List Int} {g cap : Nat} (h : Nums w base (.slice (some ⟨g, 0, none⟩) L.length cap) L) (hg : g < w.heap.size) (hc : ∀ j (hj : j < L.length), w.cell? ⟨g, j, none⟩ = some (.int .i64 (L[j]'hj))) (hcap : L.length ≤ cap) (hl : L.length ≤ 5000) (k : Nat) (hk : k < L.length) :
    ∃ v1 w1 v2 w2, (∀ ty, (Builtin.append_ #[50, 50] ty #[.slice (some ⟨w.heap.size, 0, none⟩) 0 0, .slice (some ⟨g, 0, none⟩) k cap]).run Tryd.prog (w.alloc (.cells #[] 3)).drew = .ok v1 w1) ∧
      (∀ ty, (Builtin.append_ #[50, 50] ty #[v1, .slice (some (slB g (k + 1) cap)) (L.length - (k + 1)) (cap - (k + 1))]).run Tryd.prog w1 = .ok v2 w2) ∧ Nums w2 w.heap.size v2 (L.take k ++ L.drop (k + 1)) ∧ Below w.heap.size w w2 := by
  have hW : Below w.heap.size w (w.alloc (.cells #[] 3)).drew := ((Below.refl _ w).alloc (Nat.le_refl _) _).drew
  have h0 : Nums (w.alloc (.cells #[] 3)).drew w.heap.size (.slice (some ⟨w.heap.size, 0, none⟩) 0 0) [] :=
    ⟨rfl, .inr ⟨w.heap.size, 0, #[], rfl, Nat.le_refl _, (At.new w 3 #[]).drew, Nat.le_refl _, Nat.zero_le _, rfl, rfl⟩⟩
  have hlk : (L.take k).length = k := by simp; omega
  obtain ⟨v1, w1, e1, n1, g1⟩ := h0.append ⟨g, 0, none⟩ (L.take k) cap (fun j hj => by
    rw [add_at, Nat.zero_add, hW.cell (p := ⟨g, j, none⟩) hg, hc j (by omega)]
    simp) (by simp; omega) hW.size
  rw [hlk] at e1
  have hB1 : Below w.heap.size w w1 := hW.grown g1 hW.size (fun j e => (World.ownsRow.lt h0 j e).1)
  have hld : (L.drop (k + 1)).length = L.length - (k + 1) := by simp
  obtain ⟨v2, w2, e2, n2, g2⟩ := n1.append (slB g (k + 1) cap) (L.drop (k + 1)) (cap - (k + 1)) (fun j hj => by
    unfold slB
    rw [if_neg (by omega), add_at, hB1.cell (p := ⟨g, k + 1 + j, none⟩) hg, hc (k + 1 + j) (by omega)]
    simp) (by simp; omega) hB1.size
  rw [hld] at e2
  exact ⟨v1, w1, v2, w2, e1, e2, n2, hB1.grown g2 hB1.size (fun j e => (World.ownsRow.lt n1 j e).1)⟩
def vlen : Value → Nat
  | .slice _ n _ => n
  | _ => 0
theorem Nums.vlen {w : World} {base : Nat} {v : Value} {L : List Int} (h : Nums w base v L) : vlen v = L.length := by
  rcases h.2 with ⟨rfl, h2⟩ | ⟨g, cap, cur, rfl, _⟩
  · rw [h2]; rfl
  · rfl
end Go.Proofs.YtnnmmmeppbdlnaaDoor
