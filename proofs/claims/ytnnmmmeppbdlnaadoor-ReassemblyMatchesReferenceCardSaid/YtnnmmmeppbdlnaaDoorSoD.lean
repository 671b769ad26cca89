/- append(s, make([]T, k)...): k zeros behind a row that is owned. -/
import Derived.Test.YtnnmmmeppbdlnaaDoorSoB
import Derived.Laws.AppendOwn
import Derived.Lib.AppendZerosOnto
namespace Go.Proofs.YtnnmmmeppbdlnaaDoor
open Go Go.RowKit
set_option linter.unusedVariables false
set_option linter.unusedSectionVars false
set_option linter.unusedSimpArgs false

theorem zc_list (z : Value) (k : Nat) (hz : z.cells = #[z]) : (Builtin.zeroCells z.cells k).toList = List.replicate k z := by
  rw [hz]
  simp [Builtin.zeroCells]
  apply List.ext_getElem
  · simp
  · intro i h1 h2
    simp [Nat.mod_one]
theorem zeros_room {P : Program} (t tn ty e : TypeId) (i : TypeInfo) (z : Value) (ht : P.underlying t = some (.slice e)) (htn : P.underlying tn = some (.int .i64)) (hi : P.info? e = some i) (hz : i.zero = some z) (hs : i.size = 1) (hzc : z.cells = #[z]) (hz1 : z.oneCell' = true)
    {w : World} {g n c k : Nat} {cur : Array Value} (hA : At w g e cur) (hc : cur.size = c) (hk : n + k ≤ c) (hb : i.bytes ≤ 8) (hl : k ≤ 20000) :
    (Builtin.append_ #[t, tn] ty #[.slice (some ⟨g, 0, none⟩) n c, .int .i64 k]).run P w = .ok (.slice (some ⟨g, 0, none⟩) (n + k) c) (w.setRow g (cur.toList.take n ++ List.replicate k z ++ cur.toList.drop (n + k)).toArray) := by
  have hw : IntKind.i64.wrap (k : Int) = k := by rw [IntKind.wrap_i64]; omega
  have hneg : ¬ ((k : Int) < 0) := by omega
  have hbb : k * i.bytes ≤ 20000 * 8 := Nat.mul_le_mul (by omega) hb
  have h48i : ¬ (281474976710656 < (k : Int) * (i.bytes : Int)) := by
    rw [← Int.natCast_mul]
    omega
  have hst := run_storeCells_at P g n e (List.replicate k z) 0 cur w hA (by simp; omega) (fun v hv => by rw [List.eq_of_mem_replicate hv]; exact hz1)
  simp only [Nat.add_zero, List.length_replicate] at hst
  have hzl := zc_list z k hzc
  by_cases hk0 : k = 0
  · subst hk0
    have hst0 : w.setRow g (cur.toList.take n ++ List.replicate 0 z ++ cur.toList.drop (n + 0)).toArray = w := by
      rw [show (cur.toList.take n ++ List.replicate 0 z ++ cur.toList.drop (n + 0)).toArray = cur by simp]
      exact setRow_self w g cur e (0, 0) hA
    rw [hst0]
    have hw0 : IntKind.i64.wrap 0 = 0 := rfl
    have hnc : n ≤ c := by omega
    simp [Builtin.append_, run_underlying ht, run_underlying htn, sizeOf, typeInfo, zeroValue, hi, hz, hs, asInt, asIntOf, hw0, hnc, storeCells]
  · simp [Builtin.append_, run_underlying ht, run_underlying htn, sizeOf, typeInfo, zeroValue, hi, hz, hs, asInt, asIntOf, hw, hneg, h48i, hk, hk0, hzl, Addr.add_lit, hst]
theorem zeros_own {P : Program} (t tn e : TypeId) (i : TypeInfo) (z : Value) (ht : P.underlying t = some (.slice e)) (htn : P.underlying tn = some (.int .i64)) (hi : P.info? e = some i) (hz : i.zero = some z) (hs : i.size = 1) (hzc : z.cells = #[z]) (hz1 : z.oneCell' = true)
    {w : World} {base g n cap : Nat} {xs : List Value} (hown : w.ownsRow base e 1 (.slice (some ⟨g, 0, none⟩) n cap) n xs) (k : Nat) (hl : n + k ≤ 10000) (hb : i.bytes = 1) (hbase : base ≤ w.heap.size) :
    ∃ v' w', (∀ ty, (Builtin.append_ #[t, tn] ty #[.slice (some ⟨g, 0, none⟩) n cap, .int .i64 k]).run P w = .ok v' w') ∧ w'.ownsRow base e 1 v' (n + k) (xs ++ List.replicate k z) ∧ w.grownBy w' (some g) ∧ (v'.ownBlock = some g ∨ v'.ownBlock = some w.heap.size) := by
  rcases hown.2 with ⟨h, _⟩ | ⟨g', cap', cur, h, hbg, hg, hnc, hcm, hcs, htake⟩
  · cases h
  · cases h
    have hx : xs.length = n := by have := hown.1; omega
    by_cases hroom : n + k ≤ cap
    · refine ⟨_, _, fun ty => zeros_room t tn ty e i z ht htn hi hz hs hzc hz1 (cur := cur) hg (by omega) hroom (by omega) (by omega), ⟨by simp [hx], .inr ⟨g, cap, _, rfl, hbg, setRow_heap w g cur _ e _ hg, hroom, hcm, ?_, ?_⟩⟩, ⟨rfl, rfl, rfl, by simp [World.setRow], fun j _ hk => setRow_other w g j _ (fun e => hk (by rw [e]))⟩, .inl rfl⟩
      · simp; omega
      · have e1 : cur.toList.take n = xs := by simpa using htake
        rw [e1, Nat.mul_one]
        simp only [List.toList_toArray]
        rw [show n + k = (xs ++ List.replicate k z).length by simp [hx]]
        exact List.take_left
    · have hk0 : 0 < k := by omega
      have holds : ∀ j u, xs[j]? = some u → w.cell? ((⟨g, 0, none⟩ : Addr).add j) = some u := hown.cells (g := g) rfl
      have hf : (Builtin.firstCells i.size n (.slice (some ⟨g, 0, none⟩) n cap)).run P w.drew = .ok xs.toArray w.drew :=
        run_firstCells_some (P := P) w.drew i.size n ⟨g, 0, none⟩ n cap xs (by rw [hs]; omega) (fun j u hj => by have := holds j u hj; simpa using this)
      have hnx : Builtin.nextslicecap (n + k) cap * i.bytes ≤ 281474976710656 := growslice_fits (by omega) (by rw [hb]; omega)
      refine ⟨_, _, fun ty => Lib.run_append_grow_zeros w t tn ty e i z .i64 .i64 ht htn hi hz (some ⟨g, 0, none⟩) n cap xs hf k hk0 (by rw [hs]; decide) (by omega) (by omega) (by rw [hb]; omega) hnx, ⟨by simp [hx], .inr ⟨w.heap.size, _, _, rfl, hbase, by exact heap_alloc_new w.drew _, grownCap_ge w (n + k) cap e, ?_, ?_, ?_⟩⟩, ⟨rfl, rfl, rfl, by simp, fun j hj _ => (Below.heap_alloc w.drew _ j hj)⟩, .inr rfl⟩
      · exact grownCap_le_maxLen w (n + k) cap e (by unfold maxLen; omega)
      · have hge := grownCap_ge w (n + k) cap e
        have hzs : z.cells.size = 1 := by rw [hzc]; rfl
        simp only [Array.size_append, List.size_toArray, size_zeroCells, hzs, hx, Nat.mul_one]
        omega
      · simp only [Array.toList_append, zc_list z k hzc, Nat.mul_one]
        rw [show n + k = (xs ++ List.replicate k z).length by simp [hx]]
        exact List.take_left
end Go.Proofs.YtnnmmmeppbdlnaaDoor
