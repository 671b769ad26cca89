/- Plain law of AcksTruncated: a number that travels truncated is recovered. -/
import Derived.Test.YthjlkiilkiggiaaAkT
import Derived.Test.YthjlkiilkiggiaaPnK
namespace Go.Proofs.Ythjlkiilkiggiaa
open Go Go.RowKit Go.Shelf
set_option linter.unusedVariables false

theorem back_raw (win x pn f : Int) (hw : win = 256 ∨ win = 65536 ∨ win = 16777216 ∨ win = 4294967296) (h0 : -1 ≤ f) (h1 : f < x) (h2 : x ≤ pn) (h3 : 2 * (pn - f) < win) (h4 : pn ≤ 281474976710655) : expRaw win x (pn % win) = pn := by
  unfold expRaw candZ
  rcases hw with rfl | rfl | rfl | rfl
  all_goals
    split
    · omega
    · split <;> omega
theorem width_back (pn f lg : Int) (h0 : -1 ≤ f) (h1 : f ≤ lg) (h2 : lg < pn) (h3 : pn ≤ 281474976710655) (h4 : 2 * (pn - f) < 4294967296) :
    widthE pn f = 0 ∧ truncE pn (widthW pn f) = 0 ∧ expV lg (truncV pn (widthW pn f)) (widthW pn f) = pn ∧ expE lg (truncV pn (widthW pn f)) (widthW pn f) = 0 := by
  have key : ∀ W win, widthW pn f = W → winZ W = win → 1 ≤ W → W ≤ 4 → (win = 256 ∨ win = 65536 ∨ win = 16777216 ∨ win = 4294967296) → 2 * (pn - f) < win →
      truncE pn W = 0 ∧ expV lg (truncV pn W) W = pn ∧ expE lg (truncV pn W) W = 0 := by
    intro W win _ hwin w1 w4 hw hlt
    have ht : truncV pn W = pn % win := by unfold truncV; rw [if_pos (by omega), hwin]
    have he : truncE pn W = 0 := by unfold truncE; rw [if_pos (by omega)]
    have hr := back_raw win (lg + 1) pn f hw h0 (by omega) (by omega) hlt h3
    have hb : 0 ≤ pn % win ∧ pn % win < win := by
      rcases hw with rfl | rfl | rfl | rfl <;> omega
    obtain ⟨a, b⟩ := exp_good (w := W) (by omega : -1 ≤ lg) (by omega) w1 w4 hb.1 hwin hb.2 hr h3
    exact ⟨he, by rw [ht]; exact a.symm, by rw [ht]; exact b.symm⟩
  refine ⟨by unfold widthE; rw [if_pos (by omega)], ?_⟩
  by_cases c1 : 2 * (pn - f) < 256
  · have hW : widthW pn f = 1 := by unfold widthW; rw [if_pos (by omega), if_pos c1]
    rw [hW]; exact key 1 256 hW rfl (by omega) (by omega) (by simp) c1
  by_cases c2 : 2 * (pn - f) < 65536
  · have hW : widthW pn f = 2 := by unfold widthW; rw [if_pos (by omega), if_neg c1, if_pos c2]
    rw [hW]; exact key 2 65536 hW rfl (by omega) (by omega) (by simp) c2
  by_cases c3 : 2 * (pn - f) < 16777216
  · have hW : widthW pn f = 3 := by unfold widthW; rw [if_pos (by omega), if_neg c1, if_neg c2, if_pos c3]
    rw [hW]; exact key 3 16777216 hW rfl (by omega) (by omega) (by simp) c3
  · have hW : widthW pn f = 4 := by unfold widthW; rw [if_pos (by omega), if_neg c1, if_neg c2, if_neg c3, if_pos h4]
    rw [hW]; exact key 4 4294967296 hW rfl (by omega) (by omega) (by simp) h4
end Go.Proofs.Ythjlkiilkiggiaa
