/- Plain law of generated ranges: they are as they should be. -/
import Derived.Test.YtmmgmpghkpbgkaaFrG
namespace Go.Proofs.Ytmmgmpghkpbgkaa
open Go.RowKit
set_option linter.unusedVariables false
set_option linter.unusedSimpArgs false

theorem RgOk.snoc {f t : Int} (h0 : 0 ≤ f) (h1 : f < t) (h2 : t ≤ 281474976710656) (L : List (Int × Int)) : ∀ {fr : Int}, RgOk fr L → (∀ q, L.getLast? = some q → t < q.1) → (L = [] → t < fr) → RgOk fr (L ++ [(f, t)]) := by
  induction L with
  | nil => intro fr _ _ hn; exact ⟨h0, h1, h2, hn rfl, trivial⟩
  | cons p r ih =>
    obtain ⟨a, b⟩ := p
    intro fr h hq _
    obtain ⟨k1, k2, k3, k4, k5⟩ := h
    refine ⟨k1, k2, k3, k4, ih k5 (fun q hq' => hq q ?_) (fun hr => ?_)⟩
    · cases r with
      | nil => cases hq'
      | cons x y => simpa using hq'
    · subst hr
      exact hq (a, b) rfl
/-- The ranges that RangesFrom has built when the next one ends at to. -/
structure RfInv (k : Nat) (L : List (Int × Int)) (to : Int) : Prop where
  len : L.length = k
  ok : RgOk 281474976710658 L
  top : to ≤ 1073741824
  low : -1000 ≤ to
  last : ∀ q, L.getLast? = some q → to < q.1
  one : k = 0 → 1 ≤ to
theorem RfInv.start {x : Int} (h0 : 0 ≤ x) (h1 : x < 1073741824) : RfInv 0 [] (1 + x) := ⟨rfl, trivial, by omega, by omega, fun q h => (by cases h), fun _ => by omega⟩
theorem RfInv.step {k : Nat} {L : List (Int × Int)} {to x y f : Int} (h : RfInv k L to) (ht : 0 < to) (hx : 0 ≤ x) (hx2 : x < 20) (hy : 0 ≤ y) (hy2 : y < 20) (hf : f = if to - 1 - x < 0 then 0 else to - 1 - x) : RfInv (k + 1) (L ++ [(f, to)]) (f - 1 - y) := by
  have hf0 : 0 ≤ f ∧ f < to := by rw [hf]; split <;> omega
  have := h.top
  refine ⟨by simp [h.len], h.ok.snoc hf0.1 hf0.2 (by omega) L h.last (fun _ => by omega), by omega, by omega, fun q hq => ?_, fun hk => by omega⟩
  rw [List.getLast?_append] at hq
  simp at hq
  subst hq
  show f - 1 - y < f
  omega
end Go.Proofs.Ytmmgmpghkpbgkaa
