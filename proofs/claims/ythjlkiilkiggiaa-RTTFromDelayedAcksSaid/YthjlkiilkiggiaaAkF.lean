/- Contracts of package acks: remove. -/
import Derived.Test.YthjlkiilkiggiaaAkE
namespace Go.Proofs.Ythjlkiilkiggiaa
open Go Go.RowKit Go.Shelf
set_option linter.unusedVariables false
set_option maxRecDepth 100000 in
set_option maxHeartbeats 400000 in
theorem remove_c (b k : Nat) (kz : Int) (F T : Nat → Int) (n : Nat) (d fl lg wh ct du : Int) (hkz : kz = (k : Int)) (hk : k < n) (hk2 : k ≤ 15) (hn : n ≤ 17) (w : World) (hT : Trk w b F T n d fl lg wh ct du) :
    Calls Try.prog 32 #[.pointer (some ⟨b, 0, none⟩), .int .i64 kz] w fun e w' => e = .returned (.tuple #[]) ∧ Trk w' b (mv F k (k + 1) (n - (k + 1))) (mv T k (k + 1) (n - (k + 1))) (n - 1) d fl lg wh ct du ∧ Only [b] w w' := by
  subst hkz
  have hcn := hT.gn
  have hcp := trk_copy (w := w.drew) hT k (k + 1) (n - (k + 1)) (17 - k) (17 - k) (16 - k) (by omega) (by omega) (by omega)
  have HT := Lib.hid (At.setRow (w := w.drew) hT (trk (mv F k (k + 1) (n - (k + 1))) (mv T k (k + 1) (n - (k + 1))) n d fl lg wh ct du))
  have HO := Lib.hid (only_setRow (S := [b]) ((Only.refl [b] w).drew) (b := b) (by simp) (trk (mv F k (k + 1) (n - (k + 1))) (mv T k (k + 1) (n - (k + 1))) n d fl lg wh ct du))
  have hc2 : (w.drew.setRow b (trk (mv F k (k + 1) (n - (k + 1))) (mv T k (k + 1) (n - (k + 1))) n d fl lg wh ct du)).cell? ⟨b, 34, none⟩ = some (.int .i64 n) := HT.out.cell 34 rfl
  have hf2 : (w.drew.setRow b (trk (mv F k (k + 1) (n - (k + 1))) (mv T k (k + 1) (n - (k + 1))) n d fl lg wh ct du)).frozen? ⟨b, 34, none⟩ = false := HT.out.free 34
  clear hT
  have e1 : IntKind.i64.wrap ((k : Int) + 1) = (k : Int) + 1 := IntWalk.i64_in _ (by omega)
  have i0 : (0 : Int) ≤ (k : Int) := by omega
  have i1 : (k : Int) ≤ 17 := by omega
  have i2 : (0 : Int) ≤ (k : Int) + 1 := by omega
  have i3 : (k : Int) + 1 ≤ (n : Int) := by omega
  have i4 : (n : Int) ≤ 17 := by omega
  go_enter Try.func32, Try.ntmps32
  go_wp2_with fail
  go_still_tail 15, (by kernel_rfl)
  go_wp2_with fail
  go_end0
  have e5 : ((n : Int) - 1) = ((n - 1 : Nat) : Int) := by omega
  exact ⟨rfl, HT.out.set 34 _ (by rw [trk_set_n, e5]), HO.out.put (by simp) _⟩
end Go.Proofs.Ythjlkiilkiggiaa
