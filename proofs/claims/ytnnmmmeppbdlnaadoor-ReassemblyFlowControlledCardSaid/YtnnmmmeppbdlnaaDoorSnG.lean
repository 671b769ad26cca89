/- Contracts of package reassembly: the table of checks. -/
import Derived.Test.YtnnmmmeppbdlnaaDoorSnF
import Derived.Laws.EntriesVeiled
import Derived.Laws.Rows
namespace Go.Proofs.YtnnmmmeppbdlnaaDoor
open Go Go.RowKit
set_option linter.unusedVariables false
set_option linter.unusedSectionVars false
set_option linter.unusedSimpArgs false

theorem fin_c (b g1 g2 : Nat) (x : Bf) (w : World) (hA : BufAt w b g1 g2 x) (off : Int) (s : ByteArray) (fl : Bool) (hs : s.size ≤ 8192) (q0 : 0 ≤ off) (q1 : off ≤ 1099511627776) :
    Calls Tryd.prog 47 #[.pointer (some ⟨b, 0, none⟩), .agg #[.int .i64 off, .string s, .bool fl]] w fun e w' => e = .returned (.bool (x.finB (off + s.size) fl)) ∧ Only [] w w' := by
  cases fl with
  | true =>
    by_cases hi : off + s.size < x.hi
    · rw [show x.finB (off + s.size) true = false by simp [Bf.finB, hi]]
      exact fin_lt b g1 g2 x w hA off s hs q0 q1 hi
    · cases hk : x.kn with
      | false =>
        rw [show x.finB (off + s.size) true = true by simp [Bf.finB, hk]; omega]
        exact fin_u1 b g1 g2 x w hA off s hs q0 q1 hk hi
      | true =>
        by_cases he : off + s.size = x.fin
        · rw [show x.finB (off + s.size) true = true by simp [Bf.finB, hk, he]; omega]
          exact fin_e1 b g1 g2 x w hA off s hs q0 q1 hk hi he
        · rw [show x.finB (off + s.size) true = false by simp [Bf.finB, hk, he]]
          by_cases hl : off + s.size < x.fin
          · exact fin_n1 b g1 g2 x w hA off s hs q0 q1 hk hi he hl
          · exact fin_m1 b g1 g2 x w hA off s hs q0 q1 hk hi he hl
  | false =>
    cases hk : x.kn with
    | false =>
      rw [show x.finB (off + s.size) false = true by simp [Bf.finB, hk]]
      exact fin_u0 b g1 g2 x w hA off s hs q0 q1 hk
    | true =>
      by_cases he : off + s.size = x.fin
      · rw [show x.finB (off + s.size) false = true by simp [Bf.finB, hk, he]]
        exact fin_e0 b g1 g2 x w hA off s hs q0 q1 hk he
      · by_cases hl : off + s.size < x.fin
        · rw [show x.finB (off + s.size) false = true by simp [Bf.finB, hl]]
          exact fin_l0 b g1 g2 x w hA off s hs q0 q1 hk he hl
        · rw [show x.finB (off + s.size) false = false by simp [Bf.finB, hk, he]; omega]
          exact fin_n0 b g1 g2 x w hA off s hs q0 q1 hk he hl
/-- The table that checks hands out. -/
def tabV (b bx : Nat) (c f r g : Addr) : Array Value := #[.func (.func 45) #[] #[], .iface 109 (.pointer (some g)), .func (.func 46) #[.pointer (some ⟨b, 0, none⟩)] #[], .iface 109 (.pointer (some c)), .func (.func 47) #[.pointer (some ⟨b, 0, none⟩)] #[], .iface 109 (.pointer (some f)), .func (.func 48) #[] #[.pointer (some ⟨bx, 0, none⟩)], .iface 109 (.pointer (some r))]
set_option maxRecDepth 100000 in
set_option maxHeartbeats 2000000 in
theorem checks_c (b g1 g2 B : Nat) (x : Bf) (c f r g : Addr) (w : World) (hA : BufAt w b g1 g2 x) (hS : Snt B c f r g w) (hB : B ≤ w.heap.size) :
    Calls Tryd.prog 40 #[.pointer (some ⟨b, 0, none⟩)] w fun e w' => e = .returned (.agg (tabV b w.heap.size c f r g)) ∧ At w' w.heap.size 24 #[.pointer (some ⟨b, 0, none⟩)] ∧ Only [] w w' := by
  have hg := hS.g4
  have l0 : b < w.heap.size := hA.lt.1
  have ho : Only [] w ((w.alloc (.cells #[.pointer (some ⟨b, 0, none⟩)] 24)).alloc (.cells #[.nilFunc, .nilIface, .nilFunc, .nilIface, .nilFunc, .nilIface, .nilFunc, .nilIface] 86)) := ((Only.refl _ _).alloc _).alloc _
  have bB := (At.new w 24 #[.pointer (some ⟨b, 0, none⟩)]).alloc (.cells #[.nilFunc, .nilIface, .nilFunc, .nilIface, .nilFunc, .nilIface, .nilFunc, .nilIface] 86)
  have bT := At.new (w.alloc (.cells #[.pointer (some ⟨b, 0, none⟩)] 24)) 86 #[.nilFunc, .nilIface, .nilFunc, .nilIface, .nilFunc, .nilIface, .nilFunc, .nilIface]
  simp only [World.size_alloc] at bT
  have k0 := (ho.cell (p := ⟨0, 0, none⟩) (by show 0 < w.heap.size; omega) (by simp)).trans hS.vc
  have k1 := (ho.cell (p := ⟨1, 0, none⟩) (by show 1 < w.heap.size; omega) (by simp)).trans hS.vf
  have k2 := (ho.cell (p := ⟨2, 0, none⟩) (by show 2 < w.heap.size; omega) (by simp)).trans hS.vr
  have k3 := (ho.cell (p := ⟨3, 0, none⟩) (by show 3 < w.heap.size; omega) (by simp)).trans hS.vg
  clear hA hS
  unfold tabV
  go_enter Tryd.func40, Tryd.ntmps40
  go_wp2
  obtain ⟨W1, hW1⟩ : ∃ W1, ((w.alloc (.cells #[.pointer (some ⟨b, 0, none⟩)] 24)).alloc (.cells #[.nilFunc, .nilIface, .nilFunc, .nilIface, .nilFunc, .nilIface, .nilFunc, .nilIface] 86)) = W1 := ⟨_, rfl⟩
  rw [hW1] at ho bB bT k0 k1 k2 k3 ⊢
  clear hW1
  have kb : W1.cell? ⟨w.heap.size, 0, none⟩ = some (.pointer (some ⟨b, 0, none⟩)) := bB.cell 0 rfl
  have t0 : W1.cell? ⟨w.heap.size + 1, 0, none⟩ = some .nilFunc := bT.cell 0 rfl
  have t1 : W1.cell? ⟨w.heap.size + 1, 1, none⟩ = some .nilIface := bT.cell 1 rfl
  have t2 : W1.cell? ⟨w.heap.size + 1, 2, none⟩ = some .nilFunc := bT.cell 2 rfl
  have t3 : W1.cell? ⟨w.heap.size + 1, 3, none⟩ = some .nilIface := bT.cell 3 rfl
  have t4 : W1.cell? ⟨w.heap.size + 1, 4, none⟩ = some .nilFunc := bT.cell 4 rfl
  have t5 : W1.cell? ⟨w.heap.size + 1, 5, none⟩ = some .nilIface := bT.cell 5 rfl
  have t6 : W1.cell? ⟨w.heap.size + 1, 6, none⟩ = some .nilFunc := bT.cell 6 rfl
  have t7 : W1.cell? ⟨w.heap.size + 1, 7, none⟩ = some .nilIface := bT.cell 7 rfl
  have fz : ∀ k, W1.frozen? ⟨w.heap.size + 1, k, none⟩ = false := fun k => bT.free k
  have BB := Lib.hid bB; clear bB
  have BT := Lib.hid bT; clear bT
  go_still_tail 16, (by kernel_rfl)
  go_wp2
  refine bodyPost_ret (results_cell_row rfl _ _ (w.heap.size + 1) 86 _ (0, 0) _ rfl ((((((((BT.out.set 0 _ rfl).set 1 _ rfl).set 2 _ rfl).set 3 _ rfl).set 4 _ rfl).set 5 _ rfl).set 6 _ rfl).set 7 _ rfl).drew Tryd.underlying86 rfl (by kernel_rfl)) rfl ?_
  exact ⟨rfl, BB.out.keep (S := [w.heap.size + 1]) (((((((((Only.refl _ _).put (by simp) _).put (by simp) _).put (by simp) _).put (by simp) _).put (by simp) _).put (by simp) _).put (by simp) _).put (by simp) _).drew (by simp), ((((((((ho.putn (by omega) _).putn (by omega) _).putn (by omega) _).putn (by omega) _).putn (by omega) _).putn (by omega) _).putn (by omega) _).putn (by omega) _).drew⟩
end Go.Proofs.YtnnmmmeppbdlnaaDoor
