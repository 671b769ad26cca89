/- Contracts of package reassembly: the table of checks. -/
import Derived.Test.YtgiekhohhogdiaaDoorRgG
import Derived.Laws.EntriesVeiled
import Derived.Laws.Rows
namespace Go.Proofs.YtgiekhohhogdiaaDoor
open Go Go.RowKit
set_option linter.unusedVariables false
set_option linter.unusedSectionVars false
set_option linter.unusedSimpArgs false

theorem fin_c (b g1 g2 : Nat) (x : Bf) (w : World) (hA : BufAt w b g1 g2 x) (off : Int) (s : ByteArray) (fl : Bool) (hs : s.size ≤ 8192) (q0 : 0 ≤ off) (q1 : off ≤ 1099511627776) :
    Calls Tryd.prog 58 #[.pointer (some ⟨b, 0, none⟩), .agg #[.int .i64 off, .string s, .bool fl]] w fun e w' => e = .returned (.bool (x.finB (off + s.size) fl)) ∧ Only [] w w' := by
  cases fl with
  | true =>
    by_cases hi : off + s.size < x.hi
    · rw [show x.finB (off + s.size) true = false by simp [Bf.finB, hi]]
      exact fin_lt b g1 g2 x w hA off s hs q0 q1 hi
    · cases hk : x.kn with
      | false =>
        rw [show x.finB (off + s.size) true = true by simp [Bf.finB, hk]; omega]
        exact fin_u1 b g1 g2 x w hA off s hs q0 q1 hk hi
      | true =>
        by_cases he : off + s.size = x.fin
        · rw [show x.finB (off + s.size) true = true by simp [Bf.finB, hk, he]; omega]
          exact fin_e1 b g1 g2 x w hA off s hs q0 q1 hk hi he
        · rw [show x.finB (off + s.size) true = false by simp [Bf.finB, hk, he]]
          by_cases hl : off + s.size < x.fin
          · exact fin_n1 b g1 g2 x w hA off s hs q0 q1 hk hi he hl
          · exact fin_m1 b g1 g2 x w hA off s hs q0 q1 hk hi he hl
  | false =>
    cases hk : x.kn with
    | false =>
      rw [show x.finB (off + s.size) false = true by simp [Bf.finB, hk]]
      exact fin_u0 b g1 g2 x w hA off s hs q0 q1 hk
    | true =>
      by_cases he : off + s.size = x.fin
      · rw [show x.finB (off + s.size) false = true by simp [Bf.finB, hk, he]]
        exact fin_e0 b g1 g2 x w hA off s hs q0 q1 hk he
      · by_cases hl : off + s.size < x.fin
        · rw [show x.finB (off + s.size) false = true by simp [Bf.finB, hl]]
          exact fin_l0 b g1 g2 x w hA off s hs q0 q1 hk he hl
        · rw [show x.finB (off + s.size) false = false by simp [Bf.finB, hk, he]; omega]
          exact fin_n0 b g1 g2 x w hA off s hs q0 q1 hk he hl
/-- The table that checks hands out. -/
def tabV (b bx : Nat) (c f r g : Addr) : Array Value := #[.func (.func 56) #[] #[], .iface 141 (.pointer (some g)), .func (.func 57) #[.pointer (some ⟨b, 0, none⟩)] #[], .iface 141 (.pointer (some c)), .func (.func 58) #[.pointer (some ⟨b, 0, none⟩)] #[], .iface 141 (.pointer (some f)), .func (.func 59) #[] #[.pointer (some ⟨bx, 0, none⟩)], .iface 141 (.pointer (some r))]
set_option maxRecDepth 100000 in
set_option maxHeartbeats 2000000 in
theorem checks_c (b g1 g2 B : Nat) (x : Bf) (c f r g : Addr) (w : World) (hA : BufAt w b g1 g2 x) (hS : Snt B c f r g w) (hB : B ≤ w.heap.size) :
    Calls Tryd.prog 31 #[.pointer (some ⟨b, 0, none⟩)] w fun e w' => e = .returned (.agg (tabV b w.heap.size c f r g)) ∧ At w' w.heap.size 26 #[.pointer (some ⟨b, 0, none⟩)] ∧ Only [] w w' := by
  have hg := hS.g4
  have l0 : b < w.heap.size := hA.lt.1
  have ho : Only [] w ((w.alloc (.cells #[.pointer (some ⟨b, 0, none⟩)] 26)).alloc (.cells #[.nilFunc, .nilIface, .nilFunc, .nilIface, .nilFunc, .nilIface, .nilFunc, .nilIface] 86)) := ((Only.refl _ _).alloc _).alloc _
  have bB := (At.new w 26 #[.pointer (some ⟨b, 0, none⟩)]).alloc (.cells #[.nilFunc, .nilIface, .nilFunc, .nilIface, .nilFunc, .nilIface, .nilFunc, .nilIface] 86)
  have bT := At.new (w.alloc (.cells #[.pointer (some ⟨b, 0, none⟩)] 26)) 86 #[.nilFunc, .nilIface, .nilFunc, .nilIface, .nilFunc, .nilIface, .nilFunc, .nilIface]
  simp only [World.size_alloc] at bT
  have k0 := (ho.cell (p := ⟨0, 0, none⟩) (by show 0 < w.heap.size; omega) (by simp)).trans hS.vc
  have k1 := (ho.cell (p := ⟨1, 0, none⟩) (by show 1 < w.heap.size; omega) (by simp)).trans hS.vf
  have k2 := (ho.cell (p := ⟨2, 0, none⟩) (by show 2 < w.heap.size; omega) (by simp)).trans hS.vr
  have k3 := (ho.cell (p := ⟨3, 0, none⟩) (by show 3 < w.heap.size; omega) (by simp)).trans hS.vg
  clear hA hS
  unfold tabV
  go_enter Tryd.func31, Tryd.ntmps31
  go_wp2
  obtain ⟨W1, hW1⟩ : ∃ W1, ((w.alloc (.cells #[.pointer (some ⟨b, 0, none⟩)] 26)).alloc (.cells #[.nilFunc, .nilIface, .nilFunc, .nilIface, .nilFunc, .nilIface, .nilFunc, .nilIface] 86)) = W1 := ⟨_, rfl⟩
  rw [hW1] at ho bB bT k0 k1 k2 k3 ⊢
  clear hW1
  have kb : W1.cell? ⟨w.heap.size, 0, none⟩ = some (.pointer (some ⟨b, 0, none⟩)) := bB.cell 0 rfl
  have t0 : W1.cell? ⟨w.heap.size + 1, 0, none⟩ = some .nilFunc := bT.cell 0 rfl
  have t1 : W1.cell? ⟨w.heap.size + 1, 1, none⟩ = some .nilIface := bT.cell 1 rfl
  have t2 : W1.cell? ⟨w.heap.size + 1, 2, none⟩ = some .nilFunc := bT.cell 2 rfl
  have t3 : W1.cell? ⟨w.heap.size + 1, 3, none⟩ = some .nilIface := bT.cell 3 rfl
  have t4 : W1.cell? ⟨w.heap.size + 1, 4, none⟩ = some .nilFunc := bT.cell 4 rfl
  have t5 : W1.cell? ⟨w.heap.size + 1, 5, none⟩ = some .nilIface := bT.cell 5 rfl
  have t6 : W1.cell? ⟨w.heap.size + 1, 6, none⟩ = some .nilFunc := bT.cell 6 rfl
  have t7 : W1.cell? ⟨w.heap.size + 1, 7, none⟩ = some .nilIface := bT.cell 7 rfl
  have fz : ∀ k, W1.frozen? ⟨w.heap.size + 1, k, none⟩ = false := fun k => bT.free k
  have BB := Lib.hid bB; clear bB
  have BT := Lib.hid bT; clear bT
  go_still_tail 16, (by kernel_rfl)
  go_wp2
  refine bodyPost_ret (results_cell_row rfl _ _ (w.heap.size + 1) 86 _ (0, 0) _ rfl ((((((((BT.out.set 0 _ rfl).set 1 _ rfl).set 2 _ rfl).set 3 _ rfl).set 4 _ rfl).set 5 _ rfl).set 6 _ rfl).set 7 _ rfl).drew Tryd.underlying86 rfl (by kernel_rfl)) rfl ?_
  exact ⟨rfl, BB.out.keep (S := [w.heap.size + 1]) (((((((((Only.refl _ _).put (by simp) _).put (by simp) _).put (by simp) _).put (by simp) _).put (by simp) _).put (by simp) _).put (by simp) _).put (by simp) _).drew (by simp), ((((((((ho.putn (by omega) _).putn (by omega) _).putn (by omega) _).putn (by omega) _).putn (by omega) _).putn (by omega) _).putn (by omega) _).putn (by omega) _).drew⟩
end Go.Proofs.YtgiekhohhogdiaaDoor
/- Contracts of package reassembly: put. -/
namespace Go.Proofs.YtgiekhohhogdiaaDoor
open Go Go.RowKit
set_option linter.unusedVariables false
set_option linter.unusedSectionVars false
set_option linter.unusedSimpArgs false

theorem tab_0 (b bx : Nat) (c f r g : Addr) (w : World) : (Instr.index 86 (.agg (tabV b bx c f r g)) (.int .i64 0)).run Tryd.prog w = .ok (.agg #[.func (.func 56) #[] #[], .iface 141 (.pointer (some g))]) w := by kernel_rfl
theorem tab_1 (b bx : Nat) (c f r g : Addr) (w : World) : (Instr.index 86 (.agg (tabV b bx c f r g)) (.int .i64 1)).run Tryd.prog w = .ok (.agg #[.func (.func 57) #[.pointer (some ⟨b, 0, none⟩)] #[], .iface 141 (.pointer (some c))]) w := by kernel_rfl
theorem tab_2 (b bx : Nat) (c f r g : Addr) (w : World) : (Instr.index 86 (.agg (tabV b bx c f r g)) (.int .i64 2)).run Tryd.prog w = .ok (.agg #[.func (.func 58) #[.pointer (some ⟨b, 0, none⟩)] #[], .iface 141 (.pointer (some f))]) w := by kernel_rfl
theorem tab_3 (b bx : Nat) (c f r g : Addr) (w : World) : (Instr.index 86 (.agg (tabV b bx c f r g)) (.int .i64 3)).run Tryd.prog w = .ok (.agg #[.func (.func 59) #[] #[.pointer (some ⟨bx, 0, none⟩)], .iface 141 (.pointer (some r))]) w := by kernel_rfl
theorem buf_hi {w : World} {b g1 g2 : Nat} {y : Bf} (h : BufAt w b g1 g2 y) (v : Int) (v0 : 0 ≤ v) (v1 : v ≤ 1099511627776) : BufAt (w.setCell ⟨b, 3, none⟩ (.int .i64 v)) b g1 g2 { y with hi := v } := by
  obtain ⟨a1, r, t, d1, d2, d3, n1, n0, p0, p1, h0, h1⟩ := h
  exact ⟨a1.set 3 _ rfl, r.far (fun e => d1 e.symm) _, t.far (fun e => d2 e.symm) _, d1, d2, d3, n1, n0, p0, p1, v0, v1⟩
theorem buf_fin {w : World} {b g1 g2 : Nat} {y : Bf} (h : BufAt w b g1 g2 y) (v : Int) : BufAt ((w.setCell ⟨b, 4, none⟩ (.int .i64 v)).setCell ⟨b, 5, none⟩ (.bool true)) b g1 g2 { y with fin := v, kn := true } := by
  obtain ⟨a1, r, t, d1, d2, d3, n1, n0, p0, p1, h0, h1⟩ := h
  exact ⟨(a1.set 4 _ rfl).set 5 _ rfl, (r.far (fun e => d1 e.symm) _).far (fun e => d1 e.symm) _, (t.far (fun e => d2 e.symm) _).far (fun e => d2 e.symm) _, d1, d2, d3, n1, n0, p0, p1, h0, h1⟩
section
variable (b g1 g2 B : Nat) (x : Bf) (c f r g : Addr) (off : Int) (s : ByteArray) (fl : Bool) (w : World) (hA : BufAt w b g1 g2 x) (hS : Snt B c f r g w) (hB : B ≤ w.heap.size)
include hA hS hB
set_option maxRecDepth 100000 in
set_option maxHeartbeats 4000000 in
theorem put_g (h0 : Bf.argB off s.size = false) : Calls Tryd.prog 21 #[.pointer (some ⟨b, 0, none⟩), .agg #[.int .i64 off, .string s, .bool fl]] w fun e w' => e = .returned (.iface 141 (.pointer (some g))) ∧ Only [] w w' := by
  have HA := Lib.hid hA; clear hA
  have HS := Lib.hid hS; clear hS
  have hlen : s.data.toList.length = s.size := by simp
  go_enter Tryd.func21, Tryd.ntmps21
  go_wp2_with fail
  refine (checks_c b g1 g2 B x c f r g _ (HA.out.alloc _) (HS.out.below ((Below.refl _ w).alloc hB _)) (by simp; omega)).mono ?_
  rintro e w1 ⟨rfl, hb1, ho1⟩
  have bP := (At.new w 66 #[.int .i64 off, .string s, .bool fl]).keep ho1 (by simp)
  have hA1 := (HA.out.alloc (.cells #[.int .i64 off, .string s, .bool fl] 66)).keep ho1 (by simp) (by simp) (by simp)
  have HO := Lib.hid (((Only.refl [] w).alloc (.cells #[.int .i64 off, .string s, .bool fl] 66)).trans ho1)
  clear ho1
  simp only [World.size_alloc] at hb1 ⊢
  have HA1 := Lib.hid hA1; clear hA1
  have HX := Lib.hid hb1; clear hb1
  have HP := Lib.hid bP; clear bP
  have HO1 : Hid (Only [] w1 w1) := Lib.hid (Only.refl _ _)
  have p0 : w1.cell? ⟨w.heap.size, 0, none⟩ = some (.int .i64 off) := HP.out.cell 0 rfl
  have p1 : w1.cell? ⟨w.heap.size, 1, none⟩ = some (.string s) := HP.out.cell 1 rfl
  have p2 : w1.cell? ⟨w.heap.size, 2, none⟩ = some (.bool fl) := HP.out.cell 2 rfl
  have i0 := tab_0 b (w.heap.size + 1) c f r g
  have i1 := tab_1 b (w.heap.size + 1) c f r g
  have i2 := tab_2 b (w.heap.size + 1) c f r g
  have i3 := tab_3 b (w.heap.size + 1) c f r g
  unfold tabV at *
  have hlt : w.heap.size < w1.heap.size := HP.out.lt
  go_wp2_with fail
  refine wp_loop_rounds 5 ?_
  rw [rounds_succ]
  go_wp2_with fail
  refine (chk1_c off s fl _).mono ?_
  rintro e w2 ⟨he, ho⟩
  rw [h0] at he
  subst he
  have HO2 : Hid (Only [] w1 w2) := Lib.hid ((HO1.out.alloc _).trans ho)
  have ce : w2.cell? ⟨w1.heap.size, 1, none⟩ = some (.iface 141 (.pointer (some g))) := (ho.cell (p := ⟨w1.heap.size, 1, none⟩) (by simp) (by simp)).trans (by simp)
  clear ho
  go_wp2_with fail
  go_ret
  exact ⟨rfl, HO.out.trans HO2.out⟩
set_option maxRecDepth 100000 in
set_option maxHeartbeats 4000000 in
theorem put_c (h0 : Bf.argB off s.size = true) (h1 : x.agrB off s.data.toList = false) : Calls Tryd.prog 21 #[.pointer (some ⟨b, 0, none⟩), .agg #[.int .i64 off, .string s, .bool fl]] w fun e w' => e = .returned (.iface 141 (.pointer (some c))) ∧ Only [] w w' := by
  have hr := (Bf.argB_iff off s.size).1 h0
  obtain ⟨q0, q1, hs, q2⟩ := hr
  have HA := Lib.hid hA; clear hA
  have HS := Lib.hid hS; clear hS
  have hlen : s.data.toList.length = s.size := by simp
  go_enter Tryd.func21, Tryd.ntmps21
  go_wp2_with fail
  refine (checks_c b g1 g2 B x c f r g _ (HA.out.alloc _) (HS.out.below ((Below.refl _ w).alloc hB _)) (by simp; omega)).mono ?_
  rintro e w1 ⟨rfl, hb1, ho1⟩
  have bP := (At.new w 66 #[.int .i64 off, .string s, .bool fl]).keep ho1 (by simp)
  have hA1 := (HA.out.alloc (.cells #[.int .i64 off, .string s, .bool fl] 66)).keep ho1 (by simp) (by simp) (by simp)
  have HO := Lib.hid (((Only.refl [] w).alloc (.cells #[.int .i64 off, .string s, .bool fl] 66)).trans ho1)
  clear ho1
  simp only [World.size_alloc] at hb1 ⊢
  have HA1 := Lib.hid hA1; clear hA1
  have HX := Lib.hid hb1; clear hb1
  have HP := Lib.hid bP; clear bP
  have HO1 : Hid (Only [] w1 w1) := Lib.hid (Only.refl _ _)
  have p0 : w1.cell? ⟨w.heap.size, 0, none⟩ = some (.int .i64 off) := HP.out.cell 0 rfl
  have p1 : w1.cell? ⟨w.heap.size, 1, none⟩ = some (.string s) := HP.out.cell 1 rfl
  have p2 : w1.cell? ⟨w.heap.size, 2, none⟩ = some (.bool fl) := HP.out.cell 2 rfl
  have i0 := tab_0 b (w.heap.size + 1) c f r g
  have i1 := tab_1 b (w.heap.size + 1) c f r g
  have i2 := tab_2 b (w.heap.size + 1) c f r g
  have i3 := tab_3 b (w.heap.size + 1) c f r g
  unfold tabV at *
  have hlt : w.heap.size < w1.heap.size := HP.out.lt
  go_wp2_with fail
  refine wp_loop_rounds 5 ?_
  rw [rounds_succ]
  go_wp2_with fail
  refine (chk1_c off s fl _).mono ?_
  rintro e w2 ⟨he, ho⟩
  rw [h0] at he
  subst he
  have HO2 : Hid (Only [] w1 w2) := Lib.hid ((HO1.out.alloc _).trans ho)
  clear ho p0 p1 p2 hlt
  have p0 : w2.cell? ⟨w.heap.size, 0, none⟩ = some (.int .i64 off) := (HP.out.keep HO2.out (by simp)).cell 0 rfl
  have p1 : w2.cell? ⟨w.heap.size, 1, none⟩ = some (.string s) := (HP.out.keep HO2.out (by simp)).cell 1 rfl
  have p2 : w2.cell? ⟨w.heap.size, 2, none⟩ = some (.bool fl) := (HP.out.keep HO2.out (by simp)).cell 2 rfl
  have hlt : w.heap.size < w2.heap.size := (HP.out.keep HO2.out (by simp)).lt
  go_wp2_with fail
  rw [rounds_succ]
  go_wp2_with fail
  refine (agrees_c b g1 g2 x off s fl hs q0 q1 _ (HA1.out.keep (HO2.out.alloc _) (by simp) (by simp) (by simp))).mono ?_
  rintro e w3 ⟨he, ho⟩
  rw [h1] at he
  subst he
  have HO3 : Hid (Only [] w1 w3) := Lib.hid ((HO2.out.alloc _).trans ho)
  have ce : w3.cell? ⟨w2.heap.size, 1, none⟩ = some (.iface 141 (.pointer (some c))) := (ho.cell (p := ⟨w2.heap.size, 1, none⟩) (by simp) (by simp)).trans (by simp)
  clear ho
  go_wp2_with fail
  go_ret
  exact ⟨rfl, HO.out.trans HO3.out⟩
set_option maxRecDepth 100000 in
set_option maxHeartbeats 4000000 in
theorem put_f (h0 : Bf.argB off s.size = true) (h1 : x.agrB off s.data.toList = true) (h2 : x.finB (off + s.size) fl = false) : Calls Tryd.prog 21 #[.pointer (some ⟨b, 0, none⟩), .agg #[.int .i64 off, .string s, .bool fl]] w fun e w' => e = .returned (.iface 141 (.pointer (some f))) ∧ Only [] w w' := by
  have hr := (Bf.argB_iff off s.size).1 h0
  obtain ⟨q0, q1, hs, q2⟩ := hr
  have HA := Lib.hid hA; clear hA
  have HS := Lib.hid hS; clear hS
  have hlen : s.data.toList.length = s.size := by simp
  go_enter Tryd.func21, Tryd.ntmps21
  go_wp2_with fail
  refine (checks_c b g1 g2 B x c f r g _ (HA.out.alloc _) (HS.out.below ((Below.refl _ w).alloc hB _)) (by simp; omega)).mono ?_
  rintro e w1 ⟨rfl, hb1, ho1⟩
  have bP := (At.new w 66 #[.int .i64 off, .string s, .bool fl]).keep ho1 (by simp)
  have hA1 := (HA.out.alloc (.cells #[.int .i64 off, .string s, .bool fl] 66)).keep ho1 (by simp) (by simp) (by simp)
  have HO := Lib.hid (((Only.refl [] w).alloc (.cells #[.int .i64 off, .string s, .bool fl] 66)).trans ho1)
  clear ho1
  simp only [World.size_alloc] at hb1 ⊢
  have HA1 := Lib.hid hA1; clear hA1
  have HX := Lib.hid hb1; clear hb1
  have HP := Lib.hid bP; clear bP
  have HO1 : Hid (Only [] w1 w1) := Lib.hid (Only.refl _ _)
  have p0 : w1.cell? ⟨w.heap.size, 0, none⟩ = some (.int .i64 off) := HP.out.cell 0 rfl
  have p1 : w1.cell? ⟨w.heap.size, 1, none⟩ = some (.string s) := HP.out.cell 1 rfl
  have p2 : w1.cell? ⟨w.heap.size, 2, none⟩ = some (.bool fl) := HP.out.cell 2 rfl
  have i0 := tab_0 b (w.heap.size + 1) c f r g
  have i1 := tab_1 b (w.heap.size + 1) c f r g
  have i2 := tab_2 b (w.heap.size + 1) c f r g
  have i3 := tab_3 b (w.heap.size + 1) c f r g
  unfold tabV at *
  have hlt : w.heap.size < w1.heap.size := HP.out.lt
  go_wp2_with fail
  refine wp_loop_rounds 5 ?_
  rw [rounds_succ]
  go_wp2_with fail
  refine (chk1_c off s fl _).mono ?_
  rintro e w2 ⟨he, ho⟩
  rw [h0] at he
  subst he
  have HO2 : Hid (Only [] w1 w2) := Lib.hid ((HO1.out.alloc _).trans ho)
  clear ho p0 p1 p2 hlt
  have p0 : w2.cell? ⟨w.heap.size, 0, none⟩ = some (.int .i64 off) := (HP.out.keep HO2.out (by simp)).cell 0 rfl
  have p1 : w2.cell? ⟨w.heap.size, 1, none⟩ = some (.string s) := (HP.out.keep HO2.out (by simp)).cell 1 rfl
  have p2 : w2.cell? ⟨w.heap.size, 2, none⟩ = some (.bool fl) := (HP.out.keep HO2.out (by simp)).cell 2 rfl
  have hlt : w.heap.size < w2.heap.size := (HP.out.keep HO2.out (by simp)).lt
  go_wp2_with fail
  rw [rounds_succ]
  go_wp2_with fail
  refine (agrees_c b g1 g2 x off s fl hs q0 q1 _ (HA1.out.keep (HO2.out.alloc _) (by simp) (by simp) (by simp))).mono ?_
  rintro e w3 ⟨he, ho⟩
  rw [h1] at he
  subst he
  have HO3 : Hid (Only [] w1 w3) := Lib.hid ((HO2.out.alloc _).trans ho)
  clear ho p0 p1 p2 hlt
  have p0 : w3.cell? ⟨w.heap.size, 0, none⟩ = some (.int .i64 off) := (HP.out.keep HO3.out (by simp)).cell 0 rfl
  have p1 : w3.cell? ⟨w.heap.size, 1, none⟩ = some (.string s) := (HP.out.keep HO3.out (by simp)).cell 1 rfl
  have p2 : w3.cell? ⟨w.heap.size, 2, none⟩ = some (.bool fl) := (HP.out.keep HO3.out (by simp)).cell 2 rfl
  have hlt : w.heap.size < w3.heap.size := (HP.out.keep HO3.out (by simp)).lt
  go_wp2_with fail
  rw [rounds_succ]
  go_wp2_with fail
  refine (fin_c b g1 g2 x _ (HA1.out.keep (HO3.out.alloc _) (by simp) (by simp) (by simp)) off s fl hs q0 q1).mono ?_
  rintro e w4 ⟨he, ho⟩
  rw [h2] at he
  subst he
  have HO4 : Hid (Only [] w1 w4) := Lib.hid ((HO3.out.alloc _).trans ho)
  have ce : w4.cell? ⟨w3.heap.size, 1, none⟩ = some (.iface 141 (.pointer (some f))) := (ho.cell (p := ⟨w3.heap.size, 1, none⟩) (by simp) (by simp)).trans (by simp)
  clear ho
  go_wp2_with fail
  go_ret
  exact ⟨rfl, HO.out.trans HO4.out⟩
set_option maxRecDepth 100000 in
set_option maxHeartbeats 4000000 in
theorem put_r (h0 : Bf.argB off s.size = true) (h1 : x.agrB off s.data.toList = true) (h2 : x.finB (off + s.size) fl = true) (h3 : decide (off + s.size ≤ x.pos + x.n) = false) : Calls Tryd.prog 21 #[.pointer (some ⟨b, 0, none⟩), .agg #[.int .i64 off, .string s, .bool fl]] w fun e w' => e = .returned (.iface 141 (.pointer (some r))) ∧ Only [] w w' := by
  have hr := (Bf.argB_iff off s.size).1 h0
  obtain ⟨q0, q1, hs, q2⟩ := hr
  have HA := Lib.hid hA; clear hA
  have HS := Lib.hid hS; clear hS
  have hlen : s.data.toList.length = s.size := by simp
  go_enter Tryd.func21, Tryd.ntmps21
  go_wp2_with fail
  refine (checks_c b g1 g2 B x c f r g _ (HA.out.alloc _) (HS.out.below ((Below.refl _ w).alloc hB _)) (by simp; omega)).mono ?_
  rintro e w1 ⟨rfl, hb1, ho1⟩
  have bP := (At.new w 66 #[.int .i64 off, .string s, .bool fl]).keep ho1 (by simp)
  have hA1 := (HA.out.alloc (.cells #[.int .i64 off, .string s, .bool fl] 66)).keep ho1 (by simp) (by simp) (by simp)
  have HO := Lib.hid (((Only.refl [] w).alloc (.cells #[.int .i64 off, .string s, .bool fl] 66)).trans ho1)
  clear ho1
  simp only [World.size_alloc] at hb1 ⊢
  have HA1 := Lib.hid hA1; clear hA1
  have HX := Lib.hid hb1; clear hb1
  have HP := Lib.hid bP; clear bP
  have HO1 : Hid (Only [] w1 w1) := Lib.hid (Only.refl _ _)
  have p0 : w1.cell? ⟨w.heap.size, 0, none⟩ = some (.int .i64 off) := HP.out.cell 0 rfl
  have p1 : w1.cell? ⟨w.heap.size, 1, none⟩ = some (.string s) := HP.out.cell 1 rfl
  have p2 : w1.cell? ⟨w.heap.size, 2, none⟩ = some (.bool fl) := HP.out.cell 2 rfl
  have i0 := tab_0 b (w.heap.size + 1) c f r g
  have i1 := tab_1 b (w.heap.size + 1) c f r g
  have i2 := tab_2 b (w.heap.size + 1) c f r g
  have i3 := tab_3 b (w.heap.size + 1) c f r g
  unfold tabV at *
  have hlt : w.heap.size < w1.heap.size := HP.out.lt
  go_wp2_with fail
  refine wp_loop_rounds 5 ?_
  rw [rounds_succ]
  go_wp2_with fail
  refine (chk1_c off s fl _).mono ?_
  rintro e w2 ⟨he, ho⟩
  rw [h0] at he
  subst he
  have HO2 : Hid (Only [] w1 w2) := Lib.hid ((HO1.out.alloc _).trans ho)
  clear ho p0 p1 p2 hlt
  have p0 : w2.cell? ⟨w.heap.size, 0, none⟩ = some (.int .i64 off) := (HP.out.keep HO2.out (by simp)).cell 0 rfl
  have p1 : w2.cell? ⟨w.heap.size, 1, none⟩ = some (.string s) := (HP.out.keep HO2.out (by simp)).cell 1 rfl
  have p2 : w2.cell? ⟨w.heap.size, 2, none⟩ = some (.bool fl) := (HP.out.keep HO2.out (by simp)).cell 2 rfl
  have hlt : w.heap.size < w2.heap.size := (HP.out.keep HO2.out (by simp)).lt
  go_wp2_with fail
  rw [rounds_succ]
  go_wp2_with fail
  refine (agrees_c b g1 g2 x off s fl hs q0 q1 _ (HA1.out.keep (HO2.out.alloc _) (by simp) (by simp) (by simp))).mono ?_
  rintro e w3 ⟨he, ho⟩
  rw [h1] at he
  subst he
  have HO3 : Hid (Only [] w1 w3) := Lib.hid ((HO2.out.alloc _).trans ho)
  clear ho p0 p1 p2 hlt
  have p0 : w3.cell? ⟨w.heap.size, 0, none⟩ = some (.int .i64 off) := (HP.out.keep HO3.out (by simp)).cell 0 rfl
  have p1 : w3.cell? ⟨w.heap.size, 1, none⟩ = some (.string s) := (HP.out.keep HO3.out (by simp)).cell 1 rfl
  have p2 : w3.cell? ⟨w.heap.size, 2, none⟩ = some (.bool fl) := (HP.out.keep HO3.out (by simp)).cell 2 rfl
  have hlt : w.heap.size < w3.heap.size := (HP.out.keep HO3.out (by simp)).lt
  go_wp2_with fail
  rw [rounds_succ]
  go_wp2_with fail
  refine (fin_c b g1 g2 x _ (HA1.out.keep (HO3.out.alloc _) (by simp) (by simp) (by simp)) off s fl hs q0 q1).mono ?_
  rintro e w4 ⟨he, ho⟩
  rw [h2] at he
  subst he
  have HO4 : Hid (Only [] w1 w4) := Lib.hid ((HO3.out.alloc _).trans ho)
  clear ho p0 p1 p2 hlt
  have p0 : w4.cell? ⟨w.heap.size, 0, none⟩ = some (.int .i64 off) := (HP.out.keep HO4.out (by simp)).cell 0 rfl
  have p1 : w4.cell? ⟨w.heap.size, 1, none⟩ = some (.string s) := (HP.out.keep HO4.out (by simp)).cell 1 rfl
  have p2 : w4.cell? ⟨w.heap.size, 2, none⟩ = some (.bool fl) := (HP.out.keep HO4.out (by simp)).cell 2 rfl
  have hlt : w.heap.size < w4.heap.size := (HP.out.keep HO4.out (by simp)).lt
  go_wp2_with fail
  rw [rounds_succ]
  go_wp2_with fail
  refine (chk2_c b g1 g2 x _ (HA1.out.keep (HO4.out.alloc _) (by simp) (by simp) (by simp)) (w.heap.size + 1) off s fl hs q0 q1 (HX.out.keep (HO4.out.alloc _) (by simp))).mono ?_
  rintro e w5 ⟨he, ho⟩
  rw [h3] at he
  subst he
  have HO5 : Hid (Only [] w1 w5) := Lib.hid ((HO4.out.alloc _).trans ho)
  have ce : w5.cell? ⟨w4.heap.size, 1, none⟩ = some (.iface 141 (.pointer (some r))) := (ho.cell (p := ⟨w4.heap.size, 1, none⟩) (by simp) (by simp)).trans (by simp)
  clear ho
  go_wp2_with fail
  go_ret
  exact ⟨rfl, HO.out.trans HO5.out⟩
set_option maxRecDepth 100000 in
set_option maxHeartbeats 8000000 in
theorem put_ok_true (h0 : Bf.argB off s.size = true) (h1 : x.agrB off s.data.toList = true) (h2 : x.finB (off + s.size) true = true) (h3 : decide (off + s.size ≤ x.pos + x.n) = true) : Calls Tryd.prog 21 #[.pointer (some ⟨b, 0, none⟩), .agg #[.int .i64 off, .string s, .bool true]] w fun e w' => e = .returned .nilIface ∧ BufAt w' b g1 g2 (x.hold off s.data.toList true) ∧ Only [b, g1, g2] w w' := by
  have hr := (Bf.argB_iff off s.size).1 h0
  obtain ⟨q0, q1, hs, q2⟩ := hr
  have HA := Lib.hid hA; clear hA
  have HS := Lib.hid hS; clear hS
  have hlen : s.data.toList.length = s.size := by simp
  go_enter Tryd.func21, Tryd.ntmps21
  go_wp2_with fail
  refine (checks_c b g1 g2 B x c f r g _ (HA.out.alloc _) (HS.out.below ((Below.refl _ w).alloc hB _)) (by simp; omega)).mono ?_
  rintro e w1 ⟨rfl, hb1, ho1⟩
  have bP := (At.new w 66 #[.int .i64 off, .string s, .bool true]).keep ho1 (by simp)
  have hA1 := (HA.out.alloc (.cells #[.int .i64 off, .string s, .bool true] 66)).keep ho1 (by simp) (by simp) (by simp)
  have HO := Lib.hid (((Only.refl [] w).alloc (.cells #[.int .i64 off, .string s, .bool true] 66)).trans ho1)
  clear ho1
  simp only [World.size_alloc] at hb1 ⊢
  have HA1 := Lib.hid hA1; clear hA1
  have HX := Lib.hid hb1; clear hb1
  have HP := Lib.hid bP; clear bP
  have HO1 : Hid (Only [] w1 w1) := Lib.hid (Only.refl _ _)
  have p0 : w1.cell? ⟨w.heap.size, 0, none⟩ = some (.int .i64 off) := HP.out.cell 0 rfl
  have p1 : w1.cell? ⟨w.heap.size, 1, none⟩ = some (.string s) := HP.out.cell 1 rfl
  have p2 : w1.cell? ⟨w.heap.size, 2, none⟩ = some (.bool true) := HP.out.cell 2 rfl
  have i0 := tab_0 b (w.heap.size + 1) c f r g
  have i1 := tab_1 b (w.heap.size + 1) c f r g
  have i2 := tab_2 b (w.heap.size + 1) c f r g
  have i3 := tab_3 b (w.heap.size + 1) c f r g
  unfold tabV at *
  have hlt : w.heap.size < w1.heap.size := HP.out.lt
  go_wp2_with fail
  refine wp_loop_rounds 5 ?_
  rw [rounds_succ]
  go_wp2_with fail
  refine (chk1_c off s true _).mono ?_
  rintro e w2 ⟨he, ho⟩
  rw [h0] at he
  subst he
  have HO2 : Hid (Only [] w1 w2) := Lib.hid ((HO1.out.alloc _).trans ho)
  clear ho p0 p1 p2 hlt
  have p0 : w2.cell? ⟨w.heap.size, 0, none⟩ = some (.int .i64 off) := (HP.out.keep HO2.out (by simp)).cell 0 rfl
  have p1 : w2.cell? ⟨w.heap.size, 1, none⟩ = some (.string s) := (HP.out.keep HO2.out (by simp)).cell 1 rfl
  have p2 : w2.cell? ⟨w.heap.size, 2, none⟩ = some (.bool true) := (HP.out.keep HO2.out (by simp)).cell 2 rfl
  have hlt : w.heap.size < w2.heap.size := (HP.out.keep HO2.out (by simp)).lt
  go_wp2_with fail
  rw [rounds_succ]
  go_wp2_with fail
  refine (agrees_c b g1 g2 x off s true hs q0 q1 _ (HA1.out.keep (HO2.out.alloc _) (by simp) (by simp) (by simp))).mono ?_
  rintro e w3 ⟨he, ho⟩
  rw [h1] at he
  subst he
  have HO3 : Hid (Only [] w1 w3) := Lib.hid ((HO2.out.alloc _).trans ho)
  clear ho p0 p1 p2 hlt
  have p0 : w3.cell? ⟨w.heap.size, 0, none⟩ = some (.int .i64 off) := (HP.out.keep HO3.out (by simp)).cell 0 rfl
  have p1 : w3.cell? ⟨w.heap.size, 1, none⟩ = some (.string s) := (HP.out.keep HO3.out (by simp)).cell 1 rfl
  have p2 : w3.cell? ⟨w.heap.size, 2, none⟩ = some (.bool true) := (HP.out.keep HO3.out (by simp)).cell 2 rfl
  have hlt : w.heap.size < w3.heap.size := (HP.out.keep HO3.out (by simp)).lt
  go_wp2_with fail
  rw [rounds_succ]
  go_wp2_with fail
  refine (fin_c b g1 g2 x _ (HA1.out.keep (HO3.out.alloc _) (by simp) (by simp) (by simp)) off s true hs q0 q1).mono ?_
  rintro e w4 ⟨he, ho⟩
  rw [h2] at he
  subst he
  have HO4 : Hid (Only [] w1 w4) := Lib.hid ((HO3.out.alloc _).trans ho)
  clear ho p0 p1 p2 hlt
  have p0 : w4.cell? ⟨w.heap.size, 0, none⟩ = some (.int .i64 off) := (HP.out.keep HO4.out (by simp)).cell 0 rfl
  have p1 : w4.cell? ⟨w.heap.size, 1, none⟩ = some (.string s) := (HP.out.keep HO4.out (by simp)).cell 1 rfl
  have p2 : w4.cell? ⟨w.heap.size, 2, none⟩ = some (.bool true) := (HP.out.keep HO4.out (by simp)).cell 2 rfl
  have hlt : w.heap.size < w4.heap.size := (HP.out.keep HO4.out (by simp)).lt
  go_wp2_with fail
  rw [rounds_succ]
  go_wp2_with fail
  refine (chk2_c b g1 g2 x _ (HA1.out.keep (HO4.out.alloc _) (by simp) (by simp) (by simp)) (w.heap.size + 1) off s true hs q0 q1 (HX.out.keep (HO4.out.alloc _) (by simp))).mono ?_
  rintro e w5 ⟨he, ho⟩
  rw [h3] at he
  subst he
  have HO5 : Hid (Only [] w1 w5) := Lib.hid ((HO4.out.alloc _).trans ho)
  clear ho p0 p1 p2 hlt
  have p0 : w5.cell? ⟨w.heap.size, 0, none⟩ = some (.int .i64 off) := (HP.out.keep HO5.out (by simp)).cell 0 rfl
  have p1 : w5.cell? ⟨w.heap.size, 1, none⟩ = some (.string s) := (HP.out.keep HO5.out (by simp)).cell 1 rfl
  have p2 : w5.cell? ⟨w.heap.size, 2, none⟩ = some (.bool true) := (HP.out.keep HO5.out (by simp)).cell 2 rfl
  have hlt : w.heap.size < w5.heap.size := (HP.out.keep HO5.out (by simp)).lt
  go_wp2_with fail
  rw [rounds_succ]
  go_wp2_with fail
  have hl0 := HA.out.lt
  have hA5 := (HA1.out.keep HO5.out (by simp) (by simp) (by simp)).drewN 1
  have HA5 : Hid (BufAt w5.drew b g1 g2 x) := Lib.hid (HA1.out.keep HO5.out.drew (by simp) (by simp) (by simp))
  clear hA5
  go_region_with ((go_at_call 32; refine (hold_c b g1 g2 x off s true hs q0 q1 _ HA5.out).mono ?_; rintro e w6 ⟨rfl, hA6, ho6⟩))
  have hP6 := (HP.out.keep HO5.out.drew (by simp)).keep ho6 (by simp; omega)
  have HO6 : Hid (Only [b, g1, g2] w w6) := Lib.hid (((HO.out.trans HO5.out.drew).mono (by simp)).trans (ho6.mono (by simp)))
  clear p0 p1 p2 hlt
  have p0 : w6.cell? ⟨w.heap.size, 0, none⟩ = some (.int .i64 off) := hP6.cell 0 rfl
  have p1 : w6.cell? ⟨w.heap.size, 1, none⟩ = some (.string s) := hP6.cell 1 rfl
  have p2 : w6.cell? ⟨w.heap.size, 2, none⟩ = some (.bool true) := hP6.cell 2 rfl
  have hlt : w.heap.size < w6.heap.size := hP6.lt
  have hlt2 : w.heap.size < w6.heap.size + 1 := by omega
  have c3 : w6.cell? ⟨b, 3, none⟩ = some (.int .i64 x.hi) := hA6.c3
  have c4 : w6.cell? ⟨b, 4, none⟩ = some (.int .i64 x.fin) := hA6.c4
  have c5 : w6.cell? ⟨b, 5, none⟩ = some (.bool x.kn) := hA6.c5
  have f4 : w6.frozen? ⟨b, 4, none⟩ = false := hA6.at_.free 4
  have f5 : w6.frozen? ⟨b, 5, none⟩ = false := hA6.at_.free 5
  have f3 : w6.frozen? ⟨b, 3, none⟩ = false := hA6.at_.free 3
  have lb : b < w6.heap.size := hA6.lt.1
  have lb2 : b < w6.heap.size + 1 := by omega
  have hne : ¬ b = w.heap.size := by omega
  have hne2 : ¬ w.heap.size = b := by omega
  have HA6 := Lib.hid hA6; clear hA6 ho6 hP6
  obtain ⟨R, hR⟩ : ∃ R, (if x.hi < off + (s.size : Int) then off + (s.size : Int) else x.hi) = R := ⟨_, rfl⟩
  have HR : Hid ((0 ≤ R ∧ R ≤ 1099511627776) ∧ x.hold off s.data.toList true = { x with B := (x.hold off s.data.toList true).B, H := (x.hold off s.data.toList true).H, hi := R, fin := off + s.size, kn := true }) := Lib.hid ⟨by
    have := HA6.out.h0
    have := HA6.out.h1
    simp only at *
    rw [← hR]; split <;> omega, by simp only [Bf.hold, hlen, hR]; rfl⟩
  go_wp2_with fail
  go_region_with ((go_at_call 33; refine (end_c off s true _ (by omega) (by omega) hs).mono ?_; rintro e w' ⟨rfl, rfl⟩))
  all_goals go_wp2_with fail
  all_goals (
    refine (end_c off s true _ (by omega) (by omega) hs).mono ?_
    rintro e w' ⟨rfl, rfl⟩
    go_wp2_with fail
    go_ret
    refine ⟨rfl, ?_, ((((((HO6.out.put (by simp) _).put (by simp) _).put (by simp) _).alloc _).alloc _).drew)⟩
    rw [HR.out.2]
    exact (((buf_fin (buf_hi HA6.out R HR.out.1.1 HR.out.1.2) _).alloc _).alloc _).keep (S := []) (Only.refl _ _).drew (by simp) (by simp) (by simp))
set_option maxRecDepth 100000 in
set_option maxHeartbeats 8000000 in
theorem put_ok_false (h0 : Bf.argB off s.size = true) (h1 : x.agrB off s.data.toList = true) (h2 : x.finB (off + s.size) false = true) (h3 : decide (off + s.size ≤ x.pos + x.n) = true) : Calls Tryd.prog 21 #[.pointer (some ⟨b, 0, none⟩), .agg #[.int .i64 off, .string s, .bool false]] w fun e w' => e = .returned .nilIface ∧ BufAt w' b g1 g2 (x.hold off s.data.toList false) ∧ Only [b, g1, g2] w w' := by
  have hr := (Bf.argB_iff off s.size).1 h0
  obtain ⟨q0, q1, hs, q2⟩ := hr
  have HA := Lib.hid hA; clear hA
  have HS := Lib.hid hS; clear hS
  have hlen : s.data.toList.length = s.size := by simp
  go_enter Tryd.func21, Tryd.ntmps21
  go_wp2_with fail
  refine (checks_c b g1 g2 B x c f r g _ (HA.out.alloc _) (HS.out.below ((Below.refl _ w).alloc hB _)) (by simp; omega)).mono ?_
  rintro e w1 ⟨rfl, hb1, ho1⟩
  have bP := (At.new w 66 #[.int .i64 off, .string s, .bool false]).keep ho1 (by simp)
  have hA1 := (HA.out.alloc (.cells #[.int .i64 off, .string s, .bool false] 66)).keep ho1 (by simp) (by simp) (by simp)
  have HO := Lib.hid (((Only.refl [] w).alloc (.cells #[.int .i64 off, .string s, .bool false] 66)).trans ho1)
  clear ho1
  simp only [World.size_alloc] at hb1 ⊢
  have HA1 := Lib.hid hA1; clear hA1
  have HX := Lib.hid hb1; clear hb1
  have HP := Lib.hid bP; clear bP
  have HO1 : Hid (Only [] w1 w1) := Lib.hid (Only.refl _ _)
  have p0 : w1.cell? ⟨w.heap.size, 0, none⟩ = some (.int .i64 off) := HP.out.cell 0 rfl
  have p1 : w1.cell? ⟨w.heap.size, 1, none⟩ = some (.string s) := HP.out.cell 1 rfl
  have p2 : w1.cell? ⟨w.heap.size, 2, none⟩ = some (.bool false) := HP.out.cell 2 rfl
  have i0 := tab_0 b (w.heap.size + 1) c f r g
  have i1 := tab_1 b (w.heap.size + 1) c f r g
  have i2 := tab_2 b (w.heap.size + 1) c f r g
  have i3 := tab_3 b (w.heap.size + 1) c f r g
  unfold tabV at *
  have hlt : w.heap.size < w1.heap.size := HP.out.lt
  go_wp2_with fail
  refine wp_loop_rounds 5 ?_
  rw [rounds_succ]
  go_wp2_with fail
  refine (chk1_c off s false _).mono ?_
  rintro e w2 ⟨he, ho⟩
  rw [h0] at he
  subst he
  have HO2 : Hid (Only [] w1 w2) := Lib.hid ((HO1.out.alloc _).trans ho)
  clear ho p0 p1 p2 hlt
  have p0 : w2.cell? ⟨w.heap.size, 0, none⟩ = some (.int .i64 off) := (HP.out.keep HO2.out (by simp)).cell 0 rfl
  have p1 : w2.cell? ⟨w.heap.size, 1, none⟩ = some (.string s) := (HP.out.keep HO2.out (by simp)).cell 1 rfl
  have p2 : w2.cell? ⟨w.heap.size, 2, none⟩ = some (.bool false) := (HP.out.keep HO2.out (by simp)).cell 2 rfl
  have hlt : w.heap.size < w2.heap.size := (HP.out.keep HO2.out (by simp)).lt
  go_wp2_with fail
  rw [rounds_succ]
  go_wp2_with fail
  refine (agrees_c b g1 g2 x off s false hs q0 q1 _ (HA1.out.keep (HO2.out.alloc _) (by simp) (by simp) (by simp))).mono ?_
  rintro e w3 ⟨he, ho⟩
  rw [h1] at he
  subst he
  have HO3 : Hid (Only [] w1 w3) := Lib.hid ((HO2.out.alloc _).trans ho)
  clear ho p0 p1 p2 hlt
  have p0 : w3.cell? ⟨w.heap.size, 0, none⟩ = some (.int .i64 off) := (HP.out.keep HO3.out (by simp)).cell 0 rfl
  have p1 : w3.cell? ⟨w.heap.size, 1, none⟩ = some (.string s) := (HP.out.keep HO3.out (by simp)).cell 1 rfl
  have p2 : w3.cell? ⟨w.heap.size, 2, none⟩ = some (.bool false) := (HP.out.keep HO3.out (by simp)).cell 2 rfl
  have hlt : w.heap.size < w3.heap.size := (HP.out.keep HO3.out (by simp)).lt
  go_wp2_with fail
  rw [rounds_succ]
  go_wp2_with fail
  refine (fin_c b g1 g2 x _ (HA1.out.keep (HO3.out.alloc _) (by simp) (by simp) (by simp)) off s false hs q0 q1).mono ?_
  rintro e w4 ⟨he, ho⟩
  rw [h2] at he
  subst he
  have HO4 : Hid (Only [] w1 w4) := Lib.hid ((HO3.out.alloc _).trans ho)
  clear ho p0 p1 p2 hlt
  have p0 : w4.cell? ⟨w.heap.size, 0, none⟩ = some (.int .i64 off) := (HP.out.keep HO4.out (by simp)).cell 0 rfl
  have p1 : w4.cell? ⟨w.heap.size, 1, none⟩ = some (.string s) := (HP.out.keep HO4.out (by simp)).cell 1 rfl
  have p2 : w4.cell? ⟨w.heap.size, 2, none⟩ = some (.bool false) := (HP.out.keep HO4.out (by simp)).cell 2 rfl
  have hlt : w.heap.size < w4.heap.size := (HP.out.keep HO4.out (by simp)).lt
  go_wp2_with fail
  rw [rounds_succ]
  go_wp2_with fail
  refine (chk2_c b g1 g2 x _ (HA1.out.keep (HO4.out.alloc _) (by simp) (by simp) (by simp)) (w.heap.size + 1) off s false hs q0 q1 (HX.out.keep (HO4.out.alloc _) (by simp))).mono ?_
  rintro e w5 ⟨he, ho⟩
  rw [h3] at he
  subst he
  have HO5 : Hid (Only [] w1 w5) := Lib.hid ((HO4.out.alloc _).trans ho)
  clear ho p0 p1 p2 hlt
  have p0 : w5.cell? ⟨w.heap.size, 0, none⟩ = some (.int .i64 off) := (HP.out.keep HO5.out (by simp)).cell 0 rfl
  have p1 : w5.cell? ⟨w.heap.size, 1, none⟩ = some (.string s) := (HP.out.keep HO5.out (by simp)).cell 1 rfl
  have p2 : w5.cell? ⟨w.heap.size, 2, none⟩ = some (.bool false) := (HP.out.keep HO5.out (by simp)).cell 2 rfl
  have hlt : w.heap.size < w5.heap.size := (HP.out.keep HO5.out (by simp)).lt
  go_wp2_with fail
  rw [rounds_succ]
  go_wp2_with fail
  have hl0 := HA.out.lt
  have hA5 := (HA1.out.keep HO5.out (by simp) (by simp) (by simp)).drewN 1
  have HA5 : Hid (BufAt w5.drew b g1 g2 x) := Lib.hid (HA1.out.keep HO5.out.drew (by simp) (by simp) (by simp))
  clear hA5
  go_region_with ((go_at_call 32; refine (hold_c b g1 g2 x off s false hs q0 q1 _ HA5.out).mono ?_; rintro e w6 ⟨rfl, hA6, ho6⟩))
  have hP6 := (HP.out.keep HO5.out.drew (by simp)).keep ho6 (by simp; omega)
  have HO6 : Hid (Only [b, g1, g2] w w6) := Lib.hid (((HO.out.trans HO5.out.drew).mono (by simp)).trans (ho6.mono (by simp)))
  clear p0 p1 p2 hlt
  have p0 : w6.cell? ⟨w.heap.size, 0, none⟩ = some (.int .i64 off) := hP6.cell 0 rfl
  have p1 : w6.cell? ⟨w.heap.size, 1, none⟩ = some (.string s) := hP6.cell 1 rfl
  have p2 : w6.cell? ⟨w.heap.size, 2, none⟩ = some (.bool false) := hP6.cell 2 rfl
  have hlt : w.heap.size < w6.heap.size := hP6.lt
  have hlt2 : w.heap.size < w6.heap.size + 1 := by omega
  have c3 : w6.cell? ⟨b, 3, none⟩ = some (.int .i64 x.hi) := hA6.c3
  have c4 : w6.cell? ⟨b, 4, none⟩ = some (.int .i64 x.fin) := hA6.c4
  have c5 : w6.cell? ⟨b, 5, none⟩ = some (.bool x.kn) := hA6.c5
  have f4 : w6.frozen? ⟨b, 4, none⟩ = false := hA6.at_.free 4
  have f5 : w6.frozen? ⟨b, 5, none⟩ = false := hA6.at_.free 5
  have f3 : w6.frozen? ⟨b, 3, none⟩ = false := hA6.at_.free 3
  have lb : b < w6.heap.size := hA6.lt.1
  have lb2 : b < w6.heap.size + 1 := by omega
  have hne : ¬ b = w.heap.size := by omega
  have hne2 : ¬ w.heap.size = b := by omega
  have HA6 := Lib.hid hA6; clear hA6 ho6 hP6
  obtain ⟨R, hR⟩ : ∃ R, (if x.hi < off + (s.size : Int) then off + (s.size : Int) else x.hi) = R := ⟨_, rfl⟩
  have HR : Hid ((0 ≤ R ∧ R ≤ 1099511627776) ∧ x.hold off s.data.toList false = { x with B := (x.hold off s.data.toList false).B, H := (x.hold off s.data.toList false).H, hi := R, fin := x.fin, kn := x.kn }) := Lib.hid ⟨by
    have := HA6.out.h0
    have := HA6.out.h1
    simp only at *
    rw [← hR]; split <;> omega, by simp only [Bf.hold, hlen, hR]; rfl⟩
  go_wp2_with fail
  go_region_with ((go_at_call 33; refine (end_c off s false _ (by omega) (by omega) hs).mono ?_; rintro e w' ⟨rfl, rfl⟩))
  all_goals go_wp2_with fail
  all_goals (
    go_ret
    refine ⟨rfl, ?_, (((HO6.out.put (by simp) _).alloc _).drew)⟩
    rw [HR.out.2]
    exact ((buf_hi HA6.out R HR.out.1.1 HR.out.1.2).alloc _).keep (S := []) (Only.refl _ _).drew (by simp) (by simp) (by simp))
end
end Go.Proofs.YtgiekhohhogdiaaDoor
