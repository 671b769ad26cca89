/- Contracts of the reference's reader: frame, some kinds. -/
import Derived.Test.YtmmgmpghkpbgkaaRdB
namespace Go.Proofs.Ytmmgmpghkpbgkaa
open Go Go.RowKit
set_option linter.unusedVariables false
set_option linter.unusedSimpArgs false

set_option maxRecDepth 100000 in
set_option maxHeartbeats 4000000 in
theorem xframe_16 (rb : Nat) (s : ByteArray) (st : Option Nat) (hs : s.size ≤ 4611686018427387903) (w : World) (R : Fr × Option Nat) (hR : runR s.data.toList [.int mV .mx] (⟨16, 0, 0, [], false, 0, 0, false, 0, [], 0, 0, []⟩ : Fr) st = R) (hX : RdX w rb s st) :
    Calls Try.prog 65 #[.pointer (some ⟨rb, 0, none⟩), .int .i64 16] w (FrmQ s rb R w) := by
  obtain ⟨x1, ex1⟩ : ∃ x, (vR s.data.toList st).1 = x := ⟨_, rfl⟩
  obtain ⟨s1, es1⟩ : ∃ x, (vR s.data.toList st).2 = x := ⟨_, rfl⟩
  have c1 := fun ww hh => xv_c rb s st hs ww hh
  simp only [ex1, es1] at c1
  have HR : Hid (R = ((⟨16, 0, 0, [], false, x1, 0, false, 0, [], 0, 0, []⟩ : Fr), s1)) := Lib.hid (by rw [← hR]; show runR s.data.toList [.int mV .mx] (⟨16, 0, 0, [], false, 0, 0, false, 0, [], 0, 0, []⟩ : Fr) st = _; simp only [runR, stepR, Fr.set, ex1, es1])
  clear ex1 es1
  clear hR
  have hS0 := FrmS.start (w := w) (⟨16, 0, 0, [], false, 0, 0, false, 0, [], 0, 0, []⟩ : Fr) hX
  clear hX
  go_enter Try.func65, Try.ntmps65
  go_wp2_with fail
  refine (c1 _ hS0.rd).mono ?_
  rintro e w3 ⟨rfl, hX, ho⟩
  have H := Lib.hid (hS0.call ho hX)
  clear hX ho hS0
  have oc : w3.cell? ⟨w.heap.size + 1, 5, none⟩ = some (.int .i64 0) := H.out.fr.cell 5 rfl
  have fz := H.out.free 5
  have H2 := H.out.store 5 (.int .i64 x1) (F' := (⟨16, 0, 0, [], false, x1, 0, false, 0, [], 0, 0, []⟩ : Fr)) (rv' := .slice none 0 0) rfl
  go_upto_region 51 with fail
  generalize w3.setCell ⟨w.heap.size + 1, 5, none⟩ (.int .i64 x1) = w4 at H2 ⊢
  replace H := Lib.hid H2
  clear H2 fz oc
  obtain ⟨y0, y1, y2, y3, y4, y5, y6, y7, y8, y9, y10, y11, y12⟩ := H.out.fr.c13
  obtain ⟨⟨z0, z1, z2, z3, z4, z5, z6, z7, z8, z9, z10, z11, z12⟩, zf⟩ := H.out.zs
  obtain ⟨wz, hwz⟩ : ∃ x, handed w4 w.heap.size (⟨16, 0, 0, [], false, x1, 0, false, 0, [], 0, 0, []⟩ : Fr) (.slice none 0 0) = x := ⟨_, rfl⟩
  have hh := H.out.hand
  rw [hwz] at hh
  have HH := Lib.hid hh
  simp only [handed] at hwz
  have HW := Lib.hid hwz
  clear hh H hwz
  go_wp2_with fail
  rw [HW.out]
  clear zf HW y0 y1 y2 y3 y4 y5 y6 y7 y8 y9 y10 y11 y12 z0 z1 z2 z3 z4 z5 z6 z7 z8 z9 z10 z11 z12
  obtain ⟨hz, hx, ho⟩ := HH.out
  obtain ⟨u0, u1, u2, u3, u4, u5, u6, u7, u8, u9, u10, u11, u12⟩ := hz.c13
  rw [HR.out]
  have hG9 := RgAt.nil wz
  have hI9 : InI [] := fun p hp => by cases hp
  have hN9 := RgNew.nil w.heap.size
  refine ⟨rfl, .agg (frC (⟨16, 0, 0, [], false, x1, 0, false, 0, [], 0, 0, []⟩ : Fr) (.slice none 0 0)), ?_, .slice none 0 0, rfl, hG9, hI9, hN9, hx, ho⟩
  simp [results, Try.f65, go_sem, frC, u0, u1, u2, u3, u4, u5, u6, u7, u8, u9, u10, u11, u12]
set_option maxRecDepth 100000 in
set_option maxHeartbeats 4000000 in
theorem xframe_20 (rb : Nat) (s : ByteArray) (st : Option Nat) (hs : s.size ≤ 4611686018427387903) (w : World) (R : Fr × Option Nat) (hR : runR s.data.toList [.int mV .mx] (⟨20, 0, 0, [], false, 0, 0, false, 0, [], 0, 0, []⟩ : Fr) st = R) (hX : RdX w rb s st) :
    Calls Try.prog 65 #[.pointer (some ⟨rb, 0, none⟩), .int .i64 20] w (FrmQ s rb R w) := by
  obtain ⟨x1, ex1⟩ : ∃ x, (vR s.data.toList st).1 = x := ⟨_, rfl⟩
  obtain ⟨s1, es1⟩ : ∃ x, (vR s.data.toList st).2 = x := ⟨_, rfl⟩
  have c1 := fun ww hh => xv_c rb s st hs ww hh
  simp only [ex1, es1] at c1
  have HR : Hid (R = ((⟨20, 0, 0, [], false, x1, 0, false, 0, [], 0, 0, []⟩ : Fr), s1)) := Lib.hid (by rw [← hR]; show runR s.data.toList [.int mV .mx] (⟨20, 0, 0, [], false, 0, 0, false, 0, [], 0, 0, []⟩ : Fr) st = _; simp only [runR, stepR, Fr.set, ex1, es1])
  clear ex1 es1
  clear hR
  have hS0 := FrmS.start (w := w) (⟨20, 0, 0, [], false, 0, 0, false, 0, [], 0, 0, []⟩ : Fr) hX
  clear hX
  go_enter Try.func65, Try.ntmps65
  go_wp2_with fail
  refine (c1 _ hS0.rd).mono ?_
  rintro e w3 ⟨rfl, hX, ho⟩
  have H := Lib.hid (hS0.call ho hX)
  clear hX ho hS0
  have oc : w3.cell? ⟨w.heap.size + 1, 5, none⟩ = some (.int .i64 0) := H.out.fr.cell 5 rfl
  have fz := H.out.free 5
  have H2 := H.out.store 5 (.int .i64 x1) (F' := (⟨20, 0, 0, [], false, x1, 0, false, 0, [], 0, 0, []⟩ : Fr)) (rv' := .slice none 0 0) rfl
  go_upto_region 51 with fail
  generalize w3.setCell ⟨w.heap.size + 1, 5, none⟩ (.int .i64 x1) = w4 at H2 ⊢
  replace H := Lib.hid H2
  clear H2 fz oc
  obtain ⟨y0, y1, y2, y3, y4, y5, y6, y7, y8, y9, y10, y11, y12⟩ := H.out.fr.c13
  obtain ⟨⟨z0, z1, z2, z3, z4, z5, z6, z7, z8, z9, z10, z11, z12⟩, zf⟩ := H.out.zs
  obtain ⟨wz, hwz⟩ : ∃ x, handed w4 w.heap.size (⟨20, 0, 0, [], false, x1, 0, false, 0, [], 0, 0, []⟩ : Fr) (.slice none 0 0) = x := ⟨_, rfl⟩
  have hh := H.out.hand
  rw [hwz] at hh
  have HH := Lib.hid hh
  simp only [handed] at hwz
  have HW := Lib.hid hwz
  clear hh H hwz
  go_wp2_with fail
  rw [HW.out]
  clear zf HW y0 y1 y2 y3 y4 y5 y6 y7 y8 y9 y10 y11 y12 z0 z1 z2 z3 z4 z5 z6 z7 z8 z9 z10 z11 z12
  obtain ⟨hz, hx, ho⟩ := HH.out
  obtain ⟨u0, u1, u2, u3, u4, u5, u6, u7, u8, u9, u10, u11, u12⟩ := hz.c13
  rw [HR.out]
  have hG9 := RgAt.nil wz
  have hI9 : InI [] := fun p hp => by cases hp
  have hN9 := RgNew.nil w.heap.size
  refine ⟨rfl, .agg (frC (⟨20, 0, 0, [], false, x1, 0, false, 0, [], 0, 0, []⟩ : Fr) (.slice none 0 0)), ?_, .slice none 0 0, rfl, hG9, hI9, hN9, hx, ho⟩
  simp [results, Try.f65, go_sem, frC, u0, u1, u2, u3, u4, u5, u6, u7, u8, u9, u10, u11, u12]
set_option maxRecDepth 100000 in
set_option maxHeartbeats 4000000 in
theorem xframe_17 (rb : Nat) (s : ByteArray) (st : Option Nat) (hs : s.size ≤ 4611686018427387903) (w : World) (R : Fr × Option Nat) (hR : runR s.data.toList [.int mV .st, .int mV .mx] (⟨17, 0, 0, [], false, 0, 0, false, 0, [], 0, 0, []⟩ : Fr) st = R) (hX : RdX w rb s st) :
    Calls Try.prog 65 #[.pointer (some ⟨rb, 0, none⟩), .int .i64 17] w (FrmQ s rb R w) := by
  obtain ⟨x1, ex1⟩ : ∃ x, (vR s.data.toList st).1 = x := ⟨_, rfl⟩
  obtain ⟨s1, es1⟩ : ∃ x, (vR s.data.toList st).2 = x := ⟨_, rfl⟩
  have c1 := fun ww hh => xv_c rb s st hs ww hh
  simp only [ex1, es1] at c1
  obtain ⟨x2, ex2⟩ : ∃ x, (vR s.data.toList s1).1 = x := ⟨_, rfl⟩
  obtain ⟨s2, es2⟩ : ∃ x, (vR s.data.toList s1).2 = x := ⟨_, rfl⟩
  have c2 := fun ww hh => xv_c rb s s1 hs ww hh
  simp only [ex2, es2] at c2
  have HR : Hid (R = ((⟨17, x1, 0, [], false, x2, 0, false, 0, [], 0, 0, []⟩ : Fr), s2)) := Lib.hid (by rw [← hR]; show runR s.data.toList [.int mV .st, .int mV .mx] (⟨17, 0, 0, [], false, 0, 0, false, 0, [], 0, 0, []⟩ : Fr) st = _; simp only [runR, stepR, Fr.set, ex1, es1, ex2, es2])
  clear ex1 es1 ex2 es2
  clear hR
  have hS0 := FrmS.start (w := w) (⟨17, 0, 0, [], false, 0, 0, false, 0, [], 0, 0, []⟩ : Fr) hX
  clear hX
  go_enter Try.func65, Try.ntmps65
  go_wp2_with fail
  refine (c1 _ hS0.rd).mono ?_
  rintro e w3 ⟨rfl, hX, ho⟩
  have H := Lib.hid (hS0.call ho hX)
  clear hX ho hS0
  have oc : w3.cell? ⟨w.heap.size + 1, 1, none⟩ = some (.int .i64 0) := H.out.fr.cell 1 rfl
  have fz := H.out.free 1
  have H2 := H.out.store 1 (.int .i64 x1) (F' := (⟨17, x1, 0, [], false, 0, 0, false, 0, [], 0, 0, []⟩ : Fr)) (rv' := .slice none 0 0) rfl
  go_wp2_with fail
  generalize w3.setCell ⟨w.heap.size + 1, 1, none⟩ (.int .i64 x1) = w4 at H2 ⊢
  replace H := Lib.hid H2
  clear H2 fz oc
  refine (c2 _ H.out.rd).mono ?_
  rintro e w5 ⟨rfl, hX, ho⟩
  have H := Lib.hid (H.out.call ho hX)
  clear hX ho
  have oc : w5.cell? ⟨w.heap.size + 1, 5, none⟩ = some (.int .i64 0) := H.out.fr.cell 5 rfl
  have fz := H.out.free 5
  have H2 := H.out.store 5 (.int .i64 x2) (F' := (⟨17, x1, 0, [], false, x2, 0, false, 0, [], 0, 0, []⟩ : Fr)) (rv' := .slice none 0 0) rfl
  go_upto_region 51 with fail
  generalize w5.setCell ⟨w.heap.size + 1, 5, none⟩ (.int .i64 x2) = w6 at H2 ⊢
  replace H := Lib.hid H2
  clear H2 fz oc
  obtain ⟨y0, y1, y2, y3, y4, y5, y6, y7, y8, y9, y10, y11, y12⟩ := H.out.fr.c13
  obtain ⟨⟨z0, z1, z2, z3, z4, z5, z6, z7, z8, z9, z10, z11, z12⟩, zf⟩ := H.out.zs
  obtain ⟨wz, hwz⟩ : ∃ x, handed w6 w.heap.size (⟨17, x1, 0, [], false, x2, 0, false, 0, [], 0, 0, []⟩ : Fr) (.slice none 0 0) = x := ⟨_, rfl⟩
  have hh := H.out.hand
  rw [hwz] at hh
  have HH := Lib.hid hh
  simp only [handed] at hwz
  have HW := Lib.hid hwz
  clear hh H hwz
  go_wp2_with fail
  rw [HW.out]
  clear zf HW y0 y1 y2 y3 y4 y5 y6 y7 y8 y9 y10 y11 y12 z0 z1 z2 z3 z4 z5 z6 z7 z8 z9 z10 z11 z12
  obtain ⟨hz, hx, ho⟩ := HH.out
  obtain ⟨u0, u1, u2, u3, u4, u5, u6, u7, u8, u9, u10, u11, u12⟩ := hz.c13
  rw [HR.out]
  have hG9 := RgAt.nil wz
  have hI9 : InI [] := fun p hp => by cases hp
  have hN9 := RgNew.nil w.heap.size
  refine ⟨rfl, .agg (frC (⟨17, x1, 0, [], false, x2, 0, false, 0, [], 0, 0, []⟩ : Fr) (.slice none 0 0)), ?_, .slice none 0 0, rfl, hG9, hI9, hN9, hx, ho⟩
  simp [results, Try.f65, go_sem, frC, u0, u1, u2, u3, u4, u5, u6, u7, u8, u9, u10, u11, u12]
set_option maxRecDepth 100000 in
set_option maxHeartbeats 4000000 in
theorem xframe_21 (rb : Nat) (s : ByteArray) (st : Option Nat) (hs : s.size ≤ 4611686018427387903) (w : World) (R : Fr × Option Nat) (hR : runR s.data.toList [.int mV .st, .int mV .mx] (⟨21, 0, 0, [], false, 0, 0, false, 0, [], 0, 0, []⟩ : Fr) st = R) (hX : RdX w rb s st) :
    Calls Try.prog 65 #[.pointer (some ⟨rb, 0, none⟩), .int .i64 21] w (FrmQ s rb R w) := by
  obtain ⟨x1, ex1⟩ : ∃ x, (vR s.data.toList st).1 = x := ⟨_, rfl⟩
  obtain ⟨s1, es1⟩ : ∃ x, (vR s.data.toList st).2 = x := ⟨_, rfl⟩
  have c1 := fun ww hh => xv_c rb s st hs ww hh
  simp only [ex1, es1] at c1
  obtain ⟨x2, ex2⟩ : ∃ x, (vR s.data.toList s1).1 = x := ⟨_, rfl⟩
  obtain ⟨s2, es2⟩ : ∃ x, (vR s.data.toList s1).2 = x := ⟨_, rfl⟩
  have c2 := fun ww hh => xv_c rb s s1 hs ww hh
  simp only [ex2, es2] at c2
  have HR : Hid (R = ((⟨21, x1, 0, [], false, x2, 0, false, 0, [], 0, 0, []⟩ : Fr), s2)) := Lib.hid (by rw [← hR]; show runR s.data.toList [.int mV .st, .int mV .mx] (⟨21, 0, 0, [], false, 0, 0, false, 0, [], 0, 0, []⟩ : Fr) st = _; simp only [runR, stepR, Fr.set, ex1, es1, ex2, es2])
  clear ex1 es1 ex2 es2
  clear hR
  have hS0 := FrmS.start (w := w) (⟨21, 0, 0, [], false, 0, 0, false, 0, [], 0, 0, []⟩ : Fr) hX
  clear hX
  go_enter Try.func65, Try.ntmps65
  go_wp2_with fail
  refine (c1 _ hS0.rd).mono ?_
  rintro e w3 ⟨rfl, hX, ho⟩
  have H := Lib.hid (hS0.call ho hX)
  clear hX ho hS0
  have oc : w3.cell? ⟨w.heap.size + 1, 1, none⟩ = some (.int .i64 0) := H.out.fr.cell 1 rfl
  have fz := H.out.free 1
  have H2 := H.out.store 1 (.int .i64 x1) (F' := (⟨21, x1, 0, [], false, 0, 0, false, 0, [], 0, 0, []⟩ : Fr)) (rv' := .slice none 0 0) rfl
  go_wp2_with fail
  generalize w3.setCell ⟨w.heap.size + 1, 1, none⟩ (.int .i64 x1) = w4 at H2 ⊢
  replace H := Lib.hid H2
  clear H2 fz oc
  refine (c2 _ H.out.rd).mono ?_
  rintro e w5 ⟨rfl, hX, ho⟩
  have H := Lib.hid (H.out.call ho hX)
  clear hX ho
  have oc : w5.cell? ⟨w.heap.size + 1, 5, none⟩ = some (.int .i64 0) := H.out.fr.cell 5 rfl
  have fz := H.out.free 5
  have H2 := H.out.store 5 (.int .i64 x2) (F' := (⟨21, x1, 0, [], false, x2, 0, false, 0, [], 0, 0, []⟩ : Fr)) (rv' := .slice none 0 0) rfl
  go_upto_region 51 with fail
  generalize w5.setCell ⟨w.heap.size + 1, 5, none⟩ (.int .i64 x2) = w6 at H2 ⊢
  replace H := Lib.hid H2
  clear H2 fz oc
  obtain ⟨y0, y1, y2, y3, y4, y5, y6, y7, y8, y9, y10, y11, y12⟩ := H.out.fr.c13
  obtain ⟨⟨z0, z1, z2, z3, z4, z5, z6, z7, z8, z9, z10, z11, z12⟩, zf⟩ := H.out.zs
  obtain ⟨wz, hwz⟩ : ∃ x, handed w6 w.heap.size (⟨21, x1, 0, [], false, x2, 0, false, 0, [], 0, 0, []⟩ : Fr) (.slice none 0 0) = x := ⟨_, rfl⟩
  have hh := H.out.hand
  rw [hwz] at hh
  have HH := Lib.hid hh
  simp only [handed] at hwz
  have HW := Lib.hid hwz
  clear hh H hwz
  go_wp2_with fail
  rw [HW.out]
  clear zf HW y0 y1 y2 y3 y4 y5 y6 y7 y8 y9 y10 y11 y12 z0 z1 z2 z3 z4 z5 z6 z7 z8 z9 z10 z11 z12
  obtain ⟨hz, hx, ho⟩ := HH.out
  obtain ⟨u0, u1, u2, u3, u4, u5, u6, u7, u8, u9, u10, u11, u12⟩ := hz.c13
  rw [HR.out]
  have hG9 := RgAt.nil wz
  have hI9 : InI [] := fun p hp => by cases hp
  have hN9 := RgNew.nil w.heap.size
  refine ⟨rfl, .agg (frC (⟨21, x1, 0, [], false, x2, 0, false, 0, [], 0, 0, []⟩ : Fr) (.slice none 0 0)), ?_, .slice none 0 0, rfl, hG9, hI9, hN9, hx, ho⟩
  simp [results, Try.f65, go_sem, frC, u0, u1, u2, u3, u4, u5, u6, u7, u8, u9, u10, u11, u12]
set_option maxRecDepth 100000 in
set_option maxHeartbeats 4000000 in
theorem xframe_18 (rb : Nat) (s : ByteArray) (st : Option Nat) (hs : s.size ≤ 4611686018427387903) (w : World) (R : Fr × Option Nat) (hR : runR s.data.toList [.uni, .int mV .mx] (⟨18, 0, 0, [], false, 0, 0, false, 0, [], 0, 0, []⟩ : Fr) st = R) (hX : RdX w rb s st) :
    Calls Try.prog 65 #[.pointer (some ⟨rb, 0, none⟩), .int .i64 18] w (FrmQ s rb R w) := by
  obtain ⟨b1, eb1⟩ : ∃ x, (tR s.data.toList 1 st).1 = x := ⟨_, rfl⟩
  obtain ⟨q1, eq1⟩ : ∃ x, (tR s.data.toList 1 st).2 = x := ⟨_, rfl⟩
  have c1 := fun ww hh => xt_c rb s st 1 (by omega) hs ww hh
  simp only [eb1, eq1] at c1
  obtain ⟨x1, ex1⟩ : ∃ x, (uR s.data.toList st).1 = x := ⟨_, rfl⟩
  obtain ⟨s1, es1⟩ : ∃ x, (uR s.data.toList st).2 = x := ⟨_, rfl⟩
  obtain ⟨hux, hU⟩ := uni_facts s.data.toList st b1 q1 x1 s1 eb1 eq1 ex1 es1
  clear eb1 eq1
  obtain ⟨hE, gg, hGt, hC⟩ := uni_ops b1 q1 x1 s1 hux hU
  clear hux hU
  have HC := Lib.hid hC
  clear hC
  obtain ⟨x2, ex2⟩ : ∃ x, (vR s.data.toList s1).1 = x := ⟨_, rfl⟩
  obtain ⟨s2, es2⟩ : ∃ x, (vR s.data.toList s1).2 = x := ⟨_, rfl⟩
  have c2 := fun ww hh => xv_c rb s s1 hs ww hh
  simp only [ex2, es2] at c2
  have HR : Hid (R = ((⟨18, 0, 0, [], false, x2, 0, x1, 0, [], 0, 0, []⟩ : Fr), s2)) := Lib.hid (by rw [← hR]; show runR s.data.toList [.uni, .int mV .mx] (⟨18, 0, 0, [], false, 0, 0, false, 0, [], 0, 0, []⟩ : Fr) st = _; simp only [runR, stepR, Fr.set, ex1, es1, ex2, es2])
  clear ex1 es1 ex2 es2
  clear hR
  have hS0 := FrmS.start (w := w) (⟨18, 0, 0, [], false, 0, 0, false, 0, [], 0, 0, []⟩ : Fr) hX
  clear hX
  go_enter Try.func65, Try.ntmps65
  go_wp2_with fail
  refine (c1 _ hS0.rd).mono ?_
  rintro e w3 ⟨rfl, hX, ho⟩
  have H := Lib.hid (hS0.call ho hX)
  clear hX ho hS0
  have oc : w3.cell? ⟨w.heap.size + 1, 7, none⟩ = some (.bool false) := H.out.fr.cell 7 rfl
  have fz := H.out.free 7
  have rc0 := H.out.rd.c2
  have H2 := H.out.store 7 (.bool x1) (F' := (⟨18, 0, 0, [], false, 0, 0, x1, 0, [], 0, 0, []⟩ : Fr)) (rv' := .slice none 0 0) rfl
  have rc1 : (w3.setCell ⟨w.heap.size + 1, 7, none⟩ (.bool x1)).frozen? ⟨rb, 2, none⟩ = false := H2.rd.c2.2
  rcases HC.out with ⟨rfl, rfl⟩ | ⟨c, rfl, rfl, rfl⟩ | ⟨c, rfl, rfl, rfl⟩
  · skip
    obtain ⟨rc2, rc3⟩ := rc0
    simp only [Option.isNone_none, Option.isNone_some] at rc2
    clear HC
    have H3 := H2.rdput (.bool true) (RdX.bad H2.rd)
    clear H2
    go_wp2_with fail
    generalize (w3.setCell ⟨w.heap.size + 1, 7, none⟩ (.bool x1)).setCell ⟨rb, 2, none⟩ (.bool true) = w4 at H3 ⊢
    replace H := Lib.hid H3
    clear H3 fz oc rc1 rc2 rc3 hE hGt
    refine (c2 _ H.out.rd).mono ?_
    rintro e w5 ⟨rfl, hX, ho⟩
    have H := Lib.hid (H.out.call ho hX)
    clear hX ho
    have oc : w5.cell? ⟨w.heap.size + 1, 5, none⟩ = some (.int .i64 0) := H.out.fr.cell 5 rfl
    have fz := H.out.free 5
    have H2 := H.out.store 5 (.int .i64 x2) (F' := (⟨18, 0, 0, [], false, x2, 0, x1, 0, [], 0, 0, []⟩ : Fr)) (rv' := .slice none 0 0) rfl
    go_upto_region 51 with fail
    generalize w5.setCell ⟨w.heap.size + 1, 5, none⟩ (.int .i64 x2) = w6 at H2 ⊢
    replace H := Lib.hid H2
    clear H2 fz oc
    obtain ⟨y0, y1, y2, y3, y4, y5, y6, y7, y8, y9, y10, y11, y12⟩ := H.out.fr.c13
    obtain ⟨⟨z0, z1, z2, z3, z4, z5, z6, z7, z8, z9, z10, z11, z12⟩, zf⟩ := H.out.zs
    obtain ⟨wz, hwz⟩ : ∃ x, handed w6 w.heap.size (⟨18, 0, 0, [], false, x2, 0, x1, 0, [], 0, 0, []⟩ : Fr) (.slice none 0 0) = x := ⟨_, rfl⟩
    have hh := H.out.hand
    rw [hwz] at hh
    have HH := Lib.hid hh
    simp only [handed] at hwz
    have HW := Lib.hid hwz
    clear hh H hwz
    go_wp2_with fail
    rw [HW.out]
    clear zf HW y0 y1 y2 y3 y4 y5 y6 y7 y8 y9 y10 y11 y12 z0 z1 z2 z3 z4 z5 z6 z7 z8 z9 z10 z11 z12
    obtain ⟨hz, hx, ho⟩ := HH.out
    obtain ⟨u0, u1, u2, u3, u4, u5, u6, u7, u8, u9, u10, u11, u12⟩ := hz.c13
    rw [HR.out]
    have hG9 := RgAt.nil wz
    have hI9 : InI [] := fun p hp => by cases hp
    have hN9 := RgNew.nil w.heap.size
    refine ⟨rfl, .agg (frC (⟨18, 0, 0, [], false, x2, 0, x1, 0, [], 0, 0, []⟩ : Fr) (.slice none 0 0)), ?_, .slice none 0 0, rfl, hG9, hI9, hN9, hx, ho⟩
    simp [results, Try.f65, go_sem, frC, u0, u1, u2, u3, u4, u5, u6, u7, u8, u9, u10, u11, u12]
  · skip
    obtain ⟨rc2, rc3⟩ := rc0
    simp only [Option.isNone_none, Option.isNone_some] at rc2
    clear HC
    have H3 := H2.rdput (.bool true) (RdX.bad H2.rd)
    clear H2
    go_wp2_with fail
    generalize (w3.setCell ⟨w.heap.size + 1, 7, none⟩ (.bool x1)).setCell ⟨rb, 2, none⟩ (.bool true) = w4 at H3 ⊢
    replace H := Lib.hid H3
    clear H3 fz oc rc1 rc2 rc3 hE hGt
    refine (c2 _ H.out.rd).mono ?_
    rintro e w5 ⟨rfl, hX, ho⟩
    have H := Lib.hid (H.out.call ho hX)
    clear hX ho
    have oc : w5.cell? ⟨w.heap.size + 1, 5, none⟩ = some (.int .i64 0) := H.out.fr.cell 5 rfl
    have fz := H.out.free 5
    have H2 := H.out.store 5 (.int .i64 x2) (F' := (⟨18, 0, 0, [], false, x2, 0, x1, 0, [], 0, 0, []⟩ : Fr)) (rv' := .slice none 0 0) rfl
    go_upto_region 51 with fail
    generalize w5.setCell ⟨w.heap.size + 1, 5, none⟩ (.int .i64 x2) = w6 at H2 ⊢
    replace H := Lib.hid H2
    clear H2 fz oc
    obtain ⟨y0, y1, y2, y3, y4, y5, y6, y7, y8, y9, y10, y11, y12⟩ := H.out.fr.c13
    obtain ⟨⟨z0, z1, z2, z3, z4, z5, z6, z7, z8, z9, z10, z11, z12⟩, zf⟩ := H.out.zs
    obtain ⟨wz, hwz⟩ : ∃ x, handed w6 w.heap.size (⟨18, 0, 0, [], false, x2, 0, x1, 0, [], 0, 0, []⟩ : Fr) (.slice none 0 0) = x := ⟨_, rfl⟩
    have hh := H.out.hand
    rw [hwz] at hh
    have HH := Lib.hid hh
    simp only [handed] at hwz
    have HW := Lib.hid hwz
    clear hh H hwz
    go_wp2_with fail
    rw [HW.out]
    clear zf HW y0 y1 y2 y3 y4 y5 y6 y7 y8 y9 y10 y11 y12 z0 z1 z2 z3 z4 z5 z6 z7 z8 z9 z10 z11 z12
    obtain ⟨hz, hx, ho⟩ := HH.out
    obtain ⟨u0, u1, u2, u3, u4, u5, u6, u7, u8, u9, u10, u11, u12⟩ := hz.c13
    rw [HR.out]
    have hG9 := RgAt.nil wz
    have hI9 : InI [] := fun p hp => by cases hp
    have hN9 := RgNew.nil w.heap.size
    refine ⟨rfl, .agg (frC (⟨18, 0, 0, [], false, x2, 0, x1, 0, [], 0, 0, []⟩ : Fr) (.slice none 0 0)), ?_, .slice none 0 0, rfl, hG9, hI9, hN9, hx, ho⟩
    simp [results, Try.f65, go_sem, frC, u0, u1, u2, u3, u4, u5, u6, u7, u8, u9, u10, u11, u12]
  · skip
    obtain ⟨rc2, rc3⟩ := rc0
    simp only [Option.isNone_none, Option.isNone_some] at rc2
    clear HC
    have H3 := H2.rdput (.bool false) (RdX.good H2.rd)
    clear H2
    go_wp2_with fail
    generalize (w3.setCell ⟨w.heap.size + 1, 7, none⟩ (.bool x1)).setCell ⟨rb, 2, none⟩ (.bool false) = w4 at H3 ⊢
    replace H := Lib.hid H3
    clear H3 fz oc rc1 rc2 rc3 hE hGt
    refine (c2 _ H.out.rd).mono ?_
    rintro e w5 ⟨rfl, hX, ho⟩
    have H := Lib.hid (H.out.call ho hX)
    clear hX ho
    have oc : w5.cell? ⟨w.heap.size + 1, 5, none⟩ = some (.int .i64 0) := H.out.fr.cell 5 rfl
    have fz := H.out.free 5
    have H2 := H.out.store 5 (.int .i64 x2) (F' := (⟨18, 0, 0, [], false, x2, 0, x1, 0, [], 0, 0, []⟩ : Fr)) (rv' := .slice none 0 0) rfl
    go_upto_region 51 with fail
    generalize w5.setCell ⟨w.heap.size + 1, 5, none⟩ (.int .i64 x2) = w6 at H2 ⊢
    replace H := Lib.hid H2
    clear H2 fz oc
    obtain ⟨y0, y1, y2, y3, y4, y5, y6, y7, y8, y9, y10, y11, y12⟩ := H.out.fr.c13
    obtain ⟨⟨z0, z1, z2, z3, z4, z5, z6, z7, z8, z9, z10, z11, z12⟩, zf⟩ := H.out.zs
    obtain ⟨wz, hwz⟩ : ∃ x, handed w6 w.heap.size (⟨18, 0, 0, [], false, x2, 0, x1, 0, [], 0, 0, []⟩ : Fr) (.slice none 0 0) = x := ⟨_, rfl⟩
    have hh := H.out.hand
    rw [hwz] at hh
    have HH := Lib.hid hh
    simp only [handed] at hwz
    have HW := Lib.hid hwz
    clear hh H hwz
    go_wp2_with fail
    rw [HW.out]
    clear zf HW y0 y1 y2 y3 y4 y5 y6 y7 y8 y9 y10 y11 y12 z0 z1 z2 z3 z4 z5 z6 z7 z8 z9 z10 z11 z12
    obtain ⟨hz, hx, ho⟩ := HH.out
    obtain ⟨u0, u1, u2, u3, u4, u5, u6, u7, u8, u9, u10, u11, u12⟩ := hz.c13
    rw [HR.out]
    have hG9 := RgAt.nil wz
    have hI9 : InI [] := fun p hp => by cases hp
    have hN9 := RgNew.nil w.heap.size
    refine ⟨rfl, .agg (frC (⟨18, 0, 0, [], false, x2, 0, x1, 0, [], 0, 0, []⟩ : Fr) (.slice none 0 0)), ?_, .slice none 0 0, rfl, hG9, hI9, hN9, hx, ho⟩
    simp [results, Try.f65, go_sem, frC, u0, u1, u2, u3, u4, u5, u6, u7, u8, u9, u10, u11, u12]
set_option maxRecDepth 100000 in
set_option maxHeartbeats 4000000 in
theorem xframe_22 (rb : Nat) (s : ByteArray) (st : Option Nat) (hs : s.size ≤ 4611686018427387903) (w : World) (R : Fr × Option Nat) (hR : runR s.data.toList [.uni, .int mV .mx] (⟨22, 0, 0, [], false, 0, 0, false, 0, [], 0, 0, []⟩ : Fr) st = R) (hX : RdX w rb s st) :
    Calls Try.prog 65 #[.pointer (some ⟨rb, 0, none⟩), .int .i64 22] w (FrmQ s rb R w) := by
  obtain ⟨b1, eb1⟩ : ∃ x, (tR s.data.toList 1 st).1 = x := ⟨_, rfl⟩
  obtain ⟨q1, eq1⟩ : ∃ x, (tR s.data.toList 1 st).2 = x := ⟨_, rfl⟩
  have c1 := fun ww hh => xt_c rb s st 1 (by omega) hs ww hh
  simp only [eb1, eq1] at c1
  obtain ⟨x1, ex1⟩ : ∃ x, (uR s.data.toList st).1 = x := ⟨_, rfl⟩
  obtain ⟨s1, es1⟩ : ∃ x, (uR s.data.toList st).2 = x := ⟨_, rfl⟩
  obtain ⟨hux, hU⟩ := uni_facts s.data.toList st b1 q1 x1 s1 eb1 eq1 ex1 es1
  clear eb1 eq1
  obtain ⟨hE, gg, hGt, hC⟩ := uni_ops b1 q1 x1 s1 hux hU
  clear hux hU
  have HC := Lib.hid hC
  clear hC
  obtain ⟨x2, ex2⟩ : ∃ x, (vR s.data.toList s1).1 = x := ⟨_, rfl⟩
  obtain ⟨s2, es2⟩ : ∃ x, (vR s.data.toList s1).2 = x := ⟨_, rfl⟩
  have c2 := fun ww hh => xv_c rb s s1 hs ww hh
  simp only [ex2, es2] at c2
  have HR : Hid (R = ((⟨22, 0, 0, [], false, x2, 0, x1, 0, [], 0, 0, []⟩ : Fr), s2)) := Lib.hid (by rw [← hR]; show runR s.data.toList [.uni, .int mV .mx] (⟨22, 0, 0, [], false, 0, 0, false, 0, [], 0, 0, []⟩ : Fr) st = _; simp only [runR, stepR, Fr.set, ex1, es1, ex2, es2])
  clear ex1 es1 ex2 es2
  clear hR
  have hS0 := FrmS.start (w := w) (⟨22, 0, 0, [], false, 0, 0, false, 0, [], 0, 0, []⟩ : Fr) hX
  clear hX
  go_enter Try.func65, Try.ntmps65
  go_wp2_with fail
  refine (c1 _ hS0.rd).mono ?_
  rintro e w3 ⟨rfl, hX, ho⟩
  have H := Lib.hid (hS0.call ho hX)
  clear hX ho hS0
  have oc : w3.cell? ⟨w.heap.size + 1, 7, none⟩ = some (.bool false) := H.out.fr.cell 7 rfl
  have fz := H.out.free 7
  have rc0 := H.out.rd.c2
  have H2 := H.out.store 7 (.bool x1) (F' := (⟨22, 0, 0, [], false, 0, 0, x1, 0, [], 0, 0, []⟩ : Fr)) (rv' := .slice none 0 0) rfl
  have rc1 : (w3.setCell ⟨w.heap.size + 1, 7, none⟩ (.bool x1)).frozen? ⟨rb, 2, none⟩ = false := H2.rd.c2.2
  rcases HC.out with ⟨rfl, rfl⟩ | ⟨c, rfl, rfl, rfl⟩ | ⟨c, rfl, rfl, rfl⟩
  · skip
    obtain ⟨rc2, rc3⟩ := rc0
    simp only [Option.isNone_none, Option.isNone_some] at rc2
    clear HC
    have H3 := H2.rdput (.bool true) (RdX.bad H2.rd)
    clear H2
    go_wp2_with fail
    generalize (w3.setCell ⟨w.heap.size + 1, 7, none⟩ (.bool x1)).setCell ⟨rb, 2, none⟩ (.bool true) = w4 at H3 ⊢
    replace H := Lib.hid H3
    clear H3 fz oc rc1 rc2 rc3 hE hGt
    refine (c2 _ H.out.rd).mono ?_
    rintro e w5 ⟨rfl, hX, ho⟩
    have H := Lib.hid (H.out.call ho hX)
    clear hX ho
    have oc : w5.cell? ⟨w.heap.size + 1, 5, none⟩ = some (.int .i64 0) := H.out.fr.cell 5 rfl
    have fz := H.out.free 5
    have H2 := H.out.store 5 (.int .i64 x2) (F' := (⟨22, 0, 0, [], false, x2, 0, x1, 0, [], 0, 0, []⟩ : Fr)) (rv' := .slice none 0 0) rfl
    go_upto_region 51 with fail
    generalize w5.setCell ⟨w.heap.size + 1, 5, none⟩ (.int .i64 x2) = w6 at H2 ⊢
    replace H := Lib.hid H2
    clear H2 fz oc
    obtain ⟨y0, y1, y2, y3, y4, y5, y6, y7, y8, y9, y10, y11, y12⟩ := H.out.fr.c13
    obtain ⟨⟨z0, z1, z2, z3, z4, z5, z6, z7, z8, z9, z10, z11, z12⟩, zf⟩ := H.out.zs
    obtain ⟨wz, hwz⟩ : ∃ x, handed w6 w.heap.size (⟨22, 0, 0, [], false, x2, 0, x1, 0, [], 0, 0, []⟩ : Fr) (.slice none 0 0) = x := ⟨_, rfl⟩
    have hh := H.out.hand
    rw [hwz] at hh
    have HH := Lib.hid hh
    simp only [handed] at hwz
    have HW := Lib.hid hwz
    clear hh H hwz
    go_wp2_with fail
    rw [HW.out]
    clear zf HW y0 y1 y2 y3 y4 y5 y6 y7 y8 y9 y10 y11 y12 z0 z1 z2 z3 z4 z5 z6 z7 z8 z9 z10 z11 z12
    obtain ⟨hz, hx, ho⟩ := HH.out
    obtain ⟨u0, u1, u2, u3, u4, u5, u6, u7, u8, u9, u10, u11, u12⟩ := hz.c13
    rw [HR.out]
    have hG9 := RgAt.nil wz
    have hI9 : InI [] := fun p hp => by cases hp
    have hN9 := RgNew.nil w.heap.size
    refine ⟨rfl, .agg (frC (⟨22, 0, 0, [], false, x2, 0, x1, 0, [], 0, 0, []⟩ : Fr) (.slice none 0 0)), ?_, .slice none 0 0, rfl, hG9, hI9, hN9, hx, ho⟩
    simp [results, Try.f65, go_sem, frC, u0, u1, u2, u3, u4, u5, u6, u7, u8, u9, u10, u11, u12]
  · skip
    obtain ⟨rc2, rc3⟩ := rc0
    simp only [Option.isNone_none, Option.isNone_some] at rc2
    clear HC
    have H3 := H2.rdput (.bool true) (RdX.bad H2.rd)
    clear H2
    go_wp2_with fail
    generalize (w3.setCell ⟨w.heap.size + 1, 7, none⟩ (.bool x1)).setCell ⟨rb, 2, none⟩ (.bool true) = w4 at H3 ⊢
    replace H := Lib.hid H3
    clear H3 fz oc rc1 rc2 rc3 hE hGt
    refine (c2 _ H.out.rd).mono ?_
    rintro e w5 ⟨rfl, hX, ho⟩
    have H := Lib.hid (H.out.call ho hX)
    clear hX ho
    have oc : w5.cell? ⟨w.heap.size + 1, 5, none⟩ = some (.int .i64 0) := H.out.fr.cell 5 rfl
    have fz := H.out.free 5
    have H2 := H.out.store 5 (.int .i64 x2) (F' := (⟨22, 0, 0, [], false, x2, 0, x1, 0, [], 0, 0, []⟩ : Fr)) (rv' := .slice none 0 0) rfl
    go_upto_region 51 with fail
    generalize w5.setCell ⟨w.heap.size + 1, 5, none⟩ (.int .i64 x2) = w6 at H2 ⊢
    replace H := Lib.hid H2
    clear H2 fz oc
    obtain ⟨y0, y1, y2, y3, y4, y5, y6, y7, y8, y9, y10, y11, y12⟩ := H.out.fr.c13
    obtain ⟨⟨z0, z1, z2, z3, z4, z5, z6, z7, z8, z9, z10, z11, z12⟩, zf⟩ := H.out.zs
    obtain ⟨wz, hwz⟩ : ∃ x, handed w6 w.heap.size (⟨22, 0, 0, [], false, x2, 0, x1, 0, [], 0, 0, []⟩ : Fr) (.slice none 0 0) = x := ⟨_, rfl⟩
    have hh := H.out.hand
    rw [hwz] at hh
    have HH := Lib.hid hh
    simp only [handed] at hwz
    have HW := Lib.hid hwz
    clear hh H hwz
    go_wp2_with fail
    rw [HW.out]
    clear zf HW y0 y1 y2 y3 y4 y5 y6 y7 y8 y9 y10 y11 y12 z0 z1 z2 z3 z4 z5 z6 z7 z8 z9 z10 z11 z12
    obtain ⟨hz, hx, ho⟩ := HH.out
    obtain ⟨u0, u1, u2, u3, u4, u5, u6, u7, u8, u9, u10, u11, u12⟩ := hz.c13
    rw [HR.out]
    have hG9 := RgAt.nil wz
    have hI9 : InI [] := fun p hp => by cases hp
    have hN9 := RgNew.nil w.heap.size
    refine ⟨rfl, .agg (frC (⟨22, 0, 0, [], false, x2, 0, x1, 0, [], 0, 0, []⟩ : Fr) (.slice none 0 0)), ?_, .slice none 0 0, rfl, hG9, hI9, hN9, hx, ho⟩
    simp [results, Try.f65, go_sem, frC, u0, u1, u2, u3, u4, u5, u6, u7, u8, u9, u10, u11, u12]
  · skip
    obtain ⟨rc2, rc3⟩ := rc0
    simp only [Option.isNone_none, Option.isNone_some] at rc2
    clear HC
    have H3 := H2.rdput (.bool false) (RdX.good H2.rd)
    clear H2
    go_wp2_with fail
    generalize (w3.setCell ⟨w.heap.size + 1, 7, none⟩ (.bool x1)).setCell ⟨rb, 2, none⟩ (.bool false) = w4 at H3 ⊢
    replace H := Lib.hid H3
    clear H3 fz oc rc1 rc2 rc3 hE hGt
    refine (c2 _ H.out.rd).mono ?_
    rintro e w5 ⟨rfl, hX, ho⟩
    have H := Lib.hid (H.out.call ho hX)
    clear hX ho
    have oc : w5.cell? ⟨w.heap.size + 1, 5, none⟩ = some (.int .i64 0) := H.out.fr.cell 5 rfl
    have fz := H.out.free 5
    have H2 := H.out.store 5 (.int .i64 x2) (F' := (⟨22, 0, 0, [], false, x2, 0, x1, 0, [], 0, 0, []⟩ : Fr)) (rv' := .slice none 0 0) rfl
    go_upto_region 51 with fail
    generalize w5.setCell ⟨w.heap.size + 1, 5, none⟩ (.int .i64 x2) = w6 at H2 ⊢
    replace H := Lib.hid H2
    clear H2 fz oc
    obtain ⟨y0, y1, y2, y3, y4, y5, y6, y7, y8, y9, y10, y11, y12⟩ := H.out.fr.c13
    obtain ⟨⟨z0, z1, z2, z3, z4, z5, z6, z7, z8, z9, z10, z11, z12⟩, zf⟩ := H.out.zs
    obtain ⟨wz, hwz⟩ : ∃ x, handed w6 w.heap.size (⟨22, 0, 0, [], false, x2, 0, x1, 0, [], 0, 0, []⟩ : Fr) (.slice none 0 0) = x := ⟨_, rfl⟩
    have hh := H.out.hand
    rw [hwz] at hh
    have HH := Lib.hid hh
    simp only [handed] at hwz
    have HW := Lib.hid hwz
    clear hh H hwz
    go_wp2_with fail
    rw [HW.out]
    clear zf HW y0 y1 y2 y3 y4 y5 y6 y7 y8 y9 y10 y11 y12 z0 z1 z2 z3 z4 z5 z6 z7 z8 z9 z10 z11 z12
    obtain ⟨hz, hx, ho⟩ := HH.out
    obtain ⟨u0, u1, u2, u3, u4, u5, u6, u7, u8, u9, u10, u11, u12⟩ := hz.c13
    rw [HR.out]
    have hG9 := RgAt.nil wz
    have hI9 : InI [] := fun p hp => by cases hp
    have hN9 := RgNew.nil w.heap.size
    refine ⟨rfl, .agg (frC (⟨22, 0, 0, [], false, x2, 0, x1, 0, [], 0, 0, []⟩ : Fr) (.slice none 0 0)), ?_, .slice none 0 0, rfl, hG9, hI9, hN9, hx, ho⟩
    simp [results, Try.f65, go_sem, frC, u0, u1, u2, u3, u4, u5, u6, u7, u8, u9, u10, u11, u12]
end Go.Proofs.Ytmmgmpghkpbgkaa
