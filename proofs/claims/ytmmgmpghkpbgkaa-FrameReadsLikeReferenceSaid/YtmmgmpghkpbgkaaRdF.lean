/- Contracts of the reference's reader: frame, some kinds. -/
import Derived.Test.YtmmgmpghkpbgkaaRdB
import Derived.Test.YtmmgmpghkpbgkaaRdD
import Derived.Test.YtmmgmpghkpbgkaaRdE
namespace Go.Proofs.Ytmmgmpghkpbgkaa
open Go Go.RowKit
set_option linter.unusedVariables false
set_option linter.unusedSimpArgs false

set_option maxRecDepth 100000 in
set_option maxHeartbeats 4000000 in
theorem xframe_24 (rb : Nat) (s : ByteArray) (st : Option Nat) (hs : s.size ≤ 4611686018427387903) (w : World) (R : Fr × Option Nat) (hR : runR s.data.toList [.int mV .sq, .retire, .cidp] (⟨24, 0, 0, [], false, 0, 0, false, 0, [], 0, 0, []⟩ : Fr) st = R) (hX : RdX w rb s st) :
    Calls Try.prog 65 #[.pointer (some ⟨rb, 0, none⟩), .int .i64 24] w (FrmQ s rb R w) := by
  obtain ⟨x1, ex1⟩ : ∃ x, (vR s.data.toList st).1 = x := ⟨_, rfl⟩
  obtain ⟨s1, es1⟩ : ∃ x, (vR s.data.toList st).2 = x := ⟨_, rfl⟩
  have c1 := fun ww hh => xv_c rb s st hs ww hh
  simp only [ex1, es1] at c1
  obtain ⟨x2, ex2⟩ : ∃ x, (vR s.data.toList s1).1 = x := ⟨_, rfl⟩
  obtain ⟨s2, es2⟩ : ∃ x, (vR s.data.toList s1).2 = x := ⟨_, rfl⟩
  have c2 := fun ww hh => xv_c rb s s1 hs ww hh
  simp only [ex2, es2] at c2
  obtain ⟨x3, ex3⟩ : ∃ x, (tR s.data.toList 8 s2).1 = x := ⟨_, rfl⟩
  obtain ⟨s3, es3⟩ : ∃ x, (tR s.data.toList 8 s2).2 = x := ⟨_, rfl⟩
  have c3 := fun ww hh => xt_c rb s s2 8 (by omega) hs ww hh
  simp only [ex3, es3] at c3
  have HR : Hid (R = ((⟨24, 0, 0, [], false, 0, 0, false, 0, [], x1, x2, x3⟩ : Fr), s3)) := Lib.hid (by rw [← hR]; show runR s.data.toList [.int mV .sq, .retire, .cidp] (⟨24, 0, 0, [], false, 0, 0, false, 0, [], 0, 0, []⟩ : Fr) st = _; simp only [runR, stepR, Fr.set, ex1, es1, ex2, es2, ex3, es3])
  clear ex1 es1 ex2 es2 ex3 es3
  clear hR
  have hS0 := FrmS.start (w := w) (⟨24, 0, 0, [], false, 0, 0, false, 0, [], 0, 0, []⟩ : Fr) hX
  clear hX
  go_enter Try.func65, Try.ntmps65
  go_wp2_with fail
  refine (c1 _ hS0.rd).mono ?_
  rintro e w3 ⟨rfl, hX, ho⟩
  have H := Lib.hid (hS0.call ho hX)
  clear hX ho hS0
  have oc : w3.cell? ⟨w.heap.size + 1, 10, none⟩ = some (.int .i64 0) := H.out.fr.cell 10 rfl
  have fz := H.out.free 10
  have H2 := H.out.store 10 (.int .i64 x1) (F' := (⟨24, 0, 0, [], false, 0, 0, false, 0, [], x1, 0, []⟩ : Fr)) (rv' := .slice none 0 0) rfl
  go_wp2_with fail
  generalize w3.setCell ⟨w.heap.size + 1, 10, none⟩ (.int .i64 x1) = w4 at H2 ⊢
  replace H := Lib.hid H2
  clear H2 fz oc
  refine (c2 _ H.out.rd).mono ?_
  rintro e w5 ⟨rfl, hX, ho⟩
  have H := Lib.hid (H.out.call ho hX)
  clear hX ho
  have oc : w5.cell? ⟨w.heap.size + 1, 11, none⟩ = some (.int .i64 0) := H.out.fr.cell 11 rfl
  have fz := H.out.free 11
  have H2 := H.out.store 11 (.int .i64 x2) (F' := (⟨24, 0, 0, [], false, 0, 0, false, 0, [], x1, x2, []⟩ : Fr)) (rv' := .slice none 0 0) rfl
  go_wp2_with fail
  generalize w5.setCell ⟨w.heap.size + 1, 11, none⟩ (.int .i64 x2) = w6 at H2 ⊢
  replace H := Lib.hid H2
  clear H2 fz oc
  refine (c3 _ H.out.rd).mono ?_
  rintro e w7 ⟨rfl, hX, ho⟩
  have H := Lib.hid (H.out.call ho hX)
  clear hX ho
  have oc : w7.cell? ⟨w.heap.size + 1, 12, none⟩ = some (.string (strB [])) := H.out.fr.cell 12 rfl
  have fz := H.out.free 12
  have H2 := H.out.store 12 (.string (strB x3)) (F' := (⟨24, 0, 0, [], false, 0, 0, false, 0, [], x1, x2, x3⟩ : Fr)) (rv' := .slice none 0 0) rfl
  go_upto_region 51 with fail
  generalize w7.setCell ⟨w.heap.size + 1, 12, none⟩ (.string (strB x3)) = w8 at H2 ⊢
  replace H := Lib.hid H2
  clear H2 fz oc
  obtain ⟨y0, y1, y2, y3, y4, y5, y6, y7, y8, y9, y10, y11, y12⟩ := H.out.fr.c13
  obtain ⟨⟨z0, z1, z2, z3, z4, z5, z6, z7, z8, z9, z10, z11, z12⟩, zf⟩ := H.out.zs
  obtain ⟨wz, hwz⟩ : ∃ x, handed w8 w.heap.size (⟨24, 0, 0, [], false, 0, 0, false, 0, [], x1, x2, x3⟩ : Fr) (.slice none 0 0) = x := ⟨_, rfl⟩
  have hh := H.out.hand
  rw [hwz] at hh
  have HH := Lib.hid hh
  simp only [handed] at hwz
  have HW := Lib.hid hwz
  clear hh H hwz
  go_wp2_with fail
  rw [HW.out]
  clear zf HW y0 y1 y2 y3 y4 y5 y6 y7 y8 y9 y10 y11 y12 z0 z1 z2 z3 z4 z5 z6 z7 z8 z9 z10 z11 z12
  obtain ⟨hz, hx, ho⟩ := HH.out
  obtain ⟨u0, u1, u2, u3, u4, u5, u6, u7, u8, u9, u10, u11, u12⟩ := hz.c13
  rw [HR.out]
  have hG9 := RgAt.nil wz
  have hI9 : InI [] := fun p hp => by cases hp
  have hN9 := RgNew.nil w.heap.size
  refine ⟨rfl, .agg (frC (⟨24, 0, 0, [], false, 0, 0, false, 0, [], x1, x2, x3⟩ : Fr) (.slice none 0 0)), ?_, .slice none 0 0, rfl, hG9, hI9, hN9, hx, ho⟩
  simp [results, Try.f65, go_sem, frC, u0, u1, u2, u3, u4, u5, u6, u7, u8, u9, u10, u11, u12]
set_option maxRecDepth 100000 in
set_option maxHeartbeats 4000000 in
theorem xframe_25 (rb : Nat) (s : ByteArray) (st : Option Nat) (hs : s.size ≤ 4611686018427387903) (w : World) (R : Fr × Option Nat) (hR : runR s.data.toList [.int mV .sq] (⟨25, 0, 0, [], false, 0, 0, false, 0, [], 0, 0, []⟩ : Fr) st = R) (hX : RdX w rb s st) :
    Calls Try.prog 65 #[.pointer (some ⟨rb, 0, none⟩), .int .i64 25] w (FrmQ s rb R w) := by
  obtain ⟨x1, ex1⟩ : ∃ x, (vR s.data.toList st).1 = x := ⟨_, rfl⟩
  obtain ⟨s1, es1⟩ : ∃ x, (vR s.data.toList st).2 = x := ⟨_, rfl⟩
  have c1 := fun ww hh => xv_c rb s st hs ww hh
  simp only [ex1, es1] at c1
  have HR : Hid (R = ((⟨25, 0, 0, [], false, 0, 0, false, 0, [], x1, 0, []⟩ : Fr), s1)) := Lib.hid (by rw [← hR]; show runR s.data.toList [.int mV .sq] (⟨25, 0, 0, [], false, 0, 0, false, 0, [], 0, 0, []⟩ : Fr) st = _; simp only [runR, stepR, Fr.set, ex1, es1])
  clear ex1 es1
  clear hR
  have hS0 := FrmS.start (w := w) (⟨25, 0, 0, [], false, 0, 0, false, 0, [], 0, 0, []⟩ : Fr) hX
  clear hX
  go_enter Try.func65, Try.ntmps65
  go_wp2_with fail
  refine (c1 _ hS0.rd).mono ?_
  rintro e w3 ⟨rfl, hX, ho⟩
  have H := Lib.hid (hS0.call ho hX)
  clear hX ho hS0
  have oc : w3.cell? ⟨w.heap.size + 1, 10, none⟩ = some (.int .i64 0) := H.out.fr.cell 10 rfl
  have fz := H.out.free 10
  have H2 := H.out.store 10 (.int .i64 x1) (F' := (⟨25, 0, 0, [], false, 0, 0, false, 0, [], x1, 0, []⟩ : Fr)) (rv' := .slice none 0 0) rfl
  go_upto_region 51 with fail
  generalize w3.setCell ⟨w.heap.size + 1, 10, none⟩ (.int .i64 x1) = w4 at H2 ⊢
  replace H := Lib.hid H2
  clear H2 fz oc
  obtain ⟨y0, y1, y2, y3, y4, y5, y6, y7, y8, y9, y10, y11, y12⟩ := H.out.fr.c13
  obtain ⟨⟨z0, z1, z2, z3, z4, z5, z6, z7, z8, z9, z10, z11, z12⟩, zf⟩ := H.out.zs
  obtain ⟨wz, hwz⟩ : ∃ x, handed w4 w.heap.size (⟨25, 0, 0, [], false, 0, 0, false, 0, [], x1, 0, []⟩ : Fr) (.slice none 0 0) = x := ⟨_, rfl⟩
  have hh := H.out.hand
  rw [hwz] at hh
  have HH := Lib.hid hh
  simp only [handed] at hwz
  have HW := Lib.hid hwz
  clear hh H hwz
  go_wp2_with fail
  rw [HW.out]
  clear zf HW y0 y1 y2 y3 y4 y5 y6 y7 y8 y9 y10 y11 y12 z0 z1 z2 z3 z4 z5 z6 z7 z8 z9 z10 z11 z12
  obtain ⟨hz, hx, ho⟩ := HH.out
  obtain ⟨u0, u1, u2, u3, u4, u5, u6, u7, u8, u9, u10, u11, u12⟩ := hz.c13
  rw [HR.out]
  have hG9 := RgAt.nil wz
  have hI9 : InI [] := fun p hp => by cases hp
  have hN9 := RgNew.nil w.heap.size
  refine ⟨rfl, .agg (frC (⟨25, 0, 0, [], false, 0, 0, false, 0, [], x1, 0, []⟩ : Fr) (.slice none 0 0)), ?_, .slice none 0 0, rfl, hG9, hI9, hN9, hx, ho⟩
  simp [results, Try.f65, go_sem, frC, u0, u1, u2, u3, u4, u5, u6, u7, u8, u9, u10, u11, u12]
set_option maxRecDepth 100000 in
set_option maxHeartbeats 4000000 in
theorem xframe_26 (rb : Nat) (s : ByteArray) (st : Option Nat) (hs : s.size ≤ 4611686018427387903) (w : World) (R : Fr × Option Nat) (hR : runR s.data.toList [.chal] (⟨26, 0, 0, [], false, 0, 0, false, 0, [], 0, 0, []⟩ : Fr) st = R) (hX : RdX w rb s st) :
    Calls Try.prog 65 #[.pointer (some ⟨rb, 0, none⟩), .int .i64 26] w (FrmQ s rb R w) := by
  obtain ⟨x1, ex1⟩ : ∃ x, (tR s.data.toList 8 st).1 = x := ⟨_, rfl⟩
  obtain ⟨s1, es1⟩ : ∃ x, (tR s.data.toList 8 st).2 = x := ⟨_, rfl⟩
  have c1 := fun ww hh => xt_c rb s st 8 (by omega) hs ww hh
  simp only [ex1, es1] at c1
  have HR : Hid (R = ((⟨26, 0, 0, x1, false, 0, 0, false, 0, [], 0, 0, []⟩ : Fr), s1)) := Lib.hid (by rw [← hR]; show runR s.data.toList [.chal] (⟨26, 0, 0, [], false, 0, 0, false, 0, [], 0, 0, []⟩ : Fr) st = _; simp only [runR, stepR, Fr.set, ex1, es1])
  clear ex1 es1
  clear hR
  have hS0 := FrmS.start (w := w) (⟨26, 0, 0, [], false, 0, 0, false, 0, [], 0, 0, []⟩ : Fr) hX
  clear hX
  go_enter Try.func65, Try.ntmps65
  go_wp2_with fail
  refine (c1 _ hS0.rd).mono ?_
  rintro e w3 ⟨rfl, hX, ho⟩
  have H := Lib.hid (hS0.call ho hX)
  clear hX ho hS0
  have oc : w3.cell? ⟨w.heap.size + 1, 3, none⟩ = some (.string (strB [])) := H.out.fr.cell 3 rfl
  have fz := H.out.free 3
  have H2 := H.out.store 3 (.string (strB x1)) (F' := (⟨26, 0, 0, x1, false, 0, 0, false, 0, [], 0, 0, []⟩ : Fr)) (rv' := .slice none 0 0) rfl
  go_upto_region 51 with fail
  generalize w3.setCell ⟨w.heap.size + 1, 3, none⟩ (.string (strB x1)) = w4 at H2 ⊢
  replace H := Lib.hid H2
  clear H2 fz oc
  obtain ⟨y0, y1, y2, y3, y4, y5, y6, y7, y8, y9, y10, y11, y12⟩ := H.out.fr.c13
  obtain ⟨⟨z0, z1, z2, z3, z4, z5, z6, z7, z8, z9, z10, z11, z12⟩, zf⟩ := H.out.zs
  obtain ⟨wz, hwz⟩ : ∃ x, handed w4 w.heap.size (⟨26, 0, 0, x1, false, 0, 0, false, 0, [], 0, 0, []⟩ : Fr) (.slice none 0 0) = x := ⟨_, rfl⟩
  have hh := H.out.hand
  rw [hwz] at hh
  have HH := Lib.hid hh
  simp only [handed] at hwz
  have HW := Lib.hid hwz
  clear hh H hwz
  go_wp2_with fail
  rw [HW.out]
  clear zf HW y0 y1 y2 y3 y4 y5 y6 y7 y8 y9 y10 y11 y12 z0 z1 z2 z3 z4 z5 z6 z7 z8 z9 z10 z11 z12
  obtain ⟨hz, hx, ho⟩ := HH.out
  obtain ⟨u0, u1, u2, u3, u4, u5, u6, u7, u8, u9, u10, u11, u12⟩ := hz.c13
  rw [HR.out]
  have hG9 := RgAt.nil wz
  have hI9 : InI [] := fun p hp => by cases hp
  have hN9 := RgNew.nil w.heap.size
  refine ⟨rfl, .agg (frC (⟨26, 0, 0, x1, false, 0, 0, false, 0, [], 0, 0, []⟩ : Fr) (.slice none 0 0)), ?_, .slice none 0 0, rfl, hG9, hI9, hN9, hx, ho⟩
  simp [results, Try.f65, go_sem, frC, u0, u1, u2, u3, u4, u5, u6, u7, u8, u9, u10, u11, u12]
set_option maxRecDepth 100000 in
set_option maxHeartbeats 4000000 in
theorem xframe_27 (rb : Nat) (s : ByteArray) (st : Option Nat) (hs : s.size ≤ 4611686018427387903) (w : World) (R : Fr × Option Nat) (hR : runR s.data.toList [.chal] (⟨27, 0, 0, [], false, 0, 0, false, 0, [], 0, 0, []⟩ : Fr) st = R) (hX : RdX w rb s st) :
    Calls Try.prog 65 #[.pointer (some ⟨rb, 0, none⟩), .int .i64 27] w (FrmQ s rb R w) := by
  obtain ⟨x1, ex1⟩ : ∃ x, (tR s.data.toList 8 st).1 = x := ⟨_, rfl⟩
  obtain ⟨s1, es1⟩ : ∃ x, (tR s.data.toList 8 st).2 = x := ⟨_, rfl⟩
  have c1 := fun ww hh => xt_c rb s st 8 (by omega) hs ww hh
  simp only [ex1, es1] at c1
  have HR : Hid (R = ((⟨27, 0, 0, x1, false, 0, 0, false, 0, [], 0, 0, []⟩ : Fr), s1)) := Lib.hid (by rw [← hR]; show runR s.data.toList [.chal] (⟨27, 0, 0, [], false, 0, 0, false, 0, [], 0, 0, []⟩ : Fr) st = _; simp only [runR, stepR, Fr.set, ex1, es1])
  clear ex1 es1
  clear hR
  have hS0 := FrmS.start (w := w) (⟨27, 0, 0, [], false, 0, 0, false, 0, [], 0, 0, []⟩ : Fr) hX
  clear hX
  go_enter Try.func65, Try.ntmps65
  go_wp2_with fail
  refine (c1 _ hS0.rd).mono ?_
  rintro e w3 ⟨rfl, hX, ho⟩
  have H := Lib.hid (hS0.call ho hX)
  clear hX ho hS0
  have oc : w3.cell? ⟨w.heap.size + 1, 3, none⟩ = some (.string (strB [])) := H.out.fr.cell 3 rfl
  have fz := H.out.free 3
  have H2 := H.out.store 3 (.string (strB x1)) (F' := (⟨27, 0, 0, x1, false, 0, 0, false, 0, [], 0, 0, []⟩ : Fr)) (rv' := .slice none 0 0) rfl
  go_upto_region 51 with fail
  generalize w3.setCell ⟨w.heap.size + 1, 3, none⟩ (.string (strB x1)) = w4 at H2 ⊢
  replace H := Lib.hid H2
  clear H2 fz oc
  obtain ⟨y0, y1, y2, y3, y4, y5, y6, y7, y8, y9, y10, y11, y12⟩ := H.out.fr.c13
  obtain ⟨⟨z0, z1, z2, z3, z4, z5, z6, z7, z8, z9, z10, z11, z12⟩, zf⟩ := H.out.zs
  obtain ⟨wz, hwz⟩ : ∃ x, handed w4 w.heap.size (⟨27, 0, 0, x1, false, 0, 0, false, 0, [], 0, 0, []⟩ : Fr) (.slice none 0 0) = x := ⟨_, rfl⟩
  have hh := H.out.hand
  rw [hwz] at hh
  have HH := Lib.hid hh
  simp only [handed] at hwz
  have HW := Lib.hid hwz
  clear hh H hwz
  go_wp2_with fail
  rw [HW.out]
  clear zf HW y0 y1 y2 y3 y4 y5 y6 y7 y8 y9 y10 y11 y12 z0 z1 z2 z3 z4 z5 z6 z7 z8 z9 z10 z11 z12
  obtain ⟨hz, hx, ho⟩ := HH.out
  obtain ⟨u0, u1, u2, u3, u4, u5, u6, u7, u8, u9, u10, u11, u12⟩ := hz.c13
  rw [HR.out]
  have hG9 := RgAt.nil wz
  have hI9 : InI [] := fun p hp => by cases hp
  have hN9 := RgNew.nil w.heap.size
  refine ⟨rfl, .agg (frC (⟨27, 0, 0, x1, false, 0, 0, false, 0, [], 0, 0, []⟩ : Fr) (.slice none 0 0)), ?_, .slice none 0 0, rfl, hG9, hI9, hN9, hx, ho⟩
  simp [results, Try.f65, go_sem, frC, u0, u1, u2, u3, u4, u5, u6, u7, u8, u9, u10, u11, u12]
set_option maxRecDepth 100000 in
set_option maxHeartbeats 4000000 in
theorem xframe_28 (rb : Nat) (s : ByteArray) (st : Option Nat) (hs : s.size ≤ 4611686018427387903) (w : World) (R : Fr × Option Nat) (hR : runR s.data.toList [.int mC .cd, .text 0 64] (⟨28, 0, 0, [], false, 0, 0, false, 0, [], 0, 0, []⟩ : Fr) st = R) (hX : RdX w rb s st) :
    Calls Try.prog 65 #[.pointer (some ⟨rb, 0, none⟩), .int .i64 28] w (FrmQ s rb R w) := by
  obtain ⟨x1, ex1⟩ : ∃ x, (vR s.data.toList st).1 = x := ⟨_, rfl⟩
  obtain ⟨s1, es1⟩ : ∃ x, (vR s.data.toList st).2 = x := ⟨_, rfl⟩
  have c1 := fun ww hh => xv_c rb s st hs ww hh
  simp only [ex1, es1] at c1
  have bn2 := vR_pos s.data.toList s1
  obtain ⟨n2, en2⟩ : ∃ x, (vR s.data.toList s1).1 = x := ⟨_, rfl⟩
  obtain ⟨q2, eq2⟩ : ∃ x, (vR s.data.toList s1).2 = x := ⟨_, rfl⟩
  have d2 := fun ww hh => xv_c rb s s1 hs ww hh
  simp only [en2, eq2] at d2
  rw [en2] at bn2
  obtain ⟨x2, ex2⟩ : ∃ x, (tR s.data.toList n2 q2).1 = x := ⟨_, rfl⟩
  obtain ⟨s2, es2⟩ : ∃ x, (tR s.data.toList n2 q2).2 = x := ⟨_, rfl⟩
  have c2 := fun ww hh => xt_c rb s q2 n2 bn2.1 hs ww hh
  simp only [ex2, es2] at c2
  clear bn2
  have HR : Hid (R = ((⟨28, 0, 0, x2, false, 0, x1, false, 0, [], 0, 0, []⟩ : Fr), s2)) := Lib.hid (by rw [← hR]; show runR s.data.toList [.int mC .cd, .text 0 64] (⟨28, 0, 0, [], false, 0, 0, false, 0, [], 0, 0, []⟩ : Fr) st = _; simp only [runR, stepR, Fr.set, ex1, es1, en2, eq2, ex2, es2])
  clear ex1 es1 en2 eq2 ex2 es2
  clear hR
  have hS0 := FrmS.start (w := w) (⟨28, 0, 0, [], false, 0, 0, false, 0, [], 0, 0, []⟩ : Fr) hX
  clear hX
  go_enter Try.func65, Try.ntmps65
  go_wp2_with fail
  refine (c1 _ hS0.rd).mono ?_
  rintro e w3 ⟨rfl, hX, ho⟩
  have H := Lib.hid (hS0.call ho hX)
  clear hX ho hS0
  have oc : w3.cell? ⟨w.heap.size + 1, 6, none⟩ = some (.int .i64 0) := H.out.fr.cell 6 rfl
  have fz := H.out.free 6
  have H2 := H.out.store 6 (.int .i64 x1) (F' := (⟨28, 0, 0, [], false, 0, x1, false, 0, [], 0, 0, []⟩ : Fr)) (rv' := .slice none 0 0) rfl
  go_wp2_with fail
  generalize w3.setCell ⟨w.heap.size + 1, 6, none⟩ (.int .i64 x1) = w4 at H2 ⊢
  replace H := Lib.hid H2
  clear H2 fz oc
  refine (d2 _ H.out.rd).mono ?_
  rintro e w5 ⟨rfl, hX, ho⟩
  have H := Lib.hid (H.out.call ho hX)
  clear hX ho
  go_wp2_with fail
  refine (c2 _ H.out.rd).mono ?_
  rintro e w6 ⟨rfl, hX, ho⟩
  have H := Lib.hid (H.out.call ho hX)
  clear hX ho
  have oc : w6.cell? ⟨w.heap.size + 1, 3, none⟩ = some (.string (strB [])) := H.out.fr.cell 3 rfl
  have fz := H.out.free 3
  have H2 := H.out.store 3 (.string (strB x2)) (F' := (⟨28, 0, 0, x2, false, 0, x1, false, 0, [], 0, 0, []⟩ : Fr)) (rv' := .slice none 0 0) rfl
  go_upto_region 51 with fail
  generalize w6.setCell ⟨w.heap.size + 1, 3, none⟩ (.string (strB x2)) = w7 at H2 ⊢
  replace H := Lib.hid H2
  clear H2 fz oc
  obtain ⟨y0, y1, y2, y3, y4, y5, y6, y7, y8, y9, y10, y11, y12⟩ := H.out.fr.c13
  obtain ⟨⟨z0, z1, z2, z3, z4, z5, z6, z7, z8, z9, z10, z11, z12⟩, zf⟩ := H.out.zs
  obtain ⟨wz, hwz⟩ : ∃ x, handed w7 w.heap.size (⟨28, 0, 0, x2, false, 0, x1, false, 0, [], 0, 0, []⟩ : Fr) (.slice none 0 0) = x := ⟨_, rfl⟩
  have hh := H.out.hand
  rw [hwz] at hh
  have HH := Lib.hid hh
  simp only [handed] at hwz
  have HW := Lib.hid hwz
  clear hh H hwz
  go_wp2_with fail
  rw [HW.out]
  clear zf HW y0 y1 y2 y3 y4 y5 y6 y7 y8 y9 y10 y11 y12 z0 z1 z2 z3 z4 z5 z6 z7 z8 z9 z10 z11 z12
  obtain ⟨hz, hx, ho⟩ := HH.out
  obtain ⟨u0, u1, u2, u3, u4, u5, u6, u7, u8, u9, u10, u11, u12⟩ := hz.c13
  rw [HR.out]
  have hG9 := RgAt.nil wz
  have hI9 : InI [] := fun p hp => by cases hp
  have hN9 := RgNew.nil w.heap.size
  refine ⟨rfl, .agg (frC (⟨28, 0, 0, x2, false, 0, x1, false, 0, [], 0, 0, []⟩ : Fr) (.slice none 0 0)), ?_, .slice none 0 0, rfl, hG9, hI9, hN9, hx, ho⟩
  simp [results, Try.f65, go_sem, frC, u0, u1, u2, u3, u4, u5, u6, u7, u8, u9, u10, u11, u12]
set_option maxRecDepth 100000 in
set_option maxHeartbeats 4000000 in
theorem xframe_29 (rb : Nat) (s : ByteArray) (st : Option Nat) (hs : s.size ≤ 4611686018427387903) (w : World) (R : Fr × Option Nat) (hR : runR s.data.toList [.int mC .cd, .text 0 64] (⟨29, 0, 0, [], false, 0, 0, false, 0, [], 0, 0, []⟩ : Fr) st = R) (hX : RdX w rb s st) :
    Calls Try.prog 65 #[.pointer (some ⟨rb, 0, none⟩), .int .i64 29] w (FrmQ s rb R w) := by
  obtain ⟨x1, ex1⟩ : ∃ x, (vR s.data.toList st).1 = x := ⟨_, rfl⟩
  obtain ⟨s1, es1⟩ : ∃ x, (vR s.data.toList st).2 = x := ⟨_, rfl⟩
  have c1 := fun ww hh => xv_c rb s st hs ww hh
  simp only [ex1, es1] at c1
  have bn2 := vR_pos s.data.toList s1
  obtain ⟨n2, en2⟩ : ∃ x, (vR s.data.toList s1).1 = x := ⟨_, rfl⟩
  obtain ⟨q2, eq2⟩ : ∃ x, (vR s.data.toList s1).2 = x := ⟨_, rfl⟩
  have d2 := fun ww hh => xv_c rb s s1 hs ww hh
  simp only [en2, eq2] at d2
  rw [en2] at bn2
  obtain ⟨x2, ex2⟩ : ∃ x, (tR s.data.toList n2 q2).1 = x := ⟨_, rfl⟩
  obtain ⟨s2, es2⟩ : ∃ x, (tR s.data.toList n2 q2).2 = x := ⟨_, rfl⟩
  have c2 := fun ww hh => xt_c rb s q2 n2 bn2.1 hs ww hh
  simp only [ex2, es2] at c2
  clear bn2
  have HR : Hid (R = ((⟨29, 0, 0, x2, false, 0, x1, false, 0, [], 0, 0, []⟩ : Fr), s2)) := Lib.hid (by rw [← hR]; show runR s.data.toList [.int mC .cd, .text 0 64] (⟨29, 0, 0, [], false, 0, 0, false, 0, [], 0, 0, []⟩ : Fr) st = _; simp only [runR, stepR, Fr.set, ex1, es1, en2, eq2, ex2, es2])
  clear ex1 es1 en2 eq2 ex2 es2
  clear hR
  have hS0 := FrmS.start (w := w) (⟨29, 0, 0, [], false, 0, 0, false, 0, [], 0, 0, []⟩ : Fr) hX
  clear hX
  go_enter Try.func65, Try.ntmps65
  go_wp2_with fail
  refine (c1 _ hS0.rd).mono ?_
  rintro e w3 ⟨rfl, hX, ho⟩
  have H := Lib.hid (hS0.call ho hX)
  clear hX ho hS0
  have oc : w3.cell? ⟨w.heap.size + 1, 6, none⟩ = some (.int .i64 0) := H.out.fr.cell 6 rfl
  have fz := H.out.free 6
  have H2 := H.out.store 6 (.int .i64 x1) (F' := (⟨29, 0, 0, [], false, 0, x1, false, 0, [], 0, 0, []⟩ : Fr)) (rv' := .slice none 0 0) rfl
  go_wp2_with fail
  generalize w3.setCell ⟨w.heap.size + 1, 6, none⟩ (.int .i64 x1) = w4 at H2 ⊢
  replace H := Lib.hid H2
  clear H2 fz oc
  refine (d2 _ H.out.rd).mono ?_
  rintro e w5 ⟨rfl, hX, ho⟩
  have H := Lib.hid (H.out.call ho hX)
  clear hX ho
  go_wp2_with fail
  refine (c2 _ H.out.rd).mono ?_
  rintro e w6 ⟨rfl, hX, ho⟩
  have H := Lib.hid (H.out.call ho hX)
  clear hX ho
  have oc : w6.cell? ⟨w.heap.size + 1, 3, none⟩ = some (.string (strB [])) := H.out.fr.cell 3 rfl
  have fz := H.out.free 3
  have H2 := H.out.store 3 (.string (strB x2)) (F' := (⟨29, 0, 0, x2, false, 0, x1, false, 0, [], 0, 0, []⟩ : Fr)) (rv' := .slice none 0 0) rfl
  go_upto_region 51 with fail
  generalize w6.setCell ⟨w.heap.size + 1, 3, none⟩ (.string (strB x2)) = w7 at H2 ⊢
  replace H := Lib.hid H2
  clear H2 fz oc
  obtain ⟨y0, y1, y2, y3, y4, y5, y6, y7, y8, y9, y10, y11, y12⟩ := H.out.fr.c13
  obtain ⟨⟨z0, z1, z2, z3, z4, z5, z6, z7, z8, z9, z10, z11, z12⟩, zf⟩ := H.out.zs
  obtain ⟨wz, hwz⟩ : ∃ x, handed w7 w.heap.size (⟨29, 0, 0, x2, false, 0, x1, false, 0, [], 0, 0, []⟩ : Fr) (.slice none 0 0) = x := ⟨_, rfl⟩
  have hh := H.out.hand
  rw [hwz] at hh
  have HH := Lib.hid hh
  simp only [handed] at hwz
  have HW := Lib.hid hwz
  clear hh H hwz
  go_wp2_with fail
  rw [HW.out]
  clear zf HW y0 y1 y2 y3 y4 y5 y6 y7 y8 y9 y10 y11 y12 z0 z1 z2 z3 z4 z5 z6 z7 z8 z9 z10 z11 z12
  obtain ⟨hz, hx, ho⟩ := HH.out
  obtain ⟨u0, u1, u2, u3, u4, u5, u6, u7, u8, u9, u10, u11, u12⟩ := hz.c13
  rw [HR.out]
  have hG9 := RgAt.nil wz
  have hI9 : InI [] := fun p hp => by cases hp
  have hN9 := RgNew.nil w.heap.size
  refine ⟨rfl, .agg (frC (⟨29, 0, 0, x2, false, 0, x1, false, 0, [], 0, 0, []⟩ : Fr) (.slice none 0 0)), ?_, .slice none 0 0, rfl, hG9, hI9, hN9, hx, ho⟩
  simp [results, Try.f65, go_sem, frC, u0, u1, u2, u3, u4, u5, u6, u7, u8, u9, u10, u11, u12]
set_option maxRecDepth 100000 in
set_option maxHeartbeats 4000000 in
theorem xframe_o (k : Int) (k2 : k ≠ 2) (k4 : k ≠ 4) (k5 : k ≠ 5) (k6 : k ≠ 6) (k7 : k ≠ 7) (k8 : k ≠ 8) (k9 : k ≠ 9) (k16 : k ≠ 16) (k20 : k ≠ 20) (k17 : k ≠ 17) (k21 : k ≠ 21) (k18 : k ≠ 18) (k22 : k ≠ 22) (k24 : k ≠ 24) (k25 : k ≠ 25) (k26 : k ≠ 26) (k27 : k ≠ 27) (k28 : k ≠ 28) (k29 : k ≠ 29) (rb : Nat) (s : ByteArray) (st : Option Nat) (hs : s.size ≤ 4611686018427387903) (w : World) (R : Fr × Option Nat) (hR : (Fr.zero k, st) = R) (hX : RdX w rb s st) :
    Calls Try.prog 65 #[.pointer (some ⟨rb, 0, none⟩), .int .i64 k] w (FrmQ s rb R w) := by
  have b2 : (k == 2) = false := beq_eq_false_iff_ne.2 k2
  have b4 : (k == 4) = false := beq_eq_false_iff_ne.2 k4
  have b5 : (k == 5) = false := beq_eq_false_iff_ne.2 k5
  have b6 : (k == 6) = false := beq_eq_false_iff_ne.2 k6
  have b7 : (k == 7) = false := beq_eq_false_iff_ne.2 k7
  have b8 : (k == 8) = false := beq_eq_false_iff_ne.2 k8
  have b9 : (k == 9) = false := beq_eq_false_iff_ne.2 k9
  have b16 : (k == 16) = false := beq_eq_false_iff_ne.2 k16
  have b20 : (k == 20) = false := beq_eq_false_iff_ne.2 k20
  have b17 : (k == 17) = false := beq_eq_false_iff_ne.2 k17
  have b21 : (k == 21) = false := beq_eq_false_iff_ne.2 k21
  have b18 : (k == 18) = false := beq_eq_false_iff_ne.2 k18
  have b22 : (k == 22) = false := beq_eq_false_iff_ne.2 k22
  have b24 : (k == 24) = false := beq_eq_false_iff_ne.2 k24
  have b25 : (k == 25) = false := beq_eq_false_iff_ne.2 k25
  have b26 : (k == 26) = false := beq_eq_false_iff_ne.2 k26
  have b27 : (k == 27) = false := beq_eq_false_iff_ne.2 k27
  have b28 : (k == 28) = false := beq_eq_false_iff_ne.2 k28
  have b29 : (k == 29) = false := beq_eq_false_iff_ne.2 k29
  clear k2 k4 k5 k6 k7 k8 k9 k16 k20 k17 k21 k18 k22 k24 k25 k26 k27 k28 k29
  have HR : Hid (R = ((⟨k, 0, 0, [], false, 0, 0, false, 0, [], 0, 0, []⟩ : Fr), st)) := Lib.hid hR.symm
  clear hR
  have hS0 := FrmS.start (w := w) (⟨k, 0, 0, [], false, 0, 0, false, 0, [], 0, 0, []⟩ : Fr) hX
  clear hX
  go_enter Try.func65, Try.ntmps65
  replace hS0 : FrmS s rb w w.heap.size (w.heap.size + 1) (⟨k, 0, 0, [], false, 0, 0, false, 0, [], 0, 0, []⟩ : Fr) (.slice none 0 0) st ((w.alloc (.cells #[.int .i64 0, .int .i64 0, .int .i64 0, .string ⟨#[]⟩, .bool false, .int .i64 0, .int .i64 0, .bool false, .int .i64 0, .slice none 0 0, .int .i64 0, .int .i64 0, .string ⟨#[]⟩] 33)).alloc (.cells #[.int .i64 k, .int .i64 0, .int .i64 0, .string ⟨#[]⟩, .bool false, .int .i64 0, .int .i64 0, .bool false, .int .i64 0, .slice none 0 0, .int .i64 0, .int .i64 0, .string ⟨#[]⟩] 33)) := hS0
  go_upto_region 51 with fail
  generalize ((w.alloc (.cells #[.int .i64 0, .int .i64 0, .int .i64 0, .string ⟨#[]⟩, .bool false, .int .i64 0, .int .i64 0, .bool false, .int .i64 0, .slice none 0 0, .int .i64 0, .int .i64 0, .string ⟨#[]⟩] 33)).alloc (.cells #[.int .i64 k, .int .i64 0, .int .i64 0, .string ⟨#[]⟩, .bool false, .int .i64 0, .int .i64 0, .bool false, .int .i64 0, .slice none 0 0, .int .i64 0, .int .i64 0, .string ⟨#[]⟩] 33)) = w2 at hS0 ⊢
  have H := Lib.hid hS0
  clear hS0
  obtain ⟨y0, y1, y2, y3, y4, y5, y6, y7, y8, y9, y10, y11, y12⟩ := H.out.fr.c13
  obtain ⟨⟨z0, z1, z2, z3, z4, z5, z6, z7, z8, z9, z10, z11, z12⟩, zf⟩ := H.out.zs
  obtain ⟨wz, hwz⟩ : ∃ x, handed w2 w.heap.size (⟨k, 0, 0, [], false, 0, 0, false, 0, [], 0, 0, []⟩ : Fr) (.slice none 0 0) = x := ⟨_, rfl⟩
  have hh := H.out.hand
  rw [hwz] at hh
  have HH := Lib.hid hh
  simp only [handed] at hwz
  have HW := Lib.hid hwz
  clear hh H hwz
  go_wp2_with fail
  rw [HW.out]
  clear zf HW y0 y1 y2 y3 y4 y5 y6 y7 y8 y9 y10 y11 y12 z0 z1 z2 z3 z4 z5 z6 z7 z8 z9 z10 z11 z12
  obtain ⟨hz, hx, ho⟩ := HH.out
  obtain ⟨u0, u1, u2, u3, u4, u5, u6, u7, u8, u9, u10, u11, u12⟩ := hz.c13
  rw [HR.out]
  have hG9 := RgAt.nil wz
  have hI9 : InI [] := fun p hp => by cases hp
  have hN9 := RgNew.nil w.heap.size
  refine ⟨rfl, .agg (frC (⟨k, 0, 0, [], false, 0, 0, false, 0, [], 0, 0, []⟩ : Fr) (.slice none 0 0)), ?_, .slice none 0 0, rfl, hG9, hI9, hN9, hx, ho⟩
  simp [results, Try.f65, go_sem, frC, u0, u1, u2, u3, u4, u5, u6, u7, u8, u9, u10, u11, u12]
end Go.Proofs.Ytmmgmpghkpbgkaa
/- Contracts of the reference's reader: frame, every kind. -/
namespace Go.Proofs.Ytmmgmpghkpbgkaa
open Go Go.RowKit
set_option linter.unusedVariables false
set_option linter.unusedSimpArgs false

theorem xframe_c (rb : Nat) (s : ByteArray) (x : UInt8) (st : Option Nat) (hs : s.size ≤ 4611686018427387903) (w : World) (R : Fr × Option Nat) (hR : runR s.data.toList ((tab (headF x).ty).getD []) (headF x) st = R) (hX : RdX w rb s st) :
    Calls Try.prog 65 #[.pointer (some ⟨rb, 0, none⟩), .int .i64 (x.toNat : Nat)] w (FrmQ s rb R w) := by
  obtain ⟨k, hk⟩ : ∃ k : Int, ((x.toNat : Nat) : Int) = k := ⟨_, rfl⟩
  have hh : headF x = if k = 9 then { Fr.zero 8 with fin := true } else Fr.zero k := by
    unfold headF
    rw [hk]
    by_cases h9 : k = 9
    · rw [if_pos (by omega), if_pos h9]
    · rw [if_neg (by omega), if_neg h9]
  rw [hh] at hR
  rw [hk]
  clear hh hk
  by_cases k2 : k = 2
  · subst k2
    exact xframe_2 rb s st hs w R hR hX
  by_cases k4 : k = 4
  · subst k4
    exact xframe_4 rb s st hs w R hR hX
  by_cases k5 : k = 5
  · subst k5
    exact xframe_5 rb s st hs w R hR hX
  by_cases k6 : k = 6
  · subst k6
    exact xframe_6 rb s st hs w R hR hX
  by_cases k7 : k = 7
  · subst k7
    exact xframe_7 rb s st hs w R hR hX
  by_cases k8 : k = 8
  · subst k8
    exact xframe_8 rb s st hs w R hR hX
  by_cases k9 : k = 9
  · subst k9
    exact xframe_9 rb s st hs w R hR hX
  by_cases k16 : k = 16
  · subst k16
    exact xframe_16 rb s st hs w R hR hX
  by_cases k20 : k = 20
  · subst k20
    exact xframe_20 rb s st hs w R hR hX
  by_cases k17 : k = 17
  · subst k17
    exact xframe_17 rb s st hs w R hR hX
  by_cases k21 : k = 21
  · subst k21
    exact xframe_21 rb s st hs w R hR hX
  by_cases k18 : k = 18
  · subst k18
    exact xframe_18 rb s st hs w R hR hX
  by_cases k22 : k = 22
  · subst k22
    exact xframe_22 rb s st hs w R hR hX
  by_cases k24 : k = 24
  · subst k24
    exact xframe_24 rb s st hs w R hR hX
  by_cases k25 : k = 25
  · subst k25
    exact xframe_25 rb s st hs w R hR hX
  by_cases k26 : k = 26
  · subst k26
    exact xframe_26 rb s st hs w R hR hX
  by_cases k27 : k = 27
  · subst k27
    exact xframe_27 rb s st hs w R hR hX
  by_cases k28 : k = 28
  · subst k28
    exact xframe_28 rb s st hs w R hR hX
  by_cases k29 : k = 29
  · subst k29
    exact xframe_29 rb s st hs w R hR hX
  rw [if_neg k9] at hR
  have ht : (tab (Fr.zero k).ty).getD [] = [] := by
    show (tab k).getD [] = []
    by_cases z0 : k = 0
    · rw [z0]; rfl
    by_cases z1 : k = 1
    · rw [z1]; rfl
    by_cases z30 : k = 30
    · rw [z30]; rfl
    unfold tab
    rw [if_neg z0, if_neg z1, if_neg z30, if_neg k2, if_neg k4, if_neg k5, if_neg k6, if_neg k7, if_neg k8, if_neg k16, if_neg k20, if_neg k17, if_neg k21, if_neg k18, if_neg k22, if_neg k24, if_neg k25, if_neg k26, if_neg k27, if_neg k28, if_neg k29]
    rfl
  rw [ht] at hR
  exact xframe_o k k2 k4 k5 k6 k7 k8 k9 k16 k20 k17 k21 k18 k22 k24 k25 k26 k27 k28 k29 rb s st hs w R hR hX
end Go.Proofs.Ytmmgmpghkpbgkaa
