/- Contracts of the reference's reader: frame, some kinds. -/
import Derived.Test.YtmmgmpghkpbgkaaRdB
namespace Go.Proofs.Ytmmgmpghkpbgkaa
open Go Go.RowKit
set_option linter.unusedVariables false
set_option linter.unusedSimpArgs false

set_option maxRecDepth 100000 in
set_option maxHeartbeats 4000000 in
theorem xframe_2 (rb : Nat) (s : ByteArray) (st : Option Nat) (hs : s.size ≤ 4611686018427387903) (w : World) (R : Fr × Option Nat) (hR : runR s.data.toList [.int mV .dl, .ranges] (⟨2, 0, 0, [], false, 0, 0, false, 0, [], 0, 0, []⟩ : Fr) st = R) (hX : RdX w rb s st) :
    Calls Try.prog 65 #[.pointer (some ⟨rb, 0, none⟩), .int .i64 2] w (FrmQ s rb R w) := by
  obtain ⟨x1, ex1⟩ : ∃ x, (vR s.data.toList st).1 = x := ⟨_, rfl⟩
  obtain ⟨s1, es1⟩ : ∃ x, (vR s.data.toList st).2 = x := ⟨_, rfl⟩
  have c1 := fun ww hh => xv_c rb s st hs ww hh
  simp only [ex1, es1] at c1
  obtain ⟨x2, ex2⟩ : ∃ x, (raR s.data.toList s1).1 = x := ⟨_, rfl⟩
  obtain ⟨s2, es2⟩ : ∃ x, (raR s.data.toList s1).2 = x := ⟨_, rfl⟩
  have c2 := fun ww hh => xranges_c rb s s1 hs ww hh
  simp only [ex2, es2] at c2
  have HR : Hid (R = ((⟨2, 0, 0, [], false, 0, 0, false, x1, x2, 0, 0, []⟩ : Fr), s2)) := Lib.hid (by rw [← hR]; show runR s.data.toList [.int mV .dl, .ranges] (⟨2, 0, 0, [], false, 0, 0, false, 0, [], 0, 0, []⟩ : Fr) st = _; simp only [runR, stepR, Fr.set, ex1, es1, ex2, es2])
  clear ex1 es1 ex2 es2
  clear hR
  have hS0 := FrmS.start (w := w) (⟨2, 0, 0, [], false, 0, 0, false, 0, [], 0, 0, []⟩ : Fr) hX
  clear hX
  go_enter Try.func65, Try.ntmps65
  go_wp2_with fail
  refine (c1 _ hS0.rd).mono ?_
  rintro e w3 ⟨rfl, hX, ho⟩
  have H := Lib.hid (hS0.call ho hX)
  clear hX ho hS0
  have oc : w3.cell? ⟨w.heap.size + 1, 8, none⟩ = some (.int .i64 0) := H.out.fr.cell 8 rfl
  have fz := H.out.free 8
  have H2 := H.out.store 8 (.int .i64 x1) (F' := (⟨2, 0, 0, [], false, 0, 0, false, x1, [], 0, 0, []⟩ : Fr)) (rv' := .slice none 0 0) rfl
  go_wp2_with fail
  generalize w3.setCell ⟨w.heap.size + 1, 8, none⟩ (.int .i64 x1) = w4 at H2 ⊢
  replace H := Lib.hid H2
  clear H2 fz oc
  have HB0 := Lib.hid H.out.fr.lt
  refine (c2 _ H.out.rd).mono ?_
  rintro e w5 ⟨rv, rfl, hG, hI, hX, ho⟩
  obtain ⟨rva, rvc, rfl⟩ := hG.shape'
  obtain ⟨BB, hBB⟩ : ∃ BB, w4.heap.size = BB := ⟨_, rfl⟩
  rw [hBB] at hG
  have HB : Hid (w.heap.size + 1 < BB ∧ w.heap.size < BB) := Lib.hid (by have := HB0.out; omega)
  have HI := Lib.hid hI
  replace H := Lib.hid (H.out.call ho hX)
  clear hX ho hI hBB HB0
  have oc : w5.cell? ⟨w.heap.size + 1, 9, none⟩ = some (.slice none 0 0) := H.out.fr.cell 9 rfl
  have fz := H.out.free 9
  have H2 := H.out.store 9 (.slice rva x2.length rvc) (F' := (⟨2, 0, 0, [], false, 0, 0, false, x1, x2, 0, 0, []⟩ : Fr)) (rv' := .slice rva x2.length rvc) rfl
  have hG2 : RgO (w5.setCell ⟨w.heap.size + 1, 9, none⟩ (.slice rva x2.length rvc)) BB (.slice rva x2.length rvc) x2 := hG.keep (S := [w.heap.size + 1]) ((Only.refl [w.heap.size + 1] w5).put (by simp) _) (by simpa using HB.out.1)
  go_upto_region 51 with fail
  generalize w5.setCell ⟨w.heap.size + 1, 9, none⟩ (.slice rva x2.length rvc) = w6 at H2 hG2 ⊢
  replace H := Lib.hid H2
  clear H2 fz oc
  have HG := Lib.hid hG2
  clear hG2 hG
  obtain ⟨y0, y1, y2, y3, y4, y5, y6, y7, y8, y9, y10, y11, y12⟩ := H.out.fr.c13
  obtain ⟨⟨z0, z1, z2, z3, z4, z5, z6, z7, z8, z9, z10, z11, z12⟩, zf⟩ := H.out.zs
  obtain ⟨wz, hwz⟩ : ∃ x, handed w6 w.heap.size (⟨2, 0, 0, [], false, 0, 0, false, x1, x2, 0, 0, []⟩ : Fr) (.slice rva x2.length rvc) = x := ⟨_, rfl⟩
  have hh := H.out.hand
  rw [hwz] at hh
  have HH := Lib.hid hh
  have hgz := HG.out.keep (handed_only w6 w.heap.size (⟨2, 0, 0, [], false, 0, 0, false, x1, x2, 0, 0, []⟩ : Fr) (.slice rva x2.length rvc) (S := [w.heap.size]) (by simp)) (by simpa using HB.out.2)
  rw [hwz] at hgz
  have HGz := Lib.hid hgz
  clear hgz
  simp only [handed] at hwz
  have HW := Lib.hid hwz
  clear hh H hwz
  go_wp2_with fail
  rw [HW.out]
  clear zf HW y0 y1 y2 y3 y4 y5 y6 y7 y8 y9 y10 y11 y12 z0 z1 z2 z3 z4 z5 z6 z7 z8 z9 z10 z11 z12
  obtain ⟨hz, hx, ho⟩ := HH.out
  obtain ⟨u0, u1, u2, u3, u4, u5, u6, u7, u8, u9, u10, u11, u12⟩ := hz.c13
  rw [HR.out]
  have hG9 := HGz.out.at HI.out
  have hI9 := HI.out
  have hN9 : RgNew w.heap.size (.slice rva x2.length rvc) := RgNew.low HGz.out.new (by have := HB.out.2; omega)
  refine ⟨rfl, .agg (frC (⟨2, 0, 0, [], false, 0, 0, false, x1, x2, 0, 0, []⟩ : Fr) (.slice rva x2.length rvc)), ?_, .slice rva x2.length rvc, rfl, hG9, hI9, hN9, hx, ho⟩
  simp [results, Try.f65, go_sem, frC, u0, u1, u2, u3, u4, u5, u6, u7, u8, u9, u10, u11, u12]
set_option maxRecDepth 100000 in
set_option maxHeartbeats 4000000 in
theorem xframe_4 (rb : Nat) (s : ByteArray) (st : Option Nat) (hs : s.size ≤ 4611686018427387903) (w : World) (R : Fr × Option Nat) (hR : runR s.data.toList [.int mV .st, .int mC .cd, .int mO .mx] (⟨4, 0, 0, [], false, 0, 0, false, 0, [], 0, 0, []⟩ : Fr) st = R) (hX : RdX w rb s st) :
    Calls Try.prog 65 #[.pointer (some ⟨rb, 0, none⟩), .int .i64 4] w (FrmQ s rb R w) := by
  obtain ⟨x1, ex1⟩ : ∃ x, (vR s.data.toList st).1 = x := ⟨_, rfl⟩
  obtain ⟨s1, es1⟩ : ∃ x, (vR s.data.toList st).2 = x := ⟨_, rfl⟩
  have c1 := fun ww hh => xv_c rb s st hs ww hh
  simp only [ex1, es1] at c1
  obtain ⟨x2, ex2⟩ : ∃ x, (vR s.data.toList s1).1 = x := ⟨_, rfl⟩
  obtain ⟨s2, es2⟩ : ∃ x, (vR s.data.toList s1).2 = x := ⟨_, rfl⟩
  have c2 := fun ww hh => xv_c rb s s1 hs ww hh
  simp only [ex2, es2] at c2
  obtain ⟨x3, ex3⟩ : ∃ x, (vR s.data.toList s2).1 = x := ⟨_, rfl⟩
  obtain ⟨s3, es3⟩ : ∃ x, (vR s.data.toList s2).2 = x := ⟨_, rfl⟩
  have c3 := fun ww hh => xv_c rb s s2 hs ww hh
  simp only [ex3, es3] at c3
  have HR : Hid (R = ((⟨4, x1, 0, [], false, x3, x2, false, 0, [], 0, 0, []⟩ : Fr), s3)) := Lib.hid (by rw [← hR]; show runR s.data.toList [.int mV .st, .int mC .cd, .int mO .mx] (⟨4, 0, 0, [], false, 0, 0, false, 0, [], 0, 0, []⟩ : Fr) st = _; simp only [runR, stepR, Fr.set, ex1, es1, ex2, es2, ex3, es3])
  clear ex1 es1 ex2 es2 ex3 es3
  clear hR
  have hS0 := FrmS.start (w := w) (⟨4, 0, 0, [], false, 0, 0, false, 0, [], 0, 0, []⟩ : Fr) hX
  clear hX
  go_enter Try.func65, Try.ntmps65
  go_wp2_with fail
  refine (c1 _ hS0.rd).mono ?_
  rintro e w3 ⟨rfl, hX, ho⟩
  have H := Lib.hid (hS0.call ho hX)
  clear hX ho hS0
  have oc : w3.cell? ⟨w.heap.size + 1, 1, none⟩ = some (.int .i64 0) := H.out.fr.cell 1 rfl
  have fz := H.out.free 1
  have H2 := H.out.store 1 (.int .i64 x1) (F' := (⟨4, x1, 0, [], false, 0, 0, false, 0, [], 0, 0, []⟩ : Fr)) (rv' := .slice none 0 0) rfl
  go_wp2_with fail
  generalize w3.setCell ⟨w.heap.size + 1, 1, none⟩ (.int .i64 x1) = w4 at H2 ⊢
  replace H := Lib.hid H2
  clear H2 fz oc
  refine (c2 _ H.out.rd).mono ?_
  rintro e w5 ⟨rfl, hX, ho⟩
  have H := Lib.hid (H.out.call ho hX)
  clear hX ho
  have oc : w5.cell? ⟨w.heap.size + 1, 6, none⟩ = some (.int .i64 0) := H.out.fr.cell 6 rfl
  have fz := H.out.free 6
  have H2 := H.out.store 6 (.int .i64 x2) (F' := (⟨4, x1, 0, [], false, 0, x2, false, 0, [], 0, 0, []⟩ : Fr)) (rv' := .slice none 0 0) rfl
  go_wp2_with fail
  generalize w5.setCell ⟨w.heap.size + 1, 6, none⟩ (.int .i64 x2) = w6 at H2 ⊢
  replace H := Lib.hid H2
  clear H2 fz oc
  refine (c3 _ H.out.rd).mono ?_
  rintro e w7 ⟨rfl, hX, ho⟩
  have H := Lib.hid (H.out.call ho hX)
  clear hX ho
  have oc : w7.cell? ⟨w.heap.size + 1, 5, none⟩ = some (.int .i64 0) := H.out.fr.cell 5 rfl
  have fz := H.out.free 5
  have H2 := H.out.store 5 (.int .i64 x3) (F' := (⟨4, x1, 0, [], false, x3, x2, false, 0, [], 0, 0, []⟩ : Fr)) (rv' := .slice none 0 0) rfl
  go_upto_region 51 with fail
  generalize w7.setCell ⟨w.heap.size + 1, 5, none⟩ (.int .i64 x3) = w8 at H2 ⊢
  replace H := Lib.hid H2
  clear H2 fz oc
  obtain ⟨y0, y1, y2, y3, y4, y5, y6, y7, y8, y9, y10, y11, y12⟩ := H.out.fr.c13
  obtain ⟨⟨z0, z1, z2, z3, z4, z5, z6, z7, z8, z9, z10, z11, z12⟩, zf⟩ := H.out.zs
  obtain ⟨wz, hwz⟩ : ∃ x, handed w8 w.heap.size (⟨4, x1, 0, [], false, x3, x2, false, 0, [], 0, 0, []⟩ : Fr) (.slice none 0 0) = x := ⟨_, rfl⟩
  have hh := H.out.hand
  rw [hwz] at hh
  have HH := Lib.hid hh
  simp only [handed] at hwz
  have HW := Lib.hid hwz
  clear hh H hwz
  go_wp2_with fail
  rw [HW.out]
  clear zf HW y0 y1 y2 y3 y4 y5 y6 y7 y8 y9 y10 y11 y12 z0 z1 z2 z3 z4 z5 z6 z7 z8 z9 z10 z11 z12
  obtain ⟨hz, hx, ho⟩ := HH.out
  obtain ⟨u0, u1, u2, u3, u4, u5, u6, u7, u8, u9, u10, u11, u12⟩ := hz.c13
  rw [HR.out]
  have hG9 := RgAt.nil wz
  have hI9 : InI [] := fun p hp => by cases hp
  have hN9 := RgNew.nil w.heap.size
  refine ⟨rfl, .agg (frC (⟨4, x1, 0, [], false, x3, x2, false, 0, [], 0, 0, []⟩ : Fr) (.slice none 0 0)), ?_, .slice none 0 0, rfl, hG9, hI9, hN9, hx, ho⟩
  simp [results, Try.f65, go_sem, frC, u0, u1, u2, u3, u4, u5, u6, u7, u8, u9, u10, u11, u12]
set_option maxRecDepth 100000 in
set_option maxHeartbeats 4000000 in
theorem xframe_5 (rb : Nat) (s : ByteArray) (st : Option Nat) (hs : s.size ≤ 4611686018427387903) (w : World) (R : Fr × Option Nat) (hR : runR s.data.toList [.int mV .st, .int mC .cd] (⟨5, 0, 0, [], false, 0, 0, false, 0, [], 0, 0, []⟩ : Fr) st = R) (hX : RdX w rb s st) :
    Calls Try.prog 65 #[.pointer (some ⟨rb, 0, none⟩), .int .i64 5] w (FrmQ s rb R w) := by
  obtain ⟨x1, ex1⟩ : ∃ x, (vR s.data.toList st).1 = x := ⟨_, rfl⟩
  obtain ⟨s1, es1⟩ : ∃ x, (vR s.data.toList st).2 = x := ⟨_, rfl⟩
  have c1 := fun ww hh => xv_c rb s st hs ww hh
  simp only [ex1, es1] at c1
  obtain ⟨x2, ex2⟩ : ∃ x, (vR s.data.toList s1).1 = x := ⟨_, rfl⟩
  obtain ⟨s2, es2⟩ : ∃ x, (vR s.data.toList s1).2 = x := ⟨_, rfl⟩
  have c2 := fun ww hh => xv_c rb s s1 hs ww hh
  simp only [ex2, es2] at c2
  have HR : Hid (R = ((⟨5, x1, 0, [], false, 0, x2, false, 0, [], 0, 0, []⟩ : Fr), s2)) := Lib.hid (by rw [← hR]; show runR s.data.toList [.int mV .st, .int mC .cd] (⟨5, 0, 0, [], false, 0, 0, false, 0, [], 0, 0, []⟩ : Fr) st = _; simp only [runR, stepR, Fr.set, ex1, es1, ex2, es2])
  clear ex1 es1 ex2 es2
  clear hR
  have hS0 := FrmS.start (w := w) (⟨5, 0, 0, [], false, 0, 0, false, 0, [], 0, 0, []⟩ : Fr) hX
  clear hX
  go_enter Try.func65, Try.ntmps65
  go_wp2_with fail
  refine (c1 _ hS0.rd).mono ?_
  rintro e w3 ⟨rfl, hX, ho⟩
  have H := Lib.hid (hS0.call ho hX)
  clear hX ho hS0
  have oc : w3.cell? ⟨w.heap.size + 1, 1, none⟩ = some (.int .i64 0) := H.out.fr.cell 1 rfl
  have fz := H.out.free 1
  have H2 := H.out.store 1 (.int .i64 x1) (F' := (⟨5, x1, 0, [], false, 0, 0, false, 0, [], 0, 0, []⟩ : Fr)) (rv' := .slice none 0 0) rfl
  go_wp2_with fail
  generalize w3.setCell ⟨w.heap.size + 1, 1, none⟩ (.int .i64 x1) = w4 at H2 ⊢
  replace H := Lib.hid H2
  clear H2 fz oc
  refine (c2 _ H.out.rd).mono ?_
  rintro e w5 ⟨rfl, hX, ho⟩
  have H := Lib.hid (H.out.call ho hX)
  clear hX ho
  have oc : w5.cell? ⟨w.heap.size + 1, 6, none⟩ = some (.int .i64 0) := H.out.fr.cell 6 rfl
  have fz := H.out.free 6
  have H2 := H.out.store 6 (.int .i64 x2) (F' := (⟨5, x1, 0, [], false, 0, x2, false, 0, [], 0, 0, []⟩ : Fr)) (rv' := .slice none 0 0) rfl
  go_upto_region 51 with fail
  generalize w5.setCell ⟨w.heap.size + 1, 6, none⟩ (.int .i64 x2) = w6 at H2 ⊢
  replace H := Lib.hid H2
  clear H2 fz oc
  obtain ⟨y0, y1, y2, y3, y4, y5, y6, y7, y8, y9, y10, y11, y12⟩ := H.out.fr.c13
  obtain ⟨⟨z0, z1, z2, z3, z4, z5, z6, z7, z8, z9, z10, z11, z12⟩, zf⟩ := H.out.zs
  obtain ⟨wz, hwz⟩ : ∃ x, handed w6 w.heap.size (⟨5, x1, 0, [], false, 0, x2, false, 0, [], 0, 0, []⟩ : Fr) (.slice none 0 0) = x := ⟨_, rfl⟩
  have hh := H.out.hand
  rw [hwz] at hh
  have HH := Lib.hid hh
  simp only [handed] at hwz
  have HW := Lib.hid hwz
  clear hh H hwz
  go_wp2_with fail
  rw [HW.out]
  clear zf HW y0 y1 y2 y3 y4 y5 y6 y7 y8 y9 y10 y11 y12 z0 z1 z2 z3 z4 z5 z6 z7 z8 z9 z10 z11 z12
  obtain ⟨hz, hx, ho⟩ := HH.out
  obtain ⟨u0, u1, u2, u3, u4, u5, u6, u7, u8, u9, u10, u11, u12⟩ := hz.c13
  rw [HR.out]
  have hG9 := RgAt.nil wz
  have hI9 : InI [] := fun p hp => by cases hp
  have hN9 := RgNew.nil w.heap.size
  refine ⟨rfl, .agg (frC (⟨5, x1, 0, [], false, 0, x2, false, 0, [], 0, 0, []⟩ : Fr) (.slice none 0 0)), ?_, .slice none 0 0, rfl, hG9, hI9, hN9, hx, ho⟩
  simp [results, Try.f65, go_sem, frC, u0, u1, u2, u3, u4, u5, u6, u7, u8, u9, u10, u11, u12]
set_option maxRecDepth 100000 in
set_option maxHeartbeats 4000000 in
theorem xframe_6 (rb : Nat) (s : ByteArray) (st : Option Nat) (hs : s.size ≤ 4611686018427387903) (w : World) (R : Fr × Option Nat) (hR : runR s.data.toList [.int mO .off, .text 0 1024] (⟨6, 0, 0, [], false, 0, 0, false, 0, [], 0, 0, []⟩ : Fr) st = R) (hX : RdX w rb s st) :
    Calls Try.prog 65 #[.pointer (some ⟨rb, 0, none⟩), .int .i64 6] w (FrmQ s rb R w) := by
  obtain ⟨x1, ex1⟩ : ∃ x, (vR s.data.toList st).1 = x := ⟨_, rfl⟩
  obtain ⟨s1, es1⟩ : ∃ x, (vR s.data.toList st).2 = x := ⟨_, rfl⟩
  have c1 := fun ww hh => xv_c rb s st hs ww hh
  simp only [ex1, es1] at c1
  have bn2 := vR_pos s.data.toList s1
  obtain ⟨n2, en2⟩ : ∃ x, (vR s.data.toList s1).1 = x := ⟨_, rfl⟩
  obtain ⟨q2, eq2⟩ : ∃ x, (vR s.data.toList s1).2 = x := ⟨_, rfl⟩
  have d2 := fun ww hh => xv_c rb s s1 hs ww hh
  simp only [en2, eq2] at d2
  rw [en2] at bn2
  obtain ⟨x2, ex2⟩ : ∃ x, (tR s.data.toList n2 q2).1 = x := ⟨_, rfl⟩
  obtain ⟨s2, es2⟩ : ∃ x, (tR s.data.toList n2 q2).2 = x := ⟨_, rfl⟩
  have c2 := fun ww hh => xt_c rb s q2 n2 bn2.1 hs ww hh
  simp only [ex2, es2] at c2
  clear bn2
  have HR : Hid (R = ((⟨6, 0, x1, x2, false, 0, 0, false, 0, [], 0, 0, []⟩ : Fr), s2)) := Lib.hid (by rw [← hR]; show runR s.data.toList [.int mO .off, .text 0 1024] (⟨6, 0, 0, [], false, 0, 0, false, 0, [], 0, 0, []⟩ : Fr) st = _; simp only [runR, stepR, Fr.set, ex1, es1, en2, eq2, ex2, es2])
  clear ex1 es1 en2 eq2 ex2 es2
  clear hR
  have hS0 := FrmS.start (w := w) (⟨6, 0, 0, [], false, 0, 0, false, 0, [], 0, 0, []⟩ : Fr) hX
  clear hX
  go_enter Try.func65, Try.ntmps65
  go_wp2_with fail
  refine (c1 _ hS0.rd).mono ?_
  rintro e w3 ⟨rfl, hX, ho⟩
  have H := Lib.hid (hS0.call ho hX)
  clear hX ho hS0
  have oc : w3.cell? ⟨w.heap.size + 1, 2, none⟩ = some (.int .i64 0) := H.out.fr.cell 2 rfl
  have fz := H.out.free 2
  have H2 := H.out.store 2 (.int .i64 x1) (F' := (⟨6, 0, x1, [], false, 0, 0, false, 0, [], 0, 0, []⟩ : Fr)) (rv' := .slice none 0 0) rfl
  go_wp2_with fail
  generalize w3.setCell ⟨w.heap.size + 1, 2, none⟩ (.int .i64 x1) = w4 at H2 ⊢
  replace H := Lib.hid H2
  clear H2 fz oc
  refine (d2 _ H.out.rd).mono ?_
  rintro e w5 ⟨rfl, hX, ho⟩
  have H := Lib.hid (H.out.call ho hX)
  clear hX ho
  go_wp2_with fail
  refine (c2 _ H.out.rd).mono ?_
  rintro e w6 ⟨rfl, hX, ho⟩
  have H := Lib.hid (H.out.call ho hX)
  clear hX ho
  have oc : w6.cell? ⟨w.heap.size + 1, 3, none⟩ = some (.string (strB [])) := H.out.fr.cell 3 rfl
  have fz := H.out.free 3
  have H2 := H.out.store 3 (.string (strB x2)) (F' := (⟨6, 0, x1, x2, false, 0, 0, false, 0, [], 0, 0, []⟩ : Fr)) (rv' := .slice none 0 0) rfl
  go_upto_region 51 with fail
  generalize w6.setCell ⟨w.heap.size + 1, 3, none⟩ (.string (strB x2)) = w7 at H2 ⊢
  replace H := Lib.hid H2
  clear H2 fz oc
  obtain ⟨y0, y1, y2, y3, y4, y5, y6, y7, y8, y9, y10, y11, y12⟩ := H.out.fr.c13
  obtain ⟨⟨z0, z1, z2, z3, z4, z5, z6, z7, z8, z9, z10, z11, z12⟩, zf⟩ := H.out.zs
  obtain ⟨wz, hwz⟩ : ∃ x, handed w7 w.heap.size (⟨6, 0, x1, x2, false, 0, 0, false, 0, [], 0, 0, []⟩ : Fr) (.slice none 0 0) = x := ⟨_, rfl⟩
  have hh := H.out.hand
  rw [hwz] at hh
  have HH := Lib.hid hh
  simp only [handed] at hwz
  have HW := Lib.hid hwz
  clear hh H hwz
  go_wp2_with fail
  rw [HW.out]
  clear zf HW y0 y1 y2 y3 y4 y5 y6 y7 y8 y9 y10 y11 y12 z0 z1 z2 z3 z4 z5 z6 z7 z8 z9 z10 z11 z12
  obtain ⟨hz, hx, ho⟩ := HH.out
  obtain ⟨u0, u1, u2, u3, u4, u5, u6, u7, u8, u9, u10, u11, u12⟩ := hz.c13
  rw [HR.out]
  have hG9 := RgAt.nil wz
  have hI9 : InI [] := fun p hp => by cases hp
  have hN9 := RgNew.nil w.heap.size
  refine ⟨rfl, .agg (frC (⟨6, 0, x1, x2, false, 0, 0, false, 0, [], 0, 0, []⟩ : Fr) (.slice none 0 0)), ?_, .slice none 0 0, rfl, hG9, hI9, hN9, hx, ho⟩
  simp [results, Try.f65, go_sem, frC, u0, u1, u2, u3, u4, u5, u6, u7, u8, u9, u10, u11, u12]
set_option maxRecDepth 100000 in
set_option maxHeartbeats 4000000 in
theorem xframe_7 (rb : Nat) (s : ByteArray) (st : Option Nat) (hs : s.size ≤ 4611686018427387903) (w : World) (R : Fr × Option Nat) (hR : runR s.data.toList [.text 1 128] (⟨7, 0, 0, [], false, 0, 0, false, 0, [], 0, 0, []⟩ : Fr) st = R) (hX : RdX w rb s st) :
    Calls Try.prog 65 #[.pointer (some ⟨rb, 0, none⟩), .int .i64 7] w (FrmQ s rb R w) := by
  have bn1 := vR_pos s.data.toList st
  obtain ⟨n1, en1⟩ : ∃ x, (vR s.data.toList st).1 = x := ⟨_, rfl⟩
  obtain ⟨q1, eq1⟩ : ∃ x, (vR s.data.toList st).2 = x := ⟨_, rfl⟩
  have d1 := fun ww hh => xv_c rb s st hs ww hh
  simp only [en1, eq1] at d1
  rw [en1] at bn1
  obtain ⟨x1, ex1⟩ : ∃ x, (tR s.data.toList n1 q1).1 = x := ⟨_, rfl⟩
  obtain ⟨s1, es1⟩ : ∃ x, (tR s.data.toList n1 q1).2 = x := ⟨_, rfl⟩
  have c1 := fun ww hh => xt_c rb s q1 n1 bn1.1 hs ww hh
  simp only [ex1, es1] at c1
  clear bn1
  have HR : Hid (R = ((⟨7, 0, 0, x1, false, 0, 0, false, 0, [], 0, 0, []⟩ : Fr), s1)) := Lib.hid (by rw [← hR]; show runR s.data.toList [.text 1 128] (⟨7, 0, 0, [], false, 0, 0, false, 0, [], 0, 0, []⟩ : Fr) st = _; simp only [runR, stepR, Fr.set, en1, eq1, ex1, es1])
  clear en1 eq1 ex1 es1
  clear hR
  have hS0 := FrmS.start (w := w) (⟨7, 0, 0, [], false, 0, 0, false, 0, [], 0, 0, []⟩ : Fr) hX
  clear hX
  go_enter Try.func65, Try.ntmps65
  go_wp2_with fail
  refine (d1 _ hS0.rd).mono ?_
  rintro e w3 ⟨rfl, hX, ho⟩
  have H := Lib.hid (hS0.call ho hX)
  clear hX ho hS0
  go_wp2_with fail
  refine (c1 _ H.out.rd).mono ?_
  rintro e w4 ⟨rfl, hX, ho⟩
  have H := Lib.hid (H.out.call ho hX)
  clear hX ho
  have oc : w4.cell? ⟨w.heap.size + 1, 3, none⟩ = some (.string (strB [])) := H.out.fr.cell 3 rfl
  have fz := H.out.free 3
  have H2 := H.out.store 3 (.string (strB x1)) (F' := (⟨7, 0, 0, x1, false, 0, 0, false, 0, [], 0, 0, []⟩ : Fr)) (rv' := .slice none 0 0) rfl
  go_upto_region 51 with fail
  generalize w4.setCell ⟨w.heap.size + 1, 3, none⟩ (.string (strB x1)) = w5 at H2 ⊢
  replace H := Lib.hid H2
  clear H2 fz oc
  obtain ⟨y0, y1, y2, y3, y4, y5, y6, y7, y8, y9, y10, y11, y12⟩ := H.out.fr.c13
  obtain ⟨⟨z0, z1, z2, z3, z4, z5, z6, z7, z8, z9, z10, z11, z12⟩, zf⟩ := H.out.zs
  obtain ⟨wz, hwz⟩ : ∃ x, handed w5 w.heap.size (⟨7, 0, 0, x1, false, 0, 0, false, 0, [], 0, 0, []⟩ : Fr) (.slice none 0 0) = x := ⟨_, rfl⟩
  have hh := H.out.hand
  rw [hwz] at hh
  have HH := Lib.hid hh
  simp only [handed] at hwz
  have HW := Lib.hid hwz
  clear hh H hwz
  go_wp2_with fail
  rw [HW.out]
  clear zf HW y0 y1 y2 y3 y4 y5 y6 y7 y8 y9 y10 y11 y12 z0 z1 z2 z3 z4 z5 z6 z7 z8 z9 z10 z11 z12
  obtain ⟨hz, hx, ho⟩ := HH.out
  obtain ⟨u0, u1, u2, u3, u4, u5, u6, u7, u8, u9, u10, u11, u12⟩ := hz.c13
  rw [HR.out]
  have hG9 := RgAt.nil wz
  have hI9 : InI [] := fun p hp => by cases hp
  have hN9 := RgNew.nil w.heap.size
  refine ⟨rfl, .agg (frC (⟨7, 0, 0, x1, false, 0, 0, false, 0, [], 0, 0, []⟩ : Fr) (.slice none 0 0)), ?_, .slice none 0 0, rfl, hG9, hI9, hN9, hx, ho⟩
  simp [results, Try.f65, go_sem, frC, u0, u1, u2, u3, u4, u5, u6, u7, u8, u9, u10, u11, u12]
set_option maxRecDepth 100000 in
set_option maxHeartbeats 4000000 in
theorem xframe_8 (rb : Nat) (s : ByteArray) (st : Option Nat) (hs : s.size ≤ 4611686018427387903) (w : World) (R : Fr × Option Nat) (hR : runR s.data.toList [.int mV .st, .int mO .off, .text 0 1024] (⟨8, 0, 0, [], false, 0, 0, false, 0, [], 0, 0, []⟩ : Fr) st = R) (hX : RdX w rb s st) :
    Calls Try.prog 65 #[.pointer (some ⟨rb, 0, none⟩), .int .i64 8] w (FrmQ s rb R w) := by
  obtain ⟨x1, ex1⟩ : ∃ x, (vR s.data.toList st).1 = x := ⟨_, rfl⟩
  obtain ⟨s1, es1⟩ : ∃ x, (vR s.data.toList st).2 = x := ⟨_, rfl⟩
  have c1 := fun ww hh => xv_c rb s st hs ww hh
  simp only [ex1, es1] at c1
  obtain ⟨x2, ex2⟩ : ∃ x, (vR s.data.toList s1).1 = x := ⟨_, rfl⟩
  obtain ⟨s2, es2⟩ : ∃ x, (vR s.data.toList s1).2 = x := ⟨_, rfl⟩
  have c2 := fun ww hh => xv_c rb s s1 hs ww hh
  simp only [ex2, es2] at c2
  have bn3 := vR_pos s.data.toList s2
  obtain ⟨n3, en3⟩ : ∃ x, (vR s.data.toList s2).1 = x := ⟨_, rfl⟩
  obtain ⟨q3, eq3⟩ : ∃ x, (vR s.data.toList s2).2 = x := ⟨_, rfl⟩
  have d3 := fun ww hh => xv_c rb s s2 hs ww hh
  simp only [en3, eq3] at d3
  rw [en3] at bn3
  obtain ⟨x3, ex3⟩ : ∃ x, (tR s.data.toList n3 q3).1 = x := ⟨_, rfl⟩
  obtain ⟨s3, es3⟩ : ∃ x, (tR s.data.toList n3 q3).2 = x := ⟨_, rfl⟩
  have c3 := fun ww hh => xt_c rb s q3 n3 bn3.1 hs ww hh
  simp only [ex3, es3] at c3
  clear bn3
  have HR : Hid (R = ((⟨8, x1, x2, x3, false, 0, 0, false, 0, [], 0, 0, []⟩ : Fr), s3)) := Lib.hid (by rw [← hR]; show runR s.data.toList [.int mV .st, .int mO .off, .text 0 1024] (⟨8, 0, 0, [], false, 0, 0, false, 0, [], 0, 0, []⟩ : Fr) st = _; simp only [runR, stepR, Fr.set, ex1, es1, ex2, es2, en3, eq3, ex3, es3])
  clear ex1 es1 ex2 es2 en3 eq3 ex3 es3
  clear hR
  have hS0 := FrmS.start (w := w) (⟨8, 0, 0, [], false, 0, 0, false, 0, [], 0, 0, []⟩ : Fr) hX
  clear hX
  go_enter Try.func65, Try.ntmps65
  go_wp2_with fail
  refine (c1 _ hS0.rd).mono ?_
  rintro e w3 ⟨rfl, hX, ho⟩
  have H := Lib.hid (hS0.call ho hX)
  clear hX ho hS0
  have oc : w3.cell? ⟨w.heap.size + 1, 1, none⟩ = some (.int .i64 0) := H.out.fr.cell 1 rfl
  have fz := H.out.free 1
  have H2 := H.out.store 1 (.int .i64 x1) (F' := (⟨8, x1, 0, [], false, 0, 0, false, 0, [], 0, 0, []⟩ : Fr)) (rv' := .slice none 0 0) rfl
  go_wp2_with fail
  generalize w3.setCell ⟨w.heap.size + 1, 1, none⟩ (.int .i64 x1) = w4 at H2 ⊢
  replace H := Lib.hid H2
  clear H2 fz oc
  refine (c2 _ H.out.rd).mono ?_
  rintro e w5 ⟨rfl, hX, ho⟩
  have H := Lib.hid (H.out.call ho hX)
  clear hX ho
  have oc : w5.cell? ⟨w.heap.size + 1, 2, none⟩ = some (.int .i64 0) := H.out.fr.cell 2 rfl
  have fz := H.out.free 2
  have H2 := H.out.store 2 (.int .i64 x2) (F' := (⟨8, x1, x2, [], false, 0, 0, false, 0, [], 0, 0, []⟩ : Fr)) (rv' := .slice none 0 0) rfl
  go_wp2_with fail
  generalize w5.setCell ⟨w.heap.size + 1, 2, none⟩ (.int .i64 x2) = w6 at H2 ⊢
  replace H := Lib.hid H2
  clear H2 fz oc
  refine (d3 _ H.out.rd).mono ?_
  rintro e w7 ⟨rfl, hX, ho⟩
  have H := Lib.hid (H.out.call ho hX)
  clear hX ho
  go_wp2_with fail
  refine (c3 _ H.out.rd).mono ?_
  rintro e w8 ⟨rfl, hX, ho⟩
  have H := Lib.hid (H.out.call ho hX)
  clear hX ho
  have oc : w8.cell? ⟨w.heap.size + 1, 3, none⟩ = some (.string (strB [])) := H.out.fr.cell 3 rfl
  have fz := H.out.free 3
  have H2 := H.out.store 3 (.string (strB x3)) (F' := (⟨8, x1, x2, x3, false, 0, 0, false, 0, [], 0, 0, []⟩ : Fr)) (rv' := .slice none 0 0) rfl
  go_upto_region 51 with fail
  generalize w8.setCell ⟨w.heap.size + 1, 3, none⟩ (.string (strB x3)) = w9 at H2 ⊢
  replace H := Lib.hid H2
  clear H2 fz oc
  obtain ⟨y0, y1, y2, y3, y4, y5, y6, y7, y8, y9, y10, y11, y12⟩ := H.out.fr.c13
  obtain ⟨⟨z0, z1, z2, z3, z4, z5, z6, z7, z8, z9, z10, z11, z12⟩, zf⟩ := H.out.zs
  obtain ⟨wz, hwz⟩ : ∃ x, handed w9 w.heap.size (⟨8, x1, x2, x3, false, 0, 0, false, 0, [], 0, 0, []⟩ : Fr) (.slice none 0 0) = x := ⟨_, rfl⟩
  have hh := H.out.hand
  rw [hwz] at hh
  have HH := Lib.hid hh
  simp only [handed] at hwz
  have HW := Lib.hid hwz
  clear hh H hwz
  go_wp2_with fail
  rw [HW.out]
  clear zf HW y0 y1 y2 y3 y4 y5 y6 y7 y8 y9 y10 y11 y12 z0 z1 z2 z3 z4 z5 z6 z7 z8 z9 z10 z11 z12
  obtain ⟨hz, hx, ho⟩ := HH.out
  obtain ⟨u0, u1, u2, u3, u4, u5, u6, u7, u8, u9, u10, u11, u12⟩ := hz.c13
  rw [HR.out]
  have hG9 := RgAt.nil wz
  have hI9 : InI [] := fun p hp => by cases hp
  have hN9 := RgNew.nil w.heap.size
  refine ⟨rfl, .agg (frC (⟨8, x1, x2, x3, false, 0, 0, false, 0, [], 0, 0, []⟩ : Fr) (.slice none 0 0)), ?_, .slice none 0 0, rfl, hG9, hI9, hN9, hx, ho⟩
  simp [results, Try.f65, go_sem, frC, u0, u1, u2, u3, u4, u5, u6, u7, u8, u9, u10, u11, u12]
set_option maxRecDepth 100000 in
set_option maxHeartbeats 4000000 in
theorem xframe_9 (rb : Nat) (s : ByteArray) (st : Option Nat) (hs : s.size ≤ 4611686018427387903) (w : World) (R : Fr × Option Nat) (hR : runR s.data.toList [.int mV .st, .int mO .off, .text 0 1024] (⟨8, 0, 0, [], true, 0, 0, false, 0, [], 0, 0, []⟩ : Fr) st = R) (hX : RdX w rb s st) :
    Calls Try.prog 65 #[.pointer (some ⟨rb, 0, none⟩), .int .i64 9] w (FrmQ s rb R w) := by
  obtain ⟨x1, ex1⟩ : ∃ x, (vR s.data.toList st).1 = x := ⟨_, rfl⟩
  obtain ⟨s1, es1⟩ : ∃ x, (vR s.data.toList st).2 = x := ⟨_, rfl⟩
  have c1 := fun ww hh => xv_c rb s st hs ww hh
  simp only [ex1, es1] at c1
  obtain ⟨x2, ex2⟩ : ∃ x, (vR s.data.toList s1).1 = x := ⟨_, rfl⟩
  obtain ⟨s2, es2⟩ : ∃ x, (vR s.data.toList s1).2 = x := ⟨_, rfl⟩
  have c2 := fun ww hh => xv_c rb s s1 hs ww hh
  simp only [ex2, es2] at c2
  have bn3 := vR_pos s.data.toList s2
  obtain ⟨n3, en3⟩ : ∃ x, (vR s.data.toList s2).1 = x := ⟨_, rfl⟩
  obtain ⟨q3, eq3⟩ : ∃ x, (vR s.data.toList s2).2 = x := ⟨_, rfl⟩
  have d3 := fun ww hh => xv_c rb s s2 hs ww hh
  simp only [en3, eq3] at d3
  rw [en3] at bn3
  obtain ⟨x3, ex3⟩ : ∃ x, (tR s.data.toList n3 q3).1 = x := ⟨_, rfl⟩
  obtain ⟨s3, es3⟩ : ∃ x, (tR s.data.toList n3 q3).2 = x := ⟨_, rfl⟩
  have c3 := fun ww hh => xt_c rb s q3 n3 bn3.1 hs ww hh
  simp only [ex3, es3] at c3
  clear bn3
  have HR : Hid (R = ((⟨8, x1, x2, x3, true, 0, 0, false, 0, [], 0, 0, []⟩ : Fr), s3)) := Lib.hid (by rw [← hR]; show runR s.data.toList [.int mV .st, .int mO .off, .text 0 1024] (⟨8, 0, 0, [], true, 0, 0, false, 0, [], 0, 0, []⟩ : Fr) st = _; simp only [runR, stepR, Fr.set, ex1, es1, ex2, es2, en3, eq3, ex3, es3])
  clear ex1 es1 ex2 es2 en3 eq3 ex3 es3
  clear hR
  have hS0 := FrmS.start (w := w) (⟨8, 0, 0, [], true, 0, 0, false, 0, [], 0, 0, []⟩ : Fr) hX
  clear hX
  go_enter Try.func65, Try.ntmps65
  go_wp2_with fail
  refine (c1 _ hS0.rd).mono ?_
  rintro e w3 ⟨rfl, hX, ho⟩
  have H := Lib.hid (hS0.call ho hX)
  clear hX ho hS0
  have oc : w3.cell? ⟨w.heap.size + 1, 1, none⟩ = some (.int .i64 0) := H.out.fr.cell 1 rfl
  have fz := H.out.free 1
  have H2 := H.out.store 1 (.int .i64 x1) (F' := (⟨8, x1, 0, [], true, 0, 0, false, 0, [], 0, 0, []⟩ : Fr)) (rv' := .slice none 0 0) rfl
  go_wp2_with fail
  generalize w3.setCell ⟨w.heap.size + 1, 1, none⟩ (.int .i64 x1) = w4 at H2 ⊢
  replace H := Lib.hid H2
  clear H2 fz oc
  refine (c2 _ H.out.rd).mono ?_
  rintro e w5 ⟨rfl, hX, ho⟩
  have H := Lib.hid (H.out.call ho hX)
  clear hX ho
  have oc : w5.cell? ⟨w.heap.size + 1, 2, none⟩ = some (.int .i64 0) := H.out.fr.cell 2 rfl
  have fz := H.out.free 2
  have H2 := H.out.store 2 (.int .i64 x2) (F' := (⟨8, x1, x2, [], true, 0, 0, false, 0, [], 0, 0, []⟩ : Fr)) (rv' := .slice none 0 0) rfl
  go_wp2_with fail
  generalize w5.setCell ⟨w.heap.size + 1, 2, none⟩ (.int .i64 x2) = w6 at H2 ⊢
  replace H := Lib.hid H2
  clear H2 fz oc
  refine (d3 _ H.out.rd).mono ?_
  rintro e w7 ⟨rfl, hX, ho⟩
  have H := Lib.hid (H.out.call ho hX)
  clear hX ho
  go_wp2_with fail
  refine (c3 _ H.out.rd).mono ?_
  rintro e w8 ⟨rfl, hX, ho⟩
  have H := Lib.hid (H.out.call ho hX)
  clear hX ho
  have oc : w8.cell? ⟨w.heap.size + 1, 3, none⟩ = some (.string (strB [])) := H.out.fr.cell 3 rfl
  have fz := H.out.free 3
  have H2 := H.out.store 3 (.string (strB x3)) (F' := (⟨8, x1, x2, x3, true, 0, 0, false, 0, [], 0, 0, []⟩ : Fr)) (rv' := .slice none 0 0) rfl
  go_upto_region 51 with fail
  generalize w8.setCell ⟨w.heap.size + 1, 3, none⟩ (.string (strB x3)) = w9 at H2 ⊢
  replace H := Lib.hid H2
  clear H2 fz oc
  obtain ⟨y0, y1, y2, y3, y4, y5, y6, y7, y8, y9, y10, y11, y12⟩ := H.out.fr.c13
  obtain ⟨⟨z0, z1, z2, z3, z4, z5, z6, z7, z8, z9, z10, z11, z12⟩, zf⟩ := H.out.zs
  obtain ⟨wz, hwz⟩ : ∃ x, handed w9 w.heap.size (⟨8, x1, x2, x3, true, 0, 0, false, 0, [], 0, 0, []⟩ : Fr) (.slice none 0 0) = x := ⟨_, rfl⟩
  have hh := H.out.hand
  rw [hwz] at hh
  have HH := Lib.hid hh
  simp only [handed] at hwz
  have HW := Lib.hid hwz
  clear hh H hwz
  go_wp2_with fail
  rw [HW.out]
  clear zf HW y0 y1 y2 y3 y4 y5 y6 y7 y8 y9 y10 y11 y12 z0 z1 z2 z3 z4 z5 z6 z7 z8 z9 z10 z11 z12
  obtain ⟨hz, hx, ho⟩ := HH.out
  obtain ⟨u0, u1, u2, u3, u4, u5, u6, u7, u8, u9, u10, u11, u12⟩ := hz.c13
  rw [HR.out]
  have hG9 := RgAt.nil wz
  have hI9 : InI [] := fun p hp => by cases hp
  have hN9 := RgNew.nil w.heap.size
  refine ⟨rfl, .agg (frC (⟨8, x1, x2, x3, true, 0, 0, false, 0, [], 0, 0, []⟩ : Fr) (.slice none 0 0)), ?_, .slice none 0 0, rfl, hG9, hI9, hN9, hx, ho⟩
  simp [results, Try.f65, go_sem, frC, u0, u1, u2, u3, u4, u5, u6, u7, u8, u9, u10, u11, u12]
end Go.Proofs.Ytmmgmpghkpbgkaa
