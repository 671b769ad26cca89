/- Contracts of the reference: Decode. -/
import Derived.Test.YtmmgmpghkpbgkaaRdH
import Derived.Test.YtmmgmpghkpbgkaaRdF
import Derived.Test.YtmmgmpghkpbgkaaFrZf
import Derived.Deep.CutRange
import Derived.Deep.RegionHeld3
import Derived.Test.YtmmgmpghkpbgkaaRdA
import Derived.Test.YtmmgmpghkpbgkaaFtB
import Derived.Deep.LoopGhost
import Derived.Lib.AppendZeros
namespace Go.Proofs.Ytmmgmpghkpbgkaa
open Go Go.RowKit
set_option linter.unusedVariables false
set_option linter.unusedSimpArgs false

theorem tR_len (s : List UInt8) (n : Int) (st : Option Nat) : (tR s n st).1.length ≤ s.length := by
  cases st with
  | none => exact Nat.zero_le _
  | some a =>
    simp only [tR]
    split
    · exact Nat.zero_le _
    · simp only [List.length_take, List.length_drop]; omega
theorem stepR_wf {s : List UInt8} {p : Pt} {f : Fr} {st : Option Nat} (hs : s.length ≤ 4611686018427387903) (h : FrWf f) : FrWf (stepR s p f st).1 := by
  obtain ⟨h1, h2, h3, h4, h5, h6, h7, h8, h9⟩ := h
  have hv := vR_pos s st
  have hb : -9223372036854775808 ≤ (vR s st).1 ∧ (vR s st).1 ≤ 9223372036854775807 := by omega
  have ht := fun n st => Nat.le_trans (tR_len s n st) hs
  cases p with
  | int m x => cases x <;> constructor <;> assumption
  | text a b => constructor <;> first | assumption | exact ht _ _
  | chal => constructor <;> first | assumption | exact ht _ _
  | cidp => constructor <;> first | assumption | exact ht _ _
  | uni => constructor <;> assumption
  | retire => constructor <;> assumption
  | ranges => constructor <;> assumption
theorem runR_wf {s : List UInt8} (hs : s.length ≤ 4611686018427387903) (l : List Pt) : ∀ (f : Fr) (st : Option Nat), FrWf f → FrWf (runR s l f st).1 := by
  induction l with
  | nil => intro f st h; exact h
  | cons p r ih => intro f st h; exact ih _ _ (stepR_wf hs h)
theorem stepR_17 {s : List UInt8} {p : Pt} {f : Fr} {st : Option Nat} (h : f.rg.length ≤ 17) : (stepR s p f st).1.rg.length ≤ 17 := by
  cases p with
  | int m x => cases x <;> exact h
  | ranges =>
    show (raR s st).1.length ≤ 17
    unfold raR
    refine Nat.le_trans (rR_short s _ _ _) ?_
    simp only [List.length_nil]; omega
  | _ => exact h
theorem runR_17 {s : List UInt8} (l : List Pt) : ∀ (f : Fr) (st : Option Nat), f.rg.length ≤ 17 → (runR s l f st).1.rg.length ≤ 17 := by
  induction l with
  | nil => intro f st h; exact h
  | cons p r ih => intro f st h; exact ih _ _ (stepR_17 h)
theorem headF_ty (x : UInt8) : 0 ≤ (headF x).ty ∧ (headF x).ty ≤ 255 := by
  have := x.toNat_lt
  unfold headF
  split
  · exact ⟨by show (0 : Int) ≤ 8; omega, by show (8 : Int) ≤ 255; omega⟩
  · exact ⟨by show (0 : Int) ≤ (x.toNat : Nat); omega, by show ((x.toNat : Nat) : Int) ≤ 255; omega⟩
set_option maxRecDepth 100000 in
set_option maxHeartbeats 4000000 in
theorem rdec_bad (s : ByteArray) (at_ : Int) (h : at_ < 0 ∨ (s.size : Int) < at_) (w : World) :
    Calls Try.prog 29 #[.string s, .int .i64 at_] w fun e w' => e = .returned (.tuple #[zeroFrV, .int .i64 0, .int .i64 2]) ∧ Only [] w w' := by
  by_cases h0 : at_ < 0
  · clear h
    go_enter Try.func29, Try.ntmps29
    go_wp2_with fail
    refine ⟨rfl, .tuple #[.agg #[.int .i64 0, .int .i64 0, .int .i64 0, .string ⟨#[]⟩, .bool false, .int .i64 0, .int .i64 0, .bool false, .int .i64 0, .slice none 0 0, .int .i64 0, .int .i64 0, .string ⟨#[]⟩], .int .i64 0, .int .i64 2], ?_, rfl, (Only.refl [] w).alloc _⟩
    simp [results, Try.f29, go_sem]
  · have h1 : (s.size : Int) < at_ := h.resolve_left h0
    clear h
    go_enter Try.func29, Try.ntmps29
    go_wp2_with fail
    refine ⟨rfl, .tuple #[.agg #[.int .i64 0, .int .i64 0, .int .i64 0, .string ⟨#[]⟩, .bool false, .int .i64 0, .int .i64 0, .bool false, .int .i64 0, .slice none 0 0, .int .i64 0, .int .i64 0, .string ⟨#[]⟩], .int .i64 0, .int .i64 2], ?_, rfl, (Only.refl [] w).alloc _⟩
    simp [results, Try.f29, go_sem]
set_option maxRecDepth 100000 in
set_option maxHeartbeats 4000000 in
theorem rdec_end (s : ByteArray) (w : World) :
    Calls Try.prog 29 #[.string s, .int .i64 s.size] w fun e w' => e = .returned (.tuple #[zeroFrV, .int .i64 0, .int .i64 90]) ∧ Only [] w w' := by
  have h0 : ¬ (s.size : Int) < 0 := by omega
  have h1 : ¬ (s.size : Int) < s.size := by omega
  go_enter Try.func29, Try.ntmps29
  go_wp2_with fail
  refine ⟨rfl, .tuple #[.agg #[.int .i64 0, .int .i64 0, .int .i64 0, .string ⟨#[]⟩, .bool false, .int .i64 0, .int .i64 0, .bool false, .int .i64 0, .slice none 0 0, .int .i64 0, .int .i64 0, .string ⟨#[]⟩], .int .i64 0, .int .i64 90], ?_, rfl, (Only.refl [] w).alloc _⟩
  simp [results, Try.f29, go_sem]
set_option maxRecDepth 100000 in
set_option maxHeartbeats 4000000 in
theorem rdec_x (s : ByteArray) (a : Nat) (h : a < s.size) (hs : s.size ≤ 4611686018427387903) (x : UInt8) (hx : s[a] = x) (w : World) :
    Calls Try.prog 29 #[.string s, .int .i64 a] w (DecQ (decF (s.data.toList.drop a)) s w) := by
  have h0 : ¬ (a : Int) < 0 := by omega
  have h1 : ¬ (s.size : Int) < a := by omega
  have h1' : (a : Int) < s.size := by omega
  have h2 : ¬ (a : Int) = s.size := by omega
  have h2' : ((a : Int) == s.size) = false := beq_eq_false_iff_ne.2 h2
  have f2 : IntKind.i64.wrap ((a : Int) + 1) = (a : Int) + 1 := IntWalk.i64_in _ (by omega)
  have hx4 := x.toNat_lt
  have f3 : IntKind.i64.wrap (x.toNat : Int) = (x.toNat : Int) := IntWalk.i64_in _ (by omega)
  have hdrop : s.data.toList.drop a = x :: s.data.toList.drop (a + 1) := by
    rw [List.drop_eq_getElem_cons (by rw [size_list]; omega), ← get_list s a h, hx]
  obtain ⟨R, hR⟩ : ∃ R, runR s.data.toList ((tab (headF x).ty).getD []) (headF x) (some (a + 1)) = R := ⟨_, rfl⟩
  have hdr := dec_read s.data.toList a x (by rw [size_list]; exact h) hdrop R hR
  have hfr := fun rb ww hh => xframe_c rb s x (some (a + 1)) hs ww R hR hh
  have hwf : FrWf R.1 := by rw [← hR]; exact runR_wf (by rw [size_list]; exact hs) _ _ _ (head_wf x).1
  have hr17 : R.1.rg.length ≤ 17 := by rw [← hR]; exact runR_17 _ _ _ (by rw [headF_rg]; simp)
  have hty : -9223372036854775808 ≤ R.1.ty ∧ R.1.ty ≤ 9223372036854775807 := by
    have := headF_ty x
    rw [← hR, runR_ty]; omega
  clear hR hdrop
  obtain ⟨f, stR⟩ := R
  simp only at hdr hwf hr17 hty
  obtain ⟨Q, hQ⟩ : ∃ Q, decF (s.data.toList.drop a) = Q := ⟨_, rfl⟩
  rw [hQ] at hdr ⊢
  have HD := Lib.hid hdr
  have HW := Lib.hid (And.intro hwf (And.intro hr17 hty))
  clear hQ hdr hwf hr17 hty
  go_enter Try.func29, Try.ntmps29
  go_upto_region 6 with fail
  have hZ1 := At.new w 33 #[.int .i64 0, .int .i64 0, .int .i64 0, .string ⟨#[]⟩, .bool false, .int .i64 0, .int .i64 0, .bool false, .int .i64 0, .slice none 0 0, .int .i64 0, .int .i64 0, .string ⟨#[]⟩]
  have hsz1 : (w.alloc (.cells #[.int .i64 0, .int .i64 0, .int .i64 0, .string ⟨#[]⟩, .bool false, .int .i64 0, .int .i64 0, .bool false, .int .i64 0, .slice none 0 0, .int .i64 0, .int .i64 0, .string ⟨#[]⟩] 33)).heap.size = w.heap.size + 1 := by simp
  have hZ2 := hZ1.alloc (.cells #[.string s, .int .i64 ((a : Int) + 1), .bool false] 110)
  have hX2 := At.new (w.alloc (.cells #[.int .i64 0, .int .i64 0, .int .i64 0, .string ⟨#[]⟩, .bool false, .int .i64 0, .int .i64 0, .bool false, .int .i64 0, .slice none 0 0, .int .i64 0, .int .i64 0, .string ⟨#[]⟩] 33)) 110 #[.string s, .int .i64 ((a : Int) + 1), .bool false]
  have hO2 := ((Only.refl [] w).alloc (.cells #[.int .i64 0, .int .i64 0, .int .i64 0, .string ⟨#[]⟩, .bool false, .int .i64 0, .int .i64 0, .bool false, .int .i64 0, .slice none 0 0, .int .i64 0, .int .i64 0, .string ⟨#[]⟩] 33)).alloc (.cells #[.string s, .int .i64 ((a : Int) + 1), .bool false] 110)
  rw [hsz1] at hX2
  generalize (w.alloc (.cells #[.int .i64 0, .int .i64 0, .int .i64 0, .string ⟨#[]⟩, .bool false, .int .i64 0, .int .i64 0, .bool false, .int .i64 0, .slice none 0 0, .int .i64 0, .int .i64 0, .string ⟨#[]⟩] 33)).alloc (.cells #[.string s, .int .i64 ((a : Int) + 1), .bool false] 110) = w2 at hZ2 hX2 hO2 ⊢
  clear hZ1 hsz1
  obtain ⟨rf, hrf⟩ : ∃ rf, w.heap.size = rf := ⟨_, rfl⟩
  rw [hrf] at hZ2 hX2 ⊢
  obtain ⟨rb, hrb⟩ : ∃ rb, rf + 1 = rb := ⟨_, rfl⟩
  rw [hrb] at hX2 ⊢
  have HN : Hid (w.heap.size ≤ rf ∧ rf < rb ∧ w.heap.size ≤ rb) := Lib.hid ⟨by omega, by omega, by omega⟩
  have hX : RdX w2 rb s (some (a + 1)) := ⟨a + 1, by omega, hX2.same (by simp), fun c h => by cases h; rfl⟩
  have HZ := Lib.hid hZ2
  have HO := Lib.hid hO2
  have hcall := hfr rb w2 hX
  clear hZ2 hX2 hO2 hX hfr hrf hrb
  go_wp2_with fail
  refine hcall.mono ?_
  rintro e w3 ⟨rv, rfl, hG, hI, hNw, hX3, ho3⟩
  obtain ⟨ga, gc, rfl, hgx⟩ := hG
  have HG : Hid (RgAt w3 (.slice ga f.rg.length gc) f.rg) := Lib.hid ⟨ga, gc, rfl, hgx⟩
  have HNw := Lib.hid (hNw.low (B := w.heap.size) HO.out.size)
  have HNl : Hid (∀ g n c, (Value.slice ga f.rg.length gc) = .slice (some g) n c → g.block ≠ rf) := Lib.hid (fun g n c e h => by
    have h1 := hNw g n c e
    have h2 := HZ.out.lt
    omega)
  replace HZ := Lib.hid (HZ.out.keep ho3 (by have := HN.out; simp; omega))
  replace HO : Hid (Only [] w w3) := Lib.hid ⟨ho3.os.trans HO.out.os, ho3.tape.trans HO.out.tape, ho3.output.trans HO.out.output, Nat.le_trans HO.out.size ho3.size, fun i hi hn => (ho3.block i (Nat.lt_of_lt_of_le hi HO.out.size) (by have := HN.out; simp; omega)).trans (HO.out.block i hi hn)⟩
  have HX := Lib.hid hX3
  clear hgx hI hNw ho3 hX3 hcall
  simp only [frC]
  go_upto_region 7 with fail
  have hB4 := At.new w3 33 #[.int .i64 f.ty, .int .i64 f.st, .int .i64 f.off, .string (strB f.S), .bool f.fin, .int .i64 f.mx, .int .i64 f.cd, .bool f.uni, .int .i64 f.dl, .slice ga f.rg.length gc, .int .i64 f.sq, .int .i64 f.rt, .string (strB f.cid)]
  have HO4 := Lib.hid ((Only.refl [] w3).alloc (.cells #[.int .i64 f.ty, .int .i64 f.st, .int .i64 f.off, .string (strB f.S), .bool f.fin, .int .i64 f.mx, .int .i64 f.cd, .bool f.uni, .int .i64 f.dl, .slice ga f.rg.length gc, .int .i64 f.sq, .int .i64 f.rt, .string (strB f.cid)] 33))
  have HO4w := Lib.hid (HO.out.alloc (.cells #[.int .i64 f.ty, .int .i64 f.st, .int .i64 f.off, .string (strB f.S), .bool f.fin, .int .i64 f.mx, .int .i64 f.cd, .bool f.uni, .int .i64 f.dl, .slice ga f.rg.length gc, .int .i64 f.sq, .int .i64 f.rt, .string (strB f.cid)] 33))
  have HBl : Hid (rf < w3.heap.size ∧ rb < w3.heap.size) := Lib.hid ⟨HZ.out.lt, HX.out.lt⟩
  generalize w3.alloc (.cells #[.int .i64 f.ty, .int .i64 f.st, .int .i64 f.off, .string (strB f.S), .bool f.fin, .int .i64 f.mx, .int .i64 f.cd, .bool f.uni, .int .i64 f.dl, .slice ga f.rg.length gc, .int .i64 f.sq, .int .i64 f.rt, .string (strB f.cid)] 33) = w4 at hB4 HO4 HO4w ⊢
  obtain ⟨b, hb⟩ : ∃ b, w3.heap.size = b := ⟨_, rfl⟩
  rw [hb] at hB4 HBl ⊢
  have HB := Lib.hid hB4
  clear hB4 hb
  have hF4 : FrOk w4 f (.slice ga f.rg.length gc) := ⟨HW.out.1, HW.out.2.2, HG.out.keep HO4.out, by have := HW.out.2.1; omega⟩
  have hvl := rvalid_c f (.slice ga f.rg.length gc) w4 hF4
  have HF4 := Lib.hid hF4
  simp only [frC] at hvl
  clear hF4
  obtain ⟨y0, y1, y2, y3, y4, y5, y6, y7, y8, y9, y10, y11, y12⟩ := (show At w4 b _ _ from HB.out).c13
  go_wp2_with fail
  refine hvl.mono ?_
  rintro e w5 ⟨z, rfl, hz, ho5⟩
  clear y0 y1 y2 y3 y4 y5 y6 y7 y8 y9 y10 y11 y12
  have HV := Lib.hid hz
  replace HZ := Lib.hid ((HZ.out.keep HO4.out (by simp)).keep ho5 (by simp))
  replace HX := Lib.hid ((HX.out.keep HO4.out (by simp)).keep ho5 (by simp))
  replace HB := Lib.hid (HB.out.keep ho5 (by simp))
  replace HO := Lib.hid (HO4w.out.trans ho5)
  have HF5 := Lib.hid (HF4.out.keep ho5)
  clear hz ho5 hvl HO4 HO4w HF4 HG
  obtain ⟨a5, ha5, hA5, hc5⟩ := HX.out
  have c2 : w5.cell? ⟨rb, 2, none⟩ = some (.bool stR.isNone) := hA5.cell 2 rfl
  obtain ⟨z0, z1, z2, z3, z4, z5, z6, z7, z8, z9, z10, z11, z12⟩ := (show At w5 rf _ _ from HZ.out).c13
  have hfz : ∀ i, w5.frozen? ⟨rf, i, none⟩ = false := fun i => HZ.out.free i
  cases stR with
  | none =>
    have HQ : Hid (Q = none) := Lib.hid HD.out
    simp only [Option.isNone_none] at c2
    clear HD HX hA5 hc5
    go_wp2_with fail
    have hA7 : At (((((((((((((w5.setCell ⟨rf, 0, none⟩ (.int .i64 0)).setCell ⟨rf, 1, none⟩ (.int .i64 0)).setCell ⟨rf, 2, none⟩ (.int .i64 0)).setCell ⟨rf, 3, none⟩ (.string ⟨#[]⟩)).setCell ⟨rf, 4, none⟩ (.bool false)).setCell ⟨rf, 5, none⟩ (.int .i64 0)).setCell ⟨rf, 6, none⟩ (.int .i64 0)).setCell ⟨rf, 7, none⟩ (.bool false)).setCell ⟨rf, 8, none⟩ (.int .i64 0)).setCell ⟨rf, 9, none⟩ (.slice none 0 0)).setCell ⟨rf, 10, none⟩ (.int .i64 0)).setCell ⟨rf, 11, none⟩ (.int .i64 0)).setCell ⟨rf, 12, none⟩ (.string ⟨#[]⟩)) rf 33 #[.int .i64 0, .int .i64 0, .int .i64 0, .string ⟨#[]⟩, .bool false, .int .i64 0, .int .i64 0, .bool false, .int .i64 0, .slice none 0 0, .int .i64 0, .int .i64 0, .string ⟨#[]⟩] := ((((((((((((((HZ.out.set 0 (.int .i64 0) rfl).set 1 (.int .i64 0) rfl).set 2 (.int .i64 0) rfl).set 3 (.string ⟨#[]⟩) rfl).set 4 (.bool false) rfl).set 5 (.int .i64 0) rfl).set 6 (.int .i64 0) rfl).set 7 (.bool false) rfl).set 8 (.int .i64 0) rfl).set 9 (.slice none 0 0) rfl).set 10 (.int .i64 0) rfl).set 11 (.int .i64 0) rfl).set 12 (.string ⟨#[]⟩) rfl)).same rfl
    have hO7 : Only [] w (((((((((((((w5.setCell ⟨rf, 0, none⟩ (.int .i64 0)).setCell ⟨rf, 1, none⟩ (.int .i64 0)).setCell ⟨rf, 2, none⟩ (.int .i64 0)).setCell ⟨rf, 3, none⟩ (.string ⟨#[]⟩)).setCell ⟨rf, 4, none⟩ (.bool false)).setCell ⟨rf, 5, none⟩ (.int .i64 0)).setCell ⟨rf, 6, none⟩ (.int .i64 0)).setCell ⟨rf, 7, none⟩ (.bool false)).setCell ⟨rf, 8, none⟩ (.int .i64 0)).setCell ⟨rf, 9, none⟩ (.slice none 0 0)).setCell ⟨rf, 10, none⟩ (.int .i64 0)).setCell ⟨rf, 11, none⟩ (.int .i64 0)).setCell ⟨rf, 12, none⟩ (.string ⟨#[]⟩)) := (((((((((((((HO.out.putn (g := rf) (i := 0) (HN.out.1) (.int .i64 0)).putn (g := rf) (i := 1) (HN.out.1) (.int .i64 0)).putn (g := rf) (i := 2) (HN.out.1) (.int .i64 0)).putn (g := rf) (i := 3) (HN.out.1) (.string ⟨#[]⟩)).putn (g := rf) (i := 4) (HN.out.1) (.bool false)).putn (g := rf) (i := 5) (HN.out.1) (.int .i64 0)).putn (g := rf) (i := 6) (HN.out.1) (.int .i64 0)).putn (g := rf) (i := 7) (HN.out.1) (.bool false)).putn (g := rf) (i := 8) (HN.out.1) (.int .i64 0)).putn (g := rf) (i := 9) (HN.out.1) (.slice none 0 0)).putn (g := rf) (i := 10) (HN.out.1) (.int .i64 0)).putn (g := rf) (i := 11) (HN.out.1) (.int .i64 0)).putn (g := rf) (i := 12) (HN.out.1) (.string ⟨#[]⟩))
    generalize (((((((((((((w5.setCell ⟨rf, 0, none⟩ (.int .i64 0)).setCell ⟨rf, 1, none⟩ (.int .i64 0)).setCell ⟨rf, 2, none⟩ (.int .i64 0)).setCell ⟨rf, 3, none⟩ (.string ⟨#[]⟩)).setCell ⟨rf, 4, none⟩ (.bool false)).setCell ⟨rf, 5, none⟩ (.int .i64 0)).setCell ⟨rf, 6, none⟩ (.int .i64 0)).setCell ⟨rf, 7, none⟩ (.bool false)).setCell ⟨rf, 8, none⟩ (.int .i64 0)).setCell ⟨rf, 9, none⟩ (.slice none 0 0)).setCell ⟨rf, 10, none⟩ (.int .i64 0)).setCell ⟨rf, 11, none⟩ (.int .i64 0)).setCell ⟨rf, 12, none⟩ (.string ⟨#[]⟩)) = w7 at hA7 hO7 ⊢
    obtain ⟨y0, y1, y2, y3, y4, y5, y6, y7, y8, y9, y10, y11, y12⟩ := (show At w7 rf _ _ from hA7).c13
    refine ⟨rfl, .tuple #[.agg #[.int .i64 0, .int .i64 0, .int .i64 0, .string ⟨#[]⟩, .bool false, .int .i64 0, .int .i64 0, .bool false, .int .i64 0, .slice none 0 0, .int .i64 0, .int .i64 0, .string ⟨#[]⟩], .int .i64 0, .int .i64 90], ?_, ?_⟩
    · simp [results, Try.f29, go_sem, y0, y1, y2, y3, y4, y5, y6, y7, y8, y9, y10, y11, y12]
    · rw [HQ.out]; exact ⟨hO7, rfl⟩
  | some a' =>
    simp only [Option.isNone_some] at c2
    cases z with
    | false =>
      have HQ : Hid (Q = none) := Lib.hid (by
        rw [HD.out]
        cases he : encF f with
        | none => rfl
        | some q => exact absurd (HV.out.2 ⟨q, he⟩) (by simp))
      clear HD HX hA5 hc5
      go_wp2_with fail
      have hA7 : At (((((((((((((w5.setCell ⟨rf, 0, none⟩ (.int .i64 0)).setCell ⟨rf, 1, none⟩ (.int .i64 0)).setCell ⟨rf, 2, none⟩ (.int .i64 0)).setCell ⟨rf, 3, none⟩ (.string ⟨#[]⟩)).setCell ⟨rf, 4, none⟩ (.bool false)).setCell ⟨rf, 5, none⟩ (.int .i64 0)).setCell ⟨rf, 6, none⟩ (.int .i64 0)).setCell ⟨rf, 7, none⟩ (.bool false)).setCell ⟨rf, 8, none⟩ (.int .i64 0)).setCell ⟨rf, 9, none⟩ (.slice none 0 0)).setCell ⟨rf, 10, none⟩ (.int .i64 0)).setCell ⟨rf, 11, none⟩ (.int .i64 0)).setCell ⟨rf, 12, none⟩ (.string ⟨#[]⟩)) rf 33 #[.int .i64 0, .int .i64 0, .int .i64 0, .string ⟨#[]⟩, .bool false, .int .i64 0, .int .i64 0, .bool false, .int .i64 0, .slice none 0 0, .int .i64 0, .int .i64 0, .string ⟨#[]⟩] := ((((((((((((((HZ.out.set 0 (.int .i64 0) rfl).set 1 (.int .i64 0) rfl).set 2 (.int .i64 0) rfl).set 3 (.string ⟨#[]⟩) rfl).set 4 (.bool false) rfl).set 5 (.int .i64 0) rfl).set 6 (.int .i64 0) rfl).set 7 (.bool false) rfl).set 8 (.int .i64 0) rfl).set 9 (.slice none 0 0) rfl).set 10 (.int .i64 0) rfl).set 11 (.int .i64 0) rfl).set 12 (.string ⟨#[]⟩) rfl)).same rfl
      have hO7 : Only [] w (((((((((((((w5.setCell ⟨rf, 0, none⟩ (.int .i64 0)).setCell ⟨rf, 1, none⟩ (.int .i64 0)).setCell ⟨rf, 2, none⟩ (.int .i64 0)).setCell ⟨rf, 3, none⟩ (.string ⟨#[]⟩)).setCell ⟨rf, 4, none⟩ (.bool false)).setCell ⟨rf, 5, none⟩ (.int .i64 0)).setCell ⟨rf, 6, none⟩ (.int .i64 0)).setCell ⟨rf, 7, none⟩ (.bool false)).setCell ⟨rf, 8, none⟩ (.int .i64 0)).setCell ⟨rf, 9, none⟩ (.slice none 0 0)).setCell ⟨rf, 10, none⟩ (.int .i64 0)).setCell ⟨rf, 11, none⟩ (.int .i64 0)).setCell ⟨rf, 12, none⟩ (.string ⟨#[]⟩)) := (((((((((((((HO.out.putn (g := rf) (i := 0) (HN.out.1) (.int .i64 0)).putn (g := rf) (i := 1) (HN.out.1) (.int .i64 0)).putn (g := rf) (i := 2) (HN.out.1) (.int .i64 0)).putn (g := rf) (i := 3) (HN.out.1) (.string ⟨#[]⟩)).putn (g := rf) (i := 4) (HN.out.1) (.bool false)).putn (g := rf) (i := 5) (HN.out.1) (.int .i64 0)).putn (g := rf) (i := 6) (HN.out.1) (.int .i64 0)).putn (g := rf) (i := 7) (HN.out.1) (.bool false)).putn (g := rf) (i := 8) (HN.out.1) (.int .i64 0)).putn (g := rf) (i := 9) (HN.out.1) (.slice none 0 0)).putn (g := rf) (i := 10) (HN.out.1) (.int .i64 0)).putn (g := rf) (i := 11) (HN.out.1) (.int .i64 0)).putn (g := rf) (i := 12) (HN.out.1) (.string ⟨#[]⟩))
      generalize (((((((((((((w5.setCell ⟨rf, 0, none⟩ (.int .i64 0)).setCell ⟨rf, 1, none⟩ (.int .i64 0)).setCell ⟨rf, 2, none⟩ (.int .i64 0)).setCell ⟨rf, 3, none⟩ (.string ⟨#[]⟩)).setCell ⟨rf, 4, none⟩ (.bool false)).setCell ⟨rf, 5, none⟩ (.int .i64 0)).setCell ⟨rf, 6, none⟩ (.int .i64 0)).setCell ⟨rf, 7, none⟩ (.bool false)).setCell ⟨rf, 8, none⟩ (.int .i64 0)).setCell ⟨rf, 9, none⟩ (.slice none 0 0)).setCell ⟨rf, 10, none⟩ (.int .i64 0)).setCell ⟨rf, 11, none⟩ (.int .i64 0)).setCell ⟨rf, 12, none⟩ (.string ⟨#[]⟩)) = w7 at hA7 hO7 ⊢
      obtain ⟨y0, y1, y2, y3, y4, y5, y6, y7, y8, y9, y10, y11, y12⟩ := (show At w7 rf _ _ from hA7).c13
      refine ⟨rfl, .tuple #[.agg #[.int .i64 0, .int .i64 0, .int .i64 0, .string ⟨#[]⟩, .bool false, .int .i64 0, .int .i64 0, .bool false, .int .i64 0, .slice none 0 0, .int .i64 0, .int .i64 0, .string ⟨#[]⟩], .int .i64 0, .int .i64 90], ?_, ?_⟩
      · simp [results, Try.f29, go_sem, y0, y1, y2, y3, y4, y5, y6, y7, y8, y9, y10, y11, y12]
      · rw [HQ.out]; exact ⟨hO7, rfl⟩
    | true =>
      have HQ : Hid (Q = some (f, s.data.toList.drop a')) := Lib.hid (by
        obtain ⟨q, he⟩ := HV.out.1 (by first | rfl | trivial)
        rw [HD.out]
        simp only [he])
      obtain rfl : a' = a5 := hc5 a' rfl
      have HR5 := Lib.hid hA5
      have HA5 := Lib.hid ha5
      clear HD HX hA5 hc5 hfz z0 z1 z2 z3 z4 z5 z6 z7 z8 z9 z10 z11 z12
      go_upto_region 10 with fail
      have hbl6 : b < w5.drew.heap.size := At.lt HB.out
      have hrl6 : rb < w5.drew.heap.size := At.lt HR5.out
      have hbn6 : b ∉ [rf] := by have := HBl.out; simp; omega
      have hrn6 : rb ∉ [rf] := by have := HN.out; simp; omega
      have xr : w5.drew.cell? ⟨rb, 1, none⟩ = some (.int .i64 ((a' : Nat) : Int)) := At.cell HR5.out 1 rfl
      obtain ⟨x0, x1, x2, x3, x4, x5, x6, x7, x8, x9, x10, x11, x12⟩ := (show At w5.drew b _ _ from HB.out).c13
      refine wp_region_held_drew (S := fun w' => Only [rf] w5.drew w') (by kernel_rfl) (by exact Only.refl _ _) (fun hHeld => ?_)
      refine tkH (i := 0) (v := ?_) rfl ?_ ?_
      rotate_left
      · intro wS hSw
        have e0 := (hSw.cell (p := ⟨b, 0, none⟩) hbl6 hbn6).trans x0
        have e1 := (hSw.cell (p := ⟨b, 1, none⟩) hbl6 hbn6).trans x1
        have e2 := (hSw.cell (p := ⟨b, 2, none⟩) hbl6 hbn6).trans x2
        have e3 := (hSw.cell (p := ⟨b, 3, none⟩) hbl6 hbn6).trans x3
        have e4 := (hSw.cell (p := ⟨b, 4, none⟩) hbl6 hbn6).trans x4
        have e5 := (hSw.cell (p := ⟨b, 5, none⟩) hbl6 hbn6).trans x5
        have e6 := (hSw.cell (p := ⟨b, 6, none⟩) hbl6 hbn6).trans x6
        have e7 := (hSw.cell (p := ⟨b, 7, none⟩) hbl6 hbn6).trans x7
        have e8 := (hSw.cell (p := ⟨b, 8, none⟩) hbl6 hbn6).trans x8
        have e9 := (hSw.cell (p := ⟨b, 9, none⟩) hbl6 hbn6).trans x9
        have e10 := (hSw.cell (p := ⟨b, 10, none⟩) hbl6 hbn6).trans x10
        have e11 := (hSw.cell (p := ⟨b, 11, none⟩) hbl6 hbn6).trans x11
        have e12 := (hSw.cell (p := ⟨b, 12, none⟩) hbl6 hbn6).trans x12
        go_simp
        try with_reducible rfl
      simp only [tk1, tk2, tk3, Act.put, tk4, tk5, tk6]
      refine tkH (i := 1) (v := ?_) rfl ?_ ?_
      rotate_left
      · intro wS hSw
        go_simp
        try with_reducible rfl
      simp only [tk1, tk2, tk3, Act.put, tk4, tk5, tk6]
      refine tkH (i := 2) (v := ?_) rfl ?_ ?_
      rotate_left
      · intro wS hSw
        go_simp
        try with_reducible rfl
      simp only [tk1, tk2, tk3, Act.put, tk4, tk5, tk6]
      refine tkH (i := 3) (v := ?_) rfl ?_ ?_
      rotate_left
      · intro wS hSw
        go_simp
        try with_reducible rfl
      simp only [tk1, tk2, tk3, Act.put, tk4, tk5, tk6]
      refine tkH (i := 4) (v := ?_) rfl ?_ ?_
      rotate_left
      · intro wS hSw
        have e0 := (hSw.cell (p := ⟨rb, 1, none⟩) hrl6 hrn6).trans xr
        go_simp
        try with_reducible rfl
      simp only [tk1, tk2, tk3, Act.put, tk4, tk5, tk6]
      obtain ⟨z0, z1, z2, z3, z4, z5, z6, z7, z8, z9, z10, z11, z12⟩ := (show At w5 rf _ _ from HZ.out).c13
      have hfz : ∀ i, w5.frozen? ⟨rf, i, none⟩ = false := fun i => HZ.out.free i
      refine wpAnyH_ready (rs := [5]) (by kernel_rfl) (by simp) ?_
      refine AllReadyH.cons rfl (fun K hK => ?_) AllReadyH.nil
      go_simp
      have hO8 : Only [rf] w5 (((((((((((((w5.setCell ⟨rf, 0, none⟩ (.int .i64 f.ty)).setCell ⟨rf, 1, none⟩ (.int .i64 f.st)).setCell ⟨rf, 2, none⟩ (.int .i64 f.off)).setCell ⟨rf, 3, none⟩ (.string (strB f.S))).setCell ⟨rf, 4, none⟩ (.bool f.fin)).setCell ⟨rf, 5, none⟩ (.int .i64 f.mx)).setCell ⟨rf, 6, none⟩ (.int .i64 f.cd)).setCell ⟨rf, 7, none⟩ (.bool f.uni)).setCell ⟨rf, 8, none⟩ (.int .i64 f.dl)).setCell ⟨rf, 9, none⟩ (.slice ga f.rg.length gc)).setCell ⟨rf, 10, none⟩ (.int .i64 f.sq)).setCell ⟨rf, 11, none⟩ (.int .i64 f.rt)).setCell ⟨rf, 12, none⟩ (.string (strB f.cid))) := ((((((((((((((Only.refl [rf] w5).put (g := rf) (i := 0) (by simp) (.int .i64 f.ty)).put (g := rf) (i := 1) (by simp) (.int .i64 f.st)).put (g := rf) (i := 2) (by simp) (.int .i64 f.off)).put (g := rf) (i := 3) (by simp) (.string (strB f.S))).put (g := rf) (i := 4) (by simp) (.bool f.fin)).put (g := rf) (i := 5) (by simp) (.int .i64 f.mx)).put (g := rf) (i := 6) (by simp) (.int .i64 f.cd)).put (g := rf) (i := 7) (by simp) (.bool f.uni)).put (g := rf) (i := 8) (by simp) (.int .i64 f.dl)).put (g := rf) (i := 9) (by simp) (.slice ga f.rg.length gc)).put (g := rf) (i := 10) (by simp) (.int .i64 f.sq)).put (g := rf) (i := 11) (by simp) (.int .i64 f.rt)).put (g := rf) (i := 12) (by simp) (.string (strB f.cid)))
      have hA8 : At (((((((((((((w5.setCell ⟨rf, 0, none⟩ (.int .i64 f.ty)).setCell ⟨rf, 1, none⟩ (.int .i64 f.st)).setCell ⟨rf, 2, none⟩ (.int .i64 f.off)).setCell ⟨rf, 3, none⟩ (.string (strB f.S))).setCell ⟨rf, 4, none⟩ (.bool f.fin)).setCell ⟨rf, 5, none⟩ (.int .i64 f.mx)).setCell ⟨rf, 6, none⟩ (.int .i64 f.cd)).setCell ⟨rf, 7, none⟩ (.bool f.uni)).setCell ⟨rf, 8, none⟩ (.int .i64 f.dl)).setCell ⟨rf, 9, none⟩ (.slice ga f.rg.length gc)).setCell ⟨rf, 10, none⟩ (.int .i64 f.sq)).setCell ⟨rf, 11, none⟩ (.int .i64 f.rt)).setCell ⟨rf, 12, none⟩ (.string (strB f.cid))) rf 33 (frC f (.slice ga f.rg.length gc)) := (((((((((((((HZ.out.set 0 (.int .i64 f.ty) rfl).set 1 (.int .i64 f.st) rfl).set 2 (.int .i64 f.off) rfl).set 3 (.string (strB f.S)) rfl).set 4 (.bool f.fin) rfl).set 5 (.int .i64 f.mx) rfl).set 6 (.int .i64 f.cd) rfl).set 7 (.bool f.uni) rfl).set 8 (.int .i64 f.dl) rfl).set 9 (.slice ga f.rg.length gc) rfl).set 10 (.int .i64 f.sq) rfl).set 11 (.int .i64 f.rt) rfl).set 12 (.string (strB f.cid)) rfl).same (by simp only [List.setIfInBounds_toArray, List.set_cons_zero, List.set_cons_succ, frC])
      generalize (((((((((((((w5.setCell ⟨rf, 0, none⟩ (.int .i64 f.ty)).setCell ⟨rf, 1, none⟩ (.int .i64 f.st)).setCell ⟨rf, 2, none⟩ (.int .i64 f.off)).setCell ⟨rf, 3, none⟩ (.string (strB f.S))).setCell ⟨rf, 4, none⟩ (.bool f.fin)).setCell ⟨rf, 5, none⟩ (.int .i64 f.mx)).setCell ⟨rf, 6, none⟩ (.int .i64 f.cd)).setCell ⟨rf, 7, none⟩ (.bool f.uni)).setCell ⟨rf, 8, none⟩ (.int .i64 f.dl)).setCell ⟨rf, 9, none⟩ (.slice ga f.rg.length gc)).setCell ⟨rf, 10, none⟩ (.int .i64 f.sq)).setCell ⟨rf, 11, none⟩ (.int .i64 f.rt)).setCell ⟨rf, 12, none⟩ (.string (strB f.cid))) = w8 at hO8 hA8 ⊢
      have hHeld2 : Only [rf] w5.drew w8.drew := ⟨hO8.os, hO8.tape, hO8.output, hO8.size, hO8.block⟩
      refine hK.out _ _ hHeld2 (fun hHeld' => ?_)
      clear hHeld hK K hHeld'
      have hHeld := hHeld2
      clear hHeld2
      refine tkH (i := 6) (v := ?_) rfl ?_ ?_
      rotate_left
      · intro wS hSw
        go_simp
        try with_reducible rfl
      simp only [tk1, tk2, tk3, Act.put, tk4, tk5, tk6]
      refine tkH (i := 7) (v := ?_) rfl ?_ ?_
      rotate_left
      · intro wS hSw
        go_simp
        try with_reducible rfl
      simp only [tk1, tk2, tk3, Act.put, tk4, tk5, tk6]
      refine wpAnyH_done (by kernel_rfl) ?_ _
      have hO9 : Only [] w w8.drew := Only.drew ⟨hO8.os.trans HO.out.os, hO8.tape.trans HO.out.tape, hO8.output.trans HO.out.output, Nat.le_trans HO.out.size hO8.size, fun i hi hn => (hO8.block i (Nat.lt_of_lt_of_le hi HO.out.size) (by have := HN.out; simp; omega)).trans (HO.out.block i hi hn)⟩
      have hok : FrOk w8.drew f (.slice ga f.rg.length gc) := ⟨HF5.out.wf, HF5.out.ty, HF5.out.rg.keepN (S := [rf]) hO8.drew (fun g n c e hm => HNl.out g n c e (List.mem_singleton.1 hm)), HF5.out.sz⟩
      have hA9 : At w8.drew rf 33 (frC f (.slice ga f.rg.length gc)) := hA8
      obtain ⟨y0, y1, y2, y3, y4, y5, y6, y7, y8, y9, y10, y11, y12⟩ := (show At w8.drew rf _ _ from hA9).c13
      clear hO8 hA8 hHeld
      go_wp2_with fail
      refine ⟨rfl, .tuple #[.agg (frC f (.slice ga f.rg.length gc)), .int .i64 ((a' : Nat) : Int), .int .i64 0], ?_, ?_⟩
      · simp [results, Try.f29, go_sem, frC, y0, y1, y2, y3, y4, y5, y6, y7, y8, y9, y10, y11, y12]
      · rw [HQ.out]; exact ⟨hO9, _, a', rfl, hok, HNw.out, HA5.out, rfl⟩
/-- The reference's Decode, inside of the string. -/
theorem rdec_c (s : ByteArray) (a : Nat) (h : a < s.size) (hs : s.size ≤ 4611686018427387903) (w : World) : Calls Try.prog 29 #[.string s, .int .i64 a] w (DecQ (decF (s.data.toList.drop a)) s w) := rdec_x s a h hs _ rfl w
end Go.Proofs.Ytmmgmpghkpbgkaa
/- Contracts of the reference: DecodeAll. -/
namespace Go.Proofs.Ytmmgmpghkpbgkaa
open Go Go.RowKit
set_option linter.unusedVariables false
set_option linter.unusedSimpArgs false

set_option maxRecDepth 100000 in
set_option maxHeartbeats 4000000 in
theorem rdecAll_c (s : ByteArray) (hs : s.size ≤ 900000) (w : World) :
    Calls Try.prog 27 #[.string s] w (DaQ (daF (s.size + 1) s.data.toList) w) := by
  obtain ⟨R, hR⟩ : ∃ R, daF (s.size + 1) s.data.toList = R := ⟨_, rfl⟩
  rw [hR]
  have hor := Lib.hid (Only.refl [] w)
  have HRR : Hid (R = (daF (s.size + 1 - 0) (s.data.toList.drop 0)).map (([] : List (Fr × Value)).map Prod.fst ++ ·)) := Lib.hid (by rw [← hR]; simp)
  clear hR
  go_enter Try.func27, Try.ntmps27
  go_wp2_with fail
  go_loopg [4, 5] s.size (fun gk ov av wr => DaRel s R w gk ov av wr)
  case atStart => exact ⟨0, [], by simp, by omega, rfl, by simp, Lib.hid (FrRow.nil _ _), HRR, hor⟩
  case round =>
    obtain ⟨a, xs, rfl, ha, rfl, hxl, hG, hD, hO⟩ := hrel
    clear hor HRR
    obtain ⟨oa, oc, rfl⟩ := hG.out.shape
    by_cases hlt : a < s.size
    · have hlt' : (a : Int) < s.size := by omega
      have hdc := rdec_c s a hlt (by omega) wr
      obtain ⟨m, hm⟩ : ∃ m, s.size + 1 - xs.length = m + 1 := ⟨s.size - xs.length, by omega⟩
      have hne : s.data.toList.drop a ≠ [] := by
        intro e; have := congrArg List.length e; rw [drop_len] at this; simp at this; omega
      cases hq : decF (s.data.toList.drop a) with
      | none =>
        have HF : Hid (R = none) := Lib.hid (by rw [hD.out, hm]; simp only [daF]; rw [if_neg hne, hq]; rfl)
        rw [hq] at hdc
        clear hq
        go_wp2_with fail
        refine hdc.mono ?_
        rintro e w4 ⟨ho, rfl⟩
        have HO4 := Lib.hid (hO.out.trans ho)
        clear ho hdc hG hD hO
        simp only [zeroFrV, frC, Fr.zero]
        go_wp2_with fail
        refine ⟨rfl, .tuple #[.slice none 0 0, .int .i64 90], ?_, DaQ.bad HF.out (HO4.out.alloc _)⟩
        simp [results, Try.f27, go_sem]
      | some p =>
        obtain ⟨f, l1⟩ := p
        have hless := decF_less hq
        have HF : Hid (R = (daF m l1).map ((xs.map Prod.fst ++ [f]) ++ ·)) := Lib.hid (by
          rw [hD.out, hm]
          simp only [daF]
          rw [if_neg hne, hq]
          simp only [Option.map_map]
          congr 1
          funext L
          simp)
        rw [hq] at hdc
        clear hq
        go_wp2_with fail
        refine hdc.mono ?_
        rintro e w4 ⟨ho, rv, a', rfl, hok, hnew, ha', rfl⟩
        rw [drop_len, drop_len] at hless
        obtain ⟨ra, rc, rfl, hrx⟩ := hok.rg
        have HK := Lib.hid hok
        have HOf : Hid (RgOff (Value.ownBlock (.slice oa xs.length oc)) (f, .slice ra f.rg.length rc)) := Lib.hid (fun hne' g n c e' hb => by
          have h1 := hnew _ _ _ e'
          have h2 := (World.ownsRow.lt hG.out.own _ hb).2
          omega)
        have HG4 := Lib.hid (hG.out.keep ho)
        have HO4 := Lib.hid (hO.out.trans ho)
        clear hrx hok hnew ho hG hO hdc
        simp only [frC]
        go_upto_region 5 with fail
        have hA5 := At.new w4 33 #[.int .i64 f.ty, .int .i64 f.st, .int .i64 f.off, .string (strB f.S), .bool f.fin, .int .i64 f.mx, .int .i64 f.cd, .bool f.uni, .int .i64 f.dl, .slice ra f.rg.length rc, .int .i64 f.sq, .int .i64 f.rt, .string (strB f.cid)]
        have hO5 := HO4.out.alloc (.cells #[.int .i64 f.ty, .int .i64 f.st, .int .i64 f.off, .string (strB f.S), .bool f.fin, .int .i64 f.mx, .int .i64 f.cd, .bool f.uni, .int .i64 f.dl, .slice ra f.rg.length rc, .int .i64 f.sq, .int .i64 f.rt, .string (strB f.cid)] 33)
        have hG5 := HG4.out.keep ((Only.refl [] w4).alloc (.cells #[.int .i64 f.ty, .int .i64 f.st, .int .i64 f.off, .string (strB f.S), .bool f.fin, .int .i64 f.mx, .int .i64 f.cd, .bool f.uni, .int .i64 f.dl, .slice ra f.rg.length rc, .int .i64 f.sq, .int .i64 f.rt, .string (strB f.cid)] 33))
        have hK5 := HK.out.keep ((Only.refl [] w4).alloc (.cells #[.int .i64 f.ty, .int .i64 f.st, .int .i64 f.off, .string (strB f.S), .bool f.fin, .int .i64 f.mx, .int .i64 f.cd, .bool f.uni, .int .i64 f.dl, .slice ra f.rg.length rc, .int .i64 f.sq, .int .i64 f.rt, .string (strB f.cid)] 33))
        generalize w4.alloc (.cells #[.int .i64 f.ty, .int .i64 f.st, .int .i64 f.off, .string (strB f.S), .bool f.fin, .int .i64 f.mx, .int .i64 f.cd, .bool f.uni, .int .i64 f.dl, .slice ra f.rg.length rc, .int .i64 f.sq, .int .i64 f.rt, .string (strB f.cid)] 33) = w5 at hA5 hO5 hG5 hK5 ⊢
        generalize w4.heap.size = b at hA5 ⊢
        have d0 : w5.cell? ⟨b, 0, none⟩ = some (.int .i64 f.ty) := hA5.cell 0 rfl
        have d1 : w5.cell? ⟨b, 1, none⟩ = some (.int .i64 f.st) := hA5.cell 1 rfl
        have d2 : w5.cell? ⟨b, 2, none⟩ = some (.int .i64 f.off) := hA5.cell 2 rfl
        have d3 : w5.cell? ⟨b, 3, none⟩ = some (.string (strB f.S)) := hA5.cell 3 rfl
        have d4 : w5.cell? ⟨b, 4, none⟩ = some (.bool f.fin) := hA5.cell 4 rfl
        have d5 : w5.cell? ⟨b, 5, none⟩ = some (.int .i64 f.mx) := hA5.cell 5 rfl
        have d6 : w5.cell? ⟨b, 6, none⟩ = some (.int .i64 f.cd) := hA5.cell 6 rfl
        have d7 : w5.cell? ⟨b, 7, none⟩ = some (.bool f.uni) := hA5.cell 7 rfl
        have d8 : w5.cell? ⟨b, 8, none⟩ = some (.int .i64 f.dl) := hA5.cell 8 rfl
        have d9 : w5.cell? ⟨b, 9, none⟩ = some (.slice ra f.rg.length rc) := hA5.cell 9 rfl
        have d10 : w5.cell? ⟨b, 10, none⟩ = some (.int .i64 f.sq) := hA5.cell 10 rfl
        have d11 : w5.cell? ⟨b, 11, none⟩ = some (.int .i64 f.rt) := hA5.cell 11 rfl
        have d12 : w5.cell? ⟨b, 12, none⟩ = some (.string (strB f.cid)) := hA5.cell 12 rfl
        obtain ⟨v', w6, eA, hG6, hB6, hkp⟩ := hG5.push f (.slice ra f.rg.length rc) hK5 HOf.out (by omega) hO5.size
        obtain ⟨va, vc, rfl⟩ : ∃ va vc, v' = .slice va (xs ++ [(f, Value.slice ra f.rg.length rc)]).length vc := hG6.shape
        have HG6 := Lib.hid hG6
        have HO6 : Hid (Only [] w w6) := Lib.hid (only_bl hO5 hB6)
        clear hG6 hB6 hkp hA5 hO5 hG5 hK5
        go_wp2_with (at_builtin; refine Lib.wpList_append_run _ rfl _ _ _ _ rfl _ _ rfl rfl _ _ (eA _) ?_)
        go_roundg (s.size - a')
        case measure => omega
        case rel =>
          refine ⟨a', xs ++ [(f, Value.slice ra f.rg.length rc)], rfl, ha', rfl, by simp; omega, by simpa using HG6, Lib.hid ?_, HO6⟩
          rw [HF.out]
          simp only [List.map_append, List.map_cons, List.map_nil, List.length_append, List.length_cons, List.length_nil]
          rw [show s.size + 1 - (xs.length + (0 + 1)) = m by omega]
    · obtain rfl : a = s.size := by omega
      have hlt' : ¬ (s.size : Int) < s.size := by omega
      have HF : Hid (R = some (xs.map Prod.fst)) := Lib.hid (by
        obtain ⟨m, hm⟩ : ∃ m, s.size + 1 - xs.length = m + 1 := ⟨s.size - xs.length, by omega⟩
        rw [hD.out, hm]
        simp only [daF]
        rw [if_pos (List.length_eq_zero_iff.1 (by rw [drop_len]; omega))]
        simp)
      go_wp2_with fail
      refine ⟨rfl, .tuple #[.slice oa xs.length oc, .int .i64 0], ?_, DaQ.good HF.out hO.out hG.out⟩
      simp [results, Try.f27, go_sem]
end Go.Proofs.Ytmmgmpghkpbgkaa
