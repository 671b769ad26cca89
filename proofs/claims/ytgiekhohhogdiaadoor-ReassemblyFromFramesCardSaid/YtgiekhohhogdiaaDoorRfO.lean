/- Contracts of package frame: Decode. -/
import Derived.Test.YtgiekhohhogdiaaDoorRfN
import Derived.Deep.CutRange
namespace Go.Proofs.YtgiekhohhogdiaaDoor
open Go Go.RowKit
set_option linter.unusedVariables false
set_option linter.unusedSimpArgs false

theorem RgAt.keepN {S : List Nat} {w w' : World} {rv : Value} {L : List (Int × Int)} (h : RgAt w rv L) (ho : Only S w w') (hn : ∀ g n c, rv = .slice (some g) n c → g.block ∉ S) : RgAt w' rv L := by
  obtain ⟨a, cap, rfl, hc⟩ := h
  refine ⟨a, cap, rfl, fun i hi => ?_⟩
  obtain ⟨g, off, rfl, hg, c1, c2, r1, r2⟩ := hc i hi
  have := hn _ _ _ rfl
  exact ⟨g, off, rfl, Nat.lt_of_lt_of_le hg ho.size, (ho.cell (p := ⟨g, off + i * 2, none⟩) hg this).trans c1, (ho.cell (p := ⟨g, off + i * 2 + 1, none⟩) hg this).trans c2, r1, r2⟩
def zeroFrV : Value := .agg (frC (Fr.zero 0) (.slice none 0 0))
/-- What Decode answers inside of the string. -/
def DecQ (R : Option (Fr × List UInt8)) (s : ByteArray) (w : World) (e : Ending) (w' : World) : Prop := Only [] w w' ∧ match R with
    | some (f, l) => ∃ rv a', e = .returned (.tuple #[.agg (frC f rv), .int .i64 ((a' : Nat) : Int), .int .i64 0]) ∧ FrOk w' f rv ∧ RgNew w.heap.size rv ∧ a' ≤ s.size ∧ l = s.data.toList.drop a'
    | none => e = .returned (.tuple #[zeroFrV, .int .i64 0, .int .i64 90])
set_option maxRecDepth 100000 in
set_option maxHeartbeats 4000000 in
theorem decode_bad (s : ByteArray) (at_ : Int) (h : at_ < 0 ∨ (s.size : Int) < at_) (w : World) :
    Calls Tryd.prog 19 #[.string s, .int .i64 at_] w fun e w' => e = .returned (.tuple #[zeroFrV, .int .i64 0, .int .i64 2]) ∧ Only [] w w' := by
  by_cases h0 : at_ < 0
  · clear h
    go_enter Tryd.func19, Tryd.ntmps19
    go_wp2_with fail
    refine ⟨rfl, .tuple #[.agg #[.int .i64 0, .int .i64 0, .int .i64 0, .string ⟨#[]⟩, .bool false, .int .i64 0, .int .i64 0, .bool false, .int .i64 0, .slice none 0 0, .int .i64 0, .int .i64 0, .string ⟨#[]⟩], .int .i64 0, .int .i64 2], ?_, rfl, (Only.refl [] w).alloc _⟩
    simp [results, Tryd.f19, go_sem]
  · have h1 : (s.size : Int) < at_ := h.resolve_left h0
    clear h
    go_enter Tryd.func19, Tryd.ntmps19
    go_wp2_with fail
    refine ⟨rfl, .tuple #[.agg #[.int .i64 0, .int .i64 0, .int .i64 0, .string ⟨#[]⟩, .bool false, .int .i64 0, .int .i64 0, .bool false, .int .i64 0, .slice none 0 0, .int .i64 0, .int .i64 0, .string ⟨#[]⟩], .int .i64 0, .int .i64 2], ?_, rfl, (Only.refl [] w).alloc _⟩
    simp [results, Tryd.f19, go_sem]
set_option maxRecDepth 100000 in
set_option maxHeartbeats 4000000 in
theorem decode_end (s : ByteArray) (w : World) :
    Calls Tryd.prog 19 #[.string s, .int .i64 s.size] w fun e w' => e = .returned (.tuple #[zeroFrV, .int .i64 0, .int .i64 90]) ∧ Only [] w w' := by
  have h0 : ¬ (s.size : Int) < 0 := by omega
  have h1 : ¬ (s.size : Int) < s.size := by omega
  go_enter Tryd.func19, Tryd.ntmps19
  go_wp2_with fail
  refine ⟨rfl, .tuple #[.agg #[.int .i64 0, .int .i64 0, .int .i64 0, .string ⟨#[]⟩, .bool false, .int .i64 0, .int .i64 0, .bool false, .int .i64 0, .slice none 0 0, .int .i64 0, .int .i64 0, .string ⟨#[]⟩], .int .i64 0, .int .i64 90], ?_, rfl, (Only.refl [] w).alloc _⟩
  simp [results, Tryd.f19, go_sem]
set_option maxRecDepth 100000 in
set_option maxHeartbeats 4000000 in
theorem decode_9 (s : ByteArray) (a : Nat) (h : a < s.size) (hs : s.size ≤ 4611686018427387903) (x : UInt8) (hx : s[a] = x) (h9 : x.toNat = 9) (w : World) :
    Calls Tryd.prog 19 #[.string s, .int .i64 a] w (DecQ (decF (s.data.toList.drop a)) s w) := by
  have h0 : ¬ (a : Int) < 0 := by omega
  have h1 : ¬ (s.size : Int) < a := by omega
  have h1' : (a : Int) < s.size := by omega
  have h2 : ¬ (a : Int) = s.size := by omega
  have h2' : ((a : Int) == s.size) = false := beq_eq_false_iff_ne.2 h2
  have f2 : IntKind.i64.wrap ((a : Int) + 1) = ((a + 1 : Nat) : Int) := by rw [show (a : Int) + 1 = ((a + 1 : Nat) : Int) by omega]; exact IntWalk.i64_in _ (by omega)
  have hx4 := x.toNat_lt
  have hx9 : (x.toNat : Int) = 9 := by omega
  have HDF : Hid (decF (s.data.toList.drop a) = rdF (headF x) (s.data.toList.drop (a + 1))) := Lib.hid (by
    rw [List.drop_eq_getElem_cons (by rw [size_list]; omega), ← get_list s a h, hx]; rfl)
  obtain ⟨R, hR0⟩ : ∃ R, decF (s.data.toList.drop a) = R := ⟨_, rfl⟩
  rw [hR0]
  have HRR : Hid (rdF (headF x) (s.data.toList.drop (a + 1)) = R) := Lib.hid (HDF.out.symm.trans hR0)
  clear hR0 HDF
  go_enter Tryd.func19, Tryd.ntmps19
  go_upto_region 6 with fail
  have hZ1 := At.new w 33 #[.int .i64 0, .int .i64 0, .int .i64 0, .string ⟨#[]⟩, .bool false, .int .i64 0, .int .i64 0, .bool false, .int .i64 0, .slice none 0 0, .int .i64 0, .int .i64 0, .string ⟨#[]⟩]
  have hsz1 : (w.alloc (.cells #[.int .i64 0, .int .i64 0, .int .i64 0, .string ⟨#[]⟩, .bool false, .int .i64 0, .int .i64 0, .bool false, .int .i64 0, .slice none 0 0, .int .i64 0, .int .i64 0, .string ⟨#[]⟩] 33)).heap.size = w.heap.size + 1 := by simp
  have hZ2 := hZ1.alloc (.cells #[.int .i64 9, .int .i64 0, .int .i64 0, .string ⟨#[]⟩, .bool false, .int .i64 0, .int .i64 0, .bool false, .int .i64 0, .slice none 0 0, .int .i64 0, .int .i64 0, .string ⟨#[]⟩] 33)
  have hB2 := At.new (w.alloc (.cells #[.int .i64 0, .int .i64 0, .int .i64 0, .string ⟨#[]⟩, .bool false, .int .i64 0, .int .i64 0, .bool false, .int .i64 0, .slice none 0 0, .int .i64 0, .int .i64 0, .string ⟨#[]⟩] 33)) 33 #[.int .i64 9, .int .i64 0, .int .i64 0, .string ⟨#[]⟩, .bool false, .int .i64 0, .int .i64 0, .bool false, .int .i64 0, .slice none 0 0, .int .i64 0, .int .i64 0, .string ⟨#[]⟩]
  have hO2 := ((Only.refl [] w).alloc (.cells #[.int .i64 0, .int .i64 0, .int .i64 0, .string ⟨#[]⟩, .bool false, .int .i64 0, .int .i64 0, .bool false, .int .i64 0, .slice none 0 0, .int .i64 0, .int .i64 0, .string ⟨#[]⟩] 33)).alloc (.cells #[.int .i64 9, .int .i64 0, .int .i64 0, .string ⟨#[]⟩, .bool false, .int .i64 0, .int .i64 0, .bool false, .int .i64 0, .slice none 0 0, .int .i64 0, .int .i64 0, .string ⟨#[]⟩] 33)
  rw [hsz1] at hB2
  generalize (w.alloc (.cells #[.int .i64 0, .int .i64 0, .int .i64 0, .string ⟨#[]⟩, .bool false, .int .i64 0, .int .i64 0, .bool false, .int .i64 0, .slice none 0 0, .int .i64 0, .int .i64 0, .string ⟨#[]⟩] 33)).alloc (.cells #[.int .i64 9, .int .i64 0, .int .i64 0, .string ⟨#[]⟩, .bool false, .int .i64 0, .int .i64 0, .bool false, .int .i64 0, .slice none 0 0, .int .i64 0, .int .i64 0, .string ⟨#[]⟩] 33) = w2 at *
  obtain ⟨rf, hrf⟩ : ∃ rf, w.heap.size = rf := ⟨_, rfl⟩
  rw [hrf] at hZ1 hZ2 hB2 ⊢
  obtain ⟨b, hb⟩ : ∃ b, rf + 1 = b := ⟨_, rfl⟩
  rw [hb] at hB2 ⊢
  have HN1 : Hid (rf < b ∧ w.heap.size ≤ rf) := Lib.hid ⟨by omega, by omega⟩
  have c0 : w2.cell? ⟨b, 0, none⟩ = some (.int .i64 9) := hB2.cell 0 rfl
  have HZ2 := Lib.hid hZ2
  have HB2 := Lib.hid hB2
  have HO2 := Lib.hid hO2
  clear hZ1 hsz1
  have c4 : w2.cell? ⟨b, 4, none⟩ = some (.bool false) := hB2.cell 4 rfl
  have hfr := fun i => hB2.free i
  clear hZ2 hB2 hO2 hrf hb
  go_upto_region 8 with fail
  have hB3 : FrAt ((w2.setCell ⟨b, 0, none⟩ (.int .i64 8)).setCell ⟨b, 4, none⟩ (.bool true)) b (headF x) (.slice none 0 0) := (HB2.out.set 0 _ rfl).set 4 _ (by unfold headF; rw [if_pos h9]; rfl)
  have hZ3 := (HZ2.out.far (p := ⟨b, 0, none⟩) (by have := HN1.out; show rf ≠ b; omega) (.int .i64 8)).far (p := ⟨b, 4, none⟩) (by have := HN1.out; show rf ≠ b; omega) (.bool true)
  have hO3 := (HO2.out.putn (g := b) (i := 0) (by have := HN1.out; omega) (.int .i64 8)).putn (g := b) (i := 4) (by have := HN1.out; omega) (.bool true)
  generalize (w2.setCell ⟨b, 0, none⟩ (.int .i64 8)).setCell ⟨b, 4, none⟩ (.bool true) = w3 at hB3 hZ3 hO3 ⊢
  clear c0 c4 hfr HZ2 HB2 HO2
  go_upto_region 9 with fail
  obtain ⟨rb, hrb⟩ : ∃ rb, w3.heap.size = rb := ⟨_, rfl⟩
  obtain ⟨q, hq⟩ : ∃ q, rb + 1 = q := ⟨_, rfl⟩
  have hR4 := At.new w3 72 #[.string s, .int .i64 ((a : Int) + 1)]
  have hsz4 : (w3.alloc (.cells #[.string s, .int .i64 ((a : Int) + 1)] 72)).heap.size = w3.heap.size + 1 := by simp
  have hQ5 := At.new (w3.alloc (.cells #[.string s, .int .i64 ((a : Int) + 1)] 72)) 70 #[.pointer (some ⟨w3.heap.size, 0, none⟩)]
  rw [hsz4] at hQ5
  have hR5 := hR4.alloc (.cells #[.pointer (some ⟨w3.heap.size, 0, none⟩)] 70)
  have hB5 := (At.alloc hB3 (.cells #[.string s, .int .i64 ((a : Int) + 1)] 72)).alloc (.cells #[.pointer (some ⟨w3.heap.size, 0, none⟩)] 70)
  have hZ5 := (hZ3.alloc (.cells #[.string s, .int .i64 ((a : Int) + 1)] 72)).alloc (.cells #[.pointer (some ⟨w3.heap.size, 0, none⟩)] 70)
  have hO5 := (hO3.alloc (.cells #[.string s, .int .i64 ((a : Int) + 1)] 72)).alloc (.cells #[.pointer (some ⟨w3.heap.size, 0, none⟩)] 70)
  have hl3 := At.lt hB3
  have hr3 := hO3.size
  clear hR4 hsz4 hO3 hZ3 hB3
  rw [hrb] at hQ5 hR5 hB5 hZ5 hO5 hl3 hr3 ⊢
  rw [hq] at hQ5 ⊢
  generalize (w3.alloc (.cells #[.string s, .int .i64 ((a : Int) + 1)] 72)).alloc (.cells #[.pointer (some ⟨rb, 0, none⟩)] 70) = w5 at hQ5 hR5 hB5 hZ5 hO5 ⊢
  have HN2 : Hid (b < rb ∧ rb < q) := Lib.hid ⟨hl3, by omega⟩
  have hR5' : RdAt w5 rb s (a + 1) := At.same hR5 rfl
  have hdin := decode_in b q rb (by omega) (headF x) s (a + 1) w5 hs (by omega) hB5 (head_wf x).1 (head_wf x).2.1 (head_wf x).2.2 hR5' hQ5
  have HZ5 := Lib.hid hZ5
  have HQ5 := Lib.hid hQ5
  have HO5 := Lib.hid hO5
  have HQt : Hid (q ∉ [rb, b]) := Lib.hid (by simp; omega)
  have HZt : Hid (rf ∉ [rb, b]) := Lib.hid (by have := HN1.out; simp; omega)
  have HX : Hid (∀ W', Only [rb, b] w5 W' → Only [] w W') := Lib.hid (fun W' h => ⟨h.os.trans hO5.os, h.tape.trans hO5.tape, h.output.trans hO5.output, Nat.le_trans hO5.size h.size, fun i hi hn => (h.block i (Nat.lt_of_lt_of_le hi hO5.size) (by have := HN1.out; simp; omega)).trans (hO5.block i hi hn)⟩)
  clear hR5 hR5' hB5 hZ5 hO5 hQ5 hl3 hr3 hrb hq
  rw [HRR.out] at hdin
  clear HRR
  cases R with
  | none =>
    have hg := guard_false w5 (fun w' => Only [rb, b] w5 w') (fun A B h k => h.trans (k.mono (by simp))) ent_decode (hdin.mono fun e w' h => ⟨h.2, h.1⟩)
    clear hdin
    go_wp2_with fail
    refine hg.mono ?_
    rintro e w6 ⟨rfl, ho6⟩
    have hZ6 := HZ5.out.keep ho6 HZt.out
    have HO6 : Hid (Only [] w w6) := Lib.hid (HX.out _ ho6)
    have z0 : w6.cell? ⟨rf, 0, none⟩ = some (.int .i64 0) := hZ6.cell 0 rfl
    have z1 : w6.cell? ⟨rf, 1, none⟩ = some (.int .i64 0) := hZ6.cell 1 rfl
    have z2 : w6.cell? ⟨rf, 2, none⟩ = some (.int .i64 0) := hZ6.cell 2 rfl
    have z3 : w6.cell? ⟨rf, 3, none⟩ = some (.string ⟨#[]⟩) := hZ6.cell 3 rfl
    have z4 : w6.cell? ⟨rf, 4, none⟩ = some (.bool false) := hZ6.cell 4 rfl
    have z5 : w6.cell? ⟨rf, 5, none⟩ = some (.int .i64 0) := hZ6.cell 5 rfl
    have z6 : w6.cell? ⟨rf, 6, none⟩ = some (.int .i64 0) := hZ6.cell 6 rfl
    have z7 : w6.cell? ⟨rf, 7, none⟩ = some (.bool false) := hZ6.cell 7 rfl
    have z8 : w6.cell? ⟨rf, 8, none⟩ = some (.int .i64 0) := hZ6.cell 8 rfl
    have z9 : w6.cell? ⟨rf, 9, none⟩ = some (.slice none 0 0) := hZ6.cell 9 rfl
    have z10 : w6.cell? ⟨rf, 10, none⟩ = some (.int .i64 0) := hZ6.cell 10 rfl
    have z11 : w6.cell? ⟨rf, 11, none⟩ = some (.int .i64 0) := hZ6.cell 11 rfl
    have z12 : w6.cell? ⟨rf, 12, none⟩ = some (.string ⟨#[]⟩) := hZ6.cell 12 rfl
    have hfz := fun i => hZ6.free i
    have HZ6 := Lib.hid hZ6
    clear hZ6 ho6
    go_wp2_with fail
    have hA7 : At (((((((((((((w6.setCell ⟨rf, 0, none⟩ (.int .i64 0)).setCell ⟨rf, 1, none⟩ (.int .i64 0)).setCell ⟨rf, 2, none⟩ (.int .i64 0)).setCell ⟨rf, 3, none⟩ (.string ⟨#[]⟩)).setCell ⟨rf, 4, none⟩ (.bool false)).setCell ⟨rf, 5, none⟩ (.int .i64 0)).setCell ⟨rf, 6, none⟩ (.int .i64 0)).setCell ⟨rf, 7, none⟩ (.bool false)).setCell ⟨rf, 8, none⟩ (.int .i64 0)).setCell ⟨rf, 9, none⟩ (.slice none 0 0)).setCell ⟨rf, 10, none⟩ (.int .i64 0)).setCell ⟨rf, 11, none⟩ (.int .i64 0)).setCell ⟨rf, 12, none⟩ (.string ⟨#[]⟩)) rf 33 #[.int .i64 0, .int .i64 0, .int .i64 0, .string ⟨#[]⟩, .bool false, .int .i64 0, .int .i64 0, .bool false, .int .i64 0, .slice none 0 0, .int .i64 0, .int .i64 0, .string ⟨#[]⟩] := ((((((((((((((HZ6.out.set 0 (.int .i64 0) rfl).set 1 (.int .i64 0) rfl).set 2 (.int .i64 0) rfl).set 3 (.string ⟨#[]⟩) rfl).set 4 (.bool false) rfl).set 5 (.int .i64 0) rfl).set 6 (.int .i64 0) rfl).set 7 (.bool false) rfl).set 8 (.int .i64 0) rfl).set 9 (.slice none 0 0) rfl).set 10 (.int .i64 0) rfl).set 11 (.int .i64 0) rfl).set 12 (.string ⟨#[]⟩) rfl)).same rfl
    have hO7 : Only [] w (((((((((((((w6.setCell ⟨rf, 0, none⟩ (.int .i64 0)).setCell ⟨rf, 1, none⟩ (.int .i64 0)).setCell ⟨rf, 2, none⟩ (.int .i64 0)).setCell ⟨rf, 3, none⟩ (.string ⟨#[]⟩)).setCell ⟨rf, 4, none⟩ (.bool false)).setCell ⟨rf, 5, none⟩ (.int .i64 0)).setCell ⟨rf, 6, none⟩ (.int .i64 0)).setCell ⟨rf, 7, none⟩ (.bool false)).setCell ⟨rf, 8, none⟩ (.int .i64 0)).setCell ⟨rf, 9, none⟩ (.slice none 0 0)).setCell ⟨rf, 10, none⟩ (.int .i64 0)).setCell ⟨rf, 11, none⟩ (.int .i64 0)).setCell ⟨rf, 12, none⟩ (.string ⟨#[]⟩)) := (((((((((((((HO6.out.putn (g := rf) (i := 0) (HN1.out.2) (.int .i64 0)).putn (g := rf) (i := 1) (HN1.out.2) (.int .i64 0)).putn (g := rf) (i := 2) (HN1.out.2) (.int .i64 0)).putn (g := rf) (i := 3) (HN1.out.2) (.string ⟨#[]⟩)).putn (g := rf) (i := 4) (HN1.out.2) (.bool false)).putn (g := rf) (i := 5) (HN1.out.2) (.int .i64 0)).putn (g := rf) (i := 6) (HN1.out.2) (.int .i64 0)).putn (g := rf) (i := 7) (HN1.out.2) (.bool false)).putn (g := rf) (i := 8) (HN1.out.2) (.int .i64 0)).putn (g := rf) (i := 9) (HN1.out.2) (.slice none 0 0)).putn (g := rf) (i := 10) (HN1.out.2) (.int .i64 0)).putn (g := rf) (i := 11) (HN1.out.2) (.int .i64 0)).putn (g := rf) (i := 12) (HN1.out.2) (.string ⟨#[]⟩))
    generalize (((((((((((((w6.setCell ⟨rf, 0, none⟩ (.int .i64 0)).setCell ⟨rf, 1, none⟩ (.int .i64 0)).setCell ⟨rf, 2, none⟩ (.int .i64 0)).setCell ⟨rf, 3, none⟩ (.string ⟨#[]⟩)).setCell ⟨rf, 4, none⟩ (.bool false)).setCell ⟨rf, 5, none⟩ (.int .i64 0)).setCell ⟨rf, 6, none⟩ (.int .i64 0)).setCell ⟨rf, 7, none⟩ (.bool false)).setCell ⟨rf, 8, none⟩ (.int .i64 0)).setCell ⟨rf, 9, none⟩ (.slice none 0 0)).setCell ⟨rf, 10, none⟩ (.int .i64 0)).setCell ⟨rf, 11, none⟩ (.int .i64 0)).setCell ⟨rf, 12, none⟩ (.string ⟨#[]⟩)) = w7 at hA7 hO7 ⊢
    have y0 : w7.cell? ⟨rf, 0, none⟩ = some (.int .i64 0) := hA7.cell 0 rfl
    have y1 : w7.cell? ⟨rf, 1, none⟩ = some (.int .i64 0) := hA7.cell 1 rfl
    have y2 : w7.cell? ⟨rf, 2, none⟩ = some (.int .i64 0) := hA7.cell 2 rfl
    have y3 : w7.cell? ⟨rf, 3, none⟩ = some (.string ⟨#[]⟩) := hA7.cell 3 rfl
    have y4 : w7.cell? ⟨rf, 4, none⟩ = some (.bool false) := hA7.cell 4 rfl
    have y5 : w7.cell? ⟨rf, 5, none⟩ = some (.int .i64 0) := hA7.cell 5 rfl
    have y6 : w7.cell? ⟨rf, 6, none⟩ = some (.int .i64 0) := hA7.cell 6 rfl
    have y7 : w7.cell? ⟨rf, 7, none⟩ = some (.bool false) := hA7.cell 7 rfl
    have y8 : w7.cell? ⟨rf, 8, none⟩ = some (.int .i64 0) := hA7.cell 8 rfl
    have y9 : w7.cell? ⟨rf, 9, none⟩ = some (.slice none 0 0) := hA7.cell 9 rfl
    have y10 : w7.cell? ⟨rf, 10, none⟩ = some (.int .i64 0) := hA7.cell 10 rfl
    have y11 : w7.cell? ⟨rf, 11, none⟩ = some (.int .i64 0) := hA7.cell 11 rfl
    have y12 : w7.cell? ⟨rf, 12, none⟩ = some (.string ⟨#[]⟩) := hA7.cell 12 rfl
    refine ⟨rfl, .tuple #[.agg #[.int .i64 0, .int .i64 0, .int .i64 0, .string ⟨#[]⟩, .bool false, .int .i64 0, .int .i64 0, .bool false, .int .i64 0, .slice none 0 0, .int .i64 0, .int .i64 0, .string ⟨#[]⟩], .int .i64 0, .int .i64 90], ?_, hO7, rfl⟩
    simp [results, Tryd.f19, go_sem, y0, y1, y2, y3, y4, y5, y6, y7, y8, y9, y10, y11, y12]
  | some z =>
    obtain ⟨f, l⟩ := z
    have hg := guard_true w5 (fun w' => Only [rb, b] w5 w' ∧ ∃ rv', FrAt w' b f rv' ∧ FrOk w' f rv' ∧ RgNew w5.heap.size rv' ∧ ∃ a', a' ≤ s.size ∧ l = s.data.toList.drop a' ∧ RdAt w' rb s a') ent_decode (hdin.mono fun e w' h => ⟨h.2.1, h.1, h.2.2⟩)
    clear hdin
    go_wp2_with fail
    refine hg.mono ?_
    rintro e w6 ⟨rfl, ho6, rv', hB6, hK6, hn6, a', ha', rfl, hR6⟩
    have hZ6 := HZ5.out.keep ho6 HZt.out
    have hQ6 := HQ5.out.keep ho6 HQt.out
    have HO6 : Hid (Only [] w w6) := Lib.hid (HX.out _ ho6)
    have HB6 := Lib.hid hB6
    have HR6 := Lib.hid hR6
    have HZ6 := Lib.hid hZ6
    have HQ6 := Lib.hid hQ6
    have HK6 := Lib.hid hK6
    have HN6 := Lib.hid hn6
    have HZl : Hid (rf < w5.heap.size) := Lib.hid (At.lt HZ5.out)
    obtain ⟨a9, cap9, rfl, h9x⟩ := hK6.rg
    clear h9x hn6 hZ6 hQ6 hB6 hR6 hK6 ho6
    go_upto_region 12 with fail
    have hbl6 : b < w6.drew.heap.size := At.lt HB6.out
    have hql6 : q < w6.drew.heap.size := At.lt HQ6.out
    have hrl6 : rb < w6.drew.heap.size := At.lt HR6.out
    have hbn6 : b ∉ [rf] := by have := HN1.out; simp; omega
    have hqn6 : q ∉ [rf] := by have := HN1.out; have := HN2.out; simp; omega
    have hrn6 : rb ∉ [rf] := by have := HN1.out; have := HN2.out; simp; omega
    have xq : w6.drew.cell? ⟨q, 0, none⟩ = some (.pointer (some ⟨rb, 0, none⟩)) := HQ6.out.cell 0 rfl
    have xr : w6.drew.cell? ⟨rb, 1, none⟩ = some (.int .i64 ((a' : Nat) : Int)) := At.cell HR6.out 1 rfl
    have x0 : w6.drew.cell? ⟨b, 0, none⟩ = some (.int .i64 f.ty) := At.cell HB6.out 0 rfl
    have x1 : w6.drew.cell? ⟨b, 1, none⟩ = some (.int .i64 f.st) := At.cell HB6.out 1 rfl
    have x2 : w6.drew.cell? ⟨b, 2, none⟩ = some (.int .i64 f.off) := At.cell HB6.out 2 rfl
    have x3 : w6.drew.cell? ⟨b, 3, none⟩ = some (.string (strB f.S)) := At.cell HB6.out 3 rfl
    have x4 : w6.drew.cell? ⟨b, 4, none⟩ = some (.bool f.fin) := At.cell HB6.out 4 rfl
    have x5 : w6.drew.cell? ⟨b, 5, none⟩ = some (.int .i64 f.mx) := At.cell HB6.out 5 rfl
    have x6 : w6.drew.cell? ⟨b, 6, none⟩ = some (.int .i64 f.cd) := At.cell HB6.out 6 rfl
    have x7 : w6.drew.cell? ⟨b, 7, none⟩ = some (.bool f.uni) := At.cell HB6.out 7 rfl
    have x8 : w6.drew.cell? ⟨b, 8, none⟩ = some (.int .i64 f.dl) := At.cell HB6.out 8 rfl
    have x9 : w6.drew.cell? ⟨b, 9, none⟩ = some (.slice a9 f.rg.length cap9) := At.cell HB6.out 9 rfl
    have x10 : w6.drew.cell? ⟨b, 10, none⟩ = some (.int .i64 f.sq) := At.cell HB6.out 10 rfl
    have x11 : w6.drew.cell? ⟨b, 11, none⟩ = some (.int .i64 f.rt) := At.cell HB6.out 11 rfl
    have x12 : w6.drew.cell? ⟨b, 12, none⟩ = some (.string (strB f.cid)) := At.cell HB6.out 12 rfl
    refine wp_region_held_drew (S := fun w' => Only [rf] w6.drew w') (by kernel_rfl) (by exact Only.refl _ _) (fun hHeld => ?_)
    refine wpAnyH_take (i := 0) (v := ?_) rfl (by kernel_rfl) (by kernel_rfl) (by kernel_rfl) (fun _ _ _ h => h) (Or.inl ⟨by kernel_rfl, ?_⟩) (by assumption) ?_
    rotate_left
    · intro wS hSw
      have e0 := (hSw.cell (p := ⟨b, 0, none⟩) hbl6 hbn6).trans x0
      have e1 := (hSw.cell (p := ⟨b, 1, none⟩) hbl6 hbn6).trans x1
      have e2 := (hSw.cell (p := ⟨b, 2, none⟩) hbl6 hbn6).trans x2
      have e3 := (hSw.cell (p := ⟨b, 3, none⟩) hbl6 hbn6).trans x3
      have e4 := (hSw.cell (p := ⟨b, 4, none⟩) hbl6 hbn6).trans x4
      have e5 := (hSw.cell (p := ⟨b, 5, none⟩) hbl6 hbn6).trans x5
      have e6 := (hSw.cell (p := ⟨b, 6, none⟩) hbl6 hbn6).trans x6
      have e7 := (hSw.cell (p := ⟨b, 7, none⟩) hbl6 hbn6).trans x7
      have e8 := (hSw.cell (p := ⟨b, 8, none⟩) hbl6 hbn6).trans x8
      have e9 := (hSw.cell (p := ⟨b, 9, none⟩) hbl6 hbn6).trans x9
      have e10 := (hSw.cell (p := ⟨b, 10, none⟩) hbl6 hbn6).trans x10
      have e11 := (hSw.cell (p := ⟨b, 11, none⟩) hbl6 hbn6).trans x11
      have e12 := (hSw.cell (p := ⟨b, 12, none⟩) hbl6 hbn6).trans x12
      go_simp
      try with_reducible rfl
    simp only [List.getElem_toArray, List.getElem_cons_succ, List.getElem_cons_zero, Act.put, List.setIfInBounds_toArray, List.set_cons_zero, List.set_cons_succ]
    refine wpAnyH_take (i := 1) (v := ?_) rfl (by kernel_rfl) (by kernel_rfl) (by kernel_rfl) (fun _ _ _ h => h) (Or.inl ⟨by kernel_rfl, ?_⟩) (by assumption) ?_
    rotate_left
    · intro wS hSw
      have e0 := (hSw.cell (p := ⟨q, 0, none⟩) hql6 hqn6).trans xq
      go_simp
      try with_reducible rfl
    simp only [List.getElem_toArray, List.getElem_cons_succ, List.getElem_cons_zero, Act.put, List.setIfInBounds_toArray, List.set_cons_zero, List.set_cons_succ]
    refine wpAnyH_take (i := 2) (v := ?_) rfl (by kernel_rfl) (by kernel_rfl) (by kernel_rfl) (fun _ _ _ h => h) (Or.inl ⟨by kernel_rfl, ?_⟩) (by assumption) ?_
    rotate_left
    · intro wS hSw
      go_simp
      try with_reducible rfl
    simp only [List.getElem_toArray, List.getElem_cons_succ, List.getElem_cons_zero, Act.put, List.setIfInBounds_toArray, List.set_cons_zero, List.set_cons_succ]
    refine wpAnyH_take (i := 3) (v := ?_) rfl (by kernel_rfl) (by kernel_rfl) (by kernel_rfl) (fun _ _ _ h => h) (Or.inl ⟨by kernel_rfl, ?_⟩) (by assumption) ?_
    rotate_left
    · intro wS hSw
      go_simp
      try with_reducible rfl
    simp only [List.getElem_toArray, List.getElem_cons_succ, List.getElem_cons_zero, Act.put, List.setIfInBounds_toArray, List.set_cons_zero, List.set_cons_succ]
    refine wpAnyH_take (i := 4) (v := ?_) rfl (by kernel_rfl) (by kernel_rfl) (by kernel_rfl) (fun _ _ _ h => h) (Or.inl ⟨by kernel_rfl, ?_⟩) (by assumption) ?_
    rotate_left
    · intro wS hSw
      have e0 := (hSw.cell (p := ⟨rb, 1, none⟩) hrl6 hrn6).trans xr
      go_simp
      try with_reducible rfl
    simp only [List.getElem_toArray, List.getElem_cons_succ, List.getElem_cons_zero, Act.put, List.setIfInBounds_toArray, List.set_cons_zero, List.set_cons_succ]
    have z0 : w6.cell? ⟨rf, 0, none⟩ = some (.int .i64 0) := HZ6.out.cell 0 rfl
    have z1 : w6.cell? ⟨rf, 1, none⟩ = some (.int .i64 0) := HZ6.out.cell 1 rfl
    have z2 : w6.cell? ⟨rf, 2, none⟩ = some (.int .i64 0) := HZ6.out.cell 2 rfl
    have z3 : w6.cell? ⟨rf, 3, none⟩ = some (.string ⟨#[]⟩) := HZ6.out.cell 3 rfl
    have z4 : w6.cell? ⟨rf, 4, none⟩ = some (.bool false) := HZ6.out.cell 4 rfl
    have z5 : w6.cell? ⟨rf, 5, none⟩ = some (.int .i64 0) := HZ6.out.cell 5 rfl
    have z6 : w6.cell? ⟨rf, 6, none⟩ = some (.int .i64 0) := HZ6.out.cell 6 rfl
    have z7 : w6.cell? ⟨rf, 7, none⟩ = some (.bool false) := HZ6.out.cell 7 rfl
    have z8 : w6.cell? ⟨rf, 8, none⟩ = some (.int .i64 0) := HZ6.out.cell 8 rfl
    have z9 : w6.cell? ⟨rf, 9, none⟩ = some (.slice none 0 0) := HZ6.out.cell 9 rfl
    have z10 : w6.cell? ⟨rf, 10, none⟩ = some (.int .i64 0) := HZ6.out.cell 10 rfl
    have z11 : w6.cell? ⟨rf, 11, none⟩ = some (.int .i64 0) := HZ6.out.cell 11 rfl
    have z12 : w6.cell? ⟨rf, 12, none⟩ = some (.string ⟨#[]⟩) := HZ6.out.cell 12 rfl
    have hfz : ∀ i, w6.frozen? ⟨rf, i, none⟩ = false := fun i => HZ6.out.free i
    refine wpAnyH_ready (rs := [5]) (by kernel_rfl) (by simp) ?_
    refine AllReadyH.cons rfl (fun K hK => ?_) AllReadyH.nil
    go_simp
    have hO8 : Only [rf] w6 (((((((((((((w6.setCell ⟨rf, 0, none⟩ (.int .i64 f.ty)).setCell ⟨rf, 1, none⟩ (.int .i64 f.st)).setCell ⟨rf, 2, none⟩ (.int .i64 f.off)).setCell ⟨rf, 3, none⟩ (.string (strB f.S))).setCell ⟨rf, 4, none⟩ (.bool f.fin)).setCell ⟨rf, 5, none⟩ (.int .i64 f.mx)).setCell ⟨rf, 6, none⟩ (.int .i64 f.cd)).setCell ⟨rf, 7, none⟩ (.bool f.uni)).setCell ⟨rf, 8, none⟩ (.int .i64 f.dl)).setCell ⟨rf, 9, none⟩ (.slice a9 f.rg.length cap9)).setCell ⟨rf, 10, none⟩ (.int .i64 f.sq)).setCell ⟨rf, 11, none⟩ (.int .i64 f.rt)).setCell ⟨rf, 12, none⟩ (.string (strB f.cid))) := ((((((((((((((Only.refl [rf] w6).put (g := rf) (i := 0) (by simp) (.int .i64 f.ty)).put (g := rf) (i := 1) (by simp) (.int .i64 f.st)).put (g := rf) (i := 2) (by simp) (.int .i64 f.off)).put (g := rf) (i := 3) (by simp) (.string (strB f.S))).put (g := rf) (i := 4) (by simp) (.bool f.fin)).put (g := rf) (i := 5) (by simp) (.int .i64 f.mx)).put (g := rf) (i := 6) (by simp) (.int .i64 f.cd)).put (g := rf) (i := 7) (by simp) (.bool f.uni)).put (g := rf) (i := 8) (by simp) (.int .i64 f.dl)).put (g := rf) (i := 9) (by simp) (.slice a9 f.rg.length cap9)).put (g := rf) (i := 10) (by simp) (.int .i64 f.sq)).put (g := rf) (i := 11) (by simp) (.int .i64 f.rt)).put (g := rf) (i := 12) (by simp) (.string (strB f.cid)))
    have hA8 : At (((((((((((((w6.setCell ⟨rf, 0, none⟩ (.int .i64 f.ty)).setCell ⟨rf, 1, none⟩ (.int .i64 f.st)).setCell ⟨rf, 2, none⟩ (.int .i64 f.off)).setCell ⟨rf, 3, none⟩ (.string (strB f.S))).setCell ⟨rf, 4, none⟩ (.bool f.fin)).setCell ⟨rf, 5, none⟩ (.int .i64 f.mx)).setCell ⟨rf, 6, none⟩ (.int .i64 f.cd)).setCell ⟨rf, 7, none⟩ (.bool f.uni)).setCell ⟨rf, 8, none⟩ (.int .i64 f.dl)).setCell ⟨rf, 9, none⟩ (.slice a9 f.rg.length cap9)).setCell ⟨rf, 10, none⟩ (.int .i64 f.sq)).setCell ⟨rf, 11, none⟩ (.int .i64 f.rt)).setCell ⟨rf, 12, none⟩ (.string (strB f.cid))) rf 33 (frC f (.slice a9 f.rg.length cap9)) := (((((((((((((HZ6.out.set 0 (.int .i64 f.ty) rfl).set 1 (.int .i64 f.st) rfl).set 2 (.int .i64 f.off) rfl).set 3 (.string (strB f.S)) rfl).set 4 (.bool f.fin) rfl).set 5 (.int .i64 f.mx) rfl).set 6 (.int .i64 f.cd) rfl).set 7 (.bool f.uni) rfl).set 8 (.int .i64 f.dl) rfl).set 9 (.slice a9 f.rg.length cap9) rfl).set 10 (.int .i64 f.sq) rfl).set 11 (.int .i64 f.rt) rfl).set 12 (.string (strB f.cid)) rfl).same (by simp only [List.setIfInBounds_toArray, List.set_cons_zero, List.set_cons_succ, frC])
    generalize (((((((((((((w6.setCell ⟨rf, 0, none⟩ (.int .i64 f.ty)).setCell ⟨rf, 1, none⟩ (.int .i64 f.st)).setCell ⟨rf, 2, none⟩ (.int .i64 f.off)).setCell ⟨rf, 3, none⟩ (.string (strB f.S))).setCell ⟨rf, 4, none⟩ (.bool f.fin)).setCell ⟨rf, 5, none⟩ (.int .i64 f.mx)).setCell ⟨rf, 6, none⟩ (.int .i64 f.cd)).setCell ⟨rf, 7, none⟩ (.bool f.uni)).setCell ⟨rf, 8, none⟩ (.int .i64 f.dl)).setCell ⟨rf, 9, none⟩ (.slice a9 f.rg.length cap9)).setCell ⟨rf, 10, none⟩ (.int .i64 f.sq)).setCell ⟨rf, 11, none⟩ (.int .i64 f.rt)).setCell ⟨rf, 12, none⟩ (.string (strB f.cid))) = w8 at hO8 hA8 ⊢
    have hHeld2 : Only [rf] w6.drew w8.drew := ⟨hO8.os, hO8.tape, hO8.output, hO8.size, hO8.block⟩
    refine hK.out _ _ hHeld2 (fun hHeld' => ?_)
    clear hHeld hK K hHeld'
    have hHeld := hHeld2
    clear hHeld2
    refine wpAnyH_take (i := 6) (v := ?_) rfl (by kernel_rfl) (by kernel_rfl) (by kernel_rfl) (fun _ _ _ h => h) (Or.inl ⟨by kernel_rfl, ?_⟩) (by assumption) ?_
    rotate_left
    · intro wS hSw
      go_simp
      try with_reducible rfl
    simp only [List.getElem_toArray, List.getElem_cons_succ, List.getElem_cons_zero, Act.put, List.setIfInBounds_toArray, List.set_cons_zero, List.set_cons_succ]
    refine wpAnyH_take (i := 7) (v := ?_) rfl (by kernel_rfl) (by kernel_rfl) (by kernel_rfl) (fun _ _ _ h => h) (Or.inl ⟨by kernel_rfl, ?_⟩) (by assumption) ?_
    rotate_left
    · intro wS hSw
      go_simp
      try with_reducible rfl
    simp only [List.getElem_toArray, List.getElem_cons_succ, List.getElem_cons_zero, Act.put, List.setIfInBounds_toArray, List.set_cons_zero, List.set_cons_succ]
    refine wpAnyH_done (by kernel_rfl) ?_ _
    have hO9 : Only [] w w8.drew := Only.drew ⟨hO8.os.trans HO6.out.os, hO8.tape.trans HO6.out.tape, hO8.output.trans HO6.out.output, Nat.le_trans HO6.out.size hO8.size, fun i hi hn => (hO8.block i (Nat.lt_of_lt_of_le hi HO6.out.size) (by have := HN1.out; simp; omega)).trans (HO6.out.block i hi hn)⟩
    have hok : FrOk w8.drew f (.slice a9 f.rg.length cap9) := ⟨HK6.out.wf, HK6.out.ty, HK6.out.rg.keepN (S := [rf]) hO8.drew (fun g n c e hm => by
      have h1 := HN6.out g n c e
      have h2 := HZl.out
      have h3 := List.mem_singleton.1 hm
      omega), HK6.out.sz⟩
    have hA9 : At w8.drew rf 33 (frC f (.slice a9 f.rg.length cap9)) := hA8
    have y0 : w8.drew.cell? ⟨rf, 0, none⟩ = some (.int .i64 f.ty) := hA9.cell 0 rfl
    have y1 : w8.drew.cell? ⟨rf, 1, none⟩ = some (.int .i64 f.st) := hA9.cell 1 rfl
    have y2 : w8.drew.cell? ⟨rf, 2, none⟩ = some (.int .i64 f.off) := hA9.cell 2 rfl
    have y3 : w8.drew.cell? ⟨rf, 3, none⟩ = some (.string (strB f.S)) := hA9.cell 3 rfl
    have y4 : w8.drew.cell? ⟨rf, 4, none⟩ = some (.bool f.fin) := hA9.cell 4 rfl
    have y5 : w8.drew.cell? ⟨rf, 5, none⟩ = some (.int .i64 f.mx) := hA9.cell 5 rfl
    have y6 : w8.drew.cell? ⟨rf, 6, none⟩ = some (.int .i64 f.cd) := hA9.cell 6 rfl
    have y7 : w8.drew.cell? ⟨rf, 7, none⟩ = some (.bool f.uni) := hA9.cell 7 rfl
    have y8 : w8.drew.cell? ⟨rf, 8, none⟩ = some (.int .i64 f.dl) := hA9.cell 8 rfl
    have y9 : w8.drew.cell? ⟨rf, 9, none⟩ = some (.slice a9 f.rg.length cap9) := hA9.cell 9 rfl
    have y10 : w8.drew.cell? ⟨rf, 10, none⟩ = some (.int .i64 f.sq) := hA9.cell 10 rfl
    have y11 : w8.drew.cell? ⟨rf, 11, none⟩ = some (.int .i64 f.rt) := hA9.cell 11 rfl
    have y12 : w8.drew.cell? ⟨rf, 12, none⟩ = some (.string (strB f.cid)) := hA9.cell 12 rfl
    clear hO8 hA8 hHeld
    go_wp2_with fail
    refine ⟨rfl, .tuple #[.agg (frC f (.slice a9 f.rg.length cap9)), .int .i64 ((a' : Nat) : Int), .int .i64 0], ?_, hO9, _, a', rfl, hok, HN6.out.low (by have h1 := HN1.out; have h2 := HZl.out; omega), ha', rfl⟩
    simp [results, Tryd.f19, go_sem, frC, y0, y1, y2, y3, y4, y5, y6, y7, y8, y9, y10, y11, y12]
set_option maxRecDepth 100000 in
set_option maxHeartbeats 4000000 in
theorem decode_x (s : ByteArray) (a : Nat) (h : a < s.size) (hs : s.size ≤ 4611686018427387903) (x : UInt8) (hx : s[a] = x) (h9 : ¬ x.toNat = 9) (w : World) :
    Calls Tryd.prog 19 #[.string s, .int .i64 a] w (DecQ (decF (s.data.toList.drop a)) s w) := by
  have h0 : ¬ (a : Int) < 0 := by omega
  have h1 : ¬ (s.size : Int) < a := by omega
  have h1' : (a : Int) < s.size := by omega
  have h2 : ¬ (a : Int) = s.size := by omega
  have h2' : ((a : Int) == s.size) = false := beq_eq_false_iff_ne.2 h2
  have f2 : IntKind.i64.wrap ((a : Int) + 1) = ((a + 1 : Nat) : Int) := by rw [show (a : Int) + 1 = ((a + 1 : Nat) : Int) by omega]; exact IntWalk.i64_in _ (by omega)
  have hx4 := x.toNat_lt
  have hx9 : ((x.toNat : Int) == 9) = false := beq_eq_false_iff_ne.2 (by omega)
  have f3 : IntKind.i64.wrap (x.toNat : Int) = (x.toNat : Int) := IntWalk.i64_in _ (by omega)
  have HDF : Hid (decF (s.data.toList.drop a) = rdF (headF x) (s.data.toList.drop (a + 1))) := Lib.hid (by
    rw [List.drop_eq_getElem_cons (by rw [size_list]; omega), ← get_list s a h, hx]; rfl)
  obtain ⟨R, hR0⟩ : ∃ R, decF (s.data.toList.drop a) = R := ⟨_, rfl⟩
  rw [hR0]
  have HRR : Hid (rdF (headF x) (s.data.toList.drop (a + 1)) = R) := Lib.hid (HDF.out.symm.trans hR0)
  clear hR0 HDF
  go_enter Tryd.func19, Tryd.ntmps19
  go_upto_region 6 with fail
  have hZ1 := At.new w 33 #[.int .i64 0, .int .i64 0, .int .i64 0, .string ⟨#[]⟩, .bool false, .int .i64 0, .int .i64 0, .bool false, .int .i64 0, .slice none 0 0, .int .i64 0, .int .i64 0, .string ⟨#[]⟩]
  have hsz1 : (w.alloc (.cells #[.int .i64 0, .int .i64 0, .int .i64 0, .string ⟨#[]⟩, .bool false, .int .i64 0, .int .i64 0, .bool false, .int .i64 0, .slice none 0 0, .int .i64 0, .int .i64 0, .string ⟨#[]⟩] 33)).heap.size = w.heap.size + 1 := by simp
  have hZ2 := hZ1.alloc (.cells #[.int .i64 (x.toNat : Int), .int .i64 0, .int .i64 0, .string ⟨#[]⟩, .bool false, .int .i64 0, .int .i64 0, .bool false, .int .i64 0, .slice none 0 0, .int .i64 0, .int .i64 0, .string ⟨#[]⟩] 33)
  have hB2 := At.new (w.alloc (.cells #[.int .i64 0, .int .i64 0, .int .i64 0, .string ⟨#[]⟩, .bool false, .int .i64 0, .int .i64 0, .bool false, .int .i64 0, .slice none 0 0, .int .i64 0, .int .i64 0, .string ⟨#[]⟩] 33)) 33 #[.int .i64 (x.toNat : Int), .int .i64 0, .int .i64 0, .string ⟨#[]⟩, .bool false, .int .i64 0, .int .i64 0, .bool false, .int .i64 0, .slice none 0 0, .int .i64 0, .int .i64 0, .string ⟨#[]⟩]
  have hO2 := ((Only.refl [] w).alloc (.cells #[.int .i64 0, .int .i64 0, .int .i64 0, .string ⟨#[]⟩, .bool false, .int .i64 0, .int .i64 0, .bool false, .int .i64 0, .slice none 0 0, .int .i64 0, .int .i64 0, .string ⟨#[]⟩] 33)).alloc (.cells #[.int .i64 (x.toNat : Int), .int .i64 0, .int .i64 0, .string ⟨#[]⟩, .bool false, .int .i64 0, .int .i64 0, .bool false, .int .i64 0, .slice none 0 0, .int .i64 0, .int .i64 0, .string ⟨#[]⟩] 33)
  rw [hsz1] at hB2
  generalize (w.alloc (.cells #[.int .i64 0, .int .i64 0, .int .i64 0, .string ⟨#[]⟩, .bool false, .int .i64 0, .int .i64 0, .bool false, .int .i64 0, .slice none 0 0, .int .i64 0, .int .i64 0, .string ⟨#[]⟩] 33)).alloc (.cells #[.int .i64 (x.toNat : Int), .int .i64 0, .int .i64 0, .string ⟨#[]⟩, .bool false, .int .i64 0, .int .i64 0, .bool false, .int .i64 0, .slice none 0 0, .int .i64 0, .int .i64 0, .string ⟨#[]⟩] 33) = w2 at *
  obtain ⟨rf, hrf⟩ : ∃ rf, w.heap.size = rf := ⟨_, rfl⟩
  rw [hrf] at hZ1 hZ2 hB2 ⊢
  obtain ⟨b, hb⟩ : ∃ b, rf + 1 = b := ⟨_, rfl⟩
  rw [hb] at hB2 ⊢
  have HN1 : Hid (rf < b ∧ w.heap.size ≤ rf) := Lib.hid ⟨by omega, by omega⟩
  have c0 : w2.cell? ⟨b, 0, none⟩ = some (.int .i64 (x.toNat : Int)) := hB2.cell 0 rfl
  have HZ2 := Lib.hid hZ2
  have HB2 := Lib.hid hB2
  have HO2 := Lib.hid hO2
  clear hZ1 hsz1
  clear hZ2 hB2 hO2 hrf hb
  go_upto_region 8 with fail
  have hB3 : FrAt w2 b (headF x) (.slice none 0 0) := HB2.out.same (by unfold headF; rw [if_neg h9]; rfl)
  have hZ3 := HZ2.out
  have hO3 := HO2.out
  clear c0 HZ2 HB2 HO2
  generalize w2 = w3 at hB3 hZ3 hO3 ⊢
  go_upto_region 9 with fail
  obtain ⟨rb, hrb⟩ : ∃ rb, w3.heap.size = rb := ⟨_, rfl⟩
  obtain ⟨q, hq⟩ : ∃ q, rb + 1 = q := ⟨_, rfl⟩
  have hR4 := At.new w3 72 #[.string s, .int .i64 ((a : Int) + 1)]
  have hsz4 : (w3.alloc (.cells #[.string s, .int .i64 ((a : Int) + 1)] 72)).heap.size = w3.heap.size + 1 := by simp
  have hQ5 := At.new (w3.alloc (.cells #[.string s, .int .i64 ((a : Int) + 1)] 72)) 70 #[.pointer (some ⟨w3.heap.size, 0, none⟩)]
  rw [hsz4] at hQ5
  have hR5 := hR4.alloc (.cells #[.pointer (some ⟨w3.heap.size, 0, none⟩)] 70)
  have hB5 := (At.alloc hB3 (.cells #[.string s, .int .i64 ((a : Int) + 1)] 72)).alloc (.cells #[.pointer (some ⟨w3.heap.size, 0, none⟩)] 70)
  have hZ5 := (hZ3.alloc (.cells #[.string s, .int .i64 ((a : Int) + 1)] 72)).alloc (.cells #[.pointer (some ⟨w3.heap.size, 0, none⟩)] 70)
  have hO5 := (hO3.alloc (.cells #[.string s, .int .i64 ((a : Int) + 1)] 72)).alloc (.cells #[.pointer (some ⟨w3.heap.size, 0, none⟩)] 70)
  have hl3 := At.lt hB3
  have hr3 := hO3.size
  clear hR4 hsz4 hO3 hZ3 hB3
  rw [hrb] at hQ5 hR5 hB5 hZ5 hO5 hl3 hr3 ⊢
  rw [hq] at hQ5 ⊢
  generalize (w3.alloc (.cells #[.string s, .int .i64 ((a : Int) + 1)] 72)).alloc (.cells #[.pointer (some ⟨rb, 0, none⟩)] 70) = w5 at hQ5 hR5 hB5 hZ5 hO5 ⊢
  have HN2 : Hid (b < rb ∧ rb < q) := Lib.hid ⟨hl3, by omega⟩
  have hR5' : RdAt w5 rb s (a + 1) := At.same hR5 rfl
  have hdin := decode_in b q rb (by omega) (headF x) s (a + 1) w5 hs (by omega) hB5 (head_wf x).1 (head_wf x).2.1 (head_wf x).2.2 hR5' hQ5
  have HZ5 := Lib.hid hZ5
  have HQ5 := Lib.hid hQ5
  have HO5 := Lib.hid hO5
  have HQt : Hid (q ∉ [rb, b]) := Lib.hid (by simp; omega)
  have HZt : Hid (rf ∉ [rb, b]) := Lib.hid (by have := HN1.out; simp; omega)
  have HX : Hid (∀ W', Only [rb, b] w5 W' → Only [] w W') := Lib.hid (fun W' h => ⟨h.os.trans hO5.os, h.tape.trans hO5.tape, h.output.trans hO5.output, Nat.le_trans hO5.size h.size, fun i hi hn => (h.block i (Nat.lt_of_lt_of_le hi hO5.size) (by have := HN1.out; simp; omega)).trans (hO5.block i hi hn)⟩)
  clear hR5 hR5' hB5 hZ5 hO5 hQ5 hl3 hr3 hrb hq
  rw [HRR.out] at hdin
  clear HRR
  cases R with
  | none =>
    have hg := guard_false w5 (fun w' => Only [rb, b] w5 w') (fun A B h k => h.trans (k.mono (by simp))) ent_decode (hdin.mono fun e w' h => ⟨h.2, h.1⟩)
    clear hdin
    go_wp2_with fail
    refine hg.mono ?_
    rintro e w6 ⟨rfl, ho6⟩
    have hZ6 := HZ5.out.keep ho6 HZt.out
    have HO6 : Hid (Only [] w w6) := Lib.hid (HX.out _ ho6)
    have z0 : w6.cell? ⟨rf, 0, none⟩ = some (.int .i64 0) := hZ6.cell 0 rfl
    have z1 : w6.cell? ⟨rf, 1, none⟩ = some (.int .i64 0) := hZ6.cell 1 rfl
    have z2 : w6.cell? ⟨rf, 2, none⟩ = some (.int .i64 0) := hZ6.cell 2 rfl
    have z3 : w6.cell? ⟨rf, 3, none⟩ = some (.string ⟨#[]⟩) := hZ6.cell 3 rfl
    have z4 : w6.cell? ⟨rf, 4, none⟩ = some (.bool false) := hZ6.cell 4 rfl
    have z5 : w6.cell? ⟨rf, 5, none⟩ = some (.int .i64 0) := hZ6.cell 5 rfl
    have z6 : w6.cell? ⟨rf, 6, none⟩ = some (.int .i64 0) := hZ6.cell 6 rfl
    have z7 : w6.cell? ⟨rf, 7, none⟩ = some (.bool false) := hZ6.cell 7 rfl
    have z8 : w6.cell? ⟨rf, 8, none⟩ = some (.int .i64 0) := hZ6.cell 8 rfl
    have z9 : w6.cell? ⟨rf, 9, none⟩ = some (.slice none 0 0) := hZ6.cell 9 rfl
    have z10 : w6.cell? ⟨rf, 10, none⟩ = some (.int .i64 0) := hZ6.cell 10 rfl
    have z11 : w6.cell? ⟨rf, 11, none⟩ = some (.int .i64 0) := hZ6.cell 11 rfl
    have z12 : w6.cell? ⟨rf, 12, none⟩ = some (.string ⟨#[]⟩) := hZ6.cell 12 rfl
    have hfz := fun i => hZ6.free i
    have HZ6 := Lib.hid hZ6
    clear hZ6 ho6
    go_wp2_with fail
    have hA7 : At (((((((((((((w6.setCell ⟨rf, 0, none⟩ (.int .i64 0)).setCell ⟨rf, 1, none⟩ (.int .i64 0)).setCell ⟨rf, 2, none⟩ (.int .i64 0)).setCell ⟨rf, 3, none⟩ (.string ⟨#[]⟩)).setCell ⟨rf, 4, none⟩ (.bool false)).setCell ⟨rf, 5, none⟩ (.int .i64 0)).setCell ⟨rf, 6, none⟩ (.int .i64 0)).setCell ⟨rf, 7, none⟩ (.bool false)).setCell ⟨rf, 8, none⟩ (.int .i64 0)).setCell ⟨rf, 9, none⟩ (.slice none 0 0)).setCell ⟨rf, 10, none⟩ (.int .i64 0)).setCell ⟨rf, 11, none⟩ (.int .i64 0)).setCell ⟨rf, 12, none⟩ (.string ⟨#[]⟩)) rf 33 #[.int .i64 0, .int .i64 0, .int .i64 0, .string ⟨#[]⟩, .bool false, .int .i64 0, .int .i64 0, .bool false, .int .i64 0, .slice none 0 0, .int .i64 0, .int .i64 0, .string ⟨#[]⟩] := ((((((((((((((HZ6.out.set 0 (.int .i64 0) rfl).set 1 (.int .i64 0) rfl).set 2 (.int .i64 0) rfl).set 3 (.string ⟨#[]⟩) rfl).set 4 (.bool false) rfl).set 5 (.int .i64 0) rfl).set 6 (.int .i64 0) rfl).set 7 (.bool false) rfl).set 8 (.int .i64 0) rfl).set 9 (.slice none 0 0) rfl).set 10 (.int .i64 0) rfl).set 11 (.int .i64 0) rfl).set 12 (.string ⟨#[]⟩) rfl)).same rfl
    have hO7 : Only [] w (((((((((((((w6.setCell ⟨rf, 0, none⟩ (.int .i64 0)).setCell ⟨rf, 1, none⟩ (.int .i64 0)).setCell ⟨rf, 2, none⟩ (.int .i64 0)).setCell ⟨rf, 3, none⟩ (.string ⟨#[]⟩)).setCell ⟨rf, 4, none⟩ (.bool false)).setCell ⟨rf, 5, none⟩ (.int .i64 0)).setCell ⟨rf, 6, none⟩ (.int .i64 0)).setCell ⟨rf, 7, none⟩ (.bool false)).setCell ⟨rf, 8, none⟩ (.int .i64 0)).setCell ⟨rf, 9, none⟩ (.slice none 0 0)).setCell ⟨rf, 10, none⟩ (.int .i64 0)).setCell ⟨rf, 11, none⟩ (.int .i64 0)).setCell ⟨rf, 12, none⟩ (.string ⟨#[]⟩)) := (((((((((((((HO6.out.putn (g := rf) (i := 0) (HN1.out.2) (.int .i64 0)).putn (g := rf) (i := 1) (HN1.out.2) (.int .i64 0)).putn (g := rf) (i := 2) (HN1.out.2) (.int .i64 0)).putn (g := rf) (i := 3) (HN1.out.2) (.string ⟨#[]⟩)).putn (g := rf) (i := 4) (HN1.out.2) (.bool false)).putn (g := rf) (i := 5) (HN1.out.2) (.int .i64 0)).putn (g := rf) (i := 6) (HN1.out.2) (.int .i64 0)).putn (g := rf) (i := 7) (HN1.out.2) (.bool false)).putn (g := rf) (i := 8) (HN1.out.2) (.int .i64 0)).putn (g := rf) (i := 9) (HN1.out.2) (.slice none 0 0)).putn (g := rf) (i := 10) (HN1.out.2) (.int .i64 0)).putn (g := rf) (i := 11) (HN1.out.2) (.int .i64 0)).putn (g := rf) (i := 12) (HN1.out.2) (.string ⟨#[]⟩))
    generalize (((((((((((((w6.setCell ⟨rf, 0, none⟩ (.int .i64 0)).setCell ⟨rf, 1, none⟩ (.int .i64 0)).setCell ⟨rf, 2, none⟩ (.int .i64 0)).setCell ⟨rf, 3, none⟩ (.string ⟨#[]⟩)).setCell ⟨rf, 4, none⟩ (.bool false)).setCell ⟨rf, 5, none⟩ (.int .i64 0)).setCell ⟨rf, 6, none⟩ (.int .i64 0)).setCell ⟨rf, 7, none⟩ (.bool false)).setCell ⟨rf, 8, none⟩ (.int .i64 0)).setCell ⟨rf, 9, none⟩ (.slice none 0 0)).setCell ⟨rf, 10, none⟩ (.int .i64 0)).setCell ⟨rf, 11, none⟩ (.int .i64 0)).setCell ⟨rf, 12, none⟩ (.string ⟨#[]⟩)) = w7 at hA7 hO7 ⊢
    have y0 : w7.cell? ⟨rf, 0, none⟩ = some (.int .i64 0) := hA7.cell 0 rfl
    have y1 : w7.cell? ⟨rf, 1, none⟩ = some (.int .i64 0) := hA7.cell 1 rfl
    have y2 : w7.cell? ⟨rf, 2, none⟩ = some (.int .i64 0) := hA7.cell 2 rfl
    have y3 : w7.cell? ⟨rf, 3, none⟩ = some (.string ⟨#[]⟩) := hA7.cell 3 rfl
    have y4 : w7.cell? ⟨rf, 4, none⟩ = some (.bool false) := hA7.cell 4 rfl
    have y5 : w7.cell? ⟨rf, 5, none⟩ = some (.int .i64 0) := hA7.cell 5 rfl
    have y6 : w7.cell? ⟨rf, 6, none⟩ = some (.int .i64 0) := hA7.cell 6 rfl
    have y7 : w7.cell? ⟨rf, 7, none⟩ = some (.bool false) := hA7.cell 7 rfl
    have y8 : w7.cell? ⟨rf, 8, none⟩ = some (.int .i64 0) := hA7.cell 8 rfl
    have y9 : w7.cell? ⟨rf, 9, none⟩ = some (.slice none 0 0) := hA7.cell 9 rfl
    have y10 : w7.cell? ⟨rf, 10, none⟩ = some (.int .i64 0) := hA7.cell 10 rfl
    have y11 : w7.cell? ⟨rf, 11, none⟩ = some (.int .i64 0) := hA7.cell 11 rfl
    have y12 : w7.cell? ⟨rf, 12, none⟩ = some (.string ⟨#[]⟩) := hA7.cell 12 rfl
    refine ⟨rfl, .tuple #[.agg #[.int .i64 0, .int .i64 0, .int .i64 0, .string ⟨#[]⟩, .bool false, .int .i64 0, .int .i64 0, .bool false, .int .i64 0, .slice none 0 0, .int .i64 0, .int .i64 0, .string ⟨#[]⟩], .int .i64 0, .int .i64 90], ?_, hO7, rfl⟩
    simp [results, Tryd.f19, go_sem, y0, y1, y2, y3, y4, y5, y6, y7, y8, y9, y10, y11, y12]
  | some z =>
    obtain ⟨f, l⟩ := z
    have hg := guard_true w5 (fun w' => Only [rb, b] w5 w' ∧ ∃ rv', FrAt w' b f rv' ∧ FrOk w' f rv' ∧ RgNew w5.heap.size rv' ∧ ∃ a', a' ≤ s.size ∧ l = s.data.toList.drop a' ∧ RdAt w' rb s a') ent_decode (hdin.mono fun e w' h => ⟨h.2.1, h.1, h.2.2⟩)
    clear hdin
    go_wp2_with fail
    refine hg.mono ?_
    rintro e w6 ⟨rfl, ho6, rv', hB6, hK6, hn6, a', ha', rfl, hR6⟩
    have hZ6 := HZ5.out.keep ho6 HZt.out
    have hQ6 := HQ5.out.keep ho6 HQt.out
    have HO6 : Hid (Only [] w w6) := Lib.hid (HX.out _ ho6)
    have HB6 := Lib.hid hB6
    have HR6 := Lib.hid hR6
    have HZ6 := Lib.hid hZ6
    have HQ6 := Lib.hid hQ6
    have HK6 := Lib.hid hK6
    have HN6 := Lib.hid hn6
    have HZl : Hid (rf < w5.heap.size) := Lib.hid (At.lt HZ5.out)
    obtain ⟨a9, cap9, rfl, h9x⟩ := hK6.rg
    clear h9x hn6 hZ6 hQ6 hB6 hR6 hK6 ho6
    go_upto_region 12 with fail
    have hbl6 : b < w6.drew.heap.size := At.lt HB6.out
    have hql6 : q < w6.drew.heap.size := At.lt HQ6.out
    have hrl6 : rb < w6.drew.heap.size := At.lt HR6.out
    have hbn6 : b ∉ [rf] := by have := HN1.out; simp; omega
    have hqn6 : q ∉ [rf] := by have := HN1.out; have := HN2.out; simp; omega
    have hrn6 : rb ∉ [rf] := by have := HN1.out; have := HN2.out; simp; omega
    have xq : w6.drew.cell? ⟨q, 0, none⟩ = some (.pointer (some ⟨rb, 0, none⟩)) := HQ6.out.cell 0 rfl
    have xr : w6.drew.cell? ⟨rb, 1, none⟩ = some (.int .i64 ((a' : Nat) : Int)) := At.cell HR6.out 1 rfl
    have x0 : w6.drew.cell? ⟨b, 0, none⟩ = some (.int .i64 f.ty) := At.cell HB6.out 0 rfl
    have x1 : w6.drew.cell? ⟨b, 1, none⟩ = some (.int .i64 f.st) := At.cell HB6.out 1 rfl
    have x2 : w6.drew.cell? ⟨b, 2, none⟩ = some (.int .i64 f.off) := At.cell HB6.out 2 rfl
    have x3 : w6.drew.cell? ⟨b, 3, none⟩ = some (.string (strB f.S)) := At.cell HB6.out 3 rfl
    have x4 : w6.drew.cell? ⟨b, 4, none⟩ = some (.bool f.fin) := At.cell HB6.out 4 rfl
    have x5 : w6.drew.cell? ⟨b, 5, none⟩ = some (.int .i64 f.mx) := At.cell HB6.out 5 rfl
    have x6 : w6.drew.cell? ⟨b, 6, none⟩ = some (.int .i64 f.cd) := At.cell HB6.out 6 rfl
    have x7 : w6.drew.cell? ⟨b, 7, none⟩ = some (.bool f.uni) := At.cell HB6.out 7 rfl
    have x8 : w6.drew.cell? ⟨b, 8, none⟩ = some (.int .i64 f.dl) := At.cell HB6.out 8 rfl
    have x9 : w6.drew.cell? ⟨b, 9, none⟩ = some (.slice a9 f.rg.length cap9) := At.cell HB6.out 9 rfl
    have x10 : w6.drew.cell? ⟨b, 10, none⟩ = some (.int .i64 f.sq) := At.cell HB6.out 10 rfl
    have x11 : w6.drew.cell? ⟨b, 11, none⟩ = some (.int .i64 f.rt) := At.cell HB6.out 11 rfl
    have x12 : w6.drew.cell? ⟨b, 12, none⟩ = some (.string (strB f.cid)) := At.cell HB6.out 12 rfl
    refine wp_region_held_drew (S := fun w' => Only [rf] w6.drew w') (by kernel_rfl) (by exact Only.refl _ _) (fun hHeld => ?_)
    refine wpAnyH_take (i := 0) (v := ?_) rfl (by kernel_rfl) (by kernel_rfl) (by kernel_rfl) (fun _ _ _ h => h) (Or.inl ⟨by kernel_rfl, ?_⟩) (by assumption) ?_
    rotate_left
    · intro wS hSw
      have e0 := (hSw.cell (p := ⟨b, 0, none⟩) hbl6 hbn6).trans x0
      have e1 := (hSw.cell (p := ⟨b, 1, none⟩) hbl6 hbn6).trans x1
      have e2 := (hSw.cell (p := ⟨b, 2, none⟩) hbl6 hbn6).trans x2
      have e3 := (hSw.cell (p := ⟨b, 3, none⟩) hbl6 hbn6).trans x3
      have e4 := (hSw.cell (p := ⟨b, 4, none⟩) hbl6 hbn6).trans x4
      have e5 := (hSw.cell (p := ⟨b, 5, none⟩) hbl6 hbn6).trans x5
      have e6 := (hSw.cell (p := ⟨b, 6, none⟩) hbl6 hbn6).trans x6
      have e7 := (hSw.cell (p := ⟨b, 7, none⟩) hbl6 hbn6).trans x7
      have e8 := (hSw.cell (p := ⟨b, 8, none⟩) hbl6 hbn6).trans x8
      have e9 := (hSw.cell (p := ⟨b, 9, none⟩) hbl6 hbn6).trans x9
      have e10 := (hSw.cell (p := ⟨b, 10, none⟩) hbl6 hbn6).trans x10
      have e11 := (hSw.cell (p := ⟨b, 11, none⟩) hbl6 hbn6).trans x11
      have e12 := (hSw.cell (p := ⟨b, 12, none⟩) hbl6 hbn6).trans x12
      go_simp
      try with_reducible rfl
    simp only [List.getElem_toArray, List.getElem_cons_succ, List.getElem_cons_zero, Act.put, List.setIfInBounds_toArray, List.set_cons_zero, List.set_cons_succ]
    refine wpAnyH_take (i := 1) (v := ?_) rfl (by kernel_rfl) (by kernel_rfl) (by kernel_rfl) (fun _ _ _ h => h) (Or.inl ⟨by kernel_rfl, ?_⟩) (by assumption) ?_
    rotate_left
    · intro wS hSw
      have e0 := (hSw.cell (p := ⟨q, 0, none⟩) hql6 hqn6).trans xq
      go_simp
      try with_reducible rfl
    simp only [List.getElem_toArray, List.getElem_cons_succ, List.getElem_cons_zero, Act.put, List.setIfInBounds_toArray, List.set_cons_zero, List.set_cons_succ]
    refine wpAnyH_take (i := 2) (v := ?_) rfl (by kernel_rfl) (by kernel_rfl) (by kernel_rfl) (fun _ _ _ h => h) (Or.inl ⟨by kernel_rfl, ?_⟩) (by assumption) ?_
    rotate_left
    · intro wS hSw
      go_simp
      try with_reducible rfl
    simp only [List.getElem_toArray, List.getElem_cons_succ, List.getElem_cons_zero, Act.put, List.setIfInBounds_toArray, List.set_cons_zero, List.set_cons_succ]
    refine wpAnyH_take (i := 3) (v := ?_) rfl (by kernel_rfl) (by kernel_rfl) (by kernel_rfl) (fun _ _ _ h => h) (Or.inl ⟨by kernel_rfl, ?_⟩) (by assumption) ?_
    rotate_left
    · intro wS hSw
      go_simp
      try with_reducible rfl
    simp only [List.getElem_toArray, List.getElem_cons_succ, List.getElem_cons_zero, Act.put, List.setIfInBounds_toArray, List.set_cons_zero, List.set_cons_succ]
    refine wpAnyH_take (i := 4) (v := ?_) rfl (by kernel_rfl) (by kernel_rfl) (by kernel_rfl) (fun _ _ _ h => h) (Or.inl ⟨by kernel_rfl, ?_⟩) (by assumption) ?_
    rotate_left
    · intro wS hSw
      have e0 := (hSw.cell (p := ⟨rb, 1, none⟩) hrl6 hrn6).trans xr
      go_simp
      try with_reducible rfl
    simp only [List.getElem_toArray, List.getElem_cons_succ, List.getElem_cons_zero, Act.put, List.setIfInBounds_toArray, List.set_cons_zero, List.set_cons_succ]
    have z0 : w6.cell? ⟨rf, 0, none⟩ = some (.int .i64 0) := HZ6.out.cell 0 rfl
    have z1 : w6.cell? ⟨rf, 1, none⟩ = some (.int .i64 0) := HZ6.out.cell 1 rfl
    have z2 : w6.cell? ⟨rf, 2, none⟩ = some (.int .i64 0) := HZ6.out.cell 2 rfl
    have z3 : w6.cell? ⟨rf, 3, none⟩ = some (.string ⟨#[]⟩) := HZ6.out.cell 3 rfl
    have z4 : w6.cell? ⟨rf, 4, none⟩ = some (.bool false) := HZ6.out.cell 4 rfl
    have z5 : w6.cell? ⟨rf, 5, none⟩ = some (.int .i64 0) := HZ6.out.cell 5 rfl
    have z6 : w6.cell? ⟨rf, 6, none⟩ = some (.int .i64 0) := HZ6.out.cell 6 rfl
    have z7 : w6.cell? ⟨rf, 7, none⟩ = some (.bool false) := HZ6.out.cell 7 rfl
    have z8 : w6.cell? ⟨rf, 8, none⟩ = some (.int .i64 0) := HZ6.out.cell 8 rfl
    have z9 : w6.cell? ⟨rf, 9, none⟩ = some (.slice none 0 0) := HZ6.out.cell 9 rfl
    have z10 : w6.cell? ⟨rf, 10, none⟩ = some (.int .i64 0) := HZ6.out.cell 10 rfl
    have z11 : w6.cell? ⟨rf, 11, none⟩ = some (.int .i64 0) := HZ6.out.cell 11 rfl
    have z12 : w6.cell? ⟨rf, 12, none⟩ = some (.string ⟨#[]⟩) := HZ6.out.cell 12 rfl
    have hfz : ∀ i, w6.frozen? ⟨rf, i, none⟩ = false := fun i => HZ6.out.free i
    refine wpAnyH_ready (rs := [5]) (by kernel_rfl) (by simp) ?_
    refine AllReadyH.cons rfl (fun K hK => ?_) AllReadyH.nil
    go_simp
    have hO8 : Only [rf] w6 (((((((((((((w6.setCell ⟨rf, 0, none⟩ (.int .i64 f.ty)).setCell ⟨rf, 1, none⟩ (.int .i64 f.st)).setCell ⟨rf, 2, none⟩ (.int .i64 f.off)).setCell ⟨rf, 3, none⟩ (.string (strB f.S))).setCell ⟨rf, 4, none⟩ (.bool f.fin)).setCell ⟨rf, 5, none⟩ (.int .i64 f.mx)).setCell ⟨rf, 6, none⟩ (.int .i64 f.cd)).setCell ⟨rf, 7, none⟩ (.bool f.uni)).setCell ⟨rf, 8, none⟩ (.int .i64 f.dl)).setCell ⟨rf, 9, none⟩ (.slice a9 f.rg.length cap9)).setCell ⟨rf, 10, none⟩ (.int .i64 f.sq)).setCell ⟨rf, 11, none⟩ (.int .i64 f.rt)).setCell ⟨rf, 12, none⟩ (.string (strB f.cid))) := ((((((((((((((Only.refl [rf] w6).put (g := rf) (i := 0) (by simp) (.int .i64 f.ty)).put (g := rf) (i := 1) (by simp) (.int .i64 f.st)).put (g := rf) (i := 2) (by simp) (.int .i64 f.off)).put (g := rf) (i := 3) (by simp) (.string (strB f.S))).put (g := rf) (i := 4) (by simp) (.bool f.fin)).put (g := rf) (i := 5) (by simp) (.int .i64 f.mx)).put (g := rf) (i := 6) (by simp) (.int .i64 f.cd)).put (g := rf) (i := 7) (by simp) (.bool f.uni)).put (g := rf) (i := 8) (by simp) (.int .i64 f.dl)).put (g := rf) (i := 9) (by simp) (.slice a9 f.rg.length cap9)).put (g := rf) (i := 10) (by simp) (.int .i64 f.sq)).put (g := rf) (i := 11) (by simp) (.int .i64 f.rt)).put (g := rf) (i := 12) (by simp) (.string (strB f.cid)))
    have hA8 : At (((((((((((((w6.setCell ⟨rf, 0, none⟩ (.int .i64 f.ty)).setCell ⟨rf, 1, none⟩ (.int .i64 f.st)).setCell ⟨rf, 2, none⟩ (.int .i64 f.off)).setCell ⟨rf, 3, none⟩ (.string (strB f.S))).setCell ⟨rf, 4, none⟩ (.bool f.fin)).setCell ⟨rf, 5, none⟩ (.int .i64 f.mx)).setCell ⟨rf, 6, none⟩ (.int .i64 f.cd)).setCell ⟨rf, 7, none⟩ (.bool f.uni)).setCell ⟨rf, 8, none⟩ (.int .i64 f.dl)).setCell ⟨rf, 9, none⟩ (.slice a9 f.rg.length cap9)).setCell ⟨rf, 10, none⟩ (.int .i64 f.sq)).setCell ⟨rf, 11, none⟩ (.int .i64 f.rt)).setCell ⟨rf, 12, none⟩ (.string (strB f.cid))) rf 33 (frC f (.slice a9 f.rg.length cap9)) := (((((((((((((HZ6.out.set 0 (.int .i64 f.ty) rfl).set 1 (.int .i64 f.st) rfl).set 2 (.int .i64 f.off) rfl).set 3 (.string (strB f.S)) rfl).set 4 (.bool f.fin) rfl).set 5 (.int .i64 f.mx) rfl).set 6 (.int .i64 f.cd) rfl).set 7 (.bool f.uni) rfl).set 8 (.int .i64 f.dl) rfl).set 9 (.slice a9 f.rg.length cap9) rfl).set 10 (.int .i64 f.sq) rfl).set 11 (.int .i64 f.rt) rfl).set 12 (.string (strB f.cid)) rfl).same (by simp only [List.setIfInBounds_toArray, List.set_cons_zero, List.set_cons_succ, frC])
    generalize (((((((((((((w6.setCell ⟨rf, 0, none⟩ (.int .i64 f.ty)).setCell ⟨rf, 1, none⟩ (.int .i64 f.st)).setCell ⟨rf, 2, none⟩ (.int .i64 f.off)).setCell ⟨rf, 3, none⟩ (.string (strB f.S))).setCell ⟨rf, 4, none⟩ (.bool f.fin)).setCell ⟨rf, 5, none⟩ (.int .i64 f.mx)).setCell ⟨rf, 6, none⟩ (.int .i64 f.cd)).setCell ⟨rf, 7, none⟩ (.bool f.uni)).setCell ⟨rf, 8, none⟩ (.int .i64 f.dl)).setCell ⟨rf, 9, none⟩ (.slice a9 f.rg.length cap9)).setCell ⟨rf, 10, none⟩ (.int .i64 f.sq)).setCell ⟨rf, 11, none⟩ (.int .i64 f.rt)).setCell ⟨rf, 12, none⟩ (.string (strB f.cid))) = w8 at hO8 hA8 ⊢
    have hHeld2 : Only [rf] w6.drew w8.drew := ⟨hO8.os, hO8.tape, hO8.output, hO8.size, hO8.block⟩
    refine hK.out _ _ hHeld2 (fun hHeld' => ?_)
    clear hHeld hK K hHeld'
    have hHeld := hHeld2
    clear hHeld2
    refine wpAnyH_take (i := 6) (v := ?_) rfl (by kernel_rfl) (by kernel_rfl) (by kernel_rfl) (fun _ _ _ h => h) (Or.inl ⟨by kernel_rfl, ?_⟩) (by assumption) ?_
    rotate_left
    · intro wS hSw
      go_simp
      try with_reducible rfl
    simp only [List.getElem_toArray, List.getElem_cons_succ, List.getElem_cons_zero, Act.put, List.setIfInBounds_toArray, List.set_cons_zero, List.set_cons_succ]
    refine wpAnyH_take (i := 7) (v := ?_) rfl (by kernel_rfl) (by kernel_rfl) (by kernel_rfl) (fun _ _ _ h => h) (Or.inl ⟨by kernel_rfl, ?_⟩) (by assumption) ?_
    rotate_left
    · intro wS hSw
      go_simp
      try with_reducible rfl
    simp only [List.getElem_toArray, List.getElem_cons_succ, List.getElem_cons_zero, Act.put, List.setIfInBounds_toArray, List.set_cons_zero, List.set_cons_succ]
    refine wpAnyH_done (by kernel_rfl) ?_ _
    have hO9 : Only [] w w8.drew := Only.drew ⟨hO8.os.trans HO6.out.os, hO8.tape.trans HO6.out.tape, hO8.output.trans HO6.out.output, Nat.le_trans HO6.out.size hO8.size, fun i hi hn => (hO8.block i (Nat.lt_of_lt_of_le hi HO6.out.size) (by have := HN1.out; simp; omega)).trans (HO6.out.block i hi hn)⟩
    have hok : FrOk w8.drew f (.slice a9 f.rg.length cap9) := ⟨HK6.out.wf, HK6.out.ty, HK6.out.rg.keepN (S := [rf]) hO8.drew (fun g n c e hm => by
      have h1 := HN6.out g n c e
      have h2 := HZl.out
      have h3 := List.mem_singleton.1 hm
      omega), HK6.out.sz⟩
    have hA9 : At w8.drew rf 33 (frC f (.slice a9 f.rg.length cap9)) := hA8
    have y0 : w8.drew.cell? ⟨rf, 0, none⟩ = some (.int .i64 f.ty) := hA9.cell 0 rfl
    have y1 : w8.drew.cell? ⟨rf, 1, none⟩ = some (.int .i64 f.st) := hA9.cell 1 rfl
    have y2 : w8.drew.cell? ⟨rf, 2, none⟩ = some (.int .i64 f.off) := hA9.cell 2 rfl
    have y3 : w8.drew.cell? ⟨rf, 3, none⟩ = some (.string (strB f.S)) := hA9.cell 3 rfl
    have y4 : w8.drew.cell? ⟨rf, 4, none⟩ = some (.bool f.fin) := hA9.cell 4 rfl
    have y5 : w8.drew.cell? ⟨rf, 5, none⟩ = some (.int .i64 f.mx) := hA9.cell 5 rfl
    have y6 : w8.drew.cell? ⟨rf, 6, none⟩ = some (.int .i64 f.cd) := hA9.cell 6 rfl
    have y7 : w8.drew.cell? ⟨rf, 7, none⟩ = some (.bool f.uni) := hA9.cell 7 rfl
    have y8 : w8.drew.cell? ⟨rf, 8, none⟩ = some (.int .i64 f.dl) := hA9.cell 8 rfl
    have y9 : w8.drew.cell? ⟨rf, 9, none⟩ = some (.slice a9 f.rg.length cap9) := hA9.cell 9 rfl
    have y10 : w8.drew.cell? ⟨rf, 10, none⟩ = some (.int .i64 f.sq) := hA9.cell 10 rfl
    have y11 : w8.drew.cell? ⟨rf, 11, none⟩ = some (.int .i64 f.rt) := hA9.cell 11 rfl
    have y12 : w8.drew.cell? ⟨rf, 12, none⟩ = some (.string (strB f.cid)) := hA9.cell 12 rfl
    clear hO8 hA8 hHeld
    go_wp2_with fail
    refine ⟨rfl, .tuple #[.agg (frC f (.slice a9 f.rg.length cap9)), .int .i64 ((a' : Nat) : Int), .int .i64 0], ?_, hO9, _, a', rfl, hok, HN6.out.low (by have h1 := HN1.out; have h2 := HZl.out; omega), ha', rfl⟩
    simp [results, Tryd.f19, go_sem, frC, y0, y1, y2, y3, y4, y5, y6, y7, y8, y9, y10, y11, y12]
/-- Decode, inside of the string. -/
theorem decode_c (s : ByteArray) (a : Nat) (h : a < s.size) (hs : s.size ≤ 4611686018427387903) (w : World) : Calls Tryd.prog 19 #[.string s, .int .i64 a] w (DecQ (decF (s.data.toList.drop a)) s w) := by
  by_cases h9 : (s[a]).toNat = 9
  · exact decode_9 s a h hs _ rfl h9 w
  · exact decode_x s a h hs _ rfl h9 w
end Go.Proofs.YtgiekhohhogdiaaDoor
