/- Contracts of package frame: Valid and Encode. -/
import Derived.Test.YtmmgmpghkpbgkaaFrZb
namespace Go.Proofs.Ytmmgmpghkpbgkaa
open Go Go.RowKit
set_option linter.unusedVariables false
set_option linter.unusedSimpArgs false

/-- A frame in memory that the machine holds. -/
structure FrOk (w : World) (f : Fr) (rv : Value) : Prop where
  wf : FrWf f
  ty : -9223372036854775808 ≤ f.ty ∧ f.ty ≤ 9223372036854775807
  rg : RgAt w rv f.rg
  sz : f.rg.length ≤ 4611686018427387903
theorem FrOk.keep {w w' : World} {f : Fr} {rv : Value} (h : FrOk w f rv) (ho : Only [] w w') : FrOk w' f rv := ⟨h.wf, h.ty, h.rg.keep ho, h.sz⟩
/-- A panic or nothing. -/
def uniE (o : Option (List UInt8)) : Ending := match o with
  | some _ => .returned (.tuple #[])
  | none => MAL
set_option maxRecDepth 100000 in
set_option maxHeartbeats 4000000 in
theorem valid_in (b : Nat) (f : Fr) (rv : Value) (w : World) (hA : FrAt w b f rv) (hF : FrOk w f rv) :
    Calls Try.prog 61 #[.pointer (some ⟨b, 0, none⟩)] w fun e w' => e = uniE (encF f) ∧ Only [] w w' := by
  have HA := Lib.hid hA
  have HF := Lib.hid hF
  obtain ⟨hf, hty, hR, hsz⟩ := hF
  obtain ⟨ra, rcap, rfl, hrr⟩ := hR
  clear hrr
  have c0 : w.cell? ⟨b, 0, none⟩ = some (.int .i64 f.ty) := (show At w b 33 _ from HA.out).cell 0 rfl
  have c1 : w.cell? ⟨b, 1, none⟩ = some (.int .i64 f.st) := (show At w b 33 _ from HA.out).cell 1 rfl
  have c2 : w.cell? ⟨b, 2, none⟩ = some (.int .i64 f.off) := (show At w b 33 _ from HA.out).cell 2 rfl
  have c3 : w.cell? ⟨b, 3, none⟩ = some (.string (strB f.S)) := (show At w b 33 _ from HA.out).cell 3 rfl
  have c4 : w.cell? ⟨b, 4, none⟩ = some (.bool f.fin) := (show At w b 33 _ from HA.out).cell 4 rfl
  have c5 : w.cell? ⟨b, 5, none⟩ = some (.int .i64 f.mx) := (show At w b 33 _ from HA.out).cell 5 rfl
  have c6 : w.cell? ⟨b, 6, none⟩ = some (.int .i64 f.cd) := (show At w b 33 _ from HA.out).cell 6 rfl
  have c7 : w.cell? ⟨b, 7, none⟩ = some (.bool f.uni) := (show At w b 33 _ from HA.out).cell 7 rfl
  have c8 : w.cell? ⟨b, 8, none⟩ = some (.int .i64 f.dl) := (show At w b 33 _ from HA.out).cell 8 rfl
  have c9 : w.cell? ⟨b, 9, none⟩ = some (.slice ra f.rg.length rcap) := (show At w b 33 _ from HA.out).cell 9 rfl
  have c10 : w.cell? ⟨b, 10, none⟩ = some (.int .i64 f.sq) := (show At w b 33 _ from HA.out).cell 10 rfl
  have c11 : w.cell? ⟨b, 11, none⟩ = some (.int .i64 f.rt) := (show At w b 33 _ from HA.out).cell 11 rfl
  have c12 : w.cell? ⟨b, 12, none⟩ = some (.string (strB f.cid)) := (show At w b 33 _ from HA.out).cell 12 rfl
  have hen := encode_c f _ w hf hty HF.out.rg hsz
  clear hA
  cases hE : encF f with
  | none =>
    simp only [hE, strE, uniE, MAL] at hen ⊢
    clear hE
    go_enter Try.func61, Try.ntmps61
    go_wp2_with fail
    refine hen.mono ?_
    rintro e w2 ⟨rfl, ho⟩
    exact ⟨rfl, rfl, ho⟩
  | some s =>
    simp only [hE, strE, uniE] at hen ⊢
    clear hE
    go_enter Try.func61, Try.ntmps61
    go_wp2_with fail
    refine hen.mono ?_
    rintro e w2 ⟨rfl, ho⟩
    go_wp2_with fail
    go_end0
    exact ⟨rfl, ho⟩
set_option maxRecDepth 100000 in
set_option maxHeartbeats 4000000 in
theorem encode_in (b sb : Nat) (hne : b ≠ sb) (f : Fr) (rv : Value) (u : ByteArray) (w : World) (hA : FrAt w b f rv) (hF : FrOk w f rv) (hS : At w sb 9 #[.string u]) :
    Calls Try.prog 57 #[.pointer (some ⟨b, 0, none⟩), .pointer (some ⟨sb, 0, none⟩)] w fun e w' => e = uniE (encF f) ∧ Only [sb] w w' ∧ ∀ s, encF f = some s → At w' sb 9 #[.string (strB s)] := by
  have HA := Lib.hid hA
  have HF := Lib.hid hF
  obtain ⟨hf, hty, hR, hsz⟩ := hF
  obtain ⟨ra, rcap, rfl, hrr⟩ := hR
  clear hrr
  have c0 : w.cell? ⟨b, 0, none⟩ = some (.int .i64 f.ty) := (show At w b 33 _ from HA.out).cell 0 rfl
  have c1 : w.cell? ⟨b, 1, none⟩ = some (.int .i64 f.st) := (show At w b 33 _ from HA.out).cell 1 rfl
  have c2 : w.cell? ⟨b, 2, none⟩ = some (.int .i64 f.off) := (show At w b 33 _ from HA.out).cell 2 rfl
  have c3 : w.cell? ⟨b, 3, none⟩ = some (.string (strB f.S)) := (show At w b 33 _ from HA.out).cell 3 rfl
  have c4 : w.cell? ⟨b, 4, none⟩ = some (.bool f.fin) := (show At w b 33 _ from HA.out).cell 4 rfl
  have c5 : w.cell? ⟨b, 5, none⟩ = some (.int .i64 f.mx) := (show At w b 33 _ from HA.out).cell 5 rfl
  have c6 : w.cell? ⟨b, 6, none⟩ = some (.int .i64 f.cd) := (show At w b 33 _ from HA.out).cell 6 rfl
  have c7 : w.cell? ⟨b, 7, none⟩ = some (.bool f.uni) := (show At w b 33 _ from HA.out).cell 7 rfl
  have c8 : w.cell? ⟨b, 8, none⟩ = some (.int .i64 f.dl) := (show At w b 33 _ from HA.out).cell 8 rfl
  have c9 : w.cell? ⟨b, 9, none⟩ = some (.slice ra f.rg.length rcap) := (show At w b 33 _ from HA.out).cell 9 rfl
  have c10 : w.cell? ⟨b, 10, none⟩ = some (.int .i64 f.sq) := (show At w b 33 _ from HA.out).cell 10 rfl
  have c11 : w.cell? ⟨b, 11, none⟩ = some (.int .i64 f.rt) := (show At w b 33 _ from HA.out).cell 11 rfl
  have c12 : w.cell? ⟨b, 12, none⟩ = some (.string (strB f.cid)) := (show At w b 33 _ from HA.out).cell 12 rfl
  have hen := encode_c f _ w hf hty HF.out.rg hsz
  have HS := Lib.hid hS
  clear hA hS
  cases hE : encF f with
  | none =>
    simp only [hE, strE, uniE, MAL] at hen ⊢
    clear hE
    go_enter Try.func57, Try.ntmps57
    go_wp2_with fail
    refine hen.mono ?_
    rintro e w2 ⟨rfl, ho⟩
    exact ⟨rfl, rfl, ho.mono (by simp), fun s h => by cases h⟩
  | some s =>
    simp only [hE, strE, uniE] at hen ⊢
    clear hE
    go_enter Try.func57, Try.ntmps57
    go_wp2_with fail
    refine hen.mono ?_
    rintro e w2 ⟨rfl, ho⟩
    have hS2 := HS.out.keep ho (by simp)
    have k0 : w2.cell? ⟨sb, 0, none⟩ = some (.string u) := hS2.cell 0 rfl
    have k1 := hS2.free 0
    have HS2 := Lib.hid hS2
    have HO := Lib.hid ho
    clear hS2 ho hen
    go_wp2_with fail
    go_end0
    exact ⟨rfl, (HO.out.mono (by simp)).put (by simp) _, fun s2 h => by cases h; exact HS2.out.set 0 _ rfl⟩
/-- A block that is new to w may change. -/
theorem only_old {w a b : World} {k : Nat} (h : Only [] w a) (h2 : Only [k] a b) (hk : w.heap.size ≤ k) : Only [] w b :=
  ⟨h2.os.trans h.os, h2.tape.trans h.tape, h2.output.trans h.output, Nat.le_trans h.size h2.size, fun i hi hn => (h2.block i (Nat.lt_of_lt_of_le hi h.size) (by simp; omega)).trans (h.block i hi hn)⟩
set_option maxRecDepth 100000 in
set_option maxHeartbeats 4000000 in
theorem valid_c (f : Fr) (rv : Value) (w : World) (hF : FrOk w f rv) :
    Calls Try.prog 19 #[.agg (frC f rv)] w fun e w' => e = .returned (.bool (encF f).isSome) ∧ Only [] w w' := by
  have hA1 := At.new w 33 (frC f rv)
  have hO1 := (Only.refl [] w).alloc (.cells (frC f rv) 33)
  have hin := valid_in w.heap.size f rv _ hA1 (hF.keep hO1)
  have HO1 := Lib.hid hO1
  clear hA1 hO1
  generalize hx : w.alloc (.cells (frC f rv) 33) = w1 at *
  cases hE : encF f with
  | none =>
    simp only [hE, uniE] at hin ⊢
    have hg := guard_false w1 (fun w' => Only [] w1 w') (fun a b h k => h.trans k) ent_valid hin
    clear hE hin
    go_enter Try.func19, Try.ntmps19
    go_wp2_with fail
    refine hg.mono ?_
    rintro e w2 ⟨rfl, ho⟩
    go_wp2_with fail
    go_ret
    exact ⟨rfl, HO1.out.trans ho⟩
  | some s =>
    simp only [hE, uniE] at hin ⊢
    have hg := guard_true w1 (fun w' => Only [] w1 w') ent_valid hin
    clear hE hin
    go_enter Try.func19, Try.ntmps19
    go_wp2_with fail
    refine hg.mono ?_
    rintro e w2 ⟨rfl, ho⟩
    go_wp2_with fail
    go_ret
    exact ⟨rfl, HO1.out.trans ho⟩
/-- What Encode answers. -/
def encV (o : Option (List UInt8)) : Value := match o with
  | some s => .tuple #[.string (strB s), .int .i64 0]
  | none => .tuple #[.string (strB []), .int .i64 90]
set_option maxRecDepth 100000 in
set_option maxHeartbeats 4000000 in
theorem Encode_c (f : Fr) (rv : Value) (w : World) (hF : FrOk w f rv) :
    Calls Try.prog 17 #[.agg (frC f rv)] w fun e w' => e = .returned (encV (encF f)) ∧ Only [] w w' := by
  have hA1 := At.new w 33 (frC f rv)
  have hO1 := (Only.refl [] w).alloc (.cells (frC f rv) 33)
  have hb1 : w.heap.size < (w.alloc (.cells (frC f rv) 33)).heap.size := by simp
  have hz1 : (w.alloc (.cells (frC f rv) 33)).heap.size = w.heap.size + 1 := by simp
  generalize hx : w.alloc (.cells (frC f rv) 33) = w1 at *
  obtain ⟨b, hb⟩ : ∃ b, w.heap.size = b := ⟨_, rfl⟩
  rw [hb] at hA1 hb1
  have hA2 := hA1.alloc (.cells #[.string (strB [])] 9)
  have hS2 := At.new w1 9 #[.string (strB [])]
  have hO2 := hO1.alloc (.cells #[.string (strB [])] 9)
  have hin := encode_in b w1.heap.size (by omega) f rv _ _ hA2 (hF.keep hO2) hS2
  have HO2 := Lib.hid hO2
  have HSB : Hid (w.heap.size ≤ w1.heap.size) := Lib.hid hO1.size
  have HS2 := Lib.hid hS2
  clear hA1 hA2 hS2 hO1 hO2 hb1
  have hy : w1.alloc (.cells #[.string ⟨#[]⟩] 9) = w1.alloc (.cells #[.string (strB [])] 9) := rfl
  generalize hx2 : w1.alloc (.cells #[.string (strB [])] 9) = w2 at *
  obtain ⟨sb, hsb⟩ : ∃ sb, w1.heap.size = sb := ⟨_, rfl⟩
  rw [hsb] at hin HSB HS2 hz1
  rw [hb] at hz1
  have HZ := Lib.hid hz1.symm
  clear hz1
  cases hE : encF f with
  | none =>
    simp only [hE, uniE] at hin
    have hg := guard_false w2 (fun w' => Only [sb] w2 w') (fun a b h k => h.trans (k.mono (by simp))) ent_encode (hin.mono fun e w' h => ⟨h.1, h.2.1⟩)
    simp only [encV, strB]
    have HX := Lib.hid hx
    have HY := Lib.hid hy
    have HB := Lib.hid hb
    have HSb := Lib.hid hsb
    clear hE hin hx2 hx hy hb hsb
    go_enter Try.func17, Try.ntmps17
    go_wp2_with fail
    rw [HX.out, HB.out, HZ.out, HY.out]
    refine hg.mono ?_
    rintro e w3 ⟨rfl, ho⟩
    go_wp2_with fail
    refine ⟨rfl, .tuple #[.string ⟨#[]⟩, .int .i64 90], ?_, rfl, only_old HO2.out ho HSB.out⟩
    simp [results, Try.f17, go_sem]
  | some s =>
    simp only [hE, uniE] at hin
    have hg := guard_true w2 (fun w' => Only [sb] w2 w' ∧ At w' sb 9 #[.string (strB s)]) ent_encode (hin.mono fun e w' h => ⟨h.1, h.2.1, h.2.2 s rfl⟩)
    simp only [encV]
    have HX := Lib.hid hx
    have HY := Lib.hid hy
    have HB := Lib.hid hb
    have HSb := Lib.hid hsb
    clear hE hin hx2 hx hy hb hsb
    go_enter Try.func17, Try.ntmps17
    go_wp2_with fail
    rw [HX.out, HB.out, HZ.out, HY.out]
    refine hg.mono ?_
    rintro e w3 ⟨rfl, ho, hs3⟩
    have k0 : w3.cell? ⟨sb, 0, none⟩ = some (.string (strB s)) := hs3.cell 0 rfl
    clear hs3
    go_wp2_with fail
    refine ⟨rfl, .tuple #[.string (strB s), .int .i64 0], ?_, rfl, only_old HO2.out ho HSB.out⟩
    simp [results, Try.f17, go_sem]
end Go.Proofs.Ytmmgmpghkpbgkaa
