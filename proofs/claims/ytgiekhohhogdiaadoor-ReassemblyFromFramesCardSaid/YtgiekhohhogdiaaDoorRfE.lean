/- Contracts of strings.Builder at this program: what WriteString leaves, what String answers. (The first part is what the kit's lay-plain.mjs wrote.) -/
import Derived.Shelf.Strings.Builder1
import Derived.Test.YtgiekhohhogdiaaDoorRfC
import Derived.Test.YtgiekhohhogdiaaDoorRfD
import Derived.Deep.LoopGhost
import Derived.Deep.CutRange
namespace Go.Proofs
open Go.Shelf
set_option linter.unusedVariables false
set_option linter.unusedSimpArgs false
def Tryd.lays169_ren : Go.Shelf.Ren := ⟨fun | 169 => 18 | n => n, fun | 70 => 52 | 9 => 9 | 0 => 0 | 72 => 54 | 37 => 46 | 127 => 69 | 3 => 3 | 5 => 5 | n => n, fun | n => n⟩
theorem Tryd.lays169 : Go.Proofs.Lays.n169 Tryd.prog Tryd.lays169_ren := {
  mixed := by kernel_rfl
  f169 := Tryd.func18.trans (congrArg some (by kernel_rfl))
  t0 := Tryd.underlying0
  a0 := Tryd.isAgg0
  z0 := Tryd.sizeOf0
  v0 := Tryd.zeroValue0
  t3 := Tryd.underlying3
  a3 := Tryd.isAgg3
  z3 := Tryd.sizeOf3
  v3 := Tryd.zeroValue3
  t9 := Tryd.underlying9
  a9 := Tryd.isAgg9
  z9 := Tryd.sizeOf9
  v9 := Tryd.zeroValue9
  t37 := Tryd.underlying46
  a37 := Tryd.isAgg46
  z37 := Tryd.sizeOf46
  v37 := Tryd.zeroValue46
  t70 := Tryd.underlying52
  a70 := Tryd.isAgg52
  z70 := Tryd.sizeOf52
  v70 := Tryd.zeroValue52
  t72 := Tryd.underlying54
  a72 := Tryd.isAgg54
  z72 := Tryd.sizeOf54
  v72 := Tryd.zeroValue54
  t127 := Tryd.underlying69
  a127 := Tryd.isAgg69
  z127 := Tryd.sizeOf69
  v127 := Tryd.zeroValue69 }
theorem Tryd.Builder_Extra_169 : Builder.Extra Tryd.prog Tryd.lays169_ren := {
  sizeBuilder := by kernel_rfl
  liesBuilder := by kernel_rfl
  t5 := Tryd.underlying5
  a5 := Tryd.isAgg5
  z5 := Tryd.sizeOf5
  v5 := Tryd.zeroValue5
  infoByte := by kernel_rfl
  cellsByte := by kernel_rfl
  sizeByte := by kernel_rfl
  neB5 := by decide }
open Go.RowKit in
theorem Tryd.Builder_String (B b : Nat) (l : List UInt8) (w : World) (h : Lib.IsBuilder 54 5 B b (Lib.byteCells l) w) (h0 : l ≠ []) :
    Calls Tryd.prog 18 #[.pointer (some ⟨b, 0, none⟩)] w fun e w' => e = .returned (.string ⟨l.toArray⟩) ∧ Below B w w' := Any.Builder_String Tryd.lays169 Tryd.Builder_Extra_169 B b l w h h0
open Go.RowKit in
theorem Tryd.Builder_String_empty (B b : Nat) (w : World) (h : Lib.IsBuilder 54 5 B b [] w) (hBw : B ≤ w.heap.size) :
    Calls Tryd.prog 18 #[.pointer (some ⟨b, 0, none⟩)] w fun e w' => e = .returned (.string ⟨#[]⟩) ∧ Below B w w' := Any.Builder_String_empty Tryd.lays169 Tryd.Builder_Extra_169 B b w h hBw
open Go.RowKit in
theorem Tryd.Builder_String_any (B b : Nat) (l : List UInt8) (w : World) (h : Lib.IsBuilder 54 5 B b (Lib.byteCells l) w) (hBw : B ≤ w.heap.size) :
    Calls Tryd.prog 18 #[.pointer (some ⟨b, 0, none⟩)] w fun e w' => e = .returned (.string ⟨l.toArray⟩) ∧ Below B w w' := Any.Builder_String_any Tryd.lays169 Tryd.Builder_Extra_169 B b l w h hBw
end Go.Proofs
namespace Go.Proofs.YtgiekhohhogdiaaDoor
open Go Go.RowKit
theorem A_sizeSB : (Tryd.prog.info? 54).map (·.size) = some 2 := by kernel_rfl
theorem A_liesSB : True := trivial
set_option maxHeartbeats 1000000 in
set_option maxRecDepth 100000 in
theorem ccheck_used (b : Nat) (w : World) (h0 : w.cell? ⟨b, 0, none⟩ = some (.pointer (some ⟨b, 0, none⟩))) :
    Calls Tryd.prog 27 #[.pointer (some ⟨b, 0, none⟩)] w fun e w' => e = .returned (.tuple #[]) ∧ w' = w := by
  obtain ⟨j, hj, _⟩ := Option.map_eq_some_iff.1 A_sizeSB
  go_enter Tryd.func27, Tryd.ntmps27
  go_wp2
  rw [Lib.run_neq_ptr_same w _ Tryd.underlying52 hj]
  go_wp2
  go_end0
  exact ⟨rfl, rfl⟩
set_option maxHeartbeats 1000000 in
set_option maxRecDepth 100000 in
theorem ccheck_fresh (b : Nat) (w : World) (h0 : w.cell? ⟨b, 0, none⟩ = some (.pointer none)) (hsh : w.shape? b = some (54, 2)) (hfz : w.frozen? ⟨b, 0, none⟩ = false) :
    Calls Tryd.prog 27 #[.pointer (some ⟨b, 0, none⟩)] w fun e w' => e = .returned (.tuple #[]) ∧ w' = w.setCell ⟨b, 0, none⟩ (.pointer (some ⟨b, 0, none⟩)) := by
  obtain ⟨j, hj, hjs⟩ := Option.map_eq_some_iff.1 A_sizeSB
  go_enter Tryd.func27, Tryd.ntmps27
  go_wp2
  rw [Lib.run_to_unsafe w ⟨b, 0, none⟩ Tryd.underlying52 Tryd.underlying95 hj (by rw [hjs]; decide) hsh (Nat.zero_lt_succ 1)]
  simp only [Result.andThen]
  rw [Oper.upon_value]
  go_wp2
  rw [run_callFunc_extern Tryd.func36 (by kernel_rfl) (by kernel_rfl) (by kernel_rfl) (e := Extern.AbiNoEscape.same) (by kernel_rfl)]
  rw [Lib.run_noEscape]
  simp only [Result.andThen]
  rw [Oper.upon_value]
  go_wp2
  rw [Lib.run_from_unsafe w ⟨b, 0, none⟩ Tryd.underlying95 Tryd.underlying52 hj hsh Tryd.Builder_Extra_169.liesBuilder]
  simp only [Result.andThen]
  rw [Oper.upon_value]
  go_wp2
  go_end0
  exact ⟨rfl, rfl⟩
theorem row_not {W : World} {q : Nat} {t e : TypeId} {cs : Array Value} (h : At W q t cs) (hte : t ≠ e) {base size k : Nat} {v : Value} {xs : List Value} (hr : W.ownsRow base e size v k xs) : some q ≠ v.ownBlock := by
  rcases hr.2 with ⟨rfl, _⟩ | ⟨g, cap, cur, rfl, _, hgb, _⟩
  · simp [Value.ownBlock]
  · intro e'
    obtain rfl : q = g := by simpa [Value.ownBlock] using e'
    have := (show W.heap[q]? = _ from h).symm.trans hgb
    simp at this
    exact hte this.2
theorem ccheck_c (B b : Nat) (bs : List Value) (w : World) (h : Lib.IsBuilder 54 5 B b bs w) :
    Calls Tryd.prog 27 #[.pointer (some ⟨b, 0, none⟩)] w fun e w' => e = .returned (.tuple #[]) ∧ (Lib.BuilderAt 54 5 B b (.pointer (some ⟨b, 0, none⟩)) bs w' ∧ Below B w w') ∧ ∀ q t cs, At w q t cs → q ≠ b → At w' q t cs := by
  rcases h with h | h
  · refine (ccheck_fresh b w h.cell0 h.shape h.frozen0).mono ?_
    rintro e w' ⟨rfl, rfl⟩
    exact ⟨rfl, ⟨h.used _, (Below.refl B w).setCell (p := ⟨b, 0, none⟩) h.1 _⟩, fun q t cs hq hn => hq.far (by simpa using hn) _⟩
  · refine (ccheck_used b w h.cell0).mono ?_
    rintro e w' ⟨rfl, rfl⟩
    exact ⟨rfl, ⟨h, Below.refl B _⟩, fun q t cs hq hn => hq⟩
set_option maxHeartbeats 1000000 in
set_option maxRecDepth 100000 in
/-- WriteString: the builder holds the bytes of s behind those that it held. -/
theorem write_c (B b : Nat) (bs : List Value) (s : ByteArray) (w : World) (h : Lib.IsBuilder 54 5 B b bs w) (hlen : bs.length + s.size ≤ 140737488355328) (hBw : B ≤ w.heap.size) :
    Calls Tryd.prog 17 #[.pointer (some ⟨b, 0, none⟩), .string s] w fun e w' => e = .returned (.tuple #[.int .i64 s.size, .nilIface]) ∧ (Lib.BuilderAt 54 5 B b (.pointer (some ⟨b, 0, none⟩)) (bs ++ Lib.strCells s) w' ∧ Below B w w') ∧ ∀ q t cs, At w q t cs → t ≠ 5 → q ≠ b → At w' q t cs := by
  obtain ⟨i0, hi, hz0, hz1, hz2⟩ := info_parts A_info8
  go_enter Tryd.func17, Tryd.ntmps17
  go_wp2_with fail
  refine (ccheck_c B b bs _ h).mono ?_
  rintro e w1 ⟨rfl, ⟨h1, hb1⟩, hkp⟩
  obtain ⟨hB, v, hbk, hown, hne⟩ := h1
  have c0 : w1.cell? ⟨b, 0, none⟩ = some (.pointer (some ⟨b, 0, none⟩)) := by rw [Lib.cell_of_heap hbk]; rfl
  have c1 : w1.cell? ⟨b, 1, none⟩ = some v := by rw [Lib.cell_of_heap hbk]; rfl
  go_wp2_with (at_builtin; refine Lib.wpList_append_own_string _ rfl _ _ 46 9 rfl B 5 i0 Tryd.underlying46 Tryd.underlying9 hi hz0 hz1 hz2 _ _ _ rfl hown s rfl ?c3 ?c4 ?c5 ?_)
  case c3 => unfold maxLen; omega
  case c4 => omega
  case c5 => have := hb1.size; omega
  intro v' w2 hown' hgrow _
  have hlt : b < w1.heap.size := by
    rcases Nat.lt_or_ge b w1.heap.size with h' | h'
    · exact h'
    · simp [Array.getElem?_eq_none h'] at hbk
  have hb2 : w2.heap[b]? = some (.cells #[.pointer (some ⟨b, 0, none⟩), v] 54 (0, 0)) := by
    rw [hgrow.block b hlt (fun e => hne e.symm)]
    exact hbk
  have d0 : w2.cell? ⟨b, 0, none⟩ = some (.pointer (some ⟨b, 0, none⟩)) := by rw [Lib.cell_of_heap hb2]; rfl
  have d1 : w2.cell? ⟨b, 1, none⟩ = some v := by rw [Lib.cell_of_heap hb2]; rfl
  have f1 : w2.frozen? ⟨b, 1, none⟩ = false := Lib.frozen_of_heap hb2 1
  obtain ⟨ao, n', cap, rfl⟩ : ∃ ao n' cap, v' = .slice ao n' cap := by
    rcases hown'.2 with ⟨hv, _⟩ | ⟨g, cap, cur, hv, _⟩
    · exact ⟨_, _, _, hv⟩
    · exact ⟨_, _, _, hv⟩
  go_wp2
  go_ret2
  refine ⟨rfl, ⟨?_, ?_⟩, fun q t cs hq ht hn => ?_⟩
  rotate_left
  rotate_left
  · have hA2 : At w2 q t cs := (hgrow.block q (hkp q t cs hq hn).lt (row_not (hkp q t cs hq hn) ht hown)).trans (hkp q t cs hq hn)
    exact hA2.far (by simpa using hn) _

  · exact Lib.BuilderAt.put (T := 54) (e := 5) hB hb2 (bs' := bs ++ Lib.strCells s) (by simpa [Lib.strCells_length] using hown') (by decide)
  · exact (hb1.grown hgrow (by have := hb1.size; omega) (fun k hk => (hown.lt k hk).1)).setCell (p := ⟨b, 1, none⟩) hB _
end Go.Proofs.YtgiekhohhogdiaaDoor
/- Contracts of package frame: putRanges. -/
namespace Go.Proofs.YtgiekhohhogdiaaDoor
open Go Go.RowKit
set_option linter.unusedVariables false
set_option linter.unusedSimpArgs false

/-- The slice rv reads the ranges L. -/
def RgAt (w : World) (rv : Value) (L : List (Int × Int)) : Prop := ∃ a cap, rv = .slice a L.length cap ∧ ∀ i (hi : i < L.length), ∃ g off, a = some ⟨g, off, none⟩ ∧ g < w.heap.size ∧
  w.cell? ⟨g, off + i * 2, none⟩ = some (.int .i64 (L[i]'hi).1) ∧ w.cell? ⟨g, off + i * 2 + 1, none⟩ = some (.int .i64 (L[i]'hi).2) ∧
  (-9223372036854775808 ≤ (L[i]'hi).1 ∧ (L[i]'hi).1 ≤ 9223372036854775807) ∧ (-9223372036854775808 ≤ (L[i]'hi).2 ∧ (L[i]'hi).2 ≤ 9223372036854775807)
theorem RgAt.keep {w w' : World} {rv : Value} {L : List (Int × Int)} (h : RgAt w rv L) (ho : Only [] w w') : RgAt w' rv L := by
  obtain ⟨a, cap, rfl, hc⟩ := h
  refine ⟨a, cap, rfl, fun i hi => ?_⟩
  obtain ⟨g, off, e, hg, c1, c2, r1, r2⟩ := hc i hi
  exact ⟨g, off, e, Nat.lt_of_lt_of_le hg ho.size, (ho.cell (p := ⟨g, off + i * 2, none⟩) hg (by simp)).trans c1, (ho.cell (p := ⟨g, off + i * 2 + 1, none⟩) hg (by simp)).trans c2, r1, r2⟩
theorem sb_keep {T e : TypeId} {B b : Nat} {p : Value} {bs : List Value} {w w' : World} (h : Lib.BuilderAt T e B b p bs w) (ho : Only [] w w') : Lib.BuilderAt T e B b p bs w' := by
  obtain ⟨h1, v, h2, h3, h4⟩ := h
  have hlt : b < w.heap.size := (Array.getElem?_eq_some_iff.1 h2).1
  refine ⟨h1, v, (ho.block b hlt (by simp)).trans h2, ?_, h4⟩
  refine ⟨h3.1, ?_⟩
  rcases h3.2 with h5 | ⟨g, cap, cur, rfl, hb, hg, r⟩
  · exact .inl h5
  · exact .inr ⟨g, cap, cur, rfl, hb, (ho.block g (Array.getElem?_eq_some_iff.1 hg).1 (by simp)).trans hg, r⟩
theorem only_bel {w a b : World} (h : Only [] w a) (k : Below w.heap.size a b) : Only [] w b :=
  ⟨k.os.trans h.os, k.tape.trans h.tape, k.output.trans h.output, Nat.le_trans h.size k.size, fun i hi hn => (k.block i hi).trans (h.block i hi hn)⟩
theorem w64_bd (x : Int) : -9223372036854775808 ≤ w64 x ∧ w64 x ≤ 9223372036854775807 := by
  unfold w64; rw [IntKind.wrap_i64]; omega
theorem numE_len {n most : Int} {a : List UInt8} (h : numE n most = some a) : a.length ≤ 8 := by
  obtain ⟨_, _, _, rfl⟩ := numE_some h
  rw [vEnc_len]
  unfold vWid; split <;> (try split) <;> (try split) <;> omega
def RngRel (w : World) (L : List (Int × Int)) (hd : List UInt8) (gk : Nat) (fr ix : Value) (wr : World) : Prop :=
  ∃ (k : Nat) (from' : Int) (acc : List UInt8), gk = L.length - k ∧ k ≤ L.length ∧ ix = .int .i64 k ∧ fr = .int .i64 from' ∧ acc.length ≤ 16 * k ∧
    Lib.BuilderAt 54 5 w.heap.size w.heap.size (.pointer (some ⟨w.heap.size, 0, none⟩)) (Lib.byteCells (hd ++ acc)) wr ∧
    rngE true 281474976710658 L = (rngE (decide (k = 0)) from' (L.drop k)).map (acc ++ ·) ∧ (-9223372036854775808 ≤ from' ∧ from' ≤ 9223372036854775807) ∧ Only [] w wr
set_option maxRecDepth 100000 in
set_option maxHeartbeats 4000000 in
theorem put_ranges (b : Nat) (f : Fr) (rv : Value) (w : World) (hA : FrAt w b f rv) (hR : RgAt w rv f.rg) (hsz : f.rg.length ≤ 4611686018427387903) :
    Calls Tryd.prog 49 #[.pointer (some ⟨b, 0, none⟩)] w fun e w' => e = strE (putP .ranges f) ∧ Only [] w w' := by
  have c9 : w.cell? ⟨b, 9, none⟩ = some rv := At.cell hA 9 rfl
  have HA := Lib.hid hA
  have HR := Lib.hid hR
  obtain ⟨a, cap, rfl, hcs⟩ := hR
  obtain ⟨L, hL⟩ : ∃ L, f.rg = L := ⟨_, rfl⟩
  obtain ⟨R, hR0⟩ : ∃ R, putP .ranges f = R := ⟨_, rfl⟩
  rw [hR0]
  simp only [putP] at hR0
  rw [hL] at hcs hsz c9 HR hR0
  have hbl := At.lt hA
  clear hA
  by_cases h0 : L = []
  · rw [if_pos h0] at hR0
    subst hR0
    simp only [strE, MAL]
    have h0' : ((L.length : Int) == 0) = true := by rw [h0]; rfl
    clear h0 hcs
    go_enter Tryd.func49, Tryd.ntmps49
    go_wp2_with fail
    exact ⟨rfl, rfl, (Only.refl [] w)⟩
  · rw [if_neg h0] at hR0
    have hL1 : 0 < L.length := by rcases L with _ | ⟨x, L⟩ <;> simp_all
    have h0' : ((L.length : Int) == 0) = false := beq_eq_false_iff_ne.2 (by omega)
    have hcl := fun ww => number_c (L.length : Int) 16 (by omega) ww
    cases hE : numE (L.length : Int) 16 with
    | none =>
      simp only [hE] at hR0
      subst hR0
      simp only [hE, strE, MAL] at hcl ⊢
      clear hE h0 hcs
      go_enter Tryd.func49, Tryd.ntmps49
      go_wp2_with fail
      refine (hcl _).mono ?_
      rintro e w2 ⟨rfl, ho⟩
      exact ⟨rfl, rfl, ((Only.refl [] w).alloc _).trans ho⟩
    | some hd =>
      have hd8 := numE_len hE
      have e1 := (numE_some hE).1
      rw [hE] at hR0
      have HR0 := Lib.hid hR0
      clear hR0
      simp only [hE, strE] at hcl
      clear hE h0
      go_enter Tryd.func49, Tryd.ntmps49
      go_wp2_with fail
      refine (hcl _).mono ?_
      rintro e w2 ⟨rfl, ho⟩
      have hsb : Lib.BuilderAt 54 5 w.heap.size w.heap.size (.pointer none) [] w2 := sb_keep ⟨Nat.le_refl _, .slice none 0 0, At.new _ _ _, World.ownsRow_nil _ _ _ _, by simp [Value.ownBlock]⟩ ho
      have hO2 : Only [] w w2 := ((Only.refl [] w).alloc _).trans ho
      have HO2 := Lib.hid hO2
      have hwr := write_c w.heap.size w.heap.size [] (strB hd) w2 (.inl hsb) (by rw [strB_size]; simp; omega) hO2.size
      rw [List.nil_append, Lib.strCells_eq, strB_list] at hwr
      clear ho hsb hO2
      go_wp2_with fail
      refine hwr.mono ?_
      rintro e w3 ⟨rfl, ⟨hsb, hb3⟩, _⟩
      have hO3 : Only [] w w3 := only_bel HO2.out hb3
      have HSB := Lib.hid hsb
      have HO3 := Lib.hid hO3
      have c9' : w3.cell? ⟨b, 9, none⟩ = some (.slice a L.length cap) := (hO3.cell (p := ⟨b, 9, none⟩) hbl (by simp)).trans c9
      clear hsb hb3 hO3 HO2 hwr hcl c9
      go_wp2_with fail
      go_loopg [4, 28] L.length (fun gk fr ix wr => RngRel w L hd gk fr ix wr)
      case atStart => exact ⟨0, 281474976710658, [], by simp, by omega, rfl, rfl, by simp, by rw [List.append_nil]; exact HSB.out, by simp, by omega, HO3.out⟩
      case round =>
        obtain ⟨k, fr, acc, rfl, hk, rfl, rfl, hacc, hsb, hrng, hfr, hO⟩ := hrel
        have HSBr := Lib.hid hsb
        have HRng := Lib.hid hrng
        have HO := Lib.hid hO
        clear HSB HO3 hsb hrng c9'
        by_cases hlt : k < L.length
        · have hlt' : (k : Int) < L.length := by omega
          obtain ⟨g, off, rfl, hg, q1, q2, r1, r2⟩ := hcs k hlt
          obtain ⟨F, hF⟩ : ∃ F, (L[k]'hlt).1 = F := ⟨_, rfl⟩
          obtain ⟨T, hT⟩ : ∃ T, (L[k]'hlt).2 = T := ⟨_, rfl⟩
          have HD : Hid (L.drop k = (F, T) :: L.drop (k + 1)) := Lib.hid (by rw [List.drop_eq_getElem_cons hlt, ← hF, ← hT])
          rw [hF] at q1 r1
          rw [hT] at q2 r2
          have p1 := (hO.cell (p := ⟨g, off + k * 2, none⟩) hg (by simp)).trans q1
          have p2 := (hO.cell (p := ⟨g, off + k * 2 + 1, none⟩) hg (by simp)).trans q2
          have hk17 : k ≤ 16 := by omega
          have f9 : IntKind.i64.wrap ((k : Int) + 1) = ((k + 1 : Nat) : Int) := by rw [show (k : Int) + 1 = ((k + 1 : Nat) : Int) by omega]; exact IntWalk.i64_in _ (by omega)
          obtain ⟨M, hM⟩ : ∃ M, IntKind.i64.wrap (T - 1) = M := ⟨_, rfl⟩
          obtain ⟨M2, hM2⟩ : ∃ M2, IntKind.i64.wrap (fr - T) = M2 := ⟨_, rfl⟩
          obtain ⟨M3, hM3⟩ : ∃ M3, IntKind.i64.wrap (M2 - 1) = M3 := ⟨_, rfl⟩
          obtain ⟨D1, hD1⟩ : ∃ D1, IntKind.i64.wrap (T - F) = D1 := ⟨_, rfl⟩
          obtain ⟨D2, hD2⟩ : ∃ D2, IntKind.i64.wrap (D1 - 1) = D2 := ⟨_, rfl⟩
          have bD2 : -9223372036854775808 ≤ D2 ∧ D2 ≤ 9223372036854775807 := by rw [← hD2]; exact w64_bd _
          have bM : -9223372036854775808 ≤ M ∧ M ≤ 9223372036854775807 := by rw [← hM]; exact w64_bd _
          have bM3 : -9223372036854775808 ≤ M3 ∧ M3 ≤ 9223372036854775807 := by rw [← hM3]; exact w64_bd _
          have HW : Hid (∀ i0 : Bool, rngE i0 fr ((F, T) :: L.drop (k + 1)) = if F < 0 ∨ 281474976710656 < T ∨ fr ≤ T then none else
              match numE (if i0 then M else M3) 4611686018427387903, numE D2 4611686018427387903, rngE false F (L.drop (k + 1)) with
              | some a, some b, some c => some (a ++ b ++ c)
              | _, _, _ => none) := Lib.hid (fun i0 => by simp only [rngE, w64, hM, hM2, hM3, hD1, hD2]; rfl)
          clear hF hT q1 q2 hcs hO
          by_cases hk0 : k = 0
          · have hkI : (k : Int) = 0 := by omega
            have hk1 : ¬ (0 : Int) < k := by omega
            have HR2 : Hid (rngE true 281474976710658 L = (if F < 0 ∨ 281474976710656 < T ∨ fr ≤ T then none else
              match numE M 4611686018427387903, numE D2 4611686018427387903, rngE false F (L.drop (k + 1)) with
              | some a, some b, some c => some (a ++ b ++ c)
              | _, _, _ => none).map (acc ++ ·)) := Lib.hid (by rw [HRng.out, HD.out, HW.out, decide_eq_true hk0]; rfl)
            have p1z : wr.cell? ⟨g, off, none⟩ = some (.int .i64 F) := by have := p1; rw [hk0] at this; simpa using this
            have p2z : wr.cell? ⟨g, off + 1, none⟩ = some (.int .i64 T) := by have := p2; rw [hk0] at this; simpa using this
            clear p1 p2
            clear hk0
            by_cases x1 : F < 0
            · have HE : Hid (rngE true 281474976710658 L = none) := Lib.hid (by rw [HR2.out, if_pos (.inl x1)]; rfl)
              go_wp2_with fail
              exact ⟨rfl, by rw [← HR0.out, HE.out]; rfl, HO.out.alloc _⟩
            by_cases x2 : 281474976710656 < T
            · have HE : Hid (rngE true 281474976710658 L = none) := Lib.hid (by rw [HR2.out, if_pos (.inr (.inl x2))]; rfl)
              go_wp2_with fail
              exact ⟨rfl, by rw [← HR0.out, HE.out]; rfl, HO.out.alloc _⟩
            by_cases x3 : fr ≤ T
            · have HE : Hid (rngE true 281474976710658 L = none) := Lib.hid (by rw [HR2.out, if_pos (.inr (.inr x3))]; rfl)
              go_wp2_with fail
              exact ⟨rfl, by rw [← HR0.out, HE.out]; rfl, HO.out.alloc _⟩
            have HR3 : Hid (rngE true 281474976710658 L = (match numE M 4611686018427387903, numE D2 4611686018427387903, rngE false F (L.drop (k + 1)) with
              | some a, some b, some c => some (a ++ b ++ c)
              | _, _, _ => none).map (acc ++ ·)) := Lib.hid (by rw [HR2.out, if_neg (fun h => h.elim x1 (fun h => h.elim x2 x3))])
            have hc1 := fun ww => number_c M 4611686018427387903 bM ww
            have hc2 := fun ww => number_c D2 4611686018427387903 bD2 ww
            go_upto_region 14 with fail
            have hbx := At.new wr 114 #[.int .i64 F, .int .i64 T]
            have hOx := HO.out.alloc (.cells #[.int .i64 F, .int .i64 T] 114)
            have hsx := sb_keep HSBr.out ((Only.refl [] wr).alloc (.cells #[.int .i64 F, .int .i64 T] 114))
            generalize hwx : wr.alloc (.cells #[.int .i64 F, .int .i64 T] 114) = wx at hbx hOx hsx ⊢
            obtain ⟨bx, hbxe⟩ : ∃ bx, wr.heap.size = bx := ⟨_, rfl⟩
            rw [hbxe] at hbx ⊢
            have cF : wx.drew.cell? ⟨bx, 0, none⟩ = some (.int .i64 F) := hbx.cell 0 rfl
            have cT : wx.drew.cell? ⟨bx, 1, none⟩ = some (.int .i64 T) := hbx.cell 1 rfl
            have HBX := Lib.hid hbx
            have HBXne : Hid (bx ≠ w.heap.size) := Lib.hid (by have := HSBr.out; obtain ⟨h1, v, h2, _⟩ := this; have := (Array.getElem?_eq_some_iff.1 h2).1; omega)
            have HOX := Lib.hid hOx
            have HSX : Hid (Lib.BuilderAt 54 5 w.heap.size w.heap.size (.pointer (some ⟨w.heap.size, 0, none⟩)) (Lib.byteCells (hd ++ acc)) wx.drew) := Lib.hid hsx
            clear hwx hbxe hbx hOx hsx p1z p2z HSBr HO
            cases hE1 : numE M 4611686018427387903 with
            | none =>
              have HE : Hid (rngE true 281474976710658 L = none) := Lib.hid (by rw [HR3.out, hE1]; rfl)
              simp only [hE1, strE, MAL] at hc1
              clear hE1
              refine wp_region_held_drew (S := fun w' => w'.cell? ⟨bx, 0, none⟩ = some (.int .i64 F) ∧ w'.cell? ⟨bx, 1, none⟩ = some (.int .i64 T)) (by kernel_rfl) (by exact ⟨cF, cT⟩) (fun hHeld => ?_)
              refine wpAnyH_take (i := 0) (v := ?_) rfl (by kernel_rfl) (by kernel_rfl) (by kernel_rfl) (fun _ _ _ h => h) (Or.inl ⟨by kernel_rfl, ?_⟩) (by assumption) ?_
              rotate_left
              · intro wS hSw
                try dsimp only at hSw
                go_simp
                try with_reducible rfl
              simp only [List.getElem_toArray, List.getElem_cons_succ, List.getElem_cons_zero, Act.put, List.setIfInBounds_toArray, List.set_cons_zero, List.set_cons_succ]
              refine wpAnyH_take (i := 2) (v := ?_) rfl (by kernel_rfl) (by kernel_rfl) (by kernel_rfl) (fun _ _ _ h => h) (Or.inl ⟨by kernel_rfl, ?_⟩) (by assumption) ?_
              rotate_left
              · intro wS hSw
                try dsimp only at hSw
                go_simp
                try with_reducible rfl
              simp only [List.getElem_toArray, List.getElem_cons_succ, List.getElem_cons_zero, Act.put, List.setIfInBounds_toArray, List.set_cons_zero, List.set_cons_succ]
              refine wpAnyH_take (i := 3) (v := ?_) rfl (by kernel_rfl) (by kernel_rfl) (by kernel_rfl) (fun _ _ _ h => h) (Or.inl ⟨by kernel_rfl, ?_⟩) (by assumption) ?_
              rotate_left
              · intro wS hSw
                try dsimp only at hSw
                go_simp
                try with_reducible rfl
              simp only [List.getElem_toArray, List.getElem_cons_succ, List.getElem_cons_zero, Act.put, List.setIfInBounds_toArray, List.set_cons_zero, List.set_cons_succ]
              refine wpAnyH_take (i := 4) (v := ?_) rfl (by kernel_rfl) (by kernel_rfl) (by kernel_rfl) (fun _ _ _ h => h) (Or.inl ⟨by kernel_rfl, ?_⟩) (by assumption) ?_
              rotate_left
              · intro wS hSw
                try dsimp only at hSw
                go_simp
                try with_reducible rfl
              simp only [List.getElem_toArray, List.getElem_cons_succ, List.getElem_cons_zero, Act.put, List.setIfInBounds_toArray, List.set_cons_zero, List.set_cons_succ]
              refine wpAnyH_take (i := 5) (v := ?_) rfl (by kernel_rfl) (by kernel_rfl) (by kernel_rfl) (fun _ _ _ h => h) (Or.inl ⟨by kernel_rfl, ?_⟩) (by assumption) ?_
              rotate_left
              · intro wS hSw
                try dsimp only at hSw
                go_simp
                try with_reducible rfl
              simp only [List.getElem_toArray, List.getElem_cons_succ, List.getElem_cons_zero, Act.put, List.setIfInBounds_toArray, List.set_cons_zero, List.set_cons_succ]
              refine wpAnyH_take (i := 6) (v := ?_) rfl (by kernel_rfl) (by kernel_rfl) (by kernel_rfl) (fun _ _ _ h => h) (Or.inl ⟨by kernel_rfl, ?_⟩) (by assumption) ?_
              rotate_left
              · intro wS hSw
                try dsimp only at hSw
                go_simp
                try with_reducible rfl
              simp only [List.getElem_toArray, List.getElem_cons_succ, List.getElem_cons_zero, Act.put, List.setIfInBounds_toArray, List.set_cons_zero, List.set_cons_succ]
              refine wpAnyH_take (i := 7) (v := ?_) rfl (by kernel_rfl) (by kernel_rfl) (by kernel_rfl) (fun _ _ _ h => h) (Or.inl ⟨by kernel_rfl, ?_⟩) (by assumption) ?_
              rotate_left
              · intro wS hSw
                try dsimp only at hSw
                go_simp
                try with_reducible rfl
              simp only [List.getElem_toArray, List.getElem_cons_succ, List.getElem_cons_zero, Act.put, List.setIfInBounds_toArray, List.set_cons_zero, List.set_cons_succ]
              refine wpAnyH_ready (rs := [1]) (by kernel_rfl) (by simp) ?_
              refine AllReadyH.cons rfl (fun K hK => ?_) AllReadyH.nil
              go_simp
              refine (hc1 _).mono ?_
              rintro e w2 ⟨rfl, ho⟩
              exact ⟨rfl, by rw [← HR0.out, HE.out]; rfl, HOX.out.drew.trans ho⟩
            | some s1 =>
              have h18 := numE_len hE1
              cases hE2 : numE D2 4611686018427387903 with
              | none =>
                have HE : Hid (rngE true 281474976710658 L = none) := Lib.hid (by rw [HR3.out, hE1, hE2]; rfl)
                simp only [hE1, strE] at hc1
                simp only [hE2, strE, MAL] at hc2
                clear hE1 hE2
                refine wp_region_held_drew (S := fun w' => w'.cell? ⟨bx, 0, none⟩ = some (.int .i64 F) ∧ w'.cell? ⟨bx, 1, none⟩ = some (.int .i64 T)) (by kernel_rfl) (by exact ⟨cF, cT⟩) (fun hHeld => ?_)
                refine wpAnyH_take (i := 0) (v := ?_) rfl (by kernel_rfl) (by kernel_rfl) (by kernel_rfl) (fun _ _ _ h => h) (Or.inl ⟨by kernel_rfl, ?_⟩) (by assumption) ?_
                rotate_left
                · intro wS hSw
                  try dsimp only at hSw
                  go_simp
                  try with_reducible rfl
                simp only [List.getElem_toArray, List.getElem_cons_succ, List.getElem_cons_zero, Act.put, List.setIfInBounds_toArray, List.set_cons_zero, List.set_cons_succ]
                refine wpAnyH_take (i := 2) (v := ?_) rfl (by kernel_rfl) (by kernel_rfl) (by kernel_rfl) (fun _ _ _ h => h) (Or.inl ⟨by kernel_rfl, ?_⟩) (by assumption) ?_
                rotate_left
                · intro wS hSw
                  try dsimp only at hSw
                  go_simp
                  try with_reducible rfl
                simp only [List.getElem_toArray, List.getElem_cons_succ, List.getElem_cons_zero, Act.put, List.setIfInBounds_toArray, List.set_cons_zero, List.set_cons_succ]
                refine wpAnyH_take (i := 3) (v := ?_) rfl (by kernel_rfl) (by kernel_rfl) (by kernel_rfl) (fun _ _ _ h => h) (Or.inl ⟨by kernel_rfl, ?_⟩) (by assumption) ?_
                rotate_left
                · intro wS hSw
                  try dsimp only at hSw
                  go_simp
                  try with_reducible rfl
                simp only [List.getElem_toArray, List.getElem_cons_succ, List.getElem_cons_zero, Act.put, List.setIfInBounds_toArray, List.set_cons_zero, List.set_cons_succ]
                refine wpAnyH_take (i := 4) (v := ?_) rfl (by kernel_rfl) (by kernel_rfl) (by kernel_rfl) (fun _ _ _ h => h) (Or.inl ⟨by kernel_rfl, ?_⟩) (by assumption) ?_
                rotate_left
                · intro wS hSw
                  try dsimp only at hSw
                  go_simp
                  try with_reducible rfl
                simp only [List.getElem_toArray, List.getElem_cons_succ, List.getElem_cons_zero, Act.put, List.setIfInBounds_toArray, List.set_cons_zero, List.set_cons_succ]
                refine wpAnyH_take (i := 5) (v := ?_) rfl (by kernel_rfl) (by kernel_rfl) (by kernel_rfl) (fun _ _ _ h => h) (Or.inl ⟨by kernel_rfl, ?_⟩) (by assumption) ?_
                rotate_left
                · intro wS hSw
                  try dsimp only at hSw
                  go_simp
                  try with_reducible rfl
                simp only [List.getElem_toArray, List.getElem_cons_succ, List.getElem_cons_zero, Act.put, List.setIfInBounds_toArray, List.set_cons_zero, List.set_cons_succ]
                refine wpAnyH_take (i := 6) (v := ?_) rfl (by kernel_rfl) (by kernel_rfl) (by kernel_rfl) (fun _ _ _ h => h) (Or.inl ⟨by kernel_rfl, ?_⟩) (by assumption) ?_
                rotate_left
                · intro wS hSw
                  try dsimp only at hSw
                  go_simp
                  try with_reducible rfl
                simp only [List.getElem_toArray, List.getElem_cons_succ, List.getElem_cons_zero, Act.put, List.setIfInBounds_toArray, List.set_cons_zero, List.set_cons_succ]
                refine wpAnyH_take (i := 7) (v := ?_) rfl (by kernel_rfl) (by kernel_rfl) (by kernel_rfl) (fun _ _ _ h => h) (Or.inl ⟨by kernel_rfl, ?_⟩) (by assumption) ?_
                rotate_left
                · intro wS hSw
                  try dsimp only at hSw
                  go_simp
                  try with_reducible rfl
                simp only [List.getElem_toArray, List.getElem_cons_succ, List.getElem_cons_zero, Act.put, List.setIfInBounds_toArray, List.set_cons_zero, List.set_cons_succ]
                refine wpAnyH_ready (rs := [1]) (by kernel_rfl) (by simp) ?_
                refine AllReadyH.cons rfl (fun K hK => ?_) AllReadyH.nil
                go_simp
                refine (hc1 _).mono ?_
                rintro e w2 ⟨rfl, ho⟩
                have HO4 := Lib.hid ho
                have dF := (ho.cell (p := ⟨bx, 0, none⟩) (World.block_lt_of_cell? _ _ cF) (by simp)).trans cF
                have dT := (ho.cell (p := ⟨bx, 1, none⟩) (World.block_lt_of_cell? _ _ cT) (by simp)).trans cT
                clear ho
                refine hK.out _ _ (by exact ⟨dF, dT⟩) (fun hHeld' => ?_)
                clear hHeld hK K
                have hHeld := hHeld'
                clear hHeld'
                refine wpAnyH_ready (rs := [8]) (by kernel_rfl) (by simp) ?_
                refine AllReadyH.cons rfl (fun K hK => ?_) AllReadyH.nil
                go_simp
                refine (hc2 _).mono ?_
                rintro e w2 ⟨rfl, ho⟩
                exact ⟨rfl, by rw [← HR0.out, HE.out]; rfl, (HOX.out.drew.trans HO4.out).trans ho⟩
              | some s2 =>
                have h28 := numE_len hE2
                have HE : Hid (rngE true 281474976710658 L = (rngE false F (L.drop (k + 1))).map ((acc ++ (s1 ++ s2)) ++ ·)) := Lib.hid (by
                  rw [HR3.out, hE1, hE2]
                  cases rngE false F (L.drop (k + 1)) <;> simp)
                simp only [hE1, strE] at hc1
                simp only [hE2, strE] at hc2
                have hz1 : (strB s1).size = s1.length := strB_size s1
                have hz2 : (strB s2).size = s2.length := strB_size s2
                have hzz : ¬ 9223372036854775807 < s1.length + s2.length := by omega
                clear hE1 hE2
                refine wp_region_held_drew (S := fun w' => w'.cell? ⟨bx, 0, none⟩ = some (.int .i64 F) ∧ w'.cell? ⟨bx, 1, none⟩ = some (.int .i64 T)) (by kernel_rfl) (by exact ⟨cF, cT⟩) (fun hHeld => ?_)
                refine wpAnyH_take (i := 0) (v := ?_) rfl (by kernel_rfl) (by kernel_rfl) (by kernel_rfl) (fun _ _ _ h => h) (Or.inl ⟨by kernel_rfl, ?_⟩) (by assumption) ?_
                rotate_left
                · intro wS hSw
                  try dsimp only at hSw
                  go_simp
                  try with_reducible rfl
                simp only [List.getElem_toArray, List.getElem_cons_succ, List.getElem_cons_zero, Act.put, List.setIfInBounds_toArray, List.set_cons_zero, List.set_cons_succ]
                refine wpAnyH_take (i := 2) (v := ?_) rfl (by kernel_rfl) (by kernel_rfl) (by kernel_rfl) (fun _ _ _ h => h) (Or.inl ⟨by kernel_rfl, ?_⟩) (by assumption) ?_
                rotate_left
                · intro wS hSw
                  try dsimp only at hSw
                  go_simp
                  try with_reducible rfl
                simp only [List.getElem_toArray, List.getElem_cons_succ, List.getElem_cons_zero, Act.put, List.setIfInBounds_toArray, List.set_cons_zero, List.set_cons_succ]
                refine wpAnyH_take (i := 3) (v := ?_) rfl (by kernel_rfl) (by kernel_rfl) (by kernel_rfl) (fun _ _ _ h => h) (Or.inl ⟨by kernel_rfl, ?_⟩) (by assumption) ?_
                rotate_left
                · intro wS hSw
                  try dsimp only at hSw
                  go_simp
                  try with_reducible rfl
                simp only [List.getElem_toArray, List.getElem_cons_succ, List.getElem_cons_zero, Act.put, List.setIfInBounds_toArray, List.set_cons_zero, List.set_cons_succ]
                refine wpAnyH_take (i := 4) (v := ?_) rfl (by kernel_rfl) (by kernel_rfl) (by kernel_rfl) (fun _ _ _ h => h) (Or.inl ⟨by kernel_rfl, ?_⟩) (by assumption) ?_
                rotate_left
                · intro wS hSw
                  try dsimp only at hSw
                  go_simp
                  try with_reducible rfl
                simp only [List.getElem_toArray, List.getElem_cons_succ, List.getElem_cons_zero, Act.put, List.setIfInBounds_toArray, List.set_cons_zero, List.set_cons_succ]
                refine wpAnyH_take (i := 5) (v := ?_) rfl (by kernel_rfl) (by kernel_rfl) (by kernel_rfl) (fun _ _ _ h => h) (Or.inl ⟨by kernel_rfl, ?_⟩) (by assumption) ?_
                rotate_left
                · intro wS hSw
                  try dsimp only at hSw
                  go_simp
                  try with_reducible rfl
                simp only [List.getElem_toArray, List.getElem_cons_succ, List.getElem_cons_zero, Act.put, List.setIfInBounds_toArray, List.set_cons_zero, List.set_cons_succ]
                refine wpAnyH_take (i := 6) (v := ?_) rfl (by kernel_rfl) (by kernel_rfl) (by kernel_rfl) (fun _ _ _ h => h) (Or.inl ⟨by kernel_rfl, ?_⟩) (by assumption) ?_
                rotate_left
                · intro wS hSw
                  try dsimp only at hSw
                  go_simp
                  try with_reducible rfl
                simp only [List.getElem_toArray, List.getElem_cons_succ, List.getElem_cons_zero, Act.put, List.setIfInBounds_toArray, List.set_cons_zero, List.set_cons_succ]
                refine wpAnyH_take (i := 7) (v := ?_) rfl (by kernel_rfl) (by kernel_rfl) (by kernel_rfl) (fun _ _ _ h => h) (Or.inl ⟨by kernel_rfl, ?_⟩) (by assumption) ?_
                rotate_left
                · intro wS hSw
                  try dsimp only at hSw
                  go_simp
                  try with_reducible rfl
                simp only [List.getElem_toArray, List.getElem_cons_succ, List.getElem_cons_zero, Act.put, List.setIfInBounds_toArray, List.set_cons_zero, List.set_cons_succ]
                refine wpAnyH_ready (rs := [1]) (by kernel_rfl) (by simp) ?_
                refine AllReadyH.cons rfl (fun K hK => ?_) AllReadyH.nil
                go_simp
                refine (hc1 _).mono ?_
                rintro e w4 ⟨rfl, ho⟩
                have HO4 := Lib.hid ho
                have dF := (ho.cell (p := ⟨bx, 0, none⟩) (World.block_lt_of_cell? _ _ cF) (by simp)).trans cF
                have dT := (ho.cell (p := ⟨bx, 1, none⟩) (World.block_lt_of_cell? _ _ cT) (by simp)).trans cT
                clear ho
                refine hK.out _ _ (by exact ⟨dF, dT⟩) (fun hHeld' => ?_)
                clear hHeld hK K
                have hHeld := hHeld'
                clear hHeld'
                refine wpAnyH_ready (rs := [8]) (by kernel_rfl) (by simp) ?_
                refine AllReadyH.cons rfl (fun K hK => ?_) AllReadyH.nil
                go_simp
                refine (hc2 _).mono ?_
                rintro e w5 ⟨rfl, ho⟩
                have HO5 := Lib.hid ho
                have eF := (ho.cell (p := ⟨bx, 0, none⟩) (World.block_lt_of_cell? _ _ dF) (by simp)).trans dF
                have eT := (ho.cell (p := ⟨bx, 1, none⟩) (World.block_lt_of_cell? _ _ dT) (by simp)).trans dT
                clear ho
                refine hK.out _ _ (by exact ⟨eF, eT⟩) (fun hHeld' => ?_)
                clear hHeld hK K
                have hHeld := hHeld'
                clear hHeld'
                refine wpAnyH_take (i := 9) (v := ?_) rfl (by kernel_rfl) (by kernel_rfl) (by kernel_rfl) (fun _ _ _ h => h) (Or.inl ⟨by kernel_rfl, ?_⟩) (by assumption) ?_
                rotate_left
                · intro wS hSw
                  try dsimp only at hSw
                  go_simp
                  try with_reducible rfl
                simp only [List.getElem_toArray, List.getElem_cons_succ, List.getElem_cons_zero, Act.put, List.setIfInBounds_toArray, List.set_cons_zero, List.set_cons_succ]
                have hsb5 := sb_keep (sb_keep HSX.out HO4.out) HO5.out
                have hO5 := (HOX.out.drew.trans HO4.out).trans HO5.out
                have hwr := write_c w.heap.size w.heap.size (Lib.byteCells (hd ++ acc)) (strB s1 ++ strB s2) w5 (.inr hsb5) (by rw [← strB_app, strB_size, Lib.byteCells_length]; simp; omega) hO5.size
                have hcc : Lib.byteCells (hd ++ acc) ++ Lib.strCells (strB s1 ++ strB s2) = Lib.byteCells (hd ++ (acc ++ (s1 ++ s2))) := by rw [← strB_app, Lib.strCells_eq, strB_list, ← Lib.byteCells_append]; simp
                rw [hcc] at hwr
                have HO6 := Lib.hid hO5
                clear hsb5 hO5 hcc
                refine wpAnyH_ready (rs := [10]) (by kernel_rfl) (by simp) ?_
                refine AllReadyH.cons rfl (fun K hK => ?_) AllReadyH.nil
                go_simp
                refine hwr.mono ?_
                rintro e w6 ⟨rfl, ⟨hsb6, hb6⟩, hkp⟩
                have HSB6 := Lib.hid hsb6
                have HO7 := Lib.hid (only_bel HO6.out hb6)
                have hA6 := hkp bx _ _ ((HBX.out.drew.keep HO4.out (by simp)).keep HO5.out (by simp)) (by decide) (by have := HBXne.out; omega)
                have gF : w6.cell? ⟨bx, 0, none⟩ = some (.int .i64 F) := hA6.cell 0 rfl
                have gT : w6.cell? ⟨bx, 1, none⟩ = some (.int .i64 T) := hA6.cell 1 rfl
                clear hA6 hkp
                refine hK.out _ _ (by exact ⟨gF, gT⟩) (fun hHeld' => ?_)
                clear hHeld hK K hsb6 hb6 hwr
                refine wpAnyH_done (by kernel_rfl) ?_ _
                go_wp2_with fail
                go_roundg (L.length - (k + 1))
                case measure => omega
                case rel =>
                  refine ⟨k + 1, F, acc ++ (s1 ++ s2), rfl, by omega, by simp <;> omega, rfl, by simp; omega, HSB6.out, ?_, r1, HO7.out⟩
                  rw [HE.out, decide_eq_false (by omega)]
          · have hkI : (0 : Int) < k := by omega
            have HR2 : Hid (rngE true 281474976710658 L = (if F < 0 ∨ 281474976710656 < T ∨ fr ≤ T then none else
              match numE M3 4611686018427387903, numE D2 4611686018427387903, rngE false F (L.drop (k + 1)) with
              | some a, some b, some c => some (a ++ b ++ c)
              | _, _, _ => none).map (acc ++ ·)) := Lib.hid (by rw [HRng.out, HD.out, HW.out, decide_eq_false hk0]; rfl)
            have p1z := p1
            have p2z := p2
            clear p1 p2
            clear hk0
            by_cases x1 : F < 0
            · have HE : Hid (rngE true 281474976710658 L = none) := Lib.hid (by rw [HR2.out, if_pos (.inl x1)]; rfl)
              go_wp2_with fail
              exact ⟨rfl, by rw [← HR0.out, HE.out]; rfl, HO.out.alloc _⟩
            by_cases x2 : 281474976710656 < T
            · have HE : Hid (rngE true 281474976710658 L = none) := Lib.hid (by rw [HR2.out, if_pos (.inr (.inl x2))]; rfl)
              go_wp2_with fail
              exact ⟨rfl, by rw [← HR0.out, HE.out]; rfl, HO.out.alloc _⟩
            by_cases x3 : fr ≤ T
            · have HE : Hid (rngE true 281474976710658 L = none) := Lib.hid (by rw [HR2.out, if_pos (.inr (.inr x3))]; rfl)
              go_wp2_with fail
              exact ⟨rfl, by rw [← HR0.out, HE.out]; rfl, HO.out.alloc _⟩
            have HR3 : Hid (rngE true 281474976710658 L = (match numE M3 4611686018427387903, numE D2 4611686018427387903, rngE false F (L.drop (k + 1)) with
              | some a, some b, some c => some (a ++ b ++ c)
              | _, _, _ => none).map (acc ++ ·)) := Lib.hid (by rw [HR2.out, if_neg (fun h => h.elim x1 (fun h => h.elim x2 x3))])
            have hc1 := fun ww => number_c M3 4611686018427387903 bM3 ww
            have hc2 := fun ww => number_c D2 4611686018427387903 bD2 ww
            go_upto_region 14 with fail
            have hbx := At.new wr 114 #[.int .i64 F, .int .i64 T]
            have hOx := HO.out.alloc (.cells #[.int .i64 F, .int .i64 T] 114)
            have hsx := sb_keep HSBr.out ((Only.refl [] wr).alloc (.cells #[.int .i64 F, .int .i64 T] 114))
            generalize hwx : wr.alloc (.cells #[.int .i64 F, .int .i64 T] 114) = wx at hbx hOx hsx ⊢
            obtain ⟨bx, hbxe⟩ : ∃ bx, wr.heap.size = bx := ⟨_, rfl⟩
            rw [hbxe] at hbx ⊢
            have cF : wx.drew.cell? ⟨bx, 0, none⟩ = some (.int .i64 F) := hbx.cell 0 rfl
            have cT : wx.drew.cell? ⟨bx, 1, none⟩ = some (.int .i64 T) := hbx.cell 1 rfl
            have HBX := Lib.hid hbx
            have HBXne : Hid (bx ≠ w.heap.size) := Lib.hid (by have := HSBr.out; obtain ⟨h1, v, h2, _⟩ := this; have := (Array.getElem?_eq_some_iff.1 h2).1; omega)
            have HOX := Lib.hid hOx
            have HSX : Hid (Lib.BuilderAt 54 5 w.heap.size w.heap.size (.pointer (some ⟨w.heap.size, 0, none⟩)) (Lib.byteCells (hd ++ acc)) wx.drew) := Lib.hid hsx
            clear hwx hbxe hbx hOx hsx p1z p2z HSBr HO
            cases hE1 : numE M3 4611686018427387903 with
            | none =>
              have HE : Hid (rngE true 281474976710658 L = none) := Lib.hid (by rw [HR3.out, hE1]; rfl)
              simp only [hE1, strE, MAL] at hc1
              clear hE1
              refine wp_region_held_drew (S := fun w' => w'.cell? ⟨bx, 0, none⟩ = some (.int .i64 F) ∧ w'.cell? ⟨bx, 1, none⟩ = some (.int .i64 T)) (by kernel_rfl) (by exact ⟨cF, cT⟩) (fun hHeld => ?_)
              refine wpAnyH_take (i := 0) (v := ?_) rfl (by kernel_rfl) (by kernel_rfl) (by kernel_rfl) (fun _ _ _ h => h) (Or.inl ⟨by kernel_rfl, ?_⟩) (by assumption) ?_
              rotate_left
              · intro wS hSw
                try dsimp only at hSw
                go_simp
                try with_reducible rfl
              simp only [List.getElem_toArray, List.getElem_cons_succ, List.getElem_cons_zero, Act.put, List.setIfInBounds_toArray, List.set_cons_zero, List.set_cons_succ]
              refine wpAnyH_take (i := 2) (v := ?_) rfl (by kernel_rfl) (by kernel_rfl) (by kernel_rfl) (fun _ _ _ h => h) (Or.inl ⟨by kernel_rfl, ?_⟩) (by assumption) ?_
              rotate_left
              · intro wS hSw
                try dsimp only at hSw
                go_simp
                try with_reducible rfl
              simp only [List.getElem_toArray, List.getElem_cons_succ, List.getElem_cons_zero, Act.put, List.setIfInBounds_toArray, List.set_cons_zero, List.set_cons_succ]
              refine wpAnyH_take (i := 3) (v := ?_) rfl (by kernel_rfl) (by kernel_rfl) (by kernel_rfl) (fun _ _ _ h => h) (Or.inl ⟨by kernel_rfl, ?_⟩) (by assumption) ?_
              rotate_left
              · intro wS hSw
                try dsimp only at hSw
                go_simp
                try with_reducible rfl
              simp only [List.getElem_toArray, List.getElem_cons_succ, List.getElem_cons_zero, Act.put, List.setIfInBounds_toArray, List.set_cons_zero, List.set_cons_succ]
              refine wpAnyH_take (i := 4) (v := ?_) rfl (by kernel_rfl) (by kernel_rfl) (by kernel_rfl) (fun _ _ _ h => h) (Or.inl ⟨by kernel_rfl, ?_⟩) (by assumption) ?_
              rotate_left
              · intro wS hSw
                try dsimp only at hSw
                go_simp
                try with_reducible rfl
              simp only [List.getElem_toArray, List.getElem_cons_succ, List.getElem_cons_zero, Act.put, List.setIfInBounds_toArray, List.set_cons_zero, List.set_cons_succ]
              refine wpAnyH_take (i := 5) (v := ?_) rfl (by kernel_rfl) (by kernel_rfl) (by kernel_rfl) (fun _ _ _ h => h) (Or.inl ⟨by kernel_rfl, ?_⟩) (by assumption) ?_
              rotate_left
              · intro wS hSw
                try dsimp only at hSw
                go_simp
                try with_reducible rfl
              simp only [List.getElem_toArray, List.getElem_cons_succ, List.getElem_cons_zero, Act.put, List.setIfInBounds_toArray, List.set_cons_zero, List.set_cons_succ]
              refine wpAnyH_take (i := 6) (v := ?_) rfl (by kernel_rfl) (by kernel_rfl) (by kernel_rfl) (fun _ _ _ h => h) (Or.inl ⟨by kernel_rfl, ?_⟩) (by assumption) ?_
              rotate_left
              · intro wS hSw
                try dsimp only at hSw
                go_simp
                try with_reducible rfl
              simp only [List.getElem_toArray, List.getElem_cons_succ, List.getElem_cons_zero, Act.put, List.setIfInBounds_toArray, List.set_cons_zero, List.set_cons_succ]
              refine wpAnyH_take (i := 7) (v := ?_) rfl (by kernel_rfl) (by kernel_rfl) (by kernel_rfl) (fun _ _ _ h => h) (Or.inl ⟨by kernel_rfl, ?_⟩) (by assumption) ?_
              rotate_left
              · intro wS hSw
                try dsimp only at hSw
                go_simp
                try with_reducible rfl
              simp only [List.getElem_toArray, List.getElem_cons_succ, List.getElem_cons_zero, Act.put, List.setIfInBounds_toArray, List.set_cons_zero, List.set_cons_succ]
              refine wpAnyH_ready (rs := [1]) (by kernel_rfl) (by simp) ?_
              refine AllReadyH.cons rfl (fun K hK => ?_) AllReadyH.nil
              go_simp
              refine (hc1 _).mono ?_
              rintro e w2 ⟨rfl, ho⟩
              exact ⟨rfl, by rw [← HR0.out, HE.out]; rfl, HOX.out.drew.trans ho⟩
            | some s1 =>
              have h18 := numE_len hE1
              cases hE2 : numE D2 4611686018427387903 with
              | none =>
                have HE : Hid (rngE true 281474976710658 L = none) := Lib.hid (by rw [HR3.out, hE1, hE2]; rfl)
                simp only [hE1, strE] at hc1
                simp only [hE2, strE, MAL] at hc2
                clear hE1 hE2
                refine wp_region_held_drew (S := fun w' => w'.cell? ⟨bx, 0, none⟩ = some (.int .i64 F) ∧ w'.cell? ⟨bx, 1, none⟩ = some (.int .i64 T)) (by kernel_rfl) (by exact ⟨cF, cT⟩) (fun hHeld => ?_)
                refine wpAnyH_take (i := 0) (v := ?_) rfl (by kernel_rfl) (by kernel_rfl) (by kernel_rfl) (fun _ _ _ h => h) (Or.inl ⟨by kernel_rfl, ?_⟩) (by assumption) ?_
                rotate_left
                · intro wS hSw
                  try dsimp only at hSw
                  go_simp
                  try with_reducible rfl
                simp only [List.getElem_toArray, List.getElem_cons_succ, List.getElem_cons_zero, Act.put, List.setIfInBounds_toArray, List.set_cons_zero, List.set_cons_succ]
                refine wpAnyH_take (i := 2) (v := ?_) rfl (by kernel_rfl) (by kernel_rfl) (by kernel_rfl) (fun _ _ _ h => h) (Or.inl ⟨by kernel_rfl, ?_⟩) (by assumption) ?_
                rotate_left
                · intro wS hSw
                  try dsimp only at hSw
                  go_simp
                  try with_reducible rfl
                simp only [List.getElem_toArray, List.getElem_cons_succ, List.getElem_cons_zero, Act.put, List.setIfInBounds_toArray, List.set_cons_zero, List.set_cons_succ]
                refine wpAnyH_take (i := 3) (v := ?_) rfl (by kernel_rfl) (by kernel_rfl) (by kernel_rfl) (fun _ _ _ h => h) (Or.inl ⟨by kernel_rfl, ?_⟩) (by assumption) ?_
                rotate_left
                · intro wS hSw
                  try dsimp only at hSw
                  go_simp
                  try with_reducible rfl
                simp only [List.getElem_toArray, List.getElem_cons_succ, List.getElem_cons_zero, Act.put, List.setIfInBounds_toArray, List.set_cons_zero, List.set_cons_succ]
                refine wpAnyH_take (i := 4) (v := ?_) rfl (by kernel_rfl) (by kernel_rfl) (by kernel_rfl) (fun _ _ _ h => h) (Or.inl ⟨by kernel_rfl, ?_⟩) (by assumption) ?_
                rotate_left
                · intro wS hSw
                  try dsimp only at hSw
                  go_simp
                  try with_reducible rfl
                simp only [List.getElem_toArray, List.getElem_cons_succ, List.getElem_cons_zero, Act.put, List.setIfInBounds_toArray, List.set_cons_zero, List.set_cons_succ]
                refine wpAnyH_take (i := 5) (v := ?_) rfl (by kernel_rfl) (by kernel_rfl) (by kernel_rfl) (fun _ _ _ h => h) (Or.inl ⟨by kernel_rfl, ?_⟩) (by assumption) ?_
                rotate_left
                · intro wS hSw
                  try dsimp only at hSw
                  go_simp
                  try with_reducible rfl
                simp only [List.getElem_toArray, List.getElem_cons_succ, List.getElem_cons_zero, Act.put, List.setIfInBounds_toArray, List.set_cons_zero, List.set_cons_succ]
                refine wpAnyH_take (i := 6) (v := ?_) rfl (by kernel_rfl) (by kernel_rfl) (by kernel_rfl) (fun _ _ _ h => h) (Or.inl ⟨by kernel_rfl, ?_⟩) (by assumption) ?_
                rotate_left
                · intro wS hSw
                  try dsimp only at hSw
                  go_simp
                  try with_reducible rfl
                simp only [List.getElem_toArray, List.getElem_cons_succ, List.getElem_cons_zero, Act.put, List.setIfInBounds_toArray, List.set_cons_zero, List.set_cons_succ]
                refine wpAnyH_take (i := 7) (v := ?_) rfl (by kernel_rfl) (by kernel_rfl) (by kernel_rfl) (fun _ _ _ h => h) (Or.inl ⟨by kernel_rfl, ?_⟩) (by assumption) ?_
                rotate_left
                · intro wS hSw
                  try dsimp only at hSw
                  go_simp
                  try with_reducible rfl
                simp only [List.getElem_toArray, List.getElem_cons_succ, List.getElem_cons_zero, Act.put, List.setIfInBounds_toArray, List.set_cons_zero, List.set_cons_succ]
                refine wpAnyH_ready (rs := [1]) (by kernel_rfl) (by simp) ?_
                refine AllReadyH.cons rfl (fun K hK => ?_) AllReadyH.nil
                go_simp
                refine (hc1 _).mono ?_
                rintro e w2 ⟨rfl, ho⟩
                have HO4 := Lib.hid ho
                have dF := (ho.cell (p := ⟨bx, 0, none⟩) (World.block_lt_of_cell? _ _ cF) (by simp)).trans cF
                have dT := (ho.cell (p := ⟨bx, 1, none⟩) (World.block_lt_of_cell? _ _ cT) (by simp)).trans cT
                clear ho
                refine hK.out _ _ (by exact ⟨dF, dT⟩) (fun hHeld' => ?_)
                clear hHeld hK K
                have hHeld := hHeld'
                clear hHeld'
                refine wpAnyH_ready (rs := [8]) (by kernel_rfl) (by simp) ?_
                refine AllReadyH.cons rfl (fun K hK => ?_) AllReadyH.nil
                go_simp
                refine (hc2 _).mono ?_
                rintro e w2 ⟨rfl, ho⟩
                exact ⟨rfl, by rw [← HR0.out, HE.out]; rfl, (HOX.out.drew.trans HO4.out).trans ho⟩
              | some s2 =>
                have h28 := numE_len hE2
                have HE : Hid (rngE true 281474976710658 L = (rngE false F (L.drop (k + 1))).map ((acc ++ (s1 ++ s2)) ++ ·)) := Lib.hid (by
                  rw [HR3.out, hE1, hE2]
                  cases rngE false F (L.drop (k + 1)) <;> simp)
                simp only [hE1, strE] at hc1
                simp only [hE2, strE] at hc2
                have hz1 : (strB s1).size = s1.length := strB_size s1
                have hz2 : (strB s2).size = s2.length := strB_size s2
                have hzz : ¬ 9223372036854775807 < s1.length + s2.length := by omega
                clear hE1 hE2
                refine wp_region_held_drew (S := fun w' => w'.cell? ⟨bx, 0, none⟩ = some (.int .i64 F) ∧ w'.cell? ⟨bx, 1, none⟩ = some (.int .i64 T)) (by kernel_rfl) (by exact ⟨cF, cT⟩) (fun hHeld => ?_)
                refine wpAnyH_take (i := 0) (v := ?_) rfl (by kernel_rfl) (by kernel_rfl) (by kernel_rfl) (fun _ _ _ h => h) (Or.inl ⟨by kernel_rfl, ?_⟩) (by assumption) ?_
                rotate_left
                · intro wS hSw
                  try dsimp only at hSw
                  go_simp
                  try with_reducible rfl
                simp only [List.getElem_toArray, List.getElem_cons_succ, List.getElem_cons_zero, Act.put, List.setIfInBounds_toArray, List.set_cons_zero, List.set_cons_succ]
                refine wpAnyH_take (i := 2) (v := ?_) rfl (by kernel_rfl) (by kernel_rfl) (by kernel_rfl) (fun _ _ _ h => h) (Or.inl ⟨by kernel_rfl, ?_⟩) (by assumption) ?_
                rotate_left
                · intro wS hSw
                  try dsimp only at hSw
                  go_simp
                  try with_reducible rfl
                simp only [List.getElem_toArray, List.getElem_cons_succ, List.getElem_cons_zero, Act.put, List.setIfInBounds_toArray, List.set_cons_zero, List.set_cons_succ]
                refine wpAnyH_take (i := 3) (v := ?_) rfl (by kernel_rfl) (by kernel_rfl) (by kernel_rfl) (fun _ _ _ h => h) (Or.inl ⟨by kernel_rfl, ?_⟩) (by assumption) ?_
                rotate_left
                · intro wS hSw
                  try dsimp only at hSw
                  go_simp
                  try with_reducible rfl
                simp only [List.getElem_toArray, List.getElem_cons_succ, List.getElem_cons_zero, Act.put, List.setIfInBounds_toArray, List.set_cons_zero, List.set_cons_succ]
                refine wpAnyH_take (i := 4) (v := ?_) rfl (by kernel_rfl) (by kernel_rfl) (by kernel_rfl) (fun _ _ _ h => h) (Or.inl ⟨by kernel_rfl, ?_⟩) (by assumption) ?_
                rotate_left
                · intro wS hSw
                  try dsimp only at hSw
                  go_simp
                  try with_reducible rfl
                simp only [List.getElem_toArray, List.getElem_cons_succ, List.getElem_cons_zero, Act.put, List.setIfInBounds_toArray, List.set_cons_zero, List.set_cons_succ]
                refine wpAnyH_take (i := 5) (v := ?_) rfl (by kernel_rfl) (by kernel_rfl) (by kernel_rfl) (fun _ _ _ h => h) (Or.inl ⟨by kernel_rfl, ?_⟩) (by assumption) ?_
                rotate_left
                · intro wS hSw
                  try dsimp only at hSw
                  go_simp
                  try with_reducible rfl
                simp only [List.getElem_toArray, List.getElem_cons_succ, List.getElem_cons_zero, Act.put, List.setIfInBounds_toArray, List.set_cons_zero, List.set_cons_succ]
                refine wpAnyH_take (i := 6) (v := ?_) rfl (by kernel_rfl) (by kernel_rfl) (by kernel_rfl) (fun _ _ _ h => h) (Or.inl ⟨by kernel_rfl, ?_⟩) (by assumption) ?_
                rotate_left
                · intro wS hSw
                  try dsimp only at hSw
                  go_simp
                  try with_reducible rfl
                simp only [List.getElem_toArray, List.getElem_cons_succ, List.getElem_cons_zero, Act.put, List.setIfInBounds_toArray, List.set_cons_zero, List.set_cons_succ]
                refine wpAnyH_take (i := 7) (v := ?_) rfl (by kernel_rfl) (by kernel_rfl) (by kernel_rfl) (fun _ _ _ h => h) (Or.inl ⟨by kernel_rfl, ?_⟩) (by assumption) ?_
                rotate_left
                · intro wS hSw
                  try dsimp only at hSw
                  go_simp
                  try with_reducible rfl
                simp only [List.getElem_toArray, List.getElem_cons_succ, List.getElem_cons_zero, Act.put, List.setIfInBounds_toArray, List.set_cons_zero, List.set_cons_succ]
                refine wpAnyH_ready (rs := [1]) (by kernel_rfl) (by simp) ?_
                refine AllReadyH.cons rfl (fun K hK => ?_) AllReadyH.nil
                go_simp
                refine (hc1 _).mono ?_
                rintro e w4 ⟨rfl, ho⟩
                have HO4 := Lib.hid ho
                have dF := (ho.cell (p := ⟨bx, 0, none⟩) (World.block_lt_of_cell? _ _ cF) (by simp)).trans cF
                have dT := (ho.cell (p := ⟨bx, 1, none⟩) (World.block_lt_of_cell? _ _ cT) (by simp)).trans cT
                clear ho
                refine hK.out _ _ (by exact ⟨dF, dT⟩) (fun hHeld' => ?_)
                clear hHeld hK K
                have hHeld := hHeld'
                clear hHeld'
                refine wpAnyH_ready (rs := [8]) (by kernel_rfl) (by simp) ?_
                refine AllReadyH.cons rfl (fun K hK => ?_) AllReadyH.nil
                go_simp
                refine (hc2 _).mono ?_
                rintro e w5 ⟨rfl, ho⟩
                have HO5 := Lib.hid ho
                have eF := (ho.cell (p := ⟨bx, 0, none⟩) (World.block_lt_of_cell? _ _ dF) (by simp)).trans dF
                have eT := (ho.cell (p := ⟨bx, 1, none⟩) (World.block_lt_of_cell? _ _ dT) (by simp)).trans dT
                clear ho
                refine hK.out _ _ (by exact ⟨eF, eT⟩) (fun hHeld' => ?_)
                clear hHeld hK K
                have hHeld := hHeld'
                clear hHeld'
                refine wpAnyH_take (i := 9) (v := ?_) rfl (by kernel_rfl) (by kernel_rfl) (by kernel_rfl) (fun _ _ _ h => h) (Or.inl ⟨by kernel_rfl, ?_⟩) (by assumption) ?_
                rotate_left
                · intro wS hSw
                  try dsimp only at hSw
                  go_simp
                  try with_reducible rfl
                simp only [List.getElem_toArray, List.getElem_cons_succ, List.getElem_cons_zero, Act.put, List.setIfInBounds_toArray, List.set_cons_zero, List.set_cons_succ]
                have hsb5 := sb_keep (sb_keep HSX.out HO4.out) HO5.out
                have hO5 := (HOX.out.drew.trans HO4.out).trans HO5.out
                have hwr := write_c w.heap.size w.heap.size (Lib.byteCells (hd ++ acc)) (strB s1 ++ strB s2) w5 (.inr hsb5) (by rw [← strB_app, strB_size, Lib.byteCells_length]; simp; omega) hO5.size
                have hcc : Lib.byteCells (hd ++ acc) ++ Lib.strCells (strB s1 ++ strB s2) = Lib.byteCells (hd ++ (acc ++ (s1 ++ s2))) := by rw [← strB_app, Lib.strCells_eq, strB_list, ← Lib.byteCells_append]; simp
                rw [hcc] at hwr
                have HO6 := Lib.hid hO5
                clear hsb5 hO5 hcc
                refine wpAnyH_ready (rs := [10]) (by kernel_rfl) (by simp) ?_
                refine AllReadyH.cons rfl (fun K hK => ?_) AllReadyH.nil
                go_simp
                refine hwr.mono ?_
                rintro e w6 ⟨rfl, ⟨hsb6, hb6⟩, hkp⟩
                have HSB6 := Lib.hid hsb6
                have HO7 := Lib.hid (only_bel HO6.out hb6)
                have hA6 := hkp bx _ _ ((HBX.out.drew.keep HO4.out (by simp)).keep HO5.out (by simp)) (by decide) (by have := HBXne.out; omega)
                have gF : w6.cell? ⟨bx, 0, none⟩ = some (.int .i64 F) := hA6.cell 0 rfl
                have gT : w6.cell? ⟨bx, 1, none⟩ = some (.int .i64 T) := hA6.cell 1 rfl
                clear hA6 hkp
                refine hK.out _ _ (by exact ⟨gF, gT⟩) (fun hHeld' => ?_)
                clear hHeld hK K hsb6 hb6 hwr
                refine wpAnyH_done (by kernel_rfl) ?_ _
                go_wp2_with fail
                go_roundg (L.length - (k + 1))
                case measure => omega
                case rel =>
                  refine ⟨k + 1, F, acc ++ (s1 ++ s2), rfl, by omega, by simp <;> omega, rfl, by simp; omega, HSB6.out, ?_, r1, HO7.out⟩
                  rw [HE.out, decide_eq_false (by omega)]
        · obtain rfl : k = L.length := by omega
          have hlt' : ¬ (L.length : Int) < L.length := by omega
          have HE : Hid (rngE true 281474976710658 L = some acc) := Lib.hid (by rw [HRng.out, List.drop_length]; simp only [rngE, Option.map_some, List.append_nil])
          clear hcs
          go_wp2_with fail
          refine (Tryd.Builder_String_any w.heap.size w.heap.size (hd ++ acc) wr (.inr HSBr.out) HO.out.size).mono ?_
          rintro e w9 ⟨rfl, hb9⟩
          have HO9 := Lib.hid (only_bel HO.out hb9)
          clear hb9
          go_wp2_with fail
          go_ret
          exact ⟨by rw [← HR0.out, HE.out]; rfl, HO9.out⟩
end Go.Proofs.YtgiekhohhogdiaaDoor
