/- Contracts of package frame: EncodeAll. -/
import Derived.Test.YtmmgmpghkpbgkaaFtA
import Derived.Deep.LoopGhost
import Derived.Test.YtmmgmpghkpbgkaaFrH
import Derived.Deep.CutRange
import Derived.Test.YtmmgmpghkpbgkaaFtB
import Derived.Test.YtmmgmpghkpbgkaaFrI
import Derived.Test.YtmmgmpghkpbgkaaRdA
namespace Go.Proofs.Ytmmgmpghkpbgkaa
open Go Go.RowKit
set_option linter.unusedVariables false
set_option linter.unusedSimpArgs false

/-- The slice v holds the frames l. -/
def FrSl (w : World) (v : Value) (l : List (Fr × Value)) : Prop := ∃ a cap, v = .slice a l.length cap ∧ (∀ k (hk : k < l.length), ∃ g off, a = some ⟨g, off, none⟩ ∧ g < w.heap.size ∧ ∀ j, j < 13 → w.cell? ⟨g, off + k * 13 + j, none⟩ = (frc (l[k]'hk))[j]?) ∧ ∀ x ∈ l, FrOk w x.1 x.2
theorem FrRow.sl {w : World} {base : Nat} {v : Value} {l : List (Fr × Value)} (h : FrRow w base v l) : FrSl w v l := by
  obtain ⟨a, cap, rfl⟩ := h.shape
  refine ⟨a, cap, rfl, fun k hk => ?_, h.ok⟩
  obtain ⟨g, cap', e, _, h2, _, h4⟩ := h.form (by omega)
  cases e
  exact ⟨g, 0, rfl, h2, fun j hj => by rw [Nat.zero_add]; exact h4 k hk j hj⟩
theorem FrSl.keep {w w' : World} {v : Value} {l : List (Fr × Value)} (h : FrSl w v l) (ho : Only [] w w') : FrSl w' v l := by
  obtain ⟨a, cap, rfl, hc, hk⟩ := h
  refine ⟨a, cap, rfl, fun k hk => ?_, fun x hx => (hk x hx).keep ho⟩
  obtain ⟨g, off, rfl, hg, h4⟩ := hc k hk
  exact ⟨g, off, rfl, Nat.lt_of_lt_of_le hg ho.size, fun j hj => (ho.cell (p := ⟨g, off + k * 13 + j, none⟩) hg (by simp)).trans (h4 j hj)⟩
/-- All frames, encoded. -/
noncomputable def eaF : List Fr → Option (List UInt8)
  | [] => some []
  | f :: r => match encF f with
    | none => none
    | some a => (eaF r).map (a ++ ·)
def eaV (o : Option (List UInt8)) : Value := match o with
  | some s => .tuple #[.string (strB s), .int .i64 0]
  | none => .tuple #[.string (strB []), .int .i64 90]
def EaQ (R : Option (List UInt8)) (w : World) (e : Ending) (w' : World) : Prop := e = .returned (eaV R) ∧ Only [] w w'
theorem isb_keep {T e : TypeId} {B b : Nat} {bs : List Value} {w w' : World} (h : Lib.IsBuilder T e B b bs w) (ho : Only [] w w') : Lib.IsBuilder T e B b bs w' := by
  rcases h with h | h
  · exact .inl (sb_keep h ho)
  · exact .inr (sb_keep h ho)
def EaRel (L : List Fr) (R : Option (List UInt8)) (w : World) (gk : Nat) (ix : Value) (wr : World) : Prop := ∃ (k : Nat) (acc : List UInt8), gk = L.length - k ∧ k ≤ L.length ∧ ix = .int .i64 k ∧ acc.length ≤ 6001 * k ∧
  Hid (Lib.IsBuilder 121 5 w.heap.size w.heap.size (Lib.byteCells acc) wr) ∧ Hid (R = (eaF (L.drop k)).map (acc ++ ·)) ∧ Hid (Only [] w wr)
set_option maxRecDepth 100000 in
set_option maxHeartbeats 4000000 in
theorem encAll_c (v : Value) (xs : List (Fr × Value)) (w : World) (hS : FrSl w v xs) (hn : xs.length ≤ 1000000) :
    Calls Try.prog 35 #[v] w (EaQ (eaF (xs.map Prod.fst)) w) := by
  obtain ⟨R, hR⟩ : ∃ R, eaF (xs.map Prod.fst) = R := ⟨_, rfl⟩
  rw [hR]
  have HR : Hid (R = (eaF ((xs.map Prod.fst).drop 0)).map (([] : List UInt8) ++ ·)) := Lib.hid (by rw [← hR]; simp)
  clear hR
  have HS := Lib.hid hS
  obtain ⟨a, cap, rfl, hcs, hok⟩ := hS
  have HOK := Lib.hid hok
  clear hok
  have hor := Lib.hid ((Only.refl [] w).alloc (.cells #[.pointer none, .slice none 0 0] 121))
  have hsb : Hid (Lib.IsBuilder 121 5 w.heap.size w.heap.size (Lib.byteCells []) (w.alloc (.cells #[.pointer none, .slice none 0 0] 121))) := Lib.hid (.inl ⟨Nat.le_refl _, .slice none 0 0, At.new _ _ _, World.ownsRow_nil _ _ _ _, by simp [Value.ownBlock]⟩)
  go_enter Try.func35, Try.ntmps35
  go_wp2_with fail
  go_loopg [11] xs.length (fun gk ix wr => EaRel (xs.map Prod.fst) R w gk ix wr)
  case atStart => exact ⟨0, [], by simp, by omega, rfl, by simp, hsb, HR, hor⟩
  case round =>
    obtain ⟨k, acc, rfl, hk, rfl, hacc, hB, hD, hO⟩ := hrel
    clear hor hsb HR
    rw [List.length_map] at hk
    by_cases hlt : k < xs.length
    · have hlt' : (k : Int) < xs.length := by omega
      obtain ⟨g, off, rfl, hg, hcc⟩ := hcs k hlt
      obtain ⟨x, hx⟩ : ∃ x, xs[k]'hlt = x := ⟨_, rfl⟩
      have hokx := HOK.out x (hx ▸ List.getElem_mem _)
      rw [hx] at hcc
      have HDr : Hid ((xs.map Prod.fst).drop k = x.1 :: (xs.map Prod.fst).drop (k + 1)) := Lib.hid (by
        rw [List.drop_eq_getElem_cons (by simpa using hlt)]
        simp [hx])
      clear hx
      obtain ⟨f, rv⟩ := x
      obtain ⟨ra, rc, rfl, hrx⟩ := (show RgAt w rv f.rg from hokx.rg)
      have HK := Lib.hid (hokx.keep hO.out)
      have hcw := fun j hj => (hO.out.cell (p := ⟨g, off + k * 13 + j, none⟩) hg (by simp)).trans (hcc j hj)
      have p0 : wr.cell? ⟨g, off + k * 13, none⟩ = some (.int .i64 f.ty) := hcw 0 (by omega)
      have p1 : wr.cell? ⟨g, off + k * 13 + 1, none⟩ = some (.int .i64 f.st) := hcw 1 (by omega)
      have p2 : wr.cell? ⟨g, off + k * 13 + 2, none⟩ = some (.int .i64 f.off) := hcw 2 (by omega)
      have p3 : wr.cell? ⟨g, off + k * 13 + 3, none⟩ = some (.string (strB f.S)) := hcw 3 (by omega)
      have p4 : wr.cell? ⟨g, off + k * 13 + 4, none⟩ = some (.bool f.fin) := hcw 4 (by omega)
      have p5 : wr.cell? ⟨g, off + k * 13 + 5, none⟩ = some (.int .i64 f.mx) := hcw 5 (by omega)
      have p6 : wr.cell? ⟨g, off + k * 13 + 6, none⟩ = some (.int .i64 f.cd) := hcw 6 (by omega)
      have p7 : wr.cell? ⟨g, off + k * 13 + 7, none⟩ = some (.bool f.uni) := hcw 7 (by omega)
      have p8 : wr.cell? ⟨g, off + k * 13 + 8, none⟩ = some (.int .i64 f.dl) := hcw 8 (by omega)
      have p9 : wr.cell? ⟨g, off + k * 13 + 9, none⟩ = some (.slice ra f.rg.length rc) := hcw 9 (by omega)
      have p10 : wr.cell? ⟨g, off + k * 13 + 10, none⟩ = some (.int .i64 f.sq) := hcw 10 (by omega)
      have p11 : wr.cell? ⟨g, off + k * 13 + 11, none⟩ = some (.int .i64 f.rt) := hcw 11 (by omega)
      have p12 : wr.cell? ⟨g, off + k * 13 + 12, none⟩ = some (.string (strB f.cid)) := hcw 12 (by omega)
      have f9 : IntKind.i64.wrap ((k : Int) + 1) = ((k + 1 : Nat) : Int) := by rw [show (k : Int) + 1 = ((k + 1 : Nat) : Int) by omega]; exact IntWalk.i64_in _ (by omega)
      clear hcw hcc hcs hokx hrx
      go_upto_region 5 with fail
      have hA5 := At.new wr 33 #[.int .i64 f.ty, .int .i64 f.st, .int .i64 f.off, .string (strB f.S), .bool f.fin, .int .i64 f.mx, .int .i64 f.cd, .bool f.uni, .int .i64 f.dl, .slice ra f.rg.length rc, .int .i64 f.sq, .int .i64 f.rt, .string (strB f.cid)]
      have hO5 := hO.out.alloc (.cells #[.int .i64 f.ty, .int .i64 f.st, .int .i64 f.off, .string (strB f.S), .bool f.fin, .int .i64 f.mx, .int .i64 f.cd, .bool f.uni, .int .i64 f.dl, .slice ra f.rg.length rc, .int .i64 f.sq, .int .i64 f.rt, .string (strB f.cid)] 33)
      have hB5 := isb_keep hB.out ((Only.refl [] wr).alloc (.cells #[.int .i64 f.ty, .int .i64 f.st, .int .i64 f.off, .string (strB f.S), .bool f.fin, .int .i64 f.mx, .int .i64 f.cd, .bool f.uni, .int .i64 f.dl, .slice ra f.rg.length rc, .int .i64 f.sq, .int .i64 f.rt, .string (strB f.cid)] 33))
      have hK5 := HK.out.keep ((Only.refl [] wr).alloc (.cells #[.int .i64 f.ty, .int .i64 f.st, .int .i64 f.off, .string (strB f.S), .bool f.fin, .int .i64 f.mx, .int .i64 f.cd, .bool f.uni, .int .i64 f.dl, .slice ra f.rg.length rc, .int .i64 f.sq, .int .i64 f.rt, .string (strB f.cid)] 33))
      clear p0 p1 p2 p3 p4 p5 p6 p7 p8 p9 p10 p11 p12
      generalize wr.alloc (.cells #[.int .i64 f.ty, .int .i64 f.st, .int .i64 f.off, .string (strB f.S), .bool f.fin, .int .i64 f.mx, .int .i64 f.cd, .bool f.uni, .int .i64 f.dl, .slice ra f.rg.length rc, .int .i64 f.sq, .int .i64 f.rt, .string (strB f.cid)] 33) = w5 at hA5 hO5 hB5 hK5 ⊢
      generalize wr.heap.size = b at hA5 ⊢
      have d0 : w5.cell? ⟨b, 0, none⟩ = some (.int .i64 f.ty) := hA5.cell 0 rfl
      have d1 : w5.cell? ⟨b, 1, none⟩ = some (.int .i64 f.st) := hA5.cell 1 rfl
      have d2 : w5.cell? ⟨b, 2, none⟩ = some (.int .i64 f.off) := hA5.cell 2 rfl
      have d3 : w5.cell? ⟨b, 3, none⟩ = some (.string (strB f.S)) := hA5.cell 3 rfl
      have d4 : w5.cell? ⟨b, 4, none⟩ = some (.bool f.fin) := hA5.cell 4 rfl
      have d5 : w5.cell? ⟨b, 5, none⟩ = some (.int .i64 f.mx) := hA5.cell 5 rfl
      have d6 : w5.cell? ⟨b, 6, none⟩ = some (.int .i64 f.cd) := hA5.cell 6 rfl
      have d7 : w5.cell? ⟨b, 7, none⟩ = some (.bool f.uni) := hA5.cell 7 rfl
      have d8 : w5.cell? ⟨b, 8, none⟩ = some (.int .i64 f.dl) := hA5.cell 8 rfl
      have d9 : w5.cell? ⟨b, 9, none⟩ = some (.slice ra f.rg.length rc) := hA5.cell 9 rfl
      have d10 : w5.cell? ⟨b, 10, none⟩ = some (.int .i64 f.sq) := hA5.cell 10 rfl
      have d11 : w5.cell? ⟨b, 11, none⟩ = some (.int .i64 f.rt) := hA5.cell 11 rfl
      have d12 : w5.cell? ⟨b, 12, none⟩ = some (.string (strB f.cid)) := hA5.cell 12 rfl
      have HB5 := Lib.hid hB5
      have HO5 := Lib.hid hO5
      clear hA5 hO5 hB5 hB hO HK
      cases hE : encF f with
      | none =>
        have hen := enc_no f (.slice ra f.rg.length rc) w5 hK5 hE
        have HF : Hid (R = none) := Lib.hid (by rw [hD.out, HDr.out]; simp only [eaF, hE]; rfl)
        simp only [frC] at hen
        clear hE hK5
        go_wp2_with fail
        refine hen.mono ?_
        rintro e w6 ⟨rfl, ho⟩
        go_wp2_with fail
        refine ⟨rfl, .tuple #[.string (strB []), .int .i64 90], ?_, by rw [HF.out]; rfl, HO5.out.trans ho⟩
        simp [results, Try.f35, go_sem]
        rfl
      | some t =>
        have hen := enc_ok f (.slice ra f.rg.length rc) w5 hK5 hE
        have ht := (encF_len hE).2
        have HF : Hid (R = (eaF ((xs.map Prod.fst).drop (k + 1))).map ((acc ++ t) ++ ·)) := Lib.hid (by
          rw [hD.out, HDr.out]
          simp only [eaF, hE, Option.map_map]
          congr 1
          funext L
          simp)
        simp only [frC] at hen
        clear hE hK5
        go_wp2_with fail
        refine hen.mono ?_
        rintro e w6 ⟨rfl, ho⟩
        have hwr := write_c w.heap.size w.heap.size (Lib.byteCells acc) (strB t) w6 (isb_keep HB5.out ho) (by rw [Lib.byteCells_length, strB_size]; omega) (HO5.out.trans ho).size
        have hcc : Lib.byteCells acc ++ Lib.strCells (strB t) = Lib.byteCells (acc ++ t) := by rw [Lib.strCells_eq, strB_list, ← Lib.byteCells_append]
        rw [hcc] at hwr
        have HO6 := Lib.hid (HO5.out.trans ho)
        clear hcc ho hen
        go_wp2_with fail
        refine hwr.mono ?_
        rintro e w7 ⟨rfl, ⟨hsb7, hb7⟩, _⟩
        have HSB7 := Lib.hid hsb7
        have HO7 := Lib.hid (only_bel HO6.out hb7)
        clear hsb7 hb7 hwr
        go_wp2_with fail
        go_roundg ((xs.map Prod.fst).length - (k + 1))
        case measure => simp; omega
        case rel => exact ⟨k + 1, acc ++ t, rfl, by simp; omega, by simp <;> omega, by simp; omega, Lib.hid (.inr HSB7.out), HF, HO7⟩
    · obtain rfl : k = xs.length := by omega
      have hlt' : ¬ (xs.length : Int) < xs.length := by omega
      have HF : Hid (R = some acc) := Lib.hid (by rw [hD.out, List.drop_of_length_le (by simp)]; simp only [eaF, Option.map_some, List.append_nil])
      clear hcs
      go_wp2_with fail
      refine (Try.Builder_String_any w.heap.size w.heap.size acc wr hB.out hO.out.size).mono ?_
      rintro e w9 ⟨rfl, hb9⟩
      have HO9 := Lib.hid (only_bel hO.out hb9)
      clear hb9
      go_wp2_with fail
      refine ⟨rfl, .tuple #[.string (strB acc), .int .i64 0], ?_, by rw [HF.out]; rfl, HO9.out⟩
      simp [results, Try.f35, go_sem]
      try rfl
end Go.Proofs.Ytmmgmpghkpbgkaa
/- Contracts of the reference of frames: equality of lists. -/
namespace Go.Proofs.Ytmmgmpghkpbgkaa
open Go Go.RowKit
set_option linter.unusedVariables false
set_option linter.unusedSimpArgs false

def SAllQ (L M : List Fr) (w : World) (e : Ending) (w' : World) : Prop := ∃ z : Bool, e = .returned (.bool z) ∧ (z = true ↔ L = M) ∧ Only [] w w'
def SAllRel (w : World) (L M : List Fr) (gk : Nat) (ix : Value) (wr : World) : Prop := ∃ k : Nat, gk = L.length - k ∧ k ≤ L.length ∧ ix = .int .i64 k ∧ Hid (L.take k = M.take k) ∧ Hid (Only [] w wr)
set_option maxRecDepth 100000 in
set_option maxHeartbeats 4000000 in
theorem sameAll_c (v v2 : Value) (xs ys : List (Fr × Value)) (w : World) (hX : FrSl w v xs) (hY : FrSl w v2 ys) (hn : xs.length ≤ 1000000) :
    Calls Try.prog 28 #[v, v2] w (SAllQ (xs.map Prod.fst) (ys.map Prod.fst) w) := by
  obtain ⟨a, cap, rfl, hcs, hok⟩ := hX
  obtain ⟨a2, cap2, rfl, hcs2, hok2⟩ := hY
  have HOK := Lib.hid hok
  have HOK2 := Lib.hid hok2
  clear hok hok2
  have hor := Lib.hid (Only.refl [] w)
  by_cases hl : xs.length = ys.length
  · have hl' : ((xs.length : Int) != (ys.length : Int)) = false := by simp [hl]
    have HL := Lib.hid hl
    clear hl
    go_enter Try.func28, Try.ntmps28
    go_wp2_with fail
    go_loopg [5] xs.length (fun gk ix wr => SAllRel w (xs.map Prod.fst) (ys.map Prod.fst) gk ix wr)
    case atStart => exact ⟨0, by simp, by omega, rfl, Lib.hid rfl, hor⟩
    case round =>
      obtain ⟨k, rfl, hk, rfl, hT, hO⟩ := hrel
      clear hor
      rw [List.length_map] at hk
      by_cases hlt : k < xs.length
      · have hlt' : (k : Int) < xs.length := by omega
        have hlt2 : k < ys.length := by have := HL.out; omega
        have hlt2' : (k : Int) < ys.length := by omega
        obtain ⟨g, off, rfl, hg, hcc⟩ := hcs k hlt
        obtain ⟨g2, off2, rfl, hg2, hcc2⟩ := hcs2 k hlt2
        obtain ⟨x, hx⟩ : ∃ x, xs[k]'hlt = x := ⟨_, rfl⟩
        obtain ⟨y, hy⟩ : ∃ y, ys[k]'hlt2 = y := ⟨_, rfl⟩
        have hokx := HOK.out x (hx ▸ List.getElem_mem _)
        have hoky := HOK2.out y (hy ▸ List.getElem_mem _)
        rw [hx] at hcc
        rw [hy] at hcc2
        have HTX : Hid ((xs.map Prod.fst).take (k + 1) = (xs.map Prod.fst).take k ++ [x.1]) := Lib.hid (by
          rw [List.take_succ_eq_append_getElem (by simpa using hlt)]
          simp [hx])
        have HTY : Hid ((ys.map Prod.fst).take (k + 1) = (ys.map Prod.fst).take k ++ [y.1]) := Lib.hid (by
          rw [List.take_succ_eq_append_getElem (by simpa using hlt2)]
          simp [hy])
        have HNE : Hid (xs.map Prod.fst = ys.map Prod.fst → x.1 = y.1) := Lib.hid (fun e => by
          have h1 := HTX.out
          rw [e, HTY.out] at h1
          have := List.append_inj_right' h1 rfl
          simpa using this.symm)
        clear hx hy
        obtain ⟨f, rv⟩ := x
        obtain ⟨f2, rv2⟩ := y
        obtain ⟨ra, rc, rfl, hrx⟩ := (show RgAt w rv f.rg from hokx.rg)
        obtain ⟨rb, rd, rfl, hry⟩ := (show RgAt w rv2 f2.rg from hoky.rg)
        have hrs := fun ww h1 h2 => rsame_c f f2 (.slice ra f.rg.length rc) (.slice rb f2.rg.length rd) ww h1 h2 hokx.sz hoky.sz
        have HK := Lib.hid (hokx.keep hO.out).rg
        have HK2 := Lib.hid (hoky.keep hO.out).rg
        have hcw := fun j hj => (hO.out.cell (p := ⟨g, off + k * 13 + j, none⟩) hg (by simp)).trans (hcc j hj)
        have hcw2 := fun j hj => (hO.out.cell (p := ⟨g2, off2 + k * 13 + j, none⟩) hg2 (by simp)).trans (hcc2 j hj)
        have p0 : wr.drew.cell? ⟨g, off + k * 13, none⟩ = some (.int .i64 f.ty) := hcw 0 (by omega)
        have p1 : wr.drew.cell? ⟨g, off + k * 13 + 1, none⟩ = some (.int .i64 f.st) := hcw 1 (by omega)
        have p2 : wr.drew.cell? ⟨g, off + k * 13 + 2, none⟩ = some (.int .i64 f.off) := hcw 2 (by omega)
        have p3 : wr.drew.cell? ⟨g, off + k * 13 + 3, none⟩ = some (.string (strB f.S)) := hcw 3 (by omega)
        have p4 : wr.drew.cell? ⟨g, off + k * 13 + 4, none⟩ = some (.bool f.fin) := hcw 4 (by omega)
        have p5 : wr.drew.cell? ⟨g, off + k * 13 + 5, none⟩ = some (.int .i64 f.mx) := hcw 5 (by omega)
        have p6 : wr.drew.cell? ⟨g, off + k * 13 + 6, none⟩ = some (.int .i64 f.cd) := hcw 6 (by omega)
        have p7 : wr.drew.cell? ⟨g, off + k * 13 + 7, none⟩ = some (.bool f.uni) := hcw 7 (by omega)
        have p8 : wr.drew.cell? ⟨g, off + k * 13 + 8, none⟩ = some (.int .i64 f.dl) := hcw 8 (by omega)
        have p9 : wr.drew.cell? ⟨g, off + k * 13 + 9, none⟩ = some (.slice ra f.rg.length rc) := hcw 9 (by omega)
        have p10 : wr.drew.cell? ⟨g, off + k * 13 + 10, none⟩ = some (.int .i64 f.sq) := hcw 10 (by omega)
        have p11 : wr.drew.cell? ⟨g, off + k * 13 + 11, none⟩ = some (.int .i64 f.rt) := hcw 11 (by omega)
        have p12 : wr.drew.cell? ⟨g, off + k * 13 + 12, none⟩ = some (.string (strB f.cid)) := hcw 12 (by omega)
        have q0 : wr.drew.cell? ⟨g2, off2 + k * 13, none⟩ = some (.int .i64 f2.ty) := hcw2 0 (by omega)
        have q1 : wr.drew.cell? ⟨g2, off2 + k * 13 + 1, none⟩ = some (.int .i64 f2.st) := hcw2 1 (by omega)
        have q2 : wr.drew.cell? ⟨g2, off2 + k * 13 + 2, none⟩ = some (.int .i64 f2.off) := hcw2 2 (by omega)
        have q3 : wr.drew.cell? ⟨g2, off2 + k * 13 + 3, none⟩ = some (.string (strB f2.S)) := hcw2 3 (by omega)
        have q4 : wr.drew.cell? ⟨g2, off2 + k * 13 + 4, none⟩ = some (.bool f2.fin) := hcw2 4 (by omega)
        have q5 : wr.drew.cell? ⟨g2, off2 + k * 13 + 5, none⟩ = some (.int .i64 f2.mx) := hcw2 5 (by omega)
        have q6 : wr.drew.cell? ⟨g2, off2 + k * 13 + 6, none⟩ = some (.int .i64 f2.cd) := hcw2 6 (by omega)
        have q7 : wr.drew.cell? ⟨g2, off2 + k * 13 + 7, none⟩ = some (.bool f2.uni) := hcw2 7 (by omega)
        have q8 : wr.drew.cell? ⟨g2, off2 + k * 13 + 8, none⟩ = some (.int .i64 f2.dl) := hcw2 8 (by omega)
        have q9 : wr.drew.cell? ⟨g2, off2 + k * 13 + 9, none⟩ = some (.slice rb f2.rg.length rd) := hcw2 9 (by omega)
        have q10 : wr.drew.cell? ⟨g2, off2 + k * 13 + 10, none⟩ = some (.int .i64 f2.sq) := hcw2 10 (by omega)
        have q11 : wr.drew.cell? ⟨g2, off2 + k * 13 + 11, none⟩ = some (.int .i64 f2.rt) := hcw2 11 (by omega)
        have q12 : wr.drew.cell? ⟨g2, off2 + k * 13 + 12, none⟩ = some (.string (strB f2.cid)) := hcw2 12 (by omega)
        have f9 : IntKind.i64.wrap ((k : Int) + 1) = ((k + 1 : Nat) : Int) := by rw [show (k : Int) + 1 = ((k + 1 : Nat) : Int) by omega]; exact IntWalk.i64_in _ (by omega)
        have hgr : g < wr.drew.heap.size := Nat.lt_of_lt_of_le hg hO.out.size
        have hgr2 : g2 < wr.drew.heap.size := Nat.lt_of_lt_of_le hg2 hO.out.size
        clear hcw hcc hcs hcw2 hcc2 hcs2 hokx hoky hrx hry
        simp only [frC] at hrs
        go_upto_region 6 with fail
        refine wp_region_held_drew (S := fun w' => Only [] wr.drew w') (by kernel_rfl) (by exact Only.refl _ _) (fun hHeld => ?_)
        refine wpAnyH_take (i := 0) (v := ?_) rfl (by kernel_rfl) (by kernel_rfl) (by kernel_rfl) (fun _ _ _ h => h) (Or.inl ⟨by kernel_rfl, ?_⟩) (by assumption) ?_
        rotate_left
        · intro wS hSw
          try dsimp only at hSw
          go_simp
          try with_reducible rfl
        simp only [List.getElem_toArray, List.getElem_cons_succ, List.getElem_cons_zero, Act.put, List.setIfInBounds_toArray, List.set_cons_zero, List.set_cons_succ]
        refine wpAnyH_take (i := 1) (v := ?_) rfl (by kernel_rfl) (by kernel_rfl) (by kernel_rfl) (fun _ _ _ h => h) (Or.inl ⟨by kernel_rfl, ?_⟩) (by assumption) ?_
        rotate_left
        · intro wS hSw
          try dsimp only at hSw
          go_simp
          try with_reducible rfl
        simp only [List.getElem_toArray, List.getElem_cons_succ, List.getElem_cons_zero, Act.put, List.setIfInBounds_toArray, List.set_cons_zero, List.set_cons_succ]
        refine wpAnyH_take (i := 2) (v := ?_) rfl (by kernel_rfl) (by kernel_rfl) (by kernel_rfl) (fun _ _ _ h => h) (Or.inl ⟨by kernel_rfl, ?_⟩) (by assumption) ?_
        rotate_left
        · intro wS hSw
          try dsimp only at hSw
          go_simp
          try with_reducible rfl
        simp only [List.getElem_toArray, List.getElem_cons_succ, List.getElem_cons_zero, Act.put, List.setIfInBounds_toArray, List.set_cons_zero, List.set_cons_succ]
        refine wpAnyH_take (i := 3) (v := ?_) rfl (by kernel_rfl) (by kernel_rfl) (by kernel_rfl) (fun _ _ _ h => h) (Or.inl ⟨by kernel_rfl, ?_⟩) (by assumption) ?_
        rotate_left
        · intro wS hSw
          have e0 := (hSw.cell (p := ⟨g, off + k * 13, none⟩) hgr (by simp)).trans p0
          have e1 := (hSw.cell (p := ⟨g, off + k * 13 + 1, none⟩) hgr (by simp)).trans p1
          have e2 := (hSw.cell (p := ⟨g, off + k * 13 + 2, none⟩) hgr (by simp)).trans p2
          have e3 := (hSw.cell (p := ⟨g, off + k * 13 + 3, none⟩) hgr (by simp)).trans p3
          have e4 := (hSw.cell (p := ⟨g, off + k * 13 + 4, none⟩) hgr (by simp)).trans p4
          have e5 := (hSw.cell (p := ⟨g, off + k * 13 + 5, none⟩) hgr (by simp)).trans p5
          have e6 := (hSw.cell (p := ⟨g, off + k * 13 + 6, none⟩) hgr (by simp)).trans p6
          have e7 := (hSw.cell (p := ⟨g, off + k * 13 + 7, none⟩) hgr (by simp)).trans p7
          have e8 := (hSw.cell (p := ⟨g, off + k * 13 + 8, none⟩) hgr (by simp)).trans p8
          have e9 := (hSw.cell (p := ⟨g, off + k * 13 + 9, none⟩) hgr (by simp)).trans p9
          have e10 := (hSw.cell (p := ⟨g, off + k * 13 + 10, none⟩) hgr (by simp)).trans p10
          have e11 := (hSw.cell (p := ⟨g, off + k * 13 + 11, none⟩) hgr (by simp)).trans p11
          have e12 := (hSw.cell (p := ⟨g, off + k * 13 + 12, none⟩) hgr (by simp)).trans p12
          try dsimp only at hSw
          go_simp
          try with_reducible rfl
        simp only [List.getElem_toArray, List.getElem_cons_succ, List.getElem_cons_zero, Act.put, List.setIfInBounds_toArray, List.set_cons_zero, List.set_cons_succ]
        refine wpAnyH_take (i := 4) (v := ?_) rfl (by kernel_rfl) (by kernel_rfl) (by kernel_rfl) (fun _ _ _ h => h) (Or.inl ⟨by kernel_rfl, ?_⟩) (by assumption) ?_
        rotate_left
        · intro wS hSw
          try dsimp only at hSw
          go_simp
          try with_reducible rfl
        simp only [List.getElem_toArray, List.getElem_cons_succ, List.getElem_cons_zero, Act.put, List.setIfInBounds_toArray, List.set_cons_zero, List.set_cons_succ]
        refine wpAnyH_take (i := 5) (v := ?_) rfl (by kernel_rfl) (by kernel_rfl) (by kernel_rfl) (fun _ _ _ h => h) (Or.inl ⟨by kernel_rfl, ?_⟩) (by assumption) ?_
        rotate_left
        · intro wS hSw
          try dsimp only at hSw
          go_simp
          try with_reducible rfl
        simp only [List.getElem_toArray, List.getElem_cons_succ, List.getElem_cons_zero, Act.put, List.setIfInBounds_toArray, List.set_cons_zero, List.set_cons_succ]
        refine wpAnyH_take (i := 6) (v := ?_) rfl (by kernel_rfl) (by kernel_rfl) (by kernel_rfl) (fun _ _ _ h => h) (Or.inl ⟨by kernel_rfl, ?_⟩) (by assumption) ?_
        rotate_left
        · intro wS hSw
          try dsimp only at hSw
          go_simp
          try with_reducible rfl
        simp only [List.getElem_toArray, List.getElem_cons_succ, List.getElem_cons_zero, Act.put, List.setIfInBounds_toArray, List.set_cons_zero, List.set_cons_succ]
        refine wpAnyH_take (i := 7) (v := ?_) rfl (by kernel_rfl) (by kernel_rfl) (by kernel_rfl) (fun _ _ _ h => h) (Or.inl ⟨by kernel_rfl, ?_⟩) (by assumption) ?_
        rotate_left
        · intro wS hSw
          have e0 := (hSw.cell (p := ⟨g2, off2 + k * 13, none⟩) hgr2 (by simp)).trans q0
          have e1 := (hSw.cell (p := ⟨g2, off2 + k * 13 + 1, none⟩) hgr2 (by simp)).trans q1
          have e2 := (hSw.cell (p := ⟨g2, off2 + k * 13 + 2, none⟩) hgr2 (by simp)).trans q2
          have e3 := (hSw.cell (p := ⟨g2, off2 + k * 13 + 3, none⟩) hgr2 (by simp)).trans q3
          have e4 := (hSw.cell (p := ⟨g2, off2 + k * 13 + 4, none⟩) hgr2 (by simp)).trans q4
          have e5 := (hSw.cell (p := ⟨g2, off2 + k * 13 + 5, none⟩) hgr2 (by simp)).trans q5
          have e6 := (hSw.cell (p := ⟨g2, off2 + k * 13 + 6, none⟩) hgr2 (by simp)).trans q6
          have e7 := (hSw.cell (p := ⟨g2, off2 + k * 13 + 7, none⟩) hgr2 (by simp)).trans q7
          have e8 := (hSw.cell (p := ⟨g2, off2 + k * 13 + 8, none⟩) hgr2 (by simp)).trans q8
          have e9 := (hSw.cell (p := ⟨g2, off2 + k * 13 + 9, none⟩) hgr2 (by simp)).trans q9
          have e10 := (hSw.cell (p := ⟨g2, off2 + k * 13 + 10, none⟩) hgr2 (by simp)).trans q10
          have e11 := (hSw.cell (p := ⟨g2, off2 + k * 13 + 11, none⟩) hgr2 (by simp)).trans q11
          have e12 := (hSw.cell (p := ⟨g2, off2 + k * 13 + 12, none⟩) hgr2 (by simp)).trans q12
          try dsimp only at hSw
          go_simp
          try with_reducible rfl
        simp only [List.getElem_toArray, List.getElem_cons_succ, List.getElem_cons_zero, Act.put, List.setIfInBounds_toArray, List.set_cons_zero, List.set_cons_succ]
        clear p0 q0 p1 q1 p2 q2 p3 q3 p4 q4 p5 q5 p6 q6 p7 q7 p8 q8 p9 q9 p10 q10 p11 q11 p12 q12
        refine wpAnyH_ready (rs := [8]) (by kernel_rfl) (by simp) ?_
        refine AllReadyH.cons rfl (fun K hK => ?_) AllReadyH.nil
        go_simp
        refine (hrs _ (HK.out.keep (Only.trans (Only.drew (Only.refl [] wr)) hHeld)) (HK2.out.keep (Only.trans (Only.drew (Only.refl [] wr)) hHeld))).mono ?_
        rintro e y1 ⟨z, rfl, hz, ho⟩
        refine hK.out _ _ (by exact hHeld.trans ho) (fun hHeld' => ?_)
        clear hHeld hK K ho
        have hHeld := hHeld'
        clear hHeld'
        refine wpAnyH_take (i := 9) (v := ?_) rfl (by kernel_rfl) (by kernel_rfl) (by kernel_rfl) (fun _ _ _ h => h) (Or.inl ⟨by kernel_rfl, ?_⟩) (by assumption) ?_
        rotate_left
        · intro wS hSw
          try dsimp only at hSw
          go_simp
          try with_reducible rfl
        simp only [List.getElem_toArray, List.getElem_cons_succ, List.getElem_cons_zero, Act.put, List.setIfInBounds_toArray, List.set_cons_zero, List.set_cons_succ]
        refine wpAnyH_done (by kernel_rfl) ?_ _
        cases z with
        | true =>
          have HE : Hid (f = f2) := Lib.hid (hz.1 rfl)
          clear hz
          go_wp2_with fail
          go_roundg ((xs.map Prod.fst).length - (k + 1))
          case measure => simp; omega
          case rel => exact ⟨k + 1, rfl, by simp; omega, by simp <;> omega, Lib.hid (by rw [HTX.out, HTY.out, hT.out]; exact congrArg _ (congrArg (fun q => [q]) HE.out)), Lib.hid (hO.out.drew.trans hHeld)⟩
        | false =>
          have HN : Hid (¬ (xs.map Prod.fst = ys.map Prod.fst)) := Lib.hid (fun e => by cases hz.2 (HNE.out e))
          clear hz
          go_wp2_with fail
          go_ret
          exact ⟨false, rfl, ⟨fun h => (by cases h), fun h => absurd h HN.out⟩, hO.out.drew.trans hHeld⟩
      · obtain rfl : k = xs.length := by omega
        have hlt' : ¬ (xs.length : Int) < xs.length := by omega
        have HE : Hid (xs.map Prod.fst = ys.map Prod.fst) := Lib.hid (by
          have h := hT.out
          rw [List.take_of_length_le (by simp), List.take_of_length_le (by rw [List.length_map]; have := HL.out; omega)] at h
          exact h)
        clear hcs hcs2
        go_wp2_with fail
        go_ret
        exact ⟨true, rfl, ⟨fun _ => HE.out, fun _ => rfl⟩, hO.out⟩
  · have hl' : ((xs.length : Int) != (ys.length : Int)) = true := by simp; omega
    have HN : Hid (¬ (xs.map Prod.fst = ys.map Prod.fst)) := Lib.hid (fun e => hl (by have := congrArg List.length e; simpa using this))
    clear hl hcs hcs2
    go_enter Try.func28, Try.ntmps28
    go_wp2_with fail
    go_ret
    exact ⟨false, rfl, ⟨fun h => (by cases h), fun h => absurd h HN.out⟩, hor.out⟩
end Go.Proofs.Ytmmgmpghkpbgkaa
/- The fixed calls of the law's package (sane). -/
namespace Go.Proofs.Ytmmgmpghkpbgkaa
open Go Go.RowKit
set_option linter.unusedVariables false
set_option linter.unusedSimpArgs false

def frA : Fr := { Fr.zero 8 with st := 4, S := [104, 105], fin := true }
def frB : Fr := { Fr.zero 2 with dl := 1, rg := [(5, 8), (0, 2)] }
def frP : Fr := { Fr.zero 1 with mx := 1 }
theorem encF_no1 {f : Fr} {l : List Pt} (ht : tab f.ty = some l) (hc : clrs l { f with fin := false } ≠ Fr.zero f.ty) : encF f = none := by
  cases h : encF f with
  | none => rfl
  | some s =>
    obtain ⟨l', bs, h1, _, _, h4, _⟩ := encF_some h
    rw [ht] at h1
    cases h1
    exact absurd h4 hc
theorem encF_no2 {f : Fr} (ht : tab f.ty = none) : encF f = none := by
  cases h : encF f with
  | none => rfl
  | some s =>
    obtain ⟨l', bs, h1, _⟩ := encF_some h
    rw [ht] at h1
    cases h1
theorem putsA : puts [.int mV .st, .int mO .off, .text 0 1024] frA = some [4, 0, 2, 104, 105] := by kernel_rfl
theorem putsB : puts [.int mV .dl, .ranges] frB = some [1, 2, 7, 2, 2, 1] := by kernel_rfl
theorem encA : encF frA = some [9, 4, 0, 2, 104, 105] := encF_mk (f := frA) (l := [.int mV .st, .int mO .off, .text 0 1024]) rfl (fun h => h.2 rfl) putsA rfl
theorem encB : encF frB = some [2, 1, 2, 7, 2, 2, 1] := encF_mk (f := frB) (l := [.int mV .dl, .ranges]) rfl (fun h => by cases h.1) putsB rfl
theorem enc0 : encF (Fr.zero 0) = some [0] := encF_mk (f := Fr.zero 0) (l := []) rfl (fun h => by cases h.1) rfl rfl
theorem enc1 : encF (Fr.zero 1) = some [1] := encF_mk (f := Fr.zero 1) (l := []) rfl (fun h => by cases h.1) rfl rfl
theorem encP : encF frP = none := encF_no1 (f := frP) (l := []) rfl (fun h => by have := congrArg Fr.mx h; simp [clrs, frP, Fr.zero] at this)
theorem dec3 : decF [3] = none := by
  have h : encF (headF 3) = none := encF_no2 (f := headF 3) rfl
  show (match gets ((tab (headF 3).ty).getD []) (headF 3) [] with
      | none => none
      | some (f, l1) => match encF f with
          | none => none
          | some _ => some (f, l1)) = none
  rw [show gets ((tab (headF 3).ty).getD []) (headF 3) [] = some (headF 3, []) from rfl]
  simp only [h]
theorem daf01 : daF 3 [0, 1] = some [Fr.zero 0, Fr.zero 1] := by
  have h0 : decF [0, 1] = some (Fr.zero 0, [1]) := dec_enc enc0 (fun p hp => by cases hp) [1]
  have h1 : decF [1] = some (Fr.zero 1, []) := dec_enc enc1 (fun p hp => by cases hp) []
  simp only [daF, h0, h1]
  simp
theorem okZ (w : World) (f : Fr) (h : FrWf f) (ht : -9223372036854775808 ≤ f.ty ∧ f.ty ≤ 9223372036854775807) (hr : f.rg = []) : FrOk w f (.slice none 0 0) := ⟨h, ht, by rw [hr]; exact RgAt.nil w, by rw [hr]; simp⟩
theorem okA (w : World) : FrOk w frA (.slice none 0 0) := okZ w frA (by constructor <;> simp [frA, Fr.zero]) (by simp [frA, Fr.zero]) rfl
theorem okPg (w : World) : FrOk w frP (.slice none 0 0) := okZ w frP (by constructor <;> simp [frP, Fr.zero]) (by simp [frP, Fr.zero]) rfl
theorem okB (w : World) (rv : Value) (h : RgAt w rv [(5, 8), (0, 2)]) : FrOk w frB rv := ⟨by constructor <;> simp [frB, Fr.zero], by simp [frB, Fr.zero], h, by simp [frB, Fr.zero]⟩
theorem sEncA (w : World) : Calls Try.prog 17 #[.agg #[.int .i64 8, .int .i64 4, .int .i64 0, .string ⟨#[104, 105]⟩, .bool true, .int .i64 0, .int .i64 0, .bool false, .int .i64 0, .slice none 0 0, .int .i64 0, .int .i64 0, .string ⟨#[]⟩]] w fun e w' => e = .returned (.tuple #[.string ⟨#[9, 4, 0, 2, 104, 105]⟩, .int .i64 0]) ∧ Only [] w w' := enc_ok frA _ w (okA w) encA
theorem sEncB (w : World) (rv : Value) (h : RgAt w rv [(5, 8), (0, 2)]) : Calls Try.prog 17 #[.agg #[.int .i64 2, .int .i64 0, .int .i64 0, .string ⟨#[]⟩, .bool false, .int .i64 0, .int .i64 0, .bool false, .int .i64 1, rv, .int .i64 0, .int .i64 0, .string ⟨#[]⟩]] w fun e w' => e = .returned (.tuple #[.string ⟨#[2, 1, 2, 7, 2, 2, 1]⟩, .int .i64 0]) ∧ Only [] w w' := enc_ok frB _ w (okB w rv h) encB
theorem sEncP (w : World) : Calls Try.prog 17 #[.agg #[.int .i64 1, .int .i64 0, .int .i64 0, .string ⟨#[]⟩, .bool false, .int .i64 1, .int .i64 0, .bool false, .int .i64 0, .slice none 0 0, .int .i64 0, .int .i64 0, .string ⟨#[]⟩]] w fun e w' => e = .returned (.tuple #[.string ⟨#[]⟩, .int .i64 90]) ∧ Only [] w w' := enc_no frP _ w (okPg w) encP
theorem sDecB (w : World) : Calls Try.prog 18 #[.string ⟨#[0, 2, 1, 2, 7, 2, 2, 1]⟩, .int .i64 1] w fun e w' => ∃ ra rc, e = .returned (.tuple #[.agg #[.int .i64 2, .int .i64 0, .int .i64 0, .string ⟨#[]⟩, .bool false, .int .i64 0, .int .i64 0, .bool false, .int .i64 1, .slice ra 2 rc, .int .i64 0, .int .i64 0, .string ⟨#[]⟩], .int .i64 8, .int .i64 0]) ∧ RgAt w' (.slice ra 2 rc) [(5, 8), (0, 2)] ∧ Only [] w w' := by
  refine (dec_ok (p := [0]) (r := []) encB (by intro p hp; simp only [frB, List.mem_cons, List.not_mem_nil, or_false] at hp; rcases hp with rfl | rfl <;> simp) (by simp) (by simp) w).mono fun e w' ⟨rv, h1, h2, _, h3⟩ => ?_
  obtain ⟨ra, rc, hv, _⟩ := h2.rg
  have hr := h2.rg
  subst hv
  exact ⟨ra, rc, h1, hr, h3⟩
theorem sDec3 (w : World) : Calls Try.prog 18 #[.string ⟨#[3]⟩, .int .i64 0] w fun e w' => e = .returned (.tuple #[.agg #[.int .i64 0, .int .i64 0, .int .i64 0, .string ⟨#[]⟩, .bool false, .int .i64 0, .int .i64 0, .bool false, .int .i64 0, .slice none 0 0, .int .i64 0, .int .i64 0, .string ⟨#[]⟩], .int .i64 0, .int .i64 90]) ∧ Only [] w w' := by
  refine (dec_any ⟨#[3]⟩ (by decide) w).mono fun e w' ⟨h1, h2⟩ => ?_
  rw [show (⟨#[3]⟩ : ByteArray).data.toList = [3] from rfl, dec3] at h2
  exact ⟨h2, h1⟩
theorem sDecAll (w : World) : Calls Try.prog 26 #[.string ⟨#[0, 1]⟩] w fun e w' => ∃ g cap, e = .returned (.tuple #[.slice (some ⟨g, 0, none⟩) 2 cap, .int .i64 0]) ∧ g < w'.heap.size ∧ w'.cell? ⟨g, 0, none⟩ = some (.int .i64 0) ∧ w'.cell? ⟨g, 13, none⟩ = some (.int .i64 1) ∧ Only [] w w' := by
  refine (decAll_c ⟨#[0, 1]⟩ (by decide) w).mono fun e w' ⟨h1, h2⟩ => ?_
  rw [show (⟨#[0, 1]⟩ : ByteArray).data.toList = [0, 1] from rfl, show (⟨#[0, 1]⟩ : ByteArray).size + 1 = 3 from rfl, daf01] at h2
  obtain ⟨v, xs, rfl, hR, hm⟩ := h2
  match xs, hm with
  | [(f0, v0), (f1, v1)], hm =>
    simp only [List.map_cons, List.map_nil, List.cons.injEq, and_true] at hm
    obtain ⟨rfl, rfl⟩ := hm
    obtain ⟨g, cap, rfl, _, hg, _, hc⟩ := hR.form (by simp)
    exact ⟨g, cap, rfl, hg, hc 0 (by simp) 0 (by omega), hc 1 (by simp) 0 (by omega), h1⟩
theorem sRef (w : World) (ra rc : _) (g : Value) (h1 : RgAt w (.slice ra 2 rc) [(5, 8), (0, 2)]) (h2 : RgAt w g [(5, 8), (0, 2)]) : Calls Try.prog 30 #[.agg #[.int .i64 2, .int .i64 0, .int .i64 0, .string ⟨#[]⟩, .bool false, .int .i64 0, .int .i64 0, .bool false, .int .i64 1, .slice ra 2 rc, .int .i64 0, .int .i64 0, .string ⟨#[]⟩], .agg #[.int .i64 2, .int .i64 0, .int .i64 0, .string ⟨#[]⟩, .bool false, .int .i64 0, .int .i64 0, .bool false, .int .i64 1, g, .int .i64 0, .int .i64 0, .string ⟨#[]⟩]] w fun e w' => e = .returned (.bool true) ∧ Only [] w w' :=
  (rsame_c frB frB _ g w h1 h2 (by simp [frB, Fr.zero]) (by simp [frB, Fr.zero])).mono fun e w' ⟨z, h1, h2, h3⟩ => ⟨by rw [h1, h2.2 rfl], h3⟩
theorem sVal (w : World) : Calls Try.prog 19 #[.agg #[.int .i64 8, .int .i64 4, .int .i64 0, .string ⟨#[104, 105]⟩, .bool true, .int .i64 0, .int .i64 0, .bool false, .int .i64 0, .slice none 0 0, .int .i64 0, .int .i64 0, .string ⟨#[]⟩]] w fun e w' => e = .returned (.bool true) ∧ Only [] w w' := val_ok frA _ w (okA w) encA
theorem sSameT (w : World) : Calls Try.prog 20 #[.agg #[.int .i64 8, .int .i64 4, .int .i64 0, .string ⟨#[104, 105]⟩, .bool true, .int .i64 0, .int .i64 0, .bool false, .int .i64 0, .slice none 0 0, .int .i64 0, .int .i64 0, .string ⟨#[]⟩], .agg #[.int .i64 8, .int .i64 4, .int .i64 0, .string ⟨#[104, 105]⟩, .bool true, .int .i64 0, .int .i64 0, .bool false, .int .i64 0, .slice none 0 0, .int .i64 0, .int .i64 0, .string ⟨#[]⟩]] w fun e w' => e = .returned (.bool true) ∧ Only [] w w' :=
  (same_c frA frA _ _ w (okA w).rg (okA w).rg (by simp [frA, Fr.zero]) (by simp [frA, Fr.zero])).mono fun e w' ⟨z, h1, h2, h3⟩ => ⟨by rw [h1, h2.2 rfl], h3⟩
theorem sSameF (w : World) (g : Value) (hg : RgAt w g [(5, 8), (0, 2)]) : Calls Try.prog 20 #[.agg #[.int .i64 8, .int .i64 4, .int .i64 0, .string ⟨#[104, 105]⟩, .bool true, .int .i64 0, .int .i64 0, .bool false, .int .i64 0, .slice none 0 0, .int .i64 0, .int .i64 0, .string ⟨#[]⟩], .agg #[.int .i64 2, .int .i64 0, .int .i64 0, .string ⟨#[]⟩, .bool false, .int .i64 0, .int .i64 0, .bool false, .int .i64 1, g, .int .i64 0, .int .i64 0, .string ⟨#[]⟩]] w fun e w' => e = .returned (.bool false) ∧ Only [] w w' :=
  (same_c frA frB _ g w (okA w).rg hg (by simp [frA, Fr.zero]) (by simp [frB, Fr.zero])).mono fun e w' ⟨z, h1, h2, h3⟩ => ⟨by
    have : z = false := by
      cases z
      · rfl
      · have := congrArg Fr.ty (h2.1 rfl)
        simp [frA, frB, Fr.zero] at this
    rw [h1, this], h3⟩
theorem sElA (w : World) : Calls Try.prog 21 #[.agg #[.int .i64 8, .int .i64 4, .int .i64 0, .string ⟨#[104, 105]⟩, .bool true, .int .i64 0, .int .i64 0, .bool false, .int .i64 0, .slice none 0 0, .int .i64 0, .int .i64 0, .string ⟨#[]⟩]] w fun e w' => e = .returned (.bool true) ∧ Only [] w w' := elic_c frA (.slice none 0 0) w
theorem sElB (w : World) (g : Value) : Calls Try.prog 21 #[.agg #[.int .i64 2, .int .i64 0, .int .i64 0, .string ⟨#[]⟩, .bool false, .int .i64 0, .int .i64 0, .bool false, .int .i64 1, g, .int .i64 0, .int .i64 0, .string ⟨#[]⟩]] w fun e w' => e = .returned (.bool false) ∧ Only [] w w' := elic_c frB g w
theorem sAl4 (w : World) : Calls Try.prog 33 #[.int .i64 4, .agg #[.int .i64 8, .int .i64 4, .int .i64 0, .string ⟨#[104, 105]⟩, .bool true, .int .i64 0, .int .i64 0, .bool false, .int .i64 0, .slice none 0 0, .int .i64 0, .int .i64 0, .string ⟨#[]⟩]] w fun e w' => e = .returned (.bool true) ∧ Only [] w w' := allow_c 4 frA (.slice none 0 0) w
theorem sAl0 (w : World) : Calls Try.prog 33 #[.int .i64 0, .agg #[.int .i64 8, .int .i64 4, .int .i64 0, .string ⟨#[104, 105]⟩, .bool true, .int .i64 0, .int .i64 0, .bool false, .int .i64 0, .slice none 0 0, .int .i64 0, .int .i64 0, .string ⟨#[]⟩]] w fun e w' => e = .returned (.bool false) ∧ Only [] w w' := allow_c 0 frA (.slice none 0 0) w
set_option maxRecDepth 100000 in
set_option maxHeartbeats 8000000 in
theorem sane9 (w : World) : Calls Try.prog 22 #[] w fun e w' => e = .returned (.bool true) ∧ Only [] w w' := by
  have eC : (⟨#[0]⟩ : ByteArray) ++ ⟨#[2, 1, 2, 7, 2, 2, 1]⟩ = ⟨#[0, 2, 1, 2, 7, 2, 2, 1]⟩ := rfl
  have eS : ¬ 9223372036854775807 < (⟨#[0]⟩ : ByteArray).size + (⟨#[2, 1, 2, 7, 2, 2, 1]⟩ : ByteArray).size := by decide
  go_enter Try.func22, Try.ntmps22
  go_upto_region 2 with fail
  have hA := At.new w 33 #[.int .i64 8, .int .i64 4, .int .i64 0, .string ⟨#[104, 105]⟩, .bool true, .int .i64 0, .int .i64 0, .bool false, .int .i64 0, .slice none 0 0, .int .i64 0, .int .i64 0, .string ⟨#[]⟩]
  have hO := (Only.refl [] w).alloc (.cells #[.int .i64 8, .int .i64 4, .int .i64 0, .string ⟨#[104, 105]⟩, .bool true, .int .i64 0, .int .i64 0, .bool false, .int .i64 0, .slice none 0 0, .int .i64 0, .int .i64 0, .string ⟨#[]⟩] 33)
  generalize w.alloc (.cells #[.int .i64 8, .int .i64 4, .int .i64 0, .string ⟨#[104, 105]⟩, .bool true, .int .i64 0, .int .i64 0, .bool false, .int .i64 0, .slice none 0 0, .int .i64 0, .int .i64 0, .string ⟨#[]⟩] 33) = w1 at hA hO ⊢
  generalize w.heap.size = pa at hA ⊢
  go_upto_region 3 with fail
  have hG := (At.new w1 43 #[.int .i64 5, .int .i64 8, .int .i64 0, .int .i64 2]).alloc (.cells #[.int .i64 2, .int .i64 0, .int .i64 0, .string ⟨#[]⟩, .bool false, .int .i64 0, .int .i64 0, .bool false, .int .i64 1, .slice (some ⟨w1.heap.size, 0, none⟩) 2 2, .int .i64 0, .int .i64 0, .string ⟨#[]⟩] 33)
  have hB := At.new (w1.alloc (.cells #[.int .i64 5, .int .i64 8, .int .i64 0, .int .i64 2] 43)) 33 #[.int .i64 2, .int .i64 0, .int .i64 0, .string ⟨#[]⟩, .bool false, .int .i64 0, .int .i64 0, .bool false, .int .i64 1, .slice (some ⟨w1.heap.size, 0, none⟩) 2 2, .int .i64 0, .int .i64 0, .string ⟨#[]⟩]
  rw [World.size_alloc] at hB
  have hA2 := (hA.alloc (.cells #[.int .i64 5, .int .i64 8, .int .i64 0, .int .i64 2] 43)).alloc (.cells #[.int .i64 2, .int .i64 0, .int .i64 0, .string ⟨#[]⟩, .bool false, .int .i64 0, .int .i64 0, .bool false, .int .i64 1, .slice (some ⟨w1.heap.size, 0, none⟩) 2 2, .int .i64 0, .int .i64 0, .string ⟨#[]⟩] 33)
  have hO2 := (hO.alloc (.cells #[.int .i64 5, .int .i64 8, .int .i64 0, .int .i64 2] 43)).alloc (.cells #[.int .i64 2, .int .i64 0, .int .i64 0, .string ⟨#[]⟩, .bool false, .int .i64 0, .int .i64 0, .bool false, .int .i64 1, .slice (some ⟨w1.heap.size, 0, none⟩) 2 2, .int .i64 0, .int .i64 0, .string ⟨#[]⟩] 33)
  clear hA hO
  generalize (w1.alloc (.cells #[.int .i64 5, .int .i64 8, .int .i64 0, .int .i64 2] 43)).alloc (.cells #[.int .i64 2, .int .i64 0, .int .i64 0, .string ⟨#[]⟩, .bool false, .int .i64 0, .int .i64 0, .bool false, .int .i64 1, .slice (some ⟨w1.heap.size, 0, none⟩) 2 2, .int .i64 0, .int .i64 0, .string ⟨#[]⟩] 33) = w2 at hG hB hA2 hO2 ⊢
  generalize w1.heap.size = pg at hG hB ⊢
  have hgl := hG.lt
  have hRG : RgAt w2 (.slice (some ⟨pg, 0, none⟩) 2 2) [(5, 8), (0, 2)] := by
    refine ⟨some ⟨pg, 0, none⟩, 2, rfl, fun i hi => ?_⟩
    refine ⟨pg, 0, rfl, hgl, ?_⟩
    rcases i with _ | _ | i
    · exact ⟨hG.cell 0 rfl, hG.cell 1 rfl, by simp, by simp⟩
    · exact ⟨hG.cell 2 rfl, hG.cell 3 rfl, by simp, by simp⟩
    · exact absurd (show i + 1 + 1 < 2 from hi) (by omega)
  have HA := Lib.hid hA2
  have HB := Lib.hid hB
  have HR := Lib.hid hRG
  have HO := Lib.hid hO2
  have H2 := Lib.hid (Only.refl [] w2)
  clear hA2 hB hRG hO2 hG hgl
  generalize hpb : pg + 1 = pb at HB ⊢
  clear hpb
  obtain ⟨a0, a1, a2, a3, a4, a5, a6, a7, a8, a9, a10, a11, a12⟩ := (show At w2 pa _ _ from (HA.out.keep H2.out (by simp))).c13
  go_wp2_with fail
  refine (sEncA _).mono ?_
  rintro e w3 ⟨rfl, ho⟩
  clear a0 a1 a2 a3 a4 a5 a6 a7 a8 a9 a10 a11 a12
  replace H2 := Lib.hid ((H2.out).trans ho)
  replace HO := Lib.hid ((HO.out).trans ho)
  clear ho
  obtain ⟨b0, b1, b2, b3, b4, b5, b6, b7, b8, b9, b10, b11, b12⟩ := (show At w3 pb _ _ from (HB.out.keep H2.out (by simp))).c13
  go_wp2_with fail
  refine (sEncB _ _ (HR.out.keep H2.out)).mono ?_
  rintro e w4 ⟨rfl, ho⟩
  clear b0 b1 b2 b3 b4 b5 b6 b7 b8 b9 b10 b11 b12
  replace H2 := Lib.hid ((H2.out).trans ho)
  replace HO := Lib.hid ((HO.out).trans ho)
  clear ho
  go_wp2_with fail
  refine (sDecB _).mono ?_
  rintro e w5 ⟨ra, rc, rfl, hrc, ho⟩
  replace H2 := Lib.hid ((H2.out).trans ho)
  replace HO := Lib.hid ((HO.out).trans ho)
  clear ho
  go_upto_region 6 with fail
  have hC := At.new w5 33 #[.int .i64 2, .int .i64 0, .int .i64 0, .string ⟨#[]⟩, .bool false, .int .i64 0, .int .i64 0, .bool false, .int .i64 1, .slice ra 2 rc, .int .i64 0, .int .i64 0, .string ⟨#[]⟩]
  have hRC := hrc.keep ((Only.refl [] w5).alloc (.cells #[.int .i64 2, .int .i64 0, .int .i64 0, .string ⟨#[]⟩, .bool false, .int .i64 0, .int .i64 0, .bool false, .int .i64 1, .slice ra 2 rc, .int .i64 0, .int .i64 0, .string ⟨#[]⟩] 33))
  replace H2 := Lib.hid (H2.out.alloc (.cells #[.int .i64 2, .int .i64 0, .int .i64 0, .string ⟨#[]⟩, .bool false, .int .i64 0, .int .i64 0, .bool false, .int .i64 1, .slice ra 2 rc, .int .i64 0, .int .i64 0, .string ⟨#[]⟩] 33))
  replace HO := Lib.hid (HO.out.alloc (.cells #[.int .i64 2, .int .i64 0, .int .i64 0, .string ⟨#[]⟩, .bool false, .int .i64 0, .int .i64 0, .bool false, .int .i64 1, .slice ra 2 rc, .int .i64 0, .int .i64 0, .string ⟨#[]⟩] 33))
  clear hrc
  generalize w5.alloc (.cells #[.int .i64 2, .int .i64 0, .int .i64 0, .string ⟨#[]⟩, .bool false, .int .i64 0, .int .i64 0, .bool false, .int .i64 1, .slice ra 2 rc, .int .i64 0, .int .i64 0, .string ⟨#[]⟩] 33) = w6 at hC hRC H2 HO ⊢
  generalize w5.heap.size = pc at hC ⊢
  have HC := Lib.hid hC
  have HRC := Lib.hid hRC
  clear hC hRC
  have H5 := Lib.hid (Only.refl [] w6)
  go_wp2_with fail
  refine (sDecAll _).mono ?_
  rintro e w7 ⟨gd, dc, rfl, hgd, hd0, hd1, ho⟩
  replace H2 := Lib.hid ((H2.out).trans ho)
  replace H5 := Lib.hid ((H5.out).trans ho)
  replace HO := Lib.hid ((HO.out).trans ho)
  clear ho
  have HD := Lib.hid (And.intro hgd (And.intro hd0 hd1))
  clear hgd hd0 hd1
  have H6 := Lib.hid (Only.refl [] w7)
  go_wp2_with fail
  refine (sDec3 _).mono ?_
  rintro e w8 ⟨rfl, ho⟩
  replace H2 := Lib.hid ((H2.out).trans ho)
  replace H5 := Lib.hid ((H5.out).trans ho)
  replace H6 := Lib.hid ((H6.out).trans ho)
  replace HO := Lib.hid ((HO.out).trans ho)
  clear ho
  go_upto_region 8 with fail
  replace H2 := Lib.hid (H2.out.alloc (.cells #[.int .i64 0, .int .i64 0, .int .i64 0, .string ⟨#[]⟩, .bool false, .int .i64 0, .int .i64 0, .bool false, .int .i64 0, .slice none 0 0, .int .i64 0, .int .i64 0, .string ⟨#[]⟩] 33))
  replace H5 := Lib.hid (H5.out.alloc (.cells #[.int .i64 0, .int .i64 0, .int .i64 0, .string ⟨#[]⟩, .bool false, .int .i64 0, .int .i64 0, .bool false, .int .i64 0, .slice none 0 0, .int .i64 0, .int .i64 0, .string ⟨#[]⟩] 33))
  replace H6 := Lib.hid (H6.out.alloc (.cells #[.int .i64 0, .int .i64 0, .int .i64 0, .string ⟨#[]⟩, .bool false, .int .i64 0, .int .i64 0, .bool false, .int .i64 0, .slice none 0 0, .int .i64 0, .int .i64 0, .string ⟨#[]⟩] 33))
  replace HO := Lib.hid (HO.out.alloc (.cells #[.int .i64 0, .int .i64 0, .int .i64 0, .string ⟨#[]⟩, .bool false, .int .i64 0, .int .i64 0, .bool false, .int .i64 0, .slice none 0 0, .int .i64 0, .int .i64 0, .string ⟨#[]⟩] 33))
  generalize w8.alloc (.cells #[.int .i64 0, .int .i64 0, .int .i64 0, .string ⟨#[]⟩, .bool false, .int .i64 0, .int .i64 0, .bool false, .int .i64 0, .slice none 0 0, .int .i64 0, .int .i64 0, .string ⟨#[]⟩] 33) = w9 at H2 H5 H6 HO ⊢
  go_wp2_with fail
  refine (sEncP _).mono ?_
  rintro e w10 ⟨rfl, ho⟩
  replace H2 := Lib.hid ((H2.out).trans ho)
  replace H5 := Lib.hid ((H5.out).trans ho)
  replace H6 := Lib.hid ((H6.out).trans ho)
  replace HO := Lib.hid ((HO.out).trans ho)
  clear ho
  obtain ⟨c0, c1, c2, c3, c4, c5, c6, c7, c8, c9, c10, c11, c12⟩ := (show At w10 pc _ _ from (HC.out.keep H5.out (by simp))).c13
  obtain ⟨b0, b1, b2, b3, b4, b5, b6, b7, b8, b9, b10, b11, b12⟩ := (show At w10 pb _ _ from (HB.out.keep H2.out (by simp))).c13
  go_wp2_with fail
  refine (sRef _ ra rc _ (HRC.out.keep H5.out) (HR.out.keep H2.out)).mono ?_
  rintro e w11 ⟨rfl, ho⟩
  clear c0 c1 c2 c3 c4 c5 c6 c7 c8 c9 c10 c11 c12 b0 b1 b2 b3 b4 b5 b6 b7 b8 b9 b10 b11 b12
  replace H2 := Lib.hid ((H2.out).trans ho)
  replace H5 := Lib.hid ((H5.out).trans ho)
  replace H6 := Lib.hid ((H6.out).trans ho)
  replace HO := Lib.hid ((HO.out).trans ho)
  clear ho
  obtain ⟨a0, a1, a2, a3, a4, a5, a6, a7, a8, a9, a10, a11, a12⟩ := (show At w11 pa _ _ from (HA.out.keep H2.out (by simp))).c13
  have q0 : w11.cell? ⟨gd, 0, none⟩ = some (.int .i64 0) := (H6.out.cell (p := ⟨gd, 0, none⟩) HD.out.1 (by simp)).trans HD.out.2.1
  have q1 : w11.cell? ⟨gd, 13, none⟩ = some (.int .i64 1) := (H6.out.cell (p := ⟨gd, 13, none⟩) HD.out.1 (by simp)).trans HD.out.2.2
  go_wp2_with fail
  refine (sVal _).mono ?_
  rintro e w12 ⟨rfl, ho⟩
  clear a0 a1 a2 a3 a4 a5 a6 a7 a8 a9 a10 a11 a12
  replace H2 := Lib.hid ((H2.out).trans ho)
  replace H5 := Lib.hid ((H5.out).trans ho)
  replace H6 := Lib.hid ((H6.out).trans ho)
  replace HO := Lib.hid ((HO.out).trans ho)
  clear ho
  clear q0 q1
  obtain ⟨a0, a1, a2, a3, a4, a5, a6, a7, a8, a9, a10, a11, a12⟩ := (show At w12 pa _ _ from (HA.out.keep H2.out (by simp))).c13
  go_wp2_with fail
  refine (sSameT _).mono ?_
  rintro e w13 ⟨rfl, ho⟩
  clear a0 a1 a2 a3 a4 a5 a6 a7 a8 a9 a10 a11 a12
  replace H2 := Lib.hid ((H2.out).trans ho)
  replace H5 := Lib.hid ((H5.out).trans ho)
  replace H6 := Lib.hid ((H6.out).trans ho)
  replace HO := Lib.hid ((HO.out).trans ho)
  clear ho
  obtain ⟨a0, a1, a2, a3, a4, a5, a6, a7, a8, a9, a10, a11, a12⟩ := (show At w13 pa _ _ from (HA.out.keep H2.out (by simp))).c13
  obtain ⟨b0, b1, b2, b3, b4, b5, b6, b7, b8, b9, b10, b11, b12⟩ := (show At w13 pb _ _ from (HB.out.keep H2.out (by simp))).c13
  go_wp2_with fail
  refine (sSameF _ _ (HR.out.keep H2.out)).mono ?_
  rintro e w14 ⟨rfl, ho⟩
  clear a0 a1 a2 a3 a4 a5 a6 a7 a8 a9 a10 a11 a12 b0 b1 b2 b3 b4 b5 b6 b7 b8 b9 b10 b11 b12
  replace H2 := Lib.hid ((H2.out).trans ho)
  replace H5 := Lib.hid ((H5.out).trans ho)
  replace H6 := Lib.hid ((H6.out).trans ho)
  replace HO := Lib.hid ((HO.out).trans ho)
  clear ho
  obtain ⟨a0, a1, a2, a3, a4, a5, a6, a7, a8, a9, a10, a11, a12⟩ := (show At w14 pa _ _ from (HA.out.keep H2.out (by simp))).c13
  go_wp2_with fail
  refine (sElA _).mono ?_
  rintro e w15 ⟨rfl, ho⟩
  clear a0 a1 a2 a3 a4 a5 a6 a7 a8 a9 a10 a11 a12
  replace H2 := Lib.hid ((H2.out).trans ho)
  replace H5 := Lib.hid ((H5.out).trans ho)
  replace H6 := Lib.hid ((H6.out).trans ho)
  replace HO := Lib.hid ((HO.out).trans ho)
  clear ho
  obtain ⟨b0, b1, b2, b3, b4, b5, b6, b7, b8, b9, b10, b11, b12⟩ := (show At w15 pb _ _ from (HB.out.keep H2.out (by simp))).c13
  go_wp2_with fail
  refine (sElB _ _).mono ?_
  rintro e w16 ⟨rfl, ho⟩
  clear b0 b1 b2 b3 b4 b5 b6 b7 b8 b9 b10 b11 b12
  replace H2 := Lib.hid ((H2.out).trans ho)
  replace H5 := Lib.hid ((H5.out).trans ho)
  replace H6 := Lib.hid ((H6.out).trans ho)
  replace HO := Lib.hid ((HO.out).trans ho)
  clear ho
  obtain ⟨a0, a1, a2, a3, a4, a5, a6, a7, a8, a9, a10, a11, a12⟩ := (show At w16 pa _ _ from (HA.out.keep H2.out (by simp))).c13
  go_wp2_with fail
  refine (sAl4 _).mono ?_
  rintro e w17 ⟨rfl, ho⟩
  clear a0 a1 a2 a3 a4 a5 a6 a7 a8 a9 a10 a11 a12
  replace H2 := Lib.hid ((H2.out).trans ho)
  replace H5 := Lib.hid ((H5.out).trans ho)
  replace H6 := Lib.hid ((H6.out).trans ho)
  replace HO := Lib.hid ((HO.out).trans ho)
  clear ho
  obtain ⟨a0, a1, a2, a3, a4, a5, a6, a7, a8, a9, a10, a11, a12⟩ := (show At w17 pa _ _ from (HA.out.keep H2.out (by simp))).c13
  go_wp2_with fail
  refine (sAl0 _).mono ?_
  rintro e w18 ⟨rfl, ho⟩
  clear a0 a1 a2 a3 a4 a5 a6 a7 a8 a9 a10 a11 a12
  replace H2 := Lib.hid ((H2.out).trans ho)
  replace H5 := Lib.hid ((H5.out).trans ho)
  replace H6 := Lib.hid ((H6.out).trans ho)
  replace HO := Lib.hid ((HO.out).trans ho)
  clear ho
  go_wp2_with fail
  go_ret
  exact ⟨rfl, HO.out⟩
end Go.Proofs.Ytmmgmpghkpbgkaa
