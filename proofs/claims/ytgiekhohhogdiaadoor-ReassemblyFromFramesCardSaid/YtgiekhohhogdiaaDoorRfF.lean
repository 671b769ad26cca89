/- Contracts of package frame: getRanges. -/
import Derived.Test.YtgiekhohhogdiaaDoorRfE
import Derived.Lib.AppendZeros
import Derived.Deep.CutRange
namespace Go.Proofs.YtgiekhohhogdiaaDoor
open Go Go.RowKit
set_option linter.unusedVariables false
set_option linter.unusedSimpArgs false

def spc (p : Int × Int) : List Value := [.int .i64 p.1, .int .i64 p.2]
theorem spc_flen (L : List (Int × Int)) : (L.flatMap spc).length = L.length * 2 := by
  induction L with
  | nil => rfl
  | cons p L ih => rw [List.flatMap_cons, List.length_append, ih, List.length_cons]; simp [spc]; omega
theorem spc_get (L : List (Int × Int)) : ∀ (k : Nat) (hk : k < L.length) (j : Nat), j < 2 → (L.flatMap spc)[k * 2 + j]? = (spc (L[k]'hk))[j]? := by
  induction L with
  | nil => intro k hk; simp at hk
  | cons p L ih =>
    intro k hk j hj
    rw [List.flatMap_cons]
    cases k with
    | zero => rw [List.getElem?_append_left (by simp [spc]; omega), Nat.zero_mul, Nat.zero_add]; rfl
    | succ k =>
      rw [List.getElem?_append_right (by simp [spc]; omega), show (spc p).length = 2 from rfl, show (k + 1) * 2 + j - 2 = k * 2 + j by omega, ih k (by simpa using hk) j hj]
      rfl
theorem spc_one (L : List (Int × Int)) : ∀ u ∈ L.flatMap spc, u.oneCell' = true := by
  intro u hu
  obtain ⟨p, _, hp⟩ := List.mem_flatMap.1 hu
  simp only [spc, List.mem_cons, List.not_mem_nil, or_false] at hp
  rcases hp with rfl | rfl <;> rfl
def InI (L : List (Int × Int)) : Prop := ∀ p ∈ L, (-9223372036854775808 ≤ p.1 ∧ p.1 ≤ 9223372036854775807) ∧ (-9223372036854775808 ≤ p.2 ∧ p.2 ≤ 9223372036854775807)
/-- The slice v owns a row of the ranges L. -/
def RgO (w : World) (base : Nat) (v : Value) (L : List (Int × Int)) : Prop := w.ownsRow base 114 2 v L.length (L.flatMap spc)
theorem RgO.at {w : World} {base : Nat} {v : Value} {L : List (Int × Int)} (h : RgO w base v L) (hI : InI L) : RgAt w v L := by
  rcases h.2 with ⟨rfl, h2⟩ | ⟨g, cap, cur, rfl, hb, hg, h1, h2, h3, h4⟩
  · have hl : L = [] := List.length_eq_zero_iff.1 h2
    subst hl
    exact ⟨none, 0, rfl, fun i hi => by simp at hi⟩
  · refine ⟨_, _, rfl, fun i hi => ⟨g, 0, rfl, (Array.getElem?_eq_some_iff.1 hg).1, ?_, ?_, hI _ (List.getElem_mem hi)⟩⟩
    · have hA : At w g 114 cur := hg
      rw [Nat.zero_add]
      refine hA.cell _ ?_
      have e : (cur.toList.take (L.length * 2))[i * 2]? = (L.flatMap spc)[i * 2]? := by rw [h4]
      rw [List.getElem?_take, if_pos (by omega), show i * 2 = i * 2 + 0 from rfl, spc_get L i hi 0 (by omega)] at e
      simpa [spc] using e
    · have hA : At w g 114 cur := hg
      rw [Nat.zero_add]
      refine hA.cell _ ?_
      have e : (cur.toList.take (L.length * 2))[i * 2 + 1]? = (L.flatMap spc)[i * 2 + 1]? := by rw [h4]
      rw [List.getElem?_take, if_pos (by omega), spc_get L i hi 1 (by omega)] at e
      simpa [spc] using e
/-- The slice v lies in a block from B on. -/
def RgNew (B : Nat) (v : Value) : Prop := ∀ g n c, v = .slice (some g) n c → B ≤ g.block
theorem RgNew.low {B C : Nat} {v : Value} (h : RgNew C v) (hB : B ≤ C) : RgNew B v := fun g n c e => Nat.le_trans hB (h g n c e)
theorem RgNew.nil (B : Nat) : RgNew B (.slice none 0 0) := fun g n c e => by cases e
theorem RgO.new {w : World} {base : Nat} {v : Value} {L : List (Int × Int)} (h : RgO w base v L) : RgNew base v := by
  rcases h.2 with ⟨rfl, h2⟩ | ⟨g, cap, cur, rfl, hb, hg, h1, h2, h3, h4⟩
  · exact RgNew.nil _
  · intro g' n c e
    cases e
    exact hb
theorem RgO.keep {w w' : World} {base : Nat} {v : Value} {L : List (Int × Int)} (h : RgO w base v L) {S : List Nat} (ho : Only S w w') (hS : ∀ k ∈ S, k < base) : RgO w' base v L := by
  refine ⟨h.1, ?_⟩
  rcases h.2 with h2 | ⟨g, cap, cur, rfl, hb, hg, h1, h2, h3, h4⟩
  · exact .inl h2
  · exact .inr ⟨g, cap, cur, rfl, hb, (ho.block g (Array.getElem?_eq_some_iff.1 hg).1 (fun hm => by have := hS g hm; omega)).trans hg, h1, h2, h3, h4⟩
theorem A_infoSp : (Tryd.prog.info? 114).map (fun i => (i.zero.map fun z => z.cells.size, i.size, i.bytes)) = some (some 2, 2, 16) := by kernel_rfl
theorem RgO.append {w : World} {base : Nat} {v : Value} {L : List (Int × Int)} (h : RgO w base v L) (p : Int × Int) (hs : L.length ≤ 1000) (hbase : base ≤ w.heap.size) :
    ∃ v' w', (∀ ty, (Builtin.append_ #[31, 31] ty #[v, .slice (some ⟨w.heap.size, 0, none⟩) 1 1]).run Tryd.prog (w.alloc (.cells #[.int .i64 p.1, .int .i64 p.2] 114)) = .ok v' w') ∧ RgO w' base v' (L ++ [p]) ∧ Below base w w' ∧ (∀ q t cs, At w q t cs → t ≠ 114 → At w' q t cs) := by
  obtain ⟨i, hi, hzz⟩ := Option.map_eq_some_iff.1 A_infoSp
  simp only [Prod.mk.injEq] at hzz
  obtain ⟨hz0, hsz, hb⟩ := hzz
  obtain ⟨z, hz, hz5⟩ := Option.map_eq_some_iff.1 hz0
  have hA := At.new w 114 #[.int .i64 p.1, .int .i64 p.2]
  have key := fun ty => run_append_own (P := Tryd.prog) (w.alloc (.cells #[.int .i64 p.1, .int .i64 p.2] 114)) base 31 ty 114 i z 2 16 Tryd.underlying31 hi hz hsz hb hz5 (by decide) v L.length (L.flatMap spc) (World.ownsRow.alloc h _) ⟨w.heap.size, 0, none⟩ 1 1 (spc p) rfl (fun j u hj => by
    match j, hj with
    | 0, hj => rw [show (⟨w.heap.size, 0, none⟩ : Addr).add 0 = ⟨w.heap.size, 0, none⟩ from by simp [Addr.add]]; exact (hA.cell 0 rfl).trans (by simpa [spc] using hj)
    | 1, hj => rw [show (⟨w.heap.size, 0, none⟩ : Addr).add 1 = ⟨w.heap.size, 1, none⟩ from by simp [Addr.add]]; exact (hA.cell 1 rfl).trans (by simpa [spc] using hj)) (fun u hu => by simp only [spc, List.mem_cons, List.not_mem_nil, or_false] at hu; rcases hu with rfl | rfl <;> rfl) (by unfold maxLen; omega) (by omega) (by simp; omega)
  obtain ⟨v', w', e1, e2, e3, _⟩ := key 31
  refine ⟨v', w', fun ty => ?_, ?_, ((Below.refl base w).alloc hbase _).grown e3 (by simp; omega) (fun j e => (World.ownsRow.lt h j e).1), fun q t cs hq ht => ?_⟩
  · rw [← e1]; rfl
  · unfold RgO
    rw [List.length_append, List.flatMap_append, List.flatMap_cons, List.flatMap_nil, List.append_nil]
    exact e2
  · exact (e3.block q (hq.alloc _).lt (row_not (hq.alloc (.cells #[.int .i64 p.1, .int .i64 p.2] 114)) ht (World.ownsRow.alloc h _))).trans (hq.alloc _)
def GrRel (rb b : Nat) (s : ByteArray) (n : Nat) (f : Fr) (w : World) (l1 : List UInt8) (gk : Nat) (ix : Value) (wr : World) : Prop :=
  ∃ (k : Nat) (acc : List (Int × Int)) (a : Nat) (rv : Value), gk = n - k ∧ k ≤ n ∧ ix = .int .i64 k ∧ acc.length = k ∧ InI acc ∧ a ≤ s.size ∧ RdAt wr rb s a ∧ FrAt wr b { f with rg := acc } rv ∧ RgO wr w.heap.size rv acc ∧
    rngD n [] l1 = rngD (n - k) acc (s.data.toList.drop a) ∧ Only [rb, b] w wr
theorem only_bl {S : List Nat} {w a b : World} (h : Only S w a) (k : Below w.heap.size a b) : Only S w b :=
  ⟨k.os.trans h.os, k.tape.trans h.tape, k.output.trans h.output, Nat.le_trans h.size k.size, fun i hi hn => (k.block i hi).trans (h.block i hi hn)⟩
/-- What reading a part leaves. -/
def GetR (R : Option (Fr × List UInt8)) (rb b : Nat) (s : ByteArray) (w : World) (e : Ending) (w' : World) : Prop := Only [rb, b] w w' ∧ match R with
    | some (g, l) => e = .returned (.tuple #[]) ∧ ∃ rv', FrAt w' b g rv' ∧ RgAt w' rv' g.rg ∧ RgNew w.heap.size rv' ∧ ∃ a', a' ≤ s.size ∧ l = s.data.toList.drop a' ∧ RdAt w' rb s a'
    | none => e = MAL
theorem GetR.bad {R : Option (Fr × List UInt8)} {rb b : Nat} {s : ByteArray} {w w' : World} (h : R = none) (ho : Only [rb, b] w w') : GetR R rb b s w (.panicked [{ v := .iface 91 (.agg #[]), recovered := false }]) w' := by
  subst h; exact ⟨ho, rfl⟩
theorem GetR.good {R : Option (Fr × List UInt8)} {rb b : Nat} {s : ByteArray} {w w' : World} {g : Fr} {a' : Nat} {rv' : Value} (h : R = some (g, s.data.toList.drop a')) (ho : Only [rb, b] w w') (h1 : FrAt w' b g rv') (h2 : RgAt w' rv' g.rg) (hn : RgNew w.heap.size rv') (h3 : a' ≤ s.size) (h4 : RdAt w' rb s a') : GetR R rb b s w (.returned (.tuple #[])) w' := by
  subst h; exact ⟨ho, rfl, rv', h1, h2, hn, a', h3, rfl, h4⟩
set_option maxRecDepth 100000 in
set_option maxHeartbeats 4000000 in
theorem get_ranges (rb b : Nat) (hrb : rb ≠ b) (s : ByteArray) (a : Nat) (ha : a ≤ s.size) (hs : s.size ≤ 4611686018427387903) (f : Fr) (hrg : f.rg = []) (w : World) (hR : RdAt w rb s a) (hA : FrAt w b f (.slice none 0 0)) :
    Calls Tryd.prog 50 #[.pointer (some ⟨rb, 0, none⟩), .pointer (some ⟨b, 0, none⟩)] w (GetR (getP .ranges f (s.data.toList.drop a)) rb b s w) := by
  have HA := Lib.hid hA
  have HR := Lib.hid hR
  obtain ⟨R, hR0⟩ : ∃ R, getP .ranges f (s.data.toList.drop a) = R := ⟨_, rfl⟩
  rw [hR0]
  simp only [getP, numD, hrg] at hR0
  have hbl := At.lt hA
  have hrl := At.lt hR
  cases hd : vDec (s.data.toList.drop a) with
  | none =>
    rw [hd] at hR0
    simp only [Option.map_none] at hR0
    have HF := Lib.hid hR0.symm
    clear hR0
    have hcl := fun ww hh => rnum_none rb s a hd ha hs ww hh
    simp only [MAL] at hcl
    clear hd
    go_enter Tryd.func50, Tryd.ntmps50
    go_wp2_with fail
    refine (hcl _ hR).mono ?_
    rintro e w3 ⟨rfl, ho⟩
    exact ⟨rfl, GetR.bad HF.out (ho.mono (by simp))⟩
  | some p =>
    obtain ⟨n, k0⟩ := p
    obtain ⟨n0, n1, hkw, hk0, hkt⟩ := vDec_some _ _ _ hd
    clear hkw hkt
    rw [drop_len] at hk0
    rw [hd] at hR0
    simp only [Option.map_some] at hR0
    have hcl := fun ww hh => rnum_some rb s a n k0 hd ha hs ww hh
    by_cases hn : 16 < n
    · rw [if_pos hn] at hR0
      have HF := Lib.hid hR0.symm
      clear hR0
      clear hd
      go_enter Tryd.func50, Tryd.ntmps50
      go_wp2_with fail
      refine (hcl _ hR).mono ?_
      rintro e w3 ⟨rfl, hR3, ho⟩
      have HO := Lib.hid ho
      clear ho hR3
      go_wp2_with fail
      exact ⟨rfl, GetR.bad HF.out (HO.out.mono (by simp))⟩
    · rw [if_neg hn] at hR0
      obtain ⟨m, rfl⟩ : ∃ m : Nat, n = m := ⟨n.toNat, by omega⟩
      have HR0 := Lib.hid hR0
      simp only [Int.toNat_natCast] at hR0
      have HRR : Hid ((rngD m [] ((s.data.toList.drop a).drop k0)).map (fun p => (({ f with rg := p.1 } : Fr), p.2)) = R) := Lib.hid hR0
      clear hR0 HR0 hd
      go_enter Tryd.func50, Tryd.ntmps50
      go_wp2_with fail
      refine (hcl _ hR).mono ?_
      rintro e w3 ⟨rfl, hR3, ho⟩
      have hA3 : FrAt w3 b { f with rg := [] } (.slice none 0 0) := (show At w b 33 _ from hA).keep ho (by simp; omega)
      have HA3 := Lib.hid hA3
      have HR3 := Lib.hid hR3
      have HO3 : Hid (Only [rb, b] w w3) := Lib.hid (ho.mono (by simp))
      clear hA hR hA3 hR3 ho hcl
      go_wp2_with fail
      go_loopg [14] m (fun gk ix wr => GrRel rb b s m f w ((s.data.toList.drop a).drop k0) gk ix wr)
      case atStart => exact ⟨0, [], a + k0, .slice none 0 0, by simp, by omega, rfl, rfl, fun p hp => by simp at hp, by omega, HR3.out, HA3.out, ⟨rfl, .inl ⟨rfl, rfl⟩⟩, by rw [List.drop_drop]; rfl, HO3.out⟩
      case round =>
        obtain ⟨k, acc, a1, rv, rfl, hk, rfl, hal, hI, ha1, hR1, hA1, hG, hrd, hO⟩ := hrel
        have HR1 := Lib.hid hR1
        have HA1 := Lib.hid hA1
        have HG := Lib.hid hG
        have HO := Lib.hid hO
        have HI := Lib.hid hI
        have HRD := Lib.hid hrd
        clear HA3 HR3 HO3 hR1 hA1 hG hO hI hrd
        by_cases hlt : k < m
        · have hlt' : (k : Int) < m := by omega
          obtain ⟨j, hj⟩ : ∃ j, m - k = j + 1 := ⟨m - k - 1, by omega⟩
          have f9 : IntKind.i64.wrap ((k : Int) + 1) = ((k + 1 : Nat) : Int) := by rw [show (k : Int) + 1 = ((k + 1 : Nat) : Int) by omega]; exact IntWalk.i64_in _ (by omega)
          cases hd1 : vDec (s.data.toList.drop a1) with
          | none =>
            have HF : Hid (R = none) := Lib.hid (by rw [← HRR.out, HRD.out, hj]; simp only [rngD, numD, hd1, Option.map_none])
            have hcl := fun ww hh => rnum_none rb s a1 hd1 ha1 hs ww hh
            simp only [MAL] at hcl
            clear hd1
            go_wp2_with fail
            refine (hcl _ HR1.out).mono ?_
            rintro e w4 ⟨rfl, ho⟩
            exact ⟨rfl, GetR.bad HF.out (HO.out.trans (ho.mono (by simp)))⟩
          | some px =>
            obtain ⟨x, kx⟩ := px
            obtain ⟨x0, x1, hkw, hkx, hkt⟩ := vDec_some _ _ _ hd1
            clear hkw hkt
            rw [drop_len] at hkx
            have hcl := fun ww hh => rnum_some rb s a1 x kx hd1 ha1 hs ww hh
            obtain ⟨a2, ha2⟩ : ∃ a2, a1 + kx = a2 := ⟨_, rfl⟩
            simp only [ha2] at hcl
            have ha2s : a2 ≤ s.size := by omega
            have HDD : Hid ((s.data.toList.drop a1).drop kx = s.data.toList.drop a2) := Lib.hid (by rw [List.drop_drop, ha2])
            obtain ⟨lst, hlst⟩ : ∃ lst, (match acc.getLast? with | none => x | some p => w64 (w64 (p.1 - x) - 2)) = lst := ⟨_, rfl⟩
            have HRE : Hid (rngD (j + 1) acc (s.data.toList.drop a1) = match numD (s.data.toList.drop a2) with
              | none => none
              | some (b, l2) => rngD j (acc ++ [(w64 (lst - b), w64 (lst + 1))]) l2) := Lib.hid (by rw [← hlst, ← HDD.out]; simp only [rngD, numD, hd1, Option.map_some]; rfl)
            clear hd1
            by_cases hk0 : k = 0
            · have hk1 : ¬ (0 : Int) < k := by omega
              have hl0 : lst = x := by rw [← hlst]; have : acc = [] := List.length_eq_zero_iff.1 (by omega); rw [this]; rfl
              clear hlst
              subst hl0
              clear hk0
              go_wp2_with fail
              refine (hcl _ HR1.out).mono ?_
              rintro e w4 ⟨rfl, hR4, ho4⟩
              have hA4 : FrAt w4 b { f with rg := acc } rv := (show At wr b 33 _ from HA1.out).keep ho4 (by simp; omega)
              have HA4 : Hid (FrAt w4.drew b { f with rg := acc } rv) := Lib.hid hA4
              clear hA4
              have HR4 : Hid (RdAt w4.drew rb s a2) := Lib.hid hR4
              have HG4 : Hid (RgO w4.drew w.heap.size rv acc) := Lib.hid (show RgO w4 w.heap.size rv acc from HG.out.keep ho4 (by simp; omega))
              have HO4 : Hid (Only [rb, b] w w4.drew) := Lib.hid (HO.out.trans (ho4.mono (by simp))).drew
              have c9 : w4.drew.cell? ⟨b, 9, none⟩ = some rv := At.cell HA4.out 9 rfl
              have c9' : w4.cell? ⟨b, 9, none⟩ = some rv := c9
              clear hR4 ho4 hcl HA1 HR1 HG HO
              cases hd2 : vDec (s.data.toList.drop a2) with
              | none =>
                have HF : Hid (R = none) := Lib.hid (by rw [← HRR.out, HRD.out, hj, HRE.out]; simp only [numD, hd2, Option.map_none])
                have hcy := fun ww hh => rnum_none rb s a2 hd2 ha2s hs ww hh
                simp only [MAL] at hcy
                clear hd2
                go_upto_region 9 with fail
                refine wp_region_held_drew (S := fun _ => True) (by kernel_rfl) (by trivial) (fun hHeld => ?_)
                refine wpAnyH_take (i := 0) (v := ?_) rfl (by kernel_rfl) (by kernel_rfl) (by kernel_rfl) (fun _ _ _ h => h) (Or.inl ⟨by kernel_rfl, ?_⟩) (by assumption) ?_
                rotate_left
                · intro wS hSw
                  try dsimp only at hSw
                  go_simp
                  try with_reducible rfl
                simp only [List.getElem_toArray, List.getElem_cons_succ, List.getElem_cons_zero, Act.put, List.setIfInBounds_toArray, List.set_cons_zero, List.set_cons_succ]
                refine wpAnyH_take (i := 1) (v := ?_) rfl (by kernel_rfl) (by kernel_rfl) (by kernel_rfl) (fun _ _ _ h => h) (Or.inl ⟨by kernel_rfl, ?_⟩) (by assumption) ?_
                rotate_left
                · intro wS hSw
                  try dsimp only at hSw
                  go_simp
                  try with_reducible rfl
                simp only [List.getElem_toArray, List.getElem_cons_succ, List.getElem_cons_zero, Act.put, List.setIfInBounds_toArray, List.set_cons_zero, List.set_cons_succ]
                refine wpAnyH_take (i := 5) (v := ?_) rfl (by kernel_rfl) (by kernel_rfl) (by kernel_rfl) (fun _ _ _ h => h) (Or.inl ⟨by kernel_rfl, ?_⟩) (by assumption) ?_
                rotate_left
                · intro wS hSw
                  try dsimp only at hSw
                  go_simp
                  try with_reducible rfl
                simp only [List.getElem_toArray, List.getElem_cons_succ, List.getElem_cons_zero, Act.put, List.setIfInBounds_toArray, List.set_cons_zero, List.set_cons_succ]
                refine wpAnyH_take (i := 6) (v := ?_) rfl (by kernel_rfl) (by kernel_rfl) (by kernel_rfl) (fun _ _ _ h => h) (Or.inl ⟨by kernel_rfl, ?_⟩) (by assumption) ?_
                rotate_left
                · intro wS hSw
                  try dsimp only at hSw
                  go_simp
                  try with_reducible rfl
                simp only [List.getElem_toArray, List.getElem_cons_succ, List.getElem_cons_zero, Act.put, List.setIfInBounds_toArray, List.set_cons_zero, List.set_cons_succ]
                refine wpAnyH_take (i := 9) (v := ?_) rfl (by kernel_rfl) (by kernel_rfl) (by kernel_rfl) (fun _ _ _ h => h) (Or.inl ⟨by kernel_rfl, ?_⟩) (by assumption) ?_
                rotate_left
                · intro wS hSw
                  try dsimp only at hSw
                  go_simp
                  try with_reducible rfl
                simp only [List.getElem_toArray, List.getElem_cons_succ, List.getElem_cons_zero, Act.put, List.setIfInBounds_toArray, List.set_cons_zero, List.set_cons_succ]
                refine wpAnyH_take (i := 2) (v := ?_) rfl (by kernel_rfl) (by kernel_rfl) (by kernel_rfl) (fun _ _ _ h => h) (Or.inl ⟨by kernel_rfl, ?_⟩) (by assumption) ?_
                rotate_left
                · intro wS hSw
                  try dsimp only at hSw
                  go_simp
                  try with_reducible rfl
                simp only [List.getElem_toArray, List.getElem_cons_succ, List.getElem_cons_zero, Act.put, List.setIfInBounds_toArray, List.set_cons_zero, List.set_cons_succ]
                refine wpAnyH_take (i := 3) (v := ?_) rfl (by kernel_rfl) (by kernel_rfl) (by kernel_rfl) (fun _ _ _ h => h) (Or.inl ⟨by kernel_rfl, ?_⟩) (by assumption) ?_
                rotate_left
                · intro wS hSw
                  try dsimp only at hSw
                  go_simp
                  try with_reducible rfl
                simp only [List.getElem_toArray, List.getElem_cons_succ, List.getElem_cons_zero, Act.put, List.setIfInBounds_toArray, List.set_cons_zero, List.set_cons_succ]
                refine wpAnyH_take (i := 10) (v := ?_) rfl (by kernel_rfl) (by kernel_rfl) (by kernel_rfl) (fun _ _ _ h => h) (Or.inl ⟨by kernel_rfl, ?_⟩) (by assumption) ?_
                rotate_left
                · intro wS hSw
                  try dsimp only at hSw
                  go_simp
                  try with_reducible rfl
                simp only [List.getElem_toArray, List.getElem_cons_succ, List.getElem_cons_zero, Act.put, List.setIfInBounds_toArray, List.set_cons_zero, List.set_cons_succ]
                refine wpAnyH_ready (rs := [4, 7]) (by kernel_rfl) (by simp) ?_
                refine AllReadyH.cons rfl (fun K hK => ?_) (AllReadyH.cons rfl (fun K hK => ?_) AllReadyH.nil)
                · go_simp
                  refine hK.out _ _ trivial (fun hHeld' => ?_)
                  clear hHeld hK K
                  have hHeld := hHeld'
                  clear hHeld'
                  try simp only [List.getElem_toArray, List.getElem_cons_succ, List.getElem_cons_zero, Act.put, List.setIfInBounds_toArray, List.set_cons_zero, List.set_cons_succ]
                  refine wpAnyH_ready (rs := [7]) (by kernel_rfl) (by simp) ?_
                  refine AllReadyH.cons rfl (fun K hK => ?_) AllReadyH.nil
                  go_simp
                  refine (hcy _ HR4.out).mono ?_
                  rintro e w5 ⟨rfl, ho5⟩
                  exact ⟨rfl, GetR.bad HF.out (HO4.out.trans (ho5.mono (by simp)))⟩
                · go_simp
                  refine (hcy _ HR4.out).mono ?_
                  rintro e w5 ⟨rfl, ho5⟩
                  exact ⟨rfl, GetR.bad HF.out (HO4.out.trans (ho5.mono (by simp)))⟩
              | some py =>
                obtain ⟨y, ky⟩ := py
                obtain ⟨y0, y1, hkw, hky, hkt⟩ := vDec_some _ _ _ hd2
                clear hkw hkt
                rw [drop_len] at hky
                have hcy := fun ww hh => rnum_some rb s a2 y ky hd2 ha2s hs ww hh
                obtain ⟨a3, ha3⟩ : ∃ a3, a2 + ky = a3 := ⟨_, rfl⟩
                simp only [ha3] at hcy
                have ha3s : a3 ≤ s.size := by omega
                obtain ⟨D1, hD1⟩ : ∃ D1, IntKind.i64.wrap (lst - y) = D1 := ⟨_, rfl⟩
                obtain ⟨D2, hD2⟩ : ∃ D2, IntKind.i64.wrap (lst + 1) = D2 := ⟨_, rfl⟩
                have bD1 : -9223372036854775808 ≤ D1 ∧ D1 ≤ 9223372036854775807 := by rw [← hD1]; exact w64_bd _
                have bD2 : -9223372036854775808 ≤ D2 ∧ D2 ≤ 9223372036854775807 := by rw [← hD2]; exact w64_bd _
                have HRF : Hid (rngD m [] ((s.data.toList.drop a).drop k0) = rngD j (acc ++ [(D1, D2)]) (s.data.toList.drop a3)) := Lib.hid (by rw [HRD.out, hj, HRE.out]; simp only [numD, hd2, Option.map_some, w64, hD1, hD2, List.drop_drop, ha3])
                clear hd2
                go_upto_region 9 with fail
                refine wp_region_held_drew (S := fun _ => True) (by kernel_rfl) (by trivial) (fun hHeld => ?_)
                refine wpAnyH_take (i := 0) (v := ?_) rfl (by kernel_rfl) (by kernel_rfl) (by kernel_rfl) (fun _ _ _ h => h) (Or.inl ⟨by kernel_rfl, ?_⟩) (by assumption) ?_
                rotate_left
                · intro wS hSw
                  try dsimp only at hSw
                  go_simp
                  try with_reducible rfl
                simp only [List.getElem_toArray, List.getElem_cons_succ, List.getElem_cons_zero, Act.put, List.setIfInBounds_toArray, List.set_cons_zero, List.set_cons_succ]
                refine wpAnyH_take (i := 1) (v := ?_) rfl (by kernel_rfl) (by kernel_rfl) (by kernel_rfl) (fun _ _ _ h => h) (Or.inl ⟨by kernel_rfl, ?_⟩) (by assumption) ?_
                rotate_left
                · intro wS hSw
                  try dsimp only at hSw
                  go_simp
                  try with_reducible rfl
                simp only [List.getElem_toArray, List.getElem_cons_succ, List.getElem_cons_zero, Act.put, List.setIfInBounds_toArray, List.set_cons_zero, List.set_cons_succ]
                refine wpAnyH_take (i := 5) (v := ?_) rfl (by kernel_rfl) (by kernel_rfl) (by kernel_rfl) (fun _ _ _ h => h) (Or.inl ⟨by kernel_rfl, ?_⟩) (by assumption) ?_
                rotate_left
                · intro wS hSw
                  try dsimp only at hSw
                  go_simp
                  try with_reducible rfl
                simp only [List.getElem_toArray, List.getElem_cons_succ, List.getElem_cons_zero, Act.put, List.setIfInBounds_toArray, List.set_cons_zero, List.set_cons_succ]
                refine wpAnyH_take (i := 6) (v := ?_) rfl (by kernel_rfl) (by kernel_rfl) (by kernel_rfl) (fun _ _ _ h => h) (Or.inl ⟨by kernel_rfl, ?_⟩) (by assumption) ?_
                rotate_left
                · intro wS hSw
                  try dsimp only at hSw
                  go_simp
                  try with_reducible rfl
                simp only [List.getElem_toArray, List.getElem_cons_succ, List.getElem_cons_zero, Act.put, List.setIfInBounds_toArray, List.set_cons_zero, List.set_cons_succ]
                refine wpAnyH_take (i := 9) (v := ?_) rfl (by kernel_rfl) (by kernel_rfl) (by kernel_rfl) (fun _ _ _ h => h) (Or.inl ⟨by kernel_rfl, ?_⟩) (by assumption) ?_
                rotate_left
                · intro wS hSw
                  try dsimp only at hSw
                  go_simp
                  try with_reducible rfl
                simp only [List.getElem_toArray, List.getElem_cons_succ, List.getElem_cons_zero, Act.put, List.setIfInBounds_toArray, List.set_cons_zero, List.set_cons_succ]
                refine wpAnyH_take (i := 2) (v := ?_) rfl (by kernel_rfl) (by kernel_rfl) (by kernel_rfl) (fun _ _ _ h => h) (Or.inl ⟨by kernel_rfl, ?_⟩) (by assumption) ?_
                rotate_left
                · intro wS hSw
                  try dsimp only at hSw
                  go_simp
                  try with_reducible rfl
                simp only [List.getElem_toArray, List.getElem_cons_succ, List.getElem_cons_zero, Act.put, List.setIfInBounds_toArray, List.set_cons_zero, List.set_cons_succ]
                refine wpAnyH_take (i := 3) (v := ?_) rfl (by kernel_rfl) (by kernel_rfl) (by kernel_rfl) (fun _ _ _ h => h) (Or.inl ⟨by kernel_rfl, ?_⟩) (by assumption) ?_
                rotate_left
                · intro wS hSw
                  try dsimp only at hSw
                  go_simp
                  try with_reducible rfl
                simp only [List.getElem_toArray, List.getElem_cons_succ, List.getElem_cons_zero, Act.put, List.setIfInBounds_toArray, List.set_cons_zero, List.set_cons_succ]
                refine wpAnyH_take (i := 10) (v := ?_) rfl (by kernel_rfl) (by kernel_rfl) (by kernel_rfl) (fun _ _ _ h => h) (Or.inl ⟨by kernel_rfl, ?_⟩) (by assumption) ?_
                rotate_left
                · intro wS hSw
                  try dsimp only at hSw
                  go_simp
                  try with_reducible rfl
                simp only [List.getElem_toArray, List.getElem_cons_succ, List.getElem_cons_zero, Act.put, List.setIfInBounds_toArray, List.set_cons_zero, List.set_cons_succ]
                refine wpAnyH_ready (rs := [4, 7]) (by kernel_rfl) (by simp) ?_
                refine AllReadyH.cons rfl (fun K hK => ?_) (AllReadyH.cons rfl (fun K hK => ?_) AllReadyH.nil)
                · go_simp
                  refine hK.out _ _ trivial (fun hHeld' => ?_)
                  clear hHeld hK K
                  have hHeld := hHeld'
                  clear hHeld'
                  try simp only [List.getElem_toArray, List.getElem_cons_succ, List.getElem_cons_zero, Act.put, List.setIfInBounds_toArray, List.set_cons_zero, List.set_cons_succ]
                  refine wpAnyH_ready (rs := [7]) (by kernel_rfl) (by simp) ?_
                  refine AllReadyH.cons rfl (fun K hK => ?_) AllReadyH.nil
                  go_simp
                  refine (hcy _ HR4.out).mono ?_
                  rintro e w5 ⟨rfl, hR5, ho5⟩
                  have hA5 := (show At w4.drew b 33 _ from HA4.out).keep ho5 (by simp; omega)
                  have d9 : w5.cell? ⟨b, 9, none⟩ = some rv := At.cell hA5 9 rfl
                  have HA5 := Lib.hid hA5
                  have HR5 := Lib.hid hR5
                  have HG5 := Lib.hid (HG4.out.keep ho5 (by simp; omega))
                  have HO5 := Lib.hid (HO4.out.trans (ho5.mono (by simp)) : Only [rb, b] w w5)
                  refine hK.out _ _ trivial (fun hHeld' => ?_)
                  clear hHeld hK K hA5 hR5 ho5 hcy
                  have hHeld := hHeld'
                  clear hHeld'
                  try simp only [List.getElem_toArray, List.getElem_cons_succ, List.getElem_cons_zero, Act.put, List.setIfInBounds_toArray, List.set_cons_zero, List.set_cons_succ]
                  refine wpAnyH_take (i := 8) (v := ?_) rfl (by kernel_rfl) (by kernel_rfl) (by kernel_rfl) (fun _ _ _ h => h) (Or.inl ⟨by kernel_rfl, ?_⟩) (by assumption) ?_
                  rotate_left
                  · intro wS hSw
                    try dsimp only at hSw
                    go_simp
                    try with_reducible rfl
                  simp only [List.getElem_toArray, List.getElem_cons_succ, List.getElem_cons_zero, Act.put, List.setIfInBounds_toArray, List.set_cons_zero, List.set_cons_succ]
                  refine wpAnyH_take (i := 11) (v := ?_) rfl (by kernel_rfl) (by kernel_rfl) (by kernel_rfl) (fun _ _ _ h => h) (Or.inl ⟨by kernel_rfl, ?_⟩) (by assumption) ?_
                  rotate_left
                  · intro wS hSw
                    try dsimp only at hSw
                    go_simp
                    try with_reducible rfl
                  simp only [List.getElem_toArray, List.getElem_cons_succ, List.getElem_cons_zero, Act.put, List.setIfInBounds_toArray, List.set_cons_zero, List.set_cons_succ]
                  obtain ⟨v', w6, eA, hG6, hB6, hkp⟩ := HG5.out.append (D1, D2) (by omega) HO5.out.size
                  obtain ⟨va, vc, rfl⟩ : ∃ va vc, v' = .slice va (k + 1) vc := by
                    rcases hG6.2 with ⟨_, h0⟩ | ⟨g', cap', cur', e', _⟩
                    · simp at h0
                    · rw [e']; simp [hal]
                  have HG6 := Lib.hid hG6
                  try simp only [hal] at eA
                  have HA6 : Hid (FrAt w6 b { f with rg := acc } rv) := Lib.hid (hkp _ _ _ HA5.out (by decide))
                  have HR6 : Hid (RdAt w6 rb s a3) := Lib.hid (hkp _ _ _ HR5.out (by decide))
                  have HO6 : Hid (Only [rb, b] w w6) := Lib.hid (only_bl HO5.out hB6)
                  have d9a : (w5.alloc (.cells #[.int .i64 D1, .int .i64 D2] 114)).cell? ⟨b, 9, none⟩ = some rv := At.cell (HA5.out.alloc _) 9 rfl
                  clear hG6 hB6 hkp
                  refine wpAnyH_ready (rs := [12]) (by kernel_rfl) (by simp) ?_
                  refine AllReadyH.cons rfl (fun K hK => ?_) AllReadyH.nil
                  go_simp
                  refine hK.out _ _ trivial (fun hHeld' => ?_)
                  clear hHeld hK K
                  have hHeld := hHeld'
                  clear hHeld'
                  try simp only [List.getElem_toArray, List.getElem_cons_succ, List.getElem_cons_zero, Act.put, List.setIfInBounds_toArray, List.set_cons_zero, List.set_cons_succ]
                  clear d9 d9a
                  refine wpAnyH_ready (rs := [13]) (by kernel_rfl) (by simp) ?_
                  refine AllReadyH.cons rfl (fun K hK => ?_) AllReadyH.nil
                  rw [if_pos (by rfl)]
                  refine Lib.wp_append_run _ (.tmp 37) (.tmp 45) 31 31 rfl _ _ rfl rfl _ _ (eA _) ?_
                  refine hK.out _ _ trivial (fun hHeld' => ?_)
                  clear hHeld hK K eA
                  have hHeld := hHeld'
                  clear hHeld'
                  try simp only [List.getElem_toArray, List.getElem_cons_succ, List.getElem_cons_zero, Act.put, List.setIfInBounds_toArray, List.set_cons_zero, List.set_cons_succ]
                  refine wpAnyH_take (i := 14) (v := ?_) rfl (by kernel_rfl) (by kernel_rfl) (by kernel_rfl) (fun _ _ _ h => h) (Or.inl ⟨by kernel_rfl, ?_⟩) (by assumption) ?_
                  rotate_left
                  · intro wS hSw
                    try dsimp only at hSw
                    go_simp
                    try with_reducible rfl
                  simp only [List.getElem_toArray, List.getElem_cons_succ, List.getElem_cons_zero, Act.put, List.setIfInBounds_toArray, List.set_cons_zero, List.set_cons_succ]
                  refine wpAnyH_take (i := 15) (v := ?_) rfl (by kernel_rfl) (by kernel_rfl) (by kernel_rfl) (fun _ _ _ h => h) (Or.inl ⟨by kernel_rfl, ?_⟩) (by assumption) ?_
                  rotate_left
                  · intro wS hSw
                    try dsimp only at hSw
                    go_simp
                    try with_reducible rfl
                  simp only [List.getElem_toArray, List.getElem_cons_succ, List.getElem_cons_zero, Act.put, List.setIfInBounds_toArray, List.set_cons_zero, List.set_cons_succ]
                  have d9 : ∃ u, w6.cell? ⟨b, 9, none⟩ = some u := ⟨_, At.cell HA6.out 9 rfl⟩
                  obtain ⟨u9, d9⟩ := d9
                  have fr : w6.frozen? ⟨b, 9, none⟩ = false := At.free HA6.out 9
                  refine wpAnyH_ready (rs := [16]) (by kernel_rfl) (by simp) ?_
                  refine AllReadyH.cons rfl (fun K hK => ?_) AllReadyH.nil
                  go_simp
                  refine hK.out _ _ trivial (fun hHeld' => ?_)
                  clear hHeld hK K
                  refine wpAnyH_done (by kernel_rfl) ?_ _
                  go_wp2_with fail
                  go_roundg (m - (k + 1))
                  case measure => omega
                  case rel =>
                    refine ⟨k + 1, acc ++ [(D1, D2)], a3, _, rfl, by omega, by simp <;> omega, by simp; omega, ?_, ha3s, (show At w6 rb 72 _ from HR6.out).far (by simpa using hrb) _, (show At w6 b 33 _ from HA6.out).set 9 _ rfl, ?_, ?_, HO6.out.put (by simp) _⟩
                    · intro p hp
                      rw [List.mem_append, List.mem_singleton] at hp
                      rcases hp with hp | rfl
                      · exact HI.out p hp
                      · exact ⟨bD1, bD2⟩
                    · exact HG6.out.keep (S := [b]) (show Only [b] w6 (w6.setCell ⟨b, 9, none⟩ _) from (Only.refl [b] w6).put (by simp) _) (by simp; omega)
                    · rw [HRF.out, show m - (k + 1) = j by omega]
                · go_simp
                  refine (hcy _ HR4.out).mono ?_
                  rintro e w5 ⟨rfl, hR5, ho5⟩
                  have hA5 := (show At w4.drew b 33 _ from HA4.out).keep ho5 (by simp; omega)
                  have d9 : w5.cell? ⟨b, 9, none⟩ = some rv := At.cell hA5 9 rfl
                  have HA5 := Lib.hid hA5
                  have HR5 := Lib.hid hR5
                  have HG5 := Lib.hid (HG4.out.keep ho5 (by simp; omega))
                  have HO5 := Lib.hid (HO4.out.trans (ho5.mono (by simp)) : Only [rb, b] w w5)
                  refine hK.out _ _ trivial (fun hHeld' => ?_)
                  clear hHeld hK K hA5 hR5 ho5 hcy
                  have hHeld := hHeld'
                  clear hHeld'
                  try simp only [List.getElem_toArray, List.getElem_cons_succ, List.getElem_cons_zero, Act.put, List.setIfInBounds_toArray, List.set_cons_zero, List.set_cons_succ]
                  refine wpAnyH_take (i := 8) (v := ?_) rfl (by kernel_rfl) (by kernel_rfl) (by kernel_rfl) (fun _ _ _ h => h) (Or.inl ⟨by kernel_rfl, ?_⟩) (by assumption) ?_
                  rotate_left
                  · intro wS hSw
                    try dsimp only at hSw
                    go_simp
                    try with_reducible rfl
                  simp only [List.getElem_toArray, List.getElem_cons_succ, List.getElem_cons_zero, Act.put, List.setIfInBounds_toArray, List.set_cons_zero, List.set_cons_succ]
                  refine wpAnyH_take (i := 11) (v := ?_) rfl (by kernel_rfl) (by kernel_rfl) (by kernel_rfl) (fun _ _ _ h => h) (Or.inl ⟨by kernel_rfl, ?_⟩) (by assumption) ?_
                  rotate_left
                  · intro wS hSw
                    try dsimp only at hSw
                    go_simp
                    try with_reducible rfl
                  simp only [List.getElem_toArray, List.getElem_cons_succ, List.getElem_cons_zero, Act.put, List.setIfInBounds_toArray, List.set_cons_zero, List.set_cons_succ]
                  obtain ⟨v', w6, eA, hG6, hB6, hkp⟩ := HG5.out.append (D1, D2) (by omega) HO5.out.size
                  obtain ⟨va, vc, rfl⟩ : ∃ va vc, v' = .slice va (k + 1) vc := by
                    rcases hG6.2 with ⟨_, h0⟩ | ⟨g', cap', cur', e', _⟩
                    · simp at h0
                    · rw [e']; simp [hal]
                  have HG6 := Lib.hid hG6
                  try simp only [hal] at eA
                  have HA6 : Hid (FrAt w6 b { f with rg := acc } rv) := Lib.hid (hkp _ _ _ HA5.out (by decide))
                  have HR6 : Hid (RdAt w6 rb s a3) := Lib.hid (hkp _ _ _ HR5.out (by decide))
                  have HO6 : Hid (Only [rb, b] w w6) := Lib.hid (only_bl HO5.out hB6)
                  have d9a : (w5.alloc (.cells #[.int .i64 D1, .int .i64 D2] 114)).cell? ⟨b, 9, none⟩ = some rv := At.cell (HA5.out.alloc _) 9 rfl
                  clear hG6 hB6 hkp
                  refine wpAnyH_ready (rs := [4, 12]) (by kernel_rfl) (by simp) ?_
                  refine AllReadyH.cons rfl (fun K hK => ?_) (AllReadyH.cons rfl (fun K hK => ?_) AllReadyH.nil)
                  · go_simp
                    refine hK.out _ _ trivial (fun hHeld' => ?_)
                    clear hHeld hK K
                    have hHeld := hHeld'
                    clear hHeld'
                    try simp only [List.getElem_toArray, List.getElem_cons_succ, List.getElem_cons_zero, Act.put, List.setIfInBounds_toArray, List.set_cons_zero, List.set_cons_succ]
                    refine wpAnyH_ready (rs := [12]) (by kernel_rfl) (by simp) ?_
                    refine AllReadyH.cons rfl (fun K hK => ?_) AllReadyH.nil
                    go_simp
                    refine hK.out _ _ trivial (fun hHeld' => ?_)
                    clear hHeld hK K
                    have hHeld := hHeld'
                    clear hHeld'
                    try simp only [List.getElem_toArray, List.getElem_cons_succ, List.getElem_cons_zero, Act.put, List.setIfInBounds_toArray, List.set_cons_zero, List.set_cons_succ]
                    clear d9 d9a
                    refine wpAnyH_ready (rs := [13]) (by kernel_rfl) (by simp) ?_
                    refine AllReadyH.cons rfl (fun K hK => ?_) AllReadyH.nil
                    rw [if_pos (by rfl)]
                    refine Lib.wp_append_run _ (.tmp 37) (.tmp 45) 31 31 rfl _ _ rfl rfl _ _ (eA _) ?_
                    refine hK.out _ _ trivial (fun hHeld' => ?_)
                    clear hHeld hK K eA
                    have hHeld := hHeld'
                    clear hHeld'
                    try simp only [List.getElem_toArray, List.getElem_cons_succ, List.getElem_cons_zero, Act.put, List.setIfInBounds_toArray, List.set_cons_zero, List.set_cons_succ]
                    refine wpAnyH_take (i := 14) (v := ?_) rfl (by kernel_rfl) (by kernel_rfl) (by kernel_rfl) (fun _ _ _ h => h) (Or.inl ⟨by kernel_rfl, ?_⟩) (by assumption) ?_
                    rotate_left
                    · intro wS hSw
                      try dsimp only at hSw
                      go_simp
                      try with_reducible rfl
                    simp only [List.getElem_toArray, List.getElem_cons_succ, List.getElem_cons_zero, Act.put, List.setIfInBounds_toArray, List.set_cons_zero, List.set_cons_succ]
                    refine wpAnyH_take (i := 15) (v := ?_) rfl (by kernel_rfl) (by kernel_rfl) (by kernel_rfl) (fun _ _ _ h => h) (Or.inl ⟨by kernel_rfl, ?_⟩) (by assumption) ?_
                    rotate_left
                    · intro wS hSw
                      try dsimp only at hSw
                      go_simp
                      try with_reducible rfl
                    simp only [List.getElem_toArray, List.getElem_cons_succ, List.getElem_cons_zero, Act.put, List.setIfInBounds_toArray, List.set_cons_zero, List.set_cons_succ]
                    have d9 : ∃ u, w6.cell? ⟨b, 9, none⟩ = some u := ⟨_, At.cell HA6.out 9 rfl⟩
                    obtain ⟨u9, d9⟩ := d9
                    have fr : w6.frozen? ⟨b, 9, none⟩ = false := At.free HA6.out 9
                    refine wpAnyH_ready (rs := [16]) (by kernel_rfl) (by simp) ?_
                    refine AllReadyH.cons rfl (fun K hK => ?_) AllReadyH.nil
                    go_simp
                    refine hK.out _ _ trivial (fun hHeld' => ?_)
                    clear hHeld hK K
                    refine wpAnyH_done (by kernel_rfl) ?_ _
                    go_wp2_with fail
                    go_roundg (m - (k + 1))
                    case measure => omega
                    case rel =>
                      refine ⟨k + 1, acc ++ [(D1, D2)], a3, _, rfl, by omega, by simp <;> omega, by simp; omega, ?_, ha3s, (show At w6 rb 72 _ from HR6.out).far (by simpa using hrb) _, (show At w6 b 33 _ from HA6.out).set 9 _ rfl, ?_, ?_, HO6.out.put (by simp) _⟩
                      · intro p hp
                        rw [List.mem_append, List.mem_singleton] at hp
                        rcases hp with hp | rfl
                        · exact HI.out p hp
                        · exact ⟨bD1, bD2⟩
                      · exact HG6.out.keep (S := [b]) (show Only [b] w6 (w6.setCell ⟨b, 9, none⟩ _) from (Only.refl [b] w6).put (by simp) _) (by simp; omega)
                      · rw [HRF.out, show m - (k + 1) = j by omega]
                  · go_simp
                    refine hK.out _ _ trivial (fun hHeld' => ?_)
                    clear hHeld hK K
                    have hHeld := hHeld'
                    clear hHeld'
                    try simp only [List.getElem_toArray, List.getElem_cons_succ, List.getElem_cons_zero, Act.put, List.setIfInBounds_toArray, List.set_cons_zero, List.set_cons_succ]
                    refine wpAnyH_ready (rs := [4]) (by kernel_rfl) (by simp) ?_
                    refine AllReadyH.cons rfl (fun K hK => ?_) AllReadyH.nil
                    go_simp
                    refine hK.out _ _ trivial (fun hHeld' => ?_)
                    clear hHeld hK K
                    have hHeld := hHeld'
                    clear hHeld'
                    try simp only [List.getElem_toArray, List.getElem_cons_succ, List.getElem_cons_zero, Act.put, List.setIfInBounds_toArray, List.set_cons_zero, List.set_cons_succ]
                    clear d9 d9a
                    refine wpAnyH_ready (rs := [13]) (by kernel_rfl) (by simp) ?_
                    refine AllReadyH.cons rfl (fun K hK => ?_) AllReadyH.nil
                    rw [if_pos (by rfl)]
                    refine Lib.wp_append_run _ (.tmp 37) (.tmp 45) 31 31 rfl _ _ rfl rfl _ _ (eA _) ?_
                    refine hK.out _ _ trivial (fun hHeld' => ?_)
                    clear hHeld hK K eA
                    have hHeld := hHeld'
                    clear hHeld'
                    try simp only [List.getElem_toArray, List.getElem_cons_succ, List.getElem_cons_zero, Act.put, List.setIfInBounds_toArray, List.set_cons_zero, List.set_cons_succ]
                    refine wpAnyH_take (i := 14) (v := ?_) rfl (by kernel_rfl) (by kernel_rfl) (by kernel_rfl) (fun _ _ _ h => h) (Or.inl ⟨by kernel_rfl, ?_⟩) (by assumption) ?_
                    rotate_left
                    · intro wS hSw
                      try dsimp only at hSw
                      go_simp
                      try with_reducible rfl
                    simp only [List.getElem_toArray, List.getElem_cons_succ, List.getElem_cons_zero, Act.put, List.setIfInBounds_toArray, List.set_cons_zero, List.set_cons_succ]
                    refine wpAnyH_take (i := 15) (v := ?_) rfl (by kernel_rfl) (by kernel_rfl) (by kernel_rfl) (fun _ _ _ h => h) (Or.inl ⟨by kernel_rfl, ?_⟩) (by assumption) ?_
                    rotate_left
                    · intro wS hSw
                      try dsimp only at hSw
                      go_simp
                      try with_reducible rfl
                    simp only [List.getElem_toArray, List.getElem_cons_succ, List.getElem_cons_zero, Act.put, List.setIfInBounds_toArray, List.set_cons_zero, List.set_cons_succ]
                    have d9 : ∃ u, w6.cell? ⟨b, 9, none⟩ = some u := ⟨_, At.cell HA6.out 9 rfl⟩
                    obtain ⟨u9, d9⟩ := d9
                    have fr : w6.frozen? ⟨b, 9, none⟩ = false := At.free HA6.out 9
                    refine wpAnyH_ready (rs := [16]) (by kernel_rfl) (by simp) ?_
                    refine AllReadyH.cons rfl (fun K hK => ?_) AllReadyH.nil
                    go_simp
                    refine hK.out _ _ trivial (fun hHeld' => ?_)
                    clear hHeld hK K
                    refine wpAnyH_done (by kernel_rfl) ?_ _
                    go_wp2_with fail
                    go_roundg (m - (k + 1))
                    case measure => omega
                    case rel =>
                      refine ⟨k + 1, acc ++ [(D1, D2)], a3, _, rfl, by omega, by simp <;> omega, by simp; omega, ?_, ha3s, (show At w6 rb 72 _ from HR6.out).far (by simpa using hrb) _, (show At w6 b 33 _ from HA6.out).set 9 _ rfl, ?_, ?_, HO6.out.put (by simp) _⟩
                      · intro p hp
                        rw [List.mem_append, List.mem_singleton] at hp
                        rcases hp with hp | rfl
                        · exact HI.out p hp
                        · exact ⟨bD1, bD2⟩
                      · exact HG6.out.keep (S := [b]) (show Only [b] w6 (w6.setCell ⟨b, 9, none⟩ _) from (Only.refl [b] w6).put (by simp) _) (by simp; omega)
                      · rw [HRF.out, show m - (k + 1) = j by omega]
            · have hk1 : (0 : Int) < k := by omega
              obtain ⟨ra, cap, hrv, hcs⟩ := HG.out.at HI.out
              obtain ⟨g, off, rfl, hg, q1, q2, r1, r2⟩ := hcs (k - 1) (by omega)
              obtain ⟨P, hP⟩ : ∃ P, (acc[k - 1]'(by omega)).1 = P := ⟨_, rfl⟩
              rw [hP] at q1
              subst hrv
              obtain ⟨M1, hM1⟩ : ∃ M1, IntKind.i64.wrap (P - x) = M1 := ⟨_, rfl⟩
              have hM2 : IntKind.i64.wrap (M1 - 2) = lst := by
                rw [← hlst, List.getLast?_eq_getElem?, List.getElem?_eq_getElem (by omega)]
                simp only [w64, hal, hP, hM1]
              have f8 : IntKind.i64.wrap ((k : Int) - 1) = ((k - 1 : Nat) : Int) := by rw [show (k : Int) - 1 = ((k - 1 : Nat) : Int) by omega]; exact IntWalk.i64_in _ (by omega)
              have f7 : ((k - 1 : Nat) : Int) < (acc.length : Int) := by omega
              have f6 : (0 : Int) ≤ ((k - 1 : Nat) : Int) := by omega
              clear hlst hcs
              clear hk0
              go_wp2_with fail
              refine (hcl _ HR1.out).mono ?_
              rintro e w4 ⟨rfl, hR4, ho4⟩
              have hA4 : FrAt w4 b { f with rg := acc } (.slice (some ⟨g, off, none⟩) acc.length cap) := (show At wr b 33 _ from HA1.out).keep ho4 (by simp; omega)
              have HA4 : Hid (FrAt w4.drew b { f with rg := acc } (.slice (some ⟨g, off, none⟩) acc.length cap)) := Lib.hid hA4
              clear hA4
              have HR4 : Hid (RdAt w4.drew rb s a2) := Lib.hid hR4
              have HG4 : Hid (RgO w4.drew w.heap.size (.slice (some ⟨g, off, none⟩) acc.length cap) acc) := Lib.hid (show RgO w4 w.heap.size (.slice (some ⟨g, off, none⟩) acc.length cap) acc from HG.out.keep ho4 (by simp; omega))
              have HO4 : Hid (Only [rb, b] w w4.drew) := Lib.hid (HO.out.trans (ho4.mono (by simp))).drew
              have c9 : w4.drew.cell? ⟨b, 9, none⟩ = some (.slice (some ⟨g, off, none⟩) acc.length cap) := At.cell HA4.out 9 rfl
              have c9' : w4.cell? ⟨b, 9, none⟩ = some (.slice (some ⟨g, off, none⟩) acc.length cap) := c9
              have p1 : w4.cell? ⟨g, off + (k - 1) * 2, none⟩ = some (.int .i64 P) := by
                obtain ⟨a', cap', e', hc'⟩ := HG4.out.at HI.out
                obtain ⟨g', off', e2, _, q1', _⟩ := hc' (k - 1) (by omega)
                simp only [Value.slice.injEq] at e'
                obtain ⟨e3, _⟩ := e'
                rw [← e3] at e2
                simp only [Option.some.injEq, Addr.mk.injEq] at e2
                obtain ⟨rfl, rfl, _⟩ := e2
                rw [hP] at q1'
                exact q1'
              clear hP
              clear hR4 ho4 hcl HA1 HR1 HG HO
              cases hd2 : vDec (s.data.toList.drop a2) with
              | none =>
                have HF : Hid (R = none) := Lib.hid (by rw [← HRR.out, HRD.out, hj, HRE.out]; simp only [numD, hd2, Option.map_none])
                have hcy := fun ww hh => rnum_none rb s a2 hd2 ha2s hs ww hh
                simp only [MAL] at hcy
                clear hd2
                go_upto_region 9 with fail
                refine wp_region_held_drew (S := fun _ => True) (by kernel_rfl) (by trivial) (fun hHeld => ?_)
                refine wpAnyH_take (i := 0) (v := ?_) rfl (by kernel_rfl) (by kernel_rfl) (by kernel_rfl) (fun _ _ _ h => h) (Or.inl ⟨by kernel_rfl, ?_⟩) (by assumption) ?_
                rotate_left
                · intro wS hSw
                  try dsimp only at hSw
                  go_simp
                  try with_reducible rfl
                simp only [List.getElem_toArray, List.getElem_cons_succ, List.getElem_cons_zero, Act.put, List.setIfInBounds_toArray, List.set_cons_zero, List.set_cons_succ]
                refine wpAnyH_take (i := 1) (v := ?_) rfl (by kernel_rfl) (by kernel_rfl) (by kernel_rfl) (fun _ _ _ h => h) (Or.inl ⟨by kernel_rfl, ?_⟩) (by assumption) ?_
                rotate_left
                · intro wS hSw
                  try dsimp only at hSw
                  go_simp
                  try with_reducible rfl
                simp only [List.getElem_toArray, List.getElem_cons_succ, List.getElem_cons_zero, Act.put, List.setIfInBounds_toArray, List.set_cons_zero, List.set_cons_succ]
                refine wpAnyH_take (i := 5) (v := ?_) rfl (by kernel_rfl) (by kernel_rfl) (by kernel_rfl) (fun _ _ _ h => h) (Or.inl ⟨by kernel_rfl, ?_⟩) (by assumption) ?_
                rotate_left
                · intro wS hSw
                  try dsimp only at hSw
                  go_simp
                  try with_reducible rfl
                simp only [List.getElem_toArray, List.getElem_cons_succ, List.getElem_cons_zero, Act.put, List.setIfInBounds_toArray, List.set_cons_zero, List.set_cons_succ]
                refine wpAnyH_take (i := 6) (v := ?_) rfl (by kernel_rfl) (by kernel_rfl) (by kernel_rfl) (fun _ _ _ h => h) (Or.inl ⟨by kernel_rfl, ?_⟩) (by assumption) ?_
                rotate_left
                · intro wS hSw
                  try dsimp only at hSw
                  go_simp
                  try with_reducible rfl
                simp only [List.getElem_toArray, List.getElem_cons_succ, List.getElem_cons_zero, Act.put, List.setIfInBounds_toArray, List.set_cons_zero, List.set_cons_succ]
                refine wpAnyH_take (i := 9) (v := ?_) rfl (by kernel_rfl) (by kernel_rfl) (by kernel_rfl) (fun _ _ _ h => h) (Or.inl ⟨by kernel_rfl, ?_⟩) (by assumption) ?_
                rotate_left
                · intro wS hSw
                  try dsimp only at hSw
                  go_simp
                  try with_reducible rfl
                simp only [List.getElem_toArray, List.getElem_cons_succ, List.getElem_cons_zero, Act.put, List.setIfInBounds_toArray, List.set_cons_zero, List.set_cons_succ]
                refine wpAnyH_take (i := 2) (v := ?_) rfl (by kernel_rfl) (by kernel_rfl) (by kernel_rfl) (fun _ _ _ h => h) (Or.inl ⟨by kernel_rfl, ?_⟩) (by assumption) ?_
                rotate_left
                · intro wS hSw
                  try dsimp only at hSw
                  go_simp
                  try with_reducible rfl
                simp only [List.getElem_toArray, List.getElem_cons_succ, List.getElem_cons_zero, Act.put, List.setIfInBounds_toArray, List.set_cons_zero, List.set_cons_succ]
                refine wpAnyH_take (i := 3) (v := ?_) rfl (by kernel_rfl) (by kernel_rfl) (by kernel_rfl) (fun _ _ _ h => h) (Or.inl ⟨by kernel_rfl, ?_⟩) (by assumption) ?_
                rotate_left
                · intro wS hSw
                  try dsimp only at hSw
                  go_simp
                  try with_reducible rfl
                simp only [List.getElem_toArray, List.getElem_cons_succ, List.getElem_cons_zero, Act.put, List.setIfInBounds_toArray, List.set_cons_zero, List.set_cons_succ]
                refine wpAnyH_take (i := 10) (v := ?_) rfl (by kernel_rfl) (by kernel_rfl) (by kernel_rfl) (fun _ _ _ h => h) (Or.inl ⟨by kernel_rfl, ?_⟩) (by assumption) ?_
                rotate_left
                · intro wS hSw
                  try dsimp only at hSw
                  go_simp
                  try with_reducible rfl
                simp only [List.getElem_toArray, List.getElem_cons_succ, List.getElem_cons_zero, Act.put, List.setIfInBounds_toArray, List.set_cons_zero, List.set_cons_succ]
                refine wpAnyH_ready (rs := [4, 7]) (by kernel_rfl) (by simp) ?_
                refine AllReadyH.cons rfl (fun K hK => ?_) (AllReadyH.cons rfl (fun K hK => ?_) AllReadyH.nil)
                · go_simp
                  refine hK.out _ _ trivial (fun hHeld' => ?_)
                  clear hHeld hK K
                  have hHeld := hHeld'
                  clear hHeld'
                  try simp only [List.getElem_toArray, List.getElem_cons_succ, List.getElem_cons_zero, Act.put, List.setIfInBounds_toArray, List.set_cons_zero, List.set_cons_succ]
                  refine wpAnyH_ready (rs := [7]) (by kernel_rfl) (by simp) ?_
                  refine AllReadyH.cons rfl (fun K hK => ?_) AllReadyH.nil
                  go_simp
                  refine (hcy _ HR4.out).mono ?_
                  rintro e w5 ⟨rfl, ho5⟩
                  exact ⟨rfl, GetR.bad HF.out (HO4.out.trans (ho5.mono (by simp)))⟩
                · go_simp
                  refine (hcy _ HR4.out).mono ?_
                  rintro e w5 ⟨rfl, ho5⟩
                  exact ⟨rfl, GetR.bad HF.out (HO4.out.trans (ho5.mono (by simp)))⟩
              | some py =>
                obtain ⟨y, ky⟩ := py
                obtain ⟨y0, y1, hkw, hky, hkt⟩ := vDec_some _ _ _ hd2
                clear hkw hkt
                rw [drop_len] at hky
                have hcy := fun ww hh => rnum_some rb s a2 y ky hd2 ha2s hs ww hh
                obtain ⟨a3, ha3⟩ : ∃ a3, a2 + ky = a3 := ⟨_, rfl⟩
                simp only [ha3] at hcy
                have ha3s : a3 ≤ s.size := by omega
                obtain ⟨D1, hD1⟩ : ∃ D1, IntKind.i64.wrap (lst - y) = D1 := ⟨_, rfl⟩
                obtain ⟨D2, hD2⟩ : ∃ D2, IntKind.i64.wrap (lst + 1) = D2 := ⟨_, rfl⟩
                have bD1 : -9223372036854775808 ≤ D1 ∧ D1 ≤ 9223372036854775807 := by rw [← hD1]; exact w64_bd _
                have bD2 : -9223372036854775808 ≤ D2 ∧ D2 ≤ 9223372036854775807 := by rw [← hD2]; exact w64_bd _
                have HRF : Hid (rngD m [] ((s.data.toList.drop a).drop k0) = rngD j (acc ++ [(D1, D2)]) (s.data.toList.drop a3)) := Lib.hid (by rw [HRD.out, hj, HRE.out]; simp only [numD, hd2, Option.map_some, w64, hD1, hD2, List.drop_drop, ha3])
                clear hd2
                go_upto_region 9 with fail
                refine wp_region_held_drew (S := fun _ => True) (by kernel_rfl) (by trivial) (fun hHeld => ?_)
                refine wpAnyH_take (i := 0) (v := ?_) rfl (by kernel_rfl) (by kernel_rfl) (by kernel_rfl) (fun _ _ _ h => h) (Or.inl ⟨by kernel_rfl, ?_⟩) (by assumption) ?_
                rotate_left
                · intro wS hSw
                  try dsimp only at hSw
                  go_simp
                  try with_reducible rfl
                simp only [List.getElem_toArray, List.getElem_cons_succ, List.getElem_cons_zero, Act.put, List.setIfInBounds_toArray, List.set_cons_zero, List.set_cons_succ]
                refine wpAnyH_take (i := 1) (v := ?_) rfl (by kernel_rfl) (by kernel_rfl) (by kernel_rfl) (fun _ _ _ h => h) (Or.inl ⟨by kernel_rfl, ?_⟩) (by assumption) ?_
                rotate_left
                · intro wS hSw
                  try dsimp only at hSw
                  go_simp
                  try with_reducible rfl
                simp only [List.getElem_toArray, List.getElem_cons_succ, List.getElem_cons_zero, Act.put, List.setIfInBounds_toArray, List.set_cons_zero, List.set_cons_succ]
                refine wpAnyH_take (i := 5) (v := ?_) rfl (by kernel_rfl) (by kernel_rfl) (by kernel_rfl) (fun _ _ _ h => h) (Or.inl ⟨by kernel_rfl, ?_⟩) (by assumption) ?_
                rotate_left
                · intro wS hSw
                  try dsimp only at hSw
                  go_simp
                  try with_reducible rfl
                simp only [List.getElem_toArray, List.getElem_cons_succ, List.getElem_cons_zero, Act.put, List.setIfInBounds_toArray, List.set_cons_zero, List.set_cons_succ]
                refine wpAnyH_take (i := 6) (v := ?_) rfl (by kernel_rfl) (by kernel_rfl) (by kernel_rfl) (fun _ _ _ h => h) (Or.inl ⟨by kernel_rfl, ?_⟩) (by assumption) ?_
                rotate_left
                · intro wS hSw
                  try dsimp only at hSw
                  go_simp
                  try with_reducible rfl
                simp only [List.getElem_toArray, List.getElem_cons_succ, List.getElem_cons_zero, Act.put, List.setIfInBounds_toArray, List.set_cons_zero, List.set_cons_succ]
                refine wpAnyH_take (i := 9) (v := ?_) rfl (by kernel_rfl) (by kernel_rfl) (by kernel_rfl) (fun _ _ _ h => h) (Or.inl ⟨by kernel_rfl, ?_⟩) (by assumption) ?_
                rotate_left
                · intro wS hSw
                  try dsimp only at hSw
                  go_simp
                  try with_reducible rfl
                simp only [List.getElem_toArray, List.getElem_cons_succ, List.getElem_cons_zero, Act.put, List.setIfInBounds_toArray, List.set_cons_zero, List.set_cons_succ]
                refine wpAnyH_take (i := 2) (v := ?_) rfl (by kernel_rfl) (by kernel_rfl) (by kernel_rfl) (fun _ _ _ h => h) (Or.inl ⟨by kernel_rfl, ?_⟩) (by assumption) ?_
                rotate_left
                · intro wS hSw
                  try dsimp only at hSw
                  go_simp
                  try with_reducible rfl
                simp only [List.getElem_toArray, List.getElem_cons_succ, List.getElem_cons_zero, Act.put, List.setIfInBounds_toArray, List.set_cons_zero, List.set_cons_succ]
                refine wpAnyH_take (i := 3) (v := ?_) rfl (by kernel_rfl) (by kernel_rfl) (by kernel_rfl) (fun _ _ _ h => h) (Or.inl ⟨by kernel_rfl, ?_⟩) (by assumption) ?_
                rotate_left
                · intro wS hSw
                  try dsimp only at hSw
                  go_simp
                  try with_reducible rfl
                simp only [List.getElem_toArray, List.getElem_cons_succ, List.getElem_cons_zero, Act.put, List.setIfInBounds_toArray, List.set_cons_zero, List.set_cons_succ]
                refine wpAnyH_take (i := 10) (v := ?_) rfl (by kernel_rfl) (by kernel_rfl) (by kernel_rfl) (fun _ _ _ h => h) (Or.inl ⟨by kernel_rfl, ?_⟩) (by assumption) ?_
                rotate_left
                · intro wS hSw
                  try dsimp only at hSw
                  go_simp
                  try with_reducible rfl
                simp only [List.getElem_toArray, List.getElem_cons_succ, List.getElem_cons_zero, Act.put, List.setIfInBounds_toArray, List.set_cons_zero, List.set_cons_succ]
                refine wpAnyH_ready (rs := [4, 7]) (by kernel_rfl) (by simp) ?_
                refine AllReadyH.cons rfl (fun K hK => ?_) (AllReadyH.cons rfl (fun K hK => ?_) AllReadyH.nil)
                · go_simp
                  refine hK.out _ _ trivial (fun hHeld' => ?_)
                  clear hHeld hK K
                  have hHeld := hHeld'
                  clear hHeld'
                  try simp only [List.getElem_toArray, List.getElem_cons_succ, List.getElem_cons_zero, Act.put, List.setIfInBounds_toArray, List.set_cons_zero, List.set_cons_succ]
                  refine wpAnyH_ready (rs := [7]) (by kernel_rfl) (by simp) ?_
                  refine AllReadyH.cons rfl (fun K hK => ?_) AllReadyH.nil
                  go_simp
                  refine (hcy _ HR4.out).mono ?_
                  rintro e w5 ⟨rfl, hR5, ho5⟩
                  have hA5 := (show At w4.drew b 33 _ from HA4.out).keep ho5 (by simp; omega)
                  have d9 : w5.cell? ⟨b, 9, none⟩ = some (.slice (some ⟨g, off, none⟩) acc.length cap) := At.cell hA5 9 rfl
                  have HA5 := Lib.hid hA5
                  have HR5 := Lib.hid hR5
                  have HG5 := Lib.hid (HG4.out.keep ho5 (by simp; omega))
                  have HO5 := Lib.hid (HO4.out.trans (ho5.mono (by simp)) : Only [rb, b] w w5)
                  refine hK.out _ _ trivial (fun hHeld' => ?_)
                  clear hHeld hK K hA5 hR5 ho5 hcy
                  have hHeld := hHeld'
                  clear hHeld'
                  try simp only [List.getElem_toArray, List.getElem_cons_succ, List.getElem_cons_zero, Act.put, List.setIfInBounds_toArray, List.set_cons_zero, List.set_cons_succ]
                  refine wpAnyH_take (i := 8) (v := ?_) rfl (by kernel_rfl) (by kernel_rfl) (by kernel_rfl) (fun _ _ _ h => h) (Or.inl ⟨by kernel_rfl, ?_⟩) (by assumption) ?_
                  rotate_left
                  · intro wS hSw
                    try dsimp only at hSw
                    go_simp
                    try with_reducible rfl
                  simp only [List.getElem_toArray, List.getElem_cons_succ, List.getElem_cons_zero, Act.put, List.setIfInBounds_toArray, List.set_cons_zero, List.set_cons_succ]
                  refine wpAnyH_take (i := 11) (v := ?_) rfl (by kernel_rfl) (by kernel_rfl) (by kernel_rfl) (fun _ _ _ h => h) (Or.inl ⟨by kernel_rfl, ?_⟩) (by assumption) ?_
                  rotate_left
                  · intro wS hSw
                    try dsimp only at hSw
                    go_simp
                    try with_reducible rfl
                  simp only [List.getElem_toArray, List.getElem_cons_succ, List.getElem_cons_zero, Act.put, List.setIfInBounds_toArray, List.set_cons_zero, List.set_cons_succ]
                  obtain ⟨v', w6, eA, hG6, hB6, hkp⟩ := HG5.out.append (D1, D2) (by omega) HO5.out.size
                  obtain ⟨va, vc, rfl⟩ : ∃ va vc, v' = .slice va (k + 1) vc := by
                    rcases hG6.2 with ⟨_, h0⟩ | ⟨g', cap', cur', e', _⟩
                    · simp at h0
                    · rw [e']; simp [hal]
                  have HG6 := Lib.hid hG6
                  try simp only [hal] at eA
                  have HA6 : Hid (FrAt w6 b { f with rg := acc } (.slice (some ⟨g, off, none⟩) acc.length cap)) := Lib.hid (hkp _ _ _ HA5.out (by decide))
                  have HR6 : Hid (RdAt w6 rb s a3) := Lib.hid (hkp _ _ _ HR5.out (by decide))
                  have HO6 : Hid (Only [rb, b] w w6) := Lib.hid (only_bl HO5.out hB6)
                  have d9a : (w5.alloc (.cells #[.int .i64 D1, .int .i64 D2] 114)).cell? ⟨b, 9, none⟩ = some (.slice (some ⟨g, off, none⟩) acc.length cap) := At.cell (HA5.out.alloc _) 9 rfl
                  clear hG6 hB6 hkp
                  refine wpAnyH_ready (rs := [12]) (by kernel_rfl) (by simp) ?_
                  refine AllReadyH.cons rfl (fun K hK => ?_) AllReadyH.nil
                  go_simp
                  refine hK.out _ _ trivial (fun hHeld' => ?_)
                  clear hHeld hK K
                  have hHeld := hHeld'
                  clear hHeld'
                  try simp only [List.getElem_toArray, List.getElem_cons_succ, List.getElem_cons_zero, Act.put, List.setIfInBounds_toArray, List.set_cons_zero, List.set_cons_succ]
                  clear d9 d9a
                  refine wpAnyH_ready (rs := [13]) (by kernel_rfl) (by simp) ?_
                  refine AllReadyH.cons rfl (fun K hK => ?_) AllReadyH.nil
                  rw [if_pos (by rfl)]
                  refine Lib.wp_append_run _ (.tmp 37) (.tmp 45) 31 31 rfl _ _ rfl rfl _ _ (eA _) ?_
                  refine hK.out _ _ trivial (fun hHeld' => ?_)
                  clear hHeld hK K eA
                  have hHeld := hHeld'
                  clear hHeld'
                  try simp only [List.getElem_toArray, List.getElem_cons_succ, List.getElem_cons_zero, Act.put, List.setIfInBounds_toArray, List.set_cons_zero, List.set_cons_succ]
                  refine wpAnyH_take (i := 14) (v := ?_) rfl (by kernel_rfl) (by kernel_rfl) (by kernel_rfl) (fun _ _ _ h => h) (Or.inl ⟨by kernel_rfl, ?_⟩) (by assumption) ?_
                  rotate_left
                  · intro wS hSw
                    try dsimp only at hSw
                    go_simp
                    try with_reducible rfl
                  simp only [List.getElem_toArray, List.getElem_cons_succ, List.getElem_cons_zero, Act.put, List.setIfInBounds_toArray, List.set_cons_zero, List.set_cons_succ]
                  refine wpAnyH_take (i := 15) (v := ?_) rfl (by kernel_rfl) (by kernel_rfl) (by kernel_rfl) (fun _ _ _ h => h) (Or.inl ⟨by kernel_rfl, ?_⟩) (by assumption) ?_
                  rotate_left
                  · intro wS hSw
                    try dsimp only at hSw
                    go_simp
                    try with_reducible rfl
                  simp only [List.getElem_toArray, List.getElem_cons_succ, List.getElem_cons_zero, Act.put, List.setIfInBounds_toArray, List.set_cons_zero, List.set_cons_succ]
                  have d9 : ∃ u, w6.cell? ⟨b, 9, none⟩ = some u := ⟨_, At.cell HA6.out 9 rfl⟩
                  obtain ⟨u9, d9⟩ := d9
                  have fr : w6.frozen? ⟨b, 9, none⟩ = false := At.free HA6.out 9
                  refine wpAnyH_ready (rs := [16]) (by kernel_rfl) (by simp) ?_
                  refine AllReadyH.cons rfl (fun K hK => ?_) AllReadyH.nil
                  go_simp
                  refine hK.out _ _ trivial (fun hHeld' => ?_)
                  clear hHeld hK K
                  refine wpAnyH_done (by kernel_rfl) ?_ _
                  go_wp2_with fail
                  go_roundg (m - (k + 1))
                  case measure => omega
                  case rel =>
                    refine ⟨k + 1, acc ++ [(D1, D2)], a3, _, rfl, by omega, by simp <;> omega, by simp; omega, ?_, ha3s, (show At w6 rb 72 _ from HR6.out).far (by simpa using hrb) _, (show At w6 b 33 _ from HA6.out).set 9 _ rfl, ?_, ?_, HO6.out.put (by simp) _⟩
                    · intro p hp
                      rw [List.mem_append, List.mem_singleton] at hp
                      rcases hp with hp | rfl
                      · exact HI.out p hp
                      · exact ⟨bD1, bD2⟩
                    · exact HG6.out.keep (S := [b]) (show Only [b] w6 (w6.setCell ⟨b, 9, none⟩ _) from (Only.refl [b] w6).put (by simp) _) (by simp; omega)
                    · rw [HRF.out, show m - (k + 1) = j by omega]
                · go_simp
                  refine (hcy _ HR4.out).mono ?_
                  rintro e w5 ⟨rfl, hR5, ho5⟩
                  have hA5 := (show At w4.drew b 33 _ from HA4.out).keep ho5 (by simp; omega)
                  have d9 : w5.cell? ⟨b, 9, none⟩ = some (.slice (some ⟨g, off, none⟩) acc.length cap) := At.cell hA5 9 rfl
                  have HA5 := Lib.hid hA5
                  have HR5 := Lib.hid hR5
                  have HG5 := Lib.hid (HG4.out.keep ho5 (by simp; omega))
                  have HO5 := Lib.hid (HO4.out.trans (ho5.mono (by simp)) : Only [rb, b] w w5)
                  refine hK.out _ _ trivial (fun hHeld' => ?_)
                  clear hHeld hK K hA5 hR5 ho5 hcy
                  have hHeld := hHeld'
                  clear hHeld'
                  try simp only [List.getElem_toArray, List.getElem_cons_succ, List.getElem_cons_zero, Act.put, List.setIfInBounds_toArray, List.set_cons_zero, List.set_cons_succ]
                  refine wpAnyH_take (i := 8) (v := ?_) rfl (by kernel_rfl) (by kernel_rfl) (by kernel_rfl) (fun _ _ _ h => h) (Or.inl ⟨by kernel_rfl, ?_⟩) (by assumption) ?_
                  rotate_left
                  · intro wS hSw
                    try dsimp only at hSw
                    go_simp
                    try with_reducible rfl
                  simp only [List.getElem_toArray, List.getElem_cons_succ, List.getElem_cons_zero, Act.put, List.setIfInBounds_toArray, List.set_cons_zero, List.set_cons_succ]
                  refine wpAnyH_take (i := 11) (v := ?_) rfl (by kernel_rfl) (by kernel_rfl) (by kernel_rfl) (fun _ _ _ h => h) (Or.inl ⟨by kernel_rfl, ?_⟩) (by assumption) ?_
                  rotate_left
                  · intro wS hSw
                    try dsimp only at hSw
                    go_simp
                    try with_reducible rfl
                  simp only [List.getElem_toArray, List.getElem_cons_succ, List.getElem_cons_zero, Act.put, List.setIfInBounds_toArray, List.set_cons_zero, List.set_cons_succ]
                  obtain ⟨v', w6, eA, hG6, hB6, hkp⟩ := HG5.out.append (D1, D2) (by omega) HO5.out.size
                  obtain ⟨va, vc, rfl⟩ : ∃ va vc, v' = .slice va (k + 1) vc := by
                    rcases hG6.2 with ⟨_, h0⟩ | ⟨g', cap', cur', e', _⟩
                    · simp at h0
                    · rw [e']; simp [hal]
                  have HG6 := Lib.hid hG6
                  try simp only [hal] at eA
                  have HA6 : Hid (FrAt w6 b { f with rg := acc } (.slice (some ⟨g, off, none⟩) acc.length cap)) := Lib.hid (hkp _ _ _ HA5.out (by decide))
                  have HR6 : Hid (RdAt w6 rb s a3) := Lib.hid (hkp _ _ _ HR5.out (by decide))
                  have HO6 : Hid (Only [rb, b] w w6) := Lib.hid (only_bl HO5.out hB6)
                  have d9a : (w5.alloc (.cells #[.int .i64 D1, .int .i64 D2] 114)).cell? ⟨b, 9, none⟩ = some (.slice (some ⟨g, off, none⟩) acc.length cap) := At.cell (HA5.out.alloc _) 9 rfl
                  clear hG6 hB6 hkp
                  refine wpAnyH_ready (rs := [4, 12]) (by kernel_rfl) (by simp) ?_
                  refine AllReadyH.cons rfl (fun K hK => ?_) (AllReadyH.cons rfl (fun K hK => ?_) AllReadyH.nil)
                  · go_simp
                    refine hK.out _ _ trivial (fun hHeld' => ?_)
                    clear hHeld hK K
                    have hHeld := hHeld'
                    clear hHeld'
                    try simp only [List.getElem_toArray, List.getElem_cons_succ, List.getElem_cons_zero, Act.put, List.setIfInBounds_toArray, List.set_cons_zero, List.set_cons_succ]
                    refine wpAnyH_ready (rs := [12]) (by kernel_rfl) (by simp) ?_
                    refine AllReadyH.cons rfl (fun K hK => ?_) AllReadyH.nil
                    go_simp
                    refine hK.out _ _ trivial (fun hHeld' => ?_)
                    clear hHeld hK K
                    have hHeld := hHeld'
                    clear hHeld'
                    try simp only [List.getElem_toArray, List.getElem_cons_succ, List.getElem_cons_zero, Act.put, List.setIfInBounds_toArray, List.set_cons_zero, List.set_cons_succ]
                    clear d9 d9a
                    refine wpAnyH_ready (rs := [13]) (by kernel_rfl) (by simp) ?_
                    refine AllReadyH.cons rfl (fun K hK => ?_) AllReadyH.nil
                    rw [if_pos (by rfl)]
                    refine Lib.wp_append_run _ (.tmp 37) (.tmp 45) 31 31 rfl _ _ rfl rfl _ _ (eA _) ?_
                    refine hK.out _ _ trivial (fun hHeld' => ?_)
                    clear hHeld hK K eA
                    have hHeld := hHeld'
                    clear hHeld'
                    try simp only [List.getElem_toArray, List.getElem_cons_succ, List.getElem_cons_zero, Act.put, List.setIfInBounds_toArray, List.set_cons_zero, List.set_cons_succ]
                    refine wpAnyH_take (i := 14) (v := ?_) rfl (by kernel_rfl) (by kernel_rfl) (by kernel_rfl) (fun _ _ _ h => h) (Or.inl ⟨by kernel_rfl, ?_⟩) (by assumption) ?_
                    rotate_left
                    · intro wS hSw
                      try dsimp only at hSw
                      go_simp
                      try with_reducible rfl
                    simp only [List.getElem_toArray, List.getElem_cons_succ, List.getElem_cons_zero, Act.put, List.setIfInBounds_toArray, List.set_cons_zero, List.set_cons_succ]
                    refine wpAnyH_take (i := 15) (v := ?_) rfl (by kernel_rfl) (by kernel_rfl) (by kernel_rfl) (fun _ _ _ h => h) (Or.inl ⟨by kernel_rfl, ?_⟩) (by assumption) ?_
                    rotate_left
                    · intro wS hSw
                      try dsimp only at hSw
                      go_simp
                      try with_reducible rfl
                    simp only [List.getElem_toArray, List.getElem_cons_succ, List.getElem_cons_zero, Act.put, List.setIfInBounds_toArray, List.set_cons_zero, List.set_cons_succ]
                    have d9 : ∃ u, w6.cell? ⟨b, 9, none⟩ = some u := ⟨_, At.cell HA6.out 9 rfl⟩
                    obtain ⟨u9, d9⟩ := d9
                    have fr : w6.frozen? ⟨b, 9, none⟩ = false := At.free HA6.out 9
                    refine wpAnyH_ready (rs := [16]) (by kernel_rfl) (by simp) ?_
                    refine AllReadyH.cons rfl (fun K hK => ?_) AllReadyH.nil
                    go_simp
                    refine hK.out _ _ trivial (fun hHeld' => ?_)
                    clear hHeld hK K
                    refine wpAnyH_done (by kernel_rfl) ?_ _
                    go_wp2_with fail
                    go_roundg (m - (k + 1))
                    case measure => omega
                    case rel =>
                      refine ⟨k + 1, acc ++ [(D1, D2)], a3, _, rfl, by omega, by simp <;> omega, by simp; omega, ?_, ha3s, (show At w6 rb 72 _ from HR6.out).far (by simpa using hrb) _, (show At w6 b 33 _ from HA6.out).set 9 _ rfl, ?_, ?_, HO6.out.put (by simp) _⟩
                      · intro p hp
                        rw [List.mem_append, List.mem_singleton] at hp
                        rcases hp with hp | rfl
                        · exact HI.out p hp
                        · exact ⟨bD1, bD2⟩
                      · exact HG6.out.keep (S := [b]) (show Only [b] w6 (w6.setCell ⟨b, 9, none⟩ _) from (Only.refl [b] w6).put (by simp) _) (by simp; omega)
                      · rw [HRF.out, show m - (k + 1) = j by omega]
                  · go_simp
                    refine hK.out _ _ trivial (fun hHeld' => ?_)
                    clear hHeld hK K
                    have hHeld := hHeld'
                    clear hHeld'
                    try simp only [List.getElem_toArray, List.getElem_cons_succ, List.getElem_cons_zero, Act.put, List.setIfInBounds_toArray, List.set_cons_zero, List.set_cons_succ]
                    refine wpAnyH_ready (rs := [4]) (by kernel_rfl) (by simp) ?_
                    refine AllReadyH.cons rfl (fun K hK => ?_) AllReadyH.nil
                    go_simp
                    refine hK.out _ _ trivial (fun hHeld' => ?_)
                    clear hHeld hK K
                    have hHeld := hHeld'
                    clear hHeld'
                    try simp only [List.getElem_toArray, List.getElem_cons_succ, List.getElem_cons_zero, Act.put, List.setIfInBounds_toArray, List.set_cons_zero, List.set_cons_succ]
                    clear d9 d9a
                    refine wpAnyH_ready (rs := [13]) (by kernel_rfl) (by simp) ?_
                    refine AllReadyH.cons rfl (fun K hK => ?_) AllReadyH.nil
                    rw [if_pos (by rfl)]
                    refine Lib.wp_append_run _ (.tmp 37) (.tmp 45) 31 31 rfl _ _ rfl rfl _ _ (eA _) ?_
                    refine hK.out _ _ trivial (fun hHeld' => ?_)
                    clear hHeld hK K eA
                    have hHeld := hHeld'
                    clear hHeld'
                    try simp only [List.getElem_toArray, List.getElem_cons_succ, List.getElem_cons_zero, Act.put, List.setIfInBounds_toArray, List.set_cons_zero, List.set_cons_succ]
                    refine wpAnyH_take (i := 14) (v := ?_) rfl (by kernel_rfl) (by kernel_rfl) (by kernel_rfl) (fun _ _ _ h => h) (Or.inl ⟨by kernel_rfl, ?_⟩) (by assumption) ?_
                    rotate_left
                    · intro wS hSw
                      try dsimp only at hSw
                      go_simp
                      try with_reducible rfl
                    simp only [List.getElem_toArray, List.getElem_cons_succ, List.getElem_cons_zero, Act.put, List.setIfInBounds_toArray, List.set_cons_zero, List.set_cons_succ]
                    refine wpAnyH_take (i := 15) (v := ?_) rfl (by kernel_rfl) (by kernel_rfl) (by kernel_rfl) (fun _ _ _ h => h) (Or.inl ⟨by kernel_rfl, ?_⟩) (by assumption) ?_
                    rotate_left
                    · intro wS hSw
                      try dsimp only at hSw
                      go_simp
                      try with_reducible rfl
                    simp only [List.getElem_toArray, List.getElem_cons_succ, List.getElem_cons_zero, Act.put, List.setIfInBounds_toArray, List.set_cons_zero, List.set_cons_succ]
                    have d9 : ∃ u, w6.cell? ⟨b, 9, none⟩ = some u := ⟨_, At.cell HA6.out 9 rfl⟩
                    obtain ⟨u9, d9⟩ := d9
                    have fr : w6.frozen? ⟨b, 9, none⟩ = false := At.free HA6.out 9
                    refine wpAnyH_ready (rs := [16]) (by kernel_rfl) (by simp) ?_
                    refine AllReadyH.cons rfl (fun K hK => ?_) AllReadyH.nil
                    go_simp
                    refine hK.out _ _ trivial (fun hHeld' => ?_)
                    clear hHeld hK K
                    refine wpAnyH_done (by kernel_rfl) ?_ _
                    go_wp2_with fail
                    go_roundg (m - (k + 1))
                    case measure => omega
                    case rel =>
                      refine ⟨k + 1, acc ++ [(D1, D2)], a3, _, rfl, by omega, by simp <;> omega, by simp; omega, ?_, ha3s, (show At w6 rb 72 _ from HR6.out).far (by simpa using hrb) _, (show At w6 b 33 _ from HA6.out).set 9 _ rfl, ?_, ?_, HO6.out.put (by simp) _⟩
                      · intro p hp
                        rw [List.mem_append, List.mem_singleton] at hp
                        rcases hp with hp | rfl
                        · exact HI.out p hp
                        · exact ⟨bD1, bD2⟩
                      · exact HG6.out.keep (S := [b]) (show Only [b] w6 (w6.setCell ⟨b, 9, none⟩ _) from (Only.refl [b] w6).put (by simp) _) (by simp; omega)
                      · rw [HRF.out, show m - (k + 1) = j by omega]
        · obtain rfl : k = m := by omega
          have hlt' : ¬ (k : Int) < k := by omega
          have HF : Hid (R = some ({ f with rg := acc }, s.data.toList.drop a1)) := Lib.hid (by rw [← HRR.out, HRD.out, Nat.sub_self]; rfl)
          go_wp2_with fail
          go_end0
          exact GetR.good HF.out HO.out HA1.out (HG.out.at HI.out) HG.out.new ha1 HR1.out
end Go.Proofs.YtgiekhohhogdiaaDoor
