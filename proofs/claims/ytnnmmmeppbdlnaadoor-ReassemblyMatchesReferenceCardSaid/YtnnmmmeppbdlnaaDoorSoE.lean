/- The reference implementation's Read: what it makes of its rows. -/
import Derived.Test.YtnnmmmeppbdlnaaDoorSoD
import Derived.Lib.AppendZeros
import Derived.Laws.BytesArg
namespace Go.Proofs.YtnnmmmeppbdlnaaDoor
open Go Go.RowKit
set_option linter.unusedVariables false
set_option linter.unusedSectionVars false
set_option linter.unusedSimpArgs false

def slC (g l cap : Nat) : Addr := if cap = l then ⟨g, 0, none⟩ else ⟨g, l, none⟩
theorem slice_gen {P : Program} (T : TypeId) (ht : P.underlying T = some (.slice (P.elem T))) (hs : (P.info? (P.elem T)).map (·.size) = some 1) (g n cap l : Nat) (h : l ≤ n) (h2 : n ≤ cap) (w : World) : (Instr.slice T (.slice (some ⟨g, 0, none⟩) n cap) (some (.int .i64 l)) none none).run P w = .ok (.slice (some (slC g l cap)) (n - l) (cap - l)) w := by
  rw [run_slice_l w T _ n cap ht .i64 l (by omega) (by omega)]
  cases hq : P.info? (P.elem T) with
  | none => simp [hq] at hs
  | some i =>
    have hi : i.size = 1 := by simpa [hq] using hs
    simp [sizeOf, typeInfo, hq, hi, sliced, slC, Result.andThen, Addr.add]
    split <;> simp
    intro e; omega
theorem head_gen {P : Program} (T : TypeId) (ht : P.underlying T = some (.slice (P.elem T))) (hs : (P.info? (P.elem T)).map (·.size) = some 1) (g n cap l : Nat) (h : l ≤ n) (h2 : n ≤ cap) (w : World) : (Instr.slice T (.slice (some ⟨g, 0, none⟩) n cap) none (some (.int .i64 l)) none).run P w = .ok (.slice (some ⟨g, 0, none⟩) l cap) w := by
  rw [run_slice_h w T _ n cap ht .i64 l (by omega) (by omega)]
  cases hq : P.info? (P.elem T) with
  | none => simp [hq] at hs
  | some i =>
    have hi : i.size = 1 := by simpa [hq] using hs
    simp [sizeOf, typeInfo, hq, hi, sliced, Result.andThen, Addr.add]
theorem add_in (g o j : Nat) : (⟨g, o, none⟩ : Addr).add j = ⟨g, o + j, none⟩ := by unfold Addr.add; split <;> simp_all
theorem own_some {w : World} {base : Nat} {e : TypeId} {v : Value} {n : Nat} {xs : List Value} (h : w.ownsRow base e 1 v n xs) (hv : v ≠ .slice none 0 0) : ∃ g cap, v = .slice (some ⟨g, 0, none⟩) n cap ∧ base ≤ g := by
  rcases h.2 with ⟨h1, _⟩ | ⟨g, cap, cur, h1, h2, _⟩
  · exact absurd h1 hv
  · exact ⟨g, cap, h1, h2⟩
/-- append([]T{}, s[c:]...): a row of its own. -/
theorem rest_own {P : Program} (T e : TypeId) (i : TypeInfo) (z : Value) (ht : P.underlying T = some (.slice e)) (hi : P.info? e = some i) (hz : i.zero = some z) (hs : i.size = 1) (hb : i.bytes = 1) (hzc : z.cells = #[z]) (V : Nat → Value) (hV : ∀ k, (V k).oneCell' = true)
    {w : World} {g n c cap : Nat} (hc : c ≤ n) (hcap : n ≤ cap) (hg : g < w.heap.size) (hn : n ≤ 8192) (hcell : ∀ k, k < n → w.cell? ⟨g, k, none⟩ = some (V k)) :
    ∃ g3 cap3 w1, (∀ ty, (Builtin.append_ #[T, T] ty #[.slice (some ⟨w.heap.size, 0, none⟩) 0 0, .slice (some (slC g c cap)) (n - c) (cap - c)]).run P (w.alloc (.cells #[] e)) = .ok (.slice (some ⟨g3, 0, none⟩) (n - c) cap3) w1) ∧
      w1.ownsRow w.heap.size e 1 (.slice (some ⟨g3, 0, none⟩) (n - c) cap3) (n - c) ((List.range (n - c)).map fun k => V (k + c)) ∧ Below w.heap.size w w1 := by
  have hW : Below w.heap.size w (w.alloc (.cells #[] e)) := (Below.refl _ w).alloc (Nat.le_refl _) _
  have h0 : (w.alloc (.cells #[] e)).ownsRow w.heap.size e 1 (.slice (some ⟨w.heap.size, 0, none⟩) 0 0) 0 [] :=
    ⟨rfl, .inr ⟨w.heap.size, 0, #[], rfl, Nat.le_refl _, At.new w e #[], Nat.le_refl _, Nat.zero_le _, rfl, rfl⟩⟩
  have key := fun ty => run_append_own (P := P) (w.alloc (.cells #[] e)) w.heap.size T ty e i z 1 1 ht hi hz hs hb (by rw [hzc]; rfl) (by decide) _ 0 [] h0 (slC g c cap) (n - c) (cap - c) ((List.range (n - c)).map fun k => V (k + c)) (by simp) (fun j u hj => by
    have hj1 : j < n - c := by
      rcases Nat.lt_or_ge j (n - c) with x | x
      · exact x
      · rw [List.getElem?_eq_none (by simpa using x)] at hj; cases hj
    unfold slC
    rw [if_neg (by omega), add_in, hW.cell (p := ⟨g, c + j, none⟩) hg, hcell (c + j) (by omega)]
    simp [hj1] at hj
    rw [← hj, Nat.add_comm]) (fun u hu => by simp at hu; obtain ⟨q, _, rfl⟩ := hu; exact hV _) (by unfold maxLen; omega) (by omega) hW.size
  obtain ⟨v', w', e1, e2, e3, e4⟩ := key T
  obtain ⟨g3, cap3, rfl, hb3⟩ := own_some e2 (fun h => by have := (e4.1 h).1; cases this)
  rw [Nat.zero_add] at e1 e2
  refine ⟨g3, cap3, w', fun ty => ?_, by simpa using e2, hW.grown e3 hW.size (fun j e => by cases e; exact Nat.le_refl _)⟩
  rw [← e1]; rfl
theorem own_only {w w' : World} {base g cap n : Nat} {e : TypeId} {xs : List Value} {S : List Nat} (h : w.ownsRow base e 1 (.slice (some ⟨g, 0, none⟩) n cap) n xs) (ho : Only S w w') (hg : g ∉ S) : w'.ownsRow base e 1 (.slice (some ⟨g, 0, none⟩) n cap) n xs := by
  refine ⟨h.1, ?_⟩
  rcases h.2 with ⟨hh, _⟩ | ⟨g', cap', cur, hh, h1, hg', r⟩
  · cases hh
  · cases hh
    exact .inr ⟨g, cap, cur, rfl, h1, (ho.block g (Array.getElem?_eq_some_iff.1 hg').1 hg).trans hg', r⟩
/-- append(rest, make([]T, c)...): the rest, and zeros behind it. -/
theorem fill_own {P : Program} (T tn e : TypeId) (i : TypeInfo) (z : Value) (ht : P.underlying T = some (.slice e)) (htn : P.underlying tn = some (.int .i64)) (hi : P.info? e = some i) (hz : i.zero = some z) (hs : i.size = 1) (hb : i.bytes = 1) (hzc : z.cells = #[z]) (hz1 : z.oneCell' = true) (V : Nat → Value)
    {w : World} {base g n c cap : Nat} (hc : c ≤ n) (hn : n ≤ 8192) (hbase : base ≤ w.heap.size) (hown : w.ownsRow base e 1 (.slice (some ⟨g, 0, none⟩) (n - c) cap) (n - c) ((List.range (n - c)).map fun k => V (k + c))) :
    ∃ g4 cap4 w' cs, (∀ ty, (Builtin.append_ #[T, tn] ty #[.slice (some ⟨g, 0, none⟩) (n - c) cap, .int .i64 c]).run P w = .ok (.slice (some ⟨g4, 0, none⟩) n cap4) w') ∧ At w' g4 e cs ∧ base ≤ g4 ∧ n ≤ cap4 ∧ n ≤ cs.size ∧ (∀ k, k < n → cs[k]? = some (if k + c < n then V (k + c) else z)) ∧ Only [g] w w' ∧ (g4 = g ∨ g4 = w.heap.size) := by
  obtain ⟨v', w', e1, e2, e3, e5⟩ := zeros_own (P := P) T tn e i z ht htn hi hz hs hzc hz1 hown c (by omega) hb hbase
  have hnc : n - c + c = n := by omega
  rw [hnc] at e2
  rcases e2.2 with ⟨h1, h2⟩ | ⟨g4, cap4, cur, rfl, hbg, hg, h1, h2, h3, h4⟩
  · exfalso
    subst h1
    rcases Nat.eq_zero_or_pos n with h0 | h0
    · have := e1 T
      rcases hown.2 with ⟨hh, _⟩ | ⟨g', cap', cur, hh, _, hg', hnc', hcm', hcs', _⟩
      · cases hh
      · cases hh
        have hq := zeros_room (P := P) T tn T e i z ht htn hi hz hs hzc hz1 (k := c) (n := n - c) hg' (by simpa using hcs') (by omega) (by omega) (by omega)
        rw [hq] at this
        cases this
    · omega
  · refine ⟨g4, cap4, w', cur, e1, hg, hbg, h1, by omega, fun k hk => ?_, ?_⟩
    · have hq : (cur.toList.take (n * 1))[k]? = ((List.range (n - c)).map (fun k => V (k + c)) ++ List.replicate c z)[k]? := by rw [h4]
      rw [List.getElem?_take, if_pos (by omega)] at hq
      have hq2 : cur[k]? = ((List.range (n - c)).map (fun k => V (k + c)) ++ List.replicate c z)[k]? := by simpa using hq
      rw [hq2]
      by_cases hkc : k + c < n
      · rw [if_pos hkc, List.getElem?_append_left (by simp; omega)]
        simp [show k < n - c by omega]
      · rw [if_neg hkc, List.getElem?_append_right (by simp; omega)]
        simp [List.getElem?_replicate]
        omega
    · obtain ⟨u1, u2, u3, u4, u5⟩ := e3
      exact ⟨⟨u1, u2, u3, u4, fun k hk hn => u5 k hk (fun e => hn (by cases e; simp))⟩, by rcases e5 with e | e <;> simp [Value.ownBlock] at e <;> simp [e]⟩
theorem A_part8 : ∃ i, Tryd.prog.info? 5 = some i ∧ i.zero = some (.int .u8 0) ∧ i.size = 1 ∧ i.bytes = 1 := by
  obtain ⟨i, hi, hzz⟩ := Option.map_eq_some_iff.1 A_info8
  simp only [Prod.mk.injEq] at hzz
  exact ⟨i, hi, hzz.1, hzz.2.1, hzz.2.2⟩
theorem A_partB : ∃ i, Tryd.prog.info? 4 = some i ∧ i.zero = some (.bool false) ∧ i.size = 1 ∧ i.bytes = 1 := by
  obtain ⟨i, hi, hzz⟩ := Option.map_eq_some_iff.1 A_infoB
  simp only [Prod.mk.injEq] at hzz
  exact ⟨i, hi, hzz.1, hzz.2.1, hzz.2.2⟩
theorem conv_p {w : World} {g n : Nat} {B : Nat → UInt8} (h : RowP w g n B) (c cap : Nat) (hc : c ≤ n) : (convert 39 9 (.slice (some ⟨g, 0, none⟩) c cap)).run Tryd.prog w = .ok (.string (strB ((List.range c).map B))) w := by
  have := run_convert_bytes_arg (P := Tryd.prog) w 39 5 Tryd.underlying39 Tryd.underlying5 g 0 c cap (((List.range c).map B).map fun u => (u.toNat : Int)) (by simp) (fun i hi => by
    rw [Nat.zero_add, h.cell i (by omega)]
    simp [List.getD_eq_getElem?_getD, hi]) 9 Tryd.underlying9
  rw [strOf_bytes] at this
  exact this
set_option maxRecDepth 100000 in
set_option maxHeartbeats 8000000 in
theorem xread_c (b g1 g2 c1 c2 : Nat) (x : Bf) (w : World) (hA : XBuf w b g1 g2 c1 c2 x) (m : Int) (hp : x.pos + x.many m ≤ 1099511627776) :
    Calls Tryd.prog 15 #[.pointer (some ⟨b, 0, none⟩), .int .i64 m] w fun e w' => ∃ g3 g4 c3 c4, e = .returned (.tuple #[.string (strB (x.out (x.many m))), .bool (x.last (x.many m))]) ∧ XBuf w' b g3 g4 c3 c4 (x.read (x.many m)) ∧ Only [b] w w' ∧ w.heap.size ≤ g3 ∧ w.heap.size ≤ g4 := by
  have hle := x.ready_le
  have hml := (x.many_le m).1
  obtain ⟨zz, hz⟩ : ∃ z, (if (x.ready : Int) < m then (x.ready : Int) else m) = z := ⟨_, rfl⟩
  obtain ⟨c, hc⟩ : ∃ c, x.many m = c := ⟨_, rfl⟩
  rw [hc] at hp hml ⊢
  have hy : (if zz < 0 then 0 else zz) = (c : Int) := by
    rw [← hc, ← hz]; unfold Bf.many; split <;> split <;> split <;> omega
  have hz2 : (if m < (x.ready : Int) then m else (x.ready : Int)) = zz := by rw [← hz]; split <;> split <;> omega
  have hcn : c ≤ x.n := by omega
  have hcv := conv_p hA.rb c c1 hcn
  have HA := Lib.hid hA; clear hA
  have q2 := HA.out.q2
  have q3 := HA.out.q3
  have sA := head_gen (P := Tryd.prog) 39 Tryd.underlying39 A_size8 g1 x.n c1 c hcn HA.out.k1
  have sB := slice_gen (P := Tryd.prog) 39 Tryd.underlying39 A_size8 g1 x.n c1 c hcn HA.out.k1
  have sC := slice_gen (P := Tryd.prog) 40 Tryd.underlying40 A_sizeB g2 x.n c2 c hcn HA.out.k2
  obtain ⟨i8, i8a, i8b, i8c, i8d⟩ := A_part8
  obtain ⟨iB, iBa, iBb, iBc, iBd⟩ := A_partB
  have hl := HA.out.lt
  obtain ⟨g3, c3, w1, eA, oA, bA⟩ := rest_own (P := Tryd.prog) 39 5 i8 (.int .u8 0) Tryd.underlying39 i8a i8b i8c i8d rfl (fun k => .int .u8 (x.B k).toNat) (fun _ => rfl) hcn HA.out.k1 hl.2.1 HA.out.n1 (fun k hk => HA.out.cb k hk)
  have hl1 := bA.size
  obtain ⟨g4, c4, w2, eB, oB, bB⟩ := rest_own (P := Tryd.prog) 40 4 iB (.bool false) Tryd.underlying40 iBa iBb iBc iBd rfl (fun k => .bool (x.H k)) (fun _ => rfl) hcn HA.out.k2 (w := w1) (Nat.lt_of_lt_of_le hl.2.2 hl1) HA.out.n1 (fun k hk => (bA.cell (p := ⟨g2, k, none⟩) hl.2.2).trans (HA.out.ch k hk))
  have q3b : w1.cell? ⟨b, 3, none⟩ = some (.slice (some ⟨g2, 0, none⟩) x.n c2) := (bA.cell (p := ⟨b, 3, none⟩) hl.1).trans q3
  have lA : w.heap.size ≤ g3 ∧ g3 < w1.heap.size := World.ownsRow.lt oA g3 rfl
  have lB : w1.heap.size ≤ g4 ∧ g4 < w2.heap.size := World.ownsRow.lt oB g4 rfl
  have bB2 : Only [] w w2 := Only.of_below (bA.trans (bB.mono hl1))
  have oA2 := own_only oA (S := []) (Only.of_below bB) (by simp)
  obtain ⟨g5, c5, w3, cs5, eC, a5, hg5, hc5, hs5, hv5, o3, y5⟩ := fill_own (P := Tryd.prog) 39 3 5 i8 (.int .u8 0) Tryd.underlying39 Tryd.underlying3 i8a i8b i8c i8d rfl rfl (fun k => .int .u8 (x.B k).toNat) hcn HA.out.n1 (by have := bB2.size; exact this) oA2
  have ab3 : At w3 b 42 (xCells g1 g2 c1 c2 x) := (HA.out.at_.keep bB2 (by simp)).keep o3 (by simp; omega)
  have oB3 := own_only oB (S := [g3, b]) (w' := w3.setCell ⟨b, 2, none⟩ (.slice (some ⟨g5, 0, none⟩) x.n c5)) ((o3.mono (by simp)).put (by simp) _) (by simp; omega)
  have hsz3 : w1.heap.size ≤ (w3.setCell ⟨b, 2, none⟩ (.slice (some ⟨g5, 0, none⟩) x.n c5)).heap.size := by have := o3.size; have := bB.size; simp [World.setCell]; omega
  obtain ⟨g6, c6, w4, cs6, eD, a6, hg6, hc6, hs6, hv6, o4, y6⟩ := fill_own (P := Tryd.prog) 40 3 4 iB (.bool false) Tryd.underlying40 Tryd.underlying3 iBa iBb iBc iBd rfl rfl (fun k => .bool (x.H k)) hcn HA.out.n1 hsz3 oB3
  have ab4 := (ab3.set 2 (.slice (some ⟨g5, 0, none⟩) x.n c5) rfl).keep o4 (by simp; omega)
  have hbs3 : (w3.setCell ⟨b, 2, none⟩ (.slice (some ⟨g5, 0, none⟩) x.n c5)).heap.size = w3.heap.size := by simp [World.setCell]
  have h23 := o3.size
  have hg5b : g5 ≠ b := by omega
  have hg6b : g6 ≠ b := by omega
  have h54 : g5 ≠ g4 := by rcases y5 with e | e <;> omega
  have h56 : g5 ≠ g6 := by
    have := a5.lt
    rcases y6 with e | e
    · omega
    · rw [hbs3] at e; omega
  have a5' : At w4 g5 5 cs5 := (a5.keep (S := [b]) ((Only.refl _ _).put (by simp) _) (by simp; exact hg5b)).keep o4 (by simp; exact h54)
  have HX : Hid (XBuf ((w4.setCell ⟨b, 3, none⟩ (.slice (some ⟨g6, 0, none⟩) x.n c6)).setCell ⟨b, 1, none⟩ (.int .i64 (x.pos + c))) b g5 g6 c5 c6 (x.read c)) := Lib.hid
    ⟨(ab4.set 3 _ rfl).set 1 _ rfl, ⟨cs5, (a5'.keep (S := [b]) (((Only.refl _ _).put (by simp) _).put (by simp) _) (by simp; exact hg5b)), hs5, fun k hk => by
        rw [hv5 k hk]; simp only [Bf.read]; split <;> rfl⟩, ⟨cs6, (a6.keep (S := [b]) (((Only.refl _ _).put (by simp) _).put (by simp) _) (by simp; exact hg6b)), hs6, fun k hk => by
        rw [hv6 k hk]; simp only [Bf.read]; split <;> rfl⟩, fun e => hg5b e.symm, fun e => hg6b e.symm, h56, hc5, hc6, HA.out.n1, HA.out.n0, by show (0 : Int) ≤ x.pos + c; have := HA.out.p0; omega, hp, HA.out.h0, HA.out.h1, HA.out.f0, HA.out.f1⟩
  have HOn : Hid (Only [b] w ((w4.setCell ⟨b, 3, none⟩ (.slice (some ⟨g6, 0, none⟩) x.n c6)).setCell ⟨b, 1, none⟩ (.int .i64 (x.pos + c)))) := Lib.hid (by
    have t2 : Only [b] w w3 := ⟨o3.os.trans bB2.os, o3.tape.trans bB2.tape, o3.output.trans bB2.output, Nat.le_trans bB2.size o3.size, fun k hk hn => (o3.block k (Nat.lt_of_lt_of_le hk bB2.size) (by simp; omega)).trans (bB2.block k hk (by simp))⟩
    have t3 := t2.put (g := b) (i := 2) (by simp) (.slice (some ⟨g5, 0, none⟩) x.n c5)
    have t4 : Only [b] w w4 := ⟨o4.os.trans t3.os, o4.tape.trans t3.tape, o4.output.trans t3.output, Nat.le_trans t3.size o4.size, fun k hk hn => (o4.block k (Nat.lt_of_lt_of_le hk t3.size) (by simp; omega)).trans (t3.block k hk hn)⟩
    exact (t4.put (by simp) _).put (by simp) _)
  have HG : Hid (w.heap.size ≤ g5 ∧ w.heap.size ≤ g6) := Lib.hid ⟨hg5, by omega⟩
  have r2 : w3.cell? ⟨b, 2, none⟩ = some (.slice (some ⟨g1, 0, none⟩) x.n c1) := ab3.cell 2 rfl
  have fr2 : w3.frozen? ⟨b, 2, none⟩ = false := ab3.free 2
  have r3 : w4.cell? ⟨b, 3, none⟩ = some (.slice (some ⟨g2, 0, none⟩) x.n c2) := ab4.cell 3 rfl
  have fr3 : w4.frozen? ⟨b, 3, none⟩ = false := ab4.free 3
  have r1 : w4.cell? ⟨b, 1, none⟩ = some (.int .i64 x.pos) := ab4.cell 1 rfl
  have fr1 : w4.frozen? ⟨b, 1, none⟩ = false := ab4.free 1
  have r5 : w4.cell? ⟨b, 5, none⟩ = some (.int .i64 (if x.kn then x.fin else -1)) := ab4.cell 5 rfl
  have p0 := HA.out.p0
  have p1 := HA.out.p1
  have ew : IntKind.i64.wrap (x.pos + (c : Int)) = x.pos + c := IntWalk.i64_in _ (by omega)
  have hlb1 : b < w1.heap.size := by omega
  have hne1 : ¬ b = g5 := by omega
  clear ab3 ab4 oA oA2 oB oB3 hle hml
  go_enter Tryd.func15, Tryd.ntmps15
  go_wp2_with fail
  refine (xready_c b g1 g2 c1 c2 x _ HA.out).mono ?_
  rintro e wr ⟨rfl, rfl⟩
  go_wp2_with (at_builtin; first | (refine Lib.wpList_append_run _ rfl _ _ _ _ rfl _ _ rfl rfl _ _ (eA _) ?_) | (refine Lib.wpList_append_run _ rfl _ _ _ _ rfl _ _ rfl rfl _ _ (eB _) ?_) | (refine Lib.wpList_append_run _ rfl _ _ _ _ rfl _ _ rfl rfl _ _ (eC _) ?_) | (refine Lib.wpList_append_run _ rfl _ _ _ _ rfl _ _ rfl rfl _ _ (eD _) ?_))
  have HP0 := Lib.hid p0
  cases hk : x.kn with
  | false =>
    rw [hk] at r5
    have r5' : w4.cell? ⟨b, 5, none⟩ = some (.int .i64 (-1)) := r5
    have hq : ((-1 : Int) == x.pos + (c : Int)) = false := Bool.eq_false_iff.2 (fun h => by have := beq_iff_eq.1 h; omega)
    have HL : Hid (x.last c = false) := Lib.hid (by unfold Bf.last; rw [hk]; rfl)
    clear r5 hk
    go_wp2_with fail
    go_quiet (fail)
    go_wp2_with fail
    go_ret2
    exact ⟨g5, g6, c5, c6, by rw [HL.out]; rfl, HX.out.keep (S := []) ((Only.refl _ _).drewN _) (by simp) (by simp) (by simp), HOn.out.drewN _, HG.out.1, HG.out.2⟩
  | true =>
    rw [hk] at r5
    have r5' : w4.cell? ⟨b, 5, none⟩ = some (.int .i64 x.fin) := r5
    have HL : Hid (x.last c = (x.fin == x.pos + (c : Int))) := Lib.hid (by unfold Bf.last; rw [hk, Bool.true_and, Bool.eq_iff_iff]; simp; exact eq_comm)
    clear r5 hk
    go_wp2_with fail
    go_quiet (fail)
    go_wp2_with fail
    go_ret2
    exact ⟨g5, g6, c5, c6, by rw [HL.out]; rfl, HX.out.keep (S := []) ((Only.refl _ _).drewN _) (by simp) (by simp) (by simp), HOn.out.drewN _, HG.out.1, HG.out.2⟩
end Go.Proofs.YtnnmmmeppbdlnaaDoor
