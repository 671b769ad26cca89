/- Slicing, copying within and clearing a block of bytes or of marks. -/
import Derived.Test.YtgiekhohhogdiaaDoorRgC
import Derived.Laws.CopyRow
import Derived.Laws.BytesArg
import Derived.Lib.SliceRun
import Derived.StillTailTactics
namespace Go.Proofs.YtgiekhohhogdiaaDoor
open Go Go.RowKit
set_option linter.unusedVariables false
set_option linter.unusedSectionVars false
set_option linter.unusedSimpArgs false

/-- Where a slice of block g from c on begins: an empty end keeps the block's beginning. -/
def slA (g c n : Nat) : Option Addr := if n = c then some ⟨g, 0, none⟩ else some ⟨g, c, none⟩
theorem slice_at {P : Program} (T : TypeId) (ht : P.underlying T = some (.slice (P.elem T))) (hs : (P.info? (P.elem T)).map (·.size) = some 1) (g n c : Nat) (hc : c ≤ n) (w : World) :
    (Instr.slice T (.slice (some ⟨g, 0, none⟩) n n) (some (.int .i64 c)) none none).run P w = .ok (.slice (slA g c n) (n - c) (n - c)) w := by
  rw [run_slice_l w T _ n n ht .i64 c (by omega) (by omega)]
  cases hq : P.info? (P.elem T) with
  | none => simp [hq] at hs
  | some i =>
    have hi : i.size = 1 := by simpa [hq] using hs
    simp [sizeOf, typeInfo, hq, hi, sliced, slA, Result.andThen, Addr.add]
    split <;> simp
    intro h; omega
theorem copy_at {P : Program} (T e : TypeId) (hu : P.underlying T = some (.slice e)) (hs : (P.info? e).map (·.size) = some 1) {w : World} {g n c : Nat} {t : TypeId} {cs : Array Value} (hA : At w g t cs) (hn : cs.size = n) (hc : c ≤ n) (h1 : ∀ v ∈ cs.toList, v.oneCell' = true) :
    ∃ w', (∀ ty, (Builtin.copy_ #[T, T] ty #[.slice (some ⟨g, 0, none⟩) n n, .slice (slA g c n) (n - c) (n - c)]).run P w = .ok (goInt (n - c : Nat)) w') ∧ At w' g t (cs.toList.drop c ++ cs.toList.drop (n - c)).toArray ∧ Only [g] w w' := by
  subst hn
  have hl : (cs.toList.drop c).length = cs.size - c := by simp
  refine ⟨w.setRow g (cs.toList.drop c ++ cs.toList.drop (cs.size - c)).toArray, fun ty => ?_, setRow_heap w g cs _ t (0, 0) hA, rfl, rfl, rfl, by simp [World.setRow], fun k _ hk => setRow_other w g k _ (by simpa using hk)⟩
  have key := fun a hsrc => run_copy_row (P := P) w T T ty e g 0 cs.size cs.size a (cs.size - c) (cs.size - c) cs t (cs.toList.drop c) hu hs hA (by rw [hl]; simp [Nat.min_def]) hsrc (by rw [hl]; omega) (fun v hv => h1 v (List.mem_of_mem_drop hv))
  rw [hl] at key
  simp only [List.take_zero, List.nil_append, Nat.zero_add] at key
  unfold slA
  by_cases e0 : cs.size = c
  · rw [if_pos e0]
    exact key _ (fun j v hj => by
      have : j < (cs.toList.drop c).length := (List.getElem?_eq_some_iff.1 hj).1
      omega)
  · rw [if_neg e0]
    refine key _ (fun j v hj => ?_)
    have hp : (⟨g, c, none⟩ : Addr).add j = ⟨g, c + j, none⟩ := by unfold Addr.add; split <;> simp_all
    rw [hp]
    refine hA.cell (c + j) ?_
    rw [List.getElem?_drop] at hj
    simpa using hj
theorem setCells_at (g : Nat) (t : TypeId) : ∀ (vs : List Value) (o : Nat) (cs : Array Value) (w : World), At w g t cs → o + vs.length ≤ cs.size →
    ∃ cs', At (w.setCells g o vs) g t cs' ∧ cs'.size = cs.size ∧ (∀ k, cs'[k]? = if o ≤ k ∧ k < o + vs.length then vs[k - o]? else cs[k]?) ∧ Only [g] w (w.setCells g o vs)
  | [], o, cs, w, h, _ => ⟨cs, h, rfl, fun k => by rw [if_neg (by simp)], Only.refl _ _⟩
  | v :: vs, o, cs, w, h, hl => by
    simp only [List.length_cons] at hl
    obtain ⟨cs', h1, h2, h3, h4⟩ := setCells_at g t vs (o + 1) (cs.setIfInBounds o v) (w.setCell ⟨g, o, none⟩ v) (h.set o v rfl) (by simp; omega)
    refine ⟨cs', h1, by simpa using h2, fun k => ?_, (Only.put (g := g) (Only.refl _ _) (by simp) _).trans h4⟩
    rw [h3 k]
    simp only [List.length_cons]
    by_cases e : k = o
    · subst e
      rw [if_neg (by omega), if_pos (by omega), Array.getElem?_setIfInBounds, if_pos rfl, if_pos (by omega)]
      simp
    · by_cases e2 : o + 1 ≤ k ∧ k < o + 1 + vs.length
      · rw [if_pos e2, if_pos (by omega)]
        obtain ⟨j, rfl⟩ : ∃ j, k = o + 1 + j := ⟨k - (o + 1), by omega⟩
        rw [show o + 1 + j - (o + 1) = j by omega, show o + 1 + j - o = j + 1 by omega]
        simp
      · rw [if_neg e2, if_neg (by omega), Array.getElem?_setIfInBounds, if_neg (fun h => e h.symm)]
theorem clear_at {P : Program} (T e : TypeId) (z : Value) (hu : P.underlying T = some (.slice e)) (hv : ∀ w, (zeroValue e).run P w = .ok z w) (hz : z.cells = #[z]) (hz1 : z.oneCell' = true) {w : World} {g n m : Nat} {t : TypeId} {cs : Array Value} (hA : At w g t cs) (hn : cs.size = n) (hm : m ≤ n) :
    ∃ w' cs', (∀ ty, (Builtin.clear_ #[T] ty #[.slice (slA g m n) (n - m) (n - m)]).run P w = .ok (.tuple #[]) w') ∧ At w' g t cs' ∧ cs'.size = n ∧ (∀ k, cs'[k]? = if m ≤ k ∧ k < n then some z else cs[k]?) ∧ Only [g] w w' := by
  subst hn
  by_cases e0 : cs.size = m
  · refine ⟨w, cs, fun ty => ?_, hA, rfl, fun k => by rw [if_neg (by omega)], Only.refl _ _⟩
    unfold slA
    rw [if_pos e0, ← e0, Nat.sub_self]
    simp [Builtin.clear_, run_underlying hu]
  · obtain ⟨cs', h1, h2, h3, h4⟩ := setCells_at g t (List.replicate (cs.size - m) z) m cs w hA (by simp; omega)
    refine ⟨_, cs', fun ty => ?_, h1, h2, fun k => ?_, h4⟩
    · unfold slA
      rw [if_neg e0]
      exact Lib.run_clear_slice (P := P) w T e ty z hu hv hz hz1 g m (cs.size - m) (cs.size - m) (by omega) (fun j hj => by
        rw [hA.cell (m + j) (Array.getElem?_eq_getElem (by omega))]; rfl) (fun j hj => hA.free _)
    · rw [h3 k]
      simp only [List.length_replicate]
      by_cases c : m ≤ k ∧ k < cs.size
      · rw [if_pos c, if_pos (by omega)]
        simp [List.getElem?_replicate]
        omega
      · rw [if_neg c, if_neg (by omega)]
theorem A_size8 : (Tryd.prog.info? 5).map (·.size) = some 1 := by kernel_rfl
theorem A_sizeB : (Tryd.prog.info? 4).map (·.size) = some 1 := by kernel_rfl
theorem A_zero8 (w : World) : (zeroValue 5).run Tryd.prog w = .ok (.int .u8 0) w := by kernel_rfl
theorem A_zeroB (w : World) : (zeroValue 4).run Tryd.prog w = .ok (.bool false) w := by kernel_rfl
section
variable {w : World} {g n : Nat} {B : Nat → UInt8} {H : Nat → Bool}
set_option maxRecDepth 10000 in
theorem slice_b (c : Nat) (hc : c ≤ n) (w : World) : (Instr.slice 46 (.slice (some ⟨g, 0, none⟩) n n) (some (.int .i64 c)) none none).run Tryd.prog w = .ok (.slice (slA g c n) (n - c) (n - c)) w :=
  slice_at _ Tryd.underlying46 A_size8 g n c hc w
set_option maxRecDepth 10000 in
theorem slice_h (c : Nat) (hc : c ≤ n) (w : World) : (Instr.slice 47 (.slice (some ⟨g, 0, none⟩) n n) (some (.int .i64 c)) none none).run Tryd.prog w = .ok (.slice (slA g c n) (n - c) (n - c)) w :=
  slice_at _ Tryd.underlying47 A_sizeB g n c hc w
theorem drop_get (cs : Array Value) (c k : Nat) (hc : c ≤ cs.size) (hk : k < cs.size) : (cs.toList.drop c ++ cs.toList.drop (cs.size - c)).toArray[k]? = if k + c < cs.size then cs[k + c]? else cs[k]? := by
  by_cases e : k + c < cs.size
  · rw [if_pos e]
    simp only [List.getElem?_toArray]
    rw [List.getElem?_append_left (by simp; omega), List.getElem?_drop]
    simp [Nat.add_comm]
  · rw [if_neg e]
    simp only [List.getElem?_toArray]
    rw [List.getElem?_append_right (by simp; omega), List.getElem?_drop]
    simp only [List.length_drop, Array.length_toList]
    rw [show cs.size - c + (k - (cs.size - c)) = k by omega]
    simp
theorem copy_b (h : RowB w g n B) (c : Nat) (hc : c ≤ n) :
    ∃ w', (∀ ty, (Builtin.copy_ #[46, 46] ty #[.slice (some ⟨g, 0, none⟩) n n, .slice (slA g c n) (n - c) (n - c)]).run Tryd.prog w = .ok (goInt (n - c : Nat)) w') ∧ RowB w' g n (fun k => if k + c < n then B (k + c) else B k) ∧ Only [g] w w' := by
  obtain ⟨cs, a, b, d⟩ := h
  obtain ⟨w', e1, e2, e3⟩ := copy_at (P := Tryd.prog) 46 5 Tryd.underlying46 A_size8 a b hc (fun v hv => by
    obtain ⟨i, hi, rfl⟩ := List.getElem_of_mem hv
    have hi' : i < cs.size := by simpa using hi
    have := d i (by omega)
    rw [Array.getElem?_eq_getElem hi'] at this
    simp at this
    simp [this, Value.oneCell'])
  subst b
  refine ⟨w', e1, ⟨_, e2, by simp, fun k hk => ?_⟩, e3⟩
  rw [drop_get cs c k hc hk]
  by_cases e : k + c < cs.size
  · rw [if_pos e]; simp only [if_pos e]; exact d _ e
  · rw [if_neg e]; simp only [if_neg e]; exact d _ hk
theorem copy_h (h : RowH w g n H) (c : Nat) (hc : c ≤ n) :
    ∃ w', (∀ ty, (Builtin.copy_ #[47, 47] ty #[.slice (some ⟨g, 0, none⟩) n n, .slice (slA g c n) (n - c) (n - c)]).run Tryd.prog w = .ok (goInt (n - c : Nat)) w') ∧ RowH w' g n (fun k => if k + c < n then H (k + c) else H k) ∧ Only [g] w w' := by
  obtain ⟨cs, a, b, d⟩ := h
  obtain ⟨w', e1, e2, e3⟩ := copy_at (P := Tryd.prog) 47 4 Tryd.underlying47 A_sizeB a b hc (fun v hv => by
    obtain ⟨i, hi, rfl⟩ := List.getElem_of_mem hv
    have hi' : i < cs.size := by simpa using hi
    have := d i (by omega)
    rw [Array.getElem?_eq_getElem hi'] at this
    simp at this
    simp [this, Value.oneCell'])
  subst b
  refine ⟨w', e1, ⟨_, e2, by simp, fun k hk => ?_⟩, e3⟩
  rw [drop_get cs c k hc hk]
  by_cases e : k + c < cs.size
  · rw [if_pos e]; simp only [if_pos e]; exact d _ e
  · rw [if_neg e]; simp only [if_neg e]; exact d _ hk
theorem clear_b (h : RowB w g n B) (m : Nat) (hm : m ≤ n) :
    ∃ w', (∀ ty, (Builtin.clear_ #[46] ty #[.slice (slA g m n) (n - m) (n - m)]).run Tryd.prog w = .ok (.tuple #[]) w') ∧ RowB w' g n (fun k => if k < m then B k else 0) ∧ Only [g] w w' := by
  obtain ⟨cs, a, b, d⟩ := h
  obtain ⟨w', cs', e1, e2, e3, e4, e5⟩ := clear_at (P := Tryd.prog) 46 5 (.int .u8 0) Tryd.underlying46 A_zero8 rfl rfl a b hm
  refine ⟨w', e1, ⟨cs', e2, e3, fun k hk => ?_⟩, e5⟩
  rw [e4 k]
  by_cases e : k < m
  · rw [if_neg (by omega)]; simp only [if_pos e]; exact d _ hk
  · rw [if_pos (by omega)]; simp only [if_neg e]; rfl
theorem clear_h (h : RowH w g n H) (m : Nat) (hm : m ≤ n) :
    ∃ w', (∀ ty, (Builtin.clear_ #[47] ty #[.slice (slA g m n) (n - m) (n - m)]).run Tryd.prog w = .ok (.tuple #[]) w') ∧ RowH w' g n (fun k => if k < m then H k else false) ∧ Only [g] w w' := by
  obtain ⟨cs, a, b, d⟩ := h
  obtain ⟨w', cs', e1, e2, e3, e4, e5⟩ := clear_at (P := Tryd.prog) 47 4 (.bool false) Tryd.underlying47 A_zeroB rfl rfl a b hm
  refine ⟨w', e1, ⟨cs', e2, e3, fun k hk => ?_⟩, e5⟩
  rw [e4 k]
  by_cases e : k < m
  · rw [if_neg (by omega)]; simp only [if_pos e]; exact d _ hk
  · rw [if_pos (by omega)]; simp only [if_neg e]
end
/-- A string of the bytes of a list. -/
theorem conv_b {w : World} {g n : Nat} {B : Nat → UInt8} (h : RowB w g n B) (c cap : Nat) (hc : c ≤ n) : (convert 46 9 (.slice (some ⟨g, 0, none⟩) c cap)).run Tryd.prog w = .ok (.string (strB ((List.range c).map B))) w := by
  have := run_convert_bytes_arg (P := Tryd.prog) w 46 5 Tryd.underlying46 Tryd.underlying5 g 0 c cap (((List.range c).map B).map fun u => (u.toNat : Int)) (by simp) (fun i hi => by
    rw [Nat.zero_add, h.cell i (by omega)]
    simp [List.getD_eq_getElem?_getD, hi]) 9 Tryd.underlying9
  rw [strOf_bytes] at this
  exact this
end Go.Proofs.YtgiekhohhogdiaaDoor
/- Contracts of package reassembly: take. -/
namespace Go.Proofs.YtgiekhohhogdiaaDoor
open Go Go.RowKit
set_option linter.unusedVariables false
set_option linter.unusedSectionVars false
set_option linter.unusedSimpArgs false

set_option maxRecDepth 100000 in
set_option maxHeartbeats 4000000 in
theorem take_c (b g1 g2 : Nat) (x : Bf) (w : World) (hA : BufAt w b g1 g2 x) (c : Nat) (hc : c ≤ x.n) (hp : x.pos + c ≤ 1099511627776) :
    Calls Tryd.prog 22 #[.pointer (some ⟨b, 0, none⟩), .int .i64 c] w fun e w' => e = .returned (.string (strB (x.out c))) ∧ BufAt w' b g1 g2 (x.read c) ∧ Only [b, g1, g2] w w' := by
  have hcv := conv_b hA.rb c x.n hc
  have c1 := hA.c1
  have k0 : (0 : Int) ≤ c := by omega
  have k1 : (c : Int) ≤ x.n := by omega
  have HA := Lib.hid hA; clear hA
  have HC := Lib.hid hc; clear hc
  unfold Bf.out
  go_enter Tryd.func22, Tryd.ntmps22
  go_wp2_with fail
  clear k0 k1 hcv
  have s1 := slice_b (g := g1) (n := x.n) c HC.out
  obtain ⟨w1, e1, rb1, o1⟩ := copy_b (HA.out.rb.block (w' := w.drew) rfl) c HC.out
  go_still_tail 10, (by kernel_rfl)
  go_wp2_with fail
  clear s1 e1
  have hd1 := HA.out.d1
  have hd2 := HA.out.d2
  have hd3 := HA.out.d3
  have hl := HA.out.lt
  have ab1 := (HA.out.at_.drew).keep o1 (by simp; exact hd1)
  have rh1 : RowH w1 g2 x.n x.H := HA.out.rh.block (o1.block _ hl.2.2 (by simp; exact fun e => hd3 e.symm))
  have O1 : Hid (Only [b, g1, g2] w w1) := Lib.hid ((((Only.refl [g1] w).drew).trans o1).mono (by simp))
  have c2 : w1.cell? ⟨b, 2, none⟩ = some (.slice (some ⟨g2, 0, none⟩) x.n x.n) := ab1.cell 2 rfl
  have s1 := slice_h (g := g2) (n := x.n) c HC.out
  obtain ⟨w2, e1, rh2, o2⟩ := copy_h (rh1.block (w' := w1.drew) rfl) c HC.out
  clear c1 o1 rh1
  have AB1 := Lib.hid ab1; clear ab1
  have RB1 := Lib.hid rb1; clear rb1
  have HD := Lib.hid (And.intro hd1 (And.intro hd2 hd3)); clear hd1 hd2 hd3
  have HL := Lib.hid hl; clear hl
  go_still_tail 10, (by kernel_rfl)
  have hl := HL.out
  obtain ⟨hd1, hd2, hd3⟩ := HD.out
  have hm : x.n - c ≤ x.n := by omega
  have ab2 := (AB1.out.drew).keep o2 (by simp; exact hd2)
  have rb2 : RowB w2 g1 x.n (fun k => if k + c < x.n then x.B (k + c) else x.B k) := RB1.out.block (o2.block _ (Nat.lt_of_lt_of_le hl.2.1 O1.out.size) (by simp; exact hd3))
  have O2 : Hid (Only [b, g1, g2] w w2) := Lib.hid (O1.out.trans ((((Only.refl [g2] w1).drew).trans o2).mono (by simp)))
  have cA : w2.cell? ⟨b, 1, none⟩ = some (.slice (some ⟨g1, 0, none⟩) x.n x.n) := ab2.cell 1 rfl
  have sA := slice_b (g := g1) (n := x.n) (x.n - c) hm
  obtain ⟨w3, eA, rb3, o3⟩ := clear_b rb2 (x.n - c) hm
  have ab3 := ab2.keep o3 (by simp; exact hd1)
  have rh3 : RowH w3 g2 x.n (fun k => if k + c < x.n then x.H (k + c) else x.H k) := rh2.block (o3.block _ (Nat.lt_of_lt_of_le hl.2.2 O2.out.size) (by simp; exact fun e => hd3 e.symm))
  have cB : w3.cell? ⟨b, 2, none⟩ = some (.slice (some ⟨g2, 0, none⟩) x.n x.n) := ab3.cell 2 rfl
  have sB := slice_h (g := g2) (n := x.n) (x.n - c) hm
  obtain ⟨w4, eB, rh4, o4⟩ := clear_h rh3 (x.n - c) hm
  have ab4 := ab3.keep o4 (by simp; exact hd2)
  have rb4 := rb3.block (o4.block _ (Nat.lt_of_lt_of_le hl.2.1 (Nat.le_trans O2.out.size o3.size)) (by simp; exact hd3))
  have O4 : Hid (Only [b, g1, g2] w w4) := Lib.hid ((O2.out.trans (o3.mono (by simp))).trans (o4.mono (by simp)))
  have cC : w4.cell? ⟨b, 0, none⟩ = some (.int .i64 x.pos) := ab4.cell 0 rfl
  have fC : w4.frozen? ⟨b, 0, none⟩ = false := ab4.free 0
  have hp0 := HA.out.p0
  have hp1 := HA.out.p1
  have ew : IntKind.i64.wrap (x.pos + (c : Int)) = x.pos + c := IntWalk.i64_in _ (by omega)
  have HF : Hid (BufAt (w4.setCell ⟨b, 0, none⟩ (.int .i64 (x.pos + c))) b g1 g2 (x.read c)) := Lib.hid ⟨ab4.set 0 _ rfl, (rb4.far (p := ⟨b, 0, none⟩) (fun e => hd1 e.symm) _).congr (fun k hk => by
      simp only [Bf.read]
      by_cases h1 : k < x.n - c
      · rw [if_pos h1, if_pos (by omega), if_pos (by omega)]
      · rw [if_neg h1, if_neg (by omega)]), (rh4.far (p := ⟨b, 0, none⟩) (fun e => hd2 e.symm) _).congr (fun k hk => by
      simp only [Bf.read]
      by_cases h1 : k < x.n - c
      · rw [if_pos h1, if_pos (by omega), if_pos (by omega)]
      · rw [if_neg h1, if_neg (by omega)]), hd1, hd2, hd3, HA.out.n1, HA.out.n0, by simp only [Bf.read]; omega, hp, HA.out.h0, HA.out.h1⟩
  clear ab2 rb2 ab3 rh3 ab4 rb4 rh4 rh2 rb3 o2 o3 o4 hm hl hd1 hd2 hd3 hp0 hp1 hp
  go_wp2_with fail
  go_ret
  exact ⟨rfl, HF.out, O4.out.put (by simp) _⟩
end Go.Proofs.YtgiekhohhogdiaaDoor
