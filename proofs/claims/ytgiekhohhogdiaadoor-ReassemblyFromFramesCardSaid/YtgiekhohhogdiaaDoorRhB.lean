/- Rows of strings; pieces of a stream as frames, encoded and read back. -/
import Derived.Test.YtgiekhohhogdiaaDoorRhA
import Derived.Test.YtgiekhohhogdiaaDoorRfR
import Derived.Laws.AppendOwn
namespace Go.Proofs.YtgiekhohhogdiaaDoor
open Go Go.RowKit
set_option linter.unusedVariables false
set_option linter.unusedSectionVars false
set_option linter.unusedSimpArgs false

/-- The slice v owns a row of the strings L. -/
def Strs (w : World) (base : Nat) (v : Value) (L : List ByteArray) : Prop := w.ownsRow base 9 1 v L.length (L.map (Value.string))
theorem only_of_grown {w w' : World} {row : Option Nat} {S : List Nat} (h : w.grownBy w' row) (hr : ∀ r, row = some r → r ∈ S) : Only S w w' := by
  obtain ⟨h1, h2, h3, h4, h5⟩ := h
  exact ⟨h1, h2, h3, h4, fun k hk hn => h5 k hk (fun e => hn (hr k e.symm))⟩
theorem Strs.form {w : World} {base : Nat} {v : Value} {L : List ByteArray} (h : Strs w base v L) (hl : 0 < L.length) : ∃ g cap, v = .slice (some ⟨g, 0, none⟩) L.length cap ∧ base ≤ g ∧ g < w.heap.size ∧ L.length ≤ cap ∧ ∀ j (hj : j < L.length), w.cell? ⟨g, j, none⟩ = some (.string (L[j]'hj)) := by
  rcases h.2 with ⟨_, h2⟩ | ⟨g, cap, cur, rfl, hb, hg, h1, h2, h3, h4⟩
  · omega
  · refine ⟨g, cap, rfl, hb, (Array.getElem?_eq_some_iff.1 hg).1, h1, fun j hj => ?_⟩
    have hA : At w g 9 cur := hg
    refine hA.cell j ?_
    have e : (cur.toList.take (L.length * 1))[j]? = (L.map (Value.string))[j]? := by rw [h4]
    rw [List.getElem?_take, if_pos (by omega)] at e
    simpa [hj] using e
theorem Strs.keep {w w' : World} {base : Nat} {v : Value} {L : List ByteArray} (h : Strs w base v L) {S : List Nat} (ho : Only S w w') (hS : ∀ k ∈ S, k < base) : Strs w' base v L := by
  refine ⟨h.1, ?_⟩
  rcases h.2 with h2 | ⟨g, cap, cur, rfl, hb, hg, h1, h2, h3, h4⟩
  · exact .inl h2
  · exact .inr ⟨g, cap, cur, rfl, hb, (ho.block g (Array.getElem?_eq_some_iff.1 hg).1 (fun hm => by have := hS g hm; omega)).trans hg, h1, h2, h3, h4⟩
theorem Strs.weaken {w : World} {base base' : Nat} {v : Value} {L : List ByteArray} (h : Strs w base v L) (hb : base' ≤ base) : Strs w base' v L := by
  refine ⟨h.1, ?_⟩
  rcases h.2 with h2 | ⟨g, cap, cur, rfl, hb2, r⟩
  · exact .inl h2
  · exact .inr ⟨g, cap, cur, rfl, by omega, r⟩
theorem A_infoS : (Tryd.prog.info? 9).map (fun i => (i.zero, i.size, i.bytes)) = some (some (.string ⟨#[]⟩), 1, 16) := by kernel_rfl
/-- append of the strings M, which lie at a, to the row L. -/
theorem Strs.append {w : World} {base : Nat} {v : Value} {L : List ByteArray} (h : Strs w base v L) (a : Addr) (M : List ByteArray) (c : Nat) (hM : ∀ j (hj : j < M.length), w.cell? (a.add j) = some (.string (M[j]'hj))) (hs : L.length + M.length ≤ 10000) (hbase : base ≤ w.heap.size) :
    ∃ v' w', (∀ ty, (Builtin.append_ #[34, 34] ty #[v, .slice (some a) M.length c]).run Tryd.prog w = .ok v' w') ∧ Strs w' base v' (L ++ M) ∧ w.grownBy w' v.ownBlock := by
  obtain ⟨i, hi, hzz⟩ := Option.map_eq_some_iff.1 A_infoS
  simp only [Prod.mk.injEq] at hzz
  obtain ⟨hz, hsz, hb⟩ := hzz
  have key := fun ty => run_append_own (P := Tryd.prog) w base 34 ty 9 i (.string ⟨#[]⟩) 1 16 Tryd.underlying34 hi hz hsz hb rfl (by decide) v L.length (L.map (Value.string)) h a M.length c (M.map (Value.string)) (by simp) (fun j u hj => by
    have hj1 : j < M.length := by
      rcases Nat.lt_or_ge j M.length with x | x
      · exact x
      · rw [List.getElem?_eq_none (by simpa using x)] at hj; cases hj
    rw [hM j hj1]
    simpa [hj1] using hj) (fun u hu => by simp at hu; obtain ⟨q, _, rfl⟩ := hu; rfl) (by unfold maxLen; omega) (by omega) hbase
  obtain ⟨v', w', e1, e2, e3, _⟩ := key 34
  refine ⟨v', w', fun ty => ?_, ?_, e3⟩
  · rw [← e1]; rfl
  · unfold Strs
    rw [List.length_append, List.map_append]
    exact e2
/-- Where a slice from l on begins. -/
def slB (g l cap : Nat) : Addr := if cap = l then ⟨g, 0, none⟩ else ⟨g, l, none⟩
theorem A_sizeS : (Tryd.prog.info? 9).map (·.size) = some 1 := by kernel_rfl
set_option maxRecDepth 100000 in
theorem slice_rest (g n cap l : Nat) (h : l ≤ n) (h2 : n ≤ cap) (w : World) : (Instr.slice 34 (.slice (some ⟨g, 0, none⟩) n cap) (some (.int .i64 l)) none none).run Tryd.prog w = .ok (.slice (some (slB g l cap)) (n - l) (cap - l)) w := by
  rw [run_slice_l w 34 _ n cap Tryd.underlying34 .i64 l (by omega) (by omega)]
  have hs := A_sizeS
  cases hq : Tryd.prog.info? 9 with
  | none => rw [hq] at hs; cases hs
  | some i =>
    rw [hq] at hs
    have hi : i.size = 1 := by simpa using hs
    have he : Tryd.prog.elem 34 = 9 := by kernel_rfl
    simp [sizeOf, typeInfo, he, hq, hi, sliced, slB, Result.andThen, Addr.add]
    split <;> simp
    intro e; omega
set_option maxRecDepth 100000 in
theorem slice_head (g n cap l : Nat) (h : l ≤ n) (h2 : n ≤ cap) (w : World) : (Instr.slice 34 (.slice (some ⟨g, 0, none⟩) n cap) none (some (.int .i64 l)) none).run Tryd.prog w = .ok (.slice (some ⟨g, 0, none⟩) l cap) w := by
  rw [run_slice_h w 34 _ n cap Tryd.underlying34 .i64 l (by omega) (by omega)]
  have hs := A_sizeS
  cases hq : Tryd.prog.info? 9 with
  | none => rw [hq] at hs; cases hs
  | some i =>
    rw [hq] at hs
    have hi : i.size = 1 := by simpa using hs
    have he : Tryd.prog.elem 34 = 9 := by kernel_rfl
    simp [sizeOf, typeInfo, he, hq, hi, sliced, Result.andThen, Addr.add]
theorem add_at (g o j : Nat) : (⟨g, o, none⟩ : Addr).add j = ⟨g, o + j, none⟩ := by unfold Addr.add; split <;> simp_all
/-- One string is cut out of the row. -/
theorem cut_rows {w : World} {base : Nat} {L : List ByteArray} {g cap : Nat} (h : Strs w base (.slice (some ⟨g, 0, none⟩) L.length cap) L) (hg : g < w.heap.size) (hc : ∀ j (hj : j < L.length), w.cell? ⟨g, j, none⟩ = some (.string (L[j]'hj))) (hcap : L.length ≤ cap) (hl : L.length ≤ 5000) (k : Nat) (hk : k < L.length) :
    ∃ v1 w1 v2 w2, (∀ ty, (Builtin.append_ #[34, 34] ty #[.slice (some ⟨w.heap.size, 0, none⟩) 0 0, .slice (some ⟨g, 0, none⟩) k cap]).run Tryd.prog (w.alloc (.cells #[] 9)).drew = .ok v1 w1) ∧
      (∀ ty, (Builtin.append_ #[34, 34] ty #[v1, .slice (some (slB g (k + 1) cap)) (L.length - (k + 1)) (cap - (k + 1))]).run Tryd.prog w1 = .ok v2 w2) ∧ Strs w2 w.heap.size v2 (L.take k ++ L.drop (k + 1)) ∧ Below w.heap.size w w2 := by
  have hW : Below w.heap.size w (w.alloc (.cells #[] 9)).drew := ((Below.refl _ w).alloc (Nat.le_refl _) _).drew
  have h0 : Strs (w.alloc (.cells #[] 9)).drew w.heap.size (.slice (some ⟨w.heap.size, 0, none⟩) 0 0) [] :=
    ⟨rfl, .inr ⟨w.heap.size, 0, #[], rfl, Nat.le_refl _, (At.new w 9 #[]).drew, Nat.le_refl _, Nat.zero_le _, rfl, rfl⟩⟩
  have hlk : (L.take k).length = k := by simp; omega
  obtain ⟨v1, w1, e1, n1, g1⟩ := h0.append ⟨g, 0, none⟩ (L.take k) cap (fun j hj => by
    rw [add_at, Nat.zero_add, hW.cell (p := ⟨g, j, none⟩) hg, hc j (by omega)]
    simp) (by simp; omega) hW.size
  rw [hlk] at e1
  have hB1 : Below w.heap.size w w1 := hW.grown g1 hW.size (fun j e => (World.ownsRow.lt h0 j e).1)
  have hld : (L.drop (k + 1)).length = L.length - (k + 1) := by simp
  obtain ⟨v2, w2, e2, n2, g2⟩ := n1.append (slB g (k + 1) cap) (L.drop (k + 1)) (cap - (k + 1)) (fun j hj => by
    unfold slB
    rw [if_neg (by omega), add_at, hB1.cell (p := ⟨g, k + 1 + j, none⟩) hg, hc (k + 1 + j) (by omega)]
    simp) (by simp; omega) hB1.size
  rw [hld] at e2
  exact ⟨v1, w1, v2, w2, e1, e2, n2, hB1.grown g2 hB1.size (fun j e => (World.ownsRow.lt n1 j e).1)⟩
def vlen : Value → Nat
  | .slice _ n _ => n
  | _ => 0
theorem Strs.vlen {w : World} {base : Nat} {v : Value} {L : List ByteArray} (h : Strs w base v L) : vlen v = L.length := by
  rcases h.2 with ⟨rfl, h2⟩ | ⟨g, cap, cur, rfl, _⟩
  · rw [h2]; rfl
  · rfl

theorem A_infoF : (Tryd.prog.info? 33).map (·.size) = some 13 := by kernel_rfl
set_option maxRecDepth 100000 in
/-- A part of a row of frames. -/
theorem slice_fr (g n cap i e : Nat) (h : i < e) (h2 : e ≤ n) (h3 : n ≤ cap) (w : World) : (Instr.slice 30 (.slice (some ⟨g, 0, none⟩) n cap) (some (.int .i64 i)) (some (.int .i64 e)) none).run Tryd.prog w = .ok (.slice (some ⟨g, i * 13, none⟩) (e - i) (cap - i)) w := by
  rw [run_slice_lh w 30 _ n cap Tryd.underlying30 .i64 .i64 i e (by omega) (by omega) (by omega)]
  have hs := A_infoF
  cases hq : Tryd.prog.info? 33 with
  | none => rw [hq] at hs; cases hs
  | some t =>
    rw [hq] at hs
    have hi : t.size = 13 := by simpa using hs
    have he : Tryd.prog.elem 30 = 33 := by kernel_rfl
    simp [sizeOf, typeInfo, he, hq, hi, sliced, Result.andThen, Addr.add]
    rw [if_neg (by omega)]
    by_cases h0 : i * 13 = 0
    · rw [if_pos h0, h0]
    · rw [if_neg h0]
/-- The value of a piece's ranges: none. -/
abbrev nilV : Value := .slice none 0 0
theorem pf_ok (N p q : Nat) (w : World) (hp : p ≤ 60) (hq : q * p ≤ 400) : FrOk w (pf N p q) nilV := by
  have hl : (cutT txt (q * p) (pcE N p (q * p) - q * p)).length ≤ 60 := by rw [cutT_len]; unfold pcE; omega
  refine ⟨⟨?_, ?_, ?_, ?_, ?_, ?_, ?_, ?_, ?_⟩, ?_, ⟨none, 0, rfl, fun i hi => absurd hi (Nat.not_lt_zero _)⟩, Nat.zero_le _⟩
  · show (-9223372036854775808 : Int) ≤ 4 ∧ (4 : Int) ≤ 9223372036854775807; omega
  · show (-9223372036854775808 : Int) ≤ ((q * p : Nat) : Int) ∧ ((q * p : Nat) : Int) ≤ 9223372036854775807; omega
  · show (-9223372036854775808 : Int) ≤ 0 ∧ (0 : Int) ≤ 9223372036854775807; omega
  · show (-9223372036854775808 : Int) ≤ 0 ∧ (0 : Int) ≤ 9223372036854775807; omega
  · show (-9223372036854775808 : Int) ≤ 0 ∧ (0 : Int) ≤ 9223372036854775807; omega
  · show (-9223372036854775808 : Int) ≤ 0 ∧ (0 : Int) ≤ 9223372036854775807; omega
  · show (-9223372036854775808 : Int) ≤ 0 ∧ (0 : Int) ≤ 9223372036854775807; omega
  · show (cutT txt (q * p) (pcE N p (q * p) - q * p)).length ≤ _; omega
  · show 0 ≤ _; omega
  · show (-9223372036854775808 : Int) ≤ 8 ∧ (8 : Int) ≤ 9223372036854775807; omega
def xsL (N p : Nat) (d : List Nat) : List (Fr × Value) := d.map fun q => (pf N p q, nilV)
theorem xsL_len (N p : Nat) (d : List Nat) : (xsL N p d).length = d.length := by simp [xsL]
theorem xsL_fst (N p : Nat) (d : List Nat) : (xsL N p d).map Prod.fst = d.map (pf N p) := by simp [xsL]
theorem xsL_snoc (N p j : Nat) : xsL N p (List.range (j + 1)) = xsL N p (List.range j) ++ [(pf N p j, nilV)] := by simp [xsL, List.range_succ]
theorem xsL_get (N p : Nat) (d : List Nat) (k : Nat) (hk : k < (xsL N p d).length) : (xsL N p d)[k]'hk = (pf N p (d[k]'(by rw [xsL_len] at hk; exact hk)), nilV) := by simp [xsL]
/-- A chunk of the row of all frames. -/
theorem sl_chunk {w6 wr : World} {g N p J i e : Nat} (cap : Nat) (hp : p ≤ 60) (hN : N ≤ 400) (hP : Pcs N p J) (hg : g < w6.heap.size) (hc : ∀ k (hk : k < (xsL N p (List.range J)).length) j, j < 13 → w6.cell? ⟨g, k * 13 + j, none⟩ = (frc ((xsL N p (List.range J))[k]'hk))[j]?) (hB : Below w6.heap.size w6 wr) (h1 : i < e) (h2 : e ≤ J) :
    FrSl wr (.slice (some ⟨g, i * 13, none⟩) (e - i) cap) (xsL N p (List.range' i (e - i))) := by
  refine ⟨some ⟨g, i * 13, none⟩, cap, by rw [xsL_len, List.length_range'], fun k hk => ⟨g, i * 13, rfl, Nat.lt_of_lt_of_le hg hB.size, fun j hj => ?_⟩, fun x hx => ?_⟩
  · have hk2 : k < e - i := by rw [xsL_len, List.length_range'] at hk; exact hk
    rw [show i * 13 + k * 13 + j = (i + k) * 13 + j by omega, hB.cell (p := ⟨g, (i + k) * 13 + j, none⟩) hg, hc (i + k) (by rw [xsL_len, List.length_range]; omega) j hj, xsL_get, xsL_get]
    simp
  · obtain ⟨q, hq, rfl⟩ := List.mem_map.1 hx
    have := List.mem_range'_1.1 hq
    exact pf_ok N p q wr hp (by have := hP.le (q := q) (by omega); omega)
theorem eaF_ln (L : List Fr) : ∀ t : List UInt8, eaF L = some t → L.length ≤ t.length := by
  induction L with
  | nil => intro t _; exact Nat.zero_le _
  | cons f r ih =>
    intro t h
    simp only [eaF] at h
    cases hf : encF f with
    | none => rw [hf] at h; cases h
    | some s =>
      rw [hf] at h
      cases hr : eaF r with
      | none => rw [hr] at h; cases h
      | some z =>
        rw [hr] at h
        simp only [Option.map_some, Option.some.injEq] at h
        subst h
        have h1 := (encF_len hf).1
        have h2 := ih z hr
        simp only [List.length_append, List.length_cons]
        omega
/-- The datagram of the pieces d. -/
noncomputable def eD (N p : Nat) (d : List Nat) : ByteArray := strB ((eaF (d.map (pf N p))).getD [])
theorem eD_ok (N p : Nat) (d : List Nat) (hp : p ≤ 60) (hd : ∀ q ∈ d, q * p ≤ 400) : ∃ t, eaF (d.map (pf N p)) = some t ∧ eD N p d = strB t ∧ t.length ≤ 6001 * d.length ∧ d.length ≤ t.length := by
  obtain ⟨t, ht, hl⟩ := eaF_all (d.map (pf N p)) (fun f hf => by obtain ⟨q, hq, rfl⟩ := List.mem_map.1 hf; exact pf_enc N p q hp (hd q hq))
  exact ⟨t, ht, by unfold eD; rw [ht]; rfl, by simpa using hl, by simpa using eaF_ln _ t ht⟩
theorem enc_chunk (N p : Nat) (d : List Nat) (v : Value) (w : World) (hp : p ≤ 60) (hd : ∀ q ∈ d, q * p ≤ 400) (hn : d.length ≤ 3) (hS : FrSl w v (xsL N p d)) :
    Calls Tryd.prog 8 #[v] w fun e w' => e = .returned (.tuple #[.string (eD N p d), .int .i64 0]) ∧ Only [] w w' := by
  obtain ⟨t, ht, he, _⟩ := eD_ok N p d hp hd
  refine (encAll_c v (xsL N p d) w hS (by rw [xsL_len]; omega)).mono fun e w' ⟨h1, h2⟩ => ⟨?_, h2⟩
  rw [h1, xsL_fst, ht, he]; rfl
theorem dec_chunk (N p : Nat) (d : List Nat) (w : World) (hp : p ≤ 60) (hd : ∀ q ∈ d, q * p ≤ 400) (hn : d.length ≤ 3) :
    Calls Tryd.prog 9 #[.string (eD N p d)] w fun e w' => ∃ v xs, e = .returned (.tuple #[v, .int .i64 0]) ∧ FrRow w' w.heap.size v xs ∧ xs.map Prod.fst = d.map (pf N p) ∧ Only [] w w' := by
  obtain ⟨t, ht, he, hl, hl2⟩ := eD_ok N p d hp hd
  refine (decAll_c (eD N p d) (by rw [he, strB_size]; omega) w).mono fun e w' ⟨h1, h2⟩ => ?_
  rw [he, strB_list, strB_size, daF_eaF (d.map (pf N p)) (t.length + 1) ht (fun f hf => by obtain ⟨q, hq, rfl⟩ := List.mem_map.1 hf; intro x hx; cases hx) (by simp; omega)] at h2
  obtain ⟨v, xs, a, b, c⟩ := h2
  exact ⟨v, xs, a, b, c, h1⟩
/-- The cells of a datagram's frames, as they were read back. -/
theorem dec_cells {w : World} {base : Nat} {v : Value} {xs : List (Fr × Value)} {N p : Nat} {d : List Nat} (h : FrRow w base v xs) (hx : xs.map Prod.fst = d.map (pf N p)) (hd : 0 < d.length) :
    ∃ g o cap, v = .slice (some ⟨g, o, none⟩) d.length cap ∧ base ≤ g ∧ g < w.heap.size ∧ ∀ k (hk : k < d.length), w.cell? ⟨g, o + k * 13 + 1, none⟩ = some (.int .i64 4) ∧ w.cell? ⟨g, o + k * 13 + 2, none⟩ = some (.int .i64 ((d[k]'hk * p : Nat) : Int)) ∧
      w.cell? ⟨g, o + k * 13 + 3, none⟩ = some (.string (strB (pf N p (d[k]'hk)).S)) ∧ w.cell? ⟨g, o + k * 13 + 4, none⟩ = some (.bool (pf N p (d[k]'hk)).fin) := by
  have hlen : xs.length = d.length := by have := congrArg List.length hx; simpa using this
  obtain ⟨g, cap, h1, h2, h3, h4, h5⟩ := h.form (by omega)
  rw [hlen] at h1
  refine ⟨g, 0, cap, h1, h2, h3, fun k hk => ?_⟩
  simp only [Nat.zero_add]
  have hk2 : k < xs.length := by omega
  have hf : (xs[k]'hk2).1 = pf N p (d[k]'hk) := by
    have e1 : (xs.map Prod.fst)[k]'(by simpa using hk2) = (d.map (pf N p))[k]'(by simpa using hk) := by simp only [hx]
    simpa using e1
  have key := fun j (hj : j < 13) => h5 k hk2 j hj
  have hc : ∀ j : Nat, (frc (xs[k]'hk2))[j]? = (frc (pf N p (d[k]'hk), (xs[k]'hk2).2))[j]? := fun j => by rw [← hf]
  exact ⟨by rw [key 1 (by omega), hc]; rfl, by rw [key 2 (by omega), hc]; rfl, by rw [key 3 (by omega), hc]; rfl, by rw [key 4 (by omega), hc]; rfl⟩
end Go.Proofs.YtgiekhohhogdiaaDoor
