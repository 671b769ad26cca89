/- Contracts of package frame: encode. -/
import Derived.Test.YtgiekhohhogdiaaDoorRfK
import Derived.Test.YtgiekhohhogdiaaDoorRfL
import Derived.Deep.LoopGhost
import Derived.Deep.CutRange
namespace Go.Proofs.YtgiekhohhogdiaaDoor
open Go Go.RowKit
set_option linter.unusedVariables false
set_option linter.unusedSimpArgs false

theorem rngE_len (L : List (Int × Int)) : ∀ (i0 : Bool) (fr : Int) (s : List UInt8), rngE i0 fr L = some s → s.length ≤ 16 * L.length := by
  induction L with
  | nil => intro i0 fr s h; simp only [rngE, Option.some.injEq] at h; subst h; simp
  | cons p L ih =>
    obtain ⟨a, b⟩ := p
    intro i0 fr s h
    simp only [rngE] at h
    by_cases c : a < 0 ∨ 281474976710656 < b ∨ fr ≤ b
    · rw [if_pos c] at h; cases h
    rw [if_neg c] at h
    cases h1 : numE (if i0 = true then w64 (b - 1) else w64 (w64 (fr - b) - 1)) 4611686018427387903 with
    | none => rw [h1] at h; simp at h
    | some x =>
      cases h2 : numE (w64 (w64 (b - a) - 1)) 4611686018427387903 with
      | none => rw [h1, h2] at h; simp at h
      | some y =>
        cases h3 : rngE false a L with
        | none => rw [h1, h2, h3] at h; simp at h
        | some z =>
          rw [h1, h2, h3] at h
          simp only [Option.some.injEq] at h
          subst h
          have := numE_len h1
          have := numE_len h2
          have := ih _ _ _ h3
          simp only [List.length_append, List.length_cons]
          omega
theorem putP_len {p : Pt} {f : Fr} {a : List UInt8} (h : putP p f = some a) (hk : PtOk p) : a.length ≤ 2000 := by
  cases p with
  | int most x => have := numE_len (n := f.get x) (most := most) h; omega
  | text least most =>
    simp only [putP] at h
    split at h
    · cases h
    · cases h1 : numE f.S.length most with
      | none => rw [h1] at h; cases h
      | some x =>
        rw [h1] at h
        simp only [Option.map_some, Option.some.injEq] at h
        subst h
        have h2 := numE_len h1
        have h3 := (numE_some h1).1
        have h4 : most ≤ 1024 := hk.2
        simp only [List.length_append]
        omega
  | chal => simp only [putP] at h; split at h <;> cases h; omega
  | cidp => simp only [putP] at h; split at h <;> cases h; omega
  | uni => simp only [putP, Option.some.injEq] at h; subst h; simp
  | retire => have := numE_len (n := f.rt) (most := f.sq) h; omega
  | ranges =>
    simp only [putP] at h
    split at h
    · cases h
    · cases h1 : numE f.rg.length 16 with
      | none => rw [h1] at h; simp at h
      | some x =>
        cases h2 : rngE true 281474976710658 f.rg with
        | none => rw [h1, h2] at h; simp at h
        | some y =>
          rw [h1, h2] at h
          simp only [Option.some.injEq] at h
          subst h
          have := numE_len h1
          have := (numE_some h1).1
          have := rngE_len _ _ _ _ h2
          simp only [List.length_append]
          omega
theorem clrs_append (a b : List Pt) : ∀ g, clrs (a ++ b) g = clrs b (clrs a g) := by
  induction a with
  | nil => intro g; rfl
  | cons p a ih => intro g; exact ih _
theorem clrs_take {l : List Pt} {k : Nat} (hk : k < l.length) (g : Fr) : clrs (l.take (k + 1)) g = clrP (l[k]'hk) (clrs (l.take k) g) := by
  rw [← List.take_append_getElem hk, clrs_append]; rfl
theorem RgAt.clr {w : World} {rv : Value} {g : Fr} (h : RgAt w rv g.rg) (p : Pt) : RgAt w (clrV p rv) (clrP p g).rg := by
  cases p with
  | ranges => exact RgAt.nil w
  | int most x => show RgAt w rv (g.set x 0).rg; rw [set_rg]; exact h
  | _ => exact h
theorem clrs_rg (l : List Pt) : ∀ g : Fr, (clrs l g).rg.length ≤ g.rg.length := by
  induction l with
  | nil => intro g; exact Nat.le_refl _
  | cons p l ih =>
    intro g
    refine Nat.le_trans (ih _) ?_
    cases p with
    | int most x => show (g.set x 0).rg.length ≤ _; rw [set_rg]; exact Nat.le_refl _
    | ranges => exact Nat.zero_le _
    | _ => exact Nat.le_refl _
/-- What a look at the table finds. -/
def LookQ (k : Int) (B : Nat) (v : Value) (w : World) : Prop := match tab k with
  | some l => SlAt w B l v
  | none => v = .slice none 0 0
theorem look_tab {W w : World} {mb : Nat} (h : Parts W mb w) (k : Int) : ∃ v, (∀ ok, (Instr.lookup 74 (.map (some mb)) (.int .i64 k) ok).run Tryd.prog w = .ok (if ok then .tuple #[v, .bool (tab k).isSome] else v) w) ∧ LookQ k W.heap.size v w := by
  obtain ⟨es, c, hm, _, h1, h2⟩ := h
  cases ht : tab k with
  | none =>
    refine ⟨.slice none 0 0, fun ok => look_no hm (findNow_none k _ _ (fun e he => ?_)) ok, by unfold LookQ; rw [ht]⟩
    obtain ⟨x, l, e1, e2, _⟩ := h1 e he
    exact ⟨x, e1, fun e3 => by subst e3; rw [ht] at e2; cases e2⟩
  | some l =>
    obtain ⟨j, v, hf, hv⟩ := findNow_some k (SlAt w W.heap.size l) es.toList 0 (fun e he => by
      obtain ⟨x, l2, e1, e2, e3, e4⟩ := h1 e he
      exact ⟨x, e1, fun e5 => by subst e5; rw [ht] at e3; cases e3; exact e4⟩) (h2 k (by show (tab k).isSome = true; rw [ht]; rfl))
    exact ⟨v, fun ok => look_run hm hf ok, by unfold LookQ; rw [ht]; exact hv⟩
theorem conv_one (w : World) (x : UInt8) : (convert 46 9 (.slice (some ⟨w.heap.size, 0, none⟩) 1 1)).run Tryd.prog (w.alloc (.cells #[.int .u8 x.toNat] 5)) = .ok (.string (strB [x])) (w.alloc (.cells #[.int .u8 x.toNat] 5)) := by
  have hA := At.new w 5 #[.int .u8 x.toNat]
  have := run_convert_bytes_arg (P := Tryd.prog) (w.alloc (.cells #[.int .u8 x.toNat] 5)) 46 5 Tryd.underlying46 Tryd.underlying5 w.heap.size 0 1 1 [(x.toNat : Int)] (by simp) (fun i hi => by
    obtain rfl : i = 0 := by omega
    exact hA.cell 0 rfl) 9 Tryd.underlying9
  rw [show [(x.toNat : Int)] = [x].map fun u => (u.toNat : Int) from rfl, strOf_bytes] at this
  exact this
theorem ent_p {w : World} {B : Nat} {p : Pt} {f0 f1 f2 : Nat} {c0 c1 c2 : Array Value} (hV : PartV w B p (.func (.func f0) #[] c0) (.func (.func f1) #[] c1) (.func (.func f2) #[] c2)) : Ent f0 ∧ Ent f1 ∧ Ent f2 := by
  cases p with
  | int most x =>
    obtain ⟨fk, q1, q2, _, _, _, h0, h1, h2, _⟩ := hV
    simp only [fnv, Value.func.injEq, Fn.func.injEq, true_and] at h0 h1 h2
    obtain ⟨rfl, rfl⟩ := h0
    obtain ⟨rfl, rfl⟩ := h1
    obtain ⟨rfl, rfl⟩ := h2
    exact ⟨fun args w => MuLone.run_callFunc_enter Tryd.func62 (by kernel_rfl) rfl args w, fun args w => MuLone.run_callFunc_enter Tryd.func64 (by kernel_rfl) rfl args w, fun args w => MuLone.run_callFunc_enter Tryd.func66 (by kernel_rfl) rfl args w⟩
  | text least most =>
    obtain ⟨q1, q2, _, _, h0, h1, h2, _⟩ := hV
    simp only [fnv, Value.func.injEq, Fn.func.injEq, true_and] at h0 h1 h2
    obtain ⟨rfl, rfl⟩ := h0
    obtain ⟨rfl, rfl⟩ := h1
    obtain ⟨rfl, rfl⟩ := h2
    exact ⟨fun args w => MuLone.run_callFunc_enter Tryd.func67 (by kernel_rfl) rfl args w, fun args w => MuLone.run_callFunc_enter Tryd.func68 (by kernel_rfl) rfl args w, fun args w => MuLone.run_callFunc_enter Tryd.func70 (by kernel_rfl) rfl args w⟩
  | chal =>
    obtain ⟨q1, q2, _, _, h0, h1, h2, _⟩ := hV
    simp only [fnv, Value.func.injEq, Fn.func.injEq, true_and] at h0 h1 h2
    obtain ⟨rfl, rfl⟩ := h0
    obtain ⟨rfl, rfl⟩ := h1
    obtain ⟨rfl, rfl⟩ := h2
    exact ⟨fun args w => MuLone.run_callFunc_enter Tryd.func71 (by kernel_rfl) rfl args w, fun args w => MuLone.run_callFunc_enter Tryd.func72 (by kernel_rfl) rfl args w, fun args w => MuLone.run_callFunc_enter Tryd.func73 (by kernel_rfl) rfl args w⟩
  | cidp =>
    obtain ⟨q1, q2, _, _, h0, h1, h2, _⟩ := hV
    simp only [fnv, Value.func.injEq, Fn.func.injEq, true_and] at h0 h1 h2
    obtain ⟨rfl, rfl⟩ := h0
    obtain ⟨rfl, rfl⟩ := h1
    obtain ⟨rfl, rfl⟩ := h2
    exact ⟨fun args w => MuLone.run_callFunc_enter Tryd.func71 (by kernel_rfl) rfl args w, fun args w => MuLone.run_callFunc_enter Tryd.func72 (by kernel_rfl) rfl args w, fun args w => MuLone.run_callFunc_enter Tryd.func73 (by kernel_rfl) rfl args w⟩
  | uni =>
    obtain ⟨h0, h1, h2⟩ := hV
    simp only [fnv, Value.func.injEq, Fn.func.injEq, true_and] at h0 h1 h2
    obtain ⟨rfl, rfl⟩ := h0
    obtain ⟨rfl, rfl⟩ := h1
    obtain ⟨rfl, rfl⟩ := h2
    exact ⟨fun args w => MuLone.run_callFunc_enter Tryd.func74 (by kernel_rfl) rfl args w, fun args w => MuLone.run_callFunc_enter Tryd.func75 (by kernel_rfl) rfl args w, fun args w => MuLone.run_callFunc_enter Tryd.func76 (by kernel_rfl) rfl args w⟩
  | retire =>
    obtain ⟨q1, _, h0, h1, h2, _⟩ := hV
    simp only [fnv, Value.func.injEq, Fn.func.injEq, true_and] at h0 h1 h2
    obtain ⟨rfl, rfl⟩ := h0
    obtain ⟨rfl, rfl⟩ := h1
    obtain ⟨rfl, rfl⟩ := h2
    exact ⟨fun args w => MuLone.run_callFunc_enter Tryd.func78 (by kernel_rfl) rfl args w, fun args w => MuLone.run_callFunc_enter Tryd.func64 (by kernel_rfl) rfl args w, fun args w => MuLone.run_callFunc_enter Tryd.func66 (by kernel_rfl) rfl args w⟩
  | ranges =>
    obtain ⟨h0, h1, h2⟩ := hV
    simp only [fnv, Value.func.injEq, Fn.func.injEq, true_and] at h0 h1 h2
    obtain ⟨rfl, rfl⟩ := h0
    obtain ⟨rfl, rfl⟩ := h1
    obtain ⟨rfl, rfl⟩ := h2
    exact ⟨fun args w => MuLone.run_callFunc_enter Tryd.func49 (by kernel_rfl) rfl args w, fun args w => MuLone.run_callFunc_enter Tryd.func50 (by kernel_rfl) rfl args w, fun args w => MuLone.run_callFunc_enter Tryd.func51 (by kernel_rfl) rfl args w⟩
def EncRel (W2 : World) (rb : Nat) (l : List Pt) (f : Fr) (x : UInt8) (gk : Nat) (sv ix : Value) (wr : World) : Prop :=
  ∃ (k : Nat) (acc : List UInt8) (rv : Value), gk = l.length - k ∧ k ≤ l.length ∧ ix = .int .i64 k ∧ sv = .string (strB (x :: acc)) ∧ acc.length ≤ 2000 * k ∧
    puts l f = (puts (l.drop k) f).map (acc ++ ·) ∧ FrAt wr rb (clrs (l.take k) { f with fin := false }) rv ∧ RgAt W2 rv (clrs (l.take k) { f with fin := false }).rg ∧ Only [] W2 wr
set_option maxRecDepth 100000 in
set_option maxHeartbeats 4000000 in
theorem enc_a (f : Fr) (rv : Value) (w : World) (hf : FrWf f) (hty : -9223372036854775808 ≤ f.ty ∧ f.ty ≤ 9223372036854775807) (hR : RgAt w rv f.rg) (hsz : f.rg.length ≤ 4611686018427387903) (ht : tab f.ty = none) :
    Calls Tryd.prog 26 #[.agg (frC f rv)] w fun e w' => e = strE (encF f) ∧ Only [] w w' := by
  have hE : encF f = none := by unfold encF; rw [ht]
  rw [hE]
  simp only [strE, MAL]
  clear hE
  have hA1 := At.new w 33 (frC f rv)
  have ho1 := (Only.refl [] w).alloc (.cells (frC f rv) 33)
  go_enter Tryd.func26, Tryd.ntmps26
  go_upto_region 1 with fail
  generalize hb : w.heap.size = b at *
  generalize w.alloc (.cells (frC f rv) 33) = w1 at *
  have c0 : w1.drew.cell? ⟨b, 0, none⟩ = some (.int .i64 f.ty) := hA1.cell 0 rfl
  have HA1 : Hid (At w1.drew b 33 (frC f rv)) := Lib.hid hA1
  have HO1 : Hid (Only [] w w1.drew) := Lib.hid ho1.drew
  clear hA1 ho1
  refine wp_region_held_drew (S := fun w' => w'.cell? ⟨b, 0, none⟩ = some (.int .i64 f.ty)) (by kernel_rfl) (by exact c0) (fun hHeld => ?_)
  refine wpAnyH_take (i := 1) (v := ?_) rfl (by kernel_rfl) (by kernel_rfl) (by kernel_rfl) (fun _ _ _ h => h) (Or.inl ⟨by kernel_rfl, ?_⟩) (by assumption) ?_
  rotate_left
  · intro wS hSw
    try dsimp only at hSw
    go_simp
    try with_reducible rfl
  simp only [List.getElem_toArray, List.getElem_cons_succ, List.getElem_cons_zero, Act.put, List.setIfInBounds_toArray, List.set_cons_zero, List.set_cons_succ]
  refine wpAnyH_take (i := 2) (v := ?_) rfl (by kernel_rfl) (by kernel_rfl) (by kernel_rfl) (fun _ _ _ h => h) (Or.inl ⟨by kernel_rfl, ?_⟩) (by assumption) ?_
  rotate_left
  · intro wS hSw
    try dsimp only at hSw
    go_simp
    try with_reducible rfl
  simp only [List.getElem_toArray, List.getElem_cons_succ, List.getElem_cons_zero, Act.put, List.setIfInBounds_toArray, List.set_cons_zero, List.set_cons_succ]
  refine wpAnyH_ready (rs := [0]) (by kernel_rfl) (by simp) ?_
  refine AllReadyH.cons rfl (fun K hK => ?_) AllReadyH.nil
  go_simp
  refine (parts_c _).mono ?_
  rintro e w2 ⟨mb, rfl, hP, ho2⟩
  obtain ⟨v, hlk0, hq⟩ := look_tab hP f.ty
  have hlk := hlk0 true
  simp only [if_true, ht, Option.isSome_none] at hlk
  clear hlk0
  unfold LookQ at hq
  rw [ht] at hq
  subst hq
  have HP := Lib.hid hP
  have HO2 := Lib.hid ho2
  have d0 := (ho2.cell (p := ⟨b, 0, none⟩) (World.block_lt_of_cell? _ _ c0) (by simp)).trans c0
  clear hP ho2
  refine hK.out _ _ (by exact d0) (fun hHeld' => ?_)
  clear hHeld hK K
  have hHeld := hHeld'
  clear hHeld'
  refine wpAnyH_ready (rs := [3]) (by kernel_rfl) (by simp) ?_
  refine AllReadyH.cons rfl (fun K hK => ?_) AllReadyH.nil
  go_simp
  refine hK.out _ _ (by exact hHeld) (fun hHeld' => ?_)
  clear hHeld hK K hlk
  have hHeld := hHeld'
  clear hHeld'
  refine wpAnyH_take (i := 4) (v := ?_) rfl (by kernel_rfl) (by kernel_rfl) (by kernel_rfl) (fun _ _ _ h => h) (Or.inl ⟨by kernel_rfl, ?_⟩) (by assumption) ?_
  rotate_left
  · intro wS hSw
    try dsimp only at hSw
    go_simp
    try with_reducible rfl
  simp only [List.getElem_toArray, List.getElem_cons_succ, List.getElem_cons_zero, Act.put, List.setIfInBounds_toArray, List.set_cons_zero, List.set_cons_succ]
  refine wpAnyH_take (i := 5) (v := ?_) rfl (by kernel_rfl) (by kernel_rfl) (by kernel_rfl) (fun _ _ _ h => h) (Or.inl ⟨by kernel_rfl, ?_⟩) (by assumption) ?_
  rotate_left
  · intro wS hSw
    try dsimp only at hSw
    go_simp
    try with_reducible rfl
  simp only [List.getElem_toArray, List.getElem_cons_succ, List.getElem_cons_zero, Act.put, List.setIfInBounds_toArray, List.set_cons_zero, List.set_cons_succ]
  refine wpAnyH_take (i := 6) (v := ?_) rfl (by kernel_rfl) (by kernel_rfl) (by kernel_rfl) (fun _ _ _ h => h) (Or.inl ⟨by kernel_rfl, ?_⟩) (by assumption) ?_
  rotate_left
  · intro wS hSw
    try dsimp only at hSw
    go_simp
    try with_reducible rfl
  simp only [List.getElem_toArray, List.getElem_cons_succ, List.getElem_cons_zero, Act.put, List.setIfInBounds_toArray, List.set_cons_zero, List.set_cons_succ]
  refine wpAnyH_take (i := 7) (v := ?_) rfl (by kernel_rfl) (by kernel_rfl) (by kernel_rfl) (fun _ _ _ h => h) (Or.inl ⟨by kernel_rfl, ?_⟩) (by assumption) ?_
  rotate_left
  · intro wS hSw
    try dsimp only at hSw
    go_simp
    try with_reducible rfl
  simp only [List.getElem_toArray, List.getElem_cons_succ, List.getElem_cons_zero, Act.put, List.setIfInBounds_toArray, List.set_cons_zero, List.set_cons_succ]
  refine wpAnyH_take (i := 8) (v := ?_) rfl (by kernel_rfl) (by kernel_rfl) (by kernel_rfl) (fun _ _ _ h => h) (Or.inl ⟨by kernel_rfl, ?_⟩) (by assumption) ?_
  rotate_left
  · intro wS hSw
    try dsimp only at hSw
    go_simp
    try with_reducible rfl
  simp only [List.getElem_toArray, List.getElem_cons_succ, List.getElem_cons_zero, Act.put, List.setIfInBounds_toArray, List.set_cons_zero, List.set_cons_succ]
  refine wpAnyH_done (by kernel_rfl) ?_ _
  clear d0 c0 hHeld
  have hA2 : At w2 b 33 (frC f rv) := HA1.out.keep HO2.out (by simp)
  have c0 : w2.cell? ⟨b, 0, none⟩ = some (.int .i64 f.ty) := hA2.cell 0 rfl
  have c4 : w2.cell? ⟨b, 4, none⟩ = some (.bool f.fin) := hA2.cell 4 rfl
  have hbl := hA2.lt
  have HA2 := Lib.hid hA2
  clear hA2 HA1
  go_wp2_with fail
  exact ⟨rfl, rfl, HO1.out.trans HO2.out⟩
set_option maxRecDepth 100000 in
set_option maxHeartbeats 4000000 in
theorem enc_b (f : Fr) (rv : Value) (w : World) (hf : FrWf f) (hty : -9223372036854775808 ≤ f.ty ∧ f.ty ≤ 9223372036854775807) (hR : RgAt w rv f.rg) (hsz : f.rg.length ≤ 4611686018427387903) {l : List Pt} (ht : tab f.ty = some l) (hfin : f.fin = true) (h8 : f.ty ≠ 8) :
    Calls Tryd.prog 26 #[.agg (frC f rv)] w fun e w' => e = strE (encF f) ∧ Only [] w w' := by
  have hE : encF f = none := by unfold encF; rw [ht]; simp only; rw [if_pos ⟨hfin, h8⟩]
  rw [hE]
  simp only [strE, MAL]
  clear hE
  have hA1 := At.new w 33 (frC f rv)
  have ho1 := (Only.refl [] w).alloc (.cells (frC f rv) 33)
  go_enter Tryd.func26, Tryd.ntmps26
  go_upto_region 1 with fail
  generalize hb : w.heap.size = b at *
  generalize w.alloc (.cells (frC f rv) 33) = w1 at *
  have c0 : w1.drew.cell? ⟨b, 0, none⟩ = some (.int .i64 f.ty) := hA1.cell 0 rfl
  have HA1 : Hid (At w1.drew b 33 (frC f rv)) := Lib.hid hA1
  have HO1 : Hid (Only [] w w1.drew) := Lib.hid ho1.drew
  clear hA1 ho1
  refine wp_region_held_drew (S := fun w' => w'.cell? ⟨b, 0, none⟩ = some (.int .i64 f.ty)) (by kernel_rfl) (by exact c0) (fun hHeld => ?_)
  refine wpAnyH_take (i := 1) (v := ?_) rfl (by kernel_rfl) (by kernel_rfl) (by kernel_rfl) (fun _ _ _ h => h) (Or.inl ⟨by kernel_rfl, ?_⟩) (by assumption) ?_
  rotate_left
  · intro wS hSw
    try dsimp only at hSw
    go_simp
    try with_reducible rfl
  simp only [List.getElem_toArray, List.getElem_cons_succ, List.getElem_cons_zero, Act.put, List.setIfInBounds_toArray, List.set_cons_zero, List.set_cons_succ]
  refine wpAnyH_take (i := 2) (v := ?_) rfl (by kernel_rfl) (by kernel_rfl) (by kernel_rfl) (fun _ _ _ h => h) (Or.inl ⟨by kernel_rfl, ?_⟩) (by assumption) ?_
  rotate_left
  · intro wS hSw
    try dsimp only at hSw
    go_simp
    try with_reducible rfl
  simp only [List.getElem_toArray, List.getElem_cons_succ, List.getElem_cons_zero, Act.put, List.setIfInBounds_toArray, List.set_cons_zero, List.set_cons_succ]
  refine wpAnyH_ready (rs := [0]) (by kernel_rfl) (by simp) ?_
  refine AllReadyH.cons rfl (fun K hK => ?_) AllReadyH.nil
  go_simp
  refine (parts_c _).mono ?_
  rintro e w2 ⟨mb, rfl, hP, ho2⟩
  obtain ⟨v, hlk0, hq⟩ := look_tab hP f.ty
  have hlk := hlk0 true
  simp only [if_true, ht, Option.isSome_some] at hlk
  clear hlk0
  unfold LookQ at hq
  rw [ht] at hq
  obtain ⟨g, cs, rfl, hcg, hcs⟩ := hq
  skip
  have HP := Lib.hid hP
  have HO2 := Lib.hid ho2
  have d0 := (ho2.cell (p := ⟨b, 0, none⟩) (World.block_lt_of_cell? _ _ c0) (by simp)).trans c0
  clear hP ho2
  refine hK.out _ _ (by exact d0) (fun hHeld' => ?_)
  clear hHeld hK K
  have hHeld := hHeld'
  clear hHeld'
  refine wpAnyH_ready (rs := [3]) (by kernel_rfl) (by simp) ?_
  refine AllReadyH.cons rfl (fun K hK => ?_) AllReadyH.nil
  go_simp
  refine hK.out _ _ (by exact hHeld) (fun hHeld' => ?_)
  clear hHeld hK K hlk
  have hHeld := hHeld'
  clear hHeld'
  refine wpAnyH_take (i := 4) (v := ?_) rfl (by kernel_rfl) (by kernel_rfl) (by kernel_rfl) (fun _ _ _ h => h) (Or.inl ⟨by kernel_rfl, ?_⟩) (by assumption) ?_
  rotate_left
  · intro wS hSw
    try dsimp only at hSw
    go_simp
    try with_reducible rfl
  simp only [List.getElem_toArray, List.getElem_cons_succ, List.getElem_cons_zero, Act.put, List.setIfInBounds_toArray, List.set_cons_zero, List.set_cons_succ]
  refine wpAnyH_take (i := 5) (v := ?_) rfl (by kernel_rfl) (by kernel_rfl) (by kernel_rfl) (fun _ _ _ h => h) (Or.inl ⟨by kernel_rfl, ?_⟩) (by assumption) ?_
  rotate_left
  · intro wS hSw
    try dsimp only at hSw
    go_simp
    try with_reducible rfl
  simp only [List.getElem_toArray, List.getElem_cons_succ, List.getElem_cons_zero, Act.put, List.setIfInBounds_toArray, List.set_cons_zero, List.set_cons_succ]
  refine wpAnyH_take (i := 6) (v := ?_) rfl (by kernel_rfl) (by kernel_rfl) (by kernel_rfl) (fun _ _ _ h => h) (Or.inl ⟨by kernel_rfl, ?_⟩) (by assumption) ?_
  rotate_left
  · intro wS hSw
    try dsimp only at hSw
    go_simp
    try with_reducible rfl
  simp only [List.getElem_toArray, List.getElem_cons_succ, List.getElem_cons_zero, Act.put, List.setIfInBounds_toArray, List.set_cons_zero, List.set_cons_succ]
  refine wpAnyH_take (i := 7) (v := ?_) rfl (by kernel_rfl) (by kernel_rfl) (by kernel_rfl) (fun _ _ _ h => h) (Or.inl ⟨by kernel_rfl, ?_⟩) (by assumption) ?_
  rotate_left
  · intro wS hSw
    try dsimp only at hSw
    go_simp
    try with_reducible rfl
  simp only [List.getElem_toArray, List.getElem_cons_succ, List.getElem_cons_zero, Act.put, List.setIfInBounds_toArray, List.set_cons_zero, List.set_cons_succ]
  refine wpAnyH_take (i := 8) (v := ?_) rfl (by kernel_rfl) (by kernel_rfl) (by kernel_rfl) (fun _ _ _ h => h) (Or.inl ⟨by kernel_rfl, ?_⟩) (by assumption) ?_
  rotate_left
  · intro wS hSw
    try dsimp only at hSw
    go_simp
    try with_reducible rfl
  simp only [List.getElem_toArray, List.getElem_cons_succ, List.getElem_cons_zero, Act.put, List.setIfInBounds_toArray, List.set_cons_zero, List.set_cons_succ]
  refine wpAnyH_done (by kernel_rfl) ?_ _
  clear d0 c0 hHeld
  have hA2 : At w2 b 33 (frC f rv) := HA1.out.keep HO2.out (by simp)
  have c0 : w2.cell? ⟨b, 0, none⟩ = some (.int .i64 f.ty) := hA2.cell 0 rfl
  have c4 : w2.cell? ⟨b, 4, none⟩ = some (.bool f.fin) := hA2.cell 4 rfl
  have hbl := hA2.lt
  have HA2 := Lib.hid hA2
  clear hA2 HA1
  rw [hfin] at c4
  have h8' : (f.ty == 8) = false := beq_eq_false_iff_ne.2 h8
  clear hcg
  go_wp2_with fail
  exact ⟨rfl, rfl, HO1.out.trans HO2.out⟩
set_option maxRecDepth 100000 in
set_option maxHeartbeats 4000000 in
theorem enc_c1 (f : Fr) (rv : Value) (w : World) (hf : FrWf f) (hty : -9223372036854775808 ≤ f.ty ∧ f.ty ≤ 9223372036854775807) (hR : RgAt w rv f.rg) (hsz : f.rg.length ≤ 4611686018427387903) {l : List Pt} (ht : tab f.ty = some l) (hfin : f.fin = true) (h8 : f.ty = 8) :
    Calls Tryd.prog 26 #[.agg (frC f rv)] w fun e w' => e = strE (encF f) ∧ Only [] w w' := by
  have H8 := Lib.hid h8
  have hx9 : byt (f.ty.toNat + if f.fin = true then 1 else 0) = 9 := by rw [hfin, h8]; rfl
  clear h8
  obtain ⟨x, hx⟩ : ∃ x, (9 : UInt8) = x := ⟨_, rfl⟩
  obtain ⟨t0, t1, t9, _, _, t3⟩ := tab_cases ht
  have hbad : ¬ (f.fin = true ∧ f.ty ≠ 8) := fun h => h.2 H8.out
  have HE0 : Hid (puts l f = none → encF f = none) := Lib.hid (fun h => by unfold encF; rw [ht]; simp only; rw [if_neg hbad, h])
  have HE1 : Hid (∀ s, puts l f = some s → clrs l { f with fin := false } = Fr.zero f.ty → encF f = some (x :: s)) := Lib.hid (fun s h h2 => by
    have h3 := encF_mk ht hbad h h2
    rw [h3]
    rw [hx9, hx])
  have HE2 : Hid (∀ s, puts l f = some s → ¬ clrs l { f with fin := false } = Fr.zero f.ty → encF f = none) := Lib.hid (fun s h h2 => by unfold encF; rw [ht]; simp only; rw [if_neg hbad, h]; simp only; rw [if_neg h2])
  have hxn : IntKind.u8.wrap 9 = (x.toNat : Int) := by
    rw [← hx]
    rfl
  subst hx
  clear hbad hx9
  have HR := Lib.hid hR
  obtain ⟨ra, rcap, rfl, hrr⟩ := hR
  clear hrr
  have hA1 := At.new w 33 (frC f (.slice ra f.rg.length rcap))
  have ho1 := (Only.refl [] w).alloc (.cells (frC f (.slice ra f.rg.length rcap)) 33)
  go_enter Tryd.func26, Tryd.ntmps26
  go_upto_region 1 with fail
  generalize hb : w.heap.size = b at *
  generalize w.alloc (.cells (frC f (.slice ra f.rg.length rcap)) 33) = w1 at *
  have c0 : w1.drew.cell? ⟨b, 0, none⟩ = some (.int .i64 f.ty) := hA1.cell 0 rfl
  have HA1 : Hid (At w1.drew b 33 (frC f (.slice ra f.rg.length rcap))) := Lib.hid hA1
  have HO1 : Hid (Only [] w w1.drew) := Lib.hid ho1.drew
  clear hA1 ho1
  refine wp_region_held_drew (S := fun w' => w'.cell? ⟨b, 0, none⟩ = some (.int .i64 f.ty)) (by kernel_rfl) (by exact c0) (fun hHeld => ?_)
  refine wpAnyH_take (i := 1) (v := ?_) rfl (by kernel_rfl) (by kernel_rfl) (by kernel_rfl) (fun _ _ _ h => h) (Or.inl ⟨by kernel_rfl, ?_⟩) (by assumption) ?_
  rotate_left
  · intro wS hSw
    try dsimp only at hSw
    go_simp
    try with_reducible rfl
  simp only [List.getElem_toArray, List.getElem_cons_succ, List.getElem_cons_zero, Act.put, List.setIfInBounds_toArray, List.set_cons_zero, List.set_cons_succ]
  refine wpAnyH_take (i := 2) (v := ?_) rfl (by kernel_rfl) (by kernel_rfl) (by kernel_rfl) (fun _ _ _ h => h) (Or.inl ⟨by kernel_rfl, ?_⟩) (by assumption) ?_
  rotate_left
  · intro wS hSw
    try dsimp only at hSw
    go_simp
    try with_reducible rfl
  simp only [List.getElem_toArray, List.getElem_cons_succ, List.getElem_cons_zero, Act.put, List.setIfInBounds_toArray, List.set_cons_zero, List.set_cons_succ]
  refine wpAnyH_ready (rs := [0]) (by kernel_rfl) (by simp) ?_
  refine AllReadyH.cons rfl (fun K hK => ?_) AllReadyH.nil
  go_simp
  refine (parts_c _).mono ?_
  rintro e w2 ⟨mb, rfl, hP, ho2⟩
  obtain ⟨v, hlk0, hq⟩ := look_tab hP f.ty
  have hlk := hlk0 true
  simp only [if_true, ht, Option.isSome_some] at hlk
  clear hlk0
  unfold LookQ at hq
  rw [ht] at hq
  obtain ⟨g, cs, rfl, hcg, hcs⟩ := hq
  skip
  have HP := Lib.hid hP
  have HO2 := Lib.hid ho2
  have d0 := (ho2.cell (p := ⟨b, 0, none⟩) (World.block_lt_of_cell? _ _ c0) (by simp)).trans c0
  clear hP ho2
  refine hK.out _ _ (by exact d0) (fun hHeld' => ?_)
  clear hHeld hK K
  have hHeld := hHeld'
  clear hHeld'
  refine wpAnyH_ready (rs := [3]) (by kernel_rfl) (by simp) ?_
  refine AllReadyH.cons rfl (fun K hK => ?_) AllReadyH.nil
  go_simp
  refine hK.out _ _ (by exact hHeld) (fun hHeld' => ?_)
  clear hHeld hK K hlk
  have hHeld := hHeld'
  clear hHeld'
  refine wpAnyH_take (i := 4) (v := ?_) rfl (by kernel_rfl) (by kernel_rfl) (by kernel_rfl) (fun _ _ _ h => h) (Or.inl ⟨by kernel_rfl, ?_⟩) (by assumption) ?_
  rotate_left
  · intro wS hSw
    try dsimp only at hSw
    go_simp
    try with_reducible rfl
  simp only [List.getElem_toArray, List.getElem_cons_succ, List.getElem_cons_zero, Act.put, List.setIfInBounds_toArray, List.set_cons_zero, List.set_cons_succ]
  refine wpAnyH_take (i := 5) (v := ?_) rfl (by kernel_rfl) (by kernel_rfl) (by kernel_rfl) (fun _ _ _ h => h) (Or.inl ⟨by kernel_rfl, ?_⟩) (by assumption) ?_
  rotate_left
  · intro wS hSw
    try dsimp only at hSw
    go_simp
    try with_reducible rfl
  simp only [List.getElem_toArray, List.getElem_cons_succ, List.getElem_cons_zero, Act.put, List.setIfInBounds_toArray, List.set_cons_zero, List.set_cons_succ]
  refine wpAnyH_take (i := 6) (v := ?_) rfl (by kernel_rfl) (by kernel_rfl) (by kernel_rfl) (fun _ _ _ h => h) (Or.inl ⟨by kernel_rfl, ?_⟩) (by assumption) ?_
  rotate_left
  · intro wS hSw
    try dsimp only at hSw
    go_simp
    try with_reducible rfl
  simp only [List.getElem_toArray, List.getElem_cons_succ, List.getElem_cons_zero, Act.put, List.setIfInBounds_toArray, List.set_cons_zero, List.set_cons_succ]
  refine wpAnyH_take (i := 7) (v := ?_) rfl (by kernel_rfl) (by kernel_rfl) (by kernel_rfl) (fun _ _ _ h => h) (Or.inl ⟨by kernel_rfl, ?_⟩) (by assumption) ?_
  rotate_left
  · intro wS hSw
    try dsimp only at hSw
    go_simp
    try with_reducible rfl
  simp only [List.getElem_toArray, List.getElem_cons_succ, List.getElem_cons_zero, Act.put, List.setIfInBounds_toArray, List.set_cons_zero, List.set_cons_succ]
  refine wpAnyH_take (i := 8) (v := ?_) rfl (by kernel_rfl) (by kernel_rfl) (by kernel_rfl) (fun _ _ _ h => h) (Or.inl ⟨by kernel_rfl, ?_⟩) (by assumption) ?_
  rotate_left
  · intro wS hSw
    try dsimp only at hSw
    go_simp
    try with_reducible rfl
  simp only [List.getElem_toArray, List.getElem_cons_succ, List.getElem_cons_zero, Act.put, List.setIfInBounds_toArray, List.set_cons_zero, List.set_cons_succ]
  refine wpAnyH_done (by kernel_rfl) ?_ _
  clear d0 c0 hHeld
  have hA2 : At w2 b 33 (frC f (.slice ra f.rg.length rcap)) := HA1.out.keep HO2.out (by simp)
  have c0 : w2.cell? ⟨b, 0, none⟩ = some (.int .i64 f.ty) := hA2.cell 0 rfl
  have c4 : w2.cell? ⟨b, 4, none⟩ = some (.bool f.fin) := hA2.cell 4 rfl
  have hbl := hA2.lt
  have HA2 := Lib.hid hA2
  clear hA2 HA1
  rw [hfin] at c4
  rw [H8.out] at c0
  have c1 : w2.cell? ⟨b, 1, none⟩ = some (.int .i64 f.st) := HA2.out.cell 1 rfl
  have c2 : w2.cell? ⟨b, 2, none⟩ = some (.int .i64 f.off) := HA2.out.cell 2 rfl
  have c3 : w2.cell? ⟨b, 3, none⟩ = some (.string (strB f.S)) := HA2.out.cell 3 rfl
  have c5 : w2.cell? ⟨b, 5, none⟩ = some (.int .i64 f.mx) := HA2.out.cell 5 rfl
  have c6 : w2.cell? ⟨b, 6, none⟩ = some (.int .i64 f.cd) := HA2.out.cell 6 rfl
  have c7 : w2.cell? ⟨b, 7, none⟩ = some (.bool f.uni) := HA2.out.cell 7 rfl
  have c8 : w2.cell? ⟨b, 8, none⟩ = some (.int .i64 f.dl) := HA2.out.cell 8 rfl
  have c9 : w2.cell? ⟨b, 9, none⟩ = some (.slice ra f.rg.length rcap) := HA2.out.cell 9 rfl
  have c10 : w2.cell? ⟨b, 10, none⟩ = some (.int .i64 f.sq) := HA2.out.cell 10 rfl
  have c11 : w2.cell? ⟨b, 11, none⟩ = some (.int .i64 f.rt) := HA2.out.cell 11 rfl
  have c12 : w2.cell? ⟨b, 12, none⟩ = some (.string (strB f.cid)) := HA2.out.cell 12 rfl
  have HCG := Lib.hid hcg
  have HCS := Lib.hid hcs
  clear hcg hcs
  go_upto_region 8 with fail
  clear c0 c1 c2 c3 c4 c5 c6 c7 c8 c9 c10 c11 c12
  have hA3 := At.new w2 33 #[.int .i64 8, .int .i64 f.st, .int .i64 f.off, .string (strB f.S), .bool true, .int .i64 f.mx, .int .i64 f.cd, .bool f.uni, .int .i64 f.dl, .slice ra f.rg.length rcap, .int .i64 f.sq, .int .i64 f.rt, .string (strB f.cid)]
  have hO3 := (Only.refl [] w2).alloc (.cells #[.int .i64 8, .int .i64 f.st, .int .i64 f.off, .string (strB f.S), .bool true, .int .i64 f.mx, .int .i64 f.cd, .bool f.uni, .int .i64 f.dl, .slice ra f.rg.length rcap, .int .i64 f.sq, .int .i64 f.rt, .string (strB f.cid)] 33)
  generalize w2.alloc (.cells #[.int .i64 8, .int .i64 f.st, .int .i64 f.off, .string (strB f.S), .bool true, .int .i64 f.mx, .int .i64 f.cd, .bool f.uni, .int .i64 f.dl, .slice ra f.rg.length rcap, .int .i64 f.sq, .int .i64 f.rt, .string (strB f.cid)] 33) = w3 at *
  obtain ⟨rb, hrb⟩ : ∃ rb, w2.heap.size = rb := ⟨_, rfl⟩
  rw [hrb] at hA3 ⊢
  have hfr := hA3.free 4
  have hcc : ∃ u, w3.cell? ⟨rb, 4, none⟩ = some u := ⟨_, hA3.cell 4 rfl⟩
  obtain ⟨u4, hcc⟩ := hcc
  have HA3 : Hid (At w3 rb 33 #[.int .i64 8, .int .i64 f.st, .int .i64 f.off, .string (strB f.S), .bool true, .int .i64 f.mx, .int .i64 f.cd, .bool f.uni, .int .i64 f.dl, .slice ra f.rg.length rcap, .int .i64 f.sq, .int .i64 f.rt, .string (strB f.cid)]) := Lib.hid hA3
  have HO3 := Lib.hid hO3
  clear hA3 hO3
  go_upto_region 9 with fail
  have hA4 : At (w3.setCell ⟨rb, 4, none⟩ (.bool false)) rb 33 (frC { f with fin := false } (.slice ra f.rg.length rcap)) := HA3.out.set 4 _ (by show _ = frC _ _; unfold frC; rw [H8.out]; rfl)
  have hO4 : Only [] w2 (w3.setCell ⟨rb, 4, none⟩ (.bool false)) := HO3.out.putn (by omega) _
  generalize w3.setCell ⟨rb, 4, none⟩ (.bool false) = w4 at hA4 hO4 ⊢
  have HA4 := Lib.hid hA4
  have HO4 := Lib.hid hO4
  have hcv : (convert 46 9 (.slice (some ⟨w4.heap.size, 0, none⟩) 1 1)).run Tryd.prog (w4.alloc (.cells #[.int .u8 9] 5)) = .ok (.string (strB [9])) (w4.alloc (.cells #[.int .u8 9] 5)) := conv_one w4 9
  clear hcc hfr HA3 HO3 hA4 hO4 hxn
  go_upto_region 10 with fail
  have hA5 : FrAt (w4.alloc (.cells #[.int .u8 9] 5)) rb { f with fin := false } (.slice ra f.rg.length rcap) := HA4.out.alloc _
  have hO5 := HO4.out.alloc (.cells #[.int .u8 9] 5)
  generalize w4.alloc (.cells #[.int .u8 9] 5) = w5 at hA5 hO5 ⊢
  have HA5 := Lib.hid hA5
  have HO5 := Lib.hid hO5
  clear hcv HA4 HO4 hA5 hO5 
  have HOw := Lib.hid (HO1.out.trans HO2.out)
  clear HO1 HO2 HP
  have HRb := Lib.hid (HR.out.keep HOw.out)
  have HO2b := Lib.hid (Only.refl [] w2)
  clear HR
  have hl64 : ((l.length : Nat) : Int) ≤ 3 := by omega
  go_wp2_with fail
  go_loopg [7, 44] l.length (fun gk sv ix wr => EncRel w2 rb l f 9 gk sv ix wr)
  case atStart => exact ⟨0, [], _, by simp, by omega, rfl, rfl, by simp, by simp, HA5.out, HRb.out.keep HO2b.out, HO5.out⟩
  case round =>
    obtain ⟨k, acc, rv, rfl, hk, rfl, rfl, hacc, hput0, hAr, hRr, hO⟩ := hrel
    have HAr := Lib.hid hAr
    have HRr := Lib.hid hRr
    have HP0 := Lib.hid hput0
    have HO := Lib.hid hO
    clear hAr hput0 HA5 HO5
    have hsx : (strB (9 :: acc)).size = acc.length + 1 := strB_size _
    by_cases hlt : k < l.length
    · have hlt' : (k : Int) < l.length := by omega
      have hk4 : k ≤ 3 := by omega
      have f9 : IntKind.i64.wrap ((k : Int) + 1) = ((k + 1 : Nat) : Int) := by rw [show (k : Int) + 1 = ((k + 1 : Nat) : Int) by omega]; exact IntWalk.i64_in _ (by omega)
      obtain ⟨f0, d0, f1, d1, f2, d2, q0, q1, q2, hV⟩ := HCS.out k hlt
      obtain ⟨E0, E1, E2⟩ := ent_p hV
      have hgr : At wr g 80 cs := At.keep (show At w2 g 80 cs from HCG.out) hO (by simp)
      have p0 := hgr.cell (k * 3) q0
      have p1 := hgr.cell (k * 3 + 1) q1
      have p2 := hgr.cell (k * 3 + 2) q2
      obtain ⟨p, hp⟩ : ∃ p, l[k]'hlt = p := ⟨_, rfl⟩
      have hpk : PtOk p := tab_ok ht p (by rw [← hp]; exact List.getElem_mem hlt)
      rw [hp] at hV
      have HD : Hid (puts (l.drop k) f = match putP p f, puts (l.drop (k + 1)) f with
          | some a, some b => some (a ++ b)
          | _, _ => none) := Lib.hid (by rw [List.drop_eq_getElem_cons hlt, hp]; rfl)
      have HT : Hid (clrs (l.take (k + 1)) { f with fin := false } = clrP p (clrs (l.take k) { f with fin := false })) := Lib.hid (by rw [clrs_take hlt, hp])
      have hput := fun ww (ho : Only [] w2 ww) => put_p (w := ww) (b := b) (rv := .slice ra f.rg.length rcap) (hV.keep (S := []) ho (by simp)) hpk (HA2.out.keep ho (by simp)) hf (HRb.out.keep ho) hsz
      have hclr := fun ww gg rr (ho : Only [] w2 ww) (hA : FrAt ww rb gg rr) => clr_p (w := ww) (b := rb) (hV.keep (S := []) ho (by simp)) hA
      have e0 := fun (W : World) => E0 (#[.pointer (some ⟨b, 0, none⟩)] ++ d0) W
      have e2 := fun (W : World) => E2 (#[.pointer (some ⟨rb, 0, none⟩)] ++ d2) W
      clear E0 E1 E2 hV q0 q1 q2 hgr hO hp
      cases hE : putP p f with
      | none =>
        have HN : Hid (encF f = none) := Lib.hid (HE0.out (by rw [HP0.out, HD.out, hE]; rfl))
        simp only [hE, strE, MAL] at hput
        clear hE hclr
        go_wp2_with fail
        refine (hput _ (HO.out.alloc _)).mono ?_
        rintro e w6 ⟨rfl, ho6⟩
        exact ⟨rfl, by rw [HN.out]; rfl, HOw.out.trans ((HO.out.alloc _).trans ho6)⟩
      | some a =>
        have ha := putP_len hE hpk
        have HD2 : Hid (puts l f = (puts (l.drop (k + 1)) f).map ((acc ++ a) ++ ·)) := Lib.hid (by
          rw [HP0.out, HD.out, hE]
          cases puts (l.drop (k + 1)) f <;> simp)
        simp only [hE, strE] at hput
        have hsa : (strB a).size = a.length := strB_size a
        have hzz : ¬ 9223372036854775807 < acc.length + 1 + a.length := by omega
        clear hE HD
        have hpb := At.new wr 80 #[.func (.func f0) #[] d0, .func (.func f1) #[] d1, .func (.func f2) #[] d2]
        have HPB := Lib.hid hpb
        clear hpb
        go_wp2_with fail
        refine (hput _ (HO.out.alloc _)).mono ?_
        rintro e w6 ⟨rfl, ho6⟩
        have p6 : w6.cell? ⟨wr.heap.size, 2, none⟩ = some (.func (.func f2) #[] d2) := (HPB.out.keep ho6 (by simp)).cell 2 rfl
        have hA6 : FrAt w6 rb (clrs (l.take k) { f with fin := false }) rv := (HAr.out.alloc _).keep ho6 (by simp)
        have hO6 := (HO.out.alloc (.cells #[.func (.func f0) #[] d0, .func (.func f1) #[] d1, .func (.func f2) #[] d2] 80)).trans ho6
        have hcl := hclr w6 _ _ hO6 hA6
        have HO6 := Lib.hid hO6
        clear hO6 hA6 ho6 hclr hput p0 p1 p2 e0
        go_wp2_with fail
        refine hcl.mono ?_
        rintro e w7 ⟨rfl, hA7, ho7⟩
        have HA7 := Lib.hid hA7
        have HO7 : Hid (Only [] w2 w7) := Lib.hid ⟨ho7.os.trans HO6.out.os, ho7.tape.trans HO6.out.tape, ho7.output.trans HO6.out.output, Nat.le_trans HO6.out.size ho7.size, fun i hi hn => (ho7.block i (Nat.lt_of_lt_of_le hi HO6.out.size) (by simp; omega)).trans (HO6.out.block i hi hn)⟩
        clear hA7 ho7 hcl p6 e2
        go_wp2_with fail
        go_roundg (l.length - (k + 1))
        case measure => omega
        case rel =>
          refine ⟨k + 1, acc ++ a, clrV p rv, rfl, by omega, rfl, ?_, by simp; omega, HD2.out, ?_, ?_, HO7.out⟩
          · rw [← strB_app]; rfl
          · rw [HT.out]; exact HA7.out
          · rw [HT.out]; exact HRr.out.clr p
    · obtain rfl : k = l.length := by omega
      have hlt' : ¬ (l.length : Int) < l.length := by omega
      have HPA : Hid (puts l f = some acc) := Lib.hid (by rw [HP0.out, List.drop_length]; simp [puts])
      have htk : clrs (l.take l.length) { f with fin := false } = clrs l { f with fin := false } := by rw [List.take_length]
      obtain ⟨G, hG⟩ : ∃ G, clrs l { f with fin := false } = G := ⟨_, rfl⟩
      have HG1 := Lib.hid (HE1.out acc HPA.out)
      have HG2 := Lib.hid (HE2.out acc HPA.out)
      have hAr := HAr.out
      have hRr2 := HRr.out.keep HO.out
      have hGl : G.rg.length ≤ 4611686018427387903 := by rw [← hG]; exact Nat.le_trans (clrs_rg l _) hsz
      rw [htk, hG] at hAr hRr2
      rw [hG] at HG1 HG2
      have HAr2 := Lib.hid hAr
      have HRr2 := Lib.hid hRr2
      clear HAr HRr HP0 HPA hAr htk hG
      obtain ⟨a9, cap9, rfl, h9⟩ := hRr2
      have y0 : wr.cell? ⟨b, 0, none⟩ = some (.int .i64 f.ty) := (HA2.out.keep HO.out (by simp)).cell 0 rfl
      have x0 : wr.cell? ⟨rb, 0, none⟩ = some (.int .i64 G.ty) := HAr2.out.cell 0 rfl
      have x1 : wr.cell? ⟨rb, 1, none⟩ = some (.int .i64 G.st) := HAr2.out.cell 1 rfl
      have x2 : wr.cell? ⟨rb, 2, none⟩ = some (.int .i64 G.off) := HAr2.out.cell 2 rfl
      have x3 : wr.cell? ⟨rb, 3, none⟩ = some (.string (strB G.S)) := HAr2.out.cell 3 rfl
      have x4 : wr.cell? ⟨rb, 4, none⟩ = some (.bool G.fin) := HAr2.out.cell 4 rfl
      have x5 : wr.cell? ⟨rb, 5, none⟩ = some (.int .i64 G.mx) := HAr2.out.cell 5 rfl
      have x6 : wr.cell? ⟨rb, 6, none⟩ = some (.int .i64 G.cd) := HAr2.out.cell 6 rfl
      have x7 : wr.cell? ⟨rb, 7, none⟩ = some (.bool G.uni) := HAr2.out.cell 7 rfl
      have x8 : wr.cell? ⟨rb, 8, none⟩ = some (.int .i64 G.dl) := HAr2.out.cell 8 rfl
      have x9 : wr.cell? ⟨rb, 9, none⟩ = some (.slice a9 G.rg.length cap9) := HAr2.out.cell 9 rfl
      have x10 : wr.cell? ⟨rb, 10, none⟩ = some (.int .i64 G.sq) := HAr2.out.cell 10 rfl
      have x11 : wr.cell? ⟨rb, 11, none⟩ = some (.int .i64 G.rt) := HAr2.out.cell 11 rfl
      have x12 : wr.cell? ⟨rb, 12, none⟩ = some (.string (strB G.cid)) := HAr2.out.cell 12 rfl
      have hsm := same_c G (Fr.zero f.ty) _ (.slice none 0 0) wr HRr2.out (RgAt.nil wr) hGl (by show 0 ≤ _; omega)
      clear h9
      go_wp2_with fail
      refine hsm.mono ?_
      rintro e w9 ⟨z, rfl, hz, ho9⟩
      have HO9 := Lib.hid (HOw.out.trans (HO.out.trans ho9))
      clear ho9 hsm
      cases z with
      | true =>
        have HN := Lib.hid (HG1.out (hz.1 rfl))
        go_wp2_with fail
        go_ret
        exact ⟨by rw [HN.out]; rfl, HO9.out⟩
      | false =>
        have HN := Lib.hid (HG2.out (fun h => by have := hz.2 h; cases this))
        go_wp2_with fail
        exact ⟨rfl, by rw [HN.out]; rfl, HO9.out⟩
set_option maxRecDepth 100000 in
set_option maxHeartbeats 4000000 in
theorem enc_c2 (f : Fr) (rv : Value) (w : World) (hf : FrWf f) (hty : -9223372036854775808 ≤ f.ty ∧ f.ty ≤ 9223372036854775807) (hR : RgAt w rv f.rg) (hsz : f.rg.length ≤ 4611686018427387903) {l : List Pt} (ht : tab f.ty = some l) (hfin : f.fin = false) :
    Calls Tryd.prog 26 #[.agg (frC f rv)] w fun e w' => e = strE (encF f) ∧ Only [] w w' := by
  obtain ⟨x, hx⟩ : ∃ x, byt f.ty.toNat = x := ⟨_, rfl⟩
  obtain ⟨t0, t1, t9, _, _, t3⟩ := tab_cases ht
  have hbad : ¬ (f.fin = true ∧ f.ty ≠ 8) := by rw [hfin]; exact fun h => by cases h.1
  have HE0 : Hid (puts l f = none → encF f = none) := Lib.hid (fun h => by unfold encF; rw [ht]; simp only; rw [if_neg hbad, h])
  have HE1 : Hid (∀ s, puts l f = some s → clrs l { f with fin := false } = Fr.zero f.ty → encF f = some (x :: s)) := Lib.hid (fun s h h2 => by
    have h3 := encF_mk ht hbad h h2
    rw [h3]
    rw [← hx, hfin]; rfl)
  have HE2 : Hid (∀ s, puts l f = some s → ¬ clrs l { f with fin := false } = Fr.zero f.ty → encF f = none) := Lib.hid (fun s h h2 => by unfold encF; rw [ht]; simp only; rw [if_neg hbad, h]; simp only; rw [if_neg h2])
  have hxn : IntKind.u8.wrap f.ty = (x.toNat : Int) := by
    rw [← hx, byt_nat]
    unfold IntKind.wrap; simp [IntKind.signed, IntKind.bits]; omega
  clear hx
  clear hbad 
  have HR := Lib.hid hR
  obtain ⟨ra, rcap, rfl, hrr⟩ := hR
  clear hrr
  have hA1 := At.new w 33 (frC f (.slice ra f.rg.length rcap))
  have ho1 := (Only.refl [] w).alloc (.cells (frC f (.slice ra f.rg.length rcap)) 33)
  go_enter Tryd.func26, Tryd.ntmps26
  go_upto_region 1 with fail
  generalize hb : w.heap.size = b at *
  generalize w.alloc (.cells (frC f (.slice ra f.rg.length rcap)) 33) = w1 at *
  have c0 : w1.drew.cell? ⟨b, 0, none⟩ = some (.int .i64 f.ty) := hA1.cell 0 rfl
  have HA1 : Hid (At w1.drew b 33 (frC f (.slice ra f.rg.length rcap))) := Lib.hid hA1
  have HO1 : Hid (Only [] w w1.drew) := Lib.hid ho1.drew
  clear hA1 ho1
  refine wp_region_held_drew (S := fun w' => w'.cell? ⟨b, 0, none⟩ = some (.int .i64 f.ty)) (by kernel_rfl) (by exact c0) (fun hHeld => ?_)
  refine wpAnyH_take (i := 1) (v := ?_) rfl (by kernel_rfl) (by kernel_rfl) (by kernel_rfl) (fun _ _ _ h => h) (Or.inl ⟨by kernel_rfl, ?_⟩) (by assumption) ?_
  rotate_left
  · intro wS hSw
    try dsimp only at hSw
    go_simp
    try with_reducible rfl
  simp only [List.getElem_toArray, List.getElem_cons_succ, List.getElem_cons_zero, Act.put, List.setIfInBounds_toArray, List.set_cons_zero, List.set_cons_succ]
  refine wpAnyH_take (i := 2) (v := ?_) rfl (by kernel_rfl) (by kernel_rfl) (by kernel_rfl) (fun _ _ _ h => h) (Or.inl ⟨by kernel_rfl, ?_⟩) (by assumption) ?_
  rotate_left
  · intro wS hSw
    try dsimp only at hSw
    go_simp
    try with_reducible rfl
  simp only [List.getElem_toArray, List.getElem_cons_succ, List.getElem_cons_zero, Act.put, List.setIfInBounds_toArray, List.set_cons_zero, List.set_cons_succ]
  refine wpAnyH_ready (rs := [0]) (by kernel_rfl) (by simp) ?_
  refine AllReadyH.cons rfl (fun K hK => ?_) AllReadyH.nil
  go_simp
  refine (parts_c _).mono ?_
  rintro e w2 ⟨mb, rfl, hP, ho2⟩
  obtain ⟨v, hlk0, hq⟩ := look_tab hP f.ty
  have hlk := hlk0 true
  simp only [if_true, ht, Option.isSome_some] at hlk
  clear hlk0
  unfold LookQ at hq
  rw [ht] at hq
  obtain ⟨g, cs, rfl, hcg, hcs⟩ := hq
  skip
  have HP := Lib.hid hP
  have HO2 := Lib.hid ho2
  have d0 := (ho2.cell (p := ⟨b, 0, none⟩) (World.block_lt_of_cell? _ _ c0) (by simp)).trans c0
  clear hP ho2
  refine hK.out _ _ (by exact d0) (fun hHeld' => ?_)
  clear hHeld hK K
  have hHeld := hHeld'
  clear hHeld'
  refine wpAnyH_ready (rs := [3]) (by kernel_rfl) (by simp) ?_
  refine AllReadyH.cons rfl (fun K hK => ?_) AllReadyH.nil
  go_simp
  refine hK.out _ _ (by exact hHeld) (fun hHeld' => ?_)
  clear hHeld hK K hlk
  have hHeld := hHeld'
  clear hHeld'
  refine wpAnyH_take (i := 4) (v := ?_) rfl (by kernel_rfl) (by kernel_rfl) (by kernel_rfl) (fun _ _ _ h => h) (Or.inl ⟨by kernel_rfl, ?_⟩) (by assumption) ?_
  rotate_left
  · intro wS hSw
    try dsimp only at hSw
    go_simp
    try with_reducible rfl
  simp only [List.getElem_toArray, List.getElem_cons_succ, List.getElem_cons_zero, Act.put, List.setIfInBounds_toArray, List.set_cons_zero, List.set_cons_succ]
  refine wpAnyH_take (i := 5) (v := ?_) rfl (by kernel_rfl) (by kernel_rfl) (by kernel_rfl) (fun _ _ _ h => h) (Or.inl ⟨by kernel_rfl, ?_⟩) (by assumption) ?_
  rotate_left
  · intro wS hSw
    try dsimp only at hSw
    go_simp
    try with_reducible rfl
  simp only [List.getElem_toArray, List.getElem_cons_succ, List.getElem_cons_zero, Act.put, List.setIfInBounds_toArray, List.set_cons_zero, List.set_cons_succ]
  refine wpAnyH_take (i := 6) (v := ?_) rfl (by kernel_rfl) (by kernel_rfl) (by kernel_rfl) (fun _ _ _ h => h) (Or.inl ⟨by kernel_rfl, ?_⟩) (by assumption) ?_
  rotate_left
  · intro wS hSw
    try dsimp only at hSw
    go_simp
    try with_reducible rfl
  simp only [List.getElem_toArray, List.getElem_cons_succ, List.getElem_cons_zero, Act.put, List.setIfInBounds_toArray, List.set_cons_zero, List.set_cons_succ]
  refine wpAnyH_take (i := 7) (v := ?_) rfl (by kernel_rfl) (by kernel_rfl) (by kernel_rfl) (fun _ _ _ h => h) (Or.inl ⟨by kernel_rfl, ?_⟩) (by assumption) ?_
  rotate_left
  · intro wS hSw
    try dsimp only at hSw
    go_simp
    try with_reducible rfl
  simp only [List.getElem_toArray, List.getElem_cons_succ, List.getElem_cons_zero, Act.put, List.setIfInBounds_toArray, List.set_cons_zero, List.set_cons_succ]
  refine wpAnyH_take (i := 8) (v := ?_) rfl (by kernel_rfl) (by kernel_rfl) (by kernel_rfl) (fun _ _ _ h => h) (Or.inl ⟨by kernel_rfl, ?_⟩) (by assumption) ?_
  rotate_left
  · intro wS hSw
    try dsimp only at hSw
    go_simp
    try with_reducible rfl
  simp only [List.getElem_toArray, List.getElem_cons_succ, List.getElem_cons_zero, Act.put, List.setIfInBounds_toArray, List.set_cons_zero, List.set_cons_succ]
  refine wpAnyH_done (by kernel_rfl) ?_ _
  clear d0 c0 hHeld
  have hA2 : At w2 b 33 (frC f (.slice ra f.rg.length rcap)) := HA1.out.keep HO2.out (by simp)
  have c0 : w2.cell? ⟨b, 0, none⟩ = some (.int .i64 f.ty) := hA2.cell 0 rfl
  have c4 : w2.cell? ⟨b, 4, none⟩ = some (.bool f.fin) := hA2.cell 4 rfl
  have hbl := hA2.lt
  have HA2 := Lib.hid hA2
  clear hA2 HA1
  rw [hfin] at c4
  have c1 : w2.cell? ⟨b, 1, none⟩ = some (.int .i64 f.st) := HA2.out.cell 1 rfl
  have c2 : w2.cell? ⟨b, 2, none⟩ = some (.int .i64 f.off) := HA2.out.cell 2 rfl
  have c3 : w2.cell? ⟨b, 3, none⟩ = some (.string (strB f.S)) := HA2.out.cell 3 rfl
  have c5 : w2.cell? ⟨b, 5, none⟩ = some (.int .i64 f.mx) := HA2.out.cell 5 rfl
  have c6 : w2.cell? ⟨b, 6, none⟩ = some (.int .i64 f.cd) := HA2.out.cell 6 rfl
  have c7 : w2.cell? ⟨b, 7, none⟩ = some (.bool f.uni) := HA2.out.cell 7 rfl
  have c8 : w2.cell? ⟨b, 8, none⟩ = some (.int .i64 f.dl) := HA2.out.cell 8 rfl
  have c9 : w2.cell? ⟨b, 9, none⟩ = some (.slice ra f.rg.length rcap) := HA2.out.cell 9 rfl
  have c10 : w2.cell? ⟨b, 10, none⟩ = some (.int .i64 f.sq) := HA2.out.cell 10 rfl
  have c11 : w2.cell? ⟨b, 11, none⟩ = some (.int .i64 f.rt) := HA2.out.cell 11 rfl
  have c12 : w2.cell? ⟨b, 12, none⟩ = some (.string (strB f.cid)) := HA2.out.cell 12 rfl
  have HCG := Lib.hid hcg
  have HCS := Lib.hid hcs
  clear hcg hcs
  go_upto_region 8 with fail
  clear c0 c1 c2 c3 c4 c5 c6 c7 c8 c9 c10 c11 c12
  have hA3 := At.new w2 33 #[.int .i64 f.ty, .int .i64 f.st, .int .i64 f.off, .string (strB f.S), .bool false, .int .i64 f.mx, .int .i64 f.cd, .bool f.uni, .int .i64 f.dl, .slice ra f.rg.length rcap, .int .i64 f.sq, .int .i64 f.rt, .string (strB f.cid)]
  have hO3 := (Only.refl [] w2).alloc (.cells #[.int .i64 f.ty, .int .i64 f.st, .int .i64 f.off, .string (strB f.S), .bool false, .int .i64 f.mx, .int .i64 f.cd, .bool f.uni, .int .i64 f.dl, .slice ra f.rg.length rcap, .int .i64 f.sq, .int .i64 f.rt, .string (strB f.cid)] 33)
  generalize w2.alloc (.cells #[.int .i64 f.ty, .int .i64 f.st, .int .i64 f.off, .string (strB f.S), .bool false, .int .i64 f.mx, .int .i64 f.cd, .bool f.uni, .int .i64 f.dl, .slice ra f.rg.length rcap, .int .i64 f.sq, .int .i64 f.rt, .string (strB f.cid)] 33) = w3 at *
  obtain ⟨rb, hrb⟩ : ∃ rb, w2.heap.size = rb := ⟨_, rfl⟩
  rw [hrb] at hA3 ⊢
  have hfr := hA3.free 4
  have hcc : ∃ u, w3.cell? ⟨rb, 4, none⟩ = some u := ⟨_, hA3.cell 4 rfl⟩
  obtain ⟨u4, hcc⟩ := hcc
  have HA3 : Hid (At w3 rb 33 #[.int .i64 f.ty, .int .i64 f.st, .int .i64 f.off, .string (strB f.S), .bool false, .int .i64 f.mx, .int .i64 f.cd, .bool f.uni, .int .i64 f.dl, .slice ra f.rg.length rcap, .int .i64 f.sq, .int .i64 f.rt, .string (strB f.cid)]) := Lib.hid hA3
  have HO3 := Lib.hid hO3
  clear hA3 hO3
  go_upto_region 9 with fail
  have hA4 : At (w3.setCell ⟨rb, 4, none⟩ (.bool false)) rb 33 (frC { f with fin := false } (.slice ra f.rg.length rcap)) := HA3.out.set 4 _ (by rfl)
  have hO4 : Only [] w2 (w3.setCell ⟨rb, 4, none⟩ (.bool false)) := HO3.out.putn (by omega) _
  generalize w3.setCell ⟨rb, 4, none⟩ (.bool false) = w4 at hA4 hO4 ⊢
  have HA4 := Lib.hid hA4
  have HO4 := Lib.hid hO4
  have hcv : (convert 46 9 (.slice (some ⟨w4.heap.size, 0, none⟩) 1 1)).run Tryd.prog (w4.alloc (.cells #[.int .u8 x.toNat] 5)) = .ok (.string (strB [x])) (w4.alloc (.cells #[.int .u8 x.toNat] 5)) := conv_one w4 x
  clear hcc hfr HA3 HO3 hA4 hO4 
  go_upto_region 10 with fail
  have hA5 : FrAt (w4.alloc (.cells #[.int .u8 x.toNat] 5)) rb { f with fin := false } (.slice ra f.rg.length rcap) := HA4.out.alloc _
  have hO5 := HO4.out.alloc (.cells #[.int .u8 x.toNat] 5)
  generalize w4.alloc (.cells #[.int .u8 x.toNat] 5) = w5 at hA5 hO5 ⊢
  have HA5 := Lib.hid hA5
  have HO5 := Lib.hid hO5
  clear hcv HA4 HO4 hA5 hO5 hxn
  have HOw := Lib.hid (HO1.out.trans HO2.out)
  clear HO1 HO2 HP
  have HRb := Lib.hid (HR.out.keep HOw.out)
  have HO2b := Lib.hid (Only.refl [] w2)
  clear HR
  have hl64 : ((l.length : Nat) : Int) ≤ 3 := by omega
  go_wp2_with fail
  go_loopg [7, 44] l.length (fun gk sv ix wr => EncRel w2 rb l f x gk sv ix wr)
  case atStart => exact ⟨0, [], _, by simp, by omega, rfl, rfl, by simp, by simp, HA5.out, HRb.out.keep HO2b.out, HO5.out⟩
  case round =>
    obtain ⟨k, acc, rv, rfl, hk, rfl, rfl, hacc, hput0, hAr, hRr, hO⟩ := hrel
    have HAr := Lib.hid hAr
    have HRr := Lib.hid hRr
    have HP0 := Lib.hid hput0
    have HO := Lib.hid hO
    clear hAr hput0 HA5 HO5
    have hsx : (strB (x :: acc)).size = acc.length + 1 := strB_size _
    by_cases hlt : k < l.length
    · have hlt' : (k : Int) < l.length := by omega
      have hk4 : k ≤ 3 := by omega
      have f9 : IntKind.i64.wrap ((k : Int) + 1) = ((k + 1 : Nat) : Int) := by rw [show (k : Int) + 1 = ((k + 1 : Nat) : Int) by omega]; exact IntWalk.i64_in _ (by omega)
      obtain ⟨f0, d0, f1, d1, f2, d2, q0, q1, q2, hV⟩ := HCS.out k hlt
      obtain ⟨E0, E1, E2⟩ := ent_p hV
      have hgr : At wr g 80 cs := At.keep (show At w2 g 80 cs from HCG.out) hO (by simp)
      have p0 := hgr.cell (k * 3) q0
      have p1 := hgr.cell (k * 3 + 1) q1
      have p2 := hgr.cell (k * 3 + 2) q2
      obtain ⟨p, hp⟩ : ∃ p, l[k]'hlt = p := ⟨_, rfl⟩
      have hpk : PtOk p := tab_ok ht p (by rw [← hp]; exact List.getElem_mem hlt)
      rw [hp] at hV
      have HD : Hid (puts (l.drop k) f = match putP p f, puts (l.drop (k + 1)) f with
          | some a, some b => some (a ++ b)
          | _, _ => none) := Lib.hid (by rw [List.drop_eq_getElem_cons hlt, hp]; rfl)
      have HT : Hid (clrs (l.take (k + 1)) { f with fin := false } = clrP p (clrs (l.take k) { f with fin := false })) := Lib.hid (by rw [clrs_take hlt, hp])
      have hput := fun ww (ho : Only [] w2 ww) => put_p (w := ww) (b := b) (rv := .slice ra f.rg.length rcap) (hV.keep (S := []) ho (by simp)) hpk (HA2.out.keep ho (by simp)) hf (HRb.out.keep ho) hsz
      have hclr := fun ww gg rr (ho : Only [] w2 ww) (hA : FrAt ww rb gg rr) => clr_p (w := ww) (b := rb) (hV.keep (S := []) ho (by simp)) hA
      have e0 := fun (W : World) => E0 (#[.pointer (some ⟨b, 0, none⟩)] ++ d0) W
      have e2 := fun (W : World) => E2 (#[.pointer (some ⟨rb, 0, none⟩)] ++ d2) W
      clear E0 E1 E2 hV q0 q1 q2 hgr hO hp
      cases hE : putP p f with
      | none =>
        have HN : Hid (encF f = none) := Lib.hid (HE0.out (by rw [HP0.out, HD.out, hE]; rfl))
        simp only [hE, strE, MAL] at hput
        clear hE hclr
        go_wp2_with fail
        refine (hput _ (HO.out.alloc _)).mono ?_
        rintro e w6 ⟨rfl, ho6⟩
        exact ⟨rfl, by rw [HN.out]; rfl, HOw.out.trans ((HO.out.alloc _).trans ho6)⟩
      | some a =>
        have ha := putP_len hE hpk
        have HD2 : Hid (puts l f = (puts (l.drop (k + 1)) f).map ((acc ++ a) ++ ·)) := Lib.hid (by
          rw [HP0.out, HD.out, hE]
          cases puts (l.drop (k + 1)) f <;> simp)
        simp only [hE, strE] at hput
        have hsa : (strB a).size = a.length := strB_size a
        have hzz : ¬ 9223372036854775807 < acc.length + 1 + a.length := by omega
        clear hE HD
        have hpb := At.new wr 80 #[.func (.func f0) #[] d0, .func (.func f1) #[] d1, .func (.func f2) #[] d2]
        have HPB := Lib.hid hpb
        clear hpb
        go_wp2_with fail
        refine (hput _ (HO.out.alloc _)).mono ?_
        rintro e w6 ⟨rfl, ho6⟩
        have p6 : w6.cell? ⟨wr.heap.size, 2, none⟩ = some (.func (.func f2) #[] d2) := (HPB.out.keep ho6 (by simp)).cell 2 rfl
        have hA6 : FrAt w6 rb (clrs (l.take k) { f with fin := false }) rv := (HAr.out.alloc _).keep ho6 (by simp)
        have hO6 := (HO.out.alloc (.cells #[.func (.func f0) #[] d0, .func (.func f1) #[] d1, .func (.func f2) #[] d2] 80)).trans ho6
        have hcl := hclr w6 _ _ hO6 hA6
        have HO6 := Lib.hid hO6
        clear hO6 hA6 ho6 hclr hput p0 p1 p2 e0
        go_wp2_with fail
        refine hcl.mono ?_
        rintro e w7 ⟨rfl, hA7, ho7⟩
        have HA7 := Lib.hid hA7
        have HO7 : Hid (Only [] w2 w7) := Lib.hid ⟨ho7.os.trans HO6.out.os, ho7.tape.trans HO6.out.tape, ho7.output.trans HO6.out.output, Nat.le_trans HO6.out.size ho7.size, fun i hi hn => (ho7.block i (Nat.lt_of_lt_of_le hi HO6.out.size) (by simp; omega)).trans (HO6.out.block i hi hn)⟩
        clear hA7 ho7 hcl p6 e2
        go_wp2_with fail
        go_roundg (l.length - (k + 1))
        case measure => omega
        case rel =>
          refine ⟨k + 1, acc ++ a, clrV p rv, rfl, by omega, rfl, ?_, by simp; omega, HD2.out, ?_, ?_, HO7.out⟩
          · rw [← strB_app]; rfl
          · rw [HT.out]; exact HA7.out
          · rw [HT.out]; exact HRr.out.clr p
    · obtain rfl : k = l.length := by omega
      have hlt' : ¬ (l.length : Int) < l.length := by omega
      have HPA : Hid (puts l f = some acc) := Lib.hid (by rw [HP0.out, List.drop_length]; simp [puts])
      have htk : clrs (l.take l.length) { f with fin := false } = clrs l { f with fin := false } := by rw [List.take_length]
      obtain ⟨G, hG⟩ : ∃ G, clrs l { f with fin := false } = G := ⟨_, rfl⟩
      have HG1 := Lib.hid (HE1.out acc HPA.out)
      have HG2 := Lib.hid (HE2.out acc HPA.out)
      have hAr := HAr.out
      have hRr2 := HRr.out.keep HO.out
      have hGl : G.rg.length ≤ 4611686018427387903 := by rw [← hG]; exact Nat.le_trans (clrs_rg l _) hsz
      rw [htk, hG] at hAr hRr2
      rw [hG] at HG1 HG2
      have HAr2 := Lib.hid hAr
      have HRr2 := Lib.hid hRr2
      clear HAr HRr HP0 HPA hAr htk hG
      obtain ⟨a9, cap9, rfl, h9⟩ := hRr2
      have y0 : wr.cell? ⟨b, 0, none⟩ = some (.int .i64 f.ty) := (HA2.out.keep HO.out (by simp)).cell 0 rfl
      have x0 : wr.cell? ⟨rb, 0, none⟩ = some (.int .i64 G.ty) := HAr2.out.cell 0 rfl
      have x1 : wr.cell? ⟨rb, 1, none⟩ = some (.int .i64 G.st) := HAr2.out.cell 1 rfl
      have x2 : wr.cell? ⟨rb, 2, none⟩ = some (.int .i64 G.off) := HAr2.out.cell 2 rfl
      have x3 : wr.cell? ⟨rb, 3, none⟩ = some (.string (strB G.S)) := HAr2.out.cell 3 rfl
      have x4 : wr.cell? ⟨rb, 4, none⟩ = some (.bool G.fin) := HAr2.out.cell 4 rfl
      have x5 : wr.cell? ⟨rb, 5, none⟩ = some (.int .i64 G.mx) := HAr2.out.cell 5 rfl
      have x6 : wr.cell? ⟨rb, 6, none⟩ = some (.int .i64 G.cd) := HAr2.out.cell 6 rfl
      have x7 : wr.cell? ⟨rb, 7, none⟩ = some (.bool G.uni) := HAr2.out.cell 7 rfl
      have x8 : wr.cell? ⟨rb, 8, none⟩ = some (.int .i64 G.dl) := HAr2.out.cell 8 rfl
      have x9 : wr.cell? ⟨rb, 9, none⟩ = some (.slice a9 G.rg.length cap9) := HAr2.out.cell 9 rfl
      have x10 : wr.cell? ⟨rb, 10, none⟩ = some (.int .i64 G.sq) := HAr2.out.cell 10 rfl
      have x11 : wr.cell? ⟨rb, 11, none⟩ = some (.int .i64 G.rt) := HAr2.out.cell 11 rfl
      have x12 : wr.cell? ⟨rb, 12, none⟩ = some (.string (strB G.cid)) := HAr2.out.cell 12 rfl
      have hsm := same_c G (Fr.zero f.ty) _ (.slice none 0 0) wr HRr2.out (RgAt.nil wr) hGl (by show 0 ≤ _; omega)
      clear h9
      go_wp2_with fail
      refine hsm.mono ?_
      rintro e w9 ⟨z, rfl, hz, ho9⟩
      have HO9 := Lib.hid (HOw.out.trans (HO.out.trans ho9))
      clear ho9 hsm
      cases z with
      | true =>
        have HN := Lib.hid (HG1.out (hz.1 rfl))
        go_wp2_with fail
        go_ret
        exact ⟨by rw [HN.out]; rfl, HO9.out⟩
      | false =>
        have HN := Lib.hid (HG2.out (fun h => by have := hz.2 h; cases this))
        go_wp2_with fail
        exact ⟨rfl, by rw [HN.out]; rfl, HO9.out⟩
/-- encode. -/
theorem encode_c (f : Fr) (rv : Value) (w : World) (hf : FrWf f) (hty : -9223372036854775808 ≤ f.ty ∧ f.ty ≤ 9223372036854775807) (hR : RgAt w rv f.rg) (hsz : f.rg.length ≤ 4611686018427387903) :
    Calls Tryd.prog 26 #[.agg (frC f rv)] w fun e w' => e = strE (encF f) ∧ Only [] w w' := by
  cases ht : tab f.ty with
  | none => exact enc_a f rv w hf hty hR hsz ht
  | some l =>
    cases hfin : f.fin with
    | false => exact enc_c2 f rv w hf hty hR hsz ht hfin
    | true =>
      by_cases h8 : f.ty = 8
      · exact enc_c1 f rv w hf hty hR hsz ht hfin h8
      · exact enc_b f rv w hf hty hR hsz ht hfin h8
end Go.Proofs.YtgiekhohhogdiaaDoor
