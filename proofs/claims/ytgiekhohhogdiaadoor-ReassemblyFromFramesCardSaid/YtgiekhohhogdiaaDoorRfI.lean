/- The table of parts: the region of the map literal as a whole. -/
import Derived.Test.YtgiekhohhogdiaaDoorRfH
namespace Go.Proofs.YtgiekhohhogdiaaDoor
open Go Go.RowKit
set_option linter.unusedVariables false
set_option linter.unusedSimpArgs false

inductive Kd
  | mk
  | ld (j d : Nat)
  | bd (d : Nat) (ts : List Nat)
  | cl (d n : Nat)
  | ins (k : Int) (s : Nat)
  | mv
  | as
def kdT : List Kd := [.mk, .bd 26 [], .ins 0 26, .bd 27 [], .ins 1 27, .bd 28 [], .ins 30 28, .ld 7 29, .ld 12 30, .bd 31 [29, 30], .ins 2 31, .ld 1 32, .ld 4 33, .ld 3 34, .bd 35 [32, 33, 34], .ins 4 35, .ld 1 36, .ld 4 37, .bd 38 [36, 37], .ins 5 38, .ld 5 39, .ld 8 40, .bd 41 [39, 40], .ins 6 41, .cl 42 0, .bd 43 [42], .ins 7 43, .ld 1 44, .ld 5 45, .ld 8 46, .bd 47 [44, 45, 46], .ins 8 47, .ld 2 48, .bd 49 [48], .ins 16 49, .ld 2 50, .bd 51 [50], .ins 20 51, .ld 1 52, .ld 2 53, .bd 54 [52, 53], .ins 17 54, .ld 1 55, .ld 2 56, .bd 57 [55, 56], .ins 21 57, .cl 58 1, .ld 2 59, .bd 60 [58, 59], .ins 18 60, .cl 61 1, .ld 2 62, .bd 63 [61, 62], .ins 22 63, .ld 6 64, .cl 65 2, .ld 11 66, .bd 67 [64, 65, 66], .ins 24 67, .ld 6 68, .bd 69 [68], .ins 25 69, .ld 10 70, .bd 71 [70], .ins 26 71, .ld 10 72, .bd 73 [72], .ins 27 73, .ld 4 74, .ld 9 75, .bd 76 [74, 75], .ins 28 76, .ld 4 77, .ld 9 78, .bd 79 [77, 78], .ins 29 79, .mv, .as]
def Kd.dst : Kd → Option Tmp
  | .mk => some 25
  | .ld _ d => some d
  | .bd d _ => some d
  | .cl d _ => some d
  | .ins _ _ => none
  | .mv => some 80
  | .as => some 0
def Kd.op : Kd → Op
  | .mk => .makeMap 74 none
  | .ld j _ => .load 80 (.tmp j)
  | .bd _ [] => .buildSlice 73 0 #[]
  | .bd _ [a] => .buildSlice 73 1 #[(0, .tmp a)]
  | .bd _ [a, b] => .buildSlice 73 2 #[(0, .tmp a), (1, .tmp b)]
  | .bd _ (a :: b :: c :: _) => .buildSlice 73 3 #[(0, .tmp a), (1, .tmp b), (2, .tmp c)]
  | .cl _ 0 => .call { callee := .value (.func 45), args := #[.const (.int .i64 1), .const (.int .i64 128)], argTypes := #[3, 3] }
  | .cl _ 1 => .call { callee := .value (.func 52), args := #[], argTypes := #[] }
  | .cl _ _ => .call { callee := .value (.func 53), args := #[], argTypes := #[] }
  | .ins k s => .insert 74 (.tmp 25) (.const (.int .i64 k)) (.tmp s)
  | .mv => .move (.tmp 25)
  | .as => .assign (.tmp 80)
def Kd.deps : Kd → List Nat
  | .bd _ ts => ts.map opOf
  | .ins _ s => [0, opOf s]
  | .mv => [0]
  | .as => [0, 76]
  | _ => []
def depsOk (ops : Array Oper) : Bool := (List.range 78).all fun i => ((kdT[i]?).map Kd.deps |>.getD []).all fun x => ((ops[i]?).map fun o => o.after.toList.any fun e => e.on == x && Region.binds .any e).getD false
def lowOk (ops : Array Oper) : Bool := (List.range 78).all fun i => ((ops[i]?).map fun o => o.after.toList.all fun e => Nat.blt e.on i).getD false
theorem row_of {ops : Array Oper} (h1 : ops.toList.map (fun o => (o.guard, o.dst, o.op)) = kdT.map (fun k => (none, k.dst, k.op))) (h2 : depsOk ops = true) (i : Nat) (k : Kd) (hk : kdT[i]? = some k) : Row ops i k.dst k.op k.deps := by
  have hi : i < 78 := (List.getElem?_eq_some_iff.1 hk).1
  have h3 := congrArg (fun l => l[i]?) h1
  simp only [List.getElem?_map, hk, Option.map_some, Array.getElem?_toList] at h3
  cases ho : ops[i]? with
  | none => rw [ho] at h3; cases h3
  | some o =>
    rw [ho] at h3
    simp only [Option.map_some, Option.some.injEq, Prod.mk.injEq] at h3
    refine ⟨o, ho, h3.1, h3.2.1, h3.2.2, fun x hx => ?_⟩
    have h4 := (List.all_eq_true.1 h2) i (List.mem_range.2 hi)
    rw [hk, ho] at h4
    simp only [Option.map_some, Option.getD_some] at h4
    have h5 := (List.all_eq_true.1 h4) x hx
    obtain ⟨e, he, h6⟩ := List.any_eq_true.1 h5
    rw [Bool.and_eq_true, beq_iff_eq] at h6
    exact ⟨e, he, h6.1, h6.2⟩
theorem all_in {ops : Array Oper} (hz : ops.size = 78) (h3 : lowOk ops = true) {listed : Array Bool} (hs : listed.size = 78) (hr : Region.ready .any ops listed = []) : ∀ i, i < 78 → listed.getD i false = true := by
  intro i
  induction i using Nat.strongRecOn with
  | _ i ih =>
    intro hi
    by_cases hn : listed.getD i false = true
    · exact hn
    · exfalso
      have hn2 : listed.getD i true = false := by
        have : i < listed.size := by omega
        simpa [Array.getD, this] using hn
      have h4 := (List.all_eq_true.1 h3) i (List.mem_range.2 hi)
      have : i ∈ Region.ready .any ops listed := by
        unfold Region.ready
        refine List.mem_filter.2 ⟨List.mem_range.2 (by omega), ?_⟩
        rw [hn2]
        cases ho : ops[i]? with
        | none => rw [ho] at h4; cases h4
        | some o =>
          rw [ho] at h4
          simp only [Option.map_some, Option.getD_some] at h4 ⊢
          simp only [Bool.not_false, Bool.true_and]
          refine Array.all_eq_true_iff_forall_mem.2 fun e he => ?_
          have h5 := (List.all_eq_true.1 h4) e (by simpa using he)
          have h6 : e.on < i := by simpa [Nat.blt_eq] using h5
          rw [ih e.on h6 (by omega)]
          simp
      rw [hr] at this
      cases this
def ptOf (j : Nat) : Pt := match j with
  | 1 => .int mV .st
  | 2 => .int mV .mx
  | 3 => .int mO .mx
  | 4 => .int mC .cd
  | 5 => .int mO .off
  | 6 => .int mV .sq
  | 7 => .int mV .dl
  | 8 => .text 0 1024
  | 9 => .text 0 64
  | 10 => .chal
  | 11 => .cidp
  | _ => .ranges
def keyT : List Int := [0, 1, 30, 2, 4, 5, 6, 7, 8, 16, 20, 17, 21, 18, 22, 24, 25, 26, 27, 28, 29]
theorem key_tab (k : Int) : k ∈ keyT ↔ (tab k).isSome = true := by
  constructor
  · intro h
    simp only [keyT, List.mem_cons, List.not_mem_nil, or_false] at h
    rcases h with rfl | rfl | rfl | rfl | rfl | rfl | rfl | rfl | rfl | rfl | rfl | rfl | rfl | rfl | rfl | rfl | rfl | rfl | rfl | rfl | rfl <;> rfl
  · intro h
    unfold tab at h
    by_cases e0 : k = 0
    · subst e0; decide
    rw [if_neg e0] at h
    by_cases e1 : k = 1
    · subst e1; decide
    rw [if_neg e1] at h
    by_cases e30 : k = 30
    · subst e30; decide
    rw [if_neg e30] at h
    by_cases e2 : k = 2
    · subst e2; decide
    rw [if_neg e2] at h
    by_cases e4 : k = 4
    · subst e4; decide
    rw [if_neg e4] at h
    by_cases e5 : k = 5
    · subst e5; decide
    rw [if_neg e5] at h
    by_cases e6 : k = 6
    · subst e6; decide
    rw [if_neg e6] at h
    by_cases e7 : k = 7
    · subst e7; decide
    rw [if_neg e7] at h
    by_cases e8 : k = 8
    · subst e8; decide
    rw [if_neg e8] at h
    by_cases e16 : k = 16
    · subst e16; decide
    rw [if_neg e16] at h
    by_cases e20 : k = 20
    · subst e20; decide
    rw [if_neg e20] at h
    by_cases e17 : k = 17
    · subst e17; decide
    rw [if_neg e17] at h
    by_cases e21 : k = 21
    · subst e21; decide
    rw [if_neg e21] at h
    by_cases e18 : k = 18
    · subst e18; decide
    rw [if_neg e18] at h
    by_cases e22 : k = 22
    · subst e22; decide
    rw [if_neg e22] at h
    by_cases e24 : k = 24
    · subst e24; decide
    rw [if_neg e24] at h
    by_cases e25 : k = 25
    · subst e25; decide
    rw [if_neg e25] at h
    by_cases e26 : k = 26
    · subst e26; decide
    rw [if_neg e26] at h
    by_cases e27 : k = 27
    · subst e27; decide
    rw [if_neg e27] at h
    by_cases e28 : k = 28
    · subst e28; decide
    rw [if_neg e28] at h
    by_cases e29 : k = 29
    · subst e29; decide
    rw [if_neg e29] at h
    cases h
theorem ins_key {listed : Array Bool} (h : ∀ i, i < 78 → listed.getD i false = true) (k : Int) : (tab k).isSome = true ↔ InsIn listed k := by
  rw [← key_tab]
  constructor
  · intro hk
    simp only [keyT, List.mem_cons, List.not_mem_nil, or_false] at hk
    rcases hk with rfl | rfl | rfl | rfl | rfl | rfl | rfl | rfl | rfl | rfl | rfl | rfl | rfl | rfl | rfl | rfl | rfl | rfl | rfl | rfl | rfl
    · exact ⟨2, by omega, rfl, h 2 (by omega)⟩
    · exact ⟨4, by omega, rfl, h 4 (by omega)⟩
    · exact ⟨6, by omega, rfl, h 6 (by omega)⟩
    · exact ⟨10, by omega, rfl, h 10 (by omega)⟩
    · exact ⟨15, by omega, rfl, h 15 (by omega)⟩
    · exact ⟨19, by omega, rfl, h 19 (by omega)⟩
    · exact ⟨23, by omega, rfl, h 23 (by omega)⟩
    · exact ⟨26, by omega, rfl, h 26 (by omega)⟩
    · exact ⟨31, by omega, rfl, h 31 (by omega)⟩
    · exact ⟨34, by omega, rfl, h 34 (by omega)⟩
    · exact ⟨37, by omega, rfl, h 37 (by omega)⟩
    · exact ⟨41, by omega, rfl, h 41 (by omega)⟩
    · exact ⟨45, by omega, rfl, h 45 (by omega)⟩
    · exact ⟨49, by omega, rfl, h 49 (by omega)⟩
    · exact ⟨53, by omega, rfl, h 53 (by omega)⟩
    · exact ⟨58, by omega, rfl, h 58 (by omega)⟩
    · exact ⟨61, by omega, rfl, h 61 (by omega)⟩
    · exact ⟨64, by omega, rfl, h 64 (by omega)⟩
    · exact ⟨67, by omega, rfl, h 67 (by omega)⟩
    · exact ⟨71, by omega, rfl, h 71 (by omega)⟩
    · exact ⟨75, by omega, rfl, h 75 (by omega)⟩
  · rintro ⟨i, hi, hk, _⟩
    have : ∀ i : Fin 78, ∀ k, insK i.val = some k → k ∈ keyT := by
      intro i k hk
      match i, hk with
      | ⟨0, _⟩, hk => cases hk
      | ⟨1, _⟩, hk => cases hk
      | ⟨2, _⟩, hk => cases hk; decide
      | ⟨3, _⟩, hk => cases hk
      | ⟨4, _⟩, hk => cases hk; decide
      | ⟨5, _⟩, hk => cases hk
      | ⟨6, _⟩, hk => cases hk; decide
      | ⟨7, _⟩, hk => cases hk
      | ⟨8, _⟩, hk => cases hk
      | ⟨9, _⟩, hk => cases hk
      | ⟨10, _⟩, hk => cases hk; decide
      | ⟨11, _⟩, hk => cases hk
      | ⟨12, _⟩, hk => cases hk
      | ⟨13, _⟩, hk => cases hk
      | ⟨14, _⟩, hk => cases hk
      | ⟨15, _⟩, hk => cases hk; decide
      | ⟨16, _⟩, hk => cases hk
      | ⟨17, _⟩, hk => cases hk
      | ⟨18, _⟩, hk => cases hk
      | ⟨19, _⟩, hk => cases hk; decide
      | ⟨20, _⟩, hk => cases hk
      | ⟨21, _⟩, hk => cases hk
      | ⟨22, _⟩, hk => cases hk
      | ⟨23, _⟩, hk => cases hk; decide
      | ⟨24, _⟩, hk => cases hk
      | ⟨25, _⟩, hk => cases hk
      | ⟨26, _⟩, hk => cases hk; decide
      | ⟨27, _⟩, hk => cases hk
      | ⟨28, _⟩, hk => cases hk
      | ⟨29, _⟩, hk => cases hk
      | ⟨30, _⟩, hk => cases hk
      | ⟨31, _⟩, hk => cases hk; decide
      | ⟨32, _⟩, hk => cases hk
      | ⟨33, _⟩, hk => cases hk
      | ⟨34, _⟩, hk => cases hk; decide
      | ⟨35, _⟩, hk => cases hk
      | ⟨36, _⟩, hk => cases hk
      | ⟨37, _⟩, hk => cases hk; decide
      | ⟨38, _⟩, hk => cases hk
      | ⟨39, _⟩, hk => cases hk
      | ⟨40, _⟩, hk => cases hk
      | ⟨41, _⟩, hk => cases hk; decide
      | ⟨42, _⟩, hk => cases hk
      | ⟨43, _⟩, hk => cases hk
      | ⟨44, _⟩, hk => cases hk
      | ⟨45, _⟩, hk => cases hk; decide
      | ⟨46, _⟩, hk => cases hk
      | ⟨47, _⟩, hk => cases hk
      | ⟨48, _⟩, hk => cases hk
      | ⟨49, _⟩, hk => cases hk; decide
      | ⟨50, _⟩, hk => cases hk
      | ⟨51, _⟩, hk => cases hk
      | ⟨52, _⟩, hk => cases hk
      | ⟨53, _⟩, hk => cases hk; decide
      | ⟨54, _⟩, hk => cases hk
      | ⟨55, _⟩, hk => cases hk
      | ⟨56, _⟩, hk => cases hk
      | ⟨57, _⟩, hk => cases hk
      | ⟨58, _⟩, hk => cases hk; decide
      | ⟨59, _⟩, hk => cases hk
      | ⟨60, _⟩, hk => cases hk
      | ⟨61, _⟩, hk => cases hk; decide
      | ⟨62, _⟩, hk => cases hk
      | ⟨63, _⟩, hk => cases hk
      | ⟨64, _⟩, hk => cases hk; decide
      | ⟨65, _⟩, hk => cases hk
      | ⟨66, _⟩, hk => cases hk
      | ⟨67, _⟩, hk => cases hk; decide
      | ⟨68, _⟩, hk => cases hk
      | ⟨69, _⟩, hk => cases hk
      | ⟨70, _⟩, hk => cases hk
      | ⟨71, _⟩, hk => cases hk; decide
      | ⟨72, _⟩, hk => cases hk
      | ⟨73, _⟩, hk => cases hk
      | ⟨74, _⟩, hk => cases hk
      | ⟨75, _⟩, hk => cases hk; decide
      | ⟨76, _⟩, hk => cases hk
      | ⟨77, _⟩, hk => cases hk
    exact this ⟨i, hi⟩ k hk
set_option maxRecDepth 100000 in
set_option maxHeartbeats 4000000 in
theorem step_all {W : World} {B : Nat} {p : Nat → Nat} {ops : Array Oper} {Q : Exit → Act → World → Prop} (h1 : ops.toList.map (fun o => (o.guard, o.dst, o.op)) = kdT.map (fun k => (none, k.dst, k.op))) (h2 : depsOk ops = true) (hP : ∀ j, 1 ≤ j → j ≤ 12 → PB W B (ptOf j) (p j)) (hB : B ≤ W.heap.size) :
    ∀ listed a w i, Ivt W B p listed a w → i < 78 → i ∈ Region.ready .any ops listed → wpOp Tryd.prog ops Q i (fun a' w' => Ivt W B p (listed.setIfInBounds i true) a' w') a w := by
  intro listed a w i H hi hr
  have f0 : ∀ args w, (callFunc 45 args).run Tryd.prog w = .ok (.enter 45 args) w := run_goes Tryd.func45 (by kernel_rfl) (by kernel_rfl)
  have f1 : ∀ args w, (callFunc 52 args).run Tryd.prog w = .ok (.enter 52 args) w := run_goes Tryd.func52 (by kernel_rfl) (by kernel_rfl)
  have f2 : ∀ args w, (callFunc 53 args).run Tryd.prog w = .ok (.enter 53 args) w := run_goes Tryd.func53 (by kernel_rfl) (by kernel_rfl)
  match i, hi, hr with
  | 0, hi, hr => exact step_mk H (row_of h1 h2 0 _ rfl) hr (by kernel_rfl)
  | 1, hi, hr => exact step_bd0 H 1 26   (row_of h1 h2 1 _ rfl) hr  hi ⟨by omega, by omega⟩ rfl ⟨by omega, by omega, by omega⟩ (by kernel_rfl) rfl rfl
  | 2, hi, hr => exact step_ins H 2 26 0 _ (row_of h1 h2 2 _ rfl) hr hi rfl ⟨by omega, by omega, by omega⟩ (by kernel_rfl) (by kernel_rfl) rfl rfl
  | 3, hi, hr => exact step_bd0 H 3 27   (row_of h1 h2 3 _ rfl) hr  hi ⟨by omega, by omega⟩ rfl ⟨by omega, by omega, by omega⟩ (by kernel_rfl) rfl rfl
  | 4, hi, hr => exact step_ins H 4 27 1 _ (row_of h1 h2 4 _ rfl) hr hi rfl ⟨by omega, by omega, by omega⟩ (by kernel_rfl) (by kernel_rfl) rfl rfl
  | 5, hi, hr => exact step_bd0 H 5 28   (row_of h1 h2 5 _ rfl) hr  hi ⟨by omega, by omega⟩ rfl ⟨by omega, by omega, by omega⟩ (by kernel_rfl) rfl rfl
  | 6, hi, hr => exact step_ins H 6 28 30 _ (row_of h1 h2 6 _ rfl) hr hi rfl ⟨by omega, by omega, by omega⟩ (by kernel_rfl) (by kernel_rfl) rfl rfl
  | 7, hi, hr => exact step_ld H 7 7 29 (ptOf 7) (row_of h1 h2 7 _ rfl) ⟨by omega, by omega⟩ (hP 7 (by omega) (by omega)) hi ⟨by omega, by omega⟩ rfl ⟨by omega, by omega, by omega⟩ (by kernel_rfl) rfl rfl
  | 8, hi, hr => exact step_ld H 8 12 30 (ptOf 12) (row_of h1 h2 8 _ rfl) ⟨by omega, by omega⟩ (hP 12 (by omega) (by omega)) hi ⟨by omega, by omega⟩ rfl ⟨by omega, by omega, by omega⟩ (by kernel_rfl) rfl rfl
  | 9, hi, hr => exact step_bd2 H 9 31 29 30 _ _ (row_of h1 h2 9 _ rfl) hr rfl rfl hi ⟨by omega, by omega⟩ rfl ⟨by omega, by omega, by omega⟩ (by kernel_rfl) rfl rfl
  | 10, hi, hr => exact step_ins H 10 31 2 _ (row_of h1 h2 10 _ rfl) hr hi rfl ⟨by omega, by omega, by omega⟩ (by kernel_rfl) (by kernel_rfl) rfl rfl
  | 11, hi, hr => exact step_ld H 11 1 32 (ptOf 1) (row_of h1 h2 11 _ rfl) ⟨by omega, by omega⟩ (hP 1 (by omega) (by omega)) hi ⟨by omega, by omega⟩ rfl ⟨by omega, by omega, by omega⟩ (by kernel_rfl) rfl rfl
  | 12, hi, hr => exact step_ld H 12 4 33 (ptOf 4) (row_of h1 h2 12 _ rfl) ⟨by omega, by omega⟩ (hP 4 (by omega) (by omega)) hi ⟨by omega, by omega⟩ rfl ⟨by omega, by omega, by omega⟩ (by kernel_rfl) rfl rfl
  | 13, hi, hr => exact step_ld H 13 3 34 (ptOf 3) (row_of h1 h2 13 _ rfl) ⟨by omega, by omega⟩ (hP 3 (by omega) (by omega)) hi ⟨by omega, by omega⟩ rfl ⟨by omega, by omega, by omega⟩ (by kernel_rfl) rfl rfl
  | 14, hi, hr => exact step_bd3 H 14 35 32 33 34 _ _ _ (row_of h1 h2 14 _ rfl) hr rfl rfl rfl hi ⟨by omega, by omega⟩ rfl ⟨by omega, by omega, by omega⟩ (by kernel_rfl) rfl rfl
  | 15, hi, hr => exact step_ins H 15 35 4 _ (row_of h1 h2 15 _ rfl) hr hi rfl ⟨by omega, by omega, by omega⟩ (by kernel_rfl) (by kernel_rfl) rfl rfl
  | 16, hi, hr => exact step_ld H 16 1 36 (ptOf 1) (row_of h1 h2 16 _ rfl) ⟨by omega, by omega⟩ (hP 1 (by omega) (by omega)) hi ⟨by omega, by omega⟩ rfl ⟨by omega, by omega, by omega⟩ (by kernel_rfl) rfl rfl
  | 17, hi, hr => exact step_ld H 17 4 37 (ptOf 4) (row_of h1 h2 17 _ rfl) ⟨by omega, by omega⟩ (hP 4 (by omega) (by omega)) hi ⟨by omega, by omega⟩ rfl ⟨by omega, by omega, by omega⟩ (by kernel_rfl) rfl rfl
  | 18, hi, hr => exact step_bd2 H 18 38 36 37 _ _ (row_of h1 h2 18 _ rfl) hr rfl rfl hi ⟨by omega, by omega⟩ rfl ⟨by omega, by omega, by omega⟩ (by kernel_rfl) rfl rfl
  | 19, hi, hr => exact step_ins H 19 38 5 _ (row_of h1 h2 19 _ rfl) hr hi rfl ⟨by omega, by omega, by omega⟩ (by kernel_rfl) (by kernel_rfl) rfl rfl
  | 20, hi, hr => exact step_ld H 20 5 39 (ptOf 5) (row_of h1 h2 20 _ rfl) ⟨by omega, by omega⟩ (hP 5 (by omega) (by omega)) hi ⟨by omega, by omega⟩ rfl ⟨by omega, by omega, by omega⟩ (by kernel_rfl) rfl rfl
  | 21, hi, hr => exact step_ld H 21 8 40 (ptOf 8) (row_of h1 h2 21 _ rfl) ⟨by omega, by omega⟩ (hP 8 (by omega) (by omega)) hi ⟨by omega, by omega⟩ rfl ⟨by omega, by omega, by omega⟩ (by kernel_rfl) rfl rfl
  | 22, hi, hr => exact step_bd2 H 22 41 39 40 _ _ (row_of h1 h2 22 _ rfl) hr rfl rfl hi ⟨by omega, by omega⟩ rfl ⟨by omega, by omega, by omega⟩ (by kernel_rfl) rfl rfl
  | 23, hi, hr => exact step_ins H 23 41 6 _ (row_of h1 h2 23 _ rfl) hr hi rfl ⟨by omega, by omega, by omega⟩ (by kernel_rfl) (by kernel_rfl) rfl rfl
  | 24, hi, hr => exact step_cl H 24 42 _ _ _ (.text 1 128) (row_of h1 h2 24 _ rfl) hr f0 (fun w => by have := text_c 1 128 w; simpa [Act.eval] using this) hB hi ⟨by omega, by omega⟩ rfl ⟨by omega, by omega, by omega⟩ (by kernel_rfl) rfl rfl
  | 25, hi, hr => exact step_bd1 H 25 43 42 _ (row_of h1 h2 25 _ rfl) hr rfl hi ⟨by omega, by omega⟩ rfl ⟨by omega, by omega, by omega⟩ (by kernel_rfl) rfl rfl
  | 26, hi, hr => exact step_ins H 26 43 7 _ (row_of h1 h2 26 _ rfl) hr hi rfl ⟨by omega, by omega, by omega⟩ (by kernel_rfl) (by kernel_rfl) rfl rfl
  | 27, hi, hr => exact step_ld H 27 1 44 (ptOf 1) (row_of h1 h2 27 _ rfl) ⟨by omega, by omega⟩ (hP 1 (by omega) (by omega)) hi ⟨by omega, by omega⟩ rfl ⟨by omega, by omega, by omega⟩ (by kernel_rfl) rfl rfl
  | 28, hi, hr => exact step_ld H 28 5 45 (ptOf 5) (row_of h1 h2 28 _ rfl) ⟨by omega, by omega⟩ (hP 5 (by omega) (by omega)) hi ⟨by omega, by omega⟩ rfl ⟨by omega, by omega, by omega⟩ (by kernel_rfl) rfl rfl
  | 29, hi, hr => exact step_ld H 29 8 46 (ptOf 8) (row_of h1 h2 29 _ rfl) ⟨by omega, by omega⟩ (hP 8 (by omega) (by omega)) hi ⟨by omega, by omega⟩ rfl ⟨by omega, by omega, by omega⟩ (by kernel_rfl) rfl rfl
  | 30, hi, hr => exact step_bd3 H 30 47 44 45 46 _ _ _ (row_of h1 h2 30 _ rfl) hr rfl rfl rfl hi ⟨by omega, by omega⟩ rfl ⟨by omega, by omega, by omega⟩ (by kernel_rfl) rfl rfl
  | 31, hi, hr => exact step_ins H 31 47 8 _ (row_of h1 h2 31 _ rfl) hr hi rfl ⟨by omega, by omega, by omega⟩ (by kernel_rfl) (by kernel_rfl) rfl rfl
  | 32, hi, hr => exact step_ld H 32 2 48 (ptOf 2) (row_of h1 h2 32 _ rfl) ⟨by omega, by omega⟩ (hP 2 (by omega) (by omega)) hi ⟨by omega, by omega⟩ rfl ⟨by omega, by omega, by omega⟩ (by kernel_rfl) rfl rfl
  | 33, hi, hr => exact step_bd1 H 33 49 48 _ (row_of h1 h2 33 _ rfl) hr rfl hi ⟨by omega, by omega⟩ rfl ⟨by omega, by omega, by omega⟩ (by kernel_rfl) rfl rfl
  | 34, hi, hr => exact step_ins H 34 49 16 _ (row_of h1 h2 34 _ rfl) hr hi rfl ⟨by omega, by omega, by omega⟩ (by kernel_rfl) (by kernel_rfl) rfl rfl
  | 35, hi, hr => exact step_ld H 35 2 50 (ptOf 2) (row_of h1 h2 35 _ rfl) ⟨by omega, by omega⟩ (hP 2 (by omega) (by omega)) hi ⟨by omega, by omega⟩ rfl ⟨by omega, by omega, by omega⟩ (by kernel_rfl) rfl rfl
  | 36, hi, hr => exact step_bd1 H 36 51 50 _ (row_of h1 h2 36 _ rfl) hr rfl hi ⟨by omega, by omega⟩ rfl ⟨by omega, by omega, by omega⟩ (by kernel_rfl) rfl rfl
  | 37, hi, hr => exact step_ins H 37 51 20 _ (row_of h1 h2 37 _ rfl) hr hi rfl ⟨by omega, by omega, by omega⟩ (by kernel_rfl) (by kernel_rfl) rfl rfl
  | 38, hi, hr => exact step_ld H 38 1 52 (ptOf 1) (row_of h1 h2 38 _ rfl) ⟨by omega, by omega⟩ (hP 1 (by omega) (by omega)) hi ⟨by omega, by omega⟩ rfl ⟨by omega, by omega, by omega⟩ (by kernel_rfl) rfl rfl
  | 39, hi, hr => exact step_ld H 39 2 53 (ptOf 2) (row_of h1 h2 39 _ rfl) ⟨by omega, by omega⟩ (hP 2 (by omega) (by omega)) hi ⟨by omega, by omega⟩ rfl ⟨by omega, by omega, by omega⟩ (by kernel_rfl) rfl rfl
  | 40, hi, hr => exact step_bd2 H 40 54 52 53 _ _ (row_of h1 h2 40 _ rfl) hr rfl rfl hi ⟨by omega, by omega⟩ rfl ⟨by omega, by omega, by omega⟩ (by kernel_rfl) rfl rfl
  | 41, hi, hr => exact step_ins H 41 54 17 _ (row_of h1 h2 41 _ rfl) hr hi rfl ⟨by omega, by omega, by omega⟩ (by kernel_rfl) (by kernel_rfl) rfl rfl
  | 42, hi, hr => exact step_ld H 42 1 55 (ptOf 1) (row_of h1 h2 42 _ rfl) ⟨by omega, by omega⟩ (hP 1 (by omega) (by omega)) hi ⟨by omega, by omega⟩ rfl ⟨by omega, by omega, by omega⟩ (by kernel_rfl) rfl rfl
  | 43, hi, hr => exact step_ld H 43 2 56 (ptOf 2) (row_of h1 h2 43 _ rfl) ⟨by omega, by omega⟩ (hP 2 (by omega) (by omega)) hi ⟨by omega, by omega⟩ rfl ⟨by omega, by omega, by omega⟩ (by kernel_rfl) rfl rfl
  | 44, hi, hr => exact step_bd2 H 44 57 55 56 _ _ (row_of h1 h2 44 _ rfl) hr rfl rfl hi ⟨by omega, by omega⟩ rfl ⟨by omega, by omega, by omega⟩ (by kernel_rfl) rfl rfl
  | 45, hi, hr => exact step_ins H 45 57 21 _ (row_of h1 h2 45 _ rfl) hr hi rfl ⟨by omega, by omega, by omega⟩ (by kernel_rfl) (by kernel_rfl) rfl rfl
  | 46, hi, hr => exact step_cl H 46 58 _ _ _ (.uni) (row_of h1 h2 46 _ rfl) hr f1 (fun w => by have := uni_c w; simpa [Act.eval] using this) hB hi ⟨by omega, by omega⟩ rfl ⟨by omega, by omega, by omega⟩ (by kernel_rfl) rfl rfl
  | 47, hi, hr => exact step_ld H 47 2 59 (ptOf 2) (row_of h1 h2 47 _ rfl) ⟨by omega, by omega⟩ (hP 2 (by omega) (by omega)) hi ⟨by omega, by omega⟩ rfl ⟨by omega, by omega, by omega⟩ (by kernel_rfl) rfl rfl
  | 48, hi, hr => exact step_bd2 H 48 60 58 59 _ _ (row_of h1 h2 48 _ rfl) hr rfl rfl hi ⟨by omega, by omega⟩ rfl ⟨by omega, by omega, by omega⟩ (by kernel_rfl) rfl rfl
  | 49, hi, hr => exact step_ins H 49 60 18 _ (row_of h1 h2 49 _ rfl) hr hi rfl ⟨by omega, by omega, by omega⟩ (by kernel_rfl) (by kernel_rfl) rfl rfl
  | 50, hi, hr => exact step_cl H 50 61 _ _ _ (.uni) (row_of h1 h2 50 _ rfl) hr f1 (fun w => by have := uni_c w; simpa [Act.eval] using this) hB hi ⟨by omega, by omega⟩ rfl ⟨by omega, by omega, by omega⟩ (by kernel_rfl) rfl rfl
  | 51, hi, hr => exact step_ld H 51 2 62 (ptOf 2) (row_of h1 h2 51 _ rfl) ⟨by omega, by omega⟩ (hP 2 (by omega) (by omega)) hi ⟨by omega, by omega⟩ rfl ⟨by omega, by omega, by omega⟩ (by kernel_rfl) rfl rfl
  | 52, hi, hr => exact step_bd2 H 52 63 61 62 _ _ (row_of h1 h2 52 _ rfl) hr rfl rfl hi ⟨by omega, by omega⟩ rfl ⟨by omega, by omega, by omega⟩ (by kernel_rfl) rfl rfl
  | 53, hi, hr => exact step_ins H 53 63 22 _ (row_of h1 h2 53 _ rfl) hr hi rfl ⟨by omega, by omega, by omega⟩ (by kernel_rfl) (by kernel_rfl) rfl rfl
  | 54, hi, hr => exact step_ld H 54 6 64 (ptOf 6) (row_of h1 h2 54 _ rfl) ⟨by omega, by omega⟩ (hP 6 (by omega) (by omega)) hi ⟨by omega, by omega⟩ rfl ⟨by omega, by omega, by omega⟩ (by kernel_rfl) rfl rfl
  | 55, hi, hr => exact step_cl H 55 65 _ _ _ (.retire) (row_of h1 h2 55 _ rfl) hr f2 (fun w => by have := retire_c w; simpa [Act.eval] using this) hB hi ⟨by omega, by omega⟩ rfl ⟨by omega, by omega, by omega⟩ (by kernel_rfl) rfl rfl
  | 56, hi, hr => exact step_ld H 56 11 66 (ptOf 11) (row_of h1 h2 56 _ rfl) ⟨by omega, by omega⟩ (hP 11 (by omega) (by omega)) hi ⟨by omega, by omega⟩ rfl ⟨by omega, by omega, by omega⟩ (by kernel_rfl) rfl rfl
  | 57, hi, hr => exact step_bd3 H 57 67 64 65 66 _ _ _ (row_of h1 h2 57 _ rfl) hr rfl rfl rfl hi ⟨by omega, by omega⟩ rfl ⟨by omega, by omega, by omega⟩ (by kernel_rfl) rfl rfl
  | 58, hi, hr => exact step_ins H 58 67 24 _ (row_of h1 h2 58 _ rfl) hr hi rfl ⟨by omega, by omega, by omega⟩ (by kernel_rfl) (by kernel_rfl) rfl rfl
  | 59, hi, hr => exact step_ld H 59 6 68 (ptOf 6) (row_of h1 h2 59 _ rfl) ⟨by omega, by omega⟩ (hP 6 (by omega) (by omega)) hi ⟨by omega, by omega⟩ rfl ⟨by omega, by omega, by omega⟩ (by kernel_rfl) rfl rfl
  | 60, hi, hr => exact step_bd1 H 60 69 68 _ (row_of h1 h2 60 _ rfl) hr rfl hi ⟨by omega, by omega⟩ rfl ⟨by omega, by omega, by omega⟩ (by kernel_rfl) rfl rfl
  | 61, hi, hr => exact step_ins H 61 69 25 _ (row_of h1 h2 61 _ rfl) hr hi rfl ⟨by omega, by omega, by omega⟩ (by kernel_rfl) (by kernel_rfl) rfl rfl
  | 62, hi, hr => exact step_ld H 62 10 70 (ptOf 10) (row_of h1 h2 62 _ rfl) ⟨by omega, by omega⟩ (hP 10 (by omega) (by omega)) hi ⟨by omega, by omega⟩ rfl ⟨by omega, by omega, by omega⟩ (by kernel_rfl) rfl rfl
  | 63, hi, hr => exact step_bd1 H 63 71 70 _ (row_of h1 h2 63 _ rfl) hr rfl hi ⟨by omega, by omega⟩ rfl ⟨by omega, by omega, by omega⟩ (by kernel_rfl) rfl rfl
  | 64, hi, hr => exact step_ins H 64 71 26 _ (row_of h1 h2 64 _ rfl) hr hi rfl ⟨by omega, by omega, by omega⟩ (by kernel_rfl) (by kernel_rfl) rfl rfl
  | 65, hi, hr => exact step_ld H 65 10 72 (ptOf 10) (row_of h1 h2 65 _ rfl) ⟨by omega, by omega⟩ (hP 10 (by omega) (by omega)) hi ⟨by omega, by omega⟩ rfl ⟨by omega, by omega, by omega⟩ (by kernel_rfl) rfl rfl
  | 66, hi, hr => exact step_bd1 H 66 73 72 _ (row_of h1 h2 66 _ rfl) hr rfl hi ⟨by omega, by omega⟩ rfl ⟨by omega, by omega, by omega⟩ (by kernel_rfl) rfl rfl
  | 67, hi, hr => exact step_ins H 67 73 27 _ (row_of h1 h2 67 _ rfl) hr hi rfl ⟨by omega, by omega, by omega⟩ (by kernel_rfl) (by kernel_rfl) rfl rfl
  | 68, hi, hr => exact step_ld H 68 4 74 (ptOf 4) (row_of h1 h2 68 _ rfl) ⟨by omega, by omega⟩ (hP 4 (by omega) (by omega)) hi ⟨by omega, by omega⟩ rfl ⟨by omega, by omega, by omega⟩ (by kernel_rfl) rfl rfl
  | 69, hi, hr => exact step_ld H 69 9 75 (ptOf 9) (row_of h1 h2 69 _ rfl) ⟨by omega, by omega⟩ (hP 9 (by omega) (by omega)) hi ⟨by omega, by omega⟩ rfl ⟨by omega, by omega, by omega⟩ (by kernel_rfl) rfl rfl
  | 70, hi, hr => exact step_bd2 H 70 76 74 75 _ _ (row_of h1 h2 70 _ rfl) hr rfl rfl hi ⟨by omega, by omega⟩ rfl ⟨by omega, by omega, by omega⟩ (by kernel_rfl) rfl rfl
  | 71, hi, hr => exact step_ins H 71 76 28 _ (row_of h1 h2 71 _ rfl) hr hi rfl ⟨by omega, by omega, by omega⟩ (by kernel_rfl) (by kernel_rfl) rfl rfl
  | 72, hi, hr => exact step_ld H 72 4 77 (ptOf 4) (row_of h1 h2 72 _ rfl) ⟨by omega, by omega⟩ (hP 4 (by omega) (by omega)) hi ⟨by omega, by omega⟩ rfl ⟨by omega, by omega, by omega⟩ (by kernel_rfl) rfl rfl
  | 73, hi, hr => exact step_ld H 73 9 78 (ptOf 9) (row_of h1 h2 73 _ rfl) ⟨by omega, by omega⟩ (hP 9 (by omega) (by omega)) hi ⟨by omega, by omega⟩ rfl ⟨by omega, by omega, by omega⟩ (by kernel_rfl) rfl rfl
  | 74, hi, hr => exact step_bd2 H 74 79 77 78 _ _ (row_of h1 h2 74 _ rfl) hr rfl rfl hi ⟨by omega, by omega⟩ rfl ⟨by omega, by omega, by omega⟩ (by kernel_rfl) rfl rfl
  | 75, hi, hr => exact step_ins H 75 79 29 _ (row_of h1 h2 75 _ rfl) hr hi rfl ⟨by omega, by omega, by omega⟩ (by kernel_rfl) (by kernel_rfl) rfl rfl
  | 76, hi, hr => exact step_mv H (row_of h1 h2 76 _ rfl) hr (by kernel_rfl)
  | 77, hi, hr => exact step_as H (row_of h1 h2 77 _ rfl) hr (by kernel_rfl)
  | (n + 78), hi, hr => exact absurd hi (by omega)
set_option maxHeartbeats 1000000 in
theorem region_map {W : World} {B : Nat} {p : Nat → Nat} {ops : Array Oper} {Q : Exit → Act → World → Prop} {id : Nat} {a : Act} {w : World} (hm : Tryd.prog.follows .mixedOrders = true)
    (h1 : ops.toList.map (fun o => (o.guard, o.dst, o.op)) = kdT.map (fun k => (none, k.dst, k.op))) (h2 : depsOk ops = true) (h3 : lowOk ops = true)
    (hW : W = { w with drawn := w.drawn + 1 }) (hP : ∀ j, 1 ≤ j → j ≤ 12 → PB W B (ptOf j) (p j)) (hB : B ≤ W.heap.size) (ht : a.tmps.size = 81) (hd : a.defers = []) (hx : ∀ j, 1 ≤ j → j ≤ 12 → a.tmps[j]? = some (pv (p j)))
    (fin : ∀ a' w' mb es c, Only [] W w' → a'.defers = [] → a'.tmps[0]? = some (.map (some mb)) → w'.heap[mb]? = some (.map es c) → W.heap.size ≤ mb → MapOk w' B (fun k => (tab k).isSome = true) es → Q .normal a' w') :
    (Code.region id ops true).wp Tryd.prog Q a w := by
  have hz : ops.size = 78 := by
    have := congrArg List.length h1
    simpa [kdT] using this
  refine wp_region_any hm ?_
  rw [← hW]
  refine wpAny_inv (fun listed a w => Ivt W B p listed a w) (fun listed a w i H hi => step_all h1 h2 hP hB listed a w i H (by have := (ready_out hi).1; omega) hi) ?_ left (fun listed i hi => left_set (ready_out hi).2.1) _ _ _ _ ?_ ?_
  · intro listed a' w' H hr
    have hall := all_in hz h3 H.sz hr
    obtain ⟨mb, es, c, m1, m2, m3, m4⟩ := H.mp (hall 0 (by omega))
    exact fin a' w' mb es c H.ho H.df ((H.l7 (hall 77 (by omega))).trans m1) m2 m3 (m4.iff (fun k => ins_key hall k))
  · have hno : ∀ i, (Array.replicate 78 false).getD i false = false := fun i => by
      simp only [Array.getD]
      split <;> simp
    rw [hz]
    refine ⟨by simp, ht, hd, Only.refl _ _, hx, fun t q _ hL => ?_, fun t q _ hL => ?_, fun hL => ?_, fun _ i _ => hno i, fun hL => ?_, fun hL => ?_⟩
    all_goals (rw [hno] at hL; cases hL)
  · rw [hz]
    show ((Array.replicate 78 false).toList.filter _).length ≤ 78
    refine Nat.le_trans (List.length_filter_le _ _) (by simp)
end Go.Proofs.YtgiekhohhogdiaaDoor
