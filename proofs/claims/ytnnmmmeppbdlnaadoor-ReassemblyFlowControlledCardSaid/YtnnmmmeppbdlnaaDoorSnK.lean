/- A drawing region inside a fence: one copy that waits for nothing is taken first, then loads, then a chain of stores. -/
import Derived.Test.YtnnmmmeppbdlnaaDoorSnL
namespace Go.Proofs.YtnnmmmeppbdlnaaDoor
open Go Go.RowKit Go.Shelf
set_option linter.unusedVariables false
set_option linter.unusedSimpArgs false

section
variable {P : Program} {ops : Array Oper} {md : Region.Mode} {w : World}
/-- Each head operation has been taken from the start, or something up to n waits for it. -/
def sinkFrom (md : Region.Mode) (ops : Array Oper) (L0 : Array Bool) (n : Nat) : Bool :=
  (List.range n).all fun i => L0.getD i false || (List.range (n + 1)).any fun j => decide (i < j) && Region.waitsFor md ops j i
structure InvF (md : Region.Mode) (ops : Array Oper) (L0 : Array Bool) (n : Nat) (listed : Array Bool) : Prop where
  base : HeadInv md ops n listed
  sub : ∀ i, L0.getD i false = true → listed.getD i false = true
theorem InvF.set {L0 : Array Bool} {n i : Nat} {listed : Array Bool} (inv : InvF md ops L0 n listed) (hi : i ∈ Region.ready md ops listed) (hin : i < n) : InvF md ops L0 n (listed.setIfInBounds i true) :=
  ⟨inv.base.set hi hin, fun k hk => getD_set_true (inv.sub k hk)⟩
theorem late_waits {L0 : Array Bool} {n : Nat} {listed : Array Bool} (hs : sinkFrom md ops L0 n = true) (hc : Region.chainB md ops n = true) (hn : n < ops.size) (inv : InvF md ops L0 n listed) :
    ∀ (d i : Nat), n - i = d → i < n → listed.getD i true = false → ∀ t, n ≤ t → t ∉ Region.ready md ops listed := by
  intro d
  induction d using Nat.strongRecOn with
  | _ d ih =>
    intro i hd hi hun t ht hr
    obtain ⟨_, ot, hot, hall⟩ := mem_ready.1 hr
    have htlt : t < ops.size := (Array.getElem?_eq_some_iff.1 hot).1
    by_cases htn : t = n
    · subst htn
      have h1 := List.all_eq_true.1 hs i (List.mem_range.2 hi)
      rcases Bool.or_eq_true_iff.1 h1 with h1 | h1
      · have := inv.sub i h1
        rw [getD_both hun] at this
        cases this
      · obtain ⟨j, hj, hj2⟩ := List.any_eq_true.1 h1
        simp only [Bool.and_eq_true, decide_eq_true_eq] at hj2
        obtain ⟨oj, hoj, e, he, hb, hon⟩ := Region.waitsFor_spec hj2.2
        have hjle : j ≤ t := by have := List.mem_range.1 hj; omega
        by_cases hjt : j = t
        · subst hjt
          obtain rfl : oj = ot := Option.some.inj (hoj.symm.trans hot)
          have h2 := hall e he hb
          rw [hon, getD_both hun] at h2
          cases h2
        · cases hl : listed.getD j false with
          | true =>
            have h2 := inv.base.closed j oj hoj hl e he hb
            rw [hon, getD_both hun] at h2
            cases h2
          | false =>
            have hjs : j < listed.size := by rw [inv.base.size]; omega
            exact ih (t - j) (by omega) j rfl (by omega) (getD_in hjs hl) t (Nat.le_refl _) hr
    · have h1 := List.all_eq_true.1 hc t (List.mem_range.2 htlt)
      simp only [Bool.or_eq_true, decide_eq_true_eq] at h1
      rcases h1 with h1 | h1
      · omega
      · obtain ⟨o', ho', e, he, hb, hon⟩ := Region.waitsFor_spec h1
        obtain rfl : o' = ot := Option.some.inj (ho'.symm.trans hot)
        have h2 := hall e he hb
        rw [hon, getD_both (inv.base.tail (t - 1) (by omega) (by omega))] at h2
        cases h2
theorem late_first {L0 : Array Bool} {n i : Nat} {oi : Oper} {v : Value} {L : Array Bool → Act → Prop} (hi : ops[i]? = some oi) (hsel : ∀ (j : Nat) (o : Oper) cs b, ops[j]? = some o → o.op ≠ .select cs b)
    (hs : sinkFrom md ops L0 n = true) (hc : Region.chainB md ops n = true) (hn : n < ops.size) (hin : i < n)
    (hdone : ∀ listed a, L listed a → ∀ j ∈ Region.ready md ops listed, n ≤ j) :
    ∀ (f : Nat) (listed : Array Bool) (a : Act), InvF md ops L0 n listed →
      (∀ j oj, ops[j]? = some oj → j ≠ i → listed.getD j true = false → (∀ e ∈ oj.after, Region.binds md e = true → e.on ≠ i) → oi.apart ops oj = true) →
      i ∈ Region.ready md ops listed → YieldsAt P ops w oi v a →
      wpAnyL P md ops w n L f (listed.setIfInBounds i true) (a.put oi.dst v) → wpAnyL P md ops w n L (f + 1) listed a := by
  intro f
  induction f with
  | zero =>
    intro listed a inv _ hr hy H
    have hun := (mem_ready.1 hr).1
    refine ⟨fun h => (by rw [h] at hr; cases hr), fun j hj => ?_⟩
    have hjn : j < n := (Nat.lt_or_ge j n).elim id fun h => absurd hj (late_waits hs hc hn inv _ i rfl hin hun j h)
    refine ⟨hjn, ?_⟩
    by_cases hji : j = i
    · subst hji; exact hy.stOp hi H
    · have := hdone _ _ H j (ready_mono hj hji)
      omega
  | succ f ih =>
    intro listed a inv hfree hr hy H
    have hun := (mem_ready.1 hr).1
    refine ⟨fun h => (by rw [h] at hr; cases hr), fun j hj => ?_⟩
    have hjn : j < n := (Nat.lt_or_ge j n).elim id fun h => absurd hj (late_waits hs hc hn inv _ i rfl hin hun j h)
    refine ⟨hjn, ?_⟩
    by_cases hji : j = i
    · subst hji; exact hy.stOp hi H
    · have h1 := (H.2 j (ready_mono hj hji)).2
      obtain ⟨hjun, oj, hoj, hall⟩ := mem_ready.1 hj
      have hnot : ∀ e ∈ oj.after, Region.binds md e = true → e.on ≠ i := fun e he hb heq => by
        have h1 := hall e he hb
        rw [heq, getD_both hun] at h1
        cases h1
      have h2 := stOp_put hoj (hfree j oj hoj hji hjun hnot) (fun cs b => hsel i oi cs b hi) (fun cs b => hsel j oj cs b hoj) hy h1
      have hfree' : ∀ k ok, ops[k]? = some ok → k ≠ i → (listed.setIfInBounds j true).getD k true = false →
          (∀ e ∈ ok.after, Region.binds md e = true → e.on ≠ i) → oi.apart ops ok = true := fun k ok hk hki hun hno => by
        refine hfree k ok hk hki ?_ hno
        by_cases hjk : j = k
        · subst hjk; exact hjun
        · rw [getD_set_ne true hjk] at hun; exact hun
      refine stOp_mono (fun a' h3 => ih (listed.setIfInBounds j true) a' (inv.set hj hjn) hfree' (ready_mono hr (Ne.symm hji)) h3.1 ?_) h2
      rw [Array.setIfInBounds_comm _ _ hji]
      exact h3.2
/-- The indexes ks may be taken one after the other; then the chain from n on is all that is left. -/
def lexKs (md : Region.Mode) (ops : Array Oper) (g n : Nat) : List Nat → Array Bool → Bool
  | [], listed => Region.seqB md ops g n listed
  | k :: ks, listed => decide (k < n) && (Region.ready md ops listed).contains k && Region.free md ops listed k && lexKs md ops g n ks (listed.setIfInBounds k true)
theorem late_lex {L0 : Array Bool} {n g : Nat} {Lq : Act → Prop} (hsel : Region.noSelect ops = true) (hs : sinkFrom md ops L0 n = true) (hc : Region.chainB md ops n = true) (hn : n < ops.size) :
    ∀ (ks : List Nat) (l : List Oper) (listed : Array Bool) (a : Act), (ks.map (ops[·]?) = l.map some) → InvF md ops L0 n listed →
    lexKs md ops g n ks listed = true → wpStill P ops w Lq l a →
    wpAnyL P md ops w n (fun listed' a' => Region.seqB md ops g n listed' = true ∧ Lq a') ks.length listed a
  | [], [], listed, a, _, inv, hB, h => ⟨hB, h⟩
  | [], _ :: _, _, _, hl, _, _, _ => by simp at hl
  | _ :: _, [], _, _, hl, _, _, _ => by simp at hl
  | k :: ks, o :: l, listed, a, hl, inv, hB, h => by
    simp only [List.map_cons, List.cons.injEq] at hl
    have h0 : ops[k]? = some o := hl.1
    simp only [lexKs, Bool.and_eq_true, decide_eq_true_eq] at hB
    obtain ⟨⟨⟨hkn, hr⟩, hf⟩, hB'⟩ := hB
    have hr' : k ∈ Region.ready md ops listed := by simpa using hr
    have hst : stOp P ops w k (wpStill P ops w Lq l) a := by unfold stOp; simp only [h0]; exact h
    obtain ⟨v, hy, hK⟩ := yieldsAt_of_stOp h0 hst
    exact late_first h0 (Region.noSelect_spec hsel) hs hc hn hkn (fun listed' a' hL => seqB_ready hL.1) ks.length listed a inv (Region.free_spec h0 hf) hr' hy
      (late_lex hsel hs hc hn ks l _ _ hl.2 (inv.set hr' hkn) hB' hK)
def takeB (ops : Array Oper) (t n : Nat) (ks : List Nat) : Bool :=
  Region.noSelect ops && decide (n < ops.size) && decide (t < n) && decide (ks.length + 1 = n) && (Region.ready .any ops (Array.replicate ops.size false)).contains t && Region.free .any ops (Array.replicate ops.size false) t &&
  sinkFrom .any ops ((Array.replicate ops.size false).setIfInBounds t true) n && Region.chainB .any ops n && lexKs .any ops (ops.size - n) n ks ((Array.replicate ops.size false).setIfInBounds t true)
end

section
variable {F : Fence} {m : Nat} {P : Program}
theorem wpIn_region_of_any {id : Nat} {Q : Exit → Act → World → Prop} {a : Act} {w : World} {l : List Oper} (hm : P.follows .mixedOrders = true) (hcalm : l.all calmOp = true)
    (h : wpAny P .any l.toArray (fun e a w => e ≠ .outgrown ∧ Q e a w) l.toArray.size (Array.replicate l.toArray.size false) a { w with drawn := w.drawn + 1 }) : (Code.region id l.toArray true).wpIn F m P Q a w := by
  have hcalm' : ∀ (i : Nat) o, l.toArray[i]? = some o → calmOp o = true := fun i o ho => by
    rw [List.all_eq_true] at hcalm
    exact hcalm o (List.mem_of_getElem? (by simpa using ho))
  have hno : ¬ LetsOut (fun e a w => e ≠ .outgrown ∧ Q e a w) := fun ⟨a, w, h1, _⟩ => h1 rfl
  have := calm_any (F := F) (n := m) hno hcalm' _ _ _ _ h
  have hmono : ∀ (fuel : Nat) (listed : Array Bool) (a : Act) (w : World), wpAnyIn F m P .any l.toArray (fun e a w => e ≠ .outgrown ∧ Q e a w) fuel listed a w → wpAnyIn F m P .any l.toArray Q fuel listed a w := by
    intro fuel
    induction fuel with
    | zero => exact fun _ _ _ h => ⟨h.1, h.2.2⟩
    | succ k ih =>
      intro listed a w h
      refine ⟨fun e => (h.1 e).2, fun i hi => ?_⟩
      have h1 := wpOpIn_mono (fun a w => ih _ a w) (h.2 i hi)
      unfold wpOpIn at h1 ⊢
      cases ho : l.toArray[i]? with
      | none => simpa [ho] using h1
      | some o =>
        simp only [ho] at h1 ⊢
        split
        · rename_i hw
          simp only [hw, if_true] at h1
          unfold Oper.wpIn at h1 ⊢
          refine ⟨h1.1, ?_⟩
          have hc := calm_op (hcalm' i o ho) a.eval P w
          rw [Oper.semAt_eq _ _ _ (calm_defer (hcalm' i o ho))] at h1 ⊢
          have h2 := h1.2
          generalize (execOp a.eval o).run P w = r at *
          cases r with
          | ok x w' => cases x <;> first | exact h2 | exact hc.elim
          | halt x w' => cases x <;> first | exact h2.2 | exact h2
        · rename_i hw
          simp only [hw] at h1
          exact h1
  exact wpIn_region_any hm (hmono _ _ _ _ this)
theorem wpIn_region_take_tail {id : Nat} {Q : Exit → Act → World → Prop} {a : Act} {w : World} {l : List Oper} (t n : Nat) (ks : List Nat) (l' : List Oper) (ot : Oper) (v : Value) (hm : P.follows .mixedOrders = true) (hB : takeB l.toArray t n ks = true) (hcalm : l.all calmOp = true)
    (ho : l.toArray[t]? = some ot) (hl' : ks.map (l.toArray[·]?) = l'.map some) (hQ : ∀ c a w, Q (.panic c) (a.put ot.dst v) w → Q (.panic c) a w) (hy : Yields P l.toArray ot v a)
    (h : wpStill P l.toArray { w with drawn := w.drawn + 1 } (fun a' => wpList P l.toArray (fun e a w => e ≠ .outgrown ∧ Q e a w) (l.drop n) a' { w with drawn := w.drawn + 1 }) l' (a.put ot.dst v)) : (Code.region id l.toArray true).wpIn F m P Q a w := by
  simp only [takeB, Bool.and_eq_true, decide_eq_true_eq] at hB
  obtain ⟨⟨⟨⟨⟨⟨⟨⟨hsel, hn⟩, ht⟩, hks⟩, hr⟩, hf⟩, hs⟩, hc⟩, hlex⟩ := hB
  have hn' : n < l.length := by simpa using hn
  have hdl : (l.drop n).length = l.toArray.size - n := by simp
  have inv00 : HeadInv .any l.toArray n (Array.replicate l.toArray.size false) :=
    ⟨by simp, fun j oj _ hl => (by rw [getD_replicate_false] at hl; cases hl), fun t _ ht => getD_in (by simpa using ht) (getD_replicate_false _ _)⟩
  have inv0 : InvF .any l.toArray ((Array.replicate l.toArray.size false).setIfInBounds t true) n ((Array.replicate l.toArray.size false).setIfInBounds t true) := ⟨inv00.set (by simpa using hr) ht, fun _ h => h⟩
  have H := late_lex (md := .any) (P := P) (g := l.toArray.size - n) hsel hs hc hn ks l' _ _ hl' inv0 hlex h
  have := wpAny_of_head (Q' := fun e a w => e ≠ .outgrown ∧ Q e a w) (g := l.toArray.size - n) (fun listed a' hL => by
    have := wpAny_of_seq (md := .any) (Q' := fun e a w => e ≠ .outgrown ∧ Q e a w) (l.drop n) n listed a' { w with drawn := w.drawn + 1 } (fun j => by simp [List.getElem?_drop]) (by rw [hdl]; exact hL.1) hL.2
    rwa [hdl] at this) _ _ _ H
  refine wpIn_region_of_any hm hcalm ?_
  rw [show l.toArray.size = (ks.length + (l.toArray.size - n)) + 1 by omega]
  refine wpAny_take ho hsel ?_ ?_ (fun c a w hh => ⟨hh.1, hQ c a w hh.2⟩) hy ?_
  · rw [show (ks.length + (l.toArray.size - n)) + 1 = l.toArray.size by omega]; exact hf
  · rw [show (ks.length + (l.toArray.size - n)) + 1 = l.toArray.size by omega]; exact hr
  · rw [show Array.replicate (ks.length + (l.toArray.size - n) + 1) false = Array.replicate l.toArray.size false by rw [show (ks.length + (l.toArray.size - n)) + 1 = l.toArray.size by omega]]; exact this
theorem wpIn_region_take_tail' {id : Nat} {Q : Exit → Act → World → Prop} {a : Act} {w : World} {l : List Oper} (t n : Nat) (ks : List Nat) (ot : Oper) (v : Value) (hm : P.follows .mixedOrders = true) (hB : takeB l.toArray t n ks = true) (hcalm : l.all calmOp = true)
    (ho : l.toArray[t]? = some ot) (hl' : ks.map (l.toArray[·]?) = (l.take t ++ (l.drop (t + 1)).take (n - t - 1)).map some) (hQ : ∀ c a w, Q (.panic c) (a.put ot.dst v) w → Q (.panic c) a w) (hy : Yields P l.toArray ot v a)
    (h : wpStill P l.toArray { w with drawn := w.drawn + 1 } (fun a' => wpList P l.toArray (fun e a w => e ≠ .outgrown ∧ Q e a w) (l.drop n) a' { w with drawn := w.drawn + 1 }) (l.take t ++ (l.drop (t + 1)).take (n - t - 1)) (a.put ot.dst v)) : (Code.region id l.toArray true).wpIn F m P Q a w :=
  wpIn_region_take_tail t n ks _ ot v hm hB hcalm ho hl' hQ hy h
end
end Go.Proofs.YtnnmmmeppbdlnaaDoor
