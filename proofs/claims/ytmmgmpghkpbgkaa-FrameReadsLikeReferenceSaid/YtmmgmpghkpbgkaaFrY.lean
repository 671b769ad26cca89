/- Contracts of package frame: the three functions of a part, whichever part it is. -/
import Derived.Test.YtmmgmpghkpbgkaaFrQ
namespace Go.Proofs.Ytmmgmpghkpbgkaa
open Go Go.RowKit
set_option linter.unusedVariables false
set_option linter.unusedSimpArgs false

set_option maxRecDepth 100000 in
set_option maxHeartbeats 1000000 in
theorem clr_ranges (b : Nat) (f : Fr) (rv : Value) (w : World) (hA : FrAt w b f rv) :
    Calls Try.prog 91 #[.pointer (some ⟨b, 0, none⟩)] w fun e w' => e = .returned (.tuple #[]) ∧ FrAt w' b { f with rg := [] } (.slice none 0 0) ∧ Only [b] w w' := by
  have c0 : ∃ u, w.cell? ⟨b, 9, none⟩ = some u := ⟨_, At.cell hA 9 rfl⟩
  obtain ⟨u, c0⟩ := c0
  have fr : w.frozen? ⟨b, 9, none⟩ = false := At.free hA 9
  have HA := Lib.hid hA
  clear hA
  go_enter Try.func91, Try.ntmps91
  go_wp2_with fail
  go_end0
  exact ⟨rfl, (show At w b 33 _ from HA.out).set 9 _ rfl, (Only.refl [b] w).put (by simp) _⟩
/-- The bounds of a text are small. -/
def PtOk : Pt → Prop
  | .text least most => least ≤ 1024 ∧ most ≤ 1024
  | _ => True
theorem tab_ok {k : Int} {l : List Pt} (h : tab k = some l) : ∀ p ∈ l, PtOk p := by
  refine tab_ind (P := fun _ l => ∀ p ∈ l, PtOk p) ?_ ?_ ?_ ?_ ?_ ?_ ?_ ?_ ?_ ?_ ?_ ?_ ?_ ?_ ?_ ?_ ?_ ?_ ?_ ?_ ?_ k l h
  all_goals simp [PtOk]
theorem put_p {w : World} {B b f0 : Nat} {c0 : Array Value} {v1 v2 rv : Value} {p : Pt} {f : Fr} (hV : PartV w B p (.func (.func f0) #[] c0) v1 v2) (hk : PtOk p) (hA : FrAt w b f rv) (hf : FrWf f) (hR : RgAt w rv f.rg) (hsz : f.rg.length ≤ 4611686018427387903) :
    Calls Try.prog f0 (#[.pointer (some ⟨b, 0, none⟩)] ++ c0) w fun e w' => e = strE (putP p f) ∧ Only [] w w' := by
  cases p with
  | int most x =>
    obtain ⟨fk, q1, q2, hx, _, _, h0, _, _, g1, g2⟩ := hV
    simp only [fnv, Value.func.injEq, Fn.func.injEq, true_and] at h0
    obtain ⟨rfl, rfl⟩ := h0
    cases x with
    | st => simp only [FldFn] at hx; subst hx; exact put_st b q1 q2 f rv most w hA g1 g2 hf.st
    | off => simp only [FldFn] at hx; subst hx; exact put_off b q1 q2 f rv most w hA g1 g2 hf.off
    | cd => simp only [FldFn] at hx; subst hx; exact put_cd b q1 q2 f rv most w hA g1 g2 hf.cd
    | sq => simp only [FldFn] at hx; subst hx; exact put_sq b q1 q2 f rv most w hA g1 g2 hf.sq
    | dl => simp only [FldFn] at hx; subst hx; exact put_dl b q1 q2 f rv most w hA g1 g2 hf.dl
    | mx =>
      rcases hx with rfl | rfl
      · exact put_mx b q1 q2 f rv most w hA g1 g2 hf.mx
      · exact put_mz b q1 q2 f rv most w hA g1 g2 hf.mx
  | text least most =>
    obtain ⟨q1, q2, _, _, h0, _, _, g1, g2⟩ := hV
    simp only [fnv, Value.func.injEq, Fn.func.injEq, true_and] at h0
    obtain ⟨rfl, rfl⟩ := h0
    exact put_text b q1 q2 f rv least most hk.1 hk.2 hf w hA g1 g2
  | chal =>
    obtain ⟨q1, q2, _, _, h0, _, _, g1, g2⟩ := hV
    simp only [fnv, Value.func.injEq, Fn.func.injEq, true_and] at h0
    obtain ⟨rfl, rfl⟩ := h0
    exact put_chal b q1 q2 f rv hf w hA g1 g2
  | cidp =>
    obtain ⟨q1, q2, _, _, h0, _, _, g1, g2⟩ := hV
    simp only [fnv, Value.func.injEq, Fn.func.injEq, true_and] at h0
    obtain ⟨rfl, rfl⟩ := h0
    exact put_cidp b q1 q2 f rv hf w hA g1 g2
  | uni =>
    obtain ⟨h0, _, _⟩ := hV
    simp only [fnv, Value.func.injEq, Fn.func.injEq, true_and] at h0
    obtain ⟨rfl, rfl⟩ := h0
    exact put_uni b f rv w hA
  | retire =>
    obtain ⟨q1, _, h0, _, _, g1⟩ := hV
    simp only [fnv, Value.func.injEq, Fn.func.injEq, true_and] at h0
    obtain ⟨rfl, rfl⟩ := h0
    exact put_retire b f rv hf w hA
  | ranges =>
    obtain ⟨h0, _, _⟩ := hV
    simp only [fnv, Value.func.injEq, Fn.func.injEq, true_and] at h0
    obtain ⟨rfl, rfl⟩ := h0
    exact put_ranges b f rv w hA hR hsz
/-- The slice of the ranges once a part is cleared. -/
def clrV : Pt → Value → Value
  | .ranges, _ => .slice none 0 0
  | _, rv => rv
theorem clr_p {w : World} {B b f2 : Nat} {c2 : Array Value} {v0 v1 rv : Value} {p : Pt} {f : Fr} (hV : PartV w B p v0 v1 (.func (.func f2) #[] c2)) (hA : FrAt w b f rv) :
    Calls Try.prog f2 (#[.pointer (some ⟨b, 0, none⟩)] ++ c2) w fun e w' => e = .returned (.tuple #[]) ∧ FrAt w' b (clrP p f) (clrV p rv) ∧ Only [b] w w' := by
  cases p with
  | int most x =>
    obtain ⟨fk, q1, q2, hx, _, _, _, _, h0, g1, g2⟩ := hV
    simp only [fnv, Value.func.injEq, Fn.func.injEq, true_and] at h0
    obtain ⟨rfl, rfl⟩ := h0
    cases x with
    | st => simp only [FldFn] at hx; subst hx; exact clr_st b q1 f rv w hA g1
    | off => simp only [FldFn] at hx; subst hx; exact clr_off b q1 f rv w hA g1
    | cd => simp only [FldFn] at hx; subst hx; exact clr_cd b q1 f rv w hA g1
    | sq => simp only [FldFn] at hx; subst hx; exact clr_sq b q1 f rv w hA g1
    | dl => simp only [FldFn] at hx; subst hx; exact clr_dl b q1 f rv w hA g1
    | mx =>
      rcases hx with rfl | rfl
      · exact clr_mx b q1 f rv w hA g1
      · exact clr_mz b q1 f rv w hA g1
  | text least most =>
    obtain ⟨q1, q2, _, _, _, _, h0, g1, g2⟩ := hV
    simp only [fnv, Value.func.injEq, Fn.func.injEq, true_and] at h0
    obtain ⟨rfl, rfl⟩ := h0
    exact clr_text b f rv w hA
  | chal =>
    obtain ⟨q1, q2, _, _, _, _, h0, g1, g2⟩ := hV
    simp only [fnv, Value.func.injEq, Fn.func.injEq, true_and] at h0
    obtain ⟨rfl, rfl⟩ := h0
    exact clr_chal b q1 f rv w hA g1
  | cidp =>
    obtain ⟨q1, q2, _, _, _, _, h0, g1, g2⟩ := hV
    simp only [fnv, Value.func.injEq, Fn.func.injEq, true_and] at h0
    obtain ⟨rfl, rfl⟩ := h0
    exact clr_cidp b q1 f rv w hA g1
  | uni =>
    obtain ⟨_, _, h0⟩ := hV
    simp only [fnv, Value.func.injEq, Fn.func.injEq, true_and] at h0
    obtain ⟨rfl, rfl⟩ := h0
    exact clr_uni b f rv w hA
  | retire =>
    obtain ⟨q1, _, _, _, h0, g1⟩ := hV
    simp only [fnv, Value.func.injEq, Fn.func.injEq, true_and] at h0
    obtain ⟨rfl, rfl⟩ := h0
    exact clr_rt b q1 f rv w hA g1
  | ranges =>
    obtain ⟨_, _, h0⟩ := hV
    simp only [fnv, Value.func.injEq, Fn.func.injEq, true_and] at h0
    obtain ⟨rfl, rfl⟩ := h0
    exact clr_ranges b f rv w hA
/-- What reading a part leaves: the ranges are there only behind the part that reads them. -/
def GetQ (p : Pt) (R : Option (Fr × List UInt8)) (rb b : Nat) (s : ByteArray) (w : World) (e : Ending) (w' : World) : Prop := Only [rb, b] w w' ∧ match R with
    | some (g, l) => e = .returned (.tuple #[]) ∧ ∃ rv', FrAt w' b g rv' ∧ RgAt w' rv' g.rg ∧ RgNew w.heap.size rv' ∧ (p.isR = false → rv' = .slice none 0 0 ∧ g.rg = []) ∧ ∃ a', a' ≤ s.size ∧ l = s.data.toList.drop a' ∧ RdAt w' rb s a'
    | none => e = MAL
theorem RgAt.nil (w : World) : RgAt w (.slice none 0 0) [] := ⟨none, 0, rfl, fun i hi => by simp at hi⟩
theorem GetQ.of_post {p : Pt} {rb b : Nat} {s : ByteArray} {a : Nat} {f : Fr} {w w' : World} {e : Ending} (h : GetPost p rb b s a f (.slice none 0 0) w e w') (hrg : f.rg = []) (hp : p.isR = false) (hg : ∀ g l, getP p f (s.data.toList.drop a) = some (g, l) → g.rg = f.rg) : GetQ p (getP p f (s.data.toList.drop a)) rb b s w e w' := by
  obtain ⟨h1, h2⟩ := h
  refine ⟨h1, ?_⟩
  cases hR : getP p f (s.data.toList.drop a) with
  | none => rw [hR] at h2; exact h2
  | some q =>
    obtain ⟨g, l⟩ := q
    rw [hR] at h2
    have := hg g l hR
    exact ⟨h2.1, _, h2.2.1, by rw [this, hrg]; exact RgAt.nil w', RgNew.nil _, fun _ => ⟨rfl, by rw [this, hrg]⟩, h2.2.2⟩
theorem GetPost.num {p : Pt} {rb b : Nat} {s : ByteArray} {a : Nat} {f : Fr} {rv : Value} {w w' : World} {e : Ending} (u : Int → Fr) (ha : a ≤ s.size) (hp : getP p f (s.data.toList.drop a) = (numD (s.data.toList.drop a)).map fun q => (u q.1, q.2))
    (h : Only [rb, b] w w' ∧ match vDec (s.data.toList.drop a) with
      | some (n, k) => e = .returned (.tuple #[]) ∧ FrAt w' b (u n) rv ∧ RdAt w' rb s (a + k)
      | none => e = MAL) : GetPost p rb b s a f rv w e w' := by
  obtain ⟨h1, h2⟩ := h
  refine ⟨h1, ?_⟩
  rw [hp]
  unfold numD
  cases hd : vDec (s.data.toList.drop a) with
  | none => rw [hd] at h2; exact h2
  | some q =>
    obtain ⟨n, k⟩ := q
    rw [hd] at h2
    obtain ⟨h0, hn, h3, h4, h5⟩ := vDec_some _ n k hd
    have hk := drop_len s a
    refine ⟨h2.1, h2.2.1, a + k, ?_, by simp [List.drop_drop], h2.2.2⟩
    first | omega | (have := congrArg List.length h5; simp at this; omega)
theorem get_p {w : World} {B rb b f1 : Nat} {c1 : Array Value} {v0 v2 : Value} {p : Pt} {f : Fr} {s : ByteArray} {a : Nat} (hV : PartV w B p v0 (.func (.func f1) #[] c1) v2) (hrb : rb ≠ b) (hB : rb < B ∧ b < B) (ha : a ≤ s.size) (hs : s.size ≤ 4611686018427387903) (hR : RdAt w rb s a) (hA : FrAt w b f (.slice none 0 0)) (hrg : f.rg = []) :
    Calls Try.prog f1 (#[.pointer (some ⟨rb, 0, none⟩), .pointer (some ⟨b, 0, none⟩)] ++ c1) w (GetQ p (getP p f (s.data.toList.drop a)) rb b s w) := by
  cases p with
  | int most x =>
    obtain ⟨fk, q1, q2, hx, _, _, _, h0, _, g1, g2⟩ := hV
    simp only [fnv, Value.func.injEq, Fn.func.injEq, true_and] at h0
    obtain ⟨rfl, rfl⟩ := h0
    have hg : ∀ g l, getP (.int most x) f (s.data.toList.drop a) = some (g, l) → g.rg = f.rg := by
      intro g l h
      simp only [getP] at h
      cases hn : numD (s.data.toList.drop a) with
      | none => rw [hn] at h; cases h
      | some q => rw [hn] at h; cases h; exact set_rg f x _
    refine Calls.mono ?_ (fun e w' h => GetQ.of_post h hrg rfl hg)
    cases x with
    | st => simp only [FldFn] at hx; subst hx; exact (get_st rb b q1 hrb s a ha hs f _ w hR hA g1).mono (fun e w' h => GetPost.num (fun n => f.set .st n) ha rfl h)
    | off => simp only [FldFn] at hx; subst hx; exact (get_off rb b q1 hrb s a ha hs f _ w hR hA g1).mono (fun e w' h => GetPost.num (fun n => f.set .off n) ha rfl h)
    | cd => simp only [FldFn] at hx; subst hx; exact (get_cd rb b q1 hrb s a ha hs f _ w hR hA g1).mono (fun e w' h => GetPost.num (fun n => f.set .cd n) ha rfl h)
    | sq => simp only [FldFn] at hx; subst hx; exact (get_sq rb b q1 hrb s a ha hs f _ w hR hA g1).mono (fun e w' h => GetPost.num (fun n => f.set .sq n) ha rfl h)
    | dl => simp only [FldFn] at hx; subst hx; exact (get_dl rb b q1 hrb s a ha hs f _ w hR hA g1).mono (fun e w' h => GetPost.num (fun n => f.set .dl n) ha rfl h)
    | mx =>
      rcases hx with rfl | rfl
      · exact (get_mx rb b q1 hrb s a ha hs f _ w hR hA g1).mono (fun e w' h => GetPost.num (fun n => f.set .mx n) ha rfl h)
      · exact (get_mz rb b q1 hrb s a ha hs f _ w hR hA g1).mono (fun e w' h => GetPost.num (fun n => f.set .mx n) ha rfl h)
  | text least most =>
    obtain ⟨q1, q2, _, _, _, h0, _, g1, g2⟩ := hV
    simp only [fnv, Value.func.injEq, Fn.func.injEq, true_and] at h0
    obtain ⟨rfl, rfl⟩ := h0
    refine (get_text rb b hrb least most s a ha hs f _ w hR hA).mono (fun e w' h => GetQ.of_post h hrg rfl ?_)
    intro g l h
    simp only [getP] at h
    split at h
    · cases h
    · split at h <;> cases h
      rfl
  | chal =>
    obtain ⟨q1, q2, l1, l2, _, h0, _, g1, g2⟩ := hV
    simp only [fnv, Value.func.injEq, Fn.func.injEq, true_and] at h0
    obtain ⟨rfl, rfl⟩ := h0
    refine (get_chal rb b q1 q2 hrb (by omega) s a ha hs f _ w hR hA g1 g2).mono (fun e w' h => GetQ.of_post h hrg rfl ?_)
    intro g l h
    simp only [getP] at h
    split at h <;> cases h
    rfl
  | cidp =>
    obtain ⟨q1, q2, l1, l2, _, h0, _, g1, g2⟩ := hV
    simp only [fnv, Value.func.injEq, Fn.func.injEq, true_and] at h0
    obtain ⟨rfl, rfl⟩ := h0
    refine (get_cidp rb b q1 q2 hrb (by omega) s a ha hs f _ w hR hA g1 g2).mono (fun e w' h => GetQ.of_post h hrg rfl ?_)
    intro g l h
    simp only [getP] at h
    split at h <;> cases h
    rfl
  | uni =>
    obtain ⟨_, h0, _⟩ := hV
    simp only [fnv, Value.func.injEq, Fn.func.injEq, true_and] at h0
    obtain ⟨rfl, rfl⟩ := h0
    refine (get_uni rb b hrb s a ha hs f _ w hR hA).mono (fun e w' h => GetQ.of_post h hrg rfl ?_)
    intro g l h
    simp only [getP] at h
    split at h
    · cases h
    · split at h <;> cases h
      rfl
  | retire =>
    obtain ⟨q1, _, _, h0, _, g1⟩ := hV
    simp only [fnv, Value.func.injEq, Fn.func.injEq, true_and] at h0
    obtain ⟨rfl, rfl⟩ := h0
    have hg : ∀ g l, getP .retire f (s.data.toList.drop a) = some (g, l) → g.rg = f.rg := by
      intro g l h
      simp only [getP] at h
      cases hn : numD (s.data.toList.drop a) with
      | none => rw [hn] at h; cases h
      | some q => rw [hn] at h; cases h; rfl
    exact (get_rt rb b q1 hrb s a ha hs f _ w hR hA g1).mono (fun e w' h => GetQ.of_post (GetPost.num (fun n => { f with rt := n }) ha rfl h) hrg rfl hg)
  | ranges =>
    obtain ⟨_, h0, _⟩ := hV
    simp only [fnv, Value.func.injEq, Fn.func.injEq, true_and] at h0
    obtain ⟨rfl, rfl⟩ := h0
    refine (get_ranges rb b hrb s a ha hs f hrg w hR hA).mono (fun e w' h => ?_)
    obtain ⟨h1, h2⟩ := h
    refine ⟨h1, ?_⟩
    cases hR2 : getP .ranges f (s.data.toList.drop a) with
    | none => rw [hR2] at h2; exact h2
    | some q =>
      obtain ⟨g, l⟩ := q
      rw [hR2] at h2
      obtain ⟨e1, rv', e2, e3, e3n, e4⟩ := h2
      exact ⟨e1, rv', e2, e3, e3n, fun h => by simp [Pt.isR] at h, e4⟩
end Go.Proofs.Ytmmgmpghkpbgkaa
