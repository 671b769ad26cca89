/- The table of parts: the operations of the map literal, and the invariant. -/
import Derived.Test.YtmmgmpghkpbgkaaFrR
namespace Go.Proofs.Ytmmgmpghkpbgkaa
open Go Go.RowKit
set_option linter.unusedVariables false
set_option linter.unusedSimpArgs false

/-- What a slot stands for: a part; the parts of a type. -/
def slotPt (t : Nat) : Option Pt := if 81 ≤ t then none else match t with
  | 29 => some (.int mV .dl)
  | 30 => some (.ranges)
  | 32 => some (.int mV .st)
  | 33 => some (.int mC .cd)
  | 34 => some (.int mO .mx)
  | 36 => some (.int mV .st)
  | 37 => some (.int mC .cd)
  | 39 => some (.int mO .off)
  | 40 => some (.text 0 1024)
  | 42 => some (.text 1 128)
  | 44 => some (.int mV .st)
  | 45 => some (.int mO .off)
  | 46 => some (.text 0 1024)
  | 48 => some (.int mV .mx)
  | 50 => some (.int mV .mx)
  | 52 => some (.int mV .st)
  | 53 => some (.int mV .mx)
  | 55 => some (.int mV .st)
  | 56 => some (.int mV .mx)
  | 58 => some (.uni)
  | 59 => some (.int mV .mx)
  | 61 => some (.uni)
  | 62 => some (.int mV .mx)
  | 64 => some (.int mV .sq)
  | 65 => some (.retire)
  | 66 => some (.cidp)
  | 68 => some (.int mV .sq)
  | 70 => some (.chal)
  | 72 => some (.chal)
  | 74 => some (.int mC .cd)
  | 75 => some (.text 0 64)
  | 77 => some (.int mC .cd)
  | 78 => some (.text 0 64)
  | _ => none
def slotPl (t : Nat) : Option (List Pt) := if 81 ≤ t then none else match t with
  | 26 => some []
  | 27 => some []
  | 28 => some []
  | 31 => some [.int mV .dl, .ranges]
  | 35 => some [.int mV .st, .int mC .cd, .int mO .mx]
  | 38 => some [.int mV .st, .int mC .cd]
  | 41 => some [.int mO .off, .text 0 1024]
  | 43 => some [.text 1 128]
  | 47 => some [.int mV .st, .int mO .off, .text 0 1024]
  | 49 => some [.int mV .mx]
  | 51 => some [.int mV .mx]
  | 54 => some [.int mV .st, .int mV .mx]
  | 57 => some [.int mV .st, .int mV .mx]
  | 60 => some [.uni, .int mV .mx]
  | 63 => some [.uni, .int mV .mx]
  | 67 => some [.int mV .sq, .retire, .cidp]
  | 69 => some [.int mV .sq]
  | 71 => some [.chal]
  | 73 => some [.chal]
  | 76 => some [.int mC .cd, .text 0 64]
  | 79 => some [.int mC .cd, .text 0 64]
  | _ => none
/-- The operation that writes a slot; the key that an operation inserts. -/
def opOf (t : Nat) : Nat := match t with
  | 0 => 77
  | 25 => 0
  | 26 => 1
  | 27 => 3
  | 28 => 5
  | 29 => 7
  | 30 => 8
  | 31 => 9
  | 32 => 11
  | 33 => 12
  | 34 => 13
  | 35 => 14
  | 36 => 16
  | 37 => 17
  | 38 => 18
  | 39 => 20
  | 40 => 21
  | 41 => 22
  | 42 => 24
  | 43 => 25
  | 44 => 27
  | 45 => 28
  | 46 => 29
  | 47 => 30
  | 48 => 32
  | 49 => 33
  | 50 => 35
  | 51 => 36
  | 52 => 38
  | 53 => 39
  | 54 => 40
  | 55 => 42
  | 56 => 43
  | 57 => 44
  | 58 => 46
  | 59 => 47
  | 60 => 48
  | 61 => 50
  | 62 => 51
  | 63 => 52
  | 64 => 54
  | 65 => 55
  | 66 => 56
  | 67 => 57
  | 68 => 59
  | 69 => 60
  | 70 => 62
  | 71 => 63
  | 72 => 65
  | 73 => 66
  | 74 => 68
  | 75 => 69
  | 76 => 70
  | 77 => 72
  | 78 => 73
  | 79 => 74
  | 80 => 76
  | _ => 99
def insK (i : Nat) : Option Int := match i with
  | 2 => some 0
  | 4 => some 1
  | 6 => some 30
  | 10 => some 2
  | 15 => some 4
  | 19 => some 5
  | 23 => some 6
  | 26 => some 7
  | 31 => some 8
  | 34 => some 16
  | 37 => some 20
  | 41 => some 17
  | 45 => some 21
  | 49 => some 18
  | 53 => some 22
  | 58 => some 24
  | 61 => some 25
  | 64 => some 26
  | 67 => some 27
  | 71 => some 28
  | 75 => some 29
  | _ => none
def InsIn (listed : Array Bool) (k : Int) : Prop := ∃ i, i < 78 ∧ insK i = some k ∧ listed.getD i false = true
/-- What holds while the map literal is evaluated, in whatever order. -/
structure Ivt (W : World) (B : Nat) (p : Nat → Nat) (listed : Array Bool) (a : Act) (w : World) : Prop where
  sz : listed.size = 78
  ts : a.tmps.size = 81
  df : a.defers = []
  ho : Only [] W w
  fx : ∀ j, 1 ≤ j → j ≤ 12 → a.tmps[j]? = some (pv (p j))
  pt : ∀ t q, slotPt t = some q → listed.getD (opOf t) false = true → ∃ v, a.tmps[t]? = some v ∧ PV w B q v
  pl : ∀ t l, slotPl t = some l → listed.getD (opOf t) false = true → ∃ v, a.tmps[t]? = some v ∧ SlAt w B l v
  mp : listed.getD 0 false = true → ∃ mb es c, a.tmps[25]? = some (.map (some mb)) ∧ w.heap[mb]? = some (.map es c) ∧ W.heap.size ≤ mb ∧ MapOk w B (InsIn listed) es
  m0 : listed.getD 0 false = false → ∀ i, insK i ≠ none ∨ 76 ≤ i → listed.getD i false = false
  l6 : listed.getD 76 false = true → a.tmps[80]? = a.tmps[25]?
  l7 : listed.getD 77 false = true → a.tmps[0]? = a.tmps[25]?
theorem put_get (a : Act) (d : Nat) (v : Value) (t : Nat) (hd : d < a.tmps.size) : (a.put (some d) v).tmps[t]? = if t = d then some v else a.tmps[t]? := by
  show (a.tmps.setIfInBounds d v)[t]? = _
  rw [Array.getElem?_setIfInBounds]
  by_cases h : d = t
  · subst h; simp [hd]
  · rw [if_neg h, if_neg (fun e => h e.symm)]
theorem getD_set (listed : Array Bool) (i j : Nat) (hi : i < listed.size) : (listed.setIfInBounds i true).getD j false = if j = i then true else listed.getD j false := by
  simp only [Array.getD_eq_getD_getElem?, Array.getElem?_setIfInBounds]
  by_cases h : i = j
  · subst h; simp [hi]
  · rw [if_neg h, if_neg (fun e => h e.symm)]
theorem slotPt_lt {t : Nat} {q : Pt} (h : slotPt t = some q) : t < 81 := by
  unfold slotPt at h
  by_cases c : 81 ≤ t
  · rw [if_pos c] at h; cases h
  · omega
theorem slotPl_lt {t : Nat} {q : List Pt} (h : slotPl t = some q) : t < 81 := by
  unfold slotPl at h
  by_cases c : 81 ≤ t
  · rw [if_pos c] at h; cases h
  · omega
theorem insIn_set {listed : Array Bool} {i : Nat} (hi : i < listed.size) (hn : insK i = none) (k : Int) : InsIn (listed.setIfInBounds i true) k ↔ InsIn listed k := by
  unfold InsIn
  constructor
  · rintro ⟨j, h1, h2, h3⟩
    rw [getD_set listed i j hi, if_neg (fun e => by subst e; rw [hn] at h2; cases h2)] at h3
    exact ⟨j, h1, h2, h3⟩
  · rintro ⟨j, h1, h2, h3⟩
    exact ⟨j, h1, h2, by rw [getD_set listed i j hi, if_neg (fun e => by subst e; rw [hn] at h2; cases h2)]; exact h3⟩
theorem MapOk.iff {w : World} {B : Nat} {S T : Int → Prop} {es : Array MapEntry} (h : MapOk w B S es) (e : ∀ k, T k ↔ S k) : MapOk w B T es := by
  have : T = S := funext fun k => propext (e k)
  rw [this]; exact h
section
variable {W : World} {B : Nat} {p : Nat → Nat} {listed : Array Bool} {a : Act} {w w' : World} (H : Ivt W B p listed a w)
include H
/-- An operation that yields a value. -/
theorem Ivt.val (i d : Nat) (v : Value) (hi : i < 78) (h2 : 25 < d ∧ d < 80) (h4 : insK i = none) (h5 : i ≠ 0 ∧ i ≠ 76 ∧ i ≠ 77)
    (h6 : ∀ t, t < 81 → (slotPt t ≠ none ∨ slotPl t ≠ none) → opOf t = i → t = d) (ho : Only [] w w')
    (hp : ∀ q, slotPt d = some q → PV w' B q v) (hl : ∀ l, slotPl d = some l → SlAt w' B l v) : Ivt W B p (listed.setIfInBounds i true) (a.put (some d) v) w' := by
  have hs := H.sz
  have ht := H.ts
  have hd : d < a.tmps.size := by omega
  have hk := Keeps.of_only ho
  refine ⟨by simpa using hs, by show (a.tmps.setIfInBounds d v).size = 81; simpa using ht, H.df, H.ho.trans ho, fun j j1 j2 => ?_, fun t q hq hL => ?_, fun t l hq hL => ?_, fun hL => ?_, fun hL j hj => ?_, fun hL => ?_, fun hL => ?_⟩
  · rw [put_get a d v j hd, if_neg (by omega)]; exact H.fx j j1 j2
  · rw [put_get a d v t hd]
    by_cases e : t = d
    · subst e; rw [if_pos rfl]; exact ⟨v, rfl, hp q hq⟩
    · rw [if_neg e]
      rw [getD_set listed i _ (by omega), if_neg (fun e2 => e (h6 t (slotPt_lt hq) (.inl (by rw [hq]; simp)) e2))] at hL
      obtain ⟨u, u1, u2⟩ := H.pt t q hq hL
      exact ⟨u, u1, u2.keeps hk⟩
  · rw [put_get a d v t hd]
    by_cases e : t = d
    · subst e; rw [if_pos rfl]; exact ⟨v, rfl, hl l hq⟩
    · rw [if_neg e]
      rw [getD_set listed i _ (by omega), if_neg (fun e2 => e (h6 t (slotPl_lt hq) (.inr (by rw [hq]; simp)) e2))] at hL
      obtain ⟨u, u1, u2⟩ := H.pl t l hq hL
      exact ⟨u, u1, u2.keeps hk⟩
  · rw [getD_set listed i _ (by omega), if_neg (by omega)] at hL
    obtain ⟨mb, es, c, m1, m2, m3, m4⟩ := H.mp hL
    refine ⟨mb, es, c, by rw [put_get a d v 25 hd, if_neg (by omega)]; exact m1, (ho.block mb (Array.getElem?_eq_some_iff.1 m2).1 (by simp)).trans m2, m3, (m4.keeps hk).iff (fun k => insIn_set (by omega) h4 k)⟩
  · rw [getD_set listed i _ (by omega), if_neg (by omega)] at hL
    rw [getD_set listed i _ (by omega), if_neg (fun e => by subst e; exact hj.elim (fun x => x h4) (fun x => by omega))]
    exact H.m0 hL j hj
  · rw [getD_set listed i _ (by omega), if_neg (by omega)] at hL
    rw [put_get a d v 80 hd, if_neg (by omega), put_get a d v 25 hd, if_neg (by omega)]
    exact H.l6 hL
  · rw [getD_set listed i _ (by omega), if_neg (by omega)] at hL
    rw [put_get a d v 0 hd, if_neg (by omega), put_get a d v 25 hd, if_neg (by omega)]
    exact H.l7 hL
/-- An operation that inserts a key. -/
theorem Ivt.ins (i s : Nat) (k : Int) (l : List Pt) (hi : i < 78) (hk : insK i = some k) (h5 : i ≠ 0 ∧ i ≠ 76 ∧ i ≠ 77) (hinj : ∀ j, j < 78 → insK j = some k → j = i)
    (h6 : ∀ t, t < 81 → (slotPt t ≠ none ∨ slotPl t ≠ none) → opOf t ≠ i) (hs : slotPl s = some l) (ht : tab k = some l)
    (d0 : listed.getD 0 false = true) (ds : listed.getD (opOf s) false = true) (dn : listed.getD i false = false) :
    ∃ mb v, a.eval (.tmp 25) = .map (some mb) ∧ a.eval (.tmp s) = v ∧ ∃ w', (Instr.mapUpdate 99 (.map (some mb)) (.int .i64 k) v).run Try.prog w = .ok () w' ∧ Ivt W B p (listed.setIfInBounds i true) a w' := by
  have hz := H.sz
  obtain ⟨mb, es, c, m1, m2, m3, m4⟩ := H.mp d0
  obtain ⟨v, v1, v2⟩ := H.pl s l hs ds
  have hfresh : ∀ e ∈ es.toList, ∃ x, e.key = .int .i64 x ∧ x ≠ k := fun e he => by
    obtain ⟨x, lx, e1, ⟨j, j1, j2, j3⟩, _⟩ := m4.1 e he
    refine ⟨x, e1, fun e2 => ?_⟩
    subst e2
    have := hinj j j1 j2
    subst this
    rw [dn] at j3; cases j3
  have hK := Keeps.put (es' := es.push { key := .int .i64 k, val := v, born := c }) (c' := c + 1) m2
  have hmb : mb < w.heap.size := (Array.getElem?_eq_some_iff.1 m2).1
  have hO : Only [] W (w.putObj mb (.map (es.push { key := .int .i64 k, val := v, born := c }) (c + 1))) :=
    ⟨H.ho.os, H.ho.tape, H.ho.output, by simpa using H.ho.size, fun q hq hn => by rw [World.putObj_heap_other (by omega)]; exact H.ho.block q hq hn⟩
  refine ⟨mb, v, by simp [Act.eval, Array.getD_eq_getD_getElem?, m1], by simp [Act.eval, Array.getD_eq_getD_getElem?, v1], _, ins_run m2 hfresh, ?_⟩
  refine ⟨by simpa using hz, H.ts, H.df, hO, H.fx, fun t q hq hL => ?_, fun t q hq hL => ?_, fun _ => ?_, fun hL j hj => ?_, fun hL => ?_, fun hL => ?_⟩
  · rw [getD_set listed i _ (by omega), if_neg (h6 t (slotPt_lt hq) (.inl (by rw [hq]; simp)))] at hL
    obtain ⟨u, u1, u2⟩ := H.pt t q hq hL
    exact ⟨u, u1, u2.keeps hK⟩
  · rw [getD_set listed i _ (by omega), if_neg (h6 t (slotPl_lt hq) (.inr (by rw [hq]; simp)))] at hL
    obtain ⟨u, u1, u2⟩ := H.pl t q hq hL
    exact ⟨u, u1, u2.keeps hK⟩
  · refine ⟨mb, _, _, m1, World.putObj_heap_same hmb, m3, ((m4.keeps hK).push ht (v2.keeps hK)).iff (fun x => ?_)⟩
    unfold InsIn
    constructor
    · rintro ⟨j, h1, h2, h3⟩
      by_cases e : j = i
      · subst e; rw [hk] at h2; cases h2; exact .inr rfl
      · rw [getD_set listed i j (by omega), if_neg e] at h3
        exact .inl ⟨j, h1, h2, h3⟩
    · rintro (⟨j, h1, h2, h3⟩ | rfl)
      · exact ⟨j, h1, h2, by rw [getD_set listed i j (by omega), h3]; simp⟩
      · exact ⟨i, hi, hk, by rw [getD_set listed i i (by omega), if_pos rfl]⟩
  · rw [getD_set listed i _ (by omega), if_neg (by omega)] at hL
    rw [d0] at hL; cases hL
  · rw [getD_set listed i _ (by omega), if_neg (by omega)] at hL; exact H.l6 hL
  · rw [getD_set listed i _ (by omega), if_neg (by omega)] at hL; exact H.l7 hL
/-- The map is made. -/
theorem Ivt.mk0 (h6 : ∀ t, t < 81 → (slotPt t ≠ none ∨ slotPl t ≠ none) → opOf t ≠ 0 ∧ t ≠ 25) (hn : insK 0 = none) (d0 : listed.getD 0 false = false) : Ivt W B p (listed.setIfInBounds 0 true) (a.put (some 25) (.map (some w.heap.size))) (w.alloc (.map #[] 0)) := by
  have hs := H.sz
  have ht := H.ts
  have hd : 25 < a.tmps.size := by omega
  have ho : Only [] w (w.alloc (.map #[] 0)) := (Only.refl [] w).alloc _
  have hk := Keeps.of_only ho
  have hno := H.m0 d0
  refine ⟨by simpa using hs, by show (a.tmps.setIfInBounds 25 _).size = 81; simpa using ht, H.df, H.ho.trans ho, fun j j1 j2 => ?_, fun t q hq hL => ?_, fun t l hq hL => ?_, fun hL => ?_, fun hL j hj => ?_, fun hL => ?_, fun hL => ?_⟩
  · rw [put_get a 25 _ j hd, if_neg (by omega)]; exact H.fx j j1 j2
  · obtain ⟨x1, x2⟩ := h6 t (slotPt_lt hq) (.inl (by rw [hq]; simp))
    rw [getD_set listed 0 _ (by omega), if_neg x1] at hL
    obtain ⟨u, u1, u2⟩ := H.pt t q hq hL
    exact ⟨u, by rw [put_get a 25 _ t hd, if_neg x2]; exact u1, u2.keeps hk⟩
  · obtain ⟨x1, x2⟩ := h6 t (slotPl_lt hq) (.inr (by rw [hq]; simp))
    rw [getD_set listed 0 _ (by omega), if_neg x1] at hL
    obtain ⟨u, u1, u2⟩ := H.pl t l hq hL
    exact ⟨u, by rw [put_get a 25 _ t hd, if_neg x2]; exact u1, u2.keeps hk⟩
  · refine ⟨w.heap.size, #[], 0, by rw [put_get a 25 _ 25 hd, if_pos rfl], by show (w.heap.push _)[w.heap.size]? = _; simp, H.ho.size, fun e he => by simp at he, fun k hk2 => ?_⟩
    obtain ⟨j, j1, j2, j3⟩ := hk2
    rw [getD_set listed 0 j (by omega), if_neg (fun e => by subst e; rw [hn] at j2; cases j2), hno j (.inl (by rw [j2]; simp))] at j3
    cases j3
  · rw [getD_set listed 0 0 (by omega), if_pos rfl] at hL; cases hL
  · rw [getD_set listed 0 _ (by omega), if_neg (by omega), hno 76 (.inr (by omega))] at hL; cases hL
  · rw [getD_set listed 0 _ (by omega), if_neg (by omega), hno 77 (.inr (by omega))] at hL; cases hL
/-- The map is handed on. -/
theorem Ivt.mv (i d s : Nat) (v : Value) (hi : (i = 76 ∧ d = 80 ∧ s = 25) ∨ (i = 77 ∧ d = 0 ∧ s = 80)) (hn : insK i = none) (h6 : ∀ t, t < 81 → (slotPt t ≠ none ∨ slotPl t ≠ none) → opOf t ≠ i ∧ t ≠ d)
    (d0 : listed.getD 0 false = true) (d6 : i = 77 → listed.getD 76 false = true) (hv : a.tmps[s]? = some v) : Ivt W B p (listed.setIfInBounds i true) (a.put (some d) v) w := by
  have hs := H.sz
  have ht := H.ts
  have hd : d < a.tmps.size := by omega
  refine ⟨by simpa using hs, by show (a.tmps.setIfInBounds d _).size = 81; simpa using ht, H.df, H.ho, fun j j1 j2 => ?_, fun t q hq hL => ?_, fun t l hq hL => ?_, fun hL => ?_, fun hL j hj => ?_, fun hL => ?_, fun hL => ?_⟩
  · rw [put_get a d _ j hd, if_neg (by omega)]; exact H.fx j j1 j2
  · obtain ⟨x1, x2⟩ := h6 t (slotPt_lt hq) (.inl (by rw [hq]; simp))
    rw [getD_set listed i _ (by omega), if_neg x1] at hL
    obtain ⟨u, u1, u2⟩ := H.pt t q hq hL
    exact ⟨u, by rw [put_get a d _ t hd, if_neg x2]; exact u1, u2⟩
  · obtain ⟨x1, x2⟩ := h6 t (slotPl_lt hq) (.inr (by rw [hq]; simp))
    rw [getD_set listed i _ (by omega), if_neg x1] at hL
    obtain ⟨u, u1, u2⟩ := H.pl t l hq hL
    exact ⟨u, by rw [put_get a d _ t hd, if_neg x2]; exact u1, u2⟩
  · obtain ⟨mb, es, c, m1, m2, m3, m4⟩ := H.mp d0
    exact ⟨mb, es, c, by rw [put_get a d _ 25 hd, if_neg (by omega)]; exact m1, m2, m3, m4.iff (fun k => insIn_set (by omega) hn k)⟩
  · rw [getD_set listed i _ (by omega), if_neg (by omega), d0] at hL; cases hL
  · rcases hi with ⟨rfl, rfl, rfl⟩ | ⟨rfl, rfl, rfl⟩
    · rw [put_get a 80 _ 80 hd, if_pos rfl, put_get a 80 _ 25 hd, if_neg (by omega), hv]
    · rw [put_get a 0 _ 80 hd, if_neg (by omega), put_get a 0 _ 25 hd, if_neg (by omega)]; exact H.l6 (d6 rfl)
  · rcases hi with ⟨rfl, rfl, rfl⟩ | ⟨rfl, rfl, rfl⟩
    · rw [getD_set listed 76 _ (by omega), if_neg (by omega)] at hL
      rw [put_get a 80 _ 0 hd, if_neg (by omega), put_get a 80 _ 25 hd, if_neg (by omega)]; exact H.l7 hL
    · rw [put_get a 0 _ 0 hd, if_pos rfl, put_get a 0 _ 25 hd, if_neg (by omega), ← hv]; exact H.l6 (d6 rfl)
end
end Go.Proofs.Ytmmgmpghkpbgkaa
