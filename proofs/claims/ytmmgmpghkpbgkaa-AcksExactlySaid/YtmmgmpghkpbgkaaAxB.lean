/- Contracts of package acks: the acknowledgment by intervals; rows of marks. -/
import Derived.Test.YtmmgmpghkpbgkaaAxA
import Derived.Test.YtmmgmpghkpbgkaaAnF
import Derived.Test.YtmmgmpghkpbgkaaFrJ
namespace Go.Proofs.Ytmmgmpghkpbgkaa
open Go Go.RowKit Go.Shelf
set_option linter.unusedVariables false
set_option linter.unusedSectionVars false
set_option linter.unusedSimpArgs false
attribute [local go_sem] Oper.semAt_some

/-- A block of n marks. -/
def BRw (w : World) (r n : Nat) (G : Nat → Bool) : Prop := ∃ cs, At w r 4 cs ∧ cs.size = n ∧ ∀ i, i < n → cs[i]? = some (.bool (G i))
theorem BRw.cell {w : World} {r n : Nat} {G : Nat → Bool} (h : BRw w r n G) (i : Nat) (hi : i < n) : w.cell? ⟨r, i, none⟩ = some (.bool (G i)) := by
  obtain ⟨cs, h1, h2, h3⟩ := h; exact h1.cell i (h3 i hi)
theorem BRw.free {w : World} {r n : Nat} {G : Nat → Bool} (h : BRw w r n G) (i : Nat) : w.frozen? ⟨r, i, none⟩ = false := by
  obtain ⟨cs, h1, h2, h3⟩ := h; exact h1.free i
theorem BRw.lt {w : World} {r n : Nat} {G : Nat → Bool} (h : BRw w r n G) : r < w.heap.size := by
  obtain ⟨cs, h1, h2, h3⟩ := h; exact h1.lt
theorem BRw.keep {w w' : World} {r n : Nat} {G : Nat → Bool} {S : List Nat} (h : BRw w r n G) (ho : Only S w w') (hn : r ∉ S) : BRw w' r n G := by
  obtain ⟨cs, h1, h2, h3⟩ := h; exact ⟨cs, h1.keep ho hn, h2, h3⟩
theorem BRw.below {w w' : World} {r n : Nat} {G : Nat → Bool} {B : Nat} (h : BRw w r n G) (ho : Below B w w') (hn : r < B) : BRw w' r n G := by
  obtain ⟨cs, h1, h2, h3⟩ := h; exact ⟨cs, h1.below ho hn, h2, h3⟩
theorem BRw.drew {w : World} {r n : Nat} {G : Nat → Bool} (h : BRw w r n G) : BRw w.drew r n G := h
theorem BRw.far {w : World} {r n : Nat} {G : Nat → Bool} (h : BRw w r n G) {p : Addr} (hp : r ≠ p.block) (u : Value) : BRw (w.setCell p u) r n G := by
  obtain ⟨cs, h1, h2, h3⟩ := h; exact ⟨cs, h1.far hp u, h2, h3⟩
theorem BRw.alloc {w : World} {r n : Nat} {G : Nat → Bool} (h : BRw w r n G) (o : Obj) : BRw (w.alloc o) r n G := by
  obtain ⟨cs, h1, h2, h3⟩ := h; exact ⟨cs, h1.alloc o, h2, h3⟩
theorem BRw.mark {w : World} {r n : Nat} {G : Nat → Bool} (h : BRw w r n G) (p : Nat) (hp : p < n) : BRw (w.setCell ⟨r, p, none⟩ (.bool true)) r n (mark G p) := by
  obtain ⟨cs, h1, h2, h3⟩ := h
  refine ⟨_, h1.set p _ rfl, by simpa using h2, fun i hi => ?_⟩
  unfold Go.Proofs.Ytmmgmpghkpbgkaa.mark
  by_cases e : i = p
  · subst e; simp [Array.getElem?_setIfInBounds, h2, hp]
  · rw [Array.getElem?_setIfInBounds, if_neg (fun h => e h.symm)]; simp only [if_neg e]; exact h3 i hi
theorem BRw.same {w : World} {r n : Nat} {G H : Nat → Bool} (h : BRw w r n G) (e : G = H) : BRw w r n H := e ▸ h
theorem zero_row30 : Builtin.zeroCells #[.bool false] 30 = Array.replicate 30 (Value.bool false) := by kernel_rfl
theorem BRw.new (w : World) : BRw (w.alloc (.cells (Builtin.zeroCells #[.bool false] 30) 4)) w.heap.size 30 (fun _ => false) :=
  ⟨_, At.new _ _ _, by rw [zero_row30]; simp, fun i hi => by rw [zero_row30]; simp [hi]⟩

theorem rg_of_row {w : World} {g n : Nat} {F T : Nat → Int} (hA : At w g 43 (rowA n (fun i => F (n - 1 - i)) (fun i => T (n - 1 - i)))) (hR : RgOk 281474976710658 (lst F T 0 n).reverse) : RgAt w (.slice (some ⟨g, 0, none⟩) n n) (lst F T 0 n).reverse := by
  have hl : (lst F T 0 n).reverse.length = n := by rw [List.length_reverse, lst_len]
  refine ⟨some ⟨g, 0, none⟩, n, by rw [hl], fun i hi => ⟨g, 0, rfl, hA.lt, ?_⟩⟩
  have hin : i < n := by rw [hl] at hi; exact hi
  have hg : (lst F T 0 n).reverse[i] = (F (n - 1 - i), T (n - 1 - i)) := by
    apply Option.some.inj
    rw [← List.getElem?_eq_getElem hi, List.getElem?_reverse (by rw [lst_len]; exact hin), lst_len, lst_get n 0 _ (by omega)]
    simp
  have hb := RgOk.inR hR _ (List.getElem_mem hi)
  rw [hg] at hb ⊢
  rw [Nat.zero_add]
  exact ⟨hA.cell _ (rowA_G n _ _ i hin), hA.cell _ (rowA_H n _ _ i hin), ⟨hb.1, hb.2.1⟩, hb.2.2.1, hb.2.2.2⟩
theorem frame_any (b : Nat) (L : List (Int × Int)) (now d fl lg wh ct du : Int) (h0 : 0 ≤ now) (h1 : now ≤ 65535) (h2 : 0 ≤ wh) (h3 : wh ≤ 1099511627776) (hne : L ≠ []) (hR : RgOk 281474976710658 L.reverse) (w : World) (hT : TK w b L d fl lg wh ct du) :
    Calls Try.prog 16 #[.pointer (some ⟨b, 0, none⟩), .int .i64 now] w fun e w' => ∃ (dl : Int) (g : Nat), e = .returned (.tuple #[.agg (frC (ackD dl L.reverse) (.slice (some ⟨g, 0, none⟩) L.length L.length)), .bool true]) ∧ 0 ≤ dl ∧ dl ≤ 70000 ∧ RgAt w' (.slice (some ⟨g, 0, none⟩) L.length L.length) L.reverse ∧ w.heap.size ≤ g ∧ Below w.heap.size w w' := by
  obtain ⟨F, T, n, rfl, hn, hT⟩ := hT
  have hn0 : 0 < n := by
    rcases Nat.eq_zero_or_pos n with h | h
    · subst h; exact absurd rfl hne
    · exact h
  rw [lst_len]
  by_cases hnw : wh < now
  · refine (callsIn_wide.1 (frame_late b now F T n d fl lg wh ct du (by omega) hn0 h0 (by omega) h2 h3 hnw w hT)).mono ?_
    rintro e w' ⟨g, rfl, hA, hg, hB⟩
    exact ⟨now - wh, g, rfl, by omega, by omega, rg_of_row hA hR, hg, hB⟩
  · refine (callsIn_wide.1 (frame_now b now F T n d fl lg wh ct du (by omega) hn0 h0 (by omega) h2 h3 hnw w hT)).mono ?_
    rintro e w' ⟨g, rfl, hA, hg, hB⟩
    exact ⟨0, g, rfl, by omega, by omega, rg_of_row hA hR, hg, hB⟩
theorem frame_none (b : Nat) (now d fl lg wh ct du : Int) (w : World) (hT : TK w b [] d fl lg wh ct du) : Calls Try.prog 16 #[.pointer (some ⟨b, 0, none⟩), .int .i64 now] w fun e w' => e = .returned (.tuple #[.agg #[.int .i64 0, .int .i64 0, .int .i64 0, .string { data := #[] }, .bool false, .int .i64 0, .int .i64 0, .bool false, .int .i64 0, .slice none 0 0, .int .i64 0, .int .i64 0, .string { data := #[] }], .bool false]) ∧ Below w.heap.size w w' := by
  obtain ⟨F, T, n, hL, hn, hT⟩ := hT
  obtain rfl : n = 0 := by have := congrArg List.length hL; simp [lst_len] at this; omega
  have hbl := At.lt hT
  have hcn := ((At.alloc hT (.cells #[.pointer (some ⟨b, 0, none⟩)] 25)).alloc (.cells #[.int .i64 0, .int .i64 0, .int .i64 0, .string { data := #[] }, .bool false, .int .i64 0, .int .i64 0, .bool false, .int .i64 0, .slice none 0 0, .int .i64 0, .int .i64 0, .string { data := #[] }] 33))
  replace hcn := Trk.gn hcn
  clear hT hL
  go_enter Try.func16, Try.ntmps16
  have hz := At.new (w.alloc (.cells #[.pointer (some ⟨b, 0, none⟩)] 25)) 33 #[.int .i64 0, .int .i64 0, .int .i64 0, .string { data := #[] }, .bool false, .int .i64 0, .int .i64 0, .bool false, .int .i64 0, .slice none 0 0, .int .i64 0, .int .i64 0, .string { data := #[] }]
  simp only [World.size_alloc] at hz
  have hb := ((Below.refl w.heap.size w).alloc (Nat.le_refl _) (.cells #[.pointer (some ⟨b, 0, none⟩)] 25)).alloc (by simp) (.cells #[.int .i64 0, .int .i64 0, .int .i64 0, .string { data := #[] }, .bool false, .int .i64 0, .int .i64 0, .bool false, .int .i64 0, .slice none 0 0, .int .i64 0, .int .i64 0, .string { data := #[] }] 33)
  have HZ := Lib.hid hz
  have HB := Lib.hid hb
  clear hz hb
  go_wp2_with fail
  refine ⟨rfl, _, ?_, rfl, HB.out⟩
  have hz := HZ.out
  have u0 := hz.cell 0 rfl
  have u1 := hz.cell 1 rfl
  have u2 := hz.cell 2 rfl
  have u3 := hz.cell 3 rfl
  have u4 := hz.cell 4 rfl
  have u5 := hz.cell 5 rfl
  have u6 := hz.cell 6 rfl
  have u7 := hz.cell 7 rfl
  have u8 := hz.cell 8 rfl
  have u9 := hz.cell 9 rfl
  have u10 := hz.cell 10 rfl
  have u11 := hz.cell 11 rfl
  have u12 := hz.cell 12 rfl
  simp [results, Try.f16, go_sem, u0, u1, u2, u3, u4, u5, u6, u7, u8, u9, u10, u11, u12]
end Go.Proofs.Ytmmgmpghkpbgkaa
