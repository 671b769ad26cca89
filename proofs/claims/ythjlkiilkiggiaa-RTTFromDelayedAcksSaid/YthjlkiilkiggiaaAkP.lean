/- Contracts of package acks by TK; the nil tracker's calls; the frame of two intervals; SameSpans of two equal pairs. -/
import Derived.Test.YthjlkiilkiggiaaAkO
import Derived.Test.YthjlkiilkiggiaaAkK
import Derived.Test.YthjlkiilkiggiaaAkJ
namespace Go.Proofs.Ythjlkiilkiggiaa
open Go Go.RowKit Go.Shelf
set_option linter.unusedVariables false
set_option linter.unusedSectionVars false
set_option linter.unusedSimpArgs false
attribute [local go_sem] Oper.semAt_some

section
variable (b : Nat) (L : List (Int × Int)) (d fl lg wh ct du : Int) (w : World) (hT : TK w b L d fl lg wh ct du)
include hT
theorem largest_k : Calls Try.prog 15 #[.pointer (some ⟨b, 0, none⟩)] w fun e w' => e = .returned (.int .i64 lg) ∧ w = w' := by
  obtain ⟨F, T, n, rfl, hn, hT⟩ := hT
  exact largest_c b F T n d fl lg wh ct du w hT
theorem deadline_k : Calls Try.prog 13 #[.pointer (some ⟨b, 0, none⟩)] w fun e w' => e = .returned (.int .i64 du) ∧ w = w' := by
  obtain ⟨F, T, n, rfl, hn, hT⟩ := hT
  exact deadline_c b F T n d fl lg wh ct du w hT
theorem pending_k (now : Int) (z : Bool) (hz : decide (du ≠ -1 ∧ du ≤ now) = z) : Calls Try.prog 14 #[.pointer (some ⟨b, 0, none⟩), .int .i64 now] w fun e w' => e = .returned (.bool z) ∧ TK w' b L d fl lg wh ct du ∧ Only [] w w' := by
  obtain ⟨F, T, n, rfl, hn, hT⟩ := hT
  exact (pending_c b F T n d fl lg wh ct du w hT now z hz).mono fun e w' h => ⟨h.1, ⟨F, T, n, rfl, hn, h.2.1⟩, h.2.2⟩
theorem sent_k : Calls Try.prog 12 #[.pointer (some ⟨b, 0, none⟩)] w fun e w' => e = .returned (.tuple #[]) ∧ TK w' b L d fl lg wh 0 (-1) ∧ Only [b] w w' := by
  obtain ⟨F, T, n, rfl, hn, hT⟩ := hT
  exact (sent_c b F T n d fl lg wh ct du w hT).mono fun e w' h => ⟨h.1, ⟨F, T, n, rfl, hn, h.2.1⟩, h.2.2⟩
end
theorem TK.lt {w : World} {b : Nat} {L : List (Int × Int)} {d fl lg wh ct du : Int} (h : TK w b L d fl lg wh ct du) : b < w.heap.size := by
  obtain ⟨F, T, n, rfl, hn, hT⟩ := h
  exact At.lt hT
theorem TK.alloc {w : World} {b : Nat} {L : List (Int × Int)} {d fl lg wh ct du : Int} (h : TK w b L d fl lg wh ct du) (o : Obj) : TK (w.alloc o) b L d fl lg wh ct du := by
  obtain ⟨F, T, n, rfl, hn, hT⟩ := h
  exact ⟨F, T, n, rfl, hn, At.alloc hT o⟩
theorem TK.drew {w : World} {b : Nat} {L : List (Int × Int)} {d fl lg wh ct du : Int} (h : TK w b L d fl lg wh ct du) : TK w.drew b L d fl lg wh ct du := by
  obtain ⟨F, T, n, rfl, hn, hT⟩ := h
  exact ⟨F, T, n, rfl, hn, At.drew hT⟩
theorem TK.drewN {w : World} {b : Nat} {L : List (Int × Int)} {d fl lg wh ct du : Int} (h : TK w b L d fl lg wh ct du) (k : Nat) : TK (w.drewN k) b L d fl lg wh ct du := by
  obtain ⟨F, T, n, rfl, hn, hT⟩ := h
  exact ⟨F, T, n, rfl, hn, At.drewN hT k⟩
theorem TK.below {w w' : World} {b B : Nat} {L : List (Int × Int)} {d fl lg wh ct du : Int} (h : TK w b L d fl lg wh ct du) (ho : Below B w w') (hb : b < B) : TK w' b L d fl lg wh ct du := by
  obtain ⟨F, T, n, rfl, hn, hT⟩ := h
  exact ⟨F, T, n, rfl, hn, At.below hT ho hb⟩
theorem TK.far {w : World} {b : Nat} {L : List (Int × Int)} {d fl lg wh ct du : Int} (h : TK w b L d fl lg wh ct du) {p : Addr} (hp : b ≠ p.block) (u : Value) : TK (w.setCell p u) b L d fl lg wh ct du := by
  obtain ⟨F, T, n, rfl, hn, hT⟩ := h
  exact ⟨F, T, n, rfl, hn, At.far hT hp u⟩
theorem TK.same {w : World} {b : Nat} {L L' : List (Int × Int)} {d fl lg wh ct du fl' lg' wh' ct' du' : Int} (h : TK w b L d fl lg wh ct du) (h1 : L = L') (h2 : fl = fl') (h3 : lg = lg') (h4 : wh = wh') (h5 : ct = ct') (h6 : du = du') : TK w b L' d fl' lg' wh' ct' du' := by
  subst h1 h2 h3 h4 h5 h6; exact h
theorem new_k (d : Int) (w : World) (h0 : 0 ≤ d) (h1 : d ≤ 20) : Calls Try.prog 11 #[.int .i64 d] w fun e w' => ∃ g, e = .returned (.tuple #[.pointer (some ⟨g, 0, none⟩), .int .i64 0]) ∧ TK w' g [] d 0 (-1) 0 0 (-1) ∧ Only [] w w' ∧ w.heap.size ≤ g := by
  refine (new_c d w h0 h1).mono fun e w' h => ?_
  obtain ⟨g, h1, h2, h3⟩ := h
  exact ⟨g, h1, ⟨zF, zF, 0, rfl, by omega, h2⟩, h3⟩
def twoFrame (g : Nat) (dl : Int) : Value := .tuple #[.agg #[.int .i64 2, .int .i64 0, .int .i64 0, .string { data := #[] }, .bool false, .int .i64 0, .int .i64 0, .bool false, .int .i64 dl, .slice (some ⟨g, 0, none⟩) 2 2, .int .i64 0, .int .i64 0, .string { data := #[] }], .bool true]
theorem frame_two (b : Nat) (now a1 b1 a2 b2 d fl lg wh ct du : Int) (h0 : 0 ≤ now) (h1 : now ≤ 1099511627776) (h2 : 0 ≤ wh) (h3 : wh ≤ 1099511627776) (hnw : wh < now) (w : World) (hT : TK w b [(a1, b1), (a2, b2)] d fl lg wh ct du) :
    Calls Try.prog 25 #[.pointer (some ⟨b, 0, none⟩), .int .i64 now] w fun e w' => ∃ g, e = .returned (.tuple #[.agg #[.int .i64 2, .int .i64 0, .int .i64 0, .string { data := #[] }, .bool false, .int .i64 0, .int .i64 0, .bool false, .int .i64 (now - wh), .slice (some ⟨g, 0, none⟩) 2 2, .int .i64 0, .int .i64 0, .string { data := #[] }], .bool true]) ∧ At w' g 40 #[.int .i64 a2, .int .i64 b2, .int .i64 a1, .int .i64 b1] ∧ w.heap.size ≤ g ∧ Below w.heap.size w w' := by
  obtain ⟨F, T, n, hL, hn, hT⟩ := hT
  obtain rfl : n = 2 := by have := congrArg List.length hL; simp [lst_len] at this; omega
  simp [lst] at hL
  obtain ⟨⟨e1, e2⟩, e3, e4⟩ := hL
  refine (callsIn_wide.1 (frame_late b now F T 2 d fl lg wh ct du (by omega) (by omega) h0 h1 h2 h3 hnw w hT)).mono ?_
  rintro e w' ⟨g, rfl, hA, hg, hB⟩
  exact ⟨g, rfl, hA.same (by simp [rowA, cellsOf, List.range_succ, e1, e2, e3, e4]), hg, hB⟩
theorem frame_nil (w : World) : Calls Try.prog 25 #[.pointer none, .int .i64 0] w fun e w' => e = .returned (.tuple #[.agg #[.int .i64 0, .int .i64 0, .int .i64 0, .string { data := #[] }, .bool false, .int .i64 0, .int .i64 0, .bool false, .int .i64 0, .slice none 0 0, .int .i64 0, .int .i64 0, .string { data := #[] }], .bool false]) ∧ Below w.heap.size w w' := by
  go_enter Try.func25, Try.ntmps25
  have hz := At.new (w.alloc (.cells #[.pointer none] 25)) 57 #[.int .i64 0, .int .i64 0, .int .i64 0, .string { data := #[] }, .bool false, .int .i64 0, .int .i64 0, .bool false, .int .i64 0, .slice none 0 0, .int .i64 0, .int .i64 0, .string { data := #[] }]
  simp only [World.size_alloc] at hz
  have hb := ((Below.refl w.heap.size w).alloc (Nat.le_refl _) (.cells #[.pointer none] 25)).alloc (by simp) (.cells #[.int .i64 0, .int .i64 0, .int .i64 0, .string { data := #[] }, .bool false, .int .i64 0, .int .i64 0, .bool false, .int .i64 0, .slice none 0 0, .int .i64 0, .int .i64 0, .string { data := #[] }] 57)
  have HZ := Lib.hid hz
  have HB := Lib.hid hb
  clear hz hb
  go_wp2_with fail
  refine ⟨rfl, _, ?_, rfl, HB.out⟩
  have hz := HZ.out
  have u0 := hz.cell 0 rfl
  have u1 := hz.cell 1 rfl
  have u2 := hz.cell 2 rfl
  have u3 := hz.cell 3 rfl
  have u4 := hz.cell 4 rfl
  have u5 := hz.cell 5 rfl
  have u6 := hz.cell 6 rfl
  have u7 := hz.cell 7 rfl
  have u8 := hz.cell 8 rfl
  have u9 := hz.cell 9 rfl
  have u10 := hz.cell 10 rfl
  have u11 := hz.cell 11 rfl
  have u12 := hz.cell 12 rfl
  simp [results, Try.f25, go_sem, u0, u1, u2, u3, u4, u5, u6, u7, u8, u9, u10, u11, u12]
theorem recv_nil (w : World) : Calls Try.prog 16 #[.pointer none, .int .i64 0, .int .i64 0, .bool true] w fun e w' => e = .returned (.int .i64 1) ∧ w = w' := by
  go_enter Try.func16, Try.ntmps16
  go_wp2_with fail
  go_ret
  exact ⟨rfl, rfl⟩
theorem largest_nil (w : World) : Calls Try.prog 15 #[.pointer none] w fun e w' => e = .returned (.int .i64 (-1)) ∧ w = w' := by
  go_enter Try.func15, Try.ntmps15
  go_wp2_with fail
  go_ret
  exact ⟨rfl, rfl⟩
theorem deadline_nil (w : World) : Calls Try.prog 13 #[.pointer none] w fun e w' => e = .returned (.int .i64 (-1)) ∧ w = w' := by
  go_enter Try.func13, Try.ntmps13
  go_wp2_with fail
  go_ret
  exact ⟨rfl, rfl⟩
def SRel (w : World) (g g' : Nat) (cs : Array Value) (i : Value) (wr : World) : Prop := ∃ k : Nat, i = .int .i64 k ∧ k ≤ 2 ∧ Hid (At wr g 40 cs) ∧ Hid (At wr g' 40 cs) ∧ Below w.heap.size w wr
set_option maxHeartbeats 1000000 in
theorem same_two (g g' : Nat) (p q r s : Int) (w : World) (hA : At w g 40 #[.int .i64 p, .int .i64 q, .int .i64 r, .int .i64 s]) (hA' : At w g' 40 #[.int .i64 p, .int .i64 q, .int .i64 r, .int .i64 s]) :
    Calls Try.prog 29 #[.slice (some ⟨g, 0, none⟩) 2 2, .slice (some ⟨g', 0, none⟩) 2 2] w fun e w' => e = .returned (.bool true) ∧ Below w.heap.size w w' := by
  have hb := Below.refl w.heap.size w
  replace hA := Lib.hid hA
  replace hA' := Lib.hid hA'
  go_enter Try.func29, Try.ntmps29
  go_wp2_with fail
  go_loopw [5] (fun i wr => SRel w g g' #[.int .i64 p, .int .i64 q, .int .i64 r, .int .i64 s] i wr) (fun i _ => 2 - (intOf i).toNat)
  case atStart => exact ⟨0, rfl, by omega, hA, hA', hb⟩
  case round =>
    obtain ⟨k, rfl, hk, hA2, hA2', hb2⟩ := hrel
    clear hb hA hA'
    have c0 : wr.cell? ⟨g, 0, none⟩ = some (.int .i64 p) := hA2.out.cell 0 rfl
    have c1 : wr.cell? ⟨g, 1, none⟩ = some (.int .i64 q) := hA2.out.cell 1 rfl
    have c2 : wr.cell? ⟨g, 2, none⟩ = some (.int .i64 r) := hA2.out.cell 2 rfl
    have c3 : wr.cell? ⟨g, 3, none⟩ = some (.int .i64 s) := hA2.out.cell 3 rfl
    have k0 : wr.cell? ⟨g', 0, none⟩ = some (.int .i64 p) := hA2'.out.cell 0 rfl
    have k1 : wr.cell? ⟨g', 1, none⟩ = some (.int .i64 q) := hA2'.out.cell 1 rfl
    have k2 : wr.cell? ⟨g', 2, none⟩ = some (.int .i64 r) := hA2'.out.cell 2 rfl
    have k3 : wr.cell? ⟨g', 3, none⟩ = some (.int .i64 s) := hA2'.out.cell 3 rfl
    obtain rfl | rfl | rfl : k = 0 ∨ k = 1 ∨ k = 2 := by omega
    · go_wp2_with fail
      go_still (by kernel_rfl)
      go_wp2_with fail
      exact ⟨⟨1, rfl, by omega, hA2, hA2', hb2.drew⟩, by simp [intOf]⟩
    · go_wp2_with fail
      go_still (by kernel_rfl)
      go_wp2_with fail
      exact ⟨⟨2, rfl, by omega, hA2, hA2', hb2.drew⟩, by simp [intOf]⟩
    · go_wp2_with fail
      go_ret
      exact ⟨rfl, hb2⟩
end Go.Proofs.Ythjlkiilkiggiaa
