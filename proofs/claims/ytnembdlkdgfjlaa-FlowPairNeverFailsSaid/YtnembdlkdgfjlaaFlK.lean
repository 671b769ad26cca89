/- The walk of FlowPairNeverFails. -/
import Derived.Test.YtnembdlkdgfjlaaFlG
import Derived.Test.YtnembdlkdgfjlaaArg
import Derived.Maps.AppendAt
namespace Go.Proofs.Ytnembdlkdgfjlaa
open Go.RowKit
set_option linter.unusedVariables false
set_option linter.unusedSimpArgs false

section
variable {w w' : World} {base g n cap : Nat} {e : TypeId} {xs : List Value} {S : List Nat}
theorem own_ne {b : Nat} {t : TypeId} {cs : Array Value} (h : w.ownsRow base e 1 (.slice (some ⟨g, 0, none⟩) n cap) n xs) (hA : At w b t cs) (hne : e ≠ t) : g ≠ b := by
  rintro rfl
  rcases h.2 with ⟨h0, _⟩ | ⟨g', cap', cur, hv, _, hh, _⟩
  · cases h0
  · injection hv with hv
    injection hv with hv
    injection hv with hv
    subst hv
    unfold At at hA
    rw [hA] at hh
    injection hh with hh
    injection hh with _ ht
    exact hne ht.symm
theorem own_lt (h : w.ownsRow base e 1 (.slice (some ⟨g, 0, none⟩) n cap) n xs) : g < w.heap.size := (h.lt g rfl).2
theorem own_keep (h : w.ownsRow base e 1 (.slice (some ⟨g, 0, none⟩) n cap) n xs) (ho : Only S w w') (hg : g ∉ S) : w'.ownsRow base e 1 (.slice (some ⟨g, 0, none⟩) n cap) n xs := by
  refine ⟨h.1, ?_⟩
  rcases h.2 with ⟨h0, _⟩ | ⟨g', cap', cur, hv, h1, hh, h2⟩
  · cases h0
  · have e1 : g' = g := by injection hv with h5; injection h5 with h5; injection h5 with h5; exact h5.symm
    subst e1
    exact .inr ⟨_, cap', cur, hv, h1, (ho.block _ (own_lt h) hg).trans hh, h2⟩
theorem own_drewN (h : w.ownsRow base e 1 (.slice (some ⟨g, 0, none⟩) n cap) n xs) (k : Nat) : (w.drewN k).ownsRow base e 1 (.slice (some ⟨g, 0, none⟩) n cap) n xs := h
theorem only_grown (h : w.grownBy w' (some g)) : Only [g] w w' := ⟨h.os, h.tape, h.output, h.size, fun k hk hn => h.block k hk (by simp at hn; simp; omega)⟩
theorem own_form {v : Value} (h : w.ownsRow base e 1 v (n + 1) xs) : ∃ g cap, v = .slice (some ⟨g, 0, none⟩) (n + 1) cap ∧ base ≤ g := by
  rcases h.2 with ⟨_, h0⟩ | ⟨g, cap, cur, hv, hb, _⟩
  · omega
  · exact ⟨g, cap, hv, hb⟩
end

def PInv (k : Nat) (m wi x r M : Int) : Prop := 0 ≤ r ∧ r ≤ x ∧ x ≤ M ∧ M ≤ m ∧ m ≤ r + wi ∧ m ≤ 300 * ((k : Int) + 1)
def PRel (w : World) (ra sa base : Nat) (wi : Int) (s gt l i : Value) (wr : World) : Prop := ∃ (k : Nat) (m x r M t : Int) (g cap : Nat) (L : List Int), s = .int .i64 x ∧ gt = .int .i64 x ∧ l = .slice (some ⟨g, 0, none⟩) L.length cap ∧ i = .int .i64 k ∧ k ≤ 120 ∧ PInv k m wi x r M ∧
  wr.ownsRow base 3 1 (.slice (some ⟨g, 0, none⟩) L.length cap) L.length (L.map (Value.int .i64)) ∧ 0 < L.length ∧ L.length ≤ k + 1 ∧ (∀ y ∈ L, 0 ≤ y ∧ y ≤ m) ∧
  At wr ra 58 #[.int .i64 m, .int .i64 wi, .int .i64 x, .int .i64 r] ∧ At wr sa 60 #[.int .i64 M, .int .i64 x, .int .i64 t] ∧ Below w.heap.size w wr ∧ base ≤ wr.heap.size
theorem A_info : (Try.prog.info? 3).map (fun i => (i.zero, i.size, i.bytes)) = some (some (.int .i64 0), 1, 8) := by kernel_rfl

set_option maxRecDepth 100000 in
set_option maxHeartbeats 4000000 in
theorem pair_walk (a0 : Int) (a1 : Option Addr) (len1 cap1 : Nat) (K N : Nat → Int) (w : World) (w0 : (Lit.int .u16 a0).wf = true) (w1 : Pairs .u8 .i64 w a1 len1 K N) :
    Calls Try.prog 6 #[.int .u16 a0, .slice a1 len1 cap1] w fun e w' => e = .returned (.bool true) ∧ Below w.heap.size w w' := by
  obtain ⟨b0, c0⟩ := wf_u16 w0
  clear w0
  have hw0 : 0 ≤ a0 % 301 := by omega
  have hw1 : a0 % 301 ≤ 300 := by omega
  obtain ⟨ii, hii, hz0, hz1, hz2⟩ := info_parts A_info
  go_enter Try.func6, Try.ntmps6
  go_wp2_with fail
  refine (sane_any _).mono ?_
  rintro e wA ⟨rfl, hb⟩
  go_wp2_with fail
  refine (newrec_ok _ _ (by omega) (by omega)).mono ?_
  rintro e wk ⟨rfl, rfl⟩
  go_wp2_with fail
  refine (newsnd_ok _ _ (by omega) (by omega)).mono ?_
  rintro e wk ⟨rfl, rfl⟩
  have ha := ((At.new wA 58 #[.int .i64 (a0 % 301), .int .i64 (a0 % 301), .int .i64 0, .int .i64 0]).alloc (.cells #[.int .i64 (a0 % 301), .int .i64 0, .int .i64 0] 60)).alloc (.cells #[.int .i64 (a0 % 301)] 3)
  have hx := (At.new (wA.alloc (.cells #[.int .i64 (a0 % 301), .int .i64 (a0 % 301), .int .i64 0, .int .i64 0] 58)) 60 #[.int .i64 (a0 % 301), .int .i64 0, .int .i64 0]).alloc (.cells #[.int .i64 (a0 % 301)] 3)
  rw [World.size_alloc] at hx
  have hl := World.ownsRow_lit (base := wA.heap.size + 1 + 1) (e := 3) (size := 1) ((wA.alloc (.cells #[.int .i64 (a0 % 301), .int .i64 (a0 % 301), .int .i64 0, .int .i64 0] 58)).alloc (.cells #[.int .i64 (a0 % 301), .int .i64 0, .int .i64 0] 60)) #[.int .i64 (a0 % 301)] 1 (by simp) (by unfold maxLen; omega) (by simp)
  have hbb := ((hb.alloc hb.size (.cells #[.int .i64 (a0 % 301), .int .i64 (a0 % 301), .int .i64 0, .int .i64 0] 58)).alloc (by have := hb.size; simp; omega) (.cells #[.int .i64 (a0 % 301), .int .i64 0, .int .i64 0] 60)).alloc (by have := hb.size; simp; omega) (.cells #[.int .i64 (a0 % 301)] 3)
  rw [World.size_alloc, World.size_alloc] at hl
  go_wp2_with fail
  go_loopw [10, 11, 12, 13] (fun s gt l i wr => PRel w wA.heap.size (wA.heap.size + 1) (wA.heap.size + 1 + 1) (a0 % 301) s gt l i wr) (fun _ _ _ i _ => 120 - (intOf i).toNat)
  case atStart =>
    exact ⟨0, _, _, _, _, _, _, _, [a0 % 301], rfl, rfl, rfl, rfl, by omega, ⟨by omega, by omega, by omega, by omega, by omega, by omega⟩, hl, by simp, by simp, by simp; omega, ha, hx, hbb, by simp⟩
  case round =>
    obtain ⟨k, m, x, r, M, t, g, cap, L, rfl, rfl, rfl, rfl, hk, hi, hown, hL0, hL1, hLb, hra, hsa, hbw, hbase⟩ := hrel
    have hsz := hb.size
    clear ha hx hl hbb hb
    obtain ⟨i0, i1, i2, i3, i4, i5⟩ := hi
    have hgr := own_ne hown hra (by decide)
    have hgs := own_ne hown hsa (by decide)
    by_cases hlt : k < len1 ∧ k < 120
    · obtain ⟨hlt1, hlt2⟩ := hlt
      obtain ⟨b, off, rfl, hbs, hc0, hc1, hw0, hw1⟩ := w1 k hlt1
      rw [← hbw.cell hbs] at hc0 hc1
      obtain ⟨k0, k1⟩ := wf_u8 hw0
      obtain ⟨n0, n1⟩ := wf_i64 hw1
      clear hw0 hw1 w1
      obtain ⟨nL, hnL⟩ : ∃ nL, nL = L.length := ⟨_, rfl⟩
      have HLb := Lib.hid hLb
      clear hLb
      go_wp2_with fail
      refine (pick_ex _ _ _ (by omega) (by omega) (by omega)).mono ?_
      rintro e wk ⟨n, hn0, hn1, rfl, rfl⟩
      rcases (by omega : K k % 6 = 0 ∨ K k % 6 = 1 ∨ K k % 6 = 2 ∨ K k % 6 = 3 ∨ K k % 6 = 4 ∨ K k % 6 = 5) with hq | hq | hq | hq | hq | hq
      · skip
        by_cases hle : M - x < n
        · skip
          go_wp2_with fail
          refine (avail_c _ _ _ _ _ hsa (by omega) (by omega) (by omega)).mono ?_
          rintro e wk ⟨rfl, nd, rfl⟩
          replace hsa := hsa.drewN nd
          replace hra := hra.drewN nd
          replace hown := own_drewN hown nd
          replace hbw : Below w.heap.size w (wr.drewN nd) := ⟨hbw.os, hbw.tape, hbw.output, hbw.size, hbw.block⟩
          go_wp2_with fail
          refine (use_ok _ _ _ _ _ _ hsa (by omega) (by omega) (by omega) (by omega) (by omega)).mono ?_
          rintro e w2 ⟨rfl, hsa2, ho⟩
          have hra2 := hra.keep ho (by simp)
          have hown2 := own_keep hown ho (by simp; omega)
          have hbw2 := hbw.trans (ho.below (by simp; omega) hbw.size)
          have hbase2 := Nat.le_trans hbase ho.size
          clear ho hsa hra hown hbw hbase
          go_wp2_with fail
          refine (avail_c _ _ _ _ _ hsa2 (by omega) (by omega) (by omega)).mono ?_
          rintro e wk ⟨rfl, nd, rfl⟩
          go_wp2_with fail
          refine (avail_c _ _ _ _ _ (hsa2.drewN nd) (by omega) (by omega) (by omega)).mono ?_
          rintro e wk ⟨rfl, nd2, rfl⟩
          replace hsa2 : At (World.drewN _ (nd + nd2)) _ _ _ := hsa2.drewN (nd + nd2)
          replace hra2 : At (World.drewN _ (nd + nd2)) _ _ _ := hra2.drewN (nd + nd2)
          replace hown2 := own_drewN hown2 (nd + nd2)
          replace hbw2 : Below w.heap.size w (World.drewN _ (nd + nd2)) := ⟨hbw2.os, hbw2.tape, hbw2.output, hbw2.size, hbw2.block⟩
          go_wp2_with fail
          refine (limit_c _ _ _ _ _ _ hra2).mono ?_
          rintro e wk ⟨rfl, rfl⟩
          go_wp2_with fail
          refine (receive_ok _ _ _ _ _ _ _ hra2 (by omega) (by omega) (by omega)).mono ?_
          rintro e wz ⟨rfl, hraz, ho⟩
          have hsaz := hsa2.keep ho (by simp)
          have hownz := own_keep hown2 ho (by simp; omega)
          have hbwz := hbw2.trans (ho.below (by simp; omega) hbw2.size)
          have hbasez := Nat.le_trans hbase2 ho.size
          clear ho hra2 hsa2 hown2 hbw2 hbase2
          go_wp2_with fail
          go_roundw
          case rel => exact ⟨k + 1, _, _, _, _, _, _, _, _, rfl, rfl, rfl, by go_num, by omega, ⟨by omega, by omega, by omega, by omega, by omega, by omega⟩, hownz, hL0, by omega, HLb.out, hraz, hsaz, hbwz, hbasez⟩
          case measure => simp [intOf]; omega
        · skip
          go_wp2_with fail
          refine (avail_c _ _ _ _ _ hsa (by omega) (by omega) (by omega)).mono ?_
          rintro e wk ⟨rfl, nd, rfl⟩
          replace hsa := hsa.drewN nd
          replace hra := hra.drewN nd
          replace hown := own_drewN hown nd
          replace hbw : Below w.heap.size w (wr.drewN nd) := ⟨hbw.os, hbw.tape, hbw.output, hbw.size, hbw.block⟩
          go_wp2_with fail
          refine (use_ok _ _ _ _ _ _ hsa (by omega) (by omega) (by omega) (by omega) (by omega)).mono ?_
          rintro e w2 ⟨rfl, hsa2, ho⟩
          have hra2 := hra.keep ho (by simp)
          have hown2 := own_keep hown ho (by simp; omega)
          have hbw2 := hbw.trans (ho.below (by simp; omega) hbw.size)
          have hbase2 := Nat.le_trans hbase ho.size
          clear ho hsa hra hown hbw hbase
          go_wp2_with fail
          refine (avail_c _ _ _ _ _ hsa2 (by omega) (by omega) (by omega)).mono ?_
          rintro e wk ⟨rfl, nd, rfl⟩
          go_wp2_with fail
          refine (avail_c _ _ _ _ _ (hsa2.drewN nd) (by omega) (by omega) (by omega)).mono ?_
          rintro e wk ⟨rfl, nd2, rfl⟩
          replace hsa2 : At (World.drewN _ (nd + nd2)) _ _ _ := hsa2.drewN (nd + nd2)
          replace hra2 : At (World.drewN _ (nd + nd2)) _ _ _ := hra2.drewN (nd + nd2)
          replace hown2 := own_drewN hown2 (nd + nd2)
          replace hbw2 : Below w.heap.size w (World.drewN _ (nd + nd2)) := ⟨hbw2.os, hbw2.tape, hbw2.output, hbw2.size, hbw2.block⟩
          go_wp2_with fail
          refine (limit_c _ _ _ _ _ _ hra2).mono ?_
          rintro e wk ⟨rfl, rfl⟩
          go_wp2_with fail
          refine (receive_ok _ _ _ _ _ _ _ hra2 (by omega) (by omega) (by omega)).mono ?_
          rintro e wz ⟨rfl, hraz, ho⟩
          have hsaz := hsa2.keep ho (by simp)
          have hownz := own_keep hown2 ho (by simp; omega)
          have hbwz := hbw2.trans (ho.below (by simp; omega) hbw2.size)
          have hbasez := Nat.le_trans hbase2 ho.size
          clear ho hra2 hsa2 hown2 hbw2 hbase2
          go_wp2_with fail
          go_roundw
          case rel => exact ⟨k + 1, _, _, _, _, _, _, _, _, rfl, rfl, rfl, by go_num, by omega, ⟨by omega, by omega, by omega, by omega, by omega, by omega⟩, hownz, hL0, by omega, HLb.out, hraz, hsaz, hbwz, hbasez⟩
          case measure => simp [intOf]; omega
      · skip
        by_cases hle : M - x < n
        · skip
          go_wp2_with fail
          refine (avail_c _ _ _ _ _ hsa (by omega) (by omega) (by omega)).mono ?_
          rintro e wk ⟨rfl, nd, rfl⟩
          replace hsa := hsa.drewN nd
          replace hra := hra.drewN nd
          replace hown := own_drewN hown nd
          replace hbw : Below w.heap.size w (wr.drewN nd) := ⟨hbw.os, hbw.tape, hbw.output, hbw.size, hbw.block⟩
          go_wp2_with fail
          refine (use_ok _ _ _ _ _ _ hsa (by omega) (by omega) (by omega) (by omega) (by omega)).mono ?_
          rintro e w2 ⟨rfl, hsa2, ho⟩
          have hra2 := hra.keep ho (by simp)
          have hown2 := own_keep hown ho (by simp; omega)
          have hbw2 := hbw.trans (ho.below (by simp; omega) hbw.size)
          have hbase2 := Nat.le_trans hbase ho.size
          clear ho hsa hra hown hbw hbase
          go_wp2_with fail
          refine (avail_c _ _ _ _ _ hsa2 (by omega) (by omega) (by omega)).mono ?_
          rintro e wk ⟨rfl, nd, rfl⟩
          go_wp2_with fail
          refine (avail_c _ _ _ _ _ (hsa2.drewN nd) (by omega) (by omega) (by omega)).mono ?_
          rintro e wk ⟨rfl, nd2, rfl⟩
          replace hsa2 : At (World.drewN _ (nd + nd2)) _ _ _ := hsa2.drewN (nd + nd2)
          replace hra2 : At (World.drewN _ (nd + nd2)) _ _ _ := hra2.drewN (nd + nd2)
          replace hown2 := own_drewN hown2 (nd + nd2)
          replace hbw2 : Below w.heap.size w (World.drewN _ (nd + nd2)) := ⟨hbw2.os, hbw2.tape, hbw2.output, hbw2.size, hbw2.block⟩
          go_wp2_with fail
          refine (limit_c _ _ _ _ _ _ hra2).mono ?_
          rintro e wk ⟨rfl, rfl⟩
          go_wp2_with fail
          refine (receive_ok _ _ _ _ _ _ _ hra2 (by omega) (by omega) (by omega)).mono ?_
          rintro e wz ⟨rfl, hraz, ho⟩
          have hsaz := hsa2.keep ho (by simp)
          have hownz := own_keep hown2 ho (by simp; omega)
          have hbwz := hbw2.trans (ho.below (by simp; omega) hbw2.size)
          have hbasez := Nat.le_trans hbase2 ho.size
          clear ho hra2 hsa2 hown2 hbw2 hbase2
          go_wp2_with fail
          go_roundw
          case rel => exact ⟨k + 1, _, _, _, _, _, _, _, _, rfl, rfl, rfl, by go_num, by omega, ⟨by omega, by omega, by omega, by omega, by omega, by omega⟩, hownz, hL0, by omega, HLb.out, hraz, hsaz, hbwz, hbasez⟩
          case measure => simp [intOf]; omega
        · skip
          go_wp2_with fail
          refine (avail_c _ _ _ _ _ hsa (by omega) (by omega) (by omega)).mono ?_
          rintro e wk ⟨rfl, nd, rfl⟩
          replace hsa := hsa.drewN nd
          replace hra := hra.drewN nd
          replace hown := own_drewN hown nd
          replace hbw : Below w.heap.size w (wr.drewN nd) := ⟨hbw.os, hbw.tape, hbw.output, hbw.size, hbw.block⟩
          go_wp2_with fail
          refine (use_ok _ _ _ _ _ _ hsa (by omega) (by omega) (by omega) (by omega) (by omega)).mono ?_
          rintro e w2 ⟨rfl, hsa2, ho⟩
          have hra2 := hra.keep ho (by simp)
          have hown2 := own_keep hown ho (by simp; omega)
          have hbw2 := hbw.trans (ho.below (by simp; omega) hbw.size)
          have hbase2 := Nat.le_trans hbase ho.size
          clear ho hsa hra hown hbw hbase
          go_wp2_with fail
          refine (avail_c _ _ _ _ _ hsa2 (by omega) (by omega) (by omega)).mono ?_
          rintro e wk ⟨rfl, nd, rfl⟩
          go_wp2_with fail
          refine (avail_c _ _ _ _ _ (hsa2.drewN nd) (by omega) (by omega) (by omega)).mono ?_
          rintro e wk ⟨rfl, nd2, rfl⟩
          replace hsa2 : At (World.drewN _ (nd + nd2)) _ _ _ := hsa2.drewN (nd + nd2)
          replace hra2 : At (World.drewN _ (nd + nd2)) _ _ _ := hra2.drewN (nd + nd2)
          replace hown2 := own_drewN hown2 (nd + nd2)
          replace hbw2 : Below w.heap.size w (World.drewN _ (nd + nd2)) := ⟨hbw2.os, hbw2.tape, hbw2.output, hbw2.size, hbw2.block⟩
          go_wp2_with fail
          refine (limit_c _ _ _ _ _ _ hra2).mono ?_
          rintro e wk ⟨rfl, rfl⟩
          go_wp2_with fail
          refine (receive_ok _ _ _ _ _ _ _ hra2 (by omega) (by omega) (by omega)).mono ?_
          rintro e wz ⟨rfl, hraz, ho⟩
          have hsaz := hsa2.keep ho (by simp)
          have hownz := own_keep hown2 ho (by simp; omega)
          have hbwz := hbw2.trans (ho.below (by simp; omega) hbw2.size)
          have hbasez := Nat.le_trans hbase2 ho.size
          clear ho hra2 hsa2 hown2 hbw2 hbase2
          go_wp2_with fail
          go_roundw
          case rel => exact ⟨k + 1, _, _, _, _, _, _, _, _, rfl, rfl, rfl, by go_num, by omega, ⟨by omega, by omega, by omega, by omega, by omega, by omega⟩, hownz, hL0, by omega, HLb.out, hraz, hsaz, hbwz, hbasez⟩
          case measure => simp [intOf]; omega
      · skip
        by_cases hle : x < x + n
        · skip
          go_wp2_with fail
          refine (receive_ok _ _ _ _ _ _ _ hra (by omega) (by omega) (by omega)).mono ?_
          rintro e w2 ⟨rfl, hra2, ho⟩
          have hsa2 := hsa.keep ho (by simp)
          have hown2 := own_keep hown ho (by simp; omega)
          have hbw2 := hbw.trans (ho.below (by simp; omega) hbw.size)
          have hbase2 := Nat.le_trans hbase ho.size
          clear ho hra hsa hown hbw hbase
          go_wp2_with fail
          refine (avail_c _ _ _ _ _ hsa2 (by omega) (by omega) (by omega)).mono ?_
          rintro e wk ⟨rfl, nd, rfl⟩
          go_wp2_with fail
          refine (avail_c _ _ _ _ _ (hsa2.drewN nd) (by omega) (by omega) (by omega)).mono ?_
          rintro e wk ⟨rfl, nd2, rfl⟩
          replace hsa2 : At (World.drewN _ (nd + nd2)) _ _ _ := hsa2.drewN (nd + nd2)
          replace hra2 : At (World.drewN _ (nd + nd2)) _ _ _ := hra2.drewN (nd + nd2)
          replace hown2 := own_drewN hown2 (nd + nd2)
          replace hbw2 : Below w.heap.size w (World.drewN _ (nd + nd2)) := ⟨hbw2.os, hbw2.tape, hbw2.output, hbw2.size, hbw2.block⟩
          go_wp2_with fail
          refine (limit_c _ _ _ _ _ _ hra2).mono ?_
          rintro e wk ⟨rfl, rfl⟩
          go_wp2_with fail
          refine (receive_ok _ _ _ _ _ _ _ hra2 (by omega) (by omega) (by omega)).mono ?_
          rintro e wz ⟨rfl, hraz, ho⟩
          have hsaz := hsa2.keep ho (by simp)
          have hownz := own_keep hown2 ho (by simp; omega)
          have hbwz := hbw2.trans (ho.below (by simp; omega) hbw2.size)
          have hbasez := Nat.le_trans hbase2 ho.size
          clear ho hra2 hsa2 hown2 hbw2 hbase2
          go_wp2_with fail
          go_roundw
          case rel => exact ⟨k + 1, _, _, _, _, _, _, _, _, rfl, rfl, rfl, by go_num, by omega, ⟨by omega, by omega, by omega, by omega, by omega, by omega⟩, hownz, hL0, by omega, HLb.out, hraz, hsaz, hbwz, hbasez⟩
          case measure => simp [intOf]; omega
        · skip
          go_wp2_with fail
          refine (receive_ok _ _ _ _ _ _ _ hra (by omega) (by omega) (by omega)).mono ?_
          rintro e w2 ⟨rfl, hra2, ho⟩
          have hsa2 := hsa.keep ho (by simp)
          have hown2 := own_keep hown ho (by simp; omega)
          have hbw2 := hbw.trans (ho.below (by simp; omega) hbw.size)
          have hbase2 := Nat.le_trans hbase ho.size
          clear ho hra hsa hown hbw hbase
          go_wp2_with fail
          refine (avail_c _ _ _ _ _ hsa2 (by omega) (by omega) (by omega)).mono ?_
          rintro e wk ⟨rfl, nd, rfl⟩
          go_wp2_with fail
          refine (avail_c _ _ _ _ _ (hsa2.drewN nd) (by omega) (by omega) (by omega)).mono ?_
          rintro e wk ⟨rfl, nd2, rfl⟩
          replace hsa2 : At (World.drewN _ (nd + nd2)) _ _ _ := hsa2.drewN (nd + nd2)
          replace hra2 : At (World.drewN _ (nd + nd2)) _ _ _ := hra2.drewN (nd + nd2)
          replace hown2 := own_drewN hown2 (nd + nd2)
          replace hbw2 : Below w.heap.size w (World.drewN _ (nd + nd2)) := ⟨hbw2.os, hbw2.tape, hbw2.output, hbw2.size, hbw2.block⟩
          go_wp2_with fail
          refine (limit_c _ _ _ _ _ _ hra2).mono ?_
          rintro e wk ⟨rfl, rfl⟩
          go_wp2_with fail
          refine (receive_ok _ _ _ _ _ _ _ hra2 (by omega) (by omega) (by omega)).mono ?_
          rintro e wz ⟨rfl, hraz, ho⟩
          have hsaz := hsa2.keep ho (by simp)
          have hownz := own_keep hown2 ho (by simp; omega)
          have hbwz := hbw2.trans (ho.below (by simp; omega) hbw2.size)
          have hbasez := Nat.le_trans hbase2 ho.size
          clear ho hra2 hsa2 hown2 hbw2 hbase2
          go_wp2_with fail
          go_roundw
          case rel => exact ⟨k + 1, _, _, _, _, _, _, _, _, rfl, rfl, rfl, by go_num, by omega, ⟨by omega, by omega, by omega, by omega, by omega, by omega⟩, hownz, hL0, by omega, HLb.out, hraz, hsaz, hbwz, hbasez⟩
          case measure => simp [intOf]; omega
      · skip
        by_cases hle : x < r + n
        · skip
          go_wp2_with fail
          refine (read_all _ _ _ _ _ _ _ hra (by omega) (by omega) (by omega) (by omega) (by omega)).mono ?_
          rintro e w2 ⟨rfl, hra2, ho⟩
          have hsa2 := hsa.keep ho (by simp)
          have hown2 := own_keep hown ho (by simp; omega)
          have hbw2 := hbw.trans (ho.below (by simp; omega) hbw.size)
          have hbase2 := Nat.le_trans hbase ho.size
          clear ho hra hsa hown hbw hbase
          go_wp2_with fail
          refine (avail_c _ _ _ _ _ hsa2 (by omega) (by omega) (by omega)).mono ?_
          rintro e wk ⟨rfl, nd, rfl⟩
          go_wp2_with fail
          refine (avail_c _ _ _ _ _ (hsa2.drewN nd) (by omega) (by omega) (by omega)).mono ?_
          rintro e wk ⟨rfl, nd2, rfl⟩
          replace hsa2 : At (World.drewN _ (nd + nd2)) _ _ _ := hsa2.drewN (nd + nd2)
          replace hra2 : At (World.drewN _ (nd + nd2)) _ _ _ := hra2.drewN (nd + nd2)
          replace hown2 := own_drewN hown2 (nd + nd2)
          replace hbw2 : Below w.heap.size w (World.drewN _ (nd + nd2)) := ⟨hbw2.os, hbw2.tape, hbw2.output, hbw2.size, hbw2.block⟩
          go_wp2_with fail
          refine (limit_c _ _ _ _ _ _ hra2).mono ?_
          rintro e wk ⟨rfl, rfl⟩
          go_wp2_with fail
          refine (receive_ok _ _ _ _ _ _ _ hra2 (by omega) (by omega) (by omega)).mono ?_
          rintro e wz ⟨rfl, hraz, ho⟩
          have hsaz := hsa2.keep ho (by simp)
          have hownz := own_keep hown2 ho (by simp; omega)
          have hbwz := hbw2.trans (ho.below (by simp; omega) hbw2.size)
          have hbasez := Nat.le_trans hbase2 ho.size
          clear ho hra2 hsa2 hown2 hbw2 hbase2
          go_wp2_with fail
          go_roundw
          case rel => exact ⟨k + 1, _, _, _, _, _, _, _, _, rfl, rfl, rfl, by go_num, by omega, ⟨by omega, by omega, by omega, by omega, by omega, by omega⟩, hownz, hL0, by omega, HLb.out, hraz, hsaz, hbwz, hbasez⟩
          case measure => simp [intOf]; omega
        · skip
          go_wp2_with fail
          refine (read_part _ _ _ _ _ _ _ hra (by omega) (by omega) (by omega) (by omega) (by omega)).mono ?_
          rintro e w2 ⟨rfl, hra2, ho⟩
          have hsa2 := hsa.keep ho (by simp)
          have hown2 := own_keep hown ho (by simp; omega)
          have hbw2 := hbw.trans (ho.below (by simp; omega) hbw.size)
          have hbase2 := Nat.le_trans hbase ho.size
          clear ho hra hsa hown hbw hbase
          go_wp2_with fail
          refine (avail_c _ _ _ _ _ hsa2 (by omega) (by omega) (by omega)).mono ?_
          rintro e wk ⟨rfl, nd, rfl⟩
          go_wp2_with fail
          refine (avail_c _ _ _ _ _ (hsa2.drewN nd) (by omega) (by omega) (by omega)).mono ?_
          rintro e wk ⟨rfl, nd2, rfl⟩
          replace hsa2 : At (World.drewN _ (nd + nd2)) _ _ _ := hsa2.drewN (nd + nd2)
          replace hra2 : At (World.drewN _ (nd + nd2)) _ _ _ := hra2.drewN (nd + nd2)
          replace hown2 := own_drewN hown2 (nd + nd2)
          replace hbw2 : Below w.heap.size w (World.drewN _ (nd + nd2)) := ⟨hbw2.os, hbw2.tape, hbw2.output, hbw2.size, hbw2.block⟩
          go_wp2_with fail
          refine (limit_c _ _ _ _ _ _ hra2).mono ?_
          rintro e wk ⟨rfl, rfl⟩
          go_wp2_with fail
          refine (receive_ok _ _ _ _ _ _ _ hra2 (by omega) (by omega) (by omega)).mono ?_
          rintro e wz ⟨rfl, hraz, ho⟩
          have hsaz := hsa2.keep ho (by simp)
          have hownz := own_keep hown2 ho (by simp; omega)
          have hbwz := hbw2.trans (ho.below (by simp; omega) hbw2.size)
          have hbasez := Nat.le_trans hbase2 ho.size
          clear ho hra2 hsa2 hown2 hbw2 hbase2
          go_wp2_with fail
          go_roundw
          case rel => exact ⟨k + 1, _, _, _, _, _, _, _, _, rfl, rfl, rfl, by go_num, by omega, ⟨by omega, by omega, by omega, by omega, by omega, by omega⟩, hownz, hL0, by omega, HLb.out, hraz, hsaz, hbwz, hbasez⟩
          case measure => simp [intOf]; omega
      · skip
        by_cases hle : a0 % 301 / 2 < m - r ∨ r + a0 % 301 ≤ m
        · skip
          go_wp2_with fail
          refine (update_no _ _ _ _ _ _ hra (by omega) (by omega) (by omega) (by omega) (by omega) hle).mono ?_
          rintro e w2 ⟨rfl, hra2, ho⟩
          have hsa2 := hsa.keep ho (by simp)
          have hown2 := own_keep hown ho (by simp; omega)
          have hbw2 := hbw.trans (ho.below (by simp; omega) hbw.size)
          have hbase2 := Nat.le_trans hbase ho.size
          clear ho hra hsa hown hbw hbase
          go_wp2_with fail
          refine (avail_c _ _ _ _ _ hsa2 (by omega) (by omega) (by omega)).mono ?_
          rintro e wk ⟨rfl, nd, rfl⟩
          go_wp2_with fail
          refine (avail_c _ _ _ _ _ (hsa2.drewN nd) (by omega) (by omega) (by omega)).mono ?_
          rintro e wk ⟨rfl, nd2, rfl⟩
          replace hsa2 : At (World.drewN _ (nd + nd2)) _ _ _ := hsa2.drewN (nd + nd2)
          replace hra2 : At (World.drewN _ (nd + nd2)) _ _ _ := hra2.drewN (nd + nd2)
          replace hown2 := own_drewN hown2 (nd + nd2)
          replace hbw2 : Below w.heap.size w (World.drewN _ (nd + nd2)) := ⟨hbw2.os, hbw2.tape, hbw2.output, hbw2.size, hbw2.block⟩
          go_wp2_with fail
          refine (limit_c _ _ _ _ _ _ hra2).mono ?_
          rintro e wk ⟨rfl, rfl⟩
          go_wp2_with fail
          refine (receive_ok _ _ _ _ _ _ _ hra2 (by omega) (by omega) (by omega)).mono ?_
          rintro e wz ⟨rfl, hraz, ho⟩
          have hsaz := hsa2.keep ho (by simp)
          have hownz := own_keep hown2 ho (by simp; omega)
          have hbwz := hbw2.trans (ho.below (by simp; omega) hbw2.size)
          have hbasez := Nat.le_trans hbase2 ho.size
          clear ho hra2 hsa2 hown2 hbw2 hbase2
          go_wp2_with fail
          go_roundw
          case rel => exact ⟨k + 1, _, _, _, _, _, _, _, _, rfl, rfl, rfl, by go_num, by omega, ⟨by omega, by omega, by omega, by omega, by omega, by omega⟩, hownz, hL0, by omega, HLb.out, hraz, hsaz, hbwz, hbasez⟩
          case measure => simp [intOf]; omega
        · skip
          go_wp2_with fail
          refine (update_yes _ _ _ _ _ _ hra (by omega) (by omega) (by omega) (by omega) (by omega) (by omega) (by omega) (by omega)).mono ?_
          rintro e w2 ⟨rfl, hra2, ho⟩
          have hsa2 := hsa.keep ho (by simp)
          have hown2 := own_keep hown ho (by simp; omega)
          have hbw2 := hbw.trans (ho.below (by simp; omega) hbw.size)
          have hbase2 := Nat.le_trans hbase ho.size
          clear ho hra hsa hown hbw hbase
          go_wp2_with (at_builtin; refine wpList_append_own _ rfl _ _ 50 rfl (wA.heap.size + 1 + 1) 3 ii (.int .i64 0) 1 8 Try.underlying50 hii hz0 hz1 hz2 rfl (by decide) _ _ _ rfl (hown2.alloc _) ⟨w2.heap.size, 0, none⟩ 1 1 [.int .i64 (r + a0 % 301)] rfl rfl ?c1 ?c2 ?c3 ?c4 ?c5 ?_)
          case c1 => exact cell_one_new _ _ _
          case c2 => simp [Value.oneCell']
          case c3 => unfold maxLen; omega
          case c4 => omega
          case c5 => simp; omega
          intro v' w3 hown3 hgrow _
          obtain ⟨g3, cap3, rfl, hg3⟩ := own_form hown3
          have hgb := (hown2.lt g rfl).1
          have hog : Only [g] w2 w3 := ((Only.refl [g] w2).alloc _).trans (only_grown hgrow)
          have hra3 := hra2.keep hog (by simp; omega)
          have hsa3 := hsa2.keep hog (by simp; omega)
          have hbw3 := hbw2.trans (hog.below (by simp; omega) hbw2.size)
          have hbase3 := Nat.le_trans hbase2 hog.size
          have hgr3 := own_ne hown3 hra3 (by decide)
          have hgs3 := own_ne hown3 hsa3 (by decide)
          clear hog hgrow hra2 hsa2 hown2 hbw2 hbase2 hgb
          go_wp2_with fail
          refine (avail_c _ _ _ _ _ hsa3 (by omega) (by omega) (by omega)).mono ?_
          rintro e wk ⟨rfl, nd, rfl⟩
          go_wp2_with fail
          refine (avail_c _ _ _ _ _ (hsa3.drewN nd) (by omega) (by omega) (by omega)).mono ?_
          rintro e wk ⟨rfl, nd2, rfl⟩
          replace hsa3 : At (World.drewN _ (nd + nd2)) _ _ _ := hsa3.drewN (nd + nd2)
          replace hra3 : At (World.drewN _ (nd + nd2)) _ _ _ := hra3.drewN (nd + nd2)
          replace hown3 := own_drewN hown3 (nd + nd2)
          replace hbw3 : Below w.heap.size w (World.drewN _ (nd + nd2)) := ⟨hbw3.os, hbw3.tape, hbw3.output, hbw3.size, hbw3.block⟩
          go_wp2_with fail
          refine (limit_c _ _ _ _ _ _ hra3).mono ?_
          rintro e wk ⟨rfl, rfl⟩
          go_wp2_with fail
          refine (receive_ok _ _ _ _ _ _ _ hra3 (by omega) (by omega) (by omega)).mono ?_
          rintro e wz ⟨rfl, hraz, ho⟩
          have hsaz := hsa3.keep ho (by simp)
          have hownz := own_keep hown3 ho (by simp; omega)
          have hbwz := hbw3.trans (ho.below (by simp; omega) hbw3.size)
          have hbasez := Nat.le_trans hbase3 ho.size
          clear ho hra3 hsa3 hown3 hbw3 hbase3
          go_wp2_with fail
          go_roundw
          case rel => exact ⟨k + 1, _, _, _, _, _, g3, cap3, L ++ [r + a0 % 301], rfl, rfl, by simp, by go_num, by omega, ⟨by omega, by omega, by omega, by omega, by omega, by omega⟩, (by simpa using hownz), by simp, by simp; omega, (by intro y hy; simp at hy; rcases hy with hy | rfl; exact ⟨(HLb.out y hy).1, by have := (HLb.out y hy).2; omega⟩; exact ⟨by omega, by omega⟩), hraz, hsaz, hbwz, hbasez⟩
          case measure => simp [intOf]; omega
      · skip
        go_wp2_with fail
        refine (pick_ex _ _ _ (by omega) (by omega) (by omega)).mono ?_
        rintro e wk ⟨j, hj0, hj1, rfl, rfl⟩
        obtain ⟨q, rfl⟩ := Int.eq_ofNat_of_zero_le hj0
        have hqL : q < L.length := by omega
        have hcq : wr.cell? ⟨g, q, none⟩ = some (.int .i64 L[q]) := by rw [hown.cellAt q (by omega)]; simp [hqL]
        obtain ⟨y0, y1⟩ := HLb.out L[q] (List.getElem_mem hqL)
        generalize hy : L[q] = y at hcq y0 y1
        clear hy
        by_cases hle : M ≤ y
        · skip
          go_wp2_with fail
          refine (raise_up _ _ _ _ _ _ hsa (by omega) (by omega)).mono ?_
          rintro e w2 ⟨rfl, hsa2, ho⟩
          have hra2 := hra.keep ho (by simp)
          have hown2 := own_keep hown ho (by simp; omega)
          have hbw2 := hbw.trans (ho.below (by simp; omega) hbw.size)
          have hbase2 := Nat.le_trans hbase ho.size
          clear ho hsa hra hown hbw hbase
          go_wp2_with fail
          refine (avail_c _ _ _ _ _ hsa2 (by omega) (by omega) (by omega)).mono ?_
          rintro e wk ⟨rfl, nd, rfl⟩
          go_wp2_with fail
          refine (avail_c _ _ _ _ _ (hsa2.drewN nd) (by omega) (by omega) (by omega)).mono ?_
          rintro e wk ⟨rfl, nd2, rfl⟩
          replace hsa2 : At (World.drewN _ (nd + nd2)) _ _ _ := hsa2.drewN (nd + nd2)
          replace hra2 : At (World.drewN _ (nd + nd2)) _ _ _ := hra2.drewN (nd + nd2)
          replace hown2 := own_drewN hown2 (nd + nd2)
          replace hbw2 : Below w.heap.size w (World.drewN _ (nd + nd2)) := ⟨hbw2.os, hbw2.tape, hbw2.output, hbw2.size, hbw2.block⟩
          go_wp2_with fail
          refine (limit_c _ _ _ _ _ _ hra2).mono ?_
          rintro e wk ⟨rfl, rfl⟩
          go_wp2_with fail
          refine (receive_ok _ _ _ _ _ _ _ hra2 (by omega) (by omega) (by omega)).mono ?_
          rintro e wz ⟨rfl, hraz, ho⟩
          have hsaz := hsa2.keep ho (by simp)
          have hownz := own_keep hown2 ho (by simp; omega)
          have hbwz := hbw2.trans (ho.below (by simp; omega) hbw2.size)
          have hbasez := Nat.le_trans hbase2 ho.size
          clear ho hra2 hsa2 hown2 hbw2 hbase2
          go_wp2_with fail
          go_roundw
          case rel => exact ⟨k + 1, _, _, _, _, _, _, _, _, rfl, rfl, rfl, by go_num, by omega, ⟨by omega, by omega, by omega, by omega, by omega, by omega⟩, hownz, hL0, by omega, HLb.out, hraz, hsaz, hbwz, hbasez⟩
          case measure => simp [intOf]; omega
        · skip
          go_wp2_with fail
          refine (raise_low _ _ _ _ _ _ hsa (by omega) (by omega)).mono ?_
          rintro e w2 ⟨rfl, hsa2, ho⟩
          have hra2 := hra.keep ho (by simp)
          have hown2 := own_keep hown ho (by simp; omega)
          have hbw2 := hbw.trans (ho.below (by simp; omega) hbw.size)
          have hbase2 := Nat.le_trans hbase ho.size
          clear ho hsa hra hown hbw hbase
          go_wp2_with fail
          refine (avail_c _ _ _ _ _ hsa2 (by omega) (by omega) (by omega)).mono ?_
          rintro e wk ⟨rfl, nd, rfl⟩
          go_wp2_with fail
          refine (avail_c _ _ _ _ _ (hsa2.drewN nd) (by omega) (by omega) (by omega)).mono ?_
          rintro e wk ⟨rfl, nd2, rfl⟩
          replace hsa2 : At (World.drewN _ (nd + nd2)) _ _ _ := hsa2.drewN (nd + nd2)
          replace hra2 : At (World.drewN _ (nd + nd2)) _ _ _ := hra2.drewN (nd + nd2)
          replace hown2 := own_drewN hown2 (nd + nd2)
          replace hbw2 : Below w.heap.size w (World.drewN _ (nd + nd2)) := ⟨hbw2.os, hbw2.tape, hbw2.output, hbw2.size, hbw2.block⟩
          go_wp2_with fail
          refine (limit_c _ _ _ _ _ _ hra2).mono ?_
          rintro e wk ⟨rfl, rfl⟩
          go_wp2_with fail
          refine (receive_ok _ _ _ _ _ _ _ hra2 (by omega) (by omega) (by omega)).mono ?_
          rintro e wz ⟨rfl, hraz, ho⟩
          have hsaz := hsa2.keep ho (by simp)
          have hownz := own_keep hown2 ho (by simp; omega)
          have hbwz := hbw2.trans (ho.below (by simp; omega) hbw2.size)
          have hbasez := Nat.le_trans hbase2 ho.size
          clear ho hra2 hsa2 hown2 hbw2 hbase2
          go_wp2_with fail
          go_roundw
          case rel => exact ⟨k + 1, _, _, _, _, _, _, _, _, rfl, rfl, rfl, by go_num, by omega, ⟨by omega, by omega, by omega, by omega, by omega, by omega⟩, hownz, hL0, by omega, HLb.out, hraz, hsaz, hbwz, hbasez⟩
          case measure => simp [intOf]; omega
    · by_cases hl1 : k < len1
      all_goals
        clear hown
        go_wp2_with fail
        refine (limit_c _ _ _ _ _ _ hra).mono ?_
        rintro e wk ⟨rfl, rfl⟩
        go_wp2_with fail
        refine (raise_up _ _ _ _ _ _ hsa (by omega) (by omega)).mono ?_
        rintro e w2 ⟨rfl, hsa2, ho⟩
        have hra2 := hra.keep ho (by simp)
        have hbw2 := hbw.trans (ho.below (by simp; omega) hbw.size)
        clear ho
        go_wp2_with fail
        refine (avail_c _ _ _ _ _ hsa2 (by omega) (by omega) (by omega)).mono ?_
        rintro e wk ⟨rfl, nd, rfl⟩
        go_wp2_with fail
        refine (limit_c _ _ _ _ _ _ (hra2.drewN nd)).mono ?_
        rintro e wk ⟨rfl, rfl⟩
        go_wp2_with fail
        go_ret
        exact ⟨ret_boo (by simp <;> omega), ⟨hbw2.os, hbw2.tape, hbw2.output, hbw2.size, hbw2.block⟩⟩
end Go.Proofs.Ytnembdlkdgfjlaa
