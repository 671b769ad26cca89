/- The walk of FlowSenderMatchesReference. -/
import Derived.Test.YtnembdlkdgfjlaaFlE
namespace Go.Proofs.Ytnembdlkdgfjlaa
open Go.RowKit
set_option linter.unusedVariables false
set_option linter.unusedSimpArgs false

theorem newsnd_any (n : Int) (w : World) :
    Calls Try.prog 20 #[.int .i64 n] w fun e w' => ∃ p, e = .returned (.tuple #[.pointer p, .int .i64 (nrE 1099511627776 n)]) ∧ Below w.heap.size w w' := by
  by_cases h : n < 0 ∨ 1099511627776 < n
  · have hz : nrE 1099511627776 n = 2 := by rw [nrE, if_pos h]
    rw [hz]
    exact (newsnd_no n w h).mono fun e w' ⟨he, hw⟩ => ⟨_, he, hw ▸ Below.refl _ _⟩
  · have hz : nrE 1099511627776 n = 0 := by rw [nrE, if_neg h]
    rw [hz]
    exact (newsnd_ok n w (by omega) (by omega)).mono fun e w' ⟨he, hw⟩ => ⟨_, he, hw ▸ (Below.refl _ _).alloc (Nat.le_refl _) _⟩
theorem xnewsnd_any (n : Int) (w : World) :
    Calls Try.prog 21 #[.int .i64 n] w fun e w' => ∃ p, e = .returned (.tuple #[.pointer p, .int .i64 (nrE 1099511627776 n)]) ∧ Below w.heap.size w w' := by
  by_cases h : n < 0 ∨ 1099511627776 < n
  · have hz : nrE 1099511627776 n = 2 := by rw [nrE, if_pos h]
    rw [hz]
    exact (xnewsnd_no n w h).mono fun e w' ⟨he, hw⟩ => ⟨_, he, hw ▸ Below.refl _ _⟩
  · have hz : nrE 1099511627776 n = 0 := by rw [nrE, if_neg h]
    rw [hz]
    exact (xnewsnd_ok n w (by omega) (by omega)).mono fun e w' ⟨he, hw⟩ => ⟨_, he, hw ▸ (Below.refl _ _).alloc (Nat.le_refl _) _⟩

/-- What holds of a Sender's numbers. -/
def SInv (m u t : Int) : Prop := 0 ≤ u ∧ u ≤ m ∧ m ≤ 1099511627776 ∧ -1 ≤ t ∧ t ≤ 1099511627776
def SRel (w : World) (ra rb : Nat) (i : Value) (wr : World) : Prop := ∃ (k : Nat) (m u t : Int), i = .int .i64 k ∧ k ≤ 100 ∧ SInv m u t ∧
  At wr ra 60 #[.int .i64 m, .int .i64 u, .int .i64 (t + 1)] ∧ At wr rb 62 #[.int .i64 m, .int .i64 u, .int .i64 t] ∧ Below w.heap.size w wr
theorem SInv.use {m u t : Int} (hi : SInv m u t) (n : Int) : SInv m (useU m u n) t := by
  unfold SInv useU at *; (repeat' (first | omega | split))
theorem SInv.raise {m u t : Int} (hi : SInv m u t) (n : Int) : SInv (raiseZ m n) u t := by
  unfold SInv raiseZ capZ at *; (repeat' (first | omega | split))
theorem SInv.blk {m u t : Int} (hi : SInv m u t) : SInv m u (blkT m u t) := by
  unfold SInv blkT at *; (repeat' (first | omega | split))
theorem use_i (b : Nat) (m u t n : Int) (w : World) (hA : At w b 60 #[.int .i64 m, .int .i64 u, .int .i64 (t + 1)]) (hi : SInv m u t) :
    Calls Try.prog 22 #[.pointer (some ⟨b, 0, none⟩), .int .i64 n] w fun e w' => e = .returned (.int .i64 (useE m u n)) ∧ At w' b 60 #[.int .i64 m, .int .i64 (useU m u n), .int .i64 (t + 1)] ∧ Only [b] w w' ∧ SInv m (useU m u n) t :=
  (use_c b m u (t + 1) n w hA hi.1 hi.2.1 hi.2.2.1).mono fun _ _ ⟨x, y, z⟩ => ⟨x, y, z, hi.use n⟩
theorem raise_i (b : Nat) (m u t n : Int) (w : World) (hA : At w b 60 #[.int .i64 m, .int .i64 u, .int .i64 (t + 1)]) (hi : SInv m u t) :
    Calls Try.prog 24 #[.pointer (some ⟨b, 0, none⟩), .int .i64 n] w fun e w' => e = .returned (.tuple #[]) ∧ At w' b 60 #[.int .i64 (raiseZ m n), .int .i64 u, .int .i64 (t + 1)] ∧ Only [b] w w' ∧ SInv (raiseZ m n) u t :=
  (sraise_c b m u (t + 1) n w hA).mono fun _ _ ⟨x, y, z⟩ => ⟨x, y, z, hi.raise n⟩
theorem block_i (b : Nat) (m u t : Int) (w : World) (hA : At w b 60 #[.int .i64 m, .int .i64 u, .int .i64 (t + 1)]) (hi : SInv m u t) :
    Calls Try.prog 26 #[.pointer (some ⟨b, 0, none⟩)] w fun e w' => e = .returned (.tuple #[.int .i64 (blkN m u t), .bool (blkB m u t)]) ∧ At w' b 60 #[.int .i64 m, .int .i64 u, .int .i64 (blkT m u t + 1)] ∧ Only [b] w w' ∧ SInv m u (blkT m u t) :=
  (block_c b m u t w hA hi.1 hi.2.1 hi.2.2.1 hi.2.2.2.1 hi.2.2.2.2).mono fun _ _ ⟨x, y, z⟩ => ⟨x, y, z, hi.blk⟩

set_option maxRecDepth 100000 in
set_option maxHeartbeats 4000000 in
theorem smatch_walk (a0 : Int) (a1 : Option Addr) (len1 cap1 : Nat) (K N : Nat → Int) (a2 : Bool) (w : World) (w0 : (Lit.int .i64 a0).wf = true) (w1 : Pairs .u8 .i64 w a1 len1 K N) :
    Calls Try.prog 4 #[.int .i64 a0, .slice a1 len1 cap1, .bool a2] w fun e w' => e = .returned (.bool true) ∧ Below w.heap.size w w' := by
  obtain ⟨b0, c0⟩ := wf_i64 w0
  clear w0
  have hp1 := pickZ_bd a0 60 (by omega)
  cases a2
  · go_enter Try.func4, Try.ntmps4
    go_wp2_with fail
    refine (sane_any _).mono ?_
    rintro e wA ⟨rfl, hb⟩
    go_wp2_with fail
    refine (newsnd_any _ _).mono ?_
    rintro e wB ⟨p1, rfl, hb2⟩
    replace hb := hb.trans (hb2.mono hb.size); clear hb2
    go_wp2_with fail
    refine (xnewsnd_any _ _).mono ?_
    rintro e wC ⟨p2, rfl, hb2⟩
    replace hb := hb.trans (hb2.mono hb.size); clear hb2
    go_wp2_with fail
    refine (pick_any _ _ _ (by omega) (by omega) (by omega)).mono ?_
    rintro e wk ⟨rfl, rfl⟩
    go_wp2_with fail
    refine (newsnd_ok _ _ (by omega) (by omega)).mono ?_
    rintro e wk ⟨rfl, rfl⟩
    go_wp2_with fail
    refine (xnewsnd_ok _ _ (by omega) (by omega)).mono ?_
    rintro e wk ⟨rfl, rfl⟩
    go_wp2_with fail
    have ha := at3 (c' := -1 + 1) ((At.new wC 60 #[.int .i64 (pickZ a0 60), .int .i64 0, .int .i64 0]).alloc (.cells #[.int .i64 (pickZ a0 60), .int .i64 0, .int .i64 (-1)] 62)) rfl rfl rfl
    have hx := At.new (wC.alloc (.cells #[.int .i64 (pickZ a0 60), .int .i64 0, .int .i64 0] 60)) 62 #[.int .i64 (pickZ a0 60), .int .i64 0, .int .i64 (-1)]
    rw [World.size_alloc] at hx
    have hbb := (hb.alloc hb.size (.cells #[.int .i64 (pickZ a0 60), .int .i64 0, .int .i64 0] 60)).alloc (by have := hb.size; simp; omega) (.cells #[.int .i64 (pickZ a0 60), .int .i64 0, .int .i64 (-1)] 62)
    go_loopw [16] (fun i wr => SRel w wC.heap.size (wC.heap.size + 1) i wr) (fun i _ => 100 - (intOf i).toNat)
    case atStart => exact ⟨0, _, _, _, rfl, by omega, ⟨by omega, by omega, by omega, by omega, by omega⟩, ha, hx, hbb⟩
    case round =>
      obtain ⟨k, m, u, t, rfl, hk, hi, hra, hrb, hbw⟩ := hrel
      have hsz := hb.size
      clear ha hx hbb hb
      by_cases hlt : k < len1 ∧ k < 100
      · obtain ⟨hlt1, hlt2⟩ := hlt
        obtain ⟨b, off, rfl, hbs, hc0, hc1, hw0, hw1⟩ := w1 k hlt1
        rw [← hbw.cell hbs] at hc0 hc1
        obtain ⟨k0, k1⟩ := wf_u8 hw0
        obtain ⟨n0, n1⟩ := wf_i64 hw1
        clear hw0 hw1 w1
        have hi' := hi
        obtain ⟨i0, i1, i2, i3, i4⟩ := hi
        rcases (by omega : K k % 6 = 0 ∨ K k % 6 = 1 ∨ K k % 6 = 2 ∨ K k % 6 = 3 ∨ K k % 6 = 4 ∨ K k % 6 = 5) with hq | hq | hq | hq | hq | hq
        · skip
          go_wp2_with fail
          refine (use_i _ _ _ _ _ _ hra hi').mono ?_
          rintro e w2 ⟨rfl, hra2, ho, hi3⟩
          have hrb2 := hrb.keep ho (by simp)
          have hbw2 := hbw.trans (ho.below (by simp; omega) hbw.size)
          clear ho hra hrb hbw
          go_wp2_with fail
          refine (xuse_c _ _ _ _ _ _ hrb2 (by omega) (by omega) (by omega)).mono ?_
          rintro e w3 ⟨rfl, hrb3, ho⟩
          have hra3 := hra2.keep ho (by simp)
          have hbw3 := hbw2.trans (ho.below (by simp; omega) hbw2.size)
          have hi4 := hi3
          obtain ⟨j0, j1, j2, j3, j4⟩ := hi4
          clear ho hra2 hrb2 hbw2
          go_wp2_with fail
          refine (avail_c _ _ _ _ _ hra3 j0 j1 j2).mono ?_
          rintro e w4 ⟨rfl, nd, rfl⟩
          go_wp2_with fail
          refine (xavail_c _ _ _ _ _ (hrb3.drewN nd) j0 j1 j2).mono ?_
          rintro e w4 ⟨rfl, nd2, rfl⟩
          go_wp2_with fail
          go_roundw
          case rel => exact ⟨k + 1, _, _, _, by go_num, by omega, hi3, hra3.drewN _, hrb3.drewN _, ⟨hbw3.os, hbw3.tape, hbw3.output, hbw3.size, hbw3.block⟩⟩
          case measure => simp [intOf]; omega
        · skip
          go_wp2_with fail
          refine (use_i _ _ _ _ _ _ hra hi').mono ?_
          rintro e w2 ⟨rfl, hra2, ho, hi3⟩
          have hrb2 := hrb.keep ho (by simp)
          have hbw2 := hbw.trans (ho.below (by simp; omega) hbw.size)
          clear ho hra hrb hbw
          go_wp2_with fail
          refine (xuse_c _ _ _ _ _ _ hrb2 (by omega) (by omega) (by omega)).mono ?_
          rintro e w3 ⟨rfl, hrb3, ho⟩
          have hra3 := hra2.keep ho (by simp)
          have hbw3 := hbw2.trans (ho.below (by simp; omega) hbw2.size)
          have hi4 := hi3
          obtain ⟨j0, j1, j2, j3, j4⟩ := hi4
          clear ho hra2 hrb2 hbw2
          go_wp2_with fail
          refine (avail_c _ _ _ _ _ hra3 j0 j1 j2).mono ?_
          rintro e w4 ⟨rfl, nd, rfl⟩
          go_wp2_with fail
          refine (xavail_c _ _ _ _ _ (hrb3.drewN nd) j0 j1 j2).mono ?_
          rintro e w4 ⟨rfl, nd2, rfl⟩
          go_wp2_with fail
          go_roundw
          case rel => exact ⟨k + 1, _, _, _, by go_num, by omega, hi3, hra3.drewN _, hrb3.drewN _, ⟨hbw3.os, hbw3.tape, hbw3.output, hbw3.size, hbw3.block⟩⟩
          case measure => simp [intOf]; omega
        · skip
          go_wp2_with fail
          refine (raise_i _ _ _ _ _ _ hra hi').mono ?_
          rintro e w2 ⟨rfl, hra2, ho, hi3⟩
          have hrb2 := hrb.keep ho (by simp)
          have hbw2 := hbw.trans (ho.below (by simp; omega) hbw.size)
          clear ho hra hrb hbw
          go_wp2_with fail
          refine (xraise_c _ _ _ _ _ _ hrb2).mono ?_
          rintro e w3 ⟨rfl, hrb3, ho⟩
          have hra3 := hra2.keep ho (by simp)
          have hbw3 := hbw2.trans (ho.below (by simp; omega) hbw2.size)
          have hi4 := hi3
          obtain ⟨j0, j1, j2, j3, j4⟩ := hi4
          clear ho hra2 hrb2 hbw2
          go_wp2_with fail
          refine (avail_c _ _ _ _ _ hra3 j0 j1 j2).mono ?_
          rintro e w4 ⟨rfl, nd, rfl⟩
          go_wp2_with fail
          refine (xavail_c _ _ _ _ _ (hrb3.drewN nd) j0 j1 j2).mono ?_
          rintro e w4 ⟨rfl, nd2, rfl⟩
          go_wp2_with fail
          go_roundw
          case rel => exact ⟨k + 1, _, _, _, by go_num, by omega, hi3, hra3.drewN _, hrb3.drewN _, ⟨hbw3.os, hbw3.tape, hbw3.output, hbw3.size, hbw3.block⟩⟩
          case measure => simp [intOf]; omega
        · skip
          go_wp2_with fail
          refine (raise_i _ _ _ _ _ _ hra hi').mono ?_
          rintro e w2 ⟨rfl, hra2, ho, hi3⟩
          have hrb2 := hrb.keep ho (by simp)
          have hbw2 := hbw.trans (ho.below (by simp; omega) hbw.size)
          clear ho hra hrb hbw
          go_wp2_with fail
          refine (xraise_c _ _ _ _ _ _ hrb2).mono ?_
          rintro e w3 ⟨rfl, hrb3, ho⟩
          have hra3 := hra2.keep ho (by simp)
          have hbw3 := hbw2.trans (ho.below (by simp; omega) hbw2.size)
          have hi4 := hi3
          obtain ⟨j0, j1, j2, j3, j4⟩ := hi4
          clear ho hra2 hrb2 hbw2
          go_wp2_with fail
          refine (avail_c _ _ _ _ _ hra3 j0 j1 j2).mono ?_
          rintro e w4 ⟨rfl, nd, rfl⟩
          go_wp2_with fail
          refine (xavail_c _ _ _ _ _ (hrb3.drewN nd) j0 j1 j2).mono ?_
          rintro e w4 ⟨rfl, nd2, rfl⟩
          go_wp2_with fail
          go_roundw
          case rel => exact ⟨k + 1, _, _, _, by go_num, by omega, hi3, hra3.drewN _, hrb3.drewN _, ⟨hbw3.os, hbw3.tape, hbw3.output, hbw3.size, hbw3.block⟩⟩
          case measure => simp [intOf]; omega
        · skip
          go_wp2_with fail
          refine (block_i _ _ _ _ _ hra hi').mono ?_
          rintro e w2 ⟨rfl, hra2, ho, hi3⟩
          have hrb2 := hrb.keep ho (by simp)
          have hbw2 := hbw.trans (ho.below (by simp; omega) hbw.size)
          clear ho hra hrb hbw
          go_wp2_with fail
          refine (xblock_c _ _ _ _ _ hrb2 (by omega) (by omega) (by omega) (by omega) (by omega)).mono ?_
          rintro e w3 ⟨rfl, hrb3, ho⟩
          have hra3 := hra2.keep ho (by simp)
          have hbw3 := hbw2.trans (ho.below (by simp; omega) hbw2.size)
          have hi4 := hi3
          obtain ⟨j0, j1, j2, j3, j4⟩ := hi4
          clear ho hra2 hrb2 hbw2
          go_wp2_with fail
          refine (avail_c _ _ _ _ _ hra3 j0 j1 j2).mono ?_
          rintro e w4 ⟨rfl, nd, rfl⟩
          go_wp2_with fail
          refine (xavail_c _ _ _ _ _ (hrb3.drewN nd) j0 j1 j2).mono ?_
          rintro e w4 ⟨rfl, nd2, rfl⟩
          go_wp2_with fail
          go_roundw
          case rel => exact ⟨k + 1, _, _, _, by go_num, by omega, hi3, hra3.drewN _, hrb3.drewN _, ⟨hbw3.os, hbw3.tape, hbw3.output, hbw3.size, hbw3.block⟩⟩
          case measure => simp [intOf]; omega
        · skip
          go_wp2_with fail
          refine (block_i _ _ _ _ _ hra hi').mono ?_
          rintro e w2 ⟨rfl, hra2, ho, hi3⟩
          have hrb2 := hrb.keep ho (by simp)
          have hbw2 := hbw.trans (ho.below (by simp; omega) hbw.size)
          clear ho hra hrb hbw
          go_wp2_with fail
          refine (xblock_c _ _ _ _ _ hrb2 (by omega) (by omega) (by omega) (by omega) (by omega)).mono ?_
          rintro e w3 ⟨rfl, hrb3, ho⟩
          have hra3 := hra2.keep ho (by simp)
          have hbw3 := hbw2.trans (ho.below (by simp; omega) hbw2.size)
          have hi4 := hi3
          obtain ⟨j0, j1, j2, j3, j4⟩ := hi4
          clear ho hra2 hrb2 hbw2
          go_wp2_with fail
          refine (avail_c _ _ _ _ _ hra3 j0 j1 j2).mono ?_
          rintro e w4 ⟨rfl, nd, rfl⟩
          go_wp2_with fail
          refine (xavail_c _ _ _ _ _ (hrb3.drewN nd) j0 j1 j2).mono ?_
          rintro e w4 ⟨rfl, nd2, rfl⟩
          go_wp2_with fail
          go_roundw
          case rel => exact ⟨k + 1, _, _, _, by go_num, by omega, hi3, hra3.drewN _, hrb3.drewN _, ⟨hbw3.os, hbw3.tape, hbw3.output, hbw3.size, hbw3.block⟩⟩
          case measure => simp [intOf]; omega
      · by_cases hl1 : k < len1
        all_goals
          go_wp2_with fail
          go_ret
          exact ⟨rfl, hbw⟩
  · go_enter Try.func4, Try.ntmps4
    go_wp2_with fail
    refine (sane_any _).mono ?_
    rintro e wA ⟨rfl, hb⟩
    go_wp2_with fail
    refine (newsnd_any _ _).mono ?_
    rintro e wB ⟨p1, rfl, hb2⟩
    replace hb := hb.trans (hb2.mono hb.size); clear hb2
    go_wp2_with fail
    refine (xnewsnd_any _ _).mono ?_
    rintro e wC ⟨p2, rfl, hb2⟩
    replace hb := hb.trans (hb2.mono hb.size); clear hb2
    go_wp2_with fail
    refine (pick_any _ _ _ (by omega) (by omega) (by omega)).mono ?_
    rintro e wk ⟨rfl, rfl⟩
    go_wp2_with fail
    refine (newsnd_ok _ _ (by omega) (by omega)).mono ?_
    rintro e wk ⟨rfl, rfl⟩
    go_wp2_with fail
    refine (xnewsnd_ok _ _ (by omega) (by omega)).mono ?_
    rintro e wk ⟨rfl, rfl⟩
    go_wp2_with fail
    have ha := at3 (c' := -1 + 1) ((At.new wC 60 #[.int .i64 (pickZ a0 60), .int .i64 0, .int .i64 0]).alloc (.cells #[.int .i64 (pickZ a0 60), .int .i64 0, .int .i64 (-1)] 62)) rfl rfl rfl
    have hx := At.new (wC.alloc (.cells #[.int .i64 (pickZ a0 60), .int .i64 0, .int .i64 0] 60)) 62 #[.int .i64 (pickZ a0 60), .int .i64 0, .int .i64 (-1)]
    rw [World.size_alloc] at hx
    have hbb := (hb.alloc hb.size (.cells #[.int .i64 (pickZ a0 60), .int .i64 0, .int .i64 0] 60)).alloc (by have := hb.size; simp; omega) (.cells #[.int .i64 (pickZ a0 60), .int .i64 0, .int .i64 (-1)] 62)
    go_loopw [16] (fun i wr => SRel w wC.heap.size (wC.heap.size + 1) i wr) (fun i _ => 100 - (intOf i).toNat)
    case atStart => exact ⟨0, _, _, _, rfl, by omega, ⟨by omega, by omega, by omega, by omega, by omega⟩, ha, hx, hbb⟩
    case round =>
      obtain ⟨k, m, u, t, rfl, hk, hi, hra, hrb, hbw⟩ := hrel
      have hsz := hb.size
      clear ha hx hbb hb
      by_cases hlt : k < len1 ∧ k < 100
      · obtain ⟨hlt1, hlt2⟩ := hlt
        obtain ⟨b, off, rfl, hbs, hc0, hc1, hw0, hw1⟩ := w1 k hlt1
        rw [← hbw.cell hbs] at hc0 hc1
        obtain ⟨k0, k1⟩ := wf_u8 hw0
        obtain ⟨n0, n1⟩ := wf_i64 hw1
        clear hw0 hw1 w1
        have hi' := hi
        obtain ⟨i0, i1, i2, i3, i4⟩ := hi
        have hpk := pickZ_bd (N k) 30 (by omega)
        rcases (by omega : K k % 6 = 0 ∨ K k % 6 = 1 ∨ K k % 6 = 2 ∨ K k % 6 = 3 ∨ K k % 6 = 4 ∨ K k % 6 = 5) with hq | hq | hq | hq | hq | hq
        · skip
          go_wp2_with fail
          refine (pick_any _ _ _ (by omega) (by omega) (by omega)).mono ?_
          rintro e wk ⟨rfl, rfl⟩
          go_wp2_with fail
          refine (use_i _ _ _ _ _ _ hra hi').mono ?_
          rintro e w2 ⟨rfl, hra2, ho, hi3⟩
          have hrb2 := hrb.keep ho (by simp)
          have hbw2 := hbw.trans (ho.below (by simp; omega) hbw.size)
          clear ho hra hrb hbw
          go_wp2_with fail
          refine (xuse_c _ _ _ _ _ _ hrb2 (by omega) (by omega) (by omega)).mono ?_
          rintro e w3 ⟨rfl, hrb3, ho⟩
          have hra3 := hra2.keep ho (by simp)
          have hbw3 := hbw2.trans (ho.below (by simp; omega) hbw2.size)
          have hi4 := hi3
          obtain ⟨j0, j1, j2, j3, j4⟩ := hi4
          clear ho hra2 hrb2 hbw2
          go_wp2_with fail
          refine (avail_c _ _ _ _ _ hra3 j0 j1 j2).mono ?_
          rintro e w4 ⟨rfl, nd, rfl⟩
          go_wp2_with fail
          refine (xavail_c _ _ _ _ _ (hrb3.drewN nd) j0 j1 j2).mono ?_
          rintro e w4 ⟨rfl, nd2, rfl⟩
          go_wp2_with fail
          go_roundw
          case rel => exact ⟨k + 1, _, _, _, by go_num, by omega, hi3, hra3.drewN _, hrb3.drewN _, ⟨hbw3.os, hbw3.tape, hbw3.output, hbw3.size, hbw3.block⟩⟩
          case measure => simp [intOf]; omega
        · skip
          go_wp2_with fail
          refine (pick_any _ _ _ (by omega) (by omega) (by omega)).mono ?_
          rintro e wk ⟨rfl, rfl⟩
          go_wp2_with fail
          refine (use_i _ _ _ _ _ _ hra hi').mono ?_
          rintro e w2 ⟨rfl, hra2, ho, hi3⟩
          have hrb2 := hrb.keep ho (by simp)
          have hbw2 := hbw.trans (ho.below (by simp; omega) hbw.size)
          clear ho hra hrb hbw
          go_wp2_with fail
          refine (xuse_c _ _ _ _ _ _ hrb2 (by omega) (by omega) (by omega)).mono ?_
          rintro e w3 ⟨rfl, hrb3, ho⟩
          have hra3 := hra2.keep ho (by simp)
          have hbw3 := hbw2.trans (ho.below (by simp; omega) hbw2.size)
          have hi4 := hi3
          obtain ⟨j0, j1, j2, j3, j4⟩ := hi4
          clear ho hra2 hrb2 hbw2
          go_wp2_with fail
          refine (avail_c _ _ _ _ _ hra3 j0 j1 j2).mono ?_
          rintro e w4 ⟨rfl, nd, rfl⟩
          go_wp2_with fail
          refine (xavail_c _ _ _ _ _ (hrb3.drewN nd) j0 j1 j2).mono ?_
          rintro e w4 ⟨rfl, nd2, rfl⟩
          go_wp2_with fail
          go_roundw
          case rel => exact ⟨k + 1, _, _, _, by go_num, by omega, hi3, hra3.drewN _, hrb3.drewN _, ⟨hbw3.os, hbw3.tape, hbw3.output, hbw3.size, hbw3.block⟩⟩
          case measure => simp [intOf]; omega
        · skip
          go_wp2_with fail
          refine (pick_any _ _ _ (by omega) (by omega) (by omega)).mono ?_
          rintro e wk ⟨rfl, rfl⟩
          go_wp2_with fail
          refine (raise_i _ _ _ _ _ _ hra hi').mono ?_
          rintro e w2 ⟨rfl, hra2, ho, hi3⟩
          have hrb2 := hrb.keep ho (by simp)
          have hbw2 := hbw.trans (ho.below (by simp; omega) hbw.size)
          clear ho hra hrb hbw
          go_wp2_with fail
          refine (xraise_c _ _ _ _ _ _ hrb2).mono ?_
          rintro e w3 ⟨rfl, hrb3, ho⟩
          have hra3 := hra2.keep ho (by simp)
          have hbw3 := hbw2.trans (ho.below (by simp; omega) hbw2.size)
          have hi4 := hi3
          obtain ⟨j0, j1, j2, j3, j4⟩ := hi4
          clear ho hra2 hrb2 hbw2
          go_wp2_with fail
          refine (avail_c _ _ _ _ _ hra3 j0 j1 j2).mono ?_
          rintro e w4 ⟨rfl, nd, rfl⟩
          go_wp2_with fail
          refine (xavail_c _ _ _ _ _ (hrb3.drewN nd) j0 j1 j2).mono ?_
          rintro e w4 ⟨rfl, nd2, rfl⟩
          go_wp2_with fail
          go_roundw
          case rel => exact ⟨k + 1, _, _, _, by go_num, by omega, hi3, hra3.drewN _, hrb3.drewN _, ⟨hbw3.os, hbw3.tape, hbw3.output, hbw3.size, hbw3.block⟩⟩
          case measure => simp [intOf]; omega
        · skip
          go_wp2_with fail
          refine (pick_any _ _ _ (by omega) (by omega) (by omega)).mono ?_
          rintro e wk ⟨rfl, rfl⟩
          go_wp2_with fail
          refine (raise_i _ _ _ _ _ _ hra hi').mono ?_
          rintro e w2 ⟨rfl, hra2, ho, hi3⟩
          have hrb2 := hrb.keep ho (by simp)
          have hbw2 := hbw.trans (ho.below (by simp; omega) hbw.size)
          clear ho hra hrb hbw
          go_wp2_with fail
          refine (xraise_c _ _ _ _ _ _ hrb2).mono ?_
          rintro e w3 ⟨rfl, hrb3, ho⟩
          have hra3 := hra2.keep ho (by simp)
          have hbw3 := hbw2.trans (ho.below (by simp; omega) hbw2.size)
          have hi4 := hi3
          obtain ⟨j0, j1, j2, j3, j4⟩ := hi4
          clear ho hra2 hrb2 hbw2
          go_wp2_with fail
          refine (avail_c _ _ _ _ _ hra3 j0 j1 j2).mono ?_
          rintro e w4 ⟨rfl, nd, rfl⟩
          go_wp2_with fail
          refine (xavail_c _ _ _ _ _ (hrb3.drewN nd) j0 j1 j2).mono ?_
          rintro e w4 ⟨rfl, nd2, rfl⟩
          go_wp2_with fail
          go_roundw
          case rel => exact ⟨k + 1, _, _, _, by go_num, by omega, hi3, hra3.drewN _, hrb3.drewN _, ⟨hbw3.os, hbw3.tape, hbw3.output, hbw3.size, hbw3.block⟩⟩
          case measure => simp [intOf]; omega
        · skip
          go_wp2_with fail
          refine (pick_any _ _ _ (by omega) (by omega) (by omega)).mono ?_
          rintro e wk ⟨rfl, rfl⟩
          go_wp2_with fail
          refine (block_i _ _ _ _ _ hra hi').mono ?_
          rintro e w2 ⟨rfl, hra2, ho, hi3⟩
          have hrb2 := hrb.keep ho (by simp)
          have hbw2 := hbw.trans (ho.below (by simp; omega) hbw.size)
          clear ho hra hrb hbw
          go_wp2_with fail
          refine (xblock_c _ _ _ _ _ hrb2 (by omega) (by omega) (by omega) (by omega) (by omega)).mono ?_
          rintro e w3 ⟨rfl, hrb3, ho⟩
          have hra3 := hra2.keep ho (by simp)
          have hbw3 := hbw2.trans (ho.below (by simp; omega) hbw2.size)
          have hi4 := hi3
          obtain ⟨j0, j1, j2, j3, j4⟩ := hi4
          clear ho hra2 hrb2 hbw2
          go_wp2_with fail
          refine (avail_c _ _ _ _ _ hra3 j0 j1 j2).mono ?_
          rintro e w4 ⟨rfl, nd, rfl⟩
          go_wp2_with fail
          refine (xavail_c _ _ _ _ _ (hrb3.drewN nd) j0 j1 j2).mono ?_
          rintro e w4 ⟨rfl, nd2, rfl⟩
          go_wp2_with fail
          go_roundw
          case rel => exact ⟨k + 1, _, _, _, by go_num, by omega, hi3, hra3.drewN _, hrb3.drewN _, ⟨hbw3.os, hbw3.tape, hbw3.output, hbw3.size, hbw3.block⟩⟩
          case measure => simp [intOf]; omega
        · skip
          go_wp2_with fail
          refine (pick_any _ _ _ (by omega) (by omega) (by omega)).mono ?_
          rintro e wk ⟨rfl, rfl⟩
          go_wp2_with fail
          refine (block_i _ _ _ _ _ hra hi').mono ?_
          rintro e w2 ⟨rfl, hra2, ho, hi3⟩
          have hrb2 := hrb.keep ho (by simp)
          have hbw2 := hbw.trans (ho.below (by simp; omega) hbw.size)
          clear ho hra hrb hbw
          go_wp2_with fail
          refine (xblock_c _ _ _ _ _ hrb2 (by omega) (by omega) (by omega) (by omega) (by omega)).mono ?_
          rintro e w3 ⟨rfl, hrb3, ho⟩
          have hra3 := hra2.keep ho (by simp)
          have hbw3 := hbw2.trans (ho.below (by simp; omega) hbw2.size)
          have hi4 := hi3
          obtain ⟨j0, j1, j2, j3, j4⟩ := hi4
          clear ho hra2 hrb2 hbw2
          go_wp2_with fail
          refine (avail_c _ _ _ _ _ hra3 j0 j1 j2).mono ?_
          rintro e w4 ⟨rfl, nd, rfl⟩
          go_wp2_with fail
          refine (xavail_c _ _ _ _ _ (hrb3.drewN nd) j0 j1 j2).mono ?_
          rintro e w4 ⟨rfl, nd2, rfl⟩
          go_wp2_with fail
          go_roundw
          case rel => exact ⟨k + 1, _, _, _, by go_num, by omega, hi3, hra3.drewN _, hrb3.drewN _, ⟨hbw3.os, hbw3.tape, hbw3.output, hbw3.size, hbw3.block⟩⟩
          case measure => simp [intOf]; omega
      · by_cases hl1 : k < len1
        all_goals
          go_wp2_with fail
          go_ret
          exact ⟨rfl, hbw⟩
end Go.Proofs.Ytnembdlkdgfjlaa
