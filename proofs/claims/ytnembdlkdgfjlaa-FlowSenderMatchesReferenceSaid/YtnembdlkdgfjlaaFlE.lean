/- The walk of FlowReceiverMatchesReference. -/
import Derived.Test.YtnembdlkdgfjlaaFlD
import Derived.Test.YtnembdlkdgfjlaaArg
namespace Go.Proofs.Ytnembdlkdgfjlaa
open Go.RowKit
set_option linter.unusedVariables false
def nrE (hi n : Int) : Int := if n < 0 ∨ hi < n then 2 else 0
theorem newrec_any (n : Int) (w : World) :
    Calls Try.prog 10 #[.int .i64 n] w fun e w' => ∃ p, e = .returned (.tuple #[.pointer p, .int .i64 (nrE 1073741824 n)]) ∧ Below w.heap.size w w' := by
  by_cases h : n < 0 ∨ 1073741824 < n
  · have hz : nrE 1073741824 n = 2 := by rw [nrE, if_pos h]
    rw [hz]
    exact (newrec_no n w h).mono fun e w' ⟨he, hw⟩ => ⟨_, he, hw ▸ Below.refl _ _⟩
  · have hz : nrE 1073741824 n = 0 := by rw [nrE, if_neg h]
    rw [hz]
    exact (newrec_ok n w (by omega) (by omega)).mono fun e w' ⟨he, hw⟩ => ⟨_, he, hw ▸ (Below.refl _ _).alloc (Nat.le_refl _) _⟩
theorem xnewrec_any (n : Int) (w : World) :
    Calls Try.prog 11 #[.int .i64 n] w fun e w' => ∃ p, e = .returned (.tuple #[.pointer p, .int .i64 (nrE 1073741824 n)]) ∧ Below w.heap.size w w' := by
  by_cases h : n < 0 ∨ 1073741824 < n
  · have hz : nrE 1073741824 n = 2 := by rw [nrE, if_pos h]
    rw [hz]
    exact (xnewrec_no n w h).mono fun e w' ⟨he, hw⟩ => ⟨_, he, hw ▸ Below.refl _ _⟩
  · have hz : nrE 1073741824 n = 0 := by rw [nrE, if_neg h]
    rw [hz]
    exact (xnewrec_ok n w (by omega) (by omega)).mono fun e w' ⟨he, hw⟩ => ⟨_, he, hw ▸ (Below.refl _ _).alloc (Nat.le_refl _) _⟩

/-- What holds of a Receiver's numbers. -/
def RInv (m wi h r : Int) : Prop := 0 ≤ r ∧ r ≤ h ∧ h ≤ m ∧ m ≤ 1099511627776 ∧ 0 ≤ wi ∧ wi ≤ 1073741824
def RRel (w : World) (ra rb : Nat) (wi : Int) (i : Value) (wr : World) : Prop := ∃ (k : Nat) (m h r : Int), i = .int .i64 k ∧ k ≤ 100 ∧ RInv m wi h r ∧
  At wr ra 58 #[.int .i64 m, .int .i64 wi, .int .i64 h, .int .i64 r] ∧ At wr rb 40 #[.int .i64 wi, .int .i64 m, .int .i64 h, .int .i64 r] ∧ Below w.heap.size w wr
theorem RInv.rcv {m wi h r : Int} (hi : RInv m wi h r) (n : Int) : RInv m wi (rcvH m h n) r := by
  unfold RInv rcvH at *; (repeat' (first | omega | split))
theorem RInv.read {m wi h r : Int} (hi : RInv m wi h r) (n : Int) : RInv m wi h (readR h r n) := by
  unfold RInv readR at *; (repeat' (first | omega | split))
theorem RInv.upd {m wi h r : Int} (hi : RInv m wi h r) : RInv (updM m wi r) wi h r := by
  unfold RInv updM raiseZ capZ at *; (repeat' (first | omega | split))
set_option maxRecDepth 100000 in
set_option maxHeartbeats 4000000 in
theorem rmatch_walk (a0 : Int) (a1 : Option Addr) (len1 cap1 : Nat) (K N : Nat → Int) (a2 : Bool) (w : World) (w0 : (Lit.int .i64 a0).wf = true) (w1 : Pairs .u8 .i64 w a1 len1 K N) :
    Calls Try.prog 3 #[.int .i64 a0, .slice a1 len1 cap1, .bool a2] w fun e w' => e = .returned (.bool true) ∧ Below w.heap.size w w' := by
  obtain ⟨b0, c0⟩ := wf_i64 w0
  clear w0
  have hp1 := pickZ_bd a0 300 (by omega)
  have hp2 := pickZ_bd a0 1073741825 (by omega)
  cases a2
  · go_enter Try.func3, Try.ntmps3
    go_wp2_with fail
    refine (sane_any _).mono ?_
    rintro e wA ⟨rfl, hb⟩
    go_wp2_with fail
    refine (newrec_any _ _).mono ?_
    rintro e wB ⟨p1, rfl, hb2⟩
    replace hb := hb.trans (hb2.mono hb.size); clear hb2
    go_wp2_with fail
    refine (xnewrec_any _ _).mono ?_
    rintro e wC ⟨p2, rfl, hb2⟩
    replace hb := hb.trans (hb2.mono hb.size); clear hb2
    go_wp2_with fail
    refine (pick_any _ _ _ (by omega) (by omega) (by omega)).mono ?_
    rintro e wk ⟨rfl, rfl⟩
    go_wp2_with fail
    refine (pick_any _ _ _ (by omega) (by omega) (by omega)).mono ?_
    rintro e wk ⟨rfl, rfl⟩
    go_wp2_with fail
    refine (newrec_ok _ _ (by omega) (by omega)).mono ?_
    rintro e wk ⟨rfl, rfl⟩
    go_wp2_with fail
    refine (xnewrec_ok _ _ (by omega) (by omega)).mono ?_
    rintro e wk ⟨rfl, rfl⟩
    go_wp2_with fail
    have ha := (At.new wC 58 #[.int .i64 (pickZ a0 1073741825), .int .i64 (pickZ a0 1073741825), .int .i64 0, .int .i64 0]).alloc (.cells #[.int .i64 (pickZ a0 1073741825), .int .i64 (pickZ a0 1073741825), .int .i64 0, .int .i64 0] 40)
    have hx := At.new (wC.alloc (.cells #[.int .i64 (pickZ a0 1073741825), .int .i64 (pickZ a0 1073741825), .int .i64 0, .int .i64 0] 58)) 40 #[.int .i64 (pickZ a0 1073741825), .int .i64 (pickZ a0 1073741825), .int .i64 0, .int .i64 0]
    rw [World.size_alloc] at hx
    have hbb := (hb.alloc hb.size (.cells #[.int .i64 (pickZ a0 1073741825), .int .i64 (pickZ a0 1073741825), .int .i64 0, .int .i64 0] 58)).alloc (by have := hb.size; simp; omega) (.cells #[.int .i64 (pickZ a0 1073741825), .int .i64 (pickZ a0 1073741825), .int .i64 0, .int .i64 0] 40)
    go_loopw [16] (fun i wr => RRel w wC.heap.size (wC.heap.size + 1) (pickZ a0 1073741825) i wr) (fun i _ => 100 - (intOf i).toNat)
    case atStart => exact ⟨0, _, _, _, rfl, by omega, ⟨by omega, by omega, by omega, by omega, by omega, by omega⟩, ha, hx, hbb⟩
    case round =>
      obtain ⟨k, m, h, r, rfl, hk, hi, hra, hrb, hbw⟩ := hrel
      have hsz := hb.size
      clear ha hx hbb hb
      by_cases hlt : k < len1 ∧ k < 100
      · obtain ⟨hlt1, hlt2⟩ := hlt
        obtain ⟨b, off, rfl, hbs, hc0, hc1, hw0, hw1⟩ := w1 k hlt1
        rw [← hbw.cell hbs] at hc0 hc1
        obtain ⟨k0, k1⟩ := wf_u8 hw0
        obtain ⟨n0, n1⟩ := wf_i64 hw1
        clear hw0 hw1 w1
        have hi' := hi
        obtain ⟨i0, i1, i2, i3, i4, i5⟩ := hi
        rcases (by omega : K k % 6 = 0 ∨ K k % 6 = 1 ∨ K k % 6 = 2 ∨ K k % 6 = 3 ∨ K k % 6 = 4 ∨ K k % 6 = 5) with hq | hq | hq | hq | hq | hq
        · skip
          go_wp2_with fail
          refine (receive_c _ _ _ _ _ _ _ hra).mono ?_
          rintro e w2 ⟨rfl, hra2, ho⟩
          have hrb2 := hrb.keep ho (by simp)
          have hbw2 := hbw.trans (ho.below (by simp; omega) hbw.size)
          clear ho hra hrb hbw
          go_wp2_with fail
          refine (xreceive_c _ _ _ _ _ _ _ hrb2).mono ?_
          rintro e w3 ⟨rfl, hrb3, ho⟩
          have hra3 := hra2.keep ho (by simp)
          have hbw3 := hbw2.trans (ho.below (by simp; omega) hbw2.size)
          clear ho hra2 hrb2 hbw2
          have cm := hrb3.cell 1 rfl
          go_wp2_with fail
          go_quiet ((go_at_call 19; refine Calls.quiet_of_same (limit_c' _ _ _ _ _ _ hra3)))
          go_wp2_with fail
          go_roundw
          case rel => exact ⟨k + 1, _, _, _, by go_num, by omega, hi'.rcv _, hra3.drewN _, hrb3.drewN _, ⟨hbw3.os, hbw3.tape, hbw3.output, hbw3.size, hbw3.block⟩⟩
          case measure => simp [intOf]; omega
        · skip
          go_wp2_with fail
          refine (receive_c _ _ _ _ _ _ _ hra).mono ?_
          rintro e w2 ⟨rfl, hra2, ho⟩
          have hrb2 := hrb.keep ho (by simp)
          have hbw2 := hbw.trans (ho.below (by simp; omega) hbw.size)
          clear ho hra hrb hbw
          go_wp2_with fail
          refine (xreceive_c _ _ _ _ _ _ _ hrb2).mono ?_
          rintro e w3 ⟨rfl, hrb3, ho⟩
          have hra3 := hra2.keep ho (by simp)
          have hbw3 := hbw2.trans (ho.below (by simp; omega) hbw2.size)
          clear ho hra2 hrb2 hbw2
          have cm := hrb3.cell 1 rfl
          go_wp2_with fail
          go_quiet ((go_at_call 19; refine Calls.quiet_of_same (limit_c' _ _ _ _ _ _ hra3)))
          go_wp2_with fail
          go_roundw
          case rel => exact ⟨k + 1, _, _, _, by go_num, by omega, hi'.rcv _, hra3.drewN _, hrb3.drewN _, ⟨hbw3.os, hbw3.tape, hbw3.output, hbw3.size, hbw3.block⟩⟩
          case measure => simp [intOf]; omega
        · skip
          go_wp2_with fail
          refine (read_c _ _ _ _ _ _ _ hra (by omega) (by omega) (by omega)).mono ?_
          rintro e w2 ⟨rfl, hra2, ho⟩
          have hrb2 := hrb.keep ho (by simp)
          have hbw2 := hbw.trans (ho.below (by simp; omega) hbw.size)
          clear ho hra hrb hbw
          go_wp2_with fail
          refine (xread_c _ _ _ _ _ _ _ hrb2 (by omega) (by omega) (by omega)).mono ?_
          rintro e w3 ⟨rfl, hrb3, ho⟩
          have hra3 := hra2.keep ho (by simp)
          have hbw3 := hbw2.trans (ho.below (by simp; omega) hbw2.size)
          clear ho hra2 hrb2 hbw2
          have cm := hrb3.cell 1 rfl
          go_wp2_with fail
          go_quiet ((go_at_call 19; refine Calls.quiet_of_same (limit_c' _ _ _ _ _ _ hra3)))
          go_wp2_with fail
          go_roundw
          case rel => exact ⟨k + 1, _, _, _, by go_num, by omega, hi'.read _, hra3.drewN _, hrb3.drewN _, ⟨hbw3.os, hbw3.tape, hbw3.output, hbw3.size, hbw3.block⟩⟩
          case measure => simp [intOf]; omega
        · skip
          go_wp2_with fail
          refine (read_c _ _ _ _ _ _ _ hra (by omega) (by omega) (by omega)).mono ?_
          rintro e w2 ⟨rfl, hra2, ho⟩
          have hrb2 := hrb.keep ho (by simp)
          have hbw2 := hbw.trans (ho.below (by simp; omega) hbw.size)
          clear ho hra hrb hbw
          go_wp2_with fail
          refine (xread_c _ _ _ _ _ _ _ hrb2 (by omega) (by omega) (by omega)).mono ?_
          rintro e w3 ⟨rfl, hrb3, ho⟩
          have hra3 := hra2.keep ho (by simp)
          have hbw3 := hbw2.trans (ho.below (by simp; omega) hbw2.size)
          clear ho hra2 hrb2 hbw2
          have cm := hrb3.cell 1 rfl
          go_wp2_with fail
          go_quiet ((go_at_call 19; refine Calls.quiet_of_same (limit_c' _ _ _ _ _ _ hra3)))
          go_wp2_with fail
          go_roundw
          case rel => exact ⟨k + 1, _, _, _, by go_num, by omega, hi'.read _, hra3.drewN _, hrb3.drewN _, ⟨hbw3.os, hbw3.tape, hbw3.output, hbw3.size, hbw3.block⟩⟩
          case measure => simp [intOf]; omega
        · skip
          go_wp2_with fail
          refine (update_c _ _ _ _ _ _ hra (by omega) (by omega) (by omega) (by omega) (by omega)).mono ?_
          rintro e w2 ⟨rfl, hra2, ho⟩
          have hrb2 := hrb.keep ho (by simp)
          have hbw2 := hbw.trans (ho.below (by simp; omega) hbw.size)
          clear ho hra hrb hbw
          go_wp2_with fail
          refine (xupdate_c _ _ _ _ _ _ hrb2 (by omega) (by omega) (by omega) (by omega) (by omega)).mono ?_
          rintro e w3 ⟨rfl, hrb3, ho⟩
          have hra3 := hra2.keep ho (by simp)
          have hbw3 := hbw2.trans (ho.below (by simp; omega) hbw2.size)
          clear ho hra2 hrb2 hbw2
          have cm := hrb3.cell 1 rfl
          go_wp2_with fail
          go_quiet ((go_at_call 19; refine Calls.quiet_of_same (limit_c' _ _ _ _ _ _ hra3)))
          go_wp2_with fail
          go_roundw
          case rel => exact ⟨k + 1, _, _, _, by go_num, by omega, hi'.upd, hra3.drewN _, hrb3.drewN _, ⟨hbw3.os, hbw3.tape, hbw3.output, hbw3.size, hbw3.block⟩⟩
          case measure => simp [intOf]; omega
        · skip
          go_wp2_with fail
          refine (update_c _ _ _ _ _ _ hra (by omega) (by omega) (by omega) (by omega) (by omega)).mono ?_
          rintro e w2 ⟨rfl, hra2, ho⟩
          have hrb2 := hrb.keep ho (by simp)
          have hbw2 := hbw.trans (ho.below (by simp; omega) hbw.size)
          clear ho hra hrb hbw
          go_wp2_with fail
          refine (xupdate_c _ _ _ _ _ _ hrb2 (by omega) (by omega) (by omega) (by omega) (by omega)).mono ?_
          rintro e w3 ⟨rfl, hrb3, ho⟩
          have hra3 := hra2.keep ho (by simp)
          have hbw3 := hbw2.trans (ho.below (by simp; omega) hbw2.size)
          clear ho hra2 hrb2 hbw2
          have cm := hrb3.cell 1 rfl
          go_wp2_with fail
          go_quiet ((go_at_call 19; refine Calls.quiet_of_same (limit_c' _ _ _ _ _ _ hra3)))
          go_wp2_with fail
          go_roundw
          case rel => exact ⟨k + 1, _, _, _, by go_num, by omega, hi'.upd, hra3.drewN _, hrb3.drewN _, ⟨hbw3.os, hbw3.tape, hbw3.output, hbw3.size, hbw3.block⟩⟩
          case measure => simp [intOf]; omega
      · by_cases hl1 : k < len1
        all_goals
          go_wp2_with fail
          go_ret
          exact ⟨rfl, hbw⟩
  · go_enter Try.func3, Try.ntmps3
    go_wp2_with fail
    refine (sane_any _).mono ?_
    rintro e wA ⟨rfl, hb⟩
    go_wp2_with fail
    refine (newrec_any _ _).mono ?_
    rintro e wB ⟨p1, rfl, hb2⟩
    replace hb := hb.trans (hb2.mono hb.size); clear hb2
    go_wp2_with fail
    refine (xnewrec_any _ _).mono ?_
    rintro e wC ⟨p2, rfl, hb2⟩
    replace hb := hb.trans (hb2.mono hb.size); clear hb2
    go_wp2_with fail
    refine (pick_any _ _ _ (by omega) (by omega) (by omega)).mono ?_
    rintro e wk ⟨rfl, rfl⟩
    go_wp2_with fail
    refine (newrec_ok _ _ (by omega) (by omega)).mono ?_
    rintro e wk ⟨rfl, rfl⟩
    go_wp2_with fail
    refine (xnewrec_ok _ _ (by omega) (by omega)).mono ?_
    rintro e wk ⟨rfl, rfl⟩
    go_wp2_with fail
    have ha := (At.new wC 58 #[.int .i64 (pickZ a0 300), .int .i64 (pickZ a0 300), .int .i64 0, .int .i64 0]).alloc (.cells #[.int .i64 (pickZ a0 300), .int .i64 (pickZ a0 300), .int .i64 0, .int .i64 0] 40)
    have hx := At.new (wC.alloc (.cells #[.int .i64 (pickZ a0 300), .int .i64 (pickZ a0 300), .int .i64 0, .int .i64 0] 58)) 40 #[.int .i64 (pickZ a0 300), .int .i64 (pickZ a0 300), .int .i64 0, .int .i64 0]
    rw [World.size_alloc] at hx
    have hbb := (hb.alloc hb.size (.cells #[.int .i64 (pickZ a0 300), .int .i64 (pickZ a0 300), .int .i64 0, .int .i64 0] 58)).alloc (by have := hb.size; simp; omega) (.cells #[.int .i64 (pickZ a0 300), .int .i64 (pickZ a0 300), .int .i64 0, .int .i64 0] 40)
    go_loopw [16] (fun i wr => RRel w wC.heap.size (wC.heap.size + 1) (pickZ a0 300) i wr) (fun i _ => 100 - (intOf i).toNat)
    case atStart => exact ⟨0, _, _, _, rfl, by omega, ⟨by omega, by omega, by omega, by omega, by omega, by omega⟩, ha, hx, hbb⟩
    case round =>
      obtain ⟨k, m, h, r, rfl, hk, hi, hra, hrb, hbw⟩ := hrel
      have hsz := hb.size
      clear ha hx hbb hb
      by_cases hlt : k < len1 ∧ k < 100
      · obtain ⟨hlt1, hlt2⟩ := hlt
        obtain ⟨b, off, rfl, hbs, hc0, hc1, hw0, hw1⟩ := w1 k hlt1
        rw [← hbw.cell hbs] at hc0 hc1
        obtain ⟨k0, k1⟩ := wf_u8 hw0
        obtain ⟨n0, n1⟩ := wf_i64 hw1
        clear hw0 hw1 w1
        have hi' := hi
        obtain ⟨i0, i1, i2, i3, i4, i5⟩ := hi
        have hpk := pickZ_bd (N k) (40 * (↑k + 2)) (by omega)
        rcases (by omega : K k % 6 = 0 ∨ K k % 6 = 1 ∨ K k % 6 = 2 ∨ K k % 6 = 3 ∨ K k % 6 = 4 ∨ K k % 6 = 5) with hq | hq | hq | hq | hq | hq
        · skip
          go_wp2_with fail
          refine (pick_any _ _ _ (by omega) (by omega) (by omega)).mono ?_
          rintro e wk ⟨rfl, rfl⟩
          go_wp2_with fail
          refine (receive_c _ _ _ _ _ _ _ hra).mono ?_
          rintro e w2 ⟨rfl, hra2, ho⟩
          have hrb2 := hrb.keep ho (by simp)
          have hbw2 := hbw.trans (ho.below (by simp; omega) hbw.size)
          clear ho hra hrb hbw
          go_wp2_with fail
          refine (xreceive_c _ _ _ _ _ _ _ hrb2).mono ?_
          rintro e w3 ⟨rfl, hrb3, ho⟩
          have hra3 := hra2.keep ho (by simp)
          have hbw3 := hbw2.trans (ho.below (by simp; omega) hbw2.size)
          clear ho hra2 hrb2 hbw2
          have cm := hrb3.cell 1 rfl
          go_wp2_with fail
          go_quiet ((go_at_call 19; refine Calls.quiet_of_same (limit_c' _ _ _ _ _ _ hra3)))
          go_wp2_with fail
          go_roundw
          case rel => exact ⟨k + 1, _, _, _, by go_num, by omega, hi'.rcv _, hra3.drewN _, hrb3.drewN _, ⟨hbw3.os, hbw3.tape, hbw3.output, hbw3.size, hbw3.block⟩⟩
          case measure => simp [intOf]; omega
        · skip
          go_wp2_with fail
          refine (pick_any _ _ _ (by omega) (by omega) (by omega)).mono ?_
          rintro e wk ⟨rfl, rfl⟩
          go_wp2_with fail
          refine (receive_c _ _ _ _ _ _ _ hra).mono ?_
          rintro e w2 ⟨rfl, hra2, ho⟩
          have hrb2 := hrb.keep ho (by simp)
          have hbw2 := hbw.trans (ho.below (by simp; omega) hbw.size)
          clear ho hra hrb hbw
          go_wp2_with fail
          refine (xreceive_c _ _ _ _ _ _ _ hrb2).mono ?_
          rintro e w3 ⟨rfl, hrb3, ho⟩
          have hra3 := hra2.keep ho (by simp)
          have hbw3 := hbw2.trans (ho.below (by simp; omega) hbw2.size)
          clear ho hra2 hrb2 hbw2
          have cm := hrb3.cell 1 rfl
          go_wp2_with fail
          go_quiet ((go_at_call 19; refine Calls.quiet_of_same (limit_c' _ _ _ _ _ _ hra3)))
          go_wp2_with fail
          go_roundw
          case rel => exact ⟨k + 1, _, _, _, by go_num, by omega, hi'.rcv _, hra3.drewN _, hrb3.drewN _, ⟨hbw3.os, hbw3.tape, hbw3.output, hbw3.size, hbw3.block⟩⟩
          case measure => simp [intOf]; omega
        · skip
          go_wp2_with fail
          refine (pick_any _ _ _ (by omega) (by omega) (by omega)).mono ?_
          rintro e wk ⟨rfl, rfl⟩
          go_wp2_with fail
          refine (read_c _ _ _ _ _ _ _ hra (by omega) (by omega) (by omega)).mono ?_
          rintro e w2 ⟨rfl, hra2, ho⟩
          have hrb2 := hrb.keep ho (by simp)
          have hbw2 := hbw.trans (ho.below (by simp; omega) hbw.size)
          clear ho hra hrb hbw
          go_wp2_with fail
          refine (xread_c _ _ _ _ _ _ _ hrb2 (by omega) (by omega) (by omega)).mono ?_
          rintro e w3 ⟨rfl, hrb3, ho⟩
          have hra3 := hra2.keep ho (by simp)
          have hbw3 := hbw2.trans (ho.below (by simp; omega) hbw2.size)
          clear ho hra2 hrb2 hbw2
          have cm := hrb3.cell 1 rfl
          go_wp2_with fail
          go_quiet ((go_at_call 19; refine Calls.quiet_of_same (limit_c' _ _ _ _ _ _ hra3)))
          go_wp2_with fail
          go_roundw
          case rel => exact ⟨k + 1, _, _, _, by go_num, by omega, hi'.read _, hra3.drewN _, hrb3.drewN _, ⟨hbw3.os, hbw3.tape, hbw3.output, hbw3.size, hbw3.block⟩⟩
          case measure => simp [intOf]; omega
        · skip
          go_wp2_with fail
          refine (pick_any _ _ _ (by omega) (by omega) (by omega)).mono ?_
          rintro e wk ⟨rfl, rfl⟩
          go_wp2_with fail
          refine (read_c _ _ _ _ _ _ _ hra (by omega) (by omega) (by omega)).mono ?_
          rintro e w2 ⟨rfl, hra2, ho⟩
          have hrb2 := hrb.keep ho (by simp)
          have hbw2 := hbw.trans (ho.below (by simp; omega) hbw.size)
          clear ho hra hrb hbw
          go_wp2_with fail
          refine (xread_c _ _ _ _ _ _ _ hrb2 (by omega) (by omega) (by omega)).mono ?_
          rintro e w3 ⟨rfl, hrb3, ho⟩
          have hra3 := hra2.keep ho (by simp)
          have hbw3 := hbw2.trans (ho.below (by simp; omega) hbw2.size)
          clear ho hra2 hrb2 hbw2
          have cm := hrb3.cell 1 rfl
          go_wp2_with fail
          go_quiet ((go_at_call 19; refine Calls.quiet_of_same (limit_c' _ _ _ _ _ _ hra3)))
          go_wp2_with fail
          go_roundw
          case rel => exact ⟨k + 1, _, _, _, by go_num, by omega, hi'.read _, hra3.drewN _, hrb3.drewN _, ⟨hbw3.os, hbw3.tape, hbw3.output, hbw3.size, hbw3.block⟩⟩
          case measure => simp [intOf]; omega
        · skip
          go_wp2_with fail
          refine (pick_any _ _ _ (by omega) (by omega) (by omega)).mono ?_
          rintro e wk ⟨rfl, rfl⟩
          go_wp2_with fail
          refine (update_c _ _ _ _ _ _ hra (by omega) (by omega) (by omega) (by omega) (by omega)).mono ?_
          rintro e w2 ⟨rfl, hra2, ho⟩
          have hrb2 := hrb.keep ho (by simp)
          have hbw2 := hbw.trans (ho.below (by simp; omega) hbw.size)
          clear ho hra hrb hbw
          go_wp2_with fail
          refine (xupdate_c _ _ _ _ _ _ hrb2 (by omega) (by omega) (by omega) (by omega) (by omega)).mono ?_
          rintro e w3 ⟨rfl, hrb3, ho⟩
          have hra3 := hra2.keep ho (by simp)
          have hbw3 := hbw2.trans (ho.below (by simp; omega) hbw2.size)
          clear ho hra2 hrb2 hbw2
          have cm := hrb3.cell 1 rfl
          go_wp2_with fail
          go_quiet ((go_at_call 19; refine Calls.quiet_of_same (limit_c' _ _ _ _ _ _ hra3)))
          go_wp2_with fail
          go_roundw
          case rel => exact ⟨k + 1, _, _, _, by go_num, by omega, hi'.upd, hra3.drewN _, hrb3.drewN _, ⟨hbw3.os, hbw3.tape, hbw3.output, hbw3.size, hbw3.block⟩⟩
          case measure => simp [intOf]; omega
        · skip
          go_wp2_with fail
          refine (pick_any _ _ _ (by omega) (by omega) (by omega)).mono ?_
          rintro e wk ⟨rfl, rfl⟩
          go_wp2_with fail
          refine (update_c _ _ _ _ _ _ hra (by omega) (by omega) (by omega) (by omega) (by omega)).mono ?_
          rintro e w2 ⟨rfl, hra2, ho⟩
          have hrb2 := hrb.keep ho (by simp)
          have hbw2 := hbw.trans (ho.below (by simp; omega) hbw.size)
          clear ho hra hrb hbw
          go_wp2_with fail
          refine (xupdate_c _ _ _ _ _ _ hrb2 (by omega) (by omega) (by omega) (by omega) (by omega)).mono ?_
          rintro e w3 ⟨rfl, hrb3, ho⟩
          have hra3 := hra2.keep ho (by simp)
          have hbw3 := hbw2.trans (ho.below (by simp; omega) hbw2.size)
          clear ho hra2 hrb2 hbw2
          have cm := hrb3.cell 1 rfl
          go_wp2_with fail
          go_quiet ((go_at_call 19; refine Calls.quiet_of_same (limit_c' _ _ _ _ _ _ hra3)))
          go_wp2_with fail
          go_roundw
          case rel => exact ⟨k + 1, _, _, _, by go_num, by omega, hi'.upd, hra3.drewN _, hrb3.drewN _, ⟨hbw3.os, hbw3.tape, hbw3.output, hbw3.size, hbw3.block⟩⟩
          case measure => simp [intOf]; omega
      · by_cases hl1 : k < len1
        all_goals
          go_wp2_with fail
          go_ret
          exact ⟨rfl, hbw⟩
end Go.Proofs.Ytnembdlkdgfjlaa
