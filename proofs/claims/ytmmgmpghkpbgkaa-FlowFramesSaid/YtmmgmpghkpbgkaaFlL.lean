/- The walk of FlowFrames. -/
import Derived.Test.YtmmgmpghkpbgkaaFmG
import Derived.Test.YtmmgmpghkpbgkaaArg
namespace Go.Proofs.Ytmmgmpghkpbgkaa
open Go.RowKit
set_option linter.unusedVariables false
set_option linter.unusedSimpArgs false

/-- What the walk wants of Encode and of Decode at a MAX_DATA frame. -/
def EncM (Mx : Int → ByteArray → Prop) : Prop := ∀ (m : Int) (w : World), 0 ≤ m → m ≤ 4611686018427387903 → Calls Try.prog 17 #[.agg #[.int .i64 16, .int .i64 0, .int .i64 0, .string ⟨#[]⟩, .bool false, .int .i64 m, .int .i64 0, .bool false, .int .i64 0, .slice none 0 0, .int .i64 0, .int .i64 0, .string ⟨#[]⟩]] w fun e w' => ∃ bs, e = .returned (.tuple #[.string bs, .int .i64 0]) ∧ Mx m bs ∧ Only [] w w'
def DecM (Mx : Int → ByteArray → Prop) : Prop := ∀ (m : Int) (bs : ByteArray) (w : World), Mx m bs → Calls Try.prog 18 #[.string bs, .int .i64 0] w fun e w' => ∃ ra rc, e = .returned (.tuple #[.agg #[.int .i64 16, .int .i64 0, .int .i64 0, .string ⟨#[]⟩, .bool false, .int .i64 m, .int .i64 0, .bool false, .int .i64 0, .slice ra 0 rc, .int .i64 0, .int .i64 0, .string ⟨#[]⟩], .int .i64 bs.size, .int .i64 0]) ∧ Only [] w w'
theorem block_none (b : Nat) (m u : Int) (w : World) (hA : At w b 132 #[.int .i64 m, .int .i64 u, .int .i64 0]) (b0 : 0 ≤ u) (b2 : m ≤ 1099511627776) (h1 : u < m) :
    Calls Try.prog 45 #[.pointer (some ⟨b, 0, none⟩)] w fun e w' => e = .returned (.tuple #[.int .i64 0, .bool false]) ∧ At w' b 132 #[.int .i64 m, .int .i64 u, .int .i64 0] ∧ Only [b] w w' := by
  have := block_no b m u (-1) w (by simpa using hA) b0 (by omega) b2 (by omega) (by omega) (.inl h1)
  simpa using this
def FInv (k : Nat) (m wi s : Int) : Prop := 0 ≤ s ∧ (wi + 1) / 2 ≤ m - s ∧ m ≤ s + wi ∧ m ≤ 300 * ((k : Int) + 1)
def FRel (w : World) (ra sa ta : Nat) (wi : Int) (s i : Value) (wr : World) : Prop := ∃ (k : Nat) (m x : Int), s = .int .i64 x ∧ i = .int .i64 k ∧ k ≤ 40 ∧ FInv k m wi x ∧
  At wr ra 130 #[.int .i64 m, .int .i64 wi, .int .i64 x, .int .i64 x] ∧ At wr sa 132 #[.int .i64 m, .int .i64 x, .int .i64 0] ∧ At wr ta 132 #[.int .i64 m, .int .i64 x, .int .i64 0] ∧ Below w.heap.size w wr

set_option maxRecDepth 100000 in
set_option maxHeartbeats 8000000 in
theorem frames_walk' (Mx : Int → ByteArray → Prop) (HE : Hid (EncM Mx)) (HD : Hid (DecM Mx)) (a0 : Int) (a1 : Option Addr) (len1 cap1 : Nat) (Z : Nat → Int) (w : World) (w0 : (Lit.int .u16 a0).wf = true) (w1 : Ints .u16 w a1 len1 Z) :
    Calls Try.prog 12 #[.int .u16 a0, .slice a1 len1 cap1] w fun e w' => e = .returned (.bool true) ∧ Below w.heap.size w w' := by
  obtain ⟨b0, c0⟩ := wf_u16 w0
  clear w0
  have hw0 : 0 ≤ a0 % 300 := by omega
  have hw1 : a0 % 300 ≤ 299 := by omega
  go_enter Try.func12, Try.ntmps12
  go_wp2_with fail
  refine (sane_any _).mono ?_
  rintro e wA ⟨rfl, hb⟩
  go_wp2_with fail
  refine (newrec_ok _ _ (by omega) (by omega)).mono ?_
  rintro e wk ⟨rfl, rfl⟩
  go_wp2_with fail
  refine (newsnd_ok _ _ (by omega) (by omega)).mono ?_
  rintro e wk ⟨rfl, rfl⟩
  go_wp2_with fail
  refine (newsnd_ok _ _ (by omega) (by omega)).mono ?_
  rintro e wk ⟨rfl, rfl⟩
  have ha := ((At.new wA 130 #[.int .i64 (1 + a0 % 300), .int .i64 (1 + a0 % 300), .int .i64 0, .int .i64 0]).alloc (.cells #[.int .i64 (1 + a0 % 300), .int .i64 0, .int .i64 0] 132)).alloc (.cells #[.int .i64 (1 + a0 % 300), .int .i64 0, .int .i64 0] 132)
  have hx := (At.new (wA.alloc (.cells #[.int .i64 (1 + a0 % 300), .int .i64 (1 + a0 % 300), .int .i64 0, .int .i64 0] 130)) 132 #[.int .i64 (1 + a0 % 300), .int .i64 0, .int .i64 0]).alloc (.cells #[.int .i64 (1 + a0 % 300), .int .i64 0, .int .i64 0] 132)
  have hy := At.new ((wA.alloc (.cells #[.int .i64 (1 + a0 % 300), .int .i64 (1 + a0 % 300), .int .i64 0, .int .i64 0] 130)).alloc (.cells #[.int .i64 (1 + a0 % 300), .int .i64 0, .int .i64 0] 132)) 132 #[.int .i64 (1 + a0 % 300), .int .i64 0, .int .i64 0]
  rw [World.size_alloc] at hx
  rw [World.size_alloc, World.size_alloc] at hy
  have hbb := ((hb.alloc hb.size (.cells #[.int .i64 (1 + a0 % 300), .int .i64 (1 + a0 % 300), .int .i64 0, .int .i64 0] 130)).alloc (by have := hb.size; simp; omega) (.cells #[.int .i64 (1 + a0 % 300), .int .i64 0, .int .i64 0] 132)).alloc (by have := hb.size; simp; omega) (.cells #[.int .i64 (1 + a0 % 300), .int .i64 0, .int .i64 0] 132)
  go_wp2_with fail
  go_loopw [12, 13] (fun s i wr => FRel w wA.heap.size (wA.heap.size + 1) (wA.heap.size + 1 + 1) (1 + a0 % 300) s i wr) (fun _ i _ => 40 - (intOf i).toNat)
  case atStart => exact ⟨0, _, _, rfl, rfl, by omega, ⟨by omega, by omega, by omega, by omega⟩, ha, hx, hy, hbb⟩
  case round =>
    obtain ⟨k, m, x, rfl, rfl, hk, hi, hra, hsa, hta, hbw⟩ := hrel
    have hsz := hb.size
    clear ha hx hy hbb hb
    obtain ⟨i0, i1, i2, i3⟩ := hi
    by_cases hlt : k < len1 ∧ k < 40
    · obtain ⟨hlt1, hlt2⟩ := hlt
      obtain ⟨b, off, rfl, hbs, hc0, hw0⟩ := w1 k hlt1
      rw [← hbw.cell hbs] at hc0
      obtain ⟨k0, k1⟩ := wf_u16 hw0
      clear hw0 w1
      have e0 : IntKind.i64.wrap (Z k) = Z k := IntWalk.i64_in _ (by omega)
      have e1 : (Z k).tmod 400 = Z k % 400 := Int.tmod_eq_emod_of_nonneg k0
      by_cases hle : m - x < Z k % 400
      · skip
        go_wp2_with fail
        go_quiet ((go_at_call 39; refine Calls.quiet_of (avail_c _ _ _ _ _ hsa (by omega) (by omega) (by omega))))
        have hra1 := hra.drewN nq
        have hsa1 := hsa.drewN nq
        have hta1 := hta.drewN nq
        have hbw1 : Below w.heap.size w (wr.drewN nq) := ⟨hbw.os, hbw.tape, hbw.output, hbw.size, hbw.block⟩
        clear hra hsa hta hbw
        go_wp2_with fail
        refine (use_ok _ _ _ _ _ _ hsa1 (by omega) (by omega) (by omega) (by omega) (by omega)).mono ?_
        rintro e w2 ⟨rfl, hsa2, ho⟩
        have hra2 := hra1.keep ho (by simp <;> omega)
        have hta2 := hta1.keep ho (by simp <;> omega)
        have hbw2 := hbw1.trans (ho.below (by simp <;> omega) hbw1.size)
        clear ho hra1 hsa1 hta1 hbw1
        go_wp2_with fail
        refine (use_ok _ _ _ _ _ _ hta2 (by omega) (by omega) (by omega) (by omega) (by omega)).mono ?_
        rintro e w3 ⟨rfl, hta3, ho⟩
        have hra3 := hra2.keep ho (by simp <;> omega)
        have hsa3 := hsa2.keep ho (by simp <;> omega)
        have hbw3 := hbw2.trans (ho.below (by simp <;> omega) hbw2.size)
        clear ho hra2 hsa2 hta2 hbw2
        go_wp2_with fail
        refine (receive_ok _ _ _ _ _ _ _ hra3 (by omega) (by omega) (by omega)).mono ?_
        rintro e w4 ⟨rfl, hra4, ho⟩
        have hsa4 := hsa3.keep ho (by simp <;> omega)
        have hta4 := hta3.keep ho (by simp <;> omega)
        have hbw4 := hbw3.trans (ho.below (by simp <;> omega) hbw3.size)
        clear ho hra3 hsa3 hta3 hbw3
        go_wp2_with fail
        refine (read_part _ _ _ _ _ _ _ hra4 (by omega) (by omega) (by omega) (by omega) (by omega)).mono ?_
        rintro e w5 ⟨rfl, hra5, ho⟩
        have hsa5 := hsa4.keep ho (by simp <;> omega)
        have hta5 := hta4.keep ho (by simp <;> omega)
        have hbw5 := hbw4.trans (ho.below (by simp <;> omega) hbw4.size)
        clear ho hra4 hsa4 hta4 hbw4
        by_cases hu : (1 + a0 % 300) / 2 < m - (x + (m - x))
        · exfalso; omega
        · skip
          go_wp2_with fail
          refine (update_yes _ _ _ _ _ _ hra5 (by omega) (by omega) (by omega) (by omega) (by omega) (by omega) (by omega) (by omega)).mono ?_
          rintro e w6 ⟨rfl, hra6, ho⟩
          have hsa6 := hsa5.keep ho (by simp <;> omega)
          have hta6 := hta5.keep ho (by simp <;> omega)
          have hbw6 := hbw5.trans (ho.below (by simp <;> omega) hbw5.size)
          clear ho hra5 hsa5 hta5 hbw5
          go_wp2_with fail
          refine (HE.out _ _ (by omega) (by omega)).mono ?_
          rintro e w7 ⟨bs, rfl, hM, ho⟩
          have hra7 := hra6.keep ho (by simp <;> omega)
          have hsa7 := hsa6.keep ho (by simp <;> omega)
          have hta7 := hta6.keep ho (by simp <;> omega)
          have hbw7 := hbw6.trans (ho.below (by simp) hbw6.size)
          clear ho hra6 hsa6 hta6 hbw6
          go_wp2_with fail
          refine (HD.out _ _ _ hM).mono ?_
          rintro e w8 ⟨ra, rc, rfl, ho⟩
          have hra8 := hra7.keep ho (by simp <;> omega)
          have hsa8 := hsa7.keep ho (by simp <;> omega)
          have hta8 := hta7.keep ho (by simp <;> omega)
          have hbw8 := hbw7.trans (ho.below (by simp) hbw7.size)
          clear ho hra7 hsa7 hta7 hbw7
          go_wp2_with fail
          refine (raise_up _ _ _ _ (x + (m - x) + (1 + a0 % 300)) _ (hsa8.alloc _) (by omega) (by omega)).mono ?_
          rintro e w9 ⟨rfl, hsa9, ho⟩
          have hra9 := (hra8.alloc _).keep ho (by simp <;> omega)
          have hta9 := (hta8.alloc _).keep ho (by simp <;> omega)
          have hbw9 := (hbw8.alloc hbw8.size _).trans (ho.below (by simp <;> omega) (by have := hbw8.size; simp; omega))
          clear ho hra8 hsa8 hta8 hbw8
          go_wp2_with fail
          refine (raise_up _ _ _ _ (x + (m - x) + (1 + a0 % 300)) _ hta9 (by omega) (by omega)).mono ?_
          rintro e w10 ⟨rfl, hta10, ho⟩
          have hra10 := hra9.keep ho (by simp <;> omega)
          have hsa10 := hsa9.keep ho (by simp <;> omega)
          have hbw10 := hbw9.trans (ho.below (by simp <;> omega) hbw9.size)
          clear ho hra9 hsa9 hta9 hbw9
          go_wp2_with fail
          refine (block_none _ _ _ _ hsa10 (by omega) (by omega) (by omega)).mono ?_
          rintro e wb ⟨rfl, hsa11, ho⟩
          have hra11 := hra10.keep ho (by simp <;> omega)
          have hta11 := hta10.keep ho (by simp <;> omega)
          have hbw11 := hbw10.trans (ho.below (by simp <;> omega) hbw10.size)
          clear ho hra10 hsa10 hta10 hbw10
          go_wp2_with fail
          refine (block_none _ _ _ _ hta11 (by omega) (by omega) (by omega)).mono ?_
          rintro e wc ⟨rfl, hta12, ho⟩
          have hra12 := hra11.keep ho (by simp <;> omega)
          have hsa12 := hsa11.keep ho (by simp <;> omega)
          have hbw12 := hbw11.trans (ho.below (by simp <;> omega) hbw11.size)
          clear ho hra11 hsa11 hta11 hbw11
          go_wp2_with fail
          refine (avail_c _ _ _ _ _ hsa12 (by omega) (by omega) (by omega)).mono ?_
          rintro e wk ⟨rfl, ndsa, rfl⟩
          replace hra12 := hra12.drewN ndsa
          replace hsa12 := hsa12.drewN ndsa
          replace hta12 := hta12.drewN ndsa
          go_wp2_with fail
          refine (avail_c _ _ _ _ _ hta12 (by omega) (by omega) (by omega)).mono ?_
          rintro e wk ⟨rfl, ndta, rfl⟩
          replace hra12 := hra12.drewN ndta
          replace hsa12 := hsa12.drewN ndta
          replace hta12 := hta12.drewN ndta
          go_wp2_with fail
          go_roundw
          case rel => exact ⟨k + 1, _, _, rfl, by go_num, by omega, ⟨by omega, by omega, by omega, by omega⟩, hra12, hsa12, hta12, ⟨hbw12.os, hbw12.tape, hbw12.output, hbw12.size, hbw12.block⟩⟩
          case measure => simp [intOf]; omega
      · skip
        go_wp2_with fail
        go_quiet ((go_at_call 39; refine Calls.quiet_of (avail_c _ _ _ _ _ hsa (by omega) (by omega) (by omega))))
        have hra1 := hra.drewN nq
        have hsa1 := hsa.drewN nq
        have hta1 := hta.drewN nq
        have hbw1 : Below w.heap.size w (wr.drewN nq) := ⟨hbw.os, hbw.tape, hbw.output, hbw.size, hbw.block⟩
        clear hra hsa hta hbw
        go_wp2_with fail
        refine (use_ok _ _ _ _ _ _ hsa1 (by omega) (by omega) (by omega) (by omega) (by omega)).mono ?_
        rintro e w2 ⟨rfl, hsa2, ho⟩
        have hra2 := hra1.keep ho (by simp <;> omega)
        have hta2 := hta1.keep ho (by simp <;> omega)
        have hbw2 := hbw1.trans (ho.below (by simp <;> omega) hbw1.size)
        clear ho hra1 hsa1 hta1 hbw1
        go_wp2_with fail
        refine (use_ok _ _ _ _ _ _ hta2 (by omega) (by omega) (by omega) (by omega) (by omega)).mono ?_
        rintro e w3 ⟨rfl, hta3, ho⟩
        have hra3 := hra2.keep ho (by simp <;> omega)
        have hsa3 := hsa2.keep ho (by simp <;> omega)
        have hbw3 := hbw2.trans (ho.below (by simp <;> omega) hbw2.size)
        clear ho hra2 hsa2 hta2 hbw2
        go_wp2_with fail
        refine (receive_ok _ _ _ _ _ _ _ hra3 (by omega) (by omega) (by omega)).mono ?_
        rintro e w4 ⟨rfl, hra4, ho⟩
        have hsa4 := hsa3.keep ho (by simp <;> omega)
        have hta4 := hta3.keep ho (by simp <;> omega)
        have hbw4 := hbw3.trans (ho.below (by simp <;> omega) hbw3.size)
        clear ho hra3 hsa3 hta3 hbw3
        go_wp2_with fail
        refine (read_part _ _ _ _ _ _ _ hra4 (by omega) (by omega) (by omega) (by omega) (by omega)).mono ?_
        rintro e w5 ⟨rfl, hra5, ho⟩
        have hsa5 := hsa4.keep ho (by simp <;> omega)
        have hta5 := hta4.keep ho (by simp <;> omega)
        have hbw5 := hbw4.trans (ho.below (by simp <;> omega) hbw4.size)
        clear ho hra4 hsa4 hta4 hbw4
        by_cases hu : (1 + a0 % 300) / 2 < m - (x + (Z k % 400))
        · skip
          go_wp2_with fail
          refine (update_no _ _ _ _ _ _ hra5 (by omega) (by omega) (by omega) (by omega) (by omega) (.inl hu)).mono ?_
          rintro e w6 ⟨rfl, hra6, ho⟩
          have hsa6 := hsa5.keep ho (by simp <;> omega)
          have hta6 := hta5.keep ho (by simp <;> omega)
          have hbw6 := hbw5.trans (ho.below (by simp <;> omega) hbw5.size)
          clear ho hra5 hsa5 hta5 hbw5
          go_wp2_with fail
          refine (block_none _ _ _ _ hsa6 (by omega) (by omega) (by omega)).mono ?_
          rintro e wb ⟨rfl, hsa7, ho⟩
          have hra7 := hra6.keep ho (by simp <;> omega)
          have hta7 := hta6.keep ho (by simp <;> omega)
          have hbw7 := hbw6.trans (ho.below (by simp <;> omega) hbw6.size)
          clear ho hra6 hsa6 hta6 hbw6
          go_wp2_with fail
          refine (block_none _ _ _ _ hta7 (by omega) (by omega) (by omega)).mono ?_
          rintro e wc ⟨rfl, hta8, ho⟩
          have hra8 := hra7.keep ho (by simp <;> omega)
          have hsa8 := hsa7.keep ho (by simp <;> omega)
          have hbw8 := hbw7.trans (ho.below (by simp <;> omega) hbw7.size)
          clear ho hra7 hsa7 hta7 hbw7
          go_wp2_with fail
          refine (avail_c _ _ _ _ _ hsa8 (by omega) (by omega) (by omega)).mono ?_
          rintro e wk ⟨rfl, ndsa, rfl⟩
          replace hra8 := hra8.drewN ndsa
          replace hsa8 := hsa8.drewN ndsa
          replace hta8 := hta8.drewN ndsa
          go_wp2_with fail
          refine (avail_c _ _ _ _ _ hta8 (by omega) (by omega) (by omega)).mono ?_
          rintro e wk ⟨rfl, ndta, rfl⟩
          replace hra8 := hra8.drewN ndta
          replace hsa8 := hsa8.drewN ndta
          replace hta8 := hta8.drewN ndta
          go_wp2_with fail
          go_roundw
          case rel => exact ⟨k + 1, _, _, rfl, by go_num, by omega, ⟨by omega, by omega, by omega, by omega⟩, hra8, hsa8, hta8, ⟨hbw8.os, hbw8.tape, hbw8.output, hbw8.size, hbw8.block⟩⟩
          case measure => simp [intOf]; omega
        · skip
          go_wp2_with fail
          refine (update_yes _ _ _ _ _ _ hra5 (by omega) (by omega) (by omega) (by omega) (by omega) (by omega) (by omega) (by omega)).mono ?_
          rintro e w6 ⟨rfl, hra6, ho⟩
          have hsa6 := hsa5.keep ho (by simp <;> omega)
          have hta6 := hta5.keep ho (by simp <;> omega)
          have hbw6 := hbw5.trans (ho.below (by simp <;> omega) hbw5.size)
          clear ho hra5 hsa5 hta5 hbw5
          go_wp2_with fail
          refine (HE.out _ _ (by omega) (by omega)).mono ?_
          rintro e w7 ⟨bs, rfl, hM, ho⟩
          have hra7 := hra6.keep ho (by simp <;> omega)
          have hsa7 := hsa6.keep ho (by simp <;> omega)
          have hta7 := hta6.keep ho (by simp <;> omega)
          have hbw7 := hbw6.trans (ho.below (by simp) hbw6.size)
          clear ho hra6 hsa6 hta6 hbw6
          go_wp2_with fail
          refine (HD.out _ _ _ hM).mono ?_
          rintro e w8 ⟨ra, rc, rfl, ho⟩
          have hra8 := hra7.keep ho (by simp <;> omega)
          have hsa8 := hsa7.keep ho (by simp <;> omega)
          have hta8 := hta7.keep ho (by simp <;> omega)
          have hbw8 := hbw7.trans (ho.below (by simp) hbw7.size)
          clear ho hra7 hsa7 hta7 hbw7
          go_wp2_with fail
          refine (raise_up _ _ _ _ (x + (Z k % 400) + (1 + a0 % 300)) _ (hsa8.alloc _) (by omega) (by omega)).mono ?_
          rintro e w9 ⟨rfl, hsa9, ho⟩
          have hra9 := (hra8.alloc _).keep ho (by simp <;> omega)
          have hta9 := (hta8.alloc _).keep ho (by simp <;> omega)
          have hbw9 := (hbw8.alloc hbw8.size _).trans (ho.below (by simp <;> omega) (by have := hbw8.size; simp; omega))
          clear ho hra8 hsa8 hta8 hbw8
          go_wp2_with fail
          refine (raise_up _ _ _ _ (x + (Z k % 400) + (1 + a0 % 300)) _ hta9 (by omega) (by omega)).mono ?_
          rintro e w10 ⟨rfl, hta10, ho⟩
          have hra10 := hra9.keep ho (by simp <;> omega)
          have hsa10 := hsa9.keep ho (by simp <;> omega)
          have hbw10 := hbw9.trans (ho.below (by simp <;> omega) hbw9.size)
          clear ho hra9 hsa9 hta9 hbw9
          go_wp2_with fail
          refine (block_none _ _ _ _ hsa10 (by omega) (by omega) (by omega)).mono ?_
          rintro e wb ⟨rfl, hsa11, ho⟩
          have hra11 := hra10.keep ho (by simp <;> omega)
          have hta11 := hta10.keep ho (by simp <;> omega)
          have hbw11 := hbw10.trans (ho.below (by simp <;> omega) hbw10.size)
          clear ho hra10 hsa10 hta10 hbw10
          go_wp2_with fail
          refine (block_none _ _ _ _ hta11 (by omega) (by omega) (by omega)).mono ?_
          rintro e wc ⟨rfl, hta12, ho⟩
          have hra12 := hra11.keep ho (by simp <;> omega)
          have hsa12 := hsa11.keep ho (by simp <;> omega)
          have hbw12 := hbw11.trans (ho.below (by simp <;> omega) hbw11.size)
          clear ho hra11 hsa11 hta11 hbw11
          go_wp2_with fail
          refine (avail_c _ _ _ _ _ hsa12 (by omega) (by omega) (by omega)).mono ?_
          rintro e wk ⟨rfl, ndsa, rfl⟩
          replace hra12 := hra12.drewN ndsa
          replace hsa12 := hsa12.drewN ndsa
          replace hta12 := hta12.drewN ndsa
          go_wp2_with fail
          refine (avail_c _ _ _ _ _ hta12 (by omega) (by omega) (by omega)).mono ?_
          rintro e wk ⟨rfl, ndta, rfl⟩
          replace hra12 := hra12.drewN ndta
          replace hsa12 := hsa12.drewN ndta
          replace hta12 := hta12.drewN ndta
          go_wp2_with fail
          go_roundw
          case rel => exact ⟨k + 1, _, _, rfl, by go_num, by omega, ⟨by omega, by omega, by omega, by omega⟩, hra12, hsa12, hta12, ⟨hbw12.os, hbw12.tape, hbw12.output, hbw12.size, hbw12.block⟩⟩
          case measure => simp [intOf]; omega
    · by_cases hl1 : k < len1
      all_goals
        go_wp2_with fail
        go_ret
        exact ⟨rfl, hbw⟩
end Go.Proofs.Ytmmgmpghkpbgkaa
