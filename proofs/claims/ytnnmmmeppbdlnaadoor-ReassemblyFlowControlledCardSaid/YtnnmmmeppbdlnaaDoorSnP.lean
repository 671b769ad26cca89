/- Contracts of the law's own helpers: text and pick. -/
import Derived.Test.YtnnmmmeppbdlnaaDoorSnI
import Derived.Laws.AppendOwn
namespace Go.Proofs.YtnnmmmeppbdlnaaDoor
open Go Go.RowKit
set_option linter.unusedVariables false
set_option linter.unusedSectionVars false
set_option linter.unusedSimpArgs false

theorem A_i8 : ∃ i, Tryd.prog.info? 5 = some i ∧ i.size = 1 := by
  obtain ⟨i, h, h2⟩ := Option.map_eq_some_iff.1 A_size8
  exact ⟨i, h, h2⟩
/-- append of one byte where there is room. -/
theorem append_b {w : World} {g n : Nat} {B : Nat → UInt8} (h : RowB w g n B) (i : Nat) (hi : i < n) (a : Addr) (ha : a.spot = none) (v : UInt8) (hv : w.cell? a = some (.int .u8 v.toNat)) :
    ∃ w', (∀ ty, (Builtin.append_ #[39, 39] ty #[.slice (some ⟨g, 0, none⟩) i n, .slice (some a) 1 1]).run Tryd.prog w = .ok (.slice (some ⟨g, 0, none⟩) (i + 1) n) w') ∧ RowB w' g n (fun k => if k = i then v else B k) ∧ Only [g] w w' := by
  obtain ⟨cs, hA, hn, hd⟩ := h
  obtain ⟨inf, hq, hs⟩ := A_i8
  subst hn
  refine ⟨_, fun ty => run_append_room (P := Tryd.prog) w 39 ty 5 inf Tryd.underlying39 hq g i cs.size cs hA a 1 1 [.int .u8 v.toNat] (by simp [hs]) (fun j u hj => ?_) (fun u hu => by simp at hu; subst hu; rfl) (by omega) (by simp [hs]; omega),
    ⟨_, setRow_heap w g cs _ 5 (0, 0) hA, by simp [hs]; omega, fun k hk => ?_⟩, rfl, rfl, rfl, by simp [World.setRow], fun k _ hk => setRow_other w g k _ (by simpa using hk)⟩
  · match j, hj with
    | 0, hj => simp at hj; subst hj; rw [show a.add 0 = a by simp [Addr.add]]; exact hv
    | (j + 1), hj => simp at hj
  · simp only [hs, Nat.mul_one, List.length_cons, List.length_nil, List.getElem?_toArray]
    by_cases e : k < i
    · rw [List.append_assoc, List.getElem?_append_left (by simp; omega), List.getElem?_take, if_pos e, if_neg (by omega)]
      have := hd k hk
      simpa using this
    · by_cases e2 : k = i
      · subst e2
        rw [List.append_assoc, List.getElem?_append_right (by simp; omega)]
        simp [show min k cs.size = k by omega]
      · rw [if_neg e2, List.getElem?_append_right (by simp; omega), List.getElem?_drop]
        have := hd k hk
        simp only [List.length_append, List.length_take, Array.length_toList, List.length_cons, List.length_nil]
        rw [show i + (0 + 1) + (k - (min i cs.size + (0 + 1))) = k by omega]
        simpa using this
theorem make_cap (n : Nat) (hn : n ≤ 8192) (w : World) : (Instr.makeSlice 39 (.int .i64 0) (.int .i64 n)).run Tryd.prog w = .ok (.slice (some ⟨w.heap.size, 0, none⟩) 0 n) (w.alloc (.cells (madeCells #[.int .u8 0] n) 5)) := by
  obtain ⟨i, hi, hzz⟩ := Option.map_eq_some_iff.1 A_info8
  simp only [Prod.mk.injEq] at hzz
  obtain ⟨hz, hs, hb⟩ := hzz
  have hr := run_make (P := Tryd.prog) w 39 5 i (.int .u8 0) Tryd.underlying39 hi hz .i64 .i64 0 n (by omega) (by omega) (by rw [hb]; omega) (by omega)
  simp only [Int.toNat_natCast, Int.toNat_zero, hs, Nat.mul_one] at hr
  exact hr
/-- The first n bytes of the test data. -/
def txtS (n : Nat) : ByteArray := strB ((List.range n).map txt)
theorem txt_val (k : Nat) (hk : k ≤ 8192) : (wrap64 ((k : Int) * (k + 3))).tmod 251 % 256 = ((txt k).toNat : Int) := by
  have h1 : k * (k + 3) ≤ 8192 * 8195 := Nat.mul_le_mul hk (by omega)
  have h2 : ((k : Int) * (k + 3)) = ((k * (k + 3) : Nat) : Int) := by simp
  rw [h2, txt_nat]
  generalize k * (k + 3) = q at *
  have h3 : wrap64 (q : Int) = q := by
    exact IntWalk.wrap64_in _ (by omega)
  rw [h3, Int.tmod_eq_emod_of_nonneg (by omega)]
  omega
def TRel (w : World) (n g : Nat) (i s : Value) (wr : World) : Prop := ∃ k B, k ≤ n ∧ i = .int .i64 (k : Nat) ∧ s = .slice (some ⟨g, 0, none⟩) k n ∧ RowB wr g n B ∧ (∀ j, j < k → B j = txt j) ∧ Only [] w wr ∧ w.heap.size ≤ g
set_option maxRecDepth 100000 in
set_option maxHeartbeats 4000000 in
theorem text_c (n : Nat) (hn : n ≤ 8192) (w : World) : Calls Tryd.prog 24 #[.int .i64 n] w fun e w' => e = .returned (.string (txtS n)) ∧ Only [] w w' := by
  have hm := make_cap n hn
  unfold txtS
  go_enter Tryd.func24, Tryd.ntmps24
  go_wp2_with fail
  go_loopw [3, 4] (fun s i wr => TRel w n w.heap.size i s wr) (fun _ i _ => n - (intOf i).toNat)
  case atStart => exact ⟨0, _, by omega, rfl, rfl, row_made_b (At.new w _ _), fun j hj => by omega, (Only.refl _ _).alloc _, Nat.le_refl _⟩
  case round =>
    obtain ⟨k, B, hk, rfl, rfl, hR, hB, hO, hg⟩ := hrel
    by_cases hlt : k < n
    · have hlt' : (k : Int) < n := by omega
      have e1 : IntKind.i64.wrap ((k : Int) + 3) = k + 3 := IntWalk.i64_in _ (by omega)
      have ev := txt_val k (by omega)
      have hc := hR.cell k hlt
      have hf := hR.free k
      have hgl := hR.lt
      have hRp := Lib.hid (hR.put k (txt k))
      have HB := Lib.hid hB
      have HO := Lib.hid hO
      clear hB hO hR hm
      go_wp2_with fail
      refine ⟨⟨k + 1, _, by omega, by simp, rfl, (hRp.out.block ?_), fun j hj => ?_, (HO.out.putn (Nat.le_refl _) _).alloc _, Nat.le_refl _⟩, by simp [intOf]; omega⟩
      · exact Below.heap_alloc _ _ _ (by simpa [World.setCell] using hgl)
      · by_cases e : j = k
        · simp [e]
        · simp only [if_neg e]; exact HB.out j (by omega)
    · obtain rfl : k = n := by omega
      have hlt' : ¬ (k : Int) < k := by omega
      have hcv := conv_b hR k k (Nat.le_refl _)
      have HT : Hid ((List.range k).map B = (List.range k).map txt) := Lib.hid (List.map_congr_left fun j hj => hB j (List.mem_range.1 hj))
      rw [HT.out] at hcv
      have HO := Lib.hid hO
      clear hB hO hR hm
      go_wp2_with fail
      go_ret
      exact ⟨rfl, HO.out⟩
/-- The index that pick gives. -/
def pickI (c m : Int) : Int := (if c < 0 then -(c + 1) else c) % m
theorem pickI_bd (c m : Int) (hm : 0 < m) : 0 ≤ pickI c m ∧ pickI c m < m := by
  unfold pickI
  exact ⟨Int.emod_nonneg _ (by omega), Int.emod_lt_of_pos _ hm⟩
set_option maxHeartbeats 1000000 in
theorem pick_c (v m : Int) (w : World) (hm : 0 < m) (hm2 : m ≤ 1000000) (h0 : -9223372036854775808 ≤ v) (h1 : v ≤ 9223372036854775807) : Calls Tryd.prog 25 #[.int .i64 v, .int .i64 m] w fun e w' => e = .returned (.int .i64 (pickI v m)) ∧ w = w' := by
  have hmz : ¬ m = 0 := by omega
  unfold pickI
  by_cases h : v < 0
  · rw [if_pos h]
    obtain ⟨u, hu⟩ : ∃ u, -(v + 1) = u := ⟨_, rfl⟩
    have u0 : 0 ≤ u := by omega
    have e1 : IntKind.i64.wrap (v + 1) = v + 1 := IntWalk.i64_in _ (by omega)
    have e2 : IntKind.i64.wrap u = u := IntWalk.i64_in _ (by omega)
    have hb : 0 ≤ u % m ∧ u % m < m := ⟨Int.emod_nonneg _ (by omega), Int.emod_lt_of_pos _ hm⟩
    have et : u.tmod m = u % m := Int.tmod_eq_emod_of_nonneg u0
    have e3 : IntKind.i64.wrap (u % m) = u % m := IntWalk.i64_in _ (by omega)
    rw [hu]
    go_enter Tryd.func25, Tryd.ntmps25
    go_wp2_with fail
    go_ret
    exact ⟨rfl, rfl⟩
  · rw [if_neg h]
    have v0 : 0 ≤ v := by omega
    have hb : 0 ≤ v % m ∧ v % m < m := ⟨Int.emod_nonneg _ (by omega), Int.emod_lt_of_pos _ hm⟩
    have et : v.tmod m = v % m := Int.tmod_eq_emod_of_nonneg v0
    have e3 : IntKind.i64.wrap (v % m) = v % m := IntWalk.i64_in _ (by omega)
    go_enter Tryd.func25, Tryd.ntmps25
    go_wp2_with fail
    go_ret
    exact ⟨rfl, rfl⟩
end Go.Proofs.YtnnmmmeppbdlnaaDoor
