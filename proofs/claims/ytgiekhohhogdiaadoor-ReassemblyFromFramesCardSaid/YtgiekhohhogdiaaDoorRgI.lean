/- Contracts of package reassembly: Read and Put. -/
import Derived.Test.YtgiekhohhogdiaaDoorRgD
import Derived.Test.YtgiekhohhogdiaaDoorRgH
import Derived.Laws.AppendOwn
namespace Go.Proofs.YtgiekhohhogdiaaDoor
open Go Go.RowKit
set_option linter.unusedVariables false
set_option linter.unusedSectionVars false
set_option linter.unusedSimpArgs false

/-- Does Read answer that the end is reached, where c bytes are taken? -/
def Bf.last (x : Bf) (c : Nat) : Bool := x.kn && (x.pos + c == x.fin)
set_option maxRecDepth 100000 in
set_option maxHeartbeats 4000000 in
theorem read_c (b g1 g2 : Nat) (x : Bf) (w : World) (hA : BufAt w b g1 g2 x) (m : Int) (hp : x.pos + x.many m ≤ 1099511627776) :
    Calls Tryd.prog 11 #[.pointer (some ⟨b, 0, none⟩), .int .i64 m] w fun e w' => e = .returned (.tuple #[.string (strB (x.out (x.many m))), .bool (x.last (x.many m))]) ∧ BufAt w' b g1 g2 (x.read (x.many m)) ∧ Only [b, g1, g2] w w' := by
  have hle := x.ready_le
  have hml := (x.many_le m).1
  obtain ⟨z, hz⟩ : ∃ z, (if (x.ready : Int) < m then (x.ready : Int) else m) = z := ⟨_, rfl⟩
  obtain ⟨c, hc⟩ : ∃ c, x.many m = c := ⟨_, rfl⟩
  rw [hc] at hp hml ⊢
  have hy : (if z < 0 then 0 else z) = (c : Int) := by
    rw [← hc, ← hz]; unfold Bf.many; split <;> split <;> split <;> omega
  have hz2 : (if m < (x.ready : Int) then m else (x.ready : Int)) = z := by rw [← hz]; split <;> split <;> omega
  have HA := Lib.hid hA; clear hA
  have HZ := Lib.hid (And.intro hle hml); clear hle hml hc
  unfold Bf.last
  go_enter Tryd.func11, Tryd.ntmps11
  go_wp2_with fail
  go_region_with (first | (go_at_call 23; refine (wready_c b g1 g2 x _ (HA.out.keep (S := []) (Only.refl _ _).drew (by simp) (by simp) (by simp))).mono ?_; rintro e w' ⟨rfl, rfl⟩) | (go_at_call 22; refine (take_c b g1 g2 x _ (HA.out.keep (S := []) (Only.refl _ _).drew (by simp) (by simp) (by simp)) c (by have := HZ.out; omega) hp).mono ?_; rintro e w1 ⟨rfl, hA1, ho1⟩))
  simp only [List.getElem_toArray, List.getElem_cons_succ, List.getElem_cons_zero, Act.put, List.setIfInBounds_toArray, List.set_cons_zero, List.set_cons_succ]
  have c0 : w1.cell? ⟨b, 0, none⟩ = some (.int .i64 (x.pos + c)) := hA1.c0
  have c4 : w1.cell? ⟨b, 4, none⟩ = some (.int .i64 x.fin) := hA1.c4
  have c5 : w1.cell? ⟨b, 5, none⟩ = some (.bool x.kn) := hA1.c5
  have HO : Hid (Only [b, g1, g2] w w1) := Lib.hid (((Only.refl _ w).drew).trans ho1)
  have HA1 := Lib.hid hA1
  clear hA1 ho1 hz hy hz2
  cases hk : x.kn with
  | false =>
    rw [hk] at c5
    have HK := Lib.hid hk
    clear hk
    go_wp2_with fail
    go_quiet (fail)
    go_wp2_with fail
    go_ret2
    exact ⟨by rw [HK.out]; rfl, HA1.out.drewN _, HO.out.drewN _⟩
  | true =>
    rw [hk] at c5
    have HK := Lib.hid hk
    clear hk
    go_wp2_with fail
    go_quiet (fail)
    go_wp2_with fail
    go_ret2
    exact ⟨by rw [HK.out]; rfl, HA1.out.drewN _, HO.out.drewN _⟩

section
variable (b g1 g2 B : Nat) (x : Bf) (c f r g : Addr) (off : Int) (s : ByteArray) (fl : Bool) (w : World) (hA : BufAt w b g1 g2 x) (hS : Snt B c f r g w) (hB : B ≤ w.heap.size)
include hA hS hB
theorem Put_of (v : Value) (k : Int) (y : Bf) (h : Calls Tryd.prog 21 #[.pointer (some ⟨b, 0, none⟩), .agg #[.int .i64 off, .string s, .bool fl]] w fun e w' => e = .returned v ∧ BufAt w' b g1 g2 y ∧ Only [b, g1, g2] w w')
    (h2 : ∀ w', Only [b, g1, g2] w w' → Calls Tryd.prog 20 #[v] w' fun e w'' => e = .returned (.int .i64 k) ∧ w' = w'') :
    Calls Tryd.prog 10 #[.pointer (some ⟨b, 0, none⟩), .int .i64 off, .string s, .bool fl] w fun e w' => e = .returned (.int .i64 k) ∧ BufAt w' b g1 g2 y ∧ Only [b, g1, g2] w w' := by
  clear hA hS hB
  go_enter Tryd.func10, Tryd.ntmps10
  go_wp2_with fail
  refine h.mono ?_
  rintro e w1 ⟨rfl, hA1, ho1⟩
  go_wp2_with fail
  refine (h2 w1 ho1).mono ?_
  rintro e w2 ⟨rfl, rfl⟩
  go_wp2_with fail
  go_ret
  exact ⟨rfl, hA1, ho1⟩
/-- What Put does, whatever the piece. -/
theorem Put_c (hb : b ≥ B) (hg1 : g1 ≥ B) (hg2 : g2 ≥ B) :
    Calls Tryd.prog 10 #[.pointer (some ⟨b, 0, none⟩), .int .i64 off, .string s, .bool fl] w fun e w' => e = .returned (.int .i64 (x.putC off s.data.toList fl)) ∧ BufAt w' b g1 g2 (bif x.putC off s.data.toList fl == 0 then x.hold off s.data.toList fl else x) ∧ Only [b, g1, g2] w w' := by
  have hl : s.data.toList.length = s.size := by simp
  have hbe : ∀ w', Only [b, g1, g2] w w' → Snt B c f r g w' := fun w' ho => hS.below (ho.below (by simp; omega) hB)
  have keep : ∀ v, (Calls Tryd.prog 21 #[.pointer (some ⟨b, 0, none⟩), .agg #[.int .i64 off, .string s, .bool fl]] w fun e w' => e = .returned v ∧ Only [] w w') → Calls Tryd.prog 21 #[.pointer (some ⟨b, 0, none⟩), .agg #[.int .i64 off, .string s, .bool fl]] w fun e w' => e = .returned v ∧ BufAt w' b g1 g2 x ∧ Only [b, g1, g2] w w' :=
    fun v h => h.mono fun e w' ⟨h1, h2⟩ => ⟨h1, hA.keep h2 (by simp) (by simp) (by simp), h2.mono (by simp)⟩
  cases h0 : Bf.argB off s.size with
  | false =>
    rw [show x.putC off s.data.toList fl = 2 by simp [Bf.putC, hl, h0]]
    exact Put_of b g1 g2 B x c f r g off s fl w hA hS hB _ _ _ (keep _ (put_g b g1 g2 B x c f r g off s fl w hA hS hB h0)) (fun w' ho => errno_g w' (hbe w' ho))
  | true =>
    cases h1 : x.agrB off s.data.toList with
    | false =>
      rw [show x.putC off s.data.toList fl = 160 by simp [Bf.putC, hl, h0, h1]]
      exact Put_of b g1 g2 B x c f r g off s fl w hA hS hB _ _ _ (keep _ (put_c b g1 g2 B x c f r g off s fl w hA hS hB h0 h1)) (fun w' ho => errno_c w' (hbe w' ho))
    | true =>
      cases h2 : x.finB (off + s.size) fl with
      | false =>
        rw [show x.putC off s.data.toList fl = 161 by simp [Bf.putC, hl, h0, h1, h2]]
        exact Put_of b g1 g2 B x c f r g off s fl w hA hS hB _ _ _ (keep _ (put_f b g1 g2 B x c f r g off s fl w hA hS hB h0 h1 h2)) (fun w' ho => errno_f w' (hbe w' ho))
      | true =>
        cases h3 : decide (off + (s.size : Int) ≤ x.pos + x.n) with
        | false =>
          rw [show x.putC off s.data.toList fl = 162 by unfold Bf.putC; rw [hl, h0, h1, h2, h3]; rfl]
          exact Put_of b g1 g2 B x c f r g off s fl w hA hS hB _ _ _ (keep _ (put_r b g1 g2 B x c f r g off s fl w hA hS hB h0 h1 h2 h3)) (fun w' ho => errno_r w' (hbe w' ho))
        | true =>
          rw [show x.putC off s.data.toList fl = 0 by unfold Bf.putC; rw [hl, h0, h1, h2, h3]; rfl]
          cases fl with
          | true => exact Put_of b g1 g2 B x c f r g off s true w hA hS hB _ _ _ (put_ok_true b g1 g2 B x c f r g off s w hA hS hB h0 h1 h2 h3) (fun w' ho => errno_nil w')
          | false => exact Put_of b g1 g2 B x c f r g off s false w hA hS hB _ _ _ (put_ok_false b g1 g2 B x c f r g off s w hA hS hB h0 h1 h2 h3) (fun w' ho => errno_nil w')
end
end Go.Proofs.YtgiekhohhogdiaaDoor
/- Contracts of the law's own helpers: text and pick. -/
namespace Go.Proofs.YtgiekhohhogdiaaDoor
open Go Go.RowKit
set_option linter.unusedVariables false
set_option linter.unusedSectionVars false
set_option linter.unusedSimpArgs false

theorem A_i8 : ∃ i, Tryd.prog.info? 5 = some i ∧ i.size = 1 := by
  obtain ⟨i, h, h2⟩ := Option.map_eq_some_iff.1 A_size8
  exact ⟨i, h, h2⟩
/-- append of one byte where there is room. -/
theorem append_b {w : World} {g n : Nat} {B : Nat → UInt8} (h : RowB w g n B) (i : Nat) (hi : i < n) (a : Addr) (ha : a.spot = none) (v : UInt8) (hv : w.cell? a = some (.int .u8 v.toNat)) :
    ∃ w', (∀ ty, (Builtin.append_ #[46, 46] ty #[.slice (some ⟨g, 0, none⟩) i n, .slice (some a) 1 1]).run Tryd.prog w = .ok (.slice (some ⟨g, 0, none⟩) (i + 1) n) w') ∧ RowB w' g n (fun k => if k = i then v else B k) ∧ Only [g] w w' := by
  obtain ⟨cs, hA, hn, hd⟩ := h
  obtain ⟨inf, hq, hs⟩ := A_i8
  subst hn
  refine ⟨_, fun ty => run_append_room (P := Tryd.prog) w 46 ty 5 inf Tryd.underlying46 hq g i cs.size cs hA a 1 1 [.int .u8 v.toNat] (by simp [hs]) (fun j u hj => ?_) (fun u hu => by simp at hu; subst hu; rfl) (by omega) (by simp [hs]; omega),
    ⟨_, setRow_heap w g cs _ 5 (0, 0) hA, by simp [hs]; omega, fun k hk => ?_⟩, rfl, rfl, rfl, by simp [World.setRow], fun k _ hk => setRow_other w g k _ (by simpa using hk)⟩
  · match j, hj with
    | 0, hj => simp at hj; subst hj; rw [show a.add 0 = a by simp [Addr.add]]; exact hv
    | (j + 1), hj => simp at hj
  · simp only [hs, Nat.mul_one, List.length_cons, List.length_nil, List.getElem?_toArray]
    by_cases e : k < i
    · rw [List.append_assoc, List.getElem?_append_left (by simp; omega), List.getElem?_take, if_pos e, if_neg (by omega)]
      have := hd k hk
      simpa using this
    · by_cases e2 : k = i
      · subst e2
        rw [List.append_assoc, List.getElem?_append_right (by simp; omega)]
        simp [show min k cs.size = k by omega]
      · rw [if_neg e2, List.getElem?_append_right (by simp; omega), List.getElem?_drop]
        have := hd k hk
        simp only [List.length_append, List.length_take, Array.length_toList, List.length_cons, List.length_nil]
        rw [show i + (0 + 1) + (k - (min i cs.size + (0 + 1))) = k by omega]
        simpa using this
theorem make_cap (n : Nat) (hn : n ≤ 8192) (w : World) : (Instr.makeSlice 46 (.int .i64 0) (.int .i64 n)).run Tryd.prog w = .ok (.slice (some ⟨w.heap.size, 0, none⟩) 0 n) (w.alloc (.cells (madeCells #[.int .u8 0] n) 5)) := by
  obtain ⟨i, hi, hzz⟩ := Option.map_eq_some_iff.1 A_info8
  simp only [Prod.mk.injEq] at hzz
  obtain ⟨hz, hs, hb⟩ := hzz
  have hr := run_make (P := Tryd.prog) w 46 5 i (.int .u8 0) Tryd.underlying46 hi hz .i64 .i64 0 n (by omega) (by omega) (by rw [hb]; omega) (by omega)
  simp only [Int.toNat_natCast, Int.toNat_zero, hs, Nat.mul_one] at hr
  exact hr
/-- The first n bytes of the test data. -/
def txtS (n : Nat) : ByteArray := strB ((List.range n).map txt)
theorem txt_val (k : Nat) (hk : k ≤ 8192) : (wrap64 ((k : Int) * (k + 3))).tmod 251 % 256 = ((txt k).toNat : Int) := by
  have h1 : k * (k + 3) ≤ 8192 * 8195 := Nat.mul_le_mul hk (by omega)
  have h2 : ((k : Int) * (k + 3)) = ((k * (k + 3) : Nat) : Int) := by simp
  rw [h2, txt_nat]
  generalize k * (k + 3) = q at *
  have h3 : wrap64 (q : Int) = q := by
    exact IntWalk.wrap64_in _ (by omega)
  rw [h3, Int.tmod_eq_emod_of_nonneg (by omega)]
  omega
def TRel (w : World) (n g : Nat) (i s : Value) (wr : World) : Prop := ∃ k B, k ≤ n ∧ i = .int .i64 (k : Nat) ∧ s = .slice (some ⟨g, 0, none⟩) k n ∧ RowB wr g n B ∧ (∀ j, j < k → B j = txt j) ∧ Only [] w wr ∧ w.heap.size ≤ g
set_option maxRecDepth 100000 in
set_option maxHeartbeats 4000000 in
theorem txt_c (n : Nat) (hn : n ≤ 8192) (w : World) : Calls Tryd.prog 5 #[.int .i64 n] w fun e w' => e = .returned (.string (txtS n)) ∧ Only [] w w' := by
  have hm := make_cap n hn
  unfold txtS
  go_enter Tryd.func5, Tryd.ntmps5
  go_wp2_with fail
  go_loopw [3, 4] (fun s i wr => TRel w n w.heap.size i s wr) (fun _ i _ => n - (intOf i).toNat)
  case atStart => exact ⟨0, _, by omega, rfl, rfl, row_made_b (At.new w _ _), fun j hj => by omega, (Only.refl _ _).alloc _, Nat.le_refl _⟩
  case round =>
    obtain ⟨k, B, hk, rfl, rfl, hR, hB, hO, hg⟩ := hrel
    by_cases hlt : k < n
    · have hlt' : (k : Int) < n := by omega
      have e1 : IntKind.i64.wrap ((k : Int) + 3) = k + 3 := IntWalk.i64_in _ (by omega)
      have ev := txt_val k (by omega)
      have hc := hR.cell k hlt
      have hf := hR.free k
      have hgl := hR.lt
      have hRp := Lib.hid (hR.put k (txt k))
      have HB := Lib.hid hB
      have HO := Lib.hid hO
      clear hB hO hR hm
      go_wp2_with fail
      refine ⟨⟨k + 1, _, by omega, by simp, rfl, (hRp.out.block ?_), fun j hj => ?_, (HO.out.putn (Nat.le_refl _) _).alloc _, Nat.le_refl _⟩, by simp [intOf]; omega⟩
      · exact Below.heap_alloc _ _ _ (by simpa [World.setCell] using hgl)
      · by_cases e : j = k
        · simp [e]
        · simp only [if_neg e]; exact HB.out j (by omega)
    · obtain rfl : k = n := by omega
      have hlt' : ¬ (k : Int) < k := by omega
      have hcv := conv_b hR k k (Nat.le_refl _)
      have HT : Hid ((List.range k).map B = (List.range k).map txt) := Lib.hid (List.map_congr_left fun j hj => hB j (List.mem_range.1 hj))
      rw [HT.out] at hcv
      have HO := Lib.hid hO
      clear hB hO hR hm
      go_wp2_with fail
      go_ret
      exact ⟨rfl, HO.out⟩
/-- The index that pick gives. -/
def pickI (c m : Int) : Int := (if c < 0 then -(c + 1) else c) % m
theorem pickI_bd (c m : Int) (hm : 0 < m) : 0 ≤ pickI c m ∧ pickI c m < m := by
  unfold pickI
  exact ⟨Int.emod_nonneg _ (by omega), Int.emod_lt_of_pos _ hm⟩
set_option maxHeartbeats 1000000 in
theorem pick_c (v m : Int) (w : World) (hm : 0 < m) (hm2 : m ≤ 1000000) (h0 : -9223372036854775808 ≤ v) (h1 : v ≤ 9223372036854775807) : Calls Tryd.prog 6 #[.int .i64 v, .int .i64 m] w fun e w' => e = .returned (.int .i64 (pickI v m)) ∧ w = w' := by
  have hmz : ¬ m = 0 := by omega
  unfold pickI
  by_cases h : v < 0
  · rw [if_pos h]
    obtain ⟨u, hu⟩ : ∃ u, -(v + 1) = u := ⟨_, rfl⟩
    have u0 : 0 ≤ u := by omega
    have e1 : IntKind.i64.wrap (v + 1) = v + 1 := IntWalk.i64_in _ (by omega)
    have e2 : IntKind.i64.wrap u = u := IntWalk.i64_in _ (by omega)
    have hb : 0 ≤ u % m ∧ u % m < m := ⟨Int.emod_nonneg _ (by omega), Int.emod_lt_of_pos _ hm⟩
    have et : u.tmod m = u % m := Int.tmod_eq_emod_of_nonneg u0
    have e3 : IntKind.i64.wrap (u % m) = u % m := IntWalk.i64_in _ (by omega)
    rw [hu]
    go_enter Tryd.func6, Tryd.ntmps6
    go_wp2_with fail
    go_ret
    exact ⟨rfl, rfl⟩
  · rw [if_neg h]
    have v0 : 0 ≤ v := by omega
    have hb : 0 ≤ v % m ∧ v % m < m := ⟨Int.emod_nonneg _ (by omega), Int.emod_lt_of_pos _ hm⟩
    have et : v.tmod m = v % m := Int.tmod_eq_emod_of_nonneg v0
    have e3 : IntKind.i64.wrap (v % m) = v % m := IntWalk.i64_in _ (by omega)
    go_enter Tryd.func6, Tryd.ntmps6
    go_wp2_with fail
    go_ret
    exact ⟨rfl, rfl⟩
end Go.Proofs.YtgiekhohhogdiaaDoor
/- The fixed calls of the law's package (sane). -/
namespace Go.Proofs.YtgiekhohhogdiaaDoor
open Go Go.RowKit
set_option linter.unusedVariables false
set_option linter.unusedSectionVars false
set_option linter.unusedSimpArgs false

theorem put_v (b g1 g2 B : Nat) (x : Bf) (c f r g : Addr) (off : Int) (s : ByteArray) (fl : Bool) (w : World) (hA : BufAt w b g1 g2 x) (hS : Snt B c f r g w) (hB : B ≤ w.heap.size) (hb : B ≤ b ∧ B ≤ g1 ∧ B ≤ g2) (k : Int) (y : Bf) (hk : x.putC off s.data.toList fl = k) (hy : (bif k == 0 then x.hold off s.data.toList fl else x) = y) :
    Calls Tryd.prog 10 #[.pointer (some ⟨b, 0, none⟩), .int .i64 off, .string s, .bool fl] w fun e w' => e = .returned (.int .i64 k) ∧ BufAt w' b g1 g2 y ∧ Only [b, g1, g2] w w' := by
  subst hk hy
  exact Put_c b g1 g2 B x c f r g off s fl w hA hS hB hb.1 hb.2.1 hb.2.2
theorem read_v (b g1 g2 : Nat) (x : Bf) (w : World) (hA : BufAt w b g1 g2 x) (m : Int) (k : Nat) (o : ByteArray) (z : Bool) (y : Bf) (hk : x.many m = k) (ho : strB (x.out k) = o) (hz : x.last k = z) (hy : x.read k = y) (hp : x.pos + k ≤ 1099511627776) :
    Calls Tryd.prog 11 #[.pointer (some ⟨b, 0, none⟩), .int .i64 m] w fun e w' => e = .returned (.tuple #[.string o, .bool z]) ∧ BufAt w' b g1 g2 y ∧ Only [b, g1, g2] w w' := by
  subst hk ho hz hy
  exact read_c b g1 g2 x w hA m hp
/-- What the walk of a law carries of a world: the sentinels, and that nothing below B has changed. -/
structure Kp (B : Nat) (c f r g : Addr) (w0 w : World) : Prop where
  snt : Snt B c f r g w
  size : B ≤ w.heap.size
  bel : Below B w0 w
theorem Kp.start {w : World} {c f r g : Addr} (h : Snt w.heap.size c f r g w) : Kp w.heap.size c f r g w w := ⟨h, Nat.le_refl _, Below.refl _ _⟩
theorem Kp.only {B : Nat} {c f r g : Addr} {w0 w w' : World} {S : List Nat} (h : Kp B c f r g w0 w) (ho : Only S w w') (hS : ∀ k ∈ S, B ≤ k) : Kp B c f r g w0 w' :=
  ⟨h.snt.below (ho.below hS h.size), Nat.le_trans h.size ho.size, h.bel.trans (ho.below hS h.size)⟩
theorem Kp.buf {B b g1 g2 : Nat} {c f r g : Addr} {w0 w w' : World} (h : Kp B c f r g w0 w) (hb : B ≤ b ∧ B ≤ g1 ∧ B ≤ g2) (ho : Only [b, g1, g2] w w') : Kp B c f r g w0 w' := h.only ho (by simp; omega)
theorem Kp.none {B : Nat} {c f r g : Addr} {w0 w w' : World} (h : Kp B c f r g w0 w) (ho : Only [] w w') : Kp B c f r g w0 w' := h.only ho (by simp)
def sx0 : Bf := Bf.new 10
def sx1 : Bf := sx0.hold 3 [100, 101, 102] false
theorem sy1 : sx0.putC 3 [100, 101, 102] false = 0 := by kernel_rfl
def sx2 : Bf := sx1.hold 0 [97, 98, 99, 100] false
theorem sy2 : sx1.putC 0 [97, 98, 99, 100] false = 0 := by kernel_rfl
theorem sy3 : sx2.putC 1 [120] false = 160 := by kernel_rfl
theorem sy4 : sx2.ready = 6 := by kernel_rfl
theorem sy5 : sx2.putC 9 [106, 107] false = 162 := by kernel_rfl
def sx3 : Bf := sx2.read 6
theorem sy6 : sx2.many 9 = 6 := by kernel_rfl
theorem so6 : strB (sx2.out 6) = ⟨#[97, 98, 99, 100, 101, 102]⟩ := by kernel_rfl
theorem sz6 : sx2.last 6 = false := by kernel_rfl
theorem sp6 : sx2.pos + 6 ≤ 1099511627776 := of_decide_eq_true (by kernel_rfl)
def sx4 : Bf := sx3.hold 6 [103] true
theorem sy7 : sx3.putC 6 [103] true = 0 := by kernel_rfl
theorem sy8 : sx4.putC 6 [103, 104] false = 161 := by kernel_rfl
def sx5 : Bf := sx4.read 1
theorem sy9 : sx4.many 9 = 1 := by kernel_rfl
theorem so9 : strB (sx4.out 1) = ⟨#[103]⟩ := by kernel_rfl
theorem sz9 : sx4.last 1 = true := by kernel_rfl
theorem sp9 : sx4.pos + 1 ≤ 1099511627776 := of_decide_eq_true (by kernel_rfl)
theorem sf1 : sx5.fin = 7 ∧ sx5.kn = true ∧ sx5.pos = 7 ∧ sx5.hi = 7 := ⟨by kernel_rfl, by kernel_rfl, by kernel_rfl, by kernel_rfl⟩
set_option maxRecDepth 100000 in
set_option maxHeartbeats 4000000 in
theorem sane_c (B : Nat) (c f r g : Addr) (w0 w : World) (hK : Kp B c f r g w0 w) : Calls Tryd.prog 4 #[] w fun e w' => e = .returned (.bool true) ∧ Kp B c f r g w0 w' := by
  have HK := Lib.hid hK; clear hK
  go_enter Tryd.func4, Tryd.ntmps4
  go_wp2_with fail
  refine (new_c 10 _ (by omega) (by omega)).mono ?_
  rintro e wa ⟨b, g1, g2, rfl, hA, ho, q0, q1, q2⟩
  have HB : Hid (B ≤ b ∧ B ≤ g1 ∧ B ≤ g2) := Lib.hid (by have := HK.out.size; omega)
  have HA : Hid (BufAt wa b g1 g2 sx0) := Lib.hid hA
  replace HK := Lib.hid (HK.out.none ho)
  clear hA ho q0 q1 q2
  go_wp2_with fail
  refine (new_bad 0 _ (by omega)).mono ?_
  rintro e wb ⟨rfl, rfl⟩
  go_wp2_with fail
  refine (put_v b g1 g2 B sx0 c f r g 3 ⟨#[100, 101, 102]⟩ false _ HA.out HK.out.snt HK.out.size HB.out 0 sx1 sy1 rfl).mono ?_
  rintro e w1 ⟨rfl, hA, ho⟩
  replace HA := Lib.hid hA
  replace HK := Lib.hid (HK.out.buf HB.out ho)
  clear hA ho
  go_wp2_with fail
  refine (put_v b g1 g2 B sx1 c f r g 0 ⟨#[97, 98, 99, 100]⟩ false _ HA.out HK.out.snt HK.out.size HB.out 0 sx2 sy2 rfl).mono ?_
  rintro e w2 ⟨rfl, hA, ho⟩
  replace HA := Lib.hid hA
  replace HK := Lib.hid (HK.out.buf HB.out ho)
  clear hA ho
  go_wp2_with fail
  refine (put_v b g1 g2 B sx2 c f r g 1 ⟨#[120]⟩ false _ HA.out HK.out.snt HK.out.size HB.out 160 sx2 sy3 rfl).mono ?_
  rintro e w3 ⟨rfl, hA, ho⟩
  replace HA := Lib.hid hA
  replace HK := Lib.hid (HK.out.buf HB.out ho)
  clear hA ho
  go_wp2_with fail
  refine (ready_c b g1 g2 sx2 _ HA.out).mono ?_
  rintro e w4 ⟨rfl, rfl⟩
  rw [sy4]
  go_wp2_with fail
  refine (put_v b g1 g2 B sx2 c f r g 9 ⟨#[106, 107]⟩ false _ HA.out HK.out.snt HK.out.size HB.out 162 sx2 sy5 rfl).mono ?_
  rintro e w5 ⟨rfl, hA, ho⟩
  replace HA := Lib.hid hA
  replace HK := Lib.hid (HK.out.buf HB.out ho)
  clear hA ho
  go_wp2_with fail
  refine (read_v b g1 g2 sx2 _ HA.out 9 6 ⟨#[97, 98, 99, 100, 101, 102]⟩ false sx3 sy6 so6 sz6 rfl sp6).mono ?_
  rintro e w6 ⟨rfl, hA, ho⟩
  replace HA := Lib.hid hA
  replace HK := Lib.hid (HK.out.buf HB.out ho)
  clear hA ho
  go_wp2_with fail
  refine (put_v b g1 g2 B sx3 c f r g 6 ⟨#[103]⟩ true _ HA.out HK.out.snt HK.out.size HB.out 0 sx4 sy7 rfl).mono ?_
  rintro e w7 ⟨rfl, hA, ho⟩
  replace HA := Lib.hid hA
  replace HK := Lib.hid (HK.out.buf HB.out ho)
  clear hA ho
  go_wp2_with fail
  refine (put_v b g1 g2 B sx4 c f r g 6 ⟨#[103, 104]⟩ false _ HA.out HK.out.snt HK.out.size HB.out 161 sx4 sy8 rfl).mono ?_
  rintro e w8 ⟨rfl, hA, ho⟩
  replace HA := Lib.hid hA
  replace HK := Lib.hid (HK.out.buf HB.out ho)
  clear hA ho
  go_wp2_with fail
  refine (read_v b g1 g2 sx4 _ HA.out 9 1 ⟨#[103]⟩ true sx5 sy9 so9 sz9 rfl sp9).mono ?_
  rintro e w9 ⟨rfl, hA, ho⟩
  replace HA := Lib.hid hA
  replace HK := Lib.hid (HK.out.buf HB.out ho)
  clear hA ho
  go_wp2_with fail
  refine (final_c b g1 g2 sx5 _ HA.out).mono ?_
  rintro e wf ⟨rfl, hA, ho⟩
  replace HA := Lib.hid hA
  replace HK := Lib.hid (HK.out.none ho)
  clear hA ho
  rw [sf1.1, sf1.2.1]
  go_wp2_with fail
  refine (offset_c b g1 g2 sx5 _ HA.out).mono ?_
  rintro e wo ⟨rfl, rfl⟩
  rw [sf1.2.2.1]
  go_wp2_with fail
  refine (highest_c b g1 g2 sx5 _ HA.out).mono ?_
  rintro e wo ⟨rfl, rfl⟩
  rw [sf1.2.2.2]
  go_wp2_with fail
  go_ret
  exact ⟨rfl, HK.out⟩
end Go.Proofs.YtgiekhohhogdiaaDoor
/- Pieces of the test data, what Put answers where the bytes agree. -/
namespace Go.Proofs.YtgiekhohhogdiaaDoor
open Go Go.RowKit
set_option linter.unusedVariables false
set_option linter.unusedSectionVars false
set_option linter.unusedSimpArgs false

theorem pick_v (v m : Int) (k : Nat) (w : World) (hk : pickI v m = k) (hm : 0 < m) (hm2 : m ≤ 1000000) (hw : (Lit.int .i64 v).wf = true) : Calls Tryd.prog 6 #[.int .i64 v, .int .i64 m] w fun e w' => e = .returned (.int .i64 k) ∧ w = w' := by
  have h2 := wf_i64 hw
  have := pick_c v m w hm hm2 (by omega) (by omega)
  rw [hk] at this
  exact this
theorem pick_nat (v m : Int) (hm : 0 < m) : ∃ k : Nat, pickI v m = k ∧ (k : Int) < m :=
  ⟨(pickI v m).toNat, by have := pickI_bd v m hm; omega, by have := pickI_bd v m hm; omega⟩
/-- The string of n bytes of the test data from f on. -/
def cutS (f n : Nat) : ByteArray := strB (cutT txt f n)
theorem cutS_size (f n : Nat) : (cutS f n).size = n := by unfold cutS; rw [strB_size, cutT_len]
theorem cutS_list (f n : Nat) : (cutS f n).data.toList = cutT txt f n := strB_list _
theorem txtS_cut (N : Nat) : txtS N = cutS 0 N := by unfold txtS cutS cutT; simp
theorem txtS_size (N : Nat) : (txtS N).size = N := by rw [txtS_cut, cutS_size]
theorem ext_strB (l : List UInt8) (a b : Nat) : (strB l).extract a b = strB ((l.drop a).take (b - a)) := by
  apply ByteArray.ext
  simp [strB, ByteArray.data_extract, List.extract_eq_take_drop]
theorem cutT_sub (f n a m : Nat) (h : a + m ≤ n) : ((cutT txt f n).drop a).take m = cutT txt (f + a) m := by
  unfold cutT
  apply List.ext_getElem
  · simp; omega
  · intro i h1 h2
    simp [Nat.add_assoc]
theorem cutS_ext (f n a m : Nat) (h : a + m ≤ n) : (cutS f n).extract a (a + m) = cutS (f + a) m := by
  unfold cutS
  rw [ext_strB, show a + m - a = m by omega, cutT_sub f n a m h]
theorem txtS_ext (N a m : Nat) (h : a + m ≤ N) : (txtS N).extract a (a + m) = cutS a m := by rw [txtS_cut, cutS_ext 0 N a m h, Nat.zero_add]
theorem slice_txt (N a m : Nat) (h : a + m ≤ N) (w : World) : (Instr.slice 9 (.string (txtS N)) (some (.int .i64 a)) (some (.int .i64 (a + m : Int))) none).run Tryd.prog w = .ok (.string (cutS a m)) w := by
  rw [run_slice_string_if w 9 _ _ _ _ _ Tryd.underlying9]
  have hs := txtS_size N
  have e1 : ((a : Int) + m).toNat = a + m := by omega
  rw [if_pos (by rw [hs]; omega), if_pos (by omega), e1, Int.toNat_natCast, txtS_ext N a m h]
/-- The bytes that are held are those of the test data. -/
structure Tx (b : Bf) : Prop where
  p0 : 0 ≤ b.pos
  bytes : ∀ k : Nat, k < b.n → b.H k = true → b.B k = txt (b.pos.toNat + k)
theorem Tx.new (n : Nat) : Tx (Bf.new n) := ⟨by simp [Bf.new], fun k _ h => by simp [Bf.new] at h⟩
theorem Tx.agr {b : Bf} (h : Tx b) (f n : Nat) : b.agrB f (cutT txt f n) = true := by
  rw [Bf.agrB_iff]
  intro i k hi he hk hH
  rw [cutT_len] at hi
  have := h.p0
  rw [cutT_get txt f n i hi, h.bytes k hk hH]
  congr 1; omega
theorem Tx.hold {b : Bf} (h : Tx b) (f n : Nat) (z : Bool) : Tx (b.hold f (cutT txt f n) z) := by
  refine ⟨h.p0, fun k hk hH => ?_⟩
  have p0 := h.p0
  simp only [Bf.hold, cutT_len] at hH hk ⊢
  by_cases c : (f : Int) ≤ b.pos + k ∧ b.pos + k < (f : Int) + n
  · rw [if_pos c, cutT_get txt f n _ (by omega)]
    congr 1; omega
  · rw [if_neg c] at hH ⊢
    exact h.bytes k hk hH
theorem Tx.read {b : Bf} (h : Tx b) (c : Nat) : Tx (b.read c) := by
  refine ⟨by have := h.p0; simp only [Bf.read]; omega, fun k hk hH => ?_⟩
  have p0 := h.p0
  simp only [Bf.read] at hH hk ⊢
  by_cases e : k + c < b.n
  · rw [if_pos e] at hH ⊢
    rw [h.bytes _ e hH]
    congr 1; omega
  · rw [if_neg e] at hH; cases hH
/-- What Put answers where the piece is in range and the bytes agree. -/
theorem putC_agr (b : Bf) (off : Int) (s : List UInt8) (f : Bool) (h : b.agrB off s = true) (a0 : 0 ≤ off) (a1 : off ≤ 1000000) (a2 : s.length ≤ 8192) :
    b.putC off s f = bif b.finB (off + s.length) f then (bif decide (off + s.length ≤ b.pos + b.n) then 0 else 162) else 161 := by
  unfold Bf.putC
  rw [(Bf.argB_iff off s.length).2 ⟨a0, by omega, a2, by omega⟩, h]
  rfl
theorem Tx.put {b : Bf} (h : Tx b) (f n : Nat) (z : Bool) (a1 : f ≤ 1000000) (a2 : n ≤ 8192) :
    b.putC f (cutS f n).data.toList z = bif b.finB (f + n) z then (bif decide ((f : Int) + n ≤ b.pos + b.n) then 0 else 162) else 161 := by
  rw [cutS_list, putC_agr b f _ z (h.agr f n) (by omega) (by omega) (by rw [cutT_len]; exact a2), cutT_len]
theorem Tx.put_ok {b : Bf} (h : Tx b) (f n : Nat) (z : Bool) (a1 : f ≤ 1000000) (a2 : n ≤ 8192) (h1 : b.finOk (f + n) z) (h2 : (f : Int) + n ≤ b.pos + b.n) : b.putC f (cutS f n).data.toList z = 0 := by
  rw [h.put f n z a1 a2, (Bf.finB_iff _ _ _).2 h1, decide_eq_true h2]; rfl
theorem Tx.put_fin {b : Bf} (h : Tx b) (f n : Nat) (z : Bool) (a1 : f ≤ 1000000) (a2 : n ≤ 8192) (h1 : ¬ b.finOk (f + n) z) : b.putC f (cutS f n).data.toList z = 161 := by
  rw [h.put f n z a1 a2, show b.finB (f + n) z = false from Bool.eq_false_iff.2 (fun hh => h1 ((Bf.finB_iff _ _ _).1 hh))]; rfl
theorem Tx.put_room {b : Bf} (h : Tx b) (f n : Nat) (z : Bool) (a1 : f ≤ 1000000) (a2 : n ≤ 8192) (h1 : b.finOk (f + n) z) (h2 : ¬ (f : Int) + n ≤ b.pos + b.n) : b.putC f (cutS f n).data.toList z = 162 := by
  rw [h.put f n z a1 a2, (Bf.finB_iff _ _ _).2 h1, decide_eq_false h2]; rfl
end Go.Proofs.YtgiekhohhogdiaaDoor
