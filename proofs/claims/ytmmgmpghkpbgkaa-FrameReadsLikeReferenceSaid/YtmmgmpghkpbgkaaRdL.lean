/- Plain law of generated ranges: they are as they should be. -/
import Derived.Test.YtmmgmpghkpbgkaaFrG
import Derived.Test.YtmmgmpghkpbgkaaFrF
import Derived.Deep.LoopGhost
import Derived.Lib.AppendZeros
import Derived.Test.YtmmgmpghkpbgkaaFrJ
import Derived.Test.YtmmgmpghkpbgkaaRdA
namespace Go.Proofs.Ytmmgmpghkpbgkaa
open Go.RowKit
set_option linter.unusedVariables false
set_option linter.unusedSimpArgs false

theorem RgOk.snoc {f t : Int} (h0 : 0 ≤ f) (h1 : f < t) (h2 : t ≤ 281474976710656) (L : List (Int × Int)) : ∀ {fr : Int}, RgOk fr L → (∀ q, L.getLast? = some q → t < q.1) → (L = [] → t < fr) → RgOk fr (L ++ [(f, t)]) := by
  induction L with
  | nil => intro fr _ _ hn; exact ⟨h0, h1, h2, hn rfl, trivial⟩
  | cons p r ih =>
    obtain ⟨a, b⟩ := p
    intro fr h hq _
    obtain ⟨k1, k2, k3, k4, k5⟩ := h
    refine ⟨k1, k2, k3, k4, ih k5 (fun q hq' => hq q ?_) (fun hr => ?_)⟩
    · cases r with
      | nil => cases hq'
      | cons x y => simpa using hq'
    · subst hr
      exact hq (a, b) rfl
/-- The ranges that RangesFrom has built when the next one ends at to. -/
structure RfInv (k : Nat) (L : List (Int × Int)) (tO : Int) : Prop where
  len : L.length = k
  ok : RgOk 281474976710658 L
  top : tO ≤ 1073741824
  low : -1000 ≤ tO
  last : ∀ q, L.getLast? = some q → tO < q.1
  one : k = 0 → 1 ≤ tO
theorem RfInv.start {x : Int} (h0 : 0 ≤ x) (h1 : x < 1073741824) : RfInv 0 [] (1 + x) := ⟨rfl, trivial, by omega, by omega, fun q h => (by cases h), fun _ => by omega⟩
theorem RfInv.step {k : Nat} {L : List (Int × Int)} {tO x y f : Int} (h : RfInv k L tO) (ht : 0 < tO) (hx : 0 ≤ x) (hx2 : x < 20) (hy : 0 ≤ y) (hy2 : y < 20) (hf : f = if tO - 1 - x < 0 then 0 else tO - 1 - x) : RfInv (k + 1) (L ++ [(f, tO)]) (f - 1 - y) := by
  have hf0 : 0 ≤ f ∧ f < tO := by rw [hf]; split <;> omega
  have := h.top
  refine ⟨by simp [h.len], h.ok.snoc hf0.1 hf0.2 (by omega) L h.last (fun _ => by omega), by omega, by omega, fun q hq => ?_, fun hk => by omega⟩
  rw [List.getLast?_append] at hq
  simp at hq
  subst hq
  show f - 1 - y < f
  omega
end Go.Proofs.Ytmmgmpghkpbgkaa
/- Contracts of the law's helpers: pick, RangesFrom. -/
namespace Go.Proofs.Ytmmgmpghkpbgkaa
open Go Go.RowKit
set_option linter.unusedVariables false
set_option linter.unusedSimpArgs false

theorem pk9 (c n : Int) (w : World) (h1 : -9223372036854775808 ≤ c) (h2 : c ≤ 9223372036854775807) (hn : 0 < n) :
    Calls Try.prog 25 #[.int .i64 c, .int .i64 n] w fun e w' => e = .returned (.int .i64 (pkZ c n)) ∧ w = w' := by
  have e1 : c < 0 → -((c + 1).tmod n) = pkZ c n := by
    intro h; unfold pkZ; rw [if_pos h]; rw [← Int.neg_tmod]; exact Int.tmod_eq_emod_of_nonneg (by omega)
  have e2 : 0 ≤ c → c % n = pkZ c n := by
    intro h; unfold pkZ; rw [if_neg (by omega)]
  have E1 := Lib.hid e1
  have E2 := Lib.hid e2
  clear e1 e2
  by_cases hc : c < 0
  · go_enter Try.func25, Try.ntmps25
    go_wp2
    go_ret
    exact ⟨ret_int (E1.out hc), rfl⟩
  · go_enter Try.func25, Try.ntmps25
    go_wp2
    go_ret
    exact ⟨ret_int (E2.out (by omega)), rfl⟩
theorem RgO.shape {w : World} {base : Nat} {v : Value} {L : List (Int × Int)} (h : RgO w base v L) : ∃ a cap, v = .slice a L.length cap := by
  rcases h.2 with ⟨rfl, h2⟩ | ⟨g, cap, cur, rfl, _⟩
  · rw [h2]; exact ⟨_, _, rfl⟩
  · exact ⟨_, _, rfl⟩
def RfRel (w : World) (gk : Nat) (tv ov iv : Value) (wr : World) : Prop := ∃ (k : Nat) (L : List (Int × Int)) (tz : Int), gk = 16 - k ∧ k ≤ 16 ∧ iv = .int .i64 k ∧ tv = .int .i64 tz ∧ Hid (RfInv k L tz) ∧ Hid (RgO wr w.heap.size ov L) ∧ Hid (Only [] w wr)
set_option maxRecDepth 100000 in
set_option maxHeartbeats 4000000 in
theorem rangesFrom_c (av : Value) (A : List (Int × Int)) (lg : Int) (w : World) (hA : RgAt w av A) (h1 : -9223372036854775808 ≤ lg) (h2 : lg ≤ 9223372036854775807) :
    Calls Try.prog 31 #[av, .int .i64 lg] w fun e w' => ∃ rv R, e = .returned rv ∧ RgO w' w.heap.size rv R ∧ R ≠ [] ∧ R.length ≤ 16 ∧ RgOk 281474976710658 R ∧ Only [] w w' := by
  obtain ⟨a, cap, rfl, hcs⟩ := hA
  have hp := pkZ_bd lg 1073741824 (by omega)
  obtain ⟨q, hq⟩ : ∃ q, pkZ lg 1073741824 = q := ⟨_, rfl⟩
  have hpk := fun ww => pk9 lg 1073741824 ww h1 h2 (by omega)
  rw [hq] at hp hpk
  clear hq
  go_enter Try.func31, Try.ntmps31
  go_wp2_with fail
  refine (hpk _).mono ?_
  rintro e w1 ⟨rfl, rfl⟩
  have e0 : IntKind.i64.wrap (1 + q) = 1 + q := IntWalk.i64_in _ (by omega)
  go_wp2_with fail
  go_loopg [5, 6, 7] 16 (fun gk tv ov iv wr => RfRel w gk tv ov iv wr)
  case atStart => exact ⟨0, [], _, rfl, by omega, rfl, rfl, Lib.hid (RfInv.start hp.1 hp.2), Lib.hid ⟨rfl, .inl ⟨rfl, rfl⟩⟩, Lib.hid (Only.refl _ _)⟩
  case round =>
    obtain ⟨k, L, tz, rfl, hk, rfl, rfl, hI, hG, hO⟩ := hrel
    obtain ⟨ga, gc, rfl⟩ := hG.out.shape
    have hto := hI.out.top
    have htl := hI.out.low
    by_cases hin : k < A.length ∧ k < 16 ∧ 0 < tz
    · obtain ⟨hk1, hk2, ht⟩ := hin
      obtain ⟨g, off, rfl, hg, c1, c2, r1, r2⟩ := hcs k hk1
      obtain ⟨X, hX⟩ : ∃ X, (A[k]'hk1).1 = X := ⟨_, rfl⟩
      obtain ⟨Y, hY⟩ : ∃ Y, (A[k]'hk1).2 = Y := ⟨_, rfl⟩
      rw [hX] at c1 r1
      rw [hY] at c2 r2
      have c1' : wr.cell? ⟨g, off + k * 2, none⟩ = some (.int .i64 X) := (hO.out.cell (p := ⟨g, off + k * 2, none⟩) hg (by simp)).trans c1
      have c2' : wr.cell? ⟨g, off + k * 2 + 1, none⟩ = some (.int .i64 Y) := (hO.out.cell (p := ⟨g, off + k * 2 + 1, none⟩) hg (by simp)).trans c2
      clear c1 c2 hX hY hcs
      have b1 := pkZ_bd X 20 (by omega)
      have b2 := pkZ_bd Y 20 (by omega)
      have hx := fun ww => pk9 X 20 ww r1.1 r1.2 (by omega)
      have hy := fun ww => pk9 Y 20 ww r2.1 r2.2 (by omega)
      obtain ⟨x, ex⟩ : ∃ x, pkZ X 20 = x := ⟨_, rfl⟩
      obtain ⟨y, ey⟩ : ∃ y, pkZ Y 20 = y := ⟨_, rfl⟩
      rw [ex] at b1 hx
      rw [ey] at b2 hy
      clear ex ey
      obtain ⟨f, hf⟩ : ∃ f, max (tz - 1 - x) 0 = f := ⟨_, rfl⟩
      have hf0 : 0 ≤ f ∧ f < tz := by omega
      have hI2 := Lib.hid (hI.out.step ht b1.1 b1.2 b2.1 b2.2 (f := f) (by split <;> omega))
      have hk1' : (k : Int) < A.length := by omega
      have hk2' : (k : Int) < 16 := by omega
      obtain ⟨v', w5, eA, hG5, hB5, hkp⟩ := hG.out.append (f, tz) (by have := hI.out.len; omega) hO.out.size
      obtain ⟨va, vc, rfl⟩ : ∃ va vc, v' = .slice va (L ++ [(f, tz)]).length vc := hG5.shape
      have HG5 := Lib.hid hG5
      have HO5 : Hid (Only [] w w5) := Lib.hid (only_bl hO.out hB5)
      clear hG5 hB5 hkp
      have c2'' : w5.cell? ⟨g, off + k * 2 + 1, none⟩ = some (.int .i64 Y) := (HO5.out.cell (p := ⟨g, off + k * 2 + 1, none⟩) hg (by simp)).trans ((hO.out.cell (p := ⟨g, off + k * 2 + 1, none⟩) hg (by simp)).symm.trans c2')
      go_wp2_with (at_builtin; refine Lib.wpList_append_run _ rfl _ _ _ _ rfl _ _ rfl rfl _ _ (eA _) ?_)
      refine (hx _).mono ?_
      rintro e w4 ⟨rfl, rfl⟩
      go_wp2_with (at_builtin; refine Lib.wpList_append_run _ rfl _ _ _ _ rfl _ _ rfl rfl _ _ (eA _) ?_)
      refine (hy _).mono ?_
      rintro e w4 ⟨rfl, rfl⟩
      go_wp2_with fail
      go_roundg (16 - (k + 1))
      case measure => omega
      case rel => exact ⟨k + 1, L ++ [(f, tz)], _, rfl, by omega, by simp <;> omega, rfl, hI2, Lib.hid (by simpa using HG5.out), HO5⟩
    · clear hpk
      have hI0 := hI
      have hn : Hid (k ≠ 0 ∨ (k = 0 ∧ L = [] ∧ 1 ≤ tz)) := Lib.hid (by
        by_cases h0 : k = 0
        · exact .inr ⟨h0, List.length_eq_zero_iff.1 (by rw [hI.out.len, h0]), hI.out.one h0⟩
        · exact .inl h0)
      by_cases h0 : k = 0
      · obtain ⟨_, hL, ht1⟩ := hn.out.resolve_left (fun h => h h0)
        subst h0 hL
        have hA0 : ¬ (0 : Int) < A.length := by
          intro h
          exact hin ⟨by omega, by omega, by omega⟩
        obtain ⟨v', w5, eA, hG5, hB5, hkp⟩ := hG.out.append (tz - 1, tz) (by simp) hO.out.size
        obtain ⟨va, vc, rfl⟩ : ∃ va vc, v' = .slice va ([] ++ [(tz - 1, tz)]).length vc := hG5.shape
        have HG5 := Lib.hid hG5
        have HO5 : Hid (Only [] w w5) := Lib.hid (only_bl hO.out hB5)
        clear hG5 hB5 hkp
        go_wp2_with (at_builtin; refine Lib.wpList_append_run _ rfl _ _ _ _ rfl _ _ rfl rfl _ _ (eA _) ?_)
        go_ret
        exact ⟨_, rfl, [(tz - 1, tz)], by simpa using HG5.out, by simp, by simp, ⟨by show 0 ≤ tz - 1; omega, by show tz - 1 < tz; omega, by show tz ≤ _; omega, by show tz < _; omega, trivial⟩, HO5.out⟩
      · have hL0 : (L.length : Int) ≠ 0 := by have := hI.out.len; omega
        have hL1 : ((L.length : Int) == 0) = false := beq_eq_false_iff_ne.2 hL0
        have HF : Hid (L ≠ [] ∧ L.length ≤ 16 ∧ RgOk 281474976710658 L) := Lib.hid ⟨fun e => by rw [e] at hL0; simp at hL0, by have := hI.out.len; omega, hI.out.ok⟩
        by_cases hk1 : (k : Int) < A.length
        · by_cases hk2 : (k : Int) < 16
          · have ht : ¬ 0 < tz := fun h => hin ⟨by omega, by omega, h⟩
            clear hin hI0 hn hI
            obtain ⟨g, off, rfl, hrest⟩ := hcs k (by omega)
            clear hrest hcs
            go_wp2_with fail
            go_ret
            exact ⟨_, rfl, _, hG.out, HF.out.1, HF.out.2.1, HF.out.2.2, hO.out⟩
          · clear hin hI0 hn hI
            obtain ⟨g, off, rfl, hrest⟩ := hcs k (by omega)
            clear hrest hcs
            go_wp2_with fail
            go_ret
            exact ⟨_, rfl, _, hG.out, HF.out.1, HF.out.2.1, HF.out.2.2, hO.out⟩
        · clear hin hI0 hn hI hcs
          go_wp2_with fail
          go_ret
          exact ⟨_, rfl, _, hG.out, HF.out.1, HF.out.2.1, HF.out.2.2, hO.out⟩
end Go.Proofs.Ytmmgmpghkpbgkaa
/- Contracts of the law's helpers: FrameFrom, type by type. -/
namespace Go.Proofs.Ytmmgmpghkpbgkaa
open Go Go.RowKit
set_option linter.unusedVariables false
set_option linter.unusedSimpArgs false

/-- The cells of the parameters of a generated frame. -/
def fpC (ty A B C : Int) (s : ByteArray) (fin : Bool) (sv : Value) : Array Value := #[.int .i64 ty, .int .i64 A, .int .i64 B, .int .i64 C, .string s, .bool fin, sv]
def few (s : ByteArray) : List UInt8 := s.data.toList.take 60
theorem few_len (s : ByteArray) : (few s).length ≤ 60 := by unfold few; rw [List.length_take]; omega
theorem few_str (s : ByteArray) (n : Nat) (h : n = min s.size 60) : s.extract 0 n = strB (few s) := by
  subst h
  rw [ext_list]
  unfold few
  rw [List.drop_zero, Nat.sub_zero]
  congr 1
  rw [← size_list s]
  rcases Nat.le_total s.data.toList.length 60 with h | h
  · rw [Nat.min_eq_left h, List.take_length, List.take_of_length_le h]
  · rw [Nat.min_eq_right h]
/-- The frame, and where it lies. -/
def FfQ (T A B C : Int) (s : ByteArray) (fin : Bool) (w : World) (e : Ending) (w' : World) : Prop := ∃ rv R, e = .returned (.agg (frC (genF T A B C (few s) fin R) rv)) ∧ RgAt w' rv (genF T A B C (few s) fin R).rg ∧ RgNew w.heap.size rv ∧
  (R ≠ [] ∧ R.length ≤ 16 ∧ RgOk 281474976710658 R) ∧ Only [] w w'
theorem FfQ.plain {T A B C : Int} {s : ByteArray} {fin : Bool} {w w' : World} {v : Value} (f : Fr) (hf : genF T A B C (few s) fin [(0, 1)] = f) (hr : f.rg = []) (ho : Only [] w w') (hv : v = .agg (frC f (.slice none 0 0))) : FfQ T A B C s fin w (.returned v) w' :=
  ⟨.slice none 0 0, [(0, 1)], by rw [hf, hv], by rw [hf, hr]; exact RgAt.nil _, RgNew.nil _, ⟨by simp, by simp, ⟨by omega, by omega, by omega, by omega, trivial⟩⟩, ho⟩
/-- The blocks of FrameFrom: the parameters, the result, the types. -/
def ffZ : Array Value := #[.int .i64 0, .int .i64 0, .int .i64 0, .string ⟨#[]⟩, .bool false, .int .i64 0, .int .i64 0, .bool false, .int .i64 0, .slice none 0 0, .int .i64 0, .int .i64 0, .string ⟨#[]⟩]
def ffT : Array Value := #[.int .i64 0, .int .i64 1, .int .i64 2, .int .i64 4, .int .i64 5, .int .i64 6, .int .i64 7, .int .i64 8, .int .i64 16, .int .i64 17, .int .i64 18, .int .i64 20, .int .i64 21, .int .i64 22, .int .i64 24, .int .i64 25, .int .i64 26, .int .i64 27, .int .i64 28, .int .i64 29, .int .i64 30]
def ffW (w : World) (cs : Array Value) : World := ((w.alloc (.cells cs 46)).alloc (.cells ffZ 33)).alloc (.cells ffT 3)
theorem ffW_facts (w : World) (cs : Array Value) : At (ffW w cs) w.heap.size 46 cs ∧ At (ffW w cs) (w.heap.size + 1) 33 ffZ ∧ At (ffW w cs) (w.heap.size + 1 + 1) 3 ffT ∧ Only [] w (ffW w cs) := by
  have h2 := At.new (w.alloc (.cells cs 46)) 33 ffZ
  have h3 := At.new ((w.alloc (.cells cs 46)).alloc (.cells ffZ 33)) 3 ffT
  rw [World.size_alloc] at h2
  rw [World.size_alloc, World.size_alloc] at h3
  exact ⟨((At.new w _ _).alloc _).alloc _, h2.alloc _, h3, (((Only.refl [] w).alloc _).alloc _).alloc _⟩
/-- What stands while the frame is filled. -/
structure FfS (w : World) (p z b : Nat) (cs fc : Array Value) (wr : World) : Prop where
  pr : At wr p 46 cs
  zr : At wr z 33 ffZ
  fr : At wr b 33 fc
  ho : Only [] w wr
  n1 : p ≠ b
  n2 : z ≠ b
  n3 : w.heap.size ≤ b
  n4 : w.heap.size ≤ z
theorem FfS.start (w w2 : World) (cs fc : Array Value) (h : ffW w cs = w2) : FfS w w.heap.size (w.heap.size + 1) w2.heap.size cs fc (w2.alloc (.cells fc 33)) := by
  subst h
  obtain ⟨h1, h2, h3, h4⟩ := ffW_facts w cs
  have := h1.lt; have := h2.lt; have := h4.size
  exact ⟨h1.alloc _, h2.alloc _, At.new _ _ _, h4.alloc _, by omega, by omega, by omega, by omega⟩
theorem FfS.store {w : World} {p z b : Nat} {cs fc fc' : Array Value} {wr : World} (h : FfS w p z b cs fc wr) (k : Nat) (v : Value) (e : fc.setIfInBounds k v = fc') : FfS w p z b cs fc' (wr.setCell ⟨b, k, none⟩ v) :=
  ⟨h.pr.far h.n1 v, h.zr.far h.n2 v, h.fr.set k v e, h.ho.putn h.n3 v, h.n1, h.n2, h.n3, h.n4⟩
theorem FfS.call {w : World} {p z b : Nat} {cs fc : Array Value} {wr w' : World} (h : FfS w p z b cs fc wr) (ho : Only [] wr w') : FfS w p z b cs fc w' :=
  ⟨h.pr.keep ho (by simp), h.zr.keep ho (by simp), h.fr.keep ho (by simp), h.ho.trans ho, h.n1, h.n2, h.n3, h.n4⟩
def ffH (wr : World) (z : Nat) (a0 a1 a2 a3 a4 a5 a6 a7 a8 a9 a10 a11 a12 : Value) : World := ((((((((((((wr.setCell ⟨z, 0, none⟩ a0).setCell ⟨z, 1, none⟩ a1).setCell ⟨z, 2, none⟩ a2).setCell ⟨z, 3, none⟩ a3).setCell ⟨z, 4, none⟩ a4).setCell ⟨z, 5, none⟩ a5).setCell ⟨z, 6, none⟩ a6).setCell ⟨z, 7, none⟩ a7).setCell ⟨z, 8, none⟩ a8).setCell ⟨z, 9, none⟩ a9).setCell ⟨z, 10, none⟩ a10).setCell ⟨z, 11, none⟩ a11).setCell ⟨z, 12, none⟩ a12
theorem FfS.hand {w : World} {p z b : Nat} {cs : Array Value} {a0 a1 a2 a3 a4 a5 a6 a7 a8 a9 a10 a11 a12 : Value} {wr : World} (h : FfS w p z b cs #[a0, a1, a2, a3, a4, a5, a6, a7, a8, a9, a10, a11, a12] wr) : At (ffH wr z a0 a1 a2 a3 a4 a5 a6 a7 a8 a9 a10 a11 a12) z 33 #[a0, a1, a2, a3, a4, a5, a6, a7, a8, a9, a10, a11, a12] ∧ Only [] w (ffH wr z a0 a1 a2 a3 a4 a5 a6 a7 a8 a9 a10 a11 a12) :=
  by
  refine ⟨?_, (((((((((((((h.ho.putn h.n4 a0).putn h.n4 a1).putn h.n4 a2).putn h.n4 a3).putn h.n4 a4).putn h.n4 a5).putn h.n4 a6).putn h.n4 a7).putn h.n4 a8).putn h.n4 a9).putn h.n4 a10).putn h.n4 a11).putn h.n4 a12)⟩
  have h0 := h.zr
  unfold ffH
  have h1 := h0.set 0 a0 (cs' := #[a0, .int .i64 0, .int .i64 0, .string ⟨#[]⟩, .bool false, .int .i64 0, .int .i64 0, .bool false, .int .i64 0, .slice none 0 0, .int .i64 0, .int .i64 0, .string ⟨#[]⟩]) rfl
  have h2 := h1.set 1 a1 (cs' := #[a0, a1, .int .i64 0, .string ⟨#[]⟩, .bool false, .int .i64 0, .int .i64 0, .bool false, .int .i64 0, .slice none 0 0, .int .i64 0, .int .i64 0, .string ⟨#[]⟩]) rfl
  have h3 := h2.set 2 a2 (cs' := #[a0, a1, a2, .string ⟨#[]⟩, .bool false, .int .i64 0, .int .i64 0, .bool false, .int .i64 0, .slice none 0 0, .int .i64 0, .int .i64 0, .string ⟨#[]⟩]) rfl
  have h4 := h3.set 3 a3 (cs' := #[a0, a1, a2, a3, .bool false, .int .i64 0, .int .i64 0, .bool false, .int .i64 0, .slice none 0 0, .int .i64 0, .int .i64 0, .string ⟨#[]⟩]) rfl
  have h5 := h4.set 4 a4 (cs' := #[a0, a1, a2, a3, a4, .int .i64 0, .int .i64 0, .bool false, .int .i64 0, .slice none 0 0, .int .i64 0, .int .i64 0, .string ⟨#[]⟩]) rfl
  have h6 := h5.set 5 a5 (cs' := #[a0, a1, a2, a3, a4, a5, .int .i64 0, .bool false, .int .i64 0, .slice none 0 0, .int .i64 0, .int .i64 0, .string ⟨#[]⟩]) rfl
  have h7 := h6.set 6 a6 (cs' := #[a0, a1, a2, a3, a4, a5, a6, .bool false, .int .i64 0, .slice none 0 0, .int .i64 0, .int .i64 0, .string ⟨#[]⟩]) rfl
  have h8 := h7.set 7 a7 (cs' := #[a0, a1, a2, a3, a4, a5, a6, a7, .int .i64 0, .slice none 0 0, .int .i64 0, .int .i64 0, .string ⟨#[]⟩]) rfl
  have h9 := h8.set 8 a8 (cs' := #[a0, a1, a2, a3, a4, a5, a6, a7, a8, .slice none 0 0, .int .i64 0, .int .i64 0, .string ⟨#[]⟩]) rfl
  have h10 := h9.set 9 a9 (cs' := #[a0, a1, a2, a3, a4, a5, a6, a7, a8, a9, .int .i64 0, .int .i64 0, .string ⟨#[]⟩]) rfl
  have h11 := h10.set 10 a10 (cs' := #[a0, a1, a2, a3, a4, a5, a6, a7, a8, a9, a10, .int .i64 0, .string ⟨#[]⟩]) rfl
  have h12 := h11.set 11 a11 (cs' := #[a0, a1, a2, a3, a4, a5, a6, a7, a8, a9, a10, a11, .string ⟨#[]⟩]) rfl
  have h13 := h12.set 12 a12 (cs' := #[a0, a1, a2, a3, a4, a5, a6, a7, a8, a9, a10, a11, a12]) rfl
  exact h13
theorem ffH_only {wr : World} {z : Nat} {a0 a1 a2 a3 a4 a5 a6 a7 a8 a9 a10 a11 a12 : Value} {S : List Nat} (hS : z ∈ S) : Only S wr (ffH wr z a0 a1 a2 a3 a4 a5 a6 a7 a8 a9 a10 a11 a12) := ((((((((((((((Only.refl S wr).put hS a0).put hS a1).put hS a2).put hS a3).put hS a4).put hS a5).put hS a6).put hS a7).put hS a8).put hS a9).put hS a10).put hS a11).put hS a12)
/-- What FrameFrom is told. -/
structure FfIn (ty A B C : Int) (s : ByteArray) : Prop where
  h1 : -9223372036854775808 ≤ ty ∧ ty ≤ 9223372036854775807
  h2 : -9223372036854775808 ≤ A ∧ A ≤ 9223372036854775807
  h3 : -9223372036854775808 ≤ B ∧ B ≤ 9223372036854775807
  h4 : -9223372036854775808 ≤ C ∧ C ≤ 9223372036854775807
  h5 : s.size ≤ 9223372036854775807
end Go.Proofs.Ytmmgmpghkpbgkaa
