/- An argument of the parameters of a generated frame, and how it follows from the argument's reading. -/
import Derived.Test.YtmmgmpghkpbgkaaArg
import Derived.Test.YtmmgmpghkpbgkaaRdM
import Derived.ChangeArms
import Derived.Test.YtmmgmpghkpbgkaaRdK
import Derived.Test.YtmmgmpghkpbgkaaRdN
import Derived.Test.YtmmgmpghkpbgkaaRdJ
import Derived.Deep.LoopGhost
import Derived.Deep.CutRange
namespace Go.Proofs.Ytmmgmpghkpbgkaa
open Go Go.RowKit Go.ChangeShapes Go.WideShapes Go.Deep
set_option linter.unusedVariables false

theorem rgAt_of_pairs {w : World} {a : Option Addr} {len cap : Nat} {K N : Nat → Int} (h : Pairs .i64 .i64 w a len K N) : ∃ L, L.length = len ∧ RgAt w (.slice a len cap) L := by
  refine ⟨(List.range len).map fun i => (K i, N i), by simp, a, cap, by simp, fun i hi => ?_⟩
  obtain ⟨b, off, h1, h2, h3, h4, w1, w2⟩ := h i (by simpa using hi)
  refine ⟨b, off, h1, h2, by simpa using h3, by simpa using h4, ?_, ?_⟩
  · simpa using wf_i64 w1
  · simpa using wf_i64 w2
section
variable {H : Type} {enc : TypeId × Value → H} {w : World} {base : Nat} {held : Bool}
/-- A slice of ranges. -/
theorem rgs_of {fuel : Nat} {cs : List Value} {x : DataW H × List MemPlace} (h : DataW.trod enc Try.prog w base (fun _ => true) held fuel 31 cs = some x) : ∃ v L, cs = [v] ∧ RgAt w v L := by
  rcases open_slice Try.underlying31 h with ⟨rfl, _⟩ | ⟨ad, l, cp, m, n, D, Pl, rfl, _⟩
  · exact ⟨_, [], rfl, RgAt.nil w⟩
  · obtain ⟨K, N, hp⟩ := pairs_of (cap := cp) Try.underlying31 Try.underlying43 (by kernel_rfl) (by kernel_rfl) Try.underlying3 Try.underlying3 h
    obtain ⟨L, _, hL⟩ := rgAt_of_pairs (cap := cp) hp
    exact ⟨_, L, rfl, hL⟩
set_option maxRecDepth 100000 in
/-- The fields of the parameters. -/
theorem fp_core {fuel : Nat} {cs : List Value} {x : DataW H × List MemPlace} (hl : cs.length = 7) (h : DataW.trod enc Try.prog w base (fun _ => true) held fuel 46 cs = some x) :
    ∃ (ty A B C : Int) (s : ByteArray) (fin : Bool) (sv : Value) (SL : List (Int × Int)), cs = (fpC ty A B C s fin sv).toList ∧ FpOk ty A B C s ∧ RgAt w sv SL := by
  obtain ⟨ys, n', _, _, _, hyl, hf⟩ := DataW.trod_struct Try.underlying46 h
  have ci : Try.prog.cellsOf 3 = 1 := by kernel_rfl
  have cs' : Try.prog.cellsOf 9 = 1 := by kernel_rfl
  have cb : Try.prog.cellsOf 4 = 1 := by kernel_rfl
  have cr : Try.prog.cellsOf 31 = 1 := by kernel_rfl
  match cs, hl with
  | [v0, v1, v2, v3, v4, v5, v6], _ =>
    have g0 := hf 0 _ rfl
    have g1 := hf 1 _ rfl
    have g2 := hf 2 _ rfl
    have g3 := hf 3 _ rfl
    have g4 := hf 4 _ rfl
    have g5 := hf 5 _ rfl
    have g6 := hf 6 _ rfl
    simp only [List.getElem_toArray, List.getElem_cons_zero, List.getElem_cons_succ] at g0 g1 g2 g3 g4 g5 g6
    simp only [ci, cs', cb, cr] at g0 g1 g2 g3 g4 g5 g6
    have hy : ys.length = 7 := hyl
    match ys, hy with
    | [y0, y1, y2, y3, y4, y5, y6], _ =>
      obtain ⟨z0, e0, _, w0⟩ := DataW.trod_int Try.underlying3 g0
      obtain ⟨z1, e1, _, w1⟩ := DataW.trod_int Try.underlying3 g1
      obtain ⟨z2, e2, _, w2⟩ := DataW.trod_int Try.underlying3 g2
      obtain ⟨z3, e3, _, w3⟩ := DataW.trod_int Try.underlying3 g3
      obtain ⟨z4, e4, _, w4⟩ := DataW.trod_string Try.underlying9 g4
      obtain ⟨z5, e5, _⟩ := DataW.trod_bool Try.underlying4 g5
      obtain ⟨v, L, e6, hL⟩ := rgs_of g6
      simp at e0 e1 e2 e3 e4 e5 e6
      subst e0 e1 e2 e3 e4 e5 e6
      exact ⟨z0, z1, z2, z3, z4, z5, v6, L, rfl, ⟨wf_i64 w0, wf_i64 w1, wf_i64 w2, wf_i64 w3, by unfold maxLen at w4; omega⟩, hL⟩
set_option maxRecDepth 100000 in
/-- An argument of that type. -/
theorem fp_open {b0 : Nat} {v : Value} {d : DataW H} {p : List MemPlace} (hv : Value.okWide Try.prog w .any b0 46 v) (h : DataW.Trod enc Try.prog w 0 (fun _ => true) true 46 v d p) :
    ∃ (ty A B C : Int) (s : ByteArray) (fin : Bool) (sv : Value) (SL : List (Int × Int)), v = .agg (fpC ty A B C s fin sv) ∧ FpOk ty A B C s ∧ RgAt w sv SL := by
  obtain ⟨cs, rfl, hsz⟩ := okWide_struct Try.underlying46 hv
  rw [show Try.prog.cellsOf 46 = 7 by kernel_rfl] at hsz
  obtain ⟨fuel, hf⟩ := h
  obtain ⟨ty, A, B, C, s, fin, sv, SL, e, h1, h2⟩ := fp_core (by simpa [Value.cells] using hsz) hf
  refine ⟨ty, A, B, C, s, fin, sv, SL, ?_, h1, h2⟩
  congr 1
  rw [← Array.toList_inj]
  simpa [Value.cells] using e
end
end Go.Proofs.Ytmmgmpghkpbgkaa
/- What Decode and DecodeAll answer at any place, the program's and the reference's alike. -/
namespace Go.Proofs.Ytmmgmpghkpbgkaa
open Go Go.RowKit
set_option linter.unusedVariables false
set_option linter.unusedSimpArgs false

/-- The frame, the next place and the error that decoding at i answers. -/
noncomputable def decT (s : ByteArray) (i : Int) : Fr × Int × Int := if i < 0 ∨ (s.size : Int) < i then (Fr.zero 0, 0, 2) else match decF (s.data.toList.drop i.toNat) with
  | some p => (p.1, (s.size : Int) - p.2.length, 0)
  | none => (Fr.zero 0, 0, 90)
def DtQ (R : Fr × Int × Int) (w : World) (e : Ending) (w' : World) : Prop := ∃ rv, e = .returned (.tuple #[.agg (frC R.1 rv), .int .i64 R.2.1, .int .i64 R.2.2]) ∧ RgAt w' rv R.1.rg ∧ R.1.rg.length ≤ 16 ∧ Only [] w w'
theorem DtQ.zero {R : Fr × Int × Int} {c : Int} {w w' : World} {e : Ending} (hR : R = (Fr.zero 0, 0, c)) (h : e = .returned (.tuple #[zeroFrV, .int .i64 0, .int .i64 c])) (ho : Only [] w w') : DtQ R w e w' := by
  subst hR h; exact ⟨.slice none 0 0, rfl, RgAt.nil _, Nat.zero_le _, ho⟩
theorem DtQ.of {s : ByteArray} {a : Nat} (ha : a < s.size) {w w' : World} {e : Ending} (h : DecQ (decF (s.data.toList.drop a)) s w e w') : DtQ (decT s a) w e w' := by
  obtain ⟨ho, h⟩ := h
  unfold decT
  rw [if_neg (by omega), Int.toNat_natCast]
  cases hd : decF (s.data.toList.drop a) with
  | none => rw [hd] at h; exact DtQ.zero rfl h ho
  | some p =>
    obtain ⟨f, l⟩ := p
    rw [hd] at h
    obtain ⟨rv, a', rfl, hok, _, ha', rfl⟩ := h
    obtain ⟨q, hq, _, _⟩ := enc_dec hd
    refine ⟨rv, ?_, hok.rg, enc_rg16 hq, ho⟩
    show _ = Ending.returned (.tuple #[.agg (frC f rv), .int .i64 ((s.size : Int) - (s.data.toList.drop a').length), .int .i64 0])
    rw [drop_len]
    have : ((a' : Nat) : Int) = (s.size : Int) - (s.size - a' : Nat) := by omega
    rw [← this]
theorem decT_end (s : ByteArray) : decT s s.size = (Fr.zero 0, 0, 90) := by
  unfold decT
  rw [if_neg (by omega), Int.toNat_natCast, List.drop_eq_nil_of_le (by rw [size_list]; omega)]
  rfl
theorem decT_bad {s : ByteArray} {i : Int} (h : i < 0 ∨ (s.size : Int) < i) : decT s i = (Fr.zero 0, 0, 2) := by
  unfold decT; rw [if_pos h]
theorem dec_t (s : ByteArray) (i : Int) (hs : s.size ≤ 4611686018427387903) (w : World) : Calls Try.prog 18 #[.string s, .int .i64 i] w (DtQ (decT s i) w) := by
  by_cases h : i < 0 ∨ (s.size : Int) < i
  · exact (decode_bad s i h w).mono fun e w' hh => DtQ.zero (decT_bad h) hh.1 hh.2
  · obtain ⟨a, rfl⟩ : ∃ a : Nat, i = a := ⟨i.toNat, by omega⟩
    by_cases h2 : a = s.size
    · subst h2
      exact (decode_end s w).mono fun e w' hh => DtQ.zero (decT_end s) hh.1 hh.2
    · exact (decode_c s a (by omega) hs w).mono fun e w' hh => DtQ.of (by omega) hh
theorem rdec_t (s : ByteArray) (i : Int) (hs : s.size ≤ 4611686018427387903) (w : World) : Calls Try.prog 29 #[.string s, .int .i64 i] w (DtQ (decT s i) w) := by
  by_cases h : i < 0 ∨ (s.size : Int) < i
  · exact (rdec_bad s i h w).mono fun e w' hh => DtQ.zero (decT_bad h) hh.1 hh.2
  · obtain ⟨a, rfl⟩ : ∃ a : Nat, i = a := ⟨i.toNat, by omega⟩
    by_cases h2 : a = s.size
    · subst h2
      exact (rdec_end s w).mono fun e w' hh => DtQ.zero (decT_end s) hh.1 hh.2
    · exact (rdec_c s a (by omega) hs w).mono fun e w' hh => DtQ.of (by omega) hh
theorem daF_len (n : Nat) : ∀ (l : List UInt8) (L : List Fr), daF n l = some L → L.length ≤ l.length := by
  induction n with
  | zero => intro l L h; cases h
  | succ n ih =>
    intro l L h
    simp only [daF] at h
    by_cases hl : l = []
    · rw [if_pos hl] at h; cases h; simp
    · rw [if_neg hl] at h
      cases hd : decF l with
      | none => rw [hd] at h; cases h
      | some p =>
        obtain ⟨f, r⟩ := p
        rw [hd] at h
        simp only at h
        have hless := decF_less hd
        cases hr : daF n r with
        | none => rw [hr] at h; cases h
        | some M =>
          rw [hr] at h
          simp only [Option.map_some, Option.some.injEq] at h
          subst h
          have := ih r M hr
          simp only [List.length_cons]; omega
/-- The frames and the error that decoding a whole string answers. -/
noncomputable def daT (s : ByteArray) : List Fr × Int := match daF (s.size + 1) s.data.toList with
  | some L => (L, 0)
  | none => ([], 90)
def DatQ (R : List Fr × Int) (w : World) (e : Ending) (w' : World) : Prop := ∃ v xs, e = .returned (.tuple #[v, .int .i64 R.2]) ∧ FrRow w' w.heap.size v xs ∧ xs.map Prod.fst = R.1 ∧ xs.length ≤ 900000 ∧ Only [] w w'
theorem DatQ.of {s : ByteArray} (hs : s.size ≤ 900000) {w w' : World} {e : Ending} (h : DaQ (daF (s.size + 1) s.data.toList) w e w') : DatQ (daT s) w e w' := by
  obtain ⟨ho, h⟩ := h
  unfold daT
  cases hd : daF (s.size + 1) s.data.toList with
  | none => rw [hd] at h; subst h; exact ⟨.slice none 0 0, [], rfl, FrRow.nil _ _, rfl, by simp, ho⟩
  | some L =>
    rw [hd] at h
    obtain ⟨v, xs, rfl, h1, h2⟩ := h
    have hl := daF_len _ _ _ hd
    rw [size_list, ← h2, List.length_map] at hl
    exact ⟨v, xs, rfl, h1, h2, by omega, ho⟩
theorem da_t (s : ByteArray) (hs : s.size ≤ 900000) (w : World) : Calls Try.prog 26 #[.string s] w (DatQ (daT s) w) := (decAll_c s hs w).mono fun e w' h => DatQ.of hs h
theorem rda_t (s : ByteArray) (hs : s.size ≤ 900000) (w : World) : Calls Try.prog 27 #[.string s] w (DatQ (daT s) w) := (rdecAll_c s hs w).mono fun e w' h => DatQ.of hs h
end Go.Proofs.Ytmmgmpghkpbgkaa
/- What the walk of FrameReadsLikeReference is told: the reference's Encode of a generated frame, the strings that are read. -/
namespace Go.Proofs.Ytmmgmpghkpbgkaa
open Go Go.RowKit
set_option linter.unusedVariables false
set_option linter.unusedSimpArgs false

theorem enc_S {f : Fr} {s : List UInt8} (h : encF f = some s) : f.S.length ≤ 1024 ∧ f.cid.length ≤ 1024 := by
  obtain ⟨l, bs, ht, _, hp, hc, _⟩ := encF_some h
  have key : ∀ k l, tab k = some l → ((∃ a b, Pt.text a b ∈ l ∧ b ≤ 1024) ∨ Pt.chal ∈ l ∨ ∀ f : Fr, (clrs l f).S = f.S) ∧ (Pt.cidp ∈ l ∨ ∀ f : Fr, (clrs l f).cid = f.cid) := by
    intro k l h
    refine tab_ind (P := fun k l => ((∃ a b, Pt.text a b ∈ l ∧ b ≤ 1024) ∨ Pt.chal ∈ l ∨ ∀ f : Fr, (clrs l f).S = f.S) ∧ (Pt.cidp ∈ l ∨ ∀ f : Fr, (clrs l f).cid = f.cid)) ?_ ?_ ?_ ?_ ?_ ?_ ?_ ?_ ?_ ?_ ?_ ?_ ?_ ?_ ?_ ?_ ?_ ?_ ?_ ?_ ?_ k l h
    all_goals
      refine ⟨?_, ?_⟩
      · first
        | exact .inr (.inr fun f => rfl)
        | (refine .inr (.inl ?_); simp; done)
        | (refine .inl ⟨0, 1024, ?_, by omega⟩; simp; done)
        | (refine .inl ⟨1, 128, ?_, by omega⟩; simp; done)
        | (refine .inl ⟨0, 64, ?_, by omega⟩; simp; done)
      · first
        | exact .inr fun f => rfl
        | (refine .inl ?_; simp; done)
  obtain ⟨k1, k2⟩ := key _ _ ht
  have hpa := (puts_all l f).1 ⟨bs, hp⟩
  constructor
  · rcases k1 with ⟨a, b, hm, hb⟩ | hm | hk
    · obtain ⟨z, hz⟩ := hpa _ hm
      simp only [putP] at hz
      by_cases c : f.S.length < a ∨ 1099511627776 < w64 (f.off + f.S.length)
      · rw [if_pos c] at hz; cases hz
      rw [if_neg c] at hz
      cases hn : numE f.S.length b with
      | none => rw [hn] at hz; cases hz
      | some y => have := (numE_some hn).1; omega
    · obtain ⟨z, hz⟩ := hpa _ hm
      simp only [putP] at hz
      by_cases c : f.S.length = 8
      · omega
      · rw [if_neg c] at hz; cases hz
    · have h1 := (hk { f with fin := false }).symm.trans (congrArg Fr.S hc)
      have h2 : f.S = [] := h1
      rw [h2]; simp
  · rcases k2 with hm | hk
    · obtain ⟨z, hz⟩ := hpa _ hm
      simp only [putP] at hz
      by_cases c : f.cid.length = 8
      · omega
      · rw [if_neg c] at hz; cases hz
    · have h1 := (hk { f with fin := false }).symm.trans (congrArg Fr.cid hc)
      have h2 : f.cid = [] := h1
      rw [h2]; simp
/-- The reference encodes a valid frame to a string of bounded length. -/
theorem renc_v (f : Fr) (rv : Value) (w : World) (hF : FrOk w f rv) {s : List UInt8} (h : encF f = some s) : Calls Try.prog 23 #[.agg (frC f rv)] w (EncB w) := by
  obtain ⟨l, bs, ht, _⟩ := encF_some h
  obtain ⟨h1, h2⟩ := enc_S h
  exact renc_w f rv w hF (enc_rg16 h) (by rw [strB_size]; omega) (by rw [strB_size]; omega) ⟨l, ht⟩
/-- The seven strings that are read. -/
structure Seven (T F Cc : ByteArray) (k m : Nat) (U : Nat → ByteArray) : Prop where
  u0 : U 0 = F
  u1 : U 1 = T ++ F
  u2 : U 2 = F ++ T
  u3 : U 3 = T.extract 0 k
  u4 : U 4 = (T.extract 0 k ++ Cc) ++ T.extract m T.size
  u5 : U 5 = T.extract 0 k ++ T.extract m T.size
  u6 : U 6 = (T.extract 0 k ++ Cc) ++ T.extract k T.size
theorem ext_size (s : ByteArray) (i j : Nat) : (s.extract i j).size ≤ s.size := by
  rw [ext_list, strB_size, List.length_take, List.length_drop, size_list]; omega
end Go.Proofs.Ytmmgmpghkpbgkaa
/- The walk of FrameReadsLikeReference. -/
namespace Go.Proofs.Ytmmgmpghkpbgkaa
open Go Go.RowKit
set_option linter.unusedVariables false
set_option linter.unusedSimpArgs false

theorem take_str9 (s : ByteArray) (m n : Nat) (h : n = min s.size m) : (s.extract 0 n).size ≤ m := by
  subst h
  rw [ext_list, strB_size, List.length_take, List.length_drop, size_list]
  omega
def RlRel (n : Nat) (w : World) (gk : Nat) (ix : Value) (wr : World) : Prop := ∃ k : Nat, gk = n - k ∧ k ≤ n ∧ ix = .int .i64 k ∧ Hid (Only [] w wr)
set_option maxRecDepth 100000 in
set_option maxHeartbeats 12000000 in
theorem reads_walk (ty A B C : Int) (s : ByteArray) (fin : Bool) (sv : Value) (SL : List (Int × Int)) (u : ByteArray) (a2 a3 : Int) (w : World) (hF : FpOk ty A B C s) (hS : RgAt w sv SL) (wu : u.size ≤ maxLen) (w2 : (Lit.int .i64 a2).wf = true) (w3 : (Lit.int .u8 a3).wf = true) :
    Calls Try.prog 4 #[.agg (fpC ty A B C s fin sv), .string u, .int .i64 a2, .int .u8 a3] w fun e w' => e = .returned (.bool true) ∧ Below w.heap.size w w' := by
  unfold maxLen at wu
  obtain ⟨l2, u2⟩ := wf_i64 w2
  obtain ⟨l3, u3⟩ := wf_u8 w3
  obtain ⟨x, rfl⟩ : ∃ x : UInt8, a3 = x.toNat := ⟨UInt8.ofNat a3.toNat, by simp; omega⟩
  clear w2 w3 l3 u3
  obtain ⟨sa, sc, rfl, hsx⟩ := hS
  have HS : Hid (RgAt w (.slice sa SL.length sc) SL) := Lib.hid ⟨sa, sc, rfl, hsx⟩
  have hff := fun ww hh => frameFrom_c ty A B C s fin (.slice sa SL.length sc) SL ww hh hF
  clear hsx hF
  simp only [fpC] at hff ⊢
  have HO := Lib.hid (Only.refl [] w)
  have em1 : min (u.size : Int) 100 = ((min u.size 100 : Nat) : Int) := by omega
  have zF : (u.extract 0 (min u.size 100)).size ≤ 100 := take_str9 u 100 _ rfl
  have hm1 : min u.size 100 ≤ u.size := by omega
  go_enter Try.func4, Try.ntmps4
  go_upto_region 1 with fail
  have hx := At.new w 46 #[.int .i64 ty, .int .i64 A, .int .i64 B, .int .i64 C, .string s, .bool fin, .slice sa SL.length sc]
  replace HO := Lib.hid (HO.out.alloc (.cells #[.int .i64 ty, .int .i64 A, .int .i64 B, .int .i64 C, .string s, .bool fin, .slice sa SL.length sc] 46))
  have hszA : (w.alloc (.cells #[.int .i64 ty, .int .i64 A, .int .i64 B, .int .i64 C, .string s, .bool fin, .slice sa SL.length sc] 46)).heap.size = w.heap.size + 1 := by simp
  generalize w.alloc (.cells #[.int .i64 ty, .int .i64 A, .int .i64 B, .int .i64 C, .string s, .bool fin, .slice sa SL.length sc] 46) = v1 at hx hszA HO ⊢
  generalize w.heap.size = pa at hx hszA  ⊢
  have HA := Lib.hid hx
  clear hx
  have HbA := Lib.hid (Only.refl [] v1)
  go_wp2_with fail
  refine (sane9 _).mono ?_
  rintro e v2 ⟨rfl, ho⟩
  replace HO := Lib.hid (HO.out.trans ho)
  replace HbA := Lib.hid (HbA.out.trans ho)
  clear ho
  have Ax0 : v2.cell? ⟨pa, 0, none⟩ = some (.int .i64 ty) := (HA.out.keep HbA.out (by simp)).cell 0 rfl
  have Ax1 : v2.cell? ⟨pa, 1, none⟩ = some (.int .i64 A) := (HA.out.keep HbA.out (by simp)).cell 1 rfl
  have Ax2 : v2.cell? ⟨pa, 2, none⟩ = some (.int .i64 B) := (HA.out.keep HbA.out (by simp)).cell 2 rfl
  have Ax3 : v2.cell? ⟨pa, 3, none⟩ = some (.int .i64 C) := (HA.out.keep HbA.out (by simp)).cell 3 rfl
  have Ax4 : v2.cell? ⟨pa, 4, none⟩ = some (.string s) := (HA.out.keep HbA.out (by simp)).cell 4 rfl
  have Ax5 : v2.cell? ⟨pa, 5, none⟩ = some (.bool fin) := (HA.out.keep HbA.out (by simp)).cell 5 rfl
  have Ax6 : v2.cell? ⟨pa, 6, none⟩ = some (.slice sa SL.length sc) := (HA.out.keep HbA.out (by simp)).cell 6 rfl
  go_wp2_with fail
  refine (hff _ (HS.out.keep HO.out)).mono ?_
  rintro e v3 ⟨g, gv, t, rfl, hok, _, hen, _, ho⟩
  clear Ax0 Ax1 Ax2 Ax3 Ax4 Ax5 Ax6
  replace HO := Lib.hid (HO.out.trans ho)
  replace HbA := Lib.hid (HbA.out.trans ho)
  clear ho
  have hec := renc_v g gv v3 hok hen
  clear hok hff hen
  go_wp2_with fail
  refine (hec).mono ?_
  rintro e v4 ⟨T, c0, rfl, hT, ho⟩
  replace HO := Lib.hid (HO.out.trans ho)
  replace HbA := Lib.hid (HbA.out.trans ho)
  clear ho
  obtain ⟨M, hM⟩ : ∃ M : Nat, max T.size 1 = M := ⟨_, rfl⟩
  have em0 : max (T.size : Int) 1 = (M : Int) := by omega
  have hpk := fun ww => pk9 a2 (M : Int) ww l2 u2 (by omega)
  have hpb := pkZ_bd a2 (M : Int) (by omega)
  obtain ⟨n, hn⟩ : ∃ n : Nat, pkZ a2 (M : Int) = n := ⟨(pkZ a2 (M : Int)).toNat, by omega⟩
  rw [hn] at hpk hpb
  obtain ⟨m, hm⟩ : ∃ m : Nat, min (n + 1) T.size = m := ⟨_, rfl⟩
  have em2 : min ((n : Int) + 1) (T.size : Int) = (m : Int) := by omega
  have hn1 : (n : Int) ≤ T.size := by omega
  have hn2 : n ≤ T.size := by omega
  have hm2 : (m : Int) ≤ T.size := by omega
  have hm3 : m ≤ T.size := by omega
  have hw1 : IntKind.i64.wrap ((n : Int) + 1) = (n : Int) + 1 := IntWalk.i64_in _ (by omega)
  have hA : (T.extract 0 n).size ≤ 4001 := Nat.le_trans (ext_size _ _ _) hT
  have hB : (T.extract m T.size).size ≤ 4001 := Nat.le_trans (ext_size _ _ _) hT
  have hE : (T.extract n T.size).size ≤ 4001 := Nat.le_trans (ext_size _ _ _) hT
  have z2 : (strB [x]).size = 1 := rfl
  have hcv := fun ww : World => conv_one ww x
  obtain ⟨A, eA⟩ : ∃ A, T.extract 0 n = A := ⟨_, rfl⟩
  obtain ⟨B, eB⟩ : ∃ B, T.extract m T.size = B := ⟨_, rfl⟩
  obtain ⟨E, eE⟩ : ∃ E, T.extract n T.size = E := ⟨_, rfl⟩
  obtain ⟨F, eF⟩ : ∃ F, u.extract 0 (min u.size 100) = F := ⟨_, rfl⟩
  rw [eA] at hA
  rw [eB] at hB
  rw [eE] at hE
  rw [eF] at zF
  obtain ⟨AC, eAC⟩ : ∃ X, A ++ strB [x] = X := ⟨_, rfl⟩
  have hAC : AC.size ≤ 4002 := by rw [← eAC, ByteArray.size_append]; omega
  obtain ⟨U1, eU1⟩ : ∃ X, T ++ F = X := ⟨_, rfl⟩
  obtain ⟨U2, eU2⟩ : ∃ X, F ++ T = X := ⟨_, rfl⟩
  obtain ⟨U4, eU4⟩ : ∃ X, AC ++ B = X := ⟨_, rfl⟩
  obtain ⟨U5, eU5⟩ : ∃ X, A ++ B = X := ⟨_, rfl⟩
  obtain ⟨U6, eU6⟩ : ∃ X, AC ++ E = X := ⟨_, rfl⟩
  have hU : Hid (F.size ≤ 9000 ∧ U1.size ≤ 9000 ∧ U2.size ≤ 9000 ∧ A.size ≤ 9000 ∧ U4.size ≤ 9000 ∧ U5.size ≤ 9000 ∧ U6.size ≤ 9000) := Lib.hid (by
    rw [← eU1, ← eU2, ← eU4, ← eU5, ← eU6]
    simp only [ByteArray.size_append]
    omega)
  have y1 : ¬ 9223372036854775807 < T.size + F.size := by omega
  have y2 : ¬ 9223372036854775807 < F.size + T.size := by omega
  have y3 : ¬ 9223372036854775807 < A.size + (strB [x]).size := by omega
  have y4 : ¬ 9223372036854775807 < AC.size + B.size := by omega
  have y5 : ¬ 9223372036854775807 < A.size + B.size := by omega
  have y6 : ¬ 9223372036854775807 < AC.size + E.size := by omega
  have HF := Lib.hid zF
  clear hn hM hm hA hB hE hAC hT zF hpb hec
  generalize hTC : strB [x] = TC at eAC y3 z2 hcv
  rw [z2] at y3
  go_wp2_with fail
  refine (hpk _).mono ?_
  rintro e wx ⟨rfl, rfl⟩
  go_upto_region 6 with fail
  clear hpk
  refine wp_region_held_drew (S := fun _ => True) (by kernel_rfl) (by trivial) (fun hHeld => ?_)
  refine wpAnyH_take (i := 0) (v := ?_) rfl (by kernel_rfl) (by kernel_rfl) (by kernel_rfl) (fun _ _ _ h => h) (Or.inl ⟨by kernel_rfl, ?_⟩) (by assumption) ?_
  rotate_left
  · intro wS hSw
    try dsimp only at hSw
    go_simp
    try with_reducible rfl
  simp only [List.getElem_toArray, List.getElem_cons_succ, List.getElem_cons_zero, Act.put, List.setIfInBounds_toArray, List.set_cons_zero, List.set_cons_succ]
  refine wpAnyH_take (i := 1) (v := ?_) rfl (by kernel_rfl) (by kernel_rfl) (by kernel_rfl) (fun _ _ _ h => h) (Or.inl ⟨by kernel_rfl, ?_⟩) (by assumption) ?_
  rotate_left
  · intro wS hSw
    try dsimp only at hSw
    go_simp
    try with_reducible rfl
  simp only [List.getElem_toArray, List.getElem_cons_succ, List.getElem_cons_zero, Act.put, List.setIfInBounds_toArray, List.set_cons_zero, List.set_cons_succ]
  refine wpAnyH_take (i := 2) (v := ?_) rfl (by kernel_rfl) (by kernel_rfl) (by kernel_rfl) (fun _ _ _ h => h) (Or.inl ⟨by kernel_rfl, ?_⟩) (by assumption) ?_
  rotate_left
  · intro wS hSw
    try dsimp only at hSw
    go_simp
    try with_reducible rfl
  simp only [List.getElem_toArray, List.getElem_cons_succ, List.getElem_cons_zero, Act.put, List.setIfInBounds_toArray, List.set_cons_zero, List.set_cons_succ]
  refine wpAnyH_take (i := 3) (v := ?_) rfl (by kernel_rfl) (by kernel_rfl) (by kernel_rfl) (fun _ _ _ h => h) (Or.inl ⟨by kernel_rfl, ?_⟩) (by assumption) ?_
  rotate_left
  · intro wS hSw
    try dsimp only at hSw
    go_simp
    try with_reducible rfl
  simp only [List.getElem_toArray, List.getElem_cons_succ, List.getElem_cons_zero, Act.put, List.setIfInBounds_toArray, List.set_cons_zero, List.set_cons_succ]
  refine wpAnyH_take (i := 4) (v := ?_) rfl (by kernel_rfl) (by kernel_rfl) (by kernel_rfl) (fun _ _ _ h => h) (Or.inl ⟨by kernel_rfl, ?_⟩) (by assumption) ?_
  rotate_left
  · intro wS hSw
    try dsimp only at hSw
    go_simp
    try with_reducible rfl
  simp only [List.getElem_toArray, List.getElem_cons_succ, List.getElem_cons_zero, Act.put, List.setIfInBounds_toArray, List.set_cons_zero, List.set_cons_succ]
  refine wpAnyH_take (i := 5) (v := ?_) rfl (by kernel_rfl) (by kernel_rfl) (by kernel_rfl) (fun _ _ _ h => h) (Or.inl ⟨by kernel_rfl, ?_⟩) (by assumption) ?_
  rotate_left
  · intro wS hSw
    try dsimp only at hSw
    go_simp
    try with_reducible rfl
  simp only [List.getElem_toArray, List.getElem_cons_succ, List.getElem_cons_zero, Act.put, List.setIfInBounds_toArray, List.set_cons_zero, List.set_cons_succ]
  refine wpAnyH_take (i := 6) (v := ?_) rfl (by kernel_rfl) (by kernel_rfl) (by kernel_rfl) (fun _ _ _ h => h) (Or.inl ⟨by kernel_rfl, ?_⟩) (by assumption) ?_
  rotate_left
  · intro wS hSw
    try dsimp only at hSw
    go_simp
    try with_reducible rfl
  simp only [List.getElem_toArray, List.getElem_cons_succ, List.getElem_cons_zero, Act.put, List.setIfInBounds_toArray, List.set_cons_zero, List.set_cons_succ]
  refine wpAnyH_take (i := 7) (v := ?_) rfl (by kernel_rfl) (by kernel_rfl) (by kernel_rfl) (fun _ _ _ h => h) (Or.inl ⟨by kernel_rfl, ?_⟩) (by assumption) ?_
  rotate_left
  · intro wS hSw
    try dsimp only at hSw
    go_simp
    try with_reducible rfl
  simp only [List.getElem_toArray, List.getElem_cons_succ, List.getElem_cons_zero, Act.put, List.setIfInBounds_toArray, List.set_cons_zero, List.set_cons_succ]
  refine wpAnyH_take (i := 8) (v := ?_) rfl (by kernel_rfl) (by kernel_rfl) (by kernel_rfl) (fun _ _ _ h => h) (Or.inl ⟨by kernel_rfl, ?_⟩) (by assumption) ?_
  rotate_left
  · intro wS hSw
    try dsimp only at hSw
    go_simp
    try with_reducible rfl
  simp only [List.getElem_toArray, List.getElem_cons_succ, List.getElem_cons_zero, Act.put, List.setIfInBounds_toArray, List.set_cons_zero, List.set_cons_succ]
  refine wpAnyH_take (i := 9) (v := ?_) rfl (by kernel_rfl) (by kernel_rfl) (by kernel_rfl) (fun _ _ _ h => h) (Or.inl ⟨by kernel_rfl, ?_⟩) (by assumption) ?_
  rotate_left
  · intro wS hSw
    try dsimp only at hSw
    go_simp
    try with_reducible rfl
  simp only [List.getElem_toArray, List.getElem_cons_succ, List.getElem_cons_zero, Act.put, List.setIfInBounds_toArray, List.set_cons_zero, List.set_cons_succ]
  refine wpAnyH_take (i := 10) (v := ?_) rfl (by kernel_rfl) (by kernel_rfl) (by kernel_rfl) (fun _ _ _ h => h) (Or.inl ⟨by kernel_rfl, ?_⟩) (by assumption) ?_
  rotate_left
  · intro wS hSw
    try dsimp only at hSw
    go_simp
    try with_reducible rfl
  simp only [List.getElem_toArray, List.getElem_cons_succ, List.getElem_cons_zero, Act.put, List.setIfInBounds_toArray, List.set_cons_zero, List.set_cons_succ]
  refine wpAnyH_take (i := 11) (v := ?_) rfl (by kernel_rfl) (by kernel_rfl) (by kernel_rfl) (fun _ _ _ h => h) (Or.inl ⟨by kernel_rfl, ?_⟩) (by assumption) ?_
  rotate_left
  · intro wS hSw
    try dsimp only at hSw
    go_simp
    try with_reducible rfl
  simp only [List.getElem_toArray, List.getElem_cons_succ, List.getElem_cons_zero, Act.put, List.setIfInBounds_toArray, List.set_cons_zero, List.set_cons_succ]
  refine wpAnyH_take (i := 12) (v := ?_) rfl (by kernel_rfl) (by kernel_rfl) (by kernel_rfl) (fun _ _ _ h => h) (Or.inl ⟨by kernel_rfl, ?_⟩) (by assumption) ?_
  rotate_left
  · intro wS hSw
    try dsimp only at hSw
    go_simp
    try with_reducible rfl
  simp only [List.getElem_toArray, List.getElem_cons_succ, List.getElem_cons_zero, Act.put, List.setIfInBounds_toArray, List.set_cons_zero, List.set_cons_succ]
  refine wpAnyH_take (i := 13) (v := ?_) rfl (by kernel_rfl) (by kernel_rfl) (by kernel_rfl) (fun _ _ _ h => h) (Or.inl ⟨by kernel_rfl, ?_⟩) (by assumption) ?_
  rotate_left
  · intro wS hSw
    try dsimp only at hSw
    go_simp
    try with_reducible rfl
  simp only [List.getElem_toArray, List.getElem_cons_succ, List.getElem_cons_zero, Act.put, List.setIfInBounds_toArray, List.set_cons_zero, List.set_cons_succ]
  refine wpAnyH_take (i := 14) (v := ?_) rfl (by kernel_rfl) (by kernel_rfl) (by kernel_rfl) (fun _ _ _ h => h) (Or.inl ⟨by kernel_rfl, ?_⟩) (by assumption) ?_
  rotate_left
  · intro wS hSw
    try dsimp only at hSw
    go_simp
    try with_reducible rfl
  simp only [List.getElem_toArray, List.getElem_cons_succ, List.getElem_cons_zero, Act.put, List.setIfInBounds_toArray, List.set_cons_zero, List.set_cons_succ]
  refine wpAnyH_take (i := 15) (v := ?_) rfl (by kernel_rfl) (by kernel_rfl) (by kernel_rfl) (fun _ _ _ h => h) (Or.inl ⟨by kernel_rfl, ?_⟩) (by assumption) ?_
  rotate_left
  · intro wS hSw
    try dsimp only at hSw
    go_simp
    try with_reducible rfl
  simp only [List.getElem_toArray, List.getElem_cons_succ, List.getElem_cons_zero, Act.put, List.setIfInBounds_toArray, List.set_cons_zero, List.set_cons_succ]
  refine wpAnyH_take (i := 16) (v := ?_) rfl (by kernel_rfl) (by kernel_rfl) (by kernel_rfl) (fun _ _ _ h => h) (Or.inl ⟨by kernel_rfl, ?_⟩) (by assumption) ?_
  rotate_left
  · intro wS hSw
    try dsimp only at hSw
    go_simp
    try with_reducible rfl
  simp only [List.getElem_toArray, List.getElem_cons_succ, List.getElem_cons_zero, Act.put, List.setIfInBounds_toArray, List.set_cons_zero, List.set_cons_succ]
  refine wpAnyH_take (i := 17) (v := ?_) rfl (by kernel_rfl) (by kernel_rfl) (by kernel_rfl) (fun _ _ _ h => h) (Or.inl ⟨by kernel_rfl, ?_⟩) (by assumption) ?_
  rotate_left
  · intro wS hSw
    try dsimp only at hSw
    go_simp
    try with_reducible rfl
  simp only [List.getElem_toArray, List.getElem_cons_succ, List.getElem_cons_zero, Act.put, List.setIfInBounds_toArray, List.set_cons_zero, List.set_cons_succ]
  refine wpAnyH_take (i := 18) (v := ?_) rfl (by kernel_rfl) (by kernel_rfl) (by kernel_rfl) (fun _ _ _ h => h) (Or.inl ⟨by kernel_rfl, ?_⟩) (by assumption) ?_
  rotate_left
  · intro wS hSw
    try dsimp only at hSw
    go_simp
    try with_reducible rfl
  simp only [List.getElem_toArray, List.getElem_cons_succ, List.getElem_cons_zero, Act.put, List.setIfInBounds_toArray, List.set_cons_zero, List.set_cons_succ]
  refine wpAnyH_take (i := 19) (v := ?_) rfl (by kernel_rfl) (by kernel_rfl) (by kernel_rfl) (fun _ _ _ h => h) (Or.inl ⟨by kernel_rfl, ?_⟩) (by assumption) ?_
  rotate_left
  · intro wS hSw
    try dsimp only at hSw
    go_simp
    try with_reducible rfl
  simp only [List.getElem_toArray, List.getElem_cons_succ, List.getElem_cons_zero, Act.put, List.setIfInBounds_toArray, List.set_cons_zero, List.set_cons_succ]
  refine wpAnyH_take (i := 20) (v := ?_) rfl (by kernel_rfl) (by kernel_rfl) (by kernel_rfl) (fun _ _ _ h => h) (Or.inl ⟨by kernel_rfl, ?_⟩) (by assumption) ?_
  rotate_left
  · intro wS hSw
    try dsimp only at hSw
    go_simp
    try with_reducible rfl
  simp only [List.getElem_toArray, List.getElem_cons_succ, List.getElem_cons_zero, Act.put, List.setIfInBounds_toArray, List.set_cons_zero, List.set_cons_succ]
  refine wpAnyH_take (i := 21) (v := ?_) rfl (by kernel_rfl) (by kernel_rfl) (by kernel_rfl) (fun _ _ _ h => h) (Or.inl ⟨by kernel_rfl, ?_⟩) (by assumption) ?_
  rotate_left
  · intro wS hSw
    try dsimp only at hSw
    go_simp
    try with_reducible rfl
  simp only [List.getElem_toArray, List.getElem_cons_succ, List.getElem_cons_zero, Act.put, List.setIfInBounds_toArray, List.set_cons_zero, List.set_cons_succ]
  refine wpAnyH_take (i := 22) (v := ?_) rfl (by kernel_rfl) (by kernel_rfl) (by kernel_rfl) (fun _ _ _ h => h) (Or.inl ⟨by kernel_rfl, ?_⟩) (by assumption) ?_
  rotate_left
  · intro wS hSw
    try dsimp only at hSw
    go_simp
    try with_reducible rfl
  simp only [List.getElem_toArray, List.getElem_cons_succ, List.getElem_cons_zero, Act.put, List.setIfInBounds_toArray, List.set_cons_zero, List.set_cons_succ]
  refine wpAnyH_take (i := 23) (v := ?_) rfl (by kernel_rfl) (by kernel_rfl) (by kernel_rfl) (fun _ _ _ h => h) (Or.inl ⟨by kernel_rfl, ?_⟩) (by assumption) ?_
  rotate_left
  · intro wS hSw
    try dsimp only at hSw
    go_simp
    try with_reducible rfl
  simp only [List.getElem_toArray, List.getElem_cons_succ, List.getElem_cons_zero, Act.put, List.setIfInBounds_toArray, List.set_cons_zero, List.set_cons_succ]
  refine wpAnyH_take (i := 24) (v := ?_) rfl (by kernel_rfl) (by kernel_rfl) (by kernel_rfl) (fun _ _ _ h => h) (Or.inl ⟨by kernel_rfl, ?_⟩) (by assumption) ?_
  rotate_left
  · intro wS hSw
    try dsimp only at hSw
    go_simp
    try with_reducible rfl
  simp only [List.getElem_toArray, List.getElem_cons_succ, List.getElem_cons_zero, Act.put, List.setIfInBounds_toArray, List.set_cons_zero, List.set_cons_succ]
  refine wpAnyH_take (i := 25) (v := ?_) rfl (by kernel_rfl) (by kernel_rfl) (by kernel_rfl) (fun _ _ _ h => h) (Or.inl ⟨by kernel_rfl, ?_⟩) (by assumption) ?_
  rotate_left
  · intro wS hSw
    try dsimp only at hSw
    go_simp
    try with_reducible rfl
  simp only [List.getElem_toArray, List.getElem_cons_succ, List.getElem_cons_zero, Act.put, List.setIfInBounds_toArray, List.set_cons_zero, List.set_cons_succ]
  refine wpAnyH_take (i := 26) (v := ?_) rfl (by kernel_rfl) (by kernel_rfl) (by kernel_rfl) (fun _ _ _ h => h) (Or.inl ⟨by kernel_rfl, ?_⟩) (by assumption) ?_
  rotate_left
  · intro wS hSw
    try dsimp only at hSw
    go_simp
    try with_reducible rfl
  simp only [List.getElem_toArray, List.getElem_cons_succ, List.getElem_cons_zero, Act.put, List.setIfInBounds_toArray, List.set_cons_zero, List.set_cons_succ]
  refine wpAnyH_take (i := 27) (v := ?_) rfl (by kernel_rfl) (by kernel_rfl) (by kernel_rfl) (fun _ _ _ h => h) (Or.inl ⟨by kernel_rfl, ?_⟩) (by assumption) ?_
  rotate_left
  · intro wS hSw
    try dsimp only at hSw
    go_simp
    try with_reducible rfl
  simp only [List.getElem_toArray, List.getElem_cons_succ, List.getElem_cons_zero, Act.put, List.setIfInBounds_toArray, List.set_cons_zero, List.set_cons_succ]
  refine wpAnyH_take (i := 28) (v := ?_) rfl (by kernel_rfl) (by kernel_rfl) (by kernel_rfl) (fun _ _ _ h => h) (Or.inl ⟨by kernel_rfl, ?_⟩) (by assumption) ?_
  rotate_left
  · intro wS hSw
    try dsimp only at hSw
    go_simp
    try with_reducible rfl
  simp only [List.getElem_toArray, List.getElem_cons_succ, List.getElem_cons_zero, Act.put, List.setIfInBounds_toArray, List.set_cons_zero, List.set_cons_succ]
  refine wpAnyH_take (i := 29) (v := ?_) rfl (by kernel_rfl) (by kernel_rfl) (by kernel_rfl) (fun _ _ _ h => h) (Or.inl ⟨by kernel_rfl, ?_⟩) (by assumption) ?_
  rotate_left
  · intro wS hSw
    try dsimp only at hSw
    go_simp
    try with_reducible rfl
  simp only [List.getElem_toArray, List.getElem_cons_succ, List.getElem_cons_zero, Act.put, List.setIfInBounds_toArray, List.set_cons_zero, List.set_cons_succ]
  refine wpAnyH_take (i := 30) (v := ?_) rfl (by kernel_rfl) (by kernel_rfl) (by kernel_rfl) (fun _ _ _ h => h) (Or.inl ⟨by kernel_rfl, ?_⟩) (by assumption) ?_
  rotate_left
  · intro wS hSw
    try dsimp only at hSw
    go_simp
    try with_reducible rfl
  simp only [List.getElem_toArray, List.getElem_cons_succ, List.getElem_cons_zero, Act.put, List.setIfInBounds_toArray, List.set_cons_zero, List.set_cons_succ]
  refine wpAnyH_take (i := 31) (v := ?_) rfl (by kernel_rfl) (by kernel_rfl) (by kernel_rfl) (fun _ _ _ h => h) (Or.inl ⟨by kernel_rfl, ?_⟩) (by assumption) ?_
  rotate_left
  · intro wS hSw
    try dsimp only at hSw
    go_simp
    try with_reducible rfl
  simp only [List.getElem_toArray, List.getElem_cons_succ, List.getElem_cons_zero, Act.put, List.setIfInBounds_toArray, List.set_cons_zero, List.set_cons_succ]
  refine wpAnyH_take (i := 32) (v := ?_) rfl (by kernel_rfl) (by kernel_rfl) (by kernel_rfl) (fun _ _ _ h => h) (Or.inl ⟨by kernel_rfl, ?_⟩) (by assumption) ?_
  rotate_left
  · intro wS hSw
    try dsimp only at hSw
    go_simp
    try with_reducible rfl
  simp only [List.getElem_toArray, List.getElem_cons_succ, List.getElem_cons_zero, Act.put, List.setIfInBounds_toArray, List.set_cons_zero, List.set_cons_succ]
  refine wpAnyH_take (i := 33) (v := ?_) rfl (by kernel_rfl) (by kernel_rfl) (by kernel_rfl) (fun _ _ _ h => h) (Or.inl ⟨by kernel_rfl, ?_⟩) (by assumption) ?_
  rotate_left
  · intro wS hSw
    try dsimp only at hSw
    go_simp
    try with_reducible rfl
  simp only [List.getElem_toArray, List.getElem_cons_succ, List.getElem_cons_zero, Act.put, List.setIfInBounds_toArray, List.set_cons_zero, List.set_cons_succ]
  refine wpAnyH_take (i := 34) (v := ?_) rfl (by kernel_rfl) (by kernel_rfl) (by kernel_rfl) (fun _ _ _ h => h) (Or.inl ⟨by kernel_rfl, ?_⟩) (by assumption) ?_
  rotate_left
  · intro wS hSw
    try dsimp only at hSw
    go_simp
    try with_reducible rfl
  simp only [List.getElem_toArray, List.getElem_cons_succ, List.getElem_cons_zero, Act.put, List.setIfInBounds_toArray, List.set_cons_zero, List.set_cons_succ]
  refine wpAnyH_take (i := 35) (v := ?_) rfl (by kernel_rfl) (by kernel_rfl) (by kernel_rfl) (fun _ _ _ h => h) (Or.inl ⟨by kernel_rfl, ?_⟩) (by assumption) ?_
  rotate_left
  · intro wS hSw
    try dsimp only at hSw
    go_simp
    try with_reducible rfl
  simp only [List.getElem_toArray, List.getElem_cons_succ, List.getElem_cons_zero, Act.put, List.setIfInBounds_toArray, List.set_cons_zero, List.set_cons_succ]
  refine wpAnyH_take (i := 36) (v := ?_) rfl (by kernel_rfl) (by kernel_rfl) (by kernel_rfl) (fun _ _ _ h => h) (Or.inl ⟨by kernel_rfl, ?_⟩) (by assumption) ?_
  rotate_left
  · intro wS hSw
    try dsimp only at hSw
    go_simp
    try with_reducible rfl
  simp only [List.getElem_toArray, List.getElem_cons_succ, List.getElem_cons_zero, Act.put, List.setIfInBounds_toArray, List.set_cons_zero, List.set_cons_succ]
  refine wpAnyH_take (i := 37) (v := ?_) rfl (by kernel_rfl) (by kernel_rfl) (by kernel_rfl) (fun _ _ _ h => h) (Or.inl ⟨by kernel_rfl, ?_⟩) (by assumption) ?_
  rotate_left
  · intro wS hSw
    try dsimp only at hSw
    go_simp
    try with_reducible rfl
  simp only [List.getElem_toArray, List.getElem_cons_succ, List.getElem_cons_zero, Act.put, List.setIfInBounds_toArray, List.set_cons_zero, List.set_cons_succ]
  refine wpAnyH_take (i := 38) (v := ?_) rfl (by kernel_rfl) (by kernel_rfl) (by kernel_rfl) (fun _ _ _ h => h) (Or.inl ⟨by kernel_rfl, ?_⟩) (by assumption) ?_
  rotate_left
  · intro wS hSw
    try dsimp only at hSw
    go_simp
    try with_reducible rfl
  simp only [List.getElem_toArray, List.getElem_cons_succ, List.getElem_cons_zero, Act.put, List.setIfInBounds_toArray, List.set_cons_zero, List.set_cons_succ]
  refine wpAnyH_take (i := 39) (v := ?_) rfl (by kernel_rfl) (by kernel_rfl) (by kernel_rfl) (fun _ _ _ h => h) (Or.inl ⟨by kernel_rfl, ?_⟩) (by assumption) ?_
  rotate_left
  · intro wS hSw
    try dsimp only at hSw
    go_simp
    try with_reducible rfl
  simp only [List.getElem_toArray, List.getElem_cons_succ, List.getElem_cons_zero, Act.put, List.setIfInBounds_toArray, List.set_cons_zero, List.set_cons_succ]
  refine wpAnyH_take (i := 40) (v := ?_) rfl (by kernel_rfl) (by kernel_rfl) (by kernel_rfl) (fun _ _ _ h => h) (Or.inl ⟨by kernel_rfl, ?_⟩) (by assumption) ?_
  rotate_left
  · intro wS hSw
    try dsimp only at hSw
    go_simp
    try with_reducible rfl
  simp only [List.getElem_toArray, List.getElem_cons_succ, List.getElem_cons_zero, Act.put, List.setIfInBounds_toArray, List.set_cons_zero, List.set_cons_succ]
  refine wpAnyH_take (i := 41) (v := ?_) rfl (by kernel_rfl) (by kernel_rfl) (by kernel_rfl) (fun _ _ _ h => h) (Or.inl ⟨by kernel_rfl, ?_⟩) (by assumption) ?_
  rotate_left
  · intro wS hSw
    try dsimp only at hSw
    go_simp
    try with_reducible rfl
  simp only [List.getElem_toArray, List.getElem_cons_succ, List.getElem_cons_zero, Act.put, List.setIfInBounds_toArray, List.set_cons_zero, List.set_cons_succ]
  refine wpAnyH_take (i := 42) (v := ?_) rfl (by kernel_rfl) (by kernel_rfl) (by kernel_rfl) (fun _ _ _ h => h) (Or.inl ⟨by kernel_rfl, ?_⟩) (by assumption) ?_
  rotate_left
  · intro wS hSw
    try dsimp only at hSw
    go_simp
    try with_reducible rfl
  simp only [List.getElem_toArray, List.getElem_cons_succ, List.getElem_cons_zero, Act.put, List.setIfInBounds_toArray, List.set_cons_zero, List.set_cons_succ]
  refine wpAnyH_take (i := 45) (v := ?_) rfl (by kernel_rfl) (by kernel_rfl) (by kernel_rfl) (fun _ _ _ h => h) (Or.inl ⟨by kernel_rfl, ?_⟩) (by assumption) ?_
  rotate_left
  · intro wS hSw
    try dsimp only at hSw
    go_simp
    try with_reducible rfl
  simp only [List.getElem_toArray, List.getElem_cons_succ, List.getElem_cons_zero, Act.put, List.setIfInBounds_toArray, List.set_cons_zero, List.set_cons_succ]
  refine wpAnyH_ready (rs := [43]) (by kernel_rfl) (by simp) ?_
  refine AllReadyH.cons rfl (fun K hK => ?_) AllReadyH.nil
  go_simp
  refine hK.out _ _ trivial (fun hHeld' => ?_)
  clear hHeld hK K
  have hHeld := hHeld'
  clear hHeld'
  try simp only [List.getElem_toArray, List.getElem_cons_succ, List.getElem_cons_zero, Act.put, List.setIfInBounds_toArray, List.set_cons_zero, List.set_cons_succ]
  refine wpAnyH_take (i := 44) (v := ?_) rfl (by kernel_rfl) (by kernel_rfl) (by kernel_rfl) (fun _ _ _ h => h) (Or.inl ⟨by kernel_rfl, ?_⟩) (by assumption) ?_
  rotate_left
  · intro wS hSw
    try dsimp only at hSw
    go_simp
    try with_reducible rfl
  simp only [List.getElem_toArray, List.getElem_cons_succ, List.getElem_cons_zero, Act.put, List.setIfInBounds_toArray, List.set_cons_zero, List.set_cons_succ]
  refine wpAnyH_done (by kernel_rfl) ?_ _
  clear hHeld
  have hx := (At.new (v4.alloc (.cells #[.int .u8 x.toNat] 5)) 9 #[.string F, .string U1, .string U2, .string A, .string U4, .string U5, .string U6]).drew
  rw [World.size_alloc] at hx
  have hO2 := ((HO.out.alloc (.cells #[.int .u8 x.toNat] 5)).alloc (.cells #[.string F, .string U1, .string U2, .string A, .string U4, .string U5, .string U6] 9)).drew
  clear HO HA HbA HS
  generalize ((v4.alloc (.cells #[.int .u8 x.toNat] 5)).alloc (.cells #[.string F, .string U1, .string U2, .string A, .string U4, .string U5, .string U6] 9)).drew = v5 at hx hO2 ⊢
  generalize v4.heap.size + 1 = pr at hx ⊢
  have HR := Lib.hid hx
  have HO := Lib.hid hO2
  have HV : Hid (∀ k, k < 7 → ∃ V : ByteArray, V.size ≤ 9000 ∧ (#[.string F, .string U1, .string U2, .string A, .string U4, .string U5, .string U6] : Array Value)[k]? = some (.string V)) := Lib.hid (fun k hk => by
    obtain ⟨h0, h1, h2, h3, h4, h5, h6⟩ := hU.out
    rcases (show k = 0 ∨ k = 1 ∨ k = 2 ∨ k = 3 ∨ k = 4 ∨ k = 5 ∨ k = 6 by omega) with rfl | rfl | rfl | rfl | rfl | rfl | rfl
    · exact ⟨_, h0, rfl⟩
    · exact ⟨_, h1, rfl⟩
    · exact ⟨_, h2, rfl⟩
    · exact ⟨_, h3, rfl⟩
    · exact ⟨_, h4, rfl⟩
    · exact ⟨_, h5, rfl⟩
    · exact ⟨_, h6, rfl⟩)
  generalize hrow : (#[.string F, .string U1, .string U2, .string A, .string U4, .string U5, .string U6] : Array Value) = row at HR HV
  clear hrow hx hO2 y1 y2 y3 y4 y5 y6 hU eA eB eE eF eAC eU1 eU2 eU4 eU5 eU6 hTC z2 hcv em0 em1 em2 hn1 hn2 hm1 hm2 hm3 hw1
  have hF9 : F.size ≤ 100 := HF.out
  go_wp2_with fail
  go_loopg [94] 7 (fun gk ix wr => RlRel 7 v5 gk ix wr)
  case atStart => exact ⟨0, rfl, by omega, rfl, Lib.hid (Only.refl [] _)⟩
  case round =>
    obtain ⟨k, rfl, hk, rfl, hO⟩ := hrel
    by_cases hlt : k < 7
    · have hlt' : (k : Int) < 7 := by omega
      obtain ⟨V, hV, hVk⟩ := HV.out k hlt
      have r0 : wr.cell? ⟨pr, k, none⟩ = some (.string V) := (HR.out.keep hO.out (by simp)).cell k hVk
      have f9 : IntKind.i64.wrap ((k : Int) + 1) = ((k + 1 : Nat) : Int) := by rw [show (k : Int) + 1 = ((k + 1 : Nat) : Int) by omega]; exact IntWalk.i64_in _ (by omega)
      have hd1 := fun ww => da_t V (by omega) ww
      have hd2 := fun ww => rda_t V (by omega) ww
      generalize daT V = DV at hd1 hd2
      obtain ⟨DL, DE⟩ := DV
      clear hVk
      go_wp2_with fail
      refine (hd1 _).mono ?_
      rintro e v1 ⟨xv, xs, rfl, hxr, hxe, hxl, ho1⟩
      have HX := Lib.hid hxr
      have HXE := Lib.hid hxe
      have HO1 := Lib.hid (hO.out.trans ho1)
      obtain ⟨xa, xc, rfl⟩ := hxr.shape
      clear r0 hO hxr hxe ho1 hd1
      go_wp2_with fail
      refine (hd2 _).mono ?_
      rintro e v2 ⟨yv, ys, rfl, hyr, hye, hyl, ho2⟩
      have HY := Lib.hid hyr
      have HYE := Lib.hid hye
      have HX2 := Lib.hid (HX.out.keep ho2)
      have HO2 := Lib.hid (HO1.out.trans ho2)
      obtain ⟨ya, yc, rfl⟩ := hyr.shape
      clear HX HO1 hyr hye ho2 hd2
      go_wp2_with fail
      refine (sameAll_c _ _ xs ys _ HX2.out.sl HY.out.sl (by omega)).mono ?_
      rintro e v3 ⟨z, rfl, hz, ho3⟩
      obtain rfl : z = true := hz.2 (HXE.out.trans HYE.out.symm)
      have HO3 := Lib.hid (HO2.out.trans ho3)
      clear hz ho3 HO2 HX2 HY HXE HYE hxl hyl
      go_wp2_with fail
      have hI := At.new v3 3 #[.int .i64 0, .int .i64 a2, .int .i64 n, .int .i64 F.size]
      have hO4 := HO3.out.alloc (.cells #[.int .i64 0, .int .i64 a2, .int .i64 n, .int .i64 F.size] 3)
      generalize v3.alloc (.cells #[.int .i64 0, .int .i64 a2, .int .i64 n, .int .i64 F.size] 3) = v4 at hI hO4 ⊢
      generalize v3.heap.size = pi at hI ⊢
      have HI := Lib.hid hI
      have HO4 := Lib.hid hO4
      have HJ : Hid (∀ j, j < 4 → ∃ I : Int, (#[.int .i64 0, .int .i64 a2, .int .i64 n, .int .i64 F.size] : Array Value)[j]? = some (.int .i64 I)) := Lib.hid (fun j hj => by
        rcases (show j = 0 ∨ j = 1 ∨ j = 2 ∨ j = 3 by omega) with rfl | rfl | rfl | rfl
        · exact ⟨_, rfl⟩
        · exact ⟨_, rfl⟩
        · exact ⟨_, rfl⟩
        · exact ⟨_, rfl⟩)
      clear hI hO4 HO3
      go_loopg [123] 4 (fun gk ix wr => RlRel 4 v4 gk ix wr)
      case atStart => exact ⟨0, rfl, by omega, rfl, Lib.hid (Only.refl [] _)⟩
      case round =>
        obtain ⟨j, rfl, hj, rfl, hQ⟩ := hrel
        by_cases hjl : j < 4
        · have hjl' : (j : Int) < 4 := by omega
          obtain ⟨I, hIj⟩ := HJ.out j hjl
          have r1 : wr.cell? ⟨pi, j, none⟩ = some (.int .i64 I) := (HI.out.keep hQ.out (by simp)).cell j hIj
          have f8 : IntKind.i64.wrap ((j : Int) + 1) = ((j + 1 : Nat) : Int) := by rw [show (j : Int) + 1 = ((j + 1 : Nat) : Int) by omega]; exact IntWalk.i64_in _ (by omega)
          have hd1 := fun ww => dec_t V I (by omega) ww
          have hd2 := fun ww => rdec_t V I (by omega) ww
          generalize decT V I = DV at hd1 hd2
          obtain ⟨f, X, E9⟩ := DV
          clear hIj
          go_wp2_with fail
          refine (hd1 _).mono ?_
          rintro e v5 ⟨rv1, rfl, hr1, hl1, ho5⟩
          obtain ⟨ra, rc, rfl, hrx⟩ := hr1
          have HA : Hid (RgAt v5 (.slice ra f.rg.length rc) f.rg) := Lib.hid ⟨ra, rc, rfl, hrx⟩
          have HQ5 := Lib.hid (hQ.out.trans ho5)
          clear r1 hQ ho5 hrx hd1
          simp only [frC]
          go_upto_region 17 with fail
          have hX := At.new v5 33 #[.int .i64 f.ty, .int .i64 f.st, .int .i64 f.off, .string (strB f.S), .bool f.fin, .int .i64 f.mx, .int .i64 f.cd, .bool f.uni, .int .i64 f.dl, .slice ra f.rg.length rc, .int .i64 f.sq, .int .i64 f.rt, .string (strB f.cid)]
          have hk6 : Only [] v5 (v5.alloc (.cells #[.int .i64 f.ty, .int .i64 f.st, .int .i64 f.off, .string (strB f.S), .bool f.fin, .int .i64 f.mx, .int .i64 f.cd, .bool f.uni, .int .i64 f.dl, .slice ra f.rg.length rc, .int .i64 f.sq, .int .i64 f.rt, .string (strB f.cid)] 33)) := (Only.refl [] v5).alloc (.cells #[.int .i64 f.ty, .int .i64 f.st, .int .i64 f.off, .string (strB f.S), .bool f.fin, .int .i64 f.mx, .int .i64 f.cd, .bool f.uni, .int .i64 f.dl, .slice ra f.rg.length rc, .int .i64 f.sq, .int .i64 f.rt, .string (strB f.cid)] 33)
          have hQ6 := HQ5.out.alloc (.cells #[.int .i64 f.ty, .int .i64 f.st, .int .i64 f.off, .string (strB f.S), .bool f.fin, .int .i64 f.mx, .int .i64 f.cd, .bool f.uni, .int .i64 f.dl, .slice ra f.rg.length rc, .int .i64 f.sq, .int .i64 f.rt, .string (strB f.cid)] 33)
          generalize v5.alloc (.cells #[.int .i64 f.ty, .int .i64 f.st, .int .i64 f.off, .string (strB f.S), .bool f.fin, .int .i64 f.mx, .int .i64 f.cd, .bool f.uni, .int .i64 f.dl, .slice ra f.rg.length rc, .int .i64 f.sq, .int .i64 f.rt, .string (strB f.cid)] 33) = v6 at hX hk6 hQ6 ⊢
          generalize v5.heap.size = p1 at hX ⊢
          have HX := Lib.hid hX
          have HA6 := Lib.hid (HA.out.keep hk6)
          have HQ6 := Lib.hid hQ6
          clear hX hk6 hQ6 HQ5 HA
          go_wp2_with fail
          refine (hd2 _).mono ?_
          rintro e v7 ⟨rv2, rfl, hr2, hl2, ho7⟩
          obtain ⟨rb, rd, rfl, hry⟩ := hr2
          have HB7 : Hid (RgAt v7 (.slice rb f.rg.length rd) f.rg) := Lib.hid ⟨rb, rd, rfl, hry⟩
          have HX7 := Lib.hid (HX.out.keep ho7 (by simp))
          have HA7 := Lib.hid (HA6.out.keep ho7)
          have HQ7 := Lib.hid (HQ6.out.trans ho7)
          clear ho7 hry hd2 HX HA6 HQ6
          simp only [frC]
          go_upto_region 18 with fail
          have hY := At.new v7 33 #[.int .i64 f.ty, .int .i64 f.st, .int .i64 f.off, .string (strB f.S), .bool f.fin, .int .i64 f.mx, .int .i64 f.cd, .bool f.uni, .int .i64 f.dl, .slice rb f.rg.length rd, .int .i64 f.sq, .int .i64 f.rt, .string (strB f.cid)]
          have hk8 : Only [] v7 (v7.alloc (.cells #[.int .i64 f.ty, .int .i64 f.st, .int .i64 f.off, .string (strB f.S), .bool f.fin, .int .i64 f.mx, .int .i64 f.cd, .bool f.uni, .int .i64 f.dl, .slice rb f.rg.length rd, .int .i64 f.sq, .int .i64 f.rt, .string (strB f.cid)] 33)) := (Only.refl [] v7).alloc (.cells #[.int .i64 f.ty, .int .i64 f.st, .int .i64 f.off, .string (strB f.S), .bool f.fin, .int .i64 f.mx, .int .i64 f.cd, .bool f.uni, .int .i64 f.dl, .slice rb f.rg.length rd, .int .i64 f.sq, .int .i64 f.rt, .string (strB f.cid)] 33)
          have hX8 := HX7.out.alloc (.cells #[.int .i64 f.ty, .int .i64 f.st, .int .i64 f.off, .string (strB f.S), .bool f.fin, .int .i64 f.mx, .int .i64 f.cd, .bool f.uni, .int .i64 f.dl, .slice rb f.rg.length rd, .int .i64 f.sq, .int .i64 f.rt, .string (strB f.cid)] 33)
          have hQ8 := HQ7.out.alloc (.cells #[.int .i64 f.ty, .int .i64 f.st, .int .i64 f.off, .string (strB f.S), .bool f.fin, .int .i64 f.mx, .int .i64 f.cd, .bool f.uni, .int .i64 f.dl, .slice rb f.rg.length rd, .int .i64 f.sq, .int .i64 f.rt, .string (strB f.cid)] 33)
          generalize v7.alloc (.cells #[.int .i64 f.ty, .int .i64 f.st, .int .i64 f.off, .string (strB f.S), .bool f.fin, .int .i64 f.mx, .int .i64 f.cd, .bool f.uni, .int .i64 f.dl, .slice rb f.rg.length rd, .int .i64 f.sq, .int .i64 f.rt, .string (strB f.cid)] 33) = v8 at hY hk8 hX8 hQ8 ⊢
          generalize v7.heap.size = p2 at hY ⊢
          have HA8 := Lib.hid (HA7.out.keep hk8)
          have HB8 := Lib.hid (HB7.out.keep hk8)
          have HQ8 := Lib.hid hQ8
          have hsm := rsame_c f f (.slice ra f.rg.length rc) (.slice rb f.rg.length rd) v8 HA8.out HB8.out (by omega) (by omega)
          simp only [frC] at hsm
          have xa0 : v8.cell? ⟨p1, 0, none⟩ = some (.int .i64 f.ty) := hX8.cell 0 rfl
          have xa1 : v8.cell? ⟨p1, 1, none⟩ = some (.int .i64 f.st) := hX8.cell 1 rfl
          have xa2 : v8.cell? ⟨p1, 2, none⟩ = some (.int .i64 f.off) := hX8.cell 2 rfl
          have xa3 : v8.cell? ⟨p1, 3, none⟩ = some (.string (strB f.S)) := hX8.cell 3 rfl
          have xa4 : v8.cell? ⟨p1, 4, none⟩ = some (.bool f.fin) := hX8.cell 4 rfl
          have xa5 : v8.cell? ⟨p1, 5, none⟩ = some (.int .i64 f.mx) := hX8.cell 5 rfl
          have xa6 : v8.cell? ⟨p1, 6, none⟩ = some (.int .i64 f.cd) := hX8.cell 6 rfl
          have xa7 : v8.cell? ⟨p1, 7, none⟩ = some (.bool f.uni) := hX8.cell 7 rfl
          have xa8 : v8.cell? ⟨p1, 8, none⟩ = some (.int .i64 f.dl) := hX8.cell 8 rfl
          have xa9 : v8.cell? ⟨p1, 9, none⟩ = some (.slice ra f.rg.length rc) := hX8.cell 9 rfl
          have xa10 : v8.cell? ⟨p1, 10, none⟩ = some (.int .i64 f.sq) := hX8.cell 10 rfl
          have xa11 : v8.cell? ⟨p1, 11, none⟩ = some (.int .i64 f.rt) := hX8.cell 11 rfl
          have xa12 : v8.cell? ⟨p1, 12, none⟩ = some (.string (strB f.cid)) := hX8.cell 12 rfl
          have xb0 : v8.cell? ⟨p2, 0, none⟩ = some (.int .i64 f.ty) := hY.cell 0 rfl
          have xb1 : v8.cell? ⟨p2, 1, none⟩ = some (.int .i64 f.st) := hY.cell 1 rfl
          have xb2 : v8.cell? ⟨p2, 2, none⟩ = some (.int .i64 f.off) := hY.cell 2 rfl
          have xb3 : v8.cell? ⟨p2, 3, none⟩ = some (.string (strB f.S)) := hY.cell 3 rfl
          have xb4 : v8.cell? ⟨p2, 4, none⟩ = some (.bool f.fin) := hY.cell 4 rfl
          have xb5 : v8.cell? ⟨p2, 5, none⟩ = some (.int .i64 f.mx) := hY.cell 5 rfl
          have xb6 : v8.cell? ⟨p2, 6, none⟩ = some (.int .i64 f.cd) := hY.cell 6 rfl
          have xb7 : v8.cell? ⟨p2, 7, none⟩ = some (.bool f.uni) := hY.cell 7 rfl
          have xb8 : v8.cell? ⟨p2, 8, none⟩ = some (.int .i64 f.dl) := hY.cell 8 rfl
          have xb9 : v8.cell? ⟨p2, 9, none⟩ = some (.slice rb f.rg.length rd) := hY.cell 9 rfl
          have xb10 : v8.cell? ⟨p2, 10, none⟩ = some (.int .i64 f.sq) := hY.cell 10 rfl
          have xb11 : v8.cell? ⟨p2, 11, none⟩ = some (.int .i64 f.rt) := hY.cell 11 rfl
          have xb12 : v8.cell? ⟨p2, 12, none⟩ = some (.string (strB f.cid)) := hY.cell 12 rfl
          clear hY hX8 hk8 hQ8 HA7 HB7 HX7 HQ7
          go_wp2_with fail
          refine hsm.mono ?_
          rintro e v9 ⟨z, rfl, hz, ho9⟩
          obtain rfl : z = true := hz.2 (by first | trivial | rfl)
          have HQ9 := Lib.hid (HQ8.out.trans ho9)
          clear hz ho9 xa0 xb0 xa1 xb1 xa2 xb2 xa3 xb3 xa4 xb4 xa5 xb5 xa6 xb6 xa7 xb7 xa8 xb8 xa9 xb9 xa10 xb10 xa11 xb11 xa12 xb12
          go_wp2_with fail
          go_roundg (4 - (j + 1))
          case measure => omega
          case rel => exact ⟨j + 1, rfl, by omega, rfl, HQ9⟩
        · have hjl' : ¬ (j : Int) < 4 := by omega
          have HE := Lib.hid (HO4.out.trans hQ.out)
          clear hQ
          go_wp2_with fail
          go_roundg (7 - (k + 1))
          case measure => omega
          case rel => exact ⟨k + 1, rfl, by omega, rfl, HE⟩
    · have hlt' : ¬ (k : Int) < 7 := by omega
      have HE := Lib.hid (HO.out.trans hO.out)
      go_wp2_with fail
      go_ret
      exact ⟨rfl, HE.out.below (by simp) (Nat.le_refl _)⟩
end Go.Proofs.Ytmmgmpghkpbgkaa
