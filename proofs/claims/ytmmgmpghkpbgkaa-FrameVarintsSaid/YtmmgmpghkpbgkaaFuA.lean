/- The walk of FrameVarints. -/
import Derived.Test.YtmmgmpghkpbgkaaFtS
import Derived.Test.YtmmgmpghkpbgkaaFsC
import Derived.Test.YtmmgmpghkpbgkaaArg
namespace Go.Proofs.Ytmmgmpghkpbgkaa
open Go Go.RowKit
set_option linter.unusedVariables false
set_option linter.unusedSimpArgs false

theorem venc_i (x : Int) (h0 : 0 ≤ x) (h1 : x ≤ 4611686018427387903) (w : World) : Calls Try.prog 34 #[.int .i64 x] w fun e w' => e = .returned (.tuple #[.string (strB (vEnc x)), .int .i64 0]) ∧ Only [] w w' := by
  obtain ⟨n, rfl⟩ : ∃ n : Nat, x = n := ⟨x.toNat, by omega⟩
  exact vencode_c n (by omega) w
theorem vEnc_len8 (x : Int) : (strB (vEnc x)).size ≤ 8 := by
  rw [strB_size, vEnc_len]
  unfold vWid
  repeat' (first | omega | split)
/-- What the law wants of Encode and of varint. -/
structure VarC (x y z : Int) (s U V Wd Nn P Q R Fw : ByteArray) : Prop where
  u : ∀ w : World, Calls Try.prog 34 #[.int .i64 x] w fun e w' => e = .returned (.tuple #[.string U, .int .i64 0]) ∧ Only [] w w'
  v : ∀ w : World, Calls Try.prog 34 #[.int .i64 y] w fun e w' => e = .returned (.tuple #[.string V, .int .i64 0]) ∧ Only [] w w'
  wd : ∀ w : World, Calls Try.prog 34 #[.int .i64 z] w fun e w' => e = .returned (.tuple #[.string Wd, .int .i64 0]) ∧ Only [] w w'
  n : ∀ w : World, Calls Try.prog 34 #[.int .i64 Fw.size] w fun e w' => e = .returned (.tuple #[.string Nn, .int .i64 0]) ∧ Only [] w w'
  p : ∀ w : World, Calls Try.prog 17 #[.agg #[.int .i64 4, .int .i64 x, .int .i64 0, .string ⟨#[]⟩, .bool false, .int .i64 z, .int .i64 y, .bool false, .int .i64 0, .slice none 0 0, .int .i64 0, .int .i64 0, .string ⟨#[]⟩]] w fun e w' => e = .returned (.tuple #[.string P, .int .i64 0]) ∧ Only [] w w'
  q : ∀ w : World, Calls Try.prog 17 #[.agg #[.int .i64 8, .int .i64 x, .int .i64 z, .string Fw, .bool false, .int .i64 0, .int .i64 0, .bool false, .int .i64 0, .slice none 0 0, .int .i64 0, .int .i64 0, .string ⟨#[]⟩]] w fun e w' => e = .returned (.tuple #[.string Q, .int .i64 0]) ∧ Only [] w w'
  r : ∀ w : World, Calls Try.prog 17 #[.agg #[.int .i64 17, .int .i64 x, .int .i64 0, .string ⟨#[]⟩, .bool false, .int .i64 z, .int .i64 0, .bool false, .int .i64 0, .slice none 0 0, .int .i64 0, .int .i64 0, .string ⟨#[]⟩]] w fun e w' => e = .returned (.tuple #[.string R, .int .i64 0]) ∧ Only [] w w'
  z1 : U.size ≤ 8
  z2 : V.size ≤ 8
  z3 : Wd.size ≤ 8
  z4 : Nn.size ≤ 8
  z5 : Fw.size ≤ 60
  e1 : ((⟨#[4]⟩ ++ U) ++ V) ++ Wd = P
  e2 : (((⟨#[8]⟩ ++ U) ++ Wd) ++ Nn) ++ Fw = Q
  e3 : (⟨#[17]⟩ ++ U) ++ Wd = R
theorem var4 (x y z : Int) (hx : 0 ≤ x ∧ x < 4611686018427387904) (hy : 0 ≤ y ∧ y < 1073741824) (hz : 0 ≤ z ∧ z < 1099511627676) (w : World) : Calls Try.prog 17 #[.agg #[.int .i64 4, .int .i64 x, .int .i64 0, .string ⟨#[]⟩, .bool false, .int .i64 z, .int .i64 y, .bool false, .int .i64 0, .slice none 0 0, .int .i64 0, .int .i64 0, .string ⟨#[]⟩]] w fun e w' => e = .returned (.tuple #[.string (strB (4 :: (vEnc x ++ (vEnc y ++ (vEnc z ++ []))))), .int .i64 0]) ∧ Only [] w w' := by
  have hV : mV = 4611686018427387903 := rfl
  have hO : mO = 1099511627776 := rfl
  have hC : mC = 1073741823 := rfl
  have n1 : numE x mV = some (vEnc x) := numE_mk (by omega) hx.1 (by omega)
  have n2 : numE y mC = some (vEnc y) := numE_mk (by omega) hy.1 (by omega)
  have n3 : numE z mO = some (vEnc z) := numE_mk (by omega) hz.1 (by omega)
  have p1 : puts [.int mV .st, .int mC .cd, .int mO .mx] ({ Fr.zero 4 with st := x, cd := y, mx := z } : Fr) = some ((vEnc x ++ (vEnc y ++ (vEnc z ++ [])))) := by
    simp only [puts, putP, Fr.get, n1, n2, n3]
  have q1 : encF ({ Fr.zero 4 with st := x, cd := y, mx := z } : Fr) = some (4 :: (vEnc x ++ (vEnc y ++ (vEnc z ++ [])))) := encF_mk (f := { Fr.zero 4 with st := x, cd := y, mx := z }) rfl (fun h => by cases h.1) p1 rfl
  have hk : FrOk w ({ Fr.zero 4 with st := x, cd := y, mx := z } : Fr) (.slice none 0 0) := okZ w _ (by constructor <;> simp [Fr.zero] <;> omega) (by simp [Fr.zero]) rfl
  exact enc_ok ({ Fr.zero 4 with st := x, cd := y, mx := z } : Fr) (.slice none 0 0) w hk q1
theorem var8 (x z : Int) (F : List UInt8) (hx : 0 ≤ x ∧ x < 4611686018427387904) (hz : 0 ≤ z ∧ z < 1099511627676) (hf : F.length ≤ 60) (w : World) : Calls Try.prog 17 #[.agg #[.int .i64 8, .int .i64 x, .int .i64 z, .string (strB F), .bool false, .int .i64 0, .int .i64 0, .bool false, .int .i64 0, .slice none 0 0, .int .i64 0, .int .i64 0, .string ⟨#[]⟩]] w fun e w' => e = .returned (.tuple #[.string (strB (8 :: (vEnc x ++ (vEnc z ++ ((vEnc F.length ++ F) ++ []))))), .int .i64 0]) ∧ Only [] w w' := by
  have hV : mV = 4611686018427387903 := rfl
  have hO : mO = 1099511627776 := rfl
  have hC : mC = 1073741823 := rfl
  have n1 : numE x mV = some (vEnc x) := numE_mk (by omega) hx.1 (by omega)
  have n3 : numE z mO = some (vEnc z) := numE_mk (by omega) hz.1 (by omega)
  have n4 : numE (F.length : Int) ((1024 : Nat) : Int) = some (vEnc F.length) := numE_mk (by omega) (by omega) (by omega)
  have n5 : ¬ (F.length < 0 ∨ 1099511627776 < w64 (z + F.length)) := by rw [w64_in (by omega) (by omega)]; omega
  have p1 : puts [.int mV .st, .int mO .off, .text 0 1024] ({ Fr.zero 8 with st := x, off := z, S := F } : Fr) = some ((vEnc x ++ (vEnc z ++ ((vEnc F.length ++ F) ++ [])))) := by
    simp only [puts, putP, Fr.get, n1, n3, if_neg n5, n4, Option.map_some]
  have q1 : encF ({ Fr.zero 8 with st := x, off := z, S := F } : Fr) = some (8 :: (vEnc x ++ (vEnc z ++ ((vEnc F.length ++ F) ++ [])))) := encF_mk (f := { Fr.zero 8 with st := x, off := z, S := F }) rfl (fun h => by cases h.1) p1 rfl
  have hk : FrOk w ({ Fr.zero 8 with st := x, off := z, S := F } : Fr) (.slice none 0 0) := okZ w _ (by constructor <;> simp [Fr.zero] <;> omega) (by simp [Fr.zero]) rfl
  exact enc_ok ({ Fr.zero 8 with st := x, off := z, S := F } : Fr) (.slice none 0 0) w hk q1
theorem var17 (x z : Int) (hx : 0 ≤ x ∧ x < 4611686018427387904) (hz : 0 ≤ z ∧ z < 1099511627676) (w : World) : Calls Try.prog 17 #[.agg #[.int .i64 17, .int .i64 x, .int .i64 0, .string ⟨#[]⟩, .bool false, .int .i64 z, .int .i64 0, .bool false, .int .i64 0, .slice none 0 0, .int .i64 0, .int .i64 0, .string ⟨#[]⟩]] w fun e w' => e = .returned (.tuple #[.string (strB (17 :: (vEnc x ++ (vEnc z ++ [])))), .int .i64 0]) ∧ Only [] w w' := by
  have hV : mV = 4611686018427387903 := rfl
  have hO : mO = 1099511627776 := rfl
  have hC : mC = 1073741823 := rfl
  have n1 : numE x mV = some (vEnc x) := numE_mk (by omega) hx.1 (by omega)
  have n3 : numE z mV = some (vEnc z) := numE_mk (by omega) hz.1 (by omega)
  have p1 : puts [.int mV .st, .int mV .mx] ({ Fr.zero 17 with st := x, mx := z } : Fr) = some ((vEnc x ++ (vEnc z ++ []))) := by
    simp only [puts, putP, Fr.get, n1, n3]
  have q1 : encF ({ Fr.zero 17 with st := x, mx := z } : Fr) = some (17 :: (vEnc x ++ (vEnc z ++ []))) := encF_mk (f := { Fr.zero 17 with st := x, mx := z }) rfl (fun h => by cases h.1) p1 rfl
  have hk : FrOk w ({ Fr.zero 17 with st := x, mx := z } : Fr) (.slice none 0 0) := okZ w _ (by constructor <;> simp [Fr.zero] <;> omega) (by simp [Fr.zero]) rfl
  exact enc_ok ({ Fr.zero 17 with st := x, mx := z } : Fr) (.slice none 0 0) w hk q1
theorem varC (x y z : Int) (s : ByteArray) (hx : 0 ≤ x ∧ x < 4611686018427387904) (hy : 0 ≤ y ∧ y < 1073741824) (hz : 0 ≤ z ∧ z < 1099511627676) : ∃ U V Wd Nn P Q R, VarC x y z s U V Wd Nn P Q R (strB (few s)) := by
  have hf := few_len s
  obtain ⟨F, hF⟩ : ∃ F, few s = F := ⟨_, rfl⟩
  rw [hF] at hf ⊢
  have v1 : ∀ w, _ := venc_i x hx.1 (by omega)
  have v2 : ∀ w, _ := venc_i y hy.1 (by omega)
  have v3 : ∀ w, _ := venc_i z hz.1 (by omega)
  have v4 : ∀ w, _ := venc_i (F.length : Int) (by omega) (by omega)
  rw [← strB_size] at v4
  refine ⟨strB (vEnc x), strB (vEnc y), strB (vEnc z), strB (vEnc (strB F).size), strB (4 :: (vEnc x ++ (vEnc y ++ (vEnc z ++ [])))), strB (8 :: (vEnc x ++ (vEnc z ++ ((vEnc F.length ++ F) ++ [])))), strB (17 :: (vEnc x ++ (vEnc z ++ []))), ?_⟩
  constructor
  · exact v1
  · exact v2
  · exact v3
  · exact v4
  · exact var4 x y z hx hy hz
  · exact var8 x z F hx hz hf
  · exact var17 x z hx hz
  · exact vEnc_len8 _
  · exact vEnc_len8 _
  · exact vEnc_len8 _
  · exact vEnc_len8 _
  · rw [strB_size]; exact hf
  · rw [show (⟨#[4]⟩ : ByteArray) = strB [4] from rfl, ← strB_app, ← strB_app, ← strB_app]
    simp
  · rw [show (⟨#[8]⟩ : ByteArray) = strB [8] from rfl, ← strB_app, ← strB_app, ← strB_app, ← strB_app, strB_size]
    simp
  · rw [show (⟨#[17]⟩ : ByteArray) = strB [17] from rfl, ← strB_app, ← strB_app]
    simp
set_option maxRecDepth 100000 in
set_option maxHeartbeats 4000000 in
theorem varints_walk (a0 a1 a2 : Int) (s : ByteArray) (w : World) (w0 : (Lit.int .i64 a0).wf = true) (w1 : (Lit.int .i64 a1).wf = true) (w2 : (Lit.int .i64 a2).wf = true) (w3 : s.size ≤ maxLen) :
    Calls Try.prog 10 #[.int .i64 a0, .int .i64 a1, .int .i64 a2, .string s] w fun e w' => e = .returned (.bool true) ∧ Below w.heap.size w w' := by
  obtain ⟨l0, u0⟩ := wf_i64 w0
  obtain ⟨l1, u1⟩ := wf_i64 w1
  obtain ⟨l2, u2⟩ := wf_i64 w2
  unfold maxLen at w3
  obtain ⟨x, hx⟩ : ∃ x, pkZ a0 4611686018427387904 = x := ⟨_, rfl⟩
  obtain ⟨y, hy⟩ : ∃ y, pkZ a1 1073741824 = y := ⟨_, rfl⟩
  obtain ⟨z, hz⟩ : ∃ z, pkZ a2 1099511627676 = z := ⟨_, rfl⟩
  have px := fun ww => pk9 a0 4611686018427387904 ww l0 u0 (by omega)
  have py := fun ww => pk9 a1 1073741824 ww l1 u1 (by omega)
  have pz := fun ww => pk9 a2 1099511627676 ww l2 u2 (by omega)
  have bx := pkZ_bd a0 4611686018427387904 (by omega)
  have by' := pkZ_bd a1 1073741824 (by omega)
  have bz := pkZ_bd a2 1099511627676 (by omega)
  rw [hx] at px bx
  rw [hy] at py by'
  rw [hz] at pz bz
  obtain ⟨U, V, Wd, Nn, P, Q, R, hvc⟩ := varC x y z s bx by' bz
  have HV := Lib.hid hvc
  have e1 := hvc.e1
  have e2 := hvc.e2
  have e3 := hvc.e3
  have z1 := hvc.z1
  have z2 := hvc.z2
  have z3 := hvc.z3
  have z4 := hvc.z4
  have z5 := hvc.z5
  have em : min (s.size : Int) 60 = ((min s.size 60 : Nat) : Int) := by omega
  have ex : s.extract 0 (min s.size 60) = strB (few s) := few_str s _ rfl
  clear hx hy hz hvc w0 w1 w2
  generalize strB (few s) = Fw at HV e2 z5 ex
  go_enter Try.func10, Try.ntmps10
  go_wp2_with fail
  refine (sane9 _).mono ?_
  rintro e v1 ⟨rfl, ho⟩
  have HO := Lib.hid ho
  clear ho
  go_wp2_with fail
  refine (px _).mono ?_
  rintro e vx ⟨rfl, rfl⟩
  go_wp2_with fail
  refine (py _).mono ?_
  rintro e vx ⟨rfl, rfl⟩
  go_wp2_with fail
  refine (pz _).mono ?_
  rintro e vx ⟨rfl, rfl⟩
  go_wp2_with fail
  refine (HV.out.u _).mono ?_
  rintro e v2 ⟨rfl, ho⟩
  replace HO := Lib.hid (HO.out.trans ho)
  clear ho
  go_wp2_with fail
  refine (HV.out.v _).mono ?_
  rintro e v3 ⟨rfl, ho⟩
  replace HO := Lib.hid (HO.out.trans ho)
  clear ho
  go_wp2_with fail
  refine (HV.out.wd _).mono ?_
  rintro e v4 ⟨rfl, ho⟩
  replace HO := Lib.hid (HO.out.trans ho)
  clear ho
  go_wp2_with fail
  refine (HV.out.n _).mono ?_
  rintro e v5 ⟨rfl, ho⟩
  replace HO := Lib.hid (HO.out.trans ho)
  clear ho
  go_wp2_with fail
  refine (HV.out.p _).mono ?_
  rintro e v6 ⟨rfl, ho⟩
  replace HO := Lib.hid (HO.out.trans ho)
  clear ho
  go_wp2_with fail
  refine (HV.out.q _).mono ?_
  rintro e v7 ⟨rfl, ho⟩
  replace HO := Lib.hid (HO.out.trans ho)
  clear ho
  go_wp2_with fail
  refine (HV.out.r _).mono ?_
  rintro e v8 ⟨rfl, ho⟩
  replace HO := Lib.hid (HO.out.trans ho)
  clear ho
  go_wp2_with fail
  go_ret
  exact ⟨rfl, HO.out.below (by simp) (Nat.le_refl _)⟩
end Go.Proofs.Ytmmgmpghkpbgkaa
