/- The walk of FrameTruncated. -/
import Derived.Test.YtmmgmpghkpbgkaaFtS
import Derived.Test.YtmmgmpghkpbgkaaArE
namespace Go.Proofs.Ytmmgmpghkpbgkaa
open Go Go.RowKit
set_option linter.unusedVariables false
set_option linter.unusedSimpArgs false

/-- A proper prefix of an encoding is not read. -/
theorem trunc_no {f : Fr} {s : List UInt8} (h : encF f = some s) (hR : InR f.rg) (n : Nat) (hn : n < s.length) : decF (s.take n) = none := by
  cases hd : decF (s.take n) with
  | none => rfl
  | some p =>
    obtain ⟨g, r⟩ := p
    obtain ⟨t, ht, he, hr⟩ := enc_dec hd
    have h2 : s ++ [] = t ++ (r ++ s.drop n) := by
      rw [List.append_nil, ← List.append_assoc, ← he, List.take_append_drop]
    obtain ⟨_, h3⟩ := enc_prefix h ht hR hr h2
    have := congrArg List.length h3
    simp at this
    omega
set_option maxRecDepth 100000 in
set_option maxHeartbeats 4000000 in
theorem trunc_walk (ty A B C : Int) (s : ByteArray) (fin : Bool) (sv : Value) (SL : List (Int × Int)) (a1 : Int) (w : World) (hF : FpOk ty A B C s) (hS : RgAt w sv SL) (w1 : (Lit.int .i64 a1).wf = true) :
    Calls Try.prog 7 #[.agg (fpC ty A B C s fin sv), .int .i64 a1] w fun e w' => e = .returned (.bool true) ∧ Below w.heap.size w w' := by
  obtain ⟨l1, u1⟩ := wf_i64 w1
  obtain ⟨sa, sc, rfl, hsx⟩ := hS
  have HS : Hid (RgAt w (.slice sa SL.length sc) SL) := Lib.hid ⟨sa, sc, rfl, hsx⟩
  have hff := fun ww hh => frameFrom_c ty A B C s fin (.slice sa SL.length sc) SL ww hh hF
  clear hsx hF w1
  simp only [fpC] at hff ⊢
  have HA := Lib.hid (At.new w 46 #[.int .i64 ty, .int .i64 A, .int .i64 B, .int .i64 C, .string s, .bool fin, .slice sa SL.length sc])
  have HO := Lib.hid ((Only.refl [] w).alloc (.cells #[.int .i64 ty, .int .i64 A, .int .i64 B, .int .i64 C, .string s, .bool fin, .slice sa SL.length sc] 46))
  go_enter Try.func7, Try.ntmps7
  go_wp2_with fail
  refine (sane9 _).mono ?_
  rintro e v1 ⟨rfl, ho⟩
  have hA1 := HA.out.keep ho (by simp)
  replace HO := Lib.hid (HO.out.trans ho)
  have c0 : v1.cell? ⟨w.heap.size, 0, none⟩ = some (.int .i64 ty) := hA1.cell 0 rfl
  have c1 : v1.cell? ⟨w.heap.size, 1, none⟩ = some (.int .i64 A) := hA1.cell 1 rfl
  have c2 : v1.cell? ⟨w.heap.size, 2, none⟩ = some (.int .i64 B) := hA1.cell 2 rfl
  have c3 : v1.cell? ⟨w.heap.size, 3, none⟩ = some (.int .i64 C) := hA1.cell 3 rfl
  have c4 : v1.cell? ⟨w.heap.size, 4, none⟩ = some (.string s) := hA1.cell 4 rfl
  have c5 : v1.cell? ⟨w.heap.size, 5, none⟩ = some (.bool fin) := hA1.cell 5 rfl
  have c6 : v1.cell? ⟨w.heap.size, 6, none⟩ = some (.slice sa SL.length sc) := hA1.cell 6 rfl
  clear ho hA1 HA
  go_wp2_with fail
  refine (hff _ (HS.out.keep HO.out)).mono ?_
  rintro e v2 ⟨f, rv, t, rfl, hok, _, hen, _, ho⟩
  replace HO := Lib.hid (HO.out.trans ho)
  have hec := fun ww hh => enc_ok f rv ww hh hen
  have HK := Lib.hid hok
  clear ho c0 c1 c2 c3 c4 c5 c6 hok
  go_wp2_with fail
  refine (hec _ HK.out).mono ?_
  rintro e v3 ⟨rfl, ho⟩
  replace HO := Lib.hid (HO.out.trans ho)
  have hl := encF_len hen
  have hz : (strB t).size = t.length := strB_size t
  have hpk := fun ww => pk9 a1 (t.length : Int) ww l1 u1 (by omega)
  have hpb := pkZ_bd a1 (t.length : Int) (by omega)
  obtain ⟨n, hn⟩ : ∃ n : Nat, pkZ a1 (t.length : Int) = n := ⟨(pkZ a1 (t.length : Int)).toNat, by omega⟩
  rw [hn] at hpk hpb
  have hne : ((t.length : Int) == 0) = false := beq_eq_false_iff_ne.2 (by omega)
  have hcut : (strB t).extract 0 n = strB (t.take n) := by rw [ext_list, strB_list]; simp
  have hdn := trunc_no hen HK.out.inr n (by omega)
  have hdc : ∀ ww, Calls Try.prog 18 #[.string (strB (t.take n)), .int .i64 0] ww fun e w' => e = .returned (.tuple #[.agg #[.int .i64 0, .int .i64 0, .int .i64 0, .string ⟨#[]⟩, .bool false, .int .i64 0, .int .i64 0, .bool false, .int .i64 0, .slice none 0 0, .int .i64 0, .int .i64 0, .string ⟨#[]⟩], .int .i64 0, .int .i64 90]) ∧ Only [] ww w' := fun ww => by
    refine (dec_any (strB (t.take n)) (by rw [strB_size]; simp; omega) ww).mono fun e w' ⟨h1, h2⟩ => ?_
    rw [strB_list, hdn] at h2
    exact ⟨h2, h1⟩
  have hn1 : (n : Int) ≤ t.length := by omega
  have hn2 : n ≤ t.length := by omega
  clear ho hec hn hdn hen hl
  go_wp2_with fail
  refine (hpk _).mono ?_
  rintro e vx ⟨rfl, rfl⟩
  go_wp2_with fail
  refine (hdc _).mono ?_
  rintro e v4 ⟨rfl, ho⟩
  replace HO := Lib.hid (HO.out.trans ho)
  clear ho
  go_wp2_with fail
  go_ret
  exact ⟨rfl, (HO.out.alloc _).below (by simp) (Nat.le_refl _)⟩
end Go.Proofs.Ytmmgmpghkpbgkaa
