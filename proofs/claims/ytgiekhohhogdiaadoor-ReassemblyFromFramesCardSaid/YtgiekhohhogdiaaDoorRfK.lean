/- Contracts of package frame: equality of frames. -/
import Derived.Test.YtgiekhohhogdiaaDoorRfJ
namespace Go.Proofs.YtgiekhohhogdiaaDoor
open Go Go.RowKit
set_option linter.unusedVariables false
set_option linter.unusedSimpArgs false

theorem toList_inj {a b : ByteArray} (h : a.toList = b.toList) : a = b := by
  rw [ByteArray.toList_eq, ByteArray.toList_eq] at h
  cases a; cases b
  simpa using h
theorem strB_inj {a b : List UInt8} (h : strB a = strB b) : a = b := by
  have := congrArg (fun x : ByteArray => x.data.toList) h
  simpa [strB_list] using this
set_option maxRecDepth 100000 in
set_option maxHeartbeats 4000000 in
theorem same_0 (ty1 ty2 : Int) (st1 st2 : Int) (off1 off2 : Int) (S1 S2 : ByteArray) (fin1 fin2 : Bool) (mx1 mx2 : Int) (cd1 cd2 : Int) (uni1 uni2 : Bool) (dl1 dl2 : Int) (sq1 sq2 : Int) (rt1 rt2 : Int) (cid1 cid2 : ByteArray) (rv1 rv2 : Value) (h : ty1 ≠ ty2) (w : World) :
    Calls Tryd.prog 35 #[.agg #[.int .i64 ty1, .int .i64 st1, .int .i64 off1, .string S1, .bool fin1, .int .i64 mx1, .int .i64 cd1, .bool uni1, .int .i64 dl1, rv1, .int .i64 sq1, .int .i64 rt1, .string cid1], .agg #[.int .i64 ty2, .int .i64 st2, .int .i64 off2, .string S2, .bool fin2, .int .i64 mx2, .int .i64 cd2, .bool uni2, .int .i64 dl2, rv2, .int .i64 sq2, .int .i64 rt2, .string cid2]] w fun e w' => e = .returned (.bool false) ∧ Only [] w w' := by
  have h1 : (ty1 == ty2) = false := beq_eq_false_iff_ne.2 h
  have HO := Lib.hid (((Only.refl [] w).alloc (.cells #[.int .i64 ty1, .int .i64 st1, .int .i64 off1, .string S1, .bool fin1, .int .i64 mx1, .int .i64 cd1, .bool uni1, .int .i64 dl1, rv1, .int .i64 sq1, .int .i64 rt1, .string cid1] 33)).alloc (.cells #[.int .i64 ty2, .int .i64 st2, .int .i64 off2, .string S2, .bool fin2, .int .i64 mx2, .int .i64 cd2, .bool uni2, .int .i64 dl2, rv2, .int .i64 sq2, .int .i64 rt2, .string cid2] 33))
  go_enter Tryd.func35, Tryd.ntmps35
  go_wp2_with fail
  go_ret
  exact ⟨rfl, HO.out⟩
set_option maxRecDepth 100000 in
set_option maxHeartbeats 4000000 in
theorem same_1 (ty1 : Int) (st1 st2 : Int) (off1 off2 : Int) (S1 S2 : ByteArray) (fin1 fin2 : Bool) (mx1 mx2 : Int) (cd1 cd2 : Int) (uni1 uni2 : Bool) (dl1 dl2 : Int) (sq1 sq2 : Int) (rt1 rt2 : Int) (cid1 cid2 : ByteArray) (rv1 rv2 : Value) (h : st1 ≠ st2) (w : World) :
    Calls Tryd.prog 35 #[.agg #[.int .i64 ty1, .int .i64 st1, .int .i64 off1, .string S1, .bool fin1, .int .i64 mx1, .int .i64 cd1, .bool uni1, .int .i64 dl1, rv1, .int .i64 sq1, .int .i64 rt1, .string cid1], .agg #[.int .i64 ty1, .int .i64 st2, .int .i64 off2, .string S2, .bool fin2, .int .i64 mx2, .int .i64 cd2, .bool uni2, .int .i64 dl2, rv2, .int .i64 sq2, .int .i64 rt2, .string cid2]] w fun e w' => e = .returned (.bool false) ∧ Only [] w w' := by
  have h1 : (st1 == st2) = false := beq_eq_false_iff_ne.2 h
  have HO := Lib.hid (((Only.refl [] w).alloc (.cells #[.int .i64 ty1, .int .i64 st1, .int .i64 off1, .string S1, .bool fin1, .int .i64 mx1, .int .i64 cd1, .bool uni1, .int .i64 dl1, rv1, .int .i64 sq1, .int .i64 rt1, .string cid1] 33)).alloc (.cells #[.int .i64 ty1, .int .i64 st2, .int .i64 off2, .string S2, .bool fin2, .int .i64 mx2, .int .i64 cd2, .bool uni2, .int .i64 dl2, rv2, .int .i64 sq2, .int .i64 rt2, .string cid2] 33))
  go_enter Tryd.func35, Tryd.ntmps35
  go_wp2_with fail
  go_ret
  exact ⟨rfl, HO.out⟩
set_option maxRecDepth 100000 in
set_option maxHeartbeats 4000000 in
theorem same_2 (ty1 : Int) (st1 : Int) (off1 off2 : Int) (S1 S2 : ByteArray) (fin1 fin2 : Bool) (mx1 mx2 : Int) (cd1 cd2 : Int) (uni1 uni2 : Bool) (dl1 dl2 : Int) (sq1 sq2 : Int) (rt1 rt2 : Int) (cid1 cid2 : ByteArray) (rv1 rv2 : Value) (h : off1 ≠ off2) (w : World) :
    Calls Tryd.prog 35 #[.agg #[.int .i64 ty1, .int .i64 st1, .int .i64 off1, .string S1, .bool fin1, .int .i64 mx1, .int .i64 cd1, .bool uni1, .int .i64 dl1, rv1, .int .i64 sq1, .int .i64 rt1, .string cid1], .agg #[.int .i64 ty1, .int .i64 st1, .int .i64 off2, .string S2, .bool fin2, .int .i64 mx2, .int .i64 cd2, .bool uni2, .int .i64 dl2, rv2, .int .i64 sq2, .int .i64 rt2, .string cid2]] w fun e w' => e = .returned (.bool false) ∧ Only [] w w' := by
  have h1 : (off1 == off2) = false := beq_eq_false_iff_ne.2 h
  have HO := Lib.hid (((Only.refl [] w).alloc (.cells #[.int .i64 ty1, .int .i64 st1, .int .i64 off1, .string S1, .bool fin1, .int .i64 mx1, .int .i64 cd1, .bool uni1, .int .i64 dl1, rv1, .int .i64 sq1, .int .i64 rt1, .string cid1] 33)).alloc (.cells #[.int .i64 ty1, .int .i64 st1, .int .i64 off2, .string S2, .bool fin2, .int .i64 mx2, .int .i64 cd2, .bool uni2, .int .i64 dl2, rv2, .int .i64 sq2, .int .i64 rt2, .string cid2] 33))
  go_enter Tryd.func35, Tryd.ntmps35
  go_wp2_with fail
  go_ret
  exact ⟨rfl, HO.out⟩
set_option maxRecDepth 100000 in
set_option maxHeartbeats 4000000 in
theorem same_3 (ty1 : Int) (st1 : Int) (off1 : Int) (S1 S2 : ByteArray) (fin1 fin2 : Bool) (mx1 mx2 : Int) (cd1 cd2 : Int) (uni1 uni2 : Bool) (dl1 dl2 : Int) (sq1 sq2 : Int) (rt1 rt2 : Int) (cid1 cid2 : ByteArray) (rv1 rv2 : Value) (h : S1 ≠ S2) (w : World) :
    Calls Tryd.prog 35 #[.agg #[.int .i64 ty1, .int .i64 st1, .int .i64 off1, .string S1, .bool fin1, .int .i64 mx1, .int .i64 cd1, .bool uni1, .int .i64 dl1, rv1, .int .i64 sq1, .int .i64 rt1, .string cid1], .agg #[.int .i64 ty1, .int .i64 st1, .int .i64 off1, .string S2, .bool fin2, .int .i64 mx2, .int .i64 cd2, .bool uni2, .int .i64 dl2, rv2, .int .i64 sq2, .int .i64 rt2, .string cid2]] w fun e w' => e = .returned (.bool false) ∧ Only [] w w' := by
  have h1 : (S1.toList == S2.toList) = false := beq_eq_false_iff_ne.2 (fun e => h (toList_inj e))
  have h2 : ¬ S1.toList = S2.toList := fun e => h (toList_inj e)
  have HO := Lib.hid (((Only.refl [] w).alloc (.cells #[.int .i64 ty1, .int .i64 st1, .int .i64 off1, .string S1, .bool fin1, .int .i64 mx1, .int .i64 cd1, .bool uni1, .int .i64 dl1, rv1, .int .i64 sq1, .int .i64 rt1, .string cid1] 33)).alloc (.cells #[.int .i64 ty1, .int .i64 st1, .int .i64 off1, .string S2, .bool fin2, .int .i64 mx2, .int .i64 cd2, .bool uni2, .int .i64 dl2, rv2, .int .i64 sq2, .int .i64 rt2, .string cid2] 33))
  go_enter Tryd.func35, Tryd.ntmps35
  go_wp2_with fail
  go_ret
  exact ⟨rfl, HO.out⟩
set_option maxRecDepth 100000 in
set_option maxHeartbeats 4000000 in
theorem same_4 (ty1 : Int) (st1 : Int) (off1 : Int) (S1 : ByteArray) (fin1 fin2 : Bool) (mx1 mx2 : Int) (cd1 cd2 : Int) (uni1 uni2 : Bool) (dl1 dl2 : Int) (sq1 sq2 : Int) (rt1 rt2 : Int) (cid1 cid2 : ByteArray) (rv1 rv2 : Value) (h : fin1 ≠ fin2) (w : World) :
    Calls Tryd.prog 35 #[.agg #[.int .i64 ty1, .int .i64 st1, .int .i64 off1, .string S1, .bool fin1, .int .i64 mx1, .int .i64 cd1, .bool uni1, .int .i64 dl1, rv1, .int .i64 sq1, .int .i64 rt1, .string cid1], .agg #[.int .i64 ty1, .int .i64 st1, .int .i64 off1, .string S1, .bool fin2, .int .i64 mx2, .int .i64 cd2, .bool uni2, .int .i64 dl2, rv2, .int .i64 sq2, .int .i64 rt2, .string cid2]] w fun e w' => e = .returned (.bool false) ∧ Only [] w w' := by
  have h1 : (fin1 == fin2) = false := beq_eq_false_iff_ne.2 h
  have HO := Lib.hid (((Only.refl [] w).alloc (.cells #[.int .i64 ty1, .int .i64 st1, .int .i64 off1, .string S1, .bool fin1, .int .i64 mx1, .int .i64 cd1, .bool uni1, .int .i64 dl1, rv1, .int .i64 sq1, .int .i64 rt1, .string cid1] 33)).alloc (.cells #[.int .i64 ty1, .int .i64 st1, .int .i64 off1, .string S1, .bool fin2, .int .i64 mx2, .int .i64 cd2, .bool uni2, .int .i64 dl2, rv2, .int .i64 sq2, .int .i64 rt2, .string cid2] 33))
  go_enter Tryd.func35, Tryd.ntmps35
  go_wp2_with fail
  go_ret
  exact ⟨rfl, HO.out⟩
set_option maxRecDepth 100000 in
set_option maxHeartbeats 4000000 in
theorem same_5 (ty1 : Int) (st1 : Int) (off1 : Int) (S1 : ByteArray) (fin1 : Bool) (mx1 mx2 : Int) (cd1 cd2 : Int) (uni1 uni2 : Bool) (dl1 dl2 : Int) (sq1 sq2 : Int) (rt1 rt2 : Int) (cid1 cid2 : ByteArray) (rv1 rv2 : Value) (h : mx1 ≠ mx2) (w : World) :
    Calls Tryd.prog 35 #[.agg #[.int .i64 ty1, .int .i64 st1, .int .i64 off1, .string S1, .bool fin1, .int .i64 mx1, .int .i64 cd1, .bool uni1, .int .i64 dl1, rv1, .int .i64 sq1, .int .i64 rt1, .string cid1], .agg #[.int .i64 ty1, .int .i64 st1, .int .i64 off1, .string S1, .bool fin1, .int .i64 mx2, .int .i64 cd2, .bool uni2, .int .i64 dl2, rv2, .int .i64 sq2, .int .i64 rt2, .string cid2]] w fun e w' => e = .returned (.bool false) ∧ Only [] w w' := by
  have h1 : (mx1 == mx2) = false := beq_eq_false_iff_ne.2 h
  have HO := Lib.hid (((Only.refl [] w).alloc (.cells #[.int .i64 ty1, .int .i64 st1, .int .i64 off1, .string S1, .bool fin1, .int .i64 mx1, .int .i64 cd1, .bool uni1, .int .i64 dl1, rv1, .int .i64 sq1, .int .i64 rt1, .string cid1] 33)).alloc (.cells #[.int .i64 ty1, .int .i64 st1, .int .i64 off1, .string S1, .bool fin1, .int .i64 mx2, .int .i64 cd2, .bool uni2, .int .i64 dl2, rv2, .int .i64 sq2, .int .i64 rt2, .string cid2] 33))
  go_enter Tryd.func35, Tryd.ntmps35
  go_wp2_with fail
  go_ret
  exact ⟨rfl, HO.out⟩
set_option maxRecDepth 100000 in
set_option maxHeartbeats 4000000 in
theorem same_6 (ty1 : Int) (st1 : Int) (off1 : Int) (S1 : ByteArray) (fin1 : Bool) (mx1 : Int) (cd1 cd2 : Int) (uni1 uni2 : Bool) (dl1 dl2 : Int) (sq1 sq2 : Int) (rt1 rt2 : Int) (cid1 cid2 : ByteArray) (rv1 rv2 : Value) (h : cd1 ≠ cd2) (w : World) :
    Calls Tryd.prog 35 #[.agg #[.int .i64 ty1, .int .i64 st1, .int .i64 off1, .string S1, .bool fin1, .int .i64 mx1, .int .i64 cd1, .bool uni1, .int .i64 dl1, rv1, .int .i64 sq1, .int .i64 rt1, .string cid1], .agg #[.int .i64 ty1, .int .i64 st1, .int .i64 off1, .string S1, .bool fin1, .int .i64 mx1, .int .i64 cd2, .bool uni2, .int .i64 dl2, rv2, .int .i64 sq2, .int .i64 rt2, .string cid2]] w fun e w' => e = .returned (.bool false) ∧ Only [] w w' := by
  have h1 : (cd1 == cd2) = false := beq_eq_false_iff_ne.2 h
  have HO := Lib.hid (((Only.refl [] w).alloc (.cells #[.int .i64 ty1, .int .i64 st1, .int .i64 off1, .string S1, .bool fin1, .int .i64 mx1, .int .i64 cd1, .bool uni1, .int .i64 dl1, rv1, .int .i64 sq1, .int .i64 rt1, .string cid1] 33)).alloc (.cells #[.int .i64 ty1, .int .i64 st1, .int .i64 off1, .string S1, .bool fin1, .int .i64 mx1, .int .i64 cd2, .bool uni2, .int .i64 dl2, rv2, .int .i64 sq2, .int .i64 rt2, .string cid2] 33))
  go_enter Tryd.func35, Tryd.ntmps35
  go_wp2_with fail
  go_ret
  exact ⟨rfl, HO.out⟩
set_option maxRecDepth 100000 in
set_option maxHeartbeats 4000000 in
theorem same_7 (ty1 : Int) (st1 : Int) (off1 : Int) (S1 : ByteArray) (fin1 : Bool) (mx1 : Int) (cd1 : Int) (uni1 uni2 : Bool) (dl1 dl2 : Int) (sq1 sq2 : Int) (rt1 rt2 : Int) (cid1 cid2 : ByteArray) (rv1 rv2 : Value) (h : uni1 ≠ uni2) (w : World) :
    Calls Tryd.prog 35 #[.agg #[.int .i64 ty1, .int .i64 st1, .int .i64 off1, .string S1, .bool fin1, .int .i64 mx1, .int .i64 cd1, .bool uni1, .int .i64 dl1, rv1, .int .i64 sq1, .int .i64 rt1, .string cid1], .agg #[.int .i64 ty1, .int .i64 st1, .int .i64 off1, .string S1, .bool fin1, .int .i64 mx1, .int .i64 cd1, .bool uni2, .int .i64 dl2, rv2, .int .i64 sq2, .int .i64 rt2, .string cid2]] w fun e w' => e = .returned (.bool false) ∧ Only [] w w' := by
  have h1 : (uni1 == uni2) = false := beq_eq_false_iff_ne.2 h
  have HO := Lib.hid (((Only.refl [] w).alloc (.cells #[.int .i64 ty1, .int .i64 st1, .int .i64 off1, .string S1, .bool fin1, .int .i64 mx1, .int .i64 cd1, .bool uni1, .int .i64 dl1, rv1, .int .i64 sq1, .int .i64 rt1, .string cid1] 33)).alloc (.cells #[.int .i64 ty1, .int .i64 st1, .int .i64 off1, .string S1, .bool fin1, .int .i64 mx1, .int .i64 cd1, .bool uni2, .int .i64 dl2, rv2, .int .i64 sq2, .int .i64 rt2, .string cid2] 33))
  go_enter Tryd.func35, Tryd.ntmps35
  go_wp2_with fail
  go_ret
  exact ⟨rfl, HO.out⟩
set_option maxRecDepth 100000 in
set_option maxHeartbeats 4000000 in
theorem same_8 (ty1 : Int) (st1 : Int) (off1 : Int) (S1 : ByteArray) (fin1 : Bool) (mx1 : Int) (cd1 : Int) (uni1 : Bool) (dl1 dl2 : Int) (sq1 sq2 : Int) (rt1 rt2 : Int) (cid1 cid2 : ByteArray) (rv1 rv2 : Value) (h : dl1 ≠ dl2) (w : World) :
    Calls Tryd.prog 35 #[.agg #[.int .i64 ty1, .int .i64 st1, .int .i64 off1, .string S1, .bool fin1, .int .i64 mx1, .int .i64 cd1, .bool uni1, .int .i64 dl1, rv1, .int .i64 sq1, .int .i64 rt1, .string cid1], .agg #[.int .i64 ty1, .int .i64 st1, .int .i64 off1, .string S1, .bool fin1, .int .i64 mx1, .int .i64 cd1, .bool uni1, .int .i64 dl2, rv2, .int .i64 sq2, .int .i64 rt2, .string cid2]] w fun e w' => e = .returned (.bool false) ∧ Only [] w w' := by
  have h1 : (dl1 == dl2) = false := beq_eq_false_iff_ne.2 h
  have HO := Lib.hid (((Only.refl [] w).alloc (.cells #[.int .i64 ty1, .int .i64 st1, .int .i64 off1, .string S1, .bool fin1, .int .i64 mx1, .int .i64 cd1, .bool uni1, .int .i64 dl1, rv1, .int .i64 sq1, .int .i64 rt1, .string cid1] 33)).alloc (.cells #[.int .i64 ty1, .int .i64 st1, .int .i64 off1, .string S1, .bool fin1, .int .i64 mx1, .int .i64 cd1, .bool uni1, .int .i64 dl2, rv2, .int .i64 sq2, .int .i64 rt2, .string cid2] 33))
  go_enter Tryd.func35, Tryd.ntmps35
  go_wp2_with fail
  go_ret
  exact ⟨rfl, HO.out⟩
set_option maxRecDepth 100000 in
set_option maxHeartbeats 4000000 in
theorem same_9 (ty1 : Int) (st1 : Int) (off1 : Int) (S1 : ByteArray) (fin1 : Bool) (mx1 : Int) (cd1 : Int) (uni1 : Bool) (dl1 : Int) (sq1 sq2 : Int) (rt1 rt2 : Int) (cid1 cid2 : ByteArray) (rv1 rv2 : Value) (h : sq1 ≠ sq2) (w : World) :
    Calls Tryd.prog 35 #[.agg #[.int .i64 ty1, .int .i64 st1, .int .i64 off1, .string S1, .bool fin1, .int .i64 mx1, .int .i64 cd1, .bool uni1, .int .i64 dl1, rv1, .int .i64 sq1, .int .i64 rt1, .string cid1], .agg #[.int .i64 ty1, .int .i64 st1, .int .i64 off1, .string S1, .bool fin1, .int .i64 mx1, .int .i64 cd1, .bool uni1, .int .i64 dl1, rv2, .int .i64 sq2, .int .i64 rt2, .string cid2]] w fun e w' => e = .returned (.bool false) ∧ Only [] w w' := by
  have h1 : (sq1 == sq2) = false := beq_eq_false_iff_ne.2 h
  have HO := Lib.hid (((Only.refl [] w).alloc (.cells #[.int .i64 ty1, .int .i64 st1, .int .i64 off1, .string S1, .bool fin1, .int .i64 mx1, .int .i64 cd1, .bool uni1, .int .i64 dl1, rv1, .int .i64 sq1, .int .i64 rt1, .string cid1] 33)).alloc (.cells #[.int .i64 ty1, .int .i64 st1, .int .i64 off1, .string S1, .bool fin1, .int .i64 mx1, .int .i64 cd1, .bool uni1, .int .i64 dl1, rv2, .int .i64 sq2, .int .i64 rt2, .string cid2] 33))
  go_enter Tryd.func35, Tryd.ntmps35
  go_wp2_with fail
  go_ret
  exact ⟨rfl, HO.out⟩
set_option maxRecDepth 100000 in
set_option maxHeartbeats 4000000 in
theorem same_10 (ty1 : Int) (st1 : Int) (off1 : Int) (S1 : ByteArray) (fin1 : Bool) (mx1 : Int) (cd1 : Int) (uni1 : Bool) (dl1 : Int) (sq1 : Int) (rt1 rt2 : Int) (cid1 cid2 : ByteArray) (rv1 rv2 : Value) (h : rt1 ≠ rt2) (w : World) :
    Calls Tryd.prog 35 #[.agg #[.int .i64 ty1, .int .i64 st1, .int .i64 off1, .string S1, .bool fin1, .int .i64 mx1, .int .i64 cd1, .bool uni1, .int .i64 dl1, rv1, .int .i64 sq1, .int .i64 rt1, .string cid1], .agg #[.int .i64 ty1, .int .i64 st1, .int .i64 off1, .string S1, .bool fin1, .int .i64 mx1, .int .i64 cd1, .bool uni1, .int .i64 dl1, rv2, .int .i64 sq1, .int .i64 rt2, .string cid2]] w fun e w' => e = .returned (.bool false) ∧ Only [] w w' := by
  have h1 : (rt1 == rt2) = false := beq_eq_false_iff_ne.2 h
  have HO := Lib.hid (((Only.refl [] w).alloc (.cells #[.int .i64 ty1, .int .i64 st1, .int .i64 off1, .string S1, .bool fin1, .int .i64 mx1, .int .i64 cd1, .bool uni1, .int .i64 dl1, rv1, .int .i64 sq1, .int .i64 rt1, .string cid1] 33)).alloc (.cells #[.int .i64 ty1, .int .i64 st1, .int .i64 off1, .string S1, .bool fin1, .int .i64 mx1, .int .i64 cd1, .bool uni1, .int .i64 dl1, rv2, .int .i64 sq1, .int .i64 rt2, .string cid2] 33))
  go_enter Tryd.func35, Tryd.ntmps35
  go_wp2_with fail
  go_ret
  exact ⟨rfl, HO.out⟩
set_option maxRecDepth 100000 in
set_option maxHeartbeats 4000000 in
theorem same_11 (ty1 : Int) (st1 : Int) (off1 : Int) (S1 : ByteArray) (fin1 : Bool) (mx1 : Int) (cd1 : Int) (uni1 : Bool) (dl1 : Int) (sq1 : Int) (rt1 : Int) (cid1 cid2 : ByteArray) (rv1 rv2 : Value) (h : cid1 ≠ cid2) (w : World) :
    Calls Tryd.prog 35 #[.agg #[.int .i64 ty1, .int .i64 st1, .int .i64 off1, .string S1, .bool fin1, .int .i64 mx1, .int .i64 cd1, .bool uni1, .int .i64 dl1, rv1, .int .i64 sq1, .int .i64 rt1, .string cid1], .agg #[.int .i64 ty1, .int .i64 st1, .int .i64 off1, .string S1, .bool fin1, .int .i64 mx1, .int .i64 cd1, .bool uni1, .int .i64 dl1, rv2, .int .i64 sq1, .int .i64 rt1, .string cid2]] w fun e w' => e = .returned (.bool false) ∧ Only [] w w' := by
  have h1 : (cid1.toList == cid2.toList) = false := beq_eq_false_iff_ne.2 (fun e => h (toList_inj e))
  have h2 : ¬ cid1.toList = cid2.toList := fun e => h (toList_inj e)
  have HO := Lib.hid (((Only.refl [] w).alloc (.cells #[.int .i64 ty1, .int .i64 st1, .int .i64 off1, .string S1, .bool fin1, .int .i64 mx1, .int .i64 cd1, .bool uni1, .int .i64 dl1, rv1, .int .i64 sq1, .int .i64 rt1, .string cid1] 33)).alloc (.cells #[.int .i64 ty1, .int .i64 st1, .int .i64 off1, .string S1, .bool fin1, .int .i64 mx1, .int .i64 cd1, .bool uni1, .int .i64 dl1, rv2, .int .i64 sq1, .int .i64 rt1, .string cid2] 33))
  go_enter Tryd.func35, Tryd.ntmps35
  go_wp2_with fail
  go_ret
  exact ⟨rfl, HO.out⟩
set_option maxRecDepth 100000 in
set_option maxHeartbeats 4000000 in
theorem same_12 (ty1 : Int) (st1 : Int) (off1 : Int) (S1 : ByteArray) (fin1 : Bool) (mx1 : Int) (cd1 : Int) (uni1 : Bool) (dl1 : Int) (sq1 : Int) (rt1 : Int) (cid1 : ByteArray) (rv1 rv2 : Value) (L M : List (Int × Int)) (w : World) (hL : RgAt w rv1 L) (hM : RgAt w rv2 M) (hsz : L.length ≤ 4611686018427387903) (hsz2 : M.length ≤ 4611686018427387903) :
    Calls Tryd.prog 35 #[.agg #[.int .i64 ty1, .int .i64 st1, .int .i64 off1, .string S1, .bool fin1, .int .i64 mx1, .int .i64 cd1, .bool uni1, .int .i64 dl1, rv1, .int .i64 sq1, .int .i64 rt1, .string cid1], .agg #[.int .i64 ty1, .int .i64 st1, .int .i64 off1, .string S1, .bool fin1, .int .i64 mx1, .int .i64 cd1, .bool uni1, .int .i64 dl1, rv2, .int .i64 sq1, .int .i64 rt1, .string cid1]] w fun e w' => e = .returned (.bool (decide (L = M))) ∧ Only [] w w' := by
  obtain ⟨z, hz⟩ : ∃ z, decide (L = M) = z := ⟨_, rfl⟩
  have hcl := fun ww (k : Only [] w ww) => equal_c rv1 rv2 L M ww (hL.keep k) (hM.keep k) hsz hsz2
  rw [hz] at hcl ⊢
  clear hz hL hM
  have hO := (((Only.refl [] w).alloc (.cells #[.int .i64 ty1, .int .i64 st1, .int .i64 off1, .string S1, .bool fin1, .int .i64 mx1, .int .i64 cd1, .bool uni1, .int .i64 dl1, rv1, .int .i64 sq1, .int .i64 rt1, .string cid1] 33)).alloc (.cells #[.int .i64 ty1, .int .i64 st1, .int .i64 off1, .string S1, .bool fin1, .int .i64 mx1, .int .i64 cd1, .bool uni1, .int .i64 dl1, rv2, .int .i64 sq1, .int .i64 rt1, .string cid1] 33))
  have HO := Lib.hid hO
  clear hO
  go_enter Tryd.func35, Tryd.ntmps35
  go_wp2_with fail
  refine (hcl _ HO.out).mono ?_
  rintro e w2 ⟨rfl, ho⟩
  have HO2 := Lib.hid ho
  clear ho
  go_wp2_with fail
  go_ret
  exact ⟨rfl, HO.out.trans HO2.out⟩
/-- Two frames are the same; z tells whether they are. -/
theorem same_c (f g : Fr) (rv sv : Value) (w : World) (hL : RgAt w rv f.rg) (hM : RgAt w sv g.rg) (hsz : f.rg.length ≤ 4611686018427387903) (hsz2 : g.rg.length ≤ 4611686018427387903) :
    Calls Tryd.prog 35 #[.agg (frC f rv), .agg (frC g sv)] w fun e w' => ∃ z : Bool, e = .returned (.bool z) ∧ (z = true ↔ f = g) ∧ Only [] w w' := by
  obtain ⟨ty1, st1, off1, S1, fin1, mx1, cd1, uni1, dl1, rg1, sq1, rt1, cid1⟩ := f
  obtain ⟨ty2, st2, off2, S2, fin2, mx2, cd2, uni2, dl2, rg2, sq2, rt2, cid2⟩ := g
  simp only at hL hM hsz hsz2
  unfold frC
  simp only [Fr.mk.injEq]
  by_cases h0 : ty1 = ty2
  rotate_left
  · exact (same_0 ty1 ty2 st1 st2 off1 off2 (strB S1) (strB S2) fin1 fin2 mx1 mx2 cd1 cd2 uni1 uni2 dl1 dl2 sq1 sq2 rt1 rt2 (strB cid1) (strB cid2) rv sv h0 w).mono fun e w' h => ⟨false, h.1, ⟨(fun h => by cases h), fun h => absurd (by simp only [h]) h0⟩, h.2⟩
  subst h0
  by_cases h1 : st1 = st2
  rotate_left
  · exact (same_1 ty1 st1 st2 off1 off2 (strB S1) (strB S2) fin1 fin2 mx1 mx2 cd1 cd2 uni1 uni2 dl1 dl2 sq1 sq2 rt1 rt2 (strB cid1) (strB cid2) rv sv h1 w).mono fun e w' h => ⟨false, h.1, ⟨(fun h => by cases h), fun h => absurd (by simp only [h]) h1⟩, h.2⟩
  subst h1
  by_cases h2 : off1 = off2
  rotate_left
  · exact (same_2 ty1 st1 off1 off2 (strB S1) (strB S2) fin1 fin2 mx1 mx2 cd1 cd2 uni1 uni2 dl1 dl2 sq1 sq2 rt1 rt2 (strB cid1) (strB cid2) rv sv h2 w).mono fun e w' h => ⟨false, h.1, ⟨(fun h => by cases h), fun h => absurd (by simp only [h]) h2⟩, h.2⟩
  subst h2
  by_cases h3 : S1 = S2
  rotate_left
  · exact (same_3 ty1 st1 off1 (strB S1) (strB S2) fin1 fin2 mx1 mx2 cd1 cd2 uni1 uni2 dl1 dl2 sq1 sq2 rt1 rt2 (strB cid1) (strB cid2) rv sv (fun e => h3 (strB_inj e)) w).mono fun e w' h => ⟨false, h.1, ⟨(fun h => by cases h), fun h => absurd (by simp only [h]) h3⟩, h.2⟩
  subst h3
  by_cases h4 : fin1 = fin2
  rotate_left
  · exact (same_4 ty1 st1 off1 (strB S1) fin1 fin2 mx1 mx2 cd1 cd2 uni1 uni2 dl1 dl2 sq1 sq2 rt1 rt2 (strB cid1) (strB cid2) rv sv h4 w).mono fun e w' h => ⟨false, h.1, ⟨(fun h => by cases h), fun h => absurd (by simp only [h]) h4⟩, h.2⟩
  subst h4
  by_cases h5 : mx1 = mx2
  rotate_left
  · exact (same_5 ty1 st1 off1 (strB S1) fin1 mx1 mx2 cd1 cd2 uni1 uni2 dl1 dl2 sq1 sq2 rt1 rt2 (strB cid1) (strB cid2) rv sv h5 w).mono fun e w' h => ⟨false, h.1, ⟨(fun h => by cases h), fun h => absurd (by simp only [h]) h5⟩, h.2⟩
  subst h5
  by_cases h6 : cd1 = cd2
  rotate_left
  · exact (same_6 ty1 st1 off1 (strB S1) fin1 mx1 cd1 cd2 uni1 uni2 dl1 dl2 sq1 sq2 rt1 rt2 (strB cid1) (strB cid2) rv sv h6 w).mono fun e w' h => ⟨false, h.1, ⟨(fun h => by cases h), fun h => absurd (by simp only [h]) h6⟩, h.2⟩
  subst h6
  by_cases h7 : uni1 = uni2
  rotate_left
  · exact (same_7 ty1 st1 off1 (strB S1) fin1 mx1 cd1 uni1 uni2 dl1 dl2 sq1 sq2 rt1 rt2 (strB cid1) (strB cid2) rv sv h7 w).mono fun e w' h => ⟨false, h.1, ⟨(fun h => by cases h), fun h => absurd (by simp only [h]) h7⟩, h.2⟩
  subst h7
  by_cases h8 : dl1 = dl2
  rotate_left
  · exact (same_8 ty1 st1 off1 (strB S1) fin1 mx1 cd1 uni1 dl1 dl2 sq1 sq2 rt1 rt2 (strB cid1) (strB cid2) rv sv h8 w).mono fun e w' h => ⟨false, h.1, ⟨(fun h => by cases h), fun h => absurd (by simp only [h]) h8⟩, h.2⟩
  subst h8
  by_cases h9 : sq1 = sq2
  rotate_left
  · exact (same_9 ty1 st1 off1 (strB S1) fin1 mx1 cd1 uni1 dl1 sq1 sq2 rt1 rt2 (strB cid1) (strB cid2) rv sv h9 w).mono fun e w' h => ⟨false, h.1, ⟨(fun h => by cases h), fun h => absurd (by simp only [h]) h9⟩, h.2⟩
  subst h9
  by_cases h10 : rt1 = rt2
  rotate_left
  · exact (same_10 ty1 st1 off1 (strB S1) fin1 mx1 cd1 uni1 dl1 sq1 rt1 rt2 (strB cid1) (strB cid2) rv sv h10 w).mono fun e w' h => ⟨false, h.1, ⟨(fun h => by cases h), fun h => absurd (by simp only [h]) h10⟩, h.2⟩
  subst h10
  by_cases h11 : cid1 = cid2
  rotate_left
  · exact (same_11 ty1 st1 off1 (strB S1) fin1 mx1 cd1 uni1 dl1 sq1 rt1 (strB cid1) (strB cid2) rv sv (fun e => h11 (strB_inj e)) w).mono fun e w' h => ⟨false, h.1, ⟨(fun h => by cases h), fun h => absurd (by simp only [h]) h11⟩, h.2⟩
  subst h11
  refine (same_12 ty1 st1 off1 (strB S1) fin1 mx1 cd1 uni1 dl1 sq1 rt1 (strB cid1) rv sv rg1 rg2 w hL hM hsz hsz2).mono fun e w' h => ⟨_, h.1, ?_, h.2⟩
  simp
end Go.Proofs.YtgiekhohhogdiaaDoor
