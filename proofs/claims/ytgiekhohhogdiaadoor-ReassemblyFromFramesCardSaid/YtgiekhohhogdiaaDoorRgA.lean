/- errors.Is at the sentinels of package reassembly, and what errno answers. -/
import Derived.Test.YtgiekhohhogdiaaDoorBas
import Derived.LaidEql
import Derived.Stop.Asserts
import Derived.RowKitTokens
namespace Go.Proofs.YtgiekhohhogdiaaDoor
open Go Go.RowKit Go.Extern.Stop Go.Stop Go.Extern
set_option linter.unusedVariables false
set_option linter.unusedSimpArgs false

theorem A_isTypeOf (v : Value) (w : World) : (Extern.ReflectliteType.typeOf #[.iface 141 v]).run Tryd.prog w = .ok (.iface 117 (.agg #[.pointer (some ⟨4, 141, none⟩)])) w := by kernel_rfl
theorem A_callComparable (w : World) : (callFunc 106 #[.agg #[.pointer (some ⟨4, 141, none⟩)]]).run Tryd.prog w = .ok (.value (.bool true)) w := by
  rw [@run_callFunc_extern Tryd.prog 106 _ (Extern.ReflectliteType.method fun t => do Extern.Rtype.noPackHeld "Comparable" t; pure (.bool (← typeInfo t).comparable)) Tryd.func106 (by kernel_rfl) (by kernel_rfl) (by kernel_rfl) (by kernel_rfl)]
  rw [show ((Extern.ReflectliteType.method fun t => do Extern.Rtype.noPackHeld "Comparable" t; pure (.bool (← typeInfo t).comparable)) #[.agg #[.pointer (some ⟨4, 141, none⟩)]]).run Tryd.prog w = .ok (.bool true) w from by kernel_rfl]
  rfl
theorem A_isMethodComparable (v : Value) (w : World) : (Go.method 106 117 v "Comparable").run Tryd.prog w = .ok (106, v) w := by kernel_rfl
theorem A_isComp : (Tryd.prog.info? 141).map (·.comparable) = some true := by kernel_rfl
theorem A_isSize : (Tryd.prog.info? 164).map (·.size) = some 1 := by kernel_rfl
theorem A_noIs (v : Value) (xT : TypeId) (w : World) : (Instr.typeAssert (.iface 141 v) xT 119 true).run Tryd.prog w = .ok (.tuple #[.nilIface, .bool false]) w := run_typeAssert_lacksB Tryd.underlying119 (by kernel_rfl) (by kernel_rfl) v xT w
theorem A_noUnwrap (v : Value) (xT : TypeId) (w : World) : (Instr.typeAssert (.iface 141 v) xT 122 true).run Tryd.prog w = .ok (.tuple #[.nilIface, .bool false]) w := run_typeAssert_lacksB Tryd.underlying122 (by kernel_rfl) (by kernel_rfl) v xT w
theorem A_noUnwraps (v : Value) (xT : TypeId) (w : World) : (Instr.typeAssert (.iface 141 v) xT 124 true).run Tryd.prog w = .ok (.tuple #[.nilIface, .bool false]) w := run_typeAssert_lacksB Tryd.underlying124 (by kernel_rfl) (by kernel_rfl) v xT w

theorem is_same (a : Addr) (w : World) :
    Calls Tryd.prog 30 #[.iface 141 (.pointer (some a)), .iface 141 (.pointer (some a))] w fun e w' => e = .returned (.bool true) ∧ w' = w := by
  obtain ⟨i, hi, hcmp⟩ := Option.map_eq_some_iff.1 A_isComp
  obtain ⟨j, hj, hjs⟩ := Option.map_eq_some_iff.1 A_isSize
  have h8 := @run_callFunc_extern Tryd.prog 54 _ Extern.ReflectliteType.typeOf Tryd.func54 (by kernel_rfl) (by kernel_rfl) (by kernel_rfl) (by kernel_rfl)
  have tT := A_isTypeOf
  have cT := A_callComparable
  have mR := A_isMethodComparable
  have heq := run_eql_iface_ptr_same (P := Tryd.prog) w a Tryd.underlying57 Tryd.underlying141 hi hcmp hj
  go_enter Tryd.func30, Tryd.ntmps30
  go_wp2
  refine wp_loop_rounds 1 ?_
  rw [rounds_succ]
  go_wp2
  go_ret
  exact ⟨rfl, rfl⟩

theorem is_other (a b : Addr) (ca cb : Array Value) (ta tb : TypeId) (w : World) (hne : a ≠ b) (ha : w.heap[a.block]? = some (.cells ca ta (0, 0))) (hb : w.heap[b.block]? = some (.cells cb tb (0, 0))) :
    Calls Tryd.prog 30 #[.iface 141 (.pointer (some a)), .iface 141 (.pointer (some b))] w fun e w' => e = .returned (.bool false) ∧ w' = w := by
  obtain ⟨i, hi, hcmp⟩ := Option.map_eq_some_iff.1 A_isComp
  obtain ⟨j, hj, hjs⟩ := Option.map_eq_some_iff.1 A_isSize
  have h8 := @run_callFunc_extern Tryd.prog 54 _ Extern.ReflectliteType.typeOf Tryd.func54 (by kernel_rfl) (by kernel_rfl) (by kernel_rfl) (by kernel_rfl)
  have tT := A_isTypeOf
  have cT := A_callComparable
  have mR := A_isMethodComparable
  have nE := A_noIs
  have uE := A_noUnwrap
  have vE := A_noUnwraps
  have heq := run_eql_iface_ptr_other (P := Tryd.prog) w Tryd.underlying57 Tryd.underlying141 hi hcmp hj (by rw [hjs]; decide) hne ha hb
  go_enter Tryd.func30, Tryd.ntmps30
  go_wp2
  refine wp_loop_rounds 1 ?_
  rw [rounds_succ]
  go_wp2
  go_ret
  exact ⟨rfl, rfl⟩

/-- The package's four sentinels stand in the world, below block B. -/
structure Snt (B : Nat) (c f r g : Addr) (w : World) : Prop where
  vc : w.cell? ⟨0, 0, none⟩ = some (.iface 141 (.pointer (some c)))
  vf : w.cell? ⟨1, 0, none⟩ = some (.iface 141 (.pointer (some f)))
  vr : w.cell? ⟨2, 0, none⟩ = some (.iface 141 (.pointer (some r)))
  vg : w.cell? ⟨3, 0, none⟩ = some (.iface 141 (.pointer (some g)))
  g4 : 4 ≤ B
  cB : c.block < B
  fB : f.block < B
  rB : r.block < B
  gB : g.block < B
  hc : ∃ cs t, w.heap[c.block]? = some (.cells cs t (0, 0))
  hf : ∃ cs t, w.heap[f.block]? = some (.cells cs t (0, 0))
  hr : ∃ cs t, w.heap[r.block]? = some (.cells cs t (0, 0))
  hg : ∃ cs t, w.heap[g.block]? = some (.cells cs t (0, 0))
  fc : f ≠ c
  rc : r ≠ c
  rf : r ≠ f
  gc : g ≠ c
  gf : g ≠ f
  gr : g ≠ r
theorem Snt.below {B : Nat} {c f r g : Addr} {w w' : World} (h : Snt B c f r g w) (hb : Below B w w') : Snt B c f r g w' := by
  obtain ⟨vc, vf, vr, vg, g4, cB, fB, rB, gB, hc, hf, hr, hg, n1, n2, n3, n4, n5, n6⟩ := h
  exact ⟨(hb.cell (Nat.lt_of_lt_of_le (by decide) g4)).trans vc, (hb.cell (Nat.lt_of_lt_of_le (by decide) g4)).trans vf, (hb.cell (Nat.lt_of_lt_of_le (by decide) g4)).trans vr, (hb.cell (Nat.lt_of_lt_of_le (by decide) g4)).trans vg, g4, cB, fB, rB, gB,
    by rw [hb.block _ cB]; exact hc, by rw [hb.block _ fB]; exact hf, by rw [hb.block _ rB]; exact hr, by rw [hb.block _ gB]; exact hg, n1, n2, n3, n4, n5, n6⟩
section
variable {B : Nat} {c f r g : Addr} (w : World) (h : Snt B c f r g w)
include h
theorem errno_c : Calls Tryd.prog 20 #[.iface 141 (.pointer (some c))] w fun e w' => e = .returned (.int .i64 160) ∧ w = w' := by
  have k := h.vc
  go_enter Tryd.func20, Tryd.ntmps20
  go_wp2_with fail
  refine (is_same c _).mono ?_
  rintro e w' ⟨rfl, rfl⟩
  go_wp2_with fail
  go_ret
  exact ⟨rfl, rfl⟩
theorem errno_f : Calls Tryd.prog 20 #[.iface 141 (.pointer (some f))] w fun e w' => e = .returned (.int .i64 161) ∧ w = w' := by
  have k := h.vc
  have k2 := h.vf
  obtain ⟨c1, t1, h1⟩ := h.hc
  obtain ⟨c2, t2, h2⟩ := h.hf
  go_enter Tryd.func20, Tryd.ntmps20
  go_wp2_with fail
  refine (is_other f c _ _ _ _ _ h.fc h2 h1).mono ?_
  rintro e w' ⟨rfl, rfl⟩
  go_wp2_with fail
  refine (is_same f _).mono ?_
  rintro e w' ⟨rfl, rfl⟩
  go_wp2_with fail
  go_ret
  exact ⟨rfl, rfl⟩
theorem errno_r : Calls Tryd.prog 20 #[.iface 141 (.pointer (some r))] w fun e w' => e = .returned (.int .i64 162) ∧ w = w' := by
  have k := h.vc
  have k2 := h.vf
  have k3 := h.vr
  obtain ⟨c1, t1, h1⟩ := h.hc
  obtain ⟨c2, t2, h2⟩ := h.hf
  obtain ⟨c3, t3, h3⟩ := h.hr
  go_enter Tryd.func20, Tryd.ntmps20
  go_wp2_with fail
  refine (is_other r c _ _ _ _ _ h.rc h3 h1).mono ?_
  rintro e w' ⟨rfl, rfl⟩
  go_wp2_with fail
  refine (is_other r f _ _ _ _ _ h.rf h3 h2).mono ?_
  rintro e w' ⟨rfl, rfl⟩
  go_wp2_with fail
  refine (is_same r _).mono ?_
  rintro e w' ⟨rfl, rfl⟩
  go_wp2_with fail
  go_ret
  exact ⟨rfl, rfl⟩
theorem errno_g : Calls Tryd.prog 20 #[.iface 141 (.pointer (some g))] w fun e w' => e = .returned (.int .i64 2) ∧ w = w' := by
  have k := h.vc
  have k2 := h.vf
  have k3 := h.vr
  obtain ⟨c1, t1, h1⟩ := h.hc
  obtain ⟨c2, t2, h2⟩ := h.hf
  obtain ⟨c3, t3, h3⟩ := h.hr
  obtain ⟨c4, t4, h4⟩ := h.hg
  go_enter Tryd.func20, Tryd.ntmps20
  go_wp2_with fail
  refine (is_other g c _ _ _ _ _ h.gc h4 h1).mono ?_
  rintro e w' ⟨rfl, rfl⟩
  go_wp2_with fail
  refine (is_other g f _ _ _ _ _ h.gf h4 h2).mono ?_
  rintro e w' ⟨rfl, rfl⟩
  go_wp2_with fail
  refine (is_other g r _ _ _ _ _ h.gr h4 h3).mono ?_
  rintro e w' ⟨rfl, rfl⟩
  go_wp2_with fail
  go_ret
  exact ⟨rfl, rfl⟩
end
theorem errno_nil (w : World) : Calls Tryd.prog 20 #[.nilIface] w fun e w' => e = .returned (.int .i64 0) ∧ w = w' := by
  go_enter Tryd.func20, Tryd.ntmps20
  go_wp2
  go_ret
  exact ⟨rfl, rfl⟩
end Go.Proofs.YtgiekhohhogdiaaDoor
