/- The four sentinels of package reassembly, out of what the row lists. -/
import Derived.Test.YtgiekhohhogdiaaDoorRgA
import Derived.LaidMore
import Derived.OpenShut
import Derived.Stop.Joined
import Derived.Stop.LaidTwo
import Derived.LaidSub
import Derived.MakeChecks
import Derived.ProofKit
namespace Go.Proofs.YtgiekhohhogdiaaDoor
open Go Go.RowKit
set_option linter.unusedVariables false

/-- What each row of the seat lists. -/
def lst : List (String × DataW Unit) := [("peregrine/reassembly.errArgument", Rows.laid_peregrine_reassembly_errArgument), ("peregrine/reassembly.errConflict", Rows.laid_peregrine_reassembly_errConflict), ("peregrine/reassembly.errFinalSize", Rows.laid_peregrine_reassembly_errFinalSize), ("peregrine/reassembly.errRoom", Rows.laid_peregrine_reassembly_errRoom)]
set_option maxRecDepth 100000
theorem g_g : Tryd.prog.globalNamed "peregrine/reassembly.errArgument" = some 3 := by kernel_rfl
theorem gt_g : (Tryd.prog.globals[(3 : Nat)]?).map (·.type) = some 57 := by kernel_rfl
theorem g_c : Tryd.prog.globalNamed "peregrine/reassembly.errConflict" = some 0 := by kernel_rfl
theorem gt_c : (Tryd.prog.globals[(0 : Nat)]?).map (·.type) = some 57 := by kernel_rfl
theorem g_f : Tryd.prog.globalNamed "peregrine/reassembly.errFinalSize" = some 1 := by kernel_rfl
theorem gt_f : (Tryd.prog.globals[(1 : Nat)]?).map (·.type) = some 57 := by kernel_rfl
theorem g_r : Tryd.prog.globalNamed "peregrine/reassembly.errRoom" = some 2 := by kernel_rfl
theorem gt_r : (Tryd.prog.globals[(2 : Nat)]?).map (·.type) = some 57 := by kernel_rfl
theorem star : "*" ++ "errors.errorString" = "*errors.errorString" := by decide
theorem rowE (u : TypeId) (h : Tryd.prog.typeName? 3 u = some "*errors.errorString") : u = 141 :=
  typeName_ptr_named (nm := "errors.errorString") (by rw [star]; kernel_rfl) (by kernel_rfl) (by decide) u (by rw [star]; exact h)
theorem cellsE : Tryd.prog.cellsOf 164 = 1 := by kernel_rfl
theorem cellsS : Tryd.prog.cellsOf 9 = 1 := by kernel_rfl
theorem two {n0 n1 : String} {text0 text1 : List UInt8} {W : World} {g0 g1 : Nat}
    (h : laidMet Tryd.prog [(n0, .iface "*errors.errorString" (.ptr (.agg [.lit (.string text0)]))), (n1, .iface "*errors.errorString" (.ptr (.agg [.lit (.string text1)])))] W)
    (hg0 : Tryd.prog.globalNamed n0 = some g0) (ht0 : (Tryd.prog.globals[g0]?).map (·.type) = some 57) (hg1 : Tryd.prog.globalNamed n1 = some g1) (ht1 : (Tryd.prog.globals[g1]?).map (·.type) = some 57) :
    ∃ a0 a1 : Addr, W.cell? ⟨g0, 0, none⟩ = some (.iface 141 (.pointer (some a0))) ∧ W.cell? ⟨g1, 0, none⟩ = some (.iface 141 (.pointer (some a1))) ∧ a0 ≠ a1 ∧
      (∃ cs t, W.heap[a0.block]? = some (.cells cs t (0, 0))) ∧ (∃ cs t, W.heap[a1.block]? = some (.cells cs t (0, 0))) := by
  obtain ⟨a0, a1, s0, s1, c0, c1, t0, t1, hv0, hv1, _, _, _, _, _, _, hne, hb0, hb1⟩ := laid_sentinels2 h hg0 ht0 hg1 ht1 Tryd.underlying57 rowE Tryd.underlying141 Tryd.underlying164 rfl rfl Tryd.underlying9 cellsE cellsS
  exact ⟨a0, a1, by simpa using World.var?_cell hg0 hv0 0, by simpa using World.var?_cell hg1 hv1 0, hne, ⟨_, _, hb0⟩, ⟨_, _, hb1⟩⟩
theorem lt_of_heap {W : World} {k : Nat} {o : Obj} (h : W.heap[k]? = some o) : k < W.heap.size := (Array.getElem?_eq_some_iff.1 h).1
theorem snt_of_laid {W : World} (h : laidMet Tryd.prog lst W) : ∃ c f r g, Snt W.heap.size c f r g W := by
  have lgc := h.filter (fun x => ["peregrine/reassembly.errArgument", "peregrine/reassembly.errConflict"].contains x.1)
  rw [show (lst.filter fun x => ["peregrine/reassembly.errArgument", "peregrine/reassembly.errConflict"].contains x.1) = [("peregrine/reassembly.errArgument", Rows.laid_peregrine_reassembly_errArgument), ("peregrine/reassembly.errConflict", Rows.laid_peregrine_reassembly_errConflict)] from rfl] at lgc
  obtain ⟨xgc, ygc, pgc, qgc, ngc, ugc, vgc⟩ := two lgc g_g gt_g g_c gt_c
  have lgf := h.filter (fun x => ["peregrine/reassembly.errArgument", "peregrine/reassembly.errFinalSize"].contains x.1)
  rw [show (lst.filter fun x => ["peregrine/reassembly.errArgument", "peregrine/reassembly.errFinalSize"].contains x.1) = [("peregrine/reassembly.errArgument", Rows.laid_peregrine_reassembly_errArgument), ("peregrine/reassembly.errFinalSize", Rows.laid_peregrine_reassembly_errFinalSize)] from rfl] at lgf
  obtain ⟨xgf, ygf, pgf, qgf, ngf, ugf, vgf⟩ := two lgf g_g gt_g g_f gt_f
  have lgr := h.filter (fun x => ["peregrine/reassembly.errArgument", "peregrine/reassembly.errRoom"].contains x.1)
  rw [show (lst.filter fun x => ["peregrine/reassembly.errArgument", "peregrine/reassembly.errRoom"].contains x.1) = [("peregrine/reassembly.errArgument", Rows.laid_peregrine_reassembly_errArgument), ("peregrine/reassembly.errRoom", Rows.laid_peregrine_reassembly_errRoom)] from rfl] at lgr
  obtain ⟨xgr, ygr, pgr, qgr, ngr, ugr, vgr⟩ := two lgr g_g gt_g g_r gt_r
  have lcf := h.filter (fun x => ["peregrine/reassembly.errConflict", "peregrine/reassembly.errFinalSize"].contains x.1)
  rw [show (lst.filter fun x => ["peregrine/reassembly.errConflict", "peregrine/reassembly.errFinalSize"].contains x.1) = [("peregrine/reassembly.errConflict", Rows.laid_peregrine_reassembly_errConflict), ("peregrine/reassembly.errFinalSize", Rows.laid_peregrine_reassembly_errFinalSize)] from rfl] at lcf
  obtain ⟨xcf, ycf, pcf, qcf, ncf, ucf, vcf⟩ := two lcf g_c gt_c g_f gt_f
  have lcr := h.filter (fun x => ["peregrine/reassembly.errConflict", "peregrine/reassembly.errRoom"].contains x.1)
  rw [show (lst.filter fun x => ["peregrine/reassembly.errConflict", "peregrine/reassembly.errRoom"].contains x.1) = [("peregrine/reassembly.errConflict", Rows.laid_peregrine_reassembly_errConflict), ("peregrine/reassembly.errRoom", Rows.laid_peregrine_reassembly_errRoom)] from rfl] at lcr
  obtain ⟨xcr, ycr, pcr, qcr, ncr, ucr, vcr⟩ := two lcr g_c gt_c g_r gt_r
  have lfr := h.filter (fun x => ["peregrine/reassembly.errFinalSize", "peregrine/reassembly.errRoom"].contains x.1)
  rw [show (lst.filter fun x => ["peregrine/reassembly.errFinalSize", "peregrine/reassembly.errRoom"].contains x.1) = [("peregrine/reassembly.errFinalSize", Rows.laid_peregrine_reassembly_errFinalSize), ("peregrine/reassembly.errRoom", Rows.laid_peregrine_reassembly_errRoom)] from rfl] at lfr
  obtain ⟨xfr, yfr, pfr, qfr, nfr, ufr, vfr⟩ := two lfr g_f gt_f g_r gt_r
  obtain rfl : xgc = xgf := by have := pgc.symm.trans pgf; simpa using this
  obtain rfl : xgc = xgr := by have := pgc.symm.trans pgr; simpa using this
  obtain rfl : ygc = xcf := by have := qgc.symm.trans pcf; simpa using this
  obtain rfl : ygc = xcr := by have := qgc.symm.trans pcr; simpa using this
  obtain rfl : ygf = ycf := by have := qgf.symm.trans qcf; simpa using this
  obtain rfl : ygf = xfr := by have := qgf.symm.trans pfr; simpa using this
  obtain rfl : ygr = ycr := by have := qgr.symm.trans qcr; simpa using this
  obtain rfl : ygr = yfr := by have := qgr.symm.trans qfr; simpa using this
  have k4 : 4 ≤ W.heap.size := by have := World.block_lt_of_cell? _ _ pgc; exact this
  refine ⟨ygc, ygf, ygr, xgc, qgc, qgf, qgr, pgc, k4, ?_, ?_, ?_, ?_, vgc, vgf, vgr, ugc, fun e => ncf e.symm, fun e => ncr e.symm, fun e => nfr e.symm, ngc, ngf, ngr⟩
  · obtain ⟨_, _, e⟩ := vgc; exact lt_of_heap e
  · obtain ⟨_, _, e⟩ := vgf; exact lt_of_heap e
  · obtain ⟨_, _, e⟩ := vgr; exact lt_of_heap e
  · obtain ⟨_, _, e⟩ := ugc; exact lt_of_heap e
/-- The door's own heap meets the condition. -/
theorem door_met (os : Os) (args : Array Value) : laidMet Tryd.prog lst ((World.doorLaid Tryd.prog 400 os).forCall (fun _ _ => 0) ⟨#[], args, []⟩).memory :=
  laidMet_of_run' 8 (by kernel_rfl) (by kernel_rfl)
end Go.Proofs.YtgiekhohhogdiaaDoor
