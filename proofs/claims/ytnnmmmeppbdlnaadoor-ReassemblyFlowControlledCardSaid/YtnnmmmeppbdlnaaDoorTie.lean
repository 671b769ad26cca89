/-
  DERIVED. GIVEN WITH THE SEED: THE PROGRAM's TIES (one call each: nine closed facts by the kernel) AND EACH ROW's TIE, after the 31st guide's Derived/Test/Toyas{Tie, Card}.lean. No idea stands in it: it is a product of the set-up. Laid BY PROGRAM, IN A SANDBOX (cutbox-door.mjs). By AI agents, Wed Nov 11 2026. No macro, syntax, notation, axiom, sorry.
-/
import Derived.Test.YtnnmmmeppbdlnaaDoorRows
import Derived.LaidByTextLater
import Derived.SevenTiedAt
import Derived.LaidSub
import Derived.LaidOnce
namespace Go.Proofs.YtnnmmmeppbdlnaaDoor
open Go
set_option maxRecDepth 100000
theorem seatTie1 : Tryd.prog.laidByTextLater [("peregrine/reassembly.errArgument", Rows.laid_peregrine_reassembly_errArgument), ("peregrine/reassembly.errConflict", Rows.laid_peregrine_reassembly_errConflict), ("peregrine/reassembly.errFinalSize", Rows.laid_peregrine_reassembly_errFinalSize), ("peregrine/reassembly.errRoom", Rows.laid_peregrine_reassembly_errRoom)] [.sentinel, .sentinel, .sentinel, .sentinel] true :=
  Program.laidByTextLater_by_one 85 8 2 (by kernel_rfl) (by kernel_rfl) (by kernel_rfl) (by kernel_rfl) (by kernel_rfl) (by kernel_rfl) (fun _ _ => by kernel_rfl)
theorem noOwnUnsafe : Tryd.pinned.checked.prog.headLifts.contains "ownunsafe" = false := by kernel_rfl
theorem tie : Tryd.prog.laidByTextLater [("peregrine/reassembly.errArgument", Rows.laid_peregrine_reassembly_errArgument), ("peregrine/reassembly.errConflict", Rows.laid_peregrine_reassembly_errConflict), ("peregrine/reassembly.errFinalSize", Rows.laid_peregrine_reassembly_errFinalSize), ("peregrine/reassembly.errRoom", Rows.laid_peregrine_reassembly_errRoom)] [.sentinel, .sentinel, .sentinel, .sentinel] true :=
  Program.laidByTextLater.sub seatTie1 ["peregrine/reassembly.errArgument", "peregrine/reassembly.errConflict", "peregrine/reassembly.errFinalSize", "peregrine/reassembly.errRoom"] (by kernel_rfl) (by kernel_rfl)
theorem reassemblyMatchesReference_row_tie : Rows.reassemblyMatchesReferenceRow.laidByTextAt .later Tryd.pinned [.sentinel, .sentinel, .sentinel, .sentinel] true :=
  OpenClaim.laidByTextAt_later rfl rfl tie noOwnUnsafe
theorem reassemblyPrefix_row_tie : Rows.reassemblyPrefixRow.laidByTextAt .later Tryd.pinned [.sentinel, .sentinel, .sentinel, .sentinel] true :=
  OpenClaim.laidByTextAt_later rfl rfl tie noOwnUnsafe
theorem reassemblyComplete_row_tie : Rows.reassemblyCompleteRow.laidByTextAt .later Tryd.pinned [.sentinel, .sentinel, .sentinel, .sentinel] true :=
  OpenClaim.laidByTextAt_later rfl rfl tie noOwnUnsafe
theorem reassemblyIdempotent_row_tie : Rows.reassemblyIdempotentRow.laidByTextAt .later Tryd.pinned [.sentinel, .sentinel, .sentinel, .sentinel] true :=
  OpenClaim.laidByTextAt_later rfl rfl tie noOwnUnsafe
theorem reassemblyConflict_row_tie : Rows.reassemblyConflictRow.laidByTextAt .later Tryd.pinned [.sentinel, .sentinel, .sentinel, .sentinel] true :=
  OpenClaim.laidByTextAt_later rfl rfl tie noOwnUnsafe
theorem reassemblyFinalSize_row_tie : Rows.reassemblyFinalSizeRow.laidByTextAt .later Tryd.pinned [.sentinel, .sentinel, .sentinel, .sentinel] true :=
  OpenClaim.laidByTextAt_later rfl rfl tie noOwnUnsafe
theorem reassemblyBounded_row_tie : Rows.reassemblyBoundedRow.laidByTextAt .later Tryd.pinned [.sentinel, .sentinel, .sentinel, .sentinel] true :=
  OpenClaim.laidByTextAt_later rfl rfl tie noOwnUnsafe
theorem reassemblyFlowControlled_row_tie : Rows.reassemblyFlowControlledRow.laidByTextAt .later Tryd.pinned [.sentinel, .sentinel, .sentinel, .sentinel] true :=
  OpenClaim.laidByTextAt_later rfl rfl tie noOwnUnsafe
theorem reassemblyMatchesReferenceUpto_row_tie : Rows.reassemblyMatchesReferenceUptoRow.laidByTextAt .later Tryd.pinned [.sentinel, .sentinel, .sentinel, .sentinel] true :=
  OpenClaim.laidByTextAt_later rfl rfl tie noOwnUnsafe
theorem reassemblyPrefixUpto_row_tie : Rows.reassemblyPrefixUptoRow.laidByTextAt .later Tryd.pinned [.sentinel, .sentinel, .sentinel, .sentinel] true :=
  OpenClaim.laidByTextAt_later rfl rfl tie noOwnUnsafe
theorem reassemblyCompleteUpto_row_tie : Rows.reassemblyCompleteUptoRow.laidByTextAt .later Tryd.pinned [.sentinel, .sentinel, .sentinel, .sentinel] true :=
  OpenClaim.laidByTextAt_later rfl rfl tie noOwnUnsafe
theorem reassemblyIdempotentUpto_row_tie : Rows.reassemblyIdempotentUptoRow.laidByTextAt .later Tryd.pinned [.sentinel, .sentinel, .sentinel, .sentinel] true :=
  OpenClaim.laidByTextAt_later rfl rfl tie noOwnUnsafe
theorem reassemblyConflictUpto_row_tie : Rows.reassemblyConflictUptoRow.laidByTextAt .later Tryd.pinned [.sentinel, .sentinel, .sentinel, .sentinel] true :=
  OpenClaim.laidByTextAt_later rfl rfl tie noOwnUnsafe
theorem reassemblyFinalSizeUpto_row_tie : Rows.reassemblyFinalSizeUptoRow.laidByTextAt .later Tryd.pinned [.sentinel, .sentinel, .sentinel, .sentinel] true :=
  OpenClaim.laidByTextAt_later rfl rfl tie noOwnUnsafe
theorem reassemblyBoundedUpto_row_tie : Rows.reassemblyBoundedUptoRow.laidByTextAt .later Tryd.pinned [.sentinel, .sentinel, .sentinel, .sentinel] true :=
  OpenClaim.laidByTextAt_later rfl rfl tie noOwnUnsafe
theorem reassemblyFlowControlledUpto_row_tie : Rows.reassemblyFlowControlledUptoRow.laidByTextAt .later Tryd.pinned [.sentinel, .sentinel, .sentinel, .sentinel] true :=
  OpenClaim.laidByTextAt_later rfl rfl tie noOwnUnsafe
end Go.Proofs.YtnnmmmeppbdlnaaDoor
