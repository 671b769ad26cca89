/-
  NARROWER THAN 'FOR EVERY INPUT', by the rows' own cells (each row's printed sentence says how): ReassemblyMatchesReference: laid · ReassemblyPrefix: laid · ReassemblyComplete: laid · ReassemblyIdempotent: laid · ReassemblyConflict: laid · ReassemblyFinalSize: laid · ReassemblyBounded: laid · ReassemblyFlowControlled: laid.
  DERIVED. THE GIVEN ROWS OF THIS SEAT. 8 by the template 'for every input the law returns true; each argument reads behind the call as it read before'; 0 by the template 'total and deterministic' (their statements: YtnnmmmeppbdlnaaDoorTotals.lean).
  GIVEN WITH THE SEED: the statements are not yours to turn. If you find one false, say at which input.
  Laid BY PROGRAM, IN A SANDBOX (cutbox-rows.mjs): the forced cells as the released guide's own fill.sh prints them over the translation 6963cc60f23e771c… (all of the seat's roots in one cut). By AI agents, Wed Nov 11 2026. No macro, syntax, notation, axiom, sorry.
-/
import Derived.Test.YtnnmmmeppbdlnaaDoorChecked
import GoSem.Claim
import GoSem.ClaimJoined
import GoSem.ClaimMapViews
import Derived.JoinedTies
import Derived.KernelRfl
namespace Go.Proofs.YtnnmmmeppbdlnaaDoor
/- THE CELL 'sum', in the pinned program and in every row, IS THE sha256 OF THE DUMP (.gsa) THAT YtnnmmmeppbdlnaaDoorProg.lean LOADS. Nothing in Lean hashes anything: it is a label: what it is worth is what the hold of that sum in a sandbox is worth. -/
noncomputable def Tryd.pinned : Pinned := { name := "ytnnmmmeppbdlnaadoor", sum := "6963cc60f23e771c704115a17fb8041a9025d58cd4bb5a8b23fc9c93a74c1f82", checked := Tryd.checked }
namespace Rows
def none {H : Type} : Left H := { results := [], args := [] }

/- WHAT THE LISTED PACKAGE-LEVEL VARIABLES READ AS WHEN THE CALL BEGINS. Each datum BY PROGRAM (the guide's laid-datum.mjs) off the statement by which the dump's own 'gosem.cut.vars' lays the variable. In a bare row this is a premise. The card (YtnnmmmeppbdlnaaDoorCards.lean) ties it to the program's text. -/
def laid_peregrine_reassembly_errArgument {H : Type} : DataW H := .iface "*errors.errorString" (.ptr (.agg [.lit (.string [114, 101, 97, 115, 115, 101, 109, 98, 108, 121, 58, 32, 105, 110, 118, 97, 108, 105, 100, 32, 97, 114, 103, 117, 109, 101, 110, 116])]))
def laid_peregrine_reassembly_errConflict {H : Type} : DataW H := .iface "*errors.errorString" (.ptr (.agg [.lit (.string [114, 101, 97, 115, 115, 101, 109, 98, 108, 121, 58, 32, 112, 105, 101, 99, 101, 115, 32, 100, 105, 115, 97, 103, 114, 101, 101])]))
def laid_peregrine_reassembly_errFinalSize {H : Type} : DataW H := .iface "*errors.errorString" (.ptr (.agg [.lit (.string [114, 101, 97, 115, 115, 101, 109, 98, 108, 121, 58, 32, 102, 105, 110, 97, 108, 32, 115, 105, 122, 101, 115, 32, 100, 105, 115, 97, 103, 114, 101, 101])]))
def laid_peregrine_reassembly_errRoom {H : Type} : DataW H := .iface "*errors.errorString" (.ptr (.agg [.lit (.string [114, 101, 97, 115, 115, 101, 109, 98, 108, 121, 58, 32, 98, 101, 121, 111, 110, 100, 32, 116, 104, 101, 32, 98, 117, 102, 102, 101, 114])]))

/-- 'peregrinelaw16.ReassemblyMatchesReference': WHATEVER THE INPUT: true; the input reads as it did. -/
def reassemblyMatchesReferenceSpec : ChangeSpec := { name := "reassemblyMatchesReference", fn := fun _ => fun
  | [d1, d2] => { results := [.lit (.bool true)], args := [d1, d2] }
  | _ => none }
def reassemblyMatchesReferenceRow : OpenClaim := { program := "ytnnmmmeppbdlnaadoor", sum := "6963cc60f23e771c704115a17fb8041a9025d58cd4bb5a8b23fc9c93a74c1f82", func := "peregrine/peregrinelaw16.ReassemblyMatchesReference", spec := "reassemblyMatchesReference", inPlace := ["internal/reflectlite.TypeOf"], unfollowed := true, recurses := true, named := ["peregrine/reassembly.errArgument", "peregrine/reassembly.errConflict", "peregrine/reassembly.errFinalSize", "peregrine/reassembly.errRoom"], apart := false, laid := [("peregrine/reassembly.errArgument", laid_peregrine_reassembly_errArgument), ("peregrine/reassembly.errConflict", laid_peregrine_reassembly_errConflict), ("peregrine/reassembly.errFinalSize", laid_peregrine_reassembly_errFinalSize), ("peregrine/reassembly.errRoom", laid_peregrine_reassembly_errRoom)] }
def ReassemblyMatchesReferenceSaid : Prop := reassemblyMatchesReferenceRow.holds Tryd.pinned (OpenSpec.ofChange reassemblyMatchesReferenceSpec)

/-- ITS FALSE NEIGHBOUR: 'it returns false'. Refute it at one input. -/
def reassemblyMatchesReferenceWrong : ChangeSpec := { name := "reassemblyMatchesReference", fn := fun _ => fun
  | [d1, d2] => { results := [.lit (.bool false)], args := [d1, d2] }
  | _ => none }
def ReassemblyMatchesReferenceWrongFalsely : Prop := reassemblyMatchesReferenceRow.holds Tryd.pinned (OpenSpec.ofChange reassemblyMatchesReferenceWrong)

/-- 'peregrinelaw16.ReassemblyPrefix': WHATEVER THE INPUT: true; the input reads as it did. -/
def reassemblyPrefixSpec : ChangeSpec := { name := "reassemblyPrefix", fn := fun _ => fun
  | [d1, d2, d3] => { results := [.lit (.bool true)], args := [d1, d2, d3] }
  | _ => none }
def reassemblyPrefixRow : OpenClaim := { program := "ytnnmmmeppbdlnaadoor", sum := "6963cc60f23e771c704115a17fb8041a9025d58cd4bb5a8b23fc9c93a74c1f82", func := "peregrine/peregrinelaw16.ReassemblyPrefix", spec := "reassemblyPrefix", inPlace := ["internal/reflectlite.TypeOf"], unfollowed := true, recurses := true, named := ["peregrine/reassembly.errArgument", "peregrine/reassembly.errConflict", "peregrine/reassembly.errFinalSize", "peregrine/reassembly.errRoom"], apart := false, laid := [("peregrine/reassembly.errArgument", laid_peregrine_reassembly_errArgument), ("peregrine/reassembly.errConflict", laid_peregrine_reassembly_errConflict), ("peregrine/reassembly.errFinalSize", laid_peregrine_reassembly_errFinalSize), ("peregrine/reassembly.errRoom", laid_peregrine_reassembly_errRoom)] }
def ReassemblyPrefixSaid : Prop := reassemblyPrefixRow.holds Tryd.pinned (OpenSpec.ofChange reassemblyPrefixSpec)

/-- ITS FALSE NEIGHBOUR: 'it returns false'. Refute it at one input. -/
def reassemblyPrefixWrong : ChangeSpec := { name := "reassemblyPrefix", fn := fun _ => fun
  | [d1, d2, d3] => { results := [.lit (.bool false)], args := [d1, d2, d3] }
  | _ => none }
def ReassemblyPrefixWrongFalsely : Prop := reassemblyPrefixRow.holds Tryd.pinned (OpenSpec.ofChange reassemblyPrefixWrong)

/-- 'peregrinelaw16.ReassemblyComplete': WHATEVER THE INPUT: true; the input reads as it did. -/
def reassemblyCompleteSpec : ChangeSpec := { name := "reassemblyComplete", fn := fun _ => fun
  | [d1, d2, d3, d4] => { results := [.lit (.bool true)], args := [d1, d2, d3, d4] }
  | _ => none }
def reassemblyCompleteRow : OpenClaim := { program := "ytnnmmmeppbdlnaadoor", sum := "6963cc60f23e771c704115a17fb8041a9025d58cd4bb5a8b23fc9c93a74c1f82", func := "peregrine/peregrinelaw16.ReassemblyComplete", spec := "reassemblyComplete", inPlace := ["internal/reflectlite.TypeOf"], unfollowed := true, recurses := true, named := ["peregrine/reassembly.errArgument", "peregrine/reassembly.errConflict", "peregrine/reassembly.errFinalSize", "peregrine/reassembly.errRoom"], apart := false, laid := [("peregrine/reassembly.errArgument", laid_peregrine_reassembly_errArgument), ("peregrine/reassembly.errConflict", laid_peregrine_reassembly_errConflict), ("peregrine/reassembly.errFinalSize", laid_peregrine_reassembly_errFinalSize), ("peregrine/reassembly.errRoom", laid_peregrine_reassembly_errRoom)] }
def ReassemblyCompleteSaid : Prop := reassemblyCompleteRow.holds Tryd.pinned (OpenSpec.ofChange reassemblyCompleteSpec)

/-- ITS FALSE NEIGHBOUR: 'it returns false'. Refute it at one input. -/
def reassemblyCompleteWrong : ChangeSpec := { name := "reassemblyComplete", fn := fun _ => fun
  | [d1, d2, d3, d4] => { results := [.lit (.bool false)], args := [d1, d2, d3, d4] }
  | _ => none }
def ReassemblyCompleteWrongFalsely : Prop := reassemblyCompleteRow.holds Tryd.pinned (OpenSpec.ofChange reassemblyCompleteWrong)

/-- 'peregrinelaw16.ReassemblyIdempotent': WHATEVER THE INPUT: true; the input reads as it did. -/
def reassemblyIdempotentSpec : ChangeSpec := { name := "reassemblyIdempotent", fn := fun _ => fun
  | [d1, d2] => { results := [.lit (.bool true)], args := [d1, d2] }
  | _ => none }
def reassemblyIdempotentRow : OpenClaim := { program := "ytnnmmmeppbdlnaadoor", sum := "6963cc60f23e771c704115a17fb8041a9025d58cd4bb5a8b23fc9c93a74c1f82", func := "peregrine/peregrinelaw16.ReassemblyIdempotent", spec := "reassemblyIdempotent", inPlace := ["internal/reflectlite.TypeOf"], unfollowed := true, recurses := true, named := ["peregrine/reassembly.errArgument", "peregrine/reassembly.errConflict", "peregrine/reassembly.errFinalSize", "peregrine/reassembly.errRoom"], apart := false, laid := [("peregrine/reassembly.errArgument", laid_peregrine_reassembly_errArgument), ("peregrine/reassembly.errConflict", laid_peregrine_reassembly_errConflict), ("peregrine/reassembly.errFinalSize", laid_peregrine_reassembly_errFinalSize), ("peregrine/reassembly.errRoom", laid_peregrine_reassembly_errRoom)] }
def ReassemblyIdempotentSaid : Prop := reassemblyIdempotentRow.holds Tryd.pinned (OpenSpec.ofChange reassemblyIdempotentSpec)

/-- ITS FALSE NEIGHBOUR: 'it returns false'. Refute it at one input. -/
def reassemblyIdempotentWrong : ChangeSpec := { name := "reassemblyIdempotent", fn := fun _ => fun
  | [d1, d2] => { results := [.lit (.bool false)], args := [d1, d2] }
  | _ => none }
def ReassemblyIdempotentWrongFalsely : Prop := reassemblyIdempotentRow.holds Tryd.pinned (OpenSpec.ofChange reassemblyIdempotentWrong)

/-- 'peregrinelaw16.ReassemblyConflict': WHATEVER THE INPUT: true; the input reads as it did. -/
def reassemblyConflictSpec : ChangeSpec := { name := "reassemblyConflict", fn := fun _ => fun
  | [d1, d2, d3, d4] => { results := [.lit (.bool true)], args := [d1, d2, d3, d4] }
  | _ => none }
def reassemblyConflictRow : OpenClaim := { program := "ytnnmmmeppbdlnaadoor", sum := "6963cc60f23e771c704115a17fb8041a9025d58cd4bb5a8b23fc9c93a74c1f82", func := "peregrine/peregrinelaw16.ReassemblyConflict", spec := "reassemblyConflict", inPlace := ["internal/reflectlite.TypeOf"], unfollowed := true, recurses := true, named := ["peregrine/reassembly.errArgument", "peregrine/reassembly.errConflict", "peregrine/reassembly.errFinalSize", "peregrine/reassembly.errRoom"], apart := false, laid := [("peregrine/reassembly.errArgument", laid_peregrine_reassembly_errArgument), ("peregrine/reassembly.errConflict", laid_peregrine_reassembly_errConflict), ("peregrine/reassembly.errFinalSize", laid_peregrine_reassembly_errFinalSize), ("peregrine/reassembly.errRoom", laid_peregrine_reassembly_errRoom)] }
def ReassemblyConflictSaid : Prop := reassemblyConflictRow.holds Tryd.pinned (OpenSpec.ofChange reassemblyConflictSpec)

/-- ITS FALSE NEIGHBOUR: 'it returns false'. Refute it at one input. -/
def reassemblyConflictWrong : ChangeSpec := { name := "reassemblyConflict", fn := fun _ => fun
  | [d1, d2, d3, d4] => { results := [.lit (.bool false)], args := [d1, d2, d3, d4] }
  | _ => none }
def ReassemblyConflictWrongFalsely : Prop := reassemblyConflictRow.holds Tryd.pinned (OpenSpec.ofChange reassemblyConflictWrong)

/-- 'peregrinelaw16.ReassemblyFinalSize': WHATEVER THE INPUT: true; the input reads as it did. -/
def reassemblyFinalSizeSpec : ChangeSpec := { name := "reassemblyFinalSize", fn := fun _ => fun
  | [d1, d2, d3] => { results := [.lit (.bool true)], args := [d1, d2, d3] }
  | _ => none }
def reassemblyFinalSizeRow : OpenClaim := { program := "ytnnmmmeppbdlnaadoor", sum := "6963cc60f23e771c704115a17fb8041a9025d58cd4bb5a8b23fc9c93a74c1f82", func := "peregrine/peregrinelaw16.ReassemblyFinalSize", spec := "reassemblyFinalSize", inPlace := ["internal/reflectlite.TypeOf"], unfollowed := true, recurses := true, named := ["peregrine/reassembly.errArgument", "peregrine/reassembly.errConflict", "peregrine/reassembly.errFinalSize", "peregrine/reassembly.errRoom"], apart := false, laid := [("peregrine/reassembly.errArgument", laid_peregrine_reassembly_errArgument), ("peregrine/reassembly.errConflict", laid_peregrine_reassembly_errConflict), ("peregrine/reassembly.errFinalSize", laid_peregrine_reassembly_errFinalSize), ("peregrine/reassembly.errRoom", laid_peregrine_reassembly_errRoom)] }
def ReassemblyFinalSizeSaid : Prop := reassemblyFinalSizeRow.holds Tryd.pinned (OpenSpec.ofChange reassemblyFinalSizeSpec)

/-- ITS FALSE NEIGHBOUR: 'it returns false'. Refute it at one input. -/
def reassemblyFinalSizeWrong : ChangeSpec := { name := "reassemblyFinalSize", fn := fun _ => fun
  | [d1, d2, d3] => { results := [.lit (.bool false)], args := [d1, d2, d3] }
  | _ => none }
def ReassemblyFinalSizeWrongFalsely : Prop := reassemblyFinalSizeRow.holds Tryd.pinned (OpenSpec.ofChange reassemblyFinalSizeWrong)

/-- 'peregrinelaw16.ReassemblyBounded': WHATEVER THE INPUT: true; the input reads as it did. -/
def reassemblyBoundedSpec : ChangeSpec := { name := "reassemblyBounded", fn := fun _ => fun
  | [d1, d2, d3, d4] => { results := [.lit (.bool true)], args := [d1, d2, d3, d4] }
  | _ => none }
def reassemblyBoundedRow : OpenClaim := { program := "ytnnmmmeppbdlnaadoor", sum := "6963cc60f23e771c704115a17fb8041a9025d58cd4bb5a8b23fc9c93a74c1f82", func := "peregrine/peregrinelaw16.ReassemblyBounded", spec := "reassemblyBounded", inPlace := ["internal/reflectlite.TypeOf"], unfollowed := true, recurses := true, named := ["peregrine/reassembly.errArgument", "peregrine/reassembly.errConflict", "peregrine/reassembly.errFinalSize", "peregrine/reassembly.errRoom"], apart := false, laid := [("peregrine/reassembly.errArgument", laid_peregrine_reassembly_errArgument), ("peregrine/reassembly.errConflict", laid_peregrine_reassembly_errConflict), ("peregrine/reassembly.errFinalSize", laid_peregrine_reassembly_errFinalSize), ("peregrine/reassembly.errRoom", laid_peregrine_reassembly_errRoom)] }
def ReassemblyBoundedSaid : Prop := reassemblyBoundedRow.holds Tryd.pinned (OpenSpec.ofChange reassemblyBoundedSpec)

/-- ITS FALSE NEIGHBOUR: 'it returns false'. Refute it at one input. -/
def reassemblyBoundedWrong : ChangeSpec := { name := "reassemblyBounded", fn := fun _ => fun
  | [d1, d2, d3, d4] => { results := [.lit (.bool false)], args := [d1, d2, d3, d4] }
  | _ => none }
def ReassemblyBoundedWrongFalsely : Prop := reassemblyBoundedRow.holds Tryd.pinned (OpenSpec.ofChange reassemblyBoundedWrong)

/-- 'peregrinelaw16.ReassemblyFlowControlled': WHATEVER THE INPUT: true; the input reads as it did. -/
def reassemblyFlowControlledSpec : ChangeSpec := { name := "reassemblyFlowControlled", fn := fun _ => fun
  | [d1, d2, d3] => { results := [.lit (.bool true)], args := [d1, d2, d3] }
  | _ => none }
def reassemblyFlowControlledRow : OpenClaim := { program := "ytnnmmmeppbdlnaadoor", sum := "6963cc60f23e771c704115a17fb8041a9025d58cd4bb5a8b23fc9c93a74c1f82", func := "peregrine/peregrinelaw16.ReassemblyFlowControlled", spec := "reassemblyFlowControlled", inPlace := ["internal/reflectlite.TypeOf"], unfollowed := true, recurses := true, named := ["peregrine/reassembly.errArgument", "peregrine/reassembly.errConflict", "peregrine/reassembly.errFinalSize", "peregrine/reassembly.errRoom"], apart := false, laid := [("peregrine/reassembly.errArgument", laid_peregrine_reassembly_errArgument), ("peregrine/reassembly.errConflict", laid_peregrine_reassembly_errConflict), ("peregrine/reassembly.errFinalSize", laid_peregrine_reassembly_errFinalSize), ("peregrine/reassembly.errRoom", laid_peregrine_reassembly_errRoom)] }
def ReassemblyFlowControlledSaid : Prop := reassemblyFlowControlledRow.holds Tryd.pinned (OpenSpec.ofChange reassemblyFlowControlledSpec)

/-- ITS FALSE NEIGHBOUR: 'it returns false'. Refute it at one input. -/
def reassemblyFlowControlledWrong : ChangeSpec := { name := "reassemblyFlowControlled", fn := fun _ => fun
  | [d1, d2, d3] => { results := [.lit (.bool false)], args := [d1, d2, d3] }
  | _ => none }
def ReassemblyFlowControlledWrongFalsely : Prop := reassemblyFlowControlledRow.holds Tryd.pinned (OpenSpec.ofChange reassemblyFlowControlledWrong)

/- THE SECOND FORM. 'bulk': how many values and letters a reading holds, each counted each time it is reached (what is shared counts as often as it is met; a slice's spare places count too). A statement '..UptoSaid' is the law's where the arguments, and the package variables that the reading takes, are together of bulk at most 1048576: NARROWER than '..Said'. Prove '..Said' where nothing that the law and all that it calls make is longer than what came in: it says more and counts as full. Else prove '..UptoSaid'. A law counts once. -/
mutual
def uptoBulk {H : Type} : DataW H → Nat
  | .lit (.string bytes) => bytes.length + 1
  | .lit _ => 1
  | .nil => 1
  | .ptr d => uptoBulk d + 1
  | .slice elems spare => uptoBulkAll elems + uptoBulkAll spare + 1
  | .agg parts => uptoBulkAll parts + 1
  | .iface _ d => uptoBulk d + 1
  | .map entries => uptoBulkEntries entries + 1
  | .held _ => 1
def uptoBulkAll {H : Type} : List (DataW H) → Nat
  | [] => 0
  | d :: r => uptoBulk d + uptoBulkAll r
def uptoBulkEntries {H : Type} : List (Lit × DataW H) → Nat
  | [] => 0
  | x :: r => uptoBulkEntry x + uptoBulkEntries r
def uptoBulkEntry {H : Type} : Lit × DataW H → Nat
  | (.string bytes, d) => bytes.length + uptoBulk d + 1
  | (_, d) => uptoBulk d + 1
 end
def uptoSmall : (H : Type) → List (DataW H) → Bool := fun _ ds => decide (uptoBulkAll ds ≤ 1048576)
def OpenSpec.upto (s : _root_.Go.ChangeSpec) : _root_.Go.OpenSpec := { _root_.Go.OpenSpec.ofChange s with cond := some uptoSmall }

/-- 'peregrinelaw16.ReassemblyMatchesReference', WHERE WHAT IT READS IS OF BULK AT MOST 1048576: true; the input reads as it did. -/
def reassemblyMatchesReferenceUptoRow : OpenClaim := { program := "ytnnmmmeppbdlnaadoor", sum := "6963cc60f23e771c704115a17fb8041a9025d58cd4bb5a8b23fc9c93a74c1f82", func := "peregrine/peregrinelaw16.ReassemblyMatchesReference", spec := "reassemblyMatchesReference", inPlace := ["internal/reflectlite.TypeOf"], unfollowed := true, recurses := true, named := ["peregrine/reassembly.errArgument", "peregrine/reassembly.errConflict", "peregrine/reassembly.errFinalSize", "peregrine/reassembly.errRoom"], apart := false, laid := [("peregrine/reassembly.errArgument", laid_peregrine_reassembly_errArgument), ("peregrine/reassembly.errConflict", laid_peregrine_reassembly_errConflict), ("peregrine/reassembly.errFinalSize", laid_peregrine_reassembly_errFinalSize), ("peregrine/reassembly.errRoom", laid_peregrine_reassembly_errRoom)], narrowed := true }
def ReassemblyMatchesReferenceUptoSaid : Prop := reassemblyMatchesReferenceUptoRow.holds Tryd.pinned (OpenSpec.upto reassemblyMatchesReferenceSpec)

/-- 'peregrinelaw16.ReassemblyPrefix', WHERE WHAT IT READS IS OF BULK AT MOST 1048576: true; the input reads as it did. -/
def reassemblyPrefixUptoRow : OpenClaim := { program := "ytnnmmmeppbdlnaadoor", sum := "6963cc60f23e771c704115a17fb8041a9025d58cd4bb5a8b23fc9c93a74c1f82", func := "peregrine/peregrinelaw16.ReassemblyPrefix", spec := "reassemblyPrefix", inPlace := ["internal/reflectlite.TypeOf"], unfollowed := true, recurses := true, named := ["peregrine/reassembly.errArgument", "peregrine/reassembly.errConflict", "peregrine/reassembly.errFinalSize", "peregrine/reassembly.errRoom"], apart := false, laid := [("peregrine/reassembly.errArgument", laid_peregrine_reassembly_errArgument), ("peregrine/reassembly.errConflict", laid_peregrine_reassembly_errConflict), ("peregrine/reassembly.errFinalSize", laid_peregrine_reassembly_errFinalSize), ("peregrine/reassembly.errRoom", laid_peregrine_reassembly_errRoom)], narrowed := true }
def ReassemblyPrefixUptoSaid : Prop := reassemblyPrefixUptoRow.holds Tryd.pinned (OpenSpec.upto reassemblyPrefixSpec)

/-- 'peregrinelaw16.ReassemblyComplete', WHERE WHAT IT READS IS OF BULK AT MOST 1048576: true; the input reads as it did. -/
def reassemblyCompleteUptoRow : OpenClaim := { program := "ytnnmmmeppbdlnaadoor", sum := "6963cc60f23e771c704115a17fb8041a9025d58cd4bb5a8b23fc9c93a74c1f82", func := "peregrine/peregrinelaw16.ReassemblyComplete", spec := "reassemblyComplete", inPlace := ["internal/reflectlite.TypeOf"], unfollowed := true, recurses := true, named := ["peregrine/reassembly.errArgument", "peregrine/reassembly.errConflict", "peregrine/reassembly.errFinalSize", "peregrine/reassembly.errRoom"], apart := false, laid := [("peregrine/reassembly.errArgument", laid_peregrine_reassembly_errArgument), ("peregrine/reassembly.errConflict", laid_peregrine_reassembly_errConflict), ("peregrine/reassembly.errFinalSize", laid_peregrine_reassembly_errFinalSize), ("peregrine/reassembly.errRoom", laid_peregrine_reassembly_errRoom)], narrowed := true }
def ReassemblyCompleteUptoSaid : Prop := reassemblyCompleteUptoRow.holds Tryd.pinned (OpenSpec.upto reassemblyCompleteSpec)

/-- 'peregrinelaw16.ReassemblyIdempotent', WHERE WHAT IT READS IS OF BULK AT MOST 1048576: true; the input reads as it did. -/
def reassemblyIdempotentUptoRow : OpenClaim := { program := "ytnnmmmeppbdlnaadoor", sum := "6963cc60f23e771c704115a17fb8041a9025d58cd4bb5a8b23fc9c93a74c1f82", func := "peregrine/peregrinelaw16.ReassemblyIdempotent", spec := "reassemblyIdempotent", inPlace := ["internal/reflectlite.TypeOf"], unfollowed := true, recurses := true, named := ["peregrine/reassembly.errArgument", "peregrine/reassembly.errConflict", "peregrine/reassembly.errFinalSize", "peregrine/reassembly.errRoom"], apart := false, laid := [("peregrine/reassembly.errArgument", laid_peregrine_reassembly_errArgument), ("peregrine/reassembly.errConflict", laid_peregrine_reassembly_errConflict), ("peregrine/reassembly.errFinalSize", laid_peregrine_reassembly_errFinalSize), ("peregrine/reassembly.errRoom", laid_peregrine_reassembly_errRoom)], narrowed := true }
def ReassemblyIdempotentUptoSaid : Prop := reassemblyIdempotentUptoRow.holds Tryd.pinned (OpenSpec.upto reassemblyIdempotentSpec)

/-- 'peregrinelaw16.ReassemblyConflict', WHERE WHAT IT READS IS OF BULK AT MOST 1048576: true; the input reads as it did. -/
def reassemblyConflictUptoRow : OpenClaim := { program := "ytnnmmmeppbdlnaadoor", sum := "6963cc60f23e771c704115a17fb8041a9025d58cd4bb5a8b23fc9c93a74c1f82", func := "peregrine/peregrinelaw16.ReassemblyConflict", spec := "reassemblyConflict", inPlace := ["internal/reflectlite.TypeOf"], unfollowed := true, recurses := true, named := ["peregrine/reassembly.errArgument", "peregrine/reassembly.errConflict", "peregrine/reassembly.errFinalSize", "peregrine/reassembly.errRoom"], apart := false, laid := [("peregrine/reassembly.errArgument", laid_peregrine_reassembly_errArgument), ("peregrine/reassembly.errConflict", laid_peregrine_reassembly_errConflict), ("peregrine/reassembly.errFinalSize", laid_peregrine_reassembly_errFinalSize), ("peregrine/reassembly.errRoom", laid_peregrine_reassembly_errRoom)], narrowed := true }
def ReassemblyConflictUptoSaid : Prop := reassemblyConflictUptoRow.holds Tryd.pinned (OpenSpec.upto reassemblyConflictSpec)

/-- 'peregrinelaw16.ReassemblyFinalSize', WHERE WHAT IT READS IS OF BULK AT MOST 1048576: true; the input reads as it did. -/
def reassemblyFinalSizeUptoRow : OpenClaim := { program := "ytnnmmmeppbdlnaadoor", sum := "6963cc60f23e771c704115a17fb8041a9025d58cd4bb5a8b23fc9c93a74c1f82", func := "peregrine/peregrinelaw16.ReassemblyFinalSize", spec := "reassemblyFinalSize", inPlace := ["internal/reflectlite.TypeOf"], unfollowed := true, recurses := true, named := ["peregrine/reassembly.errArgument", "peregrine/reassembly.errConflict", "peregrine/reassembly.errFinalSize", "peregrine/reassembly.errRoom"], apart := false, laid := [("peregrine/reassembly.errArgument", laid_peregrine_reassembly_errArgument), ("peregrine/reassembly.errConflict", laid_peregrine_reassembly_errConflict), ("peregrine/reassembly.errFinalSize", laid_peregrine_reassembly_errFinalSize), ("peregrine/reassembly.errRoom", laid_peregrine_reassembly_errRoom)], narrowed := true }
def ReassemblyFinalSizeUptoSaid : Prop := reassemblyFinalSizeUptoRow.holds Tryd.pinned (OpenSpec.upto reassemblyFinalSizeSpec)

/-- 'peregrinelaw16.ReassemblyBounded', WHERE WHAT IT READS IS OF BULK AT MOST 1048576: true; the input reads as it did. -/
def reassemblyBoundedUptoRow : OpenClaim := { program := "ytnnmmmeppbdlnaadoor", sum := "6963cc60f23e771c704115a17fb8041a9025d58cd4bb5a8b23fc9c93a74c1f82", func := "peregrine/peregrinelaw16.ReassemblyBounded", spec := "reassemblyBounded", inPlace := ["internal/reflectlite.TypeOf"], unfollowed := true, recurses := true, named := ["peregrine/reassembly.errArgument", "peregrine/reassembly.errConflict", "peregrine/reassembly.errFinalSize", "peregrine/reassembly.errRoom"], apart := false, laid := [("peregrine/reassembly.errArgument", laid_peregrine_reassembly_errArgument), ("peregrine/reassembly.errConflict", laid_peregrine_reassembly_errConflict), ("peregrine/reassembly.errFinalSize", laid_peregrine_reassembly_errFinalSize), ("peregrine/reassembly.errRoom", laid_peregrine_reassembly_errRoom)], narrowed := true }
def ReassemblyBoundedUptoSaid : Prop := reassemblyBoundedUptoRow.holds Tryd.pinned (OpenSpec.upto reassemblyBoundedSpec)

/-- 'peregrinelaw16.ReassemblyFlowControlled', WHERE WHAT IT READS IS OF BULK AT MOST 1048576: true; the input reads as it did. -/
def reassemblyFlowControlledUptoRow : OpenClaim := { program := "ytnnmmmeppbdlnaadoor", sum := "6963cc60f23e771c704115a17fb8041a9025d58cd4bb5a8b23fc9c93a74c1f82", func := "peregrine/peregrinelaw16.ReassemblyFlowControlled", spec := "reassemblyFlowControlled", inPlace := ["internal/reflectlite.TypeOf"], unfollowed := true, recurses := true, named := ["peregrine/reassembly.errArgument", "peregrine/reassembly.errConflict", "peregrine/reassembly.errFinalSize", "peregrine/reassembly.errRoom"], apart := false, laid := [("peregrine/reassembly.errArgument", laid_peregrine_reassembly_errArgument), ("peregrine/reassembly.errConflict", laid_peregrine_reassembly_errConflict), ("peregrine/reassembly.errFinalSize", laid_peregrine_reassembly_errFinalSize), ("peregrine/reassembly.errRoom", laid_peregrine_reassembly_errRoom)], narrowed := true }
def ReassemblyFlowControlledUptoSaid : Prop := reassemblyFlowControlledUptoRow.holds Tryd.pinned (OpenSpec.upto reassemblyFlowControlledSpec)

end Rows
end Go.Proofs.YtnnmmmeppbdlnaaDoor
