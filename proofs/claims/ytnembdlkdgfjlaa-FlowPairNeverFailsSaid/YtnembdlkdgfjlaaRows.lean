/-
  No cell of these rows narrows 'for every input' (looked for: loops, veiled, ifaces, maps, wideKeys, modest, calm, conditions, laid).
  DERIVED. THE GIVEN ROWS OF THIS SEAT. 6 by the template 'for every input the law returns true; each argument reads behind the call as it read before'; 0 by the template 'total and deterministic' (their statements: YtnembdlkdgfjlaaTotals.lean).
  GIVEN WITH THE SEED: the statements are not yours to turn. If you find one false, say at which input.
  Laid BY PROGRAM, IN A SANDBOX (cutbox-rows.mjs): the forced cells as the released guide's own fill.sh prints them over the translation 215d16a63ec1f954… (all of the seat's roots in one cut). By AI agents, Wed Nov 11 2026. No macro, syntax, notation, axiom, sorry.
-/
import Derived.Test.YtnembdlkdgfjlaaChecked
import GoSem.Claim
import GoSem.ClaimJoined
import GoSem.ClaimMapViews
import Derived.JoinedTies
import Derived.KernelRfl
namespace Go.Proofs.Ytnembdlkdgfjlaa
/- THE CELL 'sum', in the pinned program and in every row, IS THE sha256 OF THE DUMP (.gsa) THAT YtnembdlkdgfjlaaProg.lean LOADS. Nothing in Lean hashes anything: it is a label: what it is worth is what the hold of that sum in a sandbox is worth. -/
noncomputable def Try.pinned : Pinned := { name := "ytnembdlkdgfjlaa", sum := "215d16a63ec1f954bda009f782ff6d60dd3ab0046bd761857b4bf55d4bd9c568", checked := Try.checked }
namespace Rows
def none {H : Type} : Left H := { results := [], args := [] }

/-- 'peregrinelaw15.FlowReceiverMatchesReference': WHATEVER THE INPUT: true; the input reads as it did. -/
def flowReceiverMatchesReferenceSpec : ChangeSpec := { name := "flowReceiverMatchesReference", fn := fun _ => fun
  | [d1, d2, d3] => { results := [.lit (.bool true)], args := [d1, d2, d3] }
  | _ => none }
def flowReceiverMatchesReferenceRow : OpenClaim := { program := "ytnembdlkdgfjlaa", sum := "215d16a63ec1f954bda009f782ff6d60dd3ab0046bd761857b4bf55d4bd9c568", func := "peregrine/peregrinelaw15.FlowReceiverMatchesReference", spec := "flowReceiverMatchesReference", unfollowed := true, recurses := true, apart := false }
def FlowReceiverMatchesReferenceSaid : Prop := flowReceiverMatchesReferenceRow.holds Try.pinned (OpenSpec.ofChange flowReceiverMatchesReferenceSpec)

/-- ITS FALSE NEIGHBOUR: 'it returns false'. Refute it at one input. -/
def flowReceiverMatchesReferenceWrong : ChangeSpec := { name := "flowReceiverMatchesReference", fn := fun _ => fun
  | [d1, d2, d3] => { results := [.lit (.bool false)], args := [d1, d2, d3] }
  | _ => none }
def FlowReceiverMatchesReferenceWrongFalsely : Prop := flowReceiverMatchesReferenceRow.holds Try.pinned (OpenSpec.ofChange flowReceiverMatchesReferenceWrong)

/-- 'peregrinelaw15.FlowSenderMatchesReference': WHATEVER THE INPUT: true; the input reads as it did. -/
def flowSenderMatchesReferenceSpec : ChangeSpec := { name := "flowSenderMatchesReference", fn := fun _ => fun
  | [d1, d2, d3] => { results := [.lit (.bool true)], args := [d1, d2, d3] }
  | _ => none }
def flowSenderMatchesReferenceRow : OpenClaim := { program := "ytnembdlkdgfjlaa", sum := "215d16a63ec1f954bda009f782ff6d60dd3ab0046bd761857b4bf55d4bd9c568", func := "peregrine/peregrinelaw15.FlowSenderMatchesReference", spec := "flowSenderMatchesReference", unfollowed := true, recurses := true, apart := false }
def FlowSenderMatchesReferenceSaid : Prop := flowSenderMatchesReferenceRow.holds Try.pinned (OpenSpec.ofChange flowSenderMatchesReferenceSpec)

/-- ITS FALSE NEIGHBOUR: 'it returns false'. Refute it at one input. -/
def flowSenderMatchesReferenceWrong : ChangeSpec := { name := "flowSenderMatchesReference", fn := fun _ => fun
  | [d1, d2, d3] => { results := [.lit (.bool false)], args := [d1, d2, d3] }
  | _ => none }
def FlowSenderMatchesReferenceWrongFalsely : Prop := flowSenderMatchesReferenceRow.holds Try.pinned (OpenSpec.ofChange flowSenderMatchesReferenceWrong)

/-- 'peregrinelaw15.FlowLimitIsMonotonic': WHATEVER THE INPUT: true; the input reads as it did. -/
def flowLimitIsMonotonicSpec : ChangeSpec := { name := "flowLimitIsMonotonic", fn := fun _ => fun
  | [d1, d2] => { results := [.lit (.bool true)], args := [d1, d2] }
  | _ => none }
def flowLimitIsMonotonicRow : OpenClaim := { program := "ytnembdlkdgfjlaa", sum := "215d16a63ec1f954bda009f782ff6d60dd3ab0046bd761857b4bf55d4bd9c568", func := "peregrine/peregrinelaw15.FlowLimitIsMonotonic", spec := "flowLimitIsMonotonic", unfollowed := true, recurses := true, apart := false }
def FlowLimitIsMonotonicSaid : Prop := flowLimitIsMonotonicRow.holds Try.pinned (OpenSpec.ofChange flowLimitIsMonotonicSpec)

/-- ITS FALSE NEIGHBOUR: 'it returns false'. Refute it at one input. -/
def flowLimitIsMonotonicWrong : ChangeSpec := { name := "flowLimitIsMonotonic", fn := fun _ => fun
  | [d1, d2] => { results := [.lit (.bool false)], args := [d1, d2] }
  | _ => none }
def FlowLimitIsMonotonicWrongFalsely : Prop := flowLimitIsMonotonicRow.holds Try.pinned (OpenSpec.ofChange flowLimitIsMonotonicWrong)

/-- 'peregrinelaw15.FlowPairNeverFails': WHATEVER THE INPUT: true; the input reads as it did. -/
def flowPairNeverFailsSpec : ChangeSpec := { name := "flowPairNeverFails", fn := fun _ => fun
  | [d1, d2] => { results := [.lit (.bool true)], args := [d1, d2] }
  | _ => none }
def flowPairNeverFailsRow : OpenClaim := { program := "ytnembdlkdgfjlaa", sum := "215d16a63ec1f954bda009f782ff6d60dd3ab0046bd761857b4bf55d4bd9c568", func := "peregrine/peregrinelaw15.FlowPairNeverFails", spec := "flowPairNeverFails", unfollowed := true, recurses := true, apart := false }
def FlowPairNeverFailsSaid : Prop := flowPairNeverFailsRow.holds Try.pinned (OpenSpec.ofChange flowPairNeverFailsSpec)

/-- ITS FALSE NEIGHBOUR: 'it returns false'. Refute it at one input. -/
def flowPairNeverFailsWrong : ChangeSpec := { name := "flowPairNeverFails", fn := fun _ => fun
  | [d1, d2] => { results := [.lit (.bool false)], args := [d1, d2] }
  | _ => none }
def FlowPairNeverFailsWrongFalsely : Prop := flowPairNeverFailsRow.holds Try.pinned (OpenSpec.ofChange flowPairNeverFailsWrong)

/-- 'peregrinelaw15.FlowNoDeadlock': WHATEVER THE INPUT: true; the input reads as it did. -/
def flowNoDeadlockSpec : ChangeSpec := { name := "flowNoDeadlock", fn := fun _ => fun
  | [d1, d2] => { results := [.lit (.bool true)], args := [d1, d2] }
  | _ => none }
def flowNoDeadlockRow : OpenClaim := { program := "ytnembdlkdgfjlaa", sum := "215d16a63ec1f954bda009f782ff6d60dd3ab0046bd761857b4bf55d4bd9c568", func := "peregrine/peregrinelaw15.FlowNoDeadlock", spec := "flowNoDeadlock", unfollowed := true, recurses := true, apart := false }
def FlowNoDeadlockSaid : Prop := flowNoDeadlockRow.holds Try.pinned (OpenSpec.ofChange flowNoDeadlockSpec)

/-- ITS FALSE NEIGHBOUR: 'it returns false'. Refute it at one input. -/
def flowNoDeadlockWrong : ChangeSpec := { name := "flowNoDeadlock", fn := fun _ => fun
  | [d1, d2] => { results := [.lit (.bool false)], args := [d1, d2] }
  | _ => none }
def FlowNoDeadlockWrongFalsely : Prop := flowNoDeadlockRow.holds Try.pinned (OpenSpec.ofChange flowNoDeadlockWrong)

/-- 'peregrinelaw15.FlowBlockedOnce': WHATEVER THE INPUT: true; the input reads as it did. -/
def flowBlockedOnceSpec : ChangeSpec := { name := "flowBlockedOnce", fn := fun _ => fun
  | [d] => { results := [.lit (.bool true)], args := [d] }
  | _ => none }
def flowBlockedOnceRow : OpenClaim := { program := "ytnembdlkdgfjlaa", sum := "215d16a63ec1f954bda009f782ff6d60dd3ab0046bd761857b4bf55d4bd9c568", func := "peregrine/peregrinelaw15.FlowBlockedOnce", spec := "flowBlockedOnce", unfollowed := true, recurses := true, apart := false }
def FlowBlockedOnceSaid : Prop := flowBlockedOnceRow.holds Try.pinned (OpenSpec.ofChange flowBlockedOnceSpec)

/-- ITS FALSE NEIGHBOUR: 'it returns false'. Refute it at one input. -/
def flowBlockedOnceWrong : ChangeSpec := { name := "flowBlockedOnce", fn := fun _ => fun
  | [d] => { results := [.lit (.bool false)], args := [d] }
  | _ => none }
def FlowBlockedOnceWrongFalsely : Prop := flowBlockedOnceRow.holds Try.pinned (OpenSpec.ofChange flowBlockedOnceWrong)

/- THE SECOND FORM. 'bulk': how many values and letters a reading holds, each counted each time it is reached (what is shared counts as often as it is met; a slice's spare places count too). A statement '..UptoSaid' is the law's where the arguments, and the package variables that the reading takes, are together of bulk at most 1048576: NARROWER than '..Said'. Prove '..Said' where nothing that the law and all that it calls make is longer than what came in: it says more and counts as full. Else prove '..UptoSaid'. A law counts once. -/
mutual
def uptoBulk {H : Type} : DataW H → Nat
  | .lit (.string bytes) => bytes.length + 1
  | .lit _ => 1
  | .nil => 1
  | .ptr d => uptoBulk d + 1
  | .slice elems spare => uptoBulkAll elems + uptoBulkAll spare + 1
  | .agg parts => uptoBulkAll parts + 1
  | .iface _ d => uptoBulk d + 1
  | .map entries => uptoBulkEntries entries + 1
  | .held _ => 1
def uptoBulkAll {H : Type} : List (DataW H) → Nat
  | [] => 0
  | d :: r => uptoBulk d + uptoBulkAll r
def uptoBulkEntries {H : Type} : List (Lit × DataW H) → Nat
  | [] => 0
  | x :: r => uptoBulkEntry x + uptoBulkEntries r
def uptoBulkEntry {H : Type} : Lit × DataW H → Nat
  | (.string bytes, d) => bytes.length + uptoBulk d + 1
  | (_, d) => uptoBulk d + 1
 end
def uptoSmall : (H : Type) → List (DataW H) → Bool := fun _ ds => decide (uptoBulkAll ds ≤ 1048576)
def OpenSpec.upto (s : _root_.Go.ChangeSpec) : _root_.Go.OpenSpec := { _root_.Go.OpenSpec.ofChange s with cond := some uptoSmall }

/-- 'peregrinelaw15.FlowReceiverMatchesReference', WHERE WHAT IT READS IS OF BULK AT MOST 1048576: true; the input reads as it did. -/
def flowReceiverMatchesReferenceUptoRow : OpenClaim := { program := "ytnembdlkdgfjlaa", sum := "215d16a63ec1f954bda009f782ff6d60dd3ab0046bd761857b4bf55d4bd9c568", func := "peregrine/peregrinelaw15.FlowReceiverMatchesReference", spec := "flowReceiverMatchesReference", unfollowed := true, recurses := true, apart := false, narrowed := true }
def FlowReceiverMatchesReferenceUptoSaid : Prop := flowReceiverMatchesReferenceUptoRow.holds Try.pinned (OpenSpec.upto flowReceiverMatchesReferenceSpec)

/-- 'peregrinelaw15.FlowSenderMatchesReference', WHERE WHAT IT READS IS OF BULK AT MOST 1048576: true; the input reads as it did. -/
def flowSenderMatchesReferenceUptoRow : OpenClaim := { program := "ytnembdlkdgfjlaa", sum := "215d16a63ec1f954bda009f782ff6d60dd3ab0046bd761857b4bf55d4bd9c568", func := "peregrine/peregrinelaw15.FlowSenderMatchesReference", spec := "flowSenderMatchesReference", unfollowed := true, recurses := true, apart := false, narrowed := true }
def FlowSenderMatchesReferenceUptoSaid : Prop := flowSenderMatchesReferenceUptoRow.holds Try.pinned (OpenSpec.upto flowSenderMatchesReferenceSpec)

/-- 'peregrinelaw15.FlowLimitIsMonotonic', WHERE WHAT IT READS IS OF BULK AT MOST 1048576: true; the input reads as it did. -/
def flowLimitIsMonotonicUptoRow : OpenClaim := { program := "ytnembdlkdgfjlaa", sum := "215d16a63ec1f954bda009f782ff6d60dd3ab0046bd761857b4bf55d4bd9c568", func := "peregrine/peregrinelaw15.FlowLimitIsMonotonic", spec := "flowLimitIsMonotonic", unfollowed := true, recurses := true, apart := false, narrowed := true }
def FlowLimitIsMonotonicUptoSaid : Prop := flowLimitIsMonotonicUptoRow.holds Try.pinned (OpenSpec.upto flowLimitIsMonotonicSpec)

/-- 'peregrinelaw15.FlowPairNeverFails', WHERE WHAT IT READS IS OF BULK AT MOST 1048576: true; the input reads as it did. -/
def flowPairNeverFailsUptoRow : OpenClaim := { program := "ytnembdlkdgfjlaa", sum := "215d16a63ec1f954bda009f782ff6d60dd3ab0046bd761857b4bf55d4bd9c568", func := "peregrine/peregrinelaw15.FlowPairNeverFails", spec := "flowPairNeverFails", unfollowed := true, recurses := true, apart := false, narrowed := true }
def FlowPairNeverFailsUptoSaid : Prop := flowPairNeverFailsUptoRow.holds Try.pinned (OpenSpec.upto flowPairNeverFailsSpec)

/-- 'peregrinelaw15.FlowNoDeadlock', WHERE WHAT IT READS IS OF BULK AT MOST 1048576: true; the input reads as it did. -/
def flowNoDeadlockUptoRow : OpenClaim := { program := "ytnembdlkdgfjlaa", sum := "215d16a63ec1f954bda009f782ff6d60dd3ab0046bd761857b4bf55d4bd9c568", func := "peregrine/peregrinelaw15.FlowNoDeadlock", spec := "flowNoDeadlock", unfollowed := true, recurses := true, apart := false, narrowed := true }
def FlowNoDeadlockUptoSaid : Prop := flowNoDeadlockUptoRow.holds Try.pinned (OpenSpec.upto flowNoDeadlockSpec)

/-- 'peregrinelaw15.FlowBlockedOnce', WHERE WHAT IT READS IS OF BULK AT MOST 1048576: true; the input reads as it did. -/
def flowBlockedOnceUptoRow : OpenClaim := { program := "ytnembdlkdgfjlaa", sum := "215d16a63ec1f954bda009f782ff6d60dd3ab0046bd761857b4bf55d4bd9c568", func := "peregrine/peregrinelaw15.FlowBlockedOnce", spec := "flowBlockedOnce", unfollowed := true, recurses := true, apart := false, narrowed := true }
def FlowBlockedOnceUptoSaid : Prop := flowBlockedOnceUptoRow.holds Try.pinned (OpenSpec.upto flowBlockedOnceSpec)

end Rows
end Go.Proofs.Ytnembdlkdgfjlaa
