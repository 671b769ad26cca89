/-
  No cell of these rows narrows 'for every input' (looked for: loops, veiled, ifaces, maps, wideKeys, modest, calm, conditions, laid).
  DERIVED. THE GIVEN ROWS OF THIS SEAT. 10 by the template 'for every input the law returns true; each argument reads behind the call as it read before'; 0 by the template 'total and deterministic' (their statements: YtmmgmpghkpbgkaaTotals.lean).
  GIVEN WITH THE SEED: the statements are not yours to turn. If you find one false, say at which input.
  Laid BY PROGRAM, IN A SANDBOX (cutbox-rows.mjs): the forced cells as the released guide's own fill.sh prints them over the translation ac91c3b8f52ddc01… (all of the seat's roots in one cut). By AI agents, Wed Nov 11 2026. No macro, syntax, notation, axiom, sorry.
-/
import Derived.Test.YtmmgmpghkpbgkaaChecked
import GoSem.Claim
import GoSem.ClaimJoined
import GoSem.ClaimMapViews
import Derived.JoinedTies
import Derived.KernelRfl
namespace Go.Proofs.Ytmmgmpghkpbgkaa
/- THE CELL 'sum', in the pinned program and in every row, IS THE sha256 OF THE DUMP (.gsa) THAT YtmmgmpghkpbgkaaProg.lean LOADS. Nothing in Lean hashes anything: it is a label: what it is worth is what the hold of that sum in a sandbox is worth. -/
noncomputable def Try.pinned : Pinned := { name := "ytmmgmpghkpbgkaa", sum := "ac91c3b8f52ddc01272af9d871c7faaa9862789552ed8e5db8a1a646ca657c3e", checked := Try.checked }
namespace Rows
def none {H : Type} : Left H := { results := [], args := [] }

/-- 'peregrinelaw11.AcksExactly': WHATEVER THE INPUT: true; the input reads as it did. -/
def acksExactlySpec : ChangeSpec := { name := "acksExactly", fn := fun _ => fun
  | [d1, d2] => { results := [.lit (.bool true)], args := [d1, d2] }
  | _ => none }
def acksExactlyRow : OpenClaim := { program := "ytmmgmpghkpbgkaa", sum := "ac91c3b8f52ddc01272af9d871c7faaa9862789552ed8e5db8a1a646ca657c3e", func := "peregrine/peregrinelaw11.AcksExactly", spec := "acksExactly", inPlace := ["internal/abi.NoEscape"], unfollowed := true, recurses := true, apart := false }
def AcksExactlySaid : Prop := acksExactlyRow.holds Try.pinned (OpenSpec.ofChange acksExactlySpec)

/-- ITS FALSE NEIGHBOUR: 'it returns false'. Refute it at one input. -/
def acksExactlyWrong : ChangeSpec := { name := "acksExactly", fn := fun _ => fun
  | [d1, d2] => { results := [.lit (.bool false)], args := [d1, d2] }
  | _ => none }
def AcksExactlyWrongFalsely : Prop := acksExactlyRow.holds Try.pinned (OpenSpec.ofChange acksExactlyWrong)

/-- 'peregrinelaw09.FrameReadsLikeReference': WHATEVER THE INPUT: true; the input reads as it did. -/
def frameReadsLikeReferenceSpec : ChangeSpec := { name := "frameReadsLikeReference", fn := fun _ => fun
  | [d1, d2, d3, d4] => { results := [.lit (.bool true)], args := [d1, d2, d3, d4] }
  | _ => none }
def frameReadsLikeReferenceRow : OpenClaim := { program := "ytmmgmpghkpbgkaa", sum := "ac91c3b8f52ddc01272af9d871c7faaa9862789552ed8e5db8a1a646ca657c3e", func := "peregrine/peregrinelaw09.FrameReadsLikeReference", spec := "frameReadsLikeReference", inPlace := ["internal/abi.NoEscape"], unfollowed := true, recurses := true, apart := false }
def FrameReadsLikeReferenceSaid : Prop := frameReadsLikeReferenceRow.holds Try.pinned (OpenSpec.ofChange frameReadsLikeReferenceSpec)

/-- ITS FALSE NEIGHBOUR: 'it returns false'. Refute it at one input. -/
def frameReadsLikeReferenceWrong : ChangeSpec := { name := "frameReadsLikeReference", fn := fun _ => fun
  | [d1, d2, d3, d4] => { results := [.lit (.bool false)], args := [d1, d2, d3, d4] }
  | _ => none }
def FrameReadsLikeReferenceWrongFalsely : Prop := frameReadsLikeReferenceRow.holds Try.pinned (OpenSpec.ofChange frameReadsLikeReferenceWrong)

/-- 'peregrinelaw09.FrameRoundTrip': WHATEVER THE INPUT: true; the input reads as it did. -/
def frameRoundTripSpec : ChangeSpec := { name := "frameRoundTrip", fn := fun _ => fun
  | [d1, d2, d3] => { results := [.lit (.bool true)], args := [d1, d2, d3] }
  | _ => none }
def frameRoundTripRow : OpenClaim := { program := "ytmmgmpghkpbgkaa", sum := "ac91c3b8f52ddc01272af9d871c7faaa9862789552ed8e5db8a1a646ca657c3e", func := "peregrine/peregrinelaw09.FrameRoundTrip", spec := "frameRoundTrip", inPlace := ["internal/abi.NoEscape"], unfollowed := true, recurses := true, apart := false }
def FrameRoundTripSaid : Prop := frameRoundTripRow.holds Try.pinned (OpenSpec.ofChange frameRoundTripSpec)

/-- ITS FALSE NEIGHBOUR: 'it returns false'. Refute it at one input. -/
def frameRoundTripWrong : ChangeSpec := { name := "frameRoundTrip", fn := fun _ => fun
  | [d1, d2, d3] => { results := [.lit (.bool false)], args := [d1, d2, d3] }
  | _ => none }
def FrameRoundTripWrongFalsely : Prop := frameRoundTripRow.holds Try.pinned (OpenSpec.ofChange frameRoundTripWrong)

/-- 'peregrinelaw09.FrameUnique': WHATEVER THE INPUT: true; the input reads as it did. -/
def frameUniqueSpec : ChangeSpec := { name := "frameUnique", fn := fun _ => fun
  | [d1, d2, d3, d4] => { results := [.lit (.bool true)], args := [d1, d2, d3, d4] }
  | _ => none }
def frameUniqueRow : OpenClaim := { program := "ytmmgmpghkpbgkaa", sum := "ac91c3b8f52ddc01272af9d871c7faaa9862789552ed8e5db8a1a646ca657c3e", func := "peregrine/peregrinelaw09.FrameUnique", spec := "frameUnique", inPlace := ["internal/abi.NoEscape"], unfollowed := true, recurses := true, apart := false }
def FrameUniqueSaid : Prop := frameUniqueRow.holds Try.pinned (OpenSpec.ofChange frameUniqueSpec)

/-- ITS FALSE NEIGHBOUR: 'it returns false'. Refute it at one input. -/
def frameUniqueWrong : ChangeSpec := { name := "frameUnique", fn := fun _ => fun
  | [d1, d2, d3, d4] => { results := [.lit (.bool false)], args := [d1, d2, d3, d4] }
  | _ => none }
def FrameUniqueWrongFalsely : Prop := frameUniqueRow.holds Try.pinned (OpenSpec.ofChange frameUniqueWrong)

/-- 'peregrinelaw09.FrameTruncated': WHATEVER THE INPUT: true; the input reads as it did. -/
def frameTruncatedSpec : ChangeSpec := { name := "frameTruncated", fn := fun _ => fun
  | [d1, d2] => { results := [.lit (.bool true)], args := [d1, d2] }
  | _ => none }
def frameTruncatedRow : OpenClaim := { program := "ytmmgmpghkpbgkaa", sum := "ac91c3b8f52ddc01272af9d871c7faaa9862789552ed8e5db8a1a646ca657c3e", func := "peregrine/peregrinelaw09.FrameTruncated", spec := "frameTruncated", inPlace := ["internal/abi.NoEscape"], unfollowed := true, recurses := true, apart := false }
def FrameTruncatedSaid : Prop := frameTruncatedRow.holds Try.pinned (OpenSpec.ofChange frameTruncatedSpec)

/-- ITS FALSE NEIGHBOUR: 'it returns false'. Refute it at one input. -/
def frameTruncatedWrong : ChangeSpec := { name := "frameTruncated", fn := fun _ => fun
  | [d1, d2] => { results := [.lit (.bool false)], args := [d1, d2] }
  | _ => none }
def FrameTruncatedWrongFalsely : Prop := frameTruncatedRow.holds Try.pinned (OpenSpec.ofChange frameTruncatedWrong)

/-- 'peregrinelaw09.FrameAckNumbers': WHATEVER THE INPUT: true; the input reads as it did. -/
def frameAckNumbersSpec : ChangeSpec := { name := "frameAckNumbers", fn := fun _ => fun
  | [d1, d2, d3] => { results := [.lit (.bool true)], args := [d1, d2, d3] }
  | _ => none }
def frameAckNumbersRow : OpenClaim := { program := "ytmmgmpghkpbgkaa", sum := "ac91c3b8f52ddc01272af9d871c7faaa9862789552ed8e5db8a1a646ca657c3e", func := "peregrine/peregrinelaw09.FrameAckNumbers", spec := "frameAckNumbers", inPlace := ["internal/abi.NoEscape"], unfollowed := true, recurses := true, apart := false }
def FrameAckNumbersSaid : Prop := frameAckNumbersRow.holds Try.pinned (OpenSpec.ofChange frameAckNumbersSpec)

/-- ITS FALSE NEIGHBOUR: 'it returns false'. Refute it at one input. -/
def frameAckNumbersWrong : ChangeSpec := { name := "frameAckNumbers", fn := fun _ => fun
  | [d1, d2, d3] => { results := [.lit (.bool false)], args := [d1, d2, d3] }
  | _ => none }
def FrameAckNumbersWrongFalsely : Prop := frameAckNumbersRow.holds Try.pinned (OpenSpec.ofChange frameAckNumbersWrong)

/-- 'peregrinelaw09.FrameClasses': WHATEVER THE INPUT: true; the input reads as it did. -/
def frameClassesSpec : ChangeSpec := { name := "frameClasses", fn := fun _ => fun
  | [d1, d2] => { results := [.lit (.bool true)], args := [d1, d2] }
  | _ => none }
def frameClassesRow : OpenClaim := { program := "ytmmgmpghkpbgkaa", sum := "ac91c3b8f52ddc01272af9d871c7faaa9862789552ed8e5db8a1a646ca657c3e", func := "peregrine/peregrinelaw09.FrameClasses", spec := "frameClasses", inPlace := ["internal/abi.NoEscape"], unfollowed := true, recurses := true, apart := false }
def FrameClassesSaid : Prop := frameClassesRow.holds Try.pinned (OpenSpec.ofChange frameClassesSpec)

/-- ITS FALSE NEIGHBOUR: 'it returns false'. Refute it at one input. -/
def frameClassesWrong : ChangeSpec := { name := "frameClasses", fn := fun _ => fun
  | [d1, d2] => { results := [.lit (.bool false)], args := [d1, d2] }
  | _ => none }
def FrameClassesWrongFalsely : Prop := frameClassesRow.holds Try.pinned (OpenSpec.ofChange frameClassesWrong)

/-- 'peregrinelaw09.FrameVarints': WHATEVER THE INPUT: true; the input reads as it did. -/
def frameVarintsSpec : ChangeSpec := { name := "frameVarints", fn := fun _ => fun
  | [d1, d2, d3, d4] => { results := [.lit (.bool true)], args := [d1, d2, d3, d4] }
  | _ => none }
def frameVarintsRow : OpenClaim := { program := "ytmmgmpghkpbgkaa", sum := "ac91c3b8f52ddc01272af9d871c7faaa9862789552ed8e5db8a1a646ca657c3e", func := "peregrine/peregrinelaw09.FrameVarints", spec := "frameVarints", inPlace := ["internal/abi.NoEscape"], unfollowed := true, recurses := true, apart := false }
def FrameVarintsSaid : Prop := frameVarintsRow.holds Try.pinned (OpenSpec.ofChange frameVarintsSpec)

/-- ITS FALSE NEIGHBOUR: 'it returns false'. Refute it at one input. -/
def frameVarintsWrong : ChangeSpec := { name := "frameVarints", fn := fun _ => fun
  | [d1, d2, d3, d4] => { results := [.lit (.bool false)], args := [d1, d2, d3, d4] }
  | _ => none }
def FrameVarintsWrongFalsely : Prop := frameVarintsRow.holds Try.pinned (OpenSpec.ofChange frameVarintsWrong)

/-- 'peregrinelaw09.FrameSequence': WHATEVER THE INPUT: true; the input reads as it did. -/
def frameSequenceSpec : ChangeSpec := { name := "frameSequence", fn := fun _ => fun
  | [d1, d2] => { results := [.lit (.bool true)], args := [d1, d2] }
  | _ => none }
def frameSequenceRow : OpenClaim := { program := "ytmmgmpghkpbgkaa", sum := "ac91c3b8f52ddc01272af9d871c7faaa9862789552ed8e5db8a1a646ca657c3e", func := "peregrine/peregrinelaw09.FrameSequence", spec := "frameSequence", inPlace := ["internal/abi.NoEscape"], unfollowed := true, recurses := true, apart := false }
def FrameSequenceSaid : Prop := frameSequenceRow.holds Try.pinned (OpenSpec.ofChange frameSequenceSpec)

/-- ITS FALSE NEIGHBOUR: 'it returns false'. Refute it at one input. -/
def frameSequenceWrong : ChangeSpec := { name := "frameSequence", fn := fun _ => fun
  | [d1, d2] => { results := [.lit (.bool false)], args := [d1, d2] }
  | _ => none }
def FrameSequenceWrongFalsely : Prop := frameSequenceRow.holds Try.pinned (OpenSpec.ofChange frameSequenceWrong)

/-- 'peregrinelaw15.FlowFrames': WHATEVER THE INPUT: true; the input reads as it did. -/
def flowFramesSpec : ChangeSpec := { name := "flowFrames", fn := fun _ => fun
  | [d1, d2] => { results := [.lit (.bool true)], args := [d1, d2] }
  | _ => none }
def flowFramesRow : OpenClaim := { program := "ytmmgmpghkpbgkaa", sum := "ac91c3b8f52ddc01272af9d871c7faaa9862789552ed8e5db8a1a646ca657c3e", func := "peregrine/peregrinelaw15.FlowFrames", spec := "flowFrames", inPlace := ["internal/abi.NoEscape"], unfollowed := true, recurses := true, apart := false }
def FlowFramesSaid : Prop := flowFramesRow.holds Try.pinned (OpenSpec.ofChange flowFramesSpec)

/-- ITS FALSE NEIGHBOUR: 'it returns false'. Refute it at one input. -/
def flowFramesWrong : ChangeSpec := { name := "flowFrames", fn := fun _ => fun
  | [d1, d2] => { results := [.lit (.bool false)], args := [d1, d2] }
  | _ => none }
def FlowFramesWrongFalsely : Prop := flowFramesRow.holds Try.pinned (OpenSpec.ofChange flowFramesWrong)

/- THE SECOND FORM. 'bulk': how many values and letters a reading holds, each counted each time it is reached (what is shared counts as often as it is met; a slice's spare places count too). A statement '..UptoSaid' is the law's where the arguments, and the package variables that the reading takes, are together of bulk at most 1048576: NARROWER than '..Said'. Prove '..Said' where nothing that the law and all that it calls make is longer than what came in: it says more and counts as full. Else prove '..UptoSaid'. A law counts once. -/
mutual
def uptoBulk {H : Type} : DataW H → Nat
  | .lit (.string bytes) => bytes.length + 1
  | .lit _ => 1
  | .nil => 1
  | .ptr d => uptoBulk d + 1
  | .slice elems spare => uptoBulkAll elems + uptoBulkAll spare + 1
  | .agg parts => uptoBulkAll parts + 1
  | .iface _ d => uptoBulk d + 1
  | .map entries => uptoBulkEntries entries + 1
  | .held _ => 1
def uptoBulkAll {H : Type} : List (DataW H) → Nat
  | [] => 0
  | d :: r => uptoBulk d + uptoBulkAll r
def uptoBulkEntries {H : Type} : List (Lit × DataW H) → Nat
  | [] => 0
  | x :: r => uptoBulkEntry x + uptoBulkEntries r
def uptoBulkEntry {H : Type} : Lit × DataW H → Nat
  | (.string bytes, d) => bytes.length + uptoBulk d + 1
  | (_, d) => uptoBulk d + 1
 end
def uptoSmall : (H : Type) → List (DataW H) → Bool := fun _ ds => decide (uptoBulkAll ds ≤ 1048576)
def OpenSpec.upto (s : _root_.Go.ChangeSpec) : _root_.Go.OpenSpec := { _root_.Go.OpenSpec.ofChange s with cond := some uptoSmall }

/-- 'peregrinelaw11.AcksExactly', WHERE WHAT IT READS IS OF BULK AT MOST 1048576: true; the input reads as it did. -/
def acksExactlyUptoRow : OpenClaim := { program := "ytmmgmpghkpbgkaa", sum := "ac91c3b8f52ddc01272af9d871c7faaa9862789552ed8e5db8a1a646ca657c3e", func := "peregrine/peregrinelaw11.AcksExactly", spec := "acksExactly", inPlace := ["internal/abi.NoEscape"], unfollowed := true, recurses := true, apart := false, narrowed := true }
def AcksExactlyUptoSaid : Prop := acksExactlyUptoRow.holds Try.pinned (OpenSpec.upto acksExactlySpec)

/-- 'peregrinelaw09.FrameReadsLikeReference', WHERE WHAT IT READS IS OF BULK AT MOST 1048576: true; the input reads as it did. -/
def frameReadsLikeReferenceUptoRow : OpenClaim := { program := "ytmmgmpghkpbgkaa", sum := "ac91c3b8f52ddc01272af9d871c7faaa9862789552ed8e5db8a1a646ca657c3e", func := "peregrine/peregrinelaw09.FrameReadsLikeReference", spec := "frameReadsLikeReference", inPlace := ["internal/abi.NoEscape"], unfollowed := true, recurses := true, apart := false, narrowed := true }
def FrameReadsLikeReferenceUptoSaid : Prop := frameReadsLikeReferenceUptoRow.holds Try.pinned (OpenSpec.upto frameReadsLikeReferenceSpec)

/-- 'peregrinelaw09.FrameRoundTrip', WHERE WHAT IT READS IS OF BULK AT MOST 1048576: true; the input reads as it did. -/
def frameRoundTripUptoRow : OpenClaim := { program := "ytmmgmpghkpbgkaa", sum := "ac91c3b8f52ddc01272af9d871c7faaa9862789552ed8e5db8a1a646ca657c3e", func := "peregrine/peregrinelaw09.FrameRoundTrip", spec := "frameRoundTrip", inPlace := ["internal/abi.NoEscape"], unfollowed := true, recurses := true, apart := false, narrowed := true }
def FrameRoundTripUptoSaid : Prop := frameRoundTripUptoRow.holds Try.pinned (OpenSpec.upto frameRoundTripSpec)

/-- 'peregrinelaw09.FrameUnique', WHERE WHAT IT READS IS OF BULK AT MOST 1048576: true; the input reads as it did. -/
def frameUniqueUptoRow : OpenClaim := { program := "ytmmgmpghkpbgkaa", sum := "ac91c3b8f52ddc01272af9d871c7faaa9862789552ed8e5db8a1a646ca657c3e", func := "peregrine/peregrinelaw09.FrameUnique", spec := "frameUnique", inPlace := ["internal/abi.NoEscape"], unfollowed := true, recurses := true, apart := false, narrowed := true }
def FrameUniqueUptoSaid : Prop := frameUniqueUptoRow.holds Try.pinned (OpenSpec.upto frameUniqueSpec)

/-- 'peregrinelaw09.FrameTruncated', WHERE WHAT IT READS IS OF BULK AT MOST 1048576: true; the input reads as it did. -/
def frameTruncatedUptoRow : OpenClaim := { program := "ytmmgmpghkpbgkaa", sum := "ac91c3b8f52ddc01272af9d871c7faaa9862789552ed8e5db8a1a646ca657c3e", func := "peregrine/peregrinelaw09.FrameTruncated", spec := "frameTruncated", inPlace := ["internal/abi.NoEscape"], unfollowed := true, recurses := true, apart := false, narrowed := true }
def FrameTruncatedUptoSaid : Prop := frameTruncatedUptoRow.holds Try.pinned (OpenSpec.upto frameTruncatedSpec)

/-- 'peregrinelaw09.FrameAckNumbers', WHERE WHAT IT READS IS OF BULK AT MOST 1048576: true; the input reads as it did. -/
def frameAckNumbersUptoRow : OpenClaim := { program := "ytmmgmpghkpbgkaa", sum := "ac91c3b8f52ddc01272af9d871c7faaa9862789552ed8e5db8a1a646ca657c3e", func := "peregrine/peregrinelaw09.FrameAckNumbers", spec := "frameAckNumbers", inPlace := ["internal/abi.NoEscape"], unfollowed := true, recurses := true, apart := false, narrowed := true }
def FrameAckNumbersUptoSaid : Prop := frameAckNumbersUptoRow.holds Try.pinned (OpenSpec.upto frameAckNumbersSpec)

/-- 'peregrinelaw09.FrameClasses', WHERE WHAT IT READS IS OF BULK AT MOST 1048576: true; the input reads as it did. -/
def frameClassesUptoRow : OpenClaim := { program := "ytmmgmpghkpbgkaa", sum := "ac91c3b8f52ddc01272af9d871c7faaa9862789552ed8e5db8a1a646ca657c3e", func := "peregrine/peregrinelaw09.FrameClasses", spec := "frameClasses", inPlace := ["internal/abi.NoEscape"], unfollowed := true, recurses := true, apart := false, narrowed := true }
def FrameClassesUptoSaid : Prop := frameClassesUptoRow.holds Try.pinned (OpenSpec.upto frameClassesSpec)

/-- 'peregrinelaw09.FrameVarints', WHERE WHAT IT READS IS OF BULK AT MOST 1048576: true; the input reads as it did. -/
def frameVarintsUptoRow : OpenClaim := { program := "ytmmgmpghkpbgkaa", sum := "ac91c3b8f52ddc01272af9d871c7faaa9862789552ed8e5db8a1a646ca657c3e", func := "peregrine/peregrinelaw09.FrameVarints", spec := "frameVarints", inPlace := ["internal/abi.NoEscape"], unfollowed := true, recurses := true, apart := false, narrowed := true }
def FrameVarintsUptoSaid : Prop := frameVarintsUptoRow.holds Try.pinned (OpenSpec.upto frameVarintsSpec)

/-- 'peregrinelaw09.FrameSequence', WHERE WHAT IT READS IS OF BULK AT MOST 1048576: true; the input reads as it did. -/
def frameSequenceUptoRow : OpenClaim := { program := "ytmmgmpghkpbgkaa", sum := "ac91c3b8f52ddc01272af9d871c7faaa9862789552ed8e5db8a1a646ca657c3e", func := "peregrine/peregrinelaw09.FrameSequence", spec := "frameSequence", inPlace := ["internal/abi.NoEscape"], unfollowed := true, recurses := true, apart := false, narrowed := true }
def FrameSequenceUptoSaid : Prop := frameSequenceUptoRow.holds Try.pinned (OpenSpec.upto frameSequenceSpec)

/-- 'peregrinelaw15.FlowFrames', WHERE WHAT IT READS IS OF BULK AT MOST 1048576: true; the input reads as it did. -/
def flowFramesUptoRow : OpenClaim := { program := "ytmmgmpghkpbgkaa", sum := "ac91c3b8f52ddc01272af9d871c7faaa9862789552ed8e5db8a1a646ca657c3e", func := "peregrine/peregrinelaw15.FlowFrames", spec := "flowFrames", inPlace := ["internal/abi.NoEscape"], unfollowed := true, recurses := true, apart := false, narrowed := true }
def FlowFramesUptoSaid : Prop := flowFramesUptoRow.holds Try.pinned (OpenSpec.upto flowFramesSpec)

end Rows
end Go.Proofs.Ytmmgmpghkpbgkaa
