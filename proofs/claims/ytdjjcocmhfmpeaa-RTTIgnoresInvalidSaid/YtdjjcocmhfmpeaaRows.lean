/-
  No cell of these rows narrows 'for every input' (looked for: loops, veiled, ifaces, maps, wideKeys, modest, calm, conditions, laid).
  DERIVED. THE GIVEN ROWS OF THIS SEAT. 8 by the template 'for every input the law returns true; each argument reads behind the call as it read before'; 0 by the template 'total and deterministic' (their statements: YtdjjcocmhfmpeaaTotals.lean).
  GIVEN WITH THE SEED: the statements are not yours to turn. If you find one false, say at which input.
  Laid BY PROGRAM, IN A SANDBOX (cutbox-rows.mjs): the forced cells as the released guide's own fill.sh prints them over the translation 8e3377759f64f2a1… (all of the seat's roots in one cut). By AI agents, Wed Nov 11 2026. No macro, syntax, notation, axiom, sorry.
-/
import Derived.Test.YtdjjcocmhfmpeaaChecked
import GoSem.Claim
import GoSem.ClaimJoined
import GoSem.ClaimMapViews
import Derived.JoinedTies
import Derived.KernelRfl
namespace Go.Proofs.Ytdjjcocmhfmpeaa
/- THE CELL 'sum', in the pinned program and in every row, IS THE sha256 OF THE DUMP (.gsa) THAT YtdjjcocmhfmpeaaProg.lean LOADS. Nothing in Lean hashes anything: it is a label: what it is worth is what the hold of that sum in a sandbox is worth. -/
noncomputable def Try.pinned : Pinned := { name := "ytdjjcocmhfmpeaa", sum := "8e3377759f64f2a18842f1db7162c8d8cbec58b0e81f24eaed16db065d9f0f50", checked := Try.checked }
namespace Rows
def none {H : Type} : Left H := { results := [], args := [] }

/-- 'peregrinelaw12.RTTMatchesReference': WHATEVER THE INPUT: true; the input reads as it did. -/
def rTTMatchesReferenceSpec : ChangeSpec := { name := "rTTMatchesReference", fn := fun _ => fun
  | [d1, d2, d3] => { results := [.lit (.bool true)], args := [d1, d2, d3] }
  | _ => none }
def rTTMatchesReferenceRow : OpenClaim := { program := "ytdjjcocmhfmpeaa", sum := "8e3377759f64f2a18842f1db7162c8d8cbec58b0e81f24eaed16db065d9f0f50", func := "peregrine/peregrinelaw12.RTTMatchesReference", spec := "rTTMatchesReference", unfollowed := true, recurses := true, apart := false }
def RTTMatchesReferenceSaid : Prop := rTTMatchesReferenceRow.holds Try.pinned (OpenSpec.ofChange rTTMatchesReferenceSpec)

/-- ITS FALSE NEIGHBOUR: 'it returns false'. Refute it at one input. -/
def rTTMatchesReferenceWrong : ChangeSpec := { name := "rTTMatchesReference", fn := fun _ => fun
  | [d1, d2, d3] => { results := [.lit (.bool false)], args := [d1, d2, d3] }
  | _ => none }
def RTTMatchesReferenceWrongFalsely : Prop := rTTMatchesReferenceRow.holds Try.pinned (OpenSpec.ofChange rTTMatchesReferenceWrong)

/-- 'peregrinelaw12.RTTStaysInInterval': WHATEVER THE INPUT: true; the input reads as it did. -/
def rTTStaysInIntervalSpec : ChangeSpec := { name := "rTTStaysInInterval", fn := fun _ => fun
  | [d1, d2, d3] => { results := [.lit (.bool true)], args := [d1, d2, d3] }
  | _ => none }
def rTTStaysInIntervalRow : OpenClaim := { program := "ytdjjcocmhfmpeaa", sum := "8e3377759f64f2a18842f1db7162c8d8cbec58b0e81f24eaed16db065d9f0f50", func := "peregrine/peregrinelaw12.RTTStaysInInterval", spec := "rTTStaysInInterval", unfollowed := true, recurses := true, apart := false }
def RTTStaysInIntervalSaid : Prop := rTTStaysInIntervalRow.holds Try.pinned (OpenSpec.ofChange rTTStaysInIntervalSpec)

/-- ITS FALSE NEIGHBOUR: 'it returns false'. Refute it at one input. -/
def rTTStaysInIntervalWrong : ChangeSpec := { name := "rTTStaysInInterval", fn := fun _ => fun
  | [d1, d2, d3] => { results := [.lit (.bool false)], args := [d1, d2, d3] }
  | _ => none }
def RTTStaysInIntervalWrongFalsely : Prop := rTTStaysInIntervalRow.holds Try.pinned (OpenSpec.ofChange rTTStaysInIntervalWrong)

/-- 'peregrinelaw12.RTTConstantSamples': WHATEVER THE INPUT: true; the input reads as it did. -/
def rTTConstantSamplesSpec : ChangeSpec := { name := "rTTConstantSamples", fn := fun _ => fun
  | [d] => { results := [.lit (.bool true)], args := [d] }
  | _ => none }
def rTTConstantSamplesRow : OpenClaim := { program := "ytdjjcocmhfmpeaa", sum := "8e3377759f64f2a18842f1db7162c8d8cbec58b0e81f24eaed16db065d9f0f50", func := "peregrine/peregrinelaw12.RTTConstantSamples", spec := "rTTConstantSamples", unfollowed := true, recurses := true, apart := false }
def RTTConstantSamplesSaid : Prop := rTTConstantSamplesRow.holds Try.pinned (OpenSpec.ofChange rTTConstantSamplesSpec)

/-- ITS FALSE NEIGHBOUR: 'it returns false'. Refute it at one input. -/
def rTTConstantSamplesWrong : ChangeSpec := { name := "rTTConstantSamples", fn := fun _ => fun
  | [d] => { results := [.lit (.bool false)], args := [d] }
  | _ => none }
def RTTConstantSamplesWrongFalsely : Prop := rTTConstantSamplesRow.holds Try.pinned (OpenSpec.ofChange rTTConstantSamplesWrong)

/-- 'peregrinelaw12.RTTDelayIsBounded': WHATEVER THE INPUT: true; the input reads as it did. -/
def rTTDelayIsBoundedSpec : ChangeSpec := { name := "rTTDelayIsBounded", fn := fun _ => fun
  | [d] => { results := [.lit (.bool true)], args := [d] }
  | _ => none }
def rTTDelayIsBoundedRow : OpenClaim := { program := "ytdjjcocmhfmpeaa", sum := "8e3377759f64f2a18842f1db7162c8d8cbec58b0e81f24eaed16db065d9f0f50", func := "peregrine/peregrinelaw12.RTTDelayIsBounded", spec := "rTTDelayIsBounded", unfollowed := true, recurses := true, apart := false }
def RTTDelayIsBoundedSaid : Prop := rTTDelayIsBoundedRow.holds Try.pinned (OpenSpec.ofChange rTTDelayIsBoundedSpec)

/-- ITS FALSE NEIGHBOUR: 'it returns false'. Refute it at one input. -/
def rTTDelayIsBoundedWrong : ChangeSpec := { name := "rTTDelayIsBounded", fn := fun _ => fun
  | [d] => { results := [.lit (.bool false)], args := [d] }
  | _ => none }
def RTTDelayIsBoundedWrongFalsely : Prop := rTTDelayIsBoundedRow.holds Try.pinned (OpenSpec.ofChange rTTDelayIsBoundedWrong)

/-- 'peregrinelaw12.RTTIgnoresInvalid': WHATEVER THE INPUT: true; the input reads as it did. -/
def rTTIgnoresInvalidSpec : ChangeSpec := { name := "rTTIgnoresInvalid", fn := fun _ => fun
  | [d1, d2] => { results := [.lit (.bool true)], args := [d1, d2] }
  | _ => none }
def rTTIgnoresInvalidRow : OpenClaim := { program := "ytdjjcocmhfmpeaa", sum := "8e3377759f64f2a18842f1db7162c8d8cbec58b0e81f24eaed16db065d9f0f50", func := "peregrine/peregrinelaw12.RTTIgnoresInvalid", spec := "rTTIgnoresInvalid", unfollowed := true, recurses := true, apart := false }
def RTTIgnoresInvalidSaid : Prop := rTTIgnoresInvalidRow.holds Try.pinned (OpenSpec.ofChange rTTIgnoresInvalidSpec)

/-- ITS FALSE NEIGHBOUR: 'it returns false'. Refute it at one input. -/
def rTTIgnoresInvalidWrong : ChangeSpec := { name := "rTTIgnoresInvalid", fn := fun _ => fun
  | [d1, d2] => { results := [.lit (.bool false)], args := [d1, d2] }
  | _ => none }
def RTTIgnoresInvalidWrongFalsely : Prop := rTTIgnoresInvalidRow.holds Try.pinned (OpenSpec.ofChange rTTIgnoresInvalidWrong)

/-- 'peregrinelaw12.RTTProbeMonotone': WHATEVER THE INPUT: true; the input reads as it did. -/
def rTTProbeMonotoneSpec : ChangeSpec := { name := "rTTProbeMonotone", fn := fun _ => fun
  | [d1, d2, d3, d4, d5] => { results := [.lit (.bool true)], args := [d1, d2, d3, d4, d5] }
  | _ => none }
def rTTProbeMonotoneRow : OpenClaim := { program := "ytdjjcocmhfmpeaa", sum := "8e3377759f64f2a18842f1db7162c8d8cbec58b0e81f24eaed16db065d9f0f50", func := "peregrine/peregrinelaw12.RTTProbeMonotone", spec := "rTTProbeMonotone", unfollowed := true, recurses := true, apart := false }
def RTTProbeMonotoneSaid : Prop := rTTProbeMonotoneRow.holds Try.pinned (OpenSpec.ofChange rTTProbeMonotoneSpec)

/-- ITS FALSE NEIGHBOUR: 'it returns false'. Refute it at one input. -/
def rTTProbeMonotoneWrong : ChangeSpec := { name := "rTTProbeMonotone", fn := fun _ => fun
  | [d1, d2, d3, d4, d5] => { results := [.lit (.bool false)], args := [d1, d2, d3, d4, d5] }
  | _ => none }
def RTTProbeMonotoneWrongFalsely : Prop := rTTProbeMonotoneRow.holds Try.pinned (OpenSpec.ofChange rTTProbeMonotoneWrong)

/-- 'peregrinelaw12.RTTLossDelay': WHATEVER THE INPUT: true; the input reads as it did. -/
def rTTLossDelaySpec : ChangeSpec := { name := "rTTLossDelay", fn := fun _ => fun
  | [d] => { results := [.lit (.bool true)], args := [d] }
  | _ => none }
def rTTLossDelayRow : OpenClaim := { program := "ytdjjcocmhfmpeaa", sum := "8e3377759f64f2a18842f1db7162c8d8cbec58b0e81f24eaed16db065d9f0f50", func := "peregrine/peregrinelaw12.RTTLossDelay", spec := "rTTLossDelay", unfollowed := true, recurses := true, apart := false }
def RTTLossDelaySaid : Prop := rTTLossDelayRow.holds Try.pinned (OpenSpec.ofChange rTTLossDelaySpec)

/-- ITS FALSE NEIGHBOUR: 'it returns false'. Refute it at one input. -/
def rTTLossDelayWrong : ChangeSpec := { name := "rTTLossDelay", fn := fun _ => fun
  | [d] => { results := [.lit (.bool false)], args := [d] }
  | _ => none }
def RTTLossDelayWrongFalsely : Prop := rTTLossDelayRow.holds Try.pinned (OpenSpec.ofChange rTTLossDelayWrong)

/-- 'peregrinelaw12.RTTNil': WHATEVER THE INPUT: true; the input reads as it did. -/
def rTTNilSpec : ChangeSpec := { name := "rTTNil", fn := fun _ => fun
  | [d1, d2] => { results := [.lit (.bool true)], args := [d1, d2] }
  | _ => none }
def rTTNilRow : OpenClaim := { program := "ytdjjcocmhfmpeaa", sum := "8e3377759f64f2a18842f1db7162c8d8cbec58b0e81f24eaed16db065d9f0f50", func := "peregrine/peregrinelaw12.RTTNil", spec := "rTTNil", unfollowed := true, recurses := true, apart := false }
def RTTNilSaid : Prop := rTTNilRow.holds Try.pinned (OpenSpec.ofChange rTTNilSpec)

/-- ITS FALSE NEIGHBOUR: 'it returns false'. Refute it at one input. -/
def rTTNilWrong : ChangeSpec := { name := "rTTNil", fn := fun _ => fun
  | [d1, d2] => { results := [.lit (.bool false)], args := [d1, d2] }
  | _ => none }
def RTTNilWrongFalsely : Prop := rTTNilRow.holds Try.pinned (OpenSpec.ofChange rTTNilWrong)

/- THE SECOND FORM. 'bulk': how many values and letters a reading holds, each counted each time it is reached (what is shared counts as often as it is met; a slice's spare places count too). A statement '..UptoSaid' is the law's where the arguments, and the package variables that the reading takes, are together of bulk at most 1048576: NARROWER than '..Said'. Prove '..Said' where nothing that the law and all that it calls make is longer than what came in: it says more and counts as full. Else prove '..UptoSaid'. A law counts once. -/
mutual
def uptoBulk {H : Type} : DataW H → Nat
  | .lit (.string bytes) => bytes.length + 1
  | .lit _ => 1
  | .nil => 1
  | .ptr d => uptoBulk d + 1
  | .slice elems spare => uptoBulkAll elems + uptoBulkAll spare + 1
  | .agg parts => uptoBulkAll parts + 1
  | .iface _ d => uptoBulk d + 1
  | .map entries => uptoBulkEntries entries + 1
  | .held _ => 1
def uptoBulkAll {H : Type} : List (DataW H) → Nat
  | [] => 0
  | d :: r => uptoBulk d + uptoBulkAll r
def uptoBulkEntries {H : Type} : List (Lit × DataW H) → Nat
  | [] => 0
  | x :: r => uptoBulkEntry x + uptoBulkEntries r
def uptoBulkEntry {H : Type} : Lit × DataW H → Nat
  | (.string bytes, d) => bytes.length + uptoBulk d + 1
  | (_, d) => uptoBulk d + 1
 end
def uptoSmall : (H : Type) → List (DataW H) → Bool := fun _ ds => decide (uptoBulkAll ds ≤ 1048576)
def OpenSpec.upto (s : _root_.Go.ChangeSpec) : _root_.Go.OpenSpec := { _root_.Go.OpenSpec.ofChange s with cond := some uptoSmall }

/-- 'peregrinelaw12.RTTMatchesReference', WHERE WHAT IT READS IS OF BULK AT MOST 1048576: true; the input reads as it did. -/
def rTTMatchesReferenceUptoRow : OpenClaim := { program := "ytdjjcocmhfmpeaa", sum := "8e3377759f64f2a18842f1db7162c8d8cbec58b0e81f24eaed16db065d9f0f50", func := "peregrine/peregrinelaw12.RTTMatchesReference", spec := "rTTMatchesReference", unfollowed := true, recurses := true, apart := false, narrowed := true }
def RTTMatchesReferenceUptoSaid : Prop := rTTMatchesReferenceUptoRow.holds Try.pinned (OpenSpec.upto rTTMatchesReferenceSpec)

/-- 'peregrinelaw12.RTTStaysInInterval', WHERE WHAT IT READS IS OF BULK AT MOST 1048576: true; the input reads as it did. -/
def rTTStaysInIntervalUptoRow : OpenClaim := { program := "ytdjjcocmhfmpeaa", sum := "8e3377759f64f2a18842f1db7162c8d8cbec58b0e81f24eaed16db065d9f0f50", func := "peregrine/peregrinelaw12.RTTStaysInInterval", spec := "rTTStaysInInterval", unfollowed := true, recurses := true, apart := false, narrowed := true }
def RTTStaysInIntervalUptoSaid : Prop := rTTStaysInIntervalUptoRow.holds Try.pinned (OpenSpec.upto rTTStaysInIntervalSpec)

/-- 'peregrinelaw12.RTTConstantSamples', WHERE WHAT IT READS IS OF BULK AT MOST 1048576: true; the input reads as it did. -/
def rTTConstantSamplesUptoRow : OpenClaim := { program := "ytdjjcocmhfmpeaa", sum := "8e3377759f64f2a18842f1db7162c8d8cbec58b0e81f24eaed16db065d9f0f50", func := "peregrine/peregrinelaw12.RTTConstantSamples", spec := "rTTConstantSamples", unfollowed := true, recurses := true, apart := false, narrowed := true }
def RTTConstantSamplesUptoSaid : Prop := rTTConstantSamplesUptoRow.holds Try.pinned (OpenSpec.upto rTTConstantSamplesSpec)

/-- 'peregrinelaw12.RTTDelayIsBounded', WHERE WHAT IT READS IS OF BULK AT MOST 1048576: true; the input reads as it did. -/
def rTTDelayIsBoundedUptoRow : OpenClaim := { program := "ytdjjcocmhfmpeaa", sum := "8e3377759f64f2a18842f1db7162c8d8cbec58b0e81f24eaed16db065d9f0f50", func := "peregrine/peregrinelaw12.RTTDelayIsBounded", spec := "rTTDelayIsBounded", unfollowed := true, recurses := true, apart := false, narrowed := true }
def RTTDelayIsBoundedUptoSaid : Prop := rTTDelayIsBoundedUptoRow.holds Try.pinned (OpenSpec.upto rTTDelayIsBoundedSpec)

/-- 'peregrinelaw12.RTTIgnoresInvalid', WHERE WHAT IT READS IS OF BULK AT MOST 1048576: true; the input reads as it did. -/
def rTTIgnoresInvalidUptoRow : OpenClaim := { program := "ytdjjcocmhfmpeaa", sum := "8e3377759f64f2a18842f1db7162c8d8cbec58b0e81f24eaed16db065d9f0f50", func := "peregrine/peregrinelaw12.RTTIgnoresInvalid", spec := "rTTIgnoresInvalid", unfollowed := true, recurses := true, apart := false, narrowed := true }
def RTTIgnoresInvalidUptoSaid : Prop := rTTIgnoresInvalidUptoRow.holds Try.pinned (OpenSpec.upto rTTIgnoresInvalidSpec)

/-- 'peregrinelaw12.RTTProbeMonotone', WHERE WHAT IT READS IS OF BULK AT MOST 1048576: true; the input reads as it did. -/
def rTTProbeMonotoneUptoRow : OpenClaim := { program := "ytdjjcocmhfmpeaa", sum := "8e3377759f64f2a18842f1db7162c8d8cbec58b0e81f24eaed16db065d9f0f50", func := "peregrine/peregrinelaw12.RTTProbeMonotone", spec := "rTTProbeMonotone", unfollowed := true, recurses := true, apart := false, narrowed := true }
def RTTProbeMonotoneUptoSaid : Prop := rTTProbeMonotoneUptoRow.holds Try.pinned (OpenSpec.upto rTTProbeMonotoneSpec)

/-- 'peregrinelaw12.RTTLossDelay', WHERE WHAT IT READS IS OF BULK AT MOST 1048576: true; the input reads as it did. -/
def rTTLossDelayUptoRow : OpenClaim := { program := "ytdjjcocmhfmpeaa", sum := "8e3377759f64f2a18842f1db7162c8d8cbec58b0e81f24eaed16db065d9f0f50", func := "peregrine/peregrinelaw12.RTTLossDelay", spec := "rTTLossDelay", unfollowed := true, recurses := true, apart := false, narrowed := true }
def RTTLossDelayUptoSaid : Prop := rTTLossDelayUptoRow.holds Try.pinned (OpenSpec.upto rTTLossDelaySpec)

/-- 'peregrinelaw12.RTTNil', WHERE WHAT IT READS IS OF BULK AT MOST 1048576: true; the input reads as it did. -/
def rTTNilUptoRow : OpenClaim := { program := "ytdjjcocmhfmpeaa", sum := "8e3377759f64f2a18842f1db7162c8d8cbec58b0e81f24eaed16db065d9f0f50", func := "peregrine/peregrinelaw12.RTTNil", spec := "rTTNil", unfollowed := true, recurses := true, apart := false, narrowed := true }
def RTTNilUptoSaid : Prop := rTTNilUptoRow.holds Try.pinned (OpenSpec.upto rTTNilSpec)

end Rows
end Go.Proofs.Ytdjjcocmhfmpeaa
