/-
  No cell of these rows narrows 'for every input' (looked for: loops, veiled, ifaces, maps, wideKeys, modest, calm, conditions, laid).
  DERIVED. THE GIVEN ROWS OF THIS SEAT. 6 by the template 'for every input the law returns true; each argument reads behind the call as it read before'; 0 by the template 'total and deterministic' (their statements: YthjlkiilkiggiaaTotals.lean).
  GIVEN WITH THE SEED: the statements are not yours to turn. If you find one false, say at which input.
  Laid BY PROGRAM, IN A SANDBOX (cutbox-rows.mjs): the forced cells as the released guide's own fill.sh prints them over the translation edf5472c7f613af9… (all of the seat's roots in one cut). By AI agents, Wed Nov 11 2026. No macro, syntax, notation, axiom, sorry.
-/
import Derived.Test.YthjlkiilkiggiaaChecked
import GoSem.Claim
import GoSem.ClaimJoined
import GoSem.ClaimMapViews
import Derived.JoinedTies
import Derived.KernelRfl
namespace Go.Proofs.Ythjlkiilkiggiaa
/- THE CELL 'sum', in the pinned program and in every row, IS THE sha256 OF THE DUMP (.gsa) THAT YthjlkiilkiggiaaProg.lean LOADS. Nothing in Lean hashes anything: it is a label: what it is worth is what the hold of that sum in a sandbox is worth. -/
noncomputable def Try.pinned : Pinned := { name := "ythjlkiilkiggiaa", sum := "edf5472c7f613af9a674313de12ac9e16603cd446b0a1f6de22090011b07329c", checked := Try.checked }
namespace Rows
def none {H : Type} : Left H := { results := [], args := [] }

/-- 'peregrinelaw11.AcksPrompt': WHATEVER THE INPUT: true; the input reads as it did. -/
def acksPromptSpec : ChangeSpec := { name := "acksPrompt", fn := fun _ => fun
  | [d1, d2] => { results := [.lit (.bool true)], args := [d1, d2] }
  | _ => none }
def acksPromptRow : OpenClaim := { program := "ythjlkiilkiggiaa", sum := "edf5472c7f613af9a674313de12ac9e16603cd446b0a1f6de22090011b07329c", func := "peregrine/peregrinelaw11.AcksPrompt", spec := "acksPrompt", unfollowed := true, recurses := true, apart := false }
def AcksPromptSaid : Prop := acksPromptRow.holds Try.pinned (OpenSpec.ofChange acksPromptSpec)

/-- ITS FALSE NEIGHBOUR: 'it returns false'. Refute it at one input. -/
def acksPromptWrong : ChangeSpec := { name := "acksPrompt", fn := fun _ => fun
  | [d1, d2] => { results := [.lit (.bool false)], args := [d1, d2] }
  | _ => none }
def AcksPromptWrongFalsely : Prop := acksPromptRow.holds Try.pinned (OpenSpec.ofChange acksPromptWrong)

/-- 'peregrinelaw11.AcksBounded': WHATEVER THE INPUT: true; the input reads as it did. -/
def acksBoundedSpec : ChangeSpec := { name := "acksBounded", fn := fun _ => fun
  | [d] => { results := [.lit (.bool true)], args := [d] }
  | _ => none }
def acksBoundedRow : OpenClaim := { program := "ythjlkiilkiggiaa", sum := "edf5472c7f613af9a674313de12ac9e16603cd446b0a1f6de22090011b07329c", func := "peregrine/peregrinelaw11.AcksBounded", spec := "acksBounded", unfollowed := true, recurses := true, apart := false }
def AcksBoundedSaid : Prop := acksBoundedRow.holds Try.pinned (OpenSpec.ofChange acksBoundedSpec)

/-- ITS FALSE NEIGHBOUR: 'it returns false'. Refute it at one input. -/
def acksBoundedWrong : ChangeSpec := { name := "acksBounded", fn := fun _ => fun
  | [d] => { results := [.lit (.bool false)], args := [d] }
  | _ => none }
def AcksBoundedWrongFalsely : Prop := acksBoundedRow.holds Try.pinned (OpenSpec.ofChange acksBoundedWrong)

/-- 'peregrinelaw11.AcksOnce': WHATEVER THE INPUT: true; the input reads as it did. -/
def acksOnceSpec : ChangeSpec := { name := "acksOnce", fn := fun _ => fun
  | [d] => { results := [.lit (.bool true)], args := [d] }
  | _ => none }
def acksOnceRow : OpenClaim := { program := "ythjlkiilkiggiaa", sum := "edf5472c7f613af9a674313de12ac9e16603cd446b0a1f6de22090011b07329c", func := "peregrine/peregrinelaw11.AcksOnce", spec := "acksOnce", unfollowed := true, recurses := true, apart := false }
def AcksOnceSaid : Prop := acksOnceRow.holds Try.pinned (OpenSpec.ofChange acksOnceSpec)

/-- ITS FALSE NEIGHBOUR: 'it returns false'. Refute it at one input. -/
def acksOnceWrong : ChangeSpec := { name := "acksOnce", fn := fun _ => fun
  | [d] => { results := [.lit (.bool false)], args := [d] }
  | _ => none }
def AcksOnceWrongFalsely : Prop := acksOnceRow.holds Try.pinned (OpenSpec.ofChange acksOnceWrong)

/-- 'peregrinelaw11.AcksForgets': WHATEVER THE INPUT: true; the input reads as it did. -/
def acksForgetsSpec : ChangeSpec := { name := "acksForgets", fn := fun _ => fun
  | [d1, d2] => { results := [.lit (.bool true)], args := [d1, d2] }
  | _ => none }
def acksForgetsRow : OpenClaim := { program := "ythjlkiilkiggiaa", sum := "edf5472c7f613af9a674313de12ac9e16603cd446b0a1f6de22090011b07329c", func := "peregrine/peregrinelaw11.AcksForgets", spec := "acksForgets", unfollowed := true, recurses := true, apart := false }
def AcksForgetsSaid : Prop := acksForgetsRow.holds Try.pinned (OpenSpec.ofChange acksForgetsSpec)

/-- ITS FALSE NEIGHBOUR: 'it returns false'. Refute it at one input. -/
def acksForgetsWrong : ChangeSpec := { name := "acksForgets", fn := fun _ => fun
  | [d1, d2] => { results := [.lit (.bool false)], args := [d1, d2] }
  | _ => none }
def AcksForgetsWrongFalsely : Prop := acksForgetsRow.holds Try.pinned (OpenSpec.ofChange acksForgetsWrong)

/-- 'peregrinelaw11.AcksTruncated': WHATEVER THE INPUT: true; the input reads as it did. -/
def acksTruncatedSpec : ChangeSpec := { name := "acksTruncated", fn := fun _ => fun
  | [d1, d2] => { results := [.lit (.bool true)], args := [d1, d2] }
  | _ => none }
def acksTruncatedRow : OpenClaim := { program := "ythjlkiilkiggiaa", sum := "edf5472c7f613af9a674313de12ac9e16603cd446b0a1f6de22090011b07329c", func := "peregrine/peregrinelaw11.AcksTruncated", spec := "acksTruncated", unfollowed := true, recurses := true, apart := false }
def AcksTruncatedSaid : Prop := acksTruncatedRow.holds Try.pinned (OpenSpec.ofChange acksTruncatedSpec)

/-- ITS FALSE NEIGHBOUR: 'it returns false'. Refute it at one input. -/
def acksTruncatedWrong : ChangeSpec := { name := "acksTruncated", fn := fun _ => fun
  | [d1, d2] => { results := [.lit (.bool false)], args := [d1, d2] }
  | _ => none }
def AcksTruncatedWrongFalsely : Prop := acksTruncatedRow.holds Try.pinned (OpenSpec.ofChange acksTruncatedWrong)

/-- 'peregrinelaw12.RTTFromDelayedAcks': WHATEVER THE INPUT: true; the input reads as it did. -/
def rTTFromDelayedAcksSpec : ChangeSpec := { name := "rTTFromDelayedAcks", fn := fun _ => fun
  | [d1, d2, d3, d4] => { results := [.lit (.bool true)], args := [d1, d2, d3, d4] }
  | _ => none }
def rTTFromDelayedAcksRow : OpenClaim := { program := "ythjlkiilkiggiaa", sum := "edf5472c7f613af9a674313de12ac9e16603cd446b0a1f6de22090011b07329c", func := "peregrine/peregrinelaw12.RTTFromDelayedAcks", spec := "rTTFromDelayedAcks", unfollowed := true, recurses := true, apart := false }
def RTTFromDelayedAcksSaid : Prop := rTTFromDelayedAcksRow.holds Try.pinned (OpenSpec.ofChange rTTFromDelayedAcksSpec)

/-- ITS FALSE NEIGHBOUR: 'it returns false'. Refute it at one input. -/
def rTTFromDelayedAcksWrong : ChangeSpec := { name := "rTTFromDelayedAcks", fn := fun _ => fun
  | [d1, d2, d3, d4] => { results := [.lit (.bool false)], args := [d1, d2, d3, d4] }
  | _ => none }
def RTTFromDelayedAcksWrongFalsely : Prop := rTTFromDelayedAcksRow.holds Try.pinned (OpenSpec.ofChange rTTFromDelayedAcksWrong)

/- THE SECOND FORM. 'bulk': how many values and letters a reading holds, each counted each time it is reached (what is shared counts as often as it is met; a slice's spare places count too). A statement '..UptoSaid' is the law's where the arguments, and the package variables that the reading takes, are together of bulk at most 1048576: NARROWER than '..Said'. Prove '..Said' where nothing that the law and all that it calls make is longer than what came in: it says more and counts as full. Else prove '..UptoSaid'. A law counts once. -/
mutual
def uptoBulk {H : Type} : DataW H → Nat
  | .lit (.string bytes) => bytes.length + 1
  | .lit _ => 1
  | .nil => 1
  | .ptr d => uptoBulk d + 1
  | .slice elems spare => uptoBulkAll elems + uptoBulkAll spare + 1
  | .agg parts => uptoBulkAll parts + 1
  | .iface _ d => uptoBulk d + 1
  | .map entries => uptoBulkEntries entries + 1
  | .held _ => 1
def uptoBulkAll {H : Type} : List (DataW H) → Nat
  | [] => 0
  | d :: r => uptoBulk d + uptoBulkAll r
def uptoBulkEntries {H : Type} : List (Lit × DataW H) → Nat
  | [] => 0
  | x :: r => uptoBulkEntry x + uptoBulkEntries r
def uptoBulkEntry {H : Type} : Lit × DataW H → Nat
  | (.string bytes, d) => bytes.length + uptoBulk d + 1
  | (_, d) => uptoBulk d + 1
 end
def uptoSmall : (H : Type) → List (DataW H) → Bool := fun _ ds => decide (uptoBulkAll ds ≤ 1048576)
def OpenSpec.upto (s : _root_.Go.ChangeSpec) : _root_.Go.OpenSpec := { _root_.Go.OpenSpec.ofChange s with cond := some uptoSmall }

/-- 'peregrinelaw11.AcksPrompt', WHERE WHAT IT READS IS OF BULK AT MOST 1048576: true; the input reads as it did. -/
def acksPromptUptoRow : OpenClaim := { program := "ythjlkiilkiggiaa", sum := "edf5472c7f613af9a674313de12ac9e16603cd446b0a1f6de22090011b07329c", func := "peregrine/peregrinelaw11.AcksPrompt", spec := "acksPrompt", unfollowed := true, recurses := true, apart := false, narrowed := true }
def AcksPromptUptoSaid : Prop := acksPromptUptoRow.holds Try.pinned (OpenSpec.upto acksPromptSpec)

/-- 'peregrinelaw11.AcksBounded', WHERE WHAT IT READS IS OF BULK AT MOST 1048576: true; the input reads as it did. -/
def acksBoundedUptoRow : OpenClaim := { program := "ythjlkiilkiggiaa", sum := "edf5472c7f613af9a674313de12ac9e16603cd446b0a1f6de22090011b07329c", func := "peregrine/peregrinelaw11.AcksBounded", spec := "acksBounded", unfollowed := true, recurses := true, apart := false, narrowed := true }
def AcksBoundedUptoSaid : Prop := acksBoundedUptoRow.holds Try.pinned (OpenSpec.upto acksBoundedSpec)

/-- 'peregrinelaw11.AcksOnce', WHERE WHAT IT READS IS OF BULK AT MOST 1048576: true; the input reads as it did. -/
def acksOnceUptoRow : OpenClaim := { program := "ythjlkiilkiggiaa", sum := "edf5472c7f613af9a674313de12ac9e16603cd446b0a1f6de22090011b07329c", func := "peregrine/peregrinelaw11.AcksOnce", spec := "acksOnce", unfollowed := true, recurses := true, apart := false, narrowed := true }
def AcksOnceUptoSaid : Prop := acksOnceUptoRow.holds Try.pinned (OpenSpec.upto acksOnceSpec)

/-- 'peregrinelaw11.AcksForgets', WHERE WHAT IT READS IS OF BULK AT MOST 1048576: true; the input reads as it did. -/
def acksForgetsUptoRow : OpenClaim := { program := "ythjlkiilkiggiaa", sum := "edf5472c7f613af9a674313de12ac9e16603cd446b0a1f6de22090011b07329c", func := "peregrine/peregrinelaw11.AcksForgets", spec := "acksForgets", unfollowed := true, recurses := true, apart := false, narrowed := true }
def AcksForgetsUptoSaid : Prop := acksForgetsUptoRow.holds Try.pinned (OpenSpec.upto acksForgetsSpec)

/-- 'peregrinelaw11.AcksTruncated', WHERE WHAT IT READS IS OF BULK AT MOST 1048576: true; the input reads as it did. -/
def acksTruncatedUptoRow : OpenClaim := { program := "ythjlkiilkiggiaa", sum := "edf5472c7f613af9a674313de12ac9e16603cd446b0a1f6de22090011b07329c", func := "peregrine/peregrinelaw11.AcksTruncated", spec := "acksTruncated", unfollowed := true, recurses := true, apart := false, narrowed := true }
def AcksTruncatedUptoSaid : Prop := acksTruncatedUptoRow.holds Try.pinned (OpenSpec.upto acksTruncatedSpec)

/-- 'peregrinelaw12.RTTFromDelayedAcks', WHERE WHAT IT READS IS OF BULK AT MOST 1048576: true; the input reads as it did. -/
def rTTFromDelayedAcksUptoRow : OpenClaim := { program := "ythjlkiilkiggiaa", sum := "edf5472c7f613af9a674313de12ac9e16603cd446b0a1f6de22090011b07329c", func := "peregrine/peregrinelaw12.RTTFromDelayedAcks", spec := "rTTFromDelayedAcks", unfollowed := true, recurses := true, apart := false, narrowed := true }
def RTTFromDelayedAcksUptoSaid : Prop := rTTFromDelayedAcksUptoRow.holds Try.pinned (OpenSpec.upto rTTFromDelayedAcksSpec)

end Rows
end Go.Proofs.Ythjlkiilkiggiaa
