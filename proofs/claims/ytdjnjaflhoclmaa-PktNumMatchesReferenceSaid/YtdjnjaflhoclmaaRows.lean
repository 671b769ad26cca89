/-
  No cell of these rows narrows 'for every input' (looked for: loops, veiled, ifaces, maps, wideKeys, modest, calm, conditions, laid).
  DERIVED. THE GIVEN ROWS OF THIS SEAT. 4 by the template 'for every input the law returns true; each argument reads behind the call as it read before'; 0 by the template 'total and deterministic' (their statements: YtdjnjaflhoclmaaTotals.lean).
  GIVEN WITH THE SEED: the statements are not yours to turn. If you find one false, say at which input.
  Laid BY PROGRAM, IN A SANDBOX (cutbox-rows.mjs): the forced cells as the released guide's own fill.sh prints them over the translation 663cf0148c4ca2f9… (all of the seat's roots in one cut). By AI agents, Wed Nov 11 2026. No macro, syntax, notation, axiom, sorry.
-/
import Derived.Test.YtdjnjaflhoclmaaChecked
import GoSem.Claim
import GoSem.ClaimJoined
import GoSem.ClaimMapViews
import Derived.JoinedTies
import Derived.KernelRfl
namespace Go.Proofs.Ytdjnjaflhoclmaa
/- THE CELL 'sum', in the pinned program and in every row, IS THE sha256 OF THE DUMP (.gsa) THAT YtdjnjaflhoclmaaProg.lean LOADS. Nothing in Lean hashes anything: it is a label: what it is worth is what the hold of that sum in a sandbox is worth. -/
noncomputable def Try.pinned : Pinned := { name := "ytdjnjaflhoclmaa", sum := "663cf0148c4ca2f9fb93f5d7bb3333dba43a3d07aa3e436ef42ce2291291418f", checked := Try.checked }
namespace Rows
def none {H : Type} : Left H := { results := [], args := [] }

/-- 'peregrinelaw06.PktNumMatchesReference': WHATEVER THE INPUT: true; the input reads as it did. -/
def pktNumMatchesReferenceSpec : ChangeSpec := { name := "pktNumMatchesReference", fn := fun _ => fun
  | [d1, d2, d3, d4, d5] => { results := [.lit (.bool true)], args := [d1, d2, d3, d4, d5] }
  | _ => none }
def pktNumMatchesReferenceRow : OpenClaim := { program := "ytdjnjaflhoclmaa", sum := "663cf0148c4ca2f9fb93f5d7bb3333dba43a3d07aa3e436ef42ce2291291418f", func := "peregrine/peregrinelaw06.PktNumMatchesReference", spec := "pktNumMatchesReference", apart := false }
def PktNumMatchesReferenceSaid : Prop := pktNumMatchesReferenceRow.holds Try.pinned (OpenSpec.ofChange pktNumMatchesReferenceSpec)

/-- ITS FALSE NEIGHBOUR: 'it returns false'. Refute it at one input. -/
def pktNumMatchesReferenceWrong : ChangeSpec := { name := "pktNumMatchesReference", fn := fun _ => fun
  | [d1, d2, d3, d4, d5] => { results := [.lit (.bool false)], args := [d1, d2, d3, d4, d5] }
  | _ => none }
def PktNumMatchesReferenceWrongFalsely : Prop := pktNumMatchesReferenceRow.holds Try.pinned (OpenSpec.ofChange pktNumMatchesReferenceWrong)

/-- 'peregrinelaw06.PktNumRoundTrip': WHATEVER THE INPUT: true; the input reads as it did. -/
def pktNumRoundTripSpec : ChangeSpec := { name := "pktNumRoundTrip", fn := fun _ => fun
  | [d1, d2, d3, d4] => { results := [.lit (.bool true)], args := [d1, d2, d3, d4] }
  | _ => none }
def pktNumRoundTripRow : OpenClaim := { program := "ytdjnjaflhoclmaa", sum := "663cf0148c4ca2f9fb93f5d7bb3333dba43a3d07aa3e436ef42ce2291291418f", func := "peregrine/peregrinelaw06.PktNumRoundTrip", spec := "pktNumRoundTrip", apart := false }
def PktNumRoundTripSaid : Prop := pktNumRoundTripRow.holds Try.pinned (OpenSpec.ofChange pktNumRoundTripSpec)

/-- ITS FALSE NEIGHBOUR: 'it returns false'. Refute it at one input. -/
def pktNumRoundTripWrong : ChangeSpec := { name := "pktNumRoundTrip", fn := fun _ => fun
  | [d1, d2, d3, d4] => { results := [.lit (.bool false)], args := [d1, d2, d3, d4] }
  | _ => none }
def PktNumRoundTripWrongFalsely : Prop := pktNumRoundTripRow.holds Try.pinned (OpenSpec.ofChange pktNumRoundTripWrong)

/-- 'peregrinelaw06.PktNumClosest': WHATEVER THE INPUT: true; the input reads as it did. -/
def pktNumClosestSpec : ChangeSpec := { name := "pktNumClosest", fn := fun _ => fun
  | [d1, d2, d3] => { results := [.lit (.bool true)], args := [d1, d2, d3] }
  | _ => none }
def pktNumClosestRow : OpenClaim := { program := "ytdjnjaflhoclmaa", sum := "663cf0148c4ca2f9fb93f5d7bb3333dba43a3d07aa3e436ef42ce2291291418f", func := "peregrine/peregrinelaw06.PktNumClosest", spec := "pktNumClosest", apart := false }
def PktNumClosestSaid : Prop := pktNumClosestRow.holds Try.pinned (OpenSpec.ofChange pktNumClosestSpec)

/-- ITS FALSE NEIGHBOUR: 'it returns false'. Refute it at one input. -/
def pktNumClosestWrong : ChangeSpec := { name := "pktNumClosest", fn := fun _ => fun
  | [d1, d2, d3] => { results := [.lit (.bool false)], args := [d1, d2, d3] }
  | _ => none }
def PktNumClosestWrongFalsely : Prop := pktNumClosestRow.holds Try.pinned (OpenSpec.ofChange pktNumClosestWrong)

/-- 'peregrinelaw06.PktNumWidthMonotone': WHATEVER THE INPUT: true; the input reads as it did. -/
def pktNumWidthMonotoneSpec : ChangeSpec := { name := "pktNumWidthMonotone", fn := fun _ => fun
  | [d1, d2, d3, d4] => { results := [.lit (.bool true)], args := [d1, d2, d3, d4] }
  | _ => none }
def pktNumWidthMonotoneRow : OpenClaim := { program := "ytdjnjaflhoclmaa", sum := "663cf0148c4ca2f9fb93f5d7bb3333dba43a3d07aa3e436ef42ce2291291418f", func := "peregrine/peregrinelaw06.PktNumWidthMonotone", spec := "pktNumWidthMonotone", apart := false }
def PktNumWidthMonotoneSaid : Prop := pktNumWidthMonotoneRow.holds Try.pinned (OpenSpec.ofChange pktNumWidthMonotoneSpec)

/-- ITS FALSE NEIGHBOUR: 'it returns false'. Refute it at one input. -/
def pktNumWidthMonotoneWrong : ChangeSpec := { name := "pktNumWidthMonotone", fn := fun _ => fun
  | [d1, d2, d3, d4] => { results := [.lit (.bool false)], args := [d1, d2, d3, d4] }
  | _ => none }
def PktNumWidthMonotoneWrongFalsely : Prop := pktNumWidthMonotoneRow.holds Try.pinned (OpenSpec.ofChange pktNumWidthMonotoneWrong)

/- THE SECOND FORM. 'bulk': how many values and letters a reading holds, each counted each time it is reached (what is shared counts as often as it is met; a slice's spare places count too). A statement '..UptoSaid' is the law's where the arguments, and the package variables that the reading takes, are together of bulk at most 1048576: NARROWER than '..Said'. Prove '..Said' where nothing that the law and all that it calls make is longer than what came in: it says more and counts as full. Else prove '..UptoSaid'. A law counts once. -/
mutual
def uptoBulk {H : Type} : DataW H → Nat
  | .lit (.string bytes) => bytes.length + 1
  | .lit _ => 1
  | .nil => 1
  | .ptr d => uptoBulk d + 1
  | .slice elems spare => uptoBulkAll elems + uptoBulkAll spare + 1
  | .agg parts => uptoBulkAll parts + 1
  | .iface _ d => uptoBulk d + 1
  | .map entries => uptoBulkEntries entries + 1
  | .held _ => 1
def uptoBulkAll {H : Type} : List (DataW H) → Nat
  | [] => 0
  | d :: r => uptoBulk d + uptoBulkAll r
def uptoBulkEntries {H : Type} : List (Lit × DataW H) → Nat
  | [] => 0
  | x :: r => uptoBulkEntry x + uptoBulkEntries r
def uptoBulkEntry {H : Type} : Lit × DataW H → Nat
  | (.string bytes, d) => bytes.length + uptoBulk d + 1
  | (_, d) => uptoBulk d + 1
 end
def uptoSmall : (H : Type) → List (DataW H) → Bool := fun _ ds => decide (uptoBulkAll ds ≤ 1048576)
def OpenSpec.upto (s : _root_.Go.ChangeSpec) : _root_.Go.OpenSpec := { _root_.Go.OpenSpec.ofChange s with cond := some uptoSmall }

/-- 'peregrinelaw06.PktNumMatchesReference', WHERE WHAT IT READS IS OF BULK AT MOST 1048576: true; the input reads as it did. -/
def pktNumMatchesReferenceUptoRow : OpenClaim := { program := "ytdjnjaflhoclmaa", sum := "663cf0148c4ca2f9fb93f5d7bb3333dba43a3d07aa3e436ef42ce2291291418f", func := "peregrine/peregrinelaw06.PktNumMatchesReference", spec := "pktNumMatchesReference", apart := false, narrowed := true }
def PktNumMatchesReferenceUptoSaid : Prop := pktNumMatchesReferenceUptoRow.holds Try.pinned (OpenSpec.upto pktNumMatchesReferenceSpec)

/-- 'peregrinelaw06.PktNumRoundTrip', WHERE WHAT IT READS IS OF BULK AT MOST 1048576: true; the input reads as it did. -/
def pktNumRoundTripUptoRow : OpenClaim := { program := "ytdjnjaflhoclmaa", sum := "663cf0148c4ca2f9fb93f5d7bb3333dba43a3d07aa3e436ef42ce2291291418f", func := "peregrine/peregrinelaw06.PktNumRoundTrip", spec := "pktNumRoundTrip", apart := false, narrowed := true }
def PktNumRoundTripUptoSaid : Prop := pktNumRoundTripUptoRow.holds Try.pinned (OpenSpec.upto pktNumRoundTripSpec)

/-- 'peregrinelaw06.PktNumClosest', WHERE WHAT IT READS IS OF BULK AT MOST 1048576: true; the input reads as it did. -/
def pktNumClosestUptoRow : OpenClaim := { program := "ytdjnjaflhoclmaa", sum := "663cf0148c4ca2f9fb93f5d7bb3333dba43a3d07aa3e436ef42ce2291291418f", func := "peregrine/peregrinelaw06.PktNumClosest", spec := "pktNumClosest", apart := false, narrowed := true }
def PktNumClosestUptoSaid : Prop := pktNumClosestUptoRow.holds Try.pinned (OpenSpec.upto pktNumClosestSpec)

/-- 'peregrinelaw06.PktNumWidthMonotone', WHERE WHAT IT READS IS OF BULK AT MOST 1048576: true; the input reads as it did. -/
def pktNumWidthMonotoneUptoRow : OpenClaim := { program := "ytdjnjaflhoclmaa", sum := "663cf0148c4ca2f9fb93f5d7bb3333dba43a3d07aa3e436ef42ce2291291418f", func := "peregrine/peregrinelaw06.PktNumWidthMonotone", spec := "pktNumWidthMonotone", apart := false, narrowed := true }
def PktNumWidthMonotoneUptoSaid : Prop := pktNumWidthMonotoneUptoRow.holds Try.pinned (OpenSpec.upto pktNumWidthMonotoneSpec)

end Rows
end Go.Proofs.Ytdjnjaflhoclmaa
