/-
  DERIVED. GIVEN WITH THE SEED: THE CARDS: each row of YtnnmmmeppbdlnaaDoorRows.lean that lists a variable, with what it lists TIED to the program's text (the seventh form; the later family's looks); each row that meets fmt, with fmt's text TOLD by the authors' own Lean function (tested against real Go, not proved from fmt's source: count such statements apart). THE CARD IS WHAT COUNTS. Prove the row's statement (the work); the ties are given (YtnnmmmeppbdlnaaDoorTie.lean); close each card by the builder's one call (the guide's Derived/Test/ToyasCard.lean, 'card_holds'). Laid BY PROGRAM, IN A SANDBOX (cutbox-door.mjs). By AI agents, Wed Nov 11 2026. No macro, syntax, notation, axiom, sorry.
-/
import Derived.Test.YtnnmmmeppbdlnaaDoorRows
import GoSem.ClaimSeven
namespace Go.Proofs.YtnnmmmeppbdlnaaDoor
namespace Rows

/-- THE TIED CARD OF 'peregrinelaw16.ReassemblyMatchesReference'. -/
def reassemblyMatchesReferenceCard : Claim7 := { stood := { row := reassemblyMatchesReferenceRow, standIns := [], harness := (true, "54825d672e9b7ba9b14490500a975c545bf7869081864ee6c759c337f4131a90"), looks := true }, kinds := [], alts := [], laidByText := true, laidKinds := [.sentinel, .sentinel, .sentinel, .sentinel], laidTests := true, laidLooks := .later }
def ReassemblyMatchesReferenceCardSaid : Prop := Claim7.holds Tryd.pinned (.plain (OpenSpec.ofChange reassemblyMatchesReferenceSpec)) reassemblyMatchesReferenceCard

/-- THE TIED CARD OF 'peregrinelaw16.ReassemblyPrefix'. -/
def reassemblyPrefixCard : Claim7 := { stood := { row := reassemblyPrefixRow, standIns := [], harness := (true, "54825d672e9b7ba9b14490500a975c545bf7869081864ee6c759c337f4131a90"), looks := true }, kinds := [], alts := [], laidByText := true, laidKinds := [.sentinel, .sentinel, .sentinel, .sentinel], laidTests := true, laidLooks := .later }
def ReassemblyPrefixCardSaid : Prop := Claim7.holds Tryd.pinned (.plain (OpenSpec.ofChange reassemblyPrefixSpec)) reassemblyPrefixCard

/-- THE TIED CARD OF 'peregrinelaw16.ReassemblyComplete'. -/
def reassemblyCompleteCard : Claim7 := { stood := { row := reassemblyCompleteRow, standIns := [], harness := (true, "54825d672e9b7ba9b14490500a975c545bf7869081864ee6c759c337f4131a90"), looks := true }, kinds := [], alts := [], laidByText := true, laidKinds := [.sentinel, .sentinel, .sentinel, .sentinel], laidTests := true, laidLooks := .later }
def ReassemblyCompleteCardSaid : Prop := Claim7.holds Tryd.pinned (.plain (OpenSpec.ofChange reassemblyCompleteSpec)) reassemblyCompleteCard

/-- THE TIED CARD OF 'peregrinelaw16.ReassemblyIdempotent'. -/
def reassemblyIdempotentCard : Claim7 := { stood := { row := reassemblyIdempotentRow, standIns := [], harness := (true, "54825d672e9b7ba9b14490500a975c545bf7869081864ee6c759c337f4131a90"), looks := true }, kinds := [], alts := [], laidByText := true, laidKinds := [.sentinel, .sentinel, .sentinel, .sentinel], laidTests := true, laidLooks := .later }
def ReassemblyIdempotentCardSaid : Prop := Claim7.holds Tryd.pinned (.plain (OpenSpec.ofChange reassemblyIdempotentSpec)) reassemblyIdempotentCard

/-- THE TIED CARD OF 'peregrinelaw16.ReassemblyConflict'. -/
def reassemblyConflictCard : Claim7 := { stood := { row := reassemblyConflictRow, standIns := [], harness := (true, "54825d672e9b7ba9b14490500a975c545bf7869081864ee6c759c337f4131a90"), looks := true }, kinds := [], alts := [], laidByText := true, laidKinds := [.sentinel, .sentinel, .sentinel, .sentinel], laidTests := true, laidLooks := .later }
def ReassemblyConflictCardSaid : Prop := Claim7.holds Tryd.pinned (.plain (OpenSpec.ofChange reassemblyConflictSpec)) reassemblyConflictCard

/-- THE TIED CARD OF 'peregrinelaw16.ReassemblyFinalSize'. -/
def reassemblyFinalSizeCard : Claim7 := { stood := { row := reassemblyFinalSizeRow, standIns := [], harness := (true, "54825d672e9b7ba9b14490500a975c545bf7869081864ee6c759c337f4131a90"), looks := true }, kinds := [], alts := [], laidByText := true, laidKinds := [.sentinel, .sentinel, .sentinel, .sentinel], laidTests := true, laidLooks := .later }
def ReassemblyFinalSizeCardSaid : Prop := Claim7.holds Tryd.pinned (.plain (OpenSpec.ofChange reassemblyFinalSizeSpec)) reassemblyFinalSizeCard

/-- THE TIED CARD OF 'peregrinelaw16.ReassemblyBounded'. -/
def reassemblyBoundedCard : Claim7 := { stood := { row := reassemblyBoundedRow, standIns := [], harness := (true, "54825d672e9b7ba9b14490500a975c545bf7869081864ee6c759c337f4131a90"), looks := true }, kinds := [], alts := [], laidByText := true, laidKinds := [.sentinel, .sentinel, .sentinel, .sentinel], laidTests := true, laidLooks := .later }
def ReassemblyBoundedCardSaid : Prop := Claim7.holds Tryd.pinned (.plain (OpenSpec.ofChange reassemblyBoundedSpec)) reassemblyBoundedCard

/-- THE TIED CARD OF 'peregrinelaw16.ReassemblyFlowControlled'. -/
def reassemblyFlowControlledCard : Claim7 := { stood := { row := reassemblyFlowControlledRow, standIns := [], harness := (true, "54825d672e9b7ba9b14490500a975c545bf7869081864ee6c759c337f4131a90"), looks := true }, kinds := [], alts := [], laidByText := true, laidKinds := [.sentinel, .sentinel, .sentinel, .sentinel], laidTests := true, laidLooks := .later }
def ReassemblyFlowControlledCardSaid : Prop := Claim7.holds Tryd.pinned (.plain (OpenSpec.ofChange reassemblyFlowControlledSpec)) reassemblyFlowControlledCard

/-- THE SECOND FORM's CARD OF 'peregrinelaw16.ReassemblyMatchesReference'. -/
def reassemblyMatchesReferenceUptoCard : Claim7 := { stood := { row := reassemblyMatchesReferenceUptoRow, standIns := [], harness := (true, "54825d672e9b7ba9b14490500a975c545bf7869081864ee6c759c337f4131a90"), looks := true }, kinds := [], alts := [], laidByText := true, laidKinds := [.sentinel, .sentinel, .sentinel, .sentinel], laidTests := true, laidLooks := .later }
def ReassemblyMatchesReferenceUptoCardSaid : Prop := Claim7.holds Tryd.pinned (.plain (OpenSpec.upto reassemblyMatchesReferenceSpec)) reassemblyMatchesReferenceUptoCard

/-- THE SECOND FORM's CARD OF 'peregrinelaw16.ReassemblyPrefix'. -/
def reassemblyPrefixUptoCard : Claim7 := { stood := { row := reassemblyPrefixUptoRow, standIns := [], harness := (true, "54825d672e9b7ba9b14490500a975c545bf7869081864ee6c759c337f4131a90"), looks := true }, kinds := [], alts := [], laidByText := true, laidKinds := [.sentinel, .sentinel, .sentinel, .sentinel], laidTests := true, laidLooks := .later }
def ReassemblyPrefixUptoCardSaid : Prop := Claim7.holds Tryd.pinned (.plain (OpenSpec.upto reassemblyPrefixSpec)) reassemblyPrefixUptoCard

/-- THE SECOND FORM's CARD OF 'peregrinelaw16.ReassemblyComplete'. -/
def reassemblyCompleteUptoCard : Claim7 := { stood := { row := reassemblyCompleteUptoRow, standIns := [], harness := (true, "54825d672e9b7ba9b14490500a975c545bf7869081864ee6c759c337f4131a90"), looks := true }, kinds := [], alts := [], laidByText := true, laidKinds := [.sentinel, .sentinel, .sentinel, .sentinel], laidTests := true, laidLooks := .later }
def ReassemblyCompleteUptoCardSaid : Prop := Claim7.holds Tryd.pinned (.plain (OpenSpec.upto reassemblyCompleteSpec)) reassemblyCompleteUptoCard

/-- THE SECOND FORM's CARD OF 'peregrinelaw16.ReassemblyIdempotent'. -/
def reassemblyIdempotentUptoCard : Claim7 := { stood := { row := reassemblyIdempotentUptoRow, standIns := [], harness := (true, "54825d672e9b7ba9b14490500a975c545bf7869081864ee6c759c337f4131a90"), looks := true }, kinds := [], alts := [], laidByText := true, laidKinds := [.sentinel, .sentinel, .sentinel, .sentinel], laidTests := true, laidLooks := .later }
def ReassemblyIdempotentUptoCardSaid : Prop := Claim7.holds Tryd.pinned (.plain (OpenSpec.upto reassemblyIdempotentSpec)) reassemblyIdempotentUptoCard

/-- THE SECOND FORM's CARD OF 'peregrinelaw16.ReassemblyConflict'. -/
def reassemblyConflictUptoCard : Claim7 := { stood := { row := reassemblyConflictUptoRow, standIns := [], harness := (true, "54825d672e9b7ba9b14490500a975c545bf7869081864ee6c759c337f4131a90"), looks := true }, kinds := [], alts := [], laidByText := true, laidKinds := [.sentinel, .sentinel, .sentinel, .sentinel], laidTests := true, laidLooks := .later }
def ReassemblyConflictUptoCardSaid : Prop := Claim7.holds Tryd.pinned (.plain (OpenSpec.upto reassemblyConflictSpec)) reassemblyConflictUptoCard

/-- THE SECOND FORM's CARD OF 'peregrinelaw16.ReassemblyFinalSize'. -/
def reassemblyFinalSizeUptoCard : Claim7 := { stood := { row := reassemblyFinalSizeUptoRow, standIns := [], harness := (true, "54825d672e9b7ba9b14490500a975c545bf7869081864ee6c759c337f4131a90"), looks := true }, kinds := [], alts := [], laidByText := true, laidKinds := [.sentinel, .sentinel, .sentinel, .sentinel], laidTests := true, laidLooks := .later }
def ReassemblyFinalSizeUptoCardSaid : Prop := Claim7.holds Tryd.pinned (.plain (OpenSpec.upto reassemblyFinalSizeSpec)) reassemblyFinalSizeUptoCard

/-- THE SECOND FORM's CARD OF 'peregrinelaw16.ReassemblyBounded'. -/
def reassemblyBoundedUptoCard : Claim7 := { stood := { row := reassemblyBoundedUptoRow, standIns := [], harness := (true, "54825d672e9b7ba9b14490500a975c545bf7869081864ee6c759c337f4131a90"), looks := true }, kinds := [], alts := [], laidByText := true, laidKinds := [.sentinel, .sentinel, .sentinel, .sentinel], laidTests := true, laidLooks := .later }
def ReassemblyBoundedUptoCardSaid : Prop := Claim7.holds Tryd.pinned (.plain (OpenSpec.upto reassemblyBoundedSpec)) reassemblyBoundedUptoCard

/-- THE SECOND FORM's CARD OF 'peregrinelaw16.ReassemblyFlowControlled'. -/
def reassemblyFlowControlledUptoCard : Claim7 := { stood := { row := reassemblyFlowControlledUptoRow, standIns := [], harness := (true, "54825d672e9b7ba9b14490500a975c545bf7869081864ee6c759c337f4131a90"), looks := true }, kinds := [], alts := [], laidByText := true, laidKinds := [.sentinel, .sentinel, .sentinel, .sentinel], laidTests := true, laidLooks := .later }
def ReassemblyFlowControlledUptoCardSaid : Prop := Claim7.holds Tryd.pinned (.plain (OpenSpec.upto reassemblyFlowControlledSpec)) reassemblyFlowControlledUptoCard
end Rows
end Go.Proofs.YtnnmmmeppbdlnaaDoor
