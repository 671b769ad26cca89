/-
  DERIVED. GIVEN WITH THE SEED: THE CARDS: each row of YtgiekhohhogdiaaDoorRows.lean that lists a variable, with what it lists TIED to the program's text (the seventh form; the later family's looks); each row that meets fmt, with fmt's text TOLD by the authors' own Lean function (tested against real Go, not proved from fmt's source: count such statements apart). THE CARD IS WHAT COUNTS. Prove the row's statement (the work); the ties are given (YtgiekhohhogdiaaDoorTie.lean); close each card by the builder's one call (the guide's Derived/Test/ToyasCard.lean, 'card_holds'). Laid BY PROGRAM, IN A SANDBOX (cutbox-door.mjs). By AI agents, Wed Nov 11 2026. No macro, syntax, notation, axiom, sorry.
-/
import Derived.Test.YtgiekhohhogdiaaDoorRows
import GoSem.ClaimSeven
namespace Go.Proofs.YtgiekhohhogdiaaDoor
namespace Rows

/-- THE TIED CARD OF 'peregrinelaw16.ReassemblyFromFrames'. -/
def reassemblyFromFramesCard : Claim7 := { stood := { row := reassemblyFromFramesRow, standIns := [], harness := (true, "6601cfa9d860877326921b5459caa7f0ffb2e1a74ca29c3cd989e8d4d706a180"), looks := true }, kinds := [], alts := [], laidByText := true, laidKinds := [.sentinel, .sentinel, .sentinel, .sentinel], laidTests := true, laidLooks := .later }
def ReassemblyFromFramesCardSaid : Prop := Claim7.holds Tryd.pinned (.plain (OpenSpec.ofChange reassemblyFromFramesSpec)) reassemblyFromFramesCard

/-- THE SECOND FORM's CARD OF 'peregrinelaw16.ReassemblyFromFrames'. -/
def reassemblyFromFramesUptoCard : Claim7 := { stood := { row := reassemblyFromFramesUptoRow, standIns := [], harness := (true, "6601cfa9d860877326921b5459caa7f0ffb2e1a74ca29c3cd989e8d4d706a180"), looks := true }, kinds := [], alts := [], laidByText := true, laidKinds := [.sentinel, .sentinel, .sentinel, .sentinel], laidTests := true, laidLooks := .later }
def ReassemblyFromFramesUptoCardSaid : Prop := Claim7.holds Tryd.pinned (.plain (OpenSpec.upto reassemblyFromFramesSpec)) reassemblyFromFramesUptoCard
end Rows
end Go.Proofs.YtgiekhohhogdiaaDoor
