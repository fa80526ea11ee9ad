/-
  DERIVED. GIVEN WITH THE SEED: THE CARDS: each row of YtgdjadenmognaaaGreatDoorRows.lean that lists a variable, with what it lists TIED to the program's text (the seventh form; the later family's looks); each row that meets fmt, with fmt's text TOLD by the authors' own Lean function (tested against real Go, not proved from fmt's source: count such statements apart). THE CARD IS WHAT COUNTS. Prove the row's statement (the work); the ties are given (YtgdjadenmognaaaGreatDoorTie.lean); close each card by the builder's one call (the guide's Derived/Test/ToyasCard.lean, 'card_holds'). Laid BY PROGRAM, IN A SANDBOX (cutbox-door.mjs). By AI agents, Wed Nov 11 2026. No macro, syntax, notation, axiom, sorry.
-/
import Derived.Test.YtgdjadenmognaaaGreatDoorRows
import GoSem.ClaimSeven
namespace Go.Proofs.YtgdjadenmognaaaGreatDoor
namespace Rows

/-- THE TIED CARD OF 'framewiselaw41.ProofTexts'. -/
def proofTextsCard : Claim7 := { stood := { row := proofTextsRow, standIns := [], harness := (true, "c077d8cf3c1f0ed943de520b408b57ce8cec9167e489e2efa7d0e50de188d66f"), looks := true }, kinds := [], alts := [], laidByText := true, laidKinds := [.data, .data, .data, .pinned, .data, .sentinel, .sentinel, .data, .listed], laidTests := true, laidLooks := .later }
def ProofTextsCardSaid : Prop := Claim7.holds Tryz.pinned (.plain (OpenSpec.ofChange proofTextsSpec)) proofTextsCard

/-- THE SECOND FORM's CARD OF 'framewiselaw41.ProofTexts'. -/
def proofTextsUptoCard : Claim7 := { stood := { row := proofTextsUptoRow, standIns := [], harness := (true, "c077d8cf3c1f0ed943de520b408b57ce8cec9167e489e2efa7d0e50de188d66f"), looks := true }, kinds := [], alts := [], laidByText := true, laidKinds := [.data, .data, .data, .pinned, .data, .sentinel, .sentinel, .data, .listed], laidTests := true, laidLooks := .later }
def ProofTextsUptoCardSaid : Prop := Claim7.holds Tryz.pinned (.plain (OpenSpec.upto proofTextsSpec)) proofTextsUptoCard
end Rows
end Go.Proofs.YtgdjadenmognaaaGreatDoor
