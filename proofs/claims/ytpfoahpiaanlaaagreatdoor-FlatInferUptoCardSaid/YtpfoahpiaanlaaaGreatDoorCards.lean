/-
  DERIVED. GIVEN WITH THE SEED: THE CARDS: each row of YtpfoahpiaanlaaaGreatDoorRows.lean that lists a variable, with what it lists TIED to the program's text (the seventh form; the later family's looks); each row that meets fmt, with fmt's text TOLD by the authors' own Lean function (tested against real Go, not proved from fmt's source: count such statements apart). THE CARD IS WHAT COUNTS. Prove the row's statement (the work); the ties are given (YtpfoahpiaanlaaaGreatDoorTie.lean); close each card by the builder's one call (the guide's Derived/Test/ToyasCard.lean, 'card_holds'). Laid BY PROGRAM, IN A SANDBOX (cutbox-door.mjs). By AI agents, Wed Nov 11 2026. No macro, syntax, notation, axiom, sorry.
-/
import Derived.Test.YtpfoahpiaanlaaaGreatDoorRows
import GoSem.ClaimSeven
namespace Go.Proofs.YtpfoahpiaanlaaaGreatDoor
namespace Rows

/-- THE TIED CARD OF 'framewiselaw38.FlatInfer'. -/
def flatInferCard : Claim7 := { stood := { row := flatInferRow, standIns := [], harness := (true, "2368f8ff2bc423b46b9592c910aabf45c1ec17e4cf154429947104971dc97584"), looks := true }, kinds := [], alts := [], laidByText := true, laidKinds := [.sentinel, .sentinel, .data, .data, .data, .pinned, .data, .data, .listed], laidTests := true, laidLooks := .later }
def FlatInferCardSaid : Prop := Claim7.holds Tryz.pinned (.plain (OpenSpec.ofChange flatInferSpec)) flatInferCard

/-- THE SECOND FORM's CARD OF 'framewiselaw38.FlatInfer'. -/
def flatInferUptoCard : Claim7 := { stood := { row := flatInferUptoRow, standIns := [], harness := (true, "2368f8ff2bc423b46b9592c910aabf45c1ec17e4cf154429947104971dc97584"), looks := true }, kinds := [], alts := [], laidByText := true, laidKinds := [.sentinel, .sentinel, .data, .data, .data, .pinned, .data, .data, .listed], laidTests := true, laidLooks := .later }
def FlatInferUptoCardSaid : Prop := Claim7.holds Tryz.pinned (.plain (OpenSpec.upto flatInferSpec)) flatInferUptoCard
end Rows
end Go.Proofs.YtpfoahpiaanlaaaGreatDoor
