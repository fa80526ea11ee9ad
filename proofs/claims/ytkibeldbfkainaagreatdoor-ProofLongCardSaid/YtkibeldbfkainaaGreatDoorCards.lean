/-
  DERIVED. GIVEN WITH THE SEED: THE CARDS: each row of YtkibeldbfkainaaGreatDoorRows.lean that lists a variable, with what it lists TIED to the program's text (the seventh form; the later family's looks); each row that meets fmt, with fmt's text TOLD by the authors' own Lean function (tested against real Go, not proved from fmt's source: count such statements apart). THE CARD IS WHAT COUNTS. Prove the row's statement (the work); the ties are given (YtkibeldbfkainaaGreatDoorTie.lean); close each card by the builder's one call (the guide's Derived/Test/ToyasCard.lean, 'card_holds'). Laid BY PROGRAM, IN A SANDBOX (cutbox-door.mjs). By AI agents, Wed Nov 11 2026. No macro, syntax, notation, axiom, sorry.
-/
import Derived.Test.YtkibeldbfkainaaGreatDoorRows
import GoSem.ClaimSeven
namespace Go.Proofs.YtkibeldbfkainaaGreatDoor
namespace Rows

/-- THE TIED CARD OF 'framewiselaw41.ProofLong'. -/
def proofLongCard : Claim7 := { stood := { row := proofLongRow, standIns := [], harness := (true, "589f2e2bb75f432171f7afc6362b6152c83be9ba554a43c3257f16984d450e8a"), looks := true }, kinds := [], alts := [], laidByText := true, laidKinds := [.data, .data, .data, .pinned, .data, .sentinel, .sentinel, .data, .listed], laidTests := true, laidLooks := .later }
def ProofLongCardSaid : Prop := Claim7.holds Tryz.pinned (.plain (OpenSpec.ofChange proofLongSpec)) proofLongCard

/-- THE SECOND FORM's CARD OF 'framewiselaw41.ProofLong'. -/
def proofLongUptoCard : Claim7 := { stood := { row := proofLongUptoRow, standIns := [], harness := (true, "589f2e2bb75f432171f7afc6362b6152c83be9ba554a43c3257f16984d450e8a"), looks := true }, kinds := [], alts := [], laidByText := true, laidKinds := [.data, .data, .data, .pinned, .data, .sentinel, .sentinel, .data, .listed], laidTests := true, laidLooks := .later }
def ProofLongUptoCardSaid : Prop := Claim7.holds Tryz.pinned (.plain (OpenSpec.upto proofLongSpec)) proofLongUptoCard
end Rows
end Go.Proofs.YtkibeldbfkainaaGreatDoor
