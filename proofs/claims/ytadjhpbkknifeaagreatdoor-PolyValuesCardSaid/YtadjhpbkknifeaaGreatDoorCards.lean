/-
  DERIVED. GIVEN WITH THE SEED: THE CARDS: each row of YtadjhpbkknifeaaGreatDoorRows.lean that lists a variable, with what it lists TIED to the program's text (the seventh form; the later family's looks); each row that meets fmt, with fmt's text TOLD by the authors' own Lean function (tested against real Go, not proved from fmt's source: count such statements apart). THE CARD IS WHAT COUNTS. Prove the row's statement (the work); the ties are given (YtadjhpbkknifeaaGreatDoorTie.lean); close each card by the builder's one call (the guide's Derived/Test/ToyasCard.lean, 'card_holds'). Laid BY PROGRAM, IN A SANDBOX (cutbox-door.mjs). By AI agents, Wed Nov 11 2026. No macro, syntax, notation, axiom, sorry.
-/
import Derived.Test.YtadjhpbkknifeaaGreatDoorRows
import GoSem.ClaimSeven
namespace Go.Proofs.YtadjhpbkknifeaaGreatDoor
namespace Rows

/-- THE TIED CARD OF 'framewiselaw05.PolyProduct'. -/
def polyProductCard : Claim7 := { stood := { row := polyProductRow, standIns := [], harness := (true, "8e156911cb5611d0ac03358a614310dc16b4d6e8c88df0d054435cdea0e72c8c"), looks := true }, kinds := [], alts := [], laidByText := true, laidKinds := [.data, .data, .data, .data, .sentinel, .sentinel, .pinned], laidTests := true, laidLooks := .later }
def PolyProductCardSaid : Prop := Claim7.holds Tryz.pinned (.plain (OpenSpec.ofChange polyProductSpec)) polyProductCard

/-- THE TIED CARD OF 'framewiselaw05.PolyValues'. -/
def polyValuesCard : Claim7 := { stood := { row := polyValuesRow, standIns := [], harness := (true, "8e156911cb5611d0ac03358a614310dc16b4d6e8c88df0d054435cdea0e72c8c"), looks := true }, kinds := [], alts := [], laidByText := true, laidKinds := [.data, .data, .data, .data, .sentinel, .sentinel, .pinned], laidTests := true, laidLooks := .later }
def PolyValuesCardSaid : Prop := Claim7.holds Tryz.pinned (.plain (OpenSpec.ofChange polyValuesSpec)) polyValuesCard

/-- THE SECOND FORM's CARD OF 'framewiselaw05.PolyProduct'. -/
def polyProductUptoCard : Claim7 := { stood := { row := polyProductUptoRow, standIns := [], harness := (true, "8e156911cb5611d0ac03358a614310dc16b4d6e8c88df0d054435cdea0e72c8c"), looks := true }, kinds := [], alts := [], laidByText := true, laidKinds := [.data, .data, .data, .data, .sentinel, .sentinel, .pinned], laidTests := true, laidLooks := .later }
def PolyProductUptoCardSaid : Prop := Claim7.holds Tryz.pinned (.plain (OpenSpec.upto polyProductSpec)) polyProductUptoCard

/-- THE SECOND FORM's CARD OF 'framewiselaw05.PolyValues'. -/
def polyValuesUptoCard : Claim7 := { stood := { row := polyValuesUptoRow, standIns := [], harness := (true, "8e156911cb5611d0ac03358a614310dc16b4d6e8c88df0d054435cdea0e72c8c"), looks := true }, kinds := [], alts := [], laidByText := true, laidKinds := [.data, .data, .data, .data, .sentinel, .sentinel, .pinned], laidTests := true, laidLooks := .later }
def PolyValuesUptoCardSaid : Prop := Claim7.holds Tryz.pinned (.plain (OpenSpec.upto polyValuesSpec)) polyValuesUptoCard
end Rows
end Go.Proofs.YtadjhpbkknifeaaGreatDoor
