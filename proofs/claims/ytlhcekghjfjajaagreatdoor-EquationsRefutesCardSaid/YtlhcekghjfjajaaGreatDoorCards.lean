/-
  DERIVED. GIVEN WITH THE SEED: THE CARDS: each row of YtlhcekghjfjajaaGreatDoorRows.lean that lists a variable, with what it lists TIED to the program's text (the seventh form; the later family's looks); each row that meets fmt, with fmt's text TOLD by the authors' own Lean function (tested against real Go, not proved from fmt's source: count such statements apart). THE CARD IS WHAT COUNTS. Prove the row's statement (the work); the ties are given (YtlhcekghjfjajaaGreatDoorTie.lean); close each card by the builder's one call (the guide's Derived/Test/ToyasCard.lean, 'card_holds'). Laid BY PROGRAM, IN A SANDBOX (cutbox-door.mjs). By AI agents, Wed Nov 11 2026. No macro, syntax, notation, axiom, sorry.
-/
import Derived.Test.YtlhcekghjfjajaaGreatDoorRows
import GoSem.ClaimSeven
namespace Go.Proofs.YtlhcekghjfjajaaGreatDoor
namespace Rows

/-- THE TIED CARD OF 'framewiselaw06.EquationsSound'. -/
def equationsSoundCard : Claim7 := { stood := { row := equationsSoundRow, standIns := [], harness := (true, "f104250e35d4f75384b5f536d2b6a78631799f4041859c209846cd35f02221a9"), looks := true }, kinds := [], alts := [], laidByText := true, laidKinds := [.data, .data, .data, .sentinel, .sentinel], laidTests := true, laidLooks := .later }
def EquationsSoundCardSaid : Prop := Claim7.holds Tryz.pinned (.plain (OpenSpec.ofChange equationsSoundSpec)) equationsSoundCard

/-- THE TIED CARD OF 'framewiselaw06.EquationsComplete'. -/
def equationsCompleteCard : Claim7 := { stood := { row := equationsCompleteRow, standIns := [], harness := (true, "f104250e35d4f75384b5f536d2b6a78631799f4041859c209846cd35f02221a9"), looks := true }, kinds := [], alts := [], laidByText := true, laidKinds := [.data, .data, .data, .sentinel, .sentinel], laidTests := true, laidLooks := .later }
def EquationsCompleteCardSaid : Prop := Claim7.holds Tryz.pinned (.plain (OpenSpec.ofChange equationsCompleteSpec)) equationsCompleteCard

/-- THE TIED CARD OF 'framewiselaw06.EquationsRefutes'. -/
def equationsRefutesCard : Claim7 := { stood := { row := equationsRefutesRow, standIns := [], harness := (true, "f104250e35d4f75384b5f536d2b6a78631799f4041859c209846cd35f02221a9"), looks := true }, kinds := [], alts := [], laidByText := true, laidKinds := [.data, .data, .data, .sentinel, .sentinel], laidTests := true, laidLooks := .later }
def EquationsRefutesCardSaid : Prop := Claim7.holds Tryz.pinned (.plain (OpenSpec.ofChange equationsRefutesSpec)) equationsRefutesCard

/-- THE TIED CARD OF 'framewiselaw06.EquationsSame'. -/
def equationsSameCard : Claim7 := { stood := { row := equationsSameRow, standIns := [], harness := (true, "f104250e35d4f75384b5f536d2b6a78631799f4041859c209846cd35f02221a9"), looks := true }, kinds := [], alts := [], laidByText := true, laidKinds := [.data, .data, .data, .sentinel, .sentinel], laidTests := true, laidLooks := .later }
def EquationsSameCardSaid : Prop := Claim7.holds Tryz.pinned (.plain (OpenSpec.ofChange equationsSameSpec)) equationsSameCard

/-- THE SECOND FORM's CARD OF 'framewiselaw06.EquationsSound'. -/
def equationsSoundUptoCard : Claim7 := { stood := { row := equationsSoundUptoRow, standIns := [], harness := (true, "f104250e35d4f75384b5f536d2b6a78631799f4041859c209846cd35f02221a9"), looks := true }, kinds := [], alts := [], laidByText := true, laidKinds := [.data, .data, .data, .sentinel, .sentinel], laidTests := true, laidLooks := .later }
def EquationsSoundUptoCardSaid : Prop := Claim7.holds Tryz.pinned (.plain (OpenSpec.upto equationsSoundSpec)) equationsSoundUptoCard

/-- THE SECOND FORM's CARD OF 'framewiselaw06.EquationsComplete'. -/
def equationsCompleteUptoCard : Claim7 := { stood := { row := equationsCompleteUptoRow, standIns := [], harness := (true, "f104250e35d4f75384b5f536d2b6a78631799f4041859c209846cd35f02221a9"), looks := true }, kinds := [], alts := [], laidByText := true, laidKinds := [.data, .data, .data, .sentinel, .sentinel], laidTests := true, laidLooks := .later }
def EquationsCompleteUptoCardSaid : Prop := Claim7.holds Tryz.pinned (.plain (OpenSpec.upto equationsCompleteSpec)) equationsCompleteUptoCard

/-- THE SECOND FORM's CARD OF 'framewiselaw06.EquationsRefutes'. -/
def equationsRefutesUptoCard : Claim7 := { stood := { row := equationsRefutesUptoRow, standIns := [], harness := (true, "f104250e35d4f75384b5f536d2b6a78631799f4041859c209846cd35f02221a9"), looks := true }, kinds := [], alts := [], laidByText := true, laidKinds := [.data, .data, .data, .sentinel, .sentinel], laidTests := true, laidLooks := .later }
def EquationsRefutesUptoCardSaid : Prop := Claim7.holds Tryz.pinned (.plain (OpenSpec.upto equationsRefutesSpec)) equationsRefutesUptoCard

/-- THE SECOND FORM's CARD OF 'framewiselaw06.EquationsSame'. -/
def equationsSameUptoCard : Claim7 := { stood := { row := equationsSameUptoRow, standIns := [], harness := (true, "f104250e35d4f75384b5f536d2b6a78631799f4041859c209846cd35f02221a9"), looks := true }, kinds := [], alts := [], laidByText := true, laidKinds := [.data, .data, .data, .sentinel, .sentinel], laidTests := true, laidLooks := .later }
def EquationsSameUptoCardSaid : Prop := Claim7.holds Tryz.pinned (.plain (OpenSpec.upto equationsSameSpec)) equationsSameUptoCard
end Rows
end Go.Proofs.YtlhcekghjfjajaaGreatDoor
