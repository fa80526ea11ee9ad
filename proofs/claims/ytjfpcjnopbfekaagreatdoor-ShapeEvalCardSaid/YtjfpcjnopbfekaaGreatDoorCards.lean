/-
  DERIVED. GIVEN WITH THE SEED: THE CARDS: each row of YtjfpcjnopbfekaaGreatDoorRows.lean that lists a variable, with what it lists TIED to the program's text (the seventh form; the later family's looks); each row that meets fmt, with fmt's text TOLD by the authors' own Lean function (tested against real Go, not proved from fmt's source: count such statements apart). THE CARD IS WHAT COUNTS. Prove the row's statement (the work); the ties are given (YtjfpcjnopbfekaaGreatDoorTie.lean); close each card by the builder's one call (the guide's Derived/Test/ToyasCard.lean, 'card_holds'). Laid BY PROGRAM, IN A SANDBOX (cutbox-door.mjs). By AI agents, Wed Nov 11 2026. No macro, syntax, notation, axiom, sorry.
-/
import Derived.Test.YtjfpcjnopbfekaaGreatDoorRows
import GoSem.ClaimSeven
namespace Go.Proofs.YtjfpcjnopbfekaaGreatDoor
namespace Rows

/-- THE TIED CARD OF 'framewiselaw11.ShapeValues'. -/
def shapeValuesCard : Claim7 := { stood := { row := shapeValuesRow, standIns := [], harness := (true, "45a5c883c57b3d3ebbb88ce1030d9d1bb5b491adc1559dc1ff5b782e71afa396"), looks := true }, kinds := [], alts := [], laidByText := true, laidKinds := [.data, .data, .data, .data, .sentinel, .sentinel, .pinned], laidTests := true, laidLooks := .later }
def ShapeValuesCardSaid : Prop := Claim7.holds Tryz.pinned (.plain (OpenSpec.ofChange shapeValuesSpec)) shapeValuesCard

/-- THE TIED CARD OF 'framewiselaw11.ShapeText'. -/
def shapeTextCard : Claim7 := { stood := { row := shapeTextRow, standIns := [], harness := (true, "45a5c883c57b3d3ebbb88ce1030d9d1bb5b491adc1559dc1ff5b782e71afa396"), looks := true }, kinds := [], alts := [], laidByText := true, laidKinds := [.data, .data, .data, .data, .sentinel, .sentinel, .pinned], laidTests := true, laidLooks := .later }
def ShapeTextCardSaid : Prop := Claim7.holds Tryz.pinned (.plain (OpenSpec.ofChange shapeTextSpec)) shapeTextCard

/-- THE TIED CARD OF 'framewiselaw11.ShapeForms'. -/
def shapeFormsCard : Claim7 := { stood := { row := shapeFormsRow, standIns := [], harness := (true, "45a5c883c57b3d3ebbb88ce1030d9d1bb5b491adc1559dc1ff5b782e71afa396"), looks := true }, kinds := [], alts := [], laidByText := true, laidKinds := [.data, .data, .data, .data, .sentinel, .sentinel, .pinned], laidTests := true, laidLooks := .later }
def ShapeFormsCardSaid : Prop := Claim7.holds Tryz.pinned (.plain (OpenSpec.ofChange shapeFormsSpec)) shapeFormsCard

/-- THE TIED CARD OF 'framewiselaw11.ShapeSubst'. -/
def shapeSubstCard : Claim7 := { stood := { row := shapeSubstRow, standIns := [], harness := (true, "45a5c883c57b3d3ebbb88ce1030d9d1bb5b491adc1559dc1ff5b782e71afa396"), looks := true }, kinds := [], alts := [], laidByText := true, laidKinds := [.data, .data, .data, .data, .sentinel, .sentinel, .pinned], laidTests := true, laidLooks := .later }
def ShapeSubstCardSaid : Prop := Claim7.holds Tryz.pinned (.plain (OpenSpec.ofChange shapeSubstSpec)) shapeSubstCard

/-- THE TIED CARD OF 'framewiselaw11.ShapeConcat'. -/
def shapeConcatCard : Claim7 := { stood := { row := shapeConcatRow, standIns := [], harness := (true, "45a5c883c57b3d3ebbb88ce1030d9d1bb5b491adc1559dc1ff5b782e71afa396"), looks := true }, kinds := [], alts := [], laidByText := true, laidKinds := [.data, .data, .data, .data, .sentinel, .sentinel, .pinned], laidTests := true, laidLooks := .later }
def ShapeConcatCardSaid : Prop := Claim7.holds Tryz.pinned (.plain (OpenSpec.ofChange shapeConcatSpec)) shapeConcatCard

/-- THE TIED CARD OF 'framewiselaw05.PolyEval'. -/
def polyEvalCard : Claim7 := { stood := { row := polyEvalRow, standIns := [], harness := (true, "45a5c883c57b3d3ebbb88ce1030d9d1bb5b491adc1559dc1ff5b782e71afa396"), looks := true }, kinds := [], alts := [], laidByText := true, laidKinds := [.data, .data, .data, .data, .sentinel, .sentinel, .pinned], laidTests := true, laidLooks := .later }
def PolyEvalCardSaid : Prop := Claim7.holds Tryz.pinned (.plain (OpenSpec.ofChange polyEvalSpec)) polyEvalCard

/-- THE TIED CARD OF 'framewiselaw05.PolyText'. -/
def polyTextCard : Claim7 := { stood := { row := polyTextRow, standIns := [], harness := (true, "45a5c883c57b3d3ebbb88ce1030d9d1bb5b491adc1559dc1ff5b782e71afa396"), looks := true }, kinds := [], alts := [], laidByText := true, laidKinds := [.data, .data, .data, .data, .sentinel, .sentinel, .pinned], laidTests := true, laidLooks := .later }
def PolyTextCardSaid : Prop := Claim7.holds Tryz.pinned (.plain (OpenSpec.ofChange polyTextSpec)) polyTextCard

/-- THE TIED CARD OF 'framewiselaw05.PolyDegree'. -/
def polyDegreeCard : Claim7 := { stood := { row := polyDegreeRow, standIns := [], harness := (true, "45a5c883c57b3d3ebbb88ce1030d9d1bb5b491adc1559dc1ff5b782e71afa396"), looks := true }, kinds := [], alts := [], laidByText := true, laidKinds := [.data, .data, .data, .data, .sentinel, .sentinel, .pinned], laidTests := true, laidLooks := .later }
def PolyDegreeCardSaid : Prop := Claim7.holds Tryz.pinned (.plain (OpenSpec.ofChange polyDegreeSpec)) polyDegreeCard

/-- THE TIED CARD OF 'framewiselaw05.PolySums'. -/
def polySumsCard : Claim7 := { stood := { row := polySumsRow, standIns := [], harness := (true, "45a5c883c57b3d3ebbb88ce1030d9d1bb5b491adc1559dc1ff5b782e71afa396"), looks := true }, kinds := [], alts := [], laidByText := true, laidKinds := [.data, .data, .data, .data, .sentinel, .sentinel, .pinned], laidTests := true, laidLooks := .later }
def PolySumsCardSaid : Prop := Claim7.holds Tryz.pinned (.plain (OpenSpec.ofChange polySumsSpec)) polySumsCard

/-- THE TIED CARD OF 'framewiselaw05.PolyRing'. -/
def polyRingCard : Claim7 := { stood := { row := polyRingRow, standIns := [], harness := (true, "45a5c883c57b3d3ebbb88ce1030d9d1bb5b491adc1559dc1ff5b782e71afa396"), looks := true }, kinds := [], alts := [], laidByText := true, laidKinds := [.data, .data, .data, .data, .sentinel, .sentinel, .pinned], laidTests := true, laidLooks := .later }
def PolyRingCardSaid : Prop := Claim7.holds Tryz.pinned (.plain (OpenSpec.ofChange polyRingSpec)) polyRingCard

/-- THE TIED CARD OF 'framewiselaw05.PolyBasic'. -/
def polyBasicCard : Claim7 := { stood := { row := polyBasicRow, standIns := [], harness := (true, "45a5c883c57b3d3ebbb88ce1030d9d1bb5b491adc1559dc1ff5b782e71afa396"), looks := true }, kinds := [], alts := [], laidByText := true, laidKinds := [.data, .data, .data, .data, .sentinel, .sentinel, .pinned], laidTests := true, laidLooks := .later }
def PolyBasicCardSaid : Prop := Claim7.holds Tryz.pinned (.plain (OpenSpec.ofChange polyBasicSpec)) polyBasicCard

/-- THE TIED CARD OF 'framewiselaw11.ShapeEval'. -/
def shapeEvalCard : Claim7 := { stood := { row := shapeEvalRow, standIns := [], harness := (true, "45a5c883c57b3d3ebbb88ce1030d9d1bb5b491adc1559dc1ff5b782e71afa396"), looks := true }, kinds := [], alts := [], laidByText := true, laidKinds := [.data, .data, .data, .data, .sentinel, .sentinel, .pinned], laidTests := true, laidLooks := .later }
def ShapeEvalCardSaid : Prop := Claim7.holds Tryz.pinned (.plain (OpenSpec.ofChange shapeEvalSpec)) shapeEvalCard

/-- THE SECOND FORM's CARD OF 'framewiselaw11.ShapeValues'. -/
def shapeValuesUptoCard : Claim7 := { stood := { row := shapeValuesUptoRow, standIns := [], harness := (true, "45a5c883c57b3d3ebbb88ce1030d9d1bb5b491adc1559dc1ff5b782e71afa396"), looks := true }, kinds := [], alts := [], laidByText := true, laidKinds := [.data, .data, .data, .data, .sentinel, .sentinel, .pinned], laidTests := true, laidLooks := .later }
def ShapeValuesUptoCardSaid : Prop := Claim7.holds Tryz.pinned (.plain (OpenSpec.upto shapeValuesSpec)) shapeValuesUptoCard

/-- THE SECOND FORM's CARD OF 'framewiselaw11.ShapeText'. -/
def shapeTextUptoCard : Claim7 := { stood := { row := shapeTextUptoRow, standIns := [], harness := (true, "45a5c883c57b3d3ebbb88ce1030d9d1bb5b491adc1559dc1ff5b782e71afa396"), looks := true }, kinds := [], alts := [], laidByText := true, laidKinds := [.data, .data, .data, .data, .sentinel, .sentinel, .pinned], laidTests := true, laidLooks := .later }
def ShapeTextUptoCardSaid : Prop := Claim7.holds Tryz.pinned (.plain (OpenSpec.upto shapeTextSpec)) shapeTextUptoCard

/-- THE SECOND FORM's CARD OF 'framewiselaw11.ShapeForms'. -/
def shapeFormsUptoCard : Claim7 := { stood := { row := shapeFormsUptoRow, standIns := [], harness := (true, "45a5c883c57b3d3ebbb88ce1030d9d1bb5b491adc1559dc1ff5b782e71afa396"), looks := true }, kinds := [], alts := [], laidByText := true, laidKinds := [.data, .data, .data, .data, .sentinel, .sentinel, .pinned], laidTests := true, laidLooks := .later }
def ShapeFormsUptoCardSaid : Prop := Claim7.holds Tryz.pinned (.plain (OpenSpec.upto shapeFormsSpec)) shapeFormsUptoCard

/-- THE SECOND FORM's CARD OF 'framewiselaw11.ShapeSubst'. -/
def shapeSubstUptoCard : Claim7 := { stood := { row := shapeSubstUptoRow, standIns := [], harness := (true, "45a5c883c57b3d3ebbb88ce1030d9d1bb5b491adc1559dc1ff5b782e71afa396"), looks := true }, kinds := [], alts := [], laidByText := true, laidKinds := [.data, .data, .data, .data, .sentinel, .sentinel, .pinned], laidTests := true, laidLooks := .later }
def ShapeSubstUptoCardSaid : Prop := Claim7.holds Tryz.pinned (.plain (OpenSpec.upto shapeSubstSpec)) shapeSubstUptoCard

/-- THE SECOND FORM's CARD OF 'framewiselaw11.ShapeConcat'. -/
def shapeConcatUptoCard : Claim7 := { stood := { row := shapeConcatUptoRow, standIns := [], harness := (true, "45a5c883c57b3d3ebbb88ce1030d9d1bb5b491adc1559dc1ff5b782e71afa396"), looks := true }, kinds := [], alts := [], laidByText := true, laidKinds := [.data, .data, .data, .data, .sentinel, .sentinel, .pinned], laidTests := true, laidLooks := .later }
def ShapeConcatUptoCardSaid : Prop := Claim7.holds Tryz.pinned (.plain (OpenSpec.upto shapeConcatSpec)) shapeConcatUptoCard

/-- THE SECOND FORM's CARD OF 'framewiselaw05.PolyEval'. -/
def polyEvalUptoCard : Claim7 := { stood := { row := polyEvalUptoRow, standIns := [], harness := (true, "45a5c883c57b3d3ebbb88ce1030d9d1bb5b491adc1559dc1ff5b782e71afa396"), looks := true }, kinds := [], alts := [], laidByText := true, laidKinds := [.data, .data, .data, .data, .sentinel, .sentinel, .pinned], laidTests := true, laidLooks := .later }
def PolyEvalUptoCardSaid : Prop := Claim7.holds Tryz.pinned (.plain (OpenSpec.upto polyEvalSpec)) polyEvalUptoCard

/-- THE SECOND FORM's CARD OF 'framewiselaw05.PolyText'. -/
def polyTextUptoCard : Claim7 := { stood := { row := polyTextUptoRow, standIns := [], harness := (true, "45a5c883c57b3d3ebbb88ce1030d9d1bb5b491adc1559dc1ff5b782e71afa396"), looks := true }, kinds := [], alts := [], laidByText := true, laidKinds := [.data, .data, .data, .data, .sentinel, .sentinel, .pinned], laidTests := true, laidLooks := .later }
def PolyTextUptoCardSaid : Prop := Claim7.holds Tryz.pinned (.plain (OpenSpec.upto polyTextSpec)) polyTextUptoCard

/-- THE SECOND FORM's CARD OF 'framewiselaw05.PolyDegree'. -/
def polyDegreeUptoCard : Claim7 := { stood := { row := polyDegreeUptoRow, standIns := [], harness := (true, "45a5c883c57b3d3ebbb88ce1030d9d1bb5b491adc1559dc1ff5b782e71afa396"), looks := true }, kinds := [], alts := [], laidByText := true, laidKinds := [.data, .data, .data, .data, .sentinel, .sentinel, .pinned], laidTests := true, laidLooks := .later }
def PolyDegreeUptoCardSaid : Prop := Claim7.holds Tryz.pinned (.plain (OpenSpec.upto polyDegreeSpec)) polyDegreeUptoCard

/-- THE SECOND FORM's CARD OF 'framewiselaw05.PolySums'. -/
def polySumsUptoCard : Claim7 := { stood := { row := polySumsUptoRow, standIns := [], harness := (true, "45a5c883c57b3d3ebbb88ce1030d9d1bb5b491adc1559dc1ff5b782e71afa396"), looks := true }, kinds := [], alts := [], laidByText := true, laidKinds := [.data, .data, .data, .data, .sentinel, .sentinel, .pinned], laidTests := true, laidLooks := .later }
def PolySumsUptoCardSaid : Prop := Claim7.holds Tryz.pinned (.plain (OpenSpec.upto polySumsSpec)) polySumsUptoCard

/-- THE SECOND FORM's CARD OF 'framewiselaw05.PolyRing'. -/
def polyRingUptoCard : Claim7 := { stood := { row := polyRingUptoRow, standIns := [], harness := (true, "45a5c883c57b3d3ebbb88ce1030d9d1bb5b491adc1559dc1ff5b782e71afa396"), looks := true }, kinds := [], alts := [], laidByText := true, laidKinds := [.data, .data, .data, .data, .sentinel, .sentinel, .pinned], laidTests := true, laidLooks := .later }
def PolyRingUptoCardSaid : Prop := Claim7.holds Tryz.pinned (.plain (OpenSpec.upto polyRingSpec)) polyRingUptoCard

/-- THE SECOND FORM's CARD OF 'framewiselaw05.PolyBasic'. -/
def polyBasicUptoCard : Claim7 := { stood := { row := polyBasicUptoRow, standIns := [], harness := (true, "45a5c883c57b3d3ebbb88ce1030d9d1bb5b491adc1559dc1ff5b782e71afa396"), looks := true }, kinds := [], alts := [], laidByText := true, laidKinds := [.data, .data, .data, .data, .sentinel, .sentinel, .pinned], laidTests := true, laidLooks := .later }
def PolyBasicUptoCardSaid : Prop := Claim7.holds Tryz.pinned (.plain (OpenSpec.upto polyBasicSpec)) polyBasicUptoCard

/-- THE SECOND FORM's CARD OF 'framewiselaw11.ShapeEval'. -/
def shapeEvalUptoCard : Claim7 := { stood := { row := shapeEvalUptoRow, standIns := [], harness := (true, "45a5c883c57b3d3ebbb88ce1030d9d1bb5b491adc1559dc1ff5b782e71afa396"), looks := true }, kinds := [], alts := [], laidByText := true, laidKinds := [.data, .data, .data, .data, .sentinel, .sentinel, .pinned], laidTests := true, laidLooks := .later }
def ShapeEvalUptoCardSaid : Prop := Claim7.holds Tryz.pinned (.plain (OpenSpec.upto shapeEvalSpec)) shapeEvalUptoCard
end Rows
end Go.Proofs.YtjfpcjnopbfekaaGreatDoor
