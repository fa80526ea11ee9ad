/-
  DERIVED. GIVEN WITH THE SEED: THE CARDS: each row of YtoebmibmmlcfiaaGreatDoorRows.lean that lists a variable, with what it lists TIED to the program's text (the seventh form; the later family's looks); each row that meets fmt, with fmt's text TOLD by the authors' own Lean function (tested against real Go, not proved from fmt's source: count such statements apart). THE CARD IS WHAT COUNTS. Prove the row's statement (the work); the ties are given (YtoebmibmmlcfiaaGreatDoorTie.lean); close each card by the builder's one call (the guide's Derived/Test/ToyasCard.lean, 'card_holds'). Laid BY PROGRAM, IN A SANDBOX (cutbox-door.mjs). By AI agents, Wed Nov 11 2026. No macro, syntax, notation, axiom, sorry.
-/
import Derived.Test.YtoebmibmmlcfiaaGreatDoorRows
import GoSem.ClaimSeven
namespace Go.Proofs.YtoebmibmmlcfiaaGreatDoor
namespace Rows

/-- THE TIED CARD OF 'framewiselaw13.UnifyNumbers'. -/
def unifyNumbersCard : Claim7 := { stood := { row := unifyNumbersRow, standIns := [], harness := (true, "23692c408807684fbc083c324e3b300de439c9a388c5fe7d28a44284e711cccb"), looks := true }, kinds := [], alts := [], laidByText := true, laidKinds := [.data, .data, .data, .data, .sentinel, .sentinel, .pinned], laidTests := true, laidLooks := .later }
def UnifyNumbersCardSaid : Prop := Claim7.holds Tryz.pinned (.plain (OpenSpec.ofChange unifyNumbersSpec)) unifyNumbersCard

/-- THE TIED CARD OF 'framewiselaw13.UnifyApply'. -/
def unifyApplyCard : Claim7 := { stood := { row := unifyApplyRow, standIns := [], harness := (true, "23692c408807684fbc083c324e3b300de439c9a388c5fe7d28a44284e711cccb"), looks := true }, kinds := [], alts := [], laidByText := true, laidKinds := [.data, .data, .data, .data, .sentinel, .sentinel, .pinned], laidTests := true, laidLooks := .later }
def UnifyApplyCardSaid : Prop := Claim7.holds Tryz.pinned (.plain (OpenSpec.ofChange unifyApplySpec)) unifyApplyCard

/-- THE SECOND FORM's CARD OF 'framewiselaw13.UnifyNumbers'. -/
def unifyNumbersUptoCard : Claim7 := { stood := { row := unifyNumbersUptoRow, standIns := [], harness := (true, "23692c408807684fbc083c324e3b300de439c9a388c5fe7d28a44284e711cccb"), looks := true }, kinds := [], alts := [], laidByText := true, laidKinds := [.data, .data, .data, .data, .sentinel, .sentinel, .pinned], laidTests := true, laidLooks := .later }
def UnifyNumbersUptoCardSaid : Prop := Claim7.holds Tryz.pinned (.plain (OpenSpec.upto unifyNumbersSpec)) unifyNumbersUptoCard

/-- THE SECOND FORM's CARD OF 'framewiselaw13.UnifyApply'. -/
def unifyApplyUptoCard : Claim7 := { stood := { row := unifyApplyUptoRow, standIns := [], harness := (true, "23692c408807684fbc083c324e3b300de439c9a388c5fe7d28a44284e711cccb"), looks := true }, kinds := [], alts := [], laidByText := true, laidKinds := [.data, .data, .data, .data, .sentinel, .sentinel, .pinned], laidTests := true, laidLooks := .later }
def UnifyApplyUptoCardSaid : Prop := Claim7.holds Tryz.pinned (.plain (OpenSpec.upto unifyApplySpec)) unifyApplyUptoCard
end Rows
end Go.Proofs.YtoebmibmmlcfiaaGreatDoor
