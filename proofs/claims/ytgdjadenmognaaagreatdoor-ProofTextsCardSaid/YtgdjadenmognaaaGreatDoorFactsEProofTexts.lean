/- Facts, reckoned singly. -/
import Derived.KernelRfl
import Derived.JoinedOf
import Derived.SevenTiedAt
import Derived.Test.YtgdjadenmognaaaGreatDoorRows
namespace Go.Proofs.YtgdjadenmognaaaGreatDoor
open Go.ChangeShapes Go.WideShapes
theorem proofTexts_named : (Rows.proofTextsRow.named == Tryz.pinned.checked.prog.varsNamed 3) = true := by kernel_rfl
end Go.Proofs.YtgdjadenmognaaaGreatDoor
