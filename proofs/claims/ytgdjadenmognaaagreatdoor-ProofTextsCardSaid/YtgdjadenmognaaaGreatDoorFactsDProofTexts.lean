/- Facts, reckoned singly. -/
import Derived.KernelRfl
import Derived.JoinedOf
import Derived.SevenTiedAt
import Derived.Test.YtgdjadenmognaaaGreatDoorRows
namespace Go.Proofs.YtgdjadenmognaaaGreatDoor
open Go.ChangeShapes Go.WideShapes
theorem proofTexts_rec : (Rows.proofTextsRow.recurses == Tryz.pinned.checked.prog.recurses 3) = true := by kernel_rfl
end Go.Proofs.YtgdjadenmognaaaGreatDoor
