/- Facts, reckoned singly. -/
import Derived.KernelRfl
import Derived.JoinedOf
import Derived.SevenTiedAt
import Derived.Test.YtgdjadenmognaaaGreatDoorRows
namespace Go.Proofs.YtgdjadenmognaaaGreatDoor
open Go.ChangeShapes Go.WideShapes
theorem proofTexts_unfol : (Rows.proofTextsRow.unfollowed == Tryz.pinned.checked.prog.unfollowed 3) = true := by kernel_rfl
end Go.Proofs.YtgdjadenmognaaaGreatDoor
