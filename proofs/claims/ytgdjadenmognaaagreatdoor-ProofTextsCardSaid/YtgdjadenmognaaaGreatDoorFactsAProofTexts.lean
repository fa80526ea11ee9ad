/- Facts, reckoned singly. -/
import Derived.KernelRfl
import Derived.JoinedOf
import Derived.SevenTiedAt
import Derived.Test.YtgdjadenmognaaaGreatDoorRows
namespace Go.Proofs.YtgdjadenmognaaaGreatDoor
open Go.ChangeShapes Go.WideShapes
theorem proofTexts_laid : laidOutB Tryz.pinned.checked.prog = true := by kernel_rfl
theorem proofTexts_rowed : mapsRowed Tryz.pinned.checked.prog = true := by kernel_rfl
end Go.Proofs.YtgdjadenmognaaaGreatDoor
