/- Facts, reckoned singly. -/
import Derived.KernelRfl
import Derived.JoinedOf
import Derived.SevenTiedAt
import Derived.Test.YtkibeldbfkainaaGreatDoorRows
namespace Go.Proofs.YtkibeldbfkainaaGreatDoor
open Go.ChangeShapes Go.WideShapes
theorem proofLong_laid : laidOutB Tryz.pinned.checked.prog = true := by kernel_rfl
theorem proofLong_rowed : mapsRowed Tryz.pinned.checked.prog = true := by kernel_rfl
end Go.Proofs.YtkibeldbfkainaaGreatDoor
