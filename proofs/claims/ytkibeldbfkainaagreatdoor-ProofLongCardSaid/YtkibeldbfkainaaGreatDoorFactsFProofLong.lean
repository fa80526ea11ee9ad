/- Facts, reckoned singly. -/
import Derived.KernelRfl
import Derived.JoinedOf
import Derived.SevenTiedAt
import Derived.Test.YtkibeldbfkainaaGreatDoorRows
namespace Go.Proofs.YtkibeldbfkainaaGreatDoor
open Go.ChangeShapes Go.WideShapes
theorem proofLong_heard : Tryz.pinned.checked.prog.stopsHeard = true := by kernel_rfl
theorem proofLong_enter : Tryz.pinned.checked.prog.mayEnter = true := by kernel_rfl
end Go.Proofs.YtkibeldbfkainaaGreatDoor
