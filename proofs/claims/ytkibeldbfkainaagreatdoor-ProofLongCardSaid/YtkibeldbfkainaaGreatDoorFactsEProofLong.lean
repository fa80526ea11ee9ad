/- Facts, reckoned singly. -/
import Derived.KernelRfl
import Derived.JoinedOf
import Derived.SevenTiedAt
import Derived.Test.YtkibeldbfkainaaGreatDoorRows
namespace Go.Proofs.YtkibeldbfkainaaGreatDoor
open Go.ChangeShapes Go.WideShapes
theorem proofLong_named : (Rows.proofLongRow.named == Tryz.pinned.checked.prog.varsNamed 3) = true := by kernel_rfl
end Go.Proofs.YtkibeldbfkainaaGreatDoor
