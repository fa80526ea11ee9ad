/- Facts, reckoned singly. -/
import Derived.KernelRfl
import Derived.JoinedOf
import Derived.SevenTiedAt
import Derived.Test.YtpfoahpiaanlaaaGreatDoorRows
namespace Go.Proofs.YtpfoahpiaanlaaaGreatDoor
open Go.ChangeShapes Go.WideShapes
theorem flatInfer_heard : Tryz.pinned.checked.prog.stopsHeard = true := by kernel_rfl
theorem flatInfer_enter : Tryz.pinned.checked.prog.mayEnter = true := by kernel_rfl
end Go.Proofs.YtpfoahpiaanlaaaGreatDoor
