/- Facts, reckoned singly. -/
import Derived.KernelRfl
import Derived.JoinedOf
import Derived.SevenTiedAt
import Derived.Test.YtpfoahpiaanlaaaGreatDoorRows
namespace Go.Proofs.YtpfoahpiaanlaaaGreatDoor
open Go.ChangeShapes Go.WideShapes
theorem flatInfer_laid : laidOutB Tryz.pinned.checked.prog = true := by kernel_rfl
theorem flatInfer_rowed : mapsRowed Tryz.pinned.checked.prog = true := by kernel_rfl
end Go.Proofs.YtpfoahpiaanlaaaGreatDoor
