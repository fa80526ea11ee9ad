/- Facts, reckoned singly. -/
import Derived.KernelRfl
import Derived.JoinedOf
import Derived.SevenTiedAt
import Derived.Test.YtpfoahpiaanlaaaGreatDoorRows
namespace Go.Proofs.YtpfoahpiaanlaaaGreatDoor
open Go.ChangeShapes Go.WideShapes
theorem flatInfer_inPlace : (Rows.flatInferUptoRow.inPlace == Tryz.pinned.checked.prog.inPlace 3) = true := by kernel_rfl
end Go.Proofs.YtpfoahpiaanlaaaGreatDoor
