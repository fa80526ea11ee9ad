/- Facts, reckoned singly. -/
import Derived.KernelRfl
import Derived.JoinedOf
import Derived.SevenTiedAt
import Derived.Test.YtpfoahpiaanlaaaGreatDoorRows
namespace Go.Proofs.YtpfoahpiaanlaaaGreatDoor
open Go.ChangeShapes Go.WideShapes
theorem flatInfer_named : (Rows.flatInferUptoRow.named == Tryz.pinned.checked.prog.varsNamed 3) = true := by kernel_rfl
end Go.Proofs.YtpfoahpiaanlaaaGreatDoor
