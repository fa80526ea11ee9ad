/- The tie's parts. -/
import Derived.Test.YtpfoahpiaanlaaaGreatDoorTyOFlatInferUpto
namespace Go.Proofs.YtpfoahpiaanlaaaGreatDoor
open Go
theorem tie_d:∀ os tape,varsDone Tryz.prog 400 (varsId Tryz.prog) os tape=true:=fun _ _=>by kernel_rfl
end Go.Proofs.YtpfoahpiaanlaaaGreatDoor
