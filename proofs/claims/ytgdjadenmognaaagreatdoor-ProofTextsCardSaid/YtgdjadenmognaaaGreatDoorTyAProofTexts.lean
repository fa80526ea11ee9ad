/- The tie's parts. -/
import Derived.Test.YtgdjadenmognaaaGreatDoorTyOProofTexts
namespace Go.Proofs.YtgdjadenmognaaaGreatDoor
open Go
theorem tie_d:∀ os tape,varsDone Tryz.prog 400 (varsId Tryz.prog) os tape=true:=fun _ _=>by kernel_rfl
end Go.Proofs.YtgdjadenmognaaaGreatDoor
