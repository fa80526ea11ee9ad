/- The tie's parts. -/
import Derived.Test.YtgdjadenmognaaaGreatDoorTyOProofTexts
namespace Go.Proofs.YtgdjadenmognaaaGreatDoor
open Go
theorem tie_1:∀ os tape,(DataW.laidRun Tryz.prog (varsWorld Tryz.prog 400 (varsId Tryz.prog) os tape).memory 8 (tieL.map (·.1))).map (·.1)=some tieL:=fun _ _=>by kernel_rfl
end Go.Proofs.YtgdjadenmognaaaGreatDoor
