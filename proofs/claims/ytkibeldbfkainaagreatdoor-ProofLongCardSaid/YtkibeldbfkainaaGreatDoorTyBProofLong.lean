/- The tie's parts. -/
import Derived.Test.YtkibeldbfkainaaGreatDoorTyOProofLong
namespace Go.Proofs.YtkibeldbfkainaaGreatDoor
open Go
theorem tie_1:∀ os tape,(DataW.laidRun Tryz.prog (varsWorld Tryz.prog 400 (varsId Tryz.prog) os tape).memory 8 (tieL.map (·.1))).map (·.1)=some tieL:=fun _ _=>by kernel_rfl
end Go.Proofs.YtkibeldbfkainaaGreatDoor
