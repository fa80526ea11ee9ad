/- The tie's parts. -/
import Derived.Test.YtkibeldbfkainaaGreatDoorTyOProofLong
namespace Go.Proofs.YtkibeldbfkainaaGreatDoor
open Go
theorem tie_r:∀ os tape,(DataW.laidRun Tryz.prog (varsWorld Tryz.prog 400 (varsId Tryz.prog) os tape).memory 8 (tieL.map (·.1))).map (fun x=>laidRowsB Tryz.prog (varsWorld Tryz.prog 400 (varsId Tryz.prog) os tape).memory x.2)=some true:=fun _ _=>by kernel_rfl
end Go.Proofs.YtkibeldbfkainaaGreatDoor
