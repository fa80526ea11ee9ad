/- The tie's parts. -/
import Derived.Test.YtkibeldbfkainaaGreatDoorTyOProofLong
import Derived.Test.YtkibeldbfkainaaGreatDoorTyNProofLong
namespace Go.Proofs.YtkibeldbfkainaaGreatDoor
open Go
theorem tie_b:∀ os tape,(DataW.laidRun Tryz.prog (varsWorld Tryz.prog 400 (varsId Tryz.prog) os tape).memory 8 (tieL.map (·.1))).map (fun x=>nodB x.2 0)=some true:=fun _ _=>by kernel_rfl
theorem tie_n:∀ os tape,(DataW.laidRun Tryz.prog (varsWorld Tryz.prog 400 (varsId Tryz.prog) os tape).memory 8 (tieL.map (·.1))).map (fun x=>decide x.2.Nodup)=some true:=fun os tape=>nod_map (tie_b os tape)
end Go.Proofs.YtkibeldbfkainaaGreatDoor
