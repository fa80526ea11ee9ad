/- The tie's parts. -/
import Derived.Test.YtkibeldbfkainaaGreatDoorTyOProofLong
namespace Go.Proofs.YtkibeldbfkainaaGreatDoor
open Go
theorem tie_d:∀ os tape,varsDone Tryz.prog 400 (varsId Tryz.prog) os tape=true:=fun _ _=>by kernel_rfl
end Go.Proofs.YtkibeldbfkainaaGreatDoor
