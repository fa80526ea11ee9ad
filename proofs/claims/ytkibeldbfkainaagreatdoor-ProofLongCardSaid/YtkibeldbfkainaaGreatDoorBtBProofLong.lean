/- One start. -/
import Derived.Test.YtkibeldbfkainaaGreatDoorBtAProofLong
namespace Go.Proofs.YtkibeldbfkainaaGreatDoor
open Go.RowKit
theorem laid_1 (os:Os) (args:_root_.Array Go.Value):(DataW.laidRun Tryz.prog ((laidWorld os).forCall (fun _ _=>0) ⟨#[],args,[]⟩).memory 8 (Rows.proofLongRow.laid.map (·.1))).map (·.1)=some Rows.proofLongRow.laid:=by kernel_rfl
end Go.Proofs.YtkibeldbfkainaaGreatDoor
