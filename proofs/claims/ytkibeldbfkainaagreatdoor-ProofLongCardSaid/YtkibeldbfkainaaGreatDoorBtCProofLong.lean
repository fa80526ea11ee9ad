/- One start. -/
import Derived.Test.YtkibeldbfkainaaGreatDoorBtAProofLong
import Derived.Test.YtkibeldbfkainaaGreatDoorTyNProofLong
namespace Go.Proofs.YtkibeldbfkainaaGreatDoor
open Go.RowKit
theorem laid_b (os:Os) (args:_root_.Array Go.Value):(DataW.laidRun Tryz.prog ((laidWorld os).forCall (fun _ _=>0) ⟨#[],args,[]⟩).memory 8 (Rows.proofLongRow.laid.map (·.1))).map (fun x=>nodB x.2 0)=some true:=by kernel_rfl
theorem laid_n (os:Os) (args:_root_.Array Go.Value):(DataW.laidRun Tryz.prog ((laidWorld os).forCall (fun _ _=>0) ⟨#[],args,[]⟩).memory 8 (Rows.proofLongRow.laid.map (·.1))).map (fun x=>decide x.2.Nodup)=some true:=nod_map (laid_b os args)
end Go.Proofs.YtkibeldbfkainaaGreatDoor
