/- One start. -/
import Derived.Test.YtgdjadenmognaaaGreatDoorBtAProofTexts
namespace Go.Proofs.YtgdjadenmognaaaGreatDoor
open Go.RowKit
theorem laid_1 (os:Os) (args:_root_.Array Go.Value):(DataW.laidRun Tryz.prog ((laidWorld os).forCall (fun _ _=>0) ⟨#[],args,[]⟩).memory 8 (Rows.proofTextsRow.laid.map (·.1))).map (·.1)=some Rows.proofTextsRow.laid:=by kernel_rfl
end Go.Proofs.YtgdjadenmognaaaGreatDoor
