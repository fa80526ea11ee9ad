/- One start. -/
import Derived.Test.YtpfoahpiaanlaaaGreatDoorBtAFlatInferUpto
namespace Go.Proofs.YtpfoahpiaanlaaaGreatDoor
open Go.RowKit
theorem laid_1 (os:Os) (args:_root_.Array Go.Value):(DataW.laidRun Tryz.prog ((laidWorld os).forCall (fun _ _=>0) ⟨#[],args,[]⟩).memory 8 (Rows.flatInferUptoRow.laid.map (·.1))).map (·.1)=some Rows.flatInferUptoRow.laid:=by kernel_rfl
end Go.Proofs.YtpfoahpiaanlaaaGreatDoor
