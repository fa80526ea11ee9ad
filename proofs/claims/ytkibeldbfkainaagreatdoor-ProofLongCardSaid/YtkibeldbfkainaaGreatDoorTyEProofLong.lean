/- The tie's parts. -/
import Derived.Test.YtkibeldbfkainaaGreatDoorTyOProofLong
namespace Go.Proofs.YtkibeldbfkainaaGreatDoor
open Go
theorem tie_k:tieL.map (fun x=>Tryz.prog.kindOfLater x.1)=([.data,.data,.data,.data,.sentinel,.sentinel,.data,.listed]:List LaidKind).map some:=by kernel_rfl
theorem tie_w:Tryz.prog.worded (varsWordLater true)=true:=by kernel_rfl
theorem tie_w2:Tryz.prog.worded (varsWordLater !true)=false:=by kernel_rfl
theorem tie_root:Tryz.prog.worded rootWordLater=true:=by kernel_rfl
theorem tie_g:(Tryz.prog.funcNamed "gosem.cut.vars").isSome=true:=by kernel_rfl
theorem tie_nm:varsNamedLaterB Tryz.prog (varsId Tryz.prog) tieL=true:=by kernel_rfl
end Go.Proofs.YtkibeldbfkainaaGreatDoor
