/- The statement UnifyNumbers: at whatever arguments the law framewiselaw13.UnifyNumbers returns true: types of the rank 1 whose dimensions are expressions of one variable are unified exactly if their differences are 0 for some integer from -20 to 20, and otherwise the error is that of shapes. It holds with no further condition. By an AI agent. -/
import Derived.Test.YtoebmibmmlcfiaaGreatDoorBsUnifyNumbers
import Derived.Test.YtoebmibmmlcfiaaGreatDoorFactsUnifyNumbers
set_option linter.unusedSimpArgs false
set_option linter.unusedVariables false
namespace Go.Proofs.YtoebmibmmlcfiaaGreatDoor
open Go.RowKit Go.Ab Go.Sh Go.ChangeShapes Go.WideShapes Go.ChangeAt
theorem rdc25:Tryz.prog.cellsOf 25=1:=by kernel_rfl
theorem rdc26:Tryz.prog.cellsOf 26=2:=by kernel_rfl
def rdE26 (x:(Int×Int)):List AV:=[.int .i8 x.1,.int .i8 x.2]
theorem rdA2_25:Rd Tryz.prog 26 rdE26:=by intro H enc w base sp held fuel cs x h;obtain ⟨hl,n,hf⟩:=JJ Tryz.underlying26 rdc25 h;rw [rdc26] at hl;obtain ⟨z0,h0⟩:=hf 0 (by decide);obtain ⟨y0,k0⟩:=(Ip (k:=.i8) Tryz.underlying25) enc w base sp held n _ _ h0;obtain ⟨z1,h1⟩:=hf 1 (by decide);obtain ⟨y1,k1⟩:=(Ip (k:=.i8) Tryz.underlying25) enc w base sp held n _ _ h1;refine ⟨(y0,y1),?_⟩;exact DL.cons (o:=0) (s:=1) k0 rfl (DL.cons (o:=1) (s:=1) k1 rfl (DL.done hl))
set_option maxRecDepth 100000 in
theorem unifyNumbers_contract (H:Type) (enc:TypeId×Go.Value→H) (W:World) (base:Nat) (args:Array Go.Value) (ds gs:List (DataW H)) (before:List MemPlace)
 (hval:∀ (j:Nat) t v,Tryz.f3.params[j]? = some t→args[j]? = some v→Value.okWide Tryz.prog W .any base t v)
 (hW:DataW.Whole enc Tryz.prog Tryz.f3.params.toList Rows.unifyNumbersSpec.vars false W args.toList ds gs before) (hg:GP Tryz.prog W) :
 Calls Tryz.prog 3 args W fun e W'=>∃ v,e = .returned v∧Rows.unifyNumbersSpec.post enc Tryz.prog Tryz.f3 false true false false W args v W':=by
 have hW':=hW;obtain ⟨p,q,hA0,hV,rfl,hfz,hnd⟩:=hW;have hA:DataW.TrodAll enc Tryz.prog W 0 (fun _=>true) true Tryz.f3.params.toList args.toList ds p:=hA0;rw [Tryz.params3] at hA hval;obtain ⟨v0,vs0,d0,ds0,p0,q0,hargs,rfl,rfl,h0,r0⟩:=trodAll_cons hA;obtain ⟨rfl,rfl,rfl⟩:=trodAll_nil r0;obtain rfl:args = #[v0]:=by cases args;simp_all
 obtain ⟨rfl,rfl⟩:=trodVars_none hV;obtain ⟨_,_,_,e0⟩:=okWide_slice Tryz.underlying22 (hval 0 22 v0 rfl rfl);obtain ⟨x0,k0⟩:=Di (Hm (0,0) Tryz.underlying22 rdc26 (by decide) (fun _=>rfl) rdA2_25) (by rw [e0];rfl) h0;have hwalk:=FA (rA x0 true (A5 x0)) (W:=W) (vs:=[v0]) rfl (fun i hi=>by
  match i,hi with
  | 0,_=>exact k0
  ) (fun w hk=>Jy hk hg)
 refine hwalk.mono fun e W' ⟨e1,hb⟩=>⟨_,e1,?_⟩;exact HY hW' hb laidOut (by rw [Tryz.params3];intro t ht;simp only [List.mem_cons,List.mem_nil_iff,or_false] at ht;rcases ht with rfl<;>exact ⟨by kernel_rfl,Mp (by kernel_rfl)⟩) (tb:=4) (by kernel_rfl) Tryz.underlying4 rfl rfl
theorem unifyNumbers_reads (os:Os) {H:Type} (enc:TypeId×Go.Value→H):∃ places,DataW.whole enc Tryz.prog ((laidWorld os).forCall (fun _ _=>0) ⟨#[],#[(.slice none 0 0)],[]⟩).memory Tryz.f3.params.toList Rows.unifyNumbersSpec.vars false (#[(.slice none 0 0)]:Array Go.Value).toList 8=some ([.nil],[],places) :=
 ⟨[],by kernel_rfl⟩
set_option maxRecDepth 100000 in
theorem unifyNumbers_lifted (os:Os) (started:os.Started) (H:Type) (enc:TypeId×Go.Value→H) (F:Stop.Interp) :
 ReturnsInHanded {} Tryz.checked os 3 .any ((OpenSpec.ofChange Rows.unifyNumbersSpec).preRow enc Tryz.prog Tryz.f3 Rows.unifyNumbersRow.domain false Rows.unifyNumbersRow.laid) (((OpenSpec.ofChange Rows.unifyNumbersSpec).at F).post enc Tryz.prog Tryz.f3 false true false false):=by
 obtain ⟨places,hx⟩:=unifyNumbers_reads os enc;refine returnsInHanded_of_row (C:=Tryz.checked) (s:=OpenSpec.ofChange Rows.unifyNumbersSpec) KK started (by kernel_rfl) Tryz.func3
  (witness_row_at (enc:=enc) (C:=Tryz.checked) false (laidWorld os) #[(.slice none 0 0)] rfl (by kernel_rfl) (by kernel_rfl) (by kernel_rfl)
   (OpenSpec.preRow_of_cond 8 hx (by kernel_rfl) (fun k hk=>by cases hk) (by kernel_rfl) (HE os _))) ?_
 intro W base args ds gs before hval hW _ _ _ hL hsh _;exact unifyNumbers_contract H enc W base args ds gs before hval hW (I9 hL (by kernel_rfl) hsh)
theorem unifyNumbers_said:Rows.UnifyNumbersSaid :=
 OpenClaim.holds_of_cond 3 Tryz.f3 rfl rfl rfl rfl rfl rfl rfl ⟨rfl,rfl,rfl,rfl,rfl⟩ rfl rfl rfl rfl rfl (by kernel_rfl) Tryz.func3 unifyNumbers_facts
  (Mp (by kernel_rfl)) unifyNumbers_wrap
  (fun os started H enc _ F=>by rw [OpenClaim.pre_eq_preRow];exact unifyNumbers_lifted os started H enc F)
set_option maxRecDepth 100000 in
theorem unifyNumbers_plain (f:FuncId) (fn:Func) (hf:Tryz.pinned.checked.prog.funcNamed "framewise/framewiselaw13.UnifyNumbers" = some f) (hfn:Tryz.pinned.checked.prog.funcs[f]? = some fn) :
 true=Tryz.pinned.checked.prog.looks []∧∀ (j:Nat) t,fn.params[j]? = some t→Tryz.pinned.checked.prog.wantsStandIn t=false:=by
 obtain rfl:f=3:=Mx ((show Tryz.prog.funcNamed "framewise/framewiselaw13.UnifyNumbers" = some 3 by kernel_rfl).symm.trans hf) |>.symm;obtain rfl:fn=Tryz.f3:=(Mx (Tryz.func3.symm.trans hfn)).symm;refine ⟨by kernel_rfl,fun j t ht => ?_⟩;rw [Tryz.params3] at ht;have hm:=Array.mem_of_getElem? ht;simp only [List.mem_toArray,List.mem_cons,List.mem_nil_iff,or_false] at hm;rcases hm with rfl<;>exact (by kernel_rfl:Tryz.prog.wantsStandIn _=false)
theorem unifyNumbers_card:Rows.UnifyNumbersCardSaid :=
 Claim7.holds_tied_plain_at .later [] _ _ _ _ unifyNumbers_said (fun _ h=>by cases h) unifyNumbers_wf (fun _ h=>by cases h) unifyNumbers_row_tie rfl ⟨rfl,rfl⟩ (by kernel_rfl) rfl unifyNumbers_plain unifyNumbers_goes
end Go.Proofs.YtoebmibmmlcfiaaGreatDoor
