/- The statement ShapeEval: at whatever arguments the law framewiselaw11.ShapeEval returns true: Eval and Cells of the program and of the specification return the same, and the value of Cells is the product of the values of the dimensions. It holds with no further condition. By an AI agent. -/
import Derived.Test.YtjfpcjnopbfekaaGreatDoorBsShapeEval
import Derived.Test.YtjfpcjnopbfekaaGreatDoorFactsShapeEval
set_option linter.unusedSimpArgs false
set_option linter.unusedVariables false
namespace Go.Proofs.YtjfpcjnopbfekaaGreatDoor
open Go.RowKit Go.Ab Go.Sh Go.ChangeShapes Go.WideShapes Go.ChangeAt
theorem rdc9:Tryz.prog.cellsOf 9=1:=by kernel_rfl
theorem rdc3:Tryz.prog.cellsOf 3=1:=by kernel_rfl
theorem rdc44:Tryz.prog.cellsOf 44=2:=by kernel_rfl
theorem rd_Coef:Rd Tryz.prog 44 aq:=by intro H enc w base sp held fuel cs x h;obtain ⟨hl,n,hf⟩:=qU Tryz.underlying44 h;rw [rdc44] at hl;obtain ⟨z0,h0⟩:=hf 0 _ rfl;obtain ⟨y0,k0⟩:=(CW Tryz.underlying9) enc w base sp held n _ _ h0;obtain ⟨z1,h1⟩:=hf 1 _ rfl;obtain ⟨y1,k1⟩:=(C9 (k:=.i64) Tryz.underlying3) enc w base sp held n _ _ h1;refine ⟨⟨y0,y1⟩,?_⟩;exact DL.cons (o:=0) (s:=Tryz.prog.cellsOf 9) k0 rdc9.symm (by rw [rdc9];exact DL.cons (o:=1) (s:=Tryz.prog.cellsOf 3) k1 rdc3.symm (by rw [rdc3];exact DL.done hl))
theorem rdc37:Tryz.prog.cellsOf 37=1:=by kernel_rfl
theorem rdc39:Tryz.prog.cellsOf 39=2:=by kernel_rfl
theorem rd_Linear:Rd Tryz.prog 39 ah:=by intro H enc w base sp held fuel cs x h;obtain ⟨hl,n,hf⟩:=qU Tryz.underlying39 h;rw [rdc39] at hl;obtain ⟨z0,h0⟩:=hf 0 _ rfl;obtain ⟨y0,k0⟩:=(C9 (k:=.i64) Tryz.underlying3) enc w base sp held n _ _ h0;obtain ⟨z1,h1⟩:=hf 1 _ rfl;obtain ⟨y1,k1⟩:=(vZ ⟨[],0⟩ Tryz.underlying37 rdc44 (by decide) (fun _=>rfl) rd_Coef) enc w base sp held n _ _ h1;refine ⟨⟨y0,y1⟩,?_⟩;exact DL.cons (o:=0) (s:=Tryz.prog.cellsOf 3) k0 rdc3.symm (by rw [rdc3];exact DL.cons (o:=1) (s:=Tryz.prog.cellsOf 37) k1 rdc37.symm (by rw [rdc37];exact DL.done hl))
theorem rdc22:Tryz.prog.cellsOf 22=1:=by kernel_rfl
theorem rdc24:Tryz.prog.cellsOf 24=2:=by kernel_rfl
theorem rd_Shape:Rd Tryz.prog 24 zS:=by intro H enc w base sp held fuel cs x h;obtain ⟨hl,n,hf⟩:=qU Tryz.underlying24 h;rw [rdc24] at hl;obtain ⟨z0,h0⟩:=hf 0 _ rfl;obtain ⟨y0,k0⟩:=(CW Tryz.underlying9) enc w base sp held n _ _ h0;obtain ⟨z1,h1⟩:=hf 1 _ rfl;obtain ⟨y1,k1⟩:=(vZ ⟨0,[]⟩ Tryz.underlying22 rdc39 (by decide) (fun _=>rfl) rd_Linear) enc w base sp held n _ _ h1;refine ⟨⟨y0,y1⟩,?_⟩;exact DL.cons (o:=0) (s:=Tryz.prog.cellsOf 9) k0 rdc9.symm (by rw [rdc9];exact DL.cons (o:=1) (s:=Tryz.prog.cellsOf 22) k1 rdc22.symm (by rw [rdc22];exact DL.done hl))
theorem rdc48:Tryz.prog.cellsOf 48=2:=by kernel_rfl
theorem rd_Value:Rd Tryz.prog 48 aR:=by intro H enc w base sp held fuel cs x h;obtain ⟨hl,n,hf⟩:=qU Tryz.underlying48 h;rw [rdc48] at hl;obtain ⟨z0,h0⟩:=hf 0 _ rfl;obtain ⟨y0,k0⟩:=(CW Tryz.underlying9) enc w base sp held n _ _ h0;obtain ⟨z1,h1⟩:=hf 1 _ rfl;obtain ⟨y1,k1⟩:=(C9 (k:=.i64) Tryz.underlying3) enc w base sp held n _ _ h1;refine ⟨⟨y0,y1⟩,?_⟩;exact DL.cons (o:=0) (s:=Tryz.prog.cellsOf 9) k0 rdc9.symm (by rw [rdc9];exact DL.cons (o:=1) (s:=Tryz.prog.cellsOf 3) k1 rdc3.symm (by rw [rdc3];exact DL.done hl))
set_option maxRecDepth 100000 in
theorem shapeEval_contract (H:Type) (enc:TypeId×Go.Value→H) (W:World) (base:Nat) (args:Array Go.Value) (ds gs:List (DataW H)) (before:List MemPlace)
 (hval:∀ (j:Nat) t v,Tryz.f14.params[j]? = some t→args[j]? = some v→Value.okWide Tryz.prog W .any base t v)
 (hW:DataW.Whole enc Tryz.prog Tryz.f14.params.toList Rows.shapeEvalSpec.vars false W args.toList ds gs before) (hg:GP Tryz.prog W) :
 Calls Tryz.prog 14 args W fun e W'=>∃ v,e = .returned v∧Rows.shapeEvalSpec.post enc Tryz.prog Tryz.f14 false true false false W args v W':=by
 have hW':=hW;obtain ⟨p,q,hA0,hV,rfl,hfz,hnd⟩:=hW;have hA:DataW.TrodAll enc Tryz.prog W 0 (fun _=>true) true Tryz.f14.params.toList args.toList ds p:=hA0;rw [Tryz.params14] at hA hval;obtain ⟨v0,vs0,d0,ds0,p0,q0,hargs,rfl,rfl,h0,r0⟩:=trodAll_cons hA;obtain ⟨v1,J0,d1,ds1,p1,q1,rfl,rfl,rfl,h1,r1⟩:=trodAll_cons r0;obtain ⟨rfl,rfl,rfl⟩:=trodAll_nil r1;obtain rfl:args = #[v0,v1]:=by cases args;simp_all
 obtain ⟨rfl,rfl⟩:=trodVars_none hV;obtain ⟨x0,k0⟩:=xY Tryz.underlying24 rd_Shape (hval 0 24 v0 rfl rfl) h0;obtain ⟨_,_,_,e1⟩:=okWide_slice Tryz.underlying26 (hval 1 26 v1 rfl rfl);obtain ⟨x1,k1⟩:=C0 (vZ ⟨[],0⟩ Tryz.underlying26 rdc48 (by decide) (fun _=>rfl) rd_Value) (by rw [e1];rfl) h1;have hwalk:=EC (se x0 x1 true (yn x0 x1)) (W:=W) (vs:=[v0,v1]) rfl (fun i hi=>by
  match i,hi with
  | 0,_=>exact k0
  | 1,_=>exact k1
  ) (fun w hk=>IF hk hg)
 refine hwalk.mono fun e W' ⟨e1,hb⟩=>⟨_,e1,?_⟩;exact FP hW' hb laidOut (by rw [Tryz.params14];intro t ht;simp only [List.mem_cons,List.mem_nil_iff,or_false] at ht;rcases ht with rfl | rfl<;>exact ⟨by kernel_rfl,KT (by kernel_rfl)⟩) (tb:=4) (by kernel_rfl) Tryz.underlying4 rfl rfl
theorem shapeEval_reads (os:Os) {H:Type} (enc:TypeId×Go.Value→H):∃ places,DataW.whole enc Tryz.prog ((laidWorld os).forCall (fun _ _=>0) ⟨#[],#[(.agg #[.string ByteArray.empty,.slice none 0 0]),(.slice none 0 0)],[]⟩).memory Tryz.f14.params.toList Rows.shapeEvalSpec.vars false (#[(.agg #[.string ByteArray.empty,.slice none 0 0]),(.slice none 0 0)]:Array Go.Value).toList 8=some ([.agg [.lit (.string []),.nil],.nil],[],places) :=
 ⟨[],by kernel_rfl⟩
set_option maxRecDepth 100000 in
theorem shapeEval_lifted (os:Os) (started:os.Started) (H:Type) (enc:TypeId×Go.Value→H) (F:Stop.Interp) :
 ReturnsInHanded {} Tryz.checked os 14 .any ((OpenSpec.ofChange Rows.shapeEvalSpec).preRow enc Tryz.prog Tryz.f14 Rows.shapeEvalRow.domain false Rows.shapeEvalRow.laid) (((OpenSpec.ofChange Rows.shapeEvalSpec).at F).post enc Tryz.prog Tryz.f14 false true false false):=by
 obtain ⟨places,hx⟩:=shapeEval_reads os enc;refine returnsInHanded_of_row (C:=Tryz.checked) (s:=OpenSpec.ofChange Rows.shapeEvalSpec) JM started (by kernel_rfl) Tryz.func14
  (witness_row_at (enc:=enc) (C:=Tryz.checked) false (laidWorld os) #[(.agg #[.string ByteArray.empty,.slice none 0 0]),(.slice none 0 0)] rfl (by kernel_rfl) (by kernel_rfl) (by kernel_rfl)
   (OpenSpec.preRow_of_cond 8 hx (by kernel_rfl) (fun k hk=>by cases hk) (by kernel_rfl) (He os _))) ?_
 intro W base args ds gs before hval hW _ _ _ hL hsh _;exact shapeEval_contract H enc W base args ds gs before hval hW (Iv hL (by kernel_rfl) hsh)
theorem shapeEval_said:Rows.ShapeEvalSaid :=
 OpenClaim.holds_of_cond 14 Tryz.f14 rfl rfl rfl rfl rfl rfl rfl ⟨rfl,rfl,rfl,rfl,rfl⟩ rfl rfl rfl rfl rfl (by kernel_rfl) Tryz.func14 shapeEval_facts
  (KT (by kernel_rfl)) shapeEval_wrap
  (fun os started H enc _ F=>by rw [OpenClaim.pre_eq_preRow];exact shapeEval_lifted os started H enc F)
set_option maxRecDepth 100000 in
theorem shapeEval_plain (f:FuncId) (fn:Func) (hf:Tryz.pinned.checked.prog.funcNamed "framewise/framewiselaw11.ShapeEval" = some f) (hfn:Tryz.pinned.checked.prog.funcs[f]? = some fn) :
 true=Tryz.pinned.checked.prog.looks []∧∀ (j:Nat) t,fn.params[j]? = some t→Tryz.pinned.checked.prog.wantsStandIn t=false:=by
 obtain rfl:f=14:=K4 ((show Tryz.prog.funcNamed "framewise/framewiselaw11.ShapeEval" = some 14 by kernel_rfl).symm.trans hf) |>.symm;obtain rfl:fn=Tryz.f14:=(K4 (Tryz.func14.symm.trans hfn)).symm;refine ⟨by kernel_rfl,fun j t ht => ?_⟩;rw [Tryz.params14] at ht;have hm:=Array.mem_of_getElem? ht;simp only [List.mem_toArray,List.mem_cons,List.mem_nil_iff,or_false] at hm;rcases hm with rfl | rfl<;>exact (by kernel_rfl:Tryz.prog.wantsStandIn _=false)
theorem shapeEval_card:Rows.ShapeEvalCardSaid :=
 Claim7.holds_tied_plain_at .later [] _ _ _ _ shapeEval_said (fun _ h=>by cases h) shapeEval_wf (fun _ h=>by cases h) shapeEval_row_tie rfl ⟨rfl,rfl⟩ (by kernel_rfl) rfl shapeEval_plain shapeEval_goes
end Go.Proofs.YtjfpcjnopbfekaaGreatDoor
