/- The statement UnifyApply: at whatever arguments the law framewiselaw13.UnifyApply returns true: Apply gives what the specification's substitution gives, for a type and bindings with few parts, and Solves says of pairs of types and bindings what the specification says. It holds with no further condition. By an AI agent. -/
import Derived.Test.YtoebmibmmlcfiaaGreatDoorBsUnifyApply
import Derived.Test.YtoebmibmmlcfiaaGreatDoorFactsUnifyApply
set_option linter.unusedSimpArgs false
set_option linter.unusedVariables false
namespace Go.Proofs.YtoebmibmmlcfiaaGreatDoor
open Go.RowKit Go.Ab Go.Sh Go.ChangeShapes Go.WideShapes Go.ChangeAt
theorem rdc9:Tryz.prog.cellsOf 9=1:=by kernel_rfl
theorem rdc3:Tryz.prog.cellsOf 3=1:=by kernel_rfl
theorem rdc31:Tryz.prog.cellsOf 31=2:=by kernel_rfl
theorem rd_Coef:Rd Tryz.prog 31 ai:=by intro H enc w base sp held fuel cs x h;obtain ⟨hl,n,hf⟩:=kG Tryz.underlying31 h;rw [rdc31] at hl;obtain ⟨z0,h0⟩:=hf 0 _ rfl;obtain ⟨y0,k0⟩:=(vl Tryz.underlying9) enc w base sp held n _ _ h0;obtain ⟨z1,h1⟩:=hf 1 _ rfl;obtain ⟨y1,k1⟩:=(AJ (k:=.i64) Tryz.underlying3) enc w base sp held n _ _ h1;refine ⟨⟨y0,y1⟩,?_⟩;exact DL.cons (o:=0) (s:=Tryz.prog.cellsOf 9) k0 rdc9.symm (by rw [rdc9];exact DL.cons (o:=1) (s:=Tryz.prog.cellsOf 3) k1 rdc3.symm (by rw [rdc3];exact DL.done hl))
theorem rdc27:Tryz.prog.cellsOf 27=1:=by kernel_rfl
theorem rdc29:Tryz.prog.cellsOf 29=2:=by kernel_rfl
theorem rd_Linear:Rd Tryz.prog 29 ae:=by intro H enc w base sp held fuel cs x h;obtain ⟨hl,n,hf⟩:=kG Tryz.underlying29 h;rw [rdc29] at hl;obtain ⟨z0,h0⟩:=hf 0 _ rfl;obtain ⟨y0,k0⟩:=(AJ (k:=.i64) Tryz.underlying3) enc w base sp held n _ _ h0;obtain ⟨z1,h1⟩:=hf 1 _ rfl;obtain ⟨y1,k1⟩:=(rS aw Tryz.underlying27 rdc31 (by decide) (fun _=>rfl) rd_Coef) enc w base sp held n _ _ h1;refine ⟨⟨y0,y1⟩,?_⟩;exact DL.cons (o:=0) (s:=Tryz.prog.cellsOf 3) k0 rdc3.symm (by rw [rdc3];exact DL.cons (o:=1) (s:=Tryz.prog.cellsOf 27) k1 rdc27.symm (by rw [rdc27];exact DL.done hl))
theorem rdc32:Tryz.prog.cellsOf 32=1:=by kernel_rfl
theorem rdc34:Tryz.prog.cellsOf 34=2:=by kernel_rfl
theorem rd_Shape:Rd Tryz.prog 34 aY:=by intro H enc w base sp held fuel cs x h;obtain ⟨hl,n,hf⟩:=kG Tryz.underlying34 h;rw [rdc34] at hl;obtain ⟨z0,h0⟩:=hf 0 _ rfl;obtain ⟨y0,k0⟩:=(vl Tryz.underlying9) enc w base sp held n _ _ h0;obtain ⟨z1,h1⟩:=hf 1 _ rfl;obtain ⟨y1,k1⟩:=(rS ax Tryz.underlying32 rdc29 (by decide) (fun _=>rfl) rd_Linear) enc w base sp held n _ _ h1;refine ⟨⟨y0,y1⟩,?_⟩;exact DL.cons (o:=0) (s:=Tryz.prog.cellsOf 9) k0 rdc9.symm (by rw [rdc9];exact DL.cons (o:=1) (s:=Tryz.prog.cellsOf 32) k1 rdc32.symm (by rw [rdc32];exact DL.done hl))
theorem rdc36:Tryz.prog.cellsOf 36=3:=by kernel_rfl
theorem rd_Typ:Rd Tryz.prog 36 vn:=by intro H enc w base sp held fuel cs x h;obtain ⟨hl,n,hf⟩:=kG Tryz.underlying36 h;rw [rdc36] at hl;obtain ⟨z0,h0⟩:=hf 0 _ rfl;obtain ⟨y0,k0⟩:=(vl Tryz.underlying9) enc w base sp held n _ _ h0;obtain ⟨z1,h1⟩:=hf 1 _ rfl;obtain ⟨y1,k1⟩:=rd_Shape enc w base sp held n _ _ h1;refine ⟨⟨y0,y1⟩,?_⟩;exact DL.cons (o:=0) (s:=Tryz.prog.cellsOf 9) k0 rdc9.symm (by rw [rdc9];exact DL.cons (o:=1) (s:=Tryz.prog.cellsOf 34) k1 rdc34.symm (by rw [rdc34];exact DL.done hl))
theorem rdc82:Tryz.prog.cellsOf 82=6:=by kernel_rfl
theorem rd_Framewiseref13_Pair:Rd Tryz.prog 82 ag:=by intro H enc w base sp held fuel cs x h;obtain ⟨hl,n,hf⟩:=kG Tryz.underlying82 h;rw [rdc82] at hl;obtain ⟨z0,h0⟩:=hf 0 _ rfl;obtain ⟨y0,k0⟩:=rd_Typ enc w base sp held n _ _ h0;obtain ⟨z1,h1⟩:=hf 1 _ rfl;obtain ⟨y1,k1⟩:=rd_Typ enc w base sp held n _ _ h1;refine ⟨⟨y0,y1⟩,?_⟩;exact DL.cons (o:=0) (s:=Tryz.prog.cellsOf 36) k0 rdc36.symm (by rw [rdc36];exact DL.cons (o:=3) (s:=Tryz.prog.cellsOf 36) k1 rdc36.symm (by rw [rdc36];exact DL.done hl))
theorem rdc62:Tryz.prog.cellsOf 62=7:=by kernel_rfl
theorem rd_Bind:Rd Tryz.prog 62 al:=by intro H enc w base sp held fuel cs x h;obtain ⟨hl,n,hf⟩:=kG Tryz.underlying62 h;rw [rdc62] at hl;obtain ⟨z0,h0⟩:=hf 0 _ rfl;obtain ⟨y0,k0⟩:=(AJ (k:=.i64) Tryz.underlying3) enc w base sp held n _ _ h0;obtain ⟨z1,h1⟩:=hf 1 _ rfl;obtain ⟨y1,k1⟩:=(vl Tryz.underlying9) enc w base sp held n _ _ h1;obtain ⟨z2,h2⟩:=hf 2 _ rfl;obtain ⟨y2,k2⟩:=rd_Linear enc w base sp held n _ _ h2;obtain ⟨z3,h3⟩:=hf 3 _ rfl;obtain ⟨y3,k3⟩:=rd_Shape enc w base sp held n _ _ h3;obtain ⟨z4,h4⟩:=hf 4 _ rfl;obtain ⟨y4,k4⟩:=(vl Tryz.underlying9) enc w base sp held n _ _ h4;refine ⟨⟨y0,y1,y2,y3,y4⟩,?_⟩;exact DL.cons (o:=0) (s:=Tryz.prog.cellsOf 3) k0 rdc3.symm (by rw [rdc3];exact DL.cons (o:=1) (s:=Tryz.prog.cellsOf 9) k1 rdc9.symm (by rw [rdc9];exact DL.cons (o:=2) (s:=Tryz.prog.cellsOf 29) k2 rdc29.symm (by rw [rdc29];exact DL.cons (o:=4) (s:=Tryz.prog.cellsOf 34) k3 rdc34.symm (by rw [rdc34];exact DL.cons (o:=6) (s:=Tryz.prog.cellsOf 9) k4 rdc9.symm (by rw [rdc9];exact DL.done hl)))))
set_option maxRecDepth 100000 in
theorem unifyApply_contract (H:Type) (enc:TypeId×Go.Value→H) (W:World) (base:Nat) (args:Array Go.Value) (ds gs:List (DataW H)) (before:List MemPlace)
 (hval:∀ (j:Nat) t v,Tryz.f4.params[j]? = some t→args[j]? = some v→Value.okWide Tryz.prog W .any base t v)
 (hW:DataW.Whole enc Tryz.prog Tryz.f4.params.toList Rows.unifyApplySpec.vars false W args.toList ds gs before) (hg:GP Tryz.prog W) :
 Calls Tryz.prog 4 args W fun e W'=>∃ v,e = .returned v∧Rows.unifyApplySpec.post enc Tryz.prog Tryz.f4 false true false false W args v W':=by
 have hW':=hW;obtain ⟨p,q,hA0,hV,rfl,hfz,hnd⟩:=hW;have hA:DataW.TrodAll enc Tryz.prog W 0 (fun _=>true) true Tryz.f4.params.toList args.toList ds p:=hA0;rw [Tryz.params4] at hA hval;obtain ⟨v0,vs0,d0,ds0,p0,q0,hargs,rfl,rfl,h0,r0⟩:=trodAll_cons hA;obtain ⟨v1,GZ,d1,ds1,p1,q1,rfl,rfl,rfl,h1,r1⟩:=trodAll_cons r0;obtain ⟨v2,FI,d2,ds2,p2,q2,rfl,rfl,rfl,h2,r2⟩:=trodAll_cons r1;obtain ⟨rfl,rfl,rfl⟩:=trodAll_nil r2;obtain rfl:args = #[v0,v1,v2]:=by cases args;simp_all
 obtain ⟨rfl,rfl⟩:=trodVars_none hV;obtain ⟨x0,k0⟩:=wA Tryz.underlying36 rd_Typ (hval 0 36 v0 rfl rfl) h0;obtain ⟨_,_,_,e1⟩:=okWide_slice Tryz.underlying49 (hval 1 49 v1 rfl rfl);obtain ⟨x1,k1⟩:=uZ (rS aa Tryz.underlying49 rdc82 (by decide) (fun _=>rfl) rd_Framewiseref13_Pair) (by rw [e1];rfl) h1;obtain ⟨_,_,_,e2⟩:=okWide_slice Tryz.underlying45 (hval 2 45 v2 rfl rfl);obtain ⟨x2,k2⟩:=uZ (rS ak Tryz.underlying45 rdc62 (by decide) (fun _=>rfl) rd_Bind) (by rw [e2];rfl) h2;have hwalk:=Cj (rB x0 x1 x2 true (CX x0 x1 x2)) (W:=W) (vs:=[v0,v1,v2]) rfl (fun i hi=>by
  match i,hi with
  | 0,_=>exact k0
  | 1,_=>exact k1
  | 2,_=>exact k2
  ) (fun w hk=>ES hk hg)
 refine hwalk.mono fun e W' ⟨e1,hb⟩=>⟨_,e1,?_⟩;exact Ez hW' hb laidOut (by rw [Tryz.params4];intro t ht;simp only [List.mem_cons,List.mem_nil_iff,or_false] at ht;rcases ht with rfl | rfl | rfl<;>exact ⟨by kernel_rfl,Hm (by kernel_rfl)⟩) (tb:=4) (by kernel_rfl) Tryz.underlying4 rfl rfl
theorem unifyApply_reads (os:Os) {H:Type} (enc:TypeId×Go.Value→H):∃ places,DataW.whole enc Tryz.prog ((laidWorld os).forCall (fun _ _=>0) ⟨#[],#[(.agg #[.string ByteArray.empty,.string ByteArray.empty,.slice none 0 0]),(.slice none 0 0),(.slice none 0 0)],[]⟩).memory Tryz.f4.params.toList Rows.unifyApplySpec.vars false (#[(.agg #[.string ByteArray.empty,.string ByteArray.empty,.slice none 0 0]),(.slice none 0 0),(.slice none 0 0)]:Array Go.Value).toList 8=some ([.agg [.lit (.string []),.agg [.lit (.string []),.nil]],.nil,.nil],[],places) :=
 ⟨[],by kernel_rfl⟩
set_option maxRecDepth 100000 in
theorem unifyApply_lifted (os:Os) (started:os.Started) (H:Type) (enc:TypeId×Go.Value→H) (F:Stop.Interp) :
 ReturnsInHanded {} Tryz.checked os 4 .any ((OpenSpec.ofChange Rows.unifyApplySpec).preRow enc Tryz.prog Tryz.f4 Rows.unifyApplyRow.domain false Rows.unifyApplyRow.laid) (((OpenSpec.ofChange Rows.unifyApplySpec).at F).post enc Tryz.prog Tryz.f4 false true false false):=by
 obtain ⟨places,hx⟩:=unifyApply_reads os enc;refine returnsInHanded_of_row (C:=Tryz.checked) (s:=OpenSpec.ofChange Rows.unifyApplySpec) Ga started (by kernel_rfl) Tryz.func4
  (witness_row_at (enc:=enc) (C:=Tryz.checked) false (laidWorld os) #[(.agg #[.string ByteArray.empty,.string ByteArray.empty,.slice none 0 0]),(.slice none 0 0),(.slice none 0 0)] rfl (by kernel_rfl) (by kernel_rfl) (by kernel_rfl)
   (OpenSpec.preRow_of_cond 8 hx (by kernel_rfl) (fun k hk=>by cases hk) (by kernel_rfl) (Dg os _))) ?_
 intro W base args ds gs before hval hW _ _ _ hL hsh _;exact unifyApply_contract H enc W base args ds gs before hval hW (EV hL (by kernel_rfl) hsh)
theorem unifyApply_said:Rows.UnifyApplySaid :=
 OpenClaim.holds_of_cond 4 Tryz.f4 rfl rfl rfl rfl rfl rfl rfl ⟨rfl,rfl,rfl,rfl,rfl⟩ rfl rfl rfl rfl rfl (by kernel_rfl) Tryz.func4 unifyApply_facts
  (Hm (by kernel_rfl)) unifyApply_wrap
  (fun os started H enc _ F=>by rw [OpenClaim.pre_eq_preRow];exact unifyApply_lifted os started H enc F)
set_option maxRecDepth 100000 in
theorem unifyApply_plain (f:FuncId) (fn:Func) (hf:Tryz.pinned.checked.prog.funcNamed "framewise/framewiselaw13.UnifyApply" = some f) (hfn:Tryz.pinned.checked.prog.funcs[f]? = some fn) :
 true=Tryz.pinned.checked.prog.looks []∧∀ (j:Nat) t,fn.params[j]? = some t→Tryz.pinned.checked.prog.wantsStandIn t=false:=by
 obtain rfl:f=4:=Ht ((show Tryz.prog.funcNamed "framewise/framewiselaw13.UnifyApply" = some 4 by kernel_rfl).symm.trans hf) |>.symm;obtain rfl:fn=Tryz.f4:=(Ht (Tryz.func4.symm.trans hfn)).symm;refine ⟨by kernel_rfl,fun j t ht => ?_⟩;rw [Tryz.params4] at ht;have hm:=Array.mem_of_getElem? ht;simp only [List.mem_toArray,List.mem_cons,List.mem_nil_iff,or_false] at hm;rcases hm with rfl | rfl | rfl<;>exact (by kernel_rfl:Tryz.prog.wantsStandIn _=false)
theorem unifyApply_card:Rows.UnifyApplyCardSaid :=
 Claim7.holds_tied_plain_at .later [] _ _ _ _ unifyApply_said (fun _ h=>by cases h) unifyApply_wf (fun _ h=>by cases h) unifyApply_row_tie rfl ⟨rfl,rfl⟩ (by kernel_rfl) rfl unifyApply_plain unifyApply_goes
end Go.Proofs.YtoebmibmmlcfiaaGreatDoor
