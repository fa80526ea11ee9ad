/- The statement PolyValues: at whatever arguments the law framewiselaw05.PolyValues returns true: the values of sums, products, expressions and of what stands behind Subst are those that the parts have. It holds with no further condition. By an AI agent. -/
import Derived.Test.YtadjhpbkknifeaaGreatDoorBsPolyValues
import Derived.Test.YtadjhpbkknifeaaGreatDoorFactsPolyValues
set_option linter.unusedSimpArgs false
set_option linter.unusedVariables false
namespace Go.Proofs.YtadjhpbkknifeaaGreatDoor
open Go.RowKit Go.Ab Go.Sh Go.ChangeShapes Go.WideShapes Go.ChangeAt
theorem rdc3:Tryz.prog.cellsOf 3=1:=by kernel_rfl
theorem rdc9:Tryz.prog.cellsOf 9=1:=by kernel_rfl
theorem rdc49:Tryz.prog.cellsOf 49=1:=by kernel_rfl
theorem rdc67:Tryz.prog.cellsOf 67=2:=by kernel_rfl
theorem rd_Monomial:Rd Tryz.prog 67 ab:=by intro H enc w base sp held fuel cs x h;obtain ⟨hl,n,hf⟩:=si Tryz.underlying67 h;rw [rdc67] at hl;obtain ⟨z0,h0⟩:=hf 0 _ rfl;obtain ⟨y0,k0⟩:=(nz (k:=.i64) Tryz.underlying3) enc w base sp held n _ _ h0;obtain ⟨z1,h1⟩:=hf 1 _ rfl;obtain ⟨y1,k1⟩:=(rK [] Tryz.underlying49 rdc9 (by decide) (fun _=>rfl) (FW Tryz.underlying9)) enc w base sp held n _ _ h1;refine ⟨⟨y0,y1⟩,?_⟩;exact DL.cons (o:=0) (s:=Tryz.prog.cellsOf 3) k0 rdc3.symm (by rw [rdc3];exact DL.cons (o:=1) (s:=Tryz.prog.cellsOf 49) k1 rdc49.symm (by rw [rdc49];exact DL.done hl))
theorem rdc24:Tryz.prog.cellsOf 24=1:=by kernel_rfl
theorem rdc43:Tryz.prog.cellsOf 43=2:=by kernel_rfl
def rdE43 (x:((List aa)×(List aa))):List AV:=[.dslice (x.1.map ab),.dslice (x.2.map ab)]
theorem rdA2_24:Rd Tryz.prog 43 rdE43:=by intro H enc w base sp held fuel cs x h;obtain ⟨hl,n,hf⟩:=CL Tryz.underlying43 rdc24 h;rw [rdc43] at hl;obtain ⟨z0,h0⟩:=hf 0 (by decide);obtain ⟨y0,k0⟩:=(rK ⟨0,[]⟩ Tryz.underlying24 rdc67 (by decide) (fun _=>rfl) rd_Monomial) enc w base sp held n _ _ h0;obtain ⟨z1,h1⟩:=hf 1 (by decide);obtain ⟨y1,k1⟩:=(rK ⟨0,[]⟩ Tryz.underlying24 rdc67 (by decide) (fun _=>rfl) rd_Monomial) enc w base sp held n _ _ h1;refine ⟨(y0,y1),?_⟩;exact DL.cons (o:=0) (s:=1) k0 rfl (DL.cons (o:=1) (s:=1) k1 rfl (DL.done hl))
theorem rdc62:Tryz.prog.cellsOf 62=2:=by kernel_rfl
theorem rd_Coef:Rd Tryz.prog 62 aY:=by intro H enc w base sp held fuel cs x h;obtain ⟨hl,n,hf⟩:=si Tryz.underlying62 h;rw [rdc62] at hl;obtain ⟨z0,h0⟩:=hf 0 _ rfl;obtain ⟨y0,k0⟩:=(FW Tryz.underlying9) enc w base sp held n _ _ h0;obtain ⟨z1,h1⟩:=hf 1 _ rfl;obtain ⟨y1,k1⟩:=(nz (k:=.i64) Tryz.underlying3) enc w base sp held n _ _ h1;refine ⟨⟨y0,y1⟩,?_⟩;exact DL.cons (o:=0) (s:=Tryz.prog.cellsOf 9) k0 rdc9.symm (by rw [rdc9];exact DL.cons (o:=1) (s:=Tryz.prog.cellsOf 3) k1 rdc3.symm (by rw [rdc3];exact DL.done hl))
theorem rdc30:Tryz.prog.cellsOf 30=1:=by kernel_rfl
theorem rdc32:Tryz.prog.cellsOf 32=2:=by kernel_rfl
theorem rd_Linear:Rd Tryz.prog 32 fW:=by intro H enc w base sp held fuel cs x h;obtain ⟨hl,n,hf⟩:=si Tryz.underlying32 h;rw [rdc32] at hl;obtain ⟨z0,h0⟩:=hf 0 _ rfl;obtain ⟨y0,k0⟩:=(nz (k:=.i64) Tryz.underlying3) enc w base sp held n _ _ h0;obtain ⟨z1,h1⟩:=hf 1 _ rfl;obtain ⟨y1,k1⟩:=(rK ⟨[],0⟩ Tryz.underlying30 rdc62 (by decide) (fun _=>rfl) rd_Coef) enc w base sp held n _ _ h1;refine ⟨⟨y0,y1⟩,?_⟩;exact DL.cons (o:=0) (s:=Tryz.prog.cellsOf 3) k0 rdc3.symm (by rw [rdc3];exact DL.cons (o:=1) (s:=Tryz.prog.cellsOf 30) k1 rdc30.symm (by rw [rdc30];exact DL.done hl))
theorem rdc44:Tryz.prog.cellsOf 44=1:=by kernel_rfl
theorem rdc45:Tryz.prog.cellsOf 45=6:=by kernel_rfl
def rdE45 (x:(Int×Int×Int×Int×Int×Int)):List AV:=[.int .i8 x.1,.int .i8 x.2.1,.int .i8 x.2.2.1,.int .i8 x.2.2.2.1,.int .i8 x.2.2.2.2.1,.int .i8 x.2.2.2.2.2]
theorem rdA6_44:Rd Tryz.prog 45 rdE45:=by intro H enc w base sp held fuel cs x h;obtain ⟨hl,n,hf⟩:=CL Tryz.underlying45 rdc44 h;rw [rdc45] at hl;obtain ⟨z0,h0⟩:=hf 0 (by decide);obtain ⟨y0,k0⟩:=(nz (k:=.i8) Tryz.underlying44) enc w base sp held n _ _ h0;obtain ⟨z1,h1⟩:=hf 1 (by decide);obtain ⟨y1,k1⟩:=(nz (k:=.i8) Tryz.underlying44) enc w base sp held n _ _ h1;obtain ⟨z2,h2⟩:=hf 2 (by decide);obtain ⟨y2,k2⟩:=(nz (k:=.i8) Tryz.underlying44) enc w base sp held n _ _ h2;obtain ⟨z3,h3⟩:=hf 3 (by decide);obtain ⟨y3,k3⟩:=(nz (k:=.i8) Tryz.underlying44) enc w base sp held n _ _ h3;obtain ⟨z4,h4⟩:=hf 4 (by decide);obtain ⟨y4,k4⟩:=(nz (k:=.i8) Tryz.underlying44) enc w base sp held n _ _ h4;obtain ⟨z5,h5⟩:=hf 5 (by decide);obtain ⟨y5,k5⟩:=(nz (k:=.i8) Tryz.underlying44) enc w base sp held n _ _ h5;refine ⟨(y0,y1,y2,y3,y4,y5),?_⟩;exact DL.cons (o:=0) (s:=1) k0 rfl (DL.cons (o:=1) (s:=1) k1 rfl (DL.cons (o:=2) (s:=1) k2 rfl (DL.cons (o:=3) (s:=1) k3 rfl (DL.cons (o:=4) (s:=1) k4 rfl (DL.cons (o:=5) (s:=1) k5 rfl (DL.done hl))))))
set_option maxRecDepth 100000 in
theorem polyValues_contract (H:Type) (enc:TypeId×Go.Value→H) (W:World) (base:Nat) (args:Array Go.Value) (ds gs:List (DataW H)) (before:List MemPlace)
 (hval:∀ (j:Nat) t v,Tryz.f4.params[j]? = some t→args[j]? = some v→Value.okWide Tryz.prog W .any base t v)
 (hW:DataW.Whole enc Tryz.prog Tryz.f4.params.toList Rows.polyValuesSpec.vars false W args.toList ds gs before) (hg:GP Tryz.prog W) :
 Calls Tryz.prog 4 args W fun e W'=>∃ v,e = .returned v∧Rows.polyValuesSpec.post enc Tryz.prog Tryz.f4 false true false false W args v W':=by
 have hW':=hW;obtain ⟨p,q,hA0,hV,rfl,hfz,hnd⟩:=hW;have hA:DataW.TrodAll enc Tryz.prog W 0 (fun _=>true) true Tryz.f4.params.toList args.toList ds p:=hA0;rw [Tryz.params4] at hA hval;obtain ⟨v0,vs0,d0,ds0,p0,q0,hargs,rfl,rfl,h0,r0⟩:=trodAll_cons hA;obtain ⟨v1,Ju,d1,ds1,p1,q1,rfl,rfl,rfl,h1,r1⟩:=trodAll_cons r0;obtain ⟨v2,HD,d2,ds2,p2,q2,rfl,rfl,rfl,h2,r2⟩:=trodAll_cons r1;obtain ⟨rfl,rfl,rfl⟩:=trodAll_nil r2;obtain rfl:args = #[v0,v1,v2]:=by cases args;simp_all
 obtain ⟨rfl,rfl⟩:=trodVars_none hV;obtain ⟨x0,k0⟩:=wq Tryz.underlying43 rdA2_24 (hval 0 43 v0 rfl rfl) h0;obtain ⟨x1,k1⟩:=w5 Tryz.underlying32 rd_Linear (hval 1 32 v1 rfl rfl) h1;obtain ⟨x2,k2⟩:=wq Tryz.underlying45 rdA6_44 (hval 2 45 v2 rfl rfl) h2;have hwalk:=DY (qe x0 x1 x2 true (vq x0 x1 x2)) (W:=W) (vs:=[v0,v1,v2]) rfl (fun i hi=>by
  match i,hi with
  | 0,_=>exact k0
  | 1,_=>exact k1
  | 2,_=>exact k2
  ) (fun w hk=>HM hk hg)
 refine hwalk.mono fun e W' ⟨e1,hb⟩=>⟨_,e1,?_⟩;exact Fj hW' hb laidOut (by rw [Tryz.params4];intro t ht;simp only [List.mem_cons,List.mem_nil_iff,or_false] at ht;rcases ht with rfl | rfl | rfl<;>exact ⟨by kernel_rfl,KM (by kernel_rfl)⟩) (tb:=4) (by kernel_rfl) Tryz.underlying4 rfl rfl
theorem polyValues_reads (os:Os) {H:Type} (enc:TypeId×Go.Value→H):∃ places,DataW.whole enc Tryz.prog ((laidWorld os).forCall (fun _ _=>0) ⟨#[],#[(.agg #[.slice none 0 0,.slice none 0 0]),(.agg #[.int .i64 0,.slice none 0 0]),(.agg #[.int .i8 0,.int .i8 0,.int .i8 0,.int .i8 0,.int .i8 0,.int .i8 0])],[]⟩).memory Tryz.f4.params.toList Rows.polyValuesSpec.vars false (#[(.agg #[.slice none 0 0,.slice none 0 0]),(.agg #[.int .i64 0,.slice none 0 0]),(.agg #[.int .i8 0,.int .i8 0,.int .i8 0,.int .i8 0,.int .i8 0,.int .i8 0])]:Array Go.Value).toList 8=some ([.agg [.nil,.nil],.agg [.lit (.int .i64 0),.nil],.agg [.lit (.int .i8 0),.lit (.int .i8 0),.lit (.int .i8 0),.lit (.int .i8 0),.lit (.int .i8 0),.lit (.int .i8 0)]],[],places) :=
 ⟨[],by kernel_rfl⟩
set_option maxRecDepth 100000 in
theorem polyValues_lifted (os:Os) (started:os.Started) (H:Type) (enc:TypeId×Go.Value→H) (F:Stop.Interp) :
 ReturnsInHanded {} Tryz.checked os 4 .any ((OpenSpec.ofChange Rows.polyValuesSpec).preRow enc Tryz.prog Tryz.f4 Rows.polyValuesRow.domain false Rows.polyValuesRow.laid) (((OpenSpec.ofChange Rows.polyValuesSpec).at F).post enc Tryz.prog Tryz.f4 false true false false):=by
 obtain ⟨places,hx⟩:=polyValues_reads os enc;refine returnsInHanded_of_row (C:=Tryz.checked) (s:=OpenSpec.ofChange Rows.polyValuesSpec) IZ started (by kernel_rfl) Tryz.func4
  (witness_row_at (enc:=enc) (C:=Tryz.checked) false (laidWorld os) #[(.agg #[.slice none 0 0,.slice none 0 0]),(.agg #[.int .i64 0,.slice none 0 0]),(.agg #[.int .i8 0,.int .i8 0,.int .i8 0,.int .i8 0,.int .i8 0,.int .i8 0])] rfl (by kernel_rfl) (by kernel_rfl) (by kernel_rfl)
   (OpenSpec.preRow_of_cond 8 hx (by kernel_rfl) (fun k hk=>by cases hk) (by kernel_rfl) (FK os _))) ?_
 intro W base args ds gs before hval hW _ _ _ hL hsh _;exact polyValues_contract H enc W base args ds gs before hval hW (Ia hL (by kernel_rfl) hsh)
theorem polyValues_said:Rows.PolyValuesSaid :=
 OpenClaim.holds_of_cond 4 Tryz.f4 rfl rfl rfl rfl rfl rfl rfl ⟨rfl,rfl,rfl,rfl,rfl⟩ rfl rfl rfl rfl rfl (by kernel_rfl) Tryz.func4 polyValues_facts
  (KM (by kernel_rfl)) polyValues_wrap
  (fun os started H enc _ F=>by rw [OpenClaim.pre_eq_preRow];exact polyValues_lifted os started H enc F)
set_option maxRecDepth 100000 in
theorem polyValues_plain (f:FuncId) (fn:Func) (hf:Tryz.pinned.checked.prog.funcNamed "framewise/framewiselaw05.PolyValues" = some f) (hfn:Tryz.pinned.checked.prog.funcs[f]? = some fn) :
 true=Tryz.pinned.checked.prog.looks []∧∀ (j:Nat) t,fn.params[j]? = some t→Tryz.pinned.checked.prog.wantsStandIn t=false:=by
 obtain rfl:f=4:=KT ((show Tryz.prog.funcNamed "framewise/framewiselaw05.PolyValues" = some 4 by kernel_rfl).symm.trans hf) |>.symm;obtain rfl:fn=Tryz.f4:=(KT (Tryz.func4.symm.trans hfn)).symm;refine ⟨by kernel_rfl,fun j t ht => ?_⟩;rw [Tryz.params4] at ht;have hm:=Array.mem_of_getElem? ht;simp only [List.mem_toArray,List.mem_cons,List.mem_nil_iff,or_false] at hm;rcases hm with rfl | rfl | rfl<;>exact (by kernel_rfl:Tryz.prog.wantsStandIn _=false)
theorem polyValues_card:Rows.PolyValuesCardSaid :=
 Claim7.holds_tied_plain_at .later [] _ _ _ _ polyValues_said (fun _ h=>by cases h) polyValues_wf (fun _ h=>by cases h) polyValues_row_tie rfl ⟨rfl,rfl⟩ (by kernel_rfl) rfl polyValues_plain polyValues_goes
end Go.Proofs.YtadjhpbkknifeaaGreatDoor
