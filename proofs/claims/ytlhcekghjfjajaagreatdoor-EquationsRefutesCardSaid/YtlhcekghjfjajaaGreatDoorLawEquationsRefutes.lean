/- The statement EquationsRefutes: at whatever arguments the law framewiselaw06.EquationsRefutes returns true: no values satisfy a system with a refutation that Check accepts, or one for which Solve returns ErrNone; and at up to four expressions with numbers of at most 9, ErrNone comes with a refutation that Check accepts. It holds with no further condition. By an AI agent. -/
import Derived.Test.YtlhcekghjfjajaaGreatDoorBsEquationsRefutes
import Derived.Test.YtlhcekghjfjajaaGreatDoorFactsEquationsRefutes
set_option linter.unusedSimpArgs false
set_option linter.unusedVariables false
namespace Go.Proofs.YtlhcekghjfjajaaGreatDoor
open Go.RowKit Go.Ab Go.Sh Go.ChangeShapes Go.WideShapes Go.ChangeAt
theorem rdc3:Tryz.prog.cellsOf 3=1:=by kernel_rfl
theorem rdc9:Tryz.prog.cellsOf 9=1:=by kernel_rfl
theorem rdc88:Tryz.prog.cellsOf 88=2:=by kernel_rfl
theorem rd_Coef:Rd Tryz.prog 88 ao:=by intro H enc w base sp held fuel cs x h;obtain ⟨hl,n,hf⟩:=qD Tryz.underlying88 h;rw [rdc88] at hl;obtain ⟨z0,h0⟩:=hf 0 _ rfl;obtain ⟨y0,k0⟩:=(GU Tryz.underlying9) enc w base sp held n _ _ h0;obtain ⟨z1,h1⟩:=hf 1 _ rfl;obtain ⟨y1,k1⟩:=(vI (k:=.i64) Tryz.underlying3) enc w base sp held n _ _ h1;refine ⟨⟨y0,y1⟩,?_⟩;exact DL.cons (o:=0) (s:=Tryz.prog.cellsOf 9) k0 rdc9.symm (by rw [rdc9];exact DL.cons (o:=1) (s:=Tryz.prog.cellsOf 3) k1 rdc3.symm (by rw [rdc3];exact DL.done hl))
theorem rdc32:Tryz.prog.cellsOf 32=1:=by kernel_rfl
theorem rdc34:Tryz.prog.cellsOf 34=2:=by kernel_rfl
theorem rd_Linear:Rd Tryz.prog 34 ak:=by intro H enc w base sp held fuel cs x h;obtain ⟨hl,n,hf⟩:=qD Tryz.underlying34 h;rw [rdc34] at hl;obtain ⟨z0,h0⟩:=hf 0 _ rfl;obtain ⟨y0,k0⟩:=(vI (k:=.i64) Tryz.underlying3) enc w base sp held n _ _ h0;obtain ⟨z1,h1⟩:=hf 1 _ rfl;obtain ⟨y1,k1⟩:=(rV ay Tryz.underlying32 rdc88 (by decide) (fun _=>rfl) rd_Coef) enc w base sp held n _ _ h1;refine ⟨⟨y0,y1⟩,?_⟩;exact DL.cons (o:=0) (s:=Tryz.prog.cellsOf 3) k0 rdc3.symm (by rw [rdc3];exact DL.cons (o:=1) (s:=Tryz.prog.cellsOf 32) k1 rdc32.symm (by rw [rdc32];exact DL.done hl))
theorem rdc26:Tryz.prog.cellsOf 26=1:=by kernel_rfl
theorem rdc53:Tryz.prog.cellsOf 53=2:=by kernel_rfl
theorem rd_Framewiseref06_Refutation:Rd Tryz.prog 53 da:=by intro H enc w base sp held fuel cs x h;obtain ⟨hl,n,hf⟩:=qD Tryz.underlying53 h;rw [rdc53] at hl;obtain ⟨z0,h0⟩:=hf 0 _ rfl;obtain ⟨y0,k0⟩:=(rV 0 Tryz.underlying26 rdc3 (by decide) (fun _=>rfl) (vI (k:=.i64) Tryz.underlying3)) enc w base sp held n _ _ h0;obtain ⟨z1,h1⟩:=hf 1 _ rfl;obtain ⟨y1,k1⟩:=(vI (k:=.i64) Tryz.underlying3) enc w base sp held n _ _ h1;refine ⟨⟨y0,y1⟩,?_⟩;exact DL.cons (o:=0) (s:=Tryz.prog.cellsOf 26) k0 rdc26.symm (by rw [rdc26];exact DL.cons (o:=1) (s:=Tryz.prog.cellsOf 3) k1 rdc3.symm (by rw [rdc3];exact DL.done hl))
theorem rdc49:Tryz.prog.cellsOf 49=2:=by kernel_rfl
theorem rd_Value:Rd Tryz.prog 49 ff:=by intro H enc w base sp held fuel cs x h;obtain ⟨hl,n,hf⟩:=qD Tryz.underlying49 h;rw [rdc49] at hl;obtain ⟨z0,h0⟩:=hf 0 _ rfl;obtain ⟨y0,k0⟩:=(GU Tryz.underlying9) enc w base sp held n _ _ h0;obtain ⟨z1,h1⟩:=hf 1 _ rfl;obtain ⟨y1,k1⟩:=(vI (k:=.i64) Tryz.underlying3) enc w base sp held n _ _ h1;refine ⟨⟨y0,y1⟩,?_⟩;exact DL.cons (o:=0) (s:=Tryz.prog.cellsOf 9) k0 rdc9.symm (by rw [rdc9];exact DL.cons (o:=1) (s:=Tryz.prog.cellsOf 3) k1 rdc3.symm (by rw [rdc3];exact DL.done hl))
set_option maxRecDepth 100000 in
theorem equationsRefutes_contract (H:Type) (enc:TypeId×Go.Value→H) (W:World) (base:Nat) (args:Array Go.Value) (ds gs:List (DataW H)) (before:List MemPlace)
 (hval:∀ (j:Nat) t v,Tryz.f5.params[j]? = some t→args[j]? = some v→Value.okWide Tryz.prog W .any base t v)
 (hW:DataW.Whole enc Tryz.prog Tryz.f5.params.toList Rows.equationsRefutesSpec.vars false W args.toList ds gs before) (hg:GP Tryz.prog W) :
 Calls Tryz.prog 5 args W fun e W'=>∃ v,e = .returned v∧Rows.equationsRefutesSpec.post enc Tryz.prog Tryz.f5 false true false false W args v W':=by
 have hW':=hW;obtain ⟨p,q,hA0,hV,rfl,hfz,hnd⟩:=hW;have hA:DataW.TrodAll enc Tryz.prog W 0 (fun _=>true) true Tryz.f5.params.toList args.toList ds p:=hA0;rw [Tryz.params5] at hA hval;obtain ⟨v0,vs0,d0,ds0,p0,q0,hargs,rfl,rfl,h0,r0⟩:=trodAll_cons hA;obtain ⟨v1,K7,d1,ds1,p1,q1,rfl,rfl,rfl,h1,r1⟩:=trodAll_cons r0;obtain ⟨v2,KQ,d2,ds2,p2,q2,rfl,rfl,rfl,h2,r2⟩:=trodAll_cons r1;obtain ⟨rfl,rfl,rfl⟩:=trodAll_nil r2;obtain rfl:args = #[v0,v1,v2]:=by cases args;simp_all
 obtain ⟨rfl,rfl⟩:=trodVars_none hV;obtain ⟨_,_,_,e0⟩:=okWide_slice Tryz.underlying22 (hval 0 22 v0 rfl rfl);obtain ⟨x0,k0⟩:=uJ (rV az Tryz.underlying22 rdc34 (by decide) (fun _=>rfl) rd_Linear) (by rw [e0];rfl) h0;obtain ⟨x1,k1⟩:=xf Tryz.underlying53 rd_Framewiseref06_Refutation (hval 1 53 v1 rfl rfl) h1;obtain ⟨_,_,_,e2⟩:=okWide_slice Tryz.underlying46 (hval 2 46 v2 rfl rfl);obtain ⟨x2,k2⟩:=uJ (rV kl Tryz.underlying46 rdc49 (by decide) (fun _=>rfl) rd_Value) (by rw [e2];rfl) h2;have hwalk:=Ea (mU x0 x1 x2 true (A7 x0 x1 x2)) (W:=W) (vs:=[v0,v1,v2]) rfl (fun i hi=>by
  match i,hi with
  | 0,_=>exact k0
  | 1,_=>exact k1
  | 2,_=>exact k2
  ) (fun w hk=>HC hk hg)
 refine hwalk.mono fun e W' ⟨e1,hb⟩=>⟨_,e1,?_⟩;exact GQ hW' hb laidOut (by rw [Tryz.params5];intro t ht;simp only [List.mem_cons,List.mem_nil_iff,or_false] at ht;rcases ht with rfl | rfl | rfl<;>exact ⟨by kernel_rfl,LF (by kernel_rfl)⟩) (tb:=4) (by kernel_rfl) Tryz.underlying4 rfl rfl
theorem equationsRefutes_reads (os:Os) {H:Type} (enc:TypeId×Go.Value→H):∃ places,DataW.whole enc Tryz.prog ((laidWorld os).forCall (fun _ _=>0) ⟨#[],#[(.slice none 0 0),(.agg #[.slice none 0 0,.int .i64 0]),(.slice none 0 0)],[]⟩).memory Tryz.f5.params.toList Rows.equationsRefutesSpec.vars false (#[(.slice none 0 0),(.agg #[.slice none 0 0,.int .i64 0]),(.slice none 0 0)]:Array Go.Value).toList 8=some ([.nil,.agg [.nil,.lit (.int .i64 0)],.nil],[],places) :=
 ⟨[],by kernel_rfl⟩
set_option maxRecDepth 100000 in
theorem equationsRefutes_lifted (os:Os) (started:os.Started) (H:Type) (enc:TypeId×Go.Value→H) (F:Stop.Interp) :
 ReturnsInHanded {} Tryz.checked os 5 .any ((OpenSpec.ofChange Rows.equationsRefutesSpec).preRow enc Tryz.prog Tryz.f5 Rows.equationsRefutesRow.domain false Rows.equationsRefutesRow.laid) (((OpenSpec.ofChange Rows.equationsRefutesSpec).at F).post enc Tryz.prog Tryz.f5 false true false false):=by
 obtain ⟨places,hx⟩:=equationsRefutes_reads os enc;refine returnsInHanded_of_row (C:=Tryz.checked) (s:=OpenSpec.ofChange Rows.equationsRefutesSpec) Jm started (by kernel_rfl) Tryz.func5
  (witness_row_at (enc:=enc) (C:=Tryz.checked) false (laidWorld os) #[(.slice none 0 0),(.agg #[.slice none 0 0,.int .i64 0]),(.slice none 0 0)] rfl (by kernel_rfl) (by kernel_rfl) (by kernel_rfl)
   (OpenSpec.preRow_of_cond 8 hx (by kernel_rfl) (fun k hk=>by cases hk) (by kernel_rfl) (FN os _))) ?_
 intro W base args ds gs before hval hW _ _ _ hL hsh _;exact equationsRefutes_contract H enc W base args ds gs before hval hW (HL hL (by kernel_rfl) hsh)
theorem equationsRefutes_said:Rows.EquationsRefutesSaid :=
 OpenClaim.holds_of_cond 5 Tryz.f5 rfl rfl rfl rfl rfl rfl rfl ⟨rfl,rfl,rfl,rfl,rfl⟩ rfl rfl rfl rfl rfl (by kernel_rfl) Tryz.func5 equationsRefutes_facts
  (LF (by kernel_rfl)) equationsRefutes_wrap
  (fun os started H enc _ F=>by rw [OpenClaim.pre_eq_preRow];exact equationsRefutes_lifted os started H enc F)
set_option maxRecDepth 100000 in
theorem equationsRefutes_plain (f:FuncId) (fn:Func) (hf:Tryz.pinned.checked.prog.funcNamed "framewise/framewiselaw06.EquationsRefutes" = some f) (hfn:Tryz.pinned.checked.prog.funcs[f]? = some fn) :
 true=Tryz.pinned.checked.prog.looks []∧∀ (j:Nat) t,fn.params[j]? = some t→Tryz.pinned.checked.prog.wantsStandIn t=false:=by
 obtain rfl:f=5:=LM ((show Tryz.prog.funcNamed "framewise/framewiselaw06.EquationsRefutes" = some 5 by kernel_rfl).symm.trans hf) |>.symm;obtain rfl:fn=Tryz.f5:=(LM (Tryz.func5.symm.trans hfn)).symm;refine ⟨by kernel_rfl,fun j t ht => ?_⟩;rw [Tryz.params5] at ht;have hm:=Array.mem_of_getElem? ht;simp only [List.mem_toArray,List.mem_cons,List.mem_nil_iff,or_false] at hm;rcases hm with rfl | rfl | rfl<;>exact (by kernel_rfl:Tryz.prog.wantsStandIn _=false)
theorem equationsRefutes_card:Rows.EquationsRefutesCardSaid :=
 Claim7.holds_tied_plain_at .later [] _ _ _ _ equationsRefutes_said (fun _ h=>by cases h) equationsRefutes_wf (fun _ h=>by cases h) equationsRefutes_row_tie rfl ⟨rfl,rfl⟩ (by kernel_rfl) rfl equationsRefutes_plain equationsRefutes_goes
end Go.Proofs.YtlhcekghjfjajaaGreatDoor
