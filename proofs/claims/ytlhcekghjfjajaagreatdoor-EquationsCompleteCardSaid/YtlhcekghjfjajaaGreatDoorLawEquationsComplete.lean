/- The statement EquationsComplete: at whatever arguments the law framewiselaw06.EquationsComplete returns true: values that satisfy a system are those that the bindings have for some values of the fresh names. It holds with no further condition. By an AI agent. -/
import Derived.Test.YtlhcekghjfjajaaGreatDoorBsEquationsComplete
import Derived.Test.YtlhcekghjfjajaaGreatDoorFactsEquationsComplete
set_option linter.unusedSimpArgs false
set_option linter.unusedVariables false
namespace Go.Proofs.YtlhcekghjfjajaaGreatDoor
open Go.RowKit Go.Ab Go.Sh Go.ChangeShapes Go.WideShapes Go.ChangeAt
theorem rdc3:Tryz.prog.cellsOf 3=1:=by kernel_rfl
theorem rdc9:Tryz.prog.cellsOf 9=1:=by kernel_rfl
theorem rdc88:Tryz.prog.cellsOf 88=2:=by kernel_rfl
theorem rd_Coef:Rd Tryz.prog 88 aq:=by intro H enc w base sp held fuel cs x h;obtain ⟨hl,n,hf⟩:=zo Tryz.underlying88 h;rw [rdc88] at hl;obtain ⟨z0,h0⟩:=hf 0 _ rfl;obtain ⟨y0,k0⟩:=(Kq Tryz.underlying9) enc w base sp held n _ _ h0;obtain ⟨z1,h1⟩:=hf 1 _ rfl;obtain ⟨y1,k1⟩:=(vt (k:=.i64) Tryz.underlying3) enc w base sp held n _ _ h1;refine ⟨⟨y0,y1⟩,?_⟩;exact DL.cons (o:=0) (s:=Tryz.prog.cellsOf 9) k0 rdc9.symm (by rw [rdc9];exact DL.cons (o:=1) (s:=Tryz.prog.cellsOf 3) k1 rdc3.symm (by rw [rdc3];exact DL.done hl))
theorem rdc32:Tryz.prog.cellsOf 32=1:=by kernel_rfl
theorem rdc34:Tryz.prog.cellsOf 34=2:=by kernel_rfl
theorem rd_Linear:Rd Tryz.prog 34 aw:=by intro H enc w base sp held fuel cs x h;obtain ⟨hl,n,hf⟩:=zo Tryz.underlying34 h;rw [rdc34] at hl;obtain ⟨z0,h0⟩:=hf 0 _ rfl;obtain ⟨y0,k0⟩:=(vt (k:=.i64) Tryz.underlying3) enc w base sp held n _ _ h0;obtain ⟨z1,h1⟩:=hf 1 _ rfl;obtain ⟨y1,k1⟩:=(Cz ay Tryz.underlying32 rdc88 (by decide) (fun _=>rfl) rd_Coef) enc w base sp held n _ _ h1;refine ⟨⟨y0,y1⟩,?_⟩;exact DL.cons (o:=0) (s:=Tryz.prog.cellsOf 3) k0 rdc3.symm (by rw [rdc3];exact DL.cons (o:=1) (s:=Tryz.prog.cellsOf 32) k1 rdc32.symm (by rw [rdc32];exact DL.done hl))
theorem rdc43:Tryz.prog.cellsOf 43=1:=by kernel_rfl
theorem rdc44:Tryz.prog.cellsOf 44=4:=by kernel_rfl
def rdE44 (x:(Int×Int×Int×Int)):List AV:=[.int .i8 x.1,.int .i8 x.2.1,.int .i8 x.2.2.1,.int .i8 x.2.2.2]
theorem rdA4_43:Rd Tryz.prog 44 rdE44:=by intro H enc w base sp held fuel cs x h;obtain ⟨hl,n,hf⟩:=JD Tryz.underlying44 rdc43 h;rw [rdc44] at hl;obtain ⟨z0,h0⟩:=hf 0 (by decide);obtain ⟨y0,k0⟩:=(vt (k:=.i8) Tryz.underlying43) enc w base sp held n _ _ h0;obtain ⟨z1,h1⟩:=hf 1 (by decide);obtain ⟨y1,k1⟩:=(vt (k:=.i8) Tryz.underlying43) enc w base sp held n _ _ h1;obtain ⟨z2,h2⟩:=hf 2 (by decide);obtain ⟨y2,k2⟩:=(vt (k:=.i8) Tryz.underlying43) enc w base sp held n _ _ h2;obtain ⟨z3,h3⟩:=hf 3 (by decide);obtain ⟨y3,k3⟩:=(vt (k:=.i8) Tryz.underlying43) enc w base sp held n _ _ h3;refine ⟨(y0,y1,y2,y3),?_⟩;exact DL.cons (o:=0) (s:=1) k0 rfl (DL.cons (o:=1) (s:=1) k1 rfl (DL.cons (o:=2) (s:=1) k2 rfl (DL.cons (o:=3) (s:=1) k3 rfl (DL.done hl))))
set_option maxRecDepth 100000 in
theorem equationsComplete_contract (H:Type) (enc:TypeId×Go.Value→H) (W:World) (base:Nat) (args:Array Go.Value) (ds gs:List (DataW H)) (before:List MemPlace)
 (hval:∀ (j:Nat) t v,Tryz.f4.params[j]? = some t→args[j]? = some v→Value.okWide Tryz.prog W .any base t v)
 (hW:DataW.Whole enc Tryz.prog Tryz.f4.params.toList Rows.equationsCompleteSpec.vars false W args.toList ds gs before) (hg:GP Tryz.prog W) :
 Calls Tryz.prog 4 args W fun e W'=>∃ v,e = .returned v∧Rows.equationsCompleteSpec.post enc Tryz.prog Tryz.f4 false true false false W args v W':=by
 have hW':=hW;obtain ⟨p,q,hA0,hV,rfl,hfz,hnd⟩:=hW;have hA:DataW.TrodAll enc Tryz.prog W 0 (fun _=>true) true Tryz.f4.params.toList args.toList ds p:=hA0;rw [Tryz.params4] at hA hval;obtain ⟨v0,vs0,d0,ds0,p0,q0,hargs,rfl,rfl,h0,r0⟩:=trodAll_cons hA;obtain ⟨v1,Me,d1,ds1,p1,q1,rfl,rfl,rfl,h1,r1⟩:=trodAll_cons r0;obtain ⟨rfl,rfl,rfl⟩:=trodAll_nil r1;obtain rfl:args = #[v0,v1]:=by cases args;simp_all
 obtain ⟨rfl,rfl⟩:=trodVars_none hV;obtain ⟨_,_,_,e0⟩:=okWide_slice Tryz.underlying22 (hval 0 22 v0 rfl rfl);obtain ⟨x0,k0⟩:=Dl (Cz aG Tryz.underlying22 rdc34 (by decide) (fun _=>rfl) rd_Linear) (by rw [e0];rfl) h0;obtain ⟨x1,k1⟩:=DG Tryz.underlying44 rdA4_43 (hval 1 44 v1 rfl rfl) h1;have hwalk:=FR (oo x0 x1 true (AG x0 x1)) (W:=W) (vs:=[v0,v1]) rfl (fun i hi=>by
  match i,hi with
  | 0,_=>exact k0
  | 1,_=>exact k1
  ) (fun w hk=>Je hk hg)
 refine hwalk.mono fun e W' ⟨e1,hb⟩=>⟨_,e1,?_⟩;exact HX hW' hb laidOut (by rw [Tryz.params4];intro t ht;simp only [List.mem_cons,List.mem_nil_iff,or_false] at ht;rcases ht with rfl | rfl<;>exact ⟨by kernel_rfl,MJ (by kernel_rfl)⟩) (tb:=4) (by kernel_rfl) Tryz.underlying4 rfl rfl
theorem equationsComplete_reads (os:Os) {H:Type} (enc:TypeId×Go.Value→H):∃ places,DataW.whole enc Tryz.prog ((laidWorld os).forCall (fun _ _=>0) ⟨#[],#[(.slice none 0 0),(.agg #[.int .i8 0,.int .i8 0,.int .i8 0,.int .i8 0])],[]⟩).memory Tryz.f4.params.toList Rows.equationsCompleteSpec.vars false (#[(.slice none 0 0),(.agg #[.int .i8 0,.int .i8 0,.int .i8 0,.int .i8 0])]:Array Go.Value).toList 8=some ([.nil,.agg [.lit (.int .i8 0),.lit (.int .i8 0),.lit (.int .i8 0),.lit (.int .i8 0)]],[],places) :=
 ⟨[],by kernel_rfl⟩
set_option maxRecDepth 100000 in
theorem equationsComplete_lifted (os:Os) (started:os.Started) (H:Type) (enc:TypeId×Go.Value→H) (F:Stop.Interp) :
 ReturnsInHanded {} Tryz.checked os 4 .any ((OpenSpec.ofChange Rows.equationsCompleteSpec).preRow enc Tryz.prog Tryz.f4 Rows.equationsCompleteRow.domain false Rows.equationsCompleteRow.laid) (((OpenSpec.ofChange Rows.equationsCompleteSpec).at F).post enc Tryz.prog Tryz.f4 false true false false):=by
 obtain ⟨places,hx⟩:=equationsComplete_reads os enc;refine returnsInHanded_of_row (C:=Tryz.checked) (s:=OpenSpec.ofChange Rows.equationsCompleteSpec) KX started (by kernel_rfl) Tryz.func4
  (witness_row_at (enc:=enc) (C:=Tryz.checked) false (laidWorld os) #[(.slice none 0 0),(.agg #[.int .i8 0,.int .i8 0,.int .i8 0,.int .i8 0])] rfl (by kernel_rfl) (by kernel_rfl) (by kernel_rfl)
   (OpenSpec.preRow_of_cond 8 hx (by kernel_rfl) (fun k hk=>by cases hk) (by kernel_rfl) (HY os _))) ?_
 intro W base args ds gs before hval hW _ _ _ hL hsh _;exact equationsComplete_contract H enc W base args ds gs before hval hW (I4 hL (by kernel_rfl) hsh)
theorem equationsComplete_said:Rows.EquationsCompleteSaid :=
 OpenClaim.holds_of_cond 4 Tryz.f4 rfl rfl rfl rfl rfl rfl rfl ⟨rfl,rfl,rfl,rfl,rfl⟩ rfl rfl rfl rfl rfl (by kernel_rfl) Tryz.func4 equationsComplete_facts
  (MJ (by kernel_rfl)) equationsComplete_wrap
  (fun os started H enc _ F=>by rw [OpenClaim.pre_eq_preRow];exact equationsComplete_lifted os started H enc F)
set_option maxRecDepth 100000 in
theorem equationsComplete_plain (f:FuncId) (fn:Func) (hf:Tryz.pinned.checked.prog.funcNamed "framewise/framewiselaw06.EquationsComplete" = some f) (hfn:Tryz.pinned.checked.prog.funcs[f]? = some fn) :
 true=Tryz.pinned.checked.prog.looks []∧∀ (j:Nat) t,fn.params[j]? = some t→Tryz.pinned.checked.prog.wantsStandIn t=false:=by
 obtain rfl:f=4:=MQ ((show Tryz.prog.funcNamed "framewise/framewiselaw06.EquationsComplete" = some 4 by kernel_rfl).symm.trans hf) |>.symm;obtain rfl:fn=Tryz.f4:=(MQ (Tryz.func4.symm.trans hfn)).symm;refine ⟨by kernel_rfl,fun j t ht => ?_⟩;rw [Tryz.params4] at ht;have hm:=Array.mem_of_getElem? ht;simp only [List.mem_toArray,List.mem_cons,List.mem_nil_iff,or_false] at hm;rcases hm with rfl | rfl<;>exact (by kernel_rfl:Tryz.prog.wantsStandIn _=false)
theorem equationsComplete_card:Rows.EquationsCompleteCardSaid :=
 Claim7.holds_tied_plain_at .later [] _ _ _ _ equationsComplete_said (fun _ h=>by cases h) equationsComplete_wf (fun _ h=>by cases h) equationsComplete_row_tie rfl ⟨rfl,rfl⟩ (by kernel_rfl) rfl equationsComplete_plain equationsComplete_goes
end Go.Proofs.YtlhcekghjfjajaaGreatDoor
