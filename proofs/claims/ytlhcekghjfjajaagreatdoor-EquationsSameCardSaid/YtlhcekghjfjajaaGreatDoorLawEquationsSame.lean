/- The statement EquationsSame: at whatever arguments the law framewiselaw06.EquationsSame returns true: equations that are 0, that occur twice behind the others, or that are multiplied by 2, -1 or 3 change no binding that Solve gives, as far as no limit is exceeded. It holds with no further condition. By an AI agent. -/
import Derived.Test.YtlhcekghjfjajaaGreatDoorBsEquationsSame
import Derived.Test.YtlhcekghjfjajaaGreatDoorFactsEquationsSame
set_option linter.unusedSimpArgs false
set_option linter.unusedVariables false
namespace Go.Proofs.YtlhcekghjfjajaaGreatDoor
open Go.RowKit Go.Ab Go.Sh Go.ChangeShapes Go.WideShapes Go.ChangeAt
theorem rdc3:Tryz.prog.cellsOf 3=1:=by kernel_rfl
theorem rdc9:Tryz.prog.cellsOf 9=1:=by kernel_rfl
theorem rdc88:Tryz.prog.cellsOf 88=2:=by kernel_rfl
theorem rd_Coef:Rd Tryz.prog 88 aj:=by intro H enc w base sp held fuel cs x h;obtain ⟨hl,n,hf⟩:=w9 Tryz.underlying88 h;rw [rdc88] at hl;obtain ⟨z0,h0⟩:=hf 0 _ rfl;obtain ⟨y0,k0⟩:=(IJ Tryz.underlying9) enc w base sp held n _ _ h0;obtain ⟨z1,h1⟩:=hf 1 _ rfl;obtain ⟨y1,k1⟩:=(Gq (k:=.i64) Tryz.underlying3) enc w base sp held n _ _ h1;refine ⟨⟨y0,y1⟩,?_⟩;exact DL.cons (o:=0) (s:=Tryz.prog.cellsOf 9) k0 rdc9.symm (by rw [rdc9];exact DL.cons (o:=1) (s:=Tryz.prog.cellsOf 3) k1 rdc3.symm (by rw [rdc3];exact DL.done hl))
theorem rdc32:Tryz.prog.cellsOf 32=1:=by kernel_rfl
theorem rdc34:Tryz.prog.cellsOf 34=2:=by kernel_rfl
theorem rd_Linear:Rd Tryz.prog 34 ai:=by intro H enc w base sp held fuel cs x h;obtain ⟨hl,n,hf⟩:=w9 Tryz.underlying34 h;rw [rdc34] at hl;obtain ⟨z0,h0⟩:=hf 0 _ rfl;obtain ⟨y0,k0⟩:=(Gq (k:=.i64) Tryz.underlying3) enc w base sp held n _ _ h0;obtain ⟨z1,h1⟩:=hf 1 _ rfl;obtain ⟨y1,k1⟩:=(Au ⟨[],0⟩ Tryz.underlying32 rdc88 (by decide) (fun _=>rfl) rd_Coef) enc w base sp held n _ _ h1;refine ⟨⟨y0,y1⟩,?_⟩;exact DL.cons (o:=0) (s:=Tryz.prog.cellsOf 3) k0 rdc3.symm (by rw [rdc3];exact DL.cons (o:=1) (s:=Tryz.prog.cellsOf 32) k1 rdc32.symm (by rw [rdc32];exact DL.done hl))
set_option maxRecDepth 100000 in
theorem equationsSame_contract (H:Type) (enc:TypeId×Go.Value→H) (W:World) (base:Nat) (args:Array Go.Value) (ds gs:List (DataW H)) (before:List MemPlace)
 (hval:∀ (j:Nat) t v,Tryz.f6.params[j]? = some t→args[j]? = some v→Value.okWide Tryz.prog W .any base t v)
 (hW:DataW.Whole enc Tryz.prog Tryz.f6.params.toList Rows.equationsSameSpec.vars false W args.toList ds gs before) (hg:GP Tryz.prog W) :
 Calls Tryz.prog 6 args W fun e W'=>∃ v,e = .returned v∧Rows.equationsSameSpec.post enc Tryz.prog Tryz.f6 false true false false W args v W':=by
 have hW':=hW;obtain ⟨p,q,hA0,hV,rfl,hfz,hnd⟩:=hW;have hA:DataW.TrodAll enc Tryz.prog W 0 (fun _=>true) true Tryz.f6.params.toList args.toList ds p:=hA0;rw [Tryz.params6] at hA hval;obtain ⟨v0,vs0,d0,ds0,p0,q0,hargs,rfl,rfl,h0,r0⟩:=trodAll_cons hA;obtain ⟨v1,J1,d1,ds1,p1,q1,rfl,rfl,rfl,h1,r1⟩:=trodAll_cons r0;obtain ⟨v2,JU,d2,ds2,p2,q2,rfl,rfl,rfl,h2,r2⟩:=trodAll_cons r1;obtain ⟨rfl,rfl,rfl⟩:=trodAll_nil r2;obtain rfl:args = #[v0,v1,v2]:=by cases args;simp_all
 obtain ⟨rfl,rfl⟩:=trodVars_none hV;obtain ⟨_,_,_,e0⟩:=okWide_slice Tryz.underlying22 (hval 0 22 v0 rfl rfl);obtain ⟨x0,k0⟩:=qB (Au ⟨0,[]⟩ Tryz.underlying22 rdc34 (by decide) (fun _=>rfl) rd_Linear) (by rw [e0];rfl) h0;obtain ⟨_,e1⟩:=okWide_int Tryz.underlying5 (hval 1 5 v1 rfl rfl);obtain ⟨x1,k1⟩:=qB (HQ Tryz.underlying5) (by rw [e1];rfl) h1;obtain ⟨_,e2⟩:=okWide_int Tryz.underlying5 (hval 2 5 v2 rfl rfl);obtain ⟨x2,k2⟩:=qB (HQ Tryz.underlying5) (by rw [e2];rfl) h2;have hwalk:=D9 (og x0 x1 x2 true (Gr x0 x1 x2)) (W:=W) (vs:=[v0,v1,v2]) rfl (fun i hi=>by
  match i,hi with
  | 0,_=>exact k0
  | 1,_=>exact k1
  | 2,_=>exact k2
  ) (fun w hk=>GO hk hg)
 refine hwalk.mono fun e W' ⟨e1,hb⟩=>⟨_,e1,?_⟩;exact FC hW' hb laidOut (by rw [Tryz.params6];intro t ht;simp only [List.mem_cons,List.mem_nil_iff,or_false] at ht;rcases ht with rfl | rfl | rfl<;>exact ⟨by kernel_rfl,Km (by kernel_rfl)⟩) (tb:=4) (by kernel_rfl) Tryz.underlying4 rfl rfl
theorem equationsSame_reads (os:Os) {H:Type} (enc:TypeId×Go.Value→H):∃ places,DataW.whole enc Tryz.prog ((laidWorld os).forCall (fun _ _=>0) ⟨#[],#[(.slice none 0 0),(.int .u8 0),(.int .u8 0)],[]⟩).memory Tryz.f6.params.toList Rows.equationsSameSpec.vars false (#[(.slice none 0 0),(.int .u8 0),(.int .u8 0)]:Array Go.Value).toList 8=some ([.nil,.lit (.int .u8 0),.lit (.int .u8 0)],[],places) :=
 ⟨[],by kernel_rfl⟩
set_option maxRecDepth 100000 in
theorem equationsSame_lifted (os:Os) (started:os.Started) (H:Type) (enc:TypeId×Go.Value→H) (F:Stop.Interp) :
 ReturnsInHanded {} Tryz.checked os 6 .any ((OpenSpec.ofChange Rows.equationsSameSpec).preRow enc Tryz.prog Tryz.f6 Rows.equationsSameRow.domain false Rows.equationsSameRow.laid) (((OpenSpec.ofChange Rows.equationsSameSpec).at F).post enc Tryz.prog Tryz.f6 false true false false):=by
 obtain ⟨places,hx⟩:=equationsSame_reads os enc;refine returnsInHanded_of_row (C:=Tryz.checked) (s:=OpenSpec.ofChange Rows.equationsSameSpec) HU started (by kernel_rfl) Tryz.func6
  (witness_row_at (enc:=enc) (C:=Tryz.checked) false (laidWorld os) #[(.slice none 0 0),(.int .u8 0),(.int .u8 0)] rfl (by kernel_rfl) (by kernel_rfl) (by kernel_rfl)
   (OpenSpec.preRow_of_cond 8 hx (by kernel_rfl) (fun k hk=>by cases hk) (by kernel_rfl) (Fe os _))) ?_
 intro W base args ds gs before hval hW _ _ _ hL hsh _;exact equationsSame_contract H enc W base args ds gs before hval hW (GJ hL (by kernel_rfl) hsh)
theorem equationsSame_said:Rows.EquationsSameSaid :=
 OpenClaim.holds_of_cond 6 Tryz.f6 rfl rfl rfl rfl rfl rfl rfl ⟨rfl,rfl,rfl,rfl,rfl⟩ rfl rfl rfl rfl rfl (by kernel_rfl) Tryz.func6 equationsSame_facts
  (Km (by kernel_rfl)) equationsSame_wrap
  (fun os started H enc _ F=>by rw [OpenClaim.pre_eq_preRow];exact equationsSame_lifted os started H enc F)
set_option maxRecDepth 100000 in
theorem equationsSame_plain (f:FuncId) (fn:Func) (hf:Tryz.pinned.checked.prog.funcNamed "framewise/framewiselaw06.EquationsSame" = some f) (hfn:Tryz.pinned.checked.prog.funcs[f]? = some fn) :
 true=Tryz.pinned.checked.prog.looks []∧∀ (j:Nat) t,fn.params[j]? = some t→Tryz.pinned.checked.prog.wantsStandIn t=false:=by
 obtain rfl:f=6:=Kt ((show Tryz.prog.funcNamed "framewise/framewiselaw06.EquationsSame" = some 6 by kernel_rfl).symm.trans hf) |>.symm;obtain rfl:fn=Tryz.f6:=(Kt (Tryz.func6.symm.trans hfn)).symm;refine ⟨by kernel_rfl,fun j t ht => ?_⟩;rw [Tryz.params6] at ht;have hm:=Array.mem_of_getElem? ht;simp only [List.mem_toArray,List.mem_cons,List.mem_nil_iff,or_false] at hm;rcases hm with rfl | rfl | rfl<;>exact (by kernel_rfl:Tryz.prog.wantsStandIn _=false)
theorem equationsSame_card:Rows.EquationsSameCardSaid :=
 Claim7.holds_tied_plain_at .later [] _ _ _ _ equationsSame_said (fun _ h=>by cases h) equationsSame_wf (fun _ h=>by cases h) equationsSame_row_tie rfl ⟨rfl,rfl⟩ (by kernel_rfl) rfl equationsSame_plain equationsSame_goes
end Go.Proofs.YtlhcekghjfjajaaGreatDoor
