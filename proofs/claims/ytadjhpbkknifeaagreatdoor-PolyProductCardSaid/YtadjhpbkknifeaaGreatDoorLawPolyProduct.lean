/- The statement PolyProduct: at whatever arguments the law framewiselaw05.PolyProduct returns true: Product and Subst of the program and of the specification return the same polynomial and the same error. It holds with no further condition. By an AI agent. -/
import Derived.Test.YtadjhpbkknifeaaGreatDoorBsPolyProduct
import Derived.Test.YtadjhpbkknifeaaGreatDoorFactsPolyProduct
set_option linter.unusedSimpArgs false
set_option linter.unusedVariables false
namespace Go.Proofs.YtadjhpbkknifeaaGreatDoor
open Go.RowKit Go.Ab Go.Sh Go.ChangeShapes Go.WideShapes Go.ChangeAt
theorem rdc3:Tryz.prog.cellsOf 3=1:=by kernel_rfl
theorem rdc9:Tryz.prog.cellsOf 9=1:=by kernel_rfl
theorem rdc62:Tryz.prog.cellsOf 62=2:=by kernel_rfl
theorem rd_Coef:Rd Tryz.prog 62 be:=by intro H enc w base sp held fuel cs x h;obtain ⟨hl,n,hf⟩:=l8 Tryz.underlying62 h;rw [rdc62] at hl;obtain ⟨z0,h0⟩:=hf 0 _ rfl;obtain ⟨y0,k0⟩:=(vD Tryz.underlying9) enc w base sp held n _ _ h0;obtain ⟨z1,h1⟩:=hf 1 _ rfl;obtain ⟨y1,k1⟩:=(yu (k:=.i64) Tryz.underlying3) enc w base sp held n _ _ h1;refine ⟨⟨y0,y1⟩,?_⟩;exact DL.cons (o:=0) (s:=Tryz.prog.cellsOf 9) k0 rdc9.symm (by rw [rdc9];exact DL.cons (o:=1) (s:=Tryz.prog.cellsOf 3) k1 rdc3.symm (by rw [rdc3];exact DL.done hl))
theorem rdc30:Tryz.prog.cellsOf 30=1:=by kernel_rfl
theorem rdc32:Tryz.prog.cellsOf 32=2:=by kernel_rfl
theorem rd_Linear:Rd Tryz.prog 32 bh:=by intro H enc w base sp held fuel cs x h;obtain ⟨hl,n,hf⟩:=l8 Tryz.underlying32 h;rw [rdc32] at hl;obtain ⟨z0,h0⟩:=hf 0 _ rfl;obtain ⟨y0,k0⟩:=(yu (k:=.i64) Tryz.underlying3) enc w base sp held n _ _ h0;obtain ⟨z1,h1⟩:=hf 1 _ rfl;obtain ⟨y1,k1⟩:=(mg ⟨[],0⟩ Tryz.underlying30 rdc62 (by decide) (fun _=>rfl) rd_Coef) enc w base sp held n _ _ h1;refine ⟨⟨y0,y1⟩,?_⟩;exact DL.cons (o:=0) (s:=Tryz.prog.cellsOf 3) k0 rdc3.symm (by rw [rdc3];exact DL.cons (o:=1) (s:=Tryz.prog.cellsOf 30) k1 rdc30.symm (by rw [rdc30];exact DL.done hl))
theorem rdc49:Tryz.prog.cellsOf 49=1:=by kernel_rfl
theorem rdc67:Tryz.prog.cellsOf 67=2:=by kernel_rfl
theorem rd_Monomial:Rd Tryz.prog 67 ab:=by intro H enc w base sp held fuel cs x h;obtain ⟨hl,n,hf⟩:=l8 Tryz.underlying67 h;rw [rdc67] at hl;obtain ⟨z0,h0⟩:=hf 0 _ rfl;obtain ⟨y0,k0⟩:=(yu (k:=.i64) Tryz.underlying3) enc w base sp held n _ _ h0;obtain ⟨z1,h1⟩:=hf 1 _ rfl;obtain ⟨y1,k1⟩:=(mg [] Tryz.underlying49 rdc9 (by decide) (fun _=>rfl) (vD Tryz.underlying9)) enc w base sp held n _ _ h1;refine ⟨⟨y0,y1⟩,?_⟩;exact DL.cons (o:=0) (s:=Tryz.prog.cellsOf 3) k0 rdc3.symm (by rw [rdc3];exact DL.cons (o:=1) (s:=Tryz.prog.cellsOf 49) k1 rdc49.symm (by rw [rdc49];exact DL.done hl))
theorem rdc22:Tryz.prog.cellsOf 22=1:=by kernel_rfl
theorem rdc34:Tryz.prog.cellsOf 34=2:=by kernel_rfl
theorem rd_Shape:Rd Tryz.prog 34 x8:=by intro H enc w base sp held fuel cs x h;obtain ⟨hl,n,hf⟩:=l8 Tryz.underlying34 h;rw [rdc34] at hl;obtain ⟨z0,h0⟩:=hf 0 _ rfl;obtain ⟨y0,k0⟩:=(vD Tryz.underlying9) enc w base sp held n _ _ h0;obtain ⟨z1,h1⟩:=hf 1 _ rfl;obtain ⟨y1,k1⟩:=(mg ⟨0,[]⟩ Tryz.underlying22 rdc32 (by decide) (fun _=>rfl) rd_Linear) enc w base sp held n _ _ h1;refine ⟨⟨y0,y1⟩,?_⟩;exact DL.cons (o:=0) (s:=Tryz.prog.cellsOf 9) k0 rdc9.symm (by rw [rdc9];exact DL.cons (o:=1) (s:=Tryz.prog.cellsOf 22) k1 rdc22.symm (by rw [rdc22];exact DL.done hl))
theorem rdc36:Tryz.prog.cellsOf 36=7:=by kernel_rfl
theorem rd_Bind:Rd Tryz.prog 36 cm:=by intro H enc w base sp held fuel cs x h;obtain ⟨hl,n,hf⟩:=l8 Tryz.underlying36 h;rw [rdc36] at hl;obtain ⟨z0,h0⟩:=hf 0 _ rfl;obtain ⟨y0,k0⟩:=(yu (k:=.i64) Tryz.underlying3) enc w base sp held n _ _ h0;obtain ⟨z1,h1⟩:=hf 1 _ rfl;obtain ⟨y1,k1⟩:=(vD Tryz.underlying9) enc w base sp held n _ _ h1;obtain ⟨z2,h2⟩:=hf 2 _ rfl;obtain ⟨y2,k2⟩:=rd_Linear enc w base sp held n _ _ h2;obtain ⟨z3,h3⟩:=hf 3 _ rfl;obtain ⟨y3,k3⟩:=rd_Shape enc w base sp held n _ _ h3;obtain ⟨z4,h4⟩:=hf 4 _ rfl;obtain ⟨y4,k4⟩:=(vD Tryz.underlying9) enc w base sp held n _ _ h4;refine ⟨⟨y0,y1,y2,y3,y4⟩,?_⟩;exact DL.cons (o:=0) (s:=Tryz.prog.cellsOf 3) k0 rdc3.symm (by rw [rdc3];exact DL.cons (o:=1) (s:=Tryz.prog.cellsOf 9) k1 rdc9.symm (by rw [rdc9];exact DL.cons (o:=2) (s:=Tryz.prog.cellsOf 32) k2 rdc32.symm (by rw [rdc32];exact DL.cons (o:=4) (s:=Tryz.prog.cellsOf 34) k3 rdc34.symm (by rw [rdc34];exact DL.cons (o:=6) (s:=Tryz.prog.cellsOf 9) k4 rdc9.symm (by rw [rdc9];exact DL.done hl)))))
set_option maxRecDepth 100000 in
theorem polyProduct_contract (H:Type) (enc:TypeId×Go.Value→H) (W:World) (base:Nat) (args:Array Go.Value) (ds gs:List (DataW H)) (before:List MemPlace)
 (hval:∀ (j:Nat) t v,Tryz.f3.params[j]? = some t→args[j]? = some v→Value.okWide Tryz.prog W .any base t v)
 (hW:DataW.Whole enc Tryz.prog Tryz.f3.params.toList Rows.polyProductSpec.vars false W args.toList ds gs before) (hg:GP Tryz.prog W) :
 Calls Tryz.prog 3 args W fun e W'=>∃ v,e = .returned v∧Rows.polyProductSpec.post enc Tryz.prog Tryz.f3 false true false false W args v W':=by
 have hW':=hW;obtain ⟨p,q,hA0,hV,rfl,hfz,hnd⟩:=hW;have hA:DataW.TrodAll enc Tryz.prog W 0 (fun _=>true) true Tryz.f3.params.toList args.toList ds p:=hA0;rw [Tryz.params3] at hA hval;obtain ⟨v0,vs0,d0,ds0,p0,q0,hargs,rfl,rfl,h0,r0⟩:=trodAll_cons hA;obtain ⟨v1,Iq,d1,ds1,p1,q1,rfl,rfl,rfl,h1,r1⟩:=trodAll_cons r0;obtain ⟨v2,GF,d2,ds2,p2,q2,rfl,rfl,rfl,h2,r2⟩:=trodAll_cons r1;obtain ⟨rfl,rfl,rfl⟩:=trodAll_nil r2;obtain rfl:args = #[v0,v1,v2]:=by cases args;simp_all
 obtain ⟨rfl,rfl⟩:=trodVars_none hV;obtain ⟨_,_,_,e0⟩:=okWide_slice Tryz.underlying22 (hval 0 22 v0 rfl rfl);obtain ⟨x0,k0⟩:=pP (mg ⟨0,[]⟩ Tryz.underlying22 rdc32 (by decide) (fun _=>rfl) rd_Linear) (by rw [e0];rfl) h0;obtain ⟨_,_,_,e1⟩:=okWide_slice Tryz.underlying24 (hval 1 24 v1 rfl rfl);obtain ⟨x1,k1⟩:=pP (mg ⟨0,[]⟩ Tryz.underlying24 rdc67 (by decide) (fun _=>rfl) rd_Monomial) (by rw [e1];rfl) h1;obtain ⟨_,_,_,e2⟩:=okWide_slice Tryz.underlying25 (hval 2 25 v2 rfl rfl);obtain ⟨x2,k2⟩:=pP (mg (⟨0,[],⟨0,[]⟩,⟨[],[]⟩,[]⟩) Tryz.underlying25 rdc36 (by decide) (fun _=>rfl) rd_Bind) (by rw [e2];rfl) h2;have hwalk:=Ei (o9 x0 x1 x2 true (tG x0 x1 x2)) (W:=W) (vs:=[v0,v1,v2]) rfl (fun i hi=>by
  match i,hi with
  | 0,_=>exact k0
  | 1,_=>exact k1
  | 2,_=>exact k2
  ) (fun w hk=>Hk hk hg)
 refine hwalk.mono fun e W' ⟨e1,hb⟩=>⟨_,e1,?_⟩;exact F4 hW' hb laidOut (by rw [Tryz.params3];intro t ht;simp only [List.mem_cons,List.mem_nil_iff,or_false] at ht;rcases ht with rfl | rfl | rfl<;>exact ⟨by kernel_rfl,JR (by kernel_rfl)⟩) (tb:=4) (by kernel_rfl) Tryz.underlying4 rfl rfl
theorem polyProduct_reads (os:Os) {H:Type} (enc:TypeId×Go.Value→H):∃ places,DataW.whole enc Tryz.prog ((laidWorld os).forCall (fun _ _=>0) ⟨#[],#[(.slice none 0 0),(.slice none 0 0),(.slice none 0 0)],[]⟩).memory Tryz.f3.params.toList Rows.polyProductSpec.vars false (#[(.slice none 0 0),(.slice none 0 0),(.slice none 0 0)]:Array Go.Value).toList 8=some ([.nil,.nil,.nil],[],places) :=
 ⟨[],by kernel_rfl⟩
set_option maxRecDepth 100000 in
theorem polyProduct_lifted (os:Os) (started:os.Started) (H:Type) (enc:TypeId×Go.Value→H) (F:Stop.Interp) :
 ReturnsInHanded {} Tryz.checked os 3 .any ((OpenSpec.ofChange Rows.polyProductSpec).preRow enc Tryz.prog Tryz.f3 Rows.polyProductRow.domain false Rows.polyProductRow.laid) (((OpenSpec.ofChange Rows.polyProductSpec).at F).post enc Tryz.prog Tryz.f3 false true false false):=by
 obtain ⟨places,hx⟩:=polyProduct_reads os enc;refine returnsInHanded_of_row (C:=Tryz.checked) (s:=OpenSpec.ofChange Rows.polyProductSpec) IC started (by kernel_rfl) Tryz.func3
  (witness_row_at (enc:=enc) (C:=Tryz.checked) false (laidWorld os) #[(.slice none 0 0),(.slice none 0 0),(.slice none 0 0)] rfl (by kernel_rfl) (by kernel_rfl) (by kernel_rfl)
   (OpenSpec.preRow_of_cond 8 hx (by kernel_rfl) (fun k hk=>by cases hk) (by kernel_rfl) (Fq os _))) ?_
 intro W base args ds gs before hval hW _ _ _ hL hsh _;exact polyProduct_contract H enc W base args ds gs before hval hW (GS hL (by kernel_rfl) hsh)
theorem polyProduct_said:Rows.PolyProductSaid :=
 OpenClaim.holds_of_cond 3 Tryz.f3 rfl rfl rfl rfl rfl rfl rfl ⟨rfl,rfl,rfl,rfl,rfl⟩ rfl rfl rfl rfl rfl (by kernel_rfl) Tryz.func3 polyProduct_facts
  (JR (by kernel_rfl)) polyProduct_wrap
  (fun os started H enc _ F=>by rw [OpenClaim.pre_eq_preRow];exact polyProduct_lifted os started H enc F)
set_option maxRecDepth 100000 in
theorem polyProduct_plain (f:FuncId) (fn:Func) (hf:Tryz.pinned.checked.prog.funcNamed "framewise/framewiselaw05.PolyProduct" = some f) (hfn:Tryz.pinned.checked.prog.funcs[f]? = some fn) :
 true=Tryz.pinned.checked.prog.looks []∧∀ (j:Nat) t,fn.params[j]? = some t→Tryz.pinned.checked.prog.wantsStandIn t=false:=by
 obtain rfl:f=3:=JZ ((show Tryz.prog.funcNamed "framewise/framewiselaw05.PolyProduct" = some 3 by kernel_rfl).symm.trans hf) |>.symm;obtain rfl:fn=Tryz.f3:=(JZ (Tryz.func3.symm.trans hfn)).symm;refine ⟨by kernel_rfl,fun j t ht => ?_⟩;rw [Tryz.params3] at ht;have hm:=Array.mem_of_getElem? ht;simp only [List.mem_toArray,List.mem_cons,List.mem_nil_iff,or_false] at hm;rcases hm with rfl | rfl | rfl<;>exact (by kernel_rfl:Tryz.prog.wantsStandIn _=false)
theorem polyProduct_card:Rows.PolyProductCardSaid :=
 Claim7.holds_tied_plain_at .later [] _ _ _ _ polyProduct_said (fun _ h=>by cases h) polyProduct_wf (fun _ h=>by cases h) polyProduct_row_tie rfl ⟨rfl,rfl⟩ (by kernel_rfl) rfl polyProduct_plain polyProduct_goes
end Go.Proofs.YtadjhpbkknifeaaGreatDoor
