/- The statement PolySums: at whatever arguments the law framewiselaw05.PolySums returns true: Add, Sub, Scale and Mul of the program and of the specification return the same polynomial and the same error. It holds with no further condition. By an AI agent. -/
import Derived.Test.YtjfpcjnopbfekaaGreatDoorBsPolySums
import Derived.Test.YtjfpcjnopbfekaaGreatDoorFactsPolySums
set_option linter.unusedSimpArgs false
set_option linter.unusedVariables false
namespace Go.Proofs.YtjfpcjnopbfekaaGreatDoor
open Go.RowKit Go.Ab Go.Sh Go.ChangeShapes Go.WideShapes Go.ChangeAt
theorem rdc3:Tryz.prog.cellsOf 3=1:=by kernel_rfl
theorem rdc9:Tryz.prog.cellsOf 9=1:=by kernel_rfl
theorem rdc90:Tryz.prog.cellsOf 90=1:=by kernel_rfl
theorem rdc118:Tryz.prog.cellsOf 118=2:=by kernel_rfl
theorem rd_Monomial:Rd Tryz.prog 118 cMonomial:=by
 intro H enc w base sp held fuel cs x h
 obtain ⟨hl,n,hf⟩:=rd_struct Tryz.underlying118 h
 rw [rdc118] at hl
 obtain ⟨z0,h0⟩:=hf 0 _ rfl
 obtain ⟨y0,k0⟩:=(rd_int (k:=.i64) Tryz.underlying3) enc w base sp held n _ _ h0
 obtain ⟨z1,h1⟩:=hf 1 _ rfl
 obtain ⟨y1,k1⟩:=(rd_slice [] Tryz.underlying90 rdc9 (by decide) (fun _=>rfl) (rd_str Tryz.underlying9)) enc w base sp held n _ _ h1
 refine ⟨⟨y0,y1⟩,?_⟩
 exact DL.cons (o:=0) (s:=Tryz.prog.cellsOf 3) k0 rdc3.symm (by rw [rdc3];exact DL.cons (o:=1) (s:=Tryz.prog.cellsOf 90) k1 rdc90.symm (by rw [rdc90];exact DL.done hl))
set_option maxRecDepth 100000 in
theorem polySums_contract (H:Type) (enc:TypeId×Go.Value→H) (W:World) (base:Nat) (args:Array Go.Value) (ds gs:List (DataW H)) (before:List MemPlace)
 (hval:∀ (j:Nat) t v,Tryz.f11.params[j]? = some t→args[j]? = some v→Value.okWide Tryz.prog W .any base t v)
 (hW:DataW.Whole enc Tryz.prog Tryz.f11.params.toList Rows.polySumsSpec.vars false W args.toList ds gs before) (hg:GP Tryz.prog W) :
 Calls Tryz.prog 11 args W fun e W'=>∃ v,e = .returned v∧Rows.polySumsSpec.post enc Tryz.prog Tryz.f11 false true false false W args v W':=by
 have hW':=hW
 obtain ⟨p,q,hA0,hV,rfl,hfz,hnd⟩:=hW
 have hA:DataW.TrodAll enc Tryz.prog W 0 (fun _=>true) true Tryz.f11.params.toList args.toList ds p:=hA0
 rw [Tryz.params11] at hA hval
 obtain ⟨v0,vs0,d0,ds0,p0,q0,hargs,rfl,rfl,h0,r0⟩:=trodAll_cons hA
 obtain ⟨v1,vs1,d1,ds1,p1,q1,rfl,rfl,rfl,h1,r1⟩:=trodAll_cons r0
 obtain ⟨v2,vs2,d2,ds2,p2,q2,rfl,rfl,rfl,h2,r2⟩:=trodAll_cons r1
 obtain ⟨rfl,rfl,rfl⟩:=trodAll_nil r2
 obtain rfl:args = #[v0,v1,v2]:=by cases args;simp_all
 obtain ⟨rfl,rfl⟩:=trodVars_none hV
 obtain ⟨_,_,_,e0⟩:=okWide_slice Tryz.underlying70 (hval 0 70 v0 rfl rfl)
 obtain ⟨x0,k0⟩:=rd_arg_one (rd_slice ⟨0,[]⟩ Tryz.underlying70 rdc118 (by decide) (fun _=>rfl) rd_Monomial) (by rw [e0];rfl) h0
 obtain ⟨_,_,_,e1⟩:=okWide_slice Tryz.underlying70 (hval 1 70 v1 rfl rfl)
 obtain ⟨x1,k1⟩:=rd_arg_one (rd_slice ⟨0,[]⟩ Tryz.underlying70 rdc118 (by decide) (fun _=>rfl) rd_Monomial) (by rw [e1];rfl) h1
 obtain ⟨_,e2⟩:=okWide_int Tryz.underlying3 (hval 2 3 v2 rfl rfl)
 obtain ⟨x2,k2⟩:=rd_arg_one (rd_int (k:=.i64) Tryz.underlying3) (by rw [e2];rfl) h2
 have hwalk:=afn_calls (law05_PolySums_c x0 x1 x2 true (polySums_law x0 x1 x2)) (W:=W) (vs:=[v0,v1,v2]) rfl (fun i hi=>by
  match i,hi with
  | 0,_=>exact k0
  | 1,_=>exact k1
  | 2,_=>exact k2
  ) (fun w hk=>gp_keep hk hg)
 refine hwalk.mono fun e W' ⟨e1,hb⟩=>⟨_,e1,?_⟩
 exact post_law hW' hb laidOut (by rw [Tryz.params11];intro t ht;simp only [List.mem_cons,List.mem_nil_iff,or_false] at ht;rcases ht with rfl | rfl | rfl<;>exact ⟨by kernel_rfl,of_decide_eq_true (by kernel_rfl)⟩) (tb:=4) (by kernel_rfl) Tryz.underlying4 rfl rfl
theorem polySums_reads (os:Os) {H:Type} (enc:TypeId×Go.Value→H):∃ places,DataW.whole enc Tryz.prog ((laidWorld os).forCall (fun _ _=>0) ⟨#[],#[(.slice none 0 0),(.slice none 0 0),(.int .i64 0)],[]⟩).memory Tryz.f11.params.toList Rows.polySumsSpec.vars false (#[(.slice none 0 0),(.slice none 0 0),(.int .i64 0)]:Array Go.Value).toList 8=some ([.nil,.nil,.lit (.int .i64 0)],[],places) :=
 ⟨[],by kernel_rfl⟩
set_option maxRecDepth 100000 in
theorem polySums_lifted (os:Os) (started:os.Started) (H:Type) (enc:TypeId×Go.Value→H) (F:Stop.Interp) :
 ReturnsInHanded {} Tryz.checked os 11 .any ((OpenSpec.ofChange Rows.polySumsSpec).preRow enc Tryz.prog Tryz.f11 Rows.polySumsRow.domain false Rows.polySumsRow.laid) (((OpenSpec.ofChange Rows.polySumsSpec).at F).post enc Tryz.prog Tryz.f11 false true false false):=by
 obtain ⟨places,hx⟩:=polySums_reads os enc
 refine returnsInHanded_of_row (C:=Tryz.checked) (s:=OpenSpec.ofChange Rows.polySumsSpec) ownOff started (by kernel_rfl) Tryz.func11
  (witness_row_at (enc:=enc) (C:=Tryz.checked) false (laidWorld os) #[(.slice none 0 0),(.slice none 0 0),(.int .i64 0)] rfl (by kernel_rfl) (by kernel_rfl) (by kernel_rfl)
   (OpenSpec.preRow_of_cond 8 hx (by kernel_rfl) (fun k hk=>by cases hk) (by kernel_rfl) (laid_any os _))) ?_
 intro W base args ds gs before hval hW _ _ _ hL hsh _
 exact polySums_contract H enc W base args ds gs before hval hW (gp_laid hL (by kernel_rfl) hsh)
theorem polySums_said:Rows.PolySumsSaid :=
 OpenClaim.holds_of_cond 11 Tryz.f11 rfl rfl rfl rfl rfl rfl rfl ⟨rfl,rfl,rfl,rfl,rfl⟩ rfl rfl rfl rfl rfl (by kernel_rfl) Tryz.func11 polySums_facts
  (of_decide_eq_true (by kernel_rfl)) polySums_wrap
  (fun os started H enc _ F=>by rw [OpenClaim.pre_eq_preRow];exact polySums_lifted os started H enc F)
set_option maxRecDepth 100000 in
theorem polySums_plain (f:FuncId) (fn:Func) (hf:Tryz.pinned.checked.prog.funcNamed "framewise/framewiselaw05.PolySums" = some f) (hfn:Tryz.pinned.checked.prog.funcs[f]? = some fn) :
 true=Tryz.pinned.checked.prog.looks []∧∀ (j:Nat) t,fn.params[j]? = some t→Tryz.pinned.checked.prog.wantsStandIn t=false:=by
 obtain rfl:f=11:=Option.some.inj ((show Tryz.prog.funcNamed "framewise/framewiselaw05.PolySums" = some 11 by kernel_rfl).symm.trans hf) |>.symm
 obtain rfl:fn=Tryz.f11:=(Option.some.inj (Tryz.func11.symm.trans hfn)).symm
 refine ⟨by kernel_rfl,fun j t ht => ?_⟩
 rw [Tryz.params11] at ht
 have hm:=Array.mem_of_getElem? ht
 simp only [List.mem_toArray,List.mem_cons,List.mem_nil_iff,or_false] at hm
 rcases hm with rfl | rfl | rfl<;>exact (by kernel_rfl:Tryz.prog.wantsStandIn _=false)
/-- THE CARD. -/
theorem polySums_card:Rows.PolySumsCardSaid :=
 Claim7.holds_tied_plain_at .later [] _ _ _ _ polySums_said (fun _ h=>by cases h) polySums_wf (fun _ h=>by cases h) polySums_row_tie rfl ⟨rfl,rfl⟩ (by kernel_rfl) rfl polySums_plain polySums_goes
end Go.Proofs.YtjfpcjnopbfekaaGreatDoor
