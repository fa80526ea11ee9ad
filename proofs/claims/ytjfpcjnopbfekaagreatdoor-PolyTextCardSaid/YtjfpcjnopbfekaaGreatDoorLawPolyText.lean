/- The statement PolyText: at whatever arguments the law framewiselaw05.PolyText returns true: Print returns the specified text, from which Parse returns the polynomial; Parse returns the specified result for any text, and what it accepts is the text of the result. It holds with no further condition. By an AI agent. -/
import Derived.Test.YtjfpcjnopbfekaaGreatDoorBsPolyText
import Derived.Test.YtjfpcjnopbfekaaGreatDoorFactsPolyText
set_option linter.unusedSimpArgs false
set_option linter.unusedVariables false
namespace Go.Proofs.YtjfpcjnopbfekaaGreatDoor
open Go.RowKit Go.Ab Go.Sh Go.ChangeShapes Go.WideShapes Go.ChangeAt
theorem rdc3:Tryz.prog.cellsOf 3=1:=by kernel_rfl
theorem rdc9:Tryz.prog.cellsOf 9=1:=by kernel_rfl
theorem rdc90:Tryz.prog.cellsOf 90=1:=by kernel_rfl
theorem rdc118:Tryz.prog.cellsOf 118=2:=by kernel_rfl
theorem rd_Monomial:Rd Tryz.prog 118 cMonomial:=by
 intro H enc w base sp held fuel cs x h
 obtain ⟨hl,n,hf⟩:=rd_struct Tryz.underlying118 h
 rw [rdc118] at hl
 obtain ⟨z0,h0⟩:=hf 0 _ rfl
 obtain ⟨y0,k0⟩:=(rd_int (k:=.i64) Tryz.underlying3) enc w base sp held n _ _ h0
 obtain ⟨z1,h1⟩:=hf 1 _ rfl
 obtain ⟨y1,k1⟩:=(rd_slice [] Tryz.underlying90 rdc9 (by decide) (fun _=>rfl) (rd_str Tryz.underlying9)) enc w base sp held n _ _ h1
 refine ⟨⟨y0,y1⟩,?_⟩
 exact DL.cons (o:=0) (s:=Tryz.prog.cellsOf 3) k0 rdc3.symm (by rw [rdc3];exact DL.cons (o:=1) (s:=Tryz.prog.cellsOf 90) k1 rdc90.symm (by rw [rdc90];exact DL.done hl))
set_option maxRecDepth 100000 in
theorem polyText_contract (H:Type) (enc:TypeId×Go.Value→H) (W:World) (base:Nat) (args:Array Go.Value) (ds gs:List (DataW H)) (before:List MemPlace)
 (hval:∀ (j:Nat) t v,Tryz.f9.params[j]? = some t→args[j]? = some v→Value.okWide Tryz.prog W .any base t v)
 (hW:DataW.Whole enc Tryz.prog Tryz.f9.params.toList Rows.polyTextSpec.vars false W args.toList ds gs before) (hg:GP Tryz.prog W) :
 Calls Tryz.prog 9 args W fun e W'=>∃ v,e = .returned v∧Rows.polyTextSpec.post enc Tryz.prog Tryz.f9 false true false false W args v W':=by
 have hW':=hW
 obtain ⟨p,q,hA0,hV,rfl,hfz,hnd⟩:=hW
 have hA:DataW.TrodAll enc Tryz.prog W 0 (fun _=>true) true Tryz.f9.params.toList args.toList ds p:=hA0
 rw [Tryz.params9] at hA hval
 obtain ⟨v0,vs0,d0,ds0,p0,q0,hargs,rfl,rfl,h0,r0⟩:=trodAll_cons hA
 obtain ⟨v1,vs1,d1,ds1,p1,q1,rfl,rfl,rfl,h1,r1⟩:=trodAll_cons r0
 obtain ⟨rfl,rfl,rfl⟩:=trodAll_nil r1
 obtain rfl:args = #[v0,v1]:=by cases args;simp_all
 obtain ⟨rfl,rfl⟩:=trodVars_none hV
 obtain ⟨_,_,_,e0⟩:=okWide_slice Tryz.underlying70 (hval 0 70 v0 rfl rfl)
 obtain ⟨x0,k0⟩:=rd_arg_one (rd_slice ⟨0,[]⟩ Tryz.underlying70 rdc118 (by decide) (fun _=>rfl) rd_Monomial) (by rw [e0];rfl) h0
 obtain ⟨_,e1⟩:=okWide_string Tryz.underlying9 (hval 1 9 v1 rfl rfl)
 obtain ⟨x1,k1⟩:=rd_arg_one (rd_str Tryz.underlying9) (by rw [e1];rfl) h1
 have hwalk:=afn_calls (law05_PolyText_c x0 x1 true (polyText_law x0 x1)) (W:=W) (vs:=[v0,v1]) rfl (fun i hi=>by
  match i,hi with
  | 0,_=>exact k0
  | 1,_=>exact k1
  ) (fun w hk=>gp_keep hk hg)
 refine hwalk.mono fun e W' ⟨e1,hb⟩=>⟨_,e1,?_⟩
 exact post_law hW' hb laidOut (by rw [Tryz.params9];intro t ht;simp only [List.mem_cons,List.mem_nil_iff,or_false] at ht;rcases ht with rfl | rfl<;>exact ⟨by kernel_rfl,of_decide_eq_true (by kernel_rfl)⟩) (tb:=4) (by kernel_rfl) Tryz.underlying4 rfl rfl
theorem polyText_reads (os:Os) {H:Type} (enc:TypeId×Go.Value→H):∃ places,DataW.whole enc Tryz.prog ((laidWorld os).forCall (fun _ _=>0) ⟨#[],#[(.slice none 0 0),(.string ByteArray.empty)],[]⟩).memory Tryz.f9.params.toList Rows.polyTextSpec.vars false (#[(.slice none 0 0),(.string ByteArray.empty)]:Array Go.Value).toList 8=some ([.nil,.lit (.string [])],[],places) :=
 ⟨[],by kernel_rfl⟩
set_option maxRecDepth 100000 in
theorem polyText_lifted (os:Os) (started:os.Started) (H:Type) (enc:TypeId×Go.Value→H) (F:Stop.Interp) :
 ReturnsInHanded {} Tryz.checked os 9 .any ((OpenSpec.ofChange Rows.polyTextSpec).preRow enc Tryz.prog Tryz.f9 Rows.polyTextRow.domain false Rows.polyTextRow.laid) (((OpenSpec.ofChange Rows.polyTextSpec).at F).post enc Tryz.prog Tryz.f9 false true false false):=by
 obtain ⟨places,hx⟩:=polyText_reads os enc
 refine returnsInHanded_of_row (C:=Tryz.checked) (s:=OpenSpec.ofChange Rows.polyTextSpec) ownOff started (by kernel_rfl) Tryz.func9
  (witness_row_at (enc:=enc) (C:=Tryz.checked) false (laidWorld os) #[(.slice none 0 0),(.string ByteArray.empty)] rfl (by kernel_rfl) (by kernel_rfl) (by kernel_rfl)
   (OpenSpec.preRow_of_cond 8 hx (by kernel_rfl) (fun k hk=>by cases hk) (by kernel_rfl) (laid_any os _))) ?_
 intro W base args ds gs before hval hW _ _ _ hL hsh _
 exact polyText_contract H enc W base args ds gs before hval hW (gp_laid hL (by kernel_rfl) hsh)
theorem polyText_said:Rows.PolyTextSaid :=
 OpenClaim.holds_of_cond 9 Tryz.f9 rfl rfl rfl rfl rfl rfl rfl ⟨rfl,rfl,rfl,rfl,rfl⟩ rfl rfl rfl rfl rfl (by kernel_rfl) Tryz.func9 polyText_facts
  (of_decide_eq_true (by kernel_rfl)) polyText_wrap
  (fun os started H enc _ F=>by rw [OpenClaim.pre_eq_preRow];exact polyText_lifted os started H enc F)
set_option maxRecDepth 100000 in
theorem polyText_plain (f:FuncId) (fn:Func) (hf:Tryz.pinned.checked.prog.funcNamed "framewise/framewiselaw05.PolyText" = some f) (hfn:Tryz.pinned.checked.prog.funcs[f]? = some fn) :
 true=Tryz.pinned.checked.prog.looks []∧∀ (j:Nat) t,fn.params[j]? = some t→Tryz.pinned.checked.prog.wantsStandIn t=false:=by
 obtain rfl:f=9:=Option.some.inj ((show Tryz.prog.funcNamed "framewise/framewiselaw05.PolyText" = some 9 by kernel_rfl).symm.trans hf) |>.symm
 obtain rfl:fn=Tryz.f9:=(Option.some.inj (Tryz.func9.symm.trans hfn)).symm
 refine ⟨by kernel_rfl,fun j t ht => ?_⟩
 rw [Tryz.params9] at ht
 have hm:=Array.mem_of_getElem? ht
 simp only [List.mem_toArray,List.mem_cons,List.mem_nil_iff,or_false] at hm
 rcases hm with rfl | rfl<;>exact (by kernel_rfl:Tryz.prog.wantsStandIn _=false)
/-- THE CARD. -/
theorem polyText_card:Rows.PolyTextCardSaid :=
 Claim7.holds_tied_plain_at .later [] _ _ _ _ polyText_said (fun _ h=>by cases h) polyText_wf (fun _ h=>by cases h) polyText_row_tie rfl ⟨rfl,rfl⟩ (by kernel_rfl) rfl polyText_plain polyText_goes
end Go.Proofs.YtjfpcjnopbfekaaGreatDoor
