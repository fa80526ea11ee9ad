/- The statement ProofLong: at whatever arguments the law framewiselaw41.ProofLong returns true: for a rewrite that is repeated up to 1010 times, the replay of the program, the lines that it prints, and the proof that it reads out of them are those of the reference. It holds with no further condition. By an AI agent. -/
import Derived.Test.YtkibeldbfkainaaGreatDoorBsProofLong
import Derived.Test.YtkibeldbfkainaaGreatDoorPnaProofLong
import Derived.Test.YtkibeldbfkainaaGreatDoorFactsZProofLong
import Derived.Test.YtkibeldbfkainaaGreatDoorTyGProofLong
import Derived.Deep.DeepWitnessRowRef
import Derived.Test.YtkibeldbfkainaaGreatDoorCards
set_option linter.unusedSimpArgs false
set_option linter.unusedVariables false
namespace Go.Proofs.YtkibeldbfkainaaGreatDoor
open Go.RowKit Go.Ab Go.Sh Go.ChangeShapes Go.WideShapes Go.ChangeAt
theorem rdc3:Tryz.prog.cellsOf 3=1:=by kernel_rfl
theorem rdc23:Tryz.prog.cellsOf 23=3:=by kernel_rfl
def FT23 (B:Nat):Rewrite→Prop | ⟨y0,y1,y2⟩=>(FI .i64) B y0∧(FI .i64) B y1∧(FI .i64) B y2
theorem rd_Rewrite:Rd Tryz.prog 23 al FT23:=by intro H enc w base sp held fuel cs x h;obtain ⟨hl,n,hf⟩:=ng Tryz.underlying23 h;rw [rdc23] at hl;obtain ⟨z0,h0,b0⟩:=hf 0 _ rfl;obtain ⟨y0,k0,f0⟩:=(sl (k:=.i64) Tryz.underlying3) enc w base sp held n _ _ h0;obtain ⟨z1,h1,b1⟩:=hf 1 _ rfl;obtain ⟨y1,k1,f1⟩:=(sl (k:=.i64) Tryz.underlying3) enc w base sp held n _ _ h1;obtain ⟨z2,h2,b2⟩:=hf 2 _ rfl;obtain ⟨y2,k2,f2⟩:=(sl (k:=.i64) Tryz.underlying3) enc w base sp held n _ _ h2;refine ⟨⟨y0,y1,y2⟩,?_,fun B hB=>⟨f0 B (Nat.le_trans b0 hB),f1 B (Nat.le_trans b1 hB),f2 B (Nat.le_trans b2 hB)⟩⟩;exact DL.cons (o:=0) (s:=Tryz.prog.cellsOf 3) k0 rdc3.symm (by rw [rdc3];exact DL.cons (o:=1) (s:=Tryz.prog.cellsOf 3) k1 rdc3.symm (by rw [rdc3];exact DL.cons (o:=2) (s:=Tryz.prog.cellsOf 3) k2 rdc3.symm (by rw [rdc3];exact DL.done hl)))
theorem law41_up {B C:Nat} (x:Rewrite) (n:Int) (h:FT23 B x) (k:FI .u16 C n):fw x n=some true:=by obtain ⟨y0,y1,y2⟩:=x;obtain ⟨_,h1,h2⟩:=h;have k1:0≤n:=k.1;have k2:n≤65535:=k.2;exact UO _ n ⟨h1.2,h2.2⟩ k1 (by omega)
set_option maxRecDepth 100000 in
theorem proofLong_contract (H:Type) (enc:TypeId×Go.Value→H) (W:World) (base:Nat) (args:_root_.Array Go.Value) (ds gs:List (DataW H)) (before:List MemPlace)
 (hval:∀ (j:Nat) t v,Tryz.f3.params[j]? = some t→args[j]? = some v→Value.okWide Tryz.prog W .any base t v)
 (hW:DataW.Whole enc Tryz.prog Tryz.f3.params.toList Rows.proofLongSpec.vars false W args.toList ds gs before) (hg:GP Tryz.prog W) :
 Calls Tryz.prog 3 args W fun e W'=>∃ v,e = .returned v∧Rows.proofLongSpec.post enc Tryz.prog Tryz.f3 false true false false W args v W':=by
 have hW':=hW;obtain ⟨p,q,hA0,hV,rfl,hfz,hnd⟩:=hW;have hA:DataW.TrodAll enc Tryz.prog W 0 (fun _=>true) true Tryz.f3.params.toList args.toList ds p:=hA0;rw [Tryz.params3] at hA hval;obtain ⟨v0,vs0,d0,ds0,p0,q0,hargs,rfl,rfl,h0,r0⟩:=trodAll_cons hA;obtain ⟨v1,Sz,d1,ds1,p1,q1,rfl,rfl,rfl,h1,r1⟩:=trodAll_cons r0;obtain ⟨rfl,rfl,rfl⟩:=trodAll_nil r1;obtain rfl:args = #[v0,v1]:=by cases args;simp_all
 obtain ⟨rfl,rfl⟩:=trodVars_none hV;obtain ⟨x0,k0,f0⟩:=Fz Tryz.underlying23 rd_Rewrite (hval 0 23 v0 rfl rfl) h0;obtain ⟨_,e1⟩:=okWide_int Tryz.underlying24 (hval 1 24 v1 rfl rfl);obtain ⟨x1,k1,f1⟩:=KA (sl (k:=.u16) Tryz.underlying24) (by rw [e1];rfl) h1;have u0:=f0 (zE d0) (Nat.le_refl _);have u1:=f1 (zE d1) (Nat.le_refl _);have hwalk:=LV (T5 x0 x1 true (law41_up x0 x1 u0 u1)) (W:=W) (vs:=[v0,v1]) rfl (fun i hi=>by
  match i,hi with
  | 0,_=>exact k0
  | 1,_=>exact k1
  ) (fun w hk=>PC hk hg)
 refine hwalk.mono fun e W' ⟨e1,hb⟩=>⟨_,e1,?_⟩;exact Oo hW' hb laidOut (by rw [Tryz.params3];intro t ht;simp only [List.mem_cons,List.mem_nil_iff,or_false] at ht;rcases ht with rfl | rfl<;>exact ⟨by kernel_rfl,S3 (by kernel_rfl)⟩) (tb:=4) (by kernel_rfl) Tryz.underlying4 rfl rfl
theorem proofLong_reads (os:Os) {H:Type} (enc:TypeId×Go.Value→H):∃ places,DataW.whole enc Tryz.prog ((laidWorld os).forCall (fun _ _=>0) ⟨#[],#[(.agg #[.int .i64 0,.int .i64 0,.int .i64 0]),(.int .u16 0)],[]⟩).memory Tryz.f3.params.toList Rows.proofLongSpec.vars false (#[(.agg #[.int .i64 0,.int .i64 0,.int .i64 0]),(.int .u16 0)]:_root_.Array Go.Value).toList 8=some ([.agg [.lit (.int .i64 0),.lit (.int .i64 0),.lit (.int .i64 0)],.lit (.int .u16 0)],[],places) :=
 ⟨[],by kernel_rfl⟩
set_option maxRecDepth 100000 in
theorem proofLong_lifted (os:Os) (started:os.Started) (H:Type) (enc:TypeId×Go.Value→H) (F:Stop.Interp) :
 ReturnsInHanded {} Tryz.checked os 3 .any ((OpenSpec.ofChange Rows.proofLongSpec).preRow enc Tryz.prog Tryz.f3 Rows.proofLongRow.domain false Rows.proofLongRow.laid) (((OpenSpec.ofChange Rows.proofLongSpec).at F).post enc Tryz.prog Tryz.f3 false true false false):=by
 obtain ⟨places,hx⟩:=proofLong_reads os enc;refine returnsInHanded_of_row (C:=Tryz.checked) (s:=OpenSpec.ofChange Rows.proofLongSpec) Rj started (by kernel_rfl) Tryz.func3
  (witness_row_atRef (enc:=enc) (C:=Tryz.checked) false (laidWorld os) #[(.agg #[.int .i64 0,.int .i64 0,.int .i64 0]),(.int .u16 0)] rfl (by kernel_rfl) (by kernel_rfl) (by kernel_rfl)
   (OpenSpec.preRow_of_cond 8 hx (by kernel_rfl) (fun k hk=>by cases hk) (by kernel_rfl) (NQ os _))) ?_
 intro W base args ds gs before hval hW _ _ _ hL hsh _;exact proofLong_contract H enc W base args ds gs before hval hW (PD hL (by kernel_rfl) hsh)
theorem proofLong_said:Rows.ProofLongSaid :=
 OpenClaim.holds_of_cond 3 Tryz.f3 rfl rfl rfl rfl rfl rfl rfl ⟨rfl,rfl,rfl,rfl,rfl⟩ rfl rfl rfl rfl rfl (by kernel_rfl) Tryz.func3 proofLong_facts
  (S3 (by kernel_rfl)) proofLong_wrap
  (fun os started H enc _ F=>by rw [OpenClaim.pre_eq_preRow];exact proofLong_lifted os started H enc F)
set_option maxRecDepth 100000 in
theorem proofLong_plain (f:FuncId) (fn:Func) (hf:Tryz.pinned.checked.prog.funcNamed "framewise/framewiselaw41.ProofLong" = some f) (hfn:Tryz.pinned.checked.prog.funcs[f]? = some fn) :
 true=Tryz.pinned.checked.prog.looks []∧∀ (j:Nat) t,fn.params[j]? = some t→Tryz.pinned.checked.prog.wantsStandIn t=false:=by
 obtain rfl:f=3:=Tb ((show Tryz.prog.funcNamed "framewise/framewiselaw41.ProofLong" = some 3 by kernel_rfl).symm.trans hf) |>.symm;obtain rfl:fn=Tryz.f3:=(Tb (Tryz.func3.symm.trans hfn)).symm;refine ⟨by kernel_rfl,fun j t ht=>?_⟩;rw [Tryz.params3] at ht;have hm:=Array.mem_of_getElem? ht;simp only [List.mem_toArray,List.mem_cons,List.mem_nil_iff,or_false] at hm;rcases hm with rfl | rfl<;>exact (by kernel_rfl:Tryz.prog.wantsStandIn _=false)
theorem proofLong_card:Rows.ProofLongCardSaid :=
 Claim7.holds_tied_plain_at .later [] _ _ _ _ proofLong_said (fun _ h=>by cases h) proofLong_wf (fun _ h=>by cases h) proofLong_row_tie rfl ⟨rfl,rfl⟩ (by kernel_rfl) rfl proofLong_plain proofLong_goes
end Go.Proofs.YtkibeldbfkainaaGreatDoor
