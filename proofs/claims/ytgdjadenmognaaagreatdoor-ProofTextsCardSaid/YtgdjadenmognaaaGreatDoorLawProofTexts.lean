/- The statement ProofTexts: at whatever arguments the law framewiselaw41.ProofTexts returns true: the lines that the program prints of a proof, and the proofs that it reads out of lines, are those of the reference; what is printed of a proof of the lawful size is read back as that proof, and what is read is printed back as those lines. It holds with no further condition. By an AI agent. -/
import Derived.Test.YtgdjadenmognaaaGreatDoorBsProofTexts
import Derived.Test.YtgdjadenmognaaaGreatDoorPnaProofTexts
import Derived.Test.YtgdjadenmognaaaGreatDoorFactsZProofTexts
import Derived.Test.YtgdjadenmognaaaGreatDoorTyGProofTexts
import Derived.Deep.DeepWitnessRowRef
import Derived.Test.YtgdjadenmognaaaGreatDoorCards
set_option linter.unusedSimpArgs false
set_option linter.unusedVariables false
namespace Go.Proofs.YtgdjadenmognaaaGreatDoor
open Go.RowKit Go.Ab Go.Sh Go.ChangeShapes Go.WideShapes Go.ChangeAt
theorem rdc3:Tryz.prog.cellsOf 3=1:=by kernel_rfl
theorem rdc33:Tryz.prog.cellsOf 33=3:=by kernel_rfl
def FT33 (B:Nat):Rewrite→Prop | ⟨y0,y1,y2⟩=>(FI .i64) B y0∧(FI .i64) B y1∧(FI .i64) B y2
theorem rd_Rewrite:Rd Tryz.prog 33 al FT33:=by intro H enc w base sp held fuel cs x h;obtain ⟨hl,n,hf⟩:=ng Tryz.underlying33 h;rw [rdc33] at hl;obtain ⟨z0,h0,b0⟩:=hf 0 _ rfl;obtain ⟨y0,k0,f0⟩:=(sl (k:=.i64) Tryz.underlying3) enc w base sp held n _ _ h0;obtain ⟨z1,h1,b1⟩:=hf 1 _ rfl;obtain ⟨y1,k1,f1⟩:=(sl (k:=.i64) Tryz.underlying3) enc w base sp held n _ _ h1;obtain ⟨z2,h2,b2⟩:=hf 2 _ rfl;obtain ⟨y2,k2,f2⟩:=(sl (k:=.i64) Tryz.underlying3) enc w base sp held n _ _ h2;refine ⟨⟨y0,y1,y2⟩,?_,fun B hB=>⟨f0 B (Nat.le_trans b0 hB),f1 B (Nat.le_trans b1 hB),f2 B (Nat.le_trans b2 hB)⟩⟩;exact DL.cons (o:=0) (s:=Tryz.prog.cellsOf 3) k0 rdc3.symm (by rw [rdc3];exact DL.cons (o:=1) (s:=Tryz.prog.cellsOf 3) k1 rdc3.symm (by rw [rdc3];exact DL.cons (o:=2) (s:=Tryz.prog.cellsOf 3) k2 rdc3.symm (by rw [rdc3];exact DL.done hl)))
theorem rdc9:Tryz.prog.cellsOf 9=1:=by kernel_rfl
theorem law41_up {B C:Nat} (p:List Rewrite) (l:List aj) (h:FL FT33 B p) (k:FL FS C l):e8 p l=some true:=TV p l fun r hr=>by obtain ⟨y0,y1,y2⟩:=r;obtain ⟨_,h1,h2⟩:=h.2 _ hr;exact ⟨h1.2,h2.2⟩
set_option maxRecDepth 100000 in
theorem proofTexts_contract (H:Type) (enc:TypeId×Go.Value→H) (W:World) (base:Nat) (args:_root_.Array Go.Value) (ds gs:List (DataW H)) (before:List MemPlace)
 (hval:∀ (j:Nat) t v,Tryz.f3.params[j]? = some t→args[j]? = some v→Value.okWide Tryz.prog W .any base t v)
 (hW:DataW.Whole enc Tryz.prog Tryz.f3.params.toList Rows.proofTextsSpec.vars false W args.toList ds gs before) (hg:GP Tryz.prog W) :
 Calls Tryz.prog 3 args W fun e W'=>∃ v,e = .returned v∧Rows.proofTextsSpec.post enc Tryz.prog Tryz.f3 false true false false W args v W':=by
 have hW':=hW;obtain ⟨p,q,hA0,hV,rfl,hfz,hnd⟩:=hW;have hA:DataW.TrodAll enc Tryz.prog W 0 (fun _=>true) true Tryz.f3.params.toList args.toList ds p:=hA0;rw [Tryz.params3] at hA hval;obtain ⟨v0,vs0,d0,ds0,p0,q0,hargs,rfl,rfl,h0,r0⟩:=trodAll_cons hA;obtain ⟨v1,Sz,d1,ds1,p1,q1,rfl,rfl,rfl,h1,r1⟩:=trodAll_cons r0;obtain ⟨rfl,rfl,rfl⟩:=trodAll_nil r1;obtain rfl:args = #[v0,v1]:=by cases args;simp_all
 obtain ⟨rfl,rfl⟩:=trodVars_none hV;obtain ⟨_,_,_,e0⟩:=okWide_slice Tryz.underlying22 (hval 0 22 v0 rfl rfl);obtain ⟨x0,k0,f0⟩:=KA (iv ax Tryz.underlying22 rdc33 (by decide) (fun _=>rfl) rd_Rewrite) (by rw [e0];rfl) h0;obtain ⟨_,_,_,e1⟩:=okWide_slice Tryz.underlying23 (hval 1 23 v1 rfl rfl);obtain ⟨x1,k1,f1⟩:=KA (iv [] Tryz.underlying23 rdc9 (by decide) (fun _=>rfl) (Bl Tryz.underlying9)) (by rw [e1];rfl) h1;have u0:=f0 (zE d0) (Nat.le_refl _);have u1:=f1 (zE d1) (Nat.le_refl _);have hwalk:=LV (Tn x0 x1 true (law41_up x0 x1 u0 u1)) (W:=W) (vs:=[v0,v1]) rfl (fun i hi=>by
  match i,hi with
  | 0,_=>exact k0
  | 1,_=>exact k1
  ) (fun w hk=>PC hk hg)
 refine hwalk.mono fun e W' ⟨e1,hb⟩=>⟨_,e1,?_⟩;exact Oo hW' hb laidOut (by rw [Tryz.params3];intro t ht;simp only [List.mem_cons,List.mem_nil_iff,or_false] at ht;rcases ht with rfl | rfl<;>exact ⟨by kernel_rfl,S3 (by kernel_rfl)⟩) (tb:=4) (by kernel_rfl) Tryz.underlying4 rfl rfl
theorem proofTexts_reads (os:Os) {H:Type} (enc:TypeId×Go.Value→H):∃ places,DataW.whole enc Tryz.prog ((laidWorld os).forCall (fun _ _=>0) ⟨#[],#[(.slice none 0 0),(.slice none 0 0)],[]⟩).memory Tryz.f3.params.toList Rows.proofTextsSpec.vars false (#[(.slice none 0 0),(.slice none 0 0)]:_root_.Array Go.Value).toList 8=some ([.nil,.nil],[],places) :=
 ⟨[],by kernel_rfl⟩
set_option maxRecDepth 100000 in
theorem proofTexts_lifted (os:Os) (started:os.Started) (H:Type) (enc:TypeId×Go.Value→H) (F:Stop.Interp) :
 ReturnsInHanded {} Tryz.checked os 3 .any ((OpenSpec.ofChange Rows.proofTextsSpec).preRow enc Tryz.prog Tryz.f3 Rows.proofTextsRow.domain false Rows.proofTextsRow.laid) (((OpenSpec.ofChange Rows.proofTextsSpec).at F).post enc Tryz.prog Tryz.f3 false true false false):=by
 obtain ⟨places,hx⟩:=proofTexts_reads os enc;refine returnsInHanded_of_row (C:=Tryz.checked) (s:=OpenSpec.ofChange Rows.proofTextsSpec) Rj started (by kernel_rfl) Tryz.func3
  (witness_row_atRef (enc:=enc) (C:=Tryz.checked) false (laidWorld os) #[(.slice none 0 0),(.slice none 0 0)] rfl (by kernel_rfl) (by kernel_rfl) (by kernel_rfl)
   (OpenSpec.preRow_of_cond 8 hx (by kernel_rfl) (fun k hk=>by cases hk) (by kernel_rfl) (NQ os _))) ?_
 intro W base args ds gs before hval hW _ _ _ hL hsh _;exact proofTexts_contract H enc W base args ds gs before hval hW (PD hL (by kernel_rfl) hsh)
theorem proofTexts_said:Rows.ProofTextsSaid :=
 OpenClaim.holds_of_cond 3 Tryz.f3 rfl rfl rfl rfl rfl rfl rfl ⟨rfl,rfl,rfl,rfl,rfl⟩ rfl rfl rfl rfl rfl (by kernel_rfl) Tryz.func3 proofTexts_facts
  (S3 (by kernel_rfl)) proofTexts_wrap
  (fun os started H enc _ F=>by rw [OpenClaim.pre_eq_preRow];exact proofTexts_lifted os started H enc F)
set_option maxRecDepth 100000 in
theorem proofTexts_plain (f:FuncId) (fn:Func) (hf:Tryz.pinned.checked.prog.funcNamed "framewise/framewiselaw41.ProofTexts" = some f) (hfn:Tryz.pinned.checked.prog.funcs[f]? = some fn) :
 true=Tryz.pinned.checked.prog.looks []∧∀ (j:Nat) t,fn.params[j]? = some t→Tryz.pinned.checked.prog.wantsStandIn t=false:=by
 obtain rfl:f=3:=Tb ((show Tryz.prog.funcNamed "framewise/framewiselaw41.ProofTexts" = some 3 by kernel_rfl).symm.trans hf) |>.symm;obtain rfl:fn=Tryz.f3:=(Tb (Tryz.func3.symm.trans hfn)).symm;refine ⟨by kernel_rfl,fun j t ht=>?_⟩;rw [Tryz.params3] at ht;have hm:=Array.mem_of_getElem? ht;simp only [List.mem_toArray,List.mem_cons,List.mem_nil_iff,or_false] at hm;rcases hm with rfl | rfl<;>exact (by kernel_rfl:Tryz.prog.wantsStandIn _=false)
theorem proofTexts_card:Rows.ProofTextsCardSaid :=
 Claim7.holds_tied_plain_at .later [] _ _ _ _ proofTexts_said (fun _ h=>by cases h) proofTexts_wf (fun _ h=>by cases h) proofTexts_row_tie rfl ⟨rfl,rfl⟩ (by kernel_rfl) rfl proofTexts_plain proofTexts_goes
end Go.Proofs.YtgdjadenmognaaaGreatDoor
