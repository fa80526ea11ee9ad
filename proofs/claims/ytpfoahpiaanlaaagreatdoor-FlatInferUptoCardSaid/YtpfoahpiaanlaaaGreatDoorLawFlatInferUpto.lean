/- 'framewiselaw38.FlatInfer' (second form) is true: for every list of types and every instruction that together hold at most 1048576 values and letters, it returns true, and the arguments read as they did: Infer gives the specified type, conditions and error for up to 6 types of up to 8 dimensions and any small instruction. Conditions: those of the row and of its card, no others. -/
import Derived.Test.YtpfoahpiaanlaaaGreatDoorBsFlatInferUpto
import Derived.Test.YtpfoahpiaanlaaaGreatDoorPnaFlatInferUpto
import Derived.Test.YtpfoahpiaanlaaaGreatDoorFactsZFlatInferUpto
import Derived.Test.YtpfoahpiaanlaaaGreatDoorTyGFlatInferUpto
import Derived.Deep.DeepWitnessRowRef
import Derived.Test.YtpfoahpiaanlaaaGreatDoorCards
set_option linter.unusedSimpArgs false
set_option linter.unusedVariables false
namespace Go.Proofs.YtpfoahpiaanlaaaGreatDoor
open Go.RowKit Go.Ab Go.Sh Go.ChangeShapes Go.WideShapes Go.ChangeAt
theorem rdc9:Tryz.prog.cellsOf 9=1:=by kernel_rfl
theorem rdc3:Tryz.prog.cellsOf 3=1:=by kernel_rfl
theorem rdc89:Tryz.prog.cellsOf 89=2:=by kernel_rfl
def FT89 (B:Nat):a8→Prop | ⟨y0,y1⟩=>FS B y0∧FN B y1
theorem rd_Coef:Rd Tryz.prog 89 aP FT89:=by intro H enc w base sp held fuel cs x h;obtain ⟨hl,n,hf⟩:=ng Tryz.underlying89 h;rw [rdc89] at hl;obtain ⟨z0,h0,b0⟩:=hf 0 _ rfl;obtain ⟨y0,k0,f0⟩:=(Bl Tryz.underlying9) enc w base sp held n _ _ h0;obtain ⟨z1,h1,b1⟩:=hf 1 _ rfl;obtain ⟨y1,k1,f1⟩:=(sl (k:=.i64) Tryz.underlying3) enc w base sp held n _ _ h1;refine ⟨⟨y0,y1⟩,?_,fun B hB=>⟨f0 B (Nat.le_trans b0 hB),f1 B (Nat.le_trans b1 hB)⟩⟩;exact DL.cons (o:=0) (s:=Tryz.prog.cellsOf 9) k0 rdc9.symm (by rw [rdc9];exact DL.cons (o:=1) (s:=Tryz.prog.cellsOf 3) k1 rdc3.symm (by rw [rdc3];exact DL.done hl))
theorem rdc71:Tryz.prog.cellsOf 71=1:=by kernel_rfl
theorem rdc73:Tryz.prog.cellsOf 73=2:=by kernel_rfl
def FT73 (B:Nat):Linear→Prop | ⟨y0,y1⟩=>FN B y0∧(FL FT89) B y1
theorem rd_Linear:Rd Tryz.prog 73 ab FT73:=by intro H enc w base sp held fuel cs x h;obtain ⟨hl,n,hf⟩:=ng Tryz.underlying73 h;rw [rdc73] at hl;obtain ⟨z0,h0,b0⟩:=hf 0 _ rfl;obtain ⟨y0,k0,f0⟩:=(sl (k:=.i64) Tryz.underlying3) enc w base sp held n _ _ h0;obtain ⟨z1,h1,b1⟩:=hf 1 _ rfl;obtain ⟨y1,k1,f1⟩:=(iv aG Tryz.underlying71 rdc89 (by decide) (fun _=>rfl) rd_Coef) enc w base sp held n _ _ h1;refine ⟨⟨y0,y1⟩,?_,fun B hB=>⟨f0 B (Nat.le_trans b0 hB),f1 B (Nat.le_trans b1 hB)⟩⟩;exact DL.cons (o:=0) (s:=Tryz.prog.cellsOf 3) k0 rdc3.symm (by rw [rdc3];exact DL.cons (o:=1) (s:=Tryz.prog.cellsOf 71) k1 rdc71.symm (by rw [rdc71];exact DL.done hl))
theorem rdc24:Tryz.prog.cellsOf 24=1:=by kernel_rfl
theorem rdc30:Tryz.prog.cellsOf 30=2:=by kernel_rfl
def FT30 (B:Nat):Shape→Prop | ⟨y0,y1⟩=>FS B y0∧(FL FT73) B y1
theorem rd_Shape:Rd Tryz.prog 30 ib FT30:=by intro H enc w base sp held fuel cs x h;obtain ⟨hl,n,hf⟩:=ng Tryz.underlying30 h;rw [rdc30] at hl;obtain ⟨z0,h0,b0⟩:=hf 0 _ rfl;obtain ⟨y0,k0,f0⟩:=(Bl Tryz.underlying9) enc w base sp held n _ _ h0;obtain ⟨z1,h1,b1⟩:=hf 1 _ rfl;obtain ⟨y1,k1,f1⟩:=(iv ai Tryz.underlying24 rdc73 (by decide) (fun _=>rfl) rd_Linear) enc w base sp held n _ _ h1;refine ⟨⟨y0,y1⟩,?_,fun B hB=>⟨f0 B (Nat.le_trans b0 hB),f1 B (Nat.le_trans b1 hB)⟩⟩;exact DL.cons (o:=0) (s:=Tryz.prog.cellsOf 9) k0 rdc9.symm (by rw [rdc9];exact DL.cons (o:=1) (s:=Tryz.prog.cellsOf 24) k1 rdc24.symm (by rw [rdc24];exact DL.done hl))
theorem rdc32:Tryz.prog.cellsOf 32=3:=by kernel_rfl
def FT32 (B:Nat):aY→Prop | ⟨y0,y1⟩=>FS B y0∧FT30 B y1
theorem rd_Typ:Rd Tryz.prog 32 aA FT32:=by intro H enc w base sp held fuel cs x h;obtain ⟨hl,n,hf⟩:=ng Tryz.underlying32 h;rw [rdc32] at hl;obtain ⟨z0,h0,b0⟩:=hf 0 _ rfl;obtain ⟨y0,k0,f0⟩:=(Bl Tryz.underlying9) enc w base sp held n _ _ h0;obtain ⟨z1,h1,b1⟩:=hf 1 _ rfl;obtain ⟨y1,k1,f1⟩:=rd_Shape enc w base sp held n _ _ h1;refine ⟨⟨y0,y1⟩,?_,fun B hB=>⟨f0 B (Nat.le_trans b0 hB),f1 B (Nat.le_trans b1 hB)⟩⟩;exact DL.cons (o:=0) (s:=Tryz.prog.cellsOf 9) k0 rdc9.symm (by rw [rdc9];exact DL.cons (o:=1) (s:=Tryz.prog.cellsOf 30) k1 rdc30.symm (by rw [rdc30];exact DL.done hl))
theorem rdc23:Tryz.prog.cellsOf 23=1:=by kernel_rfl
theorem rdc25:Tryz.prog.cellsOf 25=1:=by kernel_rfl
theorem rdc27:Tryz.prog.cellsOf 27=3:=by kernel_rfl
def FT27 (B:Nat):Array→Prop | ⟨y0,y1,y2⟩=>FS B y0∧(FL FN) B y1∧(FL FN) B y2
theorem rd_Array:Rd Tryz.prog 27 aQ FT27:=by intro H enc w base sp held fuel cs x h;obtain ⟨hl,n,hf⟩:=ng Tryz.underlying27 h;rw [rdc27] at hl;obtain ⟨z0,h0,b0⟩:=hf 0 _ rfl;obtain ⟨y0,k0,f0⟩:=(Bl Tryz.underlying9) enc w base sp held n _ _ h0;obtain ⟨z1,h1,b1⟩:=hf 1 _ rfl;obtain ⟨y1,k1,f1⟩:=(iv 0 Tryz.underlying23 rdc3 (by decide) (fun _=>rfl) (sl (k:=.i64) Tryz.underlying3)) enc w base sp held n _ _ h1;obtain ⟨z2,h2,b2⟩:=hf 2 _ rfl;obtain ⟨y2,k2,f2⟩:=(iv 0 Tryz.underlying23 rdc3 (by decide) (fun _=>rfl) (sl (k:=.i64) Tryz.underlying3)) enc w base sp held n _ _ h2;refine ⟨⟨y0,y1,y2⟩,?_,fun B hB=>⟨f0 B (Nat.le_trans b0 hB),f1 B (Nat.le_trans b1 hB),f2 B (Nat.le_trans b2 hB)⟩⟩;exact DL.cons (o:=0) (s:=Tryz.prog.cellsOf 9) k0 rdc9.symm (by rw [rdc9];exact DL.cons (o:=1) (s:=Tryz.prog.cellsOf 23) k1 rdc23.symm (by rw [rdc23];exact DL.cons (o:=2) (s:=Tryz.prog.cellsOf 23) k2 rdc23.symm (by rw [rdc23];exact DL.done hl)))
theorem rdc207:Tryz.prog.cellsOf 207=3:=by kernel_rfl
def FT207 (B:Nat):Step→Prop | ⟨y0,y1,y2⟩=>FS B y0∧FN B y1∧(FL FN) B y2
theorem rd_Step:Rd Tryz.prog 207 bO FT207:=by intro H enc w base sp held fuel cs x h;obtain ⟨hl,n,hf⟩:=ng Tryz.underlying207 h;rw [rdc207] at hl;obtain ⟨z0,h0,b0⟩:=hf 0 _ rfl;obtain ⟨y0,k0,f0⟩:=(Bl Tryz.underlying9) enc w base sp held n _ _ h0;obtain ⟨z1,h1,b1⟩:=hf 1 _ rfl;obtain ⟨y1,k1,f1⟩:=(sl (k:=.i64) Tryz.underlying3) enc w base sp held n _ _ h1;obtain ⟨z2,h2,b2⟩:=hf 2 _ rfl;obtain ⟨y2,k2,f2⟩:=(iv 0 Tryz.underlying23 rdc3 (by decide) (fun _=>rfl) (sl (k:=.i64) Tryz.underlying3)) enc w base sp held n _ _ h2;refine ⟨⟨y0,y1,y2⟩,?_,fun B hB=>⟨f0 B (Nat.le_trans b0 hB),f1 B (Nat.le_trans b1 hB),f2 B (Nat.le_trans b2 hB)⟩⟩;exact DL.cons (o:=0) (s:=Tryz.prog.cellsOf 9) k0 rdc9.symm (by rw [rdc9];exact DL.cons (o:=1) (s:=Tryz.prog.cellsOf 3) k1 rdc3.symm (by rw [rdc3];exact DL.cons (o:=2) (s:=Tryz.prog.cellsOf 23) k2 rdc23.symm (by rw [rdc23];exact DL.done hl)))
theorem rdc28:Tryz.prog.cellsOf 28=1:=by kernel_rfl
theorem rdc34:Tryz.prog.cellsOf 34=14:=by kernel_rfl
def FT34 (B:Nat):Instr→Prop | ⟨y0,y1,y2,y3,y4,y5,y6,y7,y8,y9⟩=>FS B y0∧(FL FN) B y1∧(FL FT73) B y2∧(FL (FL FN)) B y3∧(FL FT73) B y4∧FN B y5∧FT27 B y6∧(FL FT207) B y7∧FN B y8∧FT32 B y9
theorem rd_Instr:Rd Tryz.prog 34 aS FT34:=by intro H enc w base sp held fuel cs x h;obtain ⟨hl,n,hf⟩:=ng Tryz.underlying34 h;rw [rdc34] at hl;obtain ⟨z0,h0,b0⟩:=hf 0 _ rfl;obtain ⟨y0,k0,f0⟩:=(Bl Tryz.underlying9) enc w base sp held n _ _ h0;obtain ⟨z1,h1,b1⟩:=hf 1 _ rfl;obtain ⟨y1,k1,f1⟩:=(iv 0 Tryz.underlying23 rdc3 (by decide) (fun _=>rfl) (sl (k:=.i64) Tryz.underlying3)) enc w base sp held n _ _ h1;obtain ⟨z2,h2,b2⟩:=hf 2 _ rfl;obtain ⟨y2,k2,f2⟩:=(iv ai Tryz.underlying24 rdc73 (by decide) (fun _=>rfl) rd_Linear) enc w base sp held n _ _ h2;obtain ⟨z3,h3,b3⟩:=hf 3 _ rfl;obtain ⟨y3,k3,f3⟩:=(iv [] Tryz.underlying25 rdc23 (by decide) (fun _=>rfl) (iv 0 Tryz.underlying23 rdc3 (by decide) (fun _=>rfl) (sl (k:=.i64) Tryz.underlying3))) enc w base sp held n _ _ h3;obtain ⟨z4,h4,b4⟩:=hf 4 _ rfl;obtain ⟨y4,k4,f4⟩:=(iv ai Tryz.underlying24 rdc73 (by decide) (fun _=>rfl) rd_Linear) enc w base sp held n _ _ h4;obtain ⟨z5,h5,b5⟩:=hf 5 _ rfl;obtain ⟨y5,k5,f5⟩:=(sl (k:=.i64) Tryz.underlying3) enc w base sp held n _ _ h5;obtain ⟨z6,h6,b6⟩:=hf 6 _ rfl;obtain ⟨y6,k6,f6⟩:=rd_Array enc w base sp held n _ _ h6;obtain ⟨z7,h7,b7⟩:=hf 7 _ rfl;obtain ⟨y7,k7,f7⟩:=(iv a6 Tryz.underlying28 rdc207 (by decide) (fun _=>rfl) rd_Step) enc w base sp held n _ _ h7;obtain ⟨z8,h8,b8⟩:=hf 8 _ rfl;obtain ⟨y8,k8,f8⟩:=(sl (k:=.i64) Tryz.underlying3) enc w base sp held n _ _ h8;obtain ⟨z9,h9,b9⟩:=hf 9 _ rfl;obtain ⟨y9,k9,f9⟩:=rd_Typ enc w base sp held n _ _ h9;refine ⟨⟨y0,y1,y2,y3,y4,y5,y6,y7,y8,y9⟩,?_,fun B hB=>⟨f0 B (Nat.le_trans b0 hB),f1 B (Nat.le_trans b1 hB),f2 B (Nat.le_trans b2 hB),f3 B (Nat.le_trans b3 hB),f4 B (Nat.le_trans b4 hB),f5 B (Nat.le_trans b5 hB),f6 B (Nat.le_trans b6 hB),f7 B (Nat.le_trans b7 hB),f8 B (Nat.le_trans b8 hB),f9 B (Nat.le_trans b9 hB)⟩⟩;exact DL.cons (o:=0) (s:=Tryz.prog.cellsOf 9) k0 rdc9.symm (by rw [rdc9];exact DL.cons (o:=1) (s:=Tryz.prog.cellsOf 23) k1 rdc23.symm (by rw [rdc23];exact DL.cons (o:=2) (s:=Tryz.prog.cellsOf 24) k2 rdc24.symm (by rw [rdc24];exact DL.cons (o:=3) (s:=Tryz.prog.cellsOf 25) k3 rdc25.symm (by rw [rdc25];exact DL.cons (o:=4) (s:=Tryz.prog.cellsOf 24) k4 rdc24.symm (by rw [rdc24];exact DL.cons (o:=5) (s:=Tryz.prog.cellsOf 3) k5 rdc3.symm (by rw [rdc3];exact DL.cons (o:=6) (s:=Tryz.prog.cellsOf 27) k6 rdc27.symm (by rw [rdc27];exact DL.cons (o:=9) (s:=Tryz.prog.cellsOf 28) k7 rdc28.symm (by rw [rdc28];exact DL.cons (o:=10) (s:=Tryz.prog.cellsOf 3) k8 rdc3.symm (by rw [rdc3];exact DL.cons (o:=11) (s:=Tryz.prog.cellsOf 32) k9 rdc32.symm (by rw [rdc32];exact DL.done hl))))))))))
theorem okL_up {l:Linear} (h:FT73 1048576 l):Dd l:=by obtain ⟨c,ts⟩:=l;obtain ⟨_,h1,h2⟩:=h;refine ⟨by simp only;omega,fun t ht=>?_⟩;obtain ⟨v,n⟩:=t;have:=(h2 _ ht).1;unfold FS at this;simp only;omega
theorem okT_up {t:aY} (h:FT32 1048576 t):Sb t:=by obtain ⟨e,r,ds⟩:=t;obtain ⟨_,h1,_,h2⟩:=h;unfold FS at h1;exact ⟨by simp only;omega,fun l hl=>okL_up (h2 l hl)⟩
theorem law38_up (ts:List aY) (x:Instr) (h:FL FT32 1048576 ts) (k:FT34 1048576 x):kj ts x=some true:=by
 refine Mj ts x (fun t ht=>okT_up (h.2 t ht)) (fun l hl=>?_) (fun l hl=>?_)
 ·obtain ⟨y0,y1,y2,y3,y4,y5,y6,y7,y8,y9⟩:=x;exact okL_up (k.2.2.1.2 l hl)
 ·obtain ⟨y0,y1,y2,y3,y4,y5,y6,y7,y8,y9⟩:=x;exact okL_up (k.2.2.2.2.1.2 l hl)
set_option maxRecDepth 100000 in
theorem flatInfer_contract (H:Type) (enc:TypeId×Go.Value→H) (W:World) (base:Nat) (args:_root_.Array Go.Value) (ds gs:List (DataW H)) (before:List MemPlace)
 (hval:∀ (j:Nat) t v,Tryz.f3.params[j]? = some t→args[j]? = some v→Value.okWide Tryz.prog W .any base t v)
 (hW:DataW.Whole enc Tryz.prog Tryz.f3.params.toList Rows.flatInferSpec.vars false W args.toList ds gs before) (hk:Rows.uptoSmall H (ds++gs)=true) (hg:GP Tryz.prog W) :
 Calls Tryz.prog 3 args W fun e W'=>∃ v,e = .returned v∧Rows.flatInferSpec.post enc Tryz.prog Tryz.f3 false true false false W args v W':=by
 have hW':=hW;obtain ⟨p,q,hA0,hV,rfl,hfz,hnd⟩:=hW;have hA:DataW.TrodAll enc Tryz.prog W 0 (fun _=>true) true Tryz.f3.params.toList args.toList ds p:=hA0;rw [Tryz.params3] at hA hval;obtain ⟨v0,vs0,d0,ds0,p0,q0,hargs,rfl,rfl,h0,r0⟩:=trodAll_cons hA;obtain ⟨v1,Sz,d1,ds1,p1,q1,rfl,rfl,rfl,h1,r1⟩:=trodAll_cons r0;obtain ⟨rfl,rfl,rfl⟩:=trodAll_nil r1;obtain rfl:args = #[v0,v1]:=by cases args;simp_all
 obtain ⟨rfl,rfl⟩:=trodVars_none hV;obtain ⟨_,_,_,e0⟩:=okWide_slice Tryz.underlying22 (hval 0 22 v0 rfl rfl);obtain ⟨x0,k0,f0⟩:=KA (iv ak Tryz.underlying22 rdc32 (by decide) (fun _=>rfl) rd_Typ) (by rw [e0];rfl) h0;obtain ⟨x1,k1,f1⟩:=Fz Tryz.underlying34 rd_Instr (hval 1 34 v1 rfl rfl) h1;have hkb:vA ([d0,d1]++[]:List (DataW H))≤1048576:=S3 hk;have u0:=f0 1048576 (Nat.le_trans (xc (by simp)) hkb);have u1:=f1 1048576 (Nat.le_trans (xc (by simp)) hkb);have hwalk:=LV (Ac x0 x1 true (law38_up x0 x1 u0 u1)) (W:=W) (vs:=[v0,v1]) rfl (fun i hi=>by
  match i,hi with
  | 0,_=>exact k0
  | 1,_=>exact k1
  ) (fun w hk=>PC hk hg)
 refine hwalk.mono fun e W' ⟨e1,hb⟩=>⟨_,e1,?_⟩;exact Oo hW' hb laidOut (by rw [Tryz.params3];intro t ht;simp only [List.mem_cons,List.mem_nil_iff,or_false] at ht;rcases ht with rfl | rfl<;>exact ⟨by kernel_rfl,S3 (by kernel_rfl)⟩) (tb:=4) (by kernel_rfl) Tryz.underlying4 rfl rfl
theorem flatInfer_reads (os:Os) {H:Type} (enc:TypeId×Go.Value→H):∃ places,DataW.whole enc Tryz.prog ((laidWorld os).forCall (fun _ _=>0) ⟨#[],#[(.slice none 0 0),(.agg #[.string ByteArray.empty,.slice none 0 0,.slice none 0 0,.slice none 0 0,.slice none 0 0,.int .i64 0,.string ByteArray.empty,.slice none 0 0,.slice none 0 0,.slice none 0 0,.int .i64 0,.string ByteArray.empty,.string ByteArray.empty,.slice none 0 0])],[]⟩).memory Tryz.f3.params.toList Rows.flatInferSpec.vars false (#[(.slice none 0 0),(.agg #[.string ByteArray.empty,.slice none 0 0,.slice none 0 0,.slice none 0 0,.slice none 0 0,.int .i64 0,.string ByteArray.empty,.slice none 0 0,.slice none 0 0,.slice none 0 0,.int .i64 0,.string ByteArray.empty,.string ByteArray.empty,.slice none 0 0])]:_root_.Array Go.Value).toList 8=some ([.nil,.agg [.lit (.string []),.nil,.nil,.nil,.nil,.lit (.int .i64 0),.agg [.lit (.string []),.nil,.nil],.nil,.lit (.int .i64 0),.agg [.lit (.string []),.agg [.lit (.string []),.nil]]]],[],places) :=
 ⟨[],by kernel_rfl⟩
set_option maxRecDepth 100000 in
theorem flatInfer_lifted (os:Os) (started:os.Started) (H:Type) (enc:TypeId×Go.Value→H) (F:Stop.Interp) :
 ReturnsInHanded {} Tryz.checked os 3 .any ((Rows.OpenSpec.upto Rows.flatInferSpec).preRow enc Tryz.prog Tryz.f3 Rows.flatInferUptoRow.domain false Rows.flatInferUptoRow.laid) (((Rows.OpenSpec.upto Rows.flatInferSpec).at F).post enc Tryz.prog Tryz.f3 false true false false):=by
 obtain ⟨places,hx⟩:=flatInfer_reads os enc;refine returnsInHanded_of_row (C:=Tryz.checked) (s:=Rows.OpenSpec.upto Rows.flatInferSpec) Rj started (by kernel_rfl) Tryz.func3
  (witness_row_atRef (enc:=enc) (C:=Tryz.checked) false (laidWorld os) #[(.slice none 0 0),(.agg #[.string ByteArray.empty,.slice none 0 0,.slice none 0 0,.slice none 0 0,.slice none 0 0,.int .i64 0,.string ByteArray.empty,.slice none 0 0,.slice none 0 0,.slice none 0 0,.int .i64 0,.string ByteArray.empty,.string ByteArray.empty,.slice none 0 0])] rfl (by kernel_rfl) (by kernel_rfl) (by kernel_rfl)
   (OpenSpec.preRow_of_cond 8 hx (by kernel_rfl) (fun k hk=>by cases hk;kernel_rfl) (by kernel_rfl) (NQ os _))) ?_
 intro W base args ds gs before hval hW _ hk _ hL hsh _;exact flatInfer_contract H enc W base args ds gs before hval hW (hk _ rfl) (PD hL (by kernel_rfl) hsh)
theorem flatInfer_said:Rows.FlatInferUptoSaid :=
 OpenClaim.holds_of_cond 3 Tryz.f3 rfl rfl rfl rfl rfl rfl rfl ⟨rfl,rfl,rfl,rfl,rfl⟩ rfl rfl rfl rfl rfl (by kernel_rfl) Tryz.func3 flatInfer_facts
  (S3 (by kernel_rfl)) flatInfer_wrap
  (fun os started H enc _ F=>by rw [OpenClaim.pre_eq_preRow];exact flatInfer_lifted os started H enc F)
set_option maxRecDepth 100000 in
theorem flatInfer_plain (f:FuncId) (fn:Func) (hf:Tryz.pinned.checked.prog.funcNamed "framewise/framewiselaw38.FlatInfer" = some f) (hfn:Tryz.pinned.checked.prog.funcs[f]? = some fn) :
 true=Tryz.pinned.checked.prog.looks []∧∀ (j:Nat) t,fn.params[j]? = some t→Tryz.pinned.checked.prog.wantsStandIn t=false:=by
 obtain rfl:f=3:=Tb ((show Tryz.prog.funcNamed "framewise/framewiselaw38.FlatInfer" = some 3 by kernel_rfl).symm.trans hf) |>.symm;obtain rfl:fn=Tryz.f3:=(Tb (Tryz.func3.symm.trans hfn)).symm;refine ⟨by kernel_rfl,fun j t ht=>?_⟩;rw [Tryz.params3] at ht;have hm:=Array.mem_of_getElem? ht;simp only [List.mem_toArray,List.mem_cons,List.mem_nil_iff,or_false] at hm;rcases hm with rfl | rfl<;>exact (by kernel_rfl:Tryz.prog.wantsStandIn _=false)
theorem flatInfer_card:Rows.FlatInferUptoCardSaid :=
 Claim7.holds_tied_plain_at .later [] _ _ _ _ flatInfer_said (fun _ h=>by cases h) flatInfer_wf (fun _ h=>by cases h) flatInferUpto_row_tie rfl ⟨rfl,rfl⟩ (by kernel_rfl) rfl flatInfer_plain flatInfer_goes
end Go.Proofs.YtpfoahpiaanlaaaGreatDoor
