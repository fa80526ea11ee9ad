/- The frame of a card, and what the listed variables give. -/
import Derived.Test.YtkibeldbfkainaaGreatDoorFrcProofLong
import Derived.Carry
import Derived.ChangeSame
import Derived.ChangeArms
import Derived.OpenShut
import Derived.WalkKit
import Derived.ProofKit
import Derived.Deep.DeepHandedRow
import Derived.HandedShaped
import Derived.LaidLaws
import Derived.Lib.LaidTab
import Derived.Shelf.Vars
import Derived.Test.YtkibeldbfkainaaGreatDoorRows
import Derived.Test.YtkibeldbfkainaaGreatDoorBtBProofLong
import Derived.Test.YtkibeldbfkainaaGreatDoorBtCProofLong
import Derived.Test.YtkibeldbfkainaaGreatDoorBtDProofLong
set_option linter.unusedSimpArgs false
set_option linter.unusedVariables false
namespace Go.Ab
open Go.RowKit Go.Sh Go.ChangeShapes Go.WideShapes
def DL (w:World) (us:List AV) (cs:List Value):Prop:=us.length=cs.length∧∀ i,i<us.length→D w (fun _=>False) (us.getD i .any) (cs.getD i undef)
theorem DL.nil {w:World}:DL w [] []:=⟨rfl,fun i hi=>by simp at hi⟩
theorem DL.one {w:World} {a:AV} {v:Value} (h:D w (fun _=>False) a v):DL w [a] [v]:=⟨rfl,fun i hi=>by
 have:i=0:=by simpa using hi
 subst this;exact h⟩
theorem DL.append {w:World} {us bs:List AV} {cs ds:List Value} (h:DL w us cs) (h':DL w bs ds):DL w (us++bs) (cs++ds):=by
 refine ⟨by simp [h.1,h'.1],fun i hi=>?_⟩;by_cases hl:i<us.length
 ·have e1:(us++bs).getD i .any=us.getD i .any:=by simp [SW,List.getElem?_append_left hl]
  have e2:(cs++ds).getD i undef=cs.getD i undef:=by rw [h.1] at hl;simp [SW,List.getElem?_append_left hl]
  rw [e1,e2];exact h.2 i hl
 ·have hge:us.length≤i:=by omega
  rw [bz hge,bz (by rw [← h.1];exact hge),← h.1];refine h'.2 _ ?_;simp at hi;omega
theorem DL.cons {w:World} {us bs:List AV} {cs:List Value} {o s:Nat} (h:DL w us ((cs.drop o).take s)) (hs:us.length=s) (h':DL w bs (cs.drop (o+s))):DL w (us++bs) (cs.drop o):=by
 have e:cs.drop o=(cs.drop o).take s++cs.drop (o+s):=by rw [← List.drop_drop];exact (List.take_append_drop s _).symm
 rw [e];exact h.append h'
theorem DL.done {w:World} {cs:List Value} {o:Nat} (h:cs.length=o):DL w [] (cs.drop o):=by rw [List.drop_eq_nil_of_le (by omega)];exact .nil
theorem DL.agg {w:World} {us:List AV} {cs:Array Value} (h:DL w us cs.toList):D w (fun _=>False) (.agg us) (.agg cs):=.agg _ _ (by simpa using h.1) fun i hi=>by have:=h.2 i hi;simpa [SZ,SW] using this
abbrev zE {H:Type} (d:DataW H):Nat:=Go.Proofs.YtkibeldbfkainaaGreatDoor.Rows.uptoBulk d
abbrev vA {H:Type} (l:List (DataW H)):Nat:=Go.Proofs.YtkibeldbfkainaaGreatDoor.Rows.uptoBulkAll l
theorem xc {H:Type} {d:DataW H} {l:List (DataW H)} (h:d∈l):zE d≤vA l:=by
 induction l with
 | nil=>cases h
 | cons x r ih =>
  unfold vA;simp only [Go.Proofs.YtkibeldbfkainaaGreatDoor.Rows.uptoBulkAll];rcases List.mem_cons.1 h with rfl | h
  ·exact Nat.le_add_right _ _
  ·exact Nat.le_trans (ih h) (Nat.le_add_left _ _)
theorem Ni {H:Type} (l:List (DataW H)):vA l≤zE (.agg l):=by unfold zE vA;simp only [Go.Proofs.YtkibeldbfkainaaGreatDoor.Rows.uptoBulk];omega
def Rd {α:Type} (P:Program) (t:TypeId) (c:α→List AV) (F:Nat→α→Prop):Prop :=
 ∀ {H:Type} (enc:TypeId×Value→H) (w:World) (base:Nat) (sp:Nat→Bool) (held:Bool) (fuel:Nat) (cs:List Value) (x:DataW H×List MemPlace),DataW.trod enc P w base sp held fuel t cs=some x→∃ y,DL w (c y) cs∧∀ B,zE x.1≤B→F B y
def FI (k:IntKind) (B:Nat) (n:Int):Prop:=k.min≤n∧n≤k.max
section
variable {P:Program} {t e:TypeId}
theorem sl {k:IntKind} (ht:P.underlying t=some (.int k)):Rd P t (fun (n:Int)=>[.int k n]) (FI k):=fun enc w base sp held fuel cs x h=>by obtain ⟨n,rfl,_,hw⟩:=DataW.trod_int ht h;exact ⟨n,.one (.int _ _),fun _ _=>(by simpa [Lit.wf] using hw:k.min≤n∧n≤k.max)⟩
theorem ng {fs:Array Field} (ht:P.underlying t=some (.struct fs)) {H:Type} {enc:TypeId×Value→H} {w:World} {base:Nat} {sp:Nat→Bool} {held:Bool} {fuel:Nat} {cs:List Value} {x:DataW H×List MemPlace}
 (h:DataW.trod enc P w base sp held fuel t cs=some x):cs.length=P.cellsOf t∧∃ n,∀ (i:Nat) (f:Field),fs[i]? = some f→∃ y,DataW.trod enc P w base sp held n f.type ((cs.drop f.offset).take (P.cellsOf f.type))=some y∧zE y.1≤zE x.1:=by
 obtain ⟨xs,n,_,rfl,h1,h2,h3⟩:=DataW.trod_struct ht h;refine ⟨h1,n,fun i f hf=>?_⟩;have hi:i<fs.size:=(Array.getElem?_eq_some_iff.1 hf).1;exact ⟨xs[i]'(by omega),by rw [h3 i f hf,SX (by omega)],Nat.le_trans (xc (List.mem_map_of_mem (List.getElem_mem _))) (Ni _)⟩
theorem Fz {α:Type} {c:α→List AV} {fs:Array Field} (ht:P.underlying t=some (.struct fs)) {F:Nat→α→Prop} (hr:Rd P t c F) {r:Reach} {b0:Nat} {H:Type} {enc:TypeId×Value→H} {w:World} {base:Nat} {sp:Nat→Bool} {held:Bool} {v:Value} {d:DataW H} {ps:List MemPlace}
 (hv:Value.okWide P w r b0 t v) (h:DataW.Trod enc P w base sp held t v d ps):∃ y,D w (fun _=>False) (.agg (c y)) v∧∀ B,zE d≤B→F B y:=by
 obtain ⟨cs,rfl,_⟩:=okWide_struct ht hv;obtain ⟨fuel,h⟩:=h;obtain ⟨y,hy,hF⟩:=hr enc w base sp held fuel _ _ h;exact ⟨y,hy.agg,hF⟩
theorem KA {α:Type} {c:α→AV} {F:Nat→α→Prop} (hr:Rd P t (fun y=>[c y]) F) {H:Type} {enc:TypeId×Value→H} {w:World} {base:Nat} {sp:Nat→Bool} {held:Bool} {v:Value} {d:DataW H} {ps:List MemPlace}
 (hn:v.cells = #[v]) (h:DataW.Trod enc P w base sp held t v d ps):∃ y,D w (fun _=>False) (c y) v∧∀ B,zE d≤B→F B y:=by
 obtain ⟨fuel,h⟩:=h;obtain ⟨y,hy,hF⟩:=hr enc w base sp held fuel _ _ h;rw [hn] at hy;exact ⟨y,hy.2 0 (by simp),hF⟩
end
section
variable {P:Program}
theorem LV {f:FuncId} {args:List AV} {b:Bool} (h:bp P f args (.bool b)) {W:World} {vs:List Value} (hl:vs.length=args.length) (hd:∀ i,i<args.length→D W (fun _=>False) (args.getD i .any) (vs.getD i undef))
 (hgp:∀ w,dG (fun b=>b<W.heap.size) W w→GP P w):Calls P f vs.toArray W fun e W'=>e = .returned (.bool b)∧Below W.heap.size W W':=by
 let c:Cx P:=⟨fun b=>b<W.heap.size,fun _=>False,W,fun _=>0,fun _=>(0,0),fun _ h=>h,fun _ h=>h.elim,hgp⟩
 refine (h c vs hl (eN.nil (dG.refl _ _))
  (fun i hi=>.d ((hd i hi).mono (fun _ _ _=>rfl) (fun b _ _ hb=>hb.elim (fun h=>h) (fun ⟨_,h,_⟩=>l6 h))))).mono fun e w' ⟨V,v,h',β',κ',e1,⟨e2,e3⟩,hr,hG⟩=>?_
 subst e2;rw [hG.bool_inv] at e1;have k:=hr.kp;exact ⟨e1,⟨k.os,k.tape,k.output,k.size,k.block⟩⟩
theorem yT {H:Type} {enc:TypeId×Value→H} (hl:laidOutB P=true) {W W':World} {sp:Nat→Bool}:∀ {ts:List TypeId} (hr:∀ t∈ts,P.readableRec t=true∧t<P.types.size) {vs:List Value} {ds:List (DataW H)} {ps:List MemPlace},
 DataW.TrodAll enc P W 0 (fun _=>true) true ts vs ds ps→(∀ p∈ps,W.sameAt W' p)→(∀ p∈ps,sp p.block=true)→DataW.TrodAll enc P W' 0 sp true ts vs ds ps
 | [],_,vs,ds,ps,h,_,_=>by
  obtain ⟨rfl,rfl,rfl⟩:=trodAll_nil h;exact trodAll_mk0
 | t::ts,hr,vs,ds,ps,h,hs,hsp=>by
  obtain ⟨v,vs',d,ds',p,q,rfl,rfl,rfl,h0,h1⟩:=trodAll_cons h;obtain ⟨r1,r2⟩:=hr t (by simp);exact ⟨p,q,WideElems.Trod_stays hl r1 r2 h0 (fun x hx=>hs x (by simp [hx])) (fun x hx=>hsp x (by simp [hx])),
   yT hl (fun t ht=>hr t (by simp [ht])) h1 (fun x hx=>hs x (by simp [hx])) (fun x hx=>hsp x (by simp [hx])),rfl⟩
theorem Oo {H:Type} {enc:TypeId×Value→H} {f:Func} {s:ChangeSpec} {apart fresh handsOn again:Bool} {W W':World} {args:Array Value} {ds gs:List (DataW H)} {before:List MemPlace} {tb:TypeId}
 (hW:DataW.Whole enc P f.params.toList s.vars apart W args.toList ds gs before) (hb:Below W.heap.size W W') (hl:laidOutB P=true) (hr:∀ t∈f.params.toList,P.readableRec t=true∧t<P.types.size)
 (hrt:f.resultTypes = #[tb]) (hu:P.underlying tb=some .bool) (hv:s.vars=[]) (hs:s.fn H (ds++gs)={ results:=[.lit (.bool true)],args:=ds }):s.post enc P f apart fresh handsOn again W args (.bool true) W':=by
 have hlt:=hW.lt;have hW0:=hW;obtain ⟨p,q,hA,hV,rfl,hz,hn⟩:=hW;have hV0:=hV;rw [hv] at hV;obtain ⟨rfl,rfl⟩:=trodVars_none hV;simp only [List.append_nil] at *;have hsame:∀ x∈p,W.sameAt W' x:=fun x hx=>hb.same (hlt x hx);have hargs:∀ sp:Nat→Bool,(∀ x∈p,sp x.block=true)→DataW.TrodAll enc P W' 0 sp true f.params.toList args.toList ds p:=fun sp hsp=>yT hl hr hA hsame hsp;have hres:∀ (b:Nat) (sp:Nat→Bool) (hd:Bool),DataW.TrodAll enc P W' b sp hd f.resultTypes.toList ((Value.bool true).resultList f.resultTypes.size) [.lit (.bool true)] []:=fun b sp hd=>by rw [hrt];exact ⟨[],[],shut_bool hu true,rfl,rfl⟩
 have hvars:∀ sp:Nat→Bool,DataW.TrodVars enc P W' sp s.vars [] []:=fun sp=>by rw [hv];exact rfl
 refine ⟨ds,[],p,[],p,[],hW0,?_,?_,?_,⟨hb.os,hb.output,fun i hi=>?_⟩,fun _=>⟨?_,[.lit (.bool true)]++ds,[],([]++p)++[],⟨[]++p,[],?_,?_,rfl,?_,?_⟩,?_⟩⟩
 ·simp only [List.append_nil,hs];exact hres _ _ _
 ·simp only [List.append_nil,hs];exact hargs _ (fun x hx=>by simpa using hlt x hx)
 ·simp only [List.append_nil,hs];exact hvars _
 ·rw [hb.block i hi];cases W.heap[i]? with
  | none=>trivial
  | some o=>cases o<;>simp
 ·exact ok_one hrt rfl (okWide_bool_mk hu true)
 ·exact trodAll_append (hargs _ (fun _ _=>rfl)) (hres _ _ _)
 ·exact hvars _
 ·intro b off hp;have hp:MemPlace.cell b off∈p:=by simpa using hp
  have h1:=hz b off hp;have h2:=hb.block b (hlt _ hp);unfold World.frozen? at h1 ⊢;rw [h2];exact h1
 ·intro ha;simpa using hn ha
 ·intro x hx _;simpa using hx
end
section
variable {P:Program}
theorem AE {W w:World} (hk:dG (fun b=>b<W.heap.size) W w) {n:String} {cs:Array Value} (h:W.var? P n=some cs):w.var? P n=some cs:=by
 unfold World.var? at h ⊢;rw [Option.bind_eq_some_iff] at h;obtain ⟨g,hg,h⟩:=h;rw [hg];split at h
 ·rename_i c t f e;cases h;have hlt:g<W.heap.size:=(Array.getElem?_eq_some_iff.1 e).1;simp [hk.block g hlt,e]
 ·cases h
theorem L4 {W w:World} (hk:dG (fun b=>b<W.heap.size) W w) {a:Addr} {v:Value} (h:W.cell? a=some v):w.cell? a=some v:=by have hlt:a.block<W.heap.size:=World.block_lt_of_cell? W _ h;unfold World.cell? at h ⊢;rw [hk.block a.block hlt];exact h
theorem PC {W w:World} (hk:dG (fun b=>b<W.heap.size) W w) (h:GP P W):GP P w :=
 ⟨fun hn=>AE hk (h.pow10 hn),fun hn=>by obtain ⟨t,p,e⟩:=h.syn hn;exact ⟨t,p,AE hk e⟩,fun hn=>by obtain ⟨t,p,e⟩:=h.rng hn;exact ⟨t,p,AE hk e⟩,
  fun g hg=>by obtain ⟨m,e⟩:=h.len g hg;exact ⟨m,L4 hk e⟩,fun hn=>AE hk (h.asp hn)⟩
theorem C8 {w:World}:∀ {l:List (String×DataW Unit)} {ps:List MemPlace},DataW.LaidVars P w l ps→∀ {n:String} {d:DataW Unit},(n,d)∈l →
 ∃ g t cs fuel p,P.globalNamed n=some g∧(P.globals[g]?).map (·.type)=some t∧w.var? P n=some cs∧DataW.trod (fun _=>()) P w 0 (fun _=>true) false fuel t cs.toList=some (d,p)
 | [],_,_,n,d,hm=>by cases hm
 | (n',d')::l,ps,h,n,d,hm=>by
  obtain ⟨g,t,cs,fuel,p,q,h1,h2,h3,h4,h5,_⟩:=h;rcases List.mem_cons.1 hm with e | hm
  ·cases e;exact ⟨g,t,cs,fuel,p,h1,h2,h3,h4⟩
  ·exact C8 h5 hm
theorem R7 {l:List (String×DataW Unit)} {w:World} (h:laidMetH P l w) (hf:(l.filter fun x=>x.2.handleName?.isSome)=[]):∃ ps,DataW.LaidVars P w l ps:=by unfold laidMetH at h;rw [hf] at h;obtain ⟨ps,h,_⟩:=h;exact ⟨ps,h⟩
theorem Ea {w:World} {l:List (String×DataW Unit)} {ps:List MemPlace} (h:DataW.LaidVars P w l ps) {n nm:String} {d:DataW Unit} (hm:(n,.iface nm d)∈l) {g t:Nat} {ms:Array (String×TypeId)} (hg:P.globalNamed n=some g) (ht:(P.globals[g]?).map (·.type)=some t) (hi:P.underlying t=some (.interface ms)) :
 ∃ t p,w.var? P n=some #[.iface t p]:=by
 obtain ⟨g',t',cs,fuel,p,h1,h2,h3,h4⟩:=C8 h hm;obtain rfl:=Tb (hg.symm.trans h1);obtain rfl:=Tb (ht.symm.trans h2);obtain ⟨_,u,v,e,_⟩:=iface_of_trod hi h4;refine ⟨u,v,?_⟩;rw [h3];congr 1;rw [← Array.toList_inj];exact e
end
end Go.Ab
namespace Go.Proofs.YtkibeldbfkainaaGreatDoor
open Go.RowKit Go.Ab Go.Sh Go.ChangeShapes Go.WideShapes Go.ChangeAt
theorem Rj:ownKnob Tryz.prog.godebug=none:=by kernel_rfl
theorem laidOut:laidOutB Tryz.prog=true:=by kernel_rfl
set_option maxRecDepth 100000 in
theorem PD {l:List (String×DataW Unit)} {W:World} (hL:laidMetH Tryz.prog l W) (hl:l=Rows.proofLongRow.laid) (hsh:W.ShapedOpen Tryz.prog):GP Tryz.prog W:=by
 subst hl;obtain ⟨ps,hV⟩:=R7 hL (by kernel_rfl);refine ⟨fun _=>?_,fun _=>?_,fun _=>?_,fun g hg=>?_,fun _=>?_⟩
 ·obtain ⟨g,t,cs,fuel,p,h1,h2,h3,h4⟩:=C8 hV (n := "internal/strconv.uint64pow10") (d:=Rows.laid_internal_strconv_uint64pow10) (by simp [Rows.proofLongRow]);obtain rfl:=Tb ((show Tryz.prog.globalNamed "internal/strconv.uint64pow10" = some 0 by kernel_rfl).symm.trans h1);obtain rfl:=Tb ((show (Tryz.prog.globals[0]?).map (·.type)=some 211 by kernel_rfl).symm.trans h2);unfold Lib.TabIs;rw [h3,← Lib.cells_of_tab (zs:=[1,10,100,1000,10000,100000,1000000,10000000,100000000,1000000000,10000000000,100000000000,1000000000000,10000000000000,100000000000000,1000000000000000,10000000000000000,100000000000000000,1000000000000000000,10000000000000000000]) Tryz.underlying211 Tryz.underlying128 (by kernel_rfl) (by kernel_rfl) h4]
 ·exact Ea hV (n := "strconv.ErrSyntax") (nm := "*errors.errorString") (d:=.ptr (.agg [.lit (.string [105,110,118,97,108,105,100,32,115,121,110,116,97,120])])) (by simp [Rows.proofLongRow,Rows.laid_strconv_ErrSyntax]) (g:=2) (t:=93) (by kernel_rfl) (by kernel_rfl) Tryz.underlying93
 ·exact Ea hV (n := "strconv.ErrRange") (nm := "*errors.errorString") (d:=.ptr (.agg [.lit (.string [118,97,108,117,101,32,111,117,116,32,111,102,32,114,97,110,103,101])])) (by simp [Rows.proofLongRow,Rows.laid_strconv_ErrRange]) (g:=3) (t:=93) (by kernel_rfl) (by kernel_rfl) Tryz.underlying93
 ·obtain rfl:=Tb ((show Tryz.prog.globalNamed "internal/bytealg.MaxLen" = some 1 by kernel_rfl).symm.trans hg);exact cell_of_shapedOpen_int (P:=Tryz.prog) (g:=1) (t:=3) (zero := #[.int .i64 0]) hsh (S3 (by kernel_rfl)) (by kernel_rfl) rfl (by kernel_rfl) (by kernel_rfl) Tryz.underlying3
 ·obtain ⟨g,t,cs,fuel,p,h1,h2,h3,h4⟩:=C8 hV (n := "strings.asciiSpace") (d:=Rows.laid_strings_asciiSpace) (by simp [Rows.proofLongRow]);obtain rfl:=Tb ((show Tryz.prog.globalNamed "strings.asciiSpace" = some 8 by kernel_rfl).symm.trans h1);obtain rfl:=Tb ((show (Tryz.prog.globals[8]?).map (·.type)=some 324 by kernel_rfl).symm.trans h2);unfold Lib.TabIs;rw [h3,← Lib.cells_of_tab (zs:=Lib.asciiSpaceTab) Tryz.underlying324 Tryz.underlying5 (by kernel_rfl) (by kernel_rfl) h4]
theorem Tg {α:Type} {o:Option α} {f g:α→Bool} (h1:o.map f=some true) (h2:o.map g=some true):o.map (fun x=>f x&&g x)=some true:=by
 cases o with
 | none=>cases h1
 | some x=>simp_all
theorem NQ (os:Os) (args:_root_.Array Go.Value):laidMet Tryz.prog Rows.proofLongRow.laid ((laidWorld os).forCall (fun _ _=>0) ⟨#[],args,[]⟩).memory:=laidMet_of_run' 8 (laid_1 os args) (Tg (laid_n os args) (laid_r os args))
end Go.Proofs.YtkibeldbfkainaaGreatDoor
