/- The frame of a card, and what the listed variables give. -/
import Derived.Test.YtlhcekghjfjajaaGreatDoorPnbEquationsRefutes
import Derived.Carry
import Derived.ChangeSame
import Derived.ChangeArms
import Derived.OpenShut
import Derived.WalkKit
import Derived.ProofKit
import Derived.Deep.DeepHandedRow
import Derived.HandedShaped
import Derived.LaidLaws
import Derived.Lib.LaidTab
import Derived.Shelf.Vars
import Derived.Test.YtlhcekghjfjajaaGreatDoorRows
import Derived.Test.YtlhcekghjfjajaaGreatDoorCards
import Derived.Test.YtlhcekghjfjajaaGreatDoorTie
set_option linter.unusedSimpArgs false
set_option linter.unusedVariables false
namespace Go.Ab
open Go.RowKit Go.Sh Go.ChangeShapes Go.WideShapes
def DL (w:World) (us:List AV) (cs:List Value):Prop:=us.length=cs.length∧∀ i,i<us.length→D w (fun _=>False) (us.getD i .any) (cs.getD i undef)
theorem DL.nil {w:World}:DL w [] []:=⟨rfl,fun i hi=>by simp at hi⟩
theorem DL.one {w:World} {a:AV} {v:Value} (h:D w (fun _=>False) a v):DL w [a] [v]:=⟨rfl,fun i hi=>by
 have:i=0:=by simpa using hi
 subst this;exact h⟩
theorem DL.append {w:World} {us bs:List AV} {cs ds:List Value} (h:DL w us cs) (h':DL w bs ds):DL w (us++bs) (cs++ds):=by
 refine ⟨by simp [h.1,h'.1],fun i hi => ?_⟩;by_cases hl:i<us.length
 ·have e1:(us++bs).getD i .any=us.getD i .any:=by simp [Lz,List.getElem?_append_left hl]
  have e2:(cs++ds).getD i undef=cs.getD i undef:=by rw [h.1] at hl;simp [Lz,List.getElem?_append_left hl]
  rw [e1,e2];exact h.2 i hl
 ·have hge:us.length≤i:=by omega
  rw [bl hge,bl (by rw [← h.1];exact hge),← h.1];refine h'.2 _ ?_;simp at hi;omega
theorem DL.cons {w:World} {us bs:List AV} {cs:List Value} {o s:Nat} (h:DL w us ((cs.drop o).take s)) (hs:us.length=s) (h':DL w bs (cs.drop (o+s))):DL w (us++bs) (cs.drop o):=by
 have e:cs.drop o=(cs.drop o).take s++cs.drop (o+s):=by rw [← List.drop_drop];exact (List.take_append_drop s _).symm
 rw [e];exact h.append h'
theorem DL.done {w:World} {cs:List Value} {o:Nat} (h:cs.length=o):DL w [] (cs.drop o):=by rw [List.drop_eq_nil_of_le (by omega)];exact .nil
theorem DL.agg {w:World} {us:List AV} {cs:Array Value} (h:DL w us cs.toList):D w (fun _=>False) (.agg us) (.agg cs):=.agg _ _ (by simpa using h.1) fun i hi=>by have:=h.2 i hi;simpa [LC,Lz] using this
def Rd {α:Type} (P:Program) (t:TypeId) (c:α→List AV):Prop :=
 ∀ {H:Type} (enc:TypeId×Value→H) (w:World) (base:Nat) (sp:Nat→Bool) (held:Bool) (fuel:Nat) (cs:List Value) (x:DataW H×List MemPlace),DataW.trod enc P w base sp held fuel t cs=some x→∃ y,DL w (c y) cs
section
variable {P:Program} {t e:TypeId}
theorem GU (ht:P.underlying t=some .string):Rd P t (fun (s:au)=>[.str s]):=fun enc w base sp held fuel cs x h=>by
 obtain ⟨s,rfl,_,hs⟩:=DataW.trod_string ht h;refine ⟨s.data.toList,.one ?_⟩;have:(⟨s.data.toList.toArray⟩:ByteArray)=s:=by cases s;simp
 have h2:s.data.toList.length≤maxLen:=by rw [Array.length_toList];exact hs
 have h3:=D.str (w:=w) (X:=fun _=>False) s.data.toList h2;rw [this] at h3;exact h3
theorem vI {k:IntKind} (ht:P.underlying t=some (.int k)):Rd P t (fun (n:Int)=>[.int k n]):=fun enc w base sp held fuel cs x h=>by obtain ⟨n,rfl,_,_⟩:=DataW.trod_int ht h;exact ⟨n,.one (.int _ _)⟩
theorem mapM_cells {w:World} {a:Addr} {n:Nat} {cs:List Value} {base:Nat} (h:w.cells? base a n=some cs):cs.length=n∧∀ j,j<n→w.cell? (a.add j)=some (cs.getD j undef):=by
 unfold World.cells? at h;split at h
 ·have hl:cs.length=n:=by have:=Lib.mapM_length h;simpa using this
  refine ⟨hl,fun j hj => ?_⟩;obtain ⟨b,hb,hc⟩:=Lib.mapM_at h j j (by simp [hj]);rw [hc];simp [Lz,hb]
 ·cases h
theorem Ei {w:World} {a:Addr} {v:Value} (h:w.cell? a=some v):a.spot=none:=by
 unfold World.cell? at h;split at h
 ·split at h
  ·cases h
  ·rename_i hs;simpa using hs
 ·cases h
theorem rV {α:Type} (dflt:α) {c:α→List AV} {sz:Nat} (ht:P.underlying t=some (.slice e)) (hc:P.cellsOf e=sz) (hsz:0<sz) (hlen:∀ y,(c y).length=sz) (hr:Rd P e c):Rd P t (fun (l:List α)=>[.dslice (l.map c)]):=fun enc w base sp held fuel cs x h=>by
 rcases DataW.trod_slice ht h with ⟨rfl,_⟩ | ⟨a,len,cap,elems,rest,n,_,rfl,_,_,hl,hm,hel,hE,_,_⟩
 ·exact ⟨[],.one (.dnil _ _ (Nat.zero_le _))⟩
 ·have hx:∀ i,i<len→∃ y,∃ ci:List Value,DL w (c y) ci∧ci.length=sz∧∀ j,j<sz→w.cell? ((a.add (i*sz)).add j)=some (ci.getD j undef):=by intro i hi;have hEi:=hE i hi;rw [hc,LA (by omega),Option.bind_eq_some_iff] at hEi;obtain ⟨ci,h1,h2⟩:=hEi;obtain ⟨y,hy⟩:=hr enc w base sp held n ci _ h2;obtain ⟨h3,h4⟩:=mapM_cells h1;exact ⟨y,ci,hy,h3,h4⟩
  by_cases h0:len=0
  ·subst h0;exact ⟨[],.one (.dnil _ _ hm)⟩
  ·have hspot:a.spot=none:=by
    obtain ⟨_,ci,_,_,h4⟩:=hx 0 (by omega);have:=h4 0 hsz;have e0:(a.add (0*sz)).add 0=a:=by simp [Addr.add]
    rw [e0] at this;exact Ei this
   obtain ⟨b,o,sp2⟩:=a;have hspot:sp2=none:=hspot;subst hspot;have hadd:∀ k j,((⟨b,o,none⟩:Addr).add k).add j=⟨b,o+(k+j),none⟩:=by intro k j;unfold Addr.add;split<;>split<;>simp_all<;>omega
   have hf:∀ i:Nat,∃ y:α,i<len→∃ ci:List Value,DL w (c y) ci∧ci.length=sz∧∀ j,j<sz→w.cell? ⟨b,o+(i*sz+j),none⟩=some (ci.getD j undef):=by
    intro i;by_cases hi:i<len
    ·obtain ⟨y,ci,h1,h2,h3⟩:=hx i hi;exact ⟨y,fun _=>⟨ci,h1,h2,fun j hj=>by rw [← hadd];exact h3 j hj⟩⟩
    ·exact ⟨dflt,fun h=>absurd h hi⟩
   obtain ⟨f,hf⟩:=Classical.axiomOfChoice hf;refine ⟨(List.range len).map f,.one ?_⟩;have hl2:(((List.range len).map f).map c).length=len:=by simp
   have hg:∀ i,i<len→(((List.range len).map f).map c).getD i []=c (f i):=by intro i hi;simp [Lz,LA (by simpa using hi:i<(List.range len).length)]
   have hd:=D.dslice (w:=w) (X:=fun _=>False) (((List.range len).map f).map c) b o cap sz (fun i j=>if h:i<len then ((hf i h).choose).getD j undef else undef) (by rw [hl2];exact hl) hm hsz (fun h=>h)
    (fun i hi=>by rw [hl2] at hi;rw [hg i hi];exact hlen _)
    (fun i j hi hj=>by rw [hl2] at hi;simp only [dif_pos hi];exact (hf i hi).choose_spec.2.2 j hj)
    (fun i j hi hj=>by rw [hl2] at hi;simp only [dif_pos hi];rw [hg i hi];exact (hf i hi).choose_spec.1.2 j (by rw [hlen];exact hj))
   rw [hl2] at hd;exact hd
theorem qD {fs:Array Field} (ht:P.underlying t=some (.struct fs)) {H:Type} {enc:TypeId×Value→H} {w:World} {base:Nat} {sp:Nat→Bool} {held:Bool} {fuel:Nat} {cs:List Value} {x:DataW H×List MemPlace}
 (h:DataW.trod enc P w base sp held fuel t cs=some x):cs.length=P.cellsOf t∧∃ n,∀ (i:Nat) (f:Field),fs[i]? = some f→∃ y,DataW.trod enc P w base sp held n f.type ((cs.drop f.offset).take (P.cellsOf f.type))=some y:=by
 obtain ⟨xs,n,_,_,h1,h2,h3⟩:=DataW.trod_struct ht h;refine ⟨h1,n,fun i f hf => ?_⟩;have hi:i<fs.size:=(Array.getElem?_eq_some_iff.1 hf).1;exact ⟨xs[i]'(by omega),by rw [h3 i f hf,LA (by omega)]⟩
theorem xf {α:Type} {c:α→List AV} {fs:Array Field} (ht:P.underlying t=some (.struct fs)) (hr:Rd P t c) {r:Reach} {b0:Nat} {H:Type} {enc:TypeId×Value→H} {w:World} {base:Nat} {sp:Nat→Bool} {held:Bool} {v:Value} {d:DataW H} {ps:List MemPlace}
 (hv:Value.okWide P w r b0 t v) (h:DataW.Trod enc P w base sp held t v d ps):∃ y,D w (fun _=>False) (.agg (c y)) v:=by
 obtain ⟨cs,rfl,_⟩:=okWide_struct ht hv;obtain ⟨fuel,h⟩:=h;obtain ⟨y,hy⟩:=hr enc w base sp held fuel _ _ h;exact ⟨y,hy.agg⟩
theorem uJ {α:Type} {c:α→AV} (hr:Rd P t (fun y=>[c y])) {H:Type} {enc:TypeId×Value→H} {w:World} {base:Nat} {sp:Nat→Bool} {held:Bool} {v:Value} {d:DataW H} {ps:List MemPlace}
 (hn:v.cells = #[v]) (h:DataW.Trod enc P w base sp held t v d ps):∃ y,D w (fun _=>False) (c y) v:=by
 obtain ⟨fuel,h⟩:=h;obtain ⟨y,hy⟩:=hr enc w base sp held fuel _ _ h;rw [hn] at hy;exact ⟨y,hy.2 0 (by simp)⟩
end
section
variable {P:Program}
theorem Ea {f:FuncId} {args:List AV} {b:Bool} (h:bQ P f args (.bool b)) {W:World} {vs:List Value} (hl:vs.length=args.length) (hd:∀ i,i<args.length→D W (fun _=>False) (args.getD i .any) (vs.getD i undef))
 (hgp:∀ w,dy (fun b=>b<W.heap.size) W w→GP P w):Calls P f vs.toArray W fun e W'=>e = .returned (.bool b)∧Below W.heap.size W W':=by
 let c:Cx P:=⟨fun b=>b<W.heap.size,fun _=>False,W,fun _=>0,fun _=>(0,0),fun _ h=>h,fun _ h=>h.elim,hgp⟩
 refine (h c vs hl (fy.nil (dy.refl _ _))
  (fun i hi=>.d ((hd i hi).mono (fun _ _ _=>rfl) (fun b _ _ hb=>hb.elim (fun h=>h) (fun ⟨_,h,_⟩=>mT h))))).mono fun e w' ⟨V,v,h',β',κ',e1,⟨e2,e3⟩,hr,hG⟩ => ?_
 subst e2;rw [hG.bool_inv] at e1;have k:=hr.kp;exact ⟨e1,⟨k.os,k.tape,k.output,k.size,k.block⟩⟩
theorem qW {H:Type} {enc:TypeId×Value→H} (hl:laidOutB P=true) {W W':World} {sp:Nat→Bool}:∀ {ts:List TypeId} (hr:∀ t∈ts,P.readableRec t=true∧t<P.types.size) {vs:List Value} {ds:List (DataW H)} {ps:List MemPlace},
 DataW.TrodAll enc P W 0 (fun _=>true) true ts vs ds ps→(∀ p∈ps,W.sameAt W' p)→(∀ p∈ps,sp p.block=true)→DataW.TrodAll enc P W' 0 sp true ts vs ds ps
 | [],_,vs,ds,ps,h,_,_=>by
  obtain ⟨rfl,rfl,rfl⟩:=trodAll_nil h;exact trodAll_mk0
 | t::ts,hr,vs,ds,ps,h,hs,hsp=>by
  obtain ⟨v,vs',d,ds',p,q,rfl,rfl,rfl,h0,h1⟩:=trodAll_cons h;obtain ⟨r1,r2⟩:=hr t (by simp);exact ⟨p,q,WideElems.Trod_stays hl r1 r2 h0 (fun x hx=>hs x (by simp [hx])) (fun x hx=>hsp x (by simp [hx])),
   qW hl (fun t ht=>hr t (by simp [ht])) h1 (fun x hx=>hs x (by simp [hx])) (fun x hx=>hsp x (by simp [hx])),rfl⟩
theorem GQ {H:Type} {enc:TypeId×Value→H} {f:Func} {s:ChangeSpec} {apart fresh handsOn again:Bool} {W W':World} {args:Array Value} {ds gs:List (DataW H)} {before:List MemPlace} {tb:TypeId}
 (hW:DataW.Whole enc P f.params.toList s.vars apart W args.toList ds gs before) (hb:Below W.heap.size W W') (hl:laidOutB P=true) (hr:∀ t∈f.params.toList,P.readableRec t=true∧t<P.types.size)
 (hrt:f.resultTypes = #[tb]) (hu:P.underlying tb=some .bool) (hv:s.vars=[]) (hs:s.fn H (ds++gs)={ results:=[.lit (.bool true)],args:=ds }):s.post enc P f apart fresh handsOn again W args (.bool true) W':=by
 have hlt:=hW.lt;have hW0:=hW;obtain ⟨p,q,hA,hV,rfl,hz,hn⟩:=hW;have hV0:=hV;rw [hv] at hV;obtain ⟨rfl,rfl⟩:=trodVars_none hV;simp only [List.append_nil] at *;have hsame:∀ x∈p,W.sameAt W' x:=fun x hx=>hb.same (hlt x hx);have hargs:∀ sp:Nat→Bool,(∀ x∈p,sp x.block=true)→DataW.TrodAll enc P W' 0 sp true f.params.toList args.toList ds p:=fun sp hsp=>qW hl hr hA hsame hsp;have hres:∀ (b:Nat) (sp:Nat→Bool) (hd:Bool),DataW.TrodAll enc P W' b sp hd f.resultTypes.toList ((Value.bool true).resultList f.resultTypes.size) [.lit (.bool true)] []:=fun b sp hd=>by rw [hrt];exact ⟨[],[],shut_bool hu true,rfl,rfl⟩
 have hvars:∀ sp:Nat→Bool,DataW.TrodVars enc P W' sp s.vars [] []:=fun sp=>by rw [hv];exact rfl
 refine ⟨ds,[],p,[],p,[],hW0,?_,?_,?_,⟨hb.os,hb.output,fun i hi => ?_⟩,fun _=>⟨?_,[.lit (.bool true)]++ds,[],([]++p)++[],⟨[]++p,[],?_,?_,rfl,?_,?_⟩,?_⟩⟩
 ·simp only [List.append_nil,hs];exact hres _ _ _
 ·simp only [List.append_nil,hs];exact hargs _ (fun x hx=>by simpa using hlt x hx)
 ·simp only [List.append_nil,hs];exact hvars _
 ·rw [hb.block i hi];cases W.heap[i]? with
  | none=>trivial
  | some o=>cases o<;>simp
 ·exact ok_one hrt rfl (okWide_bool_mk hu true)
 ·exact trodAll_append (hargs _ (fun _ _=>rfl)) (hres _ _ _)
 ·exact hvars _
 ·intro b off hp;have hp:MemPlace.cell b off∈p:=by simpa using hp
  have h1:=hz b off hp;have h2:=hb.block b (hlt _ hp);unfold World.frozen? at h1 ⊢;rw [h2];exact h1
 ·intro ha;simpa using hn ha
 ·intro x hx _;simpa using hx
end
section
variable {P:Program}
theorem uH {W w:World} (hk:dy (fun b=>b<W.heap.size) W w) {n:String} {cs:Array Value} (h:W.var? P n=some cs):w.var? P n=some cs:=by
 unfold World.var? at h ⊢;rw [Option.bind_eq_some_iff] at h;obtain ⟨g,hg,h⟩:=h;rw [hg];split at h
 ·rename_i c t f e;cases h;have hlt:g<W.heap.size:=(Array.getElem?_eq_some_iff.1 e).1;simp [hk.block g hlt,e]
 ·cases h
theorem Eb {W w:World} (hk:dy (fun b=>b<W.heap.size) W w) {a:Addr} {v:Value} (h:W.cell? a=some v):w.cell? a=some v:=by have hlt:a.block<W.heap.size:=World.block_lt_of_cell? W _ h;unfold World.cell? at h ⊢;rw [hk.block a.block hlt];exact h
theorem HC {W w:World} (hk:dy (fun b=>b<W.heap.size) W w) (h:GP P W):GP P w :=
 ⟨fun hn=>uH hk (h.pow10 hn),fun hn=>by obtain ⟨t,p,e⟩:=h.syn hn;exact ⟨t,p,uH hk e⟩,fun hn=>by obtain ⟨t,p,e⟩:=h.rng hn;exact ⟨t,p,uH hk e⟩,
  fun g hg=>by obtain ⟨m,e⟩:=h.len g hg;exact ⟨m,Eb hk e⟩⟩
theorem yB {w:World}:∀ {l:List (String×DataW Unit)} {ps:List MemPlace},DataW.LaidVars P w l ps→∀ {n:String} {d:DataW Unit},(n,d)∈l →
 ∃ g t cs fuel p,P.globalNamed n=some g∧(P.globals[g]?).map (·.type)=some t∧w.var? P n=some cs∧DataW.trod (fun _=>()) P w 0 (fun _=>true) false fuel t cs.toList=some (d,p)
 | [],_,_,n,d,hm=>by cases hm
 | (n',d')::l,ps,h,n,d,hm=>by
  obtain ⟨g,t,cs,fuel,p,q,h1,h2,h3,h4,h5,_⟩:=h;rcases List.mem_cons.1 hm with e | hm
  ·cases e;exact ⟨g,t,cs,fuel,p,h1,h2,h3,h4⟩
  ·exact yB h5 hm
theorem Ky {l:List (String×DataW Unit)} {w:World} (h:laidMetH P l w) (hf:(l.filter fun x=>x.2.handleName?.isSome)=[]):∃ ps,DataW.LaidVars P w l ps:=by unfold laidMetH at h;rw [hf] at h;obtain ⟨ps,h,_⟩:=h;exact ⟨ps,h⟩
theorem wK {w:World} {l:List (String×DataW Unit)} {ps:List MemPlace} (h:DataW.LaidVars P w l ps) {n nm:String} {d:DataW Unit} (hm:(n,.iface nm d)∈l) {g t:Nat} {ms:Array (String×TypeId)} (hg:P.globalNamed n=some g) (ht:(P.globals[g]?).map (·.type)=some t) (hi:P.underlying t=some (.interface ms)) :
 ∃ t p,w.var? P n=some #[.iface t p]:=by
 obtain ⟨g',t',cs,fuel,p,h1,h2,h3,h4⟩:=yB h hm;obtain rfl:=LM (hg.symm.trans h1);obtain rfl:=LM (ht.symm.trans h2);obtain ⟨_,u,v,e,_⟩:=iface_of_trod hi h4;refine ⟨u,v,?_⟩;rw [h3];congr 1;rw [← Array.toList_inj];exact e
end
end Go.Ab
namespace Go.Proofs.YtlhcekghjfjajaaGreatDoor
open Go.RowKit Go.Ab Go.Sh Go.ChangeShapes Go.WideShapes Go.ChangeAt
theorem Jm:ownKnob Tryz.prog.godebug=none:=by kernel_rfl
theorem laidOut:laidOutB Tryz.prog=true:=by kernel_rfl
set_option maxRecDepth 100000 in
theorem HL {l:List (String×DataW Unit)} {W:World} (hL:laidMetH Tryz.prog l W) (hl:l=Rows.equationsSoundRow.laid) (hsh:W.ShapedOpen Tryz.prog):GP Tryz.prog W:=by
 subst hl;obtain ⟨ps,hV⟩:=Ky hL (by kernel_rfl);refine ⟨fun _ => ?_,fun _ => ?_,fun _ => ?_,fun g hg => ?_⟩
 ·obtain ⟨g,t,cs,fuel,p,h1,h2,h3,h4⟩:=yB hV (n := "internal/strconv.uint64pow10") (d:=Rows.laid_internal_strconv_uint64pow10) (by simp [Rows.equationsSoundRow]);obtain rfl:=LM ((show Tryz.prog.globalNamed "internal/strconv.uint64pow10" = some 3 by kernel_rfl).symm.trans h1);obtain rfl:=LM ((show (Tryz.prog.globals[3]?).map (·.type)=some 231 by kernel_rfl).symm.trans h2);unfold Lib.TabIs;rw [h3,← Lib.cells_of_tab (zs:=[1,10,100,1000,10000,100000,1000000,10000000,100000000,1000000000,10000000000,100000000000,1000000000000,10000000000000,100000000000000,1000000000000000,10000000000000000,100000000000000000,1000000000000000000,10000000000000000000]) Tryz.underlying231 Tryz.underlying130 (by kernel_rfl) (by kernel_rfl) h4]
 ·exact wK hV (n := "strconv.ErrSyntax") (nm := "*errors.errorString") (d:=.ptr (.agg [.lit (.string [105,110,118,97,108,105,100,32,115,121,110,116,97,120])])) (by simp [Rows.equationsSoundRow,Rows.laid_strconv_ErrSyntax]) (g:=1) (t:=140) (by kernel_rfl) (by kernel_rfl) Tryz.underlying140
 ·exact wK hV (n := "strconv.ErrRange") (nm := "*errors.errorString") (d:=.ptr (.agg [.lit (.string [118,97,108,117,101,32,111,117,116,32,111,102,32,114,97,110,103,101])])) (by simp [Rows.equationsSoundRow,Rows.laid_strconv_ErrRange]) (g:=2) (t:=140) (by kernel_rfl) (by kernel_rfl) Tryz.underlying140
 ·obtain rfl:=LM ((show Tryz.prog.globalNamed "internal/bytealg.MaxLen" = some 0 by kernel_rfl).symm.trans hg);exact cell_of_shapedOpen_int (P:=Tryz.prog) (g:=0) (t:=3) (zero := #[.int .i64 0]) hsh (LF (by kernel_rfl)) (by kernel_rfl) rfl (by kernel_rfl) (by kernel_rfl) Tryz.underlying3
def BV:DataW Unit→List Go.Value
 | .agg ds=>ds.flatMap fun
  | .lit (.int k n)=>[.int k n]
  | .agg es=>es.flatMap fun
   | .lit (.int k n)=>[.int k n]
   | _=>[]
  | _=>[]
 | _=>[]
noncomputable def Kw:Nat:=(World.holding Tryz.prog default ⟨#[],#[],[]⟩).heap.size
def F8 (cs:List Go.Value):Obj→Obj
 | .cells _ t frozen=>.cells cs.toArray t frozen
 | o=>o
noncomputable def laidWorld (os:Os):World :=
 let w0:=World.holding Tryz.prog os ⟨#[.cells #[.string ⟨#[105,110,118,97,108,105,100,32,115,121,110,116,97,120]⟩] 229,.cells #[.string ⟨#[118,97,108,117,101,32,111,117,116,32,111,102,32,114,97,110,103,101]⟩] 229],#[],[]⟩
 { w0 with heap:=((((w0.heap.modify 1 (F8 [.iface 227 (.pointer (some ⟨Kw,0,none⟩))])).modify 2 (F8 [.iface 227 (.pointer (some ⟨Kw+1,0,none⟩))])).modify 3 (F8 (BV Rows.laid_internal_strconv_uint64pow10))).modify 4 (F8 (BV Rows.laid_math_bits_deBruijn32tab))).modify 5 (F8 (BV Rows.laid_math_bits_deBruijn64tab)) }
theorem FN (os:Os) (args:Array Go.Value):laidMet Tryz.prog Rows.equationsSoundRow.laid ((laidWorld os).forCall (fun _ _=>0) ⟨#[],args,[]⟩).memory:=laidMet_of_run' 8 (by kernel_rfl) (by kernel_rfl)
end Go.Proofs.YtlhcekghjfjajaaGreatDoor
