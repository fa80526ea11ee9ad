/- The frame for walks: states without addresses, the rules by which code is walked, and contracts of library functions. -/
import Derived.Test.YtjfpcjnopbfekaaGreatDoorFrcShapeEval
import Derived.Lib.SliceRun
import Derived.Shelf.SlGeneric
import Derived.Shelf.Lays8
import Derived.Shelf.Strings.Builder1
import Derived.Shelf.Strings.Builder2
import Derived.Shelf.Strings.OnBuilder
import Derived.Shelf.Strings.Trim
import Derived.Shelf.Small.Utf8
import Derived.Shelf.Small.Bits
import Derived.Shelf.Small.Strs
import Derived.Shelf.Utf8.RuneCount
import Derived.Shelf.Strconv.Atoi
import Derived.Shelf.Strconv.Itoa0
import Derived.Shelf.Strconv.Itoa1
import Derived.Shelf.LaysM
import Derived.Shelf.Strconv.Itoa2
import Derived.Shelf.Strconv.Itoa3
import Derived.Shelf.Strconv.AtoiErrFast
import Derived.Shelf.Strconv.ParseIntEmpty
import Derived.Shelf.Strconv.AtoiFail
import Derived.Shelf.Strconv.Clone
import Derived.Shelf.Strconv.SyntaxError
import Derived.Shelf.LaysC
import Derived.Shelf.Strconv.ToError
import Derived.Shelf.Strconv.Lower
import Derived.Shelf.Strconv.ParseUint10
import Derived.Shelf.Strconv.ParseUint10Empty
import Derived.Shelf.Strconv.ParseUint10Any
import Derived.Shelf.Strconv.ParseInt10
import Derived.Shelf.Strconv.AtoiLong
import Derived.Shelf.Strconv.AtoiInnerAll
import Derived.Shelf.Strconv.RangeError
import Derived.Shelf.Strconv.ToErrorRange
import Derived.Shelf.Strconv.AtoiAll
import Derived.Shelf.Strconv.ErrVarAll
import Derived.Shelf.Strings.Search1
import Derived.Shelf.Strings.Search2
import Derived.Shelf.Strings.Search3
import Derived.Shelf.Strings.Cut
import Derived.Shelf.Strings.Count
import Derived.Shelf.Strings.Shaped
import Derived.Shelf.Sort.Plain
import Derived.Shelf.Strings.Split
import Derived.Shelf.Strings.SplitShaped
import Derived.Shelf.Unicode.Decode
import Derived.Shelf.Strings.Runes
import Derived.Shelf.Strings.RuneCount
import Derived.Shelf.Strings.IndexAny
import Derived.Shelf.Strings.AsciiSet
import Derived.Shelf.Strings.IndexAnyAll
import Derived.Shelf.Strings.Explode
import Derived.Shelf.Bits.Mul64
import Derived.Shelf.Unicode.DecodeSlow
import Derived.Shelf.Unicode.DecodeAny
import Derived.Shelf.Unicode.DecodeLast
import Derived.Shelf.Slices.CompactS
import Derived.Shelf.Slices.Cells
import Derived.Shelf.Slices.In.SortNone
import Derived.Test.YtjfpcjnopbfekaaGreatDoorProg
import Derived.KernelRfl
import Derived.Shelf.Spec.SlicesGrow
import Derived.Laws.RangeAny
import Derived.WalkMore
import Derived.Shelf.RegionOpenPlain
import Derived.Deep.LoopGhost
import Derived.Below
import Derived.Laws.Runes
import Derived.Shelf.Spec.BitsCarry
import Derived.Shelf.SlSortCmp.Insertion
import Derived.Shelf.SlSortCmp.KitK
import Derived.Laws.Cover1
import Derived.Lib.Walk
import Derived.Shelf.SlSortCmp.NoneTotal
import Derived.Shelf.SlLaysZ
import Derived.Shelf.SlLaysF0
import Derived.Sort.AssemblyPlain
import Derived.Shelf.SlIter.Sorted
set_option linter.unusedSimpArgs false
set_option linter.unusedVariables false
namespace Go.Sh
open Classical in
noncomputable def IW {α β:Type} (l:List α) (a b:Option β):Option β:=if l=[]→a=b then b else none
theorem JK {α β:Type} {l:List α} {a b:Option β} {v:β} {G:Prop} (H:IW l a b=some v) (k:(l=[]→a=some v)→b=some v→G):G:=by
 unfold IW at H;split at H
 ·rename_i h;exact k (fun e=>by rw [h e];exact H) H
 ·cases H
theorem ES {α β:Type} {l:List α} {a b:Option β} (h:l=[]→a=b):IW l a b=b:=if_pos h
section
variable {V σ ε β:Type}
def MR (m:List (ai×V)) (body:ai×V→σ→Option (gZ σ ε β)) (K:σ→Prop) (J:β→Prop):Nat→List Nat→σ→Prop
 | 0,seen,s=>(∀ i,i<m.length→i∈seen)∧K s
 | n+1,seen,s=>(∃ i,i<m.length∧i ∉ seen)∧∀ i (h:i<m.length),i ∉ seen→∃ q,body m[i] s=some q∧match q with
  | .go s'=>MR m body K J n (seen++[i]) s'
  | .brk _=>False
  | .ret x=>J x
theorem MR.uniq {m:List (ai×V)} {body:ai×V→σ→Option (gZ σ ε β)} {k:σ→Option β} {v v':β}:∀ {n:Nat} {seen:List Nat} {s:σ},MR m body (fun s=>k s=some v) (· = v) n seen s→MR m body (fun s=>k s=some v') (· = v') n seen s→v=v'
 | 0,_,_,h,h'=>K4 (h.2.symm.trans h'.2)
 | n+1,seen,s,h,h'=>by
  obtain ⟨⟨i,hi,hn⟩,h⟩:=h;obtain ⟨q,hq,h1⟩:=h i hi hn;obtain ⟨q',hq',h2⟩:=h'.2 i hi hn;rw [hq] at hq';cases hq';cases q with
  | go s'=>exact MR.uniq h1 h2
  | brk e=>exact h1.elim
  | ret x=>exact h1.symm.trans h2
open Classical in
noncomputable def rf (m:List (ai×V)) (body:ai×V→σ→Option (gZ σ ε β)) (s:σ) (k:σ→Option β):Option β :=
 if h:∃ v,MR m body (fun s=>k s=some v) (· = v) m.length [] s then some h.choose else none
theorem Dr {m:List (ai×V)} {body:ai×V→σ→Option (gZ σ ε β)} {s:σ} {k:σ→Option β} {v:β} (H:rf m body s k=some v):MR m body (fun s=>k s=some v) (· = v) m.length [] s:=by
 unfold rf at H;split at H
 ·rename_i h;cases H;exact h.choose_spec
 ·cases H
theorem wN {m:List (ai×V)} {body:ai×V→σ→Option (gZ σ ε β)} {s:σ} {k:σ→Option β} {v:β} (h:MR m body (fun s=>k s=some v) (· = v) m.length [] s):rf m body s k=some v:=by have h':∃ v,MR m body (fun s=>k s=some v) (· = v) m.length [] s:=⟨v,h⟩;unfold rf;rw [dif_pos h'];exact congrArg some (MR.uniq h'.choose_spec h)
theorem GM {ρ:Type} {x v:ρ} (h:sQ (.ret x:gZ σ ε ρ) (.ret v)):some x=some v:=by have:(Out.ret v:Out ε ρ) = .ret x:=h;cases this;rfl
end
end Go.Sh
namespace Go.Ab
open Go.RowKit Go.Sh
section
variable {P:Program} {Q:Exit→AS→Prop} {c:Code} {fs:List Fr} {s:AS}
def Gx (s:AS):AV→Option (List (List AV))
 | .dslice l=>some l
 | .eslice=>some []
 | .rslice k=>match lk .gone s.h k with | .row _ _ xs=>some xs | _=>none
 | _=>none
theorem vM {c:Cx P} {a:Act} {w:World} {β:Nat→Nat} {κ:Nat→Nat×Nat} (r:Rel c s a w β κ) {v:AV} {V:Value} {l:List (List AV)} (hG:G w (c.XX s.h β) β κ v V) (h:Gx s v=some l) :
 ∃ ad n cp,V = .slice ad n cp∧(ad.isNone=true→l=[]):=by
 unfold Gx at h;split at h
 ·cases h;cases hG with
  | d hd =>
   cases hd with
   | dnil a cap _=>exact ⟨a,0,cap,rfl,fun _=>rfl⟩
   | dslice _ b o cap sz cv=>exact ⟨_,_,_,rfl,fun h=>by cases h⟩
 ·cases h;obtain ⟨a,e⟩:=hG.eslice_inv;exact ⟨a,0,0,e,fun _=>rfl⟩
 ·rename_i k;split at h
  ·rename_i e sz xs hk;cases h;rcases hG.rslice_inv with ⟨_,e1⟩ | ⟨h0,ad,rfl⟩
   ·exact ⟨_,_,_,e1,fun h=>by cases h⟩
   ·refine ⟨ad,0,0,rfl,fun _ => ?_⟩;have ho:=r.hp.ob k;rw [hk] at ho;exact List.eq_nil_of_length_eq_zero (by rw [← ho.1];exact h0)
  ·cases h
 ·cases h
def nb (q b:Bool):Bool:=bif q then b else !b
def Dw:Operand→Bool
 | .const (.slice none _ _)=>true
 | _=>false
theorem BB {x:Operand} (h:Dw x=true) (a:Act):∃ n c,a.eval x = .slice none n c:=by
 unfold Dw at h;split at h
 ·exact ⟨_,_,rfl⟩
 ·cases h
def Hg (P:Program) (s:AS):Op→Option (List (List AV)×Bool)
 | .binOp op t x y _=>bif Dw y&&(Fm P t).isSome then (match Gx s (s.op x),op with
  | some l,.eql=>some (l,true)
  | some l,.neq=>some (l,false)
  | _,_=>none) else none
 | _=>none
theorem Gv {ops:Array Oper} {o:Oper} (hg:gd ops s o=some true) {l:List (List AV)} {q:Bool} (h:Hg P s o.op=some (l,q)) {k:Nat} (hd:o.dst=some k) (hk:k<s.n) :
 jD P ops o s (fun s'=>∃ b,(b=true→l=[])∧s'=⟨s.n,ins k (.bool (nb q b)) s.t,s.h⟩):=fun c a w β κ r K Q hK=>by
 rw [gm r hg];simp only [if_true];unfold Hg at h;split at h;case h_2=>cases h
 rename_i op t x y u hop;obtain ⟨hc,h⟩:=Go.Ab.bif_some h;rw [KQ] at hc;obtain ⟨hy,ht⟩:=hc;obtain ⟨e,ht⟩:=Option.isSome_iff_exists.1 ht;obtain ⟨n',c',ey⟩:=BB hy a;have hput:∀ b,AS.put s o.dst (.bool b)=some ⟨s.n,ins k (.bool b) s.t,s.h⟩:=fun b=>by rw [hd];simp only [AS.put,show Nat.blt k s.n=true by simpa [Nat.blt_eq] using hk,cond_true]
 have key:∀ ad,(ad.isNone=true→l=[])→∀ b,b=nb q (Option.isNone (α:=Addr) ad)→(execOp a.eval o).run P w = .ok (.value (.bool b)) w→o.wp P a w K Q:=fun ad hl b hb hr=>by unfold Oper.wp;rw [hr];subst hb;exact hK ⟨s.n,ins k (.bool (nb q ad.isNone)) s.t,s.h⟩ _ w β κ ⟨_,hl,rfl⟩ (bE r (.d (.bool _)) (hput _))
 split at h
 ·cases h;obtain ⟨ad,n,cp,e1,hl2⟩:=vM (l:=l) r (r.op x) (by assumption);refine key ad hl2 ad.isNone rfl ?_;simp only [execOp,hop,e1,ey];simp [eqGuard,go_sem,Go.Lib.run_eql_slice_nil w t e ad n cp n' c' (eT ht)]
 ·cases h;obtain ⟨ad,n,cp,e1,hl2⟩:=vM (l:=l) r (r.op x) (by assumption);refine key ad hl2 (!ad.isNone) rfl ?_;simp only [execOp,hop,e1,ey];have:(binOp .neq t (.slice ad n cp) (.slice none n' c')).run P w = .ok (.bool (!ad.isNone)) w:=by simp only [binOp];simp [Op.equal,Op.maxDepth,Go.Lib.run_equalIn_slice_nil w 9999 t e ad n cp n' c' (eT ht)]
  simp [eqGuard,go_sem,this]
 ·cases h
def Kb (P:Program) (ds:List pO) (fs:List Fr) (s:AS):Code→Option (List Prop×List (List AV)×Nat×Bool×AS×Code×List Fr)
 | .region _ ops false=>match bf P ops.toList.toArray ops.toList ds s with
  | some (ps,s',[o])=>bif pn true (gd ops.toList.toArray s' o) then (match Hg P s' o.op,o.dst,yd fs with
   | some (l,q),some k,(some c1,fs1)=>bif Nat.blt k s'.n then some (ps,l,k,q,s',c1,fs1) else none
   | _,_,_=>none) else none
  | _=>none
 | _=>none
theorem HW (ds:List pO) {ps:List Prop} {l:List (List AV)} {k:Nat} {q:Bool} {S:AS} (hp:bt ps) (h:Kb P ds fs s c=some (ps,l,k,q,S,(pc 1 [] c fs).1,(pc 1 [] c fs).2))
 (ht:∀ b:Bool,(b=true→l=[])→eC P (pc 1 [] c fs).1 (cg P (pc 1 [] c fs).2 Q) ⟨S.n,ins k (.bool (nb q b)) S.t,S.h⟩):eC P c (cg P fs Q) s:=by
 unfold Kb at h;split at h;case h_2=>cases h
 rename_i id ops;split at h;case h_2=>cases h
 rename_i ps' s' o hr;obtain ⟨hg,h⟩:=Go.Ab.bif_some h;split at h;case h_2=>cases h
 rename_i l' q' k' c1 fs1 hn hd hpop;obtain ⟨hk,h⟩:=Go.Ab.bif_some h;simp only [KY,Prod.mk.injEq] at h;obtain ⟨rfl,rfl,rfl,rfl,rfl,h1,h2⟩:=h;rw [← h1,← h2] at ht;have e:ops=ops.toList.toArray:=by simp
 rw [e];refine rK (au ds hr hp (dG ((Gv (aQ hg) hn hd (by simpa [Nat.blt_eq] using hk)).mono fun s2 ⟨b,hb,e2⟩=>xf ?_)));subst e2;refine tY (fun c2 fs2 e3 => ?_) (fun fs2 e3 => ?_)
 ·rw [hpop] at e3;cases e3;exact ht b hb
 ·rw [hpop] at e3;cases e3
theorem CE {ι:Type} {y:Code} (S:ι→AS) (φ:ι→Prop) (μ:ι→Nat) (i₀:ι) (h₀:φ i₀)
 (round:∀ i,φ i→eC P y (JZ (fun s=>Cv s dead∨∃ j,φ j∧μ j<μ i∧Cv s (S j)) (cg P fs Q)) (S i)):eC P (.loop y) (cg P fs Q) (S i₀):=fun c a w β κ r=>by
 refine wp_loop_ghost (fun n a w=>∃ i β κ,φ i∧μ i=n∧Rel c (S i) a w β κ) (μ i₀) ⟨i₀,β,κ,h₀,rfl,r⟩ ?_;rintro n a w ⟨i,β,κ,hi,rfl,r⟩;refine wp_mono (round i hi c a w β κ r) fun e a' w' ⟨s',β',κ',q,r'⟩ => ?_;cases e with
 | normal =>
  rcases (q:Cv s' dead∨∃ j,φ j∧μ j<μ i∧Cv s' (S j)) with hd | ⟨j,hj,hlt,hcv⟩
  ·obtain ⟨β2,κ2,r2⟩:=hd _ c a' w' β' κ' r';exact (zo r2).elim
  ·obtain ⟨β2,κ2,r2⟩:=hcv _ c a' w' β' κ' r';exact ⟨μ j,hlt,j,β2,κ2,hj,rfl,r2⟩
 | exit id=>exact ⟨s',β',κ',q,r'⟩
 | goto l=>exact ⟨s',β',κ',q,r'⟩
 | ret=>exact ⟨s',β',κ',q,r'⟩
 | panic ch=>exact ⟨s',β',κ',q,r'⟩
 | outgrown=>exact ⟨s',β',κ',q,r'⟩
def wv:Code→Option (Oper×List Oper×Code)
 | .loop (.seq (.region _ ops false) y)=>match ops.toList with
  | o::rest=>some (o,rest,y)
  | []=>none
 | _=>none
theorem BO {o:Oper} {rest:List Oper} {y:Code} (h:wv c=some (o,rest,y)):∃ id,c = .loop (.seq (.region id (o::rest).toArray false) y):=by
 unfold wv at h;split at h
 ·rename_i id ops y';split at h
  ·rename_i o' rest' e;cases h;refine ⟨id,?_⟩;rw [← e]
  ·cases h
 ·cases h
def Ip (ops:Array Oper) (s:AS) (o:Oper) (k:Nat):Bool:=pn true (gd ops s o)&&(match o.op with
 | .next it false=>(match s.op it with | .hptr k' 0=>Nat.beq k' k | _=>false)
 | _=>false)
theorem EE {ops:Array Oper} {o:Oper} {k:Nat} (h:Ip ops s o k=true):gd ops s o=some true∧∃ it,o.op = .next it false∧s.op it = .hptr k 0:=by
 unfold Ip at h;rw [KQ] at h;refine ⟨aQ h.1,?_⟩;have h:=h.2;split at h
 ·rename_i it e;refine ⟨it,e,?_⟩;split at h
  ·rename_i k' e2;rw [bS.1 h] at e2;exact e2
  ·cases h
 ·cases h
def zb (P:Program) (ops:Array Oper) (rest:List Oper) (ds:List pO) (dst:Option Tmp) (v:AV) (s:AS):Option (List Prop×AS):=match s.put dst v with
 | some s'=>match bf P ops rest ds s' with
  | some (ps,s2,[])=>some (ps,s2)
  | _=>none
 | none=>none
def KK {V:Type} (c:V→List AV) (e:ai×V):AV:=.tup [.bool true,.str e.1,HS (c e.2)]
def Kp {σ ε ρ:Type} (S:σ→AS):gZ σ ε ρ→AS
 | .go x=>S x
 | _=>dead
theorem yz {V:Type} {cc:V→List AV} {m:List (ai×V)} {i:Nat} (h:i<m.length):(m.map (aW cc)).getD i default=aW cc m[i]:=by simp [KO,KP h]
theorem JD {V σ ε β:Type} {cc:V→List AV} {m:List (ai×V)} {body:ai×V→σ→Option (gZ σ ε β)} {k:σ→Option β} {st0:σ} {v:β} (kk:Nat) (S:List Nat→σ→AS) {o:Oper} {rest:List Oper} {y:Code} (hc:wv c=some (o,rest,y))
 (H:rf m body st0 k=some v) (ds:List pO)
 (hn:∀ seen st,Ip (o::rest).toArray (S seen st) o kk=true∧lk .gone (S seen st).h kk = .iter (m.map (aW cc)) seen)
 (S0:List Nat→σ→AS) (h0:∀ seen st,zb P (o::rest).toArray rest ds o.dst (.tup [.bool false]) (S seen st)=some ([],S0 seen st))
 (S1:List Nat→σ→Nat→ai×V→AS) (h1:∀ seen st i e,zb P (o::rest).toArray rest ds o.dst (KK cc e) ⟨(S seen st).n,(S seen st).t,ins kk (.iter (m.map (aW cc)) (seen++[i])) (S seen st).h⟩=some ([],S1 seen st i e))
 (done:∀ seen st,k st=some v→eC P y (cg P (.bar dead::fs) Q) (S0 seen st))
 (step:∀ seen st i e,(∃ h:i<m.length,m[i]=e)→∀ q,body e st=some q→sQ q (.ret v)→eC P y (cg P (.bar (Kp (S (seen++[i])) q)::fs) Q) (S1 seen st i e)):eC P c (cg P fs Q) (S [] st0):=by
 obtain ⟨id,rfl⟩:=BO hc;refine CE (ι:=Nat×List Nat×σ) (fun x=>S x.2.1 x.2.2) (fun x=>MR m body (fun s=>k s=some v) (· = v) x.1 x.2.1 x.2.2) (fun x=>x.1) (m.length,[],st0) (Dr H) ?_;rintro ⟨n,seen,st⟩ hi;have hi:MR m body (fun s=>k s=some v) (· = v) n seen st:=hi;obtain ⟨hnx,hlk⟩:=hn seen st;obtain ⟨hg,it,hop,hit⟩:=EE hnx;refine D8 ?_;have h0':=h0 seen st;unfold zb at h0';split at h0';case h_2=>cases h0'
 rename_i s0 hs0;split at h0';case h_2=>cases h0'
 rename_i ps0 s02 hr0;simp only [KY,Prod.mk.injEq] at h0';obtain ⟨rfl,e0⟩:=h0';have h1':∀ i (hi:i<m.length),∃ s1,AS.put ⟨(S seen st).n,(S seen st).t,ins kk (.iter (m.map (aW cc)) (seen++[i])) (S seen st).h⟩ o.dst (.tup [.bool true,.str ((m.map (aW cc)).getD i default).1,((m.map (aW cc)).getD i default).2])=some s1∧bf P (o::rest).toArray rest ds s1=some ([],S1 seen st i m[i],[]):=by
  intro i hi;have h:=h1 seen st i m[i];unfold zb at h;rw [yz hi];split at h;case h_2=>cases h
  rename_i s1 hs1;split at h;case h_2=>cases h
  rename_i ps1 s12 hr1;simp only [KY,Prod.mk.injEq] at h;obtain ⟨rfl,rfl⟩:=h;exact ⟨s1,hs1,hr1⟩
 refine rK (dG (Ig hg hop hit hlk (fun hall=>⟨s0,hs0,au ds hr0 trivial (xf ?_)⟩) (fun i hi2 hns => ?_)))
 ·
  have hall:∀ i,i<m.length→i∈seen:=fun i hi=>hall i (by simpa using hi);cases n with
  | succ n =>
   obtain ⟨⟨i,hi2,hns⟩,_⟩:=hi;exact absurd (hall i hi2) hns
  | zero =>
   rw [e0];refine eC.mono (done seen st hi.2) fun e s hq => ?_;cases e with
   | normal=>exact .inl hq
   | _=>exact hq
 ·have hi2:i<m.length:=by simpa using hi2
  obtain ⟨s1,hs1,hr1⟩:=h1' i hi2;refine ⟨s1,hs1,au ds hr1 trivial (xf ?_)⟩;cases n with
  | zero=>exact absurd (hi.1 i hi2) hns
  | succ n =>
   obtain ⟨_,hi⟩:=hi;obtain ⟨q,hq,hK⟩:=hi i hi2 hns;have ho:sQ q (.ret v):=by
    cases q with
    | go s'=>trivial
    | brk e=>exact hK.elim
    | ret x=>exact congrArg Out.ret hK.symm
   refine eC.mono (step seen st i m[i] ⟨hi2,rfl⟩ q hq ho) fun e s hs => ?_;cases e with
   | normal =>
    cases q with
    | go s'=>exact .inr ⟨(n,seen++[i],s'),hK,Nat.lt_succ_self n,hs⟩
    | brk e=>exact .inl hs
    | ret x=>exact .inl hs
   | _=>exact hs
theorem og (seen:List Nat) (i:Nat):(seen++[i]).getLast? = some i:=by simp
theorem AK {V:Type} {cc:V→List AV} {m:List (ai×V)} {i:Nat} {e:ai×V} (h:∃ h:i<m.length,m[i]=e):AV.tup [.str ((m.map (aW cc)).getD i default).1,((m.map (aW cc)).getD i default).2] = .tup [.str e.1,HS (cc e.2)]:=by obtain ⟨hi,rfl⟩:=h;rw [yz hi];rfl
end
theorem JA {l:List AV} (h:l.all (fun v=>v.one&&v.fl)=true):AV.fl (HS l)=true:=by
 cases l with
 | nil=>rfl
 | cons v l=>simp only [List.all_cons,KQ] at h;exact h.1.2
theorem z6 {V:Type} {c:V→List AV} {sz:Nat} (h:∀ x,(c x).length=sz∧(c x).all (fun v=>v.one&&v.fl)=true) (m:List (ai×V)):KL (m.map (aW c)):=by intro p hp;obtain ⟨x,_,rfl⟩:=List.mem_map.1 hp;exact JA (h x.2).2
section
variable {P:Program}
def AV.vwT (h:List (Nat×AO)):AV→AV
 | .tup cs=>.tup (cs.map (AV.vw1 h))
 | v=>AV.vw h v
theorem G.vwT {c:Cx P} {h:List (Nat×AO)} {w:World} {β:Nat→Nat} {κ:Nat→Nat×Nat} (r:ff c h w β κ) {v:AV} {V:Value} (hg:G w (c.XX h β) β κ v V):D w c.X (AV.vwT h v) V:=by
 unfold AV.vwT;split
 ·obtain ⟨vs,rfl,hl,hgs⟩:=hg.tup_inv;refine .tup _ _ (by simpa using hl) fun i hi => ?_;have e:∀ cs:List AV,(cs.map (AV.vw1 h)).getD i .any=AV.vw1 h (cs.getD i .any):=fun cs=>getD_map (AV.vw1 h) cs i .any .any rfl;rw [e];exact (hgs i (by simpa using hi)).vw1 r
 ·exact hg.vw r
theorem bo.frz {f:FuncId} {args:List AV} {h0 h1:List (Nat×AO)} {v u:AV} (h:bo P f args h0 fun r h'=>r=v∧h'=h1) (hu:AV.vwT h1 v=u):bo P f args h0 fun r h'=>r=u∧h'=[]:=by subst hu;intro c vs hl hr hg;refine (h c vs hl hr hg).mono fun e w' ⟨V,v',h',β',κ',e1,⟨e2,e3⟩,hr',hG⟩ => ?_;subst e2;subst e3;refine ⟨V,_,[],β',κ',e1,⟨rfl,rfl⟩,ff.nilA hr'.kp hr'.fix,.d ((hG.vwT hr').mono (fun _ _ _=>rfl) fun b hb _ hb2=>hb (hb2.resolve_right fun ⟨_,h,_⟩=>ng h))⟩
end
section
variable {P:Program} {Q:Exit→AS→Prop} {c:Code} {fs:List Fr} {s:AS}
def KM:Oper×List Oper×Code:=(⟨none,.panic (.const .nilIface),0, "", #[],none⟩,[],.skip)
def nx (c:Code):Oper×List Oper×Code:=(wv c).getD KM
theorem Aw {V σ ε β:Type} {cc:V→List AV} {m:List (ai×V)} {body:ai×V→σ→Option (gZ σ ε β)} {k:σ→Option β} {st0:σ} {v:β} (kk:Nat) (S:List Nat→σ→AS) (hc:(wv c).isSome=true)
 (H:rf m body st0 k=some v) (ds:List pO)
 (hn:∀ seen st,Ip ((nx c).1::(nx c).2.1).toArray (S seen st) (nx c).1 kk=true∧lk .gone (S seen st).h kk = .iter (m.map (aW cc)) seen)
 (S0:List Nat→σ→AS) (h0:∀ seen st,zb P ((nx c).1::(nx c).2.1).toArray (nx c).2.1 ds (nx c).1.dst (.tup [.bool false]) (S seen st)=some ([],S0 seen st))
 (S1:List Nat→σ→Nat→ai×V→AS) (h1:∀ seen st i e,zb P ((nx c).1::(nx c).2.1).toArray (nx c).2.1 ds (nx c).1.dst (KK cc e) ⟨(S seen st).n,(S seen st).t,ins kk (.iter (m.map (aW cc)) (seen++[i])) (S seen st).h⟩=some ([],S1 seen st i e))
 (done:∀ seen st,k st=some v→eC P (nx c).2.2 (cg P (.bar dead::fs) Q) (S0 seen st))
 (step:∀ seen st i e,(∃ h:i<m.length,m[i]=e)→∀ q,body e st=some q→sQ q (.ret v)→eC P (nx c).2.2 (cg P (.bar (Kp (S (seen++[i])) q)::fs) Q) (S1 seen st i e)):eC P c (cg P fs Q) (S [] st0):=by
 obtain ⟨x,hx⟩:=Option.isSome_iff_exists.1 hc;have e:nx c=x:=by unfold nx;rw [hx];rfl
 refine JD (o:=(nx c).1) (rest:=(nx c).2.1) (y:=(nx c).2.2) kk S (by rw [e,hx]) H ds hn S0 h0 S1 h1 done step
end
theorem JR (l:List ai) (i:Nat) (h:i<l.length):(l.map AV.str).getD i .any = .str (l.getD i []):=by simp [KO,KP h]
open Go.Proofs Go.Sort
section
variable {P:Program} {ρ:Go.Shelf.Ren}
def sortS (xs:List ai):List ai:=xs.mergeSort fun x y=>decide (x≤y)
def lU (xs:List ai):Option (List ai):=cy (xs.length<4611686018427387904) <| some (sortS xs)
theorem CS (L:Lays.n190 P ρ) (xs r:List ai) (H:lU xs=some r) :
 bo P (ρ.f 190) [.rslice 1000] [(1000,.row (ρ.t 9) 1 (xs.map eE))] (fun v h=>v = .tup []∧h=[(1000,.row (ρ.t 9) 1 (r.map eE))]):=by
 unfold lU at H;refine aU H fun hn H => ?_;refine bB H fun e => ?_;subst e;have hlen:(sortS xs).length=xs.length:=List.length_mergeSort ..;intro c vs hl hr hg;have hv:vs=[vs.getD 0 undef]:=J0 (by simpa using hl);have h0:G c.W (c.XX [(1000,.row (ρ.t 9) 1 (xs.map eE))] c.β) c.β c.κ (.rslice 1000) (vs.getD 0 undef):=hg 0 (by simp);have ho:HO c.W (c.XX [(1000,.row (ρ.t 9) 1 (xs.map eE))] c.β) c.β c.κ 1000 (.row (ρ.t 9) 1 (xs.map eE)):=hr.ob 1000;have hk2:(c.κ 1000).2=xs.length:=by simpa using ho.1
 have hlk:∀ (ys:List ai) k,lk AO.gone [(1000,AO.row (ρ.t 9) 1 (ys.map eE))] k=if k=1000 then .row (ρ.t 9) 1 (ys.map eE) else .gone:=by
  intro ys k;simp only [lk];by_cases e:k=1000
  ·subst e;simp
  ·rw [bT e];simp [e]
 have hlive:∀ (ys:List ai) k,lv [(1000,AO.row (ρ.t 9) 1 (ys.map eE))] k→k=1000∧ys≠[]:=by
  rintro ys k (h | ⟨m,i,_,h⟩)
  ·rw [hlk] at h;by_cases e:k=1000
   ·subst e;rw [if_pos rfl] at h;exact ⟨rfl,fun e=>by subst e;exact h rfl⟩
   ·rw [if_neg e] at h;exact h.elim
  ·rw [hlk] at h;by_cases e:m=1000
   ·rw [if_pos e] at h;exact h.elim
   ·rw [if_neg e] at h;exact h.elim
 rcases h0.rslice_inv with ⟨hpos,hV⟩ | ⟨hz,ad,hV⟩
 ·
  have hne:xs≠[]:=by intro e;subst e;rw [hk2] at hpos;simp at hpos
  obtain ⟨cur,h1,h2,h3,h4,h5,h6,h7⟩:=ho.2 (by simpa using hne);simp only [KW,Nat.mul_one] at h2 h3 h6 h7;have hcur:∀ j (hj:j<xs.length),cur.getD j undef=encStr xs[j]∧xs[j].length≤maxLen:=by
   intro j hj;have:=h7 j 0 hj (by omega);rw [Nat.add_zero,eP (d:=([]:ai)) hj] at this;have e1:(eE (xs.getD j [])).getD 0 .any = .str xs[j]:=by show AV.str (xs.getD j [])=_;rw [KO,KP hj];rfl
   rw [e1] at this;have:=this.str_inv;exact ⟨this.1,this.2⟩
  have hsz:c.β 1000<c.W.heap.size:=(Array.getElem?_eq_some_iff.1 h1).1;have hH:Holds encStr c.W (c.β 1000) 0 xs.toArray:=by
   intro j hj;have hj:j<xs.length:=by simpa using hj
   rw [Nat.zero_add];refine ⟨?_,?_⟩
   ·rw [ba h1 (by omega),(hcur j hj).1];simp [hj]
   ·simp [World.frozen?,h1]
  rw [hv,hV,hk2];refine (Any.slices_Sort_string L (c.β 1000) 0 (c.κ 1000).1 xs c.W hH hsz hn).mono fun e w' ⟨e1,n,os,e2⟩ => ?_;have hsortE:(xs.mergeSort fun x y=>decide (x≤y))=sortS xs:=rfl;rw [hsortE] at e2;subst e2;let cur':=putCells encStr 0 (sortS xs).toArray cur
  have hblk:(grow (putRow encStr (Sort.ahead c.W n) (c.β 1000) 0 (sortS xs).toArray) os).heap[c.β 1000]? = some (.cells cur' (ρ.t 9) (0,0)):=by simp only [grow,putRow,mapBlock,Sort.ahead];rw [Array.getElem?_append_left (by simpa using hsz),Array.getElem?_modify,if_pos rfl,h1];rfl
  have hoth:∀ b,b≠c.β 1000→b<c.W.heap.size→(grow (putRow encStr (Sort.ahead c.W n) (c.β 1000) 0 (sortS xs).toArray) os).heap[b]? = c.W.heap[b]? := by intro b hb hlt;simp only [grow,putRow,mapBlock,Sort.ahead];rw [Array.getElem?_append_left (by simpa using hlt),Array.getElem?_modify,if_neg (Ne.symm hb)]
  have hcs:cur'.size=cur.size:=by simp [cur',putCells]
  have hnK:¬ c.K (c.β 1000):=hr.nk 1000 (.inl (by rw [hlk,if_pos rfl];simpa [AO.live] using hne));refine ⟨_,.tup [],[(1000,.row (ρ.t 9) 1 ((sortS xs).map eE))],c.β,c.κ,e1,⟨rfl,rfl⟩,⟨fun k => ?_,fun i j hi hj _ => ?_,⟨rfl,rfl,rfl,?_,fun b hb=>hoth b (fun e=>hnK (e ▸ hb)) (c.hK b hb)⟩,fun k hk => ?_,fun k hk => ?_,fun k hk _=>⟨rfl,rfl⟩,fun k hk => ?_⟩,.d (.tup _ _ rfl (fun i hi=>by simp at hi))⟩
  ·rw [hlk];by_cases ek:k=1000
   ·subst ek;rw [if_pos rfl];refine ⟨by simp [hk2,hlen],fun _=>⟨cur',hblk,by rw [hcs,h2];simp,by simpa [hlen] using h3,h4,by omega,fun i hi => ?_,fun i j hi hj => ?_⟩⟩
    ·have hi:i<(sortS xs).length:=by simpa using hi
     rw [eP (d:=([]:ai)) hi];rfl
    ·have hi:i<(sortS xs).length:=by simpa using hi
     have ej:j=0:=by omega
     subst ej;rw [Nat.mul_one,Nat.add_zero,eP (d:=([]:ai)) hi];have e1:(eE ((sortS xs).getD i [])).getD 0 .any = .str (sortS xs)[i]:=by show AV.str ((sortS xs).getD i [])=_;rw [KO,KP hi];rfl
     have e2:cur'.getD i undef=encStr (sortS xs)[i]:=by
      have hic:i<cur.size:=by omega
      simp [cur',putCells,KR,hic,hi]
     rw [e1,e2];refine .str _ ?_;have hm:(sortS xs)[i]∈xs:=(List.mem_mergeSort (le:=fun x y=>decide (x≤y))).1 (List.getElem_mem hi);obtain ⟨j,hj,e3⟩:=List.getElem_of_mem hm;rw [← e3];exact (hcur j hj).2
   ·rw [if_neg ek];trivial
  ·rw [(hlive _ _ hi).1,(hlive _ _ hj).1]
  ·simp [grow,Sort.ahead]
  ·obtain ⟨rfl,_⟩:=hlive _ _ hk;exact hnK
  ·obtain ⟨rfl,_⟩:=hlive _ _ hk;exact hr.nx 1000 (.inl (by rw [hlk,if_pos rfl];simpa [AO.live] using hne))
  ·rw [hlk] at hk;by_cases ek:k=1000
   ·omega
   ·rw [if_neg ek] at hk;exact absurd rfl hk
 ·
  have hx:xs=[]:=List.eq_nil_of_length_eq_zero (by omega);subst hx;rw [hv,hV];refine (Any.slices_Sort_string_none L ad 0 c.W).mono fun e w' ⟨e1,e2⟩ => ?_;subst e2;exact ⟨_,.tup [],[(1000,.row (ρ.t 9) 1 (([]:List ai).map eE))],c.β,c.κ,e1,⟨rfl,by simp [sortS]⟩,hr,.d (.tup _ _ rfl (fun i hi=>by simp at hi))⟩
end
end Go.Ab
namespace Go.Proofs
open Go.Shelf
def Tryz.lays156_ren:Go.Shelf.Ren:=⟨fun | 156=>153 | 165=>217 | 166=>218 | 169=>219 | 240=>265 | 241=>266 | 276=>294 | 277=>295 | n=>n,fun | 31=>90 | 9=>9 | 3=>3 | 4=>4 | 0=>0 | 20=>20 | 72=>233 | 76=>179 | 70=>231 | 37=>181 | 75=>178 | 127=>266 | 164=>288 | 5=>5 | 80=>235 | n=>n,fun | n=>n⟩
theorem Tryz.lays156:Go.Proofs.Lays.n156 Tryz.prog Tryz.lays156_ren:={
 mixed:=by kernel_rfl
 f156:=Tryz.func153.trans (congrArg some (by kernel_rfl))
 f165:=Tryz.func217.trans (congrArg some (by kernel_rfl))
 f166:=Tryz.func218.trans (congrArg some (by kernel_rfl))
 f169:=Tryz.func219.trans (congrArg some (by kernel_rfl))
 f240:=Tryz.func265.trans (congrArg some (by kernel_rfl))
 f241:=Tryz.func266.trans (congrArg some (by kernel_rfl))
 f276:=Tryz.func294.trans (congrArg some (by kernel_rfl))
 f277:=Tryz.func295.trans (congrArg some (by kernel_rfl))
 t0:=Tryz.underlying0
 a0:=Tryz.isAgg0
 z0:=Tryz.sizeOf0
 v0:=Tryz.zeroValue0
 t3:=Tryz.underlying3
 a3:=Tryz.isAgg3
 z3:=Tryz.sizeOf3
 v3:=Tryz.zeroValue3
 t4:=Tryz.underlying4
 a4:=Tryz.isAgg4
 z4:=Tryz.sizeOf4
 v4:=Tryz.zeroValue4
 t9:=Tryz.underlying9
 a9:=Tryz.isAgg9
 z9:=Tryz.sizeOf9
 v9:=Tryz.zeroValue9
 t20:=Tryz.underlying20
 a20:=Tryz.isAgg20
 z20:=Tryz.sizeOf20
 v20:=Tryz.zeroValue20
 t31:=Tryz.underlying90
 a31:=Tryz.isAgg90
 z31:=Tryz.sizeOf90
 v31:=Tryz.zeroValue90
 t37:=Tryz.underlying181
 a37:=Tryz.isAgg181
 z37:=Tryz.sizeOf181
 v37:=Tryz.zeroValue181
 t70:=Tryz.underlying231
 a70:=Tryz.isAgg231
 z70:=Tryz.sizeOf231
 v70:=Tryz.zeroValue231
 t72:=Tryz.underlying233
 a72:=Tryz.isAgg233
 z72:=Tryz.sizeOf233
 v72:=Tryz.zeroValue233
 t75:=Tryz.underlying178
 a75:=Tryz.isAgg178
 z75:=Tryz.sizeOf178
 v75:=Tryz.zeroValue178
 t76:=Tryz.underlying179
 a76:=Tryz.isAgg179
 z76:=Tryz.sizeOf179
 v76:=Tryz.zeroValue179
 t127:=Tryz.underlying266
 a127:=Tryz.isAgg266
 z127:=Tryz.sizeOf266
 v127:=Tryz.zeroValue266
 t164:=Tryz.underlying288
 a164:=Tryz.isAgg288
 z164:=Tryz.sizeOf288
 v164:=Tryz.zeroValue288 }
theorem Tryz.Builder_Extra_156:Builder.Extra Tryz.prog Tryz.lays156_ren:={
 sizeBuilder:=by kernel_rfl
 liesBuilder:=by kernel_rfl
 t5:=Tryz.underlying5
 a5:=Tryz.isAgg5
 z5:=Tryz.sizeOf5
 v5:=Tryz.zeroValue5
 infoByte:=by kernel_rfl
 cellsByte:=by kernel_rfl
 sizeByte:=by kernel_rfl
 neB5:=by decide }
def Tryz.lays160_ren:Go.Shelf.Ren:=⟨fun | 160=>106 | 232=>177 | 231=>176 | 227=>178 | 234=>180 | 233=>179 | 236=>182 | 235=>181 | 228=>195 | 271=>236 | 151=>235 | 197=>234 | 120=>278 | 152=>193 | 260=>277 | 137=>244 | 119=>245 | 224=>246 | 225=>247 | 217=>279 | 266=>304 | n=>n,fun | 9=>9 | 4=>4 | 3=>3 | 5=>5 | 117=>187 | 116=>186 | 0=>0 | 124=>190 | 21=>21 | 105=>241 | 46=>228 | 119=>301 | 139=>304 | 138=>303 | n=>n,fun | 3=>3 | 4=>4 | n=>n⟩
theorem Tryz.lays160:Go.Proofs.Lays.n160 Tryz.prog Tryz.lays160_ren:={
 mixed:=by kernel_rfl
 f119:=Tryz.func245.trans (congrArg some (by kernel_rfl))
 f120:=Tryz.func278.trans (congrArg some (by kernel_rfl))
 f137:=Tryz.func244.trans (congrArg some (by kernel_rfl))
 f151:=Tryz.func235.trans (congrArg some (by kernel_rfl))
 f152:=Tryz.func193.trans (congrArg some (by kernel_rfl))
 f160:=Tryz.func106.trans (congrArg some (by kernel_rfl))
 f197:=Tryz.func234.trans (congrArg some (by kernel_rfl))
 f217:=Tryz.func279.trans (congrArg some (by kernel_rfl))
 f224:=Tryz.func246.trans (congrArg some (by kernel_rfl))
 f225:=Tryz.func247.trans (congrArg some (by kernel_rfl))
 f227:=Tryz.func178.trans (congrArg some (by kernel_rfl))
 f228:=Tryz.func195.trans (congrArg some (by kernel_rfl))
 f231:=Tryz.func176.trans (congrArg some (by kernel_rfl))
 f232:=Tryz.func177.trans (congrArg some (by kernel_rfl))
 f233:=Tryz.func179.trans (congrArg some (by kernel_rfl))
 f234:=Tryz.func180.trans (congrArg some (by kernel_rfl))
 f235:=Tryz.func181.trans (congrArg some (by kernel_rfl))
 f236:=Tryz.func182.trans (congrArg some (by kernel_rfl))
 f260:=Tryz.func277.trans (congrArg some (by kernel_rfl))
 f266:=Tryz.func304.trans (congrArg some (by kernel_rfl))
 f271:=Tryz.func236.trans (congrArg some (by kernel_rfl))
 t0:=Tryz.underlying0
 a0:=Tryz.isAgg0
 z0:=Tryz.sizeOf0
 v0:=Tryz.zeroValue0
 t3:=Tryz.underlying3
 a3:=Tryz.isAgg3
 z3:=Tryz.sizeOf3
 v3:=Tryz.zeroValue3
 t4:=Tryz.underlying4
 a4:=Tryz.isAgg4
 z4:=Tryz.sizeOf4
 v4:=Tryz.zeroValue4
 t5:=Tryz.underlying5
 a5:=Tryz.isAgg5
 z5:=Tryz.sizeOf5
 v5:=Tryz.zeroValue5
 t9:=Tryz.underlying9
 a9:=Tryz.isAgg9
 z9:=Tryz.sizeOf9
 v9:=Tryz.zeroValue9
 t21:=Tryz.underlying21
 a21:=Tryz.isAgg21
 z21:=Tryz.sizeOf21
 v21:=Tryz.zeroValue21
 t46:=Tryz.underlying228
 a46:=Tryz.isAgg228
 z46:=Tryz.sizeOf228
 v46:=Tryz.zeroValue228
 t105:=Tryz.underlying241
 a105:=Tryz.isAgg241
 z105:=Tryz.sizeOf241
 v105:=Tryz.zeroValue241
 t116:=Tryz.underlying186
 a116:=Tryz.isAgg186
 z116:=Tryz.sizeOf186
 t117:=Tryz.underlying187
 a117:=Tryz.isAgg187
 z117:=Tryz.sizeOf187
 v117:=Tryz.zeroValue187
 t119:=Tryz.underlying301
 a119:=Tryz.isAgg301
 z119:=Tryz.sizeOf301
 t124:=Tryz.underlying190
 a124:=Tryz.isAgg190
 z124:=Tryz.sizeOf190
 v124:=Tryz.zeroValue190
 t138:=Tryz.underlying303
 a138:=Tryz.isAgg303
 z138:=Tryz.sizeOf303
 v138:=Tryz.zeroValue303
 t139:=Tryz.underlying304
 a139:=Tryz.isAgg304
 z139:=Tryz.sizeOf304
 v139:=Tryz.zeroValue304
 g3:=by kernel_rfl
 g4:=by kernel_rfl }
def Tryz.laysM171_ren:Go.Shelf.Ren:=⟨fun | 171=>168 | 243=>233 | 246=>276 | 283=>300 | 284=>301 | 285=>302 | 286=>303 | 129=>263 | 317=>312 | 318=>313 | 319=>314 | 320=>315 | 337=>317 | 338=>318 | n=>n,fun | 3=>3 | 9=>9 | 2=>2 | 4=>4 | 171=>297 | 0=>0 | 53=>199 | 37=>181 | 5=>5 | 173=>299 | 212=>316 | 51=>264 | 20=>20 | 213=>317 | 46=>228 | 232=>319 | 233=>320 | n=>n,fun | 17=>5 | 18=>6 | 19=>7 | n=>n⟩
theorem Tryz.laysM171:Go.Proofs.LaysM.n171 Tryz.prog Tryz.laysM171_ren:={
 mixed:=by kernel_rfl
 f129:=Tryz.func263.trans (congrArg some (by kernel_rfl))
 f171:=Tryz.func168.trans (congrArg some (by kernel_rfl))
 f243:=Tryz.func233.trans (congrArg some (by kernel_rfl))
 f246:=Tryz.func276.trans (congrArg some (by kernel_rfl))
 f283:=Tryz.func300.trans (congrArg some (by kernel_rfl))
 f284:=Tryz.func301.trans (congrArg some (by kernel_rfl))
 f285:=Tryz.func302.trans (congrArg some (by kernel_rfl))
 f286:=Tryz.func303.trans (congrArg some (by kernel_rfl))
 f317:=Tryz.func312.trans (congrArg some (by kernel_rfl))
 f318:=Tryz.func313.trans (congrArg some (by kernel_rfl))
 f319:=Tryz.func314.trans (congrArg some (by kernel_rfl))
 f320:=Tryz.func315.trans (congrArg some (by kernel_rfl))
 f337:=Tryz.func317.trans (congrArg some (by kernel_rfl))
 f338:=Tryz.func318.trans (congrArg some (by kernel_rfl))
 t0:=Tryz.underlying0
 a0:=Tryz.isAgg0
 z0:=Tryz.sizeOf0
 v0:=Tryz.zeroValue0
 t2:=Tryz.underlying2
 a2:=Tryz.isAgg2
 z2:=Tryz.sizeOf2
 v2:=Tryz.zeroValue2
 t3:=Tryz.underlying3
 a3:=Tryz.isAgg3
 z3:=Tryz.sizeOf3
 v3:=Tryz.zeroValue3
 t4:=Tryz.underlying4
 a4:=Tryz.isAgg4
 z4:=Tryz.sizeOf4
 v4:=Tryz.zeroValue4
 t5:=Tryz.underlying5
 a5:=Tryz.isAgg5
 z5:=Tryz.sizeOf5
 v5:=Tryz.zeroValue5
 t9:=Tryz.underlying9
 a9:=Tryz.isAgg9
 z9:=Tryz.sizeOf9
 v9:=Tryz.zeroValue9
 t20:=Tryz.underlying20
 a20:=Tryz.isAgg20
 z20:=Tryz.sizeOf20
 v20:=Tryz.zeroValue20
 t37:=Tryz.underlying181
 a37:=Tryz.isAgg181
 z37:=Tryz.sizeOf181
 v37:=Tryz.zeroValue181
 t46:=Tryz.underlying228
 a46:=Tryz.isAgg228
 z46:=Tryz.sizeOf228
 v46:=Tryz.zeroValue228
 t51:=Tryz.underlying264
 a51:=Tryz.isAgg264
 z51:=Tryz.sizeOf264
 v51:=Tryz.zeroValue264
 t53:=Tryz.underlying199
 a53:=Tryz.isAgg199
 z53:=Tryz.sizeOf199
 v53:=Tryz.zeroValue199
 t171:=Tryz.underlying297
 a171:=Tryz.isAgg297
 z171:=Tryz.sizeOf297
 v171:=Tryz.zeroValue297
 t173:=Tryz.underlying299
 a173:=Tryz.isAgg299
 z173:=Tryz.sizeOf299
 v173:=Tryz.zeroValue299
 t212:=Tryz.underlying316
 a212:=Tryz.isAgg316
 z212:=Tryz.sizeOf316
 v212:=Tryz.zeroValue316
 t213:=Tryz.underlying317
 a213:=Tryz.isAgg317
 z213:=Tryz.sizeOf317
 t232:=Tryz.underlying319
 a232:=Tryz.isAgg319
 z232:=Tryz.sizeOf319
 v232:=Tryz.zeroValue319
 t233:=Tryz.underlying320
 a233:=Tryz.isAgg320
 z233:=Tryz.sizeOf320
 v233:=Tryz.zeroValue320
 g17:=by kernel_rfl
 g18:=by kernel_rfl
 g19:=by kernel_rfl
 i0:=by kernel_rfl
 i2:=by kernel_rfl
 i3:=by kernel_rfl
 i4:=by kernel_rfl
 i5:=by kernel_rfl
 i9:=by kernel_rfl
 i20:=by kernel_rfl
 i37:=by kernel_rfl
 i46:=by kernel_rfl
 i51:=by kernel_rfl
 i53:=by kernel_rfl
 i171:=by kernel_rfl
 i173:=by kernel_rfl
 i212:=by kernel_rfl
 i232:=by kernel_rfl
 i233:=by kernel_rfl
 m17:=by kernel_rfl
 m18:=by kernel_rfl
 m19:=by kernel_rfl }
def Tryz.laysC172_ren:Go.Shelf.Ren:=⟨fun | 172=>167 | 244=>231 | 245=>232 | 247=>271 | 279=>272 | 280=>273 | 281=>274 | 282=>275 | 287=>297 | 316=>298 | 171=>168 | 205=>299 | 321=>310 | 322=>311 | 243=>233 | 246=>276 | 283=>300 | 284=>301 | 285=>302 | 286=>303 | 129=>263 | 317=>312 | 318=>313 | 319=>314 | 320=>315 | 337=>317 | 338=>318 | n=>n,fun | 9=>9 | 3=>3 | 75=>178 | 76=>179 | 4=>4 | 5=>5 | 167=>269 | 37=>181 | 0=>0 | 85=>270 | 2=>2 | 168=>272 | 53=>199 | 175=>291 | 46=>228 | 210=>295 | 127=>266 | 145=>314 | 143=>312 | 21=>21 | 171=>297 | 173=>299 | 212=>316 | 51=>264 | 20=>20 | 213=>317 | 232=>319 | 233=>320 | 80=>235 | n=>n,fun | 15=>1 | 16=>2 | 17=>5 | 18=>6 | 19=>7 | n=>n⟩
theorem Tryz.laysC172:Go.Proofs.LaysC.n172 Tryz.prog Tryz.laysC172_ren:={
 mixed:=by kernel_rfl
 f129:=Tryz.func263.trans (congrArg some (by kernel_rfl))
 f171:=Tryz.func168.trans (congrArg some (by kernel_rfl))
 f172:=Tryz.func167.trans (congrArg some (by kernel_rfl))
 f205:=Tryz.func299.trans (congrArg some (by kernel_rfl))
 f243:=Tryz.func233.trans (congrArg some (by kernel_rfl))
 f244:=Tryz.func231.trans (congrArg some (by kernel_rfl))
 f245:=Tryz.func232.trans (congrArg some (by kernel_rfl))
 f246:=Tryz.func276.trans (congrArg some (by kernel_rfl))
 f247:=Tryz.func271.trans (congrArg some (by kernel_rfl))
 f279:=Tryz.func272.trans (congrArg some (by kernel_rfl))
 f280:=Tryz.func273.trans (congrArg some (by kernel_rfl))
 f281:=Tryz.func274.trans (congrArg some (by kernel_rfl))
 f282:=Tryz.func275.trans (congrArg some (by kernel_rfl))
 f283:=Tryz.func300.trans (congrArg some (by kernel_rfl))
 f284:=Tryz.func301.trans (congrArg some (by kernel_rfl))
 f285:=Tryz.func302.trans (congrArg some (by kernel_rfl))
 f286:=Tryz.func303.trans (congrArg some (by kernel_rfl))
 f287:=Tryz.func297.trans (congrArg some (by kernel_rfl))
 f316:=Tryz.func298.trans (congrArg some (by kernel_rfl))
 f317:=Tryz.func312.trans (congrArg some (by kernel_rfl))
 f318:=Tryz.func313.trans (congrArg some (by kernel_rfl))
 f319:=Tryz.func314.trans (congrArg some (by kernel_rfl))
 f320:=Tryz.func315.trans (congrArg some (by kernel_rfl))
 f321:=Tryz.func310.trans (congrArg some (by kernel_rfl))
 f322:=Tryz.func311.trans (congrArg some (by kernel_rfl))
 f337:=Tryz.func317.trans (congrArg some (by kernel_rfl))
 f338:=Tryz.func318.trans (congrArg some (by kernel_rfl))
 t0:=Tryz.underlying0
 a0:=Tryz.isAgg0
 z0:=Tryz.sizeOf0
 v0:=Tryz.zeroValue0
 t2:=Tryz.underlying2
 a2:=Tryz.isAgg2
 z2:=Tryz.sizeOf2
 v2:=Tryz.zeroValue2
 t3:=Tryz.underlying3
 a3:=Tryz.isAgg3
 z3:=Tryz.sizeOf3
 v3:=Tryz.zeroValue3
 t4:=Tryz.underlying4
 a4:=Tryz.isAgg4
 z4:=Tryz.sizeOf4
 v4:=Tryz.zeroValue4
 t5:=Tryz.underlying5
 a5:=Tryz.isAgg5
 z5:=Tryz.sizeOf5
 v5:=Tryz.zeroValue5
 t9:=Tryz.underlying9
 a9:=Tryz.isAgg9
 z9:=Tryz.sizeOf9
 v9:=Tryz.zeroValue9
 t20:=Tryz.underlying20
 a20:=Tryz.isAgg20
 z20:=Tryz.sizeOf20
 v20:=Tryz.zeroValue20
 t21:=Tryz.underlying21
 a21:=Tryz.isAgg21
 z21:=Tryz.sizeOf21
 v21:=Tryz.zeroValue21
 t37:=Tryz.underlying181
 a37:=Tryz.isAgg181
 z37:=Tryz.sizeOf181
 v37:=Tryz.zeroValue181
 t46:=Tryz.underlying228
 a46:=Tryz.isAgg228
 z46:=Tryz.sizeOf228
 v46:=Tryz.zeroValue228
 t51:=Tryz.underlying264
 a51:=Tryz.isAgg264
 z51:=Tryz.sizeOf264
 v51:=Tryz.zeroValue264
 t53:=Tryz.underlying199
 a53:=Tryz.isAgg199
 z53:=Tryz.sizeOf199
 v53:=Tryz.zeroValue199
 t75:=Tryz.underlying178
 a75:=Tryz.isAgg178
 z75:=Tryz.sizeOf178
 v75:=Tryz.zeroValue178
 t76:=Tryz.underlying179
 a76:=Tryz.isAgg179
 z76:=Tryz.sizeOf179
 v76:=Tryz.zeroValue179
 t85:=Tryz.underlying270
 a85:=Tryz.isAgg270
 z85:=Tryz.sizeOf270
 v85:=Tryz.zeroValue270
 t127:=Tryz.underlying266
 a127:=Tryz.isAgg266
 z127:=Tryz.sizeOf266
 v127:=Tryz.zeroValue266
 t143:=Tryz.underlying312
 a143:=Tryz.isAgg312
 z143:=Tryz.sizeOf312
 v143:=Tryz.zeroValue312
 t145:=Tryz.underlying314
 a145:=Tryz.isAgg314
 z145:=Tryz.sizeOf314
 v145:=Tryz.zeroValue314
 t167:=Tryz.underlying269
 a167:=Tryz.isAgg269
 z167:=Tryz.sizeOf269
 v167:=Tryz.zeroValue269
 t168:=Tryz.underlying272
 a168:=Tryz.isAgg272
 z168:=Tryz.sizeOf272
 v168:=Tryz.zeroValue272
 t171:=Tryz.underlying297
 a171:=Tryz.isAgg297
 z171:=Tryz.sizeOf297
 v171:=Tryz.zeroValue297
 t173:=Tryz.underlying299
 a173:=Tryz.isAgg299
 z173:=Tryz.sizeOf299
 v173:=Tryz.zeroValue299
 t175:=Tryz.underlying291
 a175:=Tryz.isAgg291
 z175:=Tryz.sizeOf291
 v175:=Tryz.zeroValue291
 t210:=Tryz.underlying295
 a210:=Tryz.isAgg295
 z210:=Tryz.sizeOf295
 v210:=Tryz.zeroValue295
 t212:=Tryz.underlying316
 a212:=Tryz.isAgg316
 z212:=Tryz.sizeOf316
 v212:=Tryz.zeroValue316
 t213:=Tryz.underlying317
 a213:=Tryz.isAgg317
 z213:=Tryz.sizeOf317
 t232:=Tryz.underlying319
 a232:=Tryz.isAgg319
 z232:=Tryz.sizeOf319
 v232:=Tryz.zeroValue319
 t233:=Tryz.underlying320
 a233:=Tryz.isAgg320
 z233:=Tryz.sizeOf320
 v233:=Tryz.zeroValue320
 g15:=by kernel_rfl
 g16:=by kernel_rfl
 g17:=by kernel_rfl
 g18:=by kernel_rfl
 g19:=by kernel_rfl
 t80:=Tryz.underlying235
 a80:=Tryz.isAgg235
 z80:=Tryz.sizeOf235
 v80:=Tryz.zeroValue235
 i0:=by kernel_rfl
 i2:=by kernel_rfl
 i3:=by kernel_rfl
 i4:=by kernel_rfl
 i5:=by kernel_rfl
 i9:=by kernel_rfl
 i20:=by kernel_rfl
 i21:=by kernel_rfl
 i37:=by kernel_rfl
 i46:=by kernel_rfl
 i51:=by kernel_rfl
 i53:=by kernel_rfl
 i75:=by kernel_rfl
 i76:=by kernel_rfl
 i80:=by kernel_rfl
 i85:=by kernel_rfl
 i127:=by kernel_rfl
 i143:=by kernel_rfl
 i145:=by kernel_rfl
 i167:=by kernel_rfl
 i168:=by kernel_rfl
 i171:=by kernel_rfl
 i173:=by kernel_rfl
 i175:=by kernel_rfl
 i210:=by kernel_rfl
 i212:=by kernel_rfl
 i232:=by kernel_rfl
 i233:=by kernel_rfl
 m15:=by kernel_rfl
 m16:=by kernel_rfl
 m17:=by kernel_rfl
 m18:=by kernel_rfl
 m19:=by kernel_rfl
 c0:=by kernel_rfl
 c2:=by kernel_rfl
 c3:=by kernel_rfl
 c4:=by kernel_rfl
 c5:=by kernel_rfl
 c9:=by kernel_rfl
 c20:=by kernel_rfl
 c21:=by kernel_rfl
 c37:=by kernel_rfl
 c46:=by kernel_rfl
 c51:=by kernel_rfl
 c53:=by kernel_rfl
 c75:=by kernel_rfl
 c76:=by kernel_rfl
 c80:=by kernel_rfl
 c85:=by kernel_rfl
 c127:=by kernel_rfl
 c143:=by kernel_rfl
 c145:=by kernel_rfl
 c167:=by kernel_rfl
 c168:=by kernel_rfl
 c171:=by kernel_rfl
 c173:=by kernel_rfl
 c175:=by kernel_rfl
 c210:=by kernel_rfl
 c212:=by kernel_rfl
 c213:=by kernel_rfl
 c232:=by kernel_rfl
 c233:=by kernel_rfl }
def Tryz.lays190_ren:Go.Shelf.Ren:=⟨fun | 190=>138 | 125=>214 | 258=>213 | 128=>262 | 129=>263 | 302=>254 | 303=>255 | 304=>256 | 305=>257 | 306=>258 | 307=>259 | 308=>210 | 309=>260 | 310=>261 | 333=>289 | 329=>290 | 330=>291 | 334=>292 | 335=>293 | 336=>253 | 344=>308 | n=>n,fun | 31=>90 | 9=>9 | 3=>3 | 46=>228 | 0=>0 | 51=>264 | 53=>199 | 4=>4 | 183=>258 | 182=>257 | 131=>58 | 5=>5 | 218=>282 | 222=>286 | 228=>307 | 229=>209 | n=>n,fun | n=>n⟩
theorem Tryz.lays190:Go.Proofs.Lays.n190 Tryz.prog Tryz.lays190_ren:={
 mixed:=by kernel_rfl
 f125:=Tryz.func214.trans (congrArg some (by kernel_rfl))
 f128:=Tryz.func262.trans (congrArg some (by kernel_rfl))
 f129:=Tryz.func263.trans (congrArg some (by kernel_rfl))
 f190:=Tryz.func138.trans (congrArg some (by kernel_rfl))
 f258:=Tryz.func213.trans (congrArg some (by kernel_rfl))
 f302:=Tryz.func254.trans (congrArg some (by kernel_rfl))
 f303:=Tryz.func255.trans (congrArg some (by kernel_rfl))
 f304:=Tryz.func256.trans (congrArg some (by kernel_rfl))
 f305:=Tryz.func257.trans (congrArg some (by kernel_rfl))
 f306:=Tryz.func258.trans (congrArg some (by kernel_rfl))
 f307:=Tryz.func259.trans (congrArg some (by kernel_rfl))
 f308:=Tryz.func210.trans (congrArg some (by kernel_rfl))
 f309:=Tryz.func260.trans (congrArg some (by kernel_rfl))
 f310:=Tryz.func261.trans (congrArg some (by kernel_rfl))
 f329:=Tryz.func290.trans (congrArg some (by kernel_rfl))
 f330:=Tryz.func291.trans (congrArg some (by kernel_rfl))
 f333:=Tryz.func289.trans (congrArg some (by kernel_rfl))
 f334:=Tryz.func292.trans (congrArg some (by kernel_rfl))
 f335:=Tryz.func293.trans (congrArg some (by kernel_rfl))
 f336:=Tryz.func253.trans (congrArg some (by kernel_rfl))
 f344:=Tryz.func308.trans (congrArg some (by kernel_rfl))
 t0:=Tryz.underlying0
 a0:=Tryz.isAgg0
 z0:=Tryz.sizeOf0
 v0:=Tryz.zeroValue0
 t3:=Tryz.underlying3
 a3:=Tryz.isAgg3
 z3:=Tryz.sizeOf3
 v3:=Tryz.zeroValue3
 t4:=Tryz.underlying4
 a4:=Tryz.isAgg4
 z4:=Tryz.sizeOf4
 v4:=Tryz.zeroValue4
 t5:=Tryz.underlying5
 a5:=Tryz.isAgg5
 z5:=Tryz.sizeOf5
 v5:=Tryz.zeroValue5
 t9:=Tryz.underlying9
 a9:=Tryz.isAgg9
 z9:=Tryz.sizeOf9
 v9:=Tryz.zeroValue9
 t31:=Tryz.underlying90
 a31:=Tryz.isAgg90
 z31:=Tryz.sizeOf90
 v31:=Tryz.zeroValue90
 t46:=Tryz.underlying228
 a46:=Tryz.isAgg228
 z46:=Tryz.sizeOf228
 v46:=Tryz.zeroValue228
 t51:=Tryz.underlying264
 a51:=Tryz.isAgg264
 z51:=Tryz.sizeOf264
 v51:=Tryz.zeroValue264
 t53:=Tryz.underlying199
 a53:=Tryz.isAgg199
 z53:=Tryz.sizeOf199
 v53:=Tryz.zeroValue199
 t131:=Tryz.underlying58
 a131:=Tryz.isAgg58
 z131:=Tryz.sizeOf58
 v131:=Tryz.zeroValue58
 t182:=Tryz.underlying257
 a182:=Tryz.isAgg257
 z182:=Tryz.sizeOf257
 v182:=Tryz.zeroValue257
 t183:=Tryz.underlying258
 a183:=Tryz.isAgg258
 z183:=Tryz.sizeOf258
 v183:=Tryz.zeroValue258
 t218:=Tryz.underlying282
 a218:=Tryz.isAgg282
 z218:=Tryz.sizeOf282
 v218:=Tryz.zeroValue282
 t222:=Tryz.underlying286
 a222:=Tryz.isAgg286
 z222:=Tryz.sizeOf286
 v222:=Tryz.zeroValue286
 t228:=Tryz.underlying307
 a228:=Tryz.isAgg307
 z228:=Tryz.sizeOf307
 v228:=Tryz.zeroValue307
 t229:=Tryz.underlying209
 a229:=Tryz.isAgg209
 z229:=Tryz.sizeOf209
 v229:=Tryz.zeroValue209 }
def Tryz.lays146_ren:Go.Shelf.Ren:=⟨fun | 146=>92 | 221=>156 | 268=>222 | 138=>223 | 143=>224 | 195=>267 | 197=>234 | 218=>268 | 219=>269 | 260=>277 | 217=>279 | 225=>247 | 224=>246 | 267=>296 | 266=>304 | 314=>309 | n=>n,fun | 9=>9 | 31=>90 | 3=>3 | 4=>4 | 0=>0 | 105=>241 | 21=>21 | 5=>5 | 46=>228 | 119=>301 | 139=>304 | 138=>303 | 146=>309 | 51=>264 | n=>n,fun | 1=>0 | 3=>3 | 4=>4 | n=>n⟩
theorem Tryz.lays146:Go.Proofs.Lays.n146 Tryz.prog Tryz.lays146_ren:={
 mixed:=by kernel_rfl
 f138:=Tryz.func223.trans (congrArg some (by kernel_rfl))
 f143:=Tryz.func224.trans (congrArg some (by kernel_rfl))
 f146:=Tryz.func92.trans (congrArg some (by kernel_rfl))
 f195:=Tryz.func267.trans (congrArg some (by kernel_rfl))
 f197:=Tryz.func234.trans (congrArg some (by kernel_rfl))
 f217:=Tryz.func279.trans (congrArg some (by kernel_rfl))
 f218:=Tryz.func268.trans (congrArg some (by kernel_rfl))
 f219:=Tryz.func269.trans (congrArg some (by kernel_rfl))
 f221:=Tryz.func156.trans (congrArg some (by kernel_rfl))
 f224:=Tryz.func246.trans (congrArg some (by kernel_rfl))
 f225:=Tryz.func247.trans (congrArg some (by kernel_rfl))
 f260:=Tryz.func277.trans (congrArg some (by kernel_rfl))
 f266:=Tryz.func304.trans (congrArg some (by kernel_rfl))
 f267:=Tryz.func296.trans (congrArg some (by kernel_rfl))
 f268:=Tryz.func222.trans (congrArg some (by kernel_rfl))
 f314:=Tryz.func309.trans (congrArg some (by kernel_rfl))
 t0:=Tryz.underlying0
 a0:=Tryz.isAgg0
 z0:=Tryz.sizeOf0
 v0:=Tryz.zeroValue0
 t3:=Tryz.underlying3
 a3:=Tryz.isAgg3
 z3:=Tryz.sizeOf3
 v3:=Tryz.zeroValue3
 t4:=Tryz.underlying4
 a4:=Tryz.isAgg4
 z4:=Tryz.sizeOf4
 v4:=Tryz.zeroValue4
 t5:=Tryz.underlying5
 a5:=Tryz.isAgg5
 z5:=Tryz.sizeOf5
 v5:=Tryz.zeroValue5
 t9:=Tryz.underlying9
 a9:=Tryz.isAgg9
 z9:=Tryz.sizeOf9
 v9:=Tryz.zeroValue9
 t21:=Tryz.underlying21
 a21:=Tryz.isAgg21
 z21:=Tryz.sizeOf21
 v21:=Tryz.zeroValue21
 t31:=Tryz.underlying90
 a31:=Tryz.isAgg90
 z31:=Tryz.sizeOf90
 v31:=Tryz.zeroValue90
 t46:=Tryz.underlying228
 a46:=Tryz.isAgg228
 z46:=Tryz.sizeOf228
 v46:=Tryz.zeroValue228
 t51:=Tryz.underlying264
 a51:=Tryz.isAgg264
 z51:=Tryz.sizeOf264
 v51:=Tryz.zeroValue264
 t105:=Tryz.underlying241
 a105:=Tryz.isAgg241
 z105:=Tryz.sizeOf241
 v105:=Tryz.zeroValue241
 t119:=Tryz.underlying301
 a119:=Tryz.isAgg301
 z119:=Tryz.sizeOf301
 t138:=Tryz.underlying303
 a138:=Tryz.isAgg303
 z138:=Tryz.sizeOf303
 v138:=Tryz.zeroValue303
 t139:=Tryz.underlying304
 a139:=Tryz.isAgg304
 z139:=Tryz.sizeOf304
 v139:=Tryz.zeroValue304
 t146:=Tryz.underlying309
 a146:=Tryz.isAgg309
 z146:=Tryz.sizeOf309
 v146:=Tryz.zeroValue309
 g1:=by kernel_rfl
 g3:=by kernel_rfl
 g4:=by kernel_rfl }
def Tryz.lays8_249_ren:Go.Shelf.Ren:=⟨fun | 4=>249 | n=>n,fun | 22=>90 | 25=>9 | 3=>3 | 4=>4 | 9=>9 | 20=>20 | 0=>0 | n=>n,fun | n=>n⟩
theorem Tryz.lays8_249:Go.Proofs.Lays8.n4 Tryz.prog Tryz.lays8_249_ren:={
 mixed:=by kernel_rfl
 f4:=⟨Tryz.f249.name,by decide,Tryz.func249.trans (congrArg some (by kernel_rfl))⟩
 t0:=Tryz.underlying0
 a0:=Tryz.isAgg0
 z0:=Tryz.sizeOf0
 v0:=Tryz.zeroValue0
 t3:=Tryz.underlying3
 a3:=Tryz.isAgg3
 z3:=Tryz.sizeOf3
 v3:=Tryz.zeroValue3
 t4:=Tryz.underlying4
 a4:=Tryz.isAgg4
 z4:=Tryz.sizeOf4
 v4:=Tryz.zeroValue4
 t9:=Tryz.underlying9
 a9:=Tryz.isAgg9
 z9:=Tryz.sizeOf9
 v9:=Tryz.zeroValue9
 t20:=Tryz.underlying20
 a20:=Tryz.isAgg20
 z20:=Tryz.sizeOf20
 v20:=Tryz.zeroValue20
 t22:=Tryz.underlying90
 a22:=Tryz.isAgg90
 z22:=Tryz.sizeOf90
 v22:=Tryz.zeroValue90 }
end Go.Proofs
namespace Go.Proofs.YtjfpcjnopbfekaaGreatDoor
open Go.RowKit Go.Ab Go.Sh Go.Proofs
theorem Tryz.mo:Tryz.prog.follows .mixedOrders=true:=by kernel_rfl
theorem named {s:String} (h:(Tryz.prog.globalNamed s).isSome=true):Tryz.prog.globalNamed s≠none:=fun e=>by rw [e] at h;cases h
theorem wL (n:Int) (r:ai) (H:jb n=some r):a8 Tryz.prog 168 [.int .i64 n] (.str r):=HH Tryz.laysM171 (named (by kernel_rfl)) n r H
theorem wo (s:ai) (r:Int×Bool) (H:nV s=some r):a8 Tryz.prog 167 [.str s] (.tup [.int .i64 r.1,qZ (Tryz.laysC172_ren.t 168) r.2]):=Hm Tryz.laysC172 (named (by kernel_rfl)) (named (by kernel_rfl)) s r H
theorem xA (xs:List ai) (sep:ai) (r:ai) (H:mw xs sep=some r):a8 Tryz.prog 153 [.dslice (xs.map eE),.str sep] (.str r):=Hy Tryz.lays156 Tryz.Builder_Extra_156 xs sep r H
theorem AW (s sep:ai) (r:List ai) (H:n9 s sep=some r):a8 Tryz.prog 92 [.str s,.str sep] (.dslice (r.map eE)):=E9 Tryz.lays146 (by kernel_rfl) (by kernel_rfl) s sep r H
theorem C3 (s cut:ai) (r:ai) (H:s6 s cut=some r):a8 Tryz.prog 106 [.str s,.str cut] (.str r):=HI Tryz.lays160 (fun w=>jf (show zeroOf Tryz.prog 186=some (.agg (Array.replicate 256 (.bool false))) from by kernel_rfl)) (by kernel_rfl) s cut r H
theorem vN (xs r:List ai) (H:lU xs=some r):bo Tryz.prog 138 [.rslice 1000] [(1000,.row 9 1 (xs.map eE))] (fun v h=>v = .tup []∧h=[(1000,.row 9 1 (r.map eE))]):=CS Tryz.lays190 xs r H
end Go.Proofs.YtjfpcjnopbfekaaGreatDoor
namespace Go.Ab
open Go.RowKit Go.Sh Go.Proofs
section
variable {P:Program} {ρ:Go.Shelf.Ren}
theorem G.intQ_inv {w:World} {X:Nat→Prop} {β:Nat→Nat} {κ:Nat→Nat×Nat} {k:IntKind} {n:Int} {V:Value} (h:G w X β κ (.int k n) V):V = .int k n:=by
 cases h with
 | d h=>exact h.int_inv
theorem BP (L:Lays8.n4 P ρ):bo P (ρ.f 4) [.eslice,.int .i64 0] [] (fun r _=>r = .eslice):=by intro c vs hl hr hg;have h0:G c.W (c.XX [] c.β) c.β c.κ .eslice (vs.getD 0 undef):=hg 0 (by simp);have h1:G c.W (c.XX [] c.β) c.β c.κ (.int .i64 0) (vs.getD 1 undef):=hg 1 (by simp);obtain ⟨ad,e0⟩:=h0.eslice_inv;rw [Jk (vs:=vs) (by simpa using hl),e0,h1.intQ_inv];refine (Any8.slices_Grow_room L ad 0 0 0 c.W (Nat.le_refl _) (by omega) (by omega) (by omega)).mono fun e w' ⟨e2,e3⟩ => ?_;subst e3;exact ⟨_,.eslice,[],c.β,c.κ,e2,rfl,hr,.d (.eslice _)⟩
theorem C2 (L:Lays8.n4 P ρ) {sz by_:Nat} (he:fa P (ρ.t 22)=some (ρ.t 25,sz,by_)) (n:Nat) (h0:0<n) (hb:n*by_≤140737488355328) (h63:n≤4611686018427387904) :
 bo P (ρ.f 4) [.eslice,.int .i64 (n:Int)] [] (fun v h=>v = .gslice 0∧h=[(0,.room (ρ.t 25) sz)]):=by
 obtain ⟨hu,i,z,hi,hz,rfl,rfl,hzs,hsz⟩:=gz he;intro c vs hl hr hg;have g0:G c.W (c.XX [] c.β) c.β c.κ .eslice (vs.getD 0 undef):=hg 0 (by simp);have g1:G c.W (c.XX [] c.β) c.β c.κ (.int .i64 (n:Int)) (vs.getD 1 undef):=hg 1 (by simp);obtain ⟨ad,e0⟩:=g0.eslice_inv;rw [Jk (vs:=vs) (by simpa using hl),e0,g1.intQ_inv];refine (Any8.slices_Grow_grow L i z hi hz hsz ad 0 0 n [] c.W (Nat.le_refl _) (by omega) (by simpa using hb) (by omega) (by simp) (fun _=>rfl) (fun a _ j v hj=>by simp at hj)).mono fun e w' ⟨e2,e3⟩ => ?_;obtain ⟨C,hC⟩:∃ C,C=grownCap c.W (0+n) 0 (ρ.t 25):=⟨_,rfl⟩;have hCn:0+n≤C:=by rw [hC];exact grownCap_ge c.W _ _ _
 have hCm:C≤maxLen:=by rw [hC];exact grownCap_le_maxLen c.W _ _ _ (by unfold maxLen;omega)
 rw [← hC] at e2 e3;obtain ⟨arr,harr⟩:∃ arr,arr=(([]:List Value).toArray++Builtin.zeroCells z.cells (0+n-0)++Builtin.zeroCells z.cells (C-(0+n))):=⟨_,rfl⟩;rw [← harr] at e3;have hasz:arr.size=C*i.size:=by rw [harr];simp only [Array.size_append,List.size_toArray,List.length_nil,size_zeroCells,hzs,Nat.zero_add,Nat.sub_zero,← Nat.add_mul];congr 1;omega
 subst e3;have hr':=hr.drew;have hnew:(c.W.drew.alloc (.cells arr (ρ.t 25))).heap[c.W.heap.size]? = some (.cells arr (ρ.t 25) (0,0)):=gC c.W.drew _;obtain ⟨r1,_⟩:=hr'.anew (w':=c.W.drew.alloc (.cells arr (ρ.t 25))) (k:=0) (by decide) (fun j _=>rfl) c.W.heap.size (C,0) (Nat.le_refl _) (fun b hb2=>eR c.W.drew _ hb2) (eW _ c.W.drew _ c.hK) (o:=.room (ρ.t 25) i.size)
  ⟨arr,by rw [aj];exact hnew,by rw [aj];exact hasz,by rw [aj];exact hCm,hsz⟩
 refine ⟨_,.gslice 0,[(0,.room (ρ.t 25) i.size)],upd c.β 0 c.W.heap.size,upd c.κ 0 (C,0),e2,⟨rfl,rfl⟩,r1,?_⟩;have:=G.gslice (w:=c.W.drew.alloc (.cells arr (ρ.t 25))) (X:=c.XX [(0,.room (ρ.t 25) i.size)] (upd c.β 0 c.W.heap.size)) (β:=upd c.β 0 c.W.heap.size) (κ:=upd c.κ 0 (C,0)) 0;rw [aj,aj] at this;exact this
end
section
variable {P:Program} {Q:Exit→AS→Prop} {c:Code} {fs:List Fr}
theorem Ar {ι:Type} (S:ι→AS) (hc:vS c=true) (φ:ι→Prop) (μ:ι→Nat) (i₀:ι) (h₀:φ i₀)
 (round:∀ i,φ i→∃ T,(T=dead∨∃ j,φ j∧μ j<μ i∧T=S j)∧eC P (lY c) (cg P (.bar T::fs) Q) (S i)):eC P c (cg P fs Q) (S i₀):=by
 rw [qq hc];exact ua S φ μ i₀ h₀ round
end
def vl {α:Type} (c:α→List AV) (x:List α):List AV:=[.dslice (x.map c)]
theorem I6 {α:Type} (d:α):∀ (l:List α) (i:Nat),i<l.length→l.take (i+1)=l.take i++[l.getD i d]
 | [],i,h=>by simp at h
 | x::l,0,_=>rfl
 | x::l,i+1,h=>by rw [List.take_succ_cons,I6 d l i (by simpa using h),List.take_succ_cons];rfl
theorem FJ {α:Type} (ls:List (List α)) (i:Nat) (h:i<ls.length):(ls.take (i+1)).flatten=(ls.take i).flatten++ls.getD i []:=by rw [I6 [] ls i h];simp
theorem Ih {α:Type} (ls:List (List α)) (i:Nat):(ls.take i).flatten.length≤ls.flatten.length:=by
 have:ls.flatten=(ls.take i).flatten++(ls.drop i).flatten:=by rw [← List.flatten_append,List.take_append_drop]
 rw [this,List.length_append];omega
end Go.Ab
namespace Go.Proofs.YtjfpcjnopbfekaaGreatDoor
open Go.RowKit Go.Ab Go.Sh Go.Proofs
def km {α:Type} (ls:List (List α)):Option (List α):=cy (ls.flatten.length*16≤140737488355328∧ls.length≤1000000) <| some ls.flatten
section
variable {α:Type} (c:α→List AV) (ls:List (List α))
def oe:AV:=.dslice (ls.map (vl c))
def vH (t i:Nat):AS:=⟨36,[(0,oe c ls),(2,.eslice),(3,.int .i64 ((t:Nat):Int)),(9,oe c ls),(10,.int .i64 ((ls.length:Nat):Int)),(11,.int .i64 ((i:Nat):Int))],[]⟩
def D2 (t:Nat):AS:=⟨36,[(0,oe c ls),(2,.eslice),(3,.int .i64 ((t:Nat):Int))],[]⟩
def rH (a:List α) (i:Nat):AS:=⟨36,[(2,.eslice),(6,.rslice 33),(25,oe c ls),(26,.int .i64 ((ls.length:Nat):Int)),(27,.int .i64 ((i:Nat):Int))],[(33,.row 9 1 (a.map c))]⟩
def GL (i:Nat):AS:=⟨36,[(2,.eslice),(6,.gslice 24),(25,oe c ls),(26,.int .i64 ((ls.length:Nat):Int)),(27,.int .i64 ((i:Nat):Int))],[(24,.room 9 1)]⟩
def zH (a:List α) (i:Nat):AS:=match a with
 | []=>GL c ls i
 | x::xs=>rH c ls (x::xs) i
def vB (a:List α):AS:=⟨36,[(2,.eslice),(6,.rslice 33)],[(33,.row 9 1 (a.map c))]⟩
theorem yo (hc:∀ x,(c x).length=1∧(c x).all (fun v=>v.one&&v.fl)=true) (r:List α) (H:km ls=some r):a8 Tryz.prog 200 [oe c ls] (.dslice (r.map c)):=by
 unfold km at H;refine aU H fun hn H => ?_;obtain ⟨hb,hN⟩:=hn;refine bB H fun e => ?_;subst e;have hle:∀ i,(ls.take i).flatten.length≤ls.flatten.length:=Ih ls;have hstep:∀ i,i<ls.length→(ls.take (i+1)).flatten=(ls.take i).flatten++ls.getD i []:=FJ ls;have hall:(ls.take ls.length).flatten=ls.flatten:=by rw [List.take_length]
 have hix:∀ i,i<ls.length→bt [((0:Int)≤(i:Int)∧(i:Int)<((ls.map (vl c)).length:Int))∧(((ls.map (vl c)).getD (i:Int).toNat []).length=1∧0<1),AV.dptr ((ls.map (vl c)).getD (i:Int).toNat []) = .dptr (vl c (ls.getD i []))]:=fun i hi=>ix (f:=vl c) (l:=ls) (n:=i) [] (fun _=>rfl) (by decide) hi;have i64:∀ i,i<ls.length→yL (((i:Nat):Int)+1):=fun i hi=>by unfold yL;omega
 have c0:∀ i,i<ls.length→AV.bool (decide (((i:Nat):Int)<((ls.length:Nat):Int))) = .bool true:=fun i hi=>congrArg AV.bool (KV (by omega));have c1:AV.bool (decide (((ls.length:Nat):Int)<((ls.length:Nat):Int))) = .bool false:=congrArg AV.bool (KU (by omega));have hcap:∀ (a:List α) i,i<ls.length→a=(ls.take i).flatten→(a.length+(ls.getD i []).length)*16≤140737488355328:=fun a i hi ha=>by have h2:=hle (i+1);rw [hstep i hi,List.length_append,← ha] at h2;exact Nat.le_trans (Nat.mul_le_mul_right _ h2) hb
 refine FX Tryz.func200 36 [.tmp 2] (by kernel_rfl) (by kernel_rfl) ?_;refine IU Tryz.mo 8 [.rg 0 [] [.v],.rg 0 [] [.v],.rg 0 [] [.v,.e (.int .i64 ((ls.length:Nat):Int)),.v]] [.only [0,2,3,9,10,11] []] 8 [] (vH c ls 0 0) (all_cons trivial (all_cons (aA (vl c) ls) all_nil)) (by kernel_rfl) ?_;refine dF 1 (D2 c ls ls.flatten.length) (by kernel_rfl) ?_ ?_
 ·refine Ar (ι:=Nat×Nat) (fun x=>vH c ls x.2 x.1) (by kernel_rfl) (fun x=>x.1≤ls.length∧x.2=(ls.take x.1).flatten.length) (fun x=>ls.length-x.1) (0,0) ⟨Nat.zero_le _,by simp⟩ ?_;rintro ⟨i,t⟩ ⟨hi,ht⟩;simp only at hi ht;by_cases hN:i=ls.length
  ·subst hN;rw [hall] at ht;subst ht;exact ⟨dead,.inl rfl,sO Tryz.mo 5 [.rg 0 [] [.e (.bool false)]] [.only [0,2,3] []] (D2 c ls ls.flatten.length) (all_cons c1 all_nil) (by kernel_rfl)⟩
  ·have hlt:i<ls.length:=by omega
   have ht2:t+(ls.getD i []).length=(ls.take (i+1)).flatten.length:=by rw [hstep i hlt,List.length_append,ht]
   have hle2:=hle (i+1);have c2:decide ((((t+(ls.getD i []).length:Nat)):Int)<0)=false:=KU (by omega);refine ⟨vH c ls (t+(ls.getD i []).length) (i+1),.inr ⟨(i+1,t+(ls.getD i []).length),⟨hlt,ht2⟩,by show ls.length-(i+1)<ls.length-i;omega,rfl⟩,?_⟩;exact sO Tryz.mo 16 [.rg 0 [] [.e (.bool true)],.rg 0 [] [.e (.dptr (vl c (ls.getD i []))),.v,.v],.rg 0 [] [.v,.v,.e (.int .i64 (((ls.getD i []).length:Nat):Int)),.e (.int .i64 ((t+(ls.getD i []).length:Nat):Int)),.v],.rg 0 [] [.v,.e (.bool false)],.rg 0 [] [.v,.v]] [.only [0,2,3,9,10,11] []] (vH c ls (t+(ls.getD i []).length) (i+1))
    (all_cons (c0 i hlt) (aY (hix i hlt) (all_cons trivial (all_cons (aA c (ls.getD i [])) (all_cons (show yL (((t:Nat):Int)+(((ls.getD i []).length:Nat):Int)) from by unfold yL;omega) (all_cons (congrArg (AV.int .i64) (Int.natCast_add t (ls.getD i []).length).symm) (all_cons (congrArg (AV.bool) c2) (all_cons (i64 i hlt) all_nil)))))))) (by kernel_rfl)
 ·by_cases h0:ls.flatten.length=0
  ·
   rw [h0];refine IU Tryz.mo 8 [.rg 0 [] [.v,.c true .eslice,.v],.rg 0 [] [.v,.e (.int .i64 ((ls.length:Nat):Int)),.v]] [.er 6 33 9 1,.only [2,6,25,26,27] [33]] 6 [] (rH c ls [] 0) (all_cons Tryz.call249 (all_cons (BP Tryz.lays8_249) (all_cons trivial (all_cons (aA (vl c) ls) all_nil)))) (by kernel_rfl) ?_;refine dF 1 (vB c ls.flatten) (by kernel_rfl) ?_ ?_
   ·refine Ar (ι:=Nat×List α) (fun x=>rH c ls x.2 x.1) (by kernel_rfl) (fun x=>x.1≤ls.length∧x.2=(ls.take x.1).flatten) (fun x=>ls.length-x.1) (0,[]) ⟨Nat.zero_le _,by simp⟩ ?_;rintro ⟨i,a⟩ ⟨hi,ha⟩;simp only at hi ha;by_cases hN:i=ls.length
    ·subst hN;rw [hall] at ha;subst ha;exact ⟨dead,.inl rfl,sO Tryz.mo 5 [.rg 0 [] [.e (.bool false)]] [.only [2,6] [33]] (vB c ls.flatten) (all_cons c1 all_nil) (by kernel_rfl)⟩
    ·have hlt:i<ls.length:=by omega
     refine ⟨rH c ls (a++ls.getD i []) (i+1),.inr ⟨(i+1,a++ls.getD i []),⟨hlt,by simp only [hstep i hlt,← ha]⟩,by show ls.length-(i+1)<ls.length-i;omega,rfl⟩,?_⟩;exact sO Tryz.mo 16 [.rg 0 [] [.e (.bool true)],.rg 0 [] [.e (.dptr (vl c (ls.getD i []))),.v,.v],.rg 0 [] [.v,.v,.ap,.rwH 33 (.row 9 1 ((a++ls.getD i []).map c)),.v],.rg 0 [] [.v,.v]] [.only [2,6,25,26,27] [33]] (rH c ls (a++ls.getD i []) (i+1))
      (all_cons (c0 i hlt) (aY (hix i hlt) (aY (vo (c:=c) hc a (ls.getD i []) 16 (by decide) (hcap a i hlt ha)) (all_cons (xT 9 1 c a (ls.getD i [])) (all_cons (i64 i hlt) all_nil))))) (by kernel_rfl)
   ·exact HE Tryz.mo 3 [.rg 0 [] [.v,.v]] [.fz 33] [] all_nil (by kernel_rfl)
  ·have hgrow:=C2 Tryz.lays8_249 (sz:=1) (by_:=16) (by kernel_rfl) ls.flatten.length (by omega) hb (by omega);refine IU Tryz.mo 8 [.rg 0 [] [.v,.hR [] 24 (.gslice 0) [(0,.room 9 1)],.v],.rg 0 [] [.v,.e (.int .i64 ((ls.length:Nat):Int)),.v]] [.only [2,6,25,26,27] [24]] 6 [] (zH c ls [] 0) (all_cons Tryz.call249 (all_cons hgrow (all_cons trivial (all_cons (aA (vl c) ls) all_nil)))) (by kernel_rfl) ?_;refine dF 1 (vB c ls.flatten) (by kernel_rfl) ?_ ?_
   ·refine Ar (ι:=Nat×List α) (fun x=>zH c ls x.2 x.1) (by kernel_rfl) (fun x=>x.1≤ls.length∧x.2=(ls.take x.1).flatten) (fun x=>ls.length-x.1) (0,[]) ⟨Nat.zero_le _,by simp⟩ ?_;rintro ⟨i,a⟩ ⟨hi,ha⟩;simp only at hi ha;by_cases hN:i=ls.length
    ·subst hN;rw [hall] at ha;cases a with
     | nil=>rw [← ha] at h0;exact absurd rfl h0
     | cons a0 al =>
      rw [← ha];exact ⟨dead,.inl rfl,sO Tryz.mo 5 [.rg 0 [] [.e (.bool false)]] [.only [2,6] [33]] (vB c (a0::al)) (all_cons c1 all_nil) (by kernel_rfl)⟩
    ·have hlt:i<ls.length:=by omega
     refine ⟨zH c ls (a++ls.getD i []) (i+1),.inr ⟨(i+1,a++ls.getD i []),⟨hlt,by simp only [hstep i hlt,← ha]⟩,by show ls.length-(i+1)<ls.length-i;omega,rfl⟩,?_⟩;have hk:=hcap a i hlt ha;have hx:=hix i hlt;cases a with
     | nil =>
      generalize ls.getD i []=y at hk hx;cases y with
      | nil =>
       exact sO Tryz.mo 16 [.rg 0 [] [.e (.bool true)],.rg 0 [] [.e (.dptr [.dslice []]),.v,.v],.rg 0 [] [.v,.v,.apg,.v],.rg 0 [] [.v,.v]] [.only [2,6,25,26,27] [24]] (GL c ls (i+1))
        (all_cons (c0 i hlt) (aY hx (all_cons (i64 i hlt) all_nil))) (by kernel_rfl)
      | cons y0 ys =>
       exact sO Tryz.mo 16 [.rg 0 [] [.e (.bool true)],.rg 0 [] [.e (.dptr [.dslice (c y0::ys.map c)]),.v,.v],.rg 0 [] [.v,.v,.apg,.v],.rg 0 [] [.v,.v]] [.only [2,6,25,26,27] [33]] (rH c ls (y0::ys) (i+1))
        (all_cons (c0 i hlt) (aY hx (aY (KN (c:=c) hc (y0::ys) 16 (by decide) (by simpa using hk)) (all_cons (i64 i hlt) all_nil)))) (by kernel_rfl)
     | cons a0 al =>
      exact sO Tryz.mo 16 [.rg 0 [] [.e (.bool true)],.rg 0 [] [.e (.dptr (vl c (ls.getD i []))),.v,.v],.rg 0 [] [.v,.v,.ap,.rwH 33 (.row 9 1 (((a0::al)++ls.getD i []).map c)),.v],.rg 0 [] [.v,.v]] [.only [2,6,25,26,27] [33]] (rH c ls ((a0::al)++ls.getD i []) (i+1))
       (all_cons (c0 i hlt) (aY hx (aY (vo (c:=c) hc (a0::al) (ls.getD i []) 16 (by decide) hk) (all_cons (xT 9 1 c (a0::al) (ls.getD i [])) (all_cons (i64 i hlt) all_nil))))) (by kernel_rfl)
   ·exact HE Tryz.mo 3 [.rg 0 [] [.v,.v]] [.fz 33] [] all_nil (by kernel_rfl)
end
end Go.Proofs.YtjfpcjnopbfekaaGreatDoor
namespace Go.Proofs
open Go.Shelf
def Tryz.lays264_ren:Go.Shelf.Ren:=⟨fun | 264=>238 | n=>n,fun | 53=>199 | 46=>228 | n=>n,fun | n=>n⟩
theorem Tryz.lays264:Go.Proofs.Lays.n264 Tryz.prog Tryz.lays264_ren:={
 mixed:=by kernel_rfl
 f264:=Tryz.func238.trans (congrArg some (by kernel_rfl))
 t46:=Tryz.underlying228
 a46:=Tryz.isAgg228
 z46:=Tryz.sizeOf228
 v46:=Tryz.zeroValue228
 t53:=Tryz.underlying199
 a53:=Tryz.isAgg199
 z53:=Tryz.sizeOf199
 v53:=Tryz.zeroValue199 }
end Go.Proofs
namespace Go.Proofs.YtjfpcjnopbfekaaGreatDoor
open Go.RowKit Go.Ab Go.Sh Go.Proofs
def eL (x y c:Int):Option (Int×Int):=cy ((0≤x∧x<18446744073709551616)∧(0≤y∧y<18446744073709551616)∧0≤c∧c≤1) <| some ((x+y+c) % 18446744073709551616,(x+y+c) / 18446744073709551616)
def lh (x y c:Int):Option (Int×Int):=cy ((0≤x∧x<18446744073709551616)∧(0≤y∧y<18446744073709551616)∧0≤c∧c≤1) <| some ((x-y-c) % 18446744073709551616,if x<y+c then 1 else 0)
def oq (x y:Int):Option (Int×Int):=cy ((0≤x∧x<18446744073709551616)∧(0≤y∧y<18446744073709551616)) <| some (x*y / 18446744073709551616,x*y % 18446744073709551616)
theorem iU (x y c:Int) (r:Int×Int) (H:eL x y c=some r) (w:World):(callFunc 240 [.int .u64 x,.int .u64 y,.int .u64 c].toArray).run Tryz.prog w = .ok (.value (.tuple [.int .u64 r.1,.int .u64 r.2].toArray)) w:=by refine aU H fun g H => ?_;refine bB H fun e => ?_;subst e;obtain ⟨⟨a1,a2⟩,⟨b1,b2⟩,c1,c2⟩:=g;obtain ⟨X,rfl⟩:=Int.eq_ofNat_of_zero_le a1;obtain ⟨Y,rfl⟩:=Int.eq_ofNat_of_zero_le b1;obtain ⟨C,rfl⟩:=Int.eq_ofNat_of_zero_le c1;show (callFunc 240 #[.int .u64 X,.int .u64 Y,.int .u64 C]).run Tryz.prog w=_;rw [run_callFunc_extern Tryz.func240 (by kernel_rfl) (by kernel_rfl) (by kernel_rfl) (e:=add64Entry) (by kernel_rfl),run_add64 X Y C (by omega) (by omega) (by omega) (by omega)];rfl
theorem qJ (x y c:Int) (r:Int×Int) (H:lh x y c=some r) (w:World):(callFunc 242 [.int .u64 x,.int .u64 y,.int .u64 c].toArray).run Tryz.prog w = .ok (.value (.tuple [.int .u64 r.1,.int .u64 r.2].toArray)) w:=by
 refine aU H fun g H => ?_;refine bB H fun e => ?_;subst e;obtain ⟨⟨a1,a2⟩,⟨b1,b2⟩,c1,c2⟩:=g;obtain ⟨X,rfl⟩:=Int.eq_ofNat_of_zero_le a1;obtain ⟨Y,rfl⟩:=Int.eq_ofNat_of_zero_le b1;obtain ⟨C,rfl⟩:=Int.eq_ofNat_of_zero_le c1;show (callFunc 242 #[.int .u64 X,.int .u64 Y,.int .u64 C]).run Tryz.prog w=_;rw [run_callFunc_extern Tryz.func242 (by kernel_rfl) (by kernel_rfl) (by kernel_rfl) (e:=sub64Entry) (by kernel_rfl),run_sub64 X Y C (by omega)];simp only [Result.andThen];have e1:(((X+18446744073709551616-Y-C) % 18446744073709551616:Nat):Int)=((X:Int)-Y-C) % 18446744073709551616:=by omega
 have e2:((if X<Y+C then 1 else 0:Nat):Int)=if (X:Int)<Y+C then 1 else 0:=by
  by_cases h:X<Y+C
  ·rw [if_pos h,if_pos (by omega)];rfl
  ·rw [if_neg h,if_neg (by omega)];rfl
 rw [e1,e2]
theorem uA (x y:Int) (r:Int×Int) (H:oq x y=some r):a8 Tryz.prog 238 [.int .u64 x,.int .u64 y] (.tup [.int .u64 r.1,.int .u64 r.2]):=by refine aU H fun g H => ?_;refine bB H fun e => ?_;subst e;obtain ⟨⟨a1,a2⟩,b1,b2⟩:=g;obtain ⟨X,rfl⟩:=Int.eq_ofNat_of_zero_le a1;obtain ⟨Y,rfl⟩:=Int.eq_ofNat_of_zero_le b1;refine pP rfl fun w Z vs hl _ hd gp => ?_;have h0:=(hd 0 (by simp)).int_inv;have h1:=(hd 1 (by simp)).int_inv;rw [Jk (vs:=vs) (by simpa using hl),h0,h1];refine (Any.bits_Mul64 Tryz.lays264 X Y (by omega) (by omega) w).mono fun e w' ⟨e1,e2⟩ => ?_;exact ⟨_,e1,by rw [e2];exact .refl _ _,.pair (.int _ _) (.int _ _)⟩
end Go.Proofs.YtjfpcjnopbfekaaGreatDoor
namespace Go.Sh
open Go.Sort Go.Proofs
theorem iP:∀ x:ai,Op.bytesLess x x=false
 | []=>rfl
 | a::x=>by simp [Op.bytesLess,iP x]
theorem sR:∀ x y:ai,x<y↔Op.bytesLess x y=true
 | x,[]=>by simp [Op.bytesLess]
 | [],b::y=>by simp [Op.bytesLess]
 | a::x,b::y=>by rw [List.cons_lt_cons_iff,sR x y];simp only [Op.bytesLess,Bool.or_eq_true,KQ,decide_eq_true_eq,beq_iff_eq]
theorem wF {x y z:ai} (h1:Op.bytesLess x y=true) (h2:Op.bytesLess y z=true):Op.bytesLess x z=true :=
 (sR x z).1 (List.lt_trans ((sR x y).2 h1) ((sR y z).2 h2))
theorem sA {x y:ai} (h:Op.bytesLess x y=true):Op.bytesLess y x=false:=by
 cases h2:Op.bytesLess y x with
 | false=>rfl
 | true=>have:=wF h h2;rw [iP] at this;cases this
theorem xd (x y:ai):Op.bytesLess x y=true∨x=y∨Op.bytesLess y x=true:=by
 rcases Bool.eq_false_or_eq_true (Op.bytesLess x y) with h | h
 ·exact .inl h
 ·rcases Bool.eq_false_or_eq_true (Op.bytesLess y x) with h' | h'
  ·exact .inr (.inr h')
  ·refine .inr (.inl ?_);have h1:¬ x<y:=fun e=>by rw [sR,h] at e;cases e
   have h2:¬ y<x:=fun e=>by rw [sR,h'] at e;cases e
   exact List.le_antisymm (List.not_lt.1 h2) (List.not_lt.1 h1)
def gU (x y:ai):Int:=if Op.bytesLess x y=true then -1 else if Op.bytesLess y x=true then 1 else 0
def cmpL:List ai→List ai→Int
 | [],[]=>0
 | [],_::_ => -1
 | _::_,[]=>1
 | x::xs,y::ys=>if gU x y≠0 then gU x y else cmpL xs ys
theorem qR (x:ai):gU x x=0:=by simp [gU,iP]
theorem ka {x y:ai}:gU x y<0↔Op.bytesLess x y=true:=by
 unfold gU;repeat' split
 all_goals simp_all
theorem ql {x y:ai}:0<gU x y↔Op.bytesLess y x=true:=by
 unfold gU;split
 ·rename_i h;simp [sA h]
 ·split<;>simp_all
theorem nS {x y:ai}:gU x y=0↔x=y:=by
 constructor
 ·intro h;rcases xd x y with h1 | h1 | h1
  ·have:=ka.2 h1;omega
  ·exact h1
  ·have:=ql.2 h1;omega
 ·rintro rfl;exact qR x
theorem iK:∀ xs:List ai,cmpL xs xs=0
 | []=>rfl
 | x::xs=>by simp [cmpL,qR,iK xs]
theorem gY:∀ {xs ys:List ai},cmpL xs ys=0→xs=ys
 | [],[],_=>rfl
 | [],_::_,h=>by simp [cmpL] at h
 | _::_,[],h=>by simp [cmpL] at h
 | x::xs,y::ys,h=>by
  unfold cmpL at h;split at h
  ·rename_i h2;exact absurd h h2
  ·rename_i h2;have h2:gU x y=0:=by omega
   rw [nS.1 h2,gY h]
theorem gM:∀ {xs ys:List ai},cmpL xs ys<0↔0<cmpL ys xs
 | [],[]=>by simp [cmpL]
 | [],_::_=>by simp [cmpL]
 | _::_,[]=>by simp [cmpL]
 | x::xs,y::ys=>by
  have h1:gU x y<0↔0<gU y x:=by rw [ka,ql]
  have h2:0<gU x y↔gU y x<0:=by rw [ka,ql]
  have h3 := @gM xs ys;unfold cmpL;by_cases h:gU x y=0
  ·rw [if_neg (by omega),if_neg (by omega)];exact h3
  ·rw [if_pos (by omega),if_pos (by omega)];exact h1
theorem iC:∀ {xs ys zs:List ai},cmpL xs ys<0→cmpL ys zs<0→cmpL xs zs<0
 | [],[],_,h,_=>by simp [cmpL] at h
 | _::_,[],_,h,_=>by simp [cmpL] at h
 | _,_::_,[],_,h=>by simp [cmpL] at h
 | [],_::_,_::_,_,_=>by simp [cmpL]
 | x::xs,y::ys,z::zs,h1,h2=>by
  unfold cmpL at h1 h2 ⊢;by_cases e1:gU x y=0
  ·rw [if_neg (by omega)] at h1;have e1:=nS.1 e1;subst e1;by_cases e2:gU x z=0
   ·rw [if_neg (by omega)] at h2;rw [if_neg (by omega)];exact iC h1 h2
   ·rw [if_pos e2] at h2;rw [if_pos e2];exact h2
  ·rw [if_pos e1] at h1;by_cases e2:gU y z=0
   ·have e2:=nS.1 e2;subst e2;rw [if_pos e1];exact h1
   ·rw [if_pos e2] at h2;have h3:=ka.2 (wF (ka.1 h1) (ka.1 h2));rw [if_pos (by omega)];exact h3
theorem A8:SWO (ltOf cmpL) where
 irrefl x:=by simp [ltOf,iK]
 trans x y z h1 h2:=by simp only [ltOf,decide_eq_true_eq] at *;exact iC h1 h2
 ntrans x y z h1 h2:=by
  simp only [ltOf,decide_eq_false_iff_not] at *;intro h3;by_cases e1:cmpL x y=0
  ·rw [gY e1] at h3;exact h2 h3
  ·by_cases e2:cmpL y z=0
   ·rw [← gY e2] at h3;exact h1 h3
   ·have a1:cmpL y x<0:=gM.2 (by omega);have a2:cmpL z y<0:=gM.2 (by omega);have a3:=iC a2 a1;have a4:=gM.1 a3;omega
theorem Dl {xs ys:List ai} (h1:ltOf cmpL xs ys=false) (h2:ltOf cmpL ys xs=false):xs=ys:=by simp only [ltOf,decide_eq_false_iff_not] at *;refine gY ?_;have := @gM ys xs;omega
theorem nW {xs ys:List ai}:∀ (k:Nat),(∀ i,i<k→xs.getD i []=ys.getD i [])→k≤xs.length→k≤ys.length→cmpL xs ys=cmpL (xs.drop k) (ys.drop k)
 | 0,_,_,_=>rfl
 | k+1,h,h1,h2=>by
  rw [nW k (fun i hi=>h i (by omega)) (by omega) (by omega)];have e1:xs.drop k=xs.getD k []::xs.drop (k+1):=by rw [KO,KP h1];exact List.drop_eq_getElem_cons h1
  have e2:ys.drop k=ys.getD k []::ys.drop (k+1):=by rw [KO,KP h2];exact List.drop_eq_getElem_cons h2
  rw [e1,e2,cmpL,h k (by omega),qR];simp
theorem drop_cons {xs:List ai} {k:Nat} (h:k<xs.length):xs.drop k=xs.getD k []::xs.drop (k+1):=by rw [KO,KP h];exact List.drop_eq_getElem_cons h
theorem vK {xs ys:List ai} {k:Nat} (hA:∀ i,i<k→xs.getD i []=ys.getD i []) (h1:k<xs.length) (h2:k<ys.length) (hz:gU (xs.getD k []) (ys.getD k [])≠0):cmpL xs ys=gU (xs.getD k []) (ys.getD k []):=by rw [nW k hA (by omega) (by omega),drop_cons h1,drop_cons h2,cmpL,if_pos hz]
theorem zw {xs ys:List ai} {k:Nat} (hA:∀ i,i<k→xs.getD i []=ys.getD i []) (h1:k<xs.length) (h2:k=ys.length):cmpL xs ys=1:=by rw [nW k hA (by omega) (by omega),drop_cons h1,List.drop_eq_nil_of_le (show ys.length≤k by omega),cmpL]
theorem zR {xs ys:List ai} {k:Nat} (hA:∀ i,i<k→xs.getD i []=ys.getD i []) (h1:k=xs.length) (h2:k<ys.length):cmpL xs ys = -1:=by rw [nW k hA (by omega) (by omega),drop_cons h2,List.drop_eq_nil_of_le (show xs.length≤k by omega),cmpL]
theorem cmpL_eq {xs ys:List ai} {k:Nat} (hA:∀ i,i<k→xs.getD i []=ys.getD i []) (h1:k=xs.length) (h2:k=ys.length):cmpL xs ys=0:=by rw [nW k hA (by omega) (by omega),List.drop_eq_nil_of_le (show xs.length≤k by omega),List.drop_eq_nil_of_le (show ys.length≤k by omega),cmpL]
end Go.Sh
namespace Go.Proofs.YtjfpcjnopbfekaaGreatDoor
open Go.RowKit Go.Ab Go.Sh Go.Proofs Go.Shelf Go.Sort
theorem Ja {x y:ai} (h:Op.bytesLess x y=true):gU x y = -1:=by simp [gU,h]
theorem Jy {x y:ai} (h:Op.bytesLess x y=false) (h2:(!x==y)=true):gU x y=1:=by
 have hne:x≠y:=by simpa using h2
 rcases xd x y with h3 | h3 | h3
 ·rw [h] at h3;cases h3
 ·exact absurd h3 hne
 ·simp [gU,h,h3]
theorem Jv {x y:ai} (h2:(!x==y)=false):gU x y=0:=by
 have:x=y:=by simpa using h2
 subst this;exact qR x
theorem Ik (x:ByteArray) (w:World):Calls Tryz.prog 253 #[.string x] w fun e w'=>e = .returned (.bool false)∧w'=w:=by
 go_enter Tryz.func253,Tryz.ntmps253
 go_wp2
 go_ret
 exact ⟨by simp,rfl⟩
set_option maxHeartbeats 1000000 in
theorem E6 (x y:ByteArray) (w:World):Calls Tryz.prog 212 #[.string x,.string y] w fun e w'=>e = .returned (.int .i64 (gU x.toList y.toList))∧w'=w:=by
 go_enter Tryz.func212,Tryz.ntmps212
 go_wp2_with (go_at_call 253;refine (Ik _ _).mono ?_;rintro e w' ⟨rfl,hw⟩;rw [hw])
 all_goals (go_ret;refine ⟨congrArg (fun n:Int=>Ending.returned (.int .i64 n)) (?_:(_:Int)=gU x.toList y.toList),rfl⟩;first | exact (Ja (by assumption)).symm | exact (Jy (by assumption) (by assumption)).symm | exact (Jv (by assumption)).symm)
theorem Fk (x y:ai) (w:World):Calls Tryz.prog 212 #[.string ⟨x.toArray⟩,.string ⟨y.toArray⟩] w fun e w'=>e = .returned (.int .i64 (gU x y))∧w'=w:=by
 have:=E6 ⟨x.toArray⟩ ⟨y.toArray⟩ w
 rwa [toList_mk,toList_mk] at this
def mC (w:World) (p:Option Addr) (xs:List ai):Prop:=∀ k,k<xs.length→∃ b o,p=some ⟨b,o,none⟩∧w.cell? ⟨b,o+k,none⟩=some (.string ⟨(xs.getD k []).toArray⟩)
set_option maxRecDepth 100000 in
set_option maxHeartbeats 2000000 in
theorem EP (xs ys:List ai) (n1 n2:Nat) (E:Aside (xs.length=n1∧ys.length=n2)) (p1 p2:Option Addr) (c1 c2:Nat) (w:World) (h1:Aside (mC w p1 xs)) (h2:Aside (mC w p2 ys)) (b1:n1≤9223372036854775807) (b2:n2≤9223372036854775807) :
 Calls Tryz.prog 137 #[.slice p1 n1 c1,.slice p2 n2 c2] w fun e w'=>e = .returned (.int .i64 (cmpL xs ys))∧w'=w:=by
 go_enter Tryz.func137,Tryz.ntmps137
 go_wp2
 go_loopg [11] n1 (fun g s11 wr=>∃ k:Nat,k≤n1∧n1-k≤g∧s11 = .int .i64 k∧wr=w∧k≤n2∧Aside (∀ i,i<k→xs.getD i []=ys.getD i []))
 case atStart=>exact ⟨0,Nat.zero_le _,by omega,rfl,rfl,Nat.zero_le _,(show Aside _ from fun i hi=>absurd hi (Nat.not_lt_zero _))⟩
 case round =>
  obtain ⟨k,hk,hg,rfl,rfl,hk2,hA⟩:=hrel;by_cases hlt:k<n1
  ·obtain ⟨b,o,rfl,hc1⟩:=h1.out k (by have:=E.out;omega);have hltz:(k:Int)<(n1:Int):=by omega
   by_cases hl2:k<n2
   ·obtain ⟨b',o',rfl,hc2⟩:=h2.out k (by have:=E.out;omega);have hlt2z:(k:Int)<(n2:Int):=by omega
    have hcs:=Fk (xs.getD k []) (ys.getD k []) wr;clear h1 h2;generalize (⟨(xs.getD k []).toArray⟩:ByteArray)=bx at hc1 hcs;generalize (⟨(ys.getD k []).toArray⟩:ByteArray)=bz at hc2 hcs;generalize hr:gU (xs.getD k []) (ys.getD k [])=r at hcs;by_cases hz:r=0
    ·subst hz
     go_wp2_with (go_at_call 212;refine hcs.mono ?_;rintro e w' ⟨rfl,rfl⟩)
     go_roundg (n1-(k+1))
     case measure=>omega
     case rel=>exact ⟨k+1,by omega,by omega,by go_num,rfl,by omega,(show Aside _ from fun i hi=>by
      by_cases e:i=k
      ·subst e;exact nS.1 hr
      ·exact hA.out i (by omega))⟩
    ·have hc:=vK hA.out (by have:=E.out;omega) (by have:=E.out;omega) (by rw [hr];exact hz);rw [hr] at hc
     go_wp2_with (go_at_call 212;refine hcs.mono ?_;rintro e w' ⟨rfl,rfl⟩)
     go_ret
     exact ⟨by first | rfl | (rw [hc];rfl),rfl⟩
   ·have hc:=zw hA.out (by have:=E.out;omega) (by have:=E.out;omega);have hlt2z:¬ (k:Int)<(n2:Int):=by omega
    go_wp2
    go_ret
    exact ⟨by first | rfl | (rw [hc];rfl),rfl⟩
  ·have hltz:¬ (k:Int)<(n1:Int):=by omega
   by_cases hl2:k<n2
   ·have hc:=zR hA.out (by have:=E.out;omega) (by have:=E.out;omega);have hlt2z:(n1:Int)<(n2:Int):=by omega
    go_wp2
    go_ret
    exact ⟨by first | rfl | (rw [hc];rfl),rfl⟩
   ·have hc:=cmpL_eq hA.out (by have:=E.out;omega) (by have:=E.out;omega);have hlt2z:¬ (n1:Int)<(n2:Int):=by omega
    go_wp2
    go_ret
    exact ⟨by first | rfl | (rw [hc];rfl),rfl⟩
end Go.Proofs.YtjfpcjnopbfekaaGreatDoor
namespace Go.Ab
open Go.RowKit Go.Sh Go.Proofs Go.Sort Go.Shelf
section
variable {P:Program} {α:Type}
def kS (cf:α→α→Int) (xs:List α):List α:=xs.mergeSort fun x y => !(ltOf cf y x)
theorem FF (cf:α→α→Int) (xs:List α):(kS cf xs).length=xs.length:=List.length_mergeSort ..
theorem sM {β:Type} {cf:α→α→Int} (h:SWO (ltOf cf)) (f:β→α):SWO (ltOf fun x y=>cf (f x) (f y)) where
 irrefl x:=h.irrefl (f x)
 trans x y z:=h.trans (f x) (f y) (f z)
 ntrans x y z:=h.ntrans (f x) (f y) (f z)
theorem DK (enc:α→List Value) (k:Nat) (w:World) (blk off m:Nat) (dk:Array α) (os:Array Obj) {b:Nat} (hb:b≠blk) (hlt:b<w.heap.size) [Inhabited α]:(sortWorldK enc k w blk off m dk os).heap[b]? = w.heap[b]? := by simp only [sortWorldK,grow,putRowK,putRow,mapBlock,Sort.ahead];rw [Array.getElem?_append_left (by simpa using hlt),Array.getElem?_modify,if_neg (Ne.symm hb)]
theorem Jl (enc:α→List Value) (k:Nat) (w:World) (blk off m:Nat) (dk:Array α) (os:Array Obj) {cur:Array Value} {e:TypeId} (h:w.heap[blk]? = some (.cells cur e (0,0))) [Inhabited α] :
 (sortWorldK enc k w blk off m dk os).heap[blk]? = some (.cells (putCells id off (flatK enc k dk) cur) e (0,0)):=by
 have hlt:blk<w.heap.size:=(Array.getElem?_eq_some_iff.1 h).1;simp only [sortWorldK,grow,putRowK,putRow,mapBlock,Sort.ahead];rw [Array.getElem?_append_left (by simpa using hlt),Array.getElem?_modify,if_pos rfl,h];rfl
theorem pq (e:TypeId) (sz:Nat) (zs:List (List AV)) (k:Nat):lk AO.gone [(1000,AO.row e sz zs)] k=if k=1000 then .row e sz zs else .gone:=by
 simp only [lk];by_cases e:k=1000
 ·subst e;simp
 ·rw [bT e];simp [e]
theorem nZ {e:TypeId} {sz:Nat} {zs:List (List AV)} {k:Nat} (h:lv [(1000,AO.row e sz zs)] k):k=1000∧zs≠[]:=by
 rcases h with h | ⟨m,i,_,h⟩
 ·rw [pq] at h;by_cases e:k=1000
  ·subst e;rw [if_pos rfl] at h;exact ⟨rfl,h⟩
  ·rw [if_neg e] at h;exact h.elim
 ·rw [pq] at h;by_cases e:m=1000
  ·rw [if_pos e] at h;exact h.elim
  ·rw [if_neg e] at h;exact h.elim
set_option maxHeartbeats 1000000 in
theorem BF {f:FuncId} {et:TypeId} {sz:Nat} (c:α→List AV) (hc:∀ x,(c x).length=sz) (h1c:∀ x,∀ v∈c x,v.one=true) (cf:α→α→Int) (hO:SWO (ltOf cf))
 (g:FuncId)
 (hS:∀ {β:Type} [Inhabited β] (enc:β→List Value),(∀ x,(enc x).length=sz)→(∀ x,∀ v∈enc x,v.oneCell'=true)→∀ (cf:β→β→Int),SWO (ltOf cf)→∀ (blk cap:Nat) (d:Array β) (w:World),CmpLays P g #[] enc sz cf blk 0 d.size w→HoldsK enc sz w blk 0 d→blk<w.heap.size→d.size<4611686018427387904 →
  Calls P f #[.slice (some ⟨blk,0,none⟩) d.size cap,.func (.func g) #[] #[]] w fun e w'=>e = .returned (.tuple #[])∧∃ d' n os,PermIn 0 d.size d d'∧SortedIn (ltOf cf) 0 d.size d'∧w'=sortWorldK enc sz w blk 0 n d' os)
 (hS0:∀ (ad:Option Addr) (w:World),Calls P f #[.slice ad 0 0,.func (.func g) #[] #[]] w fun e w'=>e = .returned (.tuple #[])∧w'=w)
 (hgc:∀ (W:World) (X:Nat→Prop) (x y:α) (A B:Array Value),D W X (.agg (c x)) (.agg A)→D W X (.agg (c y)) (.agg B)→Calls P g #[.agg A,.agg B] W fun e w'=>e = .returned (.int .i64 (cf x y))∧∃ q os',w'=grow (W.drewN q) os')
 (xs:List α) (hn:xs.length<4611686018427387904) (hnd:∀ i j (hi:i<xs.length) (hj:j<xs.length),ltOf cf xs[i] xs[j]=false→ltOf cf xs[j] xs[i]=false→i=j) :
 bo P f [.rslice 1000,.fn g []] [(1000,.row et sz (xs.map c))] (fun v h=>v = .tup []∧h=[(1000,.row et sz ((kS cf xs).map c))]):=by
 have hlen:(kS cf xs).length=xs.length:=FF cf xs;intro cx vs hl hr hg;have hv:vs=[vs.getD 0 undef,vs.getD 1 undef]:=Jk (by simpa using hl);have h0:G cx.W (cx.XX [(1000,.row et sz (xs.map c))] cx.β) cx.β cx.κ (.rslice 1000) (vs.getD 0 undef):=hg 0 (by simp);have h9:G cx.W (cx.XX [(1000,.row et sz (xs.map c))] cx.β) cx.β cx.κ (.fn g []) (vs.getD 1 undef):=hg 1 (by simp);obtain ⟨Vs,eV,hVl,_⟩:=h9.fn_inv;have eVs:Vs = #[]:=Array.size_eq_zero_iff.1 (by simpa using hVl.symm);subst eVs;have ho:HO cx.W (cx.XX [(1000,.row et sz (xs.map c))] cx.β) cx.β cx.κ 1000 (.row et sz (xs.map c)):=hr.ob 1000;have hk2:(cx.κ 1000).2=xs.length:=by simpa using ho.1
 rw [hv,eV];rcases h0.rslice_inv with ⟨hpos,hV⟩ | ⟨hz,ad,hV⟩
 ·have hne:xs≠[]:=by intro e;subst e;rw [hk2] at hpos;simp at hpos
  have hpos:0<xs.length:=List.length_pos_iff.2 hne;obtain ⟨cur,q1,q2,q3,q4,q5,q6,q7⟩:=ho.2 (by simpa using hne);simp only [KW] at q3 q7;have hblk:cx.β 1000<cx.W.heap.size:=(Array.getElem?_eq_some_iff.1 q1).1;have hcs:xs.length*sz≤cur.size:=by rw [q2];exact Nat.mul_le_mul_right _ q3
  have hXb:cx.XX [(1000,.row et sz (xs.map c))] cx.β (cx.β 1000):=.inr ⟨1000,.inl (by rw [pq,if_pos rfl];simpa [AO.live] using hne),rfl⟩
  letI:Inhabited (Fin xs.length):=⟨⟨0,hpos⟩⟩
  obtain ⟨enc,henc⟩:∃ enc:Fin xs.length→List Value,enc=fun i=>(List.range sz).map fun j=>cur.getD (i.1*sz+j) undef:=⟨_,rfl⟩;have hk:∀ x,(enc x).length=sz:=fun x=>by rw [henc];simp
  have hget:∀ x j,j<sz→(enc x)[j]! = cur.getD (x.1*sz+j) undef:=fun x j hj=>by rw [henc];simp [hj]
  have hgetD:∀ x j,j<sz→(enc x).getD j undef=cur.getD (x.1*sz+j) undef:=fun x j hj=>by rw [henc];simp [KO,hj]
  have hq7:∀ (x:Fin xs.length) j,j<sz→D cx.W (cx.XX [(1000,.row et sz (xs.map c))] cx.β) ((c xs[x.1]).getD j .any) ((enc x).getD j undef):=fun x j hj=>by
   have:=q7 x.1 j x.2 hj;rw [eP (d:=xs[x.1]) x.2] at this;rw [hgetD x j hj];have e:xs.getD x.1 xs[x.1]=xs[x.1]:=by simp [KO]
   rwa [e] at this
  obtain ⟨d,hd⟩:∃ d:Array (Fin xs.length),d=(List.finRange xs.length).toArray:=⟨_,rfl⟩;have hds:d.size=xs.length:=by rw [hd];simp
  have hdg:∀ i (h:i<xs.length),d[i]! = ⟨i,h⟩:=fun i h=>by rw [hd];simp [h]
  have hflat:∀ (dk:Array (Fin xs.length)) i j,i<dk.size→j<sz→(flatK enc sz dk)[i*sz+j]! = cur.getD (dk[i]!.1*sz+j) undef:=fun dk i j hi hj=>by
   have h2:(i+1)*sz≤dk.size*sz:=Nat.mul_le_mul_right _ hi;rw [Nat.add_mul] at h2;rw [get_flatK _ _ _ _ (by omega)];have e1:(i*sz+j) / sz=i:=by rw [Nat.mul_comm,Nat.mul_add_div q5,Nat.div_eq_of_lt hj];rfl
   have e2:(i*sz+j) % sz=j:=by rw [Nat.mul_comm,Nat.mul_add_mod,Nat.mod_eq_of_lt hj]
   rw [e1,e2,hget _ _ hj]
  have hH:HoldsK enc sz cx.W (cx.β 1000) 0 d:=by intro t ht;rw [size_flatK,hds] at ht;have h2:=Nat.div_add_mod t sz;have hj:t % sz<sz:=Nat.mod_lt _ q5;have hi:t / sz<xs.length:=Nat.div_lt_of_lt_mul (by rw [Nat.mul_comm];exact ht);refine ⟨?_,by simp [World.frozen?,q1]⟩;rw [Nat.zero_add,ba q1 (by omega)];have:=hflat d (t / sz) (t % sz) (by rw [hds];exact hi) hj;rw [hdg _ hi,show t / sz*sz+t % sz=t by rw [Nat.mul_comm];exact h2] at this;rw [this];rfl
  have hone:∀ x,∀ v∈enc x,v.oneCell'=true:=fun x v hv=>by
   obtain ⟨j,hj,e⟩:=List.getElem_of_mem hv;have hj':j<sz:=by rw [hk] at hj;exact hj
   have:=hq7 x j hj';have e2:(enc x).getD j undef=v:=by rw [KO,KP hj,e];rfl
   rw [e2] at this;refine this.one (h1c xs[x.1] _ ?_);rw [KO,KP (by rw [hc];exact hj')];exact List.getElem_mem _
  have hmono:∀ m dk os {v:AV} {V:Value},D cx.W (cx.XX [(1000,.row et sz (xs.map c))] cx.β) v V→D (sortWorldK enc sz cx.W (cx.β 1000) 0 m dk os) (cx.XX [(1000,.row et sz (xs.map c))] cx.β) v V:=fun m dk os v V h =>
   h.mono (fun b hb hlt=>DK enc sz cx.W (cx.β 1000) 0 m dk os (fun e=>hb (e ▸ hXb)) hlt) (fun b hb _=>hb)
  have hcmp:CmpLays P g #[] enc sz (fun i j=>cf xs[i.1] xs[j.1]) (cx.β 1000) 0 d.size cx.W:=by
   intro m os dk _ x y;rw [Array.append_empty];refine hgc _ (cx.XX [(1000,.row et sz (xs.map c))] cx.β) _ _ _ _ ?_ ?_
   ·refine .agg _ _ (by simp [hc,hk]) fun j hj=>hmono m dk os ?_;rw [hc] at hj;simpa [KR,KO] using hq7 x j hj
   ·refine .agg _ _ (by simp [hc,hk]) fun j hj=>hmono m dk os ?_;rw [hc] at hj;simpa [KR,KO] using hq7 y j hj
  have hkey:=hS enc hk hone (fun i j=>cf xs[i.1] xs[j.1]) (sM hO fun i:Fin xs.length=>xs[i.1]) (cx.β 1000) (cx.κ 1000).1 d cx.W hcmp hH hblk (by omega);have hT:∀ x y:Fin xs.length,ltOf (fun i j:Fin xs.length=>cf xs[i.1] xs[j.1]) x y=false→ltOf (fun i j:Fin xs.length=>cf xs[i.1] xs[j.1]) y x=false→x=y:=fun x y h h'=>Fin.ext (hnd x.1 y.1 x.2 y.2 h h');rw [hds] at hkey;rw [hV,hk2];refine hkey.mono fun e w' ⟨e1,d',n',os,hp,hs,e2⟩ => ?_;have hu:=sorted_unique_holds (sM hO fun i:Fin xs.length=>xs[i.1]) hT d d' (by rw [hds];exact hp) (by rw [hds];exact hs);obtain ⟨ds,hds0⟩:∃ ds,ds=d'.toList:=⟨_,rfl⟩;have e3:d'=ds.toArray:=by rw [hds0]
  rw [e3] at e2;have hds2:ds=d.toList.mergeSort fun x y => !(ltOf (fun i j:Fin xs.length=>cf xs[i.1] xs[j.1])) y x:=by rw [hds0];exact hu
  have hdl:ds.length=xs.length:=by rw [hds2,List.length_mergeSort,Array.length_toList,hds]
  have hmap:ds.map (fun i:Fin xs.length=>xs[i.1]'i.2)=kS cf xs:=by have hm:=List.map_mergeSort (r:=fun x y => !(ltOf (fun i j:Fin xs.length=>cf (xs[i.1]'i.2) (xs[j.1]'j.2)) y x)) (s:=fun x y => !(ltOf cf y x)) (f:=fun i:Fin xs.length=>xs[i.1]'i.2) (l:=d.toList) (fun a _ b _=>rfl);rw [hds2,hm];unfold kS;congr 1;rw [hd];refine List.ext_getElem (by simp) fun i h1 h2=>by simp
  subst e2;have hblk2:=Jl enc sz cx.W (cx.β 1000) 0 n' ds.toArray os q1;obtain ⟨cur',hcur'⟩:∃ cur',cur'=putCells id 0 (flatK enc sz ds.toArray) cur:=⟨_,rfl⟩;rw [← hcur'] at hblk2;have hcs':cur'.size=cur.size:=by rw [hcur'];simp [putCells]
  have hnK:¬ cx.K (cx.β 1000):=hr.nk 1000 (.inl (by rw [pq,if_pos rfl];simpa [AO.live] using hne));have hX2:∀ b,¬ cx.XX [(1000,.row et sz (xs.map c))] cx.β b→¬ cx.XX [(1000,.row et sz ((kS cf xs).map c))] cx.β b:=by
   rintro b hb (hx | ⟨k,hk,rfl⟩)
   ·exact hb (.inl hx)
   ·obtain ⟨rfl,_⟩:=nZ hk;exact hb hXb
  refine ⟨_,.tup [],[(1000,.row et sz ((kS cf xs).map c))],cx.β,cx.κ,e1,⟨rfl,rfl⟩,⟨fun k => ?_,fun i j hi hj _ => ?_,⟨rfl,rfl,rfl,?_,fun b hb=>DK enc sz cx.W (cx.β 1000) 0 n' ds.toArray os (fun e=>hnK (e ▸ hb)) (cx.hK b hb)⟩,fun k hk => ?_,fun k hk => ?_,fun k hk _=>⟨rfl,rfl⟩,fun k hk => ?_⟩,.d (.tup _ _ rfl (fun i hi=>by simp at hi))⟩
  ·rw [pq];by_cases ek:k=1000
   ·subst ek;rw [if_pos rfl];refine ⟨by simp [hk2,hlen],fun _=>⟨cur',hblk2,by rw [hcs',q2],by simpa [hlen] using q3,q4,q5,fun i hi => ?_,fun i j hi hj => ?_⟩⟩
    ·have hi:i<(kS cf xs).length:=by simpa using hi
     rw [eP (d:=xs[0]) hi,hc]
    ·have hi:i<(kS cf xs).length:=by simpa using hi
     rw [eP (d:=xs[0]) hi];have hi':i<ds.length:=by omega
     have e3:(kS cf xs).getD i xs[0]=xs[ds[i].1]:=by rw [KO,← hmap];simp [hi']
     have e4:cur'.getD (i*sz+j) undef=cur.getD (ds[i].1*sz+j) undef:=by
      have h2:(i+1)*sz≤xs.length*sz:=Nat.mul_le_mul_right _ (by omega);rw [Nat.add_mul] at h2;have hlt:i*sz+j<cur.size:=by omega
      have h3:=hflat ds.toArray i j (by simpa using hi') hj;have h4:(ds.toArray[i]! : Fin xs.length)=ds[i]:=by simp [hi']
      rw [h4] at h3;rw [← h3,hcur'];simp [putCells,KR,hlt,hdl];omega
     rw [e3,e4,← hgetD _ _ hj];exact (hmono n' ds.toArray os (hq7 ds[i] j hj)).mono (fun _ _ _=>rfl) fun b hb _=>hX2 b hb
   ·rw [if_neg ek];trivial
  ·rw [(nZ hi).1,(nZ hj).1]
  ·simp [sortWorldK,putRowK,putRow,mapBlock,grow,Sort.ahead]
  ·obtain ⟨rfl,_⟩:=nZ hk;exact hnK
  ·obtain ⟨rfl,_⟩:=nZ hk;exact hr.nx 1000 (.inl (by rw [pq,if_pos rfl];simpa [AO.live] using hne))
  ·rw [pq] at hk;by_cases ek:k=1000
   ·omega
   ·rw [if_neg ek] at hk;exact absurd rfl hk
 ·have hx:xs=[]:=List.eq_nil_of_length_eq_zero (by omega);subst hx;rw [hV];refine (hS0 ad cx.W).mono fun e w' ⟨e1,e2⟩ => ?_;subst e2;exact ⟨_,.tup [],[(1000,.row et sz (([]:List α).map c))],cx.β,cx.κ,e1,⟨rfl,by simp [kS]⟩,hr,.d (.tup _ _ rfl (fun i hi=>by simp at hi))⟩
end
end Go.Ab
namespace Go.Proofs
open Go.Shelf
def Tryz.sortedZ_ren:Go.Shelf.Ren:=⟨fun | 6=>205 | 8=>250 | 9=>138 | 11=>280 | 13=>214 | 12=>213 | 23=>262 | 24=>263 | 14=>254 | 15=>255 | 16=>256 | 17=>257 | 18=>258 | 19=>259 | 20=>210 | 21=>260 | 22=>261 | 25=>289 | 26=>290 | 27=>291 | 28=>292 | 29=>293 | 30=>253 | 31=>308 | n=>n,fun | 26=>9 | 28=>221 | 24=>90 | 0=>0 | 3=>3 | 37=>228 | 48=>264 | 50=>199 | 4=>4 | 40=>258 | 39=>257 | 45=>58 | 5=>5 | 9=>9 | 51=>282 | 55=>286 | 57=>307 | 58=>209 | 33=>61 | n=>n,fun | n=>n⟩
theorem Tryz.sortedZ:Go.Proofs.SlLaysZ.n6 Tryz.prog Tryz.sortedZ_ren:={
 mixed:=by kernel_rfl
 f6:=⟨Tryz.f205.name,by decide,Tryz.func205.trans (congrArg some (by kernel_rfl))⟩
 f8:=⟨Tryz.f250.name,by decide,Tryz.func250.trans (congrArg some (by kernel_rfl))⟩
 f11:=⟨Tryz.f280.name,by decide,Tryz.func280.trans (congrArg some (by kernel_rfl))⟩
 t0:=Tryz.underlying0
 a0:=Tryz.isAgg0
 z0:=Tryz.sizeOf0
 v0:=Tryz.zeroValue0
 t24:=Tryz.underlying90
 a24:=Tryz.isAgg90
 z24:=Tryz.sizeOf90
 v24:=Tryz.zeroValue90
 t26:=Tryz.underlying9
 a26:=Tryz.isAgg9
 z26:=Tryz.sizeOf9
 v26:=Tryz.zeroValue9
 t28:=Tryz.underlying221
 a28:=Tryz.isAgg221
 z28:=Tryz.sizeOf221
 v28:=Tryz.zeroValue221
 i26:=by kernel_rfl }
def Tryz.pdqF_ren:Go.Shelf.Ren:=⟨fun | 14=>252 | 20=>281 | 21=>282 | 22=>283 | 23=>284 | 24=>285 | 25=>286 | 26=>287 | 27=>288 | 46=>305 | 47=>290 | 48=>291 | 49=>306 | 50=>307 | 15=>214 | 57=>316 | 28=>262 | 29=>263 | n=>n,fun | 24=>118 | 22=>69 | 3=>3 | 25=>224 | 4=>4 | 0=>0 | 46=>258 | 45=>257 | 50=>58 | 66=>282 | 39=>228 | 55=>199 | 70=>286 | 76=>307 | 77=>209 | 53=>264 | 5=>5 | 9=>9 | n=>n,fun | n=>n⟩
theorem Tryz.pdqF:Go.Proofs.SlLaysF0.n14 Tryz.prog Tryz.pdqF_ren:={
 mixed:=by kernel_rfl
 f14:=⟨Tryz.f252.name,by decide,Tryz.func252.trans (congrArg some (by kernel_rfl))⟩
 f15:=Tryz.func214.trans (congrArg some (by kernel_rfl))
 f20:=⟨Tryz.f281.name,by decide,Tryz.func281.trans (congrArg some (by kernel_rfl))⟩
 f21:=⟨Tryz.f282.name,by decide,Tryz.func282.trans (congrArg some (by kernel_rfl))⟩
 f22:=⟨Tryz.f283.name,by decide,Tryz.func283.trans (congrArg some (by kernel_rfl))⟩
 f23:=⟨Tryz.f284.name,by decide,Tryz.func284.trans (congrArg some (by kernel_rfl))⟩
 f24:=⟨Tryz.f285.name,by decide,Tryz.func285.trans (congrArg some (by kernel_rfl))⟩
 f25:=⟨Tryz.f286.name,by decide,Tryz.func286.trans (congrArg some (by kernel_rfl))⟩
 f26:=⟨Tryz.f287.name,by decide,Tryz.func287.trans (congrArg some (by kernel_rfl))⟩
 f27:=⟨Tryz.f288.name,by decide,Tryz.func288.trans (congrArg some (by kernel_rfl))⟩
 f28:=Tryz.func262.trans (congrArg some (by kernel_rfl))
 f29:=Tryz.func263.trans (congrArg some (by kernel_rfl))
 f46:=⟨Tryz.f305.name,by decide,Tryz.func305.trans (congrArg some (by kernel_rfl))⟩
 f47:=Tryz.func290.trans (congrArg some (by kernel_rfl))
 f48:=Tryz.func291.trans (congrArg some (by kernel_rfl))
 f49:=⟨Tryz.f306.name,by decide,Tryz.func306.trans (congrArg some (by kernel_rfl))⟩
 f50:=⟨Tryz.f307.name,by decide,Tryz.func307.trans (congrArg some (by kernel_rfl))⟩
 f57:=⟨Tryz.f316.name,by decide,Tryz.func316.trans (congrArg some (by kernel_rfl))⟩
 t0:=Tryz.underlying0
 a0:=Tryz.isAgg0
 z0:=Tryz.sizeOf0
 v0:=Tryz.zeroValue0
 t3:=Tryz.underlying3
 a3:=Tryz.isAgg3
 z3:=Tryz.sizeOf3
 v3:=Tryz.zeroValue3
 t4:=Tryz.underlying4
 a4:=Tryz.isAgg4
 z4:=Tryz.sizeOf4
 v4:=Tryz.zeroValue4
 t5:=Tryz.underlying5
 a5:=Tryz.isAgg5
 z5:=Tryz.sizeOf5
 v5:=Tryz.zeroValue5
 t9:=Tryz.underlying9
 a9:=Tryz.isAgg9
 z9:=Tryz.sizeOf9
 v9:=Tryz.zeroValue9
 t22:=Tryz.underlying69
 a22:=Tryz.isAgg69
 z22:=Tryz.sizeOf69
 v22:=Tryz.zeroValue69
 t25:=Tryz.underlying224
 a25:=Tryz.isAgg224
 z25:=Tryz.sizeOf224
 v25:=Tryz.zeroValue224
 t39:=Tryz.underlying228
 a39:=Tryz.isAgg228
 z39:=Tryz.sizeOf228
 v39:=Tryz.zeroValue228
 t45:=Tryz.underlying257
 a45:=Tryz.isAgg257
 z45:=Tryz.sizeOf257
 v45:=Tryz.zeroValue257
 t46:=Tryz.underlying258
 a46:=Tryz.isAgg258
 z46:=Tryz.sizeOf258
 v46:=Tryz.zeroValue258
 t50:=Tryz.underlying58
 a50:=Tryz.isAgg58
 z50:=Tryz.sizeOf58
 v50:=Tryz.zeroValue58
 t53:=Tryz.underlying264
 a53:=Tryz.isAgg264
 z53:=Tryz.sizeOf264
 v53:=Tryz.zeroValue264
 t55:=Tryz.underlying199
 a55:=Tryz.isAgg199
 z55:=Tryz.sizeOf199
 v55:=Tryz.zeroValue199
 t66:=Tryz.underlying282
 a66:=Tryz.isAgg282
 z66:=Tryz.sizeOf282
 v66:=Tryz.zeroValue282
 t70:=Tryz.underlying286
 a70:=Tryz.isAgg286
 z70:=Tryz.sizeOf286
 v70:=Tryz.zeroValue286
 t76:=Tryz.underlying307
 a76:=Tryz.isAgg307
 z76:=Tryz.sizeOf307
 v76:=Tryz.zeroValue307
 t77:=Tryz.underlying209
 a77:=Tryz.isAgg209
 z77:=Tryz.sizeOf209
 v77:=Tryz.zeroValue209 }
def Tryz.lays125_ren:Go.Shelf.Ren:=⟨fun | 125=>214 | 128=>262 | 129=>263 | n=>n,fun | 46=>228 | 3=>3 | 51=>264 | 53=>199 | 4=>4 | 5=>5 | 9=>9 | n=>n,fun | n=>n⟩
theorem Tryz.lays125:Go.Proofs.Lays.n125 Tryz.prog Tryz.lays125_ren:={
 mixed:=by kernel_rfl
 f125:=Tryz.func214.trans (congrArg some (by kernel_rfl))
 f128:=Tryz.func262.trans (congrArg some (by kernel_rfl))
 f129:=Tryz.func263.trans (congrArg some (by kernel_rfl))
 t3:=Tryz.underlying3
 a3:=Tryz.isAgg3
 z3:=Tryz.sizeOf3
 v3:=Tryz.zeroValue3
 t4:=Tryz.underlying4
 a4:=Tryz.isAgg4
 z4:=Tryz.sizeOf4
 v4:=Tryz.zeroValue4
 t5:=Tryz.underlying5
 a5:=Tryz.isAgg5
 z5:=Tryz.sizeOf5
 v5:=Tryz.zeroValue5
 t9:=Tryz.underlying9
 a9:=Tryz.isAgg9
 z9:=Tryz.sizeOf9
 v9:=Tryz.zeroValue9
 t46:=Tryz.underlying228
 a46:=Tryz.isAgg228
 z46:=Tryz.sizeOf228
 v46:=Tryz.zeroValue228
 t51:=Tryz.underlying264
 a51:=Tryz.isAgg264
 z51:=Tryz.sizeOf264
 v51:=Tryz.zeroValue264
 t53:=Tryz.underlying199
 a53:=Tryz.isAgg199
 z53:=Tryz.sizeOf199
 v53:=Tryz.zeroValue199 }
end Go.Proofs
namespace Go.Proofs.YtjfpcjnopbfekaaGreatDoor
open Go.RowKit Go.Ab Go.Sh Go.Proofs Go.Shelf Go.Sort
theorem mC.alloc {w:World} {p:Option Addr} {xs:List ai} (h:mC w p xs) (o:Obj):mC (w.alloc o) p xs:=fun k hk=>by obtain ⟨b,of,e,hc⟩:=h k hk;exact ⟨b,of,e,Lib.cell?_alloc_some _ hc⟩
set_option maxHeartbeats 1000000 in
theorem Cw (ca cb:Value) (xs ys:List ai) (n1 n2:Nat) (E:Aside (xs.length=n1∧ys.length=n2)) (p1 p2:Option Addr) (c1 c2:Nat) (W:World) (h1:mC W p1 xs) (h2:mC W p2 ys) (b1:n1≤9223372036854775807) (b2:n2≤9223372036854775807) :
 Calls Tryz.prog 209 #[.agg #[ca,.slice p1 n1 c1],.agg #[cb,.slice p2 n2 c2]] W fun e w'=>e = .returned (.int .i64 (cmpL xs ys))∧∃ q os',w'=grow (W.drewN q) os':=by
 have hcon:=EP xs ys n1 n2 E p1 p2 c1 c2 ((W.alloc (.cells #[ca,.slice p1 n1 c1] 118)).alloc (.cells #[cb,.slice p2 n2 c2] 118)) ((h1.alloc _).alloc _) ((h2.alloc _).alloc _) b1 b2;generalize cmpL xs ys=r at hcon ⊢;clear h1 h2 E
 go_enter Tryz.func209,Tryz.ntmps209
 go_wp2_with (go_at_call 137;refine hcon.mono ?_;rintro e w' ⟨rfl,rfl⟩)
 go_ret
 exact ⟨rfl,0,_,by rw [alloc_eq_grow,alloc_eq_grow,grow_grow];rfl⟩
theorem D.texts {w:World} {X:Nat→Prop} {ks:List ai} {V:Value} (h:D w X (.dslice (ks.map eE)) V):∃ p cap,V = .slice p ks.length cap∧mC w p ks∧ks.length≤9223372036854775807∧(∀ k,k<ks.length→(ks.getD k []).length≤maxLen):=by
 by_cases hx:ks=[]
 ·subst hx;generalize hL:([]:List ai).map eE=L at h;cases h with
  | dnil a c hc=>exact ⟨a,c,rfl,fun k hk=>absurd hk (Nat.not_lt_zero _),Nat.zero_le _,fun k hk=>absurd hk (Nat.not_lt_zero _)⟩
  | dslice _ b o c sz cv h1 h2 h3=>subst hL;exact ⟨_,_,rfl,fun k hk=>absurd hk (Nat.not_lt_zero _),Nat.zero_le _,fun k hk=>absurd hk (Nat.not_lt_zero _)⟩
 ·have hne:0<ks.length:=List.length_pos_iff.2 hx;generalize hL:ks.map eE=L at h;cases h with
  | dnil a c hc=>simp at hL;exact absurd hL hx
  | dslice _ b o c sz cv q1 q2 q0 q3 q4 q5 q6 =>
   subst hL;have hsz1:sz=1:=by
    have:=q4 0 (by simpa using hne);rw [← this];obtain ⟨x,ys,rfl⟩:∃ x ys,ks=x::ys:=by
     cases ks with
     | nil=>simp at hne
     | cons x ys=>exact ⟨x,ys,rfl⟩
    rfl
   subst hsz1;have hcell:∀ j,j<ks.length→w.cell? ⟨b,o+j,none⟩=some (.string ⟨(ks.getD j []).toArray⟩)∧(ks.getD j []).length≤maxLen:=by
    intro j hj;have a1:=q5 j 0 (by simpa using hj) (by omega);have a2:=q6 j 0 (by simpa using hj) (by omega);have e1:(ks.map eE).getD j []=eE (ks.getD j []):=by simp [KO,KP hj]
    rw [e1] at a2;have a3:=(show D w X (.str (ks.getD j [])) (cv j 0) from a2).str_inv;rw [show o+(j*1+0)=o+j by omega,a3.1] at a1;exact ⟨a1,a3.2⟩
   have hm:maxLen=9223372036854775807:=by decide
   rw [KW] at q1;refine ⟨some ⟨b,o,none⟩,c,by rw [KW],fun k hk=>⟨b,o,rfl,(hcell k hk).1⟩,by omega,fun k hk=>(hcell k hk).2⟩
set_option maxHeartbeats 2000000 in
set_option maxRecDepth 100000 in
theorem A6 {β:Type} [Inhabited β] (enc:β→List Value) (hk:∀ x,(enc x).length=2) (h1:∀ x,∀ v∈enc x,v.oneCell'=true) (cf:β→β→Int) (hO:SWO (ltOf cf)) (blk cap:Nat) (d:Array β) (w:World)
 (hcmp:CmpLays Tryz.prog 209 #[] enc 2 cf blk 0 d.size w) (hH:HoldsK enc 2 w blk 0 d) (hblk:blk<w.heap.size) (hsz:d.size<4611686018427387904) :
 Calls Tryz.prog 208 #[.slice (some ⟨blk,0,none⟩) d.size cap,.func (.func 209) #[] #[]] w fun e w'=>e = .returned (.tuple #[])∧∃ d' n os,PermIn 0 d.size d d'∧SortedIn (ltOf cf) 0 d.size d'∧w'=sortWorldK enc 2 w blk 0 n d' os:=by
 have aE:∀ w,(isAgg 118).run Tryz.prog w = .ok true w:=fun w=>Go.Ab.run_isAgg (by kernel_rfl);have zE:∀ w,(Go.sizeOf 118).run Tryz.prog w = .ok 2 w:=fun w=>Go.Ab.run_sizeOf (by kernel_rfl);have eg:∀ args w,(callFunc 209 args).run Tryz.prog w = .ok (.enter 209 args) w:=enters_of Tryz.func209 (by kernel_rfl) rfl;have hlim:Lib.bitLen d.size<4611686018427387904:=Nat.lt_of_le_of_lt (Lib.bitLen_le d.size 62 (by omega) (by omega)) (by omega);have hp:=AnyQ.pdqsortCmpFunc_all Tryz.pdqF 2 aE zE enc cf 209 #[] hO blk 0 cap d w eg hcmp ⟨hk,h1,hH,hblk⟩ (d.size+1) 0 d.size (Lib.bitLen d.size) d w (by omega) rfl (SWK.start hH) (Nat.zero_le _) (Nat.le_refl _) hsz hlim (Or.inl rfl);change Calls Tryz.prog 252 _ _ _ at hp;have hl:Calls Tryz.prog 214 #[.int .u64 (d.size:Int)] w fun e w'=>e = .returned (.int .i64 (Lib.bitLen d.size:Nat))∧w'=w:=by
  have h:=Any.bits_Len Tryz.lays125 (d.size:Int) w (by omega) (by omega)
  rwa [Int.toNat_natCast] at h
 have wr:IntKind.u64.wrap (d.size:Int)=d.size:=by simp [IntKind.wrap,IntKind.bits,IntKind.signed];omega
 have hsrt:=pdq_sorts (ltOf cf) hO d 0 d.size (Lib.bitLen d.size) true true (Nat.zero_le _) (Nat.le_refl _) (Or.inl rfl);generalize pdq (ltOf cf) d 0 d.size (Lib.bitLen d.size) true true=d' at hp hsrt;clear hH hcmp hk h1
 go_enter Tryz.func208,Tryz.ntmps208
 go_wp2_with (first | (go_at_call 214;refine hl.mono ?_;rintro e w' ⟨rfl,rfl⟩) | (go_at_call 252;refine hp.mono ?_;rintro e w' ⟨rfl,n,os,rfl⟩))
 go_end0
 exact ⟨rfl,d',n,os,hsrt.1,hsrt.2,rfl⟩
set_option maxHeartbeats 2000000 in
theorem ui (p:Option Addr) (w:World):Calls Tryz.prog 208 #[.slice p 0 0,.func (.func 209) #[] #[]] w fun e w'=>e = .returned (.tuple #[])∧w'=w:=by
 have hp:=fun lim W=>AnyF.pdqsortCmpFunc_none Tryz.pdqF p 0 lim (.func (.func 209) #[] #[]) W;change ∀ lim W,Calls Tryz.prog 252 _ _ _ at hp;have hl:∀ W,Calls Tryz.prog 214 #[.int .u64 0] W fun e w'=>e = .returned (.int .i64 (Lib.bitLen 0:Nat))∧w'=W:=fun W=>Any.bits_Len Tryz.lays125 0 W (by omega) (by omega)
 go_enter Tryz.func208,Tryz.ntmps208
 go_wp2_with (first | (go_at_call 214;refine (hl _).mono ?_;rintro e w' ⟨rfl,rfl⟩) | (go_at_call 252;refine (hp _ _).mono ?_;rintro e w' ⟨rfl,rfl⟩))
 go_end0
 exact ⟨rfl,rfl⟩
def ll {α:Type} (key:α→List ai) (xs:List α):Option (List α):=cy (xs.length<4611686018427387904∧(xs.map key).Nodup) <| some (kS (fun x y=>cmpL (key x) (key y)) xs)
theorem ve {α:Type} (c:α→List AV) (key:α→List ai) (co:α→Int) (hc:∀ x,c x=[.int .i64 (co x),.dslice ((key x).map eE)]) (xs r:List α) (H:ll key xs=some r) :
 bo Tryz.prog 208 [.rslice 1000,.fn 209 []] [(1000,.row 118 2 (xs.map c))] (fun v h=>v = .tup []∧h=[(1000,.row 118 2 (r.map c))]):=by
 unfold ll at H;refine aU H fun hn H => ?_;refine bB H fun e => ?_;subst e;refine BF c (fun x=>by rw [hc];rfl) (fun x v hv=>by rw [hc] at hv;simp only [List.mem_cons,List.not_mem_nil,or_false] at hv;rcases hv with rfl | rfl<;>rfl) (fun x y=>cmpL (key x) (key y)) (sM A8 key) 209
  (fun enc hk h1 cf hO blk cap d w=>A6 enc hk h1 cf hO blk cap d w) ui (fun W X x y A B hA hB => ?_) xs hn.1 (fun i j hi hj h1 h2 => ?_)
 ·have key2:∀ {z:α} {A:Array Value},D W X (.agg (c z)) (.agg A)→∃ p cap,A = #[.int .i64 (co z),.slice p (key z).length cap]∧mC W p (key z)∧(key z).length≤9223372036854775807:=by
   intro z A h;rw [hc] at h;generalize hL:[AV.int .i64 (co z),.dslice ((key z).map eE)]=L at h;cases h with
   | agg cs vs hl hd =>
    subst hL;have d0:=(hd 0 (by simp)).int_inv;obtain ⟨p,cap,e1,e2,e3,_⟩:=D.texts (hd 1 (by simp));refine ⟨p,cap,?_,e2,e3⟩;have hs:A.size=2:=by simpa using hl.symm
    refine Array.ext (by simp [hs]) fun i hi h2 => ?_;match i,hi with
    | 0,_=>simpa [KR,hs] using d0
    | 1,_=>simpa [KR,hs] using e1
    | (n+2),hi=>omega
  obtain ⟨p1,c1,rfl,a1,a2⟩:=key2 hA;obtain ⟨p2,c2,rfl,b1,b2⟩:=key2 hB;exact Cw _ _ (key x) (key y) _ _ ⟨rfl,rfl⟩ p1 p2 c1 c2 W a1 b1 a2 b2
 ·have e:=Dl h1 h2;have hnd:=hn.2;have hp:=List.pairwise_iff_getElem.1 hnd;rcases Nat.lt_trichotomy i j with h | h | h
  ·exact absurd (by rw [List.getElem_map,List.getElem_map];exact e) (hp i j (by simpa using hi) (by simpa using hj) h)
  ·exact h
  ·exact absurd (by rw [List.getElem_map,List.getElem_map];exact e.symm) (hp j i (by simpa using hj) (by simpa using hi) h)
end Go.Proofs.YtjfpcjnopbfekaaGreatDoor
namespace Go.Ab
open Go.RowKit Go.Sh Go.Proofs Go.Sort Go.Maps Go.Shelf
section
variable {P:Program} {ρ:Ren}
def IY {α:Type} (F:Fence) (n:Nat) (P:Program) (g:Nat) (lb:Array Value) (enc:α→Value) (zs:List α) (w:World):Prop :=
 ∀ (l:Nat) (J:List α→World→Prop) (W:World),Below w.heap.size w W→(∀ pre W1,J pre W1→Below w.heap.size w W1) →
  (∀ pre x W1,J pre W1→pre.length<zs.length→YieldAt F (n-1) P l #[enc x] W1 fun e W'=>e = .returned (.bool true)∧J (pre++[x]) W'∧KeepsWalks W1 W') →
  J [] W→CallsIn F n P g (#[.func (.yield l) #[] #[]]++lb) W fun e W'=>(∃ v,e = .returned v)∧J zs W'
set_option maxRecDepth 100000 in
set_option maxHeartbeats 2000000 in
theorem Cy (L:SlLaysZ.n11 P ρ) (F:Fence) (n:Nat) (h11:F.fn (ρ.f 11)) (hro:F.round=none) (hn:2≤n) (g:Nat) (lb:Array Value) (hFg:F.fn g) (eg:∀ args w,(callFunc g args).run P w = .ok (.enter g args) w)
 (zs:List (List UInt8)) (hN:zs.length≤maxLen) (hNb:zs.length*16≤140737488355328) (w:World) (hseq:IY F (n-1) P g lb encStr zs w) :
 CallsIn F n P (ρ.f 11) #[.slice none 0 0,.func (.func g) #[] lb] w fun e w'=>∃ v:Value,e = .returned v∧w'.ownsRow w.heap.size (ρ.t 26) 1 v zs.length (zs.map encStr)∧Below w.heap.size w w':=by
 have h1:1≤n:=by omega
 have mixed:=L.mixed;have t0:=L.t0;have a0:=L.a0;have z0:=L.z0;have v0:=L.v0;have t24:=L.t24;have a24:=L.a24;have z24:=L.z24;have v24:=L.v24;have t26:=L.t26;have a26:=L.a26;have z26:=L.z26;have v26:=L.v26;have t28:=L.t28;have a28:=L.a28;have z28:=L.z28;have v28:=L.v28;have hne:ρ.t 24≠ρ.t 26:=fun e=>by have h:=L.t24;rw [e,L.t26] at h;cases h
 have u0:=run_underlying L.t0;have u24:=run_underlying L.t24;have u26:=run_underlying L.t26;have u28:=run_underlying L.t28;obtain ⟨_,_,FG⟩:=L.f11;refine callsIn_of_wp_marks FG rfl h11 ?_ hro;simp only [SlBodyZ.n11_ntmps ρ,List.size_toArray,List.length_cons,List.length_nil,Nat.reduceAdd,Nat.reduceSub,Array.replicate_succ,Array.replicate_zero,List.push_toArray,List.append_toArray,List.nil_append,List.cons_append]
 gi_wp2
 refine wpIn_rangeFunc ?_;intro fn hfn;rw [hro];obtain ⟨W0,hW0⟩:∃ W0,w.alloc (.cells #[.slice none 0 0] (ρ.t 24))=W0:=⟨_,rfl⟩;have hs0:W0.heap.size=w.heap.size+1:=by rw [← hW0];simp
 have hv0:W0.heap[w.heap.size]? = some (.cells #[.slice none 0 0] (ρ.t 24) (0,0)):=by rw [← hW0];exact World.alloc_heap_new w _
 have hb0:Below w.heap.size w W0:=by rw [← hW0];exact (Below.refl _ w).alloc (Nat.le_refl _) _
 rw [hW0];obtain ⟨W1,hW1⟩:∃ W1,(W0.alloc (.deferred (some []))).alloc (.loop (AnyZ.apRec ρ fn (.func (.func g) #[] lb) w.heap.size W0.heap.size .ready none))=W1:=⟨_,rfl⟩;have hold:∀ k,k<W0.heap.size→W1.heap[k]? = W0.heap[k]? := fun k hk=>by rw [← hW1];exact (Below.heap_alloc _ _ k (by simp;omega)).trans (Below.heap_alloc _ _ k hk)
 have hb1:Below w.heap.size w W1:=by rw [← hW1];exact (hb0.alloc hb0.size _).alloc (by have:=hb0.size;simp;omega) _
 have hs1:W1.heap.size=W0.heap.size+2:=by rw [← hW1];simp
 have hM:AnyZ.ApAt ρ w fn (.func (.func g) #[] lb) w.heap.size (W0.heap.size+1) W0.heap.size [] W1 :=
  ⟨⟨_,(hold w.heap.size (by omega)).trans hv0,⟨rfl,.inl ⟨rfl,rfl⟩⟩,by simp⟩,
   by rw [← hW1];have:=World.alloc_heap_new (W0.alloc (.deferred (some []))) (.loop (AnyZ.apRec ρ fn (.func (.func g) #[] lb) w.heap.size W0.heap.size .ready none));rwa [World.size_alloc] at this,
   by rw [← hW1];exact (Below.heap_alloc _ _ _ (by simp)).trans (World.alloc_heap_new W0 _),hb1⟩
 refine ⟨W0.heap.size+1,[{ target:=.collected W0.heap.size,args := #[] }],W1,{ target:=.fn (.func g) lb,args := #[.func (.yield (W0.heap.size+1)) #[] #[]] },W1,g,
  #[.func (.yield (W0.heap.size+1)) #[] #[]]++lb,W1,?_,?_,?_,?_,fun _=>h1,?_⟩
 ·rw [← hW1];exact run_enterLoop_outer _ _ _ _ _
 ·simp [resolve,go_sem]
 ·intro f' hf';simp [Target.leads] at hf';subst hf';exact hFg
 ·simp [invoke,go_sem,eg]
 ·refine (hseq (W0.heap.size+1) (AnyZ.ApAt ρ w fn (.func (.func g) #[] lb) w.heap.size (W0.heap.size+1) W0.heap.size) W1 hb1 (fun _ _ h=>h.below)
   (fun pre x W hJ hl=>AnyZ.apYield { L with } F (n-1-1) w fn hfn _ w.heap.size (W0.heap.size+1) W0.heap.size (by omega) (by omega) (by omega) (Nat.le_refl _) (by omega) zs.length hN hNb pre x W hJ hl) hM).mono ?_
  rintro e W2 ⟨⟨v0,rfl⟩,h2⟩;obtain ⟨v,hv,hrow,_⟩:=h2.box;have hend:=run_endLoop (P:=P) h2.L (by simp [AnyZ.apRec]);obtain ⟨W3,hW3⟩:∃ W3,W2.putObj (W0.heap.size+1) (.loop { AnyZ.apRec ρ fn (.func (.func g) #[] lb) w.heap.size W0.heap.size .ready none with state:=.exhausted })=W3:=⟨_,rfl⟩;rw [hW3] at hend;have hg3:W2.grownBy W3 (some (W0.heap.size+1)):=by rw [← hW3];exact grownBy_putObj_a _ _ _
  have hv3:W3.heap[w.heap.size]? = some (.cells #[v] (ρ.t 24) (0,0)):=by rw [← hW3];exact (World.putObj_heap_other (by omega)).trans hv
  have hK3:W3.heap[W0.heap.size]? = some (.deferred (some [])):=by rw [← hW3];exact (World.putObj_heap_other (by omega)).trans h2.K
  have hrow3:=hrow.kept hg3 (ownsRow_ne_a hrow h2.L (fun cur e=>by first | cases e | exact hne (Obj.cells.inj e).2.1));have hb3:Below w.heap.size w W3:=h2.below.grown hg3 h2.below.size (fun k e=>by cases e;omega);obtain ⟨hc3,hf3⟩:=cell_of_box_a hv3;clear hW3;refine ⟨none,W3,hend,?_⟩
  gi_wp2
  rw [← hs0];refine ⟨by simp,.inl ⟨_,_,rfl,run_takeDeferred hK3,?_⟩⟩;exact ⟨_,results_tmp rfl _ _ _,v,rfl,hrow3.kept (grownBy_putObj_a _ _ _) (ownsRow_ne_a hrow3 hK3 (fun cur e=>by first | cases e | exact hne (Obj.cells.inj e).2.1)),hb3.grown (grownBy_putObj_a _ _ _) hb3.size (fun k e=>by cases e;omega)⟩
set_option maxRecDepth 100000 in
set_option maxHeartbeats 2000000 in
theorem HC (L:SlLaysZ.n8 P ρ) (F:Fence) (n:Nat) (h8:F.fn (ρ.f 8)) (h11:F.fn (ρ.f 11)) (hro:F.round=none) (hn:3≤n) (g:Nat) (lb:Array Value) (hFg:F.fn g) (eg:∀ args w,(callFunc g args).run P w = .ok (.enter g args) w)
 (zs:List (List UInt8)) (hN:zs.length≤maxLen) (hNb:zs.length*16≤140737488355328) (w:World) (hseq:IY F (n-1-1) P g lb encStr zs w) :
 CallsIn F n P (ρ.f 8) #[.func (.func g) #[] lb] w fun e w'=>∃ v:Value,e = .returned v∧w'.ownsRow w.heap.size (ρ.t 26) 1 v zs.length (zs.map encStr)∧Below w.heap.size w w':=by
 have h1:1≤n:=by omega
 have e11:∀ args w,(callFunc (ρ.f 11) args).run P w = .ok (.enter (ρ.f 11) args) w:=L.f11.enters rfl;have mixed:=L.mixed;have t0:=L.t0;have a0:=L.a0;have z0:=L.z0;have v0:=L.v0;have t24:=L.t24;have a24:=L.a24;have z24:=L.z24;have v24:=L.v24;have t26:=L.t26;have a26:=L.a26;have z26:=L.z26;have v26:=L.v26;have t28:=L.t28;have a28:=L.a28;have z28:=L.z28;have v28:=L.v28;have u0:=run_underlying L.t0;have u24:=run_underlying L.t24;have u26:=run_underlying L.t26;have u28:=run_underlying L.t28;obtain ⟨_,_,FG⟩:=L.f8;refine callsIn_of_wp FG rfl h8 ?_ hro;simp only [SlBodyZ.n8_ntmps ρ,List.size_toArray,List.length_cons,List.length_nil,Nat.reduceAdd,Nat.reduceSub,Array.replicate_succ,Array.replicate_zero,List.push_toArray,List.append_toArray,List.nil_append,List.cons_append]
 gi_wp2_with (gi_at_fn (ρ.f 11);refine (Cy { L with } F (n-1) h11 hro (by omega) g lb hFg eg zs hN hNb _ hseq).mono ?_;rintro e w' ⟨v,rfl,hrow,hb⟩)
 go_ret
 exact ⟨v,rfl,hrow,hb⟩
set_option maxRecDepth 100000 in
set_option maxHeartbeats 2000000 in
theorem HX (L:SlLaysZ.n6 P ρ) (F:Fence) (n:Nat) (h6:F.fn (ρ.f 6)) (h8:F.fn (ρ.f 8)) (h9:F.fn (ρ.f 9)) (h11:F.fn (ρ.f 11)) (hro:F.round=none) (hn:4≤n) (hsort:AnyZ.SortsIn P ρ F (n-1)) (e9:∀ args w,(callFunc (ρ.f 9) args).run P w = .ok (.enter (ρ.f 9) args) w) (g:Nat) (lb:Array Value) (hFg:F.fn g) (eg:∀ args w,(callFunc g args).run P w = .ok (.enter g args) w)
 (zs:List (List UInt8)) (hN:zs.length≤maxLen) (hNb:zs.length*16≤140737488355328) (w:World) (hseq:IY F (n-1-1-1) P g lb encStr zs w) :
 CallsIn F n P (ρ.f 6) #[.func (.func g) #[] lb] w fun e w'=>∃ v:Value,e = .returned v ∧
  w'.ownsRow w.heap.size (ρ.t 26) 1 v zs.length ((zs.mergeSort (fun x y=>decide (x≤y))).map encStr)∧Below w.heap.size w w':=by
 have h1:1≤n:=by omega
 have e8:∀ args w,(callFunc (ρ.f 8) args).run P w = .ok (.enter (ρ.f 8) args) w:=L.f8.enters rfl;have mixed:=L.mixed;have t0:=L.t0;have a0:=L.a0;have z0:=L.z0;have v0:=L.v0;have t24:=L.t24;have a24:=L.a24;have z24:=L.z24;have v24:=L.v24;have t26:=L.t26;have a26:=L.a26;have z26:=L.z26;have v26:=L.v26;have t28:=L.t28;have a28:=L.a28;have z28:=L.z28;have v28:=L.v28;have u0:=run_underlying L.t0;have u24:=run_underlying L.t24;have u26:=run_underlying L.t26;have u28:=run_underlying L.t28;obtain ⟨_,_,FG⟩:=L.f6;refine callsIn_of_wp FG rfl h6 ?_ hro;simp only [SlBodyZ.n6_ntmps ρ,List.size_toArray,List.length_cons,List.length_nil,Nat.reduceAdd,Nat.reduceSub,Array.replicate_succ,Array.replicate_zero,List.push_toArray,List.append_toArray,List.nil_append,List.cons_append]
 gi_wp2_with (gi_at_fn (ρ.f 8);refine (HC { L with } F (n-1) h8 h11 hro (by omega) g lb hFg eg zs hN hNb _ hseq).mono ?_;rintro e W ⟨v,rfl,hrow,hb⟩)
 rcases hrow.2 with ⟨rfl,hz⟩ | ⟨gb,cap,cur,rfl,hbase,hgb,r1,r2,r3,r4⟩
 ·have hss:zs=[]:=List.eq_nil_of_length_eq_zero hz;subst hss
  gi_wp2_with (gi_at_fn (ρ.f 9);refine (hsort.2 none 0 W).mono ?_;rintro e w' ⟨rfl,rfl⟩)
  go_ret
  exact ⟨.slice none 0 0,rfl,by simpa using hrow,hb⟩
 ·have hH:Holds encStr W gb 0 zs.toArray:=holds_of_block hgb (by simpa using r4);have hgl:gb<W.heap.size:=(Array.getElem?_eq_some_iff.1 hgb).1;have hsz:zs.length<4611686018427387904:=by omega
  have cS:=hsort.1 gb 0 cap zs W hH hgl hsz
  gi_wp2_with (gi_at_fn (ρ.f 9);refine cS.mono ?_;rintro e w' ⟨rfl,nn,os,rfl⟩)
  go_ret
  exact ⟨_,rfl,ownsRow_sorted (by simp) hbase hgb r1 r2 r3,hb.grown (grownBy_sorted _) hb.size (fun j hj=>by cases hj;exact hbase)⟩
end
end Go.Ab
namespace Go.Proofs.YtjfpcjnopbfekaaGreatDoor
open Go.RowKit Go.Ab Go.Sh Go.Proofs Go.Shelf Go.Sort
theorem E5 (zs:List ai) (k:Nat) (h:k<zs.length):zs.take k++[zs.getD k []]=zs.take (k+1):=by rw [List.take_add_one,KO,KP h];rfl
set_option maxRecDepth 100000 in
set_option maxHeartbeats 2000000 in
theorem Ii (F:Fence) (n:Nat) (hF:F.fn 251) (hro:F.round=none) (hn:1≤n) (l Bs oo:Nat) (p:Option Addr) (m cap:Nat) (zs:List ai) (E:Aside (zs.length=m)) (hm:m≤9223372036854775807) (w:World) (hz:Aside (mC w p zs)) (J:List ai→World→Prop)
 (hJ:∀ pre W1,J pre W1→Below w.heap.size w W1)
 (hY:Aside (∀ pre x W1,J pre W1→pre.length<zs.length→YieldAt F (n-1) Tryz.prog l #[encStr x] W1 fun e W'=>e = .returned (.bool true)∧J (pre++[x]) W'∧KeepsWalks W1 W'))
 (W:World) (hBs:W.cell? ⟨Bs,oo,none⟩=some (.slice p m cap)) (h0:J [] W) :
 CallsIn F n Tryz.prog 251 #[.func (.yield l) #[] #[],.pointer (some ⟨Bs,oo,none⟩)] W fun e W'=>(∃ v,e = .returned v)∧J zs W':=by
 refine callsIn_of_wp Tryz.func251 rfl hF ?_ hro;simp only [Tryz.ntmps251,List.size_toArray,List.length_cons,List.length_nil,Nat.reduceAdd,Nat.reduceSub,Array.replicate_succ,Array.replicate_zero,List.push_toArray,List.append_toArray,List.nil_append,List.cons_append]
 gi_wp2
 gi_loopw [7] (fun i wr=>∃ k:Nat,k≤m∧i = .int .i64 k∧J (zs.take k) wr) (fun i _=>m-(intOf i).toNat)
 case atStart=>exact ⟨0,Nat.zero_le _,rfl,h0⟩
 case round =>
  obtain ⟨k,hk,rfl,hJs⟩:=hrel;by_cases hlt:k<m
  ·have hlz:k<zs.length:=by have:=E.out;omega
   obtain ⟨b,o,rfl,hc⟩:=hz.out k hlz;have hB:=hJ _ _ hJs;have hcx:wr.cell? ⟨b,o+k,none⟩=some (encStr (zs.getD k [])):=(hB.cell (p:=⟨b,o+k,none⟩) (World.block_lt_of_cell? w _ hc)).trans hc;have hsn:=E5 zs k hlz;obtain ⟨fn,tmps,assign,body,hy,hR⟩:=hY.out (zs.take k) (zs.getD k []) wr hJs (by rw [List.length_take];omega);rw [hsn] at hR;clear hc hB hsn;generalize encStr (zs.getD k [])=bx at hcx hy hR
   gi_wp2
   refine hR.mono ?_;rintro e W3 ⟨rfl,hJ3,_⟩
   gi_wp2
   go_roundw
   case rel=>exact ⟨k+1,by omega,by simp,hJ3⟩
   case measure=>simp [intOf];omega
  ·obtain rfl:k=m:=by omega
   have hall:zs.take k=zs:=by rw [List.take_of_length_le (by have:=E.out;omega)]
   rw [hall] at hJs
   gi_wp2
   go_end0
   exact ⟨⟨_,rfl⟩,hJs⟩
theorem JB (m:Nat):AnyZ.SortsIn Tryz.prog Tryz.sortedZ_ren Fence.wide m :=
 ⟨fun blk off cap ss W hH hblk hsz=>callsIn_wide.2 (Any.slices_Sort_string Tryz.lays190 blk off cap ss W hH hblk hsz),
  fun p cap W=>callsIn_wide.2 (Any.slices_Sort_string_none Tryz.lays190 p cap W)⟩
theorem EF (Bs oo:Nat) (p:Option Addr) (cap:Nat) (zs:List ai) (hm:zs.length≤9223372036854775807) (hNb:zs.length*16≤140737488355328) (w:World) (hz:mC w p zs) (hBs:w.cell? ⟨Bs,oo,none⟩=some (.slice p zs.length cap)) :
 Calls Tryz.prog 205 #[.func (.func 251) #[] #[.pointer (some ⟨Bs,oo,none⟩)]] w fun e w'=>∃ v:Value,e = .returned v∧w'.ownsRow w.heap.size 9 1 v zs.length ((sortS zs).map encStr)∧Below w.heap.size w w':=by
 refine (callsIn_wide (n:=5)).1 ?_;have hseq:IY Fence.wide (5-1-1-1) Tryz.prog 251 #[.pointer (some ⟨Bs,oo,none⟩)] encStr zs w:=fun l J W hW hJ hY h0 =>
  Ii Fence.wide _ trivial rfl (by omega) l Bs oo p zs.length cap zs rfl hm w hz J hJ hY W ((hW.cell (p:=⟨Bs,oo,none⟩) (World.block_lt_of_cell? w _ hBs)).trans hBs) h0
 exact HX Tryz.sortedZ Fence.wide 5 trivial trivial trivial trivial rfl (by omega) (JB _) (enters_of Tryz.func138 (by kernel_rfl) rfl) 251 #[.pointer (some ⟨Bs,oo,none⟩)] trivial (enters_of Tryz.func251 (by kernel_rfl) rfl) zs (by unfold maxLen;omega) hNb w hseq
theorem Fe (a:Option Addr) (len cap:Nat) (w:World):Calls Tryz.prog 206 #[.slice a len cap] w fun e w'=>e = .returned (.func (.func 251) #[] #[.pointer (some ⟨w.heap.size,0,none⟩)])∧w'=w.alloc (.cells #[.slice a len cap] 90):=by
 go_enter Tryz.func206,Tryz.ntmps206
 go_wp2
 go_ret
 exact ⟨rfl,rfl⟩
def mJ (xs:List ai):Option (List ai):=some xs
def iN (xs:List ai):Option (List ai):=cy (xs.length*16≤140737488355328) <| some (sortS xs)
theorem xW (xs r:List ai) (H:mJ xs=some r):a8 Tryz.prog 206 [.dslice (xs.map eE)] (.fn 251 [.dptr [.dslice (r.map eE)]]):=by
 unfold mJ at H;refine bB H fun e => ?_;subst e;refine pP rfl fun w X vs hl hX hd _ => ?_;have h0:D w X (.dslice (xs.map eE)) (vs.getD 0 undef):=hd 0 (by simp);obtain ⟨p,cap,e1,_,_,_⟩:=D.texts h0;rw [J0 (vs:=vs) (by simpa using hl)];rw [e1] at h0 ⊢;refine (Fe p xs.length cap w).mono fun e w' ⟨e2,e3⟩ => ?_;subst e3;have hX2:¬ X w.heap.size:=fun h=>Nat.lt_irrefl _ (hX _ h);refine ⟨_,e2,(Below.refl _ w).alloc (Nat.le_refl _) _,.fn _ _ _ rfl fun i hi => ?_⟩;have ei:i=0:=by simp only [List.length_cons,List.length_nil] at hi;omega
 subst ei;refine .dptr [.dslice (xs.map eE)] w.heap.size 0 (fun _=>.slice p xs.length cap) (by simp) hX2 (fun j hj => ?_) (fun j hj => ?_)
 ·have ej:j=0:=by simp only [List.length_cons,List.length_nil] at hj;omega
  subst ej;rw [ba (gC w _) (by simp)];rfl
 ·have ej:j=0:=by simp only [List.length_cons,List.length_nil] at hj;omega
  subst ej;exact h0.mono (fun b _ hb=>eR w _ hb) (fun b hb _=>hb)
theorem yu (xs r:List ai) (H:iN xs=some r):a8 Tryz.prog 205 [.fn 251 [.dptr [.dslice (xs.map eE)]]] (.dslice (r.map eE)):=by
 unfold iN at H;refine aU H fun hn H => ?_;refine bB H fun e => ?_;subst e;refine pP rfl fun w X vs hl hX hd _ => ?_;have h0:D w X (.fn 251 [.dptr [.dslice (xs.map eE)]]) (vs.getD 0 undef):=hd 0 (by simp);rw [J0 (vs:=vs) (by simpa using hl)];generalize vs.getD 0 undef=V at h0;generalize hL:[AV.dptr [.dslice (xs.map eE)]]=L at h0;cases h0 with
 | fn _ _ us hu hus =>
  subst hL;have h1:D w X (.dptr [.dslice (xs.map eE)]) (us.getD 0 undef):=hus 0 (by simp);have eu:us = #[us.getD 0 undef]:=by
   have hs:us.size=1:=by simpa using hu.symm
   refine Array.ext (by simp [hs]) fun i hi h2 => ?_;have ei:i=0:=by omega
   subst ei;simp [KR,hs]
  rw [eu];generalize us.getD 0 undef=U at h1;generalize hL:[AV.dslice (xs.map eE)]=L at h1;cases h1 with
  | dptr _ b o cv g0 g1 g2 g3 =>
   subst hL;have hc:=g2 0 (by simp);have h2:D w X (.dslice (xs.map eE)) (cv 0):=g3 0 (by simp);obtain ⟨p,cap,e1,e2,e3,e4⟩:=D.texts h2;rw [e1,Nat.add_zero] at hc;refine (EF b o p cap xs e3 hn w e2 hc).mono fun e w' ⟨v,q1,q2,q3⟩=>⟨v,q1,q3,?_⟩;have hlen:(sortS xs).length=xs.length:=List.length_mergeSort ..;rcases q2.2 with ⟨rfl,hz⟩ | ⟨gb,cap2,cur,rfl,hbase,hgb,r1,r2,r3,r4⟩
   ·have hx:xs=[]:=List.eq_nil_of_length_eq_zero hz;subst hx;have es:sortS []=[]:=by simp [sortS]
    rw [es];exact .dnil _ _ (Nat.zero_le _)
   ·have hcur:∀ i (hi:i<(sortS xs).length),cur.getD i undef=encStr (sortS xs)[i]:=fun i hi=>by
     have h5:cur.toList.take (xs.length*1)=(sortS xs).map encStr:=r4;have h6:(cur.toList.take (xs.length*1))[i]? = ((sortS xs).map encStr)[i]? := by rw [h5]
     rw [List.getElem?_take,if_pos (by omega)] at h6;rw [KR,← Array.getElem?_toList,h6];simp [hi]
    have hD:=D.dslice (w:=w') (X:=X) ((sortS xs).map eE) gb 0 cap2 1 (fun i _=>cur.getD i undef) (by simpa [hlen] using r1) (by exact r2) (by omega) (fun h=>by have:=hX _ h;omega) (fun i hi => ?_) (fun i j hi hj => ?_) (fun i j hi hj => ?_)
    ·simpa [hlen] using hD
    ·rw [eP (d:=([]:ai)) (by simpa using hi)];rfl
    ·have hi:i<(sortS xs).length:=by simpa using hi
     have ej:j=0:=by omega
     subst ej;rw [Nat.zero_add,Nat.mul_one,Nat.add_zero];exact ba hgb (by rw [r3];omega)
    ·have hi:i<(sortS xs).length:=by simpa using hi
     have ej:j=0:=by omega
     subst ej;rw [eP (d:=([]:ai)) hi,hcur i hi];have e5:(eE ((sortS xs).getD i [])).getD 0 .any = .str (sortS xs)[i]:=by show AV.str ((sortS xs).getD i [])=_;rw [KO,KP hi];rfl
     rw [e5];refine .str _ ?_;have hm:(sortS xs)[i]∈xs:=(List.mem_mergeSort (le:=fun x y=>decide (x≤y))).1 (List.getElem_mem hi);obtain ⟨j,hj,e6⟩:=List.getElem_of_mem hm;have:=e4 j hj;rw [KO,KP hj] at this;rw [← e6];exact this
end Go.Proofs.YtjfpcjnopbfekaaGreatDoor
namespace Go.Ab
open Go.RowKit Go.Sh
def ga {V:Type} (c:V→List AV) (m:List (ai×List V)):kx:=m.map fun p=>(p.1,some (p.2.map c))
theorem Dc {V:Type} (c:V→List AV) (y:ai):∀ m:List (ai×List V),HT y (ga c m)=true
 | []=>rfl
 | (k,r)::m=>by
  show (if k=y then (some (r.map c)).isSome else HT y (ga c m))=true;split
  ·rfl
  ·exact Dc c y m
theorem zF {V:Type} (c:V→List AV) (y:ai):∀ m:List (ai×List V),sk y (ga c m)=(bN [] y m).map c
 | []=>rfl
 | (k,r)::m=>by
  show (if k=y then (some (r.map c)).getD [] else sk y (ga c m))=(if k=y then r else bN [] y m).map c;split
  ·rfl
  ·exact zF c y m
theorem As {V:Type} (c:V→List AV) (y:ai) (v:List V):∀ m:List (ai×List V),fI y (v.map c) (ga c m)=ga c (dL y v m)
 | []=>rfl
 | (k,r)::m=>by
  show (if k=y then (y,some (v.map c))::ga c m else (k,some (r.map c))::fI y (v.map c) (ga c m))=ga c (if k=y then (y,v)::m else (k,r)::dL y v m);split
  ·rfl
  ·rw [As c y v m];rfl
theorem tz (y:ai) (v:List (List AV)):∀ es:kx,fI y v (dc y es)=fI y v es
 | []=>rfl
 | (k,r)::es=>by
  unfold dc;by_cases h:k=y
  ·rw [if_pos h];simp [fI,h]
  ·rw [if_neg h];simp only [fI,if_neg h];rw [tz y v es]
theorem FZ {V:Type} (c:V→List AV) (y:ai) (v:List V) (m:List (ai×List V)):fI y (v.map c) (dc y (ga c m))=ga c (dL y v m):=by rw [tz,As]
theorem Gj {V:Type} (c:V→List AV) (y:ai) (v:List V) (m:List (ai×List V)):fI y (v.map c) (jL y (dc y (ga c m)))=ga c (dL y v m):=by rw [Bl,tz,As]
theorem wj {V:Type} (c:V→List AV) (m:List (ai×List V)):(ga c m).length=m.length:=KW ..
theorem Br {V:Type} (c:V→List AV) (y:ai) (m:List (ai×List V)) (h:m.length+1<1000000):(dc y (ga c m)).length<1000000:=by rw [qP,wj];omega
theorem Ga {V:Type} (c:V→List AV) (y:ai) (m:List (ai×List V)) (h:m.length+1<1000000):(jL y (dc y (ga c m))).length<1000000:=by have h1:=AQ y (dc y (ga c m));rw [qP,wj] at h1;omega
theorem DI {V:Type} (c:V→List AV) (m:List (ai×List V)):((ga c m).all fun p=>p.2.isSome)=true:=by rw [K5];intro p hp;obtain ⟨x,_,rfl⟩:=List.mem_map.1 hp;rfl
theorem vz {V:Type} (c:V→List AV) (m:List (ai×List V)):Iz (ga c m)=m.map (aW fun x=>[AV.dslice (x.map c)]):=by show (m.map _).map _=_;rw [List.map_map];rfl
def mE {V:Type} (c:V→List AV) (m:List (List V)):vy:=m.map fun r=>some (r.map c)
section
variable {V:Type} (c:V→List AV) (m:List (List V))
theorem oR:(mE c m).length=m.length:=KW ..
theorem F2 {n:Nat} (h:n<m.length):n<(mE c m).length:=by rw [oR];exact h
theorem DG {n i:Nat} (h:n<m.length):n<((mE c m).set i none).length:=by rw [List.length_set,oR];exact h
theorem DJ {n:Nat} (h:n<m.length):(mE c m).getD n none=some ((m.getD n []).map c):=by simp [mE,KO,KP h]
theorem El (n:Nat) (v:List V):((mE c m).set n none).set n (some (v.map c))=mE c (m.set n v):=by rw [List.set_set];unfold mE;rw [List.map_set]
theorem Ed {b:Nat} (h:(m.length+1)*b≤140737488355328∧m.length<1000000):((mE c m).length+1)*b≤140737488355328∧(mE c m).length<1000000:=by rw [oR];exact h
theorem DW:mE c m++[some []]=mE c (m++[[]]):=by unfold mE;rw [List.map_append];rfl
theorem Eg:((mE c m).all fun p=>p.isSome)=true:=by rw [K5];intro p hp;obtain ⟨x,_,rfl⟩:=List.mem_map.1 hp;rfl
theorem DY:IC (mE c m)=m.map fun r=>[AV.dslice (r.map c)]:=by unfold IC mE;rw [List.map_map];rfl
end
theorem bo.es {P:Program} {f:FuncId} {args:List AV} {h0:List (Nat×AO)} {Q:AV→List (Nat×AO)→Prop} (i:Nat) (h:bo P f (args.set i (.dslice [])) h0 Q) (hi:args.getD i .any = .eslice):bo P f args h0 Q :=
 fun c vs hl hr hg=>h c vs (by simpa using hl) hr fun j hj=>by
  have hj':j<args.length:=by simpa using hj
  by_cases e:j=i
  ·subst e;have h1:=hg j hj';rw [hi] at h1;obtain ⟨ad,e1⟩:=h1.eslice_inv;rw [e1];have h2:(args.set j (.dslice [])).getD j .any = .dslice []:=by simp [KO,hj']
   rw [h2];exact .d (.dnil _ _ (Nat.zero_le _))
  ·have h2:(args.set i (.dslice [])).getD j .any=args.getD j .any:=by simp [KO,List.getElem?_set,Ne.symm e]
   rw [h2];exact hg j hj'
end Go.Ab
