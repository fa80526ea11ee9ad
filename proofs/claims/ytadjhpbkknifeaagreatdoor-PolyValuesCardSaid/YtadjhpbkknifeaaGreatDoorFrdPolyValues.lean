/- The frame for walks: states without addresses, the rules by which code is walked, and contracts of library functions. -/
import Derived.Test.YtadjhpbkknifeaaGreatDoorFrcPolyValues
import Derived.Lib.SliceRun
import Derived.Shelf.SlGeneric
import Derived.Shelf.Lays8
import Derived.Shelf.Strings.Builder1
import Derived.Shelf.Strings.Builder2
import Derived.Shelf.Strings.OnBuilder
import Derived.Shelf.Strings.Trim
import Derived.Shelf.Small.Utf8
import Derived.Shelf.Small.Bits
import Derived.Shelf.Small.Strs
import Derived.Shelf.Utf8.RuneCount
import Derived.Shelf.Strconv.Atoi
import Derived.Shelf.Strconv.Itoa0
import Derived.Shelf.Strconv.Itoa1
import Derived.Shelf.LaysM
import Derived.Shelf.Strconv.Itoa2
import Derived.Shelf.Strconv.Itoa3
import Derived.Shelf.Strconv.AtoiErrFast
import Derived.Shelf.Strconv.ParseIntEmpty
import Derived.Shelf.Strconv.AtoiFail
import Derived.Shelf.Strconv.Clone
import Derived.Shelf.Strconv.SyntaxError
import Derived.Shelf.LaysC
import Derived.Shelf.Strconv.ToError
import Derived.Shelf.Strconv.Lower
import Derived.Shelf.Strconv.ParseUint10
import Derived.Shelf.Strconv.ParseUint10Empty
import Derived.Shelf.Strconv.ParseUint10Any
import Derived.Shelf.Strconv.ParseInt10
import Derived.Shelf.Strconv.AtoiLong
import Derived.Shelf.Strconv.AtoiInnerAll
import Derived.Shelf.Strconv.RangeError
import Derived.Shelf.Strconv.ToErrorRange
import Derived.Shelf.Strconv.AtoiAll
import Derived.Shelf.Strconv.ErrVarAll
import Derived.Shelf.Strings.Search1
import Derived.Shelf.Strings.Search2
import Derived.Shelf.Strings.Search3
import Derived.Shelf.Strings.Cut
import Derived.Shelf.Strings.Count
import Derived.Shelf.Strings.Shaped
import Derived.Shelf.Sort.Plain
import Derived.Shelf.Strings.Split
import Derived.Shelf.Strings.SplitShaped
import Derived.Shelf.Unicode.Decode
import Derived.Shelf.Strings.Runes
import Derived.Shelf.Strings.RuneCount
import Derived.Shelf.Strings.IndexAny
import Derived.Shelf.Strings.AsciiSet
import Derived.Shelf.Strings.IndexAnyAll
import Derived.Shelf.Strings.Explode
import Derived.Shelf.Bits.Mul64
import Derived.Shelf.Unicode.DecodeSlow
import Derived.Shelf.Unicode.DecodeAny
import Derived.Shelf.Unicode.DecodeLast
import Derived.Shelf.Slices.CompactS
import Derived.Shelf.Slices.Cells
import Derived.Shelf.Slices.In.SortNone
import Derived.Test.YtadjhpbkknifeaaGreatDoorProg
import Derived.KernelRfl
import Derived.Shelf.Spec.SlicesGrow
import Derived.Laws.RangeAny
import Derived.WalkMore
import Derived.Shelf.RegionOpenPlain
import Derived.Deep.LoopGhost
import Derived.Below
import Derived.Laws.Runes
import Derived.Shelf.Spec.BitsCarry
import Derived.Shelf.SlSortCmp.Insertion
import Derived.Shelf.SlSortCmp.KitK
import Derived.Laws.Cover1
import Derived.Lib.Walk
import Derived.Shelf.SlSortCmp.NoneTotal
import Derived.Shelf.SlLaysZ
import Derived.Shelf.SlLaysF0
import Derived.Sort.AssemblyPlain
import Derived.Shelf.SlIter.Sorted
set_option linter.unusedSimpArgs false
set_option linter.unusedVariables false
namespace Go.Sh
open Classical in
section
variable {V σ ε β:Type}
def MR (m:List (ai×V)) (body:ai×V→σ→Option (eM σ ε β)) (K:σ→Prop) (J:β→Prop):Nat→List Nat→σ→Prop
 | 0,seen,s=>(∀ i,i<m.length→i∈seen)∧K s
 | n+1,seen,s=>(∃ i,i<m.length∧i ∉ seen)∧∀ i (h:i<m.length),i ∉ seen→∃ q,body m[i] s=some q∧match q with
  | .go s'=>MR m body K J n (seen++[i]) s'
  | .brk _=>False
  | .ret x=>J x
theorem MR.uniq {m:List (ai×V)} {body:ai×V→σ→Option (eM σ ε β)} {k:σ→Option β} {v v':β}:∀ {n:Nat} {seen:List Nat} {s:σ},MR m body (fun s=>k s=some v) (· = v) n seen s→MR m body (fun s=>k s=some v') (· = v') n seen s→v=v'
 | 0,_,_,h,h'=>KT (h.2.symm.trans h'.2)
 | n+1,seen,s,h,h'=>by
  obtain ⟨⟨i,hi,hn⟩,h⟩:=h;obtain ⟨q,hq,h1⟩:=h i hi hn;obtain ⟨q',hq',h2⟩:=h'.2 i hi hn;rw [hq] at hq';cases hq';cases q with
  | go s'=>exact MR.uniq h1 h2
  | brk e=>exact h1.elim
  | ret x=>exact h1.symm.trans h2
open Classical in
noncomputable def uC (m:List (ai×V)) (body:ai×V→σ→Option (eM σ ε β)) (s:σ) (k:σ→Option β):Option β :=
 if h:∃ v,MR m body (fun s=>k s=some v) (· = v) m.length [] s then some h.choose else none
theorem BX {m:List (ai×V)} {body:ai×V→σ→Option (eM σ ε β)} {s:σ} {k:σ→Option β} {v:β} (H:uC m body s k=some v):MR m body (fun s=>k s=some v) (· = v) m.length [] s:=by
 unfold uC at H;split at H
 ·rename_i h;cases H;exact h.choose_spec
 ·cases H
theorem Aw {m:List (ai×V)} {body:ai×V→σ→Option (eM σ ε β)} {s:σ} {k:σ→Option β} {v:β} (h:MR m body (fun s=>k s=some v) (· = v) m.length [] s):uC m body s k=some v:=by have h':∃ v,MR m body (fun s=>k s=some v) (· = v) m.length [] s:=⟨v,h⟩;unfold uC;rw [dif_pos h'];exact congrArg some (MR.uniq h'.choose_spec h)
theorem GS {ρ:Type} {x v:ρ} (h:ry (.ret x:eM σ ε ρ) (.ret v)):some x=some v:=by have:(Out.ret v:Out ε ρ) = .ret x:=h;cases this;rfl
end
end Go.Sh
namespace Go.Ab
open Go.RowKit Go.Sh
section
variable {P:Program} {Q:Exit→AS→Prop} {c:Code} {fs:List Fr} {s:AS}
theorem BT {ι:Type} {y:Code} (S:ι→AS) (φ:ι→Prop) (μ:ι→Nat) (i₀:ι) (h₀:φ i₀)
 (round:∀ i,φ i→dL P y (JO (fun s=>Cv s dead∨∃ j,φ j∧μ j<μ i∧Cv s (S j)) (cg P fs Q)) (S i)):dL P (.loop y) (cg P fs Q) (S i₀):=fun c a w β κ r=>by
 refine wp_loop_ghost (fun n a w=>∃ i β κ,φ i∧μ i=n∧Rel c (S i) a w β κ) (μ i₀) ⟨i₀,β,κ,h₀,rfl,r⟩ ?_;rintro n a w ⟨i,β,κ,hi,rfl,r⟩;refine wp_mono (round i hi c a w β κ r) fun e a' w' ⟨s',β',κ',q,r'⟩ => ?_;cases e with
 | normal =>
  rcases (q:Cv s' dead∨∃ j,φ j∧μ j<μ i∧Cv s' (S j)) with hd | ⟨j,hj,hlt,hcv⟩
  ·obtain ⟨β2,κ2,r2⟩:=hd _ c a' w' β' κ' r';exact (zl r2).elim
  ·obtain ⟨β2,κ2,r2⟩:=hcv _ c a' w' β' κ' r';exact ⟨μ j,hlt,j,β2,κ2,hj,rfl,r2⟩
 | exit id=>exact ⟨s',β',κ',q,r'⟩
 | goto l=>exact ⟨s',β',κ',q,r'⟩
 | ret=>exact ⟨s',β',κ',q,r'⟩
 | panic ch=>exact ⟨s',β',κ',q,r'⟩
 | outgrown=>exact ⟨s',β',κ',q,r'⟩
def vQ:Code→Option (Oper×List Oper×Code)
 | .loop (.seq (.region _ ops false) y)=>match ops.toList with
  | o::rest=>some (o,rest,y)
  | []=>none
 | _=>none
theorem Ar {o:Oper} {rest:List Oper} {y:Code} (h:vQ c=some (o,rest,y)):∃ id,c = .loop (.seq (.region id (o::rest).toArray false) y):=by
 unfold vQ at h;split at h
 ·rename_i id ops y';split at h
  ·rename_i o' rest' e;cases h;refine ⟨id,?_⟩;rw [← e]
  ·cases h
 ·cases h
def Hw (ops:Array Oper) (s:AS) (o:Oper) (k:Nat):Bool:=nL true (gd ops s o)&&(match o.op with
 | .next it false=>(match s.op it with | .hptr k' 0=>Nat.beq k' k | _=>false)
 | _=>false)
theorem EW {ops:Array Oper} {o:Oper} {k:Nat} (h:Hw ops s o k=true):gd ops s o=some true∧∃ it,o.op = .next it false∧s.op it = .hptr k 0:=by
 unfold Hw at h;rw [KJ] at h;refine ⟨aU h.1,?_⟩;have h:=h.2;split at h
 ·rename_i it e;refine ⟨it,e,?_⟩;split at h
  ·rename_i k' e2;rw [bP.1 h] at e2;exact e2
  ·cases h
 ·cases h
def xP (P:Program) (ops:Array Oper) (rest:List Oper) (ds:List pe) (dst:Option Tmp) (v:AV) (s:AS):Option (List Prop×AS):=match s.put dst v with
 | some s'=>match bj P ops rest ds s' with
  | some (ps,s2,[])=>some (ps,s2)
  | _=>none
 | none=>none
def KA {V:Type} (c:V→List AV) (e:ai×V):AV:=.tup [.bool true,.str e.1,G9 (c e.2)]
def Km {σ ε ρ:Type} (S:σ→AS):eM σ ε ρ→AS
 | .go x=>S x
 | _=>dead
theorem xK {V:Type} {cc:V→List AV} {m:List (ai×V)} {i:Nat} (h:i<m.length):(m.map (bA cc)).getD i default=bA cc m[i]:=by simp [KH,KI h]
theorem I7 {V σ ε β:Type} {cc:V→List AV} {m:List (ai×V)} {body:ai×V→σ→Option (eM σ ε β)} {k:σ→Option β} {st0:σ} {v:β} (kk:Nat) (S:List Nat→σ→AS) {o:Oper} {rest:List Oper} {y:Code} (hc:vQ c=some (o,rest,y))
 (H:uC m body st0 k=some v) (ds:List pe)
 (hn:∀ seen st,Hw (o::rest).toArray (S seen st) o kk=true∧lk .gone (S seen st).h kk = .iter (m.map (bA cc)) seen)
 (S0:List Nat→σ→AS) (h0:∀ seen st,xP P (o::rest).toArray rest ds o.dst (.tup [.bool false]) (S seen st)=some ([],S0 seen st))
 (S1:List Nat→σ→Nat→ai×V→AS) (h1:∀ seen st i e,xP P (o::rest).toArray rest ds o.dst (KA cc e) ⟨(S seen st).n,(S seen st).t,ins kk (.iter (m.map (bA cc)) (seen++[i])) (S seen st).h⟩=some ([],S1 seen st i e))
 (done:∀ seen st,k st=some v→dL P y (cg P (.bar dead::fs) Q) (S0 seen st))
 (step:∀ seen st i e,(∃ h:i<m.length,m[i]=e)→∀ q,body e st=some q→ry q (.ret v)→dL P y (cg P (.bar (Km (S (seen++[i])) q)::fs) Q) (S1 seen st i e)):dL P c (cg P fs Q) (S [] st0):=by
 obtain ⟨id,rfl⟩:=Ar hc;refine BT (ι:=Nat×List Nat×σ) (fun x=>S x.2.1 x.2.2) (fun x=>MR m body (fun s=>k s=some v) (· = v) x.1 x.2.1 x.2.2) (fun x=>x.1) (m.length,[],st0) (BX H) ?_;rintro ⟨n,seen,st⟩ hi;have hi:MR m body (fun s=>k s=some v) (· = v) n seen st:=hi;obtain ⟨hnx,hlk⟩:=hn seen st;obtain ⟨hg,it,hop,hit⟩:=EW hnx;refine DM ?_;have h0':=h0 seen st;unfold xP at h0';split at h0';case h_2=>cases h0'
 rename_i s0 hs0;split at h0';case h_2=>cases h0'
 rename_i ps0 s02 hr0;simp only [KR,Prod.mk.injEq] at h0';obtain ⟨rfl,e0⟩:=h0';have h1':∀ i (hi:i<m.length),∃ s1,AS.put ⟨(S seen st).n,(S seen st).t,ins kk (.iter (m.map (bA cc)) (seen++[i])) (S seen st).h⟩ o.dst (.tup [.bool true,.str ((m.map (bA cc)).getD i default).1,((m.map (bA cc)).getD i default).2])=some s1∧bj P (o::rest).toArray rest ds s1=some ([],S1 seen st i m[i],[]):=by
  intro i hi;have h:=h1 seen st i m[i];unfold xP at h;rw [xK hi];split at h;case h_2=>cases h
  rename_i s1 hs1;split at h;case h_2=>cases h
  rename_i ps1 s12 hr1;simp only [KR,Prod.mk.injEq] at h;obtain ⟨rfl,rfl⟩:=h;exact ⟨s1,hs1,hr1⟩
 refine uU (dt (Ie hg hop hit hlk (fun hall=>⟨s0,hs0,au ds hr0 trivial (xh ?_)⟩) (fun i hi2 hns => ?_)))
 ·
  have hall:∀ i,i<m.length→i∈seen:=fun i hi=>hall i (by simpa using hi);cases n with
  | succ n =>
   obtain ⟨⟨i,hi2,hns⟩,_⟩:=hi;exact absurd (hall i hi2) hns
  | zero =>
   rw [e0];refine dL.mono (done seen st hi.2) fun e s hq => ?_;cases e with
   | normal=>exact .inl hq
   | _=>exact hq
 ·have hi2:i<m.length:=by simpa using hi2
  obtain ⟨s1,hs1,hr1⟩:=h1' i hi2;refine ⟨s1,hs1,au ds hr1 trivial (xh ?_)⟩;cases n with
  | zero=>exact absurd (hi.1 i hi2) hns
  | succ n =>
   obtain ⟨_,hi⟩:=hi;obtain ⟨q,hq,hK⟩:=hi i hi2 hns;have ho:ry q (.ret v):=by
    cases q with
    | go s'=>trivial
    | brk e=>exact hK.elim
    | ret x=>exact congrArg Out.ret hK.symm
   refine dL.mono (step seen st i m[i] ⟨hi2,rfl⟩ q hq ho) fun e s hs => ?_;cases e with
   | normal =>
    cases q with
    | go s'=>exact .inr ⟨(n,seen++[i],s'),hK,Nat.lt_succ_self n,hs⟩
    | brk e=>exact .inl hs
    | ret x=>exact .inl hs
   | _=>exact hs
theorem Ec (seen:List Nat) (i:Nat):(seen++[i]).getLast? = some i:=by simp
theorem Kc {V:Type} {cc:V→List AV} {m:List (ai×V)} {i:Nat} {e:ai×V} (h:∃ h:i<m.length,m[i]=e):AV.tup [.str ((m.map (bA cc)).getD i default).1,((m.map (bA cc)).getD i default).2] = .tup [.str e.1,G9 (cc e.2)]:=by obtain ⟨hi,rfl⟩:=h;rw [xK hi];rfl
end
theorem Jo {l:List AV} (h:l.all (fun v=>v.one&&v.fl)=true):AV.fl (G9 l)=true:=by
 cases l with
 | nil=>rfl
 | cons v l=>simp only [List.all_cons,KJ] at h;exact h.1.2
theorem Hd {V:Type} {c:V→List AV} {sz:Nat} (h:∀ x,(c x).length=sz∧(c x).all (fun v=>v.one&&v.fl)=true) (m:List (ai×V)):KB (m.map (bA c)):=by intro p hp;obtain ⟨x,_,rfl⟩:=List.mem_map.1 hp;exact Jo (h x.2).2
section
variable {P:Program}
def AV.vwT (h:List (Nat×AO)):AV→AV
 | .tup cs=>.tup (cs.map (AV.vw1 h))
 | v=>AV.vw h v
theorem G.vwT {c:Cx P} {h:List (Nat×AO)} {w:World} {β:Nat→Nat} {κ:Nat→Nat×Nat} (r:eB c h w β κ) {v:AV} {V:Value} (hg:G w (c.XX h β) β κ v V):D w c.X (AV.vwT h v) V:=by
 unfold AV.vwT;split
 ·obtain ⟨vs,rfl,hl,hgs⟩:=hg.tup_inv;refine .tup _ _ (by simpa using hl) fun i hi => ?_;have e:∀ cs:List AV,(cs.map (AV.vw1 h)).getD i .any=AV.vw1 h (cs.getD i .any):=fun cs=>getD_map (AV.vw1 h) cs i .any .any rfl;rw [e];exact (hgs i (by simpa using hi)).vw1 r
 ·exact hg.vw r
theorem bD.frz {f:FuncId} {args:List AV} {h0 h1:List (Nat×AO)} {v u:AV} (h:bD P f args h0 fun r h'=>r=v∧h'=h1) (hu:AV.vwT h1 v=u):bD P f args h0 fun r h'=>r=u∧h'=[]:=by subst hu;intro c vs hl hr hg;refine (h c vs hl hr hg).mono fun e w' ⟨V,v',h',β',κ',e1,⟨e2,e3⟩,hr',hG⟩ => ?_;subst e2;subst e3;refine ⟨V,_,[],β',κ',e1,⟨rfl,rfl⟩,eB.nilA hr'.kp hr'.fix,.d ((hG.vwT hr').mono (fun _ _ _=>rfl) fun b hb _ hb2=>hb (hb2.resolve_right fun ⟨_,h,_⟩=>lA h))⟩
end
section
variable {P:Program} {Q:Exit→AS→Prop} {c:Code} {fs:List Fr} {s:AS}
def KC:Oper×List Oper×Code:=(⟨none,.panic (.const .nilIface),0, "", #[],none⟩,[],.skip)
def nx (c:Code):Oper×List Oper×Code:=(vQ c).getD KC
theorem Hq {V σ ε β:Type} {cc:V→List AV} {m:List (ai×V)} {body:ai×V→σ→Option (eM σ ε β)} {k:σ→Option β} {st0:σ} {v:β} (kk:Nat) (S:List Nat→σ→AS) (hc:(vQ c).isSome=true)
 (H:uC m body st0 k=some v) (ds:List pe)
 (hn:∀ seen st,Hw ((nx c).1::(nx c).2.1).toArray (S seen st) (nx c).1 kk=true∧lk .gone (S seen st).h kk = .iter (m.map (bA cc)) seen)
 (S0:List Nat→σ→AS) (h0:∀ seen st,xP P ((nx c).1::(nx c).2.1).toArray (nx c).2.1 ds (nx c).1.dst (.tup [.bool false]) (S seen st)=some ([],S0 seen st))
 (S1:List Nat→σ→Nat→ai×V→AS) (h1:∀ seen st i e,xP P ((nx c).1::(nx c).2.1).toArray (nx c).2.1 ds (nx c).1.dst (KA cc e) ⟨(S seen st).n,(S seen st).t,ins kk (.iter (m.map (bA cc)) (seen++[i])) (S seen st).h⟩=some ([],S1 seen st i e))
 (done:∀ seen st,k st=some v→dL P (nx c).2.2 (cg P (.bar dead::fs) Q) (S0 seen st))
 (step:∀ seen st i e,(∃ h:i<m.length,m[i]=e)→∀ q,body e st=some q→ry q (.ret v)→dL P (nx c).2.2 (cg P (.bar (Km (S (seen++[i])) q)::fs) Q) (S1 seen st i e)):dL P c (cg P fs Q) (S [] st0):=by
 obtain ⟨x,hx⟩:=Option.isSome_iff_exists.1 hc;have e:nx c=x:=by unfold nx;rw [hx];rfl
 refine I7 (o:=(nx c).1) (rest:=(nx c).2.1) (y:=(nx c).2.2) kk S (by rw [e,hx]) H ds hn S0 h0 S1 h1 done step
end
open Go.Proofs Go.Sort
section
variable {P:Program} {ρ:Go.Shelf.Ren}
def sortS (xs:List ai):List ai:=xs.mergeSort fun x y=>decide (x≤y)
def oc (xs:List ai):Option (List ai):=bR (xs.length<4611686018427387904) <| some (sortS xs)
theorem BQ (L:Lays.n190 P ρ) (xs r:List ai) (H:oc xs=some r) :
 bD P (ρ.f 190) [.rslice 1000] [(1000,.row (ρ.t 9) 1 (xs.map cA))] (fun v h=>v = .tup []∧h=[(1000,.row (ρ.t 9) 1 (r.map cA))]):=by
 unfold oc at H;refine aR H fun hn H => ?_;refine cC H fun e => ?_;subst e;have hlen:(sortS xs).length=xs.length:=List.length_mergeSort ..;intro c vs hl hr hg;have hv:vs=[vs.getD 0 undef]:=Ju (by simpa using hl);have h0:G c.W (c.XX [(1000,.row (ρ.t 9) 1 (xs.map cA))] c.β) c.β c.κ (.rslice 1000) (vs.getD 0 undef):=hg 0 (by simp);have ho:HO c.W (c.XX [(1000,.row (ρ.t 9) 1 (xs.map cA))] c.β) c.β c.κ 1000 (.row (ρ.t 9) 1 (xs.map cA)):=hr.ob 1000;have hk2:(c.κ 1000).2=xs.length:=by simpa using ho.1
 have hlk:∀ (ys:List ai) k,lk AO.gone [(1000,AO.row (ρ.t 9) 1 (ys.map cA))] k=if k=1000 then .row (ρ.t 9) 1 (ys.map cA) else .gone:=by
  intro ys k;simp only [lk];by_cases e:k=1000
  ·subst e;simp
  ·rw [bN e];simp [e]
 have hlive:∀ (ys:List ai) k,lv [(1000,AO.row (ρ.t 9) 1 (ys.map cA))] k→k=1000∧ys≠[]:=by
  rintro ys k (h | ⟨m,i,_,h⟩)
  ·rw [hlk] at h;by_cases e:k=1000
   ·subst e;rw [if_pos rfl] at h;exact ⟨rfl,fun e=>by subst e;exact h rfl⟩
   ·rw [if_neg e] at h;exact h.elim
  ·rw [hlk] at h;by_cases e:m=1000
   ·rw [if_pos e] at h;exact h.elim
   ·rw [if_neg e] at h;exact h.elim
 rcases h0.rslice_inv with ⟨hpos,hV⟩ | ⟨hz,ad,hV⟩
 ·
  have hne:xs≠[]:=by intro e;subst e;rw [hk2] at hpos;simp at hpos
  obtain ⟨cur,h1,h2,h3,h4,h5,h6,h7⟩:=ho.2 (by simpa using hne);simp only [KP,Nat.mul_one] at h2 h3 h6 h7;have hcur:∀ j (hj:j<xs.length),cur.getD j undef=encStr xs[j]∧xs[j].length≤maxLen:=by
   intro j hj;have:=h7 j 0 hj (by omega);rw [Nat.add_zero,cK (d:=([]:ai)) hj] at this;have e1:(cA (xs.getD j [])).getD 0 .any = .str xs[j]:=by show AV.str (xs.getD j [])=_;rw [KH,KI hj];rfl
   rw [e1] at this;have:=this.str_inv;exact ⟨this.1,this.2⟩
  have hsz:c.β 1000<c.W.heap.size:=(Array.getElem?_eq_some_iff.1 h1).1;have hH:Holds encStr c.W (c.β 1000) 0 xs.toArray:=by
   intro j hj;have hj:j<xs.length:=by simpa using hj
   rw [Nat.zero_add];refine ⟨?_,?_⟩
   ·rw [bc h1 (by omega),(hcur j hj).1];simp [hj]
   ·simp [World.frozen?,h1]
  rw [hv,hV,hk2];refine (Any.slices_Sort_string L (c.β 1000) 0 (c.κ 1000).1 xs c.W hH hsz hn).mono fun e w' ⟨e1,n,os,e2⟩ => ?_;have hsortE:(xs.mergeSort fun x y=>decide (x≤y))=sortS xs:=rfl;rw [hsortE] at e2;subst e2;let cur':=putCells encStr 0 (sortS xs).toArray cur
  have hblk:(grow (putRow encStr (Sort.ahead c.W n) (c.β 1000) 0 (sortS xs).toArray) os).heap[c.β 1000]? = some (.cells cur' (ρ.t 9) (0,0)):=by simp only [grow,putRow,mapBlock,Sort.ahead];rw [Array.getElem?_append_left (by simpa using hsz),Array.getElem?_modify,if_pos rfl,h1];rfl
  have hoth:∀ b,b≠c.β 1000→b<c.W.heap.size→(grow (putRow encStr (Sort.ahead c.W n) (c.β 1000) 0 (sortS xs).toArray) os).heap[b]? = c.W.heap[b]? := by intro b hb hlt;simp only [grow,putRow,mapBlock,Sort.ahead];rw [Array.getElem?_append_left (by simpa using hlt),Array.getElem?_modify,if_neg (Ne.symm hb)]
  have hcs:cur'.size=cur.size:=by simp [cur',putCells]
  have hnK:¬ c.K (c.β 1000):=hr.nk 1000 (.inl (by rw [hlk,if_pos rfl];simpa [AO.live] using hne));refine ⟨_,.tup [],[(1000,.row (ρ.t 9) 1 ((sortS xs).map cA))],c.β,c.κ,e1,⟨rfl,rfl⟩,⟨fun k => ?_,fun i j hi hj _ => ?_,⟨rfl,rfl,rfl,?_,fun b hb=>hoth b (fun e=>hnK (e ▸ hb)) (c.hK b hb)⟩,fun k hk => ?_,fun k hk => ?_,fun k hk _=>⟨rfl,rfl⟩,fun k hk => ?_⟩,.d (.tup _ _ rfl (fun i hi=>by simp at hi))⟩
  ·rw [hlk];by_cases ek:k=1000
   ·subst ek;rw [if_pos rfl];refine ⟨by simp [hk2,hlen],fun _=>⟨cur',hblk,by rw [hcs,h2];simp,by simpa [hlen] using h3,h4,by omega,fun i hi => ?_,fun i j hi hj => ?_⟩⟩
    ·have hi:i<(sortS xs).length:=by simpa using hi
     rw [cK (d:=([]:ai)) hi];rfl
    ·have hi:i<(sortS xs).length:=by simpa using hi
     have ej:j=0:=by omega
     subst ej;rw [Nat.mul_one,Nat.add_zero,cK (d:=([]:ai)) hi];have e1:(cA ((sortS xs).getD i [])).getD 0 .any = .str (sortS xs)[i]:=by show AV.str ((sortS xs).getD i [])=_;rw [KH,KI hi];rfl
     have e2:cur'.getD i undef=encStr (sortS xs)[i]:=by
      have hic:i<cur.size:=by omega
      simp [cur',putCells,KK,hic,hi]
     rw [e1,e2];refine .str _ ?_;have hm:(sortS xs)[i]∈xs:=(List.mem_mergeSort (le:=fun x y=>decide (x≤y))).1 (List.getElem_mem hi);obtain ⟨j,hj,e3⟩:=List.getElem_of_mem hm;rw [← e3];exact (hcur j hj).2
   ·rw [if_neg ek];trivial
  ·rw [(hlive _ _ hi).1,(hlive _ _ hj).1]
  ·simp [grow,Sort.ahead]
  ·obtain ⟨rfl,_⟩:=hlive _ _ hk;exact hnK
  ·obtain ⟨rfl,_⟩:=hlive _ _ hk;exact hr.nx 1000 (.inl (by rw [hlk,if_pos rfl];simpa [AO.live] using hne))
  ·rw [hlk] at hk;by_cases ek:k=1000
   ·omega
   ·rw [if_neg ek] at hk;exact absurd rfl hk
 ·
  have hx:xs=[]:=List.eq_nil_of_length_eq_zero (by omega);subst hx;rw [hv,hV];refine (Any.slices_Sort_string_none L ad 0 c.W).mono fun e w' ⟨e1,e2⟩ => ?_;subst e2;exact ⟨_,.tup [],[(1000,.row (ρ.t 9) 1 (([]:List ai).map cA))],c.β,c.κ,e1,⟨rfl,by simp [sortS]⟩,hr,.d (.tup _ _ rfl (fun i hi=>by simp at hi))⟩
end
end Go.Ab
namespace Go.Proofs
open Go.Shelf
def Tryz.lays156_ren:Go.Shelf.Ren:=⟨fun | 156=>83 | 165=>113 | 166=>114 | 169=>115 | 240=>139 | 241=>140 | 276=>165 | 277=>166 | n=>n,fun | 31=>49 | 9=>9 | 3=>3 | 4=>4 | 0=>0 | 20=>20 | 72=>161 | 76=>135 | 70=>159 | 37=>142 | 75=>134 | 127=>181 | 164=>201 | 5=>5 | 80=>163 | n=>n,fun | n=>n⟩
theorem Tryz.lays156:Go.Proofs.Lays.n156 Tryz.prog Tryz.lays156_ren:={
 mixed:=by kernel_rfl
 f156:=Tryz.func83.trans (congrArg some (by kernel_rfl))
 f165:=Tryz.func113.trans (congrArg some (by kernel_rfl))
 f166:=Tryz.func114.trans (congrArg some (by kernel_rfl))
 f169:=Tryz.func115.trans (congrArg some (by kernel_rfl))
 f240:=Tryz.func139.trans (congrArg some (by kernel_rfl))
 f241:=Tryz.func140.trans (congrArg some (by kernel_rfl))
 f276:=Tryz.func165.trans (congrArg some (by kernel_rfl))
 f277:=Tryz.func166.trans (congrArg some (by kernel_rfl))
 t0:=Tryz.underlying0
 a0:=Tryz.isAgg0
 z0:=Tryz.sizeOf0
 v0:=Tryz.zeroValue0
 t3:=Tryz.underlying3
 a3:=Tryz.isAgg3
 z3:=Tryz.sizeOf3
 v3:=Tryz.zeroValue3
 t4:=Tryz.underlying4
 a4:=Tryz.isAgg4
 z4:=Tryz.sizeOf4
 v4:=Tryz.zeroValue4
 t9:=Tryz.underlying9
 a9:=Tryz.isAgg9
 z9:=Tryz.sizeOf9
 v9:=Tryz.zeroValue9
 t20:=Tryz.underlying20
 a20:=Tryz.isAgg20
 z20:=Tryz.sizeOf20
 v20:=Tryz.zeroValue20
 t31:=Tryz.underlying49
 a31:=Tryz.isAgg49
 z31:=Tryz.sizeOf49
 v31:=Tryz.zeroValue49
 t37:=Tryz.underlying142
 a37:=Tryz.isAgg142
 z37:=Tryz.sizeOf142
 v37:=Tryz.zeroValue142
 t70:=Tryz.underlying159
 a70:=Tryz.isAgg159
 z70:=Tryz.sizeOf159
 v70:=Tryz.zeroValue159
 t72:=Tryz.underlying161
 a72:=Tryz.isAgg161
 z72:=Tryz.sizeOf161
 v72:=Tryz.zeroValue161
 t75:=Tryz.underlying134
 a75:=Tryz.isAgg134
 z75:=Tryz.sizeOf134
 v75:=Tryz.zeroValue134
 t76:=Tryz.underlying135
 a76:=Tryz.isAgg135
 z76:=Tryz.sizeOf135
 v76:=Tryz.zeroValue135
 t127:=Tryz.underlying181
 a127:=Tryz.isAgg181
 z127:=Tryz.sizeOf181
 v127:=Tryz.zeroValue181
 t164:=Tryz.underlying201
 a164:=Tryz.isAgg201
 z164:=Tryz.sizeOf201
 v164:=Tryz.zeroValue201 }
theorem Tryz.Builder_Extra_156:Builder.Extra Tryz.prog Tryz.lays156_ren:={
 sizeBuilder:=by kernel_rfl
 liesBuilder:=by kernel_rfl
 t5:=Tryz.underlying5
 a5:=Tryz.isAgg5
 z5:=Tryz.sizeOf5
 v5:=Tryz.zeroValue5
 infoByte:=by kernel_rfl
 cellsByte:=by kernel_rfl
 sizeByte:=by kernel_rfl
 neB5:=by decide }
def Tryz.laysM171_ren:Go.Shelf.Ren:=⟨fun | 171=>94 | 243=>125 | 246=>159 | 283=>178 | 284=>179 | 285=>180 | 286=>181 | 129=>137 | 317=>188 | 318=>189 | 319=>190 | 320=>191 | 337=>192 | 338=>193 | n=>n,fun | 3=>3 | 9=>9 | 2=>2 | 4=>4 | 171=>215 | 0=>0 | 53=>112 | 37=>142 | 5=>5 | 173=>217 | 212=>230 | 51=>178 | 20=>20 | 213=>231 | 46=>149 | 232=>236 | 233=>237 | n=>n,fun | 17=>3 | 18=>6 | 19=>7 | n=>n⟩
theorem Tryz.laysM171:Go.Proofs.LaysM.n171 Tryz.prog Tryz.laysM171_ren:={
 mixed:=by kernel_rfl
 f129:=Tryz.func137.trans (congrArg some (by kernel_rfl))
 f171:=Tryz.func94.trans (congrArg some (by kernel_rfl))
 f243:=Tryz.func125.trans (congrArg some (by kernel_rfl))
 f246:=Tryz.func159.trans (congrArg some (by kernel_rfl))
 f283:=Tryz.func178.trans (congrArg some (by kernel_rfl))
 f284:=Tryz.func179.trans (congrArg some (by kernel_rfl))
 f285:=Tryz.func180.trans (congrArg some (by kernel_rfl))
 f286:=Tryz.func181.trans (congrArg some (by kernel_rfl))
 f317:=Tryz.func188.trans (congrArg some (by kernel_rfl))
 f318:=Tryz.func189.trans (congrArg some (by kernel_rfl))
 f319:=Tryz.func190.trans (congrArg some (by kernel_rfl))
 f320:=Tryz.func191.trans (congrArg some (by kernel_rfl))
 f337:=Tryz.func192.trans (congrArg some (by kernel_rfl))
 f338:=Tryz.func193.trans (congrArg some (by kernel_rfl))
 t0:=Tryz.underlying0
 a0:=Tryz.isAgg0
 z0:=Tryz.sizeOf0
 v0:=Tryz.zeroValue0
 t2:=Tryz.underlying2
 a2:=Tryz.isAgg2
 z2:=Tryz.sizeOf2
 v2:=Tryz.zeroValue2
 t3:=Tryz.underlying3
 a3:=Tryz.isAgg3
 z3:=Tryz.sizeOf3
 v3:=Tryz.zeroValue3
 t4:=Tryz.underlying4
 a4:=Tryz.isAgg4
 z4:=Tryz.sizeOf4
 v4:=Tryz.zeroValue4
 t5:=Tryz.underlying5
 a5:=Tryz.isAgg5
 z5:=Tryz.sizeOf5
 v5:=Tryz.zeroValue5
 t9:=Tryz.underlying9
 a9:=Tryz.isAgg9
 z9:=Tryz.sizeOf9
 v9:=Tryz.zeroValue9
 t20:=Tryz.underlying20
 a20:=Tryz.isAgg20
 z20:=Tryz.sizeOf20
 v20:=Tryz.zeroValue20
 t37:=Tryz.underlying142
 a37:=Tryz.isAgg142
 z37:=Tryz.sizeOf142
 v37:=Tryz.zeroValue142
 t46:=Tryz.underlying149
 a46:=Tryz.isAgg149
 z46:=Tryz.sizeOf149
 v46:=Tryz.zeroValue149
 t51:=Tryz.underlying178
 a51:=Tryz.isAgg178
 z51:=Tryz.sizeOf178
 v51:=Tryz.zeroValue178
 t53:=Tryz.underlying112
 a53:=Tryz.isAgg112
 z53:=Tryz.sizeOf112
 v53:=Tryz.zeroValue112
 t171:=Tryz.underlying215
 a171:=Tryz.isAgg215
 z171:=Tryz.sizeOf215
 v171:=Tryz.zeroValue215
 t173:=Tryz.underlying217
 a173:=Tryz.isAgg217
 z173:=Tryz.sizeOf217
 v173:=Tryz.zeroValue217
 t212:=Tryz.underlying230
 a212:=Tryz.isAgg230
 z212:=Tryz.sizeOf230
 v212:=Tryz.zeroValue230
 t213:=Tryz.underlying231
 a213:=Tryz.isAgg231
 z213:=Tryz.sizeOf231
 t232:=Tryz.underlying236
 a232:=Tryz.isAgg236
 z232:=Tryz.sizeOf236
 v232:=Tryz.zeroValue236
 t233:=Tryz.underlying237
 a233:=Tryz.isAgg237
 z233:=Tryz.sizeOf237
 v233:=Tryz.zeroValue237
 g17:=by kernel_rfl
 g18:=by kernel_rfl
 g19:=by kernel_rfl
 i0:=by kernel_rfl
 i2:=by kernel_rfl
 i3:=by kernel_rfl
 i4:=by kernel_rfl
 i5:=by kernel_rfl
 i9:=by kernel_rfl
 i20:=by kernel_rfl
 i37:=by kernel_rfl
 i46:=by kernel_rfl
 i51:=by kernel_rfl
 i53:=by kernel_rfl
 i171:=by kernel_rfl
 i173:=by kernel_rfl
 i212:=by kernel_rfl
 i232:=by kernel_rfl
 i233:=by kernel_rfl
 m17:=by kernel_rfl
 m18:=by kernel_rfl
 m19:=by kernel_rfl }
def Tryz.laysC172_ren:Go.Shelf.Ren:=⟨fun | 172=>92 | 244=>122 | 245=>123 | 247=>153 | 279=>154 | 280=>155 | 281=>156 | 282=>157 | 287=>174 | 316=>175 | 171=>94 | 205=>176 | 321=>185 | 322=>186 | 243=>125 | 246=>159 | 283=>178 | 284=>179 | 285=>180 | 286=>181 | 129=>137 | 317=>188 | 318=>189 | 319=>190 | 320=>191 | 337=>192 | 338=>193 | n=>n,fun | 9=>9 | 3=>3 | 75=>134 | 76=>135 | 4=>4 | 5=>5 | 167=>188 | 37=>142 | 0=>0 | 85=>189 | 2=>2 | 168=>191 | 53=>112 | 175=>209 | 46=>149 | 210=>213 | 127=>181 | 145=>226 | 143=>224 | 21=>21 | 171=>215 | 173=>217 | 212=>230 | 51=>178 | 20=>20 | 213=>231 | 232=>236 | 233=>237 | 80=>163 | n=>n,fun | 15=>1 | 16=>2 | 17=>3 | 18=>6 | 19=>7 | n=>n⟩
theorem Tryz.laysC172:Go.Proofs.LaysC.n172 Tryz.prog Tryz.laysC172_ren:={
 mixed:=by kernel_rfl
 f129:=Tryz.func137.trans (congrArg some (by kernel_rfl))
 f171:=Tryz.func94.trans (congrArg some (by kernel_rfl))
 f172:=Tryz.func92.trans (congrArg some (by kernel_rfl))
 f205:=Tryz.func176.trans (congrArg some (by kernel_rfl))
 f243:=Tryz.func125.trans (congrArg some (by kernel_rfl))
 f244:=Tryz.func122.trans (congrArg some (by kernel_rfl))
 f245:=Tryz.func123.trans (congrArg some (by kernel_rfl))
 f246:=Tryz.func159.trans (congrArg some (by kernel_rfl))
 f247:=Tryz.func153.trans (congrArg some (by kernel_rfl))
 f279:=Tryz.func154.trans (congrArg some (by kernel_rfl))
 f280:=Tryz.func155.trans (congrArg some (by kernel_rfl))
 f281:=Tryz.func156.trans (congrArg some (by kernel_rfl))
 f282:=Tryz.func157.trans (congrArg some (by kernel_rfl))
 f283:=Tryz.func178.trans (congrArg some (by kernel_rfl))
 f284:=Tryz.func179.trans (congrArg some (by kernel_rfl))
 f285:=Tryz.func180.trans (congrArg some (by kernel_rfl))
 f286:=Tryz.func181.trans (congrArg some (by kernel_rfl))
 f287:=Tryz.func174.trans (congrArg some (by kernel_rfl))
 f316:=Tryz.func175.trans (congrArg some (by kernel_rfl))
 f317:=Tryz.func188.trans (congrArg some (by kernel_rfl))
 f318:=Tryz.func189.trans (congrArg some (by kernel_rfl))
 f319:=Tryz.func190.trans (congrArg some (by kernel_rfl))
 f320:=Tryz.func191.trans (congrArg some (by kernel_rfl))
 f321:=Tryz.func185.trans (congrArg some (by kernel_rfl))
 f322:=Tryz.func186.trans (congrArg some (by kernel_rfl))
 f337:=Tryz.func192.trans (congrArg some (by kernel_rfl))
 f338:=Tryz.func193.trans (congrArg some (by kernel_rfl))
 t0:=Tryz.underlying0
 a0:=Tryz.isAgg0
 z0:=Tryz.sizeOf0
 v0:=Tryz.zeroValue0
 t2:=Tryz.underlying2
 a2:=Tryz.isAgg2
 z2:=Tryz.sizeOf2
 v2:=Tryz.zeroValue2
 t3:=Tryz.underlying3
 a3:=Tryz.isAgg3
 z3:=Tryz.sizeOf3
 v3:=Tryz.zeroValue3
 t4:=Tryz.underlying4
 a4:=Tryz.isAgg4
 z4:=Tryz.sizeOf4
 v4:=Tryz.zeroValue4
 t5:=Tryz.underlying5
 a5:=Tryz.isAgg5
 z5:=Tryz.sizeOf5
 v5:=Tryz.zeroValue5
 t9:=Tryz.underlying9
 a9:=Tryz.isAgg9
 z9:=Tryz.sizeOf9
 v9:=Tryz.zeroValue9
 t20:=Tryz.underlying20
 a20:=Tryz.isAgg20
 z20:=Tryz.sizeOf20
 v20:=Tryz.zeroValue20
 t21:=Tryz.underlying21
 a21:=Tryz.isAgg21
 z21:=Tryz.sizeOf21
 v21:=Tryz.zeroValue21
 t37:=Tryz.underlying142
 a37:=Tryz.isAgg142
 z37:=Tryz.sizeOf142
 v37:=Tryz.zeroValue142
 t46:=Tryz.underlying149
 a46:=Tryz.isAgg149
 z46:=Tryz.sizeOf149
 v46:=Tryz.zeroValue149
 t51:=Tryz.underlying178
 a51:=Tryz.isAgg178
 z51:=Tryz.sizeOf178
 v51:=Tryz.zeroValue178
 t53:=Tryz.underlying112
 a53:=Tryz.isAgg112
 z53:=Tryz.sizeOf112
 v53:=Tryz.zeroValue112
 t75:=Tryz.underlying134
 a75:=Tryz.isAgg134
 z75:=Tryz.sizeOf134
 v75:=Tryz.zeroValue134
 t76:=Tryz.underlying135
 a76:=Tryz.isAgg135
 z76:=Tryz.sizeOf135
 v76:=Tryz.zeroValue135
 t85:=Tryz.underlying189
 a85:=Tryz.isAgg189
 z85:=Tryz.sizeOf189
 v85:=Tryz.zeroValue189
 t127:=Tryz.underlying181
 a127:=Tryz.isAgg181
 z127:=Tryz.sizeOf181
 v127:=Tryz.zeroValue181
 t143:=Tryz.underlying224
 a143:=Tryz.isAgg224
 z143:=Tryz.sizeOf224
 v143:=Tryz.zeroValue224
 t145:=Tryz.underlying226
 a145:=Tryz.isAgg226
 z145:=Tryz.sizeOf226
 v145:=Tryz.zeroValue226
 t167:=Tryz.underlying188
 a167:=Tryz.isAgg188
 z167:=Tryz.sizeOf188
 v167:=Tryz.zeroValue188
 t168:=Tryz.underlying191
 a168:=Tryz.isAgg191
 z168:=Tryz.sizeOf191
 v168:=Tryz.zeroValue191
 t171:=Tryz.underlying215
 a171:=Tryz.isAgg215
 z171:=Tryz.sizeOf215
 v171:=Tryz.zeroValue215
 t173:=Tryz.underlying217
 a173:=Tryz.isAgg217
 z173:=Tryz.sizeOf217
 v173:=Tryz.zeroValue217
 t175:=Tryz.underlying209
 a175:=Tryz.isAgg209
 z175:=Tryz.sizeOf209
 v175:=Tryz.zeroValue209
 t210:=Tryz.underlying213
 a210:=Tryz.isAgg213
 z210:=Tryz.sizeOf213
 v210:=Tryz.zeroValue213
 t212:=Tryz.underlying230
 a212:=Tryz.isAgg230
 z212:=Tryz.sizeOf230
 v212:=Tryz.zeroValue230
 t213:=Tryz.underlying231
 a213:=Tryz.isAgg231
 z213:=Tryz.sizeOf231
 t232:=Tryz.underlying236
 a232:=Tryz.isAgg236
 z232:=Tryz.sizeOf236
 v232:=Tryz.zeroValue236
 t233:=Tryz.underlying237
 a233:=Tryz.isAgg237
 z233:=Tryz.sizeOf237
 v233:=Tryz.zeroValue237
 g15:=by kernel_rfl
 g16:=by kernel_rfl
 g17:=by kernel_rfl
 g18:=by kernel_rfl
 g19:=by kernel_rfl
 t80:=Tryz.underlying163
 a80:=Tryz.isAgg163
 z80:=Tryz.sizeOf163
 v80:=Tryz.zeroValue163
 i0:=by kernel_rfl
 i2:=by kernel_rfl
 i3:=by kernel_rfl
 i4:=by kernel_rfl
 i5:=by kernel_rfl
 i9:=by kernel_rfl
 i20:=by kernel_rfl
 i21:=by kernel_rfl
 i37:=by kernel_rfl
 i46:=by kernel_rfl
 i51:=by kernel_rfl
 i53:=by kernel_rfl
 i75:=by kernel_rfl
 i76:=by kernel_rfl
 i80:=by kernel_rfl
 i85:=by kernel_rfl
 i127:=by kernel_rfl
 i143:=by kernel_rfl
 i145:=by kernel_rfl
 i167:=by kernel_rfl
 i168:=by kernel_rfl
 i171:=by kernel_rfl
 i173:=by kernel_rfl
 i175:=by kernel_rfl
 i210:=by kernel_rfl
 i212:=by kernel_rfl
 i232:=by kernel_rfl
 i233:=by kernel_rfl
 m15:=by kernel_rfl
 m16:=by kernel_rfl
 m17:=by kernel_rfl
 m18:=by kernel_rfl
 m19:=by kernel_rfl
 c0:=by kernel_rfl
 c2:=by kernel_rfl
 c3:=by kernel_rfl
 c4:=by kernel_rfl
 c5:=by kernel_rfl
 c9:=by kernel_rfl
 c20:=by kernel_rfl
 c21:=by kernel_rfl
 c37:=by kernel_rfl
 c46:=by kernel_rfl
 c51:=by kernel_rfl
 c53:=by kernel_rfl
 c75:=by kernel_rfl
 c76:=by kernel_rfl
 c80:=by kernel_rfl
 c85:=by kernel_rfl
 c127:=by kernel_rfl
 c143:=by kernel_rfl
 c145:=by kernel_rfl
 c167:=by kernel_rfl
 c168:=by kernel_rfl
 c171:=by kernel_rfl
 c173:=by kernel_rfl
 c175:=by kernel_rfl
 c210:=by kernel_rfl
 c212:=by kernel_rfl
 c213:=by kernel_rfl
 c232:=by kernel_rfl
 c233:=by kernel_rfl }
def Tryz.lays190_ren:Go.Shelf.Ren:=⟨fun | 190=>69 | 125=>103 | 258=>102 | 128=>136 | 129=>137 | 302=>128 | 303=>129 | 304=>130 | 305=>131 | 306=>132 | 307=>133 | 308=>95 | 309=>134 | 310=>135 | 333=>160 | 329=>161 | 330=>162 | 334=>163 | 335=>164 | 336=>126 | 344=>182 | n=>n,fun | 31=>49 | 9=>9 | 3=>3 | 46=>149 | 0=>0 | 51=>178 | 53=>112 | 4=>4 | 183=>171 | 182=>170 | 131=>175 | 5=>5 | 218=>195 | 222=>199 | 228=>219 | 229=>220 | n=>n,fun | n=>n⟩
theorem Tryz.lays190:Go.Proofs.Lays.n190 Tryz.prog Tryz.lays190_ren:={
 mixed:=by kernel_rfl
 f125:=Tryz.func103.trans (congrArg some (by kernel_rfl))
 f128:=Tryz.func136.trans (congrArg some (by kernel_rfl))
 f129:=Tryz.func137.trans (congrArg some (by kernel_rfl))
 f190:=Tryz.func69.trans (congrArg some (by kernel_rfl))
 f258:=Tryz.func102.trans (congrArg some (by kernel_rfl))
 f302:=Tryz.func128.trans (congrArg some (by kernel_rfl))
 f303:=Tryz.func129.trans (congrArg some (by kernel_rfl))
 f304:=Tryz.func130.trans (congrArg some (by kernel_rfl))
 f305:=Tryz.func131.trans (congrArg some (by kernel_rfl))
 f306:=Tryz.func132.trans (congrArg some (by kernel_rfl))
 f307:=Tryz.func133.trans (congrArg some (by kernel_rfl))
 f308:=Tryz.func95.trans (congrArg some (by kernel_rfl))
 f309:=Tryz.func134.trans (congrArg some (by kernel_rfl))
 f310:=Tryz.func135.trans (congrArg some (by kernel_rfl))
 f329:=Tryz.func161.trans (congrArg some (by kernel_rfl))
 f330:=Tryz.func162.trans (congrArg some (by kernel_rfl))
 f333:=Tryz.func160.trans (congrArg some (by kernel_rfl))
 f334:=Tryz.func163.trans (congrArg some (by kernel_rfl))
 f335:=Tryz.func164.trans (congrArg some (by kernel_rfl))
 f336:=Tryz.func126.trans (congrArg some (by kernel_rfl))
 f344:=Tryz.func182.trans (congrArg some (by kernel_rfl))
 t0:=Tryz.underlying0
 a0:=Tryz.isAgg0
 z0:=Tryz.sizeOf0
 v0:=Tryz.zeroValue0
 t3:=Tryz.underlying3
 a3:=Tryz.isAgg3
 z3:=Tryz.sizeOf3
 v3:=Tryz.zeroValue3
 t4:=Tryz.underlying4
 a4:=Tryz.isAgg4
 z4:=Tryz.sizeOf4
 v4:=Tryz.zeroValue4
 t5:=Tryz.underlying5
 a5:=Tryz.isAgg5
 z5:=Tryz.sizeOf5
 v5:=Tryz.zeroValue5
 t9:=Tryz.underlying9
 a9:=Tryz.isAgg9
 z9:=Tryz.sizeOf9
 v9:=Tryz.zeroValue9
 t31:=Tryz.underlying49
 a31:=Tryz.isAgg49
 z31:=Tryz.sizeOf49
 v31:=Tryz.zeroValue49
 t46:=Tryz.underlying149
 a46:=Tryz.isAgg149
 z46:=Tryz.sizeOf149
 v46:=Tryz.zeroValue149
 t51:=Tryz.underlying178
 a51:=Tryz.isAgg178
 z51:=Tryz.sizeOf178
 v51:=Tryz.zeroValue178
 t53:=Tryz.underlying112
 a53:=Tryz.isAgg112
 z53:=Tryz.sizeOf112
 v53:=Tryz.zeroValue112
 t131:=Tryz.underlying175
 a131:=Tryz.isAgg175
 z131:=Tryz.sizeOf175
 v131:=Tryz.zeroValue175
 t182:=Tryz.underlying170
 a182:=Tryz.isAgg170
 z182:=Tryz.sizeOf170
 v182:=Tryz.zeroValue170
 t183:=Tryz.underlying171
 a183:=Tryz.isAgg171
 z183:=Tryz.sizeOf171
 v183:=Tryz.zeroValue171
 t218:=Tryz.underlying195
 a218:=Tryz.isAgg195
 z218:=Tryz.sizeOf195
 v218:=Tryz.zeroValue195
 t222:=Tryz.underlying199
 a222:=Tryz.isAgg199
 z222:=Tryz.sizeOf199
 v222:=Tryz.zeroValue199
 t228:=Tryz.underlying219
 a228:=Tryz.isAgg219
 z228:=Tryz.sizeOf219
 v228:=Tryz.zeroValue219
 t229:=Tryz.underlying220
 a229:=Tryz.isAgg220
 z229:=Tryz.sizeOf220
 v229:=Tryz.zeroValue220 }
def Tryz.lays146_ren:Go.Shelf.Ren:=⟨fun | 146=>91 | 221=>121 | 268=>150 | 138=>151 | 143=>152 | 195=>171 | 197=>172 | 218=>173 | 219=>158 | 260=>184 | 217=>149 | 225=>120 | 224=>119 | 267=>177 | 266=>170 | 314=>187 | n=>n,fun | 9=>9 | 31=>49 | 3=>3 | 4=>4 | 0=>0 | 105=>207 | 21=>21 | 5=>5 | 46=>149 | 119=>232 | 139=>235 | 138=>234 | 146=>227 | 51=>178 | n=>n,fun | 1=>0 | 3=>4 | 4=>5 | n=>n⟩
theorem Tryz.lays146:Go.Proofs.Lays.n146 Tryz.prog Tryz.lays146_ren:={
 mixed:=by kernel_rfl
 f138:=Tryz.func151.trans (congrArg some (by kernel_rfl))
 f143:=Tryz.func152.trans (congrArg some (by kernel_rfl))
 f146:=Tryz.func91.trans (congrArg some (by kernel_rfl))
 f195:=Tryz.func171.trans (congrArg some (by kernel_rfl))
 f197:=Tryz.func172.trans (congrArg some (by kernel_rfl))
 f217:=Tryz.func149.trans (congrArg some (by kernel_rfl))
 f218:=Tryz.func173.trans (congrArg some (by kernel_rfl))
 f219:=Tryz.func158.trans (congrArg some (by kernel_rfl))
 f221:=Tryz.func121.trans (congrArg some (by kernel_rfl))
 f224:=Tryz.func119.trans (congrArg some (by kernel_rfl))
 f225:=Tryz.func120.trans (congrArg some (by kernel_rfl))
 f260:=Tryz.func184.trans (congrArg some (by kernel_rfl))
 f266:=Tryz.func170.trans (congrArg some (by kernel_rfl))
 f267:=Tryz.func177.trans (congrArg some (by kernel_rfl))
 f268:=Tryz.func150.trans (congrArg some (by kernel_rfl))
 f314:=Tryz.func187.trans (congrArg some (by kernel_rfl))
 t0:=Tryz.underlying0
 a0:=Tryz.isAgg0
 z0:=Tryz.sizeOf0
 v0:=Tryz.zeroValue0
 t3:=Tryz.underlying3
 a3:=Tryz.isAgg3
 z3:=Tryz.sizeOf3
 v3:=Tryz.zeroValue3
 t4:=Tryz.underlying4
 a4:=Tryz.isAgg4
 z4:=Tryz.sizeOf4
 v4:=Tryz.zeroValue4
 t5:=Tryz.underlying5
 a5:=Tryz.isAgg5
 z5:=Tryz.sizeOf5
 v5:=Tryz.zeroValue5
 t9:=Tryz.underlying9
 a9:=Tryz.isAgg9
 z9:=Tryz.sizeOf9
 v9:=Tryz.zeroValue9
 t21:=Tryz.underlying21
 a21:=Tryz.isAgg21
 z21:=Tryz.sizeOf21
 v21:=Tryz.zeroValue21
 t31:=Tryz.underlying49
 a31:=Tryz.isAgg49
 z31:=Tryz.sizeOf49
 v31:=Tryz.zeroValue49
 t46:=Tryz.underlying149
 a46:=Tryz.isAgg149
 z46:=Tryz.sizeOf149
 v46:=Tryz.zeroValue149
 t51:=Tryz.underlying178
 a51:=Tryz.isAgg178
 z51:=Tryz.sizeOf178
 v51:=Tryz.zeroValue178
 t105:=Tryz.underlying207
 a105:=Tryz.isAgg207
 z105:=Tryz.sizeOf207
 v105:=Tryz.zeroValue207
 t119:=Tryz.underlying232
 a119:=Tryz.isAgg232
 z119:=Tryz.sizeOf232
 t138:=Tryz.underlying234
 a138:=Tryz.isAgg234
 z138:=Tryz.sizeOf234
 v138:=Tryz.zeroValue234
 t139:=Tryz.underlying235
 a139:=Tryz.isAgg235
 z139:=Tryz.sizeOf235
 v139:=Tryz.zeroValue235
 t146:=Tryz.underlying227
 a146:=Tryz.isAgg227
 z146:=Tryz.sizeOf227
 v146:=Tryz.zeroValue227
 g1:=by kernel_rfl
 g3:=by kernel_rfl
 g4:=by kernel_rfl }
def Tryz.lays8_249_ren:Go.Shelf.Ren:=⟨fun | 4=>99 | n=>n,fun | 22=>49 | 25=>9 | 3=>3 | 4=>4 | 9=>9 | 20=>20 | 0=>0 | n=>n,fun | n=>n⟩
theorem Tryz.lays8_249:Go.Proofs.Lays8.n4 Tryz.prog Tryz.lays8_249_ren:={
 mixed:=by kernel_rfl
 f4:=⟨Tryz.f99.name,by decide,Tryz.func99.trans (congrArg some (by kernel_rfl))⟩
 t0:=Tryz.underlying0
 a0:=Tryz.isAgg0
 z0:=Tryz.sizeOf0
 v0:=Tryz.zeroValue0
 t3:=Tryz.underlying3
 a3:=Tryz.isAgg3
 z3:=Tryz.sizeOf3
 v3:=Tryz.zeroValue3
 t4:=Tryz.underlying4
 a4:=Tryz.isAgg4
 z4:=Tryz.sizeOf4
 v4:=Tryz.zeroValue4
 t9:=Tryz.underlying9
 a9:=Tryz.isAgg9
 z9:=Tryz.sizeOf9
 v9:=Tryz.zeroValue9
 t20:=Tryz.underlying20
 a20:=Tryz.isAgg20
 z20:=Tryz.sizeOf20
 v20:=Tryz.zeroValue20
 t22:=Tryz.underlying49
 a22:=Tryz.isAgg49
 z22:=Tryz.sizeOf49
 v22:=Tryz.zeroValue49 }
end Go.Proofs
namespace Go.Proofs.YtadjhpbkknifeaaGreatDoor
open Go.RowKit Go.Ab Go.Sh Go.Proofs
theorem Tryz.mo:Tryz.prog.follows .mixedOrders=true:=by kernel_rfl
theorem named {s:String} (h:(Tryz.prog.globalNamed s).isSome=true):Tryz.prog.globalNamed s≠none:=fun e=>by rw [e] at h;cases h
theorem p6 (n:Int) (r:ai) (H:gm n=some r):bF Tryz.prog 94 [.int .i64 n] (.str r):=Gx Tryz.laysM171 (named (by kernel_rfl)) n r H
theorem nt (s:ai) (r:Int×Bool) (H:kD s=some r):bF Tryz.prog 92 [.str s] (.tup [.int .i64 r.1,lQ (Tryz.laysC172_ren.t 168) r.2]):=E8 Tryz.laysC172 (named (by kernel_rfl)) (named (by kernel_rfl)) s r H
theorem uW (xs:List ai) (sep:ai) (r:ai) (H:jq xs sep=some r):bF Tryz.prog 83 [.dslice (xs.map cA),.str sep] (.str r):=Gd Tryz.lays156 Tryz.Builder_Extra_156 xs sep r H
theorem AR (s sep:ai) (r:List ai) (H:oX s sep=some r):bF Tryz.prog 91 [.str s,.str sep] (.dslice (r.map cA)):=Em Tryz.lays146 (by kernel_rfl) (by kernel_rfl) s sep r H
theorem BO (xs r:List ai) (H:oc xs=some r):bD Tryz.prog 69 [.rslice 1000] [(1000,.row 9 1 (xs.map cA))] (fun v h=>v = .tup []∧h=[(1000,.row 9 1 (r.map cA))]):=BQ Tryz.lays190 xs r H
end Go.Proofs.YtadjhpbkknifeaaGreatDoor
namespace Go.Ab
open Go.RowKit Go.Sh Go.Proofs
section
variable {P:Program} {ρ:Go.Shelf.Ren}
theorem G.intQ_inv {w:World} {X:Nat→Prop} {β:Nat→Nat} {κ:Nat→Nat×Nat} {k:IntKind} {n:Int} {V:Value} (h:G w X β κ (.int k n) V):V = .int k n:=by
 cases h with
 | d h=>exact h.int_inv
theorem zS (L:Lays8.n4 P ρ):bD P (ρ.f 4) [.eslice,.int .i64 0] [] (fun r _=>r = .eslice):=by intro c vs hl hr hg;have h0:G c.W (c.XX [] c.β) c.β c.κ .eslice (vs.getD 0 undef):=hg 0 (by simp);have h1:G c.W (c.XX [] c.β) c.β c.κ (.int .i64 0) (vs.getD 1 undef):=hg 1 (by simp);obtain ⟨ad,e0⟩:=h0.eslice_inv;rw [HD (vs:=vs) (by simpa using hl),e0,h1.intQ_inv];refine (Any8.slices_Grow_room L ad 0 0 0 c.W (Nat.le_refl _) (by omega) (by omega) (by omega)).mono fun e w' ⟨e2,e3⟩ => ?_;subst e3;exact ⟨_,.eslice,[],c.β,c.κ,e2,rfl,hr,.d (.eslice _)⟩
theorem Cm (L:Lays8.n4 P ρ) {sz by_:Nat} (he:dZ P (ρ.t 22)=some (ρ.t 25,sz,by_)) (n:Nat) (h0:0<n) (hb:n*by_≤140737488355328) (h63:n≤4611686018427387904) :
 bD P (ρ.f 4) [.eslice,.int .i64 (n:Int)] [] (fun v h=>v = .gslice 0∧h=[(0,.room (ρ.t 25) sz)]):=by
 obtain ⟨hu,i,z,hi,hz,rfl,rfl,hzs,hsz⟩:=fB he;intro c vs hl hr hg;have g0:G c.W (c.XX [] c.β) c.β c.κ .eslice (vs.getD 0 undef):=hg 0 (by simp);have g1:G c.W (c.XX [] c.β) c.β c.κ (.int .i64 (n:Int)) (vs.getD 1 undef):=hg 1 (by simp);obtain ⟨ad,e0⟩:=g0.eslice_inv;rw [HD (vs:=vs) (by simpa using hl),e0,g1.intQ_inv];refine (Any8.slices_Grow_grow L i z hi hz hsz ad 0 0 n [] c.W (Nat.le_refl _) (by omega) (by simpa using hb) (by omega) (by simp) (fun _=>rfl) (fun a _ j v hj=>by simp at hj)).mono fun e w' ⟨e2,e3⟩ => ?_;obtain ⟨C,hC⟩:∃ C,C=grownCap c.W (0+n) 0 (ρ.t 25):=⟨_,rfl⟩;have hCn:0+n≤C:=by rw [hC];exact grownCap_ge c.W _ _ _
 have hCm:C≤maxLen:=by rw [hC];exact grownCap_le_maxLen c.W _ _ _ (by unfold maxLen;omega)
 rw [← hC] at e2 e3;obtain ⟨arr,harr⟩:∃ arr,arr=(([]:List Value).toArray++Builtin.zeroCells z.cells (0+n-0)++Builtin.zeroCells z.cells (C-(0+n))):=⟨_,rfl⟩;rw [← harr] at e3;have hasz:arr.size=C*i.size:=by rw [harr];simp only [Array.size_append,List.size_toArray,List.length_nil,size_zeroCells,hzs,Nat.zero_add,Nat.sub_zero,← Nat.add_mul];congr 1;omega
 subst e3;have hr':=hr.drew;have hnew:(c.W.drew.alloc (.cells arr (ρ.t 25))).heap[c.W.heap.size]? = some (.cells arr (ρ.t 25) (0,0)):=fy c.W.drew _;obtain ⟨r1,_⟩:=hr'.anew (w':=c.W.drew.alloc (.cells arr (ρ.t 25))) (k:=0) (by decide) (fun j _=>rfl) c.W.heap.size (C,0) (Nat.le_refl _) (fun b hb2=>dV c.W.drew _ hb2) (dU _ c.W.drew _ c.hK) (o:=.room (ρ.t 25) i.size)
  ⟨arr,by rw [ak];exact hnew,by rw [ak];exact hasz,by rw [ak];exact hCm,hsz⟩
 refine ⟨_,.gslice 0,[(0,.room (ρ.t 25) i.size)],upd c.β 0 c.W.heap.size,upd c.κ 0 (C,0),e2,⟨rfl,rfl⟩,r1,?_⟩;have:=G.gslice (w:=c.W.drew.alloc (.cells arr (ρ.t 25))) (X:=c.XX [(0,.room (ρ.t 25) i.size)] (upd c.β 0 c.W.heap.size)) (β:=upd c.β 0 c.W.heap.size) (κ:=upd c.κ 0 (C,0)) 0;rw [ak,ak] at this;exact this
end
section
variable {P:Program} {Q:Exit→AS→Prop} {c:Code} {fs:List Fr}
theorem yc {ι:Type} (S:ι→AS) (hc:vP c=true) (φ:ι→Prop) (μ:ι→Nat) (i₀:ι) (h₀:φ i₀)
 (round:∀ i,φ i→∃ T,(T=dead∨∃ j,φ j∧μ j<μ i∧T=S j)∧dL P (kG c) (cg P (.bar T::fs) Q) (S i)):dL P c (cg P fs Q) (S i₀):=by
 rw [oO hc];exact rZ S φ μ i₀ h₀ round
end
def tL {α:Type} (c:α→List AV) (x:List α):List AV:=[.dslice (x.map c)]
theorem IE {α:Type} (d:α):∀ (l:List α) (i:Nat),i<l.length→l.take (i+1)=l.take i++[l.getD i d]
 | [],i,h=>by simp at h
 | x::l,0,_=>rfl
 | x::l,i+1,h=>by rw [List.take_succ_cons,IE d l i (by simpa using h),List.take_succ_cons];rfl
theorem ED {α:Type} (ls:List (List α)) (i:Nat) (h:i<ls.length):(ls.take (i+1)).flatten=(ls.take i).flatten++ls.getD i []:=by rw [IE [] ls i h];simp
theorem HK {α:Type} (ls:List (List α)) (i:Nat):(ls.take i).flatten.length≤ls.flatten.length:=by
 have:ls.flatten=(ls.take i).flatten++(ls.drop i).flatten:=by rw [← List.flatten_append,List.take_append_drop]
 rw [this,List.length_append];omega
end Go.Ab
namespace Go.Proofs.YtadjhpbkknifeaaGreatDoor
open Go.RowKit Go.Ab Go.Sh Go.Proofs
def gC {α:Type} (ls:List (List α)):Option (List α):=bR (ls.flatten.length*16≤140737488355328∧ls.length≤1000000) <| some ls.flatten
section
variable {α:Type} (c:α→List AV) (ls:List (List α))
def mD:AV:=.dslice (ls.map (tL c))
def uf (t i:Nat):AS:=⟨36,[(0,mD c ls),(2,.eslice),(3,.int .i64 ((t:Nat):Int)),(9,mD c ls),(10,.int .i64 ((ls.length:Nat):Int)),(11,.int .i64 ((i:Nat):Int))],[]⟩
def CV (t:Nat):AS:=⟨36,[(0,mD c ls),(2,.eslice),(3,.int .i64 ((t:Nat):Int))],[]⟩
def qa (a:List α) (i:Nat):AS:=⟨36,[(2,.eslice),(6,.rslice 33),(25,mD c ls),(26,.int .i64 ((ls.length:Nat):Int)),(27,.int .i64 ((i:Nat):Int))],[(33,.row 9 1 (a.map c))]⟩
def G1 (i:Nat):AS:=⟨36,[(2,.eslice),(6,.gslice 24),(25,mD c ls),(26,.int .i64 ((ls.length:Nat):Int)),(27,.int .i64 ((i:Nat):Int))],[(24,.room 9 1)]⟩
def yv (a:List α) (i:Nat):AS:=match a with
 | []=>G1 c ls i
 | x::xs=>qa c ls (x::xs) i
def tV (a:List α):AS:=⟨36,[(2,.eslice),(6,.rslice 33)],[(33,.row 9 1 (a.map c))]⟩
theorem wL (hc:∀ x,(c x).length=1∧(c x).all (fun v=>v.one&&v.fl)=true) (r:List α) (H:gC ls=some r):bF Tryz.prog 65 [mD c ls] (.dslice (r.map c)):=by
 unfold gC at H;refine aR H fun hn H => ?_;obtain ⟨hb,hN⟩:=hn;refine cC H fun e => ?_;subst e;have hle:∀ i,(ls.take i).flatten.length≤ls.flatten.length:=HK ls;have hstep:∀ i,i<ls.length→(ls.take (i+1)).flatten=(ls.take i).flatten++ls.getD i []:=ED ls;have hall:(ls.take ls.length).flatten=ls.flatten:=by rw [List.take_length]
 have hix:∀ i,i<ls.length→br [((0:Int)≤(i:Int)∧(i:Int)<((ls.map (tL c)).length:Int))∧(((ls.map (tL c)).getD (i:Int).toNat []).length=1∧0<1),AV.dptr ((ls.map (tL c)).getD (i:Int).toNat []) = .dptr (tL c (ls.getD i []))]:=fun i hi=>ix (f:=tL c) (l:=ls) (n:=i) [] (fun _=>rfl) (by decide) hi;have i64:∀ i,i<ls.length→wV (((i:Nat):Int)+1):=fun i hi=>by unfold wV;omega
 have c0:∀ i,i<ls.length→AV.bool (decide (((i:Nat):Int)<((ls.length:Nat):Int))) = .bool true:=fun i hi=>congrArg AV.bool (KO (by omega));have c1:AV.bool (decide (((ls.length:Nat):Int)<((ls.length:Nat):Int))) = .bool false:=congrArg AV.bool (KN (by omega));have hcap:∀ (a:List α) i,i<ls.length→a=(ls.take i).flatten→(a.length+(ls.getD i []).length)*16≤140737488355328:=fun a i hi ha=>by have h2:=hle (i+1);rw [hstep i hi,List.length_append,← ha] at h2;exact Nat.le_trans (Nat.mul_le_mul_right _ h2) hb
 refine GC Tryz.func65 36 [.tmp 2] (by kernel_rfl) (by kernel_rfl) ?_;refine Ho Tryz.mo 8 [.rg 0 [] [.v],.rg 0 [] [.v],.rg 0 [] [.v,.e (.int .i64 ((ls.length:Nat):Int)),.v]] [.only [0,2,3,9,10,11] []] 8 [] (uf c ls 0 0) (all_cons trivial (all_cons (aV (tL c) ls) all_nil)) (by kernel_rfl) ?_;refine cQ 1 (CV c ls ls.flatten.length) (by kernel_rfl) ?_ ?_
 ·refine yc (ι:=Nat×Nat) (fun x=>uf c ls x.2 x.1) (by kernel_rfl) (fun x=>x.1≤ls.length∧x.2=(ls.take x.1).flatten.length) (fun x=>ls.length-x.1) (0,0) ⟨Nat.zero_le _,by simp⟩ ?_;rintro ⟨i,t⟩ ⟨hi,ht⟩;simp only at hi ht;by_cases hN:i=ls.length
  ·subst hN;rw [hall] at ht;subst ht;exact ⟨dead,.inl rfl,re Tryz.mo 5 [.rg 0 [] [.e (.bool false)]] [.only [0,2,3] []] (CV c ls ls.flatten.length) (all_cons c1 all_nil) (by kernel_rfl)⟩
  ·have hlt:i<ls.length:=by omega
   have ht2:t+(ls.getD i []).length=(ls.take (i+1)).flatten.length:=by rw [hstep i hlt,List.length_append,ht]
   have hle2:=hle (i+1);have c2:decide ((((t+(ls.getD i []).length:Nat)):Int)<0)=false:=KN (by omega);refine ⟨uf c ls (t+(ls.getD i []).length) (i+1),.inr ⟨(i+1,t+(ls.getD i []).length),⟨hlt,ht2⟩,by show ls.length-(i+1)<ls.length-i;omega,rfl⟩,?_⟩;exact re Tryz.mo 16 [.rg 0 [] [.e (.bool true)],.rg 0 [] [.e (.dptr (tL c (ls.getD i []))),.v,.v],.rg 0 [] [.v,.v,.e (.int .i64 (((ls.getD i []).length:Nat):Int)),.e (.int .i64 ((t+(ls.getD i []).length:Nat):Int)),.v],.rg 0 [] [.v,.e (.bool false)],.rg 0 [] [.v,.v]] [.only [0,2,3,9,10,11] []] (uf c ls (t+(ls.getD i []).length) (i+1))
    (all_cons (c0 i hlt) (aJ (hix i hlt) (all_cons trivial (all_cons (aV c (ls.getD i [])) (all_cons (show wV (((t:Nat):Int)+(((ls.getD i []).length:Nat):Int)) from by unfold wV;omega) (all_cons (congrArg (AV.int .i64) (Int.natCast_add t (ls.getD i []).length).symm) (all_cons (congrArg (AV.bool) c2) (all_cons (i64 i hlt) all_nil)))))))) (by kernel_rfl)
 ·by_cases h0:ls.flatten.length=0
  ·
   rw [h0];refine Ho Tryz.mo 8 [.rg 0 [] [.v,.c true .eslice,.v],.rg 0 [] [.v,.e (.int .i64 ((ls.length:Nat):Int)),.v]] [.er 6 33 9 1,.only [2,6,25,26,27] [33]] 6 [] (qa c ls [] 0) (all_cons Tryz.call99 (all_cons (zS Tryz.lays8_249) (all_cons trivial (all_cons (aV (tL c) ls) all_nil)))) (by kernel_rfl) ?_;refine cQ 1 (tV c ls.flatten) (by kernel_rfl) ?_ ?_
   ·refine yc (ι:=Nat×List α) (fun x=>qa c ls x.2 x.1) (by kernel_rfl) (fun x=>x.1≤ls.length∧x.2=(ls.take x.1).flatten) (fun x=>ls.length-x.1) (0,[]) ⟨Nat.zero_le _,by simp⟩ ?_;rintro ⟨i,a⟩ ⟨hi,ha⟩;simp only at hi ha;by_cases hN:i=ls.length
    ·subst hN;rw [hall] at ha;subst ha;exact ⟨dead,.inl rfl,re Tryz.mo 5 [.rg 0 [] [.e (.bool false)]] [.only [2,6] [33]] (tV c ls.flatten) (all_cons c1 all_nil) (by kernel_rfl)⟩
    ·have hlt:i<ls.length:=by omega
     refine ⟨qa c ls (a++ls.getD i []) (i+1),.inr ⟨(i+1,a++ls.getD i []),⟨hlt,by simp only [hstep i hlt,← ha]⟩,by show ls.length-(i+1)<ls.length-i;omega,rfl⟩,?_⟩;exact re Tryz.mo 16 [.rg 0 [] [.e (.bool true)],.rg 0 [] [.e (.dptr (tL c (ls.getD i []))),.v,.v],.rg 0 [] [.v,.v,.ap,.rwH 33 (.row 9 1 ((a++ls.getD i []).map c)),.v],.rg 0 [] [.v,.v]] [.only [2,6,25,26,27] [33]] (qa c ls (a++ls.getD i []) (i+1))
      (all_cons (c0 i hlt) (aJ (hix i hlt) (aJ (qw (c:=c) hc a (ls.getD i []) 16 (by decide) (hcap a i hlt ha)) (all_cons (rO 9 1 c a (ls.getD i [])) (all_cons (i64 i hlt) all_nil))))) (by kernel_rfl)
   ·exact Fm Tryz.mo 3 [.rg 0 [] [.v,.v]] [.fz 33] [] all_nil (by kernel_rfl)
  ·have hgrow:=Cm Tryz.lays8_249 (sz:=1) (by_:=16) (by kernel_rfl) ls.flatten.length (by omega) hb (by omega);refine Ho Tryz.mo 8 [.rg 0 [] [.v,.hR [] 24 (.gslice 0) [(0,.room 9 1)],.v],.rg 0 [] [.v,.e (.int .i64 ((ls.length:Nat):Int)),.v]] [.only [2,6,25,26,27] [24]] 6 [] (yv c ls [] 0) (all_cons Tryz.call99 (all_cons hgrow (all_cons trivial (all_cons (aV (tL c) ls) all_nil)))) (by kernel_rfl) ?_;refine cQ 1 (tV c ls.flatten) (by kernel_rfl) ?_ ?_
   ·refine yc (ι:=Nat×List α) (fun x=>yv c ls x.2 x.1) (by kernel_rfl) (fun x=>x.1≤ls.length∧x.2=(ls.take x.1).flatten) (fun x=>ls.length-x.1) (0,[]) ⟨Nat.zero_le _,by simp⟩ ?_;rintro ⟨i,a⟩ ⟨hi,ha⟩;simp only at hi ha;by_cases hN:i=ls.length
    ·subst hN;rw [hall] at ha;cases a with
     | nil=>rw [← ha] at h0;exact absurd rfl h0
     | cons a0 al =>
      rw [← ha];exact ⟨dead,.inl rfl,re Tryz.mo 5 [.rg 0 [] [.e (.bool false)]] [.only [2,6] [33]] (tV c (a0::al)) (all_cons c1 all_nil) (by kernel_rfl)⟩
    ·have hlt:i<ls.length:=by omega
     refine ⟨yv c ls (a++ls.getD i []) (i+1),.inr ⟨(i+1,a++ls.getD i []),⟨hlt,by simp only [hstep i hlt,← ha]⟩,by show ls.length-(i+1)<ls.length-i;omega,rfl⟩,?_⟩;have hk:=hcap a i hlt ha;have hx:=hix i hlt;cases a with
     | nil =>
      generalize ls.getD i []=y at hk hx;cases y with
      | nil =>
       exact re Tryz.mo 16 [.rg 0 [] [.e (.bool true)],.rg 0 [] [.e (.dptr [.dslice []]),.v,.v],.rg 0 [] [.v,.v,.apg,.v],.rg 0 [] [.v,.v]] [.only [2,6,25,26,27] [24]] (G1 c ls (i+1))
        (all_cons (c0 i hlt) (aJ hx (all_cons (i64 i hlt) all_nil))) (by kernel_rfl)
      | cons y0 ys =>
       exact re Tryz.mo 16 [.rg 0 [] [.e (.bool true)],.rg 0 [] [.e (.dptr [.dslice (c y0::ys.map c)]),.v,.v],.rg 0 [] [.v,.v,.apg,.v],.rg 0 [] [.v,.v]] [.only [2,6,25,26,27] [33]] (qa c ls (y0::ys) (i+1))
        (all_cons (c0 i hlt) (aJ hx (aJ (KD (c:=c) hc (y0::ys) 16 (by decide) (by simpa using hk)) (all_cons (i64 i hlt) all_nil)))) (by kernel_rfl)
     | cons a0 al =>
      exact re Tryz.mo 16 [.rg 0 [] [.e (.bool true)],.rg 0 [] [.e (.dptr (tL c (ls.getD i []))),.v,.v],.rg 0 [] [.v,.v,.ap,.rwH 33 (.row 9 1 (((a0::al)++ls.getD i []).map c)),.v],.rg 0 [] [.v,.v]] [.only [2,6,25,26,27] [33]] (qa c ls ((a0::al)++ls.getD i []) (i+1))
       (all_cons (c0 i hlt) (aJ hx (aJ (qw (c:=c) hc (a0::al) (ls.getD i []) 16 (by decide) hk) (all_cons (rO 9 1 c (a0::al) (ls.getD i [])) (all_cons (i64 i hlt) all_nil))))) (by kernel_rfl)
   ·exact Fm Tryz.mo 3 [.rg 0 [] [.v,.v]] [.fz 33] [] all_nil (by kernel_rfl)
end
end Go.Proofs.YtadjhpbkknifeaaGreatDoor
namespace Go.Proofs
open Go.Shelf
def Tryz.lays264_ren:Go.Shelf.Ren:=⟨fun | 264=>105 | n=>n,fun | 53=>112 | 46=>149 | n=>n,fun | n=>n⟩
theorem Tryz.lays264:Go.Proofs.Lays.n264 Tryz.prog Tryz.lays264_ren:={
 mixed:=by kernel_rfl
 f264:=Tryz.func105.trans (congrArg some (by kernel_rfl))
 t46:=Tryz.underlying149
 a46:=Tryz.isAgg149
 z46:=Tryz.sizeOf149
 v46:=Tryz.zeroValue149
 t53:=Tryz.underlying112
 a53:=Tryz.isAgg112
 z53:=Tryz.sizeOf112
 v53:=Tryz.zeroValue112 }
def Tryz.lays145_ren:Go.Shelf.Ren:=⟨fun | 145=>93 | 220=>124 | 219=>158 | 217=>149 | 225=>120 | 224=>119 | 267=>177 | 266=>170 | 314=>187 | n=>n,fun | 9=>9 | 4=>4 | 59=>137 | 3=>3 | 5=>5 | 46=>149 | 146=>227 | 51=>178 | n=>n,fun | 1=>0 | n=>n⟩
theorem Tryz.lays145:Go.Proofs.Lays.n145 Tryz.prog Tryz.lays145_ren:={
 mixed:=by kernel_rfl
 f145:=Tryz.func93.trans (congrArg some (by kernel_rfl))
 f217:=Tryz.func149.trans (congrArg some (by kernel_rfl))
 f219:=Tryz.func158.trans (congrArg some (by kernel_rfl))
 f220:=Tryz.func124.trans (congrArg some (by kernel_rfl))
 f224:=Tryz.func119.trans (congrArg some (by kernel_rfl))
 f225:=Tryz.func120.trans (congrArg some (by kernel_rfl))
 f266:=Tryz.func170.trans (congrArg some (by kernel_rfl))
 f267:=Tryz.func177.trans (congrArg some (by kernel_rfl))
 f314:=Tryz.func187.trans (congrArg some (by kernel_rfl))
 t3:=Tryz.underlying3
 a3:=Tryz.isAgg3
 z3:=Tryz.sizeOf3
 v3:=Tryz.zeroValue3
 t4:=Tryz.underlying4
 a4:=Tryz.isAgg4
 z4:=Tryz.sizeOf4
 v4:=Tryz.zeroValue4
 t5:=Tryz.underlying5
 a5:=Tryz.isAgg5
 z5:=Tryz.sizeOf5
 v5:=Tryz.zeroValue5
 t9:=Tryz.underlying9
 a9:=Tryz.isAgg9
 z9:=Tryz.sizeOf9
 v9:=Tryz.zeroValue9
 t46:=Tryz.underlying149
 a46:=Tryz.isAgg149
 z46:=Tryz.sizeOf149
 v46:=Tryz.zeroValue149
 t51:=Tryz.underlying178
 a51:=Tryz.isAgg178
 z51:=Tryz.sizeOf178
 v51:=Tryz.zeroValue178
 t59:=Tryz.underlying137
 a59:=Tryz.isAgg137
 z59:=Tryz.sizeOf137
 v59:=Tryz.zeroValue137
 t146:=Tryz.underlying227
 a146:=Tryz.isAgg227
 z146:=Tryz.sizeOf227
 v146:=Tryz.zeroValue227
 g1:=by kernel_rfl }
def Tryz.lays153_ren:Go.Shelf.Ren:=⟨fun | 153=>55 | 152=>87 | 226=>88 | 227=>89 | 228=>90 | 137=>117 | 119=>118 | 224=>119 | 225=>120 | 217=>149 | 266=>170 | n=>n,fun | 9=>9 | 3=>3 | 4=>4 | 5=>5 | 21=>21 | 117=>130 | 116=>129 | 0=>0 | 46=>149 | 124=>167 | n=>n,fun | n=>n⟩
theorem Tryz.lays153:Go.Proofs.Lays.n153 Tryz.prog Tryz.lays153_ren:={
 mixed:=by kernel_rfl
 f119:=Tryz.func118.trans (congrArg some (by kernel_rfl))
 f137:=Tryz.func117.trans (congrArg some (by kernel_rfl))
 f152:=Tryz.func87.trans (congrArg some (by kernel_rfl))
 f153:=Tryz.func55.trans (congrArg some (by kernel_rfl))
 f217:=Tryz.func149.trans (congrArg some (by kernel_rfl))
 f224:=Tryz.func119.trans (congrArg some (by kernel_rfl))
 f225:=Tryz.func120.trans (congrArg some (by kernel_rfl))
 f226:=Tryz.func88.trans (congrArg some (by kernel_rfl))
 f227:=Tryz.func89.trans (congrArg some (by kernel_rfl))
 f228:=Tryz.func90.trans (congrArg some (by kernel_rfl))
 f266:=Tryz.func170.trans (congrArg some (by kernel_rfl))
 t0:=Tryz.underlying0
 a0:=Tryz.isAgg0
 z0:=Tryz.sizeOf0
 v0:=Tryz.zeroValue0
 t3:=Tryz.underlying3
 a3:=Tryz.isAgg3
 z3:=Tryz.sizeOf3
 v3:=Tryz.zeroValue3
 t4:=Tryz.underlying4
 a4:=Tryz.isAgg4
 z4:=Tryz.sizeOf4
 v4:=Tryz.zeroValue4
 t5:=Tryz.underlying5
 a5:=Tryz.isAgg5
 z5:=Tryz.sizeOf5
 v5:=Tryz.zeroValue5
 t9:=Tryz.underlying9
 a9:=Tryz.isAgg9
 z9:=Tryz.sizeOf9
 v9:=Tryz.zeroValue9
 t21:=Tryz.underlying21
 a21:=Tryz.isAgg21
 z21:=Tryz.sizeOf21
 v21:=Tryz.zeroValue21
 t46:=Tryz.underlying149
 a46:=Tryz.isAgg149
 z46:=Tryz.sizeOf149
 v46:=Tryz.zeroValue149
 t116:=Tryz.underlying129
 a116:=Tryz.isAgg129
 z116:=Tryz.sizeOf129
 t117:=Tryz.underlying130
 a117:=Tryz.isAgg130
 z117:=Tryz.sizeOf130
 v117:=Tryz.zeroValue130
 t124:=Tryz.underlying167
 a124:=Tryz.isAgg167
 z124:=Tryz.sizeOf167
 v124:=Tryz.zeroValue167 }
def Tryz.lays194_ren:Go.Shelf.Ren:=⟨fun | 194=>70 | n=>n,fun | 31=>49 | 9=>9 | 3=>3 | 4=>4 | 0=>0 | n=>n,fun | n=>n⟩
theorem Tryz.lays194:Go.Proofs.Lays.n194 Tryz.prog Tryz.lays194_ren:={
 mixed:=by kernel_rfl
 f194:=Tryz.func70.trans (congrArg some (by kernel_rfl))
 t0:=Tryz.underlying0
 a0:=Tryz.isAgg0
 z0:=Tryz.sizeOf0
 v0:=Tryz.zeroValue0
 t3:=Tryz.underlying3
 a3:=Tryz.isAgg3
 z3:=Tryz.sizeOf3
 v3:=Tryz.zeroValue3
 t4:=Tryz.underlying4
 a4:=Tryz.isAgg4
 z4:=Tryz.sizeOf4
 v4:=Tryz.zeroValue4
 t9:=Tryz.underlying9
 a9:=Tryz.isAgg9
 z9:=Tryz.sizeOf9
 v9:=Tryz.zeroValue9
 t31:=Tryz.underlying49
 a31:=Tryz.isAgg49
 z31:=Tryz.sizeOf49
 v31:=Tryz.zeroValue49 }
end Go.Proofs
namespace Go.Proofs.YtadjhpbkknifeaaGreatDoor
open Go Go.Proofs Go.Shelf Go.RowKit Go.Lib
variable {P:Program} {ρ:Ren}
theorem ri {c:UInt8}:∀ {l:List UInt8},(∀ b∈l,b≠c)→Lib.indexByte l c = -1
 | [],_=>rfl
 | b::l,h=>by have ih:=ri (c:=c) (l:=l) fun x hx=>h x (by simp [hx]);have hb:(b==c)=false:=beq_eq_false_iff_ne.2 (h b (by simp));rw [Lib.indexByte,hb,ih];rfl
theorem HJ (s:ByteArray) (i:Nat) (h:i<s.size):s.get! i=s[i]'h:=get_at s i h
theorem Bn (s:ByteArray) (i k:Nat) (hk:1≤k) (hn:k<(Utf8.decode s i).2):i+k<s.size∧128≤(s.get! (i+k)).toNat:=by
 have key:∀ j,(decide (i+j<s.size)&&((s.get! (i+j)).toNat / 64==2))=true→i+j<s.size∧128≤(s.get! (i+j)).toNat:=fun j h=>by rw [KJ,decide_eq_true_eq,beq_iff_eq] at h;exact ⟨h.1,by omega⟩
 have c1:=key 1;have c2:=key 2;have c3:=key 3;revert hn;simp only [Utf8.decode];split
 ·intro hn;simp at hn;omega
 ·split
  ·rename_i h1;simp only [KJ] at h1;split
   ·intro hn;have hn:k<2:=hn;obtain rfl:k=1:=by omega
    exact c1 (by simpa using h1.2)
   ·intro hn;have hn:k<1:=hn;omega
  ·split
   ·rename_i h1;simp only [KJ] at h1;split
    ·intro hn;have hn:k<3:=hn;obtain rfl | rfl:k=1∨k=2:=by omega
     ·exact c1 (by simpa using h1.1.2)
     ·exact c2 (by simpa using h1.2)
    ·intro hn;have hn:k<1:=hn;omega
   ·split
    ·rename_i h1;simp only [KJ] at h1;split
     ·intro hn;have hn:k<4:=hn;obtain rfl | rfl | rfl:k=1∨k=2∨k=3:=by omega
      ·exact c1 (by simpa using h1.1.1.2)
      ·exact c2 (by simpa using h1.1.2)
      ·exact c3 (by simpa using h1.2)
     ·intro hn;have hn:k<1:=hn;omega
    ·intro hn;have hn:k<1:=hn;omega
theorem E9 (r:Int):Utf8.valid r=Lib.validRune r:=by
 unfold Utf8.valid Lib.validRune;by_cases h:(0≤r∧r<0xD800)∨(0xDFFF<r∧r≤0x10FFFF)
 ·rw [KO h];simp;omega
 ·rw [KN h];simp;omega
set_option maxHeartbeats 4000000 in
set_option maxRecDepth 1000000 in
theorem vC (L:Lays.n152 P ρ) (s:ByteArray) (r:Int) (w:World) (h0:128≤r) (hs:s.size<4294967281) (hac:∀ (j:Nat) b,s.data.toList[j]? = some b→b.toNat<128) :
 Calls P (ρ.f 152) #[.string s,.int .i32 r] w fun e w'=>e = .returned (.int .i64 (-1))∧Below w.heap.size w w':=by
 have HA:Aside (∀ (j:Nat) b,s.data.toList[j]? = some b→b.toNat<128):=hac;clear hac;have mixed:=L.mixed;have t0:=L.t0;have a0:=L.a0;have z0:=L.z0;have v0:=L.v0;have t3:=L.t3;have a3:=L.a3;have z3:=L.z3;have v3:=L.v3;have t4:=L.t4;have a4:=L.a4;have z4:=L.z4;have v4:=L.v4;have t5:=L.t5;have a5:=L.a5;have z5:=L.z5;have v5:=L.v5;have t9:=L.t9;have a9:=L.a9;have z9:=L.z9;have v9:=L.v9;have t21:=L.t21;have a21:=L.a21;have z21:=L.z21;have v21:=L.v21;have e137:∀ args w,(callFunc (ρ.f 137) args).run P w = .ok (.enter (ρ.f 137) args) w:=enters_of L.f137 (by kernel_rfl) rfl;have e119:∀ args w,(callFunc (ρ.f 119) args).run P w = .ok (.enter (ρ.f 119) args) w:=enters_of L.f119 (by kernel_rfl) rfl;have hlt:¬ r<128:=by omega
 by_cases he:r=65533
 ·subst he
  go_enter L.f152,Body.n152_ntmps ρ
  go_wp2
  go_loopg [5,6] s.size (fun g _ _ wx=>∃ i:Nat,i+g=s.size∧wx=w.iter s i)
  case atStart=>exact ⟨0,by omega,rfl⟩
  case round =>
   obtain ⟨i,hig,rfl⟩:=hrel;cases gk with
   | zero =>
    obtain rfl:i=s.size:=by omega
    have hnx:=run_next_end (P:=P) w s s.size
    go_wp2
    go_ret
    exact ⟨rfl,(Below.refl _ _).alloc (Nat.le_refl _) _⟩
   | succ g =>
    have hi:i<s.size:=by omega
    obtain ⟨x,hx⟩:∃ x:UInt8,s[i]'hi=x:=⟨_,rfl⟩;have hxl:s.data.toList[i]? = some x:=by rw [← hx];exact Lib.data_getElem? s i hi
    have hx128:x.toNat<128:=HA.out i x hxl;have hnx:=fun ty=>run_next_ascii (P:=P) w s i ty hi (by rw [hx];exact hx128);rw [hx] at hnx;clear hxl hx;have hne:((x.toNat:Int)==65533)=false:=beq_eq_false_iff_ne.2 (by omega)
    go_wp2
    go_roundg g
    case measure=>omega
    case rel=>exact ⟨i+1,by omega,rfl⟩
 ·have hne:(r==65533)=false:=beq_eq_false_iff_ne.2 he;cases hv:Lib.validRune r with
  | false =>
   go_enter L.f152,Body.n152_ntmps ρ
   go_wp2_with (go_at_fn (ρ.f 119);refine (Any.utf8_ValidRune { L with } _ _).mono ?_;rintro e w' ⟨rfl,hw⟩;rw [hw,hv])
   go_ret
   exact ⟨rfl,Below.refl _ _⟩
  | true =>
   obtain ⟨q0,q1,q2⟩:=encode_facts r (by rw [E9];exact hv) h0;obtain ⟨q,hq⟩:∃ q,Utf8.encode r=q:=⟨_,rfl⟩;rw [hq] at q0 q1 q2
   go_enter L.f152,Body.n152_ntmps ρ
   go_wp2_with (go_at_fn (ρ.f 119);refine (Any.utf8_ValidRune { L with } _ _).mono ?_;rintro e w' ⟨rfl,hw⟩;rw [hw,hv])
   obtain ⟨n,hn⟩:∃ n,q.size=n+1:=⟨q.size-1,by omega⟩;have hn1:((q.size:Int)-1)=(n:Int):=by omega
   have hnq:n<q.size:=by omega
   obtain ⟨y,hy⟩:∃ y:UInt8,q[n]'hnq=y:=⟨_,rfl⟩;have hyh:128≤y.toNat:=by
    have:=q2 (by omega);rw [← hy];have e:q.size-1=n:=by omega
    simp only [e] at this;exact this
   clear q2
   go_step3
   go_wp2
   try rw [hn1]
   by_cases hns:n<s.size
   ·obtain ⟨x,hx⟩:∃ x:UInt8,s[n]'hns=x:=⟨_,rfl⟩;have hxl:s.data.toList[n]? = some x:=by rw [← hx];exact Lib.data_getElem? s n hns
    have hx128:x.toNat<128:=HA.out n x hxl;clear hxl;have hxy:((x.toNat:Int)==(y.toNat:Int))=false:=beq_eq_false_iff_ne.2 (by omega);have hni:(n:Int)<(s.size:Int):=by omega
    refine wp_loop_once ?_
    go_wp2
    go_step3
    go_wp2
    go_region_o
    go_wp2
    have hw1:IntKind.i64.wrap ((n:Int)+1)=((n+1:Nat):Int):=by rw [IntKind.wrap_i64];omega
    have hle1:n+1≤s.size:=by omega
    have hle2:((n+1:Nat):Int)≤(s.size:Int):=by omega
    have hidx:Lib.indexByte (List.take (s.size-(n+1)) (List.drop (n+1) s.data.toList)) y = -1:=ri fun b hb e=>by subst e;obtain ⟨j,hj⟩:=List.mem_iff_getElem?.1 (List.mem_of_mem_drop (List.mem_of_mem_take hb));have:=HA.out j b hj;omega
    go_region_with_o (go_at_fn (ρ.f 137);refine (Any.strings_IndexByte { L with } _ _ _).mono ?_;rintro e w' ⟨rfl,hw⟩;rw [hw])
    all_goals
     go_wp2
     rw [Exit.noGoto_ret]
     go_wp2
     try rw [Exit.noGoto_ret]
     try go_wp2
     go_ret
     exact ⟨rfl,rfl,rfl,rfl,Nat.le_refl _,fun _ _=>rfl⟩
   ·have hni:¬ (n:Int)<(s.size:Int):=by omega
    refine wp_loop_once ?_
    go_wp2
    go_ret
    exact ⟨rfl,Below.refl _ _⟩
end Go.Proofs.YtadjhpbkknifeaaGreatDoor
namespace Go.Proofs.YtadjhpbkknifeaaGreatDoor
open Go Go.Proofs Go.Shelf Go.RowKit Go.Lib
variable {P:Program} {ρ:Ren}
theorem Hn (wx:World) (k:Nat) (s:ByteArray) (i:Nat) (ty:TypeId) (hk:wx.heap[k]? = some (.stringIter s i)) (h:i<s.size) :
 (Instr.next (.pointer (some ⟨k,0,none⟩)) true ty).run P wx = .ok (.tuple #[.bool true,.int .i64 i,.int .i32 (Utf8.decode s i).1]) { wx with heap:=wx.heap.setIfInBounds k (.stringIter s (i+(Utf8.decode s i).2)) }:=by
 simp only [Instr.next,getObj,setObj,Sem.run_bind,Sem.run,hk,Result.andThen,h,if_true];simp [goInt]
theorem F8 (wx:World) (k:Nat) (s:ByteArray) (i:Nat) (ty:TypeId) (hk:wx.heap[k]? = some (.stringIter s i)) (h:¬ i<s.size) :
 (Instr.next (.pointer (some ⟨k,0,none⟩)) true ty).run P wx = .ok (.tuple #[.bool false]) wx:=by
 simp [Instr.next,getObj,Sem.run,hk,h]
theorem B5 {s:ByteArray} {chars:List UInt8} {i:Nat} (hno:Lib.NoAny s.data.toList chars i) (hi:i<s.size) (hc:∀ b∈chars,b.toNat<128) (hx:128≤(s[i]'hi).toNat) :
 i+(Utf8.decode s i).2≤s.size∧Lib.NoAny s.data.toList chars (i+(Utf8.decode s i).2):=by
 obtain ⟨_,h1⟩:=decode_high s i hi hx;have hcon:=Bn s i;generalize (Utf8.decode s i).2=n at h1 hcon;have hsz:i+n≤s.size:=by
  rcases Nat.lt_or_ge 1 n with h | h
  ·have:=(hcon (n-1) (by omega) (by omega)).1;omega
  ·omega
 refine ⟨hsz,fun j b hj hb => ?_⟩;by_cases hji:j<i
 ·exact hno j b hji hb
 ·have hbig:128≤b.toNat:=by
   have hjs:j<s.size:=by omega
   have e:b=s[j]'hjs:=by have:=Lib.data_getElem? s j hjs;rw [this] at hb;exact (KT hb).symm
   by_cases hj0:j=i
   ·subst hj0;rw [e];exact hx
   ·have:=(hcon (j-i) (by omega) (by omega)).2;have e2:i+(j-i)=j:=by omega
    rw [e2,HJ s j hjs] at this;rw [e];exact this
  cases hin:chars.contains b with
  | false=>rfl
  | true =>
   have:=hc b (by simpa using hin);omega
set_option maxHeartbeats 8000000 in
set_option maxRecDepth 1000000 in
theorem qh (L:Lays.n153 P ρ) (s chars:ByteArray) (w:World) (h2:2≤chars.size) (h8:s.size≤8) (hcs:chars.size<4294967281) (hac:∀ (j:Nat) b,chars.data.toList[j]? = some b→b.toNat<128) :
 Calls P (ρ.f 153) #[.string s,.string chars] w fun e w'=>e = .returned (.int .i64 (Lib.indexAny s.data.toList chars.data.toList))∧Below w.heap.size w w':=by
 have HC:Aside (∀ (j:Nat) b,chars.data.toList[j]? = some b→b.toNat<128):=hac;have HCm:Aside (∀ b∈chars.data.toList,b.toNat<128):=fun b hb=>by obtain ⟨j,hj⟩:=List.mem_iff_getElem?.1 hb;exact hac j b hj
 clear hac;have hemp:chars.toList.isEmpty=false:=by
  rw [Lib.toList_data];cases h:chars.data.toList with
  | nil=>have:=Lib.size_eq chars;rw [h,List.length_nil] at this;omega
  | cons _ _=>rfl
 have hn1:((chars.size:Int)==1)=false:=beq_eq_false_iff_ne.2 (by omega);have h8z:decide ((8:Int)<(s.size:Int))=false:=KN (by omega);have t3:=L.t3;have a3:=L.a3;have z3:=L.z3;have v3:=L.v3;have t4:=L.t4;have a4:=L.a4;have z4:=L.z4;have v4:=L.v4;have t5:=L.t5;have a5:=L.a5;have z5:=L.z5;have v5:=L.v5;have t9:=L.t9;have a9:=L.a9;have z9:=L.z9;have v9:=L.v9;have t21:=L.t21;have a21:=L.a21;have z21:=L.z21;have v21:=L.v21;have e152:∀ args w,(callFunc (ρ.f 152) args).run P w = .ok (.enter (ρ.f 152) args) w:=enters_of L.f152 (by kernel_rfl) rfl;have e226:∀ args w,(callFunc (ρ.f 226) args).run P w = .ok (.enter (ρ.f 226) args) w:=enters_of L.f226 (by kernel_rfl) rfl
 go_enter L.f153,Body.n153_ntmps ρ
 go_wp2_with (go_at_fn (ρ.f 226);refine (Any.strings_shouldUseASCIISet { L with } _ _).mono ?_;rintro e w' ⟨rfl,hw⟩;rw [hw,h8z])
 go_loopg [9,10] s.size (fun g _ _ wx=>∃ i:Nat,i+g=s.size∧wx.heap[w.heap.size]? = some (.stringIter s i)∧Below w.heap.size w wx∧Lib.NoAny s.data.toList chars.data.toList i)
 case atStart=>exact ⟨0,by omega,by rw [World.iter_heap],(Below.refl _ _).alloc (Nat.le_refl _) _,Lib.NoAny.zero _ _⟩
 case round =>
  obtain ⟨i,hig,hhp,hbl,hno⟩:=hrel;have HN:Aside (Lib.NoAny s.data.toList chars.data.toList i):=hno;have HB:Aside (Below w.heap.size w wr):=hbl;clear hno hbl;cases gk with
  | zero =>
   obtain rfl:i=s.size:=by omega
   have hnx:=fun ty=>F8 (P:=P) wr w.heap.size s s.size ty hhp (by omega)
   go_wp2
   go_ret
   exact ⟨by rw [Lib.indexAny_none (by rw [← Lib.size_eq];exact HN.out)];rfl,HB.out⟩
  | succ g =>
   have hi:i<s.size:=by omega
   obtain ⟨x,hx⟩:∃ x:UInt8,s[i]'hi=x:=⟨_,rfl⟩;have hxl:s.data.toList[i]? = some x:=by rw [← hx];exact Lib.data_getElem? s i hi
   have hnx:=fun ty=>Hn (P:=P) wr w.heap.size s i ty hhp hi;have hlt:w.heap.size<wr.heap.size:=(Array.getElem?_eq_some_iff.1 hhp).1;obtain ⟨c,hc⟩:∃ c,(Utf8.decode s i).1=c:=⟨_,rfl⟩;obtain ⟨n,hn⟩:∃ n,(Utf8.decode s i).2=n:=⟨_,rfl⟩;obtain ⟨wy,hwy⟩:∃ wy,({ wr with heap:=wr.heap.setIfInBounds w.heap.size (.stringIter s (i+(Utf8.decode s i).2)) }:World)=wy:=⟨_,rfl⟩;have HY:Aside (wy.heap[w.heap.size]? = some (.stringIter s (i+n))∧Below w.heap.size w wy∧w.heap.size<wy.heap.size):=by
    subst hwy;refine ⟨?_,HB.out.trans ⟨rfl,rfl,rfl,?_,fun k hk => ?_⟩,?_⟩
    ·show (wr.heap.setIfInBounds w.heap.size _)[w.heap.size]? = _;rw [Array.getElem?_setIfInBounds_self_of_lt hlt,hn]
    ·show wr.heap.size≤(wr.heap.setIfInBounds w.heap.size _).size;rw [Array.size_setIfInBounds];exact Nat.le_refl _
    ·show (wr.heap.setIfInBounds w.heap.size _)[k]? = _;rw [Array.getElem?_setIfInBounds_ne (by omega)]
    ·show w.heap.size<(wr.heap.setIfInBounds w.heap.size _).size;rw [Array.size_setIfInBounds];exact hlt
   rw [hwy,hc] at hnx;by_cases hx128:x.toNat<128
   ·have hd:=decode_ascii s i hi (by rw [hx];exact hx128);rw [hx] at hd;obtain rfl:c=x.toNat:=by rw [← hc,hd]
    obtain rfl:n=1:=by rw [← hn,hd]
    have Hx:Aside (s.data.toList[i]? = some x):=hxl;clear hxl hx hd hc hn hwy hhp;have hcon:=Lib.contains_iff_indexByte chars.data.toList x;have hback:((x.toNat:Int)).toNat.toUInt8=x:=by simp
    cases hin:chars.data.toList.contains x
    ·rw [hin] at hcon;have hlt:¬ ((0:Int)≤Lib.indexByte chars.data.toList x):=KL hcon.symm;clear hcon
     go_wp2_with (go_at_fn (ρ.f 152);refine (Any.strings_IndexRune_ascii { L with } _ _ _ (by omega) (by omega)).mono ?_;rintro e w' ⟨rfl,hw⟩;rw [hw,hback])
     go_roundg g
     case measure=>omega
     case rel=>exact ⟨i+1,by omega,HY.out.1,HY.out.2.1,HN.out.succ Hx.out hin⟩
    ·rw [hin] at hcon;have hge:(0:Int)≤Lib.indexByte chars.data.toList x:=KM hcon.symm;clear hcon
     go_wp2_with (go_at_fn (ρ.f 152);refine (Any.strings_IndexRune_ascii { L with } _ _ _ (by omega) (by omega)).mono ?_;rintro e w' ⟨rfl,hw⟩;rw [hw,hback])
     go_ret
     exact ⟨by rw [Lib.indexAny_hit HN.out Hx.out hin];rfl,HY.out.2.1⟩
   ·have hhi:128≤(s[i]'hi).toNat:=by rw [hx];omega
    obtain ⟨d1,d2⟩:=decode_high s i hi hhi;obtain ⟨d3,d4⟩:=B5 HN.out hi HCm.out hhi;rw [hc] at d1;rw [hn] at d2 d3 d4;have HN2:Aside (Lib.NoAny s.data.toList chars.data.toList (i+n)):=d4;clear hxl hx hc hn hwy hhp d4;have hcz:(128:Int)≤(c:Int):=by omega
    go_wp2_with (go_at_fn (ρ.f 152);refine (vC { L with } _ _ _ hcz hcs HC.out).mono ?_;rintro e w' ⟨rfl,hw⟩)
    go_roundg (s.size-(i+n))
    case measure=>omega
    case rel=>exact ⟨i+n,by omega,(hw.block _ HY.out.2.2).trans HY.out.1,HY.out.2.1.trans (hw.mono (Nat.le_of_lt HY.out.2.2)),HN2.out⟩
theorem xZ (L:Lays.n153 P ρ) (h116:(P.info? (ρ.t 116)).map (fun i=>(i.zero,i.size))=some (some (.agg (Array.replicate 256 (.bool false))),256)) (s chars:ByteArray) (w:World) (h2:2≤chars.size) (hs:s.size<4294967281) (hcs:chars.size<4294967281)
 (hac:∀ (j:Nat) b,chars.data.toList[j]? = some b→b.toNat<128) :
 Calls P (ρ.f 153) #[.string s,.string chars] w fun e w'=>e = .returned (.int .i64 (Lib.indexAny s.data.toList chars.data.toList))∧Below w.heap.size w w':=by
 by_cases h8:s.size≤8
 ·exact qh L s chars w h2 h8 hcs hac
 ·refine (Any.strings_IndexAny_long L (zero_of_info h116).1 (zero_of_info h116).2 s chars w h2 (by omega) hs hcs hac).mono fun e w' ⟨h1,h3⟩=>⟨h1,?_⟩;rw [h3];exact ((Below.refl _ _).alloc (Nat.le_refl _) _).alloc (by simp) _
end Go.Proofs.YtadjhpbkknifeaaGreatDoor
namespace Go.Proofs.YtadjhpbkknifeaaGreatDoor
open Go.RowKit Go.Ab Go.Sh Go.Proofs
def dO (x y c:Int):Option (Int×Int):=bR ((0≤x∧x<18446744073709551616)∧(0≤y∧y<18446744073709551616)∧0≤c∧c≤1) <| some ((x+y+c) % 18446744073709551616,(x+y+c) / 18446744073709551616)
def j8 (x y c:Int):Option (Int×Int):=bR ((0≤x∧x<18446744073709551616)∧(0≤y∧y<18446744073709551616)∧0≤c∧c≤1) <| some ((x-y-c) % 18446744073709551616,if x<y+c then 1 else 0)
def kc (x y:Int):Option (Int×Int):=bR ((0≤x∧x<18446744073709551616)∧(0≤y∧y<18446744073709551616)) <| some (x*y / 18446744073709551616,x*y % 18446744073709551616)
theorem gA (x y c:Int) (r:Int×Int) (H:dO x y c=some r) (w:World):(callFunc 107 [.int .u64 x,.int .u64 y,.int .u64 c].toArray).run Tryz.prog w = .ok (.value (.tuple [.int .u64 r.1,.int .u64 r.2].toArray)) w:=by refine aR H fun g H => ?_;refine cC H fun e => ?_;subst e;obtain ⟨⟨a1,a2⟩,⟨b1,b2⟩,c1,c2⟩:=g;obtain ⟨X,rfl⟩:=Int.eq_ofNat_of_zero_le a1;obtain ⟨Y,rfl⟩:=Int.eq_ofNat_of_zero_le b1;obtain ⟨C,rfl⟩:=Int.eq_ofNat_of_zero_le c1;show (callFunc 107 #[.int .u64 X,.int .u64 Y,.int .u64 C]).run Tryz.prog w=_;rw [run_callFunc_extern Tryz.func107 (by kernel_rfl) (by kernel_rfl) (by kernel_rfl) (e:=add64Entry) (by kernel_rfl),run_add64 X Y C (by omega) (by omega) (by omega) (by omega)];rfl
theorem oW (x y c:Int) (r:Int×Int) (H:j8 x y c=some r) (w:World):(callFunc 109 [.int .u64 x,.int .u64 y,.int .u64 c].toArray).run Tryz.prog w = .ok (.value (.tuple [.int .u64 r.1,.int .u64 r.2].toArray)) w:=by
 refine aR H fun g H => ?_;refine cC H fun e => ?_;subst e;obtain ⟨⟨a1,a2⟩,⟨b1,b2⟩,c1,c2⟩:=g;obtain ⟨X,rfl⟩:=Int.eq_ofNat_of_zero_le a1;obtain ⟨Y,rfl⟩:=Int.eq_ofNat_of_zero_le b1;obtain ⟨C,rfl⟩:=Int.eq_ofNat_of_zero_le c1;show (callFunc 109 #[.int .u64 X,.int .u64 Y,.int .u64 C]).run Tryz.prog w=_;rw [run_callFunc_extern Tryz.func109 (by kernel_rfl) (by kernel_rfl) (by kernel_rfl) (e:=sub64Entry) (by kernel_rfl),run_sub64 X Y C (by omega)];simp only [Result.andThen];have e1:(((X+18446744073709551616-Y-C) % 18446744073709551616:Nat):Int)=((X:Int)-Y-C) % 18446744073709551616:=by omega
 have e2:((if X<Y+C then 1 else 0:Nat):Int)=if (X:Int)<Y+C then 1 else 0:=by
  by_cases h:X<Y+C
  ·rw [if_pos h,if_pos (by omega)];rfl
  ·rw [if_neg h,if_neg (by omega)];rfl
 rw [e1,e2]
theorem n9 (x y:Int) (r:Int×Int) (H:kc x y=some r):bF Tryz.prog 105 [.int .u64 x,.int .u64 y] (.tup [.int .u64 r.1,.int .u64 r.2]):=by refine aR H fun g H => ?_;refine cC H fun e => ?_;subst e;obtain ⟨⟨a1,a2⟩,b1,b2⟩:=g;obtain ⟨X,rfl⟩:=Int.eq_ofNat_of_zero_le a1;obtain ⟨Y,rfl⟩:=Int.eq_ofNat_of_zero_le b1;refine nD rfl fun w Z vs hl _ hd gp => ?_;have h0:=(hd 0 (by simp)).int_inv;have h1:=(hd 1 (by simp)).int_inv;rw [HD (vs:=vs) (by simpa using hl),h0,h1];refine (Any.bits_Mul64 Tryz.lays264 X Y (by omega) (by omega) w).mono fun e w' ⟨e1,e2⟩ => ?_;exact ⟨_,e1,by rw [e2];exact .refl _ _,.pair (.int _ _) (.int _ _)⟩
def CX (s sep:ai):Option (ai×ai×Bool):=bR (s.length<4294967281) <| some (Lib.cut s sep)
theorem IY (s sep:ai):(Lib.cut s sep).1.length≤s.length∧(Lib.cut s sep).2.1.length≤s.length:=by
 unfold Lib.cut;repeat' split
 all_goals simp
 all_goals omega
theorem D.triple {w:World} {X:Nat→Prop} {a b c:AV} {A B C:Value} (ha:D w X a A) (hb:D w X b B) (hc:D w X c C):D w X (.tup [a,b,c]) (.tuple #[A,B,C]) :=
 .tup _ _ rfl fun i hi=>by
  match i,hi with
  | 0,_=>exact ha
  | 1,_=>exact hb
  | 2,_=>exact hc
theorem Eu (s sep:ai) (r:ai×ai×Bool) (H:CX s sep=some r):bF Tryz.prog 93 [.str s,.str sep] (.tup [.str r.1,.str r.2.1,.bool r.2.2]):=by refine aR H fun g H => ?_;refine cC H fun e => ?_;subst e;refine nD rfl fun w Z vs hl _ hd gp => ?_;have h0:=(hd 0 (by simp)).str_inv;have h1:=(hd 1 (by simp)).str_inv;rw [HD (vs:=vs) (by simpa using hl),h0.1,h1.1];obtain ⟨m,hm⟩:=gp.len _ (show Tryz.prog.globalNamed "internal/bytealg.MaxLen" = some (Tryz.lays145_ren.g 1) by kernel_rfl);refine (Any.strings_Cut Tryz.lays145 ⟨s.toArray⟩ ⟨sep.toArray⟩ m w (by simpa [ByteArray.size] using g) hm).mono fun e w' ⟨e1,n,e2⟩ => ?_;obtain ⟨l1,l2⟩:=IY s sep;refine ⟨_,e1,by rw [e2];exact ⟨rfl,rfl,rfl,Nat.le_refl _,fun _ _=>rfl⟩,?_⟩;simp only [List.toList_toArray];exact D.triple (.str _ (Nat.le_trans l1 h0.2)) (.str _ (Nat.le_trans l2 h0.2)) (.bool _)
def rL (s cs:ai):Option Int:=bR (s.length<4294967281∧cs.length<4294967281∧2≤cs.length∧(cs.all fun b=>decide (b.toNat<128))=true) <| some (Lib.indexAny s cs)
theorem FH {s:ai} (h:(s.all fun b=>decide (b.toNat<128))=true) (j:Nat) (b:UInt8) (hb:s[j]? = some b):b.toNat<128:=by have:=KU.1 h b (List.mem_of_getElem? hb);simpa using this
theorem uF (s cs:ai) (r:Int) (H:rL s cs=some r):bF Tryz.prog 55 [.str s,.str cs] (.int .i64 r):=by refine aR H fun g H => ?_;refine cC H fun e => ?_;subst e;obtain ⟨g1,g2,g3,g4⟩:=g;refine nD rfl fun w Z vs hl _ hd gp => ?_;have h0:=(hd 0 (by simp)).str_inv;have h1:=(hd 1 (by simp)).str_inv;rw [HD (vs:=vs) (by simpa using hl),h0.1,h1.1];refine (xZ Tryz.lays153 (by kernel_rfl) ⟨s.toArray⟩ ⟨cs.toArray⟩ w (by simpa [ByteArray.size] using g3) (by simpa [ByteArray.size] using g1) (by simpa [ByteArray.size] using g2) (fun j b hb=>FH g4 j b (by simpa using hb))).mono fun e w' ⟨e1,e2⟩ => ?_;exact ⟨_,e1,e2,.int _ _⟩
end Go.Proofs.YtadjhpbkknifeaaGreatDoor
namespace Go.Sh
open Go.Sort Go.Proofs
theorem eK:∀ x:ai,Op.bytesLess x x=false
 | []=>rfl
 | a::x=>by simp [Op.bytesLess,eK x]
theorem pz:∀ x y:ai,x<y↔Op.bytesLess x y=true
 | x,[]=>by simp [Op.bytesLess]
 | [],b::y=>by simp [Op.bytesLess]
 | a::x,b::y=>by rw [List.cons_lt_cons_iff,pz x y];simp only [Op.bytesLess,Bool.or_eq_true,KJ,decide_eq_true_eq,beq_iff_eq]
theorem qJ {x y z:ai} (h1:Op.bytesLess x y=true) (h2:Op.bytesLess y z=true):Op.bytesLess x z=true :=
 (pz x z).1 (List.lt_trans ((pz x y).2 h1) ((pz y z).2 h2))
theorem oF {x y:ai} (h:Op.bytesLess x y=true):Op.bytesLess y x=false:=by
 cases h2:Op.bytesLess y x with
 | false=>rfl
 | true=>have:=qJ h h2;rw [eK] at this;cases this
theorem p8 (x y:ai):Op.bytesLess x y=true∨x=y∨Op.bytesLess y x=true:=by
 rcases Bool.eq_false_or_eq_true (Op.bytesLess x y) with h | h
 ·exact .inl h
 ·rcases Bool.eq_false_or_eq_true (Op.bytesLess y x) with h' | h'
  ·exact .inr (.inr h')
  ·refine .inr (.inl ?_);have h1:¬ x<y:=fun e=>by rw [pz,h] at e;cases e
   have h2:¬ y<x:=fun e=>by rw [pz,h'] at e;cases e
   exact List.le_antisymm (List.not_lt.1 h2) (List.not_lt.1 h1)
def fN (x y:ai):Int:=if Op.bytesLess x y=true then -1 else if Op.bytesLess y x=true then 1 else 0
def cmpL:List ai→List ai→Int
 | [],[]=>0
 | [],_::_ => -1
 | _::_,[]=>1
 | x::xs,y::ys=>if fN x y≠0 then fN x y else cmpL xs ys
theorem pk (x:ai):fN x x=0:=by simp [fN,eK]
theorem iY {x y:ai}:fN x y<0↔Op.bytesLess x y=true:=by
 unfold fN;repeat' split
 all_goals simp_all
theorem nZ {x y:ai}:0<fN x y↔Op.bytesLess y x=true:=by
 unfold fN;split
 ·rename_i h;simp [oF h]
 ·split<;>simp_all
theorem mC {x y:ai}:fN x y=0↔x=y:=by
 constructor
 ·intro h;rcases p8 x y with h1 | h1 | h1
  ·have:=iY.2 h1;omega
  ·exact h1
  ·have:=nZ.2 h1;omega
 ·rintro rfl;exact pk x
theorem gJ:∀ xs:List ai,cmpL xs xs=0
 | []=>rfl
 | x::xs=>by simp [cmpL,pk,gJ xs]
theorem fX:∀ {xs ys:List ai},cmpL xs ys=0→xs=ys
 | [],[],_=>rfl
 | [],_::_,h=>by simp [cmpL] at h
 | _::_,[],h=>by simp [cmpL] at h
 | x::xs,y::ys,h=>by
  unfold cmpL at h;split at h
  ·rename_i h2;exact absurd h h2
  ·rename_i h2;have h2:fN x y=0:=by omega
   rw [mC.1 h2,fX h]
theorem fQ:∀ {xs ys:List ai},cmpL xs ys<0↔0<cmpL ys xs
 | [],[]=>by simp [cmpL]
 | [],_::_=>by simp [cmpL]
 | _::_,[]=>by simp [cmpL]
 | x::xs,y::ys=>by
  have h1:fN x y<0↔0<fN y x:=by rw [iY,nZ]
  have h2:0<fN x y↔fN y x<0:=by rw [iY,nZ]
  have h3 := @fQ xs ys;unfold cmpL;by_cases h:fN x y=0
  ·rw [if_neg (by omega),if_neg (by omega)];exact h3
  ·rw [if_pos (by omega),if_pos (by omega)];exact h1
theorem fF:∀ {xs ys zs:List ai},cmpL xs ys<0→cmpL ys zs<0→cmpL xs zs<0
 | [],[],_,h,_=>by simp [cmpL] at h
 | _::_,[],_,h,_=>by simp [cmpL] at h
 | _,_::_,[],_,h=>by simp [cmpL] at h
 | [],_::_,_::_,_,_=>by simp [cmpL]
 | x::xs,y::ys,z::zs,h1,h2=>by
  unfold cmpL at h1 h2 ⊢;by_cases e1:fN x y=0
  ·rw [if_neg (by omega)] at h1;have e1:=mC.1 e1;subst e1;by_cases e2:fN x z=0
   ·rw [if_neg (by omega)] at h2;rw [if_neg (by omega)];exact fF h1 h2
   ·rw [if_pos e2] at h2;rw [if_pos e2];exact h2
  ·rw [if_pos e1] at h1;by_cases e2:fN y z=0
   ·have e2:=mC.1 e2;subst e2;rw [if_pos e1];exact h1
   ·rw [if_pos e2] at h2;have h3:=iY.2 (qJ (iY.1 h1) (iY.1 h2));rw [if_pos (by omega)];exact h3
theorem zZ:SWO (ltOf cmpL) where
 irrefl x:=by simp [ltOf,gJ]
 trans x y z h1 h2:=by simp only [ltOf,decide_eq_true_eq] at *;exact fF h1 h2
 ntrans x y z h1 h2:=by
  simp only [ltOf,decide_eq_false_iff_not] at *;intro h3;by_cases e1:cmpL x y=0
  ·rw [fX e1] at h3;exact h2 h3
  ·by_cases e2:cmpL y z=0
   ·rw [← fX e2] at h3;exact h1 h3
   ·have a1:cmpL y x<0:=fQ.2 (by omega);have a2:cmpL z y<0:=fQ.2 (by omega);have a3:=fF a2 a1;have a4:=fQ.1 a3;omega
theorem Cq {xs ys:List ai} (h1:ltOf cmpL xs ys=false) (h2:ltOf cmpL ys xs=false):xs=ys:=by simp only [ltOf,decide_eq_false_iff_not] at *;refine fX ?_;have := @fQ ys xs;omega
theorem mL {xs ys:List ai}:∀ (k:Nat),(∀ i,i<k→xs.getD i []=ys.getD i [])→k≤xs.length→k≤ys.length→cmpL xs ys=cmpL (xs.drop k) (ys.drop k)
 | 0,_,_,_=>rfl
 | k+1,h,h1,h2=>by
  rw [mL k (fun i hi=>h i (by omega)) (by omega) (by omega)];have e1:xs.drop k=xs.getD k []::xs.drop (k+1):=by rw [KH,KI h1];exact List.drop_eq_getElem_cons h1
  have e2:ys.drop k=ys.getD k []::ys.drop (k+1):=by rw [KH,KI h2];exact List.drop_eq_getElem_cons h2
  rw [e1,e2,cmpL,h k (by omega),pk];simp
theorem drop_cons {xs:List ai} {k:Nat} (h:k<xs.length):xs.drop k=xs.getD k []::xs.drop (k+1):=by rw [KH,KI h];exact List.drop_eq_getElem_cons h
theorem uc {xs ys:List ai} {k:Nat} (hA:∀ i,i<k→xs.getD i []=ys.getD i []) (h1:k<xs.length) (h2:k<ys.length) (hz:fN (xs.getD k []) (ys.getD k [])≠0):cmpL xs ys=fN (xs.getD k []) (ys.getD k []):=by rw [mL k hA (by omega) (by omega),drop_cons h1,drop_cons h2,cmpL,if_pos hz]
theorem yl {xs ys:List ai} {k:Nat} (hA:∀ i,i<k→xs.getD i []=ys.getD i []) (h1:k<xs.length) (h2:k=ys.length):cmpL xs ys=1:=by rw [mL k hA (by omega) (by omega),drop_cons h1,List.drop_eq_nil_of_le (show ys.length≤k by omega),cmpL]
theorem yE {xs ys:List ai} {k:Nat} (hA:∀ i,i<k→xs.getD i []=ys.getD i []) (h1:k=xs.length) (h2:k<ys.length):cmpL xs ys = -1:=by rw [mL k hA (by omega) (by omega),drop_cons h2,List.drop_eq_nil_of_le (show xs.length≤k by omega),cmpL]
theorem cmpL_eq {xs ys:List ai} {k:Nat} (hA:∀ i,i<k→xs.getD i []=ys.getD i []) (h1:k=xs.length) (h2:k=ys.length):cmpL xs ys=0:=by rw [mL k hA (by omega) (by omega),List.drop_eq_nil_of_le (show xs.length≤k by omega),List.drop_eq_nil_of_le (show ys.length≤k by omega),cmpL]
end Go.Sh
namespace Go.Proofs.YtadjhpbkknifeaaGreatDoor
open Go.RowKit Go.Ab Go.Sh Go.Proofs Go.Shelf Go.Sort
theorem JE {x y:ai} (h:Op.bytesLess x y=true):fN x y = -1:=by simp [fN,h]
theorem Jb {x y:ai} (h:Op.bytesLess x y=false) (h2:(!x==y)=true):fN x y=1:=by
 have hne:x≠y:=by simpa using h2
 rcases p8 x y with h3 | h3 | h3
 ·rw [h] at h3;cases h3
 ·exact absurd h3 hne
 ·simp [fN,h,h3]
theorem JA {x y:ai} (h2:(!x==y)=false):fN x y=0:=by
 have:x=y:=by simpa using h2
 subst this;exact pk x
theorem Ix (x:ByteArray) (w:World):Calls Tryz.prog 126 #[.string x] w fun e w'=>e = .returned (.bool false)∧w'=w:=by
 go_enter Tryz.func126,Tryz.ntmps126
 go_wp2
 go_ret
 exact ⟨by simp,rfl⟩
set_option maxHeartbeats 1000000 in
theorem ES (x y:ByteArray) (w:World):Calls Tryz.prog 98 #[.string x,.string y] w fun e w'=>e = .returned (.int .i64 (fN x.toList y.toList))∧w'=w:=by
 go_enter Tryz.func98,Tryz.ntmps98
 go_wp2_with (go_at_call 126;refine (Ix _ _).mono ?_;rintro e w' ⟨rfl,hw⟩;rw [hw])
 all_goals (go_ret;refine ⟨congrArg (fun n:Int=>Ending.returned (.int .i64 n)) (?_:(_:Int)=fN x.toList y.toList),rfl⟩;first | exact (JE (by assumption)).symm | exact (Jb (by assumption) (by assumption)).symm | exact (JA (by assumption)).symm)
theorem EF (x y:ai) (w:World):Calls Tryz.prog 98 #[.string ⟨x.toArray⟩,.string ⟨y.toArray⟩] w fun e w'=>e = .returned (.int .i64 (fN x y))∧w'=w:=by
 have:=ES ⟨x.toArray⟩ ⟨y.toArray⟩ w
 rwa [toList_mk,toList_mk] at this
def kJ (w:World) (p:Option Addr) (xs:List ai):Prop:=∀ k,k<xs.length→∃ b o,p=some ⟨b,o,none⟩∧w.cell? ⟨b,o+k,none⟩=some (.string ⟨(xs.getD k []).toArray⟩)
set_option maxRecDepth 100000 in
set_option maxHeartbeats 2000000 in
theorem EI (xs ys:List ai) (n1 n2:Nat) (E:Aside (xs.length=n1∧ys.length=n2)) (p1 p2:Option Addr) (c1 c2:Nat) (w:World) (h1:Aside (kJ w p1 xs)) (h2:Aside (kJ w p2 ys)) (b1:n1≤9223372036854775807) (b2:n2≤9223372036854775807) :
 Calls Tryz.prog 62 #[.slice p1 n1 c1,.slice p2 n2 c2] w fun e w'=>e = .returned (.int .i64 (cmpL xs ys))∧w'=w:=by
 go_enter Tryz.func62,Tryz.ntmps62
 go_wp2
 go_loopg [11] n1 (fun g s11 wr=>∃ k:Nat,k≤n1∧n1-k≤g∧s11 = .int .i64 k∧wr=w∧k≤n2∧Aside (∀ i,i<k→xs.getD i []=ys.getD i []))
 case atStart=>exact ⟨0,Nat.zero_le _,by omega,rfl,rfl,Nat.zero_le _,(show Aside _ from fun i hi=>absurd hi (Nat.not_lt_zero _))⟩
 case round =>
  obtain ⟨k,hk,hg,rfl,rfl,hk2,hA⟩:=hrel;by_cases hlt:k<n1
  ·obtain ⟨b,o,rfl,hc1⟩:=h1.out k (by have:=E.out;omega);have hltz:(k:Int)<(n1:Int):=by omega
   by_cases hl2:k<n2
   ·obtain ⟨b',o',rfl,hc2⟩:=h2.out k (by have:=E.out;omega);have hlt2z:(k:Int)<(n2:Int):=by omega
    have hcs:=EF (xs.getD k []) (ys.getD k []) wr;clear h1 h2;generalize (⟨(xs.getD k []).toArray⟩:ByteArray)=bx at hc1 hcs;generalize (⟨(ys.getD k []).toArray⟩:ByteArray)=bz at hc2 hcs;generalize hr:fN (xs.getD k []) (ys.getD k [])=r at hcs;by_cases hz:r=0
    ·subst hz
     go_wp2_with (go_at_call 98;refine hcs.mono ?_;rintro e w' ⟨rfl,rfl⟩)
     go_roundg (n1-(k+1))
     case measure=>omega
     case rel=>exact ⟨k+1,by omega,by omega,by go_num,rfl,by omega,(show Aside _ from fun i hi=>by
      by_cases e:i=k
      ·subst e;exact mC.1 hr
      ·exact hA.out i (by omega))⟩
    ·have hc:=uc hA.out (by have:=E.out;omega) (by have:=E.out;omega) (by rw [hr];exact hz);rw [hr] at hc
     go_wp2_with (go_at_call 98;refine hcs.mono ?_;rintro e w' ⟨rfl,rfl⟩)
     go_ret
     exact ⟨by first | rfl | (rw [hc];rfl),rfl⟩
   ·have hc:=yl hA.out (by have:=E.out;omega) (by have:=E.out;omega);have hlt2z:¬ (k:Int)<(n2:Int):=by omega
    go_wp2
    go_ret
    exact ⟨by first | rfl | (rw [hc];rfl),rfl⟩
  ·have hltz:¬ (k:Int)<(n1:Int):=by omega
   by_cases hl2:k<n2
   ·have hc:=yE hA.out (by have:=E.out;omega) (by have:=E.out;omega);have hlt2z:(n1:Int)<(n2:Int):=by omega
    go_wp2
    go_ret
    exact ⟨by first | rfl | (rw [hc];rfl),rfl⟩
   ·have hc:=cmpL_eq hA.out (by have:=E.out;omega) (by have:=E.out;omega);have hlt2z:¬ (n1:Int)<(n2:Int):=by omega
    go_wp2
    go_ret
    exact ⟨by first | rfl | (rw [hc];rfl),rfl⟩
end Go.Proofs.YtadjhpbkknifeaaGreatDoor
namespace Go.Ab
open Go.RowKit Go.Sh Go.Proofs Go.Sort Go.Shelf
section
variable {P:Program} {α:Type}
def jU (cf:α→α→Int) (xs:List α):List α:=xs.mergeSort fun x y => !(ltOf cf y x)
theorem Ep (cf:α→α→Int) (xs:List α):(jU cf xs).length=xs.length:=List.length_mergeSort ..
theorem rp {β:Type} {cf:α→α→Int} (h:SWO (ltOf cf)) (f:β→α):SWO (ltOf fun x y=>cf (f x) (f y)) where
 irrefl x:=h.irrefl (f x)
 trans x y z:=h.trans (f x) (f y) (f z)
 ntrans x y z:=h.ntrans (f x) (f y) (f z)
theorem Dm (enc:α→List Value) (k:Nat) (w:World) (blk off m:Nat) (dk:Array α) (os:Array Obj) {b:Nat} (hb:b≠blk) (hlt:b<w.heap.size) [Inhabited α]:(sortWorldK enc k w blk off m dk os).heap[b]? = w.heap[b]? := by simp only [sortWorldK,grow,putRowK,putRow,mapBlock,Sort.ahead];rw [Array.getElem?_append_left (by simpa using hlt),Array.getElem?_modify,if_neg (Ne.symm hb)]
theorem I3 (enc:α→List Value) (k:Nat) (w:World) (blk off m:Nat) (dk:Array α) (os:Array Obj) {cur:Array Value} {e:TypeId} (h:w.heap[blk]? = some (.cells cur e (0,0))) [Inhabited α] :
 (sortWorldK enc k w blk off m dk os).heap[blk]? = some (.cells (putCells id off (flatK enc k dk) cur) e (0,0)):=by
 have hlt:blk<w.heap.size:=(Array.getElem?_eq_some_iff.1 h).1;simp only [sortWorldK,grow,putRowK,putRow,mapBlock,Sort.ahead];rw [Array.getElem?_append_left (by simpa using hlt),Array.getElem?_modify,if_pos rfl,h];rfl
theorem mT (e:TypeId) (sz:Nat) (zs:List (List AV)) (k:Nat):lk AO.gone [(1000,AO.row e sz zs)] k=if k=1000 then .row e sz zs else .gone:=by
 simp only [lk];by_cases e:k=1000
 ·subst e;simp
 ·rw [bN e];simp [e]
theorem mA {e:TypeId} {sz:Nat} {zs:List (List AV)} {k:Nat} (h:lv [(1000,AO.row e sz zs)] k):k=1000∧zs≠[]:=by
 rcases h with h | ⟨m,i,_,h⟩
 ·rw [mT] at h;by_cases e:k=1000
  ·subst e;rw [if_pos rfl] at h;exact ⟨rfl,h⟩
  ·rw [if_neg e] at h;exact h.elim
 ·rw [mT] at h;by_cases e:m=1000
  ·rw [if_pos e] at h;exact h.elim
  ·rw [if_neg e] at h;exact h.elim
set_option maxHeartbeats 1000000 in
theorem Ac {f:FuncId} {et:TypeId} {sz:Nat} (c:α→List AV) (hc:∀ x,(c x).length=sz) (h1c:∀ x,∀ v∈c x,v.one=true) (cf:α→α→Int) (hO:SWO (ltOf cf))
 (g:FuncId)
 (hS:∀ {β:Type} [Inhabited β] (enc:β→List Value),(∀ x,(enc x).length=sz)→(∀ x,∀ v∈enc x,v.oneCell'=true)→∀ (cf:β→β→Int),SWO (ltOf cf)→∀ (blk cap:Nat) (d:Array β) (w:World),CmpLays P g #[] enc sz cf blk 0 d.size w→HoldsK enc sz w blk 0 d→blk<w.heap.size→d.size<4611686018427387904 →
  Calls P f #[.slice (some ⟨blk,0,none⟩) d.size cap,.func (.func g) #[] #[]] w fun e w'=>e = .returned (.tuple #[])∧∃ d' n os,PermIn 0 d.size d d'∧SortedIn (ltOf cf) 0 d.size d'∧w'=sortWorldK enc sz w blk 0 n d' os)
 (hS0:∀ (ad:Option Addr) (w:World),Calls P f #[.slice ad 0 0,.func (.func g) #[] #[]] w fun e w'=>e = .returned (.tuple #[])∧w'=w)
 (hgc:∀ (W:World) (X:Nat→Prop) (x y:α) (A B:Array Value),D W X (.agg (c x)) (.agg A)→D W X (.agg (c y)) (.agg B)→Calls P g #[.agg A,.agg B] W fun e w'=>e = .returned (.int .i64 (cf x y))∧∃ q os',w'=grow (W.drewN q) os')
 (xs:List α) (hn:xs.length<4611686018427387904) (hnd:∀ i j (hi:i<xs.length) (hj:j<xs.length),ltOf cf xs[i] xs[j]=false→ltOf cf xs[j] xs[i]=false→i=j) :
 bD P f [.rslice 1000,.fn g []] [(1000,.row et sz (xs.map c))] (fun v h=>v = .tup []∧h=[(1000,.row et sz ((jU cf xs).map c))]):=by
 have hlen:(jU cf xs).length=xs.length:=Ep cf xs;intro cx vs hl hr hg;have hv:vs=[vs.getD 0 undef,vs.getD 1 undef]:=HD (by simpa using hl);have h0:G cx.W (cx.XX [(1000,.row et sz (xs.map c))] cx.β) cx.β cx.κ (.rslice 1000) (vs.getD 0 undef):=hg 0 (by simp);have h9:G cx.W (cx.XX [(1000,.row et sz (xs.map c))] cx.β) cx.β cx.κ (.fn g []) (vs.getD 1 undef):=hg 1 (by simp);obtain ⟨Vs,eV,hVl,_⟩:=h9.fn_inv;have eVs:Vs = #[]:=Array.size_eq_zero_iff.1 (by simpa using hVl.symm);subst eVs;have ho:HO cx.W (cx.XX [(1000,.row et sz (xs.map c))] cx.β) cx.β cx.κ 1000 (.row et sz (xs.map c)):=hr.ob 1000;have hk2:(cx.κ 1000).2=xs.length:=by simpa using ho.1
 rw [hv,eV];rcases h0.rslice_inv with ⟨hpos,hV⟩ | ⟨hz,ad,hV⟩
 ·have hne:xs≠[]:=by intro e;subst e;rw [hk2] at hpos;simp at hpos
  have hpos:0<xs.length:=List.length_pos_iff.2 hne;obtain ⟨cur,q1,q2,q3,q4,q5,q6,q7⟩:=ho.2 (by simpa using hne);simp only [KP] at q3 q7;have hblk:cx.β 1000<cx.W.heap.size:=(Array.getElem?_eq_some_iff.1 q1).1;have hcs:xs.length*sz≤cur.size:=by rw [q2];exact Nat.mul_le_mul_right _ q3
  have hXb:cx.XX [(1000,.row et sz (xs.map c))] cx.β (cx.β 1000):=.inr ⟨1000,.inl (by rw [mT,if_pos rfl];simpa [AO.live] using hne),rfl⟩
  letI:Inhabited (Fin xs.length):=⟨⟨0,hpos⟩⟩
  obtain ⟨enc,henc⟩:∃ enc:Fin xs.length→List Value,enc=fun i=>(List.range sz).map fun j=>cur.getD (i.1*sz+j) undef:=⟨_,rfl⟩;have hk:∀ x,(enc x).length=sz:=fun x=>by rw [henc];simp
  have hget:∀ x j,j<sz→(enc x)[j]! = cur.getD (x.1*sz+j) undef:=fun x j hj=>by rw [henc];simp [hj]
  have hgetD:∀ x j,j<sz→(enc x).getD j undef=cur.getD (x.1*sz+j) undef:=fun x j hj=>by rw [henc];simp [KH,hj]
  have hq7:∀ (x:Fin xs.length) j,j<sz→D cx.W (cx.XX [(1000,.row et sz (xs.map c))] cx.β) ((c xs[x.1]).getD j .any) ((enc x).getD j undef):=fun x j hj=>by
   have:=q7 x.1 j x.2 hj;rw [cK (d:=xs[x.1]) x.2] at this;rw [hgetD x j hj];have e:xs.getD x.1 xs[x.1]=xs[x.1]:=by simp [KH]
   rwa [e] at this
  obtain ⟨d,hd⟩:∃ d:Array (Fin xs.length),d=(List.finRange xs.length).toArray:=⟨_,rfl⟩;have hds:d.size=xs.length:=by rw [hd];simp
  have hdg:∀ i (h:i<xs.length),d[i]! = ⟨i,h⟩:=fun i h=>by rw [hd];simp [h]
  have hflat:∀ (dk:Array (Fin xs.length)) i j,i<dk.size→j<sz→(flatK enc sz dk)[i*sz+j]! = cur.getD (dk[i]!.1*sz+j) undef:=fun dk i j hi hj=>by
   have h2:(i+1)*sz≤dk.size*sz:=Nat.mul_le_mul_right _ hi;rw [Nat.add_mul] at h2;rw [get_flatK _ _ _ _ (by omega)];have e1:(i*sz+j) / sz=i:=by rw [Nat.mul_comm,Nat.mul_add_div q5,Nat.div_eq_of_lt hj];rfl
   have e2:(i*sz+j) % sz=j:=by rw [Nat.mul_comm,Nat.mul_add_mod,Nat.mod_eq_of_lt hj]
   rw [e1,e2,hget _ _ hj]
  have hH:HoldsK enc sz cx.W (cx.β 1000) 0 d:=by intro t ht;rw [size_flatK,hds] at ht;have h2:=Nat.div_add_mod t sz;have hj:t % sz<sz:=Nat.mod_lt _ q5;have hi:t / sz<xs.length:=Nat.div_lt_of_lt_mul (by rw [Nat.mul_comm];exact ht);refine ⟨?_,by simp [World.frozen?,q1]⟩;rw [Nat.zero_add,bc q1 (by omega)];have:=hflat d (t / sz) (t % sz) (by rw [hds];exact hi) hj;rw [hdg _ hi,show t / sz*sz+t % sz=t by rw [Nat.mul_comm];exact h2] at this;rw [this];rfl
  have hone:∀ x,∀ v∈enc x,v.oneCell'=true:=fun x v hv=>by
   obtain ⟨j,hj,e⟩:=List.getElem_of_mem hv;have hj':j<sz:=by rw [hk] at hj;exact hj
   have:=hq7 x j hj';have e2:(enc x).getD j undef=v:=by rw [KH,KI hj,e];rfl
   rw [e2] at this;refine this.one (h1c xs[x.1] _ ?_);rw [KH,KI (by rw [hc];exact hj')];exact List.getElem_mem _
  have hmono:∀ m dk os {v:AV} {V:Value},D cx.W (cx.XX [(1000,.row et sz (xs.map c))] cx.β) v V→D (sortWorldK enc sz cx.W (cx.β 1000) 0 m dk os) (cx.XX [(1000,.row et sz (xs.map c))] cx.β) v V:=fun m dk os v V h =>
   h.mono (fun b hb hlt=>Dm enc sz cx.W (cx.β 1000) 0 m dk os (fun e=>hb (e ▸ hXb)) hlt) (fun b hb _=>hb)
  have hcmp:CmpLays P g #[] enc sz (fun i j=>cf xs[i.1] xs[j.1]) (cx.β 1000) 0 d.size cx.W:=by
   intro m os dk _ x y;rw [Array.append_empty];refine hgc _ (cx.XX [(1000,.row et sz (xs.map c))] cx.β) _ _ _ _ ?_ ?_
   ·refine .agg _ _ (by simp [hc,hk]) fun j hj=>hmono m dk os ?_;rw [hc] at hj;simpa [KK,KH] using hq7 x j hj
   ·refine .agg _ _ (by simp [hc,hk]) fun j hj=>hmono m dk os ?_;rw [hc] at hj;simpa [KK,KH] using hq7 y j hj
  have hkey:=hS enc hk hone (fun i j=>cf xs[i.1] xs[j.1]) (rp hO fun i:Fin xs.length=>xs[i.1]) (cx.β 1000) (cx.κ 1000).1 d cx.W hcmp hH hblk (by omega);have hT:∀ x y:Fin xs.length,ltOf (fun i j:Fin xs.length=>cf xs[i.1] xs[j.1]) x y=false→ltOf (fun i j:Fin xs.length=>cf xs[i.1] xs[j.1]) y x=false→x=y:=fun x y h h'=>Fin.ext (hnd x.1 y.1 x.2 y.2 h h');rw [hds] at hkey;rw [hV,hk2];refine hkey.mono fun e w' ⟨e1,d',n',os,hp,hs,e2⟩ => ?_;have hu:=sorted_unique_holds (rp hO fun i:Fin xs.length=>xs[i.1]) hT d d' (by rw [hds];exact hp) (by rw [hds];exact hs);obtain ⟨ds,hds0⟩:∃ ds,ds=d'.toList:=⟨_,rfl⟩;have e3:d'=ds.toArray:=by rw [hds0]
  rw [e3] at e2;have hds2:ds=d.toList.mergeSort fun x y => !(ltOf (fun i j:Fin xs.length=>cf xs[i.1] xs[j.1])) y x:=by rw [hds0];exact hu
  have hdl:ds.length=xs.length:=by rw [hds2,List.length_mergeSort,Array.length_toList,hds]
  have hmap:ds.map (fun i:Fin xs.length=>xs[i.1]'i.2)=jU cf xs:=by have hm:=List.map_mergeSort (r:=fun x y => !(ltOf (fun i j:Fin xs.length=>cf (xs[i.1]'i.2) (xs[j.1]'j.2)) y x)) (s:=fun x y => !(ltOf cf y x)) (f:=fun i:Fin xs.length=>xs[i.1]'i.2) (l:=d.toList) (fun a _ b _=>rfl);rw [hds2,hm];unfold jU;congr 1;rw [hd];refine List.ext_getElem (by simp) fun i h1 h2=>by simp
  subst e2;have hblk2:=I3 enc sz cx.W (cx.β 1000) 0 n' ds.toArray os q1;obtain ⟨cur',hcur'⟩:∃ cur',cur'=putCells id 0 (flatK enc sz ds.toArray) cur:=⟨_,rfl⟩;rw [← hcur'] at hblk2;have hcs':cur'.size=cur.size:=by rw [hcur'];simp [putCells]
  have hnK:¬ cx.K (cx.β 1000):=hr.nk 1000 (.inl (by rw [mT,if_pos rfl];simpa [AO.live] using hne));have hX2:∀ b,¬ cx.XX [(1000,.row et sz (xs.map c))] cx.β b→¬ cx.XX [(1000,.row et sz ((jU cf xs).map c))] cx.β b:=by
   rintro b hb (hx | ⟨k,hk,rfl⟩)
   ·exact hb (.inl hx)
   ·obtain ⟨rfl,_⟩:=mA hk;exact hb hXb
  refine ⟨_,.tup [],[(1000,.row et sz ((jU cf xs).map c))],cx.β,cx.κ,e1,⟨rfl,rfl⟩,⟨fun k => ?_,fun i j hi hj _ => ?_,⟨rfl,rfl,rfl,?_,fun b hb=>Dm enc sz cx.W (cx.β 1000) 0 n' ds.toArray os (fun e=>hnK (e ▸ hb)) (cx.hK b hb)⟩,fun k hk => ?_,fun k hk => ?_,fun k hk _=>⟨rfl,rfl⟩,fun k hk => ?_⟩,.d (.tup _ _ rfl (fun i hi=>by simp at hi))⟩
  ·rw [mT];by_cases ek:k=1000
   ·subst ek;rw [if_pos rfl];refine ⟨by simp [hk2,hlen],fun _=>⟨cur',hblk2,by rw [hcs',q2],by simpa [hlen] using q3,q4,q5,fun i hi => ?_,fun i j hi hj => ?_⟩⟩
    ·have hi:i<(jU cf xs).length:=by simpa using hi
     rw [cK (d:=xs[0]) hi,hc]
    ·have hi:i<(jU cf xs).length:=by simpa using hi
     rw [cK (d:=xs[0]) hi];have hi':i<ds.length:=by omega
     have e3:(jU cf xs).getD i xs[0]=xs[ds[i].1]:=by rw [KH,← hmap];simp [hi']
     have e4:cur'.getD (i*sz+j) undef=cur.getD (ds[i].1*sz+j) undef:=by
      have h2:(i+1)*sz≤xs.length*sz:=Nat.mul_le_mul_right _ (by omega);rw [Nat.add_mul] at h2;have hlt:i*sz+j<cur.size:=by omega
      have h3:=hflat ds.toArray i j (by simpa using hi') hj;have h4:(ds.toArray[i]! : Fin xs.length)=ds[i]:=by simp [hi']
      rw [h4] at h3;rw [← h3,hcur'];simp [putCells,KK,hlt,hdl];omega
     rw [e3,e4,← hgetD _ _ hj];exact (hmono n' ds.toArray os (hq7 ds[i] j hj)).mono (fun _ _ _=>rfl) fun b hb _=>hX2 b hb
   ·rw [if_neg ek];trivial
  ·rw [(mA hi).1,(mA hj).1]
  ·simp [sortWorldK,putRowK,putRow,mapBlock,grow,Sort.ahead]
  ·obtain ⟨rfl,_⟩:=mA hk;exact hnK
  ·obtain ⟨rfl,_⟩:=mA hk;exact hr.nx 1000 (.inl (by rw [mT,if_pos rfl];simpa [AO.live] using hne))
  ·rw [mT] at hk;by_cases ek:k=1000
   ·omega
   ·rw [if_neg ek] at hk;exact absurd rfl hk
 ·have hx:xs=[]:=List.eq_nil_of_length_eq_zero (by omega);subst hx;rw [hV];refine (hS0 ad cx.W).mono fun e w' ⟨e1,e2⟩ => ?_;subst e2;exact ⟨_,.tup [],[(1000,.row et sz (([]:List α).map c))],cx.β,cx.κ,e1,⟨rfl,by simp [jU]⟩,hr,.d (.tup _ _ rfl (fun i hi=>by simp at hi))⟩
end
end Go.Ab
namespace Go.Proofs
open Go.Shelf
def Tryz.sortedZ_ren:Go.Shelf.Ren:=⟨fun | 6=>81 | 8=>111 | 9=>69 | 11=>138 | 13=>103 | 12=>102 | 23=>136 | 24=>137 | 14=>128 | 15=>129 | 16=>130 | 17=>131 | 18=>132 | 19=>133 | 20=>95 | 21=>134 | 22=>135 | 25=>160 | 26=>161 | 27=>162 | 28=>163 | 29=>164 | 30=>126 | 31=>182 | n=>n,fun | 26=>9 | 28=>122 | 24=>49 | 0=>0 | 3=>3 | 37=>149 | 48=>178 | 50=>112 | 4=>4 | 40=>171 | 39=>170 | 45=>175 | 5=>5 | 9=>9 | 51=>195 | 55=>199 | 57=>219 | 58=>220 | 33=>76 | n=>n,fun | n=>n⟩
theorem Tryz.sortedZ:Go.Proofs.SlLaysZ.n6 Tryz.prog Tryz.sortedZ_ren:={
 mixed:=by kernel_rfl
 f6:=⟨Tryz.f81.name,by decide,Tryz.func81.trans (congrArg some (by kernel_rfl))⟩
 f8:=⟨Tryz.f111.name,by decide,Tryz.func111.trans (congrArg some (by kernel_rfl))⟩
 f11:=⟨Tryz.f138.name,by decide,Tryz.func138.trans (congrArg some (by kernel_rfl))⟩
 t0:=Tryz.underlying0
 a0:=Tryz.isAgg0
 z0:=Tryz.sizeOf0
 v0:=Tryz.zeroValue0
 t24:=Tryz.underlying49
 a24:=Tryz.isAgg49
 z24:=Tryz.sizeOf49
 v24:=Tryz.zeroValue49
 t26:=Tryz.underlying9
 a26:=Tryz.isAgg9
 z26:=Tryz.sizeOf9
 v26:=Tryz.zeroValue9
 t28:=Tryz.underlying122
 a28:=Tryz.isAgg122
 z28:=Tryz.sizeOf122
 v28:=Tryz.zeroValue122
 i26:=by kernel_rfl }
def Tryz.pdqF_ren:Go.Shelf.Ren:=⟨fun | 14=>116 | 20=>141 | 21=>142 | 22=>143 | 23=>144 | 24=>145 | 25=>146 | 26=>147 | 27=>148 | 46=>167 | 47=>161 | 48=>162 | 49=>168 | 50=>169 | 15=>103 | 57=>183 | 28=>136 | 29=>137 | n=>n,fun | 24=>67 | 22=>23 | 3=>3 | 25=>126 | 4=>4 | 0=>0 | 46=>171 | 45=>170 | 50=>175 | 66=>195 | 39=>149 | 55=>112 | 70=>199 | 76=>219 | 77=>220 | 53=>178 | 5=>5 | 9=>9 | n=>n,fun | n=>n⟩
theorem Tryz.pdqF:Go.Proofs.SlLaysF0.n14 Tryz.prog Tryz.pdqF_ren:={
 mixed:=by kernel_rfl
 f14:=⟨Tryz.f116.name,by decide,Tryz.func116.trans (congrArg some (by kernel_rfl))⟩
 f15:=Tryz.func103.trans (congrArg some (by kernel_rfl))
 f20:=⟨Tryz.f141.name,by decide,Tryz.func141.trans (congrArg some (by kernel_rfl))⟩
 f21:=⟨Tryz.f142.name,by decide,Tryz.func142.trans (congrArg some (by kernel_rfl))⟩
 f22:=⟨Tryz.f143.name,by decide,Tryz.func143.trans (congrArg some (by kernel_rfl))⟩
 f23:=⟨Tryz.f144.name,by decide,Tryz.func144.trans (congrArg some (by kernel_rfl))⟩
 f24:=⟨Tryz.f145.name,by decide,Tryz.func145.trans (congrArg some (by kernel_rfl))⟩
 f25:=⟨Tryz.f146.name,by decide,Tryz.func146.trans (congrArg some (by kernel_rfl))⟩
 f26:=⟨Tryz.f147.name,by decide,Tryz.func147.trans (congrArg some (by kernel_rfl))⟩
 f27:=⟨Tryz.f148.name,by decide,Tryz.func148.trans (congrArg some (by kernel_rfl))⟩
 f28:=Tryz.func136.trans (congrArg some (by kernel_rfl))
 f29:=Tryz.func137.trans (congrArg some (by kernel_rfl))
 f46:=⟨Tryz.f167.name,by decide,Tryz.func167.trans (congrArg some (by kernel_rfl))⟩
 f47:=Tryz.func161.trans (congrArg some (by kernel_rfl))
 f48:=Tryz.func162.trans (congrArg some (by kernel_rfl))
 f49:=⟨Tryz.f168.name,by decide,Tryz.func168.trans (congrArg some (by kernel_rfl))⟩
 f50:=⟨Tryz.f169.name,by decide,Tryz.func169.trans (congrArg some (by kernel_rfl))⟩
 f57:=⟨Tryz.f183.name,by decide,Tryz.func183.trans (congrArg some (by kernel_rfl))⟩
 t0:=Tryz.underlying0
 a0:=Tryz.isAgg0
 z0:=Tryz.sizeOf0
 v0:=Tryz.zeroValue0
 t3:=Tryz.underlying3
 a3:=Tryz.isAgg3
 z3:=Tryz.sizeOf3
 v3:=Tryz.zeroValue3
 t4:=Tryz.underlying4
 a4:=Tryz.isAgg4
 z4:=Tryz.sizeOf4
 v4:=Tryz.zeroValue4
 t5:=Tryz.underlying5
 a5:=Tryz.isAgg5
 z5:=Tryz.sizeOf5
 v5:=Tryz.zeroValue5
 t9:=Tryz.underlying9
 a9:=Tryz.isAgg9
 z9:=Tryz.sizeOf9
 v9:=Tryz.zeroValue9
 t22:=Tryz.underlying23
 a22:=Tryz.isAgg23
 z22:=Tryz.sizeOf23
 v22:=Tryz.zeroValue23
 t25:=Tryz.underlying126
 a25:=Tryz.isAgg126
 z25:=Tryz.sizeOf126
 v25:=Tryz.zeroValue126
 t39:=Tryz.underlying149
 a39:=Tryz.isAgg149
 z39:=Tryz.sizeOf149
 v39:=Tryz.zeroValue149
 t45:=Tryz.underlying170
 a45:=Tryz.isAgg170
 z45:=Tryz.sizeOf170
 v45:=Tryz.zeroValue170
 t46:=Tryz.underlying171
 a46:=Tryz.isAgg171
 z46:=Tryz.sizeOf171
 v46:=Tryz.zeroValue171
 t50:=Tryz.underlying175
 a50:=Tryz.isAgg175
 z50:=Tryz.sizeOf175
 v50:=Tryz.zeroValue175
 t53:=Tryz.underlying178
 a53:=Tryz.isAgg178
 z53:=Tryz.sizeOf178
 v53:=Tryz.zeroValue178
 t55:=Tryz.underlying112
 a55:=Tryz.isAgg112
 z55:=Tryz.sizeOf112
 v55:=Tryz.zeroValue112
 t66:=Tryz.underlying195
 a66:=Tryz.isAgg195
 z66:=Tryz.sizeOf195
 v66:=Tryz.zeroValue195
 t70:=Tryz.underlying199
 a70:=Tryz.isAgg199
 z70:=Tryz.sizeOf199
 v70:=Tryz.zeroValue199
 t76:=Tryz.underlying219
 a76:=Tryz.isAgg219
 z76:=Tryz.sizeOf219
 v76:=Tryz.zeroValue219
 t77:=Tryz.underlying220
 a77:=Tryz.isAgg220
 z77:=Tryz.sizeOf220
 v77:=Tryz.zeroValue220 }
def Tryz.lays125_ren:Go.Shelf.Ren:=⟨fun | 125=>103 | 128=>136 | 129=>137 | n=>n,fun | 46=>149 | 3=>3 | 51=>178 | 53=>112 | 4=>4 | 5=>5 | 9=>9 | n=>n,fun | n=>n⟩
theorem Tryz.lays125:Go.Proofs.Lays.n125 Tryz.prog Tryz.lays125_ren:={
 mixed:=by kernel_rfl
 f125:=Tryz.func103.trans (congrArg some (by kernel_rfl))
 f128:=Tryz.func136.trans (congrArg some (by kernel_rfl))
 f129:=Tryz.func137.trans (congrArg some (by kernel_rfl))
 t3:=Tryz.underlying3
 a3:=Tryz.isAgg3
 z3:=Tryz.sizeOf3
 v3:=Tryz.zeroValue3
 t4:=Tryz.underlying4
 a4:=Tryz.isAgg4
 z4:=Tryz.sizeOf4
 v4:=Tryz.zeroValue4
 t5:=Tryz.underlying5
 a5:=Tryz.isAgg5
 z5:=Tryz.sizeOf5
 v5:=Tryz.zeroValue5
 t9:=Tryz.underlying9
 a9:=Tryz.isAgg9
 z9:=Tryz.sizeOf9
 v9:=Tryz.zeroValue9
 t46:=Tryz.underlying149
 a46:=Tryz.isAgg149
 z46:=Tryz.sizeOf149
 v46:=Tryz.zeroValue149
 t51:=Tryz.underlying178
 a51:=Tryz.isAgg178
 z51:=Tryz.sizeOf178
 v51:=Tryz.zeroValue178
 t53:=Tryz.underlying112
 a53:=Tryz.isAgg112
 z53:=Tryz.sizeOf112
 v53:=Tryz.zeroValue112 }
end Go.Proofs
namespace Go.Proofs.YtadjhpbkknifeaaGreatDoor
open Go.RowKit Go.Ab Go.Sh Go.Proofs Go.Shelf Go.Sort
theorem kJ.alloc {w:World} {p:Option Addr} {xs:List ai} (h:kJ w p xs) (o:Obj):kJ (w.alloc o) p xs:=fun k hk=>by obtain ⟨b,of,e,hc⟩:=h k hk;exact ⟨b,of,e,Lib.cell?_alloc_some _ hc⟩
set_option maxHeartbeats 1000000 in
theorem B7 (ca cb:Value) (xs ys:List ai) (n1 n2:Nat) (E:Aside (xs.length=n1∧ys.length=n2)) (p1 p2:Option Addr) (c1 c2:Nat) (W:World) (h1:kJ W p1 xs) (h2:kJ W p2 ys) (b1:n1≤9223372036854775807) (b2:n2≤9223372036854775807) :
 Calls Tryz.prog 86 #[.agg #[ca,.slice p1 n1 c1],.agg #[cb,.slice p2 n2 c2]] W fun e w'=>e = .returned (.int .i64 (cmpL xs ys))∧∃ q os',w'=grow (W.drewN q) os':=by
 have hcon:=EI xs ys n1 n2 E p1 p2 c1 c2 ((W.alloc (.cells #[ca,.slice p1 n1 c1] 67)).alloc (.cells #[cb,.slice p2 n2 c2] 67)) ((h1.alloc _).alloc _) ((h2.alloc _).alloc _) b1 b2;generalize cmpL xs ys=r at hcon ⊢;clear h1 h2 E
 go_enter Tryz.func86,Tryz.ntmps86
 go_wp2_with (go_at_call 62;refine hcon.mono ?_;rintro e w' ⟨rfl,rfl⟩)
 go_ret
 exact ⟨rfl,0,_,by rw [alloc_eq_grow,alloc_eq_grow,grow_grow];rfl⟩
theorem D.texts {w:World} {X:Nat→Prop} {ks:List ai} {V:Value} (h:D w X (.dslice (ks.map cA)) V):∃ p cap,V = .slice p ks.length cap∧kJ w p ks∧ks.length≤9223372036854775807∧(∀ k,k<ks.length→(ks.getD k []).length≤maxLen):=by
 by_cases hx:ks=[]
 ·subst hx;generalize hL:([]:List ai).map cA=L at h;cases h with
  | dnil a c hc=>exact ⟨a,c,rfl,fun k hk=>absurd hk (Nat.not_lt_zero _),Nat.zero_le _,fun k hk=>absurd hk (Nat.not_lt_zero _)⟩
  | dslice _ b o c sz cv h1 h2 h3=>subst hL;exact ⟨_,_,rfl,fun k hk=>absurd hk (Nat.not_lt_zero _),Nat.zero_le _,fun k hk=>absurd hk (Nat.not_lt_zero _)⟩
 ·have hne:0<ks.length:=List.length_pos_iff.2 hx;generalize hL:ks.map cA=L at h;cases h with
  | dnil a c hc=>simp at hL;exact absurd hL hx
  | dslice _ b o c sz cv q1 q2 q0 q3 q4 q5 q6 =>
   subst hL;have hsz1:sz=1:=by
    have:=q4 0 (by simpa using hne);rw [← this];obtain ⟨x,ys,rfl⟩:∃ x ys,ks=x::ys:=by
     cases ks with
     | nil=>simp at hne
     | cons x ys=>exact ⟨x,ys,rfl⟩
    rfl
   subst hsz1;have hcell:∀ j,j<ks.length→w.cell? ⟨b,o+j,none⟩=some (.string ⟨(ks.getD j []).toArray⟩)∧(ks.getD j []).length≤maxLen:=by
    intro j hj;have a1:=q5 j 0 (by simpa using hj) (by omega);have a2:=q6 j 0 (by simpa using hj) (by omega);have e1:(ks.map cA).getD j []=cA (ks.getD j []):=by simp [KH,KI hj]
    rw [e1] at a2;have a3:=(show D w X (.str (ks.getD j [])) (cv j 0) from a2).str_inv;rw [show o+(j*1+0)=o+j by omega,a3.1] at a1;exact ⟨a1,a3.2⟩
   have hm:maxLen=9223372036854775807:=by decide
   rw [KP] at q1;refine ⟨some ⟨b,o,none⟩,c,by rw [KP],fun k hk=>⟨b,o,rfl,(hcell k hk).1⟩,by omega,fun k hk=>(hcell k hk).2⟩
set_option maxHeartbeats 2000000 in
set_option maxRecDepth 100000 in
theorem A2 {β:Type} [Inhabited β] (enc:β→List Value) (hk:∀ x,(enc x).length=2) (h1:∀ x,∀ v∈enc x,v.oneCell'=true) (cf:β→β→Int) (hO:SWO (ltOf cf)) (blk cap:Nat) (d:Array β) (w:World)
 (hcmp:CmpLays Tryz.prog 86 #[] enc 2 cf blk 0 d.size w) (hH:HoldsK enc 2 w blk 0 d) (hblk:blk<w.heap.size) (hsz:d.size<4611686018427387904) :
 Calls Tryz.prog 85 #[.slice (some ⟨blk,0,none⟩) d.size cap,.func (.func 86) #[] #[]] w fun e w'=>e = .returned (.tuple #[])∧∃ d' n os,PermIn 0 d.size d d'∧SortedIn (ltOf cf) 0 d.size d'∧w'=sortWorldK enc 2 w blk 0 n d' os:=by
 have aE:∀ w,(isAgg 67).run Tryz.prog w = .ok true w:=fun w=>Go.Ab.run_isAgg (by kernel_rfl);have zE:∀ w,(Go.sizeOf 67).run Tryz.prog w = .ok 2 w:=fun w=>Go.Ab.run_sizeOf (by kernel_rfl);have eg:∀ args w,(callFunc 86 args).run Tryz.prog w = .ok (.enter 86 args) w:=enters_of Tryz.func86 (by kernel_rfl) rfl;have hlim:Lib.bitLen d.size<4611686018427387904:=Nat.lt_of_le_of_lt (Lib.bitLen_le d.size 62 (by omega) (by omega)) (by omega);have hp:=AnyQ.pdqsortCmpFunc_all Tryz.pdqF 2 aE zE enc cf 86 #[] hO blk 0 cap d w eg hcmp ⟨hk,h1,hH,hblk⟩ (d.size+1) 0 d.size (Lib.bitLen d.size) d w (by omega) rfl (SWK.start hH) (Nat.zero_le _) (Nat.le_refl _) hsz hlim (Or.inl rfl);change Calls Tryz.prog 116 _ _ _ at hp;have hl:Calls Tryz.prog 103 #[.int .u64 (d.size:Int)] w fun e w'=>e = .returned (.int .i64 (Lib.bitLen d.size:Nat))∧w'=w:=by
  have h:=Any.bits_Len Tryz.lays125 (d.size:Int) w (by omega) (by omega)
  rwa [Int.toNat_natCast] at h
 have wr:IntKind.u64.wrap (d.size:Int)=d.size:=by simp [IntKind.wrap,IntKind.bits,IntKind.signed];omega
 have hsrt:=pdq_sorts (ltOf cf) hO d 0 d.size (Lib.bitLen d.size) true true (Nat.zero_le _) (Nat.le_refl _) (Or.inl rfl);generalize pdq (ltOf cf) d 0 d.size (Lib.bitLen d.size) true true=d' at hp hsrt;clear hH hcmp hk h1
 go_enter Tryz.func85,Tryz.ntmps85
 go_wp2_with (first | (go_at_call 103;refine hl.mono ?_;rintro e w' ⟨rfl,rfl⟩) | (go_at_call 116;refine hp.mono ?_;rintro e w' ⟨rfl,n,os,rfl⟩))
 go_end0
 exact ⟨rfl,d',n,os,hsrt.1,hsrt.2,rfl⟩
set_option maxHeartbeats 2000000 in
theorem rQ (p:Option Addr) (w:World):Calls Tryz.prog 85 #[.slice p 0 0,.func (.func 86) #[] #[]] w fun e w'=>e = .returned (.tuple #[])∧w'=w:=by
 have hp:=fun lim W=>AnyF.pdqsortCmpFunc_none Tryz.pdqF p 0 lim (.func (.func 86) #[] #[]) W;change ∀ lim W,Calls Tryz.prog 116 _ _ _ at hp;have hl:∀ W,Calls Tryz.prog 103 #[.int .u64 0] W fun e w'=>e = .returned (.int .i64 (Lib.bitLen 0:Nat))∧w'=W:=fun W=>Any.bits_Len Tryz.lays125 0 W (by omega) (by omega)
 go_enter Tryz.func85,Tryz.ntmps85
 go_wp2_with (first | (go_at_call 103;refine (hl _).mono ?_;rintro e w' ⟨rfl,rfl⟩) | (go_at_call 116;refine (hp _ _).mono ?_;rintro e w' ⟨rfl,rfl⟩))
 go_end0
 exact ⟨rfl,rfl⟩
def ka {α:Type} (key:α→List ai) (xs:List α):Option (List α):=bR (xs.length<4611686018427387904∧(xs.map key).Nodup) <| some (jU (fun x y=>cmpL (key x) (key y)) xs)
theorem tt {α:Type} (c:α→List AV) (key:α→List ai) (co:α→Int) (hc:∀ x,c x=[.int .i64 (co x),.dslice ((key x).map cA)]) (xs r:List α) (H:ka key xs=some r) :
 bD Tryz.prog 85 [.rslice 1000,.fn 86 []] [(1000,.row 67 2 (xs.map c))] (fun v h=>v = .tup []∧h=[(1000,.row 67 2 (r.map c))]):=by
 unfold ka at H;refine aR H fun hn H => ?_;refine cC H fun e => ?_;subst e;refine Ac c (fun x=>by rw [hc];rfl) (fun x v hv=>by rw [hc] at hv;simp only [List.mem_cons,List.not_mem_nil,or_false] at hv;rcases hv with rfl | rfl<;>rfl) (fun x y=>cmpL (key x) (key y)) (rp zZ key) 86
  (fun enc hk h1 cf hO blk cap d w=>A2 enc hk h1 cf hO blk cap d w) rQ (fun W X x y A B hA hB => ?_) xs hn.1 (fun i j hi hj h1 h2 => ?_)
 ·have key2:∀ {z:α} {A:Array Value},D W X (.agg (c z)) (.agg A)→∃ p cap,A = #[.int .i64 (co z),.slice p (key z).length cap]∧kJ W p (key z)∧(key z).length≤9223372036854775807:=by
   intro z A h;rw [hc] at h;generalize hL:[AV.int .i64 (co z),.dslice ((key z).map cA)]=L at h;cases h with
   | agg cs vs hl hd =>
    subst hL;have d0:=(hd 0 (by simp)).int_inv;obtain ⟨p,cap,e1,e2,e3,_⟩:=D.texts (hd 1 (by simp));refine ⟨p,cap,?_,e2,e3⟩;have hs:A.size=2:=by simpa using hl.symm
    refine Array.ext (by simp [hs]) fun i hi h2 => ?_;match i,hi with
    | 0,_=>simpa [KK,hs] using d0
    | 1,_=>simpa [KK,hs] using e1
    | (n+2),hi=>omega
  obtain ⟨p1,c1,rfl,a1,a2⟩:=key2 hA;obtain ⟨p2,c2,rfl,b1,b2⟩:=key2 hB;exact B7 _ _ (key x) (key y) _ _ ⟨rfl,rfl⟩ p1 p2 c1 c2 W a1 b1 a2 b2
 ·have e:=Cq h1 h2;have hnd:=hn.2;have hp:=List.pairwise_iff_getElem.1 hnd;rcases Nat.lt_trichotomy i j with h | h | h
  ·exact absurd (by rw [List.getElem_map,List.getElem_map];exact e) (hp i j (by simpa using hi) (by simpa using hj) h)
  ·exact h
  ·exact absurd (by rw [List.getElem_map,List.getElem_map];exact e.symm) (hp j i (by simpa using hj) (by simpa using hi) h)
end Go.Proofs.YtadjhpbkknifeaaGreatDoor
namespace Go.Ab
open Go.RowKit Go.Sh Go.Proofs Go.Sort Go.Maps Go.Shelf
section
variable {P:Program} {ρ:Ren}
def Ir {α:Type} (F:Fence) (n:Nat) (P:Program) (g:Nat) (lb:Array Value) (enc:α→Value) (zs:List α) (w:World):Prop :=
 ∀ (l:Nat) (J:List α→World→Prop) (W:World),Below w.heap.size w W→(∀ pre W1,J pre W1→Below w.heap.size w W1) →
  (∀ pre x W1,J pre W1→pre.length<zs.length→YieldAt F (n-1) P l #[enc x] W1 fun e W'=>e = .returned (.bool true)∧J (pre++[x]) W'∧KeepsWalks W1 W') →
  J [] W→CallsIn F n P g (#[.func (.yield l) #[] #[]]++lb) W fun e W'=>(∃ v,e = .returned v)∧J zs W'
set_option maxRecDepth 100000 in
set_option maxHeartbeats 2000000 in
theorem B9 (L:SlLaysZ.n11 P ρ) (F:Fence) (n:Nat) (h11:F.fn (ρ.f 11)) (hro:F.round=none) (hn:2≤n) (g:Nat) (lb:Array Value) (hFg:F.fn g) (eg:∀ args w,(callFunc g args).run P w = .ok (.enter g args) w)
 (zs:List (List UInt8)) (hN:zs.length≤maxLen) (hNb:zs.length*16≤140737488355328) (w:World) (hseq:Ir F (n-1) P g lb encStr zs w) :
 CallsIn F n P (ρ.f 11) #[.slice none 0 0,.func (.func g) #[] lb] w fun e w'=>∃ v:Value,e = .returned v∧w'.ownsRow w.heap.size (ρ.t 26) 1 v zs.length (zs.map encStr)∧Below w.heap.size w w':=by
 have h1:1≤n:=by omega
 have mixed:=L.mixed;have t0:=L.t0;have a0:=L.a0;have z0:=L.z0;have v0:=L.v0;have t24:=L.t24;have a24:=L.a24;have z24:=L.z24;have v24:=L.v24;have t26:=L.t26;have a26:=L.a26;have z26:=L.z26;have v26:=L.v26;have t28:=L.t28;have a28:=L.a28;have z28:=L.z28;have v28:=L.v28;have hne:ρ.t 24≠ρ.t 26:=fun e=>by have h:=L.t24;rw [e,L.t26] at h;cases h
 have u0:=run_underlying L.t0;have u24:=run_underlying L.t24;have u26:=run_underlying L.t26;have u28:=run_underlying L.t28;obtain ⟨_,_,FG⟩:=L.f11;refine callsIn_of_wp_marks FG rfl h11 ?_ hro;simp only [SlBodyZ.n11_ntmps ρ,List.size_toArray,List.length_cons,List.length_nil,Nat.reduceAdd,Nat.reduceSub,Array.replicate_succ,Array.replicate_zero,List.push_toArray,List.append_toArray,List.nil_append,List.cons_append]
 gi_wp2
 refine wpIn_rangeFunc ?_;intro fn hfn;rw [hro];obtain ⟨W0,hW0⟩:∃ W0,w.alloc (.cells #[.slice none 0 0] (ρ.t 24))=W0:=⟨_,rfl⟩;have hs0:W0.heap.size=w.heap.size+1:=by rw [← hW0];simp
 have hv0:W0.heap[w.heap.size]? = some (.cells #[.slice none 0 0] (ρ.t 24) (0,0)):=by rw [← hW0];exact World.alloc_heap_new w _
 have hb0:Below w.heap.size w W0:=by rw [← hW0];exact (Below.refl _ w).alloc (Nat.le_refl _) _
 rw [hW0];obtain ⟨W1,hW1⟩:∃ W1,(W0.alloc (.deferred (some []))).alloc (.loop (AnyZ.apRec ρ fn (.func (.func g) #[] lb) w.heap.size W0.heap.size .ready none))=W1:=⟨_,rfl⟩;have hold:∀ k,k<W0.heap.size→W1.heap[k]? = W0.heap[k]? := fun k hk=>by rw [← hW1];exact (Below.heap_alloc _ _ k (by simp;omega)).trans (Below.heap_alloc _ _ k hk)
 have hb1:Below w.heap.size w W1:=by rw [← hW1];exact (hb0.alloc hb0.size _).alloc (by have:=hb0.size;simp;omega) _
 have hs1:W1.heap.size=W0.heap.size+2:=by rw [← hW1];simp
 have hM:AnyZ.ApAt ρ w fn (.func (.func g) #[] lb) w.heap.size (W0.heap.size+1) W0.heap.size [] W1 :=
  ⟨⟨_,(hold w.heap.size (by omega)).trans hv0,⟨rfl,.inl ⟨rfl,rfl⟩⟩,by simp⟩,
   by rw [← hW1];have:=World.alloc_heap_new (W0.alloc (.deferred (some []))) (.loop (AnyZ.apRec ρ fn (.func (.func g) #[] lb) w.heap.size W0.heap.size .ready none));rwa [World.size_alloc] at this,
   by rw [← hW1];exact (Below.heap_alloc _ _ _ (by simp)).trans (World.alloc_heap_new W0 _),hb1⟩
 refine ⟨W0.heap.size+1,[{ target:=.collected W0.heap.size,args := #[] }],W1,{ target:=.fn (.func g) lb,args := #[.func (.yield (W0.heap.size+1)) #[] #[]] },W1,g,
  #[.func (.yield (W0.heap.size+1)) #[] #[]]++lb,W1,?_,?_,?_,?_,fun _=>h1,?_⟩
 ·rw [← hW1];exact run_enterLoop_outer _ _ _ _ _
 ·simp [resolve,go_sem]
 ·intro f' hf';simp [Target.leads] at hf';subst hf';exact hFg
 ·simp [invoke,go_sem,eg]
 ·refine (hseq (W0.heap.size+1) (AnyZ.ApAt ρ w fn (.func (.func g) #[] lb) w.heap.size (W0.heap.size+1) W0.heap.size) W1 hb1 (fun _ _ h=>h.below)
   (fun pre x W hJ hl=>AnyZ.apYield { L with } F (n-1-1) w fn hfn _ w.heap.size (W0.heap.size+1) W0.heap.size (by omega) (by omega) (by omega) (Nat.le_refl _) (by omega) zs.length hN hNb pre x W hJ hl) hM).mono ?_
  rintro e W2 ⟨⟨v0,rfl⟩,h2⟩;obtain ⟨v,hv,hrow,_⟩:=h2.box;have hend:=run_endLoop (P:=P) h2.L (by simp [AnyZ.apRec]);obtain ⟨W3,hW3⟩:∃ W3,W2.putObj (W0.heap.size+1) (.loop { AnyZ.apRec ρ fn (.func (.func g) #[] lb) w.heap.size W0.heap.size .ready none with state:=.exhausted })=W3:=⟨_,rfl⟩;rw [hW3] at hend;have hg3:W2.grownBy W3 (some (W0.heap.size+1)):=by rw [← hW3];exact grownBy_putObj_a _ _ _
  have hv3:W3.heap[w.heap.size]? = some (.cells #[v] (ρ.t 24) (0,0)):=by rw [← hW3];exact (World.putObj_heap_other (by omega)).trans hv
  have hK3:W3.heap[W0.heap.size]? = some (.deferred (some [])):=by rw [← hW3];exact (World.putObj_heap_other (by omega)).trans h2.K
  have hrow3:=hrow.kept hg3 (ownsRow_ne_a hrow h2.L (fun cur e=>by first | cases e | exact hne (Obj.cells.inj e).2.1));have hb3:Below w.heap.size w W3:=h2.below.grown hg3 h2.below.size (fun k e=>by cases e;omega);obtain ⟨hc3,hf3⟩:=cell_of_box_a hv3;clear hW3;refine ⟨none,W3,hend,?_⟩
  gi_wp2
  rw [← hs0];refine ⟨by simp,.inl ⟨_,_,rfl,run_takeDeferred hK3,?_⟩⟩;exact ⟨_,results_tmp rfl _ _ _,v,rfl,hrow3.kept (grownBy_putObj_a _ _ _) (ownsRow_ne_a hrow3 hK3 (fun cur e=>by first | cases e | exact hne (Obj.cells.inj e).2.1)),hb3.grown (grownBy_putObj_a _ _ _) hb3.size (fun k e=>by cases e;omega)⟩
set_option maxRecDepth 100000 in
set_option maxHeartbeats 2000000 in
theorem E3 (L:SlLaysZ.n8 P ρ) (F:Fence) (n:Nat) (h8:F.fn (ρ.f 8)) (h11:F.fn (ρ.f 11)) (hro:F.round=none) (hn:3≤n) (g:Nat) (lb:Array Value) (hFg:F.fn g) (eg:∀ args w,(callFunc g args).run P w = .ok (.enter g args) w)
 (zs:List (List UInt8)) (hN:zs.length≤maxLen) (hNb:zs.length*16≤140737488355328) (w:World) (hseq:Ir F (n-1-1) P g lb encStr zs w) :
 CallsIn F n P (ρ.f 8) #[.func (.func g) #[] lb] w fun e w'=>∃ v:Value,e = .returned v∧w'.ownsRow w.heap.size (ρ.t 26) 1 v zs.length (zs.map encStr)∧Below w.heap.size w w':=by
 have h1:1≤n:=by omega
 have e11:∀ args w,(callFunc (ρ.f 11) args).run P w = .ok (.enter (ρ.f 11) args) w:=L.f11.enters rfl;have mixed:=L.mixed;have t0:=L.t0;have a0:=L.a0;have z0:=L.z0;have v0:=L.v0;have t24:=L.t24;have a24:=L.a24;have z24:=L.z24;have v24:=L.v24;have t26:=L.t26;have a26:=L.a26;have z26:=L.z26;have v26:=L.v26;have t28:=L.t28;have a28:=L.a28;have z28:=L.z28;have v28:=L.v28;have u0:=run_underlying L.t0;have u24:=run_underlying L.t24;have u26:=run_underlying L.t26;have u28:=run_underlying L.t28;obtain ⟨_,_,FG⟩:=L.f8;refine callsIn_of_wp FG rfl h8 ?_ hro;simp only [SlBodyZ.n8_ntmps ρ,List.size_toArray,List.length_cons,List.length_nil,Nat.reduceAdd,Nat.reduceSub,Array.replicate_succ,Array.replicate_zero,List.push_toArray,List.append_toArray,List.nil_append,List.cons_append]
 gi_wp2_with (gi_at_fn (ρ.f 11);refine (B9 { L with } F (n-1) h11 hro (by omega) g lb hFg eg zs hN hNb _ hseq).mono ?_;rintro e w' ⟨v,rfl,hrow,hb⟩)
 go_ret
 exact ⟨v,rfl,hrow,hb⟩
set_option maxRecDepth 100000 in
set_option maxHeartbeats 2000000 in
theorem HS (L:SlLaysZ.n6 P ρ) (F:Fence) (n:Nat) (h6:F.fn (ρ.f 6)) (h8:F.fn (ρ.f 8)) (h9:F.fn (ρ.f 9)) (h11:F.fn (ρ.f 11)) (hro:F.round=none) (hn:4≤n) (hsort:AnyZ.SortsIn P ρ F (n-1)) (e9:∀ args w,(callFunc (ρ.f 9) args).run P w = .ok (.enter (ρ.f 9) args) w) (g:Nat) (lb:Array Value) (hFg:F.fn g) (eg:∀ args w,(callFunc g args).run P w = .ok (.enter g args) w)
 (zs:List (List UInt8)) (hN:zs.length≤maxLen) (hNb:zs.length*16≤140737488355328) (w:World) (hseq:Ir F (n-1-1-1) P g lb encStr zs w) :
 CallsIn F n P (ρ.f 6) #[.func (.func g) #[] lb] w fun e w'=>∃ v:Value,e = .returned v ∧
  w'.ownsRow w.heap.size (ρ.t 26) 1 v zs.length ((zs.mergeSort (fun x y=>decide (x≤y))).map encStr)∧Below w.heap.size w w':=by
 have h1:1≤n:=by omega
 have e8:∀ args w,(callFunc (ρ.f 8) args).run P w = .ok (.enter (ρ.f 8) args) w:=L.f8.enters rfl;have mixed:=L.mixed;have t0:=L.t0;have a0:=L.a0;have z0:=L.z0;have v0:=L.v0;have t24:=L.t24;have a24:=L.a24;have z24:=L.z24;have v24:=L.v24;have t26:=L.t26;have a26:=L.a26;have z26:=L.z26;have v26:=L.v26;have t28:=L.t28;have a28:=L.a28;have z28:=L.z28;have v28:=L.v28;have u0:=run_underlying L.t0;have u24:=run_underlying L.t24;have u26:=run_underlying L.t26;have u28:=run_underlying L.t28;obtain ⟨_,_,FG⟩:=L.f6;refine callsIn_of_wp FG rfl h6 ?_ hro;simp only [SlBodyZ.n6_ntmps ρ,List.size_toArray,List.length_cons,List.length_nil,Nat.reduceAdd,Nat.reduceSub,Array.replicate_succ,Array.replicate_zero,List.push_toArray,List.append_toArray,List.nil_append,List.cons_append]
 gi_wp2_with (gi_at_fn (ρ.f 8);refine (E3 { L with } F (n-1) h8 h11 hro (by omega) g lb hFg eg zs hN hNb _ hseq).mono ?_;rintro e W ⟨v,rfl,hrow,hb⟩)
 rcases hrow.2 with ⟨rfl,hz⟩ | ⟨gb,cap,cur,rfl,hbase,hgb,r1,r2,r3,r4⟩
 ·have hss:zs=[]:=List.eq_nil_of_length_eq_zero hz;subst hss
  gi_wp2_with (gi_at_fn (ρ.f 9);refine (hsort.2 none 0 W).mono ?_;rintro e w' ⟨rfl,rfl⟩)
  go_ret
  exact ⟨.slice none 0 0,rfl,by simpa using hrow,hb⟩
 ·have hH:Holds encStr W gb 0 zs.toArray:=holds_of_block hgb (by simpa using r4);have hgl:gb<W.heap.size:=(Array.getElem?_eq_some_iff.1 hgb).1;have hsz:zs.length<4611686018427387904:=by omega
  have cS:=hsort.1 gb 0 cap zs W hH hgl hsz
  gi_wp2_with (gi_at_fn (ρ.f 9);refine cS.mono ?_;rintro e w' ⟨rfl,nn,os,rfl⟩)
  go_ret
  exact ⟨_,rfl,ownsRow_sorted (by simp) hbase hgb r1 r2 r3,hb.grown (grownBy_sorted _) hb.size (fun j hj=>by cases hj;exact hbase)⟩
end
end Go.Ab
namespace Go.Proofs.YtadjhpbkknifeaaGreatDoor
open Go.RowKit Go.Ab Go.Sh Go.Proofs Go.Shelf Go.Sort
theorem D6 (zs:List ai) (k:Nat) (h:k<zs.length):zs.take k++[zs.getD k []]=zs.take (k+1):=by rw [List.take_add_one,KH,KI h];rfl
set_option maxRecDepth 100000 in
set_option maxHeartbeats 2000000 in
theorem Io (F:Fence) (n:Nat) (hF:F.fn 112) (hro:F.round=none) (hn:1≤n) (l Bs oo:Nat) (p:Option Addr) (m cap:Nat) (zs:List ai) (E:Aside (zs.length=m)) (hm:m≤9223372036854775807) (w:World) (hz:Aside (kJ w p zs)) (J:List ai→World→Prop)
 (hJ:∀ pre W1,J pre W1→Below w.heap.size w W1)
 (hY:Aside (∀ pre x W1,J pre W1→pre.length<zs.length→YieldAt F (n-1) Tryz.prog l #[encStr x] W1 fun e W'=>e = .returned (.bool true)∧J (pre++[x]) W'∧KeepsWalks W1 W'))
 (W:World) (hBs:W.cell? ⟨Bs,oo,none⟩=some (.slice p m cap)) (h0:J [] W) :
 CallsIn F n Tryz.prog 112 #[.func (.yield l) #[] #[],.pointer (some ⟨Bs,oo,none⟩)] W fun e W'=>(∃ v,e = .returned v)∧J zs W':=by
 refine callsIn_of_wp Tryz.func112 rfl hF ?_ hro;simp only [Tryz.ntmps112,List.size_toArray,List.length_cons,List.length_nil,Nat.reduceAdd,Nat.reduceSub,Array.replicate_succ,Array.replicate_zero,List.push_toArray,List.append_toArray,List.nil_append,List.cons_append]
 gi_wp2
 gi_loopw [7] (fun i wr=>∃ k:Nat,k≤m∧i = .int .i64 k∧J (zs.take k) wr) (fun i _=>m-(intOf i).toNat)
 case atStart=>exact ⟨0,Nat.zero_le _,rfl,h0⟩
 case round =>
  obtain ⟨k,hk,rfl,hJs⟩:=hrel;by_cases hlt:k<m
  ·have hlz:k<zs.length:=by have:=E.out;omega
   obtain ⟨b,o,rfl,hc⟩:=hz.out k hlz;have hB:=hJ _ _ hJs;have hcx:wr.cell? ⟨b,o+k,none⟩=some (encStr (zs.getD k [])):=(hB.cell (p:=⟨b,o+k,none⟩) (World.block_lt_of_cell? w _ hc)).trans hc;have hsn:=D6 zs k hlz;obtain ⟨fn,tmps,assign,body,hy,hR⟩:=hY.out (zs.take k) (zs.getD k []) wr hJs (by rw [List.length_take];omega);rw [hsn] at hR;clear hc hB hsn;generalize encStr (zs.getD k [])=bx at hcx hy hR
   gi_wp2
   refine hR.mono ?_;rintro e W3 ⟨rfl,hJ3,_⟩
   gi_wp2
   go_roundw
   case rel=>exact ⟨k+1,by omega,by simp,hJ3⟩
   case measure=>simp [intOf];omega
  ·obtain rfl:k=m:=by omega
   have hall:zs.take k=zs:=by rw [List.take_of_length_le (by have:=E.out;omega)]
   rw [hall] at hJs
   gi_wp2
   go_end0
   exact ⟨⟨_,rfl⟩,hJs⟩
theorem Jr (m:Nat):AnyZ.SortsIn Tryz.prog Tryz.sortedZ_ren Fence.wide m :=
 ⟨fun blk off cap ss W hH hblk hsz=>callsIn_wide.2 (Any.slices_Sort_string Tryz.lays190 blk off cap ss W hH hblk hsz),
  fun p cap W=>callsIn_wide.2 (Any.slices_Sort_string_none Tryz.lays190 p cap W)⟩
theorem D5 (Bs oo:Nat) (p:Option Addr) (cap:Nat) (zs:List ai) (hm:zs.length≤9223372036854775807) (hNb:zs.length*16≤140737488355328) (w:World) (hz:kJ w p zs) (hBs:w.cell? ⟨Bs,oo,none⟩=some (.slice p zs.length cap)) :
 Calls Tryz.prog 81 #[.func (.func 112) #[] #[.pointer (some ⟨Bs,oo,none⟩)]] w fun e w'=>∃ v:Value,e = .returned v∧w'.ownsRow w.heap.size 9 1 v zs.length ((sortS zs).map encStr)∧Below w.heap.size w w':=by
 refine (callsIn_wide (n:=5)).1 ?_;have hseq:Ir Fence.wide (5-1-1-1) Tryz.prog 112 #[.pointer (some ⟨Bs,oo,none⟩)] encStr zs w:=fun l J W hW hJ hY h0 =>
  Io Fence.wide _ trivial rfl (by omega) l Bs oo p zs.length cap zs rfl hm w hz J hJ hY W ((hW.cell (p:=⟨Bs,oo,none⟩) (World.block_lt_of_cell? w _ hBs)).trans hBs) h0
 exact HS Tryz.sortedZ Fence.wide 5 trivial trivial trivial trivial rfl (by omega) (Jr _) (enters_of Tryz.func69 (by kernel_rfl) rfl) 112 #[.pointer (some ⟨Bs,oo,none⟩)] trivial (enters_of Tryz.func112 (by kernel_rfl) rfl) zs (by unfold maxLen;omega) hNb w hseq
theorem En (a:Option Addr) (len cap:Nat) (w:World):Calls Tryz.prog 82 #[.slice a len cap] w fun e w'=>e = .returned (.func (.func 112) #[] #[.pointer (some ⟨w.heap.size,0,none⟩)])∧w'=w.alloc (.cells #[.slice a len cap] 49):=by
 go_enter Tryz.func82,Tryz.ntmps82
 go_wp2
 go_ret
 exact ⟨rfl,rfl⟩
def jw (xs:List ai):Option (List ai):=some xs
def gE (xs:List ai):Option (List ai):=bR (xs.length*16≤140737488355328) <| some (sortS xs)
theorem wK (xs r:List ai) (H:jw xs=some r):bF Tryz.prog 82 [.dslice (xs.map cA)] (.fn 112 [.dptr [.dslice (r.map cA)]]):=by
 unfold jw at H;refine cC H fun e => ?_;subst e;refine nD rfl fun w X vs hl hX hd _ => ?_;have h0:D w X (.dslice (xs.map cA)) (vs.getD 0 undef):=hd 0 (by simp);obtain ⟨p,cap,e1,_,_,_⟩:=D.texts h0;rw [Ju (vs:=vs) (by simpa using hl)];rw [e1] at h0 ⊢;refine (En p xs.length cap w).mono fun e w' ⟨e2,e3⟩ => ?_;subst e3;have hX2:¬ X w.heap.size:=fun h=>Nat.lt_irrefl _ (hX _ h);refine ⟨_,e2,(Below.refl _ w).alloc (Nat.le_refl _) _,.fn _ _ _ rfl fun i hi => ?_⟩;have ei:i=0:=by simp only [List.length_cons,List.length_nil] at hi;omega
 subst ei;refine .dptr [.dslice (xs.map cA)] w.heap.size 0 (fun _=>.slice p xs.length cap) (by simp) hX2 (fun j hj => ?_) (fun j hj => ?_)
 ·have ej:j=0:=by simp only [List.length_cons,List.length_nil] at hj;omega
  subst ej;rw [bc (fy w _) (by simp)];rfl
 ·have ej:j=0:=by simp only [List.length_cons,List.length_nil] at hj;omega
  subst ej;exact h0.mono (fun b _ hb=>dV w _ hb) (fun b hb _=>hb)
theorem wI (xs r:List ai) (H:gE xs=some r):bF Tryz.prog 81 [.fn 112 [.dptr [.dslice (xs.map cA)]]] (.dslice (r.map cA)):=by
 unfold gE at H;refine aR H fun hn H => ?_;refine cC H fun e => ?_;subst e;refine nD rfl fun w X vs hl hX hd _ => ?_;have h0:D w X (.fn 112 [.dptr [.dslice (xs.map cA)]]) (vs.getD 0 undef):=hd 0 (by simp);rw [Ju (vs:=vs) (by simpa using hl)];generalize vs.getD 0 undef=V at h0;generalize hL:[AV.dptr [.dslice (xs.map cA)]]=L at h0;cases h0 with
 | fn _ _ us hu hus =>
  subst hL;have h1:D w X (.dptr [.dslice (xs.map cA)]) (us.getD 0 undef):=hus 0 (by simp);have eu:us = #[us.getD 0 undef]:=by
   have hs:us.size=1:=by simpa using hu.symm
   refine Array.ext (by simp [hs]) fun i hi h2 => ?_;have ei:i=0:=by omega
   subst ei;simp [KK,hs]
  rw [eu];generalize us.getD 0 undef=U at h1;generalize hL:[AV.dslice (xs.map cA)]=L at h1;cases h1 with
  | dptr _ b o cv g0 g1 g2 g3 =>
   subst hL;have hc:=g2 0 (by simp);have h2:D w X (.dslice (xs.map cA)) (cv 0):=g3 0 (by simp);obtain ⟨p,cap,e1,e2,e3,e4⟩:=D.texts h2;rw [e1,Nat.add_zero] at hc;refine (D5 b o p cap xs e3 hn w e2 hc).mono fun e w' ⟨v,q1,q2,q3⟩=>⟨v,q1,q3,?_⟩;have hlen:(sortS xs).length=xs.length:=List.length_mergeSort ..;rcases q2.2 with ⟨rfl,hz⟩ | ⟨gb,cap2,cur,rfl,hbase,hgb,r1,r2,r3,r4⟩
   ·have hx:xs=[]:=List.eq_nil_of_length_eq_zero hz;subst hx;have es:sortS []=[]:=by simp [sortS]
    rw [es];exact .dnil _ _ (Nat.zero_le _)
   ·have hcur:∀ i (hi:i<(sortS xs).length),cur.getD i undef=encStr (sortS xs)[i]:=fun i hi=>by
     have h5:cur.toList.take (xs.length*1)=(sortS xs).map encStr:=r4;have h6:(cur.toList.take (xs.length*1))[i]? = ((sortS xs).map encStr)[i]? := by rw [h5]
     rw [List.getElem?_take,if_pos (by omega)] at h6;rw [KK,← Array.getElem?_toList,h6];simp [hi]
    have hD:=D.dslice (w:=w') (X:=X) ((sortS xs).map cA) gb 0 cap2 1 (fun i _=>cur.getD i undef) (by simpa [hlen] using r1) (by exact r2) (by omega) (fun h=>by have:=hX _ h;omega) (fun i hi => ?_) (fun i j hi hj => ?_) (fun i j hi hj => ?_)
    ·simpa [hlen] using hD
    ·rw [cK (d:=([]:ai)) (by simpa using hi)];rfl
    ·have hi:i<(sortS xs).length:=by simpa using hi
     have ej:j=0:=by omega
     subst ej;rw [Nat.zero_add,Nat.mul_one,Nat.add_zero];exact bc hgb (by rw [r3];omega)
    ·have hi:i<(sortS xs).length:=by simpa using hi
     have ej:j=0:=by omega
     subst ej;rw [cK (d:=([]:ai)) hi,hcur i hi];have e5:(cA ((sortS xs).getD i [])).getD 0 .any = .str (sortS xs)[i]:=by show AV.str ((sortS xs).getD i [])=_;rw [KH,KI hi];rfl
     rw [e5];refine .str _ ?_;have hm:(sortS xs)[i]∈xs:=(List.mem_mergeSort (le:=fun x y=>decide (x≤y))).1 (List.getElem_mem hi);obtain ⟨j,hj,e6⟩:=List.getElem_of_mem hm;have:=e4 j hj;rw [KH,KI hj] at this;rw [← e6];exact this
end Go.Proofs.YtadjhpbkknifeaaGreatDoor
namespace Go.Ab
open Go.RowKit Go.Sh Go.Proofs Go.Sort
section
variable {P:Program} {ρ:Go.Shelf.Ren}
theorem zC (xs:List ai):(Lib.compact xs).length≤xs.length:=by unfold Lib.compact Lib.compactUpTo;rw [KP];exact Nat.le_trans (List.length_filter_le _ _) (by simp)
theorem s8 {xs:List ai} {x:ai} (h:x∈Lib.compact xs):x∈xs:=by unfold Lib.compact Lib.compactUpTo at h;obtain ⟨j,hj,rfl⟩:=List.mem_map.1 h;have hj2:j<xs.length:=List.mem_range.1 (List.mem_filter.1 hj).1;rw [getElem!_pos xs.toArray j (by simpa using hj2)];simp
theorem zU {xs:List ai} (h:xs≠[]):Lib.compact xs≠[]:=by intro e;unfold Lib.compact Lib.compactUpTo at e;rw [List.map_eq_nil_iff,List.filter_eq_nil_iff] at e;have:0<xs.length:=List.length_pos_iff.2 h;exact e 0 (List.mem_range.2 this) (by simp [Lib.keeps])
def jr (xs:List ai):Option (List ai):=bR (xs.length<4611686018427387904) <| some (Lib.compact xs)
theorem wO (L:Lays.n194 P ρ) (xs r:List ai) (H:jr xs=some r) :
 bD P (ρ.f 194) [.rslice 1000] [(1000,.row (ρ.t 9) 1 (xs.map cA))] (fun v h=>v = .rslice 0∧h=[(0,.row (ρ.t 9) 1 (r.map cA))]):=by
 unfold jr at H;refine aR H fun hn H => ?_;refine cC H fun e => ?_;subst e;have hlen:=zC xs;intro c vs hl hr hg;have hv:vs=[vs.getD 0 undef]:=Ju (by simpa using hl);have h0:G c.W (c.XX [(1000,.row (ρ.t 9) 1 (xs.map cA))] c.β) c.β c.κ (.rslice 1000) (vs.getD 0 undef):=hg 0 (by simp);have ho:HO c.W (c.XX [(1000,.row (ρ.t 9) 1 (xs.map cA))] c.β) c.β c.κ 1000 (.row (ρ.t 9) 1 (xs.map cA)):=hr.ob 1000;have hk2:(c.κ 1000).2=xs.length:=by simpa using ho.1
 have hlk:∀ (m:Nat) (ys:List ai) k,lk AO.gone [(m,AO.row (ρ.t 9) 1 (ys.map cA))] k=if k=m then .row (ρ.t 9) 1 (ys.map cA) else .gone:=by
  intro m ys k;simp only [lk];by_cases e:k=m
  ·subst e;simp
  ·rw [bN e];simp [e]
 have hlive:∀ (m:Nat) (ys:List ai) k,lv [(m,AO.row (ρ.t 9) 1 (ys.map cA))] k→k=m∧ys≠[]:=by
  rintro m ys k (h | ⟨m',i,_,h⟩)
  ·rw [hlk] at h;by_cases e:k=m
   ·subst e;rw [if_pos rfl] at h;exact ⟨rfl,fun e=>by subst e;exact h rfl⟩
   ·rw [if_neg e] at h;exact h.elim
  ·rw [hlk] at h;by_cases e:m'=m
   ·rw [if_pos e] at h;exact h.elim
   ·rw [if_neg e] at h;exact h.elim
 rcases h0.rslice_inv with ⟨hpos,hV⟩ | ⟨hz,ad,hV⟩
 ·
  have hne:xs≠[]:=by intro e;subst e;rw [hk2] at hpos;simp at hpos
  obtain ⟨cur,h1,h2,h3,h4,h5,h6,h7⟩:=ho.2 (by simpa using hne);simp only [KP,Nat.mul_one] at h2 h3 h6 h7;have hcur:∀ j (hj:j<xs.length),cur.getD j undef=encStr xs[j]∧xs[j].length≤maxLen:=by
   intro j hj;have:=h7 j 0 hj (by omega);rw [Nat.add_zero,cK (d:=([]:ai)) hj] at this;have e1:(cA (xs.getD j [])).getD 0 .any = .str xs[j]:=by show AV.str (xs.getD j [])=_;rw [KH,KI hj];rfl
   rw [e1] at this;have:=this.str_inv;exact ⟨this.1,this.2⟩
  have hsz:c.β 1000<c.W.heap.size:=(Array.getElem?_eq_some_iff.1 h1).1;have hH:Holds encStr c.W (c.β 1000) 0 xs.toArray:=by
   intro j hj;have hj:j<xs.length:=by simpa using hj
   rw [Nat.zero_add];refine ⟨?_,?_⟩
   ·rw [bc h1 (by omega),(hcur j hj).1];simp [hj]
   ·simp [World.frozen?,h1]
  rw [hv,hV,hk2];refine (Any.slices_Compact_string L (c.β 1000) 0 (c.κ 1000).1 xs c.W hH (by omega) h3).mono fun e w' ⟨e1,n,e2⟩ => ?_;have hcp:=zU hne;generalize hys:Lib.compact xs=ys at e1 e2 hcp hlen ⊢;have hmem:∀ x∈ys,x∈xs:=fun x hx=>s8 (by rw [hys];exact hx);generalize hzs:(ys++List.replicate (xs.length-ys.length) []).toArray=zs at e2;have hzl:zs.size=xs.length:=by rw [← hzs];simp;omega
  subst e2;let cur':=putCells encStr 0 zs cur
  have hblk:(putRow encStr (Sort.ahead c.W n) (c.β 1000) 0 zs).heap[c.β 1000]? = some (.cells cur' (ρ.t 9) (0,0)):=by simp only [putRow,mapBlock,Sort.ahead];rw [Array.getElem?_modify,if_pos rfl,h1];rfl
  have hoth:∀ b,b≠c.β 1000→(putRow encStr (Sort.ahead c.W n) (c.β 1000) 0 zs).heap[b]? = c.W.heap[b]? := by intro b hb;simp only [putRow,mapBlock,Sort.ahead];rw [Array.getElem?_modify,if_neg (Ne.symm hb)]
  have hcs:cur'.size=cur.size:=by simp [cur',putCells]
  have hnK:¬ c.K (c.β 1000):=hr.nk 1000 (.inl (by rw [hlk,if_pos rfl];simpa [AO.live] using hne));have hnX:¬ c.X (c.β 1000):=hr.nx 1000 (.inl (by rw [hlk,if_pos rfl];simpa [AO.live] using hne));refine ⟨_,.rslice 0,[(0,.row (ρ.t 9) 1 (ys.map cA))],upd c.β 0 (c.β 1000),upd c.κ 0 ((c.κ 1000).1,ys.length),e1,⟨rfl,rfl⟩,⟨fun k => ?_,fun i j hi hj _ => ?_,⟨rfl,rfl,rfl,?_,fun b hb=>hoth b (fun e=>hnK (e ▸ hb))⟩,fun k hk => ?_,fun k hk => ?_,fun k hk hk'=>⟨bh _ (by omega),bh _ (by omega)⟩,fun k hk => ?_⟩,?_⟩
  ·rw [hlk];by_cases ek:k=0
   ·subst ek;rw [if_pos rfl];refine ⟨by simp [ak],fun _=>⟨cur',by rw [ak];exact hblk,by rw [hcs,h2,ak];simp,by rw [ak];simp only [KP];omega,by rw [ak];exact h4,by omega,fun i hi => ?_,fun i j hi hj => ?_⟩⟩
    ·have hi:i<ys.length:=by simpa using hi
     rw [cK (d:=([]:ai)) hi];rfl
    ·have hi:i<ys.length:=by simpa using hi
     have ej:j=0:=by omega
     subst ej;rw [Nat.mul_one,Nat.add_zero,cK (d:=([]:ai)) hi];have e1:(cA (ys.getD i [])).getD 0 .any = .str ys[i]:=by show AV.str (ys.getD i [])=_;rw [KH,KI hi];rfl
     have hzi:zs[i]'(by omega)=ys[i]:=by simp only [← hzs];simp [List.getElem_append_left hi]
     have e2:cur'.getD i undef=encStr ys[i]:=by
      have hic:i<cur.size:=by omega
      have hiz:i<zs.size:=by omega
      rw [← hzi];simp [cur',putCells,KK,hic,hiz]
     rw [e1,e2];refine .str _ ?_;obtain ⟨j,hj,e3⟩:=List.getElem_of_mem (hmem ys[i] (List.getElem_mem hi));rw [← e3];exact (hcur j hj).2
   ·rw [if_neg ek];trivial
  ·rw [(hlive _ _ _ hi).1,(hlive _ _ _ hj).1]
  ·simp [putRow,mapBlock,Sort.ahead]
  ·obtain ⟨rfl,_⟩:=hlive _ _ _ hk;rw [ak];exact hnK
  ·obtain ⟨rfl,_⟩:=hlive _ _ _ hk;rw [ak];exact hnX
  ·rw [hlk] at hk;by_cases ek:k=0
   ·omega
   ·rw [if_neg ek] at hk;exact absurd rfl hk
  ·have h9:0<((upd c.κ 0 ((c.κ 1000).1,ys.length)) 0).2:=by rw [ak];exact List.length_pos_iff.2 hcp
   have:=G.rslice (w:=putRow encStr (Sort.ahead c.W n) (c.β 1000) 0 zs) (X:=c.XX [(0,.row (ρ.t 9) 1 (ys.map cA))] (upd c.β 0 (c.β 1000))) (β:=upd c.β 0 (c.β 1000)) 0 h9;rw [ak,ak] at this;exact this
 ·
  have hx:xs=[]:=List.eq_nil_of_length_eq_zero (by omega);subst hx;have hcn:Lib.compact ([]:List ai)=[]:=rfl;rw [hcn];rw [hv,hV];refine (Any.slices_Compact_string_empty L ad 0 c.W).mono fun e w' ⟨e1,e2⟩ => ?_;subst e2;have hnl:∀ k,¬ lv [(0,AO.row (ρ.t 9) 1 (([]:List ai).map cA))] k:=fun k hk=>(hlive _ _ _ hk).2 rfl;refine ⟨_,.rslice 0,[(0,.row (ρ.t 9) 1 (([]:List ai).map cA))],c.β,upd c.κ 0 (0,0),e1,⟨rfl,rfl⟩,⟨fun k => ?_,fun i j hi hj _=>(hnl i hi).elim,hr.kp,fun k hk=>(hnl k hk).elim,fun k hk=>(hnl k hk).elim,fun k hk hk'=>⟨rfl,bh _ (by omega)⟩,fun k hk => ?_⟩,.rslice0 0 ad (by rw [ak])⟩
  ·rw [hlk];by_cases ek:k=0
   ·subst ek;rw [if_pos rfl];exact ⟨by simp [ak],fun h=>absurd rfl h⟩
   ·rw [if_neg ek];trivial
  ·rw [hlk] at hk;by_cases ek:k=0
   ·omega
   ·rw [if_neg ek] at hk;exact absurd rfl hk
end
end Go.Ab
namespace Go.Proofs.YtadjhpbkknifeaaGreatDoor
open Go.RowKit Go.Ab Go.Sh Go.Proofs
theorem wR (xs r:List ai) (H:jr xs=some r):bD Tryz.prog 70 [.rslice 1000] [(1000,.row 9 1 (xs.map cA))] (fun v h=>v = .rslice 0∧h=[(0,.row 9 1 (r.map cA))]):=wO Tryz.lays194 xs r H
end Go.Proofs.YtadjhpbkknifeaaGreatDoor
namespace Go.Ab
open Go.RowKit Go.Sh
def dG {V:Type} (c:V→List AV) (m:List (ai×List V)):jx:=m.map fun p=>(p.1,some (p.2.map c))
theorem BD {V:Type} (c:V→List AV) (y:ai):∀ m:List (ai×List V),Ha y (dG c m)=true
 | []=>rfl
 | (k,r)::m=>by
  show (if k=y then (some (r.map c)).isSome else Ha y (dG c m))=true;split
  ·rfl
  ·exact BD c y m
theorem yp {V:Type} (c:V→List AV) (y:ai):∀ m:List (ai×List V),rC y (dG c m)=(dy [] y m).map c
 | []=>rfl
 | (k,r)::m=>by
  show (if k=y then (some (r.map c)).getD [] else rC y (dG c m))=(if k=y then r else dy [] y m).map c;split
  ·rfl
  ·exact yp c y m
theorem zh {V:Type} (c:V→List AV) (y:ai) (v:List V):∀ m:List (ai×List V),eR y (v.map c) (dG c m)=dG c (dn y v m)
 | []=>rfl
 | (k,r)::m=>by
  show (if k=y then (y,some (v.map c))::dG c m else (k,some (r.map c))::eR y (v.map c) (dG c m))=dG c (if k=y then (y,v)::m else (k,r)::dn y v m);split
  ·rfl
  ·rw [zh c y v m];rfl
theorem sU (y:ai) (v:List (List AV)):∀ es:jx,eR y v (cM y es)=eR y v es
 | []=>rfl
 | (k,r)::es=>by
  unfold cM;by_cases h:k=y
  ·rw [if_pos h];simp [eR,h]
  ·rw [if_neg h];simp only [eR,if_neg h];rw [sU y v es]
theorem Gh {V:Type} (c:V→List AV) (y:ai) (v:List V) (m:List (ai×List V)):eR y (v.map c) (cM y (dG c m))=dG c (dn y v m):=by rw [sU,zh]
theorem E1 {V:Type} (c:V→List AV) (y:ai) (v:List V) (m:List (ai×List V)):eR y (v.map c) (iA y (cM y (dG c m)))=dG c (dn y v m):=by rw [zX,sU,zh]
theorem vZ {V:Type} (c:V→List AV) (m:List (ai×List V)):(dG c m).length=m.length:=KP ..
theorem zx {V:Type} (c:V→List AV) (y:ai) (m:List (ai×List V)) (h:m.length+1<1000000):(cM y (dG c m)).length<1000000:=by rw [po,vZ];omega
theorem Gl {V:Type} (c:V→List AV) (y:ai) (m:List (ai×List V)) (h:m.length+1<1000000):(iA y (cM y (dG c m))).length<1000000:=by have h1:=Ap y (cM y (dG c m));rw [po,vZ] at h1;omega
theorem DQ {V:Type} (c:V→List AV) (m:List (ai×List V)):((dG c m).all fun p=>p.2.isSome)=true:=by rw [KU];intro p hp;obtain ⟨x,_,rfl⟩:=List.mem_map.1 hp;rfl
theorem tX {V:Type} (c:V→List AV) (m:List (ai×List V)):HP (dG c m)=m.map (bA fun x=>[AV.dslice (x.map c)]):=by show (m.map _).map _=_;rw [List.map_map];rfl
def kP {V:Type} (c:V→List AV) (m:List (List V)):ui:=m.map fun r=>some (r.map c)
section
variable {V:Type} (c:V→List AV) (m:List (List V))
theorem nh:(kP c m).length=m.length:=KP ..
theorem GD {n:Nat} (h:n<m.length):n<(kP c m).length:=by rw [nh];exact h
theorem Dr {n i:Nat} (h:n<m.length):n<((kP c m).set i none).length:=by rw [List.length_set,nh];exact h
theorem DG {n:Nat} (h:n<m.length):(kP c m).getD n none=some ((m.getD n []).map c):=by simp [kP,KH,KI h]
theorem C4 (n:Nat) (v:List V):((kP c m).set n none).set n (some (v.map c))=kP c (m.set n v):=by rw [List.set_set];unfold kP;rw [List.map_set]
theorem Db {b:Nat} (h:(m.length+1)*b≤140737488355328∧m.length<1000000):((kP c m).length+1)*b≤140737488355328∧(kP c m).length<1000000:=by rw [nh];exact h
theorem Dh:kP c m++[some []]=kP c (m++[[]]):=by unfold kP;rw [List.map_append];rfl
theorem CP:((kP c m).all fun p=>p.isSome)=true:=by rw [KU];intro p hp;obtain ⟨x,_,rfl⟩:=List.mem_map.1 hp;rfl
theorem CY:HF (kP c m)=m.map fun r=>[AV.dslice (r.map c)]:=by unfold HF kP;rw [List.map_map];rfl
end
theorem bD.es {P:Program} {f:FuncId} {args:List AV} {h0:List (Nat×AO)} {Q:AV→List (Nat×AO)→Prop} (i:Nat) (h:bD P f (args.set i (.dslice [])) h0 Q) (hi:args.getD i .any = .eslice):bD P f args h0 Q :=
 fun c vs hl hr hg=>h c vs (by simpa using hl) hr fun j hj=>by
  have hj':j<args.length:=by simpa using hj
  by_cases e:j=i
  ·subst e;have h1:=hg j hj';rw [hi] at h1;obtain ⟨ad,e1⟩:=h1.eslice_inv;rw [e1];have h2:(args.set j (.dslice [])).getD j .any = .dslice []:=by simp [KH,hj']
   rw [h2];exact .d (.dnil _ _ (Nat.zero_le _))
  ·have h2:(args.set i (.dslice [])).getD j .any=args.getD j .any:=by simp [KH,List.getElem?_set,Ne.symm e]
   rw [h2];exact hg j hj'
end Go.Ab
