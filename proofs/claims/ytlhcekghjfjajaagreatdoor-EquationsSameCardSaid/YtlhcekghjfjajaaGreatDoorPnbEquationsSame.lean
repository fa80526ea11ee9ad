/- Plain laws: what the walked functions compute answers as the statement says. -/
import Derived.Test.YtlhcekghjfjajaaGreatDoorPnaEquationsSame
import Derived.KernelRfl
set_option linter.unusedSimpArgs false
set_option linter.unusedVariables false
namespace Go.Proofs.YtlhcekghjfjajaaGreatDoor
open Go.Ab Go.Sh
def j9:Nat→Nat→Nat→List Linear→List Bind→Option Rs
 | 0,_,n,qs,bs=>some (.ok n qs bs)
 | k+1,i,n,qs,bs=>match ju 4294967296 i n qs bs with
  | some (.ok m qs' bs')=>j9 k (i+1) m qs' bs'
  | e=>e
theorem Da {l:List Linear}:∀ (k i n:Nat) (qs:List Linear) (bs:List Bind),i+k=l.length→gE n qs bs→Inv l i qs bs→bs.length≤n+i→∀ (m:Nat) (qs':List Linear) (bs':List Bind),j9 k i n qs bs=some (.ok m qs' bs') →
 gE m qs' bs'∧Inv l l.length qs' bs'∧n≤m∧bs'.length≤m+l.length
 | 0,i,n,qs,bs,hk,h,hI,hb,m,qs',bs',e=>by
  simp only [j9] at e;injection e with e
  injection e with e1 e2 e3
  subst e1;subst e2;subst e3;have:i=l.length:=by omega
  subst this;exact ⟨h,hI,Nat.le_refl _,hb⟩
 | k+1,i,n,qs,bs,hk,h,hI,hb,m,qs',bs',e=>by
  simp only [j9] at e;have hi:i<qs.length:=by rw [hI.len];omega
  cases hr:ju 4294967296 i n qs bs with
  | none=>rw [hr] at e;cases e
  | some r =>
   cases r with
   | no=>rw [hr] at e;cases e
   | lim=>rw [hr] at e;cases e
   | ok m1 qs1 bs1 =>
    rw [hr] at e;simp only at e;obtain ⟨a1,a2,a3,a4,a5⟩:=ra 4294967296 i n i qs bs h hi (.inl hb) m1 qs1 bs1 hr;have hI1:=GC (Ad 4294967296 i n qs bs h hI hi m1 qs1 bs1 hr) (by omega) a4;obtain ⟨b1,b2,b3,b4⟩:=Da k (i+1) m1 qs1 bs1 (by omega) a1 hI1 (by omega) m qs' bs' e;exact ⟨b1,b2,by omega,b4⟩
theorem xa:∀ (k i n:Nat) (qs:List Linear) (bs:List Bind),i+k=qs.length→gE n qs bs→bs.length≤n+i→∃ r,j9 k i n qs bs=some r
 | 0,i,n,qs,bs,_,_,_=>⟨_,rfl⟩
 | k+1,i,n,qs,bs,hk,h,hb=>by
  simp only [j9];obtain ⟨r,hr⟩:=Ak (N:=4294967296) h (show i<qs.length by omega) (by omega);rw [hr];cases r with
  | no=>exact ⟨_,rfl⟩
  | lim=>exact ⟨_,rfl⟩
  | ok m1 qs1 bs1 =>
   simp only;obtain ⟨a1,a2,a3,a4,a5⟩:=ra 4294967296 i n i qs bs h (by omega) (.inl hb) m1 qs1 bs1 hr;exact xa k (i+1) m1 qs1 bs1 (by omega) a1 (by omega)
noncomputable def xT (N:Nat) (s1:Int×List Rw×List Bind×Int):Option (fX (Int×List Rw×List Bind×Int) (List Rw×List Bind×Int) DY) :=
 bif decide (s1.1<((N:Nat):Int)) then (
  (kD (σ:=((List ab)×(List Bind)×Int)) (ε:=((List ab)×(List Bind)×Int)) (ρ:=(fX (Int×(List ab)×(List Bind)×Int) ((List ab)×(List Bind)×Int) ((List Bind)×Int×ah×Int))) (fun s2 =>
   bH (0≤s1.1∧s1.1<(s2.1.length:Int)) <|
   bH (s1.1.toNat<s2.1.length) <|
   (dE (Linear.mk (((s2.1.getD s1.1.toNat (⟨⟨0,[]⟩,[],0,false⟩)).q).Const) (((s2.1.getD s1.1.toNat (⟨⟨0,[]⟩,[],0,false⟩)).q).Terms))).bind fun y2 =>
   bif y2 then (
    some (.brk (s2.1,s2.2.1,s2.2.2))
   ) else (
    (bg s1.1 s2.2.2 s2.1 s2.2.1).bind fun y3 =>
    bif (y3.1.2==0) then (
     some (.go (y3.2.2.1,y3.2.2.2,y3.2.1))
    ) else (
     some (.ret (.ret ([],0,y3.1.1,y3.1.2)))
    )
   )
  ) 4294967296 (s1.2.1,s1.2.2.1,s1.2.2.2)).bind <| Sh.aft fun u1 =>
  some (.go ((aD (s1.1+1)),u1.1,u1.2.1,u1.2.2))
 ) else (
  some (.brk (s1.2.1,s1.2.2.1,s1.2.2.2))
 )
theorem Dd {N i:Nat} (hi:i<N) (rows:List Rw) (bs:List Bind) (n:Int):xT N ((i:Int),rows,bs,n)=(kD (BU i) 4294967296 (rows,bs,n)).bind (Sh.aft fun u1=>some (.go ((aD ((i:Int)+1)),u1.1,u1.2.1,u1.2.2))):=by unfold xT;rw [Ko (show (i:Int)<(N:Int) by omega),cond_true];rfl
theorem HB {L:Nat} (hL:L≤6000):∀ (k i N n:Nat) (rows:List Rw) (bs:List Bind),i+k=L→k<N→rows.length=L→gE n (rows.map (·.q)) bs→(∀ r∈rows,wR L r)→bs.length≤n+i →
 (∀ (m:Nat) (qs':List Linear) (bs':List Bind),j9 k i n (rows.map (·.q)) bs=some (.ok m qs' bs')→∃ rows',kD (xT L) N ((i:Int),rows,bs,(n:Int))=some (.brk (rows',bs',(m:Int)))) ∧
 (j9 k i n (rows.map (·.q)) bs=some .no→∃ f,kD (xT L) N ((i:Int),rows,bs,(n:Int))=some (.ret ([],0,f,9))) ∧
 (j9 k i n (rows.map (·.q)) bs=some .lim→∃ f,kD (xT L) N ((i:Int),rows,bs,(n:Int))=some (.ret ([],0,f,3)))
 | 0,i,N,n,rows,bs,hk,hN,hl,h,hr,hb=>by
  obtain ⟨N,rfl⟩:∃ j,N=j+1:=⟨N-1,by omega⟩;simp only [j9,kD];have e0:xT L ((i:Int),rows,bs,(n:Int))=some (.brk (rows,bs,(n:Int))):=by unfold xT;rw [Kn (show ¬ (i:Int)<(L:Int) by omega)];rfl
  rw [e0];refine ⟨fun m qs' bs' e => ?_,fun e=>(by injection e with e;cases e),fun e=>(by injection e with e;cases e)⟩;injection e with e
  injection e with e1 e2 e3
  subst e1;subst e3;exact ⟨rows,rfl⟩
 | k+1,i,N,n,rows,bs,hk,hN,hl,h,hr,hb=>by
  obtain ⟨N,rfl⟩:∃ j,N=j+1:=⟨N-1,by omega⟩;have hi:i<rows.length:=by omega
  have hiq:i<(rows.map (·.q)).length:=by simpa using hi
  simp only [j9,kD];rw [Dd (show i<L by omega)];obtain ⟨r1,r2,r3⟩:=HI 4294967296 i n i rows bs hi (by omega) h (fun r hm=>by rw [hl];exact hr r hm) (by omega) (.inl hb);obtain ⟨r,e⟩:=Ak (N:=4294967296) h hiq (by omega);rw [e];cases r with
  | no =>
   obtain ⟨f,e2⟩:=r2 e;rw [e2];exact ⟨fun m qs' bs' e=>(by injection e with e;cases e),fun _=>⟨f,rfl⟩,fun e=>(by injection e with e;cases e)⟩
  | lim =>
   obtain ⟨f,e2⟩:=r3 e;rw [e2];exact ⟨fun m qs' bs' e=>(by injection e with e;cases e),fun e=>(by injection e with e;cases e),fun _=>⟨f,rfl⟩⟩
  | ok m1 qs1 bs1 =>
   obtain ⟨rows1,q1,l1,o1,e2⟩:=r1 m1 qs1 bs1 e;obtain ⟨a1,a2,a3,a4,a5⟩:=ra 4294967296 i n i (rows.map (·.q)) bs h hiq (.inl hb) m1 qs1 bs1 e;rw [e2];simp only [Option.bind_some,Sh.aft,yn];have e3:aD ((i:Int)+1)=((i+1:Nat):Int):=by rw [bJ (by omega) (by omega)];omega
   rw [e3,← q1];rw [← q1] at a1;exact HB hL k (i+1) N m1 rows1 bs1 (by omega) (by omega) (by omega) a1 (fun r hm=>by rw [← hl];exact o1 r hm) (by omega)
theorem qn {p q:Nat→Bool} {n:Nat} (h:∀ t,t<n→p t=q t):∀ (f lo hi:Nat),hi≤n→Lib.bsGo p f lo hi=Lib.bsGo q f lo hi
 | 0,lo,hi,_=>rfl
 | f+1,lo,hi,hn=>by
  unfold Lib.bsGo;by_cases hl:lo<hi
  ·rw [if_pos hl,if_pos hl,h _ (by omega),qn h f _ hi hn,qn h f lo _ (by omega)]
  ·rw [if_neg hl,if_neg hl]
theorem Dz {xs:List aw} (hs:xs.Pairwise (fun a b=>Op.bytesLess a b=true)) (x:aw):∃ k,oY xs x=k∧k≤xs.length∧(∀ t,t<k→Op.bytesLess (xs.getD t []) x=true)∧∀ t,k≤t→t<xs.length→Op.bytesLess (xs.getD t []) x=false:=by
 have hk:∃ k,k≤xs.length∧(∀ t,t<k→Op.bytesLess (xs.getD t []) x=true)∧∀ t,k≤t→t<xs.length→Op.bytesLess (xs.getD t []) x=false:=by
  induction xs with
  | nil=>exact ⟨0,by simp,fun t h=>by omega,fun t _ h=>by simp at h⟩
  | cons y ys ih =>
   have h':=List.pairwise_cons.1 hs;by_cases hy:Op.bytesLess y x=true
   ·obtain ⟨k,a,b,c⟩:=ih h'.2;refine ⟨k+1,by simp;omega,fun t ht => ?_,fun t h1 h2 => ?_⟩
    ·cases t with
     | zero=>exact hy
     | succ t=>exact b t (by omega)
    ·cases t with
     | zero=>omega
     | succ t=>exact c t (by omega) (by simpa using h2)
   ·refine ⟨0,by simp,fun t h=>by omega,fun t _ h2 => ?_⟩;cases t with
    | zero=>exact Bool.eq_false_iff.2 hy
    | succ t =>
     rw [Bool.eq_false_iff];intro hc;have hm:ys.getD t []∈ys:=ba _ (by simpa using h2);exact hy (fA _ _ _ (h'.1 _ hm) hc)
 obtain ⟨k,a,b,c⟩:=hk;refine ⟨k,?_,a,b,c⟩;unfold oY;rw [qn (q:=fun t=>decide (t<xs.length)&&Op.bytesLess (xs.getD t []) x) (n:=xs.length) (fun t ht=>by simp [ht]) _ _ _ (Nat.le_refl _)];refine Lib.bsGo_spec _ k (fun t ht=>by simp only [Kj,decide_eq_true_eq];exact ⟨by omega,b t ht⟩) (fun t ht => ?_) _ _ _ (by omega) (Nat.zero_le _) a;by_cases h:t<xs.length
 ·simp only [h,decide_true,Bool.true_and];exact c t ht h
 ·simp only [h,decide_false,Bool.false_and]
theorem IH {xs:List aw} (hs:xs.Pairwise (fun a b=>Op.bytesLess a b=true)) (x:aw):(decide (oY xs x<xs.length)&&(xs.getD (oY xs x) []==x))=decide (x∈xs):=by
 obtain ⟨k,e,a,b,c⟩:=Dz hs x;rw [e,Bool.eq_iff_iff];simp only [Kj,decide_eq_true_eq,beq_iff_eq];constructor
 ·rintro ⟨h1,h2⟩;rw [← h2];exact ba _ h1
 ·intro hm;obtain ⟨j,hj,ej⟩:=List.getElem_of_mem hm;have hjx:xs.getD j []=x:=by rw [getD_at [] hj];exact ej
  have h1:¬ j<k:=fun h=>by have:=b j h;rw [hjx,dT] at this;cases this
  have hkl:k<xs.length:=by omega
  refine ⟨hkl,?_⟩;rcases sk (xs.getD k []) x with h | h | h
  ·rw [c k (Nat.le_refl _) hkl] at h;cases h
  ·exact h
  ·exfalso;by_cases e2:j=k
   ·subst e2;rw [hjx,dT] at h;cases h
   ·have hp:=List.pairwise_iff_getElem.1 hs k j hkl hj (by omega);rw [ej] at hp;rw [getD_at [] hkl] at h;have:=fA _ _ _ h hp;rw [dT] at this;cases this
theorem uL {xs:List aw} (hs:xs.Pairwise (fun a b=>Op.bytesLess a b=true)) (hl:xs.length≤1000000) (x:aw):∃ i,fi xs x=some (i,decide (x∈xs)):=by unfold fi;rw [ax (by omega),IH hs];exact ⟨_,rfl⟩
def fg (l:List Linear) (j:Nat):List Rw:=(List.range j).map fun i=>ab.mk (l.getD i bh) [((i:Int),1)] 1 false
theorem G6 (l:List Linear):(fg l l.length).map (·.q)=l:=by unfold fg;rw [List.map_map];refine List.ext_getElem (by simp) fun i h1 h2 => ?_;simp only [List.getElem_map,List.getElem_range,Function.comp];exact getD_at bh h2
theorem zh (l:List Linear):∀ r∈fg l l.length,wR (l.length:Nat) r:=by
 intro r hr;obtain ⟨i,hi,rfl⟩:=List.mem_map.1 hr;have hi:i<l.length:=by simpa using hi
 exact ⟨by simp,by show (1:Int)≠0;omega,fun y hy=>by
  have:y=(i:Int):=by simpa using hy
  omega⟩
def GR (l:List Linear) (bs:List Bind):List Bind:=gJ (fun x y=>iG x.Var y.Var) (bs.filter fun b=>decide (b.Var∈fh l))
theorem Dy (l:List Linear) (p:Linear→Bool):∀ x:Option Nat,(match x with | some j=>((j:Nat):Int) | none => -1)=idxOf p l →
 (some (match x with | some j=>(Out.ret ((j:Nat):Int):Out Unit Int) | none=>.brk ())).bind (Sh.aft fun u0=>some (-1))=some (idxOf p l)
 | some j,h=>congrArg some h
 | none,h=>congrArg some h
theorem ij {l:List Linear} (hk:∀ q∈l,GH q):bX l=some (l.all aq):=by
 have h1:ca l=some (idxOf (fun q => !aq q) l):=by
  unfold ca;rw [vy (f:=fun j=>((j:Nat):Int)) (fun j=>(fun q => !aq q) (l.getD j bh)) _ _ () (fun j u h1 h2=>by have hm:l.getD j bh∈l:=ba _ (by omega);have ho:=hk _ hm;unfold fQ;rw [re,dV _ ho.1 ho.2];simp only [Option.bind_some];cases aq (l.getD j bh)<;>rfl)]
  exact Dy l (fun q => !aq q) _ (xN (fun q => !aq q) bh l)
 unfold bX cz;rw [h1];simp only [Option.bind_some];have h2:=pG (fun q => !aq q) l;congr 1;rw [Bool.eq_iff_iff];simp only [Bool.not_eq_true',decide_eq_false_iff_not,Ku];constructor
 ·intro h q hq;have:=h2.1 (by omega);rw [List.any_eq_false] at this;simpa using this q hq
 ·intro h hc;have:idxOf (fun q => !aq q) l<0:=h2.2 (List.any_eq_false.2 fun q hq=>by simp [h q hq]);omega
def jC (l:List Linear) (n:Nat):(List Bind×Int)×Int:=match j9 l.length 0 n l [] with
 | some (.ok m _ bs)=>((GR l bs,(m:Int)),0)
 | some .no=>(([],0),9)
 | _=>(([],0),3)
theorem n5 {l:List Linear} {n:Nat} (hv:∀ q∈l,aq q=true) (h1:1≤n) (h2:n<1000000000) (hg:A5 l<n):gE n l []:=by refine ⟨h1,h2,fun q hq=>⟨hv q hq,fun t ht => ?_⟩,fun b hb=>by simp at hb⟩;obtain ⟨_,hm,_⟩:=lp (l:=l) fun q hq=>b8 (hv q hq);have h3:=(CE (fh l) 0).2 t.Var ((hm _).2 ⟨q,hq,t,ht,rfl⟩);have h4:(fh l).foldl (fun n v=>if nV v>n then nV v else n) 0<n:=hg;omega
theorem zx {l:List Linear} {n:Nat} (hv:∀ q∈l,aq q=true) (h1:1≤n) (h2:n<1000000000) (hg:A5 l<n) (hl:l.length≤6000) :
 ∃ f,aU l (n:Int)=some ((jC l n).1.1,(jC l n).1.2,f,(jC l n).2)∧((jC l n).2=0→f=ah.mk [] 0):=by
 have hS:=n5 hv h1 h2 hg;unfold aU;rw [ij fun q hq=>jD (hv q hq),Ku.2 hv];simp only [Option.bind_some,cond_true];rw [Kn (show ¬ (n:Int)<1 by omega),Kn (show ¬ (n:Int)≥1000000000 by omega),dO hv hl];simp only [cond_false,Option.bind_some];rw [Kn (show ¬ A5 l≥(n:Int) by omega),Kn (show ¬ (l.length:Int)>6000 by omega)];simp only [cond_false];obtain ⟨s',e1,e2⟩:=tU (ε:=List Rw) (ρ:=Empty) (fin:=fun i0 s0=>s0) (fun j s=>s=fg l j)
  (body:=fun i0 s0 =>
   bH ((s0.length+1)*56≤140737488355328) <|
   some (.go (s0++[(ab.mk (Linear.mk ((l.getD i0 ⟨0,[]⟩).Const) ((l.getD i0 ⟨0,[]⟩).Terms)) (ksort (bL (((i0:Nat):Int):Int) 1 [])) 1 false)]))) (l.length-0) 0 [] rfl (fun j s _ hj hs=>by
   refine ⟨_,ax (by rw [hs];simp [fg];omega),?_⟩;rw [hs];unfold fg;rw [List.range_succ,List.map_append];rfl)
 refine Exists.imp (fun f=>And.imp_left fun h=>(congrArg (fun o:Option (Out (List Rw) Empty)=>Option.bind o _) e1).trans h) ?_;simp only [Option.bind_some,dG];have e2:s'=fg l l.length:=by rw [e2];congr 1;omega
 rw [e2];have hlen:(fg l l.length).length=l.length:=by simp [fg]
 have hq:=G6 l;have hS':gE n ((fg l l.length).map (·.q)) []:=by rw [hq];exact hS
 obtain ⟨w1,w2,w3⟩:=HB hl l.length 0 4294967296 n (fg l l.length) [] (by omega) (by omega) hlen hS' (zh l) (by simp);rw [hq] at w1 w2 w3;rw [hlen];obtain ⟨r,hr⟩:=xa l.length 0 n l [] (by omega) hS (by simp);unfold jC;rw [hr] at w1 w2 w3 ⊢;cases r with
 | no =>
  obtain ⟨f,e⟩:=w2 rfl;refine ⟨f,?_,fun h=>absurd (show (9:Int)=0 from h) (by decide)⟩;refine (congrArg (fun o:Option (Out (List Rw×List Bind×Int) DY)=>Option.bind o _) e).trans ?_;rfl
 | lim =>
  obtain ⟨f,e⟩:=w3 rfl;refine ⟨f,?_,fun h=>absurd (show (3:Int)=0 from h) (by decide)⟩;refine (congrArg (fun o:Option (Out (List Rw×List Bind×Int) DY)=>Option.bind o _) e).trans ?_;rfl
 | ok m qs bs =>
  obtain ⟨rows',e⟩:=w1 m qs bs rfl;obtain ⟨a1,a2,a3,a4⟩:=Da l.length 0 n l [] (by omega) hS (DG l) (by simp) m qs bs hr;refine ⟨ah.mk [] 0,?_,fun _=>rfl⟩;refine (congrArg (fun o:Option (Out (List Rw×List Bind×Int) DY)=>Option.bind o _) e).trans ?_;simp only [Option.bind_some,Sh.aft];have hm:=a1.n2;rw [Kn (show ¬ (m:Int)≥1000000000 by omega)];simp only [cond_false];have hl12:∀ q∈l,q.Terms.length≤12:=fun q hq=>b8 (hv q hq);obtain ⟨v1,_,v3⟩:=lp hl12;rw [fp hl12 hl];simp only [Option.bind_some];have hb:=dU (ε:=List Bind) (ρ:=Empty) (f:=fun s=>s) (fin:=fun i1 s3=>s3) A6 bs (fun b s=>fX.go (bif !(decide (b.Var∈fh l)) then s else s++[b])) (fun j s=>s.length≤j)
   (body:=fun i1 s3 =>
    (fi (fh l) ((bs.getD i1 (⟨0,[],⟨0,[]⟩,⟨[],[]⟩,[]⟩)).Var)).bind fun y5 =>
    ((
     bif y5.2 then (
      bH ((s3.length+1)*112≤140737488355328) <|
      some (s3++[(Bind.mk ((bs.getD i1 (⟨0,[],⟨0,[]⟩,⟨[],[]⟩,[]⟩)).Kind) ((bs.getD i1 (⟨0,[],⟨0,[]⟩,⟨[],[]⟩,[]⟩)).Var) (Linear.mk (((bs.getD i1 (⟨0,[],⟨0,[]⟩,⟨[],[]⟩,[]⟩)).Dim).Const) (((bs.getD i1 (⟨0,[],⟨0,[]⟩,⟨[],[]⟩,[]⟩)).Dim).Terms)) (Shape.mk (((bs.getD i1 (⟨0,[],⟨0,[]⟩,⟨[],[]⟩,[]⟩)).Row).Row) (((bs.getD i1 (⟨0,[],⟨0,[]⟩,⟨[],[]⟩,[]⟩)).Row).Dims)) ((bs.getD i1 (⟨0,[],⟨0,[]⟩,⟨[],[]⟩,[]⟩)).Elem))])
     ) else (
      some s3
     )
    ):Option (List Bind)).bind fun v1 =>
    some (.go v1)) (fun _ _=>rfl) [] (Nat.zero_le _) (fun j s hj hI=>by
    obtain ⟨x,ex⟩:=uL v1 (by omega) (bs.getD j A6).Var;refine ⟨?_,fun s' hs' => ?_⟩
    ·refine (congrArg (fun o:Option (Int×Bool)=>Option.bind o _) ex).trans ?_;simp only [Option.bind_some];cases decide ((bs.getD j A6).Var∈fh l) with
     | false=>rfl
     | true =>
      simp only [cond_true];rw [ax (by omega)];rfl
    ·injection hs' with hs'
     subst hs';cases !(decide ((bs.getD j A6).Var∈fh l))<;>simp<;>omega)
  rw [oE (fun b:Bind => !(decide (b.Var∈fh l))) (fun b=>b)] at hb;refine (congrArg (fun o:Option (Out (List Bind) Empty)=>Option.bind o _) hb).trans ?_;simp only [Option.bind_some,dG,List.nil_append,List.map_id'];have hfl:(bs.filter fun u => !!(decide (u.Var∈fh l)))=bs.filter fun b=>decide (b.Var∈fh l):=by congr 1;funext b;rw [Bool.not_not]
  rw [hfl];unfold iB;have hlf:=List.length_filter_le (fun b:Bind=>decide (b.Var∈fh l)) bs;rw [ax ⟨by omega,(List.Sublist.map _ List.filter_sublist).nodup a2.D⟩];rfl
def z7 (l:Linear):Bool:=l.Terms.all (fun t=>decide (t.Var.length≤40))&&decide (l.Terms.length≤6)
theorem xV (l:Linear):nf l 6=some (z7 l):=by
 unfold nf;rw [gT (r:=false) (fun j=>(fun t:ak=>decide (t.Var.length≤40)) (l.Terms.getD j ⟨[],0⟩)) _ _ () (fun j u _ _=>by simp only;rw [show decide (((l.Terms.getD j ⟨[],0⟩).Var.length:Int)>40) = !decide ((l.Terms.getD j ⟨[],0⟩).Var.length≤40) from Im (b:=40)];cases decide ((l.Terms.getD j ⟨[],0⟩).Var.length≤40)<;>rfl)]
 rw [FN (fun t:ak=>decide (t.Var.length≤40)) ⟨[],0⟩ l.Terms,jJ];unfold z7;rw [show decide ((l.Terms.length:Int)≤6)=decide (l.Terms.length≤6) from F2 (b:=6)];cases l.Terms.all fun t=>decide (t.Var.length≤40)<;>rfl
theorem yy (l:List Linear) (k:Nat):mX l (k:Int)=some (l.all z7&&decide (l.length≤k)):=by
 unfold mX;rw [gT (r:=false) (fun j=>z7 (l.getD j bh)) _ _ () (fun j u _ _=>by rw [re,xV];simp only [Option.bind_some];cases z7 (l.getD j bh)<;>rfl)]
 rw [FN z7 bh l,jJ,F2];cases l.all z7<;>rfl
theorem D1 {l:List Linear} {next:Int} (hk:∀ q∈l,GH q) (hl:l.length≤6000) (h:(∀ q∈l,aq q=true)→1≤next→next<1000000000→¬ A5 l<next):aU l next=some ([],0,ah.mk [] 0,1):=by
 unfold aU;rw [ij hk];cases hv:l.all aq with
 | false=>rfl
 | true =>
  rw [Ku] at hv;simp only [Option.bind_some,cond_true];by_cases h1:next<1
  ·rw [Ko h1];rfl
  ·rw [Kn h1];by_cases h2:next≥1000000000
   ·rw [Ko h2];rfl
   ·rw [Kn h2,dO hv hl];simp only [cond_false,Option.bind_some];rw [Ko (show A5 l≥next from by have:=h hv (by omega) (by omega);omega)];rfl
section
variable {α:Type} (v:α→aw)
def D5 (t:α):List α→List α
 | []=>[t]
 | u::us=>bif Op.bytesLess (v u) (v t) then u::D5 t us else t::u::us
def DI:List α→List α
 | []=>[]
 | t::ts=>D5 v t (DI ts)
def JS:List α→Bool
 | []=>true
 | t::ts => !(ts.any fun u=>v u==v t)&&JS ts
theorem Fy:∀ {ts:List α},JS v ts=true→(ts.map v).Nodup
 | [],_=>List.nodup_nil
 | t::ts,h=>by simp only [JS,Kj,Bool.not_eq_true',List.any_eq_false,beq_iff_eq] at h;rw [List.map_cons,List.nodup_cons];refine ⟨fun hm => ?_,Fy h.2⟩;obtain ⟨u,hu,e⟩:=List.mem_map.1 hm;exact h.1 u hu e
theorem rL (t:α):∀ us:List α,(D5 v t us).Perm (t::us)
 | []=>.refl _
 | u::us=>by
  unfold D5;cases Op.bytesLess (v u) (v t) with
  | true=>exact ((rL t us).cons u).trans (List.Perm.swap t u us)
  | false=>exact .refl _
theorem sF:∀ ts:List α,(DI v ts).Perm ts
 | []=>.refl _
 | t::ts=>(rL v t (DI v ts)).trans ((sF ts).cons t)
def Ho (ts:List α):Prop:=ts.Pairwise fun a b=>Op.bytesLess (v a) (v b)=true
theorem AW {t:α}:∀ {us:List α},Ho v us→(∀ u∈us,v u≠v t)→Ho v (D5 v t us)
 | [],_,_=>List.pairwise_singleton _ _
 | u::us,h,hn=>by
  have h':=List.pairwise_cons.1 h;unfold D5;cases hb:Op.bytesLess (v u) (v t) with
  | true =>
   refine List.pairwise_cons.2 ⟨fun x hx => ?_,AW h'.2 fun x hx=>hn x (by simp [hx])⟩;rcases List.mem_cons.1 ((rL v t us).mem_iff.1 hx) with rfl | hx
   ·exact hb
   ·exact h'.1 x hx
  | false =>
   have ht:Op.bytesLess (v t) (v u)=true:=by
    rcases sk (v u) (v t) with h1 | h1 | h1
    ·rw [hb] at h1;cases h1
    ·exact absurd h1 (hn u (by simp))
    ·exact h1
   refine List.pairwise_cons.2 ⟨fun x hx => ?_,h⟩;rcases List.mem_cons.1 hx with rfl | hx
   ·exact ht
   ·exact fA _ _ _ ht (h'.1 x hx)
theorem zy:∀ {ts:List α},(ts.map v).Nodup→Ho v (DI v ts)
 | [],_=>List.Pairwise.nil
 | t::ts,h=>by rw [List.map_cons,List.nodup_cons] at h;refine AW v (zy h.2) fun u hu e => ?_;exact h.1 (List.mem_map.2 ⟨u,(sF v ts).mem_iff.1 hu,e⟩)
theorem rO (x y:α):Go.Proofs.ltOf (fun x y:α=>iG (v x) (v y)) x y=Op.bytesLess (v x) (v y):=by rw [Bool.eq_iff_iff];simp only [Go.Proofs.ltOf,decide_eq_true_eq,vg]
theorem DP {ts:List α} (h:(ts.map v).Nodup):Ho v (gJ (fun x y=>iG (v x) (v y)) ts):=by
 have h1:(gJ (fun x y=>iG (v x) (v y)) ts).Pairwise fun a b=>(!Go.Proofs.ltOf (fun x y:α=>iG (v x) (v y)) b a)=true:=by
  refine List.pairwise_mergeSort (fun a b c h1 h2 => ?_) (fun a b => ?_) _
  ·simp only [rO,Bool.not_eq_true'] at h1 h2 ⊢;rw [Bool.eq_false_iff];intro h3;rcases sk (v a) (v b) with h4 | h4 | h4
   ·have:=fA _ _ _ h3 h4;rw [this] at h2;cases h2
   ·rw [← h4,h3] at h2;cases h2
   ·rw [h4] at h1;cases h1
  ·simp only [rO];cases h3:Op.bytesLess (v b) (v a) with
   | false=>rfl
   | true =>
    cases h4:Op.bytesLess (v a) (v b) with
    | false=>rfl
    | true=>have:=fA _ _ _ h3 h4;rw [dT] at this;cases this
 have hn:((gJ (fun x y=>iG (v x) (v y)) ts).map v).Nodup:=((List.mergeSort_perm ts _).map v).nodup_iff.2 h;have h2:(gJ (fun x y=>iG (v x) (v y)) ts).Pairwise fun a b=>v a≠v b:=List.pairwise_map.1 hn;refine (List.Pairwise.and h1 h2).imp fun {a b} hab => ?_;have h3:=hab.1;rw [rO,Bool.not_eq_true'] at h3;rcases sk (v a) (v b) with h4 | h4 | h4
 ·exact h4
 ·exact absurd h4 hab.2
 ·rw [h4] at h3;cases h3
theorem EW {ts:List α} (h:(ts.map v).Nodup):gJ (fun x y=>iG (v x) (v y)) ts=DI v ts:=by refine List.Perm.eq_of_pairwise (fun a b _ _ h3 h4 => ?_) (DP v h) (zy v h) ((List.mergeSort_perm ts _).trans (sF v ts).symm);have:=fA _ _ _ h3 h4;rw [dT] at this;cases this
noncomputable def G1 (ts:List α):List α:=bif JS v ts then DI v ts else gJ (fun x y=>iG (v x) (v y)) ts
theorem CL (ts:List α):gJ (fun x y=>iG (v x) (v y)) ts=G1 v ts:=by
 unfold G1;cases h:JS v ts with
 | false=>rfl
 | true=>exact EW v (Fy v h)
end
noncomputable def IP (n:Nat):aw:=bif Nat.blt n 10 then [UInt8.ofNat (48+n)] else dec n
theorem JX (n:Nat):dec n=IP n:=by
 unfold IP;cases h:Nat.blt n 10 with
 | false=>rfl
 | true=>exact sG (by simpa [Nat.blt_eq] using h)
noncomputable def Is (t:ak) (n:Nat) (q:Linear):Linear:=Linear.mk (-(eZ q.Const t.C)) (G1 ak.Var (ak.mk (95::IP n) 1::(q.Terms.filter fun u => !(u.Var==t.Var||eZ u.C t.C==0)).map fun u=>ak.mk u.Var (-(eZ u.C t.C))))
theorem JA (t:ak) (n:Nat) (q:Linear):zI t n q=Is t n q:=by unfold zI A3 mY jB Is;rw [CL ak.Var,JX]
noncomputable def Ke (q:Linear) (t:ak) (i n:Nat) (qs:List Linear) (bs:List Bind):Rs :=
 bif t.C==1||t.C == -1 then rG t.Var (D3 t q) i n (qs.set i q) bs
 else bif decide (n+1≥1000000000) then .lim else rG t.Var (Is t n q) i (n+1) (qs.set i q) bs
noncomputable def vW (i n:Nat) (qs:List Linear) (bs:List Bind):Rs :=
 bif w5 (qs.getD i bh) then .no else Ke (aY (cont (qs.getD i bh)) (qs.getD i bh)) (rD (aY (cont (qs.getD i bh)) (qs.getD i bh)).Terms) i n qs bs
theorem Ip (i n:Nat) (qs:List Linear) (bs:List Bind):gz i n qs bs=vW i n qs bs:=by unfold gz vW Ke;rw [JA]
noncomputable def ES:Nat→Nat→Nat→List Linear→List Bind→Option Rs
 | 0,_,_,_,_=>none
 | f+1,i,n,qs,bs=>bif gw (qs.getD i bh) then some (.ok n qs bs) else
  match vW i n qs bs with
  | .ok m qs' bs'=>ES f i m qs' bs'
  | e=>some e
theorem HP:∀ (f i n:Nat) (qs:List Linear) (bs:List Bind),ju f i n qs bs=ES f i n qs bs
 | 0,_,_,_,_=>rfl
 | f+1,i,n,qs,bs=>by
  simp only [ju,ES];rw [Ip];cases gw (qs.getD i bh) with
  | true=>rfl
  | false =>
   simp only [cond_false];cases vW i n qs bs with
   | no=>rfl
   | lim=>rfl
   | ok m qs' bs'=>exact HP f i m qs' bs'
noncomputable def Fg:Nat→Nat→Nat→List Linear→List Bind→Option Rs
 | 0,_,n,qs,bs=>some (.ok n qs bs)
 | k+1,i,n,qs,bs=>match ES 4294967296 i n qs bs with
  | some (.ok m qs' bs')=>Fg k (i+1) m qs' bs'
  | e=>e
theorem HM:∀ (k i n:Nat) (qs:List Linear) (bs:List Bind),j9 k i n qs bs=Fg k i n qs bs
 | 0,_,_,_,_=>rfl
 | k+1,i,n,qs,bs=>by
  simp only [j9,Fg];rw [HP];cases ES 4294967296 i n qs bs with
  | none=>rfl
  | some r =>
   cases r with
   | no=>rfl
   | lim=>rfl
   | ok m qs' bs'=>exact HM k (i+1) m qs' bs'
def CX (l:List Linear):List aw:=ml ((mc l).map (·.1))
theorem B7 (l:List Linear):fh l=CX l:=zD _
def JZ (l:List Linear):Int:=(CX l).foldl (fun n v=>if nV v>n then nV v else n) 0
theorem JJ (l:List Linear):A5 l=JZ l:=by unfold A5 JZ;rw [B7]
noncomputable def IA (l:List Linear) (bs:List Bind):List Bind:=G1 Bind.Var (bs.filter fun b=>decide (b.Var∈CX l))
theorem Jv (l:List Linear) (bs:List Bind):GR l bs=IA l bs:=by unfold GR IA;rw [CL Bind.Var,B7]
noncomputable def r4 (l:List Linear) (n:Nat):(List Bind×Int)×Int:=match Fg l.length 0 n l [] with
 | some (.ok m _ bs)=>((IA l bs,(m:Int)),0)
 | some .no=>(([],0),9)
 | _=>(([],0),3)
theorem GU (l:List Linear) (n:Nat):jC l n=r4 l n:=by
 unfold jC r4;rw [HM];cases Fg l.length 0 n l [] with
 | none=>rfl
 | some r =>
  cases r with
  | no=>rfl
  | lim=>rfl
  | ok m qs bs=>simp only;rw [Jv]
theorem An {σ ε ρ:Type} {body:σ→Option (fX σ ε ρ)} {N:Nat} {s:σ} {r:ρ} (h:body s=some (.ret r)):kD body (N+1) s=some (.ret r):=by simp only [kD];rw [h];rfl
theorem Ee {l:List Linear} {n:Nat} (hv:∀ q∈l,aq q=true) (h1:1≤n) (h2:n<1000000000) (hg:A5 l<n) (hl:l.length≤6000) (h0:0<l.length) (hz:gw (l.getD 0 bh)=false) (hno:w5 (l.getD 0 bh)=true) :
 aU l (n:Int)=some ([],0,zd l.length (ab.mk (l.getD 0 bh) [(0,1)] 1 false),9):=by
 have hS:=n5 hv h1 h2 hg;unfold aU;rw [ij fun q hq=>jD (hv q hq),Ku.2 hv];simp only [Option.bind_some,cond_true];rw [Kn (show ¬ (n:Int)<1 by omega),Kn (show ¬ (n:Int)≥1000000000 by omega),dO hv hl];simp only [cond_false,Option.bind_some];rw [Kn (show ¬ A5 l≥(n:Int) by omega),Kn (show ¬ (l.length:Int)>6000 by omega)];simp only [cond_false];obtain ⟨s',e1,e2⟩:=tU (ε:=List Rw) (ρ:=Empty) (fin:=fun i0 s0=>s0) (fun j s=>s=fg l j)
  (body:=fun i0 s0 =>
   bH ((s0.length+1)*56≤140737488355328) <|
   some (.go (s0++[(ab.mk (Linear.mk ((l.getD i0 ⟨0,[]⟩).Const) ((l.getD i0 ⟨0,[]⟩).Terms)) (ksort (bL (((i0:Nat):Int):Int) 1 [])) 1 false)]))) (l.length-0) 0 [] rfl (fun j s _ hj hs=>by
   refine ⟨_,ax (by rw [hs];simp [fg];omega),?_⟩;rw [hs];unfold fg;rw [List.range_succ,List.map_append];rfl)
 refine (congrArg (fun o:Option (Out (List Rw) Empty)=>Option.bind o _) e1).trans ?_;simp only [Option.bind_some,dG];have e2:s'=fg l l.length:=by rw [e2];congr 1;omega
 rw [e2];have hlen:(fg l l.length).length=l.length:=by simp [fg]
 have hr0:(fg l l.length).getD 0 ny=ab.mk (l.getD 0 bh) [(0,1)] 1 false:=by rw [getD_at ny (by omega)];unfold fg;rw [List.getElem_map,List.getElem_range];rfl
 have hok:np ((fg l l.length).length:Nat) ((fg l l.length).getD 0 ny):=by have hm:(fg l l.length).getD 0 ny∈fg l l.length:=ba _ (by omega);have h:=zh l _ hm;rw [hlen];exact h.to (by rw [hr0];exact hv _ (ba _ h0))
 have hw:kD (BU 0) 4294967296 (fg l l.length,[],(n:Int))=some (.ret (.ret ([],0,zd l.length (ab.mk (l.getD 0 bh) [(0,1)] 1 false),9))):=by refine An (N:=4294967295) ?_;unfold BU;rw [ax ⟨Int.le_refl _,by rw [hlen];show (0:Int)<_;omega⟩];rw [ax (show (((0:Nat):Int)).toNat<_ by rw [hlen];exact h0),re,mq,show (((0:Nat):Int)).toNat=0 from rfl,hr0];simp only [Option.bind_some];rw [hz];simp only [cond_false];have hs:=step_eq (i:=0) (n:=(n:Int)) (rows:=fg l l.length) (bs:=[]) (by omega) (by omega) hr0 (by rw [hr0] at hok;exact hok);rw [hs];rw [hno];simp only [cond_true,Option.bind_some];rw [hlen];rfl
 rw [hlen];have hall:kD (xT l.length) 4294967296 (0,fg l l.length,[],(n:Int))=some (.ret ([],0,zd l.length (ab.mk (l.getD 0 bh) [(0,1)] 1 false),9)):=by refine An (N:=4294967295) ?_;show xT l.length (((0:Nat):Int),fg l l.length,[],(n:Int))=_;rw [Dd h0,hw];rfl
 refine (congrArg (fun o:Option (Out (List Rw×List Bind×Int) DY)=>Option.bind o _) hall).trans ?_;rfl
noncomputable def lu (l:List Linear):Option (List aw):=bif (l.all fun q=>decide (q.Terms.length≤12))&&decide (l.length≤6000) then some (CX l) else bl l
theorem oR:bl=lu:=by
 funext l;unfold lu;cases h:(l.all fun q=>decide (q.Terms.length≤12))&&decide (l.length≤6000) with
 | false=>rfl
 | true =>
  simp only [Kj,Ku,decide_eq_true_eq] at h;rw [fp h.1 h.2,B7];rfl
noncomputable def sj (l:List Linear):Option Int:=bif l.all aq&&decide (l.length≤6000) then some (JZ l) else cm l
theorem qj:cm=sj:=by
 funext l;unfold sj;cases h:l.all aq&&decide (l.length≤6000) with
 | false=>rfl
 | true =>
  simp only [Kj,Ku,decide_eq_true_eq] at h;rw [dO h.1 h.2,JJ];rfl
def F4 (l:List Linear) (n:Int):Bool:=l.all aq&&(decide (1≤n∧n<1000000000)&&(decide (JZ l<n)&&decide (l.length≤6000)))
noncomputable def uS (l:List Linear) (n:Int):Option (List Bind×Int×ah×Int) :=
 bif F4 l n then
  bif (r4 l n.toNat).2==0 then some ((r4 l n.toNat).1.1,(r4 l n.toNat).1.2,ah.mk [] 0,0)
  else bif decide (0<l.length)&&(!gw (l.getD 0 bh)&&w5 (l.getD 0 bh)) then some ([],0,zd l.length (ab.mk (l.getD 0 bh) [(0,1)] 1 false),9)
  else aU l n
 else aU l n
theorem yo:aU=uS:=by
 funext l n;unfold uS;cases h:F4 l n with
 | false=>rfl
 | true =>
  unfold F4 at h;simp only [Kj,Ku,decide_eq_true_eq] at h;obtain ⟨hv,⟨h1,h2⟩,hg,hl⟩:=h;obtain ⟨n,rfl⟩:∃ k:Nat,n=(k:Int):=⟨n.toNat,by omega⟩;rw [Int.toNat_natCast,cond_true];rw [← JJ] at hg;cases he:(r4 l n).2==0 with
  | true =>
   obtain ⟨f,e,e2⟩:=zx hv (by omega) (by omega) hg hl;rw [GU] at e e2;rw [e,e2 (beq_iff_eq.1 he),beq_iff_eq.1 he];rfl
  | false =>
   cases hno:decide (0<l.length)&&(!gw (l.getD 0 bh)&&w5 (l.getD 0 bh)) with
   | false=>rfl
   | true =>
    simp only [Kj,decide_eq_true_eq,Bool.not_eq_true'] at hno;rw [Ee hv (by omega) (by omega) hg hl hno.1 hno.2.1 hno.2.2];rfl
noncomputable def jn (x0 x1:List Linear):Option ((List Bind)×Int) :=
 (bX x0).bind fun y0 =>
 bif y0 then (
  (bX x1).bind fun y1 =>
  bif y1 then (
   bif decide (((x0.length:Nat):Int)>6000) then (
    some ([],1)
   ) else (
    bif decide (((x1.length:Nat):Int)>6000) then (
     some ([],1)
    ) else (
     bif (((x0.length:Nat):Int)==((x1.length:Nat):Int)) then (
      (sj x0).bind fun y2 =>
      bif decide ((aD (y2+1))≥1000000000) then (
       some ([],3)
      ) else (
       (lu x0).bind fun y3 =>
       bH (112*y3.length≤140737488355328) <|
       (dZ (σ:=(List Bind)) (ε:=(List Bind)) (ρ:=Empty) (fun i0 s0 =>
        bH (i0<s0.length) <|
        some (.go (s0.set i0 (Bind.mk 1 (y3.getD i0 []) (Linear.mk 0 []) (Shape.mk [] []) [])))
       ) (fun i0 s0=>s0) (y3.length-0) 0 (List.replicate y3.length (⟨0,[],⟨0,[]⟩,⟨[],[]⟩,[]⟩))).bind <| dG fun u0 =>
       (lu x1).bind fun y4 =>
       bH ((([[]]:List aw).length+y4.length)*16≤140737488355328) <|
       (dZ (σ:=(List Bind)) (ε:=(List Bind)) (ρ:=((List Bind)×Int)) (fun i1 s1 =>
        (dZ (σ:=(List Linear)) (ε:=(List Linear)) (ρ:=(fX (List Bind) (List Bind) ((List Bind)×Int))) (fun i2 s2 =>
         bH (i2<x1.length) <|
         ((
          bif decide (((i1:Nat):Int)>0) then (
           (cS (Linear.mk ((x1.getD i2 ⟨0,[]⟩).Const) ((x1.getD i2 ⟨0,[]⟩).Terms)) ((([[]]:List aw)++y4).getD i1 [])).bind fun y5 =>
           some (aD (0-y5))
          ) else (
           some (aD (((x0.getD i2 ⟨0,[]⟩).Const)-((x1.getD i2 ⟨0,[]⟩).Const)))
          )
         ):Option Int).bind fun v0 =>
         (bV (Linear.mk v0 ((x0.getD i2 ⟨0,[]⟩).Terms))).bind fun y6 =>
         bif y6 then (
          bH ((s2.length+1)*32≤140737488355328) <|
          some (.go (s2++[(Linear.mk v0 ((x0.getD i2 ⟨0,[]⟩).Terms))]))
         ) else (
          some (.ret (.ret ([],3)))
         )
        ) (fun i2 s2=>s2) (x0.length-0) 0 []).bind <| aft fun u1 =>
        (uS u1 (aD (y2+1))).bind fun y7 =>
        bif (y7.2.2.2==0) then (
         (dZ (σ:=(List Bind)) (ε:=(List Bind)) (ρ:=Empty) (fun i3 s3 =>
          (fi y3 ((y7.1.getD i3 (⟨0,[],⟨0,[]⟩,⟨[],[]⟩,[]⟩)).Var)).bind fun y8 =>
          ((
           bif (((i1:Nat):Int)==0) then (
            bH (0≤y8.1∧y8.1<(s3.length:Int)) <|
            bH (y8.1.toNat<s3.length) <|
            some (s3.set y8.1.toNat (Bind.mk ((s3.getD y8.1.toNat (⟨0,[],⟨0,[]⟩,⟨[],[]⟩,[]⟩)).Kind) ((s3.getD y8.1.toNat (⟨0,[],⟨0,[]⟩,⟨[],[]⟩,[]⟩)).Var) (Linear.mk (((y7.1.getD i3 (⟨0,[],⟨0,[]⟩,⟨[],[]⟩,[]⟩)).Dim).Const) (((s3.getD y8.1.toNat (⟨0,[],⟨0,[]⟩,⟨[],[]⟩,[]⟩)).Dim).Terms)) (Shape.mk (((s3.getD y8.1.toNat (⟨0,[],⟨0,[]⟩,⟨[],[]⟩,[]⟩)).Row).Row) (((s3.getD y8.1.toNat (⟨0,[],⟨0,[]⟩,⟨[],[]⟩,[]⟩)).Row).Dims)) ((s3.getD y8.1.toNat (⟨0,[],⟨0,[]⟩,⟨[],[]⟩,[]⟩)).Elem)))
           ) else (
            bif ((((y7.1.getD i3 (⟨0,[],⟨0,[]⟩,⟨[],[]⟩,[]⟩)).Dim).Const)==0) then (
             some s3
            ) else (
             bH (0≤y8.1∧y8.1<(s3.length:Int)) <|
             bH (y8.1.toNat<s3.length) <|
             bH ((((s3.getD y8.1.toNat (⟨0,[],⟨0,[]⟩,⟨[],[]⟩,[]⟩)).Dim).Terms)=[]) <|
             some (s3.set y8.1.toNat (Bind.mk ((s3.getD y8.1.toNat (⟨0,[],⟨0,[]⟩,⟨[],[]⟩,[]⟩)).Kind) ((s3.getD y8.1.toNat (⟨0,[],⟨0,[]⟩,⟨[],[]⟩,[]⟩)).Var) (Linear.mk (((s3.getD y8.1.toNat (⟨0,[],⟨0,[]⟩,⟨[],[]⟩,[]⟩)).Dim).Const) [(ak.mk ((([[]]:List aw)++y4).getD i1 []) (((y7.1.getD i3 (⟨0,[],⟨0,[]⟩,⟨[],[]⟩,[]⟩)).Dim).Const))]) (Shape.mk (((s3.getD y8.1.toNat (⟨0,[],⟨0,[]⟩,⟨[],[]⟩,[]⟩)).Row).Row) (((s3.getD y8.1.toNat (⟨0,[],⟨0,[]⟩,⟨[],[]⟩,[]⟩)).Row).Dims)) ((s3.getD y8.1.toNat (⟨0,[],⟨0,[]⟩,⟨[],[]⟩,[]⟩)).Elem)))
            )
           )
          ):Option (List Bind)).bind fun v1 =>
          some (.go v1)
         ) (fun i3 s3=>s3) (y7.1.length-0) 0 s1).bind <| dG fun u2 =>
         some (.go u2)
        ) else (
         some (.ret ([],y7.2.2.2))
        )
       ) (fun i1 s1=>s1) ((([[]]:List aw)++y4).length-0) 0 u0).bind <| aft fun u3 =>
       (dZ (σ:=Unit) (ε:=Unit) (ρ:=((List Bind)×Int)) (fun i4 s4 =>
        (bV (Linear.mk (((u3.getD i4 (⟨0,[],⟨0,[]⟩,⟨[],[]⟩,[]⟩)).Dim).Const) (((u3.getD i4 (⟨0,[],⟨0,[]⟩,⟨[],[]⟩,[]⟩)).Dim).Terms))).bind fun y9 =>
        bif y9 then (
         some (.go ())
        ) else (
         some (.ret ([],3))
        )
       ) (fun i4 s4=>()) (u3.length-0) 0 ()).bind <| aft fun u4 =>
       bif (((u3.length:Nat):Int)==0) then (
        some ([],0)
       ) else (
        some (u3,0)
       )
      )
     ) else (
      some ([],14)
     )
    )
   )
  ) else (
   some ([],1)
  )
 ) else (
  some ([],1)
 )
theorem lb:fC=jn:=by funext x0 x1;unfold fC jn;simp only [oR,qj,yo]
noncomputable def jq (x0:List Linear) (x1:ah):Option Bool :=
 (bX x0).bind fun y0 =>
 bif y0 then (
  bif decide (((x0.length:Nat):Int)>6000) then (
   some false
  ) else (
   bif (((x1.Mults.length:Nat):Int)==((x0.length:Nat):Int)) then (
    bif decide (x1.Mod<0) then (
     some false
    ) else (
     bif decide (x1.Mod>1099511627776) then (
      some false
     ) else (
      bH (8*x0.length≤140737488355328) <|
      (dZ (σ:=(List Int)) (ε:=(List Int)) (ρ:=Bool) (fun i0 s0 =>
       bH (i0<x1.Mults.length) <|
       (bN (x1.Mults.getD i0 0) 0).bind fun y1 =>
       bif y1 then (
        bH (i0<s0.length) <|
        some (.go (s0.set i0 ((x0.getD i0 ⟨0,[]⟩).Const)))
       ) else (
        some (.ret false)
       )
      ) (fun i0 s0=>s0) (x0.length-0) 0 (List.replicate x0.length 0)).bind <| aft fun u0 =>
      (lu x0).bind fun y2 =>
      (dZ (σ:=Unit) (ε:=Unit) (ρ:=Bool) (fun i1 s1 =>
       (dZ (σ:=(List Int)) (ε:=(List Int)) (ρ:=Empty) (fun i2 s2 =>
        (cS (Linear.mk ((x0.getD i2 ⟨0,[]⟩).Const) ((x0.getD i2 ⟨0,[]⟩).Terms)) (y2.getD i1 [])).bind fun y3 =>
        bH (i2<s2.length) <|
        some (.go (s2.set i2 y3))
       ) (fun i2 s2=>s2) (x0.length-0) 0 (List.replicate x0.length 0)).bind <| dG fun u1 =>
       (eC x1.Mults u1).bind fun y4 =>
       bif (y4.2==0) then (
        (cY y4.1 x1.Mod).bind fun y5 =>
        bif y5 then (
         some (.go ())
        ) else (
         some (.ret false)
        )
       ) else (
        some (.ret false)
       )
      ) (fun i1 s1=>()) (y2.length-0) 0 ()).bind <| aft fun u2 =>
      (eC x1.Mults u0).bind fun y6 =>
      bif (y6.2==0) then (
       (cY y6.1 x1.Mod).bind fun y7 =>
       some (!y7)
      ) else (
       some false
      )
     )
    )
   ) else (
    some false
   )
  )
 ) else (
  some false
 )
theorem qy:fE=jq:=by funext x0 x1;unfold fE jq;simp only [oR,qj,yo,lb]
noncomputable def rf   : Option Bool :=
 (fF 2 3 (-1)).bind fun y0 =>
 (uS [y0] 1).bind fun y1 =>
 (fF 2 (-4) 1).bind fun y2 =>
 (uS [y2,(Linear.mk 0 [])] 1).bind fun y3 =>
 (pD [107]).bind fun y4 =>
 (fF 1 0 1).bind fun y5 =>
 (fF 1 1 0).bind fun y6 =>
 (cZ (Linear.mk 0 []) y4 3).bind fun y7 =>
 (jn [y5,y6] [y4,y7]).bind fun y8 =>
 bif (y1.2.2.2==0) then (
  bif (y3.2.2.2==9) then (
   bif (y8.2==0) then (
    bif (y1.2.1==2) then (
     bif (((y1.1.length:Nat):Int)==2) then (
      bH (0<y1.1.length) <|
      bif (((y1.1.getD 0 (⟨0,[],⟨0,[]⟩,⟨[],[]⟩,[]⟩)).Var)==[109]) then (
       (dw (Linear.mk (((y1.1.getD 0 (⟨0,[],⟨0,[]⟩,⟨[],[]⟩,[]⟩)).Dim).Const) (((y1.1.getD 0 (⟨0,[],⟨0,[]⟩,⟨[],[]⟩,[]⟩)).Dim).Terms))).bind fun y9 =>
       bif (y9==[45,50,95,49,45,49]) then (
        bH (1<y1.1.length) <|
        (dw (Linear.mk (((y1.1.getD 1 (⟨0,[],⟨0,[]⟩,⟨[],[]⟩,[]⟩)).Dim).Const) (((y1.1.getD 1 (⟨0,[],⟨0,[]⟩,⟨[],[]⟩,[]⟩)).Dim).Terms))).bind fun y10 =>
        bif (y10==[51,95,49,43,50]) then (
         (lV [y2,(Linear.mk 0 [])] y3.2.2.1).bind fun y11 =>
         bif y11 then (
          (jq [y2,(Linear.mk 0 [])] (ah.mk [1,0] 2)).bind fun y12 =>
          bif y12 then (
           bif (((y8.1.length:Nat):Int)==2) then (
            bH (0<y8.1.length) <|
            (dw (Linear.mk (((y8.1.getD 0 (⟨0,[],⟨0,[]⟩,⟨[],[]⟩,[]⟩)).Dim).Const) (((y8.1.getD 0 (⟨0,[],⟨0,[]⟩,⟨[],[]⟩,[]⟩)).Dim).Terms))).bind fun y13 =>
            bif (y13==[50,107,43,49]) then (
             bH (1<y8.1.length) <|
             (dw (Linear.mk (((y8.1.getD 1 (⟨0,[],⟨0,[]⟩,⟨[],[]⟩,[]⟩)).Dim).Const) (((y8.1.getD 1 (⟨0,[],⟨0,[]⟩,⟨[],[]⟩,[]⟩)).Dim).Terms))).bind fun y14 =>
             some (y14==[107,45,49])
            ) else (
             some false
            )
           ) else (
            some false
           )
          ) else (
           some false
          )
         ) else (
          some false
         )
        ) else (
         some false
        )
       ) else (
        some false
       )
      ) else (
       some false
      )
     ) else (
      some false
     )
    ) else (
     some false
    )
   ) else (
    some false
   )
  ) else (
   some false
  )
 ) else (
  some false
 )
theorem vT:iC=rf:=by unfold iC rf;simp only [oR,qj,yo,lb,qy]
theorem B3:iC=some true:=vT.trans (by kernel_rfl)
def om (c:Int) (t:ak):ak:=ak.mk t.Var (c*t.C)
def smul (c:Int) (q:Linear):Linear:=Linear.mk (c*q.Const) (q.Terms.map (om c))
theorem xG (f:aw→Int) (c:Int):∀ ts:List ak,dd f (ts.map (om c))=c*dd f ts
 | []=>by simp [dd]
 | t::ts=>by simp only [List.map_cons,dd];rw [xG f c ts];simp only [om];rw [Int.mul_add,Int.mul_assoc]
theorem oW (f:aw→Int) (c:Int) (q:Linear):kf f (smul c q)=c*kf f q:=by unfold kf smul;simp only;rw [xG,Int.mul_add]
theorem Gc {q' q:Linear} (hv':aq q'=true) (hs:G9 q.Terms) (hz:Nz q.Terms) (h:∀ f,kf f q'=kf f q):q'=q:=by
 obtain ⟨n,ts⟩:=q';obtain ⟨m,us⟩:=q;have e:n=m:=by have:=h (fun _=>0);rw [jb,jb] at this;exact this
 have e2:ts=us:=uD _ _ (nu hv') (dt hv') hs hz fun f=>by have:=h f;unfold kf at this;simp only at this;omega
 rw [e,e2]
theorem EO {c:Int} {ts:List ak} (h:G9 ts):G9 (ts.map (om c)):=by unfold G9;rw [List.pairwise_map];exact h
theorem Hc {c:Int} (hc:c≠0) {ts:List ak} (h:Nz ts):Nz (ts.map (om c)):=fun t ht=>by obtain ⟨u,hu,rfl⟩:=List.mem_map.1 ht;exact Int.mul_ne_zero hc (h u hu)
theorem Dc {q' q:Linear} {c:Int} (hv':aq q'=true) (hv:aq q=true) (hc:c≠0) (h:∀ f,kf f q'=c*kf f q):q'=smul c q :=
 Gc hv' (EO (nu hv)) (Hc hc (dt hv)) fun f=>by rw [h f,oW]
theorem vN (c:Int):∀ (ts:List ak) (a:Nat),qV (ts.map (om c)) (c.natAbs*a)=c.natAbs*qV ts a
 | [],a=>rfl
 | t::ts,a=>by
  unfold qV;simp only [List.map_cons,List.foldl_cons];have e:Nat.gcd (c.natAbs*a) (om c t).C.natAbs=c.natAbs*Nat.gcd a t.C.natAbs:=by show Nat.gcd (c.natAbs*a) (c*t.C).natAbs=_;rw [Int.natAbs_mul,Nat.gcd_mul_left]
  rw [e];exact vN c ts _
theorem xu (c:Int) (q:Linear):cont (smul c q)=c.natAbs*cont q:=by have:=vN c q.Terms 0;rw [Nat.mul_zero] at this;exact this
theorem sr {c:Int} (hc:c≠0):c.natAbs≠0:=by omega
theorem vd {a b:Int}:a.tmod b=0↔b ∣ a:=⟨Int.dvd_of_tmod_eq_zero,Int.tmod_eq_zero_of_dvd⟩
theorem EB {c:Int} (hc:c≠0) (q:Linear):w5 (smul c q)=w5 q:=by
 unfold w5;rw [xu];have h1:(c.natAbs*cont q==0)=(cont q==0):=by rw [Bool.eq_iff_iff];simp only [beq_iff_eq,Nat.mul_eq_zero];have:=sr hc;omega
 have h2:((smul c q).Const.tmod ((c.natAbs*cont q:Nat):Int)==0)=(q.Const.tmod (cont q)==0):=by rw [Bool.eq_iff_iff];simp only [beq_iff_eq];rw [vd,vd];show ((c.natAbs*cont q:Nat):Int) ∣ c*q.Const↔_;rw [← Int.natAbs_dvd_natAbs,← Int.natAbs_dvd_natAbs,Int.natAbs_mul,Int.natAbs_natCast,Int.natAbs_natCast];exact Nat.mul_dvd_mul_iff_left (Nat.pos_of_ne_zero (sr hc))
 rw [h1,h2]
def vI (c:Int):Int:=if c<0 then -1 else 1
theorem I4 (c:Int):vI c=1∨vI c = -1:=by unfold vI;by_cases h:c<0<;>simp [h]
theorem Hz (c:Int):c=vI c*(c.natAbs:Int):=by unfold vI;by_cases h:c<0<;>simp only [h,if_true,if_false]<;>omega
theorem xJ {c:Int} (hc:c≠0) {g:Nat} (hg:g≠0) {a:Int} (hd:(g:Int) ∣ a):(c*a).tdiv ((c.natAbs*g:Nat):Int)=vI c*a.tdiv g:=by
 obtain ⟨k,rfl⟩:=hd;have hg':(g:Int)≠0:=by omega
 have hcg:((c.natAbs*g:Nat):Int)≠0:=by have:=Nat.mul_ne_zero (sr hc) hg;omega
 rw [Int.mul_tdiv_cancel_left _ hg'];have e:c*((g:Int)*k)=((c.natAbs*g:Nat):Int)*(vI c*k):=by
  have h1:=Hz c;rw [Int.natCast_mul];calc c*((g:Int)*k)=(vI c*(c.natAbs:Int))*((g:Int)*k):=by rw [← h1]
   _=(c.natAbs:Int)*(g:Int)*(vI c*k):=by rw [Int.mul_comm (vI c),Int.mul_assoc,Int.mul_assoc];congr 1;rw [← Int.mul_assoc,← Int.mul_assoc,Int.mul_comm (vI c)]
 rw [e,Int.mul_tdiv_cancel_left _ hcg]
theorem Bi {c:Int} (hc:c≠0) {q:Linear} (hg:cont q≠0) (hd:q.Const.tmod (cont q)=0):aY (cont (smul c q)) (smul c q)=smul (vI c) (aY (cont q) q):=by rw [xu];unfold aY smul;simp only;rw [xJ hc hg (vd.1 hd),List.map_map,List.map_map];congr 1;refine List.map_congr_left fun t ht => ?_;simp only [Function.comp,om];rw [xJ hc hg (rb t ht)]
section
variable {s:Int} (hs:s=1∨s = -1)
include hs
theorem Iq (a b:ak):tC (om s a) (om s b)=tC a b:=by
 have e:∀ t:ak,(om s t).C.natAbs=t.C.natAbs:=fun t=>by show (s*t.C).natAbs=_;rcases hs with rfl | rfl<;>omega
 unfold tC;rw [e,e];rfl
theorem uP:∀ (ts:List ak) (a:ak),(ts.map (om s)).foldl (fun s t=>bif decide (tC t s<0) then t else s) (om s a)=om s (ts.foldl (fun s t=>bif decide (tC t s<0) then t else s) a)
 | [],a=>rfl
 | t::ts,a=>by
  simp only [List.map_cons,List.foldl_cons];rw [Iq hs];cases decide (tC t a<0) with
  | true=>exact uP ts t
  | false=>exact uP ts a
theorem IF (ts:List ak):rD (ts.map (om s))=om s (rD ts):=by
 unfold rD;have e:(ts.map (om s)).getD 0 ⟨[],0⟩=om s (ts.getD 0 ⟨[],0⟩):=by
  cases ts with
  | nil=>simp [om]
  | cons t ts=>rfl
 rw [e,← List.map_drop,uP hs]
theorem F1 (a b:Int) : -(s*a)*(s*b) = -a*b:=by
 rcases hs with rfl | rfl
 ·rw [Int.one_mul,Int.one_mul]
 ·rw [Int.neg_one_mul,Int.neg_one_mul,Int.neg_neg,Int.mul_neg,Int.neg_mul]
theorem ID (t:ak) (q:Linear):D3 (om s t) (smul s q)=D3 t q:=by unfold D3 smul;simp only;rw [show -(om s t).C*(s*q.Const) = -t.C*q.Const from F1 hs _ _];congr 1;rw [List.filter_map,List.map_map];have e2:((fun u:ak => !(u.Var==(om s t).Var)) ∘ om s)=fun u:ak => !(u.Var==t.Var):=rfl;rw [e2];refine List.map_congr_left fun u _ => ?_;show ak.mk u.Var (-(s*t.C)*(s*u.C))=_;rw [F1 hs]
theorem xX {n d:Int} (hd:d≠0):eZ (s*n) (s*d)=eZ n d:=by
 rcases hs with rfl | rfl
 ·rw [Int.one_mul,Int.one_mul]
 ·rw [Int.neg_one_mul,Int.neg_one_mul];unfold eZ;rw [Int.neg_tmod,Int.tmod_neg,Int.neg_tdiv,Int.tdiv_neg,Int.neg_neg];have e:(-n.tmod d==0)=(n.tmod d==0):=by rw [Bool.eq_iff_iff];simp only [beq_iff_eq];omega
  rw [e];cases h:n.tmod d==0 with
  | true=>rfl
  | false =>
   have h:n.tmod d≠0:=by simpa using h
   have e2:(decide (-n.tmod d<0)==decide (-d<0))=(decide (n.tmod d<0)==decide (d<0)):=by
    by_cases h1:n.tmod d<0<;>by_cases h2:d<0
    ·rw [Ko h1,Ko h2,Kn (show ¬ -n.tmod d<0 by omega),Kn (show ¬ -d<0 by omega)];rfl
    ·rw [Ko h1,Kn h2,Kn (show ¬ -n.tmod d<0 by omega),Ko (show -d<0 by omega)];rfl
    ·rw [Kn h1,Ko h2,Ko (show -n.tmod d<0 by omega),Kn (show ¬ -d<0 by omega)];rfl
    ·rw [Kn h1,Kn h2,Ko (show -n.tmod d<0 by omega),Ko (show -d<0 by omega)];rfl
   rw [e2]
theorem Jg {t:ak} (ht:t.C≠0) (n:Nat) (q:Linear):zI (om s t) n (smul s q)=zI t n q:=by
 unfold zI;have e1:eZ (smul s q).Const (om s t).C=eZ q.Const t.C:=xX hs ht;have e2:mY (om s t) n (smul s q).Terms=mY t n q.Terms:=by
  unfold mY smul;simp only;rw [List.filter_map,List.map_map];congr 1;have e3:((fun u:ak => !(u.Var==(om s t).Var||eZ u.C (om s t).C==0)) ∘ om s)=fun u:ak => !(u.Var==t.Var||eZ u.C t.C==0):=by funext u;show (!(u.Var==t.Var||eZ (s*u.C) (s*t.C)==0))=_;rw [xX hs ht]
  rw [e3];refine List.map_congr_left fun u _ => ?_;show ak.mk u.Var (-(eZ (s*u.C) (s*t.C)))=_;rw [xX hs ht]
 rw [e1,e2]
end
def AJ (c:Int) (q' q:Linear):Prop:=∀ f,kf f q'=c*kf f q
theorem Gh:aq bh=true:=nO
theorem Bw (f:aw→Int):kf f bh=0:=by simp [kf,dd]
theorem Ja {c:Int} {q' q:Linear} (hv':aq q'=true) (hv:aq q=true) (h:AJ c q' q) (v:aw):cf q' v=c*cf q v:=by have h1:=h (ind v);have h0:=h (fun _=>0);rw [rn v (eS hv'),rn v (eS hv),Int.mul_add] at h1;rw [jb,jb] at h0;omega
theorem zm {q':Linear} (hv':aq q'=true) (h:AJ 0 q' bh∨∃ c,AJ c q' bh):q'=bh:=by
 refine Gc hv' List.Pairwise.nil (fun t ht=>by simp at ht) fun f => ?_;rcases h with h | ⟨c,h⟩
 ·rw [h f];simp [Bw]
 ·rw [h f,Bw];simp
theorem Dg (x:aw) (by_:Linear):jg x by_ bh=true:=by simp [jg,cf,nY]
theorem xY (x:aw) (by_:Linear):pN x by_ bh=bh:=by simp [pN,cf,nY]
theorem C6 {c:Int} {x:aw} {by_ q' q:Linear} (hb:aq by_=true) (hv':aq q'=true) (hv:aq q=true) (h1:jg x by_ q'=true) (h2:jg x by_ q=true) (h:AJ c q' q):AJ c (pN x by_ q') (pN x by_ q):=fun f=>by obtain ⟨_,a,_⟩:=iJ hb hv' h1;obtain ⟨_,b,_⟩:=iJ hb hv h2;rw [a f,b f,h f,Ja hv' hv h,Int.mul_add,Int.mul_assoc]
theorem nn {l:List Linear} {j:Nat} (h:l.length≤j):l.getD j bh=bh:=by rw [Kh,List.getElem?_eq_none h];rfl
theorem Ap {l:List Linear} {g:Linear→Linear} {i j:Nat} (hi:i≤l.length) (g0:g bh=bh) (hlt:j<i→g (l.getD j bh)=l.getD j bh):(l.take i++(l.drop i).map g).getD j bh=g (l.getD j bh):=by
 by_cases h1:j<i
 ·rw [hlt h1,Kh,List.getElem?_append_left (by simp;omega),List.getElem?_take_of_lt h1,← Kh]
 ·by_cases h2:j<l.length
  ·rw [Kh,List.getElem?_append_right (by simp;omega),List.getElem?_map,List.getElem?_drop,List.length_take,Nat.min_eq_left hi,show i+(j-i)=j from by omega,getD_at bh h2,Ki h2];rfl
  ·rw [nn (by simp;omega),nn (show l.length≤j by omega),g0]
structure Rel (p i:Nat) (qs Q:List Linear):Prop where
 len:p+qs.length≤Q.length
 done:∀ k,k<i→qs.getD k bh=bh
 mid:∀ j,i≤j→j<qs.length→∃ c,c≠0∧AJ c (Q.getD (p+j) bh) (qs.getD j bh)
 all:∀ j,p+i≤j→j<Q.length→∃ k c,AJ c (Q.getD j bh) (qs.getD k bh)
def RR (p i:Nat) (r R:Rs):Prop:=r = .lim∨R = .lim∨(r = .no∧R = .no)∨∃ m qs Q bs,r = .ok m qs bs∧R = .ok m Q bs∧Rel p i qs Q
theorem q8 {qs:List Linear} (h:∀ q∈qs,aq q=true) (k:Nat):aq (qs.getD k bh)=true:=by
 by_cases hk:k<qs.length
 ·exact h _ (ba bh hk)
 ·rw [nn (by omega)];exact Gh
theorem xk {l:List Linear} {P:Linear→Bool} {i:Nat} (h:(l.drop i).all P=true) {j:Nat} (hi:i≤j) (hj:j<l.length):P (l.getD j bh)=true:=by
 rw [Ku] at h;refine h _ ?_;have:(l.drop i).getD (j-i) bh=l.getD j bh:=by rw [dA];congr 1;omega
 rw [← this];exact ba bh (by simp;omega)
theorem zB {p i m:Nat} {x:aw} {by_:Linear} {qs Q:List Linear} {bs:List Bind} (hq:∀ q∈qs,aq q=true) (hQ:∀ q∈Q,aq q=true) (hR:Rel p i qs Q) (hi:i<qs.length) :
 RR p i (rG x by_ i m qs bs) (rG x by_ (p+i) m Q bs):=by
 unfold rG;cases h1:rJ x by_ i qs (bs.map (·.Dim)) with
 | false=>exact .inl rfl
 | true =>
  cases h2:rJ x by_ (p+i) Q (bs.map (·.Dim)) with
  | false=>exact .inr (.inl rfl)
  | true =>
   refine .inr (.inr (.inr ⟨m,_,_,_,rfl,rfl,?_⟩));unfold rJ at h1 h2;simp only [Kj] at h1 h2;obtain ⟨hb,_,h1⟩:=h1;obtain ⟨_,_,h2⟩:=h2;have hlen:=hR.len;have e1:∀ k,(qs.take i++(qs.drop i).map (pN x by_)).getD k bh=pN x by_ (qs.getD k bh):=fun k=>Ap (by omega) (xY x by_) fun hk=>by rw [hR.done k hk,xY]
   have c1:∀ k,jg x by_ (qs.getD k bh)=true:=fun k=>by
    by_cases hk:k<i
    ·rw [hR.done k hk];exact Dg x by_
    ·by_cases hk2:k<qs.length
     ·exact xk h1 (by omega) hk2
     ·rw [nn (by omega)];exact Dg x by_
   have e2:∀ j,p+i≤j→(Q.take (p+i)++(Q.drop (p+i)).map (pN x by_)).getD j bh=pN x by_ (Q.getD j bh):=fun j hj=>Ap (by omega) (xY x by_) fun hk=>by omega
   have c2:∀ j,p+i≤j→j<Q.length→jg x by_ (Q.getD j bh)=true:=fun j hj hl=>xk h2 hj hl;have l1:(qs.take i++(qs.drop i).map (pN x by_)).length=qs.length:=by simp;omega
   have l2:(Q.take (p+i)++(Q.drop (p+i)).map (pN x by_)).length=Q.length:=by simp;omega
   refine ⟨by rw [l1,l2];exact hlen,fun k hk=>by rw [e1,hR.done k hk,xY],fun j hj hl => ?_,fun j hj hl => ?_⟩
   ·rw [l1] at hl;obtain ⟨c,hc,hm⟩:=hR.mid j hj hl;refine ⟨c,hc,?_⟩;rw [e1,e2 _ (by omega)];exact C6 hb (q8 hQ _) (q8 hq _) (c2 _ (by omega) (by omega)) (c1 j) hm
   ·rw [l2] at hl;obtain ⟨k,c,hm⟩:=hR.all j hj hl;refine ⟨k,c,?_⟩;rw [e1,e2 _ hj];exact C6 hb (q8 hQ _) (q8 hq _) (c2 _ hj hl) (c1 k) hm
theorem gm {l:List Linear} {i j:Nat} {x:Linear} (hi:i<l.length):(l.set i x).getD j bh=if j=i then x else l.getD j bh:=by
 by_cases e:j=i
 ·subst e;rw [if_pos rfl,kb hi]
 ·rw [if_neg e,Kh,List.getElem?_set_ne (Ne.symm e),← Kh]
theorem FU {p i n:Nat} {qs Q:List Linear} {bs:List Bind} (h:gE n qs bs) (hQ:gE n Q bs) (hR:Rel p i qs Q) (hi:i<qs.length):RR p i (gz i n qs bs) (gz (p+i) n Q bs):=by
 have hlen:=hR.len;obtain ⟨c,hc,hm⟩:=hR.mid i (Nat.le_refl _) hi;have hv:aq (qs.getD i bh)=true:=(h.qv _ (ba bh hi)).1;have hv':aq (Q.getD (p+i) bh)=true:=(hQ.qv _ (ba bh (by omega))).1;have e:=Dc hv' hv hc hm;unfold gz;have eno:w5 (Q.getD (p+i) bh)=w5 (qs.getD i bh):=by rw [e];exact EB hc _
 rw [eno];cases hno:w5 (qs.getD i bh) with
 | true=>exact .inr (.inr (.inl ⟨rfl,rfl⟩))
 | false =>
  obtain ⟨hg,hd⟩:=oI hno;simp only [cond_false];have en:aY (cont (Q.getD (p+i) bh)) (Q.getD (p+i) bh)=smul (vI c) (aY (cont (qs.getD i bh)) (qs.getD i bh)):=by rw [e];exact Bi hc hg hd
  obtain ⟨tm,tmin⟩:=yb hv hg;have hnv:=ed hv;have hnv':=ed hv';rw [en] at hnv';rw [en];have hs:=I4 c;have et:rD (smul (vI c) (aY (cont (qs.getD i bh)) (qs.getD i bh))).Terms=om (vI c) (rD (aY (cont (qs.getD i bh)) (qs.getD i bh)).Terms):=IF hs _;rw [et];have hln:=fun f=>AY f hd;generalize hN:aY (cont (qs.getD i bh)) (qs.getD i bh)=nq at hnv hnv' tm tmin hln ⊢;generalize hT:rD nq.Terms=t at tm tmin ⊢;have ht0:t.C≠0:=dt hnv t tm;have eu:((om (vI c) t).C==1||(om (vI c) t).C == -1)=(t.C==1||t.C == -1):=by show (vI c*t.C==1||vI c*t.C == -1)=_;rw [Bool.eq_iff_iff];simp only [Bool.or_eq_true,beq_iff_eq];rcases hs with hs | hs<;>rw [hs]<;>omega
  rw [eu];have hR':Rel p i (qs.set i nq) (Q.set (p+i) (smul (vI c) nq)):=by
   refine ⟨by simp;omega,fun k hk => ?_,fun j hj hl => ?_,fun j hj hl => ?_⟩
   ·rw [gm hi,if_neg (by omega)];exact hR.done k hk
   ·rw [gm hi,gm (by omega)];by_cases ej:j=i
    ·subst ej;rw [if_pos rfl,if_pos rfl];exact ⟨vI c,by rcases hs with hs | hs<;>rw [hs]<;>decide,fun f=>oW f _ _⟩
    ·rw [if_neg ej,if_neg (by omega)];exact hR.mid j hj (by simpa using hl)
   ·rw [gm (by omega)];by_cases ej:j=p+i
    ·rw [if_pos ej];exact ⟨i,vI c,fun f=>by rw [gm hi,if_pos rfl];exact oW f _ _⟩
    ·rw [if_neg ej];obtain ⟨k,d,hm2⟩:=hR.all j hj (by simpa using hl);by_cases ek:k=i
     ·subst ek;exact ⟨k,d*(cont (qs.getD k bh):Int),fun f=>by rw [gm hi,if_pos rfl,hm2 f,hln f,Int.mul_assoc]⟩
     ·exact ⟨k,d,fun f=>by rw [gm hi,if_neg ek];exact hm2 f⟩
  have hq1:∀ q∈qs.set i nq,aq q=true:=fun q hq=>by
   rcases List.mem_or_eq_of_mem_set hq with hq | rfl
   ·exact (h.qv q hq).1
   ·exact hnv
  have hq2:∀ q∈Q.set (p+i) (smul (vI c) nq),aq q=true:=fun q hq=>by
   rcases List.mem_or_eq_of_mem_set hq with hq | rfl
   ·exact (hQ.qv q hq).1
   ·exact hnv'
  have hi':i<(qs.set i nq).length:=by simpa using hi
  cases t.C==1||t.C == -1 with
  | true =>
   simp only [cond_true];rw [ID hs];exact zB hq1 hq2 hR' hi'
  | false =>
   simp only [cond_false];cases decide (n+1≥1000000000) with
   | true=>exact .inl rfl
   | false =>
    simp only [cond_false];rw [Jg hs ht0];exact zB hq1 hq2 hR' hi'
def RO (p i L:Nat) (r R:Option Rs):Prop:=(r=none∧R=none)∨r=some .lim∨R=some .lim∨(r=some .no∧R=some .no) ∨
 ∃ m qs Q bs,r=some (.ok m qs bs)∧R=some (.ok m Q bs)∧Rel p i qs Q∧gE m qs bs∧gE m Q bs∧qs.length=L
theorem zero_mul {c:Int} (hc:c≠0) {q' q:Linear} (hv':aq q'=true) (hv:aq q=true) (h:AJ c q' q):gw q'=gw q:=by
 have e:=Dc hv' hv hc h;rw [e,Bool.eq_iff_iff,mU,mU];obtain ⟨k,ts⟩:=q;unfold smul;simp only [Linear.mk.injEq,List.map_eq_nil_iff,Int.mul_eq_zero];constructor
 ·rintro ⟨h1,h2⟩;exact ⟨h1.resolve_left hc,h2⟩
 ·rintro ⟨h1,h2⟩;exact ⟨.inr h1,h2⟩
theorem C7 {p i:Nat}:∀ (N n:Nat) (qs Q:List Linear) (bs:List Bind),gE n qs bs→gE n Q bs→Rel p i qs Q→i<qs.length→RO p i qs.length (ju N i n qs bs) (ju N (p+i) n Q bs)
 | 0,n,qs,Q,bs,h,hQ,hR,hi=>.inl ⟨rfl,rfl⟩
 | N+1,n,qs,Q,bs,h,hQ,hR,hi=>by
  have hlen:=hR.len;obtain ⟨c,hc,hm⟩:=hR.mid i (Nat.le_refl _) hi;have hz:=zero_mul hc (hQ.qv _ (ba bh (by omega))).1 (h.qv _ (ba bh hi)).1 hm;simp only [ju];rw [hz];cases gw (qs.getD i bh) with
  | true=>exact .inr (.inr (.inr (.inr ⟨n,qs,Q,bs,rfl,rfl,hR,h,hQ,rfl⟩)))
  | false =>
   simp only [cond_false];rcases FU h hQ hR hi with e | e | ⟨e1,e2⟩ | ⟨m,qs1,Q1,bs1,e1,e2,hR1⟩
   ·rw [e];exact .inr (.inl rfl)
   ·rw [e];exact .inr (.inr (.inl rfl))
   ·rw [e1,e2];exact .inr (.inr (.inr (.inl ⟨rfl,rfl⟩)))
   ·rw [e1,e2];simp only;obtain ⟨a1,a2,_,_⟩:=ng h hi e1;obtain ⟨b1,_,_,_⟩:=ng hQ (by omega) e2;rw [← a2];exact C7 N m qs1 Q1 bs1 a1 b1 hR1 (by omega)
theorem Rel.next {p i:Nat} {qs Q:List Linear} (h:Rel p i qs Q) (h0:qs.getD i bh=bh):Rel p (i+1) qs Q where
 len:=h.len
 done:=fun k hk=>by
  by_cases e:k=i
  ·rw [e];exact h0
  ·exact h.done k (by omega)
 mid:=fun j hj hl=>h.mid j (by omega) hl
 all:=fun j hj hl=>h.all j (by omega) hl
theorem Cj {p L:Nat}:∀ (k i n:Nat) (qs Q:List Linear) (bs:List Bind),i+k=L→qs.length=L→gE n qs bs→gE n Q bs→Rel p i qs Q→RO p L L (j9 k i n qs bs) (j9 k (p+i) n Q bs)
 | 0,i,n,qs,Q,bs,hk,hl,h,hQ,hR=>by
  have:i=L:=by omega
  subst this;exact .inr (.inr (.inr (.inr ⟨n,qs,Q,bs,rfl,rfl,hR,h,hQ,hl⟩)))
 | k+1,i,n,qs,Q,bs,hk,hl,h,hQ,hR=>by
  simp only [j9];rcases C7 4294967296 n qs Q bs h hQ hR (by omega) with ⟨e1,e2⟩ | e | e | ⟨e1,e2⟩ | ⟨m,qs1,Q1,bs1,e1,e2,hR1,a,b,l1⟩
  ·rw [e1,e2];exact .inl ⟨rfl,rfl⟩
  ·rw [e];exact .inr (.inl rfl)
  ·rw [e];exact .inr (.inr (.inl rfl))
  ·rw [e1,e2];exact .inr (.inr (.inr (.inl ⟨rfl,rfl⟩)))
  ·rw [e1,e2];simp only;obtain ⟨_,_,_,z,_⟩:=ra 4294967296 i n bs.length qs bs h (by omega) (.inl (by omega)) m qs1 bs1 e1;exact Cj k (i+1) m qs1 Q1 bs1 (by omega) (by omega) a b (hR1.next z)
theorem Fp {i n:Nat} {qs:List Linear} {bs:List Bind} (h:qs.getD i bh=bh):ju 4294967296 i n qs bs=some (.ok n qs bs):=by
 have e:∀ N,ju (N+1) i n qs bs=some (.ok n qs bs):=fun N=>by simp only [ju];rw [h];rfl
 exact e 4294967295
theorem all_zero:∀ (k i n:Nat) (qs:List Linear) (bs:List Bind),(∀ j,i≤j→j<i+k→qs.getD j bh=bh)→j9 k i n qs bs=some (.ok n qs bs)
 | 0,_,_,_,_,_=>rfl
 | k+1,i,n,qs,bs,h=>by simp only [j9];rw [Fp (h i (Nat.le_refl _) (by omega))];exact all_zero k (i+1) n qs bs fun j h1 h2=>h j (by omega) (by omega)
theorem xW:∀ (a b i n:Nat) (qs:List Linear) (bs:List Bind),j9 (a+b) i n qs bs=match j9 a i n qs bs with | some (.ok m qs' bs')=>j9 b (i+a) m qs' bs' | e=>e
 | 0,b,i,n,qs,bs=>by rw [Nat.zero_add];rfl
 | a+1,b,i,n,qs,bs=>by
  rw [show a+1+b=(a+b)+1 from by omega];simp only [j9];cases ju 4294967296 i n qs bs with
  | none=>rfl
  | some r =>
   cases r with
   | no=>rfl
   | lim=>rfl
   | ok m qs' bs' =>
    simp only;rw [xW a b (i+1) m qs' bs',show i+1+a=i+(a+1) from by omega]
theorem D2 {p n:Nat} {l Q:List Linear} (h:gE n l []) (hQ:gE n Q []) (hR:Rel p 0 l Q) (hz:∀ j,j<p→Q.getD j bh=bh) (hv:fh Q=fh l) :
 (jC l n).2=3∨(jC Q n).2=3∨jC Q n=jC l n:=by
 have hlen:=hR.len;obtain ⟨d,hd⟩:∃ d,Q.length=p+(l.length+d):=⟨Q.length-p-l.length,by omega⟩;have e1:j9 Q.length 0 n Q []=match j9 l.length p n Q [] with | some (.ok m qs' bs')=>j9 d (p+l.length) m qs' bs' | e=>e:=by rw [hd,xW p,all_zero p 0 n Q [] (fun j _ hj=>hz j (by omega))];simp only;rw [xW l.length,Nat.zero_add]
 unfold jC;rw [e1];rcases Cj (p:=p) l.length 0 n l Q [] (by omega) rfl h hQ hR with ⟨a,b⟩ | a | a | ⟨a,b⟩ | ⟨m,qs1,Q1,bs1,a,b,hR1,o1,o2,l1⟩
 ·exact .inl (by rw [a])
 ·exact .inl (by rw [a])
 ·exact .inr (.inl (by rw [Nat.add_zero] at a;rw [a]))
 ·rw [Nat.add_zero] at b;exact .inr (.inr (by rw [a,b]))
 ·rw [Nat.add_zero] at b;rw [a,b];simp only;right;right;rw [all_zero _ _ _ _ _ (fun j h1 h2 => ?_)]
  ·simp only;unfold GR;rw [hv]
  ·by_cases hj:j<Q1.length
   ·obtain ⟨k,c,hm⟩:=hR1.all j (by omega) hj;refine zm (o2.qv _ (ba bh hj)).1 (.inr ⟨c,?_⟩);have:qs1.getD k bh=bh:=by
     by_cases hk:k<l.length
     ·exact hR1.done k hk
     ·exact nn (by omega)
    rw [this] at hm;exact hm
   ·exact nn (by omega)
theorem vO (l:List Linear):iz l=some (l.all aq):=by
 unfold iz;rw [gT (r:=false) (fun j=>aq (l.getD j bh)) _ _ () (fun j u _ _=>by rw [re,vr];simp only [Option.bind_some];cases aq (l.getD j bh)<;>rfl)]
 rw [FN aq bh l,jJ];cases l.all aq<;>rfl
theorem CB {α ρ:Type} (d:α) (q:α→Bool) (l:List α) {body:Int→Option (fX Int Unit ρ)} {r:ρ} (hb:∀ j:Nat,j<l.length→body (j:Int)=some (bif q (l.getD j d) then .go ((j+1:Nat):Int) else .ret r)) (he:body (l.length:Int)=some (.brk ())) :
 ∀ (k N j:Nat),j+k=l.length→k<N→kD body N (j:Int)=some (bif (l.drop j).all q then .brk () else .ret r)
 | 0,N,j,hk,hN=>by
  obtain ⟨N,rfl⟩:∃ m,N=m+1:=⟨N-1,by omega⟩;simp only [kD];rw [show j=l.length from by omega,he,List.drop_length];rfl
 | k+1,N,j,hk,hN=>by
  obtain ⟨N,rfl⟩:∃ m,N=m+1:=⟨N-1,by omega⟩;simp only [kD];have hj:j<l.length:=by omega
  rw [hb j hj,List.drop_eq_getElem_cons hj,List.all_cons,← getD_at d hj];cases q (l.getD j d) with
  | false=>rfl
  | true =>
   simp only [cond_true,Bool.true_and];exact CB d q l hb he k N (j+1) (by omega) (by omega)
def pw (n:Int) (q:Linear):Bool:=(decide (-n≤q.Const)&&decide (q.Const≤n))&&q.Terms.all fun t=>decide (-n≤t.C)&&decide (t.C≤n)
theorem tW (l:List Linear) (n:Int) (hn:0≤n∧n≤1000000) (hl:∀ q∈l,q.Terms.length≤1000):jW l n=some (l.all (pw n)):=by
 unfold jW;have hw:aD (0-n) = -n:=by rw [bJ (by omega) (by omega)];omega
 rw [gT (r:=false) (fun j=>pw n (l.getD j bh)) _ _ () (fun j u _ hj=>by
  rw [hw];have hq:=hl _ (ba bh (show j<l.length by omega));generalize l.getD j bh=q at hq;unfold pw;by_cases h1:q.Const < -n
  ·rw [Ko h1,Kn (show ¬ -n≤q.Const by omega)];rfl
  ·rw [Kn h1,Ko (show -n≤q.Const by omega)];simp only [cond_false,Bool.true_and];by_cases h2:q.Const>n
   ·rw [Ko h2,Kn (show ¬ q.Const≤n by omega)];rfl
   ·rw [Kn h2,Ko (show q.Const≤n by omega)];simp only [cond_false,Bool.true_and];have hw:=CB (ρ:=fX Unit Unit Bool) (r:=fX.ret false) ⟨[],0⟩ (fun t:ak=>decide (-n≤t.C)&&decide (t.C≤n)) q.Terms
     (body:=fun s1 =>
     bif decide (s1<((q.Terms.length:Nat):Int)) then (
      bH (0≤s1∧s1<(q.Terms.length:Int)) <|
      bif decide ((q.Terms.getD s1.toNat ⟨[],0⟩).C<(-n)) then (
       some (.ret (.ret false))
      ) else (
       bif decide ((q.Terms.getD s1.toNat ⟨[],0⟩).C>n) then (
        some (.ret (.ret false))
       ) else (
        some (.go (aD (s1+1)))
       )
      )
     ) else (
      some (.brk ())
     )) (fun j hj=>by
      rw [Ko (by omega),cond_true,ax ⟨by omega,by omega⟩,Int.toNat_natCast];generalize q.Terms.getD j ⟨[],0⟩=t;by_cases h3:t.C < -n
      ·rw [Ko h3,Kn (show ¬ -n≤t.C by omega)];rfl
      ·rw [Kn h3,Ko (show -n≤t.C by omega)];by_cases h4:t.C>n
       ·rw [Ko h4,Kn (show ¬ t.C≤n by omega)];rfl
       ·rw [Kn h4,Ko (show t.C≤n by omega)];simp only [cond_false,Bool.true_and,cond_true];rw [bJ (by omega) (by omega)];rfl) (by
      rw [Kn (by omega)];rfl) q.Terms.length 4294967296 0 (by omega) (by omega)
    rw [List.drop_zero] at hw;refine (congrArg (fun o:Option (Out Unit (fX Unit Unit Bool))=>Option.bind o _) hw).trans ?_;cases q.Terms.all fun t=>decide (-n≤t.C)&&decide (t.C≤n)<;>rfl)]
 rw [FN (pw n) bh l,jJ];cases l.all (pw n)<;>rfl
theorem xt (bs:List Bind):dq bs bs=some true:=by
 unfold dq;rw [beq_self_eq_true,cond_true];rw [gT (r:=false) (fun j=>true) _ _ () (fun j u _ hj=>by rw [ax (by omega),beq_self_eq_true,beq_self_eq_true,uE];simp)]
 rw [show (List.range' 0 (bs.length-0)).all (fun _=>true)=true from by simp];rfl
def j7 (l:List Linear) (n:Nat):(List Bind×Int)×Int:=if A5 l<n then jC l n else (([],0),1)
theorem yS {l:List Linear} {n:Nat} (hv:∀ q∈l,aq q=true) (h1:1≤n) (h2:n<1000000000) (hl:l.length≤6000):∃ f,aU l (n:Int)=some ((j7 l n).1.1,(j7 l n).1.2,f,(j7 l n).2):=by
 unfold j7;by_cases hg:A5 l<n
 ·rw [if_pos hg];obtain ⟨f,e,_⟩:=zx hv h1 h2 hg hl;exact ⟨f,e⟩
 ·rw [if_neg hg];exact ⟨_,D1 (fun q hq=>jD (hv q hq)) hl fun _ _ _ h=>hg h⟩
theorem AP {a b:List Linear} (ha:∀ q∈a,aq q=true) (hb:∀ q∈b,aq q=true) (h:∀ v,(∃ q∈a,∃ t∈q.Terms,t.Var=v)↔∃ q∈b,∃ t∈q.Terms,t.Var=v):fh a=fh b:=by
 obtain ⟨a1,a2,_⟩:=lp fun q hq=>b8 (ha q hq);obtain ⟨b1,b2,_⟩:=lp fun q hq=>b8 (hb q hq);have nd:∀ {l:List aw},l.Pairwise (fun a b=>Op.bytesLess a b=true)→l.Nodup:=fun h=>h.imp fun {x y} h e=>by rw [e,dT] at h;cases h
 refine List.Perm.eq_of_pairwise (fun x y _ _ h1 h2 => ?_) a1 b1 ((List.perm_ext_iff_of_nodup (nd a1) (nd b1)).2 fun v=>by rw [a2,b2,h]);have:=fA _ _ _ h1 h2;rw [dT] at this;cases this
theorem FZ {p n:Nat} {l Q:List Linear} (hv:∀ q∈l,aq q=true) (hQ:∀ q∈Q,aq q=true) (h1:1≤n) (h2:n<1000000000) (hR:Rel p 0 l Q) (hz:∀ j,j<p→Q.getD j bh=bh)
 (h:∀ v,(∃ q∈Q,∃ t∈q.Terms,t.Var=v)↔∃ q∈l,∃ t∈q.Terms,t.Var=v):(j7 l n).2=3∨(j7 Q n).2=3∨j7 Q n=j7 l n:=by
 have hE:=AP hQ hv h;have hg:A5 Q=A5 l:=by unfold A5;rw [hE]
 unfold j7;rw [hg];by_cases hg2:A5 l<n
 ·rw [if_pos hg2,if_pos hg2];exact D2 (n5 hv h1 h2 hg2) (n5 hQ h1 h2 (by rw [hg];exact hg2)) hR hz hE
 ·rw [if_neg hg2,if_neg hg2];exact .inr (.inr rfl)
theorem vB (k:Int) (hk:k≠0):∀ (ts acc:List ak),G9 (acc++ts)→(∀ t∈acc,t.C≠0)→(∀ t∈ts,t.C≠0∧aD (k*t.C)=k*t.C)→ts.foldl (fun ts t=>qO ts t.Var (aD (k*t.C))) (acc.map (om k))=(acc++ts).map (om k)
 | [],acc,_,_,_=>by simp
 | t::ts,acc,h,ha,ht=>by
  obtain ⟨h1,h2⟩:=ht t (by simp);simp only [List.foldl_cons];rw [h2,Bx _ _ _ (Int.mul_ne_zero hk h1) (fun u hu=>by obtain ⟨w,hw,rfl⟩:=List.mem_map.1 hu;exact ⟨(List.pairwise_append.1 h).2.2 w hw t (by simp),Int.mul_ne_zero hk (ha w hw)⟩)]
  have e:acc.map (om k)++[ak.mk t.Var (k*t.C)]=(acc++[t]).map (om k):=by rw [List.map_append];rfl
  rw [e,vB k hk ts (acc++[t]) (by rw [List.append_assoc];exact h) (fun u hu=>by
   rcases List.mem_append.1 hu with hu | hu
   ·exact ha u hu
   ·rw [List.mem_singleton.1 hu];exact h1) (fun u hu=>ht u (by simp [hu])),List.append_assoc]
  rfl
theorem ow {k:Int} (hk:k=2∨k = -1∨k=3) {q:Linear} (hv:aq q=true) (hs:pw 1000 q=true):cZ (Linear.mk 0 []) q k=some (smul k q)∧aq (smul k q)=true:=by
 unfold pw at hs;simp only [Kj,decide_eq_true_eq,Ku] at hs;obtain ⟨⟨c1,c2⟩,hs⟩:=hs;have hk0:k≠0:=by omega
 have hb:∀ a:Int,-1000≤a→a≤1000 → -1000000≤k*a∧k*a≤1000000:=fun a h1 h2=>by rcases hk with rfl | rfl | rfl<;>omega
 have hwb:∀ a:Int,-1000≤a→a≤1000→aD (k*a)=k*a:=fun a h1 h2=>by have:=hb a h1 h2;exact bJ (by omega) (by omega)
 constructor
 ·rw [uZ _ _ _ (by simp) (by have:=b8 hv;omega)];unfold B9 smul;simp only;have e:=vB k hk0 q.Terms [] (by simpa using nu hv) (fun t ht=>by simp at ht) (fun t ht=>⟨dt hv t ht,hwb _ (hs t ht).1 (hs t ht).2⟩);rw [List.nil_append] at e;have ew:aD (0+aD (k*q.Const))=k*q.Const:=by rw [hwb _ c1 c2,Int.zero_add];exact hwb _ c1 c2
  rw [ew];exact congrArg (fun x=>some (Linear.mk (k*q.Const) x)) e
 ·exact vk hv (k*q.Const) (fun c=>k*c) (hb _ c1 c2) fun t ht=>⟨Int.mul_ne_zero hk0 (dt hv t ht),hb _ (hs t ht).1 (hs t ht).2⟩
theorem xQ {k:Int} (q:Linear) (v:aw):(∃ t∈(smul k q).Terms,t.Var=v)↔∃ t∈q.Terms,t.Var=v:=by
 unfold smul;simp only [List.mem_map];constructor
 ·rintro ⟨t,⟨u,hu,rfl⟩,e⟩;exact ⟨u,hu,e⟩
 ·rintro ⟨u,hu,e⟩;exact ⟨_,⟨u,hu,rfl⟩,e⟩
theorem Ep {l Q:List Linear} (y4:List Bind×Int×ah×Int) {n:Nat} (e4:y4.1=(j7 l n).1.1∧y4.2.1=(j7 l n).1.2∧y4.2.2.2=(j7 l n).2) (hn:n=1000) (hQ:∀ q∈Q,aq q=true) (hl:Q.length≤6000) (h:(j7 Q n).2=3∨j7 Q n=j7 l n) :
 (
(aU Q 1000).bind fun y10 =>
 bif (y10.2.2.2==3) then (
  some true
 ) else (
  bif (y4.2.2.2==y10.2.2.2) then (
   bif (y10.2.1==y4.2.1) then (
    (dq y10.1 y4.1).bind fun y11 =>
    some y11
   ) else (
    some false
   )
  ) else (
   some false
  )
 )
 )=some true:=by
 subst hn;obtain ⟨f,e⟩:=yS (n:=1000) hQ (by omega) (by omega) hl;rw [show (1000:Int)=((1000:Nat):Int) from rfl,e];simp only [Option.bind_some];rcases h with h | h
 ·rw [h];rfl
 ·rw [h,e4.1,e4.2.1,e4.2.2,beq_self_eq_true,beq_self_eq_true,xt];cases (j7 l 1000).2==3<;>rfl
theorem Gr (x0:List Linear) (x1 x2:UInt8):eR x0 x1 x2=some true:=by
 unfold eR;rw [B3];simp only [Option.bind_some,cond_true];rw [show (4:Int)=((4:Nat):Int) from rfl,yy];simp only [Option.bind_some];cases hf:x0.all z7&&decide (x0.length≤4) with
 | false=>rfl
 | true =>
  simp only [Kj,Ku,decide_eq_true_eq] at hf;simp only [cond_true];rw [vO];simp only [Option.bind_some];cases hv:x0.all aq with
  | false=>rfl
  | true =>
   rw [Ku] at hv;simp only [cond_true];rw [tW _ _ ⟨by omega,by omega⟩ (fun q hq=>by have:=b8 (hv q hq);omega)];simp only [Option.bind_some];cases hs:x0.all (pw 1000) with
   | false=>rfl
   | true =>
    rw [Ku] at hs;simp only [cond_true];by_cases h0:(x0.length:Int)=0
    ·rw [h0];rfl
    ·have e0:(((x0.length:Nat):Int)==0)=false:=by simpa using h0
     rw [e0];simp only [cond_false];obtain ⟨f4,e4⟩:=yS (n:=1000) hv (by omega) (by omega) (by omega);rw [show (1000:Int)=((1000:Nat):Int) from rfl,e4];simp only [Option.bind_some];obtain ⟨i,hi⟩:∃ i:Nat,((x1.toNat:Int).tmod ((x0.length:Nat):Int))=(i:Int)∧i<x0.length:=by refine ⟨x1.toNat % x0.length,?_,Nat.mod_lt _ (by omega)⟩;rw [Int.tmod_eq_emod_of_nonneg (by omega)];omega
     obtain ⟨ei,hi⟩:=hi;rw [ei];rw [ax h0,ax (by simp;omega),ax ⟨by omega,by omega⟩,Int.toNat_natCast,ax (by simp;omega),re];have hqv:=hv _ (ba bh hi);have hqs:=hs _ (ba bh hi);have hQv:∀ q∈([Linear.mk 0 []]++x0)++[Linear.mk 0 [],x0.getD i bh],aq q=true:=fun q hq=>by
      simp only [List.mem_append,List.mem_cons,List.not_mem_nil,or_false] at hq;rcases hq with (rfl | hq) | rfl | rfl
      ·exact nO
      ·exact hv q hq
      ·exact nO
      ·exact hqv
     have hlen:(([Linear.mk 0 []]++x0)++[Linear.mk 0 [],x0.getD i bh]).length=x0.length+3:=by simp
     obtain ⟨f5,e5⟩:=yS (n:=1000) hQv (by omega) (by omega) (by omega);have hg:∀ j,j<x0.length→(([Linear.mk 0 []]++x0)++[Linear.mk 0 [],x0.getD i bh]).getD (1+j) bh=x0.getD j bh:=fun j hj=>by rw [Kh,List.getElem?_append_left (by simp;omega),List.getElem?_append_right (by simp),Kh];congr 2;simp
     have hR:Rel 1 0 x0 (([Linear.mk 0 []]++x0)++[Linear.mk 0 [],x0.getD i bh]):=by
      refine ⟨by omega,fun k hk=>by omega,fun j _ hj=>⟨1,by decide,fun g=>by rw [hg j hj,Int.one_mul]⟩,fun j h1 h2 => ?_⟩;by_cases h3:j<1+x0.length
      ·obtain ⟨j,rfl⟩:∃ m,j=1+m:=⟨j-1,by omega⟩;exact ⟨j,1,fun g=>by rw [hg j (by omega),Int.one_mul]⟩
      ·have h4:j=1+x0.length∨j=2+x0.length:=by omega
       rcases h4 with rfl | rfl
       ·refine ⟨0,0,fun g => ?_⟩;have:(([Linear.mk 0 []]++x0)++[Linear.mk 0 [],x0.getD i bh]).getD (1+x0.length) bh=bh:=by
         rw [Kh,List.getElem?_append_right (by simp;omega)];have:1+x0.length-([Linear.mk 0 []]++x0).length=0:=by simp;omega
         rw [this];rfl
        rw [this,Bw,Int.zero_mul]
       ·refine ⟨i,1,fun g => ?_⟩;have:(([Linear.mk 0 []]++x0)++[Linear.mk 0 [],x0.getD i bh]).getD (2+x0.length) bh=x0.getD i bh:=by
         rw [Kh,List.getElem?_append_right (by simp;omega)];have:2+x0.length-([Linear.mk 0 []]++x0).length=1:=by simp;omega
         rw [this];rfl
        rw [this,Int.one_mul]
     have h5:=FZ (n:=1000) hv hQv (by omega) (by omega) hR (fun j hj=>by rw [show j=0 from by omega];rfl) (fun v=>by
      constructor
      ·rintro ⟨q,hq,t,ht,e⟩;simp only [List.mem_append,List.mem_cons,List.not_mem_nil,or_false] at hq;rcases hq with (rfl | hq) | rfl | rfl
       ·simp at ht
       ·exact ⟨q,hq,t,ht,e⟩
       ·simp at ht
       ·exact ⟨_,ba bh hi,t,ht,e⟩
      ·rintro ⟨q,hq,t,ht,e⟩;exact ⟨q,by simp [hq],t,ht,e⟩)
     rw [e5];simp only [Option.bind_some];cases h3:(j7 x0 1000).2==3 with
     | true=>rfl
     | false =>
      simp only [cond_false];cases h6:(j7 (([Linear.mk 0 []]++x0)++[Linear.mk 0 [],x0.getD i bh]) 1000).2==3 with
      | true=>rfl
      | false =>
       simp only [cond_false];have h3':(j7 x0 1000).2≠3:=by simpa using h3
       have h6':(j7 (([Linear.mk 0 []]++x0)++[Linear.mk 0 [],x0.getD i bh]) 1000).2≠3:=by simpa using h6
       have e7:=(h5.resolve_left h3').resolve_left h6';rw [e7,beq_self_eq_true,beq_self_eq_true,xt];simp only [cond_true,Option.bind_some];rw [ax (by omega)];have ht:∀ k:Int,k=2∨k = -1∨k=3→cZ (Linear.mk 0 []) (x0.getD i bh) k=some (smul k (x0.getD i bh)):=fun k hk=>(ow hk hqv hqs).1;have htail:∀ k:Int,k=2∨k = -1∨k=3→(j7 (x0.set i (smul k (x0.getD i bh))) 1000).2=3∨j7 (x0.set i (smul k (x0.getD i bh))) 1000=j7 x0 1000:=fun k hk=>by
        have hk0:k≠0:=by omega
        refine (FZ (p:=0) (n:=1000) hv (fun q hq => ?_) (by omega) (by omega) ⟨by simp,fun k hk=>by omega,fun j _ hj => ?_,fun j _ hj => ?_⟩ (fun j hj=>by omega) (fun v => ?_)).resolve_left h3'
        ·rcases List.mem_or_eq_of_mem_set hq with hq | rfl
         ·exact hv q hq
         ·exact (ow hk hqv hqs).2
        ·rw [Nat.zero_add,gm hi];by_cases ej:j=i
         ·rw [if_pos ej,ej];exact ⟨k,hk0,fun g=>oW g _ _⟩
         ·rw [if_neg ej];exact ⟨1,by decide,fun g=>(Int.one_mul _).symm⟩
        ·rw [gm hi];by_cases ej:j=i
         ·rw [if_pos ej];exact ⟨i,k,fun g=>oW g _ _⟩
         ·rw [if_neg ej];exact ⟨j,1,fun g=>(Int.one_mul _).symm⟩
        ·constructor
         ·rintro ⟨q,hq,hw⟩;rcases List.mem_or_eq_of_mem_set hq with hq | rfl
          ·exact ⟨q,hq,hw⟩
          ·exact ⟨_,ba bh hi,(xQ _ _).1 hw⟩
         ·rintro ⟨q,hq,hw⟩;obtain ⟨j,hj,ej⟩:=List.getElem_of_mem hq;by_cases e:j=i
          ·subst e;refine ⟨smul k (x0.getD j bh),List.mem_set hj _,(xQ _ _).2 ?_⟩;rw [getD_at bh hj,ej];exact hw
          ·refine ⟨q,?_,hw⟩;rw [← ej,← List.getElem_set_ne (Ne.symm e) (by simpa using hj)];exact List.getElem_mem _
       have hval:∀ k:Int,k=2∨k = -1∨k=3→∀ q∈x0.set i (smul k (x0.getD i bh)),aq q=true:=fun k hk q hq=>by
        rcases List.mem_or_eq_of_mem_set hq with hq | rfl
        ·exact hv q hq
        ·exact (ow hk hqv hqs).2
       have hfin:=fun k hk=>Ep (l:=x0) (Q:=x0.set i (smul k (x0.getD i bh))) ((j7 x0 1000).1.1,(j7 x0 1000).1.2,f4,(j7 x0 1000).2) (n:=1000) ⟨rfl,rfl,rfl⟩ rfl (hval k hk) (by simp;omega) (htail k hk);by_cases m0:(x2.toNat:Int).tmod 3=0
       ·have:((x2.toNat:Int).tmod 3==0)=true:=by rw [m0];rfl
        rw [this,cond_true,ht 2 (by omega)];simp only [Option.bind_some];rw [ax hi];exact hfin 2 (by omega)
       ·have:((x2.toNat:Int).tmod 3==0)=false:=by simpa using m0
        rw [this,cond_false];by_cases m1:(x2.toNat:Int).tmod 3=1
        ·have:((x2.toNat:Int).tmod 3==1)=true:=by rw [m1];rfl
         rw [this,cond_true,ht (-1) (by omega)];simp only [Option.bind_some];rw [ax hi];exact hfin (-1) (by omega)
        ·have:((x2.toNat:Int).tmod 3==1)=false:=by simpa using m1
         rw [this,cond_false];have m2:(x2.toNat:Int).tmod 3=2:=by rw [Int.tmod_eq_emod_of_nonneg (by omega)] at m0 m1 ⊢;omega
         rw [ax m2,ht 3 (by omega)];simp only [Option.bind_some];rw [ax hi];exact hfin 3 (by omega)
end Go.Proofs.YtlhcekghjfjajaaGreatDoor
