/- Plain laws: what the walked functions compute answers as the statement says. -/
import Derived.Test.YtadjhpbkknifeaaGreatDoorPnaPolyProduct
set_option linter.unusedSimpArgs false
set_option linter.unusedVariables false
namespace Go.Proofs.YtadjhpbkknifeaaGreatDoor
open Go.RowKit Go.Ab Go.Sh
def Eo (l:Linear):Prop:=l.Terms.length≤1000000∧∀ t∈l.Terms,t.Var.length≤1000000
theorem Gj {l:Linear} (h:Eo l) (hv:br l=false):dn l=some ([],1)∧eS l=some ([],1):=by
 refine ⟨?_,?_⟩
 ·unfold dn;rw [nq l h.1 h.2,hv];rfl
 ·unfold eS;rw [gP l,hv];rfl
noncomputable def Js (x:Linear) (s:List (List aa)):ff (List (List aa)) (List (List aa)) (List aa×Int):=bif br x then .go (s++[jJ x]) else .ret ([],1)
theorem Di:∀ (l:List Linear) (s:List (List aa)),(∃ x∈l,br x=false)→cT Js (fun s=>s) l s = .ret ([],1)
 | [],s,h=>by obtain ⟨x,hx,_⟩:=h;cases hx
 | x::l,s,h=>by
  unfold cT Js;cases hv:br x with
  | false=>rfl
  | true =>
   simp only [cond_true];refine Di l _ ?_;obtain ⟨y,hy,e⟩:=h;rcases List.mem_cons.1 hy with rfl | hy
   ·rw [hv] at e;cases e
   ·exact ⟨y,hy,e⟩
theorem AF {l:List Linear} (hl:l.length≤1000000) (hk:∀ x∈l,Eo x) (h:∃ x∈l,br x=false):cz l=some ([],1)∧du l=some ([],1):=by
 constructor
 ·unfold cz;have hloop:=fK (σ:=List (List aa)) (ε:=List (List aa)) (ρ:=List aa×Int) (body:=fun i32 s31 =>
   (dn (Linear.mk ((l.getD i32 ⟨0,[]⟩).Const) ((l.getD i32 ⟨0,[]⟩).Terms))).bind fun y63 =>
   bif (y63.2==0) then (
    bZ ((s31.length+1)*24≤140737488355328) <|
    some (.go (s31++[y63.1]))
   ) else (
    some (.ret ([],y63.2))
   )) (fin:=fun i32 s31=>s31) (f:=fun s=>s) ⟨0,[]⟩ l Js (fun j s=>s.length≤j) (fun _ _=>rfl) [] (Nat.le_refl 0) (fun j s hj hI=>by
    have hm:=nP hj;show ((dn (l.getD j ⟨0,[]⟩)).bind _)=_∧_;unfold Js;cases hv:br (l.getD j ⟨0,[]⟩) with
    | false =>
     rw [(Gj (hk _ hm) hv).1];exact ⟨rfl,fun s' h=>by cases h⟩
    | true =>
     rw [(kC hv).1];simp only [ai,beq_self_eq_true,cond_true];refine ⟨aw (by omega),fun s' h => ?_⟩;cases h;rw [List.length_append,List.length_singleton];omega)
  rw [hloop,Di l [] h];rfl
 ·unfold du;rw [cH (r:=([],1)) (fun j=>br (l.getD j ⟨0,[]⟩)) _ _ () (fun j u _ hj=>by rw [show (Linear.mk ((l.getD j ⟨0,[]⟩).Const) ((l.getD j ⟨0,[]⟩).Terms))=l.getD j ⟨0,[]⟩ from rfl,gP];cases br (l.getD j ⟨0,[]⟩)<;>rfl),dF]
  have hall:(List.range' 0 (l.length-0)).all (fun j=>br (l.getD j ⟨0,[]⟩))=false:=by obtain ⟨x,hx,e⟩:=h;obtain ⟨j,hj,rfl⟩:=List.mem_iff_getElem.1 hx;refine Bool.eq_false_iff.2 fun ha => ?_;have:=J0.1 ha j (List.mem_range'_1.2 ⟨Nat.zero_le _,by omega⟩);rw [JM,JN hj,Option.getD_some,e] at this;cases this
  rw [hall];rfl
theorem za {l:List Linear} (hl:l.length≤1000000) (hk:∀ x∈l,Eo x):∃ r,cz l=some r∧du l=some r:=by
 by_cases h:∃ x∈l,br x=false
 ·exact ⟨_,AF hl hk h⟩
 ·have h2:∀ x∈l,br x=true:=fun x hx=>by
   cases hv:br x with
   | true=>rfl
   | false=>exact absurd ⟨x,hx,hv⟩ h
  exact ⟨_,tu h2 hl,rC h2 hl⟩
def nL (n:Int):List aa:=[⟨n,[]⟩]
theorem kv {n:Int} (h0:n≠0) (h1 : -1099511627776≤n) (h2:n≤1099511627776):aL (nL n)=true:=by
 have g1:(n==0)=false:=beq_eq_false_iff_ne.2 h0;have:A5 ⟨n,[]⟩=true:=by unfold A5;show (!(n==0)&&(decide (-1099511627776≤n)&&(decide (n≤1099511627776)&&_)))=true;rw [g1,JU h1,JU h2];rfl
 show ((A5 ⟨n,[]⟩&&true)&&true&&true)=true;rw [this];rfl
theorem rn (n:Int):Bd (nL n):=⟨by simp [nL],fun m hm=>by
 have:m=⟨n,[]⟩:=by simpa [nL] using hm
 rw [this];exact ⟨by simp,fun v hv=>by cases hv⟩⟩
theorem Aj {n:Int} (h0:n≠0) (h1 : -1099511627776≤n) (h2:n≤1099511627776):dj n=some (nL n,0):=by
 have hp:ga [] ⟨n,[]⟩=nL n:=by unfold ga;rw [if_neg h0];rfl
 have hB:Bd (ga [] ⟨n,[]⟩):=by rw [hp];exact rn n
 unfold dj;rw [fa uF (by simp) (fun x hx=>by cases hx) (fun x hx=>by cases hx)];simp only [ai];rw [eA hB,hp];unfold limited;rw [kv h0 h1 h2];rfl
noncomputable def rI (s p:List aa):List aa×Int:=(fX s p).getD ([],0)
theorem wi (f:ah→Int):∀ p:List aa,iK (lZ f) (p.map (rR 1))=gK (lZ f) p
 | []=>rfl
 | m::p=>by rw [List.map_cons];show _+iK (lZ f) (p.map (rR 1))=_;rw [wi f p];have:=AR f (iq m.Vars);simp [rR,gK,this]
theorem CB {s p:List aa} (hs:aL s=true) (hp:aL p=true) (hBs:Bd s) (hBp:Bd p):fX s p=some (rI s p)∧fM s p=some (rI s p)∧((rI s p).2=0→aL (rI s p).1=true∧Bd (rI s p).1∧∀ f,gK (lZ f) (rI s p).1=gK (lZ f) s+gK (lZ f) p):=by
 obtain ⟨q,h1,h2,h3⟩:=tn hBs hBp hs hp;obtain ⟨r,e1,e2⟩:=EJ hBs hBp;have he:rI s p=limited q:=by unfold rI;rw [h3];rfl
 have hr:limited q=r:=by rw [h3] at e1;exact JZ e1
 refine ⟨by rw [h3,he],by rw [e2,he,hr],fun h0 => ?_⟩;rw [he] at h0 ⊢;obtain ⟨v1,v2⟩:=xk h0;rw [v2];refine ⟨v1,h2,fun f => ?_⟩;show gK (lZ f) q=_;rw [rM h1,jd,wi,wi]
noncomputable def qA (b:ah→List aa) (v:ah) (s:List aa):ff (List aa) (List aa) (List aa×Int):=bif (gJ s (b v)).2==0 then .go (gJ s (b v)).1 else .ret ([],(gJ s (b v)).2)
noncomputable def rq (b:ah→List aa) (m:aa) (s:List aa):ff (List aa) (List aa) (List aa×Int):=match cT (qA b) (fun s=>s) m.Vars (nL m.Coef) with
 | .ret r=>.ret r
 | .brk q=>bif (rI s q).2==0 then .go (rI s q).1 else .ret ([],(rI s q).2)
theorem rO {b:ah→List aa}:∀ (vs:List ah) (s:List aa),(∀ v∈vs,aL (b v)=true∧Bd (b v))→aL s=true→Bd s→∀ q,cT (qA b) (fun s=>s) vs s = .brk q→aL q=true∧Bd q∧∀ f,gK (lZ f) q=gK (lZ f) s*lZ (fun v=>gK (lZ f) (b v)) vs
 | [],s,_,h2,h3,q,h=>by
  cases h;exact ⟨h2,h3,fun f=>by simp [lZ]⟩
 | x::l,s,h1,h2,h3,q,h=>by
  obtain ⟨o1,o2⟩:=h1 x (by simp);obtain ⟨_,_,m3⟩:=ra h2 o1 h3 o2;unfold cT qA at h;cases hc:((gJ s (b x)).2==0) with
  | false=>rw [hc] at h;cases h
  | true =>
   rw [hc] at h;obtain ⟨v1,v2,v3⟩:=m3 (beq_iff_eq.1 hc);obtain ⟨w1,w2,w3⟩:=rO l (gJ s (b x)).1 (fun y hy=>h1 y (by simp [hy])) v1 v2 q h;exact ⟨w1,w2,fun f=>by rw [w3,v3,lZ,Int.mul_assoc]⟩
def JA (m:aa):Prop:=m.Coef≠0 ∧ -1099511627776≤m.Coef∧m.Coef≤1099511627776
theorem Cl {p:List aa} (h:aL p=true) {m:aa} (hm:m∈p):JA m:=by
 have hs:=(JO _ _ ▸ (show ((List.range' 0 (p.length-0)).all (iB p)&&decide (p.length≤60))=true from h)).1;obtain ⟨j,hj,rfl⟩:=List.mem_iff_getElem.1 hm;have h1:=J0.1 hs j (List.mem_range'_1.2 ⟨Nat.zero_le _,by omega⟩);have h2:A5 (aQ p j)=true:=by unfold iB at h1;rw [JO] at h1;exact h1.1
 have e:aQ p j=p[j]:=by unfold aQ;rw [JM,JN hj,Option.getD_some]
 rw [e] at h2;unfold A5 at h2;simp only [JO,decide_eq_true_eq,Bool.not_eq_true',beq_eq_false_iff_ne] at h2;exact ⟨h2.1,h2.2.1,h2.2.2.1⟩
def tA (v:ah):Linear:=⟨0,[⟨v,1⟩]⟩
def wT:Bind:=⟨0,[],⟨0,[]⟩,⟨[],[]⟩,[]⟩
def gL (v:ah) (b:Bind):Bool:=b.Kind==1&&b.Var==v
theorem Em (l:List Bind) (p:Bind→Bool):∀ x:Option Nat,(match x with | some j=>((j:Nat):Int) | none => -1)=idxOf p l →
 ((some (match x with | some j=>Out.ret ((j:Nat):Int) | none=>Out.brk ()):Option (Out Unit Int)).bind (Sh.aft fun _=>some (-1)))=some (idxOf p l)
 | none,hx=>by rw [← hx];rfl
 | some j,hx=>by rw [← hx];rfl
theorem BH (bs:List Bind) (v:ah):bY bs v=some (idxOf (gL v) bs):=by
 unfold bY;rw [uE (f:=fun j=>((j:Nat):Int)) (fun j=>gL v (bs.getD j wT)) _ _ () (fun j u _ _=>by
  show ((hU (bs.getD j wT) v).bind _)=_;unfold hU gL;cases (bs.getD j wT).Kind==1
  ·rfl
  ·cases (bs.getD j wT).Var==v<;>rfl)]
 exact Em bs (gL v) _ (rE (gL v) wT bs)
def tB (v:ah):List Bind→Linear→Linear
 | [],d=>d
 | b::l,d=>bif gL v b then b.Dim else tB v l d
theorem zA (v:ah) (b:Bind) (d:Linear):∀ l,tB v (l++[b]) d=tB v l (bif gL v b then b.Dim else d)
 | []=>rfl
 | x::l=>by rw [List.cons_append,tB,tB,zA v b d l]
theorem CQ (v:ah) (d:Linear):∀ l:List Bind,(bif decide (idxOf (gL v) l≥0) then (l.getD (idxOf (gL v) l).toNat wT).Dim else d)=tB v l d∧idxOf (gL v) l<l.length
 | []=>⟨rfl,by simp [idxOf]⟩
 | b::l=>by
  obtain ⟨h1,h2⟩:=CQ v d l;have hge:=mj (gL v) l;rw [tB];simp only [idxOf,List.length_cons];rcases Bool.eq_false_or_eq_true (gL v b) with hb | hb
  ·simp only [hb,cond_true];exact ⟨rfl,by omega⟩
  ·simp only [hb,cond_false];by_cases hn:idxOf (gL v) l = -1
   ·simp only [hn,beq_self_eq_true,cond_true] at h1 ⊢;exact ⟨h1,by omega⟩
   ·have e:(idxOf (gL v) l == -1)=false:=beq_eq_false_iff_ne.2 hn;have e2:decide (idxOf (gL v) l≥0)=true:=JU (by omega);have e3:decide (idxOf (gL v) l+1≥0)=true:=JU (by omega);simp only [e2,cond_true] at h1;simp only [e,e3,cond_false,cond_true];refine ⟨?_,by omega⟩;rw [← h1];rw [show (idxOf (gL v) l+1).toNat=(idxOf (gL v) l).toNat+1 by omega,List.getD_cons_succ]
def GD (x1:List Bind) (v:ah):Int×Int×List Coef→Option (ff (Int×Int×List Coef) (Int×List Coef) Empty):=fun s1 =>
 bif decide (s1.1≥0) then (
  bZ (0≤s1.1∧s1.1<(x1.length:Int)) <|
  ((
   bif (((x1.getD s1.1.toNat (⟨0,[],⟨0,[]⟩,⟨[],[]⟩,[]⟩)).Kind)==1) then (
    some (((x1.getD s1.1.toNat (⟨0,[],⟨0,[]⟩,⟨[],[]⟩,[]⟩)).Var)==v)
   ) else (
    some false
   )
  ):Option Bool).bind fun v0 =>
  ((
   bif v0 then (
    some ((((x1.getD s1.1.toNat (⟨0,[],⟨0,[]⟩,⟨[],[]⟩,[]⟩)).Dim).Const),(((x1.getD s1.1.toNat (⟨0,[],⟨0,[]⟩,⟨[],[]⟩,[]⟩)).Dim).Terms))
   ) else (
    some (s1.2.1,s1.2.2)
   )
  ):Option (Int×(List Coef))).bind fun v1 =>
  some (.go ((aS (s1.1-1)),v1.1,v1.2))
 ) else (
  some (.brk (s1.2.1,s1.2.2))
 )
theorem Fi {σ ε ρ:Type} {body:σ→Option (ff σ ε ρ)} (M:Nat) (s:σ):mC body (M+1) s=(body s).bind (nD (mC body M)):=rfl
theorem Ak (bs:List Bind) (v:ah) (hb:bs.length≤1000000):∀ (j M:Nat) (d:Linear),j<M→j≤bs.length→mC (GD bs v) M ((j:Int)-1,d.Const,d.Terms)=some (.brk ((tB v (bs.take j) d).Const,(tB v (bs.take j) d).Terms))
 | 0,M,d,hM,_=>by
  obtain ⟨M,rfl⟩:∃ k,M=k+1:=⟨M-1,by omega⟩;rw [Fi];rfl
 | j+1,M,d,hM,hj=>by
  obtain ⟨M,rfl⟩:∃ k,M=k+1:=⟨M-1,by omega⟩;rw [Fi];have e1:(((j+1:Nat):Int)-1)=((j:Nat):Int):=by omega
  rw [e1];have e2:aS (((j:Nat):Int)-1)=((j:Nat):Int)-1:=uv (by unfold wC;omega);have ht:bs.take (j+1)=bs.take j++[bs.getD j wT]:=by rw [List.take_add_one,JN (show j<bs.length by omega),JM,JN (show j<bs.length by omega)];rfl
  have hs:GD bs v (((j:Nat):Int),d.Const,d.Terms)=some (.go (((j:Nat):Int)-1,(bif gL v (bs.getD j wT) then (bs.getD j wT).Dim else d).Const,(bif gL v (bs.getD j wT) then (bs.getD j wT).Dim else d).Terms)):=by
   unfold GD gL;simp only;rw [JU (show ((j:Nat):Int)≥0 by omega)];simp only [cond_true];rw [aw (by omega),Int.toNat_natCast,e2];show ((bif (bs.getD j wT).Kind==1 then _ else _:Option Bool).bind _)=_;cases (bs.getD j wT).Kind==1
   ·rfl
   ·cases h:(bs.getD j wT).Var==v
    ·simp only [cond_true,ai,Bool.true_and];show ((bif (bs.getD j wT).Var==v then _ else _:Option (Int×List Coef)).bind _)=_;rw [h];rfl
    ·simp only [cond_true,ai,Bool.true_and];show ((bif (bs.getD j wT).Var==v then _ else _:Option (Int×List Coef)).bind _)=_;rw [h];rfl
  rw [hs];simp only [ai,nD];rw [Ak bs v hb j M _ (by omega) (by omega),ht,zA]
def fq (bs:List Bind) (v:ah):Linear:=tB v bs (tA v)
theorem ve {α σ ρ:Type} (p:α→Bool) (f:α→σ→σ) (r:ρ):∀ (l:List α) (s:σ),cT (fun x s=>bif p x then (.go (f x s):ff σ σ ρ) else .ret r) (fun s=>s) l s=bif l.all p then .brk (l.foldl (fun s x=>f x s) s) else .ret r
 | [],s=>rfl
 | x::l,s=>by
  unfold cT;rw [List.all_cons,List.foldl_cons];cases p x with
  | false=>rfl
  | true =>
   simp only [cond_true,Bool.true_and];exact ve p f r l (f x s)
theorem Hv {l:Linear} (h:Eo l):dn l=some (bif br l then (jJ l,0) else ([],1))∧eS l=some (bif br l then (jJ l,0) else ([],1)):=by
 cases hv:br l with
 | false=>exact Gj h hv
 | true=>exact ⟨(kC hv).1,(kC hv).2.1⟩
def okB (bs:List Bind):Prop:=∀ b∈bs,Eo b.Dim
theorem yT {v:ah} (hv:v.length≤1000000):∀ {bs:List Bind} {d:Linear},okB bs→Eo d→Eo (tB v bs d)
 | [],d,_,hd=>hd
 | b::l,d,h,hd=>by
  rw [tB];cases gL v b with
  | true=>exact h b (by simp)
  | false=>exact yT hv (fun x hx=>h x (by simp [hx])) hd
theorem C3 {v:ah} (hv:v.length≤1000000):Eo (tA v):=⟨by simp [tA],fun t ht=>by
 have:t=⟨v,1⟩:=by simpa [tA] using ht
 rw [this];exact hv⟩
noncomputable def jb (bs:List Bind) (v:ah):List aa:=jJ (fq bs v)
noncomputable def xD (b:ah→List aa) (v:ah) (s:List aa):ff (List aa) (List aa) (ff (List aa) (List aa) (List aa×Int)):=bif (gJ s (b v)).2==0 then .go (gJ s (b v)).1 else .ret (.ret ([],(gJ s (b v)).2))
theorem v8 (b:ah→List aa):∀ (vs:List ah) (s:List aa),cT (xD b) (fun s=>s) vs s=match cT (qA b) (fun s=>s) vs s with | .brk q=>.brk q | .ret r=>.ret (.ret r)
 | [],s=>rfl
 | v::vs,s=>by
  unfold cT xD qA;cases (gJ s (b v)).2==0 with
  | false=>rfl
  | true=>exact v8 b vs (gJ s (b v)).1
theorem zl (F:ah→List aa) (v:ah):∀ (l:List ah) (s:List (ah×List aa)),v∈l∨dx [] v s=F v→dx [] v (l.foldl (fun s x=>di x (F x) s) s)=F v
 | [],s,h=>by
  rcases h with h | h
  ·cases h
  ·exact h
 | x::l,s,h=>by
  rw [List.foldl_cons];refine zl F v l _ ?_;by_cases hx:x=v
  ·right;rw [nF,if_pos hx,hx]
  ·rcases h with h | h
   ·rcases List.mem_cons.1 h with rfl | h
    ·exact absurd rfl hx
    ·exact .inl h
   ·right;rw [nF,if_neg hx];exact h
noncomputable def JC (o:Out (List aa) (List aa×Int)):List aa×Int:=match o with | .brk q=>(q,0) | .ret r=>r
noncomputable def GB (bs:List Bind) (p:List aa) (names:List ah):List aa×Int:=bif names.all (fun v=>br (fq bs v)) then JC (cT (rq (jb bs)) (fun s=>s) p []) else ([],1)
theorem tR {bs:List Bind} {v:ah} (h:br (fq bs v)=true):aL (jb bs v)=true∧Bd (jb bs v):=by obtain ⟨_,_,o1,o2,_⟩:=kC h;exact ⟨o1,o2⟩
theorem sT:aL []=true:=by decide
theorem wS {p:List aa} {bs:List Bind} (hB:Bd p) (hv:aL p=true) (hb:okB bs) {names:List ah} (hn:iu p=some names) (hlen:∀ v∈names,v.length≤1000000) (hmem:∀ m∈p,∀ v∈m.Vars,v∈names) :
 gn p bs=some (GB bs p names):=by
 unfold gn;rw [b9 p hB,hv,hn];simp only [ai,cond_true];rw [fK (σ:=List (ah×List aa)) (ε:=List (ah×List aa)) (ρ:=List aa×Int) (f:=fun s=>s) [] names (fun v s=>bif br (fq bs v) then .go (di v (jb bs v) s) else .ret ([],1)) (fun _ _=>True) (fun _ _=>rfl) [] trivial (fun j s hj _=>by
  have hm:names.getD j []∈names:=by rw [JM,JN hj];exact List.getElem_mem hj
  generalize names.getD j []=v at hm;refine ⟨?_,fun _ _=>trivial⟩;rw [show mZ v=some (tA v) from rfl,BH];simp only [ai];obtain ⟨s1,s2⟩:=CQ v (tA v) bs;have he:((bif decide (idxOf (gL v) bs≥0) then bZ (0≤idxOf (gL v) bs∧idxOf (gL v) bs<(bs.length:Int)) <| some ((((bs.getD (idxOf (gL v) bs).toNat (⟨0,[],⟨0,[]⟩,⟨[],[]⟩,[]⟩)).Dim).Const),(((bs.getD (idxOf (gL v) bs).toNat (⟨0,[],⟨0,[]⟩,⟨[],[]⟩,[]⟩)).Dim).Terms)) else some ((tA v).Const,(tA v).Terms)):Option (Int×List Coef))=some ((fq bs v).Const,(fq bs v).Terms):=by
   by_cases hi:idxOf (gL v) bs≥0
   ·have e2:decide (idxOf (gL v) bs≥0)=true:=JU hi;rw [e2] at s1 ⊢;simp only [cond_true] at s1 ⊢;rw [aw ⟨hi,s2⟩];unfold fq;rw [← s1];rfl
   ·have e2:decide (idxOf (gL v) bs≥0)=false:=JS hi;rw [e2] at s1 ⊢;simp only [cond_false] at s1 ⊢;unfold fq;rw [← s1]
  rw [he];simp only [ai];show ((dn (fq bs v)).bind _)=_;have ho:Eo (fq bs v):=yT (hlen v hm) hb (C3 (hlen v hm));rw [(Hv ho).1];simp only [ai];cases hvl:br (fq bs v)<;>rfl)]
 rw [ve (fun v=>br (fq bs v)) (fun v s=>di v (jb bs v) s)];unfold GB;cases hall:names.all (fun v=>br (fq bs v)) with
 | false=>rfl
 | true =>
  have hok:∀ v∈names,br (fq bs v)=true:=fun v hv=>J0.1 hall v hv;simp only [cond_true,ai,Sh.aft];have hget:∀ v∈names,dx [] v (names.foldl (fun s x=>di x (jb bs x) s) [])=jb bs v:=fun v hv=>zl (jb bs) v names [] (.inl hv);generalize names.foldl (fun s x=>di x (jb bs x) s) []=u0 at hget;rw [fK (σ:=List aa) (ε:=List aa) (ρ:=List aa×Int) (f:=fun s=>s) ⟨0,[]⟩ p (rq (jb bs)) (fun _ s=>aL s=true∧Bd s) (fun _ _=>rfl) [] ⟨sT,uF⟩ (fun j s hj ⟨hs,hBs⟩=>by
   have hm:p.getD j ⟨0,[]⟩∈p:=by rw [JM,JN hj];exact List.getElem_mem hj
   generalize p.getD j ⟨0,[]⟩=m at hm;have hc:=Cl hv hm;have hvs:=hmem m hm;rw [fK (σ:=List aa) (ε:=List aa) (ρ:=ff (List aa) (List aa) (List aa×Int)) (f:=fun s=>s) [] m.Vars (xD (jb bs)) (fun _ s=>aL s=true∧Bd s) (fun _ _=>rfl) [aa.mk m.Coef []] ⟨kv hc.1 hc.2.1 hc.2.2,rn _⟩ (fun i t hi ⟨ht,hBt⟩=>by
    have hw:m.Vars.getD i []∈m.Vars:=by rw [JM,JN hi];exact List.getElem_mem hi
    generalize m.Vars.getD i []=w at hw;have hwn:=hvs w hw;obtain ⟨o1,o2⟩:=tR (hok w hwn);obtain ⟨m1,_,m3⟩:=ra ht o1 hBt o2;rw [hget w hwn,m1];simp only [ai];unfold xD;cases hz:((gJ t (jb bs w)).2==0) with
    | false=>exact ⟨rfl,fun s' h=>by cases h⟩
    | true =>
     refine ⟨rfl,fun s' h => ?_⟩;cases h;obtain ⟨v1,v2,_⟩:=m3 (beq_iff_eq.1 hz);exact ⟨v1,v2⟩)]
   rw [v8];unfold rq;have e0:[aa.mk m.Coef []]=nL m.Coef:=rfl;rw [e0];cases hq:cT (qA (jb bs)) (fun s=>s) m.Vars (nL m.Coef) with
   | ret r =>
    simp only [hq];exact ⟨rfl,fun s' h=>by cases h⟩
   | brk t =>
    simp only [hq];obtain ⟨t1,t2,_⟩:=rO m.Vars (nL m.Coef) (fun v hv=>tR (hok v (hvs v hv))) (kv hc.1 hc.2.1 hc.2.2) (rn _) t hq;obtain ⟨a1,_,a3⟩:=CB hs t1 hBs t2;simp only [ai,Sh.aft];rw [a1];simp only [ai];cases hz:((rI s t).2==0) with
    | false=>exact ⟨rfl,fun s' h=>by cases h⟩
    | true =>
     refine ⟨rfl,fun s' h => ?_⟩;cases h;obtain ⟨v1,v2,_⟩:=a3 (beq_iff_eq.1 hz);exact ⟨v1,v2⟩)]
  cases cT (rq (jb bs)) (fun s=>s) p []<;>rfl
theorem Am (F:ah→List aa):∀ (l:List ah) (s:List (List aa)),l.foldl (fun s x=>s++[F x]) s=s++l.map F
 | [],s=>by simp
 | x::l,s=>by rw [List.foldl_cons,Am F l,List.map_cons];simp
def Cp (names:List ah) (vs:List ah) (i:Int):Int→Option (ff Int Int Empty):=fun s4 =>
 bZ (0≤s4∧s4<(names.length:Int)) <|
 bZ (0≤i∧i<(vs.length:Int)) <|
 bif ((names.getD s4.toNat [])==(vs.getD i.toNat [])) then (
  some (.brk s4)
 ) else (
  some (.go (aS (s4+1)))
 )
theorem zt {names vs:List ah} {i:Nat} (hi:i<vs.length) (hl:names.length≤1000000):∀ (k j M:Nat),j+k=names.length→k<M→vs.getD i []∈names.drop j→∃ n:Nat,n<names.length∧names.getD n []=vs.getD i []∧mC (Cp names vs (i:Int)) M (j:Int)=some (.brk (n:Int))
 | 0,j,M,h,_,hm=>by
  rw [List.drop_eq_nil_of_le (by omega)] at hm;cases hm
 | k+1,j,M,h,hM,hm=>by
  obtain ⟨M,rfl⟩:∃ q,M=q+1:=⟨M-1,by omega⟩;have hj:j<names.length:=by omega
  have eg:names.getD j []=names[j]:=by rw [JM,JN hj];rfl
  have hb:Cp names vs (i:Int) (j:Int)=bif (names.getD j []==vs.getD i []) then some (.brk (j:Int)) else some (.go ((j+1:Nat):Int)):=by unfold Cp;rw [aw (by omega),aw (by omega),Int.toNat_natCast,Int.toNat_natCast,uv (by unfold wC;omega)];rfl
  rw [Fi,hb];cases hc:(names.getD j []==vs.getD i []) with
  | true=>exact ⟨j,hj,eq_of_beq hc,rfl⟩
  | false =>
   rw [List.drop_eq_getElem_cons hj] at hm;rcases List.mem_cons.1 hm with e | hm
   ·rw [eg,← e] at hc;simp at hc
   ·exact zt hi hl k (j+1) M (by omega) (by omega) hm
def DG (names:List ah) (by_:List (List aa)) (vs:List ah):List aa×Int→Option (ff (List aa×Int) (List aa) (ff (List aa) (List aa) (List aa×Int))):=fun s3 =>
 bif decide (s3.2<((vs.length:Nat):Int)) then (
  (mC (σ:=Int) (ε:=Int) (ρ:=Empty) (Cp names vs s3.2) 4294967296 0).bind <| aftE fun u2 =>
  bZ (0≤u2∧u2<(by_.length:Int)) <|
  bZ (u2.toNat<by_.length) <|
  (eI s3.1 (by_.getD u2.toNat [])).bind fun y5 =>
  bif (y5.2==0) then (
   some (.go (y5.1,(aS (s3.2+1))))
  ) else (
   some (.ret (.ret ([],y5.2)))
  )
 ) else (
  some (.brk s3.1)
 )
theorem AG {names vs:List ah} {F:ah→List aa} (hl:names.length≤1000000) (hv:vs.length≤1000000) (hmem:∀ v∈vs,v∈names) (hF:∀ v∈names,aL (F v)=true∧Bd (F v)):∀ (k i M:Nat) (t:List aa),i+k=vs.length→k<M→aL t=true→Bd t →
 mC (DG names (names.map F) vs) M (t,(i:Int))=some (cT (xD F) (fun s=>s) (vs.drop i) t)
 | 0,i,M,t,h,hM,_,_=>by
  obtain ⟨M,rfl⟩:∃ q,M=q+1:=⟨M-1,by omega⟩;rw [Fi,List.drop_eq_nil_of_le (by omega)];unfold DG;simp only;rw [JS (by omega)];rfl
 | k+1,i,M,t,h,hM,ht,hB=>by
  obtain ⟨M,rfl⟩:∃ q,M=q+1:=⟨M-1,by omega⟩;have hi:i<vs.length:=by omega
  have eg:vs.getD i []=vs[i]:=by rw [JM,JN hi];rfl
  have hw:vs.getD i []∈names:=hmem _ (by rw [eg];exact List.getElem_mem hi);obtain ⟨n,n1,n2,n3⟩:=zt hi hl names.length 0 4294967296 (by omega) (by omega) (by simpa using hw);obtain ⟨o1,o2⟩:=hF _ hw;obtain ⟨_,m2,m3⟩:=ra ht o1 hB o2;have eb:(names.map F).getD n []=F (vs.getD i []):=by rw [← n2,JM,List.getElem?_map,JM,JN n1];rfl
  have hs:DG names (names.map F) vs (t,(i:Int))=bif (gJ t (F (vs.getD i []))).2==0 then some (.go ((gJ t (F (vs.getD i []))).1,((i+1:Nat):Int))) else some (.ret (.ret ([],(gJ t (F (vs.getD i []))).2))):=by unfold DG;simp only;rw [JU (by omega)];simp only [cond_true];rw [show ((0:Int))=((0:Nat):Int) from rfl,n3];simp only [ai,Sh.aftE];rw [aw (by rw [JV];omega),Int.toNat_natCast,aw (by rw [JV];exact n1),eb,m2];simp only [ai];rw [uv (by unfold wC;omega)];rfl
  rw [Fi,hs,List.drop_eq_getElem_cons hi,← eg];unfold cT xD;cases hz:((gJ t (F (vs.getD i []))).2==0) with
  | false=>rfl
  | true =>
   obtain ⟨v1,v2,_⟩:=m3 (beq_iff_eq.1 hz);exact AG hl hv hmem hF k (i+1) M _ (by omega) (by omega) v1 v2
theorem uM {p:List aa} {bs:List Bind} (hB:Bd p) (hv:aL p=true) (hb:okB bs) (hlb:bs.length≤1000000) {names:List ah} (hn:gh p=some names) (hl:names.length≤1000000) (hlen:∀ v∈names,v.length≤1000000) (hmem:∀ m∈p,∀ v∈m.Vars,v∈names) :
 fv p bs=some (GB bs p names):=by
 unfold fv;rw [bA p hB,hv,hn];simp only [ai,cond_true];rw [fK (σ:=List (List aa)) (ε:=List (List aa)) (ρ:=List aa×Int) (f:=fun s=>s) [] names (fun v s=>bif br (fq bs v) then .go (s++[jb bs v]) else .ret ([],1)) (fun j s=>s.length≤j) (fun _ _=>rfl) [] (Nat.le_refl 0) (fun j s hj hI=>by
  have hm:names.getD j []∈names:=by rw [JM,JN hj];exact List.getElem_mem hj
  generalize names.getD j []=v at hm;have ho:Eo (fq bs v):=yT (hlen v hm) hb (C3 (hlen v hm));rw [show o8 v=some (tA v) from rfl];simp only [ai];have hr:=Ak bs v hlb bs.length 4294967296 (tA v) (by omega) (Nat.le_refl _);rw [List.take_length] at hr;have hw:aS (((bs.length:Nat):Int)-1)=((bs.length:Nat):Int)-1:=uv (by unfold wC;omega);rw [hw];have hstep:∀ (K:Int×List Coef→Option (ff (List (List aa)) (List (List aa)) (List aa×Int))),((mC (GD bs v) 4294967296 (((bs.length:Nat):Int)-1,(tA v).Const,(tA v).Terms)).bind (Sh.aftE K))=K ((fq bs v).Const,(fq bs v).Terms):=fun K=>by rw [hr];rfl
  refine ⟨(hstep _).trans ?_,fun s' h => ?_⟩
  ·show ((eS (fq bs v)).bind _)=_;rw [(Hv ho).2];simp only [ai];cases hvl:br (fq bs v) with
   | false=>rfl
   | true =>
    simp only [cond_true,beq_self_eq_true];rw [aw (by omega)];rfl
  ·cases hvl:br (fq bs v) with
   | false=>rw [hvl] at h;cases h
   | true =>
    rw [hvl] at h;cases h;rw [List.length_append,List.length_singleton];omega)]
 rw [ve (fun v=>br (fq bs v)) (fun v s=>s++[jb bs v])];unfold GB;cases hall:names.all (fun v=>br (fq bs v)) with
 | false=>rfl
 | true =>
  have hok:∀ v∈names,br (fq bs v)=true:=fun v hv=>J0.1 hall v hv;simp only [cond_true,ai,Sh.aft];rw [Am,List.nil_append];rw [fK (σ:=List aa) (ε:=List aa) (ρ:=List aa×Int) (f:=fun s=>s) ⟨0,[]⟩ p (rq (jb bs)) (fun _ s=>aL s=true∧Bd s) (fun _ _=>rfl) [] ⟨sT,uF⟩ (fun j s hj ⟨hs,hBs⟩=>by
   have hm:p.getD j ⟨0,[]⟩∈p:=by rw [JM,JN hj];exact List.getElem_mem hj
   generalize p.getD j ⟨0,[]⟩=m at hm;have hc:=Cl hv hm;have hvs:=hmem m hm;rw [Aj hc.1 hc.2.1 hc.2.2];simp only [ai];have hr:=AG (F:=jb bs) hl (hB.2 m hm).1 hvs (fun v hv=>tR (hok v hv)) m.Vars.length 0 4294967296 (nL m.Coef) (by omega) (by have:=(hB.2 m hm).1;omega) (kv hc.1 hc.2.1 hc.2.2) (rn _);rw [List.drop_zero,v8] at hr;have hstep:∀ (K:List aa→Option (ff (List aa) (List aa) (List aa×Int))),((mC (DG names (names.map (jb bs)) m.Vars) 4294967296 (nL m.Coef,0)).bind (Sh.aft K))=(match cT (qA (jb bs)) (fun s=>s) m.Vars (nL m.Coef) with | .brk q=>K q | .ret r=>some (.ret r)):=fun K=>by have hr2:mC (DG names (names.map (jb bs)) m.Vars) 4294967296 (nL m.Coef,0)=_:=hr;rw [hr2];cases cT (qA (jb bs)) (fun s=>s) m.Vars (nL m.Coef)<;>rfl
   have hk:=hstep (fun u3=>(fM s u3).bind fun y6=>bif (y6.2==0) then some (.go y6.1) else some (.ret ([],y6.2)));suffices hg:_=some (rq (jb bs) m s)∧∀ s',rq (jb bs) m s = .go s'→aL s'=true∧Bd s' from ⟨hk.trans hg.1,hg.2⟩
   unfold rq;cases hq:cT (qA (jb bs)) (fun s=>s) m.Vars (nL m.Coef) with
   | ret r=>exact ⟨rfl,fun s' h=>by cases h⟩
   | brk t =>
    obtain ⟨t1,t2,_⟩:=rO m.Vars (nL m.Coef) (fun v hv=>tR (hok v (hvs v hv))) (kv hc.1 hc.2.1 hc.2.2) (rn _) t hq;obtain ⟨_,a1,a3⟩:=CB hs t1 hBs t2;simp only;rw [a1];simp only [ai];cases hz:((rI s t).2==0) with
    | false=>exact ⟨rfl,fun s' h=>by cases h⟩
    | true =>
     refine ⟨rfl,fun s' h => ?_⟩;cases h;obtain ⟨v1,v2,_⟩:=a3 (beq_iff_eq.1 hz);exact ⟨v1,v2⟩)]
  cases cT (rq (jb bs)) (fun s=>s) p []<;>rfl
theorem Ar:∀ (l:List (List ah)) (n:Nat),(∀ x∈l,x.length≤n)→l.flatten.length≤n*l.length
 | [],n,_=>by simp
 | x::l,n,h=>by have h1:=Ar l n fun y hy=>h y (by simp [hy]);have h2:=h x (by simp);simp only [List.flatten_cons,List.length_append,List.length_cons,Nat.mul_add,Nat.mul_one];omega
theorem GU {a b:ah} (h:A4 a b):a≠b:=fun e=>by subst e;unfold A4 at h;rw [eC] at h;cases h
theorem A9 {p:List aa} {bs:List Bind} (hB:Bd p) (hb:okB bs) (hlb:bs.length≤1000000):∃ r,gn p bs=some r∧fv p bs=some r:=by
 cases hv:aL p with
 | false =>
  refine ⟨([],1),?_,?_⟩
  ·unfold gn;rw [b9 p hB,hv];rfl
  ·unfold fv;rw [bA p hB,hv];rfl
 | true =>
  obtain ⟨r,e1,_,g⟩:=qJ hB;obtain ⟨r2,e2,e3⟩:=DN hB;rw [e1] at e2;obtain rfl:=JZ e2;obtain ⟨g1,g2⟩:=g hv;have hin:∀ v∈r,∃ m∈p,v∈m.Vars:=fun v hv=>by have:=(g2 v).1 hv;unfold varsOf at this;obtain ⟨l,hl,hvl⟩:=List.mem_flatten.1 this;obtain ⟨m,hm,rfl⟩:=List.mem_map.1 hl;exact ⟨m,hm,hvl⟩
  have hmem:∀ m∈p,∀ v∈m.Vars,v∈r:=fun m hm v hv=>(g2 v).2 (by
   unfold varsOf;exact List.mem_flatten.2 ⟨m.Vars,List.mem_map.2 ⟨m,hm,rfl⟩,hv⟩)
  have hlen:∀ v∈r,v.length≤1000000:=fun v hv=>by obtain ⟨m,hm,h⟩:=hin v hv;exact (hB.2 m hm).2 v h
  have hok:=cZ hv;have hn:r.length≤1000000:=by
   have hnd:r.Nodup:=g1.imp fun {a b} h=>GU h;have h1:=iW r (varsOf p) hnd fun v hv=>(g2 v).1 hv;have h2:(varsOf p).length≤400*(p.map aa.Vars).length:=Ar _ 400 fun x hx=>by obtain ⟨m,hm,rfl⟩:=List.mem_map.1 hx;exact (hok.2 m hm).1.1
   have h3:=hok.1;rw [JV] at h2;omega
  exact ⟨_,wS hB hv hb e1 hlen hmem,uM hB hv hb hlb e3 hn hlen hmem⟩
@[irreducible] def pQ (l:Linear) (n:Int):Bool:=(dK l n).getD false
theorem xO (l:Linear) (n:Int):dK l n=some (pQ l n):=by obtain ⟨b,hb⟩:=ub l n;unfold pQ;rw [hb];rfl
theorem CK {l:Linear} {n:Int} (h:pQ l n=true) (hn:n≤1000):Eo l:=by obtain ⟨f1,f2⟩:=yP (h ▸ xO l n);exact ⟨by omega,fun t ht=>by have:=f2 t ht;omega⟩
theorem Gk {α:Type} {l:List α} {d:α} {q:α→Bool} (h:(List.range' 0 (l.length-0)).all (fun j=>q (l.getD j d))=true):∀ x∈l,q x=true:=fun x hx=>by
 obtain ⟨j,hj,rfl⟩:=List.mem_iff_getElem.1 hx;have:=J0.1 h j (List.mem_range'_1.2 ⟨Nat.zero_le _,by omega⟩)
 rwa [JM,JN hj,Option.getD_some] at this
theorem F8 (l:List Linear) (n:Int):iS l n=some ((List.range' 0 (l.length-0)).all (fun j=>pQ (l.getD j ⟨0,[]⟩) 5)&&decide (((l.length:Nat):Int)≤n)):=by
 unfold iS;rw [cH (r:=false) (fun j=>pQ (l.getD j ⟨0,[]⟩) 5) _ _ () (fun j u _ _=>by show ((dK (l.getD j ⟨0,[]⟩) 5).bind _)=_;rw [xO];cases pQ (l.getD j ⟨0,[]⟩) 5<;>rfl),dF]
 cases (List.range' 0 (l.length-0)).all (fun j=>pQ (l.getD j ⟨0,[]⟩) 5)<;>rfl
theorem tG (x0:List Linear) (x1:List aa) (x2:List Bind):fp x0 x1 x2=some true:=by
 unfold fp;rw [sk];simp only [ai,cond_true,F8,yt];cases hs:((List.range' 0 (x0.length-0)).all (fun j=>pQ (x0.getD j ⟨0,[]⟩) 5)&&decide (((x0.length:Nat):Int)≤5)) with
 | false=>rfl
 | true =>
  simp only [cond_true];rw [JO,decide_eq_true_eq] at hs;obtain ⟨s1,s2⟩:=hs;cases h0:F2 x1 5 with
  | false=>rfl
  | true =>
   simp only [cond_true];by_cases h6:((x2.length:Nat):Int)>6
   ·rw [JU h6];rfl
   ·rw [JS h6];simp only [cond_false];rw [cH (r:=true) (fun j=>pQ (x2.getD j wT).Dim 3) _ _ () (fun j u _ _=>by show ((dK (x2.getD j wT).Dim 3).bind _)=_;rw [xO];cases pQ (x2.getD j wT).Dim 3<;>rfl),dF]
    cases hall:(List.range' 0 (x2.length-0)).all (fun j=>pQ (x2.getD j wT).Dim 3) with
    | false=>rfl
    | true =>
     simp only [cond_true];have hb:okB x2:=fun b hb=>by have h:pQ b.Dim 3=true:=Gk (d:=wT) (q:=fun b=>pQ b.Dim 3) hall b hb;exact CK h (by decide)
     have hk:∀ x∈x0,Eo x:=fun x hx=>by have h:pQ x 5=true:=Gk (d:=(⟨0,[]⟩:Linear)) (q:=fun x=>pQ x 5) s1 x hx;exact CK h (by decide)
     obtain ⟨r,e1,e2⟩:=za (l:=x0) (by omega) hk;obtain ⟨q,f1,f2⟩:=A9 (bs:=x2) (IL h0 (by omega)) hb (by omega);rw [e1,e2];simp only [ai];rw [f1,f2];simp only [ai];rw [vQ];simp only [ai,Bt,beq_self_eq_true,cond_true];simp only [decide_true,cond_true]
end Go.Proofs.YtadjhpbkknifeaaGreatDoor
