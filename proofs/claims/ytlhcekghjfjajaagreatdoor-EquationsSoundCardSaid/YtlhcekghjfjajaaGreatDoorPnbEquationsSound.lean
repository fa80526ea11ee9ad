/- Plain laws: what the walked functions compute answers as the statement says. -/
import Derived.Test.YtlhcekghjfjajaaGreatDoorPnaEquationsSound
import Derived.KernelRfl
set_option linter.unusedSimpArgs false
set_option linter.unusedVariables false
namespace Go.Proofs.YtlhcekghjfjajaaGreatDoor
open Go.Ab Go.Sh
def iM (q:Linear):Bool:=q.Terms.isEmpty&&q.Const==0
theorem mr (q:Linear):dH q=some (iM q):=by unfold dH iM;rw [FZ];cases q.Terms.isEmpty<;>rfl
theorem sw {q:Linear}:iM q=true↔q=⟨0,[]⟩:=by unfold iM;obtain ⟨c,ts⟩:=q;simp only [Kd,List.isEmpty_iff,beq_iff_eq,Linear.mk.injEq];exact and_comm
def ny:Nat→Nat→Nat→List Linear→List Bind→Option Rs
 | 0,_,_,_,_=>none
 | f+1,i,n,qs,bs=>bif iM (qs.getD i dp) then some (.ok n qs bs) else
  match jg i n qs bs with
  | .ok m qs' bs'=>ny f i m qs' bs'
  | e=>some e
theorem A7:∀ (k N i n:Nat) (qs:List Linear) (bs:List Bind),kB n qs bs→i<qs.length→(Pm k (qs.getD i dp)∨(qs.getD i dp).Terms=[])→k+2≤N→∃ r,ny N i n qs bs=some r
 | k,N,i,n,qs,bs,h,hi,hP,hN=>by
  obtain ⟨N,rfl⟩:∃ j,N=j+1:=⟨N-1,by omega⟩;simp only [ny];cases hz:iM (qs.getD i dp) with
  | true=>exact ⟨_,rfl⟩
  | false =>
   simp only [cond_false];cases hs:jg i n qs bs with
   | no=>exact ⟨_,rfl⟩
   | lim=>exact ⟨_,rfl⟩
   | ok m qs' bs' =>
    simp only;obtain ⟨a1,a2,a3,a4⟩:=re h hi hs;rcases a4 with ⟨_,a4⟩ | ⟨_,a4⟩
    ·obtain ⟨N,rfl⟩:∃ j,N=j+1:=⟨N-1,by omega⟩;simp only [ny];rw [a4,show iM ⟨0,[]⟩=true from rfl];exact ⟨_,rfl⟩
    ·rcases hP with hP | hP
     ·cases k with
      | zero =>
       obtain ⟨t,ht,hk⟩:=hP;have:=gf (h.qv _ (bF dp hi)).1 t ht;omega
      | succ k=>exact A7 k N i m qs' bs' a1 (by omega) (.inl (a4 k hP)) (by omega)
     ·exfalso;unfold jg Co at hs;have h0:cont (qs.getD i dp)=0:=(rX (h.qv _ (bF dp hi)).1).2 hP;rw [h0] at hs;simp at hs
theorem zz {N i n:Nat} {qs:List Linear} {bs:List Bind} (h:kB n qs bs) (hi:i<qs.length) (hN:1000002≤N):∃ r,ny N i n qs bs=some r:=by
 refine A7 1000000 N i n qs bs h hi ?_ hN;cases hT:(qs.getD i dp).Terms with
 | nil=>exact .inr rfl
 | cons t ts =>
  left;have:=(cA (h.qv _ (bF dp hi)).1 t (by rw [hT];simp)).1;exact ⟨t,by rw [hT];simp,by omega⟩
theorem tV:∀ (N i n c:Nat) (qs:List Linear) (bs:List Bind),kB n qs bs→i<qs.length→(bs.length≤n+c∨(iM (qs.getD i dp)=true∧bs.length≤n+c+1))→∀ (m:Nat) (qs':List Linear) (bs':List Bind),ny N i n qs bs=some (.ok m qs' bs') →
 kB m qs' bs'∧qs'.length=qs.length∧bs'.length≤m+c+1∧qs'.getD i dp=⟨0,[]⟩∧n≤m
 | 0,i,n,c,qs,bs,h,hi,hl,m,qs',bs',e=>by simp [ny] at e
 | N+1,i,n,c,qs,bs,h,hi,hl,m,qs',bs',e=>by
  simp only [ny] at e;cases hz:iM (qs.getD i dp) with
  | true =>
   rw [hz] at e;injection e with e
   injection e with e1 e2 e3
   subst e1;subst e2;subst e3;exact ⟨h,rfl,by rcases hl with hl | hl<;>omega,sw.1 hz,Nat.le_refl _⟩
  | false =>
   rw [hz] at e;simp only [cond_false] at e;have hl:bs.length≤n+c:=hl.resolve_right fun h2=>by rw [hz] at h2;cases h2.1
   cases hs:jg i n qs bs with
   | no=>rw [hs] at e;cases e
   | lim=>rw [hs] at e;cases e
   | ok m1 qs1 bs1 =>
    rw [hs] at e;simp only at e;obtain ⟨a1,a2,a3,a4⟩:=re h hi hs;have hb:bs1.length≤m1+c∨(iM (qs1.getD i dp)=true∧bs1.length≤m1+c+1):=by
     rcases a4 with ⟨e1,a4⟩ | ⟨e1,_⟩
     ·exact .inr ⟨sw.2 a4,by omega⟩
     ·exact .inl (by omega)
    obtain ⟨b1,b2,b3,b4,b5⟩:=tV N i m1 c qs1 bs1 a1 (by omega) hb m qs' bs' e;refine ⟨b1,by omega,b3,b4,?_⟩;rcases a4 with ⟨e1,_⟩ | ⟨e1,_⟩<;>omega
abbrev J2:=ah
abbrev DO:=List Bind×Int×J2×Int
noncomputable def BI (i:Nat) (s2:List Rw×List Bind×Int):Option (gj (List Rw×List Bind×Int) (List Rw×List Bind×Int) (gj (Int×List Rw×List Bind×Int) (List Rw×List Bind×Int) DO)) :=
 bP (0≤(i:Int)∧(i:Int)<(s2.1.length:Int)) <|
 bP ((i:Int).toNat<s2.1.length) <|
 (dH (Linear.mk (((s2.1.getD (i:Int).toNat (⟨⟨0,[]⟩,[],0,false⟩)).q).Const) (((s2.1.getD (i:Int).toNat (⟨⟨0,[]⟩,[],0,false⟩)).q).Terms))).bind fun y2 =>
 bif y2 then (
  some (.brk (s2.1,s2.2.1,s2.2.2))
 ) else (
  (be (i:Int) s2.2.2 s2.1 s2.2.1).bind fun y3 =>
  bif (y3.1.2==0) then (
   some (.go (y3.2.2.1,y3.2.2.2,y3.2.1))
  ) else (
   some (.ret (.ret ([],0,y3.1.1,y3.1.2)))
  )
 )
theorem HI:∀ (N i n c:Nat) (rows:List Rw) (bs:List Bind),i<rows.length→rows.length≤6000→kB n (rows.map (·.q)) bs→(∀ r∈rows,wY rows.length r)→c≤6000→(bs.length≤n+c∨(iM ((rows.map (·.q)).getD i dp)=true∧bs.length≤n+c+1)) →
 (∀ (m:Nat) (qs':List Linear) (bs':List Bind),ny N i n (rows.map (·.q)) bs=some (.ok m qs' bs')→∃ rows',rows'.map (·.q)=qs'∧rows'.length=rows.length∧(∀ r∈rows',wY rows.length r)∧mh (BI i) N (rows,bs,(n:Int))=some (.brk (rows',bs',(m:Int)))) ∧
 (ny N i n (rows.map (·.q)) bs=some .no→∃ f,mh (BI i) N (rows,bs,(n:Int))=some (.ret (.ret ([],0,f,9)))) ∧
 (ny N i n (rows.map (·.q)) bs=some .lim→∃ f,mh (BI i) N (rows,bs,(n:Int))=some (.ret (.ret ([],0,f,3))))
 | 0,i,n,c,rows,bs,hi,hl,h,hr,hc,hb=>by simp [ny]
 | N+1,i,n,c,rows,bs,hi,hl,h,hr,hc,hb=>by
  have hn:=h.n2;simp only [ny,mh,BI];rw [az ⟨by omega,by omega⟩,Int.toNat_natCast,az hi,pZ,mr,uK];simp only [Option.bind_some];cases hz:iM (rows.getD i nB).q with
  | true =>
   refine ⟨fun m qs' bs' e => ?_,fun e=>(by injection e with e;cases e),fun e=>(by injection e with e;cases e)⟩;injection e with e
   injection e with e1 e2 e3
   subst e1;subst e3;exact ⟨rows,e2,rfl,hr,rfl⟩
  | false =>
   simp only [cond_false];have hb':bs.length≤n+c:=hb.resolve_right fun h2=>by rw [uK,hz] at h2;cases h2.1
   rcases Ja hi (by omega) (by omega) h hr with ⟨e1,e2⟩ | ⟨e1,f,n',r',b',e2⟩ | ⟨m1,rows1,bs1,e1,e2,l1,o1⟩
   ·rw [e1,e2];exact ⟨fun m qs' bs' e=>(by injection e with e;cases e),fun _=>⟨_,rfl⟩,fun e=>(by injection e with e;cases e)⟩
   ·rw [e1,e2];exact ⟨fun m qs' bs' e=>(by injection e with e;cases e),fun e=>(by injection e with e;cases e),fun _=>⟨_,rfl⟩⟩
   ·rw [e1,e2];simp only [Option.bind_some];have hq:i<(rows.map (·.q)).length:=by simpa using hi
    obtain ⟨a1,a2,a3,a4⟩:=re h hq e1;have hb1:bs1.length≤m1+c∨(iM ((rows1.map (·.q)).getD i dp)=true∧bs1.length≤m1+c+1):=by
     rcases a4 with ⟨e1,a4⟩ | ⟨e1,_⟩
     ·exact .inr ⟨sw.2 a4,by omega⟩
     ·exact .inl (by omega)
    have ih:=HI N i m1 c rows1 bs1 (by omega) (by omega) a1 (fun r hm=>by rw [l1];exact o1 r hm) hc hb1;rw [l1] at ih;exact ih
theorem EZ {v:aw}:∀ {bs:List Bind},(∀ b∈bs,b.Kind=1)→(∃ b∈bs,b.Var=v)→0≤idxOf (kf 1 v) bs
 | [],_,h=>by obtain ⟨b,hb,_⟩:=h;simp at hb
 | b::bs,hk,h=>by have h2:=pH (kf 1 v) (b::bs);refine Int.not_lt.1 fun hn => ?_;have:=h2.1 hn;obtain ⟨b',hb',e⟩:=h;rw [List.any_eq_false] at this;refine this b' hb' ?_;simp [kf,hk b' hb',e]
theorem AA {bs:List Bind} (hk:∀ b∈bs,b.Kind=1) (hd:(bs.map Bind.Var).Nodup) {b:Bind} (hb:b∈bs) (f:aw→Int):sv bs f b.Var=ln f b.Dim:=by
 have h0:=EZ hk ⟨b,hb,rfl⟩;obtain ⟨h1,h2⟩:=pz (kf 1 b.Var) rB bs h0;unfold sv;rw [Kh (by omega),cond_false];have hm:bs.getD (idxOf (kf 1 b.Var) bs).toNat rB∈bs:=bF _ h1;generalize bs.getD (idxOf (kf 1 b.Var) bs).toNat rB=b' at h2 hm;simp only [kf,Kd,beq_iff_eq] at h2;have:b'=b:=by
  obtain ⟨i,hi,rfl⟩:=List.getElem_of_mem hm;obtain ⟨j,hj,rfl⟩:=List.getElem_of_mem hb;have hp:=List.pairwise_iff_getElem.1 (show (bs.map Bind.Var).Pairwise (· ≠ ·) from hd);rcases Nat.lt_trichotomy i j with h | h | h
  ·exact absurd (by rw [List.getElem_map,List.getElem_map];exact h2.2) (hp i j (by simpa using hi) (by simpa using hj) h)
  ·subst h;rfl
  ·exact absurd (by rw [List.getElem_map,List.getElem_map];exact h2.2.symm) (hp j i (by simpa using hj) (by simpa using hi) h)
 rw [this]
theorem ug {bs:List Bind} {v:aw} (h:v ∉ bs.map Bind.Var) (f:aw→Int):sv bs f v=f v:=by
 unfold sv;have:idxOf (kf 1 v) bs<0:=(pH (kf 1 v) bs).2 (List.any_eq_false.2 fun b hb=>by simp only [kf,Kd,beq_iff_eq,not_and];intro _ e;exact h (List.mem_map.2 ⟨b,hb,e⟩))
 rw [Ki this,cond_true]
theorem CU {x:aw} {by_ q:Linear} (hb:au by_=true) (hv:au q=true) (h:mb x by_ q=true) (f:aw→Int):ln f (wo x by_ q)=ln (upd f x (ln f by_)) q:=by rw [(lB hb hv h).2.1 f,Dx f x _ (fI hv)]
theorem II {x:aw} {by_:Linear} {bs:List Bind} (hk:∀ b∈bs,b.Kind=1) (hd:(bs.map Bind.Var).Nodup) (hx:x ∉ bs.map Bind.Var) (hb:au by_=true) (hv:∀ b∈bs,au b.Dim=true) (hc:∀ b∈bs,mb x by_ b.Dim=true) (f:aw→Int) :
 (∀ b∈bs.map (jK x by_)++[one x by_],b.Kind=1)∧((bs.map (jK x by_)++[one x by_]).map Bind.Var).Nodup∧sv (bs.map (jK x by_)++[one x by_]) f=sv bs (upd f x (ln f by_)):=by
 have hvars:(bs.map (jK x by_)).map Bind.Var=bs.map Bind.Var:=by rw [List.map_map];rfl
 have h1:∀ b∈bs.map (jK x by_)++[one x by_],b.Kind=1:=fun b hb=>by
  rcases List.mem_append.1 hb with hb | hb
  ·obtain ⟨b0,hb0,rfl⟩:=List.mem_map.1 hb;exact hk b0 hb0
  ·have:b=one x by_:=by simpa using hb
   rw [this];rfl
 have h2:((bs.map (jK x by_)++[one x by_]).map Bind.Var).Nodup:=by
  rw [List.map_append,hvars,List.nodup_append];exact ⟨hd,by simp,fun a ha b hb=>by
   have:b=x:=by simpa [one] using hb
   rw [this];rintro rfl;exact hx ha⟩
 refine ⟨h1,h2,funext fun v => ?_⟩;by_cases hvb:v∈bs.map Bind.Var
 ·obtain ⟨b,hb0,rfl⟩:=List.mem_map.1 hvb;rw [AA hk hd hb0];have hm:jK x by_ b∈bs.map (jK x by_)++[one x by_]:=List.mem_append.2 (.inl (List.mem_map.2 ⟨b,hb0,rfl⟩));have:=AA h1 h2 hm f;rw [show (jK x by_ b).Var=b.Var from rfl] at this;rw [this];exact CU hb (hv b hb0) (hc b hb0) f
 ·rw [ug hvb];by_cases e:v=x
  ·subst e;have hm:one v by_∈bs.map (jK v by_)++[one v by_]:=by simp
   have:=AA h1 h2 hm f;rw [show (one v by_).Var=v from rfl] at this;rw [this,zu];rfl
  ·rw [ba e];refine ug ?_ f;rw [List.map_append,hvars];simp only [List.mem_append,List.map_cons,List.map_nil,List.mem_singleton,not_or];exact ⟨hvb,e⟩
structure Inv (l:List Linear) (i:Nat) (qs:List Linear) (bs:List Bind):Prop where
 len:qs.length=l.length
 A:∀ j,j<i→∀ f,ln (sv bs f) (l.getD j dp)=0
 B:∀ j,i≤j→j<l.length→∃ k:Int,k≠0∧∀ f,ln (sv bs f) (l.getD j dp)=k*ln f (qs.getD j dp)
 C1:∀ b∈bs,∀ q∈qs.drop i,cf q b.Var=0
 C2:∀ b∈bs,∀ b'∈bs,cf b'.Dim b.Var=0
 D:(bs.map Bind.Var).Nodup
 K:∀ b∈bs,b.Kind=1
theorem Cr {l:List Linear} {i n m:Nat} {qs:List Linear} {bs:List Bind} {x:aw} {by_:Linear} (h:kB n qs bs) (hI:Inv l i qs bs) (hi:i<qs.length) (hnm:n≤m) (hm:m<1000000000) (hx:dP x=true) (hxf:nX x<m) (hb:zd m by_)
 (hxi:cf (qs.getD i dp) x≠0) (hbx:cf by_ x=0) (hbb:∀ b∈bs,cf by_ b.Var=0) {n':Nat} {qs':List Linear} {bs':List Bind} (e:vD x by_ i m qs bs = .ok n' qs' bs'):Inv l i qs' bs':=by
 obtain ⟨_,_,a3,a4,a5,a6,a7⟩:=yl h hnm hm hx hxf hb e;have hmi:qs.getD i dp∈qs.drop i:=by rw [getD_at dp hi,List.drop_eq_getElem_cons hi];exact List.mem_cons_self ..
 have hxn:x ∉ bs.map Bind.Var:=fun hc=>by obtain ⟨b,hb,eb⟩:=List.mem_map.1 hc;have:=hI.C1 b hb _ hmi;rw [eb] at this;exact hxi this
 have hbv:∀ b∈bs,au b.Dim=true:=fun b hb=>(h.bv b hb).1;have hsv:=fun f=>II hI.K hI.D hxn a5 hbv a6 f;have hq':∀ j,i≤j→j<qs.length→qs'.getD j dp=wo x by_ (qs.getD j dp)∧qs.getD j dp∈qs.drop i:=fun j h1 h2=>by
  constructor
  ·rw [a3,Kb,List.getElem?_append_right (by simp;omega),List.getElem?_map,List.getElem?_drop,getD_at dp h2];have:i+(j-(qs.take i).length)=j:=by simp;omega
   rw [this,Kc h2];rfl
  ·rw [getD_at dp h2];refine List.mem_iff_getElem?.2 ⟨j-i,?_⟩;rw [List.getElem?_drop,show i+(j-i)=j by omega,Kc h2]
 have hqv:∀ q∈qs.drop i,au q=true:=fun q hq=>(h.qv q (List.mem_of_mem_drop hq)).1;have key:∀ q,au q=true→mb x by_ q=true→(∀ b∈bs,cf q b.Var=0)→∀ b∈bs',cf (wo x by_ q) b.Var=0:=fun q hv hc hz b hb=>by
  rw [(lB a5 hv hc).2.2];rw [a4] at hb;rcases List.mem_append.1 hb with hb | hb
  ·obtain ⟨b0,hb0,rfl⟩:=List.mem_map.1 hb;have hne:ind b0.Var x=0:=if_neg fun e=>hxn (by rw [e];exact List.mem_map.2 ⟨b0,hb0,rfl⟩);show cf q b0.Var+cf q x*(cf by_ b0.Var-ind b0.Var x)=0;rw [hz b0 hb0,hbb b0 hb0,hne];simp
  ·have:b=one x by_:=by simpa using hb
   subst this;show cf q x+cf q x*(cf by_ x-ind x x)=0;rw [hbx,show ind x x=1 from if_pos rfl];omega
 refine ⟨?_,fun j hj f => ?_,fun j h1 h2 => ?_,fun b hb q hq => ?_,fun b hb b' hb' => ?_,by rw [a4];exact (hsv fun _=>0).2.1,by rw [a4];exact (hsv fun _=>0).1⟩
 ·rw [a3,← hI.len];simp;omega
 ·rw [a4,(hsv f).2.2];exact hI.A j hj _
 ·obtain ⟨k,hk,hB⟩:=hI.B j h1 h2;refine ⟨k,hk,fun f => ?_⟩;obtain ⟨e1,e2⟩:=hq' j h1 (by rw [hI.len];exact h2);rw [a4,(hsv f).2.2,hB,e1,CU a5 (hqv _ e2) (a7 _ e2) f]
 ·rw [a3,List.drop_append_of_le_length (by simp;omega)] at hq;have hq:q∈(qs.drop i).map (wo x by_):=by rw [List.drop_of_length_le (by simp;omega)] at hq;simpa using hq
  obtain ⟨q0,hq0,rfl⟩:=List.mem_map.1 hq;exact key q0 (hqv q0 hq0) (a7 q0 hq0) (fun b hb=>hI.C1 b hb q0 hq0) b hb
 ·rw [a4] at hb';rcases List.mem_append.1 hb' with hb' | hb'
  ·obtain ⟨b0,hb0,rfl⟩:=List.mem_map.1 hb';exact key b0.Dim (hbv b0 hb0) (a6 b0 hb0) (fun b hb=>hI.C2 b hb b0 hb0) b hb
  ·have:b'=one x by_:=by simpa using hb'
   subst this;rw [a4] at hb;rcases List.mem_append.1 hb with hb | hb
   ·obtain ⟨b0,hb0,rfl⟩:=List.mem_map.1 hb;exact hbb b0 hb0
   ·have:b=one x by_:=by simpa using hb
    subst this;exact hbx
theorem FD (f:aw→Int) {q:Linear} (hd:q.Const.tmod (cont q)=0):ln f q=(cont q:Int)*ln f (a8 (cont q) q):=by
 have h1:(cont q:Int)*q.Const.tdiv (cont q)=q.Const:=by have:=Int.mul_tdiv_add_tmod q.Const (cont q);omega
 have h2:∀ ts:List ak,(∀ t∈ts,((cont q:Nat):Int) ∣ t.C)→bW f ts=(cont q:Int)*bW f (ts.map fun t=>ak.mk t.Var (t.C.tdiv (cont q))):=by
  intro ts;induction ts with
  | nil=>intro _;simp [bW]
  | cons t ts ih =>
   intro h;simp only [bW,List.map_cons];rw [ih fun u hu=>h u (by simp [hu]),Int.mul_add,← Int.mul_assoc,Int.mul_tdiv_cancel' (h t (by simp))]
 show q.Const+bW f q.Terms=(cont q:Int)*(q.Const.tdiv (cont q)+bW f (q.Terms.map fun t=>ak.mk t.Var (t.C.tdiv (cont q))));rw [Int.mul_add,h1,← h2 q.Terms wE]
theorem sU {q:Linear} (hv:au q=true) {v:aw} (h:cf q v=0):v ∉ q.Terms.map ak.Var:=fun hm=>by obtain ⟨t,ht,rfl⟩:=List.mem_map.1 hm;have e:cf q t.Var=t.C:=mW (fI hv) ht;exact gf hv t ht (by omega)
theorem xv (q:Linear):(a8 (cont q) q).Terms.map ak.Var=q.Terms.map ak.Var:=by show (q.Terms.map fun t=>ak.mk t.Var (t.C.tdiv (cont q))).map ak.Var=_;rw [List.map_map];rfl
theorem GA {t:ak} {q:Linear} {v:aw} (h:v=t.Var∨v ∉ q.Terms.map ak.Var):cf (GD t q) v=0:=by
 refine jU fun hm => ?_;obtain ⟨u,hu,e⟩:=List.mem_map.1 hm;obtain ⟨z,hz,rfl⟩:=List.mem_map.1 (show u∈(q.Terms.filter fun u => !(u.Var==t.Var)).map fun u=>ak.mk u.Var (-t.C*u.C) from hu);obtain ⟨h1,h2⟩:=List.mem_filter.1 hz;have e:z.Var=v:=e;rcases h with h | h
 ·rw [e,h] at h2;simp at h2
 ·exact h (List.mem_map.2 ⟨z,h1,e⟩)
theorem FH {t:ak} {n:Nat} {q:Linear} {v:aw} (hn:v≠jz n) (h:v=t.Var∨v ∉ q.Terms.map ak.Var):cf (CB t n q) v=0:=by
 refine jU fun hm => ?_;obtain ⟨u,hu,e⟩:=List.mem_map.1 hm;have hu:=(nv _).mem_iff.1 (show u∈zj (oD t n q.Terms) from hu);unfold oD at hu;rcases List.mem_cons.1 hu with rfl | hu
 ·exact hn e.symm
 ·obtain ⟨z,hz,rfl⟩:=List.mem_map.1 hu;obtain ⟨h1,h2⟩:=List.mem_filter.1 hz;have e:z.Var=v:=e;rcases h with h | h
  ·rw [e,h] at h2;simp at h2
  ·exact h (List.mem_map.2 ⟨z,h1,e⟩)
theorem yT {α:Type} {l:List α} {i:Nat} {x y:α} (h:y∈(l.set i x).drop i):y=x∨y∈l.drop (i+1):=by
 by_cases hi:i<l.length
 ·rw [List.drop_eq_getElem_cons (by simpa using hi),List.drop_set_of_lt (by omega)] at h;rcases List.mem_cons.1 h with h | h
  ·left;rw [h,List.getElem_set_self]
  ·exact .inr h
 ·rw [List.drop_of_length_le (by simp;omega)] at h;simp at h
theorem qb {α:Type} {l:List α} {i:Nat} {y:α} (h:y∈l.drop (i+1)):y∈l.drop i:=by rw [show i+1=i+1 from rfl,← List.drop_drop] at h;exact List.mem_of_mem_drop h
theorem EW {l:List Linear} {i n:Nat} {qs:List Linear} {bs:List Bind} (h:kB n qs bs) (hI:Inv l i qs bs) (hi:i<qs.length) (hno:Co (qs.getD i dp)=false):Inv l i (qs.set i (a8 (cont (qs.getD i dp)) (qs.getD i dp))) bs:=by
 obtain ⟨hc,hd⟩:=qZ hno;have hv:=(h.qv _ (bF dp hi)).1;refine ⟨by simpa using hI.len,hI.A,fun j h1 h2 => ?_,fun b hb q hq => ?_,hI.C2,hI.D,hI.K⟩
 ·obtain ⟨k,hk,hB⟩:=hI.B j h1 h2;by_cases e:j=i
  ·subst e;refine ⟨k*cont (qs.getD j dp),Int.mul_ne_zero hk (by omega),fun f => ?_⟩;rw [kO hi,hB f,FD f hd,Int.mul_assoc]
  ·refine ⟨k,hk,fun f => ?_⟩;rw [hB f];congr 2;rw [Kb,Kb,List.getElem?_set_ne (fun e2=>e e2.symm)]
 ·rcases yT hq with rfl | hq
  ·refine jU ?_;rw [xv];refine sU hv (hI.C1 b hb _ ?_);rw [getD_at dp hi,List.drop_eq_getElem_cons hi];exact List.mem_cons_self ..
  ·exact hI.C1 b hb q (qb hq)
theorem DG {l:List Linear} {i n:Nat} {qs:List Linear} {bs:List Bind} (h:kB n qs bs) (hI:Inv l i qs bs) (hi:i<qs.length) {m:Nat} {qs':List Linear} {bs':List Bind} (e:jg i n qs bs = .ok m qs' bs'):Inv l i qs' bs':=by
 obtain ⟨qv,qf⟩:=h.qv _ (bF dp hi);have hset:=xl h hi;have hN:=fun hno=>EW h hI hi hno;have hmi:qs.getD i dp∈qs.drop i:=by rw [getD_at dp hi,List.drop_eq_getElem_cons hi];exact List.mem_cons_self ..
 have hC:=fun b hb=>sU qv (hI.C1 b hb _ hmi);unfold jg at e;generalize hQ:qs.getD i dp=q at qv qf e hset hN hC;cases hno:Co q with
 | true=>rw [hno] at e;cases e
 | false =>
  obtain ⟨hc,hd⟩:=qZ hno;have hN:=hN hno;rw [hno] at e;simp only [cond_false] at e;have hnv:=ga qv;obtain ⟨tm,_⟩:=BT qv hc;generalize hT:vl (a8 (cont q) q).Terms=t at tm e;obtain ⟨tb,tn⟩:=cA hnv t tm;have htf:nX t.Var<n:=j7 qf t tm;have hat:(qs.set i (a8 (cont q) q)).getD i dp=a8 (cont q) q:=kO hi;have hi':i<(qs.set i (a8 (cont q) q)).length:=by simpa using hi
  have hxi:cf ((qs.set i (a8 (cont q) q)).getD i dp) t.Var≠0:=by rw [hat,show cf (a8 (cont q) q) t.Var=t.C from mW (fI hnv) tm];exact gf hnv t tm
  have hbv:∀ b∈bs,b.Var ∉ (a8 (cont q) q).Terms.map ak.Var:=fun b hb=>by rw [xv];exact hC b hb
  cases hu:t.C==1||t.C == -1 with
  | true =>
   rw [hu] at e;exact Cr hset hN hi' (Nat.le_refl n) h.n2 tn htf (CP (j7 qf)) hxi (GA (.inl rfl)) (fun b hb=>GA (.inr (hbv b hb))) e
  | false =>
   rw [hu] at e;simp only [cond_false] at e;cases hl:decide (n+1≥1000000000) with
   | true=>rw [hl] at e;cases e
   | false =>
    rw [hl] at e;have hl:=Kf hl;have hfn:=pF h.n1 h.n2;refine Cr hset hN hi' (Nat.le_succ n) (by omega) tn (by omega) (Di h.n1 h.n2 (j7 qf)) hxi (FH (fun e => ?_) (.inl rfl)) (fun b hb=>FH (fun e => ?_) (.inr (hbv b hb))) e
    ·rw [e,hfn.2] at htf;omega
    ·have:=(h.bv b hb).2.2.2;rw [e,hfn.2] at this;omega
theorem AX {l:List Linear}:∀ (N i n:Nat) (qs:List Linear) (bs:List Bind),kB n qs bs→Inv l i qs bs→i<qs.length→∀ (m:Nat) (qs':List Linear) (bs':List Bind),ny N i n qs bs=some (.ok m qs' bs')→Inv l i qs' bs'
 | 0,i,n,qs,bs,h,hI,hi,m,qs',bs',e=>by simp [ny] at e
 | N+1,i,n,qs,bs,h,hI,hi,m,qs',bs',e=>by
  simp only [ny] at e;cases hz:iM (qs.getD i dp) with
  | true =>
   rw [hz] at e;injection e with e
   injection e with e1 e2 e3
   subst e2;subst e3;exact hI
  | false =>
   rw [hz] at e;simp only [cond_false] at e;cases hs:jg i n qs bs with
   | no=>rw [hs] at e;cases e
   | lim=>rw [hs] at e;cases e
   | ok m1 qs1 bs1 =>
    rw [hs] at e;obtain ⟨a1,a2,_,_⟩:=re h hi hs;exact AX N i m1 qs1 bs1 a1 (DG h hI hi hs) (by omega) m qs' bs' e
theorem Ff {l:List Linear} {i:Nat} {qs:List Linear} {bs:List Bind} (hI:Inv l i qs bs) (hi:i<l.length) (h0:qs.getD i dp=⟨0,[]⟩):Inv l (i+1) qs bs:=by
 refine ⟨hI.len,fun j hj f => ?_,fun j h1 h2=>hI.B j (by omega) h2,fun b hb q hq=>hI.C1 b hb q (qb hq),hI.C2,hI.D,hI.K⟩;by_cases e:j=i
 ·subst e;obtain ⟨k,_,hB⟩:=hI.B j (Nat.le_refl _) hi;rw [hB f,h0];simp [ln,bW]
 ·exact hI.A j (by omega) f
theorem xL (l:List Linear):Inv l 0 l [] :=
 ⟨rfl,fun j hj=>absurd hj (Nat.not_lt_zero _),fun j _ _=>⟨1,by omega,fun f=>by rw [Int.one_mul];have:sv [] f=f:=funext fun v=>ug (by simp) f;rw [this]⟩,fun b hb=>by simp at hb,fun b hb=>by simp at hb,by simp,fun b hb=>by simp at hb⟩
def rv:Nat→Nat→Nat→List Linear→List Bind→Option Rs
 | 0,_,n,qs,bs=>some (.ok n qs bs)
 | k+1,i,n,qs,bs=>match ny 4294967296 i n qs bs with
  | some (.ok m qs' bs')=>rv k (i+1) m qs' bs'
  | e=>e
theorem yq {l:List Linear}:∀ (k i n:Nat) (qs:List Linear) (bs:List Bind),i+k=l.length→kB n qs bs→Inv l i qs bs→bs.length≤n+i→∀ (m:Nat) (qs':List Linear) (bs':List Bind),rv k i n qs bs=some (.ok m qs' bs') →
 kB m qs' bs'∧Inv l l.length qs' bs'∧n≤m∧bs'.length≤m+l.length
 | 0,i,n,qs,bs,hk,h,hI,hb,m,qs',bs',e=>by
  simp only [rv] at e;injection e with e
  injection e with e1 e2 e3
  subst e1;subst e2;subst e3;have:i=l.length:=by omega
  subst this;exact ⟨h,hI,Nat.le_refl _,hb⟩
 | k+1,i,n,qs,bs,hk,h,hI,hb,m,qs',bs',e=>by
  simp only [rv] at e;have hi:i<qs.length:=by rw [hI.len];omega
  cases hr:ny 4294967296 i n qs bs with
  | none=>rw [hr] at e;cases e
  | some r =>
   cases r with
   | no=>rw [hr] at e;cases e
   | lim=>rw [hr] at e;cases e
   | ok m1 qs1 bs1 =>
    rw [hr] at e;simp only at e;obtain ⟨a1,a2,a3,a4,a5⟩:=tV 4294967296 i n i qs bs h hi (.inl hb) m1 qs1 bs1 hr;have hI1:=Ff (AX 4294967296 i n qs bs h hI hi m1 qs1 bs1 hr) (by omega) a4;obtain ⟨b1,b2,b3,b4⟩:=yq k (i+1) m1 qs1 bs1 (by omega) a1 hI1 (by omega) m qs' bs' e;exact ⟨b1,b2,by omega,b4⟩
theorem ss:∀ (k i n:Nat) (qs:List Linear) (bs:List Bind),i+k=qs.length→kB n qs bs→bs.length≤n+i→∃ r,rv k i n qs bs=some r
 | 0,i,n,qs,bs,_,_,_=>⟨_,rfl⟩
 | k+1,i,n,qs,bs,hk,h,hb=>by
  simp only [rv];obtain ⟨r,hr⟩:=zz (N:=4294967296) h (show i<qs.length by omega) (by omega);rw [hr];cases r with
  | no=>exact ⟨_,rfl⟩
  | lim=>exact ⟨_,rfl⟩
  | ok m1 qs1 bs1 =>
   simp only;obtain ⟨a1,a2,a3,a4,a5⟩:=tV 4294967296 i n i qs bs h (by omega) (.inl hb) m1 qs1 bs1 hr;exact ss k (i+1) m1 qs1 bs1 (by omega) a1 (by omega)
noncomputable def xZ (N:Nat) (s1:Int×List Rw×List Bind×Int):Option (gj (Int×List Rw×List Bind×Int) (List Rw×List Bind×Int) DO) :=
 bif decide (s1.1<((N:Nat):Int)) then (
  (mh (σ:=((List ab)×(List Bind)×Int)) (ε:=((List ab)×(List Bind)×Int)) (ρ:=(gj (Int×(List ab)×(List Bind)×Int) ((List ab)×(List Bind)×Int) ((List Bind)×Int×ah×Int))) (fun s2 =>
   bP (0≤s1.1∧s1.1<(s2.1.length:Int)) <|
   bP (s1.1.toNat<s2.1.length) <|
   (dH (Linear.mk (((s2.1.getD s1.1.toNat (⟨⟨0,[]⟩,[],0,false⟩)).q).Const) (((s2.1.getD s1.1.toNat (⟨⟨0,[]⟩,[],0,false⟩)).q).Terms))).bind fun y2 =>
   bif y2 then (
    some (.brk (s2.1,s2.2.1,s2.2.2))
   ) else (
    (be s1.1 s2.2.2 s2.1 s2.2.1).bind fun y3 =>
    bif (y3.1.2==0) then (
     some (.go (y3.2.2.1,y3.2.2.2,y3.2.1))
    ) else (
     some (.ret (.ret ([],0,y3.1.1,y3.1.2)))
    )
   )
  ) 4294967296 (s1.2.1,s1.2.2.1,s1.2.2.2)).bind <| Sh.aft fun u1 =>
  some (.go ((aD (s1.1+1)),u1.1,u1.2.1,u1.2.2))
 ) else (
  some (.brk (s1.2.1,s1.2.2.1,s1.2.2.2))
 )
theorem CJ {N i:Nat} (hi:i<N) (rows:List Rw) (bs:List Bind) (n:Int):xZ N ((i:Int),rows,bs,n)=(mh (BI i) 4294967296 (rows,bs,n)).bind (Sh.aft fun u1=>some (.go ((aD ((i:Int)+1)),u1.1,u1.2.1,u1.2.2))):=by unfold xZ;rw [Ki (show (i:Int)<(N:Int) by omega),cond_true];rfl
theorem HL {L:Nat} (hL:L≤6000):∀ (k i N n:Nat) (rows:List Rw) (bs:List Bind),i+k=L→k<N→rows.length=L→kB n (rows.map (·.q)) bs→(∀ r∈rows,wY L r)→bs.length≤n+i →
 (∀ (m:Nat) (qs':List Linear) (bs':List Bind),rv k i n (rows.map (·.q)) bs=some (.ok m qs' bs')→∃ rows',mh (xZ L) N ((i:Int),rows,bs,(n:Int))=some (.brk (rows',bs',(m:Int)))) ∧
 (rv k i n (rows.map (·.q)) bs=some .no→∃ f,mh (xZ L) N ((i:Int),rows,bs,(n:Int))=some (.ret ([],0,f,9))) ∧
 (rv k i n (rows.map (·.q)) bs=some .lim→∃ f,mh (xZ L) N ((i:Int),rows,bs,(n:Int))=some (.ret ([],0,f,3)))
 | 0,i,N,n,rows,bs,hk,hN,hl,h,hr,hb=>by
  obtain ⟨N,rfl⟩:∃ j,N=j+1:=⟨N-1,by omega⟩;simp only [rv,mh];have e0:xZ L ((i:Int),rows,bs,(n:Int))=some (.brk (rows,bs,(n:Int))):=by unfold xZ;rw [Kh (show ¬ (i:Int)<(L:Int) by omega)];rfl
  rw [e0];refine ⟨fun m qs' bs' e => ?_,fun e=>(by injection e with e;cases e),fun e=>(by injection e with e;cases e)⟩;injection e with e
  injection e with e1 e2 e3
  subst e1;subst e3;exact ⟨rows,rfl⟩
 | k+1,i,N,n,rows,bs,hk,hN,hl,h,hr,hb=>by
  obtain ⟨N,rfl⟩:∃ j,N=j+1:=⟨N-1,by omega⟩;have hi:i<rows.length:=by omega
  have hiq:i<(rows.map (·.q)).length:=by simpa using hi
  simp only [rv,mh];rw [CJ (show i<L by omega)];obtain ⟨r1,r2,r3⟩:=HI 4294967296 i n i rows bs hi (by omega) h (fun r hm=>by rw [hl];exact hr r hm) (by omega) (.inl hb);obtain ⟨r,e⟩:=zz (N:=4294967296) h hiq (by omega);rw [e];cases r with
  | no =>
   obtain ⟨f,e2⟩:=r2 e;rw [e2];exact ⟨fun m qs' bs' e=>(by injection e with e;cases e),fun _=>⟨f,rfl⟩,fun e=>(by injection e with e;cases e)⟩
  | lim =>
   obtain ⟨f,e2⟩:=r3 e;rw [e2];exact ⟨fun m qs' bs' e=>(by injection e with e;cases e),fun e=>(by injection e with e;cases e),fun _=>⟨f,rfl⟩⟩
  | ok m1 qs1 bs1 =>
   obtain ⟨rows1,q1,l1,o1,e2⟩:=r1 m1 qs1 bs1 e;obtain ⟨a1,a2,a3,a4,a5⟩:=tV 4294967296 i n i (rows.map (·.q)) bs h hiq (.inl hb) m1 qs1 bs1 e;rw [e2];simp only [Option.bind_some,Sh.aft,yO];have e3:aD ((i:Int)+1)=((i+1:Nat):Int):=by rw [bR (by omega) (by omega)];omega
   rw [e3,← q1];rw [← q1] at a1;exact HL hL k (i+1) N m1 rows1 bs1 (by omega) (by omega) (by omega) a1 (fun r hm=>by rw [← hl];exact o1 r hm) (by omega)
theorem qy {p q:Nat→Bool} {n:Nat} (h:∀ t,t<n→p t=q t):∀ (f lo hi:Nat),hi≤n→Lib.bsGo p f lo hi=Lib.bsGo q f lo hi
 | 0,lo,hi,_=>rfl
 | f+1,lo,hi,hn=>by
  unfold Lib.bsGo;by_cases hl:lo<hi
  ·rw [if_pos hl,if_pos hl,h _ (by omega),qy h f _ hi hn,qy h f lo _ (by omega)]
  ·rw [if_neg hl,if_neg hl]
theorem DZ {xs:List aw} (hs:xs.Pairwise (fun a b=>Op.bytesLess a b=true)) (x:aw):∃ k,o7 xs x=k∧k≤xs.length∧(∀ t,t<k→Op.bytesLess (xs.getD t []) x=true)∧∀ t,k≤t→t<xs.length→Op.bytesLess (xs.getD t []) x=false:=by
 have hk:∃ k,k≤xs.length∧(∀ t,t<k→Op.bytesLess (xs.getD t []) x=true)∧∀ t,k≤t→t<xs.length→Op.bytesLess (xs.getD t []) x=false:=by
  induction xs with
  | nil=>exact ⟨0,by simp,fun t h=>by omega,fun t _ h=>by simp at h⟩
  | cons y ys ih =>
   have h':=List.pairwise_cons.1 hs;by_cases hy:Op.bytesLess y x=true
   ·obtain ⟨k,a,b,c⟩:=ih h'.2;refine ⟨k+1,by simp;omega,fun t ht => ?_,fun t h1 h2 => ?_⟩
    ·cases t with
     | zero=>exact hy
     | succ t=>exact b t (by omega)
    ·cases t with
     | zero=>omega
     | succ t=>exact c t (by omega) (by simpa using h2)
   ·refine ⟨0,by simp,fun t h=>by omega,fun t _ h2 => ?_⟩;cases t with
    | zero=>exact Bool.eq_false_iff.2 hy
    | succ t =>
     rw [Bool.eq_false_iff];intro hc;have hm:ys.getD t []∈ys:=bF _ (by simpa using h2);exact hy (dz _ _ _ (h'.1 _ hm) hc)
 obtain ⟨k,a,b,c⟩:=hk;refine ⟨k,?_,a,b,c⟩;unfold o7;rw [qy (q:=fun t=>decide (t<xs.length)&&Op.bytesLess (xs.getD t []) x) (n:=xs.length) (fun t ht=>by simp [ht]) _ _ _ (Nat.le_refl _)];refine Lib.bsGo_spec _ k (fun t ht=>by simp only [Kd,decide_eq_true_eq];exact ⟨by omega,b t ht⟩) (fun t ht => ?_) _ _ _ (by omega) (Nat.zero_le _) a;by_cases h:t<xs.length
 ·simp only [h,decide_true,Bool.true_and];exact c t ht h
 ·simp only [h,decide_false,Bool.false_and]
theorem I6 {xs:List aw} (hs:xs.Pairwise (fun a b=>Op.bytesLess a b=true)) (x:aw):(decide (o7 xs x<xs.length)&&(xs.getD (o7 xs x) []==x))=decide (x∈xs):=by
 obtain ⟨k,e,a,b,c⟩:=DZ hs x;rw [e,Bool.eq_iff_iff];simp only [Kd,decide_eq_true_eq,beq_iff_eq];constructor
 ·rintro ⟨h1,h2⟩;rw [← h2];exact bF _ h1
 ·intro hm;obtain ⟨j,hj,ej⟩:=List.getElem_of_mem hm;have hjx:xs.getD j []=x:=by rw [getD_at [] hj];exact ej
  have h1:¬ j<k:=fun h=>by have:=b j h;rw [hjx,fG] at this;cases this
  have hkl:k<xs.length:=by omega
  refine ⟨hkl,?_⟩;rcases kW (xs.getD k []) x with h | h | h
  ·rw [c k (Nat.le_refl _) hkl] at h;cases h
  ·exact h
  ·exfalso;by_cases e2:j=k
   ·subst e2;rw [hjx,fG] at h;cases h
   ·have hp:=List.pairwise_iff_getElem.1 hs k j hkl hj (by omega);rw [ej] at hp;rw [getD_at [] hkl] at h;have:=dz _ _ _ h hp;rw [fG] at this;cases this
theorem uu {xs:List aw} (hs:xs.Pairwise (fun a b=>Op.bytesLess a b=true)) (hl:xs.length≤1000000) (x:aw):∃ i,fh xs x=some (i,decide (x∈xs)):=by unfold fh;rw [az (by omega),I6 hs];exact ⟨_,rfl⟩
def eR (l:List Linear) (j:Nat):List Rw:=(List.range j).map fun i=>ab.mk (l.getD i dp) [((i:Int),1)] 1 false
theorem Ho (l:List Linear):(eR l l.length).map (·.q)=l:=by unfold eR;rw [List.map_map];refine List.ext_getElem (by simp) fun i h1 h2 => ?_;simp only [List.getElem_map,List.getElem_range,Function.comp];exact getD_at dp h2
theorem zl (l:List Linear):∀ r∈eR l l.length,wY (l.length:Nat) r:=by
 intro r hr;obtain ⟨i,hi,rfl⟩:=List.mem_map.1 hr;have hi:i<l.length:=by simpa using hi
 exact ⟨by simp,by show (1:Int)≠0;omega,fun y hy=>by
  have:y=(i:Int):=by simpa using hy
  omega⟩
def kz (l:List Linear) (bs:List Bind):List Bind:=gL (fun x y=>gR x.Var y.Var) (bs.filter fun b=>decide (b.Var∈fi l))
theorem D7 (l:List Linear) (p:Linear→Bool):∀ x:Option Nat,(match x with | some j=>((j:Nat):Int) | none => -1)=idxOf p l →
 (some (match x with | some j=>(Out.ret ((j:Nat):Int):Out Unit Int) | none=>.brk ())).bind (Sh.aft fun u0=>some (-1))=some (idxOf p l)
 | some j,h=>congrArg some h
 | none,h=>congrArg some h
theorem il {l:List Linear} (hk:∀ q∈l,FG q):bV l=some (l.all au):=by
 have h1:b8 l=some (idxOf (fun q => !au q) l):=by
  unfold b8;rw [qG (f:=fun j=>((j:Nat):Int)) (fun j=>(fun q => !au q) (l.getD j dp)) _ _ () (fun j u h1 h2=>by have hm:l.getD j dp∈l:=bF _ (by omega);have ho:=hk _ hm;unfold fQ;rw [pZ,dW _ ho.1 ho.2];simp only [Option.bind_some];cases au (l.getD j dp)<;>rfl)]
  exact D7 l (fun q => !au q) _ (sd (fun q => !au q) dp l)
 unfold bV cu;rw [h1];simp only [Option.bind_some];have h2:=pH (fun q => !au q) l;congr 1;rw [Bool.eq_iff_iff];simp only [Bool.not_eq_true',decide_eq_false_iff_not,Ko];constructor
 ·intro h q hq;have:=h2.1 (by omega);rw [List.any_eq_false] at this;simpa using this q hq
 ·intro h hc;have:idxOf (fun q => !au q) l<0:=h2.2 (List.any_eq_false.2 fun q hq=>by simp [h q hq]);omega
def oB (l:List Linear) (n:Nat):(List Bind×Int)×Int:=match rv l.length 0 n l [] with
 | some (.ok m _ bs)=>((kz l bs,(m:Int)),0)
 | some .no=>(([],0),9)
 | _=>(([],0),3)
theorem qC {l:List Linear} {n:Nat} (hv:∀ q∈l,au q=true) (h1:1≤n) (h2:n<1000000000) (hg:Gw l<n):kB n l []:=by refine ⟨h1,h2,fun q hq=>⟨hv q hq,fun t ht => ?_⟩,fun b hb=>by simp at hb⟩;obtain ⟨_,hm,_⟩:=nJ (l:=l) fun q hq=>bE (hv q hq);have h3:=(CT (fi l) 0).2 t.Var ((hm _).2 ⟨q,hq,t,ht,rfl⟩);have h4:(fi l).foldl (fun n v=>if nX v>n then nX v else n) 0<n:=hg;omega
theorem Ap {l:List Linear} {n:Nat} (hv:∀ q∈l,au q=true) (h1:1≤n) (h2:n<1000000000) (hg:Gw l<n) (hl:l.length≤6000) :
 ∃ f,bf l (n:Int)=some ((oB l n).1.1,(oB l n).1.2,f,(oB l n).2)∧((oB l n).2=0→f=ah.mk [] 0):=by
 have hS:=qC hv h1 h2 hg;unfold bf;rw [il fun q hq=>kG (hv q hq),Ko.2 hv];simp only [Option.bind_some,cond_true];rw [Kh (show ¬ (n:Int)<1 by omega),Kh (show ¬ (n:Int)≥1000000000 by omega),dN hv hl];simp only [cond_false,Option.bind_some];rw [Kh (show ¬ Gw l≥(n:Int) by omega),Kh (show ¬ (l.length:Int)>6000 by omega)];simp only [cond_false];obtain ⟨s',e1,e2⟩:=tP (ε:=List Rw) (ρ:=Empty) (fin:=fun i0 s0=>s0) (fun j s=>s=eR l j)
  (body:=fun i0 s0 =>
   bP ((s0.length+1)*56≤140737488355328) <|
   some (.go (s0++[(ab.mk (Linear.mk ((l.getD i0 ⟨0,[]⟩).Const) ((l.getD i0 ⟨0,[]⟩).Terms)) (ksort (bI (((i0:Nat):Int):Int) 1 [])) 1 false)]))) (l.length-0) 0 [] rfl (fun j s _ hj hs=>by
   refine ⟨_,az (by rw [hs];simp [eR];omega),?_⟩;rw [hs];unfold eR;rw [List.range_succ,List.map_append];rfl)
 refine Exists.imp (fun f=>And.imp_left fun h=>(congrArg (fun o:Option (Out (List Rw) Empty)=>Option.bind o _) e1).trans h) ?_;simp only [Option.bind_some,dI];have e2:s'=eR l l.length:=by rw [e2];congr 1;omega
 rw [e2];have hlen:(eR l l.length).length=l.length:=by simp [eR]
 have hq:=Ho l;have hS':kB n ((eR l l.length).map (·.q)) []:=by rw [hq];exact hS
 obtain ⟨w1,w2,w3⟩:=HL hl l.length 0 4294967296 n (eR l l.length) [] (by omega) (by omega) hlen hS' (zl l) (by simp);rw [hq] at w1 w2 w3;rw [hlen];obtain ⟨r,hr⟩:=ss l.length 0 n l [] (by omega) hS (by simp);unfold oB;rw [hr] at w1 w2 w3 ⊢;cases r with
 | no =>
  obtain ⟨f,e⟩:=w2 rfl;refine ⟨f,?_,fun h=>absurd (show (9:Int)=0 from h) (by decide)⟩;refine (congrArg (fun o:Option (Out (List Rw×List Bind×Int) DO)=>Option.bind o _) e).trans ?_;rfl
 | lim =>
  obtain ⟨f,e⟩:=w3 rfl;refine ⟨f,?_,fun h=>absurd (show (3:Int)=0 from h) (by decide)⟩;refine (congrArg (fun o:Option (Out (List Rw×List Bind×Int) DO)=>Option.bind o _) e).trans ?_;rfl
 | ok m qs bs =>
  obtain ⟨rows',e⟩:=w1 m qs bs rfl;obtain ⟨a1,a2,a3,a4⟩:=yq l.length 0 n l [] (by omega) hS (xL l) (by simp) m qs bs hr;refine ⟨ah.mk [] 0,?_,fun _=>rfl⟩;refine (congrArg (fun o:Option (Out (List Rw×List Bind×Int) DO)=>Option.bind o _) e).trans ?_;simp only [Option.bind_some,Sh.aft];have hm:=a1.n2;rw [Kh (show ¬ (m:Int)≥1000000000 by omega)];simp only [cond_false];have hl12:∀ q∈l,q.Terms.length≤12:=fun q hq=>bE (hv q hq);obtain ⟨v1,_,v3⟩:=nJ hl12;rw [fj hl12 hl];simp only [Option.bind_some];have hb:=dx (ε:=List Bind) (ρ:=Empty) (f:=fun s=>s) (fin:=fun i1 s3=>s3) wy bs (fun b s=>gj.go (bif !(decide (b.Var∈fi l)) then s else s++[b])) (fun j s=>s.length≤j)
   (body:=fun i1 s3 =>
    (fh (fi l) ((bs.getD i1 (⟨0,[],⟨0,[]⟩,⟨[],[]⟩,[]⟩)).Var)).bind fun y5 =>
    ((
     bif y5.2 then (
      bP ((s3.length+1)*112≤140737488355328) <|
      some (s3++[(Bind.mk ((bs.getD i1 (⟨0,[],⟨0,[]⟩,⟨[],[]⟩,[]⟩)).Kind) ((bs.getD i1 (⟨0,[],⟨0,[]⟩,⟨[],[]⟩,[]⟩)).Var) (Linear.mk (((bs.getD i1 (⟨0,[],⟨0,[]⟩,⟨[],[]⟩,[]⟩)).Dim).Const) (((bs.getD i1 (⟨0,[],⟨0,[]⟩,⟨[],[]⟩,[]⟩)).Dim).Terms)) (Shape.mk (((bs.getD i1 (⟨0,[],⟨0,[]⟩,⟨[],[]⟩,[]⟩)).Row).Row) (((bs.getD i1 (⟨0,[],⟨0,[]⟩,⟨[],[]⟩,[]⟩)).Row).Dims)) ((bs.getD i1 (⟨0,[],⟨0,[]⟩,⟨[],[]⟩,[]⟩)).Elem))])
     ) else (
      some s3
     )
    ):Option (List Bind)).bind fun v1 =>
    some (.go v1)) (fun _ _=>rfl) [] (Nat.zero_le _) (fun j s hj hI=>by
    obtain ⟨x,ex⟩:=uu v1 (by omega) (bs.getD j wy).Var;refine ⟨?_,fun s' hs' => ?_⟩
    ·refine (congrArg (fun o:Option (Int×Bool)=>Option.bind o _) ex).trans ?_;simp only [Option.bind_some];cases decide ((bs.getD j wy).Var∈fi l) with
     | false=>rfl
     | true =>
      simp only [cond_true];rw [az (by omega)];rfl
    ·injection hs' with hs'
     subst hs';cases !(decide ((bs.getD j wy).Var∈fi l))<;>simp<;>omega)
  rw [ox (fun b:Bind => !(decide (b.Var∈fi l))) (fun b=>b)] at hb;refine (congrArg (fun o:Option (Out (List Bind) Empty)=>Option.bind o _) hb).trans ?_;simp only [Option.bind_some,dI,List.nil_append,List.map_id'];have hfl:(bs.filter fun u => !!(decide (u.Var∈fi l)))=bs.filter fun b=>decide (b.Var∈fi l):=by congr 1;funext b;rw [Bool.not_not]
  rw [hfl];unfold iy;have hlf:=List.length_filter_le (fun b:Bind=>decide (b.Var∈fi l)) bs;rw [az ⟨by omega,(List.Sublist.map _ List.filter_sublist).nodup a2.D⟩];rfl
def wK (l:Linear):Bool:=l.Terms.all (fun t=>decide (t.Var.length≤40))&&decide (l.Terms.length≤6)
theorem yR (l:Linear):nc l 6=some (wK l):=by
 unfold nc;rw [gX (r:=false) (fun j=>(fun t:ak=>decide (t.Var.length≤40)) (l.Terms.getD j ⟨[],0⟩)) _ _ () (fun j u _ _=>by simp only;rw [show decide (((l.Terms.getD j ⟨[],0⟩).Var.length:Int)>40) = !decide ((l.Terms.getD j ⟨[],0⟩).Var.length≤40) from Ii (b:=40)];cases decide ((l.Terms.getD j ⟨[],0⟩).Var.length≤40)<;>rfl)]
 rw [Jc (fun t:ak=>decide (t.Var.length≤40)) ⟨[],0⟩ l.Terms,mf];unfold wK;rw [show decide ((l.Terms.length:Int)≤6)=decide (l.Terms.length≤6) from Fs (b:=6)];cases l.Terms.all fun t=>decide (t.Var.length≤40)<;>rfl
theorem yQ (l:List Linear) (k:Nat):np l (k:Int)=some (l.all wK&&decide (l.length≤k)):=by
 unfold np;rw [gX (r:=false) (fun j=>wK (l.getD j dp)) _ _ () (fun j u _ _=>by rw [pZ,yR];simp only [Option.bind_some];cases wK (l.getD j dp)<;>rfl)]
 rw [Jc wK dp l,mf,Fs];cases l.all wK<;>rfl
theorem G0 {q:Linear} (h:wK q=true):FG q:=by unfold wK at h;simp only [Kd,Ko,decide_eq_true_eq] at h;exact ⟨by omega,fun t ht=>by have:=h.1 t ht;omega⟩
theorem DU {l:List Linear} {next:Int} (hk:∀ q∈l,FG q) (hl:l.length≤6000) (h:(∀ q∈l,au q=true)→1≤next→next<1000000000→¬ Gw l<next):bf l next=some ([],0,ah.mk [] 0,1):=by
 unfold bf;rw [il hk];cases hv:l.all au with
 | false=>rfl
 | true =>
  rw [Ko] at hv;simp only [Option.bind_some,cond_true];by_cases h1:next<1
  ·rw [Ki h1];rfl
  ·rw [Kh h1];by_cases h2:next≥1000000000
   ·rw [Ki h2];rfl
   ·rw [Kh h2,dN hv hl];simp only [cond_false,Option.bind_some];rw [Ki (show Gw l≥next from by have:=h hv (by omega) (by omega);omega)];rfl
theorem sa (l:List Linear) (bs:List Bind):(kz l bs).Perm (bs.filter fun b=>decide (b.Var∈fi l)):=List.mergeSort_perm _ _
theorem oN {l:List Linear} {bs:List Bind} {b:Bind}:b∈kz l bs↔b∈bs∧b.Var∈fi l:=by rw [(sa l bs).mem_iff,List.mem_filter];simp
theorem Dl {l:List Linear} {bs:List Bind} (h:(bs.map Bind.Var).Nodup):((kz l bs).map Bind.Var).Nodup :=
 ((sa l bs).map Bind.Var).nodup_iff.2 ((List.Sublist.map _ List.filter_sublist).nodup h)
theorem Br {l:List Linear} {n:Nat} {qs:List Linear} {bs:List Bind} (hv:∀ q∈l,au q=true) (hS:kB n qs bs) (hI:Inv l l.length qs bs):∀ q∈l,uj (kz l bs) q=(⟨0,[]⟩,0):=by
 intro q hq;refine EM (hv q hq) (fun b hb=>(hS.bv b (oN.1 hb).1).1) fun f => ?_;obtain ⟨j,hj,rfl⟩:=List.getElem_of_mem hq;have h0:=hI.A j hj f;rw [getD_at dp hj] at h0;rw [← h0];unfold ln;congr 1;refine vZ _ fun t ht => ?_;have hm:t.Var∈fi l:=((nJ fun q hq=>bE (hv q hq)).2.1 _).2 ⟨l[j],hq,t,ht,rfl⟩;by_cases hb:t.Var∈bs.map Bind.Var
 ·obtain ⟨b,hb,e⟩:=List.mem_map.1 hb;rw [← e] at hm ⊢;rw [AA hI.K hI.D hb,AA (fun b hb=>hI.K b (oN.1 hb).1) (Dl hI.D) (oN.2 ⟨hb,hm⟩)]
 ·rw [ug hb,ug fun h2 => ?_];obtain ⟨b,h2,e⟩:=List.mem_map.1 h2;exact hb (List.mem_map.2 ⟨b,(oN.1 h2).1,e⟩)
theorem vY (x y:Bind):Go.Proofs.ltOf (fun x y:Bind=>gR x.Var y.Var) x y=Op.bytesLess x.Var y.Var:=by rw [Bool.eq_iff_iff];simp only [Go.Proofs.ltOf,decide_eq_true_eq,qV]
theorem Ft {l:List Linear} {bs:List Bind} (h:(bs.map Bind.Var).Nodup):(kz l bs).Pairwise fun a b=>Op.bytesLess a.Var b.Var=true:=by
 have h1:(kz l bs).Pairwise fun a b=>(!Go.Proofs.ltOf (fun x y:Bind=>gR x.Var y.Var) b a)=true:=by
  refine List.pairwise_mergeSort (fun a b c h1 h2 => ?_) (fun a b => ?_) _
  ·simp only [vY,Bool.not_eq_true'] at h1 h2 ⊢;rw [Bool.eq_false_iff];intro h3;rcases kW a.Var b.Var with h4 | h4 | h4
   ·have:=dz _ _ _ h3 h4;rw [this] at h2;cases h2
   ·rw [← h4,h3] at h2;cases h2
   ·rw [h4] at h1;cases h1
  ·simp only [vY];cases h3:Op.bytesLess b.Var a.Var with
   | false=>rfl
   | true =>
    cases h4:Op.bytesLess a.Var b.Var with
    | false=>rfl
    | true=>have:=dz _ _ _ h3 h4;rw [fG] at this;cases this
 have h2:(kz l bs).Pairwise fun a b=>a.Var≠b.Var:=List.pairwise_map.1 (Dl (l:=l) h);refine (List.Pairwise.and h1 h2).imp fun {a b} hab => ?_;have h3:=hab.1;rw [vY,Bool.not_eq_true'] at h3;rcases kW a.Var b.Var with h4 | h4 | h4
 ·exact h4
 ·exact absurd h4 hab.2
 ·rw [h4] at h3;cases h3
theorem vn (ha:gm=some true) (l:List Linear) (next:Int):db l next=some true:=by
 unfold db;rw [ha];simp only [Option.bind_some,cond_true];rw [show (6:Int)=((6:Nat):Int) from rfl,yQ];simp only [Option.bind_some];cases hf:l.all wK&&decide (l.length≤6) with
 | false=>rfl
 | true =>
  simp only [Kd,Ko,decide_eq_true_eq] at hf;simp only [cond_true];by_cases hc:(∀ q∈l,au q=true)∧1≤next∧next<1000000000∧Gw l<next
  ·obtain ⟨hv,h1,h2,hg⟩:=hc;obtain ⟨n,rfl⟩:∃ n:Nat,next=(n:Int):=⟨next.toNat,by omega⟩
   obtain ⟨f,e,_⟩:=Ap hv (by omega) (by omega) hg (by omega);rw [e];simp only [Option.bind_some];have hS:=qC hv (by omega) (by omega) hg;obtain ⟨r,hr⟩:=ss l.length 0 n l [] (by omega) hS (by simp);unfold oB;rw [hr];cases r with
   | no=>rfl
   | lim=>rfl
   | ok m qs bs =>
    obtain ⟨a1,a2,a3,a4⟩:=yq l.length 0 n l [] (by omega) hS (xL l) (by simp) m qs bs hr;simp only;have e0:((0:Int)==0)=true:=rfl;rw [e0,cond_true];have hz:=Br hv a1 a2;have hsr:=Ft (l:=l) a2.D;have hm2:∀ b∈kz l bs,b∈bs:=fun b hb=>(oN.1 hb).1;have hall:∀ k,(List.range' 0 k).all (fun _=>true)=true:=fun k=>by simp
    have hlen:(kz l bs).length≤2000000000:=by have h1:=(sa l bs).length_eq;have h2:=List.length_filter_le (fun b:Bind=>decide (b.Var∈fi l)) bs;have:=a1.n2;omega
    rw [gX (r:=false) (fun j=>true) _ _ () (fun j u _ hj=>by have hm:l.getD j dp∈l:=bF _ (by omega);rw [pZ,vt,hz _ hm];simp only [Option.bind_some,e0,cond_true];rw [v7];rfl),hall]
    simp only [cond_true,Option.bind_some,Sh.aft];rw [gX (r:=false) (fun j=>true) _ _ () (fun j u _ hj=>by
     have hjl:j<(kz l bs).length:=by omega
     have hm:(kz l bs).getD j wy∈kz l bs:=bF _ hjl;have hk:(((kz l bs).getD j wy).Kind==1)=true:=by rw [a2.K _ (hm2 _ hm)];rfl
     have hin:(dO (σ:=Unit) (ε:=Unit) (ρ:=(gj Unit Unit Bool)) (fun i2 s2 =>
      (gh (Linear.mk ((((kz l bs).getD j (⟨0,[],⟨0,[]⟩,⟨[],[]⟩,[]⟩)).Dim).Const) ((((kz l bs).getD j (⟨0,[],⟨0,[]⟩,⟨[],[]⟩,[]⟩)).Dim).Terms)) (((kz l bs).getD i2 (⟨0,[],⟨0,[]⟩,⟨[],[]⟩,[]⟩)).Var)).bind fun y5 =>
      bif (y5==0) then (
       some (.go ())
      ) else (
       some (.ret (.ret false))
      )
      ) (fun i2 s2=>()) ((kz l bs).length-0) 0 ())=some (.brk ()):=by
      rw [gX (r:=.ret false) (fun j=>true) _ _ () (fun i2 u _ hi2=>by have hm':(kz l bs).getD i2 wy∈kz l bs:=bF _ (by omega);rw [pZ,wO,a2.C2 _ (hm2 _ hm') _ (hm2 _ hm)];rfl),hall]
      rfl
     cases j with
     | zero =>
      rw [Kh (by omega)];simp only [cond_false];rw [hk];simp only [cond_true,Option.bind_some,Sh.aft];rw [hin];rfl
     | succ j =>
      have hp:=List.pairwise_iff_getElem.1 hsr j (j+1) (by omega) hjl (by omega);have hb:Op.bytesLess ((kz l bs).getD j wy).Var ((kz l bs).getD (j+1) wy).Var=true:=by rw [getD_at wy (by omega),getD_at wy hjl];exact hp
      rw [Ki (by omega)];simp only [cond_true];have hw:aD (((j+1:Nat):Int)-1)=(j:Int):=by rw [bR (by omega) (by omega)];omega
      rw [hw,az ⟨by omega,by omega⟩,Int.toNat_natCast,hb,hk];simp only [cond_true,Option.bind_some,Sh.aft];rw [hin];rfl),hall]
    simp only [cond_true,Option.bind_some,Sh.aft];rw [Ki (show (m:Int)≥(n:Int) by omega)]
  ·rw [DU (fun q hq=>G0 (hf.1 q hq)) (by omega) (fun h1 h2 h3 h4=>hc ⟨h1,h2,h3,h4⟩)];rfl
section
variable {α:Type} (v:α→aw)
def Ev (t:α):List α→List α
 | []=>[t]
 | u::us=>bif Op.bytesLess (v u) (v t) then u::Ev t us else t::u::us
def Eh:List α→List α
 | []=>[]
 | t::ts=>Ev v t (Eh ts)
def JB:List α→Bool
 | []=>true
 | t::ts => !(ts.any fun u=>v u==v t)&&JB ts
theorem EK:∀ {ts:List α},JB v ts=true→(ts.map v).Nodup
 | [],_=>List.nodup_nil
 | t::ts,h=>by simp only [JB,Kd,Bool.not_eq_true',List.any_eq_false,beq_iff_eq] at h;rw [List.map_cons,List.nodup_cons];refine ⟨fun hm => ?_,EK h.2⟩;obtain ⟨u,hu,e⟩:=List.mem_map.1 hm;exact h.1 u hu e
theorem sl (t:α):∀ us:List α,(Ev v t us).Perm (t::us)
 | []=>.refl _
 | u::us=>by
  unfold Ev;cases Op.bytesLess (v u) (v t) with
  | true=>exact ((sl t us).cons u).trans (List.Perm.swap t u us)
  | false=>exact .refl _
theorem rW:∀ ts:List α,(Eh v ts).Perm ts
 | []=>.refl _
 | t::ts=>(sl v t (Eh v ts)).trans ((rW ts).cons t)
def GS (ts:List α):Prop:=ts.Pairwise fun a b=>Op.bytesLess (v a) (v b)=true
theorem Aq {t:α}:∀ {us:List α},GS v us→(∀ u∈us,v u≠v t)→GS v (Ev v t us)
 | [],_,_=>List.pairwise_singleton _ _
 | u::us,h,hn=>by
  have h':=List.pairwise_cons.1 h;unfold Ev;cases hb:Op.bytesLess (v u) (v t) with
  | true =>
   refine List.pairwise_cons.2 ⟨fun x hx => ?_,Aq h'.2 fun x hx=>hn x (by simp [hx])⟩;rcases List.mem_cons.1 ((sl v t us).mem_iff.1 hx) with rfl | hx
   ·exact hb
   ·exact h'.1 x hx
  | false =>
   have ht:Op.bytesLess (v t) (v u)=true:=by
    rcases kW (v u) (v t) with h1 | h1 | h1
    ·rw [hb] at h1;cases h1
    ·exact absurd h1 (hn u (by simp))
    ·exact h1
   refine List.pairwise_cons.2 ⟨fun x hx => ?_,h⟩;rcases List.mem_cons.1 hx with rfl | hx
   ·exact ht
   ·exact dz _ _ _ ht (h'.1 x hx)
theorem zq:∀ {ts:List α},(ts.map v).Nodup→GS v (Eh v ts)
 | [],_=>List.Pairwise.nil
 | t::ts,h=>by rw [List.map_cons,List.nodup_cons] at h;refine Aq v (zq h.2) fun u hu e => ?_;exact h.1 (List.mem_map.2 ⟨u,(rW v ts).mem_iff.1 hu,e⟩)
theorem sC (x y:α):Go.Proofs.ltOf (fun x y:α=>gR (v x) (v y)) x y=Op.bytesLess (v x) (v y):=by rw [Bool.eq_iff_iff];simp only [Go.Proofs.ltOf,decide_eq_true_eq,qV]
theorem Ew {ts:List α} (h:(ts.map v).Nodup):GS v (gL (fun x y=>gR (v x) (v y)) ts):=by
 have h1:(gL (fun x y=>gR (v x) (v y)) ts).Pairwise fun a b=>(!Go.Proofs.ltOf (fun x y:α=>gR (v x) (v y)) b a)=true:=by
  refine List.pairwise_mergeSort (fun a b c h1 h2 => ?_) (fun a b => ?_) _
  ·simp only [sC,Bool.not_eq_true'] at h1 h2 ⊢;rw [Bool.eq_false_iff];intro h3;rcases kW (v a) (v b) with h4 | h4 | h4
   ·have:=dz _ _ _ h3 h4;rw [this] at h2;cases h2
   ·rw [← h4,h3] at h2;cases h2
   ·rw [h4] at h1;cases h1
  ·simp only [sC];cases h3:Op.bytesLess (v b) (v a) with
   | false=>rfl
   | true =>
    cases h4:Op.bytesLess (v a) (v b) with
    | false=>rfl
    | true=>have:=dz _ _ _ h3 h4;rw [fG] at this;cases this
 have hn:((gL (fun x y=>gR (v x) (v y)) ts).map v).Nodup:=((List.mergeSort_perm ts _).map v).nodup_iff.2 h;have h2:(gL (fun x y=>gR (v x) (v y)) ts).Pairwise fun a b=>v a≠v b:=List.pairwise_map.1 hn;refine (List.Pairwise.and h1 h2).imp fun {a b} hab => ?_;have h3:=hab.1;rw [sC,Bool.not_eq_true'] at h3;rcases kW (v a) (v b) with h4 | h4 | h4
 ·exact h4
 ·exact absurd h4 hab.2
 ·rw [h4] at h3;cases h3
theorem Gp {ts:List α} (h:(ts.map v).Nodup):gL (fun x y=>gR (v x) (v y)) ts=Eh v ts:=by refine List.Perm.eq_of_pairwise (fun a b _ _ h3 h4 => ?_) (Ew v h) (zq v h) ((List.mergeSort_perm ts _).trans (rW v ts).symm);have:=dz _ _ _ h3 h4;rw [fG] at this;cases this
noncomputable def G2 (ts:List α):List α:=bif JB v ts then Eh v ts else gL (fun x y=>gR (v x) (v y)) ts
theorem Cp (ts:List α):gL (fun x y=>gR (v x) (v y)) ts=G2 v ts:=by
 unfold G2;cases h:JB v ts with
 | false=>rfl
 | true=>exact Gp v (EK v h)
end
noncomputable def Io (n:Nat):aw:=bif Nat.blt n 10 then [UInt8.ofNat (48+n)] else dec n
theorem Js (n:Nat):dec n=Io n:=by
 unfold Io;cases h:Nat.blt n 10 with
 | false=>rfl
 | true=>exact sK (by simpa [Nat.blt_eq] using h)
noncomputable def IQ (t:ak) (n:Nat) (q:Linear):Linear:=Linear.mk (-(gV q.Const t.C)) (G2 ak.Var (ak.mk (95::Io n) 1::(q.Terms.filter fun u => !(u.Var==t.Var||gV u.C t.C==0)).map fun u=>ak.mk u.Var (-(gV u.C t.C))))
theorem JH (t:ak) (n:Nat) (q:Linear):CB t n q=IQ t n q:=by unfold CB zj oD jz IQ;rw [Cp ak.Var,Js]
noncomputable def J8 (q:Linear) (t:ak) (i n:Nat) (qs:List Linear) (bs:List Bind):Rs :=
 bif t.C==1||t.C == -1 then vD t.Var (GD t q) i n (qs.set i q) bs
 else bif decide (n+1≥1000000000) then .lim else vD t.Var (IQ t n q) i (n+1) (qs.set i q) bs
noncomputable def ur (i n:Nat) (qs:List Linear) (bs:List Bind):Rs :=
 bif Co (qs.getD i dp) then .no else J8 (a8 (cont (qs.getD i dp)) (qs.getD i dp)) (vl (a8 (cont (qs.getD i dp)) (qs.getD i dp)).Terms) i n qs bs
theorem HR (i n:Nat) (qs:List Linear) (bs:List Bind):jg i n qs bs=ur i n qs bs:=by unfold jg ur J8;rw [JH]
noncomputable def FC:Nat→Nat→Nat→List Linear→List Bind→Option Rs
 | 0,_,_,_,_=>none
 | f+1,i,n,qs,bs=>bif iM (qs.getD i dp) then some (.ok n qs bs) else
  match ur i n qs bs with
  | .ok m qs' bs'=>FC f i m qs' bs'
  | e=>some e
theorem HB:∀ (f i n:Nat) (qs:List Linear) (bs:List Bind),ny f i n qs bs=FC f i n qs bs
 | 0,_,_,_,_=>rfl
 | f+1,i,n,qs,bs=>by
  simp only [ny,FC];rw [HR];cases iM (qs.getD i dp) with
  | true=>rfl
  | false =>
   simp only [cond_false];cases ur i n qs bs with
   | no=>rfl
   | lim=>rfl
   | ok m qs' bs'=>exact HB f i m qs' bs'
noncomputable def Gv:Nat→Nat→Nat→List Linear→List Bind→Option Rs
 | 0,_,n,qs,bs=>some (.ok n qs bs)
 | k+1,i,n,qs,bs=>match FC 4294967296 i n qs bs with
  | some (.ok m qs' bs')=>Gv k (i+1) m qs' bs'
  | e=>e
theorem HG:∀ (k i n:Nat) (qs:List Linear) (bs:List Bind),rv k i n qs bs=Gv k i n qs bs
 | 0,_,_,_,_=>rfl
 | k+1,i,n,qs,bs=>by
  simp only [rv,Gv];rw [HB];cases FC 4294967296 i n qs bs with
  | none=>rfl
  | some r =>
   cases r with
   | no=>rfl
   | lim=>rfl
   | ok m qs' bs'=>exact HG k (i+1) m qs' bs'
def Du (l:List Linear):List aw:=j9 ((my l).map (·.1))
theorem Ce (l:List Linear):fi l=Du l:=zo _
def JS (l:List Linear):Int:=(Du l).foldl (fun n v=>if nX v>n then nX v else n) 0
theorem JJ (l:List Linear):Gw l=JS l:=by unfold Gw JS;rw [Ce]
noncomputable def IB (l:List Linear) (bs:List Bind):List Bind:=G2 Bind.Var (bs.filter fun b=>decide (b.Var∈Du l))
theorem JM (l:List Linear) (bs:List Bind):kz l bs=IB l bs:=by unfold kz IB;rw [Cp Bind.Var,Ce]
noncomputable def rV (l:List Linear) (n:Nat):(List Bind×Int)×Int:=match Gv l.length 0 n l [] with
 | some (.ok m _ bs)=>((IB l bs,(m:Int)),0)
 | some .no=>(([],0),9)
 | _=>(([],0),3)
theorem Hs (l:List Linear) (n:Nat):oB l n=rV l n:=by
 unfold oB rV;rw [HG];cases Gv l.length 0 n l [] with
 | none=>rfl
 | some r =>
  cases r with
  | no=>rfl
  | lim=>rfl
  | ok m qs bs=>simp only;rw [JM]
theorem zB {σ ε ρ:Type} {body:σ→Option (gj σ ε ρ)} {N:Nat} {s:σ} {r:ρ} (h:body s=some (.ret r)):mh body (N+1) s=some (.ret r):=by simp only [mh];rw [h];rfl
theorem Ex {l:List Linear} {n:Nat} (hv:∀ q∈l,au q=true) (h1:1≤n) (h2:n<1000000000) (hg:Gw l<n) (hl:l.length≤6000) (h0:0<l.length) (hz:iM (l.getD 0 dp)=false) (hno:Co (l.getD 0 dp)=true) :
 bf l (n:Int)=some ([],0,Ag l.length (ab.mk (l.getD 0 dp) [(0,1)] 1 false),9):=by
 have hS:=qC hv h1 h2 hg;unfold bf;rw [il fun q hq=>kG (hv q hq),Ko.2 hv];simp only [Option.bind_some,cond_true];rw [Kh (show ¬ (n:Int)<1 by omega),Kh (show ¬ (n:Int)≥1000000000 by omega),dN hv hl];simp only [cond_false,Option.bind_some];rw [Kh (show ¬ Gw l≥(n:Int) by omega),Kh (show ¬ (l.length:Int)>6000 by omega)];simp only [cond_false];obtain ⟨s',e1,e2⟩:=tP (ε:=List Rw) (ρ:=Empty) (fin:=fun i0 s0=>s0) (fun j s=>s=eR l j)
  (body:=fun i0 s0 =>
   bP ((s0.length+1)*56≤140737488355328) <|
   some (.go (s0++[(ab.mk (Linear.mk ((l.getD i0 ⟨0,[]⟩).Const) ((l.getD i0 ⟨0,[]⟩).Terms)) (ksort (bI (((i0:Nat):Int):Int) 1 [])) 1 false)]))) (l.length-0) 0 [] rfl (fun j s _ hj hs=>by
   refine ⟨_,az (by rw [hs];simp [eR];omega),?_⟩;rw [hs];unfold eR;rw [List.range_succ,List.map_append];rfl)
 refine (congrArg (fun o:Option (Out (List Rw) Empty)=>Option.bind o _) e1).trans ?_;simp only [Option.bind_some,dI];have e2:s'=eR l l.length:=by rw [e2];congr 1;omega
 rw [e2];have hlen:(eR l l.length).length=l.length:=by simp [eR]
 have hr0:(eR l l.length).getD 0 nB=ab.mk (l.getD 0 dp) [(0,1)] 1 false:=by rw [getD_at nB (by omega)];unfold eR;rw [List.getElem_map,List.getElem_range];rfl
 have hok:nq ((eR l l.length).length:Nat) ((eR l l.length).getD 0 nB):=by have hm:(eR l l.length).getD 0 nB∈eR l l.length:=bF _ (by omega);have h:=zl l _ hm;rw [hlen];exact h.to (by rw [hr0];exact hv _ (bF _ h0))
 have hw:mh (BI 0) 4294967296 (eR l l.length,[],(n:Int))=some (.ret (.ret ([],0,Ag l.length (ab.mk (l.getD 0 dp) [(0,1)] 1 false),9))):=by refine zB (N:=4294967295) ?_;unfold BI;rw [az ⟨Int.le_refl _,by rw [hlen];show (0:Int)<_;omega⟩];rw [az (show (((0:Nat):Int)).toNat<_ by rw [hlen];exact h0),pZ,mr,show (((0:Nat):Int)).toNat=0 from rfl,hr0];simp only [Option.bind_some];rw [hz];simp only [cond_false];have hs:=step_eq (i:=0) (n:=(n:Int)) (rows:=eR l l.length) (bs:=[]) (by omega) (by omega) hr0 (by rw [hr0] at hok;exact hok);rw [hs];rw [hno];simp only [cond_true,Option.bind_some];rw [hlen];rfl
 rw [hlen];have hall:mh (xZ l.length) 4294967296 (0,eR l l.length,[],(n:Int))=some (.ret ([],0,Ag l.length (ab.mk (l.getD 0 dp) [(0,1)] 1 false),9)):=by refine zB (N:=4294967295) ?_;show xZ l.length (((0:Nat):Int),eR l l.length,[],(n:Int))=_;rw [CJ h0,hw];rfl
 refine (congrArg (fun o:Option (Out (List Rw×List Bind×Int) DO)=>Option.bind o _) hall).trans ?_;rfl
noncomputable def lD (l:List Linear):Option (List aw):=bif (l.all fun q=>decide (q.Terms.length≤12))&&decide (l.length≤6000) then some (Du l) else bh l
theorem pj:bh=lD:=by
 funext l;unfold lD;cases h:(l.all fun q=>decide (q.Terms.length≤12))&&decide (l.length≤6000) with
 | false=>rfl
 | true =>
  simp only [Kd,Ko,decide_eq_true_eq] at h;rw [fj h.1 h.2,Ce];rfl
noncomputable def rM (l:List Linear):Option Int:=bif l.all au&&decide (l.length≤6000) then some (JS l) else cn l
theorem qn:cn=rM:=by
 funext l;unfold rM;cases h:l.all au&&decide (l.length≤6000) with
 | false=>rfl
 | true =>
  simp only [Kd,Ko,decide_eq_true_eq] at h;rw [dN h.1 h.2,JJ];rfl
def Gx (l:List Linear) (n:Int):Bool:=l.all au&&(decide (1≤n∧n<1000000000)&&(decide (JS l<n)&&decide (l.length≤6000)))
noncomputable def uO (l:List Linear) (n:Int):Option (List Bind×Int×ah×Int) :=
 bif Gx l n then
  bif (rV l n.toNat).2==0 then some ((rV l n.toNat).1.1,(rV l n.toNat).1.2,ah.mk [] 0,0)
  else bif decide (0<l.length)&&(!iM (l.getD 0 dp)&&Co (l.getD 0 dp)) then some ([],0,Ag l.length (ab.mk (l.getD 0 dp) [(0,1)] 1 false),9)
  else bf l n
 else bf l n
theorem yF:bf=uO:=by
 funext l n;unfold uO;cases h:Gx l n with
 | false=>rfl
 | true =>
  unfold Gx at h;simp only [Kd,Ko,decide_eq_true_eq] at h;obtain ⟨hv,⟨h1,h2⟩,hg,hl⟩:=h;obtain ⟨n,rfl⟩:∃ k:Nat,n=(k:Int):=⟨n.toNat,by omega⟩;rw [Int.toNat_natCast,cond_true];rw [← JJ] at hg;cases he:(rV l n).2==0 with
  | true =>
   obtain ⟨f,e,e2⟩:=Ap hv (by omega) (by omega) hg hl;rw [Hs] at e e2;rw [e,e2 (beq_iff_eq.1 he),beq_iff_eq.1 he];rfl
  | false =>
   cases hno:decide (0<l.length)&&(!iM (l.getD 0 dp)&&Co (l.getD 0 dp)) with
   | false=>rfl
   | true =>
    simp only [Kd,decide_eq_true_eq,Bool.not_eq_true'] at hno;rw [Ex hv (by omega) (by omega) hg hl hno.1 hno.2.1 hno.2.2];rfl
noncomputable def jC (x0 x1:List Linear):Option ((List Bind)×Int) :=
 (bV x0).bind fun y0 =>
 bif y0 then (
  (bV x1).bind fun y1 =>
  bif y1 then (
   bif decide (((x0.length:Nat):Int)>6000) then (
    some ([],1)
   ) else (
    bif decide (((x1.length:Nat):Int)>6000) then (
     some ([],1)
    ) else (
     bif (((x0.length:Nat):Int)==((x1.length:Nat):Int)) then (
      (rM x0).bind fun y2 =>
      bif decide ((aD (y2+1))≥1000000000) then (
       some ([],3)
      ) else (
       (lD x0).bind fun y3 =>
       bP (112*y3.length≤140737488355328) <|
       (dO (σ:=(List Bind)) (ε:=(List Bind)) (ρ:=Empty) (fun i0 s0 =>
        bP (i0<s0.length) <|
        some (.go (s0.set i0 (Bind.mk 1 (y3.getD i0 []) (Linear.mk 0 []) (Shape.mk [] []) [])))
       ) (fun i0 s0=>s0) (y3.length-0) 0 (List.replicate y3.length (⟨0,[],⟨0,[]⟩,⟨[],[]⟩,[]⟩))).bind <| dI fun u0 =>
       (lD x1).bind fun y4 =>
       bP ((([[]]:List aw).length+y4.length)*16≤140737488355328) <|
       (dO (σ:=(List Bind)) (ε:=(List Bind)) (ρ:=((List Bind)×Int)) (fun i1 s1 =>
        (dO (σ:=(List Linear)) (ε:=(List Linear)) (ρ:=(gj (List Bind) (List Bind) ((List Bind)×Int))) (fun i2 s2 =>
         bP (i2<x1.length) <|
         ((
          bif decide (((i1:Nat):Int)>0) then (
           (cK (Linear.mk ((x1.getD i2 ⟨0,[]⟩).Const) ((x1.getD i2 ⟨0,[]⟩).Terms)) ((([[]]:List aw)++y4).getD i1 [])).bind fun y5 =>
           some (aD (0-y5))
          ) else (
           some (aD (((x0.getD i2 ⟨0,[]⟩).Const)-((x1.getD i2 ⟨0,[]⟩).Const)))
          )
         ):Option Int).bind fun v0 =>
         (bU (Linear.mk v0 ((x0.getD i2 ⟨0,[]⟩).Terms))).bind fun y6 =>
         bif y6 then (
          bP ((s2.length+1)*32≤140737488355328) <|
          some (.go (s2++[(Linear.mk v0 ((x0.getD i2 ⟨0,[]⟩).Terms))]))
         ) else (
          some (.ret (.ret ([],3)))
         )
        ) (fun i2 s2=>s2) (x0.length-0) 0 []).bind <| aft fun u1 =>
        (uO u1 (aD (y2+1))).bind fun y7 =>
        bif (y7.2.2.2==0) then (
         (dO (σ:=(List Bind)) (ε:=(List Bind)) (ρ:=Empty) (fun i3 s3 =>
          (fh y3 ((y7.1.getD i3 (⟨0,[],⟨0,[]⟩,⟨[],[]⟩,[]⟩)).Var)).bind fun y8 =>
          ((
           bif (((i1:Nat):Int)==0) then (
            bP (0≤y8.1∧y8.1<(s3.length:Int)) <|
            bP (y8.1.toNat<s3.length) <|
            some (s3.set y8.1.toNat (Bind.mk ((s3.getD y8.1.toNat (⟨0,[],⟨0,[]⟩,⟨[],[]⟩,[]⟩)).Kind) ((s3.getD y8.1.toNat (⟨0,[],⟨0,[]⟩,⟨[],[]⟩,[]⟩)).Var) (Linear.mk (((y7.1.getD i3 (⟨0,[],⟨0,[]⟩,⟨[],[]⟩,[]⟩)).Dim).Const) (((s3.getD y8.1.toNat (⟨0,[],⟨0,[]⟩,⟨[],[]⟩,[]⟩)).Dim).Terms)) (Shape.mk (((s3.getD y8.1.toNat (⟨0,[],⟨0,[]⟩,⟨[],[]⟩,[]⟩)).Row).Row) (((s3.getD y8.1.toNat (⟨0,[],⟨0,[]⟩,⟨[],[]⟩,[]⟩)).Row).Dims)) ((s3.getD y8.1.toNat (⟨0,[],⟨0,[]⟩,⟨[],[]⟩,[]⟩)).Elem)))
           ) else (
            bif ((((y7.1.getD i3 (⟨0,[],⟨0,[]⟩,⟨[],[]⟩,[]⟩)).Dim).Const)==0) then (
             some s3
            ) else (
             bP (0≤y8.1∧y8.1<(s3.length:Int)) <|
             bP (y8.1.toNat<s3.length) <|
             bP ((((s3.getD y8.1.toNat (⟨0,[],⟨0,[]⟩,⟨[],[]⟩,[]⟩)).Dim).Terms)=[]) <|
             some (s3.set y8.1.toNat (Bind.mk ((s3.getD y8.1.toNat (⟨0,[],⟨0,[]⟩,⟨[],[]⟩,[]⟩)).Kind) ((s3.getD y8.1.toNat (⟨0,[],⟨0,[]⟩,⟨[],[]⟩,[]⟩)).Var) (Linear.mk (((s3.getD y8.1.toNat (⟨0,[],⟨0,[]⟩,⟨[],[]⟩,[]⟩)).Dim).Const) [(ak.mk ((([[]]:List aw)++y4).getD i1 []) (((y7.1.getD i3 (⟨0,[],⟨0,[]⟩,⟨[],[]⟩,[]⟩)).Dim).Const))]) (Shape.mk (((s3.getD y8.1.toNat (⟨0,[],⟨0,[]⟩,⟨[],[]⟩,[]⟩)).Row).Row) (((s3.getD y8.1.toNat (⟨0,[],⟨0,[]⟩,⟨[],[]⟩,[]⟩)).Row).Dims)) ((s3.getD y8.1.toNat (⟨0,[],⟨0,[]⟩,⟨[],[]⟩,[]⟩)).Elem)))
            )
           )
          ):Option (List Bind)).bind fun v1 =>
          some (.go v1)
         ) (fun i3 s3=>s3) (y7.1.length-0) 0 s1).bind <| dI fun u2 =>
         some (.go u2)
        ) else (
         some (.ret ([],y7.2.2.2))
        )
       ) (fun i1 s1=>s1) ((([[]]:List aw)++y4).length-0) 0 u0).bind <| aft fun u3 =>
       (dO (σ:=Unit) (ε:=Unit) (ρ:=((List Bind)×Int)) (fun i4 s4 =>
        (bU (Linear.mk (((u3.getD i4 (⟨0,[],⟨0,[]⟩,⟨[],[]⟩,[]⟩)).Dim).Const) (((u3.getD i4 (⟨0,[],⟨0,[]⟩,⟨[],[]⟩,[]⟩)).Dim).Terms))).bind fun y9 =>
        bif y9 then (
         some (.go ())
        ) else (
         some (.ret ([],3))
        )
       ) (fun i4 s4=>()) (u3.length-0) 0 ()).bind <| aft fun u4 =>
       bif (((u3.length:Nat):Int)==0) then (
        some ([],0)
       ) else (
        some (u3,0)
       )
      )
     ) else (
      some ([],14)
     )
    )
   )
  ) else (
   some ([],1)
  )
 ) else (
  some ([],1)
 )
theorem kV:fB=jC:=by funext x0 x1;unfold fB jC;simp only [pj,qn,yF]
noncomputable def jy (x0:List Linear) (x1:ah):Option Bool :=
 (bV x0).bind fun y0 =>
 bif y0 then (
  bif decide (((x0.length:Nat):Int)>6000) then (
   some false
  ) else (
   bif (((x1.Mults.length:Nat):Int)==((x0.length:Nat):Int)) then (
    bif decide (x1.Mod<0) then (
     some false
    ) else (
     bif decide (x1.Mod>1099511627776) then (
      some false
     ) else (
      bP (8*x0.length≤140737488355328) <|
      (dO (σ:=(List Int)) (ε:=(List Int)) (ρ:=Bool) (fun i0 s0 =>
       bP (i0<x1.Mults.length) <|
       (bK (x1.Mults.getD i0 0) 0).bind fun y1 =>
       bif y1 then (
        bP (i0<s0.length) <|
        some (.go (s0.set i0 ((x0.getD i0 ⟨0,[]⟩).Const)))
       ) else (
        some (.ret false)
       )
      ) (fun i0 s0=>s0) (x0.length-0) 0 (List.replicate x0.length 0)).bind <| aft fun u0 =>
      (lD x0).bind fun y2 =>
      (dO (σ:=Unit) (ε:=Unit) (ρ:=Bool) (fun i1 s1 =>
       (dO (σ:=(List Int)) (ε:=(List Int)) (ρ:=Empty) (fun i2 s2 =>
        (cK (Linear.mk ((x0.getD i2 ⟨0,[]⟩).Const) ((x0.getD i2 ⟨0,[]⟩).Terms)) (y2.getD i1 [])).bind fun y3 =>
        bP (i2<s2.length) <|
        some (.go (s2.set i2 y3))
       ) (fun i2 s2=>s2) (x0.length-0) 0 (List.replicate x0.length 0)).bind <| dI fun u1 =>
       (eh x1.Mults u1).bind fun y4 =>
       bif (y4.2==0) then (
        (cU y4.1 x1.Mod).bind fun y5 =>
        bif y5 then (
         some (.go ())
        ) else (
         some (.ret false)
        )
       ) else (
        some (.ret false)
       )
      ) (fun i1 s1=>()) (y2.length-0) 0 ()).bind <| aft fun u2 =>
      (eh x1.Mults u0).bind fun y6 =>
      bif (y6.2==0) then (
       (cU y6.1 x1.Mod).bind fun y7 =>
       some (!y7)
      ) else (
       some false
      )
     )
    )
   ) else (
    some false
   )
  )
 ) else (
  some false
 )
theorem qm:fD=jy:=by funext x0 x1;unfold fD jy;simp only [pj,qn,yF,kV]
noncomputable def qN   : Option Bool :=
 (fE 2 3 (-1)).bind fun y0 =>
 (uO [y0] 1).bind fun y1 =>
 (fE 2 (-4) 1).bind fun y2 =>
 (uO [y2,(Linear.mk 0 [])] 1).bind fun y3 =>
 (jA [107]).bind fun y4 =>
 (fE 1 0 1).bind fun y5 =>
 (fE 1 1 0).bind fun y6 =>
 (fg (Linear.mk 0 []) y4 3).bind fun y7 =>
 (jC [y5,y6] [y4,y7]).bind fun y8 =>
 bif (y1.2.2.2==0) then (
  bif (y3.2.2.2==9) then (
   bif (y8.2==0) then (
    bif (y1.2.1==2) then (
     bif (((y1.1.length:Nat):Int)==2) then (
      bP (0<y1.1.length) <|
      bif (((y1.1.getD 0 (⟨0,[],⟨0,[]⟩,⟨[],[]⟩,[]⟩)).Var)==[109]) then (
       (du (Linear.mk (((y1.1.getD 0 (⟨0,[],⟨0,[]⟩,⟨[],[]⟩,[]⟩)).Dim).Const) (((y1.1.getD 0 (⟨0,[],⟨0,[]⟩,⟨[],[]⟩,[]⟩)).Dim).Terms))).bind fun y9 =>
       bif (y9==[45,50,95,49,45,49]) then (
        bP (1<y1.1.length) <|
        (du (Linear.mk (((y1.1.getD 1 (⟨0,[],⟨0,[]⟩,⟨[],[]⟩,[]⟩)).Dim).Const) (((y1.1.getD 1 (⟨0,[],⟨0,[]⟩,⟨[],[]⟩,[]⟩)).Dim).Terms))).bind fun y10 =>
        bif (y10==[51,95,49,43,50]) then (
         (mj [y2,(Linear.mk 0 [])] y3.2.2.1).bind fun y11 =>
         bif y11 then (
          (jy [y2,(Linear.mk 0 [])] (ah.mk [1,0] 2)).bind fun y12 =>
          bif y12 then (
           bif (((y8.1.length:Nat):Int)==2) then (
            bP (0<y8.1.length) <|
            (du (Linear.mk (((y8.1.getD 0 (⟨0,[],⟨0,[]⟩,⟨[],[]⟩,[]⟩)).Dim).Const) (((y8.1.getD 0 (⟨0,[],⟨0,[]⟩,⟨[],[]⟩,[]⟩)).Dim).Terms))).bind fun y13 =>
            bif (y13==[50,107,43,49]) then (
             bP (1<y8.1.length) <|
             (du (Linear.mk (((y8.1.getD 1 (⟨0,[],⟨0,[]⟩,⟨[],[]⟩,[]⟩)).Dim).Const) (((y8.1.getD 1 (⟨0,[],⟨0,[]⟩,⟨[],[]⟩,[]⟩)).Dim).Terms))).bind fun y14 =>
             some (y14==[107,45,49])
            ) else (
             some false
            )
           ) else (
            some false
           )
          ) else (
           some false
          )
         ) else (
          some false
         )
        ) else (
         some false
        )
       ) else (
        some false
       )
      ) else (
       some false
      )
     ) else (
      some false
     )
    ) else (
     some false
    )
   ) else (
    some false
   )
  ) else (
   some false
  )
 ) else (
  some false
 )
theorem uJ:gm=qN:=by unfold gm qN;simp only [pj,qn,yF,kV,qm]
theorem BR:gm=some true:=uJ.trans (by kernel_rfl)
theorem D2 (x0:List Linear) (x1:Int):db x0 x1=some true:=vn BR x0 x1
end Go.Proofs.YtlhcekghjfjajaaGreatDoor
