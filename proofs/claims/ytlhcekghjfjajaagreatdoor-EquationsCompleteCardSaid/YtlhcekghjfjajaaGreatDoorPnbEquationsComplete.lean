/- Plain laws: what the walked functions compute answers as the statement says. -/
import Derived.Test.YtlhcekghjfjajaaGreatDoorPnaEquationsComplete
import Derived.KernelRfl
set_option linter.unusedSimpArgs false
set_option linter.unusedVariables false
namespace Go.Proofs.YtlhcekghjfjajaaGreatDoor
open Go.Ab Go.Sh
theorem uX (f:aJ→Int) (x:aJ) (a:Int):∀ {ts:List au},AW ts→bA f ((ts.filter fun u => !(u.Var==x)).map fun u=>au.mk u.Var (a*u.C))=a*(bA f ts-kv x ts*f x)
 | [],_=>by simp [bA,kv]
 | t::ts,hn=>by
  unfold AW at hn;rw [List.map_cons,List.nodup_cons] at hn;have ih:=uX f x a (ts:=ts) hn.2;by_cases e:t.Var=x
  ·have h0:kv x ts=0:=lh (by rw [← e];exact hn.1);have e2:(!(t.Var==x))=false:=by simp [e]
   rw [List.filter_cons,e2];simp only [Bool.false_eq_true,if_false];rw [ih,h0];simp only [bA,kv,e,if_true,Int.zero_mul,Int.sub_zero];congr 1;omega
  ·have e2:(!(t.Var==x))=true:=by simp [e]
   rw [List.filter_cons,e2];simp only [if_true,List.map_cons,bA,kv,if_neg e];rw [ih,Int.mul_sub,Int.mul_sub,Int.mul_add,Int.mul_assoc];omega
theorem EB (f:aJ→Int) {t:au} {q:Linear} (hq:aA q=true) (hm:t∈q.Terms):ga f (Fh t q) = -t.C*(ga f q-t.C*f t.Var):=by have h1:=uX f t.Var (-t.C) (du hq);have h2:kv t.Var q.Terms=t.C:=lS (du hq) hm;show -t.C*q.Const+bA f ((q.Terms.filter fun u => !(u.Var==t.Var)).map fun u=>au.mk u.Var (-t.C*u.C))=_;rw [h1,h2,← Int.mul_add];congr 1;unfold ga;omega
theorem IC {t:au} {q:Linear} (hq:aA q=true) (hm:t∈q.Terms) (ht:t.C=1∨t.C = -1) (hb:aA (Fh t q)=true) (hc:iT t.Var (Fh t q) q=true):tK t.Var (Fh t q) q=⟨0,[]⟩:=by
 obtain ⟨a,b,_⟩:=lq hb hq hc;refine Jq a xC fun f => ?_;have h2:cf q t.Var=t.C:=lS (du hq) hm;rw [b f,EB f hq hm,h2];have h0:ga f (⟨0,[]⟩:Linear)=0:=by simp [ga,bA]
 rw [h0];rcases ht with h | h<;>rw [h]<;>omega
theorem CE {a b:List au} (h:a.Perm b) (ha:AW a) (v:aJ):kv v a=kv v b:=by have hb:AW b:=(h.map au.Var).nodup_iff.1 ha;rw [← yd v ha,← yd v hb,vg _ h]
theorem tF {p:au→Bool} {g:Int→Int} {v:aJ}:∀ {ts:List au},AW ts→∀ {u:au},u∈ts→u.Var=v→kv v ((ts.filter p).map fun u=>au.mk u.Var (g u.C))=if p u=true then g u.C else 0
 | [],_,u,h,_=>by simp at h
 | t::ts,hn,u,h,e=>by
  unfold AW at hn;rw [List.map_cons,List.nodup_cons] at hn;have hno:∀ (y:aJ),y ∉ ts.map au.Var→kv y ((ts.filter p).map fun u=>au.mk u.Var (g u.C))=0:=fun y hy=>lh (by
   rw [List.map_map];intro h;obtain ⟨z,hz,ez⟩:=List.mem_map.1 h;exact hy (List.mem_map.2 ⟨z,(List.mem_filter.1 hz).1,ez⟩))
  rcases List.mem_cons.1 h with rfl | h
  ·rw [List.filter_cons];cases hp:p u with
   | true=>simp only [if_true,List.map_cons,kv,if_pos e]
   | false =>
    simp only [Bool.false_eq_true,if_false];exact hno v (by rw [← e];exact hn.1)
  ·have hne:¬ t.Var=v:=fun e2=>hn.1 (by rw [e2,← e];exact List.mem_map.2 ⟨u,h,rfl⟩);rw [List.filter_cons];cases hp:p t with
   | true =>
    simp only [if_true,List.map_cons,kv,if_neg hne];exact tF hn.2 h e
   | false =>
    simp only [Bool.false_eq_true,if_false];exact tF hn.2 h e
theorem Kk {t u:au} {n:Nat} {q:Linear} (hq:aA q=true) (hf:∀ u∈q.Terms,u.Var≠eG n) (hu:u∈q.Terms) (hne:u.Var≠t.Var):cf (ym t n q) u.Var = -(dB u.C t.C):=by
 show kv u.Var (AQ (mZ t n q.Terms))=_;have hnd:=tX (t:=t) (du hq) hf;rw [CE (gA _) ((gA _).map au.Var |>.nodup_iff.2 hnd)];unfold mZ;rw [kv,if_neg (fun e=>hf u hu e.symm)];rw [tF (p:=fun u => !(u.Var==t.Var||dB u.C t.C==0)) (g:=fun c => -(dB c t.C)) (du hq) hu rfl];have e1:(u.Var==t.Var)=false:=by simpa using hne
 simp only [e1,Bool.false_or];cases h:dB u.C t.C==0 with
 | true =>
  have:dB u.C t.C=0:=by simpa using h
  simp [this]
 | false=>simp
theorem GS {q:Linear} (hv:aA q=true) (hc:cont q≠0) {d:Nat} (h:∀ t∈(bn (cont q) q).Terms,d ∣ t.C.natAbs):d=1:=by
 have h2:d*cont q ∣ cont q:=by
  refine zi q.Terms 0 (Nat.dvd_zero _) fun t ht => ?_;have:=h (au.mk t.Var (t.C.tdiv (cont q))) (List.mem_map.2 ⟨t,ht,rfl⟩);have e:=Int.mul_tdiv_cancel' (um t ht);have e2:t.C.natAbs=cont q*(t.C.tdiv (cont q)).natAbs:=by have:=congrArg Int.natAbs e;rw [Int.natAbs_mul,Int.natAbs_natCast] at this;exact this.symm
  rw [e2,Nat.mul_comm d];exact Nat.mul_dvd_mul_left _ this
 have h3:d*cont q≤1*cont q:=by rw [Nat.one_mul];exact Nat.le_of_dvd (by omega) h2
 have h4:d≤1:=Nat.le_of_mul_le_mul_right h3 (by omega);rcases Nat.eq_zero_or_pos d with h5 | h5
 ·subst h5;rw [Nat.zero_mul] at h2;exact absurd (Nat.eq_zero_of_zero_dvd h2) hc
 ·omega
theorem KV {q:Linear} (hv:aA q=true) (hc:cont q≠0) {t:au} (ht:t∈(bn (cont q) q).Terms) (h1:¬ (t.C=1∨t.C = -1)):∃ u∈(bn (cont q) q).Terms,u.C.tmod t.C≠0:=by
 refine Classical.byContradiction fun hn => ?_;have hall:∀ u∈(bn (cont q) q).Terms,t.C.natAbs ∣ u.C.natAbs:=fun u hu=>by have h0:u.C.tmod t.C=0:=Classical.byContradiction fun h=>hn ⟨u,hu,h⟩;have:=congrArg Int.natAbs h0;rw [Int.natAbs_tmod] at this;exact Nat.dvd_of_mod_eq_zero this
 have:=GS hv hc hall;omega
def Pm (k:Nat) (q:Linear):Prop:=∃ t∈q.Terms,t.C.natAbs≤k
theorem Js {t:au} {n:Nat} {q:Linear} (hv:aA q=true) (hc:cont q≠0) (hf:∀ u∈q.Terms,u.Var≠eG n) (ht:t∈(bn (cont q) q).Terms) (h1:¬ (t.C=1∨t.C = -1)) (hb:aA (ym t n (bn (cont q) q))=true)
 (hcb:iT t.Var (ym t n (bn (cont q) q)) (bn (cont q) q)=true):∃ u∈(tK t.Var (ym t n (bn (cont q) q)) (bn (cont q) q)).Terms,u.C.natAbs<t.C.natAbs:=by
 have hnv:=fp hv;obtain ⟨a,_,c⟩:=lq hb hnv hcb;obtain ⟨u,hu,hr⟩:=KV hv hc ht h1;have ht0:t.C≠0:=cD hnv t ht;have hne:u.Var≠t.Var:=fun e=>by have e1:=lS (du hnv) hu;have e2:=lS (du hnv) ht;rw [e,e2] at e1;rw [← e1,Int.tmod_self] at hr;exact hr rfl
 have hf':∀ u∈(bn (cont q) q).Terms,u.Var≠eG n:=fun u hu=>by obtain ⟨z,hz,rfl⟩:=List.mem_map.1 (show u∈q.Terms.map fun t=>au.mk t.Var (t.C.tdiv (cont q)) from hu);exact hf z hz
 have hcf:=c u.Var;have e1:cf (bn (cont q) q) u.Var=u.C:=lS (du hnv) hu;have e2:cf (bn (cont q) q) t.Var=t.C:=lS (du hnv) ht;have e3:ind u.Var t.Var=0:=if_neg fun e=>hne e.symm;rw [e1,e2,Kk hnv hf' hu hne,e3,Int.sub_zero,Int.mul_neg] at hcf;obtain ⟨d1,d2⟩:=Ho (n:=u.C) ht0;have hnz:cf (tK t.Var (ym t n (bn (cont q) q)) (bn (cont q) q)) u.Var≠0:=fun h=>hr (d2.1 (by omega));obtain ⟨w,hw,_,ew⟩:=uC (show kv u.Var (tK t.Var (ym t n (bn (cont q) q)) (bn (cont q) q)).Terms≠0 from hnz);refine ⟨w,hw,?_⟩;have ew:w.C=cf (tK t.Var (ym t n (bn (cont q) q)) (bn (cont q) q)) u.Var:=ew;rw [ew,hcf];have:u.C + -(t.C*dB u.C t.C)=u.C-t.C*dB u.C t.C:=by omega
 rw [this];exact d1
theorem zk {α:Type} (d:α) (l:List α) (g:α→α) {i:Nat} (hi:i<l.length):(l.take i++(l.drop i).map g).getD i d=g (l.getD i d):=by
 rw [ME,List.getElem?_append_right (by simp;omega),getD_at d hi];have:i-(l.take i).length=0:=by simp;omega
 rw [this,List.drop_eq_getElem_cons hi];rfl
theorem pQ {i n:Nat} {qs:List Linear} {bs:List Bind} (h:jx n qs bs) (hi:i<qs.length) {m:Nat} {qs':List Linear} {bs':List Bind} (e:gT i n qs bs = .ok m qs' bs') :
 jx m qs' bs'∧qs'.length=qs.length∧bs'.length=bs.length+1∧((m=n∧qs'.getD i b9=⟨0,[]⟩)∨(m=n+1∧∀ k,Pm (k+1) (qs.getD i b9)→Pm k (qs'.getD i b9))):=by
 obtain ⟨qv,qf⟩:=h.qv _ (ba b9 hi);unfold gT at e;generalize hQ:qs.getD i b9=q at qv qf e ⊢;cases hno:Aq q with
 | true=>rw [hno] at e;cases e
 | false =>
  obtain ⟨hc,hd⟩:=pW hno;rw [hno] at e;simp only [cond_false] at e;have hnv:=fp qv;obtain ⟨tm,tmin⟩:=w9 qv hc;generalize hT:uL (bn (cont q) q).Terms=t at tm tmin e;obtain ⟨tb,tn⟩:=bD hnv t tm;have hset:jx n (qs.set i (bn (cont q) q)) bs:=by have:=zF h hi;rwa [hQ] at this
  have htf:fX t.Var<n:=iY qf t tm;have hat:(qs.set i (bn (cont q) q)).getD i b9=bn (cont q) q:=ja hi;have hmem:bn (cont q) q∈(qs.set i (bn (cont q) q)).drop i:=by rw [List.drop_eq_getElem_cons (by simpa using hi)];simp
  cases hu:t.C==1||t.C == -1 with
  | true =>
   rw [hu] at e;simp only [cond_true] at e;have ht:t.C=1∨t.C = -1:=by simp only [Bool.or_eq_true,beq_iff_eq] at hu;exact hu
   obtain ⟨a1,a2,a3,a4,a5,a6,a7⟩:=Aw hset (Nat.le_refl n) h.n2 tn htf (EA (iY qf)) e;refine ⟨by rw [a1];exact a2,by rw [a3];simp;omega,by rw [a4];simp,.inl ⟨a1,?_⟩⟩;rw [a3,zk b9 _ _ (by simpa using hi),hat];exact IC hnv tm ht a5 (a7 _ hmem)
  | false =>
   rw [hu] at e;simp only [cond_false] at e;have ht:¬ (t.C=1∨t.C = -1):=by simp only [Bool.or_eq_false_iff,beq_eq_false_iff_ne] at hu;exact fun h=>h.elim hu.1 hu.2
   cases hl:decide (n+1≥1000000000) with
   | true=>rw [hl] at e;cases e
   | false =>
    rw [hl] at e;simp only [cond_false] at e;have hl:=MI hl;obtain ⟨a1,a2,a3,a4,a5,a6,a7⟩:=Aw hset (Nat.le_succ n) (by omega) tn (by omega) (Fg h.n1 h.n2 (iY qf)) e;refine ⟨by rw [a1];exact a2,by rw [a3];simp;omega,by rw [a4];simp,.inr ⟨a1,fun k hk => ?_⟩⟩;rw [a3,zk b9 _ _ (by simpa using hi),hat];obtain ⟨u,hu,hlt⟩:=Js (n:=n) qv hc (BP h.n1 h.n2 qf) tm ht a5 (a7 _ hmem);obtain ⟨z,hz,hzk⟩:=hk;have h1:=tmin (au.mk z.Var (z.C.tdiv (cont q))) (List.mem_map.2 ⟨z,hz,rfl⟩);have h2:=Int.natAbs_tdiv_le_natAbs z.C (cont q);simp only at h1;exact ⟨u,hu,by omega⟩
def eD (q:Linear):Bool:=q.Terms.isEmpty&&q.Const==0
theorem oD (q:Linear):eF q=some (eD q):=by unfold eF eD;rw [Ik];cases q.Terms.isEmpty<;>rfl
theorem kM {q:Linear}:eD q=true↔q=⟨0,[]⟩:=by unfold eD;obtain ⟨c,ts⟩:=q;simp only [MG,List.isEmpty_iff,beq_iff_eq,Linear.mk.injEq];exact and_comm
def kx:Nat→Nat→Nat→List Linear→List Bind→Option Rs
 | 0,_,_,_,_=>none
 | f+1,i,n,qs,bs=>bif eD (qs.getD i b9) then some (.ok n qs bs) else
  match gT i n qs bs with
  | .ok m qs' bs'=>kx f i m qs' bs'
  | e=>some e
theorem CV:∀ (k N i n:Nat) (qs:List Linear) (bs:List Bind),jx n qs bs→i<qs.length→(Pm k (qs.getD i b9)∨(qs.getD i b9).Terms=[])→k+2≤N→∃ r,kx N i n qs bs=some r
 | k,N,i,n,qs,bs,h,hi,hP,hN=>by
  obtain ⟨N,rfl⟩:∃ j,N=j+1:=⟨N-1,by omega⟩;simp only [kx];cases hz:eD (qs.getD i b9) with
  | true=>exact ⟨_,rfl⟩
  | false =>
   simp only [cond_false];cases hs:gT i n qs bs with
   | no=>exact ⟨_,rfl⟩
   | lim=>exact ⟨_,rfl⟩
   | ok m qs' bs' =>
    simp only;obtain ⟨a1,a2,a3,a4⟩:=pQ h hi hs;rcases a4 with ⟨_,a4⟩ | ⟨_,a4⟩
    ·obtain ⟨N,rfl⟩:∃ j,N=j+1:=⟨N-1,by omega⟩;simp only [kx];rw [a4,show eD ⟨0,[]⟩=true from rfl];exact ⟨_,rfl⟩
    ·rcases hP with hP | hP
     ·cases k with
      | zero =>
       obtain ⟨t,ht,hk⟩:=hP;have:=cD (h.qv _ (ba b9 hi)).1 t ht;omega
      | succ k=>exact CV k N i m qs' bs' a1 (by omega) (.inl (a4 k hP)) (by omega)
     ·exfalso;unfold gT Aq at hs;have h0:cont (qs.getD i b9)=0:=(sA (h.qv _ (ba b9 hi)).1).2 hP;rw [h0] at hs;simp at hs
theorem xb {N i n:Nat} {qs:List Linear} {bs:List Bind} (h:jx n qs bs) (hi:i<qs.length) (hN:1000002≤N):∃ r,kx N i n qs bs=some r:=by
 refine CV 1000000 N i n qs bs h hi ?_ hN;cases hT:(qs.getD i b9).Terms with
 | nil=>exact .inr rfl
 | cons t ts =>
  left;have:=(bD (h.qv _ (ba b9 hi)).1 t (by rw [hT];simp)).1;exact ⟨t,by rw [hT];simp,by omega⟩
theorem sy:∀ (N i n c:Nat) (qs:List Linear) (bs:List Bind),jx n qs bs→i<qs.length→(bs.length≤n+c∨(eD (qs.getD i b9)=true∧bs.length≤n+c+1))→∀ (m:Nat) (qs':List Linear) (bs':List Bind),kx N i n qs bs=some (.ok m qs' bs') →
 jx m qs' bs'∧qs'.length=qs.length∧bs'.length≤m+c+1∧qs'.getD i b9=⟨0,[]⟩∧n≤m
 | 0,i,n,c,qs,bs,h,hi,hl,m,qs',bs',e=>by simp [kx] at e
 | N+1,i,n,c,qs,bs,h,hi,hl,m,qs',bs',e=>by
  simp only [kx] at e;cases hz:eD (qs.getD i b9) with
  | true =>
   rw [hz] at e;injection e with e
   injection e with e1 e2 e3
   subst e1;subst e2;subst e3;exact ⟨h,rfl,by rcases hl with hl | hl<;>omega,kM.1 hz,Nat.le_refl _⟩
  | false =>
   rw [hz] at e;simp only [cond_false] at e;have hl:bs.length≤n+c:=hl.resolve_right fun h2=>by rw [hz] at h2;cases h2.1
   cases hs:gT i n qs bs with
   | no=>rw [hs] at e;cases e
   | lim=>rw [hs] at e;cases e
   | ok m1 qs1 bs1 =>
    rw [hs] at e;simp only at e;obtain ⟨a1,a2,a3,a4⟩:=pQ h hi hs;have hb:bs1.length≤m1+c∨(eD (qs1.getD i b9)=true∧bs1.length≤m1+c+1):=by
     rcases a4 with ⟨e1,a4⟩ | ⟨e1,_⟩
     ·exact .inr ⟨kM.2 a4,by omega⟩
     ·exact .inl (by omega)
    obtain ⟨b1,b2,b3,b4,b5⟩:=sy N i m1 c qs1 bs1 a1 (by omega) hb m qs' bs' e;refine ⟨b1,by omega,b3,b4,?_⟩;rcases a4 with ⟨e1,_⟩ | ⟨e1,_⟩<;>omega
abbrev Mq:=al
abbrev wZ:=List Bind×Int×Mq×Int
noncomputable def Em (i:Nat) (s2:List Rw×List Bind×Int):Option (eR (List Rw×List Bind×Int) (List Rw×List Bind×Int) (eR (Int×List Rw×List Bind×Int) (List Rw×List Bind×Int) wZ)) :=
 bf (0≤(i:Int)∧(i:Int)<(s2.1.length:Int)) <|
 bf ((i:Int).toNat<s2.1.length) <|
 (eF (Linear.mk (((s2.1.getD (i:Int).toNat (⟨⟨0,[]⟩,[],0,false⟩)).q).Const) (((s2.1.getD (i:Int).toNat (⟨⟨0,[]⟩,[],0,false⟩)).q).Terms))).bind fun y2 =>
 bif y2 then (
  some (.brk (s2.1,s2.2.1,s2.2.2))
 ) else (
  (bt (i:Int) s2.2.2 s2.1 s2.2.1).bind fun y3 =>
  bif (y3.1.2==0) then (
   some (.go (y3.2.2.1,y3.2.2.2,y3.2.1))
  ) else (
   some (.ret (.ret ([],0,y3.1.1,y3.1.2)))
  )
 )
theorem JW:∀ (N i n c:Nat) (rows:List Rw) (bs:List Bind),i<rows.length→rows.length≤6000→jx n (rows.map (·.q)) bs→(∀ r∈rows,yX rows.length r)→c≤6000→(bs.length≤n+c∨(eD ((rows.map (·.q)).getD i b9)=true∧bs.length≤n+c+1)) →
 (∀ (m:Nat) (qs':List Linear) (bs':List Bind),kx N i n (rows.map (·.q)) bs=some (.ok m qs' bs')→∃ rows',rows'.map (·.q)=qs'∧rows'.length=rows.length∧(∀ r∈rows',yX rows.length r)∧gn (Em i) N (rows,bs,(n:Int))=some (.brk (rows',bs',(m:Int)))) ∧
 (kx N i n (rows.map (·.q)) bs=some .no→∃ f,gn (Em i) N (rows,bs,(n:Int))=some (.ret (.ret ([],0,f,9)))) ∧
 (kx N i n (rows.map (·.q)) bs=some .lim→∃ f,gn (Em i) N (rows,bs,(n:Int))=some (.ret (.ret ([],0,f,3))))
 | 0,i,n,c,rows,bs,hi,hl,h,hr,hc,hb=>by simp [kx]
 | N+1,i,n,c,rows,bs,hi,hl,h,hr,hc,hb=>by
  have hn:=h.n2;simp only [kx,gn,Em];rw [aD ⟨by omega,by omega⟩,Int.toNat_natCast,aD hi,lJ,oD,xn];simp only [Option.bind_some];cases hz:eD (rows.getD i qg).q with
  | true =>
   refine ⟨fun m qs' bs' e => ?_,fun e=>(by injection e with e;cases e),fun e=>(by injection e with e;cases e)⟩;injection e with e
   injection e with e1 e2 e3
   subst e1;subst e3;exact ⟨rows,e2,rfl,hr,rfl⟩
  | false =>
   simp only [cond_false];have hb':bs.length≤n+c:=hb.resolve_right fun h2=>by rw [xn,hz] at h2;cases h2.1
   rcases Ld hi (by omega) (by omega) h hr with ⟨e1,e2⟩ | ⟨e1,f,n',r',b',e2⟩ | ⟨m1,rows1,bs1,e1,e2,l1,o1⟩
   ·rw [e1,e2];exact ⟨fun m qs' bs' e=>(by injection e with e;cases e),fun _=>⟨_,rfl⟩,fun e=>(by injection e with e;cases e)⟩
   ·rw [e1,e2];exact ⟨fun m qs' bs' e=>(by injection e with e;cases e),fun e=>(by injection e with e;cases e),fun _=>⟨_,rfl⟩⟩
   ·rw [e1,e2];simp only [Option.bind_some];have hq:i<(rows.map (·.q)).length:=by simpa using hi
    obtain ⟨a1,a2,a3,a4⟩:=pQ h hq e1;have hb1:bs1.length≤m1+c∨(eD ((rows1.map (·.q)).getD i b9)=true∧bs1.length≤m1+c+1):=by
     rcases a4 with ⟨e1,a4⟩ | ⟨e1,_⟩
     ·exact .inr ⟨kM.2 a4,by omega⟩
     ·exact .inl (by omega)
    have ih:=JW N i m1 c rows1 bs1 (by omega) (by omega) a1 (fun r hm=>by rw [l1];exact o1 r hm) hc hb1;rw [l1] at ih;exact ih
theorem Hm {v:aJ}:∀ {bs:List Bind},(∀ b∈bs,b.Kind=1)→(∃ b∈bs,b.Var=v)→0≤idxOf (lV 1 v) bs
 | [],_,h=>by obtain ⟨b,hb,_⟩:=h;simp at hb
 | b::bs,hk,h=>by have h2:=pK (lV 1 v) (b::bs);refine Int.not_lt.1 fun hn => ?_;have:=h2.1 hn;obtain ⟨b',hb',e⟩:=h;rw [List.any_eq_false] at this;refine this b' hb' ?_;simp [lV,hk b' hb',e]
theorem HV {bs:List Bind} (hk:∀ b∈bs,b.Kind=1) (hd:(bs.map Bind.Var).Nodup) {b:Bind} (hb:b∈bs) (f:aJ→Int):sv bs f b.Var=ga f b.Dim:=by
 have h0:=Hm hk ⟨b,hb,rfl⟩;obtain ⟨h1,h2⟩:=sG (lV 1 b.Var) tU bs h0;unfold sv;rw [MK (by omega),cond_false];have hm:bs.getD (idxOf (lV 1 b.Var) bs).toNat tU∈bs:=ba _ h1;generalize bs.getD (idxOf (lV 1 b.Var) bs).toNat tU=b' at h2 hm;simp only [lV,MG,beq_iff_eq] at h2;have:b'=b:=by
  obtain ⟨i,hi,rfl⟩:=List.getElem_of_mem hm;obtain ⟨j,hj,rfl⟩:=List.getElem_of_mem hb;have hp:=List.pairwise_iff_getElem.1 (show (bs.map Bind.Var).Pairwise (· ≠ ·) from hd);rcases Nat.lt_trichotomy i j with h | h | h
  ·exact absurd (by rw [List.getElem_map,List.getElem_map];exact h2.2) (hp i j (by simpa using hi) (by simpa using hj) h)
  ·subst h;rfl
  ·exact absurd (by rw [List.getElem_map,List.getElem_map];exact h2.2.symm) (hp j i (by simpa using hj) (by simpa using hi) h)
 rw [this]
theorem DY {bs:List Bind} {v:aJ} (h:v ∉ bs.map Bind.Var) (f:aJ→Int):sv bs f v=f v:=by
 unfold sv;have:idxOf (lV 1 v) bs<0:=(pK (lV 1 v) bs).2 (List.any_eq_false.2 fun b hb=>by simp only [lV,MG,beq_iff_eq,not_and];intro _ e;exact h (List.mem_map.2 ⟨b,hb,e⟩))
 rw [ML this,cond_true]
theorem Fe {x:aJ} {by_ q:Linear} (hb:aA by_=true) (hv:aA q=true) (h:iT x by_ q=true) (f:aJ→Int):ga f (tK x by_ q)=ga (upd f x (ga f by_)) q:=by rw [(lq hb hv h).2.1 f,qo f x _ (du hv)]
theorem Kd {x:aJ} {by_:Linear} {bs:List Bind} (hk:∀ b∈bs,b.Kind=1) (hd:(bs.map Bind.Var).Nodup) (hx:x ∉ bs.map Bind.Var) (hb:aA by_=true) (hv:∀ b∈bs,aA b.Dim=true) (hc:∀ b∈bs,iT x by_ b.Dim=true) (f:aJ→Int) :
 (∀ b∈bs.map (jO x by_)++[one x by_],b.Kind=1)∧((bs.map (jO x by_)++[one x by_]).map Bind.Var).Nodup∧sv (bs.map (jO x by_)++[one x by_]) f=sv bs (upd f x (ga f by_)):=by
 have hvars:(bs.map (jO x by_)).map Bind.Var=bs.map Bind.Var:=by rw [List.map_map];rfl
 have h1:∀ b∈bs.map (jO x by_)++[one x by_],b.Kind=1:=fun b hb=>by
  rcases List.mem_append.1 hb with hb | hb
  ·obtain ⟨b0,hb0,rfl⟩:=List.mem_map.1 hb;exact hk b0 hb0
  ·have:b=one x by_:=by simpa using hb
   rw [this];rfl
 have h2:((bs.map (jO x by_)++[one x by_]).map Bind.Var).Nodup:=by
  rw [List.map_append,hvars,List.nodup_append];exact ⟨hd,by simp,fun a ha b hb=>by
   have:b=x:=by simpa [one] using hb
   rw [this];rintro rfl;exact hx ha⟩
 refine ⟨h1,h2,funext fun v => ?_⟩;by_cases hvb:v∈bs.map Bind.Var
 ·obtain ⟨b,hb0,rfl⟩:=List.mem_map.1 hvb;rw [HV hk hd hb0];have hm:jO x by_ b∈bs.map (jO x by_)++[one x by_]:=List.mem_append.2 (.inl (List.mem_map.2 ⟨b,hb0,rfl⟩));have:=HV h1 h2 hm f;rw [show (jO x by_ b).Var=b.Var from rfl] at this;rw [this];exact Fe hb (hv b hb0) (hc b hb0) f
 ·rw [DY hvb];by_cases e:v=x
  ·subst e;have hm:one v by_∈bs.map (jO v by_)++[one v by_]:=by simp
   have:=HV h1 h2 hm f;rw [show (one v by_).Var=v from rfl] at this;rw [this,Ct];rfl
  ·rw [bS e];refine DY ?_ f;rw [List.map_append,hvars];simp only [List.mem_append,List.map_cons,List.map_nil,List.mem_singleton,not_or];exact ⟨hvb,e⟩
structure Inv (l:List Linear) (i:Nat) (qs:List Linear) (bs:List Bind):Prop where
 len:qs.length=l.length
 A:∀ j,j<i→∀ f,ga (sv bs f) (l.getD j b9)=0
 B:∀ j,i≤j→j<l.length→∃ k:Int,k≠0∧∀ f,ga (sv bs f) (l.getD j b9)=k*ga f (qs.getD j b9)
 C1:∀ b∈bs,∀ q∈qs.drop i,cf q b.Var=0
 C2:∀ b∈bs,∀ b'∈bs,cf b'.Dim b.Var=0
 D:(bs.map Bind.Var).Nodup
 K:∀ b∈bs,b.Kind=1
theorem En {l:List Linear} {i n m:Nat} {qs:List Linear} {bs:List Bind} {x:aJ} {by_:Linear} (h:jx n qs bs) (hI:Inv l i qs bs) (hi:i<qs.length) (hnm:n≤m) (hm:m<1000000000) (hx:db x=true) (hxf:fX x<m) (hb:uH m by_)
 (hxi:cf (qs.getD i b9) x≠0) (hbx:cf by_ x=0) (hbb:∀ b∈bs,cf by_ b.Var=0) {n':Nat} {qs':List Linear} {bs':List Bind} (e:qV x by_ i m qs bs = .ok n' qs' bs'):Inv l i qs' bs':=by
 obtain ⟨_,_,a3,a4,a5,a6,a7⟩:=Aw h hnm hm hx hxf hb e;have hmi:qs.getD i b9∈qs.drop i:=by rw [getD_at b9 hi,List.drop_eq_getElem_cons hi];exact List.mem_cons_self ..
 have hxn:x ∉ bs.map Bind.Var:=fun hc=>by obtain ⟨b,hb,eb⟩:=List.mem_map.1 hc;have:=hI.C1 b hb _ hmi;rw [eb] at this;exact hxi this
 have hbv:∀ b∈bs,aA b.Dim=true:=fun b hb=>(h.bv b hb).1;have hsv:=fun f=>Kd hI.K hI.D hxn a5 hbv a6 f;have hq':∀ j,i≤j→j<qs.length→qs'.getD j b9=tK x by_ (qs.getD j b9)∧qs.getD j b9∈qs.drop i:=fun j h1 h2=>by
  constructor
  ·rw [a3,ME,List.getElem?_append_right (by simp;omega),List.getElem?_map,List.getElem?_drop,getD_at b9 h2];have:i+(j-(qs.take i).length)=j:=by simp;omega
   rw [this,MF h2];rfl
  ·rw [getD_at b9 h2];refine List.mem_iff_getElem?.2 ⟨j-i,?_⟩;rw [List.getElem?_drop,show i+(j-i)=j by omega,MF h2]
 have hqv:∀ q∈qs.drop i,aA q=true:=fun q hq=>(h.qv q (List.mem_of_mem_drop hq)).1;have key:∀ q,aA q=true→iT x by_ q=true→(∀ b∈bs,cf q b.Var=0)→∀ b∈bs',cf (tK x by_ q) b.Var=0:=fun q hv hc hz b hb=>by
  rw [(lq a5 hv hc).2.2];rw [a4] at hb;rcases List.mem_append.1 hb with hb | hb
  ·obtain ⟨b0,hb0,rfl⟩:=List.mem_map.1 hb;have hne:ind b0.Var x=0:=if_neg fun e=>hxn (by rw [e];exact List.mem_map.2 ⟨b0,hb0,rfl⟩);show cf q b0.Var+cf q x*(cf by_ b0.Var-ind b0.Var x)=0;rw [hz b0 hb0,hbb b0 hb0,hne];simp
  ·have:b=one x by_:=by simpa using hb
   subst this;show cf q x+cf q x*(cf by_ x-ind x x)=0;rw [hbx,show ind x x=1 from if_pos rfl];omega
 refine ⟨?_,fun j hj f => ?_,fun j h1 h2 => ?_,fun b hb q hq => ?_,fun b hb b' hb' => ?_,by rw [a4];exact (hsv fun _=>0).2.1,by rw [a4];exact (hsv fun _=>0).1⟩
 ·rw [a3,← hI.len];simp;omega
 ·rw [a4,(hsv f).2.2];exact hI.A j hj _
 ·obtain ⟨k,hk,hB⟩:=hI.B j h1 h2;refine ⟨k,hk,fun f => ?_⟩;obtain ⟨e1,e2⟩:=hq' j h1 (by rw [hI.len];exact h2);rw [a4,(hsv f).2.2,hB,e1,Fe a5 (hqv _ e2) (a7 _ e2) f]
 ·rw [a3,List.drop_append_of_le_length (by simp;omega)] at hq;have hq:q∈(qs.drop i).map (tK x by_):=by rw [List.drop_of_length_le (by simp;omega)] at hq;simpa using hq
  obtain ⟨q0,hq0,rfl⟩:=List.mem_map.1 hq;exact key q0 (hqv q0 hq0) (a7 q0 hq0) (fun b hb=>hI.C1 b hb q0 hq0) b hb
 ·rw [a4] at hb';rcases List.mem_append.1 hb' with hb' | hb'
  ·obtain ⟨b0,hb0,rfl⟩:=List.mem_map.1 hb';exact key b0.Dim (hbv b0 hb0) (a6 b0 hb0) (fun b hb=>hI.C2 b hb b0 hb0) b hb
  ·have:b'=one x by_:=by simpa using hb'
   subst this;rw [a4] at hb;rcases List.mem_append.1 hb with hb | hb
   ·obtain ⟨b0,hb0,rfl⟩:=List.mem_map.1 hb;exact hbb b0 hb0
   ·have:b=one x by_:=by simpa using hb
    subst this;exact hbx
theorem BF (f:aJ→Int) {q:Linear} (hd:q.Const.tmod (cont q)=0):ga f q=(cont q:Int)*ga f (bn (cont q) q):=by
 have h1:(cont q:Int)*q.Const.tdiv (cont q)=q.Const:=by have:=Int.mul_tdiv_add_tmod q.Const (cont q);omega
 have h2:∀ ts:List au,(∀ t∈ts,((cont q:Nat):Int) ∣ t.C)→bA f ts=(cont q:Int)*bA f (ts.map fun t=>au.mk t.Var (t.C.tdiv (cont q))):=by
  intro ts;induction ts with
  | nil=>intro _;simp [bA]
  | cons t ts ih =>
   intro h;simp only [bA,List.map_cons];rw [ih fun u hu=>h u (by simp [hu]),Int.mul_add,← Int.mul_assoc,Int.mul_tdiv_cancel' (h t (by simp))]
 show q.Const+bA f q.Terms=(cont q:Int)*(q.Const.tdiv (cont q)+bA f (q.Terms.map fun t=>au.mk t.Var (t.C.tdiv (cont q))));rw [Int.mul_add,h1,← h2 q.Terms um]
theorem vZ {q:Linear} (hv:aA q=true) {v:aJ} (h:cf q v=0):v ∉ q.Terms.map au.Var:=fun hm=>by obtain ⟨t,ht,rfl⟩:=List.mem_map.1 hm;have e:cf q t.Var=t.C:=lS (du hv) ht;exact cD hv t ht (by omega)
theorem zy (q:Linear):(bn (cont q) q).Terms.map au.Var=q.Terms.map au.Var:=by show (q.Terms.map fun t=>au.mk t.Var (t.C.tdiv (cont q))).map au.Var=_;rw [List.map_map];rfl
theorem G8 {t:au} {q:Linear} {v:aJ} (h:v=t.Var∨v ∉ q.Terms.map au.Var):cf (Fh t q) v=0:=by
 refine lh fun hm => ?_;obtain ⟨u,hu,e⟩:=List.mem_map.1 hm;obtain ⟨z,hz,rfl⟩:=List.mem_map.1 (show u∈(q.Terms.filter fun u => !(u.Var==t.Var)).map fun u=>au.mk u.Var (-t.C*u.C) from hu);obtain ⟨h1,h2⟩:=List.mem_filter.1 hz;have e:z.Var=v:=e;rcases h with h | h
 ·rw [e,h] at h2;simp at h2
 ·exact h (List.mem_map.2 ⟨z,h1,e⟩)
theorem Iw {t:au} {n:Nat} {q:Linear} {v:aJ} (hn:v≠eG n) (h:v=t.Var∨v ∉ q.Terms.map au.Var):cf (ym t n q) v=0:=by
 refine lh fun hm => ?_;obtain ⟨u,hu,e⟩:=List.mem_map.1 hm;have hu:=(gA _).mem_iff.1 (show u∈AQ (mZ t n q.Terms) from hu);unfold mZ at hu;rcases List.mem_cons.1 hu with rfl | hu
 ·exact hn e.symm
 ·obtain ⟨z,hz,rfl⟩:=List.mem_map.1 hu;obtain ⟨h1,h2⟩:=List.mem_filter.1 hz;have e:z.Var=v:=e;rcases h with h | h
  ·rw [e,h] at h2;simp at h2
  ·exact h (List.mem_map.2 ⟨z,h1,e⟩)
theorem AM {α:Type} {l:List α} {i:Nat} {x y:α} (h:y∈(l.set i x).drop i):y=x∨y∈l.drop (i+1):=by
 by_cases hi:i<l.length
 ·rw [List.drop_eq_getElem_cons (by simpa using hi),List.drop_set_of_lt (by omega)] at h;rcases List.mem_cons.1 h with h | h
  ·left;rw [h,List.getElem_set_self]
  ·exact .inr h
 ·rw [List.drop_of_length_le (by simp;omega)] at h;simp at h
theorem sY {α:Type} {l:List α} {i:Nat} {y:α} (h:y∈l.drop (i+1)):y∈l.drop i:=by rw [show i+1=i+1 from rfl,← List.drop_drop] at h;exact List.mem_of_mem_drop h
theorem HZ {l:List Linear} {i n:Nat} {qs:List Linear} {bs:List Bind} (h:jx n qs bs) (hI:Inv l i qs bs) (hi:i<qs.length) (hno:Aq (qs.getD i b9)=false):Inv l i (qs.set i (bn (cont (qs.getD i b9)) (qs.getD i b9))) bs:=by
 obtain ⟨hc,hd⟩:=pW hno;have hv:=(h.qv _ (ba b9 hi)).1;refine ⟨by simpa using hI.len,hI.A,fun j h1 h2 => ?_,fun b hb q hq => ?_,hI.C2,hI.D,hI.K⟩
 ·obtain ⟨k,hk,hB⟩:=hI.B j h1 h2;by_cases e:j=i
  ·subst e;refine ⟨k*cont (qs.getD j b9),Int.mul_ne_zero hk (by omega),fun f => ?_⟩;rw [ja hi,hB f,BF f hd,Int.mul_assoc]
  ·refine ⟨k,hk,fun f => ?_⟩;rw [hB f];congr 2;rw [ME,ME,List.getElem?_set_ne (fun e2=>e e2.symm)]
 ·rcases AM hq with rfl | hq
  ·refine lh ?_;rw [zy];refine vZ hv (hI.C1 b hb _ ?_);rw [getD_at b9 hi,List.drop_eq_getElem_cons hi];exact List.mem_cons_self ..
  ·exact hI.C1 b hb q (sY hq)
theorem Gr {l:List Linear} {i n:Nat} {qs:List Linear} {bs:List Bind} (h:jx n qs bs) (hI:Inv l i qs bs) (hi:i<qs.length) {m:Nat} {qs':List Linear} {bs':List Bind} (e:gT i n qs bs = .ok m qs' bs'):Inv l i qs' bs':=by
 obtain ⟨qv,qf⟩:=h.qv _ (ba b9 hi);have hset:=zF h hi;have hN:=fun hno=>HZ h hI hi hno;have hmi:qs.getD i b9∈qs.drop i:=by rw [getD_at b9 hi,List.drop_eq_getElem_cons hi];exact List.mem_cons_self ..
 have hC:=fun b hb=>vZ qv (hI.C1 b hb _ hmi);unfold gT at e;generalize hQ:qs.getD i b9=q at qv qf e hset hN hC;cases hno:Aq q with
 | true=>rw [hno] at e;cases e
 | false =>
  obtain ⟨hc,hd⟩:=pW hno;have hN:=hN hno;rw [hno] at e;simp only [cond_false] at e;have hnv:=fp qv;obtain ⟨tm,_⟩:=w9 qv hc;generalize hT:uL (bn (cont q) q).Terms=t at tm e;obtain ⟨tb,tn⟩:=bD hnv t tm;have htf:fX t.Var<n:=iY qf t tm;have hat:(qs.set i (bn (cont q) q)).getD i b9=bn (cont q) q:=ja hi;have hi':i<(qs.set i (bn (cont q) q)).length:=by simpa using hi
  have hxi:cf ((qs.set i (bn (cont q) q)).getD i b9) t.Var≠0:=by rw [hat,show cf (bn (cont q) q) t.Var=t.C from lS (du hnv) tm];exact cD hnv t tm
  have hbv:∀ b∈bs,b.Var ∉ (bn (cont q) q).Terms.map au.Var:=fun b hb=>by rw [zy];exact hC b hb
  cases hu:t.C==1||t.C == -1 with
  | true =>
   rw [hu] at e;exact En hset hN hi' (Nat.le_refl n) h.n2 tn htf (EA (iY qf)) hxi (G8 (.inl rfl)) (fun b hb=>G8 (.inr (hbv b hb))) e
  | false =>
   rw [hu] at e;simp only [cond_false] at e;cases hl:decide (n+1≥1000000000) with
   | true=>rw [hl] at e;cases e
   | false =>
    rw [hl] at e;have hl:=MI hl;have hfn:=mC h.n1 h.n2;refine En hset hN hi' (Nat.le_succ n) (by omega) tn (by omega) (Fg h.n1 h.n2 (iY qf)) hxi (Iw (fun e => ?_) (.inl rfl)) (fun b hb=>Iw (fun e => ?_) (.inr (hbv b hb))) e
    ·rw [e,hfn.2] at htf;omega
    ·have:=(h.bv b hb).2.2.2;rw [e,hfn.2] at this;omega
theorem CH {l:List Linear}:∀ (N i n:Nat) (qs:List Linear) (bs:List Bind),jx n qs bs→Inv l i qs bs→i<qs.length→∀ (m:Nat) (qs':List Linear) (bs':List Bind),kx N i n qs bs=some (.ok m qs' bs')→Inv l i qs' bs'
 | 0,i,n,qs,bs,h,hI,hi,m,qs',bs',e=>by simp [kx] at e
 | N+1,i,n,qs,bs,h,hI,hi,m,qs',bs',e=>by
  simp only [kx] at e;cases hz:eD (qs.getD i b9) with
  | true =>
   rw [hz] at e;injection e with e
   injection e with e1 e2 e3
   subst e2;subst e3;exact hI
  | false =>
   rw [hz] at e;simp only [cond_false] at e;cases hs:gT i n qs bs with
   | no=>rw [hs] at e;cases e
   | lim=>rw [hs] at e;cases e
   | ok m1 qs1 bs1 =>
    rw [hs] at e;obtain ⟨a1,a2,_,_⟩:=pQ h hi hs;exact CH N i m1 qs1 bs1 a1 (Gr h hI hi hs) (by omega) m qs' bs' e
theorem G6 {l:List Linear} {i:Nat} {qs:List Linear} {bs:List Bind} (hI:Inv l i qs bs) (hi:i<l.length) (h0:qs.getD i b9=⟨0,[]⟩):Inv l (i+1) qs bs:=by
 refine ⟨hI.len,fun j hj f => ?_,fun j h1 h2=>hI.B j (by omega) h2,fun b hb q hq=>hI.C1 b hb q (sY hq),hI.C2,hI.D,hI.K⟩;by_cases e:j=i
 ·subst e;obtain ⟨k,_,hB⟩:=hI.B j (Nat.le_refl _) hi;rw [hB f,h0];simp [ga,bA]
 ·exact hI.A j (by omega) f
theorem zW (l:List Linear):Inv l 0 l [] :=
 ⟨rfl,fun j hj=>absurd hj (Nat.not_lt_zero _),fun j _ _=>⟨1,by omega,fun f=>by rw [Int.one_mul];have:sv [] f=f:=funext fun v=>DY (by simp) f;rw [this]⟩,fun b hb=>by simp at hb,fun b hb=>by simp at hb,by simp,fun b hb=>by simp at hb⟩
def pH:Nat→Nat→Nat→List Linear→List Bind→Option Rs
 | 0,_,n,qs,bs=>some (.ok n qs bs)
 | k+1,i,n,qs,bs=>match kx 4294967296 i n qs bs with
  | some (.ok m qs' bs')=>pH k (i+1) m qs' bs'
  | e=>e
theorem Ag {l:List Linear}:∀ (k i n:Nat) (qs:List Linear) (bs:List Bind),i+k=l.length→jx n qs bs→Inv l i qs bs→bs.length≤n+i→∀ (m:Nat) (qs':List Linear) (bs':List Bind),pH k i n qs bs=some (.ok m qs' bs') →
 jx m qs' bs'∧Inv l l.length qs' bs'∧n≤m∧bs'.length≤m+l.length
 | 0,i,n,qs,bs,hk,h,hI,hb,m,qs',bs',e=>by
  simp only [pH] at e;injection e with e
  injection e with e1 e2 e3
  subst e1;subst e2;subst e3;have:i=l.length:=by omega
  subst this;exact ⟨h,hI,Nat.le_refl _,hb⟩
 | k+1,i,n,qs,bs,hk,h,hI,hb,m,qs',bs',e=>by
  simp only [pH] at e;have hi:i<qs.length:=by rw [hI.len];omega
  cases hr:kx 4294967296 i n qs bs with
  | none=>rw [hr] at e;cases e
  | some r =>
   cases r with
   | no=>rw [hr] at e;cases e
   | lim=>rw [hr] at e;cases e
   | ok m1 qs1 bs1 =>
    rw [hr] at e;simp only at e;obtain ⟨a1,a2,a3,a4,a5⟩:=sy 4294967296 i n i qs bs h hi (.inl hb) m1 qs1 bs1 hr;have hI1:=G6 (CH 4294967296 i n qs bs h hI hi m1 qs1 bs1 hr) (by omega) a4;obtain ⟨b1,b2,b3,b4⟩:=Ag k (i+1) m1 qs1 bs1 (by omega) a1 hI1 (by omega) m qs' bs' e;exact ⟨b1,b2,by omega,b4⟩
theorem uY:∀ (k i n:Nat) (qs:List Linear) (bs:List Bind),i+k=qs.length→jx n qs bs→bs.length≤n+i→∃ r,pH k i n qs bs=some r
 | 0,i,n,qs,bs,_,_,_=>⟨_,rfl⟩
 | k+1,i,n,qs,bs,hk,h,hb=>by
  simp only [pH];obtain ⟨r,hr⟩:=xb (N:=4294967296) h (show i<qs.length by omega) (by omega);rw [hr];cases r with
  | no=>exact ⟨_,rfl⟩
  | lim=>exact ⟨_,rfl⟩
  | ok m1 qs1 bs1 =>
   simp only;obtain ⟨a1,a2,a3,a4,a5⟩:=sy 4294967296 i n i qs bs h (by omega) (.inl hb) m1 qs1 bs1 hr;exact uY k (i+1) m1 qs1 bs1 (by omega) a1 (by omega)
noncomputable def Bf (N:Nat) (s1:Int×List Rw×List Bind×Int):Option (eR (Int×List Rw×List Bind×Int) (List Rw×List Bind×Int) wZ) :=
 bif decide (s1.1<((N:Nat):Int)) then (
  (gn (σ:=((List aj)×(List Bind)×Int)) (ε:=((List aj)×(List Bind)×Int)) (ρ:=(eR (Int×(List aj)×(List Bind)×Int) ((List aj)×(List Bind)×Int) ((List Bind)×Int×al×Int))) (fun s2 =>
   bf (0≤s1.1∧s1.1<(s2.1.length:Int)) <|
   bf (s1.1.toNat<s2.1.length) <|
   (eF (Linear.mk (((s2.1.getD s1.1.toNat (⟨⟨0,[]⟩,[],0,false⟩)).q).Const) (((s2.1.getD s1.1.toNat (⟨⟨0,[]⟩,[],0,false⟩)).q).Terms))).bind fun y2 =>
   bif y2 then (
    some (.brk (s2.1,s2.2.1,s2.2.2))
   ) else (
    (bt s1.1 s2.2.2 s2.1 s2.2.1).bind fun y3 =>
    bif (y3.1.2==0) then (
     some (.go (y3.2.2.1,y3.2.2.2,y3.2.1))
    ) else (
     some (.ret (.ret ([],0,y3.1.1,y3.1.2)))
    )
   )
  ) 4294967296 (s1.2.1,s1.2.2.1,s1.2.2.2)).bind <| Sh.aft fun u1 =>
  some (.go ((aK (s1.1+1)),u1.1,u1.2.1,u1.2.2))
 ) else (
  some (.brk (s1.2.1,s1.2.2.1,s1.2.2.2))
 )
theorem Ff {N i:Nat} (hi:i<N) (rows:List Rw) (bs:List Bind) (n:Int):Bf N ((i:Int),rows,bs,n)=(gn (Em i) 4294967296 (rows,bs,n)).bind (Sh.aft fun u1=>some (.go ((aK ((i:Int)+1)),u1.1,u1.2.1,u1.2.2))):=by unfold Bf;rw [ML (show (i:Int)<(N:Int) by omega),cond_true];rfl
theorem JR {L:Nat} (hL:L≤6000):∀ (k i N n:Nat) (rows:List Rw) (bs:List Bind),i+k=L→k<N→rows.length=L→jx n (rows.map (·.q)) bs→(∀ r∈rows,yX L r)→bs.length≤n+i →
 (∀ (m:Nat) (qs':List Linear) (bs':List Bind),pH k i n (rows.map (·.q)) bs=some (.ok m qs' bs')→∃ rows',gn (Bf L) N ((i:Int),rows,bs,(n:Int))=some (.brk (rows',bs',(m:Int)))) ∧
 (pH k i n (rows.map (·.q)) bs=some .no→∃ f,gn (Bf L) N ((i:Int),rows,bs,(n:Int))=some (.ret ([],0,f,9))) ∧
 (pH k i n (rows.map (·.q)) bs=some .lim→∃ f,gn (Bf L) N ((i:Int),rows,bs,(n:Int))=some (.ret ([],0,f,3)))
 | 0,i,N,n,rows,bs,hk,hN,hl,h,hr,hb=>by
  obtain ⟨N,rfl⟩:∃ j,N=j+1:=⟨N-1,by omega⟩;simp only [pH,gn];have e0:Bf L ((i:Int),rows,bs,(n:Int))=some (.brk (rows,bs,(n:Int))):=by unfold Bf;rw [MK (show ¬ (i:Int)<(L:Int) by omega)];rfl
  rw [e0];refine ⟨fun m qs' bs' e => ?_,fun e=>(by injection e with e;cases e),fun e=>(by injection e with e;cases e)⟩;injection e with e
  injection e with e1 e2 e3
  subst e1;subst e3;exact ⟨rows,rfl⟩
 | k+1,i,N,n,rows,bs,hk,hN,hl,h,hr,hb=>by
  obtain ⟨N,rfl⟩:∃ j,N=j+1:=⟨N-1,by omega⟩;have hi:i<rows.length:=by omega
  have hiq:i<(rows.map (·.q)).length:=by simpa using hi
  simp only [pH,gn];rw [Ff (show i<L by omega)];obtain ⟨r1,r2,r3⟩:=JW 4294967296 i n i rows bs hi (by omega) h (fun r hm=>by rw [hl];exact hr r hm) (by omega) (.inl hb);obtain ⟨r,e⟩:=xb (N:=4294967296) h hiq (by omega);rw [e];cases r with
  | no =>
   obtain ⟨f,e2⟩:=r2 e;rw [e2];exact ⟨fun m qs' bs' e=>(by injection e with e;cases e),fun _=>⟨f,rfl⟩,fun e=>(by injection e with e;cases e)⟩
  | lim =>
   obtain ⟨f,e2⟩:=r3 e;rw [e2];exact ⟨fun m qs' bs' e=>(by injection e with e;cases e),fun e=>(by injection e with e;cases e),fun _=>⟨f,rfl⟩⟩
  | ok m1 qs1 bs1 =>
   obtain ⟨rows1,q1,l1,o1,e2⟩:=r1 m1 qs1 bs1 e;obtain ⟨a1,a2,a3,a4,a5⟩:=sy 4294967296 i n i (rows.map (·.q)) bs h hiq (.inl hb) m1 qs1 bs1 e;rw [e2];simp only [Option.bind_some,Sh.aft,tN];have e3:aK ((i:Int)+1)=((i+1:Nat):Int):=by rw [aU (by omega) (by omega)];omega
   rw [e3,← q1];rw [← q1] at a1;exact JR hL k (i+1) N m1 rows1 bs1 (by omega) (by omega) (by omega) a1 (fun r hm=>by rw [← hl];exact o1 r hm) (by omega)
theorem tj {p q:Nat→Bool} {n:Nat} (h:∀ t,t<n→p t=q t):∀ (f lo hi:Nat),hi≤n→Lib.bsGo p f lo hi=Lib.bsGo q f lo hi
 | 0,lo,hi,_=>rfl
 | f+1,lo,hi,hn=>by
  unfold Lib.bsGo;by_cases hl:lo<hi
  ·rw [if_pos hl,if_pos hl,h _ (by omega),tj h f _ hi hn,tj h f lo _ (by omega)]
  ·rw [if_neg hl,if_neg hl]
theorem F5 {xs:List aJ} (hs:xs.Pairwise (fun a b=>Op.bytesLess a b=true)) (x:aJ):∃ k,ss xs x=k∧k≤xs.length∧(∀ t,t<k→Op.bytesLess (xs.getD t []) x=true)∧∀ t,k≤t→t<xs.length→Op.bytesLess (xs.getD t []) x=false:=by
 have hk:∃ k,k≤xs.length∧(∀ t,t<k→Op.bytesLess (xs.getD t []) x=true)∧∀ t,k≤t→t<xs.length→Op.bytesLess (xs.getD t []) x=false:=by
  induction xs with
  | nil=>exact ⟨0,by simp,fun t h=>by omega,fun t _ h=>by simp at h⟩
  | cons y ys ih =>
   have h':=List.pairwise_cons.1 hs;by_cases hy:Op.bytesLess y x=true
   ·obtain ⟨k,a,b,c⟩:=ih h'.2;refine ⟨k+1,by simp;omega,fun t ht => ?_,fun t h1 h2 => ?_⟩
    ·cases t with
     | zero=>exact hy
     | succ t=>exact b t (by omega)
    ·cases t with
     | zero=>omega
     | succ t=>exact c t (by omega) (by simpa using h2)
   ·refine ⟨0,by simp,fun t h=>by omega,fun t _ h2 => ?_⟩;cases t with
    | zero=>exact Bool.eq_false_iff.2 hy
    | succ t =>
     rw [Bool.eq_false_iff];intro hc;have hm:ys.getD t []∈ys:=ba _ (by simpa using h2);exact hy (fT _ _ _ (h'.1 _ hm) hc)
 obtain ⟨k,a,b,c⟩:=hk;refine ⟨k,?_,a,b,c⟩;unfold ss;rw [tj (q:=fun t=>decide (t<xs.length)&&Op.bytesLess (xs.getD t []) x) (n:=xs.length) (fun t ht=>by simp [ht]) _ _ _ (Nat.le_refl _)];refine Lib.bsGo_spec _ k (fun t ht=>by simp only [MG,decide_eq_true_eq];exact ⟨by omega,b t ht⟩) (fun t ht => ?_) _ _ _ (by omega) (Nat.zero_le _) a;by_cases h:t<xs.length
 ·simp only [h,decide_true,Bool.true_and];exact c t ht h
 ·simp only [h,decide_false,Bool.false_and]
theorem Kg {xs:List aJ} (hs:xs.Pairwise (fun a b=>Op.bytesLess a b=true)) (x:aJ):(decide (ss xs x<xs.length)&&(xs.getD (ss xs x) []==x))=decide (x∈xs):=by
 obtain ⟨k,e,a,b,c⟩:=F5 hs x;rw [e,Bool.eq_iff_iff];simp only [MG,decide_eq_true_eq,beq_iff_eq];constructor
 ·rintro ⟨h1,h2⟩;rw [← h2];exact ba _ h1
 ·intro hm;obtain ⟨j,hj,ej⟩:=List.getElem_of_mem hm;have hjx:xs.getD j []=x:=by rw [getD_at [] hj];exact ej
  have h1:¬ j<k:=fun h=>by have:=b j h;rw [hjx,fM] at this;cases this
  have hkl:k<xs.length:=by omega
  refine ⟨hkl,?_⟩;rcases qI (xs.getD k []) x with h | h | h
  ·rw [c k (Nat.le_refl _) hkl] at h;cases h
  ·exact h
  ·exfalso;by_cases e2:j=k
   ·subst e2;rw [hjx,fM] at h;cases h
   ·have hp:=List.pairwise_iff_getElem.1 hs k j hkl hj (by omega);rw [ej] at hp;rw [getD_at [] hkl] at h;have:=fT _ _ _ h hp;rw [fM] at this;cases this
theorem xJ {xs:List aJ} (hs:xs.Pairwise (fun a b=>Op.bytesLess a b=true)) (hl:xs.length≤1000000) (x:aJ):∃ i,fW xs x=some (i,decide (x∈xs)):=by unfold fW;rw [aD (by omega),Kg hs];exact ⟨_,rfl⟩
def fS (l:List Linear) (j:Nat):List Rw:=(List.range j).map fun i=>aj.mk (l.getD i b9) [((i:Int),1)] 1 false
theorem JE (l:List Linear):(fS l l.length).map (·.q)=l:=by unfold fS;rw [List.map_map];refine List.ext_getElem (by simp) fun i h1 h2 => ?_;simp only [List.getElem_map,List.getElem_range,Function.comp];exact getD_at b9 h2
theorem CG (l:List Linear):∀ r∈fS l l.length,yX (l.length:Nat) r:=by
 intro r hr;obtain ⟨i,hi,rfl⟩:=List.mem_map.1 hr;have hi:i<l.length:=by simpa using hi
 exact ⟨by simp,by show (1:Int)≠0;omega,fun y hy=>by
  have:y=(i:Int):=by simpa using hy
  omega⟩
def oT (l:List Linear) (bs:List Bind):List Bind:=iN (fun x y=>jQ x.Var y.Var) (bs.filter fun b=>decide (b.Var∈gu l))
theorem FV (l:List Linear) (p:Linear→Bool):∀ x:Option Nat,(match x with | some j=>((j:Nat):Int) | none => -1)=idxOf p l →
 (some (match x with | some j=>(Out.ret ((j:Nat):Int):Out Unit Int) | none=>.brk ())).bind (Sh.aft fun u0=>some (-1))=some (idxOf p l)
 | some j,h=>congrArg some h
 | none,h=>congrArg some h
theorem mJ {l:List Linear} (hk:∀ q∈l,I6 q):ck l=some (l.all aA):=by
 have h1:ct l=some (idxOf (fun q => !aA q) l):=by
  unfold ct;rw [tY (f:=fun j=>((j:Nat):Int)) (fun j=>(fun q => !aA q) (l.getD j b9)) _ _ () (fun j u h1 h2=>by have hm:l.getD j b9∈l:=ba _ (by omega);have ho:=hk _ hm;unfold gY;rw [lJ,fa _ ho.1 ho.2];simp only [Option.bind_some];cases aA (l.getD j b9)<;>rfl)]
  exact FV l (fun q => !aA q) _ (sC (fun q => !aA q) b9 l)
 unfold ck cz;rw [h1];simp only [Option.bind_some];have h2:=pK (fun q => !aA q) l;congr 1;rw [Bool.eq_iff_iff];simp only [Bool.not_eq_true',decide_eq_false_iff_not,MS];constructor
 ·intro h q hq;have:=h2.1 (by omega);rw [List.any_eq_false] at this;simpa using this q hq
 ·intro h hc;have:idxOf (fun q => !aA q) l<0:=h2.2 (List.any_eq_false.2 fun q hq=>by simp [h q hq]);omega
def kK (l:List Linear) (n:Nat):(List Bind×Int)×Int:=match pH l.length 0 n l [] with
 | some (.ok m _ bs)=>((oT l bs,(m:Int)),0)
 | some .no=>(([],0),9)
 | _=>(([],0),3)
theorem tI {l:List Linear} {n:Nat} (hv:∀ q∈l,aA q=true) (h1:1≤n) (h2:n<1000000000) (hg:Jp l<n):jx n l []:=by refine ⟨h1,h2,fun q hq=>⟨hv q hq,fun t ht => ?_⟩,fun b hb=>by simp at hb⟩;obtain ⟨_,hm,_⟩:=kG (l:=l) fun q hq=>bc (hv q hq);have h3:=(EW (gu l) 0).2 t.Var ((hm _).2 ⟨q,hq,t,ht,rfl⟩);have h4:(gu l).foldl (fun n v=>if fX v>n then fX v else n) 0<n:=hg;omega
theorem BS {l:List Linear} {n:Nat} (hv:∀ q∈l,aA q=true) (h1:1≤n) (h2:n<1000000000) (hg:Jp l<n) (hl:l.length≤6000) :
 ∃ f,bJ l (n:Int)=some ((kK l n).1.1,(kK l n).1.2,f,(kK l n).2)∧((kK l n).2=0→f=al.mk [] 0):=by
 have hS:=tI hv h1 h2 hg;unfold bJ;rw [mJ fun q hq=>mz (hv q hq),MS.2 hv];simp only [Option.bind_some,cond_true];rw [MK (show ¬ (n:Int)<1 by omega),MK (show ¬ (n:Int)≥1000000000 by omega),gQ hv hl];simp only [cond_false,Option.bind_some];rw [MK (show ¬ Jp l≥(n:Int) by omega),MK (show ¬ (l.length:Int)>6000 by omega)];simp only [cond_false];obtain ⟨s',e1,e2⟩:=jl (ε:=List Rw) (ρ:=Empty) (fin:=fun i0 s0=>s0) (fun j s=>s=fS l j)
  (body:=fun i0 s0 =>
   bf ((s0.length+1)*56≤140737488355328) <|
   some (.go (s0++[(aj.mk (Linear.mk ((l.getD i0 ⟨0,[]⟩).Const) ((l.getD i0 ⟨0,[]⟩).Terms)) (ksort (bW (((i0:Nat):Int):Int) 1 [])) 1 false)]))) (l.length-0) 0 [] rfl (fun j s _ hj hs=>by
   refine ⟨_,aD (by rw [hs];simp [fS];omega),?_⟩;rw [hs];unfold fS;rw [List.range_succ,List.map_append];rfl)
 refine Exists.imp (fun f=>And.imp_left fun h=>(congrArg (fun o:Option (Out (List Rw) Empty)=>Option.bind o _) e1).trans h) ?_;simp only [Option.bind_some,ca];have e2:s'=fS l l.length:=by rw [e2];congr 1;omega
 rw [e2];have hlen:(fS l l.length).length=l.length:=by simp [fS]
 have hq:=JE l;have hS':jx n ((fS l l.length).map (·.q)) []:=by rw [hq];exact hS
 obtain ⟨w1,w2,w3⟩:=JR hl l.length 0 4294967296 n (fS l l.length) [] (by omega) (by omega) hlen hS' (CG l) (by simp);rw [hq] at w1 w2 w3;rw [hlen];obtain ⟨r,hr⟩:=uY l.length 0 n l [] (by omega) hS (by simp);unfold kK;rw [hr] at w1 w2 w3 ⊢;cases r with
 | no =>
  obtain ⟨f,e⟩:=w2 rfl;refine ⟨f,?_,fun h=>absurd (show (9:Int)=0 from h) (by decide)⟩;refine (congrArg (fun o:Option (Out (List Rw×List Bind×Int) wZ)=>Option.bind o _) e).trans ?_;rfl
 | lim =>
  obtain ⟨f,e⟩:=w3 rfl;refine ⟨f,?_,fun h=>absurd (show (3:Int)=0 from h) (by decide)⟩;refine (congrArg (fun o:Option (Out (List Rw×List Bind×Int) wZ)=>Option.bind o _) e).trans ?_;rfl
 | ok m qs bs =>
  obtain ⟨rows',e⟩:=w1 m qs bs rfl;obtain ⟨a1,a2,a3,a4⟩:=Ag l.length 0 n l [] (by omega) hS (zW l) (by simp) m qs bs hr;refine ⟨al.mk [] 0,?_,fun _=>rfl⟩;refine (congrArg (fun o:Option (Out (List Rw×List Bind×Int) wZ)=>Option.bind o _) e).trans ?_;simp only [Option.bind_some,Sh.aft];have hm:=a1.n2;rw [MK (show ¬ (m:Int)≥1000000000 by omega)];simp only [cond_false];have hl12:∀ q∈l,q.Terms.length≤12:=fun q hq=>bc (hv q hq);obtain ⟨v1,_,v3⟩:=kG hl12;rw [gf hl12 hl];simp only [Option.bind_some];have hb:=de (ε:=List Bind) (ρ:=Empty) (f:=fun s=>s) (fin:=fun i1 s3=>s3) wv bs (fun b s=>eR.go (bif !(decide (b.Var∈gu l)) then s else s++[b])) (fun j s=>s.length≤j)
   (body:=fun i1 s3 =>
    (fW (gu l) ((bs.getD i1 (⟨0,[],⟨0,[]⟩,⟨[],[]⟩,[]⟩)).Var)).bind fun y5 =>
    ((
     bif y5.2 then (
      bf ((s3.length+1)*112≤140737488355328) <|
      some (s3++[(Bind.mk ((bs.getD i1 (⟨0,[],⟨0,[]⟩,⟨[],[]⟩,[]⟩)).Kind) ((bs.getD i1 (⟨0,[],⟨0,[]⟩,⟨[],[]⟩,[]⟩)).Var) (Linear.mk (((bs.getD i1 (⟨0,[],⟨0,[]⟩,⟨[],[]⟩,[]⟩)).Dim).Const) (((bs.getD i1 (⟨0,[],⟨0,[]⟩,⟨[],[]⟩,[]⟩)).Dim).Terms)) (Shape.mk (((bs.getD i1 (⟨0,[],⟨0,[]⟩,⟨[],[]⟩,[]⟩)).Row).Row) (((bs.getD i1 (⟨0,[],⟨0,[]⟩,⟨[],[]⟩,[]⟩)).Row).Dims)) ((bs.getD i1 (⟨0,[],⟨0,[]⟩,⟨[],[]⟩,[]⟩)).Elem))])
     ) else (
      some s3
     )
    ):Option (List Bind)).bind fun v1 =>
    some (.go v1)) (fun _ _=>rfl) [] (Nat.zero_le _) (fun j s hj hI=>by
    obtain ⟨x,ex⟩:=xJ v1 (by omega) (bs.getD j wv).Var;refine ⟨?_,fun s' hs' => ?_⟩
    ·refine (congrArg (fun o:Option (Int×Bool)=>Option.bind o _) ex).trans ?_;simp only [Option.bind_some];cases decide ((bs.getD j wv).Var∈gu l) with
     | false=>rfl
     | true =>
      simp only [cond_true];rw [aD (by omega)];rfl
    ·injection hs' with hs'
     subst hs';cases !(decide ((bs.getD j wv).Var∈gu l))<;>simp<;>omega)
  rw [ry (fun b:Bind => !(decide (b.Var∈gu l))) (fun b=>b)] at hb;refine (congrArg (fun o:Option (Out (List Bind) Empty)=>Option.bind o _) hb).trans ?_;simp only [Option.bind_some,ca,List.nil_append,List.map_id'];have hfl:(bs.filter fun u => !!(decide (u.Var∈gu l)))=bs.filter fun b=>decide (b.Var∈gu l):=by congr 1;funext b;rw [Bool.not_not]
  rw [hfl];unfold jL;have hlf:=List.length_filter_le (fun b:Bind=>decide (b.Var∈gu l)) bs;rw [aD ⟨by omega,(List.Sublist.map _ List.filter_sublist).nodup a2.D⟩];rfl
def CZ (l:Linear):Bool:=l.Terms.all (fun t=>decide (t.Var.length≤40))&&decide (l.Terms.length≤6)
theorem AH (l:Linear):qe l 6=some (CZ l):=by
 unfold qe;rw [jk (r:=false) (fun j=>(fun t:au=>decide (t.Var.length≤40)) (l.Terms.getD j ⟨[],0⟩)) _ _ () (fun j u _ _=>by simp only;rw [show decide (((l.Terms.getD j ⟨[],0⟩).Var.length:Int)>40) = !decide ((l.Terms.getD j ⟨[],0⟩).Var.length≤40) from KS (b:=40)];cases decide ((l.Terms.getD j ⟨[],0⟩).Var.length≤40)<;>rfl)]
 rw [Gh (fun t:au=>decide (t.Var.length≤40)) ⟨[],0⟩ l.Terms,jR];unfold CZ;rw [show decide ((l.Terms.length:Int)≤6)=decide (l.Terms.length≤6) from G5 (b:=6)];cases l.Terms.all fun t=>decide (t.Var.length≤40)<;>rfl
theorem AF (l:List Linear) (k:Nat):pP l (k:Int)=some (l.all CZ&&decide (l.length≤k)):=by
 unfold pP;rw [jk (r:=false) (fun j=>CZ (l.getD j b9)) _ _ () (fun j u _ _=>by rw [lJ,AH];simp only [Option.bind_some];cases CZ (l.getD j b9)<;>rfl)]
 rw [Gh CZ b9 l,jR,G5];cases l.all CZ<;>rfl
theorem zR (l:List Linear) (bs:List Bind):(oT l bs).Perm (bs.filter fun b=>decide (b.Var∈gu l)):=List.mergeSort_perm _ _
theorem CR {l:List Linear} {bs:List Bind} {b:Bind}:b∈oT l bs↔b∈bs∧b.Var∈gu l:=by rw [(zR l bs).mem_iff,List.mem_filter];simp
theorem Jy {l:List Linear} {bs:List Bind} (h:(bs.map Bind.Var).Nodup):((oT l bs).map Bind.Var).Nodup :=
 ((zR l bs).map Bind.Var).nodup_iff.2 ((List.Sublist.map _ List.filter_sublist).nodup h)
section
variable {α:Type} (v:α→aJ)
def FD (t:α):List α→List α
 | []=>[t]
 | u::us=>bif Op.bytesLess (v u) (v t) then u::FD t us else t::u::us
def Gf:List α→List α
 | []=>[]
 | t::ts=>FD v t (Gf ts)
def L8:List α→Bool
 | []=>true
 | t::ts => !(ts.any fun u=>v u==v t)&&L8 ts
theorem Hr:∀ {ts:List α},L8 v ts=true→(ts.map v).Nodup
 | [],_=>List.nodup_nil
 | t::ts,h=>by simp only [L8,MG,Bool.not_eq_true',List.any_eq_false,beq_iff_eq] at h;rw [List.map_cons,List.nodup_cons];refine ⟨fun hm => ?_,Hr h.2⟩;obtain ⟨u,hu,e⟩:=List.mem_map.1 hm;exact h.1 u hu e
theorem vm (t:α):∀ us:List α,(FD v t us).Perm (t::us)
 | []=>.refl _
 | u::us=>by
  unfold FD;cases Op.bytesLess (v u) (v t) with
  | true=>exact ((vm t us).cons u).trans (List.Perm.swap t u us)
  | false=>exact .refl _
theorem vD:∀ ts:List α,(Gf v ts).Perm ts
 | []=>.refl _
 | t::ts=>(vm v t (Gf v ts)).trans ((vD ts).cons t)
def JN (ts:List α):Prop:=ts.Pairwise fun a b=>Op.bytesLess (v a) (v b)=true
theorem Bv {t:α}:∀ {us:List α},JN v us→(∀ u∈us,v u≠v t)→JN v (FD v t us)
 | [],_,_=>List.pairwise_singleton _ _
 | u::us,h,hn=>by
  have h':=List.pairwise_cons.1 h;unfold FD;cases hb:Op.bytesLess (v u) (v t) with
  | true =>
   refine List.pairwise_cons.2 ⟨fun x hx => ?_,Bv h'.2 fun x hx=>hn x (by simp [hx])⟩;rcases List.mem_cons.1 ((vm v t us).mem_iff.1 hx) with rfl | hx
   ·exact hb
   ·exact h'.1 x hx
  | false =>
   have ht:Op.bytesLess (v t) (v u)=true:=by
    rcases qI (v u) (v t) with h1 | h1 | h1
    ·rw [hb] at h1;cases h1
    ·exact absurd h1 (hn u (by simp))
    ·exact h1
   refine List.pairwise_cons.2 ⟨fun x hx => ?_,h⟩;rcases List.mem_cons.1 hx with rfl | hx
   ·exact ht
   ·exact fT _ _ _ ht (h'.1 x hx)
theorem Bt:∀ {ts:List α},(ts.map v).Nodup→JN v (Gf v ts)
 | [],_=>List.Pairwise.nil
 | t::ts,h=>by rw [List.map_cons,List.nodup_cons] at h;refine Bv v (Bt h.2) fun u hu e => ?_;exact h.1 (List.mem_map.2 ⟨u,(vD v ts).mem_iff.1 hu,e⟩)
theorem vl (x y:α):Go.Proofs.ltOf (fun x y:α=>jQ (v x) (v y)) x y=Op.bytesLess (v x) (v y):=by rw [Bool.eq_iff_iff];simp only [Go.Proofs.ltOf,decide_eq_true_eq,uF]
theorem zU {ts:List α} (h:(ts.map v).Nodup):JN v (iN (fun x y=>jQ (v x) (v y)) ts):=by
 have h1:(iN (fun x y=>jQ (v x) (v y)) ts).Pairwise fun a b=>(!Go.Proofs.ltOf (fun x y:α=>jQ (v x) (v y)) b a)=true:=by
  refine List.pairwise_mergeSort (fun a b c h1 h2 => ?_) (fun a b => ?_) _
  ·simp only [vl,Bool.not_eq_true'] at h1 h2 ⊢;rw [Bool.eq_false_iff];intro h3;rcases qI (v a) (v b) with h4 | h4 | h4
   ·have:=fT _ _ _ h3 h4;rw [this] at h2;cases h2
   ·rw [← h4,h3] at h2;cases h2
   ·rw [h4] at h1;cases h1
  ·simp only [vl];cases h3:Op.bytesLess (v b) (v a) with
   | false=>rfl
   | true =>
    cases h4:Op.bytesLess (v a) (v b) with
    | false=>rfl
    | true=>have:=fT _ _ _ h3 h4;rw [fM] at this;cases this
 have hn:((iN (fun x y=>jQ (v x) (v y)) ts).map v).Nodup:=((List.mergeSort_perm ts _).map v).nodup_iff.2 h;have h2:(iN (fun x y=>jQ (v x) (v y)) ts).Pairwise fun a b=>v a≠v b:=List.pairwise_map.1 hn;refine (List.Pairwise.and h1 h2).imp fun {a b} hab => ?_;have h3:=hab.1;rw [vl,Bool.not_eq_true'] at h3;rcases qI (v a) (v b) with h4 | h4 | h4
 ·exact h4
 ·exact absurd h4 hab.2
 ·rw [h4] at h3;cases h3
theorem II {ts:List α} (h:(ts.map v).Nodup):iN (fun x y=>jQ (v x) (v y)) ts=Gf v ts:=by refine List.Perm.eq_of_pairwise (fun a b _ _ h3 h4 => ?_) (zU v h) (Bt v h) ((List.mergeSort_perm ts _).trans (vD v ts).symm);have:=fT _ _ _ h3 h4;rw [fM] at this;cases this
noncomputable def JJ (ts:List α):List α:=bif L8 v ts then Gf v ts else iN (fun x y=>jQ (v x) (v y)) ts
theorem Ew (ts:List α):iN (fun x y=>jQ (v x) (v y)) ts=JJ v ts:=by
 unfold JJ;cases h:L8 v ts with
 | false=>rfl
 | true=>exact II v (Hr v h)
end
noncomputable def Km (n:Nat):aJ:=bif Nat.blt n 10 then [UInt8.ofNat (48+n)] else dec n
theorem LJ (n:Nat):dec n=Km n:=by
 unfold Km;cases h:Nat.blt n 10 with
 | false=>rfl
 | true=>exact pF (by simpa [Nat.blt_eq] using h)
noncomputable def Ku (t:au) (n:Nat) (q:Linear):Linear:=Linear.mk (-(dB q.Const t.C)) (JJ au.Var (au.mk (95::Km n) 1::(q.Terms.filter fun u => !(u.Var==t.Var||dB u.C t.C==0)).map fun u=>au.mk u.Var (-(dB u.C t.C))))
theorem LC (t:au) (n:Nat) (q:Linear):ym t n q=Ku t n q:=by unfold ym AQ mZ eG Ku;rw [Ew au.Var,LJ]
noncomputable def Mz (q:Linear) (t:au) (i n:Nat) (qs:List Linear) (bs:List Bind):Rs :=
 bif t.C==1||t.C == -1 then qV t.Var (Fh t q) i n (qs.set i q) bs
 else bif decide (n+1≥1000000000) then .lim else qV t.Var (Ku t n q) i (n+1) (qs.set i q) bs
noncomputable def w6 (i n:Nat) (qs:List Linear) (bs:List Bind):Rs :=
 bif Aq (qs.getD i b9) then .no else Mz (bn (cont (qs.getD i b9)) (qs.getD i b9)) (uL (bn (cont (qs.getD i b9)) (qs.getD i b9)).Terms) i n qs bs
theorem KG (i n:Nat) (qs:List Linear) (bs:List Bind):gT i n qs bs=w6 i n qs bs:=by unfold gT w6 Mz;rw [LC]
noncomputable def Hb:Nat→Nat→Nat→List Linear→List Bind→Option Rs
 | 0,_,_,_,_=>none
 | f+1,i,n,qs,bs=>bif eD (qs.getD i b9) then some (.ok n qs bs) else
  match w6 i n qs bs with
  | .ok m qs' bs'=>Hb f i m qs' bs'
  | e=>some e
theorem J7:∀ (f i n:Nat) (qs:List Linear) (bs:List Bind),kx f i n qs bs=Hb f i n qs bs
 | 0,_,_,_,_=>rfl
 | f+1,i,n,qs,bs=>by
  simp only [kx,Hb];rw [KG];cases eD (qs.getD i b9) with
  | true=>rfl
  | false =>
   simp only [cond_false];cases w6 i n qs bs with
   | no=>rfl
   | lim=>rfl
   | ok m qs' bs'=>exact J7 f i m qs' bs'
noncomputable def Ib:Nat→Nat→Nat→List Linear→List Bind→Option Rs
 | 0,_,n,qs,bs=>some (.ok n qs bs)
 | k+1,i,n,qs,bs=>match Hb 4294967296 i n qs bs with
  | some (.ok m qs' bs')=>Ib k (i+1) m qs' bs'
  | e=>e
theorem JT:∀ (k i n:Nat) (qs:List Linear) (bs:List Bind),pH k i n qs bs=Ib k i n qs bs
 | 0,_,_,_,_=>rfl
 | k+1,i,n,qs,bs=>by
  simp only [pH,Ib];rw [J7];cases Hb 4294967296 i n qs bs with
  | none=>rfl
  | some r =>
   cases r with
   | no=>rfl
   | lim=>rfl
   | ok m qs' bs'=>exact JT k (i+1) m qs' bs'
def Fy (l:List Linear):List aJ:=kz ((oH l).map (·.1))
theorem Dk (l:List Linear):gu l=Fy l:=Cn _
def Mg (l:List Linear):Int:=(Fy l).foldl (fun n v=>if fX v>n then fX v else n) 0
theorem LB (l:List Linear):Jp l=Mg l:=by unfold Jp Mg;rw [Dk]
noncomputable def K6 (l:List Linear) (bs:List Bind):List Bind:=JJ Bind.Var (bs.filter fun b=>decide (b.Var∈Fy l))
theorem LX (l:List Linear) (bs:List Bind):oT l bs=K6 l bs:=by unfold oT K6;rw [Ew Bind.Var,Dk]
noncomputable def uU (l:List Linear) (n:Nat):(List Bind×Int)×Int:=match Ib l.length 0 n l [] with
 | some (.ok m _ bs)=>((K6 l bs,(m:Int)),0)
 | some .no=>(([],0),9)
 | _=>(([],0),3)
theorem JI (l:List Linear) (n:Nat):kK l n=uU l n:=by
 unfold kK uU;rw [JT];cases Ib l.length 0 n l [] with
 | none=>rfl
 | some r =>
  cases r with
  | no=>rfl
  | lim=>rfl
  | ok m qs bs=>simp only;rw [LX]
theorem Cu {σ ε ρ:Type} {body:σ→Option (eR σ ε ρ)} {N:Nat} {s:σ} {r:ρ} (h:body s=some (.ret r)):gn body (N+1) s=some (.ret r):=by simp only [gn];rw [h];rfl
theorem Fz {l:List Linear} {n:Nat} (hv:∀ q∈l,aA q=true) (h1:1≤n) (h2:n<1000000000) (hg:Jp l<n) (hl:l.length≤6000) (h0:0<l.length) (hz:eD (l.getD 0 b9)=false) (hno:Aq (l.getD 0 b9)=true) :
 bJ l (n:Int)=some ([],0,Bp l.length (aj.mk (l.getD 0 b9) [(0,1)] 1 false),9):=by
 have hS:=tI hv h1 h2 hg;unfold bJ;rw [mJ fun q hq=>mz (hv q hq),MS.2 hv];simp only [Option.bind_some,cond_true];rw [MK (show ¬ (n:Int)<1 by omega),MK (show ¬ (n:Int)≥1000000000 by omega),gQ hv hl];simp only [cond_false,Option.bind_some];rw [MK (show ¬ Jp l≥(n:Int) by omega),MK (show ¬ (l.length:Int)>6000 by omega)];simp only [cond_false];obtain ⟨s',e1,e2⟩:=jl (ε:=List Rw) (ρ:=Empty) (fin:=fun i0 s0=>s0) (fun j s=>s=fS l j)
  (body:=fun i0 s0 =>
   bf ((s0.length+1)*56≤140737488355328) <|
   some (.go (s0++[(aj.mk (Linear.mk ((l.getD i0 ⟨0,[]⟩).Const) ((l.getD i0 ⟨0,[]⟩).Terms)) (ksort (bW (((i0:Nat):Int):Int) 1 [])) 1 false)]))) (l.length-0) 0 [] rfl (fun j s _ hj hs=>by
   refine ⟨_,aD (by rw [hs];simp [fS];omega),?_⟩;rw [hs];unfold fS;rw [List.range_succ,List.map_append];rfl)
 refine (congrArg (fun o:Option (Out (List Rw) Empty)=>Option.bind o _) e1).trans ?_;simp only [Option.bind_some,ca];have e2:s'=fS l l.length:=by rw [e2];congr 1;omega
 rw [e2];have hlen:(fS l l.length).length=l.length:=by simp [fS]
 have hr0:(fS l l.length).getD 0 qg=aj.mk (l.getD 0 b9) [(0,1)] 1 false:=by rw [getD_at qg (by omega)];unfold fS;rw [List.getElem_map,List.getElem_range];rfl
 have hok:pX ((fS l l.length).length:Nat) ((fS l l.length).getD 0 qg):=by have hm:(fS l l.length).getD 0 qg∈fS l l.length:=ba _ (by omega);have h:=CG l _ hm;rw [hlen];exact h.to (by rw [hr0];exact hv _ (ba _ h0))
 have hw:gn (Em 0) 4294967296 (fS l l.length,[],(n:Int))=some (.ret (.ret ([],0,Bp l.length (aj.mk (l.getD 0 b9) [(0,1)] 1 false),9))):=by refine Cu (N:=4294967295) ?_;unfold Em;rw [aD ⟨Int.le_refl _,by rw [hlen];show (0:Int)<_;omega⟩];rw [aD (show (((0:Nat):Int)).toNat<_ by rw [hlen];exact h0),lJ,oD,show (((0:Nat):Int)).toNat=0 from rfl,hr0];simp only [Option.bind_some];rw [hz];simp only [cond_false];have hs:=step_eq (i:=0) (n:=(n:Int)) (rows:=fS l l.length) (bs:=[]) (by omega) (by omega) hr0 (by rw [hr0] at hok;exact hok);rw [hs];rw [hno];simp only [cond_true,Option.bind_some];rw [hlen];rfl
 rw [hlen];have hall:gn (Bf l.length) 4294967296 (0,fS l l.length,[],(n:Int))=some (.ret ([],0,Bp l.length (aj.mk (l.getD 0 b9) [(0,1)] 1 false),9)):=by refine Cu (N:=4294967295) ?_;show Bf l.length (((0:Nat):Int),fS l l.length,[],(n:Int))=_;rw [Ff h0,hw];rfl
 refine (congrArg (fun o:Option (Out (List Rw×List Bind×Int) wZ)=>Option.bind o _) hall).trans ?_;rfl
noncomputable def n9 (l:List Linear):Option (List aJ):=bif (l.all fun q=>decide (q.Terms.length≤12))&&decide (l.length≤6000) then some (Fy l) else bB l
theorem rB:bB=n9:=by
 funext l;unfold n9;cases h:(l.all fun q=>decide (q.Terms.length≤12))&&decide (l.length≤6000) with
 | false=>rfl
 | true =>
  simp only [MG,MS,decide_eq_true_eq] at h;rw [gf h.1 h.2,Dk];rfl
noncomputable def vF (l:List Linear):Option Int:=bif l.all aA&&decide (l.length≤6000) then some (Mg l) else cy l
theorem tt:cy=vF:=by
 funext l;unfold vF;cases h:l.all aA&&decide (l.length≤6000) with
 | false=>rfl
 | true =>
  simp only [MG,MS,decide_eq_true_eq] at h;rw [gQ h.1 h.2,LB];rfl
def Ih (l:List Linear) (n:Int):Bool:=l.all aA&&(decide (1≤n∧n<1000000000)&&(decide (Mg l<n)&&decide (l.length≤6000)))
noncomputable def yC (l:List Linear) (n:Int):Option (List Bind×Int×al×Int) :=
 bif Ih l n then
  bif (uU l n.toNat).2==0 then some ((uU l n.toNat).1.1,(uU l n.toNat).1.2,al.mk [] 0,0)
  else bif decide (0<l.length)&&(!eD (l.getD 0 b9)&&Aq (l.getD 0 b9)) then some ([],0,Bp l.length (aj.mk (l.getD 0 b9) [(0,1)] 1 false),9)
  else bJ l n
 else bJ l n
theorem A1:bJ=yC:=by
 funext l n;unfold yC;cases h:Ih l n with
 | false=>rfl
 | true =>
  unfold Ih at h;simp only [MG,MS,decide_eq_true_eq] at h;obtain ⟨hv,⟨h1,h2⟩,hg,hl⟩:=h;obtain ⟨n,rfl⟩:∃ k:Nat,n=(k:Int):=⟨n.toNat,by omega⟩;rw [Int.toNat_natCast,cond_true];rw [← LB] at hg;cases he:(uU l n).2==0 with
  | true =>
   obtain ⟨f,e,e2⟩:=BS hv (by omega) (by omega) hg hl;rw [JI] at e e2;rw [e,e2 (beq_iff_eq.1 he),beq_iff_eq.1 he];rfl
  | false =>
   cases hno:decide (0<l.length)&&(!eD (l.getD 0 b9)&&Aq (l.getD 0 b9)) with
   | false=>rfl
   | true =>
    simp only [MG,decide_eq_true_eq,Bool.not_eq_true'] at hno;rw [Fz hv (by omega) (by omega) hg hl hno.1 hno.2.1 hno.2.2];rfl
noncomputable def kN (x0 x1:List Linear):Option ((List Bind)×Int) :=
 (ck x0).bind fun y0 =>
 bif y0 then (
  (ck x1).bind fun y1 =>
  bif y1 then (
   bif decide (((x0.length:Nat):Int)>6000) then (
    some ([],1)
   ) else (
    bif decide (((x1.length:Nat):Int)>6000) then (
     some ([],1)
    ) else (
     bif (((x0.length:Nat):Int)==((x1.length:Nat):Int)) then (
      (vF x0).bind fun y2 =>
      bif decide ((aK (y2+1))≥1000000000) then (
       some ([],3)
      ) else (
       (n9 x0).bind fun y3 =>
       bf (112*y3.length≤140737488355328) <|
       (dn (σ:=(List Bind)) (ε:=(List Bind)) (ρ:=Empty) (fun i0 s0 =>
        bf (i0<s0.length) <|
        some (.go (s0.set i0 (Bind.mk 1 (y3.getD i0 []) (Linear.mk 0 []) (Shape.mk [] []) [])))
       ) (fun i0 s0=>s0) (y3.length-0) 0 (List.replicate y3.length (⟨0,[],⟨0,[]⟩,⟨[],[]⟩,[]⟩))).bind <| ca fun u0 =>
       (n9 x1).bind fun y4 =>
       bf ((([[]]:List aJ).length+y4.length)*16≤140737488355328) <|
       (dn (σ:=(List Bind)) (ε:=(List Bind)) (ρ:=((List Bind)×Int)) (fun i1 s1 =>
        (dn (σ:=(List Linear)) (ε:=(List Linear)) (ρ:=(eR (List Bind) (List Bind) ((List Bind)×Int))) (fun i2 s2 =>
         bf (i2<x1.length) <|
         ((
          bif decide (((i1:Nat):Int)>0) then (
           (cU (Linear.mk ((x1.getD i2 ⟨0,[]⟩).Const) ((x1.getD i2 ⟨0,[]⟩).Terms)) ((([[]]:List aJ)++y4).getD i1 [])).bind fun y5 =>
           some (aK (0-y5))
          ) else (
           some (aK (((x0.getD i2 ⟨0,[]⟩).Const)-((x1.getD i2 ⟨0,[]⟩).Const)))
          )
         ):Option Int).bind fun v0 =>
         (cb (Linear.mk v0 ((x0.getD i2 ⟨0,[]⟩).Terms))).bind fun y6 =>
         bif y6 then (
          bf ((s2.length+1)*32≤140737488355328) <|
          some (.go (s2++[(Linear.mk v0 ((x0.getD i2 ⟨0,[]⟩).Terms))]))
         ) else (
          some (.ret (.ret ([],3)))
         )
        ) (fun i2 s2=>s2) (x0.length-0) 0 []).bind <| aft fun u1 =>
        (yC u1 (aK (y2+1))).bind fun y7 =>
        bif (y7.2.2.2==0) then (
         (dn (σ:=(List Bind)) (ε:=(List Bind)) (ρ:=Empty) (fun i3 s3 =>
          (fW y3 ((y7.1.getD i3 (⟨0,[],⟨0,[]⟩,⟨[],[]⟩,[]⟩)).Var)).bind fun y8 =>
          ((
           bif (((i1:Nat):Int)==0) then (
            bf (0≤y8.1∧y8.1<(s3.length:Int)) <|
            bf (y8.1.toNat<s3.length) <|
            some (s3.set y8.1.toNat (Bind.mk ((s3.getD y8.1.toNat (⟨0,[],⟨0,[]⟩,⟨[],[]⟩,[]⟩)).Kind) ((s3.getD y8.1.toNat (⟨0,[],⟨0,[]⟩,⟨[],[]⟩,[]⟩)).Var) (Linear.mk (((y7.1.getD i3 (⟨0,[],⟨0,[]⟩,⟨[],[]⟩,[]⟩)).Dim).Const) (((s3.getD y8.1.toNat (⟨0,[],⟨0,[]⟩,⟨[],[]⟩,[]⟩)).Dim).Terms)) (Shape.mk (((s3.getD y8.1.toNat (⟨0,[],⟨0,[]⟩,⟨[],[]⟩,[]⟩)).Row).Row) (((s3.getD y8.1.toNat (⟨0,[],⟨0,[]⟩,⟨[],[]⟩,[]⟩)).Row).Dims)) ((s3.getD y8.1.toNat (⟨0,[],⟨0,[]⟩,⟨[],[]⟩,[]⟩)).Elem)))
           ) else (
            bif ((((y7.1.getD i3 (⟨0,[],⟨0,[]⟩,⟨[],[]⟩,[]⟩)).Dim).Const)==0) then (
             some s3
            ) else (
             bf (0≤y8.1∧y8.1<(s3.length:Int)) <|
             bf (y8.1.toNat<s3.length) <|
             bf ((((s3.getD y8.1.toNat (⟨0,[],⟨0,[]⟩,⟨[],[]⟩,[]⟩)).Dim).Terms)=[]) <|
             some (s3.set y8.1.toNat (Bind.mk ((s3.getD y8.1.toNat (⟨0,[],⟨0,[]⟩,⟨[],[]⟩,[]⟩)).Kind) ((s3.getD y8.1.toNat (⟨0,[],⟨0,[]⟩,⟨[],[]⟩,[]⟩)).Var) (Linear.mk (((s3.getD y8.1.toNat (⟨0,[],⟨0,[]⟩,⟨[],[]⟩,[]⟩)).Dim).Const) [(au.mk ((([[]]:List aJ)++y4).getD i1 []) (((y7.1.getD i3 (⟨0,[],⟨0,[]⟩,⟨[],[]⟩,[]⟩)).Dim).Const))]) (Shape.mk (((s3.getD y8.1.toNat (⟨0,[],⟨0,[]⟩,⟨[],[]⟩,[]⟩)).Row).Row) (((s3.getD y8.1.toNat (⟨0,[],⟨0,[]⟩,⟨[],[]⟩,[]⟩)).Row).Dims)) ((s3.getD y8.1.toNat (⟨0,[],⟨0,[]⟩,⟨[],[]⟩,[]⟩)).Elem)))
            )
           )
          ):Option (List Bind)).bind fun v1 =>
          some (.go v1)
         ) (fun i3 s3=>s3) (y7.1.length-0) 0 s1).bind <| ca fun u2 =>
         some (.go u2)
        ) else (
         some (.ret ([],y7.2.2.2))
        )
       ) (fun i1 s1=>s1) ((([[]]:List aJ)++y4).length-0) 0 u0).bind <| aft fun u3 =>
       (dn (σ:=Unit) (ε:=Unit) (ρ:=((List Bind)×Int)) (fun i4 s4 =>
        (cb (Linear.mk (((u3.getD i4 (⟨0,[],⟨0,[]⟩,⟨[],[]⟩,[]⟩)).Dim).Const) (((u3.getD i4 (⟨0,[],⟨0,[]⟩,⟨[],[]⟩,[]⟩)).Dim).Terms))).bind fun y9 =>
        bif y9 then (
         some (.go ())
        ) else (
         some (.ret ([],3))
        )
       ) (fun i4 s4=>()) (u3.length-0) 0 ()).bind <| aft fun u4 =>
       bif (((u3.length:Nat):Int)==0) then (
        some ([],0)
       ) else (
        some (u3,0)
       )
      )
     ) else (
      some ([],14)
     )
    )
   )
  ) else (
   some ([],1)
  )
 ) else (
  some ([],1)
 )
theorem nZ:gq=kN:=by funext x0 x1;unfold gq kN;simp only [rB,tt,A1]
noncomputable def kU (x0:List Linear) (x1:al):Option Bool :=
 (ck x0).bind fun y0 =>
 bif y0 then (
  bif decide (((x0.length:Nat):Int)>6000) then (
   some false
  ) else (
   bif (((x1.Mults.length:Nat):Int)==((x0.length:Nat):Int)) then (
    bif decide (x1.Mod<0) then (
     some false
    ) else (
     bif decide (x1.Mod>1099511627776) then (
      some false
     ) else (
      bf (8*x0.length≤140737488355328) <|
      (dn (σ:=(List Int)) (ε:=(List Int)) (ρ:=Bool) (fun i0 s0 =>
       bf (i0<x1.Mults.length) <|
       (bY (x1.Mults.getD i0 0) 0).bind fun y1 =>
       bif y1 then (
        bf (i0<s0.length) <|
        some (.go (s0.set i0 ((x0.getD i0 ⟨0,[]⟩).Const)))
       ) else (
        some (.ret false)
       )
      ) (fun i0 s0=>s0) (x0.length-0) 0 (List.replicate x0.length 0)).bind <| aft fun u0 =>
      (n9 x0).bind fun y2 =>
      (dn (σ:=Unit) (ε:=Unit) (ρ:=Bool) (fun i1 s1 =>
       (dn (σ:=(List Int)) (ε:=(List Int)) (ρ:=Empty) (fun i2 s2 =>
        (cU (Linear.mk ((x0.getD i2 ⟨0,[]⟩).Const) ((x0.getD i2 ⟨0,[]⟩).Terms)) (y2.getD i1 [])).bind fun y3 =>
        bf (i2<s2.length) <|
        some (.go (s2.set i2 y3))
       ) (fun i2 s2=>s2) (x0.length-0) 0 (List.replicate x0.length 0)).bind <| ca fun u1 =>
       (fv x1.Mults u1).bind fun y4 =>
       bif (y4.2==0) then (
        (dx y4.1 x1.Mod).bind fun y5 =>
        bif y5 then (
         some (.go ())
        ) else (
         some (.ret false)
        )
       ) else (
        some (.ret false)
       )
      ) (fun i1 s1=>()) (y2.length-0) 0 ()).bind <| aft fun u2 =>
      (fv x1.Mults u0).bind fun y6 =>
      bif (y6.2==0) then (
       (dx y6.1 x1.Mod).bind fun y7 =>
       some (!y7)
      ) else (
       some false
      )
     )
    )
   ) else (
    some false
   )
  )
 ) else (
  some false
 )
theorem tr:gw=kU:=by funext x0 x1;unfold gw kU;simp only [rB,tt,A1,nZ]
noncomputable def uj   : Option Bool :=
 (gC 2 3 (-1)).bind fun y0 =>
 (yC [y0] 1).bind fun y1 =>
 (gC 2 (-4) 1).bind fun y2 =>
 (yC [y2,(Linear.mk 0 [])] 1).bind fun y3 =>
 (gF [107]).bind fun y4 =>
 (gC 1 0 1).bind fun y5 =>
 (gC 1 1 0).bind fun y6 =>
 (cW (Linear.mk 0 []) y4 3).bind fun y7 =>
 (kN [y5,y6] [y4,y7]).bind fun y8 =>
 bif (y1.2.2.2==0) then (
  bif (y3.2.2.2==9) then (
   bif (y8.2==0) then (
    bif (y1.2.1==2) then (
     bif (((y1.1.length:Nat):Int)==2) then (
      bf (0<y1.1.length) <|
      bif (((y1.1.getD 0 (⟨0,[],⟨0,[]⟩,⟨[],[]⟩,[]⟩)).Var)==[109]) then (
       (dV (Linear.mk (((y1.1.getD 0 (⟨0,[],⟨0,[]⟩,⟨[],[]⟩,[]⟩)).Dim).Const) (((y1.1.getD 0 (⟨0,[],⟨0,[]⟩,⟨[],[]⟩,[]⟩)).Dim).Terms))).bind fun y9 =>
       bif (y9==[45,50,95,49,45,49]) then (
        bf (1<y1.1.length) <|
        (dV (Linear.mk (((y1.1.getD 1 (⟨0,[],⟨0,[]⟩,⟨[],[]⟩,[]⟩)).Dim).Const) (((y1.1.getD 1 (⟨0,[],⟨0,[]⟩,⟨[],[]⟩,[]⟩)).Dim).Terms))).bind fun y10 =>
        bif (y10==[51,95,49,43,50]) then (
         (ow [y2,(Linear.mk 0 [])] y3.2.2.1).bind fun y11 =>
         bif y11 then (
          (kU [y2,(Linear.mk 0 [])] (al.mk [1,0] 2)).bind fun y12 =>
          bif y12 then (
           bif (((y8.1.length:Nat):Int)==2) then (
            bf (0<y8.1.length) <|
            (dV (Linear.mk (((y8.1.getD 0 (⟨0,[],⟨0,[]⟩,⟨[],[]⟩,[]⟩)).Dim).Const) (((y8.1.getD 0 (⟨0,[],⟨0,[]⟩,⟨[],[]⟩,[]⟩)).Dim).Terms))).bind fun y13 =>
            bif (y13==[50,107,43,49]) then (
             bf (1<y8.1.length) <|
             (dV (Linear.mk (((y8.1.getD 1 (⟨0,[],⟨0,[]⟩,⟨[],[]⟩,[]⟩)).Dim).Const) (((y8.1.getD 1 (⟨0,[],⟨0,[]⟩,⟨[],[]⟩,[]⟩)).Dim).Terms))).bind fun y14 =>
             some (y14==[107,45,49])
            ) else (
             some false
            )
           ) else (
            some false
           )
          ) else (
           some false
          )
         ) else (
          some false
         )
        ) else (
         some false
        )
       ) else (
        some false
       )
      ) else (
       some false
      )
     ) else (
      some false
     )
    ) else (
     some false
    )
   ) else (
    some false
   )
  ) else (
   some false
  )
 ) else (
  some false
 )
theorem yc:jP=uj:=by unfold jP uj;simp only [rB,tt,A1,nZ,tr]
theorem D3:jP=some true:=yc.trans (by kernel_rfl)
def IE (c:Int) (t:au):au:=au.mk t.Var (c*t.C)
def smul (c:Int) (q:Linear):Linear:=Linear.mk (c*q.Const) (q.Terms.map (IE c))
theorem zZ (f:aJ→Int) (c:Int):∀ ts:List au,bA f (ts.map (IE c))=c*bA f ts
 | []=>by simp [bA]
 | t::ts=>by simp only [List.map_cons,bA];rw [zZ f c ts];simp only [IE];rw [Int.mul_add,Int.mul_assoc]
theorem HI (f:aJ→Int) (c:Int) (q:Linear):ga f (smul c q)=c*ga f q:=by unfold ga smul;simp only;rw [zZ,Int.mul_add]
theorem KJ {q' q:Linear} (hv':aA q'=true) (hs:Ap q.Terms) (hz:Nz q.Terms) (h:∀ f,ga f q'=ga f q):q'=q:=by
 obtain ⟨n,ts⟩:=q';obtain ⟨m,us⟩:=q;have e:n=m:=by have:=h (fun _=>0);rw [nW,nW] at this;exact this
 have e2:ts=us:=pU _ _ (iD hv') (cD hv') hs hz fun f=>by have:=h f;unfold ga at this;simp only at this;omega
 rw [e,e2]
theorem Io {c:Int} {ts:List au} (h:Ap ts):Ap (ts.map (IE c)):=by unfold Ap;rw [List.pairwise_map];exact h
theorem I8 {c:Int} (hc:c≠0) {ts:List au} (h:Nz ts):Nz (ts.map (IE c)):=fun t ht=>by obtain ⟨u,hu,rfl⟩:=List.mem_map.1 ht;exact Int.mul_ne_zero hc (h u hu)
theorem I5 {q' q:Linear} {c:Int} (hv':aA q'=true) (hv:aA q=true) (hc:c≠0) (h:∀ f,ga f q'=c*ga f q):q'=smul c q :=
 KJ hv' (Io (iD hv)) (I8 hc (cD hv)) fun f=>by rw [h f,HI]
theorem GJ {a b:Int}:a.tmod b=0↔b ∣ a:=⟨Int.dvd_of_tmod_eq_zero,Int.tmod_eq_zero_of_dvd⟩
section
variable {s:Int} (hs:s=1∨s = -1)
include hs
end
def Ks (c:Int) (q' q:Linear):Prop:=∀ f,ga f q'=c*ga f q
theorem Hl:aA b9=true:=xC
theorem A0 (f:aJ→Int):ga f b9=0:=by simp [ga,bA]
theorem IG (x:aJ) (by_:Linear):tK x by_ b9=b9:=by simp [tK,cf,kv]
theorem pZ {l:List Linear} {j:Nat} (h:l.length≤j):l.getD j b9=b9:=by rw [ME,List.getElem?_eq_none h];rfl
theorem Iz {l:List Linear} {g:Linear→Linear} {i j:Nat} (hi:i≤l.length) (g0:g b9=b9) (hlt:j<i→g (l.getD j b9)=l.getD j b9):(l.take i++(l.drop i).map g).getD j b9=g (l.getD j b9):=by
 by_cases h1:j<i
 ·rw [hlt h1,ME,List.getElem?_append_left (by simp;omega),List.getElem?_take_of_lt h1,← ME]
 ·by_cases h2:j<l.length
  ·rw [ME,List.getElem?_append_right (by simp;omega),List.getElem?_map,List.getElem?_drop,List.length_take,Nat.min_eq_left hi,show i+(j-i)=j from by omega,getD_at b9 h2,MF h2];rfl
  ·rw [pZ (by simp;omega),pZ (show l.length≤j by omega),g0]
structure Rel (p i:Nat) (qs Q:List Linear):Prop where
 len:p+qs.length≤Q.length
 done:∀ k,k<i→qs.getD k b9=b9
 mid:∀ j,i≤j→j<qs.length→∃ c,c≠0∧Ks c (Q.getD (p+j) b9) (qs.getD j b9)
 all:∀ j,p+i≤j→j<Q.length→∃ k c,Ks c (Q.getD j b9) (qs.getD k b9)
theorem Iy {qs:List Linear} (h:∀ q∈qs,aA q=true) (k:Nat):aA (qs.getD k b9)=true:=by
 by_cases hk:k<qs.length
 ·exact h _ (ba b9 hk)
 ·rw [pZ (by omega)];exact Hl
theorem FQ {l:List Linear} {P:Linear→Bool} {i:Nat} (h:(l.drop i).all P=true) {j:Nat} (hi:i≤j) (hj:j<l.length):P (l.getD j b9)=true:=by
 rw [MS] at h;refine h _ ?_;have:(l.drop i).getD (j-i) b9=l.getD j b9:=by rw [fQ];congr 1;omega
 rw [← this];exact ba b9 (by simp;omega)
theorem Ge {l:List Linear} {i j:Nat} {x:Linear} (hi:i<l.length):(l.set i x).getD j b9=if j=i then x else l.getD j b9:=by
 by_cases e:j=i
 ·subst e;rw [if_pos rfl,ja hi]
 ·rw [if_neg e,ME,List.getElem?_set_ne (Ne.symm e),← ME]
theorem zero_mul {c:Int} (hc:c≠0) {q' q:Linear} (hv':aA q'=true) (hv:aA q=true) (h:Ks c q' q):eD q'=eD q:=by
 have e:=I5 hv' hv hc h;rw [e,Bool.eq_iff_iff,kM,kM];obtain ⟨k,ts⟩:=q;unfold smul;simp only [Linear.mk.injEq,List.map_eq_nil_iff,Int.mul_eq_zero];constructor
 ·rintro ⟨h1,h2⟩;exact ⟨h1.resolve_left hc,h2⟩
 ·rintro ⟨h1,h2⟩;exact ⟨.inr h1,h2⟩
theorem Rel.next {p i:Nat} {qs Q:List Linear} (h:Rel p i qs Q) (h0:qs.getD i b9=b9):Rel p (i+1) qs Q where
 len:=h.len
 done:=fun k hk=>by
  by_cases e:k=i
  ·rw [e];exact h0
  ·exact h.done k (by omega)
 mid:=fun j hj hl=>h.mid j (by omega) hl
 all:=fun j hj hl=>h.all j (by omega) hl
theorem r6 (l:List Linear):im l=some (l.all aA):=by
 unfold im;rw [jk (r:=false) (fun j=>aA (l.getD j b9)) _ _ () (fun j u _ _=>by rw [lJ,dA];simp only [Option.bind_some];cases aA (l.getD j b9)<;>rfl)]
 rw [Gh aA b9 l,jR];cases l.all aA<;>rfl
theorem Fu {α ρ:Type} (d:α) (q:α→Bool) (l:List α) {body:Int→Option (eR Int Unit ρ)} {r:ρ} (hb:∀ j:Nat,j<l.length→body (j:Int)=some (bif q (l.getD j d) then .go ((j+1:Nat):Int) else .ret r)) (he:body (l.length:Int)=some (.brk ())) :
 ∀ (k N j:Nat),j+k=l.length→k<N→gn body N (j:Int)=some (bif (l.drop j).all q then .brk () else .ret r)
 | 0,N,j,hk,hN=>by
  obtain ⟨N,rfl⟩:∃ m,N=m+1:=⟨N-1,by omega⟩;simp only [gn];rw [show j=l.length from by omega,he,List.drop_length];rfl
 | k+1,N,j,hk,hN=>by
  obtain ⟨N,rfl⟩:∃ m,N=m+1:=⟨N-1,by omega⟩;simp only [gn];have hj:j<l.length:=by omega
  rw [hb j hj,List.drop_eq_getElem_cons hj,List.all_cons,← getD_at d hj];cases q (l.getD j d) with
  | false=>rfl
  | true =>
   simp only [cond_true,Bool.true_and];exact Fu d q l hb he k N (j+1) (by omega) (by omega)
def vn (n:Int) (q:Linear):Bool:=(decide (-n≤q.Const)&&decide (q.Const≤n))&&q.Terms.all fun t=>decide (-n≤t.C)&&decide (t.C≤n)
theorem yi (l:List Linear) (n:Int) (hn:0≤n∧n≤1000000) (hl:∀ q∈l,q.Terms.length≤1000):lu l n=some (l.all (vn n)):=by
 unfold lu;have hw:aK (0-n) = -n:=by rw [aU (by omega) (by omega)];omega
 rw [jk (r:=false) (fun j=>vn n (l.getD j b9)) _ _ () (fun j u _ hj=>by
  rw [hw];have hq:=hl _ (ba b9 (show j<l.length by omega));generalize l.getD j b9=q at hq;unfold vn;by_cases h1:q.Const < -n
  ·rw [ML h1,MK (show ¬ -n≤q.Const by omega)];rfl
  ·rw [MK h1,ML (show -n≤q.Const by omega)];simp only [cond_false,Bool.true_and];by_cases h2:q.Const>n
   ·rw [ML h2,MK (show ¬ q.Const≤n by omega)];rfl
   ·rw [MK h2,ML (show q.Const≤n by omega)];simp only [cond_false,Bool.true_and];have hw:=Fu (ρ:=eR Unit Unit Bool) (r:=eR.ret false) ⟨[],0⟩ (fun t:au=>decide (-n≤t.C)&&decide (t.C≤n)) q.Terms
     (body:=fun s1 =>
     bif decide (s1<((q.Terms.length:Nat):Int)) then (
      bf (0≤s1∧s1<(q.Terms.length:Int)) <|
      bif decide ((q.Terms.getD s1.toNat ⟨[],0⟩).C<(-n)) then (
       some (.ret (.ret false))
      ) else (
       bif decide ((q.Terms.getD s1.toNat ⟨[],0⟩).C>n) then (
        some (.ret (.ret false))
       ) else (
        some (.go (aK (s1+1)))
       )
      )
     ) else (
      some (.brk ())
     )) (fun j hj=>by
      rw [ML (by omega),cond_true,aD ⟨by omega,by omega⟩,Int.toNat_natCast];generalize q.Terms.getD j ⟨[],0⟩=t;by_cases h3:t.C < -n
      ·rw [ML h3,MK (show ¬ -n≤t.C by omega)];rfl
      ·rw [MK h3,ML (show -n≤t.C by omega)];by_cases h4:t.C>n
       ·rw [ML h4,MK (show ¬ t.C≤n by omega)];rfl
       ·rw [MK h4,ML (show t.C≤n by omega)];simp only [cond_false,Bool.true_and,cond_true];rw [aU (by omega) (by omega)];rfl) (by
      rw [MK (by omega)];rfl) q.Terms.length 4294967296 0 (by omega) (by omega)
    rw [List.drop_zero] at hw;refine (congrArg (fun o:Option (Out Unit (eR Unit Unit Bool))=>Option.bind o _) hw).trans ?_;cases q.Terms.all fun t=>decide (-n≤t.C)&&decide (t.C≤n)<;>rfl)]
 rw [Gh (vn n) b9 l,jR];cases l.all (vn n)<;>rfl
theorem yr (k:Int) (hk:k≠0):∀ (ts acc:List au),Ap (acc++ts)→(∀ t∈acc,t.C≠0)→(∀ t∈ts,t.C≠0∧aK (k*t.C)=k*t.C)→ts.foldl (fun ts t=>eT ts t.Var (aK (k*t.C))) (acc.map (IE k))=(acc++ts).map (IE k)
 | [],acc,_,_,_=>by simp
 | t::ts,acc,h,ha,ht=>by
  obtain ⟨h1,h2⟩:=ht t (by simp);simp only [List.foldl_cons];rw [h2,D9 _ _ _ (Int.mul_ne_zero hk h1) (fun u hu=>by obtain ⟨w,hw,rfl⟩:=List.mem_map.1 hu;exact ⟨(List.pairwise_append.1 h).2.2 w hw t (by simp),Int.mul_ne_zero hk (ha w hw)⟩)]
  have e:acc.map (IE k)++[au.mk t.Var (k*t.C)]=(acc++[t]).map (IE k):=by rw [List.map_append];rfl
  rw [e,yr k hk ts (acc++[t]) (by rw [List.append_assoc];exact h) (fun u hu=>by
   rcases List.mem_append.1 hu with hu | hu
   ·exact ha u hu
   ·rw [List.mem_singleton.1 hu];exact h1) (fun u hu=>ht u (by simp [hu])),List.append_assoc]
  rfl
structure G2 (f0 f:aJ→Int) (n0 i:Nat) (qs:List Linear) (bs:List Bind):Prop where
 ag:∀ v,fX v<n0→f v=f0 v
 rw:∀ j,i≤j→ga f (qs.getD j b9)=0
 bd:∀ b∈bs,f b.Var=ga f b.Dim
theorem JA {f:aJ→Int} {q:Linear} (hv:aA q=true) (hz:eD q=false) (h:ga f q=0):Aq q=false:=by
 have hc:cont q≠0:=fun h0=>by
  have ht:=(sA hv).1 h0;unfold ga at h;rw [ht] at h;simp only [bA] at h;have:eD q=true:=by unfold eD;rw [ht];simp;omega
  rw [this] at hz;cases hz
 have hd:∀ ts:List au,(∀ t∈ts,((cont q:Nat):Int) ∣ t.C)→((cont q:Nat):Int) ∣ bA f ts:=fun ts=>by
  induction ts with
  | nil=>intro _;simp [bA]
  | cons t ts ih =>
   intro ht;simp only [bA];exact Int.dvd_add (Int.dvd_mul_of_dvd_left (ht t (by simp))) (ih fun u hu=>ht u (by simp [hu]))
 have h1:=hd q.Terms um;have h2:((cont q:Nat):Int) ∣ q.Const:=by
  have:q.Const = -bA f q.Terms:=by unfold ga at h;omega
  rw [this];exact (Int.dvd_neg).2 h1
 unfold Aq;rw [GJ.2 h2];simp [hc]
theorem Fq {f0 f:aJ→Int} {n0 i m:Nat} {x:aJ} {by_:Linear} {qs:List Linear} {bs:List Bind} (hq:∀ q∈qs,aA q=true) (hb:∀ b∈bs,aA b.Dim=true) (hi:i≤qs.length) (h:G2 f0 f n0 i qs bs) (hx:f x=ga f by_)
 {m':Nat} {qs':List Linear} {bs':List Bind} (e:qV x by_ i m qs bs = .ok m' qs' bs'):G2 f0 f n0 i qs' bs':=by
 unfold qV at e;cases h1:rW x by_ i qs (bs.map (·.Dim)) with
 | false=>rw [h1] at e;cases e
 | true =>
  rw [h1] at e;injection e with e1 e2 e3
  subst e2;subst e3;unfold rW at h1;simp only [MG,MS] at h1;obtain ⟨hbv,hd,hr⟩:=h1;have key:∀ q,aA q=true→iT x by_ q=true→ga f (tK x by_ q)=ga f q:=fun q hv hc=>by rw [(lq hbv hv hc).2.1 f,hx];rw [Int.sub_self,Int.mul_zero,Int.add_zero]
  refine ⟨h.ag,fun j hj => ?_,fun b hb2 => ?_⟩
  ·rw [Iz hi (IG x by_) fun hk=>by omega];by_cases hl:j<qs.length
   ·rw [key _ (Iy hq j) (FQ (MS.2 hr) hj hl)];exact h.rw j hj
   ·rw [pZ (by omega),IG];exact A0 f
  ·rcases List.mem_append.1 hb2 with hb2 | hb2
   ·obtain ⟨b0,hb0,rfl⟩:=List.mem_map.1 hb2;show f b0.Var=ga f (tK x by_ b0.Dim);rw [key _ (hb b0 hb0) (hd _ (List.mem_map.2 ⟨b0,hb0,rfl⟩))];exact h.bd b0 hb0
   ·rw [List.mem_singleton.1 hb2];exact hx
theorem GX {n:Nat} (h1:1≤n) (h2:n<1000000000) {q:Linear} (h:uH n q):cf q (eG n)=0:=by
 by_cases h0:cf q (eG n)=0
 ·exact h0
 ·have:=DZ h h0;rw [(mC h1 h2).2] at this;omega
theorem KZ {t:au} {n:Nat} {q:Linear} (h1:1≤n) (h2:n<1000000000) (hv:aA q=true) (hf:uH n q):cf (ym t n q) (eG n)=1:=by unfold cf ym;simp only;have hn:AW (mZ t n q.Terms):=tX (du hv) (BP h1 h2 hf);rw [CE (gA _) (((gA _).map au.Var).nodup_iff.2 hn)];exact lS (t:=au.mk (eG n) 1) hn (by simp [mZ])
theorem KD {t:au} {n:Nat} {q:Linear} (h1:1≤n) (h2:n<1000000000) (hv:aA q=true) (hf:uH n q):AW (ym t n q).Terms :=
 ((gA _).map au.Var).nodup_iff.2 (tX (du hv) (BP h1 h2 hf))
theorem HM {f0 f:aJ→Int} {n0 i n:Nat} {qs:List Linear} {bs:List Bind} (hS:jx n qs bs) (hn0:n0≤n) (hi:i<qs.length) (hz:eD (qs.getD i b9)=false) (h:G2 f0 f n0 i qs bs) :
 gT i n qs bs ≠ .no∧∀ (m:Nat) (qs':List Linear) (bs':List Bind),gT i n qs bs = .ok m qs' bs'→∃ f',G2 f0 f' n0 i qs' bs':=by
 have hv:aA (qs.getD i b9)=true:=(hS.qv _ (ba b9 hi)).1;have hfr:uH n (qs.getD i b9):=(hS.qv _ (ba b9 hi)).2;have hno:=JA hv hz (h.rw i (Nat.le_refl _));obtain ⟨hg,hd⟩:=pW hno;unfold gT;rw [hno];simp only [cond_false];obtain ⟨tm,tmin⟩:=w9 hv hg;have hnv:=fp hv;have hnf:=iY hfr;have hln:=fun f=>BF f hd;generalize hN:bn (cont (qs.getD i b9)) (qs.getD i b9)=nq at hnv hnf tm tmin hln ⊢;generalize hT:uL nq.Terms=t at tm tmin ⊢;have ht0:t.C≠0:=cD hnv t tm;have hn0q:ga f nq=0:=by
  have h1:=h.rw i (Nat.le_refl _);rw [hln f] at h1;rcases Int.mul_eq_zero.1 h1 with h2 | h2
  ·omega
  ·exact h2
 have hset:∀ g:aJ→Int,(∀ j,i≤j→ga g (qs.getD j b9)=0)→ga g nq=0→∀ j,i≤j→ga g ((qs.set i nq).getD j b9)=0:=fun g h1 h2 j hj=>by
  rw [Ge hi];by_cases ej:j=i
  ·rw [if_pos ej];exact h2
  ·rw [if_neg ej];exact h1 j hj
 have hq1:∀ q∈qs.set i nq,aA q=true:=fun q hq=>by
  rcases List.mem_or_eq_of_mem_set hq with hq | rfl
  ·exact (hS.qv q hq).1
  ·exact hnv
 have hb1:∀ b∈bs,aA b.Dim=true:=fun b hb=>(hS.bv b hb).1;cases hu:t.C==1||t.C == -1 with
 | true =>
  simp only [cond_true];have ht:t.C=1∨t.C = -1:=by simpa only [Bool.or_eq_true,beq_iff_eq] using hu
  refine ⟨fun e => ?_,fun m qs' bs' e=>⟨f,Fq hq1 hb1 (by simp;omega) ⟨h.ag,hset f h.rw hn0q,h.bd⟩ ?_ e⟩⟩
  ·unfold qV at e;cases hp:rW t.Var (Fh t nq) i (qs.set i nq) (bs.map (·.Dim)) with
   | true=>rw [hp] at e;cases e
   | false=>rw [hp] at e;cases e
  ·rw [EB f hnv tm,hn0q];rcases ht with ht | ht<;>rw [ht]<;>omega
 | false =>
  simp only [cond_false];cases hl:decide (n+1≥1000000000) with
  | true=>exact ⟨fun e=>(by cases e),fun m qs' bs' e=>by cases e⟩
  | false =>
   simp only [cond_false];refine ⟨fun e => ?_,fun m qs' bs' e => ?_⟩
   ·unfold qV at e;cases hp:rW t.Var (ym t n nq) i (qs.set i nq) (bs.map (·.Dim)) with
    | true=>rw [hp] at e;cases e
    | false=>rw [hp] at e;cases e
   ·have hcf:=KZ (t:=t) hS.n1 hS.n2 hnv hnf;have hnd:=KD (t:=t) hS.n1 hS.n2 hnv hnf;generalize hB:ym t n nq=B at hcf hnd e;have hfrn:=(mC hS.n1 hS.n2).2;refine ⟨upd f (eG n) (f (eG n)+(f t.Var-ga f B)),Fq hq1 hb1 (by simp;omega) ⟨fun v hv2 => ?_,hset _ (fun j hj => ?_) ?_,fun b hb => ?_⟩ ?_ e⟩
    ·rw [bS fun e=>by rw [e,hfrn] at hv2;omega];exact h.ag v hv2
    ·by_cases hjl:j<qs.length
     ·have hq:=hS.qv _ (ba b9 hjl);rw [qo _ _ _ (du hq.1),GX hS.n1 hS.n2 hq.2,Int.zero_mul,Int.add_zero];exact h.rw j hj
     ·rw [pZ (by omega)];exact A0 _
    ·rw [qo _ _ _ (du hnv),GX hS.n1 hS.n2 hnf,Int.zero_mul,Int.add_zero];exact hn0q
    ·have hbv:=hS.bv b hb;rw [bS fun e=>by have:=hbv.2.2.2;rw [e,hfrn] at this;omega,qo _ _ _ (du hbv.1),GX hS.n1 hS.n2 hbv.2.1,Int.zero_mul,Int.add_zero];exact h.bd b hb
    ·rw [qo _ _ _ hnd,hcf];have htf:fX t.Var<n:=hnf t tm;rw [bS fun e=>by rw [e,hfrn] at htf;omega];omega
theorem Ad {f0:aJ→Int} {n0 i:Nat}:∀ (N n:Nat) (qs:List Linear) (bs:List Bind) (f:aJ→Int),jx n qs bs→n0≤n→i<qs.length→G2 f0 f n0 i qs bs →
 kx N i n qs bs≠some .no∧∀ (m:Nat) (qs':List Linear) (bs':List Bind),kx N i n qs bs=some (.ok m qs' bs')→n0≤m∧∃ f',G2 f0 f' n0 i qs' bs'
 | 0,n,qs,bs,f,hS,hn,hi,h=>⟨fun e=>(by cases e),fun m qs' bs' e=>by cases e⟩
 | N+1,n,qs,bs,f,hS,hn,hi,h=>by
  simp only [kx];cases hz:eD (qs.getD i b9) with
  | true =>
   refine ⟨fun e=>(by cases e),fun m qs' bs' e => ?_⟩;injection e with e
   injection e with e1 e2 e3
   subst e1;subst e2;subst e3;exact ⟨hn,f,h⟩
  | false =>
   simp only [cond_false];obtain ⟨a,b⟩:=HM hS hn hi hz h;cases hs:gT i n qs bs with
   | no=>exact absurd hs a
   | lim=>exact ⟨fun e=>(by cases e),fun m qs' bs' e=>by cases e⟩
   | ok m1 qs1 bs1 =>
    simp only;obtain ⟨a1,a2,a3,a4⟩:=pQ hS hi hs;obtain ⟨f',h'⟩:=b m1 qs1 bs1 hs;exact Ad N m1 qs1 bs1 f' a1 (by rcases a4 with ⟨e,_⟩ | ⟨e,_⟩<;>omega) (by omega) h'
theorem E6 {f0:aJ→Int} {n0 L:Nat}:∀ (k i n:Nat) (qs:List Linear) (bs:List Bind) (f:aJ→Int),i+k=L→qs.length=L→jx n qs bs→n0≤n→G2 f0 f n0 i qs bs →
 pH k i n qs bs≠some .no∧∀ (m:Nat) (qs':List Linear) (bs':List Bind),pH k i n qs bs=some (.ok m qs' bs')→n0≤m∧∃ f',G2 f0 f' n0 L qs' bs'
 | 0,i,n,qs,bs,f,hk,hl,hS,hn,h=>by
  refine ⟨fun e=>(by cases e),fun m qs' bs' e => ?_⟩;simp only [pH] at e;injection e with e
  injection e with e1 e2 e3
  subst e1;subst e2;subst e3;exact ⟨hn,f,h.ag,fun j hj=>h.rw j (by omega),h.bd⟩
 | k+1,i,n,qs,bs,f,hk,hl,hS,hn,h=>by
  simp only [pH];obtain ⟨a,b⟩:=Ad 4294967296 n qs bs f hS hn (by omega) h;cases hr:kx 4294967296 i n qs bs with
  | none=>exact ⟨fun e=>(by cases e),fun m qs' bs' e=>by cases e⟩
  | some r =>
   cases r with
   | no=>exact absurd hr a
   | lim=>exact ⟨fun e=>(by cases e),fun m qs' bs' e=>by cases e⟩
   | ok m1 qs1 bs1 =>
    simp only;obtain ⟨c,f',h'⟩:=b m1 qs1 bs1 hr;obtain ⟨a1,a2,_,_,_⟩:=sy 4294967296 i n bs.length qs bs hS (by omega) (.inl (by omega)) m1 qs1 bs1 hr;exact E6 k (i+1) m1 qs1 bs1 f' (by omega) (by omega) a1 c ⟨h'.ag,fun j hj=>h'.rw j (by omega),h'.bd⟩
theorem FB {l:List Linear} {n:Nat} {f:aJ→Int} (hS:jx n l []) (h:∀ q∈l,ga f q=0) :
 (kK l n).2≠9∧∀ m qs bs,pH l.length 0 n l []=some (.ok m qs bs)→∃ f',(∀ v,fX v<n→f' v=f v)∧∀ b∈bs,f' b.Var=ga f' b.Dim:=by
 have h0:G2 f f n 0 l []:=⟨fun _ _=>rfl,fun j _=>by
  by_cases hj:j<l.length
  ·exact h _ (ba b9 hj)
  ·rw [pZ (by omega)];exact A0 f,fun b hb=>by simp at hb⟩
 obtain ⟨a,b⟩:=E6 (L:=l.length) l.length 0 n l [] f (by omega) rfl hS (Nat.le_refl _) h0;constructor
 ·unfold kK;cases hr:pH l.length 0 n l [] with
  | none=>exact show (3:Int)≠9 by decide
  | some r =>
   cases r with
   | no=>exact absurd hr a
   | lim=>exact show (3:Int)≠9 by decide
   | ok m qs bs=>exact show (0:Int)≠9 by decide
 ·intro m qs bs e;obtain ⟨_,f',h'⟩:=b m qs bs e;exact ⟨f',h'.ag,h'.bd⟩
theorem zn {r:aJ} (h:db (95::r)=true):r≠[]∧r.all cq=true∧r.length≤9∧r.head? ≠ some 48∧fX (95::r)=(kh 0 r:Int):=by
 simp only [db] at h;have h:(decide (1≤r.length)&&(decide (r.length≤9)&&(!(r.getD 0 0==48)&&r.all cq)))=true:=h;simp only [MG,decide_eq_true_eq,Bool.not_eq_true'] at h;have hne:r≠[]:=by intro e;rw [e] at h;simp at h
 obtain ⟨a,b⟩:=ub hne h.2.2.2 h.2.1;refine ⟨hne,h.2.2.2,h.2.1,fun e => ?_,?_⟩
 ·cases r with
  | nil=>exact hne rfl
  | cons x r =>
   simp only [List.head?_cons,MO] at e;subst e;have:=h.2.2.1;simp at this
 ·show (oy r).1=_;unfold oy;rw [a]
theorem Fw {c:UInt8} {r:aJ} (h:(c==95)=false):fX (c::r)=0:=by unfold fX;simp only;rw [h];rfl
theorem I2 {v w:aJ} (hv:db v=true) (hw:db w=true) (h:fX v=fX w) (h0:fX v≠0):v=w:=by
 have key:∀ {v:aJ},db v=true→fX v≠0→v=95::dec (fX v).toNat:=fun {v} hv h0=>by
  cases v with
  | nil=>cases hv
  | cons c r =>
   cases hc:c==95 with
   | false=>exact absurd (Fw hc) h0
   | true =>
    have:c=95:=by simpa using hc
    subst this;obtain ⟨a1,a2,a3,a4,a5⟩:=zn hv;rw [a5,Int.toNat_natCast];show _=95::Lib.decDigits _;rw [(EF r a2 a1 a4).2]
 rw [key hv h0,key hw (by rw [← h];exact h0),h]
theorem nR {v:aJ} (h:db v=true):dh v=some (fX v):=by
 unfold dh;rw [oN,h];simp only [Option.bind_some,cond_true];cases v with
 | nil=>cases h
 | cons c r =>
  rw [aD (by simp)];have e95:((((c::r).getD 0 0).toNat:Int)==95)=(c==95):=by rw [List.getD_cons_zero];exact DQ c 95 95 rfl
  rw [e95];cases hc:c==95 with
  | false=>rw [Fw hc];rfl
  | true =>
   have:c=95:=by simpa using hc
   subst this;obtain ⟨a1,a2,a3,a4,a5⟩:=zn h;simp only [cond_true];have hl:=rC (ε:=Int) (ρ:=Empty) (f:=fun s=>s) (fin:=fun i0 s0=>s0) (0:UInt8) (95::r) (fun b s=>eR.go (aK (aK (10*s)+(((b-48)).toNat:Int)))) (fun _ _=>True)
    (body:=fun i0 s0=>some (.go (aK ((aK (10*s0))+((((95::r).getD i0 0-48)).toNat:Int))))) (fun _ _=>rfl) 1 0 trivial (fun j s _ _ _=>⟨rfl,fun _ _=>trivial⟩)
   refine (congrArg (fun o:Option (Out Int Empty)=>Option.bind o _) hl).trans ?_;rw [oI (fun (b:UInt8) (s:Int)=>aK (aK (10*s)+(((b-48)).toNat:Int)))];simp only [Option.bind_some,ca,List.drop_one,List.tail_cons];have:=Ci r 0 a2 (by
    have:10 ^ r.length≤10 ^ 9:=Nat.pow_le_pow_right (by decide) a3;omega)
   rw [a5];exact congrArg some this
def MB (s:Int×Int):Option (eR (Int×Int) Int Empty):=bif decide (s.2>0) then bf ((s.2:Int)≠0) <| some (.go (s.2,(s.1.tmod s.2))) else some (.brk s.1)
theorem DF:∀ (N m n:Nat),gn MB N ((m:Int),(n:Int))=gn gB N ((m:Int),(n:Int))
 | 0,m,n=>rfl
 | N+1,m,n=>by
  by_cases hn:n=0
  ·subst hn;rfl
  ·rw [A5 m n hn];have h1:decide ((n:Int)>0)=true:=ML (by omega);have h2:(n:Int)≠0:=by omega
   simp only [gn,MB,h1,cond_true];rw [aD h2,← Int.ofNat_tmod];exact DF N n (m % n)
theorem uK {l:Linear} (h:aA l=true):iQ l=some ((cont l:Nat):Int):=by
 unfold iQ;rw [dA l,h];simp only [Option.bind_some,cond_true];have hC:=bD h;have hz:=cD h;have hl:=de (ε:=Int) (ρ:=Empty) (f:=fun s=>s) (fin:=fun i0 s0=>s0) (⟨[],0⟩:au) l.Terms (fun t s=>eR.go ((Nat.gcd s.natAbs t.C.natAbs:Nat):Int)) (fun j s=>∃ n:Nat,s=(n:Int)∧n≤1000000)
  (body:=fun i0 s0=>((
   bif decide (((l.Terms.getD i0 ⟨[],0⟩).C)<0) then (
    some (aK (0-((l.Terms.getD i0 ⟨[],0⟩).C)))
   ) else (
    some ((l.Terms.getD i0 ⟨[],0⟩).C)
   )
   ):Option Int).bind fun v0 =>
   (gn (σ:=(Int×Int)) (ε:=Int) (ρ:=Empty) (fun s1 =>
    bif decide (s1.2>0) then (
     bf ((s1.2:Int)≠0) <|
     some (.go (s1.2,(s1.1.tmod s1.2)))
    ) else (
     some (.brk s1.1)
    )
   ) 4294967296 (s0,v0)).bind <| ca fun u0 =>
   some (.go u0)) (fun _ _=>rfl) 0 ⟨0,rfl,by omega⟩ (fun j s hj hI=>by
   obtain ⟨n,rfl,hn⟩:=hI;have hm:l.Terms.getD j ⟨[],0⟩∈l.Terms:=ba _ hj;have hc:=(hC _ hm).1;have h0:=hz _ hm;generalize l.Terms.getD j ⟨[],0⟩=t at hm hc h0 ⊢;have e:(bif decide (t.C<0) then some (aK (0-t.C)) else some t.C:Option Int)=some ((t.C.natAbs:Nat):Int):=by
    by_cases hneg:t.C<0
    ·rw [ML hneg,cond_true,aU (by omega) (by omega)];congr 1;omega
    ·rw [MK hneg,cond_false];congr 1;omega
   refine ⟨?_,fun s' hs' => ?_⟩
   ·rw [e];simp only [Option.bind_some];have:=xy 20 n t.C.natAbs 4294967296 (by omega) (by omega);rw [← DF] at this;refine (congrArg (fun o:Option (Out Int Empty)=>Option.bind o _) this).trans ?_;rfl
   ·injection hs' with hs'
    have h1:t.C.natAbs≠0:=by omega
    have h2:Nat.gcd n t.C.natAbs≤t.C.natAbs:=Nat.gcd_le_right _ (Nat.pos_of_ne_zero h1);exact ⟨_,hs'.symm,by simp only [Int.natAbs_natCast];omega⟩)
 refine (congrArg (fun o:Option (Out Int Empty)=>Option.bind o _) hl).trans ?_;have hf:∀ (ts:List au) (n:Nat),cL (σ:=Int) (ε:=Int) (ρ:=Empty) (fun t s=>eR.go ((Nat.gcd s.natAbs t.C.natAbs:Nat):Int)) (fun s=>s) ts (n:Int) = .brk ((uu ts n:Nat):Int):=by
  intro ts;induction ts with
  | nil=>intro n;rfl
  | cons t ts ih=>intro n;simp only [cL];rw [Int.natAbs_natCast,ih];rfl
 have:=hf l.Terms 0;rw [show ((0:Nat):Int)=0 from rfl] at this;rw [this];rfl
def Mh (t s:au):Bool:=decide ((t.C.natAbs:Int)<s.C.natAbs)||((t.C.natAbs:Int)==s.C.natAbs)&&(decide (fX t.Var>fX s.Var)||(fX t.Var==0&&fX s.Var==0))
theorem KL {t s:au} (ht:db t.Var=true) (hs:db s.Var=true) (hl:Op.bytesLess s.Var t.Var=true):Mh t s=decide (tH t s<0):=by
 unfold Mh tH;by_cases h1:(t.C.natAbs:Int)=s.C.natAbs
 ·have e1:((t.C.natAbs:Int)==s.C.natAbs)=true:=by rw [h1];exact beq_self_eq_true _
  rw [e1,MK (show ¬ (t.C.natAbs:Int)<s.C.natAbs by omega)];simp only [Bool.false_or,Bool.true_and,cond_true];by_cases h2:fX t.Var=fX s.Var
  ·have e2:(fX t.Var==fX s.Var)=true:=by rw [h2];exact beq_self_eq_true _
   rw [e2,cond_true,ML (uF.2 hl),MK (show ¬ fX t.Var>fX s.Var by omega)];by_cases h3:fX t.Var=0
   ·have:fX s.Var=0:=by omega
    rw [h3,this];rfl
   ·have:=I2 ht hs h2 h3;rw [this,fM] at hl;cases hl
  ·have e2:(fX t.Var==fX s.Var)=false:=by simpa using h2
   rw [e2,cond_false];have g1:=(uk ht).1;have g2:=(uk hs).1;by_cases h3:fX t.Var>fX s.Var
   ·rw [ML h3,ML (by omega)];rfl
   ·rw [MK h3,MK (by omega)];simp only [Bool.false_or,Bool.and_eq_false_imp,beq_iff_eq];intro h4;simp only [beq_eq_false_iff_ne];omega
 ·have e1:((t.C.natAbs:Int)==s.C.natAbs)=false:=by simpa using h1
  rw [e1,cond_false,Bool.false_and,Bool.or_false];rw [decide_eq_decide];omega
theorem wu {q:Linear} (h:aA q=true) (h0:q.Terms≠[]):kf q=some (uL q.Terms):=by
 unfold kf;have hlen:0<q.Terms.length:=List.length_pos_iff.2 h0;rw [aD hlen];have hC:=bD h;have hS:=iD h;have hl:=rC (ε:=(aJ×Int)) (ρ:=Empty) (f:=fun s=>(s.1,s.2)) (fin:=fun i0 s0=>(s0.1,s0.2)) (⟨[],0⟩:au) q.Terms (fun t s=>eR.go (bif decide (tH t (au.mk s.1 s.2)<0) then (t.Var,t.C) else s)) (fun j s=>∃ i,i<j∧i<q.Terms.length∧(q.Terms.getD i ⟨[],0⟩).Var=s.1∧(q.Terms.getD i ⟨[],0⟩).C=s.2)
  (body:=fun i0 s0 =>
  ((
   bif decide (((q.Terms.getD i0 ⟨[],0⟩).C)<0) then (
    some (aK (0-((q.Terms.getD i0 ⟨[],0⟩).C)))
   ) else (
    some ((q.Terms.getD i0 ⟨[],0⟩).C)
   )
  ):Option Int).bind fun v0 =>
  ((
   bif decide (s0.2<0) then (
    some (aK (0-s0.2))
   ) else (
    some s0.2
   )
  ):Option Int).bind fun v1 =>
  (dh ((q.Terms.getD i0 ⟨[],0⟩).Var)).bind fun y0 =>
  (dh s0.1).bind fun y1 =>
  ((
   bif decide (v0<v1) then (
    some true
   ) else (
    bif (v0==v1) then (
     bif decide (y0>y1) then (
      some true
     ) else (
      bif (y0==0) then (
       some (y1==0)
      ) else (
       some false
      )
     )
    ) else (
     some false
    )
   )
  ):Option Bool).bind fun v2 =>
  ((
   bif v2 then (
    some (((q.Terms.getD i0 ⟨[],0⟩).Var),((q.Terms.getD i0 ⟨[],0⟩).C))
   ) else (
    some (s0.1,s0.2)
   )
  ):Option (aJ×Int)).bind fun v3 =>
  some (.go (v3.1,v3.2))) (fun _ _=>rfl) 1 (((q.Terms.getD 0 ⟨[],0⟩).Var),((q.Terms.getD 0 ⟨[],0⟩).C)) ⟨0,by omega,hlen,rfl,rfl⟩ (fun j s hj1 hj hI=>by
   obtain ⟨s1,s2⟩:=s;obtain ⟨i,hij,hil,e1,e2⟩:=hI;have hm:q.Terms.getD j ⟨[],0⟩∈q.Terms:=ba _ hj;have hmi:q.Terms.getD i ⟨[],0⟩∈q.Terms:=ba _ hil;have hb:Op.bytesLess (q.Terms.getD i ⟨[],0⟩).Var (q.Terms.getD j ⟨[],0⟩).Var=true:=by rw [getD_at _ hil,getD_at _ hj];exact List.pairwise_iff_getElem.1 hS i j hil hj hij
   obtain ⟨c1,n1⟩:=hC _ hm;obtain ⟨c2,n2⟩:=hC _ hmi;refine ⟨?_,fun s' hs' => ?_⟩
   ·generalize q.Terms.getD j ⟨[],0⟩=t at c1 n1 hb ⊢;generalize q.Terms.getD i ⟨[],0⟩=u at c2 n2 hb e1 e2 ⊢;simp only at e1 e2;subst e1;subst e2;have ab:∀ c:Int,-1000000≤c∧c≤1000000→(bif decide (c<0) then some (aK (0-c)) else some c:Option Int)=some ((c.natAbs:Nat):Int):=fun c hc=>by
     by_cases hneg:c<0
     ·rw [ML hneg,cond_true,aU (by omega) (by omega)];congr 1;omega
     ·rw [MK hneg,cond_false];congr 1;omega
    rw [ab _ c1,ab _ c2,nR n1,nR n2];simp only [Option.bind_some];have hk:=KL n1 n2 hb;show _=some (eR.go (bif decide (tH t u<0) then (t.Var,t.C) else (u.Var,u.C)));rw [← hk];unfold Mh;cases decide ((t.C.natAbs:Int)<u.C.natAbs) with
    | true=>rfl
    | false =>
     cases (t.C.natAbs:Int)==u.C.natAbs with
     | false=>rfl
     | true =>
      cases decide (fX t.Var>fX u.Var) with
      | true=>rfl
      | false =>
       cases fX t.Var==0 with
       | false=>rfl
       | true=>cases fX u.Var==0<;>rfl
   ·injection hs' with hs'
    subst hs';cases decide (tH (q.Terms.getD j ⟨[],0⟩) (au.mk s1 s2)<0) with
    | true=>exact ⟨j,by omega,hj,rfl,rfl⟩
    | false=>exact ⟨i,by omega,hil,e1,e2⟩)
 refine (congrArg (fun o:Option (Out (aJ×Int) Empty)=>Option.bind o _) hl).trans ?_;rw [oI (fun (t:au) (s:aJ×Int)=>bif decide (tH t (au.mk s.1 s.2)<0) then (t.Var,t.C) else s)];simp only [Option.bind_some,ca];unfold uL;have hf:∀ (ts:List au) (s:au),ts.foldl (fun (s:aJ×Int) t=>bif decide (tH t (au.mk s.1 s.2)<0) then (t.Var,t.C) else s) (s.Var,s.C)=((ts.foldl (fun s t=>bif decide (tH t s<0) then t else s) s).Var,(ts.foldl (fun s t=>bif decide (tH t s<0) then t else s) s).C):=by
  intro ts;induction ts with
  | nil=>intro s;rfl
  | cons t ts ih =>
   intro s;simp only [List.foldl_cons];show ts.foldl _ (bif decide (tH t s<0) then (t.Var,t.C) else (s.Var,s.C))=_;cases decide (tH t s<0) with
   | true=>exact ih t
   | false=>exact ih s
 have:=hf (q.Terms.drop 1) (q.Terms.getD 0 ⟨[],0⟩);rw [this]
theorem gg {α:Type} {c:Bool} {a b:Option α} (ha:∃ r,a=some r) (hb:∃ r,b=some r):∃ r,(bif c then a else b)=some r:=by
 cases c
 ·exact hb
 ·exact ha
theorem EY {α β:Type} {a:Option α} {k:α→Option β} (ha:∃ r,a=some r) (hk:∀ r,∃ s,k r=some s):∃ s,a.bind k=some s:=by obtain ⟨r,rfl⟩:=ha;exact hk r
theorem zf (a b:Int):∃ r,qc a b=some r:=by
 unfold qc;rw [dm,dm];simp only [Option.bind_some];refine gg (gg (EY (gg (gg ⟨_,rfl⟩ (gg (gg ⟨_,rfl⟩ ⟨_,rfl⟩) ⟨_,rfl⟩)) (gg (gg ⟨_,rfl⟩ ⟨_,rfl⟩) ⟨_,rfl⟩)) fun r => ?_) ⟨_,rfl⟩) ⟨_,rfl⟩;cases r with
 | brk u=>exact ⟨_,rfl⟩
 | ret r=>exact ⟨_,rfl⟩
theorem ze (a b:Int):∃ r,my a b=some r:=by unfold my;rw [dm,dm];simp only [Option.bind_some];exact gg (gg (EY (zf _ _) fun r=>⟨_,rfl⟩) ⟨_,rfl⟩) ⟨_,rfl⟩
theorem iE {a:Int} (h:kj a=true):gG a=some (a.natAbs:Int):=by
 rw [jh] at h;unfold gG;by_cases h0:a<0
 ·rw [ML h0,cond_true,aU (by omega) (by omega)];congr 1;omega
 ·rw [MK h0,cond_false];congr 1;omega
theorem iC (a b:Int):∃ r,dZ a b=some r∧(r.2=0→a≠0→b≠0→r.1≠0):=by
 unfold dZ;rw [dm,dm];simp only [Option.bind_some];cases ha:kj a with
 | false=>exact ⟨_,rfl,fun h=>absurd (show (2:Int)=0 from h) (by decide)⟩
 | true =>
  cases hb:kj b with
  | false=>exact ⟨_,rfl,fun h=>absurd (show (2:Int)=0 from h) (by decide)⟩
  | true =>
   simp only [cond_true];cases h1:a==0 with
   | true=>exact ⟨_,rfl,fun _ h=>absurd (by simpa using h1) h⟩
   | false =>
    cases h2:b==0 with
    | true=>exact ⟨_,rfl,fun _ _ h=>absurd (by simpa using h2) h⟩
    | false =>
     simp only [cond_false];rw [iE ha,iE hb];simp only [Option.bind_some];have hb0:b≠0:=by simpa using h2
     have ha0:a≠0:=by simpa using h1
     have hbn:0<b.natAbs:=by omega
     rw [aD (by omega)];have e1:aK ((4611686018427387904:Int).tdiv (b.natAbs:Int))=((4611686018427387904 / b.natAbs:Nat):Int):=by
      have:(4611686018427387904:Int).tdiv (b.natAbs:Int)=((4611686018427387904 / b.natAbs:Nat):Int):=by rw [show (4611686018427387904:Int)=((4611686018427387904:Nat):Int) from rfl,← Int.ofNat_tdiv]
      rw [this];have:=Nat.div_le_self 4611686018427387904 b.natAbs;generalize 4611686018427387904 / b.natAbs=z at this ⊢;exact aU (by omega) (by omega)
     rw [e1];by_cases h3:(a.natAbs:Int)>((4611686018427387904 / b.natAbs:Nat):Int)
     ·rw [ML h3];exact ⟨_,rfl,fun h=>absurd (show (2:Int)=0 from h) (by decide)⟩
     ·rw [MK h3];refine ⟨_,rfl,fun _ _ _ => ?_⟩;have h4:a.natAbs*b.natAbs≤4611686018427387904:=(Nat.le_div_iff_mul_le hbn).1 (by omega);rw [← Int.natAbs_mul] at h4;show aK (a*b)≠0;rw [aU (by omega) (by omega)];exact Int.mul_ne_zero ha0 hb0
theorem AB {a b:Int} (ha:kj a=true) (hb:kj b=true):pY a b=some (((Nat.gcd a.natAbs b.natAbs:Nat):Int),0):=by unfold pY;rw [dm,dm,ha,hb];simp only [Option.bind_some,cond_true];rw [iE ha,iE hb];simp only [Option.bind_some];have h:=xy 63 a.natAbs b.natAbs 4294967296 (by have:=(jf hb).2;omega) (by omega);rw [← DF] at h;refine (congrArg (fun o:Option (Out Int Empty)=>Option.bind o _) h).trans ?_;rfl
theorem Ar (a b:Int):∃ r,pT a b=some r∧(r.2=0→a≠0→b≠0→r.1≠0):=by
 unfold pT;rw [dm,dm];simp only [Option.bind_some];cases ha:kj a with
 | false=>exact ⟨_,rfl,fun h=>absurd (show (2:Int)=0 from h) (by decide)⟩
 | true =>
  cases hb:kj b with
  | false=>exact ⟨_,rfl,fun h=>absurd (show (2:Int)=0 from h) (by decide)⟩
  | true =>
   simp only [cond_true];cases h1:a==0 with
   | true=>exact ⟨_,rfl,fun _ h=>absurd (by simpa using h1) h⟩
   | false =>
    cases h2:b==0 with
    | true=>exact ⟨_,rfl,fun _ _ h=>absurd (by simpa using h2) h⟩
    | false =>
     simp only [cond_false];have ha0:a≠0:=by simpa using h1
     have hb0:b≠0:=by simpa using h2
     have hg:Nat.gcd a.natAbs b.natAbs≠0:=Nat.gcd_ne_zero_left (by omega);rw [AB ha hb,iE ha];simp only [Option.bind_some];rw [aD (by omega),iE hb];simp only [Option.bind_some];have hw:aK ((a.natAbs:Int).tdiv ((Nat.gcd a.natAbs b.natAbs:Nat):Int))=((a.natAbs / Nat.gcd a.natAbs b.natAbs:Nat):Int):=by rw [← Int.ofNat_tdiv];have h1:=Nat.div_le_self a.natAbs (Nat.gcd a.natAbs b.natAbs);have h2:=(jf ha).2;generalize a.natAbs / Nat.gcd a.natAbs b.natAbs=z at h1 ⊢;exact aU (by omega) (by omega)
     rw [hw];obtain ⟨r,e,h⟩:=iC ((a.natAbs / Nat.gcd a.natAbs b.natAbs:Nat):Int) (b.natAbs:Int);rw [e];refine ⟨_,rfl,fun h0 _ _=>h h0 ?_ (by omega)⟩;have hgl:Nat.gcd a.natAbs b.natAbs≤a.natAbs:=Nat.gcd_le_left _ (by omega);have:=Nat.div_pos hgl (Nat.pos_of_ne_zero hg);omega
abbrev Rf:=ak
abbrev ky:Rf:=⟨⟨0,[]⟩,[],0,false⟩
structure okF (L:Nat) (r:Rf):Prop where
 ok:r.big=true∨(r.scale≠0∧r.mults.length=L)
theorem yS {L:Nat} (hL:L≤6000) {a b:Rf} (ha:okF L a) (hb:okF L b) (k:Int):∃ r,kW a b k=some r∧r.q=a.q∧okF L r:=by
 unfold kW;obtain ⟨s,e,hs⟩:=Ar a.scale b.scale;rw [e];have hv:(bif a.big then some true else some b.big:Option Bool)=some (a.big||b.big):=by cases a.big<;>rfl
 rw [hv];simp only [Option.bind_some];cases h0:s.2==0 with
 | false=>exact ⟨_,rfl,rfl,⟨.inl rfl⟩⟩
 | true =>
  simp only [cond_true];cases h1:decide (s.1>1099511627776) with
  | true=>exact ⟨_,rfl,rfl,⟨.inl rfl⟩⟩
  | false =>
   simp only [cond_false];have key:∀ (body:Nat→List Int×Bool→Option (eR (List Int×Bool) (List Int×Bool) Empty)) (N:Nat),
    (∀ i st,i<N→st.2=true→body i st=some (.brk (st.1,st.2))) →
    (∀ i st,i<N→st.2=false→st.1.length=i→∃ v,body i st=some (.go v)∧v.1.length=i+1) →
    ∀ (k i:Nat) (st:List Int×Bool),i+k=N→(st.2=true∨st.1.length=i)→∃ u,dn body (fun i0 s0=>(s0.1,s0.2)) k i st=some (.brk u)∧(u.2=true∨u.1.length=N):=by
    intro body N hbrk hgo k;induction k with
    | zero =>
     intro i st hk hst;refine ⟨(st.1,st.2),rfl,?_⟩;rcases hst with h | h
     ·exact .inl h
     ·exact .inr (by show st.1.length=N;omega)
    | succ k ih =>
     intro i st hk hst;simp only [dn];cases hb:st.2 with
     | true =>
      rw [hbrk i st (by omega) hb];exact ⟨(st.1,st.2),rfl,.inl hb⟩
     | false =>
      rw [hb] at hst;obtain ⟨v,e,hv⟩:=hgo i st (by omega) hb (hst.resolve_left (by decide));rw [e];simp only [Option.bind_some,tN];exact ih (i+1) v (by omega) (.inr hv)
   cases hbig:a.big||b.big with
   | true =>
    have h:=key (fun i0 s0 =>
     bif s0.2 then (
      some (.brk (s0.1,s0.2))
     ) else none) a.mults.length (fun i st _ h=>by simp only [h,cond_true])
    clear h;cases hl:a.mults.length with
    | zero =>
     exact ⟨_,rfl,rfl,⟨.inl rfl⟩⟩
    | succ n =>
     refine ⟨ak.mk a.q [] s.1 true,?_,rfl,⟨.inl rfl⟩⟩;rfl
   | false =>
    simp only [Bool.or_eq_false_iff] at hbig;obtain ⟨a1,a2⟩:=ha.ok.resolve_left (by rw [hbig.1];decide);obtain ⟨b1,b2⟩:=hb.ok.resolve_left (by rw [hbig.2];decide);obtain ⟨u,e2,hu⟩:=key (fun i0 s0 =>
    bif s0.2 then (
     some (.brk (s0.1,s0.2))
    ) else (
     bf ((a.scale:Int)≠0) <|
     (dZ (a.mults.getD i0 0) (aK (s.1.tdiv a.scale))).bind fun y1 =>
     bf (i0<b.mults.length) <|
     bf ((b.scale:Int)≠0) <|
     (dZ (b.mults.getD i0 0) (aK (s.1.tdiv b.scale))).bind fun y2 =>
     (dZ y2.1 k).bind fun y3 =>
     (my y1.1 y3.1).bind fun y4 =>
     ((
      bif (y1.2==0) then (
       bif (y2.2==0) then (
        bif (y3.2==0) then (
         bif (y4.2==0) then (
          bif decide (y4.1>1099511627776) then (
           some true
          ) else (
           some (decide (y4.1<(-1099511627776)))
          )
         ) else (
          some true
         )
        ) else (
         some true
        )
       ) else (
        some true
       )
      ) else (
       some true
      )
     ):Option Bool).bind fun v1 =>
     bf ((s0.1.length+1)*8≤140737488355328) <|
     some (.go ((s0.1++[y4.1]),v1))
    )) a.mults.length (fun i st _ h=>by simp only [h,cond_true]) (fun i st hi h hl=>by
     simp only [h,cond_false];obtain ⟨y1,e1,_⟩:=iC (a.mults.getD i 0) (aK (s.1.tdiv a.scale));obtain ⟨y2,e2,_⟩:=iC (b.mults.getD i 0) (aK (s.1.tdiv b.scale));obtain ⟨y3,e3,_⟩:=iC y2.1 k;obtain ⟨y4,e4⟩:=ze y1.1 y3.1;rw [aD a1,e1];simp only [Option.bind_some];rw [aD (by omega),aD b1,e2];simp only [Option.bind_some];rw [e3];simp only [Option.bind_some];rw [e4];simp only [Option.bind_some];obtain ⟨v,ev⟩:∃ v,(bif (y1.2==0) then (
      bif (y2.2==0) then (
       bif (y3.2==0) then (
        bif (y4.2==0) then (
         bif decide (y4.1>1099511627776) then (
          some true
         ) else (
          some (decide (y4.1<(-1099511627776)))
         )
        ) else (
         some true
        )
       ) else (
        some true
       )
      ) else (
       some true
      )
      ) else (
       some true
      ):Option Bool)=some v:=gg (gg (gg (gg (gg ⟨_,rfl⟩ ⟨_,rfl⟩) ⟨_,rfl⟩) ⟨_,rfl⟩) ⟨_,rfl⟩) ⟨_,rfl⟩
     rw [ev];simp only [Option.bind_some];rw [aD (by omega)];exact ⟨_,rfl,by simp;omega⟩) a.mults.length 0 ([],false) (by omega) (.inr rfl)
    refine ⟨ak.mk a.q u.1 s.1 u.2,?_,rfl,⟨?_⟩⟩
    ·refine (congrArg (fun o:Option (Out (List Int×Bool) Empty)=>Option.bind o _) e2).trans ?_;rfl
    ·rcases hu with h | h
     ·exact .inl h
     ·exact .inr ⟨hs (by simpa using h0) a1 b1,by show u.1.length=L;omega⟩
theorem xe {α τ ρ:Type} (d:α) (ok:α→Bool) (g:α→α) (at_:Nat→τ) (P:ρ→Prop) {body:τ×List α→Option (eR (τ×List α) (List α) ρ)} (n:Nat) (I:α→Prop)
 (h1:∀ i (l:List α),l.length=n→i<n→I (l.getD i d)→ok (l.getD i d)=true→body (at_ i,l)=some (.go (at_ (i+1),l.set i (g (l.getD i d)))))
 (h2:∀ i (l:List α),l.length=n→i<n→I (l.getD i d)→ok (l.getD i d)=false→∃ r,body (at_ i,l)=some (.ret r)∧P r)
 (he:∀ l:List α,l.length=n→body (at_ n,l)=some (.brk l)):∀ (k i N:Nat) (l:List α),i+k=n→k<N→l.length=n→(∀ x∈l.drop i,I x) →
 gn body N (at_ i,l)=some (.brk (l.take i++(l.drop i).map g))∧(l.drop i).all ok=true∨(∃ r,gn body N (at_ i,l)=some (.ret r)∧P r)∧(l.drop i).all ok=false
 | 0,i,N,l,a1,a2,a3,_=>by
  obtain ⟨N,rfl⟩:∃ j,N=j+1:=⟨N-1,by omega⟩;have hi:i=n:=by omega
  subst hi;left;rw [List.drop_of_length_le (by omega),List.take_of_length_le (by omega)];simp only [gn];rw [he l a3];simp [tN]
 | k+1,i,N,l,a1,a2,a3,hI=>by
  obtain ⟨N,rfl⟩:∃ j,N=j+1:=⟨N-1,by omega⟩;have hil:i<l.length:=by omega
  have hdrop:l.drop i=l[i]::l.drop (i+1):=List.drop_eq_getElem_cons hil;have hg:l.getD i d=l[i]:=getD_at d hil;have hIi:I (l.getD i d):=by rw [hg];exact hI _ (by rw [hdrop];exact List.mem_cons_self ..)
  simp only [gn];cases ho:ok (l.getD i d) with
  | false =>
   obtain ⟨r,e,hp⟩:=h2 i l a3 (by omega) hIi ho;rw [e];exact .inr ⟨⟨r,rfl,hp⟩,by rw [hdrop,List.all_cons,← hg,ho];rfl⟩
  | true =>
   rw [h1 i l a3 (by omega) hIi ho];rw [hg] at ho ⊢;rw [hdrop];simp only [Option.bind_some,tN];have hd2:(l.set i (g l[i])).drop (i+1)=l.drop (i+1):=List.drop_set_of_lt (by omega);have ht2:(l.set i (g l[i])).take (i+1)=l.take i++[g l[i]]:=by rw [List.take_add_one,List.take_set_of_le (by omega)];simp [hil]
   have ih:=xe d ok g at_ P n I h1 h2 he k (i+1) N (l.set i (g l[i])) (by omega) (by omega) (by simpa using a3) (fun x hx=>by rw [hd2] at hx;exact hI x (by rw [hdrop];exact List.mem_cons_of_mem _ hx));rw [hd2,ht2] at ih;rcases ih with ⟨e1,e2⟩ | ⟨e1,e2⟩
   ·left;refine ⟨?_,by rw [List.all_cons,ho,e2];rfl⟩;rw [e1,List.map_cons,List.append_assoc];rfl
   ·right;exact ⟨e1,by rw [List.all_cons,ho,e2];rfl⟩
theorem Jc {bs:List Bind} {l:Linear} (hv:aA l=true) (hb:∀ b∈bs,aA b.Dim=true):(uB bs l).2=0∨(uB bs l).2=3:=by
 unfold uB;rw [hv,cond_true];cases h:cL (yL bs) (fun s=>s) l.Terms (l.Const,[]) with
 | ret r=>exact absurd h (xH hb _ _ _)
 | brk u =>
  simp only [Db];unfold pr;cases aA (Linear.mk u.1 ((kz (bI u.2)).map fun k=>au.mk k (bE 0 k u.2))) with
  | true=>exact .inl rfl
  | false=>exact .inr rfl
theorem Ah {x:aJ} {by_ q:Linear} (hb:aA by_=true) (hv:aA q=true):(((uB [one x by_] q).2==0)=iT x by_ q)∧(iT x by_ q=true→(uB [one x by_] q).1=tK x by_ q)∧((uB [one x by_] q).2=0∨(uB [one x by_] q).2=3):=by
 have h1:∀ b∈[one x by_],aA b.Dim=true:=fun b h=>by rw [List.mem_singleton.1 h];exact hb
 refine ⟨?_,fun h => ?_,Jc hv h1⟩;all_goals
  have key:cf q x=0→uB [one x by_] q=(q,0):=fun h0=>by
   have:=KR (bs:=[one x by_]) (n:=q.Const) (ts:=q.Terms) hv h1 (iD hv) (cD hv) fun f=>by rw [HC,qo f x _ (du hv),h0,Int.zero_mul,Int.add_zero];rfl
   rw [this];exact DW hv
 ·unfold iT;cases h0:cf q x==0 with
  | true=>rw [key (by simpa using h0)];rfl
  | false=>rfl
 ·unfold tK;cases h0:cf q x==0 with
  | true=>rw [key (by simpa using h0)];rfl
  | false=>rfl
def JX (x:aJ) (by_:Linear) (r:Rf):Rf:=ak.mk (tK x by_ r.q) r.mults r.scale r.big
theorem uw {x:aJ} {by_:Linear} {i L:Nat} {nx:Int} {rows:List Rf} {bs ds:List Bind} (hi:i≤rows.length) (hl1:rows.length≤6000) (hl2:bs.length≤2000000000) (hq:∀ r∈rows,aA r.q=true) (hb:∀ b∈bs,aA b.Dim=true) (hF:∀ r∈rows,okF L r) (m:Nat) :
 (qV x by_ i m (rows.map (·.q)) bs = .lim∧∃ r' b',dq x by_ (i:Int) nx rows bs ds=some (3,r',b')) ∨
 ∃ rows' bs',qV x by_ i m (rows.map (·.q)) bs = .ok m (rows'.map (·.q)) bs'∧dq x by_ (i:Int) nx rows bs ds=some (0,rows',bs')∧rows'.length=rows.length∧∀ r∈rows',okF L r:=by
 unfold dq qV rW;rw [dA];simp only [Option.bind_some];cases hv:aA by_ with
 | false=>exact .inl ⟨rfl,_,_,rfl⟩
 | true =>
  simp only [cond_true,Bool.true_and];have w1:=xe (ρ:=Int×List Rf×List Bind) wv (fun b:Bind=>iT x by_ b.Dim) (jO x by_) (fun j:Nat=>j) (fun r=>r.1=3)
   (body:=fun s0 =>
   bif decide (((s0.1:Nat):Int)<((s0.2.length:Nat):Int)) then (
    (fZ (Linear.mk (((s0.2.getD s0.1 (⟨0,[],⟨0,[]⟩,⟨[],[]⟩,[]⟩)).Dim).Const) (((s0.2.getD s0.1 (⟨0,[],⟨0,[]⟩,⟨[],[]⟩,[]⟩)).Dim).Terms)) [(Bind.mk 1 x by_ (Shape.mk [] []) [])]).bind fun y1 =>
    bif (y1.2==0) then (
     some (.go ((s0.1+1),(s0.2.set s0.1 (Bind.mk ((s0.2.getD s0.1 (⟨0,[],⟨0,[]⟩,⟨[],[]⟩,[]⟩)).Kind) ((s0.2.getD s0.1 (⟨0,[],⟨0,[]⟩,⟨[],[]⟩,[]⟩)).Var) y1.1 (Shape.mk (((s0.2.getD s0.1 (⟨0,[],⟨0,[]⟩,⟨[],[]⟩,[]⟩)).Row).Row) (((s0.2.getD s0.1 (⟨0,[],⟨0,[]⟩,⟨[],[]⟩,[]⟩)).Row).Dims)) ((s0.2.getD s0.1 (⟨0,[],⟨0,[]⟩,⟨[],[]⟩,[]⟩)).Elem)))))
    ) else (
     some (.ret (y1.2,rows,s0.2))
    )
   ) else (
    some (.brk s0.2)
   )) bs.length (fun b=>aA b.Dim=true) (fun j l hl hj hI ho=>by
    simp only;rw [ML (by omega),cond_true,lJ,ka];obtain ⟨a1,a2,_⟩:=Ah (x:=x) hv hI;rw [show [Bind.mk 1 x by_ (Shape.mk [] []) []]=[one x by_] from rfl];simp only [Option.bind_some];rw [a1,ho,a2 ho];rfl) (fun j l hl hj hI ho=>by
    simp only;rw [ML (by omega),cond_true,lJ,ka];obtain ⟨a1,_,a3⟩:=Ah (x:=x) hv hI;rw [show [Bind.mk 1 x by_ (Shape.mk [] []) []]=[one x by_] from rfl];simp only [Option.bind_some];rw [a1,ho];refine ⟨_,rfl,a3.resolve_left fun h => ?_⟩;rw [ho,h] at a1;cases a1) (fun l hl=>by
    simp only;rw [MK (by omega)];rfl) bs.length 0 4294967296 bs (by omega) (by omega) rfl (fun b hb2=>hb b hb2)
  rw [List.drop_zero,List.take_zero,List.nil_append] at w1;have ea:((bs.map (·.Dim)).all (iT x by_))=bs.all fun b=>iT x by_ b.Dim:=by rw [List.all_map];rfl
  have er:(((rows.map (·.q)).drop i).all (iT x by_))=(rows.drop i).all fun r=>iT x by_ r.q:=by rw [← List.map_drop,List.all_map];rfl
  rw [ea,er];rcases w1 with ⟨e1,o1⟩ | ⟨⟨r,e1,p1⟩,o1⟩
  ·rw [o1];simp only [Bool.true_and];have w2:=xe (ρ:=Int×List Rf×List Bind) ky (fun r:Rf=>iT x by_ r.q) (JX x by_) (fun j:Nat=>(j:Int)) (fun r=>r.1=3)
    (body:=fun s1 =>
   bif decide (s1.1<((s1.2.length:Nat):Int)) then (
    bf (0≤s1.1∧s1.1<(s1.2.length:Int)) <|
    bf (s1.1.toNat<s1.2.length) <|
    (fZ (Linear.mk (((s1.2.getD s1.1.toNat (⟨⟨0,[]⟩,[],0,false⟩)).q).Const) (((s1.2.getD s1.1.toNat (⟨⟨0,[]⟩,[],0,false⟩)).q).Terms)) [(Bind.mk 1 x by_ (Shape.mk [] []) [])]).bind fun y2 =>
    bif (y2.2==0) then (
     some (.go ((aK (s1.1+1)),(s1.2.set s1.1.toNat (ak.mk y2.1 ((s1.2.getD s1.1.toNat (⟨⟨0,[]⟩,[],0,false⟩)).mults) ((s1.2.getD s1.1.toNat (⟨⟨0,[]⟩,[],0,false⟩)).scale) ((s1.2.getD s1.1.toNat (⟨⟨0,[]⟩,[],0,false⟩)).big)))))
    ) else (
     some (.ret (y2.2,s1.2,bs.map (jO x by_)))
    )
   ) else (
    some (.brk s1.2)
   )) rows.length (fun r=>aA r.q=true) (fun j l hl hj hI ho=>by
    simp only;rw [ML (by omega),cond_true,aD ⟨by omega,by omega⟩,Int.toNat_natCast,aD (by omega),lJ,ka];obtain ⟨a1,a2,_⟩:=Ah (x:=x) hv hI;rw [show [Bind.mk 1 x by_ (Shape.mk [] []) []]=[one x by_] from rfl];simp only [Option.bind_some];rw [a1,ho,a2 ho,aU (by omega) (by omega)];rfl) (fun j l hl hj hI ho=>by
    simp only;rw [ML (by omega),cond_true,aD ⟨by omega,by omega⟩,Int.toNat_natCast,aD (by omega),lJ,ka];obtain ⟨a1,_,a3⟩:=Ah (x:=x) hv hI;rw [show [Bind.mk 1 x by_ (Shape.mk [] []) []]=[one x by_] from rfl];simp only [Option.bind_some];rw [a1,ho];refine ⟨_,rfl,a3.resolve_left fun h => ?_⟩;rw [ho,h] at a1;cases a1) (fun l hl=>by
    simp only;rw [MK (by omega)];rfl) (rows.length-i) i 4294967296 rows (by omega) (by omega) rfl (fun r hr=>hq r (List.mem_of_mem_drop hr))
   rcases w2 with ⟨e2,o2⟩ | ⟨⟨r,e2,p2⟩,o2⟩
   ·rw [o2];right;refine ⟨rows.take i++(rows.drop i).map (JX x by_),bs.map (jO x by_)++[one x by_],?_,?_,by simp;omega,fun r hr => ?_⟩
    ·simp only [cond_true];rw [List.map_append,List.map_map,← List.map_take,← List.map_drop,List.map_map];rfl
    ·refine (congrArg (fun o:Option (Out (List Bind) (Int×List Rf×List Bind))=>Option.bind o _) e1).trans ?_;simp only [Option.bind_some,Sh.aft];refine (congrArg (fun o:Option (Out (List Rf) (Int×List Rf×List Bind))=>Option.bind o _) e2).trans ?_;simp only [Option.bind_some,Sh.aft];rw [aD (by simp;omega)];rfl
    ·rcases List.mem_append.1 hr with hr | hr
     ·exact hF r (List.mem_of_mem_take hr)
     ·obtain ⟨r0,hr0,rfl⟩:=List.mem_map.1 hr;exact ⟨(hF r0 (List.mem_of_mem_drop hr0)).ok⟩
   ·rw [o2];left;refine ⟨rfl,r.2.1,r.2.2,?_⟩;refine (congrArg (fun o:Option (Out (List Bind) (Int×List Rf×List Bind))=>Option.bind o _) e1).trans ?_;simp only [Option.bind_some,Sh.aft];refine (congrArg (fun o:Option (Out (List Rf) (Int×List Rf×List Bind))=>Option.bind o _) e2).trans ?_;simp only [Option.bind_some,Sh.aft];rw [← p2]
  ·rw [o1];left;refine ⟨rfl,r.2.1,r.2.2,?_⟩;refine (congrArg (fun o:Option (Out (List Bind) (Int×List Rf×List Bind))=>Option.bind o _) e1).trans ?_;simp only [Option.bind_some,Sh.aft];rw [← p1]
theorem DC (f:aJ→Int) {a b:List au} (h:a.Perm b):bA f a=bA f b:=by
 induction h with
 | nil=>rfl
 | cons x _ ih=>simp only [bA];rw [ih]
 | swap x y l=>simp only [bA];omega
 | trans _ _ h1 h2=>exact h1.trans h2
theorem pV {q:Linear} (h:aA q=true) : -1000000≤q.Const∧q.Const≤1000000:=by unfold aA at h;simp only [MG] at h;have:=h.2.1;unfold Cm at this;simp only [MG,decide_eq_true_eq] at this;omega
theorem Mo {t:au} {q:Linear} (hv:aA q=true) (hm:t∈q.Terms) (ht:t.C=1∨t.C = -1):cW (Linear.mk 0 [au.mk t.Var 1]) q (aK (0-t.C))=some (Fh t q):=by
 have hk:aK (0-t.C) = -t.C:=by rcases ht with h | h<;>rw [h]<;>rfl
 rw [hk,mM _ _ _ (by simp) (by have:=bc hv;omega)];have hC:=bD hv;have hl:=bc hv;obtain ⟨r1,r2⟩:=yu (-t.C) (by omega) q.Terms [au.mk t.Var 1] 1 1 (fun u hu=>(hC u hu).1) ⟨List.pairwise_singleton _ _,(fun u hu=>by rw [List.mem_singleton.1 hu];show (1:Int)≠0;omega),(fun u hu=>by rw [List.mem_singleton.1 hu];show -1≤(1:Int)∧(1:Int)≤1;omega),by simp⟩ (by omega) (by omega);unfold lU Fh;simp only;have hc:=pV hv;have e1:aK (0+aK (-t.C*q.Const)) = -t.C*q.Const:=by
  have : -1000000 ≤ -t.C*q.Const ∧ -t.C*q.Const≤1000000:=by rcases ht with h | h<;>rw [h]<;>omega
  rw [aU (n := -t.C*q.Const) (by omega) (by omega),Int.zero_add,aU (by omega) (by omega)]
 rw [e1];refine congrArg (fun x=>some (Linear.mk (-t.C*q.Const) x)) (pU _ _ r1.srt r1.nz ?_ ?_ fun f => ?_)
 ·unfold Ap;rw [List.pairwise_map];exact (iD hv).filter _
 ·intro u hu;obtain ⟨w,hw,rfl⟩:=List.mem_map.1 hu;have:=cD hv w (List.mem_filter.1 hw).1;exact Int.mul_ne_zero (by omega) this
 ·rw [r2 f,uX f t.Var (-t.C) (du hv),lS (du hv) hm];simp only [bA];rcases ht with h | h<;>rw [h]<;>omega
theorem qi {n d:Int} (hd:d≠0) (hn : -1000000≤n∧n≤1000000) (hdb : -1000000≤d∧d≤1000000):dN n d=some (dB n d,0):=by
 have hb:=wG hd hn;unfold dN dB at *;rw [dm,dm,jh.2 (by omega),jh.2 (by omega)];simp only [Option.bind_some,cond_true];have e0:(d==0)=false:=by simpa using hd
 rw [e0,cond_false,aD hd];cases h:n.tmod d==0 with
 | true =>
  rw [h] at hb;simp only [Bool.true_or,cond_true,Option.bind_some,cond_false] at hb ⊢;rw [aU (by omega) (by omega)]
 | false =>
  have h0:n.tmod d≠0:=by simpa using h
  have hs:decide (n.tmod d<0)=decide (n<0):=by
   rw [decide_eq_decide];constructor
   ·intro h1;by_cases h2:n<0
    ·exact h2
    ·have:=Int.tmod_nonneg d (show 0≤n by omega);omega
   ·intro h1;have h2:=Int.tmod_nonneg d (show 0 ≤ -n by omega);rw [Int.neg_tmod] at h2;omega
  rw [h,hs] at hb;rw [hs];simp only [Bool.false_or,cond_false,Option.bind_some] at hb ⊢;cases h2:decide (n<0)==decide (d<0) with
  | true =>
   rw [h2] at hb;simp only [cond_true,Bool.not_true,cond_false] at hb ⊢;rw [aU (by omega) (by omega)]
  | false =>
   rw [h2] at hb;simp only [cond_false,Bool.not_false,cond_true] at hb ⊢;rw [aU (n:=n.tdiv d) (by omega) (by omega),aU (by omega) (by omega)]
def dG (t:au) (u:au) (ts:List au):List au:=bif u.Var==t.Var then ts else eT ts u.Var (aK (0-dB u.C t.C))
theorem AP {t:au} (h0:t.C≠0):∀ (us ts:List au) (B:Int) (K:Nat),(∀ u∈us,-1000000≤u.C∧u.C≤1000000)→RB B K ts→0≤B→B+(us.length:Int)*2000000≤9000000000000000000 →
 RB (B+(us.length:Int)*2000000) (K+us.length) (us.foldl (fun ts u=>dG t u ts) ts)∧∀ f,bA f (us.foldl (fun ts u=>dG t u ts) ts)=bA f ts+bA f ((us.filter fun u => !(u.Var==t.Var||dB u.C t.C==0)).map fun u=>au.mk u.Var (-(dB u.C t.C)))
 | [],ts,B,K,_,h,_,_=>⟨by simpa using h,fun f=>by simp [bA]⟩
 | u::us,ts,B,K,hC,h,hB,hle=>by
  have hl:((u::us).length:Int)=(us.length:Int)+1:=by simp
  have hd:=wG h0 (hC u (by simp));have hw:aK (0-dB u.C t.C) = -(dB u.C t.C):=by rw [aU (by omega) (by omega)];omega
  simp only [List.foldl_cons];rw [hl] at hle ⊢;cases hx:u.Var==t.Var with
  | true =>
   have e:dG t u ts=ts:=by unfold dG;rw [hx];rfl
   rw [e];obtain ⟨a,b⟩:=AP h0 us ts B K (fun w hw=>hC w (by simp [hw])) h hB (by omega);refine ⟨a.mono (by omega) (by simp),fun f => ?_⟩;rw [b f,List.filter_cons];simp only [hx,Bool.true_or,Bool.not_true,Bool.false_eq_true,if_false]
  | false =>
   have e:dG t u ts=eT ts u.Var (-(dB u.C t.C)):=by unfold dG;rw [hx,hw];rfl
   rw [e];obtain ⟨p1,p2⟩:=h.plus u.Var (c := -(dB u.C t.C)) (A:=2000000) hB (by omega) (by omega) (by omega);obtain ⟨a,b⟩:=AP h0 us _ _ _ (fun w hw=>hC w (by simp [hw])) p1 (by omega) (by omega);refine ⟨a.mono (by omega) (by simp;omega),fun f => ?_⟩;rw [b f,p2 f,List.filter_cons];simp only [hx,Bool.false_or];cases hz:dB u.C t.C==0 with
   | true =>
    have:dB u.C t.C=0:=by simpa using hz
    simp only [Bool.not_true,Bool.false_eq_true,if_false,this];omega
   | false =>
    simp only [Bool.not_false,if_true,List.map_cons,bA];omega
theorem Mn {t:au} {n:Nat} {q:Linear} (h1:1≤n) (h2:n<1000000000) (hv:aA q=true) (hf:uH n q) (ht:t∈q.Terms):q.Terms.foldl (fun ts u=>dG t u ts) [au.mk (eG n) 1]=(ym t n q).Terms:=by
 have hC:=bD hv;have hl:=bc hv;have h0:t.C≠0:=cD hv t ht;obtain ⟨r1,r2⟩:=AP h0 q.Terms [au.mk (eG n) 1] 1 1 (fun u hu=>(hC u hu).1) ⟨List.pairwise_singleton _ _,(fun u hu=>by rw [List.mem_singleton.1 hu];show (1:Int)≠0;omega),(fun u hu=>by rw [List.mem_singleton.1 hu];show -1≤(1:Int)∧(1:Int)≤1;omega),by simp⟩ (by omega) (by omega);have hnd:=tX (t:=t) (du hv) (BP h1 h2 hf);refine pU _ _ r1.srt r1.nz (zU au.Var hnd) (fun u hu => ?_) fun f => ?_
 ·have hu:u∈mZ t n q.Terms:=(gA _).mem_iff.1 hu;unfold mZ at hu;rcases List.mem_cons.1 hu with rfl | hu
  ·show (1:Int)≠0;omega
  ·obtain ⟨w,hw,rfl⟩:=List.mem_map.1 hu;have:=(List.mem_filter.1 hw).2;simp only [Bool.not_eq_true',Bool.or_eq_false_iff,beq_eq_false_iff_ne] at this;show -(dB w.C t.C)≠0;omega
 ·rw [r2 f];show _=bA f (AQ (mZ t n q.Terms));rw [DC f (gA _)];unfold mZ;simp only [bA];omega
theorem EZ {α β ρ:Type} (d:α) (f:α→β) (l:List α) {body:Int×List β→Option (eR (Int×List β) (List β) ρ)} (hb:∀ (j:Nat) (acc:List β),j<l.length→acc.length=j→body ((j:Int),acc)=some (.go (((j+1:Nat):Int),acc++[f (l.getD j d)])))
 (he:∀ acc:List β,acc.length=l.length→body ((l.length:Int),acc)=some (.brk acc)):∀ (k j N:Nat) (acc:List β),j+k=l.length→k<N→acc.length=j→gn body N ((j:Int),acc)=some (.brk (acc++(l.drop j).map f))
 | 0,j,N,acc,h1,h2,h3=>by
  obtain ⟨N,rfl⟩:∃ m,N=m+1:=⟨N-1,by omega⟩;have hj:j=l.length:=by omega
  subst hj;simp only [gn];rw [he acc h3,List.drop_length];simp [tN]
 | k+1,j,N,acc,h1,h2,h3=>by
  obtain ⟨N,rfl⟩:∃ m,N=m+1:=⟨N-1,by omega⟩;have hj:j<l.length:=by omega
  simp only [gn];rw [hb j acc hj h3,List.drop_eq_getElem_cons hj,← getD_at d hj];simp only [Option.bind_some,tN,List.map_cons];rw [EZ d f l hb he k (j+1) N (acc++[f (l.getD j d)]) (by omega) (by omega) (by simp;omega),List.append_assoc];rfl
theorem HE {α β ρ:Type} (d:α) (f:α→β) (l:List α) {body:Int×List β→Option (eR (Int×List β) (List β) ρ)} (hb:∀ (j:Nat) (acc:List β),j<l.length→acc.length=j→body ((j:Int),acc)=some (.go (((j+1:Nat):Int),acc++[f (l.getD j d)])))
 (he:∀ acc:List β,acc.length=l.length→body ((l.length:Int),acc)=some (.brk acc)) {N:Nat} (hN:l.length<N):gn body N ((0:Int),[])=some (.brk (l.map f)):=by
 have:=EZ d f l hb he l.length 0 N [] (by omega) hN rfl;rw [List.nil_append,List.drop_zero] at this;exact this
theorem CN {α τ ρ:Type} (at_:Nat→τ) (n:Nat) (I:List α→Prop) {body:τ×List α→Option (eR (τ×List α) (List α) ρ)} (h:∀ i l,i<n→I l→∃ l',body (at_ i,l)=some (.go (at_ (i+1),l'))∧I l') (he:∀ i l,n≤i→I l→body (at_ i,l)=some (.brk l)) :
 ∀ (k i N:Nat) (l:List α),n-i=k→k<N→I l→∃ l',gn body N (at_ i,l)=some (.brk l')∧I l'
 | 0,i,N,l,h1,h2,hI=>by
  obtain ⟨N,rfl⟩:∃ m,N=m+1:=⟨N-1,by omega⟩;simp only [gn];rw [he i l (by omega) hI];exact ⟨l,rfl,hI⟩
 | k+1,i,N,l,h1,h2,hI=>by obtain ⟨N,rfl⟩:∃ m,N=m+1:=⟨N-1,by omega⟩;simp only [gn];obtain ⟨l',e,hI'⟩:=h i l (by omega) hI;rw [e];simp only [Option.bind_some,tN];exact CN at_ n I h he k (i+1) N l' (by omega) (by omega) hI'
theorem LQ {rows:List Rf} {i:Nat} (hi:i<rows.length) (A:Rf) (s:Int) (b:Rf→Bool) :
 ((some (rows.set i A):Option (List Rf)).bind fun y3=>bf (i<y3.length) <|
  (some (y3.set i (ak.mk (Linear.mk (((y3.getD i ky).q).Const) (((y3.getD i ky).q).Terms)) ((y3.getD i ky).mults) s ((y3.getD i ky).big))):Option (List Rf)).bind fun y4=>bf (i<y4.length) <|
  (some (y4.set i (ak.mk (Linear.mk (((y4.getD i ky).q).Const) (((y4.getD i ky).q).Terms)) ((y4.getD i ky).mults) ((y4.getD i ky).scale) (b (y4.getD i ky)))):Option (List Rf)).bind fun y5=>some y5) =
 some (rows.set i (ak.mk A.q A.mults s (b (ak.mk A.q A.mults s A.big)))):=by
 simp only [Option.bind_some];rw [aD (by simpa using hi),aD (by simpa using hi),ja hi,ja (by simpa using hi),List.set_set,List.set_set]
theorem I0 (rows:List Rf) (i:Nat):(rows.map (·.q)).getD i b9=(rows.getD i ky).q:=by rw [ME,ME,List.getElem?_map];cases rows[i]? <;> rfl
theorem wD {L:Nat} {r:Rf} (hF:okF L r) (g:Int):∃ f,j7 r g=some f∧(f.Mults.length=0∨f.Mults.length=L):=by
 unfold j7;obtain ⟨s,e,_⟩:=iC r.scale g;rw [e];simp only [Option.bind_some];cases hb:r.big with
 | true=>exact ⟨_,rfl,.inl rfl⟩
 | false =>
  have:=(hF.ok.resolve_left (by rw [hb];decide)).2;simp only [cond_false];cases s.2==0 with
  | false=>exact ⟨_,rfl,.inl rfl⟩
  | true =>
   cases decide (s.1>1099511627776) with
   | true=>exact ⟨_,rfl,.inl rfl⟩
   | false=>exact ⟨_,rfl,.inr this⟩
theorem zd {i n L:Nat} {rows:List Rf} {bs ds:List Bind} (hi:i<rows.length) (hl1:rows.length≤6000) (hL:L≤6000) (hl2:bs.length≤2000000000) (hds:ds.length≤n) (h:jx n (rows.map (·.q)) bs) (hF:∀ r∈rows,okF L r) :
 (gT i n (rows.map (·.q)) bs = .no∧∃ f,cM (i:Int) (n:Int) rows bs ds=some ((f,9),(n:Int),rows,bs,ds)∧(f.Mults.length=0∨f.Mults.length=L)) ∨
 (gT i n (rows.map (·.q)) bs = .lim∧∃ n' r' b' d',cM (i:Int) (n:Int) rows bs ds=some ((al.mk [] 0,3),n',r',b',d')) ∨
 ∃ m rows' bs' ds',gT i n (rows.map (·.q)) bs = .ok m (rows'.map (·.q)) bs'∧cM (i:Int) (n:Int) rows bs ds=some ((al.mk [] 0,0),(m:Int),rows',bs',ds')∧rows'.length=rows.length∧(∀ r∈rows',okF L r)∧ds'.length≤m:=by
 have hqv:∀ r∈rows,aA r.q=true∧uH n r.q:=fun r hr=>h.qv _ (List.mem_map.2 ⟨r,hr,rfl⟩);have hbv:∀ b∈bs,aA b.Dim=true:=fun b hb=>(h.bv b hb).1;have hm:=ba ky hi;obtain ⟨hv,hfr⟩:=hqv _ hm;have hFi:=hF _ hm;have hn1:=h.n1;have hn2:=h.n2;unfold cM gT;rw [aD ⟨by omega,by omega⟩,Int.toNat_natCast,aD hi,lJ,uK hv,I0];simp only [Option.bind_some];generalize hP:rows.getD i ky=p at hv hfr hFi hm ⊢;have e0:(bif (((cont p.q:Nat):Int)==0) then some true else bf (((cont p.q:Nat):Int)≠0) <| some ((p.q.Const.tmod ((cont p.q:Nat):Int)) != 0):Option Bool)=some (Aq p.q):=by
  unfold Aq;by_cases h0:cont p.q=0
  ·rw [h0];rfl
  ·have e1:(((cont p.q:Nat):Int)==0)=false:=by simp;omega
   have e2:(cont p.q==0)=false:=by simpa using h0
   rw [e1,cond_false,aD (by omega),e2];rfl
 rw [e0];simp only [Option.bind_some];cases hno:Aq p.q with
 | true =>
  left;obtain ⟨f,ef,hf⟩:=wD hFi (cont p.q:Int);refine ⟨rfl,f,?_,hf⟩;simp only [cond_true];rw [show ak.mk p.q p.mults p.scale p.big=p from rfl,ef];rfl
 | false =>
  obtain ⟨hg,hd⟩:=pW hno;simp only [cond_false];have hcb:=EX p.q.Terms 0 (cD hv) (by omega) (fun t ht=>(bD hv t ht).1);have hcc:=pV hv;have hdiv:∀ a:Int,-1000000≤a∧a≤1000000→aK (a.tdiv ((cont p.q:Nat):Int))=a.tdiv ((cont p.q:Nat):Int):=fun a ha=>by have:=tdiv_le (g:=((cont p.q:Nat):Int)) ha;exact aU (by omega) (by omega)
  have hC:=bD hv;have hlen:=bc hv;rw [aD (by omega),HE (⟨[],0⟩:au) (fun u=>au.mk u.Var (u.C.tdiv ((cont p.q:Nat):Int))) p.q.Terms (fun j acc hj ha=>by rw [ML (by omega),cond_true,aD ⟨by omega,by omega⟩,aD (by simp only;omega),Int.toNat_natCast,hdiv _ (hC _ (ba _ hj)).1,aU (by omega) (by omega)];rfl) (fun acc ha=>by rw [MK (by omega)];rfl) (by omega)]
  simp only [Option.bind_some,ca];rw [hdiv _ hcc];rw [show Linear.mk (p.q.Const.tdiv ((cont p.q:Nat):Int)) (p.q.Terms.map fun u=>au.mk u.Var (u.C.tdiv ((cont p.q:Nat):Int)))=bn (cont p.q) p.q from rfl];rw [show (p.q.Terms.map fun u=>au.mk u.Var (u.C.tdiv ((cont p.q:Nat):Int)))=(bn (cont p.q) p.q).Terms from rfl,show p.q.Const.tdiv ((cont p.q:Nat):Int)=(bn (cont p.q) p.q).Const from rfl];obtain ⟨tm,tmin⟩:=w9 hv hg;have hnv:=fp hv;have hnf:=iY hfr;generalize hN:bn (cont p.q) p.q=q at hnv hnf tm tmin ⊢;obtain ⟨s,es,hs⟩:=iC p.scale ((cont p.q:Nat):Int);rw [es];simp only [Option.bind_some];obtain ⟨rN,eN,hrq,hrF⟩:∃ rN:Rf,(bif p.big then
   ((some (rows.set i (ak.mk (Linear.mk q.Const q.Terms) p.mults p.scale p.big)):Option (List Rf)).bind fun y3=>bf (i<y3.length) <|
    (some (y3.set i (ak.mk (Linear.mk (((y3.getD i ky).q).Const) (((y3.getD i ky).q).Terms)) ((y3.getD i ky).mults) s.1 ((y3.getD i ky).big))):Option (List Rf)).bind fun y4=>bf (i<y4.length) <|
    (some (y4.set i (ak.mk (Linear.mk (((y4.getD i ky).q).Const) (((y4.getD i ky).q).Terms)) ((y4.getD i ky).mults) ((y4.getD i ky).scale) true)):Option (List Rf)).bind fun y5=>some y5)
   else bif s.2==0 then
   ((some (rows.set i (ak.mk (Linear.mk q.Const q.Terms) p.mults p.scale p.big)):Option (List Rf)).bind fun y3=>bf (i<y3.length) <|
    (some (y3.set i (ak.mk (Linear.mk (((y3.getD i ky).q).Const) (((y3.getD i ky).q).Terms)) ((y3.getD i ky).mults) s.1 ((y3.getD i ky).big))):Option (List Rf)).bind fun y4=>bf (i<y4.length) <|
    (some (y4.set i (ak.mk (Linear.mk (((y4.getD i ky).q).Const) (((y4.getD i ky).q).Terms)) ((y4.getD i ky).mults) ((y4.getD i ky).scale) (decide (s.1>1099511627776)))):Option (List Rf)).bind fun y5=>some y5)
   else
   ((some (rows.set i (ak.mk (Linear.mk q.Const q.Terms) p.mults p.scale p.big)):Option (List Rf)).bind fun y3=>bf (i<y3.length) <|
    (some (y3.set i (ak.mk (Linear.mk (((y3.getD i ky).q).Const) (((y3.getD i ky).q).Terms)) ((y3.getD i ky).mults) s.1 ((y3.getD i ky).big))):Option (List Rf)).bind fun y4=>bf (i<y4.length) <|
    (some (y4.set i (ak.mk (Linear.mk (((y4.getD i ky).q).Const) (((y4.getD i ky).q).Terms)) ((y4.getD i ky).mults) ((y4.getD i ky).scale) true)):Option (List Rf)).bind fun y5=>some y5):Option (List Rf))=some (rows.set i rN)∧rN.q=q∧okF L rN:=by
   rw [LQ hi _ s.1 fun _=>true,LQ hi _ s.1 fun _=>decide (s.1>1099511627776)];cases hb:p.big with
   | true=>exact ⟨_,rfl,rfl,⟨.inl rfl⟩⟩
   | false =>
    cases h2:s.2==0 with
    | false=>exact ⟨_,rfl,rfl,⟨.inl rfl⟩⟩
    | true =>
     obtain ⟨a1,a2⟩:=hFi.ok.resolve_left (by rw [hb];decide);exact ⟨_,rfl,rfl,⟨.inr ⟨hs (by simpa using h2) a1 (by omega),a2⟩⟩⟩
  refine (congrArg (fun o:Option (List Rf)=>Option.bind o _) eN) ▸ ?_;simp only [Option.bind_some];have hne:q.Terms≠[]:=List.ne_nil_of_mem tm;rw [wu hnv hne];generalize hT:uL q.Terms=t at tm tmin ⊢;obtain ⟨tb,tn⟩:=bD hnv t tm;have ht0:t.C≠0:=cD hnv t tm;have ev:(bif t.C==1 then some true else some (t.C == -1):Option Bool)=some (t.C==1||t.C == -1):=by cases t.C==1<;>rfl
  simp only [Option.bind_some];rw [ev];simp only [Option.bind_some];have hsl:(rows.set i rN).length=rows.length:=by simp
  have hsF:∀ r∈rows.set i rN,okF L r:=fun r hr=>by
   rcases List.mem_or_eq_of_mem_set hr with hr | rfl
   ·exact hF r hr
   ·exact hrF
  have hmq:(rows.set i rN).map (·.q)=(rows.map (·.q)).set i q:=by rw [List.map_set,hrq]
  have hvq:∀ x∈(rows.map (·.q)).set i q,aA x=true:=fun x hx=>by
   rcases List.mem_or_eq_of_mem_set hx with hx | rfl
   ·obtain ⟨r,hr,rfl⟩:=List.mem_map.1 hx;exact (hqv r hr).1
   ·exact hnv
  have hvr:∀ {l:List Rf},l.map (·.q)=(rows.map (·.q)).set i q→∀ r∈l,aA r.q=true:=fun {l} hl r hr=>hvq _ (by rw [← hl];exact List.mem_map.2 ⟨r,hr,rfl⟩);cases hu:t.C==1||t.C == -1 with
  | true =>
   have ht:t.C=1∨t.C = -1:=by simpa only [Bool.or_eq_true,beq_iff_eq] using hu
   simp only [cond_true];rw [mr];simp only [Option.bind_some];rw [Mo hnv tm ht];simp only [Option.bind_some];obtain ⟨l',el,hlq,hlF⟩:=CN (ρ:=Empty) (fun j:Nat=>(j:Int)) rows.length (fun l:List Rf=>l.map (·.q)=(rows.map (·.q)).set i q∧∀ r∈l,okF L r)
    (body:=fun s1 =>
    bif decide (s1.1<((s1.2.length:Nat):Int)) then (
     bf (0≤s1.1∧s1.1<(s1.2.length:Int)) <|
     bf (s1.1.toNat<s1.2.length) <|
     (cr (Linear.mk (((s1.2.getD s1.1.toNat (⟨⟨0,[]⟩,[],0,false⟩)).q).Const) (((s1.2.getD s1.1.toNat (⟨⟨0,[]⟩,[],0,false⟩)).q).Terms)) t.Var).bind fun y15 =>
     ((
      bif (y15==0) then (
       some s1.2
      ) else (
       bf (i<s1.2.length) <|
       (kW (ak.mk (Linear.mk (((s1.2.getD s1.1.toNat (⟨⟨0,[]⟩,[],0,false⟩)).q).Const) (((s1.2.getD s1.1.toNat (⟨⟨0,[]⟩,[],0,false⟩)).q).Terms)) ((s1.2.getD s1.1.toNat (⟨⟨0,[]⟩,[],0,false⟩)).mults) ((s1.2.getD s1.1.toNat (⟨⟨0,[]⟩,[],0,false⟩)).scale) ((s1.2.getD s1.1.toNat (⟨⟨0,[]⟩,[],0,false⟩)).big)) (ak.mk (Linear.mk (((s1.2.getD i (⟨⟨0,[]⟩,[],0,false⟩)).q).Const) (((s1.2.getD i (⟨⟨0,[]⟩,[],0,false⟩)).q).Terms)) ((s1.2.getD i (⟨⟨0,[]⟩,[],0,false⟩)).mults) ((s1.2.getD i (⟨⟨0,[]⟩,[],0,false⟩)).scale) ((s1.2.getD i (⟨⟨0,[]⟩,[],0,false⟩)).big)) (aK (y15*t.C))).bind fun y16 =>
       (some (s1.2.set s1.1.toNat y16)).bind fun y17 =>
       some y17
      )
     ):Option (List ak)).bind fun v3 =>
     some (.go ((aK (s1.1+1)),v3))
    ) else (
     some (.brk s1.2)
    )) (fun j l hj hI=>by
     have hll:l.length=rows.length:=by have:=congrArg List.length hI.1;simpa using this
     have hmj:=ba ky (show j<l.length by omega);simp only;rw [ML (by omega),cond_true,aD ⟨by omega,by omega⟩,Int.toNat_natCast,aD (by omega),lJ,gD];simp only [Option.bind_some];cases cf (l.getD j ky).q t.Var==0 with
     | true=>exact ⟨l,by rw [cond_true];simp only [Option.bind_some];rw [aU (by omega) (by omega)];rfl,hI⟩
     | false =>
      simp only [cond_false];obtain ⟨r,er,erq,erF⟩:=yS hL (hI.2 _ hmj) (hI.2 _ (ba ky (show i<l.length by omega))) (aK (cf (l.getD j ky).q t.Var*t.C));refine ⟨l.set j r,?_,?_,fun x hx => ?_⟩
      ·rw [aD (by omega),show ak.mk (l.getD j ky).q (l.getD j ky).mults (l.getD j ky).scale (l.getD j ky).big=l.getD j ky from rfl];rw [show ak.mk (Linear.mk (l.getD i ky).q.Const (l.getD i ky).q.Terms) (l.getD i ky).mults (l.getD i ky).scale (l.getD i ky).big=l.getD i ky from rfl,er];simp only [Option.bind_some];rw [aU (by omega) (by omega)];rfl
      ·rw [← hI.1,List.map_set,erq];refine List.ext_getElem (by simp) fun k h1 h2 => ?_;rw [List.getElem_set];split
       ·rename_i e;subst e;rw [List.getElem_map,getD_at ky (by simpa using h2)]
       ·rfl
      ·rcases List.mem_or_eq_of_mem_set hx with hx | rfl
       ·exact hI.2 x hx
       ·exact erF) (fun j l hj hI=>by
     have hll:l.length=rows.length:=by have:=congrArg List.length hI.1;simpa using this
     simp only;rw [MK (by omega)];rfl) (rows.length-(i+1)) (i+1) 4294967296 (rows.set i rN) rfl (by omega) ⟨hmq,hsF⟩
   have hll:l'.length=rows.length:=by have:=congrArg List.length hlq;simpa using this
   have ei:aK ((i:Int)+1)=((i+1:Nat):Int):=by rw [aU (by omega) (by omega)];rfl
   rw [ei];have hpu:=uw (x:=t.Var) (by_:=Fh t q) (i:=i) (L:=L) (nx:=(n:Int)) (rows:=l') (bs:=bs) (ds:=ds) (by omega) (by omega) hl2 (hvr hlq) hbv hlF n;rw [hlq,hll] at hpu;right;rcases hpu with ⟨a,r',b',e⟩ | ⟨rows',bs',a,e,l,o⟩
   ·left;refine ⟨a,(n:Int),r',b',ds,?_⟩;refine (congrArg (fun o:Option (Out (List Rf) Empty)=>Option.bind o _) el).trans ?_;simp only [Option.bind_some,ca];rw [e];rfl
   ·right;refine ⟨n,rows',bs',ds,a,?_,l,o,hds⟩;refine (congrArg (fun o:Option (Out (List Rf) Empty)=>Option.bind o _) el).trans ?_;simp only [Option.bind_some,ca];rw [e];rfl
  | false =>
   simp only [cond_false];have hit:fC 64 (n:Int)=some (dec n):=mU 63 n (by
    have:10 ^ 12≤10 ^ 64:=Nat.pow_le_pow_right (by decide) (by decide);omega) (by omega)
   have hdl:=qD 8 n (by omega);rw [hit];simp only [Option.bind_some];rw [aD (by simp;omega),mr,mr];simp only [Option.bind_some];have en:aK ((n:Int)+1)=((n+1:Nat):Int):=by rw [aU (by omega) (by omega)];omega
   rw [en];cases hlim:decide (n+1≥1000000000) with
   | true =>
    rw [ML (show ((n+1:Nat):Int)≥1000000000 from by have:=MJ hlim;omega)];exact .inr (.inl ⟨rfl,_,_,_,_,rfl⟩)
   | false =>
    have hlim':=MI hlim;rw [MK (show ¬ ((n+1:Nat):Int)≥1000000000 by omega)];simp only [cond_false];have hCq:=bD hnv;have hcq:=pV hnv;have hlq:=bc hnv;have hloop:=de (ε:=(Int×(List au)×Int×(List au))) (ρ:=Empty) (f:=fun s=>(s.1,s.2.1,s.2.2.1,s.2.2.2)) (fin:=fun i0 s2=>(s2.1,s2.2.1,s2.2.2.1,s2.2.2.2)) (⟨[],0⟩:au) q.Terms
     (fun u s=>eR.go (s.1,dG t u s.2.1,s.2.2.1,bif u.Var==t.Var then s.2.2.2 else eT s.2.2.2 u.Var (dB u.C t.C))) (fun j s=>s.2.1.length≤j+1∧s.2.2.2.length≤j+1)
     (body:=fun i0 s2 =>
     ((
      bif (((q.Terms.getD i0 ⟨[],0⟩).Var)==t.Var) then (
       some (s2.1,s2.2.1,s2.2.2.1,s2.2.2.2)
      ) else (
       (dN ((q.Terms.getD i0 ⟨[],0⟩).C) t.C).bind fun y22 =>
       (bQ (Linear.mk s2.1 s2.2.1) ((q.Terms.getD i0 ⟨[],0⟩).Var) (aK (0-y22.1))).bind fun y23 =>
       (bQ (Linear.mk s2.2.2.1 s2.2.2.2) ((q.Terms.getD i0 ⟨[],0⟩).Var) y22.1).bind fun y24 =>
       some (y23.Const,y23.Terms,y24.Const,y24.Terms)
      )
     ):Option (Int×(List au)×Int×(List au))).bind fun v4 =>
     some (.go (v4.1,v4.2.1,v4.2.2.1,v4.2.2.2))) (fun _ _=>rfl) (0,[au.mk (eG n) 1],0,[au.mk t.Var 1]) ⟨by simp,by simp⟩ (fun j s hj hI=>by
      have hcj:=(hCq _ (ba (⟨[],0⟩:au) hj)).1;generalize q.Terms.getD j ⟨[],0⟩=u at hcj ⊢;cases hx:u.Var==t.Var with
      | true =>
       refine ⟨by rw [cond_true];unfold dG;rw [hx];rfl,fun s' e => ?_⟩;injection e with e
       subst e;unfold dG;rw [hx];exact ⟨by have:=hI.1;simp only [cond_true];omega,by have:=hI.2;simp only [cond_true];omega⟩
      | false =>
       refine ⟨?_,fun s' e => ?_⟩
       ·rw [cond_false,qi ht0 hcj tb];simp only [Option.bind_some];rw [oz _ _ _ (by simp only;omega)];simp only [Option.bind_some];rw [oz _ _ _ (by simp only;omega)];unfold dG;rw [hx];rfl
       ·injection e with e
        subst e;unfold dG;rw [hx];have h1:=p8 s.2.1 u.Var (aK (0-dB u.C t.C));have h2:=p8 s.2.2.2 u.Var (dB u.C t.C);exact ⟨by have:=hI.1;simp only [cond_false];omega,by have:=hI.2;simp only [cond_false];omega⟩)
    rw [oI (fun (u:au) (s:Int×List au×Int×List au)=>(s.1,dG t u s.2.1,s.2.2.1,bif u.Var==t.Var then s.2.2.2 else eT s.2.2.2 u.Var (dB u.C t.C)))] at hloop;have hfold:∀ (us:List au) (s:Int×List au×Int×List au),∃ z,us.foldl (fun (s:Int×List au×Int×List au) (u:au)=>(s.1,dG t u s.2.1,s.2.2.1,bif u.Var==t.Var then s.2.2.2 else eT s.2.2.2 u.Var (dB u.C t.C))) s=(s.1,us.foldl (fun ts u=>dG t u ts) s.2.1,s.2.2.1,z):=by
     intro us;induction us with
     | nil=>intro s;exact ⟨s.2.2.2,rfl⟩
     | cons u us ih=>intro s;exact ih _
    obtain ⟨z,ez⟩:=hfold q.Terms (0,[au.mk (eG n) 1],0,[au.mk t.Var 1]);rw [ez] at hloop;simp only at hloop;rw [Mn hn1 hn2 hnv hnf tm] at hloop;have hdc:=wG ht0 hcq;have eb:Linear.mk (aK (0-dB q.Const t.C)) (ym t n q).Terms=ym t n q:=by rw [aU (by omega) (by omega),Int.zero_sub];rfl
    have hpu:=uw (x:=t.Var) (by_:=ym t n q) (i:=i) (L:=L) (nx:=((n+1:Nat):Int)) (rows:=rows.set i rN) (bs:=bs) (ds:=ds++[Bind.mk 1 ([95]++dec n) (Linear.mk (aK (0+dB q.Const t.C)) z) (Shape.mk [] []) []]) (by omega) (by omega) hl2 (hvr hmq) hbv hsF (n+1);rw [hmq,hsl] at hpu;right;rcases hpu with ⟨a,r',b',e⟩ | ⟨rows',bs',a,e,l,o⟩
    ·left;refine ⟨a,((n+1:Nat):Int),r',b',ds++[Bind.mk 1 ([95]++dec n) (Linear.mk (aK (0+dB q.Const t.C)) z) (Shape.mk [] []) []],?_⟩;refine (congrArg (fun o:Option (Out (Int×List au×Int×List au) Empty)=>Option.bind o _) hloop).trans ?_;simp only [Option.bind_some,ca];rw [qi ht0 hcq tb];simp only [Option.bind_some];rw [aD (by omega),eb,e];rfl
    ·right;refine ⟨n+1,rows',bs',ds++[Bind.mk 1 ([95]++dec n) (Linear.mk (aK (0+dB q.Const t.C)) z) (Shape.mk [] []) []],a,?_,l,o,by simp;omega⟩;refine (congrArg (fun o:Option (Out (Int×List au×Int×List au) Empty)=>Option.bind o _) hloop).trans ?_;simp only [Option.bind_some,ca];rw [qi ht0 hcq tb];simp only [Option.bind_some];rw [aD (by omega),eb,e];rfl
theorem Fs {S σ ε ρ:Type} (at_:Nat→σ→S) (fin:σ→ε) (n:Nat) (I:Nat→σ→Prop) {body:S→Option (eR S ε ρ)} (h:∀ i s,i<n→I i s→∃ s',body (at_ i s)=some (.go (at_ (i+1) s'))∧I (i+1) s') (he:∀ s,I n s→body (at_ n s)=some (.brk (fin s))) :
 ∀ (k i N:Nat) (s:σ),i+k=n→k<N→I i s→∃ s',gn body N (at_ i s)=some (.brk (fin s'))∧I n s'
 | 0,i,N,s,h1,h2,hI=>by
  obtain ⟨N,rfl⟩:∃ m,N=m+1:=⟨N-1,by omega⟩;have:i=n:=by omega
  subst this;simp only [gn];rw [he s hI];exact ⟨s,rfl,hI⟩
 | k+1,i,N,s,h1,h2,hI=>by obtain ⟨N,rfl⟩:∃ m,N=m+1:=⟨N-1,by omega⟩;simp only [gn];obtain ⟨s',e,hI'⟩:=h i s (by omega) hI;rw [e];simp only [Option.bind_some,tN];exact Fs at_ fin n I h he k (i+1) N s' (by omega) (by omega) hI'
theorem xI {l:Linear} (h:l.Terms.length≤1000000):∃ r,nv l=some r∧r.length=l.Terms.length:=by
 unfold nv;obtain ⟨s',e,hI⟩:=jl (ε:=List aJ) (ρ:=Empty) (fin:=fun i0 s0=>s0) (fun j s=>s.length=j)
  (body:=fun i0 s0 =>
  bf ((s0.length+1)*16≤140737488355328) <|
  some (.go (s0++[((l.Terms.getD i0 ⟨[],0⟩).Var)]))) (l.Terms.length-0) 0 [] rfl (fun j s _ hj hs=>⟨_,aD (by omega),by simp;omega⟩)
 refine ⟨s',?_,by omega⟩;refine (congrArg (fun o:Option (Out (List aJ) Empty)=>Option.bind o _) e).trans ?_;rfl
theorem su {l:List Linear} (hl:∀ q∈l,q.Terms.length≤12) (hn:l.length≤100):∃ r,ju l=some r∧r.length≤1200:=by
 unfold ju;obtain ⟨s',e,hI⟩:=jl (ε:=(Int×(List au))) (ρ:=Empty) (fin:=fun i0 s0=>(s0.1,s0.2)) (fun j s=>s.2.length≤12*j)
  (body:=fun i0 s0 =>
  (gn (σ:=(Int×Int×(List au))) (ε:=(Int×(List au))) (ρ:=Empty) (fun s1 =>
   bif decide (s1.1<((((l.getD i0 ⟨0,[]⟩).Terms).length:Nat):Int)) then (
    bf (0≤s1.1∧s1.1<(((l.getD i0 ⟨0,[]⟩).Terms).length:Int)) <|
    (cr (Linear.mk s1.2.1 s1.2.2) ((((l.getD i0 ⟨0,[]⟩).Terms).getD s1.1.toNat ⟨[],0⟩).Var)).bind fun y0 =>
    ((
     bif (y0==0) then (
      (bQ (Linear.mk s1.2.1 s1.2.2) ((((l.getD i0 ⟨0,[]⟩).Terms).getD s1.1.toNat ⟨[],0⟩).Var) 1).bind fun y1 =>
      some (y1.Const,y1.Terms)
     ) else (
      some (s1.2.1,s1.2.2)
     )
    ):Option (Int×(List au))).bind fun v0 =>
    some (.go ((aK (s1.1+1)),v0.1,v0.2))
   ) else (
    some (.brk (s1.2.1,s1.2.2))
   )
  ) 4294967296 (0,s0.1,s0.2)).bind <| ca fun u0 =>
  some (.go (u0.1,u0.2))) (l.length-0) 0 (0,[]) (by simp) (fun j s _ hj hs=>by
   have hq:=hl _ (ba b9 (show j<l.length by omega));generalize l.getD j b9=q at hq ⊢;obtain ⟨s2,e2,hI2⟩:=Fs (ρ:=Empty) (fun (i:Nat) (s:Int×List au)=>((i:Int),s.1,s.2)) (fun s:Int×List au=>(s.1,s.2)) q.Terms.length (fun i s=>s.2.length≤12*j+i)
    (body:=fun s1 =>
   bif decide (s1.1<((q.Terms.length:Nat):Int)) then (
    bf (0≤s1.1∧s1.1<(q.Terms.length:Int)) <|
    (cr (Linear.mk s1.2.1 s1.2.2) ((q.Terms.getD s1.1.toNat ⟨[],0⟩).Var)).bind fun y0 =>
    ((
     bif (y0==0) then (
      (bQ (Linear.mk s1.2.1 s1.2.2) ((q.Terms.getD s1.1.toNat ⟨[],0⟩).Var) 1).bind fun y1 =>
      some (y1.Const,y1.Terms)
     ) else (
      some (s1.2.1,s1.2.2)
     )
    ):Option (Int×(List au))).bind fun v0 =>
    some (.go ((aK (s1.1+1)),v0.1,v0.2))
   ) else (
    some (.brk (s1.2.1,s1.2.2))
   )) (fun i s hi hs=>by
    simp only;rw [ML (by omega),cond_true,aD ⟨by omega,by omega⟩,Int.toNat_natCast,gD];simp only [Option.bind_some];cases cf (Linear.mk s.1 s.2) (q.Terms.getD i ⟨[],0⟩).Var==0 with
    | true =>
     simp only [cond_true];rw [oz _ _ _ (by simp only;omega)];simp only [Option.bind_some];rw [aU (by omega) (by omega)];have:=p8 s.2 (q.Terms.getD i ⟨[],0⟩).Var 1;exact ⟨(s.1,eT s.2 (q.Terms.getD i ⟨[],0⟩).Var 1),rfl,by simp only;omega⟩
    | false =>
     simp only [cond_false,Option.bind_some];rw [aU (by omega) (by omega)];exact ⟨s,rfl,by omega⟩) (fun s hs=>by
    simp only;rw [MK (by omega)];rfl) q.Terms.length 0 4294967296 s (by omega) (by omega) (by omega)
   refine ⟨(s2.1,s2.2),?_,by simp only;omega⟩;refine (congrArg (fun o:Option (Out (Int×List au) Empty)=>Option.bind o _) e2).trans ?_;rfl)
 obtain ⟨r,e3,h3⟩:=xI (l:=Linear.mk s'.1 s'.2) (by simp only;omega);refine ⟨r,?_,by rw [h3];simp only;omega⟩;refine (congrArg (fun o:Option (Out (Int×List au) Empty)=>Option.bind o _) e).trans ?_;simp only [Option.bind_some,ca];rw [e3];rfl
theorem wx (v:aJ):∃ r,dh v=some r:=by
 cases h:db v with
 | true=>exact ⟨_,nR h⟩
 | false=>exact ⟨0,by unfold dh;rw [oN,h];rfl⟩
theorem tq {l:List Linear} (hl:∀ q∈l,q.Terms.length≤12) (hn:l.length≤100):∃ r,ig l=some r:=by
 unfold ig;obtain ⟨vs,e,_⟩:=su hl hn;rw [e];simp only [Option.bind_some];obtain ⟨s',e2,_⟩:=jl (ε:=Int) (ρ:=Empty) (fin:=fun i0 s0=>s0) (fun _ _=>True)
  (body:=fun i0 s0 =>
  (dh (vs.getD i0 [])).bind fun y1 =>
  some (.go (if y1>s0 then y1 else s0))) (vs.length-0) 0 0 trivial (fun j s _ hj hs=>by obtain ⟨r,er⟩:=wx (vs.getD j []);rw [er];exact ⟨_,rfl,trivial⟩)
 refine ⟨s',?_⟩;refine (congrArg (fun o:Option (Out Int Empty)=>Option.bind o _) e2).trans ?_;rfl
abbrev Fv:=List Rf×List Bind×List Bind×Int
def E9 (u0:List Int) (n i2:Nat) (s3:Fv):Option (eR Fv Fv (eR Fv Fv wZ)) :=
 bf (i2<s3.1.length) <|
 (fj (Linear.mk (((s3.1.getD i2 (⟨⟨0,[]⟩,[],0,false⟩)).q).Const) (((s3.1.getD i2 (⟨⟨0,[]⟩,[],0,false⟩)).q).Terms)) (Linear.mk 0 [])).bind fun y3 =>
 bif y3 then (
  some (.brk (s3.1,s3.2.1,s3.2.2.1,s3.2.2.2))
 ) else (
  (cM ((i2:Nat):Int) s3.2.2.2 s3.1 s3.2.1 s3.2.2.1).bind fun y4 =>
  bif (y4.1.2==0) then (
   some (.go (y4.2.2.1,y4.2.2.2.1,y4.2.2.2.2,y4.2.1))
  ) else (
   (mq y4.1.1 u0 ((n:Nat):Int)).bind fun y5 =>
   some (.ret (.ret ([],0,y5,y4.1.2)))
  )
 )
theorem yA (q:Linear):fj (Linear.mk q.Const q.Terms) (Linear.mk 0 [])=some (eD q):=by rw [yo];congr 1;rw [Bool.eq_iff_iff,kM,decide_eq_true_iff]
theorem J8 (u0:List Int) (n0:Nat) {L:Nat} (hL:L≤6000):∀ (N i n c:Nat) (rows:List Rf) (bs ds:List Bind),i<rows.length→rows.length≤6000→jx n (rows.map (·.q)) bs→(∀ r∈rows,okF L r)→ds.length≤n→c≤6000→(bs.length≤n+c∨(eD ((rows.map (·.q)).getD i b9)=true∧bs.length≤n+c+1)) →
 (∀ (m:Nat) (qs':List Linear) (bs':List Bind),kx N i n (rows.map (·.q)) bs=some (.ok m qs' bs')→∃ rows' ds',rows'.map (·.q)=qs'∧rows'.length=rows.length∧(∀ r∈rows',okF L r)∧ds'.length≤m∧gn (E9 u0 n0 i) N (rows,bs,ds,(n:Int))=some (.brk (rows',bs',ds',(m:Int)))) ∧
 (kx N i n (rows.map (·.q)) bs=some .lim→∃ f,gn (E9 u0 n0 i) N (rows,bs,ds,(n:Int))=some (.ret (.ret ([],0,f,3))))
 | 0,i,n,c,rows,bs,ds,hi,hl,h,hr,hd,hc,hb=>by simp [kx]
 | N+1,i,n,c,rows,bs,ds,hi,hl,h,hr,hd,hc,hb=>by
  have hn:=h.n2;simp only [kx,gn,E9];rw [aD hi,yA,I0];simp only [Option.bind_some];cases hz:eD (rows.getD i ky).q with
  | true =>
   refine ⟨fun m qs' bs' e => ?_,fun e=>(by injection e with e;cases e)⟩;injection e with e
   injection e with e1 e2 e3
   subst e1;subst e3;exact ⟨rows,ds,e2,rfl,hr,hd,rfl⟩
  | false =>
   simp only [cond_false];have hb':bs.length≤n+c:=hb.resolve_right fun h2=>by rw [I0,hz] at h2;cases h2.1
   rcases zd hi hl hL (by omega) hd h hr with ⟨e1,f,e2,_⟩ | ⟨e1,n',r',b',d',e2⟩ | ⟨m1,rows1,bs1,ds1,e1,e2,l1,o1,d1⟩
   ·rw [e1];exact ⟨fun m qs' bs' e=>(by injection e with e;cases e),fun e=>(by injection e with e;cases e)⟩
   ·rw [e1,e2];exact ⟨fun m qs' bs' e=>(by injection e with e;cases e),fun _=>⟨_,rfl⟩⟩
   ·rw [e1,e2];simp only [Option.bind_some];have hq:i<(rows.map (·.q)).length:=by simpa using hi
    obtain ⟨a1,a2,a3,a4⟩:=pQ h hq e1;have hb1:bs1.length≤m1+c∨(eD ((rows1.map (·.q)).getD i b9)=true∧bs1.length≤m1+c+1):=by
     rcases a4 with ⟨e1,a4⟩ | ⟨e1,_⟩
     ·exact .inr ⟨kM.2 a4,by omega⟩
     ·exact .inl (by omega)
    have ih:=J8 u0 n0 hL N i m1 c rows1 bs1 ds1 (by omega) (by omega) a1 o1 d1 hc hb1;rw [l1] at ih;exact ih
def Hz (u0:List Int) (n i2:Nat) (s2:Fv):Option (eR Fv Fv wZ) :=
 (gn (σ:=Fv) (ε:=Fv) (ρ:=(eR Fv Fv wZ)) (E9 u0 n i2) 4294967296 (s2.1,s2.2.1,s2.2.2.1,s2.2.2.2)).bind <| aft fun u2 =>
 some (.go (u2.1,u2.2.1,u2.2.2.1,u2.2.2.2))
theorem J3 (u0:List Int) (n0:Nat) {L:Nat} (hL:L≤6000) {f0:aJ→Int}:∀ (k i n:Nat) (rows:List Rf) (bs ds:List Bind) (f:aJ→Int),i+k=L→rows.length=L→jx n (rows.map (·.q)) bs→(∀ r∈rows,okF L r)→ds.length≤n→bs.length≤n+i→G2 f0 f n i (rows.map (·.q)) bs →
 (∃ m rows' bs' ds',dn (Hz u0 n0) (fun i2 s2=>(s2.1,s2.2.1,s2.2.2.1,s2.2.2.2)) k i (rows,bs,ds,(n:Int))=some (.brk (rows',bs',ds',((m:Nat):Int)))∧m<1000000000∧bs'.length≤m+L) ∨
 ∃ g,dn (Hz u0 n0) (fun i2 s2=>(s2.1,s2.2.1,s2.2.2.1,s2.2.2.2)) k i (rows,bs,ds,(n:Int))=some (.ret ([],0,g,3))
 | 0,i,n,rows,bs,ds,f,hk,hl,h,hr,hd,hb,hs=>.inl ⟨n,rows,bs,ds,rfl,h.n2,by omega⟩
 | k+1,i,n,rows,bs,ds,f,hk,hl,h,hr,hd,hb,hs=>by
  have hi:i<rows.length:=by omega
  have hiq:i<(rows.map (·.q)).length:=by simpa using hi
  simp only [dn,Hz];obtain ⟨r1,r2⟩:=J8 u0 n0 hL 4294967296 i n i rows bs ds hi (by omega) h hr hd (by omega) (.inl hb);obtain ⟨s1,s2⟩:=Ad 4294967296 n (rows.map (·.q)) bs f h (Nat.le_refl _) hiq hs;obtain ⟨r,e⟩:=xb (N:=4294967296) h hiq (by omega);cases r with
  | no=>exact absurd e s1
  | lim =>
   obtain ⟨g,e2⟩:=r2 e;rw [e2];exact .inr ⟨g,rfl⟩
  | ok m1 qs1 bs1 =>
   obtain ⟨rows1,ds1,q1,l1,o1,d1,e2⟩:=r1 m1 qs1 bs1 e;obtain ⟨a1,a2,a3,a4,a5⟩:=sy 4294967296 i n i (rows.map (·.q)) bs h hiq (.inl hb) m1 qs1 bs1 e;obtain ⟨_,f',hf'⟩:=s2 m1 qs1 bs1 e;rw [e2];simp only [Option.bind_some,Sh.aft,tN];rw [← q1] at a1 hf';have:=J3 u0 n0 hL (f0:=f') k (i+1) m1 rows1 bs1 ds1 f' (by omega) (by omega) a1 o1 d1 (by omega) ⟨fun _ _=>rfl,fun j hj=>hf'.rw j (by omega),hf'.bd⟩;exact this
def B6:Nat:=1000006000
theorem J9:B6=1000006000:=rfl
theorem wC {l:List Linear} {n:Nat} {f:aJ→Int} (hl:l.length≤100) (hf:(∀ q∈l,aA q=true)→1≤n→n<1000000000→∀ q∈l,uH n q∧ga f q=0):∃ r,lg l (n:Int)=some r∧(r.2.2.2 != 9)=true:=by
 unfold lg;rw [r6];simp only [Option.bind_some];cases hv:l.all aA with
 | false=>exact ⟨_,rfl,rfl⟩
 | true =>
  rw [MS] at hv;simp only [cond_true];by_cases h1:(n:Int)<1
  ·rw [ML h1];exact ⟨_,rfl,rfl⟩
  ·rw [MK h1];by_cases h2:(n:Int)≥1000000000
   ·rw [ML h2];exact ⟨_,rfl,rfl⟩
   ·rw [MK h2];simp only [cond_false];have hl12:∀ q∈l,q.Terms.length≤12:=fun q hq=>bc (hv q hq);obtain ⟨g,eg⟩:=tq hl12 hl;rw [eg];simp only [Option.bind_some];cases decide (g≥(n:Int)) with
    | true=>exact ⟨_,rfl,rfl⟩
    | false =>
     simp only [cond_false];rw [MK (show ¬ (l.length:Int)>6000 by omega)];simp only [cond_false];have hf:=hf hv (by omega) (by omega);obtain ⟨u0,e0,hu0⟩:=jl (ε:=List Int) (ρ:=Empty) (fin:=fun i0 s0=>s0) (fun j s=>s.length≤j∧∀ z∈s,0≤z∧z<(l.length:Int))
      (body:=fun i0 s0 =>
    (fj (Linear.mk ((l.getD i0 ⟨0,[]⟩).Const) ((l.getD i0 ⟨0,[]⟩).Terms)) (Linear.mk 0 [])).bind fun y2 =>
    ((
     bif y2 then (
      some s0
     ) else (
      bf ((s0.length+1)*8≤140737488355328) <|
      some (s0++[((i0:Nat):Int)])
     )
    ):Option (List Int)).bind fun v1 =>
    some (.go v1)) (l.length-0) 0 [] ⟨by simp,fun z hz=>by simp at hz⟩ (fun j s _ hj hs=>by
     rw [yA];simp only [Option.bind_some];cases eD (l.getD j b9) with
     | true=>exact ⟨s,rfl,by have:=hs.1;omega,hs.2⟩
     | false =>
      refine ⟨s++[((j:Nat):Int)],?_,by have:=hs.1;simp;omega,fun z hz => ?_⟩
      ·simp only [cond_false];rw [aD (by have:=hs.1;omega)];rfl
      ·rcases List.mem_append.1 hz with hz | hz
       ·exact hs.2 z hz
       ·rw [List.mem_singleton.1 hz];omega)
     have hulen:u0.length≤l.length:=by have:=hu0.1;omega
     obtain ⟨u1,e1,hu1⟩:=jl (ε:=List Rf) (ρ:=Empty) (fin:=fun i1 s1=>s1) (fun j s=>s.length=j∧∀ r∈s,r.q∈l∧okF u0.length r)
      (body:=fun i1 s1 =>
    bf (0≤(u0.getD i1 0)∧(u0.getD i1 0)<(l.length:Int)) <|
    bf (8*u0.length≤140737488355328) <|
    bf (i1<(List.replicate u0.length (0:Int)).length) <|
    bf ((s1.length+1)*72≤140737488355328) <|
    some (.go (s1++[(ak.mk (Linear.mk ((l.getD (u0.getD i1 0).toNat ⟨0,[]⟩).Const) ((l.getD (u0.getD i1 0).toNat ⟨0,[]⟩).Terms)) ((List.replicate u0.length (0:Int)).set i1 1) 1 false)]))) (u0.length-0) 0 [] ⟨rfl,fun r hr=>by simp at hr⟩ (fun j s _ hj hs=>by
     have hj':j<u0.length:=by omega
     have hz:u0.getD j 0∈u0:=ba _ hj';obtain ⟨z1,z2⟩:=hu0.2 _ hz;refine ⟨s++[ak.mk (l.getD (u0.getD j 0).toNat b9) ((List.replicate u0.length (0:Int)).set j 1) 1 false],?_,?_⟩
     ·rw [aD ⟨z1,z2⟩,aD (by omega),aD (by simp;omega),aD (by have:=hs.1;omega)]
     ·refine ⟨by have:=hs.1;simp;omega,fun r hr => ?_⟩;rcases List.mem_append.1 hr with hr | hr
      ·exact hs.2 r hr
      ·rw [List.mem_singleton.1 hr];exact ⟨ba b9 (by omega),⟨.inr ⟨show (1:Int)≠0 by omega,by simp⟩⟩⟩)
     have hrl:u1.length=u0.length:=by have:=hu1.1;omega
     have hS:jx n (u1.map (·.q)) []:=⟨by omega,by omega,fun q hq=>by obtain ⟨r,hr,rfl⟩:=List.mem_map.1 hq;have hm:=(hu1.2 r hr).1;exact ⟨hv _ hm,(hf _ hm).1⟩,fun b hb=>by simp at hb⟩
     have hsol:G2 f f n 0 (u1.map (·.q)) []:=⟨fun _ _=>rfl,fun j _=>by
      rw [I0];by_cases hj:j<u1.length
      ·exact (hf _ (hu1.2 _ (ba ky hj)).1).2
      ·have:u1.getD j ky=ky:=by rw [ME,List.getElem?_eq_none (by omega)];rfl
       rw [this];exact A0 f,fun b hb=>by simp at hb⟩
     refine Exists.imp (fun r=>And.imp_left fun h=>(congrArg (fun o:Option (Out (List Int) Empty)=>Option.bind o _) e0).trans h) ?_;simp only [Option.bind_some,ca];refine Exists.imp (fun r=>And.imp_left fun h=>(congrArg (fun o:Option (Out (List Rf) Empty)=>Option.bind o _) e1).trans h) ?_;simp only [Option.bind_some,ca];have hrun:=J3 u0 l.length (L:=u0.length) (by omega) (f0:=f) u0.length 0 n u1 [] [] f (by omega) hrl hS (fun r hr=>(hu1.2 r hr).2) (by simp) (by simp) hsol;rw [show u0.length-0=u0.length from rfl];rcases hrun with ⟨m,rows',bs',ds',e2,hm,hbl⟩ | ⟨g,e2⟩
     ·refine Exists.imp (fun r=>And.imp_left fun h=>(congrArg (fun o:Option (Out Fv wZ)=>Option.bind o _) e2).trans h) ?_;simp only [Option.bind_some,Sh.aft];rw [MK (show ¬ ((m:Nat):Int)≥1000000000 by omega)];simp only [cond_false];obtain ⟨vs,ev,hvs⟩:=su hl12 hl;rw [ev];simp only [Option.bind_some];obtain ⟨out,e3,_⟩:=jl (ε:=List Bind) (ρ:=Empty) (fin:=fun i3 s4=>s4) (fun j s=>s.length≤j*B6)
       (body:=fun i3 s4 =>
     (dn (σ:=(List Bind)) (ε:=(List Bind)) (ρ:=Empty) (fun i4 s5 =>
      ((
       bif (((bs'.getD i4 (⟨0,[],⟨0,[]⟩,⟨[],[]⟩,[]⟩)).Var)==(vs.getD i3 [])) then (
        bf ((s5.length+1)*112≤140737488355328) <|
        some (s5++[(Bind.mk ((bs'.getD i4 (⟨0,[],⟨0,[]⟩,⟨[],[]⟩,[]⟩)).Kind) ((bs'.getD i4 (⟨0,[],⟨0,[]⟩,⟨[],[]⟩,[]⟩)).Var) (Linear.mk (((bs'.getD i4 (⟨0,[],⟨0,[]⟩,⟨[],[]⟩,[]⟩)).Dim).Const) (((bs'.getD i4 (⟨0,[],⟨0,[]⟩,⟨[],[]⟩,[]⟩)).Dim).Terms)) (Shape.mk (((bs'.getD i4 (⟨0,[],⟨0,[]⟩,⟨[],[]⟩,[]⟩)).Row).Row) (((bs'.getD i4 (⟨0,[],⟨0,[]⟩,⟨[],[]⟩,[]⟩)).Row).Dims)) ((bs'.getD i4 (⟨0,[],⟨0,[]⟩,⟨[],[]⟩,[]⟩)).Elem))])
       ) else (
        some s5
       )
      ):Option (List Bind)).bind fun v2 =>
      some (.go v2)
     ) (fun i4 s5=>s5) (bs'.length-0) 0 s4).bind <| ca fun u4 =>
     some (.go u4)) (vs.length-0) 0 [] (by simp) (fun j s _ hj hs=>by
      obtain ⟨s',e4,h4⟩:=jl (ε:=List Bind) (ρ:=Empty) (fin:=fun i4 s5=>s5) (fun k s5=>s5.length≤j*B6+k)
       (body:=fun i4 s5 =>
        ((
         bif (((bs'.getD i4 (⟨0,[],⟨0,[]⟩,⟨[],[]⟩,[]⟩)).Var)==(vs.getD j [])) then (
          bf ((s5.length+1)*112≤140737488355328) <|
          some (s5++[(Bind.mk ((bs'.getD i4 (⟨0,[],⟨0,[]⟩,⟨[],[]⟩,[]⟩)).Kind) ((bs'.getD i4 (⟨0,[],⟨0,[]⟩,⟨[],[]⟩,[]⟩)).Var) (Linear.mk (((bs'.getD i4 (⟨0,[],⟨0,[]⟩,⟨[],[]⟩,[]⟩)).Dim).Const) (((bs'.getD i4 (⟨0,[],⟨0,[]⟩,⟨[],[]⟩,[]⟩)).Dim).Terms)) (Shape.mk (((bs'.getD i4 (⟨0,[],⟨0,[]⟩,⟨[],[]⟩,[]⟩)).Row).Row) (((bs'.getD i4 (⟨0,[],⟨0,[]⟩,⟨[],[]⟩,[]⟩)).Row).Dims)) ((bs'.getD i4 (⟨0,[],⟨0,[]⟩,⟨[],[]⟩,[]⟩)).Elem))])
         ) else (
          some s5
         )
        ):Option (List Bind)).bind fun v2 =>
        some (.go v2)) (bs'.length-0) 0 s (by rw [Nat.add_zero];exact hs) (fun k s5 _ hk h5=>by
       have hjv:j≤1200:=by omega
       have hB:=Nat.mul_le_mul_right B6 hjv;have hB2:=J9;cases (bs'.getD k wv).Var==vs.getD j [] with
       | true =>
        refine ⟨s5++[bs'.getD k wv],?_,?_⟩
        ·simp only [cond_true];rw [aD (by omega)];rfl
        ·simp;omega
       | false=>exact ⟨s5,rfl,by omega⟩)
      refine ⟨s',?_,by have hB2:=J9;rw [Nat.succ_mul];omega⟩;refine (congrArg (fun o:Option (Out (List Bind) Empty)=>Option.bind o _) e4).trans ?_;rfl)
      refine ⟨(out,(m:Int),al.mk [] 0,0),?_,rfl⟩;refine (congrArg (fun o:Option (Out (List Bind) Empty)=>Option.bind o _) e3).trans ?_;rfl
     ·refine Exists.imp (fun r=>And.imp_left fun h=>(congrArg (fun o:Option (Out Fv wZ)=>Option.bind o _) e2).trans h) ?_;exact ⟨_,rfl,rfl⟩
theorem xu (l:List Linear) (vs:List Value):la l vs=some (l.all fun q=>(zT vs q).2==0&&(zT vs q).1==0):=by
 unfold la;rw [jk (r:=false) (fun j=>(fun q:Linear=>(zT vs q).2==0&&(zT vs q).1==0) (l.getD j b9)) _ _ () (fun j u _ _=>by
  rw [lJ,yW];simp only [Option.bind_some];cases (zT vs (l.getD j b9)).2==0 with
  | false=>rfl
  | true=>cases (zT vs (l.getD j b9)).1==0<;>rfl)]
 rw [Gh (fun q:Linear=>(zT vs q).2==0&&(zT vs q).1==0) b9 l,jR];cases l.all fun q=>(zT vs q).2==0&&(zT vs q).1==0<;>rfl
theorem Ec {α:Type} [DecidableEq α]:∀ (b l:List α),l.Nodup→(∀ x∈l,x∈b)→l.length≤b.length
 | [],l,_,h=>by
  cases l with
  | nil=>simp
  | cons x l=>exact absurd (h x (by simp)) (by simp)
 | c::b,l,hn,h=>by
  by_cases hc:c∈l
  ·have:=Ec b (l.erase c) (hn.erase c) fun x hx=>by
    have h1:=(hn.mem_erase_iff).1 hx;rcases List.mem_cons.1 (h x h1.2) with e | e
    ·exact absurd e h1.1
    ·exact e
   rw [List.length_erase_of_mem hc] at this;simp only [List.length_cons];omega
  ·have:=Ec b l hn fun x hx=>by
    rcases List.mem_cons.1 (h x hx) with e | e
    ·rw [e] at hx;exact absurd hx hc
    ·exact e
   simp only [List.length_cons];omega
theorem LP {l:List Linear} {n:Nat} (hv:∀ q∈l,aA q=true) (h1:1≤n) (h:∀ q∈l,uH n q):Jp l<n:=by
 obtain ⟨_,hm,_⟩:=kG (l:=l) fun q hq=>bc (hv q hq);have key:∀ (vs:List aJ) (a:Int),a<n→(∀ v∈vs,fX v<n)→vs.foldl (fun n v=>if fX v>n then fX v else n) a<n:=by
  intro vs;induction vs with
  | nil=>intro a ha _;exact ha
  | cons v vs ih =>
   intro a ha hv;simp only [List.foldl_cons];refine ih _ ?_ fun w hw=>hv w (by simp [hw]);have:=hv v (by simp);by_cases hc:fX v>a
   ·rw [if_pos hc];exact this
   ·rw [if_neg hc];exact ha
 exact key _ 0 (by omega) fun v hv2=>by obtain ⟨q,hq,t,ht,e⟩:=(hm v).1 hv2;rw [← e];exact h q hq t ht
theorem Gu {q:Linear} (hv:aA q=true):cW (Linear.mk 0 []) q 1=some q:=by
 have hc:=pV hv;have hC:=bD hv;have hw:∀ a:Int,-1000000≤a→a≤1000000→aK (1*a)=1*a:=fun a h1 h2=>aU (by omega) (by omega);rw [mM _ _ _ (by simp) (by have:=bc hv;omega)];unfold lU;simp only;have e:=yr 1 (by decide) q.Terms [] (by simpa using iD hv) (fun t ht=>by simp at ht) (fun t ht=>⟨cD hv t ht,hw _ (hC t ht).1.1 (hC t ht).1.2⟩);rw [List.nil_append] at e;have ew:aK (0+aK (1*q.Const))=q.Const:=by rw [hw _ hc.1 hc.2,Int.one_mul,Int.zero_add];exact aU (by omega) (by omega)
 have em:q.Terms.map (IE 1)=q.Terms:=by
  have:IE 1=id:=funext fun t=>by show au.mk t.Var (1*t.C)=t;rw [Int.one_mul]
  rw [this,List.map_id]
 rw [ew];exact congrArg (fun x=>some (Linear.mk q.Const x)) (e.trans em)
theorem LD {B:Int} {K:Nat} {ts:List au} (h:RB B K ts) (hB:0≤B) (v:aJ) : -B≤kv v ts∧kv v ts≤B:=by
 by_cases h0:kv v ts=0
 ·omega
 ·obtain ⟨t,ht,_,e⟩:=uC h0;have:=h.bd t ht;omega
theorem FC {B A:Int} {K:Nat} {ts:List au} (h:RB B K ts) (v:aJ) {c:Int} (h1 : -A≤c) (h2:c≤A) (hle:B+A≤9000000000000000000) {t:au} (ht:t∈eT ts v c):t.Var=v∨∃ u∈ts,u.Var=t.Var:=by
 have hw:∀ t∈ts,aK (t.C+c)=t.C+c:=fun t ht=>by have:=h.bd t ht;exact aU (by omega) (by omega)
 rw [zG v c h.srt hw] at ht;rcases uD v c ts t (List.mem_filter.1 ht).1 with h | h
 ·exact .inr ⟨t,h,rfl⟩
 ·exact .inl h.1
theorem sH {f:aJ→Int} {m K N B S:Int} {KK:Nat} {ts:List au} (h:RB B KK ts) (hB:0≤B∧B≤100000000) (hK : -S≤K∧K≤S) (hS:S≤100000000000) (hm:∀ t∈ts,fX t.Var<m) (v:aJ) (hv0:fX v<m) (hN : -20≤N∧N≤20) (hfv:f v=N) (b:Bool) :
 ∃ K' ts',ts'=eT ts v (aK (0-cf (Linear.mk K ts) v))∧(bif b then some (aK ((aK (K+(aK (cf (Linear.mk K ts) v*N))))-N)) else some (aK (K+(aK (cf (Linear.mk K ts) v*N)))):Option Int)=some K' ∧
  RB (2*B) (KK+1) ts'∧(∀ t∈ts',fX t.Var<m)∧(-(S+20*B+20)≤K'∧K'≤S+20*B+20)∧K'+bA f ts'=K+bA f ts-(bif b then N else 0):=by
 have hc:=LD h hB.1 v;have hcN : -(20*B)≤kv v ts*N∧kv v ts*N≤20*B:=by
  have h1:(kv v ts*N).natAbs≤B.toNat*20:=by rw [Int.natAbs_mul];exact Nat.mul_le_mul (by omega) (by omega)
  omega
 have ec:cf (Linear.mk K ts) v=kv v ts:=rfl;rw [ec];have w0:aK (0-kv v ts) = -(kv v ts):=by rw [aU (by omega) (by omega)];omega
 have w1:aK (kv v ts*N)=kv v ts*N:=aU (by omega) (by omega);rw [w0,w1];obtain ⟨p1,p2⟩:=h.plus v (c := -(kv v ts)) (A:=B) hB.1 (by omega) (by omega) (by omega);have hmem:∀ t∈eT ts v (-(kv v ts)),fX t.Var<m:=fun t ht=>by
  rcases FC h v (c := -(kv v ts)) (A:=B) (by omega) (by omega) (by omega) ht with e | ⟨u,hu,e⟩
  ·rw [e];exact hv0
  ·rw [← e];exact hm u hu
 have hlin:bA f (eT ts v (-(kv v ts)))=bA f ts-kv v ts*N:=by rw [p2 f,hfv,Int.neg_mul];omega
 have w2:aK (K+kv v ts*N)=K+kv v ts*N:=aU (by omega) (by omega);rw [w2];cases b with
 | true =>
  refine ⟨K+kv v ts*N-N,_,rfl,?_,p1.mono (by omega) (by omega),hmem,by omega,?_⟩
  ·rw [cond_true,aU (by omega) (by omega)]
  ·rw [hlin,cond_true];omega
 | false =>
  refine ⟨K+kv v ts*N,_,rfl,rfl,p1.mono (by omega) (by omega),hmem,by omega,?_⟩;rw [hlin,cond_false];omega
theorem AZ (a:Int) : -20≤a.tmod 21∧a.tmod 21≤20:=by have h1:=Int.natAbs_tmod a 21;have h2:=Nat.mod_lt a.natAbs (show 0<21 by omega);have h3:(21:Int).natAbs=21:=rfl;rw [h3] at h1;omega
theorem AG (x0:List Linear) (x1:Int×Int×Int×Int):dJ x0 x1=some true:=by
 unfold dJ;rw [D3];simp only [Option.bind_some,cond_true];rw [show (4:Int)=((4:Nat):Int) from rfl,AF];simp only [Option.bind_some];cases hf:x0.all CZ&&decide (x0.length≤4) with
 | false=>rfl
 | true =>
  simp only [MG,MS,decide_eq_true_eq] at hf;simp only [cond_true];rw [r6];simp only [Option.bind_some];cases hv:x0.all aA with
  | false=>rfl
  | true =>
   rw [MS] at hv;simp only [cond_true];rw [yi _ _ ⟨by omega,by omega⟩ (fun q hq=>by have:=bc (hv q hq);omega)];simp only [Option.bind_some];cases hs:x0.all (vn 20) with
   | false=>rfl
   | true =>
    simp only [cond_true];rw [aD (by simp),aD (by simp),aD (by simp),xu];simp only [Option.bind_some];obtain ⟨ha1,ha2⟩:=AZ (IntKind.wrap .i64 x1.1);obtain ⟨hb1,hb2⟩:=AZ (IntKind.wrap .i64 x1.2.1);obtain ⟨hc1,hc2⟩:=AZ (IntKind.wrap .i64 x1.2.2.1);obtain ⟨FT,hd2⟩:=AZ (IntKind.wrap .i64 x1.2.2.2);generalize (IntKind.wrap .i64 x1.1).tmod 21=na at ha1 ha2 ⊢;generalize (IntKind.wrap .i64 x1.2.1).tmod 21=nb at hb1 hb2 ⊢;generalize (IntKind.wrap .i64 x1.2.2.1).tmod 21=nc at hc1 hc2 ⊢;generalize (IntKind.wrap .i64 x1.2.2.2).tmod 21=nd at FT hd2 ⊢;have evs:((([Value.mk [110] na]++[Value.mk [109] nb])++[Value.mk [107] nc])++[Value.mk [97] nd])=[Value.mk [110] na,Value.mk [109] nb,Value.mk [107] nc,Value.mk [97] nd]:=rfl;rw [evs];generalize hvals:[Value.mk [110] na,Value.mk [109] nb,Value.mk [107] nc,Value.mk [97] nd]=vals;have v0:vv vals [110]=na:=by rw [← hvals];rfl
    have v1:vv vals [109]=nb:=by rw [← hvals];rfl
    have v2:vv vals [107]=nc:=by rw [← hvals];rfl
    have v3:vv vals [97]=nd:=by rw [← hvals];rfl
    have g0:vals.getD 0 ⟨[],0⟩=Value.mk [110] na:=by rw [← hvals];rfl
    have g1:vals.getD 1 ⟨[],0⟩=Value.mk [109] nb:=by rw [← hvals];rfl
    have g2:vals.getD 2 ⟨[],0⟩=Value.mk [107] nc:=by rw [← hvals];rfl
    have g3:vals.getD 3 ⟨[],0⟩=Value.mk [97] nd:=by rw [← hvals];rfl
    have hvl:vals.length=4:=by rw [← hvals];rfl
    have hhas:∀ v,F4 vals v→v=[110]∨v=[109]∨v=[107]∨v=[97]:=fun v hh=>by
     have h1:=hh.1;by_cases h2:vals.any (Eg v)=true
     ·rw [← hvals] at h2;simp only [List.any_cons,List.any_nil,Bool.or_false,Bool.or_eq_true,Eg,beq_iff_eq] at h2;rcases h2 with e | e | e | e
      ·exact .inl e.symm
      ·exact .inr (.inl e.symm)
      ·exact .inr (.inr (.inl e.symm))
      ·exact .inr (.inr (.inr e.symm))
     ·have:=(pK (Eg v) vals).2 (by simpa using h2);omega
    cases hH:x0.all fun q=>(zT vals q).2==0&&(zT vals q).1==0 with
    | false=>rfl
    | true =>
     simp only [MS,MG,beq_iff_eq] at hH;simp only [cond_true];have hsat:∀ q∈x0,ga (vv vals) q=0:=fun q hq=>by have:=(HK (hH q hq).1).2.1;rw [(hH q hq).2] at this;omega
     have hvars:∀ q∈x0,∀ t∈q.Terms,t.Var=[110]∨t.Var=[109]∨t.Var=[107]∨t.Var=[97]:=fun q hq t ht=>hhas _ ((HK (hH q hq).1).2.2 t ht);have fr0:∀ v:aJ,v=[110]∨v=[109]∨v=[107]∨v=[97]→fX v=0:=fun v hv=>by rcases hv with e | e | e | e<;>rw [e]<;>rfl
     have hFr:∀ q∈x0,uH ((1:Nat):Int) q:=fun q hq t ht=>by rw [fr0 _ (hvars q hq t ht)];omega
     have hg:=LP (n:=1) hv (by omega) hFr;obtain ⟨rf,eS,_⟩:=BS (n:=1) hv (by omega) (by omega) hg (by omega);rw [show bJ x0 (1:Int)=some ((kK x0 1).1.1,(kK x0 1).1.2,rf,(kK x0 1).2) from eS];simp only [Option.bind_some];have hS:=tI hv (show 1≤1 by omega) (by omega) hg;obtain ⟨hn9,hsol⟩:=FB hS hsat;obtain ⟨r,hr⟩:=uY x0.length 0 1 x0 [] (by omega) hS (by simp);unfold kK at hn9 ⊢;rw [hr] at hn9 ⊢;cases r with
     | no=>exact absurd rfl hn9
     | lim=>rfl
     | ok m qs bs =>
      simp only;obtain ⟨a1,a2,a3,a4⟩:=Ag x0.length 0 1 x0 [] (by omega) hS (zW x0) (by simp) m qs bs hr;obtain ⟨f,hag,hbd⟩:=hsol m qs bs hr;have hn:∀ v:aJ,v=[110]∨v=[109]∨v=[107]∨v=[97]→f v=vv vals v:=fun v hv=>hag v (by rw [fr0 v hv];omega);have f0:f [110]=na:=by rw [hn _ (.inl rfl),v0]
      have f1:f [109]=nb:=by rw [hn _ (.inr (.inl rfl)),v1]
      have f2:f [107]=nc:=by rw [hn _ (.inr (.inr (.inl rfl))),v2]
      have f3:f [97]=nd:=by rw [hn _ (.inr (.inr (.inr rfl))),v3]
      have hm1:=a1.n1;have hm2:=a1.n2;have holen:(oT x0 bs).length≤100:=by
       obtain ⟨_,_,v3⟩:=kG (l:=x0) fun q hq=>bc (hv q hq);have:=Ec (gu x0) ((oT x0 bs).map Bind.Var) (Jy a2.D) fun v hv2=>by obtain ⟨b,hb,e⟩:=List.mem_map.1 hv2;rw [← e];exact (CR.1 hb).2
       rw [MM] at this;omega
      have e0:((0:Int)==0)=true:=rfl;rw [e0,cond_true];obtain ⟨s',el,hI⟩:=jl (ε:=List Linear) (ρ:=Empty) (fin:=fun i0 s0=>s0.2) (fun j (s:List Value×List Linear)=>s.1=vals∧s.2.length=j∧∀ q∈s.2,uH (m:Int) q∧ga f q=0)
       (body:=fun i0 s0 =>
        (cW (Linear.mk 0 []) (Linear.mk ((((oT x0 bs).getD i0 (⟨0,[],⟨0,[]⟩,⟨[],[]⟩,[]⟩)).Dim).Const) ((((oT x0 bs).getD i0 (⟨0,[],⟨0,[]⟩,⟨[],[]⟩,[]⟩)).Dim).Terms)) 1).bind fun y6 =>
        (cr y6 [110]).bind fun y7 =>
        (bQ y6 [110] (aK (0-y7))).bind fun y8 =>
        bf (0<s0.1.length) <|
        ((
         bif ([110]==(((oT x0 bs).getD i0 (⟨0,[],⟨0,[]⟩,⟨[],[]⟩,[]⟩)).Var)) then (
          some (aK ((aK (y8.Const+(aK (y7*((s0.1.getD 0 ⟨[],0⟩).N)))))-((s0.1.getD 0 ⟨[],0⟩).N)))
         ) else (
          some (aK (y8.Const+(aK (y7*((s0.1.getD 0 ⟨[],0⟩).N)))))
         )
        ):Option Int).bind fun v0 =>
        (cr (Linear.mk v0 y8.Terms) [109]).bind fun y9 =>
        (bQ (Linear.mk v0 y8.Terms) [109] (aK (0-y9))).bind fun y10 =>
        bf (1<s0.1.length) <|
        ((
         bif ([109]==(((oT x0 bs).getD i0 (⟨0,[],⟨0,[]⟩,⟨[],[]⟩,[]⟩)).Var)) then (
          some (aK ((aK (y10.Const+(aK (y9*((s0.1.getD 1 ⟨[],0⟩).N)))))-((s0.1.getD 1 ⟨[],0⟩).N)))
         ) else (
          some (aK (y10.Const+(aK (y9*((s0.1.getD 1 ⟨[],0⟩).N)))))
         )
        ):Option Int).bind fun v1 =>
        (cr (Linear.mk v1 y10.Terms) [107]).bind fun y11 =>
        (bQ (Linear.mk v1 y10.Terms) [107] (aK (0-y11))).bind fun y12 =>
        bf (2<s0.1.length) <|
        ((
         bif ([107]==(((oT x0 bs).getD i0 (⟨0,[],⟨0,[]⟩,⟨[],[]⟩,[]⟩)).Var)) then (
          some (aK ((aK (y12.Const+(aK (y11*((s0.1.getD 2 ⟨[],0⟩).N)))))-((s0.1.getD 2 ⟨[],0⟩).N)))
         ) else (
          some (aK (y12.Const+(aK (y11*((s0.1.getD 2 ⟨[],0⟩).N)))))
         )
        ):Option Int).bind fun v2 =>
        (cr (Linear.mk v2 y12.Terms) [97]).bind fun y13 =>
        (bQ (Linear.mk v2 y12.Terms) [97] (aK (0-y13))).bind fun y14 =>
        bf (3<s0.1.length) <|
        ((
         bif ([97]==(((oT x0 bs).getD i0 (⟨0,[],⟨0,[]⟩,⟨[],[]⟩,[]⟩)).Var)) then (
          some (aK ((aK (y14.Const+(aK (y13*((s0.1.getD 3 ⟨[],0⟩).N)))))-((s0.1.getD 3 ⟨[],0⟩).N)))
         ) else (
          some (aK (y14.Const+(aK (y13*((s0.1.getD 3 ⟨[],0⟩).N)))))
         )
        ):Option Int).bind fun v3 =>
        bf ((s0.2.length+1)*32≤140737488355328) <|
        some (.go (s0.1,(s0.2++[(Linear.mk v3 y14.Terms)])))) ((oT x0 bs).length-0) 0 (vals,[]) ⟨rfl,rfl,fun q hq=>by simp at hq⟩ (fun j s _ hj hI=>by
        have hjl:j<(oT x0 bs).length:=by omega
        have hm:=ba wv hjl;obtain ⟨hb,hbv⟩:=CR.1 hm;obtain ⟨bv1,bv2,_,_⟩:=a1.bv _ hb;have hbd:=hbd _ hb;have hbn:((oT x0 bs).getD j wv).Var=[110]∨((oT x0 bs).getD j wv).Var=[109]∨((oT x0 bs).getD j wv).Var=[107]∨((oT x0 bs).getD j wv).Var=[97]:=by obtain ⟨q,hq,t,ht,e⟩:=((kG (l:=x0) fun q hq=>bc (hv q hq)).2.1 _).1 hbv;rw [← e];exact hvars q hq t ht
        generalize (oT x0 bs).getD j wv=b at bv1 bv2 hbd hbn ⊢;have hl12:=bc bv1;have hcst:=pV bv1;have hC:=bD bv1;obtain ⟨i1,i2,i3⟩:=hI;rw [i1,lJ,Gu bv1];simp only [Option.bind_some];have r0:RB 1000000 12 b.Dim.Terms:=⟨iD bv1,cD bv1,fun t ht=>(hC t ht).1,hl12⟩;obtain ⟨K1,t1,et1,eK1,r1,m1,k1,l1⟩:=sH (f:=f) (m:=(m:Int)) (S:=1000000) r0 (by omega) hcst (by omega) bv2 [110] (by rw [fr0 _ (.inl rfl)];omega) ⟨ha1,ha2⟩ f0 ([110]==b.Var);obtain ⟨K2,t2,et2,eK2,r2,m2,k2,l2⟩:=sH (f:=f) (m:=(m:Int)) r1 (by omega) k1 (by omega) m1 [109] (by rw [fr0 _ (.inr (.inl rfl))];omega) ⟨hb1,hb2⟩ f1 ([109]==b.Var);obtain ⟨K3,t3,et3,eK3,r3,m3,k3,l3⟩:=sH (f:=f) (m:=(m:Int)) r2 (by omega) k2 (by omega) m2 [107] (by rw [fr0 _ (.inr (.inr (.inl rfl)))];omega) ⟨hc1,hc2⟩ f2 ([107]==b.Var);obtain ⟨K4,t4,et4,eK4,r4,m4,k4,l4⟩:=sH (f:=f) (m:=(m:Int)) r3 (by omega) k3 (by omega) m3 [97] (by rw [fr0 _ (.inr (.inr (.inr rfl)))];omega) ⟨FT,hd2⟩ f3 ([97]==b.Var);have q1:=r1.len;have q2:=r2.len;have q3:=r3.len;have ex:b.Dim=Linear.mk b.Dim.Const b.Dim.Terms:=rfl;rw [gD];simp only [Option.bind_some];rw [oz _ _ _ (by omega)];simp only [Option.bind_some];rw [aD (by omega),g0,show (Value.mk [110] na).N=na from rfl,show (Linear.mk b.Dim.Const (eT b.Dim.Terms [110] (aK (0-cf b.Dim [110])))).Const=b.Dim.Const from rfl];rw [show (bif [110]==b.Var then some (aK (aK (b.Dim.Const+aK (cf b.Dim [110]*na))-na)) else some (aK (b.Dim.Const+aK (cf b.Dim [110]*na))):Option Int)=some K1 from eK1,show eT b.Dim.Terms [110] (aK (0-cf b.Dim [110]))=t1 from et1.symm];simp only [Option.bind_some];rw [gD];simp only [Option.bind_some];rw [oz _ _ _ (by simp only;omega)];simp only [Option.bind_some];rw [aD (by omega),g1,show (Value.mk [109] nb).N=nb from rfl];rw [eK2,← et2];simp only [Option.bind_some];rw [gD];simp only [Option.bind_some];rw [oz _ _ _ (by simp only;omega)];simp only [Option.bind_some];rw [aD (by omega),g2,show (Value.mk [107] nc).N=nc from rfl];rw [eK3,← et3];simp only [Option.bind_some];rw [gD];simp only [Option.bind_some];rw [oz _ _ _ (by simp only;omega)];simp only [Option.bind_some];rw [aD (by omega),g3,show (Value.mk [97] nd).N=nd from rfl];rw [eK4,← et4];simp only [Option.bind_some];rw [aD (by omega)];refine ⟨(vals,s.2++[Linear.mk K4 t4]),rfl,rfl,by simp;omega,fun q hq => ?_⟩;rcases List.mem_append.1 hq with hq | hq
        ·exact i3 q hq
        ·rw [List.mem_singleton.1 hq];refine ⟨m4,?_⟩;have hdel:(bif [110]==b.Var then na else 0)+(bif [109]==b.Var then nb else 0)+(bif [107]==b.Var then nc else 0)+(bif [97]==b.Var then nd else 0)=f b.Var:=by rcases hbn with e | e | e | e<;>rw [e]<;>simp [f0,f1,f2,f3]
         have hl:b.Dim.Const+bA f b.Dim.Terms=ga f b.Dim:=rfl;show K4+bA f t4=0;omega)
      refine (congrArg (fun o:Option (Out (List Linear) Empty)=>Option.bind o _) el).trans ?_;simp only [Option.bind_some,ca];rw [if_neg (show ¬ (1:Int)>(m:Int) by omega)];obtain ⟨r,er,h9⟩:=wC (l:=s'.2) (n:=m) (f:=f) (by have:=hI.2.1;omega) fun _ _ _=>hI.2.2;rw [er];simp only [Option.bind_some];rw [h9]
end Go.Proofs.YtlhcekghjfjajaaGreatDoor
