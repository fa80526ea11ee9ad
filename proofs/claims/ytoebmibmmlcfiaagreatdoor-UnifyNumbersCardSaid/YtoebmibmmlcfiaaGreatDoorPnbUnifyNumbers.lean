/- Plain laws: what the walked functions compute answers as the statement says. -/
import Derived.Test.YtoebmibmmlcfiaaGreatDoorPnaUnifyNumbers
import Derived.KernelRfl
set_option linter.unusedSimpArgs false
set_option linter.unusedVariables false
namespace Go.Proofs.YtoebmibmmlcfiaaGreatDoor
open Go.Ab Go.Sh
theorem Gz (f:ak→Int) {q:Linear} (hd:q.Const.tmod (cont q)=0):mz f q=(cont q:Int)*mz f (bj (cont q) q):=by
 have h1:(cont q:Int)*q.Const.tdiv (cont q)=q.Const:=by have:=Int.mul_tdiv_add_tmod q.Const (cont q);omega
 have h2:∀ ts:List au,(∀ t∈ts,((cont q:Nat):Int) ∣ t.C)→du f ts=(cont q:Int)*du f (ts.map fun t=>au.mk t.Var (t.C.tdiv (cont q))):=by
  intro ts;induction ts with
  | nil=>intro _;simp [du]
  | cons t ts ih =>
   intro h;simp only [du,List.map_cons];rw [ih fun u hu=>h u (by simp [hu]),Int.mul_add,← Int.mul_assoc,Int.mul_tdiv_cancel' (h t (by simp))]
 show q.Const+du f q.Terms=(cont q:Int)*(q.Const.tdiv (cont q)+du f (q.Terms.map fun t=>au.mk t.Var (t.C.tdiv (cont q))));rw [Int.mul_add,h1,← h2 q.Terms wN]
theorem va {q:Linear} (hv:ax q=true) {v:ak} (h:cf q v=0):v ∉ q.Terms.map au.Var:=fun hm=>by obtain ⟨t,ht,rfl⟩:=List.mem_map.1 hm;have e:cf q t.Var=t.C:=oK (gG hv) ht;exact ij hv t ht (by omega)
theorem zp (q:Linear):(bj (cont q) q).Terms.map au.Var=q.Terms.map au.Var:=by show (q.Terms.map fun t=>au.mk t.Var (t.C.tdiv (cont q))).map au.Var=_;rw [List.map_map];rfl
theorem GJ {t:au} {q:Linear} {v:ak} (h:v=t.Var∨v ∉ q.Terms.map au.Var):cf (FB t q) v=0:=by
 refine lI fun hm => ?_;obtain ⟨u,hu,e⟩:=List.mem_map.1 hm;obtain ⟨z,hz,rfl⟩:=List.mem_map.1 (show u∈(q.Terms.filter fun u => !(u.Var==t.Var)).map fun u=>au.mk u.Var (-t.C*u.C) from hu);obtain ⟨h1,h2⟩:=List.mem_filter.1 hz;have e:z.Var=v:=e;rcases h with h | h
 ·rw [e,h] at h2;simp at h2
 ·exact h (List.mem_map.2 ⟨z,h1,e⟩)
theorem IF {t:au} {n:Nat} {q:Linear} {v:ak} (hn:v≠lW n) (h:v=t.Var∨v ∉ q.Terms.map au.Var):cf (F4 t n q) v=0:=by
 refine lI fun hm => ?_;obtain ⟨u,hu,e⟩:=List.mem_map.1 hm;have hu:=(o9 _).mem_iff.1 (show u∈CT (ss t n q.Terms) from hu);unfold ss at hu;rcases List.mem_cons.1 hu with rfl | hu
 ·exact hn e.symm
 ·obtain ⟨z,hz,rfl⟩:=List.mem_map.1 hu;obtain ⟨h1,h2⟩:=List.mem_filter.1 hz;have e:z.Var=v:=e;rcases h with h | h
  ·rw [e,h] at h2;simp at h2
  ·exact h (List.mem_map.2 ⟨z,h1,e⟩)
theorem Ak {α:Type} {l:List α} {i:Nat} {x y:α} (h:y∈(l.set i x).drop i):y=x∨y∈l.drop (i+1):=by
 by_cases hi:i<l.length
 ·rw [List.drop_eq_getElem_cons (by simpa using hi),List.drop_set_of_lt (by omega)] at h;rcases List.mem_cons.1 h with h | h
  ·left;rw [h,List.getElem_set_self]
  ·exact .inr h
 ·rw [List.drop_of_length_le (by simp;omega)] at h;simp at h
theorem sD {α:Type} {l:List α} {i:Nat} {y:α} (h:y∈l.drop (i+1)):y∈l.drop i:=by rw [show i+1=i+1 from rfl,← List.drop_drop] at h;exact List.mem_of_mem_drop h
theorem Hi {l:List Linear} {i n:Nat} {qs:List Linear} {bs:List Bind} (h:nK n qs bs) (hI:Inv l i qs bs) (hi:i<qs.length) (hno:FW (qs.getD i fW)=false):Inv l i (qs.set i (bj (cont (qs.getD i fW)) (qs.getD i fW))) bs:=by
 obtain ⟨hc,hd⟩:=tF hno;have hv:=(h.qv _ (cb fW hi)).1;refine ⟨by simpa using hI.len,hI.A,fun j h1 h2 => ?_,fun b hb q hq => ?_,hI.C2,hI.D,hI.K⟩
 ·obtain ⟨k,hk,hB⟩:=hI.B j h1 h2;by_cases e:j=i
  ·subst e;refine ⟨k*cont (qs.getD j fW),Int.mul_ne_zero hk (by omega),fun f => ?_⟩;rw [mT hi,hB f,Gz f hd,Int.mul_assoc]
  ·refine ⟨k,hk,fun f => ?_⟩;rw [hB f];congr 2;rw [Mk,Mk,List.getElem?_set_ne (fun e2=>e e2.symm)]
 ·rcases Ak hq with rfl | hq
  ·refine lI ?_;rw [zp];refine va hv (hI.C1 b hb _ ?_);rw [getD_at fW hi,List.drop_eq_getElem_cons hi];exact List.mem_cons_self ..
  ·exact hI.C1 b hb q (sD hq)
theorem FJ {l:List Linear} {i n:Nat} {qs:List Linear} {bs:List Bind} (h:nK n qs bs) (hI:Inv l i qs bs) (hi:i<qs.length) {m:Nat} {qs':List Linear} {bs':List Bind} (e:la i n qs bs = .ok m qs' bs'):Inv l i qs' bs':=by
 obtain ⟨qv,qf⟩:=h.qv _ (cb fW hi);have hset:=yL h hi;have hN:=fun hno=>Hi h hI hi hno;have hmi:qs.getD i fW∈qs.drop i:=by rw [getD_at fW hi,List.drop_eq_getElem_cons hi];exact List.mem_cons_self ..
 have hC:=fun b hb=>va qv (hI.C1 b hb _ hmi);unfold la at e;generalize hQ:qs.getD i fW=q at qv qf e hset hN hC;cases hno:FW q with
 | true=>rw [hno] at e;cases e
 | false =>
  obtain ⟨hc,hd⟩:=tF hno;have hN:=hN hno;rw [hno] at e;simp only [cond_false] at e;have hnv:=iC qv;obtain ⟨tm,_⟩:=Dt qv hc;generalize hT:vZ (bj (cont q) q).Terms=t at tm e;obtain ⟨tb,tn⟩:=cM hnv t tm;have htf:pr t.Var<n:=lE qf t tm;have hat:(qs.set i (bj (cont q) q)).getD i fW=bj (cont q) q:=mT hi;have hi':i<(qs.set i (bj (cont q) q)).length:=by simpa using hi
  have hxi:cf ((qs.set i (bj (cont q) q)).getD i fW) t.Var≠0:=by rw [hat,show cf (bj (cont q) q) t.Var=t.C from oK (gG hnv) tm];exact ij hnv t tm
  have hbv:∀ b∈bs,b.Var ∉ (bj (cont q) q).Terms.map au.Var:=fun b hb=>by rw [zp];exact hC b hb
  cases hu:t.C==1||t.C == -1 with
  | true =>
   rw [hu] at e;exact ET hset hN hi' (Nat.le_refl n) h.n2 tn htf (EH (lE qf)) hxi (GJ (.inl rfl)) (fun b hb=>GJ (.inr (hbv b hb))) e
  | false =>
   rw [hu] at e;simp only [cond_false] at e;cases hl:decide (n+1≥1000000000) with
   | true=>rw [hl] at e;cases e
   | false =>
    rw [hl] at e;have hl:=Mo hl;have hfn:=rW h.n1 h.n2;refine ET hset hN hi' (Nat.le_succ n) (by omega) tn (by omega) (ES h.n1 h.n2 (lE qf)) hxi (IF (fun e => ?_) (.inl rfl)) (fun b hb=>IF (fun e => ?_) (.inr (hbv b hb))) e
    ·rw [e,hfn.2] at htf;omega
    ·have:=(h.bv b hb).2.2.2;rw [e,hfn.2] at this;omega
theorem Cq {l:List Linear}:∀ (N i n:Nat) (qs:List Linear) (bs:List Bind),nK n qs bs→Inv l i qs bs→i<qs.length→∀ (m:Nat) (qs':List Linear) (bs':List Bind),mu N i n qs bs=some (.ok m qs' bs')→Inv l i qs' bs'
 | 0,i,n,qs,bs,h,hI,hi,m,qs',bs',e=>by simp [mu] at e
 | N+1,i,n,qs,bs,h,hI,hi,m,qs',bs',e=>by
  simp only [mu] at e;cases hz:nG (qs.getD i fW) with
  | true =>
   rw [hz] at e;injection e with e
   injection e with e1 e2 e3
   subst e2;subst e3;exact hI
  | false =>
   rw [hz] at e;simp only [cond_false] at e;cases hs:la i n qs bs with
   | no=>rw [hs] at e;cases e
   | lim=>rw [hs] at e;cases e
   | ok m1 qs1 bs1 =>
    rw [hs] at e;obtain ⟨a1,a2,_,_⟩:=tK h hi hs;exact Cq N i m1 qs1 bs1 a1 (FJ h hI hi hs) (by omega) m qs' bs' e
theorem Hf {l:List Linear} {i:Nat} {qs:List Linear} {bs:List Bind} (hI:Inv l i qs bs) (hi:i<l.length) (h0:qs.getD i fW=⟨0,[]⟩):Inv l (i+1) qs bs:=by
 refine ⟨hI.len,fun j hj f => ?_,fun j h1 h2=>hI.B j (by omega) h2,fun b hb q hq=>hI.C1 b hb q (sD hq),hI.C2,hI.D,hI.K⟩;by_cases e:j=i
 ·subst e;obtain ⟨k,_,hB⟩:=hI.B j (Nat.le_refl _) hi;rw [hB f,h0];simp [mz,du]
 ·exact hI.A j (by omega) f
theorem FK (l:List Linear):Inv l 0 l [] :=
 ⟨rfl,fun j hj=>absurd hj (Nat.not_lt_zero _),fun j _ _=>⟨1,by omega,fun f=>by rw [Int.one_mul];have:sv [] f=f:=funext fun v=>CC (by simp) f;rw [this]⟩,fun b hb=>by simp at hb,fun b hb=>by simp at hb,by simp,fun b hb=>by simp at hb⟩
def iN:Nat→Nat→Nat→List Linear→List Bind→Option Rs
 | 0,_,n,qs,bs=>some (.ok n qs bs)
 | k+1,i,n,qs,bs=>match mu 4294967296 i n qs bs with
  | some (.ok m qs' bs')=>iN k (i+1) m qs' bs'
  | e=>e
theorem DW {l:List Linear}:∀ (k i n:Nat) (qs:List Linear) (bs:List Bind),i+k=l.length→nK n qs bs→Inv l i qs bs→bs.length≤n+i→∀ (m:Nat) (qs':List Linear) (bs':List Bind),iN k i n qs bs=some (.ok m qs' bs') →
 nK m qs' bs'∧Inv l l.length qs' bs'∧n≤m∧bs'.length≤m+l.length
 | 0,i,n,qs,bs,hk,h,hI,hb,m,qs',bs',e=>by
  simp only [iN] at e;injection e with e
  injection e with e1 e2 e3
  subst e1;subst e2;subst e3;have:i=l.length:=by omega
  subst this;exact ⟨h,hI,Nat.le_refl _,hb⟩
 | k+1,i,n,qs,bs,hk,h,hI,hb,m,qs',bs',e=>by
  simp only [iN] at e;have hi:i<qs.length:=by rw [hI.len];omega
  cases hr:mu 4294967296 i n qs bs with
  | none=>rw [hr] at e;cases e
  | some r =>
   cases r with
   | no=>rw [hr] at e;cases e
   | lim=>rw [hr] at e;cases e
   | ok m1 qs1 bs1 =>
    rw [hr] at e;simp only at e;obtain ⟨a1,a2,a3,a4,a5⟩:=vV 4294967296 i n i qs bs h hi (.inl hb) m1 qs1 bs1 hr;have hI1:=Hf (Cq 4294967296 i n qs bs h hI hi m1 qs1 bs1 hr) (by omega) a4;obtain ⟨b1,b2,b3,b4⟩:=DW k (i+1) m1 qs1 bs1 (by omega) a1 hI1 (by omega) m qs' bs' e;exact ⟨b1,b2,by omega,b4⟩
theorem yQ:∀ (k i n:Nat) (qs:List Linear) (bs:List Bind),i+k=qs.length→nK n qs bs→bs.length≤n+i→∃ r,iN k i n qs bs=some r
 | 0,i,n,qs,bs,_,_,_=>⟨_,rfl⟩
 | k+1,i,n,qs,bs,hk,h,hb=>by
  simp only [iN];obtain ⟨r,hr⟩:=Bf (N:=4294967296) h (show i<qs.length by omega) (by omega);rw [hr];cases r with
  | no=>exact ⟨_,rfl⟩
  | lim=>exact ⟨_,rfl⟩
  | ok m1 qs1 bs1 =>
   simp only;obtain ⟨a1,a2,a3,a4,a5⟩:=vV 4294967296 i n i qs bs h (by omega) (.inl hb) m1 qs1 bs1 hr;exact yQ k (i+1) m1 qs1 bs1 (by omega) a1 (by omega)
noncomputable def DO (N:Nat) (s1:Int×List Rw×List Bind×Int):Option (fE (Int×List Rw×List Bind×Int) (List Rw×List Bind×Int) F9) :=
 bif decide (s1.1<((N:Nat):Int)) then (
  (oa (σ:=((List ae)×(List Bind)×Int)) (ε:=((List ae)×(List Bind)×Int)) (ρ:=(fE (Int×(List ae)×(List Bind)×Int) ((List ae)×(List Bind)×Int) ((List Bind)×Int×aj×Int))) (fun s2 =>
   bX (0≤s1.1∧s1.1<(s2.1.length:Int)) <|
   bX (s1.1.toNat<s2.1.length) <|
   (ev (Linear.mk (((s2.1.getD s1.1.toNat (⟨⟨0,[]⟩,[],0,false⟩)).q).Const) (((s2.1.getD s1.1.toNat (⟨⟨0,[]⟩,[],0,false⟩)).q).Terms))).bind fun y2 =>
   bif y2 then (
    some (.brk (s2.1,s2.2.1,s2.2.2))
   ) else (
    (bp s1.1 s2.2.2 s2.1 s2.2.1).bind fun y3 =>
    bif (y3.1.2==0) then (
     some (.go (y3.2.2.1,y3.2.2.2,y3.2.1))
    ) else (
     some (.ret (.ret ([],0,y3.1.1,y3.1.2)))
    )
   )
  ) 4294967296 (s1.2.1,s1.2.2.1,s1.2.2.2)).bind <| Sh.aft fun u1 =>
  some (.go ((aS (s1.1+1)),u1.1,u1.2.1,u1.2.2))
 ) else (
  some (.brk (s1.2.1,s1.2.2.1,s1.2.2.2))
 )
theorem Jc {N i:Nat} (hi:i<N) (rows:List Rw) (bs:List Bind) (n:Int):DO N ((i:Int),rows,bs,n)=(oa (HZ i) 4294967296 (rows,bs,n)).bind (Sh.aft fun u1=>some (.go ((aS ((i:Int)+1)),u1.1,u1.2.1,u1.2.2))):=by unfold DO;rw [Mr (show (i:Int)<(N:Int) by omega),cond_true];rfl
theorem JO {L:Nat} (hL:L≤6000):∀ (k i N n:Nat) (rows:List Rw) (bs:List Bind),i+k=L→k<N→rows.length=L→nK n (rows.map (·.q)) bs→(∀ r∈rows,yA L r)→bs.length≤n+i →
 (∀ (m:Nat) (qs':List Linear) (bs':List Bind),iN k i n (rows.map (·.q)) bs=some (.ok m qs' bs')→∃ rows',oa (DO L) N ((i:Int),rows,bs,(n:Int))=some (.brk (rows',bs',(m:Int)))) ∧
 (iN k i n (rows.map (·.q)) bs=some .no→∃ f,oa (DO L) N ((i:Int),rows,bs,(n:Int))=some (.ret ([],0,f,9))) ∧
 (iN k i n (rows.map (·.q)) bs=some .lim→∃ f,oa (DO L) N ((i:Int),rows,bs,(n:Int))=some (.ret ([],0,f,3)))
 | 0,i,N,n,rows,bs,hk,hN,hl,h,hr,hb=>by
  obtain ⟨N,rfl⟩:∃ j,N=j+1:=⟨N-1,by omega⟩;simp only [iN,oa];have e0:DO L ((i:Int),rows,bs,(n:Int))=some (.brk (rows,bs,(n:Int))):=by unfold DO;rw [Mq (show ¬ (i:Int)<(L:Int) by omega)];rfl
  rw [e0];refine ⟨fun m qs' bs' e => ?_,fun e=>(by injection e with e;cases e),fun e=>(by injection e with e;cases e)⟩;injection e with e
  injection e with e1 e2 e3
  subst e1;subst e3;exact ⟨rows,rfl⟩
 | k+1,i,N,n,rows,bs,hk,hN,hl,h,hr,hb=>by
  obtain ⟨N,rfl⟩:∃ j,N=j+1:=⟨N-1,by omega⟩;have hi:i<rows.length:=by omega
  have hiq:i<(rows.map (·.q)).length:=by simpa using hi
  simp only [iN,oa];rw [Jc (show i<L by omega)];obtain ⟨r1,r2,r3⟩:=Kf 4294967296 i n i rows bs hi (by omega) h (fun r hm=>by rw [hl];exact hr r hm) (by omega) (.inl hb);obtain ⟨r,e⟩:=Bf (N:=4294967296) h hiq (by omega);rw [e];cases r with
  | no =>
   obtain ⟨f,e2⟩:=r2 e;rw [e2];exact ⟨fun m qs' bs' e=>(by injection e with e;cases e),fun _=>⟨f,rfl⟩,fun e=>(by injection e with e;cases e)⟩
  | lim =>
   obtain ⟨f,e2⟩:=r3 e;rw [e2];exact ⟨fun m qs' bs' e=>(by injection e with e;cases e),fun e=>(by injection e with e;cases e),fun _=>⟨f,rfl⟩⟩
  | ok m1 qs1 bs1 =>
   obtain ⟨rows1,q1,l1,o1,e2⟩:=r1 m1 qs1 bs1 e;obtain ⟨a1,a2,a3,a4,a5⟩:=vV 4294967296 i n i (rows.map (·.q)) bs h hiq (.inl hb) m1 qs1 bs1 e;rw [e2];simp only [Option.bind_some,Sh.aft,AK];have e3:aS ((i:Int)+1)=((i+1:Nat):Int):=by rw [bU (by omega) (by omega)];omega
   rw [e3,← q1];rw [← q1] at a1;exact JO hL k (i+1) N m1 rows1 bs1 (by omega) (by omega) (by omega) a1 (fun r hm=>by rw [← hl];exact o1 r hm) (by omega)
theorem tf {p q:Nat→Bool} {n:Nat} (h:∀ t,t<n→p t=q t):∀ (f lo hi:Nat),hi≤n→Lib.bsGo p f lo hi=Lib.bsGo q f lo hi
 | 0,lo,hi,_=>rfl
 | f+1,lo,hi,hn=>by
  unfold Lib.bsGo;by_cases hl:lo<hi
  ·rw [if_pos hl,if_pos hl,h _ (by omega),tf h f _ hi hn,tf h f lo _ (by omega)]
  ·rw [if_neg hl,if_neg hl]
theorem Fe {xs:List ak} (hs:xs.Pairwise (fun a b=>Op.bytesLess a b=true)) (x:ak):∃ k,rG xs x=k∧k≤xs.length∧(∀ t,t<k→Op.bytesLess (xs.getD t []) x=true)∧∀ t,k≤t→t<xs.length→Op.bytesLess (xs.getD t []) x=false:=by
 have hk:∃ k,k≤xs.length∧(∀ t,t<k→Op.bytesLess (xs.getD t []) x=true)∧∀ t,k≤t→t<xs.length→Op.bytesLess (xs.getD t []) x=false:=by
  induction xs with
  | nil=>exact ⟨0,by simp,fun t h=>by omega,fun t _ h=>by simp at h⟩
  | cons y ys ih =>
   have h':=List.pairwise_cons.1 hs;by_cases hy:Op.bytesLess y x=true
   ·obtain ⟨k,a,b,c⟩:=ih h'.2;refine ⟨k+1,by simp;omega,fun t ht => ?_,fun t h1 h2 => ?_⟩
    ·cases t with
     | zero=>exact hy
     | succ t=>exact b t (by omega)
    ·cases t with
     | zero=>omega
     | succ t=>exact c t (by omega) (by simpa using h2)
   ·refine ⟨0,by simp,fun t h=>by omega,fun t _ h2 => ?_⟩;cases t with
    | zero=>exact Bool.eq_false_iff.2 hy
    | succ t =>
     rw [Bool.eq_false_iff];intro hc;have hm:ys.getD t []∈ys:=cb _ (by simpa using h2);exact hy (nS _ _ _ (h'.1 _ hm) hc)
 obtain ⟨k,a,b,c⟩:=hk;refine ⟨k,?_,a,b,c⟩;unfold rG;rw [tf (q:=fun t=>decide (t<xs.length)&&Op.bytesLess (xs.getD t []) x) (n:=xs.length) (fun t ht=>by simp [ht]) _ _ _ (Nat.le_refl _)];refine Lib.bsGo_spec _ k (fun t ht=>by simp only [Mm,decide_eq_true_eq];exact ⟨by omega,b t ht⟩) (fun t ht => ?_) _ _ _ (by omega) (Nat.zero_le _) a;by_cases h:t<xs.length
 ·simp only [h,decide_true,Bool.true_and];exact c t ht h
 ·simp only [h,decide_false,Bool.false_and]
theorem Kg {xs:List ak} (hs:xs.Pairwise (fun a b=>Op.bytesLess a b=true)) (x:ak):(decide (rG xs x<xs.length)&&(xs.getD (rG xs x) []==x))=decide (x∈xs):=by
 obtain ⟨k,e,a,b,c⟩:=Fe hs x;rw [e,Bool.eq_iff_iff];simp only [Mm,decide_eq_true_eq,beq_iff_eq];constructor
 ·rintro ⟨h1,h2⟩;rw [← h2];exact cb _ h1
 ·intro hm;obtain ⟨j,hj,ej⟩:=List.getElem_of_mem hm;have hjx:xs.getD j []=x:=by rw [getD_at [] hj];exact ej
  have h1:¬ j<k:=fun h=>by have:=b j h;rw [hjx,kI] at this;cases this
  have hkl:k<xs.length:=by omega
  refine ⟨hkl,?_⟩;rcases Au (xs.getD k []) x with h | h | h
  ·rw [c k (Nat.le_refl _) hkl] at h;cases h
  ·exact h
  ·exfalso;by_cases e2:j=k
   ·subst e2;rw [hjx,kI] at h;cases h
   ·have hp:=List.pairwise_iff_getElem.1 hs k j hkl hj (by omega);rw [ej] at hp;rw [getD_at [] hkl] at h;have:=nS _ _ _ h hp;rw [kI] at this;cases this
theorem xf {xs:List ak} (hs:xs.Pairwise (fun a b=>Op.bytesLess a b=true)) (hl:xs.length≤1000000) (x:ak):∃ i,jE xs x=some (i,decide (x∈xs)):=by unfold jE;rw [aK (by omega),Kg hs];exact ⟨_,rfl⟩
def qJ (l:List Linear) (j:Nat):List Rw:=(List.range j).map fun i=>ae.mk (l.getD i fW) [((i:Int),1)] 1 false
theorem Jw (l:List Linear):(qJ l l.length).map (·.q)=l:=by unfold qJ;rw [List.map_map];refine List.ext_getElem (by simp) fun i h1 h2 => ?_;simp only [List.getElem_map,List.getElem_range,Function.comp];exact getD_at fW h2
theorem Hw (l:List Linear):∀ r∈qJ l l.length,yA (l.length:Nat) r:=by
 intro r hr;obtain ⟨i,hi,rfl⟩:=List.mem_map.1 hr;have hi:i<l.length:=by simpa using hi
 exact ⟨by simp,by show (1:Int)≠0;omega,fun y hy=>by
  have:y=(i:Int):=by simpa using hy
  omega⟩
def I4 (l:List Linear) (bs:List Bind):List Bind:=om (fun x y=>mf x.Var y.Var) (bs.filter fun b=>decide (b.Var∈iy l))
theorem FO (l:List Linear) (p:Linear→Bool):∀ x:Option Nat,(match x with | some j=>((j:Nat):Int) | none => -1)=idxOf p l →
 (some (match x with | some j=>(Out.ret ((j:Nat):Int):Out Unit Int) | none=>.brk ())).bind (Sh.aft fun u0=>some (-1))=some (idxOf p l)
 | some j,h=>congrArg some h
 | none,h=>congrArg some h
theorem sT {l:List Linear} (hk:∀ q∈l,Ac q):gA l=some (l.all ax):=by
 have h1:bS l=some (idxOf (fun q => !ax q) l):=by
  unfold bS;rw [o8 (f:=fun j=>((j:Nat):Int)) (fun j=>(fun q => !ax q) (l.getD j fW)) _ _ () (fun j u h1 h2=>by have hm:l.getD j fW∈l:=cb _ (by omega);have ho:=hk _ hm;unfold hZ;rw [vp,bP _ ho.1 ho.2];simp only [Option.bind_some];cases ax (l.getD j fW)<;>rfl)]
  exact FO l (fun q => !ax q) _ (mB (fun q => !ax q) fW l)
 unfold gA ca;rw [h1];simp only [Option.bind_some];have h2:=pc (fun q => !ax q) l;congr 1;rw [Bool.eq_iff_iff];simp only [Bool.not_eq_true',decide_eq_false_iff_not,My];constructor
 ·intro h q hq;have:=h2.1 (by omega);rw [List.any_eq_false] at this;simpa using this q hq
 ·intro h hc;have:idxOf (fun q => !ax q) l<0:=h2.2 (List.any_eq_false.2 fun q hq=>by simp [h q hq]);omega
def sY (l:List Linear) (n:Nat):(List Bind×Int)×Int:=match iN l.length 0 n l [] with
 | some (.ok m _ bs)=>((I4 l bs,(m:Int)),0)
 | some .no=>(([],0),9)
 | _=>(([],0),3)
theorem Dw {l:List Linear} {n:Nat} (hv:∀ q∈l,ax q=true) (h1:1≤n) (h2:n<1000000000) (hg:Lf l<n):nK n l []:=by refine ⟨h1,h2,fun q hq=>⟨hv q hq,fun t ht => ?_⟩,fun b hb=>by simp at hb⟩;obtain ⟨_,hm,_⟩:=pz (l:=l) fun q hq=>b8 (hv q hq);have h3:=(D0 (iy l) 0).2 t.Var ((hm _).2 ⟨q,hq,t,ht,rfl⟩);have h4:(iy l).foldl (fun n v=>if pr v>n then pr v else n) 0<n:=hg;omega
theorem GA {l:List Linear} {n:Nat} (hv:∀ q∈l,ax q=true) (h1:1≤n) (h2:n<1000000000) (hg:Lf l<n) (hl:l.length≤6000) :
 ∃ f,dm l (n:Int)=some ((sY l n).1.1,(sY l n).1.2,f,(sY l n).2)∧((sY l n).2=0→f=aj.mk [] 0):=by
 have hS:=Dw hv h1 h2 hg;unfold dm;rw [sT fun q hq=>mC (hv q hq),My.2 hv];simp only [Option.bind_some,cond_true];rw [Mq (show ¬ (n:Int)<1 by omega),Mq (show ¬ (n:Int)≥1000000000 by omega),qp hv hl];simp only [cond_false,Option.bind_some];rw [Mq (show ¬ Lf l≥(n:Int) by omega),Mq (show ¬ (l.length:Int)>6000 by omega)];simp only [cond_false];obtain ⟨s',e1,e2⟩:=vP (ε:=List Rw) (ρ:=Empty) (fin:=fun i0 s0=>s0) (fun j s=>s=qJ l j)
  (body:=fun i0 s0 =>
   bX ((s0.length+1)*56≤140737488355328) <|
   some (.go (s0++[(ae.mk (Linear.mk ((l.getD i0 ⟨0,[]⟩).Const) ((l.getD i0 ⟨0,[]⟩).Terms)) (ksort (bH (((i0:Nat):Int):Int) 1 [])) 1 false)]))) (l.length-0) 0 [] rfl (fun j s _ hj hs=>by
   refine ⟨_,aK (by rw [hs];simp [qJ];omega),?_⟩;rw [hs];unfold qJ;rw [List.range_succ,List.map_append];rfl)
 refine Exists.imp (fun f=>And.imp_left fun h=>(congrArg (fun o:Option (Out (List Rw) Empty)=>Option.bind o _) e1).trans h) ?_;simp only [Option.bind_some,dL];have e2:s'=qJ l l.length:=by rw [e2];congr 1;omega
 rw [e2];have hlen:(qJ l l.length).length=l.length:=by simp [qJ]
 have hq:=Jw l;have hS':nK n ((qJ l l.length).map (·.q)) []:=by rw [hq];exact hS
 obtain ⟨w1,w2,w3⟩:=JO hl l.length 0 4294967296 n (qJ l l.length) [] (by omega) (by omega) hlen hS' (Hw l) (by simp);rw [hq] at w1 w2 w3;rw [hlen];obtain ⟨r,hr⟩:=yQ l.length 0 n l [] (by omega) hS (by simp);unfold sY;rw [hr] at w1 w2 w3 ⊢;cases r with
 | no =>
  obtain ⟨f,e⟩:=w2 rfl;refine ⟨f,?_,fun h=>absurd (show (9:Int)=0 from h) (by decide)⟩;refine (congrArg (fun o:Option (Out (List Rw×List Bind×Int) F9)=>Option.bind o _) e).trans ?_;rfl
 | lim =>
  obtain ⟨f,e⟩:=w3 rfl;refine ⟨f,?_,fun h=>absurd (show (3:Int)=0 from h) (by decide)⟩;refine (congrArg (fun o:Option (Out (List Rw×List Bind×Int) F9)=>Option.bind o _) e).trans ?_;rfl
 | ok m qs bs =>
  obtain ⟨rows',e⟩:=w1 m qs bs rfl;obtain ⟨a1,a2,a3,a4⟩:=DW l.length 0 n l [] (by omega) hS (FK l) (by simp) m qs bs hr;refine ⟨aj.mk [] 0,?_,fun _=>rfl⟩;refine (congrArg (fun o:Option (Out (List Rw×List Bind×Int) F9)=>Option.bind o _) e).trans ?_;simp only [Option.bind_some,Sh.aft];have hm:=a1.n2;rw [Mq (show ¬ (m:Int)≥1000000000 by omega)];simp only [cond_false];have hl12:∀ q∈l,q.Terms.length≤12:=fun q hq=>b8 (hv q hq);obtain ⟨v1,_,v3⟩:=pz hl12;rw [ke hl12 hl];simp only [Option.bind_some];have hb:=ea (ε:=List Bind) (ρ:=Empty) (f:=fun s=>s) (fin:=fun i1 s3=>s3) Cy bs (fun b s=>fE.go (bif !(decide (b.Var∈iy l)) then s else s++[b])) (fun j s=>s.length≤j)
   (body:=fun i1 s3 =>
    (jE (iy l) ((bs.getD i1 (⟨0,[],⟨0,[]⟩,⟨[],[]⟩,[]⟩)).Var)).bind fun y5 =>
    ((
     bif y5.2 then (
      bX ((s3.length+1)*112≤140737488355328) <|
      some (s3++[(Bind.mk ((bs.getD i1 (⟨0,[],⟨0,[]⟩,⟨[],[]⟩,[]⟩)).Kind) ((bs.getD i1 (⟨0,[],⟨0,[]⟩,⟨[],[]⟩,[]⟩)).Var) (Linear.mk (((bs.getD i1 (⟨0,[],⟨0,[]⟩,⟨[],[]⟩,[]⟩)).Dim).Const) (((bs.getD i1 (⟨0,[],⟨0,[]⟩,⟨[],[]⟩,[]⟩)).Dim).Terms)) (Shape.mk (((bs.getD i1 (⟨0,[],⟨0,[]⟩,⟨[],[]⟩,[]⟩)).Row).Row) (((bs.getD i1 (⟨0,[],⟨0,[]⟩,⟨[],[]⟩,[]⟩)).Row).Dims)) ((bs.getD i1 (⟨0,[],⟨0,[]⟩,⟨[],[]⟩,[]⟩)).Elem))])
     ) else (
      some s3
     )
    ):Option (List Bind)).bind fun v1 =>
    some (.go v1)) (fun _ _=>rfl) [] (Nat.zero_le _) (fun j s hj hI=>by
    obtain ⟨x,ex⟩:=xf v1 (by omega) (bs.getD j Cy).Var;refine ⟨?_,fun s' hs' => ?_⟩
    ·refine (congrArg (fun o:Option (Int×Bool)=>Option.bind o _) ex).trans ?_;simp only [Option.bind_some];cases decide ((bs.getD j Cy).Var∈iy l) with
     | false=>rfl
     | true =>
      simp only [cond_true];rw [aK (by omega)];rfl
    ·injection hs' with hs'
     subst hs';cases !(decide ((bs.getD j Cy).Var∈iy l))<;>simp<;>omega)
  rw [rn (fun b:Bind => !(decide (b.Var∈iy l))) (fun b=>b)] at hb;refine (congrArg (fun o:Option (Out (List Bind) Empty)=>Option.bind o _) hb).trans ?_;simp only [Option.bind_some,dL,List.nil_append,List.map_id'];have hfl:(bs.filter fun u => !!(decide (u.Var∈iy l)))=bs.filter fun b=>decide (b.Var∈iy l):=by congr 1;funext b;rw [Bool.not_not]
  rw [hfl];unfold jF;have hlf:=List.length_filter_le (fun b:Bind=>decide (b.Var∈iy l)) bs;rw [aK ⟨by omega,(List.Sublist.map _ List.filter_sublist).nodup a2.D⟩];rfl
def bh (p:Int×Int):Linear:=Linear.mk p.2 (bif p.1==0 then [] else [au.mk [110] p.1])
abbrev cK (k:Int):Linear:=Linear.mk k []
def Cz (p:Int×Int):Prop:=(-5≤p.1∧p.1≤5) ∧ -20≤p.2∧p.2≤20
theorem DI (d:Int):bh (0,d)=cK d:=rfl
theorem im {c d:Int} (h:c≠0):bh (c,d)=Linear.mk d [au.mk [110] c]:=by unfold bh;rw [beq_false_of_ne h];rfl
theorem rP {k:Int} (h : -1000000≤k∧k≤1000000):ax (cK k)=true:=by simp [ax,Bk,h.1,h.2]
theorem FH {c d:Int} (h0:c≠0) (h : -1000000≤c∧c≤1000000) (hd : -1000000≤d∧d≤1000000):ax (Linear.mk d [au.mk [110] c])=true:=by
 have hn:dF [110]=true:=by decide
 simp [ax,kB,yv,Bk,h.1,h.2,hd.1,hd.2,hn,h0]
theorem xZ {p:Int×Int} (h1 : -1000000≤p.1∧p.1≤1000000) (h2 : -1000000≤p.2∧p.2≤1000000):ax (bh p)=true:=by
 obtain ⟨c,d⟩:=p;by_cases h:c=0
 ·subst h;exact rP h2
 ·rw [im h];exact FH h h1 h2
theorem EG (f:ak→Int) (p:Int×Int):mz f (bh p)=p.2+p.1*f [110]:=by
 obtain ⟨c,d⟩:=p;by_cases h:c=0
 ·subst h;simp [DI,mz,du]
 ·rw [im h];simp [mz,du]
theorem Kx (p:Int×Int):cf (bh p) [110]=p.1:=by
 obtain ⟨c,d⟩:=p;by_cases h:c=0
 ·subst h;rfl
 ·rw [im h];simp [cf,ql]
theorem Ds {k:Int} {p:Int×Int} (hk : -1000000≤k∧k≤1000000) (h1 : -1000000≤p.1∧p.1≤1000000) (h2 : -1000000≤p.2∧p.2≤1000000) (h3 : -1000000≤p.2+p.1*k∧p.2+p.1*k≤1000000) :
 pF [one [110] (cK k)] (bh p)=(cK (p.2+p.1*k),0):=by
 refine (K2 (xZ h1 h2) (fun b hb => ?_) (n:=p.2+p.1*k) (ts:=[]) List.Pairwise.nil (fun t ht=>by simp at ht) (fun f => ?_)).trans (C5 (rP h3))
 ·have:b=one [110] (cK k):=by simpa using hb
  subst this;exact rP hk
 ·rw [Hz,EG];simp [upd,mz,du]
theorem DQ {k:Int} {p:Int×Int} (hk : -1000000≤k∧k≤1000000) (h1 : -1000000≤p.1∧p.1≤1000000) (h2 : -1000000≤p.2∧p.2≤1000000) (h3 : -1000000≤p.2+p.1*k∧p.2+p.1*k≤1000000) :
 vd [110] (cK k) (bh p)=bh (0,p.2+p.1*k)∧lY [110] (cK k) (bh p)=true:=by
 unfold vd lY;rw [Kx];by_cases h:p.1=0
 ·rw [h];obtain ⟨c,d⟩:=p;have h:c=0:=h;subst h;simp
 ·rw [beq_false_of_ne h,Ds hk h1 h2 h3];exact ⟨rfl,rfl⟩
theorem EC {c d:Int} (h:c≠0):cont (bh (c,d))=c.natAbs:=by rw [im h];simp [cont,xR]
theorem Iw {c d:Int} (h:c≠0):FW (bh (c,d)) = !decide (c ∣ d):=by
 unfold FW;rw [EC h];have h0:(c.natAbs==0)=false:=beq_false_of_ne (by omega);rw [h0,Bool.false_or];congr 1;have e:(bh (c,d)).Const=d:=rfl;rw [e,Bool.eq_iff_iff,beq_iff_eq,decide_eq_true_eq];constructor
 ·intro h1;exact Int.natAbs_dvd.1 (Int.dvd_of_tmod_eq_zero h1)
 ·intro h1;exact Int.tmod_eq_zero_of_dvd (Int.natAbs_dvd.2 h1)
theorem El (a b:List (Int×Int)) (p:Int×Int):((a++p::b).map bh).getD a.length fW=bh p:=by simp [Mk]
theorem GM (a b:List (Int×Int)) (p r:Int×Int):((a++p::b).map bh).set a.length (bh r)=(a++r::b).map bh:=by simp [List.set_append]
def Ix (k:Int) (q:Int×Int):Int×Int:=(0,q.2+q.1*k)
def LS (k:Int) (p:Int×Int):Prop:=(-1000000≤p.1∧p.1≤1000000)∧(-1000000≤p.2∧p.2≤1000000) ∧ -1000000≤p.2+p.1*k∧p.2+p.1*k≤1000000
theorem HP {k:Int} (hk : -1000000≤k∧k≤1000000) (a b:List (Int×Int)) (n:Nat) (hb:∀ p∈b,LS k p) :
 xC [110] (cK k) a.length n ((a++b).map bh) [] = .ok n ((a++b.map (Ix k)).map bh) [one [110] (cK k)]:=by
 have hd:((a++b).map bh).drop a.length=b.map bh:=by simp
 have ht:((a++b).map bh).take a.length=a.map bh:=by simp
 have h1:(b.map bh).all (lY [110] (cK k))=true:=by rw [List.all_map,My];intro p hp;obtain ⟨x,y,z⟩:=hb p hp;exact (DQ hk x y z).2
 have h2:(b.map bh).map (vd [110] (cK k))=(b.map (Ix k)).map bh:=by rw [List.map_map,List.map_map];refine List.map_congr_left fun p hp => ?_;obtain ⟨x,y,z⟩:=hb p hp;exact (DQ hk x y z).1
 unfold xC wK;rw [hd,ht,rP hk,h1,h2,List.map_append];rfl
theorem JB {c d k:Int} (hc:c≠0) (h:d+c*k=0):bj (cont (bh (c,d))) (bh (c,d))=bh (1,-k)∨bj (cont (bh (c,d))) (bh (c,d))=bh (-1,k):=by
 rw [EC hc];rcases Int.lt_or_gt_of_ne hc with h0 | h0
 ·right;obtain ⟨m,rfl⟩:∃ m:Nat,c = -((m:Int)):=⟨c.natAbs,by omega⟩;have hm:(m:Int)≠0:=by omega
  have e1:(-(m:Int)).natAbs=m:=by omega
  have e2:d=k*m:=by rw [Int.mul_comm];rw [Int.neg_mul] at h;omega
  rw [im hc,im (by decide),e1,e2];unfold bj;simp only [List.map_cons,List.map_nil];rw [Int.mul_tdiv_cancel _ hm,Int.neg_tdiv,Int.tdiv_self hm]
 ·left;obtain ⟨m,rfl⟩:∃ m:Nat,c=(m:Int):=⟨c.natAbs,by omega⟩;have hm:(m:Int)≠0:=by omega
  have e1:(m:Int).natAbs=m:=by omega
  have e2:d=(-k)*m:=by rw [Int.neg_mul,Int.mul_comm k];omega
  rw [im hc,im (by decide),e1,e2];unfold bj;simp only [List.map_cons,List.map_nil];rw [Int.mul_tdiv_cancel _ hm,Int.tdiv_self hm]
theorem JG {c d k:Int} (hc:c≠0) (h:d+c*k=0) (hk : -20≤k∧k≤20) (a b:List (Int×Int)) (n:Nat) (hb:∀ p∈b,LS k p) :
 la a.length n ((a++(c,d)::b).map bh) [] = .ok n ((a++(0,0)::b.map (Ix k)).map bh) [one [110] (cK k)]:=by
 have hdv:c ∣ d:=⟨-k,by rw [Int.mul_neg];omega⟩;unfold la;rw [El,Iw hc,Mr hdv];simp only [Bool.not_true,cond_false];rcases JB hc h with e | e
 ·rw [e,GM];have e1:(vZ (bh (1,-k)).Terms)=au.mk [110] 1:=rfl;have e2:FB (au.mk [110] 1) (bh (1,-k))=cK k:=by rw [im (by decide)];simp [FB]
  rw [e1,e2];have hp:=HP (k:=k) (by omega) a ((1,-k)::b) n (fun p hp=>by
   rcases List.mem_cons.1 hp with rfl | hp
   ·exact ⟨by show (-1000000:Int)≤1∧(1:Int)≤1000000;omega,by show -1000000 ≤ -k ∧ -k≤1000000;omega,by show -1000000 ≤ -k+1*k ∧ -k+1*k≤1000000;omega⟩
   ·exact hb p hp)
  refine (show _=_ from hp).trans ?_;have e3:Ix k (1,-k)=(0,0):=by unfold Ix;simp;omega
  rw [List.map_cons,e3]
 ·rw [e,GM];have e1:(vZ (bh (-1,k)).Terms)=au.mk [110] (-1):=rfl;have e2:FB (au.mk [110] (-1)) (bh (-1,k))=cK k:=by rw [im (by decide)];simp [FB]
  rw [e1,e2];have hp:=HP (k:=k) (by omega) a ((-1,k)::b) n (fun p hp=>by
   rcases List.mem_cons.1 hp with rfl | hp
   ·exact ⟨by show (-1000000:Int) ≤ -1∧(-1:Int)≤1000000;omega,by show -1000000≤k∧k≤1000000;omega,by show -1000000≤k + -1*k∧k + -1*k≤1000000;omega⟩
   ·exact hb p hp)
  refine (show _=_ from hp).trans ?_;have e3:Ix k (-1,k)=(0,0):=by unfold Ix;simp;omega
  rw [List.map_cons,e3]
theorem Aa (p:Int×Int):nG (bh p)=decide (p=(0,0)):=by
 obtain ⟨c,d⟩:=p;by_cases h:c=0
 ·subst h;rw [DI];by_cases h2:d=0
  ·subst h2;rfl
  ·rw [Mq (fun e=>h2 (Prod.mk.inj e).2)];show (true&&d==0)=false;rw [beq_false_of_ne h2];rfl
 ·rw [Mq (fun e=>h (Prod.mk.inj e).1),im h];rfl
theorem xY {N:Nat} (hN:1≤N) (a b:List (Int×Int)) (n:Nat) (bs:List Bind):mu N a.length n ((a++(0,0)::b).map bh) bs=some (.ok n ((a++(0,0)::b).map bh) bs):=by obtain ⟨N,rfl⟩:∃ M,N=M+1:=⟨N-1,by omega⟩;simp only [mu];rw [El,Aa];rfl
theorem CZ {N:Nat} (hN:1≤N) (a b:List (Int×Int)) (p:Int×Int) (n:Nat) (bs:List Bind) (h0:p≠(0,0)) (h:FW (bh p)=true):mu N a.length n ((a++p::b).map bh) bs=some .no:=by obtain ⟨N,rfl⟩:∃ M,N=M+1:=⟨N-1,by omega⟩;simp only [mu];unfold la;rw [El,Aa,Mq h0,h];rfl
theorem KH {N:Nat} (hN:2≤N) {c d k:Int} (hc:c≠0) (h:d+c*k=0) (hk : -20≤k∧k≤20) (a b:List (Int×Int)) (n:Nat) (hb:∀ p∈b,LS k p) :
 mu N a.length n ((a++(c,d)::b).map bh) []=some (.ok n ((a++(0,0)::b.map (Ix k)).map bh) [one [110] (cK k)]):=by
 obtain ⟨N,rfl⟩:∃ M,N=M+1:=⟨N-1,by omega⟩;simp only [mu];rw [El,Aa,Mq (fun e=>hc (Prod.mk.inj e).1),JG hc h hk a b n hb];simp only [cond_false];exact xY (by omega) a _ n _
theorem yO:∀ (b a:List (Int×Int)) (n:Nat) (bs:List Bind),(∀ p∈b,p.1=0) →
 ((∀ p∈b,p=(0,0))∧iN b.length a.length n ((a++b).map bh) bs=some (.ok n ((a++b).map bh) bs))∨((∃ p∈b,p.2≠0)∧iN b.length a.length n ((a++b).map bh) bs=some .no)
 | [],a,n,bs,_=>.inl ⟨fun p hp=>by simp at hp,rfl⟩
 | p::b,a,n,bs,h=>by
  have hp:p.1=0:=h p (by simp);by_cases h2:p.2=0
  ·have e:p=(0,0):=Prod.ext hp h2;subst e;have hr:=xY (N:=4294967296) (by omega) a b n bs;have hq:iN ((0,0)::b).length a.length n ((a++(0,0)::b).map bh) bs=iN b.length (a++[(0,0)]).length n (((a++[(0,0)])++b).map bh) bs:=by rw [List.length_cons];simp only [iN];rw [hr];simp
   rw [hq];rcases yO b (a++[(0,0)]) n bs (fun q hq=>h q (by simp [hq])) with ⟨h3,h4⟩ | ⟨⟨q,h3,h5⟩,h4⟩
   ·refine .inl ⟨fun q hq => ?_,?_⟩
    ·rcases List.mem_cons.1 hq with rfl | hq
     ·rfl
     ·exact h3 q hq
    ·rw [h4];simp
   ·exact .inr ⟨⟨q,by simp [h3],h5⟩,h4⟩
  ·refine .inr ⟨⟨p,by simp,h2⟩,?_⟩;have hr:=CZ (N:=4294967296) (by omega) a b p n bs (fun e=>h2 (by rw [e])) (by
    obtain ⟨c,d⟩:=p;have hp:c=0:=hp;subst hp;rfl)
   rw [List.length_cons];simp only [iN];rw [hr]
def B2 (k:Int) (p:Int×Int):Prop:=p.2+p.1*k=0
theorem IE:∀ (b a:List (Int×Int)),(∀ p∈a,p=(0,0))→(∀ p∈b,Cz p) →
 ((∀ p∈b,p=(0,0))∧∃ qs,iN b.length a.length 1 ((a++b).map bh) []=some (.ok 1 qs [])) ∨
 (∃ k,(-20≤k∧k≤20)∧(∀ p∈b,B2 k p)∧(∃ p∈b,p.1≠0)∧∃ qs,iN b.length a.length 1 ((a++b).map bh) []=some (.ok 1 qs [one [110] (cK k)])) ∨
 ((¬ ∃ k,∀ p∈b,B2 k p)∧iN b.length a.length 1 ((a++b).map bh) []=some .no)
 | [],a,_,_=>.inl ⟨fun p hp=>by simp at hp,_,rfl⟩
 | p::b,a,ha,h=>by
  obtain ⟨c,d⟩:=p;obtain ⟨⟨c1,c2⟩,d1,d2⟩:=h (c,d) (by simp);have c1 : -5≤c:=c1;have c2:c≤5:=c2;have d1 : -20≤d:=d1;have d2:d≤20:=d2;by_cases hc:c=0
  ·subst hc;by_cases hd:d=0
   ·subst hd;have hr:=xY (N:=4294967296) (by omega) a b 1 [];have hq:iN ((0,0)::b).length a.length 1 ((a++(0,0)::b).map bh) []=iN b.length (a++[(0,0)]).length 1 (((a++[(0,0)])++b).map bh) []:=by rw [List.length_cons];simp only [iN];rw [hr];simp
    rw [hq];rcases IE b (a++[(0,0)]) (fun q hq=>by
     rcases List.mem_append.1 hq with hq | hq
     ·exact ha q hq
     ·simpa using hq) (fun q hq=>h q (by simp [hq])) with ⟨h3,h4⟩ | ⟨k,hk,h3,⟨q,h5,h6⟩,h4⟩ | ⟨h3,h4⟩
    ·refine .inl ⟨fun q hq => ?_,h4⟩;rcases List.mem_cons.1 hq with rfl | hq
     ·rfl
     ·exact h3 q hq
    ·refine .inr (.inl ⟨k,hk,fun q hq => ?_,⟨q,by simp [h5],h6⟩,h4⟩);rcases List.mem_cons.1 hq with rfl | hq
     ·show (0:Int)+0*k=0;simp
     ·exact h3 q hq
    ·refine .inr (.inr ⟨fun ⟨k,hk⟩=>h3 ⟨k,fun q hq=>hk q (by simp [hq])⟩,h4⟩)
   ·refine .inr (.inr ⟨fun ⟨k,hk⟩=>hd ?_,?_⟩)
    ·have:=hk (0,d) (by simp);have:d+0*k=0:=this;simpa using this
    ·have hr:=CZ (N:=4294967296) (by omega) a b (0,d) 1 [] (fun e=>hd (Prod.mk.inj e).2) rfl;rw [List.length_cons];simp only [iN];rw [hr]
  ·by_cases hdv:c ∣ d
   ·obtain ⟨m,hm⟩:=hdv;have hk : -20 ≤ -m ∧ -m≤20:=by
     have h1:(c*m).natAbs=c.natAbs*m.natAbs:=Int.natAbs_mul c m;have h2:1≤c.natAbs:=by omega
     have h3:m.natAbs≤c.natAbs*m.natAbs:=Nat.le_mul_of_pos_left _ h2;have h4:d.natAbs≤20:=by omega
     rw [hm,h1] at h4;omega
    have hs:d+c * -m=0:=by rw [Int.mul_neg];omega
    have hb:∀ p∈b,LS (-m) p:=fun p hp=>by obtain ⟨⟨x1,x2⟩,y1,y2⟩:=h p (by simp [hp]);have h1:(p.1 * -m).natAbs=p.1.natAbs*(-m).natAbs:=Int.natAbs_mul _ _;have h2:p.1.natAbs*(-m).natAbs≤5*20:=Nat.mul_le_mul (by omega) (by omega);exact ⟨by omega,by omega,by omega,by omega⟩
    have hr:=KH (N:=4294967296) (by omega) hc hs hk a b 1 hb;have hq:iN ((c,d)::b).length a.length 1 ((a++(c,d)::b).map bh) []=iN (b.map (Ix (-m))).length (a++[(0,0)]).length 1 (((a++[(0,0)])++b.map (Ix (-m))).map bh) [one [110] (cK (-m))]:=by rw [List.length_cons];simp only [iN];rw [hr];simp
    rw [hq];rcases yO (b.map (Ix (-m))) (a++[(0,0)]) 1 [one [110] (cK (-m))] (fun q hq=>by obtain ⟨r,_,rfl⟩:=List.mem_map.1 hq;rfl) with ⟨h3,h4⟩ | ⟨⟨q,h3,h5⟩,h4⟩
    ·refine .inr (.inl ⟨-m,hk,fun q hq => ?_,⟨(c,d),by simp,hc⟩,_,h4⟩);rcases List.mem_cons.1 hq with rfl | hq
     ·exact hs
     ·exact (Prod.mk.inj (h3 _ (List.mem_map_of_mem hq))).2
    ·refine .inr (.inr ⟨fun ⟨k,hk2⟩=>h5 ?_,h4⟩);obtain ⟨r,hr2,rfl⟩:=List.mem_map.1 h3;have e1:d+c*k=0:=hk2 (c,d) (by simp);have e2:k = -m:=by
      have:c*k=c * -m:=by omega
      exact Int.eq_of_mul_eq_mul_left hc this
     rw [← e2];exact hk2 r (by simp [hr2])
   ·refine .inr (.inr ⟨fun ⟨k,hk⟩=>hdv ?_,?_⟩)
    ·have e1:d+c*k=0:=hk (c,d) (by simp);exact ⟨-k,by rw [Int.mul_neg];omega⟩
    ·have hr:=CZ (N:=4294967296) (by omega) a b (c,d) 1 [] (fun e=>hc (Prod.mk.inj e).1) (by rw [Iw hc,Mq hdv];rfl);rw [List.length_cons];simp only [iN];rw [hr]
theorem Gl:∀ vs:List ak,(∀ v∈vs,pr v=0)→vs.foldl (fun n v=>if pr v>n then pr v else n) (0:Int)=0
 | [],_=>rfl
 | v::vs,h=>by rw [List.foldl_cons,h v (by simp),if_neg (by omega)];exact Gl vs fun u hu=>h u (by simp [hu])
theorem mD {p:Int×Int} (h:Cz p):ax (bh p)=true:=by obtain ⟨⟨a,b⟩,c,d⟩:=h;exact xZ (by omega) (by omega)
theorem BL {ps:List (Int×Int)} (h:∀ p∈ps,Cz p):∀ q∈ps.map bh,ax q=true:=fun q hq=>by obtain ⟨p,hp,rfl⟩:=List.mem_map.1 hq;exact mD (h p hp)
theorem EK {ps:List (Int×Int)} (h:∀ p∈ps,Cz p) (y:ak):y∈iy (ps.map bh)↔y=[110]∧∃ p∈ps,p.1≠0:=by
 rw [(pz fun q hq=>b8 (BL h q hq)).2.1];constructor
 ·rintro ⟨q,hq,t,ht,rfl⟩;obtain ⟨⟨c,d⟩,hp,rfl⟩:=List.mem_map.1 hq;by_cases hc:c=0
  ·subst hc;cases ht
  ·rw [im hc] at ht;have:t=au.mk [110] c:=by simpa using ht
   subst this;exact ⟨rfl,_,hp,hc⟩
 ·rintro ⟨rfl,⟨c,d⟩,hp,hc⟩;exact ⟨_,List.mem_map_of_mem hp,au.mk [110] c,by rw [im hc];simp,rfl⟩
theorem Ls {ps:List (Int×Int)} (h:∀ p∈ps,Cz p):Lf (ps.map bh)=0:=by unfold Lf;refine Gl _ fun v hv => ?_;rw [((EK h v).1 hv).1];rfl
theorem KD {ps:List (Int×Int)} (h:∀ p∈ps,Cz p) (k:Int) (hc:∃ p∈ps,p.1≠0):I4 (ps.map bh) [one [110] (cK k)]=[one [110] (cK k)]:=by unfold I4;have h1:decide ((one [110] (cK k)).Var∈iy (ps.map bh))=true:=Mr ((EK h _).2 ⟨rfl,hc⟩);rw [List.filter_cons_of_pos (by exact h1)];rfl
theorem GH {ps:List (Int×Int)} (h:∀ p∈ps,Cz p) (hl:ps.length≤4) :
 (∃ (k:Int) (bs:List Bind) (m:Int) (f:aj),(-20≤k∧k≤20)∧(∀ p∈ps,B2 k p)∧((bs=[]∧∀ p∈ps,p=(0,0))∨bs=[one [110] (cK k)])∧dm (ps.map bh) 1=some (bs,m,f,0)) ∨
 ((¬ ∃ k,∀ p∈ps,B2 k p)∧∃ (m:Int) (bs:List Bind) (f:aj),dm (ps.map bh) 1=some (bs,m,f,9)):=by
 obtain ⟨f,e,_⟩:=GA (n:=1) (BL h) (by omega) (by omega) (by rw [Ls h];decide) (by simp;omega);have e:dm (ps.map bh) 1=_:=e;have hq:sY (ps.map bh) 1=match iN ps.length 0 1 (([]++ps).map bh) [] with
  | some (.ok m _ bs)=>((I4 (ps.map bh) bs,(m:Int)),0)
  | some .no=>(([],0),9)
  | _=>(([],0),3):=by
  unfold sY;rw [Mt];rfl
 rw [hq] at e;rcases IE ps [] (fun p hp=>by cases hp) h with ⟨h1,qs,h2⟩ | ⟨k,hk,h1,h3,qs,h2⟩ | ⟨h1,h2⟩
 ·have h2:iN ps.length 0 1 (([]++ps).map bh) []=_:=h2;rw [h2] at e;exact .inl ⟨0,[],_,_,by omega,fun p hp=>by rw [h1 p hp];rfl,.inl ⟨rfl,h1⟩,e⟩
 ·have h2:iN ps.length 0 1 (([]++ps).map bh) []=_:=h2;rw [h2] at e;simp only [KD h k h3] at e;exact .inl ⟨k,_,_,_,hk,h1,.inr rfl,e⟩
 ·have h2:iN ps.length 0 1 (([]++ps).map bh) []=_:=h2;rw [h2] at e;exact .inr ⟨h1,_,_,_,e⟩
abbrev Pr:=aG
def uD (t:eh):Bool:=Ay t.Elem&&nW t.Shape
theorem jT (t:eh) (h:Je t.Shape):cQ t=some (uD t):=by unfold cQ uD Ay;rw [kg _ h,fN];cases t.Elem==[105,110,116]<;>cases t.Elem==[98,111,111,108]<;>cases xV t.Elem<;>rfl
theorem yt (l:List Bind) (k:Int) (v:ak):mM l k v=some (idxOf (iD k v) l):=by
 unfold mM cU;rw [o8 (f:=fun j=>((j:Nat):Int)) (fun j=>iD k v (l.getD j pq)) _ _ () (fun j u _ _=>by
  unfold me iD;simp only;cases (l.getD j pq).Kind==k
  ·rfl
  ·cases (l.getD j pq).Var==v<;>rfl)]
 exact congrArg (fun o:Option Int=>o.bind fun y=>some y) (xh l (iD k v) _ (mB (iD k v) pq l))
def Me (bs:List Bind) (e:ak):ak:=bif decide (idxOf (iD 3 e) bs≥0) then (bs.getD (idxOf (iD 3 e) bs).toNat pq).Elem else e
def Lj (bs:List Bind) (t:eh):eh×Int :=
 bif uD t&&kT bs then (bif (JP bs t.Shape).2==0 then (eh.mk (Me bs t.Elem) (JP bs t.Shape).1,0) else (eh.mk [] (Shape.mk [] []),(JP bs t.Shape).2))
 else (eh.mk [] (Shape.mk [] []),1)
def LF (bs:List Bind):Prop:=∀ b∈bs,okB b∧b.Row.Dims.length≤8
theorem rj (t:eh) (bs:List Bind) (h:Je t.Shape) (hb:LF bs):dX t bs=some (Lj bs t):=by
 unfold dX Lj;rw [jT _ h,lZ _ fun b m=>(hb b m).1,wo _ _ h hb];cases uD t with
 | false=>rfl
 | true =>
  cases kT bs with
  | false=>rfl
  | true =>
   simp only [Option.bind_some,cond_true,Bool.and_self];cases (JP bs t.Shape).2==0 with
   | false=>rfl
   | true =>
    simp only [cond_true];rw [yt];simp only [Option.bind_some];unfold Me;cases hd:decide (idxOf (iD 3 t.Elem) bs≥0) with
    | false=>rfl
    | true =>
     simp only [cond_true];rw [aK ⟨Mp hd,tQ _ pq _⟩];rfl
abbrev CB (l:Linear):eh:=eh.mk [105,110,116] (Shape.mk [] [l])
def sa (p:Int×Int):Pr:=aG.mk (CB (bh p)) (CB (cK 0))
theorem uk (p:Int×Int):Ac (bh p):=by
 obtain ⟨c,d⟩:=p;by_cases hc:c=0
 ·subst hc;exact ⟨by simp [DI],fun t ht=>by cases ht⟩
 ·rw [im hc];exact ⟨by simp,fun t ht=>by
   have:t=au.mk [110] c:=by simpa using ht
   subst this;simp⟩
theorem uS {l:Linear} (h:Ac l):Je (Shape.mk [] [l]):=⟨by simp,fun q hq=>by
 have:q=l:=by simpa using hq
 subst this;exact h⟩
theorem uO {l:Linear} (h:ax l=true):nW (Shape.mk [] [l])=true:=by simp [nW,h]
theorem r7 {l:Linear} (h:ax l=true):uD (CB l)=true:=by unfold uD;rw [uO h];rfl
theorem Ee:Ac (cK 0):=⟨by simp,fun t ht=>by cases ht⟩
def KF (k:Int) (bs:List Bind):Prop:=bs=[]∨bs=[one [110] (cK k)]
theorem Em {k:Int} {bs:List Bind} (h:KF k bs):LF bs:=by
 rcases h with rfl | rfl
 ·intro b hb;cases hb
 ·intro b hb;have:b=one [110] (cK k):=by simpa using hb
  subst this;exact ⟨⟨by simp [one],⟨by simp [one],fun t ht=>by cases ht⟩,by simp [one,Je]⟩,by simp [one]⟩
theorem Dy {k:Int} {bs:List Bind} (hk : -20≤k∧k≤20) (h:KF k bs):kT bs=true:=by
 rcases h with rfl | rfl
 ·rfl
 ·have h1:ax (cK k)=true:=rP (by omega);have h2:dF [110]=true:=by decide
  simp [kT,tO,xH,one,h1,h2,Ev];decide
theorem K4 {bs:List Bind} {l q:Linear} (hv:ax l=true) (hb:kT bs=true) (h:pF bs l=(q,0)):(JP bs (Shape.mk [] [l])).2=0:=by unfold JP;rw [uO hv,hb];simp only [cond_true];unfold J6 rowOf;simp only [List.isEmpty_nil,cond_true,cond_false,cR,h,beq_self_eq_true];rfl
theorem Ij {bs:List Bind} {l q:Linear} (hv:ax l=true) (hb:kT bs=true) (h:pF bs l=(q,0)):(Lj bs (CB l)).2=0:=by unfold Lj;rw [r7 hv,hb,K4 hv hb h];rfl
theorem Gk {p:Int×Int} (h:p=(0,0)):pF [] (bh p)=(cK 0,0):=by subst h;rfl
theorem F7 {k:Int} {bs:List Bind} {p:Int×Int} (hk : -20≤k∧k≤20) (h:Cz p) (hs:B2 k p) (hb:(bs=[]∧p=(0,0))∨bs=[one [110] (cK k)]) :
 ∃ t u,dX (CB (bh p)) bs=some (t,0)∧dX (CB (cK 0)) bs=some (u,0):=by
 have hK1:KF k bs:=by
  rcases hb with ⟨h,_⟩ | h
  ·exact .inl h
  ·exact .inr h
 have hv:=Dy hk hK1;have h1:pF bs (bh p)=(cK 0,0):=by
  rcases hb with ⟨rfl,h0⟩ | rfl
  ·exact Gk h0
  ·obtain ⟨⟨a,b⟩,c,d⟩:=h;have hs:p.2+p.1*k=0:=hs;have:=Ds (k:=k) (p:=p) (by omega) (by omega) (by omega) (by omega);rw [hs] at this;exact this
 have h2:pF bs (cK 0)=(cK 0,0):=by
  rcases hK1 with rfl | rfl
  ·rfl
  ·have h3:pF [one [110] (cK k)] (cK 0)=(cK (0+0*k),0):=Ds (k:=k) (p:=(0,0)) (by omega) (by decide) (by decide) (by simp);rw [Int.zero_mul,Int.add_zero] at h3;exact h3
 refine ⟨(Lj bs (CB (bh p))).1,(Lj bs (CB (cK 0))).1,?_,?_⟩
 ·rw [rj _ _ (uS (uk p)) (Em hK1)];exact congrArg some (Prod.ext rfl (Ij (mD h) hv h1))
 ·rw [rj _ _ (uS Ee) (Em hK1)];exact congrArg some (Prod.ext rfl (Ij mX hv h2))
theorem qa {n:Int} (h : -1000000≤n∧n≤1000000):aS n=n:=bU (by omega) (by omega)
theorem KM {p:Int×Int} (h:Cz p):kO (bh p) (cK 0)=some (bh p,0):=by
 have hv:=mD h;obtain ⟨⟨a,b⟩,c,d⟩:=h;obtain ⟨x,y⟩:=p;have a : -5≤x:=a;have b:x≤5:=b;have c : -20≤y:=c;have d:y≤20:=d;unfold kO jM;rw [bP _ (uk _).1 (uk _).2,hv,bP _ Ee.1 Ee.2,mX];simp only [Option.bind_some,cond_true];have ey:aS (0+aS (1*y))=y:=by rw [Int.one_mul,qa (n:=y) (by omega),Int.zero_add,qa (n:=y) (by omega)]
 by_cases hc:x=0
 ·subst hc;have e1:ck (bh (0,y)) 1 0 []=some (aS (0+aS (1*y)),[]):=rfl;have e2:ck (cK 0) (-1) y []=some (aS (y+aS (-1*0)),[]):=rfl;have e3:aS (y+aS (-1*0))=y:=by rw [Int.mul_zero,qa (n:=0) (by omega),Int.add_zero,qa (n:=y) (by omega)]
  rw [e1,ey];simp only [Option.bind_some];rw [e2,e3];simp only [Option.bind_some];have e4:bN y []=(bE (Linear.mk y [])).bind fun y1=>bif y1 then some (Linear.mk y [],0) else some (Linear.mk 0 [],3):=rfl
  rw [e4,bP _ (by simp) (by simp),show ax (Linear.mk y [])=true from hv];rfl
 ·rw [im hc] at hv ⊢;have ex:aS (be 0 [110] []+aS (1*x))=x:=by show aS (0+aS (1*x))=x;rw [Int.one_mul,qa (n:=x) (by omega),Int.zero_add,qa (n:=x) (by omega)]
  have e1:ck (Linear.mk y [au.mk [110] x]) 1 0 []=some (aS (0+aS (1*y)),bH [110] (aS (be 0 [110] []+aS (1*x))) []):=rfl;have e2:ck (cK 0) (-1) y [([110],x)]=some (aS (y+aS (-1*0)),[([110],x)]):=rfl;have e3:aS (y+aS (-1*0))=y:=by rw [Int.mul_zero,qa (n:=0) (by omega),Int.add_zero,qa (n:=y) (by omega)]
  rw [e1,ey,ex];simp only [Option.bind_some];rw [show bH [110] x ([]:List (ak×Int))=[([110],x)] from rfl,e2,e3];simp only [Option.bind_some];have e4:bN y [([110],x)]=some (Linear.mk y [au.mk [110] x],0):=by
   unfold bN;simp only [lg];rw [beq_false_of_ne hc];simp only [cond_false];rw [aK (by simp)];simp only;have e5:(iT ([]++[[110]]):Option (List ak))=some [[110]]:=rfl;rw [e5];simp only [Option.bind_some];have e6:(fA (σ:=(List au)) (ε:=(List au)) (ρ:=Empty) (fun i0 s1 =>
   bX ((s1.length+1)*24≤140737488355328) <|
   some (.go (s1++[(au.mk (([[110]]:List ak).getD i0 []) (be 0 (([[110]]:List ak).getD i0 []) [([110],x)]))]))
  ) (fun i0 s1=>s1) (([[110]]:List ak).length-0) 0 [])=some (.brk [au.mk [110] x]):=rfl
   rw [e6];simp only [Option.bind_some,dL];rw [bP _ (by simp) (by simp),hv];rfl
  rw [e4];rfl
theorem pw {σ ε ρ:Type} {body:Nat→σ→Option (fE σ ε ρ)} {fin:Nat→σ→ε} (S:Nat→σ) (F:ε) (L:Nat) (h:∀ j,j<L→body j (S j)=some (.go (S (j+1)))) (hF:∀ i,fin i (S L)=F) :
 fA body fin (L-0) 0 (S 0)=some (.brk F):=by
 obtain ⟨s',e1,e2⟩:=vP (body:=body) (fin:=fin) (fun j s=>s=S j) (L-0) 0 (S 0) rfl (fun j s _ hj hs=>⟨S (j+1),by rw [hs];exact h j (by omega),rfl⟩);rw [e1,e2,show 0+(L-0)=L by omega,hF]
theorem EB {σ ε ρ:Type} (body:σ→Option (fE σ ε ρ)) (n:Nat) (s:σ):oa body (n+1) s=(body s).bind (AK (oa body n)):=rfl
theorem Jh {σ ε ρ:Type} {body:σ→Option (fE σ ε ρ)} {N:Nat} {s s1:σ} {x:ε} (h1:body s=some (.go s1)) (h2:body s1=some (.brk x)):oa body (N+2) s=some (.brk x):=by rw [EB,h1];show oa body (N+1) s1=_;rw [EB,h2];rfl
theorem Hb (c:List (Linear×Linear)):bL [105,110,116] [105,110,116] [] [] c=some (0,[]):=by have e:fa [105,110,116] [] [] c=some [105,110,116]:=rfl;unfold bL;rw [e];simp only [Option.bind_some];rw [fN];rfl
theorem Fl (l m:Linear) (c:List (Linear×Linear)) (h:c.length≤1000):bG (Shape.mk [] [l]) (Shape.mk [] [m]) [] [] c=some (0,c++[(l,m)],[]):=by
 have e1:∀ x:Linear,ef (Shape.mk [] [x]) [] [] c=some (Shape.mk [] [x],0):=fun _=>rfl;unfold bG;rw [e1,e1];simp only [Option.bind_some,beq_self_eq_true,cond_true];refine (congrArg (fun o:Option (Out (List (Linear×Linear)) Empty)=>Option.bind o _) (Jh (N:=4294967294) (s1:=(2,c++[(l,m)])) (x:=c++[(l,m)]) ?_ ?_)).trans ?_
 ·have b1:∀ {β:Type} (a b:Option β),(bif decide ((1:Int)≤(if ((([m]:List Linear).length:Nat):Int)<((([l]:List Linear).length:Nat):Int) then ((([m]:List Linear).length:Nat):Int) else ((([l]:List Linear).length:Nat):Int))) then a else b)=a:=fun a b=>rfl;simp only [b1];rw [aK ⟨by show (0:Int)≤aS (((1:Nat):Int)-1);decide,by show aS (((1:Nat):Int)-1)<((1:Nat):Int);decide⟩,aK ⟨by show (0:Int)≤aS (((1:Nat):Int)-1);decide,by show aS (((1:Nat):Int)-1)<((1:Nat):Int);decide⟩,aK (by omega)];rfl
 ·rfl
 ·rfl
theorem HB (ps:List (Int×Int)) (hl:ps.length≤4):jr (ps.map sa)=some ([],[],ps.map (fun p=>(bh p,cK 0)),0):=by
 unfold jr;rw [Mt];have e:=pw (ρ:=((List (ak×ak))×(List (ak×Shape))×(List (Linear×Linear))×Int)) (body:=fun i0 (s0:(List (ak×Shape))×(List (Linear×Linear))×(List (ak×ak))) =>
  (bL ((((ps.map sa).getD i0 ag).A).Elem) ((((ps.map sa).getD i0 ag).B).Elem) s0.2.2 s0.1 s0.2.1).bind fun y0 =>
  bif (y0.1==0) then (
   (bG (Shape.mk (((((ps.map sa).getD i0 ag).A).Shape).Row) (((((ps.map sa).getD i0 ag).A).Shape).Dims)) (Shape.mk (((((ps.map sa).getD i0 ag).B).Shape).Row) (((((ps.map sa).getD i0 ag).B).Shape).Dims)) y0.2 s0.1 s0.2.1).bind fun y1 =>
   bif (y1.1==0) then (
    some (.go (y1.2.2,y1.2.1,y0.2))
   ) else (
    none
   )
  ) else (
   none
  )) (fin:=fun i0 s0=>(s0.2.1,s0.1,s0.2.2)) (fun j=>([],(ps.take j).map (fun p=>(bh p,cK 0)),[])) (ps.map (fun p=>(bh p,cK 0)),[],[]) ps.length (fun j hj=>by
   have e1:(ps.map sa).getD j ag=sa ps[j]:=by rw [Mk,List.getElem?_map,Ml hj];rfl
   simp only [e1];show (bL [105,110,116] [105,110,116] [] [] _).bind _=_;rw [Hb];simp only [Option.bind_some,beq_self_eq_true,cond_true];show (bG (Shape.mk [] [bh ps[j]]) (Shape.mk [] [cK 0]) [] [] _).bind _=_;rw [Fl _ _ _ (by simp;omega)];simp only [Option.bind_some,beq_self_eq_true,cond_true];have e5:(ps.take (j+1)).map (fun p=>(bh p,cK 0))=(ps.take j).map (fun p=>(bh p,cK 0))++[(bh ps[j],cK 0)]:=by rw [List.take_add_one,Ml hj,List.map_append];rfl
   rw [e5]) (fun i=>by simp)
 refine (congrArg (fun o:Option (Out _ _)=>Option.bind o _) e).trans ?_;rfl
theorem Eu {ps:List (Int×Int)} {j:Nat} (hj:j<ps.length):(ps.map sa).getD j ag=sa ps[j]:=by rw [Mk,List.getElem?_map,Ml hj];rfl
theorem Ey {β:Type} {ps:List (Int×Int)} {j:Nat} (hj:j<ps.length) (g:Int×Int→β):(ps.take (j+1)).map g=(ps.take j).map g++[g ps[j]]:=by rw [List.take_add_one,Ml hj,List.map_append];rfl
theorem JE (ps:List (Int×Int)) (h:∀ p∈ps,Cz p) (hl:ps.length≤4):cL (ps.map (fun p=>(bh p,cK 0))) [] []=some (ps.map bh,0):=by
 unfold cL;rw [Mt];refine (congrArg (fun o:Option (Out (List Linear) (List Linear×Int))=>Option.bind o _) (pw (S:=fun j=>(ps.take j).map bh) (F:=ps.map bh) (L:=ps.length) (fun j hj => ?_) (fun i=>by simp))).trans rfl;have e1:(ps.map (fun p=>(bh p,cK 0))).getD j (aD,aD)=(bh ps[j],cK 0):=by rw [Mk,List.getElem?_map,Ml hj];rfl
 simp only [e1];show (kO (bh ps[j]) (cK 0)).bind _=_;rw [KM (h _ (List.getElem_mem hj))];simp only [Option.bind_some,beq_self_eq_true,cond_true];rw [aK (by simp;omega),Ey hj]
theorem GS (ps:List (Int×Int)) (h:∀ p∈ps,Cz p) (hl:ps.length≤4):lq (ps.map sa)=some true:=by
 unfold lq ct cS;rw [Mt,Mr (show ((ps.length:Nat):Int)≤6000 by omega)];simp only [cond_true];have e:=pw (ε:=Unit) (ρ:=Int) (S:=fun _=>()) (F:=()) (L:=ps.length) (body:=fun i0 (s0:Unit) =>
  (fw (aG.mk (eh.mk ((((ps.map sa).getD i0 ag).A).Elem) (Shape.mk (((((ps.map sa).getD i0 ag).A).Shape).Row) (((((ps.map sa).getD i0 ag).A).Shape).Dims))) (eh.mk ((((ps.map sa).getD i0 ag).B).Elem) (Shape.mk (((((ps.map sa).getD i0 ag).B).Shape).Row) (((((ps.map sa).getD i0 ag).B).Shape).Dims))))).bind fun y0 =>
  bif y0 then (
   some (.ret ((i0:Nat):Int))
  ) else (
   some (.go ())
  )) (fin:=fun i0 s0=>()) (fun j hj=>by
   simp only [Eu hj];have e2:fw (sa ps[j])=some false:=by
    unfold fw;have t1:cQ (sa ps[j]).A=some true:=by show cQ (CB (bh ps[j]))=_;rw [jT _ (uS (uk _)),r7 (mD (h _ (List.getElem_mem hj)))]
    have t2:cQ (sa ps[j]).B=some true:=by show cQ (CB (cK 0))=_;rw [jT _ (uS Ee),r7 mX]
    rw [t1,t2];rfl
   show (fw (sa ps[j])).bind _=_;rw [e2];rfl) (fun i=>rfl)
 refine (congrArg (fun o:Option (Out Unit Int)=>Option.bind (Option.bind (Option.bind o _) _) _) e).trans rfl
def vB (p:Int×Int):List Bind:=bif p.1==0 then [] else [Bind.mk 1 [110] (Linear.mk 0 []) (Shape.mk [] []) []]
theorem JW {p:Int×Int} (h:ax (bh p)=true):eA (CB (bh p))=some (vB p):=by
 unfold eA;rw [jT _ (uS (uk _)),r7 h];simp only [Option.bind_some,cond_true];have e1:ng (Shape.mk [] [bh p])=some (vB p):=by
  unfold ng;rw [kg _ (uS (uk _)),uO h];simp only [Option.bind_some,cond_true];obtain ⟨c,d⟩:=p;by_cases hc:c=0
  ·subst hc;rfl
  ·unfold vB;rw [im hc,beq_false_of_ne hc];rfl
 rw [e1,fN];rfl
theorem D1 (p:Int×Int):(fA (σ:=Unit) (ε:=Unit) (ρ:=(fE Unit Unit (fE Unit Unit Bool))) (fun i2 s2 =>
 ((
  bif ((((vB p).getD i2 ao).Kind)==3) then (
   some (.brk ())
  ) else (
   (mr (((vB p).getD i2 ao).Var)).bind fun y2 =>
   bif decide (y2≥(1:Int)) then (
    some (.ret (.ret (.ret (.ret false))))
   ) else (
    some (.brk ())
   )
  )
 ):Option (Out Unit (fE Unit Unit (fE Unit Unit (fE Unit Unit Bool))))).bind (aft fun u0 =>
  some (.go ())
 )
 ) (fun i2 s2=>()) ((vB p).length-0) 0 ())=some (.brk ()):=by
 obtain ⟨c,d⟩:=p;by_cases hc:c=0
 ·subst hc;rfl
 ·have e:vB (c,d)=[Bind.mk 1 [110] (Linear.mk 0 []) (Shape.mk [] []) []]:=by unfold vB;rw [beq_false_of_ne hc];rfl
  rw [e];rfl
theorem LG {ε ρ:Type} {body:Nat→Unit→Option (fE Unit ε ρ)} {fin:Nat→Unit→ε} {α:Type} {a b:α} (h0:body 0 ()=some (.go ())) (h1:body 1 ()=some (.go ())):fA body fin ([a,b].length-0) 0 ()=some (.brk (fin 2 ())):=by show (body 0 ()).bind _=_;rw [h0];show (body 1 ()).bind _=_;rw [h1];rfl
theorem Hx (ps:List (Int×Int)) (h:∀ p∈ps,Cz p) (hl:ps.length≤4):lB (ps.map sa) 1=some true:=by
 unfold lB;rw [GS ps h hl];simp only [Option.bind_some,cond_true];rw [Mq (show ¬ (1:Int)<1 by omega),Mq (show ¬ (1:Int)>1000000 by omega)];simp only [cond_false];rw [Mt];refine (congrArg (fun o:Option (Out Unit Bool)=>Option.bind o _) (pw (S:=fun _=>()) (F:=()) (L:=ps.length) (fun j hj => ?_) (fun i=>rfl))).trans rfl;simp only [Eu hj];refine (congrArg (fun o:Option (Out Unit (fE Unit Unit Bool))=>Option.bind o _) (LG ?_ ?_)).trans rfl
 ·show (eA (CB (bh ps[j]))).bind _=_;rw [JW (mD (h _ (List.getElem_mem hj)))];simp only [Option.bind_some];exact (congrArg (fun o:Option (Out Unit (fE Unit Unit (fE Unit Unit Bool)))=>Option.bind o _) (D1 ps[j])).trans rfl
 ·show (eA (CB (bh (0,0)))).bind _=_;rw [JW (p:=(0,0)) mX];simp only [Option.bind_some];exact (congrArg (fun o:Option (Out Unit (fE Unit Unit (fE Unit Unit Bool)))=>Option.bind o _) (D1 (0,0))).trans rfl
theorem HK (ps:List (Int×Int)) (h:∀ p∈ps,Cz p) (hl:ps.length≤4) :
 (∃ (k:Int) (bs:List Bind) (m:Int),(-20≤k∧k≤20)∧(∀ p∈ps,B2 k p)∧fX (ps.map sa) 1=some (bs,m,0)) ∨
 ((¬ ∃ k,∀ p∈ps,B2 k p)∧fX (ps.map sa) 1=some ([],0,14)):=by
 unfold fX;rw [Hx ps h hl,HB ps hl];simp only [Option.bind_some,cond_true,Option.isSome_some,beq_self_eq_true];rw [JE ps h hl];simp only [Option.bind_some,cond_true,beq_self_eq_true];rcases GH h hl with ⟨k,bs,m,f,hk,hs,hb,e⟩ | ⟨hn,m,bs,f,e⟩
 ·refine .inl ⟨k,bs,m,hk,hs,?_⟩;rw [e];have hbb:∀ p∈ps,((bs=[]∧p=(0,0))∨bs=[one [110] (cK k)]):=fun p hp=>by
   rcases hb with ⟨h1,h2⟩ | h1
   ·exact .inl ⟨h1,h2 p hp⟩
   ·exact .inr h1
  have hc:dv bs=some bs:=by rcases hb with ⟨rfl,_⟩ | rfl<;>rfl
  have hq:kK (fun x:Bind=>x.Kind) (fun x=>x.Var) bs=some bs:=by rcases hb with ⟨rfl,_⟩ | rfl<;>rfl
  have hbi:fZ (ps.map (fun p=>(bh p,cK 0))) [] []=some []:=rfl;simp only [Option.bind_some];show ((dv bs).bind _)=_;rw [hc];simp only [Option.bind_some];rw [hbi];simp only [Option.bind_some];show ((kK (fun x:Bind=>x.Kind) (fun x=>x.Var) bs).bind _)=_;rw [hq];simp only [Option.bind_some];rw [Mt];refine (congrArg (fun o:Option (Out (List Bind) (List Bind×Int×Int))=>Option.bind o _) (pw (S:=fun _=>bs) (F:=bs) (L:=ps.length) (fun j hj => ?_) (fun i=>rfl))).trans rfl;simp only [Eu hj];obtain ⟨t,u,e1,e2⟩:=F7 hk (h _ (List.getElem_mem hj)) (hs _ (List.getElem_mem hj)) (hbb _ (List.getElem_mem hj));show (dX (CB (bh ps[j])) bs).bind _=_;rw [e1];simp only [Option.bind_some];show (dX (CB (cK 0)) bs).bind _=_;rw [e2];rfl
 ·refine .inr ⟨hn,?_⟩;rw [e];rfl
def fP (x:Int×Int):Int×Int:=((IntKind.wrap .i64 x.1).tmod 6,(IntKind.wrap .i64 x.2).tmod 21)
theorem Lu (x:Int×Int):Cz (fP x):=by unfold fP Cz;have h1:=Int.natAbs_tmod (IntKind.wrap .i64 x.1) 6;have h2:=Int.natAbs_tmod (IntKind.wrap .i64 x.2) 21;have h3:(IntKind.wrap .i64 x.1).natAbs % 6<6:=Nat.mod_lt _ (by omega);have h4:(IntKind.wrap .i64 x.2).natAbs % 21<21:=Nat.mod_lt _ (by omega);have e1:(6:Int).natAbs=6:=rfl;have e2:(21:Int).natAbs=21:=rfl;rw [e1] at h1;rw [e2] at h2;generalize (IntKind.wrap .i64 x.1).tmod 6=a at h1 ⊢;generalize (IntKind.wrap .i64 x.2).tmod 21=b at h2 ⊢;show (-5≤a∧a≤5) ∧ -20≤b∧b≤20;omega
def Kc (ps:List (Int×Int)) (n:Int):Bool:=ps.all fun p=>p.2+p.1*n==0
theorem JN {p:Int×Int} {n:Int} (h:ax (bh p)=true) (hn : -20≤n∧n≤20):gi (bh p) [Value.mk [110] n]=some (p.2+p.1*n,0):=by
 rw [yf,Kq h fun t ht => ?_,EG]
 ·rfl
 ·obtain ⟨c,d⟩:=p;by_cases hc:c=0
  ·subst hc;cases ht
  ·rw [im hc] at ht;have:t=au.mk [110] c:=by simpa using ht
   subst this;exact ⟨(by omega:(0:Int)≤0),by show -1000000000≤n;omega,by show n≤1000000000;omega⟩
theorem EP (q:Int→Bool) {body:Bool×Int→Option (fE (Bool×Int) Bool Empty)} (hb:∀ (n:Int) (s:Bool),-20≤n→n≤20→body (s,n)=some (.go (s||q n,n+1))) (he:∀ s,body (s,21)=some (.brk s)) :
 ∀ (k N:Nat) (s:Bool) (n:Int),n+k=21 → -20≤n→k<N→oa body N (s,n)=some (.brk (s||(List.range k).any fun i=>q (n+i)))
 | 0,N,s,n,hn,_,hN=>by
  obtain ⟨N,rfl⟩:∃ M,N=M+1:=⟨N-1,by omega⟩;have:n=21:=by omega
  subst this;rw [EB,he];simp [AK]
 | k+1,N,s,n,hn,h0,hN=>by
  obtain ⟨N,rfl⟩:∃ M,N=M+1:=⟨N-1,by omega⟩;rw [EB,hb n s h0 (by omega)];show oa body N _=_;rw [EP q hb he k N _ _ (by omega) (by omega) (by omega)];have e:(fun i:Nat=>q (n+1+(i:Int)))=(fun i:Nat=>q (n+(i:Int))) ∘ Nat.succ:=by funext i;simp only [Function.comp];congr 1;omega
  rw [List.range_succ_eq_map,List.any_cons,List.any_map,Bool.or_assoc,← e];simp
theorem I7 (ps:List (Int×Int)):((List.range 41).any fun i=>Kc ps (-20+(i:Int)))=true↔∃ k,(-20≤k∧k≤20)∧∀ p∈ps,B2 k p:=by
 rw [List.any_eq_true];constructor
 ·rintro ⟨i,hi,h⟩;have hi:=List.mem_range.1 hi;refine ⟨-20+(i:Int),by omega,fun p hp => ?_⟩;simp only [Kc,My,beq_iff_eq] at h;exact h p hp
 ·rintro ⟨k,hk,h⟩;refine ⟨(k+20).toNat,List.mem_range.2 (by omega),?_⟩;simp only [Kc,My,beq_iff_eq];intro p hp;rw [show -20+(((k+20).toNat:Nat):Int)=k by omega];exact h p hp
theorem uW:ju=some true:=by kernel_rfl
theorem A5 (x0:List (Int×Int)):gg x0=some true:=by
 unfold gg;rw [uW];simp only [Option.bind_some,cond_true];by_cases hl:((x0.length:Nat):Int)>4
 ·rw [Mr hl];rfl
 rw [Mq hl];simp only [cond_false];have hlen:x0.length≤4:=by omega
 obtain ⟨ps,hps⟩:∃ ps,ps=x0.map fP:=⟨_,rfl⟩;have hpl:ps.length=x0.length:=by rw [hps,Mt]
 have hin:∀ p∈ps,Cz p:=fun p hp=>by rw [hps] at hp;obtain ⟨x,_,rfl⟩:=List.mem_map.1 hp;exact Lu x
 refine (congrArg (fun o:Option (Out (List aG) Empty)=>Option.bind o _) (pw (S:=fun j=>(ps.take j).map sa) (F:=ps.map sa) (L:=x0.length) (fun j hj => ?_) (fun i=>by rw [← hpl];simp))).trans ?_
 ·have hj':j<ps.length:=by omega
  have e0:ps[j]=fP x0[j]:=by simp [hps]
  have e1:x0.getD j (0,0)=x0[j]:=by rw [Mk,Ml hj];rfl
  simp only [e1];rw [Ey hj',e0];have hg:((ps.take j).map sa).length≤4:=by simp;omega
  generalize (ps.take j).map sa=s0 at hg;show ((bif ((fP x0[j]).1==0) then (some ((fP x0[j]).2,([]:List au))) else some ((fP x0[j]).2,[au.mk [110] ((fP x0[j]).1)])):Option (Int×List au)).bind _=_;generalize fP x0[j]=p;obtain ⟨c,d⟩:=p;unfold sa bh;simp only;cases c==0 with
  | true =>
   simp only [cond_true,Option.bind_some];rw [aK (by omega)]
  | false =>
   simp only [cond_false,Option.bind_some];rw [aK (by omega)]
 simp only [Option.bind_some,dL];have hbody:∀ (n:Int),-20≤n→n≤20→(fA (σ:=Bool) (ε:=Bool) (ρ:=Empty) (fun i1 s2 =>
  bX (0<(((((ps.map sa).getD i1 ag).A).Shape).Dims).length) <|
  (gi (Linear.mk (((((((ps.map sa).getD i1 ag).A).Shape).Dims).getD 0 aD).Const) (((((((ps.map sa).getD i1 ag).A).Shape).Dims).getD 0 aD).Terms)) [(Value.mk [110] n)]).bind fun y2 =>
  ((
   bif s2 then (
    bif (y2.2==0) then (
     some (y2.1==0)
    ) else (
     some false
    )
   ) else (
    some false
   )
  ):Option Bool).bind fun v1 =>
  some (.go v1)
  ) (fun i1 s2=>s2) ((ps.map sa).length-0) 0 true)=some (.brk (Kc ps n)):=fun n h1 h2=>by
  rw [Mt];refine pw (S:=fun j=>(ps.take j).all fun p=>p.2+p.1*n==0) (F:=Kc ps n) (L:=ps.length) (fun j hj => ?_) (fun i=>by unfold Kc;simp);simp only [Eu hj];have e1:gi (bh ps[j]) [Value.mk [110] n]=_:=JN (mD (hin _ (List.getElem_mem hj))) ⟨h1,h2⟩;rw [aK (by show 0<([bh ps[j]]:List Linear).length;simp)];show (gi (bh ps[j]) [Value.mk [110] n]).bind _=_;rw [e1,List.take_add_one,Ml hj,List.all_append];simp only [Option.bind_some,beq_self_eq_true,cond_true];cases (ps.take j).all fun p=>p.2+p.1*n==0 with
  | false=>rfl
  | true=>simp
 refine (congrArg (fun o:Option (Out Bool Empty)=>Option.bind o _) (EP (Kc ps) (fun n s h1 h2 => ?_) (fun s => ?_) 41 4294967296 false (-20) (by decide) (by decide) (by decide))).trans ?_
 ·show (bif decide (n≤20) then _ else _)=_;rw [Mr h2];simp only [cond_true];refine (congrArg (fun o:Option (Out Bool Empty)=>Option.bind o _) (hbody n h1 h2)).trans ?_;simp only [Option.bind_some,dL];rw [qa (n:=n+1) (by omega)];cases s<;>rfl
 ·rfl
 simp only [Option.bind_some,dL,Bool.false_or];have hu:=I7 ps;generalize ((List.range 41).any fun i=>Kc ps (-20+(i:Int)))=u2 at hu;rcases HK ps hin (by omega) with ⟨k,bs,m,hk,hs,e⟩ | ⟨hn,e⟩
 ·rw [e,hu.2 ⟨k,hk,hs⟩];rfl
 ·have h2:u2=false:=by
   cases u2 with
   | false=>rfl
   | true =>
    obtain ⟨k,_,hs⟩:=hu.1 rfl;exact absurd ⟨k,hs⟩ hn
  rw [e,h2];rfl
end Go.Proofs.YtoebmibmmlcfiaaGreatDoor
