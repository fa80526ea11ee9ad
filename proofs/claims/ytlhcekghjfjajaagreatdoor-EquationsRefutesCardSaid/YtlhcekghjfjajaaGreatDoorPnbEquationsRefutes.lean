/- Plain laws: what the walked functions compute answers as the statement says. -/
import Derived.Test.YtlhcekghjfjajaaGreatDoorPnaEquationsRefutes
import Derived.KernelRfl
set_option linter.unusedSimpArgs false
set_option linter.unusedVariables false
namespace Go.Proofs.YtlhcekghjfjajaaGreatDoor
open Go.Ab Go.Sh
theorem EK (l:List Linear) (p:Linear→Bool):∀ x:Option Nat,(match x with | some j=>((j:Nat):Int) | none => -1)=idxOf p l →
 (some (match x with | some j=>(Out.ret ((j:Nat):Int):Out Unit Int) | none=>.brk ())).bind (Sh.aft fun u0=>some (-1))=some (idxOf p l)
 | some j,h=>congrArg some h
 | none,h=>congrArg some h
theorem dW {l:List Linear} (hk:∀ q∈l,Dw q):bU l=some (l.all ax):=by
 have h1:b7 l=some (idxOf (fun q => !ax q) l):=by
  unfold b7;rw [vm (f:=fun j=>((j:Nat):Int)) (fun j=>(fun q => !ax q) (l.getD j bD)) _ _ () (fun j u h1 h2=>by have hm:l.getD j bD∈l:=bb _ (by omega);have ho:=hk _ hm;unfold gb;rw [oX,eI _ ho.1 ho.2];simp only [Option.bind_some];cases ax (l.getD j bD)<;>rfl)]
  exact EK l (fun q => !ax q) _ (sX (fun q => !ax q) bD l)
 unfold bU cp;rw [h1];simp only [Option.bind_some];have h2:=qB (fun q => !ax q) l;congr 1;rw [Bool.eq_iff_iff];simp only [Bool.not_eq_true',decide_eq_false_iff_not,LN];constructor
 ·intro h q hq;have:=h2.1 (by omega);rw [List.any_eq_false] at this;simpa using this q hq
 ·intro h hc;have:idxOf (fun q => !ax q) l<0:=h2.2 (List.any_eq_false.2 fun q hq=>by simp [h q hq]);omega
def jR (l:List Linear) (n:Nat):(List Bind×Int)×Int:=match kG l.length 0 n l [] with
 | some (.ok m _ bs)=>((JT l bs,(m:Int)),0)
 | some .no=>(([],0),9)
 | _=>(([],0),3)
theorem oH {l:List Linear} {n:Nat} (hv:∀ q∈l,ax q=true) (h1:1≤n) (h2:n<1000000000) (hg:DZ l<n):gX n l []:=by refine ⟨h1,h2,fun q hq=>⟨hv q hq,fun t ht => ?_⟩,fun b hb=>by simp at hb⟩;obtain ⟨_,hm,_⟩:=oa (l:=l) fun q hq=>bX (hv q hq);have h3:=(CR (dA l) 0).2 t.Var ((hm _).2 ⟨q,hq,t,ht,rfl⟩);have h4:(dA l).foldl (fun n v=>if nG v>n then nG v else n) 0<n:=hg;omega
theorem zS {l:List Linear} {n:Nat} (hv:∀ q∈l,ax q=true) (h1:1≤n) (h2:n<1000000000) (hg:DZ l<n) (hl:l.length≤6000) :
 ∃ f,bc l (n:Int)=some ((jR l n).1.1,(jR l n).1.2,f,(jR l n).2)∧((jR l n).2=0→f=ah.mk [] 0):=by
 have hS:=oH hv h1 h2 hg;unfold bc;rw [dW fun q hq=>jK (hv q hq),LN.2 hv];simp only [Option.bind_some,cond_true];rw [LG (show ¬ (n:Int)<1 by omega),LG (show ¬ (n:Int)≥1000000000 by omega),dt hv hl];simp only [cond_false,Option.bind_some];rw [LG (show ¬ DZ l≥(n:Int) by omega),LG (show ¬ (l.length:Int)>6000 by omega)];simp only [cond_false];obtain ⟨s',e1,e2⟩:=qk (ε:=List Rw) (ρ:=Empty) (fin:=fun i0 s0=>s0) (fun j s=>s=cU l j)
  (body:=fun i0 s0 =>
   bM ((s0.length+1)*56≤140737488355328) <|
   some (.go (s0++[(ae.mk (Linear.mk ((l.getD i0 ⟨0,[]⟩).Const) ((l.getD i0 ⟨0,[]⟩).Terms)) (ksort (bI (((i0:Nat):Int):Int) 1 [])) 1 false)]))) (l.length-0) 0 [] rfl (fun j s _ hj hs=>by
   refine ⟨_,aG (by rw [hs];simp [cU];omega),?_⟩;rw [hs];unfold cU;rw [List.range_succ,List.map_append];rfl)
 refine Exists.imp (fun f=>And.imp_left fun h=>(congrArg (fun o:Option (Out (List Rw) Empty)=>Option.bind o _) e1).trans h) ?_;simp only [Option.bind_some,dI];have e2:s'=cU l l.length:=by rw [e2];congr 1;omega
 rw [e2];have hlen:(cU l l.length).length=l.length:=by simp [cU]
 have hq:=C0 l;have hS':gX n ((cU l l.length).map (·.q)) []:=by rw [hq];exact hS
 obtain ⟨w1,w2,w3⟩:=IG hl l.length 0 4294967296 n (cU l l.length) [] (by omega) (by omega) hlen hS' (vt l) (by simp);rw [hq] at w1 w2 w3;rw [hlen];obtain ⟨r,hr⟩:=s9 l.length 0 n l [] (by omega) hS (by simp);unfold jR;rw [hr] at w1 w2 w3 ⊢;cases r with
 | no =>
  obtain ⟨f,e⟩:=w2 rfl;refine ⟨f,?_,fun h=>absurd (show (9:Int)=0 from h) (by decide)⟩;refine (congrArg (fun o:Option (Out (List Rw×List Bind×Int) B3)=>Option.bind o _) e).trans ?_;rfl
 | lim =>
  obtain ⟨f,e⟩:=w3 rfl;refine ⟨f,?_,fun h=>absurd (show (3:Int)=0 from h) (by decide)⟩;refine (congrArg (fun o:Option (Out (List Rw×List Bind×Int) B3)=>Option.bind o _) e).trans ?_;rfl
 | ok m qs bs =>
  obtain ⟨rows',e⟩:=w1 m qs bs rfl;obtain ⟨a1,a2,a3,a4⟩:=DS l.length 0 n l [] (by omega) hS (EB l) (by simp) m qs bs hr;refine ⟨ah.mk [] 0,?_,fun _=>rfl⟩;refine (congrArg (fun o:Option (Out (List Rw×List Bind×Int) B3)=>Option.bind o _) e).trans ?_;simp only [Option.bind_some,Sh.aft];have hm:=a1.n2;rw [LG (show ¬ (m:Int)≥1000000000 by omega)];simp only [cond_false];have hl12:∀ q∈l,q.Terms.length≤12:=fun q hq=>bX (hv q hq);obtain ⟨v1,_,v3⟩:=oa hl12;rw [dH hl12 hl];simp only [Option.bind_some];have hb:=fB (ε:=List Bind) (ρ:=Empty) (f:=fun s=>s) (fin:=fun i1 s3=>s3) Bm bs (fun b s=>gC.go (bif !(decide (b.Var∈dA l)) then s else s++[b])) (fun j s=>s.length≤j)
   (body:=fun i1 s3 =>
    (fE (dA l) ((bs.getD i1 (⟨0,[],⟨0,[]⟩,⟨[],[]⟩,[]⟩)).Var)).bind fun y5 =>
    ((
     bif y5.2 then (
      bM ((s3.length+1)*112≤140737488355328) <|
      some (s3++[(Bind.mk ((bs.getD i1 (⟨0,[],⟨0,[]⟩,⟨[],[]⟩,[]⟩)).Kind) ((bs.getD i1 (⟨0,[],⟨0,[]⟩,⟨[],[]⟩,[]⟩)).Var) (Linear.mk (((bs.getD i1 (⟨0,[],⟨0,[]⟩,⟨[],[]⟩,[]⟩)).Dim).Const) (((bs.getD i1 (⟨0,[],⟨0,[]⟩,⟨[],[]⟩,[]⟩)).Dim).Terms)) (Shape.mk (((bs.getD i1 (⟨0,[],⟨0,[]⟩,⟨[],[]⟩,[]⟩)).Row).Row) (((bs.getD i1 (⟨0,[],⟨0,[]⟩,⟨[],[]⟩,[]⟩)).Row).Dims)) ((bs.getD i1 (⟨0,[],⟨0,[]⟩,⟨[],[]⟩,[]⟩)).Elem))])
     ) else (
      some s3
     )
    ):Option (List Bind)).bind fun v1 =>
    some (.go v1)) (fun _ _=>rfl) [] (Nat.zero_le _) (fun j s hj hI=>by
    obtain ⟨x,ex⟩:=vU v1 (by omega) (bs.getD j Bm).Var;refine ⟨?_,fun s' hs' => ?_⟩
    ·refine (congrArg (fun o:Option (Int×Bool)=>Option.bind o _) ex).trans ?_;simp only [Option.bind_some];cases decide ((bs.getD j Bm).Var∈dA l) with
     | false=>rfl
     | true =>
      simp only [cond_true];rw [aG (by omega)];rfl
    ·injection hs' with hs'
     subst hs';cases !(decide ((bs.getD j Bm).Var∈dA l))<;>simp<;>omega)
  rw [p9 (fun b:Bind => !(decide (b.Var∈dA l))) (fun b=>b)] at hb;refine (congrArg (fun o:Option (Out (List Bind) Empty)=>Option.bind o _) hb).trans ?_;simp only [Option.bind_some,dI,List.nil_append,List.map_id'];have hfl:(bs.filter fun u => !!(decide (u.Var∈dA l)))=bs.filter fun b=>decide (b.Var∈dA l):=by congr 1;funext b;rw [Bool.not_not]
  rw [hfl];unfold iR;have hlf:=List.length_filter_le (fun b:Bind=>decide (b.Var∈dA l)) bs;rw [aG ⟨by omega,(List.Sublist.map _ List.filter_sublist).nodup a2.D⟩];rfl
def wX (l:Linear):Bool:=l.Terms.all (fun t=>decide (t.Var.length≤40))&&decide (l.Terms.length≤6)
theorem yK (l:Linear):nQ l 6=some (wX l):=by
 unfold nQ;rw [gJ (r:=false) (fun j=>(fun t:aq=>decide (t.Var.length≤40)) (l.Terms.getD j ⟨[],0⟩)) _ _ () (fun j u _ _=>by simp only;rw [show decide (((l.Terms.getD j ⟨[],0⟩).Var.length:Int)>40) = !decide ((l.Terms.getD j ⟨[],0⟩).Var.length≤40) from JX (b:=40)];cases decide ((l.Terms.getD j ⟨[],0⟩).Var.length≤40)<;>rfl)]
 rw [A4 (fun t:aq=>decide (t.Var.length≤40)) ⟨[],0⟩ l.Terms,jh];unfold wX;rw [show decide ((l.Terms.length:Int)≤6)=decide (l.Terms.length≤6) from Gf (b:=6)];cases l.Terms.all fun t=>decide (t.Var.length≤40)<;>rfl
theorem yg (l:List Linear) (k:Nat):nS l (k:Int)=some (l.all wX&&decide (l.length≤k)):=by
 unfold nS;rw [gJ (r:=false) (fun j=>wX (l.getD j bD)) _ _ () (fun j u _ _=>by rw [oX,yK];simp only [Option.bind_some];cases wX (l.getD j bD)<;>rfl)]
 rw [A4 wX bD l,jh,Gf];cases l.all wX<;>rfl
theorem Hy {q:Linear} (h:wX q=true):Dw q:=by unfold wX at h;simp only [LB,LN,decide_eq_true_eq] at h;exact ⟨by omega,fun t ht=>by have:=h.1 t ht;omega⟩
theorem D7 {l:List Linear} {next:Int} (hk:∀ q∈l,Dw q) (hl:l.length≤6000) (h:(∀ q∈l,ax q=true)→1≤next→next<1000000000→¬ DZ l<next):bc l next=some ([],0,ah.mk [] 0,1):=by
 unfold bc;rw [dW hk];cases hv:l.all ax with
 | false=>rfl
 | true =>
  rw [LN] at hv;simp only [Option.bind_some,cond_true];by_cases h1:next<1
  ·rw [LH h1];rfl
  ·rw [LG h1];by_cases h2:next≥1000000000
   ·rw [LH h2];rfl
   ·rw [LG h2,dt hv hl];simp only [cond_false,Option.bind_some];rw [LH (show DZ l≥next from by have:=h hv (by omega) (by omega);omega)];rfl
section
variable {α:Type} (v:α→au)
def El (t:α):List α→List α
 | []=>[t]
 | u::us=>bif Op.bytesLess (v u) (v t) then u::El t us else t::u::us
def EY:List α→List α
 | []=>[]
 | t::ts=>El v t (EY ts)
def K2:List α→Bool
 | []=>true
 | t::ts => !(ts.any fun u=>v u==v t)&&K2 ts
theorem GK:∀ {ts:List α},K2 v ts=true→(ts.map v).Nodup
 | [],_=>List.nodup_nil
 | t::ts,h=>by simp only [K2,LB,Bool.not_eq_true',List.any_eq_false,beq_iff_eq] at h;rw [List.map_cons,List.nodup_cons];refine ⟨fun hm => ?_,GK h.2⟩;obtain ⟨u,hu,e⟩:=List.mem_map.1 hm;exact h.1 u hu e
theorem ti (t:α):∀ us:List α,(El v t us).Perm (t::us)
 | []=>.refl _
 | u::us=>by
  unfold El;cases Op.bytesLess (v u) (v t) with
  | true=>exact ((ti t us).cons u).trans (List.Perm.swap t u us)
  | false=>exact .refl _
theorem sG:∀ ts:List α,(EY v ts).Perm ts
 | []=>.refl _
 | t::ts=>(ti v t (EY v ts)).trans ((sG ts).cons t)
def HQ (ts:List α):Prop:=ts.Pairwise fun a b=>Op.bytesLess (v a) (v b)=true
theorem zV {t:α}:∀ {us:List α},HQ v us→(∀ u∈us,v u≠v t)→HQ v (El v t us)
 | [],_,_=>List.pairwise_singleton _ _
 | u::us,h,hn=>by
  have h':=List.pairwise_cons.1 h;unfold El;cases hb:Op.bytesLess (v u) (v t) with
  | true =>
   refine List.pairwise_cons.2 ⟨fun x hx => ?_,zV h'.2 fun x hx=>hn x (by simp [hx])⟩;rcases List.mem_cons.1 ((ti v t us).mem_iff.1 hx) with rfl | hx
   ·exact hb
   ·exact h'.1 x hx
  | false =>
   have ht:Op.bytesLess (v t) (v u)=true:=by
    rcases sZ (v u) (v t) with h1 | h1 | h1
    ·rw [hb] at h1;cases h1
    ·exact absurd h1 (hn u (by simp))
    ·exact h1
   refine List.pairwise_cons.2 ⟨fun x hx => ?_,h⟩;rcases List.mem_cons.1 hx with rfl | hx
   ·exact ht
   ·exact gv _ _ _ ht (h'.1 x hx)
theorem Av:∀ {ts:List α},(ts.map v).Nodup→HQ v (EY v ts)
 | [],_=>List.Pairwise.nil
 | t::ts,h=>by rw [List.map_cons,List.nodup_cons] at h;refine zV v (Av h.2) fun u hu e => ?_;exact h.1 (List.mem_map.2 ⟨u,(sG v ts).mem_iff.1 hu,e⟩)
theorem sE (x y:α):Go.Proofs.ltOf (fun x y:α=>iT (v x) (v y)) x y=Op.bytesLess (v x) (v y):=by rw [Bool.eq_iff_iff];simp only [Go.Proofs.ltOf,decide_eq_true_eq,vT]
theorem Ep {ts:List α} (h:(ts.map v).Nodup):HQ v (iJ (fun x y=>iT (v x) (v y)) ts):=by
 have h1:(iJ (fun x y=>iT (v x) (v y)) ts).Pairwise fun a b=>(!Go.Proofs.ltOf (fun x y:α=>iT (v x) (v y)) b a)=true:=by
  refine msort_pw (fun a b c h1 h2 => ?_) (fun a b => ?_) _
  ·simp only [sE,Bool.not_eq_true'] at h1 h2 ⊢;rw [Bool.eq_false_iff];intro h3;rcases sZ (v a) (v b) with h4 | h4 | h4
   ·have:=gv _ _ _ h3 h4;rw [this] at h2;cases h2
   ·rw [← h4,h3] at h2;cases h2
   ·rw [h4] at h1;cases h1
  ·simp only [sE];cases h3:Op.bytesLess (v b) (v a) with
   | false=>rfl
   | true =>
    cases h4:Op.bytesLess (v a) (v b) with
    | false=>rfl
    | true=>have:=gv _ _ _ h3 h4;rw [gF] at this;cases this
 have hn:((iJ (fun x y=>iT (v x) (v y)) ts).map v).Nodup:=((msort_perm ts _).map v).nodup_iff.2 h;have h2:(iJ (fun x y=>iT (v x) (v y)) ts).Pairwise fun a b=>v a≠v b:=List.pairwise_map.1 hn;refine (List.Pairwise.and h1 h2).imp fun {a b} hab => ?_;have h3:=hab.1;rw [sE,Bool.not_eq_true'] at h3;rcases sZ (v a) (v b) with h4 | h4 | h4
 ·exact h4
 ·exact absurd h4 hab.2
 ·rw [h4] at h3;cases h3
theorem GJ {ts:List α} (h:(ts.map v).Nodup):iJ (fun x y=>iT (v x) (v y)) ts=EY v ts:=by refine List.Perm.eq_of_pairwise (fun a b _ _ h3 h4 => ?_) (Ep v h) (Av v h) ((msort_perm ts _).trans (sG v ts).symm);have:=gv _ _ _ h3 h4;rw [gF] at this;cases this
noncomputable def HP (ts:List α):List α:=bif K2 v ts then EY v ts else iJ (fun x y=>iT (v x) (v y)) ts
theorem CK (ts:List α):iJ (fun x y=>iT (v x) (v y)) ts=HP v ts:=by
 unfold HP;cases h:K2 v ts with
 | false=>rfl
 | true=>exact GJ v (GK v h)
end
noncomputable def Jt (n:Nat):au:=bif Nat.blt n 10 then [UInt8.ofNat (48+n)] else dec n
theorem Kt (n:Nat):dec n=Jt n:=by
 unfold Jt;cases h:Nat.blt n 10 with
 | false=>rfl
 | true=>exact tt (by simpa [Nat.blt_eq] using h)
noncomputable def JF (t:aq) (n:Nat) (q:Linear):Linear:=Linear.mk (-(gE q.Const t.C)) (HP aq.Var (aq.mk (95::Jt n) 1::(q.Terms.filter fun u => !(u.Var==t.Var||gE u.C t.C==0)).map fun u=>aq.mk u.Var (-(gE u.C t.C))))
theorem KZ (t:aq) (n:Nat) (q:Linear):om t n q=JF t n q:=by unfold om zK oJ cO JF;rw [CK aq.Var,Kt]
noncomputable def Lo (q:Linear) (t:aq) (i n:Nat) (qs:List Linear) (bs:List Bind):Rs :=
 bif t.C==1||t.C == -1 then oy t.Var (vz t q) i n (qs.set i q) bs
 else bif decide (n+1≥1000000000) then .lim else oy t.Var (JF t n q) i (n+1) (qs.set i q) bs
noncomputable def uM (i n:Nat) (qs:List Linear) (bs:List Bind):Rs :=
 bif sQ (qs.getD i bD) then .no else Lo (aR (cont (qs.getD i bD)) (qs.getD i bD)) (uf (aR (cont (qs.getD i bD)) (qs.getD i bD)).Terms) i n qs bs
theorem JC (i n:Nat) (qs:List Linear) (bs:List Bind):gf i n qs bs=uM i n qs bs:=by unfold gf uM Lo;rw [KZ]
noncomputable def F1:Nat→Nat→Nat→List Linear→List Bind→Option Rs
 | 0,_,_,_,_=>none
 | f+1,i,n,qs,bs=>bif dG (qs.getD i bD) then some (.ok n qs bs) else
  match uM i n qs bs with
  | .ok m qs' bs'=>F1 f i m qs' bs'
  | e=>some e
theorem I2:∀ (f i n:Nat) (qs:List Linear) (bs:List Bind),jz f i n qs bs=F1 f i n qs bs
 | 0,_,_,_,_=>rfl
 | f+1,i,n,qs,bs=>by
  simp only [jz,F1];rw [JC];cases dG (qs.getD i bD) with
  | true=>rfl
  | false =>
   simp only [cond_false];cases uM i n qs bs with
   | no=>rfl
   | lim=>rfl
   | ok m qs' bs'=>exact I2 f i m qs' bs'
noncomputable def GV:Nat→Nat→Nat→List Linear→List Bind→Option Rs
 | 0,_,n,qs,bs=>some (.ok n qs bs)
 | k+1,i,n,qs,bs=>match F1 4294967296 i n qs bs with
  | some (.ok m qs' bs')=>GV k (i+1) m qs' bs'
  | e=>e
theorem I4:∀ (k i n:Nat) (qs:List Linear) (bs:List Bind),kG k i n qs bs=GV k i n qs bs
 | 0,_,_,_,_=>rfl
 | k+1,i,n,qs,bs=>by
  simp only [kG,GV];rw [I2];cases F1 4294967296 i n qs bs with
  | none=>rfl
  | some r =>
   cases r with
   | no=>rfl
   | lim=>rfl
   | ok m qs' bs'=>exact I4 k (i+1) m qs' bs'
def DE (l:List Linear):List au:=mH ((mP l).map (·.1))
theorem Ct (l:List Linear):dA l=DE l:=AK _
def K4 (l:List Linear):Int:=(DE l).foldl (fun n v=>if nG v>n then nG v else n) 0
theorem KB (l:List Linear):DZ l=K4 l:=by unfold DZ K4;rw [Ct]
noncomputable def JR (l:List Linear) (bs:List Bind):List Bind:=HP Bind.Var (bs.filter fun b=>decide (b.Var∈DE l))
theorem KI (l:List Linear) (bs:List Bind):JT l bs=JR l bs:=by unfold JT JR;rw [CK Bind.Var,Ct]
noncomputable def tw (l:List Linear) (n:Nat):(List Bind×Int)×Int:=match GV l.length 0 n l [] with
 | some (.ok m _ bs)=>((JR l bs,(m:Int)),0)
 | some .no=>(([],0),9)
 | _=>(([],0),3)
theorem Iv (l:List Linear) (n:Nat):jR l n=tw l n:=by
 unfold jR tw;rw [I4];cases GV l.length 0 n l [] with
 | none=>rfl
 | some r =>
  cases r with
  | no=>rfl
  | lim=>rfl
  | ok m qs bs=>simp only;rw [KI]
theorem Ah {σ ε ρ:Type} {body:σ→Option (gC σ ε ρ)} {N:Nat} {s:σ} {r:ρ} (h:body s=some (.ret r)):kz body (N+1) s=some (.ret r):=by simp only [kz];rw [h];rfl
theorem Ey {l:List Linear} {n:Nat} (hv:∀ q∈l,ax q=true) (h1:1≤n) (h2:n<1000000000) (hg:DZ l<n) (hl:l.length≤6000) (h0:0<l.length) (hz:dG (l.getD 0 bD)=false) (hno:sQ (l.getD 0 bD)=true) :
 bc l (n:Int)=some ([],0,sP l.length (ae.mk (l.getD 0 bD) [(0,1)] 1 false),9):=by
 have hS:=oH hv h1 h2 hg;unfold bc;rw [dW fun q hq=>jK (hv q hq),LN.2 hv];simp only [Option.bind_some,cond_true];rw [LG (show ¬ (n:Int)<1 by omega),LG (show ¬ (n:Int)≥1000000000 by omega),dt hv hl];simp only [cond_false,Option.bind_some];rw [LG (show ¬ DZ l≥(n:Int) by omega),LG (show ¬ (l.length:Int)>6000 by omega)];simp only [cond_false];obtain ⟨s',e1,e2⟩:=qk (ε:=List Rw) (ρ:=Empty) (fin:=fun i0 s0=>s0) (fun j s=>s=cU l j)
  (body:=fun i0 s0 =>
   bM ((s0.length+1)*56≤140737488355328) <|
   some (.go (s0++[(ae.mk (Linear.mk ((l.getD i0 ⟨0,[]⟩).Const) ((l.getD i0 ⟨0,[]⟩).Terms)) (ksort (bI (((i0:Nat):Int):Int) 1 [])) 1 false)]))) (l.length-0) 0 [] rfl (fun j s _ hj hs=>by
   refine ⟨_,aG (by rw [hs];simp [cU];omega),?_⟩;rw [hs];unfold cU;rw [List.range_succ,List.map_append];rfl)
 refine (congrArg (fun o:Option (Out (List Rw) Empty)=>Option.bind o _) e1).trans ?_;simp only [Option.bind_some,dI];have e2:s'=cU l l.length:=by rw [e2];congr 1;omega
 rw [e2];have hlen:(cU l l.length).length=l.length:=by simp [cU]
 have hr0:(cU l l.length).getD 0 br=ae.mk (l.getD 0 bD) [(0,1)] 1 false:=by rw [getD_at br (by omega)];unfold cU;rw [List.getElem_map,List.getElem_range];rfl
 have hok:kD ((cU l l.length).length:Nat) ((cU l l.length).getD 0 br):=by have hm:(cU l l.length).getD 0 br∈cU l l.length:=bb _ (by omega);have h:=vt l _ hm;rw [hlen];exact h.to (by rw [hr0];exact hv _ (bb _ h0))
 have hw:kz (xd 0) 4294967296 (cU l l.length,[],(n:Int))=some (.ret (.ret ([],0,sP l.length (ae.mk (l.getD 0 bD) [(0,1)] 1 false),9))):=by refine Ah (N:=4294967295) ?_;unfold xd;rw [aG ⟨Int.le_refl _,by rw [hlen];show (0:Int)<_;omega⟩];rw [aG (show (((0:Nat):Int)).toNat<_ by rw [hlen];exact h0),oX,iW,show (((0:Nat):Int)).toNat=0 from rfl,hr0];simp only [Option.bind_some];rw [hz];simp only [cond_false];have hs:=step_eq (i:=0) (n:=(n:Int)) (rows:=cU l l.length) (bs:=[]) (by omega) (by omega) hr0 (by rw [hr0] at hok;exact hok);rw [hs];rw [hno];simp only [cond_true,Option.bind_some];rw [hlen];rfl
 rw [hlen];have hall:kz (w5 l.length) 4294967296 (0,cU l l.length,[],(n:Int))=some (.ret ([],0,sP l.length (ae.mk (l.getD 0 bD) [(0,1)] 1 false),9)):=by refine Ah (N:=4294967295) ?_;show w5 l.length (((0:Nat):Int),cU l l.length,[],(n:Int))=_;rw [yt h0,hw];rfl
 refine (congrArg (fun o:Option (Out (List Rw×List Bind×Int) B3)=>Option.bind o _) hall).trans ?_;rfl
noncomputable def lI (l:List Linear):Option (List au):=bif (l.all fun q=>decide (q.Terms.length≤12))&&decide (l.length≤6000) then some (DE l) else bj l
theorem pj:bj=lI:=by
 funext l;unfold lI;cases h:(l.all fun q=>decide (q.Terms.length≤12))&&decide (l.length≤6000) with
 | false=>rfl
 | true =>
  simp only [LB,LN,decide_eq_true_eq] at h;rw [dH h.1 h.2,Ct];rfl
noncomputable def tf (l:List Linear):Option Int:=bif l.all ax&&decide (l.length≤6000) then some (K4 l) else ca l
theorem ru:ca=tf:=by
 funext l;unfold tf;cases h:l.all ax&&decide (l.length≤6000) with
 | false=>rfl
 | true =>
  simp only [LB,LN,decide_eq_true_eq] at h;rw [dt h.1 h.2,KB];rfl
def Gq (l:List Linear) (n:Int):Bool:=l.all ax&&(decide (1≤n∧n<1000000000)&&(decide (K4 l<n)&&decide (l.length≤6000)))
noncomputable def wP (l:List Linear) (n:Int):Option (List Bind×Int×ah×Int) :=
 bif Gq l n then
  bif (tw l n.toNat).2==0 then some ((tw l n.toNat).1.1,(tw l n.toNat).1.2,ah.mk [] 0,0)
  else bif decide (0<l.length)&&(!dG (l.getD 0 bD)&&sQ (l.getD 0 bD)) then some ([],0,sP l.length (ae.mk (l.getD 0 bD) [(0,1)] 1 false),9)
  else bc l n
 else bc l n
theorem yi:bc=wP:=by
 funext l n;unfold wP;cases h:Gq l n with
 | false=>rfl
 | true =>
  unfold Gq at h;simp only [LB,LN,decide_eq_true_eq] at h;obtain ⟨hv,⟨h1,h2⟩,hg,hl⟩:=h;obtain ⟨n,rfl⟩:∃ k:Nat,n=(k:Int):=⟨n.toNat,by omega⟩;rw [Int.toNat_natCast,cond_true];rw [← KB] at hg;cases he:(tw l n).2==0 with
  | true =>
   obtain ⟨f,e,e2⟩:=zS hv (by omega) (by omega) hg hl;rw [Iv] at e e2;rw [e,e2 (beq_iff_eq.1 he),beq_iff_eq.1 he];rfl
  | false =>
   cases hno:decide (0<l.length)&&(!dG (l.getD 0 bD)&&sQ (l.getD 0 bD)) with
   | false=>rfl
   | true =>
    simp only [LB,decide_eq_true_eq,Bool.not_eq_true'] at hno;rw [Ey hv (by omega) (by omega) hg hl hno.1 hno.2.1 hno.2.2];rfl
noncomputable def jI (x0 x1:List Linear):Option ((List Bind)×Int) :=
 (bU x0).bind fun y0 =>
 bif y0 then (
  (bU x1).bind fun y1 =>
  bif y1 then (
   bif decide (((x0.length:Nat):Int)>6000) then (
    some ([],1)
   ) else (
    bif decide (((x1.length:Nat):Int)>6000) then (
     some ([],1)
    ) else (
     bif (((x0.length:Nat):Int)==((x1.length:Nat):Int)) then (
      (tf x0).bind fun y2 =>
      bif decide ((aL (y2+1))≥1000000000) then (
       some ([],3)
      ) else (
       (lI x0).bind fun y3 =>
       bM (112*y3.length≤140737488355328) <|
       (eH (σ:=(List Bind)) (ε:=(List Bind)) (ρ:=Empty) (fun i0 s0 =>
        bM (i0<s0.length) <|
        some (.go (s0.set i0 (Bind.mk 1 (y3.getD i0 []) (Linear.mk 0 []) (Shape.mk [] []) [])))
       ) (fun i0 s0=>s0) (y3.length-0) 0 (List.replicate y3.length (⟨0,[],⟨0,[]⟩,⟨[],[]⟩,[]⟩))).bind <| dI fun u0 =>
       (lI x1).bind fun y4 =>
       bM ((([[]]:List au).length+y4.length)*16≤140737488355328) <|
       (eH (σ:=(List Bind)) (ε:=(List Bind)) (ρ:=((List Bind)×Int)) (fun i1 s1 =>
        (eH (σ:=(List Linear)) (ε:=(List Linear)) (ρ:=(gC (List Bind) (List Bind) ((List Bind)×Int))) (fun i2 s2 =>
         bM (i2<x1.length) <|
         ((
          bif decide (((i1:Nat):Int)>0) then (
           (cS (Linear.mk ((x1.getD i2 ⟨0,[]⟩).Const) ((x1.getD i2 ⟨0,[]⟩).Terms)) ((([[]]:List au)++y4).getD i1 [])).bind fun y5 =>
           some (aL (0-y5))
          ) else (
           some (aL (((x0.getD i2 ⟨0,[]⟩).Const)-((x1.getD i2 ⟨0,[]⟩).Const)))
          )
         ):Option Int).bind fun v0 =>
         (bR (Linear.mk v0 ((x0.getD i2 ⟨0,[]⟩).Terms))).bind fun y6 =>
         bif y6 then (
          bM ((s2.length+1)*32≤140737488355328) <|
          some (.go (s2++[(Linear.mk v0 ((x0.getD i2 ⟨0,[]⟩).Terms))]))
         ) else (
          some (.ret (.ret ([],3)))
         )
        ) (fun i2 s2=>s2) (x0.length-0) 0 []).bind <| aft fun u1 =>
        (wP u1 (aL (y2+1))).bind fun y7 =>
        bif (y7.2.2.2==0) then (
         (eH (σ:=(List Bind)) (ε:=(List Bind)) (ρ:=Empty) (fun i3 s3 =>
          (fE y3 ((y7.1.getD i3 (⟨0,[],⟨0,[]⟩,⟨[],[]⟩,[]⟩)).Var)).bind fun y8 =>
          ((
           bif (((i1:Nat):Int)==0) then (
            bM (0≤y8.1∧y8.1<(s3.length:Int)) <|
            bM (y8.1.toNat<s3.length) <|
            some (s3.set y8.1.toNat (Bind.mk ((s3.getD y8.1.toNat (⟨0,[],⟨0,[]⟩,⟨[],[]⟩,[]⟩)).Kind) ((s3.getD y8.1.toNat (⟨0,[],⟨0,[]⟩,⟨[],[]⟩,[]⟩)).Var) (Linear.mk (((y7.1.getD i3 (⟨0,[],⟨0,[]⟩,⟨[],[]⟩,[]⟩)).Dim).Const) (((s3.getD y8.1.toNat (⟨0,[],⟨0,[]⟩,⟨[],[]⟩,[]⟩)).Dim).Terms)) (Shape.mk (((s3.getD y8.1.toNat (⟨0,[],⟨0,[]⟩,⟨[],[]⟩,[]⟩)).Row).Row) (((s3.getD y8.1.toNat (⟨0,[],⟨0,[]⟩,⟨[],[]⟩,[]⟩)).Row).Dims)) ((s3.getD y8.1.toNat (⟨0,[],⟨0,[]⟩,⟨[],[]⟩,[]⟩)).Elem)))
           ) else (
            bif ((((y7.1.getD i3 (⟨0,[],⟨0,[]⟩,⟨[],[]⟩,[]⟩)).Dim).Const)==0) then (
             some s3
            ) else (
             bM (0≤y8.1∧y8.1<(s3.length:Int)) <|
             bM (y8.1.toNat<s3.length) <|
             bM ((((s3.getD y8.1.toNat (⟨0,[],⟨0,[]⟩,⟨[],[]⟩,[]⟩)).Dim).Terms)=[]) <|
             some (s3.set y8.1.toNat (Bind.mk ((s3.getD y8.1.toNat (⟨0,[],⟨0,[]⟩,⟨[],[]⟩,[]⟩)).Kind) ((s3.getD y8.1.toNat (⟨0,[],⟨0,[]⟩,⟨[],[]⟩,[]⟩)).Var) (Linear.mk (((s3.getD y8.1.toNat (⟨0,[],⟨0,[]⟩,⟨[],[]⟩,[]⟩)).Dim).Const) [(aq.mk ((([[]]:List au)++y4).getD i1 []) (((y7.1.getD i3 (⟨0,[],⟨0,[]⟩,⟨[],[]⟩,[]⟩)).Dim).Const))]) (Shape.mk (((s3.getD y8.1.toNat (⟨0,[],⟨0,[]⟩,⟨[],[]⟩,[]⟩)).Row).Row) (((s3.getD y8.1.toNat (⟨0,[],⟨0,[]⟩,⟨[],[]⟩,[]⟩)).Row).Dims)) ((s3.getD y8.1.toNat (⟨0,[],⟨0,[]⟩,⟨[],[]⟩,[]⟩)).Elem)))
            )
           )
          ):Option (List Bind)).bind fun v1 =>
          some (.go v1)
         ) (fun i3 s3=>s3) (y7.1.length-0) 0 s1).bind <| dI fun u2 =>
         some (.go u2)
        ) else (
         some (.ret ([],y7.2.2.2))
        )
       ) (fun i1 s1=>s1) ((([[]]:List au)++y4).length-0) 0 u0).bind <| aft fun u3 =>
       (eH (σ:=Unit) (ε:=Unit) (ρ:=((List Bind)×Int)) (fun i4 s4 =>
        (bR (Linear.mk (((u3.getD i4 (⟨0,[],⟨0,[]⟩,⟨[],[]⟩,[]⟩)).Dim).Const) (((u3.getD i4 (⟨0,[],⟨0,[]⟩,⟨[],[]⟩,[]⟩)).Dim).Terms))).bind fun y9 =>
        bif y9 then (
         some (.go ())
        ) else (
         some (.ret ([],3))
        )
       ) (fun i4 s4=>()) (u3.length-0) 0 ()).bind <| aft fun u4 =>
       bif (((u3.length:Nat):Int)==0) then (
        some ([],0)
       ) else (
        some (u3,0)
       )
      )
     ) else (
      some ([],14)
     )
    )
   )
  ) else (
   some ([],1)
  )
 ) else (
  some ([],1)
 )
theorem me:fM=jI:=by funext x0 x1;unfold fM jI;simp only [pj,ru,yi]
noncomputable def jE (x0:List Linear) (x1:ah):Option Bool :=
 (bU x0).bind fun y0 =>
 bif y0 then (
  bif decide (((x0.length:Nat):Int)>6000) then (
   some false
  ) else (
   bif (((x1.Mults.length:Nat):Int)==((x0.length:Nat):Int)) then (
    bif decide (x1.Mod<0) then (
     some false
    ) else (
     bif decide (x1.Mod>1099511627776) then (
      some false
     ) else (
      bM (8*x0.length≤140737488355328) <|
      (eH (σ:=(List Int)) (ε:=(List Int)) (ρ:=Bool) (fun i0 s0 =>
       bM (i0<x1.Mults.length) <|
       (bE (x1.Mults.getD i0 0) 0).bind fun y1 =>
       bif y1 then (
        bM (i0<s0.length) <|
        some (.go (s0.set i0 ((x0.getD i0 ⟨0,[]⟩).Const)))
       ) else (
        some (.ret false)
       )
      ) (fun i0 s0=>s0) (x0.length-0) 0 (List.replicate x0.length 0)).bind <| aft fun u0 =>
      (lI x0).bind fun y2 =>
      (eH (σ:=Unit) (ε:=Unit) (ρ:=Bool) (fun i1 s1 =>
       (eH (σ:=(List Int)) (ε:=(List Int)) (ρ:=Empty) (fun i2 s2 =>
        (cS (Linear.mk ((x0.getD i2 ⟨0,[]⟩).Const) ((x0.getD i2 ⟨0,[]⟩).Terms)) (y2.getD i1 [])).bind fun y3 =>
        bM (i2<s2.length) <|
        some (.go (s2.set i2 y3))
       ) (fun i2 s2=>s2) (x0.length-0) 0 (List.replicate x0.length 0)).bind <| dI fun u1 =>
       (eL x1.Mults u1).bind fun y4 =>
       bif (y4.2==0) then (
        (ck y4.1 x1.Mod).bind fun y5 =>
        bif y5 then (
         some (.go ())
        ) else (
         some (.ret false)
        )
       ) else (
        some (.ret false)
       )
      ) (fun i1 s1=>()) (y2.length-0) 0 ()).bind <| aft fun u2 =>
      (eL x1.Mults u0).bind fun y6 =>
      bif (y6.2==0) then (
       (ck y6.1 x1.Mod).bind fun y7 =>
       some (!y7)
      ) else (
       some false
      )
     )
    )
   ) else (
    some false
   )
  )
 ) else (
  some false
 )
theorem rD:cM=jE:=by funext x0 x1;unfold cM jE;simp only [pj,ru,yi,me]
noncomputable def sa   : Option Bool :=
 (fN 2 3 (-1)).bind fun y0 =>
 (wP [y0] 1).bind fun y1 =>
 (fN 2 (-4) 1).bind fun y2 =>
 (wP [y2,(Linear.mk 0 [])] 1).bind fun y3 =>
 (qx [107]).bind fun y4 =>
 (fN 1 0 1).bind fun y5 =>
 (fN 1 1 0).bind fun y6 =>
 (mO (Linear.mk 0 []) y4 3).bind fun y7 =>
 (jI [y5,y6] [y4,y7]).bind fun y8 =>
 bif (y1.2.2.2==0) then (
  bif (y3.2.2.2==9) then (
   bif (y8.2==0) then (
    bif (y1.2.1==2) then (
     bif (((y1.1.length:Nat):Int)==2) then (
      bM (0<y1.1.length) <|
      bif (((y1.1.getD 0 (⟨0,[],⟨0,[]⟩,⟨[],[]⟩,[]⟩)).Var)==[109]) then (
       (dQ (Linear.mk (((y1.1.getD 0 (⟨0,[],⟨0,[]⟩,⟨[],[]⟩,[]⟩)).Dim).Const) (((y1.1.getD 0 (⟨0,[],⟨0,[]⟩,⟨[],[]⟩,[]⟩)).Dim).Terms))).bind fun y9 =>
       bif (y9==[45,50,95,49,45,49]) then (
        bM (1<y1.1.length) <|
        (dQ (Linear.mk (((y1.1.getD 1 (⟨0,[],⟨0,[]⟩,⟨[],[]⟩,[]⟩)).Dim).Const) (((y1.1.getD 1 (⟨0,[],⟨0,[]⟩,⟨[],[]⟩,[]⟩)).Dim).Terms))).bind fun y10 =>
        bif (y10==[51,95,49,43,50]) then (
         (mC [y2,(Linear.mk 0 [])] y3.2.2.1).bind fun y11 =>
         bif y11 then (
          (jE [y2,(Linear.mk 0 [])] (ah.mk [1,0] 2)).bind fun y12 =>
          bif y12 then (
           bif (((y8.1.length:Nat):Int)==2) then (
            bM (0<y8.1.length) <|
            (dQ (Linear.mk (((y8.1.getD 0 (⟨0,[],⟨0,[]⟩,⟨[],[]⟩,[]⟩)).Dim).Const) (((y8.1.getD 0 (⟨0,[],⟨0,[]⟩,⟨[],[]⟩,[]⟩)).Dim).Terms))).bind fun y13 =>
            bif (y13==[50,107,43,49]) then (
             bM (1<y8.1.length) <|
             (dQ (Linear.mk (((y8.1.getD 1 (⟨0,[],⟨0,[]⟩,⟨[],[]⟩,[]⟩)).Dim).Const) (((y8.1.getD 1 (⟨0,[],⟨0,[]⟩,⟨[],[]⟩,[]⟩)).Dim).Terms))).bind fun y14 =>
             some (y14==[107,45,49])
            ) else (
             some false
            )
           ) else (
            some false
           )
          ) else (
           some false
          )
         ) else (
          some false
         )
        ) else (
         some false
        )
       ) else (
        some false
       )
      ) else (
       some false
      )
     ) else (
      some false
     )
    ) else (
     some false
    )
   ) else (
    some false
   )
  ) else (
   some false
  )
 ) else (
  some false
 )
theorem vk:iP=sa:=by unfold iP sa;simp only [pj,ru,yi,me,rD]
theorem B9:iP=some true:=vk.trans (by kernel_rfl)
def KE (c:Int) (t:aq):aq:=aq.mk t.Var (c*t.C)
def smul (c:Int) (q:Linear):Linear:=Linear.mk (c*q.Const) (q.Terms.map (KE c))
theorem xD (f:au→Int) (c:Int):∀ ts:List aq,cD f (ts.map (KE c))=c*cD f ts
 | []=>by simp [cD]
 | t::ts=>by simp only [List.map_cons,cD];rw [xD f c ts];simp only [KE];rw [Int.mul_add,Int.mul_assoc]
theorem G5 (f:au→Int) (c:Int) (q:Linear):dx f (smul c q)=c*dx f q:=by unfold dx smul;simp only;rw [xD,Int.mul_add]
theorem JU {q' q:Linear} (hv':ax q'=true) (hs:IQ q.Terms) (hz:Nz q.Terms) (h:∀ f,dx f q'=dx f q):q'=q:=by
 obtain ⟨n,ts⟩:=q';obtain ⟨m,us⟩:=q;have e:n=m:=by have:=h (fun _=>0);rw [gY,gY] at this;exact this
 have e2:ts=us:=vq _ _ (qt hv') (de hv') hs hz fun f=>by have:=h f;unfold dx at this;simp only at this;omega
 rw [e,e2]
theorem Hk {c:Int} {ts:List aq} (h:IQ ts):IQ (ts.map (KE c)):=by unfold IQ;rw [List.pairwise_map];exact h
theorem Ir {c:Int} (hc:c≠0) {ts:List aq} (h:Nz ts):Nz (ts.map (KE c)):=fun t ht=>by obtain ⟨u,hu,rfl⟩:=List.mem_map.1 ht;exact Int.mul_ne_zero hc (h u hu)
theorem HJ {q' q:Linear} {c:Int} (hv':ax q'=true) (hv:ax q=true) (hc:c≠0) (h:∀ f,dx f q'=c*dx f q):q'=smul c q :=
 JU hv' (Hk (qt hv)) (Ir hc (de hv)) fun f=>by rw [h f,G5]
theorem vR {a b:Int}:a.tmod b=0↔b ∣ a:=⟨Int.dvd_of_tmod_eq_zero,Int.tmod_eq_zero_of_dvd⟩
section
variable {s:Int} (hs:s=1∨s = -1)
include hs
end
def J2 (c:Int) (q' q:Linear):Prop:=∀ f,dx f q'=c*dx f q
theorem Fs:ax bD=true:=wO
theorem B2 (f:au→Int):dx f bD=0:=by simp [dx,cD]
theorem G4 (x:au) (by_:Linear):pb x by_ bD=bD:=by simp [pb,cf,mF]
theorem nL {l:List Linear} {j:Nat} (h:l.length≤j):l.getD j bD=bD:=by rw [Lz,List.getElem?_eq_none h];rfl
theorem G9 {l:List Linear} {g:Linear→Linear} {i j:Nat} (hi:i≤l.length) (g0:g bD=bD) (hlt:j<i→g (l.getD j bD)=l.getD j bD):(l.take i++(l.drop i).map g).getD j bD=g (l.getD j bD):=by
 by_cases h1:j<i
 ·rw [hlt h1,Lz,List.getElem?_append_left (by simp;omega),List.getElem?_take_of_lt h1,← Lz]
 ·by_cases h2:j<l.length
  ·rw [Lz,List.getElem?_append_right (by simp;omega),List.getElem?_map,List.getElem?_drop,List.length_take,Nat.min_eq_left hi,show i+(j-i)=j from by omega,getD_at bD h2,LA h2];rfl
  ·rw [nL (by simp;omega),nL (show l.length≤j by omega),g0]
structure Rel (p i:Nat) (qs Q:List Linear):Prop where
 len:p+qs.length≤Q.length
 done:∀ k,k<i→qs.getD k bD=bD
 mid:∀ j,i≤j→j<qs.length→∃ c,c≠0∧J2 c (Q.getD (p+j) bD) (qs.getD j bD)
 all:∀ j,p+i≤j→j<Q.length→∃ k c,J2 c (Q.getD j bD) (qs.getD k bD)
theorem rK {qs:List Linear} (h:∀ q∈qs,ax q=true) (k:Nat):ax (qs.getD k bD)=true:=by
 by_cases hk:k<qs.length
 ·exact h _ (bb bD hk)
 ·rw [nL (by omega)];exact Fs
theorem yc {l:List Linear} {P:Linear→Bool} {i:Nat} (h:(l.drop i).all P=true) {j:Nat} (hi:i≤j) (hj:j<l.length):P (l.getD j bD)=true:=by
 rw [LN] at h;refine h _ ?_;have:(l.drop i).getD (j-i) bD=l.getD j bD:=by rw [fw];congr 1;omega
 rw [← this];exact bb bD (by simp;omega)
theorem D2 {l:List Linear} {i j:Nat} {x:Linear} (hi:i<l.length):(l.set i x).getD j bD=if j=i then x else l.getD j bD:=by
 by_cases e:j=i
 ·subst e;rw [if_pos rfl,gn hi]
 ·rw [if_neg e,Lz,List.getElem?_set_ne (Ne.symm e),← Lz]
theorem zero_mul {c:Int} (hc:c≠0) {q' q:Linear} (hv':ax q'=true) (hv:ax q=true) (h:J2 c q' q):dG q'=dG q:=by
 have e:=HJ hv' hv hc h;rw [e,Bool.eq_iff_iff,jF,jF];obtain ⟨k,ts⟩:=q;unfold smul;simp only [Linear.mk.injEq,List.map_eq_nil_iff,Int.mul_eq_zero];constructor
 ·rintro ⟨h1,h2⟩;exact ⟨h1.resolve_left hc,h2⟩
 ·rintro ⟨h1,h2⟩;exact ⟨.inr h1,h2⟩
theorem Rel.next {p i:Nat} {qs Q:List Linear} (h:Rel p i qs Q) (h0:qs.getD i bD=bD):Rel p (i+1) qs Q where
 len:=h.len
 done:=fun k hk=>by
  by_cases e:k=i
  ·rw [e];exact h0
  ·exact h.done k (by omega)
 mid:=fun j hj hl=>h.mid j (by omega) hl
 all:=fun j hj hl=>h.all j (by omega) hl
theorem vp (l:List Linear):iK l=some (l.all ax):=by
 unfold iK;rw [gJ (r:=false) (fun j=>ax (l.getD j bD)) _ _ () (fun j u _ _=>by rw [oX,pX];simp only [Option.bind_some];cases ax (l.getD j bD)<;>rfl)]
 rw [A4 ax bD l,jh];cases l.all ax<;>rfl
theorem C8 {α ρ:Type} (d:α) (q:α→Bool) (l:List α) {body:Int→Option (gC Int Unit ρ)} {r:ρ} (hb:∀ j:Nat,j<l.length→body (j:Int)=some (bif q (l.getD j d) then .go ((j+1:Nat):Int) else .ret r)) (he:body (l.length:Int)=some (.brk ())) :
 ∀ (k N j:Nat),j+k=l.length→k<N→kz body N (j:Int)=some (bif (l.drop j).all q then .brk () else .ret r)
 | 0,N,j,hk,hN=>by
  obtain ⟨N,rfl⟩:∃ m,N=m+1:=⟨N-1,by omega⟩;simp only [kz];rw [show j=l.length from by omega,he,List.drop_length];rfl
 | k+1,N,j,hk,hN=>by
  obtain ⟨N,rfl⟩:∃ m,N=m+1:=⟨N-1,by omega⟩;simp only [kz];have hj:j<l.length:=by omega
  rw [hb j hj,List.drop_eq_getElem_cons hj,List.all_cons,← getD_at d hj];cases q (l.getD j d) with
  | false=>rfl
  | true =>
   simp only [cond_true,Bool.true_and];exact C8 d q l hb he k N (j+1) (by omega) (by omega)
def oz (n:Int) (q:Linear):Bool:=(decide (-n≤q.Const)&&decide (q.Const≤n))&&q.Terms.all fun t=>decide (-n≤t.C)&&decide (t.C≤n)
theorem uU (l:List Linear) (n:Int) (hn:0≤n∧n≤1000000) (hl:∀ q∈l,q.Terms.length≤1000):ki l n=some (l.all (oz n)):=by
 unfold ki;have hw:aL (0-n) = -n:=by rw [bn (by omega) (by omega)];omega
 rw [gJ (r:=false) (fun j=>oz n (l.getD j bD)) _ _ () (fun j u _ hj=>by
  rw [hw];have hq:=hl _ (bb bD (show j<l.length by omega));generalize l.getD j bD=q at hq;unfold oz;by_cases h1:q.Const < -n
  ·rw [LH h1,LG (show ¬ -n≤q.Const by omega)];rfl
  ·rw [LG h1,LH (show -n≤q.Const by omega)];simp only [cond_false,Bool.true_and];by_cases h2:q.Const>n
   ·rw [LH h2,LG (show ¬ q.Const≤n by omega)];rfl
   ·rw [LG h2,LH (show q.Const≤n by omega)];simp only [cond_false,Bool.true_and];have hw:=C8 (ρ:=gC Unit Unit Bool) (r:=gC.ret false) ⟨[],0⟩ (fun t:aq=>decide (-n≤t.C)&&decide (t.C≤n)) q.Terms
     (body:=fun s1 =>
     bif decide (s1<((q.Terms.length:Nat):Int)) then (
      bM (0≤s1∧s1<(q.Terms.length:Int)) <|
      bif decide ((q.Terms.getD s1.toNat ⟨[],0⟩).C<(-n)) then (
       some (.ret (.ret false))
      ) else (
       bif decide ((q.Terms.getD s1.toNat ⟨[],0⟩).C>n) then (
        some (.ret (.ret false))
       ) else (
        some (.go (aL (s1+1)))
       )
      )
     ) else (
      some (.brk ())
     )) (fun j hj=>by
      rw [LH (by omega),cond_true,aG ⟨by omega,by omega⟩,Int.toNat_natCast];generalize q.Terms.getD j ⟨[],0⟩=t;by_cases h3:t.C < -n
      ·rw [LH h3,LG (show ¬ -n≤t.C by omega)];rfl
      ·rw [LG h3,LH (show -n≤t.C by omega)];by_cases h4:t.C>n
       ·rw [LH h4,LG (show ¬ t.C≤n by omega)];rfl
       ·rw [LG h4,LH (show t.C≤n by omega)];simp only [cond_false,Bool.true_and,cond_true];rw [bn (by omega) (by omega)];rfl) (by
      rw [LG (by omega)];rfl) q.Terms.length 4294967296 0 (by omega) (by omega)
    rw [List.drop_zero] at hw;refine (congrArg (fun o:Option (Out Unit (gC Unit Unit Bool))=>Option.bind o _) hw).trans ?_;cases q.Terms.all fun t=>decide (-n≤t.C)&&decide (t.C≤n)<;>rfl)]
 rw [A4 (oz n) bD l,jh];cases l.all (oz n)<;>rfl
structure HE (f0 f:au→Int) (n0 i:Nat) (qs:List Linear) (bs:List Bind):Prop where
 ag:∀ v,nG v<n0→f v=f0 v
 rw:∀ j,i≤j→dx f (qs.getD j bD)=0
 bd:∀ b∈bs,f b.Var=dx f b.Dim
theorem Iy {f:au→Int} {q:Linear} (hv:ax q=true) (hz:dG q=false) (h:dx f q=0):sQ q=false:=by
 have hc:cont q≠0:=fun h0=>by
  have ht:=(kQ hv).1 h0;unfold dx at h;rw [ht] at h;simp only [cD] at h;have:dG q=true:=by unfold dG;rw [ht];simp;omega
  rw [this] at hz;cases hz
 have hd:∀ ts:List aq,(∀ t∈ts,((cont q:Nat):Int) ∣ t.C)→((cont q:Nat):Int) ∣ cD f ts:=fun ts=>by
  induction ts with
  | nil=>intro _;simp [cD]
  | cons t ts ih =>
   intro ht;simp only [cD];exact Int.dvd_add (Int.dvd_mul_of_dvd_left (ht t (by simp))) (ih fun u hu=>ht u (by simp [hu]))
 have h1:=hd q.Terms mu;have h2:((cont q:Nat):Int) ∣ q.Const:=by
  have:q.Const = -cD f q.Terms:=by unfold dx at h;omega
  rw [this];exact (Int.dvd_neg).2 h1
 unfold sQ;rw [vR.2 h2];simp [hc]
theorem C3 {f0 f:au→Int} {n0 i m:Nat} {x:au} {by_:Linear} {qs:List Linear} {bs:List Bind} (hq:∀ q∈qs,ax q=true) (hb:∀ b∈bs,ax b.Dim=true) (hi:i≤qs.length) (h:HE f0 f n0 i qs bs) (hx:f x=dx f by_)
 {m':Nat} {qs':List Linear} {bs':List Bind} (e:oy x by_ i m qs bs = .ok m' qs' bs'):HE f0 f n0 i qs' bs':=by
 unfold oy at e;cases h1:pN x by_ i qs (bs.map (·.Dim)) with
 | false=>rw [h1] at e;cases e
 | true =>
  rw [h1] at e;injection e with e1 e2 e3
  subst e2;subst e3;unfold pN at h1;simp only [LB,LN] at h1;obtain ⟨hbv,hd,hr⟩:=h1;have key:∀ q,ax q=true→gN x by_ q=true→dx f (pb x by_ q)=dx f q:=fun q hv hc=>by rw [(fL hbv hv hc).2.1 f,hx];rw [Int.sub_self,Int.mul_zero,Int.add_zero]
  refine ⟨h.ag,fun j hj => ?_,fun b hb2 => ?_⟩
  ·rw [G9 hi (G4 x by_) fun hk=>by omega];by_cases hl:j<qs.length
   ·rw [key _ (rK hq j) (yc (LN.2 hr) hj hl)];exact h.rw j hj
   ·rw [nL (by omega),G4];exact B2 f
  ·rcases List.mem_append.1 hb2 with hb2 | hb2
   ·obtain ⟨b0,hb0,rfl⟩:=List.mem_map.1 hb2;show f b0.Var=dx f (pb x by_ b0.Dim);rw [key _ (hb b0 hb0) (hd _ (List.mem_map.2 ⟨b0,hb0,rfl⟩))];exact h.bd b0 hb0
   ·rw [List.mem_singleton.1 hb2];exact hx
theorem xt {n:Nat} (h1:1≤n) (h2:n<1000000000) {q:Linear} (h:rX n q):cf q (cO n)=0:=by
 by_cases h0:cf q (cO n)=0
 ·exact h0
 ·have:=Cr h h0;rw [(kV h1 h2).2] at this;omega
theorem BG {t:aq} {n:Nat} {q:Linear} (h1:1≤n) (h2:n<1000000000) (hv:ax q=true) (hf:rX n q):cf (om t n q) (cO n)=1:=by unfold cf om;simp only;have hn:xp (oJ t n q.Terms):=uz (dp hv) (tS h1 h2 hf);rw [AB (iL _) (((iL _).map aq.Var).nodup_iff.2 hn)];exact kq (t:=aq.mk (cO n) 1) hn (by simp [oJ])
theorem Hd {t:aq} {n:Nat} {q:Linear} (h1:1≤n) (h2:n<1000000000) (hv:ax q=true) (hf:rX n q):xp (om t n q).Terms :=
 ((iL _).map aq.Var).nodup_iff.2 (uz (dp hv) (tS h1 h2 hf))
theorem Fv {f0 f:au→Int} {n0 i n:Nat} {qs:List Linear} {bs:List Bind} (hS:gX n qs bs) (hn0:n0≤n) (hi:i<qs.length) (hz:dG (qs.getD i bD)=false) (h:HE f0 f n0 i qs bs) :
 gf i n qs bs ≠ .no∧∀ (m:Nat) (qs':List Linear) (bs':List Bind),gf i n qs bs = .ok m qs' bs'→∃ f',HE f0 f' n0 i qs' bs':=by
 have hv:ax (qs.getD i bD)=true:=(hS.qv _ (bb bD hi)).1;have hfr:rX n (qs.getD i bD):=(hS.qv _ (bb bD hi)).2;have hno:=Iy hv hz (h.rw i (Nat.le_refl _));obtain ⟨hg,hd⟩:=jv hno;unfold gf;rw [hno];simp only [cond_false];obtain ⟨tm,tmin⟩:=vi hv hg;have hnv:=dn hv;have hnf:=gu hfr;have hln:=fun f=>wI f hd;generalize hN:aR (cont (qs.getD i bD)) (qs.getD i bD)=nq at hnv hnf tm tmin hln ⊢;generalize hT:uf nq.Terms=t at tm tmin ⊢;have ht0:t.C≠0:=de hnv t tm;have hn0q:dx f nq=0:=by
  have h1:=h.rw i (Nat.le_refl _);rw [hln f] at h1;rcases Int.mul_eq_zero.1 h1 with h2 | h2
  ·omega
  ·exact h2
 have hset:∀ g:au→Int,(∀ j,i≤j→dx g (qs.getD j bD)=0)→dx g nq=0→∀ j,i≤j→dx g ((qs.set i nq).getD j bD)=0:=fun g h1 h2 j hj=>by
  rw [D2 hi];by_cases ej:j=i
  ·rw [if_pos ej];exact h2
  ·rw [if_neg ej];exact h1 j hj
 have hq1:∀ q∈qs.set i nq,ax q=true:=fun q hq=>by
  rcases List.mem_or_eq_of_mem_set hq with hq | rfl
  ·exact (hS.qv q hq).1
  ·exact hnv
 have hb1:∀ b∈bs,ax b.Dim=true:=fun b hb=>(hS.bv b hb).1;cases hu:t.C==1||t.C == -1 with
 | true =>
  simp only [cond_true];have ht:t.C=1∨t.C = -1:=by simpa only [Bool.or_eq_true,beq_iff_eq] using hu
  refine ⟨fun e => ?_,fun m qs' bs' e=>⟨f,C3 hq1 hb1 (by simp;omega) ⟨h.ag,hset f h.rw hn0q,h.bd⟩ ?_ e⟩⟩
  ·unfold oy at e;cases hp:pN t.Var (vz t nq) i (qs.set i nq) (bs.map (·.Dim)) with
   | true=>rw [hp] at e;cases e
   | false=>rw [hp] at e;cases e
  ·rw [sk f hnv tm,hn0q];rcases ht with ht | ht<;>rw [ht]<;>omega
 | false =>
  simp only [cond_false];cases hl:decide (n+1≥1000000000) with
  | true=>exact ⟨fun e=>(by cases e),fun m qs' bs' e=>by cases e⟩
  | false =>
   simp only [cond_false];refine ⟨fun e => ?_,fun m qs' bs' e => ?_⟩
   ·unfold oy at e;cases hp:pN t.Var (om t n nq) i (qs.set i nq) (bs.map (·.Dim)) with
    | true=>rw [hp] at e;cases e
    | false=>rw [hp] at e;cases e
   ·have hcf:=BG (t:=t) hS.n1 hS.n2 hnv hnf;have hnd:=Hd (t:=t) hS.n1 hS.n2 hnv hnf;generalize hB:om t n nq=B at hcf hnd e;have hfrn:=(kV hS.n1 hS.n2).2;refine ⟨upd f (cO n) (f (cO n)+(f t.Var-dx f B)),C3 hq1 hb1 (by simp;omega) ⟨fun v hv2 => ?_,hset _ (fun j hj => ?_) ?_,fun b hb => ?_⟩ ?_ e⟩
    ·rw [bA fun e=>by rw [e,hfrn] at hv2;omega];exact h.ag v hv2
    ·by_cases hjl:j<qs.length
     ·have hq:=hS.qv _ (bb bD hjl);rw [kH _ _ _ (dp hq.1),xt hS.n1 hS.n2 hq.2,Int.zero_mul,Int.add_zero];exact h.rw j hj
     ·rw [nL (by omega)];exact B2 _
    ·rw [kH _ _ _ (dp hnv),xt hS.n1 hS.n2 hnf,Int.zero_mul,Int.add_zero];exact hn0q
    ·have hbv:=hS.bv b hb;rw [bA fun e=>by have:=hbv.2.2.2;rw [e,hfrn] at this;omega,kH _ _ _ (dp hbv.1),xt hS.n1 hS.n2 hbv.2.1,Int.zero_mul,Int.add_zero];exact h.bd b hb
    ·rw [kH _ _ _ hnd,hcf];have htf:nG t.Var<n:=hnf t tm;rw [bA fun e=>by rw [e,hfrn] at htf;omega];omega
theorem CO {f0:au→Int} {n0 i:Nat}:∀ (N n:Nat) (qs:List Linear) (bs:List Bind) (f:au→Int),gX n qs bs→n0≤n→i<qs.length→HE f0 f n0 i qs bs →
 jz N i n qs bs≠some .no∧∀ (m:Nat) (qs':List Linear) (bs':List Bind),jz N i n qs bs=some (.ok m qs' bs')→n0≤m∧∃ f',HE f0 f' n0 i qs' bs'
 | 0,n,qs,bs,f,hS,hn,hi,h=>⟨fun e=>(by cases e),fun m qs' bs' e=>by cases e⟩
 | N+1,n,qs,bs,f,hS,hn,hi,h=>by
  simp only [jz];cases hz:dG (qs.getD i bD) with
  | true =>
   refine ⟨fun e=>(by cases e),fun m qs' bs' e => ?_⟩;injection e with e
   injection e with e1 e2 e3
   subst e1;subst e2;subst e3;exact ⟨hn,f,h⟩
  | false =>
   simp only [cond_false];obtain ⟨a,b⟩:=Fv hS hn hi hz h;cases hs:gf i n qs bs with
   | no=>exact absurd hs a
   | lim=>exact ⟨fun e=>(by cases e),fun m qs' bs' e=>by cases e⟩
   | ok m1 qs1 bs1 =>
    simp only;obtain ⟨a1,a2,a3,a4⟩:=n5 hS hi hs;obtain ⟨f',h'⟩:=b m1 qs1 bs1 hs;exact CO N m1 qs1 bs1 f' a1 (by rcases a4 with ⟨e,_⟩ | ⟨e,_⟩<;>omega) (by omega) h'
theorem DN {f0:au→Int} {n0 L:Nat}:∀ (k i n:Nat) (qs:List Linear) (bs:List Bind) (f:au→Int),i+k=L→qs.length=L→gX n qs bs→n0≤n→HE f0 f n0 i qs bs →
 kG k i n qs bs≠some .no∧∀ (m:Nat) (qs':List Linear) (bs':List Bind),kG k i n qs bs=some (.ok m qs' bs')→n0≤m∧∃ f',HE f0 f' n0 L qs' bs'
 | 0,i,n,qs,bs,f,hk,hl,hS,hn,h=>by
  refine ⟨fun e=>(by cases e),fun m qs' bs' e => ?_⟩;simp only [kG] at e;injection e with e
  injection e with e1 e2 e3
  subst e1;subst e2;subst e3;exact ⟨hn,f,h.ag,fun j hj=>h.rw j (by omega),h.bd⟩
 | k+1,i,n,qs,bs,f,hk,hl,hS,hn,h=>by
  simp only [kG];obtain ⟨a,b⟩:=CO 4294967296 n qs bs f hS hn (by omega) h;cases hr:jz 4294967296 i n qs bs with
  | none=>exact ⟨fun e=>(by cases e),fun m qs' bs' e=>by cases e⟩
  | some r =>
   cases r with
   | no=>exact absurd hr a
   | lim=>exact ⟨fun e=>(by cases e),fun m qs' bs' e=>by cases e⟩
   | ok m1 qs1 bs1 =>
    simp only;obtain ⟨c,f',h'⟩:=b m1 qs1 bs1 hr;obtain ⟨a1,a2,_,_,_⟩:=qo 4294967296 i n bs.length qs bs hS (by omega) (.inl (by omega)) m1 qs1 bs1 hr;exact DN k (i+1) m1 qs1 bs1 f' (by omega) (by omega) a1 c ⟨h'.ag,fun j hj=>h'.rw j (by omega),h'.bd⟩
theorem DW {l:List Linear} {n:Nat} {f:au→Int} (hS:gX n l []) (h:∀ q∈l,dx f q=0) :
 (jR l n).2≠9∧∀ m qs bs,kG l.length 0 n l []=some (.ok m qs bs)→∃ f',(∀ v,nG v<n→f' v=f v)∧∀ b∈bs,f' b.Var=dx f' b.Dim:=by
 have h0:HE f f n 0 l []:=⟨fun _ _=>rfl,fun j _=>by
  by_cases hj:j<l.length
  ·exact h _ (bb bD hj)
  ·rw [nL (by omega)];exact B2 f,fun b hb=>by simp at hb⟩
 obtain ⟨a,b⟩:=DN (L:=l.length) l.length 0 n l [] f (by omega) rfl hS (Nat.le_refl _) h0;constructor
 ·unfold jR;cases hr:kG l.length 0 n l [] with
  | none=>exact show (3:Int)≠9 by decide
  | some r =>
   cases r with
   | no=>exact absurd hr a
   | lim=>exact show (3:Int)≠9 by decide
   | ok m qs bs=>exact show (0:Int)≠9 by decide
 ·intro m qs bs e;obtain ⟨_,f',h'⟩:=b m qs bs e;exact ⟨f',h'.ag,h'.bd⟩
def fq (n d:Int):Int:=if 0<d then n / d else (-n) / (-d)
theorem s8 {n d:Int} (h:0<d):fq n d=n / d:=by unfold fq;rw [if_pos h]
theorem JG (n:Int) {d:Int} (h:d≠0):fq (-n) (-d)=fq n d:=by
 unfold fq;by_cases h1:0<d
 ·rw [if_pos h1,if_neg (by omega),Int.neg_neg,Int.neg_neg]
 ·rw [if_neg h1,if_pos (by omega)]
def fU (c:au→Int) (t nm:au) (d:au→Int):au→Int:=fun u=>if u=nm then d t else d u-fq (c u) (c t)*d t
def jD:List (au×au)→au→(au→Int)→(au→Int)→Int
 | [],p,_,d=>d p
 | a::l,p,c,d=>jD l p (fU c a.1 a.2 c) (fU c a.1 a.2 d)
def nF:List (au×au)→au→(au→Int)→(au→Int)→au→Int
 | [],p,c,d=>fun u=>d u-c u*c p*d p
 | a::l,p,c,d=>nF l p (fU c a.1 a.2 c) (fU c a.1 a.2 d)
def xu:List (au×au)→au→(au→Int)→Prop
 | [],p,c=>c p=1∨c p = -1
 | a::l,p,c=>(2≤(c a.1).natAbs∧(∀ u,c u≠0→(c a.1).natAbs≤(c u).natAbs)∧c a.2=0)∧xu l p (fU c a.1 a.2 c)
def Prim (c:au→Int):Prop:=∀ g:Int,(∀ u,g ∣ c u)→g ∣ 1
theorem jV {c:au→Int} {t nm:au} (h:Prim c) (hn:c nm=0):Prim (fU c t nm c):=by
 intro g hg;have h1:g ∣ c t:=by have:=hg nm;unfold fU at this;rwa [if_pos rfl] at this
 refine h g fun u => ?_;by_cases e:u=nm
 ·rw [e,hn];exact Int.dvd_zero g
 ·have h2:=hg u;unfold fU at h2;rw [if_neg e] at h2;have h3:=Int.dvd_add h2 (Int.dvd_trans h1 (Int.dvd_mul_left (fq (c u) (c t)) (c t)))
  rwa [Int.sub_add_cancel] at h3
structure RS (c:au→Int) (s:au) (M:Int):Prop where
 cs:c s=M
 r:∀ u,u≠s→0≤c u∧c u<M
 m2:2≤M
theorem rP {c:au→Int} {t:au} (nm:au) (h:2≤c t):RS (fU c t nm c) nm (c t):=by refine ⟨by unfold fU;rw [if_pos rfl],fun u hu => ?_,h⟩;unfold fU;rw [if_neg hu,s8 (by omega)];have h1:=Int.emod_nonneg (c u) (show c t≠0 by omega);have h2:=Int.emod_lt_of_pos (c u) (show 0<c t by omega);have h3:=Int.emod_add_mul_ediv (c u) (c t);rw [Int.mul_comm] at h3;omega
theorem HX {c:au→Int} {s:au} {M:Int} (h:RS c s M) (hp:Prim c) {t:au} (h0:c t≠0) (hm:∀ u,c u≠0→(c t).natAbs≤(c u).natAbs):t≠s∧0<c t∧c t<M∧∀ u,c u≠0→c t≤c u∧c u≤M:=by
 have hs:=h.cs;have h2:=h.m2;have ht:t≠s:=fun e=>by
  subst e;have:=hp M fun u=>by
   by_cases e:u=t
   ·rw [e,hs];exact Int.dvd_refl M
   ·by_cases e0:c u=0
    ·rw [e0];exact Int.dvd_zero M
    ·have h3:=hm u e0;have h4:=h.r u e;omega
  have:=Int.le_of_dvd (by omega) this;omega
 have h4:=h.r t ht;refine ⟨ht,by omega,by omega,fun u hu => ?_⟩;have h5:=hm u hu;by_cases e:u=s
 ·subst e;omega
 ·have:=h.r u e;omega
theorem Iu {c:au→Int} {s:au} {M:Int} (h:RS c s M) {p:au} (h0:c p=1∨c p = -1):p≠s∧c p=1:=by
 have hs:=h.cs;have h2:=h.m2;have hp:p≠s:=fun e=>by subst e;omega
 have:=h.r p hp;exact ⟨hp,by omega⟩
theorem vu:∀ (l:List (au×au)) (p:au) (c:au→Int) (s:au) (M:Int),RS c s M→Prim c→xu l p c→jD l p c c=1
 | [],p,c,s,M,h,hp,ho=>(Iu h ho).2
 | a::l,p,c,s,M,h,hp,ho=>by obtain ⟨⟨h1,h2,h3⟩,h4⟩:=ho;obtain ⟨_,b,_,_⟩:=HX h hp (t:=a.1) (by omega) h2;exact vu l p _ _ _ (rP a.2 (by omega)) (jV hp h3) h4
def sm (d:au→Int):List au→Int
 | []=>0
 | u::l=>d u+sm d l
theorem Cw (d:au→Int):∀ a b:List au,sm d (a++b)=sm d a+sm d b
 | [],b=>by simp [sm]
 | u::a,b=>by simp only [List.cons_append,sm,Cw d a b];omega
theorem CB (d:au→Int) (t:au):∀ n:Nat,sm d (List.replicate n t)=n*d t
 | 0=>by simp [sm]
 | n+1=>by simp only [List.replicate_succ,sm,CB d t n];rw [show ((n+1:Nat):Int)=(n:Int)+1 by omega,Int.add_mul,Int.one_mul];omega
theorem Hj {d:au→Int} {a b:Int}:∀ {l:List au},(∀ u∈l,a≤d u∧d u≤b)→a*l.length≤sm d l∧sm d l≤b*l.length
 | [],_=>by simp [sm]
 | u::l,h=>by have h1:=h u (by simp);have h2:=Hj (l:=l) fun v hv=>h v (by simp [hv]);simp only [sm,List.length_cons];rw [show ((l.length+1:Nat):Int)=(l.length:Int)+1 by omega,Int.mul_add,Int.mul_add,Int.mul_one,Int.mul_one];omega
theorem Gc (c d:au→Int) (t nm:au):∀ l:List au,(∀ u∈l,u≠nm)→sm (fU c t nm d) l=sm d l-sm (fun u=>fq (c u) (c t)) l*d t
 | [],_=>by simp [sm]
 | u::l,h=>by
  simp only [sm];rw [Gc c d t nm l fun v hv=>h v (by simp [hv])];have:fU c t nm d u=d u-fq (c u) (c t)*d t:=by unfold fU;rw [if_neg (h u (by simp))]
  rw [this,Int.add_mul];omega
theorem BK (s:au):∀ l:List au,∃ k:Int,∀ d:au→Int,sm d l=sm d (l.filter fun u=>decide (u≠s))+k*d s
 | []=>⟨0,fun d=>by simp [sm]⟩
 | u::l=>by
  obtain ⟨k,h⟩:=BK s l;by_cases e:u=s
  ·refine ⟨k+1,fun d => ?_⟩;subst e;simp only [sm,h d,ne_eq,decide_not,decide_true,Bool.not_true,Bool.false_eq_true,not_false_eq_true,List.filter_cons_of_neg];rw [Int.add_mul,Int.one_mul];omega
  ·refine ⟨k,fun d => ?_⟩;simp only [sm,h d];rw [List.filter_cons_of_pos (by simpa using e)];simp only [sm];omega
theorem IK:∀ (l:List (au×au)) (p:au) (c:au→Int) (s:au) (M:Int),RS c s M→Prim c→xu l p c →
 ∃ (b:Int) (P N:List au),(∀ u∈P++N,u≠s∧c u≠0)∧(3≤M→2*(P.length:Int)+1≤M∧2*(N.length:Int)+1≤M)∧(M=2→P.length≤1∧N.length=0)∧∀ d:au→Int,jD l p c d=b*d s+sm d P-sm d N
 | [],p,c,s,M,h,hp,ho=>by
  obtain ⟨a,b⟩:=Iu h ho;refine ⟨0,[p],[],fun u hu => ?_,fun h3 => ?_,fun _=>by simp,fun d=>by simp [jD,sm]⟩
  ·have:u=p:=by simpa using hu
   subst this;exact ⟨a,by omega⟩
  ·simp;omega
 | a::l,p,c,s,M,h,hp,ho=>by
  obtain ⟨⟨h1,h2,h3⟩,h4⟩:=ho;obtain ⟨t1,t2,t3,t4⟩:=HX h hp (t:=a.1) (by omega) h2;have hR:=rP (c:=c) a.2 (show 2≤c a.1 by omega);have hP:=jV (t:=a.1) hp h3;obtain ⟨b,P,N,k1,k2,k3,k4⟩:=IK l p _ _ _ hR hP h4;have hpc:=vu (a::l) p c s M h hp ⟨⟨h1,h2,h3⟩,h4⟩;generalize hm:c a.1=m at *;have k1P:∀ u∈P,u≠a.2∧c u≠0:=fun u hu=>by obtain ⟨e1,e2⟩:=k1 u (by simp [hu]);refine ⟨e1,fun e=>e2 ?_⟩;unfold fU;rw [if_neg e1,e,hm,s8 (by omega)];simp
  have k1N:∀ u∈N,u≠a.2∧c u≠0:=fun u hu=>by obtain ⟨e1,e2⟩:=k1 u (by simp [hu]);refine ⟨e1,fun e=>e2 ?_⟩;unfold fU;rw [if_neg e1,e,hm,s8 (by omega)];simp
  have key:∀ d:au→Int,jD (a::l) p c d=(b-sm (fun u=>fq (c u) (c a.1)) P+sm (fun u=>fq (c u) (c a.1)) N)*d a.1+sm d P-sm d N:=fun d=>by
   have e1:fU c a.1 a.2 d a.2=d a.1:=by unfold fU;rw [if_pos rfl]
   show jD l p (fU c a.1 a.2 c) (fU c a.1 a.2 d)=_;rw [k4,Gc c d a.1 a.2 P fun u hu=>(k1P u hu).1,Gc c d a.1 a.2 N fun u hu=>(k1N u hu).1,e1];rw [Int.add_mul,Int.sub_mul];omega
  generalize b-sm (fun u=>fq (c u) (c a.1)) P+sm (fun u=>fq (c u) (c a.1)) N=B at key;have hB:=key c;rw [hpc,hm] at hB;have bP:=Hj (d:=c) (l:=P) fun u hu=>t4 u (k1P u hu).2;have bN:=Hj (d:=c) (l:=N) fun u hu=>t4 u (k1N u hu).2;obtain ⟨kp,fp⟩:=BK s P;obtain ⟨kn,fn⟩:=BK s N;have lp:=List.length_filter_le (fun u=>decide (u≠s)) P;have ln:=List.length_filter_le (fun u=>decide (u≠s)) N;have hm2:2≤m:=by omega
  have mulN:∀ x:Int,0≤x→2*m*x≤M*m-M+2→2*x+1≤M:=fun x hx hh=>by
   apply Int.not_lt.1;intro hc;have h5:m*M≤m*(2*x):=Int.mul_le_mul_of_nonneg_left (by omega) (by omega);have h6:m*(2*x)=2*m*x:=by rw [← Int.mul_assoc,Int.mul_comm m 2]
   have h7:M*m=m*M:=Int.mul_comm _ _;omega
  have memP:∀ u∈P.filter (fun u=>decide (u≠s)),u≠s∧c u≠0:=fun u hu=>by obtain ⟨e1,e2⟩:=List.mem_filter.1 hu;exact ⟨LF e2,(k1P u e1).2⟩
  have memN:∀ u∈N.filter (fun u=>decide (u≠s)),u≠s∧c u≠0:=fun u hu=>by obtain ⟨e1,e2⟩:=List.mem_filter.1 hu;exact ⟨LF e2,(k1N u e1).2⟩
  have hPN:2*(P.length:Int)≤m∧2*(N.length:Int)+1≤m:=by
   by_cases e:m=2
   ·have:=k3 e;omega
   ·have:=k2 (by omega);omega
  rcases Int.le_total 0 B with hb | hb
  ·obtain ⟨n,rfl⟩:=Int.eq_ofNat_of_zero_le hb;refine ⟨kp-kn,P.filter (fun u=>decide (u≠s))++List.replicate n a.1,N.filter (fun u=>decide (u≠s)),fun u hu => ?_,fun h3 => ?_,fun e=>by omega,fun d => ?_⟩
   ·simp only [List.mem_append,List.mem_replicate] at hu;rcases hu with (hu | hu) | hu
    ·exact memP u hu
    ·rw [hu.2];exact ⟨t1,by omega⟩
    ·exact memN u hu
   ·refine ⟨mulN _ (by omega) ?_,by omega⟩;rw [List.length_append,List.length_replicate];have e1:2*m*(((P.filter fun u=>decide (u≠s)).length+n:Nat):Int)≤2*(m*(P.length:Int))+2*(m*(n:Int)):=by
     have:((((P.filter fun u=>decide (u≠s)).length+n:Nat)):Int)≤(P.length:Int)+n:=by omega
     have h5:=Int.mul_le_mul_of_nonneg_left this (show 0≤2*m by omega);have h6:2*m*((P.length:Int)+n)=2*(m*(P.length:Int))+2*(m*(n:Int)):=by grind
     omega
    have e2:(n:Int)*m=m*n:=Int.mul_comm _ _;by_cases e:m=2
    ·have hN0:(N.length:Int)=0:=by have:=(k3 e).2;omega
     have e3:M*(N.length:Int)=0:=by rw [hN0,Int.mul_zero]
     subst e;omega
    ·have h5:2*(N.length:Int)≤m-1:=by have:=k2 (by omega);omega
     have h6:=Int.mul_le_mul_of_nonneg_left h5 (show 0≤M by omega);have h7:M*(2*(N.length:Int))=2*(M*(N.length:Int)):=by grind
     have h8:M*(m-1)=M*m-M:=by rw [Int.mul_sub,Int.mul_one]
     omega
   ·rw [key d,fp d,fn d,Cw,CB,Int.sub_mul];omega
  ·obtain ⟨n,hn⟩:=Int.eq_ofNat_of_zero_le (show 0 ≤ -B by omega);have hB2:B = -(n:Int):=by omega
   subst hB2;refine ⟨kp-kn,P.filter (fun u=>decide (u≠s)),N.filter (fun u=>decide (u≠s))++List.replicate n a.1,fun u hu => ?_,fun h3 => ?_,fun e=>by omega,fun d => ?_⟩
   ·simp only [List.mem_append,List.mem_replicate] at hu;rcases hu with hu | hu | hu
    ·exact memP u hu
    ·exact memN u hu
    ·rw [hu.2];exact ⟨t1,by omega⟩
   ·refine ⟨by omega,?_⟩;rw [List.length_append,List.length_replicate];have e2 : -(n:Int)*m = -(m*n):=by rw [Int.neg_mul,Int.mul_comm]
    rw [e2] at hB;by_cases e:m=2
    ·have hP1:(P.length:Int)≤1:=by have:=(k3 e).1;omega
     have hN0:=(k3 e).2;have e3:=Int.mul_le_mul_of_nonneg_left hP1 (show 0≤M by omega);subst e;omega
    ·refine mulN _ (by omega) ?_;have e1:2*m*(((N.filter fun u=>decide (u≠s)).length+n:Nat):Int)≤2*(m*(N.length:Int))+2*(m*(n:Int)):=by
      have:((((N.filter fun u=>decide (u≠s)).length+n:Nat)):Int)≤(N.length:Int)+n:=by omega
      have h5:=Int.mul_le_mul_of_nonneg_left this (show 0≤2*m by omega);have h6:2*m*((N.length:Int)+n)=2*(m*(N.length:Int))+2*(m*(n:Int)):=by grind
      omega
     have h5:2*(P.length:Int)≤m-1:=by have:=k2 (by omega);omega
     have h6:=Int.mul_le_mul_of_nonneg_left h5 (show 0≤M by omega);have h7:M*(2*(P.length:Int))=2*(M*(P.length:Int)):=by grind
     have h8:M*(m-1)=M*m-M:=by rw [Int.mul_sub,Int.mul_one]
     omega
   ·rw [key d,fp d,fn d,Cw,CB,Int.neg_mul,Int.sub_mul];omega
def Bd (x b:Int):Prop := -b≤x∧x≤b
theorem Bd.add {x y a b:Int} (h:Bd x a) (g:Bd y b):Bd (x+y) (a+b):=by unfold Bd at *;omega
theorem Bd.sub {x y a b:Int} (h:Bd x a) (g:Bd y b):Bd (x-y) (a+b):=by unfold Bd at *;omega
theorem Bd.neg {x a:Int} (h:Bd x a):Bd (-x) a:=by unfold Bd at *;omega
theorem Bd.le {x a b:Int} (h:Bd x a) (g:a≤b):Bd x b:=by unfold Bd at *;omega
theorem Bd.pos {x a:Int} (h:Bd x a):0≤a:=by unfold Bd at *;omega
theorem Bd.mul {x y a b:Int} (h:Bd x a) (g:Bd y b):Bd (x*y) (a*b):=by have ha:=h.pos;have hb:=g.pos;unfold Bd at *;have h1:0≤(a-x)*(b+y):=Int.mul_nonneg (by omega) (by omega);have h2:0≤(a+x)*(b-y):=Int.mul_nonneg (by omega) (by omega);have h3:0≤(a-x)*(b-y):=Int.mul_nonneg (by omega) (by omega);have h4:0≤(a+x)*(b+y):=Int.mul_nonneg (by omega) (by omega);simp only [Int.sub_mul,Int.add_mul,Int.mul_sub,Int.mul_add] at h1 h2 h3 h4;omega
theorem Bd.div {k x b:Int} (hk:0<k) (h:Bd (k*x) (k*b)):Bd x b:=by unfold Bd at *;rw [← Int.mul_neg] at h;exact ⟨Int.le_of_mul_le_mul_left h.1 hk,Int.le_of_mul_le_mul_left h.2 hk⟩
theorem Bd.of_eq {x y a:Int} (h:Bd x a) (e:y=x):Bd y a:=by rw [e];exact h
theorem Fz {f:au→Int} {X:Int}:∀ {l:List au},(∀ u∈l,Bd (f u) X)→Bd (sm f l) (X*l.length)
 | [],_=>by unfold Bd;simp [sm]
 | u::l,h=>by have h1:=(h u (by simp)).add (Fz (l:=l) fun v hv=>h v (by simp [hv]));simp only [sm,List.length_cons];refine h1.le ?_;rw [show ((l.length+1:Nat):Int)=(l.length:Int)+1 by omega,Int.mul_add,Int.mul_one];omega
theorem yS {c:au→Int} {t nm:au} (h:c t≠0) (d:au→Int):fU (fun u => -c u) t nm d=fU c t nm d:=by funext u;unfold fU;rw [JG _ h]
theorem yx (c:au→Int) (t nm:au) (a b:Int) (d e:au→Int):fU c t nm (fun u=>a*d u+b*e u)=fun u=>a*fU c t nm d u+b*fU c t nm e u:=by
 funext u;unfold fU;by_cases h:u=nm
 ·simp only [h,if_true]
 ·simp only [h,if_false];grind
theorem uu (a b:Int):∀ (l:List (au×au)) (p:au) (c d e:au→Int),jD l p c (fun u=>a*d u+b*e u)=a*jD l p c d+b*jD l p c e
 | [],p,c,d,e=>rfl
 | x::l,p,c,d,e=>by simp only [jD];rw [yx,uu a b l]
theorem CP (a b:Int):∀ (l:List (au×au)) (p:au) (c d e:au→Int) (u:au),nF l p c (fun u=>a*d u+b*e u) u=a*nF l p c d u+b*nF l p c e u
 | [],p,c,d,e,u=>by simp only [nF];grind
 | x::l,p,c,d,e,u=>by simp only [nF];rw [yx,CP a b l]
theorem vV {c:au→Int} {t nm:au} (h:c t≠0):fU (fun u => -c u) t nm (fun u => -c u)=fun u => -fU c t nm c u:=by rw [yS h];have:=yx c t nm (-1) 0 c c;simp only [Int.zero_mul,Int.add_zero,Int.neg_mul,Int.one_mul] at this;exact this
theorem rM:∀ {l:List (au×au)} {p:au} {c:au→Int},xu l p c→xu l p (fun u => -c u)
 | [],p,c,h=>by
  have h:c p=1∨c p = -1:=h;show -c p=1 ∨ -c p = -1;omega
 | a::l,p,c,h=>by obtain ⟨⟨h1,h2,h3⟩,h4⟩:=h;refine ⟨⟨by simpa using h1,fun u hu=>by simpa using h2 u (by simpa using hu),by simpa using h3⟩,?_⟩;rw [vV (by omega)];exact rM h4
theorem yR:∀ {l:List (au×au)} {p:au} {c:au→Int},xu l p c→∀ d,jD l p (fun u => -c u) d=jD l p c d
 | [],p,c,h,d=>rfl
 | a::l,p,c,h,d=>by obtain ⟨⟨h1,h2,h3⟩,h4⟩:=h;simp only [jD];rw [vV (by omega),yS (by omega),yR h4]
theorem qm:∀ {l:List (au×au)} {p:au} {c:au→Int},xu l p c→∀ d u,nF l p (fun u => -c u) d u=nF l p c d u
 | [],p,c,h,d,u=>by simp [nF,Int.neg_mul_neg]
 | a::l,p,c,h,d,u=>by obtain ⟨⟨h1,h2,h3⟩,h4⟩:=h;simp only [nF];rw [vV (by omega),yS (by omega),qm h4]
theorem rN {c:au→Int} (h:Prim c):Prim fun u => -c u:=fun g hg=>h g fun u=>(Int.dvd_neg).1 (hg u)
def BA:List (au×au)→au→au
 | [],p=>p
 | a::_,_=>a.1
theorem JO {c d:au→Int} {t nm u:au} (hu:u≠nm) (hc:0<c t):c t*fU c t nm d u=(c t*d u-c u*d t)+fU c t nm c u*d t:=by
 unfold fU;rw [if_neg hu,if_neg hu]
 grind
theorem G6 {a:au×au} {l:List (au×au)} {p:au} {c:au→Int} (hp:Prim c) (ho:xu (a::l) p c) (hc:0<c a.1) {S X:Int} (hS:(c a.1=2→1≤S)∧(3≤c a.1→2*((c a.1-1) / 2)≤S))
 {d:au→Int} (hX:∀ u,Bd (c a.1*d u-c u*d a.1) X):Bd (c a.1*jD (a::l) p c d-d a.1) (X*S):=by
 obtain ⟨⟨h1,h2,h3⟩,h4⟩:=ho;have hR:=rP (c:=c) a.2 (show 2≤c a.1 by omega);have hP:=jV (t:=a.1) hp h3;obtain ⟨b,P,N,k1,k2,k3,k4⟩:=IK l p _ _ _ hR hP h4;have hpc:=vu l p _ _ _ hR hP h4;have e1:fU c a.1 a.2 d a.2=d a.1:=by unfold fU;rw [if_pos rfl]
 have e2:fU c a.1 a.2 c a.2=c a.1:=by unfold fU;rw [if_pos rfl]
 rw [k4,e2] at hpc;have key:∀ L:List au,(∀ u∈L,u≠a.2)→c a.1*sm (fU c a.1 a.2 d) L=sm (fun u=>c a.1*d u-c u*d a.1) L+sm (fU c a.1 a.2 c) L*d a.1:=fun L=>by
  induction L with
  | nil=>intro _;simp [sm]
  | cons u L ih =>
   intro h;simp only [sm];have:=ih fun v hv=>h v (by simp [hv]);rw [Int.mul_add,this,JO (h u (by simp)) hc,Int.add_mul];omega
 show Bd (c a.1*jD l p (fU c a.1 a.2 c) (fU c a.1 a.2 d)-d a.1) (X*S);rw [k4,e1];have hbP:=Fz (f:=fun u=>c a.1*d u-c u*d a.1) (X:=X) (l:=P) fun u _=>hX u;have hbN:=Fz (f:=fun u=>c a.1*d u-c u*d a.1) (X:=X) (l:=N) fun u _=>hX u;have kP:=key P fun u hu=>(k1 u (by simp [hu])).1;have kN:=key N fun u hu=>(k1 u (by simp [hu])).1;have e3:c a.1*(b*d a.1+sm (fU c a.1 a.2 d) P-sm (fU c a.1 a.2 d) N)-d a.1=sm (fun u=>c a.1*d u-c u*d a.1) P-sm (fun u=>c a.1*d u-c u*d a.1) N:=by
  have e5:c a.1*(b*d a.1+sm (fU c a.1 a.2 d) P-sm (fU c a.1 a.2 d) N)=c a.1*(b*d a.1)+c a.1*sm (fU c a.1 a.2 d) P-c a.1*sm (fU c a.1 a.2 d) N:=by grind
  rw [e5,kP,kN];have e6:(b*c a.1+sm (fU c a.1 a.2 c) P-sm (fU c a.1 a.2 c) N)*d a.1=1*d a.1:=by rw [hpc]
  grind
 rw [e3];refine (hbP.sub hbN).le ?_;rw [← Int.mul_add];refine Int.mul_le_mul_of_nonneg_left ?_ (hX a.1).pos;by_cases e:c a.1=2
 ·have:=k3 e;have:=hS.1 e;omega
 ·have:=k2 (by omega);have:=hS.2 (by omega);omega
theorem Gs {a:au×au} {l:List (au×au)} {p:au} {c:au→Int} (hp:Prim c) (ho:xu (a::l) p c) {S X D:Int} (hS:((c a.1).natAbs=2→1≤S)∧(3≤(c a.1).natAbs→2*((((c a.1).natAbs:Int)-1) / 2)≤S))
 {d:au→Int} (hX:∀ u,Bd (c a.1*d u-c u*d a.1) X) (hD:Bd (d a.1) D):Bd (((c a.1).natAbs:Int)*jD (a::l) p c d) (X*S+D):=by
 rcases Int.lt_or_le 0 (c a.1) with h | h
 ·have h1:((c a.1).natAbs:Int)=c a.1:=by omega
  rw [h1] at hS ⊢;have:=G6 (S:=S) hp ho h (by omega) hX;exact (this.add hD).of_eq (by omega)
 ·have h0:c a.1≠0:=by have:=ho.1.1;omega
  have h1:((c a.1).natAbs:Int) = -c a.1:=by omega
  rw [h1] at hS ⊢;have:=G6 (c:=fun u => -c u) (S:=S) (X:=X) (d:=d) (rN hp) (rM ho) (show 0 < -c a.1 by omega) (show (-c a.1=2→1≤S)∧(3 ≤ -c a.1→2*((-c a.1-1) / 2)≤S) by omega) (fun u=>by refine (hX u).neg.of_eq ?_;show -c a.1*d u - -c u*d a.1=_;rw [Int.neg_mul,Int.neg_mul];omega)
  rw [yR ho] at this;have this:Bd (-c a.1*jD (a::l) p c d-d a.1) (X*S):=this;exact (this.add hD).of_eq (by omega)
theorem K1:∀ (l:List (au×au)) (p:au) (c:au→Int) (s:au) (M:Int),RS c s M→Prim c→xu l p c→∀ (d:au→Int) (W:Int),(∀ u,u≠s→Bd (M*d u-c u*d s) W) →
 (∀ u v,u≠s→v≠s→c u≠0→c v≠0→Bd ((M*d u-c u*d s)-(M*d v-c v*d s)) W)→∀ u,Bd (nF l p c d u) W
 | [],p,c,s,M,h,hp,ho,d,W,hW,hV,u=>by
  obtain ⟨a,b⟩:=Iu h ho;have hm:=h.m2;simp only [nF,b,Int.mul_one];have hWp:=hW p a;rw [b,Int.one_mul] at hWp;by_cases e:u=s
  ·subst e;rw [h.cs];exact hWp.neg.of_eq (by omega)
  ·refine Bd.div (k:=M) (by omega) ?_;have hWu:=hW u e;have hr:=h.r u e;by_cases e0:c u=0
   ·rw [e0,Int.zero_mul,Int.sub_zero] at hWu ⊢;refine hWu.le ?_;have:=Int.mul_le_mul_of_nonneg_right (show 1≤M by omega) hWu.pos;omega
   ·have h1:=hV u p e a e0 (by omega);rw [b,Int.one_mul] at h1;have h2:Bd (c u-1) (M-2):=⟨by omega,by omega⟩;have h3:=h1.sub (h2.mul hWp);refine (h3.of_eq ?_).le ?_
    ·grind
    ·have:=hWp.pos;rw [Int.sub_mul];omega
 | a::l,p,c,s,M,h,hp,ho,d,W,hW,hV,u=>by
  obtain ⟨⟨h1,h2,h3⟩,h4⟩:=ho;obtain ⟨t1,t2,t3,t4⟩:=HX h hp (t:=a.1) (by omega) h2;have hm:=h.m2;have hx:=hW a.1 t1;have hW0:=hx.pos;have e0:fU c a.1 a.2 d a.2=d a.1:=by unfold fU;rw [if_pos rfl]
  have nv:∀ u,u≠a.2→M*(c a.1*fU c a.1 a.2 d u-fU c a.1 a.2 c u*fU c a.1 a.2 d a.2)=c a.1*(M*d u-c u*d s)-c u*(M*d a.1-c a.1*d s):=fun u hu=>by
   rw [e0,JO hu t2]
   grind
  have nz:∀ u,u≠a.2→fU c a.1 a.2 c u≠0→c u≠0:=fun u hu hne e=>hne (by
   unfold fU;rw [if_neg hu,e,s8 t2];simp)
  refine K1 l p _ _ _ (rP a.2 (by omega)) (jV hp h3) h4 _ W (fun u hu => ?_) (fun u v hu hv cu cv => ?_) u
  ·refine Bd.div (k:=M) (by omega) ?_;rw [nv u hu];by_cases es:u=s
   ·subst es;rw [h.cs];have:Bd (M*(M*d a.1-c a.1*d u)) (M*W):=(show Bd M M from ⟨by omega,by omega⟩).mul hx;exact this.neg.of_eq (by grind)
   ·have hu2:=hW u es;by_cases ec:c u=0
    ·rw [ec,Int.zero_mul,Int.zero_mul,Int.sub_zero,Int.sub_zero];rw [ec,Int.zero_mul,Int.sub_zero] at hu2;exact (show Bd (c a.1) M from ⟨by omega,by omega⟩).mul hu2
    ·have h5:=hV u a.1 es t1 ec (by omega);have h6:=t4 u ec;have h7:=((show Bd (c a.1) (c a.1) from ⟨by omega,by omega⟩).mul h5).sub ((show Bd (c u-c a.1) (M-c a.1) from ⟨by omega,by omega⟩).mul hx);refine (h7.of_eq ?_).le ?_
     ·grind
     ·rw [Int.sub_mul];omega
  ·refine Bd.div (k:=M) (by omega) ?_;rw [Int.mul_sub,nv u hu,nv v hv];have cu:=nz u hu cu;have cv:=nz v hv cv;have bu:=t4 u cu;have bv:=t4 v cv;have hcc:Bd (c a.1) (c a.1):=⟨by omega,by omega⟩;by_cases eu:u=s
   ·subst eu;by_cases ev:v=u
    ·subst ev;refine (show Bd 0 (M*W) from ?_).of_eq (by omega);have:=Int.mul_nonneg (show 0≤M by omega) hW0;exact ⟨by omega,this⟩
    ·rw [h.cs];have h7:=(hcc.mul (hW v ev)).add ((show Bd (M-c v) (M-c a.1) from ⟨by omega,by omega⟩).mul hx);refine (h7.neg.of_eq ?_).le ?_
     ·grind
     ·rw [Int.sub_mul];omega
   ·by_cases ev:v=s
    ·subst ev;rw [h.cs];have h7:=(hcc.mul (hW u eu)).add ((show Bd (M-c u) (M-c a.1) from ⟨by omega,by omega⟩).mul hx);refine (h7.of_eq ?_).le ?_
     ·grind
     ·rw [Int.sub_mul];omega
    ·have h7:=(hcc.mul (hV u v eu ev cu cv)).sub ((show Bd (c u-c v) (M-c a.1) from ⟨by omega,by omega⟩).mul hx);refine (h7.of_eq ?_).le ?_
     ·grind
     ·rw [Int.sub_mul];omega
theorem Hc {a:au×au} {l:List (au×au)} {p:au} {c:au→Int} (hp:Prim c) (ho:xu (a::l) p c) (hc:0<c a.1) {X:Int} {d:au→Int} (hX:∀ u,Bd (c a.1*d u-c u*d a.1) X) (u:au):Bd (nF (a::l) p c d u) (X+X):=by
 obtain ⟨⟨h1,h2,h3⟩,h4⟩:=ho;have e0:fU c a.1 a.2 d a.2=d a.1:=by unfold fU;rw [if_pos rfl]
 have nv:∀ u,u≠a.2→c a.1*fU c a.1 a.2 d u-fU c a.1 a.2 c u*fU c a.1 a.2 d a.2=c a.1*d u-c u*d a.1:=fun u hu=>by rw [e0,JO hu hc];omega
 have hX0:=(hX u).pos;refine K1 l p _ _ _ (rP a.2 (by omega)) (jV hp h3) h4 _ (X+X) (fun u hu => ?_) (fun u v hu hv _ _ => ?_) u
 ·rw [nv u hu];exact (hX u).le (by omega)
 ·rw [nv u hu,nv v hv];exact (hX u).sub (hX v)
theorem IU:∀ {l:List (au×au)} {p:au} {c:au→Int},Prim c→xu l p c→∀ {X:Int} {d:au→Int},(∀ u,Bd (c (BA l p)*d u-c u*d (BA l p)) X)→∀ u:au,Bd (nF l p c d u) (X+X)
 | [],p,c,hp,ho,X,d,hX,u=>by
  have h:=hX u;have hX0:=h.pos;simp only [nF];simp only [BA] at h;rcases ho with e | e
  ·rw [e] at h ⊢;exact (h.of_eq (by rw [Int.mul_one,Int.one_mul])).le (by omega)
  ·rw [e] at h ⊢;exact (h.neg.of_eq (by rw [Int.mul_neg,Int.mul_one,Int.neg_mul];omega)).le (by omega)
 | a::l,p,c,hp,ho,X,d,hX,u=>by
  simp only [BA] at hX;rcases Int.lt_or_le 0 (c a.1) with h | h
  ·exact Hc hp ho h hX u
  ·have h0:c a.1≠0:=by have:=ho.1.1;omega
   have:=Hc (c:=fun u => -c u) (X:=X) (d:=d) (rN hp) (rM ho) (show 0 < -c a.1 by omega) (fun u=>by refine (hX u).neg.of_eq ?_;show -c a.1*d u - -c u*d a.1=_;rw [Int.neg_mul,Int.neg_mul];omega) u
   rwa [qm ho] at this
def Lr:List Nat:=[0,0,0,0,0,0,0,0,0,0,0,0,0,0,0,0,0,0,0,0,0,0,0,0,0,0,0,0,0,0,0,0,0,0,0,0,0,0,0,0,0,0,0,0,0,0,0,0,0,0,0,0,0,0,0,0,0,0,0,0,0,0,0,0,31887,0,0,0,0,0,0,0,0,0,0,0,0,0,0,0,0,0,0,0,0,0,0,0,0,0,0,0,0,0,0,0,0,0,0,0,0,0,0,0,0,0,0,0,0,0,0,0,0,0,0,0,0,0,0,0,0,0,0,0,0,0,0,0,39434,23029,0,0,0,0,0,0,23029,21258,0,0,0,0,0,0,0,0,0,0,0,0,0,0,0,0,0,0,0,0,0,0,0,0,0,0,0,0,0,0,0,0,0,0,0,0,0,0,0,0,0,0,0,0,0,0,0,0,0,0,0,0,0,0,18360,20400,16684,0,0,0,0,0,20400,22440,18200,0,0,0,0,0,16684,18200,19717,0,0,0,0,0,0,0,0,0,0,0,0,0,0,0,0,0,0,0,0,0,0,0,0,0,0,0,0,0,0,0,0,0,0,0,0,0,0,0,0,0,0,0,0,0,24480,19717,9100,6000,0,0,0,0,19717,21234,9100,6000,0,0,0,0,9100,9100,6000,6000,0,0,0,0,6000,6000,6000,6000,0,0,0,0,0,0,0,0,0,0,0,0,0,0,0,0,0,0,0,0,0,0,0,0,0,0,0,0,0,0,0,0,0,0,0,0,26572,28343,12400,10200,10200,0,0,0,28343,30115,12400,10200,10200,0,0,0,12400,12400,10200,10200,10200,0,0,0,10200,10200,10200,10200,10200,0,0,0,10200,10200,10200,10200,10200,0,0,0,0,0,0,0,0,0,0,0,0,0,0,0,0,0,0,0,0,0,0,0,0,0,0,0,31886,12400,9100,9100,9100,9100,0,0,12400,9100,9100,9100,9100,9100,0,0,9100,9100,9100,9100,9100,9100,0,0,9100,9100,9100,9100,9100,9100,0,0,9100,9100,9100,9100,9100,9100,0,0,9100,9100,9100,9100,9100,9100,0,0,0,0,0,0,0,0,0,0,0,0,0,0,0,0,0,0,30188,12400,12400,0,0,12400,12400,0,12400,12400,12400,0,0,12400,12400,0,12400,12400,12400,0,0,12400,12400,0,0,0,0,0,0,0,0,0,0,0,0,0,0,0,0,0,12400,12400,12400,0,0,12400,12400,0,12400,12400,12400,0,0,12400,12400,0,0,0,0,0,0,0,0,0,11500,11500,0,0,0,0,0,11500,11500,11500,0,0,0,0,0,11500,0,0,0,0,0,0,0,0,0,0,0,0,0,0,0,0,0,0,0,0,0,0,0,0,0,0,0,0,0,0,0,0,0,0,0,0,0,0,0,0,11500,11500,0,0,0,0,0,11500]
def Lq:List Nat:=[0,1,3,7,15,31,63,103,131]
def ph (M a b:Nat):Nat:=Lr.getD (M*64+a*8+b) 0
def al (M a:Nat):Bool:=Nat.testBit (Lq.getD M 0) a
def rg (n:Nat):List Nat:=List.range n
def Ly:Bool:=(rg 9).all fun M=>(rg M).all fun m => !decide (2≤M)||(!decide (1≤m)||(!al M m||(al m (M % m)&&(rg M).all fun a => !al M a||(!(decide (a=0)||decide (m≤a))||(al m (a % m) &&
 (decide (ph M m a≤ph m (M % m) (a % m))&&(decide (ph M m a≤ph m (a % m) (M % m)) &&
 (rg M).all fun b => !al M b||(!(decide (b=0)||decide (m≤b))||decide (m*ph M a b+a*ph M m b+b*ph M m a≤M*ph m (a % m) (b % m))))))))))
theorem FW:Ly=true:=by kernel_rfl
theorem wH {n:Nat} {f:Nat→Bool} (h:(rg n).all f=true) {i:Nat} (hi:i<n):f i=true:=LN.1 h i (List.mem_range.2 hi)
theorem qg {a b:Bool} (h:(!a||b)=true) (ha:a=true):b=true:=by rw [ha] at h;simpa using h
theorem KN {M m:Nat} (hM:M≤8) (h2:2≤M) (hm:m<M) (h1:1≤m) (ha:al M m=true):al m (M % m)=true∧∀ a,a<M→al M a=true→(a=0∨m≤a)→al m (a % m)=true∧ph M m a≤ph m (M % m) (a % m)∧ph M m a≤ph m (a % m) (M % m) ∧
 ∀ b,b<M→al M b=true→(b=0∨m≤b)→m*ph M a b+a*ph M m b+b*ph M m a≤M*ph m (a % m) (b % m):=by
 have h:=qg (qg (qg (wH (wH FW (show M<9 by omega)) hm) (LH h2)) (LH h1)) ha;rw [LB] at h;refine ⟨h.1,fun a hl haa ho => ?_⟩;have h3:=qg (qg (wH h.2 hl) haa) (by simpa using ho);simp only [LB,decide_eq_true_eq] at h3;refine ⟨h3.1,h3.2.1,h3.2.2.1,fun b hb hba hob => ?_⟩;have h4:=qg (qg (wH h3.2.2.2 hb) hba) (by simpa using hob);exact LF h4
def tI (c d e:au→Int) (s u v:au):Int:=c s*(d u*e v-d v*e u)-c u*(d s*e v-d v*e s)+c v*(d s*e u-d u*e s)
theorem F7 {c d e:au→Int} {t nm u v:au} (hu:u≠nm) (hv:v≠nm):tI (fU c t nm c) (fU c t nm d) (fU c t nm e) nm u v=tI c d e t u v:=by
 unfold tI fU;rw [if_neg hu,if_neg hv,if_neg hu,if_neg hv,if_neg hu,if_neg hv,if_pos rfl,if_pos rfl,if_pos rfl];generalize fq (c u) (c t)=x;generalize fq (c v) (c t)=y
 grind
theorem Jd (c d e:au→Int) (s t u v:au):c s*tI c d e t u v=c t*tI c d e s u v-c u*tI c d e s t v+c v*tI c d e s t u:=by unfold tI;grind
theorem J5 (c d e:au→Int) (s t v:au):tI c d e t s v = -tI c d e s t v:=by unfold tI;grind
theorem Ia (c d e:au→Int) (s t v:au):tI c d e t v s=tI c d e s t v:=by unfold tI;grind
theorem Jr (c d e:au→Int) (s t:au):tI c d e t s s=0:=by unfold tI;grind
theorem zu {c d e:au→Int} {s:au} {M:Nat} (h:RS c s M) (hM:M≤8) {w D:Int} (hD:0≤D) (hal:∀ u,u≠s→al M (c u).toNat=true)
 (hT:∀ u v,u≠s→v≠s→Bd (w*tI c d e s u v) (D*ph M (c u).toNat (c v).toNat)) {t:au} {m:Nat} (ht:t≠s) (hc:c t=m) (hm0:1≤m) (hm:m<M) (hz:∀ u,c u≠0→(m:Int)≤c u) :
 (∀ u,al m ((c u).toNat % m)=true)∧∀ u v,Bd (w*tI c d e t u v) (D*ph m ((c u).toNat % m) ((c v).toNat % m)):=by
 have h2:=h.m2;have hs:=h.cs;have ht2:(c t).toNat=m:=by omega
 obtain ⟨k1,k2⟩:=KN hM (by omega) hm hm0 (by rw [← ht2];exact hal t ht);have hs2:(c s).toNat=M:=by omega
 have q:∀ u,u≠s→(c u).toNat<M∧al M (c u).toNat=true∧((c u).toNat=0∨m≤(c u).toNat):=fun u hu=>by
  have:=h.r u hu;refine ⟨by omega,hal u hu,?_⟩;by_cases e:c u=0
  ·left;omega
  ·have:=hz u e;right;omega
 refine ⟨fun u => ?_,fun u v => ?_⟩
 ·by_cases e:u=s
  ·rw [e,hs2];exact k1
  ·obtain ⟨a,b,c'⟩:=q u e;exact (k2 _ a b c').1
 ·by_cases eu:u=s
  ·by_cases ev:v=s
   ·rw [eu,ev,Jr,Int.mul_zero];have:0≤D*(ph m ((c s).toNat % m) ((c s).toNat % m):Int):=Int.mul_nonneg hD (Int.natCast_nonneg _);exact ⟨by omega,this⟩
   ·obtain ⟨a,b,c'⟩:=q v ev;have hb:=(k2 _ a b c').2.1;rw [eu,J5,hs2,Int.mul_neg];have h5:=hT t v ht ev;rw [ht2] at h5;exact h5.neg.le (Int.mul_le_mul_of_nonneg_left (by omega) hD)
  ·obtain ⟨a,b,c'⟩:=q u eu;have hb:=k2 _ a b c';by_cases ev:v=s
   ·rw [ev,Ia,hs2];have h5:=hT t u ht eu;rw [ht2] at h5;exact h5.le (Int.mul_le_mul_of_nonneg_left (by omega) hD)
   ·obtain ⟨a2,b2,c2⟩:=q v ev;have h6:=hb.2.2.2 _ a2 b2 c2;refine Bd.div (k:=(M:Int)) (by omega) ?_;have hcu:c u=((c u).toNat:Int):=by have:=h.r u eu;omega
    have hcv:c v=((c v).toNat:Int):=by have:=h.r v ev;omega
    have t1:=hT u v eu ev;have t2:=hT t v ht ev;have t3:=hT t u ht eu;rw [ht2] at t2 t3;generalize (c u).toNat=x at *;generalize (c v).toNat=y at *;have nn:∀ n:Nat,Bd (n:Int) n:=fun n=>⟨by omega,by omega⟩;have h7:=(((nn m).mul t1).sub ((nn x).mul t2)).add ((nn y).mul t3);refine (h7.of_eq ?_).le ?_
    ·have h8:=Jd c d e s t u v;rw [hs,hc,hcu,hcv] at h8;have:(M:Int)*(w*tI c d e t u v)=w*((M:Int)*tI c d e t u v):=by grind
     rw [this,h8]
     grind
    ·have h9:((m*ph M x y+x*ph M m y+y*ph M m x:Nat):Int)≤((M*ph m (x % m) (y % m):Nat):Int):=by omega
     have h10:=Int.mul_le_mul_of_nonneg_left h9 hD;simp only [Int.natCast_add,Int.natCast_mul] at h10;generalize (ph M x y:Int)=p1 at *;generalize (ph M m y:Int)=p2 at *;generalize (ph M m x:Int)=p3 at *;generalize (ph m (x % m) (y % m):Int)=p4 at *
     grind
theorem KJ:∀ (l:List (au×au)) (p:au) (c:au→Int) (s:au) (M:Nat),RS c s M→Prim c→xu l p c→M≤8→∀ (d e:au→Int) (w D:Int),0≤D→(∀ u,u≠s→al M (c u).toNat=true) →
 (∀ u v,u≠s→v≠s→Bd (w*tI c d e s u v) (D*ph M (c u).toNat (c v).toNat))→∀ u v,Bd (w*(nF l p c d u*nF l p c e v-nF l p c d v*nF l p c e u)) (D*ph 1 0 0)
 | [],p,c,s,M,h,hp,ho,hM,d,e,w,D,hD,hal,hT,u,v=>by
  obtain ⟨a,b⟩:=Iu h ho;have hm:=h.m2;have h1:=(zu h hM hD hal hT a (m:=1) b (by omega) (by omega) (fun u hu=>by
   by_cases es:u=s
   ·rw [es,h.cs];omega
   ·have:=h.r u es;omega)).2 u v
  rw [Nat.mod_one,Nat.mod_one] at h1;refine h1.of_eq ?_;congr 1;simp only [nF,tI,b]
  grind
 | a::l,p,c,s,M,h,hp,ho,hM,d,e,w,D,hD,hal,hT,u,v=>by
  obtain ⟨⟨h1,h2,h3⟩,h4⟩:=ho;obtain ⟨t1,t2,t3,t4⟩:=HX h hp (t:=a.1) (by omega) h2;obtain ⟨m,hm⟩:=Int.eq_ofNat_of_zero_le (show 0≤c a.1 by omega);obtain ⟨k1,k2⟩:=zu h hM hD hal hT t1 hm (by omega) (by omega) (fun u hu=>by rw [← hm];exact (t4 u hu).1);have hR:=rP (c:=c) a.2 (show 2≤c a.1 by omega);rw [hm] at hR;have hc':∀ u,u≠a.2→(fU c a.1 a.2 c u).toNat=(c u).toNat % m:=fun u hu=>by
   unfold fU;rw [if_neg hu,hm,s8 (by omega)];have hcu:0≤c u:=by
    by_cases e:u=s
    ·rw [e,h.cs];omega
    ·exact (h.r u e).1
   obtain ⟨x,hx⟩:=Int.eq_ofNat_of_zero_le hcu;rw [hx];have e1:=Int.emod_add_mul_ediv (x:Int) (m:Int);rw [Int.mul_comm] at e1;have e2:(x:Int)-(x:Int) / m*m=(x:Int) % m:=by omega
   rw [e2,← Int.natCast_emod,Int.toNat_natCast,Int.toNat_natCast]
  refine KJ l p _ a.2 m hR (jV hp h3) h4 (by omega) _ _ w D hD (fun u hu => ?_) (fun u v hu hv => ?_) u v
  ·rw [hc' u hu];exact k1 u
  ·rw [F7 hu hv,hc' u hu,hc' v hv];exact k2 u v
theorem Bd.abs (x:Int):Bd x x.natAbs:=⟨by omega,by omega⟩
theorem Bd.nat {x b:Int} (h:Bd x b):(x.natAbs:Int)≤b:=by unfold Bd at h;omega
theorem Bd.of_nat {x b:Int} (h:(x.natAbs:Int)≤b):Bd x b:=by unfold Bd;omega
theorem Bd.less {a w x b:Int} (h:Bd (w*x) b) (ha:Bd a w):Bd (a*x) b:=by
 refine Bd.of_nat ?_;have h1:=h.nat;rw [Int.natAbs_mul] at h1 ⊢;have h2:=ha.nat;have h3:a.natAbs≤w.natAbs:=by omega
 have:=Nat.mul_le_mul_right x.natAbs h3;omega
theorem Bd.undo {g x b:Int} (hg:1≤g) (h:Bd (g*x) b):Bd x b:=by have:=h.less (a:=1) ⟨by omega,hg⟩;exact this.of_eq (by omega)
theorem ET {a b g d1 d2 d3 e1 e2 e3:Int} (ha:a=1∨a = -1) (hb:b=1∨b = -1) (hg:g=1∨g = -1) (h1:Bd d1 9) (h2:Bd d2 9) (h3:Bd d3 9) (k1:Bd e1 9) (k2:Bd e2 9) (k3:Bd e3 9) :
 a*(d2*e3-d3*e2)+b*(d1*e3-d3*e1)+g*(d1*e2-d2*e1)≤324:=by
 have m1:=h1.mul (Bd.abs (b*e3+g*e2));have m2:=h2.mul (Bd.abs (a*e3-g*e1));have m3:=h3.mul (Bd.abs (-(a*e2)-b*e1));have e:a*(d2*e3-d3*e2)+b*(d1*e3-d3*e1)+g*(d1*e2-d2*e1)=d1*(b*e3+g*e2)+d2*(a*e3-g*e1)+d3*(-(a*e2)-b*e1):=by grind
 rw [e];have hs:((b*e3+g*e2).natAbs:Int)+(a*e3-g*e1).natAbs+(-(a*e2)-b*e1).natAbs≤36:=by unfold Bd at k1 k2 k3;rcases ha with rfl | rfl<;>rcases hb with rfl | rfl<;>rcases hg with rfl | rfl<;>omega
 unfold Bd at m1 m2 m3;omega
theorem Ek {d1 d2 d3 e1 e2 e3:Int} (h1:Bd d1 9) (h2:Bd d2 9) (h3:Bd d3 9) (k1:Bd e1 9) (k2:Bd e2 9) (k3:Bd e3 9) :
 ((d2*e3-d3*e2).natAbs:Int)+(d1*e3-d3*e1).natAbs+(d1*e2-d2*e1).natAbs≤324:=by
 have q:=fun a b g ha hb hg=>ET (a:=a) (b:=b) (g:=g) ha hb hg h1 h2 h3 k1 k2 k3;generalize d2*e3-d3*e2=x at *;generalize d1*e3-d3*e1=y at *;generalize d1*e2-d2*e1=z at *;have a1:=q 1 1 1 (by decide) (by decide) (by decide);have a2:=q 1 1 (-1) (by decide) (by decide) (by decide);have a3:=q 1 (-1) 1 (by decide) (by decide) (by decide);have a4:=q 1 (-1) (-1) (by decide) (by decide) (by decide);have a5:=q (-1) 1 1 (by decide) (by decide) (by decide);have a6:=q (-1) 1 (-1) (by decide) (by decide) (by decide);have a7:=q (-1) (-1) 1 (by decide) (by decide) (by decide);have a8:=q (-1) (-1) (-1) (by decide) (by decide) (by decide);omega
def wT:List Nat:=[0,9,54,75,60,102,91,124,115]
def wM (M:Nat):Nat:=wT.getD M 0
def BM (M:Nat):List Int:=((List.range 19).map fun j:Nat=>(j:Int)-9).filter fun x=>decide (x=0)||decide (M≤x.natAbs)
def Le:Bool:=(rg 9).all fun M => !decide (2≤M)||(decide (9*(M+9)*(if M=2 then 1 else 2*((M-1) / 2))+9<M*(wM M+1))&&(decide (wM M≤124)&&(decide (54≤wM M)&&(BM M).all fun x=>al M (x % M).toNat&&(BM M).all fun y=>decide (100*wM M≤ph M (x % M).toNat (y % M).toNat))))
theorem EJ:Le=true:=by kernel_rfl
theorem FQ {M:Nat} {x:Int} (h:Bd x 9) (h2:x≠0→M≤x.natAbs):x∈BM M:=by
 unfold Bd at h;unfold BM;refine List.mem_filter.2 ⟨List.mem_map.2 ⟨(x+9).toNat,List.mem_range.2 (by omega),by omega⟩,?_⟩;rw [Bool.or_eq_true,decide_eq_true_eq,decide_eq_true_eq];by_cases e:x=0
 ·exact .inl e
 ·exact .inr (h2 e)
theorem FJ {M:Nat} (h2:2≤M) (h8:M≤8):(9*(M+9)*(if M=2 then 1 else 2*((M-1) / 2))+9<M*(wM M+1)∧wM M≤124∧54≤wM M)∧∀ x∈BM M,al M (x % M).toNat=true∧∀ y∈BM M,100*wM M≤ph M (x % M).toNat (y % M).toNat:=by have h:=qg (wH EJ (show M<9 by omega)) (LH h2);rw [LB,LB,LB,LN] at h;refine ⟨⟨LF h.1,LF h.2.1,LF h.2.2.1⟩,fun x hx => ?_⟩;have h3:=h.2.2.2 x hx;rw [LB,LN] at h3;exact ⟨h3.1,fun y hy=>LF (h3.2 y hy)⟩
theorem Gx {c d e:au→Int} (hc:∀ u,Bd (c u) 9) (hd:∀ u,Bd (d u) 9) (he:∀ u,Bd (e u) 9) (s u v:au):Bd (tI c d e s u v) 2916:=by unfold tI;have h:=Ek (hd s) (hd u) (hd v) (he s) (he u) (he v);have h1:=(hc s).mul (Bd.abs (d u*e v-d v*e u));have h2:=(hc u).mul (Bd.abs (d s*e v-d v*e s));have h3:=(hc v).mul (Bd.abs (d s*e u-d u*e s));exact ((h1.sub h2).add h3).le (by omega)
def mn (d e:au→Int) (u v:au):Int:=d u*e v-d v*e u
theorem Fh {l:List (au×au)} {p:au} {c:au→Int} (hp:Prim c) (ho:xu l p c) (hc:∀ u,Bd (c u) 9):(c (BA l p)).natAbs≤8:=by
 cases l with
 | nil =>
  have:c p=1∨c p = -1:=ho;simp only [BA];omega
 | cons a l =>
  obtain ⟨⟨h1,h2,h3⟩,h4⟩:=ho;simp only [BA];have h5:=hc a.1;unfold Bd at h5;by_cases e:(c a.1).natAbs=9
  ·exfalso;have:=Int.le_of_dvd (by omega) (hp 9 fun u=>by
    have h6:=hc u;unfold Bd at h6;by_cases e0:c u=0
    ·rw [e0];exact Int.dvd_zero 9
    ·have:=h2 u e0;omega)
   omega
  ·omega
theorem AX {a:au×au} {l:List (au×au)} {p:au} {c:au→Int} (hp:Prim c) (ho:xu (a::l) p c) (hc:∀ u,Bd (c u) 9) (h0:0<c a.1) {M:Nat} (hM:c a.1=M) {d e:au→Int} (hd:∀ u,Bd (d u) 9) (he:∀ u,Bd (e u) 9) (u v:au) :
 Bd ((wM M:Int)*mn (nF (a::l) p c d) (nF (a::l) p c e) u v) 930000:=by
 have h8:=Fh hp ho hc;simp only [BA] at h8;obtain ⟨⟨h1,h2,h3⟩,h4⟩:=ho;have hR:=rP (c:=c) a.2 (show 2≤c a.1 by omega);rw [hM] at hR;obtain ⟨⟨_,_,_⟩,k⟩:=FJ (M:=M) (by omega) (by omega);have hn:∀ u,c u∈BM M:=fun u=>FQ (hc u) fun h=>by have:=h2 u h;omega
 have hmod:∀ u,u≠a.2→fU c a.1 a.2 c u=c u % M:=fun u hu=>by unfold fU;rw [if_neg hu,hM,s8 (by omega)];have e1:=Int.emod_add_mul_ediv (c u) (M:Int);rw [Int.mul_comm] at e1;omega
 have h5:=KJ l p _ a.2 M hR (jV hp h3) h4 (by omega) (fU c a.1 a.2 d) (fU c a.1 a.2 e) (100*wM M:Int) 2916 (by omega) (fun u hu=>by rw [hmod u hu];exact (k _ (hn u)).1) (fun u v hu hv=>by rw [F7 hu hv,hmod u hu,hmod v hv];have h6:=(k _ (hn u)).2 _ (hn v);have h7:=(show Bd (100*(wM M:Int)) (ph M (c u % M).toNat (c v % M).toNat) from ⟨by omega,by omega⟩).mul (Gx hc hd he a.1 u v);exact h7.le (by rw [Int.mul_comm];exact Int.le_refl _)) u v
 have h9:ph 1 0 0=31887:=by kernel_rfl
 rw [h9] at h5;refine Bd.div (k:=100) (by omega) ((h5.of_eq ?_).le (by omega));show 100*((wM M:Int)*(nF l p _ _ u*nF l p _ _ v-nF l p _ _ v*nF l p _ _ u))=_;rw [Int.mul_assoc]
structure Ld (l:List (au×au)) (p:au) (c:au→Int) (w:Int):Prop where
 wb:9≤w∧w≤124
 pv:∀ d:au→Int,(∀ u,Bd (d u) 9)→Bd (jD l p c d) w
 ot:∀ d:au→Int,(∀ u,Bd (d u) 9)→∀ u,Bd (nF l p c d u) 306
 mw:∀ d e:au→Int,(∀ u,Bd (d u) 9)→(∀ u,Bd (e u) 9)→∀ u v,Bd (w*mn (nF l p c d) (nF l p c e) u v) 930000
 m:∀ d e:au→Int,(∀ u,Bd (d u) 9)→(∀ u,Bd (e u) 9)→∀ u v,Bd (mn (nF l p c d) (nF l p c e) u v) 17300
theorem row_one {l:List (au×au)} {p:au} {c:au→Int} (hp:Prim c) (ho:xu l p c) (hc:∀ u,Bd (c u) 9):∃ w,Ld l p c w:=by
 have h8:=Fh hp ho hc;have hX:∀ d:au→Int,(∀ u,Bd (d u) 9)→∀ u,Bd (c (BA l p)*d u-c u*d (BA l p)) (9*((c (BA l p)).natAbs+9)):=fun d hd u=>by refine (((Bd.abs (c (BA l p))).mul (hd u)).sub ((hc u).mul (hd (BA l p)))).le (by omega)
 have hot:∀ d:au→Int,(∀ u,Bd (d u) 9)→∀ u,Bd (nF l p c d u) 306:=fun d hd u=>(IU hp ho (hX d hd) u).le (by omega);cases l with
 | nil =>
  have hcp:c p=1∨c p = -1:=ho;have key:∀ d e:au→Int,(∀ u,Bd (d u) 9)→(∀ u,Bd (e u) 9)→∀ u v,Bd (mn (nF [] p c d) (nF [] p c e) u v) 2916:=fun d e hd he u v=>by
   have h:=Gx hc hd he p u v;have h2:mn (nF [] p c d) (nF [] p c e) u v=c p*tI c d e p u v:=by unfold mn tI;simp only [nF];rcases hcp with h | h<;>rw [h]<;>grind
   rw [h2];rcases hcp with h3 | h3<;>rw [h3]
   ·exact h.of_eq (by omega)
   ·exact h.neg.of_eq (by omega)
  refine ⟨9,⟨by omega,by omega⟩,fun d hd=>hd p,hot,fun d e hd he u v => ?_,fun d e hd he u v=>(key d e hd he u v).le (by omega)⟩;have:=key d e hd he u v;unfold Bd at this ⊢;omega
 | cons a l =>
  simp only [BA] at h8 hX;have h1:=ho.1.1;obtain ⟨M,hM⟩:∃ M:Nat,(c a.1).natAbs=M:=⟨_,rfl⟩;obtain ⟨⟨k1,k2,k3⟩,_⟩:=FJ (M:=M) (by omega) (by omega);have hmw:∀ d e:au→Int,(∀ u,Bd (d u) 9)→(∀ u,Bd (e u) 9)→∀ u v,Bd ((wM M:Int)*mn (nF (a::l) p c d) (nF (a::l) p c e) u v) 930000:=fun d e hd he u v=>by
   rcases Int.lt_or_le 0 (c a.1) with h | h
   ·exact AX hp ho hc h (by omega) hd he u v
   ·have:=AX (c:=fun u => -c u) (M:=M) (rN hp) (rM ho) (fun u=>(hc u).neg) (show 0 < -c a.1 by omega) (show -c a.1=M by omega) hd he u v;unfold mn at this ⊢;rw [qm ho,qm ho,qm ho,qm ho] at this;exact this
  refine ⟨wM M,⟨by omega,by omega⟩,fun d hd => ?_,hot,hmw,fun d e hd he u v => ?_⟩
  ·have h5:=Gs hp ho (S:=(if M=2 then 1 else 2*((M-1) / 2):Nat)) (by
    rw [hM];constructor
    ·intro e;rw [if_pos e];omega
    ·intro e;rw [if_neg (by omega)];omega) (hX d hd) (hd a.1)
   rw [hM] at h5;have h6:(9*((M:Int)+9))*((if M=2 then 1 else 2*((M-1) / 2):Nat):Int)+9=((9*(M+9)*(if M=2 then 1 else 2*((M-1) / 2))+9:Nat):Int):=by rw [Int.natCast_add,Int.natCast_mul,Int.natCast_mul,Int.natCast_add];rfl
   rw [h6] at h5;have h7:=h5.le (Int.ofNat_le.2 (Nat.le_of_lt_succ (Nat.lt_succ_of_lt k1)));have h8:Bd ((M:Int)*jD (a::l) p c d) ((M*(wM M+1)-1:Nat):Int):=h5.le (by omega);unfold Bd at h8 ⊢;have h9:1≤M*(wM M+1):=by omega
   rw [Int.natCast_sub h9,Int.natCast_mul] at h8;constructor
   ·apply Int.not_lt.1;intro hc;have:(M:Int)*jD (a::l) p c d≤(M:Int)*(-((wM M+1:Nat):Int)):=Int.mul_le_mul_of_nonneg_left (by omega) (by omega);rw [Int.mul_neg] at this;omega
   ·apply Int.not_lt.1;intro hc;have:(M:Int)*((wM M+1:Nat):Int)≤(M:Int)*jD (a::l) p c d:=Int.mul_le_mul_of_nonneg_left (by omega) (by omega);omega
  ·have h5:=hmw d e hd he u v;have h6:=h5.less (a:=54) ⟨by omega,by omega⟩;unfold Bd at h6 ⊢;omega
structure I1 (l:List (au×au)) (p:au) (c:au→Int) (g c21 c31:Int) (d:au→Int):Prop where
 e:Bd (c21*jD l p c d-c31*(g*jD l p c c)) 930000
 pv:Bd (jD l p c d) 17300
 ot:∀ u,Bd (g*nF l p c d u) 34600
theorem Il {l:List (au×au)} {p:au} {c d:au→Int} {g w c21 c31:Int} (hp:Prim c) (ho:xu l p c) (hg:1≤g) (hw:w≤124) (h2:Bd c21 w) (h3:Bd c31 w) (hC:∀ u,Bd (g*c u) 306) (hd:∀ u,Bd (d u) 306)
 (hmw:∀ u v,Bd (w*mn (fun u=>g*c u) d u v) 930000) (hm:∀ u v,Bd (mn (fun u=>g*c u) d u v) 17300):I1 l p c g c21 c31 d:=by
 have hw0:=h2.pos;have b1:∀ u,Bd (c21*d u + -c31*(g*c u)) 75888:=fun u=>((h2.mul (hd u)).add (h3.neg.mul (hC u))).le (by
  have:=Int.mul_le_mul_of_nonneg_right hw (show (0:Int)≤306 by omega);omega)
 have b2:∀ u v,Bd (c21*(c u*d v-c v*d u)) 930000:=fun u v=>Bd.undo hg (((hmw u v).less h2).of_eq (by unfold mn;grind));have b3:∀ u v,Bd (c u*d v-c v*d u) 17300:=fun u v=>Bd.undo hg ((hm u v).of_eq (by unfold mn;grind));have el:jD l p c (fun u=>c21*d u + -c31*(g*c u))=c21*jD l p c d-c31*(g*jD l p c c):=by
  rw [uu c21 (-c31) l p c d fun u=>g*c u];have:jD l p c (fun u=>g*c u)=g*jD l p c c:=by have:=uu g 0 l p c c c;simp only [Int.zero_mul,Int.add_zero] at this;exact this
  rw [this,Int.neg_mul];omega
 have last:∀ (M:Nat) (x B D:Int),2≤M→Bd ((M:Int)*x) (B*((M:Int)-1)+D)→D≤B→Bd x B:=fun M x B D h2 h h3=>by refine Bd.div (k:=(M:Int)) (by omega) (h.le ?_);rw [Int.mul_sub,Int.mul_comm B];omega
 have hS:∀ M:Nat,(M=2→(1:Int)≤(M:Int)-1)∧(3≤M→2*(((M:Int)-1) / 2)≤(M:Int)-1):=fun M=>by omega
 refine ⟨?_,?_,fun u => ?_⟩
 ·rw [← el];cases l with
  | nil=>exact (b1 p).le (by omega)
  | cons a l =>
   refine last (c a.1).natAbs _ _ 75888 ho.1.1 (Gs hp ho (hS _) (fun u=>(b2 a.1 u).of_eq ?_) (b1 a.1)) (by omega)
   grind
 ·cases l with
  | nil=>exact (hd p).le (by omega)
  | cons a l=>exact last (c a.1).natAbs _ _ 306 ho.1.1 (Gs hp ho (hS _) (fun u=>b3 a.1 u) (hd a.1)) (by omega)
 ·have h:=IU hp ho (X:=17300) (d:=fun u=>g*d u) (fun u=>(hm (BA l p) u).of_eq (by unfold mn;grind)) u;have e:=CP g 0 l p c d d u;simp only [Int.zero_mul,Int.add_zero] at e;rw [e] at h;exact h
theorem HA {n d:Int} (hd:d≠0):gE n d=fq n d:=by
 have h1:=Int.mul_tdiv_add_tmod n d;have h2:=Int.natAbs_tmod n d;have h3:=Nat.mod_lt n.natAbs (show 0<d.natAbs by omega);unfold gE fq;generalize n.tdiv d=q at *;generalize n.tmod d=r at *;by_cases h0:0<d
 ·rw [if_pos h0];by_cases e:r=0
  ·have:(n / d=q∧n % d=0):=(Int.ediv_emod_unique h0).2 ⟨by omega,by omega,by omega⟩;simp [e,this.1]
  ·by_cases e2:r<0
   ·have:(n / d=q-1∧n % d=r+d):=(Int.ediv_emod_unique h0).2 ⟨by rw [Int.mul_sub];omega,by omega,by omega⟩;simp [show (r==0)=false by simpa using e,e2,show ¬ d<0 by omega,this.1]
   ·have:(n / d=q∧n % d=r):=(Int.ediv_emod_unique h0).2 ⟨by omega,by omega,by omega⟩;simp [show (r==0)=false by simpa using e,e2,show ¬ d<0 by omega,this.1]
 ·rw [if_neg h0];have h5:0 < -d:=by omega
  by_cases e:r=0
  ·have:(-n / -d=q ∧ -n % -d=0):=(Int.ediv_emod_unique h5).2 ⟨by rw [Int.neg_mul];omega,by omega,by omega⟩;simp [e,this.1]
  ·by_cases e2:r<0
   ·have:(-n / -d=q ∧ -n % -d = -r):=(Int.ediv_emod_unique h5).2 ⟨by rw [Int.neg_mul];omega,by omega,by omega⟩;simp [show (r==0)=false by simpa using e,e2,show d<0 by omega,this.1]
   ·have:(-n / -d=q-1 ∧ -n % -d = -r-d):=(Int.ediv_emod_unique h5).2 ⟨by rw [Int.neg_mul,Int.mul_sub];omega,by omega,by omega⟩;simp [show (r==0)=false by simpa using e,e2,show d<0 by omega,this.1]
theorem JS {q:Linear} {v:au} (h:v ∉ q.Terms.map aq.Var):cf q v=0:=jw h
theorem tF {q:Linear} (hv:ax q=true) {t:aq} (h:t∈q.Terms):cf q t.Var=t.C:=kq (dp hv) h
theorem JI {t:aq} {q:Linear} (hv:ax q=true):xp (vz t q).Terms:=by show ((((q.Terms.filter fun u => !(u.Var==t.Var)).map fun u=>aq.mk u.Var (-t.C*u.C))).map aq.Var).Nodup;rw [List.map_map];exact (List.Sublist.map _ List.filter_sublist).nodup (dp hv)
theorem Jj {t:aq} {q:Linear} (hv:ax q=true) (hm:t∈q.Terms) (ht:t.C=1∨t.C = -1) (v:au):cf (vz t q) v-ind v t.Var = -t.C*cf q v:=by have h1:=sk (ind v) hv hm;have h0:=sk (fun _=>0) hv hm;rw [rG v (JI hv),rG v (dp hv)] at h1;rw [gY,gY] at h0;rcases ht with e | e<;>rw [e] at h1 h0 ⊢ <;> omega
theorem BI {t:aq} {n:Nat} {q:Linear} (h1:1≤n) (h2:n<1000000000) (hv:ax q=true) (hf:rX n q) (ht:t.C≠0) (v:au):cf (om t n q) v=if v=cO n then 1 else if v=t.Var then 0 else -fq (cf q v) t.C:=by
 by_cases e1:v=cO n
 ·rw [if_pos e1,e1];exact BG h1 h2 hv hf
 ·rw [if_neg e1];by_cases e2:v=t.Var
  ·rw [if_pos e2];exact yv e1 (.inl e2)
  ·rw [if_neg e2];by_cases e3:v∈q.Terms.map aq.Var
   ·obtain ⟨u,hu,rfl⟩:=List.mem_map.1 e3;rw [E7 hv (tS h1 h2 hf) hu e2,tF hv hu,HA ht]
   ·rw [yv e1 (.inr e3),JS e3];unfold fq;split<;>simp
theorem IC {t:aq} {q r:Linear} (hv:ax q=true) (hm:t∈q.Terms) (ht:t.C=1∨t.C = -1) (hb:ax (vz t q)=true) (hr:ax r=true) (hc:gN t.Var (vz t q) r=true) (v:au) :
 cf (pb t.Var (vz t q) r) v=cf r v-cf q v*cf q t.Var*cf r t.Var:=by
 rw [(fL hb hr hc).2.2 v,Jj hv hm ht v,tF hv hm]
 grind
theorem HZ {d:Int} (h:d≠0):fq d d=1:=by
 unfold fq;split
 ·exact Int.ediv_self h
 ·exact Int.ediv_self (by omega)
theorem Gv {t:aq} {n:Nat} {q r:Linear} (h1:1≤n) (h2:n<1000000000) (hv:ax q=true) (hf:rX n q) (hm:t∈q.Terms) (hb:ax (om t n q)=true) (hr:ax r=true) (hfr:rX n r) (hc:gN t.Var (om t n q) r=true) (v:au) :
 cf (pb t.Var (om t n q) r) v=fU (cf q) t.Var (cO n) (cf r) v:=by
 have ht:=de hv t hm;have hne:t.Var≠cO n:=tS h1 h2 hf t hm;rw [(fL hb hr hc).2.2 v,BI h1 h2 hv hf ht v];unfold fU;rw [tF hv hm];by_cases e1:v=cO n
 ·rw [if_pos e1,if_pos e1,e1,xt h1 h2 hfr,Cc,if_neg hne];omega
 ·rw [if_neg e1,if_neg e1];by_cases e2:v=t.Var
  ·rw [if_pos e2,e2,Cc,if_pos rfl,tF hv hm,HZ ht];omega
  ·rw [if_neg e2,Cc,if_neg (fun e=>e2 e.symm)]
   grind
theorem Aw {g:Int} (v:au):∀ {ts:List aq},(∀ t∈ts,g ∣ t.C)→g*mF v (ts.map fun t=>aq.mk t.Var (t.C.tdiv g))=mF v ts
 | [],_=>by simp [mF]
 | t::ts,h=>by
  simp only [List.map_cons,mF];by_cases e:t.Var=v
  ·rw [if_pos e,if_pos e];exact Int.mul_tdiv_cancel' (h t (by simp))
  ·rw [if_neg e,if_neg e];exact Aw v fun u hu=>h u (by simp [hu])
theorem CZ (q:Linear) (v:au):(cont q:Int)*cf (aR (cont q) q) v=cf q v:=Aw v mu
theorem sM {q:Linear} (hv:ax q=true) (hc:cont q≠0):Prim (cf (aR (cont q) q)):=fun g hg=>by
 have:=zt hv hc (d:=g.natAbs) fun t ht=>by have h:=hg t.Var;rw [tF (dn hv) ht] at h;exact Int.natAbs_dvd_natAbs.2 h
 exact Int.natAbs_dvd_natAbs.1 (by rw [this];exact Nat.dvd_refl 1)
theorem Jb {q:Linear} (v:au):(cont q:Int) ∣ cf q v:=⟨_,(CZ q v).symm⟩
theorem EU {q:Linear} (h:Prim (cf q)):cont q=1:=by have:=h (cont q) Jb;have:=Int.natAbs_dvd_natAbs.2 this;simpa using this
theorem Em {q:Linear} (h:cont q=1):aR (cont q) q=q:=by obtain ⟨c,ts⟩:=q;unfold aR;rw [h];simp
structure mL (G:Int) (F:Int→Int) (r:Rw):Prop where
 lost:r.lost=false
 pos:1≤r.scale
 dvd:r.scale ∣ G
 nd:(r.mults.map (·.1)).Nodup
 eq:∀ y,G*ba 0 y r.mults=r.scale*F y
theorem Bd.frac {N L x z B:Int} (hN:1≤N) (hL:0≤L∧L≤N) (e:N*x=L*z) (h:Bd z B):Bd x B:=by refine Bd.div (k:=N) (by omega) ?_;rw [e];exact ((show Bd L L from ⟨by omega,by omega⟩).mul h).le (Int.mul_le_mul_of_nonneg_right hL.2 h.pos)
theorem kr {n:Int} (h:Bd n 4611686018427387904):jA n=true:=by unfold Bd at h;unfold jA;simp only [LB,decide_eq_true_eq];omega
theorem rj {n:Int} (h:Bd n 1099511627776):sy n 0=true:=by unfold Bd at h;unfold sy;simp only [LB,decide_eq_true_eq];exact ⟨rfl,by omega,by omega⟩
theorem rE {a b:Int} (ha:Bd a 4611686018427387904) (hb:Bd b 4611686018427387904) (hab:Bd (a*b) 4611686018427387904):mulR a b=(a*b,0):=by unfold mulR;rw [kr ha,kr hb,kr hab];rfl
theorem GG {a b c d:Int} (ha:Bd a 4611686018427387904) (hb:Bd b 4611686018427387904) (hc:Bd c 4611686018427387904) (hd:Bd d 4611686018427387904) (h:Bd (a*c+b*d) 4611686018427387904):kK [a,b] [c,d]=(a*c+b*d,0):=by
 unfold kK;simp only [List.length_cons,List.length_nil,List.all_cons,List.all_nil,kr ha,kr hb,kr hc,kr hd,Bool.and_true,decide_true,cond_true];rw [LH (by omega)];have e:gz (r6 [a,b] [c,d]) (0+1+1)=a*c+b*d:=by simp [gz,r6]
 rw [e];simp only [cond_true,xg];rw [kr h];rfl
theorem Ja {a b N:Int} (ha:1≤a) (hb:1≤b) (h1:a ∣ N) (h2:b ∣ N) (hN:1≤N∧N≤1099511627776):∃ L:Int,jM a b=(L,0)∧1≤L∧L≤N∧a ∣ L∧b ∣ L∧L ∣ N:=by
 obtain ⟨x,rfl⟩:=Int.eq_ofNat_of_zero_le (show 0≤a by omega);obtain ⟨y,rfl⟩:=Int.eq_ofNat_of_zero_le (show 0≤b by omega);obtain ⟨n,rfl⟩:=Int.eq_ofNat_of_zero_le (show 0≤N by omega);have h1':=Int.natCast_dvd_natCast.1 h1;have h2':=Int.natCast_dvd_natCast.1 h2;have hl:=Nat.lcm_dvd h1' h2';have hle:=Nat.le_of_dvd (by omega) hl;have hx:=Nat.le_of_dvd (by omega) h1';have hy:=Nat.le_of_dvd (by omega) h2';have hg:Nat.gcd x y ∣ x:=Nat.gcd_dvd_left x y;have e:x / Nat.gcd x y*y=Nat.lcm x y:=by unfold Nat.lcm;exact Nat.div_mul_right_comm hg y
 have hpos:0<Nat.lcm x y:=Nat.lcm_pos (by omega) (by omega);have hq:x / Nat.gcd x y≤x:=Nat.div_le_self _ _;refine ⟨(Nat.lcm x y:Nat),?_,by omega,by omega,Int.natCast_dvd_natCast.2 (Nat.dvd_lcm_left x y),Int.natCast_dvd_natCast.2 (Nat.dvd_lcm_right x y),Int.natCast_dvd_natCast.2 hl⟩;unfold jM;rw [kr (n:=(x:Int)) ⟨by omega,by omega⟩,kr (n:=(y:Int)) ⟨by omega,by omega⟩];have e1:((x:Int)==0)=false:=by simp;omega
 have e2:((y:Int)==0)=false:=by simp;omega
 rw [e1,e2];simp only [Bool.and_true,cond_true,Bool.or_false,cond_false,Int.natAbs_natCast];generalize x / Nat.gcd x y=z at *;have e3:(z:Int)*(y:Int)=((Nat.lcm x y:Nat):Int):=by rw [← e,Int.natCast_mul]
 rw [rE ⟨by omega,by omega⟩ ⟨by omega,by omega⟩ (by rw [e3];exact ⟨by omega,by omega⟩),e3]
theorem sl {m:Ms} {y:Int} (h:y ∉ m.map (·.1)):ba 0 y m=0:=by
 have:=sf (b:=[]) h
 rwa [List.append_nil] at this
theorem Fc {G g k:Int} {F Fp:Int→Int} {r p:Rw} (hr:mL G F r) (hp:mL (G*g) Fp p) (hG:1≤G) (hg:1≤g) (hN:G*g≤1099511627776) (hk:Bd k 1000000) (h1:∀ y,Bd (g*F y) 1099511627776) (h2:∀ y,Bd (Fp y) 1099511627776) (h3:∀ y,Bd (g*F y-k*Fp y) 1099511627776) :
 mL (G*g) (fun y=>g*F y-k*Fp y) (nO r p k):=by
 have hN1:1≤G*g:=by have:=Int.mul_le_mul_of_nonneg_left hg (show 0≤G by omega);omega
 obtain ⟨L,e1,l1,l2,l3,l4,l5⟩:=Ja hr.pos hp.pos (Int.dvd_trans hr.dvd (Int.dvd_mul_right G g)) hp.dvd ⟨hN1,hN⟩;obtain ⟨own,ho⟩:=l3;obtain ⟨oth,hq⟩:=l4;have hs1:=hr.pos;have hs2:=hp.pos;have ho1:1≤own∧own≤L:=by
  constructor
  ·apply Int.not_lt.1;intro h;have:=Int.mul_le_mul_of_nonneg_left (show own≤0 by omega) (show 0≤r.scale by omega);omega
  ·have h0:0≤own:=by apply Int.not_lt.1;intro h;have:=Int.mul_le_mul_of_nonneg_left (show own≤0 by omega) (show 0≤r.scale by omega);omega
   have:=Int.mul_le_mul_of_nonneg_right hs1 h0;omega
 have hq1:1≤oth∧oth≤L:=by
  constructor
  ·apply Int.not_lt.1;intro h;have:=Int.mul_le_mul_of_nonneg_left (show oth≤0 by omega) (show 0≤p.scale by omega);omega
  ·have h0:0≤oth:=by apply Int.not_lt.1;intro h;have:=Int.mul_le_mul_of_nonneg_left (show oth≤0 by omega) (show 0≤p.scale by omega);omega
   have:=Int.mul_le_mul_of_nonneg_right hs2 h0;omega
 have d1:L.tdiv r.scale=own:=by rw [ho];exact Int.mul_tdiv_cancel_left _ (by omega)
 have d2:L.tdiv p.scale=oth:=by rw [hq];exact Int.mul_tdiv_cancel_left _ (by omega)
 have bo:Bd (oth*k) 1099511627776000000:=((show Bd oth 1099511627776 from ⟨by omega,by omega⟩).mul hk).le (by omega);have w1:aL (L.tdiv r.scale)=own:=by rw [d1];exact bn (by omega) (by omega)
 have w2:aL (aL (0-aL (L.tdiv p.scale))*k) = -(oth*k):=by
  rw [d2,bn (n:=oth) (by omega) (by omega),bn (n:=0-oth) (by omega) (by omega)];have:(0-oth)*k = -(oth*k):=by rw [Int.sub_mul,Int.zero_mul];omega
  rw [this];unfold Bd at bo;exact bn (by omega) (by omega)
 have hF:∀ y,Bd (F y) 1099511627776:=fun y=>Bd.undo hg (h1 y);have m1:∀ y,Bd (ba 0 y r.mults) 1099511627776:=fun y=>Bd.frac hG ⟨by omega,Int.le_of_dvd (by omega) hr.dvd⟩ (hr.eq y) (hF y);have m2:∀ y,Bd (ba 0 y p.mults) 1099511627776:=fun y=>Bd.frac hN1 ⟨by omega,Int.le_of_dvd (by omega) hp.dvd⟩ (hp.eq y) (h2 y);have q1:∀ y,(G*g)*(ba 0 y r.mults*own)=L*(g*F y):=fun y=>by
  have:=hr.eq y;rw [ho]
  grind
 have q2:∀ y,(G*g)*(ba 0 y r.mults*own + -(oth*k)*ba 0 y p.mults)=L*(g*F y-k*Fp y):=fun y=>by
  have h5:=hp.eq y;have h6:=q1 y;have h7:(G*g)*(oth*k*ba 0 y p.mults)=L*(k*Fp y):=by rw [hq];grind
  grind
 have v1b:∀ y,Bd (ba 0 y r.mults*own) 1099511627776:=fun y=>Bd.frac hN1 ⟨by omega,l2⟩ (q1 y) (h1 y);have v2b:∀ y,Bd (ba 0 y r.mults*own + -(oth*k)*ba 0 y p.mults) 1099511627776:=fun y=>Bd.frac hN1 ⟨by omega,l2⟩ (q2 y) (h3 y);have big:∀ {x:Int},Bd x 1099511627776→Bd x 4611686018427387904:=fun h=>h.le (by omega);have mR:∀ y,mulR (ba 0 y r.mults) own=(ba 0 y r.mults*own,0):=fun y=>rE (big (m1 y)) ⟨by omega,by omega⟩ (big (v1b y));have v1e:∀ y,CE r own y=ba 0 y r.mults*own:=fun y=>by
  unfold CE;by_cases h:y∈r.mults.map (·.1)
  ·rw [if_pos h,mR]
  ·rw [if_neg h,sl h,Int.zero_mul]
 have dR:∀ y,kK [1,-(oth*k)] [CE r own y,ba 0 y p.mults]=(ba 0 y r.mults*own + -(oth*k)*ba 0 y p.mults,0):=fun y=>by rw [v1e,GG ⟨by omega,by omega⟩ (bo.neg.le (by omega)) (big (v1b y)) (big (m2 y)) (by rw [Int.one_mul];exact big (v2b y)),Int.one_mul]
 have v2e:∀ y,Hm r p own (-(oth*k)) y=ba 0 y r.mults*own + -(oth*k)*ba 0 y p.mults:=fun y=>by
  unfold Hm;by_cases h:y∈p.mults.map (·.1)
  ·rw [if_pos h,dR]
  ·rw [if_neg h,v1e,sl h,Int.mul_zero,Int.add_zero]
 have hb1:r.mults.any (AF r own)=false:=List.any_eq_false.2 fun e he=>by unfold AF;rw [← di hr.nd he,mR,rj (v1b e.1)];simp
 have hb2:p.mults.any (CD r own (-(oth*k)))=false:=List.any_eq_false.2 fun e he=>by unfold CD;rw [← di hp.nd he,dR,rj (v2b e.1)];simp
 have hmp:=yE hr.nd hp.nd (Hm r p own (-(oth*k)));unfold nO;rw [hr.lost,hp.lost,e1];simp only [Bool.false_or];rw [rj (n:=L) ⟨by omega,by omega⟩];simp only [Bool.not_true,cond_false];rw [w1,w2,hb1,hb2];refine ⟨rfl,l1,l5,hmp.nd,fun y => ?_⟩;show G*g*ba 0 y (HG r p (Hm r p own (-(oth*k))))=L*(g*F y-k*Fp y);by_cases hd:Fg r p y
 ·rw [hmp.at_ y hd,v2e,q2]
 ·rw [hmp.out hd,Int.mul_zero];unfold Fg at hd;rw [not_or] at hd;have:=q2 y;rw [sl hd.1,sl hd.2,Int.zero_mul,Int.mul_zero,Int.add_zero,Int.mul_zero] at this;exact this
theorem C6 {α:Type} (d:α) {l:List α} {g:α→α} {i j:Nat} (hij:i≤j) (hj:j<l.length):(l.take i++(l.drop i).map g).getD j d=g (l.getD j d):=by rw [Lz,List.getElem?_append_right (by simp;omega),List.getElem?_map,List.getElem?_drop,List.length_take,Nat.min_eq_left (by omega),show i+(j-i)=j from by omega,getD_at d hj,LA hj];rfl
theorem HB {α:Type} (d:α) {l:List α} {g:α→α} {i j:Nat} (hij:j<i) (hi:i≤l.length):(l.take i++(l.drop i).map g).getD j d=l.getD j d:=by rw [Lz,List.getElem?_append_left (by simp;omega),List.getElem?_take_of_lt hij,← Lz]
theorem yj {α:Type} (d:α) {l:List α} {i j:Nat} {x:α} (h:i≠j):(l.set i x).getD j d=l.getD j d:=by rw [Lz,List.getElem?_set_ne h,← Lz]
theorem IV {x:au} {by_:Linear} {i m:Nat} {rows:List Rw} {bs:List Bind} (hx:fg x=true) (hk:Dw by_) (hi:i≤rows.length) (hl1:rows.length≤1000000) (hl2:bs.length≤2000000000)
 (hr:∀ r∈rows,kD rows.length r) (hb:∀ b∈bs,ax b.Dim=true) (nx:Int) :
 (oy x by_ i m (rows.map (·.q)) bs = .lim∧∃ r' b',aY x by_ (i:Int) nx rows bs=some (3,r',b')) ∨
 ∃ rows' bs',oy x by_ i m (rows.map (·.q)) bs = .ok m (rows'.map (·.q)) bs'∧aY x by_ (i:Int) nx rows bs=some (0,rows',bs')∧rows'.length=rows.length∧(∀ r∈rows',qF rows.length r) ∧
  ax by_=true∧∀ j,i≤j→j<rows.length→gN x by_ (rows.getD j br).q=true∧rows'.getD j br=p6 x by_ (rows.getD j br):=by
 rcases put_eq (nx:=nx) hx hk hi hl1 hl2 (fun r h=>(hr r h).v) hb with ⟨h1,h2⟩ | ⟨h1,h2⟩
 ·right;have h1':=h1;unfold pN at h1';simp only [LB] at h1';refine ⟨_,_,?_,h2,?_,fun r h => ?_,h1'.1,fun j hij hj=>⟨?_,C6 br hij hj⟩⟩
  ·unfold oy;rw [h1,cond_true,List.map_append,List.map_map,← List.map_take,← List.map_drop,List.map_map];rfl
  ·simp;omega
  ·rcases List.mem_append.1 h with h | h
   ·exact (hr r (List.mem_of_mem_take h)).to
   ·obtain ⟨r0,hr0,rfl⟩:=List.mem_map.1 h;have:=hr r0 (List.mem_of_mem_drop hr0);exact ⟨this.nd,this.sc,this.ks⟩
  ·have:=yc h1'.2.2 hij (by simpa using hj)
   rwa [lC] at this
 ·left;exact ⟨by unfold oy;rw [h1];rfl,h2⟩
inductive GR (i n:Nat) (rows rows':List Rw):Nat→Prop where
 | unit (t:aq) (ht:t∈(aR (cont (rows.getD i br).q) (rows.getD i br).q).Terms) (hu:t.C=1∨t.C = -1) (hb:ax (vz t (aR (cont (rows.getD i br).q) (rows.getD i br).q))=true)
  (hz:(rows'.getD i br).q=bD)
  (hj:∀ j,i<j→j<rows.length→gN t.Var (vz t (aR (cont (rows.getD i br).q) (rows.getD i br).q)) (rows.getD j br).q=true ∧
   rows'.getD j br=p6 t.Var (vz t (aR (cont (rows.getD i br).q) (rows.getD i br).q)) (gU t (cg (rows.getD i br)) (rows.getD j br))):GR i n rows rows' n
 | div (t:aq) (ht:t∈(aR (cont (rows.getD i br).q) (rows.getD i br).q).Terms) (hu:¬ (t.C=1∨t.C = -1)) (hm:∀ u∈(aR (cont (rows.getD i br).q) (rows.getD i br).q).Terms,t.C.natAbs≤u.C.natAbs)
  (hb:ax (om t n (aR (cont (rows.getD i br).q) (rows.getD i br).q))=true) (hn:n+1<1000000000)
  (hi:gN t.Var (om t n (aR (cont (rows.getD i br).q) (rows.getD i br).q)) (aR (cont (rows.getD i br).q) (rows.getD i br).q)=true∧rows'.getD i br=p6 t.Var (om t n (aR (cont (rows.getD i br).q) (rows.getD i br).q)) (cg (rows.getD i br)))
  (hj:∀ j,i<j→j<rows.length→gN t.Var (om t n (aR (cont (rows.getD i br).q) (rows.getD i br).q)) (rows.getD j br).q=true ∧
   rows'.getD j br=p6 t.Var (om t n (aR (cont (rows.getD i br).q) (rows.getD i br).q)) (rows.getD j br)):GR i n rows rows' (n+1)
theorem JP {i n:Nat} {rows:List Rw} {bs:List Bind} (hi:i<rows.length) (hl1:rows.length≤1000000) (hl2:bs.length≤2000000000) (h:gX n (rows.map (·.q)) bs) (hr:∀ r∈rows,qF rows.length r) :
 (gf i n (rows.map (·.q)) bs = .no∧sQ (rows.getD i br).q=true∧aV (i:Int) (n:Int) rows bs=some ((sP rows.length (rows.getD i br),9),(n:Int),rows,bs)) ∨
 (gf i n (rows.map (·.q)) bs = .lim∧∃ f n' r' b',aV (i:Int) (n:Int) rows bs=some ((f,3),n',r',b')) ∨
 ∃ m rows' bs',gf i n (rows.map (·.q)) bs = .ok m (rows'.map (·.q)) bs'∧aV (i:Int) (n:Int) rows bs=some ((ah.mk [] 0,0),(m:Int),rows',bs')∧rows'.length=rows.length∧(∀ r∈rows',qF rows.length r) ∧
  sQ (rows.getD i br).q=false∧GR i n rows rows' m:=by
 have hrw:∀ r∈rows,kD rows.length r:=fun r hm=>(hr r hm).to (h.qv r.q (List.mem_map.2 ⟨r,hm,rfl⟩)).1;have hri:=hrw _ (bb br hi);have hfi:rX n (rows.getD i br).q:=(h.qv _ (List.mem_map.2 ⟨_,bb br hi,rfl⟩)).2;rw [step_eq hi hl1 rfl hri];unfold gf;rw [lC];cases hno:sQ (rows.getD i br).q with
 | true=>exact .inl ⟨rfl,rfl,rfl⟩
 | false =>
  obtain ⟨hc,hd⟩:=jv hno;simp only [cond_false];obtain ⟨tm,tmin⟩:=vi hri.v hc;have hnv:=dn hri.v;have hbd:∀ b∈bs,ax b.Dim=true:=fun b hb=>(h.bv b hb).1;have hrows1:∀ r∈rows.set i (cg (rows.getD i br)),kD rows.length r:=fun r hm=>by
   rcases List.mem_or_eq_of_mem_set hm with hm | rfl
   ·exact hrw r hm
   ·exact uG hri hc
  have hq1:(rows.map (·.q)).set i (aR (cont (rows.getD i br).q) (rows.getD i br).q)=(rows.set i (cg (rows.getD i br))).map (·.q):=by rw [xz,jk]
  have hat:(rows.set i (cg (rows.getD i br))).getD i br=cg (rows.getD i br):=gn hi;have hatj:∀ j,i<j→(rows.set i (cg (rows.getD i br))).getD j br=rows.getD j br:=fun j hj=>yj br (by omega);have hi1:i<(rows.set i (cg (rows.getD i br))).length:=by simpa using hi
  have hl:(rows.set i (cg (rows.getD i br))).length=rows.length:=by simp
  generalize hT:uf (aR (cont (rows.getD i br).q) (rows.getD i br).q).Terms=t at tm tmin ⊢;obtain ⟨tb,tn⟩:=cz hnv t tm;cases hu:t.C==1||t.C == -1 with
  | true =>
   have ht:t.C=1∨t.C = -1:=by simp only [Bool.or_eq_true,beq_iff_eq] at hu;exact hu
   simp only [cond_true];rw [unit_eq hi1 (by rw [hl];exact hl1) (fun r hm=>by rw [hl];exact hrows1 r hm) ht,hat,jk,hq1];have hmq:((rows.set i (cg (rows.getD i br))).take (i+1)++((rows.set i (cg (rows.getD i br))).drop (i+1)).map (gU t (cg (rows.getD i br)))).map (·.q)=(rows.set i (cg (rows.getD i br))).map (·.q):=by rw [List.map_append,List.map_map];have:((fun x:Rw=>x.q) ∘ gU t (cg (rows.getD i br)))=fun x=>x.q:=funext fun r=>Is t (cg (rows.getD i br)) r;rw [this,← List.map_append,List.take_append_drop]
   have hlq:((rows.set i (cg (rows.getD i br))).take (i+1)++((rows.set i (cg (rows.getD i br))).drop (i+1)).map (gU t (cg (rows.getD i br)))).length=rows.length:=by simp;omega
   have hrq:∀ r∈(rows.set i (cg (rows.getD i br))).take (i+1)++((rows.set i (cg (rows.getD i br))).drop (i+1)).map (gU t (cg (rows.getD i br))),kD rows.length r:=fun r hm=>by
    rcases List.mem_append.1 hm with hm | hm
    ·exact hrows1 r (List.mem_of_mem_take hm)
    ·obtain ⟨r0,hr0,rfl⟩:=List.mem_map.1 hm;exact I8 (uG hri hc) (hrows1 r0 (List.mem_of_mem_drop hr0))
   have hpu:=IV (i:=i) (m:=n) (nx:=(n:Int)) (bs:=bs) (rows:=(rows.set i (cg (rows.getD i br))).take (i+1)++((rows.set i (cg (rows.getD i br))).drop (i+1)).map (gU t (cg (rows.getD i br)))) tn (CN (t:=t) hnv) (by omega) (by omega) hl2 (fun r hm=>by rw [hlq];exact hrq r hm) hbd;rw [hmq,hlq] at hpu;rcases hpu with ⟨a,r',b',e⟩ | ⟨rows',bs',a,e,l,o,vb,at_⟩
   ·right;left;exact ⟨a,_,_,_,_,by rw [e];rfl⟩
   ·right;right;refine ⟨n,rows',bs',a,by rw [e];rfl,l,o,trivial,.unit t tm ht vb ?_ fun j hij hj => ?_⟩
    ·obtain ⟨c1,c2⟩:=at_ i (Nat.le_refl _) hi;rw [HB br (by omega) (by omega),hat] at c1 c2;rw [c2];show pb t.Var _ (cg (rows.getD i br)).q=bD;rw [jk] at c1 ⊢;exact Ap hnv tm ht vb c1
    ·obtain ⟨c1,c2⟩:=at_ j (by omega) hj;rw [C6 br (by omega) (by omega),hatj j hij] at c1 c2;rw [Is] at c1;exact ⟨c1,c2⟩
  | false =>
   have ht:¬ (t.C=1∨t.C = -1):=by
    intro e;have:(t.C==1||t.C == -1)=true:=by simpa only [Bool.or_eq_true,beq_iff_eq] using e
    rw [this] at hu;cases hu
   simp only [cond_false];have ht0:t.C≠0:=de hnv t tm;rw [xN hi1 (by rw [hat,jk];exact hnv) h.n1 h.n2 ht0 tb (by rw [hat,jk];exact tS h.n1 h.n2 (gu hfi)),hat,jk,hq1];cases hlim:decide (n+1≥1000000000) with
   | true=>exact .inr (.inl ⟨rfl,_,_,_,_,rfl⟩)
   | false =>
    simp only [cond_false];have hpu:=IV (i:=i) (m:=n+1) (nx:=((n+1:Nat):Int)) (bs:=bs) (rows:=rows.set i (cg (rows.getD i br))) tn (CM (t:=t) h.n1 h.n2 hnv) (by omega) (by omega) hl2 (fun r hm=>by rw [hl];exact hrows1 r hm) hbd;rw [hl] at hpu;rcases hpu with ⟨a,r',b',e⟩ | ⟨rows',bs',a,e,l,o,vb,at_⟩
    ·right;left;exact ⟨a,_,_,_,_,by rw [e];rfl⟩
    ·right;right;refine ⟨n+1,rows',bs',a,by rw [e];rfl,l,o,trivial,.div t tm ht tmin vb (by have:=LD hlim;omega) ?_ fun j hij hj => ?_⟩
     ·obtain ⟨c1,c2⟩:=at_ i (Nat.le_refl _) hi;rw [hat,jk] at c1;rw [hat] at c2;exact ⟨c1,c2⟩
     ·obtain ⟨c1,c2⟩:=at_ j (by omega) hj;rw [hatj j hij] at c1 c2;exact ⟨c1,c2⟩
structure iM (a b:Rw):Prop where
 m:a.mults=b.mults
 s:a.scale=b.scale
 l:a.lost=b.lost
theorem iM.refl (a:Rw):iM a a:=⟨rfl,rfl,rfl⟩
theorem iM.trans {a b c:Rw} (h:iM a b) (g:iM b c):iM a c:=⟨h.m.trans g.m,h.s.trans g.s,h.l.trans g.l⟩
theorem rp (x:au) (by_:Linear) (r:Rw):iM (p6 x by_ r) r:=⟨rfl,rfl,rfl⟩
theorem B5 {r r' p p':Rw} (h:iM r r') (g:iM p p') (k:Int):iM (nO r p k) (nO r' p' k):=by obtain ⟨q,m,s,l⟩:=r;obtain ⟨q',m',s',l'⟩:=r';obtain ⟨u,v,w,x⟩:=p;obtain ⟨u',v',w',x'⟩:=p';obtain ⟨h1,h2,h3⟩:=h;obtain ⟨g1,g2,g3⟩:=g;simp only at h1 h2 h3 g1 g2 g3;subst h1;subst h2;subst h3;subst g1;subst g2;subst g3;unfold nO;simp only;cases l||(x || !sy (jM s w).1 (jM s w).2)<;>exact ⟨rfl,rfl,rfl⟩
def gK (k s:Int) (p r:Rw):Rw:=bif k==0 then r else nO r p (k*s)
theorem Io {r r' p p':Rw} (h:iM r r') (g:iM p p') (k s:Int):iM (gK k s p r) (gK k s p' r'):=by
 unfold gK;cases k==0 with
 | true=>exact h
 | false=>exact B5 h g _
theorem En {r r1:Rw} (h:iM r1 (cg r)) (hc:cont r1.q=1):iM (cg r1) (cg r):=by
 obtain ⟨h1,h2,h3⟩:=h;have key:∀ s:Int,Bd s 1099511627776→mulR s ((1:Nat):Int)=(s,0):=fun s hs=>by rw [rE (hs.le (by omega)) ⟨by omega,by omega⟩ (by rw [show ((1:Nat):Int)=1 from rfl,Int.mul_one];exact hs.le (by omega))];simp
 have hs:Bd (cg r).scale 1099511627776:=by
  unfold cg;cases hm:sy (mulR r.scale (cont r.q)).1 (mulR r.scale (cont r.q)).2 with
  | true =>
   unfold sy at hm;simp only [LB,decide_eq_true_eq] at hm;exact ⟨by simp only [cond_true];omega,by simp only [cond_true];omega⟩
  | false=>exact ⟨by simp,by simp⟩
 rw [← h2] at hs;have e:cg r1=ae.mk (aR (cont r1.q) r1.q) r1.mults r1.scale r1.lost:=by unfold cg;rw [hc,key _ hs,rj hs];rfl
 rw [e];exact ⟨h1,h2,h3⟩
abbrev gg (rows:List Rw) (i:Nat):Linear:=aR (cont (rows.getD i br).q) (rows.getD i br).q
def oT (rows:List Rw) (j:Nat):au→Int:=cf (rows.getD j br).q
def FK (i:Nat) (rows rows':List Rw):Prop:=∃ l p,xu l p (cf (gg rows i)) ∧
 (∀ j,i<j→j<rows.length→(∀ u,oT rows' j u=nF l p (cf (gg rows i)) (oT rows j) u) ∧
  iM (rows'.getD j br) (gK (jD l p (cf (gg rows i)) (oT rows j)) (jD l p (cf (gg rows i)) (cf (gg rows i))) (cg (rows.getD i br)) (rows.getD j br)) ∧
  Bd (jD l p (cf (gg rows i)) (oT rows j)) 1000000) ∧
 ∀ f,∃ f',∀ j,i<j→j<rows.length→dx f' (rows'.getD j br).q=dx f (rows.getD j br).q-jD l p (cf (gg rows i)) (oT rows j)*jD l p (cf (gg rows i)) (cf (gg rows i))*dx f (gg rows i)
theorem Fj {i n m:Nat} {rows rows':List Rw} (hv:∀ j,j<rows.length→ax (rows.getD j br).q=true) (hi:i<rows.length) {t:aq} (ht:t∈(gg rows i).Terms) (hu:t.C=1∨t.C = -1) (hb:ax (vz t (gg rows i))=true)
 (hj:∀ j,i<j→j<rows.length→gN t.Var (vz t (gg rows i)) (rows.getD j br).q=true∧rows'.getD j br=p6 t.Var (vz t (gg rows i)) (gU t (cg (rows.getD i br)) (rows.getD j br))):FK i rows rows':=by
 have hnv:ax (gg rows i)=true:=dn (hv i hi);have hct:cf (gg rows i) t.Var=t.C:=tF hnv ht;have hq:∀ j,i<j→j<rows.length→(rows'.getD j br).q=pb t.Var (vz t (gg rows i)) (rows.getD j br).q:=fun j h1 h2=>by rw [(hj j h1 h2).2];show pb t.Var _ (gU t _ _).q=_;rw [Is]
 refine ⟨[],t.Var,?_,fun j h1 h2=>⟨fun u => ?_,?_,vS (hv j h2) t.Var⟩,fun f=>⟨f,fun j h1 h2 => ?_⟩⟩
 ·show cf (gg rows i) t.Var=1∨cf (gg rows i) t.Var = -1;rw [hct];exact hu
 ·show cf (rows'.getD j br).q u=_;rw [hq j h1 h2];exact IC hnv ht hu hb (hv j h2) (hj j h1 h2).1 u
 ·rw [(hj j h1 h2).2];refine (rp _ _ _).trans ?_;unfold gU gK;simp only [jD,oT,hct];exact iM.refl _
 ·rw [hq j h1 h2,(fL hb (hv j h2) (hj j h1 h2).1).2.1 f,sk f hnv ht];simp only [jD,oT,hct];rcases hu with e | e<;>rw [e]<;>grind
theorem Dy {i n:Nat} {rows rows1 rows':List Rw} {bs:List Bind} (h:gX n (rows.map (·.q)) bs) (hi:i<rows.length) (hl:rows1.length=rows.length) (hno:sQ (rows.getD i br).q=false) {t:aq} (ht:t∈(gg rows i).Terms) (hu:¬ (t.C=1∨t.C = -1)) (hm:∀ u∈(gg rows i).Terms,t.C.natAbs≤u.C.natAbs)
 (hb:ax (om t n (gg rows i))=true) (hiq:gN t.Var (om t n (gg rows i)) (gg rows i)=true∧rows1.getD i br=p6 t.Var (om t n (gg rows i)) (cg (rows.getD i br)))
 (hj:∀ j,i<j→j<rows.length→gN t.Var (om t n (gg rows i)) (rows.getD j br).q=true∧rows1.getD j br=p6 t.Var (om t n (gg rows i)) (rows.getD j br)) :
 cont (rows1.getD i br).q=1∧(FK i rows1 rows'→FK i rows rows'):=by
 have hq:∀ j,j<rows.length→ax (rows.getD j br).q=true∧rX n (rows.getD j br).q:=fun j hj=>h.qv _ (List.mem_map.2 ⟨_,bb br hj,rfl⟩);have hnv:ax (gg rows i)=true:=dn (hq i hi).1;have hnf:rX n (gg rows i):=gu (hq i hi).2;have hc0:=(jv hno).1;have hct:cf (gg rows i) t.Var=t.C:=tF hnv ht;have h0:=de hnv t ht;have hfrz:=xt h.n1 h.n2 hnf;have hpr:Prim (cf (gg rows i)):=sM (hq i hi).1 hc0;have e1:(rows1.getD i br).q=pb t.Var (om t n (gg rows i)) (gg rows i):=by rw [hiq.2];show pb t.Var _ (cg (rows.getD i br)).q=_;rw [jk]
 have ei:cf (rows1.getD i br).q=fU (cf (gg rows i)) t.Var (cO n) (cf (gg rows i)):=by funext v;rw [e1];exact Gv h.n1 h.n2 hnv hnf ht hb hnv hnf hiq.1 v
 have ej:∀ j,i<j→j<rows.length→oT rows1 j=fU (cf (gg rows i)) t.Var (cO n) (oT rows j):=fun j h1 h2=>by funext v;show cf (rows1.getD j br).q v=_;rw [(hj j h1 h2).2];exact Gv h.n1 h.n2 hnv hnf ht hb (hq j h2).1 (hq j h2).2 (hj j h1 h2).1 v
 have hone:cont (rows1.getD i br).q=1:=EU (by rw [ei];exact jV hpr hfrz);refine ⟨hone,fun hR => ?_⟩;obtain ⟨l,p,r1,r2,r3⟩:=hR;have en:gg rows1 i=(rows1.getD i br).q:=Em hone;have ec:cf (gg rows1 i)=fU (cf (gg rows i)) t.Var (cO n) (cf (gg rows i)):=by rw [en];exact ei
 rw [ec] at r1 r2 r3;have hsi:iM (cg (rows1.getD i br)) (cg (rows.getD i br)):=by refine En ?_ hone;rw [hiq.2];exact rp _ _ _
 refine ⟨(t.Var,cO n)::l,p,⟨⟨?_,fun u hu0 => ?_,hfrz⟩,r1⟩,fun j h1 h2 => ?_,fun f => ?_⟩
 ·show 2≤(cf (gg rows i) t.Var).natAbs;rw [hct];omega
 ·show (cf (gg rows i) t.Var).natAbs≤_;rw [hct];obtain ⟨x,hx,ex,ec⟩:=qC (show mF u (gg rows i).Terms≠0 from hu0);have:cf (gg rows i) u=x.C:=ec.symm;rw [this];exact hm x hx
 ·obtain ⟨a,b,c⟩:=r2 j h1 (by omega);rw [ej j h1 h2] at a b c;refine ⟨a,b.trans ?_,c⟩;refine Io ?_ hsi _ _;rw [(hj j h1 h2).2];exact rp _ _ _
 ·have hnd:=Hd (t:=t) h.n1 h.n2 hnv hnf;have hb1:=BG (t:=t) h.n1 h.n2 hnv hnf;have hne:t.Var≠cO n:=tS h.n1 h.n2 hnf t ht;obtain ⟨f1,hf1⟩:∃ f1,f1=upd f (cO n) (f (cO n)+(f t.Var-dx f (om t n (gg rows i)))):=⟨_,rfl⟩;have k1:dx f1 (om t n (gg rows i))=f1 t.Var:=by rw [hf1,kH _ _ _ hnd,hb1,bA hne];omega
  have k2:∀ r,ax r=true→rX n r→gN t.Var (om t n (gg rows i)) r=true→dx f1 (pb t.Var (om t n (gg rows i)) r)=dx f r:=fun r hr hf hcb=>by rw [(fL hb hr hcb).2.1 f1,k1,Int.sub_self,Int.mul_zero,Int.add_zero,hf1,kH _ _ _ (dp hr),xt h.n1 h.n2 hf,Int.zero_mul,Int.add_zero]
  obtain ⟨f',hf'⟩:=r3 f1;refine ⟨f',fun j h1 h2 => ?_⟩;have h5:=hf' j h1 (by omega);rw [ej j h1 h2] at h5;rw [h5,en,e1,k2 _ hnv hnf hiq.1,(hj j h1 h2).2];have:dx f1 (p6 t.Var (om t n (gg rows i)) (rows.getD j br)).q=dx f (rows.getD j br).q:=k2 _ (hq j h2).1 (hq j h2).2 (hj j h1 h2).1;rw [this];rfl
theorem IH:∀ (N i n c:Nat) (rows:List Rw) (bs:List Bind),i<rows.length→rows.length≤6000→gX n (rows.map (·.q)) bs→(∀ r∈rows,qF rows.length r)→c≤6000→(bs.length≤n+c∨(dG ((rows.map (·.q)).getD i bD)=true∧bs.length≤n+c+1)) →
 (∀ (m:Nat) (qs':List Linear) (bs':List Bind),jz N i n (rows.map (·.q)) bs=some (.ok m qs' bs')→∃ rows',rows'.map (·.q)=qs'∧rows'.length=rows.length∧(∀ r∈rows',qF rows.length r)∧kz (xd i) N (rows,bs,(n:Int))=some (.brk (rows',bs',(m:Int))) ∧
  ((dG (rows.getD i br).q=true∧rows'=rows)∨(sQ (rows.getD i br).q=false∧FK i rows rows'))) ∧
 (jz N i n (rows.map (·.q)) bs=some .no→dG (rows.getD i br).q=false∧sQ (rows.getD i br).q=true∧kz (xd i) N (rows,bs,(n:Int))=some (.ret (.ret ([],0,sP rows.length (rows.getD i br),9))))
 | 0,i,n,c,rows,bs,hi,hl,h,hr,hc,hb=>by simp [jz]
 | N+1,i,n,c,rows,bs,hi,hl,h,hr,hc,hb=>by
  have hn:=h.n2;simp only [jz,kz,xd];rw [aG ⟨by omega,by omega⟩,Int.toNat_natCast,aG hi,oX,iW,lC];simp only [Option.bind_some];cases hz:dG (rows.getD i br).q with
  | true =>
   refine ⟨fun m qs' bs' e => ?_,fun e=>(by injection e with e;cases e)⟩;injection e with e
   injection e with e1 e2 e3
   subst e1;subst e3;exact ⟨rows,e2,rfl,hr,rfl,.inl ⟨rfl,rfl⟩⟩
  | false =>
   simp only [cond_false];have hb':bs.length≤n+c:=hb.resolve_right fun h2=>by rw [lC,hz] at h2;cases h2.1
   have hv:∀ j,j<rows.length→ax (rows.getD j br).q=true:=fun j hj=>(h.qv _ (List.mem_map.2 ⟨_,bb br hj,rfl⟩)).1;rcases JP hi (by omega) (by omega) h hr with ⟨e1,e0,e2⟩ | ⟨e1,f,n',r',b',e2⟩ | ⟨m1,rows1,bs1,e1,e2,l1,o1,hno,hS⟩
   ·rw [e1,e2];exact ⟨fun m qs' bs' e=>(by injection e with e;cases e),fun _=>⟨trivial,e0,rfl⟩⟩
   ·rw [e1,e2];exact ⟨fun m qs' bs' e=>(by injection e with e;cases e),fun e=>(by injection e with e;cases e)⟩
   ·rw [e1,e2];simp only [Option.bind_some];have hq:i<(rows.map (·.q)).length:=by simpa using hi
    obtain ⟨a1,a2,a3,a4⟩:=n5 h hq e1;have hb1:bs1.length≤m1+c∨(dG ((rows1.map (·.q)).getD i bD)=true∧bs1.length≤m1+c+1):=by
     rcases a4 with ⟨e1,a4⟩ | ⟨e1,_⟩
     ·exact .inr ⟨jF.2 a4,by omega⟩
     ·exact .inl (by omega)
    have ih:=IH N i m1 c rows1 bs1 (by omega) (by omega) a1 (fun r hm=>by rw [l1];exact o1 r hm) hc hb1;rw [l1] at ih;obtain ⟨ih1,ih2⟩:=ih;cases hS with
    | unit t ht hu hbv hz1 hj =>
     refine ⟨fun m qs' bs' e => ?_,fun e => ?_⟩
     ·obtain ⟨rows',b1,b2,b3,b4,b5⟩:=ih1 m qs' bs' e;refine ⟨rows',b1,b2,b3,b4,.inr ⟨hno,?_⟩⟩;rcases b5 with ⟨_,rfl⟩ | ⟨c1,c2⟩
      ·exact Fj (n:=n) (m:=n) hv hi ht hu hbv hj
      ·exfalso;rw [hz1] at c1;exact absurd c1 (by decide)
     ·exfalso;have:=(ih2 e).1;rw [hz1] at this;exact absurd this (by decide)
    | div t ht hu hm hbv hn1 hiq hj =>
     obtain ⟨k1,k2⟩:=Dy (rows':=rows1) h hi l1 hno ht hu hm hbv hiq hj;refine ⟨fun m qs' bs' e => ?_,fun e => ?_⟩
     ·obtain ⟨rows',b1,b2,b3,b4,b5⟩:=ih1 m qs' bs' e;refine ⟨rows',b1,b2,b3,b4,.inr ⟨hno,?_⟩⟩;rcases b5 with ⟨c1,_⟩ | ⟨c1,c2⟩
      ·exfalso;rw [jF] at c1;rw [c1] at k1;exact absurd k1 (by decide)
      ·exact (Dy h hi l1 hno ht hu hm hbv hiq hj).2 c2
     ·exfalso;have:=(ih2 e).2.1;unfold sQ at this;rw [k1] at this;simp at this
def SF (l:List Linear) (F:Int→Int) (f:au→Int):Int:=gz (fun y=>F (y:Int)*dx f (l.getD y bD)) l.length
theorem AZ {a b:Int} {x y:Nat→Int}:∀ n,gz (fun k=>a*x k-b*y k) n=a*gz x n-b*gz y n
 | 0=>by simp [gz]
 | n+1=>by simp only [gz,AZ n];grind
theorem o4 {x y:Nat→Int}:∀ {n:Nat},(∀ k,k<n→x k=y k)→gz x n=gz y n
 | 0,_=>rfl
 | n+1,h=>by have ih:=o4 (n:=n) fun k hk=>h k (by omega);simp only [gz];rw [ih,h n (by omega)]
theorem CG (l:List Linear) (a b:Int) (F K:Int→Int) (f:au→Int):SF l (fun y=>a*F y-b*K y) f=a*SF l F f-b*SF l K f:=by unfold SF;rw [← AZ];exact o4 fun k _=>by grind
theorem AU {x:Nat→Int} {i:Nat}:∀ {n:Nat},(∀ k,k<n→k≠i→x k=0)→gz x n=if i<n then x i else 0
 | 0,_=>by simp [gz]
 | n+1,h=>by
  have ih:=AU (n:=n) fun k hk=>h k (by omega);simp only [gz];rw [ih];by_cases e:i<n
  ·rw [if_pos e,if_pos (by omega),h n (by omega) (by omega)];omega
  ·rw [if_neg e];by_cases e2:n=i
   ·rw [e2,if_pos (by omega)];omega
   ·rw [h n (by omega) e2,if_neg (by omega)];omega
structure Bk (l:List Linear) (i:Nat) (G:Int) (F:Nat→Int→Int) (rows:List Rw):Prop where
 g1:1≤G
 mo:∀ j,i≤j→j<rows.length→mL G (F j) (rows.getD j br)
 sem:∀ f,∃ f',∀ j,i≤j→j<rows.length→G*dx f' (rows.getD j br).q=SF l (F j) f
theorem Bk.next {l:List Linear} {i:Nat} {G:Int} {F:Nat→Int→Int} {rows:List Rw} (h:Bk l i G F rows):Bk l (i+1) G F rows :=
 ⟨h.g1,fun j hj hl=>h.mo j (by omega) hl,fun f=>(h.sem f).imp fun f' h' j hj hl=>h' j (by omega) hl⟩
theorem mL.congr {G:Int} {F K:Int→Int} {r:Rw} (h:mL G F r) (e:∀ y,F y=K y):mL G K r:=⟨h.lost,h.pos,h.dvd,h.nd,fun y=>by rw [← e];exact h.eq y⟩
theorem zr {l:List Linear} {F K:Int→Int} (e:∀ y,F y=K y) (f:au→Int):SF l F f=SF l K f:=by rw [show F=K from funext e]
theorem Bk.congr {l:List Linear} {i:Nat} {G:Int} {F K:Nat→Int→Int} {rows:List Rw} (h:Bk l i G F rows) (e:∀ j,i≤j→j<rows.length→∀ y,F j y=K j y):Bk l i G K rows :=
 ⟨h.g1,fun j hj hl=>(h.mo j hj hl).congr (e j hj hl),fun f=>(h.sem f).imp fun f' h' j hj hl=>(h' j hj hl).trans (zr (e j hj hl) f)⟩
theorem mL.same {G:Int} {F:Int→Int} {r r':Rw} (h:mL G F r) (e:iM r' r):mL G F r':=⟨by rw [e.l];exact h.lost,by rw [e.s];exact h.pos,by rw [e.s];exact h.dvd,by rw [e.m];exact h.nd,fun y=>by rw [e.m,e.s];exact h.eq y⟩
theorem mL.norm {G:Int} {F:Int→Int} {r:Rw} (h:mL G F r) (hG:1≤G) (hc:cont r.q≠0) (hN:G*(cont r.q:Int)≤1099511627776):mL (G*(cont r.q:Int)) F (cg r):=by
 have hp:=h.pos;have hs:=Int.le_of_dvd (by omega) h.dvd;have hg:(1:Int)≤(cont r.q:Int):=by omega
 unfold cg;generalize aR (cont r.q) r.q=q;generalize (cont r.q:Int)=g at *;have h1:r.scale*g≤G*g:=Int.mul_le_mul_of_nonneg_right hs (by omega);have h2:1≤r.scale*g:=by have:=Int.mul_le_mul_of_nonneg_right hp (show 0≤g by omega);omega
 have h3:r.scale≤r.scale*g:=by have:=Int.mul_le_mul_of_nonneg_left hg (show 0≤r.scale by omega);omega
 have h4:g≤r.scale*g:=by have:=Int.mul_le_mul_of_nonneg_right hp (show 0≤g by omega);omega
 rw [rE (a:=r.scale) (b:=g) ⟨by omega,by omega⟩ ⟨by omega,by omega⟩ ⟨by omega,by omega⟩,rj ⟨by omega,by omega⟩];exact ⟨h.lost,h2,Int.mul_dvd_mul h.dvd (Int.dvd_refl g),h.nd,fun y=>by
  show G*g*ba 0 y r.mults=r.scale*g*F y;have:=h.eq y
  grind⟩
theorem CV {l:List (au×au)} {p:au} {c:au→Int} (hp:Prim c) (ho:xu l p c):jD l p c c=1∨jD l p c c = -1:=by
 cases l with
 | nil=>exact ho
 | cons a l =>
  have h0:=ho;obtain ⟨⟨h1,h2,h3⟩,h4⟩:=ho;rcases Int.lt_or_le 0 (c a.1) with h | h
  ·left;exact vu l p _ _ _ (rP a.2 (by omega)) (jV hp h3) h4
  ·right;have hn:=rM h0;have e1:=vu l p _ _ _ (rP (c:=fun u => -c u) (t:=a.1) a.2 (show 2 ≤ -c a.1 by omega)) (jV (rN hp) (show -c a.2=0 by omega)) hn.2;have e2:jD (a::l) p (fun u => -c u) (fun u => -c u)=1:=e1;rw [yR h0] at e2;have e3:=uu (-1) 0 (a::l) p c c c;simp only [Int.neg_mul,Int.one_mul,Int.zero_mul,Int.add_zero] at e3;omega
theorem Bk.step {l:List Linear} {i:Nat} {G:Int} {F:Nat→Int→Int} {rows rows':List Rw} (h:Bk l i G F rows) (hi:i<rows.length) (hl:rows'.length=rows.length) (hv:∀ j,j<rows.length→ax (rows.getD j br).q=true) (hno:sQ (rows.getD i br).q=false)
 {L:List (au×au)} {p:au} (ho:xu L p (cf (gg rows i)))
 (h2:∀ j,i<j→j<rows.length→iM (rows'.getD j br) (gK (jD L p (cf (gg rows i)) (oT rows j)) (jD L p (cf (gg rows i)) (cf (gg rows i))) (cg (rows.getD i br)) (rows.getD j br))∧Bd (jD L p (cf (gg rows i)) (oT rows j)) 1000000)
 (h3:∀ f,∃ f',∀ j,i<j→j<rows.length→dx f' (rows'.getD j br).q=dx f (rows.getD j br).q-jD L p (cf (gg rows i)) (oT rows j)*jD L p (cf (gg rows i)) (cf (gg rows i))*dx f (gg rows i))
 (hN:G*(cont (rows.getD i br).q:Int)≤1099511627776) (b0:∀ y,Bd (F i y) 1099511627776) (b1:∀ j,i<j→j<rows.length→∀ y,Bd ((cont (rows.getD i br).q:Int)*F j y) 1099511627776)
 (b2:∀ j,i<j→j<rows.length→∀ y,Bd ((cont (rows.getD i br).q:Int)*F j y-jD L p (cf (gg rows i)) (oT rows j)*jD L p (cf (gg rows i)) (cf (gg rows i))*F i y) 1099511627776) :
 Bk l (i+1) (G*(cont (rows.getD i br).q:Int)) (fun j y=>(cont (rows.getD i br).q:Int)*F j y-jD L p (cf (gg rows i)) (oT rows j)*jD L p (cf (gg rows i)) (cf (gg rows i))*F i y) rows':=by
 obtain ⟨hc,hd⟩:=jv hno;have hs:=CV (sM (hv i hi) hc) ho;have hp:=(h.mo i (Nat.le_refl _) hi).norm h.g1 hc hN;have hln:=fun f=>wI f hd;have hg:(1:Int)≤(cont (rows.getD i br).q:Int):=by omega
 have hG:=h.g1;refine ⟨?_,fun j hj hjl => ?_,fun f => ?_⟩
 ·have:=Int.mul_le_mul_of_nonneg_left hg (show 0≤G by omega);omega
 ·rw [hl] at hjl;obtain ⟨e,hk⟩:=h2 j (by omega) hjl;refine mL.same ?_ e;have hr:=h.mo j (by omega) hjl;unfold gK;cases h0:jD L p (cf (gg rows i)) (oT rows j)==0 with
  | true =>
   have h0:jD L p (cf (gg rows i)) (oT rows j)=0:=by simpa using h0
   rw [h0];simp only [cond_true];refine ⟨hr.lost,hr.pos,Int.dvd_trans hr.dvd (Int.dvd_mul_right _ _),hr.nd,fun y => ?_⟩;have:=hr.eq y;rw [Int.zero_mul,Int.zero_mul,Int.sub_zero]
   grind
  | false =>
   simp only [cond_false];refine Fc hr hp hG hg hN ?_ (b1 j (by omega) hjl) b0 (b2 j (by omega) hjl);rcases hs with e | e<;>rw [e]
   ·exact hk.of_eq (by omega)
   ·exact hk.neg.of_eq (by omega)
 ·obtain ⟨f',hf'⟩:=h.sem f;obtain ⟨f2,hf2⟩:=h3 f';refine ⟨f2,fun j hj hjl => ?_⟩;rw [hl] at hjl;rw [hf2 j (by omega) hjl,CG,← hf' j (by omega) hjl,← hf' i (Nat.le_refl _) hi,hln f'];generalize dx f' (rows.getD j br).q=x;generalize dx f' (gg rows i)=y
  grind
theorem Ew {q:Linear} (hv:ax q=true) (hc:cont q≠0):∃ u,(cont q:Int)≤(cf q u).natAbs∧1≤(cont q:Int):=by
 have hT:q.Terms≠[]:=fun e=>hc ((kQ hv).2 e);obtain ⟨t,ts,e⟩:=List.exists_cons_of_ne_nil hT;have hm:t∈q.Terms:=by rw [e];simp
 refine ⟨t.Var,?_,by omega⟩;rw [tF hv hm];have h1:=mu t hm;have h2:=de hv t hm;have h3:=Int.natAbs_dvd_natAbs.2 h1;rw [Int.natAbs_natCast] at h3;have:=Nat.le_of_dvd (by omega) h3;omega
def F0 (j:Nat) (y:Int):Int:=if y=(j:Int) then 1 else 0
def IE (A:Nat) (g:Int) (k:Nat→Int) (j:Nat) (y:Int):Int:=if y=(j:Int) then g else if y=(A:Int) then -k j else 0
structure Lx (l:List Linear) (i:Nat) (rows:List Rw):Prop where
 nom:Bk l i 1 F0 rows
 c:∀ j,i≤j→j<rows.length→∀ u,Bd (oT rows j u) 9
structure Lw (l:List Linear) (i:Nat) (rows:List Rw) (A:Nat) (g w:Int) (k:Nat→Int):Prop where
 nom:Bk l i g (IE A g k) rows
 ai:A<i
 g9:g≤9
 wb:w≤124
 kb:∀ j,i≤j→j<rows.length→Bd (k j) w
 c:∀ j,i≤j→j<rows.length→∀ u,Bd (oT rows j u) 306
 mw:∀ j j',i≤j→j<rows.length→i≤j'→j'<rows.length→∀ u v,Bd (w*mn (oT rows j) (oT rows j') u v) 930000
 m:∀ j j',i≤j→j<rows.length→i≤j'→j'<rows.length→∀ u v,Bd (mn (oT rows j) (oT rows j') u v) 17300
structure Ls (l:List Linear) (i:Nat) (rows:List Rw) (G:Int) (F:Nat→Int→Int):Prop where
 nom:Bk l i G F rows
 i2:2≤i
 g:G≤2754
 F:∀ j,i≤j→j<rows.length→∀ y,Bd (F j y) 930000
 c:∀ j,i≤j→j<rows.length→∀ u,Bd (oT rows j u) 34600
 gc:∀ j,i≤j→j<rows.length→∀ u,Bd (G*oT rows j u) 311400
structure Lu (l:List Linear) (i:Nat) (rows:List Rw) (G:Int) (F:Nat→Int→Int):Prop where
 nom:Bk l i G F rows
 i3:3≤i
 g:G≤311400
 F:∀ j,i≤j→j<rows.length→∀ y,Bd (F j y) 1099511627776
def Lv (l:List Linear) (i:Nat) (rows:List Rw):Prop:=Lx l i rows∨(∃ A g w k,Lw l i rows A g w k)∨(∃ G F,Ls l i rows G F)∨∃ G F,Lu l i rows G F
theorem Lv.next {l:List Linear} {i:Nat} {rows:List Rw} (h:Lv l i rows):Lv l (i+1) rows:=by
 rcases h with h | ⟨A,g,w,k,h⟩ | ⟨G,F,h⟩ | ⟨G,F,h⟩
 ·exact .inl ⟨h.nom.next,fun j hj=>h.c j (by omega)⟩
 ·exact .inr (.inl ⟨A,g,w,k,h.nom.next,by have:=h.ai;omega,h.g9,h.wb,fun j hj=>h.kb j (by omega),fun j hj=>h.c j (by omega),fun j j' hj hl hj'=>h.mw j j' (by omega) hl (by omega),fun j j' hj hl hj'=>h.m j j' (by omega) hl (by omega)⟩)
 ·exact .inr (.inr (.inl ⟨G,F,h.nom.next,by have:=h.i2;omega,h.g,fun j hj=>h.F j (by omega),fun j hj=>h.c j (by omega),fun j hj=>h.gc j (by omega)⟩))
 ·exact .inr (.inr (.inr ⟨G,F,h.nom.next,by have:=h.i3;omega,h.g,fun j hj=>h.F j (by omega)⟩))
theorem Lv.nom {l:List Linear} {i:Nat} {rows:List Rw} (h:Lv l i rows):∃ G F,Bk l i G F rows∧G≤311400∧∀ j,i≤j→j<rows.length→∀ y,Bd (F j y) 1099511627776:=by
 rcases h with h | ⟨A,g,w,k,h⟩ | ⟨G,F,h⟩ | ⟨G,F,h⟩
 ·refine ⟨1,F0,h.nom,by omega,fun j hj hl y => ?_⟩;unfold F0;split<;>exact ⟨by omega,by omega⟩
 ·refine ⟨g,_,h.nom,by have:=h.g9;omega,fun j hj hl y => ?_⟩;have h1:=h.kb j hj hl;have h2:=h.nom.g1;have h3:=h.g9;have h4:=h.wb;unfold Bd at h1;unfold IE;split
  ·exact ⟨by omega,by omega⟩
  ·split<;>exact ⟨by omega,by omega⟩
 ·exact ⟨G,F,h.nom,by have:=h.g;omega,fun j hj hl y=>(h.F j hj hl y).le (by omega)⟩
 ·exact ⟨G,F,h.nom,h.g,h.F⟩
theorem Bd.sign {x s b:Int} (h:Bd x b) (hs:s=1∨s = -1):Bd (x*s) b:=by
 rcases hs with e | e<;>rw [e]
 ·exact h.of_eq (by omega)
 ·exact h.neg.of_eq (by omega)
theorem Lv.step {l:List Linear} {i:Nat} {rows rows':List Rw} (h:Lv l i rows) (hi:i<rows.length) (hl:rows'.length=rows.length) (h4:rows.length≤4) (hi4:i+1<rows.length) (hv:∀ j,j<rows.length→ax (rows.getD j br).q=true)
 (hno:sQ (rows.getD i br).q=false) (hR:FK i rows rows'):Lv l (i+1) rows':=by
 obtain ⟨L,p,ho,hr,hs⟩:=hR;obtain ⟨hc,hd⟩:=jv hno;have hpr:Prim (cf (gg rows i)):=sM (hv i hi) hc;have hsg:=CV hpr ho;have hcn:∀ u,(cont (rows.getD i br).q:Int)*cf (gg rows i) u=oT rows i u:=fun u=>CZ _ u;obtain ⟨u0,hu0,hg1⟩:=Ew (hv i hi) hc;have hst:=fun {G:Int} {F:Nat→Int→Int} (hn:Bk l i G F rows)=>hn.step hi hl hv hno ho (fun j h1 h2=>⟨(hr j h1 h2).2.1,(hr j h1 h2).2.2⟩) hs;have hq':∀ j,i<j→j<rows.length→oT rows' j=nF L p (cf (gg rows i)) (oT rows j):=fun j h1 h2=>funext (hr j h1 h2).1;have hk6:∀ j,i<j→j<rows.length→Bd (jD L p (cf (gg rows i)) (oT rows j)) 1000000:=fun j h1 h2=>(hr j h1 h2).2.2;clear hr hs;have hcu:(cont (rows.getD i br).q:Int)≤(oT rows i u0).natAbs:=hu0;generalize (cont (rows.getD i br).q:Int)=g at *;generalize cf (gg rows i)=c at *;generalize hσe:jD L p c c=σ at *;rcases h with h | ⟨A,g1,w,k,h⟩ | ⟨G,F,h⟩ | ⟨G,F,h⟩
 ·
  have hc9:∀ u,Bd (c u) 9:=fun u=>Bd.undo hg1 ((h.c i (Nat.le_refl _) hi u).of_eq (hcn u));obtain ⟨w,⟨w1,w2⟩,pv,ot,mw,m⟩:=row_one hpr ho hc9;have hg9:g≤9:=by have:=(h.c i (Nat.le_refl _) hi u0).nat;omega
  have hd:∀ j,i<j→j<rows.length→∀ u,Bd (oT rows j u) 9:=fun j h1 h2=>h.c j (by omega) h2;have hkw:∀ j,i<j→j<rows.length→Bd (jD L p c (oT rows j)) w:=fun j h1 h2=>pv _ (hd j h1 h2);have hF0:∀ j y,Bd (F0 j y) 1:=fun j y=>by unfold F0;split<;>exact ⟨by omega,by omega⟩
  have hgg:Bd g 9:=⟨by omega,hg9⟩;have hn:=hst h.nom (by omega) (fun y=>(hF0 i y).le (by omega)) (fun j h1 h2 y=>(hgg.mul (hF0 j y)).le (by omega)) (fun j h1 h2 y=>((hgg.mul (hF0 j y)).sub (((hkw j h1 h2).sign hsg).mul (hF0 i y))).le (by omega));rw [Int.one_mul] at hn;refine .inr (.inl ⟨i,g,w,fun j=>jD L p c (oT rows j)*σ,hn.congr fun j h1 h2 y => ?_,by omega,hg9,w2,fun j h1 h2=>(hkw j (by omega) (by omega)).sign hsg,fun j h1 h2 => ?_,fun j j' h1 h2 h3 h4 => ?_,fun j j' h1 h2 h3 h4 => ?_⟩)
  ·unfold IE F0;by_cases e1:y=(j:Int)
   ·rw [if_pos e1,if_pos e1,if_neg (by omega),Int.mul_one,Int.mul_zero,Int.sub_zero]
   ·rw [if_neg e1,if_neg e1];by_cases e2:y=(i:Int)
    ·rw [if_pos e2,if_pos e2,Int.mul_one,Int.mul_zero];exact Int.zero_sub _
    ·rw [if_neg e2,if_neg e2,Int.mul_zero,Int.mul_zero];omega
  ·rw [hq' j (by omega) (by omega)];exact ot _ (hd j (by omega) (by omega))
  ·rw [hq' j (by omega) (by omega),hq' j' (by omega) (by omega)];exact mw _ _ (hd j (by omega) (by omega)) (hd j' (by omega) (by omega))
  ·rw [hq' j (by omega) (by omega),hq' j' (by omega) (by omega)];exact m _ _ (hd j (by omega) (by omega)) (hd j' (by omega) (by omega))
 ·
  have hai:=h.ai;have hw:=h.wb;have hg9:=h.g9;have hG1:=h.nom.g1;have hgc:(fun u=>g*c u)=oT rows i:=funext hcn;have hgi:g≤306:=by have:=(h.c i (Nat.le_refl _) hi u0).nat;omega
  have two:∀ j,i<j→j<rows.length→I1 L p c g (k i) (k j) (oT rows j):=fun j h1 h2 =>
   Il hpr ho hg1 hw (h.kb i (Nat.le_refl _) hi) (h.kb j (by omega) h2) (fun u=>(h.c i (Nat.le_refl _) hi u).of_eq (hcn u)) (h.c j (by omega) h2)
    (fun u v=>by rw [hgc];exact h.mw i j (Nat.le_refl _) hi (by omega) h2 u v) (fun u v=>by rw [hgc];exact h.m i j (Nat.le_refl _) hi (by omega) h2 u v)
  have hσ:σ*σ=1:=by rcases hsg with e | e<;>rw [e]<;>rfl
  have hgg:Bd g 306:=⟨by omega,hgi⟩;have hFb:∀ j,i≤j→j<rows.length→∀ y,Bd (IE A g1 k j y) 124:=fun j h1 h2 y=>by
   have h5:=h.kb j h1 h2;unfold Bd at h5;unfold IE;split
   ·exact ⟨by omega,by omega⟩
   ·split<;>exact ⟨by omega,by omega⟩
  have hF2:∀ j,i<j→j<rows.length→∀ y,Bd (g*IE A g1 k j y-jD L p c (oT rows j)*σ*IE A g1 k i y) 930000:=fun j h1 h2 y=>by
   obtain ⟨e,pv,ot⟩:=two j h1 h2;unfold IE;by_cases e1:y=(j:Int)
   ·rw [if_pos e1,if_neg (by omega),if_neg (by omega),Int.mul_zero,Int.sub_zero];exact (hgg.mul (show Bd g1 9 from ⟨by omega,by omega⟩)).le (by omega)
   ·rw [if_neg e1];by_cases e2:y=(i:Int)
    ·rw [if_neg (by omega),if_pos e2,Int.mul_zero];exact (((pv.sign hsg).mul (show Bd g1 9 from ⟨by omega,by omega⟩)).neg.of_eq (by omega)).le (by omega)
    ·rw [if_neg e2];by_cases e3:y=(A:Int)
     ·rw [if_pos e3,if_pos e3];refine (e.sign hsg).of_eq ?_;rw [hσe]
      grind
     ·rw [if_neg e3,if_neg e3,Int.mul_zero,Int.mul_zero];exact ⟨by omega,by omega⟩
  have hFg:∀ j,i<j→j<rows.length→∀ y,Bd (g*IE A g1 k j y) 1099511627776:=fun j h1 h2 y=>(hgg.mul (hFb j (by omega) h2 y)).le (by omega);have hGg:g1*g≤2754:=by have:=((show Bd g1 9 from ⟨by omega,by omega⟩).mul hgg).2;omega
  have hn:=hst h.nom (by omega) (fun y=>(hFb i (Nat.le_refl _) hi y).le (by omega)) hFg (fun j h1 h2 y=>(hF2 j h1 h2 y).le (by omega));refine .inr (.inr (.inl ⟨_,_,hn,by omega,hGg,fun j h1 h2=>hF2 j (by omega) (by omega),fun j h1 h2 u => ?_,fun j h1 h2 u => ?_⟩))
  ·rw [hq' j (by omega) (by omega)];exact Bd.undo hg1 ((two j (by omega) (by omega)).ot u)
  ·rw [hq' j (by omega) (by omega)];have:=(show Bd g1 9 from ⟨by omega,by omega⟩).mul ((two j (by omega) (by omega)).ot u);exact (this.of_eq (by rw [Int.mul_assoc])).le (by omega)
 ·
  have hG1:=h.nom.g1;have hG2:=h.g;have hi2:=h.i2;have hgi:g≤34600:=by have:=(h.c i (Nat.le_refl _) hi u0).nat;omega
  have hGg:G*g≤311400:=by
   have h5:=(h.gc i (Nat.le_refl _) hi u0).nat;rw [Int.natAbs_mul] at h5;have h6:=Int.mul_le_mul_of_nonneg_left hcu (show 0≤G by omega);have h7:(G.natAbs:Int)=G:=by omega
   rw [Int.natCast_mul,h7] at h5;omega
  have hgg:Bd g 34600:=⟨by omega,hgi⟩;have hF3:∀ j,i<j→j<rows.length→∀ y,Bd (g*F j y-jD L p c (oT rows j)*σ*F i y) 1099511627776:=fun j h1 h2 y =>
   ((hgg.mul (h.F j (by omega) h2 y)).sub (((hk6 j h1 h2).sign hsg).mul (h.F i (Nat.le_refl _) hi y))).le (by omega)
  have hn:=hst h.nom (by omega) (fun y=>(h.F i (Nat.le_refl _) hi y).le (by omega)) (fun j h1 h2 y=>(hgg.mul (h.F j (by omega) h2 y)).le (by omega)) hF3;exact .inr (.inr (.inr ⟨_,_,hn,by omega,hGg,fun j h1 h2=>hF3 j (by omega) (by omega)⟩))
 ·have:=h.i3;omega
def Ak (n m:Int):Bool:=bif m==0 then n==0 else n.tmod m==0
theorem jB (n m:Int):ck n m=some (Ak n m):=by
 unfold ck Ak;cases h:m==0 with
 | true=>rfl
 | false =>
  have:m≠0:=by simpa using h
  simp only [cond_false];rw [aG this]
theorem rS {n m:Int}:Ak n m=true↔m ∣ n:=by
 unfold Ak;cases h:m==0 with
 | true =>
  have h:m=0:=by simpa using h
  rw [h,cond_true,beq_iff_eq];exact Int.zero_dvd.symm
 | false =>
  rw [cond_false,beq_iff_eq];exact vR
def oR (v:au) (l:List Linear):List Int:=l.map fun q=>cf q v
def rH (l:List Linear):List Int:=l.map Linear.Const
def I0 (l:List Linear) (r:B4) (v:au):Bool:=(kK r.Mults (oR v l)).2==0&&Ak (kK r.Mults (oR v l)).1 r.Mod
def uW (l:List Linear) (r:B4):Bool:=l.all ax&&(decide (l.length≤6000)&&(decide (r.Mults.length=l.length)&&(decide (0≤r.Mod)&&(decide (r.Mod≤1099511627776)&&(r.Mults.all (fun n=>sy n 0)&&((dA l).all (I0 l r) &&
 ((kK r.Mults (rH l)).2==0 && !Ak (kK r.Mults (rH l)).1 r.Mod)))))))
theorem AG {α ρ:Type} (d:α) {body:Nat→List α→Option (gC (List α) (List α) ρ)} {r:ρ} (n:Nat) (p:Nat→Bool) (g:Nat→α) (h:∀ j s,j<n→s.length=n→body j s=some (bif p j then .go (s.set j (g j)) else .ret r)):∀ (k i:Nat) (s:List α),i+k=n→s.length=n→(∀ j,j<i→s.getD j d=g j) →
 eH body (fun _ s=>s) k i s=some (bif (List.range' i k).all p then .brk ((List.range n).map g) else .ret r)
 | 0,i,s,hk,hl,hs=>by
  simp only [eH,List.range'_zero,List.all_nil,cond_true];have:s=(List.range n).map g:=by refine List.ext_getElem (by simp [hl]) fun j h1 h2 => ?_;rw [← getD_at d h1,hs j (by omega)];simp
  rw [this]
 | k+1,i,s,hk,hl,hs=>by
  simp only [eH,h i s (by omega) hl,List.range'_succ,List.all_cons];cases hp:p i with
  | false=>rfl
  | true =>
   simp only [cond_true,Bool.true_and,Option.bind_some,zg];refine AG d n p g h k (i+1) _ (by omega) (by simpa using hl) fun j hj => ?_;by_cases e:j=i
   ·rw [e,gn (by omega)]
   ·rw [yj d (by omega)];exact hs j (by omega)
theorem Bo {α β:Type} (d:α) (g:α→β) (l:List α):((List.range l.length).map fun j=>g (l.getD j d))=l.map g:=by refine List.ext_getElem (by simp) fun j h1 h2 => ?_;simp only [List.getElem_map,List.getElem_range];rw [getD_at d (by simpa using h2)]
theorem Aj {l:List Linear} (hk:∀ q∈l,Dw q) (r:B4):cM l r=some (uW l r):=by
 unfold cM uW;rw [dW hk];simp only [Option.bind_some];cases hv:l.all ax with
 | false=>rfl
 | true =>
  have hv':=LN.1 hv;simp only [cond_true,Bool.true_and];by_cases h1:l.length≤6000
  ·rw [LG (show ¬ (l.length:Int)>6000 by omega),LH h1];simp only [cond_false,Bool.true_and];by_cases h2:r.Mults.length=l.length
   ·rw [LH h2,show ((((r.Mults.length:Nat):Int)==((l.length:Nat):Int)))=true by simp [h2]];simp only [cond_true,Bool.true_and];by_cases h3:0≤r.Mod
    ·rw [LG (show ¬ r.Mod<0 by omega),LH h3];simp only [cond_false,Bool.true_and];by_cases h4:r.Mod≤1099511627776
     ·rw [LG (show ¬ r.Mod>1099511627776 by omega),LH h4,aG (by omega)];simp only [cond_false,Bool.true_and];have hf:=AG (ρ:=Bool) (r:=false) (0:Int) (n:=l.length) (fun j=>(fun n=>sy n 0) (r.Mults.getD j 0)) (fun j=>(l.getD j bD).Const)
       (body:=fun i0 s0 =>
       bM (i0<r.Mults.length) <|
       (bE (r.Mults.getD i0 0) 0).bind fun y1 =>
       bif y1 then (
        bM (i0<s0.length) <|
        some (.go (s0.set i0 ((l.getD i0 ⟨0,[]⟩).Const)))
       ) else (
        some (.ret false)
       )) (fun j s hj hs=>by
        rw [aG (by omega),dX];simp only [Option.bind_some];cases sy (r.Mults.getD j 0) 0 with
        | false=>rfl
        | true =>
         simp only [cond_true];rw [aG (by omega)]) l.length 0 (List.replicate l.length 0) (by omega) (by simp) (fun j hj=>by omega)
      have hall:=A4 (fun n:Int=>sy n 0) 0 r.Mults;rw [Nat.sub_zero,h2] at hall;rw [hall,Bo bD Linear.Const l] at hf;refine (congrArg (fun o:Option (Out (List Int) Bool)=>Option.bind o _) hf).trans ?_;cases hsm:r.Mults.all fun n=>sy n 0 with
      | false=>rfl
      | true =>
       simp only [cond_true,Option.bind_some,Sh.aft,Bool.true_and];rw [dH (fun q hq=>bX (hv' q hq)) h1];simp only [Option.bind_some];rw [gJ (r:=false) (fun j=>I0 l r ((dA l).getD j [])) _ _ () (fun j u _ hj=>by
        obtain ⟨s',e1,e2⟩:=qk (ε:=List Int) (ρ:=Empty) (fin:=fun i2 s2=>s2) (fun j2 s=>s.length=l.length∧∀ k,k<j2→s.getD k 0=cf (l.getD k bD) ((dA l).getD j []))
         (body:=fun i2 s2 =>
         (cS (Linear.mk ((l.getD i2 ⟨0,[]⟩).Const) ((l.getD i2 ⟨0,[]⟩).Terms)) ((dA l).getD j [])).bind fun y3 =>
         bM (i2<s2.length) <|
         some (.go (s2.set i2 y3))) (l.length-0) 0 (List.replicate l.length (0:Int)) ⟨by simp,fun k hk=>by omega⟩ (fun j2 s _ hj2 hs=>by
          refine ⟨s.set j2 (cf (l.getD j2 bD) ((dA l).getD j [])),?_,?_,fun k hk => ?_⟩
          ·rw [oX,je];simp only [Option.bind_some];rw [aG (by omega)]
          ·simpa using hs.1
          ·by_cases e:k=j2
           ·rw [e,gn (by omega)]
           ·rw [yj 0 (by omega)];exact hs.2 k (by omega))
        refine (congrArg (fun o:Option (Out (List Int) Empty)=>Option.bind o _) e1).trans ?_;have e3:s'=oR ((dA l).getD j []) l:=by refine List.ext_getElem (by simp [oR,e2.1]) fun k a b => ?_;rw [← getD_at 0 a,e2.2 k (by omega)];simp only [oR,List.getElem_map];rw [getD_at bD (by omega)]
        simp only [Option.bind_some,dI];rw [e3,lM];simp only [Option.bind_some];unfold I0;cases (kK r.Mults (oR ((dA l).getD j []) l)).2==0 with
        | false=>rfl
        | true =>
         simp only [cond_true,Bool.true_and];rw [jB];cases Ak (kK r.Mults (oR ((dA l).getD j []) l)).1 r.Mod<;>rfl),A4 (I0 l r) []]
       cases (dA l).all (I0 l r) with
       | false=>rfl
       | true =>
        simp only [cond_true,Option.bind_some,Sh.aft,Bool.true_and];rw [lM];simp only [Option.bind_some];show _=some ((kK r.Mults (rH l)).2==0 && !Ak (kK r.Mults (rH l)).1 r.Mod);unfold rH;cases (kK r.Mults (l.map Linear.Const)).2==0 with
        | false=>rfl
        | true =>
         simp only [cond_true,Bool.true_and];rw [jB];rfl
     ·rw [LH (show r.Mod>1099511627776 by omega),LG h4];rfl
    ·rw [LH (show r.Mod<0 by omega),LG h3];rfl
   ·rw [LG h2,show ((((r.Mults.length:Nat):Int)==((l.length:Nat):Int)))=false by rw [beq_eq_false_iff_ne];omega];rfl
  ·rw [LH (show (l.length:Int)>6000 by omega),LG h1];rfl
theorem AM {a b:List Int} (h:(kK a b).2=0):(kK a b).1=gz (r6 a b) a.length:=by
 unfold kK at h ⊢;cases h1:decide (a.length=b.length) with
 | false=>rw [h1] at h;simp at h
 | true =>
  rw [h1] at h;cases h2:decide (a.length≤10000) with
  | false=>rw [h2] at h;simp at h
  | true =>
   rw [h2] at h;cases h3:a.all jA&&b.all jA with
   | false=>rw [h3] at h;simp at h
   | true =>
    rw [h3] at h;simp only [cond_true] at h ⊢;unfold xg at h ⊢;cases h4:jA (gz (r6 a b) a.length) with
    | false=>rw [h4] at h;simp at h
    | true=>rfl
theorem Df (v:au) {l:List Linear} {y:Nat} (h:y<l.length):(oR v l).getD y 0=cf (l.getD y bD) v:=by rw [getD_at 0 (by simpa [oR] using h),getD_at bD h];simp [oR]
theorem CS {l:List Linear} {y:Nat} (h:y<l.length):(rH l).getD y 0=(l.getD y bD).Const:=by rw [getD_at 0 (by simpa [rH] using h),getD_at bD h];simp [rH]
theorem G0 {l:List Linear} (hv:∀ q∈l,ax q=true) (m:List Int) (hm:m.length=l.length) (f:au→Int) (v:au) (a:Int) :
 SF l (fun y=>m.getD y.toNat 0) (upd f v a)=SF l (fun y=>m.getD y.toNat 0) f+gz (r6 m (oR v l)) m.length*(a-f v):=by
 unfold SF;have e1:gz (r6 m (oR v l)) m.length=gz (fun y:Nat=>m.getD y 0*cf (l.getD y bD) v) l.length:=by rw [hm];exact o4 fun y hy=>by unfold r6;rw [Df v hy]
 rw [e1];have key:∀ n,n≤l.length→gz (fun y:Nat=>(m.getD (y:Int).toNat 0)*dx (upd f v a) (l.getD y bD)) n=gz (fun y:Nat=>(m.getD (y:Int).toNat 0)*dx f (l.getD y bD)) n+gz (fun y:Nat=>m.getD y 0*cf (l.getD y bD) v) n*(a-f v):=by
  intro n;induction n with
  | zero=>intro _;simp [gz]
  | succ n ih =>
   intro hn;simp only [gz];rw [ih (by omega),kH f v a (dp (rK hv n)),Int.toNat_natCast]
   grind
 exact key _ (Nat.le_refl _)
def Hp (f:au→Int) (vs:List au):au→Int:=fun v=>if v∈vs then f v else 0
theorem He (f:au→Int) (v:au) (vs:List au):Hp f (v::vs)=upd (Hp f vs) v (f v):=by
 funext x;unfold Hp upd;by_cases e:x=v
 ·rw [if_pos e,e];simp
 ·rw [if_neg e];simp [e]
theorem zy {l:List Linear} (hv:∀ q∈l,ax q=true) {r:B4} (hm:r.Mults.length=l.length) (f:au→Int):∀ vs:List au,(∀ v∈vs,I0 l r v=true)→r.Mod ∣ SF l (fun y=>r.Mults.getD y.toNat 0) (Hp f vs)-SF l (fun y=>r.Mults.getD y.toNat 0) (fun _=>0)
 | [],_=>by
  have:Hp f []=fun _=>0:=by funext v;simp [Hp]
  rw [this,Int.sub_self];exact Int.dvd_zero _
 | v::vs,h=>by
  have ih:=zy hv hm f vs fun x hx=>h x (by simp [hx]);have h1:=h v (by simp);unfold I0 at h1;rw [LB,beq_iff_eq] at h1;have h2:=rS.1 h1.2;rw [AM h1.1] at h2;rw [He,G0 hv r.Mults hm];have h3:=Int.dvd_add ih (Int.dvd_mul_of_dvd_left (c:=f v-Hp f vs v) h2);have e:∀ a b c:Int,a-b+c=a+c-b:=fun a b c=>by omega
  rwa [e] at h3
theorem Dn {l:List Linear} (m:List Int) (hm:m.length=l.length):SF l (fun y=>m.getD y.toNat 0) (fun _=>0)=gz (r6 m (rH l)) m.length:=by unfold SF;rw [hm];exact o4 fun y hy=>by unfold r6;rw [CS hy,gY];rfl
theorem D6 {l:List Linear} {r:B4} (h:uW l r=true) (f:au→Int):¬ ∀ q∈l,dx f q=0:=by
 intro hs;unfold uW at h;simp only [LB,decide_eq_true_eq,Bool.not_eq_true',beq_iff_eq] at h;obtain ⟨hv,hl,hm,_,_,_,hV,hc,hn⟩:=h;have hv:=LN.1 hv;have hV:=LN.1 hV;have h1:=zy hv hm f (dA l) hV;have hvs:=(oa fun q hq=>bX (hv q hq)).2.1;have h0:SF l (fun y=>r.Mults.getD y.toNat 0) (Hp f (dA l))=0:=by
  unfold SF;have:∀ n,n≤l.length→gz (fun y:Nat=>r.Mults.getD (y:Int).toNat 0*dx (Hp f (dA l)) (l.getD y bD)) n=0:=by
   intro n;induction n with
   | zero=>intro _;rfl
   | succ n ih =>
    intro hn;simp only [gz];rw [ih (by omega)];have hm:l.getD n bD∈l:=bb _ (by omega);have:dx (Hp f (dA l)) (l.getD n bD)=dx f (l.getD n bD):=by unfold dx;congr 1;exact wj _ fun t ht=>if_pos ((hvs _).2 ⟨_,hm,t,ht,rfl⟩)
    rw [this,hs _ hm];simp
  exact this _ (Nat.le_refl _)
 rw [h0,Int.zero_sub,Int.dvd_neg,Dn _ hm,← AM hc,← rS,hn] at h1;cases h1
theorem ve {q:Linear} (f:au→Int):(cont q:Int) ∣ dx f q-q.Const:=by
 have hd:∀ ts:List aq,(∀ t∈ts,((cont q:Nat):Int) ∣ t.C)→((cont q:Nat):Int) ∣ cD f ts:=fun ts=>by
  induction ts with
  | nil=>intro _;simp [cD]
  | cons t ts ih =>
   intro ht;simp only [cD];exact Int.dvd_add (Int.dvd_mul_of_dvd_left (ht t (by simp))) (ih fun u hu=>ht u (by simp [hu]))
 have e:dx f q-q.Const=cD f q.Terms:=by unfold dx;omega
 rw [e];exact hd _ mu
theorem DB {x:Nat→Int} {B:Int}:∀ {n:Nat},(∀ k,k<n→Bd (x k) B)→Bd (gz x n) (B*n)
 | 0,_=>by unfold Bd;simp [gz]
 | n+1,h=>by have ih:=DB (n:=n) fun k hk=>h k (by omega);simp only [gz];refine (ih.add (h n (by omega))).le ?_;rw [show ((n+1:Nat):Int)=(n:Int)+1 by omega,Int.mul_add,Int.mul_one];omega
theorem DK {a b:List Int} (hl:a.length=b.length) (h4:a.length≤4) (ha:∀ y,y<a.length→Bd (a.getD y 0) 1099511627776) (hb:∀ y,y<b.length→Bd (b.getD y 0) 1000000):kK a b=(gz (r6 a b) a.length,0):=by
 have hin:∀ (c:List Int) (B:Int),B≤4611686018427387904→(∀ y,y<c.length→Bd (c.getD y 0) B)→c.all jA=true:=fun c B hB h=>by rw [LN];intro x hx;obtain ⟨k,hk,rfl⟩:=List.getElem_of_mem hx;rw [← getD_at 0 hk];exact kr ((h k hk).le hB)
 unfold kK;rw [LH hl,LH (show a.length≤10000 by omega),hin a _ (by omega) ha,hin b _ (by omega) hb];simp only [cond_true,Bool.and_true];unfold xg;have h:=DB (x:=r6 a b) (n:=a.length) fun k hk=>((ha k hk).mul (hb k (by omega)));rw [kr (h.le (by omega))];rfl
theorem CT (n:Nat) (m:Ms) {y:Nat} (h:y<n):(nU n m).getD y 0=ba 0 (y:Int) m:=by rw [getD_at 0 (by simpa [nU] using h)];simp [nU]
theorem GZ {l:List Linear} (hv:∀ q∈l,ax q=true) (h4:l.length≤4) {i:Nat} {G:Int} {F:Nat→Int→Int} {rows:List Rw} (hl:rows.length=l.length) (h:Bk l i G F rows) (hi:i<rows.length) (hG:G≤311400) (hF:∀ y,Bd (F i y) 1099511627776)
 (hvi:ax (rows.getD i br).q=true) (hz:dG (rows.getD i br).q=false) (hno:sQ (rows.getD i br).q=true):uW l (sP rows.length (rows.getD i br))=true:=by
 have hm:=h.mo i (Nat.le_refl _) hi;have hs:=fun f=>(h.sem f).imp fun f' hf'=>hf' i (Nat.le_refl _) hi;have hG1:=h.g1;generalize rows.getD i br=r at *;have hp:=hm.pos;have hle:=Int.le_of_dvd (by omega) hm.dvd;have hc6:(cont r.q:Int)≤1000000:=by have:=CI r.q.Terms 0 (de hvi) (by omega) fun t ht=>(cz hvi t ht).1;unfold cont;omega
 have hsg:Bd (r.scale*(cont r.q:Int)) 311400000000:=((show Bd r.scale 311400 from ⟨by omega,by omega⟩).mul (show Bd (cont r.q:Int) 1000000 from ⟨by omega,by omega⟩)).le (by omega);have hsg0:0≤r.scale*(cont r.q:Int):=Int.mul_nonneg (by omega) (by omega);have e:sP rows.length r=ah.mk (nU l.length r.mults) (r.scale*(cont r.q:Int)):=by unfold sP;rw [hm.lost,rE ⟨by omega,by omega⟩ ⟨by omega,by omega⟩ (hsg.le (by omega)),rj (hsg.le (by omega)),hl];rfl
 have mb:∀ y,Bd (ba 0 y r.mults) 1099511627776:=fun y=>Bd.frac hG1 ⟨by omega,hle⟩ (hm.eq y) (hF y);have hlen:(nU l.length r.mults).length=l.length:=by simp [nU]
 have hmp:∀ y,y<(nU l.length r.mults).length→Bd ((nU l.length r.mults).getD y 0) 1099511627776:=fun y hy=>by rw [CT _ _ (by omega)];exact mb _
 have hS:∀ f,∃ f',SF l (fun y=>(nU l.length r.mults).getD y.toNat 0) f=r.scale*dx f' r.q:=fun f=>by
  obtain ⟨f',hf'⟩:=hs f;refine ⟨f',?_⟩;have h1:SF l (fun y=>(nU l.length r.mults).getD y.toNat 0) f=SF l (fun y=>ba 0 y r.mults) f:=by
   unfold SF;exact o4 fun y hy=>by show (nU l.length r.mults).getD y 0*_=_;rw [CT _ _ hy]
  have h2:G*SF l (fun y=>ba 0 y r.mults) f=r.scale*SF l (F i) f:=by have h3:=CG l G 0 (fun y=>ba 0 y r.mults) (F i) f;have h4:=CG l r.scale 0 (F i) (F i) f;simp only [Int.zero_mul,Int.sub_zero] at h3 h4;rw [← h3,← h4];exact zr (fun y=>hm.eq y) f
  rw [← hf'] at h2;rw [h1];exact Int.eq_of_mul_eq_mul_left (show G≠0 by omega) (by rw [h2];grind)
 have cb:∀ (y:Nat),y<(rH l).length→Bd ((rH l).getD y 0) 1000000:=fun y hy=>by
  have hy:y<l.length:=by simpa [rH] using hy
  rw [CS hy];exact kh (rK hv y)
 have vb:∀ (v:au) (y:Nat),y<(oR v l).length→Bd ((oR v l).getD y 0) 1000000:=fun v y hy=>by
  have hy:y<l.length:=by simpa [oR] using hy
  rw [Df v hy];exact vS (rK hv y) v
 rw [e];unfold uW;simp only [LB,decide_eq_true_eq,Bool.not_eq_true',beq_iff_eq];obtain ⟨f0,hf0⟩:=hS fun _=>0;have dc:=DK (a:=nU l.length r.mults) (b:=rH l) (by rw [hlen];simp [rH]) (by omega) hmp cb;refine ⟨LN.2 hv,by omega,hlen,hsg0,by unfold Bd at hsg;omega,LN.2 fun n hn => ?_,LN.2 fun v _ => ?_,by rw [dc],?_⟩
 ·obtain ⟨k,hk,rfl⟩:=List.getElem_of_mem hn;rw [← getD_at 0 hk];exact rj (hmp k hk)
 ·have dv:=DK (a:=nU l.length r.mults) (b:=oR v l) (by rw [hlen];simp [oR]) (by omega) hmp (vb v);unfold I0;simp only;rw [dv];simp only [LB,beq_iff_eq,true_and];refine rS.2 ?_;obtain ⟨f1,hf1⟩:=hS (upd (fun _=>0) v 1);have hu:=G0 hv (nU l.length r.mults) hlen (fun _=>0) v 1;rw [hf1,hf0] at hu;have e5:gz (r6 (nU l.length r.mults) (oR v l)) (nU l.length r.mults).length=r.scale*(dx f1 r.q-dx f0 r.q):=by grind
  rw [e5];refine Int.mul_dvd_mul (Int.dvd_refl _) ?_;have:=Int.dvd_sub (ve (q:=r.q) f1) (ve (q:=r.q) f0);have e6:dx f1 r.q-r.q.Const-(dx f0 r.q-r.q.Const)=dx f1 r.q-dx f0 r.q:=by omega
  rwa [e6] at this
 ·rw [dc,← Bool.not_eq_true,rS];simp only;rw [← Dn _ hlen,hf0];intro hd;obtain ⟨z,hz2⟩:=hd;have h5:dx f0 r.q=(cont r.q:Int)*z:=Int.eq_of_mul_eq_mul_left (show r.scale≠0 by omega) (by rw [hz2];grind);have h6:(cont r.q:Int) ∣ r.q.Const:=by
   have h7:=ve (q:=r.q) f0;have h8:=Int.dvd_sub (show (cont r.q:Int) ∣ dx f0 r.q from ⟨z,h5⟩) h7;have:dx f0 r.q-(dx f0 r.q-r.q.Const)=r.q.Const:=by omega
   rwa [this] at h8
  unfold sQ at hno;rw [vR.2 h6] at hno;simp only [beq_self_eq_true,Bool.not_true,Bool.or_false,beq_iff_eq] at hno;rw [hno] at h6;have h9:r.q.Const=0:=Int.zero_dvd.1 h6;have h10:=(kQ hvi).1 hno;unfold dG at hz;rw [h9,h10] at hz;simp at hz
theorem I5 {l:List Linear} (hv:∀ q∈l,ax q=true) (h4:l.length≤4):∀ (k i N n:Nat) (rows:List Rw) (bs:List Bind),i+k=l.length→k<N→rows.length=l.length→gX n (rows.map (·.q)) bs→(∀ r∈rows,qF l.length r)→bs.length≤n+i→(i<l.length→Lv l i rows) →
 kG k i n (rows.map (·.q)) bs=some .no→∃ f,kz (w5 l.length) N ((i:Int),rows,bs,(n:Int))=some (.ret ([],0,f,9))∧uW l f=true
 | 0,i,N,n,rows,bs,hk,hN,hl,h,hr,hb,hL,e=>by
  simp only [kG] at e;injection e with e
  cases e
 | k+1,i,N,n,rows,bs,hk,hN,hl,h,hr,hb,hL,ea=>by
  obtain ⟨N,rfl⟩:∃ j,N=j+1:=⟨N-1,by omega⟩;have hi:i<rows.length:=by omega
  have hiq:i<(rows.map (·.q)).length:=by simpa using hi
  have hv':∀ j,j<rows.length→ax (rows.getD j br).q=true:=fun j hj=>(h.qv _ (List.mem_map.2 ⟨_,bb br hj,rfl⟩)).1;simp only [kG] at ea;simp only [kz];rw [yt (show i<l.length by omega)];obtain ⟨r1,r2⟩:=IH 4294967296 i n i rows bs hi (by omega) h (fun r hm=>by rw [hl];exact hr r hm) (by omega) (.inl hb);obtain ⟨r,e⟩:=vo (N:=4294967296) h hiq (by omega);rw [e] at ea;have hLi:=hL (by omega);cases r with
  | no =>
   obtain ⟨z,no,e2⟩:=r2 e;rw [e2];obtain ⟨G,F,n1,n2,n3⟩:=hLi.nom;exact ⟨_,rfl,GZ hv h4 hl n1 hi n2 (n3 i (Nat.le_refl _) hi) (hv' i hi) z no⟩
  | lim =>
   simp only at ea;injection ea with ea
   cases ea
  | ok m1 qs1 bs1 =>
   simp only at ea;obtain ⟨rows1,q1,l1,o1,e2,e3⟩:=r1 m1 qs1 bs1 e;obtain ⟨a1,a2,a3,a4,a5⟩:=qo 4294967296 i n i (rows.map (·.q)) bs h hiq (.inl hb) m1 qs1 bs1 e;rw [e2];simp only [Option.bind_some,Sh.aft,zg];have e4:aL ((i:Int)+1)=((i+1:Nat):Int):=by rw [bn (by omega) (by omega)];omega
   rw [e4];rw [← q1] at a1 ea;refine I5 hv h4 k (i+1) N m1 rows1 bs1 (by omega) (by omega) (by omega) a1 (fun r hm=>by rw [← hl];exact o1 r hm) (by omega) (fun hlt => ?_) ea;rcases e3 with ⟨_,rfl⟩ | ⟨no,hR⟩
   ·exact hLi.next
   ·exact hLi.step hi l1 (by omega) (by omega) hv' no hR
theorem vx {l:List Linear} {j:Nat} (h:j<l.length):(cU l l.length).getD j br=ae.mk (l.getD j bD) [((j:Int),1)] 1 false:=by rw [getD_at br (by simpa [cU] using h)];simp [cU]
theorem FI {l:List Linear} (hv:∀ q∈l,ax q=true) (hs:∀ q∈l,oz 9 q=true):Lv l 0 (cU l l.length):=by
 have hlen:(cU l l.length).length=l.length:=by simp [cU]
 refine .inl ⟨⟨by omega,fun j _ hj => ?_,fun f=>⟨f,fun j _ hj => ?_⟩⟩,fun j _ hj u => ?_⟩
 ·rw [hlen] at hj;rw [vx hj];refine ⟨rfl,by simp,Int.dvd_refl 1,by simp,fun y => ?_⟩;show 1*ba 0 y [((j:Int),(1:Int))]=1*F0 j y;unfold F0;simp only [ba,Int.one_mul];by_cases e:(j:Int)=y
  ·rw [if_pos e,if_pos e.symm]
  ·rw [if_neg e,if_neg (fun h=>e h.symm)]
 ·rw [hlen] at hj;rw [vx hj];unfold SF;rw [AU (i:=j) fun k hk hkj=>by unfold F0;rw [if_neg (by omega),Int.zero_mul],if_pos hj];unfold F0;rw [if_pos rfl]
 ·rw [hlen] at hj;unfold oT;rw [vx hj];show Bd (cf (l.getD j bD) u) 9;have hm:=bb bD hj;have h1:=hs _ hm;unfold oz at h1;simp only [LB,decide_eq_true_eq,LN] at h1;by_cases h0:cf (l.getD j bD) u=0
  ·rw [h0];exact ⟨by omega,by omega⟩
  ·obtain ⟨t,ht,_,e⟩:=qC (show mF u (l.getD j bD).Terms≠0 from h0);have h2:=h1.2 t ht;have e:t.C=cf (l.getD j bD) u:=e;rw [← e];exact h2
theorem HT {l:List Linear} {n:Nat} (hv:∀ q∈l,ax q=true) (h1:1≤n) (h2:n<1000000000) (hg:DZ l<n) (h4:l.length≤4) (hs:∀ q∈l,oz 9 q=true) (h9:(jR l n).2=9) :
 ∃ f,bc l (n:Int)=some ([],0,f,9)∧uW l f=true:=by
 have hS:=oH hv h1 h2 hg;have hlen:(cU l l.length).length=l.length:=by simp [cU]
 have hq:=C0 l;have hS':gX n ((cU l l.length).map (·.q)) []:=by rw [hq];exact hS
 have hno:kG l.length 0 n l []=some .no:=by
  unfold jR at h9;obtain ⟨r,hr⟩:=s9 l.length 0 n l [] (by omega) hS (by simp);rw [hr] at h9 ⊢;cases r with
  | no=>rfl
  | lim=>simp at h9
  | ok m qs bs=>simp at h9
 obtain ⟨f,e,hf⟩:=I5 hv h4 l.length 0 4294967296 n (cU l l.length) [] (by omega) (by omega) hlen hS' (vt l) (by simp) (fun _=>FI hv hs) (by rw [hq];exact hno);refine ⟨f,?_,hf⟩;unfold bc;rw [dW fun q hq=>jK (hv q hq),LN.2 hv];simp only [Option.bind_some,cond_true];rw [LG (show ¬ (n:Int)<1 by omega),LG (show ¬ (n:Int)≥1000000000 by omega),dt hv (by omega)];simp only [cond_false,Option.bind_some];rw [LG (show ¬ DZ l≥(n:Int) by omega),LG (show ¬ (l.length:Int)>6000 by omega)];simp only [cond_false];obtain ⟨s',e1,e2⟩:=qk (ε:=List Rw) (ρ:=Empty) (fin:=fun i0 s0=>s0) (fun j s=>s=cU l j)
  (body:=fun i0 s0 =>
   bM ((s0.length+1)*56≤140737488355328) <|
   some (.go (s0++[(ae.mk (Linear.mk ((l.getD i0 ⟨0,[]⟩).Const) ((l.getD i0 ⟨0,[]⟩).Terms)) (ksort (bI (((i0:Nat):Int):Int) 1 [])) 1 false)]))) (l.length-0) 0 [] rfl (fun j s _ hj hs=>by
   refine ⟨_,aG (by rw [hs];simp [cU];omega),?_⟩;rw [hs];unfold cU;rw [List.range_succ,List.map_append];rfl)
 refine (congrArg (fun o:Option (Out (List Rw) Empty)=>Option.bind o _) e1).trans ?_;simp only [Option.bind_some,dI];have e2:s'=cU l l.length:=by rw [e2];congr 1;omega
 rw [e2,hlen];refine (congrArg (fun o:Option (Out (List Rw×List Bind×Int) B3)=>Option.bind o _) e).trans ?_;rfl
theorem wA (l:List Linear) (vs:List Value):j7 l vs=some (l.all fun q=>(ur vs q).2==0&&(ur vs q).1==0):=by
 unfold j7;rw [gJ (r:=false) (fun j=>(fun q:Linear=>(ur vs q).2==0&&(ur vs q).1==0) (l.getD j bD)) _ _ () (fun j u _ _=>by
  rw [oX,xl];simp only [Option.bind_some];cases (ur vs (l.getD j bD)).2==0 with
  | false=>rfl
  | true=>cases (ur vs (l.getD j bD)).1==0<;>rfl)]
 rw [A4 (fun q:Linear=>(ur vs q).2==0&&(ur vs q).1==0) bD l,jh];cases l.all fun q=>(ur vs q).2==0&&(ur vs q).1==0<;>rfl
theorem DT {l:List Linear} {vs:List Value} (hv:∀ q∈l,ax q=true) (h:(l.all fun q=>(ur vs q).2==0&&(ur vs q).1==0)=true):∀ q∈l,dx (vv vs) q=0:=fun q hq=>by have h1:=LN.1 h q hq;simp only [LB,beq_iff_eq] at h1;rw [← (J3 h1.1).2.1];exact h1.2
theorem A7 (l:List Linear) (r:B4) (vs:List Value):dK l r vs=some true:=by
 unfold dK;rw [B9];simp only [Option.bind_some,cond_true];rw [show (6:Int)=((6:Nat):Int) from rfl,yg];simp only [Option.bind_some];cases hf:l.all wX&&decide (l.length≤6) with
 | false=>rfl
 | true =>
  simp only [LB,LN,decide_eq_true_eq] at hf;simp only [cond_true];rw [vp];simp only [Option.bind_some];cases hv:l.all ax with
  | false=>rfl
  | true =>
   have hv:=LN.1 hv;simp only [cond_true];cases decide (((r.Mults.length:Nat):Int)>8) with
   | true=>rfl
   | false =>
    cases decide (((vs.length:Nat):Int)>10) with
    | true=>rfl
    | false =>
     simp only [cond_false];have hk:∀ q∈l,Dw q:=fun q hq=>Hy (hf.1 q hq);rw [wA,Aj hk];simp only [Option.bind_some];have hsol:(l.all fun q=>(ur vs q).2==0&&(ur vs q).1==0)=true→∀ q∈l,dx (vv vs) q=0:=DT hv;generalize (l.all fun q=>(ur vs q).2==0&&(ur vs q).1==0)=H at *;have hex:uW l r=true→H=false:=fun h=>by
      cases H with
      | false=>rfl
      | true=>exact absurd (hsol rfl) (D6 h (vv vs))
     have hout:((
      bif uW l r then (
       bif H then (
        some (.ret false)
       ) else (
        some (.brk ())
       )
      ) else (
       some (.brk ())
      )
      ):Option (Out Unit Bool))=some (.brk ()):=by
      cases hc:uW l r with
      | false=>rfl
      | true=>rw [hex hc];rfl
     rw [hout];simp only [Option.bind_some,Sh.aft];rw [show (1000:Int)=((1000:Nat):Int) from rfl];by_cases hg:DZ l<((1000:Nat):Int)
     ·obtain ⟨f,e,_⟩:=zS hv (by omega) (by omega) hg (by omega);have hS:=oH hv (n:=1000) (by omega) (by omega) hg;cases h9:(jR l 1000).2==9 with
      | false =>
       rw [e];simp only [Option.bind_some];rw [h9];rfl
      | true =>
       have h9:(jR l 1000).2=9:=by simpa using h9
       have hH:H=false:=by
        cases H with
        | false=>rfl
        | true=>exact absurd h9 (DW hS (hsol rfl)).1
       rw [hH];by_cases h4:l.length≤4
       ·rw [LG (show ¬ (l.length:Int)>4 by omega),uU l 9 ⟨by omega,by omega⟩ fun q hq=>by have:=bX (hv q hq);omega];cases hs:l.all (oz 9) with
        | false =>
         rw [e];simp only [Option.bind_some];rw [h9];rfl
        | true =>
         obtain ⟨f',e',hc⟩:=HT hv (by omega) (by omega) hg h4 (LN.1 hs) h9;rw [e'];simp only [Option.bind_some,cond_false,cond_true];rw [Aj hk,hc];rfl
       ·rw [LH (show (l.length:Int)>4 by omega),e];simp only [Option.bind_some];rw [h9];rfl
     ·rw [D7 hk (by omega) (fun _ _ _=>hg)];rfl
end Go.Proofs.YtlhcekghjfjajaaGreatDoor
