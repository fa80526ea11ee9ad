/- Plain laws: what the walked functions compute answers as the statement says. -/
import Derived.Test.YtadjhpbkknifeaaGreatDoorPnaPolyValues
set_option linter.unusedSimpArgs false
set_option linter.unusedVariables false
namespace Go.Proofs.YtadjhpbkknifeaaGreatDoor
open Go.Ab Go.Sh
def vv (vs:List Value) (v:ai):Int:=(vs.getD (idxOf (qB v) vs).toNat ⟨[],0⟩).N
def Ea (vs:List Value) (v:ai):Prop:=0≤idxOf (qB v) vs ∧ -1000000000≤vv vs v∧vv vs v≤1000000000
def Hc (vs:List Value) (t:Coef) (n:Int):eM Int Int (Int×Int) :=
 bif decide (idxOf (qB t.Var) vs<0) then .ret (0,7) else
 bif decide (vv vs t.Var<(-1000000000)) then .ret (0,2) else
 bif decide (vv vs t.Var>1000000000) then .ret (0,2) else .go (aW (n+(aW (t.C*vv vs t.Var))))
def Ja (o:Out Int (Int×Int)):Int×Int:=match o with | .brk n=>(n,0) | .ret r=>r
def JU (vs:List Value) (l:Linear):Int×Int:=bif bU l then Ja (bM (Hc vs) (fun s=>s) l.Terms l.Const) else (0,1)
theorem D0 (o:Out Int (Int×Int)):((some o).bind (Sh.aft fun u=>some (u,0)))=some (Ja o):=by cases o<;>rfl
theorem w7 (l:Linear) (vs:List Value):kL l vs=some (JU vs l):=by
 unfold kL JU;rw [gZ l];simp only [Option.bind_some];cases bU l with
 | false=>rfl
 | true =>
  simp only [cond_true];rw [fP (fin:=fun _ s=>s) (f:=fun s=>s) ⟨[],0⟩ l.Terms (Hc vs) (fun _ _=>True) (fun _ _=>rfl) l.Const trivial (fun j s hj _=>⟨by
   rw [oY (fun i=>qB (l.Terms.getD j ⟨[],0⟩).Var (vs.getD i ⟨[],0⟩)) _ _ () (fun i u _ _=>by unfold qB;cases (vs.getD i ⟨[],0⟩).Var==(l.Terms.getD j ⟨[],0⟩).Var<;>rfl)]
   simp only [Option.bind_some,dJ];rw [xn (qB (l.Terms.getD j ⟨[],0⟩).Var) ⟨[],0⟩ vs];simp only [Hc];have hlt:=As (qB (l.Terms.getD j ⟨[],0⟩).Var) ⟨[],0⟩ vs;by_cases h0:idxOf (qB (l.Terms.getD j ⟨[],0⟩).Var) vs<0
   ·rw [KO h0];simp
   ·rw [KN h0];simp only [cond_false];have e:((((idxOf (qB (l.Terms.getD j ⟨[],0⟩).Var) vs).toNat:Nat):Int)==((vs.length:Nat):Int))=false:=by rw [beq_eq_false_iff_ne];omega
    rw [e,cond_false,aq (by omega)];unfold vv;cases decide ((vs.getD (idxOf (qB (l.Terms.getD j ⟨[],0⟩).Var) vs).toNat ⟨[],0⟩).N<(-1000000000))<;>cases decide ((vs.getD (idxOf (qB (l.Terms.getD j ⟨[],0⟩).Var) vs).toNat ⟨[],0⟩).N>1000000000)<;>rfl,fun _ _=>trivial⟩)]
  exact D0 _
def AD (f:ai→Int):List Coef→Int
 | []=>0
 | t::ts=>t.C*f t.Var+AD f ts
def FJ (f:ai→Int) (l:Linear):Int:=l.Const+AD f l.Terms
theorem prod_bound {a b A B:Int} (h1 : -A≤a) (h2:a≤A) (h3 : -B≤b) (h4:b≤B) : -(A*B)≤a*b∧a*b≤A*B:=by
 have hA:0≤A:=by omega
 have hB:0≤B:=by omega
 have hn:(a*b).natAbs≤A.natAbs*B.natAbs:=by rw [Int.natAbs_mul];exact Nat.mul_le_mul (by omega) (by omega)
 have e:((A.natAbs*B.natAbs:Nat):Int)=A*B:=by rw [Int.natCast_mul];congr 1<;>omega
 omega
theorem Bg (vs:List Value):∀ (ts:List Coef) (n:Int),(∀ t∈ts,-1000000≤t.C∧t.C≤1000000)→ts.length≤12 →
 -(1000000+(12-(ts.length:Int))*1000000000000000)≤n→n≤1000000+(12-(ts.length:Int))*1000000000000000 →
 (bM (Hc vs) (fun s=>s) ts n = .brk (n+AD (vv vs) ts)∧∀ t∈ts,Ea vs t.Var)∨((∃ t∈ts,¬ Ea vs t.Var)∧∃ e,(e=7∨e=2)∧bM (Hc vs) (fun s=>s) ts n = .ret (0,e))
 | [],n,_,_,_,_=>.inl ⟨by simp [bM,AD],by simp⟩
 | t::ts,n,hC,hl,h1,h2=>by
  by_cases h0:idxOf (qB t.Var) vs<0
  ·exact .inr ⟨⟨t,by simp,fun hv=>by have:=hv.1;omega⟩,7,.inl rfl,by simp only [bM,Hc,KO h0,cond_true]⟩
  by_cases h3:vv vs t.Var < -1000000000
  ·exact .inr ⟨⟨t,by simp,fun hv=>by have:=hv.2.1;omega⟩,2,.inr rfl,by simp only [bM,Hc,KN h0,KO h3,cond_true,cond_false]⟩
  by_cases h4:vv vs t.Var>1000000000
  ·exact .inr ⟨⟨t,by simp,fun hv=>by have:=hv.2.2;omega⟩,2,.inr rfl,by simp only [bM,Hc,KN h0,KN h3,KO h4,cond_true,cond_false]⟩
  obtain ⟨c1,c2⟩:=hC t (by simp);obtain ⟨b1,b2⟩:=prod_bound c1 c2 (show -1000000000≤vv vs t.Var by omega) (show vv vs t.Var≤1000000000 by omega);have hl':(ts.length:Int)≤11:=by simp at hl;omega
  have hlen:(((t::ts).length:Nat):Int)=(ts.length:Int)+1:=by simp
  rw [hlen] at h1 h2;have e:Hc vs t n = .go (n+t.C*vv vs t.Var):=by simp only [Hc,KN h0,KN h3,KN h4,cond_false];rw [yP (n:=t.C*vv vs t.Var) (by unfold wV;omega),yP (by unfold wV;omega)]
  simp only [bM,e,AD];rcases Bg vs ts (n+t.C*vv vs t.Var) (fun t ht=>hC t (by simp [ht])) (by omega) (by omega) (by omega) with ⟨e1,e2⟩ | ⟨⟨y,e1,e1'⟩,e2⟩
  ·refine .inl ⟨by rw [e1,Int.add_assoc],fun x hx => ?_⟩;rcases List.mem_cons.1 hx with rfl | hx
   ·exact ⟨by omega,by omega,by omega⟩
   ·exact e2 x hx
  ·exact .inr ⟨⟨y,by simp [e1],e1'⟩,e2⟩
theorem na {l:Linear} (h:bU l=true):l.Terms.length≤12:=by simp only [bU,KJ,decide_eq_true_eq] at h;exact h.2.2
theorem nX {l:Linear} (h:bU l=true):∀ t∈l.Terms,(-1000000≤t.C∧t.C≤1000000)∧cR t.Var=true:=by
 intro t ht;obtain ⟨j,hj,rfl⟩:=List.getElem_of_mem ht;simp only [bU,KJ,KU] at h;have:=h.1 j (by simpa using hj);have e:mr l j=l.Terms[j]:=by simp [mr,KH,KI hj]
 simp only [iW,e,KJ,BB,decide_eq_true_eq] at this;exact ⟨this.2.2.1,this.1⟩
theorem A4 {l:Linear} (h:bU l=true) : -1000000≤l.Const∧l.Const≤1000000:=by simp only [bU,KJ,BB,decide_eq_true_eq] at h;exact h.2.1
theorem zB {s:ai} (h:cR s=true):s.length≤30:=by
 cases s with
 | nil=>simp
 | cons c r =>
  simp only [cR] at h;cases hc:c==95
  ·simp only [hc,cond_false,KJ,decide_eq_true_eq] at h;simp;omega
  ·simp only [hc,cond_true,KJ,decide_eq_true_eq] at h;simp;omega
theorem xI {l:Linear} (h:bU l=true):KG l :=
 ⟨by have:=na h;omega,fun t ht=>by have:=zB (nX h t ht).2;omega⟩
theorem Ev (vs:List Value) (l:Linear) (h:bU l=true):(JU vs l=(FJ (vv vs) l,0)∧∀ t∈l.Terms,Ea vs t.Var)∨((∃ t∈l.Terms,¬ Ea vs t.Var)∧(JU vs l).2≠0):=by
 have hl:=na h;obtain ⟨k1,k2⟩:=A4 h;have hp:0≤(12-(l.Terms.length:Int))*1000000000000000:=Int.mul_nonneg (by omega) (by omega);unfold JU;rw [h,cond_true];rcases Bg vs l.Terms l.Const (fun t ht=>(nX h t ht).1) hl (by omega) (by omega) with ⟨e1,e2⟩ | ⟨e1,e,e2,e3⟩
 ·exact .inl ⟨by rw [e1];rfl,e2⟩
 ·refine .inr ⟨e1,?_⟩;rw [e3];rcases e2 with rfl | rfl<;>simp [Ja]
theorem I6 {vs:List Value} {l:Linear} (h:bU l=true) (hh:∀ t∈l.Terms,Ea vs t.Var):JU vs l=(FJ (vv vs) l,0):=by
 rcases Ev vs l h with ⟨e1,_⟩ | ⟨⟨t,ht,e⟩,_⟩
 ·exact e1
 ·exact absurd (hh t ht) e
open Go.Sort
def gM (f:ai→Int):List ai→Int
 | []=>1
 | v::l=>f v*gM f l
def Gc:List Int→Int
 | []=>1
 | x::l=>x*Gc l
def Hb:List Int→Int
 | []=>0
 | x::l=>x+Hb l
theorem Dv (f:ai→Int):∀ V:List ai,Gc (V.map f)=gM f V
 | []=>rfl
 | v::V=>by simp only [List.map_cons,Gc,gM,Dv f V]
theorem CK (f:ai→Int):∀ A B:List ai,gM f (A++B)=gM f A*gM f B
 | [],B=>by simp [gM]
 | v::A,B=>by simp only [List.cons_append,gM,CK f A B,Int.mul_assoc]
theorem zQ (f:ai→Int) {A B:List ai} (h:A.Perm B):gM f A=gM f B:=by
 induction h with
 | nil=>rfl
 | cons x _ ih=>simp only [gM,ih]
 | swap x y l=>simp only [gM];rw [← Int.mul_assoc,← Int.mul_assoc,Int.mul_comm (f y)]
 | trans _ _ h1 h2=>rw [h1,h2]
theorem F9:∀ (l:List Int) (n r:Int),pm n l=some r→r=n*Gc l
 | [],n,r,h=>by
  simp only [pm,KR] at h;simp [Gc,h]
 | x::l,n,r,h=>by
  unfold pm at h;cases hc:ct n&&(ct x&&ct (n*x)) with
  | false=>rw [hc] at h;cases h
  | true =>
   rw [hc] at h;rw [F9 l (n*x) r h,Gc,Int.mul_assoc]
theorem A0:∀ {l:List Int},l.any (fun n=>n==0)=true→Gc l=0
 | [],h=>by cases h
 | x::l,h=>by
  simp only [List.any_cons,Bool.or_eq_true,beq_iff_eq] at h;rcases h with h | h
  ·simp [Gc,h]
  ·simp [Gc,A0 h]
theorem DZ {l:List Int} (h:(dv l).2=0):(dv l).1=Gc l:=by
 unfold dv at h ⊢;cases hz:l.any (fun n=>n==0) with
 | true=>rw [A0 hz];rfl
 | false =>
  rw [hz] at h;simp only [cond_false] at h ⊢;cases hp:pm 1 l with
  | none=>rw [hp] at h;cases h
  | some r =>
   have:=F9 l 1 r hp;rw [Int.one_mul] at this;exact this
theorem uO:∀ (xs b:List Int),(∀ i,i<xs.length→b.getD i 0=1)→nR (nT xs b) xs.length=Hb xs
 | [],_,_=>rfl
 | x::xs,b,h=>by
  rw [List.length_cons,sj];have e0:nT (x::xs) b 0=x:=by have:=h 0 (by simp);simp only [nT,List.getD_cons_zero,this,Int.mul_one]
  have e1:(fun i=>nT (x::xs) b (i+1))=nT xs (b.drop 1):=by funext i;simp [nT,KH,Nat.add_comm]
  rw [e0,e1,uO xs (b.drop 1) (fun i hi=>by have:=h (i+1) (by simpa using hi);simpa [KH,Nat.add_comm] using this)]
  rfl
theorem Gp {S:Int} (h:(nf S).2=0):(nf S).1=S:=by
 unfold nf at h ⊢;cases hi:ct S with
 | true=>rfl
 | false=>rw [hi] at h;cases h
theorem Gy {xs:List Int} {n:Nat} (hn:n=xs.length) (h:(kM xs (ic n)).2=0):(kM xs (ic n)).1=Hb xs:=by
 subst hn;unfold kM at h ⊢;rw [KO (show xs.length=(ic xs.length).length by simp [ic])] at h ⊢;simp only [cond_true] at h ⊢;cases hl:decide (xs.length≤10000) with
 | false=>rw [hl] at h;cases h
 | true =>
  rw [hl] at h;simp only [cond_true] at h ⊢;cases ha:(xs.all ct&&(ic xs.length).all ct) with
  | false=>rw [ha] at h;cases h
  | true =>
   rw [ha] at h;simp only [cond_true] at h ⊢;rw [Gp h,uO];exact fun i hi=>yO hi
theorem C1 (f:ai→Int):∀ p:List aa,Hb (p.map fun m=>m.Coef*gM f m.Vars)=dj (gM f) p
 | []=>rfl
 | m::p=>by simp only [List.map_cons,Hb,dj,C1 f p]
theorem kx {p:List aa} {vs:List Value} (h:(fu p vs).2=0):(fu p vs).1=dj (gM (vv vs)) p:=by
 unfold fu at h ⊢;cases hv:aA p with
 | false=>rw [hv] at h;cases h
 | true =>
  rw [hv] at h;simp only [cond_true] at h ⊢;cases h1:p.any (vE vs) with
  | true=>rw [h1] at h;cases h
  | false =>
   rw [h1] at h;simp only [cond_false] at h ⊢;cases h2:p.any (yJ vs) with
   | true=>rw [h2] at h;cases h
   | false =>
    rw [h2] at h;simp only [cond_false] at h ⊢;cases h3:(p.map (fun m=>m.Coef::mU vs m)).any (fun l => !((dv l).2==0)) with
    | true=>rw [h3] at h;cases h
    | false =>
     rw [h3] at h;simp only [cond_false] at h ⊢;rw [Gy (by simp) h,List.map_map];rw [← C1 (vv vs) p];refine congrArg Hb (List.map_congr_left fun m hm => ?_);rw [List.any_eq_false] at h3;have h4:=h3 _ (List.mem_map.2 ⟨m,hm,rfl⟩);have h5:(dv (m.Coef::mU vs m)).2=0:=by simpa using h4
     show (dv (m.Coef::mU vs m)).1=_;rw [DZ h5];show m.Coef*Gc (m.Vars.map (num vs))=_;rw [Dv];rfl
theorem GA {p:List aa} (hs:p.Pairwise (wE aa.Vars)) (hm:∀ m∈p,BA m=true) (hl:p.length≤60):aA p=true:=by
 unfold aA;rw [KJ,decide_eq_true_eq,KU];refine ⟨fun j hj => ?_,hl⟩;have hj:j<p.length:=by simp only [List.mem_range'_1] at hj;omega
 unfold iD;rw [KJ,Bool.or_eq_true,decide_eq_true_eq];refine ⟨hm _ (cy hj),?_⟩;by_cases h0:j=0
 ·left;simp [h0]
 ·right;have:=List.pairwise_iff_getElem.1 hs (j-1) j (by omega) hj (by omega);rw [← pn hj,← pn (show j-1<p.length by omega)] at this;exact this
theorem Eh {L:List jA} {p:List aa} (h:bK (aK L) p):p.length≤L.length:=by
 have hn:(p.map aa.Vars).Nodup:=by rw [List.nodup_iff_pairwise_ne,List.pairwise_map];refine h.st.imp fun {a b} hab e => ?_;unfold wE at hab;rw [e,gJ] at hab;omega
 have:=ju (p.map aa.Vars) (L.map (·.1)) hn fun V hV=>by obtain ⟨m,hm,rfl⟩:=List.mem_map.1 hV;obtain ⟨c,hc,e⟩:=j5 h hm;exact List.mem_map.2 ⟨c,hc,e⟩
 simpa using this
theorem IU (f:ai→Int) (l:Linear):iG (gM f) (([([],l.Const,1)]:List jA)++l.Terms.map E5)=FJ f l:=by
 rw [jf];have h1:iG (gM f) ([([],l.Const,1)]:List jA)=l.Const:=by simp [iG,gM]
 have h2:∀ ts:List Coef,iG (gM f) (ts.map E5)=AD f ts:=by
  intro ts;induction ts with
  | nil=>rfl
  | cons t ts ih =>
   rw [List.map_cons];unfold iG AD;rw [ih];simp [E5,gM]
 rw [h1,h2];rfl
noncomputable def nU (l:Linear):List aa:=((dT l).getD ([],0)).1
theorem mI {l:Linear} (hv:bU l=true):dT l=some (nU l,0)∧jk l=some (nU l,0)∧aA (nU l)=true∧Bd (nU l)∧∀ f,dj (gM f) (nU l)=FJ f l:=by
 have hok:=xI hv;obtain ⟨p,k1,k2,k3,k4⟩:=AK hok.1 hok.2 hv;have hl12:=na hv;have hv2:aA p=true:=by
  have hlen:=Eh k1;simp only [List.length_append,KP,List.length_singleton] at hlen;refine GA k1.st (fun m hm => ?_) (by omega);have hm2:=(k1.mem m).1 hm;obtain ⟨c,hc,e⟩:=j5 k1 hm;have hb:=oU (B:=1000000) m.Vars (L:=([([],l.Const,1)]:List jA)++l.Terms.map E5) (by omega) (fun c hc=>by
   rcases List.mem_append.1 hc with hc | hc
   ·have:c=([],l.Const,1):=by simpa using hc
    have:=A4 hv;rw [‹c=_›];show -1000000≤l.Const*1∧l.Const*1≤1000000;omega
   ·obtain ⟨t,ht,rfl⟩:=List.mem_map.1 hc;have:=(nX hv t ht).1;show -1000000≤t.C*1∧t.C*1≤1000000;omega)
  have hlen2:(([([],l.Const,1)]:List jA)++l.Terms.map E5).length≤13:=by simp only [List.length_append,KP,List.length_singleton];omega
  rw [← hm2.2] at hb;generalize (([([],l.Const,1)]:List jA)++l.Terms.map E5).length=len at hb hlen2;unfold BA;have g1:(m.Coef==0)=false:=beq_eq_false_iff_ne.2 hm2.1;have hV:m.Vars.length≤8∧vp m.Vars=true∧m.Vars.all cR=true:=by
   rcases List.mem_append.1 hc with hc | hc
   ·have:c=([],l.Const,1):=by simpa using hc
    rw [this] at e;rw [← e];exact ⟨by simp,rfl,rfl⟩
   ·obtain ⟨t,ht,rfl⟩:=List.mem_map.1 hc;have e:[t.Var]=m.Vars:=e;rw [← e];refine ⟨by simp,rfl,?_⟩;simp [(nX hv t ht).2]
  rw [g1,KO (show -1099511627776≤m.Coef by omega),KO (show m.Coef≤1099511627776 by omega),KO hV.1,hV.2.1,hV.2.2];rfl
 have hlim:limited p=(p,0):=by unfold limited;rw [hv2];rfl
 rw [hlim] at k3 k4;have he:nU l=p:=by unfold nU;rw [k3];rfl
 rw [he];exact ⟨k3,k4,hv2,k2,fun f=>by rw [sq k1,IU]⟩
noncomputable def gN (s p:List aa):List aa×Int:=(gQ s p).getD ([],0)
theorem yu {s p:List aa} (hs:aA s=true) (hp:aA p=true) (hBs:Bd s) (hBp:Bd p):fc s p=some (gN s p)∧iF s p=some (gN s p)∧((gN s p).2=0→aA (gN s p).1=true∧Bd (gN s p).1∧∀ f,dj (gM f) (gN s p).1=dj (gM f) s*dj (gM f) p):=by
 obtain ⟨q,h1,h2,h3⟩:=(kY hBs hBp).1 hs hp;obtain ⟨r,e1,e2⟩:=Fl hBs hBp;have he:gN s p=limited q:=by unfold gN;rw [h3];rfl
 rw [h3] at e1;have e1:=KT e1;rw [he,e1];refine ⟨?_,e2,fun h0 => ?_⟩
 ·obtain ⟨q2,g1,g2,g3⟩:=tu (de hs) (de hp);rw [g3,bK.uniq g1 h1,e1]
 ·rw [← e1] at h0 ⊢;obtain ⟨v1,v2⟩:=xV h0;rw [v2];refine ⟨v1,h2,fun f => ?_⟩;show dj (gM f) q=_;rw [sq h1,zt];have e:∀ W U:List ai,gM f (bV (W++U))=gM f W*gM f U:=fun W U=>by rw [zQ f (iJ (W++U)),CK]
  have e3:(fun W=>dj (fun U=>gM f (bV (W++U))) p)=fun W=>dj (gM f) p*gM f W:=by funext W;have:(fun U=>gM f (bV (W++U)))=fun U=>gM f W*gM f U:=funext fun U=>e W U;rw [this,um,Int.mul_comm]
  rw [e3,um,Int.mul_comm]
open Go.RowKit
def IJ (l:Linear):Prop:=l.Terms.length≤1000000∧∀ t∈l.Terms,t.Var.length≤1000000
theorem Jz {l:Linear} (h:IJ l) (hv:bU l=false):dT l=some ([],1)∧jk l=some ([],1):=by
 refine ⟨?_,?_⟩
 ·unfold dT;rw [nO l h.1 h.2,hv];rfl
 ·unfold jk;rw [gZ l,hv];rfl
def rV (n:Int):List aa:=[⟨n,[]⟩]
theorem qg {n:Int} (h0:n≠0) (h1 : -1099511627776≤n) (h2:n≤1099511627776):aA (rV n)=true:=by
 have g1:(n==0)=false:=beq_eq_false_iff_ne.2 h0;have:BA ⟨n,[]⟩=true:=by unfold BA;show (!(n==0)&&(decide (-1099511627776≤n)&&(decide (n≤1099511627776)&&_)))=true;rw [g1,KO h1,KO h2];rfl
 show ((BA ⟨n,[]⟩&&true)&&true&&true)=true;rw [this];rfl
theorem yi (n:Int):Bd (rV n):=⟨by simp [rV],fun m hm=>by
 have:m=⟨n,[]⟩:=by simpa [rV] using hm
 rw [this];exact ⟨by simp,fun v hv=>by cases hv⟩⟩
theorem Fa (f:ai→Int) (n:Int):dj (gM f) (rV n)=n:=by simp [rV,dj,gM]
noncomputable def jZ (s p:List aa):List aa×Int:=(fD s p).getD ([],0)
theorem wA (f:ai→Int):∀ p:List aa,iG (gM f) (p.map (sf 1))=dj (gM f) p
 | []=>rfl
 | m::p=>by rw [List.map_cons];show _+iG (gM f) (p.map (sf 1))=_;rw [wA f p];have:=zQ f (iJ m.Vars);simp [sf,dj,this]
theorem yn {s p:List aa} (hs:aA s=true) (hp:aA p=true) (hBs:Bd s) (hBp:Bd p):fD s p=some (jZ s p)∧gB s p=some (jZ s p)∧((jZ s p).2=0→aA (jZ s p).1=true∧Bd (jZ s p).1∧∀ f,dj (gM f) (jZ s p).1=dj (gM f) s+dj (gM f) p):=by
 obtain ⟨q,h1,h2,h3⟩:=oH hBs hBp hs hp;obtain ⟨r,e1,e2⟩:=Ge hBs hBp;have he:jZ s p=limited q:=by unfold jZ;rw [h3];rfl
 have hr:limited q=r:=by rw [h3] at e1;exact KT e1
 refine ⟨by rw [h3,he],by rw [e2,he,hr],fun h0 => ?_⟩;rw [he] at h0 ⊢;obtain ⟨v1,v2⟩:=xV h0;rw [v2];refine ⟨v1,h2,fun f => ?_⟩;show dj (gM f) q=_;rw [sq h1,jf,wA,wA]
noncomputable def pO (b:ai→List aa) (v:ai) (s:List aa):eM (List aa) (List aa) (List aa×Int):=bif (gN s (b v)).2==0 then .go (gN s (b v)).1 else .ret ([],(gN s (b v)).2)
noncomputable def qO (b:ai→List aa) (m:aa) (s:List aa):eM (List aa) (List aa) (List aa×Int):=match bM (pO b) (fun s=>s) m.Vars (rV m.Coef) with
 | .ret r=>.ret r
 | .brk q=>bif (jZ s q).2==0 then .go (jZ s q).1 else .ret ([],(jZ s q).2)
theorem sk {b:ai→List aa}:∀ (vs:List ai) (s:List aa),(∀ v∈vs,aA (b v)=true∧Bd (b v))→aA s=true→Bd s→∀ q,bM (pO b) (fun s=>s) vs s = .brk q→aA q=true∧Bd q∧∀ f,dj (gM f) q=dj (gM f) s*gM (fun v=>dj (gM f) (b v)) vs
 | [],s,_,h2,h3,q,h=>by
  cases h;exact ⟨h2,h3,fun f=>by simp [gM]⟩
 | x::l,s,h1,h2,h3,q,h=>by
  obtain ⟨o1,o2⟩:=h1 x (by simp);obtain ⟨_,_,m3⟩:=yu h2 o1 h3 o2;unfold bM pO at h;cases hc:((gN s (b x)).2==0) with
  | false=>rw [hc] at h;cases h
  | true =>
   rw [hc] at h;obtain ⟨v1,v2,v3⟩:=m3 (beq_iff_eq.1 hc);obtain ⟨w1,w2,w3⟩:=sk l (gN s (b x)).1 (fun y hy=>h1 y (by simp [hy])) v1 v2 q h;exact ⟨w1,w2,fun f=>by rw [w3,v3,gM,Int.mul_assoc]⟩
def JY (m:aa):Prop:=m.Coef≠0 ∧ -1099511627776≤m.Coef∧m.Coef≤1099511627776
theorem xX {p:List aa} (h:aA p=true) {m:aa} (hm:m∈p):JY m:=by
 have hs:=(KJ _ _ ▸ (show ((List.range' 0 (p.length-0)).all (iD p)&&decide (p.length≤60))=true from h)).1;obtain ⟨j,hj,rfl⟩:=List.mem_iff_getElem.1 hm;have h1:=KU.1 hs j (List.mem_range'_1.2 ⟨Nat.zero_le _,by omega⟩);have h2:BA (aP p j)=true:=by unfold iD at h1;rw [KJ] at h1;exact h1.1
 have e:aP p j=p[j]:=by unfold aP;rw [KH,KI hj,Option.getD_some]
 rw [e] at h2;unfold BA at h2;simp only [KJ,decide_eq_true_eq,Bool.not_eq_true',beq_eq_false_iff_ne] at h2;exact ⟨h2.1,h2.2.1,h2.2.2.1⟩
theorem xx {b:ai→List aa}:∀ (ms:List aa) (s:List aa),(∀ m∈ms,JY m)→(∀ m∈ms,∀ v∈m.Vars,aA (b v)=true∧Bd (b v))→aA s=true→Bd s→∀ q,bM (qO b) (fun s=>s) ms s = .brk q →
 aA q=true∧Bd q∧∀ f,dj (gM f) q=dj (gM f) s+dj (gM (fun v=>dj (gM f) (b v))) ms
 | [],s,_,_,h2,h3,q,h=>by
  cases h;exact ⟨h2,h3,fun f=>by simp [dj]⟩
 | m::l,s,hc,h1,h2,h3,q,h=>by
  have hm:=hc m (by simp);unfold bM qO at h;cases hq:bM (pO b) (fun s=>s) m.Vars (rV m.Coef) with
  | ret r=>rw [hq] at h;cases h
  | brk t =>
   rw [hq] at h;obtain ⟨t1,t2,t3⟩:=sk m.Vars (rV m.Coef) (h1 m (by simp)) (qg hm.1 hm.2.1 hm.2.2) (yi _) t hq;obtain ⟨_,_,a3⟩:=yn h2 t1 h3 t2;simp only at h;cases hz:((jZ s t).2==0) with
   | false=>rw [hz] at h;cases h
   | true =>
    rw [hz] at h;obtain ⟨v1,v2,v3⟩:=a3 (beq_iff_eq.1 hz);obtain ⟨w1,w2,w3⟩:=xx l (jZ s t).1 (fun x hx=>hc x (by simp [hx])) (fun x hx=>h1 x (by simp [hx])) v1 v2 q h;refine ⟨w1,w2,fun f => ?_⟩;rw [w3,v3,t3,Fa,dj];omega
def wM (v:ai):Linear:=⟨0,[⟨v,1⟩]⟩
theorem Fz (f:ai→Int) (v:ai):FJ f (wM v)=f v:=by simp [FJ,AD,wM]
def JS:Bind:=⟨0,[],⟨0,[]⟩,⟨[],[]⟩,[]⟩
def jt (v:ai) (b:Bind):Bool:=b.Kind==1&&b.Var==v
theorem DX (l:List Bind) (p:Bind→Bool):∀ x:Option Nat,(match x with | some j=>((j:Nat):Int) | none => -1)=idxOf p l →
 ((some (match x with | some j=>Out.ret ((j:Nat):Int) | none=>Out.brk ()):Option (Out Unit Int)).bind (Sh.aft fun _=>some (-1)))=some (idxOf p l)
 | none,hx=>by rw [← hx];rfl
 | some j,hx=>by rw [← hx];rfl
theorem BZ (bs:List Bind) (v:ai):b9 bs v=some (idxOf (jt v) bs):=by
 unfold b9;rw [ot (f:=fun j=>((j:Nat):Int)) (fun j=>jt v (bs.getD j JS)) _ _ () (fun j u _ _=>by
  show ((hZ (bs.getD j JS) v).bind _)=_;unfold hZ jt;cases (bs.getD j JS).Kind==1
  ·rfl
  ·cases (bs.getD j JS).Var==v<;>rfl)]
 exact DX bs (jt v) _ (mx (jt v) JS bs)
def Cy (v:ai):List Bind→Linear→Linear
 | [],d=>d
 | b::l,d=>bif jt v b then b.Dim else Cy v l d
theorem Da (v:ai) (d:Linear):∀ l:List Bind,(bif decide (idxOf (jt v) l≥0) then (l.getD (idxOf (jt v) l).toNat JS).Dim else d)=Cy v l d∧idxOf (jt v) l<l.length
 | []=>⟨rfl,by simp [idxOf]⟩
 | b::l=>by
  obtain ⟨h1,h2⟩:=Da v d l;have hge:=mw (jt v) l;rw [Cy];simp only [idxOf,List.length_cons];rcases Bool.eq_false_or_eq_true (jt v b) with hb | hb
  ·simp only [hb,cond_true];exact ⟨rfl,by omega⟩
  ·simp only [hb,cond_false];by_cases hn:idxOf (jt v) l = -1
   ·simp only [hn,beq_self_eq_true,cond_true] at h1 ⊢;exact ⟨h1,by omega⟩
   ·have e:(idxOf (jt v) l == -1)=false:=beq_eq_false_iff_ne.2 hn;have e2:decide (idxOf (jt v) l≥0)=true:=KO (by omega);have e3:decide (idxOf (jt v) l+1≥0)=true:=KO (by omega);simp only [e2,cond_true] at h1;simp only [e,e3,cond_false,cond_true];refine ⟨?_,by omega⟩;rw [← h1];rw [show (idxOf (jt v) l+1).toNat=(idxOf (jt v) l).toNat+1 by omega,List.getD_cons_succ]
def gS (bs:List Bind) (v:ai):Linear:=Cy v bs (wM v)
theorem Al {α σ ρ:Type} (p:α→Bool) (f:α→σ→σ) (r:ρ):∀ (l:List α) (s:σ),bM (fun x s=>bif p x then (.go (f x s):eM σ σ ρ) else .ret r) (fun s=>s) l s=bif l.all p then .brk (l.foldl (fun s x=>f x s) s) else .ret r
 | [],s=>rfl
 | x::l,s=>by
  unfold bM;rw [List.all_cons,List.foldl_cons];cases p x with
  | false=>rfl
  | true =>
   simp only [cond_true,Bool.true_and];exact Al p f r l (f x s)
theorem J6 {l:Linear} (h:IJ l):dT l=some (bif bU l then (nU l,0) else ([],1))∧jk l=some (bif bU l then (nU l,0) else ([],1)):=by
 cases hv:bU l with
 | false=>exact Jz h hv
 | true=>exact ⟨(mI hv).1,(mI hv).2.1⟩
def okB (bs:List Bind):Prop:=∀ b∈bs,IJ b.Dim
theorem DA {v:ai} (hv:v.length≤1000000):∀ {bs:List Bind} {d:Linear},okB bs→IJ d→IJ (Cy v bs d)
 | [],d,_,hd=>hd
 | b::l,d,h,hd=>by
  rw [Cy];cases jt v b with
  | true=>exact h b (by simp)
  | false=>exact DA hv (fun x hx=>h x (by simp [hx])) hd
theorem Hs {v:ai} (hv:v.length≤1000000):IJ (wM v):=⟨by simp [wM],fun t ht=>by
 have:t=⟨v,1⟩:=by simpa [wM] using ht
 rw [this];exact hv⟩
noncomputable def qx (bs:List Bind) (v:ai):List aa:=nU (gS bs v)
noncomputable def DJ (b:ai→List aa) (v:ai) (s:List aa):eM (List aa) (List aa) (eM (List aa) (List aa) (List aa×Int)):=bif (gN s (b v)).2==0 then .go (gN s (b v)).1 else .ret (.ret ([],(gN s (b v)).2))
theorem zv (b:ai→List aa):∀ (vs:List ai) (s:List aa),bM (DJ b) (fun s=>s) vs s=match bM (pO b) (fun s=>s) vs s with | .brk q=>.brk q | .ret r=>.ret (.ret r)
 | [],s=>rfl
 | v::vs,s=>by
  unfold bM DJ pO;cases (gN s (b v)).2==0 with
  | false=>rfl
  | true=>exact zv b vs (gN s (b v)).1
theorem zy (F:ai→List aa) (v:ai):∀ (l:List ai) (s:List (ai×List aa)),v∈l∨dy [] v s=F v→dy [] v (l.foldl (fun s x=>dn x (F x) s) s)=F v
 | [],s,h=>by
  rcases h with h | h
  ·cases h
  ·exact h
 | x::l,s,h=>by
  rw [List.foldl_cons];refine zy F v l _ ?_;by_cases hx:x=v
  ·right;rw [oq,if_pos hx,hx]
  ·rcases h with h | h
   ·rcases List.mem_cons.1 h with rfl | h
    ·exact absurd rfl hx
    ·exact .inl h
   ·right;rw [oq,if_neg hx];exact h
noncomputable def Jt (o:Out (List aa) (List aa×Int)):List aa×Int:=match o with | .brk q=>(q,0) | .ret r=>r
noncomputable def Hj (bs:List Bind) (p:List aa) (names:List ai):List aa×Int:=bif names.all (fun v=>bU (gS bs v)) then Jt (bM (qO (qx bs)) (fun s=>s) p []) else ([],1)
theorem xW {bs:List Bind} {v:ai} (h:bU (gS bs v)=true):aA (qx bs v)=true∧Bd (qx bs v):=by obtain ⟨_,_,o1,o2,_⟩:=mI h;exact ⟨o1,o2⟩
theorem oI:aA []=true:=by decide
theorem wF {p:List aa} {bs:List Bind} (hB:Bd p) (hv:aA p=true) (hb:okB bs) {names:List ai} (hn:gD p=some names) (hlen:∀ v∈names,v.length≤1000000) (hmem:∀ m∈p,∀ v∈m.Vars,v∈names) :
 iR p bs=some (Hj bs p names):=by
 unfold iR;rw [cp p hB,hv,hn];simp only [ah,cond_true];rw [fP (σ:=List (ai×List aa)) (ε:=List (ai×List aa)) (ρ:=List aa×Int) (f:=fun s=>s) [] names (fun v s=>bif bU (gS bs v) then .go (dn v (qx bs v) s) else .ret ([],1)) (fun _ _=>True) (fun _ _=>rfl) [] trivial (fun j s hj _=>by
  have hm:names.getD j []∈names:=by rw [KH,KI hj];exact List.getElem_mem hj
  generalize names.getD j []=v at hm;refine ⟨?_,fun _ _=>trivial⟩;rw [show nq v=some (wM v) from rfl,BZ];simp only [ah];obtain ⟨s1,s2⟩:=Da v (wM v) bs;have he:((bif decide (idxOf (jt v) bs≥0) then bR (0≤idxOf (jt v) bs∧idxOf (jt v) bs<(bs.length:Int)) <| some ((((bs.getD (idxOf (jt v) bs).toNat (⟨0,[],⟨0,[]⟩,⟨[],[]⟩,[]⟩)).Dim).Const),(((bs.getD (idxOf (jt v) bs).toNat (⟨0,[],⟨0,[]⟩,⟨[],[]⟩,[]⟩)).Dim).Terms)) else some ((wM v).Const,(wM v).Terms)):Option (Int×List Coef))=some ((gS bs v).Const,(gS bs v).Terms):=by
   by_cases hi:idxOf (jt v) bs≥0
   ·have e2:decide (idxOf (jt v) bs≥0)=true:=KO hi;rw [e2] at s1 ⊢;simp only [cond_true] at s1 ⊢;rw [aq ⟨hi,s2⟩];unfold gS;rw [← s1];rfl
   ·have e2:decide (idxOf (jt v) bs≥0)=false:=KN hi;rw [e2] at s1 ⊢;simp only [cond_false] at s1 ⊢;unfold gS;rw [← s1]
  rw [he];simp only [ah];show ((dT (gS bs v)).bind _)=_;have ho:IJ (gS bs v):=DA (hlen v hm) hb (Hs (hlen v hm));rw [(J6 ho).1];simp only [ah];cases hvl:bU (gS bs v)<;>rfl)]
 rw [Al (fun v=>bU (gS bs v)) (fun v s=>dn v (qx bs v) s)];unfold Hj;cases hall:names.all (fun v=>bU (gS bs v)) with
 | false=>rfl
 | true =>
  have hok:∀ v∈names,bU (gS bs v)=true:=fun v hv=>KU.1 hall v hv;simp only [cond_true,ah,Sh.aft];have hget:∀ v∈names,dy [] v (names.foldl (fun s x=>dn x (qx bs x) s) [])=qx bs v:=fun v hv=>zy (qx bs) v names [] (.inl hv);generalize names.foldl (fun s x=>dn x (qx bs x) s) []=u0 at hget;rw [fP (σ:=List aa) (ε:=List aa) (ρ:=List aa×Int) (f:=fun s=>s) ⟨0,[]⟩ p (qO (qx bs)) (fun _ s=>aA s=true∧Bd s) (fun _ _=>rfl) [] ⟨oI,pZ⟩ (fun j s hj ⟨hs,hBs⟩=>by
   have hm:p.getD j ⟨0,[]⟩∈p:=by rw [KH,KI hj];exact List.getElem_mem hj
   generalize p.getD j ⟨0,[]⟩=m at hm;have hc:=xX hv hm;have hvs:=hmem m hm;rw [fP (σ:=List aa) (ε:=List aa) (ρ:=eM (List aa) (List aa) (List aa×Int)) (f:=fun s=>s) [] m.Vars (DJ (qx bs)) (fun _ s=>aA s=true∧Bd s) (fun _ _=>rfl) [aa.mk m.Coef []] ⟨qg hc.1 hc.2.1 hc.2.2,yi _⟩ (fun i t hi ⟨ht,hBt⟩=>by
    have hw:m.Vars.getD i []∈m.Vars:=by rw [KH,KI hi];exact List.getElem_mem hi
    generalize m.Vars.getD i []=w at hw;have hwn:=hvs w hw;obtain ⟨o1,o2⟩:=xW (hok w hwn);obtain ⟨m1,_,m3⟩:=yu ht o1 hBt o2;rw [hget w hwn,m1];simp only [ah];unfold DJ;cases hz:((gN t (qx bs w)).2==0) with
    | false=>exact ⟨rfl,fun s' h=>by cases h⟩
    | true =>
     refine ⟨rfl,fun s' h => ?_⟩;cases h;obtain ⟨v1,v2,_⟩:=m3 (beq_iff_eq.1 hz);exact ⟨v1,v2⟩)]
   rw [zv];unfold qO;have e0:[aa.mk m.Coef []]=rV m.Coef:=rfl;rw [e0];cases hq:bM (pO (qx bs)) (fun s=>s) m.Vars (rV m.Coef) with
   | ret r =>
    simp only [hq];exact ⟨rfl,fun s' h=>by cases h⟩
   | brk t =>
    simp only [hq];obtain ⟨t1,t2,_⟩:=sk m.Vars (rV m.Coef) (fun v hv=>xW (hok v (hvs v hv))) (qg hc.1 hc.2.1 hc.2.2) (yi _) t hq;obtain ⟨a1,_,a3⟩:=yn hs t1 hBs t2;simp only [ah,Sh.aft];rw [a1];simp only [ah];cases hz:((jZ s t).2==0) with
    | false=>exact ⟨rfl,fun s' h=>by cases h⟩
    | true =>
     refine ⟨rfl,fun s' h => ?_⟩;cases h;obtain ⟨v1,v2,_⟩:=a3 (beq_iff_eq.1 hz);exact ⟨v1,v2⟩)]
  cases bM (qO (qx bs)) (fun s=>s) p []<;>rfl
theorem Ax:∀ (l:List (List ai)) (n:Nat),(∀ x∈l,x.length≤n)→l.flatten.length≤n*l.length
 | [],n,_=>by simp
 | x::l,n,h=>by have h1:=Ax l n fun y hy=>h y (by simp [hy]);have h2:=h x (by simp);simp only [List.flatten_cons,List.length_append,List.length_cons,Nat.mul_add,Nat.mul_one];omega
theorem HU {a b:ai} (h:A1 a b):a≠b:=fun e=>by subst e;unfold A1 at h;rw [eK] at h;cases h
@[irreducible] def HQ (l:Linear) (n:Int):Bool:=(fO l n).getD false
theorem Dw (l:Linear) (n:Int):fO l n=some (HQ l n):=by obtain ⟨b,hb⟩:=vB l n;unfold HQ;rw [hb];rfl
theorem Iw {l:Linear} {n:Int} (h:HQ l n=true) (hn:n≤1000):IJ l:=by obtain ⟨f1,f2⟩:=yG (h ▸ Dw l n);exact ⟨by omega,fun t ht=>by have:=f2 t ht;omega⟩
def vf (vs:List Value):Prop:=∀ x∈vs,-20≤x.N∧x.N≤20
theorem yI {vs:List Value} {v:ai} (hv:v∈vs.map Value.Var):0≤idxOf (qB v) vs:=by
 by_cases h:idxOf (qB v) vs<0
 ·rw [mz] at h;rw [List.any_eq_false] at h;obtain ⟨x,hx,rfl⟩:=List.mem_map.1 hv;have:=h x hx;unfold qB at this;simp at this
 ·omega
theorem vu {vs:List Value} (hs:vf vs) {v:ai} (hv:v∈vs.map Value.Var) : -20≤vv vs v∧vv vs v≤20:=by obtain ⟨h1,h2⟩:=pr (qB v) (⟨[],0⟩:Value) vs (yI hv);unfold vv;rw [KH,KI h1,Option.getD_some];exact hs _ (List.getElem_mem h1)
theorem DI {p:List aa} {vs:List Value} (h:∀ v∈varsOf p,v∈vs.map Value.Var):p.any (vE vs)=false:=by rw [List.any_eq_false];intro m hm;unfold vE;rw [Bool.not_eq_true,List.any_eq_false];intro v hv;unfold pN look;have:=yI (h v (List.mem_flatten.2 ⟨m.Vars,List.mem_map.2 ⟨m,hm,rfl⟩,hv⟩));rw [decide_eq_true_eq];omega
theorem Jn {p:List aa} {vs:List Value} (hs:vf vs) (h:∀ v∈varsOf p,v∈vs.map Value.Var):p.any (yJ vs)=false:=by rw [List.any_eq_false];intro m hm;unfold yJ mU;rw [Bool.not_eq_true,List.any_eq_false];intro n hn;obtain ⟨v,hv,rfl⟩:=List.mem_map.1 hn;have : -20≤num vs v∧num vs v≤20:=vu hs (h v (List.mem_flatten.2 ⟨m.Vars,List.mem_map.2 ⟨m,hm,rfl⟩,hv⟩));have:ct (num vs v)=true:=bH.2 (by omega);rw [this];simp
theorem z6 {p:List aa} (h:aA p=true):p.length≤60:=by unfold aA at h;rw [KJ,decide_eq_true_eq] at h;exact h.2
theorem Hm (xs:List Int) (n:Nat) (hn:n=xs.length) (hl:n≤60):(kM xs (ic n)).2=0∨(kM xs (ic n)).2=2:=by
 subst hn;unfold kM;rw [KO (show xs.length=(ic xs.length).length by simp [ic]),KO (show xs.length≤10000 by omega)];simp only [cond_true];cases (xs.all ct&&(ic xs.length).all ct) with
 | false=>right;rfl
 | true =>
  simp only [cond_true];unfold nf;cases ct (nR (nT xs (ic xs.length)) xs.length)
  ·right;rfl
  ·left;rfl
theorem Bv {p:List aa} {vs:List Value} (hv:aA p=true) (h:∀ v∈varsOf p,v∈vs.map Value.Var):(fu p vs).2=0∨(fu p vs).2=2:=by
 unfold fu;rw [hv,DI h];simp only [cond_true,cond_false];cases p.any (yJ vs) with
 | true=>right;rfl
 | false =>
  simp only [cond_false];cases (p.map (fun m=>m.Coef::mU vs m)).any (fun l => !((dv l).2==0)) with
  | true=>right;rfl
  | false =>
   simp only [cond_false];exact Hm _ _ (by simp) (z6 hv)
theorem JC {xs:List Int} {n:Nat} (h:(kM xs (ic n)).2=0):ct (kM xs (ic n)).1=true:=by
 unfold kM at h ⊢;cases h1:decide (xs.length=(ic n).length) with
 | false=>rw [h1] at h;cases h
 | true =>
  rw [h1] at h;simp only [cond_true] at h ⊢;cases h2:decide (xs.length≤10000) with
  | false=>rw [h2] at h;cases h
  | true =>
   rw [h2] at h;simp only [cond_true] at h ⊢;cases h3:(xs.all ct&&(ic n).all ct) with
   | false=>rw [h3] at h;cases h
   | true =>
    rw [h3] at h;simp only [cond_true] at h ⊢;unfold nf at h ⊢;cases h4:ct (nR (nT xs (ic n)) xs.length) with
    | false=>rw [h4] at h;cases h
    | true=>exact h4
theorem tW {p:List aa} {vs:List Value} (h:(fu p vs).2=0):ct (fu p vs).1=true:=by
 unfold fu at h ⊢;cases hv:aA p with
 | false=>rw [hv] at h;cases h
 | true =>
  rw [hv] at h;simp only [cond_true] at h ⊢;cases h1:p.any (vE vs) with
  | true=>rw [h1] at h;cases h
  | false =>
   rw [h1] at h;simp only [cond_false] at h ⊢;cases h2:p.any (yJ vs) with
   | true=>rw [h2] at h;cases h
   | false =>
    rw [h2] at h;simp only [cond_false] at h ⊢;cases h3:(p.map (fun m=>m.Coef::mU vs m)).any (fun l => !((dv l).2==0)) with
    | true=>rw [h3] at h;cases h
    | false =>
     rw [h3] at h;simp only [cond_false] at h ⊢;exact JC h
theorem Jq {l:Linear} (hv:bU l=true):∀ m∈nU l,m.Vars=[]∨∃ t∈l.Terms,m.Vars=[t.Var]:=by
 have hok:=xI hv;obtain ⟨p,k1,k2,k3,k4⟩:=AK hok.1 hok.2 hv;have he:nU l=(limited p).1:=by unfold nU;rw [k3];rfl
 intro m hm;rw [he] at hm;unfold limited at hm;cases hvp:aA p with
 | false=>rw [hvp] at hm;cases hm
 | true =>
  rw [hvp] at hm;obtain ⟨c,hc,e⟩:=j5 k1 hm;rcases List.mem_append.1 hc with hc | hc
  ·have:c=([],l.Const,1):=by simpa using hc
   rw [this] at e;exact .inl e.symm
  ·obtain ⟨t,ht,rfl⟩:=List.mem_map.1 hc;exact .inr ⟨t,ht,e.symm⟩
theorem GO {c n:Int} (hc : -1099511627776≤c∧c≤1099511627776) (hn : -20≤n∧n≤20):(dv [c,n]).2=0 ∧ -21990232555520≤(dv [c,n]).1∧(dv [c,n]).1≤21990232555520:=by
 unfold dv;cases hz:([c,n].any fun n=>n==0) with
 | true=>exact ⟨rfl,(by decide:(-21990232555520:Int)≤0),(by decide:(0:Int)≤21990232555520)⟩
 | false =>
  simp only [cond_false];obtain ⟨b1,b2⟩:=prod_bound hc.1 hc.2 hn.1 hn.2;have e1:ct 1=true:=rfl;have e2:ct c=true:=bH.2 (by omega);have e3:ct (1*c)=true:=by rw [Int.one_mul];exact e2
  have e4:ct n=true:=bH.2 (by omega);have e5:ct (1*c*n)=true:=by rw [Int.one_mul];exact bH.2 (by omega)
  have:pm 1 [c,n]=some (1*c*n):=by unfold pm;rw [e1,e2,e3];simp only [Bool.and_self,cond_true];unfold pm;rw [e3,e4,e5];simp only [Bool.and_self,cond_true];rfl
  rw [this,Int.one_mul];exact ⟨rfl,(by omega : -21990232555520≤c*n),(by omega:c*n≤21990232555520)⟩
theorem Ew {c:Int} (hc : -1099511627776≤c∧c≤1099511627776):(dv [c]).2=0 ∧ -21990232555520≤(dv [c]).1∧(dv [c]).1≤21990232555520:=by
 unfold dv;cases hz:([c].any fun n=>n==0) with
 | true=>exact ⟨rfl,(by decide:(-21990232555520:Int)≤0),(by decide:(0:Int)≤21990232555520)⟩
 | false =>
  simp only [cond_false];have e1:ct 1=true:=rfl;have e2:ct c=true:=bH.2 (by omega);have e3:ct (1*c)=true:=by rw [Int.one_mul];exact e2
  have:pm 1 [c]=some (1*c):=by unfold pm;rw [e1,e2,e3];simp only [Bool.and_self,cond_true];rfl
  rw [this,Int.one_mul];exact ⟨rfl,(by omega : -21990232555520≤c),(by omega:c≤21990232555520)⟩
theorem xF:∀ (xs:List Int),(∀ x∈xs,-21990232555520≤x∧x≤21990232555520) → -(21990232555520*(xs.length:Int))≤Hb xs∧Hb xs≤21990232555520*(xs.length:Int)
 | [],_=>by simp [Hb]
 | x::xs,h=>by have h1:=xF xs fun y hy=>h y (by simp [hy]);have h2:=h x (by simp);simp only [Hb,List.length_cons];omega
theorem Eo {xs:List Int} {n:Nat} (hn:n=xs.length) (hl:n≤60) (h:∀ x∈xs,-21990232555520≤x∧x≤21990232555520):(kM xs (ic n)).2=0:=by subst hn;unfold kM;rw [KO (show xs.length=(ic xs.length).length by simp [ic]),KO (show xs.length≤10000 by omega)];simp only [cond_true];have ha:xs.all ct=true:=KU.2 fun x hx=>bH.2 (by have:=h x hx;omega);rw [ha,AJ];simp only [Bool.and_self,cond_true];rw [uO xs _ (fun i hi=>yO hi)];have:=xF xs h;unfold nf;rw [bH.2 (by omega)];rfl
theorem Hu {l:Linear} {vs:List Value} (hv:bU l=true) (hs:vf vs) (h:∀ t∈l.Terms,t.Var∈vs.map Value.Var):fu (nU l) vs=(FJ (vv vs) l,0):=by
 obtain ⟨_,_,o1,o2,o3⟩:=mI hv;have hsrc:=Jq hv;have hvars:∀ v∈varsOf (nU l),v∈vs.map Value.Var:=fun v hv=>by
  obtain ⟨x,hx,hvx⟩:=List.mem_flatten.1 hv;obtain ⟨m,hm,rfl⟩:=List.mem_map.1 hx;rcases hsrc m hm with e | ⟨t,ht,e⟩
  ·rw [e] at hvx;cases hvx
  ·rw [e] at hvx;rw [List.mem_singleton.1 hvx];exact h t ht
 have h0:(fu (nU l) vs).2=0:=by
  unfold fu;rw [o1,DI hvars,Jn hs hvars];simp only [cond_true,cond_false];have hp:∀ m∈nU l,(dv (m.Coef::mU vs m)).2=0 ∧ -21990232555520≤(dv (m.Coef::mU vs m)).1∧(dv (m.Coef::mU vs m)).1≤21990232555520:=fun m hm=>by
   have hc:=xX o1 hm;rcases hsrc m hm with e | ⟨t,ht,e⟩
   ·unfold mU;rw [e];exact Ew hc.2
   ·unfold mU;rw [e];exact GO hc.2 (vu hs (h t ht))
  have h3:((nU l).map (fun m=>m.Coef::mU vs m)).any (fun l => !((dv l).2==0))=false:=by rw [List.any_eq_false];intro x hx;obtain ⟨m,hm,rfl⟩:=List.mem_map.1 hx;rw [(hp m hm).1];simp
  rw [h3];simp only [cond_false];refine Eo (by simp) (z6 o1) fun x hx => ?_;obtain ⟨y,hy,rfl⟩:=List.mem_map.1 hx;obtain ⟨m,hm,rfl⟩:=List.mem_map.1 hy;exact (hp m hm).2
 refine Prod.ext ?_ h0;rw [kx h0,o3]
theorem xl {b:ai→List aa}:∀ (vs:List ai) (s:List aa) (r:List aa×Int),bM (pO b) (fun s=>s) vs s = .ret r→r.1=[]∧r.2≠0
 | [],s,r,h=>by cases h
 | x::l,s,r,h=>by
  unfold bM pO at h;cases hc:((gN s (b x)).2==0) with
  | true=>rw [hc] at h;exact xl l _ r h
  | false =>
   rw [hc] at h;cases h;exact ⟨rfl,beq_eq_false_iff_ne.1 hc⟩
theorem xL {b:ai→List aa}:∀ (ms s:List aa) (r:List aa×Int),bM (qO b) (fun s=>s) ms s = .ret r→r.1=[]∧r.2≠0
 | [],s,r,h=>by cases h
 | m::l,s,r,h=>by
  unfold bM qO at h;cases hq:bM (pO b) (fun s=>s) m.Vars (rV m.Coef) with
  | ret t=>rw [hq] at h;cases h;exact xl _ _ _ hq
  | brk q =>
   rw [hq] at h;simp only at h;cases hc:((jZ s q).2==0) with
   | true=>rw [hc] at h;exact xL l _ r h
   | false =>
    rw [hc] at h;cases h;exact ⟨rfl,beq_eq_false_iff_ne.1 hc⟩
theorem sR {f g:ai→Int}:∀ {V:List ai},(∀ v∈V,f v=g v)→gM f V=gM g V
 | [],_=>rfl
 | v::V,h=>by simp only [gM];rw [h v (by simp),sR fun w hw=>h w (by simp [hw])]
theorem rf {p:List aa} (hB:Bd p) (hv:aA p=true):∃ r,gD p=some r∧fE p=some r∧r.length≤1000000∧(∀ v,v∈r↔v∈varsOf p)∧∀ v∈r,v.length≤1000000:=by
 obtain ⟨r,e1,_,g⟩:=rz hB;obtain ⟨r2,e2,e3⟩:=D4 hB;rw [e1] at e2;obtain rfl:=KT e2;obtain ⟨g1,g2⟩:=g hv;have hin:∀ v∈r,∃ m∈p,v∈m.Vars:=fun v hv=>by have:=(g2 v).1 hv;unfold varsOf at this;obtain ⟨l,hl,hvl⟩:=List.mem_flatten.1 this;obtain ⟨m,hm,rfl⟩:=List.mem_map.1 hl;exact ⟨m,hm,hvl⟩
 have hok:=de hv;refine ⟨r,e1,e3,?_,g2,fun v hv => ?_⟩
 ·have hnd:r.Nodup:=g1.imp fun {a b} h=>HU h;have h1:=ju r (varsOf p) hnd fun v hv=>(g2 v).1 hv;have h2:(varsOf p).length≤400*(p.map aa.Vars).length:=Ax _ 400 fun x hx=>by obtain ⟨m,hm,rfl⟩:=List.mem_map.1 hx;exact (hok.2 m hm).1.1
  have h3:=hok.1;rw [KP] at h2;omega
 ·obtain ⟨m,hm,h⟩:=hin v hv;exact (hB.2 m hm).2 v h
theorem El {p:List aa} {bs:List Bind} (hB:Bd p) (hv:aA p=true) (hb:okB bs):∃ r,iR p bs=some r∧Bd r.1∧(r.2=0→∀ f,dj (gM f) r.1=dj (gM fun v=>FJ f (gS bs v)) p):=by
 obtain ⟨names,e1,_,_,g2,hlen⟩:=rf hB hv;have hmem:∀ m∈p,∀ v∈m.Vars,v∈names:=fun m hm v hv=>(g2 v).2 (by
  unfold varsOf;exact List.mem_flatten.2 ⟨m.Vars,List.mem_map.2 ⟨m,hm,rfl⟩,hv⟩)
 refine ⟨Hj bs p names,wF hB hv hb e1 hlen hmem,?_⟩;unfold Hj;cases hall:names.all (fun v=>bU (gS bs v)) with
 | false=>exact ⟨pZ,fun h=>by cases h⟩
 | true =>
  have hok:∀ v∈names,bU (gS bs v)=true:=fun v hv=>KU.1 hall v hv;simp only [cond_true];cases hl:bM (qO (qx bs)) (fun s=>s) p [] with
  | ret r =>
   obtain ⟨r1,r2⟩:=xL p [] r hl;unfold Jt;refine ⟨by simp only;rw [r1];exact pZ,fun h=>absurd h r2⟩
  | brk q =>
   obtain ⟨w1,w2,w3⟩:=xx p [] (fun m hm=>xX hv hm) (fun m hm v hvm=>xW (hok v (hmem m hm v hvm))) oI pZ q hl;unfold Jt;refine ⟨w2,fun _ f => ?_⟩;simp only;rw [w3];rw [show dj (gM f) []=0 from rfl,Int.zero_add];refine qi fun m hm=>sR fun v hvm => ?_;obtain ⟨_,_,_,_,o3⟩:=mI (hok v (hmem m hm v hvm));exact o3 f
def Gj (names:List ai) (x2:Int×Int×Int×Int×Int×Int):Nat→List Value→Option (eM (List Value) (List Value) Empty):=fun i0 s0 =>
 ((
  bif ((((i0:Nat):Int).tmod 6)==0) then (
   bR ((s0.length+1)*24≤140737488355328) <|
   some (s0++[(Value.mk (names.getD i0 []) ((IntKind.wrap .i64 x2.1).tmod 21))])
  ) else (
   bif ((((i0:Nat):Int).tmod 6)==1) then (
    bR ((s0.length+1)*24≤140737488355328) <|
    some (s0++[(Value.mk (names.getD i0 []) ((IntKind.wrap .i64 x2.2.1).tmod 21))])
   ) else (
    bif ((((i0:Nat):Int).tmod 6)==2) then (
     bR ((s0.length+1)*24≤140737488355328) <|
     some (s0++[(Value.mk (names.getD i0 []) ((IntKind.wrap .i64 x2.2.2.1).tmod 21))])
    ) else (
     bif ((((i0:Nat):Int).tmod 6)==3) then (
      bR ((s0.length+1)*24≤140737488355328) <|
      some (s0++[(Value.mk (names.getD i0 []) ((IntKind.wrap .i64 x2.2.2.2.1).tmod 21))])
     ) else (
      bif ((((i0:Nat):Int).tmod 6)==4) then (
       bR ((s0.length+1)*24≤140737488355328) <|
       some (s0++[(Value.mk (names.getD i0 []) ((IntKind.wrap .i64 x2.2.2.2.2.1).tmod 21))])
      ) else (
       bR ((((i0:Nat):Int).tmod 6)=5) <|
       bR ((s0.length+1)*24≤140737488355328) <|
       some (s0++[(Value.mk (names.getD i0 []) ((IntKind.wrap .i64 x2.2.2.2.2.2).tmod 21))])
      )
     )
    )
   )
  )
 ):Option (List Value)).bind fun v0 =>
 some (.go v0)
theorem Ed (n:Int) : -20≤n.tmod 21∧n.tmod 21≤20:=by have h1:=Int.tmod_lt_of_pos n (show (0:Int)<21 by decide);have h2:=Int.lt_tmod_of_pos n (show (0:Int)<21 by decide);omega
theorem Iu {names:List ai} {x2:Int×Int×Int×Int×Int×Int} {i:Nat} {s:List Value} (hs:s.length≤100000000):∃ n,(-20≤n∧n≤20)∧Gj names x2 i s=some (.go (s++[⟨names.getD i [],n⟩])):=by
 have hm:(((i:Nat):Int).tmod 6)=((i % 6:Nat):Int):=(Int.ofNat_tmod i 6).symm;have hg:(s.length+1)*24≤140737488355328:=by omega
 unfold Gj;simp only [hm];have hk:i % 6<6:=Nat.mod_lt _ (by decide);generalize i % 6=k at hk;have h6:k=0∨k=1∨k=2∨k=3∨k=4∨k=5:=by omega
 rcases h6 with rfl | rfl | rfl | rfl | rfl | rfl
 ·exact ⟨_,Ed _,congrArg (fun o:Option (List Value)=>o.bind fun v0=>some (eM.go v0)) (aq (x:=some (s++[Value.mk (names.getD i []) ((IntKind.wrap .i64 x2.1).tmod 21)])) hg)⟩
 ·exact ⟨_,Ed _,congrArg (fun o:Option (List Value)=>o.bind fun v0=>some (eM.go v0)) (aq (x:=some (s++[Value.mk (names.getD i []) ((IntKind.wrap .i64 x2.2.1).tmod 21)])) hg)⟩
 ·exact ⟨_,Ed _,congrArg (fun o:Option (List Value)=>o.bind fun v0=>some (eM.go v0)) (aq (x:=some (s++[Value.mk (names.getD i []) ((IntKind.wrap .i64 x2.2.2.1).tmod 21)])) hg)⟩
 ·exact ⟨_,Ed _,congrArg (fun o:Option (List Value)=>o.bind fun v0=>some (eM.go v0)) (aq (x:=some (s++[Value.mk (names.getD i []) ((IntKind.wrap .i64 x2.2.2.2.1).tmod 21)])) hg)⟩
 ·exact ⟨_,Ed _,congrArg (fun o:Option (List Value)=>o.bind fun v0=>some (eM.go v0)) (aq (x:=some (s++[Value.mk (names.getD i []) ((IntKind.wrap .i64 x2.2.2.2.2.1).tmod 21)])) hg)⟩
 ·exact ⟨_,Ed _,congrArg (fun o:Option (List Value)=>o.bind fun v0=>some (eM.go v0)) ((aq (show ((5:Nat):Int)=5 from rfl)).trans (aq (x:=some (s++[Value.mk (names.getD i []) ((IntKind.wrap .i64 x2.2.2.2.2.2).tmod 21)])) hg))⟩
theorem Gn (names:List ai) (x2:Int×Int×Int×Int×Int×Int) (hn:names.length≤10000000):∃ u,cV (Gj names x2) (fun i0 s0=>s0) (names.length-0) 0 []=some (.brk u)∧u.map Value.Var=names∧vf u:=by
 obtain ⟨u,e,h1,h2⟩:=eD (body:=Gj names x2) (fin:=fun i0 s0=>s0) (fun j s=>s.map Value.Var=names.take j∧vf s) (names.length-0) 0 [] ⟨by simp,fun x hx=>by cases hx⟩ (fun j s _ hj ⟨a,b⟩=>by
  have hl:s.length≤100000000:=by have:=congrArg List.length a;rw [KP,List.length_take] at this;omega
  obtain ⟨n,hn,e⟩:=Iu (names:=names) (x2:=x2) (i:=j) hl;refine ⟨_,e,?_,fun x hx => ?_⟩
  ·have hj2:j<names.length:=by omega
   rw [List.map_append,a,List.take_add_one,KI hj2];simp [KH,KI hj2]
  ·rcases List.mem_append.1 hx with hx | hx
   ·exact b x hx
   ·rw [List.mem_singleton.1 hx];exact hn)
 refine ⟨u,e,?_,h2⟩;rw [h1];simp
theorem Gk (p:List aa):gU p=fE p:=rfl
theorem w6 (l:Linear) (h:l.Terms.length≤1000000):ko l=some (l.Terms.map Coef.Var):=by
 unfold ko;obtain ⟨u,e,h1⟩:=eD (σ:=List ai) (ε:=List ai) (ρ:=Empty) (body:=fun i0 s0=>bR ((s0.length+1)*16≤140737488355328) <| some (.go (s0++[((l.Terms.getD i0 ⟨[],0⟩).Var)]))) (fin:=fun i0 s0=>s0) (fun j s=>s=(l.Terms.map Coef.Var).take j) (l.Terms.length-0) 0 [] (by simp) (fun j s _ hj hs=>by
  have hl:s.length≤1000000:=by rw [hs,List.length_take,KP];omega
  refine ⟨_,aq (by omega),?_⟩;have hj2:j<l.Terms.length:=by omega
  have hj3:j<(l.Terms.map Coef.Var).length:=by rw [KP];exact hj2
  rw [hs,List.take_add_one,KI hj3];simp [KH,KI hj2])
 rw [e];simp only [ah,dJ];rw [h1];have:0+(l.Terms.length-0)=(l.Terms.map Coef.Var).length:=by simp
 rw [this,List.take_length]
theorem IV {s p:List aa} (hs:aA s=true) (hp:aA p=true) (hBs:Bd s) (hBp:Bd p):Bd (jZ s p).1∧(aA (jZ s p).1=true):=by
 obtain ⟨q,h1,h2,h3⟩:=oH hBs hBp hs hp;have he:jZ s p=limited q:=by unfold jZ;rw [h3];rfl
 rw [he];unfold limited;cases hv:aA q with
 | true=>exact ⟨h2,hv⟩
 | false=>exact ⟨pZ,oI⟩
theorem Jf {s p:List aa} (hs:aA s=true) (hp:aA p=true) (hBs:Bd s) (hBp:Bd p):Bd (gN s p).1:=by
 obtain ⟨q,h1,h2,h3⟩:=(kY hBs hBp).1 hs hp;have he:gN s p=limited q:=by unfold gN;rw [h3];rfl
 rw [he];unfold limited;cases hv:aA q with
 | true=>exact h2
 | false=>exact pZ
theorem JG {n:Int} (h:ct n=true):aW n=n:=yP (by have:=bH.1 h;unfold wV;omega)
theorem Is (x:Value) {vs:List Value} {v:ai} (h0:0≤idxOf (qB v) vs):vv (x::vs) v=if v=x.Var then x.N else vv vs v:=by
 unfold vv;by_cases h:v=x.Var
 ·rw [if_pos h];have:qB v x=true:=by unfold qB;rw [h];simp
  simp only [idxOf,this,cond_true];rfl
 ·rw [if_neg h];have hf:qB v x=false:=by unfold qB;rw [beq_eq_false_iff_ne];exact fun e=>h e.symm
  simp only [idxOf,hf,cond_false];have:(idxOf (qB v) vs == -1)=false:=beq_eq_false_iff_ne.2 (by omega);rw [this,cond_false];have:(idxOf (qB v) vs+1).toNat=(idxOf (qB v) vs).toNat+1:=by omega
  rw [this,List.getD_cons_succ]
theorem HE {x y:Int} (h:ct (x*y)=true) (hx:ct x=true) (hy:ct y=true):mulR x y=(x*y,0):=by unfold mulR;rw [h,hx,hy];rfl
theorem Ih (v n:ai) (l d:Linear):Cy v [⟨1,n,l,⟨[],[]⟩,[]⟩] d=if v=n then l else d:=by
 show (bif ((1:Int)==1&&n==v) then l else d)=_;by_cases h:v=n
 ·rw [if_pos h,h];simp
 ·rw [if_neg h];have:(n==v)=false:=beq_eq_false_iff_ne.2 fun e=>h e.symm;rw [this];rfl
theorem vq (x0:List aa×List aa) (x1:Linear) (x2:Int×Int×Int×Int×Int×Int):fV x0 x1 x2=some true:=by
 obtain ⟨a,b⟩:=x0;unfold fV;rw [rP];simp only [ah,cond_true,yL];cases hfa:ER a 5 with
 | false=>rfl
 | true =>
  cases hfb:ER b 5 with
  | false=>rfl
  | true =>
   have hBa:=GZ hfa (by decide);have hBb:=GZ hfb (by decide);simp only [cond_true,ah];rw [bt a hBa];simp only [ah];rw [bt b hBb];simp only [ah];cases hva:aA a with
   | false=>rfl
   | true =>
    cases hvb:aA b with
    | false=>rfl
    | true =>
     simp only [cond_true,ah,Dw,gZ];cases hfl:HQ x1 5 with
     | false=>rfl
     | true =>
      cases hvl:bU x1 with
      | false=>rfl
      | true =>
       simp only [cond_true,ah];obtain ⟨pa,ra,sa⟩:=yn hva hvb hBa hBb;obtain ⟨pm,rm,sm⟩:=yu hva hvb hBa hBb;have hpm:gQ a b=some (gN a b):=by obtain ⟨q,h1,h2,h3⟩:=(kY hBa hBb).1 hva hvb;unfold gN;rw [h3];rfl
       obtain ⟨hBs,hvs⟩:=IV hva hvb hBa hBb;have hBm:=Jf hva hvb hBa hBb;obtain ⟨r1,_,n1,l1,m1,k1⟩:=rf hBa hva;obtain ⟨r2,_,n2,l2,m2,k2⟩:=rf hBb hvb;obtain ⟨r3,_,n3,l3,m3,k3⟩:=rf hBs hvs;have hl12:=na hvl;have l4:(x1.Terms.map Coef.Var).length≤12:=by rw [KP];exact hl12
       rw [ra];simp only [ah];simp only [Gk];rw [n1];simp only [ah];rw [n2];simp only [ah];rw [aq (by omega),n3];simp only [ah];rw [aq (by rw [List.length_append];omega),w6 x1 (by omega)];simp only [ah];rw [aq (by rw [List.length_append,List.length_append];omega)];generalize hN:((r1++r2)++r3)++x1.Terms.map Coef.Var=names;have hlen:names.length≤10000000:=by rw [← hN];simp only [List.length_append];omega
       have in1:∀ v∈varsOf a,v∈names:=fun v hv=>by rw [← hN];simp [(m1 v).2 hv]
       have in2:∀ v∈varsOf b,v∈names:=fun v hv=>by rw [← hN];simp [(m2 v).2 hv]
       have in4:∀ t∈x1.Terms,t.Var∈names:=fun t ht=>by rw [← hN];exact List.mem_append_right _ (List.mem_map.2 ⟨t,ht,rfl⟩)
       have hlenV:∀ v∈names,v.length≤1000000:=fun v hv=>by
        rw [← hN] at hv;rcases List.mem_append.1 hv with hv | hv
        ·rcases List.mem_append.1 hv with hv | hv
         ·rcases List.mem_append.1 hv with hv | hv
          ·exact k1 v hv
          ·exact k2 v hv
         ·exact k3 v hv
        ·obtain ⟨t,ht,rfl⟩:=List.mem_map.1 hv;have:=zB (nX hvl t ht).2;omega
       obtain ⟨u,eu,hu,hsm⟩:=Gn names x2 hlen;have hul:u.length≤10000000:=by have:=congrArg List.length hu;rw [KP] at this;omega
       unfold Gj at eu;rw [eu];simp only [ah,dJ];rw [← hu] at in1 in2 in4;rw [eQ a u hBa];simp only [ah];rw [eQ b u hBb];simp only [ah];have xa:=kx (p:=a) (vs:=u);have xb:=kx (p:=b) (vs:=u);have ia:=tW (p:=a) (vs:=u);have ib:=tW (p:=b) (vs:=u);have ea:=Bv hva in1;have eb:=Bv hvb in2;generalize fu a u=A at *;generalize fu b u=B at *;by_cases hA:A.2=0;case neg =>
        have h2:A.2=2:=by rcases ea with e | e<;>omega
        rw [beq_eq_false_iff_ne.2 hA,beq_iff_eq.2 h2];rfl
       by_cases hB:B.2=0;case neg =>
        have h2:B.2=2:=by rcases eb with e | e<;>omega
        have h3:(A.2==2)=false:=beq_eq_false_iff_ne.2 (by omega);rw [beq_iff_eq.2 hA,beq_iff_eq.2 h2,h3];rw [show (B.2 != 0)=true from bne_iff_ne.2 hB];rfl
       rw [beq_iff_eq.2 hA,show (B.2 != 0)=false from by rw [hB];rfl];simp only [cond_true,cond_false,ah];rw [pa];simp only [ah];rw [hpm];simp only [ah];rw [eQ _ u hBs];simp only [ah];have hsum:((bif ((jZ a b).2==0) then (bif ((fu (jZ a b).1 u).2==0) then (bif ((fu (jZ a b).1 u).1==(aW (A.1+B.1))) then (some (.brk ())) else (some (.ret false))) else (some (.brk ()))) else (some (.brk ()))):Option (Out Unit Bool))=some (.brk ()):=by
        by_cases h1:(jZ a b).2=0
        ·by_cases h2:(fu (jZ a b).1 u).2=0
         ·have e1:=kx h2;rw [(sa h1).2.2,← xa hA,← xb hB] at e1;have e2:=JG (tW h2);rw [e1] at e2;rw [beq_iff_eq.2 h1,beq_iff_eq.2 h2,e1,e2];simp only [beq_self_eq_true,cond_true]
         ·rw [beq_iff_eq.2 h1,beq_eq_false_iff_ne.2 h2];rfl
        ·rw [beq_eq_false_iff_ne.2 h1];rfl
       rw [hsum];simp only [ah,Sh.aft];rw [yW];simp only [ah];rw [eQ _ u hBm];simp only [ah];have htim:((bif ((gN a b).2==0) then (bif ((fu (gN a b).1 u).2==0) then (bif ((mulR A.1 B.1).2==0) then (bif ((fu (gN a b).1 u).1==(mulR A.1 B.1).1) then (some (.brk ())) else (some (.ret false))) else (some (.ret false))) else (some (.brk ()))) else (some (.brk ()))):Option (Out Unit Bool))=some (.brk ()):=by
        by_cases h1:(gN a b).2=0
        ·by_cases h2:(fu (gN a b).1 u).2=0
         ·have e1:=kx h2;rw [(sm h1).2.2,← xa hA,← xb hB] at e1;have e2:=tW h2;rw [e1] at e2;rw [beq_iff_eq.2 h1,beq_iff_eq.2 h2,e1,HE e2 (ia hA) (ib hB)];simp only [beq_self_eq_true,cond_true]
         ·rw [beq_iff_eq.2 h1,beq_eq_false_iff_ne.2 h2];rfl
        ·rw [beq_eq_false_iff_ne.2 h1];rfl
       rw [htim];simp only [ah,Sh.aft];have hhas:∀ t∈x1.Terms,Ea u t.Var:=fun t ht=>by obtain ⟨g1,g2⟩:=vu hsm (in4 t ht);exact ⟨yI (in4 t ht),by omega,by omega⟩
       obtain ⟨o1,_,o3,o4,_⟩:=mI hvl;rw [w7,I6 hvl hhas];simp only [ah];rw [o1];simp only [ah];rw [eQ _ u o4,Hu hvl hsm in4];simp only [ah,beq_self_eq_true,cond_true];by_cases hz:names.length=0
       ·have:(((names.length:Nat):Int)==0)=true:=beq_iff_eq.2 (by omega);rw [this];rfl
       ·have:(((names.length:Nat):Int)==0)=false:=beq_eq_false_iff_ne.2 (by omega);rw [this];simp only [cond_false];rw [aq (by omega)];have hn0:names.getD 0 []∈names:=by rw [KH,KI (show 0<names.length by omega)];exact List.getElem_mem _
        generalize names.getD 0 []=n0 at hn0;have hob:okB [⟨1,n0,x1,⟨[],[]⟩,[]⟩]:=fun b hb=>by rw [List.mem_singleton.1 hb];exact Iw hfl (by decide)
        obtain ⟨q,q1,q2,q3⟩:=El hBa hva hob;rw [q1];simp only [ah];rw [eQ _ u q2];simp only [ah];rw [aq (by simp only [List.length_singleton];omega),eQ a _ hBa];simp only [ah];by_cases h1:q.2=0
        ·by_cases h2:(fu q.1 u).2=0
         ·by_cases h3:(fu a ([⟨n0,FJ (vv u) x1⟩]++u)).2=0
          ·rw [beq_iff_eq.2 h1,beq_iff_eq.2 h2,beq_iff_eq.2 h3];simp only [cond_true];rw [kx h2,kx h3,q3 h1];have:dj (gM fun v=>FJ (vv u) (gS [⟨1,n0,x1,⟨[],[]⟩,[]⟩] v)) a=dj (gM (vv ([⟨n0,FJ (vv u) x1⟩]++u))) a:=qi fun m hm=>sR fun v hv=>by
            have hin:v∈u.map Value.Var:=in1 v (List.mem_flatten.2 ⟨m.Vars,List.mem_map.2 ⟨m,hm,rfl⟩,hv⟩);rw [List.singleton_append,Is _ (yI hin)];unfold gS;rw [Ih];by_cases he:v=n0
            ·rw [if_pos he,if_pos he]
            ·rw [if_neg he,if_neg he,Fz]
           rw [this];simp
          ·rw [beq_iff_eq.2 h1,beq_iff_eq.2 h2,beq_eq_false_iff_ne.2 h3];rfl
         ·rw [beq_iff_eq.2 h1,beq_eq_false_iff_ne.2 h2];rfl
        ·rw [beq_eq_false_iff_ne.2 h1];rfl
end Go.Proofs.YtadjhpbkknifeaaGreatDoor
