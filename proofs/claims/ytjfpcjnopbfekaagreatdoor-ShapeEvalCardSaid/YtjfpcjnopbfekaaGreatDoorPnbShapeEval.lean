/- Plain laws: what the walked functions compute answers as the statement says. -/
import Derived.Test.YtjfpcjnopbfekaaGreatDoorPnaShapeEval
set_option linter.unusedSimpArgs false
set_option linter.unusedVariables false
namespace Go.Proofs.YtjfpcjnopbfekaaGreatDoor
open Go.Ab Go.Sh Go.Sort
def oK (f:ai→Int):List ai→Int
 | []=>1
 | v::l=>f v*oK f l
def AG:List Int→Int
 | []=>1
 | x::l=>x*AG l
def J1:List Int→Int
 | []=>0
 | x::l=>x+J1 l
theorem DH (f:ai→Int):∀ V:List ai,AG (V.map f)=oK f V
 | []=>rfl
 | v::V=>by simp only [List.map_cons,AG,oK,DH f V]
theorem DB (f:ai→Int):∀ A B:List ai,oK f (A++B)=oK f A*oK f B
 | [],B=>by simp [oK]
 | v::A,B=>by simp only [List.cons_append,oK,DB f A B,Int.mul_assoc]
theorem GH (f:ai→Int) {A B:List ai} (h:A.Perm B):oK f A=oK f B:=by
 induction h with
 | nil=>rfl
 | cons x _ ih=>simp only [oK,ih]
 | swap x y l=>simp only [oK];rw [← Int.mul_assoc,← Int.mul_assoc,Int.mul_comm (f y)]
 | trans _ _ h1 h2=>rw [h1,h2]
theorem GK:∀ (l:List Int) (n r:Int),pm n l=some r→r=n*AG l
 | [],n,r,h=>by
  simp only [pm,KY] at h;simp [AG,h]
 | x::l,n,r,h=>by
  unfold pm at h;cases hc:db n&&(db x&&db (n*x)) with
  | false=>rw [hc] at h;cases h
  | true =>
   rw [hc] at h;rw [GK l (n*x) r h,AG,Int.mul_assoc]
theorem AZ:∀ {l:List Int},l.any (fun n=>n==0)=true→AG l=0
 | [],h=>by cases h
 | x::l,h=>by
  simp only [List.any_cons,Bool.or_eq_true,beq_iff_eq] at h;rcases h with h | h
  ·simp [AG,h]
  ·simp [AG,AZ h]
theorem ER {l:List Int} (h:(gB l).2=0):(gB l).1=AG l:=by
 unfold gB at h ⊢;cases hz:l.any (fun n=>n==0) with
 | true=>rw [AZ hz];rfl
 | false =>
  rw [hz] at h;simp only [cond_false] at h ⊢;cases hp:pm 1 l with
  | none=>rw [hp] at h;cases h
  | some r =>
   have:=GK l 1 r hp;rw [Int.one_mul] at this;exact this
theorem Bt:∀ (xs b:List Int),(∀ i,i<xs.length→b.getD i 0=1)→sl (r9 xs b) xs.length=J1 xs
 | [],_,_=>rfl
 | x::xs,b,h=>by
  rw [List.length_cons,ur];have e0:r9 (x::xs) b 0=x:=by have:=h 0 (by simp);simp only [r9,List.getD_cons_zero,this,Int.mul_one]
  have e1:(fun i=>r9 (x::xs) b (i+1))=r9 xs (b.drop 1):=by funext i;simp [r9,KO,Nat.add_comm]
  rw [e0,e1,Bt xs (b.drop 1) (fun i hi=>by have:=h (i+1) (by simpa using hi);simpa [KO,Nat.add_comm] using this)]
  rfl
theorem G4 {S:Int} (h:(qY S).2=0):(qY S).1=S:=by
 unfold qY at h ⊢;cases hi:db S with
 | true=>rfl
 | false=>rw [hi] at h;cases h
theorem GZ {xs:List Int} {n:Nat} (hn:n=xs.length) (h:(sZ xs (sH n)).2=0):(sZ xs (sH n)).1=J1 xs:=by
 subst hn;unfold sZ at h ⊢;rw [KV (show xs.length=(sH xs.length).length by simp [sH])] at h ⊢;simp only [cond_true] at h ⊢;cases hl:decide (xs.length≤10000) with
 | false=>rw [hl] at h;cases h
 | true =>
  rw [hl] at h;simp only [cond_true] at h ⊢;cases ha:(xs.all db&&(sH xs.length).all db) with
  | false=>rw [ha] at h;cases h
  | true =>
   rw [ha] at h;simp only [cond_true] at h ⊢;rw [G4 h,Bt];exact fun i hi=>Il hi
theorem Ei (f:ai→Int):∀ p:List aa,J1 (p.map fun m=>m.Coef*oK f m.Vars)=jg (oK f) p
 | []=>rfl
 | m::p=>by simp only [List.map_cons,J1,jg,Ei f p]
theorem Gn {p:List aa} {vs:List Value} (h:(yF p vs).2=0):(yF p vs).1=jg (oK (vv vs)) p:=by
 unfold yF at h ⊢;cases hv:bC p with
 | false=>rw [hv] at h;cases h
 | true =>
  rw [hv] at h;simp only [cond_true] at h ⊢;cases h1:p.any (wM vs) with
  | true=>rw [h1] at h;cases h
  | false =>
   rw [h1] at h;simp only [cond_false] at h ⊢;cases h2:p.any (tC vs) with
   | true=>rw [h2] at h;cases h
   | false =>
    rw [h2] at h;simp only [cond_false] at h ⊢;cases h3:(p.map (fun m=>m.Coef::fA vs m)).any (fun l => !((gB l).2==0)) with
    | true=>rw [h3] at h;cases h
    | false =>
     rw [h3] at h;simp only [cond_false] at h ⊢;rw [GZ (by simp) h,List.map_map];rw [← Ei (vv vs) p];refine congrArg J1 (List.map_congr_left fun m hm => ?_);rw [List.any_eq_false] at h3;have h4:=h3 _ (List.mem_map.2 ⟨m,hm,rfl⟩);have h5:(gB (m.Coef::fA vs m)).2=0:=by simpa using h4
     show (gB (m.Coef::fA vs m)).1=_;rw [ER h5];show m.Coef*AG (m.Vars.map (num vs))=_;rw [DH];rfl
theorem GN {p:List aa} (hs:p.Pairwise (yp aa.Vars)) (hm:∀ m∈p,F7 m=true) (hl:p.length≤60):bC p=true:=by
 unfold bC;rw [KQ,decide_eq_true_eq,K5];refine ⟨fun j hj => ?_,hl⟩;have hj:j<p.length:=by simp only [List.mem_range'_1] at hj;omega
 unfold oW;rw [KQ,Bool.or_eq_true,decide_eq_true_eq];refine ⟨hm _ (ed hj),?_⟩;by_cases h0:j=0
 ·left;simp [h0]
 ·right;have:=List.pairwise_iff_getElem.1 hs (j-1) j (by omega) hj (by omega);rw [← zi hj,← zi (show j-1<p.length by omega)] at this;exact this
theorem FC {L:List k8} {p:List aa} (h:bH (aL L) p):p.length≤L.length:=by
 have hn:(p.map aa.Vars).Nodup:=by rw [List.nodup_iff_pairwise_ne,List.pairwise_map];refine h.st.imp fun {a b} hab e => ?_;unfold yp at hab;rw [e,iK] at hab;omega
 have:=j7 (p.map aa.Vars) (L.map (·.1)) hn fun V hV=>by obtain ⟨m,hm,rfl⟩:=List.mem_map.1 hV;obtain ⟨c,hc,e⟩:=oh h hm;exact List.mem_map.2 ⟨c,hc,e⟩
 simpa using this
theorem Jb (f:ai→Int) (l:Linear):kC (oK f) (([([],l.Const,1)]:List k8)++l.Terms.map Hr)=FM f l:=by
 rw [mQ];have h1:kC (oK f) ([([],l.Const,1)]:List k8)=l.Const:=by simp [kC,oK]
 have h2:∀ ts:List Coef,kC (oK f) (ts.map Hr)=Dj f ts:=by
  intro ts;induction ts with
  | nil=>rfl
  | cons t ts ih =>
   rw [List.map_cons];unfold kC Dj;rw [ih];simp [Hr,oK]
 rw [h1,h2];rfl
noncomputable def lS (l:Linear):List aa:=((mI l).getD ([],0)).1
theorem sa {l:Linear} (hv:bA l=true):mI l=some (lS l,0)∧lX l=some (lS l,0)∧bC (lS l)=true∧Bd (lS l)∧∀ f,jg (oK f) (lS l)=FM f l:=by
 have hok:=yP hv;obtain ⟨p,k1,k2,k3,k4⟩:=Gl hok.1 hok.2 hv;have hl12:=rT hv;have hv2:bC p=true:=by
  have hlen:=FC k1;simp only [List.length_append,KW,List.length_singleton] at hlen;refine GN k1.st (fun m hm => ?_) (by omega);have hm2:=(k1.mem m).1 hm;obtain ⟨c,hc,e⟩:=oh k1 hm;have hb:=uz (B:=1000000) m.Vars (L:=([([],l.Const,1)]:List k8)++l.Terms.map Hr) (by omega) (fun c hc=>by
   rcases List.mem_append.1 hc with hc | hc
   ·have:c=([],l.Const,1):=by simpa using hc
    have:=BC hv;rw [‹c=_›];show -1000000≤l.Const*1∧l.Const*1≤1000000;omega
   ·obtain ⟨t,ht,rfl⟩:=List.mem_map.1 hc;have:=(sX hv t ht).1;show -1000000≤t.C*1∧t.C*1≤1000000;omega)
  have hlen2:(([([],l.Const,1)]:List k8)++l.Terms.map Hr).length≤13:=by simp only [List.length_append,KW,List.length_singleton];omega
  rw [← hm2.2] at hb;generalize (([([],l.Const,1)]:List k8)++l.Terms.map Hr).length=len at hb hlen2;unfold F7;have g1:(m.Coef==0)=false:=beq_eq_false_iff_ne.2 hm2.1;have hV:m.Vars.length≤8∧v8 m.Vars=true∧m.Vars.all cW=true:=by
   rcases List.mem_append.1 hc with hc | hc
   ·have:c=([],l.Const,1):=by simpa using hc
    rw [this] at e;rw [← e];exact ⟨by simp,rfl,rfl⟩
   ·obtain ⟨t,ht,rfl⟩:=List.mem_map.1 hc;have e:[t.Var]=m.Vars:=e;rw [← e];refine ⟨by simp,rfl,?_⟩;simp [(sX hv t ht).2]
  rw [g1,KV (show -1099511627776≤m.Coef by omega),KV (show m.Coef≤1099511627776 by omega),KV hV.1,hV.2.1,hV.2.2];rfl
 have hlim:limited p=(p,0):=by unfold limited;rw [hv2];rfl
 rw [hlim] at k3 k4;have he:lS l=p:=by unfold lS;rw [k3];rfl
 rw [he];exact ⟨k3,k4,hv2,k2,fun f=>by rw [yQ k1,Jb]⟩
noncomputable def pL (s p:List aa):List aa×Int:=(lz s p).getD ([],0)
theorem Ad {s p:List aa} (hs:bC s=true) (hp:bC p=true) (hBs:Bd s) (hBp:Bd p):kc s p=some (pL s p)∧gQ s p=some (pL s p)∧((pL s p).2=0→bC (pL s p).1=true∧Bd (pL s p).1∧∀ f,jg (oK f) (pL s p).1=jg (oK f) s*jg (oK f) p):=by
 obtain ⟨q,h1,h2,h3⟩:=(uQ hBs hBp).1 hs hp;obtain ⟨r,e1,e2⟩:=GI hBs hBp;have he:pL s p=limited q:=by unfold pL;rw [h3];rfl
 rw [h3] at e1;have e1:=K4 e1;rw [he,e1];refine ⟨?_,e2,fun h0 => ?_⟩
 ·obtain ⟨q2,g1,g2,g3⟩:=uP (lq hs) (lq hp);rw [g3,bH.uniq g1 h1,e1]
 ·rw [← e1] at h0 ⊢;obtain ⟨v1,v2⟩:=E1 h0;rw [v2];refine ⟨v1,h2,fun f => ?_⟩;show jg (oK f) q=_;rw [yQ h1,AY];have e:∀ W U:List ai,oK f (bK (W++U))=oK f W*oK f U:=fun W U=>by rw [GH f (iB (W++U)),DB]
  have e3:(fun W=>jg (fun U=>oK f (bK (W++U))) p)=fun W=>jg (oK f) p*oK f W:=by funext W;have:(fun U=>oK f (bK (W++U)))=fun U=>oK f W*oK f U:=funext fun U=>e W U;rw [this,wO,Int.mul_comm]
  rw [e3,wO,Int.mul_comm]
noncomputable def E7 (x:Linear) (s:List aa):gZ (List aa) (List aa) (List aa×Int):=bif (pL s (lS x)).2==0 then .go (pL s (lS x)).1 else .ret ([],(pL s (lS x)).2)
def JF (f:ai→Int):List Linear→Int
 | []=>1
 | x::l=>FM f x*JF f l
theorem DC:∀ (l:List Linear) (s:List aa),(∀ x∈l,bA x=true)→bC s=true→Bd s→∀ q,cu E7 (fun s=>s) l s = .brk q→bC q=true∧Bd q∧∀ f,jg (oK f) q=jg (oK f) s*JF f l
 | [],s,_,h2,h3,q,h=>by
  cases h;exact ⟨h2,h3,fun f=>by simp [JF]⟩
 | x::l,s,h1,h2,h3,q,h=>by
  obtain ⟨_,_,o1,o2,o3⟩:=sa (h1 x (by simp));obtain ⟨_,_,m3⟩:=Ad h2 o1 h3 o2;unfold cu E7 at h;cases hc:((pL s (lS x)).2==0) with
  | false=>rw [hc] at h;cases h
  | true =>
   rw [hc] at h;obtain ⟨v1,v2,v3⟩:=m3 (beq_iff_eq.1 hc);obtain ⟨w1,w2,w3⟩:=DC l (pL s (lS x)).1 (fun y hy=>h1 y (by simp [hy])) v1 v2 q h;exact ⟨w1,w2,fun f=>by rw [w3,v3,o3,JF,Int.mul_assoc]⟩
noncomputable def p8 (l:List Linear):List aa×Int:=match cu E7 (fun s=>s) l qE with | .brk q=>(q,0) | .ret r=>r
theorem rX:bC qE=true:=by decide
theorem AD:Bd qE:=⟨by decide,by decide⟩
theorem qi {l:List Linear} {j:Nat} (h:j<l.length):l.getD j ⟨0,[]⟩∈l:=by rw [KO,KP h];exact List.getElem_mem h
theorem vn {l:List Linear} (h:∀ x∈l,bA x=true) (hl:l.length≤1000000):jA l=some (p8 l):=by
 unfold jA;obtain ⟨s,e,hI⟩:=jv (σ:=List (List aa)) (ε:=List (List aa)) (ρ:=List aa×Int) (body:=fun i32 s31 =>
  (mI (Linear.mk ((l.getD i32 ⟨0,[]⟩).Const) ((l.getD i32 ⟨0,[]⟩).Terms))).bind fun y63 =>
  bif (y63.2==0) then (
   cy ((s31.length+1)*24≤140737488355328) <|
   some (.go (s31++[y63.1]))
  ) else (
   some (.ret ([],y63.2))
  )) (fin:=fun i32 s31=>s31) (fun j s=>s=(l.take j).map lS) (l.length-0) 0 [] rfl (fun j s _ hj hI=>by
   have hjl:j<l.length:=by omega
   have hm:=qi hjl;subst hI;refine ⟨(l.take j).map lS++[lS (l.getD j ⟨0,[]⟩)],?_,?_⟩
   ·rw [show (Linear.mk ((l.getD j ⟨0,[]⟩).Const) ((l.getD j ⟨0,[]⟩).Terms))=l.getD j ⟨0,[]⟩ from rfl,(sa (h _ hm)).1];simp only [ak,beq_self_eq_true,cond_true];rw [aD (by rw [KW,List.length_take];omega)]
   ·rw [List.take_add_one,KP hjl,Option.toList_some,List.map_append,List.map_cons,List.map_nil];rw [KO,KP hjl,Option.getD_some])
 rw [Nat.zero_add,Nat.sub_zero,List.take_length] at hI;rw [e];subst hI;simp only [ak,Sh.aft];have hloop:=jO (σ:=List aa) (ε:=List aa) (ρ:=List aa×Int) (body:=fun i113 s112 =>
  (kc s112 ((l.map lS).getD i113 [])).bind fun y142 =>
  bif (y142.2==0) then (
   some (.go y142.1)
  ) else (
   some (.ret ([],y142.2))
  )) (fin:=fun i113 s112=>s112) (f:=fun s=>s) ⟨0,[]⟩ l E7 (fun j s=>bC s=true∧Bd s) (fun _ _=>rfl) qE ⟨rX,AD⟩ (fun j s hj ⟨hs,hB⟩=>by
   have hm:=qi hj;obtain ⟨_,_,o1,o2,_⟩:=sa (h _ hm);have eg:(l.map lS).getD j []=lS (l.getD j ⟨0,[]⟩):=by simp [KO,KP hj]
   obtain ⟨m1,_,m3⟩:=Ad hs o1 hB o2;simp only [eg,m1,ak];unfold E7;refine ⟨by cases ((pL s (lS (l.getD j ⟨0,[]⟩))).2==0)<;>rfl,fun s' hs' => ?_⟩;cases hc:((pL s (lS (l.getD j ⟨0,[]⟩))).2==0) with
   | false=>rw [hc] at hs';cases hs'
   | true =>
    rw [hc] at hs';cases hs';obtain ⟨v1,v2,_⟩:=m3 (beq_iff_eq.1 hc);exact ⟨v1,v2⟩)
 rw [KW];show ((cY _ _ (l.length-0) 0 qE).bind _)=_;rw [hloop];unfold p8;cases cu E7 (fun s=>s) l qE<;>rfl
theorem uu {l:List Linear} (h:∀ x∈l,bA x=true) (hl:l.length≤1000000):ij l=some (p8 l):=by
 unfold ij;rw [dO (r:=([],1)) (fun _=>true) _ _ () (fun j u _ hj=>by have hm:=qi (l:=l) (j:=j) (by omega);rw [show (Linear.mk ((l.getD j ⟨0,[]⟩).Const) ((l.getD j ⟨0,[]⟩).Terms))=l.getD j ⟨0,[]⟩ from rfl,jo,h _ hm];rfl),gn]
 have hall:(List.range' 0 (l.length-0)).all (fun _=>true)=true:=by simp
 rw [hall];simp only [cond_true];obtain ⟨r,n1,n2⟩:=AH 1;rw [GX.1] at n1;rw [n2,← K4 n1];simp only [ak];have hloop:=jO (σ:=List aa) (ε:=List aa) (ρ:=List aa×Int) (body:=fun i115 s114 =>
  (lX (Linear.mk ((l.getD i115 ⟨0,[]⟩).Const) ((l.getD i115 ⟨0,[]⟩).Terms))).bind fun y147 =>
  (gQ s114 y147.1).bind fun y150 =>
  bif (y150.2==0) then (
   some (.go y150.1)
  ) else (
   some (.ret ([],y150.2))
  )) (fin:=fun i115 s114=>s114) (f:=fun s=>s) ⟨0,[]⟩ l E7 (fun j s=>bC s=true∧Bd s) (fun _ _=>rfl) qE ⟨rX,AD⟩ (fun j s hj ⟨hs,hB⟩=>by
   have hm:=qi hj;obtain ⟨_,o0,o1,o2,_⟩:=sa (h _ hm);obtain ⟨_,m1,m3⟩:=Ad hs o1 hB o2;rw [show (Linear.mk ((l.getD j ⟨0,[]⟩).Const) ((l.getD j ⟨0,[]⟩).Terms))=l.getD j ⟨0,[]⟩ from rfl,o0];simp only [ak,m1];unfold E7;refine ⟨by cases ((pL s (lS (l.getD j ⟨0,[]⟩))).2==0)<;>rfl,fun s' hs' => ?_⟩;cases hc:((pL s (lS (l.getD j ⟨0,[]⟩))).2==0) with
   | false=>rw [hc] at hs';cases hs'
   | true =>
    rw [hc] at hs';cases hs';obtain ⟨v1,v2,_⟩:=m3 (beq_iff_eq.1 hc);exact ⟨v1,v2⟩)
 rw [hloop];unfold p8;cases cu E7 (fun s=>s) l qE<;>rfl
theorem EN {l:List Linear} (h:∀ x∈l,bA x=true) (h0:(p8 l).2=0) (hne:∀ r,cu E7 (fun s=>s) l qE = .ret r→r.2≠0):bC (p8 l).1=true∧Bd (p8 l).1∧∀ f,jg (oK f) (p8 l).1=JF f l:=by
 unfold p8 at h0 ⊢;cases hq:cu E7 (fun s=>s) l qE with
 | ret r=>rw [hq] at h0;exact absurd h0 (hne r hq)
 | brk q =>
  obtain ⟨w1,w2,w3⟩:=DC l qE h rX AD q hq;refine ⟨w1,w2,fun f => ?_⟩;show jg (oK f) q=_;rw [w3];simp [qE,jg,oK]
theorem Eb:∀ (l:List Linear) (s:List aa) (r:List aa×Int),cu E7 (fun s=>s) l s = .ret r→r.2≠0
 | [],s,r,h=>by cases h
 | x::l,s,r,h=>by
  unfold cu E7 at h;cases hc:((pL s (lS x)).2==0) with
  | true=>rw [hc] at h;exact Eb l _ r h
  | false =>
   rw [hc] at h;cases h;exact beq_eq_false_iff_ne.1 hc
def Db (vs:List Value) (x:Linear) (s:List Int):gZ (List Int) (List Int) (List Int×Int) :=
 bif (tZ vs x).2==0 then (bif decide ((tZ vs x).1<0) then .ret ([],2) else bif decide ((tZ vs x).1>4096) then .ret ([],2) else .go (s++[(tZ vs x).1])) else .ret ([],(tZ vs x).2)
def Km (o:Out (List Int) (List Int×Int)):List Int×Int:=match o with | .brk n=>(n,0) | .ret r=>r
def J5 (vs:List Value) (s:Shape):List Int×Int:=bif jH s then (bif s.Row.isEmpty then Km (cu (Db vs) (fun s=>s) s.Dims []) else ([],13)) else ([],1)
theorem qj {s:Shape} (h:jH s=true):s.Dims.length≤6∧∀ x∈s.Dims,bA x=true:=by simp only [jH,KQ,decide_eq_true_eq,K5] at h;exact ⟨h.2.1,h.1⟩
theorem IQ {vs:List Value} {x:Linear} {s s':List Int} (hs:Db vs x s = .go s'):s'.length=s.length+1:=by
 unfold Db at hs;generalize tZ vs x=e at hs;obtain ⟨n,c⟩:=e;by_cases h1:c=0
 ·by_cases h2:n<0
  ·rw [beq_iff_eq.2 h1,KV h2] at hs;cases hs
  ·by_cases h3:n>4096
   ·rw [beq_iff_eq.2 h1,KU h2,KV h3] at hs;cases hs
   ·rw [beq_iff_eq.2 h1,KU h2,KU h3] at hs;simp only [cond_true,cond_false,gZ.go.injEq] at hs;rw [← hs,List.length_append,List.length_singleton]
 ·rw [beq_eq_false_iff_ne.2 h1] at hs;cases hs
theorem Dy {b:Nat→List Int→Option (gZ (List Int) (List Int) (List Int×Int))} {l:List Linear} (vs:List Value) (hb:∀ j s,j<l.length→s.length≤j→b j s=some (Db vs (l.getD j ⟨0,[]⟩) s)) :
 cY b (fun _ s=>s) (l.length-0) 0 []=some (cu (Db vs) (fun s=>s) l []):=by
 refine jO (f:=fun s=>s) ⟨0,[]⟩ l (Db vs) (fun j s=>s.length≤j) (fun _ _=>rfl) [] (Nat.le_refl 0) (fun j s hj hI => ?_);refine ⟨hb j s hj hI,fun s' hs => ?_⟩;have h1:=IQ hs;have hI:s.length≤j:=hI;show s'.length≤j+1;omega
theorem D6 (vs:List Value) (x:Linear) (s:List Int) (hs:s.length≤6) (y:Option (Int×Int)) (hy:y=some (tZ vs x)) :
 (y.bind fun y114 =>
  bif (y114.2==0) then (
   bif decide (y114.1<0) then (
    some (.ret ([],2))
   ) else (
    bif decide (y114.1>4096) then (
     some (.ret ([],2))
    ) else (
     cy ((s.length+1)*8≤140737488355328) <|
     some (.go (s++[y114.1]))
    )
   )
  ) else (
   some (.ret ([],y114.2))
  ):Option (gZ (List Int) (List Int) (List Int×Int)))=some (Db vs x s):=by
 rw [hy];simp only [ak];unfold Db;cases ((tZ vs x).2==0) with
 | false=>rfl
 | true =>
  cases decide ((tZ vs x).1<0) with
  | true=>rfl
  | false =>
   cases decide ((tZ vs x).1>4096) with
   | true=>rfl
   | false =>
    simp only [cond_true,cond_false];rw [aD (by omega)]
theorem yj {s:Shape} (h:KB s) (vs:List Value):iv s vs=some (J5 vs s):=by
 unfold iv J5;rw [pU s h];cases hv:jH s with
 | false=>rfl
 | true =>
  obtain ⟨h6,hval⟩:=qj hv;simp only [ak,cond_true,ot];cases s.Row.isEmpty with
  | false=>rfl
  | true =>
   simp only [cond_true];rw [Dy (l:=s.Dims) vs (fun j t hj ht=>D6 vs _ t (by omega) _ (xq _ vs (yP (hval _ (qi hj)))))];cases cu (Db vs) (fun s=>s) s.Dims []<;>rfl
theorem yv {s:Shape} (vs:List Value):ml s vs=some (J5 vs s):=by
 unfold ml J5;rw [pV s];cases hv:jH s with
 | false=>rfl
 | true =>
  obtain ⟨h6,hval⟩:=qj hv;simp only [ak,cond_true,ot];cases s.Row.isEmpty with
  | false=>rfl
  | true =>
   simp only [cond_true];rw [Dy (l:=s.Dims) vs (fun j t hj ht=>D6 vs _ t (by omega) _ (yc _ vs))];cases cu (Db vs) (fun s=>s) s.Dims []<;>rfl
theorem Eh (vs:List Value):∀ (l:List Linear) (s q:List Int),cu (Db vs) (fun s=>s) l s = .brk q→q=s++l.map (FM (vv vs))∧∀ x∈l,0≤FM (vv vs) x∧FM (vv vs) x≤4096
 | [],s,q,h=>by
  cases h;exact ⟨by simp,fun x hx=>by cases hx⟩
 | x::l,s,q,h=>by
  unfold cu Db at h;cases h1:((tZ vs x).2==0) with
  | false=>rw [h1] at h;cases h
  | true =>
   obtain ⟨_,hx,_⟩:=JS (beq_iff_eq.1 h1);rw [h1] at h;by_cases h2:(tZ vs x).1<0
   ·rw [KV h2] at h;cases h
   ·rw [KU h2] at h;by_cases h3:(tZ vs x).1>4096
    ·rw [KV h3] at h;cases h
    ·rw [KU h3] at h;obtain ⟨e1,e2⟩:=Eh vs l (s++[(tZ vs x).1]) q h;rw [hx] at e1 h2 h3;refine ⟨by rw [e1];simp,fun y hy => ?_⟩;rcases List.mem_cons.1 hy with rfl | hy
     ·omega
     ·exact e2 y hy
theorem D4 (vs:List Value):∀ (l:List Linear) (s:List Int) (r:List Int×Int),cu (Db vs) (fun s=>s) l s = .ret r→r.2≠0
 | [],s,r,h=>by cases h
 | x::l,s,r,h=>by
  unfold cu Db at h;cases h1:((tZ vs x).2==0) with
  | false =>
   rw [h1] at h;cases h;exact beq_eq_false_iff_ne.1 h1
  | true =>
   rw [h1] at h;cases h2:decide ((tZ vs x).1<0) with
   | true=>rw [h2] at h;cases h;decide
   | false =>
    rw [h2] at h;cases h3:decide ((tZ vs x).1>4096) with
    | true=>rw [h3] at h;cases h;decide
    | false=>rw [h3] at h;exact D4 vs l _ r h
theorem yl (l:List Int):eA l l=some true:=by
 unfold eA;rw [show ((((l.length:Nat):Int)==((l.length:Nat):Int)))=true by simp];simp only [cond_true];rw [dO (r:=false) (fun _=>true) _ _ () (fun j u _ hj=>by rw [aD (by omega)];simp)]
 have:(List.range' 0 (l.length-0)).all (fun _=>true)=true:=by simp
 rw [this];rfl
noncomputable def tR (s:Shape):List aa×Int:=bif jH s then (bif s.Row.isEmpty then p8 s.Dims else ([],13)) else ([],1)
theorem vW {s:Shape} (h:KB s):kn s=some (tR s):=by
 unfold kn tR;rw [pU s h];cases hv:jH s with
 | false=>rfl
 | true =>
  obtain ⟨h6,hval⟩:=qj hv;simp only [ak,cond_true,ot];cases s.Row.isEmpty with
  | false=>rfl
  | true =>
   simp only [cond_true];rw [vn hval (by omega)];rfl
theorem vX {s:Shape}:kd s=some (tR s):=by
 unfold kd tR;rw [pV s];cases hv:jH s with
 | false=>rfl
 | true =>
  obtain ⟨h6,hval⟩:=qj hv;simp only [ak,cond_true,ot];cases s.Row.isEmpty with
  | false=>rfl
  | true =>
   simp only [cond_true];rw [uu hval (by omega)];rfl
def CH (n s:Int):Int:=if 1099511627776<s*n then 1099511627776 else s*n
theorem BR:∀ (l:List Int) (s P:Int),(∀ n∈l,0≤n)→0≤P→(s=P∧P≤1099511627776∨s=1099511627776∧1099511627776≤P)→(l.foldl (fun s n=>CH n s) s=P*AG l∨l.foldl (fun s n=>CH n s) s=1099511627776)
 | [],s,P,_,_,h=>by
  rcases h with ⟨h,_⟩ | ⟨h,_⟩
  ·left;simp [AG,h]
  ·right;exact h
 | n::l,s,P,hn,hP,h=>by
  have h0:=hn n (by simp);rw [List.foldl_cons,AG,← Int.mul_assoc];refine BR l (CH n s) (P*n) (fun m hm=>hn m (by simp [hm])) (Int.mul_nonneg hP h0) ?_;unfold CH;rcases h with ⟨rfl,h⟩ | ⟨rfl,h⟩
  ·split
   ·exact .inr ⟨rfl,by omega⟩
   ·exact .inl ⟨rfl,by omega⟩
  ·by_cases hz:n=0
   ·subst hz;left;simp
   ·have h1:(1099511627776:Int)*n≤P*n:=Int.mul_le_mul_of_nonneg_right h h0;have h2:(1099511627776:Int)≤1099511627776*n:=by omega
    split
    ·exact .inr ⟨rfl,by omega⟩
    ·exact .inr ⟨by omega,by omega⟩
theorem Ej (f:ai→Int):∀ l:List Linear,AG (l.map (FM f))=JF f l
 | []=>rfl
 | x::l=>by simp only [List.map_cons,AG,JF,Ej f l]
theorem GD {l:List Int} (h:∀ n∈l,0≤n∧n≤4096):∃ r,cY (σ:=Int) (ε:=Int) (ρ:=Empty) (fun i211 s210 =>
 some (.go (if 1099511627776<(aJ (s210*(l.getD i211 0))) then 1099511627776 else (aJ (s210*(l.getD i211 0)))))
 ) (fun i211 s210=>s210) (l.length-0) 0 1=some (.brk r)∧(r=AG l∨r=1099511627776):=by
 obtain ⟨s',e1,e2,_⟩:=Ds (σ:=Int) (ε:=Int) (ρ:=Empty) (body:=fun i211 s210 =>
  some (.go (if 1099511627776<(aJ (s210*(l.getD i211 0))) then 1099511627776 else (aJ (s210*(l.getD i211 0)))))) (fin:=fun i211 s210=>s210)
  (fun j s=>CH (l.getD j 0) s) (fun _ s=>0≤s∧s≤1099511627776) (l.length-0) 0 1 (by omega) (fun j s _ hj hI=>by
  have hm:l.getD j 0∈l:=by rw [KO,KP (by omega)];exact List.getElem_mem _
  have hn:=h _ hm;generalize l.getD j 0=n at hn;have h1:0≤s*n:=Int.mul_nonneg hI.1 hn.1;have h2:s*n≤1099511627776*4096:=Int.mul_le_mul hI.2 hn.2 hn.1 (by omega);have hw:aJ (s*n)=s*n:=av (by omega) (by omega);refine ⟨by simp only [hw];rfl,?_⟩;unfold CH;split<;>omega)
 refine ⟨s',e1,?_⟩;rw [e2,rN (fun s n=>CH n s) 0 l 0 1,List.drop_zero];have:=BR l 1 1 (fun n hn=>(h n hn).1) (by omega) (.inl ⟨rfl,by omega⟩)
 rwa [Int.one_mul] at this
theorem yn (x0:Shape) (x1:List Value):ir x0 x1=some true:=by
 unfold ir;rw [tK];simp only [ak,cond_true,Aj];cases h0:GS x0 with
 | false=>rfl
 | true =>
  simp only [cond_true];by_cases h10:((x1.length:Nat):Int)>10
  ·rw [KV h10];rfl
  ·rw [KU h10];simp only [cond_false];rw [dO (r:=true) (fun j=>decide (((x1.getD j ⟨[],0⟩).Var).length≤35)) _ _ () (fun j u _ hj=>by
    by_cases hc:((x1.getD j ⟨[],0⟩).Var).length≤35
    ·rw [KU (by omega),KV hc];rfl
    ·rw [KV (by omega),KU hc];rfl),gn]
   cases (List.range' 0 (x1.length-0)).all (fun j=>decide (((x1.getD j ⟨[],0⟩).Var).length≤35)) with
   | false=>rfl
   | true =>
    simp only [cond_true];have hok:=Ib h0;rw [yj hok,yv];simp only [ak];rw [vW hok,vX];simp only [ak,yl,cond_true,beq_self_eq_true,Cu];cases he:((J5 x1 x0).2==0) with
    | false=>rfl
    | true =>
     simp only [cond_true];cases hc:((tR x0).2==0) with
     | false=>rfl
     | true =>
      simp only [cond_true];have he:=beq_iff_eq.1 he;have hc:=beq_iff_eq.1 hc;unfold J5 at he ⊢;unfold tR at hc ⊢;cases hv:jH x0 with
      | false=>rw [hv] at he;cases he
      | true =>
       rw [hv] at he hc;simp only [cond_true] at he hc ⊢;cases hr:x0.Row.isEmpty with
       | false=>rw [hr] at he;cases he
       | true =>
        rw [hr] at he hc;simp only [cond_true] at he hc ⊢;obtain ⟨h6,hval⟩:=qj hv;cases hq:cu (Db x1) (fun s=>s) x0.Dims [] with
        | ret r=>rw [hq] at he;exact absurd he (D4 x1 _ _ r hq)
        | brk q =>
         obtain ⟨e1,e2⟩:=Eh x1 x0.Dims [] q hq;rw [List.nil_append] at e1;subst e1;obtain ⟨r,c1,c2⟩:=GD (l:=(Km (Out.brk (x0.Dims.map (FM (vv x1))))).1) (fun n hn=>by have hn:n∈x0.Dims.map (FM (vv x1)):=hn;obtain ⟨x,hx,rfl⟩:=List.mem_map.1 hn;exact e2 x hx)
         have c2:r=AG (x0.Dims.map (FM (vv x1)))∨r=1099511627776:=c2;rw [c1];obtain ⟨w1,w2,w3⟩:=EN hval hc (fun r hr=>Eb _ _ r hr);simp only [ak,gu];rw [yh _ _ w2 (by omega)];simp only [ak];by_cases hbig:r≥1099511627776
         ·rw [KV hbig];rfl
         ·rw [KU hbig];simp only [cond_false];cases hz:((yF (p8 x0.Dims).1 x1).2==0) with
          | false=>rfl
          | true =>
           simp only [cond_true];rw [Gn (beq_iff_eq.1 hz),w3,← Ej];rcases c2 with c2 | c2
           ·rw [c2,beq_self_eq_true]
           ·omega
end Go.Proofs.YtjfpcjnopbfekaaGreatDoor
