/- The frame for walks: states without addresses, the rules by which code is walked, and contracts of library functions. -/
import Derived.Test.YtadjhpbkknifeaaGreatDoorFraPolyValues
import Derived.MapFrom
import Derived.Lib.ConvBytes
import Derived.Maps.RangeRun
import Derived.Laws.StructEq
import Derived.WideKeyEntry
set_option linter.unusedSimpArgs false
set_option linter.unusedVariables false
namespace Go.Ab
open Go.RowKit
section
variable {P:Program} {l:List Oper}
def cntF:List Bool→Nat
 | []=>0
 | b::bs=>(if b then 0 else 1)+cntF bs
theorem uv:∀ {bs:List Bool} {i:Nat},bs[i]? = some false→cntF bs=cntF (bs.set i true)+1
 | [],i,h=>by simp at h
 | b::bs,0,h=>by
  simp only [List.getElem?_cons_zero,KR] at h;subst h;simp [cntF];omega
 | b::bs,i+1,h=>by have:=uv (bs:=bs) (i:=i) (by simpa using h);simp only [List.set_cons_succ,cntF];omega
theorem sJ:∀ {bs:List Bool},cntF bs=0→bs=List.replicate bs.length true
 | [],_=>rfl
 | b::bs,h=>by
  cases b with
  | false=>simp [cntF] at h
  | true=>simp only [cntF,if_true,Nat.zero_add] at h;rw [List.length_cons,List.replicate_succ,← sJ h]
theorem wj:∀ {bs:List Bool},cntF bs≠0→∃ i:Nat,bs[i]? = some false
 | [],h=>absurd rfl h
 | b::bs,h=>by
  cases b with
  | false=>exact ⟨0,rfl⟩
  | true =>
   obtain ⟨i,hi⟩:=wj (bs:=bs) (by simpa [cntF] using h);exact ⟨i+1,by simpa using hi⟩
theorem qb:∀ {os:List Oper} {k:Nat},Ag k os=true→∀ (i:Nat) (o:Oper),os[i]? = some o→(k+i)∈aft o
 | [],_,_,i,o,h=>by simp at h
 | o0::os,k,h,0,o,ho=>by
  simp only [Ag,KJ] at h;simp only [List.getElem?_cons_zero,KR] at ho;subst ho;obtain ⟨x,hx,hb⟩:=List.any_eq_true.1 h.1;have:k=x:=bP.1 hb;subst this;exact hx
 | o0::os,k,h,i+1,o,ho=>by simp only [Ag,KJ] at h;have:=qb h.2 i o (by simpa using ho);rw [show k+(i+1)=k+1+i by omega];exact this
theorem mM:∀ {os:List Oper} {k:Nat},tq k os=true→∀ (i:Nat) (o:Oper),os[i]? = some o→∀ j∈aft o,j<k+i
 | [],_,_,i,o,h=>by simp at h
 | o0::os,k,h,0,o,ho=>by
  simp only [tq,KJ] at h;simp only [List.getElem?_cons_zero,KR] at ho;subst ho;intro j hj;have:=KU.1 h.1 j hj;simpa [Nat.blt_eq] using this
 | o0::os,k,h,i+1,o,ho=>by simp only [tq,KJ] at h;intro j hj;have:=mM h.2 i o (by simpa using ho) j hj;omega
theorem vi:∀ {n i:Nat},i<n→i∈idxs n
 | 0,i,h=>by omega
 | n+1,i,h=>by
  simp only [idxs,List.mem_append,List.mem_singleton];by_cases e:i=n
  ·exact .inr e
  ·exact .inl (vi (by omega))
theorem gu {listed:Array Bool} {i:Nat}:i∈Region.ready .any l.toArray listed↔listed.getD i true=false∧∃ o,l[i]? = some o∧∀ j∈aft o,listed.getD j false=true:=by
 rw [mem_ready];constructor
 ·rintro ⟨h,o,ho,ha⟩;exact ⟨h,o,by simpa using ho,fun j hj=>by obtain ⟨e,he,hb,rfl⟩:=AE.1 hj;exact ha e he hb⟩
 ·rintro ⟨h,o,ho,ha⟩;exact ⟨h,o,by simpa using ho,fun e he hb=>ha _ (AE.2 ⟨e,he,hb,rfl⟩)⟩
theorem oz {Q':Exit→Act→World→Prop} (hback:tq 0 l=true):∀ (rest:List Oper) (k:Nat) (listed:Array Bool) (a:Act) (w:World),listed.size=l.length→(∀ j,rest[j]? = l[k+j]?)→k+rest.length=l.length→(∀ i,i<k→listed.getD i false=true)→(∀ i,k≤i→listed.getD i false=false) →
 (∀ i o,k<i→l[i]? = some o→(i-1)∈aft o)→wpList P l.toArray Q' rest a w→wpAny P .any l.toArray Q' rest.length listed a w
 | [],k,listed,a,w,hs,_,hl,h1,_,_,h=>by
  refine ⟨List.eq_nil_iff_forall_not_mem.2 fun i hi => ?_,h⟩;obtain ⟨h2,o,ho,_⟩:=gu.1 hi;have hi':i<l.length:=(KQ.1 ho).1;have:=h1 i (by simp at hl;omega);simp [KK,KS (show i<listed.size by omega)] at this h2;rw [this] at h2;cases h2
 | o::rest,k,listed,a,w,hs,hr,hl,h1,h2,h3,h=>by
  have hok:l[k]? = some o:=by have:=hr 0;simpa using this.symm
  have hkl:k<l.length:=(KQ.1 hok).1;have hkr:k∈Region.ready .any l.toArray listed:=by
   refine gu.2 ⟨?_,o,hok,fun j hj=>h1 j ?_⟩
   ·have:=h2 k (Nat.le_refl _);simp [KK,KS (show k<listed.size by omega)] at this ⊢;exact this
   ·have:=mM hback k o hok j hj;omega
  refine ⟨fun h0=>(by rw [h0] at hkr;cases hkr),fun i hi => ?_⟩;obtain ⟨h4,oi,hoi,h5⟩:=gu.1 hi;have hi':i<l.length:=(KQ.1 hoi).1;have hik:i=k:=by
   by_cases hlt:i<k
   ·have:=h1 i hlt;simp [KK,KS (show i<listed.size by omega)] at this h4;rw [this] at h4;cases h4
   ·by_cases e:i=k
    ·exact e
    ·have:=h5 _ (h3 i oi (by omega) hoi);rw [h2 (i-1) (by omega)] at this;cases this
  subst hik;have hset:∀ j,(listed.setIfInBounds i true).getD j false=if j=i then true else listed.getD j false:=by
   intro j;simp only [KK,Array.getElem?_setIfInBounds];by_cases e:j=i
   ·subst e;rw [if_pos rfl,if_pos (by omega)];simp
   ·rw [if_neg (fun h=>e h.symm),if_neg e]
  have ih:=fun a' w'=>oz (Q':=Q') hback rest (i+1) (listed.setIfInBounds i true) a' w' (by simpa using hs) (fun j=>by have:=hr (j+1);simpa [Nat.add_assoc,Nat.add_comm 1 j] using this) (by simp at hl;omega)
   (fun j hj=>by
    rw [hset];by_cases e:j=i
    ·rw [if_pos e]
    ·rw [if_neg e];exact h1 j (by omega))
   (fun j hj=>by rw [hset,if_neg (by omega)];exact h2 j (by omega)) (fun j oj hj hoj=>h3 j oj (by omega) hoj)
  have hop:l.toArray[i]? = some o:=by simpa using hok
  unfold wpOp;simp only [hop];unfold wpList at h;split at h
  ·rename_i hw;rw [if_pos hw];exact h.imp (Oper.wp_mono fun a' w' hh=>ih a' w' hh) id
  ·rename_i hw;rw [if_neg hw];exact ih _ _ h
def Cj (k:Nat) (s:AS):Bool:=(s.t.all fun p => !AV.men k p.2)&&s.h.all fun p => !AO.men k p.2
theorem yA {α:Type} {d:α} {p:α→Bool} (hd:p d=true):∀ {l:List (Nat×α)},l.all (fun x=>p x.2)=true→∀ i,p (lk d l i)=true
 | [],_,i=>hd
 | (j,u)::l,h,i=>by
  simp only [List.all_cons,KJ] at h;simp only [lk];cases Nat.beq i j with
  | true=>exact h.1
  | false=>exact yA hd h.2 i
theorem sX {k:Nat} {s:AS} (h:Cj k s=true):DU k s:=by simp only [Cj,KJ] at h;exact ⟨fun t=>by have:=yA (p:=fun v => !AV.men k v) (d:=.any) rfl h.1 t;simpa using this,fun j=>by have:=yA (p:=fun v => !AO.men k v) (d:=.gone) rfl h.2 j;simpa using this⟩
def ql (k:Nat) (e:cJ):Bool:=(e.ws.any fun p=>AV.men k p.2)||e.os.any fun p=>AO.men k p.2
def Az (cl:List (List Nat)) (es:List cJ) (s:AS):Bool:=es.zipIdx.all fun (e,i)=>e.fr.all fun k=>Cj k s&&es.zipIdx.all fun (e',j)=>Nat.beq i j || !ql k e'||(Nat.blt i j&&(cl.getD j []).any (Nat.beq i))
def Ce (k t:Nat) (s:AS):Bool:=(s.t.all fun p=>Nat.beq p.1 t || !AV.men k p.2)&&s.h.all fun p => !AO.men k p.2
def nv (k t:Nat) (e:cJ):Bool:=(e.ws.any fun p => !Nat.beq p.1 t&&AV.men k p.2)||e.os.any fun p=>AO.men k p.2
def z8 (cl:List (List Nat)) (es:List cJ) (s:AS):Bool:=es.zipIdx.all fun (e,i)=>e.ex.all fun (k,t)=>Ce k t s&&es.zipIdx.all fun (e',j)=>Nat.beq i j || !nv k t e'||(Nat.blt i j&&(cl.getD j []).any (Nat.beq i))
theorem CM {α:Type} {d:α} {p:α→Bool} (hd:p d=true) {t:Nat}:∀ {l:List (Nat×α)},l.all (fun x=>Nat.beq x.1 t||p x.2)=true→∀ i,i≠t→p (lk d l i)=true
 | [],_,i,_=>hd
 | (j,u)::l,h,i,hi=>by
  simp only [List.all_cons,KJ,Bool.or_eq_true] at h;simp only [lk];cases e:Nat.beq i j with
  | true =>
   have e:=bP.1 e;subst e;rcases h.1 with h1 | h1
   ·exact absurd (bP.1 h1) hi
   ·exact h1
  | false=>exact CM hd h.2 i hi
theorem td {k t:Nat} {s:AS} (h:Ce k t s=true):Gi k t s:=by simp only [Ce,KJ] at h;exact ⟨fun i hi=>by have:=CM (p:=fun v => !AV.men k v) (d:=.any) rfl h.1 i hi;simpa using this,fun j=>by have:=yA (p:=fun v => !AO.men k v) (d:=.gone) rfl h.2 j;simpa using this⟩
theorem rM {α:Type}:∀ {l:List (Nat×α)} {i:Nat} {v:α},gz l i=some v→(i,v)∈l
 | [],_,_,h=>by cases h
 | (k,u)::l,i,v,h=>by
  simp only [gz] at h;by_cases e:i=k
  ·subst e;rw [Nat.beq_refl] at h;cases h;simp
  ·rw [bN e] at h;exact List.mem_cons_of_mem _ (rM h)
theorem AU {k t:Nat} {e:cJ} {v:AV} (h:ql k e=false) (hv:gz e.ws t=some v):AV.men k v=false:=by simp only [ql,Bool.or_eq_false_iff] at h;rw [Bool.eq_false_iff];intro hc;have:(e.ws.any fun p=>AV.men k p.2)=true:=List.any_eq_true.2 ⟨(t,v),rM hv,hc⟩;rw [h.1] at this;cases this
theorem Bl {k t:Nat} {e:cJ} {v:AO} (h:ql k e=false) (hv:gz e.os t=some v):AO.men k v=false:=by simp only [ql,Bool.or_eq_false_iff] at h;rw [Bool.eq_false_iff];intro hc;have:(e.os.any fun p=>AO.men k p.2)=true:=List.any_eq_true.2 ⟨(t,v),rM hv,hc⟩;rw [h.2] at this;cases this
theorem xq {k t0 t:Nat} {e:cJ} {v:AV} (h:nv k t0 e=false) (hv:gz e.ws t=some v) (ht:t≠t0):AV.men k v=false:=by simp only [nv,Bool.or_eq_false_iff] at h;rw [Bool.eq_false_iff];intro hc;have:(e.ws.any fun p => !Nat.beq p.1 t0&&AV.men k p.2)=true:=List.any_eq_true.2 ⟨(t,v),rM hv,by simp [bN ht,hc]⟩;rw [h.1] at this;cases this
theorem xf {k t0 t:Nat} {e:cJ} {v:AO} (h:nv k t0 e=false) (hv:gz e.os t=some v):AO.men k v=false:=by simp only [nv,Bool.or_eq_false_iff] at h;rw [Bool.eq_false_iff];intro hc;have:(e.os.any fun p=>AO.men k p.2)=true:=List.any_eq_true.2 ⟨(t,v),rM hv,hc⟩;rw [h.2] at this;cases this
theorem Df {e1 e2:cJ} {r1 r2:List Nat×List AV} {t:Nat} (h1:gz e1.ws t≠none) (h2:gz e2.ws t≠none):nV e1 e2 r1 r2=true:=by obtain ⟨p,hp,rfl⟩:=oD h1;obtain ⟨q,hq,hq2⟩:=oD h2;simp only [nV,Bool.or_eq_true];exact .inl (.inl (.inl (List.any_eq_true.2 ⟨p,hp,by rw [Bool.or_eq_true];exact .inl (List.any_eq_true.2 ⟨q,hq,bP.2 hq2.symm⟩)⟩)))
theorem Du {e1 e2:cJ} {r1 r2:List Nat×List AV} {t:Nat} (h1:gz e1.os t≠none) (h2:gz e2.os t≠none):nV e1 e2 r1 r2=true:=by obtain ⟨p,hp,rfl⟩:=oD h1;obtain ⟨q,hq,hq2⟩:=oD h2;simp only [nV,Bool.or_eq_true];exact .inl (.inr (List.any_eq_true.2 ⟨p,hp,by rw [Bool.or_eq_true];exact .inl (List.any_eq_true.2 ⟨q,hq,bP.2 hq2.symm⟩)⟩))
theorem CS {e1 e2:cJ} {r1 r2:List Nat×List AV} {t:Nat} (h1:gz e1.ws t≠none) (h2:t∈r2.1):nV e1 e2 r1 r2=true:=by obtain ⟨p,hp,rfl⟩:=oD h1;simp only [nV,Bool.or_eq_true];exact .inl (.inl (.inl (List.any_eq_true.2 ⟨p,hp,by rw [Bool.or_eq_true];exact .inr (List.any_eq_true.2 ⟨p.1,h2,Nat.beq_refl _⟩)⟩)))
theorem DO {e1 e2:cJ} {r1 r2:List Nat×List AV} {t:Nat} (h1:gz e2.ws t≠none) (h2:t∈r1.1):nV e1 e2 r1 r2=true:=by obtain ⟨p,hp,rfl⟩:=oD h1;simp only [nV,Bool.or_eq_true];exact .inl (.inl (.inr (List.any_eq_true.2 ⟨p,hp,List.any_eq_true.2 ⟨p.1,h2,Nat.beq_refl _⟩⟩)))
theorem Dx {e1 e2:cJ} {r1 r2:List Nat×List AV} {k:Nat} {v:AV} (h1:gz e1.os k≠none) (h2:v∈r2.2) (h3:AV.men k v=true):nV e1 e2 r1 r2=true:=by obtain ⟨p,hp,rfl⟩:=oD h1;simp only [nV,Bool.or_eq_true];exact .inl (.inr (List.any_eq_true.2 ⟨p,hp,by rw [Bool.or_eq_true];exact .inr (List.any_eq_true.2 ⟨v,h2,h3⟩)⟩))
theorem DE {e1 e2:cJ} {r1 r2:List Nat×List AV} {k:Nat} {v:AV} (h1:gz e2.os k≠none) (h2:v∈r1.2) (h3:AV.men k v=true):nV e1 e2 r1 r2=true:=by obtain ⟨p,hp,rfl⟩:=oD h1;simp only [nV,Bool.or_eq_true];exact .inr (List.any_eq_true.2 ⟨p,hp,List.any_eq_true.2 ⟨v,h2,h3⟩⟩)
theorem iM.symm' {s s':AS} (h:iM s s'):iM s' s:=⟨h.n.symm,fun i=>(h.t i).symm,fun k=>(h.h k).symm⟩
theorem Gu {id:Nat} {Q:Exit→AS→Prop} (hm:P.follows .mixedOrders=true) (n:Nat) (es:List cJ) {s s1:AS} (hchk:(vt l n es s&&Az (kA l []) es s&&z8 (kA l []) es s)=true) (hch:xH P l.toArray (l.take n) es s s1)
 (ht:fR P l.toArray (l.drop n) Q s1):dL P (.region id l.toArray true) Q s:=fun c a w β κ r=>by
 simp only [KJ,vt] at hchk;obtain ⟨⟨⟨⟨⟨⟨c1,c2⟩,c3⟩,c5⟩,c6⟩,c7⟩,c8⟩:=hchk;have hen:es.length=n:=bP.1 c1;have hnl:n≤l.length:=by simpa [Nat.ble_eq] using c2
 obtain ⟨k1,k2,k3⟩:=hch.loc;have htk:∀ i,i<n→(l.take n)[i]? = l[i]? := fun i hi=>by rw [List.getElem?_take,if_pos hi]
 have htail:(∀ i o,n<i→l[i]? = some o→(i-1)∈aft o)∧(n<l.length→∀ j,j<n→j∈(kA l []).getD n []):=by
  cases hd:l.drop n with
  | nil =>
   have hle:l.length≤n:=by simpa using hd
   exact ⟨fun i o hi ho=>by have:=(KQ.1 ho).1;omega,fun h=>by omega⟩
  | cons o0 os =>
   rw [hd] at c6;simp only [KJ] at c6;refine ⟨fun i o hi ho => ?_,fun _ j hj => ?_⟩
   ·have hget:os[i-(n+1)]? = some o:=by
     have:(l.drop n)[i-n]? = some o:=by rw [List.getElem?_drop,show n+(i-n)=i by omega];exact ho
     rw [hd,show i-n=(i-(n+1))+1 by omega,List.getElem?_cons_succ] at this;exact this
    have:=qb c6.2 _ o hget;rw [show n+(i-(n+1))=i-1 by omega] at this;exact this
   ·obtain ⟨x,hx,hb⟩:=List.any_eq_true.1 (KU.1 c6.1 j (vi hj));have:j=x:=bP.1 hb;subst this;exact hx
 have main:∀ (f:Nat) (listed:Array Bool) (a:Act) (w:World) (β:Nat→Nat) (κ:Nat→Nat×Nat),listed.size=l.length→CE l listed→cntF (listed.toList.take n)=f→(∀ i,n≤i→listed.getD i false=false) →
  Rel c (sL es (listed.toList.take n) s) a w β κ→wpAny P .any l.toArray (lift c Q) (f+(l.length-n)) listed a w:=by
  intro f;induction f with
  | zero =>
   intro listed a w β κ hs hcl hcnt hun hr;have hml:(listed.toList.take n).length=n:=by simp;omega
   have hall:=sJ hcnt;rw [hml] at hall;rw [hall,← hen,← k2] at hr;have hlist:=ht c a w β κ hr;have hdl:(l.drop n).length=l.length-n:=by simp
   rw [Nat.zero_add,← hdl];refine oz c5 (l.drop n) n listed a w hs (fun j=>by rw [List.getElem?_drop]) (by rw [hdl];omega) (fun i hi => ?_) hun htail.1 hlist;have h1:=mW (listed:=listed) hi (by omega);rw [hall,List.getElem?_replicate,if_pos hi] at h1;exact (KT h1).symm
  | succ f ih =>
   intro listed a w β κ hs hcl hcnt hun hr;have hml:(listed.toList.take n).length=n:=by simp;omega
   obtain ⟨i0,hi0⟩:=wj (bs:=listed.toList.take n) (by omega);have hi0n:i0<n:=by have:=(KQ.1 hi0).1;omega
   have hgf:∀ i,i<n→(listed.toList.take n)[i]? = some (listed.getD i false):=fun i hi=>mW hi (by omega);have hready:∀ i∈Region.ready .any l.toArray listed,i<n∧listed.getD i false=false∧∃ o,l[i]? = some o∧∀ j∈aft o,listed.getD j false=true:=by
    intro i hi;obtain ⟨h4,o,ho,h5⟩:=gu.1 hi;have hil:i<l.length:=(KQ.1 ho).1;have h6:listed.getD i false=false:=by simp [KK,KS (show i<listed.size by omega)] at h4 ⊢;exact h4
    refine ⟨?_,h6,o,ho,h5⟩;by_cases hin:i<n
    ·exact hin
    ·exfalso;by_cases e:i=n
     ·subst e;have:=eL hcl l [] (fun j=>by simp) (fun k hk=>by simp at hk) (by simpa using c5) i o ho (by simpa using hil) h5 i0 (htail.2 hil i0 hi0n);rw [hgf i0 hi0n,this] at hi0;cases hi0
     ·have:=h5 _ (htail.1 i o (by omega) ho);rw [hun (i-1) (by omega)] at this;cases this
   rw [show f+1+(l.length-n)=(f+(l.length-n))+1 by omega];refine ⟨fun h0 => ?_,fun i hi => ?_⟩
   ·
    exfalso;have hex:∃ i,i<n∧listed.getD i false=false∧∀ j,j<i→listed.getD j false=true:=by
     have gen:∀ m,(∀ j,j<m→listed.getD j false=true)∨∃ i,i<m∧listed.getD i false=false∧∀ j,j<i→listed.getD j false=true:=by
      intro m;induction m with
      | zero=>exact .inl fun j hj=>by omega
      | succ m ihm =>
       rcases ihm with h | ⟨i,h1,h2,h3⟩
       ·cases hb:listed.getD m false with
        | true =>
         refine .inl fun j hj => ?_;by_cases e:j=m
         ·rw [e];exact hb
         ·exact h j (by omega)
        | false=>exact .inr ⟨m,by omega,hb,h⟩
       ·exact .inr ⟨i,by omega,h2,h3⟩
     rcases gen n with h | ⟨i,h1,h2,h3⟩
     ·have:=h i0 hi0n;rw [hgf i0 hi0n,this] at hi0;cases hi0
     ·exact ⟨i,h1,h2,h3⟩
    obtain ⟨i,h1,h2,h3⟩:=hex;have hil:i<l.length:=by omega
    have:i∈Region.ready .any l.toArray listed:=by
     refine gu.2 ⟨?_,l[i],KI hil,fun j hj=>h3 j ?_⟩
     ·simp [KK,KS (show i<listed.size by omega)] at h2 ⊢;exact h2
     ·have:=mM c5 i _ (KI hil) j hj;omega
    rw [h0] at this;cases this
   ·obtain ⟨hin,hif,o,ho,haft⟩:=hready i hi;obtain ⟨e,he⟩:∃ e,es[i]? = some e:=⟨es[i]'(by omega),KI (by omega)⟩;have hloc:=k3 i o e (by rw [htk i hin];exact ho) he;have hbi:(listed.toList.take n)[i]? = some false:=by rw [hgf i hin,hif]
    let lex:=(List.range es.length).map fun j=>decide (j<i)
    have hlex:∀ j,j<n→lex[j]? = some (decide (j<i)):=fun j hj=>by simp [lex,hen,hj]
    have hlexl:lex.length=(listed.toList.take n).length:=by simp [lex,hen];omega
    have hord:∀ (j:Nat) (oj:Oper) (ej:cJ),l[j]? = some oj→es[j]? = some ej→j≠i →
     (∀ r1 r2,(infos l.toArray (l.take n) es s)[min i j]? = some r1→(infos l.toArray (l.take n) es s)[max i j]? = some r2→nV (if i<j then e else ej) (if i<j then ej else e) r1 r2=true)→(listed.toList.take n)[j]? = lex[j]? := by
     intro j oj ej hoj hej hji hcf;have hjn:j<n:=by have:=(KQ.1 hej).1;omega
     have i1:=fU (ops:=l.toArray) (s:=s) k1 i o (by rw [htk i hin];exact ho);have i2:=fU (ops:=l.toArray) (s:=s) k1 j oj (by rw [htk j hjn];exact hoj);rw [hgf j hjn,hlex j hjn];rcases Nat.lt_or_ge j i with hlt | hge
     ·rw [show min i j=j by omega,show max i j=i by omega,if_neg (by omega),if_neg (by omega)] at hcf;have hm:=nl c3 hej i2 he i1 hlt (hcf _ _ i2 i1);have:=eL hcl l [] (fun j=>by simp) (fun k hk=>by simp at hk) (by simpa using c5) i o ho (by simpa using (KQ.1 ho).1) haft j hm;rw [this];simp [hlt]
     ·rw [show min i j=i by omega,show max i j=j by omega,if_pos (by omega),if_pos (by omega)] at hcf;have hm:=nl c3 he i1 hej i2 (by omega) (hcf _ _ i1 i2);have:listed.getD j false=false:=by
       cases hb:listed.getD j false with
       | false=>rfl
       | true =>
        have:=eL hcl l [] (fun j=>by simp) (fun k hk=>by simp at hk) (by simpa using c5) j oj hoj (by simpa using (KQ.1 hoj).1) (hcl j oj hoj hb) i hm;rw [hif] at this;cases this
      rw [this];simp;omega
    have hoj:∀ (j:Nat) (ej:cJ),es[j]? = some ej→∃ oj,l[j]? = some oj:=fun j ej h=>by have:=(KQ.1 h).1;exact ⟨l[j]'(by omega),KI (by omega)⟩
    have hii:(listed.toList.take n)[i]? = lex[i]? := by rw [hbi,hlex i hin];simp
    have hagree:rv l.toArray o (sL es lex s) (sL es (listed.toList.take n) s):=by
     refine ⟨by rw [B6,B6],fun t hlt => ?_,fun hmv x hx k hk => ?_⟩
     ·rw [uP,uP,kO hlexl.symm fun j ej h1 h2 => ?_];by_cases hji:j=i
      ·rw [hji];exact hii
      obtain ⟨oj,h3⟩:=hoj j ej h1;refine hord j oj ej h3 h1 hji fun r1 r2 q1 q2 => ?_;have i1:=fU (ops:=l.toArray) (s:=s) k1 i o (by rw [htk i hin];exact ho);by_cases hlt2:i<j
      ·rw [if_pos hlt2,if_pos hlt2];rw [show min i j=i by omega,i1] at q1;cases q1;exact DO h2 hlt
      ·rw [if_neg hlt2,if_neg hlt2];rw [show max i j=i by omega,i1] at q2;cases q2;exact CS h2 hlt
     ·rw [uQ,uQ,kO hlexl.symm fun j ej h1 h2 => ?_];by_cases hji:j=i
      ·rw [hji];exact hii
      obtain ⟨oj,h3⟩:=hoj j ej h1;refine hord j oj ej h3 h1 hji fun r1 r2 q1 q2 => ?_;have i1:=fU (ops:=l.toArray) (s:=s) k1 i o (by rw [htk i hin];exact ho);have hxm:(sL es lex s).op x∈(bif I2 o.op then [] else o.op.operands.toList.map (sL es lex s).op):=by rw [hmv];exact List.mem_map.2 ⟨x,by simpa using hx,rfl⟩
      by_cases hlt2:i<j
      ·rw [if_pos hlt2,if_pos hlt2];rw [show min i j=i by omega,i1] at q1;cases q1;exact DE h2 hxm hk
      ·rw [if_neg hlt2,if_neg hlt2];rw [show max i j=i by omega,i1] at q2;cases q2;exact Dx h2 hxm hk
    have hfree:∀ k∈e.fr,DU k (sL es (listed.toList.take n) s):=by
     intro k hk;have h1:=KU.1 (KU.1 c7 (e,i) (by rw [List.mem_iff_getElem?];exact ⟨i,by simp [he]⟩)) k hk;simp only [KJ] at h1;obtain ⟨f1,f2⟩:=sX h1.1;have hother:∀ (j:Nat) (e':cJ),es[j]? = some e'→(listed.toList.take n)[j]? = some true→ql k e'=false:=by
      intro j e' h2 h3;have hne:i≠j:=by rintro rfl;rw [hbi] at h3;cases h3
      have h4:=KU.1 h1.2 (e',j) (by rw [List.mem_iff_getElem?];exact ⟨j,by simp [h2]⟩);simp only [bN hne,Bool.false_or,Bool.or_eq_true,Bool.not_eq_true',KJ] at h4;rcases h4 with h4 | ⟨h4,h5⟩
      ·exact h4
      ·exfalso;obtain ⟨x,hx,hb⟩:=List.any_eq_true.1 h5;have hxi:i=x:=bP.1 hb;subst hxi;obtain ⟨oj,hoj'⟩:=hoj j e' h2;have hjn:j<n:=by have:=(KQ.1 h2).1;omega
       rw [hgf j hjn] at h3;have hb2:listed.getD j false=true:=KT h3;have:=eL hcl l [] (fun j=>by simp) (fun k hk=>by simp at hk) (by simpa using c5) j oj hoj' (by simpa using (KQ.1 hoj').1) (hcl j oj hoj' hb2) i hx;rw [hif] at this;cases this
     refine ⟨fun t => ?_,fun t => ?_⟩
     ·rw [uP];cases hv:lw (fun e=>gz e.ws t) es (listed.toList.take n) with
      | none=>exact f1 t
      | some v =>
       obtain ⟨j,e',h2,h3,h4⟩:=nw hv;exact AU (hother j e' h2 h3) h4
     ·rw [uQ];cases hv:lw (fun e=>gz e.os t) es (listed.toList.take n) with
      | none=>exact f2 t
      | some v =>
       obtain ⟨j,e',h2,h3,h4⟩:=nw hv;exact Bl (hother j e' h2 h3) h4
    have honly:∀ p∈e.ex,Gi p.1 p.2 (sL es (listed.toList.take n) s):=by
     rintro ⟨k,t0⟩ hk;have h1:=KU.1 (KU.1 c8 (e,i) (by rw [List.mem_iff_getElem?];exact ⟨i,by simp [he]⟩)) (k,t0) hk;simp only [KJ] at h1;obtain ⟨f1,f2⟩:=td h1.1;have hother:∀ (j:Nat) (e':cJ),es[j]? = some e'→(listed.toList.take n)[j]? = some true→nv k t0 e'=false:=by
      intro j e' h2 h3;have hne:i≠j:=by rintro rfl;rw [hbi] at h3;cases h3
      have h4:=KU.1 h1.2 (e',j) (by rw [List.mem_iff_getElem?];exact ⟨j,by simp [h2]⟩);simp only [bN hne,Bool.false_or,Bool.or_eq_true,Bool.not_eq_true',KJ] at h4;rcases h4 with h4 | ⟨h4,h5⟩
      ·exact h4
      ·exfalso;obtain ⟨x,hx,hb⟩:=List.any_eq_true.1 h5;have hxi:i=x:=bP.1 hb;subst hxi;obtain ⟨oj,hoj'⟩:=hoj j e' h2;have hjn:j<n:=by have:=(KQ.1 h2).1;omega
       rw [hgf j hjn] at h3;have hb2:listed.getD j false=true:=KT h3;have:=eL hcl l [] (fun j=>by simp) (fun k hk=>by simp at hk) (by simpa using c5) j oj hoj' (by simpa using (KQ.1 hoj').1) (hcl j oj hoj' hb2) i hx;rw [hif] at this;cases this
     refine ⟨fun t htt => ?_,fun t => ?_⟩
     ·rw [uP];cases hv:lw (fun e=>gz e.ws t) es (listed.toList.take n) with
      | none=>exact f1 t htt
      | some v =>
       obtain ⟨j,e',h2,h3,h4⟩:=nw hv;exact xq (hother j e' h2 h3) h4 htt
     ·rw [uQ];cases hv:lw (fun e=>gz e.os t) es (listed.toList.take n) with
      | none=>exact f2 t
      | some v =>
       obtain ⟨j,e',h2,h3,h4⟩:=nw hv;exact xf (hother j e' h2 h3) h4
    have hlater:∀ (j:Nat) (e':cJ),i<j→es[j]? = some e'→(listed.toList.take n)[j]? = some true→(∀ r1 r2,nV e e' r1 r2=true)→False:=by
     intro j e' hij h1 h2 hcf;obtain ⟨oj,h3⟩:=hoj j e' h1;have:=hord j oj e' h3 h1 (by omega) fun r1 r2 _ _=>by rw [if_pos hij,if_pos hij];exact hcf r1 r2
     have hjn:j<n:=by have:=(KQ.1 h1).1;omega
     rw [h2,hlex j hjn] at this;simp at this;omega
    have hop:=hloc _ hagree hfree honly c a w β κ hr (wpAny P .any l.toArray (lift c Q) (f+(l.length-n)) (listed.setIfInBounds i true)) (lift c Q) (fun s' a' w' β' κ' hs' hr'=>by
     have hset:∀ j,(listed.setIfInBounds i true).getD j false=if j=i then true else listed.getD j false:=by
      intro j;simp only [KK,Array.getElem?_setIfInBounds];by_cases e:j=i
      ·subst e;rw [if_pos rfl,if_pos (by omega)];simp
      ·rw [if_neg (fun h=>e h.symm),if_neg e]
     have htake:(listed.setIfInBounds i true).toList.take n=(listed.toList.take n).set i true:=by rw [Array.toList_setIfInBounds,List.take_set]
     refine ih (listed.setIfInBounds i true) a' w' β' κ' (by simpa using hs) (fun j oj hoj hl' j' hj' => ?_) ?_ (fun j hj => ?_) ?_
     ·rw [hset];by_cases e1:j'=i
      ·rw [if_pos e1]
      ·rw [if_neg e1];rw [hset] at hl';by_cases e2:j=i
       ·subst e2;rw [ho] at hoj;cases hoj;exact haft j' hj'
       ·rw [if_neg e2] at hl';exact hcl j oj hoj hl' j' hj'
     ·rw [htake];have:=uv hbi;omega
     ·rw [hset,if_neg (by omega)];exact hun j hj
     ·rw [htake];exact (hr'.same hs'.symm').same (Fw he hbi (fun t ht j e' hij h1 h2=>by
       cases hw:gz e'.ws t with
       | none=>rfl
       | some v=>exact (hlater j e' hij h1 h2 fun r1 r2=>Df ht (by rw [hw];simp)).elim) (fun k hk j e' hij h1 h2=>by
       cases hw:gz e'.os k with
       | none=>rfl
       | some v=>exact (hlater j e' hij h1 h2 fun r1 r2=>Du hk (by rw [hw];simp)).elim) s))
    have hopi:l.toArray[i]? = some o:=by simpa using ho
    unfold wpOp;simp only [hopi];split
    ·rename_i hw;rw [if_pos hw] at hop;exact .inl hop
    ·rename_i hw;rw [if_neg hw] at hop;exact hop
 refine wp_region_any hm ?_;have hrep:((Array.replicate l.toArray.size false).toList.take n)=List.replicate n false:=by simp [List.take_replicate];omega
 have hcf:∀ n,cntF (List.replicate n false)=n:=by
  intro n;induction n with
  | zero=>rfl
  | succ n ih=>rw [List.replicate_succ,cntF,ih];simp;omega
 have hs0:∀ (es:List cJ) (n:Nat) (s:AS),sL es (List.replicate n false) s=s:=by
  intro es;induction es with
  | nil=>intro n s;cases n<;>rfl
  | cons e es ih=>intro n s;cases n with
   | zero=>rfl
   | succ n=>rw [List.replicate_succ,sL];exact ih n s
 have hrf:∀ i,(Array.replicate l.toArray.size false).getD i false=false:=by intro i;simp [KK,Array.getElem?_replicate];split<;>simp
 have:=main n (Array.replicate l.toArray.size false) a w.drew β κ (by simp) (fun i o _ h=>by rw [hrf] at h;cases h) (by rw [hrep,hcf]) (fun i _=>hrf i) (by rw [hrep,hs0];exact r.drew);rw [show n+(l.length-n)=l.toArray.size by simp;omega] at this;exact this
end
section
variable {P:Program} {ops:Array Oper} {o:Oper} {s s':AS}
theorem bg (ha:rv ops o s s') {x:Operand} (hx:x∈o.op.operands):s'.op x=s.op x:=by
 cases x with
 | tmp t =>
  refine ha.t t ?_;unfold Oper.looksAt;exact List.mem_append_left _ (List.mem_filterMap.2 ⟨.tmp t,by simpa using hx,rfl⟩)
 | const v=>rfl
 | global g=>rfl
 | func f=>rfl
theorem bO (ha:rv ops o s s'):gd ops s' o=gd ops s o:=by
 unfold gd;split
 ·rfl
 ·rename_i j b hg;cases hj:ops[j]? with
  | none=>rfl
  | some x =>
   cases hd:x.dst with
   | none=>simp only [hd]
   | some t =>
    simp only [hd];have:t∈o.looksAt ops:=by unfold Oper.looksAt;refine List.mem_append_right _ ?_;simp [hg,hj,hd]
    rw [ha.t t this,ha.n]
def ll (s s':AS) (v:AV):Prop:=∀ k,AV.men k v=true→lk .gone s'.h k=lk .gone s.h k
theorem wY {v:AV} (h:ll s s' v):nA s' v=nA s v:=by cases v<;>simp only [nA];case hptr k o=>rw [h k (by simp [AV.men])]
theorem zA {v:AV} {t:TypeId} (h:ll s s' v):tH P s' t v=tH P s t v:=by unfold tH;rw [wY h]
theorem CA {v:AV} {t:TypeId} (h:ll s s' v):DW P s' t v=DW P s t v:=by
 cases v<;>simp only [DW];case rslice k=>rw [h k (by simp [AV.men])]
 case amap k=>rw [h k (by simp [AV.men])]
theorem wc {x:Option Operand} {d:Int} (h:∀ y,x=some y→s'.op y=s.op y):pt s' d x=pt s d x:=by
 cases x with
 | none=>rfl
 | some y=>simp only [pt,h y rfl]
theorem yf {v:AV} {t:TypeId} {lo hi:Option Operand} (h1:∀ y,lo=some y→s'.op y=s.op y) (h2:∀ y,hi=some y→s'.op y=s.op y):rS P s' t v lo hi=rS P s t v lo hi:=by cases v<;>simp only [rS,wc h1,wc h2]
theorem zd {v:AV} {t:TypeId} {i:Operand} (h1:s'.op i=s.op i):su P s' t v i=su P s t v i:=by unfold su;rw [h1]
theorem sK {v:AV} {t:TypeId} {i:Operand} (h1:s'.op i=s.op i) (h:ll s s' v):iO P s' t v i=iO P s t v i:=by
 unfold iO;rw [h1];cases v<;>try rfl
 case rslice k =>
  have:=h k (by simp [AV.men]);simp only [this]
theorem Cl {op:BinOp} {t:TypeId} {x y:Operand} (h1:s'.op x=s.op x) (h2:s'.op y=s.op y):A6 P s' op t x y=A6 P s op t x y:=by unfold A6;rw [h1,h2]
theorem BW {op:Op} (h1:∀ x∈op.operands,s'.op x=s.op x) (h2:∀ x∈op.operands,ll s s' (s.op x)):fT P s' op=fT P s op:=by
 cases op;case call c =>
  obtain ⟨callee,args,tys⟩:=c;cases callee;case builtin b =>
   have k1:∀ x∈args.toList,s'.op x=s.op x:=fun x hx=>h1 x (by simpa [Op.operands,Call.operands] using hx);have k2:∀ x∈args.toList,ll s s' (s.op x):=fun x hx=>h2 x (by simpa [Op.operands,Call.operands] using hx);simp only [fT];revert k1 k2;generalize args.toList=l;generalize tys.toList=tl;intro k1 k2;cases b<;>try rfl
   case len =>
    match l,tl,k1,k2 with
    | [x],[t],k1,k2=>simp only [k1 x (by simp),CA (k2 x (by simp))]
    | [],_,_,_=>rfl
    | _::_::_,_,_,_=>rfl
    | [_],[],_,_=>rfl
    | [_],_::_::_,_,_=>rfl
   case max =>
    match l,k1,k2 with
    | [x,y],k1,k2=>simp only [k1 x (by simp),k1 y (by simp)]
    | [],_,_=>rfl
    | [_],_,_=>rfl
    | _::_::_::_,_,_=>rfl
   case min =>
    match l,k1,k2 with
    | [x,y],k1,k2=>simp only [k1 x (by simp),k1 y (by simp)]
    | [],_,_=>rfl
    | [_],_,_=>rfl
    | _::_::_::_,_,_=>rfl
  all_goals rfl
 case makeFunc f first caps =>
  have k1:∀ x∈caps.toList,s'.op x=s.op x:=fun x hx=>h1 x (by simp [Op.operands] at hx ⊢;exact .inr hx);have k2:∀ x∈first.toList,s'.op x=s.op x:=fun x hx=>h1 x (by simp [Op.operands] at hx ⊢;exact .inl hx)
  cases f with
  | func g =>
   simp only [fT,List.map_congr_left k1];split
   ·rfl
   ·split
    ·rename_i x e1 e2;rw [k2 x (by rw [e1];simp)]
    ·rfl
  | _=>rfl
 case slice t x lo hi m =>
  have k0:s'.op x=s.op x:=h1 x (by simp [Op.operands]);have k1:∀ y,lo=some y→s'.op y=s.op y:=fun y hy=>h1 y (by simp [Op.operands,hy]);have k2:∀ y,hi=some y→s'.op y=s.op y:=fun y hy=>h1 y (by simp [Op.operands,hy]);cases m with
  | none=>simp only [fT,k0,yf k1 k2]
  | some z=>rfl
 case pick c a b =>
  simp only [fT,h1 c (by simp [Op.operands]),h1 a (by simp [Op.operands]),h1 b (by simp [Op.operands])]
 case binOp b t x y u =>
  simp only [fT,Cl (h1 x (by simp [Op.operands])) (h1 y (by simp [Op.operands]))]
 case index t x i =>
  simp only [fT,h1 x (by simp [Op.operands]),zd (h1 i (by simp [Op.operands]))]
 case indexAddr t x i =>
  simp only [fT,h1 x (by simp [Op.operands]),sK (h1 i (by simp [Op.operands])) (h2 x (by simp [Op.operands]))]
 case load t x =>
  simp only [fT,h1 x (by simp [Op.operands]),zA (h2 x (by simp [Op.operands]))]
 case move x=>simp only [fT,h1 x (by simp [Op.operands])]
 case assign x=>simp only [fT,h1 x (by simp [Op.operands])]
 case fieldAddr t x f=>simp only [fT,h1 x (by simp [Op.operands])]
 case field t x f=>simp only [fT,h1 x (by simp [Op.operands])]
 case extract x i=>simp only [fT,h1 x (by simp [Op.operands])]
 case unOp u t x=>simp only [fT,h1 x (by simp [Op.operands])]
 case nilCheck x=>simp only [fT,h1 x (by simp [Op.operands])]
 case convert u t x=>simp only [fT,h1 x (by simp [Op.operands])]
 all_goals first | rfl | (simp only [fT,h1 _ (by simp [Op.operands])])
def cJ.put (dst:Option Tmp) (v:AV):cJ:=⟨match dst with | some t=>[(t,v)] | none=>[],[],[],[]⟩
theorem F3 {dst:Option Tmp} {v:AV} {s1:AS} (h:s.put dst v=some s1):iM ((cJ.put dst v).app s) s1:=by
 cases dst with
 | none=>cases h;exact .refl _
 | some t =>
  simp only [AS.put] at h;cases hlt:Nat.blt t s.n with
  | false=>rw [hlt] at h;cases h
  | true=>rw [hlt] at h;cases h;exact .refl _
theorem Ei {dst:Option Tmp} {v:AV} {s1:AS} (hn:s'.n=s.n) (h:s.put dst v=some s1):∃ s2,s'.put dst v=some s2:=by
 cases dst with
 | none=>exact ⟨_,rfl⟩
 | some t =>
  simp only [AS.put] at h ⊢;rw [hn];cases hlt:Nat.blt t s.n with
  | false=>rw [hlt] at h;cases h
  | true=>exact ⟨_,rfl⟩
theorem kh {dst:Option Tmp} {v:AV} {s1:AS} (hd:o.dst=dst) (hp:s.put dst v=some s1) (h:∀ s',rv ops o s s'→∀ s2,s'.put dst v=some s2→iP P ops o s' (· = s2)):Loc P ops o s (.put dst v):=by intro s' ha _ _;obtain ⟨s2,h2⟩:=Ei (s':=s') ha.n hp;exact (h s' ha s2 h2).mono fun s'' e=>by subst e;exact F3 h2
theorem Fp (hg:gd ops s o=some false) {s1:AS} (h:s.put o.dst (.tup [])=some s1):Loc P ops o s (.put o.dst (.tup [])) :=
 kh rfl h fun _ ha _ h2=>HV (by rw [bO ha];exact hg) h2
theorem uR (ha:rv ops o s s'):fT P s' o.op=fT P s o.op:=by
 cases hm:I2 o.op with
 | false=>exact BW (fun x hx=>bg ha hx) (fun x hx k hk=>ha.h hm x hx k hk)
 | true =>
  have h1:=fun x (hx:x∈o.op.operands)=>bg ha hx;generalize o.op=op at hm h1;cases op<;>first | (simp [I2] at hm;done) | (simp only [fT];rw [h1 _ (by simp [Op.operands])])
theorem DP (hg:gd ops s o=some true) {p:Prop} {v:AV} (hv:fT P s o.op=some (p,v)) (hp:p) {s1:AS} (h:s.put o.dst v=some s1):Loc P ops o s (.put o.dst v) :=
 kh rfl h fun s' ha _ h2=>Jd (by rw [bO ha];exact hg) (by rw [uR ha];exact hv) hp h2
theorem sO {v:AV} (h:ll s s' v):AV.vw1 s'.h v=AV.vw1 s.h v:=by
 cases v<;>try rfl
 case rslice k =>
  have:=h k (by simp [AV.men]);simp only [AV.vw1,this]
 case hptr k o =>
  have:=h k (by simp [AV.men]);simp only [AV.vw1,this]
theorem Fk {v:AV} (h:ll s s' v):AV.vw s'.h v=AV.vw s.h v:=by
 cases v with
 | agg cs =>
  simp only [AV.vw,AV.agg.injEq];refine List.map_congr_left fun c hc=>sO fun k hk=>h k ?_;obtain ⟨i,hi,rfl⟩:=List.mem_iff_getElem.1 hc;simp only [AV.men];refine dc hi ?_;simpa [KH,KI hi] using hk
 | fn f cs =>
  simp only [AV.vw,AV.fn.injEq,true_and];refine List.map_congr_left fun c hc=>sO fun k hk=>h k ?_;obtain ⟨i,hi,rfl⟩:=List.mem_iff_getElem.1 hc;simp only [AV.men];refine dc hi ?_;simpa [KH,KI hi] using hk
 | _=>exact sO h
theorem vr {f:FuncId} (he:Go.Proofs.Enters P f) {x:Operand} {ar:Array Operand} {tys:Array TypeId} (hg:gd ops s o=some true) (hop:o.op = .call ⟨.value x,ar,tys⟩) {caps:List AV} (hx:s.op x = .fn f caps) (fl:Bool)
 {args:List AV} (hargs:(if fl then (if AV.flL (s.args ar caps) then some (s.args ar caps) else none) else some ((s.args ar caps).map (AV.vw s.h)))=some args) {v:AV} (hc:bD P f args [] fun r _=>r=v) (hok:qI fl v=true) {s1:AS} (h:s.put o.dst v=some s1):Loc P ops o s (.put o.dst v) :=
 kh rfl h fun s' ha s2 h2=>by
  have hxx:s'.op x=s.op x:=bg ha (by simp [hop,Op.operands,Call.operands]);have har:∀ y∈ar,s'.op y=s.op y:=fun y hy=>bg ha (by simp [hop,Op.operands,Call.operands,hy]);have e1:s'.args ar caps=s.args ar caps:=by unfold AS.args;rw [List.map_congr_left (fun y hy=>har y (by simpa using hy))]
  refine HZ he (by rw [bO ha];exact hg) hop (by rw [hxx];exact hx) fl (args:=args) ?_ hc fun r h' hr=>by subst hr;exact ⟨hok,s2,h2,rfl⟩
  rw [e1];cases fl with
  | true=>exact hargs
  | false =>
   rw [← hargs];simp only [Bool.false_eq_true,if_false,KR];refine List.map_congr_left fun u hu=>Fk fun k hk => ?_;unfold AS.args at hu;rcases List.mem_append.1 hu with hu | hu
   ·obtain ⟨y,hy,rfl⟩:=List.mem_map.1 hu;exact ha.h (by rw [hop];rfl) y (by simp [hop,Op.operands,Call.operands];exact .inr (by simpa using hy)) k hk
   ·refine ha.h (by rw [hop];rfl) x (by simp [hop,Op.operands,Call.operands]) k ?_;rw [hx];obtain ⟨i,hi,rfl⟩:=List.mem_iff_getElem.1 hu;simp only [AV.men];refine dc hi ?_;simpa [KH,KI hi] using hk
theorem xu {t:TypeId} {ps:Array (Nat×Operand)} (hg:gd ops s o=some true) (hop:o.op = .build t ps) {v:AV} (hv:wo P t (s.parts ps)=some v) {s1:AS} (h:s.put o.dst v=some s1):Loc P ops o s (.put o.dst v) :=
 kh rfl h fun s' ha _ h2=>F1 (by rw [bO ha];exact hg) hop (by
  rw [← hv];congr 1;unfold AS.parts;refine List.map_congr_left fun p hp => ?_;rw [bg ha];rw [hop];simp only [Op.operands,List.mem_toArray,List.mem_map];exact ⟨p,hp,rfl⟩) h2
theorem ou {t:TypeId} {len:Nat} {ps:Array (Nat×Operand)} (hg:gd ops s o=some true) (hop:o.op = .buildSlice t len ps) {v:AV} (hv:cL P t len (s.parts ps)=some v) {s1:AS} (h:s.put o.dst v=some s1):Loc P ops o s (.put o.dst v) :=
 kh rfl h fun s' ha _ h2=>wP (by rw [bO ha];exact hg) hop (by
  rw [← hv];congr 1;unfold AS.parts;refine List.map_congr_left fun p hp => ?_;rw [bg ha];rw [hop];simp only [Op.operands,List.mem_toArray,List.mem_map];exact ⟨p,hp,rfl⟩) h2
theorem Ae {x y:Operand} {t e:TypeId} {sz by_:Nat} (hg:gd ops s o=some true) (hop:o.op = .call ⟨.builtin .append,#[x,y],#[t,t]⟩) (he:dZ P t=some (e,sz,by_)) (hx:s.op x = .eslice) {ys:List (List AV)} (hy:s.op y = .dslice ys)
 (hE:EL sz ys) (hb:ys.length*by_≤140737488355328) (h63:ys.length≤9223372036854775807) {s1:AS} (h:s.put o.dst (.dslice ys)=some s1):Loc P ops o s (.put o.dst (.dslice ys)) :=
 kh rfl h fun s' ha _ h2=>B0 (by rw [bO ha];exact hg) hop he (by rw [bg ha (by simp [hop,Op.operands,Call.operands])];exact hx) (by rw [bg ha (by simp [hop,Op.operands,Call.operands])];exact hy) hE hb h63 h2
end
theorem Rel.replace {P:Program} {c:Cx P} {s:AS} {a:Act} {w:World} {β:Nat→Nat} {κ:Nat→Nat×Nat} (r:Rel c s a w β κ) {k:Nat} (hlive:(lk .gone s.h k).live) {ob:AO} (hob:ob.live) {w':World} (hw1:∀ i,i≠β k→w'.heap[i]? = w.heap[i]?) (hkp:cE (fun i=>i≠β k) w w')
 (ho:(∀ {v:AV} {V:Value},G w (c.XX s.h β) β κ v V→G w' (c.XX s.h β) β κ v V)→(∀ {v:AV} {V:Value},D w (c.XX s.h β) v V→D w' (c.XX s.h β) v V)→HO w' (c.XX s.h β) β κ k ob) (hin:∀ j,ob.inn j↔(lk .gone s.h k).inn j:=by intro j;simp [AO.inn, *]):Rel c ⟨s.n,s.t,ins k ob s.h⟩ a w' β κ:=by
 have hsl:ob.live↔(lk .gone s.h k).live:=⟨fun _=>hlive,fun _=>hob⟩;have hlv:=fun j=>rD (h:=s.h) hsl hin j;have hXX:c.XX (ins k ob s.h) β=c.XX s.h β:=ub c β hsl hin;have hw:∀ i,¬ c.XX s.h β i→i<w.heap.size→w'.heap[i]? = w.heap[i]? := fun i hi _=>hw1 _ (fun e=>hi (.inr ⟨k,.inl hlive,e.symm⟩));have hG:∀ {v:AV} {V:Value},G w (c.XX s.h β) β κ v V→G w' (c.XX s.h β) β κ v V:=fun hg=>hg.mono hw (fun _ h _=>h) (fun _ _=>.refl);refine ⟨r.df,r.sz,fun i => ?_,⟨fun j => ?_,fun i j hi hj e=>r.hp.inj i j ((hlv i).1 hi) ((hlv j).1 hj) e,r.hp.kp.trans hkp fun b hb e=>r.hp.nk k (.inl hlive) (e ▸ hb),fun j hj=>r.hp.nk j ((hlv j).1 hj),fun j hj=>r.hp.nx j ((hlv j).1 hj),r.hp.fix,fun j hj => ?_⟩⟩
 ·show G _ (c.XX (ins k ob s.h) β) β κ _ _;rw [hXX];exact hG (r.tm i)
 ·show HO _ (c.XX (ins k ob s.h) β) β κ j (lk .gone (ins k ob s.h) j);rw [hXX,aD];by_cases ej:j=k
  ·subst ej;rw [if_pos rfl];exact ho hG fun hd=>hd.mono hw (fun _ h _=>h)
  ·rw [if_neg ej];exact (r.hp.ob j).mono hw (fun _ h _=>h) (fun _ _=>.refl) .refl (fun hl=>hw1 _ fun e=>ej (r.hp.inj j k (.inl hl) (.inl hlive) e)) (fun i hl=>hw1 _ (r.hp.vne hlive hl))
 ·rw [aD] at hj;by_cases ej:j=k
  ·rw [ej];exact r.hp.sm k hlive
  ·rw [if_neg ej] at hj;exact r.hp.sg j hj
def wQ (x:List UInt8) (d:AV):List (List UInt8×AV)→AV
 | []=>d
 | (k,u)::es=>if k=x then u else wQ x d es
def vd (x:List UInt8) (v:AV):List (List UInt8×AV)→List (List UInt8×AV)
 | []=>[(x,v)]
 | (k,u)::es=>if k=x then (x,v)::es else (k,u)::vd x v es
theorem sP {x:List UInt8} {d:AV}:∀ {es:List (List UInt8×AV)},(∀ i,i<es.length→(es.getD i default).1≠x)→wQ x d es=d
 | [],_=>rfl
 | (k,u)::es,h=>by have h0:=h 0 (by simp);simp only [List.getD_cons_zero] at h0;rw [wQ,if_neg h0];exact sP fun i hi=>by have:=h (i+1) (by simpa using hi);simpa using this
theorem xm {x:List UInt8} {v:AV}:∀ {es:List (List UInt8×AV)},(∀ i,i<es.length→(es.getD i default).1≠x)→vd x v es=es++[(x,v)]
 | [],_=>rfl
 | (k,u)::es,h=>by have h0:=h 0 (by simp);simp only [List.getD_cons_zero] at h0;rw [vd,if_neg h0,xm fun i hi=>by have:=h (i+1) (by simpa using hi);simpa using this];rfl
theorem Br {x:List UInt8} {k:List UInt8} {u:AV} {es:List (List UInt8×AV)} {i:Nat} (hn:((k,u)::es).map (·.1) |>.Nodup) (hi:i<es.length) (h:(es.getD i default).1=x):k≠x:=by rintro rfl;rw [List.map_cons,List.nodup_cons] at hn;refine hn.1 (List.mem_map.2 ⟨es.getD i default,?_,h⟩);rw [KH,KI hi];exact List.getElem_mem hi
theorem yU {x:List UInt8} {d:AV}:∀ {es:List (List UInt8×AV)} {i:Nat},(es.map (·.1)).Nodup→i<es.length→(es.getD i default).1=x→wQ x d es=(es.getD i default).2
 | (k,u)::es,0,_,_,h=>by simp only [List.getD_cons_zero] at h;rw [wQ,if_pos h];rfl
 | (k,u)::es,i+1,hn,hi,h=>by
  have hi':i<es.length:=by simpa using hi
  have h':(es.getD i default).1=x:=by simpa using h
  rw [wQ,if_neg (Br hn hi' h')];rw [List.map_cons,List.nodup_cons] at hn;rw [yU hn.2 hi' h'];simp
theorem CJ {x:List UInt8} {v:AV}:∀ {es:List (List UInt8×AV)} {i:Nat},(es.map (·.1)).Nodup→i<es.length→(es.getD i default).1=x→vd x v es=es.set i (x,v)
 | (k,u)::es,0,_,_,h=>by simp only [List.getD_cons_zero] at h;rw [vd,if_pos h];rfl
 | (k,u)::es,i+1,hn,hi,h=>by
  have hi':i<es.length:=by simpa using hi
  have h':(es.getD i default).1=x:=by simpa using h
  rw [vd,if_neg (Br hn hi' h')];rw [List.map_cons,List.nodup_cons] at hn;rw [CJ hn.2 hi' h'];rfl
theorem mk_inj {a b:List UInt8}:(Value.string ⟨a.toArray⟩=Value.string ⟨b.toArray⟩)↔a=b:=by
 constructor
 ·intro h;have h2:(⟨a.toArray⟩:ByteArray)=⟨b.toArray⟩:=by injection h
  have h3:a.toArray=b.toArray:=by injection h2
  simpa using h3
 ·rintro rfl;rfl
section
variable {P:Program} {ops:Array Oper} {o:Oper} {s:AS} {c:Cx P} {a:Act} {w:World} {β:Nat→Nat} {κ:Nat→Nat×Nat}
theorem Dq {X:Nat→Prop} {k:Nat} {K E:TypeId} {es:List (List UInt8×AV)} (h:HO w X β κ k (.smap K E es)) (x:List UInt8) {kt:TypeId} (hk:P.underlying kt=some .string) :
 ∃ (ents:Array MapEntry) (clock:Nat),w.heap[β k]? = some (.map ents clock)∧ents.size=es.length ∧
  (∀ i (h:i<ents.size),ents[i].key = .string ⟨(es.getD i default).1.toArray⟩∧ents[i].born<clock∧D w X (es.getD i default).2 ents[i].val) ∧
  (∀ i j (hi:i<ents.size) (hj:j<ents.size),i<j→ents[i].born<ents[j].born)∧ow es ∧
  (((Instr.findKey kt (.string ⟨x.toArray⟩) ents.toList).run P w = .ok none w∧∀ i,i<es.length→(es.getD i default).1≠x) ∨
   ∃ (j:Nat) (hj:j<ents.size),(Instr.findKey kt (.string ⟨x.toArray⟩) ents.toList).run P w = .ok (some (j,ents[j].val)) w∧(es.getD j default).1=x):=by
 obtain ⟨ents,clock,h1,h2,h3,h4,h5⟩:=h;have hik:MapKept.IsKey .string (Value.string ⟨x.toArray⟩):=by simp [MapKept.IsKey]
 refine ⟨ents,clock,h1,h2,h3,h4,h5,?_⟩;have hall:∀ e∈ents.toList,MapKept.IsKey .string e.key:=by
  intro e he;obtain ⟨i,hi,rfl⟩:=List.getElem_of_mem he;have hi':i<ents.size:=by simpa using hi
  rw [Array.getElem_toList,(h3 i hi').1];simp [MapKept.IsKey]
 rcases MapKept.findNow_spec hik ents.toList 0 hall with ⟨f1,f2⟩ | ⟨j,e,f1,f2,f3⟩
 ·refine .inl ⟨MapKept.run_findKey hk f1,fun i hi hc => ?_⟩;have hi':i<ents.size:=by omega
  refine f2 ents[i] (by simp) ?_;rw [(h3 i hi').1,hc]
 ·have hj:j<ents.size:=by have:=(KQ.1 f2).1;simpa using this
  have he:ents[j]=e:=by have:=KQ.1 f2;obtain ⟨_,h⟩:=this;rw [← h];simp
  refine .inr ⟨j,hj,?_,?_⟩
  ·have:=MapKept.run_findKey (w:=w) hk f1;rw [he];simpa using this
  ·have:=(h3 j hj).1;rw [he,f3] at this;exact (mk_inj.1 this).symm
def AV.ez:AV→AV
 | .eslice=>.dslice []
 | v=>v
theorem D.ez {w:World} {X:Nat→Prop} {v:AV} {V:Value} (h:D w X v V):D w X (AV.ez v) V:=by
 unfold AV.ez;split
 ·cases h with | eslice a=>exact .dnil a 0 (Nat.zero_le _)
 ·exact h
def tF (P:Program) (s:AS) (t:TypeId) (m x:AV):Option AV :=
 match m,x with
 | .amap k,.str x=>match lk .gone s.h k,P.underlying t with
  | .smap _ _ es,some (.map K E)=>match P.underlying K,zeroOf P E with
   | some .string,some z=>some (wQ x (AV.ez (AV.of z)) es)
   | _,_=>none
  | _,_=>none
 | _,_=>none
def C8 (P:Program) (s:AS) (t:TypeId) (m x v:AV):Option AS :=
 match m,x with
 | .amap k,.str x=>match lk .gone s.h k,P.underlying t with
  | .smap K E es,some (.map K' _)=>match P.underlying K' with
   | some .string=>bif AV.fl v then some ⟨s.n,s.t,ins k (.smap K E (vd x v es)) s.h⟩ else none
   | _=>none
  | _,_=>none
 | _,_=>none
theorem bC {r0:Nat} {ents:Array MapEntry} {clock:Nat} (h:w.heap[r0]? = some (.map ents clock)):(getObj r0).run P w = .ok (.map ents clock) w:=MapKept.run_getObj_map h
theorem AH (r:Rel c s a w β κ) {t:TypeId} {m x v:AV} {M X:Value} (hm:G w (c.XX s.h β) β κ m M) (hx:G w (c.XX s.h β) β κ x X) (h:tF P s t m x=some v) :
 ∃ V,(Instr.lookup t M X false).run P w = .ok V w∧G w (c.XX s.h β) β κ v V:=by
 unfold tF at h;split at h
 ·rename_i k x;split at h
  ·rename_i K0 E0 es K E hk hu;split at h
   ·rename_i z hK hz;cases h;have ho:=r.hp.ob k;rw [hk] at ho;obtain ⟨ents,clock,h1,h2,h3,h4,h5,h6⟩:=Dq (P:=P) ho x hK;rw [hm.amap_inv,hx.str_inv];have hck:∀ e,(Instr.checkKey e 10000 K (.string ⟨x.toArray⟩)).run P w = .ok () w:=fun e=>MapKept.run_checkKey (k:=.string ⟨x.toArray⟩) hK (by simp [MapKept.IsKey]) e 9999;rcases h6 with ⟨f1,f2⟩ | ⟨j,hj,f1,f2⟩
    ·refine ⟨z,?_,?_⟩
     ·simp [Instr.lookup,aQ hu,bC h1,hck,f1,jh hz,Result.andThen]
     ·rw [sP f2];exact .d (D.of w _ z).ez
    ·refine ⟨ents[j].val,?_,?_⟩
     ·simp [Instr.lookup,aQ hu,bC h1,hck,f1,Result.andThen]
     ·rw [yU h5.1 (by omega) f2];exact .d (h3 j hj).2.2
   ·cases h
  ·cases h
 ·cases h
theorem Av (r:Rel c s a w β κ) {t:TypeId} {m x v:AV} {M X V:Value} (hm:G w (c.XX s.h β) β κ m M) (hx:G w (c.XX s.h β) β κ x X) (hv:G w (c.XX s.h β) β κ v V) {s':AS} (h:C8 P s t m x v=some s') :
 ∃ w',(Instr.mapUpdate t M X V).run P w = .ok () w'∧Rel c s' a w' β κ:=by
 unfold C8 at h;split at h
 ·rename_i k x;split at h
  ·rename_i K0 E0 es K E hk hu;split at h
   ·rename_i hK;cases hfl:AV.fl v with
    | false=>rw [hfl] at h;cases h
    | true =>
    rw [hfl] at h;cases h;have ho:=r.hp.ob k;rw [hk] at ho;have hlive:(lk .gone s.h k).live:=by rw [hk];trivial
    obtain ⟨ents,clock,h1,h2,h3,h4,h5,h6⟩:=Dq (P:=P) ho x hK;rw [hm.amap_inv,hx.str_inv];have hik:MapKept.IsKey .string (Value.string ⟨x.toArray⟩):=by simp [MapKept.IsKey]
    have hck:∀ e,(Instr.checkKey e 10000 K (.string ⟨x.toArray⟩)).run P w = .ok () w:=fun e=>MapKept.run_checkKey (k:=.string ⟨x.toArray⟩) hK hik e 9999;have hlt:β k<w.heap.size:=r.hp.lt (.inl hlive);have hkeeps:∀ o',cE (fun i=>i≠β k) w { w with heap:=w.heap.setIfInBounds (β k) o' }:=fun o'=>⟨rfl,rfl,rfl,by simp,fun b hb=>(MapKept.heap_set h1).2 b hb⟩;rcases h6 with ⟨f1,f2⟩ | ⟨j,hj,f1,f2⟩
    ·refine ⟨{ w with heap:=w.heap.setIfInBounds (β k) (.map (ents.push { key:=.string ⟨x.toArray⟩,val:=V,born:=clock }) (clock+1)) },?_,?_⟩
     ·simp [Instr.mapUpdate,aQ hu,bC h1,hck,f1,MapKept.run_setObj_map _ h1,Result.andThen]
     ·refine r.replace hlive (ob:=.smap K0 E0 (vd x v es)) trivial (fun i hi=>(MapKept.heap_set h1).2 i hi) (hkeeps _) fun hG hD2 => ?_;rw [xm f2];refine ⟨_,_,(MapKept.heap_set h1).1,by simp [h2],fun i hi => ?_,fun i j' hi hj' hlt' => ?_,?_⟩
      ·by_cases hi2:i<ents.size
       ·rw [Array.getElem_push_lt hi2,bJ (by omega)];exact ⟨(h3 i hi2).1,by have:=(h3 i hi2).2.1;omega,hD2 (h3 i hi2).2.2⟩
       ·have:i=ents.size:=by simp at hi;omega
        subst this;rw [Array.getElem_push_eq,be (by omega),show ents.size-es.length=0 by omega];exact ⟨rfl,by simp,(hG hv).toD hfl⟩
      ·by_cases hj2:j'<ents.size
       ·rw [Array.getElem_push_lt hj2,Array.getElem_push_lt (by omega:i<ents.size)];exact h4 i j' (by omega) hj2 hlt'
       ·have:j'=ents.size:=by simp at hj';omega
        subst this;rw [Array.getElem_push_eq,Array.getElem_push_lt hlt'];exact (h3 i hlt').2.1
      ·refine ⟨?_,fun u hu1 => ?_⟩;case refine_2 =>
        rw [List.map_append,List.mem_append] at hu1;rcases hu1 with hu1 | hu1
        ·exact h5.2 u hu1
        ·simp only [List.map_cons,List.map_nil,List.mem_singleton] at hu1;subst hu1;exact hx.str_len
       rw [List.map_append,List.nodup_append];refine ⟨h5.1,by simp,fun u hu1 v' hv' => ?_⟩;simp only [List.map_cons,List.map_nil,List.mem_singleton] at hv';subst hv';obtain ⟨p,hp,rfl⟩:=List.mem_map.1 hu1;obtain ⟨i,hi,rfl⟩:=List.getElem_of_mem hp;have:=f2 i hi;simpa [KH,KI hi] using this
    ·have hjk:ents[j].key = .string ⟨x.toArray⟩:=by rw [(h3 j hj).1,f2]
     refine ⟨{ w with heap:=w.heap.setIfInBounds (β k) (.map (ents.modify j fun e=>{ e with key:=.string ⟨x.toArray⟩,val:=V }) clock) },?_,?_⟩
     ·simp [Instr.mapUpdate,aQ hu,bC h1,hck,f1,KS hj,hjk,MapKept.run_keyThatStays hik,MapKept.run_setObj_map _ h1,Result.andThen]
     ·refine r.replace hlive (ob:=.smap K0 E0 (vd x v es)) trivial (fun i hi=>(MapKept.heap_set h1).2 i hi) (hkeeps _) fun hG hD2 => ?_;rw [CJ h5.1 (by omega) f2];have hgs:∀ i,i<es.length→(es.set j (x,v)).getD i default=if j=i then (x,v) else es.getD i default:=by
       intro i hi;simp only [KH,List.getElem?_set];by_cases e:j=i
       ·subst e;simp [hi]
       ·simp [e]
      refine ⟨_,_,(MapKept.heap_set h1).1,by simp [h2],fun i hi => ?_,fun i j' hi hj' hlt' => ?_,?_⟩
      ·have hi2:i<ents.size:=by simpa using hi
       rw [Array.getElem_modify,hgs i (by omega)];by_cases e:j=i
       ·subst e;rw [if_pos rfl,if_pos rfl];exact ⟨rfl,(h3 j hj).2.1,(hG hv).toD hfl⟩
       ·rw [if_neg e,if_neg e];exact ⟨(h3 i hi2).1,(h3 i hi2).2.1,hD2 (h3 i hi2).2.2⟩
      ·have hb2:∀ i (hi:i<(ents.modify j fun e=>{ e with key:=.string ⟨x.toArray⟩,val:=V }).size),((ents.modify j fun e=>{ e with key:=.string ⟨x.toArray⟩,val:=V })[i]).born=(ents[i]'(by simpa using hi)).born:=by intro i hi;rw [Array.getElem_modify];split<;>rfl
       rw [hb2 i hi,hb2 j' hj'];exact h4 i j' _ _ hlt'
      ·have:(es.set j (x,v)).map (·.1)=es.map (·.1):=by
        rw [List.map_set];refine List.ext_getElem (by simp) fun n hn1 hn2 => ?_;rw [List.getElem_set];split
        ·rename_i e;subst e;have:j<es.length:=by omega
         simp only [List.getElem_map];rw [← f2];simp [KH,KI this]
        ·rfl
       unfold ow;rw [this];exact h5
   ·cases h
  ·cases h
 ·cases h
theorem Ig {t:TypeId} {m x:Operand} (hg:gd ops s o=some true) (hop:o.op = .lookup t m x false) {v:AV} (hv:tF P s t (s.op m) (s.op x)=some v) {s':AS} (h:s.put o.dst v=some s'):iP P ops o s (· = s') :=
 b6 hg fun c a w β κ r=>by obtain ⟨V,hr,hG⟩:=AH r (r.op m) (r.op x) hv;refine ⟨V,w,β,κ,.inl ?_,bu r hG h⟩;simp [execOp,hop,hr,Result.andThen]
theorem Ic {t:TypeId} {m x y:Operand} (hg:gd ops s o=some true) (hop:o.op = .mapUpdate t m x y) (hd:o.dst=none) {s':AS} (h:C8 P s t (s.op m) (s.op x) (s.op y)=some s'):iP P ops o s (· = s') :=
 b6 hg fun c a w β κ r=>by obtain ⟨w',hr,r'⟩:=Av r (r.op m) (r.op x) (r.op y) h;refine ⟨undef,w',β,κ,.inr ⟨?_,rfl⟩,by rw [hd];exact r'⟩;simp [execOp,hop,hr,Result.andThen]
theorem AG {s':AS} {t:TypeId} {m x:AV} (h:ll s s' m):tF P s' t m x=tF P s t m x:=by
 cases m<;>try rfl
 case amap k =>
  have:=h k (by simp [AV.men]);cases x<;>first | rfl | simp only [tF,this]
theorem Gf {t:TypeId} {m x:Operand} (hg:gd ops s o=some true) (hop:o.op = .lookup t m x false) {v:AV} (hv:tF P s t (s.op m) (s.op x)=some v) {s1:AS} (h:s.put o.dst v=some s1):Loc P ops o s (.put o.dst v) :=
 kh rfl h fun s' ha _ h2=>Ig (by rw [bO ha];exact hg) hop (by
  rw [bg ha (x:=m) (by simp [hop,Op.operands]),bg ha (x:=x) (by simp [hop,Op.operands]),AG fun k hk=>ha.h (by rw [hop];rfl) m (by simp [hop,Op.operands]) k hk];exact hv) h2
end
def rk:List (Nat×Nat)→Nat→Option Nat
 | [],_=>none
 | (k,j)::ps,i=>bif Nat.beq i k then some j else rk ps i
def AV.ren1 (ps:List (Nat×Nat)):AV→AV
 | .hptr k o=>match rk ps k with | some j=>.hptr j o | none=>.any
 | .rslice k=>match rk ps k with | some j=>.rslice j | none=>.any
 | .gslice k=>match rk ps k with | some j=>.gslice j | none=>.any
 | .amap k=>match rk ps k with | some j=>.amap j | none=>.any
 | .bm f k o=>match rk ps k with | some j=>.bm f j o | none=>.any
 | v=>bif AV.fl v then v else .any
def AV.ren (ps:List (Nat×Nat)):AV→AV
 | .agg cs=>.agg (cs.map (AV.ren1 ps))
 | .tup cs=>.tup (cs.map (AV.ren1 ps))
 | .fn f cs=>.fn f (cs.map (AV.ren1 ps))
 | v=>AV.ren1 ps v
def AO.ren (ps:List (Nat×Nat)):AO→AO
 | .cells e cs=>.cells e (cs.map (AV.ren1 ps))
 | o=>o
section
variable {w:World} {X X':Nat→Prop} {β β':Nat→Nat} {κ κ':Nat→Nat×Nat} {ps:List (Nat×Nat)}
theorem G.ren1 (hps:∀ k j,rk ps k=some j→β' j=β k∧κ' j=κ k) (hX:∀ b,¬ X b→b<w.heap.size→¬ X' b) {v:AV} {V:Value} (h:G w X β κ v V):G w X' β' κ' (AV.ren1 ps v) V:=by
 unfold AV.ren1;split
 ·split
  ·rename_i k o _ j e;rw [h.hptr_inv,← (hps _ _ e).1];exact .hptr j o
  ·exact .d (.any _)
 ·split
  ·rename_i k j e;rcases h.rslice_inv with ⟨h1,h2⟩ | ⟨h1,a,h2⟩
   ·rw [h2,← (hps _ _ e).1,← (hps _ _ e).2];exact .rslice j (by rw [(hps _ _ e).2];exact h1)
   ·rw [h2];exact .rslice0 j a (by rw [(hps _ _ e).2];exact h1)
  ·exact .d (.any _)
 ·split
  ·rename_i k _ j e;have hv:V = .slice (some ⟨β k,0,none⟩) 0 (κ k).1:=by
    cases h with
    | d h=>cases h
    | gslice _=>rfl
   rw [hv,← (hps _ _ e).1,← (hps _ _ e).2];exact .gslice j
  ·exact .d (.any _)
 ·split
  ·rename_i k j e;rw [h.amap_inv,← (hps _ _ e).1];exact .amap j
  ·exact .d (.any _)
 ·split
  ·rename_i f k o _ j e;rw [h.bm_inv,← (hps _ _ e).1];exact .bm f j o
  ·exact .d (.any _)
 ·cases hf:AV.fl v with
  | false=>exact .d (.any _)
  | true=>exact .d ((h.toD hf).mono (fun _ _ _=>rfl) hX)
theorem ru (ps:List (Nat×Nat)) (cs:List AV) (i:Nat):(cs.map (AV.ren1 ps)).getD i .any=AV.ren1 ps (cs.getD i .any):=getD_map (AV.ren1 ps) cs i .any .any rfl
theorem G.ren (hps:∀ k j,rk ps k=some j→β' j=β k∧κ' j=κ k) (hX:∀ b,¬ X b→b<w.heap.size→¬ X' b) {v:AV} {V:Value} (h:G w X β κ v V):G w X' β' κ' (AV.ren ps v) V:=by
 unfold AV.ren;split
 ·obtain ⟨vs,rfl,hl,hg⟩:=h.agg_inv;exact .agg _ _ (by simpa using hl) fun i hi=>by rw [ru];exact (hg i (by simpa using hi)).ren1 hps hX
 ·obtain ⟨vs,rfl,hl,hg⟩:=h.tup_inv;exact .tup _ _ (by simpa using hl) fun i hi=>by rw [ru];exact (hg i (by simpa using hi)).ren1 hps hX
 ·obtain ⟨vs,rfl,hl,hg⟩:=h.fn_inv;exact .fn _ _ _ (by simpa using hl) fun i hi=>by rw [ru];exact (hg i (by simpa using hi)).ren1 hps hX
 ·exact h.ren1 hps hX
theorem HO.ren (hps:∀ k j,rk ps k=some j→β' j=β k∧κ' j=κ k) (hX:∀ b,¬ X b→b<w.heap.size→¬ X' b) {k j:Nat} (hk:β' j=β k∧κ' j=κ k) {o:AO} (hv:∀ i,i<1000000→o.isR=true→β' (gk j i)=β (gk k i)∧κ' (gk j i)=κ (gk k i)) (h:HO w X β κ k o):HO w X' β' κ' j (AO.ren ps o):=by
 cases o with
 | gone=>trivial
 | cells e cs =>
  obtain ⟨cur,h1,h2,h3⟩:=h;exact ⟨cur,by rw [hk.1,h1],by simpa using h2,fun i hi=>by rw [ru];exact (h3 i (by simpa using hi)).ren1 hps hX⟩
 | row e sz xs =>
  refine ⟨by rw [hk.2];exact h.1,fun hx => ?_⟩;obtain ⟨cur,h1,h2,h3,h4,h0,h5,h6⟩:=h.2 hx;exact ⟨cur,by rw [hk.1,h1],by rw [hk.2,h2],by rw [hk.2];exact h3,by rw [hk.2];exact h4,h0,h5,fun i j hi hj=>(h6 i j hi hj).mono (fun _ _ _=>rfl) hX⟩
 | smap K E es =>
  obtain ⟨ents,clock,h1,h2,h3,h4,h5⟩:=h;exact ⟨ents,clock,by rw [hk.1,h1],h2,fun i hi=>⟨(h3 i hi).1,(h3 i hi).2.1,((h3 i hi).2.2).mono (fun _ _ _=>rfl) hX⟩,h4,h5⟩
 | iter es seen =>
  obtain ⟨b,ents,clock,sb,h1,h2,h3,h4,h5,h6⟩:=h;have hlt:b<w.heap.size:=(Array.getElem?_eq_some_iff.1 h4).1;exact ⟨b,ents,clock,sb,by rw [hk.1,h1],h2.mono (fun _ _ _=>rfl) hX,hX _ h3 hlt,h4,h5,h6⟩
 | room e sz =>
  obtain ⟨cur,h1,h2,h3⟩:=h;exact ⟨cur,by rw [hk.1,h1],by rw [hk.2,h2],by rw [hk.2];exact h3⟩
 | rmap e sz es =>
  obtain ⟨ents,clock,h1,h2,hl,h3,h4⟩:=h;refine ⟨ents,clock,by rw [hk.1,h1],h2,hl,fun i hi=>⟨(h3 i hi).1,(h3 i hi).2.1,?_⟩,h4⟩;obtain ⟨e1,e2⟩:=hv i (by omega) rfl;have h5:=(h3 i hi).2.2;rw [e1,e2];generalize (es.getD i ([],none)).2=o at h5 ⊢;match o,h5 with
  | none,_=>trivial
  | some [],h5=>exact h5
  | some (x::xs),h5=>exact ⟨h5.1,h5.2.1,h5.2.2.mono (fun _ _ _=>rfl) hX rfl⟩
 | rrow eo e sz es =>
  obtain ⟨h1,hl,h2⟩:=h;refine ⟨by rw [hk.2];exact h1,hl,fun hx => ?_⟩;obtain ⟨cur,g1,g2,g3,g4,g5⟩:=h2 hx;refine ⟨cur,by rw [hk.1,g1],by rw [hk.2];exact g2,by rw [hk.2];exact g3,by rw [hk.2];exact g4,fun i hi => ?_⟩;obtain ⟨e1,e2⟩:=hv i (by omega) rfl;have h5:=g5 i hi;rw [e1,e2];generalize es.getD i none=o at h5 ⊢;match o,h5 with
  | none,_=>trivial
  | some [],h5=>exact h5
  | some (x::xs),h5=>exact ⟨h5.1,h5.2.1,h5.2.2.mono (fun _ _ _=>rfl) hX rfl⟩
end
def lC:List (Nat×Nat)→Bool
 | []=>true
 | (k,j)::ps=>ps.all (fun p => !Nat.beq p.1 k && !Nat.beq p.2 j)&&lC ps
theorem mj:∀ {ps:List (Nat×Nat)} {k j:Nat},rk ps k=some j→(k,j)∈ps
 | (k0,j0)::ps,k,j,h=>by
  simp only [rk] at h;cases hb:Nat.beq k k0 with
  | true=>rw [hb] at h;cases h;rw [bP.1 hb];exact List.mem_cons_self ..
  | false=>rw [hb] at h;exact List.mem_cons_of_mem _ (mj h)
theorem Cz:∀ {ps:List (Nat×Nat)} {k j:Nat},lC ps=true→(k,j)∈ps→rk ps k=some j
 | (k0,j0)::ps,k,j,hi,h=>by
  simp only [lC,KJ] at hi;simp only [rk];rcases List.mem_cons.1 h with h | h
  ·cases h;simp
  ·have:=KU.1 hi.1 _ h;simp only [KJ,Bool.not_eq_true'] at this;rw [this.1];exact Cz hi.2 h
def swp (ps:List (Nat×Nat)):List (Nat×Nat):=ps.map fun p=>(p.2,p.1)
theorem zJ:∀ {ps:List (Nat×Nat)},lC ps=true→lC (swp ps)=true
 | [],_=>rfl
 | (k,j)::ps,h=>by simp only [lC,KJ] at h;simp only [swp,List.map_cons,lC,KJ];refine ⟨?_,zJ h.2⟩;rw [KU] at h ⊢;intro p hp;obtain ⟨q,hq,rfl⟩:=List.mem_map.1 hp;have:=h.1 q hq;simp only [KJ] at this ⊢;exact ⟨this.2,this.1⟩
theorem bL {ps:List (Nat×Nat)} (hi:lC ps=true) {k j:Nat}:rk (swp ps) j=some k↔rk ps k=some j:=by
 constructor
 ·intro h;have:=mj h;obtain ⟨q,hq,e⟩:=List.mem_map.1 this;cases e;exact Cz hi hq
 ·intro h;exact Cz (zJ hi) (List.mem_map.2 ⟨_,mj h,rfl⟩)
def AO.liveB:AO→Bool
 | .cells _ _=>true
 | .smap _ _ _=>true
 | _=>false
theorem AO.liveB_live {o:AO} (h:o.liveB=true):o.live:=by cases o<;>first | trivial | (cases h;done)
def hand (ps:List (Nat×Nat)) (h:List (Nat×AO)):List (Nat×AO):=ps.map fun p=>(p.2,AO.ren ps (lk .gone h p.1))
def back (ps:List (Nat×Nat)) (h':List (Nat×AO)):List (Nat×Nat)→List (Nat×AO)→List (Nat×AO)
 | [],h=>h
 | (k,j)::qs,h=>ins k (AO.ren (swp ps) (lk .gone h' j)) (back ps h' qs h)
theorem qK {ps:List (Nat×Nat)} {h:List (Nat×AO)}:∀ {qs:List (Nat×Nat)},lC qs=true→∀ (j:Nat),lk .gone (qs.map fun p=>(p.2,AO.ren ps (lk .gone h p.1))) j=match rk (swp qs) j with | some k=>AO.ren ps (lk .gone h k) | none=>.gone
 | [],_,j=>rfl
 | (k,j0)::qs,hi,j=>by
  simp only [lC,KJ] at hi;simp only [List.map_cons,lk,swp,rk];cases hb:Nat.beq j j0 with
  | true=>rfl
  | false=>simp only [cond_false];exact qK hi.2 j
theorem Di {ps:List (Nat×Nat)} {h' h:List (Nat×AO)}:∀ {qs:List (Nat×Nat)} (k:Nat),lk .gone (back ps h' qs h) k=match rk qs k with | some j=>AO.ren (swp ps) (lk .gone h' j) | none=>lk .gone h k
 | [],k=>rfl
 | (k0,j0)::qs,k=>by
  simp only [back,aD,rk];by_cases e:k=k0
  ·subst e;simp
  ·rw [if_neg e,bN e];exact Di k
theorem nC {ps:List (Nat×Nat)} {o:AO} {i:Nat}:(AO.ren ps o).inn i↔o.inn i:=by cases o<;>exact Iff.rfl
theorem yg {ps:List (Nat×Nat)} {o:AO}:(AO.ren ps o).isR=o.isR:=by cases o<;>rfl
theorem EV {o:AO} (h:o.liveB=true):o.isR=false:=by cases o<;>first | rfl | (cases h;done)
theorem iZ {ps:List (Nat×Nat)} {o:AO}:(AO.ren ps o).live↔o.live:=by cases o<;>simp [AO.ren,AO.live]
section
variable {P:Program} {ops:Array Oper} {o:Oper} {s:AS}
theorem GB {f:FuncId} (he:Go.Proofs.Enters P f) {x:Operand} {ar:Array Operand} {tys:Array TypeId} (hg:gd ops s o=some true) (hop:o.op = .call ⟨.value x,ar,tys⟩) {caps:List AV} (hx:s.op x = .fn f caps)
 (ps:List (Nat×Nat)) (hps:(lC ps&&ps.all fun p=>(lk .gone s.h p.1).liveB&&(Nat.ble 1000 p.2&&Nat.blt p.2 1000000))=true) {args:List AV} (hargs:(s.args ar caps).map (AV.ren ps)=args) {h0:List (Nat×AO)} (hh:hand ps s.h=h0) {Post:AV→List (Nat×AO)→Prop} (hc:bD P f args h0 Post) {N:AS→Prop}
 (hN:∀ v h',Post v h'→AV.fl v=true∧(h'.all fun p => !p.2.isR)=true∧∃ s',AS.put ⟨s.n,s.t,back ps h' ps s.h⟩ o.dst v=some s'∧N s'):iP P ops o s N:=fun c a w β κ r K Q hK=>by
 subst hargs;subst hh;simp only [KJ] at hps;obtain ⟨hinj,hlvp⟩:=hps;have hchk:∀ {k j},rk ps k=some j→(lk .gone s.h k).liveB=true∧1000≤j∧j<1000000:=fun h=>by have:=KU.1 hlvp _ (mj h);simp only [KJ,Nat.ble_eq,Nat.blt_eq] at this;exact this
 have hlive:∀ {k j},rk ps k=some j→(lk .gone s.h k).live:=fun h=>AO.liveB_live (hchk h).1;have hnR:∀ {k j},rk ps k=some j→(lk .gone s.h k).isR=false:=fun h=>EV (hchk h).1;rw [fM r hg];simp only [if_true];have hX:=r.op x;rw [hx] at hX;obtain ⟨Vs,eV,hl,hgs⟩:=hX.fn_inv;obtain ⟨a1,a2⟩:=mF r ar hl hgs;unfold Oper.wp;rw [ve he hop eV];let H:Nat→Prop:=fun b=>∃ k j,rk ps k=some j∧β k=b
 let βc:Nat→Nat:=fun j=>match rk (swp ps) j with | some k=>β k | none=>0
 let κc:Nat→Nat×Nat:=fun j=>match rk (swp ps) j with | some k=>κ k | none=>(0,0)
 have hβ:∀ k j,rk ps k=some j→βc j=β k∧κc j=κ k:=by intro k j h;have:=(bL hinj).2 h;exact ⟨by simp only [βc,this],by simp only [κc,this]⟩
 have hsz:∀ b,c.XX s.h β b→b<w.heap.size:=by
  rintro b (h | ⟨k,h1,rfl⟩)
  ·exact Nat.lt_of_lt_of_le (c.hX b h) r.hp.kp.size
  ·exact r.hp.lt h1
 let c':Cx P:=⟨fun b=>b<w.heap.size∧¬ H b,fun b=>c.XX s.h β b∧¬ H b,w,βc,κc,fun _ h=>h.1,fun b h=>hsz b h.1,fun w' hk=>c.gp w' (r.hp.kp.trans hk fun b hb=>⟨r.Klt b hb,fun ⟨k,j,h1,h2⟩=>r.hp.nk k (.inl (hlive h1)) (h2 ▸ hb)⟩)⟩
 have hlk:∀ j,lk .gone (hand ps s.h) j=match rk (swp ps) j with | some k=>AO.ren ps (lk .gone s.h k) | none=>.gone:=fun j=>qK hinj j
 have hlv:∀ j,lv (hand ps s.h) j→∃ k,rk ps k=some j:=by
  rintro j (h1 | ⟨m,i,rfl,h1⟩)
  ·rw [hlk] at h1;cases e:rk (swp ps) j with
   | none=>rw [e] at h1;exact h1.elim
   | some k=>exact ⟨k,(bL hinj).1 e⟩
  ·rw [hlk] at h1;cases e:rk (swp ps) m with
   | none=>rw [e] at h1;exact h1.elim
   | some k =>
    rw [e] at h1;have:=(AO.inn_isR h1).2;rw [yg,hnR ((bL hinj).1 e)] at this;cases this
 have hown:∀ b,own (hand ps s.h) βc b→H b:=by rintro b ⟨j,h1,h2⟩;obtain ⟨k,e⟩:=hlv j h1;exact ⟨k,j,e,by rw [← h2];exact (hβ k j e).1.symm⟩
 have hHX:∀ b,H b→c.XX s.h β b:=by rintro b ⟨k,j,h1,rfl⟩;exact .inr ⟨k,.inl (hlive h1),rfl⟩
 have hXin:∀ b,¬ c.XX s.h β b→b<w.heap.size→¬ c'.XX (hand ps s.h) βc b:=by
  rintro b hb _ (h | h)
  ·exact hb h.1
  ·exact hb (hHX b (hown b h))
 have hrel:eB c' (hand ps s.h) c'.W c'.β c'.κ:=by
  refine ⟨fun j => ?_,fun i j hi hj e => ?_,cE.refl _ _,fun j hj => ?_,fun j hj => ?_,fun _ _ _=>⟨rfl,rfl⟩,fun j hj => ?_⟩
  ·rw [hlk];cases e:rk (swp ps) j with
   | none=>trivial
   | some k =>
    have e2:=(bL hinj).1 e;exact (r.hp.ob k).ren (X':=c'.XX (hand ps s.h) βc) hβ hXin (hβ _ _ e2) (fun i _ hR=>by rw [hnR e2] at hR;cases hR)
  ·obtain ⟨k1,h1⟩:=hlv i hi;obtain ⟨k2,h2⟩:=hlv j hj;have e3:β k1=β k2:=by rw [← (hβ k1 i h1).1,← (hβ k2 j h2).1];exact e
   have:=r.hp.inj k1 k2 (.inl (hlive h1)) (.inl (hlive h2)) e3;subst this;rw [h1] at h2;exact KT h2
  ·exact fun h=>h.2 (hown _ ⟨j,hj,rfl⟩)
  ·exact fun h=>h.2 (hown _ ⟨j,hj,rfl⟩)
  ·have hj:lk .gone (hand ps s.h) j ≠ .gone:=hj;rw [hlk] at hj;cases e:rk (swp ps) j with
   | none=>rw [e] at hj;exact absurd rfl hj
   | some k=>exact (hchk ((bL hinj).1 e)).2.2
 have hcall:=hc c' (ar.map a.eval++Vs).toList (by simp [← a1]) hrel (fun i hi=>by have e:((s.args ar caps).map (AV.ren ps)).getD i .any=AV.ren ps ((s.args ar caps).getD i .any):=getD_map (AV.ren ps) _ i .any .any rfl;rw [e];exact (a2 i (by simpa using hi)).ren hβ hXin)
 simp only [Array.toArray_toList] at hcall;refine hcall.mono fun e w' ⟨V,v,h',β',κ',e1,hp,hr',hG⟩ => ?_;subst e1;obtain ⟨h1,hR',s',h2,h3⟩:=hN v h' hp;have hR2:∀ j,(lk .gone h' j).isR=false:=by
  intro j;clear hp hr' hG h2;induction h' with
  | nil=>rfl
  | cons p l ih =>
   obtain ⟨k0,u⟩:=p;simp only [List.all_cons,KJ,Bool.not_eq_true'] at hR';simp only [lk];cases Nat.beq j k0 with
   | true=>exact hR'.1
   | false=>exact ih hR'.2
 have hfix:∀ k j,rk ps k=some j→β k=β' j∧κ k=κ' j:=fun k j h=>by obtain ⟨f1,f2⟩:=hr'.fix j (hchk h).2.1 (hchk h).2.2;exact ⟨by rw [f1];exact (hβ k j h).1.symm,by rw [f2];exact (hβ k j h).2.symm⟩
 have hb:∀ k,lk .gone (back ps h' ps s.h) k=match rk ps k with | some j=>AO.ren (swp ps) (lk .gone h' j) | none=>lk .gone s.h k:=fun k=>Di k
 have hl2:∀ {k},lv (back ps h' ps s.h) k→lv s.h k:=by
  rintro k (hk | ⟨m,i,rfl,hk⟩)
  ·rw [hb] at hk;cases e:rk ps k with
   | none=>rw [e] at hk;exact .inl hk
   | some j=>exact .inl (hlive e)
  ·rw [hb] at hk;cases e:rk ps m with
   | none=>rw [e] at hk;exact bo hk
   | some j =>
    rw [e] at hk;have:=(AO.inn_isR hk).2;rw [yg,hR2] at this;cases this
 have hnH:∀ k,lv s.h k→(∀ j,rk ps k≠some j)→¬ H (β k):=by rintro k hkl hk ⟨k2,j,h1,h2⟩;have:=r.hp.inj k2 k (.inl (hlive h1)) hkl h2;subst this;exact hk j h1
 have hnv:∀ {m i},(lk .gone s.h m).inn i→∀ j,rk ps (gk m i)≠some j:=fun {m i} _ j e=>by have:=r.hp.sm _ (hlive e);have:=cD m i;omega
 have hA:∀ b,¬ c.XX s.h β b→b<w.heap.size→¬ c.XX (back ps h' ps s.h) β b:=by
  rintro b hb1 _ (h | ⟨k,hk,hk2⟩)
  ·exact hb1 (.inl h)
  ·exact hb1 (.inr ⟨k,hl2 hk,hk2⟩)
 have hB:∀ b,¬ c'.XX h' β' b→b<w'.heap.size→¬ c.XX (back ps h' ps s.h) β b:=by
  rintro b hb1 _ (h | ⟨k,hk,rfl⟩)
  ·refine hb1 (.inl ⟨.inl h,?_⟩);rintro ⟨k,j,h1,rfl⟩;exact r.hp.nx k (.inl (hlive h1)) h
  ·have hk0:=hl2 hk;rcases hk with hk' | ⟨m,i,rfl,hk'⟩
   ·rw [hb] at hk';cases e:rk ps k with
    | none =>
     rw [e] at hk';exact hb1 (.inl ⟨.inr ⟨k,hk0,rfl⟩,hnH k hk0 (fun j e2=>by rw [e] at e2;cases e2)⟩)
    | some j =>
     rw [e] at hk';exact hb1 (.inr ⟨j,.inl (iZ.1 hk'),(hfix k j e).1.symm⟩)
   ·have hin:(lk .gone s.h m).inn i:=by
     rw [hb] at hk';cases e:rk ps m with
     | none=>rw [e] at hk';exact hk'
     | some j =>
      rw [e] at hk';have:=(AO.inn_isR hk').2;rw [yg,hR2] at this;cases this
    exact hb1 (.inl ⟨.inr ⟨_,hk0,rfl⟩,hnH _ hk0 (hnv hin)⟩)
 have hC:∀ b,¬ c.XX s.h β b→b<w.heap.size→w'.heap[b]? = w.heap[b]? := fun b hb1 hlt=>hr'.kp.block b ⟨hlt,fun h=>hb1 (hHX b h)⟩;have r2:Rel c ⟨s.n,s.t,back ps h' ps s.h⟩ a w' β κ:=by
  refine ⟨r.df,r.sz,fun i=>(r.tm i).mono hC hA (fun _ _=>.refl),⟨fun k => ?_,fun i j hi hj e=>r.hp.inj i j (hl2 hi) (hl2 hj) e,r.hp.kp.trans hr'.kp fun b hb1=>⟨r.Klt b hb1,?_⟩,fun k hk=>r.hp.nk k (hl2 hk),fun k hk=>r.hp.nx k (hl2 hk),r.hp.fix,fun k hk => ?_⟩⟩
  ·show HO w' (c.XX (back ps h' ps s.h) β) β κ k (lk .gone (back ps h' ps s.h) k);rw [hb];cases e:rk ps k with
   | none =>
    exact (r.hp.ob k).mono hC hA (fun _ _=>.refl) .refl (fun hkl=>hr'.kp.block _ ⟨r.hp.lt (.inl hkl),hnH k (.inl hkl) (fun j e2=>by rw [e] at e2;cases e2)⟩) (fun i hkl=>hr'.kp.block _ ⟨r.hp.lt (bo hkl),hnH _ (bo hkl) (hnv hkl)⟩)
   | some j =>
    exact (hr'.ob j).ren (X':=c.XX (back ps h' ps s.h) β) (fun j' k' h=>hfix k' j' ((bL hinj).1 h)) hB (hfix k j e) (fun i _ hR=>by rw [hR2] at hR;cases hR)
  ·rintro ⟨k,j,h1,rfl⟩;exact r.hp.nk k (.inl (hlive h1)) hb1
  ·have hk:lk .gone (back ps h' ps s.h) k ≠ .gone:=hk;rw [hb] at hk;cases e:rk ps k with
   | none=>rw [e] at hk;exact r.hp.sg k hk
   | some j=>exact r.hp.sm k (hlive e)
 exact hK s' _ w' β κ h3 (bu r2 (.d ((hG.toD h1).mono (fun _ _ _=>rfl) hB)) h2)
end
def rn (b:UInt8):List AV:=[.int .u8 (b.toNat:Int)]
section
variable {P:Program} {ops:Array Oper} {o:Oper} {s:AS}
theorem FB {src dst e:TypeId} {x:Operand} (hg:gd ops s o=some true) (hop:o.op = .convert src dst x) (hs:isStr P src=true) (hd:EX P dst=some e) (he:Gg P e=some .u8) {l:List UInt8} (hx:s.op x = .str l) {s':AS} (h:s.put o.dst (.dslice (l.map rn))=some s'):iP P ops o s (· = s') :=
 b6 hg fun c a w β κ r=>by
  have hX:=r.op x;rw [hx] at hX;have hl:=hX.str_len;have hrun:=Lib.run_convert_string_bytes (P:=P) w src dst e ⟨l.toArray⟩ (iE hs) (eZ hd) (xC he);have hk:cE (fun b=>b<w.heap.size) w (Lib.bytesWorld w e ⟨l.toArray⟩) :=
   ⟨rfl,rfl,rfl,by rw [Lib.bytesWorld_size];omega,fun b hb=>Lib.bytesWorld_at_old w e _ b hb⟩
  have r2:=r.later hk;refine ⟨.slice (some ⟨w.heap.size,0,none⟩) (⟨l.toArray⟩:ByteArray).size (grownCap w (⟨l.toArray⟩:ByteArray).size 0 e),Lib.bytesWorld w e ⟨l.toArray⟩,β,κ,.inl ?_,bu r2 (.d ?_) h⟩
  ·simp only [execOp,hop,hX.str_inv,Sem.run_bind,hrun,Result.andThen];rfl
  ·have hnX:¬ c.XX s.h β w.heap.size:=by
    rintro (hx | ⟨k,hl,hk⟩)
    ·have:=c.hX _ hx;have:=r.hp.kp.size;omega
    ·have:=r.hp.lt hl;omega
   have hsz:(⟨l.toArray⟩:ByteArray).size=(l.map rn).length:=by simp [size_mk]
   rw [hsz];have hlen:(l.map rn).length=l.length:=by simp
   refine D.dslice (l.map rn) w.heap.size 0 _ 1 (fun i _=>.int .u8 ((l.getD i 0).toNat:Int)) (grownCap_ge w _ _ _) (grownCap_le_maxLen w _ _ _ (by rw [hlen];exact hl)) (by omega) hnX (fun i hi => ?_) (fun i j hi hj => ?_) (fun i j hi hj => ?_)
   ·have:(l.map rn).getD i []=rn (l.getD i 0):=by simp [KH,KI (show i<l.length by omega)]
    rw [this];rfl
   ·have:=Lib.bytesWorld_cell w e ⟨l.toArray⟩ i (by rw [size_mk];omega);rw [show 0+(i*1+j)=i by omega];simpa using this
   ·have:(l.map rn).getD i []=rn (l.getD i 0):=by simp [KH,KI (show i<l.length by omega)]
    rw [this,show j=0 by omega];exact .int _ _
def sv (P:Program) (s:AS):Op→Option AV
 | .convert src dst x=>match s.op x,EX P dst with
  | .str l,some e=>match Gg P e with
   | some .u8=>bif isStr P src then some (.dslice (l.map rn)) else none
   | _=>none
  | _,_=>none
 | _=>none
theorem Bm (hg:gd ops s o=some true) {v:AV} (hv:sv P s o.op=some v) {s':AS} (h:s.put o.dst v=some s'):iP P ops o s (· = s'):=by
 unfold sv at hv;split at hv
 ·rename_i src dst x hop;split at hv
  ·rename_i l e hx hd;split at hv
   ·rename_i he;cases hb:isStr P src with
    | false=>rw [hb] at hv;cases hv
    | true=>rw [hb] at hv;cases hv;exact FB hg hop hb hd he hx h
   ·cases hv
  ·cases hv
 ·cases hv
end
section
variable {P:Program} {ops:Array Oper} {o:Oper} {s:AS}
theorem G.dmap_inv {w:World} {X:Nat→Prop} {β:Nat→Nat} {κ:Nat→Nat×Nat} {es:List (List UInt8×AV)} {V:Value} (h:G w X β κ (.dmap es) V):D w X (.dmap es) V∧∃ (b:Nat) (ents:Array MapEntry) (clock:Nat),V = .map (some b)∧¬ X b∧w.heap[b]? = some (.map ents clock)∧ents.size=es.length:=by cases h with | d h=>exact ⟨h,by cases h with | dmap _ b ents clock h1 h2 h3=>exact ⟨b,ents,clock,rfl,h1,h2,h3⟩⟩
theorem D.dmap_at {w:World} {X:Nat→Prop} {es:List (List UInt8×AV)} {b:Nat} {ents:Array MapEntry} {clock:Nat} (h:D w X (.dmap es) (.map (some b))) (hb:w.heap[b]? = some (.map ents clock)) :
 ents.size=es.length∧(∀ i (h:i<ents.size),ents[i].key = .string ⟨(es.getD i default).1.toArray⟩∧ents[i].born<clock)∧(∀ i (h:i<ents.size),D w X (es.getD i default).2 ents[i].val) ∧
  (∀ i j (hi:i<ents.size) (hj:j<ents.size),i<j→ents[i].born<ents[j].born)∧ow es:=by
 cases h with
 | dmap _ _ ents' clock' h1 h2 h3 h4 h5 h6 h7 =>
  rw [h2] at hb;cases hb;exact ⟨h3,h4,h5,h6,h7⟩
def Ch (P:Program) (s:AS) (t:TypeId) (m:AV) (k:Nat):Option AS :=
 match m with
 | .dmap es=>if isMap P t then s.fresh k (.iter es []) (.hptr k 0) else none
 | _=>none
theorem Fs {t:TypeId} {m:Operand} {k:Nat} (hg:gd ops s o=some true) (hop:o.op = .range t m) (hd:o.dst=some k) {s':AS} (h:Ch P s t (s.op m) k=some s'):iP P ops o s (· = s') :=
 b6 hg fun c a w β κ r=>by
  have hm:=r.op m;unfold Ch at h;split at h
  ·rename_i es em;rw [em] at hm;obtain ⟨hD,b,ents,clock,eV,hnX,hb,hsz⟩:=hm.dmap_inv;split at h
   ·rename_i hM;obtain ⟨K,E,hu⟩:=uk hM;have hblt:b<w.heap.size:=(Array.getElem?_eq_some_iff.1 hb).1;have hXin:∀ b',¬ c.XX s.h β b'→b'<w.heap.size→¬ c.XX (ins k (.iter es []) (dm k s.h)) (upd β k w.heap.size) b':=by
     rintro b' hb' hlt (hx | ⟨j,hl,hj⟩)
     ·exact hb' (.inl hx)
     ·have hk6:k<1000000:=by have h:=h;unfold AS.fresh at h;obtain ⟨hc,_⟩:=rY h;simp only [KJ,Nat.blt_eq] at hc;omega
      rcases ed (o:=.iter es []) hk6 (fun _ h=>h) hl with ⟨ej,_⟩ | ⟨ej,hl⟩
      ·subst ej;rw [ak] at hj;omega
      ·rw [kC] at hl;rw [bh β ej] at hj;exact hb' (.inr ⟨j,hl,hj⟩)
    have hold:∀ i,i<w.heap.size→(w.alloc (.mapIter (some b) clock #[] clock)).heap[i]? = w.heap[i]? := fun i hi=>dV w _ hi;rw [eV] at hD;refine ⟨.pointer (some ⟨w.heap.size,0,none⟩),w.alloc (.mapIter (some b) clock #[] clock),_,_,.inl ?_,by
     rw [hd];refine qu r h (Nat.le_refl _) hold (dU _ _ _ r.Klt) (cap:=(0,0)) ⟨b,ents,clock,#[],by rw [ak];exact fy w _,hD.mono (fun i _ hi=>hold i hi) hXin,hXin _ hnX hblt,by rw [hold _ hblt,hb],rfl,fun i hi=>by cases hi⟩ ?_;have:=G.hptr (w:=w.alloc (.mapIter (some b) clock #[] clock)) (X:=c.XX (ins k (.iter es []) (dm k s.h)) (upd β k w.heap.size)) (β:=upd β k w.heap.size) (κ:=upd κ k (0,0)) k 0
     rwa [ak] at this⟩
    simp only [execOp,hop,eV];simp [Instr.range,aQ hu,bC hb,newObj,Result.andThen,go_sem];rfl
   ·cases h
  ·cases h
theorem DN {w:World} {X:Nat→Prop} {β:Nat→Nat} {κ:Nat→Nat×Nat} {k:Nat} {es:List (List UInt8×AV)} {seen:List Nat} (h:HO w X β κ k (.iter es seen)) :
 ∃ (b:Nat) (ents:Array MapEntry) (clock:Nat) (sb:Array Nat),w.heap[β k]? = some (.mapIter (some b) clock sb clock)∧D w X (.dmap es) (.map (some b))∧¬ X b∧w.heap[b]? = some (.map ents clock) ∧
  sb.toList=seen.map (fun i=>match ents[i]? with | some e=>e.born | none=>0)∧(∀ i∈seen,i<ents.size)∧ents.size=es.length ∧
  (∀ i (h:i<ents.size),ents[i].key = .string ⟨(es.getD i default).1.toArray⟩∧ents[i].born<clock)∧(∀ i (h:i<ents.size),D w X (es.getD i default).2 ents[i].val) ∧
  (∀ i j (hi:i<ents.size) (hj:j<ents.size),ents[i].born=ents[j].born→i=j)∧ow es∧∀ i (hi:i<ents.size),ents[i].born∈sb.toList↔i∈seen:=by
 obtain ⟨b,ents,clock,sb,h1,h2,h3,h4,h5,h6⟩:=h;obtain ⟨d1,d2,d3,d4,d5⟩:=h2.dmap_at h4;have hinj:∀ i j (hi:i<ents.size) (hj:j<ents.size),ents[i].born=ents[j].born→i=j:=by
  intro i j hi hj e;rcases Nat.lt_trichotomy i j with h | h | h
  ·have:=d4 i j hi hj h;omega
  ·exact h
  ·have:=d4 j i hj hi h;omega
 refine ⟨b,ents,clock,sb,h1,h2,h3,h4,h5,h6,d1,d2,d3,hinj,d5,fun i hi => ?_⟩;rw [h5,List.mem_map];constructor
 ·rintro ⟨j,hj,e⟩;rw [KS (h6 j hj)] at e;have:=hinj j i (h6 j hj) hi e;exact this ▸ hj
 ·intro hi2;exact ⟨i,hi2,by rw [KS hi]⟩
theorem Ie {it:Operand} {k:Nat} (hg:gd ops s o=some true) (hop:o.op = .next it false) (hi:s.op it = .hptr k 0) {es:List (List UInt8×AV)} {seen:List Nat} (hk:lk .gone s.h k = .iter es seen) {N:AS→Prop}
 (hN0:(∀ i,i<es.length→i∈seen)→∃ s',s.put o.dst (.tup [.bool false])=some s'∧N s')
 (hN1:∀ i,i<es.length→i ∉ seen→∃ s',AS.put ⟨s.n,s.t,ins k (.iter es (seen++[i])) s.h⟩ o.dst (.tup [.bool true,.str (es.getD i default).1,(es.getD i default).2])=some s'∧N s'):iP P ops o s N:=fun c a w β κ r K Q hK=>by
 rw [fM r hg];simp only [if_true];have hit:=r.op it;rw [hi] at hit;have ho:=r.hp.ob k;rw [hk] at ho;have hlive:(lk .gone s.h k).live:=by rw [hk];trivial
 obtain ⟨b,ents,clock,sb,h1,h2,h3,h4,h5,h6,d1,d2,d3,hinj,d5,hmem⟩:=DN ho;have hold:∀ x∈ents.toList,x.born<clock:=by
  intro x hx;obtain ⟨i,hi,rfl⟩:=List.getElem_of_mem hx;have hi':i<ents.size:=by simpa using hi
  rw [Array.getElem_toList];exact (d2 i hi').2
 unfold Oper.wp;have hrun:=run_next_at (P:=P) w o.type (β k) b clock clock sb ents clock h1 h4 hold (Nat.le_refl _);rcases hrun with ⟨hl,hr⟩ | ⟨e,he,w1,hw1,hr⟩
 ·have hex:(execOp a.eval o).run P w = .ok (.value (.tuple #[.bool false])) w:=by simp [execOp,hop,hit.hptr_inv,hr,Result.andThen]
  rw [hex];obtain ⟨s',e1,e2⟩:=hN0 fun i hi=>by
   have hi':i<ents.size:=by omega
   refine (hmem i hi').1 ?_;apply Classical.byContradiction;intro hc;have:ents[i]∈leftOf ents sb:=by unfold leftOf;rw [Array.mem_filter];exact ⟨by simp,by simpa using hc⟩
   rw [Array.eq_empty_of_size_eq_zero hl] at this;simp at this
  refine hK s' _ w β κ e2 (bu r (.d (.tup _ _ rfl fun i hi => ?_)) e1);have:i=0:=by simp at hi;omega
  subst this;exact .bool false
 ·have hex:(execOp a.eval o).run P w = .ok (.value (.tuple #[.bool true,e.key,e.val])) (ChangeMaps.setBlock w1 (β k) (.mapIter (some b) clock (sb.push e.born) clock)):=by simp [execOp,hop,hit.hptr_inv,hr,Result.andThen]
  rw [hex];obtain ⟨m1,m2⟩:=mem_left he;obtain ⟨i,hi0,rfl⟩:=List.getElem_of_mem m1;have hi':i<ents.size:=by simpa using hi0
  rw [Array.getElem_toList] at m2 ⊢;have hns:i ∉ seen:=fun hc=>by have:=(hmem i hi').2 hc;rw [← Bool.not_eq_true] at m2;exact m2 (by simpa using this)
  obtain ⟨s',e1,e2⟩:=hN1 i (by omega) hns;have r1:Rel c s a w1 β κ:=by
   rcases hw1 with rfl | rfl
   ·exact r
   ·exact r.drew
  have hheap:w1.heap=w.heap:=by rcases hw1 with rfl | rfl<;>rfl
  have h1':w1.heap[β k]? = some (.mapIter (some b) clock sb clock):=by rw [hheap];exact h1
  have hlt:β k<w1.heap.size:=(Array.getElem?_eq_some_iff.1 h1').1;have hne:∀ j,j≠β k→(ChangeMaps.setBlock w1 (β k) (.mapIter (some b) clock (sb.push ents[i].born) clock)).heap[j]? = w1.heap[j]? := fun j hj=>by simp [ChangeMaps.setBlock,Array.getElem?_setIfInBounds,Ne.symm hj]
  have hbk:b≠β k:=fun e=>h3 (.inr ⟨k,.inl hlive,e.symm⟩);have hw:∀ j,¬ c.XX s.h β j→j<w.heap.size→(ChangeMaps.setBlock w1 (β k) (.mapIter (some b) clock (sb.push ents[i].born) clock)).heap[j]? = w.heap[j]? := fun j hj _=>by rw [hne j (fun e=>hj (.inr ⟨k,.inl hlive,e.symm⟩)),hheap]
  have r2:Rel c ⟨s.n,s.t,ins k (.iter es (seen++[i])) s.h⟩ a (ChangeMaps.setBlock w1 (β k) (.mapIter (some b) clock (sb.push ents[i].born) clock)) β κ:=by
   refine r1.replace hlive (ob:=.iter es (seen++[i])) trivial hne ⟨rfl,rfl,rfl,by simp [ChangeMaps.setBlock],fun j hj=>hne j hj⟩ fun _ _ => ?_;refine ⟨b,ents,clock,sb.push ents[i].born,by simp [ChangeMaps.setBlock,hlt],h2.mono hw (fun _ h _=>h),h3,by rw [hne b hbk,hheap];exact h4,?_,fun j hj => ?_⟩
   ·rw [Array.toList_push,h5,List.map_append,List.map_cons,List.map_nil];refine (List.append_cancel_left_eq _ _ _).mpr ?_;rw [KS hi']
   ·rcases List.mem_append.1 hj with hj | hj
    ·exact h6 j hj
    ·simp only [List.mem_singleton] at hj;omega
  have hown:c.XX (ins k (.iter es (seen++[i])) s.h) β=c.XX s.h β:=ub c β (by rw [hk];exact Iff.rfl) (fun j=>by rw [hk];exact Iff.rfl);refine hK s' _ _ β κ e2 (bu r2 (.d (.tup _ _ rfl fun j hj => ?_)) e1);have hj':j=0∨j=1∨j=2:=by simp at hj;omega
  have hX2:∀ j,¬ c.XX s.h β j→j<w.heap.size→¬ c.XX (ins k (.iter es (seen++[i])) s.h) β j:=fun j hj _=>by rw [hown];exact hj
  rcases hj' with rfl | rfl | rfl
  ·exact .bool true
  ·show D _ _ (.str (es.getD i default).1) ents[i].key;rw [(d2 i hi').1];refine .str _ (d5.2 _ (List.mem_map.2 ⟨es.getD i default,?_,rfl⟩));rw [KH,KI (by omega:i<es.length)];exact List.getElem_mem _
  ·exact (d3 i hi').mono hw hX2
theorem GQ {it:Operand} {k:Nat} (hg:gd ops s o=some true) (hop:o.op = .entry it) (hi:s.op it = .hptr k 0) {es:List (List UInt8×AV)} {sn:List Nat} (hk:lk .gone s.h k = .iter es sn) {i:Nat} (hl:sn.getLast? = some i)
 {s':AS} (h:s.put o.dst (.tup [.str (es.getD i default).1,(es.getD i default).2])=some s'):iP P ops o s (· = s') :=
 b6 hg fun c a w β κ r=>by
  have hit:=r.op it;rw [hi] at hit;have ho:=r.hp.ob k;rw [hk] at ho;obtain ⟨b,ents,clock,sb,h1,h2,h3,h4,h5,h6,d1,d2,d3,hinj,d5,hmem⟩:=DN ho;obtain ⟨seen,rfl⟩:∃ seen,sn=seen++[i]:=⟨sn.dropLast,by
   have hne:sn≠[]:=by rintro rfl;cases hl
   rw [List.getLast?_eq_some_getLast hne] at hl;rw [← KT hl,List.dropLast_concat_getLast hne]⟩
  have hi':i<ents.size:=h6 i (by simp);have hsb:sb=(seen.map (fun i=>match ents[i]? with | some e=>e.born | none=>0)).toArray.push ents[i].born:=by apply Array.toList_inj.1;rw [h5,List.map_append,List.map_cons,List.map_nil,Array.toList_push];refine (List.append_cancel_left_eq _ _ _).mpr ?_;rw [KS hi']
  have hnd:(ents.toList.map (·.born)).Nodup:=by
   rw [List.nodup_iff_pairwise_ne,List.pairwise_iff_getElem];intro x y hx hy hlt he;have hx':x<ents.size:=by simpa using hx
   have hy':y<ents.size:=by simpa using hy
   have:=hinj x y hx' hy' (by simpa using he);omega
  rw [hsb] at h1;have hrun:=run_entry_at (P:=P) w (β k) b clock _ ents clock ents[i] h1 h4 (by simp) hnd;refine ⟨_,w,β,κ,.inl ?_,bu r (.d (.tup _ #[ents[i].key,ents[i].val] rfl fun j hj => ?_)) h⟩
  ·simp [execOp,hop,hit.hptr_inv,hrun,Result.andThen]
  ·have hj':j=0∨j=1:=by simp at hj;omega
   rcases hj' with rfl | rfl
   ·show D _ _ (.str (es.getD i default).1) ents[i].key;rw [(d2 i hi').1];refine .str _ (d5.2 _ (List.mem_map.2 ⟨es.getD i default,?_,rfl⟩));rw [KH,KI (by omega:i<es.length)];exact List.getElem_mem _
   ·exact d3 i hi'
theorem Gq {w:World} {ents:Array MapEntry} {es:List (List UInt8×AV)} (hsz:ents.size=es.length) (hkey:∀ i (h:i<ents.size),ents[i].key = .string ⟨(es.getD i default).1.toArray⟩) (x:List UInt8) {kt:TypeId} (hk:P.underlying kt=some .string) :
 ((Instr.findKey kt (.string ⟨x.toArray⟩) ents.toList).run P w = .ok none w∧∀ i,i<es.length→(es.getD i default).1≠x) ∨
  ∃ (j:Nat) (hj:j<ents.size),(Instr.findKey kt (.string ⟨x.toArray⟩) ents.toList).run P w = .ok (some (j,ents[j].val)) w∧(es.getD j default).1=x:=by
 have hik:MapKept.IsKey .string (Value.string ⟨x.toArray⟩):=by simp [MapKept.IsKey]
 have hall:∀ e∈ents.toList,MapKept.IsKey .string e.key:=by
  intro e he;obtain ⟨i,hi,rfl⟩:=List.getElem_of_mem he;have hi':i<ents.size:=by simpa using hi
  rw [Array.getElem_toList,hkey i hi'];simp [MapKept.IsKey]
 rcases MapKept.findNow_spec hik ents.toList 0 hall with ⟨f1,f2⟩ | ⟨j,e,f1,f2,f3⟩
 ·refine .inl ⟨MapKept.run_findKey hk f1,fun i hi hc => ?_⟩;have hi':i<ents.size:=by omega
  refine f2 ents[i] (by simp) ?_;rw [hkey i hi',hc]
 ·have hj:j<ents.size:=by have:=(KQ.1 f2).1;simpa using this
  have he:ents[j]=e:=by have:=KQ.1 f2;obtain ⟨_,h⟩:=this;rw [← h];simp
  refine .inr ⟨j,hj,?_,?_⟩
  ·have:=MapKept.run_findKey (w:=w) hk f1;rw [he];simpa using this
  ·have:=hkey j hj;rw [he,f3] at this;exact (mk_inj.1 this).symm
def wB (P:Program) (t:TypeId) (m x:AV):Option AV :=
 match m,x with
 | .dmap es,.str x=>match P.underlying t with
  | some (.map K E)=>match P.underlying K,zeroOf P E with
   | some .string,some z=>some (wQ x (AV.ez (AV.of z)) es)
   | _,_=>none
  | _=>none
 | _,_=>none
theorem yd {c:Cx P} {w:World} {β:Nat→Nat} {κ:Nat→Nat×Nat} {t:TypeId} {m x v:AV} {M X:Value} (hm:G w (c.XX s.h β) β κ m M) (hx:G w (c.XX s.h β) β κ x X) (h:wB P t m x=some v) :
 ∃ V,(Instr.lookup t M X false).run P w = .ok V w∧G w (c.XX s.h β) β κ v V:=by
 unfold wB at h;split at h
 ·rename_i es x;split at h
  ·rename_i K E hu;split at h
   ·rename_i z hK hz;cases h;obtain ⟨hD,b,ents,clock,eV,_,h1,_⟩:=hm.dmap_inv;rw [eV] at hD;obtain ⟨d1,d2,d3,_,d5⟩:=hD.dmap_at h1;rw [eV,hx.str_inv];have hck:∀ e,(Instr.checkKey e 10000 K (.string ⟨x.toArray⟩)).run P w = .ok () w:=fun e=>MapKept.run_checkKey (k:=.string ⟨x.toArray⟩) hK (by simp [MapKept.IsKey]) e 9999;rcases Gq (P:=P) (w:=w) d1 (fun i hi=>(d2 i hi).1) x hK with ⟨f1,f2⟩ | ⟨j,hj,f1,f2⟩
    ·refine ⟨z,?_,?_⟩
     ·simp [Instr.lookup,aQ hu,bC h1,hck,f1,jh hz,Result.andThen]
     ·rw [sP f2];exact .d (D.of w _ z).ez
    ·refine ⟨ents[j].val,?_,?_⟩
     ·simp [Instr.lookup,aQ hu,bC h1,hck,f1,Result.andThen]
     ·rw [yU d5.1 (by omega) f2];exact .d (d3 j hj)
   ·cases h
  ·cases h
 ·cases h
theorem F5 {t:TypeId} {m x:Operand} (hg:gd ops s o=some true) (hop:o.op = .lookup t m x false) {v:AV} (hv:wB P t (s.op m) (s.op x)=some v) {s':AS} (h:s.put o.dst v=some s'):iP P ops o s (· = s') :=
 b6 hg fun c a w β κ r=>by obtain ⟨V,hr,hG⟩:=yd (r.op m) (r.op x) hv;refine ⟨V,w,β,κ,.inl ?_,bu r hG h⟩;simp [execOp,hop,hr,Result.andThen]
theorem Ek {t:TypeId} {m x:Operand} (hg:gd ops s o=some true) (hop:o.op = .lookup t m x false) {v:AV} (hv:wB P t (s.op m) (s.op x)=some v) {s1:AS} (h:s.put o.dst v=some s1):Loc P ops o s (.put o.dst v) :=
 kh rfl h fun s' ha _ h2=>F5 (by rw [bO ha];exact hg) hop (by
  rw [bg ha (x:=m) (by simp [hop,Op.operands]),bg ha (x:=x) (by simp [hop,Op.operands])];exact hv) h2
end
def db {α:Type} (f:α→α):Nat→List α→List α
 | _,[]=>[]
 | 0,x::xs=>f x::xs
 | i+1,x::xs=>x::db f i xs
theorem bn {α:Type} (f:α→α):∀ (i:Nat) (l:List α),(db f i l).length=l.length
 | _,[]=>by simp [db]
 | 0,x::xs=>by simp [db]
 | i+1,x::xs=>by simp [db,bn f i xs]
theorem uL {α:Type} (f:α→α) (d:α):∀ (i:Nat) (l:List α) (j:Nat),(db f i l).getD j d=l.getD j d∨(db f i l).getD j d=f (l.getD j d)
 | _,[],j=>by simp [db]
 | 0,x::xs,0=>by simp [db]
 | 0,x::xs,j+1=>by simp [db]
 | i+1,x::xs,0=>by simp [db]
 | i+1,x::xs,j+1=>by simpa [db] using uL f d i xs j
def AV.wk0:AV→AV
 | .eslice=>.dslice []
 | v=>v
def AV.at (f:AV→AV) (i j:Nat):AV→AV
 | .agg cs=>.agg (db f i cs)
 | .tup cs=>.tup (db f i cs)
 | .fn g cs=>.fn g (db f i cs)
 | .dptr cs=>.dptr (db f i cs)
 | .dslice xs=>.dslice (db (db f j) i xs)
 | v=>v
def AV.wk:List (Nat×Nat)→AV→AV
 | []=>AV.wk0
 | (i,j)::p=>AV.at (AV.wk p) i j
theorem dM {α:Type} {f:α→α} {d:α} {R:α→Prop} (hf:∀ x,R x→R (f x)) (i:Nat) (l:List α) (j:Nat) (h:R (l.getD j d)):R ((db f i l).getD j d):=by
 rcases uL f d i l j with e | e
 ·rw [e];exact h
 ·rw [e];exact hf _ h
theorem D.wk0 {w:World} {X:Nat→Prop} {v:AV} {V:Value} (h:D w X v V):D w X (AV.wk0 v) V:=by
 unfold AV.wk0;split
 ·cases h with | eslice a=>exact .dnil a 0 (Nat.zero_le _)
 ·exact h
theorem D.at {w:World} {X:Nat→Prop} {f:AV→AV} (hf:∀ v V,D w X v V→D w X (f v) V) (i j:Nat) {v:AV} {V:Value} (h:D w X v V):D w X (AV.at f i j v) V:=by
 unfold AV.at;split
 ·cases h with | agg cs vs hl hg=>exact .agg _ vs (by rw [bn];exact hl) fun j hj=>dM (R:=fun x=>D w X x (vs.getD j undef)) (fun x hx=>hf _ _ hx) i _ j (hg j (by rw [bn] at hj;exact hj))
 ·cases h with | tup cs vs hl hg=>exact .tup _ vs (by rw [bn];exact hl) fun j hj=>dM (R:=fun x=>D w X x (vs.getD j undef)) (fun x hx=>hf _ _ hx) i _ j (hg j (by rw [bn] at hj;exact hj))
 ·cases h with | fn g cs vs hl hg=>exact .fn _ _ vs (by rw [bn];exact hl) fun j hj=>dM (R:=fun x=>D w X x (vs.getD j undef)) (fun x hx=>hf _ _ hx) i _ j (hg j (by rw [bn] at hj;exact hj))
 ·cases h with | dptr cs b o cv h0 h1 h2 h3=>exact .dptr _ b o cv (by rw [bn];exact h0) h1 (fun j hj=>h2 j (by rw [bn] at hj;exact hj)) fun j hj=>dM (R:=fun x=>D w X x (cv j)) (fun x hx=>hf _ _ hx) i _ j (h3 j (by rw [bn] at hj;exact hj))
 ·rename_i xs;cases h with
  | dnil a cap hc=>cases i<;>exact .dnil a cap hc
  | dslice _ b o cap sz cv h1 h2 h0 h3 h4 h5 h6 =>
   have key:∀ a,((db (db f j) i xs).getD a []).length=(xs.getD a []).length:=fun a =>
    dM (R:=fun x=>x.length=(xs.getD a []).length) (fun x hx=>by rw [bn];exact hx) i xs a rfl
   have key2:∀ a k,a<xs.length→k<sz→D w X (((db (db f j) i xs).getD a []).getD k .any) (cv a k):=fun a k ha hk =>
    dM (R:=fun x=>D w X (x.getD k .any) (cv a k)) (fun x hx=>dM (R:=fun y=>D w X y (cv a k)) (fun y hy=>hf _ _ hy) j x k hx) i xs a (h6 a k ha hk)
   have hl:=bn (db f j) i xs;rw [← hl];exact .dslice _ b o cap sz cv (by rw [bn];exact h1) h2 h0 h3 (fun a ha=>by rw [key];exact h4 a (by rw [bn] at ha;exact ha))
    (fun a k ha hk=>h5 a k (by rw [bn] at ha;exact ha) hk) (fun a k ha hk=>key2 a k (by rw [bn] at ha;exact ha) hk)
 ·exact h
theorem D.wk {w:World} {X:Nat→Prop}:∀ (p:List (Nat×Nat)) {v:AV} {V:Value},D w X v V→D w X (AV.wk p v) V
 | [],_,_,h=>h.wk0
 | (i,j)::p,_,_,h=>D.at (fun _ _ h=>D.wk p h) i j h
theorem G.wk {w:World} {X:Nat→Prop} {β:Nat→Nat} {κ:Nat→Nat×Nat}:∀ (p:List (Nat×Nat)) {v:AV} {V:Value},G w X β κ v V→G w X β κ (AV.wk p v) V
 | [],v,V,h=>by
  cases h with
  | d h=>exact .d h.wk0
  | hptr k o=>exact .hptr k o
  | rslice k h=>exact .rslice k h
  | rslice0 k a h=>exact .rslice0 k a h
  | gslice k=>exact .gslice k
  | rref k j h h2=>exact .rref k j h h2
  | rref0 k oj a h=>exact .rref0 k oj a h
  | amap k=>exact .amap k
  | bm f k o=>exact .bm f k o
  | fn f cs vs h1 h2=>exact .fn f cs vs h1 h2
  | agg cs vs h1 h2=>exact .agg cs vs h1 h2
  | tup cs vs h1 h2=>exact .tup cs vs h1 h2
 | (i,j)::p,v,V,h=>by
  cases h with
  | d h=>exact .d (h.wk _)
  | hptr k o=>exact .hptr k o
  | rslice k h=>exact .rslice k h
  | rslice0 k a h=>exact .rslice0 k a h
  | gslice k=>exact .gslice k
  | rref k j h h2=>exact .rref k j h h2
  | rref0 k oj a h=>exact .rref0 k oj a h
  | amap k=>exact .amap k
  | bm f k o=>exact .bm f k o
  | fn f cs vs h1 h2=>exact .fn _ _ vs (by rw [bn];exact h1) fun j hj=>dM (R:=fun x=>G w X β κ x (vs.getD j undef)) (fun x hx=>G.wk p hx) i cs j (h2 j (by rw [bn] at hj;exact hj))
  | agg cs vs h1 h2=>exact .agg _ vs (by rw [bn];exact h1) fun j hj=>dM (R:=fun x=>G w X β κ x (vs.getD j undef)) (fun x hx=>G.wk p hx) i cs j (h2 j (by rw [bn] at hj;exact hj))
  | tup cs vs h1 h2=>exact .tup _ vs (by rw [bn];exact h1) fun j hj=>dM (R:=fun x=>G w X β κ x (vs.getD j undef)) (fun x hx=>G.wk p hx) i cs j (h2 j (by rw [bn] at hj;exact hj))
def AS.wkT (s:AS) (t:Nat) (p:List (Nat×Nat)):AS:=⟨s.n,ins t (AV.wk p (lk .any s.t t)) s.t,s.h⟩
theorem Rel.wkT {P:Program} {c:Cx P} {s:AS} {a:Act} {w:World} {β:Nat→Nat} {κ:Nat→Nat×Nat} (r:Rel c s a w β κ) (t:Nat) (p:List (Nat×Nat)):Rel c (s.wkT t p) a w β κ:=by
 refine ⟨r.df,r.sz,fun i => ?_,r.hp⟩;show G w _ β κ (lk .any (ins t _ s.t) i) _;rw [aD];by_cases h:i=t
 ·subst h;rw [if_pos rfl];exact (r.tm i).wk p
 ·rw [if_neg h];exact r.tm i
def sQ:List (Nat×List (Nat×Nat))→List AV→List AV
 | [],xs=>xs
 | (i,p)::ps,xs=>sQ ps (db (AV.wk p) i xs)
theorem qj:∀ (ps:List (Nat×List (Nat×Nat))) (xs:List AV),(sQ ps xs).length=xs.length
 | [],xs=>rfl
 | (i,p)::ps,xs=>by rw [sQ,qj ps,bn]
theorem zW {w:World} {X:Nat→Prop} {β:Nat→Nat} {κ:Nat→Nat×Nat} {V:Value} {j:Nat}:∀ (ps:List (Nat×List (Nat×Nat))) (xs:List AV),G w X β κ (xs.getD j .any) V→G w X β κ ((sQ ps xs).getD j .any) V
 | [],xs,h=>h
 | (i,p)::ps,xs,h=>zW ps _ (dM (R:=fun x=>G w X β κ x V) (fun x hx=>hx.wk p) i xs j h)
theorem bD.wk {P:Program} {f:FuncId} {args:List AV} {h:List (Nat×AO)} {Q:AV→List (Nat×AO)→Prop} (ps:List (Nat×List (Nat×Nat))) (hc:bD P f (sQ ps args) h Q):bD P f args h Q :=
 fun c vs hl hr hg=>hc c vs (by rw [qj];exact hl) hr fun i hi=>zW ps args (hg i (by rw [qj] at hi;exact hi))
def aW (n:Int):Int:=IntKind.i64.wrap n
theorem yP {n:Int} (h:wV n):aW n=n:=wrap64 h
def JR (P:Program) (xs ys:List AV):List Field→Option Bool
 | []=>some true
 | f::fs=>bif f.name == "_" then none else bif Nat.blt f.offset xs.length&&Nat.blt f.offset ys.length then (match P.underlying f.type,xs.getD f.offset .any,ys.getD f.offset .any with
  | some (.int _),.int k a,.int k' b=>bif decide (k=k') then (match JR P xs ys fs with | some r=>some ((a==b)&&r) | none=>none) else none
  | some .bool,.bool a,.bool b=>(match JR P xs ys fs with | some r=>some ((a==b)&&r) | none=>none)
  | some .string,.str a,.str b=>(match JR P xs ys fs with | some r=>some ((a==b)&&r) | none=>none)
  | _,_,_=>none) else none
def Kb (P:Program) (t:TypeId):Option (List Field):=match P.underlying t with | some (.struct fs)=>bif !P.stoodInHeld t && !P.eqGuardType P.depth t then some fs.toList else none | _=>none
def Dn (P:Program) (s:AS):Op→Option (Prop×AV)
 | .binOp op t x y _=>match s.op x,s.op y with
  | .agg xs,.agg ys=>match Kb P t with
   | some fs=>match JR P xs ys fs with
    | some r=>match op with
     | .eql=>some (True,.bool r)
     | .neq=>some (True,.bool !r)
     | _=>none
    | none=>none
   | none=>none
  | .int .i64 a,.int .i64 b=>match op with
   | .add=>some (True,.int .i64 (aW (a+b)))
   | .sub=>some (True,.int .i64 (aW (a-b)))
   | .mul=>some (True,.int .i64 (aW (a*b)))
   | .quo=>some (b≠0,.int .i64 (aW (a.tdiv b)))
   | _=>none
  | _,_=>none
 | .unOp .neg _ x=>match s.op x with
  | .int .i64 a=>some (True,.int .i64 (aW (0-a)))
  | _=>none
 | .index t x i=>match s.op x,s.op i with
  | .agg cs,.int _ n=>match Et P t with
   | some (len,e)=>match zV P e,kQ P e with
    | some false,some 1=>some (0≤n∧n<len∧n<cs.length,cs.getD n.toNat .any)
    | _,_=>none
   | none=>none
  | _,_=>none
 | _=>none
section
variable {P:Program} {ops:Array Oper} {o:Oper} {s:AS}
theorem j7 {w:World} {t:TypeId} {vs:Array Value} {off:Nat} (hag:zV P t=some false) (h:off<vs.size):(part t vs off).run P w = .ok (vs.getD off undef) w:=by simp [part,run_isAgg hag,KS h,KK,go_sem]
theorem o8 {w:World} {X:Nat→Prop} {β:Nat→Nat} {κ:Nat→Nat×Nat} {xs ys:List AV} {Xs Ys:Array Value} (hx:xs.length=Xs.size) (hy:ys.length=Ys.size) (gx:∀ i,i<xs.length→G w X β κ (xs.getD i .any) (Xs.getD i undef)) (gy:∀ i,i<ys.length→G w X β κ (ys.getD i .any) (Ys.getD i undef)) (d:Nat) :
 ∀ (fs:List Field) (r:Bool),JR P xs ys fs=some r→(Op.eqFields (d+1) Xs Ys fs).run P w = .ok r w
 | [],r,h=>by cases h;rfl
 | f::fs,r,h=>by
  unfold JR at h;cases hn:f.name == "_" with
  | true=>rw [hn] at h;cases h
  | false =>
   rw [hn] at h;simp only [cond_false] at h;obtain ⟨hb,h⟩:=(show (Nat.blt f.offset xs.length&&Nat.blt f.offset ys.length)=true∧_ from by
    cases hb:(Nat.blt f.offset xs.length&&Nat.blt f.offset ys.length) with
    | true=>rw [hb] at h;exact ⟨rfl,h⟩
    | false=>rw [hb] at h;cases h)
   simp only [KJ,Nat.blt_eq] at hb;have g1:=gx f.offset hb.1;have g2:=gy f.offset hb.2;have hne:f.name ≠ "_" := by simpa using hn
   simp only [Op.eqFields,ne_eq,hne,not_false_eq_true,if_true,Sem.run_bind];split at h
   ·rename_i k' k a k2 b hu e1 e2;rw [e1] at g1;rw [e2] at g2;have hag:zV P f.type=some false:=by simp [zV,hu]
    cases hk:decide (k=k2) with
    | false=>rw [hk] at h;cases h
    | true =>
     rw [hk] at h;have hk:=KM hk;subst hk;simp only [cond_true] at h;split at h
     ·rename_i r' hr;cases h;have q1:=j7 (P:=P) (w:=w) (vs:=Xs) hag (by omega:f.offset<Xs.size);have q2:=j7 (P:=P) (w:=w) (vs:=Ys) hag (by omega:f.offset<Ys.size);simp only [q1,q2,g1.int_inv,g2.int_inv,Result.andThen,run_equalIn_int w d f.type k k' a b hu];cases hab:a==b with
      | true=>simp [o8 hx hy gx gy d fs r' hr]
      | false=>simp
     ·cases h
   ·rename_i a b hu e1 e2;rw [e1] at g1;rw [e2] at g2;have hag:zV P f.type=some false:=by simp [zV,hu]
    split at h
    ·rename_i r' hr;cases h;have q1:=j7 (P:=P) (w:=w) (vs:=Xs) hag (by omega:f.offset<Xs.size);have q2:=j7 (P:=P) (w:=w) (vs:=Ys) hag (by omega:f.offset<Ys.size);simp only [q1,q2,g1.bool_inv,g2.bool_inv,Result.andThen,run_equalIn_bool' w d f.type a b hu];cases hab:a==b with
     | true=>simp [o8 hx hy gx gy d fs r' hr]
     | false=>simp
    ·cases h
   ·rename_i a b hu e1 e2;rw [e1] at g1;rw [e2] at g2;have hag:zV P f.type=some false:=by simp [zV,hu]
    split at h
    ·rename_i r' hr;cases h;have q1:=j7 (P:=P) (w:=w) (vs:=Xs) hag (by omega:f.offset<Xs.size);have q2:=j7 (P:=P) (w:=w) (vs:=Ys) hag (by omega:f.offset<Ys.size);simp only [q1,q2,g1.str_inv,g2.str_inv,Result.andThen,run_equalIn_string w d f.type _ _ hu,toList_mk];cases hab:a==b with
     | true=>simp [o8 hx hy gx gy d fs r' hr]
     | false=>simp
    ·cases h
   ·cases h
theorem EM {c:Cx P} {a:Act} {w:World} {β:Nat→Nat} {κ:Nat→Nat×Nat} (r:Rel c s a w β κ) {op:Op} {p:Prop} {v:AV} (h:Dn P s op=some (p,v)) (hp:p) (dst:Option Tmp) (ty:TypeId) (pos:String) (af:Array Edge) (g:Option (Nat×Bool)) :
 DC P c s a w β κ ⟨dst,op,ty,pos,af,g⟩ v:=by
 unfold Dn at h;split at h
 ·rename_i op t x y u;have hx:=r.op x;have hy:=r.op y;split at h
  ·rename_i xs ys ex ey;rw [ex] at hx;rw [ey] at hy;obtain ⟨Xs,eX,lx,gx⟩:=hx.agg_inv;obtain ⟨Ys,eY,ly,gy⟩:=hy.agg_inv;split at h
   ·rename_i fs hfs;unfold Kb at hfs;split at hfs
    ·rename_i fsA hu;cases hst:(!P.stoodInHeld t && !P.eqGuardType P.depth t) with
     | false=>rw [hst] at hfs;cases hfs
     | true =>
      rw [hst] at hfs;cases hfs;simp only [KJ,Bool.not_eq_true'] at hst;have hfo:P.fieldsOf t=fsA:=by simp [Program.fieldsOf,hu]
      split at h
      ·rename_i rr hr;have hrun:=o8 (w:=w) (X:=c.XX s.h β) (β:=β) (κ:=κ) lx ly gx gy 9998 fsA.toList rr hr;have hst2:=run_equalIn_struct (P:=P) w 9999 t Xs Ys (by rw [hfo];exact hu) hst.1;rw [hfo] at hst2;split at h
       ·cases h;refine ⟨_,?_,.d (.bool _)⟩;simp only [execOp,eX,eY,Sem.run_bind,run_eqGuard_agg w .eql t x y Xs Ys hst.2,Result.andThen,run_eql_struct,hst2,hrun];rfl
       ·cases h;refine ⟨_,?_,.d (.bool _)⟩;simp only [execOp,eX,eY,Sem.run_bind,run_eqGuard_agg w .neq t x y Xs Ys hst.2,Result.andThen,run_neq_struct,hst2,hrun];rfl
       ·cases h
      ·cases h
    ·cases hfs
   ·cases h
  ·rename_i m n ex ey;rw [ex] at hx;rw [ey] at hy;have ex:=hx.int_inv;have ey:=hy.int_inv;unfold DC;generalize a.eval=ρ at ex ey ⊢;split at h
   ·cases h;refine ⟨_,?_,.d (.int _ _)⟩;simp [execOp,ex,ey,eqGuard,binOp,Op.intArith,go_sem]<;>rfl
   ·cases h;refine ⟨_,?_,.d (.int _ _)⟩;simp [execOp,ex,ey,eqGuard,binOp,Op.intArith,go_sem]<;>rfl
   ·cases h;refine ⟨_,?_,.d (.int _ _)⟩;simp [execOp,ex,ey,eqGuard,binOp,Op.intArith,go_sem]<;>rfl
   ·cases h;refine ⟨_,?_,.d (.int _ _)⟩;simp [execOp,ex,ey,eqGuard,binOp,Op.intDiv,go_sem];simp [hp,aW]
   ·cases h
  ·cases h
 ·rename_i t x;have hx:=r.op x;split at h
  ·rename_i n e;rw [e] at hx;cases h;refine dC rfl ⟨_,?_,.d (.int _ _)⟩;rw [hx.int_inv];simp only [Op.unary,Op.intArith];rfl
  ·cases h
 ·rename_i t x i;have hx:=r.op x;have hi:=r.op i;split at h
  ·rename_i cs k n ex ei;rw [ex] at hx;rw [ei] at hi;split at h
   ·rename_i len e hA;split at h
    ·rename_i hag hsz;cases h;obtain ⟨vs,eV,hl,hgs⟩:=hx.agg_inv;have hn:n.toNat<cs.length:=by omega
     have hap:apart P e cs (n.toNat*1)=some (cs.getD n.toNat .any):=by unfold apart;rw [hag,hsz];simp [hn]
     obtain ⟨V',hr,hg'⟩:=ox hl hgs hap (P:=P);refine dC rfl ⟨V',?_,hg'⟩;rw [hi.int_inv,eV];have h0:(0:Int)≤n∧n<(len:Int):=⟨hp.1,hp.2.1⟩;simp only [Instr.index,asIntOf,pure_bind,Sem.run_bind,aQ (pc hA),Result.andThen,if_pos h0,run_sizeOf hsz];exact hr
    ·cases h
   ·cases h
  ·cases h
 ·cases h
theorem Kk (hg:gd ops s o=some true) {p:Prop} {v:AV} (hv:Dn P s o.op=some (p,v)) (hp:p) {s':AS} (h:s.put o.dst v=some s'):iP P ops o s (· = s') :=
 b6 hg fun c a w β κ r=>by obtain ⟨dst,op,ty,pos,af,g⟩:=o;obtain ⟨V,hr,hG⟩:=EM (P:=P) r hv hp dst ty pos af g;exact ⟨V,w,β,κ,.inl hr,bu r hG h⟩
theorem EK {s':AS} {op:Op} (h1:∀ x∈op.operands,s'.op x=s.op x):Dn P s' op=Dn P s op:=by
 cases op;case binOp op t x y u=>simp only [Dn,h1 x (by simp [Op.operands]),h1 y (by simp [Op.operands])]
 case unOp u t x=>cases u<;>first | rfl | simp only [Dn,h1 x (by simp [Op.operands])]
 case index t x i=>simp only [Dn,h1 x (by simp [Op.operands]),h1 i (by simp [Op.operands])]
 all_goals rfl
theorem F7 (hg:gd ops s o=some true) {p:Prop} {v:AV} (hv:Dn P s o.op=some (p,v)) (hp:p) {s1:AS} (h:s.put o.dst v=some s1):Loc P ops o s (.put o.dst v) :=
 kh rfl h fun s' ha _ h2=>Kk (by rw [bO ha];exact hg) (by rw [EK (fun x hx=>bg ha hx)];exact hv) hp h2
theorem iM.wkT {t:Nat} {v:AV} (p:List (Nat×Nat)) {s1 s2:AS} (e:iM ((cJ.put (some t) v).app s1) s2):iM ((cJ.put (some t) (AV.wk p v)).app s1) (s2.wkT t p):=by refine ⟨e.n,fun i => ?_,e.h⟩;have e1:∀ i,lk .any s2.t i=lk .any (ins t v s1.t) i:=e.t;show lk .any (ins t (AV.wk p (lk .any s2.t t)) s2.t) i=lk .any (ins t (AV.wk p v) s1.t) i;rw [aD,aD,e1,e1,aD,aD,if_pos rfl];split<;>rfl
theorem JJ {dst:Option Tmp} {v:AV} (p:List (Nat×Nat)) (h:Loc P ops o s (.put dst v)):Loc P ops o s (.put dst (AV.wk p v)):=by
 intro s' ha h1 h2 c a w β κ r K Q hK;cases dst with
 | none=>exact h s' ha h1 h2 c a w β κ r K Q hK
 | some t=>exact h s' ha h1 h2 c a w β κ r K Q fun s'' a' w' β' κ' e r'=>hK (s''.wkT t p) a' w' β' κ' (iM.wkT p e) (r'.wkT t p)
def FD:List (List (Nat×Nat))→AV→AV
 | [],v=>v
 | p::ps,v=>FD ps (AV.wk p v)
theorem sA {dst:Option Tmp}:∀ (ps:List (List (Nat×Nat))) {v:AV},Loc P ops o s (.put dst v)→Loc P ops o s (.put dst (FD ps v))
 | [],_,h=>h
 | p::ps,_,h=>sA ps (JJ p h)
end
section
variable {P:Program} {ops:Array Oper} {o:Oper} {s:AS}
def s9 (P:Program) (s:AS) (t:TypeId) (x:AV) (n j:Nat):Option (Prop×AV) :=
 match x with
 | .hptr k o=>match lk .gone s.h k with
  | .row _ sz xs=>match zV P t,kQ P t with
   | some true,some m=>some (o=n*sz+j∧n<xs.length∧j+m≤sz,.agg (((xs.getD n []).drop j).take m))
   | some false,some _=>some (o=n*sz+j∧n<xs.length∧j+1≤sz,(xs.getD n []).getD j .any)
   | _,_=>none
  | _=>none
 | _=>none
theorem sN {c:Cx P} {a:Act} {w:World} {β:Nat→Nat} {κ:Nat→Nat×Nat} (r:Rel c s a w β κ) {k:Nat} {e:TypeId} {sz:Nat} {xs:List (List AV)} (hk:lk .gone s.h k = .row e sz xs) {n:Nat} (hn:n<xs.length) :
 (xs.getD n []).length=sz∧0<sz∧∃ cur:Array Value,w.heap[β k]? = some (.cells cur e (0,0))∧cur.size=(κ k).1*sz∧xs.length≤(κ k).1∧(κ k).1≤maxLen∧(∀ i,i<xs.length→(xs.getD i []).length=sz)∧∀ i j,i<xs.length→j<sz→i*sz+j<cur.size∧D w (c.XX s.h β) ((xs.getD i []).getD j .any) (cur.getD (i*sz+j) undef):=by
 have ho:=r.hp.ob k;rw [hk] at ho;have hx:xs≠[]:=by intro e;subst e;simp at hn
 obtain ⟨cur,h1,h2,h3,h4,h0,h5,h6⟩:=ho.2 hx;refine ⟨h5 n hn,h0,cur,h1,h2,h3,h4,h5,fun i j hi hj=>⟨?_,h6 i j hi hj⟩⟩;rw [h2];calc i*sz+j<i*sz+sz:=by omega
  _=(i+1)*sz:=by rw [Nat.add_mul,Nat.one_mul]
  _≤(κ k).1*sz:=Nat.mul_le_mul_right _ (by omega)
theorem AL {c:Cx P} {a:Act} {w:World} {β:Nat→Nat} {κ:Nat→Nat×Nat} (r:Rel c s a w β κ) {t:TypeId} {x v:AV} {X:Value} {n j:Nat} {p:Prop} (hg:G w (c.XX s.h β) β κ x X) (h:s9 P s t x n j=some (p,v)) (hp:p) :
 ∃ V,(Instr.loadAt t X).run P w = .ok V w∧G w (c.XX s.h β) β κ v V:=by
 unfold s9 at h;split at h
 ·rename_i k o;split at h
  ·rename_i e sz xs hk;split at h
   ·rename_i m hag hsz;cases h;obtain ⟨rfl,hn,hj⟩:=hp;obtain ⟨hl,h0,cur,h1,_,_,_,_,h2⟩:=sN r hk hn;rw [hg.hptr_inv];refine ⟨_,?_,.agg _ ((List.range m).map fun i=>cur.getD (n*sz+j+i) undef).toArray (by rw [List.length_take,List.length_drop,hl];simp;omega) fun i hi => ?_⟩
    ·have:=run_loadCells (P:=P) w ⟨β k,n*sz+j,none⟩ m (fun i=>cur.getD (n*sz+j+i) undef) (fun i hi=>by rw [jz];exact bc h1 (by have:=(h2 n (j+i) hn (by omega)).1;omega))
     simp only [Instr.loadAt,Instr.sureAddr,loadVar,pure_bind,Sem.run_bind,run_isAgg hag,run_sizeOf hsz,this,Result.andThen,if_true];rfl
    ·have hi':i<m:=by rw [List.length_take] at hi;omega
     rw [getD_take _ _ _ _ hi',dK];have:=(h2 n (j+i) hn (by omega)).2;rw [show n*sz+(j+i)=n*sz+j+i by omega] at this;simpa [KK,List.getElem?_map,hi'] using (G.d this:G w (c.XX s.h β) β κ _ _)
   ·rename_i m hag hsz;cases h;obtain ⟨rfl,hn,hj⟩:=hp;obtain ⟨hl,h0,cur,h1,_,_,_,_,h2⟩:=sN r hk hn;rw [hg.hptr_inv];refine ⟨cur.getD (n*sz+j) undef,?_,.d (h2 n j hn (by omega)).2⟩;have:=bc h1 (h2 n j hn (by omega)).1;simp [Instr.loadAt,Instr.sureAddr,loadVar,run_isAgg hag,this,go_sem]
   ·cases h
  ·cases h
 ·cases h
theorem Be {s':AS} {x:AV} {t:TypeId} {n j:Nat} (h:ll s s' x):s9 P s' t x n j=s9 P s t x n j:=by cases x<;>simp only [s9];case hptr k o=>rw [h k (by simp [AV.men])]
theorem Fu {t:TypeId} {x:Operand} {n j:Nat} (hg:gd ops s o=some true) (hop:o.op = .load t x) {p:Prop} {v:AV} (hv:s9 P s t (s.op x) n j=some (p,v)) (hp:p) {s':AS} (h:s.put o.dst v=some s'):iP P ops o s (· = s') :=
 b6 hg fun c a w β κ r=>by obtain ⟨V,hr,hG⟩:=AL r (r.op x) hv hp;refine ⟨V,w,β,κ,.inl ?_,bu r hG h⟩;simp only [execOp,hop,Sem.run_bind,hr,Result.andThen];rfl
theorem D8 {t:TypeId} {x:Operand} {n j:Nat} (hg:gd ops s o=some true) (hop:o.op = .load t x) {p:Prop} {v:AV} (hv:s9 P s t (s.op x) n j=some (p,v)) (hp:p) {s1:AS} (h:s.put o.dst v=some s1):Loc P ops o s (.put o.dst v) :=
 kh rfl h fun s' ha _ h2=>Fu (by rw [bO ha];exact hg) hop (by
  have hx:x∈o.op.operands:=by rw [hop];simp [Op.operands]
  rw [bg ha hx,Be (fun k hk=>ha.h (by rw [hop];rfl) x hx k hk)];exact hv) hp h2
def yx (P:Program) (s:AS) (t:TypeId) (x y:AV) (n j:Nat):Option (Prop×AS) :=
 match x,fS y,kQ P t with
 | .hptr k o,some vs,some m=>match lk .gone s.h k with
  | .row e sz xs=>if vs.length=m∧vs.all (fun v=>v.one&&v.fl)=true then some (o=n*sz+j∧n<xs.length∧j+m≤sz,⟨s.n,s.t,ins k (.row e sz (xs.set n (dY (xs.getD n []) j vs))) s.h⟩) else none
  | _=>none
 | _,_,_=>none
theorem FN {α:Type} (l:List α) (n:Nat) (x d:α) (i:Nat) (hn:n<l.length):(l.set n x).getD i d=if i=n then x else l.getD i d:=by
 simp only [KH,List.getElem?_set];by_cases h:n=i
 ·subst h;simp [hn]
 ·rw [if_neg h,if_neg (fun e=>h e.symm)]
theorem zi {c:Cx P} {a:Act} {w:World} {β:Nat→Nat} {κ:Nat→Nat×Nat} (r:Rel c s a w β κ) {t:TypeId} {x y:AV} {X Y:Value} {n j:Nat} {p:Prop} (hx:G w (c.XX s.h β) β κ x X) (hy:G w (c.XX s.h β) β κ y Y) {s':AS} (h:yx P s t x y n j=some (p,s')) (hp:p) :
 ∃ w',(Instr.storeAt t X Y).run P w = .ok () w'∧Rel c s' a w' β κ:=by
 unfold yx at h;split at h
 ·rename_i k off vs m hvs hm;split at h
  ·rename_i e sz xs hk;split at h
   ·rename_i hc;obtain ⟨hc1,hc3⟩:=hc;cases h;obtain ⟨rfl,hn,hj⟩:=hp;obtain ⟨hl,h0,cur,h1,hcs,hcap1,hcap2,hall,h2⟩:=sN r hk hn;obtain ⟨g1,g2⟩:=j3 hy hvs;have hfl:∀ i,i<vs.length→(vs.getD i .any).one=true∧(vs.getD i .any).fl=true:=by intro i hi;have:=KU.1 hc3 (vs.getD i .any) (by rw [KH,KI hi];exact List.getElem_mem _);simpa [KJ] using this
    have hone:∀ v∈Y.cells.toList,v.oneCell'=true:=by
     intro v hv;obtain ⟨i,hi,rfl⟩:=List.getElem_of_mem hv;have hi':i<Y.cells.size:=by simpa using hi
     have:=g2 i (by omega);have e1:Y.cells.getD i undef=Y.cells.toList[i]:=by simp [KK,KS hi']
     rw [e1] at this;exact this.one (hfl i (by omega)).1
    have hend:n*sz+j+Y.cells.size≤cur.size:=by have:=(h2 n (sz-1) hn (by omega)).1;omega
    have hst:=run_storeCells_at P (β k) (n*sz+j) e Y.cells.toList 0 cur w h1 (by simp;omega) hone;simp only [Nat.add_zero,Array.length_toList] at hst;generalize hoff:n*sz+j=off at *;let new:Array Value:=(cur.toList.take off++Y.cells.toList++cur.toList.drop (off+Y.cells.size)).toArray
    have hnewsz:new.size=cur.size:=by simp [new];omega
    have hnew:∀ i,new.getD i undef=if off≤i∧i<off+vs.length then Y.cells.getD (i-off) undef else cur.getD i undef:=by
     intro i;have hl1:(cur.toList.take off).length=off:=by simp;omega
     have hN:new.getD i undef=(cur.toList.take off++Y.cells.toList++cur.toList.drop (off+Y.cells.size)).getD i undef:=by simp [new,KK,KH]
     rw [hN];by_cases h4:i<off
     ·rw [if_neg (by omega),List.append_assoc,bJ (by omega),getD_take _ _ _ _ h4];simp [KK,KH]
     ·by_cases h5:i<off+vs.length
      ·rw [if_pos ⟨by omega,h5⟩,List.append_assoc,be (by omega),hl1,bJ (by simp;omega)];simp [KK,KH]
      ·rw [if_neg (by omega),be (by simp;omega),dK];have:off+Y.cells.size+(i-(cur.toList.take off++Y.cells.toList).length)=i:=by simp;omega
       rw [this];simp [KK,KH]
    refine ⟨w.setRow (β k) new,?_,?_⟩
    ·rw [hx.hptr_inv];simp only [Instr.storeAt,Instr.sureAddr,pure_bind,storeVar,Sem.run_bind,run_sizeOf hm,Result.andThen];rw [if_neg (by omega)];exact hst
    ·have hlive:(lk .gone s.h k).live:=by rw [hk];intro e;subst e;simp at hn
     have hbk:β k<w.heap.size:=r.hp.lt (.inl hlive);let xs':=xs.set n (dY (xs.getD n []) j vs)
     have hxs':xs'≠[]:=by
      intro e;have:xs'.length=xs.length:=by simp [xs']
      rw [e] at this;simp at this;omega
     have hsl:(AO.row e sz xs').live↔(lk .gone s.h k).live:=⟨fun _=>hlive,fun _=>hxs'⟩;have hsi:∀ j,(AO.row e sz xs').inn j↔(lk .gone s.h k).inn j:=fun j=>by rw [hk];exact Iff.rfl
     have hlv:=fun j=>rD (h:=s.h) hsl hsi j;have hXX:c.XX (ins k (.row e sz xs') s.h) β=c.XX s.h β:=ub c β hsl hsi;have hw:∀ i,¬ c.XX s.h β i→i<w.heap.size→(w.setRow (β k) new).heap[i]? = w.heap[i]? := fun i hi _=>bl _ _ _ (fun e=>hi (.inr ⟨k,.inl hlive,e.symm⟩));have hG:∀ {v:AV} {V:Value},G w (c.XX s.h β) β κ v V→G (w.setRow (β k) new) (c.XX s.h β) β κ v V:=fun hg=>hg.mono hw (fun _ h _=>h) (fun _ _=>.refl);have hD:∀ {v:AV} {V:Value},D w (c.XX s.h β) v V→D (w.setRow (β k) new) (c.XX s.h β) v V:=fun hg=>hg.mono hw (fun _ h _=>h);refine ⟨r.df,r.sz,fun i => ?_,⟨fun q => ?_,fun i j hi hj e=>r.hp.inj i j ((hlv i).1 hi) ((hlv j).1 hj) e,?_,fun j hj=>r.hp.nk j ((hlv j).1 hj),fun j hj=>r.hp.nx j ((hlv j).1 hj),r.hp.fix,fun j hj => ?_⟩⟩
     ·show G _ (c.XX (ins k _ s.h) β) β κ _ _;rw [hXX];exact hG (r.tm i)
     ·show HO _ (c.XX (ins k (.row e sz xs') s.h) β) β κ q (lk .gone (ins k (.row e sz xs') s.h) q);rw [hXX,aD];by_cases ej:q=k
      ·subst ej;rw [if_pos rfl];have hlen':xs'.length=xs.length:=by simp [xs']
       have hold:=r.hp.ob q;rw [hk] at hold;have hsp:(dY (xs.getD n []) j vs).length=sz:=by rw [iB (by omega)];exact hl
       have hgd:∀ i,xs'.getD i []=if i=n then dY (xs.getD n []) j vs else xs.getD i []:=fun i=>FN xs n _ [] i hn
       refine ⟨by rw [hlen'];exact hold.1,fun _=>⟨new,eF w _ cur e new h1,by rw [hnewsz];exact hcs,by rw [hlen'];exact hcap1,hcap2,h0,fun i hi => ?_,fun i l hi hl2 => ?_⟩⟩
       ·rw [hgd];split
        ·exact hsp
        ·rw [hlen'] at hi;exact hall i hi
       ·rw [hlen'] at hi;rw [hgd,hnew];by_cases ei:i=n
        ·subst ei;rw [if_pos rfl,oh (by omega)];by_cases h6:j≤l∧l<j+vs.length
         ·rw [if_pos h6,if_pos (by omega),show i*sz+l-off=l-j by omega];exact hD ((g2 (l-j) (by omega)).toD (hfl (l-j) (by omega)).2)
         ·rw [if_neg h6,if_neg (by omega)];exact hD (h2 i l hi hl2).2
        ·rw [if_neg ei,if_neg ?_]
         ·exact hD (h2 i l hi hl2).2
         ·rcases Nat.lt_or_ge i n with h7 | h7
          ·have h8:(i+1)*sz≤n*sz:=Nat.mul_le_mul_right _ h7;rw [Nat.add_mul,Nat.one_mul] at h8;omega
          ·have h8:(n+1)*sz≤i*sz:=Nat.mul_le_mul_right _ (by omega);rw [Nat.add_mul,Nat.one_mul] at h8;omega
      ·rw [if_neg ej];exact (r.hp.ob q).mono hw (fun _ h _=>h) (fun _ _=>.refl) .refl (fun hl=>bl _ _ _ fun e=>ej (r.hp.inj q k (.inl hl) (.inl hlive) e)) (fun i hl=>bl _ _ _ (r.hp.vne hlive hl))
     ·refine r.hp.kp.trans (K':=c.K) ⟨rfl,rfl,rfl,by simp [World.setRow],fun b hb=>bl _ _ _ fun e=>r.hp.nk k (.inl hlive) (e ▸ hb)⟩ (fun _ h=>h)
     ·rw [aD] at hj;by_cases ej:j=k
      ·rw [ej];exact r.hp.sm k hlive
      ·rw [if_neg ej] at hj;exact r.hp.sg j hj
   ·cases h
  ·cases h
 ·cases h
theorem ET {t:TypeId} {x y:Operand} {n j:Nat} (hg:gd ops s o=some true) (hop:o.op = .store t x y) (hd:o.dst=none) {p:Prop} {s':AS} (h:yx P s t (s.op x) (s.op y) n j=some (p,s')) (hp:p):iP P ops o s (· = s') :=
 b6 hg fun c a w β κ r=>by obtain ⟨w',hr,r'⟩:=zi r (r.op x) (r.op y) h hp;refine ⟨undef,w',β,κ,.inr ⟨?_,rfl⟩,by rw [hd];exact r'⟩;simp only [execOp,hop,Sem.run_bind,hr,Result.andThen];rfl
end
section
variable {P:Program} {ops:Array Oper} {o:Oper} {s s':AS}
theorem AV.pg_free {k:Nat} {v:AV} (h:AV.men k v=false):AV.pg k v=v:=by unfold AV.pg;rw [h];rfl
theorem tB {k:Nat}:∀ {cs:List AV},AV.menL k cs=false→cs.map (AV.pg k)=cs
 | [],_=>rfl
 | c::cs,h=>by simp only [AV.menL,Bool.or_eq_false_iff] at h;rw [List.map_cons,AV.pg_free h.1,tB h.2]
theorem AO.pg_free {k:Nat} {o:AO} (h:AO.men k o=false):AO.pg k o=o:=by
 cases o with
 | cells e cs=>exact congrArg (AO.cells e) (tB h)
 | _=>rfl
theorem Ik {k:Nat} (h:DU k s):iM s ⟨s.n,gq k s.t,dm k s.h⟩:=⟨rfl,fun i=>by
 show lk .any (gq k s.t) i=lk .any s.t i;rw [cq,AV.pg_free (h.1 i)],fun i=>by
 show lk .gone (dm k s.h) i=lk .gone s.h i;rw [cu,AO.pg_free (h.2 i)]⟩
theorem CN {k:Nat} {t:TypeId} {x:AV} {cs:List AV} (hcs:fS x=some cs) (hk:(Nat.blt k s.n&&Nat.blt k 1000 && !AV.men k x)=true)
 (h:∀ s',rv ops o s s'→∀ s2,yk s' t x k=some s2→iP P ops o s' (· = s2)):Loc P ops o s ⟨[(k,.hptr k 0)],[(k,.cells t cs)],[k],[]⟩:=by
 intro s' ha hf _;have hfk:=hf k (by simp);simp only [KJ,Bool.not_eq_true'] at hk;have hb:yk s' t x k=some ⟨s'.n,ins k (.hptr k 0) (gq k s'.t),ins k (.cells t cs) (dm k s'.h)⟩:=by unfold yk;rw [AV.pg_free hk.2,hcs];simp only [AS.fresh];rw [ha.n,hk.1.1,hk.1.2];rfl
 refine (h s' ha _ hb).mono fun s'' e => ?_;subst e;have hs:=Ik hfk;refine ⟨rfl,fun i => ?_,fun i => ?_⟩
 ·show lk .any (ins k (.hptr k 0) (gq k s'.t)) i=lk .any (jY [(k,.hptr k 0)] s'.t) i;rw [aD,cT,cq,AV.pg_free (hfk.1 i)];simp only [gz];by_cases e:i=k
  ·subst e;simp
  ·rw [if_neg e,bN e];rfl
 ·show lk .gone (ins k (.cells t cs) (dm k s'.h)) i=lk .gone (jY [(k,.cells t cs)] s'.h) i;rw [aD,cT,cu,AO.pg_free (hfk.2 i)];simp only [gz];by_cases e:i=k
  ·subst e;simp
  ·rw [if_neg e,bN e];rfl
theorem tK {w:World} {X:Nat→Prop} {β:Nat→Nat} {κ:Nat→Nat×Nat} {t:TypeId} {len:Nat} {parts:List (Nat×AV)} {vals:Array (Nat×Value)} (hl:parts.length=vals.size)
 (hp:∀ i,i<parts.length→(parts.getD i default).1=(vals.toList.getD i default).1∧G w X β κ (parts.getD i default).2 (vals.toList.getD i default).2) {xs:List (List AV)} (h:cL P t len parts=some (.dslice xs))
 {e:TypeId} {sz by_:Nat} (he2:dZ P t=some (e,sz,by_)) :
 ∃ arr:Array Value,(Instr.buildSlice t len vals).run P w = .ok (.slice (some ⟨w.heap.size,0,none⟩) xs.length xs.length) (w.alloc (.cells arr e))∧xs≠[]∧0<sz∧arr.size=xs.length*sz∧xs.length≤maxLen ∧
  (∀ i,i<xs.length→(xs.getD i []).length=sz)∧(∀ i j,i<xs.length→j<sz→D w X ((xs.getD i []).getD j .any) (arr.getD (i*sz+j) undef)):=by
 obtain ⟨hu2,i2,z2,hi2,_,hs2,_,_,hsz⟩:=fB he2;unfold cL at h;split at h
 ·rename_i e' he;have hu1:=eZ he;rw [hu2] at hu1;cases hu1;split at h
  ·rename_i n z hn hz;have en:n=sz:=by unfold kQ at hn;rw [hi2] at hn;have:=KT hn;omega
   subst en;split at h
   ·cases h
   ·rename_i hc;simp only [not_or,Nat.not_lt] at hc;obtain ⟨hn0,hc1,hc2⟩:=hc;have hc2:z.cells.size=n:=by simpa using hc2
    have hnb:¬ (len*n>2 ^ 24):=by omega
    split at h
    ·split at h<;>cases h
    ·rename_i hl0;split at h
     ·rename_i ys hxs;split at h
      ·rename_i hcc;cases h;simp only [KJ] at hcc;obtain ⟨p1,p2,p3,p4⟩:=oM hxs;have hxl:xs.length=len:=bP.1 hcc.2;let zs:Array Value:=(Array.range (len*n)).map (z.cells[· % z.cells.size]!)
       have hzs:zs.size=len*n:=by simp [zs]
       have hle:(0+parts.length)*n≤(zs.toList.map AV.of1).length:=by simp [hzs,← p1,hxl]
       obtain ⟨arr,a1,a2,a3⟩:=jd (w:=w) (X:=X) (β:=β) (κ:=κ) parts vals.toList (zs.toList.map AV.of1) zs (by simpa using hl) hp (by simp) (yw _) _ (oe parts 0 xs _ hxs hcc.1 hle);have hflat:(List.take (0*n) (zs.toList.map AV.of1)++xs.flatten++List.drop ((0+parts.length)*n) (zs.toList.map AV.of1))=xs.flatten:=by rw [Nat.zero_mul,List.take_zero,List.nil_append,List.drop_eq_nil_of_le (by simp [hzs,← p1,hxl]),List.append_nil]
       rw [hflat] at a2 a3;have hfl:=oV p2;refine ⟨arr,?_,fun e0=>hl0 (by rw [← hxl,e0];rfl),hsz,by rw [a2,hfl],by unfold maxLen;have:len*1≤len*n:=Nat.mul_le_mul_left _ (by omega);omega,fun i hi=>p2.getD hi,fun i j hi hj => ?_⟩
       ·simp only [Instr.buildSlice,Sem.run_bind,aQ hu2,Result.andThen,run_sizeOf hn];rw [if_neg hnb];have h0:¬ (len*n=0):=by rw [Nat.mul_eq_zero];omega
        simp only [h0,if_false,Sem.run_bind,jh hz,Result.andThen,pure_bind];have:Instr.fill (fun i=>some (i*n,n)) ((Array.range (len*n)).map (z.cells[· % z.cells.size]!)) vals.toList=some arr:=a1;rw [this,hxl];simp [newRow,go_sem]
       ·have hij:i*n+j<xs.flatten.length:=by rw [hfl];have:(i+1)*n≤xs.length*n:=Nat.mul_le_mul_right _ hi;rw [Nat.add_mul] at this;omega
        have:=a3 (i*n+j) hij;rw [mS p2 hi hj] at this;refine this.toD ?_;have hxm:xs.getD i []∈xs:=by rw [KH,KI hi];exact List.getElem_mem hi
        exact hU (by rw [p2.getD hi];exact hj) (p3 _ hxm)
      ·cases h
     ·cases h
  ·cases h
 ·cases h
theorem Hf {c:Cx P} {a:Act} {w:World} {β:Nat→Nat} {κ:Nat→Nat×Nat} {s:AS} (r:Rel c s a w β κ) {k k':Nat} {e:TypeId} {sz:Nat} {zs:List (List AV)} {s':AS} (h:s.grow k k' e sz zs=some s') (arr:Array Value) (C:Nat) (hz:zs≠[]) (hsz:0<sz)
 (hl:∀ i,i<zs.length→(zs.getD i []).length=sz) (hs:arr.size=C*sz) (hC:zs.length≤C) (hCm:C≤maxLen)
 (hG:∀ i j,i<zs.length→j<sz→D w (c.XX s.h β) ((zs.getD i []).getD j .any) (arr.getD (i*sz+j) undef)) :
 ∃ β' κ',Rel c s' (a.put (some k') (.slice (some ⟨w.heap.size,0,none⟩) zs.length C)) (w.alloc (.cells arr e)) β' κ':=by
 unfold AS.grow at h;cases hc:(Nat.blt k' s.n&&Nat.blt k' 1000) with
 | false=>rw [hc] at h;cases h
 | true =>
  rw [hc] at h;cases h;simp only [KJ,Nat.blt_eq] at hc;have r':=r.drop2 k k';obtain ⟨m1,m2⟩:=Iy k k' s;have hw:∀ b,b<w.heap.size→(w.alloc (.cells arr e)).heap[b]? = w.heap[b]? := fun b hb=>dV w _ hb;have hsub:∀ b,¬ c.XX s.h β b→b<w.heap.size→¬ c.XX (ins k' (.row e sz zs) (s.drop2 k k').h) (upd β k' w.heap.size) b:=by
   rintro b hb hlt (hx | ⟨j,hl,hj⟩)
   ·exact hb (.inl hx)
   ·rcases ed (o:=.row e sz zs) (by omega) (fun _ h=>h) hl with ⟨ej,_⟩ | ⟨ej,hl⟩
    ·subst ej;rw [ak] at hj;omega
    ·rw [bh β ej] at hj;exact hb (.inr ⟨j,(q9 hl).1,hj⟩)
  obtain ⟨h1,h2⟩:=r'.hp.anew (w':=w.alloc (.cells arr e)) hc.2 (fun j _=>(m2 j).2) w.heap.size (C,zs.length) (Nat.le_refl _) hw (dU _ w _ r.Klt) (o:=.row e sz zs)
   ⟨by rw [ak],fun _=>⟨arr,by rw [ak];exact fy w _,by rw [ak];exact hs,by rw [ak];exact hC,by rw [ak];exact hCm,hsz,hl,fun i j hi hj=>(hG i j hi hj).mono (w:=w) (fun b _ hb=>hw b hb) hsub⟩⟩
  refine ⟨upd β k' w.heap.size,upd κ k' (C,zs.length),r.df,by simp [Act.put,r.sz],fun i => ?_,h1⟩;show G _ _ _ _ (lk .any (ins k' (.rslice k') (s.drop2 k k').t) i) _;rw [aD];by_cases hi:i=k'
  ·subst hi;have hi':i<a.tmps.size:=by rw [r.sz];exact hc.1
   have hlz:0<zs.length:=by cases zs with | nil=>exact absurd rfl hz | cons _ _=>simp
   have:=G.rslice (w:=w.alloc (.cells arr e)) (X:=c.XX (ins i (.row e sz zs) (s.drop2 k i).h) (upd β i w.heap.size)) (β:=upd β i w.heap.size) (κ:=upd κ i (C,zs.length)) i (by rw [ak];exact hlz);rw [ak,ak] at this;simpa [Act.put,KK,Array.getElem?_setIfInBounds,hi'] using this
  ·have:=h2 (r'.tm i) (m1 i).2;rw [if_neg hi];have hne:¬ k'=i:=fun e=>hi e.symm;simpa [Act.put,KK,Array.getElem?_setIfInBounds,hne] using this
theorem te {t e:TypeId} {len sz by_ k':Nat} {ps:Array (Nat×Operand)} {xs:List (List AV)} (hg:gd ops s o=some true) (hop:o.op = .buildSlice t len ps) (hd:o.dst=some k') (he:dZ P t=some (e,sz,by_))
 (hv:cL P t len (s.parts ps)=some (.dslice xs)) {s':AS} (h:s.grow k' k' e sz xs=some s'):iP P ops o s (· = s') :=
 b6 hg fun c a w β κ r=>by obtain ⟨h1,h2⟩:=qc r ps;obtain ⟨arr,hr,g1,g2,g3,g4,g5,g6⟩:=tK h1 h2 hv he;obtain ⟨β',κ',r'⟩:=Hf r h arr xs.length g1 g2 g5 g3 (Nat.le_refl _) g4 g6;refine ⟨_,_,β',κ',.inl ?_,by rw [hd];exact r'⟩;simp only [execOp,hop];show ((Instr.buildSlice t len (ps.map fun p=>(p.1,a.eval p.2))) >>= fun x=>pure (Next.value x)).run P w=_;rw [Sem.run_bind,hr];rfl
theorem x9 {t e:TypeId} {len sz by_ k':Nat} {ps:Array (Nat×Operand)} {xs:List (List AV)} (hg:gd ops s o=some true) (hop:o.op = .buildSlice t len ps) (hd:o.dst=some k') (he:dZ P t=some (e,sz,by_))
 (hv:cL P t len (s.parts ps)=some (.dslice xs)) (hk:(Nat.blt k' s.n&&Nat.blt k' 1000)=true):Loc P ops o s ⟨[(k',.rslice k')],[(k',.row e sz xs)],[k'],[]⟩:=by
 intro s' ha hf _;have hfk:=hf k' (by simp);have hv':cL P t len (s'.parts ps)=some (.dslice xs):=by rw [← hv];congr 1;unfold AS.parts;refine List.map_congr_left fun p hp => ?_;rw [bg ha];rw [hop];simp only [Op.operands,List.mem_toArray,List.mem_map];exact ⟨p,hp,rfl⟩
 have hgr:s'.grow k' k' e sz xs=some ⟨s'.n,ins k' (.rslice k') (s'.drop2 k' k').t,ins k' (.row e sz xs) (s'.drop2 k' k').h⟩:=by unfold AS.grow;rw [ha.n,hk];rfl
 refine (te (by rw [bO ha];exact hg) hop hd he hv' hgr).mono fun s'' e1 => ?_;subst e1;refine ⟨rfl,fun i => ?_,fun i => ?_⟩
 ·show lk .any (ins k' (.rslice k') (gq k' (gq k' s'.t))) i=lk .any (jY [(k',.rslice k')] s'.t) i;rw [aD,cT,cq,cq,AV.pg_free (hfk.1 i),AV.pg_free (hfk.1 i)];simp only [gz];by_cases e:i=k'
  ·subst e;simp
  ·rw [if_neg e,bN e];rfl
 ·show lk .gone (ins k' (.row e sz xs) (rm k' (dm k' (dm k' s'.h)))) i=lk .gone (jY [(k',.row e sz xs)] s'.h) i;rw [aD,cT,ja,cu,cu,AO.pg_free (hfk.2 i),AO.pg_free (hfk.2 i)];simp only [gz];by_cases e:i=k'
  ·subst e;simp
  ·rw [if_neg e,if_neg e,bN e];rfl
theorem Hi {x y:Operand} {t e:TypeId} {sz by_ k':Nat} {ys:List (List AV)} (hg:gd ops s o=some true) (hop:o.op = .call ⟨.builtin .append,#[x,y],#[t,t]⟩) (hd:o.dst=some k') (he:dZ P t=some (e,sz,by_))
 (hx:s.op x = .eslice) (hy:s.op y = .dslice ys∨(s.op y = .eslice∧ys=[])) (hE:EL sz ys) (hb:(0+ys.length)*by_≤140737488355328) (h63:0+ys.length≤9223372036854775807) (hk:(Nat.blt k' s.n&&Nat.blt k' 1000)=true) :
 Loc P ops o s ⟨[(k',.rslice k')],[(k',.row e sz ys)],[k'],[]⟩:=by
 intro s' ha hf _;have hfk:=hf k' (by simp);have hx':s'.op x = .eslice:=by rw [bg ha (by rw [hop];simp [Op.operands,Call.operands])];exact hx
 have hy':s'.op y = .dslice ys∨(s'.op y = .eslice∧ys=[]):=by rw [bg ha (by rw [hop];simp [Op.operands,Call.operands])];exact hy
 have hgr:s'.grow k' k' e sz ([]++ys)=some ⟨s'.n,ins k' (.rslice k') (s'.drop2 k' k').t,ins k' (.row e sz ([]++ys)) (s'.drop2 k' k').h⟩:=by unfold AS.grow;rw [ha.n,hk];rfl
 refine (sF (by rw [bO ha];exact hg) hop hd he (.inl ⟨hx',rfl⟩) hy' hE (by simpa using hb) (by simpa using h63) hgr).mono fun s'' e1 => ?_;subst e1;refine ⟨rfl,fun i => ?_,fun i => ?_⟩
 ·show lk .any (ins k' (.rslice k') (gq k' (gq k' s'.t))) i=lk .any (jY [(k',.rslice k')] s'.t) i;rw [aD,cT,cq,cq,AV.pg_free (hfk.1 i),AV.pg_free (hfk.1 i)];simp only [gz];by_cases e:i=k'
  ·subst e;simp
  ·rw [if_neg e,bN e];rfl
 ·show lk .gone (ins k' (.row e sz ([]++ys)) (rm k' (dm k' (dm k' s'.h)))) i=lk .gone (jY [(k',.row e sz ys)] s'.h) i;rw [aD,cT,ja,cu,cu,AO.pg_free (hfk.2 i),AO.pg_free (hfk.2 i)];simp only [gz];by_cases e:i=k'
  ·subst e;simp
  ·rw [if_neg e,if_neg e,bN e];rfl
theorem Iz {y:Operand} {t e:TypeId} {sz by_ k k' tx:Nat} {xs ys:List (List AV)} (hg:gd ops s o=some true) (hop:o.op = .call ⟨.builtin .append,#[.tmp tx,y],#[t,t]⟩) (hd:o.dst=some k') (he:dZ P t=some (e,sz,by_))
 (hx:lk .any s.t tx = .rslice k) (hrow:lk .gone s.h k = .row e sz xs) (hy:s.op y = .dslice ys∨(s.op y = .eslice∧ys=[])) (hE:EL sz ys) (hb:(xs.length+ys.length)*by_≤140737488355328) (h63:xs.length+ys.length≤9223372036854775807)
 (hk:(Nat.blt k' s.n&&Nat.blt k' 1000 && !Nat.beq k k' && !Nat.beq tx k')=true) :
 Loc P ops o s ⟨[(k',.rslice k'),(tx,.any)],[(k',.row e sz (xs++ys)),(k,.gone)],[k'],[(k,tx)]⟩:=by
 intro s' ha hf ho;have hfk:=hf k' (by simp);have hok:=ho (k,tx) (by simp);simp only [KJ,Bool.not_eq_true'] at hk;obtain ⟨⟨hk1,hk2⟩,hk3⟩:=hk;have hkk:k≠k':=fun e=>by rw [e,Nat.beq_refl] at hk2;cases hk2
 have htk:tx≠k':=fun e=>by rw [e,Nat.beq_refl] at hk3;cases hk3
 have hxo:Operand.tmp tx∈o.op.operands:=by rw [hop];simp [Op.operands,Call.operands]
 have hx':s'.op (.tmp tx) = .rslice k:=by rw [bg ha hxo];exact hx
 have hrow':lk .gone s'.h k = .row e sz xs:=by rw [ha.h (by rw [hop];rfl) _ hxo k (by show AV.men k (lk .any s.t tx)=true;rw [hx];simp [AV.men])];exact hrow
 have hy':s'.op y = .dslice ys∨(s'.op y = .eslice∧ys=[]):=by rw [bg ha (by rw [hop];simp [Op.operands,Call.operands])];exact hy
 have hgr:s'.grow k k' e sz (xs++ys)=some ⟨s'.n,ins k' (.rslice k') (s'.drop2 k k').t,ins k' (.row e sz (xs++ys)) (s'.drop2 k k').h⟩:=by unfold AS.grow;rw [ha.n,hk1.1,hk1.2];rfl
 refine (sF (by rw [bO ha];exact hg) hop hd he (.inr ⟨hx',hrow'⟩) hy' hE hb h63 hgr).mono fun s'' e1 => ?_;subst e1;refine ⟨rfl,fun i => ?_,fun i => ?_⟩
 ·show lk .any (ins k' (.rslice k') (gq k (gq k' s'.t))) i=lk .any (jY [(k',.rslice k'),(tx,.any)] s'.t) i;rw [aD,cT,cq,cq,AV.pg_free (hfk.1 i)];simp only [gz];by_cases e:i=k'
  ·subst e;simp
  ·rw [if_neg e,bN e];by_cases e2:i=tx
   ·subst e2;have hx2:lk .any s'.t i = .rslice k:=hx';simp [hx2,AV.pg,AV.men]
   ·rw [bN e2,AV.pg_free (hok.1 i e2)];rfl
 ·show lk .gone (ins k' (.row e sz (xs++ys)) (rm k (dm k (dm k' s'.h)))) i=lk .gone (jY [(k',.row e sz (xs++ys)),(k,.gone)] s'.h) i;rw [aD,cT,ja,cu,cu,AO.pg_free (hfk.2 i),AO.pg_free (hok.2 i)];simp only [gz];by_cases e:i=k'
  ·subst e;simp
  ·rw [if_neg e,bN e];by_cases e2:i=k
   ·subst e2;simp
   ·rw [if_neg e2,bN e2];rfl
def Kx:AV→Option (List (List AV))
 | .dslice ys=>some ys
 | .eslice=>some []
 | _=>none
theorem Bu {v:AV} {ys:List (List AV)} (h:Kx v=some ys):v = .dslice ys∨(v = .eslice∧ys=[]):=by
 unfold Kx at h;split at h
 ·cases h;exact .inl rfl
 ·cases h;exact .inr ⟨rfl,rfl⟩
 ·cases h
def Fb (P:Program) (s:AS) (dst:Option Tmp) (zs:List (List AV)):Op→Option (List Prop×cJ)
 | .call ⟨.builtin .append,ar,tys⟩=>match ar.toList,tys.toList,dst with
  | [x,y],[t,t'],some k'=>bif Nat.beq t t' then (match dZ P t,s.op x,Kx (s.op y) with
   | some (e,sz,by_),.eslice,some ys=>bif Nat.blt k' s.n&&Nat.blt k' 1000 then some ([EL sz ys,(0+ys.length)*by_≤140737488355328,0+ys.length≤9223372036854775807,ys=zs],⟨[(k',.rslice k')],[(k',.row e sz zs)],[k'],[]⟩) else none
   | some (e,sz,by_),.rslice k,some ys=>(match x,lk .gone s.h k with
    | .tmp tx,.row e2 sz2 xs=>bif Nat.beq e e2&&Nat.beq sz sz2&&(Nat.blt k' s.n&&Nat.blt k' 1000 && !Nat.beq k k' && !Nat.beq tx k') then some ([EL sz ys,(xs.length+ys.length)*by_≤140737488355328,xs.length+ys.length≤9223372036854775807,xs++ys=zs],⟨[(k',.rslice k'),(tx,.any)],[(k',.row e sz zs),(k,.gone)],[k'],[(k,tx)]⟩) else none
    | _,_=>none)
   | _,_,_=>none) else none
  | _,_,_=>none
 | .buildSlice t len ps=>match dst,dZ P t,cL P t len (s.parts ps) with
  | some k',some (e,sz,_),some (.dslice xs)=>bif Nat.blt k' s.n&&Nat.blt k' 1000 then some ([xs=zs],⟨[(k',.rslice k')],[(k',.row e sz zs)],[k'],[]⟩) else none
  | _,_,_=>none
 | _=>none
theorem zu {zs:List (List AV)} {ps:List Prop} {e:cJ} (hg:gd ops s o=some true) (h:Fb P s o.dst zs o.op=some (ps,e)) (hp:∀ p∈ps,p):Loc P ops o s e:=by
 unfold Fb at h;split at h
 ·rename_i ar tys hop;split at h
  ·rename_i x y t t' k' har hty hd;cases ht:Nat.beq t t' with
   | false=>rw [ht] at h;cases h
   | true =>
    rw [ht] at h;have ht:=bP.1 ht;subst ht;have e1:ar = #[x,y]:=by rw [← Array.toList_inj];exact har
    have e2:tys = #[t,t]:=by rw [← Array.toList_inj];exact hty
    subst e1;subst e2;simp only [cond_true] at h;split at h
    ·rename_i e3 sz by_ ys he hx hy;cases hk:(Nat.blt k' s.n&&Nat.blt k' 1000) with
     | false=>rw [hk] at h;cases h
     | true =>
      rw [hk] at h;simp only [cond_true,KR,Prod.mk.injEq] at h;obtain ⟨rfl,rfl⟩:=h;have h1:=hp (EL sz ys) (by simp);have h2:=hp ((0+ys.length)*by_≤140737488355328) (by simp);have h3:=hp (0+ys.length≤9223372036854775807) (by simp);have h4:=hp (ys=zs) (by simp);subst h4;exact Hi hg hop hd he hx (Bu hy) h1 h2 h3 hk
    ·rename_i e3 sz by_ k ys he hx hy;split at h
     ·rename_i tx e4 sz4 xs hrow;cases hk:(Nat.beq e3 e4&&Nat.beq sz sz4&&(Nat.blt k' s.n&&Nat.blt k' 1000 && !Nat.beq k k' && !Nat.beq tx k')) with
      | false=>rw [hk] at h;cases h
      | true =>
       rw [hk] at h;simp only [cond_true,KR,Prod.mk.injEq] at h;obtain ⟨rfl,rfl⟩:=h;rw [KJ,KJ] at hk;have q1:=bP.1 hk.1.1;have q2:=bP.1 hk.1.2;subst q1;subst q2;have h1:=hp (EL sz ys) (by simp);have h2:=hp ((xs.length+ys.length)*by_≤140737488355328) (by simp);have h3:=hp (xs.length+ys.length≤9223372036854775807) (by simp);have h4:=hp (xs++ys=zs) (by simp);subst h4;exact Iz hg hop hd he hx hrow (Bu hy) h1 h2 h3 hk.2
     ·cases h
    ·cases h
  ·cases h
 ·rename_i t len ps hop;split at h
  ·rename_i k' e2 sz by_ xs hd he hv;cases hk:(Nat.blt k' s.n&&Nat.blt k' 1000) with
   | false=>rw [hk] at h;cases h
   | true =>
    rw [hk] at h;simp only [cond_true,KR,Prod.mk.injEq] at h;obtain ⟨rfl,rfl⟩:=h;have h1:=hp (xs=zs) (by simp);subst h1;exact x9 hg hop hd he hv hk
  ·cases h
 ·cases h
def FY (P:Program) (s:AS) (dst:Option Tmp):Op→Option cJ
 | .box t x=>match dst,fS (s.op x) with
  | some k,some cs=>bif Nat.blt k s.n&&Nat.blt k 1000 && !AV.men k (s.op x) then some ⟨[(k,.hptr k 0)],[(k,.cells t cs)],[k],[]⟩ else none
  | _,_=>none
 | .alloc t=>match dst,zeroOf P t with
  | some k,some z=>match fS (AV.of z) with
   | some cs=>bif Nat.blt k s.n&&Nat.blt k 1000 && !AV.men k (AV.of z) then some ⟨[(k,.hptr k 0)],[(k,.cells t cs)],[k],[]⟩ else none
   | none=>none
  | _,_=>none
 | .store t x y=>match dst with
  | none=>match s.op x,fS (s.op y),kQ P t with
   | .hptr k off,some vs,some n=>match lk .gone s.h k with
    | .cells e cs=>bif decide (vs.length=n∧off+vs.length≤cs.length∧vs.all AV.one=true) then some ⟨[],[(k,.cells e (dY cs off vs))],[],[]⟩ else none
    | _=>none
   | _,_,_=>none
  | some _=>none
 | _=>none
theorem sl {α:Type} {b:Bool} {x y:α} (h:(bif b then some x else none)=some y):b=true∧x=y:=by
 cases b with
 | true=>exact ⟨rfl,KT h⟩
 | false=>cases h
theorem Aj {e:cJ} (hg:gd ops s o=some true) (h:FY P s o.dst o.op=some e):Loc P ops o s e:=by
 unfold FY at h;split at h
 ·rename_i t x hop;split at h
  ·rename_i k cs hd hcs;obtain ⟨hk,rfl⟩:=sl h;refine CN hcs hk fun s' ha s2 hb => ?_;have hx:s'.op x=s.op x:=bg ha (by rw [hop];simp [Op.operands]);exact Ff (by rw [bO ha];exact hg) hop hd (by rw [hx];exact hb)
  ·cases h
 ·rename_i t hop;split at h
  ·rename_i k z hd hz;split at h
   ·rename_i cs hcs;obtain ⟨hk,rfl⟩:=sl h;exact CN hcs hk fun s' ha s2 hb=>z7 (by rw [bO ha];exact hg) hop hd hz hb
   ·cases h
  ·cases h
 ·rename_i t x y hop;split at h
  ·rename_i hd;split at h
   ·rename_i k off vs n hx hvs hn;split at h
    ·rename_i e2 cs hk;obtain ⟨hc,rfl⟩:=sl h;have hc:=KM hc;intro s' ha _ _;have hxo:x∈o.op.operands:=by rw [hop];simp [Op.operands]
     have hyo:y∈o.op.operands:=by rw [hop];simp [Op.operands]
     have hx':s'.op x = .hptr k off:=by rw [bg ha hxo];exact hx
     have hy':s'.op y=s.op y:=bg ha hyo;have hk':lk .gone s'.h k = .cells e2 cs:=by rw [ha.h (by rw [hop];rfl) x hxo k (by rw [hx];simp [AV.men])];exact hk
     have hst:se P s' t (s'.op x) (s'.op y)=some ⟨s'.n,s'.t,ins k (.cells e2 (dY cs off vs)) s'.h⟩:=by unfold se;rw [hx',hy',hvs,hn];simp only [hk'];rw [if_pos hc]
     refine (A5 (by rw [bO ha];exact hg) hop hd hst).mono fun s'' e => ?_;subst e;exact ⟨rfl,fun _=>rfl,fun i=>rfl⟩
    ·cases h
   ·cases h
  ·cases h
 ·cases h
end
section
variable {P:Program} {ops:Array Oper} {o:Oper} {s:AS}
def bk (qs:List (Nat×Nat)) (h':List (Nat×AO)):List (Nat×Nat)→List (Nat×AO)→List (Nat×AO)
 | [],h=>h
 | (k,j)::ps,h=>ins k (AO.ren qs (lk .gone h' j)) (bk qs h' ps h)
theorem CW {qs:List (Nat×Nat)} {h' h:List (Nat×AO)}:∀ {ps:List (Nat×Nat)} (k:Nat),lk .gone (bk qs h' ps h) k=match rk ps k with | some j=>AO.ren qs (lk .gone h' j) | none=>lk .gone h k
 | [],k=>rfl
 | (k0,j0)::ps,k=>by
  simp only [bk,aD,rk];by_cases e:k=k0
  ·subst e;simp
  ·rw [if_neg e,bN e];exact CW k
def iX (ps:List (Nat×Nat)) (d:Nat) (h' h:List (Nat×AO)):List (Nat×AO) :=
 ins d (AO.ren ((0,d)::swp ps) (lk .gone h' 0)) (bk ((0,d)::swp ps) h' ps (dm d h))
theorem AZ {f:FuncId} (he:Go.Proofs.Enters P f) {x:Operand} {ar:Array Operand} {tys:Array TypeId} (hg:gd ops s o=some true) (hop:o.op = .call ⟨.value x,ar,tys⟩) {args0:List AV}
 (hx:∀ (c:Cx P) a w β κ,Rel c s a w β κ→∃ vs:Array Value,(execOp a.eval o).run P w = .ok (.enter f vs) w∧vs.size=args0.length∧∀ i,i<args0.length→G w (c.XX s.h β) β κ (args0.getD i .any) (vs.toList.getD i undef))
 (ps:List (Nat×Nat)) (d:Nat) (hps:(lC ps&&(ps.all fun p=>Nat.ble 1000 p.2&&(Nat.blt p.2 1000000&&Nat.blt p.1 1000000))&&(rk ps d).isNone&&Nat.blt d 1000)=true) {Post:AV→List (Nat×AO)→Prop} (hnoR:s.noR=true∨(ps=[]∧∀ v h',Post v h'→(lk .gone h' 0).isR=false)) {args:List AV} (hargs:args0.map (AV.ren ps)=args) {h0:List (Nat×AO)} (hh:hand ps s.h=h0) (hc:bD P f args h0 Post) {N:AS→Prop}
 (hN:∀ v h',Post v h'→∃ s',AS.put ⟨s.n,gq d s.t,iX ps d h' s.h⟩ o.dst (AV.ren ((0,d)::swp ps) v)=some s'∧N s'):iP P ops o s N:=fun c a w β κ r K Q hK=>by
 subst hargs;subst hh;simp only [KJ] at hps;obtain ⟨⟨⟨hinj,hlv⟩,hnd⟩,hd⟩:=hps;rw [Nat.blt_eq] at hd;have hnd:rk ps d=none:=by simpa using hnd
 have hchk:∀ {k j},rk ps k=some j→1000≤j∧j<1000000∧k<1000000:=fun h=>by have:=KU.1 hlv _ (mj h);simp only [KJ,Nat.ble_eq,Nat.blt_eq] at this;exact this
 rw [fM r hg];simp only [if_true];obtain ⟨vs,hrun,a1,a2⟩:=hx c a w β κ r;unfold Oper.wp;rw [hrun];let τ:Nat→Nat→Prop:=fun n n'=>(rk ps n=some n'∧n<1000000)∨∃ k j i,rk ps k=some j∧i<1000000∧n=gk k i∧n'=gk j i
 let H:Nat→Prop:=fun b=>∃ n n',τ n n'∧lv s.h n∧β n=b
 let βc:Nat→Nat:=tO (fun j=>match rk (swp ps) j with | some k=>β k | none=>0) (fun j i=>match rk (swp ps) j with | some k=>β (gk k i) | none=>0)
 let κc:Nat→Nat×Nat:=tO (fun j=>match rk (swp ps) j with | some k=>κ k | none=>(0,0)) (fun j i=>match rk (swp ps) j with | some k=>κ (gk k i) | none=>(0,0))
 have hβ:∀ k j,rk ps k=some j→βc j=β k∧κc j=κ k:=by intro k j h;have h2:=(bL hinj).2 h;have h3:=(hchk h).2.1;exact ⟨by simp only [βc,eI h3,h2],by simp only [κc,eI h3,h2]⟩
 have hβv:∀ k j,rk ps k=some j→∀ i,i<1000000→βc (gk j i)=β (gk k i)∧κc (gk j i)=κ (gk k i):=by intro k j h i hi;have h2:=(bL hinj).2 h;exact ⟨by simp only [βc,dq hi,h2],by simp only [κc,dq hi,h2]⟩
 have hβτ:∀ n n',τ n n'→βc n'=β n:=by
  rintro n n' (⟨h,_⟩ | ⟨k,j,i,h,hi,rfl,rfl⟩)
  ·exact (hβ _ _ h).1
  ·exact (hβv _ _ h i hi).1
 have hτi:∀ {n n1 n2},τ n n1→τ n n2→n1=n2:=by
  rintro n n1 n2 (⟨h,h'⟩ | ⟨k,j,i,h,hi,rfl,rfl⟩) (⟨g,g'⟩ | ⟨k2,j2,i2,g,hi2,e,rfl⟩)
  ·rw [h] at g;exact KT g
  ·have:=cD k2 i2;omega
  ·have:=cD k i;omega
  ·obtain ⟨rfl,rfl⟩:=dH hi hi2 e;rw [h] at g;rw [KT g]
 have hsz:∀ b,c.XX s.h β b→b<w.heap.size:=by
  rintro b (h | ⟨k,h1,rfl⟩)
  ·exact Nat.lt_of_lt_of_le (c.hX b h) r.hp.kp.size
  ·exact r.hp.lt h1
 have hKH:∀ b,c.K b→¬ H b:=by rintro b hb ⟨n,n',_,h2,rfl⟩;exact r.hp.nk n h2 hb
 have hXH:∀ b,c.X b→¬ H b:=by rintro b hb ⟨n,n',_,h2,rfl⟩;exact r.hp.nx n h2 hb
 let c':Cx P:=⟨fun b=>b<w.heap.size∧¬ H b,fun b=>c.XX s.h β b∧¬ H b,w,βc,κc,fun _ h=>h.1,fun b h=>hsz b h.1,fun w' hk=>c.gp w' (r.hp.kp.trans hk fun b hb=>⟨r.Klt b hb,hKH b hb⟩)⟩
 have hlk:∀ j,lk .gone (hand ps s.h) j=match rk (swp ps) j with | some k=>AO.ren ps (lk .gone s.h k) | none=>.gone:=fun j=>qK hinj j
 have hlvh:∀ n',lv (hand ps s.h) n'→∃ n,τ n n'∧lv s.h n:=by
  rintro n' (h1 | ⟨m,i,rfl,h1⟩)
  ·rw [hlk] at h1;cases e:rk (swp ps) n' with
   | none=>rw [e] at h1;exact h1.elim
   | some k =>
    rw [e] at h1;have e2:=(bL hinj).1 e;exact ⟨k,.inl ⟨e2,(hchk e2).2.2⟩,.inl (iZ.1 h1)⟩
  ·rw [hlk] at h1;cases e:rk (swp ps) m with
   | none=>rw [e] at h1;exact h1.elim
   | some k =>
    rw [e] at h1;have e2:=(bL hinj).1 e;exact ⟨gk k i,.inr ⟨k,m,i,e2,(AO.inn_isR h1).1,rfl,rfl⟩,bo (nC.1 h1)⟩
 have hown:∀ b,own (hand ps s.h) βc b→H b:=by rintro b ⟨n',h1,h2⟩;obtain ⟨n,h3,h4⟩:=hlvh n' h1;exact ⟨n,n',h3,h4,by rw [← h2];exact (hβτ n n' h3).symm⟩
 have hHX:∀ b,H b→c.XX s.h β b:=by rintro b ⟨n,n',_,h1,rfl⟩;exact .inr ⟨n,h1,rfl⟩
 have hXin:∀ b,¬ c.XX s.h β b→b<w.heap.size→¬ c'.XX (hand ps s.h) βc b:=by
  rintro b hb _ (h | h)
  ·exact hb h.1
  ·exact hb (hHX b (hown b h))
 have hrel:eB c' (hand ps s.h) c'.W c'.β c'.κ:=by
  refine ⟨fun j => ?_,fun i j hi hj e => ?_,cE.refl _ _,fun j hj => ?_,fun j hj => ?_,fun _ _ _=>⟨rfl,rfl⟩,fun j hj => ?_⟩
  ·rw [hlk];cases e:rk (swp ps) j with
   | none=>trivial
   | some k =>
    have e2:=(bL hinj).1 e;exact (r.hp.ob k).ren (X':=c'.XX (hand ps s.h) βc) hβ hXin (hβ _ _ e2) (fun i hi _=>hβv _ _ e2 i hi)
  ·obtain ⟨n1,h1,h2⟩:=hlvh i hi;obtain ⟨n2,h3,h4⟩:=hlvh j hj;have e3:β n1=β n2:=by rw [← hβτ n1 i h1,← hβτ n2 j h3];exact e
   have:=r.hp.inj n1 n2 h2 h4 e3;subst this;exact hτi h1 h3
  ·exact fun h=>h.2 (hown _ ⟨j,hj,rfl⟩)
  ·exact fun h=>h.2 (hown _ ⟨j,hj,rfl⟩)
  ·have hj:lk .gone (hand ps s.h) j ≠ .gone:=hj;rw [hlk] at hj;cases e:rk (swp ps) j with
   | none=>rw [e] at hj;exact absurd rfl hj
   | some k=>exact (hchk ((bL hinj).1 e)).2.1
 have hcall:=hc c' vs.toList (by simp [a1]) hrel (fun i hi=>by have e:(args0.map (AV.ren ps)).getD i .any=AV.ren ps (args0.getD i .any):=getD_map (AV.ren ps) _ i .any .any rfl;rw [e];exact (a2 i (by simpa using hi)).ren hβ hXin)
 simp only [Array.toArray_toList] at hcall;refine hcall.mono fun e w' ⟨V,v,h',β',κ',e1,hp,hr',hG⟩ => ?_;subst e1;obtain ⟨s',h2,h3⟩:=hN v h' hp;have r1:=r.pg d;have hd6:d<1000000:=by omega
 let β2:Nat→Nat:=tO (fun k=>if k=d then β' 0 else β k) (fun k i=>if k=d∧(lk .gone h' 0).isR=true then β' (gk 0 i) else match rk ps k with | some j=>β' (gk j i) | none=>β (gk k i))
 let κ2:Nat→Nat×Nat:=tO (fun k=>if k=d then κ' 0 else κ k) (fun k i=>if k=d∧(lk .gone h' 0).isR=true then κ' (gk 0 i) else match rk ps k with | some j=>κ' (gk j i) | none=>κ (gk k i))
 have b2d:β2 d=β' 0∧κ2 d=κ' 0:=⟨by simp only [β2,eI hd6,if_pos],by simp only [κ2,eI hd6,if_pos]⟩;have b2dv:∀ i,i<1000000→(lk .gone h' 0).isR=true→β2 (gk d i)=β' (gk 0 i)∧κ2 (gk d i)=κ' (gk 0 i):=fun i hi hz=>⟨by simp [β2,dq hi,hz],by simp [κ2,dq hi,hz]⟩;have b2n:∀ k,k<1000000→k≠d→β2 k=β k∧κ2 k=κ k:=fun k hk h=>⟨by simp only [β2,eI hk,if_neg h],by simp only [κ2,eI hk,if_neg h]⟩;have hne:∀ {k j},rk ps k=some j→k≠d:=fun h e=>by rw [e,hnd] at h;cases h
 have b2v:∀ k i,i<1000000→k≠d→rk ps k=none→β2 (gk k i)=β (gk k i)∧κ2 (gk k i)=κ (gk k i):=fun k i hi h h4=>⟨by simp only [β2,dq hi,if_neg (show ¬ (k=d∧(lk .gone h' 0).isR=true) from fun e=>h e.1),h4],by simp only [κ2,dq hi,if_neg (show ¬ (k=d∧(lk .gone h' 0).isR=true) from fun e=>h e.1),h4]⟩;have b2h:∀ k j i,i<1000000→rk ps k=some j→β2 (gk k i)=β' (gk j i)∧κ2 (gk k i)=κ' (gk j i):=fun k j i hi h=>⟨by simp only [β2,dq hi,if_neg (show ¬ (k=d∧(lk .gone h' 0).isR=true) from fun e=>hne h e.1),h],by simp only [κ2,dq hi,if_neg (show ¬ (k=d∧(lk .gone h' 0).isR=true) from fun e=>hne h e.1),h]⟩;have hfix:∀ k j,rk ps k=some j→β2 k=β' j∧κ2 k=κ' j:=fun k j h=>by obtain ⟨f1,f2⟩:=hr'.fix j (hchk h).1 (hchk h).2.1;rw [(b2n k (hchk h).2.2 (hne h)).1,(b2n k (hchk h).2.2 (hne h)).2];exact ⟨by rw [f1];exact (hβ k j h).1.symm,by rw [f2];exact (hβ k j h).2.symm⟩
 have hfq:∀ j k,rk ((0,d)::swp ps) j=some k→β2 k=β' j∧κ2 k=κ' j:=fun j k h=>by
  simp only [rk] at h;by_cases e:j=0
  ·subst e;simp only [Nat.beq_refl,cond_true,KR] at h;subst h;exact b2d
  ·rw [bN e] at h;exact hfix k j ((bL hinj).1 h)
 have hb:∀ k,lk .gone (iX ps d h' s.h) k=if k=d then AO.ren ((0,d)::swp ps) (lk .gone h' 0) else match rk ps k with | some j=>AO.ren ((0,d)::swp ps) (lk .gone h' j) | none=>AO.pg d (lk .gone s.h k):=fun k=>by unfold iX;rw [aD,CW,cu]
 have hnH:∀ n,lv s.h n→(∀ n',¬ τ n n')→¬ H (β n):=by rintro n hn hk ⟨n2,n2',h1,h4,h5⟩;have:=r.hp.inj n2 n h4 hn h5;subst this;exact hk _ h1
 have hnkj:∀ j,lv h' j→¬ c.K (β' j):=fun j hj hk=>hr'.nk j hj ⟨r.Klt _ hk,hKH _ hk⟩;have hnxj:∀ j,lv h' j→¬ c.X (β' j):=fun j hj hk=>hr'.nx j hj ⟨.inl hk,hXH _ hk⟩;have hin:∀ j,lv h' j→β' j<w.heap.size→H (β' j):=fun j hj hlt=>Classical.byContradiction fun hn=>hr'.nk j hj ⟨hlt,hn⟩;let ζ0:Nat→Nat:=fun j=>if j=0 then d else (rk (swp ps) j).getD 0
 let ζ:Nat→Nat:=tO ζ0 (fun j i=>gk (ζ0 j) i)
 have hζd:ζ0 0=d:=if_pos rfl;have hζp:∀ {k j},rk ps k=some j→ζ0 j=k:=fun {k j} h=>by have h1:=(bL hinj).2 h;have h2:=(hchk h).1;simp only [ζ0,if_neg (show j≠0 by omega),h1];rfl
 have hcase:∀ n,lv (iX ps d h' s.h) n→(∃ j,lv h' j∧β2 n=β' j∧n=ζ j)∨(lv s.h n∧β2 n=β n∧¬ H (β n)):=by
  rintro n (hk | ⟨m,i,rfl,hk⟩)
  ·rw [hb] at hk;by_cases e:n=d
   ·rw [if_pos e] at hk;exact .inl ⟨0,.inl (iZ.1 hk),by rw [e];exact b2d.1,by rw [e];show d=tO ζ0 _ 0;rw [eI (by decide),hζd]⟩
   ·rw [if_neg e] at hk;cases e2:rk ps n with
    | none =>
     rw [e2] at hk;have hk:(lk .gone s.h n).live:=by simpa [AO.live_pg] using hk
     have hn6:=r.hp.sm n hk;refine .inr ⟨.inl hk,(b2n n hn6 e).1,hnH n (.inl hk) ?_⟩;rintro n' (⟨g,_⟩ | ⟨k,j,i,_,_,rfl,_⟩)
     ·rw [e2] at g;cases g
     ·have:=cD k i;omega
    | some j =>
     rw [e2] at hk;refine .inl ⟨j,.inl (iZ.1 hk),(hfix n j e2).1,?_⟩;show n=tO ζ0 _ j;rw [eI (hchk e2).2.1,hζp e2]
  ·rw [hb] at hk;by_cases e:m=d
   ·rw [if_pos e] at hk;have hk:=nC.1 hk;have hi:=(AO.inn_isR hk).1;refine .inl ⟨gk 0 i,bo hk,by rw [e];exact (b2dv i hi (AO.inn_isR hk).2).1,?_⟩;show gk m i=tO ζ0 _ (gk 0 i);rw [dq hi,hζd,e]
   ·rw [if_neg e] at hk;cases e2:rk ps m with
    | none =>
     rw [e2] at hk;have hk:(lk .gone s.h m).inn i:=by simpa only [AO.inn_pg] using hk
     have hi:=(AO.inn_isR hk).1;refine .inr ⟨bo hk,(b2v m i hi e e2).1,hnH _ (bo hk) ?_⟩;rintro n' (⟨_,g⟩ | ⟨k,j,i',g,hi',e3,_⟩)
     ·have:=cD m i;omega
     ·obtain ⟨rfl,rfl⟩:=dH hi hi' e3;rw [e2] at g;cases g
    | some j =>
     rw [e2] at hk;have hk:=nC.1 hk;have hi:=(AO.inn_isR hk).1;refine .inl ⟨gk j i,bo hk,(b2h m j i hi e2).1,?_⟩;show gk m i=tO ζ0 _ (gk j i);rw [dq hi,hζp e2]
 have hA:∀ b,¬ c.XX s.h β b→b<w.heap.size→¬ c.XX (iX ps d h' s.h) β2 b:=by
  rintro b hb1 hlt (h | ⟨k,hk,rfl⟩)
  ·exact hb1 (.inl h)
  ·rcases hcase k hk with ⟨j,hj,e,_⟩ | ⟨hkl,e,_⟩
   ·rw [e] at hb1 hlt;exact hb1 (hHX _ (hin j hj hlt))
   ·rw [e] at hb1;exact hb1 (.inr ⟨k,hkl,rfl⟩)
 have hB:∀ b,¬ c'.XX h' β' b→b<w'.heap.size→¬ c.XX (iX ps d h' s.h) β2 b:=by
  rintro b hb1 _ (h | ⟨k,hk,rfl⟩)
  ·exact hb1 (.inl ⟨.inl h,hXH _ h⟩)
  ·rcases hcase k hk with ⟨j,hj,e,_⟩ | ⟨hkl,e,e2⟩
   ·rw [e] at hb1;exact hb1 (.inr ⟨j,hj,rfl⟩)
   ·rw [e] at hb1;exact hb1 (.inl ⟨.inr ⟨k,hkl,rfl⟩,e2⟩)
 have hC:∀ b,¬ c.XX s.h β b→b<w.heap.size→w'.heap[b]? = w.heap[b]? := fun b hb1 hlt=>hr'.kp.block b ⟨hlt,fun h=>hb1 (hHX b h)⟩;have hXX1:c.XX (dm d s.h) β=c.XX s.h β:=by funext b;simp only [Cx.XX,tS]
 have hSK:∀ j,j≠d→j<1000000→rk ps j=none→SK β β2 κ κ2 j:=fun j h1 h2 h3=>⟨(b2n j h2 h1).1,(b2n j h2 h1).2,fun i hi=>b2v j i hi h1 h3⟩;have hSK2:ps=[]→(lk .gone h' 0).isR=false→∀ j,j≠d→SK β β2 κ κ2 j:=by
  intro hp0 hz;have key:∀ n,n≠d→β2 n=β n∧κ2 n=κ n:=by
   intro n hn;by_cases h6:n<1000000
   ·exact b2n n h6 hn
   ·have e0:gk (n / 1000000-1) (n % 1000000)=n:=by unfold gk;omega
    have hz2:∀ k,¬ (k=d∧(lk .gone h' 0).isR=true):=fun k h=>by rw [hz] at h;cases h.2
    constructor
    ·simp only [β2,tO,if_neg h6,if_neg (hz2 _),hp0,rk,e0]
    ·simp only [κ2,tO,if_neg h6,if_neg (hz2 _),hp0,rk,e0]
  exact fun j hj=>⟨(key j hj).1,(key j hj).2,fun i _=>key _ (by have:=cD j i;omega)⟩
 have r2:Rel c ⟨s.n,gq d s.t,iX ps d h' s.h⟩ a w' β2 κ2:=by
  refine ⟨r.df,r.sz,fun i => ?_,⟨fun k => ?_,fun i j hi hj e => ?_,r.hp.kp.trans hr'.kp fun b hb1=>⟨r.Klt b hb1,hKH b hb1⟩,fun k hk => ?_,fun k hk => ?_,fun k hk hk6 => ?_,fun k hk => ?_⟩⟩
  ·show G w' (c.XX (iX ps d h' s.h) β2) β2 κ2 (lk .any (gq d s.t) i) _;rw [cq];rcases hnoR with hnoR | ⟨hp0,hz⟩;case inr=>exact ((r.tm i).pg d).mono hC hA (fun j hj=>hSK2 hp0 (hz v h' hp) j (fun e=>by rw [e,AV.men_pg] at hj;cases hj))
   have hR:=AV.hasR_pg (k:=d) (AS.noR_t hnoR i);exact ((r.tm i).pg d).mono2 hC hA hR (fun j hj=>b2n j (men_lt hR hj) (fun e=>by rw [e,AV.men_pg] at hj;cases hj))
  ·show HO w' (c.XX (iX ps d h' s.h) β2) β2 κ2 k (lk .gone (iX ps d h' s.h) k);rw [hb];by_cases e:k=d
   ·rw [if_pos e,e];exact (hr'.ob 0).ren (X':=c.XX (iX ps d h' s.h) β2) hfq hB b2d (fun i hi hz=>b2dv i hi hz)
   ·rw [if_neg e];cases e2:rk ps k with
    | none =>
     by_cases hg0:lk .gone s.h k = .gone
     ·rw [hg0];trivial
     ·have hk6:=r.hp.sg k hg0;have hmono:((AO.pg d (lk .gone s.h k)).live→w'.heap[β k]? = w.heap[β k]?)→(∀ i,(AO.pg d (lk .gone s.h k)).inn i→w'.heap[β (gk k i)]? = w.heap[β (gk k i)]?)→HO w' (c.XX (iX ps d h' s.h) β2) β2 κ2 k (AO.pg d (lk .gone s.h k)):=fun q1 q2=>by
       rcases hnoR with hnoR | ⟨hp0,hz⟩
       ·have hR:=AO.hasR_pg (k:=d) (AS.noR_h hnoR k);exact ((r.hp.ob k).pg (j:=d)).mono2 hC hA hR (fun j hj=>b2n j (AO.men_lt hR hj) (fun e=>by rw [e,AO.men_pg] at hj;cases hj)) (hSK k e hk6 e2) q1 q2
       ·exact ((r.hp.ob k).pg (j:=d)).mono hC hA (fun j hj=>hSK2 hp0 (hz v h' hp) j (fun e=>by rw [e,AO.men_pg] at hj;cases hj)) (hSK k e hk6 e2) q1 q2
      refine hmono (fun hkl => ?_) (fun i hkl => ?_)
      ·have hkl:(lk .gone s.h k).live:=by simpa [AO.live_pg] using hkl
       refine hr'.kp.block _ ⟨r.hp.lt (.inl hkl),hnH k (.inl hkl) ?_⟩;rintro n' (⟨g,_⟩ | ⟨m,j,i,_,_,rfl,_⟩)
       ·rw [e2] at g;cases g
       ·have:=cD m i;omega
      ·have hkl:(lk .gone s.h k).inn i:=by simpa only [AO.inn_pg] using hkl
       have hi:=(AO.inn_isR hkl).1;refine hr'.kp.block _ ⟨r.hp.lt (bo hkl),hnH _ (bo hkl) ?_⟩;rintro n' (⟨_,g⟩ | ⟨m,j,i',g,hi',e3,_⟩)
       ·have:=cD k i;omega
       ·obtain ⟨rfl,rfl⟩:=dH hi hi' e3;rw [e2] at g;cases g
    | some j=>exact (hr'.ob j).ren (X':=c.XX (iX ps d h' s.h) β2) hfq hB (hfix k j e2) (fun i hi _=>b2h k j i hi e2)
  ·rcases hcase i hi with ⟨ji,hji,ei,ci⟩ | ⟨li,ei,ni⟩<;>rcases hcase j hj with ⟨jj,hjj,ej,cj⟩ | ⟨lj,ej,nj⟩
   ·have e3:ji=jj:=hr'.inj ji jj hji hjj (by rw [← ei,← ej];exact e);rw [ci,cj,e3]
   ·have e3:β' ji=β j:=by rw [← ei,← ej];exact e
    exact absurd (hin ji hji (by rw [e3];exact r.hp.lt lj)) (by rw [e3];exact nj)
   ·have e3:β' jj=β i:=by rw [← ej,← ei];exact e.symm
    exact absurd (hin jj hjj (by rw [e3];exact r.hp.lt li)) (by rw [e3];exact ni)
   ·exact r.hp.inj i j li lj (by rw [← ei,← ej];exact e)
  ·rcases hcase k hk with ⟨j,hj,e,_⟩ | ⟨hkl,e,_⟩
   ·rw [e];exact hnkj j hj
   ·rw [e];exact r.hp.nk k hkl
  ·rcases hcase k hk with ⟨j,hj,e,_⟩ | ⟨hkl,e,_⟩
   ·rw [e];exact hnxj j hj
   ·rw [e];exact r.hp.nx k hkl
  ·have e:k≠d:=by omega
   rw [(b2n k hk6 e).1,(b2n k hk6 e).2];exact r.hp.fix k hk hk6
  ·have hk:lk .gone (iX ps d h' s.h) k ≠ .gone:=hk;rw [hb] at hk;by_cases e:k=d
   ·omega
   ·rw [if_neg e] at hk;cases e2:rk ps k with
    | none=>rw [e2] at hk;exact r.hp.sg k (fun e3=>hk (by rw [e3];rfl))
    | some j=>exact (hchk e2).2.2
 exact hK s' _ w' β2 κ2 h3 (bu r2 (hG.ren hfq hB) h2)
theorem yT {f:FuncId} (he:Go.Proofs.Enters P f) {x:Operand} {ar:Array Operand} {tys:Array TypeId} (hop:o.op = .call ⟨.value x,ar,tys⟩) {caps:List AV} (hx:s.op x = .fn f caps) :
 ∀ (c:Cx P) a w β κ,Rel c s a w β κ→∃ vs:Array Value,(execOp a.eval o).run P w = .ok (.enter f vs) w∧vs.size=(s.args ar caps).length∧∀ i,i<(s.args ar caps).length→G w (c.XX s.h β) β κ ((s.args ar caps).getD i .any) (vs.toList.getD i undef):=fun c a w β κ r=>by
 have hX:=r.op x;rw [hx] at hX;obtain ⟨Vs,eV,hl,hgs⟩:=hX.fn_inv;obtain ⟨a1,a2⟩:=mF r ar hl hgs;exact ⟨_,ve he hop eV,a1,a2⟩
theorem C0 {f:FuncId} (he:Go.Proofs.Enters P f) {x:Operand} {ar:Array Operand} {tys:Array TypeId} (hop:o.op = .call ⟨.value x,ar,tys⟩) {k off:Nat} (hx:s.op x = .bm f k off) :
 ∀ (c:Cx P) a w β κ,Rel c s a w β κ→∃ vs:Array Value,(execOp a.eval o).run P w = .ok (.enter f vs) w∧vs.size=(AV.hptr k off::s.args ar []).length∧∀ i,i<(AV.hptr k off::s.args ar []).length→G w (c.XX s.h β) β κ ((AV.hptr k off::s.args ar []).getD i .any) (vs.toList.getD i undef):=fun c a w β κ r=>by
 have hX:=r.op x;rw [hx] at hX;obtain ⟨a1,a2⟩:=mF (caps:=[]) (Vs := #[]) r ar rfl (fun i hi=>by simp at hi);refine ⟨#[.pointer (some ⟨β k,off,none⟩)]++(ar.map a.eval ++ #[]),?_,by simp [← a1];omega,fun i hi => ?_⟩
 ·simp only [execOp,hop,resolve,hX.bm_inv,Deferred.ofValue,pure_bind,invoke,Array.append_empty];exact he _ w
 ·cases i with
  | zero =>
   have:(#[Value.pointer (some ⟨β k,off,none⟩)]++(ar.map a.eval ++ #[])).toList.getD 0 undef = .pointer (some ⟨β k,off,none⟩):=by simp
   rw [this];exact .hptr k off
  | succ i =>
   have:=a2 i (by simpa using hi);simpa using this
theorem Dl (ps:List (Nat×Nat)) {v:AV} (h:AV.fl v=true):AV.ren1 ps v=v:=by
 unfold AV.ren1;split
 ·cases h
 ·cases h
 ·cases h
 ·cases h
 ·cases h
 ·rw [h];rfl
theorem kV (ps:List (Nat×Nat)):∀ {cs:List AV},AV.flL cs=true→cs.map (AV.ren1 ps)=cs
 | [],_=>rfl
 | c::cs,h=>by simp only [AV.flL,KJ] at h;rw [List.map_cons,Dl ps h.1,kV ps h.2]
theorem Jj (ps:List (Nat×Nat)) {v:AV} (h:AV.fl v=true):AV.ren ps v=v:=by
 unfold AV.ren;split
 ·rw [kV ps (by simpa [AV.fl] using h)]
 ·rw [kV ps (by simpa [AV.fl] using h)]
 ·rw [kV ps (by simpa [AV.fl] using h)]
 ·exact Dl ps h
theorem vS (ps:List (Nat×Nat)):∀ {cs:List AV},AV.flL cs=true→cs.map (AV.ren ps)=cs
 | [],_=>rfl
 | c::cs,h=>by simp only [AV.flL,KJ] at h;rw [List.map_cons,Jj ps h.1,vS ps h.2]
theorem Es {f:FuncId} (he:Go.Proofs.Enters P f) {x:Operand} {ar:Array Operand} {tys:Array TypeId} (hg:gd ops s o=some true) (hop:o.op = .call ⟨.value x,ar,tys⟩) {caps:List AV} (hx:s.op x = .fn f caps) (hfl:AV.flL (s.args ar caps)=true)
 {k:Nat} (hd:o.dst=some k) (hk:(Nat.blt k s.n&&Nat.blt k 1000)=true) {v:AV} {h1:List (Nat×AO)} (hz:(lk .gone h1 0).isR=false) (hc:bD P f (s.args ar caps) [] fun r h=>r=v∧h=h1) :
 Loc P ops o s ⟨[(k,AV.ren [(0,k)] v)],[(k,AO.ren [(0,k)] (lk .gone h1 0))],[k],[]⟩:=by
 intro s' ha hf _;have hfk:=hf k (by simp);simp only [KJ] at hk;have hxx:s'.op x=s.op x:=bg ha (by simp [hop,Op.operands,Call.operands]);have har:∀ y∈ar,s'.op y=s.op y:=fun y hy=>bg ha (by simp [hop,Op.operands,Call.operands,hy]);have e1:s'.args ar caps=s.args ar caps:=by unfold AS.args;rw [List.map_congr_left (fun y hy=>har y (by simpa using hy))]
 have hput:AS.put ⟨s'.n,gq k s'.t,iX [] k h1 s'.h⟩ o.dst (AV.ren ((0,k)::swp []) v)=some ⟨s'.n,ins k (AV.ren [(0,k)] v) (gq k s'.t),iX [] k h1 s'.h⟩:=by rw [hd];simp only [AS.put,ha.n,hk.1,cond_true];rfl
 refine (AZ (args:=s.args ar caps) (h0:=[]) he (by rw [bO ha];exact hg) hop (yT he hop (by rw [hxx];exact hx)) [] k (by simpa [lC,rk] using hk.2) (.inr ⟨rfl,fun v2 h2 e2=>by rw [e2.2];exact hz⟩) (by rw [e1];exact vS [] hfl) rfl hc (N:=fun s''=>iM (cJ.app ⟨[(k,AV.ren [(0,k)] v)],[(k,AO.ren [(0,k)] (lk .gone h1 0))],[k],[]⟩ s') s'') fun r h' hr => ?_);obtain ⟨rfl,rfl⟩:=hr;refine ⟨_,hput,rfl,fun i => ?_,fun i => ?_⟩
 ·show lk .any (ins k _ (gq k s'.t)) i=lk .any (jY [(k,_)] s'.t) i;rw [aD,cT,cq,AV.pg_free (hfk.1 i)];simp only [gz];by_cases e:i=k
  ·subst e;simp
  ·rw [if_neg e,bN e];rfl
 ·show lk .gone (ins k _ (dm k s'.h)) i=lk .gone (jY [(k,_)] s'.h) i;rw [aD,cT,cu,AO.pg_free (hfk.2 i)];simp only [gz];by_cases e:i=k
  ·subst e;simp [swp]
  ·rw [if_neg e,bN e];rfl
end
section
variable {P:Program} {ops:Array Oper} {o:Oper} {s:AS}
theorem G.gslice_inv {w:World} {X:Nat→Prop} {β:Nat→Nat} {κ:Nat→Nat×Nat} {k:Nat} {V:Value} (h:G w X β κ (.gslice k) V):V = .slice (some ⟨β k,0,none⟩) 0 (κ k).1:=by
 cases h with
 | d h=>cases h
 | gslice k=>rfl
theorem Bw {x y:Operand} {t e:TypeId} {sz by_ k:Nat} (hg:gd ops s o=some true) (hop:o.op = .call ⟨.builtin .append,#[x,y],#[t,t]⟩) (he:dZ P t=some (e,sz,by_))
 (hx:s.op x = .gslice k) (hy:s.op y = .dslice []) {s':AS} (h:s.put o.dst (.gslice k)=some s'):iP P ops o s (· = s') :=
 b6 hg fun c a w β κ r=>by obtain ⟨hu,i,z,hi,hz,rfl,rfl,hzs,hsz⟩:=fB he;have hX:=r.op x;have hY:=r.op y;rw [hx] at hX;rw [hy] at hY;have eX:=hX.gslice_inv;obtain ⟨hd,ad2,cap2,eY,_⟩:=hY.dslice_inv;have hrun:=kW (P:=P) (w:=w) hu hi (some ⟨β k,0,none⟩) 0 (κ k).1 (Nat.zero_le _) ad2 cap2 o.type;refine ⟨_,w,β,κ,.inl ?_,bu r (.gslice k) h⟩;have e0:a.eval y = .slice ad2 0 cap2:=eY;simp only [execOp,hop,resolve,invoke,builtin,Sem.run_bind,Sem.run_pure,Result.andThen_ok,List.map_toArray,List.map_cons,List.map_nil,eX,e0,hrun]
theorem Ca {x y:Operand} {t e:TypeId} {sz by_ k k':Nat} {ys:List (List AV)} (hg:gd ops s o=some true) (hop:o.op = .call ⟨.builtin .append,#[x,y],#[t,t]⟩) (hd:o.dst=some k') (he:dZ P t=some (e,sz,by_))
 (hx:s.op x = .gslice k) (hk:lk .gone s.h k = .room e sz) (hy:s.op y = .dslice ys) (hys:ys≠[])
 (hE:EL sz ys) (hb:ys.length*by_≤140737488355328) (h63:ys.length≤9223372036854775807) {s':AS} (h:s.grow k k' e sz ys=some s'):iP P ops o s (· = s') :=
 b6 hg fun c a w β κ r=>by
  obtain ⟨hu,i,z,hi,hz,rfl,rfl,hzs,hsz⟩:=fB he;have hX:=r.op x;have hY:=r.op y;rw [hx] at hX;rw [hy] at hY;have eX:=hX.gslice_inv;obtain ⟨eYd,ad2,cap2,eY,_⟩:=hY.dslice_inv;have hexec:∀ {V V' w'},a.eval x=V'→(Builtin.append_ #[t,t] o.type #[V',a.eval y]).run P w = .ok V w'→(execOp a.eval o).run P w = .ok (.value V) w':=by intro V V' w' e1 hr;simp only [execOp,hop,resolve,invoke,builtin,Sem.run_bind,Sem.run_pure,Result.andThen_ok,List.map_toArray,List.map_cons,List.map_nil,e1,hr]
  have hEl:∀ j,j<ys.length→(ys.getD j []).length=i.size:=by intro j hj;exact (hE _ (by rw [KH,KI hj];exact List.getElem_mem hj)).1
  have hlive:(lk .gone s.h k).live:=by rw [hk];trivial
  have ho:=r.hp.ob k;rw [hk] at ho;obtain ⟨cur,q1,q2,q4,q5⟩:=ho;obtain ⟨bd,cap,news,e1,n1,n2,n3,n4⟩:=qR eYd hE hys;have hm:0<ys.length:=by cases ys with | nil=>exact absurd rfl hys | cons _ _=>simp
  have hij:∀ i' j,i'<ys.length→j<i.size→i'*i.size+j<news.length:=by intro i' j hi' hj;rw [n1];have:(i'+1)*i.size≤ys.length*i.size:=Nat.mul_le_mul_right _ hi';rw [Nat.add_mul] at this;omega
  by_cases hroom:ys.length≤(κ k).1
  ·have hfit:0*i.size+news.length≤cur.size:=by rw [n1,q2,Nat.zero_mul,Nat.zero_add];exact Nat.mul_le_mul_right _ hroom
   let arr:Array Value:=(cur.toList.take (0*i.size)++news++cur.toList.drop (0*i.size+news.length)).toArray
   have hrun:(Builtin.append_ #[t,t] o.type #[.slice (some ⟨β k,0,none⟩) 0 (κ k).1,a.eval y]).run P w = .ok (.slice (some ⟨β k,0,none⟩) (0+ys.length) (κ k).1) (w.setRow (β k) arr):=by rw [e1];exact run_append_room (P:=P) w t o.type e i hu hi (β k) 0 (κ k).1 cur q1 bd ys.length cap news n1 n2 n3 (by omega) hfit
   have hasz:arr.size=(κ k).1*i.size:=by rw [← q2];simp [arr];omega
   obtain ⟨β',κ',r'⟩:=uT (w':=w.setRow (β k) arr) r h hlive arr hys hsz (fun j hj=>bl _ _ _ hj) ⟨rfl,rfl,rfl,by simp,fun b hb=>bl _ _ _ hb⟩ (eF w _ cur e arr q1) hEl hasz hroom q4 (fun i' j hi' hj=>by rw [← dw];simp only [arr,Nat.zero_mul,List.take_zero,List.nil_append];rw [dh (hij i' j hi' hj)];exact n4 _ j hi' hj)
   refine ⟨_,_,β',κ',.inl (hexec eX hrun),?_⟩;rw [hd,Nat.zero_add];exact r'
  ·let C:=grownCap w (0+ys.length) (κ k).1 e
   have hC:0+ys.length≤C:=grownCap_ge w _ _ _;have hCm:C≤maxLen:=grownCap_le_maxLen w _ _ _ (by unfold maxLen;omega);let arr:Array Value:=(([]:List Value).toArray++news.toArray)++Builtin.zeroCells z.cells (C-(0+ys.length))
   have hrun:(Builtin.append_ #[t,t] o.type #[.slice (some ⟨β k,0,none⟩) 0 (κ k).1,a.eval y]).run P w = .ok (.slice (some ⟨w.heap.size,0,none⟩) (0+ys.length) C) (w.drew.alloc (.cells arr e)):=by rw [e1];exact run_append_grow (P:=P) w t o.type e i z hu hi hz ⟨β k,0,none⟩ 0 (κ k).1 [] (by simp) (fun j v hv=>by simp at hv) bd ys.length cap news n1 n2 (by omega) (by omega) (growslice_fits (by omega) (by simpa using hb))
   have hasz:arr.size=C*i.size:=by simp only [arr,Array.size_append,List.size_toArray,List.length_nil,size_zeroCells,n1,hzs,Nat.zero_add,← Nat.add_mul];congr 1;omega
   obtain ⟨β',κ',r'⟩:=zm r h arr C hys hsz hEl hasz (by omega) hCm (fun i' j hi' hj=>by
    have e2:arr.getD (i'*i.size+j) undef=news.getD (i'*i.size+j) undef:=by have:=hij i' j hi' hj;simp [arr,KK,Array.getElem?_append,this,KH]
    rw [e2];exact n4 i' j hi' hj)
   refine ⟨_,_,β',κ',.inl (hexec eX hrun),?_⟩;rw [hd,show 0+ys.length=ys.length from Nat.zero_add _];simpa using r'
end
abbrev jx:=List (List UInt8×Option (List (List AV)))
abbrev bQ:List UInt8×Option (List (List AV)):=([],none)
def rC (x:List UInt8):jx→List (List AV)
 | []=>[]
 | (k,r)::es=>if k=x then r.getD [] else rC x es
def cM (x:List UInt8):jx→jx
 | []=>[]
 | (k,r)::es=>if k=x then (k,none)::es else (k,r)::cM x es
def eR (x:List UInt8) (v:List (List AV)):jx→jx
 | []=>[(x,some v)]
 | (k,r)::es=>if k=x then (x,some v)::es else (k,r)::eR x v es
def Ha (x:List UInt8):jx→Bool
 | []=>true
 | (k,r)::es=>if k=x then r.isSome else Ha x es
theorem po (x:List UInt8):∀ es:jx,(cM x es).length=es.length
 | []=>rfl
 | (k,r)::es=>by
  unfold cM;split
  ·rfl
  ·simp [po x es]
theorem vH (x:List UInt8):∀ es:jx,(cM x es).map (·.1)=es.map (·.1)
 | []=>rfl
 | (k,r)::es=>by
  unfold cM;split
  ·rfl
  ·simp [vH x es]
theorem vT (x:List UInt8):∀ (es:jx) (i:Nat),((cM x es).getD i bQ).1=(es.getD i bQ).1∧((es.getD i bQ).1≠x→(cM x es).getD i bQ=es.getD i bQ)∧((cM x es).getD i bQ=es.getD i bQ∨((cM x es).getD i bQ).2=none)
 | [],i=>by simp [cM]
 | (k,r)::es,i=>by
  unfold cM;by_cases h:k=x
  ·rw [if_pos h];cases i with
   | zero=>exact ⟨rfl,fun h2=>absurd h h2,.inr rfl⟩
   | succ i=>exact ⟨rfl,fun _=>rfl,.inl rfl⟩
  ·rw [if_neg h];cases i with
   | zero=>exact ⟨rfl,fun _=>rfl,.inl rfl⟩
   | succ i =>
    have:=vT x es i;simpa using this
theorem Gs {x:List UInt8}:∀ {es:jx} {j:Nat},(es.map (·.1)).Nodup→j<es.length→(es.getD j bQ).1=x→Ha x es=true→∃ xs,(es.getD j bQ).2=some xs∧rC x es=xs∧((cM x es).getD j bQ).2=none
 | [],j,_,h,_,_=>by simp at h
 | (k,r)::es,0,_,_,h,hok=>by
  have h:k=x:=h;simp only [Ha,if_pos h] at hok;obtain ⟨xs,rfl⟩:=Option.isSome_iff_exists.1 hok;subst h;exact ⟨xs,rfl,by simp [rC],by simp [cM]⟩
 | (k,r)::es,j+1,hn,hj,h,hok=>by
  rw [List.map_cons,List.nodup_cons] at hn;have hj':j<es.length:=by simpa using hj
  have h:(es.getD j bQ).1=x:=by simpa using h
  have hne:k≠x:=by rintro rfl;refine hn.1 (List.mem_map.2 ⟨es.getD j bQ,?_,h⟩);rw [KH,KI hj'];exact List.getElem_mem hj'
  simp only [Ha,if_neg hne] at hok;obtain ⟨xs,h1,h2,h3⟩:=Gs hn.2 hj' h hok;exact ⟨xs,by simpa using h1,by simp only [rC,if_neg hne];exact h2,by simp only [cM,if_neg hne];simpa using h3⟩
theorem G7 {x:List UInt8}:∀ {es:jx},(∀ i,i<es.length→(es.getD i bQ).1≠x)→rC x es=[]∧cM x es=es∧∀ v,eR x v es=es++[(x,some v)]
 | [],_=>⟨rfl,rfl,fun _=>rfl⟩
 | (k,r)::es,h=>by
  have h0:k≠x:=by simpa using h 0 (by simp)
  obtain ⟨h1,h2,h3⟩:=G7 (es:=es) fun i hi=>by simpa using h (i+1) (by simpa using hi)
  exact ⟨by simp only [rC,if_neg h0];exact h1,by simp only [cM,if_neg h0,h2],fun v=>by simp only [eR,if_neg h0,h3 v,List.cons_append]⟩
section
variable {P:Program} {ops:Array Oper} {o:Oper} {s:AS} {c:Cx P} {a:Act} {w:World} {β:Nat→Nat} {κ:Nat→Nat×Nat}
theorem Gb {e:TypeId} {sz:Nat} {es es':jx} (he:∀ i,es'.getD i bQ=es.getD i bQ∨(es'.getD i bQ).2=none) {i:Nat} (h:(AO.rmap e sz es').inn i):(AO.rmap e sz es).inn i:=by
 obtain ⟨h1,h2,y,ys,h3⟩:=h;have hg:es'.getD i bQ=es.getD i bQ:=(he i).resolve_right fun h=>by rw [h] at h3;cases h3
 refine ⟨h1,?_,y,ys,by rw [← hg];exact h3⟩;apply Classical.byContradiction;intro hn;rw [hg,KH,List.getElem?_eq_none (by omega)] at h3;cases h3
theorem Rel.weak (r:Rel c s a w β κ) {k:Nat} {e:TypeId} {sz:Nat} {es es':jx} (hk:lk .gone s.h k = .rmap e sz es) (hl:es'.length=es.length) (hkeys:es'.map (·.1)=es.map (·.1))
 (he1:∀ i,(es'.getD i bQ).1=(es.getD i bQ).1) (he:∀ i,es'.getD i bQ=es.getD i bQ∨(es'.getD i bQ).2=none) :
 Rel c ⟨s.n,s.t,ins k (.rmap e sz es') s.h⟩ a w β κ∧(∀ n,lv (ins k (.rmap e sz es') s.h) n→lv s.h n)∧(∀ j,j<1000000→(es'.getD j bQ).2=none→∀ n,lv (ins k (.rmap e sz es') s.h) n→n≠gk k j) ∧
 ∀ X':Nat→Prop,(∀ b,¬ c.XX s.h β b→b<w.heap.size→¬ X' b)→∀ n,HO w X' β κ n (lk .gone (ins k (.rmap e sz es') s.h) n):=by
 have hlive:(lk .gone s.h k).live:=by rw [hk];trivial
 have hlv:∀ n,lv (ins k (.rmap e sz es') s.h) n→lv s.h n:=by
  rintro n (h | ⟨m,i,rfl,h⟩)
  ·rw [aD] at h;by_cases ej:n=k
   ·rw [ej];exact .inl hlive
   ·rw [if_neg ej] at h;exact .inl h
  ·rw [aD] at h;by_cases ej:m=k
   ·rw [if_pos ej] at h;refine bo ?_;rw [ej,hk];exact Gb he h
   ·rw [if_neg ej] at h;exact bo h
 have hX:∀ b,¬ c.XX s.h β b→b<w.heap.size→¬ c.XX (ins k (.rmap e sz es') s.h) β b:=by
  rintro b hb _ (h | ⟨n,h1,h2⟩)
  ·exact hb (.inl h)
  ·exact hb (.inr ⟨n,hlv n h1,h2⟩)
 have hHO:∀ X':Nat→Prop,(∀ b,¬ c.XX s.h β b→b<w.heap.size→¬ X' b)→∀ n,HO w X' β κ n (lk .gone (ins k (.rmap e sz es') s.h) n):=by
  intro X' hX j;rw [aD];by_cases ej:j=k
  ·rw [if_pos ej,ej];have ho:=r.hp.ob k;rw [hk] at ho;obtain ⟨ents,clock,h1,h2,h3,h4,h5,h6⟩:=ho;refine ⟨ents,clock,h1,by omega,by omega,fun i hi => ?_,h5,by rw [hkeys];exact h6⟩;obtain ⟨a1,a2,a3⟩:=h4 i hi;refine ⟨by rw [he1 i];exact a1,a2,?_⟩;rcases he i with h | h
   ·rw [h];generalize (es.getD i ([],none)).2=o at a3 ⊢;match o,a3 with
    | none,_=>trivial
    | some [],h5=>exact h5
    | some (x::xs),h5=>exact ⟨h5.1,h5.2.1,h5.2.2.mono (fun _ _ _=>rfl) hX rfl⟩
   ·rw [h];trivial
  ·rw [if_neg ej];exact (r.hp.ob j).mono (fun _ _ _=>rfl) hX (fun _ _=>.refl) .refl (fun _=>rfl) (fun _ _=>rfl)
 refine ⟨⟨r.df,r.sz,fun i=>(r.tm i).mono (fun _ _ _=>rfl) hX (fun _ _=>.refl),⟨hHO _ hX,fun i j hi hj e=>r.hp.inj i j (hlv i hi) (hlv j hj) e,r.hp.kp,fun j hj=>r.hp.nk j (hlv j hj),fun j hj=>r.hp.nx j (hlv j hj),r.hp.fix,fun j hj => ?_⟩⟩,hlv,fun j hj6 hj n hn => ?_,hHO⟩
 ·have hj:lk .gone (ins k (.rmap e sz es') s.h) j ≠ .gone:=hj;rw [aD] at hj;by_cases ej:j=k
  ·rw [ej];exact r.hp.sm k hlive
  ·rw [if_neg ej] at hj;exact r.hp.sg j hj
 ·rintro rfl;rcases hn with h | ⟨m,i,e1,h⟩
  ·rw [aD] at h;by_cases ej:gk k j=k
   ·have:=cD k j;have:=r.hp.sm k hlive;omega
   ·rw [if_neg ej] at h;have:=r.hp.sm _ h;have:=cD k j;omega
  ·rw [aD] at h;by_cases ej:m=k
   ·rw [if_pos ej] at h;have hi:=(AO.inn_isR h).1;obtain ⟨_,rfl⟩:=dH hj6 hi e1;obtain ⟨_,_,y,ys,h3⟩:=h;rw [hj] at h3;cases h3
   ·rw [if_neg ej] at h;exact ej (dH hj6 (AO.inn_isR h).1 e1).1.symm
def AS.take (s:AS) (k q:Nat) (e:TypeId) (sz:Nat) (zs:List (List AV)) (es':jx):AS :=
 ⟨s.n,ins q (.rslice q) (gq q s.t),ins q (.row e sz zs) (dm q (ins k (.rmap e sz es') s.h))⟩
theorem Rel.take_in (r:Rel c s a w β κ) {k q j:Nat} {e:TypeId} {sz:Nat} {es es':jx} {zs:List (List AV)} {V:Value} (hq:q<s.n∧q<1000) (hk:lk .gone s.h k = .rmap e sz es) (hl:es'.length=es.length) (hkeys:es'.map (·.1)=es.map (·.1))
 (he1:∀ i,(es'.getD i bQ).1=(es.getD i bQ).1) (he:∀ i,es'.getD i bQ=es.getD i bQ∨(es'.getD i bQ).2=none) (hj6:j<1000000) (hjl:j<es.length) (hj:(es.getD j bQ).2=some zs) (hj':(es'.getD j bQ).2=none) (hz:zs≠[])
 (hV:zF w (c.XX s.h β) (β (gk k j)) (κ (gk k j)) e sz V (some zs)):∃ β' κ',Rel c (s.take k q e sz zs es') (a.put (some q) V) w β' κ':=by
 obtain ⟨y,ys,rfl⟩:∃ y ys,zs=y::ys:=by cases zs with | nil=>exact absurd rfl hz | cons y ys=>exact ⟨y,ys,rfl⟩
 obtain ⟨v1,v2,v3⟩:=hV;have hinn:(lk .gone s.h k).inn j:=by rw [hk];exact ⟨hj6,hjl,y,ys,hj⟩
 obtain ⟨r1,w1,w2,w3⟩:=r.weak hk hl hkeys he1 he;have r2:=r1.pg q;have hlvp:∀ n,lv (dm q (ins k (.rmap e sz es') s.h)) n→lv (ins k (.rmap e sz es') s.h) n:=fun n h=>by rw [kC] at h;exact h
 have hXb:c.XX s.h β (β (gk k j)):=.inr ⟨_,bo hinn,rfl⟩;have hsub:∀ b,¬ c.XX s.h β b→b<w.heap.size→¬ (c.XX (dm q (ins k (.rmap e sz es') s.h)) β b∨b=β (gk k j)):=by
  rintro b hb _ ((h | ⟨n,h1,h2⟩) | rfl)
  ·exact hb (.inl h)
  ·exact hb (.inr ⟨n,w1 n (hlvp n h1),h2⟩)
  ·exact hb hXb
 have hXs:∀ b,¬ c.XX s.h β b→b<w.heap.size→¬ c.XX (ins q (.row e sz (y::ys)) (dm q (ins k (.rmap e sz es') s.h))) (upd β q (β (gk k j))) b:=by
  rintro b hb _ (h | ⟨n,h1,h2⟩)
  ·exact hb (.inl h)
  ·rcases ed (o:=.row e sz (y::ys)) (by omega) (fun _ h=>h) h1 with ⟨e1,_⟩ | ⟨e1,h1⟩
   ·subst e1;rw [ak] at h2;exact hb (h2 ▸ hXb)
   ·rw [bh β e1] at h2;exact hb (.inr ⟨n,w1 n (hlvp n h1),h2⟩)
 obtain ⟨g1,g2⟩:=r2.hp.rebind (w':=w) (k':=q) (b:=β (gk k j)) hq.2 (fun j _=>by rw [cu];exact AO.men_pg q _) (κ (gk k j)) (ob:=.row e sz (y::ys))
  (r.hp.nx _ (bo hinn)) (r.hp.nk _ (bo hinn)) (fun n hn e1=>w2 j hj6 hj' n (hlvp n hn) (r.hp.inj n _ (w1 n (hlvp n hn)) (bo hinn) e1)) (fun _ _=>rfl) (cE.refl _ _)
  ⟨by rw [ak];exact v1,fun _=>by obtain ⟨cur,h1,h2,h3,h4,h0,h5,h6⟩:=v3;exact ⟨cur,by rw [ak];exact h1,by rw [ak];exact h2,by rw [ak];exact h3,by rw [ak];exact h4,h0,h5,fun i l hi hl=>(h6 i l hi hl).mono (fun _ _ _=>rfl) hXs⟩⟩
  (fun n=>by rw [cu];exact (w3 _ hsub n).pg)
 refine ⟨_,_,r.df,by simp [Act.put,r.sz,AS.take],fun i => ?_,g1⟩;show G w (c.XX (ins q (.row e sz (y::ys)) (dm q (ins k (.rmap e sz es') s.h))) (upd β q (β (gk k j)))) (upd β q (β (gk k j))) (upd κ q (κ (gk k j))) (lk .any (ins q (.rslice q) (gq q s.t)) i) _;rw [aD];by_cases hi:i=q
 ·subst hi;have hi':i<a.tmps.size:=by rw [r.sz];exact hq.1
  have:=G.rslice (w:=w) (X:=c.XX (ins i (.row e sz (y::ys)) (dm i (ins k (.rmap e sz es') s.h))) (upd β i (β (gk k j)))) (β:=upd β i (β (gk k j))) (κ:=upd κ i (κ (gk k j))) i (by rw [ak,v1];simp);rw [ak,ak,← v2] at this;simpa [Act.put,KK,Array.getElem?_setIfInBounds,hi'] using this
 ·rw [if_neg hi];have g0:G w (fun b=>c.XX (dm q (ins k (.rmap e sz es') s.h)) β b∨b=β (gk k j)) β κ (lk .any (gq q s.t) i) (a.tmps.getD i undef):=by rw [cq];exact ((r.tm i).pg q).mono (fun _ _ _=>rfl) hsub (fun _ _=>.refl)
  have:=g2 g0 (by rw [cq];exact AV.men_pg q _);have hne:¬ q=i:=fun e=>hi e.symm;simpa [Act.put,KK,Array.getElem?_setIfInBounds,hne] using this
theorem Rel.take_empty (r:Rel c s a w β κ) {k q:Nat} {e:TypeId} {sz:Nat} {es es':jx} {ad:Option Addr} (hq:q<s.n∧q<1000) (hk:lk .gone s.h k = .rmap e sz es) (hl:es'.length=es.length) (hkeys:es'.map (·.1)=es.map (·.1))
 (he1:∀ i,(es'.getD i bQ).1=(es.getD i bQ).1) (he:∀ i,es'.getD i bQ=es.getD i bQ∨(es'.getD i bQ).2=none):∃ κ',Rel c (s.take k q e sz [] es') (a.put (some q) (.slice ad 0 0)) w β κ':=by
 obtain ⟨r1,_⟩:=r.weak hk hl hkeys he1 he;have hput:AS.put ⟨s.n,s.t,ins k (.rmap e sz es') s.h⟩ (some q) .eslice=some ⟨s.n,ins q .eslice s.t,ins k (.rmap e sz es') s.h⟩:=by simp only [AS.put,show Nat.blt q s.n=true by simpa [Nat.blt_eq] using hq.1,cond_true]
 have r2:=bu r1 (v:=.eslice) (V:=.slice ad 0 0) (.d (.eslice ad)) hput;have her:AS.erow ⟨s.n,ins q .eslice s.t,ins k (.rmap e sz es') s.h⟩ q q e sz=some ⟨s.n,ins q (.rslice q) (gq q (ins q .eslice s.t)),ins q (.row e sz []) (dm q (ins k (.rmap e sz es') s.h))⟩:=by
  have h0:lk .any (ins q .eslice s.t) q = .eslice:=by rw [aD,if_pos rfl]
  simp only [AS.erow,h0,show Nat.blt q 1000=true by simpa [Nat.blt_eq] using hq.2,cond_true]
 obtain ⟨κ',r3⟩:=r2.erow her;refine ⟨κ',r3.same ⟨rfl,fun i => ?_,fun _=>rfl⟩⟩;show lk .any (ins q (.rslice q) (gq q s.t)) i=lk .any (ins q (.rslice q) (gq q (ins q .eslice s.t))) i;rw [aD,aD,cq,cq,aD];by_cases h:i=q
 ·rw [if_pos h,if_pos h]
 ·rw [if_neg h,if_neg h,if_neg h]
theorem qM {X:Nat→Prop} {k:Nat} {e:TypeId} {sz:Nat} {es:jx} (h:HO w X β κ k (.rmap e sz es)) (x:List UInt8) {kt:TypeId} (hk:P.underlying kt=some .string) :
 ∃ (ents:Array MapEntry) (clock:Nat),w.heap[β k]? = some (.map ents clock)∧ents.size=es.length∧es.length≤1000000 ∧
  (∀ i (h:i<ents.size),ents[i].key = .string ⟨(es.getD i bQ).1.toArray⟩∧ents[i].born<clock∧zF w X (β (gk k i)) (κ (gk k i)) e sz ents[i].val (es.getD i bQ).2) ∧
  (∀ i j (hi:i<ents.size) (hj:j<ents.size),i<j→ents[i].born<ents[j].born)∧((es.map (·.1)).Nodup∧∀ k∈es.map (·.1),k.length≤maxLen) ∧
  (((Instr.findKey kt (.string ⟨x.toArray⟩) ents.toList).run P w = .ok none w∧∀ i,i<es.length→(es.getD i bQ).1≠x) ∨
   ∃ (j:Nat) (hj:j<ents.size),(Instr.findKey kt (.string ⟨x.toArray⟩) ents.toList).run P w = .ok (some (j,ents[j].val)) w∧(es.getD j bQ).1=x):=by
 obtain ⟨ents,clock,h1,h2,hl,h3,h4,h5⟩:=h;have hik:MapKept.IsKey .string (Value.string ⟨x.toArray⟩):=by simp [MapKept.IsKey]
 refine ⟨ents,clock,h1,h2,hl,h3,h4,h5,?_⟩;have hall:∀ e∈ents.toList,MapKept.IsKey .string e.key:=by
  intro e he;obtain ⟨i,hi,rfl⟩:=List.getElem_of_mem he;have hi':i<ents.size:=by simpa using hi
  rw [Array.getElem_toList,(h3 i hi').1];simp [MapKept.IsKey]
 rcases MapKept.findNow_spec hik ents.toList 0 hall with ⟨f1,f2⟩ | ⟨j,e,f1,f2,f3⟩
 ·refine .inl ⟨MapKept.run_findKey hk f1,fun i hi hc => ?_⟩;have hi':i<ents.size:=by omega
  refine f2 ents[i] (by simp) ?_;rw [(h3 i hi').1,hc]
 ·have hj:j<ents.size:=by have:=(KQ.1 f2).1;simpa using this
  have he:ents[j]=e:=by have:=KQ.1 f2;obtain ⟨_,h⟩:=this;rw [← h];simp
  refine .inr ⟨j,hj,?_,?_⟩
  ·have:=MapKept.run_findKey (w:=w) hk f1;rw [he];simpa using this
  ·have:=(h3 j hj).1;rw [he,f3] at this;exact (mk_inj.1 this).symm
theorem zz {t K E:TypeId} {m x:Operand} {k q:Nat} {e:TypeId} {sz:Nat} {es:jx} {y:List UInt8} (hg:gd ops s o=some true) (hop:o.op = .lookup t m x false) (hd:o.dst=some q) (hm:s.op m = .amap k) (hx:s.op x = .str y)
 (hk:lk .gone s.h k = .rmap e sz es) (hu:P.underlying t=some (.map K E)) (hK:P.underlying K=some .string) (hz:zeroOf P E=some (.slice none 0 0)) (hok:Ha y es=true) (hq:q<s.n∧q<1000) :
 iP P ops o s (· = s.take k q e sz (rC y es) (cM y es)) :=
 b6 hg fun c a w β κ r=>by
  have hM:=r.op m;have hX:=r.op x;rw [hm] at hM;rw [hx] at hX;have ho:=r.hp.ob k;rw [hk] at ho;obtain ⟨ents,clock,h1,h2,hl6,h3,h4,h5,h6⟩:=qM (P:=P) ho y hK;have hck:∀ e,(Instr.checkKey e 10000 K (.string ⟨y.toArray⟩)).run P w = .ok () w:=fun e=>MapKept.run_checkKey (k:=.string ⟨y.toArray⟩) hK (by simp [MapKept.IsKey]) e 9999;have hw1:=po y es;have hw2:=vH y es;have hw3:=fun i=>(vT y es i).1;have hw4:=fun i=>(vT y es i).2.2;rw [hd];rcases h6 with ⟨f1,f2⟩ | ⟨j,hj,f1,f2⟩
  ·obtain ⟨κ',r'⟩:=r.take_empty (ad:=none) hq hk hw1 hw2 hw3 hw4;refine ⟨.slice none 0 0,w,β,κ',.inl ?_,?_⟩
   ·simp [execOp,hop,hM.amap_inv,hX.str_inv,Instr.lookup,aQ hu,bC h1,hck,f1,jh hz,Result.andThen]
   ·rw [(G7 f2).1];exact r'
  ·have hrun:(execOp a.eval o).run P w = .ok (.value ents[j].val) w:=by simp [execOp,hop,hM.amap_inv,hX.str_inv,Instr.lookup,aQ hu,bC h1,hck,f1,Result.andThen]
   obtain ⟨xs,g1,g2,g3⟩:=Gs h5.1 (by omega) f2 hok;have hv:=(h3 j hj).2.2;rw [g1] at hv;rw [g2];cases xs with
   | nil =>
    obtain ⟨_,ad,hv2⟩:=hv;obtain ⟨κ',r'⟩:=r.take_empty (ad:=ad) hq hk hw1 hw2 hw3 hw4;exact ⟨_,w,β,κ',.inl hrun,by rw [hv2];exact r'⟩
   | cons z zs =>
    obtain ⟨β',κ',r'⟩:=r.take_in (j:=j) hq hk hw1 hw2 hw3 hw4 (by omega) (by omega) g1 g3 (by simp) hv;exact ⟨_,w,β',κ',.inl hrun,r'⟩
theorem Ef {t K E:TypeId} {m x:Operand} {k q:Nat} {e:TypeId} {sz:Nat} {es es':jx} {zs:List (List AV)} {y:List UInt8} (hg:gd ops s o=some true) (hop:o.op = .lookup t m x false) (hd:o.dst=some q) (hm:s.op m = .amap k) (hx:s.op x = .str y)
 (hk:lk .gone s.h k = .rmap e sz es) (hu:P.underlying t=some (.map K E)) (hK:P.underlying K=some .string) (hz:zeroOf P E=some (.slice none 0 0)) (hok:Ha y es=true) (h1:rC y es=zs) (h2:cM y es=es') (hq:(Nat.blt q s.n&&Nat.blt q 1000)=true) :
 Loc P ops o s ⟨[(q,.rslice q)],[(q,.row e sz zs),(k,.rmap e sz es')],[q],[]⟩:=by
 subst h1;subst h2;intro s' ha hf _;have hfk:=hf q (by simp);simp only [KJ,Nat.blt_eq] at hq;have hmo:m∈o.op.operands:=by rw [hop];simp [Op.operands]
 have hm':s'.op m = .amap k:=by rw [bg ha hmo];exact hm
 have hx':s'.op x = .str y:=by rw [bg ha (by rw [hop];simp [Op.operands])];exact hx
 have hk':lk .gone s'.h k = .rmap e sz es:=by rw [ha.h (by rw [hop];rfl) _ hmo k (by rw [hm];simp [AV.men])];exact hk
 refine (zz (by rw [bO ha];exact hg) hop hd hm' hx' hk' hu hK hz hok ⟨by rw [ha.n];exact hq.1,hq.2⟩).mono fun s'' e1 => ?_;subst e1;have hfh:∀ j,AO.men q (lk .gone (ins k (.rmap e sz (cM y es)) s'.h) j)=false:=fun j=>by
  rw [aD];split
  ·rfl
  ·exact hfk.2 j
 refine ⟨rfl,fun i => ?_,fun i => ?_⟩
 ·show lk .any (ins q (.rslice q) (gq q s'.t)) i=lk .any (jY [(q,.rslice q)] s'.t) i;rw [aD,cT,cq,AV.pg_free (hfk.1 i)];simp only [gz];by_cases e:i=q
  ·subst e;simp
  ·rw [if_neg e,bN e];rfl
 ·show lk .gone (ins q (.row e sz (rC y es)) (dm q (ins k (.rmap e sz (cM y es)) s'.h))) i=lk .gone (jY [(q,.row e sz (rC y es)),(k,.rmap e sz (cM y es))] s'.h) i;rw [aD,cT,cu,AO.pg_free (hfh i)];simp only [gz];by_cases e:i=q
  ·subst e;simp
  ·rw [if_neg e,bN e,aD];simp only [cond_false];by_cases e2:i=k
   ·subst e2;simp
   ·rw [if_neg e2,bN e2];rfl
theorem vD {x:List UInt8} {v:List (List AV)}:∀ {es:jx} {j:Nat},(es.map (·.1)).Nodup→j<es.length→(es.getD j bQ).1=x→eR x v es=es.set j (x,some v)
 | [],j,_,h,_=>by simp at h
 | (k,r)::es,0,_,_,h=>by
  have h:k=x:=h;simp [eR,h]
 | (k,r)::es,j+1,hn,hj,h=>by
  rw [List.map_cons,List.nodup_cons] at hn;have hj':j<es.length:=by simpa using hj
  have h:(es.getD j bQ).1=x:=by simpa using h
  have hne:k≠x:=by rintro rfl;refine hn.1 (List.mem_map.2 ⟨es.getD j bQ,?_,h⟩);rw [KH,KI hj'];exact List.getElem_mem hj'
  simp only [eR,if_neg hne,vD hn.2 hj' h,List.set_cons_succ]
def AS.stow (s:AS) (k q:Nat) (e:TypeId) (sz:Nat) (es':jx):AS:=⟨s.n,gq q s.t,rm q (dm q (ins k (.rmap e sz es') s.h))⟩
theorem Rel.stow (r:Rel c s a w β κ) {k q j:Nat} {e:TypeId} {sz:Nat} {es es2:jx} {zs:List (List AV)} {y:List UInt8} {V:Value} (hq:lk .gone s.h q = .row e sz zs) (hk:lk .gone s.h k = .rmap e sz es) (hnoR:s.noR=true) (hj6:j<1000000) {w':World}
 {ents:Array MapEntry} {clock:Nat} (hw:∀ i,i≠β k→w'.heap[i]? = w.heap[i]?) (hkp:cE (fun i=>i≠β k) w w') (hm:w'.heap[β k]? = some (.map ents clock)) (hs:ents.size=es2.length) (hl6:es2.length≤1000000) (hjl:j<es2.length)
 (hej:es2.getD j bQ=(y,some zs)) (hei:∀ i,i≠j→i<es2.length→i<es.length∧es2.getD i bQ=es.getD i bQ)
 (hents:∀ i (h:i<ents.size),ents[i].key = .string ⟨(es2.getD i bQ).1.toArray⟩∧ents[i].born<clock∧(i=j→ents[i].val=V)∧(i≠j→zF w (c.XX s.h β) (β (gk k i)) (κ (gk k i)) e sz ents[i].val (es.getD i bQ).2))
 (hborn:∀ i j (hi:i<ents.size) (hj:j<ents.size),i<j→ents[i].born<ents[j].born) (hkeys:(es2.map (·.1)).Nodup∧∀ k∈es2.map (·.1),k.length≤maxLen) (hV:G w (c.XX s.h β) β κ (.rslice q) V) :
 Rel c (s.stow k q e sz es2) a w' (upd β (gk k j) (β q)) (upd κ (gk k j) (κ q)):=by
 have hlk:(lk .gone s.h k).live:=by rw [hk];trivial
 have hk6:=r.hp.sm k hlk;have hq6:q<1000000:=r.hp.sg q (by rw [hq];exact fun h=>by cases h);have hkq:k≠q:=fun e1=>by rw [e1,hq] at hk;cases hk
 have hgne:∀ n,n<1000000→n≠gk k j:=fun n hn e1=>by have:=cD k j;omega
 have b2:∀ n,n≠gk k j→upd β (gk k j) (β q) n=β n∧upd κ (gk k j) (κ q) n=κ n:=fun n h=>⟨bh β h,bh κ h⟩;have hlk2:∀ n,lk .gone (s.stow k q e sz es2).h n=if n=q then .gone else if n=k then .rmap e sz es2 else AO.pg q (lk .gone s.h n):=fun n=>by
  show lk .gone (rm q (dm q (ins k (.rmap e sz es2) s.h))) n=_;rw [ja,cu,aD];by_cases h1:n=q
  ·rw [if_pos h1,if_pos h1]
  ·rw [if_neg h1,if_neg h1];by_cases h2:n=k
   ·rw [if_pos h2,if_pos h2];rfl
   ·rw [if_neg h2,if_neg h2]
 have hlv:∀ n,lv (s.stow k q e sz es2).h n→(n=gk k j∧zs≠[])∨(lv s.h n∧n≠q∧n≠gk k j):=by
  rintro n (h | ⟨m,i,rfl,h⟩)
  ·rw [hlk2] at h;by_cases h1:n=q
   ·rw [if_pos h1] at h;exact h.elim
   ·rw [if_neg h1] at h;by_cases h2:n=k
    ·exact .inr ⟨by rw [h2];exact .inl hlk,h1,hgne n (by omega)⟩
    ·rw [if_neg h2,AO.live_pg] at h;exact .inr ⟨.inl h,h1,hgne n (r.hp.sm n h)⟩
  ·rw [hlk2] at h;have hne:gk m i≠q:=by have:=cD m i;omega
   by_cases h1:m=q
   ·rw [if_pos h1] at h;exact h.elim
   ·rw [if_neg h1] at h;by_cases h2:m=k
    ·rw [if_pos h2] at h;obtain ⟨g1,g2,z,zs',g3⟩:=h;by_cases h3:i=j
     ·refine .inl ⟨by rw [h2,h3],?_⟩;rw [h3,hej] at g3;intro e1;rw [e1] at g3;cases g3
     ·obtain ⟨g4,g5⟩:=hei i h3 g2;refine .inr ⟨bo ?_,hne,fun e1=>h3 (dH g1 hj6 e1).2⟩;rw [h2,hk];exact ⟨g1,g4,z,zs',by rw [← g5];exact g3⟩
    ·rw [if_neg h2,AO.inn_pg] at h;exact .inr ⟨bo h,hne,fun e1=>h2 (dH (AO.inn_isR h).1 hj6 e1).1⟩
 have hqlive:zs≠[]→(lk .gone s.h q).live:=fun h=>by rw [hq];exact h
 have hX:∀ b,¬ c.XX s.h β b→b<w.heap.size→¬ c.XX (s.stow k q e sz es2).h (upd β (gk k j) (β q)) b:=by
  rintro b hb _ (h | ⟨n,h1,h2⟩)
  ·exact hb (.inl h)
  ·rcases hlv n h1 with ⟨e1,hz⟩ | ⟨h3,_,h4⟩
   ·rw [e1,ak] at h2;exact hb (.inr ⟨q,.inl (hqlive hz),h2⟩)
   ·rw [(b2 n h4).1] at h2;exact hb (.inr ⟨n,h3,h2⟩)
 have hw2:∀ b,¬ c.XX s.h β b→b<w.heap.size→w'.heap[b]? = w.heap[b]? := fun b hb _=>hw b (fun e1=>hb (.inr ⟨k,.inl hlk,e1.symm⟩));have hmn:∀ {v:AV},AV.hasR v=false→∀ n,AV.men n v=true→upd β (gk k j) (β q) n=β n∧upd κ (gk k j) (κ q) n=κ n:=fun {v} hr n hn=>b2 n (hgne n (men_lt hr hn));refine ⟨r.df,r.sz,fun i => ?_,⟨fun n => ?_,fun n n' hn hn' e1 => ?_,r.hp.kp.trans hkp (fun b hb e1=>r.hp.nk k (.inl hlk) (e1 ▸ hb)),fun n hn => ?_,fun n hn => ?_,fun n hn hn6 => ?_,fun n hn => ?_⟩⟩
 ·show G w' (c.XX (s.stow k q e sz es2).h (upd β (gk k j) (β q))) (upd β (gk k j) (β q)) (upd κ (gk k j) (κ q)) (lk .any (gq q s.t) i) _;rw [cq];have hR:=AV.hasR_pg (k:=q) (AS.noR_t hnoR i);exact ((r.tm i).pg q).mono2 hw2 hX hR (hmn hR)
 ·show HO w' (c.XX (s.stow k q e sz es2).h (upd β (gk k j) (β q))) (upd β (gk k j) (β q)) (upd κ (gk k j) (κ q)) n (lk .gone (s.stow k q e sz es2).h n);rw [hlk2];by_cases h1:n=q
  ·rw [if_pos h1];trivial
  ·rw [if_neg h1];by_cases h2:n=k
   ·rw [if_pos h2,h2];refine ⟨ents,clock,by rw [(b2 k (hgne k hk6)).1];exact hm,hs,hl6,fun i hi => ?_,hborn,hkeys⟩;obtain ⟨a1,a2,a3,a4⟩:=hents i hi;refine ⟨a1,a2,?_⟩;by_cases h3:i=j
    ·have hv:=a3 h3;subst h3;rw [hej,hv,ak,ak];have ho:=r.hp.ob q;rw [hq] at ho;cases zs with
     | nil =>
      rcases hV.rslice_inv with ⟨h0,_⟩ | ⟨h0,ad,e2⟩
      ·rw [ho.1] at h0;simp at h0
      ·exact ⟨h0,ad,e2⟩
     | cons z zs =>
      rcases hV.rslice_inv with ⟨h0,e2⟩ | ⟨h0,_⟩
      ·obtain ⟨cur,q1,q2,q3,q4,q5,q6,q7⟩:=ho.2 (by simp);have hb:w'.heap[β q]? = w.heap[β q]? := hw _ fun e3=>hkq (r.hp.inj k q (.inl hlk) (.inl (hqlive (by simp))) e3.symm);exact ⟨ho.1,e2,xD.mono hw2 hX ⟨cur,q1,q2,q3,q4,q5,q6,q7⟩ hb⟩
      ·rw [ho.1] at h0;simp at h0
    ·obtain ⟨g4,g5⟩:=hei i h3 (by omega);have hne:gk k i≠gk k j:=fun e3=>h3 (dH (by omega) hj6 e3).2;rw [g5,(b2 _ hne).1,(b2 _ hne).2];have a5:=a4 h3;have hin:∀ z zs',(es.getD i bQ).2=some (z::zs')→(lk .gone s.h k).inn i:=fun z zs' h=>by rw [hk];exact ⟨by omega,g4,z,zs',h⟩
     generalize (es.getD i ([],none)).2=o at a5 hin ⊢;match o,a5,hin with
     | none,_,_=>trivial
     | some [],a5,_=>exact a5
     | some (z::zs'),a5,hin=>exact ⟨a5.1,a5.2.1,a5.2.2.mono hw2 hX (hw _ (r.hp.vne hlk (hin z zs' rfl)))⟩
   ·rw [if_neg h2];have hR:=AO.hasR_pg (k:=q) (AS.noR_h hnoR n);by_cases hg0:lk .gone s.h n = .gone
    ·rw [hg0];trivial
    ·have hn6:=r.hp.sg n hg0;refine ((r.hp.ob n).pg (j:=q)).mono2 hw2 hX hR (fun l hl=>b2 l (hgne l (AO.men_lt hR hl))) ⟨(b2 n (hgne n hn6)).1,(b2 n (hgne n hn6)).2,fun i hi=>b2 _ (fun e3=>h2 (dH hi hj6 e3).1)⟩ (fun hl => ?_) (fun i hl => ?_)
     ·rw [AO.live_pg] at hl;exact hw _ fun e3=>h2 (r.hp.inj n k (.inl hl) (.inl hlk) e3)
     ·rw [AO.inn_pg] at hl;exact hw _ (r.hp.vne hlk hl)
 ·rcases hlv n hn with ⟨e2,hz⟩ | ⟨h3,h4,h5⟩<;>rcases hlv n' hn' with ⟨e3,hz'⟩ | ⟨h6,h7,h8⟩
  ·rw [e2,e3]
  ·rw [e2,ak,(b2 n' h8).1] at e1;exact absurd (r.hp.inj q n' (.inl (hqlive hz)) h6 e1).symm h7
  ·rw [e3,ak,(b2 n h5).1] at e1;exact absurd (r.hp.inj n q h3 (.inl (hqlive hz')) e1) h4
  ·rw [(b2 n h5).1,(b2 n' h8).1] at e1;exact r.hp.inj n n' h3 h6 e1
 ·rcases hlv n hn with ⟨e2,hz⟩ | ⟨h3,_,h5⟩
  ·rw [e2,ak];exact r.hp.nk q (.inl (hqlive hz))
  ·rw [(b2 n h5).1];exact r.hp.nk n h3
 ·rcases hlv n hn with ⟨e2,hz⟩ | ⟨h3,_,h5⟩
  ·rw [e2,ak];exact r.hp.nx q (.inl (hqlive hz))
  ·rw [(b2 n h5).1];exact r.hp.nx n h3
 ·rw [(b2 n (hgne n hn6)).1,(b2 n (hgne n hn6)).2];exact r.hp.fix n hn hn6
 ·have hn:lk .gone (s.stow k q e sz es2).h n ≠ .gone:=hn;rw [hlk2] at hn;by_cases h1:n=q
  ·rw [if_pos h1] at hn;exact absurd rfl hn
  ·rw [if_neg h1] at hn;by_cases h2:n=k
   ·rw [h2];exact hk6
   ·rw [if_neg h2] at hn;exact r.hp.sg n (fun e3=>hn (by rw [e3];rfl))
end
section
variable {P:Program} {ops:Array Oper} {o:Oper} {s:AS} {c:Cx P} {a:Act} {w:World} {β:Nat→Nat} {κ:Nat→Nat×Nat}
theorem uD {ents:Array MapEntry} (h:∀ i j (hi:i<ents.size) (hj:j<ents.size),i<j→ents[i].born<ents[j].born):(ents.toList.map (·.born)).Nodup:=by rw [List.nodup_iff_pairwise_ne,List.pairwise_iff_getElem];intro i j hi hj hij;simp only [KP,Array.length_toList] at hi hj;simp only [List.getElem_map,Array.getElem_toList];have:=h i j hi hj hij;omega
theorem FE {E:MapEntry} {kk:Value} (h:E.key=kk):({ key:=kk,val:=E.val,born:=E.born }:MapEntry)=E:=by cases E;cases h;rfl
theorem qn (r:Rel c s a w β κ) {t K E:TypeId} {k q:Nat} {e:TypeId} {sz:Nat} {es:jx} {zs:List (List AV)} {y:List UInt8} {V z:Value} (hq:lk .gone s.h q = .row e sz zs) (hk:lk .gone s.h k = .rmap e sz es) (hnoR:s.noR=true)
 (hu:P.underlying t=some (.map K E)) (hK:P.underlying K=some .string) (hz:zeroOf P E=some z) (hl6:es.length<1000000) (hy:y.length≤maxLen) (hV:G w (c.XX s.h β) β κ (.rslice q) V) :
 ∃ (j:Nat) (ents':Array MapEntry) (clock':Nat),
  (∀ w',(∀ i,i≠β k→w'.heap[i]? = w.heap[i]?)→cE (fun i=>i≠β k) w w'→w'.heap[β k]? = some (.map ents' clock')→Rel c (s.stow k q e sz (eR y zs es)) a w' (upd β (gk k j) (β q)) (upd κ (gk k j) (κ q))) ∧
  (Instr.mapUpdate t (.map (some (β k))) (.string ⟨y.toArray⟩) V).run P w = .ok () { w with heap:=w.heap.setIfInBounds (β k) (.map ents' clock') } ∧
  (∃ o0,w.heap[β k]? = some o0) ∧
  ∃ (v0:Value) (st:Nat) (ents1:Array MapEntry) (clock1:Nat),(Instr.mapEntry t (.map (some (β k))) (.string ⟨y.toArray⟩)).run P w = .ok (.tuple #[v0,goInt st]) { w with heap:=w.heap.setIfInBounds (β k) (.map ents1 clock1) } ∧
   ∀ w1:World,w1.heap[β k]? = some (.map ents1 clock1)→(Instr.entryStore t (.map (some (β k))) (goInt st) V).run P w1 = .ok () { w1 with heap:=w1.heap.setIfInBounds (β k) (.map ents' clock') }:=by
 have ho:=r.hp.ob k;rw [hk] at ho;obtain ⟨ents,clock,h1,h2,hl,h3,h4,h5,h6⟩:=qM (P:=P) ho y hK;have hik:MapKept.IsKey .string (Value.string ⟨y.toArray⟩):=by simp [MapKept.IsKey]
 have hck:∀ e,(Instr.checkKey e 10000 K (.string ⟨y.toArray⟩)).run P w = .ok () w:=fun e=>MapKept.run_checkKey (k:=.string ⟨y.toArray⟩) hK hik e 9999;rcases h6 with ⟨f1,f2⟩ | ⟨j,hj,f1,f2⟩
 ·refine ⟨es.length,ents.push { key:=.string ⟨y.toArray⟩,val:=V,born:=clock },clock+1,fun w' g1 g2 g3 => ?_,?_,⟨_,h1⟩,z,clock,ents.push { key:=.string ⟨y.toArray⟩,val:=z,born:=clock },clock+1,?_,fun w1 hw1 => ?_⟩
  ·rw [(G7 f2).2.2 zs];have hgl:∀ i,i<es.length→(es++[(y,some zs)]).getD i bQ=es.getD i bQ:=fun i hi=>by simp [KH,List.getElem?_append_left hi]
   have hgj:(es++[(y,some zs)]).getD es.length bQ=(y,some zs):=by simp [KH]
   refine r.stow (j:=es.length) (V:=V) (y:=y) hq hk hnoR hl6 g1 g2 g3 (by simp [h2]) (by simp;omega) (by simp) hgj (fun i hi hi2=>⟨by simp at hi2;omega,hgl i (by simp at hi2;omega)⟩) (fun i hi => ?_) (fun i j' hi hj' hlt' => ?_) ?_ hV
   ·by_cases hi2:i<ents.size
    ·rw [Array.getElem_push_lt hi2,hgl i (by omega)];exact ⟨(h3 i hi2).1,by have:=(h3 i hi2).2.1;omega,fun e1=>by omega,fun _=>(h3 i hi2).2.2⟩
    ·have:i=ents.size:=by simp at hi;omega
     subst this;rw [Array.getElem_push_eq];have e0:ents.size=es.length:=h2;refine ⟨?_,by simp,fun _=>rfl,fun e1=>absurd e0 e1⟩;show Value.string ⟨y.toArray⟩=_;rw [e0,hgj]
   ·by_cases hj2:j'<ents.size
    ·rw [Array.getElem_push_lt hj2,Array.getElem_push_lt (by omega:i<ents.size)];exact h4 i j' (by omega) hj2 hlt'
    ·have:j'=ents.size:=by simp at hj';omega
     subst this;rw [Array.getElem_push_eq,Array.getElem_push_lt hlt'];exact (h3 i hlt').2.1
   ·refine ⟨?_,fun u hu1 => ?_⟩
    ·rw [List.map_append,List.nodup_append];refine ⟨h5.1,by simp,fun u hu1 v' hv' => ?_⟩;simp only [List.map_cons,List.map_nil,List.mem_singleton] at hv';subst hv';obtain ⟨p,hp,rfl⟩:=List.mem_map.1 hu1;obtain ⟨i,hi,rfl⟩:=List.getElem_of_mem hp;have:=f2 i hi;simpa [KH,KI hi] using this
    ·rw [List.map_append,List.mem_append] at hu1;rcases hu1 with hu1 | hu1
     ·exact h5.2 u hu1
     ·simp only [List.map_cons,List.map_nil,List.mem_singleton] at hu1;subst hu1;exact hy
  ·simp [Instr.mapUpdate,aQ hu,bC h1,hck,f1,MapKept.run_setObj_map _ h1,Result.andThen]
  ·simp [Instr.mapEntry,aQ hu,bC h1,hck,f1,jh hz,MapKept.run_setObj_map _ h1,Result.andThen]
  ·have hidx:(ents.push { key:=.string ⟨y.toArray⟩,val:=z,born:=clock }).findIdx? (fun e=>((e.born:Nat):Int)==((clock:Nat):Int))=some ents.size:=by
    rw [WideElems.findIdx_arr];refine WideElems.findIdx_born (e0:={ key:=.string ⟨y.toArray⟩,val:=z,born:=clock }) ?_ (by simp);simp only [Array.toList_push,List.map_append,List.map_cons,List.map_nil];refine List.nodup_append.2 ⟨uD h4,by simp,fun a ha c hc e1 => ?_⟩;simp only [List.mem_singleton] at hc;obtain ⟨x,hx,rfl⟩:=List.mem_map.1 ha;obtain ⟨i,hi,rfl⟩:=List.getElem_of_mem hx;have hi':i<ents.size:=by simpa using hi
    have:=(h3 i hi').2.1;rw [Array.getElem_toList] at e1;omega
   have hmod:(ents.push { key:=.string ⟨y.toArray⟩,val:=z,born:=clock }).modify ents.size (fun e=>{ e with val:=V })=ents.push { key:=.string ⟨y.toArray⟩,val:=V,born:=clock }:=by apply Array.ext';rw [Array.toList_modify,Array.toList_push,Array.toList_push,← Array.length_toList,WideElems.modify_last]
   simp [Instr.entryStore,bC hw1,asInt,asIntOf,goInt,hidx,hmod,MapKept.run_setObj_map _ hw1,Result.andThen]
 ·have hjk:ents[j].key = .string ⟨y.toArray⟩:=by rw [(h3 j hj).1,f2]
  refine ⟨j,ents.modify j fun e=>{ e with key:=.string ⟨y.toArray⟩,val:=V },clock,fun w' g1 g2 g3 => ?_,?_,⟨_,h1⟩,ents[j].val,ents[j].born,ents,clock,?_,fun w1 hw1 => ?_⟩
  ·rw [vD h5.1 (by omega) f2];have hgs:∀ i,i<es.length→(es.set j (y,some zs)).getD i bQ=if j=i then (y,some zs) else es.getD i bQ:=by
    intro i hi;simp only [KH,List.getElem?_set];by_cases e:j=i
    ·subst e;simp [hi]
    ·simp [e]
   have hb2:∀ i (hi:i<(ents.modify j fun e=>{ e with key:=.string ⟨y.toArray⟩,val:=V }).size),((ents.modify j fun e=>{ e with key:=.string ⟨y.toArray⟩,val:=V })[i]).born=(ents[i]'(by simpa using hi)).born:=by intro i hi;rw [Array.getElem_modify];split<;>rfl
   refine r.stow (j:=j) (V:=V) (y:=y) hq hk hnoR (by omega) g1 g2 g3 (by simp [h2]) (by simp;omega) (by simp;omega) (by rw [hgs j (by omega),if_pos rfl]) (fun i hi hi2 => ?_) (fun i hi => ?_) (fun i j' hi hj' hlt' => ?_) ?_ hV
   ·have hi3:i<es.length:=by simpa using hi2
    exact ⟨hi3,by rw [hgs i hi3,if_neg (Ne.symm hi)]⟩
   ·have hi2:i<ents.size:=by simpa using hi
    rw [Array.getElem_modify,hgs i (by omega)];by_cases e:j=i
    ·subst e;rw [if_pos rfl,if_pos rfl];exact ⟨rfl,(h3 j hj).2.1,fun _=>rfl,fun h=>absurd rfl h⟩
    ·rw [if_neg e,if_neg e];exact ⟨(h3 i hi2).1,(h3 i hi2).2.1,fun h=>absurd h.symm e,fun _=>(h3 i hi2).2.2⟩
   ·rw [hb2 i hi,hb2 j' hj'];exact h4 i j' _ _ hlt'
   ·have:(es.set j (y,some zs)).map (·.1)=es.map (·.1):=by
     rw [List.map_set];refine List.ext_getElem (by simp) fun n hn1 hn2 => ?_;rw [List.getElem_set];split
     ·rename_i e;subst e;have:j<es.length:=by omega
      simp only [List.getElem_map];rw [← f2];simp [KH,KI this]
     ·rfl
    rw [this];exact h5
  ·simp [Instr.mapUpdate,aQ hu,bC h1,hck,f1,KS hj,hjk,MapKept.run_keyThatStays hik,MapKept.run_setObj_map _ h1,Result.andThen]
  ·have hsame:ents.modify j (fun e=>{ e with key:=.string ⟨y.toArray⟩ })=ents:=by
    refine Array.ext (by simp) fun i hi1 hi2 => ?_;rw [Array.getElem_modify];split
    ·rename_i e;subst e;exact FE hjk
    ·rfl
   simp [Instr.mapEntry,aQ hu,bC h1,hck,f1,KS hj,hjk,MapKept.run_keyThatStays hik,hsame,MapKept.run_setObj_map _ h1,Result.andThen]
  ·have hidx:ents.findIdx? (fun e=>((e.born:Nat):Int)==((ents[j].born:Nat):Int))=some j:=by rw [WideElems.findIdx_arr];exact WideElems.findIdx_born (uD h4) (by simp [hj])
   have hmod:ents.modify j (fun e=>{ e with val:=V })=ents.modify j (fun e'=>{ e' with key:=.string ⟨y.toArray⟩,val:=V }):=by
    refine Array.ext (by simp) fun i hi1 hi2 => ?_;rw [Array.getElem_modify,Array.getElem_modify];split
    ·rename_i e;subst e;exact congrArg (fun x=>({ key:=x,val:=V,born:=ents[j].born }:MapEntry)) hjk
    ·rfl
   simp [Instr.entryStore,bC hw1,asInt,asIntOf,goInt,hidx,hmod,MapKept.run_setObj_map _ hw1,Result.andThen]
end
section
variable {P:Program} {ops:Array Oper} {o:Oper} {s:AS}
theorem sM (w:World) (b:Nat) (o:Obj):cE (fun i=>i≠b) w { w with heap:=w.heap.setIfInBounds b o }:=⟨rfl,rfl,rfl,by simp,fun i hi=>by simp [Array.getElem?_setIfInBounds,Ne.symm hi]⟩
theorem FX {t K E:TypeId} {m x v:Operand} {k q:Nat} {e:TypeId} {sz:Nat} {es:jx} {zs:List (List AV)} {y:List UInt8} {z:Value} (hg:gd ops s o=some true) (hop:o.op = .mapUpdate t m x v) (hd:o.dst=none) (hm:s.op m = .amap k) (hx:s.op x = .str y) (hv:s.op v = .rslice q)
 (hq:lk .gone s.h q = .row e sz zs) (hk:lk .gone s.h k = .rmap e sz es) (hnoR:s.noR=true) (hu:P.underlying t=some (.map K E)) (hK:P.underlying K=some .string) (hz:zeroOf P E=some z) (hl6:es.length<1000000) :
 iP P ops o s (· = s.stow k q e sz (eR y zs es)) :=
 b6 hg fun c a w β κ r=>by
  have hM:=r.op m;have hX:=r.op x;have hV:=r.op v;rw [hm] at hM;rw [hx] at hX;rw [hv] at hV;obtain ⟨j,ents',clock',g1,g2,⟨o0,g3⟩,_⟩:=qn r hq hk hnoR hu hK hz hl6 hX.str_len hV;refine ⟨undef,{ w with heap:=w.heap.setIfInBounds (β k) (.map ents' clock') },upd β (gk k j) (β q),upd κ (gk k j) (κ q),.inr ⟨?_,rfl⟩,?_⟩
  ·simp [execOp,hop,hM.amap_inv,hX.str_inv,g2,Result.andThen]
  ·rw [hd];exact g1 _ (fun i hi=>(MapKept.heap_set g3).2 i hi) (sM w _ _) (MapKept.heap_set g3).1
theorem Ka {t K E:TypeId} {tm tv t1 t2:Nat} {x:Operand} {o1 o2 o3:Oper} {rest:List Oper} {Q:Exit→AS→Prop} {k q:Nat} {e:TypeId} {sz:Nat} {es:jx} {zs:List (List AV)} {y:List UInt8} {z:Value} (hg:gd ops s o1=some true)
 (h1:o1.op = .mapEntry t (.tmp tm) x) (d1:o1.dst=some t1) (h2:o2.op = .extract (.tmp t1) 1) (d2:o2.dst=some t2) (n2:o2.guard=none) (h3:o3.op = .entryStore t (.tmp tm) (.tmp t2) (.tmp tv)) (d3:o3.dst=none) (n3:o3.guard=none)
 (ht:t1<s.n∧t2<s.n∧t1≠t2∧tm≠t1∧tm≠t2∧tv≠t1∧tv≠t2) (hm:lk .any s.t tm = .amap k) (hx:s.op x = .str y) (hv:lk .any s.t tv = .rslice q)
 (hq:lk .gone s.h q = .row e sz zs) (hk:lk .gone s.h k = .rmap e sz es) (hnoR:s.noR=true) (hu:P.underlying t=some (.map K E)) (hK:P.underlying K=some .string) (hz:zeroOf P E=some z) (hl6:es.length<1000000)
 (hr:fR P ops rest Q ⟨s.n,ins t2 .any (ins t1 .any (s.stow k q e sz (eR y zs es)).t),(s.stow k q e sz (eR y zs es)).h⟩):fR P ops (o1::o2::o3::rest) Q s:=fun c a w β κ r=>by
 obtain ⟨q1,q2,q3,q4,q5,q6,q7⟩:=ht;have hM:G w (c.XX s.h β) β κ (.amap k) (a.eval (.tmp tm)):=by have:=r.op (.tmp tm);rwa [show s.op (.tmp tm) = .amap k from hm] at this
 have hX:G w (c.XX s.h β) β κ (.str y) (a.eval x):=by have:=r.op x;rwa [hx] at this
 have hV:G w (c.XX s.h β) β κ (.rslice q) (a.eval (.tmp tv)):=by have:=r.op (.tmp tv);rwa [show s.op (.tmp tv) = .rslice q from hv] at this
 obtain ⟨j,ents',clock',g1,_,⟨o0,g3⟩,v0,st,ents1,clock1,g4,g5⟩:=qn r hq hk hnoR hu hK hz hl6 hX.str_len hV;refine wpList_step fun K1 hK1 => ?_;rw [fM r hg];simp only [if_true];unfold Oper.wp;have e1:(execOp a.eval o1).run P w = .ok (.value (.tuple #[v0,goInt st])) { w with heap:=w.heap.setIfInBounds (β k) (.map ents1 clock1) }:=by simp [execOp,h1,hM.amap_inv,hX.str_inv,g4,Result.andThen]
 rw [e1];refine hK1 _ _ (wpList_step fun K2 hK2 => ?_);have hw2:∀ T,Region.wanted o2 T=true:=fun T=>by simp [Region.wanted,n2]
 have hw3:∀ T,Region.wanted o3 T=true:=fun T=>by simp [Region.wanted,n3]
 rw [if_pos (hw2 _)];unfold Oper.wp;have sz1:t1<a.tmps.size:=by rw [r.sz];exact q1
 have sz2:t2<a.tmps.size:=by rw [r.sz];exact q2
 have ev:∀ (b:Act) (i l:Nat) (U:Value),l≠i→(b.put (some i) U).eval (.tmp l)=b.eval (.tmp l):=fun b i l U h=>by simp [Act.put,Act.eval,Ne.symm h]
 have ev1:∀ (b:Act) (i:Nat) (U:Value),i<b.tmps.size→(b.put (some i) U).eval (.tmp i)=U:=fun b i U h=>by simp [Act.put,Act.eval,h]
 rw [d1];have e2:(execOp (a.put (some t1) (.tuple #[v0,goInt st])).eval o2).run P { w with heap:=w.heap.setIfInBounds (β k) (.map ents1 clock1) } = .ok (.value (goInt st)) { w with heap:=w.heap.setIfInBounds (β k) (.map ents1 clock1) }:=by simp [execOp,h2,ev1 _ _ _ sz1,Instr.extract,Result.andThen]
 rw [e2];refine hK2 _ _ (wpList_step fun K3 hK3 => ?_);rw [if_pos (hw3 _)];unfold Oper.wp;rw [d2];have e3:(execOp ((a.put (some t1) (.tuple #[v0,goInt st])).put (some t2) (goInt st)).eval o3).run P { w with heap:=w.heap.setIfInBounds (β k) (.map ents1 clock1) } = .ok .skip { w with heap:=(w.heap.setIfInBounds (β k) (.map ents1 clock1)).setIfInBounds (β k) (.map ents' clock') }:=by have g6:=g5 { w with heap:=w.heap.setIfInBounds (β k) (.map ents1 clock1) } (MapKept.heap_set g3).1;simp [execOp,h3,ev1 _ t2 _ (show t2<(a.put (some t1) (.tuple #[v0,goInt st])).tmps.size by simpa [Act.put] using sz2),ev _ _ _ _ q5,ev _ _ _ _ q4,ev _ _ _ _ q7,ev _ _ _ _ q6,hM.amap_inv,g6,Result.andThen]
 rw [e3];refine hK3 _ _ ?_;rw [d3];have hput1:AS.put (s.stow k q e sz (eR y zs es)) (some t1) .any=some ⟨s.n,ins t1 .any (s.stow k q e sz (eR y zs es)).t,(s.stow k q e sz (eR y zs es)).h⟩:=by simp only [AS.put,AS.stow,show Nat.blt t1 s.n=true by simpa [Nat.blt_eq] using q1,cond_true]
 have hput2:AS.put ⟨s.n,ins t1 .any (s.stow k q e sz (eR y zs es)).t,(s.stow k q e sz (eR y zs es)).h⟩ (some t2) .any=some ⟨s.n,ins t2 .any (ins t1 .any (s.stow k q e sz (eR y zs es)).t),(s.stow k q e sz (eR y zs es)).h⟩:=by simp only [AS.put,show Nat.blt t2 s.n=true by simpa [Nat.blt_eq] using q2,cond_true]
 have g7:({ w with heap:=w.heap.setIfInBounds (β k) (.map ents1 clock1) }:World).heap[β k]? = some (.map ents1 clock1):=(MapKept.heap_set g3).1;have rw1:=g1 { w with heap:=(w.heap.setIfInBounds (β k) (.map ents1 clock1)).setIfInBounds (β k) (.map ents' clock') } (fun i hi=>by simp [Array.getElem?_setIfInBounds,Ne.symm hi]) ⟨rfl,rfl,rfl,by simp,fun i hi=>by simp [Array.getElem?_setIfInBounds,Ne.symm hi]⟩ (MapKept.heap_set (w:={ w with heap:=w.heap.setIfInBounds (β k) (.map ents1 clock1) }) g7).1;have rw2:=bu rw1 (V:=.tuple #[v0,goInt st]) (.d (.any _)) hput1;have rw3:=bu rw2 (V:=goInt st) (.d (.any _)) hput2;exact hr c _ _ _ _ rw3
def AS.toR (s:AS) (k:Nat) (e:TypeId) (sz:Nat):Option AS :=
 match lk .gone s.h k with
 | .smap _ _ []=>some ⟨s.n,s.t,ins k (.rmap e sz []) s.h⟩
 | _=>none
theorem Rel.toR {c:Cx P} {a:Act} {w:World} {β:Nat→Nat} {κ:Nat→Nat×Nat} {s s':AS} (r:Rel c s a w β κ) {k:Nat} {e:TypeId} {sz:Nat} (h:s.toR k e sz=some s'):Rel c s' a w β κ:=by
 unfold AS.toR at h;split at h
 ·rename_i K E hk;cases h;have hlive:(lk .gone s.h k).live:=by rw [hk];trivial
  refine r.replace hlive (ob:=.rmap e sz []) trivial (fun _ _=>rfl) (cE.refl _ _) (fun _ _ => ?_);have ho:=r.hp.ob k;rw [hk] at ho;obtain ⟨ents,clock,h1,h2,h3,h4,h5⟩:=ho;exact ⟨ents,clock,h1,h2,by simp,fun i hi=>by simp at h2;rw [h2] at hi;simp at hi,h4,h5⟩
 ·cases h
def HP (es:jx):List (List UInt8×AV):=es.map fun p=>(p.1,AV.dslice (p.2.getD []))
def AS.frzR (s:AS) (k:Nat):Option (Prop×AS) :=
 match lk .gone s.h k with
 | .rmap _ _ es=>some ((es.all fun p=>p.2.isSome)=true,s.subst k (.dmap (HP es)))
 | _=>none
theorem Rel.frzR {c:Cx P} {a:Act} {w:World} {β:Nat→Nat} {κ:Nat→Nat×Nat} {s s':AS} {p:Prop} (r:Rel c s a w β κ) {k:Nat} (h:s.frzR k=some (p,s')) (hp:p):Rel c s' a w β κ:=by
 unfold AS.frzR at h;split at h
 ·rename_i e sz es hk;cases h;refine r.subst fun hnV hX hnX=>⟨fun V _=>.any V,fun V hg => ?_⟩;have ho:=r.hp.ob k;rw [hk] at ho;obtain ⟨ents,clock,h1,h2,hl,h3,h4,h5⟩:=ho;rw [hg.amap_inv];have hlen:(HP es).length=es.length:=by simp [HP]
  have hat:∀ i,i<es.length→(HP es).getD i default=((es.getD i bQ).1,AV.dslice ((es.getD i bQ).2.getD [])):=fun i hi=>by simp [HP,KH,KI hi]
  have hkeys:(HP es).map (·.1)=es.map (·.1):=by simp [HP,Function.comp_def]
  refine D.dmap (HP es) (β k) ents clock (hnX (by rw [hk];trivial)) h1 (by omega) (fun i hi => ?_) (fun i hi => ?_) h4 (by unfold ow;rw [hkeys];exact h5)
  ·rw [hat i (by omega)];exact ⟨(h3 i hi).1,(h3 i hi).2.1⟩
  ·rw [hat i (by omega)];have hv:=(h3 i hi).2.2;have hi2:i<es.length:=by omega
   have hs:(es.getD i bQ).2.isSome=true:=by have:=KU.1 hp (es.getD i bQ) (by rw [KH,KI hi2];exact List.getElem_mem hi2);simpa using this
   have hin:∀ z zs,(es.getD i bQ).2=some (z::zs)→(lk .gone s.h k).inn i:=fun z zs h=>by rw [hk];exact ⟨by omega,hi2,z,zs,h⟩
   show D w _ (.dslice ((es.getD i ([],none)).2.getD [])) _;generalize (es.getD i ([],none)).2=o at hv hs hin ⊢;match o,hv,hs,hin with
   | none,_,hs,_=>cases hs
   | some [],hv,_,_ =>
    obtain ⟨_,ad,e1⟩:=hv;rw [e1];exact .dnil _ _ (Nat.zero_le _)
   | some (z::zs),hv,_,hin =>
    obtain ⟨v1,v2,cur,g1,g2,g3,g4,g5,g6,g7⟩:=hv;rw [v2,v1];show D w _ (.dslice (z::zs)) _;refine .dslice (z::zs) (β (gk k i)) 0 (κ (gk k i)).1 sz (fun i' j=>cur.getD (i'*sz+j) undef) g3 g4 g5 (hnV i (hin z zs rfl)) g6 (fun i' j hi' hj => ?_) (fun i' j hi' hj=>(g7 i' j hi' hj).mono (fun _ _ _=>rfl) hX);rw [Nat.zero_add];refine bc g1 ?_;rw [g2];have:(i'+1)*sz≤(κ (gk k i)).1*sz:=Nat.mul_le_mul_right _ (by omega);rw [Nat.add_mul] at this;omega
 ·cases h
end
def DR (ds:List (Nat×Nat)) (t:List (Nat×AV)):List (Nat×AV):=ds.foldr (fun p t=>gq p.2 t) t
def JK (ds:List (Nat×Nat)) (h:List (Nat×AO)):List (Nat×AO):=ds.foldr (fun p h=>dm p.2 h) h
def AV.pgs (ds:List (Nat×Nat)) (v:AV):AV:=ds.foldr (fun p v=>AV.pg p.2 v) v
def AO.pgs (ds:List (Nat×Nat)) (o:AO):AO:=ds.foldr (fun p o=>AO.pg p.2 o) o
theorem C9 (t:List (Nat×AV)) (i:Nat):∀ ds:List (Nat×Nat),lk .any (DR ds t) i=AV.pgs ds (lk .any t i)
 | []=>rfl
 | p::ds=>by show lk .any (gq p.2 (DR ds t)) i=AV.pg p.2 (AV.pgs ds (lk .any t i));rw [cq,C9 t i ds]
theorem CT (h:List (Nat×AO)) (i:Nat):∀ ds:List (Nat×Nat),lk .gone (JK ds h) i=AO.pgs ds (lk .gone h i)
 | []=>rfl
 | p::ds=>by show lk .gone (dm p.2 (JK ds h)) i=AO.pg p.2 (AO.pgs ds (lk .gone h i));rw [cu,CT h i ds]
theorem men_pgs {n j:Nat} {v:AV}:∀ {ds:List (Nat×Nat)},(j,n)∈ds→AV.men n (AV.pgs ds v)=false
 | p::ds,h=>by
  show AV.men n (AV.pg p.2 (AV.pgs ds v))=false;rcases List.mem_cons.1 h with h | h
  ·rw [← h];exact AV.men_pg n _
  ·rw [Bool.eq_false_iff];intro h2;exact absurd (AV.men_pg' h2) (by rw [men_pgs h];simp)
theorem AO.men_pgs {n j:Nat} {v:AO}:∀ {ds:List (Nat×Nat)},(j,n)∈ds→AO.men n (AO.pgs ds v)=false
 | p::ds,h=>by
  show AO.men n (AO.pg p.2 (AO.pgs ds v))=false;rcases List.mem_cons.1 h with h | h
  ·rw [← h];exact AO.men_pg n _
  ·rw [Bool.eq_false_iff];intro h2;exact absurd (AO.men_pg' h2) (by rw [AO.men_pgs h];simp)
theorem AO.live_pgs (o:AO):∀ ds:List (Nat×Nat),(AO.pgs ds o).live=o.live
 | []=>rfl
 | p::ds=>by show (AO.pg p.2 (AO.pgs ds o)).live=_;rw [AO.live_pg,AO.live_pgs o ds]
theorem AO.inn_pgs (o:AO) (j:Nat):∀ ds:List (Nat×Nat),(AO.pgs ds o).inn j=o.inn j
 | []=>rfl
 | p::ds=>by show (AO.pg p.2 (AO.pgs ds o)).inn j=_;rw [AO.inn_pg,AO.inn_pgs o j ds]
theorem AO.pgs_gone:∀ ds:List (Nat×Nat),AO.pgs ds .gone = .gone
 | []=>rfl
 | p::ds=>by show AO.pg p.2 (AO.pgs ds .gone)=_;rw [AO.pgs_gone ds];rfl
theorem AV.hasR_pgs {v:AV}:∀ (ds:List (Nat×Nat)),AV.hasR v=false→AV.hasR (AV.pgs ds v)=false
 | [],h=>h
 | p::ds,h=>AV.hasR_pg (v:=AV.pgs ds v) (AV.hasR_pgs ds h)
theorem AO.hasR_pgs {v:AO}:∀ (ds:List (Nat×Nat)),AO.hasR v=false→AO.hasR (AO.pgs ds v)=false
 | [],h=>h
 | p::ds,h=>AO.hasR_pg (o:=AO.pgs ds v) (AO.hasR_pgs ds h)
theorem G.pgs {w:World} {X:Nat→Prop} {β:Nat→Nat} {κ:Nat→Nat×Nat} {v:AV} {V:Value}:∀ (ds:List (Nat×Nat)),G w X β κ v V→G w X β κ (AV.pgs ds v) V
 | [],h=>h
 | p::ds,h=>(G.pgs ds h).pg p.2
theorem HO.pgs {w:World} {X:Nat→Prop} {β:Nat→Nat} {κ:Nat→Nat×Nat} {k:Nat} {o:AO}:∀ (ds:List (Nat×Nat)),HO w X β κ k o→HO w X β κ k (AO.pgs ds o)
 | [],h=>h
 | p::ds,h=>(HO.pgs ds h).pg (j:=p.2)
theorem xr (i:Nat):∀ (l m:List (Nat×Nat)),rk (l++m) i=match rk l i with | some j=>some j | none=>rk m i
 | [],m=>rfl
 | (k,j)::l,m=>by
  simp only [List.cons_append,rk];cases Nat.beq i k with
  | true=>rfl
  | false=>exact xr i l m
def kz (ps ds:List (Nat×Nat)) (h' h:List (Nat×AO)):List (Nat×AO):=bk (ds++swp ps) h' (swp ds) (bk (ds++swp ps) h' ps (JK ds h))
section
variable {P:Program} {ops:Array Oper} {o:Oper} {s:AS}
theorem Gr {f:FuncId} (he:Go.Proofs.Enters P f) {x:Operand} {ar:Array Operand} {tys:Array TypeId} (hg:gd ops s o=some true) (hop:o.op = .call ⟨.value x,ar,tys⟩) {args0:List AV}
 (hx:∀ (c:Cx P) a w β κ,Rel c s a w β κ→∃ vs:Array Value,(execOp a.eval o).run P w = .ok (.enter f vs) w∧vs.size=args0.length∧∀ i,i<args0.length→G w (c.XX s.h β) β κ (args0.getD i .any) (vs.toList.getD i undef))
 (ps ds:List (Nat×Nat)) (hps:(lC ps&&(ps.all fun p=>Nat.ble 1000 p.2&&(Nat.blt p.2 1000000&&Nat.blt p.1 1000000))&&lC ds&&ds.all fun p=>(rk ps p.2).isNone&&(Nat.blt p.1 1000&&Nat.blt p.2 1000))=true) {Post:AV→List (Nat×AO)→Prop} (hnoR:s.noR=true∨(ps=[]∧∀ v h',Post v h'→∀ j,(lk .gone h' j).isR=false)) {args:List AV} (hargs:args0.map (AV.ren ps)=args) {h0:List (Nat×AO)} (hh:hand ps s.h=h0) (hc:bD P f args h0 Post) {N:AS→Prop}
 (hN:∀ v h',Post v h'→∃ s',AS.put ⟨s.n,DR ds s.t,kz ps ds h' s.h⟩ o.dst (AV.ren (ds++swp ps) v)=some s'∧N s'):iP P ops o s N:=fun c a w β κ r K Q hK=>by
 subst hargs;subst hh;simp only [KJ] at hps;obtain ⟨⟨⟨hinj,hlv⟩,hinjd⟩,hdall⟩:=hps;have hds:∀ {j d},rk ds j=some d→rk ps d=none∧j<1000∧d<1000:=fun h=>by have:=KU.1 hdall _ (mj h);simp only [KJ,Nat.blt_eq] at this;exact ⟨by simpa using this.1,this.2⟩
 have hdp:∀ {k j},rk ps k=some j→rk (swp ds) k=none:=fun {k j} h=>by
  cases e:rk (swp ds) k with
  | none=>rfl
  | some j2 =>
   have:=(hds ((bL hinjd).1 e)).1;rw [h] at this;cases this
 have hchk:∀ {k j},rk ps k=some j→1000≤j∧j<1000000∧k<1000000:=fun h=>by have:=KU.1 hlv _ (mj h);simp only [KJ,Nat.ble_eq,Nat.blt_eq] at this;exact this
 rw [fM r hg];simp only [if_true];obtain ⟨vs,hrun,a1,a2⟩:=hx c a w β κ r;unfold Oper.wp;rw [hrun];let τ:Nat→Nat→Prop:=fun n n'=>(rk ps n=some n'∧n<1000000)∨∃ k j i,rk ps k=some j∧i<1000000∧n=gk k i∧n'=gk j i
 let H:Nat→Prop:=fun b=>∃ n n',τ n n'∧lv s.h n∧β n=b
 let βc:Nat→Nat:=tO (fun j=>match rk (swp ps) j with | some k=>β k | none=>0) (fun j i=>match rk (swp ps) j with | some k=>β (gk k i) | none=>0)
 let κc:Nat→Nat×Nat:=tO (fun j=>match rk (swp ps) j with | some k=>κ k | none=>(0,0)) (fun j i=>match rk (swp ps) j with | some k=>κ (gk k i) | none=>(0,0))
 have hβ:∀ k j,rk ps k=some j→βc j=β k∧κc j=κ k:=by intro k j h;have h2:=(bL hinj).2 h;have h3:=(hchk h).2.1;exact ⟨by simp only [βc,eI h3,h2],by simp only [κc,eI h3,h2]⟩
 have hβv:∀ k j,rk ps k=some j→∀ i,i<1000000→βc (gk j i)=β (gk k i)∧κc (gk j i)=κ (gk k i):=by intro k j h i hi;have h2:=(bL hinj).2 h;exact ⟨by simp only [βc,dq hi,h2],by simp only [κc,dq hi,h2]⟩
 have hβτ:∀ n n',τ n n'→βc n'=β n:=by
  rintro n n' (⟨h,_⟩ | ⟨k,j,i,h,hi,rfl,rfl⟩)
  ·exact (hβ _ _ h).1
  ·exact (hβv _ _ h i hi).1
 have hτi:∀ {n n1 n2},τ n n1→τ n n2→n1=n2:=by
  rintro n n1 n2 (⟨h,h'⟩ | ⟨k,j,i,h,hi,rfl,rfl⟩) (⟨g,g'⟩ | ⟨k2,j2,i2,g,hi2,e,rfl⟩)
  ·rw [h] at g;exact KT g
  ·have:=cD k2 i2;omega
  ·have:=cD k i;omega
  ·obtain ⟨rfl,rfl⟩:=dH hi hi2 e;rw [h] at g;rw [KT g]
 have hsz:∀ b,c.XX s.h β b→b<w.heap.size:=by
  rintro b (h | ⟨k,h1,rfl⟩)
  ·exact Nat.lt_of_lt_of_le (c.hX b h) r.hp.kp.size
  ·exact r.hp.lt h1
 have hKH:∀ b,c.K b→¬ H b:=by rintro b hb ⟨n,n',_,h2,rfl⟩;exact r.hp.nk n h2 hb
 have hXH:∀ b,c.X b→¬ H b:=by rintro b hb ⟨n,n',_,h2,rfl⟩;exact r.hp.nx n h2 hb
 let c':Cx P:=⟨fun b=>b<w.heap.size∧¬ H b,fun b=>c.XX s.h β b∧¬ H b,w,βc,κc,fun _ h=>h.1,fun b h=>hsz b h.1,fun w' hk=>c.gp w' (r.hp.kp.trans hk fun b hb=>⟨r.Klt b hb,hKH b hb⟩)⟩
 have hlk:∀ j,lk .gone (hand ps s.h) j=match rk (swp ps) j with | some k=>AO.ren ps (lk .gone s.h k) | none=>.gone:=fun j=>qK hinj j
 have hlvh:∀ n',lv (hand ps s.h) n'→∃ n,τ n n'∧lv s.h n:=by
  rintro n' (h1 | ⟨m,i,rfl,h1⟩)
  ·rw [hlk] at h1;cases e:rk (swp ps) n' with
   | none=>rw [e] at h1;exact h1.elim
   | some k =>
    rw [e] at h1;have e2:=(bL hinj).1 e;exact ⟨k,.inl ⟨e2,(hchk e2).2.2⟩,.inl (iZ.1 h1)⟩
  ·rw [hlk] at h1;cases e:rk (swp ps) m with
   | none=>rw [e] at h1;exact h1.elim
   | some k =>
    rw [e] at h1;have e2:=(bL hinj).1 e;exact ⟨gk k i,.inr ⟨k,m,i,e2,(AO.inn_isR h1).1,rfl,rfl⟩,bo (nC.1 h1)⟩
 have hown:∀ b,own (hand ps s.h) βc b→H b:=by rintro b ⟨n',h1,h2⟩;obtain ⟨n,h3,h4⟩:=hlvh n' h1;exact ⟨n,n',h3,h4,by rw [← h2];exact (hβτ n n' h3).symm⟩
 have hHX:∀ b,H b→c.XX s.h β b:=by rintro b ⟨n,n',_,h1,rfl⟩;exact .inr ⟨n,h1,rfl⟩
 have hXin:∀ b,¬ c.XX s.h β b→b<w.heap.size→¬ c'.XX (hand ps s.h) βc b:=by
  rintro b hb _ (h | h)
  ·exact hb h.1
  ·exact hb (hHX b (hown b h))
 have hrel:eB c' (hand ps s.h) c'.W c'.β c'.κ:=by
  refine ⟨fun j => ?_,fun i j hi hj e => ?_,cE.refl _ _,fun j hj => ?_,fun j hj => ?_,fun _ _ _=>⟨rfl,rfl⟩,fun j hj => ?_⟩
  ·rw [hlk];cases e:rk (swp ps) j with
   | none=>trivial
   | some k =>
    have e2:=(bL hinj).1 e;exact (r.hp.ob k).ren (X':=c'.XX (hand ps s.h) βc) hβ hXin (hβ _ _ e2) (fun i hi _=>hβv _ _ e2 i hi)
  ·obtain ⟨n1,h1,h2⟩:=hlvh i hi;obtain ⟨n2,h3,h4⟩:=hlvh j hj;have e3:β n1=β n2:=by rw [← hβτ n1 i h1,← hβτ n2 j h3];exact e
   have:=r.hp.inj n1 n2 h2 h4 e3;subst this;exact hτi h1 h3
  ·exact fun h=>h.2 (hown _ ⟨j,hj,rfl⟩)
  ·exact fun h=>h.2 (hown _ ⟨j,hj,rfl⟩)
  ·have hj:lk .gone (hand ps s.h) j ≠ .gone:=hj;rw [hlk] at hj;cases e:rk (swp ps) j with
   | none=>rw [e] at hj;exact absurd rfl hj
   | some k=>exact (hchk ((bL hinj).1 e)).2.1
 have hcall:=hc c' vs.toList (by simp [a1]) hrel (fun i hi=>by have e:(args0.map (AV.ren ps)).getD i .any=AV.ren ps (args0.getD i .any):=getD_map (AV.ren ps) _ i .any .any rfl;rw [e];exact (a2 i (by simpa using hi)).ren hβ hXin)
 simp only [Array.toArray_toList] at hcall;refine hcall.mono fun e w' ⟨V,v,h',β',κ',e1,hp,hr',hG⟩ => ?_;subst e1;obtain ⟨s',h2,h3⟩:=hN v h' hp;let β2:Nat→Nat:=tO (fun k=>match rk (swp ds) k with | some j=>β' j | none=>β k) (fun k i=>match rk (swp ds) k with | some j=>(if (lk .gone h' j).isR=true then β' (gk j i) else β (gk k i)) | none=>match rk ps k with | some j=>β' (gk j i) | none=>β (gk k i))
 let κ2:Nat→Nat×Nat:=tO (fun k=>match rk (swp ds) k with | some j=>κ' j | none=>κ k) (fun k i=>match rk (swp ds) k with | some j=>(if (lk .gone h' j).isR=true then κ' (gk j i) else κ (gk k i)) | none=>match rk ps k with | some j=>κ' (gk j i) | none=>κ (gk k i))
 have b2d:∀ k j,rk (swp ds) k=some j→β2 k=β' j∧κ2 k=κ' j:=fun k j h=>by
  have h6:k<1000000:=by have:=(hds ((bL hinjd).1 h)).2.2;omega
  exact ⟨by simp only [β2,eI h6,h],by simp only [κ2,eI h6,h]⟩
 have b2dv:∀ k j,rk (swp ds) k=some j→∀ i,i<1000000→(lk .gone h' j).isR=true→β2 (gk k i)=β' (gk j i)∧κ2 (gk k i)=κ' (gk j i):=fun k j h i hi hz=>⟨by simp only [β2,dq hi,h,if_pos hz],by simp only [κ2,dq hi,h,if_pos hz]⟩;have b2n:∀ k,k<1000000→rk (swp ds) k=none→β2 k=β k∧κ2 k=κ k:=fun k hk h=>⟨by simp only [β2,eI hk,h],by simp only [κ2,eI hk,h]⟩;have b2v:∀ k i,i<1000000→rk (swp ds) k=none→rk ps k=none→β2 (gk k i)=β (gk k i)∧κ2 (gk k i)=κ (gk k i):=fun k i hi h h4=>⟨by simp only [β2,dq hi,h,h4],by simp only [κ2,dq hi,h,h4]⟩;have b2h:∀ k j i,i<1000000→rk ps k=some j→β2 (gk k i)=β' (gk j i)∧κ2 (gk k i)=κ' (gk j i):=fun k j i hi h=>⟨by simp only [β2,dq hi,hdp h,h],by simp only [κ2,dq hi,hdp h,h]⟩;have hfix:∀ k j,rk ps k=some j→β2 k=β' j∧κ2 k=κ' j:=fun k j h=>by obtain ⟨f1,f2⟩:=hr'.fix j (hchk h).1 (hchk h).2.1;rw [(b2n k (hchk h).2.2 (hdp h)).1,(b2n k (hchk h).2.2 (hdp h)).2];exact ⟨by rw [f1];exact (hβ k j h).1.symm,by rw [f2];exact (hβ k j h).2.symm⟩
 have hfq:∀ j k,rk (ds++swp ps) j=some k→β2 k=β' j∧κ2 k=κ' j:=fun j k h=>by
  rw [xr] at h;cases e:rk ds j with
  | some d =>
   rw [e] at h;have:=KT h;subst this;exact b2d _ _ ((bL hinjd).2 e)
  | none =>
   rw [e] at h;exact hfix k j ((bL hinj).1 h)
 have hb:∀ k,lk .gone (kz ps ds h' s.h) k=match rk (swp ds) k with | some j=>AO.ren (ds++swp ps) (lk .gone h' j) | none=>match rk ps k with | some j=>AO.ren (ds++swp ps) (lk .gone h' j) | none=>AO.pgs ds (lk .gone s.h k):=fun k=>by
  unfold kz;rw [CW,CW,CT];all_goals
   cases rk (swp ds) k with
   | some j=>rfl
   | none=>cases rk ps k<;>rfl
 have hnH:∀ n,lv s.h n→(∀ n',¬ τ n n')→¬ H (β n):=by rintro n hn hk ⟨n2,n2',h1,h4,h5⟩;have:=r.hp.inj n2 n h4 hn h5;subst this;exact hk _ h1
 have hnkj:∀ j,lv h' j→¬ c.K (β' j):=fun j hj hk=>hr'.nk j hj ⟨r.Klt _ hk,hKH _ hk⟩;have hnxj:∀ j,lv h' j→¬ c.X (β' j):=fun j hj hk=>hr'.nx j hj ⟨.inl hk,hXH _ hk⟩;have hin:∀ j,lv h' j→β' j<w.heap.size→H (β' j):=fun j hj hlt=>Classical.byContradiction fun hn=>hr'.nk j hj ⟨hlt,hn⟩;let ζ0:Nat→Nat:=fun j=>match rk ds j with | some d=>d | none=>(rk (swp ps) j).getD 0
 let ζ:Nat→Nat:=tO ζ0 (fun j i=>gk (ζ0 j) i)
 have hζd:∀ {k j},rk (swp ds) k=some j→ζ0 j=k:=fun {k j} h=>by simp only [ζ0,(bL hinjd).1 h]
 have hζp:∀ {k j},rk ps k=some j→ζ0 j=k:=fun {k j} h=>by
  have h1:=(bL hinj).2 h;have h2:=(hchk h).1;have h3:rk ds j=none:=by
   cases e:rk ds j with
   | none=>rfl
   | some d=>have:=(hds e).2.1;omega
  simp only [ζ0,h3,h1];rfl
 have hcase:∀ n,lv (kz ps ds h' s.h) n→(∃ j,lv h' j∧β2 n=β' j∧n=ζ j)∨(lv s.h n∧β2 n=β n∧¬ H (β n)):=by
  rintro n (hk | ⟨m,i,rfl,hk⟩)
  ·rw [hb] at hk;cases e:rk (swp ds) n with
   | some j =>
    rw [e] at hk;refine .inl ⟨j,.inl (iZ.1 hk),(b2d n j e).1,?_⟩;show n=tO ζ0 _ j;rw [eI (by have:=(hds ((bL hinjd).1 e)).2.1;omega),hζd e]
   | none =>
    rw [e] at hk;simp only at hk;cases e2:rk ps n with
    | none =>
     rw [e2] at hk;have hk:(lk .gone s.h n).live:=by simpa [AO.live_pgs] using hk
     have hn6:=r.hp.sm n hk;refine .inr ⟨.inl hk,(b2n n hn6 e).1,hnH n (.inl hk) ?_⟩;rintro n' (⟨g,_⟩ | ⟨k,j,i,_,_,rfl,_⟩)
     ·rw [e2] at g;cases g
     ·have:=cD k i;omega
    | some j =>
     rw [e2] at hk;refine .inl ⟨j,.inl (iZ.1 hk),(hfix n j e2).1,?_⟩;show n=tO ζ0 _ j;rw [eI (hchk e2).2.1,hζp e2]
  ·rw [hb] at hk;cases e:rk (swp ds) m with
   | some j =>
    rw [e] at hk;have hk:=nC.1 hk;have hi:=(AO.inn_isR hk).1;refine .inl ⟨gk j i,bo hk,(b2dv m j e i hi (AO.inn_isR hk).2).1,?_⟩;show gk m i=tO ζ0 _ (gk j i);rw [dq hi,hζd e]
   | none =>
    rw [e] at hk;simp only at hk;cases e2:rk ps m with
    | none =>
     rw [e2] at hk;have hk:(lk .gone s.h m).inn i:=by simpa only [AO.inn_pgs] using hk
     have hi:=(AO.inn_isR hk).1;refine .inr ⟨bo hk,(b2v m i hi e e2).1,hnH _ (bo hk) ?_⟩;rintro n' (⟨_,g⟩ | ⟨k,j,i',g,hi',e3,_⟩)
     ·have:=cD m i;omega
     ·obtain ⟨rfl,rfl⟩:=dH hi hi' e3;rw [e2] at g;cases g
    | some j =>
     rw [e2] at hk;have hk:=nC.1 hk;have hi:=(AO.inn_isR hk).1;refine .inl ⟨gk j i,bo hk,(b2h m j i hi e2).1,?_⟩;show gk m i=tO ζ0 _ (gk j i);rw [dq hi,hζp e2]
 have hA:∀ b,¬ c.XX s.h β b→b<w.heap.size→¬ c.XX (kz ps ds h' s.h) β2 b:=by
  rintro b hb1 hlt (h | ⟨k,hk,rfl⟩)
  ·exact hb1 (.inl h)
  ·rcases hcase k hk with ⟨j,hj,e,_⟩ | ⟨hkl,e,_⟩
   ·rw [e] at hb1 hlt;exact hb1 (hHX _ (hin j hj hlt))
   ·rw [e] at hb1;exact hb1 (.inr ⟨k,hkl,rfl⟩)
 have hB:∀ b,¬ c'.XX h' β' b→b<w'.heap.size→¬ c.XX (kz ps ds h' s.h) β2 b:=by
  rintro b hb1 _ (h | ⟨k,hk,rfl⟩)
  ·exact hb1 (.inl ⟨.inl h,hXH _ h⟩)
  ·rcases hcase k hk with ⟨j,hj,e,_⟩ | ⟨hkl,e,e2⟩
   ·rw [e] at hb1;exact hb1 (.inr ⟨j,hj,rfl⟩)
   ·rw [e] at hb1;exact hb1 (.inl ⟨.inr ⟨k,hkl,rfl⟩,e2⟩)
 have hC:∀ b,¬ c.XX s.h β b→b<w.heap.size→w'.heap[b]? = w.heap[b]? := fun b hb1 hlt=>hr'.kp.block b ⟨hlt,fun h=>hb1 (hHX b h)⟩;have hSK:∀ j,rk (swp ds) j=none→j<1000000→rk ps j=none→SK β β2 κ κ2 j:=fun j h1 h2 h3=>⟨(b2n j h2 h1).1,(b2n j h2 h1).2,fun i hi=>b2v j i hi h1 h3⟩;have hSK2:ps=[]→(∀ j,(lk .gone h' j).isR=false)→∀ j,rk (swp ds) j=none→SK β β2 κ κ2 j:=by
  intro hp0 hz;have key:∀ n,rk (swp ds) n=none→β2 n=β n∧κ2 n=κ n:=by
   intro n hn;by_cases h6:n<1000000
   ·exact b2n n h6 hn
   ·have e0:gk (n / 1000000-1) (n % 1000000)=n:=by unfold gk;omega
    have hi:n % 1000000<1000000:=Nat.mod_lt _ (by decide);have e1:β2 (gk (n / 1000000-1) (n % 1000000))=β (gk (n / 1000000-1) (n % 1000000))∧κ2 (gk (n / 1000000-1) (n % 1000000))=κ (gk (n / 1000000-1) (n % 1000000)):=by
     cases e:rk (swp ds) (n / 1000000-1) with
     | none=>exact b2v _ _ hi e (by rw [hp0];rfl)
     | some j=>exact ⟨by simp [β2,dq hi,e,hz j],by simp [κ2,dq hi,e,hz j]⟩
    rw [e0] at e1;exact e1
  exact fun j hj=>⟨(key j hj).1,(key j hj).2,fun i _=>key _ (by
   cases e:rk (swp ds) (gk j i) with
   | none=>rfl
   | some l=>have:=(hds ((bL hinjd).1 e)).2.2;have:=cD j i;omega)⟩
 have hmend:∀ {v:AV} {n:Nat},AV.men n (AV.pgs ds v)=true→rk (swp ds) n=none:=fun {v n} h=>by
  cases e:rk (swp ds) n with
  | none=>rfl
  | some j=>rw [men_pgs (mj ((bL hinjd).1 e))] at h;cases h
 have hmendO:∀ {v:AO} {n:Nat},AO.men n (AO.pgs ds v)=true→rk (swp ds) n=none:=fun {v n} h=>by
  cases e:rk (swp ds) n with
  | none=>rfl
  | some j=>rw [AO.men_pgs (mj ((bL hinjd).1 e))] at h;cases h
 have r2:Rel c ⟨s.n,DR ds s.t,kz ps ds h' s.h⟩ a w' β2 κ2:=by
  refine ⟨r.df,r.sz,fun i => ?_,⟨fun k => ?_,fun i j hi hj e => ?_,r.hp.kp.trans hr'.kp fun b hb1=>⟨r.Klt b hb1,hKH b hb1⟩,fun k hk => ?_,fun k hk => ?_,fun k hk hk6 => ?_,fun k hk => ?_⟩⟩
  ·show G w' (c.XX (kz ps ds h' s.h) β2) β2 κ2 (lk .any (DR ds s.t) i) _;rw [C9];rcases hnoR with hnoR | ⟨hp0,hz⟩;case inr=>exact ((r.tm i).pgs ds).mono hC hA (fun j hj=>hSK2 hp0 (hz v h' hp) j (hmend hj))
   have hR:=AV.hasR_pgs ds (AS.noR_t hnoR i);exact ((r.tm i).pgs ds).mono2 hC hA hR (fun j hj=>b2n j (men_lt hR hj) (hmend hj))
  ·show HO w' (c.XX (kz ps ds h' s.h) β2) β2 κ2 k (lk .gone (kz ps ds h' s.h) k);rw [hb];cases e:rk (swp ds) k with
   | some j=>exact (hr'.ob j).ren (X':=c.XX (kz ps ds h' s.h) β2) hfq hB (b2d k j e) (fun i hi hz=>b2dv k j e i hi hz)
   | none =>
    simp only;cases e2:rk ps k with
    | none =>
     by_cases hg0:lk .gone s.h k = .gone
     ·rw [hg0,AO.pgs_gone];trivial
     ·have hk6:=r.hp.sg k hg0;have hmono:((AO.pgs ds (lk .gone s.h k)).live→w'.heap[β k]? = w.heap[β k]?)→(∀ i,(AO.pgs ds (lk .gone s.h k)).inn i→w'.heap[β (gk k i)]? = w.heap[β (gk k i)]?)→HO w' (c.XX (kz ps ds h' s.h) β2) β2 κ2 k (AO.pgs ds (lk .gone s.h k)):=fun q1 q2=>by
       rcases hnoR with hnoR | ⟨hp0,hz⟩
       ·have hR:=AO.hasR_pgs ds (AS.noR_h hnoR k);exact ((r.hp.ob k).pgs ds).mono2 hC hA hR (fun j hj=>b2n j (AO.men_lt hR hj) (hmendO hj)) (hSK k e hk6 e2) q1 q2
       ·exact ((r.hp.ob k).pgs ds).mono hC hA (fun j hj=>hSK2 hp0 (hz v h' hp) j (hmendO hj)) (hSK k e hk6 e2) q1 q2
      refine hmono (fun hkl => ?_) (fun i hkl => ?_)
      ·have hkl:(lk .gone s.h k).live:=by simpa [AO.live_pgs] using hkl
       refine hr'.kp.block _ ⟨r.hp.lt (.inl hkl),hnH k (.inl hkl) ?_⟩;rintro n' (⟨g,_⟩ | ⟨m,j,i,_,_,rfl,_⟩)
       ·rw [e2] at g;cases g
       ·have:=cD m i;omega
      ·have hkl:(lk .gone s.h k).inn i:=by simpa only [AO.inn_pgs] using hkl
       have hi:=(AO.inn_isR hkl).1;refine hr'.kp.block _ ⟨r.hp.lt (bo hkl),hnH _ (bo hkl) ?_⟩;rintro n' (⟨_,g⟩ | ⟨m,j,i',g,hi',e3,_⟩)
       ·have:=cD k i;omega
       ·obtain ⟨rfl,rfl⟩:=dH hi hi' e3;rw [e2] at g;cases g
    | some j=>exact (hr'.ob j).ren (X':=c.XX (kz ps ds h' s.h) β2) hfq hB (hfix k j e2) (fun i hi _=>b2h k j i hi e2)
  ·rcases hcase i hi with ⟨ji,hji,ei,ci⟩ | ⟨li,ei,ni⟩<;>rcases hcase j hj with ⟨jj,hjj,ej,cj⟩ | ⟨lj,ej,nj⟩
   ·have e3:ji=jj:=hr'.inj ji jj hji hjj (by rw [← ei,← ej];exact e);rw [ci,cj,e3]
   ·have e3:β' ji=β j:=by rw [← ei,← ej];exact e
    exact absurd (hin ji hji (by rw [e3];exact r.hp.lt lj)) (by rw [e3];exact nj)
   ·have e3:β' jj=β i:=by rw [← ej,← ei];exact e.symm
    exact absurd (hin jj hjj (by rw [e3];exact r.hp.lt li)) (by rw [e3];exact ni)
   ·exact r.hp.inj i j li lj (by rw [← ei,← ej];exact e)
  ·rcases hcase k hk with ⟨j,hj,e,_⟩ | ⟨hkl,e,_⟩
   ·rw [e];exact hnkj j hj
   ·rw [e];exact r.hp.nk k hkl
  ·rcases hcase k hk with ⟨j,hj,e,_⟩ | ⟨hkl,e,_⟩
   ·rw [e];exact hnxj j hj
   ·rw [e];exact r.hp.nx k hkl
  ·have e:rk (swp ds) k=none:=by
    cases e:rk (swp ds) k with
    | none=>rfl
    | some j=>have:=(hds ((bL hinjd).1 e)).2.2;omega
   rw [(b2n k hk6 e).1,(b2n k hk6 e).2];exact r.hp.fix k hk hk6
  ·have hk:lk .gone (kz ps ds h' s.h) k ≠ .gone:=hk;rw [hb] at hk;cases e:rk (swp ds) k with
   | some j=>have:=(hds ((bL hinjd).1 e)).2.2;omega
   | none =>
    rw [e] at hk;simp only at hk;cases e2:rk ps k with
    | none=>rw [e2] at hk;exact r.hp.sg k (fun e3=>hk (by rw [e3,AO.pgs_gone]))
    | some j=>exact (hchk e2).2.2
 exact hK s' _ w' β2 κ2 h3 (bu r2 (hG.ren hfq hB) h2)
end
end Go.Ab
