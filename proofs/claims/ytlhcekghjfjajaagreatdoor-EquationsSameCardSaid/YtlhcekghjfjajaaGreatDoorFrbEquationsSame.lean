/- The frame for walks: states without addresses, the rules by which code is walked, and contracts of library functions. -/
import Derived.Test.YtlhcekghjfjajaaGreatDoorFraEquationsSame
import Derived.MapFrom
import Derived.Lib.ConvBytes
import Derived.Maps.RangeRun
import Derived.Laws.StructEq
import Derived.WideKeyEntry
set_option linter.unusedSimpArgs false
set_option linter.unusedVariables false
namespace Go.Ab
open Go.RowKit
section
variable {P:Program} {l:List Oper}
def cntF:List Bool→Nat
 | []=>0
 | b::bs=>(if b then 0 else 1)+cntF bs
theorem vD:∀ {bs:List Bool} {i:Nat},bs[i]? = some false→cntF bs=cntF (bs.set i true)+1
 | [],i,h=>by simp at h
 | b::bs,0,h=>by
  simp only [List.getElem?_cons_zero,Kr] at h;subst h;simp [cntF];omega
 | b::bs,i+1,h=>by have:=vD (bs:=bs) (i:=i) (by simpa using h);simp only [List.set_cons_succ,cntF];omega
theorem sq:∀ {bs:List Bool},cntF bs=0→bs=List.replicate bs.length true
 | [],_=>rfl
 | b::bs,h=>by
  cases b with
  | false=>simp [cntF] at h
  | true=>simp only [cntF,if_true,Nat.zero_add] at h;rw [List.length_cons,List.replicate_succ,← sq h]
theorem uW:∀ {bs:List Bool},cntF bs≠0→∃ i:Nat,bs[i]? = some false
 | [],h=>absurd rfl h
 | b::bs,h=>by
  cases b with
  | false=>exact ⟨0,rfl⟩
  | true =>
   obtain ⟨i,hi⟩:=uW (bs:=bs) (by simpa [cntF] using h);exact ⟨i+1,by simpa using hi⟩
theorem qq:∀ {os:List Oper} {k:Nat},zn k os=true→∀ (i:Nat) (o:Oper),os[i]? = some o→(k+i)∈aft o
 | [],_,_,i,o,h=>by simp at h
 | o0::os,k,h,0,o,ho=>by
  simp only [zn,Kj] at h;simp only [List.getElem?_cons_zero,Kr] at ho;subst ho;obtain ⟨x,hx,hb⟩:=List.any_eq_true.1 h.1;have:k=x:=bP.1 hb;subst this;exact hx
 | o0::os,k,h,i+1,o,ho=>by simp only [zn,Kj] at h;have:=qq h.2 i o (by simpa using ho);rw [show k+(i+1)=k+1+i by omega];exact this
theorem nE:∀ {os:List Oper} {k:Nat},tq k os=true→∀ (i:Nat) (o:Oper),os[i]? = some o→∀ j∈aft o,j<k+i
 | [],_,_,i,o,h=>by simp at h
 | o0::os,k,h,0,o,ho=>by
  simp only [tq,Kj] at h;simp only [List.getElem?_cons_zero,Kr] at ho;subst ho;intro j hj;have:=Ku.1 h.1 j hj;simpa [Nat.blt_eq] using this
 | o0::os,k,h,i+1,o,ho=>by simp only [tq,Kj] at h;intro j hj;have:=nE h.2 i o (by simpa using ho) j hj;omega
theorem vG:∀ {n i:Nat},i<n→i∈idxs n
 | 0,i,h=>by omega
 | n+1,i,h=>by
  simp only [idxs,List.mem_append,List.mem_singleton];by_cases e:i=n
  ·exact .inr e
  ·exact .inl (vG (by omega))
theorem gY {listed:Array Bool} {i:Nat}:i∈Region.ready .any l.toArray listed↔listed.getD i true=false∧∃ o,l[i]? = some o∧∀ j∈aft o,listed.getD j false=true:=by
 rw [mem_ready];constructor
 ·rintro ⟨h,o,ho,ha⟩;exact ⟨h,o,by simpa using ho,fun j hj=>by obtain ⟨e,he,hb,rfl⟩:=A4.1 hj;exact ha e he hb⟩
 ·rintro ⟨h,o,ho,ha⟩;exact ⟨h,o,by simpa using ho,fun e he hb=>ha _ (A4.2 ⟨e,he,hb,rfl⟩)⟩
theorem pe {Q':Exit→Act→World→Prop} (hback:tq 0 l=true):∀ (rest:List Oper) (k:Nat) (listed:Array Bool) (a:Act) (w:World),listed.size=l.length→(∀ j,rest[j]? = l[k+j]?)→k+rest.length=l.length→(∀ i,i<k→listed.getD i false=true)→(∀ i,k≤i→listed.getD i false=false) →
 (∀ i o,k<i→l[i]? = some o→(i-1)∈aft o)→wpList P l.toArray Q' rest a w→wpAny P .any l.toArray Q' rest.length listed a w
 | [],k,listed,a,w,hs,_,hl,h1,_,_,h=>by
  refine ⟨List.eq_nil_iff_forall_not_mem.2 fun i hi => ?_,h⟩;obtain ⟨h2,o,ho,_⟩:=gY.1 hi;have hi':i<l.length:=(Kq.1 ho).1;have:=h1 i (by simp at hl;omega);simp [Kk,Ks (show i<listed.size by omega)] at this h2;rw [this] at h2;cases h2
 | o::rest,k,listed,a,w,hs,hr,hl,h1,h2,h3,h=>by
  have hok:l[k]? = some o:=by have:=hr 0;simpa using this.symm
  have hkl:k<l.length:=(Kq.1 hok).1;have hkr:k∈Region.ready .any l.toArray listed:=by
   refine gY.2 ⟨?_,o,hok,fun j hj=>h1 j ?_⟩
   ·have:=h2 k (Nat.le_refl _);simp [Kk,Ks (show k<listed.size by omega)] at this ⊢;exact this
   ·have:=nE hback k o hok j hj;omega
  refine ⟨fun h0=>(by rw [h0] at hkr;cases hkr),fun i hi => ?_⟩;obtain ⟨h4,oi,hoi,h5⟩:=gY.1 hi;have hi':i<l.length:=(Kq.1 hoi).1;have hik:i=k:=by
   by_cases hlt:i<k
   ·have:=h1 i hlt;simp [Kk,Ks (show i<listed.size by omega)] at this h4;rw [this] at h4;cases h4
   ·by_cases e:i=k
    ·exact e
    ·have:=h5 _ (h3 i oi (by omega) hoi);rw [h2 (i-1) (by omega)] at this;cases this
  subst hik;have hset:∀ j,(listed.setIfInBounds i true).getD j false=if j=i then true else listed.getD j false:=by
   intro j;simp only [Kk,Array.getElem?_setIfInBounds];by_cases e:j=i
   ·subst e;rw [if_pos rfl,if_pos (by omega)];simp
   ·rw [if_neg (fun h=>e h.symm),if_neg e]
  have ih:=fun a' w'=>pe (Q':=Q') hback rest (i+1) (listed.setIfInBounds i true) a' w' (by simpa using hs) (fun j=>by have:=hr (j+1);simpa [Nat.add_assoc,Nat.add_comm 1 j] using this) (by simp at hl;omega)
   (fun j hj=>by
    rw [hset];by_cases e:j=i
    ·rw [if_pos e]
    ·rw [if_neg e];exact h1 j (by omega))
   (fun j hj=>by rw [hset,if_neg (by omega)];exact h2 j (by omega)) (fun j oj hj hoj=>h3 j oj (by omega) hoj)
  have hop:l.toArray[i]? = some o:=by simpa using hok
  unfold wpOp;simp only [hop];unfold wpList at h;split at h
  ·rename_i hw;rw [if_pos hw];exact h.imp (Oper.wp_mono fun a' w' hh=>ih a' w' hh) id
  ·rename_i hw;rw [if_neg hw];exact ih _ _ h
def Cf (k:Nat) (s:AS):Bool:=(s.t.all fun p => !AV.men k p.2)&&s.h.all fun p => !AO.men k p.2
theorem BH {α:Type} {d:α} {p:α→Bool} (hd:p d=true):∀ {l:List (Nat×α)},l.all (fun x=>p x.2)=true→∀ i,p (lk d l i)=true
 | [],_,i=>hd
 | (j,u)::l,h,i=>by
  simp only [List.all_cons,Kj] at h;simp only [lk];cases Nat.beq i j with
  | true=>exact h.1
  | false=>exact BH hd h.2 i
theorem sP {k:Nat} {s:AS} (h:Cf k s=true):DO k s:=by simp only [Cf,Kj] at h;exact ⟨fun t=>by have:=BH (p:=fun v => !AV.men k v) (d:=.any) rfl h.1 t;simpa using this,fun j=>by have:=BH (p:=fun v => !AO.men k v) (d:=.gone) rfl h.2 j;simpa using this⟩
def qm (k:Nat) (e:cF):Bool:=(e.ws.any fun p=>AV.men k p.2)||e.os.any fun p=>AO.men k p.2
def zL (cl:List (List Nat)) (es:List cF) (s:AS):Bool:=es.zipIdx.all fun (e,i)=>e.fr.all fun k=>Cf k s&&es.zipIdx.all fun (e',j)=>Nat.beq i j || !qm k e'||(Nat.blt i j&&(cl.getD j []).any (Nat.beq i))
def HF (cl:List (List Nat)) (es:List cF) (i t:Nat):Bool:=es.zipIdx.any fun (e',j)=>(cl.getD i []).any (Nat.beq j)&&e'.os.any fun q=>Nat.beq q.1 t
def Bj (ov:Nat→Bool) (k t:Nat) (s:AS):Bool:=(s.t.all fun p=>Nat.beq p.1 t || !AV.men k p.2)&&s.h.all fun p => !AO.men k p.2||ov p.1
theorem Df {α:Type} {d:α} {p:Nat→α→Bool} (hd:∀ i,p i d=true):∀ {l:List (Nat×α)},l.all (fun x=>p x.1 x.2)=true→∀ i,p i (lk d l i)=true
 | [],_,i=>hd i
 | (j,u)::l,h,i=>by
  simp only [List.all_cons,Kj] at h;simp only [lk];cases e:Nat.beq i j with
  | true=>rw [bP.1 e];exact h.1
  | false=>exact Df hd h.2 i
theorem tg {α:Type} {wr:cF→Option α}:∀ {es:List cF} {bs:List Bool},lw wr es bs=none→∀ (j:Nat) (e:cF),es[j]? = some e→bs[j]? = some true→wr e=none
 | [],bs,_,j,e,h,_=>by simp at h
 | e0::es,[],_,j,e,_,h=>by simp at h
 | e0::es,b::bs,h,j,e,h1,h2=>by
  simp only [lw] at h;split at h
  ·cases h
  ·rename_i hn;cases j with
   | zero =>
    simp only [List.getElem?_cons_zero,Kr] at h1 h2;subst h1;subst h2;simpa using h
   | succ j=>exact tg hn j e (by simpa using h1) (by simpa using h2)
theorem CJ {α:Type}:∀ {l:List (Nat×α)} {i:Nat},l.any (fun p=>Nat.beq p.1 i)=true→fU l i≠none
 | [],i,h=>by simp at h
 | (k,v)::l,i,h=>by
  simp only [fU];cases e:Nat.beq i k with
  | true=>simp
  | false =>
   simp only [List.any_cons,Bool.or_eq_true] at h;rcases h with h | h
   ·have h:=bP.1 h;subst h;rw [Nat.beq_refl] at e;cases e
   ·exact CJ h
theorem uz {cl:List (List Nat)} {es:List cF} {i t:Nat} {bs:List Bool} (h:HF cl es i t=true) (hc:∀ j∈cl.getD i [],j<es.length→bs[j]? = some true) (hn:lw (fun e=>fU e.os t) es bs=none):False:=by
 obtain ⟨⟨e',j⟩,hm,hb⟩:=List.any_eq_true.1 h;rw [List.mem_iff_getElem?] at hm;obtain ⟨m,hm⟩:=hm;rw [List.getElem?_zipIdx] at hm;cases he:es[m]? with
 | none=>rw [he] at hm;cases hm
 | some e2 =>
  rw [he] at hm;simp only [Option.map_some,Kr,Prod.mk.injEq,Nat.zero_add] at hm;obtain ⟨rfl,rfl⟩:=hm;simp only [Kj] at hb;obtain ⟨x,hx,hb1⟩:=List.any_eq_true.1 hb.1;have hb1:=bP.1 hb1;subst hb1;exact CJ hb.2 (tg hn m e2 he (hc m hx (Kq.1 he).1))
def nK (k t:Nat) (e:cF):Bool:=(e.ws.any fun p => !Nat.beq p.1 t&&AV.men k p.2)||e.os.any fun p=>AO.men k p.2
def zK (cl:List (List Nat)) (es:List cF) (s:AS):Bool:=es.zipIdx.all fun (e,i)=>e.ex.all fun (k,t)=>Bj (HF cl es i) k t s&&es.zipIdx.all fun (e',j)=>Nat.beq i j || !nK k t e'||(Nat.blt i j&&(cl.getD j []).any (Nat.beq i))
theorem CV {α:Type} {d:α} {p:α→Bool} (hd:p d=true) {t:Nat}:∀ {l:List (Nat×α)},l.all (fun x=>Nat.beq x.1 t||p x.2)=true→∀ i,i≠t→p (lk d l i)=true
 | [],_,i,_=>hd
 | (j,u)::l,h,i,hi=>by
  simp only [List.all_cons,Kj,Bool.or_eq_true] at h;simp only [lk];cases e:Nat.beq i j with
  | true =>
   have e:=bP.1 e;subst e;rcases h.1 with h1 | h1
   ·exact absurd (bP.1 h1) hi
   ·exact h1
  | false=>exact CV hd h.2 i hi
theorem ti {ov:Nat→Bool} {k t:Nat} {s:AS} (h:Bj ov k t s=true):(∀ i,i≠t→AV.men k (lk .any s.t i)=false)∧∀ j,AO.men k (lk .gone s.h j)=true→ov j=true:=by simp only [Bj,Kj] at h;refine ⟨fun i hi=>by have:=CV (p:=fun v => !AV.men k v) (d:=.any) rfl h.1 i hi;simpa using this,fun j hj => ?_⟩;have:=Df (p:=fun j v => !AO.men k v||ov j) (d:=.gone) (fun _=>rfl) h.2 j;rw [hj] at this;simpa using this
theorem ry {α:Type}:∀ {l:List (Nat×α)} {i:Nat} {v:α},fU l i=some v→(i,v)∈l
 | [],_,_,h=>by cases h
 | (k,u)::l,i,v,h=>by
  simp only [fU] at h;by_cases e:i=k
  ·subst e;rw [Nat.beq_refl] at h;cases h;simp
  ·rw [bG e] at h;exact List.mem_cons_of_mem _ (ry h)
theorem AH {k t:Nat} {e:cF} {v:AV} (h:qm k e=false) (hv:fU e.ws t=some v):AV.men k v=false:=by simp only [qm,Bool.or_eq_false_iff] at h;rw [Bool.eq_false_iff];intro hc;have:(e.ws.any fun p=>AV.men k p.2)=true:=List.any_eq_true.2 ⟨(t,v),ry hv,hc⟩;rw [h.1] at this;cases this
theorem zo {k t:Nat} {e:cF} {v:AO} (h:qm k e=false) (hv:fU e.os t=some v):AO.men k v=false:=by simp only [qm,Bool.or_eq_false_iff] at h;rw [Bool.eq_false_iff];intro hc;have:(e.os.any fun p=>AO.men k p.2)=true:=List.any_eq_true.2 ⟨(t,v),ry hv,hc⟩;rw [h.2] at this;cases this
theorem wU {k t0 t:Nat} {e:cF} {v:AV} (h:nK k t0 e=false) (hv:fU e.ws t=some v) (ht:t≠t0):AV.men k v=false:=by simp only [nK,Bool.or_eq_false_iff] at h;rw [Bool.eq_false_iff];intro hc;have:(e.ws.any fun p => !Nat.beq p.1 t0&&AV.men k p.2)=true:=List.any_eq_true.2 ⟨(t,v),ry hv,by simp [bG ht,hc]⟩;rw [h.1] at this;cases this
theorem xm {k t0 t:Nat} {e:cF} {v:AO} (h:nK k t0 e=false) (hv:fU e.os t=some v):AO.men k v=false:=by simp only [nK,Bool.or_eq_false_iff] at h;rw [Bool.eq_false_iff];intro hc;have:(e.os.any fun p=>AO.men k p.2)=true:=List.any_eq_true.2 ⟨(t,v),ry hv,hc⟩;rw [h.2] at this;cases this
theorem Cz {e1 e2:cF} {r1 r2:List Nat×List AV} {t:Nat} (h1:fU e1.ws t≠none) (h2:fU e2.ws t≠none):oe e1 e2 r1 r2=true:=by obtain ⟨p,hp,rfl⟩:=o8 h1;obtain ⟨q,hq,hq2⟩:=o8 h2;simp only [oe,Bool.or_eq_true];exact .inl (.inl (.inl (List.any_eq_true.2 ⟨p,hp,by rw [Bool.or_eq_true];exact .inl (List.any_eq_true.2 ⟨q,hq,bP.2 hq2.symm⟩)⟩)))
theorem CN {e1 e2:cF} {r1 r2:List Nat×List AV} {t:Nat} (h1:fU e1.os t≠none) (h2:fU e2.os t≠none):oe e1 e2 r1 r2=true:=by obtain ⟨p,hp,rfl⟩:=o8 h1;obtain ⟨q,hq,hq2⟩:=o8 h2;simp only [oe,Bool.or_eq_true];exact .inl (.inr (List.any_eq_true.2 ⟨p,hp,by rw [Bool.or_eq_true];exact .inl (List.any_eq_true.2 ⟨q,hq,bP.2 hq2.symm⟩)⟩))
theorem C4 {e1 e2:cF} {r1 r2:List Nat×List AV} {t:Nat} (h1:fU e1.ws t≠none) (h2:t∈r2.1):oe e1 e2 r1 r2=true:=by obtain ⟨p,hp,rfl⟩:=o8 h1;simp only [oe,Bool.or_eq_true];exact .inl (.inl (.inl (List.any_eq_true.2 ⟨p,hp,by rw [Bool.or_eq_true];exact .inr (List.any_eq_true.2 ⟨p.1,h2,Nat.beq_refl _⟩)⟩)))
theorem Di {e1 e2:cF} {r1 r2:List Nat×List AV} {t:Nat} (h1:fU e2.ws t≠none) (h2:t∈r1.1):oe e1 e2 r1 r2=true:=by obtain ⟨p,hp,rfl⟩:=o8 h1;simp only [oe,Bool.or_eq_true];exact .inl (.inl (.inr (List.any_eq_true.2 ⟨p,hp,List.any_eq_true.2 ⟨p.1,h2,Nat.beq_refl _⟩⟩)))
theorem Ck {e1 e2:cF} {r1 r2:List Nat×List AV} {k:Nat} {v:AV} (h1:fU e1.os k≠none) (h2:v∈r2.2) (h3:AV.men k v=true):oe e1 e2 r1 r2=true:=by obtain ⟨p,hp,rfl⟩:=o8 h1;simp only [oe,Bool.or_eq_true];exact .inl (.inr (List.any_eq_true.2 ⟨p,hp,by rw [Bool.or_eq_true];exact .inr (List.any_eq_true.2 ⟨v,h2,h3⟩)⟩))
theorem Dm {e1 e2:cF} {r1 r2:List Nat×List AV} {k:Nat} {v:AV} (h1:fU e2.os k≠none) (h2:v∈r1.2) (h3:AV.men k v=true):oe e1 e2 r1 r2=true:=by obtain ⟨p,hp,rfl⟩:=o8 h1;simp only [oe,Bool.or_eq_true];exact .inr (List.any_eq_true.2 ⟨p,hp,List.any_eq_true.2 ⟨v,h2,h3⟩⟩)
theorem jr.symm' {s s':AS} (h:jr s s'):jr s' s:=⟨h.n.symm,fun i=>(h.t i).symm,fun k=>(h.h k).symm⟩
theorem Fq {id:Nat} {Q:Exit→AS→Prop} (hm:P.follows .mixedOrders=true) (n:Nat) (es:List cF) {s s1:AS} (hchk:(wg l n es s&&zL (k7 l []) es s&&zK (k7 l []) es s)=true) (hch:xf P l.toArray (l.take n) es s s1)
 (ht:fy P l.toArray (l.drop n) Q s1):eE P (.region id l.toArray true) Q s:=fun c a w β κ r=>by
 simp only [Kj,wg] at hchk;obtain ⟨⟨⟨⟨⟨⟨c1,c2⟩,c3⟩,c5⟩,c6⟩,c7⟩,c8⟩:=hchk;have hen:es.length=n:=bP.1 c1;have hnl:n≤l.length:=by simpa [Nat.ble_eq] using c2
 obtain ⟨k1,k2,k3⟩:=hch.loc;have htk:∀ i,i<n→(l.take n)[i]? = l[i]? := fun i hi=>by rw [List.getElem?_take,if_pos hi]
 have htail:(∀ i o,n<i→l[i]? = some o→(i-1)∈aft o)∧(n<l.length→∀ j,j<n→j∈(k7 l []).getD n []):=by
  cases hd:l.drop n with
  | nil =>
   have hle:l.length≤n:=by simpa using hd
   exact ⟨fun i o hi ho=>by have:=(Kq.1 ho).1;omega,fun h=>by omega⟩
  | cons o0 os =>
   rw [hd] at c6;simp only [Kj] at c6;refine ⟨fun i o hi ho => ?_,fun _ j hj => ?_⟩
   ·have hget:os[i-(n+1)]? = some o:=by
     have:(l.drop n)[i-n]? = some o:=by rw [List.getElem?_drop,show n+(i-n)=i by omega];exact ho
     rw [hd,show i-n=(i-(n+1))+1 by omega,List.getElem?_cons_succ] at this;exact this
    have:=qq c6.2 _ o hget;rw [show n+(i-(n+1))=i-1 by omega] at this;exact this
   ·obtain ⟨x,hx,hb⟩:=List.any_eq_true.1 (Ku.1 c6.1 j (vG hj));have:j=x:=bP.1 hb;subst this;exact hx
 have main:∀ (f:Nat) (listed:Array Bool) (a:Act) (w:World) (β:Nat→Nat) (κ:Nat→Nat×Nat),listed.size=l.length→B2 l listed→cntF (listed.toList.take n)=f→(∀ i,n≤i→listed.getD i false=false) →
  Rel c (sL es (listed.toList.take n) s) a w β κ→wpAny P .any l.toArray (lift c Q) (f+(l.length-n)) listed a w:=by
  intro f;induction f with
  | zero =>
   intro listed a w β κ hs hcl hcnt hun hr;have hml:(listed.toList.take n).length=n:=by simp;omega
   have hall:=sq hcnt;rw [hml] at hall;rw [hall,← hen,← k2] at hr;have hlist:=ht c a w β κ hr;have hdl:(l.drop n).length=l.length-n:=by simp
   rw [Nat.zero_add,← hdl];refine pe c5 (l.drop n) n listed a w hs (fun j=>by rw [List.getElem?_drop]) (by rw [hdl];omega) (fun i hi => ?_) hun htail.1 hlist;have h1:=nF (listed:=listed) hi (by omega);rw [hall,List.getElem?_replicate,if_pos hi] at h1;exact (Kt h1).symm
  | succ f ih =>
   intro listed a w β κ hs hcl hcnt hun hr;have hml:(listed.toList.take n).length=n:=by simp;omega
   obtain ⟨i0,hi0⟩:=uW (bs:=listed.toList.take n) (by omega);have hi0n:i0<n:=by have:=(Kq.1 hi0).1;omega
   have hgf:∀ i,i<n→(listed.toList.take n)[i]? = some (listed.getD i false):=fun i hi=>nF hi (by omega);have hready:∀ i∈Region.ready .any l.toArray listed,i<n∧listed.getD i false=false∧∃ o,l[i]? = some o∧∀ j∈aft o,listed.getD j false=true:=by
    intro i hi;obtain ⟨h4,o,ho,h5⟩:=gY.1 hi;have hil:i<l.length:=(Kq.1 ho).1;have h6:listed.getD i false=false:=by simp [Kk,Ks (show i<listed.size by omega)] at h4 ⊢;exact h4
    refine ⟨?_,h6,o,ho,h5⟩;by_cases hin:i<n
    ·exact hin
    ·exfalso;by_cases e:i=n
     ·subst e;have:=dK hcl l [] (fun j=>by simp) (fun k hk=>by simp at hk) (by simpa using c5) i o ho (by simpa using hil) h5 i0 (htail.2 hil i0 hi0n);rw [hgf i0 hi0n,this] at hi0;cases hi0
     ·have:=h5 _ (htail.1 i o (by omega) ho);rw [hun (i-1) (by omega)] at this;cases this
   rw [show f+1+(l.length-n)=(f+(l.length-n))+1 by omega];refine ⟨fun h0 => ?_,fun i hi => ?_⟩
   ·
    exfalso;have hex:∃ i,i<n∧listed.getD i false=false∧∀ j,j<i→listed.getD j false=true:=by
     have gen:∀ m,(∀ j,j<m→listed.getD j false=true)∨∃ i,i<m∧listed.getD i false=false∧∀ j,j<i→listed.getD j false=true:=by
      intro m;induction m with
      | zero=>exact .inl fun j hj=>by omega
      | succ m ihm =>
       rcases ihm with h | ⟨i,h1,h2,h3⟩
       ·cases hb:listed.getD m false with
        | true =>
         refine .inl fun j hj => ?_;by_cases e:j=m
         ·rw [e];exact hb
         ·exact h j (by omega)
        | false=>exact .inr ⟨m,by omega,hb,h⟩
       ·exact .inr ⟨i,by omega,h2,h3⟩
     rcases gen n with h | ⟨i,h1,h2,h3⟩
     ·have:=h i0 hi0n;rw [hgf i0 hi0n,this] at hi0;cases hi0
     ·exact ⟨i,h1,h2,h3⟩
    obtain ⟨i,h1,h2,h3⟩:=hex;have hil:i<l.length:=by omega
    have:i∈Region.ready .any l.toArray listed:=by
     refine gY.2 ⟨?_,l[i],Ki hil,fun j hj=>h3 j ?_⟩
     ·simp [Kk,Ks (show i<listed.size by omega)] at h2 ⊢;exact h2
     ·have:=nE c5 i _ (Ki hil) j hj;omega
    rw [h0] at this;cases this
   ·obtain ⟨hin,hif,o,ho,haft⟩:=hready i hi;obtain ⟨e,he⟩:∃ e,es[i]? = some e:=⟨es[i]'(by omega),Ki (by omega)⟩;have hloc:=k3 i o e (by rw [htk i hin];exact ho) he;have hbi:(listed.toList.take n)[i]? = some false:=by rw [hgf i hin,hif]
    let lex:=(List.range es.length).map fun j=>decide (j<i)
    have hlex:∀ j,j<n→lex[j]? = some (decide (j<i)):=fun j hj=>by simp [lex,hen,hj]
    have hlexl:lex.length=(listed.toList.take n).length:=by simp [lex,hen];omega
    have hord:∀ (j:Nat) (oj:Oper) (ej:cF),l[j]? = some oj→es[j]? = some ej→j≠i →
     (∀ r1 r2,(infos l.toArray (l.take n) es s)[min i j]? = some r1→(infos l.toArray (l.take n) es s)[max i j]? = some r2→oe (if i<j then e else ej) (if i<j then ej else e) r1 r2=true)→(listed.toList.take n)[j]? = lex[j]? := by
     intro j oj ej hoj hej hji hcf;have hjn:j<n:=by have:=(Kq.1 hej).1;omega
     have i1:=gr (ops:=l.toArray) (s:=s) k1 i o (by rw [htk i hin];exact ho);have i2:=gr (ops:=l.toArray) (s:=s) k1 j oj (by rw [htk j hjn];exact hoj);rw [hgf j hjn,hlex j hjn];rcases Nat.lt_or_ge j i with hlt | hge
     ·rw [show min i j=j by omega,show max i j=i by omega,if_neg (by omega),if_neg (by omega)] at hcf;have hm:=nG c3 hej i2 he i1 hlt (hcf _ _ i2 i1);have:=dK hcl l [] (fun j=>by simp) (fun k hk=>by simp at hk) (by simpa using c5) i o ho (by simpa using (Kq.1 ho).1) haft j hm;rw [this];simp [hlt]
     ·rw [show min i j=i by omega,show max i j=j by omega,if_pos (by omega),if_pos (by omega)] at hcf;have hm:=nG c3 he i1 hej i2 (by omega) (hcf _ _ i1 i2);have:listed.getD j false=false:=by
       cases hb:listed.getD j false with
       | false=>rfl
       | true =>
        have:=dK hcl l [] (fun j=>by simp) (fun k hk=>by simp at hk) (by simpa using c5) j oj hoj (by simpa using (Kq.1 hoj).1) (hcl j oj hoj hb) i hm;rw [hif] at this;cases this
      rw [this];simp;omega
    have hoj:∀ (j:Nat) (ej:cF),es[j]? = some ej→∃ oj,l[j]? = some oj:=fun j ej h=>by have:=(Kq.1 h).1;exact ⟨l[j]'(by omega),Ki (by omega)⟩
    have hii:(listed.toList.take n)[i]? = lex[i]? := by rw [hbi,hlex i hin];simp
    have hagree:qM l.toArray o (sL es lex s) (sL es (listed.toList.take n) s):=by
     refine ⟨by rw [BM,BM],fun t hlt => ?_,fun hmv x hx k hk => ?_⟩
     ·rw [uh,uh,kU hlexl.symm fun j ej h1 h2 => ?_];by_cases hji:j=i
      ·rw [hji];exact hii
      obtain ⟨oj,h3⟩:=hoj j ej h1;refine hord j oj ej h3 h1 hji fun r1 r2 q1 q2 => ?_;have i1:=gr (ops:=l.toArray) (s:=s) k1 i o (by rw [htk i hin];exact ho);by_cases hlt2:i<j
      ·rw [if_pos hlt2,if_pos hlt2];rw [show min i j=i by omega,i1] at q1;cases q1;exact Di h2 hlt
      ·rw [if_neg hlt2,if_neg hlt2];rw [show max i j=i by omega,i1] at q2;cases q2;exact C4 h2 hlt
     ·rw [uM,uM,kU hlexl.symm fun j ej h1 h2 => ?_];by_cases hji:j=i
      ·rw [hji];exact hii
      obtain ⟨oj,h3⟩:=hoj j ej h1;refine hord j oj ej h3 h1 hji fun r1 r2 q1 q2 => ?_;have i1:=gr (ops:=l.toArray) (s:=s) k1 i o (by rw [htk i hin];exact ho);have hxm:(sL es lex s).op x∈(bif Ic o.op then [] else o.op.operands.toList.map (sL es lex s).op):=by rw [hmv];exact List.mem_map.2 ⟨x,by simpa using hx,rfl⟩
      by_cases hlt2:i<j
      ·rw [if_pos hlt2,if_pos hlt2];rw [show min i j=i by omega,i1] at q1;cases q1;exact Dm h2 hxm hk
      ·rw [if_neg hlt2,if_neg hlt2];rw [show max i j=i by omega,i1] at q2;cases q2;exact Ck h2 hxm hk
    have hfree:∀ k∈e.fr,DO k (sL es (listed.toList.take n) s):=by
     intro k hk;have h1:=Ku.1 (Ku.1 c7 (e,i) (by rw [List.mem_iff_getElem?];exact ⟨i,by simp [he]⟩)) k hk;simp only [Kj] at h1;obtain ⟨f1,f2⟩:=sP h1.1;have hother:∀ (j:Nat) (e':cF),es[j]? = some e'→(listed.toList.take n)[j]? = some true→qm k e'=false:=by
      intro j e' h2 h3;have hne:i≠j:=by rintro rfl;rw [hbi] at h3;cases h3
      have h4:=Ku.1 h1.2 (e',j) (by rw [List.mem_iff_getElem?];exact ⟨j,by simp [h2]⟩);simp only [bG hne,Bool.false_or,Bool.or_eq_true,Bool.not_eq_true',Kj] at h4;rcases h4 with h4 | ⟨h4,h5⟩
      ·exact h4
      ·exfalso;obtain ⟨x,hx,hb⟩:=List.any_eq_true.1 h5;have hxi:i=x:=bP.1 hb;subst hxi;obtain ⟨oj,hoj'⟩:=hoj j e' h2;have hjn:j<n:=by have:=(Kq.1 h2).1;omega
       rw [hgf j hjn] at h3;have hb2:listed.getD j false=true:=Kt h3;have:=dK hcl l [] (fun j=>by simp) (fun k hk=>by simp at hk) (by simpa using c5) j oj hoj' (by simpa using (Kq.1 hoj').1) (hcl j oj hoj' hb2) i hx;rw [hif] at this;cases this
     refine ⟨fun t => ?_,fun t => ?_⟩
     ·rw [uh];cases hv:lw (fun e=>fU e.ws t) es (listed.toList.take n) with
      | none=>exact f1 t
      | some v =>
       obtain ⟨j,e',h2,h3,h4⟩:=nL hv;exact AH (hother j e' h2 h3) h4
     ·rw [uM];cases hv:lw (fun e=>fU e.os t) es (listed.toList.take n) with
      | none=>exact f2 t
      | some v =>
       obtain ⟨j,e',h2,h3,h4⟩:=nL hv;exact zo (hother j e' h2 h3) h4
    have honly:∀ p∈e.ex,G7 p.1 p.2 (sL es (listed.toList.take n) s):=by
     rintro ⟨k,t0⟩ hk;have h1:=Ku.1 (Ku.1 c8 (e,i) (by rw [List.mem_iff_getElem?];exact ⟨i,by simp [he]⟩)) (k,t0) hk;simp only [Kj] at h1;obtain ⟨f1,f2⟩:=ti h1.1;have hother:∀ (j:Nat) (e':cF),es[j]? = some e'→(listed.toList.take n)[j]? = some true→nK k t0 e'=false:=by
      intro j e' h2 h3;have hne:i≠j:=by rintro rfl;rw [hbi] at h3;cases h3
      have h4:=Ku.1 h1.2 (e',j) (by rw [List.mem_iff_getElem?];exact ⟨j,by simp [h2]⟩);simp only [bG hne,Bool.false_or,Bool.or_eq_true,Bool.not_eq_true',Kj] at h4;rcases h4 with h4 | ⟨h4,h5⟩
      ·exact h4
      ·exfalso;obtain ⟨x,hx,hb⟩:=List.any_eq_true.1 h5;have hxi:i=x:=bP.1 hb;subst hxi;obtain ⟨oj,hoj'⟩:=hoj j e' h2;have hjn:j<n:=by have:=(Kq.1 h2).1;omega
       rw [hgf j hjn] at h3;have hb2:listed.getD j false=true:=Kt h3;have:=dK hcl l [] (fun j=>by simp) (fun k hk=>by simp at hk) (by simpa using c5) j oj hoj' (by simpa using (Kq.1 hoj').1) (hcl j oj hoj' hb2) i hx;rw [hif] at this;cases this
     refine ⟨fun t htt => ?_,fun t => ?_⟩
     ·rw [uh];cases hv:lw (fun e=>fU e.ws t) es (listed.toList.take n) with
      | none=>exact f1 t htt
      | some v =>
       obtain ⟨j,e',h2,h3,h4⟩:=nL hv;exact wU (hother j e' h2 h3) h4 htt
     ·rw [uM];cases hv:lw (fun e=>fU e.os t) es (listed.toList.take n) with
      | none =>
       rw [Option.getD_none,Bool.eq_false_iff];intro hmen;refine uz (f2 t hmen) (fun j hj hjl => ?_) hv;have:=dK hcl l [] (fun j=>by simp) (fun k hk=>by simp at hk) (by simpa using c5) i o ho (by simpa using (Kq.1 ho).1) haft j hj;rw [hgf j (by omega),this]
      | some v =>
       obtain ⟨j,e',h2,h3,h4⟩:=nL hv;exact xm (hother j e' h2 h3) h4
    have hlater:∀ (j:Nat) (e':cF),i<j→es[j]? = some e'→(listed.toList.take n)[j]? = some true→(∀ r1 r2,oe e e' r1 r2=true)→False:=by
     intro j e' hij h1 h2 hcf;obtain ⟨oj,h3⟩:=hoj j e' h1;have:=hord j oj e' h3 h1 (by omega) fun r1 r2 _ _=>by rw [if_pos hij,if_pos hij];exact hcf r1 r2
     have hjn:j<n:=by have:=(Kq.1 h1).1;omega
     rw [h2,hlex j hjn] at this;simp at this;omega
    have hop:=hloc _ hagree hfree honly c a w β κ hr (wpAny P .any l.toArray (lift c Q) (f+(l.length-n)) (listed.setIfInBounds i true)) (lift c Q) (fun s' a' w' β' κ' hs' hr'=>by
     have hset:∀ j,(listed.setIfInBounds i true).getD j false=if j=i then true else listed.getD j false:=by
      intro j;simp only [Kk,Array.getElem?_setIfInBounds];by_cases e:j=i
      ·subst e;rw [if_pos rfl,if_pos (by omega)];simp
      ·rw [if_neg (fun h=>e h.symm),if_neg e]
     have htake:(listed.setIfInBounds i true).toList.take n=(listed.toList.take n).set i true:=by rw [Array.toList_setIfInBounds,List.take_set]
     refine ih (listed.setIfInBounds i true) a' w' β' κ' (by simpa using hs) (fun j oj hoj hl' j' hj' => ?_) ?_ (fun j hj => ?_) ?_
     ·rw [hset];by_cases e1:j'=i
      ·rw [if_pos e1]
      ·rw [if_neg e1];rw [hset] at hl';by_cases e2:j=i
       ·subst e2;rw [ho] at hoj;cases hoj;exact haft j' hj'
       ·rw [if_neg e2] at hl';exact hcl j oj hoj hl' j' hj'
     ·rw [htake];have:=vD hbi;omega
     ·rw [hset,if_neg (by omega)];exact hun j hj
     ·rw [htake];exact (hr'.same hs'.symm').same (Fz he hbi (fun t ht j e' hij h1 h2=>by
       cases hw:fU e'.ws t with
       | none=>rfl
       | some v=>exact (hlater j e' hij h1 h2 fun r1 r2=>Cz ht (by rw [hw];simp)).elim) (fun k hk j e' hij h1 h2=>by
       cases hw:fU e'.os k with
       | none=>rfl
       | some v=>exact (hlater j e' hij h1 h2 fun r1 r2=>CN hk (by rw [hw];simp)).elim) s))
    have hopi:l.toArray[i]? = some o:=by simpa using ho
    unfold wpOp;simp only [hopi];split
    ·rename_i hw;rw [if_pos hw] at hop;exact .inl hop
    ·rename_i hw;rw [if_neg hw] at hop;exact hop
 refine wp_region_any hm ?_;have hrep:((Array.replicate l.toArray.size false).toList.take n)=List.replicate n false:=by simp [List.take_replicate];omega
 have hcf:∀ n,cntF (List.replicate n false)=n:=by
  intro n;induction n with
  | zero=>rfl
  | succ n ih=>rw [List.replicate_succ,cntF,ih];simp;omega
 have hs0:∀ (es:List cF) (n:Nat) (s:AS),sL es (List.replicate n false) s=s:=by
  intro es;induction es with
  | nil=>intro n s;cases n<;>rfl
  | cons e es ih=>intro n s;cases n with
   | zero=>rfl
   | succ n=>rw [List.replicate_succ,sL];exact ih n s
 have hrf:∀ i,(Array.replicate l.toArray.size false).getD i false=false:=by intro i;simp [Kk,Array.getElem?_replicate];split<;>simp
 have:=main n (Array.replicate l.toArray.size false) a w.drew β κ (by simp) (fun i o _ h=>by rw [hrf] at h;cases h) (by rw [hrep,hcf]) (fun i _=>hrf i) (by rw [hrep,hs0];exact r.drew);rw [show n+(l.length-n)=l.toArray.size by simp;omega] at this;exact this
end
section
variable {P:Program} {ops:Array Oper} {o:Oper} {s s':AS}
theorem aS (ha:qM ops o s s') {x:Operand} (hx:x∈o.op.operands):s'.op x=s.op x:=by
 cases x with
 | tmp t =>
  refine ha.t t ?_;unfold Oper.looksAt;exact List.mem_append_left _ (List.mem_filterMap.2 ⟨.tmp t,by simpa using hx,rfl⟩)
 | const v=>rfl
 | global g=>rfl
 | func f=>rfl
theorem bC (ha:qM ops o s s'):gd ops s' o=gd ops s o:=by
 unfold gd;split
 ·rfl
 ·rename_i j b hg;cases hj:ops[j]? with
  | none=>rfl
  | some x =>
   cases hd:x.dst with
   | none=>simp only [hd]
   | some t =>
    simp only [hd];have:t∈o.looksAt ops:=by unfold Oper.looksAt;refine List.mem_append_right _ ?_;simp [hg,hj,hd]
    rw [ha.t t this,ha.n]
def mM (s s':AS) (v:AV):Prop:=∀ k,AV.men k v=true→lk .gone s'.h k=lk .gone s.h k
theorem wT {v:AV} (h:mM s s' v):nA s' v=nA s v:=by cases v<;>simp only [nA];case hptr k o=>rw [h k (by simp [AV.men])]
theorem s9 {v:AV} {t:TypeId} (h:mM s s' v):p8 P s' t v=p8 P s t v:=by unfold p8;rw [wT h]
theorem Br {v:AV} {t:TypeId} (h:mM s s' v):Eb P s' t v=Eb P s t v:=by
 cases v<;>simp only [Eb];case rslice k=>rw [h k (by simp [AV.men])]
 case amap k=>rw [h k (by simp [AV.men])]
theorem tY {x:Option Operand} {d:Int} (h:∀ y,x=some y→s'.op y=s.op y):pS s' d x=pS s d x:=by
 cases x with
 | none=>rfl
 | some y=>simp only [pS,h y rfl]
theorem yq {v:AV} {t:TypeId} {lo hi:Option Operand} (h1:∀ y,lo=some y→s'.op y=s.op y) (h2:∀ y,hi=some y→s'.op y=s.op y):sO P s' t v lo hi=sO P s t v lo hi:=by cases v<;>simp only [sO,tY h1,tY h2]
theorem yr {v:AV} {t:TypeId} {i:Operand} (h1:s'.op i=s.op i):rN P s' t v i=rN P s t v i:=by unfold rN;rw [h1]
theorem rY {v:AV} {t:TypeId} {i:Operand} (h1:s'.op i=s.op i) (h:mM s s' v):jF P s' t v i=jF P s t v i:=by
 unfold jF;rw [h1];cases v<;>try rfl
 case rslice k =>
  have:=h k (by simp [AV.men]);simp only [this]
theorem Ce {op:BinOp} {t:TypeId} {x y:Operand} (h1:s'.op x=s.op x) (h2:s'.op y=s.op y):za P s' op t x y=za P s op t x y:=by unfold za;rw [h1,h2]
theorem Bm {op:Op} (h1:∀ x∈op.operands,s'.op x=s.op x) (h2:∀ x∈op.operands,mM s s' (s.op x)):gq P s' op=gq P s op:=by
 cases op;case call c =>
  obtain ⟨callee,args,tys⟩:=c;cases callee;case builtin b =>
   have k1:∀ x∈args.toList,s'.op x=s.op x:=fun x hx=>h1 x (by simpa [Op.operands,Call.operands] using hx);have k2:∀ x∈args.toList,mM s s' (s.op x):=fun x hx=>h2 x (by simpa [Op.operands,Call.operands] using hx);simp only [gq];revert k1 k2;generalize args.toList=l;generalize tys.toList=tl;intro k1 k2;cases b<;>try rfl
   case len =>
    match l,tl,k1,k2 with
    | [x],[t],k1,k2=>simp only [k1 x (by simp),Br (k2 x (by simp))]
    | [],_,_,_=>rfl
    | _::_::_,_,_,_=>rfl
    | [_],[],_,_=>rfl
    | [_],_::_::_,_,_=>rfl
   case max =>
    match l,k1,k2 with
    | [x,y],k1,k2=>simp only [k1 x (by simp),k1 y (by simp)]
    | [],_,_=>rfl
    | [_],_,_=>rfl
    | _::_::_::_,_,_=>rfl
   case min =>
    match l,k1,k2 with
    | [x,y],k1,k2=>simp only [k1 x (by simp),k1 y (by simp)]
    | [],_,_=>rfl
    | [_],_,_=>rfl
    | _::_::_::_,_,_=>rfl
  all_goals rfl
 case makeFunc f first caps =>
  have k1:∀ x∈caps.toList,s'.op x=s.op x:=fun x hx=>h1 x (by simp [Op.operands] at hx ⊢;exact .inr hx);have k2:∀ x∈first.toList,s'.op x=s.op x:=fun x hx=>h1 x (by simp [Op.operands] at hx ⊢;exact .inl hx)
  cases f with
  | func g =>
   simp only [gq,List.map_congr_left k1];split
   ·rfl
   ·split
    ·rename_i x e1 e2;rw [k2 x (by rw [e1];simp)]
    ·rfl
  | _=>rfl
 case slice t x lo hi m =>
  have k0:s'.op x=s.op x:=h1 x (by simp [Op.operands]);have k1:∀ y,lo=some y→s'.op y=s.op y:=fun y hy=>h1 y (by simp [Op.operands,hy]);have k2:∀ y,hi=some y→s'.op y=s.op y:=fun y hy=>h1 y (by simp [Op.operands,hy]);cases m with
  | none=>simp only [gq,k0,yq k1 k2]
  | some z=>rfl
 case pick c a b =>
  simp only [gq,h1 c (by simp [Op.operands]),h1 a (by simp [Op.operands]),h1 b (by simp [Op.operands])]
 case binOp b t x y u =>
  simp only [gq,Ce (h1 x (by simp [Op.operands])) (h1 y (by simp [Op.operands]))]
 case index t x i =>
  simp only [gq,h1 x (by simp [Op.operands]),yr (h1 i (by simp [Op.operands]))]
 case indexAddr t x i =>
  simp only [gq,h1 x (by simp [Op.operands]),rY (h1 i (by simp [Op.operands])) (h2 x (by simp [Op.operands]))]
 case load t x =>
  simp only [gq,h1 x (by simp [Op.operands]),s9 (h2 x (by simp [Op.operands]))]
 case move x=>simp only [gq,h1 x (by simp [Op.operands])]
 case assign x=>simp only [gq,h1 x (by simp [Op.operands])]
 case fieldAddr t x f=>simp only [gq,h1 x (by simp [Op.operands])]
 case field t x f=>simp only [gq,h1 x (by simp [Op.operands])]
 case extract x i=>simp only [gq,h1 x (by simp [Op.operands])]
 case unOp u t x=>simp only [gq,h1 x (by simp [Op.operands])]
 case nilCheck x=>simp only [gq,h1 x (by simp [Op.operands])]
 case convert u t x=>simp only [gq,h1 x (by simp [Op.operands])]
 all_goals first | rfl | (simp only [gq,h1 _ (by simp [Op.operands])])
def cF.put (dst:Option Tmp) (v:AV):cF:=⟨match dst with | some t=>[(t,v)] | none=>[],[],[],[]⟩
theorem EE {dst:Option Tmp} {v:AV} {s1:AS} (h:s.put dst v=some s1):jr ((cF.put dst v).app s) s1:=by
 cases dst with
 | none=>cases h;exact .refl _
 | some t =>
  simp only [AS.put] at h;cases hlt:Nat.blt t s.n with
  | false=>rw [hlt] at h;cases h
  | true=>rw [hlt] at h;cases h;exact .refl _
theorem D6 {dst:Option Tmp} {v:AV} {s1:AS} (hn:s'.n=s.n) (h:s.put dst v=some s1):∃ s2,s'.put dst v=some s2:=by
 cases dst with
 | none=>exact ⟨_,rfl⟩
 | some t =>
  simp only [AS.put] at h ⊢;rw [hn];cases hlt:Nat.blt t s.n with
  | false=>rw [hlt] at h;cases h
  | true=>exact ⟨_,rfl⟩
theorem lI {dst:Option Tmp} {v:AV} {s1:AS} (hd:o.dst=dst) (hp:s.put dst v=some s1) (h:∀ s',qM ops o s s'→∀ s2,s'.put dst v=some s2→jl P ops o s' (· = s2)):Loc P ops o s (.put dst v):=by intro s' ha _ _;obtain ⟨s2,h2⟩:=D6 (s':=s') ha.n hp;exact (h s' ha s2 h2).mono fun s'' e=>by subst e;exact EE h2
theorem Fh (hg:gd ops s o=some false) {s1:AS} (h:s.put o.dst (.tup [])=some s1):Loc P ops o s (.put o.dst (.tup [])) :=
 lI rfl h fun _ ha _ h2=>Ht (by rw [bC ha];exact hg) h2
theorem ux (ha:qM ops o s s'):gq P s' o.op=gq P s o.op:=by
 cases hm:Ic o.op with
 | false=>exact Bm (fun x hx=>aS ha hx) (fun x hx k hk=>ha.h hm x hx k hk)
 | true =>
  have h1:=fun x (hx:x∈o.op.operands)=>aS ha hx;generalize o.op=op at hm h1;cases op<;>first | (simp [Ic] at hm;done) | (simp only [gq];rw [h1 _ (by simp [Op.operands])])
theorem Cq (hg:gd ops s o=some true) {p:Prop} {v:AV} (hv:gq P s o.op=some (p,v)) (hp:p) {s1:AS} (h:s.put o.dst v=some s1):Loc P ops o s (.put o.dst v) :=
 lI rfl h fun s' ha _ h2=>Jd (by rw [bC ha];exact hg) (by rw [ux ha];exact hv) hp h2
theorem rR {v:AV} (h:mM s s' v):AV.vw1 s'.h v=AV.vw1 s.h v:=by
 cases v<;>try rfl
 case rslice k =>
  have:=h k (by simp [AV.men]);simp only [AV.vw1,this]
 case hptr k o =>
  have:=h k (by simp [AV.men]);simp only [AV.vw1,this]
theorem Ge {v:AV} (h:mM s s' v):AV.vw s'.h v=AV.vw s.h v:=by
 cases v with
 | agg cs =>
  simp only [AV.vw,AV.agg.injEq];refine List.map_congr_left fun c hc=>rR fun k hk=>h k ?_;obtain ⟨i,hi,rfl⟩:=List.mem_iff_getElem.1 hc;simp only [AV.men];refine dh hi ?_;simpa [Kh,Ki hi] using hk
 | fn f cs =>
  simp only [AV.vw,AV.fn.injEq,true_and];refine List.map_congr_left fun c hc=>rR fun k hk=>h k ?_;obtain ⟨i,hi,rfl⟩:=List.mem_iff_getElem.1 hc;simp only [AV.men];refine dh hi ?_;simpa [Kh,Ki hi] using hk
 | _=>exact rR h
theorem vp {f:FuncId} (he:Go.Proofs.Enters P f) {x:Operand} {ar:Array Operand} {tys:Array TypeId} (hg:gd ops s o=some true) (hop:o.op = .call ⟨.value x,ar,tys⟩) {caps:List AV} (hx:s.op x = .fn f caps) (fl:Bool)
 {args:List AV} (hargs:(if fl then (if AV.flL (s.args ar caps) then some (s.args ar caps) else none) else some ((s.args ar caps).map (AV.vw s.h)))=some args) {v:AV} (hc:bT P f args [] fun r _=>r=v) (hok:uf fl v=true) {s1:AS} (h:s.put o.dst v=some s1):Loc P ops o s (.put o.dst v) :=
 lI rfl h fun s' ha s2 h2=>by
  have hxx:s'.op x=s.op x:=aS ha (by simp [hop,Op.operands,Call.operands]);have har:∀ y∈ar,s'.op y=s.op y:=fun y hy=>aS ha (by simp [hop,Op.operands,Call.operands,hy]);have e1:s'.args ar caps=s.args ar caps:=by unfold AS.args;rw [List.map_congr_left (fun y hy=>har y (by simpa using hy))]
  refine GV he (by rw [bC ha];exact hg) hop (by rw [hxx];exact hx) fl (args:=args) ?_ hc fun r h' hr=>by subst hr;exact ⟨hok,s2,h2,rfl⟩
  rw [e1];cases fl with
  | true=>exact hargs
  | false =>
   rw [← hargs];simp only [Bool.false_eq_true,if_false,Kr];refine List.map_congr_left fun u hu=>Ge fun k hk => ?_;unfold AS.args at hu;rcases List.mem_append.1 hu with hu | hu
   ·obtain ⟨y,hy,rfl⟩:=List.mem_map.1 hu;exact ha.h (by rw [hop];rfl) y (by simp [hop,Op.operands,Call.operands];exact .inr (by simpa using hy)) k hk
   ·refine ha.h (by rw [hop];rfl) x (by simp [hop,Op.operands,Call.operands]) k ?_;rw [hx];obtain ⟨i,hi,rfl⟩:=List.mem_iff_getElem.1 hu;simp only [AV.men];refine dh hi ?_;simpa [Kh,Ki hi] using hk
theorem xM {t:TypeId} {ps:Array (Nat×Operand)} (hg:gd ops s o=some true) (hop:o.op = .build t ps) {v:AV} (hv:uo P t (s.parts ps)=some v) {s1:AS} (h:s.put o.dst v=some s1):Loc P ops o s (.put o.dst v) :=
 lI rfl h fun s' ha _ h2=>EM (by rw [bC ha];exact hg) hop (by
  rw [← hv];congr 1;unfold AS.parts;refine List.map_congr_left fun p hp => ?_;rw [aS ha];rw [hop];simp only [Op.operands,List.mem_toArray,List.mem_map];exact ⟨p,hp,rfl⟩) h2
theorem oM {t:TypeId} {len:Nat} {ps:Array (Nat×Operand)} (hg:gd ops s o=some true) (hop:o.op = .buildSlice t len ps) {v:AV} (hv:cT P t len (s.parts ps)=some v) {s1:AS} (h:s.put o.dst v=some s1):Loc P ops o s (.put o.dst v) :=
 lI rfl h fun s' ha _ h2=>wC (by rw [bC ha];exact hg) hop (by
  rw [← hv];congr 1;unfold AS.parts;refine List.map_congr_left fun p hp => ?_;rw [aS ha];rw [hop];simp only [Op.operands,List.mem_toArray,List.mem_map];exact ⟨p,hp,rfl⟩) h2
theorem zW {x y:Operand} {t e:TypeId} {sz by_:Nat} (hg:gd ops s o=some true) (hop:o.op = .call ⟨.builtin .append,#[x,y],#[t,t]⟩) (he:dP P t=some (e,sz,by_)) (hx:s.op x = .eslice) {ys:List (List AV)} (hy:s.op y = .dslice ys)
 (hE:EL sz ys) (hb:ys.length*by_≤140737488355328) (h63:ys.length≤9223372036854775807) {s1:AS} (h:s.put o.dst (.dslice ys)=some s1):Loc P ops o s (.put o.dst (.dslice ys)) :=
 lI rfl h fun s' ha _ h2=>Bb (by rw [bC ha];exact hg) hop he (by rw [aS ha (by simp [hop,Op.operands,Call.operands])];exact hx) (by rw [aS ha (by simp [hop,Op.operands,Call.operands])];exact hy) hE hb h63 h2
end
theorem Rel.replace {P:Program} {c:Cx P} {s:AS} {a:Act} {w:World} {β:Nat→Nat} {κ:Nat→Nat×Nat} (r:Rel c s a w β κ) {k:Nat} (hlive:(lk .gone s.h k).live) {ob:AO} (hob:ob.live) {w':World} (hw1:∀ i,i≠β k→w'.heap[i]? = w.heap[i]?) (hkp:cI (fun i=>i≠β k) w w')
 (ho:(∀ {v:AV} {V:Value},G w (c.XX s.h β) β κ v V→G w' (c.XX s.h β) β κ v V)→(∀ {v:AV} {V:Value},D w (c.XX s.h β) v V→D w' (c.XX s.h β) v V)→HO w' (c.XX s.h β) β κ k ob) (hin:∀ j,ob.inn j↔(lk .gone s.h k).inn j:=by intro j;simp [AO.inn, *]):Rel c ⟨s.n,s.t,ins k ob s.h⟩ a w' β κ:=by
 have hsl:ob.live↔(lk .gone s.h k).live:=⟨fun _=>hlive,fun _=>hob⟩;have hlv:=fun j=>qJ (h:=s.h) hsl hin j;have hXX:c.XX (ins k ob s.h) β=c.XX s.h β:=tS c β hsl hin;have hw:∀ i,¬ c.XX s.h β i→i<w.heap.size→w'.heap[i]? = w.heap[i]? := fun i hi _=>hw1 _ (fun e=>hi (.inr ⟨k,.inl hlive,e.symm⟩));have hG:∀ {v:AV} {V:Value},G w (c.XX s.h β) β κ v V→G w' (c.XX s.h β) β κ v V:=fun hg=>hg.mono hw (fun _ h _=>h) (fun _ _=>.refl);refine ⟨r.df,r.sz,fun i => ?_,⟨fun j => ?_,fun i j hi hj e=>r.hp.inj i j ((hlv i).1 hi) ((hlv j).1 hj) e,r.hp.kp.trans hkp fun b hb e=>r.hp.nk k (.inl hlive) (e ▸ hb),fun j hj=>r.hp.nk j ((hlv j).1 hj),fun j hj=>r.hp.nx j ((hlv j).1 hj),r.hp.fix,fun j hj => ?_⟩⟩
 ·show G _ (c.XX (ins k ob s.h) β) β κ _ _;rw [hXX];exact hG (r.tm i)
 ·show HO _ (c.XX (ins k ob s.h) β) β κ j (lk .gone (ins k ob s.h) j);rw [hXX,az];by_cases ej:j=k
  ·subst ej;rw [if_pos rfl];exact ho hG fun hd=>hd.mono hw (fun _ h _=>h)
  ·rw [if_neg ej];exact (r.hp.ob j).mono hw (fun _ h _=>h) (fun _ _=>.refl) .refl (fun hl=>hw1 _ fun e=>ej (r.hp.inj j k (.inl hl) (.inl hlive) e)) (fun i hl=>hw1 _ (r.hp.vne hlive hl))
 ·rw [az] at hj;by_cases ej:j=k
  ·rw [ej];exact r.hp.sm k hlive
  ·rw [if_neg ej] at hj;exact r.hp.sg j hj
def wL (x:Key) (d:AV):List (Key×AV)→AV
 | []=>d
 | (k,u)::es=>if k=x then u else wL x d es
def kh (x:Key) (v:AV):List (Key×AV)→List (Key×AV)
 | []=>[(x,v)]
 | (k,u)::es=>if k=x then (x,v)::es else (k,u)::kh x v es
theorem rZ {x:Key} {d:AV}:∀ {es:List (Key×AV)},(∀ i,i<es.length→(es.getD i default).1≠x)→wL x d es=d
 | [],_=>rfl
 | (k,u)::es,h=>by have h0:=h 0 (by simp);simp only [List.getD_cons_zero] at h0;rw [wL,if_neg h0];exact rZ fun i hi=>by have:=h (i+1) (by simpa using hi);simpa using this
theorem xi {x:Key} {v:AV}:∀ {es:List (Key×AV)},(∀ i,i<es.length→(es.getD i default).1≠x)→kh x v es=es++[(x,v)]
 | [],_=>rfl
 | (k,u)::es,h=>by have h0:=h 0 (by simp);simp only [List.getD_cons_zero] at h0;rw [kh,if_neg h0,xi fun i hi=>by have:=h (i+1) (by simpa using hi);simpa using this];rfl
theorem Am {x:Key} {k:Key} {u:AV} {es:List (Key×AV)} {i:Nat} (hn:((k,u)::es).map (·.1) |>.Nodup) (hi:i<es.length) (h:(es.getD i default).1=x):k≠x:=by rintro rfl;rw [List.map_cons,List.nodup_cons] at hn;refine hn.1 (List.mem_map.2 ⟨es.getD i default,?_,h⟩);rw [Kh,Ki hi];exact List.getElem_mem hi
theorem yK {x:Key} {d:AV}:∀ {es:List (Key×AV)} {i:Nat},(es.map (·.1)).Nodup→i<es.length→(es.getD i default).1=x→wL x d es=(es.getD i default).2
 | (k,u)::es,0,_,_,h=>by simp only [List.getD_cons_zero] at h;rw [wL,if_pos h];rfl
 | (k,u)::es,i+1,hn,hi,h=>by
  have hi':i<es.length:=by simpa using hi
  have h':(es.getD i default).1=x:=by simpa using h
  rw [wL,if_neg (Am hn hi' h')];rw [List.map_cons,List.nodup_cons] at hn;rw [yK hn.2 hi' h'];simp
theorem CI {x:Key} {v:AV}:∀ {es:List (Key×AV)} {i:Nat},(es.map (·.1)).Nodup→i<es.length→(es.getD i default).1=x→kh x v es=es.set i (x,v)
 | (k,u)::es,0,_,_,h=>by simp only [List.getD_cons_zero] at h;rw [kh,if_pos h];rfl
 | (k,u)::es,i+1,hn,hi,h=>by
  have hi':i<es.length:=by simpa using hi
  have h':(es.getD i default).1=x:=by simpa using h
  rw [kh,if_neg (Am hn hi' h')];rw [List.map_cons,List.nodup_cons] at hn;rw [CI hn.2 hi' h'];rfl
theorem mk_inj {a b:List UInt8}:(Value.string ⟨a.toArray⟩=Value.string ⟨b.toArray⟩)↔a=b:=by
 constructor
 ·intro h;have h2:(⟨a.toArray⟩:ByteArray)=⟨b.toArray⟩:=by injection h
  have h3:a.toArray=b.toArray:=by injection h2
  simpa using h3
 ·rintro rfl;rfl
theorem Key.val_inj {a b:Key}:a.val=b.val↔a=b:=by
 constructor
 ·intro h;cases a<;>cases b<;>simp only [Key.val,reduceCtorEq] at h
  ·rw [mk_inj.1 h]
  ·injection h with _ h2;rw [h2]
 ·rintro rfl;rfl
def AV.key:AV→Option Key
 | .str b=>some (.s b)
 | .int .i64 n=>some (.i n)
 | _=>none
def Key.av:Key→AV
 | .s b=>.str b
 | .i n=>.int .i64 n
theorem G.key_inv {w:World} {X:Nat→Prop} {β:Nat→Nat} {κ:Nat→Nat×Nat} {x:AV} {V:Value} {k:Key} (h:G w X β κ x V) (e:x.key=some k):V=k.val∧k.ok:=by
 unfold AV.key at e;split at e
 ·cases e;exact ⟨h.str_inv,h.str_len⟩
 ·cases e;exact ⟨h.int_inv,trivial⟩
 ·cases e
theorem Key.is (k:Key):MapKept.IsKey k.desc k.val:=by cases k<;>simp [MapKept.IsKey,Key.desc,Key.val]
theorem Key.is' {k k':Key} (h:k'.kind=k.kind):MapKept.IsKey k.desc k'.val:=by cases k<;>cases k'<;>simp_all [MapKept.IsKey,Key.desc,Key.val,Key.kind]
theorem Key.D {w:World} {X:Nat→Prop} {k:Key} (h:k.ok):D w X k.av k.val:=by
 cases k with
 | s b=>exact .str b h
 | i n=>exact .int .i64 n
def Key.fits (k:Key):Option TypeDesc→Bool
 | some .string=>Nat.beq k.kind 0
 | some (.int .i64)=>Nat.beq k.kind 1
 | _=>false
theorem Key.fits_spec {k:Key} {d:Option TypeDesc} (h:k.fits d=true):d=some k.desc:=by cases k<;>unfold Key.fits at h<;>split at h<;>first | rfl | (cases h;done) | (simp [Key.kind] at h;done)
section
variable {P:Program} {ops:Array Oper} {o:Oper} {s:AS} {c:Cx P} {a:Act} {w:World} {β:Nat→Nat} {κ:Nat→Nat×Nat}
theorem Ah {w:World} {ents:Array MapEntry} {es:List (Key×AV)} {π:Nat→Nat} (hsz:ents.size=es.length) (hpi:∀ i,i<es.length→π i<es.length) (hon:∀ j,j<es.length→∃ i,i<es.length∧π i=j) (hkey:∀ i,i<es.length→(ents.getD (π i) default).key=(es.getD i default).1.val) (x:Key) (hkd:∀ p∈es,p.1.kind=x.kind) {kt:TypeId} (hk:P.underlying kt=some x.desc) :
 ((Instr.findKey kt x.val ents.toList).run P w = .ok none w∧∀ i,i<es.length→(es.getD i default).1≠x) ∨
  ∃ (i:Nat) (hj:π i<ents.size),i<es.length∧(Instr.findKey kt x.val ents.toList).run P w = .ok (some (π i,ents[π i].val)) w∧(es.getD i default).1=x:=by
 have hat:∀ j (hj:j<ents.size),ents.getD j default=ents[j]:=fun j hj=>by simp [Kk,hj]
 have hmem:∀ i,i<es.length→es.getD i default∈es:=fun i hi=>by rw [Kh,Ki hi];exact List.getElem_mem hi
 have hall:∀ e∈ents.toList,MapKept.IsKey x.desc e.key:=by
  intro e he;obtain ⟨j,hj,rfl⟩:=List.getElem_of_mem he;have hj':j<ents.size:=by simpa using hj
  obtain ⟨i,hi,rfl⟩:=hon j (by omega);rw [Array.getElem_toList,← hat _ hj',hkey i hi];exact Key.is' (hkd _ (hmem i hi))
 rcases MapKept.findNow_spec x.is ents.toList 0 hall with ⟨f1,f2⟩ | ⟨j,e,f1,f2,f3⟩
 ·refine .inl ⟨MapKept.run_findKey hk f1,fun i hi hc => ?_⟩;have hi':π i<ents.size:=by have:=hpi i hi;omega
  refine f2 ents[π i] (by simp) ?_;rw [← hat _ hi',hkey i hi,hc]
 ·have hj:j<ents.size:=by have:=(Kq.1 f2).1;simpa using this
  have he:ents[j]=e:=by have:=Kq.1 f2;obtain ⟨_,h⟩:=this;rw [← h];simp
  obtain ⟨i,hi,rfl⟩:=hon j (by omega);refine .inr ⟨i,hj,hi,?_,?_⟩
  ·have:=MapKept.run_findKey (w:=w) hk f1;rw [he];simpa using this
  ·have:=hkey i hi;rw [hat _ hj,he,f3] at this;exact (Key.val_inj.1 this).symm
theorem CZ {X:Nat→Prop} {k:Nat} {K E:TypeId} {es:List (Key×AV)} (h:HO w X β κ k (.smap K E es)) (x:Key) (hx:x.kind=K) {kt:TypeId} (hk:P.underlying kt=some x.desc) :
 ∃ (ents:Array MapEntry) (clock:Nat),w.heap[β k]? = some (.map ents clock)∧ents.size=es.length ∧
  (∀ i (h:i<ents.size),ents[i].key=(es.getD i default).1.val∧ents[i].born<clock∧D w X (es.getD i default).2 ents[i].val) ∧
  (∀ i j (hi:i<ents.size) (hj:j<ents.size),i<j→ents[i].born<ents[j].born)∧nU es∧(∀ p∈es,p.1.kind=K) ∧
  (((Instr.findKey kt x.val ents.toList).run P w = .ok none w∧∀ i,i<es.length→(es.getD i default).1≠x) ∨
   ∃ (j:Nat) (hj:j<ents.size),(Instr.findKey kt x.val ents.toList).run P w = .ok (some (j,ents[j].val)) w∧(es.getD j default).1=x):=by
 obtain ⟨ents,clock,h1,h2,h3,h4,h5,h6⟩:=h;refine ⟨ents,clock,h1,h2,h3,h4,h5,h6,?_⟩;rcases Ah (P:=P) (w:=w) (π:=id) h2 (fun i hi=>hi) (fun j hj=>⟨j,hj,rfl⟩) (fun i hi=>by
  have hi':i<ents.size:=by omega
  have:ents.getD i default=ents[i]:=by simp [Kk,hi']
  show (ents.getD i default).key=_;rw [this];exact (h3 i hi').1) x (fun p hp=>by rw [h6 p hp,hx]) hk with h | ⟨i,hj,_,f1,f2⟩
 ·exact .inl h
 ·exact .inr ⟨i,hj,f1,f2⟩
def AV.ez:AV→AV
 | .eslice=>.dslice []
 | v=>v
theorem D.ez {w:World} {X:Nat→Prop} {v:AV} {V:Value} (h:D w X v V):D w X (AV.ez v) V:=by
 unfold AV.ez;split
 ·cases h with | eslice a=>exact .dnil a 0 (Nat.zero_le _)
 ·exact h
def tD (P:Program) (s:AS) (t:TypeId) (m x:AV):Option AV :=
 match m,x.key with
 | .amap k,some x=>match lk .gone s.h k,P.underlying t with
  | .smap kd _ es,some (.map K E)=>match zeroOf P E with
   | some z=>bif x.fits (P.underlying K)&&Nat.beq x.kind kd then some (wL x (AV.ez (AV.of z)) es) else none
   | none=>none
  | _,_=>none
 | _,_=>none
def rj (P:Program) (s:AS) (t:TypeId) (m x v:AV):Option AS :=
 match m,x.key with
 | .amap k,some x=>match lk .gone s.h k,P.underlying t with
  | .smap kd E es,some (.map K' _)=>bif (x.fits (P.underlying K')&&Nat.beq x.kind kd)&&AV.fl v then some ⟨s.n,s.t,ins k (.smap kd E (kh x v es)) s.h⟩ else none
  | _,_=>none
 | _,_=>none
theorem bK {r0:Nat} {ents:Array MapEntry} {clock:Nat} (h:w.heap[r0]? = some (.map ents clock)):(getObj r0).run P w = .ok (.map ents clock) w:=MapKept.run_getObj_map h
theorem zq (r:Rel c s a w β κ) {t:TypeId} {m x v:AV} {M X:Value} (hm:G w (c.XX s.h β) β κ m M) (hx:G w (c.XX s.h β) β κ x X) (h:tD P s t m x=some v) :
 ∃ V,(Instr.lookup t M X false).run P w = .ok V w∧G w (c.XX s.h β) β κ v V:=by
 unfold tD at h;split at h
 ·rename_i k x ex;split at h
  ·rename_i kd E0 es K E hk hu;split at h
   ·rename_i z hz;cases hc:(x.fits (P.underlying K)&&Nat.beq x.kind kd) with
    | false=>rw [hc] at h;cases h
    | true =>
    rw [hc] at h;cases h;rw [Kj,Nat.beq_eq] at hc;have hK:=Key.fits_spec hc.1;have ho:=r.hp.ob k;rw [hk] at ho;obtain ⟨ents,clock,h1,h2,h3,h4,h5,_,h6⟩:=CZ (P:=P) ho x hc.2 hK;rw [hm.amap_inv,(hx.key_inv ex).1];have hck:∀ e,(Instr.checkKey e 10000 K x.val).run P w = .ok () w:=fun e=>MapKept.run_checkKey (k:=x.val) hK x.is e 9999;rcases h6 with ⟨f1,f2⟩ | ⟨j,hj,f1,f2⟩
    ·refine ⟨z,?_,?_⟩
     ·simp [Instr.lookup,aL hu,bK h1,hck,f1,jM hz,Result.andThen]
     ·rw [rZ f2];exact .d (D.of w _ z).ez
    ·refine ⟨ents[j].val,?_,?_⟩
     ·simp [Instr.lookup,aL hu,bK h1,hck,f1,Result.andThen]
     ·rw [yK h5.1 (by omega) f2];exact .d (h3 j hj).2.2
   ·cases h
  ·cases h
 ·cases h
theorem s5 (r:Rel c s a w β κ) {t:TypeId} {m x v:AV} {M X V:Value} (hm:G w (c.XX s.h β) β κ m M) (hx:G w (c.XX s.h β) β κ x X) (hv:G w (c.XX s.h β) β κ v V) {s':AS} (h:rj P s t m x v=some s') :
 ∃ w',(Instr.mapUpdate t M X V).run P w = .ok () w'∧Rel c s' a w' β κ:=by
 unfold rj at h;split at h
 ·rename_i k x ex;split at h
  ·rename_i K0 E0 es K E hk hu
   ·cases hfl2:((x.fits (P.underlying K)&&Nat.beq x.kind K0)&&AV.fl v) with
    | false=>rw [hfl2] at h;cases h
    | true =>
    rw [hfl2] at h;cases h;rw [Kj,Kj,Nat.beq_eq] at hfl2;obtain ⟨⟨hfit,hkd⟩,hfl⟩:=hfl2;have hK:=Key.fits_spec hfit;have ho:=r.hp.ob k;rw [hk] at ho;have hlive:(lk .gone s.h k).live:=by rw [hk];trivial
    obtain ⟨ents,clock,h1,h2,h3,h4,h5,h7,h6⟩:=CZ (P:=P) ho x hkd hK;rw [hm.amap_inv,(hx.key_inv ex).1];have hik:MapKept.IsKey x.desc x.val:=x.is;have hck:∀ e,(Instr.checkKey e 10000 K x.val).run P w = .ok () w:=fun e=>MapKept.run_checkKey (k:=x.val) hK hik e 9999;have hlt:β k<w.heap.size:=r.hp.lt (.inl hlive);have hkeeps:∀ o',cI (fun i=>i≠β k) w { w with heap:=w.heap.setIfInBounds (β k) o' }:=fun o'=>⟨rfl,rfl,rfl,by simp,fun b hb=>(MapKept.heap_set h1).2 b hb⟩;rcases h6 with ⟨f1,f2⟩ | ⟨j,hj,f1,f2⟩
    ·refine ⟨{ w with heap:=w.heap.setIfInBounds (β k) (.map (ents.push { key:=x.val,val:=V,born:=clock }) (clock+1)) },?_,?_⟩
     ·simp [Instr.mapUpdate,aL hu,bK h1,hck,f1,MapKept.run_setObj_map _ h1,Result.andThen]
     ·refine r.replace hlive (ob:=.smap K0 E0 (kh x v es)) trivial (fun i hi=>(MapKept.heap_set h1).2 i hi) (hkeeps _) fun hG hD2 => ?_;rw [xi f2];refine ⟨_,_,(MapKept.heap_set h1).1,by simp [h2],fun i hi => ?_,fun i j' hi hj' hlt' => ?_,?_⟩
      ·by_cases hi2:i<ents.size
       ·rw [Array.getElem_push_lt hi2,bR (by omega)];exact ⟨(h3 i hi2).1,by have:=(h3 i hi2).2.1;omega,hD2 (h3 i hi2).2.2⟩
       ·have:i=ents.size:=by simp at hi;omega
        subst this;rw [Array.getElem_push_eq,bb (by omega),show ents.size-es.length=0 by omega];exact ⟨rfl,by simp,(hG hv).toD hfl⟩
      ·by_cases hj2:j'<ents.size
       ·rw [Array.getElem_push_lt hj2,Array.getElem_push_lt (by omega:i<ents.size)];exact h4 i j' (by omega) hj2 hlt'
       ·have:j'=ents.size:=by simp at hj';omega
        subst this;rw [Array.getElem_push_eq,Array.getElem_push_lt hlt'];exact (h3 i hlt').2.1
      ·refine ⟨⟨?_,fun u hu1 => ?_⟩,fun p hp=>by
        rcases List.mem_append.1 hp with hp | hp
        ·exact h7 p hp
        ·rw [List.mem_singleton.1 hp];exact hkd⟩
       case refine_2 =>
        rw [List.map_append,List.mem_append] at hu1;rcases hu1 with hu1 | hu1
        ·exact h5.2 u hu1
        ·simp only [List.map_cons,List.map_nil,List.mem_singleton] at hu1;subst hu1;exact (hx.key_inv ex).2
       rw [List.map_append,List.nodup_append];refine ⟨h5.1,by simp,fun u hu1 v' hv' => ?_⟩;simp only [List.map_cons,List.map_nil,List.mem_singleton] at hv';subst hv';obtain ⟨p,hp,rfl⟩:=List.mem_map.1 hu1;obtain ⟨i,hi,rfl⟩:=List.getElem_of_mem hp;have:=f2 i hi;simpa [Kh,Ki hi] using this
    ·have hjk:ents[j].key=x.val:=by rw [(h3 j hj).1,f2]
     refine ⟨{ w with heap:=w.heap.setIfInBounds (β k) (.map (ents.modify j fun e=>{ e with key:=x.val,val:=V }) clock) },?_,?_⟩
     ·simp [Instr.mapUpdate,aL hu,bK h1,hck,f1,Ks hj,hjk,MapKept.run_keyThatStays hik,MapKept.run_setObj_map _ h1,Result.andThen]
     ·refine r.replace hlive (ob:=.smap K0 E0 (kh x v es)) trivial (fun i hi=>(MapKept.heap_set h1).2 i hi) (hkeeps _) fun hG hD2 => ?_;rw [CI h5.1 (by omega) f2];have hgs:∀ i,i<es.length→(es.set j (x,v)).getD i default=if j=i then (x,v) else es.getD i default:=by
       intro i hi;simp only [Kh,List.getElem?_set];by_cases e:j=i
       ·subst e;simp [hi]
       ·simp [e]
      refine ⟨_,_,(MapKept.heap_set h1).1,by simp [h2],fun i hi => ?_,fun i j' hi hj' hlt' => ?_,?_⟩
      ·have hi2:i<ents.size:=by simpa using hi
       rw [Array.getElem_modify,hgs i (by omega)];by_cases e:j=i
       ·subst e;rw [if_pos rfl,if_pos rfl];exact ⟨rfl,(h3 j hj).2.1,(hG hv).toD hfl⟩
       ·rw [if_neg e,if_neg e];exact ⟨(h3 i hi2).1,(h3 i hi2).2.1,hD2 (h3 i hi2).2.2⟩
      ·have hb2:∀ i (hi:i<(ents.modify j fun e=>{ e with key:=x.val,val:=V }).size),((ents.modify j fun e=>{ e with key:=x.val,val:=V })[i]).born=(ents[i]'(by simpa using hi)).born:=by intro i hi;rw [Array.getElem_modify];split<;>rfl
       rw [hb2 i hi,hb2 j' hj'];exact h4 i j' _ _ hlt'
      ·have:(es.set j (x,v)).map (·.1)=es.map (·.1):=by
        rw [List.map_set];refine List.ext_getElem (by simp) fun n hn1 hn2 => ?_;rw [List.getElem_set];split
        ·rename_i e;subst e;have:j<es.length:=by omega
         simp only [List.getElem_map];rw [← f2];simp [Kh,Ki this]
        ·rfl
       refine ⟨by unfold nU;rw [this];exact h5,fun p hp => ?_⟩;rcases List.mem_or_eq_of_mem_set hp with hp | rfl
       ·exact h7 p hp
       ·exact hkd
  ·cases h
 ·cases h
theorem Hn {t:TypeId} {m x:Operand} (hg:gd ops s o=some true) (hop:o.op = .lookup t m x false) {v:AV} (hv:tD P s t (s.op m) (s.op x)=some v) {s':AS} (h:s.put o.dst v=some s'):jl P ops o s (· = s') :=
 b9 hg fun c a w β κ r=>by obtain ⟨V,hr,hG⟩:=zq r (r.op m) (r.op x) hv;refine ⟨V,w,β,κ,.inl ?_,bE r hG h⟩;simp [execOp,hop,hr,Result.andThen]
theorem G0 {t:TypeId} {m x y:Operand} (hg:gd ops s o=some true) (hop:o.op = .mapUpdate t m x y) (hd:o.dst=none) {s':AS} (h:rj P s t (s.op m) (s.op x) (s.op y)=some s'):jl P ops o s (· = s') :=
 b9 hg fun c a w β κ r=>by obtain ⟨w',hr,r'⟩:=s5 r (r.op m) (r.op x) (r.op y) h;refine ⟨undef,w',β,κ,.inr ⟨?_,rfl⟩,by rw [hd];exact r'⟩;simp [execOp,hop,hr,Result.andThen]
theorem zC {s':AS} {t:TypeId} {m x:AV} (h:mM s s' m):tD P s' t m x=tD P s t m x:=by
 cases m<;>try rfl
 case amap k =>
  have:=h k (by simp [AV.men]);unfold tD;cases x.key with
  | none=>rfl
  | some y=>simp only [this]
theorem Gj {t:TypeId} {m x:Operand} (hg:gd ops s o=some true) (hop:o.op = .lookup t m x false) {v:AV} (hv:tD P s t (s.op m) (s.op x)=some v) {s1:AS} (h:s.put o.dst v=some s1):Loc P ops o s (.put o.dst v) :=
 lI rfl h fun s' ha _ h2=>Hn (by rw [bC ha];exact hg) hop (by
  rw [aS ha (x:=m) (by simp [hop,Op.operands]),aS ha (x:=x) (by simp [hop,Op.operands]),zC fun k hk=>ha.h (by rw [hop];rfl) m (by simp [hop,Op.operands]) k hk];exact hv) h2
end
def rk:List (Nat×Nat)→Nat→Option Nat
 | [],_=>none
 | (k,j)::ps,i=>bif Nat.beq i k then some j else rk ps i
def AV.ren1 (ps:List (Nat×Nat)):AV→AV
 | .hptr k o=>match rk ps k with | some j=>.hptr j o | none=>.any
 | .rslice k=>match rk ps k with | some j=>.rslice j | none=>.any
 | .gslice k=>match rk ps k with | some j=>.gslice j | none=>.any
 | .amap k=>match rk ps k with | some j=>.amap j | none=>.any
 | .bm f k o=>match rk ps k with | some j=>.bm f j o | none=>.any
 | v=>bif AV.fl v then v else .any
def AV.ren (ps:List (Nat×Nat)):AV→AV
 | .agg cs=>.agg (cs.map (AV.ren1 ps))
 | .tup cs=>.tup (cs.map (AV.ren1 ps))
 | .fn f cs=>.fn f (cs.map (AV.ren1 ps))
 | v=>AV.ren1 ps v
def AO.ren (ps:List (Nat×Nat)):AO→AO
 | .cells e cs=>.cells e (cs.map (AV.ren1 ps))
 | o=>o
section
variable {w:World} {X X':Nat→Prop} {β β':Nat→Nat} {κ κ':Nat→Nat×Nat} {ps:List (Nat×Nat)}
theorem G.ren1 (hps:∀ k j,rk ps k=some j→β' j=β k∧κ' j=κ k) (hX:∀ b,¬ X b→b<w.heap.size→¬ X' b) {v:AV} {V:Value} (h:G w X β κ v V):G w X' β' κ' (AV.ren1 ps v) V:=by
 unfold AV.ren1;split
 ·split
  ·rename_i k o _ j e;rw [h.hptr_inv,← (hps _ _ e).1];exact .hptr j o
  ·exact .d (.any _)
 ·split
  ·rename_i k j e;rcases h.rslice_inv with ⟨h1,h2⟩ | ⟨h1,a,h2⟩
   ·rw [h2,← (hps _ _ e).1,← (hps _ _ e).2];exact .rslice j (by rw [(hps _ _ e).2];exact h1)
   ·rw [h2];exact .rslice0 j a (by rw [(hps _ _ e).2];exact h1)
  ·exact .d (.any _)
 ·split
  ·rename_i k _ j e;have hv:V = .slice (some ⟨β k,0,none⟩) 0 (κ k).1:=by
    cases h with
    | d h=>cases h
    | gslice _=>rfl
   rw [hv,← (hps _ _ e).1,← (hps _ _ e).2];exact .gslice j
  ·exact .d (.any _)
 ·split
  ·rename_i k j e;rw [h.amap_inv,← (hps _ _ e).1];exact .amap j
  ·exact .d (.any _)
 ·split
  ·rename_i f k o _ j e;rw [h.bm_inv,← (hps _ _ e).1];exact .bm f j o
  ·exact .d (.any _)
 ·cases hf:AV.fl v with
  | false=>exact .d (.any _)
  | true=>exact .d ((h.toD hf).mono (fun _ _ _=>rfl) hX)
theorem rE (ps:List (Nat×Nat)) (cs:List AV) (i:Nat):(cs.map (AV.ren1 ps)).getD i .any=AV.ren1 ps (cs.getD i .any):=getD_map (AV.ren1 ps) cs i .any .any rfl
theorem G.ren (hps:∀ k j,rk ps k=some j→β' j=β k∧κ' j=κ k) (hX:∀ b,¬ X b→b<w.heap.size→¬ X' b) {v:AV} {V:Value} (h:G w X β κ v V):G w X' β' κ' (AV.ren ps v) V:=by
 unfold AV.ren;split
 ·obtain ⟨vs,rfl,hl,hg⟩:=h.agg_inv;exact .agg _ _ (by simpa using hl) fun i hi=>by rw [rE];exact (hg i (by simpa using hi)).ren1 hps hX
 ·obtain ⟨vs,rfl,hl,hg⟩:=h.tup_inv;exact .tup _ _ (by simpa using hl) fun i hi=>by rw [rE];exact (hg i (by simpa using hi)).ren1 hps hX
 ·obtain ⟨vs,rfl,hl,hg⟩:=h.fn_inv;exact .fn _ _ _ (by simpa using hl) fun i hi=>by rw [rE];exact (hg i (by simpa using hi)).ren1 hps hX
 ·exact h.ren1 hps hX
theorem HO.ren (hps:∀ k j,rk ps k=some j→β' j=β k∧κ' j=κ k) (hX:∀ b,¬ X b→b<w.heap.size→¬ X' b) {k j:Nat} (hk:β' j=β k∧κ' j=κ k) {o:AO} (hv:∀ i,i<1000000→o.isR=true→β' (gk j i)=β (gk k i)∧κ' (gk j i)=κ (gk k i)) (h:HO w X β κ k o):HO w X' β' κ' j (AO.ren ps o):=by
 cases o with
 | gone=>trivial
 | cells e cs =>
  obtain ⟨cur,h1,h2,h3⟩:=h;exact ⟨cur,by rw [hk.1,h1],by simpa using h2,fun i hi=>by rw [rE];exact (h3 i (by simpa using hi)).ren1 hps hX⟩
 | row e sz xs =>
  refine ⟨by rw [hk.2];exact h.1,fun hx => ?_⟩;obtain ⟨cur,h1,h2,h3,h4,h0,h5,h6⟩:=h.2 hx;exact ⟨cur,by rw [hk.1,h1],by rw [hk.2,h2],by rw [hk.2];exact h3,by rw [hk.2];exact h4,h0,h5,fun i j hi hj=>(h6 i j hi hj).mono (fun _ _ _=>rfl) hX⟩
 | smap K E es =>
  obtain ⟨ents,clock,h1,h2,h3,h4,h5⟩:=h;exact ⟨ents,clock,by rw [hk.1,h1],h2,fun i hi=>⟨(h3 i hi).1,(h3 i hi).2.1,((h3 i hi).2.2).mono (fun _ _ _=>rfl) hX⟩,h4,h5⟩
 | iter es seen =>
  obtain ⟨b,ents,clock,sb,π,h1,h3,h4,h2,h5,h6⟩:=h;have hlt:b<w.heap.size:=(Array.getElem?_eq_some_iff.1 h4).1;exact ⟨b,ents,clock,sb,π,by rw [hk.1,h1],hX _ h3 hlt,h4,h2.mono (fun _ _ _=>rfl) hX,h5,h6⟩
 | room e sz =>
  obtain ⟨cur,h1,h2,h3⟩:=h;exact ⟨cur,by rw [hk.1,h1],by rw [hk.2,h2],by rw [hk.2];exact h3⟩
 | rmap e sz es =>
  obtain ⟨ents,clock,h1,h2,hl,h3,h4⟩:=h;refine ⟨ents,clock,by rw [hk.1,h1],h2,hl,fun i hi=>⟨(h3 i hi).1,(h3 i hi).2.1,?_⟩,h4⟩;obtain ⟨e1,e2⟩:=hv i (by omega) rfl;have h5:=(h3 i hi).2.2;rw [e1,e2];generalize (es.getD i ([],none)).2=o at h5 ⊢;match o,h5 with
  | none,_=>trivial
  | some [],h5=>exact h5
  | some (x::xs),h5=>exact ⟨h5.1,h5.2.1,h5.2.2.mono (fun _ _ _=>rfl) hX rfl⟩
 | rrow eo e sz es =>
  obtain ⟨h1,hl,h2⟩:=h;refine ⟨by rw [hk.2];exact h1,hl,fun hx => ?_⟩;obtain ⟨cur,g1,g2,g3,g4,g5⟩:=h2 hx;refine ⟨cur,by rw [hk.1,g1],by rw [hk.2];exact g2,by rw [hk.2];exact g3,by rw [hk.2];exact g4,fun i hi => ?_⟩;obtain ⟨e1,e2⟩:=hv i (by omega) rfl;have h5:=g5 i hi;rw [e1,e2];generalize es.getD i none=o at h5 ⊢;match o,h5 with
  | none,_=>trivial
  | some [],h5=>exact h5
  | some (x::xs),h5=>exact ⟨h5.1,h5.2.1,h5.2.2.mono (fun _ _ _=>rfl) hX rfl⟩
end
def mI:List (Nat×Nat)→Bool
 | []=>true
 | (k,j)::ps=>ps.all (fun p => !Nat.beq p.1 k && !Nat.beq p.2 j)&&mI ps
theorem mR:∀ {ps:List (Nat×Nat)} {k j:Nat},rk ps k=some j→(k,j)∈ps
 | (k0,j0)::ps,k,j,h=>by
  simp only [rk] at h;cases hb:Nat.beq k k0 with
  | true=>rw [hb] at h;cases h;rw [bP.1 hb];exact List.mem_cons_self ..
  | false=>rw [hb] at h;exact List.mem_cons_of_mem _ (mR h)
theorem BV:∀ {ps:List (Nat×Nat)} {k j:Nat},mI ps=true→(k,j)∈ps→rk ps k=some j
 | (k0,j0)::ps,k,j,hi,h=>by
  simp only [mI,Kj] at hi;simp only [rk];rcases List.mem_cons.1 h with h | h
  ·cases h;simp
  ·have:=Ku.1 hi.1 _ h;simp only [Kj,Bool.not_eq_true'] at this;rw [this.1];exact BV hi.2 h
def swp (ps:List (Nat×Nat)):List (Nat×Nat):=ps.map fun p=>(p.2,p.1)
theorem A1:∀ {ps:List (Nat×Nat)},mI ps=true→mI (swp ps)=true
 | [],_=>rfl
 | (k,j)::ps,h=>by simp only [mI,Kj] at h;simp only [swp,List.map_cons,mI,Kj];refine ⟨?_,A1 h.2⟩;rw [Ku] at h ⊢;intro p hp;obtain ⟨q,hq,rfl⟩:=List.mem_map.1 hp;have:=h.1 q hq;simp only [Kj] at this ⊢;exact ⟨this.2,this.1⟩
theorem bU {ps:List (Nat×Nat)} (hi:mI ps=true) {k j:Nat}:rk (swp ps) j=some k↔rk ps k=some j:=by
 constructor
 ·intro h;have:=mR h;obtain ⟨q,hq,e⟩:=List.mem_map.1 this;cases e;exact BV hi hq
 ·intro h;exact BV (A1 hi) (List.mem_map.2 ⟨_,mR h,rfl⟩)
def AO.liveB:AO→Bool
 | .cells _ _=>true
 | .smap _ _ _=>true
 | _=>false
theorem AO.liveB_live {o:AO} (h:o.liveB=true):o.live:=by cases o<;>first | trivial | (cases h;done)
def hand (ps:List (Nat×Nat)) (h:List (Nat×AO)):List (Nat×AO):=ps.map fun p=>(p.2,AO.ren ps (lk .gone h p.1))
def back (ps:List (Nat×Nat)) (h':List (Nat×AO)):List (Nat×Nat)→List (Nat×AO)→List (Nat×AO)
 | [],h=>h
 | (k,j)::qs,h=>ins k (AO.ren (swp ps) (lk .gone h' j)) (back ps h' qs h)
theorem qI {ps:List (Nat×Nat)} {h:List (Nat×AO)}:∀ {qs:List (Nat×Nat)},mI qs=true→∀ (j:Nat),lk .gone (qs.map fun p=>(p.2,AO.ren ps (lk .gone h p.1))) j=match rk (swp qs) j with | some k=>AO.ren ps (lk .gone h k) | none=>.gone
 | [],_,j=>rfl
 | (k,j0)::qs,hi,j=>by
  simp only [mI,Kj] at hi;simp only [List.map_cons,lk,swp,rk];cases hb:Nat.beq j j0 with
  | true=>rfl
  | false=>simp only [cond_false];exact qI hi.2 j
theorem Ci {ps:List (Nat×Nat)} {h' h:List (Nat×AO)}:∀ {qs:List (Nat×Nat)} (k:Nat),lk .gone (back ps h' qs h) k=match rk qs k with | some j=>AO.ren (swp ps) (lk .gone h' j) | none=>lk .gone h k
 | [],k=>rfl
 | (k0,j0)::qs,k=>by
  simp only [back,az,rk];by_cases e:k=k0
  ·subst e;simp
  ·rw [if_neg e,bG e];exact Ci k
theorem nH {ps:List (Nat×Nat)} {o:AO} {i:Nat}:(AO.ren ps o).inn i↔o.inn i:=by cases o<;>exact Iff.rfl
theorem yR {ps:List (Nat×Nat)} {o:AO}:(AO.ren ps o).isR=o.isR:=by cases o<;>rfl
theorem DX {o:AO} (h:o.liveB=true):o.isR=false:=by cases o<;>first | rfl | (cases h;done)
theorem jY {ps:List (Nat×Nat)} {o:AO}:(AO.ren ps o).live↔o.live:=by cases o<;>simp [AO.ren,AO.live]
section
variable {P:Program} {ops:Array Oper} {o:Oper} {s:AS}
theorem GF {f:FuncId} (he:Go.Proofs.Enters P f) {x:Operand} {ar:Array Operand} {tys:Array TypeId} (hg:gd ops s o=some true) (hop:o.op = .call ⟨.value x,ar,tys⟩) {caps:List AV} (hx:s.op x = .fn f caps)
 (ps:List (Nat×Nat)) (hps:(mI ps&&ps.all fun p=>(lk .gone s.h p.1).liveB&&(Nat.ble 1000 p.2&&Nat.blt p.2 1000000))=true) {args:List AV} (hargs:(s.args ar caps).map (AV.ren ps)=args) {h0:List (Nat×AO)} (hh:hand ps s.h=h0) {Post:AV→List (Nat×AO)→Prop} (hc:bT P f args h0 Post) {N:AS→Prop}
 (hN:∀ v h',Post v h'→AV.fl v=true∧(h'.all fun p => !p.2.isR)=true∧∃ s',AS.put ⟨s.n,s.t,back ps h' ps s.h⟩ o.dst v=some s'∧N s'):jl P ops o s N:=fun c a w β κ r K Q hK=>by
 subst hargs;subst hh;simp only [Kj] at hps;obtain ⟨hinj,hlvp⟩:=hps;have hchk:∀ {k j},rk ps k=some j→(lk .gone s.h k).liveB=true∧1000≤j∧j<1000000:=fun h=>by have:=Ku.1 hlvp _ (mR h);simp only [Kj,Nat.ble_eq,Nat.blt_eq] at this;exact this
 have hlive:∀ {k j},rk ps k=some j→(lk .gone s.h k).live:=fun h=>AO.liveB_live (hchk h).1;have hnR:∀ {k j},rk ps k=some j→(lk .gone s.h k).isR=false:=fun h=>DX (hchk h).1;rw [fT r hg];simp only [if_true];have hX:=r.op x;rw [hx] at hX;obtain ⟨Vs,eV,hl,hgs⟩:=hX.fn_inv;obtain ⟨a1,a2⟩:=nh r ar hl hgs;unfold Oper.wp;rw [uC he hop eV];let H:Nat→Prop:=fun b=>∃ k j,rk ps k=some j∧β k=b
 let βc:Nat→Nat:=fun j=>match rk (swp ps) j with | some k=>β k | none=>0
 let κc:Nat→Nat×Nat:=fun j=>match rk (swp ps) j with | some k=>κ k | none=>(0,0)
 have hβ:∀ k j,rk ps k=some j→βc j=β k∧κc j=κ k:=by intro k j h;have:=(bU hinj).2 h;exact ⟨by simp only [βc,this],by simp only [κc,this]⟩
 have hsz:∀ b,c.XX s.h β b→b<w.heap.size:=by
  rintro b (h | ⟨k,h1,rfl⟩)
  ·exact Nat.lt_of_lt_of_le (c.hX b h) r.hp.kp.size
  ·exact r.hp.lt h1
 let c':Cx P:=⟨fun b=>b<w.heap.size∧¬ H b,fun b=>c.XX s.h β b∧¬ H b,w,βc,κc,fun _ h=>h.1,fun b h=>hsz b h.1,fun w' hk=>c.gp w' (r.hp.kp.trans hk fun b hb=>⟨r.Klt b hb,fun ⟨k,j,h1,h2⟩=>r.hp.nk k (.inl (hlive h1)) (h2 ▸ hb)⟩)⟩
 have hlk:∀ j,lk .gone (hand ps s.h) j=match rk (swp ps) j with | some k=>AO.ren ps (lk .gone s.h k) | none=>.gone:=fun j=>qI hinj j
 have hlv:∀ j,lv (hand ps s.h) j→∃ k,rk ps k=some j:=by
  rintro j (h1 | ⟨m,i,rfl,h1⟩)
  ·rw [hlk] at h1;cases e:rk (swp ps) j with
   | none=>rw [e] at h1;exact h1.elim
   | some k=>exact ⟨k,(bU hinj).1 e⟩
  ·rw [hlk] at h1;cases e:rk (swp ps) m with
   | none=>rw [e] at h1;exact h1.elim
   | some k =>
    rw [e] at h1;have:=(AO.inn_isR h1).2;rw [yR,hnR ((bU hinj).1 e)] at this;cases this
 have hown:∀ b,own (hand ps s.h) βc b→H b:=by rintro b ⟨j,h1,h2⟩;obtain ⟨k,e⟩:=hlv j h1;exact ⟨k,j,e,by rw [← h2];exact (hβ k j e).1.symm⟩
 have hHX:∀ b,H b→c.XX s.h β b:=by rintro b ⟨k,j,h1,rfl⟩;exact .inr ⟨k,.inl (hlive h1),rfl⟩
 have hXin:∀ b,¬ c.XX s.h β b→b<w.heap.size→¬ c'.XX (hand ps s.h) βc b:=by
  rintro b hb _ (h | h)
  ·exact hb h.1
  ·exact hb (hHX b (hown b h))
 have hrel:eO c' (hand ps s.h) c'.W c'.β c'.κ:=by
  refine ⟨fun j => ?_,fun i j hi hj e => ?_,cI.refl _ _,fun j hj => ?_,fun j hj => ?_,fun _ _ _=>⟨rfl,rfl⟩,fun j hj => ?_⟩
  ·rw [hlk];cases e:rk (swp ps) j with
   | none=>trivial
   | some k =>
    have e2:=(bU hinj).1 e;exact (r.hp.ob k).ren (X':=c'.XX (hand ps s.h) βc) hβ hXin (hβ _ _ e2) (fun i _ hR=>by rw [hnR e2] at hR;cases hR)
  ·obtain ⟨k1,h1⟩:=hlv i hi;obtain ⟨k2,h2⟩:=hlv j hj;have e3:β k1=β k2:=by rw [← (hβ k1 i h1).1,← (hβ k2 j h2).1];exact e
   have:=r.hp.inj k1 k2 (.inl (hlive h1)) (.inl (hlive h2)) e3;subst this;rw [h1] at h2;exact Kt h2
  ·exact fun h=>h.2 (hown _ ⟨j,hj,rfl⟩)
  ·exact fun h=>h.2 (hown _ ⟨j,hj,rfl⟩)
  ·have hj:lk .gone (hand ps s.h) j ≠ .gone:=hj;rw [hlk] at hj;cases e:rk (swp ps) j with
   | none=>rw [e] at hj;exact absurd rfl hj
   | some k=>exact (hchk ((bU hinj).1 e)).2.2
 have hcall:=hc c' (ar.map a.eval++Vs).toList (by simp [← a1]) hrel (fun i hi=>by have e:((s.args ar caps).map (AV.ren ps)).getD i .any=AV.ren ps ((s.args ar caps).getD i .any):=getD_map (AV.ren ps) _ i .any .any rfl;rw [e];exact (a2 i (by simpa using hi)).ren hβ hXin)
 simp only [Array.toArray_toList] at hcall;refine hcall.mono fun e w' ⟨V,v,h',β',κ',e1,hp,hr',hG⟩ => ?_;subst e1;obtain ⟨h1,hR',s',h2,h3⟩:=hN v h' hp;have hR2:∀ j,(lk .gone h' j).isR=false:=by
  intro j;clear hp hr' hG h2;induction h' with
  | nil=>rfl
  | cons p l ih =>
   obtain ⟨k0,u⟩:=p;simp only [List.all_cons,Kj,Bool.not_eq_true'] at hR';simp only [lk];cases Nat.beq j k0 with
   | true=>exact hR'.1
   | false=>exact ih hR'.2
 have hfix:∀ k j,rk ps k=some j→β k=β' j∧κ k=κ' j:=fun k j h=>by obtain ⟨f1,f2⟩:=hr'.fix j (hchk h).2.1 (hchk h).2.2;exact ⟨by rw [f1];exact (hβ k j h).1.symm,by rw [f2];exact (hβ k j h).2.symm⟩
 have hb:∀ k,lk .gone (back ps h' ps s.h) k=match rk ps k with | some j=>AO.ren (swp ps) (lk .gone h' j) | none=>lk .gone s.h k:=fun k=>Ci k
 have hl2:∀ {k},lv (back ps h' ps s.h) k→lv s.h k:=by
  rintro k (hk | ⟨m,i,rfl,hk⟩)
  ·rw [hb] at hk;cases e:rk ps k with
   | none=>rw [e] at hk;exact .inl hk
   | some j=>exact .inl (hlive e)
  ·rw [hb] at hk;cases e:rk ps m with
   | none=>rw [e] at hk;exact bq hk
   | some j =>
    rw [e] at hk;have:=(AO.inn_isR hk).2;rw [yR,hR2] at this;cases this
 have hnH:∀ k,lv s.h k→(∀ j,rk ps k≠some j)→¬ H (β k):=by rintro k hkl hk ⟨k2,j,h1,h2⟩;have:=r.hp.inj k2 k (.inl (hlive h1)) hkl h2;subst this;exact hk j h1
 have hnv:∀ {m i},(lk .gone s.h m).inn i→∀ j,rk ps (gk m i)≠some j:=fun {m i} _ j e=>by have:=r.hp.sm _ (hlive e);have:=cL m i;omega
 have hA:∀ b,¬ c.XX s.h β b→b<w.heap.size→¬ c.XX (back ps h' ps s.h) β b:=by
  rintro b hb1 _ (h | ⟨k,hk,hk2⟩)
  ·exact hb1 (.inl h)
  ·exact hb1 (.inr ⟨k,hl2 hk,hk2⟩)
 have hB:∀ b,¬ c'.XX h' β' b→b<w'.heap.size→¬ c.XX (back ps h' ps s.h) β b:=by
  rintro b hb1 _ (h | ⟨k,hk,rfl⟩)
  ·refine hb1 (.inl ⟨.inl h,?_⟩);rintro ⟨k,j,h1,rfl⟩;exact r.hp.nx k (.inl (hlive h1)) h
  ·have hk0:=hl2 hk;rcases hk with hk' | ⟨m,i,rfl,hk'⟩
   ·rw [hb] at hk';cases e:rk ps k with
    | none =>
     rw [e] at hk';exact hb1 (.inl ⟨.inr ⟨k,hk0,rfl⟩,hnH k hk0 (fun j e2=>by rw [e] at e2;cases e2)⟩)
    | some j =>
     rw [e] at hk';exact hb1 (.inr ⟨j,.inl (jY.1 hk'),(hfix k j e).1.symm⟩)
   ·have hin:(lk .gone s.h m).inn i:=by
     rw [hb] at hk';cases e:rk ps m with
     | none=>rw [e] at hk';exact hk'
     | some j =>
      rw [e] at hk';have:=(AO.inn_isR hk').2;rw [yR,hR2] at this;cases this
    exact hb1 (.inl ⟨.inr ⟨_,hk0,rfl⟩,hnH _ hk0 (hnv hin)⟩)
 have hC:∀ b,¬ c.XX s.h β b→b<w.heap.size→w'.heap[b]? = w.heap[b]? := fun b hb1 hlt=>hr'.kp.block b ⟨hlt,fun h=>hb1 (hHX b h)⟩;have r2:Rel c ⟨s.n,s.t,back ps h' ps s.h⟩ a w' β κ:=by
  refine ⟨r.df,r.sz,fun i=>(r.tm i).mono hC hA (fun _ _=>.refl),⟨fun k => ?_,fun i j hi hj e=>r.hp.inj i j (hl2 hi) (hl2 hj) e,r.hp.kp.trans hr'.kp fun b hb1=>⟨r.Klt b hb1,?_⟩,fun k hk=>r.hp.nk k (hl2 hk),fun k hk=>r.hp.nx k (hl2 hk),r.hp.fix,fun k hk => ?_⟩⟩
  ·show HO w' (c.XX (back ps h' ps s.h) β) β κ k (lk .gone (back ps h' ps s.h) k);rw [hb];cases e:rk ps k with
   | none =>
    exact (r.hp.ob k).mono hC hA (fun _ _=>.refl) .refl (fun hkl=>hr'.kp.block _ ⟨r.hp.lt (.inl hkl),hnH k (.inl hkl) (fun j e2=>by rw [e] at e2;cases e2)⟩) (fun i hkl=>hr'.kp.block _ ⟨r.hp.lt (bq hkl),hnH _ (bq hkl) (hnv hkl)⟩)
   | some j =>
    exact (hr'.ob j).ren (X':=c.XX (back ps h' ps s.h) β) (fun j' k' h=>hfix k' j' ((bU hinj).1 h)) hB (hfix k j e) (fun i _ hR=>by rw [hR2] at hR;cases hR)
  ·rintro ⟨k,j,h1,rfl⟩;exact r.hp.nk k (.inl (hlive h1)) hb1
  ·have hk:lk .gone (back ps h' ps s.h) k ≠ .gone:=hk;rw [hb] at hk;cases e:rk ps k with
   | none=>rw [e] at hk;exact r.hp.sg k hk
   | some j=>exact r.hp.sm k (hlive e)
 exact hK s' _ w' β κ h3 (bE r2 (.d ((hG.toD h1).mono (fun _ _ _=>rfl) hB)) h2)
end
def qK (b:UInt8):List AV:=[.int .u8 (b.toNat:Int)]
section
variable {P:Program} {ops:Array Oper} {o:Oper} {s:AS}
theorem FE {src dst e:TypeId} {x:Operand} (hg:gd ops s o=some true) (hop:o.op = .convert src dst x) (hs:isStr P src=true) (hd:Ex P dst=some e) (he:Gu P e=some .u8) {l:List UInt8} (hx:s.op x = .str l) {s':AS} (h:s.put o.dst (.dslice (l.map qK))=some s'):jl P ops o s (· = s') :=
 b9 hg fun c a w β κ r=>by
  have hX:=r.op x;rw [hx] at hX;have hl:=hX.str_len;have hrun:=Lib.run_convert_string_bytes (P:=P) w src dst e ⟨l.toArray⟩ (jE hs) (fD hd) (xq he);have hk:cI (fun b=>b<w.heap.size) w (Lib.bytesWorld w e ⟨l.toArray⟩) :=
   ⟨rfl,rfl,rfl,by rw [Lib.bytesWorld_size];omega,fun b hb=>Lib.bytesWorld_at_old w e _ b hb⟩
  have r2:=r.later hk;refine ⟨.slice (some ⟨w.heap.size,0,none⟩) (⟨l.toArray⟩:ByteArray).size (grownCap w (⟨l.toArray⟩:ByteArray).size 0 e),Lib.bytesWorld w e ⟨l.toArray⟩,β,κ,.inl ?_,bE r2 (.d ?_) h⟩
  ·simp only [execOp,hop,hX.str_inv,Sem.run_bind,hrun,Result.andThen];rfl
  ·have hnX:¬ c.XX s.h β w.heap.size:=by
    rintro (hx | ⟨k,hl,hk⟩)
    ·have:=c.hX _ hx;have:=r.hp.kp.size;omega
    ·have:=r.hp.lt hl;omega
   have hsz:(⟨l.toArray⟩:ByteArray).size=(l.map qK).length:=by simp [size_mk]
   rw [hsz];have hlen:(l.map qK).length=l.length:=by simp
   refine D.dslice (l.map qK) w.heap.size 0 _ 1 (fun i _=>.int .u8 ((l.getD i 0).toNat:Int)) (grownCap_ge w _ _ _) (grownCap_le_maxLen w _ _ _ (by rw [hlen];exact hl)) (by omega) hnX (fun i hi => ?_) (fun i j hi hj => ?_) (fun i j hi hj => ?_)
   ·have:(l.map qK).getD i []=qK (l.getD i 0):=by simp [Kh,Ki (show i<l.length by omega)]
    rw [this];rfl
   ·have:=Lib.bytesWorld_cell w e ⟨l.toArray⟩ i (by rw [size_mk];omega);rw [show 0+(i*1+j)=i by omega];simpa using this
   ·have:(l.map qK).getD i []=qK (l.getD i 0):=by simp [Kh,Ki (show i<l.length by omega)]
    rw [this,show j=0 by omega];exact .int _ _
def sa (P:Program) (s:AS):Op→Option AV
 | .convert src dst x=>match s.op x,Ex P dst with
  | .str l,some e=>match Gu P e with
   | some .u8=>bif isStr P src then some (.dslice (l.map qK)) else none
   | _=>none
  | _,_=>none
 | _=>none
theorem AX (hg:gd ops s o=some true) {v:AV} (hv:sa P s o.op=some v) {s':AS} (h:s.put o.dst v=some s'):jl P ops o s (· = s'):=by
 unfold sa at hv;split at hv
 ·rename_i src dst x hop;split at hv
  ·rename_i l e hx hd;split at hv
   ·rename_i he;cases hb:isStr P src with
    | false=>rw [hb] at hv;cases hv
    | true=>rw [hb] at hv;cases hv;exact FE hg hop hb hd he hx h
   ·cases hv
  ·cases hv
 ·cases hv
end
section
variable {P:Program} {ops:Array Oper} {o:Oper} {s:AS}
theorem G.dmap_inv {w:World} {X:Nat→Prop} {β:Nat→Nat} {κ:Nat→Nat×Nat} {es:List (Key×AV)} {V:Value} (h:G w X β κ (.dmap es) V):D w X (.dmap es) V:=by cases h with | d h=>exact h
def Be (P:Program) (s:AS) (t:TypeId) (m:AV) (k:Nat):Option AS :=
 match m with
 | .dmap es=>if CC P t then s.fresh k (.iter es []) (.hptr k 0) else none
 | _=>none
theorem GD {t:TypeId} {m:Operand} {k:Nat} (hg:gd ops s o=some true) (hop:o.op = .range t m) (hd:o.dst=some k) {s':AS} (h:Be P s t (s.op m) k=some s'):jl P ops o s (· = s') :=
 b9 hg fun c a w β κ r=>by
  have hm:=r.op m;unfold Be at h;split at h
  ·rename_i es em;rw [em] at hm;obtain ⟨b,ents,clock,π,eV,hnX,hb,hM0⟩:=hm.dmap_inv.mapAt;split at h
   ·rename_i hM;obtain ⟨K,E,hu⟩:=ui hM;have hblt:b<w.heap.size:=(Array.getElem?_eq_some_iff.1 hb).1;have hXin:∀ b',¬ c.XX s.h β b'→b'<w.heap.size→¬ c.XX (ins k (.iter es []) (dc k s.h)) (upd β k w.heap.size) b':=by
     rintro b' hb' hlt (hx | ⟨j,hl,hj⟩)
     ·exact hb' (.inl hx)
     ·have hk6:k<1000000:=by have h:=h;unfold AS.fresh at h;obtain ⟨hc,_⟩:=gh h;simp only [Kj,Nat.blt_eq] at hc;omega
      rcases eG (o:=.iter es []) hk6 (fun _ h=>h) hl with ⟨ej,_⟩ | ⟨ej,hl⟩
      ·subst ej;rw [ao] at hj;omega
      ·rw [k8] at hl;rw [be β ej] at hj;exact hb' (.inr ⟨j,hl,hj⟩)
    have hold:∀ i,i<w.heap.size→(w.alloc (.mapIter (some b) clock #[] clock)).heap[i]? = w.heap[i]? := fun i hi=>ff w _ hi;refine ⟨.pointer (some ⟨w.heap.size,0,none⟩),w.alloc (.mapIter (some b) clock #[] clock),_,_,.inl ?_,by
     rw [hd];refine qD r h (Nat.le_refl _) hold (eB _ _ _ r.Klt) (cap:=(0,0)) ⟨b,ents,clock,#[],π,by rw [ao];exact iQ w _,hXin _ hnX hblt,by rw [hold _ hblt,hb],hM0.mono (fun i _ hi=>hold i hi) hXin,rfl,fun i hi=>by cases hi⟩ ?_;have:=G.hptr (w:=w.alloc (.mapIter (some b) clock #[] clock)) (X:=c.XX (ins k (.iter es []) (dc k s.h)) (upd β k w.heap.size)) (β:=upd β k w.heap.size) (κ:=upd κ k (0,0)) k 0
     rwa [ao] at this⟩
    simp only [execOp,hop,eV];simp [Instr.range,aL hu,bK hb,newObj,Result.andThen,go_sem];rfl
   ·cases h
  ·cases h
theorem CU {w:World} {X:Nat→Prop} {β:Nat→Nat} {κ:Nat→Nat×Nat} {k:Nat} {es:List (Key×AV)} {seen:List Nat} (h:HO w X β κ k (.iter es seen)) :
 ∃ (b:Nat) (ents:Array MapEntry) (clock:Nat) (sb:Array Nat) (π:Nat→Nat),w.heap[β k]? = some (.mapIter (some b) clock sb clock)∧¬ X b∧w.heap[b]? = some (.map ents clock)∧mj w X es ents clock π ∧
  sb.toList=seen.map (fun i=>(ents.getD (π i) default).born)∧(∀ i∈seen,i<es.length) ∧
  (∀ i j (hi:i<ents.size) (hj:j<ents.size),ents[i].born=ents[j].born→i=j)∧(∀ i,i<es.length→∃ h:π i<ents.size,ents.getD (π i) default=ents[π i])∧∀ i,i<es.length→(ents.getD (π i) default).born∈sb.toList→i∈seen:=by
 obtain ⟨b,ents,clock,sb,π,h1,h3,h4,hM,h5,h6⟩:=h;have hinj:∀ i j (hi:i<ents.size) (hj:j<ents.size),ents[i].born=ents[j].born→i=j:=by
  intro i j hi hj e;rcases Nat.lt_trichotomy i j with h | h | h
  ·have:=hM.born i j hi hj h;omega
  ·exact h
  ·have:=hM.born j i hj hi h;omega
 have hat:∀ i,i<es.length→∃ h:π i<ents.size,ents.getD (π i) default=ents[π i]:=fun i hi=>by have:=hM.lt i hi;have:=hM.size;exact ⟨by omega,by simp [Kk,show π i<ents.size by omega]⟩
 have hpinj:∀ i j,i<es.length→j<es.length→π i=π j→i=j:=fun i j hi hj e=>by
  have h1:=(hM.key i hi).1;have h2:=(hM.key j hj).1;rw [e,h2] at h1;have hk:=Key.val_inj.1 h1;have hn:=hM.keys.1;rw [List.nodup_iff_pairwise_ne,List.pairwise_iff_getElem] at hn;have e2:(es.map (·.1))[i]'(by simpa using hi)=(es.map (·.1))[j]'(by simpa using hj):=by
   have ge:∀ {i:Nat} (hi:i<es.length),es.getD i default=es[i]:=fun {i} hi=>by simp [Kh,hi]
   rw [ge hi,ge hj] at hk;simp only [List.getElem_map];exact hk.symm
  rcases Nat.lt_trichotomy i j with g | g | g
  ·exact absurd e2 (hn i j (by simpa using hi) (by simpa using hj) g)
  ·exact g
  ·exact absurd e2.symm (hn j i (by simpa using hj) (by simpa using hi) g)
 refine ⟨b,ents,clock,sb,π,h1,h3,h4,hM,h5,h6,hinj,hat,fun i hi hm => ?_⟩;rw [h5,List.mem_map] at hm;obtain ⟨j,hj,e⟩:=hm;have hj2:=h6 j hj;obtain ⟨a1,a2⟩:=hat i hi;obtain ⟨b1,b2⟩:=hat j hj2;rw [a2,b2] at e;rw [← hpinj j i hj2 hi (hinj _ _ b1 a1 e)];exact hj
theorem Hg {it:Operand} {k:Nat} (hg:gd ops s o=some true) (hop:o.op = .next it false) (hi:s.op it = .hptr k 0) {es:List (Key×AV)} {seen:List Nat} (hk:lk .gone s.h k = .iter es seen) {N:AS→Prop}
 (hN0:(∀ i,i<es.length→i∈seen)→∃ s',s.put o.dst (.tup [.bool false])=some s'∧N s')
 (hN1:∀ i,i<es.length→i ∉ seen→∃ s',AS.put ⟨s.n,s.t,ins k (.iter es (seen++[i])) s.h⟩ o.dst (.tup [.bool true,(es.getD i default).1.av,(es.getD i default).2])=some s'∧N s'):jl P ops o s N:=fun c a w β κ r K Q hK=>by
 rw [fT r hg];simp only [if_true];have hit:=r.op it;rw [hi] at hit;have ho:=r.hp.ob k;rw [hk] at ho;have hlive:(lk .gone s.h k).live:=by rw [hk];trivial
 obtain ⟨b,ents,clock,sb,π,h1,h3,h4,hM,h5,h6,hinj,hat,hmem⟩:=CU ho;have hold:∀ x∈ents.toList,x.born<clock:=by
  intro x hx;obtain ⟨i,hi,rfl⟩:=List.getElem_of_mem hx;have hi':i<ents.size:=by simpa using hi
  obtain ⟨i0,hi0,rfl⟩:=hM.onto i (by have:=hM.size;omega);obtain ⟨a1,a2⟩:=hat i0 hi0;rw [Array.getElem_toList,← a2];exact (hM.key i0 hi0).2
 unfold Oper.wp;have hrun:=run_next_at (P:=P) w o.type (β k) b clock clock sb ents clock h1 h4 hold (Nat.le_refl _);rcases hrun with ⟨hl,hr⟩ | ⟨e,he,w1,hw1,hr⟩
 ·have hex:(execOp a.eval o).run P w = .ok (.value (.tuple #[.bool false])) w:=by simp [execOp,hop,hit.hptr_inv,hr,Result.andThen]
  rw [hex];obtain ⟨s',e1,e2⟩:=hN0 fun i hi=>by
   obtain ⟨hi',a2⟩:=hat i hi;refine hmem i hi ?_;apply Classical.byContradiction;intro hc;rw [a2] at hc;have:ents[π i]∈leftOf ents sb:=by unfold leftOf;rw [Array.mem_filter];exact ⟨by simp,by simpa using hc⟩
   rw [Array.eq_empty_of_size_eq_zero hl] at this;simp at this
  refine hK s' _ w β κ e2 (bE r (.d (.tup _ _ rfl fun i hi => ?_)) e1);have:i=0:=by simp at hi;omega
  subst this;exact .bool false
 ·have hex:(execOp a.eval o).run P w = .ok (.value (.tuple #[.bool true,e.key,e.val])) (ChangeMaps.setBlock w1 (β k) (.mapIter (some b) clock (sb.push e.born) clock)):=by simp [execOp,hop,hit.hptr_inv,hr,Result.andThen]
  rw [hex];obtain ⟨m1,m2⟩:=mem_left he;obtain ⟨i0,hi0,rfl⟩:=List.getElem_of_mem m1;have hi0':i0<ents.size:=by simpa using hi0
  obtain ⟨i,hies,rfl⟩:=hM.onto i0 (by have:=hM.size;omega);obtain ⟨hi',hgi⟩:=hat i hies;rw [Array.getElem_toList] at m2 ⊢;have hns:i ∉ seen:=fun hc=>by
   have:ents[π i].born∈sb.toList:=by rw [h5,← hgi];exact List.mem_map.2 ⟨i,hc,rfl⟩
   rw [← Bool.not_eq_true] at m2;exact m2 (by simpa using this)
  obtain ⟨s',e1,e2⟩:=hN1 i hies hns;have r1:Rel c s a w1 β κ:=by
   rcases hw1 with rfl | rfl
   ·exact r
   ·exact r.drew
  have hheap:w1.heap=w.heap:=by rcases hw1 with rfl | rfl<;>rfl
  have h1':w1.heap[β k]? = some (.mapIter (some b) clock sb clock):=by rw [hheap];exact h1
  have hlt:β k<w1.heap.size:=(Array.getElem?_eq_some_iff.1 h1').1;have hne:∀ j,j≠β k→(ChangeMaps.setBlock w1 (β k) (.mapIter (some b) clock (sb.push ents[π i].born) clock)).heap[j]? = w1.heap[j]? := fun j hj=>by simp [ChangeMaps.setBlock,Array.getElem?_setIfInBounds,Ne.symm hj]
  have hbk:b≠β k:=fun e=>h3 (.inr ⟨k,.inl hlive,e.symm⟩);have hw:∀ j,¬ c.XX s.h β j→j<w.heap.size→(ChangeMaps.setBlock w1 (β k) (.mapIter (some b) clock (sb.push ents[π i].born) clock)).heap[j]? = w.heap[j]? := fun j hj _=>by rw [hne j (fun e=>hj (.inr ⟨k,.inl hlive,e.symm⟩)),hheap]
  have r2:Rel c ⟨s.n,s.t,ins k (.iter es (seen++[i])) s.h⟩ a (ChangeMaps.setBlock w1 (β k) (.mapIter (some b) clock (sb.push ents[π i].born) clock)) β κ:=by
   refine r1.replace hlive (ob:=.iter es (seen++[i])) trivial hne ⟨rfl,rfl,rfl,by simp [ChangeMaps.setBlock],fun j hj=>hne j hj⟩ fun _ _ => ?_;refine ⟨b,ents,clock,sb.push ents[π i].born,π,by simp [ChangeMaps.setBlock,hlt],h3,by rw [hne b hbk,hheap];exact h4,hM.mono hw (fun _ h _=>h),?_,fun j hj => ?_⟩
   ·rw [Array.toList_push,h5,List.map_append,List.map_cons,List.map_nil,hgi]
   ·rcases List.mem_append.1 hj with hj | hj
    ·exact h6 j hj
    ·simp only [List.mem_singleton] at hj;omega
  have hown:c.XX (ins k (.iter es (seen++[i])) s.h) β=c.XX s.h β:=tS c β (by rw [hk];exact Iff.rfl) (fun j=>by rw [hk];exact Iff.rfl);refine hK s' _ _ β κ e2 (bE r2 (.d (.tup _ _ rfl fun j hj => ?_)) e1);have hj':j=0∨j=1∨j=2:=by simp at hj;omega
  have hX2:∀ j,¬ c.XX s.h β j→j<w.heap.size→¬ c.XX (ins k (.iter es (seen++[i])) s.h) β j:=fun j hj _=>by rw [hown];exact hj
  rcases hj' with rfl | rfl | rfl
  ·exact .bool true
  ·show D _ _ (es.getD i default).1.av ents[π i].key;rw [← hgi,(hM.key i hies).1];refine Key.D (hM.keys.2 _ (List.mem_map.2 ⟨es.getD i default,?_,rfl⟩));rw [Kh,Ki hies];exact List.getElem_mem _
  ·have:=hM.val i hies;rw [hgi] at this;exact this.mono hw hX2
theorem FI {it:Operand} {k:Nat} (hg:gd ops s o=some true) (hop:o.op = .entry it) (hi:s.op it = .hptr k 0) {es:List (Key×AV)} {sn:List Nat} (hk:lk .gone s.h k = .iter es sn) {i:Nat} (hl:sn.getLast? = some i)
 {s':AS} (h:s.put o.dst (.tup [(es.getD i default).1.av,(es.getD i default).2])=some s'):jl P ops o s (· = s') :=
 b9 hg fun c a w β κ r=>by
  have hit:=r.op it;rw [hi] at hit;have ho:=r.hp.ob k;rw [hk] at ho;obtain ⟨b,ents,clock,sb,π,h1,h3,h4,hM,h5,h6,hinj,hat,hmem⟩:=CU ho;obtain ⟨seen,rfl⟩:∃ seen,sn=seen++[i]:=⟨sn.dropLast,by
   have hne:sn≠[]:=by rintro rfl;cases hl
   rw [List.getLast?_eq_some_getLast hne] at hl;rw [← Kt hl,List.dropLast_concat_getLast hne]⟩
  have hies:i<es.length:=h6 i (by simp);obtain ⟨hi',hgi⟩:=hat i hies;have hsb:sb=(seen.map (fun i=>(ents.getD (π i) default).born)).toArray.push ents[π i].born:=by apply Array.toList_inj.1;rw [h5,List.map_append,List.map_cons,List.map_nil,Array.toList_push,hgi]
  have hnd:(ents.toList.map (·.born)).Nodup:=by
   rw [List.nodup_iff_pairwise_ne,List.pairwise_iff_getElem];intro x y hx hy hlt he;have hx':x<ents.size:=by simpa using hx
   have hy':y<ents.size:=by simpa using hy
   have:=hinj x y hx' hy' (by simpa using he);omega
  rw [hsb] at h1;have hrun:=run_entry_at (P:=P) w (β k) b clock _ ents clock ents[π i] h1 h4 (by simp) hnd;refine ⟨_,w,β,κ,.inl ?_,bE r (.d (.tup _ #[ents[π i].key,ents[π i].val] rfl fun j hj => ?_)) h⟩
  ·simp [execOp,hop,hit.hptr_inv,hrun,Result.andThen]
  ·have hj':j=0∨j=1:=by simp at hj;omega
   rcases hj' with rfl | rfl
   ·show D _ _ (es.getD i default).1.av ents[π i].key;rw [← hgi,(hM.key i hies).1];refine Key.D (hM.keys.2 _ (List.mem_map.2 ⟨es.getD i default,?_,rfl⟩));rw [Kh,Ki hies];exact List.getElem_mem _
   ·have:=hM.val i hies;rw [hgi] at this;exact this
def vZ (P:Program) (t:TypeId) (m x:AV):Option (Prop×AV) :=
 match m,x.key with
 | .dmap es,some x=>match P.underlying t with
  | some (.map K E)=>match zeroOf P E with
   | some z=>bif x.fits (P.underlying K) then some (∀ p∈es,p.1.kind=x.kind,wL x (AV.ez (AV.of z)) es) else none
   | none=>none
  | _=>none
 | _,_=>none
theorem yJ {c:Cx P} {w:World} {β:Nat→Nat} {κ:Nat→Nat×Nat} {t:TypeId} {m x v:AV} {M X:Value} {p:Prop} (hm:G w (c.XX s.h β) β κ m M) (hx:G w (c.XX s.h β) β κ x X) (h:vZ P t m x=some (p,v)) (hp:p) :
 ∃ V,(Instr.lookup t M X false).run P w = .ok V w∧G w (c.XX s.h β) β κ v V:=by
 unfold vZ at h;split at h
 ·rename_i es x ex;split at h
  ·rename_i K E hu;split at h
   ·rename_i z hz;cases hc:x.fits (P.underlying K) with
    | false=>rw [hc] at h;cases h
    | true =>
    rw [hc] at h;cases h;have hK:=Key.fits_spec hc;obtain ⟨b,ents,clock,π,eV,_,h1,hM⟩:=hm.dmap_inv.mapAt;rw [eV,(hx.key_inv ex).1];have hck:∀ e,(Instr.checkKey e 10000 K x.val).run P w = .ok () w:=fun e=>MapKept.run_checkKey (k:=x.val) hK x.is e 9999;rcases Ah (P:=P) (w:=w) hM.size hM.lt hM.onto (fun i hi=>(hM.key i hi).1) x hp hK with ⟨f1,f2⟩ | ⟨i,hj,hi,f1,f2⟩
    ·refine ⟨z,?_,?_⟩
     ·simp [Instr.lookup,aL hu,bK h1,hck,f1,jM hz,Result.andThen]
     ·rw [rZ f2];exact .d (D.of w _ z).ez
    ·refine ⟨ents[π i].val,?_,?_⟩
     ·simp [Instr.lookup,aL hu,bK h1,hck,f1,Result.andThen]
     ·rw [yK hM.keys.1 hi f2];have:=hM.val i hi;rw [show ents.getD (π i) default=ents[π i] by simp [Kk,hj]] at this;exact .d this
   ·cases h
  ·cases h
 ·cases h
theorem FF {t:TypeId} {m x:Operand} (hg:gd ops s o=some true) (hop:o.op = .lookup t m x false) {v:AV} {p:Prop} (hv:vZ P t (s.op m) (s.op x)=some (p,v)) (hp:p) {s':AS} (h:s.put o.dst v=some s'):jl P ops o s (· = s') :=
 b9 hg fun c a w β κ r=>by obtain ⟨V,hr,hG⟩:=yJ (r.op m) (r.op x) hv hp;refine ⟨V,w,β,κ,.inl ?_,bE r hG h⟩;simp [execOp,hop,hr,Result.andThen]
theorem Du {t:TypeId} {m x:Operand} (hg:gd ops s o=some true) (hop:o.op = .lookup t m x false) {v:AV} {p:Prop} (hv:vZ P t (s.op m) (s.op x)=some (p,v)) (hp:p) {s1:AS} (h:s.put o.dst v=some s1):Loc P ops o s (.put o.dst v) :=
 lI rfl h fun s' ha _ h2=>FF (by rw [bC ha];exact hg) hop (by
  rw [aS ha (x:=m) (by simp [hop,Op.operands]),aS ha (x:=x) (by simp [hop,Op.operands])];exact hv) hp h2
end
def da {α:Type} (f:α→α):Nat→List α→List α
 | _,[]=>[]
 | 0,x::xs=>f x::xs
 | i+1,x::xs=>x::da f i xs
theorem bo {α:Type} (f:α→α):∀ (i:Nat) (l:List α),(da f i l).length=l.length
 | _,[]=>by simp [da]
 | 0,x::xs=>by simp [da]
 | i+1,x::xs=>by simp [da,bo f i xs]
theorem uT {α:Type} (f:α→α) (d:α):∀ (i:Nat) (l:List α) (j:Nat),(da f i l).getD j d=l.getD j d∨(da f i l).getD j d=f (l.getD j d)
 | _,[],j=>by simp [da]
 | 0,x::xs,0=>by simp [da]
 | 0,x::xs,j+1=>by simp [da]
 | i+1,x::xs,0=>by simp [da]
 | i+1,x::xs,j+1=>by simpa [da] using uT f d i xs j
def AV.wk0:AV→AV
 | .eslice=>.dslice []
 | v=>v
def AV.at (f:AV→AV) (i j:Nat):AV→AV
 | .agg cs=>.agg (da f i cs)
 | .tup cs=>.tup (da f i cs)
 | .fn g cs=>.fn g (da f i cs)
 | .dptr cs=>.dptr (da f i cs)
 | .dslice xs=>.dslice (da (da f j) i xs)
 | v=>v
def AV.wk:List (Nat×Nat)→AV→AV
 | []=>AV.wk0
 | (i,j)::p=>AV.at (AV.wk p) i j
theorem dW {α:Type} {f:α→α} {d:α} {R:α→Prop} (hf:∀ x,R x→R (f x)) (i:Nat) (l:List α) (j:Nat) (h:R (l.getD j d)):R ((da f i l).getD j d):=by
 rcases uT f d i l j with e | e
 ·rw [e];exact h
 ·rw [e];exact hf _ h
theorem D.wk0 {w:World} {X:Nat→Prop} {v:AV} {V:Value} (h:D w X v V):D w X (AV.wk0 v) V:=by
 unfold AV.wk0;split
 ·cases h with | eslice a=>exact .dnil a 0 (Nat.zero_le _)
 ·exact h
theorem D.at {w:World} {X:Nat→Prop} {f:AV→AV} (hf:∀ v V,D w X v V→D w X (f v) V) (i j:Nat) {v:AV} {V:Value} (h:D w X v V):D w X (AV.at f i j v) V:=by
 unfold AV.at;split
 ·cases h with | agg cs vs hl hg=>exact .agg _ vs (by rw [bo];exact hl) fun j hj=>dW (R:=fun x=>D w X x (vs.getD j undef)) (fun x hx=>hf _ _ hx) i _ j (hg j (by rw [bo] at hj;exact hj))
 ·cases h with | tup cs vs hl hg=>exact .tup _ vs (by rw [bo];exact hl) fun j hj=>dW (R:=fun x=>D w X x (vs.getD j undef)) (fun x hx=>hf _ _ hx) i _ j (hg j (by rw [bo] at hj;exact hj))
 ·cases h with | fn g cs vs hl hg=>exact .fn _ _ vs (by rw [bo];exact hl) fun j hj=>dW (R:=fun x=>D w X x (vs.getD j undef)) (fun x hx=>hf _ _ hx) i _ j (hg j (by rw [bo] at hj;exact hj))
 ·cases h with | dptr cs b o cv h0 h1 h2 h3=>exact .dptr _ b o cv (by rw [bo];exact h0) h1 (fun j hj=>h2 j (by rw [bo] at hj;exact hj)) fun j hj=>dW (R:=fun x=>D w X x (cv j)) (fun x hx=>hf _ _ hx) i _ j (h3 j (by rw [bo] at hj;exact hj))
 ·rename_i xs;cases h with
  | dnil a cap hc=>cases i<;>exact .dnil a cap hc
  | dslice _ b o cap sz cv h1 h2 h0 h3 h4 h5 h6 =>
   have key:∀ a,((da (da f j) i xs).getD a []).length=(xs.getD a []).length:=fun a =>
    dW (R:=fun x=>x.length=(xs.getD a []).length) (fun x hx=>by rw [bo];exact hx) i xs a rfl
   have key2:∀ a k,a<xs.length→k<sz→D w X (((da (da f j) i xs).getD a []).getD k .any) (cv a k):=fun a k ha hk =>
    dW (R:=fun x=>D w X (x.getD k .any) (cv a k)) (fun x hx=>dW (R:=fun y=>D w X y (cv a k)) (fun y hy=>hf _ _ hy) j x k hx) i xs a (h6 a k ha hk)
   have hl:=bo (da f j) i xs;rw [← hl];exact .dslice _ b o cap sz cv (by rw [bo];exact h1) h2 h0 h3 (fun a ha=>by rw [key];exact h4 a (by rw [bo] at ha;exact ha))
    (fun a k ha hk=>h5 a k (by rw [bo] at ha;exact ha) hk) (fun a k ha hk=>key2 a k (by rw [bo] at ha;exact ha) hk)
 ·exact h
theorem D.wk {w:World} {X:Nat→Prop}:∀ (p:List (Nat×Nat)) {v:AV} {V:Value},D w X v V→D w X (AV.wk p v) V
 | [],_,_,h=>h.wk0
 | (i,j)::p,_,_,h=>D.at (fun _ _ h=>D.wk p h) i j h
theorem G.wk {w:World} {X:Nat→Prop} {β:Nat→Nat} {κ:Nat→Nat×Nat}:∀ (p:List (Nat×Nat)) {v:AV} {V:Value},G w X β κ v V→G w X β κ (AV.wk p v) V
 | [],v,V,h=>by
  cases h with
  | d h=>exact .d h.wk0
  | hptr k o=>exact .hptr k o
  | rslice k h=>exact .rslice k h
  | rslice0 k a h=>exact .rslice0 k a h
  | gslice k=>exact .gslice k
  | rref k j h h2=>exact .rref k j h h2
  | rref0 k oj a h=>exact .rref0 k oj a h
  | amap k=>exact .amap k
  | bm f k o=>exact .bm f k o
  | fn f cs vs h1 h2=>exact .fn f cs vs h1 h2
  | agg cs vs h1 h2=>exact .agg cs vs h1 h2
  | tup cs vs h1 h2=>exact .tup cs vs h1 h2
 | (i,j)::p,v,V,h=>by
  cases h with
  | d h=>exact .d (h.wk _)
  | hptr k o=>exact .hptr k o
  | rslice k h=>exact .rslice k h
  | rslice0 k a h=>exact .rslice0 k a h
  | gslice k=>exact .gslice k
  | rref k j h h2=>exact .rref k j h h2
  | rref0 k oj a h=>exact .rref0 k oj a h
  | amap k=>exact .amap k
  | bm f k o=>exact .bm f k o
  | fn f cs vs h1 h2=>exact .fn _ _ vs (by rw [bo];exact h1) fun j hj=>dW (R:=fun x=>G w X β κ x (vs.getD j undef)) (fun x hx=>G.wk p hx) i cs j (h2 j (by rw [bo] at hj;exact hj))
  | agg cs vs h1 h2=>exact .agg _ vs (by rw [bo];exact h1) fun j hj=>dW (R:=fun x=>G w X β κ x (vs.getD j undef)) (fun x hx=>G.wk p hx) i cs j (h2 j (by rw [bo] at hj;exact hj))
  | tup cs vs h1 h2=>exact .tup _ vs (by rw [bo];exact h1) fun j hj=>dW (R:=fun x=>G w X β κ x (vs.getD j undef)) (fun x hx=>G.wk p hx) i cs j (h2 j (by rw [bo] at hj;exact hj))
def AS.wkT (s:AS) (t:Nat) (p:List (Nat×Nat)):AS:=⟨s.n,ins t (AV.wk p (lk .any s.t t)) s.t,s.h⟩
theorem Rel.wkT {P:Program} {c:Cx P} {s:AS} {a:Act} {w:World} {β:Nat→Nat} {κ:Nat→Nat×Nat} (r:Rel c s a w β κ) (t:Nat) (p:List (Nat×Nat)):Rel c (s.wkT t p) a w β κ:=by
 refine ⟨r.df,r.sz,fun i => ?_,r.hp⟩;show G w _ β κ (lk .any (ins t _ s.t) i) _;rw [az];by_cases h:i=t
 ·subst h;rw [if_pos rfl];exact (r.tm i).wk p
 ·rw [if_neg h];exact r.tm i
def sM:List (Nat×List (Nat×Nat))→List AV→List AV
 | [],xs=>xs
 | (i,p)::ps,xs=>sM ps (da (AV.wk p) i xs)
theorem qC:∀ (ps:List (Nat×List (Nat×Nat))) (xs:List AV),(sM ps xs).length=xs.length
 | [],xs=>rfl
 | (i,p)::ps,xs=>by rw [sM,qC ps,bo]
theorem Ay {w:World} {X:Nat→Prop} {β:Nat→Nat} {κ:Nat→Nat×Nat} {V:Value} {j:Nat}:∀ (ps:List (Nat×List (Nat×Nat))) (xs:List AV),G w X β κ (xs.getD j .any) V→G w X β κ ((sM ps xs).getD j .any) V
 | [],xs,h=>h
 | (i,p)::ps,xs,h=>Ay ps _ (dW (R:=fun x=>G w X β κ x V) (fun x hx=>hx.wk p) i xs j h)
theorem bT.wk {P:Program} {f:FuncId} {args:List AV} {h:List (Nat×AO)} {Q:AV→List (Nat×AO)→Prop} (ps:List (Nat×List (Nat×Nat))) (hc:bT P f (sM ps args) h Q):bT P f args h Q :=
 fun c vs hl hr hg=>hc c vs (by rw [qC];exact hl) hr fun i hi=>Ay ps args (hg i (by rw [qC] at hi;exact hi))
def aD (n:Int):Int:=IntKind.i64.wrap n
theorem pt {n:Int} (h:wA n):aD n=n:=wrap64 h
def Jj (P:Program) (xs ys:List AV):List Field→Option Bool
 | []=>some true
 | f::fs=>bif f.name == "_" then none else bif Nat.blt f.offset xs.length&&Nat.blt f.offset ys.length then (match P.underlying f.type,xs.getD f.offset .any,ys.getD f.offset .any with
  | some (.int _),.int k a,.int k' b=>bif decide (k=k') then (match Jj P xs ys fs with | some r=>some ((a==b)&&r) | none=>none) else none
  | some .bool,.bool a,.bool b=>(match Jj P xs ys fs with | some r=>some ((a==b)&&r) | none=>none)
  | some .string,.str a,.str b=>(match Jj P xs ys fs with | some r=>some ((a==b)&&r) | none=>none)
  | _,_,_=>none) else none
def JF (P:Program) (t:TypeId):Option (List Field):=match P.underlying t with | some (.struct fs)=>bif !P.stoodInHeld t && !P.eqGuardType P.depth t then some fs.toList else none | _=>none
def Dq (P:Program) (s:AS):Op→Option (Prop×AV)
 | .binOp op t x y _=>match s.op x,s.op y with
  | .agg xs,.agg ys=>match JF P t with
   | some fs=>match Jj P xs ys fs with
    | some r=>match op with
     | .eql=>some (True,.bool r)
     | .neq=>some (True,.bool !r)
     | _=>none
    | none=>none
   | none=>none
  | .int .i64 a,.int .i64 b=>match op with
   | .add=>some (True,.int .i64 (aD (a+b)))
   | .sub=>some (True,.int .i64 (aD (a-b)))
   | .mul=>some (True,.int .i64 (aD (a*b)))
   | .quo=>some (b≠0,.int .i64 (aD (a.tdiv b)))
   | _=>none
  | _,_=>none
 | .unOp .neg _ x=>match s.op x with
  | .int .i64 a=>some (True,.int .i64 (aD (0-a)))
  | _=>none
 | .index t x i=>match s.op x,s.op i with
  | .agg cs,.int _ n=>match Er P t with
   | some (len,e)=>match zQ P e,lR P e with
    | some false,some 1=>some (0≤n∧n<len∧n<cs.length,cs.getD n.toNat .any)
    | _,_=>none
   | none=>none
  | _,_=>none
 | _=>none
section
variable {P:Program} {ops:Array Oper} {o:Oper} {s:AS}
theorem kE {w:World} {t:TypeId} {vs:Array Value} {off:Nat} (hag:zQ P t=some false) (h:off<vs.size):(part t vs off).run P w = .ok (vs.getD off undef) w:=by simp [part,run_isAgg hag,Ks h,Kk,go_sem]
theorem px {w:World} {X:Nat→Prop} {β:Nat→Nat} {κ:Nat→Nat×Nat} {xs ys:List AV} {Xs Ys:Array Value} (hx:xs.length=Xs.size) (hy:ys.length=Ys.size) (gx:∀ i,i<xs.length→G w X β κ (xs.getD i .any) (Xs.getD i undef)) (gy:∀ i,i<ys.length→G w X β κ (ys.getD i .any) (Ys.getD i undef)) (d:Nat) :
 ∀ (fs:List Field) (r:Bool),Jj P xs ys fs=some r→(Op.eqFields (d+1) Xs Ys fs).run P w = .ok r w
 | [],r,h=>by cases h;rfl
 | f::fs,r,h=>by
  unfold Jj at h;cases hn:f.name == "_" with
  | true=>rw [hn] at h;cases h
  | false =>
   rw [hn] at h;simp only [cond_false] at h;obtain ⟨hb,h⟩:=(show (Nat.blt f.offset xs.length&&Nat.blt f.offset ys.length)=true∧_ from by
    cases hb:(Nat.blt f.offset xs.length&&Nat.blt f.offset ys.length) with
    | true=>rw [hb] at h;exact ⟨rfl,h⟩
    | false=>rw [hb] at h;cases h)
   simp only [Kj,Nat.blt_eq] at hb;have g1:=gx f.offset hb.1;have g2:=gy f.offset hb.2;have hne:f.name ≠ "_" := by simpa using hn
   simp only [Op.eqFields,ne_eq,hne,not_false_eq_true,if_true,Sem.run_bind];split at h
   ·rename_i k' k a k2 b hu e1 e2;rw [e1] at g1;rw [e2] at g2;have hag:zQ P f.type=some false:=by simp [zQ,hu]
    cases hk:decide (k=k2) with
    | false=>rw [hk] at h;cases h
    | true =>
     rw [hk] at h;have hk:=Km hk;subst hk;simp only [cond_true] at h;split at h
     ·rename_i r' hr;cases h;have q1:=kE (P:=P) (w:=w) (vs:=Xs) hag (by omega:f.offset<Xs.size);have q2:=kE (P:=P) (w:=w) (vs:=Ys) hag (by omega:f.offset<Ys.size);simp only [q1,q2,g1.int_inv,g2.int_inv,Result.andThen,run_equalIn_int w d f.type k k' a b hu];cases hab:a==b with
      | true=>simp [px hx hy gx gy d fs r' hr]
      | false=>simp
     ·cases h
   ·rename_i a b hu e1 e2;rw [e1] at g1;rw [e2] at g2;have hag:zQ P f.type=some false:=by simp [zQ,hu]
    split at h
    ·rename_i r' hr;cases h;have q1:=kE (P:=P) (w:=w) (vs:=Xs) hag (by omega:f.offset<Xs.size);have q2:=kE (P:=P) (w:=w) (vs:=Ys) hag (by omega:f.offset<Ys.size);simp only [q1,q2,g1.bool_inv,g2.bool_inv,Result.andThen,run_equalIn_bool' w d f.type a b hu];cases hab:a==b with
     | true=>simp [px hx hy gx gy d fs r' hr]
     | false=>simp
    ·cases h
   ·rename_i a b hu e1 e2;rw [e1] at g1;rw [e2] at g2;have hag:zQ P f.type=some false:=by simp [zQ,hu]
    split at h
    ·rename_i r' hr;cases h;have q1:=kE (P:=P) (w:=w) (vs:=Xs) hag (by omega:f.offset<Xs.size);have q2:=kE (P:=P) (w:=w) (vs:=Ys) hag (by omega:f.offset<Ys.size);simp only [q1,q2,g1.str_inv,g2.str_inv,Result.andThen,run_equalIn_string w d f.type _ _ hu,toList_mk];cases hab:a==b with
     | true=>simp [px hx hy gx gy d fs r' hr]
     | false=>simp
    ·cases h
   ·cases h
theorem D0 {c:Cx P} {a:Act} {w:World} {β:Nat→Nat} {κ:Nat→Nat×Nat} (r:Rel c s a w β κ) {op:Op} {p:Prop} {v:AV} (h:Dq P s op=some (p,v)) (hp:p) (dst:Option Tmp) (ty:TypeId) (pos:String) (af:Array Edge) (g:Option (Nat×Bool)) :
 CM P c s a w β κ ⟨dst,op,ty,pos,af,g⟩ v:=by
 unfold Dq at h;split at h
 ·rename_i op t x y u;have hx:=r.op x;have hy:=r.op y;split at h
  ·rename_i xs ys ex ey;rw [ex] at hx;rw [ey] at hy;obtain ⟨Xs,eX,lx,gx⟩:=hx.agg_inv;obtain ⟨Ys,eY,ly,gy⟩:=hy.agg_inv;split at h
   ·rename_i fs hfs;unfold JF at hfs;split at hfs
    ·rename_i fsA hu;cases hst:(!P.stoodInHeld t && !P.eqGuardType P.depth t) with
     | false=>rw [hst] at hfs;cases hfs
     | true =>
      rw [hst] at hfs;cases hfs;simp only [Kj,Bool.not_eq_true'] at hst;have hfo:P.fieldsOf t=fsA:=by simp [Program.fieldsOf,hu]
      split at h
      ·rename_i rr hr;have hrun:=px (w:=w) (X:=c.XX s.h β) (β:=β) (κ:=κ) lx ly gx gy 9998 fsA.toList rr hr;have hst2:=run_equalIn_struct (P:=P) w 9999 t Xs Ys (by rw [hfo];exact hu) hst.1;rw [hfo] at hst2;split at h
       ·cases h;refine ⟨_,?_,.d (.bool _)⟩;simp only [execOp,eX,eY,Sem.run_bind,run_eqGuard_agg w .eql t x y Xs Ys hst.2,Result.andThen,run_eql_struct,hst2,hrun];rfl
       ·cases h;refine ⟨_,?_,.d (.bool _)⟩;simp only [execOp,eX,eY,Sem.run_bind,run_eqGuard_agg w .neq t x y Xs Ys hst.2,Result.andThen,run_neq_struct,hst2,hrun];rfl
       ·cases h
      ·cases h
    ·cases hfs
   ·cases h
  ·rename_i m n ex ey;rw [ex] at hx;rw [ey] at hy;have ex:=hx.int_inv;have ey:=hy.int_inv;unfold CM;generalize a.eval=ρ at ex ey ⊢;split at h
   ·cases h;refine ⟨_,?_,.d (.int _ _)⟩;simp [execOp,ex,ey,eqGuard,binOp,Op.intArith,go_sem]<;>rfl
   ·cases h;refine ⟨_,?_,.d (.int _ _)⟩;simp [execOp,ex,ey,eqGuard,binOp,Op.intArith,go_sem]<;>rfl
   ·cases h;refine ⟨_,?_,.d (.int _ _)⟩;simp [execOp,ex,ey,eqGuard,binOp,Op.intArith,go_sem]<;>rfl
   ·cases h;refine ⟨_,?_,.d (.int _ _)⟩;simp [execOp,ex,ey,eqGuard,binOp,Op.intDiv,go_sem];simp [hp,aD]
   ·cases h
  ·cases h
 ·rename_i t x;have hx:=r.op x;split at h
  ·rename_i n e;rw [e] at hx;cases h;refine dM rfl ⟨_,?_,.d (.int _ _)⟩;rw [hx.int_inv];simp only [Op.unary,Op.intArith];rfl
  ·cases h
 ·rename_i t x i;have hx:=r.op x;have hi:=r.op i;split at h
  ·rename_i cs k n ex ei;rw [ex] at hx;rw [ei] at hi;split at h
   ·rename_i len e hA;split at h
    ·rename_i hag hsz;cases h;obtain ⟨vs,eV,hl,hgs⟩:=hx.agg_inv;have hn:n.toNat<cs.length:=by omega
     have hap:apart P e cs (n.toNat*1)=some (cs.getD n.toNat .any):=by unfold apart;rw [hag,hsz];simp [hn]
     obtain ⟨V',hr,hg'⟩:=oF hl hgs hap (P:=P);refine dM rfl ⟨V',?_,hg'⟩;rw [hi.int_inv,eV];have h0:(0:Int)≤n∧n<(len:Int):=⟨hp.1,hp.2.1⟩;simp only [Instr.index,asIntOf,pure_bind,Sem.run_bind,aL (pK hA),Result.andThen,if_pos h0,run_sizeOf hsz];exact hr
    ·cases h
   ·cases h
  ·cases h
 ·cases h
theorem Jt (hg:gd ops s o=some true) {p:Prop} {v:AV} (hv:Dq P s o.op=some (p,v)) (hp:p) {s':AS} (h:s.put o.dst v=some s'):jl P ops o s (· = s') :=
 b9 hg fun c a w β κ r=>by obtain ⟨dst,op,ty,pos,af,g⟩:=o;obtain ⟨V,hr,hG⟩:=D0 (P:=P) r hv hp dst ty pos af g;exact ⟨V,w,β,κ,.inl hr,bE r hG h⟩
theorem DM {s':AS} {op:Op} (h1:∀ x∈op.operands,s'.op x=s.op x):Dq P s' op=Dq P s op:=by
 cases op;case binOp op t x y u=>simp only [Dq,h1 x (by simp [Op.operands]),h1 y (by simp [Op.operands])]
 case unOp u t x=>cases u<;>first | rfl | simp only [Dq,h1 x (by simp [Op.operands])]
 case index t x i=>simp only [Dq,h1 x (by simp [Op.operands]),h1 i (by simp [Op.operands])]
 all_goals rfl
theorem EF (hg:gd ops s o=some true) {p:Prop} {v:AV} (hv:Dq P s o.op=some (p,v)) (hp:p) {s1:AS} (h:s.put o.dst v=some s1):Loc P ops o s (.put o.dst v) :=
 lI rfl h fun s' ha _ h2=>Jt (by rw [bC ha];exact hg) (by rw [DM (fun x hx=>aS ha hx)];exact hv) hp h2
theorem jr.wkT {t:Nat} {v:AV} (p:List (Nat×Nat)) {s1 s2:AS} (e:jr ((cF.put (some t) v).app s1) s2):jr ((cF.put (some t) (AV.wk p v)).app s1) (s2.wkT t p):=by refine ⟨e.n,fun i => ?_,e.h⟩;have e1:∀ i,lk .any s2.t i=lk .any (ins t v s1.t) i:=e.t;show lk .any (ins t (AV.wk p (lk .any s2.t t)) s2.t) i=lk .any (ins t (AV.wk p v) s1.t) i;rw [az,az,e1,e1,az,az,if_pos rfl];split<;>rfl
theorem Ix {dst:Option Tmp} {v:AV} (p:List (Nat×Nat)) (h:Loc P ops o s (.put dst v)):Loc P ops o s (.put dst (AV.wk p v)):=by
 intro s' ha h1 h2 c a w β κ r K Q hK;cases dst with
 | none=>exact h s' ha h1 h2 c a w β κ r K Q hK
 | some t=>exact h s' ha h1 h2 c a w β κ r K Q fun s'' a' w' β' κ' e r'=>hK (s''.wkT t p) a' w' β' κ' (jr.wkT p e) (r'.wkT t p)
def Gp:List (List (Nat×Nat))→AV→AV
 | [],v=>v
 | p::ps,v=>Gp ps (AV.wk p v)
theorem r9 {dst:Option Tmp}:∀ (ps:List (List (Nat×Nat))) {v:AV},Loc P ops o s (.put dst v)→Loc P ops o s (.put dst (Gp ps v))
 | [],_,h=>h
 | p::ps,_,h=>r9 ps (Ix p h)
end
section
variable {P:Program} {ops:Array Oper} {o:Oper} {s:AS}
def sW (P:Program) (s:AS) (t:TypeId) (x:AV) (n j:Nat):Option (Prop×AV) :=
 match x with
 | .hptr k o=>match lk .gone s.h k with
  | .row _ sz xs=>match zQ P t,lR P t with
   | some true,some m=>some (o=n*sz+j∧n<xs.length∧j+m≤sz,.agg (((xs.getD n []).drop j).take m))
   | some false,some _=>some (o=n*sz+j∧n<xs.length∧j+1≤sz,(xs.getD n []).getD j .any)
   | _,_=>none
  | _=>none
 | _=>none
theorem sd {c:Cx P} {a:Act} {w:World} {β:Nat→Nat} {κ:Nat→Nat×Nat} (r:Rel c s a w β κ) {k:Nat} {e:TypeId} {sz:Nat} {xs:List (List AV)} (hk:lk .gone s.h k = .row e sz xs) {n:Nat} (hn:n<xs.length) :
 (xs.getD n []).length=sz∧0<sz∧∃ cur:Array Value,w.heap[β k]? = some (.cells cur e (0,0))∧cur.size=(κ k).1*sz∧xs.length≤(κ k).1∧(κ k).1≤maxLen∧(∀ i,i<xs.length→(xs.getD i []).length=sz)∧∀ i j,i<xs.length→j<sz→i*sz+j<cur.size∧D w (c.XX s.h β) ((xs.getD i []).getD j .any) (cur.getD (i*sz+j) undef):=by
 have ho:=r.hp.ob k;rw [hk] at ho;have hx:xs≠[]:=by intro e;subst e;simp at hn
 obtain ⟨cur,h1,h2,h3,h4,h0,h5,h6⟩:=ho.2 hx;refine ⟨h5 n hn,h0,cur,h1,h2,h3,h4,h5,fun i j hi hj=>⟨?_,h6 i j hi hj⟩⟩;rw [h2];calc i*sz+j<i*sz+sz:=by omega
  _=(i+1)*sz:=by rw [Nat.add_mul,Nat.one_mul]
  _≤(κ k).1*sz:=Nat.mul_le_mul_right _ (by omega)
theorem zM {c:Cx P} {a:Act} {w:World} {β:Nat→Nat} {κ:Nat→Nat×Nat} (r:Rel c s a w β κ) {t:TypeId} {x v:AV} {X:Value} {n j:Nat} {p:Prop} (hg:G w (c.XX s.h β) β κ x X) (h:sW P s t x n j=some (p,v)) (hp:p) :
 ∃ V,(Instr.loadAt t X).run P w = .ok V w∧G w (c.XX s.h β) β κ v V:=by
 unfold sW at h;split at h
 ·rename_i k o;split at h
  ·rename_i e sz xs hk;split at h
   ·rename_i m hag hsz;cases h;obtain ⟨rfl,hn,hj⟩:=hp;obtain ⟨hl,h0,cur,h1,_,_,_,_,h2⟩:=sd r hk hn;rw [hg.hptr_inv];refine ⟨_,?_,.agg _ ((List.range m).map fun i=>cur.getD (n*sz+j+i) undef).toArray (by rw [List.length_take,List.length_drop,hl];simp;omega) fun i hi => ?_⟩
    ·have:=run_loadCells (P:=P) w ⟨β k,n*sz+j,none⟩ m (fun i=>cur.getD (n*sz+j+i) undef) (fun i hi=>by rw [kn];exact bu h1 (by have:=(h2 n (j+i) hn (by omega)).1;omega))
     simp only [Instr.loadAt,Instr.sureAddr,loadVar,pure_bind,Sem.run_bind,run_isAgg hag,run_sizeOf hsz,this,Result.andThen,if_true];rfl
    ·have hi':i<m:=by rw [List.length_take] at hi;omega
     rw [getD_take _ _ _ _ hi',dA];have:=(h2 n (j+i) hn (by omega)).2;rw [show n*sz+(j+i)=n*sz+j+i by omega] at this;simpa [Kk,List.getElem?_map,hi'] using (G.d this:G w (c.XX s.h β) β κ _ _)
   ·rename_i m hag hsz;cases h;obtain ⟨rfl,hn,hj⟩:=hp;obtain ⟨hl,h0,cur,h1,_,_,_,_,h2⟩:=sd r hk hn;rw [hg.hptr_inv];refine ⟨cur.getD (n*sz+j) undef,?_,.d (h2 n j hn (by omega)).2⟩;have:=bu h1 (h2 n j hn (by omega)).1;simp [Instr.loadAt,Instr.sureAddr,loadVar,run_isAgg hag,this,go_sem]
   ·cases h
  ·cases h
 ·cases h
theorem zX {s':AS} {x:AV} {t:TypeId} {n j:Nat} (h:mM s s' x):sW P s' t x n j=sW P s t x n j:=by cases x<;>simp only [sW];case hptr k o=>rw [h k (by simp [AV.men])]
theorem Ff {t:TypeId} {x:Operand} {n j:Nat} (hg:gd ops s o=some true) (hop:o.op = .load t x) {p:Prop} {v:AV} (hv:sW P s t (s.op x) n j=some (p,v)) (hp:p) {s':AS} (h:s.put o.dst v=some s'):jl P ops o s (· = s') :=
 b9 hg fun c a w β κ r=>by obtain ⟨V,hr,hG⟩:=zM r (r.op x) hv hp;refine ⟨V,w,β,κ,.inl ?_,bE r hG h⟩;simp only [execOp,hop,Sem.run_bind,hr,Result.andThen];rfl
theorem DE {t:TypeId} {x:Operand} {n j:Nat} (hg:gd ops s o=some true) (hop:o.op = .load t x) {p:Prop} {v:AV} (hv:sW P s t (s.op x) n j=some (p,v)) (hp:p) {s1:AS} (h:s.put o.dst v=some s1):Loc P ops o s (.put o.dst v) :=
 lI rfl h fun s' ha _ h2=>Ff (by rw [bC ha];exact hg) hop (by
  have hx:x∈o.op.operands:=by rw [hop];simp [Op.operands]
  rw [aS ha hx,zX (fun k hk=>ha.h (by rw [hop];rfl) x hx k hk)];exact hv) hp h2
def oD (P:Program) (s:AS) (t:TypeId) (x y:AV) (n j:Nat):Option (Prop×AS) :=
 match x,gn y,lR P t with
 | .hptr k o,some vs,some m=>match lk .gone s.h k with
  | .row e sz xs=>if vs.length=m∧vs.all (fun v=>v.one&&v.fl)=true then some (o=n*sz+j∧n<xs.length∧j+m≤sz,⟨s.n,s.t,ins k (.row e sz (xs.set n (cX (xs.getD n []) j vs))) s.h⟩) else none
  | _=>none
 | _,_,_=>none
theorem FQ {α:Type} (l:List α) (n:Nat) (x d:α) (i:Nat) (hn:n<l.length):(l.set n x).getD i d=if i=n then x else l.getD i d:=by
 simp only [Kh,List.getElem?_set];by_cases h:n=i
 ·subst h;simp [hn]
 ·rw [if_neg h,if_neg (fun e=>h e.symm)]
theorem yH {c:Cx P} {a:Act} {w:World} {β:Nat→Nat} {κ:Nat→Nat×Nat} (r:Rel c s a w β κ) {t:TypeId} {x y:AV} {X Y:Value} {n j:Nat} {p:Prop} (hx:G w (c.XX s.h β) β κ x X) (hy:G w (c.XX s.h β) β κ y Y) {s':AS} (h:oD P s t x y n j=some (p,s')) (hp:p) :
 ∃ w',(Instr.storeAt t X Y).run P w = .ok () w'∧Rel c s' a w' β κ:=by
 unfold oD at h;split at h
 ·rename_i k off vs m hvs hm;split at h
  ·rename_i e sz xs hk;split at h
   ·rename_i hc;obtain ⟨hc1,hc3⟩:=hc;cases h;obtain ⟨rfl,hn,hj⟩:=hp;obtain ⟨hl,h0,cur,h1,hcs,hcap1,hcap2,hall,h2⟩:=sd r hk hn;obtain ⟨g1,g2⟩:=ku hy hvs;have hfl:∀ i,i<vs.length→(vs.getD i .any).one=true∧(vs.getD i .any).fl=true:=by intro i hi;have:=Ku.1 hc3 (vs.getD i .any) (by rw [Kh,Ki hi];exact List.getElem_mem _);simpa [Kj] using this
    have hone:∀ v∈Y.cells.toList,v.oneCell'=true:=by
     intro v hv;obtain ⟨i,hi,rfl⟩:=List.getElem_of_mem hv;have hi':i<Y.cells.size:=by simpa using hi
     have:=g2 i (by omega);have e1:Y.cells.getD i undef=Y.cells.toList[i]:=by simp [Kk,Ks hi']
     rw [e1] at this;exact this.one (hfl i (by omega)).1
    have hend:n*sz+j+Y.cells.size≤cur.size:=by have:=(h2 n (sz-1) hn (by omega)).1;omega
    have hst:=run_storeCells_at P (β k) (n*sz+j) e Y.cells.toList 0 cur w h1 (by simp;omega) hone;simp only [Nat.add_zero,Array.length_toList] at hst;generalize hoff:n*sz+j=off at *;let new:Array Value:=(cur.toList.take off++Y.cells.toList++cur.toList.drop (off+Y.cells.size)).toArray
    have hnewsz:new.size=cur.size:=by simp [new];omega
    have hnew:∀ i,new.getD i undef=if off≤i∧i<off+vs.length then Y.cells.getD (i-off) undef else cur.getD i undef:=by
     intro i;have hl1:(cur.toList.take off).length=off:=by simp;omega
     have hN:new.getD i undef=(cur.toList.take off++Y.cells.toList++cur.toList.drop (off+Y.cells.size)).getD i undef:=by simp [new,Kk,Kh]
     rw [hN];by_cases h4:i<off
     ·rw [if_neg (by omega),List.append_assoc,bR (by omega),getD_take _ _ _ _ h4];simp [Kk,Kh]
     ·by_cases h5:i<off+vs.length
      ·rw [if_pos ⟨by omega,h5⟩,List.append_assoc,bb (by omega),hl1,bR (by simp;omega)];simp [Kk,Kh]
      ·rw [if_neg (by omega),bb (by simp;omega),dA];have:off+Y.cells.size+(i-(cur.toList.take off++Y.cells.toList).length)=i:=by simp;omega
       rw [this];simp [Kk,Kh]
    refine ⟨w.setRow (β k) new,?_,?_⟩
    ·rw [hx.hptr_inv];simp only [Instr.storeAt,Instr.sureAddr,pure_bind,storeVar,Sem.run_bind,run_sizeOf hm,Result.andThen];rw [if_neg (by omega)];exact hst
    ·have hlive:(lk .gone s.h k).live:=by rw [hk];intro e;subst e;simp at hn
     have hbk:β k<w.heap.size:=r.hp.lt (.inl hlive);let xs':=xs.set n (cX (xs.getD n []) j vs)
     have hxs':xs'≠[]:=by
      intro e;have:xs'.length=xs.length:=by simp [xs']
      rw [e] at this;simp at this;omega
     have hsl:(AO.row e sz xs').live↔(lk .gone s.h k).live:=⟨fun _=>hlive,fun _=>hxs'⟩;have hsi:∀ j,(AO.row e sz xs').inn j↔(lk .gone s.h k).inn j:=fun j=>by rw [hk];exact Iff.rfl
     have hlv:=fun j=>qJ (h:=s.h) hsl hsi j;have hXX:c.XX (ins k (.row e sz xs') s.h) β=c.XX s.h β:=tS c β hsl hsi;have hw:∀ i,¬ c.XX s.h β i→i<w.heap.size→(w.setRow (β k) new).heap[i]? = w.heap[i]? := fun i hi _=>bj _ _ _ (fun e=>hi (.inr ⟨k,.inl hlive,e.symm⟩));have hG:∀ {v:AV} {V:Value},G w (c.XX s.h β) β κ v V→G (w.setRow (β k) new) (c.XX s.h β) β κ v V:=fun hg=>hg.mono hw (fun _ h _=>h) (fun _ _=>.refl);have hD:∀ {v:AV} {V:Value},D w (c.XX s.h β) v V→D (w.setRow (β k) new) (c.XX s.h β) v V:=fun hg=>hg.mono hw (fun _ h _=>h);refine ⟨r.df,r.sz,fun i => ?_,⟨fun q => ?_,fun i j hi hj e=>r.hp.inj i j ((hlv i).1 hi) ((hlv j).1 hj) e,?_,fun j hj=>r.hp.nk j ((hlv j).1 hj),fun j hj=>r.hp.nx j ((hlv j).1 hj),r.hp.fix,fun j hj => ?_⟩⟩
     ·show G _ (c.XX (ins k _ s.h) β) β κ _ _;rw [hXX];exact hG (r.tm i)
     ·show HO _ (c.XX (ins k (.row e sz xs') s.h) β) β κ q (lk .gone (ins k (.row e sz xs') s.h) q);rw [hXX,az];by_cases ej:q=k
      ·subst ej;rw [if_pos rfl];have hlen':xs'.length=xs.length:=by simp [xs']
       have hold:=r.hp.ob q;rw [hk] at hold;have hsp:(cX (xs.getD n []) j vs).length=sz:=by rw [jy (by omega)];exact hl
       have hgd:∀ i,xs'.getD i []=if i=n then cX (xs.getD n []) j vs else xs.getD i []:=fun i=>FQ xs n _ [] i hn
       refine ⟨by rw [hlen'];exact hold.1,fun _=>⟨new,eT w _ cur e new h1,by rw [hnewsz];exact hcs,by rw [hlen'];exact hcap1,hcap2,h0,fun i hi => ?_,fun i l hi hl2 => ?_⟩⟩
       ·rw [hgd];split
        ·exact hsp
        ·rw [hlen'] at hi;exact hall i hi
       ·rw [hlen'] at hi;rw [hgd,hnew];by_cases ei:i=n
        ·subst ei;rw [if_pos rfl,oq (by omega)];by_cases h6:j≤l∧l<j+vs.length
         ·rw [if_pos h6,if_pos (by omega),show i*sz+l-off=l-j by omega];exact hD ((g2 (l-j) (by omega)).toD (hfl (l-j) (by omega)).2)
         ·rw [if_neg h6,if_neg (by omega)];exact hD (h2 i l hi hl2).2
        ·rw [if_neg ei,if_neg ?_]
         ·exact hD (h2 i l hi hl2).2
         ·rcases Nat.lt_or_ge i n with h7 | h7
          ·have h8:(i+1)*sz≤n*sz:=Nat.mul_le_mul_right _ h7;rw [Nat.add_mul,Nat.one_mul] at h8;omega
          ·have h8:(n+1)*sz≤i*sz:=Nat.mul_le_mul_right _ (by omega);rw [Nat.add_mul,Nat.one_mul] at h8;omega
      ·rw [if_neg ej];exact (r.hp.ob q).mono hw (fun _ h _=>h) (fun _ _=>.refl) .refl (fun hl=>bj _ _ _ fun e=>ej (r.hp.inj q k (.inl hl) (.inl hlive) e)) (fun i hl=>bj _ _ _ (r.hp.vne hlive hl))
     ·refine r.hp.kp.trans (K':=c.K) ⟨rfl,rfl,rfl,by simp [World.setRow],fun b hb=>bj _ _ _ fun e=>r.hp.nk k (.inl hlive) (e ▸ hb)⟩ (fun _ h=>h)
     ·rw [az] at hj;by_cases ej:j=k
      ·rw [ej];exact r.hp.sm k hlive
      ·rw [if_neg ej] at hj;exact r.hp.sg j hj
   ·cases h
  ·cases h
 ·cases h
theorem xE {t:TypeId} {x y:Operand} {n j:Nat} (hg:gd ops s o=some true) (hop:o.op = .store t x y) (hd:o.dst=none) {p:Prop} {s':AS} (h:oD P s t (s.op x) (s.op y) n j=some (p,s')) (hp:p):jl P ops o s (· = s') :=
 b9 hg fun c a w β κ r=>by obtain ⟨w',hr,r'⟩:=yH r (r.op x) (r.op y) h hp;refine ⟨undef,w',β,κ,.inr ⟨?_,rfl⟩,by rw [hd];exact r'⟩;simp only [execOp,hop,Sem.run_bind,hr,Result.andThen];rfl
end
section
variable {P:Program} {ops:Array Oper} {o:Oper} {s s':AS}
theorem AV.pg_free {k:Nat} {v:AV} (h:AV.men k v=false):AV.pg k v=v:=by unfold AV.pg;rw [h];rfl
theorem sX {k:Nat}:∀ {cs:List AV},AV.menL k cs=false→cs.map (AV.pg k)=cs
 | [],_=>rfl
 | c::cs,h=>by simp only [AV.menL,Bool.or_eq_false_iff] at h;rw [List.map_cons,AV.pg_free h.1,sX h.2]
theorem AO.pg_free {k:Nat} {o:AO} (h:AO.men k o=false):AO.pg k o=o:=by
 cases o with
 | cells e cs=>exact congrArg (AO.cells e) (sX h)
 | _=>rfl
theorem GQ {k:Nat} (h:DO k s):jr s ⟨s.n,gC k s.t,dc k s.h⟩:=⟨rfl,fun i=>by
 show lk .any (gC k s.t) i=lk .any s.t i;rw [cq,AV.pg_free (h.1 i)],fun i=>by
 show lk .gone (dc k s.h) i=lk .gone s.h i;rw [cu,AO.pg_free (h.2 i)]⟩
theorem Dh {k:Nat} {t:TypeId} {x:AV} {cs:List AV} (hcs:gn x=some cs) (hk:(Nat.blt k s.n&&Nat.blt k 1000 && !AV.men k x)=true)
 (h:∀ s',qM ops o s s'→∀ s2,yz s' t x k=some s2→jl P ops o s' (· = s2)):Loc P ops o s ⟨[(k,.hptr k 0)],[(k,.cells t cs)],[k],[]⟩:=by
 intro s' ha hf _;have hfk:=hf k (by simp);simp only [Kj,Bool.not_eq_true'] at hk;have hb:yz s' t x k=some ⟨s'.n,ins k (.hptr k 0) (gC k s'.t),ins k (.cells t cs) (dc k s'.h)⟩:=by unfold yz;rw [AV.pg_free hk.2,hcs];simp only [AS.fresh];rw [ha.n,hk.1.1,hk.1.2];rfl
 refine (h s' ha _ hb).mono fun s'' e => ?_;subst e;have hs:=GQ hfk;refine ⟨rfl,fun i => ?_,fun i => ?_⟩
 ·show lk .any (ins k (.hptr k 0) (gC k s'.t)) i=lk .any (im [(k,.hptr k 0)] s'.t) i;rw [az,cg,cq,AV.pg_free (hfk.1 i)];simp only [fU];by_cases e:i=k
  ·subst e;simp
  ·rw [if_neg e,bG e];rfl
 ·show lk .gone (ins k (.cells t cs) (dc k s'.h)) i=lk .gone (im [(k,.cells t cs)] s'.h) i;rw [az,cg,cu,AO.pg_free (hfk.2 i)];simp only [fU];by_cases e:i=k
  ·subst e;simp
  ·rw [if_neg e,bG e];rfl
theorem tL {w:World} {X:Nat→Prop} {β:Nat→Nat} {κ:Nat→Nat×Nat} {t:TypeId} {len:Nat} {parts:List (Nat×AV)} {vals:Array (Nat×Value)} (hl:parts.length=vals.size)
 (hp:∀ i,i<parts.length→(parts.getD i default).1=(vals.toList.getD i default).1∧G w X β κ (parts.getD i default).2 (vals.toList.getD i default).2) {xs:List (List AV)} (h:cT P t len parts=some (.dslice xs))
 {e:TypeId} {sz by_:Nat} (he2:dP P t=some (e,sz,by_)) :
 ∃ arr:Array Value,(Instr.buildSlice t len vals).run P w = .ok (.slice (some ⟨w.heap.size,0,none⟩) xs.length xs.length) (w.alloc (.cells arr e))∧xs≠[]∧0<sz∧arr.size=xs.length*sz∧xs.length≤maxLen ∧
  (∀ i,i<xs.length→(xs.getD i []).length=sz)∧(∀ i j,i<xs.length→j<sz→D w X ((xs.getD i []).getD j .any) (arr.getD (i*sz+j) undef)):=by
 obtain ⟨hu2,i2,z2,hi2,_,hs2,_,_,hsz⟩:=gf he2;unfold cT at h;split at h
 ·rename_i e' he;have hu1:=fD he;rw [hu2] at hu1;cases hu1;split at h
  ·rename_i n z hn hz;have en:n=sz:=by unfold lR at hn;rw [hi2] at hn;have:=Kt hn;omega
   subst en;split at h
   ·cases h
   ·rename_i hc;simp only [not_or,Nat.not_lt] at hc;obtain ⟨hn0,hc1,hc2⟩:=hc;have hc2:z.cells.size=n:=by simpa using hc2
    have hnb:¬ (len*n>2 ^ 24):=by omega
    split at h
    ·split at h<;>cases h
    ·rename_i hl0;split at h
     ·rename_i ys hxs;split at h
      ·rename_i hcc;cases h;simp only [Kj] at hcc;obtain ⟨p1,p2,p3,p4⟩:=oH hxs;have hxl:xs.length=len:=bP.1 hcc.2;let zs:Array Value:=(Array.range (len*n)).map (z.cells[· % z.cells.size]!)
       have hzs:zs.size=len*n:=by simp [zs]
       have hle:(0+parts.length)*n≤(zs.toList.map AV.of1).length:=by simp [hzs,← p1,hxl]
       obtain ⟨arr,a1,a2,a3⟩:=ke (w:=w) (X:=X) (β:=β) (κ:=κ) parts vals.toList (zs.toList.map AV.of1) zs (by simpa using hl) hp (by simp) (yI _) _ (oG parts 0 xs _ hxs hcc.1 hle);have hflat:(List.take (0*n) (zs.toList.map AV.of1)++xs.flatten++List.drop ((0+parts.length)*n) (zs.toList.map AV.of1))=xs.flatten:=by rw [Nat.zero_mul,List.take_zero,List.nil_append,List.drop_eq_nil_of_le (by simp [hzs,← p1,hxl]),List.append_nil]
       rw [hflat] at a2 a3;have hfl:=oK p2;refine ⟨arr,?_,fun e0=>hl0 (by rw [← hxl,e0];rfl),hsz,by rw [a2,hfl],by unfold maxLen;have:len*1≤len*n:=Nat.mul_le_mul_left _ (by omega);omega,fun i hi=>p2.getD hi,fun i j hi hj => ?_⟩
       ·simp only [Instr.buildSlice,Sem.run_bind,aL hu2,Result.andThen,run_sizeOf hn];rw [if_neg hnb];have h0:¬ (len*n=0):=by rw [Nat.mul_eq_zero];omega
        simp only [h0,if_false,Sem.run_bind,jM hz,Result.andThen,pure_bind];have:Instr.fill (fun i=>some (i*n,n)) ((Array.range (len*n)).map (z.cells[· % z.cells.size]!)) vals.toList=some arr:=a1;rw [this,hxl];simp [newRow,go_sem]
       ·have hij:i*n+j<xs.flatten.length:=by rw [hfl];have:(i+1)*n≤xs.length*n:=Nat.mul_le_mul_right _ hi;rw [Nat.add_mul] at this;omega
        have:=a3 (i*n+j) hij;rw [nQ p2 hi hj] at this;refine this.toD ?_;have hxm:xs.getD i []∈xs:=by rw [Kh,Ki hi];exact List.getElem_mem hi
        exact jf (by rw [p2.getD hi];exact hj) (p3 _ hxm)
      ·cases h
     ·cases h
  ·cases h
 ·cases h
theorem CA {c:Cx P} {a:Act} {w:World} {β:Nat→Nat} {κ:Nat→Nat×Nat} {s:AS} (r:Rel c s a w β κ) {k k':Nat} {e:TypeId} {sz:Nat} {zs:List (List AV)} {s':AS} (h:s.grow k k' e sz zs=some s') (arr:Array Value) (C:Nat) (hz:zs≠[]) (hsz:0<sz)
 (hl:∀ i,i<zs.length→(zs.getD i []).length=sz) (hs:arr.size=C*sz) (hC:zs.length≤C) (hCm:C≤maxLen)
 (hG:∀ i j,i<zs.length→j<sz→D w (c.XX s.h β) ((zs.getD i []).getD j .any) (arr.getD (i*sz+j) undef)) :
 ∃ β' κ',Rel c s' (a.put (some k') (.slice (some ⟨w.heap.size,0,none⟩) zs.length C)) (w.alloc (.cells arr e)) β' κ':=by
 unfold AS.grow at h;cases hc:(Nat.blt k' s.n&&Nat.blt k' 1000) with
 | false=>rw [hc] at h;cases h
 | true =>
  rw [hc] at h;cases h;simp only [Kj,Nat.blt_eq] at hc;have r':=r.drop2 k k';obtain ⟨m1,m2⟩:=FH k k' s;have hw:∀ b,b<w.heap.size→(w.alloc (.cells arr e)).heap[b]? = w.heap[b]? := fun b hb=>ff w _ hb;have hsub:∀ b,¬ c.XX s.h β b→b<w.heap.size→¬ c.XX (ins k' (.row e sz zs) (s.drop2 k k').h) (upd β k' w.heap.size) b:=by
   rintro b hb hlt (hx | ⟨j,hl,hj⟩)
   ·exact hb (.inl hx)
   ·rcases eG (o:=.row e sz zs) (by omega) (fun _ h=>h) hl with ⟨ej,_⟩ | ⟨ej,hl⟩
    ·subst ej;rw [ao] at hj;omega
    ·rw [be β ej] at hj;exact hb (.inr ⟨j,(qR hl).1,hj⟩)
  obtain ⟨h1,h2⟩:=r'.hp.anew (w':=w.alloc (.cells arr e)) hc.2 (fun j _=>(m2 j).2) w.heap.size (C,zs.length) (Nat.le_refl _) hw (eB _ w _ r.Klt) (o:=.row e sz zs)
   ⟨by rw [ao],fun _=>⟨arr,by rw [ao];exact iQ w _,by rw [ao];exact hs,by rw [ao];exact hC,by rw [ao];exact hCm,hsz,hl,fun i j hi hj=>(hG i j hi hj).mono (w:=w) (fun b _ hb=>hw b hb) hsub⟩⟩
  refine ⟨upd β k' w.heap.size,upd κ k' (C,zs.length),r.df,by simp [Act.put,r.sz],fun i => ?_,h1⟩;show G _ _ _ _ (lk .any (ins k' (.rslice k') (s.drop2 k k').t) i) _;rw [az];by_cases hi:i=k'
  ·subst hi;have hi':i<a.tmps.size:=by rw [r.sz];exact hc.1
   have hlz:0<zs.length:=by cases zs with | nil=>exact absurd rfl hz | cons _ _=>simp
   have:=G.rslice (w:=w.alloc (.cells arr e)) (X:=c.XX (ins i (.row e sz zs) (s.drop2 k i).h) (upd β i w.heap.size)) (β:=upd β i w.heap.size) (κ:=upd κ i (C,zs.length)) i (by rw [ao];exact hlz);rw [ao,ao] at this;simpa [Act.put,Kk,Array.getElem?_setIfInBounds,hi'] using this
  ·have:=h2 (r'.tm i) (m1 i).2;rw [if_neg hi];have hne:¬ k'=i:=fun e=>hi e.symm;simpa [Act.put,Kk,Array.getElem?_setIfInBounds,hne] using this
theorem Al {xs zs:List (List AV)} (hz:xs=zs∨xs.map (List.map AV.wk0)=zs) {w:World} {X:Nat→Prop} {arr:Array Value} {sz:Nat} (h0:xs≠[]∧0<sz∧arr.size=xs.length*sz∧xs.length≤maxLen ∧
 (∀ i,i<xs.length→(xs.getD i []).length=sz)∧(∀ i j,i<xs.length→j<sz→D w X ((xs.getD i []).getD j .any) (arr.getD (i*sz+j) undef))) :
 zs.length=xs.length∧zs≠[]∧0<sz∧arr.size=zs.length*sz∧zs.length≤maxLen ∧
  (∀ i,i<zs.length→(zs.getD i []).length=sz)∧(∀ i j,i<zs.length→j<sz→D w X ((zs.getD i []).getD j .any) (arr.getD (i*sz+j) undef)):=by
 rcases hz with rfl | rfl
 ·exact ⟨rfl,h0⟩
 ·obtain ⟨g1,g2,g3,g4,g5,g6⟩:=h0;have e1:∀ i,(xs.map (List.map AV.wk0)).getD i []=(xs.getD i []).map AV.wk0:=fun i=>by simp only [Kh,List.getElem?_map];cases xs[i]? <;> rfl
  have e2:∀ (l:List AV) (j:Nat),(l.map AV.wk0).getD j .any=AV.wk0 (l.getD j .any):=fun l j=>by simp only [Kh,List.getElem?_map];cases l[j]? <;> rfl
  refine ⟨by simp,by simpa using g1,g2,by simpa using g3,by simpa using g4,fun i hi => ?_,fun i j hi hj => ?_⟩
  ·rw [e1,Kp];exact g5 i (by simpa using hi)
  ·rw [e1,e2];exact (g6 i j (by simpa using hi) hj).wk0
theorem te {t e:TypeId} {len sz by_ k':Nat} {ps:Array (Nat×Operand)} {xs:List (List AV)} (hg:gd ops s o=some true) (hop:o.op = .buildSlice t len ps) (hd:o.dst=some k') (he:dP P t=some (e,sz,by_))
 (hv:cT P t len (s.parts ps)=some (.dslice xs)) {zs:List (List AV)} (hzs:xs=zs∨xs.map (List.map AV.wk0)=zs) {s':AS} (h:s.grow k' k' e sz zs=some s'):jl P ops o s (· = s') :=
 b9 hg fun c a w β κ r=>by obtain ⟨h1,h2⟩:=qk r ps;obtain ⟨arr,hr,h0⟩:=tL h1 h2 hv he;obtain ⟨gl,g1,g2,g3,g4,g5,g6⟩:=Al hzs h0;obtain ⟨β',κ',r'⟩:=CA r h arr zs.length g1 g2 g5 g3 (Nat.le_refl _) g4 g6;rw [gl] at r';refine ⟨_,_,β',κ',.inl ?_,by rw [hd];exact r'⟩;simp only [execOp,hop];show ((Instr.buildSlice t len (ps.map fun p=>(p.1,a.eval p.2))) >>= fun x=>pure (Next.value x)).run P w=_;rw [Sem.run_bind,hr];rfl
theorem yL {t e:TypeId} {len sz by_ k':Nat} {ps:Array (Nat×Operand)} {xs:List (List AV)} (hg:gd ops s o=some true) (hop:o.op = .buildSlice t len ps) (hd:o.dst=some k') (he:dP P t=some (e,sz,by_))
 (hv:cT P t len (s.parts ps)=some (.dslice xs)) {zs:List (List AV)} (hzs:xs=zs∨xs.map (List.map AV.wk0)=zs) (hk:(Nat.blt k' s.n&&Nat.blt k' 1000)=true):Loc P ops o s ⟨[(k',.rslice k')],[(k',.row e sz zs)],[k'],[]⟩:=by
 intro s' ha hf _;have hfk:=hf k' (by simp);have hv':cT P t len (s'.parts ps)=some (.dslice xs):=by rw [← hv];congr 1;unfold AS.parts;refine List.map_congr_left fun p hp => ?_;rw [aS ha];rw [hop];simp only [Op.operands,List.mem_toArray,List.mem_map];exact ⟨p,hp,rfl⟩
 have hgr:s'.grow k' k' e sz zs=some ⟨s'.n,ins k' (.rslice k') (s'.drop2 k' k').t,ins k' (.row e sz zs) (s'.drop2 k' k').h⟩:=by unfold AS.grow;rw [ha.n,hk];rfl
 refine (te (by rw [bC ha];exact hg) hop hd he hv' hzs hgr).mono fun s'' e1 => ?_;subst e1;refine ⟨rfl,fun i => ?_,fun i => ?_⟩
 ·show lk .any (ins k' (.rslice k') (gC k' (gC k' s'.t))) i=lk .any (im [(k',.rslice k')] s'.t) i;rw [az,cg,cq,cq,AV.pg_free (hfk.1 i),AV.pg_free (hfk.1 i)];simp only [fU];by_cases e:i=k'
  ·subst e;simp
  ·rw [if_neg e,bG e];rfl
 ·show lk .gone (ins k' (.row e sz zs) (rm k' (dc k' (dc k' s'.h)))) i=lk .gone (im [(k',.row e sz zs)] s'.h) i;rw [az,cg,iT,cu,cu,AO.pg_free (hfk.2 i),AO.pg_free (hfk.2 i)];simp only [fU];by_cases e:i=k'
  ·subst e;simp
  ·rw [if_neg e,if_neg e,bG e];rfl
theorem GK {x y:Operand} {t e:TypeId} {sz by_ k':Nat} {ys:List (List AV)} (hg:gd ops s o=some true) (hop:o.op = .call ⟨.builtin .append,#[x,y],#[t,t]⟩) (hd:o.dst=some k') (he:dP P t=some (e,sz,by_))
 (hx:s.op x = .eslice) (hy:s.op y = .dslice ys∨(s.op y = .eslice∧ys=[])) (hE:EL sz ys) (hb:(0+ys.length)*by_≤140737488355328) (h63:0+ys.length≤9223372036854775807) (hk:(Nat.blt k' s.n&&Nat.blt k' 1000)=true) :
 Loc P ops o s ⟨[(k',.rslice k')],[(k',.row e sz ys)],[k'],[]⟩:=by
 intro s' ha hf _;have hfk:=hf k' (by simp);have hx':s'.op x = .eslice:=by rw [aS ha (by rw [hop];simp [Op.operands,Call.operands])];exact hx
 have hy':s'.op y = .dslice ys∨(s'.op y = .eslice∧ys=[]):=by rw [aS ha (by rw [hop];simp [Op.operands,Call.operands])];exact hy
 have hgr:s'.grow k' k' e sz ([]++ys)=some ⟨s'.n,ins k' (.rslice k') (s'.drop2 k' k').t,ins k' (.row e sz ([]++ys)) (s'.drop2 k' k').h⟩:=by unfold AS.grow;rw [ha.n,hk];rfl
 refine (sK (by rw [bC ha];exact hg) hop hd he (.inl ⟨hx',rfl⟩) hy' hE (by simpa using hb) (by simpa using h63) hgr).mono fun s'' e1 => ?_;subst e1;refine ⟨rfl,fun i => ?_,fun i => ?_⟩
 ·show lk .any (ins k' (.rslice k') (gC k' (gC k' s'.t))) i=lk .any (im [(k',.rslice k')] s'.t) i;rw [az,cg,cq,cq,AV.pg_free (hfk.1 i),AV.pg_free (hfk.1 i)];simp only [fU];by_cases e:i=k'
  ·subst e;simp
  ·rw [if_neg e,bG e];rfl
 ·show lk .gone (ins k' (.row e sz ([]++ys)) (rm k' (dc k' (dc k' s'.h)))) i=lk .gone (im [(k',.row e sz ys)] s'.h) i;rw [az,cg,iT,cu,cu,AO.pg_free (hfk.2 i),AO.pg_free (hfk.2 i)];simp only [fU];by_cases e:i=k'
  ·subst e;simp
  ·rw [if_neg e,if_neg e,bG e];rfl
theorem GM {y:Operand} {t e:TypeId} {sz by_ k k' tx:Nat} {xs ys:List (List AV)} (hg:gd ops s o=some true) (hop:o.op = .call ⟨.builtin .append,#[.tmp tx,y],#[t,t]⟩) (hd:o.dst=some k') (he:dP P t=some (e,sz,by_))
 (hx:lk .any s.t tx = .rslice k) (hrow:lk .gone s.h k = .row e sz xs) (hy:s.op y = .dslice ys∨(s.op y = .eslice∧ys=[])) (hE:EL sz ys) (hb:(xs.length+ys.length)*by_≤140737488355328) (h63:xs.length+ys.length≤9223372036854775807)
 (hk:(Nat.blt k' s.n&&Nat.blt k' 1000 && !Nat.beq k k' && !Nat.beq tx k')=true) :
 Loc P ops o s ⟨[(k',.rslice k'),(tx,.any)],[(k',.row e sz (xs++ys)),(k,.gone)],[k'],[(k,tx)]⟩:=by
 intro s' ha hf ho;have hfk:=hf k' (by simp);have hok:=ho (k,tx) (by simp);simp only [Kj,Bool.not_eq_true'] at hk;obtain ⟨⟨hk1,hk2⟩,hk3⟩:=hk;have hkk:k≠k':=fun e=>by rw [e,Nat.beq_refl] at hk2;cases hk2
 have htk:tx≠k':=fun e=>by rw [e,Nat.beq_refl] at hk3;cases hk3
 have hxo:Operand.tmp tx∈o.op.operands:=by rw [hop];simp [Op.operands,Call.operands]
 have hx':s'.op (.tmp tx) = .rslice k:=by rw [aS ha hxo];exact hx
 have hrow':lk .gone s'.h k = .row e sz xs:=by rw [ha.h (by rw [hop];rfl) _ hxo k (by show AV.men k (lk .any s.t tx)=true;rw [hx];simp [AV.men])];exact hrow
 have hy':s'.op y = .dslice ys∨(s'.op y = .eslice∧ys=[]):=by rw [aS ha (by rw [hop];simp [Op.operands,Call.operands])];exact hy
 have hgr:s'.grow k k' e sz (xs++ys)=some ⟨s'.n,ins k' (.rslice k') (s'.drop2 k k').t,ins k' (.row e sz (xs++ys)) (s'.drop2 k k').h⟩:=by unfold AS.grow;rw [ha.n,hk1.1,hk1.2];rfl
 refine (sK (by rw [bC ha];exact hg) hop hd he (.inr ⟨hx',hrow'⟩) hy' hE hb h63 hgr).mono fun s'' e1 => ?_;subst e1;refine ⟨rfl,fun i => ?_,fun i => ?_⟩
 ·show lk .any (ins k' (.rslice k') (gC k (gC k' s'.t))) i=lk .any (im [(k',.rslice k'),(tx,.any)] s'.t) i;rw [az,cg,cq,cq,AV.pg_free (hfk.1 i)];simp only [fU];by_cases e:i=k'
  ·subst e;simp
  ·rw [if_neg e,bG e];by_cases e2:i=tx
   ·subst e2;have hx2:lk .any s'.t i = .rslice k:=hx';simp [hx2,AV.pg,AV.men]
   ·rw [bG e2,AV.pg_free (hok.1 i e2)];rfl
 ·show lk .gone (ins k' (.row e sz (xs++ys)) (rm k (dc k (dc k' s'.h)))) i=lk .gone (im [(k',.row e sz (xs++ys)),(k,.gone)] s'.h) i;rw [az,cg,iT,cu,cu,AO.pg_free (hfk.2 i),AO.pg_free (hok.2 i)];simp only [fU];by_cases e:i=k'
  ·subst e;simp
  ·rw [if_neg e,bG e];by_cases e2:i=k
   ·subst e2;simp
   ·rw [if_neg e2,bG e2];rfl
def J8:AV→Option (List (List AV))
 | .dslice ys=>some ys
 | .eslice=>some []
 | _=>none
theorem z6 {v:AV} {ys:List (List AV)} (h:J8 v=some ys):v = .dslice ys∨(v = .eslice∧ys=[]):=by
 unfold J8 at h;split at h
 ·cases h;exact .inl rfl
 ·cases h;exact .inr ⟨rfl,rfl⟩
 ·cases h
def FY (P:Program) (s:AS) (dst:Option Tmp) (zs:List (List AV)):Op→Option (List Prop×cF)
 | .call ⟨.builtin .append,ar,tys⟩=>match ar.toList,tys.toList,dst with
  | [x,y],[t,t'],some k'=>bif Nat.beq t t' then (match dP P t,s.op x,J8 (s.op y) with
   | some (e,sz,by_),.eslice,some ys=>bif Nat.blt k' s.n&&Nat.blt k' 1000 then some ([EL sz ys,(0+ys.length)*by_≤140737488355328,0+ys.length≤9223372036854775807,ys=zs],⟨[(k',.rslice k')],[(k',.row e sz zs)],[k'],[]⟩) else none
   | some (e,sz,by_),.rslice k,some ys=>(match x,lk .gone s.h k with
    | .tmp tx,.row e2 sz2 xs=>bif Nat.beq e e2&&Nat.beq sz sz2&&(Nat.blt k' s.n&&Nat.blt k' 1000 && !Nat.beq k k' && !Nat.beq tx k') then some ([EL sz ys,(xs.length+ys.length)*by_≤140737488355328,xs.length+ys.length≤9223372036854775807,xs++ys=zs],⟨[(k',.rslice k'),(tx,.any)],[(k',.row e sz zs),(k,.gone)],[k'],[(k,tx)]⟩) else none
    | _,_=>none)
   | _,_,_=>none) else none
  | _,_,_=>none
 | .buildSlice t len ps=>match dst,dP P t,cT P t len (s.parts ps) with
  | some k',some (e,sz,_),some (.dslice xs)=>bif Nat.blt k' s.n&&Nat.blt k' 1000 then some ([xs.map (List.map AV.wk0)=zs],⟨[(k',.rslice k')],[(k',.row e sz zs)],[k'],[]⟩) else none
  | _,_,_=>none
 | _=>none
theorem AE {zs:List (List AV)} {ps:List Prop} {e:cF} (hg:gd ops s o=some true) (h:FY P s o.dst zs o.op=some (ps,e)) (hp:∀ p∈ps,p):Loc P ops o s e:=by
 unfold FY at h;split at h
 ·rename_i ar tys hop;split at h
  ·rename_i x y t t' k' har hty hd;cases ht:Nat.beq t t' with
   | false=>rw [ht] at h;cases h
   | true =>
    rw [ht] at h;have ht:=bP.1 ht;subst ht;have e1:ar = #[x,y]:=by rw [← Array.toList_inj];exact har
    have e2:tys = #[t,t]:=by rw [← Array.toList_inj];exact hty
    subst e1;subst e2;simp only [cond_true] at h;split at h
    ·rename_i e3 sz by_ ys he hx hy;cases hk:(Nat.blt k' s.n&&Nat.blt k' 1000) with
     | false=>rw [hk] at h;cases h
     | true =>
      rw [hk] at h;simp only [cond_true,Kr,Prod.mk.injEq] at h;obtain ⟨rfl,rfl⟩:=h;have h1:=hp (EL sz ys) (by simp);have h2:=hp ((0+ys.length)*by_≤140737488355328) (by simp);have h3:=hp (0+ys.length≤9223372036854775807) (by simp);have h4:=hp (ys=zs) (by simp);subst h4;exact GK hg hop hd he hx (z6 hy) h1 h2 h3 hk
    ·rename_i e3 sz by_ k ys he hx hy;split at h
     ·rename_i tx e4 sz4 xs hrow;cases hk:(Nat.beq e3 e4&&Nat.beq sz sz4&&(Nat.blt k' s.n&&Nat.blt k' 1000 && !Nat.beq k k' && !Nat.beq tx k')) with
      | false=>rw [hk] at h;cases h
      | true =>
       rw [hk] at h;simp only [cond_true,Kr,Prod.mk.injEq] at h;obtain ⟨rfl,rfl⟩:=h;rw [Kj,Kj] at hk;have q1:=bP.1 hk.1.1;have q2:=bP.1 hk.1.2;subst q1;subst q2;have h1:=hp (EL sz ys) (by simp);have h2:=hp ((xs.length+ys.length)*by_≤140737488355328) (by simp);have h3:=hp (xs.length+ys.length≤9223372036854775807) (by simp);have h4:=hp (xs++ys=zs) (by simp);subst h4;exact GM hg hop hd he hx hrow (z6 hy) h1 h2 h3 hk.2
     ·cases h
    ·cases h
  ·cases h
 ·rename_i t len ps hop;split at h
  ·rename_i k' e2 sz by_ xs hd he hv;cases hk:(Nat.blt k' s.n&&Nat.blt k' 1000) with
   | false=>rw [hk] at h;cases h
   | true =>
    rw [hk] at h;simp only [cond_true,Kr,Prod.mk.injEq] at h;obtain ⟨rfl,rfl⟩:=h;exact yL hg hop hd he hv (.inr (hp (xs.map (List.map AV.wk0)=zs) (by simp))) hk
  ·cases h
 ·cases h
def EU (P:Program) (s:AS) (dst:Option Tmp):Op→Option cF
 | .box t x=>match dst,gn (s.op x) with
  | some k,some cs=>bif Nat.blt k s.n&&Nat.blt k 1000 && !AV.men k (s.op x) then some ⟨[(k,.hptr k 0)],[(k,.cells t cs)],[k],[]⟩ else none
  | _,_=>none
 | .alloc t=>match dst,zeroOf P t with
  | some k,some z=>match gn (AV.of z) with
   | some cs=>bif Nat.blt k s.n&&Nat.blt k 1000 && !AV.men k (AV.of z) then some ⟨[(k,.hptr k 0)],[(k,.cells t cs)],[k],[]⟩ else none
   | none=>none
  | _,_=>none
 | .store t x y=>match dst with
  | none=>match s.op x,gn (s.op y),lR P t with
   | .hptr k off,some vs,some n=>match lk .gone s.h k with
    | .cells e cs=>bif decide (vs.length=n∧off+vs.length≤cs.length∧vs.all AV.one=true) then some ⟨[],[(k,.cells e (cX cs off vs))],[],[]⟩ else none
    | _=>none
   | _,_,_=>none
  | some _=>none
 | _=>none
theorem sD {α:Type} {b:Bool} {x y:α} (h:(bif b then some x else none)=some y):b=true∧x=y:=by
 cases b with
 | true=>exact ⟨rfl,Kt h⟩
 | false=>cases h
theorem A2 {e:cF} (hg:gd ops s o=some true) (h:EU P s o.dst o.op=some e):Loc P ops o s e:=by
 unfold EU at h;split at h
 ·rename_i t x hop;split at h
  ·rename_i k cs hd hcs;obtain ⟨hk,rfl⟩:=sD h;refine Dh hcs hk fun s' ha s2 hb => ?_;have hx:s'.op x=s.op x:=aS ha (by rw [hop];simp [Op.operands]);exact Fo (by rw [bC ha];exact hg) hop hd (by rw [hx];exact hb)
  ·cases h
 ·rename_i t hop;split at h
  ·rename_i k z hd hz;split at h
   ·rename_i cs hcs;obtain ⟨hk,rfl⟩:=sD h;exact Dh hcs hk fun s' ha s2 hb=>zl (by rw [bC ha];exact hg) hop hd hz hb
   ·cases h
  ·cases h
 ·rename_i t x y hop;split at h
  ·rename_i hd;split at h
   ·rename_i k off vs n hx hvs hn;split at h
    ·rename_i e2 cs hk;obtain ⟨hc,rfl⟩:=sD h;have hc:=Km hc;intro s' ha _ _;have hxo:x∈o.op.operands:=by rw [hop];simp [Op.operands]
     have hyo:y∈o.op.operands:=by rw [hop];simp [Op.operands]
     have hx':s'.op x = .hptr k off:=by rw [aS ha hxo];exact hx
     have hy':s'.op y=s.op y:=aS ha hyo;have hk':lk .gone s'.h k = .cells e2 cs:=by rw [ha.h (by rw [hop];rfl) x hxo k (by rw [hx];simp [AV.men])];exact hk
     have hst:r6 P s' t (s'.op x) (s'.op y)=some ⟨s'.n,s'.t,ins k (.cells e2 (cX cs off vs)) s'.h⟩:=by unfold r6;rw [hx',hy',hvs,hn];simp only [hk'];rw [if_pos hc]
     refine (zP (by rw [bC ha];exact hg) hop hd hst).mono fun s'' e => ?_;subst e;exact ⟨rfl,fun _=>rfl,fun i=>rfl⟩
    ·cases h
   ·cases h
  ·cases h
 ·cases h
end
section
variable {P:Program} {ops:Array Oper} {o:Oper} {s:AS}
def bk (qs:List (Nat×Nat)) (h':List (Nat×AO)):List (Nat×Nat)→List (Nat×AO)→List (Nat×AO)
 | [],h=>h
 | (k,j)::ps,h=>ins k (AO.ren qs (lk .gone h' j)) (bk qs h' ps h)
theorem Dk {qs:List (Nat×Nat)} {h' h:List (Nat×AO)}:∀ {ps:List (Nat×Nat)} (k:Nat),lk .gone (bk qs h' ps h) k=match rk ps k with | some j=>AO.ren qs (lk .gone h' j) | none=>lk .gone h k
 | [],k=>rfl
 | (k0,j0)::ps,k=>by
  simp only [bk,az,rk];by_cases e:k=k0
  ·subst e;simp
  ·rw [if_neg e,bG e];exact Dk k
def j5 (ps:List (Nat×Nat)) (d:Nat) (h' h:List (Nat×AO)):List (Nat×AO) :=
 ins d (AO.ren ((0,d)::swp ps) (lk .gone h' 0)) (bk ((0,d)::swp ps) h' ps (dc d h))
theorem ze {f:FuncId} (he:Go.Proofs.Enters P f) {x:Operand} {ar:Array Operand} {tys:Array TypeId} (hg:gd ops s o=some true) (hop:o.op = .call ⟨.value x,ar,tys⟩) {args0:List AV}
 (hx:∀ (c:Cx P) a w β κ,Rel c s a w β κ→∃ vs:Array Value,(execOp a.eval o).run P w = .ok (.enter f vs) w∧vs.size=args0.length∧∀ i,i<args0.length→G w (c.XX s.h β) β κ (args0.getD i .any) (vs.toList.getD i undef))
 (ps:List (Nat×Nat)) (d:Nat) (hps:(mI ps&&(ps.all fun p=>Nat.ble 1000 p.2&&(Nat.blt p.2 1000000&&Nat.blt p.1 1000000))&&(rk ps d).isNone&&Nat.blt d 1000)=true) {Post:AV→List (Nat×AO)→Prop} (hnoR:s.noR=true∨(ps=[]∧∀ v h',Post v h'→(lk .gone h' 0).isR=false)) {args:List AV} (hargs:args0.map (AV.ren ps)=args) {h0:List (Nat×AO)} (hh:hand ps s.h=h0) (hc:bT P f args h0 Post) {N:AS→Prop}
 (hN:∀ v h',Post v h'→∃ s',AS.put ⟨s.n,gC d s.t,j5 ps d h' s.h⟩ o.dst (AV.ren ((0,d)::swp ps) v)=some s'∧N s'):jl P ops o s N:=fun c a w β κ r K Q hK=>by
 subst hargs;subst hh;simp only [Kj] at hps;obtain ⟨⟨⟨hinj,hlv⟩,hnd⟩,hd⟩:=hps;rw [Nat.blt_eq] at hd;have hnd:rk ps d=none:=by simpa using hnd
 have hchk:∀ {k j},rk ps k=some j→1000≤j∧j<1000000∧k<1000000:=fun h=>by have:=Ku.1 hlv _ (mR h);simp only [Kj,Nat.ble_eq,Nat.blt_eq] at this;exact this
 rw [fT r hg];simp only [if_true];obtain ⟨vs,hrun,a1,a2⟩:=hx c a w β κ r;unfold Oper.wp;rw [hrun];let τ:Nat→Nat→Prop:=fun n n'=>(rk ps n=some n'∧n<1000000)∨∃ k j i,rk ps k=some j∧i<1000000∧n=gk k i∧n'=gk j i
 let H:Nat→Prop:=fun b=>∃ n n',τ n n'∧lv s.h n∧β n=b
 let βc:Nat→Nat:=tF (fun j=>match rk (swp ps) j with | some k=>β k | none=>0) (fun j i=>match rk (swp ps) j with | some k=>β (gk k i) | none=>0)
 let κc:Nat→Nat×Nat:=tF (fun j=>match rk (swp ps) j with | some k=>κ k | none=>(0,0)) (fun j i=>match rk (swp ps) j with | some k=>κ (gk k i) | none=>(0,0))
 have hβ:∀ k j,rk ps k=some j→βc j=β k∧κc j=κ k:=by intro k j h;have h2:=(bU hinj).2 h;have h3:=(hchk h).2.1;exact ⟨by simp only [βc,fc h3,h2],by simp only [κc,fc h3,h2]⟩
 have hβv:∀ k j,rk ps k=some j→∀ i,i<1000000→βc (gk j i)=β (gk k i)∧κc (gk j i)=κ (gk k i):=by intro k j h i hi;have h2:=(bU hinj).2 h;exact ⟨by simp only [βc,du hi,h2],by simp only [κc,du hi,h2]⟩
 have hβτ:∀ n n',τ n n'→βc n'=β n:=by
  rintro n n' (⟨h,_⟩ | ⟨k,j,i,h,hi,rfl,rfl⟩)
  ·exact (hβ _ _ h).1
  ·exact (hβv _ _ h i hi).1
 have hτi:∀ {n n1 n2},τ n n1→τ n n2→n1=n2:=by
  rintro n n1 n2 (⟨h,h'⟩ | ⟨k,j,i,h,hi,rfl,rfl⟩) (⟨g,g'⟩ | ⟨k2,j2,i2,g,hi2,e,rfl⟩)
  ·rw [h] at g;exact Kt g
  ·have:=cL k2 i2;omega
  ·have:=cL k i;omega
  ·obtain ⟨rfl,rfl⟩:=dR hi hi2 e;rw [h] at g;rw [Kt g]
 have hsz:∀ b,c.XX s.h β b→b<w.heap.size:=by
  rintro b (h | ⟨k,h1,rfl⟩)
  ·exact Nat.lt_of_lt_of_le (c.hX b h) r.hp.kp.size
  ·exact r.hp.lt h1
 have hKH:∀ b,c.K b→¬ H b:=by rintro b hb ⟨n,n',_,h2,rfl⟩;exact r.hp.nk n h2 hb
 have hXH:∀ b,c.X b→¬ H b:=by rintro b hb ⟨n,n',_,h2,rfl⟩;exact r.hp.nx n h2 hb
 let c':Cx P:=⟨fun b=>b<w.heap.size∧¬ H b,fun b=>c.XX s.h β b∧¬ H b,w,βc,κc,fun _ h=>h.1,fun b h=>hsz b h.1,fun w' hk=>c.gp w' (r.hp.kp.trans hk fun b hb=>⟨r.Klt b hb,hKH b hb⟩)⟩
 have hlk:∀ j,lk .gone (hand ps s.h) j=match rk (swp ps) j with | some k=>AO.ren ps (lk .gone s.h k) | none=>.gone:=fun j=>qI hinj j
 have hlvh:∀ n',lv (hand ps s.h) n'→∃ n,τ n n'∧lv s.h n:=by
  rintro n' (h1 | ⟨m,i,rfl,h1⟩)
  ·rw [hlk] at h1;cases e:rk (swp ps) n' with
   | none=>rw [e] at h1;exact h1.elim
   | some k =>
    rw [e] at h1;have e2:=(bU hinj).1 e;exact ⟨k,.inl ⟨e2,(hchk e2).2.2⟩,.inl (jY.1 h1)⟩
  ·rw [hlk] at h1;cases e:rk (swp ps) m with
   | none=>rw [e] at h1;exact h1.elim
   | some k =>
    rw [e] at h1;have e2:=(bU hinj).1 e;exact ⟨gk k i,.inr ⟨k,m,i,e2,(AO.inn_isR h1).1,rfl,rfl⟩,bq (nH.1 h1)⟩
 have hown:∀ b,own (hand ps s.h) βc b→H b:=by rintro b ⟨n',h1,h2⟩;obtain ⟨n,h3,h4⟩:=hlvh n' h1;exact ⟨n,n',h3,h4,by rw [← h2];exact (hβτ n n' h3).symm⟩
 have hHX:∀ b,H b→c.XX s.h β b:=by rintro b ⟨n,n',_,h1,rfl⟩;exact .inr ⟨n,h1,rfl⟩
 have hXin:∀ b,¬ c.XX s.h β b→b<w.heap.size→¬ c'.XX (hand ps s.h) βc b:=by
  rintro b hb _ (h | h)
  ·exact hb h.1
  ·exact hb (hHX b (hown b h))
 have hrel:eO c' (hand ps s.h) c'.W c'.β c'.κ:=by
  refine ⟨fun j => ?_,fun i j hi hj e => ?_,cI.refl _ _,fun j hj => ?_,fun j hj => ?_,fun _ _ _=>⟨rfl,rfl⟩,fun j hj => ?_⟩
  ·rw [hlk];cases e:rk (swp ps) j with
   | none=>trivial
   | some k =>
    have e2:=(bU hinj).1 e;exact (r.hp.ob k).ren (X':=c'.XX (hand ps s.h) βc) hβ hXin (hβ _ _ e2) (fun i hi _=>hβv _ _ e2 i hi)
  ·obtain ⟨n1,h1,h2⟩:=hlvh i hi;obtain ⟨n2,h3,h4⟩:=hlvh j hj;have e3:β n1=β n2:=by rw [← hβτ n1 i h1,← hβτ n2 j h3];exact e
   have:=r.hp.inj n1 n2 h2 h4 e3;subst this;exact hτi h1 h3
  ·exact fun h=>h.2 (hown _ ⟨j,hj,rfl⟩)
  ·exact fun h=>h.2 (hown _ ⟨j,hj,rfl⟩)
  ·have hj:lk .gone (hand ps s.h) j ≠ .gone:=hj;rw [hlk] at hj;cases e:rk (swp ps) j with
   | none=>rw [e] at hj;exact absurd rfl hj
   | some k=>exact (hchk ((bU hinj).1 e)).2.1
 have hcall:=hc c' vs.toList (by simp [a1]) hrel (fun i hi=>by have e:(args0.map (AV.ren ps)).getD i .any=AV.ren ps (args0.getD i .any):=getD_map (AV.ren ps) _ i .any .any rfl;rw [e];exact (a2 i (by simpa using hi)).ren hβ hXin)
 simp only [Array.toArray_toList] at hcall;refine hcall.mono fun e w' ⟨V,v,h',β',κ',e1,hp,hr',hG⟩ => ?_;subst e1;obtain ⟨s',h2,h3⟩:=hN v h' hp;have r1:=r.pg d;have hd6:d<1000000:=by omega
 let β2:Nat→Nat:=tF (fun k=>if k=d then β' 0 else β k) (fun k i=>if k=d∧(lk .gone h' 0).isR=true then β' (gk 0 i) else match rk ps k with | some j=>β' (gk j i) | none=>β (gk k i))
 let κ2:Nat→Nat×Nat:=tF (fun k=>if k=d then κ' 0 else κ k) (fun k i=>if k=d∧(lk .gone h' 0).isR=true then κ' (gk 0 i) else match rk ps k with | some j=>κ' (gk j i) | none=>κ (gk k i))
 have b2d:β2 d=β' 0∧κ2 d=κ' 0:=⟨by simp only [β2,fc hd6,if_pos],by simp only [κ2,fc hd6,if_pos]⟩;have b2dv:∀ i,i<1000000→(lk .gone h' 0).isR=true→β2 (gk d i)=β' (gk 0 i)∧κ2 (gk d i)=κ' (gk 0 i):=fun i hi hz=>⟨by simp [β2,du hi,hz],by simp [κ2,du hi,hz]⟩;have b2n:∀ k,k<1000000→k≠d→β2 k=β k∧κ2 k=κ k:=fun k hk h=>⟨by simp only [β2,fc hk,if_neg h],by simp only [κ2,fc hk,if_neg h]⟩;have hne:∀ {k j},rk ps k=some j→k≠d:=fun h e=>by rw [e,hnd] at h;cases h
 have b2v:∀ k i,i<1000000→k≠d→rk ps k=none→β2 (gk k i)=β (gk k i)∧κ2 (gk k i)=κ (gk k i):=fun k i hi h h4=>⟨by simp only [β2,du hi,if_neg (show ¬ (k=d∧(lk .gone h' 0).isR=true) from fun e=>h e.1),h4],by simp only [κ2,du hi,if_neg (show ¬ (k=d∧(lk .gone h' 0).isR=true) from fun e=>h e.1),h4]⟩;have b2h:∀ k j i,i<1000000→rk ps k=some j→β2 (gk k i)=β' (gk j i)∧κ2 (gk k i)=κ' (gk j i):=fun k j i hi h=>⟨by simp only [β2,du hi,if_neg (show ¬ (k=d∧(lk .gone h' 0).isR=true) from fun e=>hne h e.1),h],by simp only [κ2,du hi,if_neg (show ¬ (k=d∧(lk .gone h' 0).isR=true) from fun e=>hne h e.1),h]⟩;have hfix:∀ k j,rk ps k=some j→β2 k=β' j∧κ2 k=κ' j:=fun k j h=>by obtain ⟨f1,f2⟩:=hr'.fix j (hchk h).1 (hchk h).2.1;rw [(b2n k (hchk h).2.2 (hne h)).1,(b2n k (hchk h).2.2 (hne h)).2];exact ⟨by rw [f1];exact (hβ k j h).1.symm,by rw [f2];exact (hβ k j h).2.symm⟩
 have hfq:∀ j k,rk ((0,d)::swp ps) j=some k→β2 k=β' j∧κ2 k=κ' j:=fun j k h=>by
  simp only [rk] at h;by_cases e:j=0
  ·subst e;simp only [Nat.beq_refl,cond_true,Kr] at h;subst h;exact b2d
  ·rw [bG e] at h;exact hfix k j ((bU hinj).1 h)
 have hb:∀ k,lk .gone (j5 ps d h' s.h) k=if k=d then AO.ren ((0,d)::swp ps) (lk .gone h' 0) else match rk ps k with | some j=>AO.ren ((0,d)::swp ps) (lk .gone h' j) | none=>AO.pg d (lk .gone s.h k):=fun k=>by unfold j5;rw [az,Dk,cu]
 have hnH:∀ n,lv s.h n→(∀ n',¬ τ n n')→¬ H (β n):=by rintro n hn hk ⟨n2,n2',h1,h4,h5⟩;have:=r.hp.inj n2 n h4 hn h5;subst this;exact hk _ h1
 have hnkj:∀ j,lv h' j→¬ c.K (β' j):=fun j hj hk=>hr'.nk j hj ⟨r.Klt _ hk,hKH _ hk⟩;have hnxj:∀ j,lv h' j→¬ c.X (β' j):=fun j hj hk=>hr'.nx j hj ⟨.inl hk,hXH _ hk⟩;have hin:∀ j,lv h' j→β' j<w.heap.size→H (β' j):=fun j hj hlt=>Classical.byContradiction fun hn=>hr'.nk j hj ⟨hlt,hn⟩;let ζ0:Nat→Nat:=fun j=>if j=0 then d else (rk (swp ps) j).getD 0
 let ζ:Nat→Nat:=tF ζ0 (fun j i=>gk (ζ0 j) i)
 have hζd:ζ0 0=d:=if_pos rfl;have hζp:∀ {k j},rk ps k=some j→ζ0 j=k:=fun {k j} h=>by have h1:=(bU hinj).2 h;have h2:=(hchk h).1;simp only [ζ0,if_neg (show j≠0 by omega),h1];rfl
 have hcase:∀ n,lv (j5 ps d h' s.h) n→(∃ j,lv h' j∧β2 n=β' j∧n=ζ j)∨(lv s.h n∧β2 n=β n∧¬ H (β n)):=by
  rintro n (hk | ⟨m,i,rfl,hk⟩)
  ·rw [hb] at hk;by_cases e:n=d
   ·rw [if_pos e] at hk;exact .inl ⟨0,.inl (jY.1 hk),by rw [e];exact b2d.1,by rw [e];show d=tF ζ0 _ 0;rw [fc (by decide),hζd]⟩
   ·rw [if_neg e] at hk;cases e2:rk ps n with
    | none =>
     rw [e2] at hk;have hk:(lk .gone s.h n).live:=by simpa [AO.live_pg] using hk
     have hn6:=r.hp.sm n hk;refine .inr ⟨.inl hk,(b2n n hn6 e).1,hnH n (.inl hk) ?_⟩;rintro n' (⟨g,_⟩ | ⟨k,j,i,_,_,rfl,_⟩)
     ·rw [e2] at g;cases g
     ·have:=cL k i;omega
    | some j =>
     rw [e2] at hk;refine .inl ⟨j,.inl (jY.1 hk),(hfix n j e2).1,?_⟩;show n=tF ζ0 _ j;rw [fc (hchk e2).2.1,hζp e2]
  ·rw [hb] at hk;by_cases e:m=d
   ·rw [if_pos e] at hk;have hk:=nH.1 hk;have hi:=(AO.inn_isR hk).1;refine .inl ⟨gk 0 i,bq hk,by rw [e];exact (b2dv i hi (AO.inn_isR hk).2).1,?_⟩;show gk m i=tF ζ0 _ (gk 0 i);rw [du hi,hζd,e]
   ·rw [if_neg e] at hk;cases e2:rk ps m with
    | none =>
     rw [e2] at hk;have hk:(lk .gone s.h m).inn i:=by simpa only [AO.inn_pg] using hk
     have hi:=(AO.inn_isR hk).1;refine .inr ⟨bq hk,(b2v m i hi e e2).1,hnH _ (bq hk) ?_⟩;rintro n' (⟨_,g⟩ | ⟨k,j,i',g,hi',e3,_⟩)
     ·have:=cL m i;omega
     ·obtain ⟨rfl,rfl⟩:=dR hi hi' e3;rw [e2] at g;cases g
    | some j =>
     rw [e2] at hk;have hk:=nH.1 hk;have hi:=(AO.inn_isR hk).1;refine .inl ⟨gk j i,bq hk,(b2h m j i hi e2).1,?_⟩;show gk m i=tF ζ0 _ (gk j i);rw [du hi,hζp e2]
 have hA:∀ b,¬ c.XX s.h β b→b<w.heap.size→¬ c.XX (j5 ps d h' s.h) β2 b:=by
  rintro b hb1 hlt (h | ⟨k,hk,rfl⟩)
  ·exact hb1 (.inl h)
  ·rcases hcase k hk with ⟨j,hj,e,_⟩ | ⟨hkl,e,_⟩
   ·rw [e] at hb1 hlt;exact hb1 (hHX _ (hin j hj hlt))
   ·rw [e] at hb1;exact hb1 (.inr ⟨k,hkl,rfl⟩)
 have hB:∀ b,¬ c'.XX h' β' b→b<w'.heap.size→¬ c.XX (j5 ps d h' s.h) β2 b:=by
  rintro b hb1 _ (h | ⟨k,hk,rfl⟩)
  ·exact hb1 (.inl ⟨.inl h,hXH _ h⟩)
  ·rcases hcase k hk with ⟨j,hj,e,_⟩ | ⟨hkl,e,e2⟩
   ·rw [e] at hb1;exact hb1 (.inr ⟨j,hj,rfl⟩)
   ·rw [e] at hb1;exact hb1 (.inl ⟨.inr ⟨k,hkl,rfl⟩,e2⟩)
 have hC:∀ b,¬ c.XX s.h β b→b<w.heap.size→w'.heap[b]? = w.heap[b]? := fun b hb1 hlt=>hr'.kp.block b ⟨hlt,fun h=>hb1 (hHX b h)⟩;have hXX1:c.XX (dc d s.h) β=c.XX s.h β:=by funext b;simp only [Cx.XX,tQ]
 have hSK:∀ j,j≠d→j<1000000→rk ps j=none→SK β β2 κ κ2 j:=fun j h1 h2 h3=>⟨(b2n j h2 h1).1,(b2n j h2 h1).2,fun i hi=>b2v j i hi h1 h3⟩;have hSK2:ps=[]→(lk .gone h' 0).isR=false→∀ j,j≠d→SK β β2 κ κ2 j:=by
  intro hp0 hz;have key:∀ n,n≠d→β2 n=β n∧κ2 n=κ n:=by
   intro n hn;by_cases h6:n<1000000
   ·exact b2n n h6 hn
   ·have e0:gk (n / 1000000-1) (n % 1000000)=n:=by unfold gk;omega
    have hz2:∀ k,¬ (k=d∧(lk .gone h' 0).isR=true):=fun k h=>by rw [hz] at h;cases h.2
    constructor
    ·simp only [β2,tF,if_neg h6,if_neg (hz2 _),hp0,rk,e0]
    ·simp only [κ2,tF,if_neg h6,if_neg (hz2 _),hp0,rk,e0]
  exact fun j hj=>⟨(key j hj).1,(key j hj).2,fun i _=>key _ (by have:=cL j i;omega)⟩
 have r2:Rel c ⟨s.n,gC d s.t,j5 ps d h' s.h⟩ a w' β2 κ2:=by
  refine ⟨r.df,r.sz,fun i => ?_,⟨fun k => ?_,fun i j hi hj e => ?_,r.hp.kp.trans hr'.kp fun b hb1=>⟨r.Klt b hb1,hKH b hb1⟩,fun k hk => ?_,fun k hk => ?_,fun k hk hk6 => ?_,fun k hk => ?_⟩⟩
  ·show G w' (c.XX (j5 ps d h' s.h) β2) β2 κ2 (lk .any (gC d s.t) i) _;rw [cq];rcases hnoR with hnoR | ⟨hp0,hz⟩;case inr=>exact ((r.tm i).pg d).mono hC hA (fun j hj=>hSK2 hp0 (hz v h' hp) j (fun e=>by rw [e,AV.men_pg] at hj;cases hj))
   have hR:=AV.hasR_pg (k:=d) (AS.noR_t hnoR i);exact ((r.tm i).pg d).mono2 hC hA hR (fun j hj=>b2n j (men_lt hR hj) (fun e=>by rw [e,AV.men_pg] at hj;cases hj))
  ·show HO w' (c.XX (j5 ps d h' s.h) β2) β2 κ2 k (lk .gone (j5 ps d h' s.h) k);rw [hb];by_cases e:k=d
   ·rw [if_pos e,e];exact (hr'.ob 0).ren (X':=c.XX (j5 ps d h' s.h) β2) hfq hB b2d (fun i hi hz=>b2dv i hi hz)
   ·rw [if_neg e];cases e2:rk ps k with
    | none =>
     by_cases hg0:lk .gone s.h k = .gone
     ·rw [hg0];trivial
     ·have hk6:=r.hp.sg k hg0;have hmono:((AO.pg d (lk .gone s.h k)).live→w'.heap[β k]? = w.heap[β k]?)→(∀ i,(AO.pg d (lk .gone s.h k)).inn i→w'.heap[β (gk k i)]? = w.heap[β (gk k i)]?)→HO w' (c.XX (j5 ps d h' s.h) β2) β2 κ2 k (AO.pg d (lk .gone s.h k)):=fun q1 q2=>by
       rcases hnoR with hnoR | ⟨hp0,hz⟩
       ·have hR:=AO.hasR_pg (k:=d) (AS.noR_h hnoR k);exact ((r.hp.ob k).pg (j:=d)).mono2 hC hA hR (fun j hj=>b2n j (AO.men_lt hR hj) (fun e=>by rw [e,AO.men_pg] at hj;cases hj)) (hSK k e hk6 e2) q1 q2
       ·exact ((r.hp.ob k).pg (j:=d)).mono hC hA (fun j hj=>hSK2 hp0 (hz v h' hp) j (fun e=>by rw [e,AO.men_pg] at hj;cases hj)) (hSK k e hk6 e2) q1 q2
      refine hmono (fun hkl => ?_) (fun i hkl => ?_)
      ·have hkl:(lk .gone s.h k).live:=by simpa [AO.live_pg] using hkl
       refine hr'.kp.block _ ⟨r.hp.lt (.inl hkl),hnH k (.inl hkl) ?_⟩;rintro n' (⟨g,_⟩ | ⟨m,j,i,_,_,rfl,_⟩)
       ·rw [e2] at g;cases g
       ·have:=cL m i;omega
      ·have hkl:(lk .gone s.h k).inn i:=by simpa only [AO.inn_pg] using hkl
       have hi:=(AO.inn_isR hkl).1;refine hr'.kp.block _ ⟨r.hp.lt (bq hkl),hnH _ (bq hkl) ?_⟩;rintro n' (⟨_,g⟩ | ⟨m,j,i',g,hi',e3,_⟩)
       ·have:=cL k i;omega
       ·obtain ⟨rfl,rfl⟩:=dR hi hi' e3;rw [e2] at g;cases g
    | some j=>exact (hr'.ob j).ren (X':=c.XX (j5 ps d h' s.h) β2) hfq hB (hfix k j e2) (fun i hi _=>b2h k j i hi e2)
  ·rcases hcase i hi with ⟨ji,hji,ei,ci⟩ | ⟨li,ei,ni⟩<;>rcases hcase j hj with ⟨jj,hjj,ej,cj⟩ | ⟨lj,ej,nj⟩
   ·have e3:ji=jj:=hr'.inj ji jj hji hjj (by rw [← ei,← ej];exact e);rw [ci,cj,e3]
   ·have e3:β' ji=β j:=by rw [← ei,← ej];exact e
    exact absurd (hin ji hji (by rw [e3];exact r.hp.lt lj)) (by rw [e3];exact nj)
   ·have e3:β' jj=β i:=by rw [← ej,← ei];exact e.symm
    exact absurd (hin jj hjj (by rw [e3];exact r.hp.lt li)) (by rw [e3];exact ni)
   ·exact r.hp.inj i j li lj (by rw [← ei,← ej];exact e)
  ·rcases hcase k hk with ⟨j,hj,e,_⟩ | ⟨hkl,e,_⟩
   ·rw [e];exact hnkj j hj
   ·rw [e];exact r.hp.nk k hkl
  ·rcases hcase k hk with ⟨j,hj,e,_⟩ | ⟨hkl,e,_⟩
   ·rw [e];exact hnxj j hj
   ·rw [e];exact r.hp.nx k hkl
  ·have e:k≠d:=by omega
   rw [(b2n k hk6 e).1,(b2n k hk6 e).2];exact r.hp.fix k hk hk6
  ·have hk:lk .gone (j5 ps d h' s.h) k ≠ .gone:=hk;rw [hb] at hk;by_cases e:k=d
   ·omega
   ·rw [if_neg e] at hk;cases e2:rk ps k with
    | none=>rw [e2] at hk;exact r.hp.sg k (fun e3=>hk (by rw [e3];rfl))
    | some j=>exact (hchk e2).2.2
 exact hK s' _ w' β2 κ2 h3 (bE r2 (hG.ren hfq hB) h2)
theorem xZ {f:FuncId} (he:Go.Proofs.Enters P f) {x:Operand} {ar:Array Operand} {tys:Array TypeId} (hop:o.op = .call ⟨.value x,ar,tys⟩) {caps:List AV} (hx:s.op x = .fn f caps) :
 ∀ (c:Cx P) a w β κ,Rel c s a w β κ→∃ vs:Array Value,(execOp a.eval o).run P w = .ok (.enter f vs) w∧vs.size=(s.args ar caps).length∧∀ i,i<(s.args ar caps).length→G w (c.XX s.h β) β κ ((s.args ar caps).getD i .any) (vs.toList.getD i undef):=fun c a w β κ r=>by
 have hX:=r.op x;rw [hx] at hX;obtain ⟨Vs,eV,hl,hgs⟩:=hX.fn_inv;obtain ⟨a1,a2⟩:=nh r ar hl hgs;exact ⟨_,uC he hop eV,a1,a2⟩
theorem CG {f:FuncId} (he:Go.Proofs.Enters P f) {x:Operand} {ar:Array Operand} {tys:Array TypeId} (hop:o.op = .call ⟨.value x,ar,tys⟩) {k off:Nat} (hx:s.op x = .bm f k off) :
 ∀ (c:Cx P) a w β κ,Rel c s a w β κ→∃ vs:Array Value,(execOp a.eval o).run P w = .ok (.enter f vs) w∧vs.size=(AV.hptr k off::s.args ar []).length∧∀ i,i<(AV.hptr k off::s.args ar []).length→G w (c.XX s.h β) β κ ((AV.hptr k off::s.args ar []).getD i .any) (vs.toList.getD i undef):=fun c a w β κ r=>by
 have hX:=r.op x;rw [hx] at hX;obtain ⟨a1,a2⟩:=nh (caps:=[]) (Vs := #[]) r ar rfl (fun i hi=>by simp at hi);refine ⟨#[.pointer (some ⟨β k,off,none⟩)]++(ar.map a.eval ++ #[]),?_,by simp [← a1];omega,fun i hi => ?_⟩
 ·simp only [execOp,hop,resolve,hX.bm_inv,Deferred.ofValue,pure_bind,invoke,Array.append_empty];exact he _ w
 ·cases i with
  | zero =>
   have:(#[Value.pointer (some ⟨β k,off,none⟩)]++(ar.map a.eval ++ #[])).toList.getD 0 undef = .pointer (some ⟨β k,off,none⟩):=by simp
   rw [this];exact .hptr k off
  | succ i =>
   have:=a2 i (by simpa using hi);simpa using this
theorem Cr (ps:List (Nat×Nat)) {v:AV} (h:AV.fl v=true):AV.ren1 ps v=v:=by
 unfold AV.ren1;split
 ·cases h
 ·cases h
 ·cases h
 ·cases h
 ·cases h
 ·rw [h];rfl
theorem me (ps:List (Nat×Nat)):∀ {cs:List AV},AV.flL cs=true→cs.map (AV.ren1 ps)=cs
 | [],_=>rfl
 | c::cs,h=>by simp only [AV.flL,Kj] at h;rw [List.map_cons,Cr ps h.1,me ps h.2]
theorem IW (ps:List (Nat×Nat)) {v:AV} (h:AV.fl v=true):AV.ren ps v=v:=by
 unfold AV.ren;split
 ·rw [me ps (by simpa [AV.fl] using h)]
 ·rw [me ps (by simpa [AV.fl] using h)]
 ·rw [me ps (by simpa [AV.fl] using h)]
 ·exact Cr ps h
theorem ur (ps:List (Nat×Nat)):∀ {cs:List AV},AV.flL cs=true→cs.map (AV.ren ps)=cs
 | [],_=>rfl
 | c::cs,h=>by simp only [AV.flL,Kj] at h;rw [List.map_cons,IW ps h.1,ur ps h.2]
theorem DZ {f:FuncId} (he:Go.Proofs.Enters P f) {x:Operand} {ar:Array Operand} {tys:Array TypeId} (hg:gd ops s o=some true) (hop:o.op = .call ⟨.value x,ar,tys⟩) {caps:List AV} (hx:s.op x = .fn f caps) (hfl:AV.flL (s.args ar caps)=true)
 {k:Nat} (hd:o.dst=some k) (hk:(Nat.blt k s.n&&Nat.blt k 1000)=true) {v:AV} {h1:List (Nat×AO)} (hz:(lk .gone h1 0).isR=false) (hc:bT P f (s.args ar caps) [] fun r h=>r=v∧h=h1) :
 Loc P ops o s ⟨[(k,AV.ren [(0,k)] v)],[(k,AO.ren [(0,k)] (lk .gone h1 0))],[k],[]⟩:=by
 intro s' ha hf _;have hfk:=hf k (by simp);simp only [Kj] at hk;have hxx:s'.op x=s.op x:=aS ha (by simp [hop,Op.operands,Call.operands]);have har:∀ y∈ar,s'.op y=s.op y:=fun y hy=>aS ha (by simp [hop,Op.operands,Call.operands,hy]);have e1:s'.args ar caps=s.args ar caps:=by unfold AS.args;rw [List.map_congr_left (fun y hy=>har y (by simpa using hy))]
 have hput:AS.put ⟨s'.n,gC k s'.t,j5 [] k h1 s'.h⟩ o.dst (AV.ren ((0,k)::swp []) v)=some ⟨s'.n,ins k (AV.ren [(0,k)] v) (gC k s'.t),j5 [] k h1 s'.h⟩:=by rw [hd];simp only [AS.put,ha.n,hk.1,cond_true];rfl
 refine (ze (args:=s.args ar caps) (h0:=[]) he (by rw [bC ha];exact hg) hop (xZ he hop (by rw [hxx];exact hx)) [] k (by simpa [mI,rk] using hk.2) (.inr ⟨rfl,fun v2 h2 e2=>by rw [e2.2];exact hz⟩) (by rw [e1];exact ur [] hfl) rfl hc (N:=fun s''=>jr (cF.app ⟨[(k,AV.ren [(0,k)] v)],[(k,AO.ren [(0,k)] (lk .gone h1 0))],[k],[]⟩ s') s'') fun r h' hr => ?_);obtain ⟨rfl,rfl⟩:=hr;refine ⟨_,hput,rfl,fun i => ?_,fun i => ?_⟩
 ·show lk .any (ins k _ (gC k s'.t)) i=lk .any (im [(k,_)] s'.t) i;rw [az,cg,cq,AV.pg_free (hfk.1 i)];simp only [fU];by_cases e:i=k
  ·subst e;simp
  ·rw [if_neg e,bG e];rfl
 ·show lk .gone (ins k _ (dc k s'.h)) i=lk .gone (im [(k,_)] s'.h) i;rw [az,cg,cu,AO.pg_free (hfk.2 i)];simp only [fU];by_cases e:i=k
  ·subst e;simp [swp]
  ·rw [if_neg e,bG e];rfl
end
section
variable {P:Program} {ops:Array Oper} {o:Oper} {s:AS}
theorem G.gslice_inv {w:World} {X:Nat→Prop} {β:Nat→Nat} {κ:Nat→Nat×Nat} {k:Nat} {V:Value} (h:G w X β κ (.gslice k) V):V = .slice (some ⟨β k,0,none⟩) 0 (κ k).1:=by
 cases h with
 | d h=>cases h
 | gslice k=>rfl
theorem zT {x y:Operand} {t e:TypeId} {sz by_ k:Nat} (hg:gd ops s o=some true) (hop:o.op = .call ⟨.builtin .append,#[x,y],#[t,t]⟩) (he:dP P t=some (e,sz,by_))
 (hx:s.op x = .gslice k) (hy:s.op y = .dslice []) {s':AS} (h:s.put o.dst (.gslice k)=some s'):jl P ops o s (· = s') :=
 b9 hg fun c a w β κ r=>by obtain ⟨hu,i,z,hi,hz,rfl,rfl,hzs,hsz⟩:=gf he;have hX:=r.op x;have hY:=r.op y;rw [hx] at hX;rw [hy] at hY;have eX:=hX.gslice_inv;obtain ⟨hd,ad2,cap2,eY,_⟩:=hY.dslice_inv;have hrun:=mf (P:=P) (w:=w) hu hi (some ⟨β k,0,none⟩) 0 (κ k).1 (Nat.zero_le _) ad2 cap2 o.type;refine ⟨_,w,β,κ,.inl ?_,bE r (.gslice k) h⟩;have e0:a.eval y = .slice ad2 0 cap2:=eY;simp only [execOp,hop,resolve,invoke,builtin,Sem.run_bind,Sem.run_pure,Result.andThen_ok,List.map_toArray,List.map_cons,List.map_nil,eX,e0,hrun]
theorem B0 {x y:Operand} {t e:TypeId} {sz by_ k k':Nat} {ys:List (List AV)} (hg:gd ops s o=some true) (hop:o.op = .call ⟨.builtin .append,#[x,y],#[t,t]⟩) (hd:o.dst=some k') (he:dP P t=some (e,sz,by_))
 (hx:s.op x = .gslice k) (hk:lk .gone s.h k = .room e sz) (hy:s.op y = .dslice ys) (hys:ys≠[])
 (hE:EL sz ys) (hb:ys.length*by_≤140737488355328) (h63:ys.length≤9223372036854775807) {s':AS} (h:s.grow k k' e sz ys=some s'):jl P ops o s (· = s') :=
 b9 hg fun c a w β κ r=>by
  obtain ⟨hu,i,z,hi,hz,rfl,rfl,hzs,hsz⟩:=gf he;have hX:=r.op x;have hY:=r.op y;rw [hx] at hX;rw [hy] at hY;have eX:=hX.gslice_inv;obtain ⟨eYd,ad2,cap2,eY,_⟩:=hY.dslice_inv;have hexec:∀ {V V' w'},a.eval x=V'→(Builtin.append_ #[t,t] o.type #[V',a.eval y]).run P w = .ok V w'→(execOp a.eval o).run P w = .ok (.value V) w':=by intro V V' w' e1 hr;simp only [execOp,hop,resolve,invoke,builtin,Sem.run_bind,Sem.run_pure,Result.andThen_ok,List.map_toArray,List.map_cons,List.map_nil,e1,hr]
  have hEl:∀ j,j<ys.length→(ys.getD j []).length=i.size:=by intro j hj;exact (hE _ (by rw [Kh,Ki hj];exact List.getElem_mem hj)).1
  have hlive:(lk .gone s.h k).live:=by rw [hk];trivial
  have ho:=r.hp.ob k;rw [hk] at ho;obtain ⟨cur,q1,q2,q4,q5⟩:=ho;obtain ⟨bd,cap,news,e1,n1,n2,n3,n4⟩:=rh eYd hE hys;have hm:0<ys.length:=by cases ys with | nil=>exact absurd rfl hys | cons _ _=>simp
  have hij:∀ i' j,i'<ys.length→j<i.size→i'*i.size+j<news.length:=by intro i' j hi' hj;rw [n1];have:(i'+1)*i.size≤ys.length*i.size:=Nat.mul_le_mul_right _ hi';rw [Nat.add_mul] at this;omega
  by_cases hroom:ys.length≤(κ k).1
  ·have hfit:0*i.size+news.length≤cur.size:=by rw [n1,q2,Nat.zero_mul,Nat.zero_add];exact Nat.mul_le_mul_right _ hroom
   let arr:Array Value:=(cur.toList.take (0*i.size)++news++cur.toList.drop (0*i.size+news.length)).toArray
   have hrun:(Builtin.append_ #[t,t] o.type #[.slice (some ⟨β k,0,none⟩) 0 (κ k).1,a.eval y]).run P w = .ok (.slice (some ⟨β k,0,none⟩) (0+ys.length) (κ k).1) (w.setRow (β k) arr):=by rw [e1];exact run_append_room (P:=P) w t o.type e i hu hi (β k) 0 (κ k).1 cur q1 bd ys.length cap news n1 n2 n3 (by omega) hfit
   have hasz:arr.size=(κ k).1*i.size:=by rw [← q2];simp [arr];omega
   obtain ⟨β',κ',r'⟩:=uR (w':=w.setRow (β k) arr) r h hlive arr hys hsz (fun j hj=>bj _ _ _ hj) ⟨rfl,rfl,rfl,by simp,fun b hb=>bj _ _ _ hb⟩ (eT w _ cur e arr q1) hEl hasz hroom q4 (fun i' j hi' hj=>by rw [← dz];simp only [arr,Nat.zero_mul,List.take_zero,List.nil_append];rw [dm (hij i' j hi' hj)];exact n4 _ j hi' hj)
   refine ⟨_,_,β',κ',.inl (hexec eX hrun),?_⟩;rw [hd,Nat.zero_add];exact r'
  ·let C:=grownCap w (0+ys.length) (κ k).1 e
   have hC:0+ys.length≤C:=grownCap_ge w _ _ _;have hCm:C≤maxLen:=grownCap_le_maxLen w _ _ _ (by unfold maxLen;omega);let arr:Array Value:=(([]:List Value).toArray++news.toArray)++Builtin.zeroCells z.cells (C-(0+ys.length))
   have hrun:(Builtin.append_ #[t,t] o.type #[.slice (some ⟨β k,0,none⟩) 0 (κ k).1,a.eval y]).run P w = .ok (.slice (some ⟨w.heap.size,0,none⟩) (0+ys.length) C) (w.drew.alloc (.cells arr e)):=by rw [e1];exact run_append_grow (P:=P) w t o.type e i z hu hi hz ⟨β k,0,none⟩ 0 (κ k).1 [] (by simp) (fun j v hv=>by simp at hv) bd ys.length cap news n1 n2 (by omega) (by omega) (growslice_fits (by omega) (by simpa using hb))
   have hasz:arr.size=C*i.size:=by simp only [arr,Array.size_append,List.size_toArray,List.length_nil,size_zeroCells,n1,hzs,Nat.zero_add,← Nat.add_mul];congr 1;omega
   obtain ⟨β',κ',r'⟩:=yM r h arr C hys hsz hEl hasz (by omega) hCm (fun i' j hi' hj=>by
    have e2:arr.getD (i'*i.size+j) undef=news.getD (i'*i.size+j) undef:=by have:=hij i' j hi' hj;simp [arr,Kk,Array.getElem?_append,this,Kh]
    rw [e2];exact n4 i' j hi' hj)
   refine ⟨_,_,β',κ',.inl (hexec eX hrun),?_⟩;rw [hd,show 0+ys.length=ys.length from Nat.zero_add _];simpa using r'
end
abbrev kA:=List (List UInt8×Option (List (List AV)))
abbrev bY:List UInt8×Option (List (List AV)):=([],none)
def tK (x:List UInt8):kA→List (List AV)
 | []=>[]
 | (k,r)::es=>if k=x then r.getD [] else tK x es
def fP (x:List UInt8):kA→kA
 | []=>[]
 | (k,r)::es=>if k=x then (k,none)::es else (k,r)::fP x es
def jV (x:List UInt8) (v:List (List AV)):kA→kA
 | []=>[(x,some v)]
 | (k,r)::es=>if k=x then (x,some v)::es else (k,r)::jV x v es
def HA (x:List UInt8):kA→Bool
 | []=>true
 | (k,r)::es=>if k=x then r.isSome else HA x es
theorem xA (x:List UInt8):∀ es:kA,(fP x es).length=es.length
 | []=>rfl
 | (k,r)::es=>by
  unfold fP;split
  ·rfl
  ·simp [xA x es]
theorem vc (x:List UInt8):∀ es:kA,(fP x es).map (·.1)=es.map (·.1)
 | []=>rfl
 | (k,r)::es=>by
  unfold fP;split
  ·rfl
  ·simp [vc x es]
theorem vS (x:List UInt8):∀ (es:kA) (i:Nat),((fP x es).getD i bY).1=(es.getD i bY).1∧((es.getD i bY).1≠x→(fP x es).getD i bY=es.getD i bY)∧((fP x es).getD i bY=es.getD i bY∨((fP x es).getD i bY).2=none)
 | [],i=>by simp [fP]
 | (k,r)::es,i=>by
  unfold fP;by_cases h:k=x
  ·rw [if_pos h];cases i with
   | zero=>exact ⟨rfl,fun h2=>absurd h h2,.inr rfl⟩
   | succ i=>exact ⟨rfl,fun _=>rfl,.inl rfl⟩
  ·rw [if_neg h];cases i with
   | zero=>exact ⟨rfl,fun _=>rfl,.inl rfl⟩
   | succ i =>
    have:=vS x es i;simpa using this
theorem Gz {x:List UInt8}:∀ {es:kA} {j:Nat},(es.map (·.1)).Nodup→j<es.length→(es.getD j bY).1=x→HA x es=true→∃ xs,(es.getD j bY).2=some xs∧tK x es=xs∧((fP x es).getD j bY).2=none
 | [],j,_,h,_,_=>by simp at h
 | (k,r)::es,0,_,_,h,hok=>by
  have h:k=x:=h;simp only [HA,if_pos h] at hok;obtain ⟨xs,rfl⟩:=Option.isSome_iff_exists.1 hok;subst h;exact ⟨xs,rfl,by simp [tK],by simp [fP]⟩
 | (k,r)::es,j+1,hn,hj,h,hok=>by
  rw [List.map_cons,List.nodup_cons] at hn;have hj':j<es.length:=by simpa using hj
  have h:(es.getD j bY).1=x:=by simpa using h
  have hne:k≠x:=by rintro rfl;refine hn.1 (List.mem_map.2 ⟨es.getD j bY,?_,h⟩);rw [Kh,Ki hj'];exact List.getElem_mem hj'
  simp only [HA,if_neg hne] at hok;obtain ⟨xs,h1,h2,h3⟩:=Gz hn.2 hj' h hok;exact ⟨xs,by simpa using h1,by simp only [tK,if_neg hne];exact h2,by simp only [fP,if_neg hne];simpa using h3⟩
theorem Ft {x:List UInt8}:∀ {es:kA},(∀ i,i<es.length→(es.getD i bY).1≠x)→tK x es=[]∧fP x es=es∧∀ v,jV x v es=es++[(x,some v)]
 | [],_=>⟨rfl,rfl,fun _=>rfl⟩
 | (k,r)::es,h=>by
  have h0:k≠x:=by simpa using h 0 (by simp)
  obtain ⟨h1,h2,h3⟩:=Ft (es:=es) fun i hi=>by simpa using h (i+1) (by simpa using hi)
  exact ⟨by simp only [tK,if_neg h0];exact h1,by simp only [fP,if_neg h0,h2],fun v=>by simp only [jV,if_neg h0,h3 v,List.cons_append]⟩
section
variable {P:Program} {ops:Array Oper} {o:Oper} {s:AS} {c:Cx P} {a:Act} {w:World} {β:Nat→Nat} {κ:Nat→Nat×Nat}
theorem EH {e:TypeId} {sz:Nat} {es es':kA} (he:∀ i,es'.getD i bY=es.getD i bY∨(es'.getD i bY).2=none) {i:Nat} (h:(AO.rmap e sz es').inn i):(AO.rmap e sz es).inn i:=by
 obtain ⟨h1,h2,y,ys,h3⟩:=h;have hg:es'.getD i bY=es.getD i bY:=(he i).resolve_right fun h=>by rw [h] at h3;cases h3
 refine ⟨h1,?_,y,ys,by rw [← hg];exact h3⟩;apply Classical.byContradiction;intro hn;rw [hg,Kh,List.getElem?_eq_none (by omega)] at h3;cases h3
theorem Rel.weak (r:Rel c s a w β κ) {k:Nat} {e:TypeId} {sz:Nat} {es es':kA} (hk:lk .gone s.h k = .rmap e sz es) (hl:es'.length=es.length) (hkeys:es'.map (·.1)=es.map (·.1))
 (he1:∀ i,(es'.getD i bY).1=(es.getD i bY).1) (he:∀ i,es'.getD i bY=es.getD i bY∨(es'.getD i bY).2=none) :
 Rel c ⟨s.n,s.t,ins k (.rmap e sz es') s.h⟩ a w β κ∧(∀ n,lv (ins k (.rmap e sz es') s.h) n→lv s.h n)∧(∀ j,j<1000000→(es'.getD j bY).2=none→∀ n,lv (ins k (.rmap e sz es') s.h) n→n≠gk k j) ∧
 ∀ X':Nat→Prop,(∀ b,¬ c.XX s.h β b→b<w.heap.size→¬ X' b)→∀ n,HO w X' β κ n (lk .gone (ins k (.rmap e sz es') s.h) n):=by
 have hlive:(lk .gone s.h k).live:=by rw [hk];trivial
 have hlv:∀ n,lv (ins k (.rmap e sz es') s.h) n→lv s.h n:=by
  rintro n (h | ⟨m,i,rfl,h⟩)
  ·rw [az] at h;by_cases ej:n=k
   ·rw [ej];exact .inl hlive
   ·rw [if_neg ej] at h;exact .inl h
  ·rw [az] at h;by_cases ej:m=k
   ·rw [if_pos ej] at h;refine bq ?_;rw [ej,hk];exact EH he h
   ·rw [if_neg ej] at h;exact bq h
 have hX:∀ b,¬ c.XX s.h β b→b<w.heap.size→¬ c.XX (ins k (.rmap e sz es') s.h) β b:=by
  rintro b hb _ (h | ⟨n,h1,h2⟩)
  ·exact hb (.inl h)
  ·exact hb (.inr ⟨n,hlv n h1,h2⟩)
 have hHO:∀ X':Nat→Prop,(∀ b,¬ c.XX s.h β b→b<w.heap.size→¬ X' b)→∀ n,HO w X' β κ n (lk .gone (ins k (.rmap e sz es') s.h) n):=by
  intro X' hX j;rw [az];by_cases ej:j=k
  ·rw [if_pos ej,ej];have ho:=r.hp.ob k;rw [hk] at ho;obtain ⟨ents,clock,h1,h2,h3,h4,h5,h6⟩:=ho;refine ⟨ents,clock,h1,by omega,by omega,fun i hi => ?_,h5,by rw [hkeys];exact h6⟩;obtain ⟨a1,a2,a3⟩:=h4 i hi;refine ⟨by rw [he1 i];exact a1,a2,?_⟩;rcases he i with h | h
   ·rw [h];generalize (es.getD i ([],none)).2=o at a3 ⊢;match o,a3 with
    | none,_=>trivial
    | some [],h5=>exact h5
    | some (x::xs),h5=>exact ⟨h5.1,h5.2.1,h5.2.2.mono (fun _ _ _=>rfl) hX rfl⟩
   ·rw [h];trivial
  ·rw [if_neg ej];exact (r.hp.ob j).mono (fun _ _ _=>rfl) hX (fun _ _=>.refl) .refl (fun _=>rfl) (fun _ _=>rfl)
 refine ⟨⟨r.df,r.sz,fun i=>(r.tm i).mono (fun _ _ _=>rfl) hX (fun _ _=>.refl),⟨hHO _ hX,fun i j hi hj e=>r.hp.inj i j (hlv i hi) (hlv j hj) e,r.hp.kp,fun j hj=>r.hp.nk j (hlv j hj),fun j hj=>r.hp.nx j (hlv j hj),r.hp.fix,fun j hj => ?_⟩⟩,hlv,fun j hj6 hj n hn => ?_,hHO⟩
 ·have hj:lk .gone (ins k (.rmap e sz es') s.h) j ≠ .gone:=hj;rw [az] at hj;by_cases ej:j=k
  ·rw [ej];exact r.hp.sm k hlive
  ·rw [if_neg ej] at hj;exact r.hp.sg j hj
 ·rintro rfl;rcases hn with h | ⟨m,i,e1,h⟩
  ·rw [az] at h;by_cases ej:gk k j=k
   ·have:=cL k j;have:=r.hp.sm k hlive;omega
   ·rw [if_neg ej] at h;have:=r.hp.sm _ h;have:=cL k j;omega
  ·rw [az] at h;by_cases ej:m=k
   ·rw [if_pos ej] at h;have hi:=(AO.inn_isR h).1;obtain ⟨_,rfl⟩:=dR hj6 hi e1;obtain ⟨_,_,y,ys,h3⟩:=h;rw [hj] at h3;cases h3
   ·rw [if_neg ej] at h;exact ej (dR hj6 (AO.inn_isR h).1 e1).1.symm
def AS.take (s:AS) (k q:Nat) (e:TypeId) (sz:Nat) (zs:List (List AV)) (es':kA):AS :=
 ⟨s.n,ins q (.rslice q) (gC q s.t),ins q (.row e sz zs) (dc q (ins k (.rmap e sz es') s.h))⟩
theorem Rel.take_in (r:Rel c s a w β κ) {k q j:Nat} {e:TypeId} {sz:Nat} {es es':kA} {zs:List (List AV)} {V:Value} (hq:q<s.n∧q<1000) (hk:lk .gone s.h k = .rmap e sz es) (hl:es'.length=es.length) (hkeys:es'.map (·.1)=es.map (·.1))
 (he1:∀ i,(es'.getD i bY).1=(es.getD i bY).1) (he:∀ i,es'.getD i bY=es.getD i bY∨(es'.getD i bY).2=none) (hj6:j<1000000) (hjl:j<es.length) (hj:(es.getD j bY).2=some zs) (hj':(es'.getD j bY).2=none) (hz:zs≠[])
 (hV:zu w (c.XX s.h β) (β (gk k j)) (κ (gk k j)) e sz V (some zs)):∃ β' κ',Rel c (s.take k q e sz zs es') (a.put (some q) V) w β' κ':=by
 obtain ⟨y,ys,rfl⟩:∃ y ys,zs=y::ys:=by cases zs with | nil=>exact absurd rfl hz | cons y ys=>exact ⟨y,ys,rfl⟩
 obtain ⟨v1,v2,v3⟩:=hV;have hinn:(lk .gone s.h k).inn j:=by rw [hk];exact ⟨hj6,hjl,y,ys,hj⟩
 obtain ⟨r1,w1,w2,w3⟩:=r.weak hk hl hkeys he1 he;have r2:=r1.pg q;have hlvp:∀ n,lv (dc q (ins k (.rmap e sz es') s.h)) n→lv (ins k (.rmap e sz es') s.h) n:=fun n h=>by rw [k8] at h;exact h
 have hXb:c.XX s.h β (β (gk k j)):=.inr ⟨_,bq hinn,rfl⟩;have hsub:∀ b,¬ c.XX s.h β b→b<w.heap.size→¬ (c.XX (dc q (ins k (.rmap e sz es') s.h)) β b∨b=β (gk k j)):=by
  rintro b hb _ ((h | ⟨n,h1,h2⟩) | rfl)
  ·exact hb (.inl h)
  ·exact hb (.inr ⟨n,w1 n (hlvp n h1),h2⟩)
  ·exact hb hXb
 have hXs:∀ b,¬ c.XX s.h β b→b<w.heap.size→¬ c.XX (ins q (.row e sz (y::ys)) (dc q (ins k (.rmap e sz es') s.h))) (upd β q (β (gk k j))) b:=by
  rintro b hb _ (h | ⟨n,h1,h2⟩)
  ·exact hb (.inl h)
  ·rcases eG (o:=.row e sz (y::ys)) (by omega) (fun _ h=>h) h1 with ⟨e1,_⟩ | ⟨e1,h1⟩
   ·subst e1;rw [ao] at h2;exact hb (h2 ▸ hXb)
   ·rw [be β e1] at h2;exact hb (.inr ⟨n,w1 n (hlvp n h1),h2⟩)
 obtain ⟨g1,g2⟩:=r2.hp.rebind (w':=w) (k':=q) (b:=β (gk k j)) hq.2 (fun j _=>by rw [cu];exact AO.men_pg q _) (κ (gk k j)) (ob:=.row e sz (y::ys))
  (r.hp.nx _ (bq hinn)) (r.hp.nk _ (bq hinn)) (fun n hn e1=>w2 j hj6 hj' n (hlvp n hn) (r.hp.inj n _ (w1 n (hlvp n hn)) (bq hinn) e1)) (fun _ _=>rfl) (cI.refl _ _)
  ⟨by rw [ao];exact v1,fun _=>by obtain ⟨cur,h1,h2,h3,h4,h0,h5,h6⟩:=v3;exact ⟨cur,by rw [ao];exact h1,by rw [ao];exact h2,by rw [ao];exact h3,by rw [ao];exact h4,h0,h5,fun i l hi hl=>(h6 i l hi hl).mono (fun _ _ _=>rfl) hXs⟩⟩
  (fun n=>by rw [cu];exact (w3 _ hsub n).pg)
 refine ⟨_,_,r.df,by simp [Act.put,r.sz,AS.take],fun i => ?_,g1⟩;show G w (c.XX (ins q (.row e sz (y::ys)) (dc q (ins k (.rmap e sz es') s.h))) (upd β q (β (gk k j)))) (upd β q (β (gk k j))) (upd κ q (κ (gk k j))) (lk .any (ins q (.rslice q) (gC q s.t)) i) _;rw [az];by_cases hi:i=q
 ·subst hi;have hi':i<a.tmps.size:=by rw [r.sz];exact hq.1
  have:=G.rslice (w:=w) (X:=c.XX (ins i (.row e sz (y::ys)) (dc i (ins k (.rmap e sz es') s.h))) (upd β i (β (gk k j)))) (β:=upd β i (β (gk k j))) (κ:=upd κ i (κ (gk k j))) i (by rw [ao,v1];simp);rw [ao,ao,← v2] at this;simpa [Act.put,Kk,Array.getElem?_setIfInBounds,hi'] using this
 ·rw [if_neg hi];have g0:G w (fun b=>c.XX (dc q (ins k (.rmap e sz es') s.h)) β b∨b=β (gk k j)) β κ (lk .any (gC q s.t) i) (a.tmps.getD i undef):=by rw [cq];exact ((r.tm i).pg q).mono (fun _ _ _=>rfl) hsub (fun _ _=>.refl)
  have:=g2 g0 (by rw [cq];exact AV.men_pg q _);have hne:¬ q=i:=fun e=>hi e.symm;simpa [Act.put,Kk,Array.getElem?_setIfInBounds,hne] using this
theorem Rel.take_empty (r:Rel c s a w β κ) {k q:Nat} {e:TypeId} {sz:Nat} {es es':kA} {ad:Option Addr} (hq:q<s.n∧q<1000) (hk:lk .gone s.h k = .rmap e sz es) (hl:es'.length=es.length) (hkeys:es'.map (·.1)=es.map (·.1))
 (he1:∀ i,(es'.getD i bY).1=(es.getD i bY).1) (he:∀ i,es'.getD i bY=es.getD i bY∨(es'.getD i bY).2=none):∃ κ',Rel c (s.take k q e sz [] es') (a.put (some q) (.slice ad 0 0)) w β κ':=by
 obtain ⟨r1,_⟩:=r.weak hk hl hkeys he1 he;have hput:AS.put ⟨s.n,s.t,ins k (.rmap e sz es') s.h⟩ (some q) .eslice=some ⟨s.n,ins q .eslice s.t,ins k (.rmap e sz es') s.h⟩:=by simp only [AS.put,show Nat.blt q s.n=true by simpa [Nat.blt_eq] using hq.1,cond_true]
 have r2:=bE r1 (v:=.eslice) (V:=.slice ad 0 0) (.d (.eslice ad)) hput;have her:AS.erow ⟨s.n,ins q .eslice s.t,ins k (.rmap e sz es') s.h⟩ q q e sz=some ⟨s.n,ins q (.rslice q) (gC q (ins q .eslice s.t)),ins q (.row e sz []) (dc q (ins k (.rmap e sz es') s.h))⟩:=by
  have h0:lk .any (ins q .eslice s.t) q = .eslice:=by rw [az,if_pos rfl]
  simp only [AS.erow,h0,show Nat.blt q 1000=true by simpa [Nat.blt_eq] using hq.2,cond_true]
 obtain ⟨κ',r3⟩:=r2.erow her;refine ⟨κ',r3.same ⟨rfl,fun i => ?_,fun _=>rfl⟩⟩;show lk .any (ins q (.rslice q) (gC q s.t)) i=lk .any (ins q (.rslice q) (gC q (ins q .eslice s.t))) i;rw [az,az,cq,cq,az];by_cases h:i=q
 ·rw [if_pos h,if_pos h]
 ·rw [if_neg h,if_neg h,if_neg h]
theorem rA {X:Nat→Prop} {k:Nat} {e:TypeId} {sz:Nat} {es:kA} (h:HO w X β κ k (.rmap e sz es)) (x:List UInt8) {kt:TypeId} (hk:P.underlying kt=some .string) :
 ∃ (ents:Array MapEntry) (clock:Nat),w.heap[β k]? = some (.map ents clock)∧ents.size=es.length∧es.length≤1000000 ∧
  (∀ i (h:i<ents.size),ents[i].key = .string ⟨(es.getD i bY).1.toArray⟩∧ents[i].born<clock∧zu w X (β (gk k i)) (κ (gk k i)) e sz ents[i].val (es.getD i bY).2) ∧
  (∀ i j (hi:i<ents.size) (hj:j<ents.size),i<j→ents[i].born<ents[j].born)∧((es.map (·.1)).Nodup∧∀ k∈es.map (·.1),k.length≤maxLen) ∧
  (((Instr.findKey kt (.string ⟨x.toArray⟩) ents.toList).run P w = .ok none w∧∀ i,i<es.length→(es.getD i bY).1≠x) ∨
   ∃ (j:Nat) (hj:j<ents.size),(Instr.findKey kt (.string ⟨x.toArray⟩) ents.toList).run P w = .ok (some (j,ents[j].val)) w∧(es.getD j bY).1=x):=by
 obtain ⟨ents,clock,h1,h2,hl,h3,h4,h5⟩:=h;have hik:MapKept.IsKey .string (Value.string ⟨x.toArray⟩):=by simp [MapKept.IsKey]
 refine ⟨ents,clock,h1,h2,hl,h3,h4,h5,?_⟩;have hall:∀ e∈ents.toList,MapKept.IsKey .string e.key:=by
  intro e he;obtain ⟨i,hi,rfl⟩:=List.getElem_of_mem he;have hi':i<ents.size:=by simpa using hi
  rw [Array.getElem_toList,(h3 i hi').1];simp [MapKept.IsKey]
 rcases MapKept.findNow_spec hik ents.toList 0 hall with ⟨f1,f2⟩ | ⟨j,e,f1,f2,f3⟩
 ·refine .inl ⟨MapKept.run_findKey hk f1,fun i hi hc => ?_⟩;have hi':i<ents.size:=by omega
  refine f2 ents[i] (by simp) ?_;rw [(h3 i hi').1,hc]
 ·have hj:j<ents.size:=by have:=(Kq.1 f2).1;simpa using this
  have he:ents[j]=e:=by have:=Kq.1 f2;obtain ⟨_,h⟩:=this;rw [← h];simp
  refine .inr ⟨j,hj,?_,?_⟩
  ·have:=MapKept.run_findKey (w:=w) hk f1;rw [he];simpa using this
  ·have:=(h3 j hj).1;rw [he,f3] at this;exact (mk_inj.1 this).symm
theorem Ai {t K E:TypeId} {m x:Operand} {k q:Nat} {e:TypeId} {sz:Nat} {es:kA} {y:List UInt8} (hg:gd ops s o=some true) (hop:o.op = .lookup t m x false) (hd:o.dst=some q) (hm:s.op m = .amap k) (hx:s.op x = .str y)
 (hk:lk .gone s.h k = .rmap e sz es) (hu:P.underlying t=some (.map K E)) (hK:P.underlying K=some .string) (hz:zeroOf P E=some (.slice none 0 0)) (hok:HA y es=true) (hq:q<s.n∧q<1000) :
 jl P ops o s (· = s.take k q e sz (tK y es) (fP y es)) :=
 b9 hg fun c a w β κ r=>by
  have hM:=r.op m;have hX:=r.op x;rw [hm] at hM;rw [hx] at hX;have ho:=r.hp.ob k;rw [hk] at ho;obtain ⟨ents,clock,h1,h2,hl6,h3,h4,h5,h6⟩:=rA (P:=P) ho y hK;have hck:∀ e,(Instr.checkKey e 10000 K (.string ⟨y.toArray⟩)).run P w = .ok () w:=fun e=>MapKept.run_checkKey (k:=.string ⟨y.toArray⟩) hK (by simp [MapKept.IsKey]) e 9999;have hw1:=xA y es;have hw2:=vc y es;have hw3:=fun i=>(vS y es i).1;have hw4:=fun i=>(vS y es i).2.2;rw [hd];rcases h6 with ⟨f1,f2⟩ | ⟨j,hj,f1,f2⟩
  ·obtain ⟨κ',r'⟩:=r.take_empty (ad:=none) hq hk hw1 hw2 hw3 hw4;refine ⟨.slice none 0 0,w,β,κ',.inl ?_,?_⟩
   ·simp [execOp,hop,hM.amap_inv,hX.str_inv,Instr.lookup,aL hu,bK h1,hck,f1,jM hz,Result.andThen]
   ·rw [(Ft f2).1];exact r'
  ·have hrun:(execOp a.eval o).run P w = .ok (.value ents[j].val) w:=by simp [execOp,hop,hM.amap_inv,hX.str_inv,Instr.lookup,aL hu,bK h1,hck,f1,Result.andThen]
   obtain ⟨xs,g1,g2,g3⟩:=Gz h5.1 (by omega) f2 hok;have hv:=(h3 j hj).2.2;rw [g1] at hv;rw [g2];cases xs with
   | nil =>
    obtain ⟨_,ad,hv2⟩:=hv;obtain ⟨κ',r'⟩:=r.take_empty (ad:=ad) hq hk hw1 hw2 hw3 hw4;exact ⟨_,w,β,κ',.inl hrun,by rw [hv2];exact r'⟩
   | cons z zs =>
    obtain ⟨β',κ',r'⟩:=r.take_in (j:=j) hq hk hw1 hw2 hw3 hw4 (by omega) (by omega) g1 g3 (by simp) hv;exact ⟨_,w,β',κ',.inl hrun,r'⟩
theorem Dv {t K E:TypeId} {m x:Operand} {k q:Nat} {e:TypeId} {sz:Nat} {es es':kA} {zs:List (List AV)} {y:List UInt8} (hg:gd ops s o=some true) (hop:o.op = .lookup t m x false) (hd:o.dst=some q) (hm:s.op m = .amap k) (hx:s.op x = .str y)
 (hk:lk .gone s.h k = .rmap e sz es) (hu:P.underlying t=some (.map K E)) (hK:P.underlying K=some .string) (hz:zeroOf P E=some (.slice none 0 0)) (hok:HA y es=true) (h1:tK y es=zs) (h2:fP y es=es') (hq:(Nat.blt q s.n&&Nat.blt q 1000)=true) :
 Loc P ops o s ⟨[(q,.rslice q)],[(q,.row e sz zs),(k,.rmap e sz es')],[q],[]⟩:=by
 subst h1;subst h2;intro s' ha hf _;have hfk:=hf q (by simp);simp only [Kj,Nat.blt_eq] at hq;have hmo:m∈o.op.operands:=by rw [hop];simp [Op.operands]
 have hm':s'.op m = .amap k:=by rw [aS ha hmo];exact hm
 have hx':s'.op x = .str y:=by rw [aS ha (by rw [hop];simp [Op.operands])];exact hx
 have hk':lk .gone s'.h k = .rmap e sz es:=by rw [ha.h (by rw [hop];rfl) _ hmo k (by rw [hm];simp [AV.men])];exact hk
 refine (Ai (by rw [bC ha];exact hg) hop hd hm' hx' hk' hu hK hz hok ⟨by rw [ha.n];exact hq.1,hq.2⟩).mono fun s'' e1 => ?_;subst e1;have hfh:∀ j,AO.men q (lk .gone (ins k (.rmap e sz (fP y es)) s'.h) j)=false:=fun j=>by
  rw [az];split
  ·rfl
  ·exact hfk.2 j
 refine ⟨rfl,fun i => ?_,fun i => ?_⟩
 ·show lk .any (ins q (.rslice q) (gC q s'.t)) i=lk .any (im [(q,.rslice q)] s'.t) i;rw [az,cg,cq,AV.pg_free (hfk.1 i)];simp only [fU];by_cases e:i=q
  ·subst e;simp
  ·rw [if_neg e,bG e];rfl
 ·show lk .gone (ins q (.row e sz (tK y es)) (dc q (ins k (.rmap e sz (fP y es)) s'.h))) i=lk .gone (im [(q,.row e sz (tK y es)),(k,.rmap e sz (fP y es))] s'.h) i;rw [az,cg,cu,AO.pg_free (hfh i)];simp only [fU];by_cases e:i=q
  ·subst e;simp
  ·rw [if_neg e,bG e,az];simp only [cond_false];by_cases e2:i=k
   ·subst e2;simp
   ·rw [if_neg e2,bG e2];rfl
theorem uy {x:List UInt8} {v:List (List AV)}:∀ {es:kA} {j:Nat},(es.map (·.1)).Nodup→j<es.length→(es.getD j bY).1=x→jV x v es=es.set j (x,some v)
 | [],j,_,h,_=>by simp at h
 | (k,r)::es,0,_,_,h=>by
  have h:k=x:=h;simp [jV,h]
 | (k,r)::es,j+1,hn,hj,h=>by
  rw [List.map_cons,List.nodup_cons] at hn;have hj':j<es.length:=by simpa using hj
  have h:(es.getD j bY).1=x:=by simpa using h
  have hne:k≠x:=by rintro rfl;refine hn.1 (List.mem_map.2 ⟨es.getD j bY,?_,h⟩);rw [Kh,Ki hj'];exact List.getElem_mem hj'
  simp only [jV,if_neg hne,uy hn.2 hj' h,List.set_cons_succ]
def AS.stow (s:AS) (k q:Nat) (e:TypeId) (sz:Nat) (es':kA):AS:=⟨s.n,gC q s.t,rm q (dc q (ins k (.rmap e sz es') s.h))⟩
theorem Rel.stow (r:Rel c s a w β κ) {k q j:Nat} {e:TypeId} {sz:Nat} {es es2:kA} {zs:List (List AV)} {y:List UInt8} {V:Value} (hq:lk .gone s.h q = .row e sz zs) (hk:lk .gone s.h k = .rmap e sz es) (hnoR:s.noR=true) (hj6:j<1000000) {w':World}
 {ents:Array MapEntry} {clock:Nat} (hw:∀ i,i≠β k→w'.heap[i]? = w.heap[i]?) (hkp:cI (fun i=>i≠β k) w w') (hm:w'.heap[β k]? = some (.map ents clock)) (hs:ents.size=es2.length) (hl6:es2.length≤1000000) (hjl:j<es2.length)
 (hej:es2.getD j bY=(y,some zs)) (hei:∀ i,i≠j→i<es2.length→i<es.length∧es2.getD i bY=es.getD i bY)
 (hents:∀ i (h:i<ents.size),ents[i].key = .string ⟨(es2.getD i bY).1.toArray⟩∧ents[i].born<clock∧(i=j→ents[i].val=V)∧(i≠j→zu w (c.XX s.h β) (β (gk k i)) (κ (gk k i)) e sz ents[i].val (es.getD i bY).2))
 (hborn:∀ i j (hi:i<ents.size) (hj:j<ents.size),i<j→ents[i].born<ents[j].born) (hkeys:(es2.map (·.1)).Nodup∧∀ k∈es2.map (·.1),k.length≤maxLen) (hV:G w (c.XX s.h β) β κ (.rslice q) V) :
 Rel c (s.stow k q e sz es2) a w' (upd β (gk k j) (β q)) (upd κ (gk k j) (κ q)):=by
 have hlk:(lk .gone s.h k).live:=by rw [hk];trivial
 have hk6:=r.hp.sm k hlk;have hq6:q<1000000:=r.hp.sg q (by rw [hq];exact fun h=>by cases h);have hkq:k≠q:=fun e1=>by rw [e1,hq] at hk;cases hk
 have hgne:∀ n,n<1000000→n≠gk k j:=fun n hn e1=>by have:=cL k j;omega
 have b2:∀ n,n≠gk k j→upd β (gk k j) (β q) n=β n∧upd κ (gk k j) (κ q) n=κ n:=fun n h=>⟨be β h,be κ h⟩;have hlk2:∀ n,lk .gone (s.stow k q e sz es2).h n=if n=q then .gone else if n=k then .rmap e sz es2 else AO.pg q (lk .gone s.h n):=fun n=>by
  show lk .gone (rm q (dc q (ins k (.rmap e sz es2) s.h))) n=_;rw [iT,cu,az];by_cases h1:n=q
  ·rw [if_pos h1,if_pos h1]
  ·rw [if_neg h1,if_neg h1];by_cases h2:n=k
   ·rw [if_pos h2,if_pos h2];rfl
   ·rw [if_neg h2,if_neg h2]
 have hlv:∀ n,lv (s.stow k q e sz es2).h n→(n=gk k j∧zs≠[])∨(lv s.h n∧n≠q∧n≠gk k j):=by
  rintro n (h | ⟨m,i,rfl,h⟩)
  ·rw [hlk2] at h;by_cases h1:n=q
   ·rw [if_pos h1] at h;exact h.elim
   ·rw [if_neg h1] at h;by_cases h2:n=k
    ·exact .inr ⟨by rw [h2];exact .inl hlk,h1,hgne n (by omega)⟩
    ·rw [if_neg h2,AO.live_pg] at h;exact .inr ⟨.inl h,h1,hgne n (r.hp.sm n h)⟩
  ·rw [hlk2] at h;have hne:gk m i≠q:=by have:=cL m i;omega
   by_cases h1:m=q
   ·rw [if_pos h1] at h;exact h.elim
   ·rw [if_neg h1] at h;by_cases h2:m=k
    ·rw [if_pos h2] at h;obtain ⟨g1,g2,z,zs',g3⟩:=h;by_cases h3:i=j
     ·refine .inl ⟨by rw [h2,h3],?_⟩;rw [h3,hej] at g3;intro e1;rw [e1] at g3;cases g3
     ·obtain ⟨g4,g5⟩:=hei i h3 g2;refine .inr ⟨bq ?_,hne,fun e1=>h3 (dR g1 hj6 e1).2⟩;rw [h2,hk];exact ⟨g1,g4,z,zs',by rw [← g5];exact g3⟩
    ·rw [if_neg h2,AO.inn_pg] at h;exact .inr ⟨bq h,hne,fun e1=>h2 (dR (AO.inn_isR h).1 hj6 e1).1⟩
 have hqlive:zs≠[]→(lk .gone s.h q).live:=fun h=>by rw [hq];exact h
 have hX:∀ b,¬ c.XX s.h β b→b<w.heap.size→¬ c.XX (s.stow k q e sz es2).h (upd β (gk k j) (β q)) b:=by
  rintro b hb _ (h | ⟨n,h1,h2⟩)
  ·exact hb (.inl h)
  ·rcases hlv n h1 with ⟨e1,hz⟩ | ⟨h3,_,h4⟩
   ·rw [e1,ao] at h2;exact hb (.inr ⟨q,.inl (hqlive hz),h2⟩)
   ·rw [(b2 n h4).1] at h2;exact hb (.inr ⟨n,h3,h2⟩)
 have hw2:∀ b,¬ c.XX s.h β b→b<w.heap.size→w'.heap[b]? = w.heap[b]? := fun b hb _=>hw b (fun e1=>hb (.inr ⟨k,.inl hlk,e1.symm⟩));have hmn:∀ {v:AV},AV.hasR v=false→∀ n,AV.men n v=true→upd β (gk k j) (β q) n=β n∧upd κ (gk k j) (κ q) n=κ n:=fun {v} hr n hn=>b2 n (hgne n (men_lt hr hn));refine ⟨r.df,r.sz,fun i => ?_,⟨fun n => ?_,fun n n' hn hn' e1 => ?_,r.hp.kp.trans hkp (fun b hb e1=>r.hp.nk k (.inl hlk) (e1 ▸ hb)),fun n hn => ?_,fun n hn => ?_,fun n hn hn6 => ?_,fun n hn => ?_⟩⟩
 ·show G w' (c.XX (s.stow k q e sz es2).h (upd β (gk k j) (β q))) (upd β (gk k j) (β q)) (upd κ (gk k j) (κ q)) (lk .any (gC q s.t) i) _;rw [cq];have hR:=AV.hasR_pg (k:=q) (AS.noR_t hnoR i);exact ((r.tm i).pg q).mono2 hw2 hX hR (hmn hR)
 ·show HO w' (c.XX (s.stow k q e sz es2).h (upd β (gk k j) (β q))) (upd β (gk k j) (β q)) (upd κ (gk k j) (κ q)) n (lk .gone (s.stow k q e sz es2).h n);rw [hlk2];by_cases h1:n=q
  ·rw [if_pos h1];trivial
  ·rw [if_neg h1];by_cases h2:n=k
   ·rw [if_pos h2,h2];refine ⟨ents,clock,by rw [(b2 k (hgne k hk6)).1];exact hm,hs,hl6,fun i hi => ?_,hborn,hkeys⟩;obtain ⟨a1,a2,a3,a4⟩:=hents i hi;refine ⟨a1,a2,?_⟩;by_cases h3:i=j
    ·have hv:=a3 h3;subst h3;rw [hej,hv,ao,ao];have ho:=r.hp.ob q;rw [hq] at ho;cases zs with
     | nil =>
      rcases hV.rslice_inv with ⟨h0,_⟩ | ⟨h0,ad,e2⟩
      ·rw [ho.1] at h0;simp at h0
      ·exact ⟨h0,ad,e2⟩
     | cons z zs =>
      rcases hV.rslice_inv with ⟨h0,e2⟩ | ⟨h0,_⟩
      ·obtain ⟨cur,q1,q2,q3,q4,q5,q6,q7⟩:=ho.2 (by simp);have hb:w'.heap[β q]? = w.heap[β q]? := hw _ fun e3=>hkq (r.hp.inj k q (.inl hlk) (.inl (hqlive (by simp))) e3.symm);exact ⟨ho.1,e2,xp.mono hw2 hX ⟨cur,q1,q2,q3,q4,q5,q6,q7⟩ hb⟩
      ·rw [ho.1] at h0;simp at h0
    ·obtain ⟨g4,g5⟩:=hei i h3 (by omega);have hne:gk k i≠gk k j:=fun e3=>h3 (dR (by omega) hj6 e3).2;rw [g5,(b2 _ hne).1,(b2 _ hne).2];have a5:=a4 h3;have hin:∀ z zs',(es.getD i bY).2=some (z::zs')→(lk .gone s.h k).inn i:=fun z zs' h=>by rw [hk];exact ⟨by omega,g4,z,zs',h⟩
     generalize (es.getD i ([],none)).2=o at a5 hin ⊢;match o,a5,hin with
     | none,_,_=>trivial
     | some [],a5,_=>exact a5
     | some (z::zs'),a5,hin=>exact ⟨a5.1,a5.2.1,a5.2.2.mono hw2 hX (hw _ (r.hp.vne hlk (hin z zs' rfl)))⟩
   ·rw [if_neg h2];have hR:=AO.hasR_pg (k:=q) (AS.noR_h hnoR n);by_cases hg0:lk .gone s.h n = .gone
    ·rw [hg0];trivial
    ·have hn6:=r.hp.sg n hg0;refine ((r.hp.ob n).pg (j:=q)).mono2 hw2 hX hR (fun l hl=>b2 l (hgne l (AO.men_lt hR hl))) ⟨(b2 n (hgne n hn6)).1,(b2 n (hgne n hn6)).2,fun i hi=>b2 _ (fun e3=>h2 (dR hi hj6 e3).1)⟩ (fun hl => ?_) (fun i hl => ?_)
     ·rw [AO.live_pg] at hl;exact hw _ fun e3=>h2 (r.hp.inj n k (.inl hl) (.inl hlk) e3)
     ·rw [AO.inn_pg] at hl;exact hw _ (r.hp.vne hlk hl)
 ·rcases hlv n hn with ⟨e2,hz⟩ | ⟨h3,h4,h5⟩<;>rcases hlv n' hn' with ⟨e3,hz'⟩ | ⟨h6,h7,h8⟩
  ·rw [e2,e3]
  ·rw [e2,ao,(b2 n' h8).1] at e1;exact absurd (r.hp.inj q n' (.inl (hqlive hz)) h6 e1).symm h7
  ·rw [e3,ao,(b2 n h5).1] at e1;exact absurd (r.hp.inj n q h3 (.inl (hqlive hz')) e1) h4
  ·rw [(b2 n h5).1,(b2 n' h8).1] at e1;exact r.hp.inj n n' h3 h6 e1
 ·rcases hlv n hn with ⟨e2,hz⟩ | ⟨h3,_,h5⟩
  ·rw [e2,ao];exact r.hp.nk q (.inl (hqlive hz))
  ·rw [(b2 n h5).1];exact r.hp.nk n h3
 ·rcases hlv n hn with ⟨e2,hz⟩ | ⟨h3,_,h5⟩
  ·rw [e2,ao];exact r.hp.nx q (.inl (hqlive hz))
  ·rw [(b2 n h5).1];exact r.hp.nx n h3
 ·rw [(b2 n (hgne n hn6)).1,(b2 n (hgne n hn6)).2];exact r.hp.fix n hn hn6
 ·have hn:lk .gone (s.stow k q e sz es2).h n ≠ .gone:=hn;rw [hlk2] at hn;by_cases h1:n=q
  ·rw [if_pos h1] at hn;exact absurd rfl hn
  ·rw [if_neg h1] at hn;by_cases h2:n=k
   ·rw [h2];exact hk6
   ·rw [if_neg h2] at hn;exact r.hp.sg n (fun e3=>hn (by rw [e3];rfl))
end
section
variable {P:Program} {ops:Array Oper} {o:Oper} {s:AS} {c:Cx P} {a:Act} {w:World} {β:Nat→Nat} {κ:Nat→Nat×Nat}
theorem uq {ents:Array MapEntry} (h:∀ i j (hi:i<ents.size) (hj:j<ents.size),i<j→ents[i].born<ents[j].born):(ents.toList.map (·.born)).Nodup:=by rw [List.nodup_iff_pairwise_ne,List.pairwise_iff_getElem];intro i j hi hj hij;simp only [Kp,Array.length_toList] at hi hj;simp only [List.getElem_map,Array.getElem_toList];have:=h i j hi hj hij;omega
theorem EA {E:MapEntry} {kk:Value} (h:E.key=kk):({ key:=kk,val:=E.val,born:=E.born }:MapEntry)=E:=by cases E;cases h;rfl
theorem qu (r:Rel c s a w β κ) {t K E:TypeId} {k q:Nat} {e:TypeId} {sz:Nat} {es:kA} {zs:List (List AV)} {y:List UInt8} {V z:Value} (hq:lk .gone s.h q = .row e sz zs) (hk:lk .gone s.h k = .rmap e sz es) (hnoR:s.noR=true)
 (hu:P.underlying t=some (.map K E)) (hK:P.underlying K=some .string) (hz:zeroOf P E=some z) (hl6:es.length<1000000) (hy:y.length≤maxLen) (hV:G w (c.XX s.h β) β κ (.rslice q) V) :
 ∃ (j:Nat) (ents':Array MapEntry) (clock':Nat),
  (∀ w',(∀ i,i≠β k→w'.heap[i]? = w.heap[i]?)→cI (fun i=>i≠β k) w w'→w'.heap[β k]? = some (.map ents' clock')→Rel c (s.stow k q e sz (jV y zs es)) a w' (upd β (gk k j) (β q)) (upd κ (gk k j) (κ q))) ∧
  (Instr.mapUpdate t (.map (some (β k))) (.string ⟨y.toArray⟩) V).run P w = .ok () { w with heap:=w.heap.setIfInBounds (β k) (.map ents' clock') } ∧
  (∃ o0,w.heap[β k]? = some o0) ∧
  ∃ (v0:Value) (st:Nat) (ents1:Array MapEntry) (clock1:Nat),(Instr.mapEntry t (.map (some (β k))) (.string ⟨y.toArray⟩)).run P w = .ok (.tuple #[v0,goInt st]) { w with heap:=w.heap.setIfInBounds (β k) (.map ents1 clock1) } ∧
   ∀ w1:World,w1.heap[β k]? = some (.map ents1 clock1)→(Instr.entryStore t (.map (some (β k))) (goInt st) V).run P w1 = .ok () { w1 with heap:=w1.heap.setIfInBounds (β k) (.map ents' clock') }:=by
 have ho:=r.hp.ob k;rw [hk] at ho;obtain ⟨ents,clock,h1,h2,hl,h3,h4,h5,h6⟩:=rA (P:=P) ho y hK;have hik:MapKept.IsKey .string (Value.string ⟨y.toArray⟩):=by simp [MapKept.IsKey]
 have hck:∀ e,(Instr.checkKey e 10000 K (.string ⟨y.toArray⟩)).run P w = .ok () w:=fun e=>MapKept.run_checkKey (k:=.string ⟨y.toArray⟩) hK hik e 9999;rcases h6 with ⟨f1,f2⟩ | ⟨j,hj,f1,f2⟩
 ·refine ⟨es.length,ents.push { key:=.string ⟨y.toArray⟩,val:=V,born:=clock },clock+1,fun w' g1 g2 g3 => ?_,?_,⟨_,h1⟩,z,clock,ents.push { key:=.string ⟨y.toArray⟩,val:=z,born:=clock },clock+1,?_,fun w1 hw1 => ?_⟩
  ·rw [(Ft f2).2.2 zs];have hgl:∀ i,i<es.length→(es++[(y,some zs)]).getD i bY=es.getD i bY:=fun i hi=>by simp [Kh,List.getElem?_append_left hi]
   have hgj:(es++[(y,some zs)]).getD es.length bY=(y,some zs):=by simp [Kh]
   refine r.stow (j:=es.length) (V:=V) (y:=y) hq hk hnoR hl6 g1 g2 g3 (by simp [h2]) (by simp;omega) (by simp) hgj (fun i hi hi2=>⟨by simp at hi2;omega,hgl i (by simp at hi2;omega)⟩) (fun i hi => ?_) (fun i j' hi hj' hlt' => ?_) ?_ hV
   ·by_cases hi2:i<ents.size
    ·rw [Array.getElem_push_lt hi2,hgl i (by omega)];exact ⟨(h3 i hi2).1,by have:=(h3 i hi2).2.1;omega,fun e1=>by omega,fun _=>(h3 i hi2).2.2⟩
    ·have:i=ents.size:=by simp at hi;omega
     subst this;rw [Array.getElem_push_eq];have e0:ents.size=es.length:=h2;refine ⟨?_,by simp,fun _=>rfl,fun e1=>absurd e0 e1⟩;show Value.string ⟨y.toArray⟩=_;rw [e0,hgj]
   ·by_cases hj2:j'<ents.size
    ·rw [Array.getElem_push_lt hj2,Array.getElem_push_lt (by omega:i<ents.size)];exact h4 i j' (by omega) hj2 hlt'
    ·have:j'=ents.size:=by simp at hj';omega
     subst this;rw [Array.getElem_push_eq,Array.getElem_push_lt hlt'];exact (h3 i hlt').2.1
   ·refine ⟨?_,fun u hu1 => ?_⟩
    ·rw [List.map_append,List.nodup_append];refine ⟨h5.1,by simp,fun u hu1 v' hv' => ?_⟩;simp only [List.map_cons,List.map_nil,List.mem_singleton] at hv';subst hv';obtain ⟨p,hp,rfl⟩:=List.mem_map.1 hu1;obtain ⟨i,hi,rfl⟩:=List.getElem_of_mem hp;have:=f2 i hi;simpa [Kh,Ki hi] using this
    ·rw [List.map_append,List.mem_append] at hu1;rcases hu1 with hu1 | hu1
     ·exact h5.2 u hu1
     ·simp only [List.map_cons,List.map_nil,List.mem_singleton] at hu1;subst hu1;exact hy
  ·simp [Instr.mapUpdate,aL hu,bK h1,hck,f1,MapKept.run_setObj_map _ h1,Result.andThen]
  ·simp [Instr.mapEntry,aL hu,bK h1,hck,f1,jM hz,MapKept.run_setObj_map _ h1,Result.andThen]
  ·have hidx:(ents.push { key:=.string ⟨y.toArray⟩,val:=z,born:=clock }).findIdx? (fun e=>((e.born:Nat):Int)==((clock:Nat):Int))=some ents.size:=by
    rw [WideElems.findIdx_arr];refine WideElems.findIdx_born (e0:={ key:=.string ⟨y.toArray⟩,val:=z,born:=clock }) ?_ (by simp);simp only [Array.toList_push,List.map_append,List.map_cons,List.map_nil];refine List.nodup_append.2 ⟨uq h4,by simp,fun a ha c hc e1 => ?_⟩;simp only [List.mem_singleton] at hc;obtain ⟨x,hx,rfl⟩:=List.mem_map.1 ha;obtain ⟨i,hi,rfl⟩:=List.getElem_of_mem hx;have hi':i<ents.size:=by simpa using hi
    have:=(h3 i hi').2.1;rw [Array.getElem_toList] at e1;omega
   have hmod:(ents.push { key:=.string ⟨y.toArray⟩,val:=z,born:=clock }).modify ents.size (fun e=>{ e with val:=V })=ents.push { key:=.string ⟨y.toArray⟩,val:=V,born:=clock }:=by apply Array.ext';rw [Array.toList_modify,Array.toList_push,Array.toList_push,← Array.length_toList,WideElems.modify_last]
   simp [Instr.entryStore,bK hw1,asInt,asIntOf,goInt,hidx,hmod,MapKept.run_setObj_map _ hw1,Result.andThen]
 ·have hjk:ents[j].key = .string ⟨y.toArray⟩:=by rw [(h3 j hj).1,f2]
  refine ⟨j,ents.modify j fun e=>{ e with key:=.string ⟨y.toArray⟩,val:=V },clock,fun w' g1 g2 g3 => ?_,?_,⟨_,h1⟩,ents[j].val,ents[j].born,ents,clock,?_,fun w1 hw1 => ?_⟩
  ·rw [uy h5.1 (by omega) f2];have hgs:∀ i,i<es.length→(es.set j (y,some zs)).getD i bY=if j=i then (y,some zs) else es.getD i bY:=by
    intro i hi;simp only [Kh,List.getElem?_set];by_cases e:j=i
    ·subst e;simp [hi]
    ·simp [e]
   have hb2:∀ i (hi:i<(ents.modify j fun e=>{ e with key:=.string ⟨y.toArray⟩,val:=V }).size),((ents.modify j fun e=>{ e with key:=.string ⟨y.toArray⟩,val:=V })[i]).born=(ents[i]'(by simpa using hi)).born:=by intro i hi;rw [Array.getElem_modify];split<;>rfl
   refine r.stow (j:=j) (V:=V) (y:=y) hq hk hnoR (by omega) g1 g2 g3 (by simp [h2]) (by simp;omega) (by simp;omega) (by rw [hgs j (by omega),if_pos rfl]) (fun i hi hi2 => ?_) (fun i hi => ?_) (fun i j' hi hj' hlt' => ?_) ?_ hV
   ·have hi3:i<es.length:=by simpa using hi2
    exact ⟨hi3,by rw [hgs i hi3,if_neg (Ne.symm hi)]⟩
   ·have hi2:i<ents.size:=by simpa using hi
    rw [Array.getElem_modify,hgs i (by omega)];by_cases e:j=i
    ·subst e;rw [if_pos rfl,if_pos rfl];exact ⟨rfl,(h3 j hj).2.1,fun _=>rfl,fun h=>absurd rfl h⟩
    ·rw [if_neg e,if_neg e];exact ⟨(h3 i hi2).1,(h3 i hi2).2.1,fun h=>absurd h.symm e,fun _=>(h3 i hi2).2.2⟩
   ·rw [hb2 i hi,hb2 j' hj'];exact h4 i j' _ _ hlt'
   ·have:(es.set j (y,some zs)).map (·.1)=es.map (·.1):=by
     rw [List.map_set];refine List.ext_getElem (by simp) fun n hn1 hn2 => ?_;rw [List.getElem_set];split
     ·rename_i e;subst e;have:j<es.length:=by omega
      simp only [List.getElem_map];rw [← f2];simp [Kh,Ki this]
     ·rfl
    rw [this];exact h5
  ·simp [Instr.mapUpdate,aL hu,bK h1,hck,f1,Ks hj,hjk,MapKept.run_keyThatStays hik,MapKept.run_setObj_map _ h1,Result.andThen]
  ·have hsame:ents.modify j (fun e=>{ e with key:=.string ⟨y.toArray⟩ })=ents:=by
    refine Array.ext (by simp) fun i hi1 hi2 => ?_;rw [Array.getElem_modify];split
    ·rename_i e;subst e;exact EA hjk
    ·rfl
   simp [Instr.mapEntry,aL hu,bK h1,hck,f1,Ks hj,hjk,MapKept.run_keyThatStays hik,hsame,MapKept.run_setObj_map _ h1,Result.andThen]
  ·have hidx:ents.findIdx? (fun e=>((e.born:Nat):Int)==((ents[j].born:Nat):Int))=some j:=by rw [WideElems.findIdx_arr];exact WideElems.findIdx_born (uq h4) (by simp [hj])
   have hmod:ents.modify j (fun e=>{ e with val:=V })=ents.modify j (fun e'=>{ e' with key:=.string ⟨y.toArray⟩,val:=V }):=by
    refine Array.ext (by simp) fun i hi1 hi2 => ?_;rw [Array.getElem_modify,Array.getElem_modify];split
    ·rename_i e;subst e;exact congrArg (fun x=>({ key:=x,val:=V,born:=ents[j].born }:MapEntry)) hjk
    ·rfl
   simp [Instr.entryStore,bK hw1,asInt,asIntOf,goInt,hidx,hmod,MapKept.run_setObj_map _ hw1,Result.andThen]
end
section
variable {P:Program} {ops:Array Oper} {o:Oper} {s:AS}
theorem r5 (w:World) (b:Nat) (o:Obj):cI (fun i=>i≠b) w { w with heap:=w.heap.setIfInBounds b o }:=⟨rfl,rfl,rfl,by simp,fun i hi=>by simp [Array.getElem?_setIfInBounds,Ne.symm hi]⟩
theorem Fs {t K E:TypeId} {m x v:Operand} {k q:Nat} {e:TypeId} {sz:Nat} {es:kA} {zs:List (List AV)} {y:List UInt8} {z:Value} (hg:gd ops s o=some true) (hop:o.op = .mapUpdate t m x v) (hd:o.dst=none) (hm:s.op m = .amap k) (hx:s.op x = .str y) (hv:s.op v = .rslice q)
 (hq:lk .gone s.h q = .row e sz zs) (hk:lk .gone s.h k = .rmap e sz es) (hnoR:s.noR=true) (hu:P.underlying t=some (.map K E)) (hK:P.underlying K=some .string) (hz:zeroOf P E=some z) (hl6:es.length<1000000) :
 jl P ops o s (· = s.stow k q e sz (jV y zs es)) :=
 b9 hg fun c a w β κ r=>by
  have hM:=r.op m;have hX:=r.op x;have hV:=r.op v;rw [hm] at hM;rw [hx] at hX;rw [hv] at hV;obtain ⟨j,ents',clock',g1,g2,⟨o0,g3⟩,_⟩:=qu r hq hk hnoR hu hK hz hl6 hX.str_len hV;refine ⟨undef,{ w with heap:=w.heap.setIfInBounds (β k) (.map ents' clock') },upd β (gk k j) (β q),upd κ (gk k j) (κ q),.inr ⟨?_,rfl⟩,?_⟩
  ·simp [execOp,hop,hM.amap_inv,hX.str_inv,g2,Result.andThen]
  ·rw [hd];exact g1 _ (fun i hi=>(MapKept.heap_set g3).2 i hi) (r5 w _ _) (MapKept.heap_set g3).1
theorem JP {t K E:TypeId} {tm tv t1 t2:Nat} {x:Operand} {o1 o2 o3:Oper} {rest:List Oper} {Q:Exit→AS→Prop} {k q:Nat} {e:TypeId} {sz:Nat} {es:kA} {zs:List (List AV)} {y:List UInt8} {z:Value} (hg:gd ops s o1=some true)
 (h1:o1.op = .mapEntry t (.tmp tm) x) (d1:o1.dst=some t1) (h2:o2.op = .extract (.tmp t1) 1) (d2:o2.dst=some t2) (n2:o2.guard=none) (h3:o3.op = .entryStore t (.tmp tm) (.tmp t2) (.tmp tv)) (d3:o3.dst=none) (n3:o3.guard=none)
 (ht:t1<s.n∧t2<s.n∧t1≠t2∧tm≠t1∧tm≠t2∧tv≠t1∧tv≠t2) (hm:lk .any s.t tm = .amap k) (hx:s.op x = .str y) (hv:lk .any s.t tv = .rslice q)
 (hq:lk .gone s.h q = .row e sz zs) (hk:lk .gone s.h k = .rmap e sz es) (hnoR:s.noR=true) (hu:P.underlying t=some (.map K E)) (hK:P.underlying K=some .string) (hz:zeroOf P E=some z) (hl6:es.length<1000000)
 (hr:fy P ops rest Q ⟨s.n,ins t2 .any (ins t1 .any (s.stow k q e sz (jV y zs es)).t),(s.stow k q e sz (jV y zs es)).h⟩):fy P ops (o1::o2::o3::rest) Q s:=fun c a w β κ r=>by
 obtain ⟨q1,q2,q3,q4,q5,q6,q7⟩:=ht;have hM:G w (c.XX s.h β) β κ (.amap k) (a.eval (.tmp tm)):=by have:=r.op (.tmp tm);rwa [show s.op (.tmp tm) = .amap k from hm] at this
 have hX:G w (c.XX s.h β) β κ (.str y) (a.eval x):=by have:=r.op x;rwa [hx] at this
 have hV:G w (c.XX s.h β) β κ (.rslice q) (a.eval (.tmp tv)):=by have:=r.op (.tmp tv);rwa [show s.op (.tmp tv) = .rslice q from hv] at this
 obtain ⟨j,ents',clock',g1,_,⟨o0,g3⟩,v0,st,ents1,clock1,g4,g5⟩:=qu r hq hk hnoR hu hK hz hl6 hX.str_len hV;refine wpList_step fun K1 hK1 => ?_;rw [fT r hg];simp only [if_true];unfold Oper.wp;have e1:(execOp a.eval o1).run P w = .ok (.value (.tuple #[v0,goInt st])) { w with heap:=w.heap.setIfInBounds (β k) (.map ents1 clock1) }:=by simp [execOp,h1,hM.amap_inv,hX.str_inv,g4,Result.andThen]
 rw [e1];refine hK1 _ _ (wpList_step fun K2 hK2 => ?_);have hw2:∀ T,Region.wanted o2 T=true:=fun T=>by simp [Region.wanted,n2]
 have hw3:∀ T,Region.wanted o3 T=true:=fun T=>by simp [Region.wanted,n3]
 rw [if_pos (hw2 _)];unfold Oper.wp;have sz1:t1<a.tmps.size:=by rw [r.sz];exact q1
 have sz2:t2<a.tmps.size:=by rw [r.sz];exact q2
 have ev:∀ (b:Act) (i l:Nat) (U:Value),l≠i→(b.put (some i) U).eval (.tmp l)=b.eval (.tmp l):=fun b i l U h=>by simp [Act.put,Act.eval,Ne.symm h]
 have ev1:∀ (b:Act) (i:Nat) (U:Value),i<b.tmps.size→(b.put (some i) U).eval (.tmp i)=U:=fun b i U h=>by simp [Act.put,Act.eval,h]
 rw [d1];have e2:(execOp (a.put (some t1) (.tuple #[v0,goInt st])).eval o2).run P { w with heap:=w.heap.setIfInBounds (β k) (.map ents1 clock1) } = .ok (.value (goInt st)) { w with heap:=w.heap.setIfInBounds (β k) (.map ents1 clock1) }:=by simp [execOp,h2,ev1 _ _ _ sz1,Instr.extract,Result.andThen]
 rw [e2];refine hK2 _ _ (wpList_step fun K3 hK3 => ?_);rw [if_pos (hw3 _)];unfold Oper.wp;rw [d2];have e3:(execOp ((a.put (some t1) (.tuple #[v0,goInt st])).put (some t2) (goInt st)).eval o3).run P { w with heap:=w.heap.setIfInBounds (β k) (.map ents1 clock1) } = .ok .skip { w with heap:=(w.heap.setIfInBounds (β k) (.map ents1 clock1)).setIfInBounds (β k) (.map ents' clock') }:=by have g6:=g5 { w with heap:=w.heap.setIfInBounds (β k) (.map ents1 clock1) } (MapKept.heap_set g3).1;simp [execOp,h3,ev1 _ t2 _ (show t2<(a.put (some t1) (.tuple #[v0,goInt st])).tmps.size by simpa [Act.put] using sz2),ev _ _ _ _ q5,ev _ _ _ _ q4,ev _ _ _ _ q7,ev _ _ _ _ q6,hM.amap_inv,g6,Result.andThen]
 rw [e3];refine hK3 _ _ ?_;rw [d3];have hput1:AS.put (s.stow k q e sz (jV y zs es)) (some t1) .any=some ⟨s.n,ins t1 .any (s.stow k q e sz (jV y zs es)).t,(s.stow k q e sz (jV y zs es)).h⟩:=by simp only [AS.put,AS.stow,show Nat.blt t1 s.n=true by simpa [Nat.blt_eq] using q1,cond_true]
 have hput2:AS.put ⟨s.n,ins t1 .any (s.stow k q e sz (jV y zs es)).t,(s.stow k q e sz (jV y zs es)).h⟩ (some t2) .any=some ⟨s.n,ins t2 .any (ins t1 .any (s.stow k q e sz (jV y zs es)).t),(s.stow k q e sz (jV y zs es)).h⟩:=by simp only [AS.put,show Nat.blt t2 s.n=true by simpa [Nat.blt_eq] using q2,cond_true]
 have g7:({ w with heap:=w.heap.setIfInBounds (β k) (.map ents1 clock1) }:World).heap[β k]? = some (.map ents1 clock1):=(MapKept.heap_set g3).1;have rw1:=g1 { w with heap:=(w.heap.setIfInBounds (β k) (.map ents1 clock1)).setIfInBounds (β k) (.map ents' clock') } (fun i hi=>by simp [Array.getElem?_setIfInBounds,Ne.symm hi]) ⟨rfl,rfl,rfl,by simp,fun i hi=>by simp [Array.getElem?_setIfInBounds,Ne.symm hi]⟩ (MapKept.heap_set (w:={ w with heap:=w.heap.setIfInBounds (β k) (.map ents1 clock1) }) g7).1;have rw2:=bE rw1 (V:=.tuple #[v0,goInt st]) (.d (.any _)) hput1;have rw3:=bE rw2 (V:=goInt st) (.d (.any _)) hput2;exact hr c _ _ _ _ rw3
def AS.toR (s:AS) (k:Nat) (e:TypeId) (sz:Nat):Option AS :=
 match lk .gone s.h k with
 | .smap _ _ []=>some ⟨s.n,s.t,ins k (.rmap e sz []) s.h⟩
 | _=>none
theorem Rel.toR {c:Cx P} {a:Act} {w:World} {β:Nat→Nat} {κ:Nat→Nat×Nat} {s s':AS} (r:Rel c s a w β κ) {k:Nat} {e:TypeId} {sz:Nat} (h:s.toR k e sz=some s'):Rel c s' a w β κ:=by
 unfold AS.toR at h;split at h
 ·rename_i K E hk;cases h;have hlive:(lk .gone s.h k).live:=by rw [hk];trivial
  refine r.replace hlive (ob:=.rmap e sz []) trivial (fun _ _=>rfl) (cI.refl _ _) (fun _ _ => ?_);have ho:=r.hp.ob k;rw [hk] at ho;obtain ⟨ents,clock,h1,h2,h3,h4,h5⟩:=ho;exact ⟨ents,clock,h1,h2,by simp,fun i hi=>by simp at h2;rw [h2] at hi;simp at hi,h4,by simp⟩
 ·cases h
def HR (es:kA):List (Key×AV):=es.map fun p=>(.s p.1,AV.dslice (p.2.getD []))
def AS.frzR (s:AS) (k:Nat):Option (Prop×AS) :=
 match lk .gone s.h k with
 | .rmap _ _ es=>some ((es.all fun p=>p.2.isSome)=true,s.subst k (.dmap (HR es)))
 | _=>none
theorem Rel.frzR {c:Cx P} {a:Act} {w:World} {β:Nat→Nat} {κ:Nat→Nat×Nat} {s s':AS} {p:Prop} (r:Rel c s a w β κ) {k:Nat} (h:s.frzR k=some (p,s')) (hp:p):Rel c s' a w β κ:=by
 unfold AS.frzR at h;split at h
 ·rename_i e sz es hk;cases h;refine r.subst fun hnV hX hnX=>⟨fun V _=>.any V,fun V hg => ?_⟩;have ho:=r.hp.ob k;rw [hk] at ho;obtain ⟨ents,clock,h1,h2,hl,h3,h4,h5⟩:=ho;rw [hg.amap_inv];have hlen:(HR es).length=es.length:=by simp [HR]
  have hat:∀ i,i<es.length→(HR es).getD i default=(.s (es.getD i bY).1,AV.dslice ((es.getD i bY).2.getD [])):=fun i hi=>by simp [HR,Kh,Ki hi]
  have hkeys:(HR es).map (·.1)=(es.map (·.1)).map Key.s:=by simp [HR,Function.comp_def]
  have hko:nU (HR es):=by
   unfold nU;rw [hkeys];refine ⟨?_,fun q hq => ?_⟩
   ·rw [List.nodup_iff_pairwise_ne,List.pairwise_map];exact (List.nodup_iff_pairwise_ne.1 h5.1).imp fun {a b} h e=>h (by injection e)
   ·obtain ⟨y,hy,rfl⟩:=List.mem_map.1 hq;exact h5.2 y hy
  refine (mj.of (by omega) (fun i hi => ?_) (fun i hi => ?_) h4 hko).toD (hnX (by rw [hk];trivial)) h1
  ·rw [hat i (by omega)];exact ⟨(h3 i hi).1,(h3 i hi).2.1⟩
  ·rw [hat i (by omega)];have hv:=(h3 i hi).2.2;have hi2:i<es.length:=by omega
   have hs:(es.getD i bY).2.isSome=true:=by have:=Ku.1 hp (es.getD i bY) (by rw [Kh,Ki hi2];exact List.getElem_mem hi2);simpa using this
   have hin:∀ z zs,(es.getD i bY).2=some (z::zs)→(lk .gone s.h k).inn i:=fun z zs h=>by rw [hk];exact ⟨by omega,hi2,z,zs,h⟩
   show D w _ (.dslice ((es.getD i ([],none)).2.getD [])) _;generalize (es.getD i ([],none)).2=o at hv hs hin ⊢;match o,hv,hs,hin with
   | none,_,hs,_=>cases hs
   | some [],hv,_,_ =>
    obtain ⟨_,ad,e1⟩:=hv;rw [e1];exact .dnil _ _ (Nat.zero_le _)
   | some (z::zs),hv,_,hin =>
    obtain ⟨v1,v2,cur,g1,g2,g3,g4,g5,g6,g7⟩:=hv;rw [v2,v1];show D w _ (.dslice (z::zs)) _;refine .dslice (z::zs) (β (gk k i)) 0 (κ (gk k i)).1 sz (fun i' j=>cur.getD (i'*sz+j) undef) g3 g4 g5 (hnV i (hin z zs rfl)) g6 (fun i' j hi' hj => ?_) (fun i' j hi' hj=>(g7 i' j hi' hj).mono (fun _ _ _=>rfl) hX);rw [Nat.zero_add];refine bu g1 ?_;rw [g2];have:(i'+1)*sz≤(κ (gk k i)).1*sz:=Nat.mul_le_mul_right _ (by omega);rw [Nat.add_mul] at this;omega
 ·cases h
end
end Go.Ab
