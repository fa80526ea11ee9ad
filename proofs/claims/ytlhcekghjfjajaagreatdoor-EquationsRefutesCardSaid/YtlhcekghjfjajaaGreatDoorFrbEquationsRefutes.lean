/- The frame for walks: states without addresses, the rules by which code is walked, and contracts of library functions. -/
import Derived.Test.YtlhcekghjfjajaaGreatDoorFraEquationsRefutes
import Derived.MapFrom
import Derived.Lib.ConvBytes
import Derived.Maps.RangeRun
import Derived.Laws.StructEq
import Derived.WideKeyEntry
import Derived.Laws.MakeOwn
set_option linter.unusedSimpArgs false
set_option linter.unusedVariables false
namespace Go.Ab
open Go.RowKit
section
variable {P:Program} {l:List Oper}
def cntF:List Bool→Nat
 | []=>0
 | b::bs=>(if b then 0 else 1)+cntF bs
theorem A1:∀ {bs:List Bool} {i:Nat},bs[i]? = some false→cntF bs=cntF (bs.set i true)+1
 | [],i,h=>by simp at h
 | b::bs,0,h=>by
  simp only [List.getElem?_cons_zero,LK] at h;subst h;simp [cntF];omega
 | b::bs,i+1,h=>by have:=A1 (bs:=bs) (i:=i) (by simpa using h);simp only [List.set_cons_succ,cntF];omega
theorem xX:∀ {bs:List Bool},cntF bs=0→bs=List.replicate bs.length true
 | [],_=>rfl
 | b::bs,h=>by
  cases b with
  | false=>simp [cntF] at h
  | true=>simp only [cntF,if_true,Nat.zero_add] at h;rw [List.length_cons,List.replicate_succ,← xX h]
theorem zn:∀ {bs:List Bool},cntF bs≠0→∃ i:Nat,bs[i]? = some false
 | [],h=>absurd rfl h
 | b::bs,h=>by
  cases b with
  | false=>exact ⟨0,rfl⟩
  | true =>
   obtain ⟨i,hi⟩:=zn (bs:=bs) (by simpa [cntF] using h);exact ⟨i+1,by simpa using hi⟩
theorem uK:∀ {os:List Oper} {k:Nat},Az k os=true→∀ (i:Nat) (o:Oper),os[i]? = some o→(k+i)∈aft o
 | [],_,_,i,o,h=>by simp at h
 | o0::os,k,h,0,o,ho=>by
  simp only [Az,LB] at h;simp only [List.getElem?_cons_zero,LK] at ho;subst ho;obtain ⟨x,hx,hb⟩:=List.any_eq_true.1 h.1;have:k=x:=dO.1 hb;subst this;exact hx
 | o0::os,k,h,i+1,o,ho=>by simp only [Az,LB] at h;have:=uK h.2 i o (by simpa using ho);rw [show k+(i+1)=k+1+i by omega];exact this
theorem ra:∀ {os:List Oper} {k:Nat},tU k os=true→∀ (i:Nat) (o:Oper),os[i]? = some o→∀ j∈aft o,j<k+i
 | [],_,_,i,o,h=>by simp at h
 | o0::os,k,h,0,o,ho=>by
  simp only [tU,LB] at h;simp only [List.getElem?_cons_zero,LK] at ho;subst ho;intro j hj;have:=LN.1 h.1 j hj;simpa [Nat.blt_eq] using this
 | o0::os,k,h,i+1,o,ho=>by simp only [tU,LB] at h;intro j hj;have:=ra h.2 i o (by simpa using ho) j hj;omega
theorem Ae:∀ {n i:Nat},i<n→i∈idxs n
 | 0,i,h=>by omega
 | n+1,i,h=>by
  simp only [idxs,List.mem_append,List.mem_singleton];by_cases e:i=n
  ·exact .inr e
  ·exact .inl (Ae (by omega))
theorem lK {listed:Array Bool} {i:Nat}:i∈Region.ready .any l.toArray listed↔listed.getD i true=false∧∃ o,l[i]? = some o∧∀ j∈aft o,listed.getD j false=true:=by
 rw [mem_ready];constructor
 ·rintro ⟨h,o,ho,ha⟩;exact ⟨h,o,by simpa using ho,fun j hj=>by obtain ⟨e,he,hb,rfl⟩:=zW.1 hj;exact ha e he hb⟩
 ·rintro ⟨h,o,ho,ha⟩;exact ⟨h,o,by simpa using ho,fun e he hb=>ha _ (zW.2 ⟨e,he,hb,rfl⟩)⟩
theorem tO {Q':Exit→Act→World→Prop} (hback:tU 0 l=true):∀ (rest:List Oper) (k:Nat) (listed:Array Bool) (a:Act) (w:World),listed.size=l.length→(∀ j,rest[j]? = l[k+j]?)→k+rest.length=l.length→(∀ i,i<k→listed.getD i false=true)→(∀ i,k≤i→listed.getD i false=false) →
 (∀ i o,k<i→l[i]? = some o→(i-1)∈aft o)→wpList P l.toArray Q' rest a w→wpAny P .any l.toArray Q' rest.length listed a w
 | [],k,listed,a,w,hs,_,hl,h1,_,_,h=>by
  refine ⟨List.eq_nil_iff_forall_not_mem.2 fun i hi => ?_,h⟩;obtain ⟨h2,o,ho,_⟩:=lK.1 hi;have hi':i<l.length:=(LJ.1 ho).1;have:=h1 i (by simp at hl;omega);simp [LC,LL (show i<listed.size by omega)] at this h2;rw [this] at h2;cases h2
 | o::rest,k,listed,a,w,hs,hr,hl,h1,h2,h3,h=>by
  have hok:l[k]? = some o:=by have:=hr 0;simpa using this.symm
  have hkl:k<l.length:=(LJ.1 hok).1;have hkr:k∈Region.ready .any l.toArray listed:=by
   refine lK.2 ⟨?_,o,hok,fun j hj=>h1 j ?_⟩
   ·have:=h2 k (Nat.le_refl _);simp [LC,LL (show k<listed.size by omega)] at this ⊢;exact this
   ·have:=ra hback k o hok j hj;omega
  refine ⟨fun h0=>(by rw [h0] at hkr;cases hkr),fun i hi => ?_⟩;obtain ⟨h4,oi,hoi,h5⟩:=lK.1 hi;have hi':i<l.length:=(LJ.1 hoi).1;have hik:i=k:=by
   by_cases hlt:i<k
   ·have:=h1 i hlt;simp [LC,LL (show i<listed.size by omega)] at this h4;rw [this] at h4;cases h4
   ·by_cases e:i=k
    ·exact e
    ·have:=h5 _ (h3 i oi (by omega) hoi);rw [h2 (i-1) (by omega)] at this;cases this
  subst hik;have hset:∀ j,(listed.setIfInBounds i true).getD j false=if j=i then true else listed.getD j false:=by
   intro j;simp only [LC,Array.getElem?_setIfInBounds];by_cases e:j=i
   ·subst e;rw [if_pos rfl,if_pos (by omega)];simp
   ·rw [if_neg (fun h=>e h.symm),if_neg e]
  have ih:=fun a' w'=>tO (Q':=Q') hback rest (i+1) (listed.setIfInBounds i true) a' w' (by simpa using hs) (fun j=>by have:=hr (j+1);simpa [Nat.add_assoc,Nat.add_comm 1 j] using this) (by simp at hl;omega)
   (fun j hj=>by
    rw [hset];by_cases e:j=i
    ·rw [if_pos e]
    ·rw [if_neg e];exact h1 j (by omega))
   (fun j hj=>by rw [hset,if_neg (by omega)];exact h2 j (by omega)) (fun j oj hj hoj=>h3 j oj (by omega) hoj)
  have hop:l.toArray[i]? = some o:=by simpa using hok
  unfold wpOp;simp only [hop];unfold wpList at h;split at h
  ·rename_i hw;rw [if_pos hw];exact h.imp (Oper.wp_mono fun a' w' hh=>ih a' w' hh) id
  ·rename_i hw;rw [if_neg hw];exact ih _ _ h
def Bq (k:Nat) (s:AS):Bool:=(s.t.all fun p => !AV.men k p.2)&&s.h.all fun p => !AO.men k p.2
theorem Bt {α:Type} {d:α} {p:α→Bool} (hd:p d=true):∀ {l:List (Nat×α)},l.all (fun x=>p x.2)=true→∀ i,p (lk d l i)=true
 | [],_,i=>hd
 | (j,u)::l,h,i=>by
  simp only [List.all_cons,LB] at h;simp only [lk];cases Nat.beq i j with
  | true=>exact h.1
  | false=>exact Bt hd h.2 i
theorem zh {k:Nat} {s:AS} (h:Bq k s=true):HV k s:=by simp only [Bq,LB] at h;exact ⟨fun t=>by have:=Bt (p:=fun v => !AV.men k v) (d:=.any) rfl h.1 t;simpa using this,fun j=>by have:=Bt (p:=fun v => !AO.men k v) (d:=.gone) rfl h.2 j;simpa using this⟩
def sU (k:Nat) (e:eD):Bool:=(e.ws.any fun p=>AV.men k p.2)||e.os.any fun p=>AO.men k p.2
def IM (cl:List (List Nat)) (es:List eD) (s:AS):Bool:=es.zipIdx.all fun (e,i)=>e.fr.all fun k=>Bq k s&&es.zipIdx.all fun (e',j)=>Nat.beq i j || !sU k e'||(Nat.blt i j&&(cl.getD j []).any (Nat.beq i))
def IP (cl:List (List Nat)) (es:List eD) (i t:Nat):Bool:=es.zipIdx.any fun (e',j)=>(cl.getD i []).any (Nat.beq j)&&e'.os.any fun q=>Nat.beq q.1 t
def BF (ov:Nat→Bool) (k t:Nat) (s:AS):Bool:=(s.t.all fun p=>Nat.beq p.1 t || !AV.men k p.2)&&s.h.all fun p => !AO.men k p.2||ov p.1
theorem Dt {α:Type} {d:α} {p:Nat→α→Bool} (hd:∀ i,p i d=true):∀ {l:List (Nat×α)},l.all (fun x=>p x.1 x.2)=true→∀ i,p i (lk d l i)=true
 | [],_,i=>hd i
 | (j,u)::l,h,i=>by
  simp only [List.all_cons,LB] at h;simp only [lk];cases e:Nat.beq i j with
  | true=>rw [dO.1 e];exact h.1
  | false=>exact Dt hd h.2 i
theorem tG {α:Type} {wr:eD→Option α}:∀ {es:List eD} {bs:List Bool},lw wr es bs=none→∀ (j:Nat) (e:eD),es[j]? = some e→bs[j]? = some true→wr e=none
 | [],bs,_,j,e,h,_=>by simp at h
 | e0::es,[],_,j,e,_,h=>by simp at h
 | e0::es,b::bs,h,j,e,h1,h2=>by
  simp only [lw] at h;split at h
  ·cases h
  ·rename_i hn;cases j with
   | zero =>
    simp only [List.getElem?_cons_zero,LK] at h1 h2;subst h1;subst h2;simpa using h
   | succ j=>exact tG hn j e (by simpa using h1) (by simpa using h2)
theorem CH {α:Type}:∀ {l:List (Nat×α)} {i:Nat},l.any (fun p=>Nat.beq p.1 i)=true→j6 l i≠none
 | [],i,h=>by simp at h
 | (k,v)::l,i,h=>by
  simp only [j6];cases e:Nat.beq i k with
  | true=>simp
  | false =>
   simp only [List.any_cons,Bool.or_eq_true] at h;rcases h with h | h
   ·have h:=dO.1 h;subst h;rw [Nat.beq_refl] at e;cases e
   ·exact CH h
theorem Cz {cl:List (List Nat)} {es:List eD} {i t:Nat} {bs:List Bool} (h:IP cl es i t=true) (hc:∀ j∈cl.getD i [],j<es.length→bs[j]? = some true) (hn:lw (fun e=>j6 e.os t) es bs=none):False:=by
 obtain ⟨⟨e',j⟩,hm,hb⟩:=List.any_eq_true.1 h;rw [List.mem_iff_getElem?] at hm;obtain ⟨m,hm⟩:=hm;rw [List.getElem?_zipIdx] at hm;cases he:es[m]? with
 | none=>rw [he] at hm;cases hm
 | some e2 =>
  rw [he] at hm;simp only [Option.map_some,LK,Prod.mk.injEq,Nat.zero_add] at hm;obtain ⟨rfl,rfl⟩:=hm;simp only [LB] at hb;obtain ⟨x,hx,hb1⟩:=List.any_eq_true.1 hb.1;have hb1:=dO.1 hb1;subst hb1;exact CH hb.2 (tG hn m e2 he (hc m hx (LJ.1 he).1))
def qz (k t:Nat) (e:eD):Bool:=(e.ws.any fun p => !Nat.beq p.1 t&&AV.men k p.2)||e.os.any fun p=>AO.men k p.2
def IZ (cl:List (List Nat)) (es:List eD) (s:AS):Bool:=es.zipIdx.all fun (e,i)=>e.ex.all fun (k,t)=>BF (IP cl es i) k t s&&es.zipIdx.all fun (e',j)=>Nat.beq i j || !qz k t e'||(Nat.blt i j&&(cl.getD j []).any (Nat.beq i))
theorem Dc {α:Type} {d:α} {p:α→Bool} (hd:p d=true) {t:Nat}:∀ {l:List (Nat×α)},l.all (fun x=>Nat.beq x.1 t||p x.2)=true→∀ i,i≠t→p (lk d l i)=true
 | [],_,i,_=>hd
 | (j,u)::l,h,i,hi=>by
  simp only [List.all_cons,LB,Bool.or_eq_true] at h;simp only [lk];cases e:Nat.beq i j with
  | true =>
   have e:=dO.1 e;subst e;rcases h.1 with h1 | h1
   ·exact absurd (dO.1 h1) hi
   ·exact h1
  | false=>exact Dc hd h.2 i hi
theorem AA {ov:Nat→Bool} {k t:Nat} {s:AS} (h:BF ov k t s=true):(∀ i,i≠t→AV.men k (lk .any s.t i)=false)∧∀ j,AO.men k (lk .gone s.h j)=true→ov j=true:=by simp only [BF,LB] at h;refine ⟨fun i hi=>by have:=Dc (p:=fun v => !AV.men k v) (d:=.any) rfl h.1 i hi;simpa using this,fun j hj => ?_⟩;have:=Dt (p:=fun j v => !AO.men k v||ov j) (d:=.gone) (fun _=>rfl) h.2 j;rw [hj] at this;simpa using this
theorem rU {α:Type}:∀ {l:List (Nat×α)} {i:Nat} {v:α},j6 l i=some v→(i,v)∈l
 | [],_,_,h=>by cases h
 | (k,u)::l,i,v,h=>by
  simp only [j6] at h;by_cases e:i=k
  ·subst e;rw [Nat.beq_refl] at h;cases h;simp
  ·rw [dm e] at h;exact List.mem_cons_of_mem _ (rU h)
theorem Gy {k t:Nat} {e:eD} {v:AV} (h:sU k e=false) (hv:j6 e.ws t=some v):AV.men k v=false:=by simp only [sU,Bool.or_eq_false_iff] at h;rw [Bool.eq_false_iff];intro hc;have:(e.ws.any fun p=>AV.men k p.2)=true:=List.any_eq_true.2 ⟨(t,v),rU hv,hc⟩;rw [h.1] at this;cases this
theorem GF {k t:Nat} {e:eD} {v:AO} (h:sU k e=false) (hv:j6 e.os t=some v):AO.men k v=false:=by simp only [sU,Bool.or_eq_false_iff] at h;rw [Bool.eq_false_iff];intro hc;have:(e.os.any fun p=>AO.men k p.2)=true:=List.any_eq_true.2 ⟨(t,v),rU hv,hc⟩;rw [h.2] at this;cases this
theorem EE {k t0 t:Nat} {e:eD} {v:AV} (h:qz k t0 e=false) (hv:j6 e.ws t=some v) (ht:t≠t0):AV.men k v=false:=by simp only [qz,Bool.or_eq_false_iff] at h;rw [Bool.eq_false_iff];intro hc;have:(e.ws.any fun p => !Nat.beq p.1 t0&&AV.men k p.2)=true:=List.any_eq_true.2 ⟨(t,v),rU hv,by simp [dm ht,hc]⟩;rw [h.1] at this;cases this
theorem ER {k t0 t:Nat} {e:eD} {v:AO} (h:qz k t0 e=false) (hv:j6 e.os t=some v):AO.men k v=false:=by simp only [qz,Bool.or_eq_false_iff] at h;rw [Bool.eq_false_iff];intro hc;have:(e.os.any fun p=>AO.men k p.2)=true:=List.any_eq_true.2 ⟨(t,v),rU hv,hc⟩;rw [h.2] at this;cases this
theorem HY {e1 e2:eD} {r1 r2:List Nat×List AV} {t:Nat} (h1:j6 e1.ws t≠none) (h2:j6 e2.ws t≠none):qI e1 e2 r1 r2=true:=by obtain ⟨p,hp,rfl⟩:=pE h1;obtain ⟨q,hq,hq2⟩:=pE h2;simp only [qI,Bool.or_eq_true];exact .inl (.inl (.inl (List.any_eq_true.2 ⟨p,hp,by rw [Bool.or_eq_true];exact .inl (List.any_eq_true.2 ⟨q,hq,dO.2 hq2.symm⟩)⟩)))
theorem ID {e1 e2:eD} {r1 r2:List Nat×List AV} {t:Nat} (h1:j6 e1.os t≠none) (h2:j6 e2.os t≠none):qI e1 e2 r1 r2=true:=by obtain ⟨p,hp,rfl⟩:=pE h1;obtain ⟨q,hq,hq2⟩:=pE h2;simp only [qI,Bool.or_eq_true];exact .inl (.inr (List.any_eq_true.2 ⟨p,hp,by rw [Bool.or_eq_true];exact .inl (List.any_eq_true.2 ⟨q,hq,dO.2 hq2.symm⟩)⟩))
theorem HK {e1 e2:eD} {r1 r2:List Nat×List AV} {t:Nat} (h1:j6 e1.ws t≠none) (h2:t∈r2.1):qI e1 e2 r1 r2=true:=by obtain ⟨p,hp,rfl⟩:=pE h1;simp only [qI,Bool.or_eq_true];exact .inl (.inl (.inl (List.any_eq_true.2 ⟨p,hp,by rw [Bool.or_eq_true];exact .inr (List.any_eq_true.2 ⟨p.1,h2,Nat.beq_refl _⟩)⟩)))
theorem Hx {e1 e2:eD} {r1 r2:List Nat×List AV} {t:Nat} (h1:j6 e2.ws t≠none) (h2:t∈r1.1):qI e1 e2 r1 r2=true:=by obtain ⟨p,hp,rfl⟩:=pE h1;simp only [qI,Bool.or_eq_true];exact .inl (.inl (.inr (List.any_eq_true.2 ⟨p,hp,List.any_eq_true.2 ⟨p.1,h2,Nat.beq_refl _⟩⟩)))
theorem HS {e1 e2:eD} {r1 r2:List Nat×List AV} {k:Nat} {v:AV} (h1:j6 e1.os k≠none) (h2:v∈r2.2) (h3:AV.men k v=true):qI e1 e2 r1 r2=true:=by obtain ⟨p,hp,rfl⟩:=pE h1;simp only [qI,Bool.or_eq_true];exact .inl (.inr (List.any_eq_true.2 ⟨p,hp,by rw [Bool.or_eq_true];exact .inr (List.any_eq_true.2 ⟨v,h2,h3⟩)⟩))
theorem IF {e1 e2:eD} {r1 r2:List Nat×List AV} {k:Nat} {v:AV} (h1:j6 e2.os k≠none) (h2:v∈r1.2) (h3:AV.men k v=true):qI e1 e2 r1 r2=true:=by obtain ⟨p,hp,rfl⟩:=pE h1;simp only [qI,Bool.or_eq_true];exact .inr (List.any_eq_true.2 ⟨p,hp,List.any_eq_true.2 ⟨v,h2,h3⟩⟩)
theorem kL.symm' {s s':AS} (h:kL s s'):kL s' s:=⟨h.n.symm,fun i=>(h.t i).symm,fun k=>(h.h k).symm⟩
theorem Gz {id:Nat} {Q:Exit→AS→Prop} (hm:P.follows .mixedOrders=true) (n:Nat) (es:List eD) {s s1:AS} (hchk:(GN l n es s&&IM (v8 l []) es s&&IZ (v8 l []) es s)=true) (hch:xY P l.toArray (l.take n) es s s1)
 (ht:ic P l.toArray (l.drop n) Q s1):eU P (.region id l.toArray true) Q s:=fun c a w β κ r=>by
 simp only [LB,GN] at hchk;obtain ⟨⟨⟨⟨⟨⟨c1,c2⟩,c3⟩,c5⟩,c6⟩,c7⟩,c8⟩:=hchk;have hen:es.length=n:=dO.1 c1;have hnl:n≤l.length:=by simpa [Nat.ble_eq] using c2
 obtain ⟨k1,k2,k3⟩:=hch.loc;have htk:∀ i,i<n→(l.take n)[i]? = l[i]? := fun i hi=>by rw [List.getElem?_take,if_pos hi]
 have htail:(∀ i o,n<i→l[i]? = some o→(i-1)∈aft o)∧(n<l.length→∀ j,j<n→j∈(v8 l []).getD n []):=by
  cases hd:l.drop n with
  | nil =>
   have hle:l.length≤n:=by simpa using hd
   exact ⟨fun i o hi ho=>by have:=(LJ.1 ho).1;omega,fun h=>by omega⟩
  | cons o0 os =>
   rw [hd] at c6;simp only [LB] at c6;refine ⟨fun i o hi ho => ?_,fun _ j hj => ?_⟩
   ·have hget:os[i-(n+1)]? = some o:=by
     have:(l.drop n)[i-n]? = some o:=by rw [List.getElem?_drop,show n+(i-n)=i by omega];exact ho
     rw [hd,show i-n=(i-(n+1))+1 by omega,List.getElem?_cons_succ] at this;exact this
    have:=uK c6.2 _ o hget;rw [show n+(i-(n+1))=i-1 by omega] at this;exact this
   ·obtain ⟨x,hx,hb⟩:=List.any_eq_true.1 (LN.1 c6.1 j (Ae hj));have:j=x:=dO.1 hb;subst this;exact hx
 have main:∀ (f:Nat) (listed:Array Bool) (a:Act) (w:World) (β:Nat→Nat) (κ:Nat→Nat×Nat),listed.size=l.length→Fm l listed→cntF (listed.toList.take n)=f→(∀ i,n≤i→listed.getD i false=false) →
  Rel c (sL es (listed.toList.take n) s) a w β κ→wpAny P .any l.toArray (lift c Q) (f+(l.length-n)) listed a w:=by
  intro f;induction f with
  | zero =>
   intro listed a w β κ hs hcl hcnt hun hr;have hml:(listed.toList.take n).length=n:=by simp;omega
   have hall:=xX hcnt;rw [hml] at hall;rw [hall,← hen,← k2] at hr;have hlist:=ht c a w β κ hr;have hdl:(l.drop n).length=l.length-n:=by simp
   rw [Nat.zero_add,← hdl];refine tO c5 (l.drop n) n listed a w hs (fun j=>by rw [List.getElem?_drop]) (by rw [hdl];omega) (fun i hi => ?_) hun htail.1 hlist;have h1:=vB (listed:=listed) hi (by omega);rw [hall,List.getElem?_replicate,if_pos hi] at h1;exact (LM h1).symm
  | succ f ih =>
   intro listed a w β κ hs hcl hcnt hun hr;have hml:(listed.toList.take n).length=n:=by simp;omega
   obtain ⟨i0,hi0⟩:=zn (bs:=listed.toList.take n) (by omega);have hi0n:i0<n:=by have:=(LJ.1 hi0).1;omega
   have hgf:∀ i,i<n→(listed.toList.take n)[i]? = some (listed.getD i false):=fun i hi=>vB hi (by omega);have hready:∀ i∈Region.ready .any l.toArray listed,i<n∧listed.getD i false=false∧∃ o,l[i]? = some o∧∀ j∈aft o,listed.getD j false=true:=by
    intro i hi;obtain ⟨h4,o,ho,h5⟩:=lK.1 hi;have hil:i<l.length:=(LJ.1 ho).1;have h6:listed.getD i false=false:=by simp [LC,LL (show i<listed.size by omega)] at h4 ⊢;exact h4
    refine ⟨?_,h6,o,ho,h5⟩;by_cases hin:i<n
    ·exact hin
    ·exfalso;by_cases e:i=n
     ·subst e;have:=kX hcl l [] (fun j=>by simp) (fun k hk=>by simp at hk) (by simpa using c5) i o ho (by simpa using hil) h5 i0 (htail.2 hil i0 hi0n);rw [hgf i0 hi0n,this] at hi0;cases hi0
     ·have:=h5 _ (htail.1 i o (by omega) ho);rw [hun (i-1) (by omega)] at this;cases this
   rw [show f+1+(l.length-n)=(f+(l.length-n))+1 by omega];refine ⟨fun h0 => ?_,fun i hi => ?_⟩
   ·
    exfalso;have hex:∃ i,i<n∧listed.getD i false=false∧∀ j,j<i→listed.getD j false=true:=by
     have gen:∀ m,(∀ j,j<m→listed.getD j false=true)∨∃ i,i<m∧listed.getD i false=false∧∀ j,j<i→listed.getD j false=true:=by
      intro m;induction m with
      | zero=>exact .inl fun j hj=>by omega
      | succ m ihm =>
       rcases ihm with h | ⟨i,h1,h2,h3⟩
       ·cases hb:listed.getD m false with
        | true =>
         refine .inl fun j hj => ?_;by_cases e:j=m
         ·rw [e];exact hb
         ·exact h j (by omega)
        | false=>exact .inr ⟨m,by omega,hb,h⟩
       ·exact .inr ⟨i,by omega,h2,h3⟩
     rcases gen n with h | ⟨i,h1,h2,h3⟩
     ·have:=h i0 hi0n;rw [hgf i0 hi0n,this] at hi0;cases hi0
     ·exact ⟨i,h1,h2,h3⟩
    obtain ⟨i,h1,h2,h3⟩:=hex;have hil:i<l.length:=by omega
    have:i∈Region.ready .any l.toArray listed:=by
     refine lK.2 ⟨?_,l[i],LA hil,fun j hj=>h3 j ?_⟩
     ·simp [LC,LL (show i<listed.size by omega)] at h2 ⊢;exact h2
     ·have:=ra c5 i _ (LA hil) j hj;omega
    rw [h0] at this;cases this
   ·obtain ⟨hin,hif,o,ho,haft⟩:=hready i hi;obtain ⟨e,he⟩:∃ e,es[i]? = some e:=⟨es[i]'(by omega),LA (by omega)⟩;have hloc:=k3 i o e (by rw [htk i hin];exact ho) he;have hbi:(listed.toList.take n)[i]? = some false:=by rw [hgf i hin,hif]
    let lex:=(List.range es.length).map fun j=>decide (j<i)
    have hlex:∀ j,j<n→lex[j]? = some (decide (j<i)):=fun j hj=>by simp [lex,hen,hj]
    have hlexl:lex.length=(listed.toList.take n).length:=by simp [lex,hen];omega
    have hord:∀ (j:Nat) (oj:Oper) (ej:eD),l[j]? = some oj→es[j]? = some ej→j≠i →
     (∀ r1 r2,(infos l.toArray (l.take n) es s)[min i j]? = some r1→(infos l.toArray (l.take n) es s)[max i j]? = some r2→qI (if i<j then e else ej) (if i<j then ej else e) r1 r2=true)→(listed.toList.take n)[j]? = lex[j]? := by
     intro j oj ej hoj hej hji hcf;have hjn:j<n:=by have:=(LJ.1 hej).1;omega
     have i1:=nN (ops:=l.toArray) (s:=s) k1 i o (by rw [htk i hin];exact ho);have i2:=nN (ops:=l.toArray) (s:=s) k1 j oj (by rw [htk j hjn];exact hoj);rw [hgf j hjn,hlex j hjn];rcases Nat.lt_or_ge j i with hlt | hge
     ·rw [show min i j=j by omega,show max i j=i by omega,if_neg (by omega),if_neg (by omega)] at hcf;have hm:=wF c3 hej i2 he i1 hlt (hcf _ _ i2 i1);have:=kX hcl l [] (fun j=>by simp) (fun k hk=>by simp at hk) (by simpa using c5) i o ho (by simpa using (LJ.1 ho).1) haft j hm;rw [this];simp [hlt]
     ·rw [show min i j=i by omega,show max i j=j by omega,if_pos (by omega),if_pos (by omega)] at hcf;have hm:=wF c3 he i1 hej i2 (by omega) (hcf _ _ i1 i2);have:listed.getD j false=false:=by
       cases hb:listed.getD j false with
       | false=>rfl
       | true =>
        have:=kX hcl l [] (fun j=>by simp) (fun k hk=>by simp at hk) (by simpa using c5) j oj hoj (by simpa using (LJ.1 hoj).1) (hcl j oj hoj hb) i hm;rw [hif] at this;cases this
      rw [this];simp;omega
    have hoj:∀ (j:Nat) (ej:eD),es[j]? = some ej→∃ oj,l[j]? = some oj:=fun j ej h=>by have:=(LJ.1 h).1;exact ⟨l[j]'(by omega),LA (by omega)⟩
    have hii:(listed.toList.take n)[i]? = lex[i]? := by rw [hbi,hlex i hin];simp
    have hagree:vM l.toArray o (sL es lex s) (sL es (listed.toList.take n) s):=by
     refine ⟨by rw [FP,FP],fun t hlt => ?_,fun hmv x hx k hk => ?_⟩
     ·rw [BQ,BQ,pw hlexl.symm fun j ej h1 h2 => ?_];by_cases hji:j=i
      ·rw [hji];exact hii
      obtain ⟨oj,h3⟩:=hoj j ej h1;refine hord j oj ej h3 h1 hji fun r1 r2 q1 q2 => ?_;have i1:=nN (ops:=l.toArray) (s:=s) k1 i o (by rw [htk i hin];exact ho);by_cases hlt2:i<j
      ·rw [if_pos hlt2,if_pos hlt2];rw [show min i j=i by omega,i1] at q1;cases q1;exact Hx h2 hlt
      ·rw [if_neg hlt2,if_neg hlt2];rw [show max i j=i by omega,i1] at q2;cases q2;exact HK h2 hlt
     ·rw [BZ,BZ,pw hlexl.symm fun j ej h1 h2 => ?_];by_cases hji:j=i
      ·rw [hji];exact hii
      obtain ⟨oj,h3⟩:=hoj j ej h1;refine hord j oj ej h3 h1 hji fun r1 r2 q1 q2 => ?_;have i1:=nN (ops:=l.toArray) (s:=s) k1 i o (by rw [htk i hin];exact ho);have hxm:(sL es lex s).op x∈(bif Ke o.op then [] else o.op.operands.toList.map (sL es lex s).op):=by rw [hmv];exact List.mem_map.2 ⟨x,by simpa using hx,rfl⟩
      by_cases hlt2:i<j
      ·rw [if_pos hlt2,if_pos hlt2];rw [show min i j=i by omega,i1] at q1;cases q1;exact IF h2 hxm hk
      ·rw [if_neg hlt2,if_neg hlt2];rw [show max i j=i by omega,i1] at q2;cases q2;exact HS h2 hxm hk
    have hfree:∀ k∈e.fr,HV k (sL es (listed.toList.take n) s):=by
     intro k hk;have h1:=LN.1 (LN.1 c7 (e,i) (by rw [List.mem_iff_getElem?];exact ⟨i,by simp [he]⟩)) k hk;simp only [LB] at h1;obtain ⟨f1,f2⟩:=zh h1.1;have hother:∀ (j:Nat) (e':eD),es[j]? = some e'→(listed.toList.take n)[j]? = some true→sU k e'=false:=by
      intro j e' h2 h3;have hne:i≠j:=by rintro rfl;rw [hbi] at h3;cases h3
      have h4:=LN.1 h1.2 (e',j) (by rw [List.mem_iff_getElem?];exact ⟨j,by simp [h2]⟩);simp only [dm hne,Bool.false_or,Bool.or_eq_true,Bool.not_eq_true',LB] at h4;rcases h4 with h4 | ⟨h4,h5⟩
      ·exact h4
      ·exfalso;obtain ⟨x,hx,hb⟩:=List.any_eq_true.1 h5;have hxi:i=x:=dO.1 hb;subst hxi;obtain ⟨oj,hoj'⟩:=hoj j e' h2;have hjn:j<n:=by have:=(LJ.1 h2).1;omega
       rw [hgf j hjn] at h3;have hb2:listed.getD j false=true:=LM h3;have:=kX hcl l [] (fun j=>by simp) (fun k hk=>by simp at hk) (by simpa using c5) j oj hoj' (by simpa using (LJ.1 hoj').1) (hcl j oj hoj' hb2) i hx;rw [hif] at this;cases this
     refine ⟨fun t => ?_,fun t => ?_⟩
     ·rw [BQ];cases hv:lw (fun e=>j6 e.ws t) es (listed.toList.take n) with
      | none=>exact f1 t
      | some v =>
       obtain ⟨j,e',h2,h3,h4⟩:=uN hv;exact Gy (hother j e' h2 h3) h4
     ·rw [BZ];cases hv:lw (fun e=>j6 e.os t) es (listed.toList.take n) with
      | none=>exact f2 t
      | some v =>
       obtain ⟨j,e',h2,h3,h4⟩:=uN hv;exact GF (hother j e' h2 h3) h4
    have honly:∀ p∈e.ex,Kr p.1 p.2 (sL es (listed.toList.take n) s):=by
     rintro ⟨k,t0⟩ hk;have h1:=LN.1 (LN.1 c8 (e,i) (by rw [List.mem_iff_getElem?];exact ⟨i,by simp [he]⟩)) (k,t0) hk;simp only [LB] at h1;obtain ⟨f1,f2⟩:=AA h1.1;have hother:∀ (j:Nat) (e':eD),es[j]? = some e'→(listed.toList.take n)[j]? = some true→qz k t0 e'=false:=by
      intro j e' h2 h3;have hne:i≠j:=by rintro rfl;rw [hbi] at h3;cases h3
      have h4:=LN.1 h1.2 (e',j) (by rw [List.mem_iff_getElem?];exact ⟨j,by simp [h2]⟩);simp only [dm hne,Bool.false_or,Bool.or_eq_true,Bool.not_eq_true',LB] at h4;rcases h4 with h4 | ⟨h4,h5⟩
      ·exact h4
      ·exfalso;obtain ⟨x,hx,hb⟩:=List.any_eq_true.1 h5;have hxi:i=x:=dO.1 hb;subst hxi;obtain ⟨oj,hoj'⟩:=hoj j e' h2;have hjn:j<n:=by have:=(LJ.1 h2).1;omega
       rw [hgf j hjn] at h3;have hb2:listed.getD j false=true:=LM h3;have:=kX hcl l [] (fun j=>by simp) (fun k hk=>by simp at hk) (by simpa using c5) j oj hoj' (by simpa using (LJ.1 hoj').1) (hcl j oj hoj' hb2) i hx;rw [hif] at this;cases this
     refine ⟨fun t htt => ?_,fun t => ?_⟩
     ·rw [BQ];cases hv:lw (fun e=>j6 e.ws t) es (listed.toList.take n) with
      | none=>exact f1 t htt
      | some v =>
       obtain ⟨j,e',h2,h3,h4⟩:=uN hv;exact EE (hother j e' h2 h3) h4 htt
     ·rw [BZ];cases hv:lw (fun e=>j6 e.os t) es (listed.toList.take n) with
      | none =>
       rw [Option.getD_none,Bool.eq_false_iff];intro hmen;refine Cz (f2 t hmen) (fun j hj hjl => ?_) hv;have:=kX hcl l [] (fun j=>by simp) (fun k hk=>by simp at hk) (by simpa using c5) i o ho (by simpa using (LJ.1 ho).1) haft j hj;rw [hgf j (by omega),this]
      | some v =>
       obtain ⟨j,e',h2,h3,h4⟩:=uN hv;exact ER (hother j e' h2 h3) h4
    have hlater:∀ (j:Nat) (e':eD),i<j→es[j]? = some e'→(listed.toList.take n)[j]? = some true→(∀ r1 r2,qI e e' r1 r2=true)→False:=by
     intro j e' hij h1 h2 hcf;obtain ⟨oj,h3⟩:=hoj j e' h1;have:=hord j oj e' h3 h1 (by omega) fun r1 r2 _ _=>by rw [if_pos hij,if_pos hij];exact hcf r1 r2
     have hjn:j<n:=by have:=(LJ.1 h1).1;omega
     rw [h2,hlex j hjn] at this;simp at this;omega
    have hop:=hloc _ hagree hfree honly c a w β κ hr (wpAny P .any l.toArray (lift c Q) (f+(l.length-n)) (listed.setIfInBounds i true)) (lift c Q) (fun s' a' w' β' κ' hs' hr'=>by
     have hset:∀ j,(listed.setIfInBounds i true).getD j false=if j=i then true else listed.getD j false:=by
      intro j;simp only [LC,Array.getElem?_setIfInBounds];by_cases e:j=i
      ·subst e;rw [if_pos rfl,if_pos (by omega)];simp
      ·rw [if_neg (fun h=>e h.symm),if_neg e]
     have htake:(listed.setIfInBounds i true).toList.take n=(listed.toList.take n).set i true:=by rw [Array.toList_setIfInBounds,List.take_set]
     refine ih (listed.setIfInBounds i true) a' w' β' κ' (by simpa using hs) (fun j oj hoj hl' j' hj' => ?_) ?_ (fun j hj => ?_) ?_
     ·rw [hset];by_cases e1:j'=i
      ·rw [if_pos e1]
      ·rw [if_neg e1];rw [hset] at hl';by_cases e2:j=i
       ·subst e2;rw [ho] at hoj;cases hoj;exact haft j' hj'
       ·rw [if_neg e2] at hl';exact hcl j oj hoj hl' j' hj'
     ·rw [htake];have:=A1 hbi;omega
     ·rw [hset,if_neg (by omega)];exact hun j hj
     ·rw [htake];exact (hr'.same hs'.symm').same (J8 he hbi (fun t ht j e' hij h1 h2=>by
       cases hw:j6 e'.ws t with
       | none=>rfl
       | some v=>exact (hlater j e' hij h1 h2 fun r1 r2=>HY ht (by rw [hw];simp)).elim) (fun k hk j e' hij h1 h2=>by
       cases hw:j6 e'.os k with
       | none=>rfl
       | some v=>exact (hlater j e' hij h1 h2 fun r1 r2=>ID hk (by rw [hw];simp)).elim) s))
    have hopi:l.toArray[i]? = some o:=by simpa using ho
    unfold wpOp;simp only [hopi];split
    ·rename_i hw;rw [if_pos hw] at hop;exact .inl hop
    ·rename_i hw;rw [if_neg hw] at hop;exact hop
 refine wp_region_any hm ?_;have hrep:((Array.replicate l.toArray.size false).toList.take n)=List.replicate n false:=by simp [List.take_replicate];omega
 have hcf:∀ n,cntF (List.replicate n false)=n:=by
  intro n;induction n with
  | zero=>rfl
  | succ n ih=>rw [List.replicate_succ,cntF,ih];simp;omega
 have hs0:∀ (es:List eD) (n:Nat) (s:AS),sL es (List.replicate n false) s=s:=by
  intro es;induction es with
  | nil=>intro n s;cases n<;>rfl
  | cons e es ih=>intro n s;cases n with
   | zero=>rfl
   | succ n=>rw [List.replicate_succ,sL];exact ih n s
 have hrf:∀ i,(Array.replicate l.toArray.size false).getD i false=false:=by intro i;simp [LC,Array.getElem?_replicate];split<;>simp
 have:=main n (Array.replicate l.toArray.size false) a w.drew β κ (by simp) (fun i o _ h=>by rw [hrf] at h;cases h) (by rw [hrep,hcf]) (fun i _=>hrf i) (by rw [hrep,hs0];exact r.drew);rw [show n+(l.length-n)=l.toArray.size by simp;omega] at this;exact this
end
section
variable {P:Program} {ops:Array Oper} {o:Oper} {s s':AS}
theorem bH (ha:vM ops o s s') {x:Operand} (hx:x∈o.op.operands):s'.op x=s.op x:=by
 cases x with
 | tmp t =>
  refine ha.t t ?_;unfold Oper.looksAt;exact List.mem_append_left _ (List.mem_filterMap.2 ⟨.tmp t,by simpa using hx,rfl⟩)
 | const v=>rfl
 | global g=>rfl
 | func f=>rfl
theorem cT (ha:vM ops o s s'):gd ops s' o=gd ops s o:=by
 unfold gd;split
 ·rfl
 ·rename_i j b hg;cases hj:ops[j]? with
  | none=>rfl
  | some x =>
   cases hd:x.dst with
   | none=>simp only [hd]
   | some t =>
    simp only [hd];have:t∈o.looksAt ops:=by unfold Oper.looksAt;refine List.mem_append_right _ ?_;simp [hg,hj,hd]
    rw [ha.t t this,ha.n]
def lH (s s':AS) (v:AV):Prop:=∀ k,AV.men k v=true→lk .gone s'.h k=lk .gone s.h k
theorem wZ {v:AV} (h:lH s s' v):oB s' v=oB s v:=by cases v<;>simp only [oB];case hptr k o=>rw [h k (by simp [AV.men])]
theorem ub {v:AV} {t:TypeId} (h:lH s s' v):qV P s' t v=qV P s t v:=by unfold qV;rw [wZ h]
theorem BE {v:AV} {t:TypeId} (h:lH s s' v):Ed P s' t v=Ed P s t v:=by
 cases v<;>simp only [Ed];case rslice k=>rw [h k (by simp [AV.men])]
 case amap k=>rw [h k (by simp [AV.men])]
theorem wm {x:Option Operand} {d:Int} (h:∀ y,x=some y→s'.op y=s.op y):qK s' d x=qK s d x:=by
 cases x with
 | none=>rfl
 | some y=>simp only [qK,h y rfl]
theorem yP {v:AV} {t:TypeId} {lo hi:Option Operand} (h1:∀ y,lo=some y→s'.op y=s.op y) (h2:∀ y,hi=some y→s'.op y=s.op y):sW P s' t v lo hi=sW P s t v lo hi:=by cases v<;>simp only [sW,wm h1,wm h2]
theorem yy {v:AV} {t:TypeId} {i:Operand} (h1:s'.op i=s.op i):tg P s' t v i=tg P s t v i:=by unfold tg;rw [h1]
theorem sV {v:AV} {t:TypeId} {i:Operand} (h1:s'.op i=s.op i) (h:lH s s' v):jN P s' t v i=jN P s t v i:=by
 unfold jN;rw [h1];cases v<;>try rfl
 case rslice k =>
  have:=h k (by simp [AV.men]);simp only [this]
theorem Bz {op:BinOp} {t:TypeId} {x y:Operand} (h1:s'.op x=s.op x) (h2:s'.op y=s.op y):Bg P s' op t x y=Bg P s op t x y:=by unfold Bg;rw [h1,h2]
theorem Ci {op:Op} (h1:∀ x∈op.operands,s'.op x=s.op x) (h2:∀ x∈op.operands,lH s s' (s.op x)):iB P s' op=iB P s op:=by
 cases op;case call c =>
  obtain ⟨callee,args,tys⟩:=c;cases callee;case builtin b =>
   have k1:∀ x∈args.toList,s'.op x=s.op x:=fun x hx=>h1 x (by simpa [Op.operands,Call.operands] using hx);have k2:∀ x∈args.toList,lH s s' (s.op x):=fun x hx=>h2 x (by simpa [Op.operands,Call.operands] using hx);simp only [iB];revert k1 k2;generalize args.toList=l;generalize tys.toList=tl;intro k1 k2;cases b<;>try rfl
   case len =>
    match l,tl,k1,k2 with
    | [x],[t],k1,k2=>simp only [k1 x (by simp),BE (k2 x (by simp))]
    | [],_,_,_=>rfl
    | _::_::_,_,_,_=>rfl
    | [_],[],_,_=>rfl
    | [_],_::_::_,_,_=>rfl
   case max =>
    match l,k1,k2 with
    | [x,y],k1,k2=>simp only [k1 x (by simp),k1 y (by simp)]
    | [],_,_=>rfl
    | [_],_,_=>rfl
    | _::_::_::_,_,_=>rfl
   case min =>
    match l,k1,k2 with
    | [x,y],k1,k2=>simp only [k1 x (by simp),k1 y (by simp)]
    | [],_,_=>rfl
    | [_],_,_=>rfl
    | _::_::_::_,_,_=>rfl
  all_goals rfl
 case makeFunc f first caps =>
  have k1:∀ x∈caps.toList,s'.op x=s.op x:=fun x hx=>h1 x (by simp [Op.operands] at hx ⊢;exact .inr hx);have k2:∀ x∈first.toList,s'.op x=s.op x:=fun x hx=>h1 x (by simp [Op.operands] at hx ⊢;exact .inl hx)
  cases f with
  | func g =>
   simp only [iB,List.map_congr_left k1];split
   ·rfl
   ·split
    ·rename_i x e1 e2;rw [k2 x (by rw [e1];simp)]
    ·rfl
  | _=>rfl
 case slice t x lo hi m =>
  have k0:s'.op x=s.op x:=h1 x (by simp [Op.operands]);have k1:∀ y,lo=some y→s'.op y=s.op y:=fun y hy=>h1 y (by simp [Op.operands,hy]);have k2:∀ y,hi=some y→s'.op y=s.op y:=fun y hy=>h1 y (by simp [Op.operands,hy]);cases m with
  | none=>simp only [iB,k0,yP k1 k2]
  | some z=>rfl
 case pick c a b =>
  simp only [iB,h1 c (by simp [Op.operands]),h1 a (by simp [Op.operands]),h1 b (by simp [Op.operands])]
 case binOp b t x y u =>
  simp only [iB,Bz (h1 x (by simp [Op.operands])) (h1 y (by simp [Op.operands]))]
 case index t x i =>
  simp only [iB,h1 x (by simp [Op.operands]),yy (h1 i (by simp [Op.operands]))]
 case indexAddr t x i =>
  simp only [iB,h1 x (by simp [Op.operands]),sV (h1 i (by simp [Op.operands])) (h2 x (by simp [Op.operands]))]
 case load t x =>
  simp only [iB,h1 x (by simp [Op.operands]),ub (h2 x (by simp [Op.operands]))]
 case move x=>simp only [iB,h1 x (by simp [Op.operands])]
 case assign x=>simp only [iB,h1 x (by simp [Op.operands])]
 case fieldAddr t x f=>simp only [iB,h1 x (by simp [Op.operands])]
 case field t x f=>simp only [iB,h1 x (by simp [Op.operands])]
 case extract x i=>simp only [iB,h1 x (by simp [Op.operands])]
 case unOp u t x=>simp only [iB,h1 x (by simp [Op.operands])]
 case nilCheck x=>simp only [iB,h1 x (by simp [Op.operands])]
 case convert u t x=>simp only [iB,h1 x (by simp [Op.operands])]
 all_goals first | rfl | (simp only [iB,h1 _ (by simp [Op.operands])])
def eD.put (dst:Option Tmp) (v:AV):eD:=⟨match dst with | some t=>[(t,v)] | none=>[],[],[],[]⟩
theorem F3 {dst:Option Tmp} {v:AV} {s1:AS} (h:s.put dst v=some s1):kL ((eD.put dst v).app s) s1:=by
 cases dst with
 | none=>cases h;exact .refl _
 | some t =>
  simp only [AS.put] at h;cases hlt:Nat.blt t s.n with
  | false=>rw [hlt] at h;cases h
  | true=>rw [hlt] at h;cases h;exact .refl _
theorem EN {dst:Option Tmp} {v:AV} {s1:AS} (hn:s'.n=s.n) (h:s.put dst v=some s1):∃ s2,s'.put dst v=some s2:=by
 cases dst with
 | none=>exact ⟨_,rfl⟩
 | some t =>
  simp only [AS.put] at h ⊢;rw [hn];cases hlt:Nat.blt t s.n with
  | false=>rw [hlt] at h;cases h
  | true=>exact ⟨_,rfl⟩
theorem lS {dst:Option Tmp} {v:AV} {s1:AS} (hd:o.dst=dst) (hp:s.put dst v=some s1) (h:∀ s',vM ops o s s'→∀ s2,s'.put dst v=some s2→mA P ops o s' (· = s2)):Loc P ops o s (.put dst v):=by intro s' ha _ _;obtain ⟨s2,h2⟩:=EN (s':=s') ha.n hp;exact (h s' ha s2 h2).mono fun s'' e=>by subst e;exact F3 h2
theorem FF (hg:gd ops s o=some false) {s1:AS} (h:s.put o.dst (.tup [])=some s1):Loc P ops o s (.put o.dst (.tup [])) :=
 lS rfl h fun _ ha _ h2=>IB (by rw [cT ha];exact hg) h2
theorem Cy (ha:vM ops o s s'):iB P s' o.op=iB P s o.op:=by
 cases hm:Ke o.op with
 | false=>exact Ci (fun x hx=>bH ha hx) (fun x hx k hk=>ha.h hm x hx k hk)
 | true =>
  have h1:=fun x (hx:x∈o.op.operands)=>bH ha hx;generalize o.op=op at hm h1;cases op<;>first | (simp [Ke] at hm;done) | (simp only [iB];rw [h1 _ (by simp [Op.operands])])
theorem DA (hg:gd ops s o=some true) {p:Prop} {v:AV} (hv:iB P s o.op=some (p,v)) (hp:p) {s1:AS} (h:s.put o.dst v=some s1):Loc P ops o s (.put o.dst v) :=
 lS rfl h fun s' ha _ h2=>Jo (by rw [cT ha];exact hg) (by rw [Cy ha];exact hv) hp h2
theorem tr {v:AV} (h:lH s s' v):AV.vw1 s'.h v=AV.vw1 s.h v:=by
 cases v<;>try rfl
 case rslice k =>
  have:=h k (by simp [AV.men]);simp only [AV.vw1,this]
 case hptr k o =>
  have:=h k (by simp [AV.men]);simp only [AV.vw1,this]
theorem Fx {v:AV} (h:lH s s' v):AV.vw s'.h v=AV.vw s.h v:=by
 cases v with
 | agg cs =>
  simp only [AV.vw,AV.agg.injEq];refine List.map_congr_left fun c hc=>tr fun k hk=>h k ?_;obtain ⟨i,hi,rfl⟩:=List.mem_iff_getElem.1 hc;simp only [AV.men];refine dh hi ?_;simpa [Lz,LA hi] using hk
 | fn f cs =>
  simp only [AV.vw,AV.fn.injEq,true_and];refine List.map_congr_left fun c hc=>tr fun k hk=>h k ?_;obtain ⟨i,hi,rfl⟩:=List.mem_iff_getElem.1 hc;simp only [AV.men];refine dh hi ?_;simpa [Lz,LA hi] using hk
 | _=>exact tr h
theorem wB {f:FuncId} (he:Go.Proofs.Enters P f) {x:Operand} {ar:Array Operand} {tys:Array TypeId} (hg:gd ops s o=some true) (hop:o.op = .call ⟨.value x,ar,tys⟩) {caps:List AV} (hx:s.op x = .fn f caps) (fl:Bool)
 {args:List AV} (hargs:(if fl then (if AV.flL (s.args ar caps) then some (s.args ar caps) else none) else some ((s.args ar caps).map (AV.vw s.h)))=some args) {v:AV} (hc:bY P f args [] fun r _=>r=v) (hok:wD fl v=true) {s1:AS} (h:s.put o.dst v=some s1):Loc P ops o s (.put o.dst v) :=
 lS rfl h fun s' ha s2 h2=>by
  have hxx:s'.op x=s.op x:=bH ha (by simp [hop,Op.operands,Call.operands]);have har:∀ y∈ar,s'.op y=s.op y:=fun y hy=>bH ha (by simp [hop,Op.operands,Call.operands,hy]);have e1:s'.args ar caps=s.args ar caps:=by unfold AS.args;rw [List.map_congr_left (fun y hy=>har y (by simpa using hy))]
  refine HI he (by rw [cT ha];exact hg) hop (by rw [hxx];exact hx) fl (args:=args) ?_ hc fun r h' hr=>by subst hr;exact ⟨hok,s2,h2,rfl⟩
  rw [e1];cases fl with
  | true=>exact hargs
  | false =>
   rw [← hargs];simp only [Bool.false_eq_true,if_false,LK];refine List.map_congr_left fun u hu=>Fx fun k hk => ?_;unfold AS.args at hu;rcases List.mem_append.1 hu with hu | hu
   ·obtain ⟨y,hy,rfl⟩:=List.mem_map.1 hu;exact ha.h (by rw [hop];rfl) y (by simp [hop,Op.operands,Call.operands];exact .inr (by simpa using hy)) k hk
   ·refine ha.h (by rw [hop];rfl) x (by simp [hop,Op.operands,Call.operands]) k ?_;rw [hx];obtain ⟨i,hi,rfl⟩:=List.mem_iff_getElem.1 hu;simp only [AV.men];refine dh hi ?_;simpa [Lz,LA hi] using hk
theorem D5 {t:TypeId} {ps:Array (Nat×Operand)} (hg:gd ops s o=some true) (hop:o.op = .build t ps) {v:AV} (hv:va P t (s.parts ps)=some v) {s1:AS} (h:s.put o.dst v=some s1):Loc P ops o s (.put o.dst v) :=
 lS rfl h fun s' ha _ h2=>Fa (by rw [cT ha];exact hg) hop (by
  rw [← hv];congr 1;unfold AS.parts;refine List.map_congr_left fun p hp => ?_;rw [bH ha];rw [hop];simp only [Op.operands,List.mem_toArray,List.mem_map];exact ⟨p,hp,rfl⟩) h2
theorem wR {t:TypeId} {len:Nat} {ps:Array (Nat×Operand)} (hg:gd ops s o=some true) (hop:o.op = .buildSlice t len ps) {v:AV} (hv:dj P t len (s.parts ps)=some v) {s1:AS} (h:s.put o.dst v=some s1):Loc P ops o s (.put o.dst v) :=
 lS rfl h fun s' ha _ h2=>xj (by rw [cT ha];exact hg) hop (by
  rw [← hv];congr 1;unfold AS.parts;refine List.map_congr_left fun p hp => ?_;rw [bH ha];rw [hop];simp only [Op.operands,List.mem_toArray,List.mem_map];exact ⟨p,hp,rfl⟩) h2
end
theorem Rel.replace {P:Program} {c:Cx P} {s:AS} {a:Act} {w:World} {β:Nat→Nat} {κ:Nat→Nat×Nat} (r:Rel c s a w β κ) {k:Nat} (hlive:(lk .gone s.h k).live) {ob:AO} (hob:ob.live) {w':World} (hw1:∀ i,i≠β k→w'.heap[i]? = w.heap[i]?) (hkp:dy (fun i=>i≠β k) w w')
 (ho:(∀ {v:AV} {V:Value},G w (c.XX s.h β) β κ v V→G w' (c.XX s.h β) β κ v V)→(∀ {v:AV} {V:Value},D w (c.XX s.h β) v V→D w' (c.XX s.h β) v V)→HO w' (c.XX s.h β) β κ k ob) (hin:∀ j,ob.inn j↔(lk .gone s.h k).inn j:=by intro j;simp [AO.inn, *]):Rel c ⟨s.n,s.t,ins k ob s.h⟩ a w' β κ:=by
 have hsl:ob.live↔(lk .gone s.h k).live:=⟨fun _=>hlive,fun _=>hob⟩;have hlv:=fun j=>sq (h:=s.h) hsl hin j;have hXX:c.XX (ins k ob s.h) β=c.XX s.h β:=ux c β hsl hin;have hw:∀ i,¬ c.XX s.h β i→i<w.heap.size→w'.heap[i]? = w.heap[i]? := fun i hi _=>hw1 _ (fun e=>hi (.inr ⟨k,.inl hlive,e.symm⟩));have hG:∀ {v:AV} {V:Value},G w (c.XX s.h β) β κ v V→G w' (c.XX s.h β) β κ v V:=fun hg=>hg.mono hw (fun _ h _=>h) (fun _ _=>.refl);refine ⟨r.df,r.sz,fun i => ?_,⟨fun j => ?_,fun i j hi hj e=>r.hp.inj i j ((hlv i).1 hi) ((hlv j).1 hj) e,r.hp.kp.trans hkp fun b hb e=>r.hp.nk k (.inl hlive) (e ▸ hb),fun j hj=>r.hp.nk j ((hlv j).1 hj),fun j hj=>r.hp.nx j ((hlv j).1 hj),r.hp.fix,fun j hj => ?_⟩⟩
 ·show G _ (c.XX (ins k ob s.h) β) β κ _ _;rw [hXX];exact hG (r.tm i)
 ·show HO _ (c.XX (ins k ob s.h) β) β κ j (lk .gone (ins k ob s.h) j);rw [hXX,be];by_cases ej:j=k
  ·subst ej;rw [if_pos rfl];exact ho hG fun hd=>hd.mono hw (fun _ h _=>h)
  ·rw [if_neg ej];exact (r.hp.ob j).mono hw (fun _ h _=>h) (fun _ _=>.refl) .refl (fun hl=>hw1 _ fun e=>ej (r.hp.inj j k (.inl hl) (.inl hlive) e)) (fun i hl=>hw1 _ (r.hp.vne hlive hl))
 ·rw [be] at hj;by_cases ej:j=k
  ·rw [ej];exact r.hp.sm k hlive
  ·rw [if_neg ej] at hj;exact r.hp.sg j hj
def vh (x:Key) (d:AV):List (Key×AV)→AV
 | []=>d
 | (k,u)::es=>if k=x then u else vh x d es
def ky (x:Key) (v:AV):List (Key×AV)→List (Key×AV)
 | []=>[(x,v)]
 | (k,u)::es=>if k=x then (x,v)::es else (k,u)::ky x v es
theorem qu {x:Key} {d:AV}:∀ {es:List (Key×AV)},(∀ i,i<es.length→(es.getD i default).1≠x)→vh x d es=d
 | [],_=>rfl
 | (k,u)::es,h=>by have h0:=h 0 (by simp);simp only [List.getD_cons_zero] at h0;rw [vh,if_neg h0];exact qu fun i hi=>by have:=h (i+1) (by simpa using hi);simpa using this
theorem xI {x:Key} {v:AV}:∀ {es:List (Key×AV)},(∀ i,i<es.length→(es.getD i default).1≠x)→ky x v es=es++[(x,v)]
 | [],_=>rfl
 | (k,u)::es,h=>by have h0:=h 0 (by simp);simp only [List.getD_cons_zero] at h0;rw [ky,if_neg h0,xI fun i hi=>by have:=h (i+1) (by simpa using hi);simpa using this];rfl
theorem zO {x:Key} {k:Key} {u:AV} {es:List (Key×AV)} {i:Nat} (hn:((k,u)::es).map (·.1) |>.Nodup) (hi:i<es.length) (h:(es.getD i default).1=x):k≠x:=by rintro rfl;rw [List.map_cons,List.nodup_cons] at hn;refine hn.1 (List.mem_map.2 ⟨es.getD i default,?_,h⟩);rw [Lz,LA hi];exact List.getElem_mem hi
theorem uF {x:Key} {d:AV}:∀ {es:List (Key×AV)} {i:Nat},(es.map (·.1)).Nodup→i<es.length→(es.getD i default).1=x→vh x d es=(es.getD i default).2
 | (k,u)::es,0,_,_,h=>by simp only [List.getD_cons_zero] at h;rw [vh,if_pos h];rfl
 | (k,u)::es,i+1,hn,hi,h=>by
  have hi':i<es.length:=by simpa using hi
  have h':(es.getD i default).1=x:=by simpa using h
  rw [vh,if_neg (zO hn hi' h')];rw [List.map_cons,List.nodup_cons] at hn;rw [uF hn.2 hi' h'];simp
theorem DC {x:Key} {v:AV}:∀ {es:List (Key×AV)} {i:Nat},(es.map (·.1)).Nodup→i<es.length→(es.getD i default).1=x→ky x v es=es.set i (x,v)
 | (k,u)::es,0,_,_,h=>by simp only [List.getD_cons_zero] at h;rw [ky,if_pos h];rfl
 | (k,u)::es,i+1,hn,hi,h=>by
  have hi':i<es.length:=by simpa using hi
  have h':(es.getD i default).1=x:=by simpa using h
  rw [ky,if_neg (zO hn hi' h')];rw [List.map_cons,List.nodup_cons] at hn;rw [DC hn.2 hi' h'];rfl
theorem mk_inj {a b:List UInt8}:(Value.string ⟨a.toArray⟩=Value.string ⟨b.toArray⟩)↔a=b:=by
 constructor
 ·intro h;have h2:(⟨a.toArray⟩:ByteArray)=⟨b.toArray⟩:=by injection h
  have h3:a.toArray=b.toArray:=by injection h2
  simpa using h3
 ·rintro rfl;rfl
theorem Key.val_inj {a b:Key}:a.val=b.val↔a=b:=by
 constructor
 ·intro h;cases a<;>cases b<;>simp only [Key.val,reduceCtorEq] at h
  ·rw [mk_inj.1 h]
  ·injection h with _ h2;rw [h2]
 ·rintro rfl;rfl
def AV.key:AV→Option Key
 | .str b=>some (.s b)
 | .int .i64 n=>some (.i n)
 | _=>none
def Key.av:Key→AV
 | .s b=>.str b
 | .i n=>.int .i64 n
theorem G.key_inv {w:World} {X:Nat→Prop} {β:Nat→Nat} {κ:Nat→Nat×Nat} {x:AV} {V:Value} {k:Key} (h:G w X β κ x V) (e:x.key=some k):V=k.val∧k.ok:=by
 unfold AV.key at e;split at e
 ·cases e;exact ⟨h.str_inv,h.str_len⟩
 ·cases e;exact ⟨h.int_inv,trivial⟩
 ·cases e
theorem Key.is (k:Key):MapKept.IsKey k.desc k.val:=by cases k<;>simp [MapKept.IsKey,Key.desc,Key.val]
theorem Key.is' {k k':Key} (h:k'.kind=k.kind):MapKept.IsKey k.desc k'.val:=by cases k<;>cases k'<;>simp_all [MapKept.IsKey,Key.desc,Key.val,Key.kind]
theorem Key.D {w:World} {X:Nat→Prop} {k:Key} (h:k.ok):D w X k.av k.val:=by
 cases k with
 | s b=>exact .str b h
 | i n=>exact .int .i64 n
def Key.fits (k:Key):Option TypeDesc→Bool
 | some .string=>Nat.beq k.kind 0
 | some (.int .i64)=>Nat.beq k.kind 1
 | _=>false
theorem Key.fits_spec {k:Key} {d:Option TypeDesc} (h:k.fits d=true):d=some k.desc:=by cases k<;>unfold Key.fits at h<;>split at h<;>first | rfl | (cases h;done) | (simp [Key.kind] at h;done)
section
variable {P:Program} {ops:Array Oper} {o:Oper} {s:AS} {c:Cx P} {a:Act} {w:World} {β:Nat→Nat} {κ:Nat→Nat×Nat}
theorem zA {w:World} {ents:Array MapEntry} {es:List (Key×AV)} {π:Nat→Nat} (hsz:ents.size=es.length) (hpi:∀ i,i<es.length→π i<es.length) (hon:∀ j,j<es.length→∃ i,i<es.length∧π i=j) (hkey:∀ i,i<es.length→(ents.getD (π i) default).key=(es.getD i default).1.val) (x:Key) (hkd:∀ p∈es,p.1.kind=x.kind) {kt:TypeId} (hk:P.underlying kt=some x.desc) :
 ((Instr.findKey kt x.val ents.toList).run P w = .ok none w∧∀ i,i<es.length→(es.getD i default).1≠x) ∨
  ∃ (i:Nat) (hj:π i<ents.size),i<es.length∧(Instr.findKey kt x.val ents.toList).run P w = .ok (some (π i,ents[π i].val)) w∧(es.getD i default).1=x:=by
 have hat:∀ j (hj:j<ents.size),ents.getD j default=ents[j]:=fun j hj=>by simp [LC,hj]
 have hmem:∀ i,i<es.length→es.getD i default∈es:=fun i hi=>by rw [Lz,LA hi];exact List.getElem_mem hi
 have hall:∀ e∈ents.toList,MapKept.IsKey x.desc e.key:=by
  intro e he;obtain ⟨j,hj,rfl⟩:=List.getElem_of_mem he;have hj':j<ents.size:=by simpa using hj
  obtain ⟨i,hi,rfl⟩:=hon j (by omega);rw [Array.getElem_toList,← hat _ hj',hkey i hi];exact Key.is' (hkd _ (hmem i hi))
 rcases MapKept.findNow_spec x.is ents.toList 0 hall with ⟨f1,f2⟩ | ⟨j,e,f1,f2,f3⟩
 ·refine .inl ⟨MapKept.run_findKey hk f1,fun i hi hc => ?_⟩;have hi':π i<ents.size:=by have:=hpi i hi;omega
  refine f2 ents[π i] (by simp) ?_;rw [← hat _ hi',hkey i hi,hc]
 ·have hj:j<ents.size:=by have:=(LJ.1 f2).1;simpa using this
  have he:ents[j]=e:=by have:=LJ.1 f2;obtain ⟨_,h⟩:=this;rw [← h];simp
  obtain ⟨i,hi,rfl⟩:=hon j (by omega);refine .inr ⟨i,hj,hi,?_,?_⟩
  ·have:=MapKept.run_findKey (w:=w) hk f1;rw [he];simpa using this
  ·have:=hkey i hi;rw [hat _ hj,he,f3] at this;exact (Key.val_inj.1 this).symm
theorem yJ {X:Nat→Prop} {k:Nat} {K E:TypeId} {es:List (Key×AV)} (h:HO w X β κ k (.smap K E es)) (x:Key) (hx:x.kind=K) {kt:TypeId} (hk:P.underlying kt=some x.desc) :
 ∃ (ents:Array MapEntry) (clock:Nat),w.heap[β k]? = some (.map ents clock)∧ents.size=es.length ∧
  (∀ i (h:i<ents.size),ents[i].key=(es.getD i default).1.val∧ents[i].born<clock∧D w X (es.getD i default).2 ents[i].val) ∧
  (∀ i j (hi:i<ents.size) (hj:j<ents.size),i<j→ents[i].born<ents[j].born)∧rA es∧(∀ p∈es,p.1.kind=K) ∧
  (((Instr.findKey kt x.val ents.toList).run P w = .ok none w∧∀ i,i<es.length→(es.getD i default).1≠x) ∨
   ∃ (j:Nat) (hj:j<ents.size),(Instr.findKey kt x.val ents.toList).run P w = .ok (some (j,ents[j].val)) w∧(es.getD j default).1=x):=by
 obtain ⟨ents,clock,h1,h2,h3,h4,h5,h6⟩:=h;refine ⟨ents,clock,h1,h2,h3,h4,h5,h6,?_⟩;rcases zA (P:=P) (w:=w) (π:=id) h2 (fun i hi=>hi) (fun j hj=>⟨j,hj,rfl⟩) (fun i hi=>by
  have hi':i<ents.size:=by omega
  have:ents.getD i default=ents[i]:=by simp [LC,hi']
  show (ents.getD i default).key=_;rw [this];exact (h3 i hi').1) x (fun p hp=>by rw [h6 p hp,hx]) hk with h | ⟨i,hj,_,f1,f2⟩
 ·exact .inl h
 ·exact .inr ⟨i,hj,f1,f2⟩
def AV.ez1:AV→AV
 | .eslice=>.dslice []
 | v=>v
def AV.ez:AV→AV
 | .agg cs=>.agg (cs.map AV.ez1)
 | v=>AV.ez1 v
theorem D.ez1 {w:World} {X:Nat→Prop} {v:AV} {V:Value} (h:D w X v V):D w X (AV.ez1 v) V:=by
 unfold AV.ez1;split
 ·cases h with | eslice a=>exact .dnil a 0 (Nat.zero_le _)
 ·exact h
theorem D.ez {w:World} {X:Nat→Prop} {v:AV} {V:Value} (h:D w X v V):D w X (AV.ez v) V:=by
 unfold AV.ez;split
 ·rename_i cs;generalize hc:AV.agg cs=v at h;cases h with
  | agg cs' vs hl hd =>
   cases hc;refine .agg _ _ (by simpa using hl) fun i hi => ?_;have hi':i<cs.length:=by simpa using hi
   have:=(hd i hi').ez1;simpa [Lz,hi'] using this
  | _=>first | cases hc | (cases hc;exact .any _)
 ·exact h.ez1
def tL (P:Program) (s:AS) (t:TypeId) (m x:AV):Option AV :=
 match m,x.key with
 | .amap k,some x=>match lk .gone s.h k,P.underlying t with
  | .smap kd _ es,some (.map K E)=>match zeroOf P E with
   | some z=>bif x.fits (P.underlying K)&&Nat.beq x.kind kd then some (vh x (AV.ez (AV.of z)) es) else none
   | none=>none
  | _,_=>none
 | _,_=>none
def o7 (P:Program) (s:AS) (t:TypeId) (m x v:AV):Option AS :=
 match m,x.key with
 | .amap k,some x=>match lk .gone s.h k,P.underlying t with
  | .smap kd E es,some (.map K' _)=>bif (x.fits (P.underlying K')&&Nat.beq x.kind kd)&&AV.fl v then some ⟨s.n,s.t,ins k (.smap kd E (ky x v es)) s.h⟩ else none
  | _,_=>none
 | _,_=>none
theorem dP {r0:Nat} {ents:Array MapEntry} {clock:Nat} (h:w.heap[r0]? = some (.map ents clock)):(getObj r0).run P w = .ok (.map ents clock) w:=MapKept.run_getObj_map h
theorem zp (r:Rel c s a w β κ) {t:TypeId} {m x v:AV} {M X:Value} (hm:G w (c.XX s.h β) β κ m M) (hx:G w (c.XX s.h β) β κ x X) (h:tL P s t m x=some v) :
 ∃ V,(Instr.lookup t M X false).run P w = .ok V w∧G w (c.XX s.h β) β κ v V:=by
 unfold tL at h;split at h
 ·rename_i k x ex;split at h
  ·rename_i kd E0 es K E hk hu;split at h
   ·rename_i z hz;cases hc:(x.fits (P.underlying K)&&Nat.beq x.kind kd) with
    | false=>rw [hc] at h;cases h
    | true =>
    rw [hc] at h;cases h;rw [LB,Nat.beq_eq] at hc;have hK:=Key.fits_spec hc.1;have ho:=r.hp.ob k;rw [hk] at ho;obtain ⟨ents,clock,h1,h2,h3,h4,h5,_,h6⟩:=yJ (P:=P) ho x hc.2 hK;rw [hm.amap_inv,(hx.key_inv ex).1];have hck:∀ e,(Instr.checkKey e 10000 K x.val).run P w = .ok () w:=fun e=>MapKept.run_checkKey (k:=x.val) hK x.is e 9999;rcases h6 with ⟨f1,f2⟩ | ⟨j,hj,f1,f2⟩
    ·refine ⟨z,?_,?_⟩
     ·simp [Instr.lookup,aU hu,dP h1,hck,f1,nP hz,Result.andThen]
     ·rw [qu f2];exact .d (D.of w _ z).ez
    ·refine ⟨ents[j].val,?_,?_⟩
     ·simp [Instr.lookup,aU hu,dP h1,hck,f1,Result.andThen]
     ·rw [uF h5.1 (by omega) f2];exact .d (h3 j hj).2.2
   ·cases h
  ·cases h
 ·cases h
theorem pr (r:Rel c s a w β κ) {t:TypeId} {m x v:AV} {M X V:Value} (hm:G w (c.XX s.h β) β κ m M) (hx:G w (c.XX s.h β) β κ x X) (hv:G w (c.XX s.h β) β κ v V) {s':AS} (h:o7 P s t m x v=some s') :
 ∃ w',(Instr.mapUpdate t M X V).run P w = .ok () w'∧Rel c s' a w' β κ:=by
 unfold o7 at h;split at h
 ·rename_i k x ex;split at h
  ·rename_i K0 E0 es K E hk hu
   ·cases hfl2:((x.fits (P.underlying K)&&Nat.beq x.kind K0)&&AV.fl v) with
    | false=>rw [hfl2] at h;cases h
    | true =>
    rw [hfl2] at h;cases h;rw [LB,LB,Nat.beq_eq] at hfl2;obtain ⟨⟨hfit,hkd⟩,hfl⟩:=hfl2;have hK:=Key.fits_spec hfit;have ho:=r.hp.ob k;rw [hk] at ho;have hlive:(lk .gone s.h k).live:=by rw [hk];trivial
    obtain ⟨ents,clock,h1,h2,h3,h4,h5,h7,h6⟩:=yJ (P:=P) ho x hkd hK;rw [hm.amap_inv,(hx.key_inv ex).1];have hik:MapKept.IsKey x.desc x.val:=x.is;have hck:∀ e,(Instr.checkKey e 10000 K x.val).run P w = .ok () w:=fun e=>MapKept.run_checkKey (k:=x.val) hK hik e 9999;have hlt:β k<w.heap.size:=r.hp.lt (.inl hlive);have hkeeps:∀ o',dy (fun i=>i≠β k) w { w with heap:=w.heap.setIfInBounds (β k) o' }:=fun o'=>⟨rfl,rfl,rfl,by simp,fun b hb=>(MapKept.heap_set h1).2 b hb⟩;rcases h6 with ⟨f1,f2⟩ | ⟨j,hj,f1,f2⟩
    ·refine ⟨{ w with heap:=w.heap.setIfInBounds (β k) (.map (ents.push { key:=x.val,val:=V,born:=clock }) (clock+1)) },?_,?_⟩
     ·simp [Instr.mapUpdate,aU hu,dP h1,hck,f1,MapKept.run_setObj_map _ h1,Result.andThen]
     ·refine r.replace hlive (ob:=.smap K0 E0 (ky x v es)) trivial (fun i hi=>(MapKept.heap_set h1).2 i hi) (hkeeps _) fun hG hD2 => ?_;rw [xI f2];refine ⟨_,_,(MapKept.heap_set h1).1,by simp [h2],fun i hi => ?_,fun i j' hi hj' hlt' => ?_,?_⟩
      ·by_cases hi2:i<ents.size
       ·rw [Array.getElem_push_lt hi2,bS (by omega)];exact ⟨(h3 i hi2).1,by have:=(h3 i hi2).2.1;omega,hD2 (h3 i hi2).2.2⟩
       ·have:i=ents.size:=by simp at hi;omega
        subst this;rw [Array.getElem_push_eq,bl (by omega),show ents.size-es.length=0 by omega];exact ⟨rfl,by simp,(hG hv).toD hfl⟩
      ·by_cases hj2:j'<ents.size
       ·rw [Array.getElem_push_lt hj2,Array.getElem_push_lt (by omega:i<ents.size)];exact h4 i j' (by omega) hj2 hlt'
       ·have:j'=ents.size:=by simp at hj';omega
        subst this;rw [Array.getElem_push_eq,Array.getElem_push_lt hlt'];exact (h3 i hlt').2.1
      ·refine ⟨⟨?_,fun u hu1 => ?_⟩,fun p hp=>by
        rcases List.mem_append.1 hp with hp | hp
        ·exact h7 p hp
        ·rw [List.mem_singleton.1 hp];exact hkd⟩
       case refine_2 =>
        rw [List.map_append,List.mem_append] at hu1;rcases hu1 with hu1 | hu1
        ·exact h5.2 u hu1
        ·simp only [List.map_cons,List.map_nil,List.mem_singleton] at hu1;subst hu1;exact (hx.key_inv ex).2
       rw [List.map_append,List.nodup_append];refine ⟨h5.1,by simp,fun u hu1 v' hv' => ?_⟩;simp only [List.map_cons,List.map_nil,List.mem_singleton] at hv';subst hv';obtain ⟨p,hp,rfl⟩:=List.mem_map.1 hu1;obtain ⟨i,hi,rfl⟩:=List.getElem_of_mem hp;have:=f2 i hi;simpa [Lz,LA hi] using this
    ·have hjk:ents[j].key=x.val:=by rw [(h3 j hj).1,f2]
     refine ⟨{ w with heap:=w.heap.setIfInBounds (β k) (.map (ents.modify j fun e=>{ e with key:=x.val,val:=V }) clock) },?_,?_⟩
     ·simp [Instr.mapUpdate,aU hu,dP h1,hck,f1,LL hj,hjk,MapKept.run_keyThatStays hik,MapKept.run_setObj_map _ h1,Result.andThen]
     ·refine r.replace hlive (ob:=.smap K0 E0 (ky x v es)) trivial (fun i hi=>(MapKept.heap_set h1).2 i hi) (hkeeps _) fun hG hD2 => ?_;rw [DC h5.1 (by omega) f2];have hgs:∀ i,i<es.length→(es.set j (x,v)).getD i default=if j=i then (x,v) else es.getD i default:=by
       intro i hi;simp only [Lz,List.getElem?_set];by_cases e:j=i
       ·subst e;simp [hi]
       ·simp [e]
      refine ⟨_,_,(MapKept.heap_set h1).1,by simp [h2],fun i hi => ?_,fun i j' hi hj' hlt' => ?_,?_⟩
      ·have hi2:i<ents.size:=by simpa using hi
       rw [Array.getElem_modify,hgs i (by omega)];by_cases e:j=i
       ·subst e;rw [if_pos rfl,if_pos rfl];exact ⟨rfl,(h3 j hj).2.1,(hG hv).toD hfl⟩
       ·rw [if_neg e,if_neg e];exact ⟨(h3 i hi2).1,(h3 i hi2).2.1,hD2 (h3 i hi2).2.2⟩
      ·have hb2:∀ i (hi:i<(ents.modify j fun e=>{ e with key:=x.val,val:=V }).size),((ents.modify j fun e=>{ e with key:=x.val,val:=V })[i]).born=(ents[i]'(by simpa using hi)).born:=by intro i hi;rw [Array.getElem_modify];split<;>rfl
       rw [hb2 i hi,hb2 j' hj'];exact h4 i j' _ _ hlt'
      ·have:(es.set j (x,v)).map (·.1)=es.map (·.1):=by
        rw [List.map_set];refine List.ext_getElem (by simp) fun n hn1 hn2 => ?_;rw [List.getElem_set];split
        ·rename_i e;subst e;have:j<es.length:=by omega
         simp only [List.getElem_map];rw [← f2];simp [Lz,LA this]
        ·rfl
       refine ⟨by unfold rA;rw [this];exact h5,fun p hp => ?_⟩;rcases List.mem_or_eq_of_mem_set hp with hp | rfl
       ·exact h7 p hp
       ·exact hkd
  ·cases h
 ·cases h
theorem Ie {t:TypeId} {m x:Operand} (hg:gd ops s o=some true) (hop:o.op = .lookup t m x false) {v:AV} (hv:tL P s t (s.op m) (s.op x)=some v) {s':AS} (h:s.put o.dst v=some s'):mA P ops o s (· = s') :=
 cL hg fun c a w β κ r=>by obtain ⟨V,hr,hG⟩:=zp r (r.op m) (r.op x) hv;refine ⟨V,w,β,κ,.inl ?_,cZ r hG h⟩;simp [execOp,hop,hr,Result.andThen]
theorem Hw {t:TypeId} {m x y:Operand} (hg:gd ops s o=some true) (hop:o.op = .mapUpdate t m x y) (hd:o.dst=none) {s':AS} (h:o7 P s t (s.op m) (s.op x) (s.op y)=some s'):mA P ops o s (· = s') :=
 cL hg fun c a w β κ r=>by obtain ⟨w',hr,r'⟩:=pr r (r.op m) (r.op x) (r.op y) h;refine ⟨undef,w',β,κ,.inr ⟨?_,rfl⟩,by rw [hd];exact r'⟩;simp [execOp,hop,hr,Result.andThen]
theorem HD {t:TypeId} {m x y:Operand} (hg:gd ops s o=some true) (hop:o.op = .insert t m x y) (hd:o.dst=none) {s':AS} (h:o7 P s t (s.op m) (s.op x) (s.op y)=some s'):mA P ops o s (· = s') :=
 cL hg fun c a w β κ r=>by obtain ⟨w',hr,r'⟩:=pr r (r.op m) (r.op x) (r.op y) h;refine ⟨undef,w',β,κ,.inr ⟨?_,rfl⟩,by rw [hd];exact r'⟩;simp [execOp,hop,hr,Result.andThen]
theorem Bh {s':AS} {t:TypeId} {m x:AV} (h:lH s s' m):tL P s' t m x=tL P s t m x:=by
 cases m<;>try rfl
 case amap k =>
  have:=h k (by simp [AV.men]);unfold tL;cases x.key with
  | none=>rfl
  | some y=>simp only [this]
theorem FO {t:TypeId} {m x:Operand} (hg:gd ops s o=some true) (hop:o.op = .lookup t m x false) {v:AV} (hv:tL P s t (s.op m) (s.op x)=some v) {s1:AS} (h:s.put o.dst v=some s1):Loc P ops o s (.put o.dst v) :=
 lS rfl h fun s' ha _ h2=>Ie (by rw [cT ha];exact hg) hop (by
  rw [bH ha (x:=m) (by simp [hop,Op.operands]),bH ha (x:=x) (by simp [hop,Op.operands]),Bh fun k hk=>ha.h (by rw [hop];rfl) m (by simp [hop,Op.operands]) k hk];exact hv) h2
def B8 (x:Key):List (Key×AV)→Bool
 | []=>false
 | (k,_)::es=>if k=x then true else B8 x es
theorem xB {x:Key}:∀ {es:List (Key×AV)},(∀ i,i<es.length→(es.getD i default).1≠x)→B8 x es=false
 | [],_=>rfl
 | (k,u)::es,h=>by have h0:=h 0 (by simp);simp only [List.getD_cons_zero] at h0;rw [B8,if_neg h0];exact xB fun i hi=>by have:=h (i+1) (by simpa using hi);simpa using this
theorem DQ {x:Key}:∀ {es:List (Key×AV)} {i:Nat},i<es.length→(es.getD i default).1=x→B8 x es=true
 | (k,u)::es,0,_,h=>by simp only [List.getD_cons_zero] at h;rw [B8,if_pos h]
 | (k,u)::es,i+1,hi,h=>by
  have hi':i<es.length:=by simpa using hi
  have h':(es.getD i default).1=x:=by simpa using h
  rw [B8];split
  ·rfl
  ·exact DQ hi' h'
theorem D.pr2 {w:World} {X:Nat→Prop} {a b:AV} {A B:Value} (h1:D w X a A) (h2:D w X b B):D w X (.tup [a,b]) (.tuple #[A,B]) :=
 .tup _ _ rfl fun j hj=>by
  have hj':j=0∨j=1:=by simp at hj;omega
  rcases hj' with rfl | rfl
  ·exact h1
  ·exact h2
def qi (P:Program) (s:AS) (t:TypeId) (m x:AV):Option AV :=
 match m,x.key with
 | .amap k,some x=>match lk .gone s.h k,P.underlying t with
  | .smap kd _ es,some (.map K E)=>match zeroOf P E with
   | some z=>bif x.fits (P.underlying K)&&Nat.beq x.kind kd then some (.tup [vh x (AV.ez (AV.of z)) es,.bool (B8 x es)]) else none
   | none=>none
  | _,_=>none
 | _,_=>none
theorem zc (r:Rel c s a w β κ) {t:TypeId} {m x v:AV} {M X:Value} (hm:G w (c.XX s.h β) β κ m M) (hx:G w (c.XX s.h β) β κ x X) (h:qi P s t m x=some v) :
 ∃ V,(Instr.lookup t M X true).run P w = .ok V w∧G w (c.XX s.h β) β κ v V:=by
 unfold qi at h;split at h
 ·rename_i k x ex;split at h
  ·rename_i kd E0 es K E hk hu;split at h
   ·rename_i z hz;cases hc:(x.fits (P.underlying K)&&Nat.beq x.kind kd) with
    | false=>rw [hc] at h;cases h
    | true =>
    rw [hc] at h;cases h;rw [LB,Nat.beq_eq] at hc;have hK:=Key.fits_spec hc.1;have ho:=r.hp.ob k;rw [hk] at ho;obtain ⟨ents,clock,h1,h2,h3,h4,h5,_,h6⟩:=yJ (P:=P) ho x hc.2 hK;rw [hm.amap_inv,(hx.key_inv ex).1];have hck:∀ e,(Instr.checkKey e 10000 K x.val).run P w = .ok () w:=fun e=>MapKept.run_checkKey (k:=x.val) hK x.is e 9999;rcases h6 with ⟨f1,f2⟩ | ⟨j,hj,f1,f2⟩
    ·refine ⟨.tuple #[z,.bool false],?_,?_⟩
     ·simp [Instr.lookup,aU hu,dP h1,hck,f1,nP hz,Result.andThen]
     ·rw [qu f2,xB f2];exact .d ((D.of w _ z).ez.pr2 (.bool _))
    ·refine ⟨.tuple #[ents[j].val,.bool true],?_,?_⟩
     ·simp [Instr.lookup,aU hu,dP h1,hck,f1,Result.andThen]
     ·rw [uF h5.1 (by omega) f2,DQ (by omega) f2];exact .d ((h3 j hj).2.2.pr2 (.bool _))
   ·cases h
  ·cases h
 ·cases h
theorem Fi {t:TypeId} {m x:Operand} (hg:gd ops s o=some true) (hop:o.op = .lookup t m x true) {v:AV} (hv:qi P s t (s.op m) (s.op x)=some v) {s':AS} (h:s.put o.dst v=some s'):mA P ops o s (· = s') :=
 cL hg fun c a w β κ r=>by obtain ⟨V,hr,hG⟩:=zc r (r.op m) (r.op x) hv;refine ⟨V,w,β,κ,.inl ?_,cZ r hG h⟩;simp [execOp,hop,hr,Result.andThen]
theorem yW {s':AS} {t:TypeId} {m x:AV} (h:lH s s' m):qi P s' t m x=qi P s t m x:=by
 cases m<;>try rfl
 case amap k =>
  have:=h k (by simp [AV.men]);unfold qi;cases x.key with
  | none=>rfl
  | some y=>simp only [this]
theorem EO {t:TypeId} {m x:Operand} (hg:gd ops s o=some true) (hop:o.op = .lookup t m x true) {v:AV} (hv:qi P s t (s.op m) (s.op x)=some v) {s1:AS} (h:s.put o.dst v=some s1):Loc P ops o s (.put o.dst v) :=
 lS rfl h fun s' ha _ h2=>Fi (by rw [cT ha];exact hg) hop (by
  rw [bH ha (x:=m) (by simp [hop,Op.operands]),bH ha (x:=x) (by simp [hop,Op.operands]),yW fun k hk=>ha.h (by rw [hop];rfl) m (by simp [hop,Op.operands]) k hk];exact hv) h2
end
def rk:List (Nat×Nat)→Nat→Option Nat
 | [],_=>none
 | (k,j)::ps,i=>bif Nat.beq i k then some j else rk ps i
def AV.ren1 (ps:List (Nat×Nat)):AV→AV
 | .hptr k o=>match rk ps k with | some j=>.hptr j o | none=>.any
 | .rslice k=>match rk ps k with | some j=>.rslice j | none=>.any
 | .gslice k=>match rk ps k with | some j=>.gslice j | none=>.any
 | .amap k=>match rk ps k with | some j=>.amap j | none=>.any
 | .bm f k o=>match rk ps k with | some j=>.bm f j o | none=>.any
 | v=>bif AV.fl v then v else .any
def AV.ren (ps:List (Nat×Nat)):AV→AV
 | .agg cs=>.agg (cs.map (AV.ren1 ps))
 | .tup cs=>.tup (cs.map (AV.ren1 ps))
 | .fn f cs=>.fn f (cs.map (AV.ren1 ps))
 | v=>AV.ren1 ps v
def AO.ren (ps:List (Nat×Nat)):AO→AO
 | .cells e cs=>.cells e (cs.map (AV.ren1 ps))
 | .eit _=>.eit []
 | o=>o
section
variable {w:World} {X X':Nat→Prop} {β β':Nat→Nat} {κ κ':Nat→Nat×Nat} {ps:List (Nat×Nat)}
theorem G.ren1 (hps:∀ k j,rk ps k=some j→β' j=β k∧κ' j=κ k) (hX:∀ b,¬ X b→b<w.heap.size→¬ X' b) {v:AV} {V:Value} (h:G w X β κ v V):G w X' β' κ' (AV.ren1 ps v) V:=by
 unfold AV.ren1;split
 ·split
  ·rename_i k o _ j e;rw [h.hptr_inv,← (hps _ _ e).1];exact .hptr j o
  ·exact .d (.any _)
 ·split
  ·rename_i k j e;rcases h.rslice_inv with ⟨h1,h2⟩ | ⟨h1,a,h2⟩
   ·rw [h2,← (hps _ _ e).1,← (hps _ _ e).2];exact .rslice j (by rw [(hps _ _ e).2];exact h1)
   ·rw [h2];exact .rslice0 j a (by rw [(hps _ _ e).2];exact h1)
  ·exact .d (.any _)
 ·split
  ·rename_i k _ j e;have hv:V = .slice (some ⟨β k,0,none⟩) 0 (κ k).1:=by
    cases h with
    | d h=>cases h
    | gslice _=>rfl
   rw [hv,← (hps _ _ e).1,← (hps _ _ e).2];exact .gslice j
  ·exact .d (.any _)
 ·split
  ·rename_i k j e;rw [h.amap_inv,← (hps _ _ e).1];exact .amap j
  ·exact .d (.any _)
 ·split
  ·rename_i f k o _ j e;rw [h.bm_inv,← (hps _ _ e).1];exact .bm f j o
  ·exact .d (.any _)
 ·cases hf:AV.fl v with
  | false=>exact .d (.any _)
  | true=>exact .d ((h.toD hf).mono (fun _ _ _=>rfl) hX)
theorem rT (ps:List (Nat×Nat)) (cs:List AV) (i:Nat):(cs.map (AV.ren1 ps)).getD i .any=AV.ren1 ps (cs.getD i .any):=getD_map (AV.ren1 ps) cs i .any .any rfl
theorem G.ren (hps:∀ k j,rk ps k=some j→β' j=β k∧κ' j=κ k) (hX:∀ b,¬ X b→b<w.heap.size→¬ X' b) {v:AV} {V:Value} (h:G w X β κ v V):G w X' β' κ' (AV.ren ps v) V:=by
 unfold AV.ren;split
 ·obtain ⟨vs,rfl,hl,hg⟩:=h.agg_inv;exact .agg _ _ (by simpa using hl) fun i hi=>by rw [rT];exact (hg i (by simpa using hi)).ren1 hps hX
 ·obtain ⟨vs,rfl,hl,hg⟩:=h.tup_inv;exact .tup _ _ (by simpa using hl) fun i hi=>by rw [rT];exact (hg i (by simpa using hi)).ren1 hps hX
 ·obtain ⟨vs,rfl,hl,hg⟩:=h.fn_inv;exact .fn _ _ _ (by simpa using hl) fun i hi=>by rw [rT];exact (hg i (by simpa using hi)).ren1 hps hX
 ·exact h.ren1 hps hX
theorem HO.ren (hps:∀ k j,rk ps k=some j→β' j=β k∧κ' j=κ k) (hX:∀ b,¬ X b→b<w.heap.size→¬ X' b) {k j:Nat} (hk:β' j=β k∧κ' j=κ k) {o:AO} (hv:∀ i,i<1000000→o.isR=true→β' (gk j i)=β (gk k i)∧κ' (gk j i)=κ (gk k i)) (h:HO w X β κ k o):HO w X' β' κ' j (AO.ren ps o):=by
 cases o with
 | gone=>trivial
 | cells e cs =>
  obtain ⟨cur,h1,h2,h3⟩:=h;exact ⟨cur,by rw [hk.1,h1],by simpa using h2,fun i hi=>by rw [rT];exact (h3 i (by simpa using hi)).ren1 hps hX⟩
 | row e sz xs =>
  refine ⟨by rw [hk.2];exact h.1,fun hx => ?_⟩;obtain ⟨cur,h1,h2,h3,h4,h0,h5,h6⟩:=h.2 hx;exact ⟨cur,by rw [hk.1,h1],by rw [hk.2,h2],by rw [hk.2];exact h3,by rw [hk.2];exact h4,h0,h5,fun i j hi hj=>(h6 i j hi hj).mono (fun _ _ _=>rfl) hX⟩
 | smap K E es =>
  obtain ⟨ents,clock,h1,h2,h3,h4,h5⟩:=h;exact ⟨ents,clock,by rw [hk.1,h1],h2,fun i hi=>⟨(h3 i hi).1,(h3 i hi).2.1,((h3 i hi).2.2).mono (fun _ _ _=>rfl) hX⟩,h4,h5⟩
 | iter es seen =>
  obtain ⟨b,ents,clock,sb,π,h1,h3,h4,h2,h5,h6⟩:=h;have hlt:b<w.heap.size:=(Array.getElem?_eq_some_iff.1 h4).1;exact ⟨b,ents,clock,sb,π,by rw [hk.1,h1],hX _ h3 hlt,h4,h2.mono (fun _ _ _=>rfl) hX,h5,h6⟩
 | eit cs =>
  obtain ⟨b,c,h1,_⟩:=h;exact ⟨b,c,by rw [hk.1,h1],fun i hi=>by cases hi⟩
 | room e sz =>
  obtain ⟨cur,h1,h2,h3⟩:=h;exact ⟨cur,by rw [hk.1,h1],by rw [hk.2,h2],by rw [hk.2];exact h3⟩
 | rmap e sz es =>
  obtain ⟨ents,clock,h1,h2,hl,h3,h4⟩:=h;refine ⟨ents,clock,by rw [hk.1,h1],h2,hl,fun i hi=>⟨(h3 i hi).1,(h3 i hi).2.1,?_⟩,h4⟩;obtain ⟨e1,e2⟩:=hv i (by omega) rfl;have h5:=(h3 i hi).2.2;rw [e1,e2];generalize (es.getD i ([],none)).2=o at h5 ⊢;match o,h5 with
  | none,_=>trivial
  | some [],h5=>exact h5
  | some (x::xs),h5=>exact ⟨h5.1,h5.2.1,h5.2.2.mono (fun _ _ _=>rfl) hX rfl⟩
 | rrow eo e sz es =>
  obtain ⟨h1,hl,h2⟩:=h;refine ⟨by rw [hk.2];exact h1,hl,fun hx => ?_⟩;obtain ⟨cur,g1,g2,g3,g4,g5⟩:=h2 hx;refine ⟨cur,by rw [hk.1,g1],by rw [hk.2];exact g2,by rw [hk.2];exact g3,by rw [hk.2];exact g4,fun i hi => ?_⟩;obtain ⟨e1,e2⟩:=hv i (by omega) rfl;have h5:=g5 i hi;rw [e1,e2];generalize es.getD i none=o at h5 ⊢;match o,h5 with
  | none,_=>trivial
  | some [],h5=>exact h5
  | some (x::xs),h5=>exact ⟨h5.1,h5.2.1,h5.2.2.mono (fun _ _ _=>rfl) hX rfl⟩
end
def oU:List (Nat×Nat)→Bool
 | []=>true
 | (k,j)::ps=>ps.all (fun p => !Nat.beq p.1 k && !Nat.beq p.2 j)&&oU ps
theorem ou:∀ {ps:List (Nat×Nat)} {k j:Nat},rk ps k=some j→(k,j)∈ps
 | (k0,j0)::ps,k,j,h=>by
  simp only [rk] at h;cases hb:Nat.beq k k0 with
  | true=>rw [hb] at h;cases h;rw [dO.1 hb];exact List.mem_cons_self ..
  | false=>rw [hb] at h;exact List.mem_cons_of_mem _ (ou h)
theorem B1:∀ {ps:List (Nat×Nat)} {k j:Nat},oU ps=true→(k,j)∈ps→rk ps k=some j
 | (k0,j0)::ps,k,j,hi,h=>by
  simp only [oU,LB] at hi;simp only [rk];rcases List.mem_cons.1 h with h | h
  ·cases h;simp
  ·have:=LN.1 hi.1 _ h;simp only [LB,Bool.not_eq_true'] at this;rw [this.1];exact B1 hi.2 h
def swp (ps:List (Nat×Nat)):List (Nat×Nat):=ps.map fun p=>(p.2,p.1)
theorem A3:∀ {ps:List (Nat×Nat)},oU ps=true→oU (swp ps)=true
 | [],_=>rfl
 | (k,j)::ps,h=>by simp only [oU,LB] at h;simp only [swp,List.map_cons,oU,LB];refine ⟨?_,A3 h.2⟩;rw [LN] at h ⊢;intro p hp;obtain ⟨q,hq,rfl⟩:=List.mem_map.1 hp;have:=h.1 q hq;simp only [LB] at this ⊢;exact ⟨this.2,this.1⟩
theorem cE {ps:List (Nat×Nat)} (hi:oU ps=true) {k j:Nat}:rk (swp ps) j=some k↔rk ps k=some j:=by
 constructor
 ·intro h;have:=ou h;obtain ⟨q,hq,e⟩:=List.mem_map.1 this;cases e;exact B1 hi hq
 ·intro h;exact B1 (A3 hi) (List.mem_map.2 ⟨_,ou h,rfl⟩)
def hand (ps:List (Nat×Nat)) (h:List (Nat×AO)):List (Nat×AO):=ps.map fun p=>(p.2,AO.ren ps (lk .gone h p.1))
def back (ps:List (Nat×Nat)) (h':List (Nat×AO)):List (Nat×Nat)→List (Nat×AO)→List (Nat×AO)
 | [],h=>h
 | (k,j)::qs,h=>ins k (AO.ren (swp ps) (lk .gone h' j)) (back ps h' qs h)
theorem uo {ps:List (Nat×Nat)} {h:List (Nat×AO)}:∀ {qs:List (Nat×Nat)},oU qs=true→∀ (j:Nat),lk .gone (qs.map fun p=>(p.2,AO.ren ps (lk .gone h p.1))) j=match rk (swp qs) j with | some k=>AO.ren ps (lk .gone h k) | none=>.gone
 | [],_,j=>rfl
 | (k,j0)::qs,hi,j=>by
  simp only [oU,LB] at hi;simp only [List.map_cons,lk,swp,rk];cases hb:Nat.beq j j0 with
  | true=>rfl
  | false=>simp only [cond_false];exact uo hi.2 j
theorem oA {ps:List (Nat×Nat)} {o:AO} {i:Nat}:(AO.ren ps o).inn i↔o.inn i:=by cases o<;>exact Iff.rfl
theorem lN {ps:List (Nat×Nat)} {o:AO}:(AO.ren ps o).live↔o.live:=by cases o<;>simp [AO.ren,AO.live]
def rI (b:UInt8):List AV:=[.int .u8 (b.toNat:Int)]
section
variable {P:Program} {ops:Array Oper} {o:Oper} {s:AS}
theorem Gh {src dst e:TypeId} {x:Operand} (hg:gd ops s o=some true) (hop:o.op = .convert src dst x) (hs:isStr P src=true) (hd:E6 P dst=some e) (he:Fl P e=some .u8) {l:List UInt8} (hx:s.op x = .str l) {s':AS} (h:s.put o.dst (.dslice (l.map rI))=some s'):mA P ops o s (· = s') :=
 cL hg fun c a w β κ r=>by
  have hX:=r.op x;rw [hx] at hX;have hl:=hX.str_len;have hrun:=Lib.run_convert_string_bytes (P:=P) w src dst e ⟨l.toArray⟩ (jS hs) (fJ hd) (yd he);have hk:dy (fun b=>b<w.heap.size) w (Lib.bytesWorld w e ⟨l.toArray⟩) :=
   ⟨rfl,rfl,rfl,by rw [Lib.bytesWorld_size];omega,fun b hb=>Lib.bytesWorld_at_old w e _ b hb⟩
  have r2:=r.later hk;refine ⟨.slice (some ⟨w.heap.size,0,none⟩) (⟨l.toArray⟩:ByteArray).size (grownCap w (⟨l.toArray⟩:ByteArray).size 0 e),Lib.bytesWorld w e ⟨l.toArray⟩,β,κ,.inl ?_,cZ r2 (.d ?_) h⟩
  ·simp only [execOp,hop,hX.str_inv,Sem.run_bind,hrun,Result.andThen];rfl
  ·have hnX:¬ c.XX s.h β w.heap.size:=by
    rintro (hx | ⟨k,hl,hk⟩)
    ·have:=c.hX _ hx;have:=r.hp.kp.size;omega
    ·have:=r.hp.lt hl;omega
   have hsz:(⟨l.toArray⟩:ByteArray).size=(l.map rI).length:=by simp [size_mk]
   rw [hsz];have hlen:(l.map rI).length=l.length:=by simp
   refine D.dslice (l.map rI) w.heap.size 0 _ 1 (fun i _=>.int .u8 ((l.getD i 0).toNat:Int)) (grownCap_ge w _ _ _) (grownCap_le_maxLen w _ _ _ (by rw [hlen];exact hl)) (by omega) hnX (fun i hi => ?_) (fun i j hi hj => ?_) (fun i j hi hj => ?_)
   ·have:(l.map rI).getD i []=rI (l.getD i 0):=by simp [Lz,LA (show i<l.length by omega)]
    rw [this];rfl
   ·have:=Lib.bytesWorld_cell w e ⟨l.toArray⟩ i (by rw [size_mk];omega);rw [show 0+(i*1+j)=i by omega];simpa using this
   ·have:(l.map rI).getD i []=rI (l.getD i 0):=by simp [Lz,LA (show i<l.length by omega)]
    rw [this,show j=0 by omega];exact .int _ _
def tq (P:Program) (s:AS):Op→Option AV
 | .convert src dst x=>match s.op x,E6 P dst with
  | .str l,some e=>match Fl P e with
   | some .u8=>bif isStr P src then some (.dslice (l.map rI)) else none
   | _=>none
  | _,_=>none
 | _=>none
theorem z7 (hg:gd ops s o=some true) {v:AV} (hv:tq P s o.op=some v) {s':AS} (h:s.put o.dst v=some s'):mA P ops o s (· = s'):=by
 unfold tq at hv;split at hv
 ·rename_i src dst x hop;split at hv
  ·rename_i l e hx hd;split at hv
   ·rename_i he;cases hb:isStr P src with
    | false=>rw [hb] at hv;cases hv
    | true=>rw [hb] at hv;cases hv;exact Gh hg hop hb hd he hx h
   ·cases hv
  ·cases hv
 ·cases hv
end
section
variable {P:Program} {ops:Array Oper} {o:Oper} {s:AS}
theorem G.dmap_inv {w:World} {X:Nat→Prop} {β:Nat→Nat} {κ:Nat→Nat×Nat} {es:List (Key×AV)} {V:Value} (h:G w X β κ (.dmap es) V):D w X (.dmap es) V:=by cases h with | d h=>exact h
def Ca (P:Program) (s:AS) (t:TypeId) (m:AV) (k:Nat):Option AS :=
 match m with
 | .dmap es=>if isMap P t then s.fresh k (.iter es []) (.hptr k 0) else none
 | _=>none
theorem FB {t:TypeId} {m:Operand} {k:Nat} (hg:gd ops s o=some true) (hop:o.op = .range t m) (hd:o.dst=some k) {s':AS} (h:Ca P s t (s.op m) k=some s'):mA P ops o s (· = s') :=
 cL hg fun c a w β κ r=>by
  have hm:=r.op m;unfold Ca at h;split at h
  ·rename_i es em;rw [em] at hm;obtain ⟨b,ents,clock,π,eV,hnX,hb,hM0⟩:=hm.dmap_inv.mapAt;split at h
   ·rename_i hM;obtain ⟨K,E,hu⟩:=rn hM;have hblt:b<w.heap.size:=(Array.getElem?_eq_some_iff.1 hb).1;have hXin:∀ b',¬ c.XX s.h β b'→b'<w.heap.size→¬ c.XX (ins k (.iter es []) (fZ k s.h)) (upd β k w.heap.size) b':=by
     rintro b' hb' hlt (hx | ⟨j,hl,hj⟩)
     ·exact hb' (.inl hx)
     ·have hk6:k<1000000:=by have h:=h;unfold AS.fresh at h;obtain ⟨hc,_⟩:=gH h;simp only [LB,Nat.blt_eq] at hc;omega
      rcases fV (o:=.iter es []) hk6 (fun _ h=>h) hl with ⟨ej,_⟩ | ⟨ej,hl⟩
      ·subst ej;rw [aD] at hj;omega
      ·rw [ow] at hl;rw [bA β ej] at hj;exact hb' (.inr ⟨j,hl,hj⟩)
    have hold:∀ i,i<w.heap.size→(w.alloc (.mapIter (some b) clock #[] clock)).heap[i]? = w.heap[i]? := fun i hi=>gi w _ hi;refine ⟨.pointer (some ⟨w.heap.size,0,none⟩),w.alloc (.mapIter (some b) clock #[] clock),_,_,.inl ?_,by
     rw [hd];refine ox r h (Nat.le_refl _) hold (fD _ _ _ r.Klt) (cap:=(0,0)) ⟨b,ents,clock,#[],π,by rw [aD];exact lP w _,hXin _ hnX hblt,by rw [hold _ hblt,hb],hM0.mono (fun i _ hi=>hold i hi) hXin,rfl,fun i hi=>by cases hi⟩ ?_;have:=G.hptr (w:=w.alloc (.mapIter (some b) clock #[] clock)) (X:=c.XX (ins k (.iter es []) (fZ k s.h)) (upd β k w.heap.size)) (β:=upd β k w.heap.size) (κ:=upd κ k (0,0)) k 0
     rwa [aD] at this⟩
    simp only [execOp,hop,eV];simp [Instr.range,aU hu,dP hb,newObj,Result.andThen,go_sem];rfl
   ·cases h
  ·cases h
theorem CL {w:World} {X:Nat→Prop} {β:Nat→Nat} {κ:Nat→Nat×Nat} {k:Nat} {es:List (Key×AV)} {seen:List Nat} (h:HO w X β κ k (.iter es seen)) :
 ∃ (b:Nat) (ents:Array MapEntry) (clock:Nat) (sb:Array Nat) (π:Nat→Nat),w.heap[β k]? = some (.mapIter (some b) clock sb clock)∧¬ X b∧w.heap[b]? = some (.map ents clock)∧nK w X es ents clock π ∧
  sb.toList=seen.map (fun i=>(ents.getD (π i) default).born)∧(∀ i∈seen,i<es.length) ∧
  (∀ i j (hi:i<ents.size) (hj:j<ents.size),ents[i].born=ents[j].born→i=j)∧(∀ i,i<es.length→∃ h:π i<ents.size,ents.getD (π i) default=ents[π i])∧∀ i,i<es.length→(ents.getD (π i) default).born∈sb.toList→i∈seen:=by
 obtain ⟨b,ents,clock,sb,π,h1,h3,h4,hM,h5,h6⟩:=h;have hinj:∀ i j (hi:i<ents.size) (hj:j<ents.size),ents[i].born=ents[j].born→i=j:=by
  intro i j hi hj e;rcases Nat.lt_trichotomy i j with h | h | h
  ·have:=hM.born i j hi hj h;omega
  ·exact h
  ·have:=hM.born j i hj hi h;omega
 have hat:∀ i,i<es.length→∃ h:π i<ents.size,ents.getD (π i) default=ents[π i]:=fun i hi=>by have:=hM.lt i hi;have:=hM.size;exact ⟨by omega,by simp [LC,show π i<ents.size by omega]⟩
 have hpinj:∀ i j,i<es.length→j<es.length→π i=π j→i=j:=fun i j hi hj e=>by
  have h1:=(hM.key i hi).1;have h2:=(hM.key j hj).1;rw [e,h2] at h1;have hk:=Key.val_inj.1 h1;have hn:=hM.keys.1;rw [List.nodup_iff_pairwise_ne,List.pairwise_iff_getElem] at hn;have e2:(es.map (·.1))[i]'(by simpa using hi)=(es.map (·.1))[j]'(by simpa using hj):=by
   have ge:∀ {i:Nat} (hi:i<es.length),es.getD i default=es[i]:=fun {i} hi=>by simp [Lz,hi]
   rw [ge hi,ge hj] at hk;simp only [List.getElem_map];exact hk.symm
  rcases Nat.lt_trichotomy i j with g | g | g
  ·exact absurd e2 (hn i j (by simpa using hi) (by simpa using hj) g)
  ·exact g
  ·exact absurd e2.symm (hn j i (by simpa using hj) (by simpa using hi) g)
 refine ⟨b,ents,clock,sb,π,h1,h3,h4,hM,h5,h6,hinj,hat,fun i hi hm => ?_⟩;rw [h5,List.mem_map] at hm;obtain ⟨j,hj,e⟩:=hm;have hj2:=h6 j hj;obtain ⟨a1,a2⟩:=hat i hi;obtain ⟨b1,b2⟩:=hat j hj2;rw [a2,b2] at e;rw [← hpinj j i hj2 hi (hinj _ _ b1 a1 e)];exact hj
theorem Iq {it:Operand} {k:Nat} (hg:gd ops s o=some true) (hop:o.op = .next it false) (hi:s.op it = .hptr k 0) {es:List (Key×AV)} {seen:List Nat} (hk:lk .gone s.h k = .iter es seen) {N:AS→Prop}
 (hN0:(∀ i,i<es.length→i∈seen)→∃ s',s.put o.dst (.tup [.bool false])=some s'∧N s')
 (hN1:∀ i,i<es.length→i ∉ seen→∃ s',AS.put ⟨s.n,s.t,ins k (.iter es (seen++[i])) s.h⟩ o.dst (.tup [.bool true,(es.getD i default).1.av,(es.getD i default).2])=some s'∧N s'):mA P ops o s N:=fun c a w β κ r K Q hK=>by
 rw [oo r hg];simp only [if_true];have hit:=r.op it;rw [hi] at hit;have ho:=r.hp.ob k;rw [hk] at ho;have hlive:(lk .gone s.h k).live:=by rw [hk];trivial
 obtain ⟨b,ents,clock,sb,π,h1,h3,h4,hM,h5,h6,hinj,hat,hmem⟩:=CL ho;have hold:∀ x∈ents.toList,x.born<clock:=by
  intro x hx;obtain ⟨i,hi,rfl⟩:=List.getElem_of_mem hx;have hi':i<ents.size:=by simpa using hi
  obtain ⟨i0,hi0,rfl⟩:=hM.onto i (by have:=hM.size;omega);obtain ⟨a1,a2⟩:=hat i0 hi0;rw [Array.getElem_toList,← a2];exact (hM.key i0 hi0).2
 unfold Oper.wp;have hrun:=run_next_at (P:=P) w o.type (β k) b clock clock sb ents clock h1 h4 hold (Nat.le_refl _);rcases hrun with ⟨hl,hr⟩ | ⟨e,he,w1,hw1,hr⟩
 ·have hex:(execOp a.eval o).run P w = .ok (.value (.tuple #[.bool false])) w:=by simp [execOp,hop,hit.hptr_inv,hr,Result.andThen]
  rw [hex];obtain ⟨s',e1,e2⟩:=hN0 fun i hi=>by
   obtain ⟨hi',a2⟩:=hat i hi;refine hmem i hi ?_;apply Classical.byContradiction;intro hc;rw [a2] at hc;have:ents[π i]∈leftOf ents sb:=by unfold leftOf;rw [Array.mem_filter];exact ⟨by simp,by simpa using hc⟩
   rw [Array.eq_empty_of_size_eq_zero hl] at this;simp at this
  refine hK s' _ w β κ e2 (cZ r (.d (.tup _ _ rfl fun i hi => ?_)) e1);have:i=0:=by simp at hi;omega
  subst this;exact .bool false
 ·have hex:(execOp a.eval o).run P w = .ok (.value (.tuple #[.bool true,e.key,e.val])) (ChangeMaps.setBlock w1 (β k) (.mapIter (some b) clock (sb.push e.born) clock)):=by simp [execOp,hop,hit.hptr_inv,hr,Result.andThen]
  rw [hex];obtain ⟨m1,m2⟩:=mem_left he;obtain ⟨i0,hi0,rfl⟩:=List.getElem_of_mem m1;have hi0':i0<ents.size:=by simpa using hi0
  obtain ⟨i,hies,rfl⟩:=hM.onto i0 (by have:=hM.size;omega);obtain ⟨hi',hgi⟩:=hat i hies;rw [Array.getElem_toList] at m2 ⊢;have hns:i ∉ seen:=fun hc=>by
   have:ents[π i].born∈sb.toList:=by rw [h5,← hgi];exact List.mem_map.2 ⟨i,hc,rfl⟩
   rw [← Bool.not_eq_true] at m2;exact m2 (by simpa using this)
  obtain ⟨s',e1,e2⟩:=hN1 i hies hns;have r1:Rel c s a w1 β κ:=by
   rcases hw1 with rfl | rfl
   ·exact r
   ·exact r.drew
  have hheap:w1.heap=w.heap:=by rcases hw1 with rfl | rfl<;>rfl
  have h1':w1.heap[β k]? = some (.mapIter (some b) clock sb clock):=by rw [hheap];exact h1
  have hlt:β k<w1.heap.size:=(Array.getElem?_eq_some_iff.1 h1').1;have hne:∀ j,j≠β k→(ChangeMaps.setBlock w1 (β k) (.mapIter (some b) clock (sb.push ents[π i].born) clock)).heap[j]? = w1.heap[j]? := fun j hj=>by simp [ChangeMaps.setBlock,Array.getElem?_setIfInBounds,Ne.symm hj]
  have hbk:b≠β k:=fun e=>h3 (.inr ⟨k,.inl hlive,e.symm⟩);have hw:∀ j,¬ c.XX s.h β j→j<w.heap.size→(ChangeMaps.setBlock w1 (β k) (.mapIter (some b) clock (sb.push ents[π i].born) clock)).heap[j]? = w.heap[j]? := fun j hj _=>by rw [hne j (fun e=>hj (.inr ⟨k,.inl hlive,e.symm⟩)),hheap]
  have r2:Rel c ⟨s.n,s.t,ins k (.iter es (seen++[i])) s.h⟩ a (ChangeMaps.setBlock w1 (β k) (.mapIter (some b) clock (sb.push ents[π i].born) clock)) β κ:=by
   refine r1.replace hlive (ob:=.iter es (seen++[i])) trivial hne ⟨rfl,rfl,rfl,by simp [ChangeMaps.setBlock],fun j hj=>hne j hj⟩ fun _ _ => ?_;refine ⟨b,ents,clock,sb.push ents[π i].born,π,by simp [ChangeMaps.setBlock,hlt],h3,by rw [hne b hbk,hheap];exact h4,hM.mono hw (fun _ h _=>h),?_,fun j hj => ?_⟩
   ·rw [Array.toList_push,h5,List.map_append,List.map_cons,List.map_nil,hgi]
   ·rcases List.mem_append.1 hj with hj | hj
    ·exact h6 j hj
    ·simp only [List.mem_singleton] at hj;omega
  have hown:c.XX (ins k (.iter es (seen++[i])) s.h) β=c.XX s.h β:=ux c β (by rw [hk];exact Iff.rfl) (fun j=>by rw [hk];exact Iff.rfl);refine hK s' _ _ β κ e2 (cZ r2 (.d (.tup _ _ rfl fun j hj => ?_)) e1);have hj':j=0∨j=1∨j=2:=by simp at hj;omega
  have hX2:∀ j,¬ c.XX s.h β j→j<w.heap.size→¬ c.XX (ins k (.iter es (seen++[i])) s.h) β j:=fun j hj _=>by rw [hown];exact hj
  rcases hj' with rfl | rfl | rfl
  ·exact .bool true
  ·show D _ _ (es.getD i default).1.av ents[π i].key;rw [← hgi,(hM.key i hies).1];refine Key.D (hM.keys.2 _ (List.mem_map.2 ⟨es.getD i default,?_,rfl⟩));rw [Lz,LA hies];exact List.getElem_mem _
  ·have:=hM.val i hies;rw [hgi] at this;exact this.mono hw hX2
theorem FZ {it:Operand} {k:Nat} (hg:gd ops s o=some true) (hop:o.op = .entry it) (hi:s.op it = .hptr k 0) {es:List (Key×AV)} {sn:List Nat} (hk:lk .gone s.h k = .iter es sn) {i:Nat} (hl:sn.getLast? = some i)
 {s':AS} (h:s.put o.dst (.tup [(es.getD i default).1.av,(es.getD i default).2])=some s'):mA P ops o s (· = s') :=
 cL hg fun c a w β κ r=>by
  have hit:=r.op it;rw [hi] at hit;have ho:=r.hp.ob k;rw [hk] at ho;obtain ⟨b,ents,clock,sb,π,h1,h3,h4,hM,h5,h6,hinj,hat,hmem⟩:=CL ho;obtain ⟨seen,rfl⟩:∃ seen,sn=seen++[i]:=⟨sn.dropLast,by
   have hne:sn≠[]:=by rintro rfl;cases hl
   rw [List.getLast?_eq_some_getLast hne] at hl;rw [← LM hl,List.dropLast_concat_getLast hne]⟩
  have hies:i<es.length:=h6 i (by simp);obtain ⟨hi',hgi⟩:=hat i hies;have hsb:sb=(seen.map (fun i=>(ents.getD (π i) default).born)).toArray.push ents[π i].born:=by apply Array.toList_inj.1;rw [h5,List.map_append,List.map_cons,List.map_nil,Array.toList_push,hgi]
  have hnd:(ents.toList.map (·.born)).Nodup:=by
   rw [List.nodup_iff_pairwise_ne,List.pairwise_iff_getElem];intro x y hx hy hlt he;have hx':x<ents.size:=by simpa using hx
   have hy':y<ents.size:=by simpa using hy
   have:=hinj x y hx' hy' (by simpa using he);omega
  rw [hsb] at h1;have hrun:=run_entry_at (P:=P) w (β k) b clock _ ents clock ents[π i] h1 h4 (by simp) hnd;refine ⟨_,w,β,κ,.inl ?_,cZ r (.d (.tup _ #[ents[π i].key,ents[π i].val] rfl fun j hj => ?_)) h⟩
  ·simp [execOp,hop,hit.hptr_inv,hrun,Result.andThen]
  ·have hj':j=0∨j=1:=by simp at hj;omega
   rcases hj' with rfl | rfl
   ·show D _ _ (es.getD i default).1.av ents[π i].key;rw [← hgi,(hM.key i hies).1];refine Key.D (hM.keys.2 _ (List.mem_map.2 ⟨es.getD i default,?_,rfl⟩));rw [Lz,LA hies];exact List.getElem_mem _
   ·have:=hM.val i hies;rw [hgi] at this;exact this
def wv (P:Program) (t:TypeId) (m x:AV):Option (Prop×AV) :=
 match m,x.key with
 | .dmap es,some x=>match P.underlying t with
  | some (.map K E)=>match zeroOf P E with
   | some z=>bif x.fits (P.underlying K) then some (∀ p∈es,p.1.kind=x.kind,vh x (AV.ez (AV.of z)) es) else none
   | none=>none
  | _=>none
 | _,_=>none
theorem yk {c:Cx P} {w:World} {β:Nat→Nat} {κ:Nat→Nat×Nat} {t:TypeId} {m x v:AV} {M X:Value} {p:Prop} (hm:G w (c.XX s.h β) β κ m M) (hx:G w (c.XX s.h β) β κ x X) (h:wv P t m x=some (p,v)) (hp:p) :
 ∃ V,(Instr.lookup t M X false).run P w = .ok V w∧G w (c.XX s.h β) β κ v V:=by
 unfold wv at h;split at h
 ·rename_i es x ex;split at h
  ·rename_i K E hu;split at h
   ·rename_i z hz;cases hc:x.fits (P.underlying K) with
    | false=>rw [hc] at h;cases h
    | true =>
    rw [hc] at h;cases h;have hK:=Key.fits_spec hc;obtain ⟨b,ents,clock,π,eV,_,h1,hM⟩:=hm.dmap_inv.mapAt;rw [eV,(hx.key_inv ex).1];have hck:∀ e,(Instr.checkKey e 10000 K x.val).run P w = .ok () w:=fun e=>MapKept.run_checkKey (k:=x.val) hK x.is e 9999;rcases zA (P:=P) (w:=w) hM.size hM.lt hM.onto (fun i hi=>(hM.key i hi).1) x hp hK with ⟨f1,f2⟩ | ⟨i,hj,hi,f1,f2⟩
    ·refine ⟨z,?_,?_⟩
     ·simp [Instr.lookup,aU hu,dP h1,hck,f1,nP hz,Result.andThen]
     ·rw [qu f2];exact .d (D.of w _ z).ez
    ·refine ⟨ents[π i].val,?_,?_⟩
     ·simp [Instr.lookup,aU hu,dP h1,hck,f1,Result.andThen]
     ·rw [uF hM.keys.1 hi f2];have:=hM.val i hi;rw [show ents.getD (π i) default=ents[π i] by simp [LC,hj]] at this;exact .d this
   ·cases h
  ·cases h
 ·cases h
theorem Gi {t:TypeId} {m x:Operand} (hg:gd ops s o=some true) (hop:o.op = .lookup t m x false) {v:AV} {p:Prop} (hv:wv P t (s.op m) (s.op x)=some (p,v)) (hp:p) {s':AS} (h:s.put o.dst v=some s'):mA P ops o s (· = s') :=
 cL hg fun c a w β κ r=>by obtain ⟨V,hr,hG⟩:=yk (r.op m) (r.op x) hv hp;refine ⟨V,w,β,κ,.inl ?_,cZ r hG h⟩;simp [execOp,hop,hr,Result.andThen]
theorem Ec {t:TypeId} {m x:Operand} (hg:gd ops s o=some true) (hop:o.op = .lookup t m x false) {v:AV} {p:Prop} (hv:wv P t (s.op m) (s.op x)=some (p,v)) (hp:p) {s1:AS} (h:s.put o.dst v=some s1):Loc P ops o s (.put o.dst v) :=
 lS rfl h fun s' ha _ h2=>Gi (by rw [cT ha];exact hg) hop (by
  rw [bH ha (x:=m) (by simp [hop,Op.operands]),bH ha (x:=x) (by simp [hop,Op.operands])];exact hv) hp h2
def yG (P:Program) (s:AS) (t:TypeId) (m:AV) (k:Nat):Option AS :=
 match m with
 | .amap j=>match lk .gone s.h j with
  | .smap _ _ []=>bif isMap P t && !Nat.beq j k then s.fresh k (.eit [.amap j]) (.hptr k 0) else none
  | _=>none
 | _=>none
theorem EP {t:TypeId} {m:Operand} {k:Nat} (hg:gd ops s o=some true) (hop:o.op = .range t m) (hd:o.dst=some k) {s':AS} (h:yG P s t (s.op m) k=some s'):mA P ops o s (· = s') :=
 cL hg fun c a w β κ r=>by
  have hm:=r.op m;unfold yG at h;split at h
  ·rename_i j em;rw [em] at hm;split at h
   ·rename_i kd E0 hj;obtain ⟨hc,h⟩:=gH h;rw [LB] at hc;obtain ⟨K,E,hu⟩:=rn hc.1;have hne:j≠k:=fun e=>by have:=hc.2;rw [e] at this;simp at this
    have ho:=r.hp.ob j;rw [hj] at ho;obtain ⟨ents,clock,h1,h2,_⟩:=ho;have hold:∀ i,i<w.heap.size→(w.alloc (.mapIter (some (β j)) clock #[] clock)).heap[i]? = w.heap[i]? := fun i hi=>gi w _ hi;have hG:∀ {X:Nat→Prop},G (w.alloc (.mapIter (some (β j)) clock #[] clock)) X (upd β k w.heap.size) (upd κ k (0,0)) (.amap j) (.map (some (β j))):=fun {X}=>by
     have:=G.amap (w:=w.alloc (.mapIter (some (β j)) clock #[] clock)) (X:=X) (β:=upd β k w.heap.size) (κ:=upd κ k (0,0)) j
     rwa [bA β hne] at this
    refine ⟨.pointer (some ⟨w.heap.size,0,none⟩),w.alloc (.mapIter (some (β j)) clock #[] clock),_,_,.inl ?_,by
     rw [hd];refine ox r h (Nat.le_refl _) hold (fD _ _ _ r.Klt) (cap:=(0,0)) ⟨β j,clock,by rw [aD];exact lP w _,fun i hi => ?_⟩ ?_
     ·have:i=0:=by simp at hi;omega
      subst this;exact hG
     have:=G.hptr (w:=w.alloc (.mapIter (some (β j)) clock #[] clock)) (X:=c.XX (ins k (.eit [.amap j]) (fZ k s.h)) (upd β k w.heap.size)) (β:=upd β k w.heap.size) (κ:=upd κ k (0,0)) k 0
     rwa [aD] at this⟩
    simp only [execOp,hop,hm.amap_inv];simp [Instr.range,aU hu,dP h1,newObj,Result.andThen,go_sem];rfl
   ·cases h
  ·cases h
def BB (s:AS) (it:AV):Option AV :=
 match it with
 | .hptr k 0=>match lk .gone s.h k with
  | .eit [.amap j]=>match lk .gone s.h j with
   | .smap _ _ []=>some (.tup [.bool false])
   | _=>none
  | _=>none
 | _=>none
theorem G7 {it:Operand} (hg:gd ops s o=some true) (hop:o.op = .next it false) {v:AV} (hv:BB s (s.op it)=some v) {s':AS} (h:s.put o.dst v=some s'):mA P ops o s (· = s') :=
 cL hg fun c a w β κ r=>by
  unfold BB at hv;split at hv
  ·rename_i k hi;split at hv
   ·rename_i j hk;split at hv
    ·rename_i kd E0 hj;cases hv;have hit:=r.op it;rw [hi] at hit;have ho:=r.hp.ob k;rw [hk] at ho;obtain ⟨b,clock,h1,h3⟩:=ho;have hb:=(h3 0 (by simp)).amap_inv;have ho2:=r.hp.ob j;rw [hj] at ho2;obtain ⟨ents,clock2,h4,h5,_⟩:=ho2;have he:ents = #[]:=Array.eq_empty_of_size_eq_zero (by simpa using h5);subst he;have hbb:b=β j:=by simpa using hb
     subst hbb;refine ⟨.tuple #[.bool false],w,β,κ,.inl ?_,cZ r (.d (.tup _ _ rfl fun i hi => ?_)) h⟩
     ·rcases run_next_at (P:=P) w o.type (β k) (β j) clock clock #[] #[] clock2 h1 h4 (by simp) (Nat.le_refl _) with ⟨_,hr⟩ | ⟨e,he,_⟩
      ·simp [execOp,hop,hit.hptr_inv,hr,Result.andThen]
      ·simp [leftOf] at he
     ·have:i=0:=by simp at hi;omega
      subst this;exact .bool false
    ·cases hv
   ·cases hv
  ·cases hv
end
def dz {α:Type} (f:α→α):Nat→List α→List α
 | _,[]=>[]
 | 0,x::xs=>f x::xs
 | i+1,x::xs=>x::dz f i xs
theorem bp {α:Type} (f:α→α):∀ (i:Nat) (l:List α),(dz f i l).length=l.length
 | _,[]=>by simp [dz]
 | 0,x::xs=>by simp [dz]
 | i+1,x::xs=>by simp [dz,bp f i xs]
theorem vD {α:Type} (f:α→α) (d:α):∀ (i:Nat) (l:List α) (j:Nat),(dz f i l).getD j d=l.getD j d∨(dz f i l).getD j d=f (l.getD j d)
 | _,[],j=>by simp [dz]
 | 0,x::xs,0=>by simp [dz]
 | 0,x::xs,j+1=>by simp [dz]
 | i+1,x::xs,0=>by simp [dz]
 | i+1,x::xs,j+1=>by simpa [dz] using vD f d i xs j
def AV.wk0:AV→AV
 | .eslice=>.dslice []
 | v=>v
def AV.at (f:AV→AV) (i j:Nat):AV→AV
 | .agg cs=>.agg (dz f i cs)
 | .tup cs=>.tup (dz f i cs)
 | .fn g cs=>.fn g (dz f i cs)
 | .dptr cs=>.dptr (dz f i cs)
 | .dslice xs=>.dslice (dz (dz f j) i xs)
 | v=>v
def AV.wk:List (Nat×Nat)→AV→AV
 | []=>AV.wk0
 | (i,j)::p=>AV.at (AV.wk p) i j
theorem eG {α:Type} {f:α→α} {d:α} {R:α→Prop} (hf:∀ x,R x→R (f x)) (i:Nat) (l:List α) (j:Nat) (h:R (l.getD j d)):R ((dz f i l).getD j d):=by
 rcases vD f d i l j with e | e
 ·rw [e];exact h
 ·rw [e];exact hf _ h
theorem D.wk0 {w:World} {X:Nat→Prop} {v:AV} {V:Value} (h:D w X v V):D w X (AV.wk0 v) V:=by
 unfold AV.wk0;split
 ·cases h with | eslice a=>exact .dnil a 0 (Nat.zero_le _)
 ·exact h
theorem D.at {w:World} {X:Nat→Prop} {f:AV→AV} (hf:∀ v V,D w X v V→D w X (f v) V) (i j:Nat) {v:AV} {V:Value} (h:D w X v V):D w X (AV.at f i j v) V:=by
 unfold AV.at;split
 ·cases h with | agg cs vs hl hg=>exact .agg _ vs (by rw [bp];exact hl) fun j hj=>eG (R:=fun x=>D w X x (vs.getD j undef)) (fun x hx=>hf _ _ hx) i _ j (hg j (by rw [bp] at hj;exact hj))
 ·cases h with | tup cs vs hl hg=>exact .tup _ vs (by rw [bp];exact hl) fun j hj=>eG (R:=fun x=>D w X x (vs.getD j undef)) (fun x hx=>hf _ _ hx) i _ j (hg j (by rw [bp] at hj;exact hj))
 ·cases h with | fn g cs vs hl hg=>exact .fn _ _ vs (by rw [bp];exact hl) fun j hj=>eG (R:=fun x=>D w X x (vs.getD j undef)) (fun x hx=>hf _ _ hx) i _ j (hg j (by rw [bp] at hj;exact hj))
 ·cases h with | dptr cs b o cv h0 h1 h2 h3=>exact .dptr _ b o cv (by rw [bp];exact h0) h1 (fun j hj=>h2 j (by rw [bp] at hj;exact hj)) fun j hj=>eG (R:=fun x=>D w X x (cv j)) (fun x hx=>hf _ _ hx) i _ j (h3 j (by rw [bp] at hj;exact hj))
 ·rename_i xs;cases h with
  | dnil a cap hc=>cases i<;>exact .dnil a cap hc
  | dslice _ b o cap sz cv h1 h2 h0 h3 h4 h5 h6 =>
   have key:∀ a,((dz (dz f j) i xs).getD a []).length=(xs.getD a []).length:=fun a =>
    eG (R:=fun x=>x.length=(xs.getD a []).length) (fun x hx=>by rw [bp];exact hx) i xs a rfl
   have key2:∀ a k,a<xs.length→k<sz→D w X (((dz (dz f j) i xs).getD a []).getD k .any) (cv a k):=fun a k ha hk =>
    eG (R:=fun x=>D w X (x.getD k .any) (cv a k)) (fun x hx=>eG (R:=fun y=>D w X y (cv a k)) (fun y hy=>hf _ _ hy) j x k hx) i xs a (h6 a k ha hk)
   have hl:=bp (dz f j) i xs;rw [← hl];exact .dslice _ b o cap sz cv (by rw [bp];exact h1) h2 h0 h3 (fun a ha=>by rw [key];exact h4 a (by rw [bp] at ha;exact ha))
    (fun a k ha hk=>h5 a k (by rw [bp] at ha;exact ha) hk) (fun a k ha hk=>key2 a k (by rw [bp] at ha;exact ha) hk)
 ·exact h
theorem D.wk {w:World} {X:Nat→Prop}:∀ (p:List (Nat×Nat)) {v:AV} {V:Value},D w X v V→D w X (AV.wk p v) V
 | [],_,_,h=>h.wk0
 | (i,j)::p,_,_,h=>D.at (fun _ _ h=>D.wk p h) i j h
theorem G.wk {w:World} {X:Nat→Prop} {β:Nat→Nat} {κ:Nat→Nat×Nat}:∀ (p:List (Nat×Nat)) {v:AV} {V:Value},G w X β κ v V→G w X β κ (AV.wk p v) V
 | [],v,V,h=>by
  cases h with
  | d h=>exact .d h.wk0
  | hptr k o=>exact .hptr k o
  | rslice k h=>exact .rslice k h
  | rslice0 k a h=>exact .rslice0 k a h
  | gslice k=>exact .gslice k
  | rref k j h h2=>exact .rref k j h h2
  | rref0 k oj a h=>exact .rref0 k oj a h
  | amap k=>exact .amap k
  | bm f k o=>exact .bm f k o
  | fn f cs vs h1 h2=>exact .fn f cs vs h1 h2
  | agg cs vs h1 h2=>exact .agg cs vs h1 h2
  | tup cs vs h1 h2=>exact .tup cs vs h1 h2
 | (i,j)::p,v,V,h=>by
  cases h with
  | d h=>exact .d (h.wk _)
  | hptr k o=>exact .hptr k o
  | rslice k h=>exact .rslice k h
  | rslice0 k a h=>exact .rslice0 k a h
  | gslice k=>exact .gslice k
  | rref k j h h2=>exact .rref k j h h2
  | rref0 k oj a h=>exact .rref0 k oj a h
  | amap k=>exact .amap k
  | bm f k o=>exact .bm f k o
  | fn f cs vs h1 h2=>exact .fn _ _ vs (by rw [bp];exact h1) fun j hj=>eG (R:=fun x=>G w X β κ x (vs.getD j undef)) (fun x hx=>G.wk p hx) i cs j (h2 j (by rw [bp] at hj;exact hj))
  | agg cs vs h1 h2=>exact .agg _ vs (by rw [bp];exact h1) fun j hj=>eG (R:=fun x=>G w X β κ x (vs.getD j undef)) (fun x hx=>G.wk p hx) i cs j (h2 j (by rw [bp] at hj;exact hj))
  | tup cs vs h1 h2=>exact .tup _ vs (by rw [bp];exact h1) fun j hj=>eG (R:=fun x=>G w X β κ x (vs.getD j undef)) (fun x hx=>G.wk p hx) i cs j (h2 j (by rw [bp] at hj;exact hj))
def AS.wkT (s:AS) (t:Nat) (p:List (Nat×Nat)):AS:=⟨s.n,ins t (AV.wk p (lk .any s.t t)) s.t,s.h⟩
theorem Rel.wkT {P:Program} {c:Cx P} {s:AS} {a:Act} {w:World} {β:Nat→Nat} {κ:Nat→Nat×Nat} (r:Rel c s a w β κ) (t:Nat) (p:List (Nat×Nat)):Rel c (s.wkT t p) a w β κ:=by
 refine ⟨r.df,r.sz,fun i => ?_,r.hp⟩;show G w _ β κ (lk .any (ins t _ s.t) i) _;rw [be];by_cases h:i=t
 ·subst h;rw [if_pos rfl];exact (r.tm i).wk p
 ·rw [if_neg h];exact r.tm i
def sC:List (Nat×List (Nat×Nat))→List AV→List AV
 | [],xs=>xs
 | (i,p)::ps,xs=>sC ps (dz (AV.wk p) i xs)
theorem rq:∀ (ps:List (Nat×List (Nat×Nat))) (xs:List AV),(sC ps xs).length=xs.length
 | [],xs=>rfl
 | (i,p)::ps,xs=>by rw [sC,rq ps,bp]
theorem Ag {w:World} {X:Nat→Prop} {β:Nat→Nat} {κ:Nat→Nat×Nat} {V:Value} {j:Nat}:∀ (ps:List (Nat×List (Nat×Nat))) (xs:List AV),G w X β κ (xs.getD j .any) V→G w X β κ ((sC ps xs).getD j .any) V
 | [],xs,h=>h
 | (i,p)::ps,xs,h=>Ag ps _ (eG (R:=fun x=>G w X β κ x V) (fun x hx=>hx.wk p) i xs j h)
theorem bY.wk {P:Program} {f:FuncId} {args:List AV} {h:List (Nat×AO)} {Q:AV→List (Nat×AO)→Prop} (ps:List (Nat×List (Nat×Nat))) (hc:bY P f (sC ps args) h Q):bY P f args h Q :=
 fun c vs hl hr hg=>hc c vs (by rw [rq];exact hl) hr fun i hi=>Ag ps args (hg i (by rw [rq] at hi;exact hi))
def aL (n:Int):Int:=IntKind.i64.wrap n
theorem qj {n:Int} (h:xi n):aL n=n:=wrap64 h
def Ki (P:Program) (xs ys:List AV):List Field→Option Bool
 | []=>some true
 | f::fs=>bif f.name == "_" then none else bif Nat.blt f.offset xs.length&&Nat.blt f.offset ys.length then (match P.underlying f.type,xs.getD f.offset .any,ys.getD f.offset .any with
  | some (.int _),.int k a,.int k' b=>bif decide (k=k') then (match Ki P xs ys fs with | some r=>some ((a==b)&&r) | none=>none) else none
  | some .bool,.bool a,.bool b=>(match Ki P xs ys fs with | some r=>some ((a==b)&&r) | none=>none)
  | some .string,.str a,.str b=>(match Ki P xs ys fs with | some r=>some ((a==b)&&r) | none=>none)
  | _,_,_=>none) else none
def Kz (P:Program) (t:TypeId):Option (List Field):=match P.underlying t with | some (.struct fs)=>bif !P.stoodInHeld t && !P.eqGuardType P.depth t then some fs.toList else none | _=>none
def Dr (P:Program) (s:AS):Op→Option (Prop×AV)
 | .binOp op t x y _=>match s.op x,s.op y with
  | .agg xs,.agg ys=>match Kz P t with
   | some fs=>match Ki P xs ys fs with
    | some r=>match op with
     | .eql=>some (True,.bool r)
     | .neq=>some (True,.bool !r)
     | _=>none
    | none=>none
   | none=>none
  | .int .i64 a,.int .i64 b=>match op with
   | .add=>some (True,.int .i64 (aL (a+b)))
   | .sub=>some (True,.int .i64 (aL (a-b)))
   | .mul=>some (True,.int .i64 (aL (a*b)))
   | .quo=>some (b≠0,.int .i64 (aL (a.tdiv b)))
   | _=>none
  | _,_=>none
 | .unOp .neg _ x=>match s.op x with
  | .int .i64 a=>some (True,.int .i64 (aL (0-a)))
  | _=>none
 | .index t x i=>match s.op x,s.op i with
  | .agg cs,.int _ n=>match D8 P t with
   | some (len,e)=>match Dl P e,oC P e with
    | some false,some 1=>some (0≤n∧n<len∧n<cs.length,cs.getD n.toNat .any)
    | _,_=>none
   | none=>none
  | _,_=>none
 | _=>none
section
variable {P:Program} {ops:Array Oper} {o:Oper} {s:AS}
theorem kT {w:World} {t:TypeId} {vs:Array Value} {off:Nat} (hag:Dl P t=some false) (h:off<vs.size):(part t vs off).run P w = .ok (vs.getD off undef) w:=by simp [part,run_isAgg hag,LL h,LC,go_sem]
theorem qn {w:World} {X:Nat→Prop} {β:Nat→Nat} {κ:Nat→Nat×Nat} {xs ys:List AV} {Xs Ys:Array Value} (hx:xs.length=Xs.size) (hy:ys.length=Ys.size) (gx:∀ i,i<xs.length→G w X β κ (xs.getD i .any) (Xs.getD i undef)) (gy:∀ i,i<ys.length→G w X β κ (ys.getD i .any) (Ys.getD i undef)) (d:Nat) :
 ∀ (fs:List Field) (r:Bool),Ki P xs ys fs=some r→(Op.eqFields (d+1) Xs Ys fs).run P w = .ok r w
 | [],r,h=>by cases h;rfl
 | f::fs,r,h=>by
  unfold Ki at h;cases hn:f.name == "_" with
  | true=>rw [hn] at h;cases h
  | false =>
   rw [hn] at h;simp only [cond_false] at h;obtain ⟨hb,h⟩:=(show (Nat.blt f.offset xs.length&&Nat.blt f.offset ys.length)=true∧_ from by
    cases hb:(Nat.blt f.offset xs.length&&Nat.blt f.offset ys.length) with
    | true=>rw [hb] at h;exact ⟨rfl,h⟩
    | false=>rw [hb] at h;cases h)
   simp only [LB,Nat.blt_eq] at hb;have g1:=gx f.offset hb.1;have g2:=gy f.offset hb.2;have hne:f.name ≠ "_" := by simpa using hn
   simp only [Op.eqFields,ne_eq,hne,not_false_eq_true,if_true,Sem.run_bind];split at h
   ·rename_i k' k a k2 b hu e1 e2;rw [e1] at g1;rw [e2] at g2;have hag:Dl P f.type=some false:=by simp [Dl,hu]
    cases hk:decide (k=k2) with
    | false=>rw [hk] at h;cases h
    | true =>
     rw [hk] at h;have hk:=LF hk;subst hk;simp only [cond_true] at h;split at h
     ·rename_i r' hr;cases h;have q1:=kT (P:=P) (w:=w) (vs:=Xs) hag (by omega:f.offset<Xs.size);have q2:=kT (P:=P) (w:=w) (vs:=Ys) hag (by omega:f.offset<Ys.size);simp only [q1,q2,g1.int_inv,g2.int_inv,Result.andThen,run_equalIn_int w d f.type k k' a b hu];cases hab:a==b with
      | true=>simp [qn hx hy gx gy d fs r' hr]
      | false=>simp
     ·cases h
   ·rename_i a b hu e1 e2;rw [e1] at g1;rw [e2] at g2;have hag:Dl P f.type=some false:=by simp [Dl,hu]
    split at h
    ·rename_i r' hr;cases h;have q1:=kT (P:=P) (w:=w) (vs:=Xs) hag (by omega:f.offset<Xs.size);have q2:=kT (P:=P) (w:=w) (vs:=Ys) hag (by omega:f.offset<Ys.size);simp only [q1,q2,g1.bool_inv,g2.bool_inv,Result.andThen,run_equalIn_bool' w d f.type a b hu];cases hab:a==b with
     | true=>simp [qn hx hy gx gy d fs r' hr]
     | false=>simp
    ·cases h
   ·rename_i a b hu e1 e2;rw [e1] at g1;rw [e2] at g2;have hag:Dl P f.type=some false:=by simp [Dl,hu]
    split at h
    ·rename_i r' hr;cases h;have q1:=kT (P:=P) (w:=w) (vs:=Xs) hag (by omega:f.offset<Xs.size);have q2:=kT (P:=P) (w:=w) (vs:=Ys) hag (by omega:f.offset<Ys.size);simp only [q1,q2,g1.str_inv,g2.str_inv,Result.andThen,run_equalIn_string w d f.type _ _ hu,toList_mk];cases hab:a==b with
     | true=>simp [qn hx hy gx gy d fs r' hr]
     | false=>simp
    ·cases h
   ·cases h
theorem Es {c:Cx P} {a:Act} {w:World} {β:Nat→Nat} {κ:Nat→Nat×Nat} (r:Rel c s a w β κ) {op:Op} {p:Prop} {v:AV} (h:Dr P s op=some (p,v)) (hp:p) (dst:Option Tmp) (ty:TypeId) (pos:String) (af:Array Edge) (g:Option (Nat×Bool)) :
 CQ P c s a w β κ ⟨dst,op,ty,pos,af,g⟩ v:=by
 unfold Dr at h;split at h
 ·rename_i op t x y u;have hx:=r.op x;have hy:=r.op y;split at h
  ·rename_i xs ys ex ey;rw [ex] at hx;rw [ey] at hy;obtain ⟨Xs,eX,lx,gx⟩:=hx.agg_inv;obtain ⟨Ys,eY,ly,gy⟩:=hy.agg_inv;split at h
   ·rename_i fs hfs;unfold Kz at hfs;split at hfs
    ·rename_i fsA hu;cases hst:(!P.stoodInHeld t && !P.eqGuardType P.depth t) with
     | false=>rw [hst] at hfs;cases hfs
     | true =>
      rw [hst] at hfs;cases hfs;simp only [LB,Bool.not_eq_true'] at hst;have hfo:P.fieldsOf t=fsA:=by simp [Program.fieldsOf,hu]
      split at h
      ·rename_i rr hr;have hrun:=qn (w:=w) (X:=c.XX s.h β) (β:=β) (κ:=κ) lx ly gx gy 9998 fsA.toList rr hr;have hst2:=run_equalIn_struct (P:=P) w 9999 t Xs Ys (by rw [hfo];exact hu) hst.1;rw [hfo] at hst2;split at h
       ·cases h;refine ⟨_,?_,.d (.bool _)⟩;simp only [execOp,eX,eY,Sem.run_bind,run_eqGuard_agg w .eql t x y Xs Ys hst.2,Result.andThen,run_eql_struct,hst2,hrun];rfl
       ·cases h;refine ⟨_,?_,.d (.bool _)⟩;simp only [execOp,eX,eY,Sem.run_bind,run_eqGuard_agg w .neq t x y Xs Ys hst.2,Result.andThen,run_neq_struct,hst2,hrun];rfl
       ·cases h
      ·cases h
    ·cases hfs
   ·cases h
  ·rename_i m n ex ey;rw [ex] at hx;rw [ey] at hy;have ex:=hx.int_inv;have ey:=hy.int_inv;unfold CQ;generalize a.eval=ρ at ex ey ⊢;split at h
   ·cases h;refine ⟨_,?_,.d (.int _ _)⟩;simp [execOp,ex,ey,eqGuard,binOp,Op.intArith,go_sem]<;>rfl
   ·cases h;refine ⟨_,?_,.d (.int _ _)⟩;simp [execOp,ex,ey,eqGuard,binOp,Op.intArith,go_sem]<;>rfl
   ·cases h;refine ⟨_,?_,.d (.int _ _)⟩;simp [execOp,ex,ey,eqGuard,binOp,Op.intArith,go_sem]<;>rfl
   ·cases h;refine ⟨_,?_,.d (.int _ _)⟩;simp [execOp,ex,ey,eqGuard,binOp,Op.intDiv,go_sem];simp [hp,aL]
   ·cases h
  ·cases h
 ·rename_i t x;have hx:=r.op x;split at h
  ·rename_i n e;rw [e] at hx;cases h;refine dU rfl ⟨_,?_,.d (.int _ _)⟩;rw [hx.int_inv];simp only [Op.unary,Op.intArith];rfl
  ·cases h
 ·rename_i t x i;have hx:=r.op x;have hi:=r.op i;split at h
  ·rename_i cs k n ex ei;rw [ex] at hx;rw [ei] at hi;split at h
   ·rename_i len e hA;split at h
    ·rename_i hag hsz;cases h;obtain ⟨vs,eV,hl,hgs⟩:=hx.agg_inv;have hn:n.toNat<cs.length:=by omega
     have hap:apart P e cs (n.toNat*1)=some (cs.getD n.toNat .any):=by unfold apart;rw [hag,hsz];simp [hn]
     obtain ⟨V',hr,hg'⟩:=oY hl hgs hap (P:=P);refine dU rfl ⟨V',?_,hg'⟩;rw [hi.int_inv,eV];have h0:(0:Int)≤n∧n<(len:Int):=⟨hp.1,hp.2.1⟩;simp only [Instr.index,asIntOf,pure_bind,Sem.run_bind,aU (qp hA),Result.andThen,if_pos h0,run_sizeOf hsz];exact hr
    ·cases h
   ·cases h
  ·cases h
 ·cases h
theorem KO (hg:gd ops s o=some true) {p:Prop} {v:AV} (hv:Dr P s o.op=some (p,v)) (hp:p) {s':AS} (h:s.put o.dst v=some s'):mA P ops o s (· = s') :=
 cL hg fun c a w β κ r=>by obtain ⟨dst,op,ty,pos,af,g⟩:=o;obtain ⟨V,hr,hG⟩:=Es (P:=P) r hv hp dst ty pos af g;exact ⟨V,w,β,κ,.inl hr,cZ r hG h⟩
theorem DV {s':AS} {op:Op} (h1:∀ x∈op.operands,s'.op x=s.op x):Dr P s' op=Dr P s op:=by
 cases op;case binOp op t x y u=>simp only [Dr,h1 x (by simp [Op.operands]),h1 y (by simp [Op.operands])]
 case unOp u t x=>cases u<;>first | rfl | simp only [Dr,h1 x (by simp [Op.operands])]
 case index t x i=>simp only [Dr,h1 x (by simp [Op.operands]),h1 i (by simp [Op.operands])]
 all_goals rfl
theorem Gn (hg:gd ops s o=some true) {p:Prop} {v:AV} (hv:Dr P s o.op=some (p,v)) (hp:p) {s1:AS} (h:s.put o.dst v=some s1):Loc P ops o s (.put o.dst v) :=
 lS rfl h fun s' ha _ h2=>KO (by rw [cT ha];exact hg) (by rw [DV (fun x hx=>bH ha hx)];exact hv) hp h2
theorem kL.wkT {t:Nat} {v:AV} (p:List (Nat×Nat)) {s1 s2:AS} (e:kL ((eD.put (some t) v).app s1) s2):kL ((eD.put (some t) (AV.wk p v)).app s1) (s2.wkT t p):=by refine ⟨e.n,fun i => ?_,e.h⟩;have e1:∀ i,lk .any s2.t i=lk .any (ins t v s1.t) i:=e.t;show lk .any (ins t (AV.wk p (lk .any s2.t t)) s2.t) i=lk .any (ins t (AV.wk p v) s1.t) i;rw [be,be,e1,e1,be,be,if_pos rfl];split<;>rfl
end
section
variable {P:Program} {ops:Array Oper} {o:Oper} {s:AS}
def tR (P:Program) (s:AS) (t:TypeId) (x:AV) (n j:Nat):Option (Prop×AV) :=
 match x with
 | .hptr k o=>match lk .gone s.h k with
  | .row _ sz xs=>match Dl P t,oC P t with
   | some true,some m=>some (o=n*sz+j∧n<xs.length∧j+m≤sz,.agg (((xs.getD n []).drop j).take m))
   | some false,some _=>some (o=n*sz+j∧n<xs.length∧j+1≤sz,(xs.getD n []).getD j .any)
   | _,_=>none
  | _=>none
 | _=>none
theorem sR {c:Cx P} {a:Act} {w:World} {β:Nat→Nat} {κ:Nat→Nat×Nat} (r:Rel c s a w β κ) {k:Nat} {e:TypeId} {sz:Nat} {xs:List (List AV)} (hk:lk .gone s.h k = .row e sz xs) {n:Nat} (hn:n<xs.length) :
 (xs.getD n []).length=sz∧0<sz∧∃ cur:Array Value,w.heap[β k]? = some (.cells cur e (0,0))∧cur.size=(κ k).1*sz∧xs.length≤(κ k).1∧(κ k).1≤maxLen∧(∀ i,i<xs.length→(xs.getD i []).length=sz)∧∀ i j,i<xs.length→j<sz→i*sz+j<cur.size∧D w (c.XX s.h β) ((xs.getD i []).getD j .any) (cur.getD (i*sz+j) undef):=by
 have ho:=r.hp.ob k;rw [hk] at ho;have hx:xs≠[]:=by intro e;subst e;simp at hn
 obtain ⟨cur,h1,h2,h3,h4,h0,h5,h6⟩:=ho.2 hx;refine ⟨h5 n hn,h0,cur,h1,h2,h3,h4,h5,fun i j hi hj=>⟨?_,h6 i j hi hj⟩⟩;rw [h2];calc i*sz+j<i*sz+sz:=by omega
  _=(i+1)*sz:=by rw [Nat.add_mul,Nat.one_mul]
  _≤(κ k).1*sz:=Nat.mul_le_mul_right _ (by omega)
theorem zz {c:Cx P} {a:Act} {w:World} {β:Nat→Nat} {κ:Nat→Nat×Nat} (r:Rel c s a w β κ) {t:TypeId} {x v:AV} {X:Value} {n j:Nat} {p:Prop} (hg:G w (c.XX s.h β) β κ x X) (h:tR P s t x n j=some (p,v)) (hp:p) :
 ∃ V,(Instr.loadAt t X).run P w = .ok V w∧G w (c.XX s.h β) β κ v V:=by
 unfold tR at h;split at h
 ·rename_i k o;split at h
  ·rename_i e sz xs hk;split at h
   ·rename_i m hag hsz;cases h;obtain ⟨rfl,hn,hj⟩:=hp;obtain ⟨hl,h0,cur,h1,_,_,_,_,h2⟩:=sR r hk hn;rw [hg.hptr_inv];refine ⟨_,?_,.agg _ ((List.range m).map fun i=>cur.getD (n*sz+j+i) undef).toArray (by rw [List.length_take,List.length_drop,hl];simp;omega) fun i hi => ?_⟩
    ·have:=run_loadCells (P:=P) w ⟨β k,n*sz+j,none⟩ m (fun i=>cur.getD (n*sz+j+i) undef) (fun i hi=>by rw [mc];exact cW h1 (by have:=(h2 n (j+i) hn (by omega)).1;omega))
     simp only [Instr.loadAt,Instr.sureAddr,loadVar,pure_bind,Sem.run_bind,run_isAgg hag,run_sizeOf hsz,this,Result.andThen,if_true];rfl
    ·have hi':i<m:=by rw [List.length_take] at hi;omega
     rw [getD_take _ _ _ _ hi',fw];have:=(h2 n (j+i) hn (by omega)).2;rw [show n*sz+(j+i)=n*sz+j+i by omega] at this;simpa [LC,List.getElem?_map,hi'] using (G.d this:G w (c.XX s.h β) β κ _ _)
   ·rename_i m hag hsz;cases h;obtain ⟨rfl,hn,hj⟩:=hp;obtain ⟨hl,h0,cur,h1,_,_,_,_,h2⟩:=sR r hk hn;rw [hg.hptr_inv];refine ⟨cur.getD (n*sz+j) undef,?_,.d (h2 n j hn (by omega)).2⟩;have:=cW h1 (h2 n j hn (by omega)).1;simp [Instr.loadAt,Instr.sureAddr,loadVar,run_isAgg hag,this,go_sem]
   ·cases h
  ·cases h
 ·cases h
theorem Af {s':AS} {x:AV} {t:TypeId} {n j:Nat} (h:lH s s' x):tR P s' t x n j=tR P s t x n j:=by cases x<;>simp only [tR];case hptr k o=>rw [h k (by simp [AV.men])]
theorem FR {t:TypeId} {x:Operand} {n j:Nat} (hg:gd ops s o=some true) (hop:o.op = .load t x) {p:Prop} {v:AV} (hv:tR P s t (s.op x) n j=some (p,v)) (hp:p) {s':AS} (h:s.put o.dst v=some s'):mA P ops o s (· = s') :=
 cL hg fun c a w β κ r=>by obtain ⟨V,hr,hG⟩:=zz r (r.op x) hv hp;refine ⟨V,w,β,κ,.inl ?_,cZ r hG h⟩;simp only [execOp,hop,Sem.run_bind,hr,Result.andThen];rfl
theorem Ex {t:TypeId} {x:Operand} {n j:Nat} (hg:gd ops s o=some true) (hop:o.op = .load t x) {p:Prop} {v:AV} (hv:tR P s t (s.op x) n j=some (p,v)) (hp:p) {s1:AS} (h:s.put o.dst v=some s1):Loc P ops o s (.put o.dst v) :=
 lS rfl h fun s' ha _ h2=>FR (by rw [cT ha];exact hg) hop (by
  have hx:x∈o.op.operands:=by rw [hop];simp [Op.operands]
  rw [bH ha hx,Af (fun k hk=>ha.h (by rw [hop];rfl) x hx k hk)];exact hv) hp h2
def zf (P:Program) (s:AS) (t:TypeId) (x y:AV) (n j:Nat):Option (Prop×AS) :=
 match x,gI y,oC P t with
 | .hptr k o,some vs,some m=>match lk .gone s.h k with
  | .row e sz xs=>if vs.length=m∧vs.all (fun v=>v.one&&v.fl)=true then some (o=n*sz+j∧n<xs.length∧j+m≤sz,⟨s.n,s.t,ins k (.row e sz (xs.set n (ep (xs.getD n []) j vs))) s.h⟩) else none
  | _=>none
 | _,_,_=>none
theorem Fy {α:Type} (l:List α) (n:Nat) (x d:α) (i:Nat) (hn:n<l.length):(l.set n x).getD i d=if i=n then x else l.getD i d:=by
 simp only [Lz,List.getElem?_set];by_cases h:n=i
 ·subst h;simp [hn]
 ·rw [if_neg h,if_neg (fun e=>h e.symm)]
theorem yn {c:Cx P} {a:Act} {w:World} {β:Nat→Nat} {κ:Nat→Nat×Nat} (r:Rel c s a w β κ) {t:TypeId} {x y:AV} {X Y:Value} {n j:Nat} {p:Prop} (hx:G w (c.XX s.h β) β κ x X) (hy:G w (c.XX s.h β) β κ y Y) {s':AS} (h:zf P s t x y n j=some (p,s')) (hp:p) :
 ∃ w',(Instr.storeAt t X Y).run P w = .ok () w'∧Rel c s' a w' β κ:=by
 unfold zf at h;split at h
 ·rename_i k off vs m hvs hm;split at h
  ·rename_i e sz xs hk;split at h
   ·rename_i hc;obtain ⟨hc1,hc3⟩:=hc;cases h;obtain ⟨rfl,hn,hj⟩:=hp;obtain ⟨hl,h0,cur,h1,hcs,hcap1,hcap2,hall,h2⟩:=sR r hk hn;obtain ⟨g1,g2⟩:=kJ hy hvs;have hfl:∀ i,i<vs.length→(vs.getD i .any).one=true∧(vs.getD i .any).fl=true:=by intro i hi;have:=LN.1 hc3 (vs.getD i .any) (by rw [Lz,LA hi];exact List.getElem_mem _);simpa [LB] using this
    have hone:∀ v∈Y.cells.toList,v.oneCell'=true:=by
     intro v hv;obtain ⟨i,hi,rfl⟩:=List.getElem_of_mem hv;have hi':i<Y.cells.size:=by simpa using hi
     have:=g2 i (by omega);have e1:Y.cells.getD i undef=Y.cells.toList[i]:=by simp [LC,LL hi']
     rw [e1] at this;exact this.one (hfl i (by omega)).1
    have hend:n*sz+j+Y.cells.size≤cur.size:=by have:=(h2 n (sz-1) hn (by omega)).1;omega
    have hst:=run_storeCells_at P (β k) (n*sz+j) e Y.cells.toList 0 cur w h1 (by simp;omega) hone;simp only [Nat.add_zero,Array.length_toList] at hst;generalize hoff:n*sz+j=off at *;let new:Array Value:=(cur.toList.take off++Y.cells.toList++cur.toList.drop (off+Y.cells.size)).toArray
    have hnewsz:new.size=cur.size:=by simp [new];omega
    have hnew:∀ i,new.getD i undef=if off≤i∧i<off+vs.length then Y.cells.getD (i-off) undef else cur.getD i undef:=by
     intro i;have hl1:(cur.toList.take off).length=off:=by simp;omega
     have hN:new.getD i undef=(cur.toList.take off++Y.cells.toList++cur.toList.drop (off+Y.cells.size)).getD i undef:=by simp [new,LC,Lz]
     rw [hN];by_cases h4:i<off
     ·rw [if_neg (by omega),List.append_assoc,bS (by omega),getD_take _ _ _ _ h4];simp [LC,Lz]
     ·by_cases h5:i<off+vs.length
      ·rw [if_pos ⟨by omega,h5⟩,List.append_assoc,bl (by omega),hl1,bS (by simp;omega)];simp [LC,Lz]
      ·rw [if_neg (by omega),bl (by simp;omega),fw];have:off+Y.cells.size+(i-(cur.toList.take off++Y.cells.toList).length)=i:=by simp;omega
       rw [this];simp [LC,Lz]
    refine ⟨w.setRow (β k) new,?_,?_⟩
    ·rw [hx.hptr_inv];simp only [Instr.storeAt,Instr.sureAddr,pure_bind,storeVar,Sem.run_bind,run_sizeOf hm,Result.andThen];rw [if_neg (by omega)];exact hst
    ·have hlive:(lk .gone s.h k).live:=by rw [hk];intro e;subst e;simp at hn
     have hbk:β k<w.heap.size:=r.hp.lt (.inl hlive);let xs':=xs.set n (ep (xs.getD n []) j vs)
     have hxs':xs'≠[]:=by
      intro e;have:xs'.length=xs.length:=by simp [xs']
      rw [e] at this;simp at this;omega
     have hsl:(AO.row e sz xs').live↔(lk .gone s.h k).live:=⟨fun _=>hlive,fun _=>hxs'⟩;have hsi:∀ j,(AO.row e sz xs').inn j↔(lk .gone s.h k).inn j:=fun j=>by rw [hk];exact Iff.rfl
     have hlv:=fun j=>sq (h:=s.h) hsl hsi j;have hXX:c.XX (ins k (.row e sz xs') s.h) β=c.XX s.h β:=ux c β hsl hsi;have hw:∀ i,¬ c.XX s.h β i→i<w.heap.size→(w.setRow (β k) new).heap[i]? = w.heap[i]? := fun i hi _=>cK _ _ _ (fun e=>hi (.inr ⟨k,.inl hlive,e.symm⟩));have hG:∀ {v:AV} {V:Value},G w (c.XX s.h β) β κ v V→G (w.setRow (β k) new) (c.XX s.h β) β κ v V:=fun hg=>hg.mono hw (fun _ h _=>h) (fun _ _=>.refl);have hD:∀ {v:AV} {V:Value},D w (c.XX s.h β) v V→D (w.setRow (β k) new) (c.XX s.h β) v V:=fun hg=>hg.mono hw (fun _ h _=>h);refine ⟨r.df,r.sz,fun i => ?_,⟨fun q => ?_,fun i j hi hj e=>r.hp.inj i j ((hlv i).1 hi) ((hlv j).1 hj) e,?_,fun j hj=>r.hp.nk j ((hlv j).1 hj),fun j hj=>r.hp.nx j ((hlv j).1 hj),r.hp.fix,fun j hj => ?_⟩⟩
     ·show G _ (c.XX (ins k _ s.h) β) β κ _ _;rw [hXX];exact hG (r.tm i)
     ·show HO _ (c.XX (ins k (.row e sz xs') s.h) β) β κ q (lk .gone (ins k (.row e sz xs') s.h) q);rw [hXX,be];by_cases ej:q=k
      ·subst ej;rw [if_pos rfl];have hlen':xs'.length=xs.length:=by simp [xs']
       have hold:=r.hp.ob q;rw [hk] at hold;have hsp:(ep (xs.getD n []) j vs).length=sz:=by rw [jH (by omega)];exact hl
       have hgd:∀ i,xs'.getD i []=if i=n then ep (xs.getD n []) j vs else xs.getD i []:=fun i=>Fy xs n _ [] i hn
       refine ⟨by rw [hlen'];exact hold.1,fun _=>⟨new,lB w _ cur e new h1,by rw [hnewsz];exact hcs,by rw [hlen'];exact hcap1,hcap2,h0,fun i hi => ?_,fun i l hi hl2 => ?_⟩⟩
       ·rw [hgd];split
        ·exact hsp
        ·rw [hlen'] at hi;exact hall i hi
       ·rw [hlen'] at hi;rw [hgd,hnew];by_cases ei:i=n
        ·subst ei;rw [if_pos rfl,oZ (by omega)];by_cases h6:j≤l∧l<j+vs.length
         ·rw [if_pos h6,if_pos (by omega),show i*sz+l-off=l-j by omega];exact hD ((g2 (l-j) (by omega)).toD (hfl (l-j) (by omega)).2)
         ·rw [if_neg h6,if_neg (by omega)];exact hD (h2 i l hi hl2).2
        ·rw [if_neg ei,if_neg ?_]
         ·exact hD (h2 i l hi hl2).2
         ·rcases Nat.lt_or_ge i n with h7 | h7
          ·have h8:(i+1)*sz≤n*sz:=Nat.mul_le_mul_right _ h7;rw [Nat.add_mul,Nat.one_mul] at h8;omega
          ·have h8:(n+1)*sz≤i*sz:=Nat.mul_le_mul_right _ (by omega);rw [Nat.add_mul,Nat.one_mul] at h8;omega
      ·rw [if_neg ej];exact (r.hp.ob q).mono hw (fun _ h _=>h) (fun _ _=>.refl) .refl (fun hl=>cK _ _ _ fun e=>ej (r.hp.inj q k (.inl hl) (.inl hlive) e)) (fun i hl=>cK _ _ _ (r.hp.vne hlive hl))
     ·refine r.hp.kp.trans (K':=c.K) ⟨rfl,rfl,rfl,by simp [World.setRow],fun b hb=>cK _ _ _ fun e=>r.hp.nk k (.inl hlive) (e ▸ hb)⟩ (fun _ h=>h)
     ·rw [be] at hj;by_cases ej:j=k
      ·rw [ej];exact r.hp.sm k hlive
      ·rw [if_neg ej] at hj;exact r.hp.sg j hj
   ·cases h
  ·cases h
 ·cases h
theorem DU {t:TypeId} {x y:Operand} {n j:Nat} (hg:gd ops s o=some true) (hop:o.op = .store t x y) (hd:o.dst=none) {p:Prop} {s':AS} (h:zf P s t (s.op x) (s.op y) n j=some (p,s')) (hp:p):mA P ops o s (· = s') :=
 cL hg fun c a w β κ r=>by obtain ⟨w',hr,r'⟩:=yn r (r.op x) (r.op y) h hp;refine ⟨undef,w',β,κ,.inr ⟨?_,rfl⟩,by rw [hd];exact r'⟩;simp only [execOp,hop,Sem.run_bind,hr,Result.andThen];rfl
end
section
variable {P:Program} {ops:Array Oper} {o:Oper} {s s':AS}
theorem AV.pg_free {k:Nat} {v:AV} (h:AV.men k v=false):AV.pg k v=v:=by unfold AV.pg;rw [h];rfl
theorem pq {k:Nat}:∀ {cs:List AV},AV.menL k cs=false→cs.map (AV.pg k)=cs
 | [],_=>rfl
 | c::cs,h=>by simp only [AV.menL,Bool.or_eq_false_iff] at h;rw [List.map_cons,AV.pg_free h.1,pq h.2]
theorem AO.pg_free {k:Nat} {o:AO} (h:AO.men k o=false):AO.pg k o=o:=by
 cases o with
 | cells e cs=>exact congrArg (AO.cells e) (pq h)
 | eit cs=>exact congrArg AO.eit (pq h)
 | _=>rfl
theorem HH {k:Nat} (h:HV k s):kL s ⟨s.n,nH k s.t,fZ k s.h⟩:=⟨rfl,fun i=>by
 show lk .any (nH k s.t) i=lk .any s.t i;rw [fQ,AV.pg_free (h.1 i)],fun i=>by
 show lk .gone (fZ k s.h) i=lk .gone s.h i;rw [fc,AO.pg_free (h.2 i)]⟩
theorem Dx {k:Nat} {t:TypeId} {x:AV} {cs:List AV} (hcs:gI x=some cs) (hk:(Nat.blt k s.n&&Nat.blt k 1000 && !AV.men k x)=true)
 (h:∀ s',vM ops o s s'→∀ s2,yA s' t x k=some s2→mA P ops o s' (· = s2)):Loc P ops o s ⟨[(k,.hptr k 0)],[(k,.cells t cs)],[k],[]⟩:=by
 intro s' ha hf _;have hfk:=hf k (by simp);simp only [LB,Bool.not_eq_true'] at hk;have hb:yA s' t x k=some ⟨s'.n,ins k (.hptr k 0) (nH k s'.t),ins k (.cells t cs) (fZ k s'.h)⟩:=by unfold yA;rw [AV.pg_free hk.2,hcs];simp only [AS.fresh];rw [ha.n,hk.1.1,hk.1.2];rfl
 refine (h s' ha _ hb).mono fun s'' e => ?_;subst e;have hs:=HH hfk;refine ⟨rfl,fun i => ?_,fun i => ?_⟩
 ·show lk .any (ins k (.hptr k 0) (nH k s'.t)) i=lk .any (pP [(k,.hptr k 0)] s'.t) i;rw [be,fF,fQ,AV.pg_free (hfk.1 i)];simp only [j6];by_cases e:i=k
  ·subst e;simp
  ·rw [if_neg e,dm e];rfl
 ·show lk .gone (ins k (.cells t cs) (fZ k s'.h)) i=lk .gone (pP [(k,.cells t cs)] s'.h) i;rw [be,fF,fc,AO.pg_free (hfk.2 i)];simp only [j6];by_cases e:i=k
  ·subst e;simp
  ·rw [if_neg e,dm e];rfl
theorem ui {w:World} {X:Nat→Prop} {β:Nat→Nat} {κ:Nat→Nat×Nat} {t:TypeId} {len:Nat} {parts:List (Nat×AV)} {vals:Array (Nat×Value)} (hl:parts.length=vals.size)
 (hp:∀ i,i<parts.length→(parts.getD i default).1=(vals.toList.getD i default).1∧G w X β κ (parts.getD i default).2 (vals.toList.getD i default).2) {xs:List (List AV)} (h:dj P t len parts=some (.dslice xs))
 {e:TypeId} {sz by_:Nat} (he2:iZ P t=some (e,sz,by_)) :
 ∃ arr:Array Value,(Instr.buildSlice t len vals).run P w = .ok (.slice (some ⟨w.heap.size,0,none⟩) xs.length xs.length) (w.alloc (.cells arr e))∧xs≠[]∧0<sz∧arr.size=xs.length*sz∧xs.length≤maxLen ∧
  (∀ i,i<xs.length→(xs.getD i []).length=sz)∧(∀ i j,i<xs.length→j<sz→D w X ((xs.getD i []).getD j .any) (arr.getD (i*sz+j) undef)):=by
 obtain ⟨hu2,i2,z2,hi2,_,hs2,_,_,hsz⟩:=o5 he2;unfold dj at h;split at h
 ·rename_i e' he;have hu1:=fJ he;rw [hu2] at hu1;cases hu1;split at h
  ·rename_i n z hn hz;have en:n=sz:=by unfold oC at hn;rw [hi2] at hn;have:=LM hn;omega
   subst en;split at h
   ·cases h
   ·rename_i hc;simp only [not_or,Nat.not_lt] at hc;obtain ⟨hn0,hc1,hc2⟩:=hc;have hc2:z.cells.size=n:=by simpa using hc2
    have hnb:¬ (len*n>2 ^ 24):=by omega
    split at h
    ·split at h<;>cases h
    ·rename_i hl0;split at h
     ·rename_i ys hxs;split at h
      ·rename_i hcc;cases h;simp only [LB] at hcc;obtain ⟨p1,p2,p3,p4⟩:=pz hxs;have hxl:xs.length=len:=dO.1 hcc.2;let zs:Array Value:=(Array.range (len*n)).map (z.cells[· % z.cells.size]!)
       have hzs:zs.size=len*n:=by simp [zs]
       have hle:(0+parts.length)*n≤(zs.toList.map AV.of1).length:=by simp [hzs,← p1,hxl]
       obtain ⟨arr,a1,a2,a3⟩:=kc (w:=w) (X:=X) (β:=β) (κ:=κ) parts vals.toList (zs.toList.map AV.of1) zs (by simpa using hl) hp (by simp) (yM _) _ (qe parts 0 xs _ hxs hcc.1 hle);have hflat:(List.take (0*n) (zs.toList.map AV.of1)++xs.flatten++List.drop ((0+parts.length)*n) (zs.toList.map AV.of1))=xs.flatten:=by rw [Nat.zero_mul,List.take_zero,List.nil_append,List.drop_eq_nil_of_le (by simp [hzs,← p1,hxl]),List.append_nil]
       rw [hflat] at a2 a3;have hfl:=o8 p2;refine ⟨arr,?_,fun e0=>hl0 (by rw [← hxl,e0];rfl),hsz,by rw [a2,hfl],by unfold maxLen;have:len*1≤len*n:=Nat.mul_le_mul_left _ (by omega);omega,fun i hi=>p2.getD hi,fun i j hi hj => ?_⟩
       ·simp only [Instr.buildSlice,Sem.run_bind,aU hu2,Result.andThen,run_sizeOf hn];rw [if_neg hnb];have h0:¬ (len*n=0):=by rw [Nat.mul_eq_zero];omega
        simp only [h0,if_false,Sem.run_bind,nP hz,Result.andThen,pure_bind];have:Instr.fill (fun i=>some (i*n,n)) ((Array.range (len*n)).map (z.cells[· % z.cells.size]!)) vals.toList=some arr:=a1;rw [this,hxl];simp [newRow,go_sem]
       ·have hij:i*n+j<xs.flatten.length:=by rw [hfl];have:(i+1)*n≤xs.length*n:=Nat.mul_le_mul_right _ hi;rw [Nat.add_mul] at this;omega
        have:=a3 (i*n+j) hij;rw [oG p2 hi hj] at this;refine this.toD ?_;have hxm:xs.getD i []∈xs:=by rw [Lz,LA hi];exact List.getElem_mem hi
        exact jc (by rw [p2.getD hi];exact hj) (p3 _ hxm)
      ·cases h
     ·cases h
  ·cases h
 ·cases h
theorem Ds {c:Cx P} {a:Act} {w:World} {β:Nat→Nat} {κ:Nat→Nat×Nat} {s:AS} (r:Rel c s a w β κ) {k k':Nat} {e:TypeId} {sz:Nat} {zs:List (List AV)} {s':AS} (h:s.grow k k' e sz zs=some s') (arr:Array Value) (C:Nat) (hz:zs≠[]) (hsz:0<sz)
 (hl:∀ i,i<zs.length→(zs.getD i []).length=sz) (hs:arr.size=C*sz) (hC:zs.length≤C) (hCm:C≤maxLen)
 (hG:∀ i j,i<zs.length→j<sz→D w (c.XX s.h β) ((zs.getD i []).getD j .any) (arr.getD (i*sz+j) undef)) :
 ∃ β' κ',Rel c s' (a.put (some k') (.slice (some ⟨w.heap.size,0,none⟩) zs.length C)) (w.alloc (.cells arr e)) β' κ':=by
 unfold AS.grow at h;cases hc:(Nat.blt k' s.n&&Nat.blt k' 1000) with
 | false=>rw [hc] at h;cases h
 | true =>
  rw [hc] at h;cases h;simp only [LB,Nat.blt_eq] at hc;have r':=r.drop2 k k';obtain ⟨m1,m2⟩:=Ha k k' s;have hw:∀ b,b<w.heap.size→(w.alloc (.cells arr e)).heap[b]? = w.heap[b]? := fun b hb=>gi w _ hb;have hsub:∀ b,¬ c.XX s.h β b→b<w.heap.size→¬ c.XX (ins k' (.row e sz zs) (s.drop2 k k').h) (upd β k' w.heap.size) b:=by
   rintro b hb hlt (hx | ⟨j,hl,hj⟩)
   ·exact hb (.inl hx)
   ·rcases fV (o:=.row e sz zs) (by omega) (fun _ h=>h) hl with ⟨ej,_⟩ | ⟨ej,hl⟩
    ·subst ej;rw [aD] at hj;omega
    ·rw [bA β ej] at hj;exact hb (.inr ⟨j,(rL hl).1,hj⟩)
  obtain ⟨h1,h2⟩:=r'.hp.anew (w':=w.alloc (.cells arr e)) hc.2 (fun j _=>(m2 j).2) w.heap.size (C,zs.length) (Nat.le_refl _) hw (fD _ w _ r.Klt) (o:=.row e sz zs)
   ⟨by rw [aD],fun _=>⟨arr,by rw [aD];exact lP w _,by rw [aD];exact hs,by rw [aD];exact hC,by rw [aD];exact hCm,hsz,hl,fun i j hi hj=>(hG i j hi hj).mono (w:=w) (fun b _ hb=>hw b hb) hsub⟩⟩
  refine ⟨upd β k' w.heap.size,upd κ k' (C,zs.length),r.df,by simp [Act.put,r.sz],fun i => ?_,h1⟩;show G _ _ _ _ (lk .any (ins k' (.rslice k') (s.drop2 k k').t) i) _;rw [be];by_cases hi:i=k'
  ·subst hi;have hi':i<a.tmps.size:=by rw [r.sz];exact hc.1
   have hlz:0<zs.length:=by cases zs with | nil=>exact absurd rfl hz | cons _ _=>simp
   have:=G.rslice (w:=w.alloc (.cells arr e)) (X:=c.XX (ins i (.row e sz zs) (s.drop2 k i).h) (upd β i w.heap.size)) (β:=upd β i w.heap.size) (κ:=upd κ i (C,zs.length)) i (by rw [aD];exact hlz);rw [aD,aD] at this;simpa [Act.put,LC,Array.getElem?_setIfInBounds,hi'] using this
  ·have:=h2 (r'.tm i) (m1 i).2;rw [if_neg hi];have hne:¬ k'=i:=fun e=>hi e.symm;simpa [Act.put,LC,Array.getElem?_setIfInBounds,hne] using this
theorem A2 {xs zs:List (List AV)} (hz:xs=zs∨xs.map (List.map AV.wk0)=zs) {w:World} {X:Nat→Prop} {arr:Array Value} {sz:Nat} (h0:xs≠[]∧0<sz∧arr.size=xs.length*sz∧xs.length≤maxLen ∧
 (∀ i,i<xs.length→(xs.getD i []).length=sz)∧(∀ i j,i<xs.length→j<sz→D w X ((xs.getD i []).getD j .any) (arr.getD (i*sz+j) undef))) :
 zs.length=xs.length∧zs≠[]∧0<sz∧arr.size=zs.length*sz∧zs.length≤maxLen ∧
  (∀ i,i<zs.length→(zs.getD i []).length=sz)∧(∀ i j,i<zs.length→j<sz→D w X ((zs.getD i []).getD j .any) (arr.getD (i*sz+j) undef)):=by
 rcases hz with rfl | rfl
 ·exact ⟨rfl,h0⟩
 ·obtain ⟨g1,g2,g3,g4,g5,g6⟩:=h0;have e1:∀ i,(xs.map (List.map AV.wk0)).getD i []=(xs.getD i []).map AV.wk0:=fun i=>by simp only [Lz,List.getElem?_map];cases xs[i]? <;> rfl
  have e2:∀ (l:List AV) (j:Nat),(l.map AV.wk0).getD j .any=AV.wk0 (l.getD j .any):=fun l j=>by simp only [Lz,List.getElem?_map];cases l[j]? <;> rfl
  refine ⟨by simp,by simpa using g1,g2,by simpa using g3,by simpa using g4,fun i hi => ?_,fun i j hi hj => ?_⟩
  ·rw [e1,LI];exact g5 i (by simpa using hi)
  ·rw [e1,e2];exact (g6 i j (by simpa using hi) hj).wk0
theorem tK {t e:TypeId} {len sz by_ k':Nat} {ps:Array (Nat×Operand)} {xs:List (List AV)} (hg:gd ops s o=some true) (hop:o.op = .buildSlice t len ps) (hd:o.dst=some k') (he:iZ P t=some (e,sz,by_))
 (hv:dj P t len (s.parts ps)=some (.dslice xs)) {zs:List (List AV)} (hzs:xs=zs∨xs.map (List.map AV.wk0)=zs) {s':AS} (h:s.grow k' k' e sz zs=some s'):mA P ops o s (· = s') :=
 cL hg fun c a w β κ r=>by obtain ⟨h1,h2⟩:=q9 r ps;obtain ⟨arr,hr,h0⟩:=ui h1 h2 hv he;obtain ⟨gl,g1,g2,g3,g4,g5,g6⟩:=A2 hzs h0;obtain ⟨β',κ',r'⟩:=Ds r h arr zs.length g1 g2 g5 g3 (Nat.le_refl _) g4 g6;rw [gl] at r';refine ⟨_,_,β',κ',.inl ?_,by rw [hd];exact r'⟩;simp only [execOp,hop];show ((Instr.buildSlice t len (ps.map fun p=>(p.1,a.eval p.2))) >>= fun x=>pure (Next.value x)).run P w=_;rw [Sem.run_bind,hr];rfl
theorem yQ {t e:TypeId} {len sz by_ k':Nat} {ps:Array (Nat×Operand)} {xs:List (List AV)} (hg:gd ops s o=some true) (hop:o.op = .buildSlice t len ps) (hd:o.dst=some k') (he:iZ P t=some (e,sz,by_))
 (hv:dj P t len (s.parts ps)=some (.dslice xs)) {zs:List (List AV)} (hzs:xs=zs∨xs.map (List.map AV.wk0)=zs) (hk:(Nat.blt k' s.n&&Nat.blt k' 1000)=true):Loc P ops o s ⟨[(k',.rslice k')],[(k',.row e sz zs)],[k'],[]⟩:=by
 intro s' ha hf _;have hfk:=hf k' (by simp);have hv':dj P t len (s'.parts ps)=some (.dslice xs):=by rw [← hv];congr 1;unfold AS.parts;refine List.map_congr_left fun p hp => ?_;rw [bH ha];rw [hop];simp only [Op.operands,List.mem_toArray,List.mem_map];exact ⟨p,hp,rfl⟩
 have hgr:s'.grow k' k' e sz zs=some ⟨s'.n,ins k' (.rslice k') (s'.drop2 k' k').t,ins k' (.row e sz zs) (s'.drop2 k' k').h⟩:=by unfold AS.grow;rw [ha.n,hk];rfl
 refine (tK (by rw [cT ha];exact hg) hop hd he hv' hzs hgr).mono fun s'' e1 => ?_;subst e1;refine ⟨rfl,fun i => ?_,fun i => ?_⟩
 ·show lk .any (ins k' (.rslice k') (nH k' (nH k' s'.t))) i=lk .any (pP [(k',.rslice k')] s'.t) i;rw [be,fF,fQ,fQ,AV.pg_free (hfk.1 i),AV.pg_free (hfk.1 i)];simp only [j6];by_cases e:i=k'
  ·subst e;simp
  ·rw [if_neg e,dm e];rfl
 ·show lk .gone (ins k' (.row e sz zs) (rm k' (fZ k' (fZ k' s'.h)))) i=lk .gone (pP [(k',.row e sz zs)] s'.h) i;rw [be,fF,ls,fc,fc,AO.pg_free (hfk.2 i),AO.pg_free (hfk.2 i)];simp only [j6];by_cases e:i=k'
  ·subst e;simp
  ·rw [if_neg e,if_neg e,dm e];rfl
theorem Ig {x y:Operand} {t e:TypeId} {sz by_ k':Nat} {ys:List (List AV)} (hg:gd ops s o=some true) (hop:o.op = .call ⟨.builtin .append,#[x,y],#[t,t]⟩) (hd:o.dst=some k') (he:iZ P t=some (e,sz,by_))
 (hx:s.op x = .eslice) (hy:s.op y = .dslice ys∨(s.op y = .eslice∧ys=[])) (hE:EL sz ys) (hb:(0+ys.length)*by_≤140737488355328) (h63:0+ys.length≤9223372036854775807) (hk:(Nat.blt k' s.n&&Nat.blt k' 1000)=true) :
 Loc P ops o s ⟨[(k',.rslice k')],[(k',.row e sz ys)],[k'],[]⟩:=by
 intro s' ha hf _;have hfk:=hf k' (by simp);have hx':s'.op x = .eslice:=by rw [bH ha (by rw [hop];simp [Op.operands,Call.operands])];exact hx
 have hy':s'.op y = .dslice ys∨(s'.op y = .eslice∧ys=[]):=by rw [bH ha (by rw [hop];simp [Op.operands,Call.operands])];exact hy
 have hgr:s'.grow k' k' e sz ([]++ys)=some ⟨s'.n,ins k' (.rslice k') (s'.drop2 k' k').t,ins k' (.row e sz ([]++ys)) (s'.drop2 k' k').h⟩:=by unfold AS.grow;rw [ha.n,hk];rfl
 refine (tu (by rw [cT ha];exact hg) hop hd he (.inl ⟨hx',rfl⟩) hy' hE (by simpa using hb) (by simpa using h63) hgr).mono fun s'' e1 => ?_;subst e1;refine ⟨rfl,fun i => ?_,fun i => ?_⟩
 ·show lk .any (ins k' (.rslice k') (nH k' (nH k' s'.t))) i=lk .any (pP [(k',.rslice k')] s'.t) i;rw [be,fF,fQ,fQ,AV.pg_free (hfk.1 i),AV.pg_free (hfk.1 i)];simp only [j6];by_cases e:i=k'
  ·subst e;simp
  ·rw [if_neg e,dm e];rfl
 ·show lk .gone (ins k' (.row e sz ([]++ys)) (rm k' (fZ k' (fZ k' s'.h)))) i=lk .gone (pP [(k',.row e sz ys)] s'.h) i;rw [be,fF,ls,fc,fc,AO.pg_free (hfk.2 i),AO.pg_free (hfk.2 i)];simp only [j6];by_cases e:i=k'
  ·subst e;simp
  ·rw [if_neg e,if_neg e,dm e];rfl
theorem Ib {y:Operand} {t e:TypeId} {sz by_ k k' tx:Nat} {xs ys:List (List AV)} (hg:gd ops s o=some true) (hop:o.op = .call ⟨.builtin .append,#[.tmp tx,y],#[t,t]⟩) (hd:o.dst=some k') (he:iZ P t=some (e,sz,by_))
 (hx:lk .any s.t tx = .rslice k) (hrow:lk .gone s.h k = .row e sz xs) (hy:s.op y = .dslice ys∨(s.op y = .eslice∧ys=[])) (hE:EL sz ys) (hb:(xs.length+ys.length)*by_≤140737488355328) (h63:xs.length+ys.length≤9223372036854775807)
 (hk:(Nat.blt k' s.n&&Nat.blt k' 1000 && !Nat.beq k k' && !Nat.beq tx k')=true) :
 Loc P ops o s ⟨[(k',.rslice k'),(tx,.any)],[(k',.row e sz (xs++ys)),(k,.gone)],[k'],[(k,tx)]⟩:=by
 intro s' ha hf ho;have hfk:=hf k' (by simp);have hok:=ho (k,tx) (by simp);simp only [LB,Bool.not_eq_true'] at hk;obtain ⟨⟨hk1,hk2⟩,hk3⟩:=hk;have hkk:k≠k':=fun e=>by rw [e,Nat.beq_refl] at hk2;cases hk2
 have htk:tx≠k':=fun e=>by rw [e,Nat.beq_refl] at hk3;cases hk3
 have hxo:Operand.tmp tx∈o.op.operands:=by rw [hop];simp [Op.operands,Call.operands]
 have hx':s'.op (.tmp tx) = .rslice k:=by rw [bH ha hxo];exact hx
 have hrow':lk .gone s'.h k = .row e sz xs:=by rw [ha.h (by rw [hop];rfl) _ hxo k (by show AV.men k (lk .any s.t tx)=true;rw [hx];simp [AV.men])];exact hrow
 have hy':s'.op y = .dslice ys∨(s'.op y = .eslice∧ys=[]):=by rw [bH ha (by rw [hop];simp [Op.operands,Call.operands])];exact hy
 have hgr:s'.grow k k' e sz (xs++ys)=some ⟨s'.n,ins k' (.rslice k') (s'.drop2 k k').t,ins k' (.row e sz (xs++ys)) (s'.drop2 k k').h⟩:=by unfold AS.grow;rw [ha.n,hk1.1,hk1.2];rfl
 refine (tu (by rw [cT ha];exact hg) hop hd he (.inr ⟨hx',hrow'⟩) hy' hE hb h63 hgr).mono fun s'' e1 => ?_;subst e1;refine ⟨rfl,fun i => ?_,fun i => ?_⟩
 ·show lk .any (ins k' (.rslice k') (nH k (nH k' s'.t))) i=lk .any (pP [(k',.rslice k'),(tx,.any)] s'.t) i;rw [be,fF,fQ,fQ,AV.pg_free (hfk.1 i)];simp only [j6];by_cases e:i=k'
  ·subst e;simp
  ·rw [if_neg e,dm e];by_cases e2:i=tx
   ·subst e2;have hx2:lk .any s'.t i = .rslice k:=hx';simp [hx2,AV.pg,AV.men]
   ·rw [dm e2,AV.pg_free (hok.1 i e2)];rfl
 ·show lk .gone (ins k' (.row e sz (xs++ys)) (rm k (fZ k (fZ k' s'.h)))) i=lk .gone (pP [(k',.row e sz (xs++ys)),(k,.gone)] s'.h) i;rw [be,fF,ls,fc,fc,AO.pg_free (hfk.2 i),AO.pg_free (hok.2 i)];simp only [j6];by_cases e:i=k'
  ·subst e;simp
  ·rw [if_neg e,dm e];by_cases e2:i=k
   ·subst e2;simp
   ·rw [if_neg e2,dm e2];rfl
def Lk:AV→Option (List (List AV))
 | .dslice ys=>some ys
 | .eslice=>some []
 | _=>none
theorem Bf {v:AV} {ys:List (List AV)} (h:Lk v=some ys):v = .dslice ys∨(v = .eslice∧ys=[]):=by
 unfold Lk at h;split at h
 ·cases h;exact .inl rfl
 ·cases h;exact .inr ⟨rfl,rfl⟩
 ·cases h
def Gr (P:Program) (s:AS) (dst:Option Tmp) (zs:List (List AV)):Op→Option (List Prop×eD)
 | .call ⟨.builtin .append,ar,tys⟩=>match ar.toList,tys.toList,dst with
  | [x,y],[t,t'],some k'=>bif Nat.beq t t' then (match iZ P t,s.op x,Lk (s.op y) with
   | some (e,sz,by_),.eslice,some ys=>bif Nat.blt k' s.n&&Nat.blt k' 1000 then some ([EL sz ys,(0+ys.length)*by_≤140737488355328,0+ys.length≤9223372036854775807,ys=zs],⟨[(k',.rslice k')],[(k',.row e sz zs)],[k'],[]⟩) else none
   | some (e,sz,by_),.rslice k,some ys=>(match x,lk .gone s.h k with
    | .tmp tx,.row e2 sz2 xs=>bif Nat.beq e e2&&Nat.beq sz sz2&&(Nat.blt k' s.n&&Nat.blt k' 1000 && !Nat.beq k k' && !Nat.beq tx k') then some ([EL sz ys,(xs.length+ys.length)*by_≤140737488355328,xs.length+ys.length≤9223372036854775807,xs++ys=zs],⟨[(k',.rslice k'),(tx,.any)],[(k',.row e sz zs),(k,.gone)],[k'],[(k,tx)]⟩) else none
    | _,_=>none)
   | _,_,_=>none) else none
  | _,_,_=>none
 | .buildSlice t len ps=>match dst,iZ P t,dj P t len (s.parts ps) with
  | some k',some (e,sz,_),some (.dslice xs)=>bif Nat.blt k' s.n&&Nat.blt k' 1000 then some ([xs.map (List.map AV.wk0)=zs],⟨[(k',.rslice k')],[(k',.row e sz zs)],[k'],[]⟩) else none
  | _,_,_=>none
 | _=>none
theorem zQ {zs:List (List AV)} {ps:List Prop} {e:eD} (hg:gd ops s o=some true) (h:Gr P s o.dst zs o.op=some (ps,e)) (hp:∀ p∈ps,p):Loc P ops o s e:=by
 unfold Gr at h;split at h
 ·rename_i ar tys hop;split at h
  ·rename_i x y t t' k' har hty hd;cases ht:Nat.beq t t' with
   | false=>rw [ht] at h;cases h
   | true =>
    rw [ht] at h;have ht:=dO.1 ht;subst ht;have e1:ar = #[x,y]:=by rw [← Array.toList_inj];exact har
    have e2:tys = #[t,t]:=by rw [← Array.toList_inj];exact hty
    subst e1;subst e2;simp only [cond_true] at h;split at h
    ·rename_i e3 sz by_ ys he hx hy;cases hk:(Nat.blt k' s.n&&Nat.blt k' 1000) with
     | false=>rw [hk] at h;cases h
     | true =>
      rw [hk] at h;simp only [cond_true,LK,Prod.mk.injEq] at h;obtain ⟨rfl,rfl⟩:=h;have h1:=hp (EL sz ys) (by simp);have h2:=hp ((0+ys.length)*by_≤140737488355328) (by simp);have h3:=hp (0+ys.length≤9223372036854775807) (by simp);have h4:=hp (ys=zs) (by simp);subst h4;exact Ig hg hop hd he hx (Bf hy) h1 h2 h3 hk
    ·rename_i e3 sz by_ k ys he hx hy;split at h
     ·rename_i tx e4 sz4 xs hrow;cases hk:(Nat.beq e3 e4&&Nat.beq sz sz4&&(Nat.blt k' s.n&&Nat.blt k' 1000 && !Nat.beq k k' && !Nat.beq tx k')) with
      | false=>rw [hk] at h;cases h
      | true =>
       rw [hk] at h;simp only [cond_true,LK,Prod.mk.injEq] at h;obtain ⟨rfl,rfl⟩:=h;rw [LB,LB] at hk;have q1:=dO.1 hk.1.1;have q2:=dO.1 hk.1.2;subst q1;subst q2;have h1:=hp (EL sz ys) (by simp);have h2:=hp ((xs.length+ys.length)*by_≤140737488355328) (by simp);have h3:=hp (xs.length+ys.length≤9223372036854775807) (by simp);have h4:=hp (xs++ys=zs) (by simp);subst h4;exact Ib hg hop hd he hx hrow (Bf hy) h1 h2 h3 hk.2
     ·cases h
    ·cases h
  ·cases h
 ·rename_i t len ps hop;split at h
  ·rename_i k' e2 sz by_ xs hd he hv;cases hk:(Nat.blt k' s.n&&Nat.blt k' 1000) with
   | false=>rw [hk] at h;cases h
   | true =>
    rw [hk] at h;simp only [cond_true,LK,Prod.mk.injEq] at h;obtain ⟨rfl,rfl⟩:=h;exact yQ hg hop hd he hv (.inr (hp (xs.map (List.map AV.wk0)=zs) (by simp))) hk
  ·cases h
 ·cases h
def Fq (P:Program) (s:AS) (dst:Option Tmp):Op→Option eD
 | .box t x=>match dst,gI (s.op x) with
  | some k,some cs=>bif Nat.blt k s.n&&Nat.blt k 1000 && !AV.men k (s.op x) then some ⟨[(k,.hptr k 0)],[(k,.cells t cs)],[k],[]⟩ else none
  | _,_=>none
 | .alloc t=>match dst,zeroOf P t with
  | some k,some z=>match gI (AV.of z) with
   | some cs=>bif Nat.blt k s.n&&Nat.blt k 1000 && !AV.men k (AV.of z) then some ⟨[(k,.hptr k 0)],[(k,.cells t cs)],[k],[]⟩ else none
   | none=>none
  | _,_=>none
 | .store t x y=>match dst with
  | none=>match s.op x,gI (s.op y),oC P t with
   | .hptr k off,some vs,some n=>match lk .gone s.h k with
    | .cells e cs=>bif decide (vs.length=n∧off+vs.length≤cs.length∧vs.all AV.one=true) then some ⟨[],[(k,.cells e (ep cs off vs))],[],[]⟩ else none
    | _=>none
   | _,_,_=>none
  | some _=>none
 | _=>none
theorem tj {α:Type} {b:Bool} {x y:α} (h:(bif b then some x else none)=some y):b=true∧x=y:=by
 cases b with
 | true=>exact ⟨rfl,LM h⟩
 | false=>cases h
theorem zv {e:eD} (hg:gd ops s o=some true) (h:Fq P s o.dst o.op=some e):Loc P ops o s e:=by
 unfold Fq at h;split at h
 ·rename_i t x hop;split at h
  ·rename_i k cs hd hcs;obtain ⟨hk,rfl⟩:=tj h;refine Dx hcs hk fun s' ha s2 hb => ?_;have hx:s'.op x=s.op x:=bH ha (by rw [hop];simp [Op.operands]);exact FE (by rw [cT ha];exact hg) hop hd (by rw [hx];exact hb)
  ·cases h
 ·rename_i t hop;split at h
  ·rename_i k z hd hz;split at h
   ·rename_i cs hcs;obtain ⟨hk,rfl⟩:=tj h;exact Dx hcs hk fun s' ha s2 hb=>zD (by rw [cT ha];exact hg) hop hd hz hb
   ·cases h
  ·cases h
 ·rename_i t x y hop;split at h
  ·rename_i hd;split at h
   ·rename_i k off vs n hx hvs hn;split at h
    ·rename_i e2 cs hk;obtain ⟨hc,rfl⟩:=tj h;have hc:=LF hc;intro s' ha _ _;have hxo:x∈o.op.operands:=by rw [hop];simp [Op.operands]
     have hyo:y∈o.op.operands:=by rw [hop];simp [Op.operands]
     have hx':s'.op x = .hptr k off:=by rw [bH ha hxo];exact hx
     have hy':s'.op y=s.op y:=bH ha hyo;have hk':lk .gone s'.h k = .cells e2 cs:=by rw [ha.h (by rw [hop];rfl) x hxo k (by rw [hx];simp [AV.men])];exact hk
     have hst:ta P s' t (s'.op x) (s'.op y)=some ⟨s'.n,s'.t,ins k (.cells e2 (ep cs off vs)) s'.h⟩:=by unfold ta;rw [hx',hy',hvs,hn];simp only [hk'];rw [if_pos hc]
     refine (zX (by rw [cT ha];exact hg) hop hd hst).mono fun s'' e => ?_;subst e;exact ⟨rfl,fun _=>rfl,fun i=>rfl⟩
    ·cases h
   ·cases h
  ·cases h
 ·cases h
end
section
variable {P:Program} {ops:Array Oper} {o:Oper} {s:AS}
def bk (qs:List (Nat×Nat)) (h':List (Nat×AO)):List (Nat×Nat)→List (Nat×AO)→List (Nat×AO)
 | [],h=>h
 | (k,j)::ps,h=>ins k (AO.ren qs (lk .gone h' j)) (bk qs h' ps h)
theorem DG {qs:List (Nat×Nat)} {h' h:List (Nat×AO)}:∀ {ps:List (Nat×Nat)} (k:Nat),lk .gone (bk qs h' ps h) k=match rk ps k with | some j=>AO.ren qs (lk .gone h' j) | none=>lk .gone h k
 | [],k=>rfl
 | (k0,j0)::ps,k=>by
  simp only [bk,be,rk];by_cases e:k=k0
  ·subst e;simp
  ·rw [if_neg e,dm e];exact DG k
def lY (ps:List (Nat×Nat)) (d:Nat) (h' h:List (Nat×AO)):List (Nat×AO) :=
 ins d (AO.ren ((0,d)::swp ps) (lk .gone h' 0)) (bk ((0,d)::swp ps) h' ps (fZ d h))
theorem G3 {f:FuncId} (he:Go.Proofs.Enters P f) {x:Operand} {ar:Array Operand} {tys:Array TypeId} (hg:gd ops s o=some true) (hop:o.op = .call ⟨.value x,ar,tys⟩) {args0:List AV}
 (hx:∀ (c:Cx P) a w β κ,Rel c s a w β κ→∃ vs:Array Value,(execOp a.eval o).run P w = .ok (.enter f vs) w∧vs.size=args0.length∧∀ i,i<args0.length→G w (c.XX s.h β) β κ (args0.getD i .any) (vs.toList.getD i undef))
 (ps:List (Nat×Nat)) (d:Nat) (hps:(oU ps&&(ps.all fun p=>Nat.ble 1000 p.2&&(Nat.blt p.2 1000000&&Nat.blt p.1 1000000))&&(rk ps d).isNone&&Nat.blt d 1000)=true) {Post:AV→List (Nat×AO)→Prop} (hnoR:s.noR=true∨(ps=[]∧∀ v h',Post v h'→(lk .gone h' 0).isR=false)) {args:List AV} (hargs:args0.map (AV.ren ps)=args) {h0:List (Nat×AO)} (hh:hand ps s.h=h0) (hc:bY P f args h0 Post) {N:AS→Prop}
 (hN:∀ v h',Post v h'→∃ s',AS.put ⟨s.n,nH d s.t,lY ps d h' s.h⟩ o.dst (AV.ren ((0,d)::swp ps) v)=some s'∧N s'):mA P ops o s N:=fun c a w β κ r K Q hK=>by
 subst hargs;subst hh;simp only [LB] at hps;obtain ⟨⟨⟨hinj,hlv⟩,hnd⟩,hd⟩:=hps;rw [Nat.blt_eq] at hd;have hnd:rk ps d=none:=by simpa using hnd
 have hchk:∀ {k j},rk ps k=some j→1000≤j∧j<1000000∧k<1000000:=fun h=>by have:=LN.1 hlv _ (ou h);simp only [LB,Nat.ble_eq,Nat.blt_eq] at this;exact this
 rw [oo r hg];simp only [if_true];obtain ⟨vs,hrun,a1,a2⟩:=hx c a w β κ r;unfold Oper.wp;rw [hrun];let τ:Nat→Nat→Prop:=fun n n'=>(rk ps n=some n'∧n<1000000)∨∃ k j i,rk ps k=some j∧i<1000000∧n=gk k i∧n'=gk j i
 let H:Nat→Prop:=fun b=>∃ n n',τ n n'∧lv s.h n∧β n=b
 let βc:Nat→Nat:=uk (fun j=>match rk (swp ps) j with | some k=>β k | none=>0) (fun j i=>match rk (swp ps) j with | some k=>β (gk k i) | none=>0)
 let κc:Nat→Nat×Nat:=uk (fun j=>match rk (swp ps) j with | some k=>κ k | none=>(0,0)) (fun j i=>match rk (swp ps) j with | some k=>κ (gk k i) | none=>(0,0))
 have hβ:∀ k j,rk ps k=some j→βc j=β k∧κc j=κ k:=by intro k j h;have h2:=(cE hinj).2 h;have h3:=(hchk h).2.1;exact ⟨by simp only [βc,fk h3,h2],by simp only [κc,fk h3,h2]⟩
 have hβv:∀ k j,rk ps k=some j→∀ i,i<1000000→βc (gk j i)=β (gk k i)∧κc (gk j i)=κ (gk k i):=by intro k j h i hi;have h2:=(cE hinj).2 h;exact ⟨by simp only [βc,dJ hi,h2],by simp only [κc,dJ hi,h2]⟩
 have hβτ:∀ n n',τ n n'→βc n'=β n:=by
  rintro n n' (⟨h,_⟩ | ⟨k,j,i,h,hi,rfl,rfl⟩)
  ·exact (hβ _ _ h).1
  ·exact (hβv _ _ h i hi).1
 have hτi:∀ {n n1 n2},τ n n1→τ n n2→n1=n2:=by
  rintro n n1 n2 (⟨h,h'⟩ | ⟨k,j,i,h,hi,rfl,rfl⟩) (⟨g,g'⟩ | ⟨k2,j2,i2,g,hi2,e,rfl⟩)
  ·rw [h] at g;exact LM g
  ·have:=dN k2 i2;omega
  ·have:=dN k i;omega
  ·obtain ⟨rfl,rfl⟩:=jy hi hi2 e;rw [h] at g;rw [LM g]
 have hsz:∀ b,c.XX s.h β b→b<w.heap.size:=by
  rintro b (h | ⟨k,h1,rfl⟩)
  ·exact Nat.lt_of_lt_of_le (c.hX b h) r.hp.kp.size
  ·exact r.hp.lt h1
 have hKH:∀ b,c.K b→¬ H b:=by rintro b hb ⟨n,n',_,h2,rfl⟩;exact r.hp.nk n h2 hb
 have hXH:∀ b,c.X b→¬ H b:=by rintro b hb ⟨n,n',_,h2,rfl⟩;exact r.hp.nx n h2 hb
 let c':Cx P:=⟨fun b=>b<w.heap.size∧¬ H b,fun b=>c.XX s.h β b∧¬ H b,w,βc,κc,fun _ h=>h.1,fun b h=>hsz b h.1,fun w' hk=>c.gp w' (r.hp.kp.trans hk fun b hb=>⟨r.Klt b hb,hKH b hb⟩)⟩
 have hlk:∀ j,lk .gone (hand ps s.h) j=match rk (swp ps) j with | some k=>AO.ren ps (lk .gone s.h k) | none=>.gone:=fun j=>uo hinj j
 have hlvh:∀ n',lv (hand ps s.h) n'→∃ n,τ n n'∧lv s.h n:=by
  rintro n' (h1 | ⟨m,i,rfl,h1⟩)
  ·rw [hlk] at h1;cases e:rk (swp ps) n' with
   | none=>rw [e] at h1;exact h1.elim
   | some k =>
    rw [e] at h1;have e2:=(cE hinj).1 e;exact ⟨k,.inl ⟨e2,(hchk e2).2.2⟩,.inl (lN.1 h1)⟩
  ·rw [hlk] at h1;cases e:rk (swp ps) m with
   | none=>rw [e] at h1;exact h1.elim
   | some k =>
    rw [e] at h1;have e2:=(cE hinj).1 e;exact ⟨gk k i,.inr ⟨k,m,i,e2,(AO.inn_isR h1).1,rfl,rfl⟩,cV (oA.1 h1)⟩
 have hown:∀ b,own (hand ps s.h) βc b→H b:=by rintro b ⟨n',h1,h2⟩;obtain ⟨n,h3,h4⟩:=hlvh n' h1;exact ⟨n,n',h3,h4,by rw [← h2];exact (hβτ n n' h3).symm⟩
 have hHX:∀ b,H b→c.XX s.h β b:=by rintro b ⟨n,n',_,h1,rfl⟩;exact .inr ⟨n,h1,rfl⟩
 have hXin:∀ b,¬ c.XX s.h β b→b<w.heap.size→¬ c'.XX (hand ps s.h) βc b:=by
  rintro b hb _ (h | h)
  ·exact hb h.1
  ·exact hb (hHX b (hown b h))
 have hrel:fy c' (hand ps s.h) c'.W c'.β c'.κ:=by
  refine ⟨fun j => ?_,fun i j hi hj e => ?_,dy.refl _ _,fun j hj => ?_,fun j hj => ?_,fun _ _ _=>⟨rfl,rfl⟩,fun j hj => ?_⟩
  ·rw [hlk];cases e:rk (swp ps) j with
   | none=>trivial
   | some k =>
    have e2:=(cE hinj).1 e;exact (r.hp.ob k).ren (X':=c'.XX (hand ps s.h) βc) hβ hXin (hβ _ _ e2) (fun i hi _=>hβv _ _ e2 i hi)
  ·obtain ⟨n1,h1,h2⟩:=hlvh i hi;obtain ⟨n2,h3,h4⟩:=hlvh j hj;have e3:β n1=β n2:=by rw [← hβτ n1 i h1,← hβτ n2 j h3];exact e
   have:=r.hp.inj n1 n2 h2 h4 e3;subst this;exact hτi h1 h3
  ·exact fun h=>h.2 (hown _ ⟨j,hj,rfl⟩)
  ·exact fun h=>h.2 (hown _ ⟨j,hj,rfl⟩)
  ·have hj:lk .gone (hand ps s.h) j ≠ .gone:=hj;rw [hlk] at hj;cases e:rk (swp ps) j with
   | none=>rw [e] at hj;exact absurd rfl hj
   | some k=>exact (hchk ((cE hinj).1 e)).2.1
 have hcall:=hc c' vs.toList (by simp [a1]) hrel (fun i hi=>by have e:(args0.map (AV.ren ps)).getD i .any=AV.ren ps (args0.getD i .any):=getD_map (AV.ren ps) _ i .any .any rfl;rw [e];exact (a2 i (by simpa using hi)).ren hβ hXin)
 simp only [Array.toArray_toList] at hcall;refine hcall.mono fun e w' ⟨V,v,h',β',κ',e1,hp,hr',hG⟩ => ?_;subst e1;obtain ⟨s',h2,h3⟩:=hN v h' hp;have r1:=r.pg d;have hd6:d<1000000:=by omega
 let β2:Nat→Nat:=uk (fun k=>if k=d then β' 0 else β k) (fun k i=>if k=d∧(lk .gone h' 0).isR=true then β' (gk 0 i) else match rk ps k with | some j=>β' (gk j i) | none=>β (gk k i))
 let κ2:Nat→Nat×Nat:=uk (fun k=>if k=d then κ' 0 else κ k) (fun k i=>if k=d∧(lk .gone h' 0).isR=true then κ' (gk 0 i) else match rk ps k with | some j=>κ' (gk j i) | none=>κ (gk k i))
 have b2d:β2 d=β' 0∧κ2 d=κ' 0:=⟨by simp only [β2,fk hd6,if_pos],by simp only [κ2,fk hd6,if_pos]⟩;have b2dv:∀ i,i<1000000→(lk .gone h' 0).isR=true→β2 (gk d i)=β' (gk 0 i)∧κ2 (gk d i)=κ' (gk 0 i):=fun i hi hz=>⟨by simp [β2,dJ hi,hz],by simp [κ2,dJ hi,hz]⟩;have b2n:∀ k,k<1000000→k≠d→β2 k=β k∧κ2 k=κ k:=fun k hk h=>⟨by simp only [β2,fk hk,if_neg h],by simp only [κ2,fk hk,if_neg h]⟩;have hne:∀ {k j},rk ps k=some j→k≠d:=fun h e=>by rw [e,hnd] at h;cases h
 have b2v:∀ k i,i<1000000→k≠d→rk ps k=none→β2 (gk k i)=β (gk k i)∧κ2 (gk k i)=κ (gk k i):=fun k i hi h h4=>⟨by simp only [β2,dJ hi,if_neg (show ¬ (k=d∧(lk .gone h' 0).isR=true) from fun e=>h e.1),h4],by simp only [κ2,dJ hi,if_neg (show ¬ (k=d∧(lk .gone h' 0).isR=true) from fun e=>h e.1),h4]⟩;have b2h:∀ k j i,i<1000000→rk ps k=some j→β2 (gk k i)=β' (gk j i)∧κ2 (gk k i)=κ' (gk j i):=fun k j i hi h=>⟨by simp only [β2,dJ hi,if_neg (show ¬ (k=d∧(lk .gone h' 0).isR=true) from fun e=>hne h e.1),h],by simp only [κ2,dJ hi,if_neg (show ¬ (k=d∧(lk .gone h' 0).isR=true) from fun e=>hne h e.1),h]⟩;have hfix:∀ k j,rk ps k=some j→β2 k=β' j∧κ2 k=κ' j:=fun k j h=>by obtain ⟨f1,f2⟩:=hr'.fix j (hchk h).1 (hchk h).2.1;rw [(b2n k (hchk h).2.2 (hne h)).1,(b2n k (hchk h).2.2 (hne h)).2];exact ⟨by rw [f1];exact (hβ k j h).1.symm,by rw [f2];exact (hβ k j h).2.symm⟩
 have hfq:∀ j k,rk ((0,d)::swp ps) j=some k→β2 k=β' j∧κ2 k=κ' j:=fun j k h=>by
  simp only [rk] at h;by_cases e:j=0
  ·subst e;simp only [Nat.beq_refl,cond_true,LK] at h;subst h;exact b2d
  ·rw [dm e] at h;exact hfix k j ((cE hinj).1 h)
 have hb:∀ k,lk .gone (lY ps d h' s.h) k=if k=d then AO.ren ((0,d)::swp ps) (lk .gone h' 0) else match rk ps k with | some j=>AO.ren ((0,d)::swp ps) (lk .gone h' j) | none=>AO.pg d (lk .gone s.h k):=fun k=>by unfold lY;rw [be,DG,fc]
 have hnH:∀ n,lv s.h n→(∀ n',¬ τ n n')→¬ H (β n):=by rintro n hn hk ⟨n2,n2',h1,h4,h5⟩;have:=r.hp.inj n2 n h4 hn h5;subst this;exact hk _ h1
 have hnkj:∀ j,lv h' j→¬ c.K (β' j):=fun j hj hk=>hr'.nk j hj ⟨r.Klt _ hk,hKH _ hk⟩;have hnxj:∀ j,lv h' j→¬ c.X (β' j):=fun j hj hk=>hr'.nx j hj ⟨.inl hk,hXH _ hk⟩;have hin:∀ j,lv h' j→β' j<w.heap.size→H (β' j):=fun j hj hlt=>Classical.byContradiction fun hn=>hr'.nk j hj ⟨hlt,hn⟩;let ζ0:Nat→Nat:=fun j=>if j=0 then d else (rk (swp ps) j).getD 0
 let ζ:Nat→Nat:=uk ζ0 (fun j i=>gk (ζ0 j) i)
 have hζd:ζ0 0=d:=if_pos rfl;have hζp:∀ {k j},rk ps k=some j→ζ0 j=k:=fun {k j} h=>by have h1:=(cE hinj).2 h;have h2:=(hchk h).1;simp only [ζ0,if_neg (show j≠0 by omega),h1];rfl
 have hcase:∀ n,lv (lY ps d h' s.h) n→(∃ j,lv h' j∧β2 n=β' j∧n=ζ j)∨(lv s.h n∧β2 n=β n∧¬ H (β n)):=by
  rintro n (hk | ⟨m,i,rfl,hk⟩)
  ·rw [hb] at hk;by_cases e:n=d
   ·rw [if_pos e] at hk;exact .inl ⟨0,.inl (lN.1 hk),by rw [e];exact b2d.1,by rw [e];show d=uk ζ0 _ 0;rw [fk (by decide),hζd]⟩
   ·rw [if_neg e] at hk;cases e2:rk ps n with
    | none =>
     rw [e2] at hk;have hk:(lk .gone s.h n).live:=by simpa [AO.live_pg] using hk
     have hn6:=r.hp.sm n hk;refine .inr ⟨.inl hk,(b2n n hn6 e).1,hnH n (.inl hk) ?_⟩;rintro n' (⟨g,_⟩ | ⟨k,j,i,_,_,rfl,_⟩)
     ·rw [e2] at g;cases g
     ·have:=dN k i;omega
    | some j =>
     rw [e2] at hk;refine .inl ⟨j,.inl (lN.1 hk),(hfix n j e2).1,?_⟩;show n=uk ζ0 _ j;rw [fk (hchk e2).2.1,hζp e2]
  ·rw [hb] at hk;by_cases e:m=d
   ·rw [if_pos e] at hk;have hk:=oA.1 hk;have hi:=(AO.inn_isR hk).1;refine .inl ⟨gk 0 i,cV hk,by rw [e];exact (b2dv i hi (AO.inn_isR hk).2).1,?_⟩;show gk m i=uk ζ0 _ (gk 0 i);rw [dJ hi,hζd,e]
   ·rw [if_neg e] at hk;cases e2:rk ps m with
    | none =>
     rw [e2] at hk;have hk:(lk .gone s.h m).inn i:=by simpa only [AO.inn_pg] using hk
     have hi:=(AO.inn_isR hk).1;refine .inr ⟨cV hk,(b2v m i hi e e2).1,hnH _ (cV hk) ?_⟩;rintro n' (⟨_,g⟩ | ⟨k,j,i',g,hi',e3,_⟩)
     ·have:=dN m i;omega
     ·obtain ⟨rfl,rfl⟩:=jy hi hi' e3;rw [e2] at g;cases g
    | some j =>
     rw [e2] at hk;have hk:=oA.1 hk;have hi:=(AO.inn_isR hk).1;refine .inl ⟨gk j i,cV hk,(b2h m j i hi e2).1,?_⟩;show gk m i=uk ζ0 _ (gk j i);rw [dJ hi,hζp e2]
 have hA:∀ b,¬ c.XX s.h β b→b<w.heap.size→¬ c.XX (lY ps d h' s.h) β2 b:=by
  rintro b hb1 hlt (h | ⟨k,hk,rfl⟩)
  ·exact hb1 (.inl h)
  ·rcases hcase k hk with ⟨j,hj,e,_⟩ | ⟨hkl,e,_⟩
   ·rw [e] at hb1 hlt;exact hb1 (hHX _ (hin j hj hlt))
   ·rw [e] at hb1;exact hb1 (.inr ⟨k,hkl,rfl⟩)
 have hB:∀ b,¬ c'.XX h' β' b→b<w'.heap.size→¬ c.XX (lY ps d h' s.h) β2 b:=by
  rintro b hb1 _ (h | ⟨k,hk,rfl⟩)
  ·exact hb1 (.inl ⟨.inl h,hXH _ h⟩)
  ·rcases hcase k hk with ⟨j,hj,e,_⟩ | ⟨hkl,e,e2⟩
   ·rw [e] at hb1;exact hb1 (.inr ⟨j,hj,rfl⟩)
   ·rw [e] at hb1;exact hb1 (.inl ⟨.inr ⟨k,hkl,rfl⟩,e2⟩)
 have hC:∀ b,¬ c.XX s.h β b→b<w.heap.size→w'.heap[b]? = w.heap[b]? := fun b hb1 hlt=>hr'.kp.block b ⟨hlt,fun h=>hb1 (hHX b h)⟩;have hXX1:c.XX (fZ d s.h) β=c.XX s.h β:=by funext b;simp only [Cx.XX,uA]
 have hSK:∀ j,j≠d→j<1000000→rk ps j=none→SK β β2 κ κ2 j:=fun j h1 h2 h3=>⟨(b2n j h2 h1).1,(b2n j h2 h1).2,fun i hi=>b2v j i hi h1 h3⟩;have hSK2:ps=[]→(lk .gone h' 0).isR=false→∀ j,j≠d→SK β β2 κ κ2 j:=by
  intro hp0 hz;have key:∀ n,n≠d→β2 n=β n∧κ2 n=κ n:=by
   intro n hn;by_cases h6:n<1000000
   ·exact b2n n h6 hn
   ·have e0:gk (n / 1000000-1) (n % 1000000)=n:=by unfold gk;omega
    have hz2:∀ k,¬ (k=d∧(lk .gone h' 0).isR=true):=fun k h=>by rw [hz] at h;cases h.2
    constructor
    ·simp only [β2,uk,if_neg h6,if_neg (hz2 _),hp0,rk,e0]
    ·simp only [κ2,uk,if_neg h6,if_neg (hz2 _),hp0,rk,e0]
  exact fun j hj=>⟨(key j hj).1,(key j hj).2,fun i _=>key _ (by have:=dN j i;omega)⟩
 have r2:Rel c ⟨s.n,nH d s.t,lY ps d h' s.h⟩ a w' β2 κ2:=by
  refine ⟨r.df,r.sz,fun i => ?_,⟨fun k => ?_,fun i j hi hj e => ?_,r.hp.kp.trans hr'.kp fun b hb1=>⟨r.Klt b hb1,hKH b hb1⟩,fun k hk => ?_,fun k hk => ?_,fun k hk hk6 => ?_,fun k hk => ?_⟩⟩
  ·show G w' (c.XX (lY ps d h' s.h) β2) β2 κ2 (lk .any (nH d s.t) i) _;rw [fQ];rcases hnoR with hnoR | ⟨hp0,hz⟩;case inr=>exact ((r.tm i).pg d).mono hC hA (fun j hj=>hSK2 hp0 (hz v h' hp) j (fun e=>by rw [e,AV.men_pg] at hj;cases hj))
   have hR:=AV.hasR_pg (k:=d) (AS.noR_t hnoR i);exact ((r.tm i).pg d).mono2 hC hA hR (fun j hj=>b2n j (men_lt hR hj) (fun e=>by rw [e,AV.men_pg] at hj;cases hj))
  ·show HO w' (c.XX (lY ps d h' s.h) β2) β2 κ2 k (lk .gone (lY ps d h' s.h) k);rw [hb];by_cases e:k=d
   ·rw [if_pos e,e];exact (hr'.ob 0).ren (X':=c.XX (lY ps d h' s.h) β2) hfq hB b2d (fun i hi hz=>b2dv i hi hz)
   ·rw [if_neg e];cases e2:rk ps k with
    | none =>
     by_cases hg0:lk .gone s.h k = .gone
     ·rw [hg0];trivial
     ·have hk6:=r.hp.sg k hg0;have hmono:((AO.pg d (lk .gone s.h k)).live→w'.heap[β k]? = w.heap[β k]?)→(∀ i,(AO.pg d (lk .gone s.h k)).inn i→w'.heap[β (gk k i)]? = w.heap[β (gk k i)]?)→HO w' (c.XX (lY ps d h' s.h) β2) β2 κ2 k (AO.pg d (lk .gone s.h k)):=fun q1 q2=>by
       rcases hnoR with hnoR | ⟨hp0,hz⟩
       ·have hR:=AO.hasR_pg (k:=d) (AS.noR_h hnoR k);exact ((r.hp.ob k).pg (j:=d)).mono2 hC hA hR (fun j hj=>b2n j (AO.men_lt hR hj) (fun e=>by rw [e,AO.men_pg] at hj;cases hj)) (hSK k e hk6 e2) q1 q2
       ·exact ((r.hp.ob k).pg (j:=d)).mono hC hA (fun j hj=>hSK2 hp0 (hz v h' hp) j (fun e=>by rw [e,AO.men_pg] at hj;cases hj)) (hSK k e hk6 e2) q1 q2
      refine hmono (fun hkl => ?_) (fun i hkl => ?_)
      ·have hkl:(lk .gone s.h k).live:=by simpa [AO.live_pg] using hkl
       refine hr'.kp.block _ ⟨r.hp.lt (.inl hkl),hnH k (.inl hkl) ?_⟩;rintro n' (⟨g,_⟩ | ⟨m,j,i,_,_,rfl,_⟩)
       ·rw [e2] at g;cases g
       ·have:=dN m i;omega
      ·have hkl:(lk .gone s.h k).inn i:=by simpa only [AO.inn_pg] using hkl
       have hi:=(AO.inn_isR hkl).1;refine hr'.kp.block _ ⟨r.hp.lt (cV hkl),hnH _ (cV hkl) ?_⟩;rintro n' (⟨_,g⟩ | ⟨m,j,i',g,hi',e3,_⟩)
       ·have:=dN k i;omega
       ·obtain ⟨rfl,rfl⟩:=jy hi hi' e3;rw [e2] at g;cases g
    | some j=>exact (hr'.ob j).ren (X':=c.XX (lY ps d h' s.h) β2) hfq hB (hfix k j e2) (fun i hi _=>b2h k j i hi e2)
  ·rcases hcase i hi with ⟨ji,hji,ei,ci⟩ | ⟨li,ei,ni⟩<;>rcases hcase j hj with ⟨jj,hjj,ej,cj⟩ | ⟨lj,ej,nj⟩
   ·have e3:ji=jj:=hr'.inj ji jj hji hjj (by rw [← ei,← ej];exact e);rw [ci,cj,e3]
   ·have e3:β' ji=β j:=by rw [← ei,← ej];exact e
    exact absurd (hin ji hji (by rw [e3];exact r.hp.lt lj)) (by rw [e3];exact nj)
   ·have e3:β' jj=β i:=by rw [← ej,← ei];exact e.symm
    exact absurd (hin jj hjj (by rw [e3];exact r.hp.lt li)) (by rw [e3];exact ni)
   ·exact r.hp.inj i j li lj (by rw [← ei,← ej];exact e)
  ·rcases hcase k hk with ⟨j,hj,e,_⟩ | ⟨hkl,e,_⟩
   ·rw [e];exact hnkj j hj
   ·rw [e];exact r.hp.nk k hkl
  ·rcases hcase k hk with ⟨j,hj,e,_⟩ | ⟨hkl,e,_⟩
   ·rw [e];exact hnxj j hj
   ·rw [e];exact r.hp.nx k hkl
  ·have e:k≠d:=by omega
   rw [(b2n k hk6 e).1,(b2n k hk6 e).2];exact r.hp.fix k hk hk6
  ·have hk:lk .gone (lY ps d h' s.h) k ≠ .gone:=hk;rw [hb] at hk;by_cases e:k=d
   ·omega
   ·rw [if_neg e] at hk;cases e2:rk ps k with
    | none=>rw [e2] at hk;exact r.hp.sg k (fun e3=>hk (by rw [e3];rfl))
    | some j=>exact (hchk e2).2.2
 exact hK s' _ w' β2 κ2 h3 (cZ r2 (hG.ren hfq hB) h2)
theorem CJ {f:FuncId} (he:Go.Proofs.Enters P f) {x:Operand} {ar:Array Operand} {tys:Array TypeId} (hop:o.op = .call ⟨.value x,ar,tys⟩) {caps:List AV} (hx:s.op x = .fn f caps) :
 ∀ (c:Cx P) a w β κ,Rel c s a w β κ→∃ vs:Array Value,(execOp a.eval o).run P w = .ok (.enter f vs) w∧vs.size=(s.args ar caps).length∧∀ i,i<(s.args ar caps).length→G w (c.XX s.h β) β κ ((s.args ar caps).getD i .any) (vs.toList.getD i undef):=fun c a w β κ r=>by
 have hX:=r.op x;rw [hx] at hX;obtain ⟨Vs,eV,hl,hgs⟩:=hX.fn_inv;obtain ⟨a1,a2⟩:=qy r ar hl hgs;exact ⟨_,zU he hop eV,a1,a2⟩
theorem DR {f:FuncId} (he:Go.Proofs.Enters P f) {x:Operand} {ar:Array Operand} {tys:Array TypeId} (hop:o.op = .call ⟨.value x,ar,tys⟩) {k off:Nat} (hx:s.op x = .bm f k off) :
 ∀ (c:Cx P) a w β κ,Rel c s a w β κ→∃ vs:Array Value,(execOp a.eval o).run P w = .ok (.enter f vs) w∧vs.size=(AV.hptr k off::s.args ar []).length∧∀ i,i<(AV.hptr k off::s.args ar []).length→G w (c.XX s.h β) β κ ((AV.hptr k off::s.args ar []).getD i .any) (vs.toList.getD i undef):=fun c a w β κ r=>by
 have hX:=r.op x;rw [hx] at hX;obtain ⟨a1,a2⟩:=qy (caps:=[]) (Vs := #[]) r ar rfl (fun i hi=>by simp at hi);refine ⟨#[.pointer (some ⟨β k,off,none⟩)]++(ar.map a.eval ++ #[]),?_,by simp [← a1];omega,fun i hi => ?_⟩
 ·simp only [execOp,hop,resolve,hX.bm_inv,Deferred.ofValue,pure_bind,invoke,Array.append_empty];exact he _ w
 ·cases i with
  | zero =>
   have:(#[Value.pointer (some ⟨β k,off,none⟩)]++(ar.map a.eval ++ #[])).toList.getD 0 undef = .pointer (some ⟨β k,off,none⟩):=by simp
   rw [this];exact .hptr k off
  | succ i =>
   have:=a2 i (by simpa using hi);simpa using this
end
abbrev Ll:=List (List UInt8×Option (List (List AV)))
abbrev Cn:List UInt8×Option (List (List AV)):=([],none)
section
variable {P:Program} {ops:Array Oper} {o:Oper} {s:AS} {c:Cx P} {a:Act} {w:World} {β:Nat→Nat} {κ:Nat→Nat×Nat}
def AS.take (s:AS) (k q:Nat) (e:TypeId) (sz:Nat) (zs:List (List AV)) (es':Ll):AS :=
 ⟨s.n,ins q (.rslice q) (nH q s.t),ins q (.row e sz zs) (fZ q (ins k (.rmap e sz es') s.h))⟩
end
def Eo (ds:List (Nat×Nat)) (t:List (Nat×AV)):List (Nat×AV):=ds.foldr (fun p t=>nH p.2 t) t
def J4 (ds:List (Nat×Nat)) (h:List (Nat×AO)):List (Nat×AO):=ds.foldr (fun p h=>fZ p.2 h) h
def AV.pgs (ds:List (Nat×Nat)) (v:AV):AV:=ds.foldr (fun p v=>AV.pg p.2 v) v
def AO.pgs (ds:List (Nat×Nat)) (o:AO):AO:=ds.foldr (fun p o=>AO.pg p.2 o) o
theorem DP (t:List (Nat×AV)) (i:Nat):∀ ds:List (Nat×Nat),lk .any (Eo ds t) i=AV.pgs ds (lk .any t i)
 | []=>rfl
 | p::ds=>by show lk .any (nH p.2 (Eo ds t)) i=AV.pg p.2 (AV.pgs ds (lk .any t i));rw [fQ,DP t i ds]
theorem DF (h:List (Nat×AO)) (i:Nat):∀ ds:List (Nat×Nat),lk .gone (J4 ds h) i=AO.pgs ds (lk .gone h i)
 | []=>rfl
 | p::ds=>by show lk .gone (fZ p.2 (J4 ds h)) i=AO.pg p.2 (AO.pgs ds (lk .gone h i));rw [fc,DF h i ds]
theorem men_pgs {n j:Nat} {v:AV}:∀ {ds:List (Nat×Nat)},(j,n)∈ds→AV.men n (AV.pgs ds v)=false
 | p::ds,h=>by
  show AV.men n (AV.pg p.2 (AV.pgs ds v))=false;rcases List.mem_cons.1 h with h | h
  ·rw [← h];exact AV.men_pg n _
  ·rw [Bool.eq_false_iff];intro h2;exact absurd (AV.men_pg' h2) (by rw [men_pgs h];simp)
theorem AO.men_pgs {n j:Nat} {v:AO}:∀ {ds:List (Nat×Nat)},(j,n)∈ds→AO.men n (AO.pgs ds v)=false
 | p::ds,h=>by
  show AO.men n (AO.pg p.2 (AO.pgs ds v))=false;rcases List.mem_cons.1 h with h | h
  ·rw [← h];exact AO.men_pg n _
  ·rw [Bool.eq_false_iff];intro h2;exact absurd (AO.men_pg' h2) (by rw [AO.men_pgs h];simp)
theorem AO.live_pgs (o:AO):∀ ds:List (Nat×Nat),(AO.pgs ds o).live=o.live
 | []=>rfl
 | p::ds=>by show (AO.pg p.2 (AO.pgs ds o)).live=_;rw [AO.live_pg,AO.live_pgs o ds]
theorem AO.inn_pgs (o:AO) (j:Nat):∀ ds:List (Nat×Nat),(AO.pgs ds o).inn j=o.inn j
 | []=>rfl
 | p::ds=>by show (AO.pg p.2 (AO.pgs ds o)).inn j=_;rw [AO.inn_pg,AO.inn_pgs o j ds]
theorem AO.pgs_gone:∀ ds:List (Nat×Nat),AO.pgs ds .gone = .gone
 | []=>rfl
 | p::ds=>by show AO.pg p.2 (AO.pgs ds .gone)=_;rw [AO.pgs_gone ds];rfl
theorem AV.hasR_pgs {v:AV}:∀ (ds:List (Nat×Nat)),AV.hasR v=false→AV.hasR (AV.pgs ds v)=false
 | [],h=>h
 | p::ds,h=>AV.hasR_pg (v:=AV.pgs ds v) (AV.hasR_pgs ds h)
theorem AO.hasR_pgs {v:AO}:∀ (ds:List (Nat×Nat)),AO.hasR v=false→AO.hasR (AO.pgs ds v)=false
 | [],h=>h
 | p::ds,h=>AO.hasR_pg (o:=AO.pgs ds v) (AO.hasR_pgs ds h)
theorem G.pgs {w:World} {X:Nat→Prop} {β:Nat→Nat} {κ:Nat→Nat×Nat} {v:AV} {V:Value}:∀ (ds:List (Nat×Nat)),G w X β κ v V→G w X β κ (AV.pgs ds v) V
 | [],h=>h
 | p::ds,h=>(G.pgs ds h).pg p.2
theorem HO.pgs {w:World} {X:Nat→Prop} {β:Nat→Nat} {κ:Nat→Nat×Nat} {k:Nat} {o:AO}:∀ (ds:List (Nat×Nat)),HO w X β κ k o→HO w X β κ k (AO.pgs ds o)
 | [],h=>h
 | p::ds,h=>(HO.pgs ds h).pg (j:=p.2)
theorem xF (i:Nat):∀ (l m:List (Nat×Nat)),rk (l++m) i=match rk l i with | some j=>some j | none=>rk m i
 | [],m=>rfl
 | (k,j)::l,m=>by
  simp only [List.cons_append,rk];cases Nat.beq i k with
  | true=>rfl
  | false=>exact xF i l m
def lr (ps ds:List (Nat×Nat)) (h' h:List (Nat×AO)):List (Nat×AO):=bk (ds++swp ps) h' (swp ds) (bk (ds++swp ps) h' ps (J4 ds h))
section
variable {P:Program} {ops:Array Oper} {o:Oper} {s:AS}
theorem Gu {f:FuncId} (he:Go.Proofs.Enters P f) {x:Operand} {ar:Array Operand} {tys:Array TypeId} (hg:gd ops s o=some true) (hop:o.op = .call ⟨.value x,ar,tys⟩) {args0:List AV}
 (hx:∀ (c:Cx P) a w β κ,Rel c s a w β κ→∃ vs:Array Value,(execOp a.eval o).run P w = .ok (.enter f vs) w∧vs.size=args0.length∧∀ i,i<args0.length→G w (c.XX s.h β) β κ (args0.getD i .any) (vs.toList.getD i undef))
 (ps ds:List (Nat×Nat)) (hps:(oU ps&&(ps.all fun p=>Nat.ble 1000 p.2&&(Nat.blt p.2 1000000&&Nat.blt p.1 1000000))&&oU ds&&ds.all fun p=>(rk ps p.2).isNone&&(Nat.blt p.1 1000&&Nat.blt p.2 1000))=true) {Post:AV→List (Nat×AO)→Prop} (hnoR:s.noR=true∨(ps=[]∧∀ v h',Post v h'→∀ j,(lk .gone h' j).isR=false)) {args:List AV} (hargs:args0.map (AV.ren ps)=args) {h0:List (Nat×AO)} (hh:hand ps s.h=h0) (hc:bY P f args h0 Post) {N:AS→Prop}
 (hN:∀ v h',Post v h'→∃ s',AS.put ⟨s.n,Eo ds s.t,lr ps ds h' s.h⟩ o.dst (AV.ren (ds++swp ps) v)=some s'∧N s'):mA P ops o s N:=fun c a w β κ r K Q hK=>by
 subst hargs;subst hh;simp only [LB] at hps;obtain ⟨⟨⟨hinj,hlv⟩,hinjd⟩,hdall⟩:=hps;have hds:∀ {j d},rk ds j=some d→rk ps d=none∧j<1000∧d<1000:=fun h=>by have:=LN.1 hdall _ (ou h);simp only [LB,Nat.blt_eq] at this;exact ⟨by simpa using this.1,this.2⟩
 have hdp:∀ {k j},rk ps k=some j→rk (swp ds) k=none:=fun {k j} h=>by
  cases e:rk (swp ds) k with
  | none=>rfl
  | some j2 =>
   have:=(hds ((cE hinjd).1 e)).1;rw [h] at this;cases this
 have hchk:∀ {k j},rk ps k=some j→1000≤j∧j<1000000∧k<1000000:=fun h=>by have:=LN.1 hlv _ (ou h);simp only [LB,Nat.ble_eq,Nat.blt_eq] at this;exact this
 rw [oo r hg];simp only [if_true];obtain ⟨vs,hrun,a1,a2⟩:=hx c a w β κ r;unfold Oper.wp;rw [hrun];let τ:Nat→Nat→Prop:=fun n n'=>(rk ps n=some n'∧n<1000000)∨∃ k j i,rk ps k=some j∧i<1000000∧n=gk k i∧n'=gk j i
 let H:Nat→Prop:=fun b=>∃ n n',τ n n'∧lv s.h n∧β n=b
 let βc:Nat→Nat:=uk (fun j=>match rk (swp ps) j with | some k=>β k | none=>0) (fun j i=>match rk (swp ps) j with | some k=>β (gk k i) | none=>0)
 let κc:Nat→Nat×Nat:=uk (fun j=>match rk (swp ps) j with | some k=>κ k | none=>(0,0)) (fun j i=>match rk (swp ps) j with | some k=>κ (gk k i) | none=>(0,0))
 have hβ:∀ k j,rk ps k=some j→βc j=β k∧κc j=κ k:=by intro k j h;have h2:=(cE hinj).2 h;have h3:=(hchk h).2.1;exact ⟨by simp only [βc,fk h3,h2],by simp only [κc,fk h3,h2]⟩
 have hβv:∀ k j,rk ps k=some j→∀ i,i<1000000→βc (gk j i)=β (gk k i)∧κc (gk j i)=κ (gk k i):=by intro k j h i hi;have h2:=(cE hinj).2 h;exact ⟨by simp only [βc,dJ hi,h2],by simp only [κc,dJ hi,h2]⟩
 have hβτ:∀ n n',τ n n'→βc n'=β n:=by
  rintro n n' (⟨h,_⟩ | ⟨k,j,i,h,hi,rfl,rfl⟩)
  ·exact (hβ _ _ h).1
  ·exact (hβv _ _ h i hi).1
 have hτi:∀ {n n1 n2},τ n n1→τ n n2→n1=n2:=by
  rintro n n1 n2 (⟨h,h'⟩ | ⟨k,j,i,h,hi,rfl,rfl⟩) (⟨g,g'⟩ | ⟨k2,j2,i2,g,hi2,e,rfl⟩)
  ·rw [h] at g;exact LM g
  ·have:=dN k2 i2;omega
  ·have:=dN k i;omega
  ·obtain ⟨rfl,rfl⟩:=jy hi hi2 e;rw [h] at g;rw [LM g]
 have hsz:∀ b,c.XX s.h β b→b<w.heap.size:=by
  rintro b (h | ⟨k,h1,rfl⟩)
  ·exact Nat.lt_of_lt_of_le (c.hX b h) r.hp.kp.size
  ·exact r.hp.lt h1
 have hKH:∀ b,c.K b→¬ H b:=by rintro b hb ⟨n,n',_,h2,rfl⟩;exact r.hp.nk n h2 hb
 have hXH:∀ b,c.X b→¬ H b:=by rintro b hb ⟨n,n',_,h2,rfl⟩;exact r.hp.nx n h2 hb
 let c':Cx P:=⟨fun b=>b<w.heap.size∧¬ H b,fun b=>c.XX s.h β b∧¬ H b,w,βc,κc,fun _ h=>h.1,fun b h=>hsz b h.1,fun w' hk=>c.gp w' (r.hp.kp.trans hk fun b hb=>⟨r.Klt b hb,hKH b hb⟩)⟩
 have hlk:∀ j,lk .gone (hand ps s.h) j=match rk (swp ps) j with | some k=>AO.ren ps (lk .gone s.h k) | none=>.gone:=fun j=>uo hinj j
 have hlvh:∀ n',lv (hand ps s.h) n'→∃ n,τ n n'∧lv s.h n:=by
  rintro n' (h1 | ⟨m,i,rfl,h1⟩)
  ·rw [hlk] at h1;cases e:rk (swp ps) n' with
   | none=>rw [e] at h1;exact h1.elim
   | some k =>
    rw [e] at h1;have e2:=(cE hinj).1 e;exact ⟨k,.inl ⟨e2,(hchk e2).2.2⟩,.inl (lN.1 h1)⟩
  ·rw [hlk] at h1;cases e:rk (swp ps) m with
   | none=>rw [e] at h1;exact h1.elim
   | some k =>
    rw [e] at h1;have e2:=(cE hinj).1 e;exact ⟨gk k i,.inr ⟨k,m,i,e2,(AO.inn_isR h1).1,rfl,rfl⟩,cV (oA.1 h1)⟩
 have hown:∀ b,own (hand ps s.h) βc b→H b:=by rintro b ⟨n',h1,h2⟩;obtain ⟨n,h3,h4⟩:=hlvh n' h1;exact ⟨n,n',h3,h4,by rw [← h2];exact (hβτ n n' h3).symm⟩
 have hHX:∀ b,H b→c.XX s.h β b:=by rintro b ⟨n,n',_,h1,rfl⟩;exact .inr ⟨n,h1,rfl⟩
 have hXin:∀ b,¬ c.XX s.h β b→b<w.heap.size→¬ c'.XX (hand ps s.h) βc b:=by
  rintro b hb _ (h | h)
  ·exact hb h.1
  ·exact hb (hHX b (hown b h))
 have hrel:fy c' (hand ps s.h) c'.W c'.β c'.κ:=by
  refine ⟨fun j => ?_,fun i j hi hj e => ?_,dy.refl _ _,fun j hj => ?_,fun j hj => ?_,fun _ _ _=>⟨rfl,rfl⟩,fun j hj => ?_⟩
  ·rw [hlk];cases e:rk (swp ps) j with
   | none=>trivial
   | some k =>
    have e2:=(cE hinj).1 e;exact (r.hp.ob k).ren (X':=c'.XX (hand ps s.h) βc) hβ hXin (hβ _ _ e2) (fun i hi _=>hβv _ _ e2 i hi)
  ·obtain ⟨n1,h1,h2⟩:=hlvh i hi;obtain ⟨n2,h3,h4⟩:=hlvh j hj;have e3:β n1=β n2:=by rw [← hβτ n1 i h1,← hβτ n2 j h3];exact e
   have:=r.hp.inj n1 n2 h2 h4 e3;subst this;exact hτi h1 h3
  ·exact fun h=>h.2 (hown _ ⟨j,hj,rfl⟩)
  ·exact fun h=>h.2 (hown _ ⟨j,hj,rfl⟩)
  ·have hj:lk .gone (hand ps s.h) j ≠ .gone:=hj;rw [hlk] at hj;cases e:rk (swp ps) j with
   | none=>rw [e] at hj;exact absurd rfl hj
   | some k=>exact (hchk ((cE hinj).1 e)).2.1
 have hcall:=hc c' vs.toList (by simp [a1]) hrel (fun i hi=>by have e:(args0.map (AV.ren ps)).getD i .any=AV.ren ps (args0.getD i .any):=getD_map (AV.ren ps) _ i .any .any rfl;rw [e];exact (a2 i (by simpa using hi)).ren hβ hXin)
 simp only [Array.toArray_toList] at hcall;refine hcall.mono fun e w' ⟨V,v,h',β',κ',e1,hp,hr',hG⟩ => ?_;subst e1;obtain ⟨s',h2,h3⟩:=hN v h' hp;let β2:Nat→Nat:=uk (fun k=>match rk (swp ds) k with | some j=>β' j | none=>β k) (fun k i=>match rk (swp ds) k with | some j=>(if (lk .gone h' j).isR=true then β' (gk j i) else β (gk k i)) | none=>match rk ps k with | some j=>β' (gk j i) | none=>β (gk k i))
 let κ2:Nat→Nat×Nat:=uk (fun k=>match rk (swp ds) k with | some j=>κ' j | none=>κ k) (fun k i=>match rk (swp ds) k with | some j=>(if (lk .gone h' j).isR=true then κ' (gk j i) else κ (gk k i)) | none=>match rk ps k with | some j=>κ' (gk j i) | none=>κ (gk k i))
 have b2d:∀ k j,rk (swp ds) k=some j→β2 k=β' j∧κ2 k=κ' j:=fun k j h=>by
  have h6:k<1000000:=by have:=(hds ((cE hinjd).1 h)).2.2;omega
  exact ⟨by simp only [β2,fk h6,h],by simp only [κ2,fk h6,h]⟩
 have b2dv:∀ k j,rk (swp ds) k=some j→∀ i,i<1000000→(lk .gone h' j).isR=true→β2 (gk k i)=β' (gk j i)∧κ2 (gk k i)=κ' (gk j i):=fun k j h i hi hz=>⟨by simp only [β2,dJ hi,h,if_pos hz],by simp only [κ2,dJ hi,h,if_pos hz]⟩;have b2n:∀ k,k<1000000→rk (swp ds) k=none→β2 k=β k∧κ2 k=κ k:=fun k hk h=>⟨by simp only [β2,fk hk,h],by simp only [κ2,fk hk,h]⟩;have b2v:∀ k i,i<1000000→rk (swp ds) k=none→rk ps k=none→β2 (gk k i)=β (gk k i)∧κ2 (gk k i)=κ (gk k i):=fun k i hi h h4=>⟨by simp only [β2,dJ hi,h,h4],by simp only [κ2,dJ hi,h,h4]⟩;have b2h:∀ k j i,i<1000000→rk ps k=some j→β2 (gk k i)=β' (gk j i)∧κ2 (gk k i)=κ' (gk j i):=fun k j i hi h=>⟨by simp only [β2,dJ hi,hdp h,h],by simp only [κ2,dJ hi,hdp h,h]⟩;have hfix:∀ k j,rk ps k=some j→β2 k=β' j∧κ2 k=κ' j:=fun k j h=>by obtain ⟨f1,f2⟩:=hr'.fix j (hchk h).1 (hchk h).2.1;rw [(b2n k (hchk h).2.2 (hdp h)).1,(b2n k (hchk h).2.2 (hdp h)).2];exact ⟨by rw [f1];exact (hβ k j h).1.symm,by rw [f2];exact (hβ k j h).2.symm⟩
 have hfq:∀ j k,rk (ds++swp ps) j=some k→β2 k=β' j∧κ2 k=κ' j:=fun j k h=>by
  rw [xF] at h;cases e:rk ds j with
  | some d =>
   rw [e] at h;have:=LM h;subst this;exact b2d _ _ ((cE hinjd).2 e)
  | none =>
   rw [e] at h;exact hfix k j ((cE hinj).1 h)
 have hb:∀ k,lk .gone (lr ps ds h' s.h) k=match rk (swp ds) k with | some j=>AO.ren (ds++swp ps) (lk .gone h' j) | none=>match rk ps k with | some j=>AO.ren (ds++swp ps) (lk .gone h' j) | none=>AO.pgs ds (lk .gone s.h k):=fun k=>by
  unfold lr;rw [DG,DG,DF];all_goals
   cases rk (swp ds) k with
   | some j=>rfl
   | none=>cases rk ps k<;>rfl
 have hnH:∀ n,lv s.h n→(∀ n',¬ τ n n')→¬ H (β n):=by rintro n hn hk ⟨n2,n2',h1,h4,h5⟩;have:=r.hp.inj n2 n h4 hn h5;subst this;exact hk _ h1
 have hnkj:∀ j,lv h' j→¬ c.K (β' j):=fun j hj hk=>hr'.nk j hj ⟨r.Klt _ hk,hKH _ hk⟩;have hnxj:∀ j,lv h' j→¬ c.X (β' j):=fun j hj hk=>hr'.nx j hj ⟨.inl hk,hXH _ hk⟩;have hin:∀ j,lv h' j→β' j<w.heap.size→H (β' j):=fun j hj hlt=>Classical.byContradiction fun hn=>hr'.nk j hj ⟨hlt,hn⟩;let ζ0:Nat→Nat:=fun j=>match rk ds j with | some d=>d | none=>(rk (swp ps) j).getD 0
 let ζ:Nat→Nat:=uk ζ0 (fun j i=>gk (ζ0 j) i)
 have hζd:∀ {k j},rk (swp ds) k=some j→ζ0 j=k:=fun {k j} h=>by simp only [ζ0,(cE hinjd).1 h]
 have hζp:∀ {k j},rk ps k=some j→ζ0 j=k:=fun {k j} h=>by
  have h1:=(cE hinj).2 h;have h2:=(hchk h).1;have h3:rk ds j=none:=by
   cases e:rk ds j with
   | none=>rfl
   | some d=>have:=(hds e).2.1;omega
  simp only [ζ0,h3,h1];rfl
 have hcase:∀ n,lv (lr ps ds h' s.h) n→(∃ j,lv h' j∧β2 n=β' j∧n=ζ j)∨(lv s.h n∧β2 n=β n∧¬ H (β n)):=by
  rintro n (hk | ⟨m,i,rfl,hk⟩)
  ·rw [hb] at hk;cases e:rk (swp ds) n with
   | some j =>
    rw [e] at hk;refine .inl ⟨j,.inl (lN.1 hk),(b2d n j e).1,?_⟩;show n=uk ζ0 _ j;rw [fk (by have:=(hds ((cE hinjd).1 e)).2.1;omega),hζd e]
   | none =>
    rw [e] at hk;simp only at hk;cases e2:rk ps n with
    | none =>
     rw [e2] at hk;have hk:(lk .gone s.h n).live:=by simpa [AO.live_pgs] using hk
     have hn6:=r.hp.sm n hk;refine .inr ⟨.inl hk,(b2n n hn6 e).1,hnH n (.inl hk) ?_⟩;rintro n' (⟨g,_⟩ | ⟨k,j,i,_,_,rfl,_⟩)
     ·rw [e2] at g;cases g
     ·have:=dN k i;omega
    | some j =>
     rw [e2] at hk;refine .inl ⟨j,.inl (lN.1 hk),(hfix n j e2).1,?_⟩;show n=uk ζ0 _ j;rw [fk (hchk e2).2.1,hζp e2]
  ·rw [hb] at hk;cases e:rk (swp ds) m with
   | some j =>
    rw [e] at hk;have hk:=oA.1 hk;have hi:=(AO.inn_isR hk).1;refine .inl ⟨gk j i,cV hk,(b2dv m j e i hi (AO.inn_isR hk).2).1,?_⟩;show gk m i=uk ζ0 _ (gk j i);rw [dJ hi,hζd e]
   | none =>
    rw [e] at hk;simp only at hk;cases e2:rk ps m with
    | none =>
     rw [e2] at hk;have hk:(lk .gone s.h m).inn i:=by simpa only [AO.inn_pgs] using hk
     have hi:=(AO.inn_isR hk).1;refine .inr ⟨cV hk,(b2v m i hi e e2).1,hnH _ (cV hk) ?_⟩;rintro n' (⟨_,g⟩ | ⟨k,j,i',g,hi',e3,_⟩)
     ·have:=dN m i;omega
     ·obtain ⟨rfl,rfl⟩:=jy hi hi' e3;rw [e2] at g;cases g
    | some j =>
     rw [e2] at hk;have hk:=oA.1 hk;have hi:=(AO.inn_isR hk).1;refine .inl ⟨gk j i,cV hk,(b2h m j i hi e2).1,?_⟩;show gk m i=uk ζ0 _ (gk j i);rw [dJ hi,hζp e2]
 have hA:∀ b,¬ c.XX s.h β b→b<w.heap.size→¬ c.XX (lr ps ds h' s.h) β2 b:=by
  rintro b hb1 hlt (h | ⟨k,hk,rfl⟩)
  ·exact hb1 (.inl h)
  ·rcases hcase k hk with ⟨j,hj,e,_⟩ | ⟨hkl,e,_⟩
   ·rw [e] at hb1 hlt;exact hb1 (hHX _ (hin j hj hlt))
   ·rw [e] at hb1;exact hb1 (.inr ⟨k,hkl,rfl⟩)
 have hB:∀ b,¬ c'.XX h' β' b→b<w'.heap.size→¬ c.XX (lr ps ds h' s.h) β2 b:=by
  rintro b hb1 _ (h | ⟨k,hk,rfl⟩)
  ·exact hb1 (.inl ⟨.inl h,hXH _ h⟩)
  ·rcases hcase k hk with ⟨j,hj,e,_⟩ | ⟨hkl,e,e2⟩
   ·rw [e] at hb1;exact hb1 (.inr ⟨j,hj,rfl⟩)
   ·rw [e] at hb1;exact hb1 (.inl ⟨.inr ⟨k,hkl,rfl⟩,e2⟩)
 have hC:∀ b,¬ c.XX s.h β b→b<w.heap.size→w'.heap[b]? = w.heap[b]? := fun b hb1 hlt=>hr'.kp.block b ⟨hlt,fun h=>hb1 (hHX b h)⟩;have hSK:∀ j,rk (swp ds) j=none→j<1000000→rk ps j=none→SK β β2 κ κ2 j:=fun j h1 h2 h3=>⟨(b2n j h2 h1).1,(b2n j h2 h1).2,fun i hi=>b2v j i hi h1 h3⟩;have hSK2:ps=[]→(∀ j,(lk .gone h' j).isR=false)→∀ j,rk (swp ds) j=none→SK β β2 κ κ2 j:=by
  intro hp0 hz;have key:∀ n,rk (swp ds) n=none→β2 n=β n∧κ2 n=κ n:=by
   intro n hn;by_cases h6:n<1000000
   ·exact b2n n h6 hn
   ·have e0:gk (n / 1000000-1) (n % 1000000)=n:=by unfold gk;omega
    have hi:n % 1000000<1000000:=Nat.mod_lt _ (by decide);have e1:β2 (gk (n / 1000000-1) (n % 1000000))=β (gk (n / 1000000-1) (n % 1000000))∧κ2 (gk (n / 1000000-1) (n % 1000000))=κ (gk (n / 1000000-1) (n % 1000000)):=by
     cases e:rk (swp ds) (n / 1000000-1) with
     | none=>exact b2v _ _ hi e (by rw [hp0];rfl)
     | some j=>exact ⟨by simp [β2,dJ hi,e,hz j],by simp [κ2,dJ hi,e,hz j]⟩
    rw [e0] at e1;exact e1
  exact fun j hj=>⟨(key j hj).1,(key j hj).2,fun i _=>key _ (by
   cases e:rk (swp ds) (gk j i) with
   | none=>rfl
   | some l=>have:=(hds ((cE hinjd).1 e)).2.2;have:=dN j i;omega)⟩
 have hmend:∀ {v:AV} {n:Nat},AV.men n (AV.pgs ds v)=true→rk (swp ds) n=none:=fun {v n} h=>by
  cases e:rk (swp ds) n with
  | none=>rfl
  | some j=>rw [men_pgs (ou ((cE hinjd).1 e))] at h;cases h
 have hmendO:∀ {v:AO} {n:Nat},AO.men n (AO.pgs ds v)=true→rk (swp ds) n=none:=fun {v n} h=>by
  cases e:rk (swp ds) n with
  | none=>rfl
  | some j=>rw [AO.men_pgs (ou ((cE hinjd).1 e))] at h;cases h
 have r2:Rel c ⟨s.n,Eo ds s.t,lr ps ds h' s.h⟩ a w' β2 κ2:=by
  refine ⟨r.df,r.sz,fun i => ?_,⟨fun k => ?_,fun i j hi hj e => ?_,r.hp.kp.trans hr'.kp fun b hb1=>⟨r.Klt b hb1,hKH b hb1⟩,fun k hk => ?_,fun k hk => ?_,fun k hk hk6 => ?_,fun k hk => ?_⟩⟩
  ·show G w' (c.XX (lr ps ds h' s.h) β2) β2 κ2 (lk .any (Eo ds s.t) i) _;rw [DP];rcases hnoR with hnoR | ⟨hp0,hz⟩;case inr=>exact ((r.tm i).pgs ds).mono hC hA (fun j hj=>hSK2 hp0 (hz v h' hp) j (hmend hj))
   have hR:=AV.hasR_pgs ds (AS.noR_t hnoR i);exact ((r.tm i).pgs ds).mono2 hC hA hR (fun j hj=>b2n j (men_lt hR hj) (hmend hj))
  ·show HO w' (c.XX (lr ps ds h' s.h) β2) β2 κ2 k (lk .gone (lr ps ds h' s.h) k);rw [hb];cases e:rk (swp ds) k with
   | some j=>exact (hr'.ob j).ren (X':=c.XX (lr ps ds h' s.h) β2) hfq hB (b2d k j e) (fun i hi hz=>b2dv k j e i hi hz)
   | none =>
    simp only;cases e2:rk ps k with
    | none =>
     by_cases hg0:lk .gone s.h k = .gone
     ·rw [hg0,AO.pgs_gone];trivial
     ·have hk6:=r.hp.sg k hg0;have hmono:((AO.pgs ds (lk .gone s.h k)).live→w'.heap[β k]? = w.heap[β k]?)→(∀ i,(AO.pgs ds (lk .gone s.h k)).inn i→w'.heap[β (gk k i)]? = w.heap[β (gk k i)]?)→HO w' (c.XX (lr ps ds h' s.h) β2) β2 κ2 k (AO.pgs ds (lk .gone s.h k)):=fun q1 q2=>by
       rcases hnoR with hnoR | ⟨hp0,hz⟩
       ·have hR:=AO.hasR_pgs ds (AS.noR_h hnoR k);exact ((r.hp.ob k).pgs ds).mono2 hC hA hR (fun j hj=>b2n j (AO.men_lt hR hj) (hmendO hj)) (hSK k e hk6 e2) q1 q2
       ·exact ((r.hp.ob k).pgs ds).mono hC hA (fun j hj=>hSK2 hp0 (hz v h' hp) j (hmendO hj)) (hSK k e hk6 e2) q1 q2
      refine hmono (fun hkl => ?_) (fun i hkl => ?_)
      ·have hkl:(lk .gone s.h k).live:=by simpa [AO.live_pgs] using hkl
       refine hr'.kp.block _ ⟨r.hp.lt (.inl hkl),hnH k (.inl hkl) ?_⟩;rintro n' (⟨g,_⟩ | ⟨m,j,i,_,_,rfl,_⟩)
       ·rw [e2] at g;cases g
       ·have:=dN m i;omega
      ·have hkl:(lk .gone s.h k).inn i:=by simpa only [AO.inn_pgs] using hkl
       have hi:=(AO.inn_isR hkl).1;refine hr'.kp.block _ ⟨r.hp.lt (cV hkl),hnH _ (cV hkl) ?_⟩;rintro n' (⟨_,g⟩ | ⟨m,j,i',g,hi',e3,_⟩)
       ·have:=dN k i;omega
       ·obtain ⟨rfl,rfl⟩:=jy hi hi' e3;rw [e2] at g;cases g
    | some j=>exact (hr'.ob j).ren (X':=c.XX (lr ps ds h' s.h) β2) hfq hB (hfix k j e2) (fun i hi _=>b2h k j i hi e2)
  ·rcases hcase i hi with ⟨ji,hji,ei,ci⟩ | ⟨li,ei,ni⟩<;>rcases hcase j hj with ⟨jj,hjj,ej,cj⟩ | ⟨lj,ej,nj⟩
   ·have e3:ji=jj:=hr'.inj ji jj hji hjj (by rw [← ei,← ej];exact e);rw [ci,cj,e3]
   ·have e3:β' ji=β j:=by rw [← ei,← ej];exact e
    exact absurd (hin ji hji (by rw [e3];exact r.hp.lt lj)) (by rw [e3];exact nj)
   ·have e3:β' jj=β i:=by rw [← ej,← ei];exact e.symm
    exact absurd (hin jj hjj (by rw [e3];exact r.hp.lt li)) (by rw [e3];exact ni)
   ·exact r.hp.inj i j li lj (by rw [← ei,← ej];exact e)
  ·rcases hcase k hk with ⟨j,hj,e,_⟩ | ⟨hkl,e,_⟩
   ·rw [e];exact hnkj j hj
   ·rw [e];exact r.hp.nk k hkl
  ·rcases hcase k hk with ⟨j,hj,e,_⟩ | ⟨hkl,e,_⟩
   ·rw [e];exact hnxj j hj
   ·rw [e];exact r.hp.nx k hkl
  ·have e:rk (swp ds) k=none:=by
    cases e:rk (swp ds) k with
    | none=>rfl
    | some j=>have:=(hds ((cE hinjd).1 e)).2.2;omega
   rw [(b2n k hk6 e).1,(b2n k hk6 e).2];exact r.hp.fix k hk hk6
  ·have hk:lk .gone (lr ps ds h' s.h) k ≠ .gone:=hk;rw [hb] at hk;cases e:rk (swp ds) k with
   | some j=>have:=(hds ((cE hinjd).1 e)).2.2;omega
   | none =>
    rw [e] at hk;simp only at hk;cases e2:rk ps k with
    | none=>rw [e2] at hk;exact r.hp.sg k (fun e3=>hk (by rw [e3,AO.pgs_gone]))
    | some j=>exact (hchk e2).2.2
 exact hK s' _ w' β2 κ2 h3 (cZ r2 (hG.ren hfq hB) h2)
end
section
variable {P:Program} {ops:Array Oper} {o:Oper} {s:AS} {c:Cx P} {a:Act} {w:World} {β:Nat→Nat} {κ:Nat→Nat×Nat}
theorem Rel.entry (r:Rel c s a w β κ) {k:Nat} {e:TypeId} {sz:Nat} {es es2:Ll} (hk:lk .gone s.h k = .rmap e sz es) {w':World}
 {ents:Array MapEntry} {clock:Nat} (hw:∀ i,i≠β k→w'.heap[i]? = w.heap[i]?) (hkp:dy (fun i=>i≠β k) w w') (hm:w'.heap[β k]? = some (.map ents clock)) (hs:ents.size=es2.length) (hl6:es2.length≤1000000)
 (hei:∀ i,i<es2.length→(i<es.length∧es2.getD i Cn=es.getD i Cn)∨(es2.getD i Cn).2=none)
 (hents:∀ i (h:i<ents.size),ents[i].key = .string ⟨(es2.getD i Cn).1.toArray⟩∧ents[i].born<clock∧((es2.getD i Cn).2≠none→Hz w (c.XX s.h β) (β (gk k i)) (κ (gk k i)) e sz ents[i].val (es.getD i Cn).2))
 (hborn:∀ i j (hi:i<ents.size) (hj:j<ents.size),i<j→ents[i].born<ents[j].born) (hkeys:(es2.map (·.1)).Nodup∧∀ k∈es2.map (·.1),k.length≤maxLen) :
 Rel c ⟨s.n,s.t,ins k (.rmap e sz es2) s.h⟩ a w' β κ:=by
 have hlk:(lk .gone s.h k).live:=by rw [hk];trivial
 have hinn:∀ i,(AO.rmap e sz es2).inn i→(AO.rmap e sz es).inn i:=by
  rintro i ⟨h1,h2,y,ys,h3⟩;rcases hei i h2 with ⟨g1,g2⟩ | g
  ·exact ⟨h1,g1,y,ys,by rw [← g2];exact h3⟩
  ·rw [g] at h3;cases h3
 have hlv:∀ n,lv (ins k (.rmap e sz es2) s.h) n→lv s.h n:=by
  rintro n (h | ⟨m,i,rfl,h⟩)
  ·rw [be] at h;by_cases ej:n=k
   ·rw [ej];exact .inl hlk
   ·rw [if_neg ej] at h;exact .inl h
  ·rw [be] at h;by_cases ej:m=k
   ·rw [if_pos ej] at h;refine cV ?_;rw [ej,hk];exact hinn i h
   ·rw [if_neg ej] at h;exact cV h
 have hX:∀ b,¬ c.XX s.h β b→b<w.heap.size→¬ c.XX (ins k (.rmap e sz es2) s.h) β b:=by
  rintro b hb _ (h | ⟨n,h1,h2⟩)
  ·exact hb (.inl h)
  ·exact hb (.inr ⟨n,hlv n h1,h2⟩)
 have hw2:∀ b,¬ c.XX s.h β b→b<w.heap.size→w'.heap[b]? = w.heap[b]? := fun b hb _=>hw b (fun e1=>hb (.inr ⟨k,.inl hlk,e1.symm⟩));refine ⟨r.df,r.sz,fun i=>(r.tm i).mono hw2 hX (fun _ _=>.refl),⟨fun n => ?_,fun i j hi hj e=>r.hp.inj i j (hlv i hi) (hlv j hj) e,r.hp.kp.trans hkp (fun b hb e1=>r.hp.nk k (.inl hlk) (e1 ▸ hb)),fun j hj=>r.hp.nk j (hlv j hj),fun j hj=>r.hp.nx j (hlv j hj),r.hp.fix,fun j hj => ?_⟩⟩
 ·show HO w' (c.XX (ins k (.rmap e sz es2) s.h) β) β κ n (lk .gone (ins k (.rmap e sz es2) s.h) n);rw [be];by_cases ej:n=k
  ·rw [if_pos ej,ej];refine ⟨ents,clock,hm,hs,hl6,fun i hi => ?_,hborn,hkeys⟩;obtain ⟨a1,a2,a3⟩:=hents i hi;refine ⟨a1,a2,?_⟩;rcases hei i (by omega) with ⟨g4,g5⟩ | g
   ·have hin:∀ z zs',(es.getD i Cn).2=some (z::zs')→(lk .gone s.h k).inn i:=fun z zs' h=>by rw [hk];exact ⟨by omega,g4,z,zs',h⟩
    rw [g5] at a3 ⊢;generalize (es.getD i ([],none)).2=o at a3 hin ⊢;match o,a3,hin with
    | none,_,_=>trivial
    | some [],a5,_=>exact a5 (by simp)
    | some (z::zs'),a5,hin =>
     have a5:=a5 (by simp);exact ⟨a5.1,a5.2.1,a5.2.2.mono hw2 hX (hw _ (r.hp.vne hlk (hin z zs' rfl)))⟩
   ·rw [g];trivial
  ·rw [if_neg ej];refine (r.hp.ob n).mono hw2 hX (fun _ _=>.refl) .refl (fun hl => ?_) (fun i hl => ?_)
   ·exact hw _ fun e3=>ej (r.hp.inj n k (.inl hl) (.inl hlk) e3)
   ·exact hw _ (r.hp.vne hlk hl)
 ·have hj:lk .gone (ins k (.rmap e sz es2) s.h) j ≠ .gone:=hj;rw [be] at hj;by_cases ej:j=k
  ·rw [ej];exact r.hp.sm k hlk
  ·rw [if_neg ej] at hj;exact r.hp.sg j hj
end
structure K9 where
 t:TypeId
 k:Nat
 y:List UInt8
 t1:Nat
 t2:Nat
 i0:Nat
 i1:Nat
 i2:Nat
section
variable {P:Program} {ops:Array Oper} {o:Oper} {s:AS} {cl:List (List Nat)} {c:K9} {i:Nat}
def Jg (x:Nat) (l:List Nat):Bool:=l.any (Nat.beq x)
def K9.ok (c:K9) (cl:List (List Nat)):Bool:=Jg c.i0 (cl.getD c.i1 [])&&Jg c.i0 (cl.getD c.i2 [])&&Jg c.i1 (cl.getD c.i2 [])&&(!Nat.beq c.i0 c.i1 && !Nat.beq c.i0 c.i2 && !Nat.beq c.i1 c.i2)
end
section
variable {P:Program} {ops:Array Oper} {o:Oper} {s:AS}
def Ii:List AV→Option (List Value)
 | []=>some []
 | .int k n::l=>match Ii l with | some vs=>some (.int k n::vs) | none=>none
 | _::_=>none
theorem zT {w:World} {X:Nat→Prop} {β:Nat→Nat} {κ:Nat→Nat×Nat}:∀ {l:List AV} {us vs:List Value},Ii l=some us→vs.length=l.length→(∀ i,i<l.length→G w X β κ (l.getD i .any) (vs.getD i undef))→vs=us
 | [],us,vs,h,hl,_=>by cases h;exact List.eq_nil_of_length_eq_zero hl
 | v::l,us,[],h,hl,_=>by simp at hl
 | v::l,us,u::vs,h,hl,hg=>by
  cases v with
  | int k n =>
   simp only [Ii] at h;split at h
   ·rename_i us' hu;cases h;have h0:G w X β κ (.int k n) u:=by simpa using hg 0 (by simp)
    have h1:=zT (w:=w) (X:=X) (β:=β) (κ:=κ) (vs:=vs) hu (by simpa using hl) fun i hi=>by simpa using hg (i+1) (by simpa using hi)
    rw [h0.int_inv,h1]
   ·cases h
  | _=>cases h
theorem IW {w:World} {X:Nat→Prop}:∀ {l:List AV} {us:List Value},Ii l=some us→us.length=l.length∧∀ i,i<l.length→D w X (l.getD i .any) (us.getD i undef)
 | [],us,h=>by cases h;exact ⟨rfl,fun i hi=>by simp at hi⟩
 | v::l,us,h=>by
  cases v with
  | int k n =>
   simp only [Ii] at h;split at h
   ·rename_i us' hu;cases h;obtain ⟨h1,h2⟩:=IW (w:=w) (X:=X) hu;refine ⟨by simp [h1],fun i hi => ?_⟩;cases i with
    | zero=>exact .int k n
    | succ i=>simpa using h2 i (by simpa using hi)
   ·cases h
  | _=>cases h
def Gj (P:Program) (s:AS) (op:Op) (v:AV):Option (List Prop) :=
 match op with
 | .call ⟨.value x,ar,_⟩=>match s.op x,v with
  | .fn f [],.tup cs=>match Ii (s.args ar []),Ii cs with
   | some vs,some us=>some [∀ w:World,(callFunc f vs.toArray).run P w = .ok (.value (.tuple us.toArray)) w]
   | _,_=>none
  | _,_=>none
 | _=>none
theorem JK {x:Operand} {ar:Array Operand} {tys:Array TypeId} {f:FuncId} {cs:List AV} {vs us:List Value} (hg:gd ops s o=some true) (hop:o.op = .call ⟨.value x,ar,tys⟩) (hx:s.op x = .fn f []) (h1:Ii (s.args ar [])=some vs) (h2:Ii cs=some us)
 (hc:∀ w:World,(callFunc f vs.toArray).run P w = .ok (.value (.tuple us.toArray)) w) {s1:AS} (h:s.put o.dst (.tup cs)=some s1):Loc P ops o s (.put o.dst (.tup cs)) :=
 lS rfl h fun s' ha s2 h2'=>by
  have hxx:s'.op x=s.op x:=bH ha (by simp [hop,Op.operands,Call.operands]);have har:∀ y∈ar,s'.op y=s.op y:=fun y hy=>bH ha (by simp [hop,Op.operands,Call.operands,hy]);have e1:s'.args ar []=s.args ar []:=by unfold AS.args;rw [List.map_congr_left (fun y hy=>har y (by simpa using hy))]
  refine cL (by rw [cT ha];exact hg) fun c a w β κ r => ?_;have hX:=r.op x;rw [hxx,hx] at hX;obtain ⟨Vs,eV,hl,hgs⟩:=hX.fn_inv;obtain ⟨a1,a2⟩:=qy r ar hl hgs;rw [e1] at a1 a2;have hvs:=zT h1 (vs:=(ar.map a.eval++Vs).toList) (by simpa using a1) a2;have hrun:(execOp a.eval o).run P w = .ok (.value (.tuple us.toArray)) w:=by simp only [execOp,hop,resolve,eV,Deferred.ofValue,pure_bind,invoke,Array.empty_append];rw [show ar.map a.eval++Vs=vs.toArray by rw [← hvs]];exact hc w
  obtain ⟨d1,d2⟩:=IW (w:=w) (X:=c.XX s'.h β) h2;exact ⟨_,w,β,κ,.inl hrun,cZ r (.d (.tup cs us.toArray (by simp [d1]) fun i hi=>by have:=d2 i hi;simpa [Lz,LC] using this)) h2'⟩
end
abbrev Ho:=List (Option (List (List AV)))
section
variable {P:Program} {ops:Array Oper} {o:Oper} {s:AS} {c:Cx P} {a:Act} {w:World} {β:Nat→Nat} {κ:Nat→Nat×Nat}
theorem Jv (es:Ho) (j:Nat) (v:Option (List (List AV))) (i:Nat) (hj:j<es.length):(es.set j v).getD i none=if i=j then v else es.getD i none:=by
 simp only [Lz,List.getElem?_set];by_cases e:j=i
 ·subst e;simp [hj]
 ·rw [if_neg e,if_neg (fun h=>e h.symm)]
def AS.takeR (s:AS) (k q:Nat) (eo e:TypeId) (sz:Nat) (zs:List (List AV)) (es':Ho):AS :=
 ⟨s.n,ins q (.rslice q) (nH q s.t),ins q (.row e sz zs) (fZ q (ins k (.rrow eo e sz es') s.h))⟩
end
section
variable {P:Program} {ops:Array Oper} {o:Oper} {s:AS} {c:Cx P} {a:Act} {w:World} {β:Nat→Nat} {κ:Nat→Nat×Nat}
def AS.stowR (s:AS) (k q:Nat) (eo e:TypeId) (sz:Nat) (es':Ho):AS:=⟨s.n,nH q s.t,rm q (fZ q (ins k (.rrow eo e sz es') s.h))⟩
theorem Rel.stowR (r:Rel c s a w β κ) {k q j:Nat} {eo e:TypeId} {sz:Nat} {es:Ho} {zs:List (List AV)} {V:Value} (hq:lk .gone s.h q = .row e sz zs) (hk:lk .gone s.h k = .rrow eo e sz es) (hnoR:s.noR=true) (hjl:j<es.length) {w':World}
 {cur new:Array Value} (hw:∀ i,i≠β k→w'.heap[i]? = w.heap[i]?) (hkp:dy (fun i=>i≠β k) w w') (h1:w.heap[β k]? = some (.cells cur eo (0,0))) (hm:w'.heap[β k]? = some (.cells new eo (0,0)))
 (hs:new.size=cur.size) (hnew:∀ i,new.getD i undef=if i=j then V else cur.getD i undef) (hV:G w (c.XX s.h β) β κ (.rslice q) V) :
 Rel c (s.stowR k q eo e sz (es.set j (some zs))) a w' (upd β (gk k j) (β q)) (upd κ (gk k j) (κ q)):=by
 have hne:es≠[]:=by intro e1;subst e1;simp at hjl
 have hlk:(lk .gone s.h k).live:=by rw [hk];exact hne
 have hok:=r.hp.ob k;rw [hk] at hok;obtain ⟨o1,o2,o3⟩:=hok;obtain ⟨cur',p1,p2,p3,p4,p5⟩:=o3 hne;rw [h1] at p1;simp only [LK,Obj.cells.injEq] at p1;obtain ⟨rfl,_⟩:=p1;have hj6:j<1000000:=by omega
 have hk6:=r.hp.sm k hlk;have hq6:q<1000000:=r.hp.sg q (by rw [hq];exact fun h=>by cases h);have hkq:k≠q:=fun e1=>by rw [e1,hq] at hk;cases hk
 have hgne:∀ n,n<1000000→n≠gk k j:=fun n hn e1=>by have:=dN k j;omega
 have b2:∀ n,n≠gk k j→upd β (gk k j) (β q) n=β n∧upd κ (gk k j) (κ q) n=κ n:=fun n h=>⟨bA β h,bA κ h⟩;have hat:=fun i=>Jv es j (some zs) i hjl;have hlk2:∀ n,lk .gone (s.stowR k q eo e sz (es.set j (some zs))).h n=if n=q then .gone else if n=k then .rrow eo e sz (es.set j (some zs)) else AO.pg q (lk .gone s.h n):=fun n=>by
  show lk .gone (rm q (fZ q (ins k (.rrow eo e sz (es.set j (some zs))) s.h))) n=_;rw [ls,fc,be];by_cases h1:n=q
  ·rw [if_pos h1,if_pos h1]
  ·rw [if_neg h1,if_neg h1];by_cases h2:n=k
   ·rw [if_pos h2,if_pos h2];rfl
   ·rw [if_neg h2,if_neg h2]
 have hlv:∀ n,lv (s.stowR k q eo e sz (es.set j (some zs))).h n→(n=gk k j∧zs≠[])∨(lv s.h n∧n≠q∧n≠gk k j):=by
  rintro n (h | ⟨m,i,rfl,h⟩)
  ·rw [hlk2] at h;by_cases h1:n=q
   ·rw [if_pos h1] at h;exact h.elim
   ·rw [if_neg h1] at h;by_cases h2:n=k
    ·exact .inr ⟨by rw [h2];exact .inl hlk,h1,hgne n (by omega)⟩
    ·rw [if_neg h2,AO.live_pg] at h;exact .inr ⟨.inl h,h1,hgne n (r.hp.sm n h)⟩
  ·rw [hlk2] at h;have hne:gk m i≠q:=by have:=dN m i;omega
   by_cases h1:m=q
   ·rw [if_pos h1] at h;exact h.elim
   ·rw [if_neg h1] at h;by_cases h2:m=k
    ·rw [if_pos h2] at h;obtain ⟨g1,g2,z,zs',g3⟩:=h;rw [hat] at g3;by_cases h3:i=j
     ·refine .inl ⟨by rw [h2,h3],?_⟩;rw [if_pos h3] at g3;intro e1;rw [e1] at g3;cases g3
     ·rw [if_neg h3] at g3;refine .inr ⟨cV ?_,hne,fun e1=>h3 (jy g1 hj6 e1).2⟩;rw [h2,hk];exact ⟨g1,by simpa using g2,z,zs',g3⟩
    ·rw [if_neg h2,AO.inn_pg] at h;exact .inr ⟨cV h,hne,fun e1=>h2 (jy (AO.inn_isR h).1 hj6 e1).1⟩
 have hqlive:zs≠[]→(lk .gone s.h q).live:=fun h=>by rw [hq];exact h
 have hX:∀ b,¬ c.XX s.h β b→b<w.heap.size→¬ c.XX (s.stowR k q eo e sz (es.set j (some zs))).h (upd β (gk k j) (β q)) b:=by
  rintro b hb _ (h | ⟨n,h1,h2⟩)
  ·exact hb (.inl h)
  ·rcases hlv n h1 with ⟨e1,hz⟩ | ⟨h3,_,h4⟩
   ·rw [e1,aD] at h2;exact hb (.inr ⟨q,.inl (hqlive hz),h2⟩)
   ·rw [(b2 n h4).1] at h2;exact hb (.inr ⟨n,h3,h2⟩)
 have hw2:∀ b,¬ c.XX s.h β b→b<w.heap.size→w'.heap[b]? = w.heap[b]? := fun b hb _=>hw b (fun e1=>hb (.inr ⟨k,.inl hlk,e1.symm⟩));have hmn:∀ {v:AV},AV.hasR v=false→∀ n,AV.men n v=true→upd β (gk k j) (β q) n=β n∧upd κ (gk k j) (κ q) n=κ n:=fun {v} hr n hn=>b2 n (hgne n (men_lt hr hn));refine ⟨r.df,r.sz,fun i => ?_,⟨fun n => ?_,fun n n' hn hn' e1 => ?_,r.hp.kp.trans hkp (fun b hb e1=>r.hp.nk k (.inl hlk) (e1 ▸ hb)),fun n hn => ?_,fun n hn => ?_,fun n hn hn6 => ?_,fun n hn => ?_⟩⟩
 ·show G w' (c.XX (s.stowR k q eo e sz (es.set j (some zs))).h (upd β (gk k j) (β q))) (upd β (gk k j) (β q)) (upd κ (gk k j) (κ q)) (lk .any (nH q s.t) i) _;rw [fQ];have hR:=AV.hasR_pg (k:=q) (AS.noR_t hnoR i);exact ((r.tm i).pg q).mono2 hw2 hX hR (hmn hR)
 ·show HO w' (c.XX (s.stowR k q eo e sz (es.set j (some zs))).h (upd β (gk k j) (β q))) (upd β (gk k j) (β q)) (upd κ (gk k j) (κ q)) n (lk .gone (s.stowR k q eo e sz (es.set j (some zs))).h n);rw [hlk2];by_cases h1:n=q
  ·rw [if_pos h1];trivial
  ·rw [if_neg h1];by_cases h2:n=k
   ·rw [if_pos h2,h2];refine ⟨by rw [(b2 k (hgne k hk6)).2,o1];simp,by simpa using o2,fun _=>⟨new,by rw [(b2 k (hgne k hk6)).1];exact hm,by rw [(b2 k (hgne k hk6)).2,hs];exact p2,by rw [(b2 k (hgne k hk6)).2];simpa using p3,by rw [(b2 k (hgne k hk6)).2];exact p4,fun i hi => ?_⟩⟩;have hi:i<es.length:=by simpa using hi
    rw [hat,hnew];by_cases h3:i=j
    ·subst h3;rw [if_pos rfl,if_pos rfl,aD,aD];have ho:=r.hp.ob q;rw [hq] at ho;cases zs with
     | nil =>
      rcases hV.rslice_inv with ⟨h0,_⟩ | ⟨h0,ad,e2⟩
      ·rw [ho.1] at h0;simp at h0
      ·exact ⟨h0,ad,e2⟩
     | cons z zs =>
      rcases hV.rslice_inv with ⟨h0,e2⟩ | ⟨h0,_⟩
      ·obtain ⟨cur,q1,q2,q3,q4,q5,q6,q7⟩:=ho.2 (by simp);have hb:w'.heap[β q]? = w.heap[β q]? := hw _ fun e3=>hkq (r.hp.inj k q (.inl hlk) (.inl (hqlive (by simp))) e3.symm);exact ⟨ho.1,e2,Ao.mono hw2 hX ⟨cur,q1,q2,q3,q4,q5,q6,q7⟩ hb⟩
      ·rw [ho.1] at h0;simp at h0
    ·rw [if_neg h3,if_neg h3];have hne:gk k i≠gk k j:=fun e3=>h3 (jy (by omega) hj6 e3).2;rw [(b2 _ hne).1,(b2 _ hne).2];have a5:=p5 i hi;have hin:∀ z zs',es.getD i none=some (z::zs')→(lk .gone s.h k).inn i:=fun z zs' h=>by rw [hk];exact ⟨by omega,hi,z,zs',h⟩
     generalize es.getD i none=o at a5 hin ⊢;match o,a5,hin with
     | none,_,_=>trivial
     | some [],a5,_=>exact a5
     | some (z::zs'),a5,hin=>exact ⟨a5.1,a5.2.1,a5.2.2.mono hw2 hX (hw _ (r.hp.vne hlk (hin z zs' rfl)))⟩
   ·rw [if_neg h2];have hR:=AO.hasR_pg (k:=q) (AS.noR_h hnoR n);by_cases hg0:lk .gone s.h n = .gone
    ·rw [hg0];trivial
    ·have hn6:=r.hp.sg n hg0;refine ((r.hp.ob n).pg (j:=q)).mono2 hw2 hX hR (fun l hl=>b2 l (hgne l (AO.men_lt hR hl))) ⟨(b2 n (hgne n hn6)).1,(b2 n (hgne n hn6)).2,fun i hi=>b2 _ (fun e3=>h2 (jy hi hj6 e3).1)⟩ (fun hl => ?_) (fun i hl => ?_)
     ·rw [AO.live_pg] at hl;exact hw _ fun e3=>h2 (r.hp.inj n k (.inl hl) (.inl hlk) e3)
     ·rw [AO.inn_pg] at hl;exact hw _ (r.hp.vne hlk hl)
 ·rcases hlv n hn with ⟨e2,hz⟩ | ⟨h3,h4,h5⟩<;>rcases hlv n' hn' with ⟨e3,hz'⟩ | ⟨h6,h7,h8⟩
  ·rw [e2,e3]
  ·rw [e2,aD,(b2 n' h8).1] at e1;exact absurd (r.hp.inj q n' (.inl (hqlive hz)) h6 e1).symm h7
  ·rw [e3,aD,(b2 n h5).1] at e1;exact absurd (r.hp.inj n q h3 (.inl (hqlive hz')) e1) h4
  ·rw [(b2 n h5).1,(b2 n' h8).1] at e1;exact r.hp.inj n n' h3 h6 e1
 ·rcases hlv n hn with ⟨e2,hz⟩ | ⟨h3,_,h5⟩
  ·rw [e2,aD];exact r.hp.nk q (.inl (hqlive hz))
  ·rw [(b2 n h5).1];exact r.hp.nk n h3
 ·rcases hlv n hn with ⟨e2,hz⟩ | ⟨h3,_,h5⟩
  ·rw [e2,aD];exact r.hp.nx q (.inl (hqlive hz))
  ·rw [(b2 n h5).1];exact r.hp.nx n h3
 ·rw [(b2 n (hgne n hn6)).1,(b2 n (hgne n hn6)).2];exact r.hp.fix n hn hn6
 ·have hn:lk .gone (s.stowR k q eo e sz (es.set j (some zs))).h n ≠ .gone:=hn;rw [hlk2] at hn;by_cases h1:n=q
  ·rw [if_pos h1] at hn;exact absurd rfl hn
  ·rw [if_neg h1] at hn;by_cases h2:n=k
   ·rw [h2];exact hk6
   ·rw [if_neg h2] at hn;exact r.hp.sg n (fun e3=>hn (by rw [e3];rfl))
end
section
variable {P:Program} {ops:Array Oper} {o:Oper} {s:AS} {c:Cx P} {a:Act} {w:World} {β:Nat→Nat} {κ:Nat→Nat×Nat}
theorem za (es:Ho) (v:Option (List (List AV))) (i:Nat):(i<es.length→(es++[v]).getD i none=es.getD i none)∧(i=es.length→(es++[v]).getD i none=v):=by
 refine ⟨fun h => ?_,fun h => ?_⟩
 ·simp [Lz,List.getElem?_append_left h]
 ·subst h;simp [Lz]
theorem Rel.growR (r:Rel c s a w β κ) {k:Nat} {eo e:TypeId} {sz:Nat} {es:Ho} (hk:lk .gone s.h k = .rrow eo e sz es) (hk3:k<1000) (hnoR:s.noR=true) {w':World} {b2 C:Nat} {arr:Array Value} {ad:Option Addr}
 (hw:∀ i,i≠b2→i<w.heap.size→w'.heap[i]? = w.heap[i]?) (hkp:dy c.K c.W w') (hb:(b2=β k∧es≠[])∨w.heap.size≤b2) (hm:w'.heap[b2]? = some (.cells arr eo (0,0))) (hs:arr.size=C*1) (hC:es.length+1≤C) (hCm:C≤maxLen) (hl:es.length<1000000)
 (hold:∀ i,i<es.length→Hz w (c.XX s.h β) (β (gk k i)) (κ (gk k i)) e sz (arr.getD i undef) (es.getD i none)) (hnew:arr.getD es.length undef = .slice ad 0 0) :
 Rel c ⟨s.n,nH k s.t,ins k (.rrow eo e sz (es++[some []])) (fZ k s.h)⟩ a w' (upd β k b2) (upd (upd κ k (C,es.length+1)) (gk k es.length) (0,0)):=by
 have hk6:k<1000000:=by omega
 have hgk:∀ i,gk k i≠k:=fun i e1=>by have:=dN k i;omega
 have hlive:es≠[]→(lk .gone s.h k).live:=fun h=>by rw [hk];exact h
 have hlk2:∀ n,lk .gone (ins k (.rrow eo e sz (es++[some []])) (fZ k s.h)) n=if n=k then .rrow eo e sz (es++[some []]) else AO.pg k (lk .gone s.h n):=fun n=>by rw [be,fc]
 have hinn:∀ i,(AO.rrow eo e sz (es++[some []])).inn i→(lk .gone s.h k).inn i∧i<es.length:=by
  rintro i ⟨h1,h2,y,ys,h3⟩;by_cases h4:i<es.length
  ·rw [(za es (some []) i).1 h4] at h3;refine ⟨?_,h4⟩;rw [hk];exact ⟨h1,h4,y,ys,h3⟩
  ·rw [(za es (some []) i).2 (by simp at h2;omega)] at h3;cases h3
 have hlv:∀ n,lv (ins k (.rrow eo e sz (es++[some []])) (fZ k s.h)) n→n=k∨(lv s.h n∧n≠k):=by
  rintro n (h | ⟨m,i,rfl,h⟩)
  ·rw [hlk2] at h;by_cases h2:n=k
   ·exact .inl h2
   ·rw [if_neg h2,AO.live_pg] at h;exact .inr ⟨.inl h,h2⟩
  ·rw [hlk2] at h;have hne:gk m i≠k:=by have:=dN m i;omega
   by_cases h2:m=k
   ·rw [if_pos h2] at h;exact .inr ⟨cV (by rw [h2];exact (hinn i h).1),hne⟩
   ·rw [if_neg h2,AO.inn_pg] at h;exact .inr ⟨cV h,hne⟩
 have b1:∀ n,n≠k→upd β k b2 n=β n:=fun n h=>bA β h;have hX:∀ b,¬ c.XX s.h β b→b<w.heap.size→¬ c.XX (ins k (.rrow eo e sz (es++[some []])) (fZ k s.h)) (upd β k b2) b:=by
  rintro b hb2 hlt (h | ⟨n,h1,h2⟩)
  ·exact hb2 (.inl h)
  ·rcases hlv n h1 with rfl | ⟨h3,h4⟩
   ·rw [aD] at h2;rcases hb with ⟨e1,e2⟩ | e1
    ·exact hb2 (.inr ⟨n,.inl (hlive e2),by rw [← e1];exact h2⟩)
    ·omega
   ·rw [b1 n h4] at h2;exact hb2 (.inr ⟨n,h3,h2⟩)
 have hnb:∀ n,lv s.h n→n≠k→β n≠b2:=by
  intro n hn hne e1;rcases hb with ⟨e2,e3⟩ | e2
  ·exact hne (r.hp.inj n k hn (.inl (hlive e3)) (e1.trans e2))
  ·have:=r.hp.lt hn;omega
 have hw2:∀ b,¬ c.XX s.h β b→b<w.heap.size→w'.heap[b]? = w.heap[b]? := fun b hb2 hlt=>hw b (fun e1=>by
  rcases hb with ⟨e2,e3⟩ | e2
  ·exact hb2 (.inr ⟨k,.inl (hlive e3),(e1.trans e2).symm⟩)
  ·omega) hlt
 have hk1:upd (upd κ k (C,es.length+1)) (gk k es.length) (0,0) k=(C,es.length+1):=by rw [bA _ (Ne.symm (hgk _)),aD]
 have hko:∀ n,n≠k→n≠gk k es.length→upd (upd κ k (C,es.length+1)) (gk k es.length) (0,0) n=κ n:=fun n h1 h2=>by rw [bA _ h2,bA _ h1]
 have hgne:∀ n,n<1000000→n≠gk k es.length:=fun n hn e1=>by have:=dN k es.length;omega
 have hmn:∀ {v:AV},AV.hasR (AV.pg k v)=false→∀ n,AV.men n (AV.pg k v)=true→upd β k b2 n=β n∧upd (upd κ k (C,es.length+1)) (gk k es.length) (0,0) n=κ n:=fun {v} hr n hn=>by
  have h1:n≠k:=fun e1=>by subst e1;rw [AV.men_pg] at hn;cases hn
  exact ⟨b1 n h1,hko n h1 (hgne n (men_lt hr hn))⟩
 refine ⟨r.df,r.sz,fun i => ?_,⟨fun n => ?_,fun n n' hn hn' e1 => ?_,hkp,fun n hn => ?_,fun n hn => ?_,fun n hn hn6 => ?_,fun n hn => ?_⟩⟩
 ·show G w' (c.XX (ins k (.rrow eo e sz (es++[some []])) (fZ k s.h)) (upd β k b2)) (upd β k b2) _ (lk .any (nH k s.t) i) _;rw [fQ];have hR:=AV.hasR_pg (k:=k) (AS.noR_t hnoR i);exact ((r.tm i).pg k).mono2 hw2 hX hR (hmn hR)
 ·show HO w' (c.XX (ins k (.rrow eo e sz (es++[some []])) (fZ k s.h)) (upd β k b2)) (upd β k b2) _ n (lk .gone (ins k (.rrow eo e sz (es++[some []])) (fZ k s.h)) n);rw [hlk2];by_cases h2:n=k
  ·rw [if_pos h2,h2];refine ⟨by rw [hk1];simp,by simp;omega,fun _=>⟨arr,by rw [aD];exact hm,by rw [hk1];exact hs,by rw [hk1];simpa using hC,by rw [hk1];exact hCm,fun i hi => ?_⟩⟩;by_cases h4:i<es.length
   ·rw [(za es (some []) i).1 h4,b1 _ (hgk i),hko _ (hgk i) (fun e3=>by have:=(jy (by omega) hl e3).2;omega)];have a5:=hold i h4;have hin:∀ z zs',es.getD i none=some (z::zs')→(lk .gone s.h k).inn i:=fun z zs' h=>by rw [hk];exact ⟨by omega,h4,z,zs',h⟩
    generalize es.getD i none=o at a5 hin ⊢;match o,a5,hin with
    | none,_,_=>trivial
    | some [],a5,_=>exact a5
    | some (z::zs'),a5,hin =>
     have hi9:=cV (hin z zs' rfl);exact ⟨a5.1,a5.2.1,a5.2.2.mono hw2 hX (hw _ (hnb _ hi9 (hgk i)) (r.hp.lt hi9))⟩
   ·have h5:i=es.length:=by simp at hi;omega
    rw [(za es (some []) i).2 h5,h5,hnew,aD];exact ⟨rfl,ad,rfl⟩
  ·rw [if_neg h2];have hR:=AO.hasR_pg (k:=k) (AS.noR_h hnoR n);by_cases hg0:lk .gone s.h n = .gone
   ·rw [hg0];trivial
   ·have hn6:=r.hp.sg n hg0;refine ((r.hp.ob n).pg (j:=k)).mono2 hw2 hX hR (fun l hl => ?_) ⟨b1 n h2,hko n h2 (hgne n hn6),fun i hi=>⟨b1 _ (fun e3=>by have:=dN n i;omega),hko _ (fun e3=>by have:=dN n i;omega) (fun e3=>h2 (jy hi hl e3).1)⟩⟩ (fun hl => ?_) (fun i hl => ?_)
    ·have h1:l≠k:=fun e1=>by subst e1;rw [AO.men_pg] at hl;cases hl
     exact ⟨b1 l h1,hko l h1 (hgne l (AO.men_lt hR hl))⟩
    ·rw [AO.live_pg] at hl;exact hw _ (hnb n (.inl hl) h2) (r.hp.lt (.inl hl))
    ·rw [AO.inn_pg] at hl;exact hw _ (hnb _ (cV hl) (fun e3=>by have:=dN n i;omega)) (r.hp.lt (cV hl))
 ·rcases hlv n hn with e2 | ⟨h3,h4⟩<;>rcases hlv n' hn' with e3 | ⟨h6,h7⟩
  ·rw [e2,e3]
  ·rw [e2,aD,b1 n' h7] at e1;exact absurd e1.symm (hnb n' h6 h7)
  ·rw [e3,aD,b1 n h4] at e1;exact absurd e1 (hnb n h3 h4)
  ·rw [b1 n h4,b1 n' h7] at e1;exact r.hp.inj n n' h3 h6 e1
 ·rcases hlv n hn with e2 | ⟨h3,h4⟩
  ·rw [e2,aD];rcases hb with ⟨e3,e4⟩ | e3
   ·rw [e3];exact r.hp.nk k (.inl (hlive e4))
   ·intro hK;have:=c.hK _ hK;have:=r.hp.kp.size;omega
  ·rw [b1 n h4];exact r.hp.nk n h3
 ·rcases hlv n hn with e2 | ⟨h3,h4⟩
  ·rw [e2,aD];rcases hb with ⟨e3,e4⟩ | e3
   ·rw [e3];exact r.hp.nx k (.inl (hlive e4))
   ·intro hK;have:=c.hX _ hK;have:=r.hp.kp.size;omega
  ·rw [b1 n h4];exact r.hp.nx n h3
 ·rw [b1 n (by omega),hko n (by omega) (hgne n hn6)];exact r.hp.fix n hn hn6
 ·have hn:lk .gone (ins k (.rrow eo e sz (es++[some []])) (fZ k s.h)) n ≠ .gone:=hn;rw [hlk2] at hn;by_cases h2:n=k
  ·rw [h2];exact hk6
  ·rw [if_neg h2] at hn;exact r.hp.sg n (fun e3=>hn (by rw [e3];rfl))
def AS.growR (s:AS) (k d:Nat) (eo e:TypeId) (sz:Nat) (es':Ho):AS:=⟨s.n,ins d (.rslice k) (nH k s.t),ins k (.rrow eo e sz es') (fZ k s.h)⟩
end
inductive K8 where
 | tk (zs:List (List AV)) (es:Ho)
 | st (es:Ho)
 | apr (es:Ho)
section
variable {P:Program} {ops:Array Oper} {o:Oper} {s s':AS}
def gf (P:Program) (s:AS) (dst:Option Tmp):K8→Op→Option (List Prop×AS)
 | .tk zs es',.load t x=>match s.op x,dst,Dl P t with
  | .hptr k off,some q,some false=>match lk .gone s.h k with
   | .rrow eo e sz es=>bif Nat.blt q s.n&&Nat.blt q 1000 then some ([off<es.length,es.getD off none=some zs,es.set off none=es'],s.takeR k q eo e sz zs es') else none
   | _=>none
  | _,_,_=>none
 | .st es',.store t x y=>match s.op x,s.op y,dst,oC P t with
  | .hptr k off,.rslice q,none,some 1=>match lk .gone s.h k,lk .gone s.h q with
   | .rrow eo e sz es,.row e2 sz2 zs=>bif Nat.beq e2 e&&Nat.beq sz2 sz&&s.noR then some ([off<es.length,es.set off (some zs)=es'],s.stowR k q eo e sz es') else none
   | _,_=>none
  | _,_,_,_=>none
 | .apr es',.call ⟨.builtin .append,ar,tys⟩=>match ar.toList,tys.toList,dst with
  | [x,y],[t,t'],some d=>if t=t' then (match iZ P t,s.op x,s.op y with
   | some (eo,1,by_),.rslice k,.dslice [[.eslice]]=>match lk .gone s.h k with
    | .rrow eo2 e sz es=>bif Nat.beq eo2 eo&&(Nat.blt k 1000&&Nat.blt d s.n)&&s.noR then some ([(es.length+1)*by_≤140737488355328∧es.length<1000000,es++[some []]=es'],s.growR k d eo e sz es') else none
    | _=>none
   | _,_,_=>none) else none
  | _,_,_=>none
 | _,_=>none
end
section
variable {P:Program} {ops:Array Oper} {o:Oper} {s:AS}
theorem Jl {c:Cx P} {a:Act} {w:World} {β:Nat→Nat} {κ:Nat→Nat×Nat} {s:AS} (r:Rel c s a w β κ) {k k':Nat} {e:TypeId} {sz:Nat} {zs:List (List AV)} {s':AS} (h:s.grow k k' e sz zs=some s') (arr:Array Value) (hsz:0<sz)
 (hl:∀ i,i<zs.length→(zs.getD i []).length=sz) (hs:arr.size=zs.length*sz) (hC:zs.length≤maxLen)
 (hG:∀ i j,i<zs.length→j<sz→D w (c.XX s.h β) ((zs.getD i []).getD j .any) (arr.getD (i*sz+j) undef)) :
 ∃ β' κ',Rel c s' (a.put (some k') (.slice (some ⟨w.heap.size,0,none⟩) zs.length zs.length)) (w.alloc (.cells arr e)) β' κ':=by
 by_cases hz:zs=[];case neg=>exact Ds r h arr zs.length hz hsz hl hs (Nat.le_refl _) hC hG
 subst hz;unfold AS.grow at h;cases hc:(Nat.blt k' s.n&&Nat.blt k' 1000) with
 | false=>rw [hc] at h;cases h
 | true =>
  rw [hc] at h;cases h;simp only [LB,Nat.blt_eq] at hc;have r':=r.drop2 k k';obtain ⟨m1,m2⟩:=Ha k k' s;have hw:∀ b,b<w.heap.size→(w.alloc (.cells arr e)).heap[b]? = w.heap[b]? := fun b hb=>gi w _ hb;obtain ⟨h1,h2⟩:=r'.hp.anew (w':=w.alloc (.cells arr e)) hc.2 (fun j _=>(m2 j).2) w.heap.size (0,0) (Nat.le_refl _) hw (fD _ w _ r.Klt) (o:=.row e sz [])
   ⟨by rw [aD];rfl,fun hx=>absurd rfl hx⟩
  refine ⟨upd β k' w.heap.size,upd κ k' (0,0),r.df,by simp [Act.put,r.sz],fun i => ?_,h1⟩;show G _ _ _ _ (lk .any (ins k' (.rslice k') (s.drop2 k k').t) i) _;rw [be];by_cases hi:i=k'
  ·subst hi;have hi':i<a.tmps.size:=by rw [r.sz];exact hc.1
   have:=G.rslice0 (w:=w.alloc (.cells arr e)) (X:=c.XX (ins i (.row e sz []) (s.drop2 k i).h) (upd β i w.heap.size)) (β:=upd β i w.heap.size) (κ:=upd κ i (0,0)) i (some ⟨w.heap.size,0,none⟩) (by rw [aD]);simpa [Act.put,LC,Array.getElem?_setIfInBounds,hi'] using this
  ·have:=h2 (r'.tm i) (m1 i).2;rw [if_neg hi];have hne:¬ k'=i:=fun e=>hi e.symm;simpa [Act.put,LC,Array.getElem?_setIfInBounds,hne] using this
def E3 (P:Program) (e:TypeId):List AV:=match zeroOf P e with
 | some z=>z.cells.toList.map AV.of1
 | none=>[]
def Gb (P:Program) (s:AS) (dst:Option Tmp) (N:Nat):Op→Option (List Prop×AS)
 | .makeSlice t l c=>match s.op l,s.op c,dst,iZ P t with
  | .int _ n,.int _ m,some k,some (e,sz,by_)=>match s.grow k k e sz (List.replicate N (E3 P e)) with
   | some s'=>some ([n=(N:Int)∧m=(N:Int)∧by_*N≤140737488355328∧N≤9223372036854775807],s')
   | none=>none
  | _,_,_,_=>none
 | _=>none
theorem Bc {N:Nat} {ps:List Prop} {s':AS} (hg:gd ops s o=some true) (h:Gb P s o.dst N o.op=some (ps,s')) (hp:∀ p∈ps,p):mA P ops o s (· = s') :=
 cL hg fun c a w β κ r=>by
  unfold Gb at h;split at h
  ·rename_i t l c' hop;split at h
   ·rename_i k1 n k2 m k e sz by_ hl hc hd he;split at h
    ·rename_i s2 hs;cases h;obtain ⟨rfl,rfl,hb,hN⟩:=hp _ (List.mem_singleton.2 rfl);obtain ⟨hu,i,z,hi,hz,hsz,hbb,hzs,hs0⟩:=o5 he;have hN:N≤maxLen:=hN;subst hbb;subst hsz;have hb':(i.bytes:Int)*(N:Int)≤281474976710656:=by
      have h:((i.bytes*N:Nat):Int)≤281474976710656:=by omega
      rwa [Int.natCast_mul] at h
     have hN':(N:Int)≤9223372036854775807:=by unfold maxLen at hN;omega
     have hr:=run_make (P:=P) (w:=w) t e i z hu hi hz k1 k2 N N (by omega) (Int.le_refl _) hb' hN';simp only [Int.toNat_natCast] at hr;have hzc:E3 P e=z.cells.toList.map AV.of1:=by unfold E3 zeroOf;simp only [hi,hz,Option.bind_some]
     have hlen:(List.replicate N (E3 P e)).length=N:=by simp
     have hgi:∀ j,j<N→(List.replicate N (E3 P e)).getD j []=E3 P e:=fun j hj=>by simp [Lz,hj]
     have hzl:(E3 P e).length=i.size:=by rw [hzc];simp [hzs]
     obtain ⟨β',κ',r'⟩:=Jl r hs (madeCells z.cells (N*i.size)) hs0 (fun j hj=>by rw [hgi j (by rwa [hlen] at hj),hzl]) (by rw [size_madeCells,hlen]) (by rw [hlen];exact hN) (fun j q hj hq=>by
      rw [hlen] at hj;rw [hgi j hj,hzc];have hq2:q<z.cells.size:=by rw [hzs];exact hq
      have hjq:j*i.size+q<N*i.size:=by have:(j+1)*i.size≤N*i.size:=Nat.mul_le_mul_right _ hj;rw [Nat.add_mul] at this;omega
      have e1:(madeCells z.cells (N*i.size)).getD (j*i.size+q) undef=z.cells[q]:=by
       have hm:(j*i.size+q) % z.cells.size=q:=by rw [hzs,Nat.mul_comm,Nat.mul_add_mod,Nat.mod_eq_of_lt hq]
       simp [madeCells,LC,hjq,hm,getElem!_pos,hq2]
      have e2:(z.cells.toList.map AV.of1).getD q .any=AV.of1 z.cells[q]:=by simp [Lz,hq2]
      rw [e1,e2];exact D.of1 w _ _)
     rw [hlen] at r';refine ⟨_,_,β',κ',.inl ?_,by rw [hd];exact r'⟩;have el:a.eval l = .int k1 (N:Int):=by have:=r.op l;rw [hl] at this;exact this.int_inv
     have ec:a.eval c' = .int k2 (N:Int):=by have:=r.op c';rw [hc] at this;exact this.int_inv
     simp only [execOp,hop,el,ec];show ((Instr.makeSlice t (.int k1 (N:Int)) (.int k2 (N:Int))) >>= fun x=>pure (Next.value x)).run P w=_;rw [Sem.run_bind,hr];rfl
    ·cases h
   ·cases h
  ·cases h
theorem vg {α:Type} (c:α→List AV) (d:α) (N:Nat) (e:TypeId) (sz:Nat) {z:List AV} (h:z=c d):AO.row e sz (List.replicate N z) = .row e sz ((List.replicate N d).map c):=by rw [h,List.map_replicate]
def AS.ezR (s:AS) (k:Nat):Option AS:=match lk .gone s.h k with
 | .row e sz xs=>some ⟨s.n,s.t,ins k (.row e sz (xs.map fun x=>x.map AV.ez)) s.h⟩
 | _=>none
theorem Rel.ezR {c:Cx P} {a:Act} {w:World} {β:Nat→Nat} {κ:Nat→Nat×Nat} {s s':AS} (r:Rel c s a w β κ) {k:Nat} (h:s.ezR k=some s'):Rel c s' a w β κ:=by
 unfold AS.ezR at h;split at h
 ·rename_i e sz xs hk;cases h;by_cases hx:xs=[]
  ·subst hx;refine r.same ⟨rfl,fun _=>rfl,fun j => ?_⟩;show lk .gone (ins k (.row e sz []) s.h) j=lk .gone s.h j;rw [be];by_cases ej:j=k
   ·rw [if_pos ej,ej,hk]
   ·rw [if_neg ej]
  ·have hlive:(lk .gone s.h k).live:=by rw [hk];exact hx
   refine r.replace hlive (ob:=.row e sz (xs.map fun x=>x.map AV.ez)) (by simpa [AO.live] using hx) (fun _ _=>rfl) (dy.refl _ _) (fun _ _ => ?_);have ho:=r.hp.ob k;rw [hk] at ho;refine ⟨by rw [LI];exact ho.1,fun _ => ?_⟩;obtain ⟨cur,h1,h2,h3,h4,h0,h5,h6⟩:=ho.2 hx;have hat:∀ i,i<xs.length→(xs.map fun x=>x.map AV.ez).getD i []=(xs.getD i []).map AV.ez:=fun i hi=>by simp [Lz,hi]
   refine ⟨cur,h1,h2,by rw [LI];exact h3,h4,h0,fun i hi => ?_,fun i j hi hj => ?_⟩
   ·rw [LI] at hi;rw [hat i hi,LI];exact h5 i hi
   ·rw [LI] at hi;have hj2:j<(xs.getD i []).length:=by rw [h5 i hi];exact hj
    have:((xs.getD i []).map AV.ez).getD j .any=AV.ez ((xs.getD i []).getD j .any):=by generalize xs.getD i []=ys at hj2;simp [Lz,hj2]
    rw [hat i hi,this];exact (h6 i j hi hj).ez
 ·cases h
def JV {V:Type} (c:V→List AV):List V→AV
 | []=>.eslice
 | x::l=>.dslice ((x::l).map c)
theorem Jc {V:Type} (c:V→List AV) (l:List V):AV.ez (JV c l) = .dslice (l.map c):=by cases l<;>rfl
theorem IA {V:Type} (c:V→List AV) (l:List V):((JV c l).one&&(JV c l).fl)=true:=by cases l<;>rfl
theorem J9 {V:Type} (e:TypeId) (sz:Nat) {c c':V→List AV} (h:∀ x,(c' x).map AV.ez=c x) (l:List V):AO.row e sz ((l.map c').map fun x=>x.map AV.ez) = .row e sz (l.map c):=by rw [List.map_map];exact congrArg (AO.row e sz) (List.map_congr_left fun x _=>h x)
end
section
variable {P:Program} {ops:Array Oper} {o:Oper} {s:AS}
theorem zY {t K E:TypeId} {kd k:Nat} (hg:gd ops s o=some true) (hop:o.op = .makeMap t none) (hd:o.dst=some k) (hu:P.underlying t=some (.map K E)) (hk:JB P K=some kd) (hb:(Nat.blt k s.n&&Nat.blt k 1000)=true) :
 Loc P ops o s ⟨[(k,.amap k)],[(k,.smap kd E [])],[k],[]⟩:=by
 intro s' ha hf _;have hfk:=hf k (by simp);have hm:pn P s' t k=some ⟨s'.n,ins k (.amap k) (nH k s'.t),ins k (.smap kd E []) (fZ k s'.h)⟩:=by unfold pn;simp only [hu,hk,AS.fresh];rw [ha.n,hb];rfl
 refine (vc (by rw [cT ha];exact hg) hop hd hm).mono fun s'' e => ?_;subst e;refine ⟨rfl,fun i => ?_,fun i => ?_⟩
 ·show lk .any (ins k (.amap k) (nH k s'.t)) i=lk .any (pP [(k,.amap k)] s'.t) i;rw [be,fF,fQ,AV.pg_free (hfk.1 i)];simp only [j6];by_cases e:i=k
  ·subst e;simp
  ·rw [if_neg e,dm e];rfl
 ·show lk .gone (ins k (.smap kd E []) (fZ k s'.h)) i=lk .gone (pP [(k,.smap kd E [])] s'.h) i;rw [be,fF,fc,AO.pg_free (hfk.2 i)];simp only [j6];by_cases e:i=k
  ·subst e;simp
  ·rw [if_neg e,dm e];rfl
theorem zH {k:Nat} {u v:AV} (h:AV.men k v=false):AV.sb1 k u v=v:=by cases v<;>first | rfl | (simp only [AV.men] at h;rename_i j;have h2:Nat.beq j k=false:=h;simp only [AV.sb1,h2,cond_false])
theorem kM {k:Nat} {u:AV}:∀ {cs:List AV},AV.menL k cs=false→cs.map (AV.sb1 k u)=cs
 | [],_=>rfl
 | c::cs,h=>by simp only [AV.menL,Bool.or_eq_false_iff] at h;rw [List.map_cons,zH h.1,kM h.2]
theorem zo {k:Nat} {u v:AV} (h:AV.men k v=false):AV.sb2 k u v=v:=by
 cases v with
 | agg cs=>exact congrArg AV.agg (kM h)
 | _=>exact zH (u:=u) h
theorem r7 {k:Nat} {u:AV}:∀ {cs:List AV},AV.menL k cs=false→cs.map (AV.sb2 k u)=cs
 | [],_=>rfl
 | c::cs,h=>by simp only [AV.menL,Bool.or_eq_false_iff] at h;rw [List.map_cons,zo h.1,r7 h.2]
theorem sb_free {k:Nat} {u v:AV} (h:AV.men k v=false):AV.sb k u v=v:=by
 cases v with
 | tup cs=>exact congrArg AV.tup (r7 h)
 | _=>exact zo (u:=u) h
theorem AO.sb_free {k:Nat} {u:AV} {o:AO} (h:AO.men k o=false):AO.sb k u o=o:=by
 cases o with
 | cells e cs=>exact congrArg (AO.cells e) (kM h)
 | eit cs=>exact congrArg AO.eit (kM h)
 | _=>rfl
def Fw (P:Program) (s:AS) (dst:Option Tmp) (es':List (Key×AV)):Op→Option (List Prop×eD)
 | .insert t (.tmp tm) x y=>match lk .any s.t tm,dst,(s.op x).key with
  | .amap k,none,some key=>match o7 P s t (.amap k) (s.op x) (s.op y),lk .gone s.h k with
   | some _,.smap kd E es=>bif Nat.blt k 1000000 then some ([Kg (ky key (s.op y) es)∧(ky key (s.op y) es).Perm es'],⟨[(tm,.dmap es')],[(k,.gone)],[],[(k,tm)]⟩) else none
   | _,_=>none
  | _,_,_=>none
 | _=>none
theorem F9 {s2:AS} {t:TypeId} {k kd:Nat} {E:TypeId} {es:List (Key×AV)} {x y:AV} {key:Key} (hx:x.key=some key) (hk:lk .gone s.h k = .smap kd E es) (h:o7 P s t (.amap k) x y=some s2):s2=⟨s.n,s.t,ins k (.smap kd E (ky key y es)) s.h⟩:=by
 unfold o7 at h;simp only [hx,hk] at h;split at h
 ·rename_i h1 _;cases h1;exact (LM (gH h).2).symm
 ·cases h
theorem Aq {es':List (Key×AV)} {ps:List Prop} {e:eD} (hg:gd ops s o=some true) (h:Fw P s o.dst es' o.op=some (ps,e)) (hp:∀ p∈ps,p):Loc P ops o s e:=by
 unfold Fw at h;split at h
 ·rename_i t tm x y hop;split at h
  ·rename_i k key hm hd hx;split at h
   ·rename_i s1 kd E es hs hk;obtain ⟨hk6,h⟩:=gH h;rw [Nat.blt_eq] at hk6;cases h;have hp:=hp _ (List.mem_singleton.2 rfl);intro s' ha _ ho;have hok:=ho (k,tm) (by simp);have hmo:Operand.tmp tm∈o.op.operands:=by rw [hop];simp [Op.operands]
    have hxo:x∈o.op.operands:=by rw [hop];simp [Op.operands]
    have hyo:y∈o.op.operands:=by rw [hop];simp [Op.operands]
    have hm':s'.op (.tmp tm) = .amap k:=by rw [bH ha hmo];exact hm
    have hk':lk .gone s'.h k = .smap kd E es:=by rw [ha.h (by rw [hop];rfl) _ hmo k (by show AV.men k (lk .any s.t tm)=true;rw [hm];simp [AV.men])];exact hk
    have hx':s'.op x=s.op x:=bH ha hxo;have hy':s'.op y=s.op y:=bH ha hyo;have hs0:=F9 hx hk hs;have hs':o7 P s' t (.amap k) (s.op x) (s.op y)=some ⟨s'.n,s'.t,ins k (.smap kd E (ky key (s.op y) es)) s'.h⟩:=by
     have h2:=hs;unfold o7 at h2 ⊢;simp only [hx,hk,hk'] at h2 ⊢;split at h2
     ·rename_i kd' E' es1 K' V' h1 hu;cases h1;rw [(gH h2).1];rfl
     ·cases h2
    refine fun c a w β κ r K Q hK => ?_;have hgd:gd ops s' o=some true:=by rw [cT ha];exact hg
    rw [oo r hgd];simp only [if_true];obtain ⟨w',hr,r'⟩:=pr r (m:=.amap k) (M:=a.eval (.tmp tm)) (by rw [← hm'];exact r.op _) (by rw [← hx'];exact r.op x) (by rw [← hy'];exact r.op y) hs';have hl:lk .gone (ins k (.smap kd E (ky key (s.op y) es)) s'.h) k = .smap kd E (ky key (s.op y) es):=by rw [be,if_pos rfl]
    have hf:AS.frzO ⟨s'.n,s'.t,ins k (.smap kd E (ky key (s.op y) es)) s'.h⟩ k es'=some (Kg (ky key (s.op y) es)∧(ky key (s.op y) es).Perm es',AS.subst ⟨s'.n,s'.t,ins k (.smap kd E (ky key (s.op y) es)) s'.h⟩ k (.dmap es')):=by unfold AS.frzO;simp only [hl]
    have r2:=r'.frzO hf hp;have hex:(execOp a.eval o).run P w = .ok .skip w':=by simp [execOp,hop,hr,Result.andThen]
    unfold Oper.wp;rw [hex];refine hK _ _ w' β κ ?_ (by rw [hd];exact r2);refine ⟨rfl,fun i => ?_,fun i => ?_⟩
    ·show lk .any (s'.t.map fun p=>(p.1,AV.sb k (.dmap es') p.2)) i=lk .any (pP [(tm,.dmap es')] s'.t) i;rw [rf .any (AV.sb k (.dmap es')) rfl,fF];simp only [j6];by_cases e:i=tm
     ·subst e;have:lk .any s'.t i = .amap k:=hm';rw [this];simp [AV.sb,AV.sb2,AV.sb1,AV.asMp]
     ·rw [dm e,sb_free (hok.1 i e)];rfl
    ·show lk .gone (rm k ((ins k (.smap kd E (ky key (s.op y) es)) s'.h).map fun p=>(p.1,AO.sb k (.dmap es') p.2))) i=lk .gone (pP [(k,.gone)] s'.h) i;rw [ls,rf .gone (AO.sb k (.dmap es')) rfl,fF,be];simp only [j6];by_cases e:i=k
     ·subst e;simp
     ·rw [dm e,if_neg e,if_neg e,AO.sb_free (hok.2 i)];rfl
   ·cases h
  ·cases h
 ·cases h
def Jh (P:Program) (s:AS) (dst:Option Tmp):Op→Option (List Prop×eD)
 | .makeMap t none=>match dst,P.underlying t with
  | some k,some (.map K E)=>match JB P K with
   | some kd=>bif Nat.blt k s.n&&Nat.blt k 1000 then some ([],⟨[(k,.amap k)],[(k,.smap kd E [])],[k],[]⟩) else none
   | none=>none
  | _,_=>none
 | _=>none
theorem BN {ps:List Prop} {e:eD} (hg:gd ops s o=some true) (h:Jh P s o.dst o.op=some (ps,e)):Loc P ops o s e:=by
 unfold Jh at h;split at h
 ·rename_i t hop;split at h
  ·rename_i k K E hd hu;split at h
   ·rename_i kd hk;obtain ⟨hb,h⟩:=gH h;cases h;exact zY hg hop hd hu hk hb
   ·cases h
  ·cases h
 ·cases h
theorem Rel.cellAny {c:Cx P} {a:Act} {w:World} {β:Nat→Nat} {κ:Nat→Nat×Nat} {s:AS} (r:Rel c s a w β κ) {k i:Nat} {e:TypeId} {cs:List AV} (hk:lk .gone s.h k = .cells e cs):Rel c ⟨s.n,s.t,ins k (.cells e (cs.set i .any)) s.h⟩ a w β κ:=by
 have hlive:(lk .gone s.h k).live:=by rw [hk];trivial
 refine r.replace hlive (ob:=.cells e (cs.set i .any)) trivial (fun _ _=>rfl) (dy.refl _ _) (fun _ _ => ?_);have ho:=r.hp.ob k;rw [hk] at ho;obtain ⟨cur,h1,h2,h3⟩:=ho;refine ⟨cur,h1,by simpa using h2,fun j hj => ?_⟩;have hj2:j<cs.length:=by simpa using hj
 by_cases e:i=j
 ·subst e;have:(cs.set i .any).getD i .any = .any:=by simp [Lz,hj2]
  rw [this];exact .d (.any _)
 ·have:(cs.set i .any).getD j .any=cs.getD j .any:=by simp [Lz,List.getElem?_set,e]
  rw [this];exact h3 j hj2
def JZ (P:Program) (s:AS) (dst:Option Tmp):Op→Option (List Prop×eD)
 | .load t x=>match s.op x,dst with
  | .hptr k i,some d=>match lk .gone s.h k,qV P s t (.hptr k i) with
   | .cells e cs,some v=>bif Nat.blt d s.n then some ([],⟨[(d,v)],[(k,.cells e (cs.set i .any))],[],[]⟩) else none
   | _,_=>none
  | _,_=>none
 | _=>none
theorem Cm {ps:List Prop} {e:eD} (hg:gd ops s o=some true) (h:JZ P s o.dst o.op=some (ps,e)):Loc P ops o s e:=by
 unfold JZ at h;split at h
 ·rename_i t x hop;split at h
  ·rename_i k i d hx hd;split at h
   ·rename_i et cs v hk hv;obtain ⟨hb,h⟩:=gH h;cases h;intro s' ha _ _;have hxo:x∈o.op.operands:=by rw [hop];simp [Op.operands]
    have hx':s'.op x = .hptr k i:=by rw [bH ha hxo];exact hx
    have hk':lk .gone s'.h k = .cells et cs:=by rw [ha.h (by rw [hop];rfl) _ hxo k (by rw [hx];simp [AV.men])];exact hk
    have hv':qV P s' t (.hptr k i)=some v:=by rw [← hv];exact ub (fun j hj=>by
     have:j=k:=by simp only [AV.men] at hj;exact (dO.1 hj).symm
     rw [this,hk',hk])
    have hput:AS.put s' (some d) v=some ⟨s'.n,ins d v s'.t,s'.h⟩:=by simp only [AS.put];rw [ha.n,hb];rfl
    refine (cL (s':=⟨s'.n,ins d v s'.t,ins k (.cells et (cs.set i .any)) s'.h⟩) (by rw [cT ha];exact hg) fun c a w β κ r => ?_).mono fun s'' e1 => ?_
    ·obtain ⟨V,hr,hG⟩:=pf r (by have:=r.op x;rw [hx'] at this;exact this) hv';have r1:=cZ r hG hput;have hk2:lk .gone (⟨s'.n,ins d v s'.t,s'.h⟩:AS).h k = .cells et cs:=hk';refine ⟨V,w,β,κ,.inl ?_,by rw [hd];exact r1.cellAny hk2⟩;simp [execOp,hop,hr,Result.andThen]
    ·subst e1;exact ⟨rfl,fun _=>rfl,fun _=>rfl⟩
   ·cases h
  ·cases h
 ·cases h
end
end Go.Ab
