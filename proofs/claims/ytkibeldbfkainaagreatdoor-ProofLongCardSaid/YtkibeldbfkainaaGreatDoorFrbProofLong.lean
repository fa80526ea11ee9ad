/- The frame for walks: states without addresses, the rules by which code is walked, and contracts of library functions. -/
import Derived.Test.YtkibeldbfkainaaGreatDoorFraProofLong
import Derived.MapFrom
import Derived.Lib.ConvBytes
import Derived.Lib.SlBytesRow
import Derived.Maps.RangeRun
import Derived.Laws.StructEq
import Derived.WideKeyEntry
import Derived.Laws.MakeOwn
set_option linter.unusedSimpArgs false
set_option linter.unusedVariables false
namespace Go.Ab
open Go.RowKit
section
variable {P:Program} {l:List Oper}
def cntF:List Bool→Nat
 | []=>0
 | b::bs=>(if b then 0 else 1)+cntF bs
theorem Io:∀ {bs:List Bool} {i:Nat},bs[i]? = some false→cntF bs=cntF (bs.set i true)+1
 | [],i,h=>by simp at h
 | b::bs,0,h=>by
  simp only [List.getElem?_cons_zero,S9] at h;subst h;simp [cntF];omega
 | b::bs,i+1,h=>by have:=Io (bs:=bs) (i:=i) (by simpa using h);simp only [List.set_cons_succ,cntF];omega
theorem UZ:∀ {bs:List Bool},cntF bs=0→bs=List.replicate bs.length true
 | [],_=>rfl
 | b::bs,h=>by
  cases b with
  | false=>simp [cntF] at h
  | true=>simp only [cntF,if_true,Nat.zero_add] at h;rw [List.length_cons,List.replicate_succ,← UZ h]
theorem Im:∀ {bs:List Bool},cntF bs≠0→∃ i:Nat,bs[i]? = some false
 | [],h=>absurd rfl h
 | b::bs,h=>by
  cases b with
  | false=>exact ⟨0,rfl⟩
  | true =>
   obtain ⟨i,hi⟩:=Im (bs:=bs) (by simpa [cntF] using h);exact ⟨i+1,by simpa using hi⟩
theorem EW:∀ {os:List Oper} {k:Nat},JB k os=true→∀ (i:Nat) (o:Oper),os[i]? = some o→(k+i)∈aft o
 | [],_,_,i,o,h=>by simp at h
 | o0::os,k,h,0,o,ho=>by
  simp only [JB,SY] at h;simp only [List.getElem?_cons_zero,S9] at ho;subst ho;obtain ⟨x,hx,hb⟩:=List.any_eq_true.1 h.1;have:k=x:=ef.1 hb;subst this;exact hx
 | o0::os,k,h,i+1,o,ho=>by simp only [JB,SY] at h;have:=EW h.2 i o (by simpa using ho);rw [show k+(i+1)=k+1+i by omega];exact this
theorem yY:∀ {os:List Oper} {k:Nat},BI k os=true→∀ (i:Nat) (o:Oper),os[i]? = some o→∀ j∈aft o,j<k+i
 | [],_,_,i,o,h=>by simp at h
 | o0::os,k,h,0,o,ho=>by
  simp only [BI,SY] at h;simp only [List.getElem?_cons_zero,S9] at ho;subst ho;intro j hj;have:=Tc.1 h.1 j hj;simpa [Nat.blt_eq] using this
 | o0::os,k,h,i+1,o,ho=>by simp only [BI,SY] at h;intro j hj;have:=yY h.2 i o (by simpa using ho) j hj;omega
theorem IY:∀ {n i:Nat},i<n→i∈idxs n
 | 0,i,h=>by omega
 | n+1,i,h=>by
  simp only [idxs,List.mem_append,List.mem_singleton];by_cases e:i=n
  ·exact .inr e
  ·exact .inl (IY (by omega))
theorem qx {listed:Array Bool} {i:Nat}:i∈Region.ready .any l.toArray listed↔listed.getD i true=false∧∃ o,l[i]? = some o∧∀ j∈aft o,listed.getD j false=true:=by
 rw [mem_ready];constructor
 ·rintro ⟨h,o,ho,ha⟩;exact ⟨h,o,by simpa using ho,fun j hj=>by obtain ⟨e,he,hb,rfl⟩:=HW.1 hj;exact ha e he hb⟩
 ·rintro ⟨h,o,ho,ha⟩;exact ⟨h,o,by simpa using ho,fun e he hb=>ha _ (HW.2 ⟨e,he,hb,rfl⟩)⟩
theorem BE {Q':Exit→Act→World→Prop} (hback:BI 0 l=true):∀ (rest:List Oper) (k:Nat) (listed:Array Bool) (a:Act) (w:World),listed.size=l.length→(∀ j,rest[j]? = l[k+j]?)→k+rest.length=l.length→(∀ i,i<k→listed.getD i false=true)→(∀ i,k≤i→listed.getD i false=false) →
 (∀ i o,k<i→l[i]? = some o→(i-1)∈aft o)→wpList P l.toArray Q' rest a w→wpAny P .any l.toArray Q' rest.length listed a w
 | [],k,listed,a,w,hs,_,hl,h1,_,_,h=>by
  refine ⟨List.eq_nil_iff_forall_not_mem.2 fun i hi=>?_,h⟩;obtain ⟨h2,o,ho,_⟩:=qx.1 hi;have hi':i<l.length:=(S8.1 ho).1;have:=h1 i (by simp at hl;omega);simp [SZ,Ta (show i<listed.size by omega)] at this h2;rw [this] at h2;cases h2
 | o::rest,k,listed,a,w,hs,hr,hl,h1,h2,h3,h=>by
  have hok:l[k]? = some o:=by have:=hr 0;simpa using this.symm
  have hkl:k<l.length:=(S8.1 hok).1;have hkr:k∈Region.ready .any l.toArray listed:=by
   refine qx.2 ⟨?_,o,hok,fun j hj=>h1 j ?_⟩
   ·have:=h2 k (Nat.le_refl _);simp [SZ,Ta (show k<listed.size by omega)] at this ⊢;exact this
   ·have:=yY hback k o hok j hj;omega
  refine ⟨fun h0=>(by rw [h0] at hkr;cases hkr),fun i hi=>?_⟩;obtain ⟨h4,oi,hoi,h5⟩:=qx.1 hi;have hi':i<l.length:=(S8.1 hoi).1;have hik:i=k:=by
   by_cases hlt:i<k
   ·have:=h1 i hlt;simp [SZ,Ta (show i<listed.size by omega)] at this h4;rw [this] at h4;cases h4
   ·by_cases e:i=k
    ·exact e
    ·have:=h5 _ (h3 i oi (by omega) hoi);rw [h2 (i-1) (by omega)] at this;cases this
  subst hik;have hset:∀ j,(listed.setIfInBounds i true).getD j false=if j=i then true else listed.getD j false:=by
   intro j;simp only [SZ,Array.getElem?_setIfInBounds];by_cases e:j=i
   ·subst e;rw [if_pos rfl,if_pos (by omega)];simp
   ·rw [if_neg (fun h=>e h.symm),if_neg e]
  have ih:=fun a' w'=>BE (Q':=Q') hback rest (i+1) (listed.setIfInBounds i true) a' w' (by simpa using hs) (fun j=>by have:=hr (j+1);simpa [Nat.add_assoc,Nat.add_comm 1 j] using this) (by simp at hl;omega)
   (fun j hj=>by
    rw [hset];by_cases e:j=i
    ·rw [if_pos e]
    ·rw [if_neg e];exact h1 j (by omega))
   (fun j hj=>by rw [hset,if_neg (by omega)];exact h2 j (by omega)) (fun j oj hj hoj=>h3 j oj (by omega) hoj)
  have hop:l.toArray[i]? = some o:=by simpa using hok
  unfold wpOp;simp only [hop];unfold wpList at h;split at h
  ·rename_i hw;rw [if_pos hw];exact h.imp (Oper.wp_mono fun a' w' hh=>ih a' w' hh) id
  ·rename_i hw;rw [if_neg hw];exact ih _ _ h
def Kq (k:Nat) (s:AS):Bool:=(s.t.all fun p=>!AV.men k p.2)&&s.h.all fun p=>!AO.men k p.2
theorem Ki {α:Type} {d:α} {p:α→Bool} (hd:p d=true):∀ {l:List (Nat×α)},l.all (fun x=>p x.2)=true→∀ i,p (lk d l i)=true
 | [],_,i=>hd
 | (j,u)::l,h,i=>by
  simp only [List.all_cons,SY] at h;simp only [lk];cases Nat.beq i j with
  | true=>exact h.1
  | false=>exact Ki hd h.2 i
theorem I4 {k:Nat} {s:AS} (h:Kq k s=true):Pc k s:=by simp only [Kq,SY] at h;exact ⟨fun t=>by have:=Ki (p:=fun v=>!AV.men k v) (d:=.any) rfl h.1 t;simpa using this,fun j=>by have:=Ki (p:=fun v=>!AO.men k v) (d:=.gone) rfl h.2 j;simpa using this⟩
def A0 (k:Nat) (e:dw):Bool:=(e.ws.any fun p=>AV.men k p.2)||e.os.any fun p=>AO.men k p.2
def Qu (cl:List (List Nat)) (es:List dw) (s:AS):Bool:=es.zipIdx.all fun (e,i)=>e.fr.all fun k=>Kq k s&&es.zipIdx.all fun (e',j)=>Nat.beq i j || !A0 k e'||(Nat.blt i j&&(cl.getD j []).any (Nat.beq i))
def QA (cl:List (List Nat)) (es:List dw) (i t:Nat):Bool:=es.zipIdx.any fun (e',j)=>(cl.getD i []).any (Nat.beq j)&&e'.os.any fun q=>Nat.beq q.1 t
def QB (cl:List (List Nat)) (es:List dw) (i t:Nat):Bool:=es.zipIdx.any fun (e',j)=>(cl.getD i []).any (Nat.beq j)&&e'.ws.any fun q=>Nat.beq q.1 t
def Kr (ov ovT:Nat→Bool) (k t:Nat) (s:AS):Bool:=(s.t.all fun p=>Nat.beq p.1 t||(!AV.men k p.2||ovT p.1))&&s.h.all fun p=>!AO.men k p.2||ov p.1
theorem Ll {α:Type} {d:α} {p:Nat→α→Bool} (hd:∀ i,p i d=true):∀ {l:List (Nat×α)},l.all (fun x=>p x.1 x.2)=true→∀ i,p i (lk d l i)=true
 | [],_,i=>hd i
 | (j,u)::l,h,i=>by
  simp only [List.all_cons,SY] at h;simp only [lk];cases e:Nat.beq i j with
  | true=>rw [ef.1 e];exact h.1
  | false=>exact Ll hd h.2 i
theorem wq {α:Type} {wr:dw→Option α}:∀ {es:List dw} {bs:List Bool},lw wr es bs=none→∀ (j:Nat) (e:dw),es[j]? = some e→bs[j]? = some true→wr e=none
 | [],bs,_,j,e,h,_=>by simp at h
 | e0::es,[],_,j,e,_,h=>by simp at h
 | e0::es,b::bs,h,j,e,h1,h2=>by
  simp only [lw] at h;split at h
  ·cases h
  ·rename_i hn;cases j with
   | zero =>
    simp only [List.getElem?_cons_zero,S9] at h1 h2;subst h1;subst h2;simpa using h
   | succ j=>exact wq hn j e (by simpa using h1) (by simpa using h2)
theorem GK {α:Type}:∀ {l:List (Nat×α)} {i:Nat},l.any (fun p=>Nat.beq p.1 i)=true→n5 l i≠none
 | [],i,h=>by simp at h
 | (k,v)::l,i,h=>by
  simp only [n5];cases e:Nat.beq i k with
  | true=>simp
  | false =>
   simp only [List.any_cons,Bool.or_eq_true] at h;rcases h with h | h
   ·have h:=ef.1 h;subst h;rw [Nat.beq_refl] at e;cases e
   ·exact GK h
theorem Kw {cl:List (List Nat)} {es:List dw} {i t:Nat} {bs:List Bool} (h:QA cl es i t=true) (hc:∀ j∈cl.getD i [],j<es.length→bs[j]? = some true) (hn:lw (fun e=>n5 e.os t) es bs=none):False:=by
 obtain ⟨⟨e',j⟩,hm,hb⟩:=List.any_eq_true.1 h;rw [List.mem_iff_getElem?] at hm;obtain ⟨m,hm⟩:=hm;rw [List.getElem?_zipIdx] at hm;cases he:es[m]? with
 | none=>rw [he] at hm;cases hm
 | some e2 =>
  rw [he] at hm;simp only [Option.map_some,S9,Prod.mk.injEq,Nat.zero_add] at hm;obtain ⟨rfl,rfl⟩:=hm;simp only [SY] at hb;obtain ⟨x,hx,hb1⟩:=List.any_eq_true.1 hb.1;have hb1:=ef.1 hb1;subst hb1;exact GK hb.2 (wq hn m e2 he (hc m hx (S8.1 he).1))
theorem Kx {cl:List (List Nat)} {es:List dw} {i t:Nat} {bs:List Bool} (h:QB cl es i t=true) (hc:∀ j∈cl.getD i [],j<es.length→bs[j]? = some true) (hn:lw (fun e=>n5 e.ws t) es bs=none):False:=by
 obtain ⟨⟨e',j⟩,hm,hb⟩:=List.any_eq_true.1 h;rw [List.mem_iff_getElem?] at hm;obtain ⟨m,hm⟩:=hm;rw [List.getElem?_zipIdx] at hm;cases he:es[m]? with
 | none=>rw [he] at hm;cases hm
 | some e2 =>
  rw [he] at hm;simp only [Option.map_some,S9,Prod.mk.injEq,Nat.zero_add] at hm;obtain ⟨rfl,rfl⟩:=hm;simp only [SY] at hb;obtain ⟨x,hx,hb1⟩:=List.any_eq_true.1 hb.1;have hb1:=ef.1 hb1;subst hb1;exact GK hb.2 (wq hn m e2 he (hc m hx (S8.1 he).1))
def xe (k t:Nat) (e:dw):Bool:=(e.ws.any fun p=>!Nat.beq p.1 t&&AV.men k p.2)||e.os.any fun p=>AO.men k p.2
def Qz (cl:List (List Nat)) (es:List dw) (s:AS):Bool:=es.zipIdx.all fun (e,i)=>e.ex.all fun (k,t)=>Kr (QA cl es i) (QB cl es i) k t s&&es.zipIdx.all fun (e',j)=>Nat.beq i j || !xe k t e'||(Nat.blt i j&&(cl.getD j []).any (Nat.beq i))
theorem Lm {α:Type} {d:α} {p:Nat→α→Bool} (hd:∀ i,p i d=true) {t:Nat}:∀ {l:List (Nat×α)},l.all (fun x=>Nat.beq x.1 t||p x.1 x.2)=true→∀ i,i≠t→p i (lk d l i)=true
 | [],_,i,_=>hd i
 | (j,u)::l,h,i,hi=>by
  simp only [List.all_cons,SY,Bool.or_eq_true] at h;simp only [lk];cases e:Nat.beq i j with
  | true =>
   have e:=ef.1 e;subst e;rcases h.1 with h1 | h1
   ·exact absurd (ef.1 h1) hi
   ·exact h1
  | false=>exact Lm hd (by simpa using h.2) i hi
theorem I5 {ov ovT:Nat→Bool} {k t:Nat} {s:AS} (h:Kr ov ovT k t s=true):(∀ i,i≠t→AV.men k (lk .any s.t i)=true→ovT i=true)∧∀ j,AO.men k (lk .gone s.h j)=true→ov j=true:=by
 simp only [Kr,SY] at h;refine ⟨fun i hi hj=>?_,fun j hj=>?_⟩
 ·have:=Lm (p:=fun i v=>!AV.men k v||ovT i) (d:=.any) (fun _=>rfl) h.1 i hi;rw [hj] at this;simpa using this
 ·have:=Ll (p:=fun j v=>!AO.men k v||ov j) (d:=.gone) (fun _=>rfl) h.2 j;rw [hj] at this;simpa using this
theorem Ah {α:Type}:∀ {l:List (Nat×α)} {i:Nat} {v:α},n5 l i=some v→(i,v)∈l
 | [],_,_,h=>by cases h
 | (k,u)::l,i,v,h=>by
  simp only [n5] at h;by_cases e:i=k
  ·subst e;rw [Nat.beq_refl] at h;cases h;simp
  ·rw [dz e] at h;exact List.mem_cons_of_mem _ (Ah h)
theorem NC {k t:Nat} {e:dw} {v:AV} (h:A0 k e=false) (hv:n5 e.ws t=some v):AV.men k v=false:=by simp only [A0,Bool.or_eq_false_iff] at h;rw [Bool.eq_false_iff];intro hc;have:(e.ws.any fun p=>AV.men k p.2)=true:=List.any_eq_true.2 ⟨(t,v),Ah hv,hc⟩;rw [h.1] at this;cases this
theorem NB {k t:Nat} {e:dw} {v:AO} (h:A0 k e=false) (hv:n5 e.os t=some v):AO.men k v=false:=by simp only [A0,Bool.or_eq_false_iff] at h;rw [Bool.eq_false_iff];intro hc;have:(e.os.any fun p=>AO.men k p.2)=true:=List.any_eq_true.2 ⟨(t,v),Ah hv,hc⟩;rw [h.2] at this;cases this
theorem Mb {k t0 t:Nat} {e:dw} {v:AV} (h:xe k t0 e=false) (hv:n5 e.ws t=some v) (ht:t≠t0):AV.men k v=false:=by simp only [xe,Bool.or_eq_false_iff] at h;rw [Bool.eq_false_iff];intro hc;have:(e.ws.any fun p=>!Nat.beq p.1 t0&&AV.men k p.2)=true:=List.any_eq_true.2 ⟨(t,v),Ah hv,by simp [dz ht,hc]⟩;rw [h.1] at this;cases this
theorem Ma {k t0 t:Nat} {e:dw} {v:AO} (h:xe k t0 e=false) (hv:n5 e.os t=some v):AO.men k v=false:=by simp only [xe,Bool.or_eq_false_iff] at h;rw [Bool.eq_false_iff];intro hc;have:(e.os.any fun p=>AO.men k p.2)=true:=List.any_eq_true.2 ⟨(t,v),Ah hv,hc⟩;rw [h.2] at this;cases this
theorem Pp {e1 e2:dw} {r1 r2:List Nat×List AV} {t:Nat} (h1:n5 e1.ws t≠none) (h2:n5 e2.ws t≠none):TE e1 e2 r1 r2=true:=by obtain ⟨p,hp,rfl⟩:=wm h1;obtain ⟨q,hq,hq2⟩:=wm h2;simp only [TE,Bool.or_eq_true];exact .inl (.inl (.inl (List.any_eq_true.2 ⟨p,hp,by rw [Bool.or_eq_true];exact .inl (List.any_eq_true.2 ⟨q,hq,ef.2 hq2.symm⟩)⟩)))
theorem Pk {e1 e2:dw} {r1 r2:List Nat×List AV} {t:Nat} (h1:n5 e1.os t≠none) (h2:n5 e2.os t≠none):TE e1 e2 r1 r2=true:=by obtain ⟨p,hp,rfl⟩:=wm h1;obtain ⟨q,hq,hq2⟩:=wm h2;simp only [TE,Bool.or_eq_true];exact .inl (.inr (List.any_eq_true.2 ⟨p,hp,by rw [Bool.or_eq_true];exact .inl (List.any_eq_true.2 ⟨q,hq,ef.2 hq2.symm⟩)⟩))
theorem Po {e1 e2:dw} {r1 r2:List Nat×List AV} {t:Nat} (h1:n5 e1.ws t≠none) (h2:t∈r2.1):TE e1 e2 r1 r2=true:=by obtain ⟨p,hp,rfl⟩:=wm h1;simp only [TE,Bool.or_eq_true];exact .inl (.inl (.inl (List.any_eq_true.2 ⟨p,hp,by rw [Bool.or_eq_true];exact .inr (List.any_eq_true.2 ⟨p.1,h2,Nat.beq_refl _⟩)⟩)))
theorem Pn {e1 e2:dw} {r1 r2:List Nat×List AV} {t:Nat} (h1:n5 e2.ws t≠none) (h2:t∈r1.1):TE e1 e2 r1 r2=true:=by obtain ⟨p,hp,rfl⟩:=wm h1;simp only [TE,Bool.or_eq_true];exact .inl (.inl (.inr (List.any_eq_true.2 ⟨p,hp,List.any_eq_true.2 ⟨p.1,h2,Nat.beq_refl _⟩⟩)))
theorem Pl {e1 e2:dw} {r1 r2:List Nat×List AV} {k:Nat} {v:AV} (h1:n5 e1.os k≠none) (h2:v∈r2.2) (h3:AV.men k v=true):TE e1 e2 r1 r2=true:=by obtain ⟨p,hp,rfl⟩:=wm h1;simp only [TE,Bool.or_eq_true];exact .inl (.inr (List.any_eq_true.2 ⟨p,hp,by rw [Bool.or_eq_true];exact .inr (List.any_eq_true.2 ⟨v,h2,h3⟩)⟩))
theorem Pm {e1 e2:dw} {r1 r2:List Nat×List AV} {k:Nat} {v:AV} (h1:n5 e2.os k≠none) (h2:v∈r1.2) (h3:AV.men k v=true):TE e1 e2 r1 r2=true:=by obtain ⟨p,hp,rfl⟩:=wm h1;simp only [TE,Bool.or_eq_true];exact .inr (List.any_eq_true.2 ⟨p,hp,List.any_eq_true.2 ⟨v,h2,h3⟩⟩)
theorem kq.symm' {s s':AS} (h:kq s s'):kq s' s:=⟨h.n.symm,fun i=>(h.t i).symm,fun k=>(h.h k).symm⟩
theorem OV {id:Nat} {Q:Exit→AS→Prop} (hm:P.follows .mixedOrders=true) (n:Nat) (es:List dw) {s s1:AS} (hchk:(NA l n es s&&Qu (DA l []) es s&&Qz (DA l []) es s)=true) (hch:lG P l.toArray (l.take n) es s s1)
 (ht:jD P l.toArray (l.drop n) Q s1):eA P (.region id l.toArray true) Q s:=fun c a w β κ r=>by
 simp only [SY,NA] at hchk;obtain ⟨⟨⟨⟨⟨⟨c1,c2⟩,c3⟩,c5⟩,c6⟩,c7⟩,c8⟩:=hchk;have hen:es.length=n:=ef.1 c1;have hnl:n≤l.length:=by simpa [Nat.ble_eq] using c2
 obtain ⟨k1,k2,k3⟩:=hch.loc;have htk:∀ i,i<n→(l.take n)[i]? = l[i]? := fun i hi=>by rw [List.getElem?_take,if_pos hi]
 have htail:(∀ i o,n<i→l[i]? = some o→(i-1)∈aft o)∧(n<l.length→∀ j,j<n→j∈(DA l []).getD n []):=by
  cases hd:l.drop n with
  | nil =>
   have hle:l.length≤n:=by simpa using hd
   exact ⟨fun i o hi ho=>by have:=(S8.1 ho).1;omega,fun h=>by omega⟩
  | cons o0 os =>
   rw [hd] at c6;simp only [SY] at c6;refine ⟨fun i o hi ho=>?_,fun _ j hj=>?_⟩
   ·have hget:os[i-(n+1)]? = some o:=by
     have:(l.drop n)[i-n]? = some o:=by rw [List.getElem?_drop,show n+(i-n)=i by omega];exact ho
     rw [hd,show i-n=(i-(n+1))+1 by omega,List.getElem?_cons_succ] at this;exact this
    have:=EW c6.2 _ o hget;rw [show n+(i-(n+1))=i-1 by omega] at this;exact this
   ·obtain ⟨x,hx,hb⟩:=List.any_eq_true.1 (Tc.1 c6.1 j (IY hj));have:j=x:=ef.1 hb;subst this;exact hx
 have main:∀ (f:Nat) (listed:Array Bool) (a:Act) (w:World) (β:Nat→Nat) (κ:Nat→Nat×Nat),listed.size=l.length→MZ l listed→cntF (listed.toList.take n)=f→(∀ i,n≤i→listed.getD i false=false) →
  Rel c (sL es (listed.toList.take n) s) a w β κ→wpAny P .any l.toArray (lift c Q) (f+(l.length-n)) listed a w:=by
  intro f;induction f with
  | zero =>
   intro listed a w β κ hs hcl hcnt hun hr;have hml:(listed.toList.take n).length=n:=by simp;omega
   have hall:=UZ hcnt;rw [hml] at hall;rw [hall,← hen,← k2] at hr;have hlist:=ht c a w β κ hr;have hdl:(l.drop n).length=l.length-n:=by simp
   rw [Nat.zero_add,← hdl];refine BE c5 (l.drop n) n listed a w hs (fun j=>by rw [List.getElem?_drop]) (by rw [hdl];omega) (fun i hi=>?_) hun htail.1 hlist;have h1:=Ee (listed:=listed) hi (by omega);rw [hall,List.getElem?_replicate,if_pos hi] at h1;exact (Tb h1).symm
  | succ f ih =>
   intro listed a w β κ hs hcl hcnt hun hr;have hml:(listed.toList.take n).length=n:=by simp;omega
   obtain ⟨i0,hi0⟩:=Im (bs:=listed.toList.take n) (by omega);have hi0n:i0<n:=by have:=(S8.1 hi0).1;omega
   have hgf:∀ i,i<n→(listed.toList.take n)[i]? = some (listed.getD i false):=fun i hi=>Ee hi (by omega);have hready:∀ i∈Region.ready .any l.toArray listed,i<n∧listed.getD i false=false∧∃ o,l[i]? = some o∧∀ j∈aft o,listed.getD j false=true:=by
    intro i hi;obtain ⟨h4,o,ho,h5⟩:=qx.1 hi;have hil:i<l.length:=(S8.1 ho).1;have h6:listed.getD i false=false:=by simp [SZ,Ta (show i<listed.size by omega)] at h4 ⊢;exact h4
    refine ⟨?_,h6,o,ho,h5⟩;by_cases hin:i<n
    ·exact hin
    ·exfalso;by_cases e:i=n
     ·subst e;have:=nO hcl l [] (fun j=>by simp) (fun k hk=>by simp at hk) (by simpa using c5) i o ho (by simpa using hil) h5 i0 (htail.2 hil i0 hi0n);rw [hgf i0 hi0n,this] at hi0;cases hi0
     ·have:=h5 _ (htail.1 i o (by omega) ho);rw [hun (i-1) (by omega)] at this;cases this
   rw [show f+1+(l.length-n)=(f+(l.length-n))+1 by omega];refine ⟨fun h0=>?_,fun i hi=>?_⟩
   ·
    exfalso;have hex:∃ i,i<n∧listed.getD i false=false∧∀ j,j<i→listed.getD j false=true:=by
     have gen:∀ m,(∀ j,j<m→listed.getD j false=true)∨∃ i,i<m∧listed.getD i false=false∧∀ j,j<i→listed.getD j false=true:=by
      intro m;induction m with
      | zero=>exact .inl fun j hj=>by omega
      | succ m ihm =>
       rcases ihm with h | ⟨i,h1,h2,h3⟩
       ·cases hb:listed.getD m false with
        | true =>
         refine .inl fun j hj=>?_;by_cases e:j=m
         ·rw [e];exact hb
         ·exact h j (by omega)
        | false=>exact .inr ⟨m,by omega,hb,h⟩
       ·exact .inr ⟨i,by omega,h2,h3⟩
     rcases gen n with h | ⟨i,h1,h2,h3⟩
     ·have:=h i0 hi0n;rw [hgf i0 hi0n,this] at hi0;cases hi0
     ·exact ⟨i,h1,h2,h3⟩
    obtain ⟨i,h1,h2,h3⟩:=hex;have hil:i<l.length:=by omega
    have:i∈Region.ready .any l.toArray listed:=by
     refine qx.2 ⟨?_,l[i],SX hil,fun j hj=>h3 j ?_⟩
     ·simp [SZ,Ta (show i<listed.size by omega)] at h2 ⊢;exact h2
     ·have:=yY c5 i _ (SX hil) j hj;omega
    rw [h0] at this;cases this
   ·obtain ⟨hin,hif,o,ho,haft⟩:=hready i hi;obtain ⟨e,he⟩:∃ e,es[i]? = some e:=⟨es[i]'(by omega),SX (by omega)⟩;have hloc:=k3 i o e (by rw [htk i hin];exact ho) he;have hbi:(listed.toList.take n)[i]? = some false:=by rw [hgf i hin,hif]
    let lex:=(List.range es.length).map fun j=>decide (j<i)
    have hlex:∀ j,j<n→lex[j]? = some (decide (j<i)):=fun j hj=>by simp [lex,hen,hj]
    have hlexl:lex.length=(listed.toList.take n).length:=by simp [lex,hen];omega
    have hord:∀ (j:Nat) (oj:Oper) (ej:dw),l[j]? = some oj→es[j]? = some ej→j≠i →
     (∀ r1 r2,(infos l.toArray (l.take n) es s)[min i j]? = some r1→(infos l.toArray (l.take n) es s)[max i j]? = some r2→TE (if i<j then e else ej) (if i<j then ej else e) r1 r2=true)→(listed.toList.take n)[j]? = lex[j]? := by
     intro j oj ej hoj hej hji hcf;have hjn:j<n:=by have:=(S8.1 hej).1;omega
     have i1:=tf (ops:=l.toArray) (s:=s) k1 i o (by rw [htk i hin];exact ho);have i2:=tf (ops:=l.toArray) (s:=s) k1 j oj (by rw [htk j hjn];exact hoj);rw [hgf j hjn,hlex j hjn];rcases Nat.lt_or_ge j i with hlt | hge
     ·rw [show min i j=j by omega,show max i j=i by omega,if_neg (by omega),if_neg (by omega)] at hcf;have hm:=Dq c3 hej i2 he i1 hlt (hcf _ _ i2 i1);have:=nO hcl l [] (fun j=>by simp) (fun k hk=>by simp at hk) (by simpa using c5) i o ho (by simpa using (S8.1 ho).1) haft j hm;rw [this];simp [hlt]
     ·rw [show min i j=i by omega,show max i j=j by omega,if_pos (by omega),if_pos (by omega)] at hcf;have hm:=Dq c3 he i1 hej i2 (by omega) (hcf _ _ i1 i2);have:listed.getD j false=false:=by
       cases hb:listed.getD j false with
       | false=>rfl
       | true =>
        have:=nO hcl l [] (fun j=>by simp) (fun k hk=>by simp at hk) (by simpa using c5) j oj hoj (by simpa using (S8.1 hoj).1) (hcl j oj hoj hb) i hm;rw [hif] at this;cases this
      rw [this];simp;omega
    have hoj:∀ (j:Nat) (ej:dw),es[j]? = some ej→∃ oj,l[j]? = some oj:=fun j ej h=>by have:=(S8.1 h).1;exact ⟨l[j]'(by omega),SX (by omega)⟩
    have hii:(listed.toList.take n)[i]? = lex[i]? := by rw [hbi,hlex i hin];simp
    have hagree:xJ l.toArray o (sL es lex s) (sL es (listed.toList.take n) s):=by
     refine ⟨by rw [Oz,Oz],fun t hlt=>?_,fun hmv x hx k hk=>?_⟩
     ·rw [KK,KK,wo hlexl.symm fun j ej h1 h2=>?_];by_cases hji:j=i
      ·rw [hji];exact hii
      obtain ⟨oj,h3⟩:=hoj j ej h1;refine hord j oj ej h3 h1 hji fun r1 r2 q1 q2=>?_;have i1:=tf (ops:=l.toArray) (s:=s) k1 i o (by rw [htk i hin];exact ho);by_cases hlt2:i<j
      ·rw [if_pos hlt2,if_pos hlt2];rw [show min i j=i by omega,i1] at q1;cases q1;exact Pn h2 hlt
      ·rw [if_neg hlt2,if_neg hlt2];rw [show max i j=i by omega,i1] at q2;cases q2;exact Po h2 hlt
     ·rw [KJ,KJ,wo hlexl.symm fun j ej h1 h2=>?_];by_cases hji:j=i
      ·rw [hji];exact hii
      obtain ⟨oj,h3⟩:=hoj j ej h1;refine hord j oj ej h3 h1 hji fun r1 r2 q1 q2=>?_;have i1:=tf (ops:=l.toArray) (s:=s) k1 i o (by rw [htk i hin];exact ho);have hxm:(sL es lex s).op x∈(bif RE o.op then [] else o.op.operands.toList.map (sL es lex s).op):=by rw [hmv];exact List.mem_map.2 ⟨x,by simpa using hx,rfl⟩
      by_cases hlt2:i<j
      ·rw [if_pos hlt2,if_pos hlt2];rw [show min i j=i by omega,i1] at q1;cases q1;exact Pm h2 hxm hk
      ·rw [if_neg hlt2,if_neg hlt2];rw [show max i j=i by omega,i1] at q2;cases q2;exact Pl h2 hxm hk
    have hfree:∀ k∈e.fr,Pc k (sL es (listed.toList.take n) s):=by
     intro k hk;have h1:=Tc.1 (Tc.1 c7 (e,i) (by rw [List.mem_iff_getElem?];exact ⟨i,by simp [he]⟩)) k hk;simp only [SY] at h1;obtain ⟨f1,f2⟩:=I4 h1.1;have hother:∀ (j:Nat) (e':dw),es[j]? = some e'→(listed.toList.take n)[j]? = some true→A0 k e'=false:=by
      intro j e' h2 h3;have hne:i≠j:=by rintro rfl;rw [hbi] at h3;cases h3
      have h4:=Tc.1 h1.2 (e',j) (by rw [List.mem_iff_getElem?];exact ⟨j,by simp [h2]⟩);simp only [dz hne,Bool.false_or,Bool.or_eq_true,Bool.not_eq_true',SY] at h4;rcases h4 with h4 | ⟨h4,h5⟩
      ·exact h4
      ·exfalso;obtain ⟨x,hx,hb⟩:=List.any_eq_true.1 h5;have hxi:i=x:=ef.1 hb;subst hxi;obtain ⟨oj,hoj'⟩:=hoj j e' h2;have hjn:j<n:=by have:=(S8.1 h2).1;omega
       rw [hgf j hjn] at h3;have hb2:listed.getD j false=true:=Tb h3;have:=nO hcl l [] (fun j=>by simp) (fun k hk=>by simp at hk) (by simpa using c5) j oj hoj' (by simpa using (S8.1 hoj').1) (hcl j oj hoj' hb2) i hx;rw [hif] at this;cases this
     refine ⟨fun t=>?_,fun t=>?_⟩
     ·rw [KK];cases hv:lw (fun e=>n5 e.ws t) es (listed.toList.take n) with
      | none=>exact f1 t
      | some v =>
       obtain ⟨j,e',h2,h3,h4⟩:=El hv;exact NC (hother j e' h2 h3) h4
     ·rw [KJ];cases hv:lw (fun e=>n5 e.os t) es (listed.toList.take n) with
      | none=>exact f2 t
      | some v =>
       obtain ⟨j,e',h2,h3,h4⟩:=El hv;exact NB (hother j e' h2 h3) h4
    have honly:∀ p∈e.ex,RH p.1 p.2 (sL es (listed.toList.take n) s):=by
     rintro ⟨k,t0⟩ hk;have h1:=Tc.1 (Tc.1 c8 (e,i) (by rw [List.mem_iff_getElem?];exact ⟨i,by simp [he]⟩)) (k,t0) hk;simp only [SY] at h1;obtain ⟨f1,f2⟩:=I5 h1.1;have hother:∀ (j:Nat) (e':dw),es[j]? = some e'→(listed.toList.take n)[j]? = some true→xe k t0 e'=false:=by
      intro j e' h2 h3;have hne:i≠j:=by rintro rfl;rw [hbi] at h3;cases h3
      have h4:=Tc.1 h1.2 (e',j) (by rw [List.mem_iff_getElem?];exact ⟨j,by simp [h2]⟩);simp only [dz hne,Bool.false_or,Bool.or_eq_true,Bool.not_eq_true',SY] at h4;rcases h4 with h4 | ⟨h4,h5⟩
      ·exact h4
      ·exfalso;obtain ⟨x,hx,hb⟩:=List.any_eq_true.1 h5;have hxi:i=x:=ef.1 hb;subst hxi;obtain ⟨oj,hoj'⟩:=hoj j e' h2;have hjn:j<n:=by have:=(S8.1 h2).1;omega
       rw [hgf j hjn] at h3;have hb2:listed.getD j false=true:=Tb h3;have:=nO hcl l [] (fun j=>by simp) (fun k hk=>by simp at hk) (by simpa using c5) j oj hoj' (by simpa using (S8.1 hoj').1) (hcl j oj hoj' hb2) i hx;rw [hif] at this;cases this
     refine ⟨fun t htt=>?_,fun t=>?_⟩
     ·rw [KK];cases hv:lw (fun e=>n5 e.ws t) es (listed.toList.take n) with
      | none =>
       rw [Option.getD_none,Bool.eq_false_iff];intro hmen;refine Kx (f1 t htt hmen) (fun j hj hjl=>?_) hv;have:=nO hcl l [] (fun j=>by simp) (fun k hk=>by simp at hk) (by simpa using c5) i o ho (by simpa using (S8.1 ho).1) haft j hj;rw [hgf j (by omega),this]
      | some v =>
       obtain ⟨j,e',h2,h3,h4⟩:=El hv;exact Mb (hother j e' h2 h3) h4 htt
     ·rw [KJ];cases hv:lw (fun e=>n5 e.os t) es (listed.toList.take n) with
      | none =>
       rw [Option.getD_none,Bool.eq_false_iff];intro hmen;refine Kw (f2 t hmen) (fun j hj hjl=>?_) hv;have:=nO hcl l [] (fun j=>by simp) (fun k hk=>by simp at hk) (by simpa using c5) i o ho (by simpa using (S8.1 ho).1) haft j hj;rw [hgf j (by omega),this]
      | some v =>
       obtain ⟨j,e',h2,h3,h4⟩:=El hv;exact Ma (hother j e' h2 h3) h4
    have hlater:∀ (j:Nat) (e':dw),i<j→es[j]? = some e'→(listed.toList.take n)[j]? = some true→(∀ r1 r2,TE e e' r1 r2=true)→False:=by
     intro j e' hij h1 h2 hcf;obtain ⟨oj,h3⟩:=hoj j e' h1;have:=hord j oj e' h3 h1 (by omega) fun r1 r2 _ _=>by rw [if_pos hij,if_pos hij];exact hcf r1 r2
     have hjn:j<n:=by have:=(S8.1 h1).1;omega
     rw [h2,hlex j hjn] at this;simp at this;omega
    have hop:=hloc _ hagree hfree honly c a w β κ hr (wpAny P .any l.toArray (lift c Q) (f+(l.length-n)) (listed.setIfInBounds i true)) (lift c Q) (fun s' a' w' β' κ' hs' hr'=>by
     have hset:∀ j,(listed.setIfInBounds i true).getD j false=if j=i then true else listed.getD j false:=by
      intro j;simp only [SZ,Array.getElem?_setIfInBounds];by_cases e:j=i
      ·subst e;rw [if_pos rfl,if_pos (by omega)];simp
      ·rw [if_neg (fun h=>e h.symm),if_neg e]
     have htake:(listed.setIfInBounds i true).toList.take n=(listed.toList.take n).set i true:=by rw [Array.toList_setIfInBounds,List.take_set]
     refine ih (listed.setIfInBounds i true) a' w' β' κ' (by simpa using hs) (fun j oj hoj hl' j' hj'=>?_) ?_ (fun j hj=>?_) ?_
     ·rw [hset];by_cases e1:j'=i
      ·rw [if_pos e1]
      ·rw [if_neg e1];rw [hset] at hl';by_cases e2:j=i
       ·subst e2;rw [ho] at hoj;cases hoj;exact haft j' hj'
       ·rw [if_neg e2] at hl';exact hcl j oj hoj hl' j' hj'
     ·rw [htake];have:=Io hbi;omega
     ·rw [hset,if_neg (by omega)];exact hun j hj
     ·rw [htake];exact (hr'.same hs'.symm').same (Ru he hbi (fun t ht j e' hij h1 h2=>by
       cases hw:n5 e'.ws t with
       | none=>rfl
       | some v=>exact (hlater j e' hij h1 h2 fun r1 r2=>Pp ht (by rw [hw];simp)).elim) (fun k hk j e' hij h1 h2=>by
       cases hw:n5 e'.os k with
       | none=>rfl
       | some v=>exact (hlater j e' hij h1 h2 fun r1 r2=>Pk hk (by rw [hw];simp)).elim) s))
    have hopi:l.toArray[i]? = some o:=by simpa using ho
    unfold wpOp;simp only [hopi];split
    ·rename_i hw;rw [if_pos hw] at hop;exact .inl hop
    ·rename_i hw;rw [if_neg hw] at hop;exact hop
 refine wp_region_any hm ?_;have hrep:((Array.replicate l.toArray.size false).toList.take n)=List.replicate n false:=by simp [List.take_replicate];omega
 have hcf:∀ n,cntF (List.replicate n false)=n:=by
  intro n;induction n with
  | zero=>rfl
  | succ n ih=>rw [List.replicate_succ,cntF,ih];simp;omega
 have hs0:∀ (es:List dw) (n:Nat) (s:AS),sL es (List.replicate n false) s=s:=by
  intro es;induction es with
  | nil=>intro n s;cases n<;>rfl
  | cons e es ih=>intro n s;cases n with
   | zero=>rfl
   | succ n=>rw [List.replicate_succ,sL];exact ih n s
 have hrf:∀ i,(Array.replicate l.toArray.size false).getD i false=false:=by intro i;simp [SZ,Array.getElem?_replicate];split<;>simp
 have:=main n (Array.replicate l.toArray.size false) a w.drew β κ (by simp) (fun i o _ h=>by rw [hrf] at h;cases h) (by rw [hrep,hcf]) (fun i _=>hrf i) (by rw [hrep,hs0];exact r.drew);rw [show n+(l.length-n)=l.toArray.size by simp;omega] at this;exact this
end
section
variable {P:Program} {ops:Array Oper} {o:Oper} {s s':AS}
theorem bN (ha:xJ ops o s s') {x:Operand} (hx:x∈o.op.operands):s'.op x=s.op x:=by
 cases x with
 | tmp t =>
  refine ha.t t ?_;unfold Oper.looksAt;exact List.mem_append_left _ (List.mem_filterMap.2 ⟨.tmp t,by simpa using hx,rfl⟩)
 | const v=>rfl
 | global g=>rfl
 | func f=>rfl
theorem cR (ha:xJ ops o s s'):gd ops s' o=gd ops s o:=by
 unfold gd;split
 ·rfl
 ·rename_i j b hg;cases hj:ops[j]? with
  | none=>rfl
  | some x =>
   cases hd:x.dst with
   | none=>simp only [hd]
   | some t =>
    simp only [hd];have:t∈o.looksAt ops:=by unfold Oper.looksAt;refine List.mem_append_right _ ?_;simp [hg,hj,hd]
    rw [ha.t t this,ha.n]
def pX (s s':AS) (v:AV):Prop:=∀ k,AV.men k v=true→lk .gone s'.h k=lk .gone s.h k
theorem E5 {v:AV} (h:pX s s' v):tS s' v=tS s v:=by cases v<;>simp only [tS];case hptr k o=>rw [h k (by simp [AV.men])]
theorem Vq {v:AV} {t:TypeId} (h:pX s s' v):xK P s' t v=xK P s t v:=by unfold xK;rw [E5 h]
theorem JQ {v:AV} {t:TypeId} (h:pX s s' v):LX P s' t v=LX P s t v:=by
 cases v<;>simp only [LX];case rslice k=>rw [h k (by simp [AV.men])]
 case amap k=>rw [h k (by simp [AV.men])]
theorem Dg {x:Option Operand} {d:Int} (h:∀ y,x=some y→s'.op y=s.op y):xp s' d x=xp s d x:=by
 cases x with
 | none=>rfl
 | some y=>simp only [xp,h y rfl]
theorem GN {v:AV} {t:TypeId} {lo hi:Option Operand} (h1:∀ y,lo=some y→s'.op y=s.op y) (h2:∀ y,hi=some y→s'.op y=s.op y):AM P s' t v lo hi=AM P s t v lo hi:=by cases v<;>simp only [AM,Dg h1,Dg h2]
theorem E3 {v:AV} {t:TypeId} {lo hi:Option Operand} {m:Operand} (h1:∀ y,lo=some y→s'.op y=s.op y) (h2:∀ y,hi=some y→s'.op y=s.op y) (h3:s'.op m=s.op m):tQ P s' t v lo hi m=tQ P s t v lo hi m:=by
 cases v<;>try rfl
 cases lo with
 | none =>
  cases hi with
  | none=>rfl
  | some z=>simp only [tQ,h2 z rfl,h3]
 | some y =>
  cases hi with
  | none=>rfl
  | some z=>simp only [tQ,h1 y rfl,h2 z rfl,h3]
theorem GF {v:AV} {t:TypeId} {i:Operand} (h1:s'.op i=s.op i):AH P s' t v i=AH P s t v i:=by unfold AH;rw [h1]
theorem AJ {v:AV} {t:TypeId} {i:Operand} (h1:s'.op i=s.op i) (h:pX s s' v):mS P s' t v i=mS P s t v i:=by
 unfold mS;rw [h1];cases v<;>try rfl
 case rslice k =>
  have:=h k (by simp [AV.men]);simp only [this]
theorem JM {op:BinOp} {t:TypeId} {x y:Operand} (h1:s'.op x=s.op x) (h2:s'.op y=s.op y):Vp P s' op t x y=Vp P s op t x y:=by unfold Vp;rw [h1,h2]
theorem JX {op:Op} (h1:∀ x∈op.operands,s'.op x=s.op x) (h2:∀ x∈op.operands,pX s s' (s.op x)):j5 P s' op=j5 P s op:=by
 cases op;case call c =>
  obtain ⟨callee,args,tys⟩:=c;cases callee;case builtin b =>
   have k1:∀ x∈args.toList,s'.op x=s.op x:=fun x hx=>h1 x (by simpa [Op.operands,Call.operands] using hx);have k2:∀ x∈args.toList,pX s s' (s.op x):=fun x hx=>h2 x (by simpa [Op.operands,Call.operands] using hx);simp only [j5];revert k1 k2;generalize args.toList=l;generalize tys.toList=tl;intro k1 k2;cases b<;>try rfl
   case len =>
    match l,tl,k1,k2 with
    | [x],[t],k1,k2=>simp only [k1 x (by simp),JQ (k2 x (by simp))]
    | [],_,_,_=>rfl
    | _::_::_,_,_,_=>rfl
    | [_],[],_,_=>rfl
    | [_],_::_::_,_,_=>rfl
   case max =>
    match l,k1,k2 with
    | [x,y],k1,k2=>simp only [k1 x (by simp),k1 y (by simp)]
    | [],_,_=>rfl
    | [_],_,_=>rfl
    | _::_::_::_,_,_=>rfl
   case min =>
    match l,k1,k2 with
    | [x,y],k1,k2=>simp only [k1 x (by simp),k1 y (by simp)]
    | [],_,_=>rfl
    | [_],_,_=>rfl
    | _::_::_::_,_,_=>rfl
  all_goals rfl
 case makeFunc f first caps =>
  have k1:∀ x∈caps.toList,s'.op x=s.op x:=fun x hx=>h1 x (by simp [Op.operands] at hx ⊢;exact .inr hx);have k2:∀ x∈first.toList,s'.op x=s.op x:=fun x hx=>h1 x (by simp [Op.operands] at hx ⊢;exact .inl hx)
  cases f with
  | func g =>
   simp only [j5,List.map_congr_left k1];split
   ·rfl
   ·split
    ·rename_i x e1 e2;rw [k2 x (by rw [e1];simp)]
    ·rfl
  | _=>rfl
 case slice t x lo hi m =>
  have k0:s'.op x=s.op x:=h1 x (by simp [Op.operands]);have k1:∀ y,lo=some y→s'.op y=s.op y:=fun y hy=>h1 y (by simp [Op.operands,hy]);have k2:∀ y,hi=some y→s'.op y=s.op y:=fun y hy=>h1 y (by simp [Op.operands,hy]);cases m with
  | none=>simp only [j5,k0,GN k1 k2]
  | some z=>simp only [j5,k0,E3 k1 k2 (h1 z (by simp [Op.operands]))]
 case pick c a b =>
  simp only [j5,h1 c (by simp [Op.operands]),h1 a (by simp [Op.operands]),h1 b (by simp [Op.operands])]
 case binOp b t x y u =>
  simp only [j5,JM (h1 x (by simp [Op.operands])) (h1 y (by simp [Op.operands]))]
 case index t x i =>
  simp only [j5,h1 x (by simp [Op.operands]),GF (h1 i (by simp [Op.operands]))]
 case indexAddr t x i =>
  simp only [j5,h1 x (by simp [Op.operands]),AJ (h1 i (by simp [Op.operands])) (h2 x (by simp [Op.operands]))]
 case load t x =>
  simp only [j5,h1 x (by simp [Op.operands]),Vq (h2 x (by simp [Op.operands]))]
 case move x=>simp only [j5,h1 x (by simp [Op.operands])]
 case assign x=>simp only [j5,h1 x (by simp [Op.operands])]
 case fieldAddr t x f=>simp only [j5,h1 x (by simp [Op.operands])]
 case field t x f=>simp only [j5,h1 x (by simp [Op.operands])]
 case extract x i=>simp only [j5,h1 x (by simp [Op.operands])]
 case unOp u t x=>simp only [j5,h1 x (by simp [Op.operands])]
 case nilCheck x=>simp only [j5,h1 x (by simp [Op.operands])]
 case convert u t x=>simp only [j5,h1 x (by simp [Op.operands])]
 all_goals first | rfl | (simp only [j5,h1 _ (by simp [Op.operands])])
def dw.put (dst:Option Tmp) (v:AV):dw:=⟨match dst with | some t=>[(t,v)] | none=>[],[],[],[]⟩
theorem Oq {dst:Option Tmp} {v:AV} {s1:AS} (h:s.put dst v=some s1):kq ((dw.put dst v).app s) s1:=by
 cases dst with
 | none=>cases h;exact .refl _
 | some t =>
  simp only [AS.put] at h;cases hlt:Nat.blt t s.n with
  | false=>rw [hlt] at h;cases h
  | true=>rw [hlt] at h;cases h;exact .refl _
theorem MC {dst:Option Tmp} {v:AV} {s1:AS} (hn:s'.n=s.n) (h:s.put dst v=some s1):∃ s2,s'.put dst v=some s2:=by
 cases dst with
 | none=>exact ⟨_,rfl⟩
 | some t =>
  simp only [AS.put] at h ⊢;rw [hn];cases hlt:Nat.blt t s.n with
  | false=>rw [hlt] at h;cases h
  | true=>exact ⟨_,rfl⟩
theorem oG {dst:Option Tmp} {v:AV} {s1:AS} (hd:o.dst=dst) (hp:s.put dst v=some s1) (h:∀ s',xJ ops o s s'→∀ s2,s'.put dst v=some s2→nL P ops o s' (· = s2)):Loc P ops o s (.put dst v):=by intro s' ha _ _;obtain ⟨s2,h2⟩:=MC (s':=s') ha.n hp;exact (h s' ha s2 h2).mono fun s'' e=>by subst e;exact Oq h2
theorem NW (hg:gd ops s o=some false) {s1:AS} (h:s.put o.dst (.tup [])=some s1):Loc P ops o s (.put o.dst (.tup [])) :=
 oG rfl h fun _ ha _ h2=>PS (by rw [cR ha];exact hg) h2
theorem JW (ha:xJ ops o s s'):j5 P s' o.op=j5 P s o.op:=by
 cases hm:RE o.op with
 | false=>exact JX (fun x hx=>bN ha hx) (fun x hx k hk=>ha.h hm x hx k hk)
 | true =>
  have h1:=fun x (hx:x∈o.op.operands)=>bN ha hx;generalize o.op=op at hm h1;cases op<;>first | (simp [RE] at hm;done) | (simp only [j5];rw [h1 _ (by simp [Op.operands])])
theorem Lr (hg:gd ops s o=some true) {p:Prop} {v:AV} (hv:j5 P s o.op=some (p,v)) (hp:p) {s1:AS} (h:s.put o.dst v=some s1):Loc P ops o s (.put o.dst v) :=
 oG rfl h fun s' ha _ h2=>Rh (by rw [cR ha];exact hg) (by rw [JW ha];exact hv) hp h2
theorem Bv {v:AV} (h:pX s s' v):AV.vw1 s'.h v=AV.vw1 s.h v:=by
 cases v<;>try rfl
 case rslice k =>
  have:=h k (by simp [AV.men]);simp only [AV.vw1,this]
 case hptr k o =>
  have:=h k (by simp [AV.men]);simp only [AV.vw1,this]
theorem JF {v:AV} (h:pX s s' v):AV.vw s'.h v=AV.vw s.h v:=by
 cases v with
 | agg cs =>
  simp only [AV.vw,AV.agg.injEq];refine List.map_congr_left fun c hc=>Bv fun k hk=>h k ?_;obtain ⟨i,hi,rfl⟩:=List.mem_iff_getElem.1 hc;simp only [AV.men];refine cZ hi ?_;simpa [SW,SX hi] using hk
 | fn f cs =>
  simp only [AV.vw,AV.fn.injEq,true_and];refine List.map_congr_left fun c hc=>Bv fun k hk=>h k ?_;obtain ⟨i,hi,rfl⟩:=List.mem_iff_getElem.1 hc;simp only [AV.men];refine cZ hi ?_;simpa [SW,SX hi] using hk
 | _=>exact Bv h
theorem Ei {f:FuncId} (he:Go.Proofs.Enters P f) {x:Operand} {ar:Array Operand} {tys:Array TypeId} (hg:gd ops s o=some true) (hop:o.op = .call ⟨.value x,ar,tys⟩) {caps:List AV} (hx:s.op x = .fn f caps) (fl:Bool)
 {args:List AV} (hargs:(if fl then (if AV.flL (s.args ar caps) then some (s.args ar caps) else none) else some ((s.args ar caps).map (AV.vw s.h)))=some args) {v:AV} (hc:bH P f args [] fun r _=>r=v) (hok:Ev fl v=true) {s1:AS} (h:s.put o.dst v=some s1):Loc P ops o s (.put o.dst v) :=
 oG rfl h fun s' ha s2 h2=>by
  have hxx:s'.op x=s.op x:=bN ha (by simp [hop,Op.operands,Call.operands]);have har:∀ y∈ar,s'.op y=s.op y:=fun y hy=>bN ha (by simp [hop,Op.operands,Call.operands,hy]);have e1:s'.args ar caps=s.args ar caps:=by unfold AS.args;rw [List.map_congr_left (fun y hy=>har y (by simpa using hy))]
  refine PM he (by rw [cR ha];exact hg) hop (by rw [hxx];exact hx) fl (args:=args) ?_ hc fun r h' hr=>by subst hr;exact ⟨hok,s2,h2,rfl⟩
  rw [e1];cases fl with
  | true=>exact hargs
  | false =>
   rw [← hargs];simp only [Bool.false_eq_true,if_false,S9];refine List.map_congr_left fun u hu=>JF fun k hk=>?_;unfold AS.args at hu;rcases List.mem_append.1 hu with hu | hu
   ·obtain ⟨y,hy,rfl⟩:=List.mem_map.1 hu;exact ha.h (by rw [hop];rfl) y (by simp [hop,Op.operands,Call.operands];exact .inr (by simpa using hy)) k hk
   ·refine ha.h (by rw [hop];rfl) x (by simp [hop,Op.operands,Call.operands]) k ?_;rw [hx];obtain ⟨i,hi,rfl⟩:=List.mem_iff_getElem.1 hu;simp only [AV.men];refine cZ hi ?_;simpa [SW,SX hi] using hk
theorem Ml {t:TypeId} {ps:Array (Nat×Operand)} (hg:gd ops s o=some true) (hop:o.op = .build t ps) {v:AV} (hv:Dh P t (s.parts ps)=some v) {s1:AS} (h:s.put o.dst v=some s1):Loc P ops o s (.put o.dst v) :=
 oG rfl h fun s' ha _ h2=>Oa (by rw [cR ha];exact hg) hop (by
  rw [← hv];congr 1;unfold AS.parts;refine List.map_congr_left fun p hp=>?_;rw [bN ha];rw [hop];simp only [Op.operands,List.mem_toArray,List.mem_map];exact ⟨p,hp,rfl⟩) h2
theorem Eh {t:TypeId} {len:Nat} {ps:Array (Nat×Operand)} (hg:gd ops s o=some true) (hop:o.op = .buildSlice t len ps) {v:AV} (hv:dy P t len (s.parts ps)=some v) {s1:AS} (h:s.put o.dst v=some s1):Loc P ops o s (.put o.dst v) :=
 oG rfl h fun s' ha _ h2=>Fx (by rw [cR ha];exact hg) hop (by
  rw [← hv];congr 1;unfold AS.parts;refine List.map_congr_left fun p hp=>?_;rw [bN ha];rw [hop];simp only [Op.operands,List.mem_toArray,List.mem_map];exact ⟨p,hp,rfl⟩) h2
end
theorem Rel.replace {P:Program} {c:Cx P} {s:AS} {a:Act} {w:World} {β:Nat→Nat} {κ:Nat→Nat×Nat} (r:Rel c s a w β κ) {k:Nat} (hlive:(lk .gone s.h k).live) {ob:AO} (hob:ob.live) {w':World} (hw1:∀ i,i≠β k→w'.heap[i]? = w.heap[i]?) (hkp:dG (fun i=>i≠β k) w w')
 (ho:(∀ {v:AV} {V:Value},G w (c.XX s.h β) β κ v V→G w' (c.XX s.h β) β κ v V)→(∀ {v:AV} {V:Value},D w (c.XX s.h β) v V→D w' (c.XX s.h β) v V)→HO w' (c.XX s.h β) β κ k ob) (hin:∀ j,ob.inn j↔(lk .gone s.h k).inn j:=by intro j;simp [AO.inn, *]):Rel c ⟨s.n,s.t,ins k ob s.h⟩ a w' β κ:=by
 have hsl:ob.live↔(lk .gone s.h k).live:=⟨fun _=>hlive,fun _=>hob⟩;have hlv:=fun j=>Ak (h:=s.h) hsl hin j;have hXX:c.XX (ins k ob s.h) β=c.XX s.h β:=C1 c β hsl hin;have hw:∀ i,¬ c.XX s.h β i→i<w.heap.size→w'.heap[i]? = w.heap[i]? := fun i hi _=>hw1 _ (fun e=>hi (.inr ⟨k,.inl hlive,e.symm⟩));have hG:∀ {v:AV} {V:Value},G w (c.XX s.h β) β κ v V→G w' (c.XX s.h β) β κ v V:=fun hg=>hg.mono hw (fun _ h _=>h) (fun _ _=>.refl);refine ⟨r.df,r.sz,fun i=>?_,⟨fun j=>?_,fun i j hi hj e=>r.hp.inj i j ((hlv i).1 hi) ((hlv j).1 hj) e,r.hp.kp.trans hkp fun b hb e=>r.hp.nk k (.inl hlive) (e ▸ hb),fun j hj=>r.hp.nk j ((hlv j).1 hj),fun j hj=>r.hp.nx j ((hlv j).1 hj),r.hp.fix,fun j hj=>?_⟩⟩
 ·show G _ (c.XX (ins k ob s.h) β) β κ _ _;rw [hXX];exact hG (r.tm i)
 ·show HO _ (c.XX (ins k ob s.h) β) β κ j (lk .gone (ins k ob s.h) j);rw [hXX,bB];by_cases ej:j=k
  ·subst ej;rw [if_pos rfl];exact ho hG fun hd=>hd.mono hw (fun _ h _=>h)
  ·rw [if_neg ej];exact (r.hp.ob j).mono hw (fun _ h _=>h) (fun _ _=>.refl) .refl (fun hl=>hw1 _ fun e=>ej (r.hp.inj j k (.inl hl) (.inl hlive) e)) (fun i hl=>hw1 _ (r.hp.vne hlive hl))
 ·rw [bB] at hj;by_cases ej:j=k
  ·rw [ej];exact r.hp.sm k hlive
  ·rw [if_neg ej] at hj;exact r.hp.sg j hj
def rM (x:Key) (d:AV):List (Key×AV)→AV
 | []=>d
 | (k,u)::es=>if k=x then u else rM x d es
def Dm (x:Key) (v:AV):List (Key×AV)→List (Key×AV)
 | []=>[(x,v)]
 | (k,u)::es=>if k=x then (x,v)::es else (k,u)::Dm x v es
theorem FV {x:Key} {v:AV}:∀ {es:List (Key×AV)},(∀ i,i<es.length→(es.getD i default).1≠x)→Dm x v es=es++[(x,v)]
 | [],_=>rfl
 | (k,u)::es,h=>by have h0:=h 0 (by simp);simp only [List.getD_cons_zero] at h0;rw [Dm,if_neg h0,FV fun i hi=>by have:=h (i+1) (by simpa using hi);simpa using this];rfl
theorem I6 {x:Key} {k:Key} {u:AV} {es:List (Key×AV)} {i:Nat} (hn:((k,u)::es).map (·.1) |>.Nodup) (hi:i<es.length) (h:(es.getD i default).1=x):k≠x:=by rintro rfl;rw [List.map_cons,List.nodup_cons] at hn;refine hn.1 (List.mem_map.2 ⟨es.getD i default,?_,h⟩);rw [SW,SX hi];exact List.getElem_mem hi
theorem KW {x:Key} {v:AV}:∀ {es:List (Key×AV)} {i:Nat},(es.map (·.1)).Nodup→i<es.length→(es.getD i default).1=x→Dm x v es=es.set i (x,v)
 | (k,u)::es,0,_,_,h=>by simp only [List.getD_cons_zero] at h;rw [Dm,if_pos h];rfl
 | (k,u)::es,i+1,hn,hi,h=>by
  have hi':i<es.length:=by simpa using hi
  have h':(es.getD i default).1=x:=by simpa using h
  rw [Dm,if_neg (I6 hn hi' h')];rw [List.map_cons,List.nodup_cons] at hn;rw [KW hn.2 hi' h'];rfl
theorem mk_inj {a b:List UInt8}:(Value.string ⟨a.toArray⟩=Value.string ⟨b.toArray⟩)↔a=b:=by
 constructor
 ·intro h;have h2:(⟨a.toArray⟩:ByteArray)=⟨b.toArray⟩:=by injection h
  have h3:a.toArray=b.toArray:=by injection h2
  simpa using h3
 ·rintro rfl;rfl
theorem Key.val_inj {a b:Key}:a.val=b.val↔a=b:=by
 constructor
 ·intro h;cases a<;>cases b<;>simp only [Key.val,reduceCtorEq] at h
  ·rw [mk_inj.1 h]
  ·injection h with _ h2;rw [h2]
 ·rintro rfl;rfl
def AV.key:AV→Option Key
 | .str b=>some (.s b)
 | .int .i64 n=>some (.i n)
 | _=>none
def Key.av:Key→AV
 | .s b=>.str b
 | .i n=>.int .i64 n
theorem G.key_inv {w:World} {X:Nat→Prop} {β:Nat→Nat} {κ:Nat→Nat×Nat} {x:AV} {V:Value} {k:Key} (h:G w X β κ x V) (e:x.key=some k):V=k.val∧k.ok:=by
 unfold AV.key at e;split at e
 ·cases e;exact ⟨h.str_inv,h.str_len⟩
 ·cases e;exact ⟨h.int_inv,trivial⟩
 ·cases e
theorem Key.is (k:Key):MapKept.IsKey k.desc k.val:=by cases k<;>simp [MapKept.IsKey,Key.desc,Key.val]
theorem Key.is' {k k':Key} (h:k'.kind=k.kind):MapKept.IsKey k.desc k'.val:=by cases k<;>cases k'<;>simp_all [MapKept.IsKey,Key.desc,Key.val,Key.kind]
theorem Key.D {w:World} {X:Nat→Prop} {k:Key} (h:k.ok):D w X k.av k.val:=by
 cases k with
 | s b=>exact .str b h
 | i n=>exact .int .i64 n
def Key.fits (k:Key):Option TypeDesc→Bool
 | some .string=>Nat.beq k.kind 0
 | some (.int .i64)=>Nat.beq k.kind 1
 | _=>false
theorem Key.fits_spec {k:Key} {d:Option TypeDesc} (h:k.fits d=true):d=some k.desc:=by cases k<;>unfold Key.fits at h<;>split at h<;>first | rfl | (cases h;done) | (simp [Key.kind] at h;done)
section
variable {P:Program} {ops:Array Oper} {o:Oper} {s:AS} {c:Cx P} {a:Act} {w:World} {β:Nat→Nat} {κ:Nat→Nat×Nat}
theorem DI {w:World} {ents:Array MapEntry} {es:List (Key×AV)} {π:Nat→Nat} (hsz:ents.size=es.length) (hpi:∀ i,i<es.length→π i<es.length) (hon:∀ j,j<es.length→∃ i,i<es.length∧π i=j) (hkey:∀ i,i<es.length→(ents.getD (π i) default).key=(es.getD i default).1.val) (x:Key) (hkd:∀ p∈es,p.1.kind=x.kind) {kt:TypeId} (hk:P.underlying kt=some x.desc) :
 ((Instr.findKey kt x.val ents.toList).run P w = .ok none w∧∀ i,i<es.length→(es.getD i default).1≠x) ∨
  ∃ (i:Nat) (hj:π i<ents.size),i<es.length∧(Instr.findKey kt x.val ents.toList).run P w = .ok (some (π i,ents[π i].val)) w∧(es.getD i default).1=x:=by
 have hat:∀ j (hj:j<ents.size),ents.getD j default=ents[j]:=fun j hj=>by simp [SZ,hj]
 have hmem:∀ i,i<es.length→es.getD i default∈es:=fun i hi=>by rw [SW,SX hi];exact List.getElem_mem hi
 have hall:∀ e∈ents.toList,MapKept.IsKey x.desc e.key:=by
  intro e he;obtain ⟨j,hj,rfl⟩:=List.getElem_of_mem he;have hj':j<ents.size:=by simpa using hj
  obtain ⟨i,hi,rfl⟩:=hon j (by omega);rw [Array.getElem_toList,← hat _ hj',hkey i hi];exact Key.is' (hkd _ (hmem i hi))
 rcases MapKept.findNow_spec x.is ents.toList 0 hall with ⟨f1,f2⟩ | ⟨j,e,f1,f2,f3⟩
 ·refine .inl ⟨MapKept.run_findKey hk f1,fun i hi hc=>?_⟩;have hi':π i<ents.size:=by have:=hpi i hi;omega
  refine f2 ents[π i] (by simp) ?_;rw [← hat _ hi',hkey i hi,hc]
 ·have hj:j<ents.size:=by have:=(S8.1 f2).1;simpa using this
  have he:ents[j]=e:=by have:=S8.1 f2;obtain ⟨_,h⟩:=this;rw [← h];simp
  obtain ⟨i,hi,rfl⟩:=hon j (by omega);refine .inr ⟨i,hj,hi,?_,?_⟩
  ·have:=MapKept.run_findKey (w:=w) hk f1;rw [he];simpa using this
  ·have:=hkey i hi;rw [hat _ hj,he,f3] at this;exact (Key.val_inj.1 this).symm
theorem Ha {X:Nat→Prop} {k:Nat} {K E:TypeId} {es:List (Key×AV)} (h:HO w X β κ k (.smap K E es)) (x:Key) (hx:x.kind=K) {kt:TypeId} (hk:P.underlying kt=some x.desc) :
 ∃ (ents:Array MapEntry) (clock:Nat),w.heap[β k]? = some (.map ents clock)∧ents.size=es.length ∧
  (∀ i (h:i<ents.size),ents[i].key=(es.getD i default).1.val∧ents[i].born<clock∧D w X (es.getD i default).2 ents[i].val) ∧
  (∀ i j (hi:i<ents.size) (hj:j<ents.size),i<j→ents[i].born<ents[j].born)∧yV es∧(∀ p∈es,p.1.kind=K) ∧
  (((Instr.findKey kt x.val ents.toList).run P w = .ok none w∧∀ i,i<es.length→(es.getD i default).1≠x) ∨
   ∃ (j:Nat) (hj:j<ents.size),(Instr.findKey kt x.val ents.toList).run P w = .ok (some (j,ents[j].val)) w∧(es.getD j default).1=x):=by
 obtain ⟨ents,clock,h1,h2,h3,h4,h5,h6⟩:=h;refine ⟨ents,clock,h1,h2,h3,h4,h5,h6,?_⟩;rcases DI (P:=P) (w:=w) (π:=id) h2 (fun i hi=>hi) (fun j hj=>⟨j,hj,rfl⟩) (fun i hi=>by
  have hi':i<ents.size:=by omega
  have:ents.getD i default=ents[i]:=by simp [SZ,hi']
  show (ents.getD i default).key=_;rw [this];exact (h3 i hi').1) x (fun p hp=>by rw [h6 p hp,hx]) hk with h | ⟨i,hj,_,f1,f2⟩
 ·exact .inl h
 ·exact .inr ⟨i,hj,f1,f2⟩
def FU (P:Program) (s:AS) (t:TypeId) (m x v:AV):Option AS :=
 match m,x.key with
 | .amap k,some x=>match lk .gone s.h k,P.underlying t with
  | .smap kd E es,some (.map K' _)=>bif (x.fits (P.underlying K')&&Nat.beq x.kind kd)&&AV.fl v then some ⟨s.n,s.t,ins k (.smap kd E (Dm x v es)) s.h⟩ else none
  | _,_=>none
 | _,_=>none
theorem dC {r0:Nat} {ents:Array MapEntry} {clock:Nat} (h:w.heap[r0]? = some (.map ents clock)):(getObj r0).run P w = .ok (.map ents clock) w:=MapKept.run_getObj_map h
theorem BD (r:Rel c s a w β κ) {t:TypeId} {m x v:AV} {M X V:Value} (hm:G w (c.XX s.h β) β κ m M) (hx:G w (c.XX s.h β) β κ x X) (hv:G w (c.XX s.h β) β κ v V) {s':AS} (h:FU P s t m x v=some s') :
 ∃ w',(Instr.mapUpdate t M X V).run P w = .ok () w'∧Rel c s' a w' β κ:=by
 unfold FU at h;split at h
 ·rename_i k x ex;split at h
  ·rename_i K0 E0 es K E hk hu
   ·cases hfl2:((x.fits (P.underlying K)&&Nat.beq x.kind K0)&&AV.fl v) with
    | false=>rw [hfl2] at h;cases h
    | true =>
    rw [hfl2] at h;cases h;rw [SY,SY,Nat.beq_eq] at hfl2;obtain ⟨⟨hfit,hkd⟩,hfl⟩:=hfl2;have hK:=Key.fits_spec hfit;have ho:=r.hp.ob k;rw [hk] at ho;have hlive:(lk .gone s.h k).live:=by rw [hk];trivial
    obtain ⟨ents,clock,h1,h2,h3,h4,h5,h7,h6⟩:=Ha (P:=P) ho x hkd hK;rw [hm.amap_inv,(hx.key_inv ex).1];have hik:MapKept.IsKey x.desc x.val:=x.is;have hck:∀ e,(Instr.checkKey e 10000 K x.val).run P w = .ok () w:=fun e=>MapKept.run_checkKey (k:=x.val) hK hik e 9999;have hlt:β k<w.heap.size:=r.hp.lt (.inl hlive);have hkeeps:∀ o',dG (fun i=>i≠β k) w { w with heap:=w.heap.setIfInBounds (β k) o' }:=fun o'=>⟨rfl,rfl,rfl,by simp,fun b hb=>(MapKept.heap_set h1).2 b hb⟩;rcases h6 with ⟨f1,f2⟩ | ⟨j,hj,f1,f2⟩
    ·refine ⟨{ w with heap:=w.heap.setIfInBounds (β k) (.map (ents.push { key:=x.val,val:=V,born:=clock }) (clock+1)) },?_,?_⟩
     ·simp [Instr.mapUpdate,bu hu,dC h1,hck,f1,MapKept.run_setObj_map _ h1,Result.andThen]
     ·refine r.replace hlive (ob:=.smap K0 E0 (Dm x v es)) trivial (fun i hi=>(MapKept.heap_set h1).2 i hi) (hkeeps _) fun hG hD2=>?_;rw [FV f2];refine ⟨_,_,(MapKept.heap_set h1).1,by simp [h2],fun i hi=>?_,fun i j' hi hj' hlt'=>?_,?_⟩
      ·by_cases hi2:i<ents.size
       ·rw [Array.getElem_push_lt hi2,bV (by omega)];exact ⟨(h3 i hi2).1,by have:=(h3 i hi2).2.1;omega,hD2 (h3 i hi2).2.2⟩
       ·have:i=ents.size:=by simp at hi;omega
        subst this;rw [Array.getElem_push_eq,bz (by omega),show ents.size-es.length=0 by omega];exact ⟨rfl,by simp,(hG hv).toD hfl⟩
      ·by_cases hj2:j'<ents.size
       ·rw [Array.getElem_push_lt hj2,Array.getElem_push_lt (by omega:i<ents.size)];exact h4 i j' (by omega) hj2 hlt'
       ·have:j'=ents.size:=by simp at hj';omega
        subst this;rw [Array.getElem_push_eq,Array.getElem_push_lt hlt'];exact (h3 i hlt').2.1
      ·refine ⟨⟨?_,fun u hu1=>?_⟩,fun p hp=>by
        rcases List.mem_append.1 hp with hp | hp
        ·exact h7 p hp
        ·rw [List.mem_singleton.1 hp];exact hkd⟩
       case refine_2 =>
        rw [List.map_append,List.mem_append] at hu1;rcases hu1 with hu1 | hu1
        ·exact h5.2 u hu1
        ·simp only [List.map_cons,List.map_nil,List.mem_singleton] at hu1;subst hu1;exact (hx.key_inv ex).2
       rw [List.map_append,List.nodup_append];refine ⟨h5.1,by simp,fun u hu1 v' hv'=>?_⟩;simp only [List.map_cons,List.map_nil,List.mem_singleton] at hv';subst hv';obtain ⟨p,hp,rfl⟩:=List.mem_map.1 hu1;obtain ⟨i,hi,rfl⟩:=List.getElem_of_mem hp;have:=f2 i hi;simpa [SW,SX hi] using this
    ·have hjk:ents[j].key=x.val:=by rw [(h3 j hj).1,f2]
     refine ⟨{ w with heap:=w.heap.setIfInBounds (β k) (.map (ents.modify j fun e=>{ e with key:=x.val,val:=V }) clock) },?_,?_⟩
     ·simp [Instr.mapUpdate,bu hu,dC h1,hck,f1,Ta hj,hjk,MapKept.run_keyThatStays hik,MapKept.run_setObj_map _ h1,Result.andThen]
     ·refine r.replace hlive (ob:=.smap K0 E0 (Dm x v es)) trivial (fun i hi=>(MapKept.heap_set h1).2 i hi) (hkeeps _) fun hG hD2=>?_;rw [KW h5.1 (by omega) f2];have hgs:∀ i,i<es.length→(es.set j (x,v)).getD i default=if j=i then (x,v) else es.getD i default:=by
       intro i hi;simp only [SW,List.getElem?_set];by_cases e:j=i
       ·subst e;simp [hi]
       ·simp [e]
      refine ⟨_,_,(MapKept.heap_set h1).1,by simp [h2],fun i hi=>?_,fun i j' hi hj' hlt'=>?_,?_⟩
      ·have hi2:i<ents.size:=by simpa using hi
       rw [Array.getElem_modify,hgs i (by omega)];by_cases e:j=i
       ·subst e;rw [if_pos rfl,if_pos rfl];exact ⟨rfl,(h3 j hj).2.1,(hG hv).toD hfl⟩
       ·rw [if_neg e,if_neg e];exact ⟨(h3 i hi2).1,(h3 i hi2).2.1,hD2 (h3 i hi2).2.2⟩
      ·have hb2:∀ i (hi:i<(ents.modify j fun e=>{ e with key:=x.val,val:=V }).size),((ents.modify j fun e=>{ e with key:=x.val,val:=V })[i]).born=(ents[i]'(by simpa using hi)).born:=by intro i hi;rw [Array.getElem_modify];split<;>rfl
       rw [hb2 i hi,hb2 j' hj'];exact h4 i j' _ _ hlt'
      ·have:(es.set j (x,v)).map (·.1)=es.map (·.1):=by
        rw [List.map_set];refine List.ext_getElem (by simp) fun n hn1 hn2=>?_;rw [List.getElem_set];split
        ·rename_i e;subst e;have:j<es.length:=by omega
         simp only [List.getElem_map];rw [← f2];simp [SW,SX this]
        ·rfl
       refine ⟨by unfold yV;rw [this];exact h5,fun p hp=>?_⟩;rcases List.mem_or_eq_of_mem_set hp with hp | rfl
       ·exact h7 p hp
       ·exact hkd
  ·cases h
 ·cases h
theorem PQ {t:TypeId} {m x y:Operand} (hg:gd ops s o=some true) (hop:o.op = .mapUpdate t m x y) (hd:o.dst=none) {s':AS} (h:FU P s t (s.op m) (s.op x) (s.op y)=some s'):nL P ops o s (· = s') :=
 cG hg fun c a w β κ r=>by obtain ⟨w',hr,r'⟩:=BD r (r.op m) (r.op x) (r.op y) h;refine ⟨undef,w',β,κ,.inr ⟨?_,rfl⟩,by rw [hd];exact r'⟩;simp [execOp,hop,hr,Result.andThen]
theorem PO {t:TypeId} {m x y:Operand} (hg:gd ops s o=some true) (hop:o.op = .insert t m x y) (hd:o.dst=none) {s':AS} (h:FU P s t (s.op m) (s.op x) (s.op y)=some s'):nL P ops o s (· = s') :=
 cG hg fun c a w β κ r=>by obtain ⟨w',hr,r'⟩:=BD r (r.op m) (r.op x) (r.op y) h;refine ⟨undef,w',β,κ,.inr ⟨?_,rfl⟩,by rw [hd];exact r'⟩;simp [execOp,hop,hr,Result.andThen]
def vt (x:Key):List (Key×AV)→Bool
 | []=>false
 | (k,_)::es=>if k=x then true else vt x es
end
def rk:List (Nat×Nat)→Nat→Option Nat
 | [],_=>none
 | (k,j)::ps,i=>bif Nat.beq i k then some j else rk ps i
def AV.ren1 (ps:List (Nat×Nat)):AV→AV
 | .hptr k o=>match rk ps k with | some j=>.hptr j o | none=>.any
 | .rslice k=>match rk ps k with | some j=>.rslice j | none=>.any
 | .gslice k=>match rk ps k with | some j=>.gslice j | none=>.any
 | .amap k=>match rk ps k with | some j=>.amap j | none=>.any
 | .bm f k o=>match rk ps k with | some j=>.bm f j o | none=>.any
 | v=>bif AV.fl v then v else .any
def AV.ren (ps:List (Nat×Nat)):AV→AV
 | .agg cs=>.agg (cs.map (AV.ren1 ps))
 | .tup cs=>.tup (cs.map (AV.ren1 ps))
 | .fn f cs=>.fn f (cs.map (AV.ren1 ps))
 | v=>AV.ren1 ps v
def AO.ren (ps:List (Nat×Nat)):AO→AO
 | .cells e cs=>.cells e (cs.map (AV.ren1 ps))
 | .eit _=>.eit []
 | o=>o
section
variable {w:World} {X X':Nat→Prop} {β β':Nat→Nat} {κ κ':Nat→Nat×Nat} {ps:List (Nat×Nat)}
theorem G.ren1 (hps:∀ k j,rk ps k=some j→β' j=β k∧κ' j=κ k) (hX:∀ b,¬ X b→b<w.heap.size→¬ X' b) {v:AV} {V:Value} (h:G w X β κ v V):G w X' β' κ' (AV.ren1 ps v) V:=by
 unfold AV.ren1;split
 ·split
  ·rename_i k o _ j e;rw [h.hptr_inv,← (hps _ _ e).1];exact .hptr j o
  ·exact .d (.any _)
 ·split
  ·rename_i k j e;rcases h.rslice_inv with ⟨h1,h2⟩ | ⟨h1,a,h2⟩
   ·rw [h2,← (hps _ _ e).1,← (hps _ _ e).2];exact .rslice j (by rw [(hps _ _ e).2];exact h1)
   ·rw [h2];exact .rslice0 j a (by rw [(hps _ _ e).2];exact h1)
  ·exact .d (.any _)
 ·split
  ·rename_i k _ j e;have hv:V = .slice (some ⟨β k,0,none⟩) 0 (κ k).1:=by
    cases h with
    | d h=>cases h
    | gslice _=>rfl
   rw [hv,← (hps _ _ e).1,← (hps _ _ e).2];exact .gslice j
  ·exact .d (.any _)
 ·split
  ·rename_i k j e;rw [h.amap_inv,← (hps _ _ e).1];exact .amap j
  ·exact .d (.any _)
 ·split
  ·rename_i f k o _ j e;rw [h.bm_inv,← (hps _ _ e).1];exact .bm f j o
  ·exact .d (.any _)
 ·cases hf:AV.fl v with
  | false=>exact .d (.any _)
  | true=>exact .d ((h.toD hf).mono (fun _ _ _=>rfl) hX)
theorem zW (ps:List (Nat×Nat)) (cs:List AV) (i:Nat):(cs.map (AV.ren1 ps)).getD i .any=AV.ren1 ps (cs.getD i .any):=getD_map (AV.ren1 ps) cs i .any .any rfl
theorem G.ren (hps:∀ k j,rk ps k=some j→β' j=β k∧κ' j=κ k) (hX:∀ b,¬ X b→b<w.heap.size→¬ X' b) {v:AV} {V:Value} (h:G w X β κ v V):G w X' β' κ' (AV.ren ps v) V:=by
 unfold AV.ren;split
 ·obtain ⟨vs,rfl,hl,hg⟩:=h.agg_inv;exact .agg _ _ (by simpa using hl) fun i hi=>by rw [zW];exact (hg i (by simpa using hi)).ren1 hps hX
 ·obtain ⟨vs,rfl,hl,hg⟩:=h.tup_inv;exact .tup _ _ (by simpa using hl) fun i hi=>by rw [zW];exact (hg i (by simpa using hi)).ren1 hps hX
 ·obtain ⟨vs,rfl,hl,hg⟩:=h.fn_inv;exact .fn _ _ _ (by simpa using hl) fun i hi=>by rw [zW];exact (hg i (by simpa using hi)).ren1 hps hX
 ·exact h.ren1 hps hX
theorem HO.ren (hps:∀ k j,rk ps k=some j→β' j=β k∧κ' j=κ k) (hX:∀ b,¬ X b→b<w.heap.size→¬ X' b) {k j:Nat} (hk:β' j=β k∧κ' j=κ k) {o:AO} (hv:∀ i,i<1000000→o.isR=true→β' (gk j i)=β (gk k i)∧κ' (gk j i)=κ (gk k i)) (h:HO w X β κ k o):HO w X' β' κ' j (AO.ren ps o):=by
 cases o with
 | gone=>trivial
 | cells e cs =>
  obtain ⟨cur,h1,h2,h3⟩:=h;exact ⟨cur,by rw [hk.1,h1],by simpa using h2,fun i hi=>by rw [zW];exact (h3 i (by simpa using hi)).ren1 hps hX⟩
 | row e sz xs =>
  refine ⟨by rw [hk.2];exact h.1,fun hx=>?_⟩;obtain ⟨cur,h1,h2,h3,h4,h0,h5,h6⟩:=h.2 hx;exact ⟨cur,by rw [hk.1,h1],by rw [hk.2,h2],by rw [hk.2];exact h3,by rw [hk.2];exact h4,h0,h5,fun i j hi hj=>(h6 i j hi hj).mono (fun _ _ _=>rfl) hX⟩
 | smap K E es =>
  obtain ⟨ents,clock,h1,h2,h3,h4,h5⟩:=h;exact ⟨ents,clock,by rw [hk.1,h1],h2,fun i hi=>⟨(h3 i hi).1,(h3 i hi).2.1,((h3 i hi).2.2).mono (fun _ _ _=>rfl) hX⟩,h4,h5⟩
 | iter es seen =>
  obtain ⟨b,ents,clock,sb,π,h1,h3,h4,h2,h5,h6⟩:=h;have hlt:b<w.heap.size:=(Array.getElem?_eq_some_iff.1 h4).1;exact ⟨b,ents,clock,sb,π,by rw [hk.1,h1],hX _ h3 hlt,h4,h2.mono (fun _ _ _=>rfl) hX,h5,h6⟩
 | eit cs =>
  obtain ⟨b,c,h1,_⟩:=h;exact ⟨b,c,by rw [hk.1,h1],fun i hi=>by cases hi⟩
 | room e sz =>
  obtain ⟨cur,h1,h2,h3⟩:=h;exact ⟨cur,by rw [hk.1,h1],by rw [hk.2,h2],by rw [hk.2];exact h3⟩
 | rmap e sz es =>
  obtain ⟨ents,clock,h1,h2,hl,h3,h4⟩:=h;refine ⟨ents,clock,by rw [hk.1,h1],h2,hl,fun i hi=>⟨(h3 i hi).1,(h3 i hi).2.1,?_⟩,h4⟩;obtain ⟨e1,e2⟩:=hv i (by omega) rfl;have h5:=(h3 i hi).2.2;rw [e1,e2];generalize (es.getD i ([],none)).2=o at h5 ⊢;match o,h5 with
  | none,_=>trivial
  | some [],h5=>exact h5
  | some (x::xs),h5=>exact ⟨h5.1,h5.2.1,h5.2.2.mono (fun _ _ _=>rfl) hX rfl⟩
 | rrow eo e sz es =>
  obtain ⟨h1,hl,h2⟩:=h;refine ⟨by rw [hk.2];exact h1,hl,fun hx=>?_⟩;obtain ⟨cur,g1,g2,g3,g4,g5⟩:=h2 hx;refine ⟨cur,by rw [hk.1,g1],by rw [hk.2];exact g2,by rw [hk.2];exact g3,by rw [hk.2];exact g4,fun i hi=>?_⟩;obtain ⟨e1,e2⟩:=hv i (by omega) rfl;have h5:=g5 i hi;rw [e1,e2];generalize es.getD i none=o at h5 ⊢;match o,h5 with
  | none,_=>trivial
  | some [],h5=>exact h5
  | some (x::xs),h5=>exact ⟨h5.1,h5.2.1,h5.2.2.mono (fun _ _ _=>rfl) hX rfl⟩
end
def uo:List (Nat×Nat)→Bool
 | []=>true
 | (k,j)::ps=>ps.all (fun p=>!Nat.beq p.1 k && !Nat.beq p.2 j)&&uo ps
theorem uJ:∀ {ps:List (Nat×Nat)} {k j:Nat},rk ps k=some j→(k,j)∈ps
 | (k0,j0)::ps,k,j,h=>by
  simp only [rk] at h;cases hb:Nat.beq k k0 with
  | true=>rw [hb] at h;cases h;rw [ef.1 hb];exact List.mem_cons_self ..
  | false=>rw [hb] at h;exact List.mem_cons_of_mem _ (uJ h)
theorem Kl:∀ {ps:List (Nat×Nat)} {k j:Nat},uo ps=true→(k,j)∈ps→rk ps k=some j
 | (k0,j0)::ps,k,j,hi,h=>by
  simp only [uo,SY] at hi;simp only [rk];rcases List.mem_cons.1 h with h | h
  ·cases h;simp
  ·have:=Tc.1 hi.1 _ h;simp only [SY,Bool.not_eq_true'] at this;rw [this.1];exact Kl hi.2 h
def swp (ps:List (Nat×Nat)):List (Nat×Nat):=ps.map fun p=>(p.2,p.1)
theorem IH:∀ {ps:List (Nat×Nat)},uo ps=true→uo (swp ps)=true
 | [],_=>rfl
 | (k,j)::ps,h=>by simp only [uo,SY] at h;simp only [swp,List.map_cons,uo,SY];refine ⟨?_,IH h.2⟩;rw [Tc] at h ⊢;intro p hp;obtain ⟨q,hq,rfl⟩:=List.mem_map.1 hp;have:=h.1 q hq;simp only [SY] at this ⊢;exact ⟨this.2,this.1⟩
theorem cL {ps:List (Nat×Nat)} (hi:uo ps=true) {k j:Nat}:rk (swp ps) j=some k↔rk ps k=some j:=by
 constructor
 ·intro h;have:=uJ h;obtain ⟨q,hq,e⟩:=List.mem_map.1 this;cases e;exact Kl hi hq
 ·intro h;exact Kl (IH hi) (List.mem_map.2 ⟨_,uJ h,rfl⟩)
def hand (ps:List (Nat×Nat)) (h:List (Nat×AO)):List (Nat×AO):=ps.map fun p=>(p.2,AO.ren ps (lk .gone h p.1))
def back (ps:List (Nat×Nat)) (h':List (Nat×AO)):List (Nat×Nat)→List (Nat×AO)→List (Nat×AO)
 | [],h=>h
 | (k,j)::qs,h=>ins k (AO.ren (swp ps) (lk .gone h' j)) (back ps h' qs h)
theorem Da {ps:List (Nat×Nat)} {h:List (Nat×AO)}:∀ {qs:List (Nat×Nat)},uo qs=true→∀ (j:Nat),lk .gone (qs.map fun p=>(p.2,AO.ren ps (lk .gone h p.1))) j=match rk (swp qs) j with | some k=>AO.ren ps (lk .gone h k) | none=>.gone
 | [],_,j=>rfl
 | (k,j0)::qs,hi,j=>by
  simp only [uo,SY] at hi;simp only [List.map_cons,lk,swp,rk];cases hb:Nat.beq j j0 with
  | true=>rfl
  | false=>simp only [cond_false];exact Da hi.2 j
theorem uq {ps:List (Nat×Nat)} {o:AO} {i:Nat}:(AO.ren ps o).inn i↔o.inn i:=by cases o<;>exact Iff.rfl
theorem qw {ps:List (Nat×Nat)} {o:AO}:(AO.ren ps o).live↔o.live:=by cases o<;>simp [AO.ren,AO.live]
def zG (b:UInt8):List AV:=[.int .u8 (b.toNat:Int)]
section
variable {P:Program} {ops:Array Oper} {o:Oper} {s:AS}
theorem Ob {src dst e:TypeId} {x:Operand} (hg:gd ops s o=some true) (hop:o.op = .convert src dst x) (hs:isStr P src=true) (hd:KS P dst=some e) (he:O2 P e=some .u8) {l:List UInt8} (hx:s.op x = .str l) {s':AS} (h:s.put o.dst (.dslice (l.map zG))=some s'):nL P ops o s (· = s') :=
 cG hg fun c a w β κ r=>by
  have hX:=r.op x;rw [hx] at hX;have hl:=hX.str_len;have hrun:=Lib.run_convert_string_bytes (P:=P) w src dst e ⟨l.toArray⟩ (na hs) (eD hd) (Gw he);have hk:dG (fun b=>b<w.heap.size) w (Lib.bytesWorld w e ⟨l.toArray⟩) :=
   ⟨rfl,rfl,rfl,by rw [Lib.bytesWorld_size];omega,fun b hb=>Lib.bytesWorld_at_old w e _ b hb⟩
  have r2:=r.later hk;refine ⟨.slice (some ⟨w.heap.size,0,none⟩) (⟨l.toArray⟩:ByteArray).size (grownCap w (⟨l.toArray⟩:ByteArray).size 0 e),Lib.bytesWorld w e ⟨l.toArray⟩,β,κ,.inl ?_,cC r2 (.d ?_) h⟩
  ·simp only [execOp,hop,hX.str_inv,Sem.run_bind,hrun,Result.andThen];rfl
  ·have hnX:¬ c.XX s.h β w.heap.size:=by
    rintro (hx | ⟨k,hl,hk⟩)
    ·have:=c.hX _ hx;have:=r.hp.kp.size;omega
    ·have:=r.hp.lt hl;omega
   have hsz:(⟨l.toArray⟩:ByteArray).size=(l.map zG).length:=by simp [size_mk]
   rw [hsz];have hlen:(l.map zG).length=l.length:=by simp
   refine D.dslice (l.map zG) w.heap.size 0 _ 1 (fun i _=>.int .u8 ((l.getD i 0).toNat:Int)) (grownCap_ge w _ _ _) (grownCap_le_maxLen w _ _ _ (by rw [hlen];exact hl)) (by omega) hnX (fun i hi=>?_) (fun i j hi hj=>?_) (fun i j hi hj=>?_)
   ·have:(l.map zG).getD i []=zG (l.getD i 0):=by simp [SW,SX (show i<l.length by omega)]
    rw [this];rfl
   ·have:=Lib.bytesWorld_cell w e ⟨l.toArray⟩ i (by rw [size_mk];omega);rw [show 0+(i*1+j)=i by omega];simpa using this
   ·have:(l.map zG).getD i []=zG (l.getD i 0):=by simp [SW,SX (show i<l.length by omega)]
    rw [this,show j=0 by omega];exact .int _ _
theorem Ww {src dst e:TypeId} {x:Operand} (hg:gd ops s o=some true) (hop:o.op = .convert src dst x) (hs:KS P src=some e) (he:O2 P e=some .u8) (hd:isStr P dst=true) {l:List UInt8} (hn:l≠[]) (hx:s.op x = .dslice (l.map zG)) {s':AS} (h:s.put o.dst (.str l)=some s'):nL P ops o s (· = s') :=
 cG hg fun c a w β κ r=>by
  have hX:=r.op x;rw [hx] at hX;obtain ⟨V,hV⟩:∃ V,a.eval x=V:=⟨_,rfl⟩;rw [hV] at hX;have hD:D w (c.XX s.h β) (.dslice (l.map zG)) V:=by cases hX;assumption
  have hlen:(l.map zG).length=l.length:=by simp
  have hl0:0<l.length:=by cases l with | nil=>exact absurd rfl hn | cons _ _=>simp
  have hg:∀ i,i<l.length→(l.map zG).getD i []=zG (l.getD i 0):=fun i hi=>by simp [SW,SX hi]
  generalize hys:l.map zG=ys at hD hlen hg;cases hD with
  | dnil a c hc=>simp at hlen;omega
  | dslice _ b o' cap sz cv h1 h2 h0 h3 h4 h5 h6 =>
   have hsz:sz=1:=by rw [← h4 0 (by omega),hg 0 hl0];rfl
   subst hsz;have hB:Lib.Bytes w b o' ⟨l.toArray⟩:=fun i hi=>by
    have hi:i<l.length:=by simpa [size_mk] using hi
    have a1:=h5 i 0 (by omega) (by omega);have a2:=h6 i 0 (by omega) (by omega);rw [hg i hi] at a2;have a3:cv i 0 = .int .u8 ((l.getD i 0).toNat:Int):=by have a4:D w (c.XX s.h β) (.int .u8 ((l.getD i 0).toNat:Int)) (cv i 0):=a2;generalize cv i 0=u at a4;cases a4;rfl
    rw [a3,show o'+(i*1+0)=o'+i by omega] at a1;rw [a1,SW,SX hi];rfl
   have hrun:=Lib.run_convert_whole (P:=P) w src e dst (eD hs) (Gw he) (na hd) b o' ⟨l.toArray⟩ hB cap;have hsl:ys.length=(⟨l.toArray⟩:ByteArray).size:=by rw [hlen,size_mk]
   refine ⟨.string ⟨l.toArray⟩,w,β,κ,.inl ?_,cC r (.d (.str l (by omega))) h⟩;simp only [execOp,hop,hV,hsl,Sem.run_bind,hrun,Result.andThen];rfl
def Bt (P:Program) (s:AS):Op→Option AV
 | .convert src dst x=>match s.op x,KS P dst with
  | .str l,some e=>match O2 P e with
   | some .u8=>bif isStr P src then some (.dslice (l.map zG)) else none
   | _=>none
  | _,_=>none
 | _=>none
theorem Ij (hg:gd ops s o=some true) {v:AV} (hv:Bt P s o.op=some v) {s':AS} (h:s.put o.dst v=some s'):nL P ops o s (· = s'):=by
 unfold Bt at hv;split at hv
 ·rename_i src dst x hop;split at hv
  ·rename_i l e hx hd;split at hv
   ·rename_i he;cases hb:isStr P src with
    | false=>rw [hb] at hv;cases hv
    | true=>rw [hb] at hv;cases hv;exact Ob hg hop hb hd he hx h
   ·cases hv
  ·cases hv
 ·cases hv
end
section
variable {P:Program} {ops:Array Oper} {o:Oper} {s:AS}
theorem G.dmap_inv {w:World} {X:Nat→Prop} {β:Nat→Nat} {κ:Nat→Nat×Nat} {es:List (Key×AV)} {V:Value} (h:G w X β κ (.dmap es) V):D w X (.dmap es) V:=by cases h with | d h=>exact h
def JU (P:Program) (s:AS) (t:TypeId) (m:AV) (k:Nat):Option AS :=
 match m with
 | .dmap es=>if isMap P t then s.fresh k (.iter es []) (.hptr k 0) else none
 | _=>none
theorem Ol {t:TypeId} {m:Operand} {k:Nat} (hg:gd ops s o=some true) (hop:o.op = .range t m) (hd:o.dst=some k) {s':AS} (h:JU P s t (s.op m) k=some s'):nL P ops o s (· = s') :=
 cG hg fun c a w β κ r=>by
  have hm:=r.op m;unfold JU at h;split at h
  ·rename_i es em;rw [em] at hm;obtain ⟨b,ents,clock,π,eV,hnX,hb,hM0⟩:=hm.dmap_inv.mapAt;split at h
   ·rename_i hM;obtain ⟨K,E,hu⟩:=zf hM;have hblt:b<w.heap.size:=(Array.getElem?_eq_some_iff.1 hb).1;have hXin:∀ b',¬ c.XX s.h β b'→b'<w.heap.size→¬ c.XX (ins k (.iter es []) (lu k s.h)) (upd β k w.heap.size) b':=by
     rintro b' hb' hlt (hx | ⟨j,hl,hj⟩)
     ·exact hb' (.inl hx)
     ·have hk6:k<1000000:=by have h:=h;unfold AS.fresh at h;obtain ⟨hc,_⟩:=pT h;simp only [SY,Nat.blt_eq] at hc;omega
      rcases iO (o:=.iter es []) hk6 (fun _ h=>h) hl with ⟨ej,_⟩ | ⟨ej,hl⟩
      ·subst ej;rw [bh] at hj;omega
      ·rw [uz] at hl;rw [cM β ej] at hj;exact hb' (.inr ⟨j,hl,hj⟩)
    have hold:∀ i,i<w.heap.size→(w.alloc (.mapIter (some b) clock #[] clock)).heap[i]? = w.heap[i]? := fun i hi=>ir w _ hi;refine ⟨.pointer (some ⟨w.heap.size,0,none⟩),w.alloc (.mapIter (some b) clock #[] clock),_,_,.inl ?_,by
     rw [hd];refine um r h (Nat.le_refl _) hold (fJ _ _ _ r.Klt) (cap:=(0,0)) ⟨b,ents,clock,#[],π,by rw [bh];exact nS w _,hXin _ hnX hblt,by rw [hold _ hblt,hb],hM0.mono (fun i _ hi=>hold i hi) hXin,rfl,fun i hi=>by cases hi⟩ ?_;have:=G.hptr (w:=w.alloc (.mapIter (some b) clock #[] clock)) (X:=c.XX (ins k (.iter es []) (lu k s.h)) (upd β k w.heap.size)) (β:=upd β k w.heap.size) (κ:=upd κ k (0,0)) k 0
     rwa [bh] at this⟩
    simp only [execOp,hop,eV];simp [Instr.range,bu hu,dC hb,newObj,Result.andThen,go_sem];rfl
   ·cases h
  ·cases h
theorem Pr {k l:List UInt8} {z v:AV} {es:List (Key×AV)} (h:(k==l)=true) (e:AV.tup [rM (.s l) z es,.bool (vt (.s l) es)]=v):AV.tup [rM (.s k) z es,.bool (vt (.s k) es)]=v:=by rw [eq_of_beq h];exact e
theorem Ny {es:List (Key×AV)} {n:Nat} (h:es.all (fun p=>Nat.beq p.1.kind n)=true):∀ p∈es,p.1.kind=n:=fun p hp=>ef.1 (Tc.1 h p hp)
theorem Q9 {es:List (Key×AV)} (h:es.all (fun p=>p.2.fl)=true):RG es:=fun p hp=>Tc.1 h p hp
def GL (P:Program) (s:AS) (t:TypeId) (m:AV) (k:Nat):Option AS :=
 match m with
 | .amap j=>match lk .gone s.h j with
  | .smap _ _ []=>bif isMap P t && !Nat.beq j k then s.fresh k (.eit [.amap j]) (.hptr k 0) else none
  | _=>none
 | _=>none
theorem Mx {t:TypeId} {m:Operand} {k:Nat} (hg:gd ops s o=some true) (hop:o.op = .range t m) (hd:o.dst=some k) {s':AS} (h:GL P s t (s.op m) k=some s'):nL P ops o s (· = s') :=
 cG hg fun c a w β κ r=>by
  have hm:=r.op m;unfold GL at h;split at h
  ·rename_i j em;rw [em] at hm;split at h
   ·rename_i kd E0 hj;obtain ⟨hc,h⟩:=pT h;rw [SY] at hc;obtain ⟨K,E,hu⟩:=zf hc.1;have hne:j≠k:=fun e=>by have:=hc.2;rw [e] at this;simp at this
    have ho:=r.hp.ob j;rw [hj] at ho;obtain ⟨ents,clock,h1,h2,_⟩:=ho;have hold:∀ i,i<w.heap.size→(w.alloc (.mapIter (some (β j)) clock #[] clock)).heap[i]? = w.heap[i]? := fun i hi=>ir w _ hi;have hG:∀ {X:Nat→Prop},G (w.alloc (.mapIter (some (β j)) clock #[] clock)) X (upd β k w.heap.size) (upd κ k (0,0)) (.amap j) (.map (some (β j))):=fun {X}=>by
     have:=G.amap (w:=w.alloc (.mapIter (some (β j)) clock #[] clock)) (X:=X) (β:=upd β k w.heap.size) (κ:=upd κ k (0,0)) j
     rwa [cM β hne] at this
    refine ⟨.pointer (some ⟨w.heap.size,0,none⟩),w.alloc (.mapIter (some (β j)) clock #[] clock),_,_,.inl ?_,by
     rw [hd];refine um r h (Nat.le_refl _) hold (fJ _ _ _ r.Klt) (cap:=(0,0)) ⟨β j,clock,by rw [bh];exact nS w _,fun i hi=>?_⟩ ?_
     ·have:i=0:=by simp at hi;omega
      subst this;exact hG
     have:=G.hptr (w:=w.alloc (.mapIter (some (β j)) clock #[] clock)) (X:=c.XX (ins k (.eit [.amap j]) (lu k s.h)) (upd β k w.heap.size)) (β:=upd β k w.heap.size) (κ:=upd κ k (0,0)) k 0
     rwa [bh] at this⟩
    simp only [execOp,hop,hm.amap_inv];simp [Instr.range,bu hu,dC h1,newObj,Result.andThen,go_sem];rfl
   ·cases h
  ·cases h
def JT (s:AS) (it:AV):Option AV :=
 match it with
 | .hptr k 0=>match lk .gone s.h k with
  | .eit [.amap j]=>match lk .gone s.h j with
   | .smap _ _ []=>some (.tup [.bool false])
   | _=>none
  | _=>none
 | _=>none
theorem Oj {it:Operand} (hg:gd ops s o=some true) (hop:o.op = .next it false) {v:AV} (hv:JT s (s.op it)=some v) {s':AS} (h:s.put o.dst v=some s'):nL P ops o s (· = s') :=
 cG hg fun c a w β κ r=>by
  unfold JT at hv;split at hv
  ·rename_i k hi;split at hv
   ·rename_i j hk;split at hv
    ·rename_i kd E0 hj;cases hv;have hit:=r.op it;rw [hi] at hit;have ho:=r.hp.ob k;rw [hk] at ho;obtain ⟨b,clock,h1,h3⟩:=ho;have hb:=(h3 0 (by simp)).amap_inv;have ho2:=r.hp.ob j;rw [hj] at ho2;obtain ⟨ents,clock2,h4,h5,_⟩:=ho2;have he:ents = #[]:=Array.eq_empty_of_size_eq_zero (by simpa using h5);subst he;have hbb:b=β j:=by simpa using hb
     subst hbb;refine ⟨.tuple #[.bool false],w,β,κ,.inl ?_,cC r (.d (.tup _ _ rfl fun i hi=>?_)) h⟩
     ·rcases run_next_at (P:=P) w o.type (β k) (β j) clock clock #[] #[] clock2 h1 h4 (by simp) (Nat.le_refl _) with ⟨_,hr⟩ | ⟨e,he,_⟩
      ·simp [execOp,hop,hit.hptr_inv,hr,Result.andThen]
      ·simp [leftOf] at he
     ·have:i=0:=by simp at hi;omega
      subst this;exact .bool false
    ·cases hv
   ·cases hv
  ·cases hv
end
def dV {α:Type} (f:α→α):Nat→List α→List α
 | _,[]=>[]
 | 0,x::xs=>f x::xs
 | i+1,x::xs=>x::dV f i xs
theorem bG {α:Type} (f:α→α):∀ (i:Nat) (l:List α),(dV f i l).length=l.length
 | _,[]=>by simp [dV]
 | 0,x::xs=>by simp [dV]
 | i+1,x::xs=>by simp [dV,bG f i xs]
theorem Eo {α:Type} (f:α→α) (d:α):∀ (i:Nat) (l:List α) (j:Nat),(dV f i l).getD j d=l.getD j d∨(dV f i l).getD j d=f (l.getD j d)
 | _,[],j=>by simp [dV]
 | 0,x::xs,0=>by simp [dV]
 | 0,x::xs,j+1=>by simp [dV]
 | i+1,x::xs,0=>by simp [dV]
 | i+1,x::xs,j+1=>by simpa [dV] using Eo f d i xs j
def AV.wk0:AV→AV
 | .eslice=>.dslice []
 | .cslice xs=>.dslice xs
 | v=>v
def AV.at (f:AV→AV) (i j:Nat):AV→AV
 | .agg cs=>.agg (dV f i cs)
 | .tup cs=>.tup (dV f i cs)
 | .fn g cs=>.fn g (dV f i cs)
 | .dptr cs=>.dptr (dV f i cs)
 | .dslice xs=>.dslice (dV (dV f j) i xs)
 | v=>v
def AV.wk:List (Nat×Nat)→AV→AV
 | []=>AV.wk0
 | (i,j)::p=>AV.at (AV.wk p) i j
theorem fA {α:Type} {f:α→α} {d:α} {R:α→Prop} (hf:∀ x,R x→R (f x)) (i:Nat) (l:List α) (j:Nat) (h:R (l.getD j d)):R ((dV f i l).getD j d):=by
 rcases Eo f d i l j with e | e
 ·rw [e];exact h
 ·rw [e];exact hf _ h
theorem D.wk0 {w:World} {X:Nat→Prop} {v:AV} {V:Value} (h:D w X v V):D w X (AV.wk0 v) V:=by
 unfold AV.wk0;split
 ·cases h with | eslice a=>exact .dnil a 0 (Nat.zero_le _)
 ·cases h with | cslice _ _ h1 _=>exact h1
 ·exact h
theorem D.at {w:World} {X:Nat→Prop} {f:AV→AV} (hf:∀ v V,D w X v V→D w X (f v) V) (i j:Nat) {v:AV} {V:Value} (h:D w X v V):D w X (AV.at f i j v) V:=by
 unfold AV.at;split
 ·cases h with | agg cs vs hl hg=>exact .agg _ vs (by rw [bG];exact hl) fun j hj=>fA (R:=fun x=>D w X x (vs.getD j undef)) (fun x hx=>hf _ _ hx) i _ j (hg j (by rw [bG] at hj;exact hj))
 ·cases h with | tup cs vs hl hg=>exact .tup _ vs (by rw [bG];exact hl) fun j hj=>fA (R:=fun x=>D w X x (vs.getD j undef)) (fun x hx=>hf _ _ hx) i _ j (hg j (by rw [bG] at hj;exact hj))
 ·cases h with | fn g cs vs hl hg=>exact .fn _ _ vs (by rw [bG];exact hl) fun j hj=>fA (R:=fun x=>D w X x (vs.getD j undef)) (fun x hx=>hf _ _ hx) i _ j (hg j (by rw [bG] at hj;exact hj))
 ·cases h with | dptr cs b o cv h0 h1 h2 h3=>exact .dptr _ b o cv (by rw [bG];exact h0) h1 (fun j hj=>h2 j (by rw [bG] at hj;exact hj)) fun j hj=>fA (R:=fun x=>D w X x (cv j)) (fun x hx=>hf _ _ hx) i _ j (h3 j (by rw [bG] at hj;exact hj))
 ·rename_i xs;cases h with
  | dnil a cap hc=>cases i<;>exact .dnil a cap hc
  | dslice _ b o cap sz cv h1 h2 h0 h3 h4 h5 h6 =>
   have key:∀ a,((dV (dV f j) i xs).getD a []).length=(xs.getD a []).length:=fun a =>
    fA (R:=fun x=>x.length=(xs.getD a []).length) (fun x hx=>by rw [bG];exact hx) i xs a rfl
   have key2:∀ a k,a<xs.length→k<sz→D w X (((dV (dV f j) i xs).getD a []).getD k .any) (cv a k):=fun a k ha hk =>
    fA (R:=fun x=>D w X (x.getD k .any) (cv a k)) (fun x hx=>fA (R:=fun y=>D w X y (cv a k)) (fun y hy=>hf _ _ hy) j x k hx) i xs a (h6 a k ha hk)
   have hl:=bG (dV f j) i xs;rw [← hl];exact .dslice _ b o cap sz cv (by rw [bG];exact h1) h2 h0 h3 (fun a ha=>by rw [key];exact h4 a (by rw [bG] at ha;exact ha))
    (fun a k ha hk=>h5 a k (by rw [bG] at ha;exact ha) hk) (fun a k ha hk=>key2 a k (by rw [bG] at ha;exact ha) hk)
 ·exact h
theorem D.wk {w:World} {X:Nat→Prop}:∀ (p:List (Nat×Nat)) {v:AV} {V:Value},D w X v V→D w X (AV.wk p v) V
 | [],_,_,h=>h.wk0
 | (i,j)::p,_,_,h=>D.at (fun _ _ h=>D.wk p h) i j h
theorem G.wk {w:World} {X:Nat→Prop} {β:Nat→Nat} {κ:Nat→Nat×Nat}:∀ (p:List (Nat×Nat)) {v:AV} {V:Value},G w X β κ v V→G w X β κ (AV.wk p v) V
 | [],v,V,h=>by
  cases h with
  | d h=>exact .d h.wk0
  | hptr k o=>exact .hptr k o
  | rslice k h=>exact .rslice k h
  | rslice0 k a h=>exact .rslice0 k a h
  | gslice k=>exact .gslice k
  | rref k j h h2=>exact .rref k j h h2
  | rref0 k oj a h=>exact .rref0 k oj a h
  | amap k=>exact .amap k
  | bm f k o=>exact .bm f k o
  | fn f cs vs h1 h2=>exact .fn f cs vs h1 h2
  | agg cs vs h1 h2=>exact .agg cs vs h1 h2
  | tup cs vs h1 h2=>exact .tup cs vs h1 h2
 | (i,j)::p,v,V,h=>by
  cases h with
  | d h=>exact .d (h.wk _)
  | hptr k o=>exact .hptr k o
  | rslice k h=>exact .rslice k h
  | rslice0 k a h=>exact .rslice0 k a h
  | gslice k=>exact .gslice k
  | rref k j h h2=>exact .rref k j h h2
  | rref0 k oj a h=>exact .rref0 k oj a h
  | amap k=>exact .amap k
  | bm f k o=>exact .bm f k o
  | fn f cs vs h1 h2=>exact .fn _ _ vs (by rw [bG];exact h1) fun j hj=>fA (R:=fun x=>G w X β κ x (vs.getD j undef)) (fun x hx=>G.wk p hx) i cs j (h2 j (by rw [bG] at hj;exact hj))
  | agg cs vs h1 h2=>exact .agg _ vs (by rw [bG];exact h1) fun j hj=>fA (R:=fun x=>G w X β κ x (vs.getD j undef)) (fun x hx=>G.wk p hx) i cs j (h2 j (by rw [bG] at hj;exact hj))
  | tup cs vs h1 h2=>exact .tup _ vs (by rw [bG];exact h1) fun j hj=>fA (R:=fun x=>G w X β κ x (vs.getD j undef)) (fun x hx=>G.wk p hx) i cs j (h2 j (by rw [bG] at hj;exact hj))
def AS.wkT (s:AS) (t:Nat) (p:List (Nat×Nat)):AS:=⟨s.n,ins t (AV.wk p (lk .any s.t t)) s.t,s.h⟩
theorem Rel.wkT {P:Program} {c:Cx P} {s:AS} {a:Act} {w:World} {β:Nat→Nat} {κ:Nat→Nat×Nat} (r:Rel c s a w β κ) (t:Nat) (p:List (Nat×Nat)):Rel c (s.wkT t p) a w β κ:=by
 refine ⟨r.df,r.sz,fun i=>?_,r.hp⟩;show G w _ β κ (lk .any (ins t _ s.t) i) _;rw [bB];by_cases h:i=t
 ·subst h;rw [if_pos rfl];exact (r.tm i).wk p
 ·rw [if_neg h];exact r.tm i
def Bw:List (Nat×List (Nat×Nat))→List AV→List AV
 | [],xs=>xs
 | (i,p)::ps,xs=>Bw ps (dV (AV.wk p) i xs)
theorem zx:∀ (ps:List (Nat×List (Nat×Nat))) (xs:List AV),(Bw ps xs).length=xs.length
 | [],xs=>rfl
 | (i,p)::ps,xs=>by rw [Bw,zx ps,bG]
theorem JI {w:World} {X:Nat→Prop} {β:Nat→Nat} {κ:Nat→Nat×Nat} {V:Value} {j:Nat}:∀ (ps:List (Nat×List (Nat×Nat))) (xs:List AV),G w X β κ (xs.getD j .any) V→G w X β κ ((Bw ps xs).getD j .any) V
 | [],xs,h=>h
 | (i,p)::ps,xs,h=>JI ps _ (fA (R:=fun x=>G w X β κ x V) (fun x hx=>hx.wk p) i xs j h)
theorem bH.wk {P:Program} {f:FuncId} {args:List AV} {h:List (Nat×AO)} {Q:AV→List (Nat×AO)→Prop} (ps:List (Nat×List (Nat×Nat))) (hc:bH P f (Bw ps args) h Q):bH P f args h Q :=
 fun c vs hl hr hg=>hc c vs (by rw [zx];exact hl) hr fun i hi=>JI ps args (hg i (by rw [zx] at hi;exact hi))
def bq (n:Int):Int:=IntKind.i64.wrap n
def RA (P:Program) (xs ys:List AV):List Field→Option Bool
 | []=>some true
 | f::fs=>bif f.name == "_" then none else bif Nat.blt f.offset xs.length&&Nat.blt f.offset ys.length then (match P.underlying f.type,xs.getD f.offset .any,ys.getD f.offset .any with
  | some (.int _),.int k a,.int k' b=>bif decide (k=k') then (match RA P xs ys fs with | some r=>some ((a==b)&&r) | none=>none) else none
  | some .bool,.bool a,.bool b=>(match RA P xs ys fs with | some r=>some ((a==b)&&r) | none=>none)
  | some .string,.str a,.str b=>(match RA P xs ys fs with | some r=>some ((a==b)&&r) | none=>none)
  | _,_,_=>none) else none
def RV (P:Program) (t:TypeId):Option (List Field):=match P.underlying t with | some (.struct fs)=>bif !P.stoodInHeld t && !P.eqGuardType P.depth t then some fs.toList else none | _=>none
def KY (P:Program) (s:AS):Op→Option (Prop×AV)
 | .binOp op t x y _=>match s.op x,s.op y with
  | .agg xs,.agg ys=>match RV P t with
   | some fs=>match RA P xs ys fs with
    | some r=>match op with
     | .eql=>some (True,.bool r)
     | .neq=>some (True,.bool !r)
     | _=>none
    | none=>none
   | none=>none
  | .int .i64 a,.int .i64 b=>match op with
   | .add=>some (True,.int .i64 (bq (a+b)))
   | .sub=>some (True,.int .i64 (bq (a-b)))
   | .mul=>some (True,.int .i64 (bq (a*b)))
   | .quo=>some (b≠0,.int .i64 (bq (a.tdiv b)))
   | _=>none
  | _,_=>none
 | .unOp .neg _ x=>match s.op x with
  | .int .i64 a=>some (True,.int .i64 (bq (0-a)))
  | _=>none
 | .index t x i=>match s.op x,s.op i with
  | .agg cs,.int _ n=>match MQ P t with
   | some (len,e)=>match LW P e,tN P e with
    | some false,some 1=>some (0≤n∧n<len∧n<cs.length,cs.getD n.toNat .any)
    | _,_=>none
   | none=>none
  | _,_=>none
 | _=>none
section
variable {P:Program} {ops:Array Oper} {o:Oper} {s:AS}
theorem pW {w:World} {t:TypeId} {vs:Array Value} {off:Nat} (hag:LW P t=some false) (h:off<vs.size):(part t vs off).run P w = .ok (vs.getD off undef) w:=by simp [part,nu hag,Ta h,SZ,go_sem]
theorem xf {w:World} {X:Nat→Prop} {β:Nat→Nat} {κ:Nat→Nat×Nat} {xs ys:List AV} {Xs Ys:Array Value} (hx:xs.length=Xs.size) (hy:ys.length=Ys.size) (gx:∀ i,i<xs.length→G w X β κ (xs.getD i .any) (Xs.getD i undef)) (gy:∀ i,i<ys.length→G w X β κ (ys.getD i .any) (Ys.getD i undef)) (d:Nat) :
 ∀ (fs:List Field) (r:Bool),RA P xs ys fs=some r→(Op.eqFields (d+1) Xs Ys fs).run P w = .ok r w
 | [],r,h=>by cases h;rfl
 | f::fs,r,h=>by
  unfold RA at h;cases hn:f.name == "_" with
  | true=>rw [hn] at h;cases h
  | false =>
   rw [hn] at h;simp only [cond_false] at h;obtain ⟨hb,h⟩:=(show (Nat.blt f.offset xs.length&&Nat.blt f.offset ys.length)=true∧_ from by
    cases hb:(Nat.blt f.offset xs.length&&Nat.blt f.offset ys.length) with
    | true=>rw [hb] at h;exact ⟨rfl,h⟩
    | false=>rw [hb] at h;cases h)
   simp only [SY,Nat.blt_eq] at hb;have g1:=gx f.offset hb.1;have g2:=gy f.offset hb.2;have hne:f.name ≠ "_" := by simpa using hn
   simp only [Op.eqFields,ne_eq,hne,not_false_eq_true,if_true,Sem.run_bind];split at h
   ·rename_i k' k a k2 b hu e1 e2;rw [e1] at g1;rw [e2] at g2;have hag:LW P f.type=some false:=by simp [LW,hu]
    cases hk:decide (k=k2) with
    | false=>rw [hk] at h;cases h
    | true =>
     rw [hk] at h;have hk:=S3 hk;subst hk;simp only [cond_true] at h;split at h
     ·rename_i r' hr;cases h;have q1:=pW (P:=P) (w:=w) (vs:=Xs) hag (by omega:f.offset<Xs.size);have q2:=pW (P:=P) (w:=w) (vs:=Ys) hag (by omega:f.offset<Ys.size);simp only [q1,q2,g1.int_inv,g2.int_inv,Result.andThen,run_equalIn_int w d f.type k k' a b hu];cases hab:a==b with
      | true=>simp [xf hx hy gx gy d fs r' hr]
      | false=>simp
     ·cases h
   ·rename_i a b hu e1 e2;rw [e1] at g1;rw [e2] at g2;have hag:LW P f.type=some false:=by simp [LW,hu]
    split at h
    ·rename_i r' hr;cases h;have q1:=pW (P:=P) (w:=w) (vs:=Xs) hag (by omega:f.offset<Xs.size);have q2:=pW (P:=P) (w:=w) (vs:=Ys) hag (by omega:f.offset<Ys.size);simp only [q1,q2,g1.bool_inv,g2.bool_inv,Result.andThen,run_equalIn_bool' w d f.type a b hu];cases hab:a==b with
     | true=>simp [xf hx hy gx gy d fs r' hr]
     | false=>simp
    ·cases h
   ·rename_i a b hu e1 e2;rw [e1] at g1;rw [e2] at g2;have hag:LW P f.type=some false:=by simp [LW,hu]
    split at h
    ·rename_i r' hr;cases h;have q1:=pW (P:=P) (w:=w) (vs:=Xs) hag (by omega:f.offset<Xs.size);have q2:=pW (P:=P) (w:=w) (vs:=Ys) hag (by omega:f.offset<Ys.size);simp only [q1,q2,g1.str_inv,g2.str_inv,Result.andThen,run_equalIn_string w d f.type _ _ hu,toList_mk];cases hab:a==b with
     | true=>simp [xf hx hy gx gy d fs r' hr]
     | false=>simp
    ·cases h
   ·cases h
theorem L1 {c:Cx P} {a:Act} {w:World} {β:Nat→Nat} {κ:Nat→Nat×Nat} (r:Rel c s a w β κ) {op:Op} {p:Prop} {v:AV} (h:KY P s op=some (p,v)) (hp:p) (dst:Option Tmp) (ty:TypeId) (pos:String) (af:Array Edge) (g:Option (Nat×Bool)) :
 KU P c s a w β κ ⟨dst,op,ty,pos,af,g⟩ v:=by
 unfold KY at h;split at h
 ·rename_i op t x y u;have hx:=r.op x;have hy:=r.op y;split at h
  ·rename_i xs ys ex ey;rw [ex] at hx;rw [ey] at hy;obtain ⟨Xs,eX,lx,gx⟩:=hx.agg_inv;obtain ⟨Ys,eY,ly,gy⟩:=hy.agg_inv;split at h
   ·rename_i fs hfs;unfold RV at hfs;split at hfs
    ·rename_i fsA hu;cases hst:(!P.stoodInHeld t && !P.eqGuardType P.depth t) with
     | false=>rw [hst] at hfs;cases hfs
     | true =>
      rw [hst] at hfs;cases hfs;simp only [SY,Bool.not_eq_true'] at hst;have hfo:P.fieldsOf t=fsA:=by simp [Program.fieldsOf,hu]
      split at h
      ·rename_i rr hr;have hrun:=xf (w:=w) (X:=c.XX s.h β) (β:=β) (κ:=κ) lx ly gx gy 9998 fsA.toList rr hr;have hst2:=run_equalIn_struct (P:=P) w 9999 t Xs Ys (by rw [hfo];exact hu) hst.1;rw [hfo] at hst2;split at h
       ·cases h;refine ⟨_,?_,.d (.bool _)⟩;simp only [execOp,eX,eY,Sem.run_bind,run_eqGuard_agg w .eql t x y Xs Ys hst.2,Result.andThen,run_eql_struct,hst2,hrun];rfl
       ·cases h;refine ⟨_,?_,.d (.bool _)⟩;simp only [execOp,eX,eY,Sem.run_bind,run_eqGuard_agg w .neq t x y Xs Ys hst.2,Result.andThen,run_neq_struct,hst2,hrun];rfl
       ·cases h
      ·cases h
    ·cases hfs
   ·cases h
  ·rename_i m n ex ey;rw [ex] at hx;rw [ey] at hy;have ex:=hx.int_inv;have ey:=hy.int_inv;unfold KU;generalize a.eval=ρ at ex ey ⊢;split at h
   ·cases h;refine ⟨_,?_,.d (.int _ _)⟩;simp [execOp,ex,ey,eqGuard,binOp,Op.intArith,go_sem]<;>rfl
   ·cases h;refine ⟨_,?_,.d (.int _ _)⟩;simp [execOp,ex,ey,eqGuard,binOp,Op.intArith,go_sem]<;>rfl
   ·cases h;refine ⟨_,?_,.d (.int _ _)⟩;simp [execOp,ex,ey,eqGuard,binOp,Op.intArith,go_sem]<;>rfl
   ·cases h;refine ⟨_,?_,.d (.int _ _)⟩;simp [execOp,ex,ey,eqGuard,binOp,Op.intDiv,go_sem];simp [hp,bq]
   ·cases h
  ·cases h
 ·rename_i t x;have hx:=r.op x;split at h
  ·rename_i n e;rw [e] at hx;cases h;refine eB rfl ⟨_,?_,.d (.int _ _)⟩;rw [hx.int_inv];simp only [Op.unary,Op.intArith];rfl
  ·cases h
 ·rename_i t x i;have hx:=r.op x;have hi:=r.op i;split at h
  ·rename_i cs k n ex ei;rw [ex] at hx;rw [ei] at hi;split at h
   ·rename_i len e hA;split at h
    ·rename_i hag hsz;cases h;obtain ⟨vs,eV,hl,hgs⟩:=hx.agg_inv;have hn:n.toNat<cs.length:=by omega
     have hap:apart P e cs (n.toNat*1)=some (cs.getD n.toNat .any):=by unfold apart;rw [hag,hsz];simp [hn]
     obtain ⟨V',hr,hg'⟩:=vx hl hgs hap (P:=P);refine eB rfl ⟨V',?_,hg'⟩;rw [hi.int_inv,eV];have h0:(0:Int)≤n∧n<(len:Int):=⟨hp.1,hp.2.1⟩;simp only [Instr.index,asIntOf,pure_bind,Sem.run_bind,bu (xo hA),Result.andThen,if_pos h0,run_sizeOf hsz];exact hr
    ·cases h
   ·cases h
  ·cases h
 ·cases h
theorem Sc (hg:gd ops s o=some true) {p:Prop} {v:AV} (hv:KY P s o.op=some (p,v)) (hp:p) {s':AS} (h:s.put o.dst v=some s'):nL P ops o s (· = s') :=
 cG hg fun c a w β κ r=>by obtain ⟨dst,op,ty,pos,af,g⟩:=o;obtain ⟨V,hr,hG⟩:=L1 (P:=P) r hv hp dst ty pos af g;exact ⟨V,w,β,κ,.inl hr,cC r hG h⟩
theorem L0 {s':AS} {op:Op} (h1:∀ x∈op.operands,s'.op x=s.op x):KY P s' op=KY P s op:=by
 cases op;case binOp op t x y u=>simp only [KY,h1 x (by simp [Op.operands]),h1 y (by simp [Op.operands])]
 case unOp u t x=>cases u<;>first | rfl | simp only [KY,h1 x (by simp [Op.operands])]
 case index t x i=>simp only [KY,h1 x (by simp [Op.operands]),h1 i (by simp [Op.operands])]
 all_goals rfl
theorem NX (hg:gd ops s o=some true) {p:Prop} {v:AV} (hv:KY P s o.op=some (p,v)) (hp:p) {s1:AS} (h:s.put o.dst v=some s1):Loc P ops o s (.put o.dst v) :=
 oG rfl h fun s' ha _ h2=>Sc (by rw [cR ha];exact hg) (by rw [L0 (fun x hx=>bN ha hx)];exact hv) hp h2
theorem kq.wkT {t:Nat} {v:AV} (p:List (Nat×Nat)) {s1 s2:AS} (e:kq ((dw.put (some t) v).app s1) s2):kq ((dw.put (some t) (AV.wk p v)).app s1) (s2.wkT t p):=by refine ⟨e.n,fun i=>?_,e.h⟩;have e1:∀ i,lk .any s2.t i=lk .any (ins t v s1.t) i:=e.t;show lk .any (ins t (AV.wk p (lk .any s2.t t)) s2.t) i=lk .any (ins t (AV.wk p v) s1.t) i;rw [bB,bB,e1,e1,bB,bB,if_pos rfl];split<;>rfl
end
section
variable {P:Program} {ops:Array Oper} {o:Oper} {s:AS}
def Cl (P:Program) (s:AS) (t:TypeId) (x:AV) (n j:Nat):Option (Prop×AV) :=
 match x with
 | .hptr k o=>match lk .gone s.h k with
  | .row _ sz xs=>match LW P t,tN P t with
   | some true,some m=>some (o=n*sz+j∧n<xs.length∧j+m≤sz,.agg (((xs.getD n []).drop j).take m))
   | some false,some _=>some (o=n*sz+j∧n<xs.length∧j+1≤sz,(xs.getD n []).getD j .any)
   | _,_=>none
  | _=>none
 | _=>none
theorem Br {c:Cx P} {a:Act} {w:World} {β:Nat→Nat} {κ:Nat→Nat×Nat} (r:Rel c s a w β κ) {k:Nat} {e:TypeId} {sz:Nat} {xs:List (List AV)} (hk:lk .gone s.h k = .row e sz xs) {n:Nat} (hn:n<xs.length) :
 (xs.getD n []).length=sz∧0<sz∧∃ cur:Array Value,w.heap[β k]? = some (.cells cur e (0,0))∧cur.size=(κ k).1*sz∧xs.length≤(κ k).1∧(κ k).1≤maxLen∧(∀ i,i<xs.length→(xs.getD i []).length=sz)∧∀ i j,i<xs.length→j<sz→i*sz+j<cur.size∧D w (c.XX s.h β) ((xs.getD i []).getD j .any) (cur.getD (i*sz+j) undef):=by
 have ho:=r.hp.ob k;rw [hk] at ho;have hx:xs≠[]:=by intro e;subst e;simp at hn
 obtain ⟨cur,h1,h2,h3,h4,h0,h5,h6⟩:=ho.2 hx;refine ⟨h5 n hn,h0,cur,h1,h2,h3,h4,h5,fun i j hi hj=>⟨?_,h6 i j hi hj⟩⟩;rw [h2];calc i*sz+j<i*sz+sz:=by omega
  _=(i+1)*sz:=by rw [Nat.add_mul,Nat.one_mul]
  _≤(κ k).1*sz:=Nat.mul_le_mul_right _ (by omega)
theorem Jn {c:Cx P} {a:Act} {w:World} {β:Nat→Nat} {κ:Nat→Nat×Nat} (r:Rel c s a w β κ) {t:TypeId} {x v:AV} {X:Value} {n j:Nat} {p:Prop} (hg:G w (c.XX s.h β) β κ x X) (h:Cl P s t x n j=some (p,v)) (hp:p) :
 ∃ V,(Instr.loadAt t X).run P w = .ok V w∧G w (c.XX s.h β) β κ v V:=by
 unfold Cl at h;split at h
 ·rename_i k o;split at h
  ·rename_i e sz xs hk;split at h
   ·rename_i m hag hsz;cases h;obtain ⟨rfl,hn,hj⟩:=hp;obtain ⟨hl,h0,cur,h1,_,_,_,_,h2⟩:=Br r hk hn;rw [hg.hptr_inv];refine ⟨_,?_,.agg _ ((List.range m).map fun i=>cur.getD (n*sz+j+i) undef).toArray (by rw [List.length_take,List.length_drop,hl];simp;omega) fun i hi=>?_⟩
    ·have:=run_loadCells (P:=P) w ⟨β k,n*sz+j,none⟩ m (fun i=>cur.getD (n*sz+j+i) undef) (fun i hi=>by rw [mR];exact ca h1 (by have:=(h2 n (j+i) hn (by omega)).1;omega))
     simp only [Instr.loadAt,Instr.sureAddr,loadVar,pure_bind,Sem.run_bind,nu hag,run_sizeOf hsz,this,Result.andThen,if_true];rfl
    ·have hi':i<m:=by rw [List.length_take] at hi;omega
     rw [getD_take _ _ _ _ hi',getD_drop];have:=(h2 n (j+i) hn (by omega)).2;rw [show n*sz+(j+i)=n*sz+j+i by omega] at this;simpa [SZ,List.getElem?_map,hi'] using (G.d this:G w (c.XX s.h β) β κ _ _)
   ·rename_i m hag hsz;cases h;obtain ⟨rfl,hn,hj⟩:=hp;obtain ⟨hl,h0,cur,h1,_,_,_,_,h2⟩:=Br r hk hn;rw [hg.hptr_inv];refine ⟨cur.getD (n*sz+j) undef,?_,.d (h2 n j hn (by omega)).2⟩;have:=ca h1 (h2 n j hn (by omega)).1;simp [Instr.loadAt,Instr.sureAddr,loadVar,nu hag,this,go_sem]
   ·cases h
  ·cases h
 ·cases h
theorem Jm {s':AS} {x:AV} {t:TypeId} {n j:Nat} (h:pX s s' x):Cl P s' t x n j=Cl P s t x n j:=by cases x<;>simp only [Cl];case hptr k o=>rw [h k (by simp [AV.men])]
theorem Om {t:TypeId} {x:Operand} {n j:Nat} (hg:gd ops s o=some true) (hop:o.op = .load t x) {p:Prop} {v:AV} (hv:Cl P s t (s.op x) n j=some (p,v)) (hp:p) {s':AS} (h:s.put o.dst v=some s'):nL P ops o s (· = s') :=
 cG hg fun c a w β κ r=>by obtain ⟨V,hr,hG⟩:=Jn r (r.op x) hv hp;refine ⟨V,w,β,κ,.inl ?_,cC r hG h⟩;simp only [execOp,hop,Sem.run_bind,hr,Result.andThen];rfl
theorem Mq {t:TypeId} {x:Operand} {n j:Nat} (hg:gd ops s o=some true) (hop:o.op = .load t x) {p:Prop} {v:AV} (hv:Cl P s t (s.op x) n j=some (p,v)) (hp:p) {s1:AS} (h:s.put o.dst v=some s1):Loc P ops o s (.put o.dst v) :=
 oG rfl h fun s' ha _ h2=>Om (by rw [cR ha];exact hg) hop (by
  have hx:x∈o.op.operands:=by rw [hop];simp [Op.operands]
  rw [bN ha hx,Jm (fun k hk=>ha.h (by rw [hop];rfl) x hx k hk)];exact hv) hp h2
def Vj (P:Program) (s:AS) (t:TypeId) (x y:AV) (n j:Nat):Option (Prop×AS) :=
 match x,jE y,tN P t with
 | .hptr k o,some vs,some m=>match lk .gone s.h k with
  | .row e sz xs=>if vs.length=m∧vs.all (fun v=>v.one&&v.fl)=true then some (o=n*sz+j∧n<xs.length∧j+m≤sz,⟨s.n,s.t,ins k (.row e sz (xs.set n (fh (xs.getD n []) j vs))) s.h⟩) else none
  | _=>none
 | _,_,_=>none
theorem OC {α:Type} (l:List α) (n:Nat) (x d:α) (i:Nat) (hn:n<l.length):(l.set n x).getD i d=if i=n then x else l.getD i d:=by
 simp only [SW,List.getElem?_set];by_cases h:n=i
 ·subst h;simp [hn]
 ·rw [if_neg h,if_neg (fun e=>h e.symm)]
theorem HC {c:Cx P} {a:Act} {w:World} {β:Nat→Nat} {κ:Nat→Nat×Nat} (r:Rel c s a w β κ) {t:TypeId} {x y:AV} {X Y:Value} {n j:Nat} {p:Prop} (hx:G w (c.XX s.h β) β κ x X) (hy:G w (c.XX s.h β) β κ y Y) {s':AS} (h:Vj P s t x y n j=some (p,s')) (hp:p) :
 ∃ w',(Instr.storeAt t X Y).run P w = .ok () w'∧Rel c s' a w' β κ:=by
 unfold Vj at h;split at h
 ·rename_i k off vs m hvs hm;split at h
  ·rename_i e sz xs hk;split at h
   ·rename_i hc;obtain ⟨hc1,hc3⟩:=hc;cases h;obtain ⟨rfl,hn,hj⟩:=hp;obtain ⟨hl,h0,cur,h1,hcs,hcap1,hcap2,hall,h2⟩:=Br r hk hn;obtain ⟨g1,g2⟩:=ph hy hvs;have hfl:∀ i,i<vs.length→(vs.getD i .any).one=true∧(vs.getD i .any).fl=true:=by intro i hi;have:=Tc.1 hc3 (vs.getD i .any) (by rw [SW,SX hi];exact List.getElem_mem _);simpa [SY] using this
    have hone:∀ v∈Y.cells.toList,v.oneCell'=true:=by
     intro v hv;obtain ⟨i,hi,rfl⟩:=List.getElem_of_mem hv;have hi':i<Y.cells.size:=by simpa using hi
     have:=g2 i (by omega);have e1:Y.cells.getD i undef=Y.cells.toList[i]:=by simp [SZ,Ta hi']
     rw [e1] at this;exact this.one (hfl i (by omega)).1
    have hend:n*sz+j+Y.cells.size≤cur.size:=by have:=(h2 n (sz-1) hn (by omega)).1;omega
    have hst:=run_storeCells_at P (β k) (n*sz+j) e Y.cells.toList 0 cur w h1 (by simp;omega) hone;simp only [Nat.add_zero,Array.length_toList] at hst;generalize hoff:n*sz+j=off at *;let new:Array Value:=(cur.toList.take off++Y.cells.toList++cur.toList.drop (off+Y.cells.size)).toArray
    have hnewsz:new.size=cur.size:=by simp [new];omega
    have hnew:∀ i,new.getD i undef=if off≤i∧i<off+vs.length then Y.cells.getD (i-off) undef else cur.getD i undef:=by
     intro i;have hl1:(cur.toList.take off).length=off:=by simp;omega
     have hN:new.getD i undef=(cur.toList.take off++Y.cells.toList++cur.toList.drop (off+Y.cells.size)).getD i undef:=by simp [new,SZ,SW]
     rw [hN];by_cases h4:i<off
     ·rw [if_neg (by omega),List.append_assoc,bV (by omega),getD_take _ _ _ _ h4];simp [SZ,SW]
     ·by_cases h5:i<off+vs.length
      ·rw [if_pos ⟨by omega,h5⟩,List.append_assoc,bz (by omega),hl1,bV (by simp;omega)];simp [SZ,SW]
      ·rw [if_neg (by omega),bz (by simp;omega),getD_drop];have:off+Y.cells.size+(i-(cur.toList.take off++Y.cells.toList).length)=i:=by simp;omega
       rw [this];simp [SZ,SW]
    refine ⟨w.setRow (β k) new,?_,?_⟩
    ·rw [hx.hptr_inv];simp only [Instr.storeAt,Instr.sureAddr,pure_bind,storeVar,Sem.run_bind,run_sizeOf hm,Result.andThen];rw [if_neg (by omega)];exact hst
    ·have hlive:(lk .gone s.h k).live:=by rw [hk];intro e;subst e;simp at hn
     have hbk:β k<w.heap.size:=r.hp.lt (.inl hlive);let xs':=xs.set n (fh (xs.getD n []) j vs)
     have hxs':xs'≠[]:=by
      intro e;have:xs'.length=xs.length:=by simp [xs']
      rw [e] at this;simp at this;omega
     have hsl:(AO.row e sz xs').live↔(lk .gone s.h k).live:=⟨fun _=>hlive,fun _=>hxs'⟩;have hsi:∀ j,(AO.row e sz xs').inn j↔(lk .gone s.h k).inn j:=fun j=>by rw [hk];exact Iff.rfl
     have hlv:=fun j=>Ak (h:=s.h) hsl hsi j;have hXX:c.XX (ins k (.row e sz xs') s.h) β=c.XX s.h β:=C1 c β hsl hsi;have hw:∀ i,¬ c.XX s.h β i→i<w.heap.size→(w.setRow (β k) new).heap[i]? = w.heap[i]? := fun i hi _=>cT _ _ _ (fun e=>hi (.inr ⟨k,.inl hlive,e.symm⟩));have hG:∀ {v:AV} {V:Value},G w (c.XX s.h β) β κ v V→G (w.setRow (β k) new) (c.XX s.h β) β κ v V:=fun hg=>hg.mono hw (fun _ h _=>h) (fun _ _=>.refl);have hD:∀ {v:AV} {V:Value},D w (c.XX s.h β) v V→D (w.setRow (β k) new) (c.XX s.h β) v V:=fun hg=>hg.mono hw (fun _ h _=>h);refine ⟨r.df,r.sz,fun i=>?_,⟨fun q=>?_,fun i j hi hj e=>r.hp.inj i j ((hlv i).1 hi) ((hlv j).1 hj) e,?_,fun j hj=>r.hp.nk j ((hlv j).1 hj),fun j hj=>r.hp.nx j ((hlv j).1 hj),r.hp.fix,fun j hj=>?_⟩⟩
     ·show G _ (c.XX (ins k _ s.h) β) β κ _ _;rw [hXX];exact hG (r.tm i)
     ·show HO _ (c.XX (ins k (.row e sz xs') s.h) β) β κ q (lk .gone (ins k (.row e sz xs') s.h) q);rw [hXX,bB];by_cases ej:q=k
      ·subst ej;rw [if_pos rfl];have hlen':xs'.length=xs.length:=by simp [xs']
       have hold:=r.hp.ob q;rw [hk] at hold;have hsp:(fh (xs.getD n []) j vs).length=sz:=by rw [nC (by omega)];exact hl
       have hgd:∀ i,xs'.getD i []=if i=n then fh (xs.getD n []) j vs else xs.getD i []:=fun i=>OC xs n _ [] i hn
       refine ⟨by rw [hlen'];exact hold.1,fun _=>⟨new,qU w _ cur e new h1,by rw [hnewsz];exact hcs,by rw [hlen'];exact hcap1,hcap2,h0,fun i hi=>?_,fun i l hi hl2=>?_⟩⟩
       ·rw [hgd];split
        ·exact hsp
        ·rw [hlen'] at hi;exact hall i hi
       ·rw [hlen'] at hi;rw [hgd,hnew];by_cases ei:i=n
        ·subst ei;rw [if_pos rfl,w8 (by omega)];by_cases h6:j≤l∧l<j+vs.length
         ·rw [if_pos h6,if_pos (by omega),show i*sz+l-off=l-j by omega];exact hD ((g2 (l-j) (by omega)).toD (hfl (l-j) (by omega)).2)
         ·rw [if_neg h6,if_neg (by omega)];exact hD (h2 i l hi hl2).2
        ·rw [if_neg ei,if_neg ?_]
         ·exact hD (h2 i l hi hl2).2
         ·rcases Nat.lt_or_ge i n with h7 | h7
          ·have h8:(i+1)*sz≤n*sz:=Nat.mul_le_mul_right _ h7;rw [Nat.add_mul,Nat.one_mul] at h8;omega
          ·have h8:(n+1)*sz≤i*sz:=Nat.mul_le_mul_right _ (by omega);rw [Nat.add_mul,Nat.one_mul] at h8;omega
      ·rw [if_neg ej];exact (r.hp.ob q).mono hw (fun _ h _=>h) (fun _ _=>.refl) .refl (fun hl=>cT _ _ _ fun e=>ej (r.hp.inj q k (.inl hl) (.inl hlive) e)) (fun i hl=>cT _ _ _ (r.hp.vne hlive hl))
     ·refine r.hp.kp.trans (K':=c.K) ⟨rfl,rfl,rfl,by simp [World.setRow],fun b hb=>cT _ _ _ fun e=>r.hp.nk k (.inl hlive) (e ▸ hb)⟩ (fun _ h=>h)
     ·rw [bB] at hj;by_cases ej:j=k
      ·rw [ej];exact r.hp.sm k hlive
      ·rw [if_neg ej] at hj;exact r.hp.sg j hj
   ·cases h
  ·cases h
 ·cases h
theorem My {t:TypeId} {x y:Operand} {n j:Nat} (hg:gd ops s o=some true) (hop:o.op = .store t x y) (hd:o.dst=none) {p:Prop} {s':AS} (h:Vj P s t (s.op x) (s.op y) n j=some (p,s')) (hp:p):nL P ops o s (· = s') :=
 cG hg fun c a w β κ r=>by obtain ⟨w',hr,r'⟩:=HC r (r.op x) (r.op y) h hp;refine ⟨undef,w',β,κ,.inr ⟨?_,rfl⟩,by rw [hd];exact r'⟩;simp only [execOp,hop,Sem.run_bind,hr,Result.andThen];rfl
end
section
variable {P:Program} {ops:Array Oper} {o:Oper} {s s':AS}
theorem AV.pg_free {k:Nat} {v:AV} (h:AV.men k v=false):AV.pg k v=v:=by unfold AV.pg;rw [h];rfl
theorem wu {k:Nat}:∀ {cs:List AV},AV.menL k cs=false→cs.map (AV.pg k)=cs
 | [],_=>rfl
 | c::cs,h=>by simp only [AV.menL,Bool.or_eq_false_iff] at h;rw [List.map_cons,AV.pg_free h.1,wu h.2]
theorem AO.pg_free {k:Nat} {o:AO} (h:AO.men k o=false):AO.pg k o=o:=by
 cases o with
 | cells e cs=>exact congrArg (AO.cells e) (wu h)
 | eit cs=>exact congrArg AO.eit (wu h)
 | _=>rfl
theorem P8 {k:Nat} (h:Pc k s):kq s ⟨s.n,vl k s.t,lu k s.h⟩:=⟨rfl,fun i=>by
 show lk .any (vl k s.t) i=lk .any s.t i;rw [jT,AV.pg_free (h.1 i)],fun i=>by
 show lk .gone (lu k s.h) i=lk .gone s.h i;rw [ij,AO.pg_free (h.2 i)]⟩
theorem Lq {k:Nat} {t:TypeId} {x:AV} {cs:List AV} (hcs:jE x=some cs) (hk:(Nat.blt k s.n&&Nat.blt k 1000 && !AV.men k x)=true)
 (h:∀ s',xJ ops o s s'→∀ s2,Gz s' t x k=some s2→nL P ops o s' (· = s2)):Loc P ops o s ⟨[(k,.hptr k 0)],[(k,.cells t cs)],[k],[]⟩:=by
 intro s' ha hf _;have hfk:=hf k (by simp);simp only [SY,Bool.not_eq_true'] at hk;have hb:Gz s' t x k=some ⟨s'.n,ins k (.hptr k 0) (vl k s'.t),ins k (.cells t cs) (lu k s'.h)⟩:=by unfold Gz;rw [AV.pg_free hk.2,hcs];simp only [AS.fresh];rw [ha.n,hk.1.1,hk.1.2];rfl
 refine (h s' ha _ hb).mono fun s'' e=>?_;subst e;have hs:=P8 hfk;refine ⟨rfl,fun i=>?_,fun i=>?_⟩
 ·show lk .any (ins k (.hptr k 0) (vl k s'.t)) i=lk .any (xB [(k,.hptr k 0)] s'.t) i;rw [bB,gq,jT,AV.pg_free (hfk.1 i)];simp only [n5];by_cases e:i=k
  ·subst e;simp
  ·rw [if_neg e,dz e];rfl
 ·show lk .gone (ins k (.cells t cs) (lu k s'.h)) i=lk .gone (xB [(k,.cells t cs)] s'.h) i;rw [bB,gq,ij,AO.pg_free (hfk.2 i)];simp only [n5];by_cases e:i=k
  ·subst e;simp
  ·rw [if_neg e,dz e];rfl
theorem Ct {w:World} {X:Nat→Prop} {β:Nat→Nat} {κ:Nat→Nat×Nat} {t:TypeId} {len:Nat} {parts:List (Nat×AV)} {vals:Array (Nat×Value)} (hl:parts.length=vals.size)
 (hp:∀ i,i<parts.length→(parts.getD i default).1=(vals.toList.getD i default).1∧G w X β κ (parts.getD i default).2 (vals.toList.getD i default).2) {xs:List (List AV)} (h:dy P t len parts=some (.dslice xs))
 {e:TypeId} {sz by_:Nat} (he2:jS P t=some (e,sz,by_)) :
 ∃ arr:Array Value,(Instr.buildSlice t len vals).run P w = .ok (.slice (some ⟨w.heap.size,0,none⟩) xs.length xs.length) (w.alloc (.cells arr e))∧xs≠[]∧0<sz∧arr.size=xs.length*sz∧xs.length≤maxLen ∧
  (∀ i,i<xs.length→(xs.getD i []).length=sz)∧(∀ i j,i<xs.length→j<sz→D w X ((xs.getD i []).getD j .any) (arr.getD (i*sz+j) undef)):=by
 obtain ⟨hu2,i2,z2,hi2,_,hs2,_,_,hsz⟩:=nP he2;unfold dy at h;split at h
 ·rename_i e' he;have hu1:=eD he;rw [hu2] at hu1;cases hu1;split at h
  ·rename_i n z hn hz;have en:n=sz:=by unfold tN at hn;rw [hi2] at hn;have:=Tb hn;omega
   subst en;split at h
   ·cases h
   ·rename_i hc;simp only [not_or,Nat.not_lt] at hc;obtain ⟨hn0,hc1,hc2⟩:=hc;have hc2:z.cells.size=n:=by simpa using hc2
    have hnb:¬ (len*n>2 ^ 24):=by omega
    split at h
    ·split at h<;>cases h
    ·rename_i hl0;split at h
     ·rename_i ys hxs;split at h
      ·rename_i hcc;cases h;simp only [SY] at hcc;obtain ⟨p1,p2,p3,p4⟩:=wv hxs;have hxl:xs.length=len:=ef.1 hcc.2;let zs:Array Value:=(Array.range (len*n)).map (z.cells[· % z.cells.size]!)
       have hzs:zs.size=len*n:=by simp [zs]
       have hle:(0+parts.length)*n≤(zs.toList.map AV.of1).length:=by simp [hzs,← p1,hxl]
       obtain ⟨arr,a1,a2,a3⟩:=nM (w:=w) (X:=X) (β:=β) (κ:=κ) parts vals.toList (zs.toList.map AV.of1) zs (by simpa using hl) hp (by simp) (Gy _) _ (Ti parts 0 xs _ hxs hcc.1 hle);have hflat:(List.take (0*n) (zs.toList.map AV.of1)++xs.flatten++List.drop ((0+parts.length)*n) (zs.toList.map AV.of1))=xs.flatten:=by rw [Nat.zero_mul,List.take_zero,List.nil_append,List.drop_eq_nil_of_le (by simp [hzs,← p1,hxl]),List.append_nil]
       rw [hflat] at a2 a3;have hfl:=vU p2;refine ⟨arr,?_,fun e0=>hl0 (by rw [← hxl,e0];rfl),hsz,by rw [a2,hfl],by unfold maxLen;have:len*1≤len*n:=Nat.mul_le_mul_left _ (by omega);omega,fun i hi=>p2.getD hi,fun i j hi hj=>?_⟩
       ·simp only [Instr.buildSlice,Sem.run_bind,bu hu2,Result.andThen,run_sizeOf hn];rw [if_neg hnb];have h0:¬ (len*n=0):=by rw [Nat.mul_eq_zero];omega
        simp only [h0,if_false,Sem.run_bind,om hz,Result.andThen,pure_bind];have:Instr.fill (fun i=>some (i*n,n)) ((Array.range (len*n)).map (z.cells[· % z.cells.size]!)) vals.toList=some arr:=a1;rw [this,hxl];simp [newRow,go_sem]
       ·have hij:i*n+j<xs.flatten.length:=by rw [hfl];have:(i+1)*n≤xs.length*n:=Nat.mul_le_mul_right _ hi;rw [Nat.add_mul] at this;omega
        have:=a3 (i*n+j) hij;rw [uk p2 hi hj] at this;refine this.toD ?_;have hxm:xs.getD i []∈xs:=by rw [SW,SX hi];exact List.getElem_mem hi
        exact iX (by rw [p2.getD hi];exact hj) (p3 _ hxm)
      ·cases h
     ·cases h
  ·cases h
 ·cases h
theorem LG {c:Cx P} {a:Act} {w:World} {β:Nat→Nat} {κ:Nat→Nat×Nat} {s:AS} (r:Rel c s a w β κ) {k k':Nat} {e:TypeId} {sz:Nat} {zs:List (List AV)} {s':AS} (h:s.grow k k' e sz zs=some s') (arr:Array Value) (C:Nat) (hz:zs≠[]) (hsz:0<sz)
 (hl:∀ i,i<zs.length→(zs.getD i []).length=sz) (hs:arr.size=C*sz) (hC:zs.length≤C) (hCm:C≤maxLen)
 (hG:∀ i j,i<zs.length→j<sz→D w (c.XX s.h β) ((zs.getD i []).getD j .any) (arr.getD (i*sz+j) undef)) :
 ∃ β' κ',Rel c s' (a.put (some k') (.slice (some ⟨w.heap.size,0,none⟩) zs.length C)) (w.alloc (.cells arr e)) β' κ':=by
 unfold AS.grow at h;cases hc:(Nat.blt k' s.n&&Nat.blt k' 1000) with
 | false=>rw [hc] at h;cases h
 | true =>
  rw [hc] at h;cases h;simp only [SY,Nat.blt_eq] at hc;have r':=r.drop2 k k';obtain ⟨m1,m2⟩:=NZ k k' s;have hw:∀ b,b<w.heap.size→(w.alloc (.cells arr e)).heap[b]? = w.heap[b]? := fun b hb=>ir w _ hb;have hsub:∀ b,¬ c.XX s.h β b→b<w.heap.size→¬ c.XX (ins k' (.row e sz zs) (s.drop2 k k').h) (upd β k' w.heap.size) b:=by
   rintro b hb hlt (hx | ⟨j,hl,hj⟩)
   ·exact hb (.inl hx)
   ·rcases iO (o:=.row e sz zs) (by omega) (fun _ h=>h) hl with ⟨ej,_⟩ | ⟨ej,hl⟩
    ·subst ej;rw [bh] at hj;omega
    ·rw [cM β ej] at hj;exact hb (.inr ⟨j,(Aj hl).1,hj⟩)
  obtain ⟨h1,h2⟩:=r'.hp.anew (w':=w.alloc (.cells arr e)) hc.2 (fun j _=>(m2 j).2) w.heap.size (C,zs.length) (Nat.le_refl _) hw (fJ _ w _ r.Klt) (o:=.row e sz zs)
   ⟨by rw [bh],fun _=>⟨arr,by rw [bh];exact nS w _,by rw [bh];exact hs,by rw [bh];exact hC,by rw [bh];exact hCm,hsz,hl,fun i j hi hj=>(hG i j hi hj).mono (w:=w) (fun b _ hb=>hw b hb) hsub⟩⟩
  refine ⟨upd β k' w.heap.size,upd κ k' (C,zs.length),r.df,by simp [Act.put,r.sz],fun i=>?_,h1⟩;show G _ _ _ _ (lk .any (ins k' (.rslice k') (s.drop2 k k').t) i) _;rw [bB];by_cases hi:i=k'
  ·subst hi;have hi':i<a.tmps.size:=by rw [r.sz];exact hc.1
   have hlz:0<zs.length:=by cases zs with | nil=>exact absurd rfl hz | cons _ _=>simp
   have:=G.rslice (w:=w.alloc (.cells arr e)) (X:=c.XX (ins i (.row e sz zs) (s.drop2 k i).h) (upd β i w.heap.size)) (β:=upd β i w.heap.size) (κ:=upd κ i (C,zs.length)) i (by rw [bh];exact hlz);rw [bh,bh] at this;simpa [Act.put,SZ,Array.getElem?_setIfInBounds,hi'] using this
  ·have:=h2 (r'.tm i) (m1 i).2;rw [if_neg hi];have hne:¬ k'=i:=fun e=>hi e.symm;simpa [Act.put,SZ,Array.getElem?_setIfInBounds,hne] using this
theorem JJ {xs zs:List (List AV)} (hz:xs=zs∨xs.map (List.map AV.wk0)=zs) {w:World} {X:Nat→Prop} {arr:Array Value} {sz:Nat} (h0:xs≠[]∧0<sz∧arr.size=xs.length*sz∧xs.length≤maxLen ∧
 (∀ i,i<xs.length→(xs.getD i []).length=sz)∧(∀ i j,i<xs.length→j<sz→D w X ((xs.getD i []).getD j .any) (arr.getD (i*sz+j) undef))) :
 zs.length=xs.length∧zs≠[]∧0<sz∧arr.size=zs.length*sz∧zs.length≤maxLen ∧
  (∀ i,i<zs.length→(zs.getD i []).length=sz)∧(∀ i j,i<zs.length→j<sz→D w X ((zs.getD i []).getD j .any) (arr.getD (i*sz+j) undef)):=by
 rcases hz with rfl | rfl
 ·exact ⟨rfl,h0⟩
 ·obtain ⟨g1,g2,g3,g4,g5,g6⟩:=h0;have e1:∀ i,(xs.map (List.map AV.wk0)).getD i []=(xs.getD i []).map AV.wk0:=fun i=>by simp only [SW,List.getElem?_map];cases xs[i]? <;> rfl
  have e2:∀ (l:List AV) (j:Nat),(l.map AV.wk0).getD j .any=AV.wk0 (l.getD j .any):=fun l j=>by simp only [SW,List.getElem?_map];cases l[j]? <;> rfl
  refine ⟨by simp,by simpa using g1,g2,by simpa using g3,by simpa using g4,fun i hi=>?_,fun i j hi hj=>?_⟩
  ·rw [e1,S7];exact g5 i (by simpa using hi)
  ·rw [e1,e2];exact (g6 i j (by simpa using hi) hj).wk0
theorem Ce {t e:TypeId} {len sz by_ k':Nat} {ps:Array (Nat×Operand)} {xs:List (List AV)} (hg:gd ops s o=some true) (hop:o.op = .buildSlice t len ps) (hd:o.dst=some k') (he:jS P t=some (e,sz,by_))
 (hv:dy P t len (s.parts ps)=some (.dslice xs)) {zs:List (List AV)} (hzs:xs=zs∨xs.map (List.map AV.wk0)=zs) {s':AS} (h:s.grow k' k' e sz zs=some s'):nL P ops o s (· = s') :=
 cG hg fun c a w β κ r=>by obtain ⟨h1,h2⟩:=zj r ps;obtain ⟨arr,hr,h0⟩:=Ct h1 h2 hv he;obtain ⟨gl,g1,g2,g3,g4,g5,g6⟩:=JJ hzs h0;obtain ⟨β',κ',r'⟩:=LG r h arr zs.length g1 g2 g5 g3 (Nat.le_refl _) g4 g6;rw [gl] at r';refine ⟨_,_,β',κ',.inl ?_,by rw [hd];exact r'⟩;simp only [execOp,hop];show ((Instr.buildSlice t len (ps.map fun p=>(p.1,a.eval p.2))) >>= fun x=>pure (Next.value x)).run P w=_;rw [Sem.run_bind,hr];rfl
def OL (P:Program) (s:AS) (dst:Option Tmp):Op→Option dw
 | .box t x=>match dst,jE (s.op x) with
  | some k,some cs=>bif Nat.blt k s.n&&Nat.blt k 1000 && !AV.men k (s.op x) then some ⟨[(k,.hptr k 0)],[(k,.cells t cs)],[k],[]⟩ else none
  | _,_=>none
 | .alloc t=>match dst,zeroOf P t with
  | some k,some z=>match jE (AV.of z) with
   | some cs=>bif Nat.blt k s.n&&Nat.blt k 1000 && !AV.men k (AV.of z) then some ⟨[(k,.hptr k 0)],[(k,.cells t cs)],[k],[]⟩ else none
   | none=>none
  | _,_=>none
 | .store t x y=>match dst with
  | none=>match s.op x,jE (s.op y),tN P t with
   | .hptr k off,some vs,some n=>match lk .gone s.h k with
    | .cells e cs=>bif decide (vs.length=n∧off+vs.length≤cs.length∧vs.all AV.one=true) then some ⟨[],[(k,.cells e (fh cs off vs))],[],[]⟩ else none
    | _=>none
   | _,_,_=>none
  | some _=>none
 | _=>none
theorem AQ {α:Type} {b:Bool} {x y:α} (h:(bif b then some x else none)=some y):b=true∧x=y:=by
 cases b with
 | true=>exact ⟨rfl,Tb h⟩
 | false=>cases h
theorem Jv {e:dw} (hg:gd ops s o=some true) (h:OL P s o.dst o.op=some e):Loc P ops o s e:=by
 unfold OL at h;split at h
 ·rename_i t x hop;split at h
  ·rename_i k cs hd hcs;obtain ⟨hk,rfl⟩:=AQ h;refine Lq hcs hk fun s' ha s2 hb=>?_;have hx:s'.op x=s.op x:=bN ha (by rw [hop];simp [Op.operands]);exact N9 (by rw [cR ha];exact hg) hop hd (by rw [hx];exact hb)
  ·cases h
 ·rename_i t hop;split at h
  ·rename_i k z hd hz;split at h
   ·rename_i cs hcs;obtain ⟨hk,rfl⟩:=AQ h;exact Lq hcs hk fun s' ha s2 hb=>I8 (by rw [cR ha];exact hg) hop hd hz hb
   ·cases h
  ·cases h
 ·rename_i t x y hop;split at h
  ·rename_i hd;split at h
   ·rename_i k off vs n hx hvs hn;split at h
    ·rename_i e2 cs hk;obtain ⟨hc,rfl⟩:=AQ h;have hc:=S3 hc;intro s' ha _ _;have hxo:x∈o.op.operands:=by rw [hop];simp [Op.operands]
     have hyo:y∈o.op.operands:=by rw [hop];simp [Op.operands]
     have hx':s'.op x = .hptr k off:=by rw [bN ha hxo];exact hx
     have hy':s'.op y=s.op y:=bN ha hyo;have hk':lk .gone s'.h k = .cells e2 cs:=by rw [ha.h (by rw [hop];rfl) x hxo k (by rw [hx];simp [AV.men])];exact hk
     have hst:AP P s' t (s'.op x) (s'.op y)=some ⟨s'.n,s'.t,ins k (.cells e2 (fh cs off vs)) s'.h⟩:=by unfold AP;rw [hx',hy',hvs,hn];simp only [hk'];rw [if_pos hc]
     refine (VB (by rw [cR ha];exact hg) hop hd hst).mono fun s'' e=>?_;subst e;exact ⟨rfl,fun _=>rfl,fun i=>rfl⟩
    ·cases h
   ·cases h
  ·cases h
 ·cases h
end
section
variable {P:Program} {ops:Array Oper} {o:Oper} {s:AS}
def bk (qs:List (Nat×Nat)) (h':List (Nat×AO)):List (Nat×Nat)→List (Nat×AO)→List (Nat×AO)
 | [],h=>h
 | (k,j)::ps,h=>ins k (AO.ren qs (lk .gone h' j)) (bk qs h' ps h)
theorem Ln {qs:List (Nat×Nat)} {h' h:List (Nat×AO)}:∀ {ps:List (Nat×Nat)} (k:Nat),lk .gone (bk qs h' ps h) k=match rk ps k with | some j=>AO.ren qs (lk .gone h' j) | none=>lk .gone h k
 | [],k=>rfl
 | (k0,j0)::ps,k=>by
  simp only [bk,bB,rk];by_cases e:k=k0
  ·subst e;simp
  ·rw [if_neg e,dz e];exact Ln k
def nN (ps:List (Nat×Nat)) (d:Nat) (h' h:List (Nat×AO)):List (Nat×AO) :=ins d (AO.ren ((0,d)::swp ps) (lk .gone h' 0)) (bk ((0,d)::swp ps) h' ps (lu d h))
theorem I9 {f:FuncId} (he:Go.Proofs.Enters P f) {x:Operand} {ar:Array Operand} {tys:Array TypeId} (hg:gd ops s o=some true) (hop:o.op = .call ⟨.value x,ar,tys⟩) {args0:List AV}
 (hx:∀ (c:Cx P) a w β κ,Rel c s a w β κ→∃ vs:Array Value,(execOp a.eval o).run P w = .ok (.enter f vs) w∧vs.size=args0.length∧∀ i,i<args0.length→G w (c.XX s.h β) β κ (args0.getD i .any) (vs.toList.getD i undef))
 (ps:List (Nat×Nat)) (d:Nat) (hps:(uo ps&&(ps.all fun p=>Nat.ble 1000 p.2&&(Nat.blt p.2 1000000&&Nat.blt p.1 1000000))&&(rk ps d).isNone&&Nat.blt d 1000)=true) {Post:AV→List (Nat×AO)→Prop} (hnoR:s.noR=true∨(ps=[]∧∀ v h',Post v h'→(lk .gone h' 0).isR=false)) {args:List AV} (hargs:args0.map (AV.ren ps)=args) {h0:List (Nat×AO)} (hh:hand ps s.h=h0) (hc:bH P f args h0 Post) {N:AS→Prop}
 (hN:∀ v h',Post v h'→∃ s',AS.put ⟨s.n,vl d s.t,nN ps d h' s.h⟩ o.dst (AV.ren ((0,d)::swp ps) v)=some s'∧N s'):nL P ops o s N:=fun c a w β κ r K Q hK=>by
 subst hargs;subst hh;simp only [SY] at hps;obtain ⟨⟨⟨hinj,hlv⟩,hnd⟩,hd⟩:=hps;rw [Nat.blt_eq] at hd;have hnd:rk ps d=none:=by simpa using hnd
 have hchk:∀ {k j},rk ps k=some j→1000≤j∧j<1000000∧k<1000000:=fun h=>by have:=Tc.1 hlv _ (uJ h);simp only [SY,Nat.ble_eq,Nat.blt_eq] at this;exact this
 rw [pq r hg];simp only [if_true];obtain ⟨vs,hrun,a1,a2⟩:=hx c a w β κ r;unfold Oper.wp;rw [hrun];let τ:Nat→Nat→Prop:=fun n n'=>(rk ps n=some n'∧n<1000000)∨∃ k j i,rk ps k=some j∧i<1000000∧n=gk k i∧n'=gk j i
 let H:Nat→Prop:=fun b=>∃ n n',τ n n'∧lv s.h n∧β n=b
 let βc:Nat→Nat:=CO (fun j=>match rk (swp ps) j with | some k=>β k | none=>0) (fun j i=>match rk (swp ps) j with | some k=>β (gk k i) | none=>0)
 let κc:Nat→Nat×Nat:=CO (fun j=>match rk (swp ps) j with | some k=>κ k | none=>(0,0)) (fun j i=>match rk (swp ps) j with | some k=>κ (gk k i) | none=>(0,0))
 have hβ:∀ k j,rk ps k=some j→βc j=β k∧κc j=κ k:=by intro k j h;have h2:=(cL hinj).2 h;have h3:=(hchk h).2.1;exact ⟨by simp only [βc,gC h3,h2],by simp only [κc,gC h3,h2]⟩
 have hβv:∀ k j,rk ps k=some j→∀ i,i<1000000→βc (gk j i)=β (gk k i)∧κc (gk j i)=κ (gk k i):=by intro k j h i hi;have h2:=(cL hinj).2 h;exact ⟨by simp only [βc,eH hi,h2],by simp only [κc,eH hi,h2]⟩
 have hβτ:∀ n n',τ n n'→βc n'=β n:=by
  rintro n n' (⟨h,_⟩ | ⟨k,j,i,h,hi,rfl,rfl⟩)
  ·exact (hβ _ _ h).1
  ·exact (hβv _ _ h i hi).1
 have hτi:∀ {n n1 n2},τ n n1→τ n n2→n1=n2:=by
  rintro n n1 n2 (⟨h,h'⟩ | ⟨k,j,i,h,hi,rfl,rfl⟩) (⟨g,g'⟩ | ⟨k2,j2,i2,g,hi2,e,rfl⟩)
  ·rw [h] at g;exact Tb g
  ·have:=iR k2 i2;omega
  ·have:=iR k i;omega
  ·obtain ⟨rfl,rfl⟩:=vV hi hi2 e;rw [h] at g;rw [Tb g]
 have hsz:∀ b,c.XX s.h β b→b<w.heap.size:=by
  rintro b (h | ⟨k,h1,rfl⟩)
  ·exact Nat.lt_of_lt_of_le (c.hX b h) r.hp.kp.size
  ·exact r.hp.lt h1
 have hKH:∀ b,c.K b→¬ H b:=by rintro b hb ⟨n,n',_,h2,rfl⟩;exact r.hp.nk n h2 hb
 have hXH:∀ b,c.X b→¬ H b:=by rintro b hb ⟨n,n',_,h2,rfl⟩;exact r.hp.nx n h2 hb
 let c':Cx P:=⟨fun b=>b<w.heap.size∧¬ H b,fun b=>c.XX s.h β b∧¬ H b,w,βc,κc,fun _ h=>h.1,fun b h=>hsz b h.1,fun w' hk=>c.gp w' (r.hp.kp.trans hk fun b hb=>⟨r.Klt b hb,hKH b hb⟩)⟩
 have hlk:∀ j,lk .gone (hand ps s.h) j=match rk (swp ps) j with | some k=>AO.ren ps (lk .gone s.h k) | none=>.gone:=fun j=>Da hinj j
 have hlvh:∀ n',lv (hand ps s.h) n'→∃ n,τ n n'∧lv s.h n:=by
  rintro n' (h1 | ⟨m,i,rfl,h1⟩)
  ·rw [hlk] at h1;cases e:rk (swp ps) n' with
   | none=>rw [e] at h1;exact h1.elim
   | some k =>
    rw [e] at h1;have e2:=(cL hinj).1 e;exact ⟨k,.inl ⟨e2,(hchk e2).2.2⟩,.inl (qw.1 h1)⟩
  ·rw [hlk] at h1;cases e:rk (swp ps) m with
   | none=>rw [e] at h1;exact h1.elim
   | some k =>
    rw [e] at h1;have e2:=(cL hinj).1 e;exact ⟨gk k i,.inr ⟨k,m,i,e2,(AO.inn_isR h1).1,rfl,rfl⟩,eZ (uq.1 h1)⟩
 have hown:∀ b,own (hand ps s.h) βc b→H b:=by rintro b ⟨n',h1,h2⟩;obtain ⟨n,h3,h4⟩:=hlvh n' h1;exact ⟨n,n',h3,h4,by rw [← h2];exact (hβτ n n' h3).symm⟩
 have hHX:∀ b,H b→c.XX s.h β b:=by rintro b ⟨n,n',_,h1,rfl⟩;exact .inr ⟨n,h1,rfl⟩
 have hXin:∀ b,¬ c.XX s.h β b→b<w.heap.size→¬ c'.XX (hand ps s.h) βc b:=by
  rintro b hb _ (h | h)
  ·exact hb h.1
  ·exact hb (hHX b (hown b h))
 have hrel:eN c' (hand ps s.h) c'.W c'.β c'.κ:=by
  refine ⟨fun j=>?_,fun i j hi hj e=>?_,dG.refl _ _,fun j hj=>?_,fun j hj=>?_,fun _ _ _=>⟨rfl,rfl⟩,fun j hj=>?_⟩
  ·rw [hlk];cases e:rk (swp ps) j with
   | none=>trivial
   | some k =>
    have e2:=(cL hinj).1 e;exact (r.hp.ob k).ren (X':=c'.XX (hand ps s.h) βc) hβ hXin (hβ _ _ e2) (fun i hi _=>hβv _ _ e2 i hi)
  ·obtain ⟨n1,h1,h2⟩:=hlvh i hi;obtain ⟨n2,h3,h4⟩:=hlvh j hj;have e3:β n1=β n2:=by rw [← hβτ n1 i h1,← hβτ n2 j h3];exact e
   have:=r.hp.inj n1 n2 h2 h4 e3;subst this;exact hτi h1 h3
  ·exact fun h=>h.2 (hown _ ⟨j,hj,rfl⟩)
  ·exact fun h=>h.2 (hown _ ⟨j,hj,rfl⟩)
  ·have hj:lk .gone (hand ps s.h) j ≠ .gone:=hj;rw [hlk] at hj;cases e:rk (swp ps) j with
   | none=>rw [e] at hj;exact absurd rfl hj
   | some k=>exact (hchk ((cL hinj).1 e)).2.1
 have hcall:=hc c' vs.toList (by simp [a1]) hrel (fun i hi=>by have e:(args0.map (AV.ren ps)).getD i .any=AV.ren ps (args0.getD i .any):=getD_map (AV.ren ps) _ i .any .any rfl;rw [e];exact (a2 i (by simpa using hi)).ren hβ hXin)
 simp only [Array.toArray_toList] at hcall;refine hcall.mono fun e w' ⟨V,v,h',β',κ',e1,hp,hr',hG⟩=>?_;subst e1;obtain ⟨s',h2,h3⟩:=hN v h' hp;have r1:=r.pg d;have hd6:d<1000000:=by omega
 let β2:Nat→Nat:=CO (fun k=>if k=d then β' 0 else β k) (fun k i=>if k=d∧(lk .gone h' 0).isR=true then β' (gk 0 i) else match rk ps k with | some j=>β' (gk j i) | none=>β (gk k i))
 let κ2:Nat→Nat×Nat:=CO (fun k=>if k=d then κ' 0 else κ k) (fun k i=>if k=d∧(lk .gone h' 0).isR=true then κ' (gk 0 i) else match rk ps k with | some j=>κ' (gk j i) | none=>κ (gk k i))
 have b2d:β2 d=β' 0∧κ2 d=κ' 0:=⟨by simp only [β2,gC hd6,if_pos],by simp only [κ2,gC hd6,if_pos]⟩;have b2dv:∀ i,i<1000000→(lk .gone h' 0).isR=true→β2 (gk d i)=β' (gk 0 i)∧κ2 (gk d i)=κ' (gk 0 i):=fun i hi hz=>⟨by simp [β2,eH hi,hz],by simp [κ2,eH hi,hz]⟩;have b2n:∀ k,k<1000000→k≠d→β2 k=β k∧κ2 k=κ k:=fun k hk h=>⟨by simp only [β2,gC hk,if_neg h],by simp only [κ2,gC hk,if_neg h]⟩;have hne:∀ {k j},rk ps k=some j→k≠d:=fun h e=>by rw [e,hnd] at h;cases h
 have b2v:∀ k i,i<1000000→k≠d→rk ps k=none→β2 (gk k i)=β (gk k i)∧κ2 (gk k i)=κ (gk k i):=fun k i hi h h4=>⟨by simp only [β2,eH hi,if_neg (show ¬ (k=d∧(lk .gone h' 0).isR=true) from fun e=>h e.1),h4],by simp only [κ2,eH hi,if_neg (show ¬ (k=d∧(lk .gone h' 0).isR=true) from fun e=>h e.1),h4]⟩;have b2h:∀ k j i,i<1000000→rk ps k=some j→β2 (gk k i)=β' (gk j i)∧κ2 (gk k i)=κ' (gk j i):=fun k j i hi h=>⟨by simp only [β2,eH hi,if_neg (show ¬ (k=d∧(lk .gone h' 0).isR=true) from fun e=>hne h e.1),h],by simp only [κ2,eH hi,if_neg (show ¬ (k=d∧(lk .gone h' 0).isR=true) from fun e=>hne h e.1),h]⟩;have hfix:∀ k j,rk ps k=some j→β2 k=β' j∧κ2 k=κ' j:=fun k j h=>by obtain ⟨f1,f2⟩:=hr'.fix j (hchk h).1 (hchk h).2.1;rw [(b2n k (hchk h).2.2 (hne h)).1,(b2n k (hchk h).2.2 (hne h)).2];exact ⟨by rw [f1];exact (hβ k j h).1.symm,by rw [f2];exact (hβ k j h).2.symm⟩
 have hfq:∀ j k,rk ((0,d)::swp ps) j=some k→β2 k=β' j∧κ2 k=κ' j:=fun j k h=>by
  simp only [rk] at h;by_cases e:j=0
  ·subst e;simp only [Nat.beq_refl,cond_true,S9] at h;subst h;exact b2d
  ·rw [dz e] at h;exact hfix k j ((cL hinj).1 h)
 have hb:∀ k,lk .gone (nN ps d h' s.h) k=if k=d then AO.ren ((0,d)::swp ps) (lk .gone h' 0) else match rk ps k with | some j=>AO.ren ((0,d)::swp ps) (lk .gone h' j) | none=>AO.pg d (lk .gone s.h k):=fun k=>by unfold nN;rw [bB,Ln,ij]
 have hnH:∀ n,lv s.h n→(∀ n',¬ τ n n')→¬ H (β n):=by rintro n hn hk ⟨n2,n2',h1,h4,h5⟩;have:=r.hp.inj n2 n h4 hn h5;subst this;exact hk _ h1
 have hnkj:∀ j,lv h' j→¬ c.K (β' j):=fun j hj hk=>hr'.nk j hj ⟨r.Klt _ hk,hKH _ hk⟩;have hnxj:∀ j,lv h' j→¬ c.X (β' j):=fun j hj hk=>hr'.nx j hj ⟨.inl hk,hXH _ hk⟩;have hin:∀ j,lv h' j→β' j<w.heap.size→H (β' j):=fun j hj hlt=>Classical.byContradiction fun hn=>hr'.nk j hj ⟨hlt,hn⟩;let ζ0:Nat→Nat:=fun j=>if j=0 then d else (rk (swp ps) j).getD 0
 let ζ:Nat→Nat:=CO ζ0 (fun j i=>gk (ζ0 j) i)
 have hζd:ζ0 0=d:=if_pos rfl;have hζp:∀ {k j},rk ps k=some j→ζ0 j=k:=fun {k j} h=>by have h1:=(cL hinj).2 h;have h2:=(hchk h).1;simp only [ζ0,if_neg (show j≠0 by omega),h1];rfl
 have hcase:∀ n,lv (nN ps d h' s.h) n→(∃ j,lv h' j∧β2 n=β' j∧n=ζ j)∨(lv s.h n∧β2 n=β n∧¬ H (β n)):=by
  rintro n (hk | ⟨m,i,rfl,hk⟩)
  ·rw [hb] at hk;by_cases e:n=d
   ·rw [if_pos e] at hk;exact .inl ⟨0,.inl (qw.1 hk),by rw [e];exact b2d.1,by rw [e];show d=CO ζ0 _ 0;rw [gC (by decide),hζd]⟩
   ·rw [if_neg e] at hk;cases e2:rk ps n with
    | none =>
     rw [e2] at hk;have hk:(lk .gone s.h n).live:=by simpa [AO.live_pg] using hk
     have hn6:=r.hp.sm n hk;refine .inr ⟨.inl hk,(b2n n hn6 e).1,hnH n (.inl hk) ?_⟩;rintro n' (⟨g,_⟩ | ⟨k,j,i,_,_,rfl,_⟩)
     ·rw [e2] at g;cases g
     ·have:=iR k i;omega
    | some j =>
     rw [e2] at hk;refine .inl ⟨j,.inl (qw.1 hk),(hfix n j e2).1,?_⟩;show n=CO ζ0 _ j;rw [gC (hchk e2).2.1,hζp e2]
  ·rw [hb] at hk;by_cases e:m=d
   ·rw [if_pos e] at hk;have hk:=uq.1 hk;have hi:=(AO.inn_isR hk).1;refine .inl ⟨gk 0 i,eZ hk,by rw [e];exact (b2dv i hi (AO.inn_isR hk).2).1,?_⟩;show gk m i=CO ζ0 _ (gk 0 i);rw [eH hi,hζd,e]
   ·rw [if_neg e] at hk;cases e2:rk ps m with
    | none =>
     rw [e2] at hk;have hk:(lk .gone s.h m).inn i:=by simpa only [AO.inn_pg] using hk
     have hi:=(AO.inn_isR hk).1;refine .inr ⟨eZ hk,(b2v m i hi e e2).1,hnH _ (eZ hk) ?_⟩;rintro n' (⟨_,g⟩ | ⟨k,j,i',g,hi',e3,_⟩)
     ·have:=iR m i;omega
     ·obtain ⟨rfl,rfl⟩:=vV hi hi' e3;rw [e2] at g;cases g
    | some j =>
     rw [e2] at hk;have hk:=uq.1 hk;have hi:=(AO.inn_isR hk).1;refine .inl ⟨gk j i,eZ hk,(b2h m j i hi e2).1,?_⟩;show gk m i=CO ζ0 _ (gk j i);rw [eH hi,hζp e2]
 have hA:∀ b,¬ c.XX s.h β b→b<w.heap.size→¬ c.XX (nN ps d h' s.h) β2 b:=by
  rintro b hb1 hlt (h | ⟨k,hk,rfl⟩)
  ·exact hb1 (.inl h)
  ·rcases hcase k hk with ⟨j,hj,e,_⟩ | ⟨hkl,e,_⟩
   ·rw [e] at hb1 hlt;exact hb1 (hHX _ (hin j hj hlt))
   ·rw [e] at hb1;exact hb1 (.inr ⟨k,hkl,rfl⟩)
 have hB:∀ b,¬ c'.XX h' β' b→b<w'.heap.size→¬ c.XX (nN ps d h' s.h) β2 b:=by
  rintro b hb1 _ (h | ⟨k,hk,rfl⟩)
  ·exact hb1 (.inl ⟨.inl h,hXH _ h⟩)
  ·rcases hcase k hk with ⟨j,hj,e,_⟩ | ⟨hkl,e,e2⟩
   ·rw [e] at hb1;exact hb1 (.inr ⟨j,hj,rfl⟩)
   ·rw [e] at hb1;exact hb1 (.inl ⟨.inr ⟨k,hkl,rfl⟩,e2⟩)
 have hC:∀ b,¬ c.XX s.h β b→b<w.heap.size→w'.heap[b]? = w.heap[b]? := fun b hb1 hlt=>hr'.kp.block b ⟨hlt,fun h=>hb1 (hHX b h)⟩;have hXX1:c.XX (lu d s.h) β=c.XX s.h β:=by funext b;simp only [Cx.XX,De]
 have hSK:∀ j,j≠d→j<1000000→rk ps j=none→SK β β2 κ κ2 j:=fun j h1 h2 h3=>⟨(b2n j h2 h1).1,(b2n j h2 h1).2,fun i hi=>b2v j i hi h1 h3⟩;have hSK2:ps=[]→(lk .gone h' 0).isR=false→∀ j,j≠d→SK β β2 κ κ2 j:=by
  intro hp0 hz;have key:∀ n,n≠d→β2 n=β n∧κ2 n=κ n:=by
   intro n hn;by_cases h6:n<1000000
   ·exact b2n n h6 hn
   ·have e0:gk (n / 1000000-1) (n % 1000000)=n:=by unfold gk;omega
    have hz2:∀ k,¬ (k=d∧(lk .gone h' 0).isR=true):=fun k h=>by rw [hz] at h;cases h.2
    constructor
    ·simp only [β2,CO,if_neg h6,if_neg (hz2 _),hp0,rk,e0]
    ·simp only [κ2,CO,if_neg h6,if_neg (hz2 _),hp0,rk,e0]
  exact fun j hj=>⟨(key j hj).1,(key j hj).2,fun i _=>key _ (by have:=iR j i;omega)⟩
 have r2:Rel c ⟨s.n,vl d s.t,nN ps d h' s.h⟩ a w' β2 κ2:=by
  refine ⟨r.df,r.sz,fun i=>?_,⟨fun k=>?_,fun i j hi hj e=>?_,r.hp.kp.trans hr'.kp fun b hb1=>⟨r.Klt b hb1,hKH b hb1⟩,fun k hk=>?_,fun k hk=>?_,fun k hk hk6=>?_,fun k hk=>?_⟩⟩
  ·show G w' (c.XX (nN ps d h' s.h) β2) β2 κ2 (lk .any (vl d s.t) i) _;rw [jT];rcases hnoR with hnoR | ⟨hp0,hz⟩;case inr=>exact ((r.tm i).pg d).mono hC hA (fun j hj=>hSK2 hp0 (hz v h' hp) j (fun e=>by rw [e,AV.men_pg] at hj;cases hj))
   have hR:=AV.hasR_pg (k:=d) (AS.noR_t hnoR i);exact ((r.tm i).pg d).mono2 hC hA hR (fun j hj=>b2n j (men_lt hR hj) (fun e=>by rw [e,AV.men_pg] at hj;cases hj))
  ·show HO w' (c.XX (nN ps d h' s.h) β2) β2 κ2 k (lk .gone (nN ps d h' s.h) k);rw [hb];by_cases e:k=d
   ·rw [if_pos e,e];exact (hr'.ob 0).ren (X':=c.XX (nN ps d h' s.h) β2) hfq hB b2d (fun i hi hz=>b2dv i hi hz)
   ·rw [if_neg e];cases e2:rk ps k with
    | none =>
     by_cases hg0:lk .gone s.h k = .gone
     ·rw [hg0];trivial
     ·have hk6:=r.hp.sg k hg0;have hmono:((AO.pg d (lk .gone s.h k)).live→w'.heap[β k]? = w.heap[β k]?)→(∀ i,(AO.pg d (lk .gone s.h k)).inn i→w'.heap[β (gk k i)]? = w.heap[β (gk k i)]?)→HO w' (c.XX (nN ps d h' s.h) β2) β2 κ2 k (AO.pg d (lk .gone s.h k)):=fun q1 q2=>by
       rcases hnoR with hnoR | ⟨hp0,hz⟩
       ·have hR:=AO.hasR_pg (k:=d) (AS.noR_h hnoR k);exact ((r.hp.ob k).pg (j:=d)).mono2 hC hA hR (fun j hj=>b2n j (AO.men_lt hR hj) (fun e=>by rw [e,AO.men_pg] at hj;cases hj)) (hSK k e hk6 e2) q1 q2
       ·exact ((r.hp.ob k).pg (j:=d)).mono hC hA (fun j hj=>hSK2 hp0 (hz v h' hp) j (fun e=>by rw [e,AO.men_pg] at hj;cases hj)) (hSK k e hk6 e2) q1 q2
      refine hmono (fun hkl=>?_) (fun i hkl=>?_)
      ·have hkl:(lk .gone s.h k).live:=by simpa [AO.live_pg] using hkl
       refine hr'.kp.block _ ⟨r.hp.lt (.inl hkl),hnH k (.inl hkl) ?_⟩;rintro n' (⟨g,_⟩ | ⟨m,j,i,_,_,rfl,_⟩)
       ·rw [e2] at g;cases g
       ·have:=iR m i;omega
      ·have hkl:(lk .gone s.h k).inn i:=by simpa only [AO.inn_pg] using hkl
       have hi:=(AO.inn_isR hkl).1;refine hr'.kp.block _ ⟨r.hp.lt (eZ hkl),hnH _ (eZ hkl) ?_⟩;rintro n' (⟨_,g⟩ | ⟨m,j,i',g,hi',e3,_⟩)
       ·have:=iR k i;omega
       ·obtain ⟨rfl,rfl⟩:=vV hi hi' e3;rw [e2] at g;cases g
    | some j=>exact (hr'.ob j).ren (X':=c.XX (nN ps d h' s.h) β2) hfq hB (hfix k j e2) (fun i hi _=>b2h k j i hi e2)
  ·rcases hcase i hi with ⟨ji,hji,ei,ci⟩ | ⟨li,ei,ni⟩<;>rcases hcase j hj with ⟨jj,hjj,ej,cj⟩ | ⟨lj,ej,nj⟩
   ·have e3:ji=jj:=hr'.inj ji jj hji hjj (by rw [← ei,← ej];exact e);rw [ci,cj,e3]
   ·have e3:β' ji=β j:=by rw [← ei,← ej];exact e
    exact absurd (hin ji hji (by rw [e3];exact r.hp.lt lj)) (by rw [e3];exact nj)
   ·have e3:β' jj=β i:=by rw [← ej,← ei];exact e.symm
    exact absurd (hin jj hjj (by rw [e3];exact r.hp.lt li)) (by rw [e3];exact ni)
   ·exact r.hp.inj i j li lj (by rw [← ei,← ej];exact e)
  ·rcases hcase k hk with ⟨j,hj,e,_⟩ | ⟨hkl,e,_⟩
   ·rw [e];exact hnkj j hj
   ·rw [e];exact r.hp.nk k hkl
  ·rcases hcase k hk with ⟨j,hj,e,_⟩ | ⟨hkl,e,_⟩
   ·rw [e];exact hnxj j hj
   ·rw [e];exact r.hp.nx k hkl
  ·have e:k≠d:=by omega
   rw [(b2n k hk6 e).1,(b2n k hk6 e).2];exact r.hp.fix k hk hk6
  ·have hk:lk .gone (nN ps d h' s.h) k ≠ .gone:=hk;rw [hb] at hk;by_cases e:k=d
   ·omega
   ·rw [if_neg e] at hk;cases e2:rk ps k with
    | none=>rw [e2] at hk;exact r.hp.sg k (fun e3=>hk (by rw [e3];rfl))
    | some j=>exact (hchk e2).2.2
 exact hK s' _ w' β2 κ2 h3 (cC r2 (hG.ren hfq hB) h2)
theorem GU {f:FuncId} (he:Go.Proofs.Enters P f) {x:Operand} {ar:Array Operand} {tys:Array TypeId} (hop:o.op = .call ⟨.value x,ar,tys⟩) {caps:List AV} (hx:s.op x = .fn f caps) :
 ∀ (c:Cx P) a w β κ,Rel c s a w β κ→∃ vs:Array Value,(execOp a.eval o).run P w = .ok (.enter f vs) w∧vs.size=(s.args ar caps).length∧∀ i,i<(s.args ar caps).length→G w (c.XX s.h β) β κ ((s.args ar caps).getD i .any) (vs.toList.getD i undef):=fun c a w β κ r=>by
 have hX:=r.op x;rw [hx] at hX;obtain ⟨Vs,eV,hl,hgs⟩:=hX.fn_inv;obtain ⟨a1,a2⟩:=TD r ar hl hgs;exact ⟨_,zI he hop eV,a1,a2⟩
theorem K3 {f:FuncId} (he:Go.Proofs.Enters P f) {x:Operand} {ar:Array Operand} {tys:Array TypeId} (hop:o.op = .call ⟨.value x,ar,tys⟩) {k off:Nat} (hx:s.op x = .bm f k off) :
 ∀ (c:Cx P) a w β κ,Rel c s a w β κ→∃ vs:Array Value,(execOp a.eval o).run P w = .ok (.enter f vs) w∧vs.size=(AV.hptr k off::s.args ar []).length∧∀ i,i<(AV.hptr k off::s.args ar []).length→G w (c.XX s.h β) β κ ((AV.hptr k off::s.args ar []).getD i .any) (vs.toList.getD i undef):=fun c a w β κ r=>by
 have hX:=r.op x;rw [hx] at hX;obtain ⟨a1,a2⟩:=TD (caps:=[]) (Vs := #[]) r ar rfl (fun i hi=>by simp at hi);refine ⟨#[.pointer (some ⟨β k,off,none⟩)]++(ar.map a.eval ++ #[]),?_,by simp [← a1];omega,fun i hi=>?_⟩
 ·simp only [execOp,hop,resolve,hX.bm_inv,Deferred.ofValue,pure_bind,invoke,Array.append_empty];exact he _ w
 ·cases i with
  | zero =>
   have:(#[Value.pointer (some ⟨β k,off,none⟩)]++(ar.map a.eval ++ #[])).toList.getD 0 undef = .pointer (some ⟨β k,off,none⟩):=by simp
   rw [this];exact .hptr k off
  | succ i =>
   have:=a2 i (by simpa using hi);simpa using this
end
abbrev SN:=List (List UInt8×Option (List (List AV)))
abbrev KE:List UInt8×Option (List (List AV)):=([],none)
section
variable {P:Program} {ops:Array Oper} {o:Oper} {s:AS} {c:Cx P} {a:Act} {w:World} {β:Nat→Nat} {κ:Nat→Nat×Nat}
def AS.take (s:AS) (k q:Nat) (e:TypeId) (sz:Nat) (zs:List (List AV)) (es':SN):AS :=⟨s.n,ins q (.rslice q) (vl q s.t),ins q (.row e sz zs) (lu q (ins k (.rmap e sz es') s.h))⟩
end
def Mz (ds:List (Nat×Nat)) (t:List (Nat×AV)):List (Nat×AV):=ds.foldr (fun p t=>vl p.2 t) t
def Rn (ds:List (Nat×Nat)) (h:List (Nat×AO)):List (Nat×AO):=ds.foldr (fun p h=>lu p.2 h) h
def AV.pgs (ds:List (Nat×Nat)) (v:AV):AV:=ds.foldr (fun p v=>AV.pg p.2 v) v
def AO.pgs (ds:List (Nat×Nat)) (o:AO):AO:=ds.foldr (fun p o=>AO.pg p.2 o) o
theorem Lp (t:List (Nat×AV)) (i:Nat):∀ ds:List (Nat×Nat),lk .any (Mz ds t) i=AV.pgs ds (lk .any t i)
 | []=>rfl
 | p::ds=>by show lk .any (vl p.2 (Mz ds t)) i=AV.pg p.2 (AV.pgs ds (lk .any t i));rw [jT,Lp t i ds]
theorem Lo (h:List (Nat×AO)) (i:Nat):∀ ds:List (Nat×Nat),lk .gone (Rn ds h) i=AO.pgs ds (lk .gone h i)
 | []=>rfl
 | p::ds=>by show lk .gone (lu p.2 (Rn ds h)) i=AO.pg p.2 (AO.pgs ds (lk .gone h i));rw [ij,Lo h i ds]
theorem men_pgs {n j:Nat} {v:AV}:∀ {ds:List (Nat×Nat)},(j,n)∈ds→AV.men n (AV.pgs ds v)=false
 | p::ds,h=>by
  show AV.men n (AV.pg p.2 (AV.pgs ds v))=false;rcases List.mem_cons.1 h with h | h
  ·rw [← h];exact AV.men_pg n _
  ·rw [Bool.eq_false_iff];intro h2;exact absurd (AV.men_pg' h2) (by rw [men_pgs h];simp)
theorem AO.men_pgs {n j:Nat} {v:AO}:∀ {ds:List (Nat×Nat)},(j,n)∈ds→AO.men n (AO.pgs ds v)=false
 | p::ds,h=>by
  show AO.men n (AO.pg p.2 (AO.pgs ds v))=false;rcases List.mem_cons.1 h with h | h
  ·rw [← h];exact AO.men_pg n _
  ·rw [Bool.eq_false_iff];intro h2;exact absurd (AO.men_pg' h2) (by rw [AO.men_pgs h];simp)
theorem AO.live_pgs (o:AO):∀ ds:List (Nat×Nat),(AO.pgs ds o).live=o.live
 | []=>rfl
 | p::ds=>by show (AO.pg p.2 (AO.pgs ds o)).live=_;rw [AO.live_pg,AO.live_pgs o ds]
theorem AO.inn_pgs (o:AO) (j:Nat):∀ ds:List (Nat×Nat),(AO.pgs ds o).inn j=o.inn j
 | []=>rfl
 | p::ds=>by show (AO.pg p.2 (AO.pgs ds o)).inn j=_;rw [AO.inn_pg,AO.inn_pgs o j ds]
theorem AO.pgs_gone:∀ ds:List (Nat×Nat),AO.pgs ds .gone = .gone
 | []=>rfl
 | p::ds=>by show AO.pg p.2 (AO.pgs ds .gone)=_;rw [AO.pgs_gone ds];rfl
theorem AV.hasR_pgs {v:AV}:∀ (ds:List (Nat×Nat)),AV.hasR v=false→AV.hasR (AV.pgs ds v)=false
 | [],h=>h
 | p::ds,h=>AV.hasR_pg (v:=AV.pgs ds v) (AV.hasR_pgs ds h)
theorem AO.hasR_pgs {v:AO}:∀ (ds:List (Nat×Nat)),AO.hasR v=false→AO.hasR (AO.pgs ds v)=false
 | [],h=>h
 | p::ds,h=>AO.hasR_pg (o:=AO.pgs ds v) (AO.hasR_pgs ds h)
theorem G.pgs {w:World} {X:Nat→Prop} {β:Nat→Nat} {κ:Nat→Nat×Nat} {v:AV} {V:Value}:∀ (ds:List (Nat×Nat)),G w X β κ v V→G w X β κ (AV.pgs ds v) V
 | [],h=>h
 | p::ds,h=>(G.pgs ds h).pg p.2
theorem HO.pgs {w:World} {X:Nat→Prop} {β:Nat→Nat} {κ:Nat→Nat×Nat} {k:Nat} {o:AO}:∀ (ds:List (Nat×Nat)),HO w X β κ k o→HO w X β κ k (AO.pgs ds o)
 | [],h=>h
 | p::ds,h=>(HO.pgs ds h).pg (j:=p.2)
theorem Gq (i:Nat):∀ (l m:List (Nat×Nat)),rk (l++m) i=match rk l i with | some j=>some j | none=>rk m i
 | [],m=>rfl
 | (k,j)::l,m=>by
  simp only [List.cons_append,rk];cases Nat.beq i k with
  | true=>rfl
  | false=>exact Gq i l m
def p6 (ps ds:List (Nat×Nat)) (h' h:List (Nat×AO)):List (Nat×AO):=bk (ds++swp ps) h' (swp ds) (bk (ds++swp ps) h' ps (Rn ds h))
section
variable {P:Program} {ops:Array Oper} {o:Oper} {s:AS}
theorem Oc {f:FuncId} (he:Go.Proofs.Enters P f) {x:Operand} {ar:Array Operand} {tys:Array TypeId} (hg:gd ops s o=some true) (hop:o.op = .call ⟨.value x,ar,tys⟩) {args0:List AV}
 (hx:∀ (c:Cx P) a w β κ,Rel c s a w β κ→∃ vs:Array Value,(execOp a.eval o).run P w = .ok (.enter f vs) w∧vs.size=args0.length∧∀ i,i<args0.length→G w (c.XX s.h β) β κ (args0.getD i .any) (vs.toList.getD i undef))
 (ps ds:List (Nat×Nat)) (hps:(uo ps&&(ps.all fun p=>Nat.ble 1000 p.2&&(Nat.blt p.2 1000000&&Nat.blt p.1 1000000))&&uo ds&&ds.all fun p=>(rk ps p.2).isNone&&(Nat.blt p.1 1000&&Nat.blt p.2 1000))=true) {Post:AV→List (Nat×AO)→Prop} (hnoR:s.noR=true∨(ps=[]∧∀ v h',Post v h'→∀ j,(lk .gone h' j).isR=false)) {args:List AV} (hargs:args0.map (AV.ren ps)=args) {h0:List (Nat×AO)} (hh:hand ps s.h=h0) (hc:bH P f args h0 Post) {N:AS→Prop}
 (hN:∀ v h',Post v h'→∃ s',AS.put ⟨s.n,Mz ds s.t,p6 ps ds h' s.h⟩ o.dst (AV.ren (ds++swp ps) v)=some s'∧N s'):nL P ops o s N:=fun c a w β κ r K Q hK=>by
 subst hargs;subst hh;simp only [SY] at hps;obtain ⟨⟨⟨hinj,hlv⟩,hinjd⟩,hdall⟩:=hps;have hds:∀ {j d},rk ds j=some d→rk ps d=none∧j<1000∧d<1000:=fun h=>by have:=Tc.1 hdall _ (uJ h);simp only [SY,Nat.blt_eq] at this;exact ⟨by simpa using this.1,this.2⟩
 have hdp:∀ {k j},rk ps k=some j→rk (swp ds) k=none:=fun {k j} h=>by
  cases e:rk (swp ds) k with
  | none=>rfl
  | some j2 =>
   have:=(hds ((cL hinjd).1 e)).1;rw [h] at this;cases this
 have hchk:∀ {k j},rk ps k=some j→1000≤j∧j<1000000∧k<1000000:=fun h=>by have:=Tc.1 hlv _ (uJ h);simp only [SY,Nat.ble_eq,Nat.blt_eq] at this;exact this
 rw [pq r hg];simp only [if_true];obtain ⟨vs,hrun,a1,a2⟩:=hx c a w β κ r;unfold Oper.wp;rw [hrun];let τ:Nat→Nat→Prop:=fun n n'=>(rk ps n=some n'∧n<1000000)∨∃ k j i,rk ps k=some j∧i<1000000∧n=gk k i∧n'=gk j i
 let H:Nat→Prop:=fun b=>∃ n n',τ n n'∧lv s.h n∧β n=b
 let βc:Nat→Nat:=CO (fun j=>match rk (swp ps) j with | some k=>β k | none=>0) (fun j i=>match rk (swp ps) j with | some k=>β (gk k i) | none=>0)
 let κc:Nat→Nat×Nat:=CO (fun j=>match rk (swp ps) j with | some k=>κ k | none=>(0,0)) (fun j i=>match rk (swp ps) j with | some k=>κ (gk k i) | none=>(0,0))
 have hβ:∀ k j,rk ps k=some j→βc j=β k∧κc j=κ k:=by intro k j h;have h2:=(cL hinj).2 h;have h3:=(hchk h).2.1;exact ⟨by simp only [βc,gC h3,h2],by simp only [κc,gC h3,h2]⟩
 have hβv:∀ k j,rk ps k=some j→∀ i,i<1000000→βc (gk j i)=β (gk k i)∧κc (gk j i)=κ (gk k i):=by intro k j h i hi;have h2:=(cL hinj).2 h;exact ⟨by simp only [βc,eH hi,h2],by simp only [κc,eH hi,h2]⟩
 have hβτ:∀ n n',τ n n'→βc n'=β n:=by
  rintro n n' (⟨h,_⟩ | ⟨k,j,i,h,hi,rfl,rfl⟩)
  ·exact (hβ _ _ h).1
  ·exact (hβv _ _ h i hi).1
 have hτi:∀ {n n1 n2},τ n n1→τ n n2→n1=n2:=by
  rintro n n1 n2 (⟨h,h'⟩ | ⟨k,j,i,h,hi,rfl,rfl⟩) (⟨g,g'⟩ | ⟨k2,j2,i2,g,hi2,e,rfl⟩)
  ·rw [h] at g;exact Tb g
  ·have:=iR k2 i2;omega
  ·have:=iR k i;omega
  ·obtain ⟨rfl,rfl⟩:=vV hi hi2 e;rw [h] at g;rw [Tb g]
 have hsz:∀ b,c.XX s.h β b→b<w.heap.size:=by
  rintro b (h | ⟨k,h1,rfl⟩)
  ·exact Nat.lt_of_lt_of_le (c.hX b h) r.hp.kp.size
  ·exact r.hp.lt h1
 have hKH:∀ b,c.K b→¬ H b:=by rintro b hb ⟨n,n',_,h2,rfl⟩;exact r.hp.nk n h2 hb
 have hXH:∀ b,c.X b→¬ H b:=by rintro b hb ⟨n,n',_,h2,rfl⟩;exact r.hp.nx n h2 hb
 let c':Cx P:=⟨fun b=>b<w.heap.size∧¬ H b,fun b=>c.XX s.h β b∧¬ H b,w,βc,κc,fun _ h=>h.1,fun b h=>hsz b h.1,fun w' hk=>c.gp w' (r.hp.kp.trans hk fun b hb=>⟨r.Klt b hb,hKH b hb⟩)⟩
 have hlk:∀ j,lk .gone (hand ps s.h) j=match rk (swp ps) j with | some k=>AO.ren ps (lk .gone s.h k) | none=>.gone:=fun j=>Da hinj j
 have hlvh:∀ n',lv (hand ps s.h) n'→∃ n,τ n n'∧lv s.h n:=by
  rintro n' (h1 | ⟨m,i,rfl,h1⟩)
  ·rw [hlk] at h1;cases e:rk (swp ps) n' with
   | none=>rw [e] at h1;exact h1.elim
   | some k =>
    rw [e] at h1;have e2:=(cL hinj).1 e;exact ⟨k,.inl ⟨e2,(hchk e2).2.2⟩,.inl (qw.1 h1)⟩
  ·rw [hlk] at h1;cases e:rk (swp ps) m with
   | none=>rw [e] at h1;exact h1.elim
   | some k =>
    rw [e] at h1;have e2:=(cL hinj).1 e;exact ⟨gk k i,.inr ⟨k,m,i,e2,(AO.inn_isR h1).1,rfl,rfl⟩,eZ (uq.1 h1)⟩
 have hown:∀ b,own (hand ps s.h) βc b→H b:=by rintro b ⟨n',h1,h2⟩;obtain ⟨n,h3,h4⟩:=hlvh n' h1;exact ⟨n,n',h3,h4,by rw [← h2];exact (hβτ n n' h3).symm⟩
 have hHX:∀ b,H b→c.XX s.h β b:=by rintro b ⟨n,n',_,h1,rfl⟩;exact .inr ⟨n,h1,rfl⟩
 have hXin:∀ b,¬ c.XX s.h β b→b<w.heap.size→¬ c'.XX (hand ps s.h) βc b:=by
  rintro b hb _ (h | h)
  ·exact hb h.1
  ·exact hb (hHX b (hown b h))
 have hrel:eN c' (hand ps s.h) c'.W c'.β c'.κ:=by
  refine ⟨fun j=>?_,fun i j hi hj e=>?_,dG.refl _ _,fun j hj=>?_,fun j hj=>?_,fun _ _ _=>⟨rfl,rfl⟩,fun j hj=>?_⟩
  ·rw [hlk];cases e:rk (swp ps) j with
   | none=>trivial
   | some k =>
    have e2:=(cL hinj).1 e;exact (r.hp.ob k).ren (X':=c'.XX (hand ps s.h) βc) hβ hXin (hβ _ _ e2) (fun i hi _=>hβv _ _ e2 i hi)
  ·obtain ⟨n1,h1,h2⟩:=hlvh i hi;obtain ⟨n2,h3,h4⟩:=hlvh j hj;have e3:β n1=β n2:=by rw [← hβτ n1 i h1,← hβτ n2 j h3];exact e
   have:=r.hp.inj n1 n2 h2 h4 e3;subst this;exact hτi h1 h3
  ·exact fun h=>h.2 (hown _ ⟨j,hj,rfl⟩)
  ·exact fun h=>h.2 (hown _ ⟨j,hj,rfl⟩)
  ·have hj:lk .gone (hand ps s.h) j ≠ .gone:=hj;rw [hlk] at hj;cases e:rk (swp ps) j with
   | none=>rw [e] at hj;exact absurd rfl hj
   | some k=>exact (hchk ((cL hinj).1 e)).2.1
 have hcall:=hc c' vs.toList (by simp [a1]) hrel (fun i hi=>by have e:(args0.map (AV.ren ps)).getD i .any=AV.ren ps (args0.getD i .any):=getD_map (AV.ren ps) _ i .any .any rfl;rw [e];exact (a2 i (by simpa using hi)).ren hβ hXin)
 simp only [Array.toArray_toList] at hcall;refine hcall.mono fun e w' ⟨V,v,h',β',κ',e1,hp,hr',hG⟩=>?_;subst e1;obtain ⟨s',h2,h3⟩:=hN v h' hp;let β2:Nat→Nat:=CO (fun k=>match rk (swp ds) k with | some j=>β' j | none=>β k) (fun k i=>match rk (swp ds) k with | some j=>(if (lk .gone h' j).isR=true then β' (gk j i) else β (gk k i)) | none=>match rk ps k with | some j=>β' (gk j i) | none=>β (gk k i))
 let κ2:Nat→Nat×Nat:=CO (fun k=>match rk (swp ds) k with | some j=>κ' j | none=>κ k) (fun k i=>match rk (swp ds) k with | some j=>(if (lk .gone h' j).isR=true then κ' (gk j i) else κ (gk k i)) | none=>match rk ps k with | some j=>κ' (gk j i) | none=>κ (gk k i))
 have b2d:∀ k j,rk (swp ds) k=some j→β2 k=β' j∧κ2 k=κ' j:=fun k j h=>by
  have h6:k<1000000:=by have:=(hds ((cL hinjd).1 h)).2.2;omega
  exact ⟨by simp only [β2,gC h6,h],by simp only [κ2,gC h6,h]⟩
 have b2dv:∀ k j,rk (swp ds) k=some j→∀ i,i<1000000→(lk .gone h' j).isR=true→β2 (gk k i)=β' (gk j i)∧κ2 (gk k i)=κ' (gk j i):=fun k j h i hi hz=>⟨by simp only [β2,eH hi,h,if_pos hz],by simp only [κ2,eH hi,h,if_pos hz]⟩;have b2n:∀ k,k<1000000→rk (swp ds) k=none→β2 k=β k∧κ2 k=κ k:=fun k hk h=>⟨by simp only [β2,gC hk,h],by simp only [κ2,gC hk,h]⟩;have b2v:∀ k i,i<1000000→rk (swp ds) k=none→rk ps k=none→β2 (gk k i)=β (gk k i)∧κ2 (gk k i)=κ (gk k i):=fun k i hi h h4=>⟨by simp only [β2,eH hi,h,h4],by simp only [κ2,eH hi,h,h4]⟩;have b2h:∀ k j i,i<1000000→rk ps k=some j→β2 (gk k i)=β' (gk j i)∧κ2 (gk k i)=κ' (gk j i):=fun k j i hi h=>⟨by simp only [β2,eH hi,hdp h,h],by simp only [κ2,eH hi,hdp h,h]⟩;have hfix:∀ k j,rk ps k=some j→β2 k=β' j∧κ2 k=κ' j:=fun k j h=>by obtain ⟨f1,f2⟩:=hr'.fix j (hchk h).1 (hchk h).2.1;rw [(b2n k (hchk h).2.2 (hdp h)).1,(b2n k (hchk h).2.2 (hdp h)).2];exact ⟨by rw [f1];exact (hβ k j h).1.symm,by rw [f2];exact (hβ k j h).2.symm⟩
 have hfq:∀ j k,rk (ds++swp ps) j=some k→β2 k=β' j∧κ2 k=κ' j:=fun j k h=>by
  rw [Gq] at h;cases e:rk ds j with
  | some d =>
   rw [e] at h;have:=Tb h;subst this;exact b2d _ _ ((cL hinjd).2 e)
  | none =>
   rw [e] at h;exact hfix k j ((cL hinj).1 h)
 have hb:∀ k,lk .gone (p6 ps ds h' s.h) k=match rk (swp ds) k with | some j=>AO.ren (ds++swp ps) (lk .gone h' j) | none=>match rk ps k with | some j=>AO.ren (ds++swp ps) (lk .gone h' j) | none=>AO.pgs ds (lk .gone s.h k):=fun k=>by
  unfold p6;rw [Ln,Ln,Lo];all_goals
   cases rk (swp ds) k with
   | some j=>rfl
   | none=>cases rk ps k<;>rfl
 have hnH:∀ n,lv s.h n→(∀ n',¬ τ n n')→¬ H (β n):=by rintro n hn hk ⟨n2,n2',h1,h4,h5⟩;have:=r.hp.inj n2 n h4 hn h5;subst this;exact hk _ h1
 have hnkj:∀ j,lv h' j→¬ c.K (β' j):=fun j hj hk=>hr'.nk j hj ⟨r.Klt _ hk,hKH _ hk⟩;have hnxj:∀ j,lv h' j→¬ c.X (β' j):=fun j hj hk=>hr'.nx j hj ⟨.inl hk,hXH _ hk⟩;have hin:∀ j,lv h' j→β' j<w.heap.size→H (β' j):=fun j hj hlt=>Classical.byContradiction fun hn=>hr'.nk j hj ⟨hlt,hn⟩;let ζ0:Nat→Nat:=fun j=>match rk ds j with | some d=>d | none=>(rk (swp ps) j).getD 0
 let ζ:Nat→Nat:=CO ζ0 (fun j i=>gk (ζ0 j) i)
 have hζd:∀ {k j},rk (swp ds) k=some j→ζ0 j=k:=fun {k j} h=>by simp only [ζ0,(cL hinjd).1 h]
 have hζp:∀ {k j},rk ps k=some j→ζ0 j=k:=fun {k j} h=>by
  have h1:=(cL hinj).2 h;have h2:=(hchk h).1;have h3:rk ds j=none:=by
   cases e:rk ds j with
   | none=>rfl
   | some d=>have:=(hds e).2.1;omega
  simp only [ζ0,h3,h1];rfl
 have hcase:∀ n,lv (p6 ps ds h' s.h) n→(∃ j,lv h' j∧β2 n=β' j∧n=ζ j)∨(lv s.h n∧β2 n=β n∧¬ H (β n)):=by
  rintro n (hk | ⟨m,i,rfl,hk⟩)
  ·rw [hb] at hk;cases e:rk (swp ds) n with
   | some j =>
    rw [e] at hk;refine .inl ⟨j,.inl (qw.1 hk),(b2d n j e).1,?_⟩;show n=CO ζ0 _ j;rw [gC (by have:=(hds ((cL hinjd).1 e)).2.1;omega),hζd e]
   | none =>
    rw [e] at hk;simp only at hk;cases e2:rk ps n with
    | none =>
     rw [e2] at hk;have hk:(lk .gone s.h n).live:=by simpa [AO.live_pgs] using hk
     have hn6:=r.hp.sm n hk;refine .inr ⟨.inl hk,(b2n n hn6 e).1,hnH n (.inl hk) ?_⟩;rintro n' (⟨g,_⟩ | ⟨k,j,i,_,_,rfl,_⟩)
     ·rw [e2] at g;cases g
     ·have:=iR k i;omega
    | some j =>
     rw [e2] at hk;refine .inl ⟨j,.inl (qw.1 hk),(hfix n j e2).1,?_⟩;show n=CO ζ0 _ j;rw [gC (hchk e2).2.1,hζp e2]
  ·rw [hb] at hk;cases e:rk (swp ds) m with
   | some j =>
    rw [e] at hk;have hk:=uq.1 hk;have hi:=(AO.inn_isR hk).1;refine .inl ⟨gk j i,eZ hk,(b2dv m j e i hi (AO.inn_isR hk).2).1,?_⟩;show gk m i=CO ζ0 _ (gk j i);rw [eH hi,hζd e]
   | none =>
    rw [e] at hk;simp only at hk;cases e2:rk ps m with
    | none =>
     rw [e2] at hk;have hk:(lk .gone s.h m).inn i:=by simpa only [AO.inn_pgs] using hk
     have hi:=(AO.inn_isR hk).1;refine .inr ⟨eZ hk,(b2v m i hi e e2).1,hnH _ (eZ hk) ?_⟩;rintro n' (⟨_,g⟩ | ⟨k,j,i',g,hi',e3,_⟩)
     ·have:=iR m i;omega
     ·obtain ⟨rfl,rfl⟩:=vV hi hi' e3;rw [e2] at g;cases g
    | some j =>
     rw [e2] at hk;have hk:=uq.1 hk;have hi:=(AO.inn_isR hk).1;refine .inl ⟨gk j i,eZ hk,(b2h m j i hi e2).1,?_⟩;show gk m i=CO ζ0 _ (gk j i);rw [eH hi,hζp e2]
 have hA:∀ b,¬ c.XX s.h β b→b<w.heap.size→¬ c.XX (p6 ps ds h' s.h) β2 b:=by
  rintro b hb1 hlt (h | ⟨k,hk,rfl⟩)
  ·exact hb1 (.inl h)
  ·rcases hcase k hk with ⟨j,hj,e,_⟩ | ⟨hkl,e,_⟩
   ·rw [e] at hb1 hlt;exact hb1 (hHX _ (hin j hj hlt))
   ·rw [e] at hb1;exact hb1 (.inr ⟨k,hkl,rfl⟩)
 have hB:∀ b,¬ c'.XX h' β' b→b<w'.heap.size→¬ c.XX (p6 ps ds h' s.h) β2 b:=by
  rintro b hb1 _ (h | ⟨k,hk,rfl⟩)
  ·exact hb1 (.inl ⟨.inl h,hXH _ h⟩)
  ·rcases hcase k hk with ⟨j,hj,e,_⟩ | ⟨hkl,e,e2⟩
   ·rw [e] at hb1;exact hb1 (.inr ⟨j,hj,rfl⟩)
   ·rw [e] at hb1;exact hb1 (.inl ⟨.inr ⟨k,hkl,rfl⟩,e2⟩)
 have hC:∀ b,¬ c.XX s.h β b→b<w.heap.size→w'.heap[b]? = w.heap[b]? := fun b hb1 hlt=>hr'.kp.block b ⟨hlt,fun h=>hb1 (hHX b h)⟩;have hSK:∀ j,rk (swp ds) j=none→j<1000000→rk ps j=none→SK β β2 κ κ2 j:=fun j h1 h2 h3=>⟨(b2n j h2 h1).1,(b2n j h2 h1).2,fun i hi=>b2v j i hi h1 h3⟩;have hSK2:ps=[]→(∀ j,(lk .gone h' j).isR=false)→∀ j,rk (swp ds) j=none→SK β β2 κ κ2 j:=by
  intro hp0 hz;have key:∀ n,rk (swp ds) n=none→β2 n=β n∧κ2 n=κ n:=by
   intro n hn;by_cases h6:n<1000000
   ·exact b2n n h6 hn
   ·have e0:gk (n / 1000000-1) (n % 1000000)=n:=by unfold gk;omega
    have hi:n % 1000000<1000000:=Nat.mod_lt _ (by decide);have e1:β2 (gk (n / 1000000-1) (n % 1000000))=β (gk (n / 1000000-1) (n % 1000000))∧κ2 (gk (n / 1000000-1) (n % 1000000))=κ (gk (n / 1000000-1) (n % 1000000)):=by
     cases e:rk (swp ds) (n / 1000000-1) with
     | none=>exact b2v _ _ hi e (by rw [hp0];rfl)
     | some j=>exact ⟨by simp [β2,eH hi,e,hz j],by simp [κ2,eH hi,e,hz j]⟩
    rw [e0] at e1;exact e1
  exact fun j hj=>⟨(key j hj).1,(key j hj).2,fun i _=>key _ (by
   cases e:rk (swp ds) (gk j i) with
   | none=>rfl
   | some l=>have:=(hds ((cL hinjd).1 e)).2.2;have:=iR j i;omega)⟩
 have hmend:∀ {v:AV} {n:Nat},AV.men n (AV.pgs ds v)=true→rk (swp ds) n=none:=fun {v n} h=>by
  cases e:rk (swp ds) n with
  | none=>rfl
  | some j=>rw [men_pgs (uJ ((cL hinjd).1 e))] at h;cases h
 have hmendO:∀ {v:AO} {n:Nat},AO.men n (AO.pgs ds v)=true→rk (swp ds) n=none:=fun {v n} h=>by
  cases e:rk (swp ds) n with
  | none=>rfl
  | some j=>rw [AO.men_pgs (uJ ((cL hinjd).1 e))] at h;cases h
 have r2:Rel c ⟨s.n,Mz ds s.t,p6 ps ds h' s.h⟩ a w' β2 κ2:=by
  refine ⟨r.df,r.sz,fun i=>?_,⟨fun k=>?_,fun i j hi hj e=>?_,r.hp.kp.trans hr'.kp fun b hb1=>⟨r.Klt b hb1,hKH b hb1⟩,fun k hk=>?_,fun k hk=>?_,fun k hk hk6=>?_,fun k hk=>?_⟩⟩
  ·show G w' (c.XX (p6 ps ds h' s.h) β2) β2 κ2 (lk .any (Mz ds s.t) i) _;rw [Lp];rcases hnoR with hnoR | ⟨hp0,hz⟩;case inr=>exact ((r.tm i).pgs ds).mono hC hA (fun j hj=>hSK2 hp0 (hz v h' hp) j (hmend hj))
   have hR:=AV.hasR_pgs ds (AS.noR_t hnoR i);exact ((r.tm i).pgs ds).mono2 hC hA hR (fun j hj=>b2n j (men_lt hR hj) (hmend hj))
  ·show HO w' (c.XX (p6 ps ds h' s.h) β2) β2 κ2 k (lk .gone (p6 ps ds h' s.h) k);rw [hb];cases e:rk (swp ds) k with
   | some j=>exact (hr'.ob j).ren (X':=c.XX (p6 ps ds h' s.h) β2) hfq hB (b2d k j e) (fun i hi hz=>b2dv k j e i hi hz)
   | none =>
    simp only;cases e2:rk ps k with
    | none =>
     by_cases hg0:lk .gone s.h k = .gone
     ·rw [hg0,AO.pgs_gone];trivial
     ·have hk6:=r.hp.sg k hg0;have hmono:((AO.pgs ds (lk .gone s.h k)).live→w'.heap[β k]? = w.heap[β k]?)→(∀ i,(AO.pgs ds (lk .gone s.h k)).inn i→w'.heap[β (gk k i)]? = w.heap[β (gk k i)]?)→HO w' (c.XX (p6 ps ds h' s.h) β2) β2 κ2 k (AO.pgs ds (lk .gone s.h k)):=fun q1 q2=>by
       rcases hnoR with hnoR | ⟨hp0,hz⟩
       ·have hR:=AO.hasR_pgs ds (AS.noR_h hnoR k);exact ((r.hp.ob k).pgs ds).mono2 hC hA hR (fun j hj=>b2n j (AO.men_lt hR hj) (hmendO hj)) (hSK k e hk6 e2) q1 q2
       ·exact ((r.hp.ob k).pgs ds).mono hC hA (fun j hj=>hSK2 hp0 (hz v h' hp) j (hmendO hj)) (hSK k e hk6 e2) q1 q2
      refine hmono (fun hkl=>?_) (fun i hkl=>?_)
      ·have hkl:(lk .gone s.h k).live:=by simpa [AO.live_pgs] using hkl
       refine hr'.kp.block _ ⟨r.hp.lt (.inl hkl),hnH k (.inl hkl) ?_⟩;rintro n' (⟨g,_⟩ | ⟨m,j,i,_,_,rfl,_⟩)
       ·rw [e2] at g;cases g
       ·have:=iR m i;omega
      ·have hkl:(lk .gone s.h k).inn i:=by simpa only [AO.inn_pgs] using hkl
       have hi:=(AO.inn_isR hkl).1;refine hr'.kp.block _ ⟨r.hp.lt (eZ hkl),hnH _ (eZ hkl) ?_⟩;rintro n' (⟨_,g⟩ | ⟨m,j,i',g,hi',e3,_⟩)
       ·have:=iR k i;omega
       ·obtain ⟨rfl,rfl⟩:=vV hi hi' e3;rw [e2] at g;cases g
    | some j=>exact (hr'.ob j).ren (X':=c.XX (p6 ps ds h' s.h) β2) hfq hB (hfix k j e2) (fun i hi _=>b2h k j i hi e2)
  ·rcases hcase i hi with ⟨ji,hji,ei,ci⟩ | ⟨li,ei,ni⟩<;>rcases hcase j hj with ⟨jj,hjj,ej,cj⟩ | ⟨lj,ej,nj⟩
   ·have e3:ji=jj:=hr'.inj ji jj hji hjj (by rw [← ei,← ej];exact e);rw [ci,cj,e3]
   ·have e3:β' ji=β j:=by rw [← ei,← ej];exact e
    exact absurd (hin ji hji (by rw [e3];exact r.hp.lt lj)) (by rw [e3];exact nj)
   ·have e3:β' jj=β i:=by rw [← ej,← ei];exact e.symm
    exact absurd (hin jj hjj (by rw [e3];exact r.hp.lt li)) (by rw [e3];exact ni)
   ·exact r.hp.inj i j li lj (by rw [← ei,← ej];exact e)
  ·rcases hcase k hk with ⟨j,hj,e,_⟩ | ⟨hkl,e,_⟩
   ·rw [e];exact hnkj j hj
   ·rw [e];exact r.hp.nk k hkl
  ·rcases hcase k hk with ⟨j,hj,e,_⟩ | ⟨hkl,e,_⟩
   ·rw [e];exact hnxj j hj
   ·rw [e];exact r.hp.nx k hkl
  ·have e:rk (swp ds) k=none:=by
    cases e:rk (swp ds) k with
    | none=>rfl
    | some j=>have:=(hds ((cL hinjd).1 e)).2.2;omega
   rw [(b2n k hk6 e).1,(b2n k hk6 e).2];exact r.hp.fix k hk hk6
  ·have hk:lk .gone (p6 ps ds h' s.h) k ≠ .gone:=hk;rw [hb] at hk;cases e:rk (swp ds) k with
   | some j=>have:=(hds ((cL hinjd).1 e)).2.2;omega
   | none =>
    rw [e] at hk;simp only at hk;cases e2:rk ps k with
    | none=>rw [e2] at hk;exact r.hp.sg k (fun e3=>hk (by rw [e3,AO.pgs_gone]))
    | some j=>exact (hchk e2).2.2
 exact hK s' _ w' β2 κ2 h3 (cC r2 (hG.ren hfq hB) h2)
end
section
variable {P:Program} {ops:Array Oper} {o:Oper} {s:AS} {c:Cx P} {a:Act} {w:World} {β:Nat→Nat} {κ:Nat→Nat×Nat}
theorem Rel.entry (r:Rel c s a w β κ) {k:Nat} {e:TypeId} {sz:Nat} {es es2:SN} (hk:lk .gone s.h k = .rmap e sz es) {w':World}
 {ents:Array MapEntry} {clock:Nat} (hw:∀ i,i≠β k→w'.heap[i]? = w.heap[i]?) (hkp:dG (fun i=>i≠β k) w w') (hm:w'.heap[β k]? = some (.map ents clock)) (hs:ents.size=es2.length) (hl6:es2.length≤1000000)
 (hei:∀ i,i<es2.length→(i<es.length∧es2.getD i KE=es.getD i KE)∨(es2.getD i KE).2=none)
 (hents:∀ i (h:i<ents.size),ents[i].key = .string ⟨(es2.getD i KE).1.toArray⟩∧ents[i].born<clock∧((es2.getD i KE).2≠none→QL w (c.XX s.h β) (β (gk k i)) (κ (gk k i)) e sz ents[i].val (es.getD i KE).2))
 (hborn:∀ i j (hi:i<ents.size) (hj:j<ents.size),i<j→ents[i].born<ents[j].born) (hkeys:(es2.map (·.1)).Nodup∧∀ k∈es2.map (·.1),k.length≤maxLen) :
 Rel c ⟨s.n,s.t,ins k (.rmap e sz es2) s.h⟩ a w' β κ:=by
 have hlk:(lk .gone s.h k).live:=by rw [hk];trivial
 have hinn:∀ i,(AO.rmap e sz es2).inn i→(AO.rmap e sz es).inn i:=by
  rintro i ⟨h1,h2,y,ys,h3⟩;rcases hei i h2 with ⟨g1,g2⟩ | g
  ·exact ⟨h1,g1,y,ys,by rw [← g2];exact h3⟩
  ·rw [g] at h3;cases h3
 have hlv:∀ n,lv (ins k (.rmap e sz es2) s.h) n→lv s.h n:=by
  rintro n (h | ⟨m,i,rfl,h⟩)
  ·rw [bB] at h;by_cases ej:n=k
   ·rw [ej];exact .inl hlk
   ·rw [if_neg ej] at h;exact .inl h
  ·rw [bB] at h;by_cases ej:m=k
   ·rw [if_pos ej] at h;refine eZ ?_;rw [ej,hk];exact hinn i h
   ·rw [if_neg ej] at h;exact eZ h
 have hX:∀ b,¬ c.XX s.h β b→b<w.heap.size→¬ c.XX (ins k (.rmap e sz es2) s.h) β b:=by
  rintro b hb _ (h | ⟨n,h1,h2⟩)
  ·exact hb (.inl h)
  ·exact hb (.inr ⟨n,hlv n h1,h2⟩)
 have hw2:∀ b,¬ c.XX s.h β b→b<w.heap.size→w'.heap[b]? = w.heap[b]? := fun b hb _=>hw b (fun e1=>hb (.inr ⟨k,.inl hlk,e1.symm⟩));refine ⟨r.df,r.sz,fun i=>(r.tm i).mono hw2 hX (fun _ _=>.refl),⟨fun n=>?_,fun i j hi hj e=>r.hp.inj i j (hlv i hi) (hlv j hj) e,r.hp.kp.trans hkp (fun b hb e1=>r.hp.nk k (.inl hlk) (e1 ▸ hb)),fun j hj=>r.hp.nk j (hlv j hj),fun j hj=>r.hp.nx j (hlv j hj),r.hp.fix,fun j hj=>?_⟩⟩
 ·show HO w' (c.XX (ins k (.rmap e sz es2) s.h) β) β κ n (lk .gone (ins k (.rmap e sz es2) s.h) n);rw [bB];by_cases ej:n=k
  ·rw [if_pos ej,ej];refine ⟨ents,clock,hm,hs,hl6,fun i hi=>?_,hborn,hkeys⟩;obtain ⟨a1,a2,a3⟩:=hents i hi;refine ⟨a1,a2,?_⟩;rcases hei i (by omega) with ⟨g4,g5⟩ | g
   ·have hin:∀ z zs',(es.getD i KE).2=some (z::zs')→(lk .gone s.h k).inn i:=fun z zs' h=>by rw [hk];exact ⟨by omega,g4,z,zs',h⟩
    rw [g5] at a3 ⊢;generalize (es.getD i ([],none)).2=o at a3 hin ⊢;match o,a3,hin with
    | none,_,_=>trivial
    | some [],a5,_=>exact a5 (by simp)
    | some (z::zs'),a5,hin =>
     have a5:=a5 (by simp);exact ⟨a5.1,a5.2.1,a5.2.2.mono hw2 hX (hw _ (r.hp.vne hlk (hin z zs' rfl)))⟩
   ·rw [g];trivial
  ·rw [if_neg ej];refine (r.hp.ob n).mono hw2 hX (fun _ _=>.refl) .refl (fun hl=>?_) (fun i hl=>?_)
   ·exact hw _ fun e3=>ej (r.hp.inj n k (.inl hl) (.inl hlk) e3)
   ·exact hw _ (r.hp.vne hlk hl)
 ·have hj:lk .gone (ins k (.rmap e sz es2) s.h) j ≠ .gone:=hj;rw [bB] at hj;by_cases ej:j=k
  ·rw [ej];exact r.hp.sm k hlk
  ·rw [if_neg ej] at hj;exact r.hp.sg j hj
end
structure SA where
 t:TypeId
 k:Nat
 y:List UInt8
 t1:Nat
 t2:Nat
 i0:Nat
 i1:Nat
 i2:Nat
section
variable {P:Program} {ops:Array Oper} {o:Oper} {s:AS} {cl:List (List Nat)} {c:SA} {i:Nat}
def Re (x:Nat) (l:List Nat):Bool:=l.any (Nat.beq x)
def SA.ok (c:SA) (cl:List (List Nat)):Bool:=Re c.i0 (cl.getD c.i1 [])&&Re c.i0 (cl.getD c.i2 [])&&Re c.i1 (cl.getD c.i2 [])&&(!Nat.beq c.i0 c.i1 && !Nat.beq c.i0 c.i2 && !Nat.beq c.i1 c.i2)
end
section
variable {P:Program} {ops:Array Oper} {o:Oper} {s:AS}
theorem Rq {c:Cx P} {a:Act} {w:World} {β:Nat→Nat} {κ:Nat→Nat×Nat} {s:AS} (r:Rel c s a w β κ) {k k':Nat} {e:TypeId} {sz:Nat} {zs:List (List AV)} {s':AS} (h:s.grow k k' e sz zs=some s') (arr:Array Value) (hsz:0<sz)
 (hl:∀ i,i<zs.length→(zs.getD i []).length=sz) (hs:arr.size=zs.length*sz) (hC:zs.length≤maxLen)
 (hG:∀ i j,i<zs.length→j<sz→D w (c.XX s.h β) ((zs.getD i []).getD j .any) (arr.getD (i*sz+j) undef)) :
 ∃ β' κ',Rel c s' (a.put (some k') (.slice (some ⟨w.heap.size,0,none⟩) zs.length zs.length)) (w.alloc (.cells arr e)) β' κ':=by
 by_cases hz:zs=[];case neg=>exact LG r h arr zs.length hz hsz hl hs (Nat.le_refl _) hC hG
 subst hz;unfold AS.grow at h;cases hc:(Nat.blt k' s.n&&Nat.blt k' 1000) with
 | false=>rw [hc] at h;cases h
 | true =>
  rw [hc] at h;cases h;simp only [SY,Nat.blt_eq] at hc;have r':=r.drop2 k k';obtain ⟨m1,m2⟩:=NZ k k' s;have hw:∀ b,b<w.heap.size→(w.alloc (.cells arr e)).heap[b]? = w.heap[b]? := fun b hb=>ir w _ hb;obtain ⟨h1,h2⟩:=r'.hp.anew (w':=w.alloc (.cells arr e)) hc.2 (fun j _=>(m2 j).2) w.heap.size (0,0) (Nat.le_refl _) hw (fJ _ w _ r.Klt) (o:=.row e sz [])
   ⟨by rw [bh];rfl,fun hx=>absurd rfl hx⟩
  refine ⟨upd β k' w.heap.size,upd κ k' (0,0),r.df,by simp [Act.put,r.sz],fun i=>?_,h1⟩;show G _ _ _ _ (lk .any (ins k' (.rslice k') (s.drop2 k k').t) i) _;rw [bB];by_cases hi:i=k'
  ·subst hi;have hi':i<a.tmps.size:=by rw [r.sz];exact hc.1
   have:=G.rslice0 (w:=w.alloc (.cells arr e)) (X:=c.XX (ins i (.row e sz []) (s.drop2 k i).h) (upd β i w.heap.size)) (β:=upd β i w.heap.size) (κ:=upd κ i (0,0)) i (some ⟨w.heap.size,0,none⟩) (by rw [bh]);simpa [Act.put,SZ,Array.getElem?_setIfInBounds,hi'] using this
  ·have:=h2 (r'.tm i) (m1 i).2;rw [if_neg hi];have hne:¬ k'=i:=fun e=>hi e.symm;simpa [Act.put,SZ,Array.getElem?_setIfInBounds,hne] using this
def Pb (P:Program) (e:TypeId):List AV:=match zeroOf P e with
 | some z=>z.cells.toList.map AV.of1
 | none=>[]
def Na (P:Program) (s:AS) (dst:Option Tmp) (N:Nat):Op→Option (List Prop×AS)
 | .makeSlice t l c=>match s.op l,s.op c,dst,jS P t with
  | .int _ n,.int _ m,some k,some (e,sz,by_)=>match s.grow k k e sz (List.replicate N (Pb P e)) with
   | some s'=>some ([n=(N:Int)∧m=(N:Int)∧by_*N≤140737488355328∧N≤9223372036854775807],s')
   | none=>none
  | _,_,_,_=>none
 | _=>none
theorem Vr {N:Nat} {ps:List Prop} {s':AS} (hg:gd ops s o=some true) (h:Na P s o.dst N o.op=some (ps,s')) (hp:∀ p∈ps,p):nL P ops o s (· = s') :=
 cG hg fun c a w β κ r=>by
  unfold Na at h;split at h
  ·rename_i t l c' hop;split at h
   ·rename_i k1 n k2 m k e sz by_ hl hc hd he;split at h
    ·rename_i s2 hs;cases h;obtain ⟨rfl,rfl,hb,hN⟩:=hp _ (List.mem_singleton.2 rfl);obtain ⟨hu,i,z,hi,hz,hsz,hbb,hzs,hs0⟩:=nP he;have hN:N≤maxLen:=hN;subst hbb;subst hsz;have hb':(i.bytes:Int)*(N:Int)≤281474976710656:=by
      have h:((i.bytes*N:Nat):Int)≤281474976710656:=by omega
      rwa [Int.natCast_mul] at h
     have hN':(N:Int)≤9223372036854775807:=by unfold maxLen at hN;omega
     have hr:=run_make (P:=P) (w:=w) t e i z hu hi hz k1 k2 N N (by omega) (Int.le_refl _) hb' hN';simp only [Int.toNat_natCast] at hr;have hzc:Pb P e=z.cells.toList.map AV.of1:=by unfold Pb zeroOf;simp only [hi,hz,S6]
     have hlen:(List.replicate N (Pb P e)).length=N:=by simp
     have hgi:∀ j,j<N→(List.replicate N (Pb P e)).getD j []=Pb P e:=fun j hj=>by simp [SW,hj]
     have hzl:(Pb P e).length=i.size:=by rw [hzc];simp [hzs]
     obtain ⟨β',κ',r'⟩:=Rq r hs (madeCells z.cells (N*i.size)) hs0 (fun j hj=>by rw [hgi j (by rwa [hlen] at hj),hzl]) (by rw [size_madeCells,hlen]) (by rw [hlen];exact hN) (fun j q hj hq=>by
      rw [hlen] at hj;rw [hgi j hj,hzc];have hq2:q<z.cells.size:=by rw [hzs];exact hq
      have hjq:j*i.size+q<N*i.size:=by have:(j+1)*i.size≤N*i.size:=Nat.mul_le_mul_right _ hj;rw [Nat.add_mul] at this;omega
      have e1:(madeCells z.cells (N*i.size)).getD (j*i.size+q) undef=z.cells[q]:=by
       have hm:(j*i.size+q) % z.cells.size=q:=by rw [hzs,Nat.mul_comm,Nat.mul_add_mod,Nat.mod_eq_of_lt hq]
       simp [madeCells,SZ,hjq,hm,getElem!_pos,hq2]
      have e2:(z.cells.toList.map AV.of1).getD q .any=AV.of1 z.cells[q]:=by simp [SW,hq2]
      rw [e1,e2];exact D.of1 w _ _)
     rw [hlen] at r';refine ⟨_,_,β',κ',.inl ?_,by rw [hd];exact r'⟩;have el:a.eval l = .int k1 (N:Int):=by have:=r.op l;rw [hl] at this;exact this.int_inv
     have ec:a.eval c' = .int k2 (N:Int):=by have:=r.op c';rw [hc] at this;exact this.int_inv
     simp only [execOp,hop,el,ec];show ((Instr.makeSlice t (.int k1 (N:Int)) (.int k2 (N:Int))) >>= fun x=>pure (Next.value x)).run P w=_;rw [Sem.run_bind,hr];rfl
    ·cases h
   ·cases h
  ·cases h
theorem Km {α:Type} (c:α→List AV) (d:α) (N:Nat) (e:TypeId) (sz:Nat) {z:List AV} (h:z=c d):AO.row e sz (List.replicate N z) = .row e sz ((List.replicate N d).map c):=by rw [h,List.map_replicate]
end
inductive q9 where
 | v
 | e (v:AV)
 | s
 | c (fl:Bool) (v:AV)
 | b
 | m
 | ap
 | fz (k:Nat)
 | cq (v:AV)
 | mk (N:Nat)
 | er (t k:Nat) (e:TypeId) (sz:Nat)
 | w
 | cf (fl:Bool) (v:AV)
 | cw (fl:Bool) (pl:List (Nat×List (Nat×Nat))) (v:AV)
 | wk (t:Nat) (p:List (Nat×Nat))
 | rwH (k:Nat) (ob:AO)
 | rl (n j:Nat) (v:AV)
 | rs (n j:Nat)
 | hM (ps ds:List (Nat×Nat)) (v:AV) (h1:List (Nat×AO))
 | hR (ps:List (Nat×Nat)) (d:Nat) (v:AV) (h1:List (Nat×AO))
 | gb (c:Bool) (n:Nat) (ds:List q9)
 | cb (l:List UInt8)
def cQ:List Prop→Prop
 | []=>True
 | [p]=>p
 | p::ps=>p∧cQ ps
theorem cQ.cons {p:Prop} {ps:List Prop}:cQ (p::ps)↔p∧cQ ps:=by
 cases ps with
 | nil=>simp [cQ]
 | cons q qs=>rfl
theorem cQ.mem {ps:List Prop} (h:cQ ps):∀ p∈ps,p:=by
 induction ps with
 | nil=>intro p hp;cases hp
 | cons q qs ih =>
  obtain ⟨h1,h2⟩:=cQ.cons.1 h;intro p hp;rcases List.mem_cons.1 hp with rfl | hp
  ·exact h1
  ·exact ih h2 p hp
theorem cQ.append {ps qs:List Prop}:cQ (ps++qs)↔cQ ps∧cQ qs:=by
 induction ps with
 | nil=>simp [cQ]
 | cons p ps ih=>rw [List.cons_append,cQ.cons,cQ.cons,ih,and_assoc]
def asks:Op→Bool
 | .unOp _ _ _=>true
 | .binOp op _ _ _ _=>match op with | .add | .sub | .mul | .quo | .rem=>true | _=>false
 | .slice _ _ _ _ _=>true
 | .index _ _ _=>true
 | .indexAddr _ _ _=>true
 | .call _=>true
 | .convert _ _ _=>true
 | _=>false
def Nd:Op→Bool
 | .binOp .quo _ _ _ _=>true
 | .index _ _ _=>true
 | _=>false
def PZ (op:Op) (p:Prop):List Prop:=if Nd op then [p] else []
def Sy (op:Op) (p:Prop):List Prop:=if asks op then [p] else []
section
variable {P:Program} {ops:Array Oper} {o:Oper} {s s':AS}
theorem CJ {p q:Prop} {u v:AV} (hq:q) (h:some (q,u)=some (p,v)):p:=by cases h;exact hq
theorem Mg {op:BinOp} {k:IntKind} {a b:Int} {p:Prop} {v:AV} (ha:(match op with | .add | .sub | .mul | .quo | .rem=>true | _=>false)=false) (h:D0 op k a b=some (p,v)):p:=by cases op<;>simp only [D0,reduceCtorEq] at h ha<;>first | exact CJ trivial h | cases h
theorem MJ {op:BinOp} {a b:List UInt8} {p:Prop} {v:AV} (ha:(match op with | .add | .sub | .mul | .quo | .rem=>true | _=>false)=false) (h:KL op a b=some (p,v)):p:=by cases op<;>simp only [KL,reduceCtorEq] at h ha<;>first | exact CJ trivial h | cases h
theorem LS {op:BinOp} {t:TypeId} {x y:Operand} {p:Prop} {v:AV} (ha:(match op with | .add | .sub | .mul | .quo | .rem=>true | _=>false)=false) (h:Vp P s op t x y=some (p,v)):p:=by
 unfold Vp at h;split at h
 ·split at h
  ·exact Mg ha h
  ·cases h
 ·exact MJ ha h
 ·split at h
  ·split at h<;>first | exact CJ trivial h | cases h
  ·cases h
 ·split at h
  ·split at h<;>first | exact CJ trivial h | cases h
  ·cases h
 ·split at h
  ·split at h<;>first | exact CJ trivial h | cases h
  ·cases h
 ·cases h
theorem LZ {op:Op} {p:Prop} {v:AV} (ha:asks op=false) (h:j5 P s op=some (p,v)):p:=by
 unfold j5 at h;split at h;case h_9=>exact LS ha h
 all_goals first
  | exact CJ trivial h
  | (cases ha;done)
  | ((repeat' split at h)<;>first | exact CJ trivial h | (cases h;done))
theorem Jh {op:Op} {p:Prop} {v:AV} (h:j5 P s op=some (p,v)) (hp:cQ (Sy op p)):p:=by
 unfold Sy at hp;cases ha:asks op with
 | true=>rw [ha] at hp;exact hp
 | false=>exact LZ ha h
theorem Nh {op:Op} {p:Prop} {v:AV} (ha:Nd op=false) (h:KY P s op=some (p,v)):p:=by
 unfold KY at h;split at h
 ·split at h
  ·repeat' split at h
   all_goals first | exact CJ trivial h | cases h
  ·split at h
   ·exact CJ trivial h
   ·exact CJ trivial h
   ·exact CJ trivial h
   ·cases ha
   ·cases h
  ·cases h
 ·split at h
  ·exact CJ trivial h
  ·cases h
 ·cases ha
 ·cases h
theorem Gp {op:Op} {p:Prop} {v:AV} (h:KY P s op=some (p,v)) (hp:cQ (PZ op p)):p:=by
 unfold PZ at hp;cases ha:Nd op with
 | true=>rw [ha] at hp;exact hp
 | false=>exact Nh ha h
def N8 (s:AS) (dst:Option Tmp):Bool:=match dst with | none=>true | some t=>Nat.blt t s.n
theorem cK {dst:Option Tmp} (h:N8 s dst=true) (v:AV):s.put dst v=some ((dw.put dst v).app s):=by
 cases dst with
 | none=>rfl
 | some t=>simp only [N8] at h;simp only [AS.put,h];rfl
def Dv (fl:Bool) (s:AS) (ar:Array Operand) (caps:List AV):Option (List AV) :=if fl then (if AV.flL (s.args ar caps) then some (s.args ar caps) else none) else some ((s.args ar caps).map (AV.vw s.h))
def QF (P:Program) (s:AS) (op:Op) (fl:Bool) (v:AV):Option (List Prop) :=
 match op with
 | .call ⟨.value x,ar,_⟩=>match s.op x with
  | .fn f caps=>match Dv fl s ar caps with
   | some args=>bif Ev fl v then some [Go.Proofs.Enters P f,bH P f args [] fun r _=>r=v] else none
   | none=>none
  | _=>none
 | _=>none
def OI (P:Program) (s:AS) (op:Op) (fl:Bool) (v:AV):Option (List Prop) :=
 match op with
 | .call ⟨.value x,ar,_⟩=>match s.op x with
  | .fn f caps=>match Dv fl s ar caps with
   | some args=>some [Go.Proofs.Enters P f,bH P f args [] (fun r _=>r=v),Ev fl v=true]
   | none=>none
  | _=>none
 | _=>none
def OJ (P:Program) (s:AS) (op:Op) (fl:Bool) (pl:List (Nat×List (Nat×Nat))) (v:AV):Option (List Prop) :=
 match op with
 | .call ⟨.value x,ar,_⟩=>match s.op x with
  | .fn f caps=>match Dv fl s ar caps with
   | some args=>bif Ev fl v then some [Go.Proofs.Enters P f,bH P f (Bw pl args) [] fun r _=>r=v] else none
   | none=>none
  | _=>none
 | _=>none
def iA (P:Program) (s:AS):Op→Option AV
 | .build t ps=>Dh P t (s.parts ps)
 | .buildSlice t len ps=>dy P t len (s.parts ps)
 | _=>none
def OR (P:Program) (s:AS) (n j:Nat):Op→Option (Prop×AV)
 | .load t x=>Cl P s t (s.op x) n j
 | _=>none
def KQ (P:Program) (s:AS) (dst:Option Tmp) (n j:Nat):Op→Option (Prop×AS)
 | .store t x y=>match dst with | none=>Vj P s t (s.op x) (s.op y) n j | some _=>none
 | _=>none
theorem HM {n j:Nat} {p:Prop} (hg:gd ops s o=some true) (h:KQ P s o.dst n j o.op=some (p,s')) (hp:p):nL P ops o s (· = s'):=by
 unfold KQ at h;split at h
 ·rename_i t x y hop;split at h
  ·rename_i hd;exact My hg hop hd h hp
  ·cases h
 ·cases h
def Wi (P:Program) (s:AS) (op:Op) (l:List UInt8):Option (List Prop) :=
 match op with
 | .convert src dst x=>match KS P src with
  | some e=>match O2 P e with
   | some .u8=>bif isStr P dst && !l.isEmpty then some [s.op x = .dslice (l.map zG)] else none
   | _=>none
  | none=>none
 | _=>none
theorem WB {src dst e:TypeId} {x:Operand} (hg:gd ops s o=some true) (hop:o.op = .convert src dst x) (hs:KS P src=some e) (he:O2 P e=some .u8) (hd:isStr P dst=true) {l:List UInt8} (hn:l≠[]) (hx:s.op x = .dslice (l.map zG)) {s1:AS} (h:s.put o.dst (.str l)=some s1):Loc P ops o s (.put o.dst (.str l)) :=
 oG rfl h fun s' ha s2 h2'=>Ww (by rw [cR ha];exact hg) hop hs he hd hn (by rw [bN ha (by simp [hop,Op.operands]),hx]) h2'
def Fp (b:Bool):Option Bool→Bool
 | some c=>c==b
 | none=>false
theorem cA {b:Bool} {x:Option Bool} (h:Fp b x=true):x=some b:=by
 cases x with
 | none=>cases h
 | some c=>simp only [Fp,beq_iff_eq] at h;rw [h]
def Ju (P:Program) (ops:Array Oper) (s:AS) (o:Oper) (d:q9):Option (List Prop×AV) :=
 bif N8 s o.dst then (match d with
 | .s=>bif Fp false (gd ops s o) then some ([],.tup []) else none
 | .v=>bif Fp true (gd ops s o) then (match j5 P s o.op with | some (p,v)=>some (Sy o.op p,v) | none=>none) else none
 | .e v'=>bif Fp true (gd ops s o) then (match j5 P s o.op with | some (p,v)=>some (Sy o.op p++[v=v'],v') | none=>none) else none
 | .c fl v=>bif Fp true (gd ops s o) then (match QF P s o.op fl v with | some ps=>some (ps,v) | none=>none) else none
 | .cf fl v=>bif Fp true (gd ops s o) then (match OI P s o.op fl v with | some ps=>some (ps,v) | none=>none) else none
 | .cb l=>bif Fp true (gd ops s o) then (match Wi P s o.op l with | some ps=>some (ps,.str l) | none=>none) else none
 | .b=>bif Fp true (gd ops s o) then (match iA P s o.op with | some v=>some ([],v) | none=>none) else none
 | .rl n j v'=>bif Fp true (gd ops s o) then (match OR P s n j o.op with | some (p,v)=>some ([p,v=v'],v') | none=>none) else none
 | .w=>bif Fp true (gd ops s o) then (match KY P s o.op with | some (p,v)=>some (PZ o.op p,v) | none=>none) else none
 | .cw fl pl v=>bif Fp true (gd ops s o) then (match OJ P s o.op fl pl v with | some ps=>some (ps,v) | none=>none) else none
 | _=>none) else none
theorem bif_some {α:Type} {b:Bool} {x:Option α} {y:α} (h:(bif b then x else none)=some y):b=true∧x=some y:=by
 cases b with
 | true=>exact ⟨rfl,h⟩
 | false=>cases h
theorem Cq {d:q9} {ps:List Prop} {v:AV} (h:Ju P ops s o d=some (ps,v)) (hp:cQ ps):Loc P ops o s (.put o.dst v):=by
 unfold Ju at h;obtain ⟨hd,h⟩:=bif_some h;cases d;case s =>
  obtain ⟨hg,h⟩:=bif_some h;cases h;exact NW (cA hg) (cK hd _)
 case v =>
  obtain ⟨hg,h⟩:=bif_some h;split at h
  ·rename_i p v' hv;cases h;exact Lr (cA hg) hv (Jh hv hp) (cK hd _)
  ·cases h
 case e v0 =>
  obtain ⟨hg,h⟩:=bif_some h;split at h
  ·rename_i p v' hv;cases h;obtain ⟨h1,h2⟩:=cQ.append.1 hp;have h3:v'=v:=h2;subst h3;exact Lr (cA hg) hv (Jh hv h1) (cK hd _)
  ·cases h
 case c fl v0 =>
  obtain ⟨hg,h⟩:=bif_some h;split at h
  ·rename_i ps' hs;simp only [S9,Prod.mk.injEq] at h;obtain ⟨h1,h2⟩:=h;subst h1;subst h2;unfold QF at hs;split at hs
   ·rename_i x ar tys hop;split at hs
    ·rename_i f caps hx;split at hs
     ·rename_i args ha;obtain ⟨hr,hs⟩:=bif_some hs;cases hs;exact Ei hp.1 (cA hg) hop hx _ ha hp.2 hr (cK hd _)
     ·cases hs
    ·cases hs
   ·cases hs
  ·cases h
 case cf fl v0 =>
  obtain ⟨hg,h⟩:=bif_some h;split at h
  ·rename_i ps' hs;simp only [S9,Prod.mk.injEq] at h;obtain ⟨h1,h2⟩:=h;subst h1;subst h2;unfold OI at hs;split at hs
   ·rename_i x ar tys hop;split at hs
    ·rename_i f caps hx;split at hs
     ·rename_i args ha;cases hs;exact Ei hp.1 (cA hg) hop hx _ ha hp.2.1 hp.2.2 (cK hd _)
     ·cases hs
    ·cases hs
   ·cases hs
  ·cases h
 case cb l =>
  obtain ⟨hg,h⟩:=bif_some h;split at h
  ·rename_i ps' hs;simp only [S9,Prod.mk.injEq] at h;obtain ⟨h1,h2⟩:=h;subst h1;subst h2;unfold Wi at hs;split at hs
   ·rename_i src dst x hop;split at hs
    ·rename_i e hsl;split at hs
     ·rename_i he;obtain ⟨hb,hs⟩:=bif_some hs;rw [SY] at hb;cases hs;exact WB (cA hg) hop hsl he hb.1 (by intro e;rw [e] at hb;simp at hb) hp (cK hd _)
     ·cases hs
    ·cases hs
   ·cases hs
  ·cases h
 case rl n j v0 =>
  obtain ⟨hg,h⟩:=bif_some h;split at h
  ·rename_i p v' hv;cases h;obtain ⟨h1,h2⟩:=hp;have h3:v'=v:=h2;subst h3;unfold OR at hv;split at hv
   ·rename_i t x hop;exact Mq (cA hg) hop hv h1 (cK hd _)
   ·cases hv
  ·cases h
 case w =>
  obtain ⟨hg,h⟩:=bif_some h;split at h
  ·rename_i p v' hv;cases h;exact NX (cA hg) hv (Gp hv hp) (cK hd _)
  ·cases h
 case cw fl pl v0 =>
  obtain ⟨hg,h⟩:=bif_some h;split at h
  ·rename_i ps' hs;simp only [S9,Prod.mk.injEq] at h;obtain ⟨h1,h2⟩:=h;subst h1;subst h2;unfold OJ at hs;split at hs
   ·rename_i x ar tys hop;split at hs
    ·rename_i f caps hx;split at hs
     ·rename_i args ha;obtain ⟨hr,hs⟩:=bif_some hs;cases hs;exact Ei hp.1 (cA hg) hop hx _ ha hp.2.wk hr (cK hd _)
     ·cases hs
    ·cases hs
   ·cases hs
  ·cases h
 case b =>
  obtain ⟨hg,h⟩:=bif_some h;split at h
  ·rename_i v' hs;cases h;unfold iA at hs;split at hs
   ·rename_i t parts hop;exact Ml (cA hg) hop hs (cK hd _)
   ·rename_i t len parts hop;exact Eh (cA hg) hop hs (cK hd _)
   ·cases hs
  ·cases h
 all_goals cases h
def OS (P:Program) (ops:Array Oper) (s:AS) (o:Oper) (d:q9):Option (List Prop×dw) :=
 match d with
 | .m=>bif Fp true (gd ops s o) then (match OL P s o.dst o.op with | some e=>some ([],e) | none=>none) else none
 | d=>match Ju P ops s o d with
  | some (p,v)=>some (p,.put o.dst v)
  | none=>none
theorem VG {d:q9} {ps:List Prop} {e:dw} (h:OS P ops s o d=some (ps,e)) (hp:cQ ps):Loc P ops o s e:=by
 have hE:(match Ju P ops s o d with | some (p,v)=>some (p,dw.put o.dst v) | none=>none)=some (ps,e)→Loc P ops o s e:=fun h=>by
  split at h
  ·rename_i p v hv;cases h;exact Cq hv hp
  ·cases h
 unfold OS at h;cases d;case m =>
  obtain ⟨hg,h⟩:=bif_some h;split at h
  ·rename_i e' he;cases h;exact Jv (cA hg) he
  ·cases h
 all_goals exact hE h
def apps:List dw→AS→AS
 | [],s=>s
 | e::es,s=>apps es (e.app s)
theorem BG:∀ (es fs:List dw) (s:AS),apps (es++fs) s=apps fs (apps es s)
 | [],_,_=>rfl
 | e::es,fs,s=>BG es fs (e.app s)
theorem lG.append:∀ {os:List Oper} {es:List dw} {s s1:AS} {os2:List Oper} {es2:List dw} {s2:AS},lG P ops os es s s1→lG P ops os2 es2 s1 s2→lG P ops (os++os2) (es++es2) s s2
 | [],[],_,_,_,_,_,h,h2=>by cases h;exact h2
 | [],_::_,_,_,_,_,_,h,_=>h.elim
 | _::_,[],_,_,_,_,_,h,_=>h.elim
 | _::_,_::_,_,_,_,_,_,h,h2=>⟨h.1,lG.append h.2 h2⟩
theorem xJ.same {s1 s2 s':AS} (e:kq s1 s2) (h:xJ ops o s2 s'):xJ ops o s1 s':=⟨h.n.trans e.n,fun t ht=>(h.t t ht).trans (e.t t),fun hm x hx k hk=>(h.h hm x hx k (by
 have:s2.op x=s1.op x:=by cases x with | tmp t=>exact e.t t | _=>rfl
 rw [this];exact hk)).trans (e.h k)⟩
theorem Loc.same {s1 s2:AS} {e:dw} (h:Loc P ops o s1 e) (q:kq s1 s2):Loc P ops o s2 e:=fun s' ha hf hx=>h s' (ha.same q) hf hx
theorem kq.app {s1 s2:AS} (q:kq s1 s2) (e:dw):kq (e.app s1) (e.app s2):=⟨q.n,fun i=>by simp only [dw.app,gq,q.t],fun k=>by simp only [dw.app,gq,q.h]⟩
theorem lG.same:∀ {os:List Oper} {es:List dw} {s1 s2 x:AS},lG P ops os es s1 x→kq s1 s2→lG P ops os es s2 (apps es s2)
 | [],[],_,_,_,_,_=>rfl
 | [],_::_,_,_,_,h,_=>h.elim
 | _::_,[],_,_,_,h,_=>h.elim
 | _::_,e::_,_,_,_,h,q=>⟨h.1.same q,lG.same h.2 (q.app e)⟩
def Qa (s:AS) (t:Nat) (b:Bool):AS:=⟨s.n,ins t (.bool b) s.t,s.h⟩
def Sv (pol b:Bool):AV→AV→AV
 | .bool x,.bool y=>.bool (bif pol then (bif b then x else y) else (bif b then y else x))
 | v,w=>bif pol then (bif b then v else w) else (bif b then w else v)
theorem N1 (pol:Bool) (v w:AV):Sv pol pol v w=v∧Sv pol (!pol) v w=w:=by unfold Sv;split<;>cases pol<;>exact ⟨rfl,rfl⟩
def Su (pol b:Bool):List dw→List dw→Option (List dw)
 | [],[]=>some []
 | ⟨[(t,v)],[],[],[]⟩::es,⟨[(u,w)],[],[],[]⟩::fs=>bif Nat.beq t u then (match Su pol b es fs with | some r=>some (⟨[(t,Sv pol b v w)],[],[],[]⟩::r) | none=>none) else none
 | _,_=>none
theorem N0 {pol b:Bool}:∀ {es fs r:List dw},Su pol b es fs=some r→(b=pol→r=es)∧(b = !pol→r=fs)∧∀ e∈r,e.fr=[]∧e.ex=[]
 | [],[],r,h=>by cases h;exact ⟨fun _=>rfl,fun _=>rfl,fun e he=>by cases he⟩
 | ⟨[(t,v)],[],[],[]⟩::es,⟨[(u,w)],[],[],[]⟩::fs,r,h=>by
  unfold Su at h;have h9:=bif_some h;clear h;obtain ⟨ht,h⟩:=h9;have ht:=Nat.eq_of_beq_eq_true ht;subst ht;split at h
  ·rename_i r' hr;cases h;obtain ⟨h1,h2,h3⟩:=N0 hr;refine ⟨fun q=>?_,fun q=>?_,fun e he=>?_⟩
   ·rw [h1 q,q,(N1 pol v w).1]
   ·rw [h2 q,q,(N1 pol v w).2]
   ·rcases List.mem_cons.1 he with rfl | he
    ·exact ⟨rfl,rfl⟩
    ·exact h3 e he
  ·cases h
def QE:List Oper→List q9
 | []=>[]
 | [_]=>[.v]
 | _::os=>.s::QE os
def impl (c pol b:Bool) (ps:List Prop):List Prop:=bif c then [b=pol→cQ ps] else ps
def QZ (ops:Array Oper) (s:AS) (o:Oper):Option (Nat×Bool×Bool):=match o.guard with
 | some (j,pol)=>(match (match ops[j]? with | some x=>x.dst | none=>none) with
  | some t=>(match lk .any s.t t with | .bool b=>some (t,pol,b) | _=>none)
  | none=>none)
 | none=>none
theorem L2 {t:Nat} {pol b:Bool} (h:QZ ops s o=some (t,pol,b)):lk .any s.t t = .bool b:=by
 unfold QZ at h;split at h
 ·split at h
  ·split at h
   ·rename_i hb;cases h;exact hb
   ·cases h
  ·cases h
 ·cases h
def Ph (c:Bool) (ops:Array Oper) (run:List Oper→List q9→AS→Option (List Prop×List dw)) (ds:List q9) (s:AS):List Oper→Option (List Prop×List dw)
 | []=>none
 | o::os=>match QZ ops s o with
  | some (t,pol,b)=>(match run (o::os) ds (Qa s t pol),run (o::os) (QE (o::os)) (Qa s t (!pol)) with
   | some (ps,es),some ([],fs)=>(match Su pol b es fs with | some r=>some (impl c pol b ps,r) | none=>none)
   | _,_=>none)
  | none=>none
def M4 (P:Program) (ops:Array Oper) (run:List Oper→List q9→AS→Option (List Prop×List dw)):Prop:=∀ {os:List Oper} {ds:List q9} {s:AS} {ps:List Prop} {es:List dw},run os ds s=some (ps,es)→cQ ps→lG P ops os es s (apps es s)
theorem Gs {t:Nat} {b:Bool} (h:lk .any s.t t = .bool b):kq (Qa s t b) s:=⟨rfl,fun i=>by
 unfold Qa;rw [bB];split
 ·rename_i q;rw [q,h]
 ·rfl,fun _=>rfl⟩
theorem Dr {run:List Oper→List q9→AS→Option (List Prop×List dw)} (hr:M4 P ops run) {os:List Oper} {ds:List q9} {ps:List Prop} {es:List dw} {c:Bool} (h:Ph c ops run ds s os=some (ps,es)) (hp:cQ ps):lG P ops os es s (apps es s)∧∀ e∈es,e.fr=[]∧e.ex=[]:=by
 cases os with
 | nil=>cases h
 | cons o os =>
  simp only [Ph] at h;split at h
  ·rename_i t pol b hg;split at h
   ·rename_i ps1 es1 fs1 h1 h2;split at h
    ·rename_i r hm;simp only [S9,Prod.mk.injEq] at h;obtain ⟨q1,q2⟩:=h;subst q1;subst q2;obtain ⟨m1,m2,m3⟩:=N0 hm;refine ⟨?_,m3⟩;have hb:=L2 hg;by_cases hq:b=pol
     ·rw [m1 hq];rw [hq] at hb;refine (hr h1 ?_).same (Gs hb);cases c with
      | false=>exact hp
      | true=>exact hp hq
     ·have hq:b = !pol:=by cases b<;>cases pol<;>first | rfl | exact absurd rfl hq
      rw [m2 hq];rw [hq] at hb;exact (hr h2 trivial).same (Gs hb)
    ·cases h
   ·cases h
  ·cases h
def KH (P:Program) (ops:Array Oper) (run:List Oper→List q9→AS→Option (List Prop×List dw)):List q9→List Oper→AS→Option (List Prop×List dw)
 | [],[],_=>some ([],[])
 | .gb c n d1::ds,os,s=>match Ph c ops run d1 s (os.take n) with
  | some (p,e)=>(match KH P ops run ds (os.drop n) (apps e s) with
   | some (ps,es)=>some (p++ps,e++es)
   | none=>none)
  | none=>none
 | d::ds,o::os,s=>match OS P ops s o d with
  | some (p,e)=>(match KH P ops run ds os (e.app s) with
   | some (ps,es)=>some (p++ps,e::es)
   | none=>none)
  | none=>none
 | _,_,_=>none
theorem zp {run:List Oper→List q9→AS→Option (List Prop×List dw)} (hr:M4 P ops run):∀ {ds:List q9} {os:List Oper} {s:AS} {ps:List Prop} {es:List dw},KH P ops run ds os s=some (ps,es)→cQ ps→lG P ops os es s (apps es s)
 | [],[],s,ps,es,h,hp=>by simp only [KH] at h;cases h;rfl
 | [],_::_,s,ps,es,h,hp=>by simp only [KH] at h;cases h
 | d::ds,os,s,ps,es,h,hp=>by
  unfold KH at h;split at h
  ·rename_i ho;cases ho
  ·rename_i c n d1 ds' os' s' hd;cases hd;split at h
   ·rename_i p e hb;split at h
    ·rename_i ps' es' h2;simp only [S9,Prod.mk.injEq] at h;obtain ⟨q1,q2⟩:=h;subst q1;subst q2;obtain ⟨p1,p2⟩:=cQ.append.1 hp;have c1:=(Dr hr hb p1).1;have c2:=zp hr h2 p2;rw [BG];have c3:=c1.append c2;rw [List.take_append_drop] at c3;exact c3
    ·cases h
   ·cases h
  ·rename_i d' ds' o' os' s' hn hd;cases hd;split at h
   ·rename_i p e hv;split at h
    ·rename_i ps' es' h2;simp only [S9,Prod.mk.injEq] at h;obtain ⟨q1,q2⟩:=h;subst q1;subst q2;obtain ⟨p1,p2⟩:=cQ.append.1 hp;exact ⟨VG hv p1,zp hr h2 p2⟩
    ·cases h
   ·cases h
  ·cases h
def runK (P:Program) (ops:Array Oper):Nat→List Oper→List q9→AS→Option (List Prop×List dw)
 | 0,_,_,_=>none
 | k+1,os,ds,s=>KH P ops (runK P ops k) ds os s
theorem zq:∀ (k:Nat),M4 P ops (runK P ops k)
 | 0=>fun h _=>by cases h
 | k+1=>fun h hp=>zp (zq k) h hp
def Sq (P:Program) (ops:Array Oper) (os:List Oper) (ds:List q9) (s:AS):Option (List Prop×List dw):=runK P ops 5 os ds s
theorem KG {os:List Oper} {ds:List q9} {s:AS} {ps:List Prop} {es:List dw} (h:Sq P ops os ds s=some (ps,es)) (hp:cQ ps):lG P ops os es s (apps es s):=zq 5 h hp
theorem Loc.op {e:dw} (h:Loc P ops o s e) (hf:e.fr=[]) (hx:e.ex=[]):nL P ops o s (fun s''=>kq (e.app s) s'') :=
 h s ⟨rfl,fun _ _=>rfl,fun _ _ _ _ _=>rfl⟩ (fun k hk=>by rw [hf] at hk;cases hk) (fun p hp=>by rw [hx] at hp;cases hp)
def OM (P:Program) (s:AS) (dst:Option Tmp):Op→Option AS
 | .box t x=>match dst with | some k=>Gz s t (s.op x) k | none=>none
 | .alloc t=>match dst,zeroOf P t with | some k,some z=>Gz s t (AV.of z) k | _,_=>none
 | .store t x y=>match dst with | none=>AP P s t (s.op x) (s.op y) | some _=>none
 | .makeMap t none=>match dst with | some k=>Dl P s t k | none=>none
 | .mapUpdate t m x y=>match dst with | none=>FU P s t (s.op m) (s.op x) (s.op y) | some _=>none
 | .insert t m x y=>match dst with | none=>FU P s t (s.op m) (s.op x) (s.op y) | some _=>none
 | .range t m=>match dst with
  | some k=>match JU P s t (s.op m) k with
   | some s'=>some s'
   | none=>GL P s t (s.op m) k
  | none=>none
 | .next it false=>match JT s (s.op it) with
  | some v=>s.put dst v
  | none=>none
 | op=>match Bt P s op with | some v=>s.put dst v | none=>none
theorem Jw (hg:gd ops s o=some true) (h:OM P s o.dst o.op=some s'):nL P ops o s (· = s'):=by
 unfold OM at h;split at h
 ·rename_i t x hop;split at h
  ·rename_i k hd;exact N9 hg hop hd h
  ·cases h
 ·rename_i t hop;split at h
  ·rename_i k z hd hz;exact I8 hg hop hd hz h
  ·cases h
 ·rename_i t x y hop;split at h
  ·rename_i hd;exact VB hg hop hd h
  ·cases h
 ·rename_i t hop;split at h
  ·rename_i k hd;exact Ku hg hop hd h
  ·cases h
 ·rename_i t m x y hop;split at h
  ·rename_i hd;exact PQ hg hop hd h
  ·cases h
 ·rename_i t m x y hop;split at h
  ·rename_i hd;exact PO hg hop hd h
  ·cases h
 ·rename_i t m hop;split at h
  ·rename_i k hd;split at h
   ·rename_i h2;cases h;exact Ol hg hop hd h2
   ·exact Mx hg hop hd h
  ·cases h
 ·rename_i it hop;split at h
  ·rename_i v hv;exact Oj hg hop hv h
  ·cases h
 ·split at h
  ·exact Ij hg (by assumption) h
  ·cases h
def Vn (P:Program) (s:AS) (dst:Option Tmp) (ps:List (Nat×Nat)) (d:Nat) (v:AV) (h1:List (Nat×AO)) (f:FuncId) (args0:List AV):Option (List Prop×AS) :=
 bif uo ps&&(ps.all fun p=>Nat.ble 1000 p.2&&(Nat.blt p.2 1000000&&Nat.blt p.1 1000000))&&(rk ps d).isNone&&Nat.blt d 1000&&(s.noR||(ps.isEmpty && !(lk .gone h1 0).isR)) then (match AS.put ⟨s.n,vl d s.t,nN ps d h1 s.h⟩ dst (AV.ren ((0,d)::swp ps) v) with
  | some s'=>some ([Go.Proofs.Enters P f,bH P f (args0.map (AV.ren ps)) (hand ps s.h) fun r h'=>r=v∧h'=h1],s')
  | none=>none) else none
def OQ (P:Program) (s:AS) (dst:Option Tmp) (ps:List (Nat×Nat)) (d:Nat) (v:AV) (h1:List (Nat×AO)):Op→Option (List Prop×AS)
 | .call ⟨.value x,ar,_⟩=>match s.op x with
  | .fn f caps=>Vn P s dst ps d v h1 f (s.args ar caps)
  | .bm f k off=>Vn P s dst ps d v h1 f (AV.hptr k off::s.args ar [])
  | _=>none
 | _=>none
theorem Jz {ps:List (Nat×Nat)} {d:Nat} {v:AV} {h1:List (Nat×AO)} {qs:List Prop} (hg:gd ops s o=some true) (h:OQ P s o.dst ps d v h1 o.op=some (qs,s')) (hp:cQ qs):nL P ops o s (· = s'):=by
 have key:∀ {f:FuncId} {args0:List AV} {x:Operand} {ar:Array Operand} {tys:Array TypeId},o.op = .call ⟨.value x,ar,tys⟩→(Go.Proofs.Enters P f→∀ (c:Cx P) a w β κ,Rel c s a w β κ→∃ vs:Array Value,(execOp a.eval o).run P w = .ok (.enter f vs) w∧vs.size=args0.length∧∀ i,i<args0.length→G w (c.XX s.h β) β κ (args0.getD i .any) (vs.toList.getD i undef))→Vn P s o.dst ps d v h1 f args0=some (qs,s')→nL P ops o s (· = s'):=by
  intro f args0 x ar tys hop hx h;unfold Vn at h;obtain ⟨hc0,h2⟩:=bif_some h;rw [SY] at hc0;obtain ⟨hc,hor⟩:=hc0;have hor:s.noR=true∨(ps=[]∧∀ v2 h',(v2=v∧h'=h1)→(lk .gone h' 0).isR=false):=by rw [Bool.or_eq_true,SY] at hor;refine hor.imp id fun h=>⟨by simpa using h.1,fun v2 h' e=>?_⟩;rw [e.2];simpa using h.2
  split at h2
  ·rename_i s2 hs;simp only [S9,Prod.mk.injEq] at h2;obtain ⟨h3,h4⟩:=h2;subst h3;subst h4;exact I9 hp.1 hg hop (hx hp.1) ps d hc hor rfl rfl hp.2 fun r h' hr=>by obtain ⟨rfl,rfl⟩:=hr;exact ⟨_,hs,rfl⟩
  ·cases h2
 unfold OQ at h;split at h
 ·rename_i x ar tys hop;split at h
  ·rename_i f caps hx;exact key hop (fun he=>GU he hop hx) h
  ·rename_i f k off hx;exact key hop (fun he=>K3 he hop hx) h
  ·cases h
 ·cases h
def HG (P:Program) (s:AS) (dst:Option Tmp) (ps ds:List (Nat×Nat)) (v:AV) (h1:List (Nat×AO)) (f:FuncId) (args0:List AV):Option (List Prop×AS) :=
 bif (uo ps&&(ps.all fun p=>Nat.ble 1000 p.2&&(Nat.blt p.2 1000000&&Nat.blt p.1 1000000))&&uo ds&&ds.all fun p=>(rk ps p.2).isNone&&(Nat.blt p.1 1000&&Nat.blt p.2 1000))&&(s.noR||(ps.isEmpty&&h1.all fun p=>!p.2.isR)) then (match AS.put ⟨s.n,Mz ds s.t,p6 ps ds h1 s.h⟩ dst (AV.ren (ds++swp ps) v) with
  | some s'=>some ([Go.Proofs.Enters P f,bH P f (args0.map (AV.ren ps)) (hand ps s.h) fun r h'=>r=v∧h'=h1],s')
  | none=>none) else none
def KO (P:Program) (s:AS) (dst:Option Tmp) (ps ds:List (Nat×Nat)) (v:AV) (h1:List (Nat×AO)):Op→Option (List Prop×AS)
 | .call ⟨.value x,ar,_⟩=>match s.op x with
  | .fn f caps=>HG P s dst ps ds v h1 f (s.args ar caps)
  | .bm f k off=>HG P s dst ps ds v h1 f (AV.hptr k off::s.args ar [])
  | _=>none
 | _=>none
theorem Vm {ps ds:List (Nat×Nat)} {v:AV} {h1:List (Nat×AO)} {qs:List Prop} (hg:gd ops s o=some true) (h:KO P s o.dst ps ds v h1 o.op=some (qs,s')) (hp:cQ qs):nL P ops o s (· = s'):=by
 have key:∀ {f:FuncId} {args0:List AV} {x:Operand} {ar:Array Operand} {tys:Array TypeId},o.op = .call ⟨.value x,ar,tys⟩→(Go.Proofs.Enters P f→∀ (c:Cx P) a w β κ,Rel c s a w β κ→∃ vs:Array Value,(execOp a.eval o).run P w = .ok (.enter f vs) w∧vs.size=args0.length∧∀ i,i<args0.length→G w (c.XX s.h β) β κ (args0.getD i .any) (vs.toList.getD i undef))→HG P s o.dst ps ds v h1 f args0=some (qs,s')→nL P ops o s (· = s'):=by
  intro f args0 x ar tys hop hx h;unfold HG at h;obtain ⟨hc0,h2⟩:=bif_some h;rw [SY] at hc0;obtain ⟨hc,hor⟩:=hc0;have hor:s.noR=true∨(ps=[]∧∀ v2 h',(v2=v∧h'=h1)→∀ j,(lk .gone h' j).isR=false):=by rw [Bool.or_eq_true,SY] at hor;refine hor.imp id fun h=>⟨by simpa using h.1,fun v2 h' e j=>?_⟩;rw [e.2];have:=C9 (p:=fun o:AO=>!o.isR) (d:=AO.gone) rfl h.2 j;simpa using this
  split at h2
  ·rename_i s2 hs;simp only [S9,Prod.mk.injEq] at h2;obtain ⟨h3,h4⟩:=h2;subst h3;subst h4;exact Oc hp.1 hg hop (hx hp.1) ps ds hc hor rfl rfl hp.2 fun r h' hr=>by obtain ⟨rfl,rfl⟩:=hr;exact ⟨_,hs,rfl⟩
  ·cases h2
 unfold KO at h;split at h
 ·rename_i x ar tys hop;split at h
  ·rename_i f caps hx;exact key hop (fun he=>GU he hop hx) h
  ·rename_i f k off hx;exact key hop (fun he=>K3 he hop hx) h
  ·cases h
 ·cases h
def rowAt (s:AS):AV→Option (Nat×List (List AV))
 | .rslice k=>match lk .gone s.h k with | .row _ _ xs=>some (k,xs) | _=>none
 | _=>none
def St:AV→Option (List (List AV))
 | .dslice ys=>some ys
 | .eslice=>some []
 | _=>none
def Sl (s:AS) (x:AV):Option TypeId:=match x with | .rslice k=>(match lk .gone s.h k with | .row e _ _=>some e | _=>none) | _=>none
def Sn (s:AS) (x:AV):Option Nat:=match x with | .rslice k=>(match lk .gone s.h k with | .row _ e _=>some e | _=>none) | _=>none
def RR:AV→Option (List (List AV))
 | .cslice xs=>some xs
 | _=>none
theorem L8 {v:AV} {xs:List (List AV)} (h:RR v=some xs):v = .cslice xs:=by cases v<;>first | (cases h;rfl) | cases h
def OP (P:Program) (s:AS) (k':Nat) (t:TypeId) (xs:List (List AV)) (y:Operand):Option (List Prop×AS) :=
 match jS P t,s.op y with
 | some (e,sz,by_),.dslice (y0::ys)=>(match s.grow k' k' e sz (xs++y0::ys) with
  | some s'=>some ([EL sz (xs++y0::ys),(xs.length+(y0::ys).length)*by_≤140737488355328,xs.length+(y0::ys).length≤9223372036854775807],s')
  | none=>none)
 | _,_=>none
def OO (P:Program) (s:AS) (dst:Option Tmp):Op→Option (List Prop×AS)
 | .call ⟨.builtin .append,ar,tys⟩=>match ar.toList,tys.toList,dst with
  | [x,y],[t,t'],some k'=>if t=t' then (match RR (s.op x) with | some xs=>OP P s k' t xs y | none=>match jS P t,rowAt s (s.op x),St (s.op y) with
   | some (e,sz,by_),some (k,xs),some ys=>if Sl s (s.op x)=some e∧Sn s (s.op x)=some sz then (match s.grow k k' e sz (xs++ys) with
    | some s'=>some ([EL sz ys,(xs.length+ys.length)*by_≤140737488355328,xs.length+ys.length≤9223372036854775807],s')
    | none=>none) else none
   | _,_,_=>none) else none
  | _,_,_=>none
 | .buildSlice t len ps=>match dst,jS P t,dy P t len (s.parts ps) with
  | some k',some (e,sz,_),some (.dslice xs)=>(match s.grow k' k' e sz xs with | some s'=>some ([],s') | none=>none)
  | _,_,_=>none
 | _=>none
theorem Jy {ps:List Prop} (hg:gd ops s o=some true) (h:OO P s o.dst o.op=some (ps,s')) (hp:cQ ps):nL P ops o s (· = s'):=by
 unfold OO at h;split at h
 ·rename_i ar tys hop;split at h
  ·rename_i x y t t' k' har hty hd;split at h;case isFalse=>cases h
   rename_i ht;subst ht;have e1:ar = #[x,y]:=by rw [← Array.toList_inj];exact har
   have e2:tys = #[t,t]:=by rw [← Array.toList_inj];exact hty
   subst e1;subst e2;split at h
   ·rename_i xs hcs;have hx:=L8 hcs;unfold OP at h;split at h
    ·rename_i e sz by_ y0 ys he hy;split at h
     ·rename_i s2 hs;cases h;exact Kt hg hop hd he hx hy hp.1 (by simp) hp.2.1 hp.2.2 hs
     ·cases h
    ·cases h
   split at h
   ·rename_i e sz by_ k xs ys he hx hy;split at h;case isFalse=>cases h
    rename_i hm;split at h
    ·rename_i s2 hs;cases h;have hx':s.op x = .rslice k∧lk .gone s.h k = .row e sz xs:=by
      unfold rowAt at hx;split at hx
      ·rename_i k2 hk2;split at hx
       ·rename_i e3 sz3 xs3 h3;cases hx;simp only [hk2,Sl,Sn,h3,S9] at hm;obtain ⟨e4,e5⟩:=hm;subst e4;subst e5;exact ⟨hk2,h3⟩
       ·cases hx
      ·cases hx
     have hy':s.op y = .dslice ys∨(s.op y = .eslice∧ys=[]):=by
      unfold St at hy;split at hy
      ·cases hy;exact .inl (by assumption)
      ·cases hy;exact .inr ⟨by assumption,rfl⟩
      ·cases hy
     exact Bh hg hop hd he (.inr hx') hy' hp.1 hp.2.1 hp.2.2 hs
    ·cases h
   ·cases h
  ·cases h
 ·rename_i t len ps hop;split at h
  ·rename_i k' e2 sz by_ xs hd he hv;split at h
   ·rename_i s2 hs;cases h;exact Ce hg hop hd he hv (.inl rfl) hs
   ·cases h
  ·cases h
 ·cases h
def stepG (P:Program) (s:AS) (dst:Option Tmp):Op→Option (List Prop×AS)
 | .call ⟨.builtin .append,ar,tys⟩=>match ar.toList,tys.toList,dst with
  | [x,y],[t,t'],some k'=>if t=t' then (match jS P t,s.op x,s.op y with
   | some (e,sz,by_),.gslice k,.dslice []=>(match s.put dst (.gslice k) with | some s'=>some ([],s') | none=>none)
   | some (e,sz,by_),.gslice k,.dslice (y0::ys)=>(match lk .gone s.h k with
    | .room e' sz'=>if e'=e∧sz'=sz then (match s.grow k k' e sz (y0::ys) with
     | some s'=>some ([EL sz (y0::ys),(y0::ys).length*by_≤140737488355328,(y0::ys).length≤9223372036854775807],s')
     | none=>none) else none
    | _=>none)
   | _,_,_=>none) else none
  | _,_,_=>none
 | _=>none
theorem jD.same {rest:List Oper} {Q:Exit→AS→Prop} (h:jD P ops rest Q s) (e:kq s' s):jD P ops rest Q s':=fun c a w β κ r=>h c a w β κ (r.same e)
theorem SF {rest:List Oper} {Q:Exit→AS→Prop} {t k:Nat} {e:TypeId} {sz:Nat} (h:s.erow t k e sz=some s') (ht:jD P ops rest Q s'):jD P ops rest Q s:=fun c a w β κ r=>by obtain ⟨κ',r'⟩:=r.erow h;exact ht c a w β κ' r'
theorem OB {t:Nat} {v:AV} (h:lk .any s.t t=v):kq ⟨s.n,ins t v s.t,s.h⟩ s:=⟨rfl,fun i=>by
 show lk .any s.t i=lk .any (ins t v s.t) i;rw [bB];split
 ·rename_i e;rw [e];exact h
 ·rfl,fun _=>rfl⟩
theorem OA {k:Nat} {ob:AO} (h:lk .gone s.h k=ob):kq ⟨s.n,s.t,ins k ob s.h⟩ s:=⟨rfl,fun _=>rfl,fun i=>by
 show lk .gone s.h i=lk .gone (ins k ob s.h) i;rw [bB];split
 ·rename_i e;rw [e];exact h
 ·rfl⟩
theorem R6 {rest:List Oper} {Q:Exit→AS→Prop} {k:Nat} {ob:AO} (h:lk .gone s.h k=ob) (ht:jD P ops rest Q ⟨s.n,s.t,ins k ob s.h⟩):jD P ops rest Q s :=
 fun c a w β κ r=>ht c a w β κ (r.same (kq.symm' (OA h)))
theorem SI {rest:List Oper} {Q:Exit→AS→Prop} (t:Nat) (p:List (Nat×Nat)) (ht:jD P ops rest Q (s.wkT t p)):jD P ops rest Q s:=fun c a w β κ r=>by exact ht c a w β κ (r.wkT t p)
def Sf (s:AS):q9→Option (List Prop×AS)
 | .fz k=>(s.frz k).map fun s'=>([],s')
 | .er t k e sz=>(s.erow t k e sz).map fun s'=>([],s')
 | .wk t p=>some ([],s.wkT t p)
 | .rwH k ob=>some ([lk .gone s.h k=ob],⟨s.n,s.t,ins k ob s.h⟩)
 | _=>none
theorem Rb {α:Type} {x:Option α} {r:List Prop×α} (h:(x.map fun s'=>(([]:List Prop),s'))=some r):x=some r.2:=by
 cases x with
 | none=>cases h
 | some a=>cases h;rfl
theorem Rc {x:Option (Prop×AS)} {r:List Prop×AS} (h:(x.map fun r=>([r.1],r.2))=some r) (hp:cQ r.1):∃ p,x=some (p,r.2)∧p:=by
 cases x with
 | none=>cases h
 | some a=>cases h;exact ⟨a.1,rfl,hp⟩
theorem Ky {d:q9} {r:List Prop×AS} (h:Sf s d=some r) (hp:cQ r.1) {rest:List Oper} {Q:Exit→AS→Prop} (ht:jD P ops rest Q r.2):jD P ops rest Q s:=by
 cases d;case fz k=>exact R5 k (Rb h) ht
 case er=>exact SF (Rb h) ht
 case wk t p=>cases h;exact SI t p ht
 case rwH k ob=>cases h;exact R6 hp ht
 all_goals cases h
def KP (P:Program) (s:AS) (dst:Option Tmp) (v:AV):Op→Option (List Prop×AS)
 | .call ⟨.value x,ar,_⟩=>match s.op x with
  | .fn f caps=>bif AV.sc v then (match s.put dst v with
   | some s'=>some ([Go.Proofs.Enters P f,bH P f ((ar.toList.map fun y=>AV.vwd s.h (s.op y))++caps.map (AV.vwd1 s.h)) [] fun r _=>r=v],s')
   | none=>none) else none
  | _=>none
 | _=>none
theorem HK {v:AV} {ps:List Prop} (hg:gd ops s o=some true) (h:KP P s o.dst v o.op=some (ps,s')) (hp:cQ ps):nL P ops o s (· = s'):=by
 unfold KP at h;split at h
 ·rename_i x ar tys hop;split at h
  ·rename_i f caps hx;obtain ⟨hok,h⟩:=bif_some h;split at h
   ·rename_i s2 hs;cases h;exact Od hp.1 hg hop hx hok hp.2 hs
   ·cases h
  ·cases h
 ·cases h
def SL (P:Program) (ops:Array Oper) (s:AS) (o:Oper) (d:q9):Option (List Prop×AS) :=
 bif Fp true (gd ops s o) then (match d with
 | .m=>(OM P s o.dst o.op).map fun s'=>([],s')
 | .rs n j=>(KQ P s o.dst n j o.op).map fun r=>([r.1],r.2)
 | .ap=>OO P s o.dst o.op
 | .cq v=>KP P s o.dst v o.op
 | .mk N=>Na P s o.dst N o.op
 | .hR qs d v h1=>OQ P s o.dst qs d v h1 o.op
 | .hM qs qd v h1=>KO P s o.dst qs qd v h1 o.op
 | _=>none) else none
theorem Mv {d:q9} {r:List Prop×AS} (h:SL P ops s o d=some r) (hp:cQ r.1):nL P ops o s (· = r.2):=by
 unfold SL at h;obtain ⟨hg,h⟩:=bif_some h;have hg:=cA hg;cases d;case m=>exact Jw hg (Rb h)
 case rs n j=>obtain ⟨p,e,hp⟩:=Rc h hp;exact HM hg e hp
 case ap=>exact Jy hg h hp
 case cq v=>exact HK hg h hp
 case mk N=>exact Vr hg h (cQ.mem hp)
 case hR qs d v h1=>exact Jz hg h hp
 case hM qs qd v h1=>exact Vm hg h hp
 all_goals cases h
def Q7 (P:Program) (ops:Array Oper) (s:AS) (os:List Oper) (d:q9):Option (List Prop×AS×List Oper) :=
 match d,os with
 | _,_=>none
theorem J8 {d:q9} {os:List Oper} {r:List Prop×AS×List Oper} (h:Q7 P ops s os d=some r) (hp:cQ r.1) {Q:Exit→AS→Prop} (ht:jD P ops r.2.2 Q r.2.1):jD P ops os Q s:=by
 unfold Q7 at h;first
 | (cases h;done)
theorem Li {Q:Exit→AS→Prop} {rest:List Oper}:∀ {os:List Oper} {es:List dw} {s s1:AS},lG P ops os es s s1→(∀ e∈es,e.fr=[]∧e.ex=[])→jD P ops rest Q s1→jD P ops (os++rest) Q s
 | [],[],_,_,h,_,ht=>by cases h;exact ht
 | [],_::_,_,_,h,_,_=>h.elim
 | _::_,[],_,_,h,_,_=>h.elim
 | o::os,e::es,s,s1,h,he,ht=>D9 ((h.1.op (he e (.head _)).1 (he e (.head _)).2).mono fun _ q=>(Li h.2 (fun e' m=>he e' (.tail _ m)) ht).same q.symm')
def AS.fg (ts:List Nat) (s:AS):AS:=⟨s.n,s.t.filter (fun p=>!ts.any (Nat.beq p.1)),s.h⟩
theorem Qx {α:Type} (d:α) (p:Nat→Bool) (i:Nat):∀ (l:List (Nat×α)),lk d (l.filter fun x=>p x.1) i=lk d l i∨lk d (l.filter fun x=>p x.1) i=d
 | []=>.inl rfl
 | (j,u)::l=>by
  have ih:=Qx d p i l;rw [List.filter_cons];cases hp:p j with
  | true =>
   simp only [if_true,lk];cases Nat.beq i j with
   | true=>exact .inl rfl
   | false=>exact ih
  | false =>
   simp only [Bool.false_eq_true,if_false,lk];cases hb:Nat.beq i j with
   | true =>
    refine .inr ?_;have e:=Nat.eq_of_beq_eq_true hb;subst e;clear ih;induction l with
    | nil=>rfl
    | cons q l ih2 =>
     obtain ⟨j',u'⟩:=q;rw [List.filter_cons];cases hp':p j' with
     | true =>
      simp only [if_true,lk];cases hb':Nat.beq i j' with
      | true=>rw [Nat.eq_of_beq_eq_true hb',hp'] at hp;cases hp
      | false=>exact ih2
     | false=>simp only [Bool.false_eq_true,if_false];exact ih2
   | false=>exact ih
theorem Rel.fg {c:Cx P} {a:Act} {w:World} {β:Nat→Nat} {κ:Nat→Nat×Nat} (r:Rel c s a w β κ) (ts:List Nat):Rel c (s.fg ts) a w β κ:=by
 refine ⟨r.df,r.sz,fun i=>?_,r.hp⟩;rcases Qx AV.any (fun j=>!ts.any (Nat.beq j)) i s.t with e | e
 ·show G w _ β κ (lk .any (s.t.filter _) i) _;rw [e];exact r.tm i
 ·show G w _ β κ (lk .any (s.t.filter _) i) _;rw [e];exact .d (.any _)
theorem RZ {Q:Exit→AS→Prop} {rest:List Oper} (ts:List Nat) (ht:jD P ops rest Q (s.fg ts)):jD P ops rest Q s:=fun c a w β κ r=>ht c a w β κ (r.fg ts)
def Pj:List Oper→List Nat
 | []=>[]
 | [_]=>[]
 | o::os=>match o.dst with | some t=>t::Pj os | none=>Pj os
def SB:List q9→List Oper→List Nat
 | [],_=>[]
 | .gb _ n _::ds,os=>Pj (os.take n)++SB ds (os.drop n)
 | _::ds,os=>SB ds os.tail
def SC (P:Program) (ops:Array Oper) (s:AS) (os:List Oper):q9→Option (List Prop×AS×List Oper)
 | .gb c n ds=>(match Ph c ops (runK P ops 4) ds s (os.take n) with | some (p,es)=>some (p,(apps es s).fg (Pj (os.take n)),os.drop n) | none=>none)
 | _=>none
theorem Mf {d:q9} {os:List Oper} {r:List Prop×AS×List Oper} (h:SC P ops s os d=some r) (hp:cQ r.1) {Q:Exit→AS→Prop} (ht:jD P ops r.2.2 Q r.2.1):jD P ops os Q s:=by
 unfold SC at h;split at h
 ·rename_i c n ds;split at h
  ·rename_i p es hb;cases h;obtain ⟨h1,h2⟩:=Dr (zq 4) hb hp;have h3:=Li h1 h2 (RZ _ ht)
   rwa [List.take_append_drop] at h3
  ·cases h
 ·cases h
def Q6 (P:Program) (ops:Array Oper) (s:AS) (os:List Oper) (d:q9):Option (List Prop×AS×List Oper) :=
 match Sf s d with
 | some (p,s')=>some (p,s',os)
 | none=>match Q7 P ops s os d with
  | some r=>some r
  | none=>match SC P ops s os d with
   | some r=>some r
   | none=>match os with
    | o::os'=>(match SL P ops s o d with
     | some (p,s')=>some (p,s',os')
     | none=>(Ju P ops s o d).map fun r=>(r.1,(dw.put o.dst r.2).app s,os'))
    | []=>none
theorem J5 {d:q9} {os:List Oper} {r:List Prop×AS×List Oper} (h:Q6 P ops s os d=some r) (hp:cQ r.1) {Q:Exit→AS→Prop} (ht:jD P ops r.2.2 Q r.2.1):jD P ops os Q s:=by
 unfold Q6 at h;split at h
 ·rename_i p s' he;cases h;exact Ky he hp ht
 ·split at h
  ·rename_i r' he;cases h;exact J8 he hp ht
  ·split at h
   ·rename_i r' he;cases h;exact Mf he hp ht
   cases os with
   | nil=>cases h
   | cons o os' =>
    simp only at h;split at h
    ·rename_i p s' he;cases h;exact D9 ((Mv he hp).mono fun s3 e=>by subst e;exact ht)
    ·obtain ⟨x,hx,rfl⟩:=Option.map_eq_some_iff.1 h;refine D9 (((Cq (v:=x.2) hx hp).op rfl rfl).mono fun s3 e=>?_);exact fun c a w β κ r=>ht c a w β κ (r.same e.symm')
def VM (P:Program) (ops:Array Oper):List Oper→List q9→AS→Option (List Prop×AS×List Oper)
 | os,[],s=>some ([],s,os)
 | os,d::ds,s=>match Q6 P ops s os d with
  | some (p,s',os')=>(match VM P ops os' ds s' with | some (ps,r)=>some (p++ps,r) | none=>none)
  | none=>none
theorem nt {Q:Exit→AS→Prop}:∀ (ds:List q9) {os:List Oper} {s:AS} {ps:List Prop} {s':AS} {os':List Oper},VM P ops os ds s=some (ps,s',os')→cQ ps→jD P ops os' Q s'→jD P ops os Q s
 | [],os,s,ps,s',os',h,hp,ht=>by cases h;exact ht
 | d::ds,os,s,ps,s',os',h,hp,ht=>by
  unfold VM at h;split at h
  ·rename_i p s2 os2 he;split at h
   ·rename_i ps' r hr;cases h;obtain ⟨h1,h2⟩:=cQ.append.1 hp;exact J5 he h1 (nt ds hr h2 ht)
   ·cases h
  ·cases h
end
section
variable {P:Program} {Q:Exit→AS→Prop} {s s':AS} {l:List Oper} {id:Nat}
theorem Qi (ds:List q9) {ps:List Prop} (h:VM P l.toArray l ds s=some (ps,s',[])) (hp:cQ ps) (hq:Q .normal s'):eA P (.region id l.toArray false) Q s :=
 zw (nt ds h hp (IM hq))
def Rs (P:Program) (l:List Oper) (n:Nat) (d1 d2:List q9) (s:AS):Option (List Prop×AS×List Oper) :=
 match Sq P l.toArray (l.take n) d1 s with
 | some (ps,es)=>bif NA l n es s&&Qu (DA l []) es s&&Qz (DA l []) es s then (match VM P l.toArray (l.drop n) d2 ((apps es s).fg (SB d1 l)) with
  | some (qs,r)=>some (ps++qs,r)
  | none=>none) else none
 | none=>none
theorem MN (hm:P.follows .mixedOrders=true) (n:Nat) (d1 d2:List q9) {ps:List Prop} (h:Rs P l n d1 d2 s=some (ps,s',[])) (hp:cQ ps) (hq:Q .normal s'):eA P (.region id l.toArray true) Q s:=by
 unfold Rs at h;split at h
 ·rename_i ps1 es he;obtain ⟨hc,h2⟩:=bif_some h;split at h2
  ·rename_i qs r hr;simp only [S9,Prod.mk.injEq] at h2;obtain ⟨h3,h4⟩:=h2;subst h3;subst h4;obtain ⟨p1,p2⟩:=cQ.append.1 hp;exact OV hm n es hc (KG he p1) (RZ _ (nt d2 hr p2 (IM hq)))
  ·cases h2
 ·cases h
def Ds (f:Func):Code:=match f.body with | some c=>c | none=>.skip
def zY (f:Func):Bool:=match f.body with | some _=>true | none=>false
theorem Ii {f:Func} (h:zY f=true):f.body=some (Ds f):=by
 unfold zY at h;unfold Ds;split at h
 ·rename_i c e;rw [e]
 ·cases h
theorem RJ {f:FuncId} {fn:Func} {args:List AV} {h:List (Nat×AO)} {Post:AV→List (Nat×AO)→Prop} (hf:P.funcs[f]? = some fn) (n:Nat) (rs:List ResultVar) (hok:(zY fn&&Nat.beq fn.ntmps n&&Nat.ble args.length n)=true) (hrs:fn.results.toList=rs)
 (ht:eA P (Ds fn) (Sj P rs Post) ⟨n,sV args 0,h⟩):bH P f args h Post:=by
 simp only [SY,Nat.beq_eq,Nat.ble_eq] at hok;exact HU hf (Ii hok.1.1) n hok.1.2 rs hrs hok.2 ht
end
section
variable {P:Program} {Q:Exit→AS→Prop} {s s':AS} {l:List Oper} {id:Nat}
def AS.only (s:AS) (ts hs:List Nat):AS:=⟨s.n,sel ts s.t,sel hs s.h⟩
theorem all_nil:cQ []:=trivial
theorem all_cons {p:Prop} {ps:List Prop} (h:p) (h2:cQ ps):cQ (p::ps):=cQ.cons.2 ⟨h,h2⟩
theorem aJ {ps qs:List Prop} (h:cQ ps) (h2:cQ qs):cQ (ps++qs):=cQ.append.2 ⟨h,h2⟩
theorem bp.eq {f:FuncId} {args:List AV} {v v':AV} (h:bp P f args v) (e:v=v'):bH P f args [] fun r _=>r=v':=bH.mono h fun _ _ hr=>hr.1.trans e
theorem bp.is {f:FuncId} {args:List AV} {v:AV} (h:bp P f args v):bH P f args [] fun r _=>r=v:=bH.mono h fun _ _ hr=>hr.1
theorem ix {α:Type} {f:α→List AV} {l:List α} {n:Nat} {sz:Nat} (d:α) (hf:∀ x,(f x).length=sz) (h0:0<sz) (h:n<l.length) :
 cQ [((0:Int)≤(n:Int)∧(n:Int)<((l.map f).length:Int))∧(((l.map f).getD (n:Int).toNat []).length=sz∧0<sz),AV.dptr ((l.map f).getD (n:Int).toNat []) = .dptr (f (l.getD n d))]:=by
 have e:(l.map f).getD (n:Int).toNat []=f (l.getD n d):=by simp [SW,SX h]
 refine ⟨⟨⟨by omega,by simpa using h⟩,?_,h0⟩,?_⟩
 ·rw [e];exact hf _
 ·rw [e];rfl
theorem D4 {α:Type} {f:α→List AV} {l:List α} {n:Int} {sz:Nat} (d:α) (hf:∀ x,(f x).length=sz) (h0:0<sz) (h:0≤n∧n<l.length) :
 cQ [((0:Int)≤n∧n<((l.map f).length:Int))∧(((l.map f).getD n.toNat []).length=sz∧0<sz),AV.dptr ((l.map f).getD n.toNat []) = .dptr (f (l.getD n.toNat d))]:=by
 have hn:n.toNat<l.length:=by omega
 have e:(l.map f).getD n.toNat []=f (l.getD n.toNat d):=by simp [SW,SX hn]
 refine ⟨⟨⟨h.1,by simpa using h.2⟩,?_,h0⟩,?_⟩
 ·rw [e];exact hf _
 ·rw [e];rfl
theorem vj {α:Type} (f:α→List AV) (l:List α):AV.int .i64 ((l.map f).length:Nat) = .int .i64 (l.length:Nat):=by rw [S7]
def IU:AV→List Prop
 | .str l=>[l.length≤9223372036854775807]
 | .dslice xs=>[xs.length≤9223372036854775807]
 | _=>[]
def Lk:List AV→List Prop
 | []=>[]
 | c::cs=>IU c++Lk cs
def lens:AV→List Prop
 | .agg cs=>Lk cs
 | .tup cs=>Lk cs
 | v=>IU v
theorem A9 {w:World} {X:Nat→Prop} {β:Nat→Nat} {κ:Nat→Nat×Nat} {v:AV} {V:Value} (h:G w X β κ v V):cQ (IU v):=by
 unfold IU;split
 ·exact h.str_len
 ·obtain ⟨_,_,_,_,h1,h2⟩:=h.dslice_inv;exact Nat.le_trans h1 h2
 ·trivial
theorem Ba {w:World} {X:Nat→Prop} {β:Nat→Nat} {κ:Nat→Nat×Nat}:∀ {cs:List AV} {vs:Nat→Value},(∀ i,i<cs.length→G w X β κ (cs.getD i .any) (vs i))→cQ (Lk cs)
 | [],_,_=>trivial
 | c::cs,vs,h=>cQ.append.2 ⟨A9 (h 0 (by simp)),Ba (vs:=fun i=>vs (i+1)) fun i hi=>by simpa using h (i+1) (by simpa using hi)⟩
theorem NR {w:World} {X:Nat→Prop} {β:Nat→Nat} {κ:Nat→Nat×Nat} {v:AV} {V:Value} (h:G w X β κ v V):cQ (lens v):=by
 unfold lens;split
 ·obtain ⟨vs,_,_,hg⟩:=h.agg_inv;exact Ba hg
 ·obtain ⟨vs,_,_,hg⟩:=h.tup_inv;exact Ba hg
 ·exact A9 h
theorem zv {cd:Code} (t:Nat) {ps:List Prop} (h:lens (lk .any s.t t)=ps) (ht:cQ ps→eA P cd Q s):eA P cd Q s:=fun c a w β κ r =>
 ht (h ▸ NR (r.tm t)) c a w β κ r
end
def Cv (s s':AS):Prop:=∀ (P:Program) (c:Cx P) (a:Act) (w:World) (β:Nat→Nat) (κ:Nat→Nat×Nat),Rel c s a w β κ→∃ β' κ',Rel c s' a w β' κ'
theorem Cv.refl (s:AS):Cv s s:=fun _ _ _ _ β κ r=>⟨β,κ,r⟩
theorem Cv.trans {s s' s'':AS} (h:Cv s s') (h':Cv s' s''):Cv s s'':=fun P c a w β κ r=>by obtain ⟨β',κ',r'⟩:=h _ c a w β κ r;exact h' _ c a w β' κ' r'
theorem Cv.only (s:AS) (ts hs:List Nat):Cv s (s.only ts hs):=fun _ _ _ _ β κ r=>⟨β,κ,r.sel ts hs⟩
theorem Cv.frz {s s':AS} {k:Nat} (h:s.frz k=some s'):Cv s s':=fun _ _ _ _ β κ r=>⟨β,κ,r.frz h⟩
theorem Cv.frzC {s s':AS} {k:Nat} (h:s.frzC k=some s'):Cv s s':=fun _ _ _ _ β κ r=>⟨β,κ,r.frzC h⟩
theorem Cv.erow {s s':AS} {t k:Nat} {e:TypeId} {sz:Nat} (h:s.erow t k e sz=some s'):Cv s s':=fun _ _ _ _ β κ r=>by obtain ⟨κ',r'⟩:=r.erow h;exact ⟨β,κ',r'⟩
theorem Cv.tri {P:Program} {cd:Code} {Q:Exit→AS→Prop} {s s':AS} (h:Cv s s') (ht:eA P cd Q s'):eA P cd Q s:=fun c a w β κ r=>by obtain ⟨β',κ',r'⟩:=h _ c a w β κ r;exact ht c a w β' κ' r'
theorem Cv.wkT (s:AS) (t:Nat) (p:List (Nat×Nat)):Cv s (s.wkT t p):=fun _ _ _ _ β κ r=>⟨β,κ,r.wkT t p⟩
def AO.wk (i:Nat) (p:List (Nat×Nat)):AO→AO
 | .cells e cs=>.cells e (dV (AV.wk p) i cs)
 | o=>o
def AS.wkH (s:AS) (k i:Nat) (p:List (Nat×Nat)):AS:=⟨s.n,s.t,s.h.map fun q=>(q.1,bif Nat.beq q.1 k then AO.wk i p q.2 else q.2)⟩
theorem NU {α:Type} (d:α) (f:α→α) (hd:f d=d) (k:Nat) (l:List (Nat×α)) (i:Nat):lk d (l.map fun q=>(q.1,bif Nat.beq q.1 k then f q.2 else q.2)) i=if i=k then f (lk d l i) else lk d l i:=by
 induction l with
 | nil=>simp [lk,hd]
 | cons p l ih =>
  obtain ⟨j,u⟩:=p;simp only [List.map_cons,lk];by_cases h:i=j
  ·subst h;rw [Nat.beq_refl];simp only [cond_true];by_cases h2:i=k
   ·subst h2;simp
   ·rw [dz h2,if_neg h2];rfl
  ·rw [dz h];simp only [cond_false];exact ih
theorem Hn (s:AS) (k i:Nat) (p:List (Nat×Nat)) (j:Nat):lk .gone (s.wkH k i p).h j=if j=k then AO.wk i p (lk .gone s.h j) else lk .gone s.h j:=NU .gone (AO.wk i p) rfl k s.h j
theorem AO.live_wk (i:Nat) (p:List (Nat×Nat)) (o:AO):(AO.wk i p o).live=o.live:=by cases o<;>rfl
theorem AO.inn_wk (i:Nat) (p:List (Nat×Nat)) (o:AO) (j:Nat):(AO.wk i p o).inn j=o.inn j:=by cases o<;>rfl
theorem AO.gone_wk {i:Nat} {p:List (Nat×Nat)} {o:AO} (h:AO.wk i p o ≠ .gone):o ≠ .gone:=fun e=>h (by rw [e];rfl)
theorem Cv.wkH (s:AS) (k i:Nat) (p:List (Nat×Nat)):Cv s (s.wkH k i p):=fun P c a w β κ r=>by
 have hlive:∀ j,(lk .gone (s.wkH k i p).h j).live=(lk .gone s.h j).live:=fun j=>by
  rw [Hn];split
  ·rw [AO.live_wk]
  ·rfl
 have hinn:∀ j l,(lk .gone (s.wkH k i p).h j).inn l=(lk .gone s.h j).inn l:=fun j l=>by
  rw [Hn];split
  ·rw [AO.inn_wk]
  ·rfl
 have hlv:∀ j,lv (s.wkH k i p).h j=lv s.h j:=fun j=>by simp only [lv,hlive,hinn]
 have hown:own (s.wkH k i p).h β=own s.h β:=by funext b;simp only [own,hlv]
 have hX:c.XX (s.wkH k i p).h β=c.XX s.h β:=by funext b;simp [Cx.XX,hown]
 refine ⟨β,κ,r.df,r.sz,fun j=>?_,⟨fun j=>?_,fun a b ha hb e=>r.hp.inj a b (by rw [hlv] at ha;exact ha) (by rw [hlv] at hb;exact hb) e,r.hp.kp,fun j hj=>r.hp.nk j (by rw [hlv] at hj;exact hj),fun j hj=>r.hp.nx j (by rw [hlv] at hj;exact hj),r.hp.fix,fun j hj=>?_⟩⟩
 ·rw [hX];exact r.tm j
 ·rw [hX,Hn];have h:=r.hp.ob j;split
  ·generalize lk .gone s.h j=o at h;cases o with
   | cells e cs =>
    obtain ⟨cur,h1,h2,h3⟩:=h;exact ⟨cur,h1,by rw [bG];exact h2,fun l hl=>fA (R:=fun x=>G w (c.XX s.h β) β κ x (cur.getD l undef)) (fun x hx=>hx.wk p) i cs l (h3 l (by rw [bG] at hl;exact hl))⟩
   | _=>exact h
  ·exact h
 ·rw [Hn] at hj;split at hj
  ·exact r.hp.sg j (AO.gone_wk hj)
  ·exact r.hp.sg j hj
def RW (ps:List (Nat×Nat)):Bool:=ps.all fun p=>bif Nat.beq p.1 p.2 then Nat.blt p.2 1000000 else Nat.blt p.2 1000
def AS.ren (s:AS) (ps:List (Nat×Nat)):AS:=⟨s.n,s.t.map fun q=>(q.1,AV.ren ps q.2),hand ps s.h⟩
theorem Cv.ren (s:AS) (ps:List (Nat×Nat)) (hps:(uo ps&&RW ps)=true):Cv s (s.ren ps):=fun P c a w β κ r=>by
 simp only [SY] at hps;obtain ⟨hinj,hid⟩:=hps;have hbig:∀ {k j},rk ps k=some j→j<1000000∧(1000≤j→k=j):=fun {k j} h=>by
  have:=Tc.1 hid _ (uJ h);cases e:Nat.beq k j with
  | true =>
   simp only [e,cond_true,Nat.blt_eq] at this;exact ⟨this,fun _=>ef.1 e⟩
  | false =>
   simp only [e,cond_false,Nat.blt_eq] at this;exact ⟨by omega,fun hj=>by omega⟩
 let τ:Nat→Nat→Prop:=fun n n'=>rk ps n=some n'∨∃ k j i,rk ps k=some j∧i<1000000∧n=gk k i∧n'=gk j i
 let β':Nat→Nat:=CO (fun j=>match rk (swp ps) j with | some k=>β k | none=>β j) (fun j i=>match rk (swp ps) j with | some k=>β (gk k i) | none=>β (gk j i))
 let κ':Nat→Nat×Nat:=CO (fun j=>match rk (swp ps) j with | some k=>κ k | none=>κ j) (fun j i=>match rk (swp ps) j with | some k=>κ (gk k i) | none=>κ (gk j i))
 have hβ:∀ k j,rk ps k=some j→β' j=β k∧κ' j=κ k:=by intro k j h;have h2:=(cL hinj).2 h;have h3:=(hbig h).1;exact ⟨by simp only [β',gC h3,h2],by simp only [κ',gC h3,h2]⟩
 have hβv:∀ k j,rk ps k=some j→∀ i,i<1000000→β' (gk j i)=β (gk k i)∧κ' (gk j i)=κ (gk k i):=by intro k j h i hi;have h2:=(cL hinj).2 h;exact ⟨by simp only [β',eH hi,h2],by simp only [κ',eH hi,h2]⟩
 have hlk:∀ j,lk .gone (hand ps s.h) j=match rk (swp ps) j with | some k=>AO.ren ps (lk .gone s.h k) | none=>.gone:=fun j=>Da hinj j
 have hlvh:∀ n',lv (hand ps s.h) n'→∃ n,((rk ps n=some n'∧n<1000000)∨∃ k j i,rk ps k=some j∧i<1000000∧n=gk k i∧n'=gk j i)∧lv s.h n∧β' n'=β n:=by
  rintro n' (h1 | ⟨m,i,rfl,h1⟩)
  ·rw [hlk] at h1;cases e:rk (swp ps) n' with
   | none=>rw [e] at h1;exact h1.elim
   | some k =>
    rw [e] at h1;have e2:=(cL hinj).1 e;have h2:=qw.1 h1;exact ⟨k,.inl ⟨e2,r.hp.sm k h2⟩,.inl h2,(hβ _ _ e2).1⟩
  ·rw [hlk] at h1;cases e:rk (swp ps) m with
   | none=>rw [e] at h1;exact h1.elim
   | some k =>
    rw [e] at h1;have e2:=(cL hinj).1 e;have hi:=(AO.inn_isR h1).1;exact ⟨gk k i,.inr ⟨k,m,i,e2,hi,rfl,rfl⟩,eZ (uq.1 h1),(hβv _ _ e2 i hi).1⟩
 have hown:∀ b,own (hand ps s.h) β' b→own s.h β b:=by rintro b ⟨j,h1,h2⟩;obtain ⟨k,_,h3,h4⟩:=hlvh j h1;exact ⟨k,h3,by rw [← h4];exact h2⟩
 have hX:∀ b,¬ c.XX s.h β b→b<w.heap.size→¬ c.XX (hand ps s.h) β' b:=fun b hb _ hb'=>hb (hb'.imp id (hown b));refine ⟨β',κ',r.df,r.sz,fun i=>?_,⟨fun j=>?_,fun i j hi hj e=>?_,r.hp.kp,fun j hj=>?_,fun j hj=>?_,fun j hj hj6=>?_,fun j hj=>?_⟩⟩
 ·show G w (c.XX (hand ps s.h) β') β' κ' (lk .any (s.t.map fun q=>(q.1,AV.ren ps q.2)) i) _;rw [Ef .any (AV.ren ps) rfl];exact (r.tm i).ren hβ hX
 ·show HO w (c.XX (hand ps s.h) β') β' κ' j (lk .gone (hand ps s.h) j);rw [hlk];cases e:rk (swp ps) j with
  | none=>trivial
  | some k =>
   have e2:=(cL hinj).1 e;exact (r.hp.ob k).ren hβ hX (hβ _ _ e2) (fun i hi _=>hβv _ _ e2 i hi)
 ·obtain ⟨k1,a1,a2,a3⟩:=hlvh i hi;obtain ⟨k2,b1,b2,b3⟩:=hlvh j hj;have:k1=k2:=r.hp.inj k1 k2 a2 b2 (by rw [← a3,← b3];exact e);subst this;rcases a1 with ⟨h,h'⟩ | ⟨k,l,i,h,hii,rfl,rfl⟩<;>rcases b1 with ⟨g,g'⟩ | ⟨k2,l2,i2,g,hi2,ee,rfl⟩
  ·rw [h] at g;exact Tb g
  ·have:=iR k2 i2;omega
  ·have:=iR k i;omega
  ·obtain ⟨rfl,rfl⟩:=vV hii hi2 ee;rw [h] at g;rw [Tb g]
 ·obtain ⟨k,_,a2,a3⟩:=hlvh j hj;rw [a3];exact r.hp.nk k a2
 ·obtain ⟨k,_,a2,a3⟩:=hlvh j hj;rw [a3];exact r.hp.nx k a2
 ·have hf:=r.hp.fix j hj hj6;have e1:β' j=(match rk (swp ps) j with | some k=>β k | none=>β j):=gC hj6;have e2:κ' j=(match rk (swp ps) j with | some k=>κ k | none=>κ j):=gC hj6;rw [e1,e2];cases e:rk (swp ps) j with
  | none=>exact hf
  | some k =>
   have:=(hbig ((cL hinj).1 e)).2 hj;subst this;exact hf
 ·have hj:lk .gone (hand ps s.h) j ≠ .gone:=hj;rw [hlk] at hj;cases e:rk (swp ps) j with
  | none=>rw [e] at hj;exact absurd rfl hj
  | some k=>exact (hbig ((cL hinj).1 e)).1
def AS.erowH (s:AS) (k i k':Nat) (e:TypeId) (sz:Nat):Option AS :=
 match lk .gone (lu k' s.h) k with
 | .cells e2 cs=>match cs.getD i .any with
  | .eslice=>bif Nat.blt k' 1000 && !Nat.beq k k' then some ⟨s.n,vl k' s.t,ins k' (.row e sz []) (ins k (.cells e2 (dV (fun _=>.rslice k') i cs)) (lu k' s.h))⟩ else none
  | _=>none
 | _=>none
theorem IZ {α:Type} (f:α→α) (d:α):∀ (i:Nat) (l:List α) (j:Nat),(dV f i l).getD j d=if j=i∧i<l.length then f (l.getD j d) else l.getD j d
 | _,[],j=>by simp [dV]
 | 0,x::xs,0=>by simp [dV]
 | 0,x::xs,j+1=>by simp [dV]
 | i+1,x::xs,0=>by simp [dV]
 | i+1,x::xs,j+1=>by have:=IZ f d i xs j;simpa [dV] using this
theorem Cv.erowH {s s':AS} {k i k':Nat} {e:TypeId} {sz:Nat} (h:s.erowH k i k' e sz=some s'):Cv s s':=fun P c a w β κ r=>by
 unfold AS.erowH at h;split at h
 ·rename_i e2 cs hk;split at h
  ·rename_i hi;obtain ⟨hc,h⟩:=bif_some h;cases h;rw [SY] at hc;have hk':k'<1000:=by simpa [Nat.blt_eq] using hc.1
   have hkk:k≠k':=fun e=>by have:=hc.2;rw [e,Nat.beq_refl] at this;cases this
   have r':=r.pg k';let h2:=ins k' (AO.row e sz []) (ins k (.cells e2 (dV (fun _=>.rslice k') i cs)) (lu k' s.h))
   have hl:∀ j,lk AO.gone h2 j=if j=k' then .row e sz [] else if j=k then .cells e2 (dV (fun _=>.rslice k') i cs) else lk .gone (lu k' s.h) j:=fun j=>by show lk AO.gone (ins k' _ _) j=_;rw [bB,bB]
   have hk6:k'<1000000:=by omega
   have hlive:∀ {j},lv h2 j→lv (lu k' s.h) j:=by
    intro j hl2;rcases iO (o:=.row e sz []) hk6 (fun _ h=>h) hl2 with ⟨_,h0⟩ | ⟨_,hl2⟩
    ·exact absurd rfl h0
    ·exact (Ak (by rw [hk];exact Iff.rfl) (fun i=>by rw [hk];exact Iff.rfl) j).1 hl2
   have hX:∀ b,¬ c.XX (lu k' s.h) β b→b<w.heap.size→¬ c.XX h2 β b:=by
    rintro b hb _ (hx | ⟨j,hl,hj⟩)
    ·exact hb (.inl hx)
    ·exact hb (.inr ⟨j,hlive hl,hj⟩)
   have hT:∀ {v:AV} {V:Value},G w (c.XX (lu k' s.h) β) β κ v V→AV.men k' v=false→G w (c.XX h2 β) β (upd κ k' (0,0)) v V:=fun hg hm =>
    hg.mono (w':=w) (fun _ _ _=>rfl) hX (fun j hj=>.updκ hk6 (fun e=>by rw [e,hm] at hj;cases hj))
   refine ⟨β,upd κ k' (0,0),r.df,r.sz,fun i=>?_,⟨fun j=>?_,fun i j hi hj e=>r'.hp.inj i j (hlive hi) (hlive hj) e,r.hp.kp,fun j hj=>r'.hp.nk j (hlive hj),fun j hj=>r'.hp.nx j (hlive hj),fun j hj hj6=>?_,fun j hj=>?_⟩⟩
   ·exact hT (r'.tm i) (by show AV.men k' (lk .any (vl k' s.t) i)=false;rw [jT,AV.men_pg])
   ·show HO w (c.XX h2 β) β (upd κ k' (0,0)) j (lk AO.gone h2 j);rw [hl];by_cases ej:j=k'
    ·rw [if_pos ej,ej];exact ⟨by rw [bh];rfl,fun h=>absurd rfl h⟩
    ·rw [if_neg ej];by_cases ej2:j=k
     ·rw [if_pos ej2,ej2];have ho:=r'.hp.ob k;have hmen:AO.men k' (lk .gone (lu k' s.h) k)=false:=by rw [ij];exact AO.men_pg k' _
      rw [hk] at ho hmen;obtain ⟨cur,g1,g2,g3⟩:=ho;refine ⟨cur,g1,by rw [bG];exact g2,fun l hl2=>?_⟩;rw [bG] at hl2;rw [IZ];have g4:=g3 l hl2;have hm2:AV.men k' (cs.getD l .any)=false:=by
       cases hb:AV.men k' (cs.getD l .any) with
       | false=>rfl
       | true=>have:=cZ hl2 hb;rw [show AV.menL k' cs=false from hmen] at this;cases this
      by_cases el:l=i∧i<cs.length
      ·rw [if_pos el];rw [el.1,hi] at g4;obtain ⟨ad,e1⟩:=g4.eslice_inv;rw [el.1,e1];exact .rslice0 k' ad (by rw [bh])
      ·rw [if_neg el];exact hT g4 hm2
     ·rw [if_neg ej2];exact (r'.hp.ob j).mono (w':=w) (fun _ _ _=>rfl) hX (fun i hi=>.updκ hk6 (fun e=>by rw [e] at hi;have:AO.men k' (lk .gone (lu k' s.h) j)=true:=hi;rw [ij,AO.men_pg] at this;cases this)) (.updκ hk6 ej) (fun _=>rfl) (fun _ _=>rfl)
   ·have:j≠k':=by omega
    rw [cM κ this];exact r.hp.fix j hj hj6
   ·have hj:lk AO.gone h2 j ≠ .gone:=hj;rw [hl] at hj;by_cases ej:j=k'
    ·omega
    ·rw [if_neg ej] at hj;by_cases ej2:j=k
     ·rw [ej2];exact r'.hp.sm k (by show (lk .gone (lu k' s.h) k).live;rw [hk];trivial)
     ·rw [if_neg ej2] at hj;exact r'.hp.sg j hj
  ·cases h
 ·cases h
inductive Cd where
 | only (ts hs:List Nat)
 | fz (k:Nat)
 | er (t k:Nat) (e:TypeId) (sz:Nat)
 | wk (t:Nat) (p:List (Nat×Nat))
 | wkH (k i:Nat) (p:List (Nat×Nat))
 | ren (ps:List (Nat×Nat))
 | erH (k i k':Nat) (e:TypeId) (sz:Nat)
 | fzC (k:Nat)
def conv:List Cd→AS→Option AS
 | [],s=>some s
 | .only ts hs::cs,s=>conv cs (s.only ts hs)
 | .fz k::cs,s=>match s.frz k with | some s'=>conv cs s' | none=>none
 | .fzC k::cs,s=>match s.frzC k with | some s'=>conv cs s' | none=>none
 | .er t k e sz::cs,s=>match s.erow t k e sz with | some s'=>conv cs s' | none=>none
 | .wk t p::cs,s=>conv cs (s.wkT t p)
 | .wkH k i p::cs,s=>conv cs (s.wkH k i p)
 | .erH k i k' e sz::cs,s=>match s.erowH k i k' e sz with | some s'=>conv cs s' | none=>none
 | .ren ps::cs,s=>bif uo ps&&RW ps then conv cs (s.ren ps) else none
theorem ep:∀ (cs:List Cd) {s s':AS},conv cs s=some s'→Cv s s'
 | [],s,s',h=>by cases h;exact .refl _
 | .only ts hs::cs,s,s',h=>(Cv.only s ts hs).trans (ep cs h)
 | .fz k::cs,s,s',h=>by
  simp only [conv] at h;split at h
  ·rename_i h1;exact (Cv.frz h1).trans (ep cs h)
  ·cases h
 | .fzC k::cs,s,s',h=>by
  simp only [conv] at h;split at h
  ·rename_i h1;exact (Cv.frzC h1).trans (ep cs h)
  ·cases h
 | .er t k e sz::cs,s,s',h=>by
  simp only [conv] at h;split at h
  ·rename_i h1;exact (Cv.erow h1).trans (ep cs h)
  ·cases h
 | .wk t p::cs,s,s',h=>(Cv.wkT s t p).trans (ep cs h)
 | .wkH k i p::cs,s,s',h=>(Cv.wkH s k i p).trans (ep cs h)
 | .erH k i k' e sz::cs,s,s',h=>by
  simp only [conv] at h;split at h
  ·rename_i h1;exact (Cv.erowH h1).trans (ep cs h)
  ·cases h
 | .ren ps::cs,s,s',h=>by obtain ⟨h1,h2⟩:=bif_some h;exact (Cv.ren s ps h1).trans (ep cs h2)
end Go.Ab
namespace Go.Sh
inductive kr (σ ε ρ:Type) where
 | go (s:σ)
 | brk (e:ε)
 | ret (r:ρ)
inductive Out (ε ρ:Type) where
 | brk (e:ε)
 | ret (r:ρ)
section
variable {α β σ ε ρ:Type}
def CZ (k:σ→Option (Out ε ρ)):kr σ ε ρ→Option (Out ε ρ)
 | .go s=>k s
 | .brk e=>some (.brk e)
 | .ret r=>some (.ret r)
def bR (body:Nat→σ→Option (kr σ ε ρ)) (fin:Nat→σ→ε):Nat→Nat→σ→Option (Out ε ρ)
 | 0,i,s=>some (.brk (fin i s))
 | k+1,i,s=>(body i s).bind (CZ (bR body fin k (i+1)))
def vq (body:σ→Option (kr σ ε ρ)):Nat→σ→Option (Out ε ρ)
 | 0,_=>none
 | n+1,s=>(body s).bind (CZ (vq body n))
def aft (f:ε→Option β):Out ε β→Option β
 | .brk e=>f e
 | .ret r=>some r
def bo (p:Prop) [Decidable p] (x:Option α):Option α:=if p then x else none
def Cf:kr σ ε ρ→Out ε ρ→Prop
 | .go _,_=>True
 | .brk e,r=>r = .brk e
 | .ret x,r=>r = .ret x
theorem aq {m:Option α} {f:α→Option β} {v:β} {G:Prop} (H:m.bind f=some v) (k:∀ y,m=some y→f y=some v→G):G:=by
 cases m with
 | none=>cases H
 | some y=>exact k y rfl H
theorem bj {b:Bool} {x y:Option α} {v:α} {G:Prop} (H:(bif b then x else y)=some v) (t:b=true→x=some v→G) (f:b=false→y=some v→G):G:=by
 cases b with
 | true=>exact t rfl H
 | false=>exact f rfl H
theorem ao {p:Prop} [Decidable p] {x:Option α} {v:α} {G:Prop} (H:bo p x=some v) (k:p→x=some v→G):G:=by
 unfold bo at H;split at H
 ·exact k (by assumption) H
 ·cases H
theorem bA {x y:α} {G:Prop} (H:some x=some y) (k:x=y→G):G:=k (Tb H)
end
end Go.Sh
