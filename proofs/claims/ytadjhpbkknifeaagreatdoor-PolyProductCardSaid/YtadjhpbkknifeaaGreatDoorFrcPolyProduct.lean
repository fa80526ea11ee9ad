/- The frame for walks: states without addresses, the rules by which code is walked, and contracts of library functions. -/
import Derived.Test.YtadjhpbkknifeaaGreatDoorFrbPolyProduct
import Derived.LoopN
import Derived.Shelf.Strconv.Itoa3
import Derived.Shelf.Strconv.ErrVarAll
import Derived.Shelf.Strings.OnBuilder
import Derived.Shelf.Strings.Split
import Derived.Shelf.Strings.SlTrimAscii
import Derived.Lib.SplitLaws
import Derived.Shelf.Sort.Plain
import Derived.Shelf.Slices.In.SortNone
set_option linter.unusedSimpArgs false
set_option linter.unusedVariables false
namespace Go.Ab
open Go.RowKit
def iz (x:List UInt8):jq→jq
 | []=>[(x,none)]
 | (k,r)::es=>if k=x then (k,none)::es else (k,r)::iz x es
theorem An (x:List UInt8) (v:List (List AV)):∀ es:jq,eO x v (iz x es)=eO x v es
 | []=>by simp [iz,eO]
 | (k,r)::es=>by
  unfold iz;by_cases h:k=x
  ·rw [if_pos h];simp [eO,h]
  ·rw [if_neg h];simp only [eO,if_neg h];rw [An x v es]
theorem w5 {x:List UInt8}:∀ {es:jq},(∀ i,i<es.length→(es.getD i bN).1≠x)→iz x es=es++[(x,none)]
 | [],_=>rfl
 | (k,r)::es,h=>by have h0:k≠x:=h 0 (by simp);rw [iz,if_neg h0,w5 (es:=es) fun i hi=>by simpa using h (i+1) (by simpa using hi)];rfl
theorem vE {x:List UInt8}:∀ {es:jq} {j:Nat},(es.map (·.1)).Nodup→j<es.length→(es.getD j bN).1=x→iz x es=es.set j (x,none)
 | [],j,_,h,_=>by simp at h
 | (k,r)::es,0,_,_,h=>by
  have h:k=x:=h;simp [iz,h]
 | (k,r)::es,j+1,hn,hj,h=>by
  rw [List.map_cons,List.nodup_cons] at hn;have hj':j<es.length:=by simpa using hj
  have h:(es.getD j bN).1=x:=by simpa using h
  have hne:k≠x:=by rintro rfl;refine hn.1 (List.mem_map.2 ⟨es.getD j bN,?_,h⟩);rw [JM,JN hj'];exact List.getElem_mem hj'
  simp only [iz,if_neg hne,vE hn.2 hj' h,List.set_cons_succ]
theorem zU (x:List UInt8):∀ es:jq,(iz x es).length≤es.length+1
 | []=>by simp [iz]
 | (k,r)::es=>by
  unfold iz;split
  ·simp
  ·have:=zU x es;simp;omega
section
variable {P:Program} {ops:Array Oper} {o:Oper} {s:AS} {c:Cx P} {a:Act} {w:World} {β:Nat→Nat} {κ:Nat→Nat×Nat}
theorem Rel.entry (r:Rel c s a w β κ) {k:Nat} {e:TypeId} {sz:Nat} {es es2:jq} (hk:lk .gone s.h k = .rmap e sz es) {w':World}
 {ents:Array MapEntry} {clock:Nat} (hw:∀ i,i≠β k→w'.heap[i]? = w.heap[i]?) (hkp:cr (fun i=>i≠β k) w w') (hm:w'.heap[β k]? = some (.map ents clock)) (hs:ents.size=es2.length) (hl6:es2.length≤1000000)
 (hei:∀ i,i<es2.length→(i<es.length∧es2.getD i bN=es.getD i bN)∨(es2.getD i bN).2=none)
 (hents:∀ i (h:i<ents.size),ents[i].key = .string ⟨(es2.getD i bN).1.toArray⟩∧ents[i].born<clock∧((es2.getD i bN).2≠none→AU w (c.XX s.h β) (β (gk k i)) (κ (gk k i)) e sz ents[i].val (es.getD i bN).2))
 (hborn:∀ i j (hi:i<ents.size) (hj:j<ents.size),i<j→ents[i].born<ents[j].born) (hkeys:(es2.map (·.1)).Nodup∧∀ k∈es2.map (·.1),k.length≤maxLen) :
 Rel c ⟨s.n,s.t,ins k (.rmap e sz es2) s.h⟩ a w' β κ:=by
 have hlk:(lk .gone s.h k).live:=by rw [hk];trivial
 have hinn:∀ i,(AO.rmap e sz es2).inn i→(AO.rmap e sz es).inn i:=by
  rintro i ⟨h1,h2,y,ys,h3⟩;rcases hei i h2 with ⟨g1,g2⟩ | g
  ·exact ⟨h1,g1,y,ys,by rw [← g2];exact h3⟩
  ·rw [g] at h3;cases h3
 have hlv:∀ n,lv (ins k (.rmap e sz es2) s.h) n→lv s.h n:=by
  rintro n (h | ⟨m,i,rfl,h⟩)
  ·rw [aG] at h;by_cases ej:n=k
   ·rw [ej];exact .inl hlk
   ·rw [if_neg ej] at h;exact .inl h
  ·rw [aG] at h;by_cases ej:m=k
   ·rw [if_pos ej] at h;refine bp ?_;rw [ej,hk];exact hinn i h
   ·rw [if_neg ej] at h;exact bp h
 have hX:∀ b,¬ c.XX s.h β b→b<w.heap.size→¬ c.XX (ins k (.rmap e sz es2) s.h) β b:=by
  rintro b hb _ (h | ⟨n,h1,h2⟩)
  ·exact hb (.inl h)
  ·exact hb (.inr ⟨n,hlv n h1,h2⟩)
 have hw2:∀ b,¬ c.XX s.h β b→b<w.heap.size→w'.heap[b]? = w.heap[b]? := fun b hb _=>hw b (fun e1=>hb (.inr ⟨k,.inl hlk,e1.symm⟩));refine ⟨r.df,r.sz,fun i=>(r.tm i).mono hw2 hX (fun _ _=>.refl),⟨fun n => ?_,fun i j hi hj e=>r.hp.inj i j (hlv i hi) (hlv j hj) e,r.hp.kp.trans hkp (fun b hb e1=>r.hp.nk k (.inl hlk) (e1 ▸ hb)),fun j hj=>r.hp.nk j (hlv j hj),fun j hj=>r.hp.nx j (hlv j hj),r.hp.fix,fun j hj => ?_⟩⟩
 ·show HO w' (c.XX (ins k (.rmap e sz es2) s.h) β) β κ n (lk .gone (ins k (.rmap e sz es2) s.h) n);rw [aG];by_cases ej:n=k
  ·rw [if_pos ej,ej];refine ⟨ents,clock,hm,hs,hl6,fun i hi => ?_,hborn,hkeys⟩;obtain ⟨a1,a2,a3⟩:=hents i hi;refine ⟨a1,a2,?_⟩;rcases hei i (by omega) with ⟨g4,g5⟩ | g
   ·have hin:∀ z zs',(es.getD i bN).2=some (z::zs')→(lk .gone s.h k).inn i:=fun z zs' h=>by rw [hk];exact ⟨by omega,g4,z,zs',h⟩
    rw [g5] at a3 ⊢;generalize (es.getD i ([],none)).2=o at a3 hin ⊢;match o,a3,hin with
    | none,_,_=>trivial
    | some [],a5,_=>exact a5 (by simp)
    | some (z::zs'),a5,hin =>
     have a5:=a5 (by simp);exact ⟨a5.1,a5.2.1,a5.2.2.mono hw2 hX (hw _ (r.hp.vne hlk (hin z zs' rfl)))⟩
   ·rw [g];trivial
  ·rw [if_neg ej];refine (r.hp.ob n).mono hw2 hX (fun _ _=>.refl) .refl (fun hl => ?_) (fun i hl => ?_)
   ·exact hw _ fun e3=>ej (r.hp.inj n k (.inl hl) (.inl hlk) e3)
   ·exact hw _ (r.hp.vne hlk hl)
 ·have hj:lk .gone (ins k (.rmap e sz es2) s.h) j ≠ .gone:=hj;rw [aG] at hj;by_cases ej:j=k
  ·rw [ej];exact r.hp.sm k hlk
  ·rw [if_neg ej] at hj;exact r.hp.sg j hj
theorem Cr {W:World} {b:Nat} {x:Obj} (h:W.heap[b]? = some x):({ W with heap:=W.heap.setIfInBounds b x }:World)=W:=by
 have:W.heap.setIfInBounds b x=W.heap:=by
  refine Array.ext (by simp) fun i hi1 hi2 => ?_;rw [Array.getElem_setIfInBounds];split
  ·rename_i e1;subst e1;exact (Array.getElem?_eq_some_iff.1 h).2.symm
  ·rfl
 rw [this]
theorem Eg (r:Rel c s a w β κ) {t K E:TypeId} {k:Nat} {e:TypeId} {sz:Nat} {es:jq} {y:List UInt8} {z:Value} (hk:lk .gone s.h k = .rmap e sz es)
 (hu:P.underlying t=some (.map K E)) (hK:P.underlying K=some .string) (hz:zeroOf P E=some z) (hl6:es.length<1000000) (hy:y.length≤maxLen) :
 ∃ (v0:Value) (st:Nat) (w':World),(Instr.mapEntry t (.map (some (β k))) (.string ⟨y.toArray⟩)).run P w = .ok (.tuple #[v0,goInt st]) w'∧(Instr.mapEntry t (.map (some (β k))) (.string ⟨y.toArray⟩)).run P w' = .ok (.tuple #[v0,goInt st]) w' ∧
  Rel c ⟨s.n,s.t,ins k (.rmap e sz (iz y es)) s.h⟩ a w' β κ:=by
 have ho:=r.hp.ob k;rw [hk] at ho;obtain ⟨ents,clock,h1,h2,hl,h3,h4,h5,h6⟩:=qV (P:=P) ho y hK;have hik:MapKept.IsKey .string (Value.string ⟨y.toArray⟩):=by simp [MapKept.IsKey]
 have hck:∀ (e:Bool) (W:World),(Instr.checkKey e 10000 K (.string ⟨y.toArray⟩)).run P W = .ok () W:=fun e W=>MapKept.run_checkKey (k:=.string ⟨y.toArray⟩) hK hik e 9999;rcases h6 with ⟨f1,f2⟩ | ⟨j,hj,f1,f2⟩
 ·have run1:(Instr.mapEntry t (.map (some (β k))) (.string ⟨y.toArray⟩)).run P w = .ok (.tuple #[z,goInt clock]) { w with heap:=w.heap.setIfInBounds (β k) (.map (ents.push { key:=.string ⟨y.toArray⟩,val:=z,born:=clock }) (clock+1)) }:=by simp [Instr.mapEntry,aP hu,bD h1,hck,f1,jg hz,MapKept.run_setObj_map _ h1,Result.andThen]
  have hes:iz y es=es++[(y,none)]:=w5 f2;have hm1:({ w with heap:=w.heap.setIfInBounds (β k) (.map (ents.push { key:=.string ⟨y.toArray⟩,val:=z,born:=clock }) (clock+1)) }:World).heap[β k]? = some (.map (ents.push { key:=.string ⟨y.toArray⟩,val:=z,born:=clock }) (clock+1)):=(MapKept.heap_set h1).1;have hgl:∀ i,i<es.length→(es++[(y,none)]).getD i bN=es.getD i bN:=fun i hi=>by simp [JM,List.getElem?_append_left hi]
  have hgj:(es++[(y,none)]).getD es.length bN=(y,none):=by simp [JM]
  have rel:Rel c ⟨s.n,s.t,ins k (.rmap e sz (iz y es)) s.h⟩ a { w with heap:=w.heap.setIfInBounds (β k) (.map (ents.push { key:=.string ⟨y.toArray⟩,val:=z,born:=clock }) (clock+1)) } β κ:=by
   rw [hes];refine r.entry hk (fun i hi=>(MapKept.heap_set h1).2 i hi) (r9 w _ _) hm1 (by simp [h2]) (by simp;omega) (fun i hi => ?_) (fun i hi => ?_) (fun i j' hi hj' hlt' => ?_) ?_
   ·by_cases e1:i<es.length
    ·exact .inl ⟨e1,hgl i e1⟩
    ·have:i=es.length:=by simp at hi;omega
     subst this;exact .inr (by rw [hgj])
   ·by_cases hi2:i<ents.size
    ·rw [Array.getElem_push_lt hi2,hgl i (by omega)];exact ⟨(h3 i hi2).1,by have:=(h3 i hi2).2.1;omega,fun _=>(h3 i hi2).2.2⟩
    ·have:i=ents.size:=by simp at hi;omega
     subst this;rw [Array.getElem_push_eq];have e0:ents.size=es.length:=h2;refine ⟨?_,by simp,fun h => ?_⟩
     ·show Value.string ⟨y.toArray⟩=_;rw [e0,hgj]
     ·rw [e0,hgj] at h;exact absurd rfl h
   ·by_cases hj2:j'<ents.size
    ·rw [Array.getElem_push_lt hj2,Array.getElem_push_lt (by omega:i<ents.size)];exact h4 i j' (by omega) hj2 hlt'
    ·have:j'=ents.size:=by simp at hj';omega
     subst this;rw [Array.getElem_push_eq,Array.getElem_push_lt hlt'];exact (h3 i hlt').2.1
   ·refine ⟨?_,fun u hu1 => ?_⟩
    ·rw [List.map_append,List.nodup_append];refine ⟨h5.1,by simp,fun u hu1 v' hv' => ?_⟩;simp only [List.map_cons,List.map_nil,List.mem_singleton] at hv';subst hv';obtain ⟨p,hp,rfl⟩:=List.mem_map.1 hu1;obtain ⟨i,hi,rfl⟩:=List.getElem_of_mem hp;have:=f2 i hi;simpa [JM,JN hi] using this
    ·rw [List.map_append,List.mem_append] at hu1;rcases hu1 with hu1 | hu1
     ·exact h5.2 u hu1
     ·simp only [List.map_cons,List.map_nil,List.mem_singleton] at hu1;subst hu1;exact hy
  refine ⟨z,clock,_,run1,?_,rel⟩;have ho2:=rel.hp.ob k;have hk2:lk .gone (ins k (.rmap e sz (iz y es)) s.h) k = .rmap e sz (iz y es):=by rw [aG,if_pos rfl]
  rw [show lk .gone (⟨s.n,s.t,ins k (.rmap e sz (iz y es)) s.h⟩:AS).h k = .rmap e sz (iz y es) from hk2] at ho2;obtain ⟨ents2,clock2,g1,g2,gl,g3,g4,g5,g6⟩:=qV (P:=P) ho2 y hK;rw [hm1] at g1;simp only [JX,Obj.map.injEq] at g1;obtain ⟨rfl,rfl⟩:=g1;rcases g6 with ⟨_,f3⟩ | ⟨j,hj,f3,f4⟩
  ·exfalso;refine f3 es.length (by rw [hes];simp) ?_;rw [hes,hgj]
  ·have hje:j=ents.size:=by
    rw [hes] at f4;by_cases e1:j<es.length
    ·rw [hgl j e1] at f4;exact absurd f4 (f2 j e1)
    ·simp at hj;omega
   subst hje;have hsame:(ents.push { key:=.string ⟨y.toArray⟩,val:=z,born:=clock }).modify ents.size (fun e=>{ e with key:=.string ⟨y.toArray⟩ })=ents.push { key:=.string ⟨y.toArray⟩,val:=z,born:=clock }:=by
    refine Array.ext (by simp) fun i hi1 hi2 => ?_;rw [Array.getElem_modify];split
    ·rename_i e;subst e;simp
    ·rfl
   simp only [Array.getElem_push_eq] at f3;generalize hW:({ w with heap:=w.heap.setIfInBounds (β k) (.map (ents.push { key:=.string ⟨y.toArray⟩,val:=z,born:=clock }) (clock+1)) }:World)=W at hm1 f3 ⊢;have hid:({ W with heap:=W.heap.setIfInBounds (β k) (.map (ents.push { key:=.string ⟨y.toArray⟩,val:=z,born:=clock }) (clock+1)) }:World)=W:=Cr hm1;have:(Instr.mapEntry t (.map (some (β k))) (.string ⟨y.toArray⟩)).run P W = .ok (.tuple #[z,goInt clock]) { W with heap:=W.heap.setIfInBounds (β k) (.map (ents.push { key:=.string ⟨y.toArray⟩,val:=z,born:=clock }) (clock+1)) }:=by simp [-Array.toList_push,Instr.mapEntry,aP hu,bD hm1,hck,f3,MapKept.run_keyThatStays hik,hsame,MapKept.run_setObj_map _ hm1,Result.andThen]
   rw [this,hid]
 ·have hjk:ents[j].key = .string ⟨y.toArray⟩:=by rw [(h3 j hj).1,f2]
  have hsame:ents.modify j (fun e=>{ e with key:=.string ⟨y.toArray⟩ })=ents:=by
   refine Array.ext (by simp) fun i hi1 hi2 => ?_;rw [Array.getElem_modify];split
   ·rename_i e;subst e;exact EV hjk
   ·rfl
  have hid:({ w with heap:=w.heap.setIfInBounds (β k) (.map ents clock) }:World)=w:=Cr h1;have run1:(Instr.mapEntry t (.map (some (β k))) (.string ⟨y.toArray⟩)).run P w = .ok (.tuple #[ents[j].val,goInt ents[j].born]) w:=by
   have:(Instr.mapEntry t (.map (some (β k))) (.string ⟨y.toArray⟩)).run P w = .ok (.tuple #[ents[j].val,goInt ents[j].born]) { w with heap:=w.heap.setIfInBounds (β k) (.map ents clock) }:=by simp [Instr.mapEntry,aP hu,bD h1,hck,f1,JY hj,hjk,MapKept.run_keyThatStays hik,hsame,MapKept.run_setObj_map _ h1,Result.andThen]
   rw [this,hid]
  refine ⟨_,_,w,run1,run1,?_⟩;rw [vE h5.1 (by omega) f2];have hgs:∀ i,i<es.length→(es.set j (y,none)).getD i bN=if j=i then (y,none) else es.getD i bN:=by
   intro i hi;simp only [JM,List.getElem?_set];by_cases e:j=i
   ·subst e;simp [hi]
   ·simp [e]
  refine r.entry hk (fun _ _=>rfl) ⟨rfl,rfl,rfl,Nat.le_refl _,fun _ _=>rfl⟩ h1 (by simp [h2]) (by simp;omega) (fun i hi => ?_) (fun i hi => ?_) h4 ?_
  ·have hi:i<es.length:=by simpa using hi
   rw [hgs i hi];by_cases e1:j=i
   ·rw [if_pos e1];exact .inr rfl
   ·rw [if_neg e1];exact .inl ⟨hi,rfl⟩
  ·rw [hgs i (by omega)];by_cases e1:j=i
   ·subst e1;rw [if_pos rfl];exact ⟨hjk,(h3 j hj).2.1,fun h=>absurd rfl h⟩
   ·rw [if_neg e1];exact ⟨(h3 i hi).1,(h3 i hi).2.1,fun _=>(h3 i hi).2.2⟩
  ·have:(es.set j (y,none)).map (·.1)=es.map (·.1):=by
    rw [List.map_set];refine List.ext_getElem (by simp) fun n hn1 hn2 => ?_;rw [List.getElem_set];split
    ·rename_i e;subst e;have:j<es.length:=by omega
     simp only [List.getElem_map];rw [← f2];simp [JM,JN this]
    ·rfl
   rw [this];exact h5
end
section
variable {P:Program} {l:List Oper}
def wv (e:cE):Bool:=(e.ws.all fun p => !p.2.hasR)&&e.os.all fun p => !p.2.hasR
theorem Dj {α:Type} {p:α→Bool} {k:Nat} {v:α} (hv:p v=true):∀ {l:List (Nat×α)},(l.all fun x=>p x.2)=true→((ins k v l).all fun x=>p x.2)=true
 | [],_=>by simp [ins,hv]
 | (j,u)::l,h=>by
  simp only [List.all_cons,JO] at h;unfold ins;cases Nat.blt k j with
  | true=>simp only [cond_true,List.all_cons,JO];exact ⟨hv,h⟩
  | false =>
   cases Nat.beq k j with
   | true=>simp only [cond_true,cond_false,List.all_cons,JO];exact ⟨hv,h.2⟩
   | false=>simp only [cond_false,List.all_cons,JO];exact ⟨h.1,Dj hv h.2⟩
theorem vV {α:Type} {p:α→Bool} {m:List (Nat×α)} (hm:(m.all fun x=>p x.2)=true):∀ {l:List (Nat×α)},(l.all fun x=>p x.2)=true→((jN l m).all fun x=>p x.2)=true
 | [],_=>hm
 | (k,v)::l,h=>by simp only [List.all_cons,JO] at h;exact Dj h.1 (vV hm h.2)
theorem Fy:∀ (es:List cE) (bs:List Bool) (s:AS),s.noR=true→es.all wv=true→(sL es bs s).noR=true
 | [],bs,s,h,_=>by cases bs<;>exact h
 | e::es,[],s,h,_=>h
 | e::es,b::bs,s,h,he=>by
  simp only [List.all_cons,JO] at he;rw [sL];refine Fy es bs _ ?_ he.2;cases b with
  | false=>exact h
  | true =>
   simp only [AS.noR,JO] at h;have h1:=he.1;simp only [wv,JO] at h1;show ((e.app s).noR)=true;simp only [AS.noR,cE.app,JO];exact ⟨vV (p:=fun v:AV => !v.hasR) h.1 h1.1,vV (p:=fun v:AO => !v.hasR) h.2 h1.2⟩
def rQ (P:Program) (ops:Array Oper) (cl:List (List Nat)) (J:(Nat→Bool)→Act→World→(Nat→Nat)→Prop) (i:Nat) (o:Oper) (s:AS) (e:cE):Prop :=
 ∀ (s':AS) (b:Nat→Bool),qp ops o s s'→(∀ k∈e.fr,DW k s')→(∀ p∈e.ex,FL p.1 p.2 s')→s'.noR=true→b i=false→(∀ j x,b j=true→x∈cl.getD j []→b x=true)→(∀ x∈cl.getD i [],b x=true) →
  ∀ (c:Cx P) a w β κ,Rel c s' a w β κ→J b a w β→∀ (K:Act→World→Prop) (Q:Exit→Act→World→Prop),(∀ s'' a' w' β' κ',ik (e.app s') s''→Rel c s'' a' w' β' κ'→J (upd b i true) a' w' β'→K a' w') →
   if Region.wanted o (yielded ops a.tmps) then o.wp P a w K Q else K (a.put o.dst undef) w
theorem xb {id:Nat} {Q:Exit→AS→Prop} (hm:P.follows .mixedOrders=true) (n:Nat) (es:List cE) {s s1:AS} (J:(Nat→Bool)→Act→World→(Nat→Nat)→Prop) (hchk:(uI l n es s&&AX (kj l []) es s&&AK (kj l []) es s)=true) (hnr:(s.noR&&es.all wv)=true)
 (k1:(l.take n).length=es.length) (k2:s1=sL es (List.replicate es.length true) s) (k3:∀ (i:Nat) (o:Oper) (e:cE),(l.take n)[i]? = some o→es[i]? = some e→rQ P l.toArray (kj l []) J i o (sL es ((List.range es.length).map fun j=>decide (j<i)) s) e) (hJ0:∀ a w β,J (fun _=>false) a w β)
 (ht:fO P l.toArray (l.drop n) Q s1):dL P (.region id l.toArray true) Q s:=fun c a w β κ r=>by
 simp only [JO,uI] at hchk;obtain ⟨⟨⟨⟨⟨⟨c1,c2⟩,c3⟩,c5⟩,c6⟩,c7⟩,c8⟩:=hchk;have hen:es.length=n:=bM.1 c1;have hnl:n≤l.length:=by simpa [Nat.ble_eq] using c2
 rw [JO] at hnr;have htk:∀ i,i<n→(l.take n)[i]? = l[i]? := fun i hi=>by rw [List.getElem?_take,if_pos hi]
 have htail:(∀ i o,n<i→l[i]? = some o→(i-1)∈aft o)∧(n<l.length→∀ j,j<n→j∈(kj l []).getD n []):=by
  cases hd:l.drop n with
  | nil =>
   have hle:l.length≤n:=by simpa using hd
   exact ⟨fun i o hi ho=>by have:=(JW.1 ho).1;omega,fun h=>by omega⟩
  | cons o0 os =>
   rw [hd] at c6;simp only [JO] at c6;refine ⟨fun i o hi ho => ?_,fun _ j hj => ?_⟩
   ·have hget:os[i-(n+1)]? = some o:=by
     have:(l.drop n)[i-n]? = some o:=by rw [List.getElem?_drop,show n+(i-n)=i by omega];exact ho
     rw [hd,show i-n=(i-(n+1))+1 by omega,List.getElem?_cons_succ] at this;exact this
    have:=qb c6.2 _ o hget;rw [show n+(i-(n+1))=i-1 by omega] at this;exact this
   ·obtain ⟨x,hx,hb⟩:=List.any_eq_true.1 (J0.1 c6.1 j (vl hj));have:j=x:=bM.1 hb;subst this;exact hx
 have main:∀ (f:Nat) (listed:Array Bool) (a:Act) (w:World) (β:Nat→Nat) (κ:Nat→Nat×Nat),listed.size=l.length→BM l listed→cntF (listed.toList.take n)=f→(∀ i,n≤i→listed.getD i false=false) →
  Rel c (sL es (listed.toList.take n) s) a w β κ→J (fun j=>listed.getD j false) a w β→wpAny P .any l.toArray (lift c Q) (f+(l.length-n)) listed a w:=by
  intro f;induction f with
  | zero =>
   intro listed a w β κ hs hcl hcnt hun hr hJ;have hml:(listed.toList.take n).length=n:=by simp;omega
   have hall:=r5 hcnt;rw [hml] at hall;rw [hall,← hen,← k2] at hr;have hlist:=ht c a w β κ hr;have hdl:(l.drop n).length=l.length-n:=by simp
   rw [Nat.zero_add,← hdl];refine nS c5 (l.drop n) n listed a w hs (fun j=>by rw [List.getElem?_drop]) (by rw [hdl];omega) (fun i hi => ?_) hun htail.1 hlist;have h1:=mS (listed:=listed) hi (by omega);rw [hall,List.getElem?_replicate,if_pos hi] at h1;exact (JZ h1).symm
  | succ f ih =>
   intro listed a w β κ hs hcl hcnt hun hr hJ;have hml:(listed.toList.take n).length=n:=by simp;omega
   obtain ⟨i0,hi0⟩:=wh (bs:=listed.toList.take n) (by omega);have hi0n:i0<n:=by have:=(JW.1 hi0).1;omega
   have hgf:∀ i,i<n→(listed.toList.take n)[i]? = some (listed.getD i false):=fun i hi=>mS hi (by omega);have hready:∀ i∈Region.ready .any l.toArray listed,i<n∧listed.getD i false=false∧∃ o,l[i]? = some o∧∀ j∈aft o,listed.getD j false=true:=by
    intro i hi;obtain ⟨h4,o,ho,h5⟩:=gm.1 hi;have hil:i<l.length:=(JW.1 ho).1;have h6:listed.getD i false=false:=by simp [JP,JY (show i<listed.size by omega)] at h4 ⊢;exact h4
    refine ⟨?_,h6,o,ho,h5⟩;by_cases hin:i<n
    ·exact hin
    ·exfalso;by_cases e:i=n
     ·subst e;have:=eD hcl l [] (fun j=>by simp) (fun k hk=>by simp at hk) (by simpa using c5) i o ho (by simpa using hil) h5 i0 (htail.2 hil i0 hi0n);rw [hgf i0 hi0n,this] at hi0;cases hi0
     ·have:=h5 _ (htail.1 i o (by omega) ho);rw [hun (i-1) (by omega)] at this;cases this
   rw [show f+1+(l.length-n)=(f+(l.length-n))+1 by omega];refine ⟨fun h0 => ?_,fun i hi => ?_⟩
   ·
    exfalso;have hex:∃ i,i<n∧listed.getD i false=false∧∀ j,j<i→listed.getD j false=true:=by
     have gen:∀ m,(∀ j,j<m→listed.getD j false=true)∨∃ i,i<m∧listed.getD i false=false∧∀ j,j<i→listed.getD j false=true:=by
      intro m;induction m with
      | zero=>exact .inl fun j hj=>by omega
      | succ m ihm =>
       rcases ihm with h | ⟨i,h1,h2,h3⟩
       ·cases hb:listed.getD m false with
        | true =>
         refine .inl fun j hj => ?_;by_cases e:j=m
         ·rw [e];exact hb
         ·exact h j (by omega)
        | false=>exact .inr ⟨m,by omega,hb,h⟩
       ·exact .inr ⟨i,by omega,h2,h3⟩
     rcases gen n with h | ⟨i,h1,h2,h3⟩
     ·have:=h i0 hi0n;rw [hgf i0 hi0n,this] at hi0;cases hi0
     ·exact ⟨i,h1,h2,h3⟩
    obtain ⟨i,h1,h2,h3⟩:=hex;have hil:i<l.length:=by omega
    have:i∈Region.ready .any l.toArray listed:=by
     refine gm.2 ⟨?_,l[i],JN hil,fun j hj=>h3 j ?_⟩
     ·simp [JP,JY (show i<listed.size by omega)] at h2 ⊢;exact h2
     ·have:=mJ c5 i _ (JN hil) j hj;omega
    rw [h0] at this;cases this
   ·obtain ⟨hin,hif,o,ho,haft⟩:=hready i hi;obtain ⟨e,he⟩:∃ e,es[i]? = some e:=⟨es[i]'(by omega),JN (by omega)⟩;have hloc:=k3 i o e (by rw [htk i hin];exact ho) he;have hbi:(listed.toList.take n)[i]? = some false:=by rw [hgf i hin,hif]
    let lex:=(List.range es.length).map fun j=>decide (j<i)
    have hlex:∀ j,j<n→lex[j]? = some (decide (j<i)):=fun j hj=>by simp [lex,hen,hj]
    have hlexl:lex.length=(listed.toList.take n).length:=by simp [lex,hen];omega
    have hord:∀ (j:Nat) (oj:Oper) (ej:cE),l[j]? = some oj→es[j]? = some ej→j≠i →
     (∀ r1 r2,(infos l.toArray (l.take n) es s)[min i j]? = some r1→(infos l.toArray (l.take n) es s)[max i j]? = some r2→nE (if i<j then e else ej) (if i<j then ej else e) r1 r2=true)→(listed.toList.take n)[j]? = lex[j]? := by
     intro j oj ej hoj hej hji hcf;have hjn:j<n:=by have:=(JW.1 hej).1;omega
     have i1:=fH (ops:=l.toArray) (s:=s) k1 i o (by rw [htk i hin];exact ho);have i2:=fH (ops:=l.toArray) (s:=s) k1 j oj (by rw [htk j hjn];exact hoj);rw [hgf j hjn,hlex j hjn];rcases Nat.lt_or_ge j i with hlt | hge
     ·rw [show min i j=j by omega,show max i j=i by omega,if_neg (by omega),if_neg (by omega)] at hcf;have hm:=mN c3 hej i2 he i1 hlt (hcf _ _ i2 i1);have:=eD hcl l [] (fun j=>by simp) (fun k hk=>by simp at hk) (by simpa using c5) i o ho (by simpa using (JW.1 ho).1) haft j hm;rw [this];simp [hlt]
     ·rw [show min i j=i by omega,show max i j=j by omega,if_pos (by omega),if_pos (by omega)] at hcf;have hm:=mN c3 he i1 hej i2 (by omega) (hcf _ _ i1 i2);have:listed.getD j false=false:=by
       cases hb:listed.getD j false with
       | false=>rfl
       | true =>
        have:=eD hcl l [] (fun j=>by simp) (fun k hk=>by simp at hk) (by simpa using c5) j oj hoj (by simpa using (JW.1 hoj).1) (hcl j oj hoj hb) i hm;rw [hif] at this;cases this
      rw [this];simp;omega
    have hoj:∀ (j:Nat) (ej:cE),es[j]? = some ej→∃ oj,l[j]? = some oj:=fun j ej h=>by have:=(JW.1 h).1;exact ⟨l[j]'(by omega),JN (by omega)⟩
    have hii:(listed.toList.take n)[i]? = lex[i]? := by rw [hbi,hlex i hin];simp
    have hagree:qp l.toArray o (sL es lex s) (sL es (listed.toList.take n) s):=by
     refine ⟨by rw [BK,BK],fun t hlt => ?_,fun hmv x hx k hk => ?_⟩
     ·rw [vZ,vZ,ki hlexl.symm fun j ej h1 h2 => ?_];by_cases hji:j=i
      ·rw [hji];exact hii
      obtain ⟨oj,h3⟩:=hoj j ej h1;refine hord j oj ej h3 h1 hji fun r1 r2 q1 q2 => ?_;have i1:=fH (ops:=l.toArray) (s:=s) k1 i o (by rw [htk i hin];exact ho);by_cases hlt2:i<j
      ·rw [if_pos hlt2,if_pos hlt2];rw [show min i j=i by omega,i1] at q1;cases q1;exact CA h2 hlt
      ·rw [if_neg hlt2,if_neg hlt2];rw [show max i j=i by omega,i1] at q2;cases q2;exact Cz h2 hlt
     ·rw [ud,ud,ki hlexl.symm fun j ej h1 h2 => ?_];by_cases hji:j=i
      ·rw [hji];exact hii
      obtain ⟨oj,h3⟩:=hoj j ej h1;refine hord j oj ej h3 h1 hji fun r1 r2 q1 q2 => ?_;have i1:=fH (ops:=l.toArray) (s:=s) k1 i o (by rw [htk i hin];exact ho);have hxm:(sL es lex s).op x∈(bif Ia o.op then [] else o.op.operands.toList.map (sL es lex s).op):=by rw [hmv];exact List.mem_map.2 ⟨x,by simpa using hx,rfl⟩
      by_cases hlt2:i<j
      ·rw [if_pos hlt2,if_pos hlt2];rw [show min i j=i by omega,i1] at q1;cases q1;exact C9 h2 hxm hk
      ·rw [if_neg hlt2,if_neg hlt2];rw [show max i j=i by omega,i1] at q2;cases q2;exact Co h2 hxm hk
    have hfree:∀ k∈e.fr,DW k (sL es (listed.toList.take n) s):=by
     intro k hk;have h1:=J0.1 (J0.1 c7 (e,i) (by rw [List.mem_iff_getElem?];exact ⟨i,by simp [he]⟩)) k hk;simp only [JO] at h1;obtain ⟨f1,f2⟩:=sY h1.1;have hother:∀ (j:Nat) (e':cE),es[j]? = some e'→(listed.toList.take n)[j]? = some true→qf k e'=false:=by
      intro j e' h2 h3;have hne:i≠j:=by rintro rfl;rw [hbi] at h3;cases h3
      have h4:=J0.1 h1.2 (e',j) (by rw [List.mem_iff_getElem?];exact ⟨j,by simp [h2]⟩);simp only [bK hne,Bool.false_or,Bool.or_eq_true,Bool.not_eq_true',JO] at h4;rcases h4 with h4 | ⟨h4,h5⟩
      ·exact h4
      ·exfalso;obtain ⟨x,hx,hb⟩:=List.any_eq_true.1 h5;have hxi:i=x:=bM.1 hb;subst hxi;obtain ⟨oj,hoj'⟩:=hoj j e' h2;have hjn:j<n:=by have:=(JW.1 h2).1;omega
       rw [hgf j hjn] at h3;have hb2:listed.getD j false=true:=JZ h3;have:=eD hcl l [] (fun j=>by simp) (fun k hk=>by simp at hk) (by simpa using c5) j oj hoj' (by simpa using (JW.1 hoj').1) (hcl j oj hoj' hb2) i hx;rw [hif] at this;cases this
     refine ⟨fun t => ?_,fun t => ?_⟩
     ·rw [vZ];cases hv:lw (fun e=>gw e.ws t) es (listed.toList.take n) with
      | none=>exact f1 t
      | some v =>
       obtain ⟨j,e',h2,h3,h4⟩:=ng hv;exact zK (hother j e' h2 h3) h4
     ·rw [ud];cases hv:lw (fun e=>gw e.os t) es (listed.toList.take n) with
      | none=>exact f2 t
      | some v =>
       obtain ⟨j,e',h2,h3,h4⟩:=ng hv;exact zi (hother j e' h2 h3) h4
    have honly:∀ p∈e.ex,FL p.1 p.2 (sL es (listed.toList.take n) s):=by
     rintro ⟨k,t0⟩ hk;have h1:=J0.1 (J0.1 c8 (e,i) (by rw [List.mem_iff_getElem?];exact ⟨i,by simp [he]⟩)) (k,t0) hk;simp only [JO] at h1;obtain ⟨f1,f2⟩:=sW h1.1;have hother:∀ (j:Nat) (e':cE),es[j]? = some e'→(listed.toList.take n)[j]? = some true→mG k t0 e'=false:=by
      intro j e' h2 h3;have hne:i≠j:=by rintro rfl;rw [hbi] at h3;cases h3
      have h4:=J0.1 h1.2 (e',j) (by rw [List.mem_iff_getElem?];exact ⟨j,by simp [h2]⟩);simp only [bK hne,Bool.false_or,Bool.or_eq_true,Bool.not_eq_true',JO] at h4;rcases h4 with h4 | ⟨h4,h5⟩
      ·exact h4
      ·exfalso;obtain ⟨x,hx,hb⟩:=List.any_eq_true.1 h5;have hxi:i=x:=bM.1 hb;subst hxi;obtain ⟨oj,hoj'⟩:=hoj j e' h2;have hjn:j<n:=by have:=(JW.1 h2).1;omega
       rw [hgf j hjn] at h3;have hb2:listed.getD j false=true:=JZ h3;have:=eD hcl l [] (fun j=>by simp) (fun k hk=>by simp at hk) (by simpa using c5) j oj hoj' (by simpa using (JW.1 hoj').1) (hcl j oj hoj' hb2) i hx;rw [hif] at this;cases this
     refine ⟨fun t htt => ?_,fun t => ?_⟩
     ·rw [vZ];cases hv:lw (fun e=>gw e.ws t) es (listed.toList.take n) with
      | none=>exact f1 t htt
      | some v =>
       obtain ⟨j,e',h2,h3,h4⟩:=ng hv;exact xl (hother j e' h2 h3) h4 htt
     ·rw [ud];cases hv:lw (fun e=>gw e.os t) es (listed.toList.take n) with
      | none=>exact f2 t
      | some v =>
       obtain ⟨j,e',h2,h3,h4⟩:=ng hv;exact xw (hother j e' h2 h3) h4
    have hlater:∀ (j:Nat) (e':cE),i<j→es[j]? = some e'→(listed.toList.take n)[j]? = some true→(∀ r1 r2,nE e e' r1 r2=true)→False:=by
     intro j e' hij h1 h2 hcf;obtain ⟨oj,h3⟩:=hoj j e' h1;have:=hord j oj e' h3 h1 (by omega) fun r1 r2 _ _=>by rw [if_pos hij,if_pos hij];exact hcf r1 r2
     have hjn:j<n:=by have:=(JW.1 h1).1;omega
     rw [h2,hlex j hjn] at this;simp at this;omega
    have hcl2:∀ j x,listed.getD j false=true→x∈(kj l []).getD j []→listed.getD x false=true:=by
     intro j x hj hx;have hjl:j<l.length:=by apply Classical.byContradiction;intro hn;rw [JP,Array.getElem?_eq_none (by omega)] at hj;cases hj
     exact eD hcl l [] (fun j=>by simp) (fun k hk=>by simp at hk) (by simpa using c5) j l[j] (JN hjl) (by simpa using hjl) (hcl j _ (JN hjl) hj) x hx
    have hcl3:∀ x∈(kj l []).getD i [],listed.getD x false=true:=fun x hx=>eD hcl l [] (fun j=>by simp) (fun k hk=>by simp at hk) (by simpa using c5) i o ho (by simpa using (JW.1 ho).1) haft x hx;have hop:=hloc _ (fun j=>listed.getD j false) hagree hfree honly (Fy es _ s hnr.1 hnr.2) hif hcl2 hcl3 c a w β κ hr hJ (wpAny P .any l.toArray (lift c Q) (f+(l.length-n)) (listed.setIfInBounds i true)) (lift c Q) (fun s' a' w' β' κ' hs' hr' hJ'=>by
     have hset:∀ j,(listed.setIfInBounds i true).getD j false=if j=i then true else listed.getD j false:=by
      intro j;simp only [JP,Array.getElem?_setIfInBounds];by_cases e:j=i
      ·subst e;rw [if_pos rfl,if_pos (by omega)];simp
      ·rw [if_neg (fun h=>e h.symm),if_neg e]
     have htake:(listed.setIfInBounds i true).toList.take n=(listed.toList.take n).set i true:=by rw [Array.toList_setIfInBounds,List.take_set]
     refine ih (listed.setIfInBounds i true) a' w' β' κ' (by simpa using hs) (fun j oj hoj hl' j' hj' => ?_) ?_ (fun j hj => ?_) ?_ ?_
     ·rw [hset];by_cases e1:j'=i
      ·rw [if_pos e1]
      ·rw [if_neg e1];rw [hset] at hl';by_cases e2:j=i
       ·subst e2;rw [ho] at hoj;cases hoj;exact haft j' hj'
       ·rw [if_neg e2] at hl';exact hcl j oj hoj hl' j' hj'
     ·rw [htake];have:=vX hbi;omega
     ·rw [hset,if_neg (by omega)];exact hun j hj
     ·rw [htake];exact (hr'.same hs'.symm').same (Gb he hbi (fun t ht j e' hij h1 h2=>by
       cases hw:gw e'.ws t with
       | none=>rfl
       | some v=>exact (hlater j e' hij h1 h2 fun r1 r2=>CI ht (by rw [hw];simp)).elim) (fun k hk j e' hij h1 h2=>by
       cases hw:gw e'.os k with
       | none=>rfl
       | some v=>exact (hlater j e' hij h1 h2 fun r1 r2=>CJ hk (by rw [hw];simp)).elim) s)
     ·rw [show (fun j=>(listed.setIfInBounds i true).getD j false)=upd (fun j=>listed.getD j false) i true from funext fun j=>by rw [hset];rfl];exact hJ')
    have hopi:l.toArray[i]? = some o:=by simpa using ho
    unfold wpOp;simp only [hopi];split
    ·rename_i hw;rw [if_pos hw] at hop;exact .inl hop
    ·rename_i hw;rw [if_neg hw] at hop;exact hop
 refine wp_region_any hm ?_;have hrep:((Array.replicate l.toArray.size false).toList.take n)=List.replicate n false:=by simp [List.take_replicate];omega
 have hcf:∀ n,cntF (List.replicate n false)=n:=by
  intro n;induction n with
  | zero=>rfl
  | succ n ih=>rw [List.replicate_succ,cntF,ih];simp;omega
 have hs0:∀ (es:List cE) (n:Nat) (s:AS),sL es (List.replicate n false) s=s:=by
  intro es;induction es with
  | nil=>intro n s;cases n<;>rfl
  | cons e es ih=>intro n s;cases n with
   | zero=>rfl
   | succ n=>rw [List.replicate_succ,sL];exact ih n s
 have hrf:∀ i,(Array.replicate l.toArray.size false).getD i false=false:=by intro i;simp [JP,Array.getElem?_replicate];split<;>simp
 have:=main n (Array.replicate l.toArray.size false) a w.drew β κ (by simp) (fun i o _ h=>by rw [hrf] at h;cases h) (by rw [hrep,hcf]) (fun i _=>hrf i) (by rw [hrep,hs0];exact r.drew) (by rw [show (fun j=>(Array.replicate l.toArray.size false).getD j false)=fun _=>false from funext hrf];exact hJ0 _ _ _);rw [show n+(l.length-n)=l.toArray.size by simp;omega] at this;exact this
end
structure zc where
 t:TypeId
 k:Nat
 y:List UInt8
 t1:Nat
 t2:Nat
 i0:Nat
 i1:Nat
 i2:Nat
section
variable {P:Program} {ops:Array Oper} {o:Oper} {s:AS} {cl:List (List Nat)} {c:zc} {i:Nat}
def J3 (P:Program) (c:zc) (b:Nat→Bool) (a:Act) (w:World) (β:Nat→Nat):Prop :=
 b c.i0=true→b c.i2=false→∃ (v0:Value) (st:Nat),c.y.length≤maxLen∧(Instr.mapEntry c.t (.map (some (β c.k))) (.string ⟨c.y.toArray⟩)).run P w = .ok (.tuple #[v0,goInt st]) w ∧
  (b c.i1=false→a.eval (.tmp c.t1) = .tuple #[v0,goInt st])∧(b c.i1=true→a.eval (.tmp c.t2)=goInt st)
def DK (x:Nat) (l:List Nat):Bool:=l.any (Nat.beq x)
theorem oT {x:Nat} {l:List Nat} (h:DK x l=true):x∈l:=by obtain ⟨y,hy,hb⟩:=List.any_eq_true.1 h;have:x=y:=bM.1 hb;subst this;exact hy
def zc.ok (c:zc) (cl:List (List Nat)):Bool:=DK c.i0 (cl.getD c.i1 [])&&DK c.i0 (cl.getD c.i2 [])&&DK c.i1 (cl.getD c.i2 [])&&(!Nat.beq c.i0 c.i1 && !Nat.beq c.i0 c.i2 && !Nat.beq c.i1 c.i2)
theorem zc.ok_spec (h:c.ok cl=true):c.i0∈cl.getD c.i1 []∧c.i0∈cl.getD c.i2 []∧c.i1∈cl.getD c.i2 []∧c.i0≠c.i1∧c.i0≠c.i2∧c.i1≠c.i2:=by simp only [zc.ok,JO,Bool.not_eq_true'] at h;obtain ⟨⟨⟨h1,h2⟩,h3⟩,⟨h4,h5⟩,h6⟩:=h;exact ⟨oT h1,oT h2,oT h3,fun e=>(by rw [e,Nat.beq_refl] at h4;cases h4),fun e=>(by rw [e,Nat.beq_refl] at h5;cases h5),fun e=>(by rw [e,Nat.beq_refl] at h6;cases h6)⟩
theorem A6 {e:cE} (h:Loc P ops o s e) (hne:i≠c.i0) (hi:i∈cl.getD c.i0 []):rQ P ops cl (J3 P c) i o s e :=
 fun s' b ha hf hx _ hbi hcl _ c' a w β κ r _ K Q hK=>h s' ha hf hx c' a w β κ r K Q fun s'' a' w' β' κ' hs hr=>hK s'' a' w' β' κ' hs hr fun h0 _=>by rw [bf _ hne.symm] at h0;have:=hcl c.i0 i h0 hi;rw [hbi] at this;cases this
theorem DO (hg:gd ops s o=some true) {p:Prop} {v:AV} (hv:fJ P s o.op=some (p,v)) (hp:p) {dst:Nat} (hd:o.dst=some dst) (hn:dst<s.n) (h1:dst≠c.t1) (h2:dst≠c.t2) (n0:i≠c.i0) (n1:i≠c.i1) (n2:i≠c.i2):rQ P ops cl (J3 P c) i o s (.put o.dst v) :=
 fun s' b ha _ _ _ _ _ _ c' a w β κ r hJ K Q hK=>by
  have hv':fJ P s' o.op=some (p,v):=by rw [vf ha];exact hv
  have hg':gd ops s' o=some true:=by rw [bL ha];exact hg
  obtain ⟨dst0,op,ty,pos,af,g⟩:=o;obtain ⟨V,hr,hG⟩:=wq r hv' hp dst0 ty pos af g;rw [fP r hg'];simp only [if_true];unfold Oper.wp;rw [hr];have hd:dst0=some dst:=hd;subst hd;have hput:AS.put s' (some dst) v=some ⟨s'.n,ins dst v s'.t,s'.h⟩:=by simp only [AS.put,show Nat.blt dst s'.n=true by rw [ha.n];simpa [Nat.blt_eq] using hn,cond_true]
  refine hK _ _ _ β κ ?_ (bB r hG hput) fun h0 hh2 => ?_
  ·exact ⟨rfl,fun _=>rfl,fun _=>rfl⟩
  ·rw [bf _ n0.symm] at h0;rw [bf _ n2.symm] at hh2;rw [bf _ n1.symm];obtain ⟨v0,st,q0,q1,q2,q3⟩:=hJ h0 hh2;have ev:∀ l,l≠dst→(a.put (some dst) V).eval (.tmp l)=a.eval (.tmp l):=fun l h=>by simp [Act.put,Act.eval,Ne.symm h]
   exact ⟨v0,st,q0,q1,fun h=>by rw [ev _ (Ne.symm h1)];exact q2 h,fun h=>by rw [ev _ (Ne.symm h2)];exact q3 h⟩
theorem Hm (hg:gd ops s o=some true) {tm:Nat} {x:Operand} {K E:TypeId} {e:TypeId} {sz:Nat} {es es':jq} {z:Value} (hop:o.op = .mapEntry c.t (.tmp tm) x) (hd:o.dst=some c.t1) (hn:c.t1<s.n) (hm:lk .any s.t tm = .amap c.k) {y:List UInt8} (hx:s.op x = .str y) (hy:y=c.y)
 (hk:lk .gone s.h c.k = .rmap e sz es) (hu:P.underlying c.t=some (.map K E)) (hK:P.underlying K=some .string) (hz:zeroOf P E=some z) (hl6:es.length<1000000) (hes:iz c.y es=es') (hc:c.ok cl=true) :
 rQ P ops cl (J3 P c) c.i0 o s ⟨[(c.t1,.any)],[(c.k,.rmap e sz es')],[],[]⟩:=by
 subst hy;subst hes;intro s' b ha _ _ _ hbi hcl _ c' a w β κ r _ K2 Q hK2;obtain ⟨o1,o2,o3,o4,o5,o6⟩:=zc.ok_spec hc;have hmo:Operand.tmp tm∈o.op.operands:=by rw [hop];simp [Op.operands]
 have hm':s'.op (.tmp tm) = .amap c.k:=by rw [bc ha hmo];exact hm
 have hx':s'.op x = .str c.y:=by rw [bc ha (by rw [hop];simp [Op.operands])];exact hx
 have hk':lk .gone s'.h c.k = .rmap e sz es:=by rw [ha.h (by rw [hop];rfl) _ hmo c.k (by show AV.men c.k (lk .any s.t tm)=true;rw [hm];simp [AV.men])];exact hk
 have hM:=r.op (.tmp tm);have hX:=r.op x;rw [hm'] at hM;rw [hx'] at hX;obtain ⟨v0,st,w',r1,r2,rel⟩:=Eg r hk' hu hK hz hl6 hX.str_len;rw [fP r (by rw [bL ha];exact hg)];simp only [if_true];unfold Oper.wp;have he:(execOp a.eval o).run P w = .ok (.value (.tuple #[v0,goInt st])) w':=by simp [execOp,hop,hM.amap_inv,hX.str_inv,r1,Result.andThen]
 rw [he];show K2 (a.put o.dst _) _;rw [hd];have hput:AS.put ⟨s'.n,s'.t,ins c.k (.rmap e sz (iz c.y es)) s'.h⟩ (some c.t1) .any=some ⟨s'.n,ins c.t1 .any s'.t,ins c.k (.rmap e sz (iz c.y es)) s'.h⟩:=by simp only [AS.put,show Nat.blt c.t1 s'.n=true by rw [ha.n];simpa [Nat.blt_eq] using hn,cond_true]
 refine hK2 _ _ _ β κ ⟨rfl,fun _=>rfl,fun _=>rfl⟩ (bB rel (V:=.tuple #[v0,goInt st]) (.d (.any _)) hput) fun h0 h2=>⟨v0,st,hX.str_len,r2,fun _ => ?_,fun h1 => ?_⟩
 ·have:c.t1<a.tmps.size:=by rw [r.sz,ha.n];exact hn
  simp [Act.put,Act.eval,this]
 ·rw [bf _ o4.symm] at h1;have:=hcl c.i1 c.i0 h1 o1;rw [hbi] at this;cases this
theorem Hg (hg:gd ops s o=some true) (hop:o.op = .extract (.tmp c.t1) 1) (hd:o.dst=some c.t2) (hn:c.t2<s.n) (hc:c.ok cl=true) :
 rQ P ops cl (J3 P c) c.i1 o s ⟨[(c.t2,.any)],[],[],[]⟩:=by
 intro s' b ha _ _ _ hbi hcl hcl2 c' a w β κ r hJ K2 Q hK2;obtain ⟨o1,o2,o3,o4,o5,o6⟩:=zc.ok_spec hc;have hb2:b c.i2=false:=by
  cases h:b c.i2 with
  | false=>rfl
  | true=>rw [hcl c.i2 c.i1 h o3] at hbi;cases hbi
 obtain ⟨v0,st,q0,q1,q2,q3⟩:=hJ (hcl2 _ o1) hb2;rw [fP r (by rw [bL ha];exact hg)];simp only [if_true];unfold Oper.wp;have he:(execOp a.eval o).run P w = .ok (.value (goInt st)) w:=by simp [execOp,hop,q2 hbi,Instr.extract,Result.andThen]
 rw [he];show K2 (a.put o.dst _) _;rw [hd];have hput:AS.put s' (some c.t2) .any=some ⟨s'.n,ins c.t2 .any s'.t,s'.h⟩:=by simp only [AS.put,show Nat.blt c.t2 s'.n=true by rw [ha.n];simpa [Nat.blt_eq] using hn,cond_true]
 refine hK2 _ _ _ β κ ⟨rfl,fun _=>rfl,fun _=>rfl⟩ (bB r (V:=goInt st) (.d (.any _)) hput) fun h0 h2=>⟨v0,st,q0,q1,fun h1 => ?_,fun _ => ?_⟩
 ·rw [aj] at h1;cases h1
 ·have:c.t2<a.tmps.size:=by rw [r.sz,ha.n];exact hn
  simp [Act.put,Act.eval,this]
theorem Hp (hg:gd ops s o=some true) {tm tv q:Nat} {K E:TypeId} {e:TypeId} {sz:Nat} {es es':jq} {zs:List (List AV)} {z:Value} (hop:o.op = .entryStore c.t (.tmp tm) (.tmp c.t2) (.tmp tv)) (hd:o.dst=none) (hm:lk .any s.t tm = .amap c.k) (hv:lk .any s.t tv = .rslice q)
 (hq:lk .gone s.h q = .row e sz zs) (hk:lk .gone s.h c.k = .rmap e sz es) (hu:P.underlying c.t=some (.map K E)) (hK:P.underlying K=some .string) (hz:zeroOf P E=some z) (hl6:es.length<1000000) (hes:eO c.y zs es=es') (hc:c.ok cl=true) :
 rQ P ops cl (J3 P c) c.i2 o s ⟨[(tv,.any)],[(q,.gone),(c.k,.rmap e sz es')],[],[(q,tv)]⟩:=by
 subst hes;intro s' b ha _ hx hnr hbi hcl hcl2 c' a w β κ r hJ K2 Q hK2;obtain ⟨o1,o2,o3,o4,o5,o6⟩:=zc.ok_spec hc;obtain ⟨x1,x2⟩:=hx (q,tv) (by simp);obtain ⟨v0,st,q0,q1,q2,q3⟩:=hJ (hcl2 _ o2) hbi;have q3:=q3 (hcl2 _ o3);have hmo:Operand.tmp tm∈o.op.operands:=by rw [hop];simp [Op.operands]
 have hvo:Operand.tmp tv∈o.op.operands:=by rw [hop];simp [Op.operands]
 have hm':s'.op (.tmp tm) = .amap c.k:=by rw [bc ha hmo];exact hm
 have hv':s'.op (.tmp tv) = .rslice q:=by rw [bc ha hvo];exact hv
 have hk':lk .gone s'.h c.k = .rmap e sz es:=by rw [ha.h (by rw [hop];rfl) _ hmo c.k (by show AV.men c.k (lk .any s.t tm)=true;rw [hm];simp [AV.men])];exact hk
 have hq':lk .gone s'.h q = .row e sz zs:=by rw [ha.h (by rw [hop];rfl) _ hvo q (by show AV.men q (lk .any s.t tv)=true;rw [hv];simp [AV.men])];exact hq
 have hM:=r.op (.tmp tm);have hV:=r.op (.tmp tv);rw [hm'] at hM;rw [hv'] at hV;obtain ⟨j,ents',clock',g1,_,⟨ob,g3⟩,v1,st1,ents1,clock1,g4,g5⟩:=pV r hq' hk' hnr hu hK hz hl6 q0 hV;rw [q1] at g4;simp only [Result.ok.injEq,Value.tuple.injEq] at g4;obtain ⟨g6,g7⟩:=g4;have hst:goInt st=goInt st1:=by have:=congrArg (fun x:Array Value=>x.getD 1 undef) g6;simpa using this
 have hblk:w.heap[β c.k]? = some (.map ents1 clock1):=by have h8:=congrArg World.heap g7;have:({ w with heap:=w.heap.setIfInBounds (β c.k) (.map ents1 clock1) }:World).heap[β c.k]? = some (.map ents1 clock1):=(MapKept.heap_set g3).1;rw [← h8] at this;exact this
 have g8:=g5 w hblk;rw [fP r (by rw [bL ha];exact hg)];simp only [if_true];unfold Oper.wp;have he:(execOp a.eval o).run P w = .ok .skip { w with heap:=w.heap.setIfInBounds (β c.k) (.map ents' clock') }:=by simp [execOp,hop,hM.amap_inv,q3,hst,g8,Result.andThen]
 rw [he];show K2 (a.put o.dst _) _;rw [hd];have rel:=g1 { w with heap:=w.heap.setIfInBounds (β c.k) (.map ents' clock') } (fun i hi=>(MapKept.heap_set g3).2 i hi) (r9 w _ _) (MapKept.heap_set g3).1;refine hK2 (s'.stow c.k q e sz (eO c.y zs es)) _ _ _ _ ⟨rfl,fun i => ?_,fun n => ?_⟩ rel fun _ h2 => ?_
 ·show lk .any (gi q s'.t) i=lk .any (jN [(tv,.any)] s'.t) i;rw [b8,cP];simp only [gw];by_cases e1:i=tv
  ·subst e1;have hv2:lk .any s'.t i = .rslice q:=hv';simp [hv2,AV.pg,AV.men]
  ·rw [bK e1,AV.pg_free (x1 i e1)];rfl
 ·show lk .gone (rm q (dh q (ins c.k (.rmap e sz (eO c.y zs es)) s'.h))) n=lk .gone (jN [(q,.gone),(c.k,.rmap e sz (eO c.y zs es))] s'.h) n;rw [cP,iT,cn,aG];simp only [gw];by_cases e1:n=q
  ·subst e1;simp
  ·rw [if_neg e1,bK e1];simp only [cond_false];by_cases e2:n=c.k
   ·subst e2;simp [AO.pg]
   ·rw [if_neg e2,bK e2,AO.pg_free (x2 n)];rfl
 ·rw [aj] at h2;cases h2
end
section
variable {P:Program} {ops:Array Oper} {o:Oper} {s:AS}
def GJ:List AV→Option (List Value)
 | []=>some []
 | .int k n::l=>match GJ l with | some vs=>some (.int k n::vs) | none=>none
 | _::_=>none
theorem zk {w:World} {X:Nat→Prop} {β:Nat→Nat} {κ:Nat→Nat×Nat}:∀ {l:List AV} {us vs:List Value},GJ l=some us→vs.length=l.length→(∀ i,i<l.length→G w X β κ (l.getD i .any) (vs.getD i undef))→vs=us
 | [],us,vs,h,hl,_=>by cases h;exact List.eq_nil_of_length_eq_zero hl
 | v::l,us,[],h,hl,_=>by simp at hl
 | v::l,us,u::vs,h,hl,hg=>by
  cases v with
  | int k n =>
   simp only [GJ] at h;split at h
   ·rename_i us' hu;cases h;have h0:G w X β κ (.int k n) u:=by simpa using hg 0 (by simp)
    have h1:=zk (w:=w) (X:=X) (β:=β) (κ:=κ) (vs:=vs) hu (by simpa using hl) fun i hi=>by simpa using hg (i+1) (by simpa using hi)
    rw [h0.int_inv,h1]
   ·cases h
  | _=>cases h
theorem Ht {w:World} {X:Nat→Prop}:∀ {l:List AV} {us:List Value},GJ l=some us→us.length=l.length∧∀ i,i<l.length→D w X (l.getD i .any) (us.getD i undef)
 | [],us,h=>by cases h;exact ⟨rfl,fun i hi=>by simp at hi⟩
 | v::l,us,h=>by
  cases v with
  | int k n =>
   simp only [GJ] at h;split at h
   ·rename_i us' hu;cases h;obtain ⟨h1,h2⟩:=Ht (w:=w) (X:=X) hu;refine ⟨by simp [h1],fun i hi => ?_⟩;cases i with
    | zero=>exact .int k n
    | succ i=>simpa using h2 i (by simpa using hi)
   ·cases h
  | _=>cases h
def ES (P:Program) (s:AS) (op:Op) (v:AV):Option (List Prop) :=
 match op with
 | .call ⟨.value x,ar,_⟩=>match s.op x,v with
  | .fn f [],.tup cs=>match GJ (s.args ar []),GJ cs with
   | some vs,some us=>some [∀ w:World,(callFunc f vs.toArray).run P w = .ok (.value (.tuple us.toArray)) w]
   | _,_=>none
  | _,_=>none
 | _=>none
theorem Ig {x:Operand} {ar:Array Operand} {tys:Array TypeId} {f:FuncId} {cs:List AV} {vs us:List Value} (hg:gd ops s o=some true) (hop:o.op = .call ⟨.value x,ar,tys⟩) (hx:s.op x = .fn f []) (h1:GJ (s.args ar [])=some vs) (h2:GJ cs=some us)
 (hc:∀ w:World,(callFunc f vs.toArray).run P w = .ok (.value (.tuple us.toArray)) w) {s1:AS} (h:s.put o.dst (.tup cs)=some s1):Loc P ops o s (.put o.dst (.tup cs)) :=
 jX rfl h fun s' ha s2 h2'=>by
  have hxx:s'.op x=s.op x:=bc ha (by simp [hop,Op.operands,Call.operands]);have har:∀ y∈ar,s'.op y=s.op y:=fun y hy=>bc ha (by simp [hop,Op.operands,Call.operands,hy]);have e1:s'.args ar []=s.args ar []:=by unfold AS.args;rw [List.map_congr_left (fun y hy=>har y (by simpa using hy))]
  refine bV (by rw [bL ha];exact hg) fun c a w β κ r => ?_;have hX:=r.op x;rw [hxx,hx] at hX;obtain ⟨Vs,eV,hl,hgs⟩:=hX.fn_inv;obtain ⟨a1,a2⟩:=my r ar hl hgs;rw [e1] at a1 a2;have hvs:=zk h1 (vs:=(ar.map a.eval++Vs).toList) (by simpa using a1) a2;have hrun:(execOp a.eval o).run P w = .ok (.value (.tuple us.toArray)) w:=by simp only [execOp,hop,resolve,eV,Deferred.ofValue,pure_bind,invoke,Array.empty_append];rw [show ar.map a.eval++Vs=vs.toArray by rw [← hvs]];exact hc w
  obtain ⟨d1,d2⟩:=Ht (w:=w) (X:=c.XX s'.h β) h2;exact ⟨_,w,β,κ,.inl hrun,bB r (.d (.tup cs us.toArray (by simp [d1]) fun i hi=>by have:=d2 i hi;simpa [JM,JP] using this)) h2'⟩
end
abbrev tQ:=List (Option (List (List AV)))
section
variable {P:Program} {ops:Array Oper} {o:Oper} {s:AS} {c:Cx P} {a:Act} {w:World} {β:Nat→Nat} {κ:Nat→Nat×Nat}
theorem BB (es:tQ) (j:Nat) (v:Option (List (List AV))) (i:Nat) (hj:j<es.length):(es.set j v).getD i none=if i=j then v else es.getD i none:=by
 simp only [JM,List.getElem?_set];by_cases e:j=i
 ·subst e;simp [hj]
 ·rw [if_neg e,if_neg (fun h=>e h.symm)]
theorem Rel.weakR (r:Rel c s a w β κ) {k j:Nat} {eo e:TypeId} {sz:Nat} {es:tQ} (hk:lk .gone s.h k = .rrow eo e sz es) (hj:j<es.length) :
 Rel c ⟨s.n,s.t,ins k (.rrow eo e sz (es.set j none)) s.h⟩ a w β κ∧(∀ n,lv (ins k (.rrow eo e sz (es.set j none)) s.h) n→lv s.h n)∧(∀ n,lv (ins k (.rrow eo e sz (es.set j none)) s.h) n→n≠gk k j) ∧
 ∀ X':Nat→Prop,(∀ b,¬ c.XX s.h β b→b<w.heap.size→¬ X' b)→∀ n,HO w X' β κ n (lk .gone (ins k (.rrow eo e sz (es.set j none)) s.h) n):=by
 have hne:es≠[]:=by intro e1;subst e1;simp at hj
 have hlive:(lk .gone s.h k).live:=by rw [hk];exact hne
 have ho:=r.hp.ob k;rw [hk] at ho;obtain ⟨o1,o2,o3⟩:=ho;have hj6:j<1000000:=by omega
 have hinn:∀ i,(AO.rrow eo e sz (es.set j none)).inn i→(AO.rrow eo e sz es).inn i∧i≠j:=by
  rintro i ⟨h1,h2,y,ys,h3⟩;rw [BB es j none i hj] at h3;by_cases e1:i=j
  ·rw [if_pos e1] at h3;cases h3
  ·rw [if_neg e1] at h3;exact ⟨⟨h1,by simpa using h2,y,ys,h3⟩,e1⟩
 have hlv:∀ n,lv (ins k (.rrow eo e sz (es.set j none)) s.h) n→lv s.h n:=by
  rintro n (h | ⟨m,i,rfl,h⟩)
  ·rw [aG] at h;by_cases ej:n=k
   ·rw [ej];exact .inl hlive
   ·rw [if_neg ej] at h;exact .inl h
  ·rw [aG] at h;by_cases ej:m=k
   ·rw [if_pos ej] at h;refine bp ?_;rw [ej,hk];exact (hinn i h).1
   ·rw [if_neg ej] at h;exact bp h
 have hX:∀ b,¬ c.XX s.h β b→b<w.heap.size→¬ c.XX (ins k (.rrow eo e sz (es.set j none)) s.h) β b:=by
  rintro b hb _ (h | ⟨n,h1,h2⟩)
  ·exact hb (.inl h)
  ·exact hb (.inr ⟨n,hlv n h1,h2⟩)
 have hHO:∀ X':Nat→Prop,(∀ b,¬ c.XX s.h β b→b<w.heap.size→¬ X' b)→∀ n,HO w X' β κ n (lk .gone (ins k (.rrow eo e sz (es.set j none)) s.h) n):=by
  intro X' hX n;rw [aG];by_cases ej:n=k
  ·rw [if_pos ej,ej];refine ⟨by rw [o1];simp,by simpa using o2,fun _ => ?_⟩;obtain ⟨cur,h1,h2,h3,h4,h5⟩:=o3 hne;refine ⟨cur,h1,h2,by simpa using h3,h4,fun i hi => ?_⟩;have a3:=h5 i (by simpa using hi);rw [BB es j none i hj];by_cases e1:i=j
   ·rw [if_pos e1];trivial
   ·rw [if_neg e1];generalize es.getD i none=o at a3 ⊢;match o,a3 with
    | none,_=>trivial
    | some [],h5=>exact h5
    | some (x::xs),h5=>exact ⟨h5.1,h5.2.1,h5.2.2.mono (fun _ _ _=>rfl) hX rfl⟩
  ·rw [if_neg ej];exact (r.hp.ob n).mono (fun _ _ _=>rfl) hX (fun _ _=>.refl) .refl (fun _=>rfl) (fun _ _=>rfl)
 refine ⟨⟨r.df,r.sz,fun i=>(r.tm i).mono (fun _ _ _=>rfl) hX (fun _ _=>.refl),⟨hHO _ hX,fun i j hi hj e=>r.hp.inj i j (hlv i hi) (hlv j hj) e,r.hp.kp,fun j hj=>r.hp.nk j (hlv j hj),fun j hj=>r.hp.nx j (hlv j hj),r.hp.fix,fun n hn => ?_⟩⟩,hlv,fun n hn => ?_,hHO⟩
 ·have hn:lk .gone (ins k (.rrow eo e sz (es.set j none)) s.h) n ≠ .gone:=hn;rw [aG] at hn;by_cases ej:n=k
  ·rw [ej];exact r.hp.sm k hlive
  ·rw [if_neg ej] at hn;exact r.hp.sg n hn
 ·rintro rfl;rcases hn with h | ⟨m,i,e1,h⟩
  ·rw [aG] at h;by_cases ej:gk k j=k
   ·have:=cq k j;have:=r.hp.sm k hlive;omega
   ·rw [if_neg ej] at h;have:=r.hp.sm _ h;have:=cq k j;omega
  ·rw [aG] at h;by_cases ej:m=k
   ·rw [if_pos ej] at h;have hi:=(AO.inn_isR h).1;obtain ⟨_,rfl⟩:=dJ hj6 hi e1;exact (hinn j h).2 rfl
   ·rw [if_neg ej] at h;exact ej (dJ hj6 (AO.inn_isR h).1 e1).1.symm
def AS.takeR (s:AS) (k q:Nat) (eo e:TypeId) (sz:Nat) (zs:List (List AV)) (es':tQ):AS :=
 ⟨s.n,ins q (.rslice q) (gi q s.t),ins q (.row e sz zs) (dh q (ins k (.rrow eo e sz es') s.h))⟩
theorem Rel.takeR_in (r:Rel c s a w β κ) {k q j:Nat} {eo e:TypeId} {sz:Nat} {es:tQ} {zs:List (List AV)} {V:Value} (hq:q<s.n∧q<1000) (hk:lk .gone s.h k = .rrow eo e sz es) (hjl:j<es.length) (hj:es.getD j none=some zs) (hz:zs≠[])
 (hV:AU w (c.XX s.h β) (β (gk k j)) (κ (gk k j)) e sz V (some zs)):∃ β' κ',Rel c (s.takeR k q eo e sz zs (es.set j none)) (a.put (some q) V) w β' κ':=by
 obtain ⟨y,ys,rfl⟩:∃ y ys,zs=y::ys:=by cases zs with | nil=>exact absurd rfl hz | cons y ys=>exact ⟨y,ys,rfl⟩
 obtain ⟨v1,v2,v3⟩:=hV;have hj6:j<1000000:=by have ho:=r.hp.ob k;rw [hk] at ho;have:=ho.2.1;omega
 have hinn:(lk .gone s.h k).inn j:=by rw [hk];exact ⟨hj6,hjl,y,ys,hj⟩
 obtain ⟨r1,w1,w2,w3⟩:=r.weakR hk hjl;have r2:=r1.pg q;have hlvp:∀ n,lv (dh q (ins k (.rrow eo e sz (es.set j none)) s.h)) n→lv (ins k (.rrow eo e sz (es.set j none)) s.h) n:=fun n h=>by rw [j7] at h;exact h
 have hXb:c.XX s.h β (β (gk k j)):=.inr ⟨_,bp hinn,rfl⟩;have hsub:∀ b,¬ c.XX s.h β b→b<w.heap.size→¬ (c.XX (dh q (ins k (.rrow eo e sz (es.set j none)) s.h)) β b∨b=β (gk k j)):=by
  rintro b hb _ ((h | ⟨n,h1,h2⟩) | rfl)
  ·exact hb (.inl h)
  ·exact hb (.inr ⟨n,w1 n (hlvp n h1),h2⟩)
  ·exact hb hXb
 have hXs:∀ b,¬ c.XX s.h β b→b<w.heap.size→¬ c.XX (ins q (.row e sz (y::ys)) (dh q (ins k (.rrow eo e sz (es.set j none)) s.h))) (upd β q (β (gk k j))) b:=by
  rintro b hb _ (h | ⟨n,h1,h2⟩)
  ·exact hb (.inl h)
  ·rcases ed (o:=.row e sz (y::ys)) (by omega) (fun _ h=>h) h1 with ⟨e1,_⟩ | ⟨e1,h1⟩
   ·subst e1;rw [aj] at h2;exact hb (h2 ▸ hXb)
   ·rw [bf β e1] at h2;exact hb (.inr ⟨n,w1 n (hlvp n h1),h2⟩)
 obtain ⟨g1,g2⟩:=r2.hp.rebind (w':=w) (k':=q) (b:=β (gk k j)) hq.2 (fun j _=>by rw [cn];exact AO.men_pg q _) (κ (gk k j)) (ob:=.row e sz (y::ys))
  (r.hp.nx _ (bp hinn)) (r.hp.nk _ (bp hinn)) (fun n hn e1=>w2 n (hlvp n hn) (r.hp.inj n _ (w1 n (hlvp n hn)) (bp hinn) e1)) (fun _ _=>rfl) (cr.refl _ _)
  ⟨by rw [aj];exact v1,fun _=>by obtain ⟨cur,h1,h2,h3,h4,h0,h5,h6⟩:=v3;exact ⟨cur,by rw [aj];exact h1,by rw [aj];exact h2,by rw [aj];exact h3,by rw [aj];exact h4,h0,h5,fun i l hi hl=>(h6 i l hi hl).mono (fun _ _ _=>rfl) hXs⟩⟩
  (fun n=>by rw [cn];exact (w3 _ hsub n).pg)
 refine ⟨_,_,r.df,by simp [Act.put,r.sz,AS.takeR],fun i => ?_,g1⟩;show G w (c.XX (ins q (.row e sz (y::ys)) (dh q (ins k (.rrow eo e sz (es.set j none)) s.h))) (upd β q (β (gk k j)))) (upd β q (β (gk k j))) (upd κ q (κ (gk k j))) (lk .any (ins q (.rslice q) (gi q s.t)) i) _;rw [aG];by_cases hi:i=q
 ·subst hi;have hi':i<a.tmps.size:=by rw [r.sz];exact hq.1
  have:=G.rslice (w:=w) (X:=c.XX (ins i (.row e sz (y::ys)) (dh i (ins k (.rrow eo e sz (es.set j none)) s.h))) (upd β i (β (gk k j)))) (β:=upd β i (β (gk k j))) (κ:=upd κ i (κ (gk k j))) i (by rw [aj,v1];simp);rw [aj,aj,← v2] at this;simpa [Act.put,JP,Array.getElem?_setIfInBounds,hi'] using this
 ·rw [if_neg hi];have g0:G w (fun b=>c.XX (dh q (ins k (.rrow eo e sz (es.set j none)) s.h)) β b∨b=β (gk k j)) β κ (lk .any (gi q s.t) i) (a.tmps.getD i undef):=by rw [b8];exact ((r.tm i).pg q).mono (fun _ _ _=>rfl) hsub (fun _ _=>.refl)
  have:=g2 g0 (by rw [b8];exact AV.men_pg q _);have hne:¬ q=i:=fun e=>hi e.symm;simpa [Act.put,JP,Array.getElem?_setIfInBounds,hne] using this
theorem Rel.takeR_empty (r:Rel c s a w β κ) {k q j:Nat} {eo e:TypeId} {sz:Nat} {es:tQ} {ad:Option Addr} (hq:q<s.n∧q<1000) (hk:lk .gone s.h k = .rrow eo e sz es) (hjl:j<es.length):∃ κ',Rel c (s.takeR k q eo e sz [] (es.set j none)) (a.put (some q) (.slice ad 0 0)) w β κ':=by
 obtain ⟨r1,_⟩:=r.weakR hk hjl;have hput:AS.put ⟨s.n,s.t,ins k (.rrow eo e sz (es.set j none)) s.h⟩ (some q) .eslice=some ⟨s.n,ins q .eslice s.t,ins k (.rrow eo e sz (es.set j none)) s.h⟩:=by simp only [AS.put,show Nat.blt q s.n=true by simpa [Nat.blt_eq] using hq.1,cond_true]
 have r2:=bB r1 (v:=.eslice) (V:=.slice ad 0 0) (.d (.eslice ad)) hput;have her:AS.erow ⟨s.n,ins q .eslice s.t,ins k (.rrow eo e sz (es.set j none)) s.h⟩ q q e sz=some ⟨s.n,ins q (.rslice q) (gi q (ins q .eslice s.t)),ins q (.row e sz []) (dh q (ins k (.rrow eo e sz (es.set j none)) s.h))⟩:=by
  have h0:lk .any (ins q .eslice s.t) q = .eslice:=by rw [aG,if_pos rfl]
  simp only [AS.erow,h0,show Nat.blt q 1000=true by simpa [Nat.blt_eq] using hq.2,cond_true]
 obtain ⟨κ',r3⟩:=r2.erow her;refine ⟨κ',r3.same ⟨rfl,fun i => ?_,fun _=>rfl⟩⟩;show lk .any (ins q (.rslice q) (gi q s.t)) i=lk .any (ins q (.rslice q) (gi q (ins q .eslice s.t))) i;rw [aG,aG,b8,b8,aG];by_cases h:i=q
 ·rw [if_pos h,if_pos h]
 ·rw [if_neg h,if_neg h,if_neg h]
end
section
variable {P:Program} {ops:Array Oper} {o:Oper} {s:AS} {c:Cx P} {a:Act} {w:World} {β:Nat→Nat} {κ:Nat→Nat×Nat}
def AS.stowR (s:AS) (k q:Nat) (eo e:TypeId) (sz:Nat) (es':tQ):AS:=⟨s.n,gi q s.t,rm q (dh q (ins k (.rrow eo e sz es') s.h))⟩
theorem Rel.stowR (r:Rel c s a w β κ) {k q j:Nat} {eo e:TypeId} {sz:Nat} {es:tQ} {zs:List (List AV)} {V:Value} (hq:lk .gone s.h q = .row e sz zs) (hk:lk .gone s.h k = .rrow eo e sz es) (hnoR:s.noR=true) (hjl:j<es.length) {w':World}
 {cur new:Array Value} (hw:∀ i,i≠β k→w'.heap[i]? = w.heap[i]?) (hkp:cr (fun i=>i≠β k) w w') (h1:w.heap[β k]? = some (.cells cur eo (0,0))) (hm:w'.heap[β k]? = some (.cells new eo (0,0)))
 (hs:new.size=cur.size) (hnew:∀ i,new.getD i undef=if i=j then V else cur.getD i undef) (hV:G w (c.XX s.h β) β κ (.rslice q) V) :
 Rel c (s.stowR k q eo e sz (es.set j (some zs))) a w' (upd β (gk k j) (β q)) (upd κ (gk k j) (κ q)):=by
 have hne:es≠[]:=by intro e1;subst e1;simp at hjl
 have hlk:(lk .gone s.h k).live:=by rw [hk];exact hne
 have hok:=r.hp.ob k;rw [hk] at hok;obtain ⟨o1,o2,o3⟩:=hok;obtain ⟨cur',p1,p2,p3,p4,p5⟩:=o3 hne;rw [h1] at p1;simp only [JX,Obj.cells.injEq] at p1;obtain ⟨rfl,_⟩:=p1;have hj6:j<1000000:=by omega
 have hk6:=r.hp.sm k hlk;have hq6:q<1000000:=r.hp.sg q (by rw [hq];exact fun h=>by cases h);have hkq:k≠q:=fun e1=>by rw [e1,hq] at hk;cases hk
 have hgne:∀ n,n<1000000→n≠gk k j:=fun n hn e1=>by have:=cq k j;omega
 have b2:∀ n,n≠gk k j→upd β (gk k j) (β q) n=β n∧upd κ (gk k j) (κ q) n=κ n:=fun n h=>⟨bf β h,bf κ h⟩;have hat:=fun i=>BB es j (some zs) i hjl;have hlk2:∀ n,lk .gone (s.stowR k q eo e sz (es.set j (some zs))).h n=if n=q then .gone else if n=k then .rrow eo e sz (es.set j (some zs)) else AO.pg q (lk .gone s.h n):=fun n=>by
  show lk .gone (rm q (dh q (ins k (.rrow eo e sz (es.set j (some zs))) s.h))) n=_;rw [iT,cn,aG];by_cases h1:n=q
  ·rw [if_pos h1,if_pos h1]
  ·rw [if_neg h1,if_neg h1];by_cases h2:n=k
   ·rw [if_pos h2,if_pos h2];rfl
   ·rw [if_neg h2,if_neg h2]
 have hlv:∀ n,lv (s.stowR k q eo e sz (es.set j (some zs))).h n→(n=gk k j∧zs≠[])∨(lv s.h n∧n≠q∧n≠gk k j):=by
  rintro n (h | ⟨m,i,rfl,h⟩)
  ·rw [hlk2] at h;by_cases h1:n=q
   ·rw [if_pos h1] at h;exact h.elim
   ·rw [if_neg h1] at h;by_cases h2:n=k
    ·exact .inr ⟨by rw [h2];exact .inl hlk,h1,hgne n (by omega)⟩
    ·rw [if_neg h2,AO.live_pg] at h;exact .inr ⟨.inl h,h1,hgne n (r.hp.sm n h)⟩
  ·rw [hlk2] at h;have hne:gk m i≠q:=by have:=cq m i;omega
   by_cases h1:m=q
   ·rw [if_pos h1] at h;exact h.elim
   ·rw [if_neg h1] at h;by_cases h2:m=k
    ·rw [if_pos h2] at h;obtain ⟨g1,g2,z,zs',g3⟩:=h;rw [hat] at g3;by_cases h3:i=j
     ·refine .inl ⟨by rw [h2,h3],?_⟩;rw [if_pos h3] at g3;intro e1;rw [e1] at g3;cases g3
     ·rw [if_neg h3] at g3;refine .inr ⟨bp ?_,hne,fun e1=>h3 (dJ g1 hj6 e1).2⟩;rw [h2,hk];exact ⟨g1,by simpa using g2,z,zs',g3⟩
    ·rw [if_neg h2,AO.inn_pg] at h;exact .inr ⟨bp h,hne,fun e1=>h2 (dJ (AO.inn_isR h).1 hj6 e1).1⟩
 have hqlive:zs≠[]→(lk .gone s.h q).live:=fun h=>by rw [hq];exact h
 have hX:∀ b,¬ c.XX s.h β b→b<w.heap.size→¬ c.XX (s.stowR k q eo e sz (es.set j (some zs))).h (upd β (gk k j) (β q)) b:=by
  rintro b hb _ (h | ⟨n,h1,h2⟩)
  ·exact hb (.inl h)
  ·rcases hlv n h1 with ⟨e1,hz⟩ | ⟨h3,_,h4⟩
   ·rw [e1,aj] at h2;exact hb (.inr ⟨q,.inl (hqlive hz),h2⟩)
   ·rw [(b2 n h4).1] at h2;exact hb (.inr ⟨n,h3,h2⟩)
 have hw2:∀ b,¬ c.XX s.h β b→b<w.heap.size→w'.heap[b]? = w.heap[b]? := fun b hb _=>hw b (fun e1=>hb (.inr ⟨k,.inl hlk,e1.symm⟩));have hmn:∀ {v:AV},AV.hasR v=false→∀ n,AV.men n v=true→upd β (gk k j) (β q) n=β n∧upd κ (gk k j) (κ q) n=κ n:=fun {v} hr n hn=>b2 n (hgne n (men_lt hr hn));refine ⟨r.df,r.sz,fun i => ?_,⟨fun n => ?_,fun n n' hn hn' e1 => ?_,r.hp.kp.trans hkp (fun b hb e1=>r.hp.nk k (.inl hlk) (e1 ▸ hb)),fun n hn => ?_,fun n hn => ?_,fun n hn hn6 => ?_,fun n hn => ?_⟩⟩
 ·show G w' (c.XX (s.stowR k q eo e sz (es.set j (some zs))).h (upd β (gk k j) (β q))) (upd β (gk k j) (β q)) (upd κ (gk k j) (κ q)) (lk .any (gi q s.t) i) _;rw [b8];have hR:=AV.hasR_pg (k:=q) (AS.noR_t hnoR i);exact ((r.tm i).pg q).mono2 hw2 hX hR (hmn hR)
 ·show HO w' (c.XX (s.stowR k q eo e sz (es.set j (some zs))).h (upd β (gk k j) (β q))) (upd β (gk k j) (β q)) (upd κ (gk k j) (κ q)) n (lk .gone (s.stowR k q eo e sz (es.set j (some zs))).h n);rw [hlk2];by_cases h1:n=q
  ·rw [if_pos h1];trivial
  ·rw [if_neg h1];by_cases h2:n=k
   ·rw [if_pos h2,h2];refine ⟨by rw [(b2 k (hgne k hk6)).2,o1];simp,by simpa using o2,fun _=>⟨new,by rw [(b2 k (hgne k hk6)).1];exact hm,by rw [(b2 k (hgne k hk6)).2,hs];exact p2,by rw [(b2 k (hgne k hk6)).2];simpa using p3,by rw [(b2 k (hgne k hk6)).2];exact p4,fun i hi => ?_⟩⟩;have hi:i<es.length:=by simpa using hi
    rw [hat,hnew];by_cases h3:i=j
    ·subst h3;rw [if_pos rfl,if_pos rfl,aj,aj];have ho:=r.hp.ob q;rw [hq] at ho;cases zs with
     | nil =>
      rcases hV.rslice_inv with ⟨h0,_⟩ | ⟨h0,ad,e2⟩
      ·rw [ho.1] at h0;simp at h0
      ·exact ⟨h0,ad,e2⟩
     | cons z zs =>
      rcases hV.rslice_inv with ⟨h0,e2⟩ | ⟨h0,_⟩
      ·obtain ⟨cur,q1,q2,q3,q4,q5,q6,q7⟩:=ho.2 (by simp);have hb:w'.heap[β q]? = w.heap[β q]? := hw _ fun e3=>hkq (r.hp.inj k q (.inl hlk) (.inl (hqlive (by simp))) e3.symm);exact ⟨ho.1,e2,xj.mono hw2 hX ⟨cur,q1,q2,q3,q4,q5,q6,q7⟩ hb⟩
      ·rw [ho.1] at h0;simp at h0
    ·rw [if_neg h3,if_neg h3];have hne:gk k i≠gk k j:=fun e3=>h3 (dJ (by omega) hj6 e3).2;rw [(b2 _ hne).1,(b2 _ hne).2];have a5:=p5 i hi;have hin:∀ z zs',es.getD i none=some (z::zs')→(lk .gone s.h k).inn i:=fun z zs' h=>by rw [hk];exact ⟨by omega,hi,z,zs',h⟩
     generalize es.getD i none=o at a5 hin ⊢;match o,a5,hin with
     | none,_,_=>trivial
     | some [],a5,_=>exact a5
     | some (z::zs'),a5,hin=>exact ⟨a5.1,a5.2.1,a5.2.2.mono hw2 hX (hw _ (r.hp.vne hlk (hin z zs' rfl)))⟩
   ·rw [if_neg h2];have hR:=AO.hasR_pg (k:=q) (AS.noR_h hnoR n);by_cases hg0:lk .gone s.h n = .gone
    ·rw [hg0];trivial
    ·have hn6:=r.hp.sg n hg0;refine ((r.hp.ob n).pg (j:=q)).mono2 hw2 hX hR (fun l hl=>b2 l (hgne l (AO.men_lt hR hl))) ⟨(b2 n (hgne n hn6)).1,(b2 n (hgne n hn6)).2,fun i hi=>b2 _ (fun e3=>h2 (dJ hi hj6 e3).1)⟩ (fun hl => ?_) (fun i hl => ?_)
     ·rw [AO.live_pg] at hl;exact hw _ fun e3=>h2 (r.hp.inj n k (.inl hl) (.inl hlk) e3)
     ·rw [AO.inn_pg] at hl;exact hw _ (r.hp.vne hlk hl)
 ·rcases hlv n hn with ⟨e2,hz⟩ | ⟨h3,h4,h5⟩<;>rcases hlv n' hn' with ⟨e3,hz'⟩ | ⟨h6,h7,h8⟩
  ·rw [e2,e3]
  ·rw [e2,aj,(b2 n' h8).1] at e1;exact absurd (r.hp.inj q n' (.inl (hqlive hz)) h6 e1).symm h7
  ·rw [e3,aj,(b2 n h5).1] at e1;exact absurd (r.hp.inj n q h3 (.inl (hqlive hz')) e1) h4
  ·rw [(b2 n h5).1,(b2 n' h8).1] at e1;exact r.hp.inj n n' h3 h6 e1
 ·rcases hlv n hn with ⟨e2,hz⟩ | ⟨h3,_,h5⟩
  ·rw [e2,aj];exact r.hp.nk q (.inl (hqlive hz))
  ·rw [(b2 n h5).1];exact r.hp.nk n h3
 ·rcases hlv n hn with ⟨e2,hz⟩ | ⟨h3,_,h5⟩
  ·rw [e2,aj];exact r.hp.nx q (.inl (hqlive hz))
  ·rw [(b2 n h5).1];exact r.hp.nx n h3
 ·rw [(b2 n (hgne n hn6)).1,(b2 n (hgne n hn6)).2];exact r.hp.fix n hn hn6
 ·have hn:lk .gone (s.stowR k q eo e sz (es.set j (some zs))).h n ≠ .gone:=hn;rw [hlk2] at hn;by_cases h1:n=q
  ·rw [if_pos h1] at hn;exact absurd rfl hn
  ·rw [if_neg h1] at hn;by_cases h2:n=k
   ·rw [h2];exact hk6
   ·rw [if_neg h2] at hn;exact r.hp.sg n (fun e3=>hn (by rw [e3];rfl))
theorem CZ (r:Rel c s a w β κ) {t:TypeId} {k q j:Nat} {eo e:TypeId} {sz:Nat} {es:tQ} {zs:List (List AV)} {X Y:Value} (hx:G w (c.XX s.h β) β κ (.hptr k j) X) (hy:G w (c.XX s.h β) β κ (.rslice q) Y)
 (hsz:kH P t=some 1) (hq:lk .gone s.h q = .row e sz zs) (hk:lk .gone s.h k = .rrow eo e sz es) (hnoR:s.noR=true) (hjl:j<es.length) :
 ∃ w',(Instr.storeAt t X Y).run P w = .ok () w'∧Rel c (s.stowR k q eo e sz (es.set j (some zs))) a w' (upd β (gk k j) (β q)) (upd κ (gk k j) (κ q)):=by
 have hne:es≠[]:=by intro e1;subst e1;simp at hjl
 have hok:=r.hp.ob k;rw [hk] at hok;obtain ⟨o1,o2,o3⟩:=hok;obtain ⟨cur,p1,p2,p3,p4,p5⟩:=o3 hne;have hYc:Y.cells = #[Y]∧Y.oneCell'=true:=by rcases hy.rslice_inv with ⟨_,e1⟩ | ⟨_,ad,e1⟩<;>rw [e1]<;>exact ⟨rfl,rfl⟩
 have hend:j+1≤cur.size:=by rw [p2];omega
 have hst:=run_storeCells_at P (β k) j eo [Y] 0 cur w p1 (by simp;omega) (fun v hv=>by simp only [List.mem_singleton] at hv;rw [hv];exact hYc.2);simp only [Nat.add_zero,List.length_singleton] at hst;let new:Array Value:=(cur.toList.take j++[Y]++cur.toList.drop (j+1)).toArray
 have hnewsz:new.size=cur.size:=by simp [new];omega
 have hnew:∀ i,new.getD i undef=if i=j then Y else cur.getD i undef:=by
  intro i;have hN:new.getD i undef=(cur.toList.take j++[Y]++cur.toList.drop (j+1)).getD i undef:=by simp [new,JP,JM]
  have hl1:(cur.toList.take j).length=j:=by simp;omega
  rw [hN];by_cases h4:i<j
  ·rw [if_neg (by omega),List.append_assoc,bH (by omega),getD_take _ _ _ _ h4];simp [JP,JM]
  ·by_cases h5:i=j
   ·rw [if_pos h5,List.append_assoc,ba (by omega),hl1,h5,Nat.sub_self];rfl
   ·rw [if_neg h5,ba (by simp;omega),dQ];have:j+1+(i-(cur.toList.take j++[Y]).length)=i:=by simp;omega
    rw [this];simp [JP,JM]
 refine ⟨w.setRow (β k) new,?_,?_⟩
 ·rw [hx.hptr_inv];simp only [Instr.storeAt,Instr.sureAddr,pure_bind,storeVar,Sem.run_bind,run_sizeOf hsz,Result.andThen];rw [hYc.1];rw [if_neg (by simp)];exact hst
 ·exact r.stowR hq hk hnoR hjl (fun i hi=>bj _ _ _ hi) ⟨rfl,rfl,rfl,by simp [World.setRow],fun b hb=>bj _ _ _ hb⟩ p1 (eB w _ cur eo new p1) hnewsz hnew hy
theorem Ib {t:TypeId} {x y:Operand} {k q j:Nat} {eo e:TypeId} {sz:Nat} {es:tQ} {zs:List (List AV)} (hg:gd ops s o=some true) (hop:o.op = .store t x y) (hd:o.dst=none) (hx:s.op x = .hptr k j) (hy:s.op y = .rslice q)
 (hsz:kH P t=some 1) (hq:lk .gone s.h q = .row e sz zs) (hk:lk .gone s.h k = .rrow eo e sz es) (hnoR:s.noR=true) (hjl:j<es.length):iA P ops o s (· = s.stowR k q eo e sz (es.set j (some zs))) :=
 bV hg fun c a w β κ r=>by obtain ⟨w',hr,r'⟩:=CZ r (by have:=r.op x;rwa [hx] at this) (by have:=r.op y;rwa [hy] at this) hsz hq hk hnoR hjl;refine ⟨undef,w',_,_,.inr ⟨?_,rfl⟩,by rw [hd];exact r'⟩;simp only [execOp,hop,Sem.run_bind,hr,Result.andThen];rfl
theorem Eu {t:TypeId} {x:Operand} {k q j:Nat} {eo e:TypeId} {sz:Nat} {es:tQ} {zs:List (List AV)} (hg:gd ops s o=some true) (hop:o.op = .load t x) (hd:o.dst=some q) (hx:s.op x = .hptr k j)
 (hag:As P t=some false) (hk:lk .gone s.h k = .rrow eo e sz es) (hjl:j<es.length) (hj:es.getD j none=some zs) (hq:q<s.n∧q<1000):iA P ops o s (· = s.takeR k q eo e sz zs (es.set j none)) :=
 bV hg fun c a w β κ r=>by
  have hX:=r.op x;rw [hx] at hX;have hne:es≠[]:=by intro e1;subst e1;simp at hjl
  have hok:=r.hp.ob k;rw [hk] at hok;obtain ⟨o1,o2,o3⟩:=hok;obtain ⟨cur,p1,p2,p3,p4,p5⟩:=o3 hne;have hc:=a8 p1 (i:=j) (by rw [p2];omega);have hr:(execOp a.eval o).run P w = .ok (.value (cur.getD j undef)) w:=by
   have h2:(Instr.loadAt t (a.eval x)).run P w = .ok (cur.getD j undef) w:=by rw [hX.hptr_inv];simp [Instr.loadAt,Instr.sureAddr,loadVar,run_isAgg hag,hc,go_sem]
   simp only [execOp,hop,Sem.run_bind,h2,Result.andThen];rfl
  have hv:=p5 j hjl;rw [hj] at hv;rw [hd];cases zs with
  | nil =>
   obtain ⟨_,ad,hv2⟩:=hv;obtain ⟨κ',r'⟩:=r.takeR_empty (ad:=ad) hq hk hjl;exact ⟨_,w,β,κ',.inl hr,by rw [hv2];exact r'⟩
  | cons z zs =>
   obtain ⟨β',κ',r'⟩:=r.takeR_in (j:=j) hq hk hjl hj (by simp) hv;exact ⟨_,w,β',κ',.inl hr,r'⟩
theorem GA {t:TypeId} {x:Operand} {k q j:Nat} {eo e:TypeId} {sz:Nat} {es es':tQ} {zs:List (List AV)} (hg:gd ops s o=some true) (hop:o.op = .load t x) (hd:o.dst=some q) (hx:s.op x = .hptr k j)
 (hag:As P t=some false) (hk:lk .gone s.h k = .rrow eo e sz es) (hjl:j<es.length) (hj:es.getD j none=some zs) (he:es.set j none=es') (hq:(Nat.blt q s.n&&Nat.blt q 1000)=true) :
 Loc P ops o s ⟨[(q,.rslice q)],[(q,.row e sz zs),(k,.rrow eo e sz es')],[q],[]⟩:=by
 subst he;intro s' ha hf _;have hfk:=hf q (by simp);simp only [JO,Nat.blt_eq] at hq;have hxo:x∈o.op.operands:=by rw [hop];simp [Op.operands]
 have hx':s'.op x = .hptr k j:=by rw [bc ha hxo];exact hx
 have hk':lk .gone s'.h k = .rrow eo e sz es:=by rw [ha.h (by rw [hop];rfl) _ hxo k (by rw [hx];simp [AV.men])];exact hk
 refine (Eu (by rw [bL ha];exact hg) hop hd hx' hag hk' hjl hj ⟨by rw [ha.n];exact hq.1,hq.2⟩).mono fun s'' e1 => ?_;subst e1;have hfh:∀ i,AO.men q (lk .gone (ins k (.rrow eo e sz (es.set j none)) s'.h) i)=false:=fun i=>by
  rw [aG];split
  ·rfl
  ·exact hfk.2 i
 refine ⟨rfl,fun i => ?_,fun i => ?_⟩
 ·show lk .any (ins q (.rslice q) (gi q s'.t)) i=lk .any (jN [(q,.rslice q)] s'.t) i;rw [aG,cP,b8,AV.pg_free (hfk.1 i)];simp only [gw];by_cases e:i=q
  ·subst e;simp
  ·rw [if_neg e,bK e];rfl
 ·show lk .gone (ins q (.row e sz zs) (dh q (ins k (.rrow eo e sz (es.set j none)) s'.h))) i=lk .gone (jN [(q,.row e sz zs),(k,.rrow eo e sz (es.set j none))] s'.h) i;rw [aG,cP,cn,AO.pg_free (hfh i)];simp only [gw];by_cases e:i=q
  ·subst e;simp
  ·rw [if_neg e,bK e,aG];simp only [cond_false];by_cases e2:i=k
   ·subst e2;simp
   ·rw [if_neg e2,bK e2];rfl
end
section
variable {P:Program} {ops:Array Oper} {o:Oper} {s:AS} {c:Cx P} {a:Act} {w:World} {β:Nat→Nat} {κ:Nat→Nat×Nat}
theorem yZ (es:tQ) (v:Option (List (List AV))) (i:Nat):(i<es.length→(es++[v]).getD i none=es.getD i none)∧(i=es.length→(es++[v]).getD i none=v):=by
 refine ⟨fun h => ?_,fun h => ?_⟩
 ·simp [JM,List.getElem?_append_left h]
 ·subst h;simp [JM]
theorem Rel.growR (r:Rel c s a w β κ) {k:Nat} {eo e:TypeId} {sz:Nat} {es:tQ} (hk:lk .gone s.h k = .rrow eo e sz es) (hk3:k<1000) (hnoR:s.noR=true) {w':World} {b2 C:Nat} {arr:Array Value} {ad:Option Addr}
 (hw:∀ i,i≠b2→i<w.heap.size→w'.heap[i]? = w.heap[i]?) (hkp:cr c.K c.W w') (hb:(b2=β k∧es≠[])∨w.heap.size≤b2) (hm:w'.heap[b2]? = some (.cells arr eo (0,0))) (hs:arr.size=C*1) (hC:es.length+1≤C) (hCm:C≤maxLen) (hl:es.length<1000000)
 (hold:∀ i,i<es.length→AU w (c.XX s.h β) (β (gk k i)) (κ (gk k i)) e sz (arr.getD i undef) (es.getD i none)) (hnew:arr.getD es.length undef = .slice ad 0 0) :
 Rel c ⟨s.n,gi k s.t,ins k (.rrow eo e sz (es++[some []])) (dh k s.h)⟩ a w' (upd β k b2) (upd (upd κ k (C,es.length+1)) (gk k es.length) (0,0)):=by
 have hk6:k<1000000:=by omega
 have hgk:∀ i,gk k i≠k:=fun i e1=>by have:=cq k i;omega
 have hlive:es≠[]→(lk .gone s.h k).live:=fun h=>by rw [hk];exact h
 have hlk2:∀ n,lk .gone (ins k (.rrow eo e sz (es++[some []])) (dh k s.h)) n=if n=k then .rrow eo e sz (es++[some []]) else AO.pg k (lk .gone s.h n):=fun n=>by rw [aG,cn]
 have hinn:∀ i,(AO.rrow eo e sz (es++[some []])).inn i→(lk .gone s.h k).inn i∧i<es.length:=by
  rintro i ⟨h1,h2,y,ys,h3⟩;by_cases h4:i<es.length
  ·rw [(yZ es (some []) i).1 h4] at h3;refine ⟨?_,h4⟩;rw [hk];exact ⟨h1,h4,y,ys,h3⟩
  ·rw [(yZ es (some []) i).2 (by simp at h2;omega)] at h3;cases h3
 have hlv:∀ n,lv (ins k (.rrow eo e sz (es++[some []])) (dh k s.h)) n→n=k∨(lv s.h n∧n≠k):=by
  rintro n (h | ⟨m,i,rfl,h⟩)
  ·rw [hlk2] at h;by_cases h2:n=k
   ·exact .inl h2
   ·rw [if_neg h2,AO.live_pg] at h;exact .inr ⟨.inl h,h2⟩
  ·rw [hlk2] at h;have hne:gk m i≠k:=by have:=cq m i;omega
   by_cases h2:m=k
   ·rw [if_pos h2] at h;exact .inr ⟨bp (by rw [h2];exact (hinn i h).1),hne⟩
   ·rw [if_neg h2,AO.inn_pg] at h;exact .inr ⟨bp h,hne⟩
 have b1:∀ n,n≠k→upd β k b2 n=β n:=fun n h=>bf β h;have hX:∀ b,¬ c.XX s.h β b→b<w.heap.size→¬ c.XX (ins k (.rrow eo e sz (es++[some []])) (dh k s.h)) (upd β k b2) b:=by
  rintro b hb2 hlt (h | ⟨n,h1,h2⟩)
  ·exact hb2 (.inl h)
  ·rcases hlv n h1 with rfl | ⟨h3,h4⟩
   ·rw [aj] at h2;rcases hb with ⟨e1,e2⟩ | e1
    ·exact hb2 (.inr ⟨n,.inl (hlive e2),by rw [← e1];exact h2⟩)
    ·omega
   ·rw [b1 n h4] at h2;exact hb2 (.inr ⟨n,h3,h2⟩)
 have hnb:∀ n,lv s.h n→n≠k→β n≠b2:=by
  intro n hn hne e1;rcases hb with ⟨e2,e3⟩ | e2
  ·exact hne (r.hp.inj n k hn (.inl (hlive e3)) (e1.trans e2))
  ·have:=r.hp.lt hn;omega
 have hw2:∀ b,¬ c.XX s.h β b→b<w.heap.size→w'.heap[b]? = w.heap[b]? := fun b hb2 hlt=>hw b (fun e1=>by
  rcases hb with ⟨e2,e3⟩ | e2
  ·exact hb2 (.inr ⟨k,.inl (hlive e3),(e1.trans e2).symm⟩)
  ·omega) hlt
 have hk1:upd (upd κ k (C,es.length+1)) (gk k es.length) (0,0) k=(C,es.length+1):=by rw [bf _ (Ne.symm (hgk _)),aj]
 have hko:∀ n,n≠k→n≠gk k es.length→upd (upd κ k (C,es.length+1)) (gk k es.length) (0,0) n=κ n:=fun n h1 h2=>by rw [bf _ h2,bf _ h1]
 have hgne:∀ n,n<1000000→n≠gk k es.length:=fun n hn e1=>by have:=cq k es.length;omega
 have hmn:∀ {v:AV},AV.hasR (AV.pg k v)=false→∀ n,AV.men n (AV.pg k v)=true→upd β k b2 n=β n∧upd (upd κ k (C,es.length+1)) (gk k es.length) (0,0) n=κ n:=fun {v} hr n hn=>by
  have h1:n≠k:=fun e1=>by subst e1;rw [AV.men_pg] at hn;cases hn
  exact ⟨b1 n h1,hko n h1 (hgne n (men_lt hr hn))⟩
 refine ⟨r.df,r.sz,fun i => ?_,⟨fun n => ?_,fun n n' hn hn' e1 => ?_,hkp,fun n hn => ?_,fun n hn => ?_,fun n hn hn6 => ?_,fun n hn => ?_⟩⟩
 ·show G w' (c.XX (ins k (.rrow eo e sz (es++[some []])) (dh k s.h)) (upd β k b2)) (upd β k b2) _ (lk .any (gi k s.t) i) _;rw [b8];have hR:=AV.hasR_pg (k:=k) (AS.noR_t hnoR i);exact ((r.tm i).pg k).mono2 hw2 hX hR (hmn hR)
 ·show HO w' (c.XX (ins k (.rrow eo e sz (es++[some []])) (dh k s.h)) (upd β k b2)) (upd β k b2) _ n (lk .gone (ins k (.rrow eo e sz (es++[some []])) (dh k s.h)) n);rw [hlk2];by_cases h2:n=k
  ·rw [if_pos h2,h2];refine ⟨by rw [hk1];simp,by simp;omega,fun _=>⟨arr,by rw [aj];exact hm,by rw [hk1];exact hs,by rw [hk1];simpa using hC,by rw [hk1];exact hCm,fun i hi => ?_⟩⟩;by_cases h4:i<es.length
   ·rw [(yZ es (some []) i).1 h4,b1 _ (hgk i),hko _ (hgk i) (fun e3=>by have:=(dJ (by omega) hl e3).2;omega)];have a5:=hold i h4;have hin:∀ z zs',es.getD i none=some (z::zs')→(lk .gone s.h k).inn i:=fun z zs' h=>by rw [hk];exact ⟨by omega,h4,z,zs',h⟩
    generalize es.getD i none=o at a5 hin ⊢;match o,a5,hin with
    | none,_,_=>trivial
    | some [],a5,_=>exact a5
    | some (z::zs'),a5,hin =>
     have hi9:=bp (hin z zs' rfl);exact ⟨a5.1,a5.2.1,a5.2.2.mono hw2 hX (hw _ (hnb _ hi9 (hgk i)) (r.hp.lt hi9))⟩
   ·have h5:i=es.length:=by simp at hi;omega
    rw [(yZ es (some []) i).2 h5,h5,hnew,aj];exact ⟨rfl,ad,rfl⟩
  ·rw [if_neg h2];have hR:=AO.hasR_pg (k:=k) (AS.noR_h hnoR n);by_cases hg0:lk .gone s.h n = .gone
   ·rw [hg0];trivial
   ·have hn6:=r.hp.sg n hg0;refine ((r.hp.ob n).pg (j:=k)).mono2 hw2 hX hR (fun l hl => ?_) ⟨b1 n h2,hko n h2 (hgne n hn6),fun i hi=>⟨b1 _ (fun e3=>by have:=cq n i;omega),hko _ (fun e3=>by have:=cq n i;omega) (fun e3=>h2 (dJ hi hl e3).1)⟩⟩ (fun hl => ?_) (fun i hl => ?_)
    ·have h1:l≠k:=fun e1=>by subst e1;rw [AO.men_pg] at hl;cases hl
     exact ⟨b1 l h1,hko l h1 (hgne l (AO.men_lt hR hl))⟩
    ·rw [AO.live_pg] at hl;exact hw _ (hnb n (.inl hl) h2) (r.hp.lt (.inl hl))
    ·rw [AO.inn_pg] at hl;exact hw _ (hnb _ (bp hl) (fun e3=>by have:=cq n i;omega)) (r.hp.lt (bp hl))
 ·rcases hlv n hn with e2 | ⟨h3,h4⟩<;>rcases hlv n' hn' with e3 | ⟨h6,h7⟩
  ·rw [e2,e3]
  ·rw [e2,aj,b1 n' h7] at e1;exact absurd e1.symm (hnb n' h6 h7)
  ·rw [e3,aj,b1 n h4] at e1;exact absurd e1 (hnb n h3 h4)
  ·rw [b1 n h4,b1 n' h7] at e1;exact r.hp.inj n n' h3 h6 e1
 ·rcases hlv n hn with e2 | ⟨h3,h4⟩
  ·rw [e2,aj];rcases hb with ⟨e3,e4⟩ | e3
   ·rw [e3];exact r.hp.nk k (.inl (hlive e4))
   ·intro hK;have:=c.hK _ hK;have:=r.hp.kp.size;omega
  ·rw [b1 n h4];exact r.hp.nk n h3
 ·rcases hlv n hn with e2 | ⟨h3,h4⟩
  ·rw [e2,aj];rcases hb with ⟨e3,e4⟩ | e3
   ·rw [e3];exact r.hp.nx k (.inl (hlive e4))
   ·intro hK;have:=c.hX _ hK;have:=r.hp.kp.size;omega
  ·rw [b1 n h4];exact r.hp.nx n h3
 ·rw [b1 n (by omega),hko n (by omega) (hgne n hn6)];exact r.hp.fix n hn hn6
 ·have hn:lk .gone (ins k (.rrow eo e sz (es++[some []])) (dh k s.h)) n ≠ .gone:=hn;rw [hlk2] at hn;by_cases h2:n=k
  ·rw [h2];exact hk6
  ·rw [if_neg h2] at hn;exact r.hp.sg n (fun e3=>hn (by rw [e3];rfl))
def AS.growR (s:AS) (k d:Nat) (eo e:TypeId) (sz:Nat) (es':tQ):AS:=⟨s.n,ins d (.rslice k) (gi k s.t),ins k (.rrow eo e sz es') (dh k s.h)⟩
theorem Iv {x y:Operand} {t eo e:TypeId} {sz by_ k d:Nat} {es:tQ} (hg:gd ops s o=some true) (hop:o.op = .call ⟨.builtin .append,#[x,y],#[t,t]⟩) (hd:o.dst=some d) (he:dY P t=some (eo,1,by_)) (hx:s.op x = .rslice k) (hk:lk .gone s.h k = .rrow eo e sz es)
 (hy:s.op y = .dslice [[.eslice]]) (hkd:k<1000∧d<s.n) (hnoR:s.noR=true) (hb:(es.length+1)*by_≤140737488355328) (hl:es.length<1000000):iA P ops o s (· = s.growR k d eo e sz (es++[some []])) :=
 bV hg fun c a w β κ r=>by
  obtain ⟨hu,i,z,hi,hz,hi1,rfl,hzs,hsz⟩:=fy he;have hX:=r.op x;have hY:=r.op y;rw [hx] at hX;rw [hy] at hY;obtain ⟨eYd,ad2,cap2,eY,_⟩:=hY.dslice_inv;have hE:EL 1 [[AV.eslice]]:=EL.one rfl rfl;obtain ⟨bd,cap,news,e1,n1,n2,n3,n4⟩:=qC eYd hE (by simp);simp only [List.length_singleton,Nat.one_mul] at n1 e1;have hn0:=n4 0 0 (by simp) (by omega);obtain ⟨v,rfl⟩:∃ v,news=[v]:=by
   cases news with
   | nil=>simp at n1
   | cons v l=>cases l with | nil=>exact ⟨v,rfl⟩ | cons _ _=>simp at n1
  have hv:∃ ad,v = .slice ad 0 0:=by
   have h9:D w (c.XX s.h β) .eslice v:=hn0;cases h9 with
   | eslice ad=>exact ⟨ad,rfl⟩
  obtain ⟨ad,rfl⟩:=hv;have hexec:∀ {V V' w'},a.eval x=V'→(Builtin.append_ #[t,t] o.type #[V',a.eval y]).run P w = .ok V w'→(execOp a.eval o).run P w = .ok (.value V) w':=by intro V V' w' e1 hr;simp only [execOp,hop,resolve,invoke,builtin,Sem.run_bind,Sem.run_pure,Result.andThen_ok,List.map_toArray,List.map_cons,List.map_nil,e1,hr]
  have hput:∀ {β' κ' w'} (b2 C:Nat),Rel c ⟨s.n,gi k s.t,ins k (.rrow eo e sz (es++[some []])) (dh k s.h)⟩ a w' β' κ'→β' k=b2→κ' k=(C,es.length+1)→Rel c (s.growR k d eo e sz (es++[some []])) (a.put o.dst (.slice (some ⟨b2,0,none⟩) (es.length+1) C)) w' β' κ':=by
   intro β' κ' w' b2 C r' h1 h2;rw [hd];refine bB r' (v:=.rslice k) ?_ (by simp only [AS.put,show Nat.blt d s.n=true by simpa [Nat.blt_eq] using hkd.2,cond_true];rfl);have:=G.rslice (w:=w') (X:=c.XX (ins k (.rrow eo e sz (es++[some []])) (dh k s.h)) β') (β:=β') (κ:=κ') k (by rw [h2];simp)
   rwa [h1,h2] at this
  have hkk:∀ C,upd (upd κ k (C,es.length+1)) (gk k es.length) (0,0) k=(C,es.length+1):=fun C=>by rw [bf _ (fun e1=>by have:=cq k es.length;omega),aj]
  have ho:=r.hp.ob k;rw [hk] at ho;obtain ⟨o1,o2,o3⟩:=ho;by_cases hes:es=[]
  ·subst hes;obtain ⟨adx,eX⟩:∃ adx,a.eval x = .slice adx 0 0:=by
    rcases hX.rslice_inv with ⟨h0,_⟩ | ⟨_,adx,e2⟩
    ·rw [o1] at h0;simp at h0
    ·exact ⟨adx,e2⟩
   let C:=grownCap w 1 0 eo
   have hC:1≤C:=grownCap_ge w _ _ _;have hCm:C≤maxLen:=grownCap_le_maxLen w _ _ _ (by unfold maxLen;omega);let arr:Array Value:=[Value.slice ad 0 0].toArray++Builtin.zeroCells z.cells (C-1)
   simp only [List.length_nil,Nat.zero_add] at hb;have hrun:(Builtin.append_ #[t,t] o.type #[.slice adx 0 0,a.eval y]).run P w = .ok (.slice (some ⟨w.heap.size,0,none⟩) 1 C) (w.drew.alloc (.cells arr eo)):=by
    rw [e1];cases adx with
    | none=>exact run_append_nil (P:=P) w t o.type eo i z hu hi hz bd 1 cap [.slice ad 0 0] (by simp [hi1]) n2 (by omega) (by omega) (by omega)
    | some b0 =>
     have:=run_append_grow (P:=P) w t o.type eo i z hu hi hz b0 0 0 [] (by simp) (fun j v hv=>by simp at hv) bd 1 cap [.slice ad 0 0] (by simp [hi1]) n2 (by omega) (by omega) (growslice_fits (by omega) (by simpa using hb));simpa [arr,C] using this
   have hsz2:arr.size=C*1:=by simp only [arr,Array.size_append,List.size_toArray,size_zeroCells,hzs,hi1,List.length_singleton];omega
   have r':=r.growR (w':=w.drew.alloc (.cells arr eo)) (b2:=w.heap.size) (C:=C) (arr:=arr) (ad:=ad) hk hkd.1 hnoR (fun b _ hb=>dW w.drew _ hb) (r.drew.hp.kp.trans (dU c.K w.drew _ r.Klt) (fun _ h=>h)) (.inr (Nat.le_refl _)) (fF w.drew _) hsz2 hC hCm hl (fun i hi=>by simp at hi) (by simp [arr,JP,Array.getElem?_append]);exact ⟨_,_,_,_,.inl (hexec eX hrun),hput w.heap.size C r' (aj _ _ _) (hkk C)⟩
  ·obtain ⟨cur,q1,q2,q3,q4,q5⟩:=o3 hes;have eX:a.eval x = .slice (some ⟨β k,0,none⟩) es.length (κ k).1:=by
    rcases hX.rslice_inv with ⟨h0,e2⟩ | ⟨h0,_,e2⟩
    ·rw [e2,o1]
    ·rw [o1] at h0;exact absurd (List.eq_nil_of_length_eq_zero h0) hes
   by_cases hroom:es.length+1≤(κ k).1
   ·have hfit:es.length*i.size+1≤cur.size:=by rw [hi1,q2];omega
    let arr:Array Value:=(cur.toList.take (es.length*i.size)++[Value.slice ad 0 0]++cur.toList.drop (es.length*i.size+1)).toArray
    have hrun:(Builtin.append_ #[t,t] o.type #[.slice (some ⟨β k,0,none⟩) es.length (κ k).1,a.eval y]).run P w = .ok (.slice (some ⟨β k,0,none⟩) (es.length+1) (κ k).1) (w.setRow (β k) arr):=by rw [e1];exact run_append_room (P:=P) w t o.type eo i hu hi (β k) es.length (κ k).1 cur q1 bd 1 cap [.slice ad 0 0] (by simp [hi1]) n2 n3 hroom hfit
    have harr:∀ j,arr.getD j undef=if j=es.length then .slice ad 0 0 else cur.getD j undef:=by
     intro j;rw [← dq];simp only [arr,hi1,Nat.mul_one];have hl1:(cur.toList.take es.length).length=es.length:=by simp;omega
     by_cases h4:j<es.length
     ·rw [if_neg (by omega),List.append_assoc,dc (by omega),getD_take _ _ _ _ h4,dq]
     ·by_cases h5:j=es.length
      ·rw [if_pos h5,List.append_assoc,eU (by omega),hl1,h5,Nat.sub_self];rfl
      ·rw [if_neg h5,eU (by simp;omega),dQ];have:es.length+1+(j-(cur.toList.take es.length++[Value.slice ad 0 0]).length)=j:=by simp;omega
       rw [this,dq]
    have hasz:arr.size=(κ k).1*1:=by rw [← q2];simp [arr,hi1];omega
    have hlv:(lk .gone s.h k).live:=by rw [hk];exact hes
    have r':=r.growR (w':=w.setRow (β k) arr) (b2:=β k) (C:=(κ k).1) (arr:=arr) (ad:=ad) hk hkd.1 hnoR (fun b hb _=>bj _ _ _ hb) (r.hp.kp.trans (K':=c.K) ⟨rfl,rfl,rfl,by simp [World.setRow],fun b hb=>bj _ _ _ (fun e3=>r.hp.nk k (.inl hlv) (e3 ▸ hb))⟩ (fun _ h=>h)) (.inl ⟨rfl,hes⟩) (eB w _ cur eo arr q1) hasz hroom q4 hl
     (fun j hj=>by rw [harr,if_neg (by omega)];exact q5 j hj) (by rw [harr,if_pos rfl])
    exact ⟨_,_,_,_,.inl (hexec eX hrun),hput (β k) (κ k).1 r' (aj _ _ _) (hkk _)⟩
   ·let C:=grownCap w (es.length+1) (κ k).1 eo
    have hC:es.length+1≤C:=grownCap_ge w _ _ _;have hCm:C≤maxLen:=grownCap_le_maxLen w _ _ _ (by unfold maxLen;omega);let olds:=cur.toList.take (es.length*i.size)
    have hol:olds.length=es.length*i.size:=by simp [olds,hi1];omega
    let arr:Array Value:=olds.toArray++[Value.slice ad 0 0].toArray++Builtin.zeroCells z.cells (C-(es.length+1))
    have hrun:(Builtin.append_ #[t,t] o.type #[.slice (some ⟨β k,0,none⟩) es.length (κ k).1,a.eval y]).run P w = .ok (.slice (some ⟨w.heap.size,0,none⟩) (es.length+1) C) (w.drew.alloc (.cells arr eo)):=by
     rw [e1];refine run_append_grow (P:=P) w t o.type eo i z hu hi hz ⟨β k,0,none⟩ es.length (κ k).1 olds hol (fun j v hv => ?_) bd 1 cap [.slice ad 0 0] (by simp [hi1]) n2 (by omega) (by omega) (growslice_fits (by omega) hb);have hj:j<es.length*i.size:=by have:=(JW.1 hv).1;omega
     have hv2:cur[j]? = some v:=by simp only [olds,List.getElem?_take] at hv;rw [if_pos hj] at hv;simpa using hv
     rw [jt,Nat.zero_add];have:=a8 q1 (i:=j) (by rw [hi1] at hj;omega);rw [this];simp [JP,hv2]
    have hasz:arr.size=C*1:=by simp only [arr,Array.size_append,List.size_toArray,size_zeroCells,hol,hzs,hi1,List.length_singleton];omega
    have harr:∀ j,j≤es.length→arr.getD j undef=if j=es.length then .slice ad 0 0 else cur.getD j undef:=by
     intro j hj;have hol1:olds.length=es.length:=by rw [hol,hi1,Nat.mul_one]
     rw [← dq];simp only [arr,Array.toList_append,List.append_assoc];by_cases h4:j<es.length
     ·rw [if_neg (by omega),dc (by simpa [hol1] using h4)];simp only [olds,hi1,Nat.mul_one];rw [getD_take _ _ _ _ h4,dq]
     ·have h5:j=es.length:=by omega
      rw [if_pos h5,eU (by simpa [hol1] using Nat.le_of_eq h5.symm)];simp [hol1,h5]
    have r':=r.growR (w':=w.drew.alloc (.cells arr eo)) (b2:=w.heap.size) (C:=C) (arr:=arr) (ad:=ad) hk hkd.1 hnoR (fun b _ hb=>dW w.drew _ hb) (r.drew.hp.kp.trans (dU c.K w.drew _ r.Klt) (fun _ h=>h)) (.inr (Nat.le_refl _)) (fF w.drew _) hasz hC hCm hl
     (fun j hj=>by rw [harr j (by omega),if_neg (by omega)];exact q5 j hj) (by rw [harr _ (Nat.le_refl _),if_pos rfl])
    exact ⟨_,_,_,_,.inl (hexec eX hrun),hput w.heap.size C r' (aj _ _ _) (hkk C)⟩
def AS.errow (s:AS) (t k:Nat) (eo e:TypeId) (sz:Nat):Option AS :=
 match lk .any s.t t with
 | .eslice=>bif Nat.blt k 1000 then some ⟨s.n,ins t (.rslice k) (gi k s.t),ins k (.rrow eo e sz []) (dh k s.h)⟩ else none
 | _=>none
theorem Rel.errow (r:Rel c s a w β κ) {t k:Nat} {eo e:TypeId} {sz:Nat} {s':AS} (h:s.errow t k eo e sz=some s'):∃ κ',Rel c s' a w β κ':=by
 unfold AS.errow at h;split at h
 ·rename_i ht;cases hc:Nat.blt k 1000 with
  | false=>rw [hc] at h;cases h
  | true =>
   rw [hc] at h;cases h;have hk:k<1000:=by simpa [Nat.blt_eq] using hc
   have r':=r.pg k;have hk6:k<1000000:=by omega
   have hi:∀ j,¬ (AO.rrow eo e sz []).inn j:=fun j h=>by have:=h.2.1;simp at this
   have hlive:∀ {j},lv (ins k (.rrow eo e sz []) (dh k s.h)) j→lv (dh k s.h) j:=by
    intro j hl;rcases ed (o:=.rrow eo e sz []) hk6 hi hl with ⟨_,h0⟩ | ⟨_,hl⟩
    ·exact absurd rfl h0
    ·exact hl
   have hX:∀ b,¬ c.XX (dh k s.h) β b→b<w.heap.size→¬ c.XX (ins k (.rrow eo e sz []) (dh k s.h)) β b:=by
    rintro b hb _ (hx | ⟨j,hl,hj⟩)
    ·exact hb (.inl hx)
    ·exact hb (.inr ⟨j,hlive hl,hj⟩)
   refine ⟨upd κ k (0,0),r.df,r.sz,fun i => ?_,⟨fun j => ?_,fun i j hi hj e=>r'.hp.inj i j (hlive hi) (hlive hj) e,r.hp.kp,fun j hj=>r'.hp.nk j (hlive hj),fun j hj=>r'.hp.nx j (hlive hj),fun j hj hj6 => ?_,fun j hj => ?_⟩⟩
   ·show G _ _ _ _ (lk .any (ins t (.rslice k) (gi k s.t)) i) _;rw [aG];by_cases hi:i=t
    ·subst hi;have:=r.tm i;rw [ht] at this;obtain ⟨ad,e1⟩:=this.eslice_inv;rw [if_pos rfl,e1];exact .rslice0 k ad (by rw [aj])
    ·rw [if_neg hi];exact (r'.tm i).mono (w':=w) (κ':=upd κ k (0,0)) (β':=β) (fun _ _ _=>rfl) hX (fun j hj=>.updκ hk6 (fun e=>by rw [e] at hj;have:AV.men k (lk .any (gi k s.t) i)=true:=hj;rw [b8,AV.men_pg] at this;cases this))
   ·show HO _ _ _ _ j (lk .gone (ins k (.rrow eo e sz []) (dh k s.h)) j);rw [aG];by_cases ej:j=k
    ·rw [if_pos ej,ej];exact ⟨by rw [aj];rfl,by simp,fun h=>absurd rfl h⟩
    ·rw [if_neg ej];exact (r'.hp.ob j).mono (w':=w) (fun _ _ _=>rfl) hX (fun i hi=>.updκ hk6 (fun e=>by rw [e] at hi;have:AO.men k (lk .gone (dh k s.h) j)=true:=hi;rw [cn,AO.men_pg] at this;cases this)) (.updκ hk6 ej) (fun _=>rfl) (fun _ _=>rfl)
   ·have:j≠k:=by omega
    rw [bf κ this];exact r.hp.fix j hj hj6
   ·have hj:lk .gone (ins k (.rrow eo e sz []) (dh k s.h)) j ≠ .gone:=hj;rw [aG] at hj;by_cases ej:j=k
    ·omega
    ·rw [if_neg ej] at hj;exact r'.hp.sg j hj
 ·cases h
def GL (es:tQ):List (List AV):=es.map fun p=>[AV.dslice (p.getD [])]
def AS.frzW (s:AS) (k:Nat):Option (Prop×AS) :=
 match lk .gone s.h k with
 | .rrow _ _ _ es=>some ((es.all fun p=>p.isSome)=true,s.subst k (.dslice (GL es)))
 | _=>none
theorem Rel.frzW {s':AS} {p:Prop} (r:Rel c s a w β κ) {k:Nat} (h:s.frzW k=some (p,s')) (hp:p):Rel c s' a w β κ:=by
 unfold AS.frzW at h;split at h
 ·rename_i eo e sz es hk;cases h;refine r.subst fun hnV hX hnX=>⟨fun V hg => ?_,fun V _=>.any V⟩;have ho:=r.hp.ob k;rw [hk] at ho;obtain ⟨o1,o2,o3⟩:=ho;show D w _ (.dslice (GL es)) V;have hlen:(GL es).length=es.length:=by simp [GL]
  have hat:∀ i,i<es.length→(GL es).getD i []=[AV.dslice ((es.getD i none).getD [])]:=fun i hi=>by simp [GL,JM,JN hi]
  rcases hg.rslice_inv with ⟨h0,e1⟩ | ⟨h0,ad,rfl⟩
  ·have hne:es≠[]:=by intro e;subst e;rw [o1] at h0;simp at h0
   have hlk:(lk .gone s.h k).live:=by rw [hk];exact hne
   obtain ⟨cur,h1,h2,h3,h4,h5⟩:=o3 hne;rw [e1,o1,← hlen];refine .dslice (GL es) (β k) 0 (κ k).1 1 (fun i j=>cur.getD (i*1+j) undef) (by rw [hlen];exact h3) h4 (by omega) (hnX hlk) (fun i hi=>by rw [hat i (by omega)];rfl) (fun i j hi hj => ?_) (fun i j hi hj => ?_)
   ·rw [Nat.zero_add];exact a8 h1 (by rw [h2];omega)
   ·have ej:j=0:=by omega
    subst ej;have hi2:i<es.length:=by omega
    rw [hat i hi2];show D w _ (.dslice ((es.getD i none).getD [])) (cur.getD (i*1+0) undef);rw [Nat.mul_one,Nat.add_zero];have hv:=h5 i hi2;have hs:(es.getD i none).isSome=true:=by have:=J0.1 hp (es.getD i none) (by rw [JM,JN hi2];exact List.getElem_mem hi2);simpa using this
    have hin:∀ z zs,es.getD i none=some (z::zs)→(lk .gone s.h k).inn i:=fun z zs h=>by rw [hk];exact ⟨by omega,hi2,z,zs,h⟩
    generalize es.getD i none=o at hv hs hin ⊢;match o,hv,hs,hin with
    | none,_,hs,_=>cases hs
    | some [],hv,_,_ =>
     obtain ⟨_,ad,e1⟩:=hv;rw [e1];exact .dnil _ _ (Nat.zero_le _)
    | some (z::zs),hv,_,hin =>
     obtain ⟨v1,v2,cur2,g1,g2,g3,g4,g5,g6,g7⟩:=hv;rw [v2,v1];show D w _ (.dslice (z::zs)) _;refine .dslice (z::zs) (β (gk k i)) 0 (κ (gk k i)).1 sz (fun i' j=>cur2.getD (i'*sz+j) undef) g3 g4 g5 (hnV i (hin z zs rfl)) g6 (fun i' j hi' hj => ?_) (fun i' j hi' hj=>(g7 i' j hi' hj).mono (fun _ _ _=>rfl) hX);rw [Nat.zero_add];refine a8 g1 ?_;rw [g2];have:(i'+1)*sz≤(κ (gk k i)).1*sz:=Nat.mul_le_mul_right _ (by omega);rw [Nat.add_mul] at this;omega
  ·have:es=[]:=List.eq_nil_of_length_eq_zero (by rw [← o1];exact h0);subst this;exact .dnil _ _ (Nat.zero_le _)
 ·cases h
end
inductive Il where
 | tk (zs:List (List AV)) (es:tQ)
 | st (es:tQ)
 | apr (es:tQ)
section
variable {P:Program} {ops:Array Oper} {o:Oper} {s s':AS}
def Bv (P:Program) (s:AS) (dst:Option Tmp) (zs:List (List AV)) (es':tQ):Op→Option (List Prop×cE)
 | .load t x=>match s.op x,dst,As P t with
  | .hptr k off,some q,some false=>match lk .gone s.h k with
   | .rrow eo e sz es=>bif Nat.blt q s.n&&Nat.blt q 1000 then some ([off<es.length,es.getD off none=some zs,es.set off none=es'],⟨[(q,.rslice q)],[(q,.row e sz zs),(k,.rrow eo e sz es')],[q],[]⟩) else none
   | _=>none
  | _,_,_=>none
 | _=>none
theorem yY {zs:List (List AV)} {es':tQ} {ps:List Prop} {e:cE} (hg:gd ops s o=some true) (h:Bv P s o.dst zs es' o.op=some (ps,e)) (hp:∀ p∈ps,p):Loc P ops o s e:=by
 unfold Bv at h;split at h
 ·rename_i t x hop;split at h
  ·rename_i k off q hx hd hag;split at h
   ·rename_i eo e' sz es hk;cases hc:(Nat.blt q s.n&&Nat.blt q 1000) with
    | false=>rw [hc] at h;cases h
    | true =>
     rw [hc] at h;cases h;exact GA hg hop hd hx hag hk (hp _ (by simp)) (hp _ (by simp)) (hp _ (by simp)) hc
   ·cases h
  ·cases h
 ·cases h
def Ga (P:Program) (s:AS) (dst:Option Tmp):Il→Op→Option (List Prop×AS)
 | .tk zs es',.load t x=>match s.op x,dst,As P t with
  | .hptr k off,some q,some false=>match lk .gone s.h k with
   | .rrow eo e sz es=>bif Nat.blt q s.n&&Nat.blt q 1000 then some ([off<es.length,es.getD off none=some zs,es.set off none=es'],s.takeR k q eo e sz zs es') else none
   | _=>none
  | _,_,_=>none
 | .st es',.store t x y=>match s.op x,s.op y,dst,kH P t with
  | .hptr k off,.rslice q,none,some 1=>match lk .gone s.h k,lk .gone s.h q with
   | .rrow eo e sz es,.row e2 sz2 zs=>bif Nat.beq e2 e&&Nat.beq sz2 sz&&s.noR then some ([off<es.length,es.set off (some zs)=es'],s.stowR k q eo e sz es') else none
   | _,_=>none
  | _,_,_,_=>none
 | .apr es',.call ⟨.builtin .append,ar,tys⟩=>match ar.toList,tys.toList,dst with
  | [x,y],[t,t'],some d=>if t=t' then (match dY P t,s.op x,s.op y with
   | some (eo,1,by_),.rslice k,.dslice [[.eslice]]=>match lk .gone s.h k with
    | .rrow eo2 e sz es=>bif Nat.beq eo2 eo&&(Nat.blt k 1000&&Nat.blt d s.n)&&s.noR then some ([(es.length+1)*by_≤140737488355328∧es.length<1000000,es++[some []]=es'],s.growR k d eo e sz es') else none
    | _=>none
   | _,_,_=>none) else none
  | _,_,_=>none
 | _,_=>none
theorem rT {α:Type} {b:Bool} {x:Option α} {y:α} (h:(bif b then x else none)=some y):b=true∧x=some y:=by
 cases b with
 | true=>exact ⟨rfl,h⟩
 | false=>cases h
theorem th {d:Il} {ps:List Prop} (hg:gd ops s o=some true) (h:Ga P s o.dst d o.op=some (ps,s')) (hp:∀ p∈ps,p):iA P ops o s (· = s'):=by
 unfold Ga at h;split at h
 ·rename_i zs es' t x hop;split at h
  ·rename_i k off q hx hd hag;split at h
   ·rename_i eo e sz es hk;obtain ⟨hc,h⟩:=rT h;simp only [JO,Nat.blt_eq] at hc;cases h;have h3:es.set off none=es':=hp _ (by simp);subst h3;exact Eu hg hop hd hx hag hk (hp _ (by simp)) (hp _ (by simp)) hc
   ·cases h
  ·cases h
 ·rename_i es' t x y hop;split at h
  ·rename_i k off q hx hy hd hsz;split at h
   ·rename_i eo e sz es e2 sz2 zs hk hq;obtain ⟨hc,h⟩:=rT h;simp only [JO] at hc;obtain ⟨⟨c1,c2⟩,c3⟩:=hc;have c1:=bM.1 c1;have c2:=bM.1 c2;subst c1;subst c2;cases h;have h3:es.set off (some zs)=es':=hp _ (by simp);subst h3;exact Ib hg hop hd hx hy hsz hq hk c3 (hp _ (by simp))
   ·cases h
  ·cases h
 ·rename_i es' ar tys hop;split at h
  ·rename_i x y t t' d har hty hd;split at h;case isFalse=>cases h
   rename_i ht;subst ht;split at h
   ·rename_i eo by_ k he hx hy;split at h
    ·rename_i eo2 e sz es hk;obtain ⟨hc,h⟩:=rT h;simp only [JO,Nat.blt_eq] at hc;obtain ⟨⟨c1,c2⟩,c3⟩:=hc;have c1:=bM.1 c1;subst c1;cases h;have e1:ar = #[x,y]:=by rw [← Array.toList_inj];exact har
     have e2:tys = #[t,t]:=by rw [← Array.toList_inj];exact hty
     subst e1;subst e2;have h3:es++[some []]=es':=hp _ (by simp);subst h3;have h4:(es.length+1)*by_≤140737488355328∧es.length<1000000:=hp _ (by simp);exact Iv hg hop hd he hx hk hy c2 c3 h4.1 h4.2
    ·cases h
   ·cases h
  ·cases h
 ·cases h
end
inductive oQ where
 | v
 | e (v:AV)
 | s
 | c (fl:Bool) (v:AV)
 | b
 | ae
 | l (v:AV)
 | h (ps:List (Nat×Nat)) (v:AV) (h1:List (Nat×AO))
 | m
 | ap
 | fz (k:Nat)
 | fm (k:Nat)
 | en (i:Nat) (v:AV)
 | er (t k:Nat) (e:TypeId) (sz:Nat)
 | w
 | we (v:AV)
 | cf (fl:Bool) (v:AV)
 | cw (fl:Bool) (pl:List (Nat×List (Nat×Nat))) (v:AV)
 | wk (t:Nat) (p:List (Nat×Nat))
 | rwT (t:Nat) (v:AV)
 | rwH (k:Nat) (ob:AO)
 | rl (n j:Nat) (v:AV)
 | rs (n j:Nat)
 | apx (zs:List (List AV))
 | bw (pl:List (List (Nat×Nat)))
 | apg
 | lk (zs:List (List AV)) (es:jq)
 | ms (es:jq)
 | es3 (es:jq)
 | e1 (es:jq)
 | e2
 | e3 (es:jq)
 | ent (c:zc)
 | xc (v:AV)
 | hM (ps ds:List (Nat×Nat)) (v:AV) (h1:List (Nat×AO))
 | fr (k:Nat)
 | qo (q:Il)
 | rr
 | fw (k:Nat)
 | ew (t k:Nat) (eo e:TypeId) (sz:Nat)
 | tr (k:Nat) (e:TypeId) (sz:Nat)
 | hN (v:AV) (h1:List (Nat×AO))
 | hR (ps:List (Nat×Nat)) (d:Nat) (v:AV) (h1:List (Nat×AO))
def bt:List Prop→Prop
 | []=>True
 | [p]=>p
 | p::ps=>p∧bt ps
theorem bt.cons {p:Prop} {ps:List Prop}:bt (p::ps)↔p∧bt ps:=by
 cases ps with
 | nil=>simp [bt]
 | cons q qs=>rfl
theorem bt.append {ps qs:List Prop}:bt (ps++qs)↔bt ps∧bt qs:=by
 induction ps with
 | nil=>simp [bt]
 | cons p ps ih=>rw [List.cons_append,bt.cons,bt.cons,ih,and_assoc]
def asks:Op→Bool
 | .unOp _ _ _=>true
 | .binOp op _ _ _ _=>match op with | .add | .sub | .mul | .quo | .rem=>true | _=>false
 | .slice _ _ _ _ _=>true
 | .index _ _ _=>true
 | .indexAddr _ _ _=>true
 | .call _=>true
 | .convert _ _ _=>true
 | _=>false
def EE:Op→Bool
 | .binOp .quo _ _ _ _=>true
 | .index _ _ _=>true
 | _=>false
def G0 (op:Op) (p:Prop):List Prop:=if EE op then [p] else []
def Jn (op:Op) (p:Prop):List Prop:=if asks op then [p] else []
section
variable {P:Program} {ops:Array Oper} {o:Oper} {s s':AS}
theorem tw {p q:Prop} {u v:AV} (hq:q) (h:some (q,u)=some (p,v)):p:=by cases h;exact hq
theorem Ek {op:BinOp} {k:IntKind} {a b:Int} {p:Prop} {v:AV} (ha:(match op with | .add | .sub | .mul | .quo | .rem=>true | _=>false)=false) (h:vh op k a b=some (p,v)):p:=by cases op<;>simp only [vh,reduceCtorEq] at h ha<;>first | exact tw trivial h | cases h
theorem D0 {op:BinOp} {a b:List UInt8} {p:Prop} {v:AV} (ha:(match op with | .add | .sub | .mul | .quo | .rem=>true | _=>false)=false) (h:BG op a b=some (p,v)):p:=by cases op<;>simp only [BG,reduceCtorEq] at h ha<;>first | exact tw trivial h | cases h
theorem Ef {op:BinOp} {t:TypeId} {x y:Operand} {p:Prop} {v:AV} (ha:(match op with | .add | .sub | .mul | .quo | .rem=>true | _=>false)=false) (h:AY P s op t x y=some (p,v)):p:=by
 unfold AY at h;split at h
 ·split at h
  ·exact Ek ha h
  ·cases h
 ·exact D0 ha h
 ·split at h
  ·split at h<;>first | exact tw trivial h | cases h
  ·cases h
 ·split at h
  ·split at h<;>first | exact tw trivial h | cases h
  ·cases h
 ·split at h
  ·split at h<;>first | exact tw trivial h | cases h
  ·cases h
 ·cases h
theorem DI {op:Op} {p:Prop} {v:AV} (ha:asks op=false) (h:fJ P s op=some (p,v)):p:=by
 unfold fJ at h;split at h;case h_9=>exact Ef ha h
 all_goals first
  | exact tw trivial h
  | (cases ha;done)
  | ((repeat' split at h)<;>first | exact tw trivial h | (cases h;done))
theorem uo {op:Op} {p:Prop} {v:AV} (h:fJ P s op=some (p,v)) (hp:bt (Jn op p)):p:=by
 unfold Jn at hp;cases ha:asks op with
 | true=>rw [ha] at hp;exact hp
 | false=>exact DI ha h
theorem FV {op:Op} {p:Prop} {v:AV} (ha:EE op=false) (h:Cn P s op=some (p,v)):p:=by
 unfold Cn at h;split at h
 ·split at h
  ·repeat' split at h
   all_goals first | exact tw trivial h | cases h
  ·split at h
   ·exact tw trivial h
   ·exact tw trivial h
   ·exact tw trivial h
   ·cases ha
   ·cases h
  ·cases h
 ·split at h
  ·exact tw trivial h
  ·cases h
 ·cases ha
 ·cases h
theorem xz {op:Op} {p:Prop} {v:AV} (h:Cn P s op=some (p,v)) (hp:bt (G0 op p)):p:=by
 unfold G0 at hp;cases ha:EE op with
 | true=>rw [ha] at hp;exact hp
 | false=>exact FV ha h
def CY (s:AS) (dst:Option Tmp):Bool:=match dst with | none=>true | some t=>Nat.blt t s.n
theorem bS {dst:Option Tmp} (h:CY s dst=true) (v:AV):s.put dst v=some ((cE.put dst v).app s):=by
 cases dst with
 | none=>rfl
 | some t=>simp only [CY] at h;simp only [AS.put,h];rfl
def vF (fl:Bool) (s:AS) (ar:Array Operand) (caps:List AV):Option (List AV) :=
 if fl then (if AV.flL (s.args ar caps) then some (s.args ar caps) else none) else some ((s.args ar caps).map (AV.vw s.h))
def Hz (P:Program) (s:AS) (op:Op) (fl:Bool) (v:AV):Option (List Prop) :=
 match op with
 | .call ⟨.value x,ar,_⟩=>match s.op x with
  | .fn f caps=>match vF fl s ar caps with
   | some args=>bif rb fl v then some [Go.Proofs.Enters P f,bG P f args [] fun r _=>r=v] else none
   | none=>none
  | _=>none
 | _=>none
def Fa (P:Program) (s:AS) (op:Op) (fl:Bool) (v:AV):Option (List Prop) :=
 match op with
 | .call ⟨.value x,ar,_⟩=>match s.op x with
  | .fn f caps=>match vF fl s ar caps with
   | some args=>some [Go.Proofs.Enters P f,bG P f args [] (fun r _=>r=v),rb fl v=true]
   | none=>none
  | _=>none
 | _=>none
def Fp (P:Program) (s:AS) (op:Op) (fl:Bool) (pl:List (Nat×List (Nat×Nat))) (v:AV):Option (List Prop) :=
 match op with
 | .call ⟨.value x,ar,_⟩=>match s.op x with
  | .fn f caps=>match vF fl s ar caps with
   | some args=>bif rb fl v then some [Go.Proofs.Enters P f,bG P f (sw pl args) [] fun r _=>r=v] else none
   | none=>none
  | _=>none
 | _=>none
def Dd (P:Program) (s:AS):Op→Option AV
 | .build t ps=>uY P t (s.parts ps)
 | .buildSlice t len ps=>cG P t len (s.parts ps)
 | _=>none
def FR (P:Program) (s:AS):Op→Option (List Prop×AV)
 | .call ⟨.builtin .append,ar,tys⟩=>match ar.toList,tys.toList with
  | [x,y],[t,t']=>if t=t' then (match dY P t,s.op x,s.op y with
   | some (_,sz,by_),.eslice,.dslice ys=>some ([EL sz ys,ys.length*by_≤140737488355328,ys.length≤9223372036854775807],.dslice ys)
   | _,_,_=>none) else none
  | _,_=>none
 | _=>none
def Gh (P:Program) (s:AS) (n j:Nat):Op→Option (Prop×AV)
 | .load t x=>sZ P s t (s.op x) n j
 | _=>none
def Bf (P:Program) (s:AS) (dst:Option Tmp) (n j:Nat):Op→Option (Prop×AS)
 | .store t x y=>match dst with | none=>yw P s t (s.op x) (s.op y) n j | some _=>none
 | _=>none
theorem qM {n j:Nat} {p:Prop} (hg:gd ops s o=some true) (h:Bf P s o.dst n j o.op=some (p,s')) (hp:p):iA P ops o s (· = s'):=by
 unfold Bf at h;split at h
 ·rename_i t x y hop;split at h
  ·rename_i hd;exact Dn hg hop hd h hp
  ·cases h
 ·cases h
def Hy (P:Program) (s:AS):Op→Option AV
 | .lookup t m x false=>match s5 P s t (s.op m) (s.op x) with
  | some v=>some v
  | none=>vo P t (s.op m) (s.op x)
 | _=>none
def nw (b:Bool):Option Bool→Bool
 | some c=>c==b
 | none=>false
theorem aR {b:Bool} {x:Option Bool} (h:nw b x=true):x=some b:=by
 cases x with
 | none=>cases h
 | some c=>simp only [nw,beq_iff_eq] at h;rw [h]
def vK (P:Program) (ops:Array Oper) (s:AS) (o:Oper) (d:oQ):Option (List Prop×AV) :=
 bif CY s o.dst then (match d with
 | .s=>bif nw false (gd ops s o) then some ([],.tup []) else none
 | .v=>bif nw true (gd ops s o) then (match fJ P s o.op with | some (p,v)=>some (Jn o.op p,v) | none=>none) else none
 | .e v'=>bif nw true (gd ops s o) then (match fJ P s o.op with | some (p,v)=>some (Jn o.op p++[v=v'],v') | none=>none) else none
 | .c fl v=>bif nw true (gd ops s o) then (match Hz P s o.op fl v with | some ps=>some (ps,v) | none=>none) else none
 | .cf fl v=>bif nw true (gd ops s o) then (match Fa P s o.op fl v with | some ps=>some (ps,v) | none=>none) else none
 | .xc v=>bif nw true (gd ops s o) then (match ES P s o.op v with | some ps=>some (ps,v) | none=>none) else none
 | .b=>bif nw true (gd ops s o) then (match Dd P s o.op with | some v=>some ([],v) | none=>none) else none
 | .bw pl=>bif nw true (gd ops s o) then (match Dd P s o.op with | some v=>some ([],FU pl v) | none=>none) else none
 | .ae=>bif nw true (gd ops s o) then FR P s o.op else none
 | .l v'=>bif nw true (gd ops s o) then (match Hy P s o.op with | some v=>some ([v=v'],v') | none=>none) else none
 | .rl n j v'=>bif nw true (gd ops s o) then (match Gh P s n j o.op with | some (p,v)=>some ([p,v=v'],v') | none=>none) else none
 | .w=>bif nw true (gd ops s o) then (match Cn P s o.op with | some (p,v)=>some (G0 o.op p,v) | none=>none) else none
 | .we v'=>bif nw true (gd ops s o) then (match Cn P s o.op with | some (p,v)=>some (G0 o.op p++[v=v'],v') | none=>none) else none
 | .cw fl pl v=>bif nw true (gd ops s o) then (match Fp P s o.op fl pl v with | some ps=>some (ps,v) | none=>none) else none
 | _=>none) else none
theorem ay {α:Type} {b:Bool} {x:Option α} {y:α} (h:(bif b then x else none)=some y):b=true∧x=some y:=by
 cases b with
 | true=>exact ⟨rfl,h⟩
 | false=>cases h
theorem tf {d:oQ} {ps:List Prop} {v:AV} (h:vK P ops s o d=some (ps,v)) (hp:bt ps):Loc P ops o s (.put o.dst v):=by
 unfold vK at h;obtain ⟨hd,h⟩:=ay h;cases d;case s =>
  obtain ⟨hg,h⟩:=ay h;cases h;exact Ge (aR hg) (bS hd _)
 case v =>
  obtain ⟨hg,h⟩:=ay h;split at h
  ·rename_i p v' hv;cases h;exact Ct (aR hg) hv (uo hv hp) (bS hd _)
  ·cases h
 case e v0 =>
  obtain ⟨hg,h⟩:=ay h;split at h
  ·rename_i p v' hv;cases h;obtain ⟨h1,h2⟩:=bt.append.1 hp;have h3:v'=v:=h2;subst h3;exact Ct (aR hg) hv (uo hv h1) (bS hd _)
  ·cases h
 case c fl v0 =>
  obtain ⟨hg,h⟩:=ay h;split at h
  ·rename_i ps' hs;simp only [JX,Prod.mk.injEq] at h;obtain ⟨h1,h2⟩:=h;subst h1;subst h2;unfold Hz at hs;split at hs
   ·rename_i x ar tys hop;split at hs
    ·rename_i f caps hx;split at hs
     ·rename_i args ha;obtain ⟨hr,hs⟩:=ay hs;cases hs;exact v7 hp.1 (aR hg) hop hx _ ha hp.2 hr (bS hd _)
     ·cases hs
    ·cases hs
   ·cases hs
  ·cases h
 case cf fl v0 =>
  obtain ⟨hg,h⟩:=ay h;split at h
  ·rename_i ps' hs;simp only [JX,Prod.mk.injEq] at h;obtain ⟨h1,h2⟩:=h;subst h1;subst h2;unfold Fa at hs;split at hs
   ·rename_i x ar tys hop;split at hs
    ·rename_i f caps hx;split at hs
     ·rename_i args ha;cases hs;exact v7 hp.1 (aR hg) hop hx _ ha hp.2.1 hp.2.2 (bS hd _)
     ·cases hs
    ·cases hs
   ·cases hs
  ·cases h
 case xc v0 =>
  obtain ⟨hg,h⟩:=ay h;split at h
  ·rename_i ps' hs;simp only [JX,Prod.mk.injEq] at h;obtain ⟨h1,h2⟩:=h;subst h1;subst h2;unfold ES at hs;split at hs
   ·rename_i x ar tys hop;split at hs
    ·rename_i f cs hx;split at hs
     ·rename_i vs us hv hu;cases hs;exact Ig (aR hg) hop hx hv hu hp (bS hd _)
     ·cases hs
    ·cases hs
   ·cases hs
  ·cases h
 case rl n j v0 =>
  obtain ⟨hg,h⟩:=ay h;split at h
  ·rename_i p v' hv;cases h;obtain ⟨h1,h2⟩:=hp;have h3:v'=v:=h2;subst h3;unfold Gh at hv;split at hv
   ·rename_i t x hop;exact Dp (aR hg) hop hv h1 (bS hd _)
   ·cases hv
  ·cases h
 case w =>
  obtain ⟨hg,h⟩:=ay h;split at h
  ·rename_i p v' hv;cases h;exact F1 (aR hg) hv (xz hv hp) (bS hd _)
  ·cases h
 case we v0 =>
  obtain ⟨hg,h⟩:=ay h;split at h
  ·rename_i p v' hv;cases h;obtain ⟨h1,h2⟩:=bt.append.1 hp;have h3:v'=v:=h2;subst h3;exact F1 (aR hg) hv (xz hv h1) (bS hd _)
  ·cases h
 case cw fl pl v0 =>
  obtain ⟨hg,h⟩:=ay h;split at h
  ·rename_i ps' hs;simp only [JX,Prod.mk.injEq] at h;obtain ⟨h1,h2⟩:=h;subst h1;subst h2;unfold Fp at hs;split at hs
   ·rename_i x ar tys hop;split at hs
    ·rename_i f caps hx;split at hs
     ·rename_i args ha;obtain ⟨hr,hs⟩:=ay hs;cases hs;exact v7 hp.1 (aR hg) hop hx _ ha hp.2.wk hr (bS hd _)
     ·cases hs
    ·cases hs
   ·cases hs
  ·cases h
 case b =>
  obtain ⟨hg,h⟩:=ay h;split at h
  ·rename_i v' hs;cases h;unfold Dd at hs;split at hs
   ·rename_i t parts hop;exact xp (aR hg) hop hs (bS hd _)
   ·rename_i t len parts hop;exact nU (aR hg) hop hs (bS hd _)
   ·cases hs
  ·cases h
 case bw pl =>
  obtain ⟨hg,h⟩:=ay h;split at h
  ·rename_i v' hs;cases h;unfold Dd at hs;split at hs
   ·rename_i t parts hop;exact rD _ (xp (aR hg) hop hs (bS hd _))
   ·rename_i t len parts hop;exact rD _ (nU (aR hg) hop hs (bS hd _))
   ·cases hs
  ·cases h
 case ae =>
  obtain ⟨hg,h⟩:=ay h;unfold FR at h;split at h
  ·rename_i ar tys hop;split at h
   ·rename_i x y t t' har hty;split at h;case isFalse=>cases h
    rename_i ht;subst ht;split at h
    ·rename_i e sz by_ ys he hx hy;cases h;have e1:ar = #[x,y]:=by rw [← Array.toList_inj];exact har
     have e2:tys = #[t,t]:=by rw [← Array.toList_inj];exact hty
     subst e1;subst e2;exact AM (aR hg) hop he hx hy hp.1 hp.2.1 hp.2.2 (bS hd _)
    ·cases h
   ·cases h
  ·cases h
 case l v0 =>
  obtain ⟨hg,h⟩:=ay h;split at h
  ·rename_i v' hs;cases h;unfold Hy at hs;split at hs
   ·rename_i t m x hop;have h3:v'=v:=hp;subst h3;split at hs
    ·rename_i h4;cases hs;exact FJ (aR hg) hop h4 (bS hd _)
    ·exact Dq (aR hg) hop hs (bS hd _)
   ·cases hs
  ·cases h
 all_goals cases h
def yo (P:Program) (s:AS) (dst:Option Tmp) (v:AV) (h1:List (Nat×AO)):Op→Option (List Prop×cE)
 | .call ⟨.value x,ar,_⟩=>match s.op x,dst with
  | .fn f caps,some k=>bif AV.flL (s.args ar caps)&&(Nat.blt k s.n&&Nat.blt k 1000) && !(lk .gone h1 0).isR then some ([Go.Proofs.Enters P f,bG P f (s.args ar caps) [] fun r h=>r=v∧h=h1],⟨[(k,AV.ren [(0,k)] v)],[(k,AO.ren [(0,k)] (lk .gone h1 0))],[k],[]⟩) else none
  | _,_=>none
 | _=>none
theorem wG {v:AV} {h1:List (Nat×AO)} {ps:List Prop} {e:cE} (hg:gd ops s o=some true) (h:yo P s o.dst v h1 o.op=some (ps,e)) (hp:bt ps):Loc P ops o s e:=by
 unfold yo at h;split at h
 ·rename_i x ar tys hop;split at h
  ·rename_i f caps k hx hd;obtain ⟨hc,h⟩:=ay h;rw [JO,JO] at hc;cases h;exact D7 hp.1 hg hop hx hc.1.1 hd hc.1.2 (by simpa using hc.2) hp.2
  ·cases h
 ·cases h
def BX (P:Program) (s:AS) (dst:Option Tmp) (zs:List (List AV)) (es':jq):Op→Option (List Prop×cE)
 | .lookup t m x false=>match s.op m,s.op x,dst,P.underlying t with
  | .amap k,.str y,some q,some (.map K E)=>match lk .gone s.h k,P.underlying K,zeroOf P E with
   | .rmap e sz es,some .string,some (.slice none 0 0)=>bif Nat.blt q s.n&&Nat.blt q 1000 then some ([Gu y es=true,qk y es=zs,cI y es=es'],⟨[(q,.rslice q)],[(q,.row e sz zs),(k,.rmap e sz es')],[q],[]⟩) else none
   | _,_,_=>none
  | _,_,_,_=>none
 | _=>none
theorem ye {zs:List (List AV)} {es':jq} {ps:List Prop} {e:cE} (hg:gd ops s o=some true) (h:BX P s o.dst zs es' o.op=some (ps,e)) (hp:bt ps):Loc P ops o s e:=by
 unfold BX at h;split at h
 ·rename_i t m x hop;split at h
  ·rename_i k y q K E hm hx hd hu;split at h
   ·rename_i e' sz es hk hK hz;obtain ⟨hc,h⟩:=ay h;cases h;exact D1 hg hop hd hm hx hk hu hK hz hp.1 hp.2.1 hp.2.2 hc
   ·cases h
  ·cases h
 ·cases h
def yA (P:Program) (s:AS) (dst:Option Tmp) (zs:List (List AV)) (es':jq):Op→Option (List Prop×AS)
 | .lookup t m x false=>match s.op m,s.op x,dst,P.underlying t with
  | .amap k,.str y,some q,some (.map K E)=>match lk .gone s.h k,P.underlying K,zeroOf P E with
   | .rmap e sz es,some .string,some (.slice none 0 0)=>bif Nat.blt q s.n&&Nat.blt q 1000 then some ([Gu y es=true,qk y es=zs,cI y es=es'],s.take k q e sz zs es') else none
   | _,_,_=>none
  | _,_,_,_=>none
 | _=>none
theorem pj {zs:List (List AV)} {es':jq} {ps:List Prop} (hg:gd ops s o=some true) (h:yA P s o.dst zs es' o.op=some (ps,s')) (hp:bt ps):iA P ops o s (· = s'):=by
 unfold yA at h;split at h
 ·rename_i t m x hop;split at h
  ·rename_i k y q K E hm hx hd hu;split at h
   ·rename_i e' sz es hk hK hz;obtain ⟨hc,h⟩:=ay h;simp only [JO,Nat.blt_eq] at hc;cases h;obtain ⟨p1,p2,p3⟩:=hp;have p3:cI y es=es':=p3;subst p2;subst p3;exact zD hg hop hd hm hx hk hu hK hz p1 hc
   ·cases h
  ·cases h
 ·cases h
def A7 (P:Program) (s:AS) (dst:Option Tmp) (es':jq):Op→Option (List Prop×AS)
 | .mapUpdate t m x v=>match s.op m,s.op x,s.op v,dst,P.underlying t with
  | .amap k,.str y,.rslice q,none,some (.map K E)=>match lk .gone s.h k,lk .gone s.h q,P.underlying K,zeroOf P E with
   | .rmap e sz es,.row e2 sz2 zs,some .string,some _=>if e2=e∧sz2=sz∧s.noR=true then some ([es.length<1000000,eO y zs es=es'],s.stow k q e sz es') else none
   | _,_,_,_=>none
  | _,_,_,_,_=>none
 | _=>none
theorem qR {es':jq} {ps:List Prop} (hg:gd ops s o=some true) (h:A7 P s o.dst es' o.op=some (ps,s')) (hp:bt ps):iA P ops o s (· = s'):=by
 unfold A7 at h;split at h
 ·rename_i t m x v hop;split at h
  ·rename_i k y q K E hm hx hv hd hu;split at h
   ·rename_i e sz es e2 sz2 zs z hk hq hK hz;split at h;case isFalse=>cases h
    rename_i hc;obtain ⟨rfl,rfl,hn⟩:=hc;cases h;obtain ⟨p1,p2⟩:=hp;have p2:eO y zs es=es':=p2;subst p2;exact EX hg hop hd hm hx hv hq hk hn hu hK hz p1
   ·cases h
  ·cases h
 ·cases h
def B2 (P:Program) (ops:Array Oper) (s:AS) (es':jq) (o1 o2 o3:Oper):Option (List Prop×AS) :=
 match o1.op,o1.dst,o2.op,o2.dst,o3.op,o3.dst with
 | .mapEntry t (.tmp tm) x,some t1,.extract (.tmp t1') 1,some t2,.entryStore t' (.tmp tm') (.tmp t2') (.tmp tv),none =>
  if (t1'=t1∧t'=t∧tm'=tm∧t2'=t2∧o2.guard=none∧o3.guard=none)∧(t1<s.n∧t2<s.n∧t1≠t2∧tm≠t1∧tm≠t2∧tv≠t1∧tv≠t2)∧gd ops s o1=some true∧s.noR=true then
   (match lk .any s.t tm,s.op x,lk .any s.t tv,P.underlying t with
   | .amap k,.str y,.rslice q,some (.map K E)=>match lk .gone s.h k,lk .gone s.h q,P.underlying K,zeroOf P E with
    | .rmap e sz es,.row e2 sz2 zs,some .string,some _=>if e2=e∧sz2=sz then some ([es.length<1000000,eO y zs es=es'],⟨s.n,ins t2 .any (ins t1 .any (s.stow k q e sz es').t),(s.stow k q e sz es').h⟩) else none
    | _,_,_,_=>none
   | _,_,_,_=>none) else none
 | _,_,_,_,_,_=>none
theorem yW {es':jq} {o1 o2 o3:Oper} {rest:List Oper} {Q:Exit→AS→Prop} {ps:List Prop} (h:B2 P ops s es' o1 o2 o3=some (ps,s')) (hp:bt ps) (hr:fO P ops rest Q s'):fO P ops (o1::o2::o3::rest) Q s:=by
 unfold B2 at h;split at h
 ·rename_i t tm x t1 t1' t2 t' tm' t2' tv h1 d1 h2 d2 h3 d3;split at h;case isFalse=>cases h
  rename_i hc;obtain ⟨⟨rfl,rfl,rfl,rfl,n2,n3⟩,ht,hg,hn⟩:=hc;split at h
  ·rename_i k y q K E hm hx hv hu;split at h
   ·rename_i e sz es e2 sz2 zs z hk hq hK hz;split at h;case isFalse=>cases h
    rename_i hc;obtain ⟨rfl,rfl⟩:=hc;cases h;obtain ⟨p1,p2⟩:=hp;have p2:eO y zs es=es':=p2;subst p2;exact I9 hg h1 d1 h2 d2 n2 h3 d3 n3 ht hm hx hv hq hk hn hu hK hz p1 hr
   ·cases h
  ·cases h
 ·cases h
def zu (P:Program) (ops:Array Oper) (s:AS) (o:Oper) (d:oQ):Option (List Prop×cE) :=
 match d with
 | .m=>bif nw true (gd ops s o) then (match Fo P s o.dst o.op with | some e=>some ([],e) | none=>none) else none
 | .apx zs=>bif nw true (gd ops s o) then Fs P s o.dst zs o.op else none
 | .hN v h1=>bif nw true (gd ops s o) then yo P s o.dst v h1 o.op else none
 | .lk zs es=>bif nw true (gd ops s o) then BX P s o.dst zs es o.op else none
 | .qo (.tk zs es)=>bif nw true (gd ops s o) then Bv P s o.dst zs es o.op else none
 | d=>match vK P ops s o d with
  | some (p,v)=>some (p,.put o.dst v)
  | none=>none
theorem bt.mem {ps:List Prop} (h:bt ps):∀ p∈ps,p:=by
 induction ps with
 | nil=>intro p hp;cases hp
 | cons q qs ih =>
  obtain ⟨h1,h2⟩:=bt.cons.1 h;intro p hp;rcases List.mem_cons.1 hp with rfl | hp
  ·exact h1
  ·exact ih h2 p hp
theorem n9 {d:oQ} {ps:List Prop} {e:cE} (h:zu P ops s o d=some (ps,e)) (hp:bt ps):Loc P ops o s e:=by
 unfold zu at h;split at h
 ·obtain ⟨hg,h⟩:=ay h;split at h
  ·rename_i e' he;cases h;exact Aq (aR hg) he
  ·cases h
 ·obtain ⟨hg,h⟩:=ay h;exact zM (aR hg) h hp.mem
 ·obtain ⟨hg,h⟩:=ay h;exact wG (aR hg) h hp
 ·obtain ⟨hg,h⟩:=ay h;exact ye (aR hg) h hp
 ·obtain ⟨hg,h⟩:=ay h;exact yY (aR hg) h hp.mem
 ·split at h
  ·rename_i p v hv;cases h;exact tf hv hp
  ·cases h
def Bg (P:Program) (ops:Array Oper):List Oper→List oQ→AS→Option (List Prop×List cE)
 | [],[],_=>some ([],[])
 | o::os,d::ds,s=>match zu P ops s o d with
  | some (p,e)=>match Bg P ops os ds (e.app s) with
   | some (ps,es)=>some (p++ps,e::es)
   | none=>none
  | none=>none
 | _,_,_=>none
def apps:List cE→AS→AS
 | [],s=>s
 | e::es,s=>apps es (e.app s)
theorem vv:∀ {os:List Oper} {ds:List oQ} {s:AS} {ps:List Prop} {es:List cE},Bg P ops os ds s=some (ps,es)→bt ps→xg P ops os es s (apps es s)
 | [],[],s,ps,es,h,hp=>by simp only [Bg] at h;cases h;rfl
 | [],_::_,s,ps,es,h,hp=>by simp only [Bg] at h;cases h
 | _::_,[],s,ps,es,h,hp=>by simp only [Bg] at h;cases h
 | o::os,d::ds,s,ps,es,h,hp=>by
  simp only [Bg] at h;split at h
  ·rename_i p e hv;split at h
   ·rename_i ps' es' hr;cases h;obtain ⟨h1,h2⟩:=bt.append.1 hp;exact ⟨n9 hv h1,vv hr h2⟩
   ·cases h
  ·cases h
theorem Loc.op {e:cE} (h:Loc P ops o s e) (hf:e.fr=[]) (hx:e.ex=[]):iA P ops o s (fun s''=>ik (e.app s) s'') :=
 h s ⟨rfl,fun _ _=>rfl,fun _ _ _ _ _=>rfl⟩ (fun k hk=>by rw [hf] at hk;cases hk) (fun p hp=>by rw [hx] at hp;cases hp)
def F6 (P:Program) (s:AS) (dst:Option Tmp):Op→Option AS
 | .box t x=>match dst with | some k=>xR s t (s.op x) k | none=>none
 | .alloc t=>match dst,zeroOf P t with | some k,some z=>xR s t (AV.of z) k | _,_=>none
 | .store t x y=>match dst with | none=>rB P s t (s.op x) (s.op y) | some _=>none
 | .makeMap t none=>match dst with | some k=>vL P s t k | none=>none
 | .mapUpdate t m x y=>match dst with | none=>Ch P s t (s.op m) (s.op x) (s.op y) | some _=>none
 | .range t m=>match dst with | some k=>BA P s t (s.op m) k | none=>none
 | op=>match rU P s op with | some v=>s.put dst v | none=>none
theorem s6 (hg:gd ops s o=some true) (h:F6 P s o.dst o.op=some s'):iA P ops o s (· = s'):=by
 unfold F6 at h;split at h
 ·rename_i t x hop;split at h
  ·rename_i k hd;exact Fc hg hop hd h
  ·cases h
 ·rename_i t hop;split at h
  ·rename_i k z hd hz;exact zW hg hop hd hz h
  ·cases h
 ·rename_i t x y hop;split at h
  ·rename_i hd;exact A1 hg hop hd h
  ·cases h
 ·rename_i t hop;split at h
  ·rename_i k hd;exact B3 hg hop hd h
  ·cases h
 ·rename_i t m x y hop;split at h
  ·rename_i hd;exact GH hg hop hd h
  ·cases h
 ·rename_i t m hop;split at h
  ·rename_i k hd;exact Gn hg hop hd h
  ·cases h
 ·split at h
  ·exact zF hg (by assumption) h
  ·cases h
def ED (P:Program) (s:AS) (dst:Option Tmp) (ps:List (Nat×Nat)) (v:AV) (h1:List (Nat×AO)):Op→Option (List Prop×AS)
 | .call ⟨.value x,ar,_⟩=>match s.op x with
  | .fn f caps=>bif lB ps&&(ps.all fun p=>(lk .gone s.h p.1).liveB&&(Nat.ble 1000 p.2&&Nat.blt p.2 1000000))&&(AV.fl v&&h1.all fun p => !p.2.isR) then (match AS.put ⟨s.n,s.t,back ps h1 ps s.h⟩ dst v with
   | some s'=>some ([Go.Proofs.Enters P f,bG P f ((s.args ar caps).map (AV.ren ps)) (hand ps s.h) fun r h'=>r=v∧h'=h1],s')
   | none=>none) else none
  | _=>none
 | _=>none
theorem sJ {ps:List (Nat×Nat)} {v:AV} {h1:List (Nat×AO)} {qs:List Prop} (hg:gd ops s o=some true) (h:ED P s o.dst ps v h1 o.op=some (qs,s')) (hp:bt qs):iA P ops o s (· = s'):=by
 unfold ED at h;split at h
 ·rename_i x ar tys hop;split at h
  ·rename_i f caps hx;obtain ⟨hc,h2⟩:=ay h;rw [JO] at hc;split at h2
   ·rename_i s2 hs;simp only [JX,Prod.mk.injEq] at h2;obtain ⟨h3,h4⟩:=h2;subst h3;subst h4;exact Er hp.1 hg hop hx ps hc.1 rfl rfl hp.2 fun r h' hr=>by obtain ⟨rfl,rfl⟩:=hr;have hc2:=hc.2;rw [JO] at hc2;exact ⟨hc2.1,hc2.2,_,hs,rfl⟩
   ·cases h2
  ·cases h
 ·cases h
def yJ (P:Program) (s:AS) (dst:Option Tmp) (ps:List (Nat×Nat)) (d:Nat) (v:AV) (h1:List (Nat×AO)) (f:FuncId) (args0:List AV):Option (List Prop×AS) :=
 bif lB ps&&(ps.all fun p=>Nat.ble 1000 p.2&&(Nat.blt p.2 1000000&&Nat.blt p.1 1000000))&&(rk ps d).isNone&&Nat.blt d 1000&&(s.noR||(ps.isEmpty && !(lk .gone h1 0).isR)) then (match AS.put ⟨s.n,gi d s.t,iV ps d h1 s.h⟩ dst (AV.ren ((0,d)::swp ps) v) with
  | some s'=>some ([Go.Proofs.Enters P f,bG P f (args0.map (AV.ren ps)) (hand ps s.h) fun r h'=>r=v∧h'=h1],s')
  | none=>none) else none
def Ft (P:Program) (s:AS) (dst:Option Tmp) (ps:List (Nat×Nat)) (d:Nat) (v:AV) (h1:List (Nat×AO)):Op→Option (List Prop×AS)
 | .call ⟨.value x,ar,_⟩=>match s.op x with
  | .fn f caps=>yJ P s dst ps d v h1 f (s.args ar caps)
  | .bm f k off=>yJ P s dst ps d v h1 f (AV.hptr k off::s.args ar [])
  | _=>none
 | _=>none
theorem sG {ps:List (Nat×Nat)} {d:Nat} {v:AV} {h1:List (Nat×AO)} {qs:List Prop} (hg:gd ops s o=some true) (h:Ft P s o.dst ps d v h1 o.op=some (qs,s')) (hp:bt qs):iA P ops o s (· = s'):=by
 have key:∀ {f:FuncId} {args0:List AV} {x:Operand} {ar:Array Operand} {tys:Array TypeId},o.op = .call ⟨.value x,ar,tys⟩→(Go.Proofs.Enters P f→∀ (c:Cx P) a w β κ,Rel c s a w β κ→∃ vs:Array Value,(execOp a.eval o).run P w = .ok (.enter f vs) w∧vs.size=args0.length∧∀ i,i<args0.length→G w (c.XX s.h β) β κ (args0.getD i .any) (vs.toList.getD i undef))→yJ P s o.dst ps d v h1 f args0=some (qs,s')→iA P ops o s (· = s'):=by
  intro f args0 x ar tys hop hx h;unfold yJ at h;obtain ⟨hc0,h2⟩:=ay h;rw [JO] at hc0;obtain ⟨hc,hor⟩:=hc0;have hor:s.noR=true∨(ps=[]∧∀ v2 h',(v2=v∧h'=h1)→(lk .gone h' 0).isR=false):=by rw [Bool.or_eq_true,JO] at hor;refine hor.imp id fun h=>⟨by simpa using h.1,fun v2 h' e => ?_⟩;rw [e.2];simpa using h.2
  split at h2
  ·rename_i s2 hs;simp only [JX,Prod.mk.injEq] at h2;obtain ⟨h3,h4⟩:=h2;subst h3;subst h4;exact Az hp.1 hg hop (hx hp.1) ps d hc hor rfl rfl hp.2 fun r h' hr=>by obtain ⟨rfl,rfl⟩:=hr;exact ⟨_,hs,rfl⟩
  ·cases h2
 unfold Ft at h;split at h
 ·rename_i x ar tys hop;split at h
  ·rename_i f caps hx;exact key hop (fun he=>xS he hop hx) h
  ·rename_i f k off hx;exact key hop (fun he=>Dh he hop hx) h
  ·cases h
 ·cases h
def yF (P:Program) (s:AS) (dst:Option Tmp) (ps ds:List (Nat×Nat)) (v:AV) (h1:List (Nat×AO)) (f:FuncId) (args0:List AV):Option (List Prop×AS) :=
 bif (lB ps&&(ps.all fun p=>Nat.ble 1000 p.2&&(Nat.blt p.2 1000000&&Nat.blt p.1 1000000))&&lB ds&&ds.all fun p=>(rk ps p.2).isNone&&(Nat.blt p.1 1000&&Nat.blt p.2 1000))&&(s.noR||(ps.isEmpty&&h1.all fun p => !p.2.isR)) then (match AS.put ⟨s.n,Ea ds s.t,j9 ps ds h1 s.h⟩ dst (AV.ren (ds++swp ps) v) with
  | some s'=>some ([Go.Proofs.Enters P f,bG P f (args0.map (AV.ren ps)) (hand ps s.h) fun r h'=>r=v∧h'=h1],s')
  | none=>none) else none
def BN (P:Program) (s:AS) (dst:Option Tmp) (ps ds:List (Nat×Nat)) (v:AV) (h1:List (Nat×AO)):Op→Option (List Prop×AS)
 | .call ⟨.value x,ar,_⟩=>match s.op x with
  | .fn f caps=>yF P s dst ps ds v h1 f (s.args ar caps)
  | .bm f k off=>yF P s dst ps ds v h1 f (AV.hptr k off::s.args ar [])
  | _=>none
 | _=>none
theorem qL {ps ds:List (Nat×Nat)} {v:AV} {h1:List (Nat×AO)} {qs:List Prop} (hg:gd ops s o=some true) (h:BN P s o.dst ps ds v h1 o.op=some (qs,s')) (hp:bt qs):iA P ops o s (· = s'):=by
 have key:∀ {f:FuncId} {args0:List AV} {x:Operand} {ar:Array Operand} {tys:Array TypeId},o.op = .call ⟨.value x,ar,tys⟩→(Go.Proofs.Enters P f→∀ (c:Cx P) a w β κ,Rel c s a w β κ→∃ vs:Array Value,(execOp a.eval o).run P w = .ok (.enter f vs) w∧vs.size=args0.length∧∀ i,i<args0.length→G w (c.XX s.h β) β κ (args0.getD i .any) (vs.toList.getD i undef))→yF P s o.dst ps ds v h1 f args0=some (qs,s')→iA P ops o s (· = s'):=by
  intro f args0 x ar tys hop hx h;unfold yF at h;obtain ⟨hc0,h2⟩:=ay h;rw [JO] at hc0;obtain ⟨hc,hor⟩:=hc0;have hor:s.noR=true∨(ps=[]∧∀ v2 h',(v2=v∧h'=h1)→∀ j,(lk .gone h' j).isR=false):=by rw [Bool.or_eq_true,JO] at hor;refine hor.imp id fun h=>⟨by simpa using h.1,fun v2 h' e j => ?_⟩;rw [e.2];have:=tM (p:=fun o:AO => !o.isR) (d:=AO.gone) rfl h.2 j;simpa using this
  split at h2
  ·rename_i s2 hs;simp only [JX,Prod.mk.injEq] at h2;obtain ⟨h3,h4⟩:=h2;subst h3;subst h4;exact FY hp.1 hg hop (hx hp.1) ps ds hc hor rfl rfl hp.2 fun r h' hr=>by obtain ⟨rfl,rfl⟩:=hr;exact ⟨_,hs,rfl⟩
  ·cases h2
 unfold BN at h;split at h
 ·rename_i x ar tys hop;split at h
  ·rename_i f caps hx;exact key hop (fun he=>xS he hop hx) h
  ·rename_i f k off hx;exact key hop (fun he=>Dh he hop hx) h
  ·cases h
 ·cases h
def rowAt (s:AS):AV→Option (Nat×List (List AV))
 | .rslice k=>match lk .gone s.h k with | .row _ _ xs=>some (k,xs) | _=>none
 | _=>none
def Jp:AV→Option (List (List AV))
 | .dslice ys=>some ys
 | .eslice=>some []
 | _=>none
def Ja (s:AS) (x:AV):Option TypeId:=match x with | .rslice k=>(match lk .gone s.h k with | .row e _ _=>some e | _=>none) | _=>none
def Ji (s:AS) (x:AV):Option Nat:=match x with | .rslice k=>(match lk .gone s.h k with | .row _ e _=>some e | _=>none) | _=>none
def F5 (P:Program) (s:AS) (dst:Option Tmp):Op→Option (List Prop×AS)
 | .call ⟨.builtin .append,ar,tys⟩=>match ar.toList,tys.toList,dst with
  | [x,y],[t,t'],some k'=>if t=t' then (match dY P t,rowAt s (s.op x),Jp (s.op y) with
   | some (e,sz,by_),some (k,xs),some ys=>if Ja s (s.op x)=some e∧Ji s (s.op x)=some sz then (match s.grow k k' e sz (xs++ys) with
    | some s'=>some ([EL sz ys,(xs.length+ys.length)*by_≤140737488355328,xs.length+ys.length≤9223372036854775807],s')
    | none=>none) else none
   | _,_,_=>none) else none
  | _,_,_=>none
 | .buildSlice t len ps=>match dst,dY P t,cG P t len (s.parts ps) with
  | some k',some (e,sz,_),some (.dslice xs)=>(match s.grow k' k' e sz xs with | some s'=>some ([],s') | none=>none)
  | _,_,_=>none
 | _=>none
theorem sM {ps:List Prop} (hg:gd ops s o=some true) (h:F5 P s o.dst o.op=some (ps,s')) (hp:bt ps):iA P ops o s (· = s'):=by
 unfold F5 at h;split at h
 ·rename_i ar tys hop;split at h
  ·rename_i x y t t' k' har hty hd;split at h;case isFalse=>cases h
   rename_i ht;subst ht;have e1:ar = #[x,y]:=by rw [← Array.toList_inj];exact har
   have e2:tys = #[t,t]:=by rw [← Array.toList_inj];exact hty
   subst e1;subst e2;split at h
   ·rename_i e sz by_ k xs ys he hx hy;split at h;case isFalse=>cases h
    rename_i hm;split at h
    ·rename_i s2 hs;cases h;have hx':s.op x = .rslice k∧lk .gone s.h k = .row e sz xs:=by
      unfold rowAt at hx;split at hx
      ·rename_i k2 hk2;split at hx
       ·rename_i e3 sz3 xs3 h3;cases hx;simp only [hk2,Ja,Ji,h3,JX] at hm;obtain ⟨e4,e5⟩:=hm;subst e4;subst e5;exact ⟨hk2,h3⟩
       ·cases hx
      ·cases hx
     have hy':s.op y = .dslice ys∨(s.op y = .eslice∧ys=[]):=by
      unfold Jp at hy;split at hy
      ·cases hy;exact .inl (by assumption)
      ·cases hy;exact .inr ⟨by assumption,rfl⟩
      ·cases hy
     exact sx hg hop hd he (.inr hx') hy' hp.1 hp.2.1 hp.2.2 hs
    ·cases h
   ·cases h
  ·cases h
 ·rename_i t len ps hop;split at h
  ·rename_i k' e2 sz by_ xs hd he hv;split at h
   ·rename_i s2 hs;cases h;exact sK hg hop hd he hv hs
   ·cases h
  ·cases h
 ·cases h
def stepG (P:Program) (s:AS) (dst:Option Tmp):Op→Option (List Prop×AS)
 | .call ⟨.builtin .append,ar,tys⟩=>match ar.toList,tys.toList,dst with
  | [x,y],[t,t'],some k'=>if t=t' then (match dY P t,s.op x,s.op y with
   | some (e,sz,by_),.gslice k,.dslice []=>(match s.put dst (.gslice k) with | some s'=>some ([],s') | none=>none)
   | some (e,sz,by_),.gslice k,.dslice (y0::ys)=>(match lk .gone s.h k with
    | .room e' sz'=>if e'=e∧sz'=sz then (match s.grow k k' e sz (y0::ys) with
     | some s'=>some ([EL sz (y0::ys),(y0::ys).length*by_≤140737488355328,(y0::ys).length≤9223372036854775807],s')
     | none=>none) else none
    | _=>none)
   | _,_,_=>none) else none
  | _,_,_=>none
 | _=>none
theorem tq {ps:List Prop} (hg:gd ops s o=some true) (h:stepG P s o.dst o.op=some (ps,s')) (hp:bt ps):iA P ops o s (· = s'):=by
 unfold stepG at h;split at h
 ·rename_i ar tys hop;split at h
  ·rename_i x y t t' k' har hty hd;split at h;case isFalse=>cases h
   rename_i ht;subst ht;have e1:ar = #[x,y]:=by rw [← Array.toList_inj];exact har
   have e2:tys = #[t,t]:=by rw [← Array.toList_inj];exact hty
   subst e1;subst e2;split at h
   ·rename_i e sz by_ k he hx hy;split at h
    ·rename_i s2 hs;cases h;exact Ax hg hop he hx hy hs
    ·cases h
   ·rename_i e sz by_ k y0 ys he hx hy;split at h
    ·rename_i e' sz' hk;split at h;case isFalse=>cases h
     rename_i hm;obtain ⟨rfl,rfl⟩:=hm;split at h
     ·rename_i s2 hs;cases h;exact Bl hg hop hd he hx hk hy (by simp) hp.1 hp.2.1 hp.2.2 hs
     ·cases h
    ·cases h
   ·cases h
  ·cases h
 ·cases h
def E3 (s:AS) (dst:Option Tmp) (i:Nat) (v':AV):Op→Option (List Prop×AS)
 | .entry it=>match s.op it with
  | .hptr k 0=>match lk .gone s.h k with
   | .iter es sn=>match s.put dst v' with
    | some s'=>some ([sn.getLast? = some i,AV.tup [.str (es.getD i default).1,(es.getD i default).2]=v'],s')
    | none=>none
   | _=>none
  | _=>none
 | _=>none
theorem s7 {i:Nat} {v':AV} {ps:List Prop} (hg:gd ops s o=some true) (h:E3 s o.dst i v' o.op=some (ps,s')) (hp:bt ps):iA P ops o s (· = s'):=by
 unfold E3 at h;split at h
 ·rename_i it hop;split at h
  ·rename_i k hi;split at h
   ·rename_i es sn hk;split at h
    ·rename_i s2 hs;cases h;obtain ⟨h1,h2⟩:=hp;have h2:AV.tup [.str (es.getD i default).1,(es.getD i default).2]=v':=h2;subst h2;exact F7 hg hop hi hk h1 hs
    ·cases h
   ·cases h
  ·cases h
 ·cases h
def bg (P:Program) (ops:Array Oper):List Oper→List oQ→AS→Option (List Prop×AS×List Oper)
 | os,[],s=>some ([],s,os)
 | os,.fz k::ds,s=>match s.frz k with | some s'=>bg P ops os ds s' | none=>none
 | os,.fm k::ds,s=>match s.frzM k with
  | some (p,s')=>(match bg P ops os ds s' with | some (ps,r)=>some (p::ps,r) | none=>none)
  | none=>none
 | os,.fr k::ds,s=>match s.frzR k with
  | some (p,s')=>(match bg P ops os ds s' with | some (ps,r)=>some (p::ps,r) | none=>none)
  | none=>none
 | os,.fw k::ds,s=>match s.frzW k with
  | some (p,s')=>(match bg P ops os ds s' with | some (ps,r)=>some (p::ps,r) | none=>none)
  | none=>none
 | os,.ew t k eo e sz::ds,s=>match s.errow t k eo e sz with | some s'=>bg P ops os ds s' | none=>none
 | os,.tr k e sz::ds,s=>match s.toR k e sz with | some s'=>bg P ops os ds s' | none=>none
 | o1::o2::o3::os,.es3 es::ds,s=>(match B2 P ops s es o1 o2 o3 with
  | some (p,s')=>(match bg P ops os ds s' with | some (ps,r)=>some (p++ps,r) | none=>none)
  | none=>none)
 | os,.er t k e sz::ds,s=>match s.erow t k e sz with | some s'=>bg P ops os ds s' | none=>none
 | os,.wk t p::ds,s=>bg P ops os ds (s.wkT t p)
 | os,.rwT t v::ds,s=>match bg P ops os ds ⟨s.n,ins t v s.t,s.h⟩ with
  | some (ps,r)=>some ((lk .any s.t t=v)::ps,r)
  | none=>none
 | os,.rwH k ob::ds,s=>match bg P ops os ds ⟨s.n,s.t,ins k ob s.h⟩ with
  | some (ps,r)=>some ((lk .gone s.h k=ob)::ps,r)
  | none=>none
 | o::os,.m::ds,s=>bif nw true (gd ops s o) then (match F6 P s o.dst o.op with | some s'=>bg P ops os ds s' | none=>none) else none
 | o::os,.rs n j::ds,s=>bif nw true (gd ops s o) then (match Bf P s o.dst n j o.op with
  | some (p,s')=>(match bg P ops os ds s' with | some (ps,r)=>some (p::ps,r) | none=>none)
  | none=>none) else none
 | o::os,.ap::ds,s=>bif nw true (gd ops s o) then (match F5 P s o.dst o.op with
  | some (p,s')=>(match bg P ops os ds s' with | some (ps,r)=>some (p++ps,r) | none=>none)
  | none=>none) else none
 | o::os,.lk zs es::ds,s=>bif nw true (gd ops s o) then (match yA P s o.dst zs es o.op with
  | some (p,s')=>(match bg P ops os ds s' with | some (ps,r)=>some (p++ps,r) | none=>none)
  | none=>none) else none
 | o::os,.ms es::ds,s=>bif nw true (gd ops s o) then (match A7 P s o.dst es o.op with
  | some (p,s')=>(match bg P ops os ds s' with | some (ps,r)=>some (p++ps,r) | none=>none)
  | none=>none) else none
 | o::os,.qo q::ds,s=>bif nw true (gd ops s o) then (match Ga P s o.dst q o.op with
  | some (p,s')=>(match bg P ops os ds s' with | some (ps,r)=>some (p++ps,r) | none=>none)
  | none=>none) else none
 | o::os,.apg::ds,s=>bif nw true (gd ops s o) then (match stepG P s o.dst o.op with
  | some (p,s')=>(match bg P ops os ds s' with | some (ps,r)=>some (p++ps,r) | none=>none)
  | none=>none) else none
 | o::os,.en i v::ds,s=>bif nw true (gd ops s o) then (match E3 s o.dst i v o.op with
  | some (p,s')=>(match bg P ops os ds s' with | some (ps,r)=>some (p++ps,r) | none=>none)
  | none=>none) else none
 | o::os,.h qs v h1::ds,s=>bif nw true (gd ops s o) then (match ED P s o.dst qs v h1 o.op with
  | some (p,s')=>(match bg P ops os ds s' with | some (ps,r)=>some (p++ps,r) | none=>none)
  | none=>none) else none
 | o::os,.hR qs d v h1::ds,s=>bif nw true (gd ops s o) then (match Ft P s o.dst qs d v h1 o.op with
  | some (p,s')=>(match bg P ops os ds s' with | some (ps,r)=>some (p++ps,r) | none=>none)
  | none=>none) else none
 | o::os,.hM qs qd v h1::ds,s=>bif nw true (gd ops s o) then (match BN P s o.dst qs qd v h1 o.op with
  | some (p,s')=>(match bg P ops os ds s' with | some (ps,r)=>some (p++ps,r) | none=>none)
  | none=>none) else none
 | o::os,d::ds,s=>match vK P ops s o d with
  | some (p,v)=>(match bg P ops os ds ((cE.put o.dst v).app s) with | some (ps,r)=>some (p++ps,r) | none=>none)
  | none=>none
 | [],_::_,_=>none
theorem fO.same {rest:List Oper} {Q:Exit→AS→Prop} (h:fO P ops rest Q s) (e:ik s' s):fO P ops rest Q s':=fun c a w β κ r=>h c a w β κ (r.same e)
theorem Ii {rest:List Oper} {Q:Exit→AS→Prop} {t k:Nat} {e:TypeId} {sz:Nat} (h:s.erow t k e sz=some s') (ht:fO P ops rest Q s'):fO P ops rest Q s:=fun c a w β κ r=>by obtain ⟨κ',r'⟩:=r.erow h;exact ht c a w β κ' r'
theorem ID {rest:List Oper} {Q:Exit→AS→Prop} {k:Nat} {p:Prop} (h:s.frzM k=some (p,s')) (hp:p) (ht:fO P ops rest Q s'):fO P ops rest Q s:=fun c a w β κ r=>ht c a w β κ (r.frzM h hp)
theorem Aw {t:Nat} {v:AV} (h:lk .any s.t t=v):ik ⟨s.n,ins t v s.t,s.h⟩ s:=⟨rfl,fun i=>by
 show lk .any s.t i=lk .any (ins t v s.t) i;rw [aG];split
 ·rename_i e;rw [e];exact h
 ·rfl,fun _=>rfl⟩
theorem E9 {k:Nat} {ob:AO} (h:lk .gone s.h k=ob):ik ⟨s.n,s.t,ins k ob s.h⟩ s:=⟨rfl,fun _=>rfl,fun i=>by
 show lk .gone s.h i=lk .gone (ins k ob s.h) i;rw [aG];split
 ·rename_i e;rw [e];exact h
 ·rfl⟩
theorem Fg {rest:List Oper} {Q:Exit→AS→Prop} {t:Nat} {v:AV} (h:lk .any s.t t=v) (ht:fO P ops rest Q ⟨s.n,ins t v s.t,s.h⟩):fO P ops rest Q s :=
 fun c a w β κ r=>ht c a w β κ (r.same (ik.symm' (Aw h)))
theorem EM {rest:List Oper} {Q:Exit→AS→Prop} {k:Nat} {ob:AO} (h:lk .gone s.h k=ob) (ht:fO P ops rest Q ⟨s.n,s.t,ins k ob s.h⟩):fO P ops rest Q s :=
 fun c a w β κ r=>ht c a w β κ (r.same (ik.symm' (E9 h)))
theorem IA {rest:List Oper} {Q:Exit→AS→Prop} (t:Nat) (p:List (Nat×Nat)) (ht:fO P ops rest Q (s.wkT t p)):fO P ops rest Q s:=fun c a w β κ r=>by exact ht c a w β κ (r.wkT t p)
theorem xv {es:jq}:vK P ops s o (.es3 es)=none:=by unfold vK;cases CY s o.dst<;>rfl
theorem Jk {rest:List Oper} {Q:Exit→AS→Prop} {k:Nat} {p:Prop} (h:s.frzR k=some (p,s')) (hp:p) (ht:fO P ops rest Q s'):fO P ops rest Q s:=fun c a w β κ r=>ht c a w β κ (r.frzR h hp)
theorem Iy {rest:List Oper} {Q:Exit→AS→Prop} {k:Nat} {p:Prop} (h:s.frzW k=some (p,s')) (hp:p) (ht:fO P ops rest Q s'):fO P ops rest Q s:=fun c a w β κ r=>ht c a w β κ (r.frzW h hp)
theorem Ie {rest:List Oper} {Q:Exit→AS→Prop} {t k:Nat} {eo e:TypeId} {sz:Nat} (h:s.errow t k eo e sz=some s') (ht:fO P ops rest Q s'):fO P ops rest Q s:=fun c a w β κ r=>by obtain ⟨κ',r'⟩:=r.errow h;exact ht c a w β κ' r'
theorem av {Q:Exit→AS→Prop}:∀ (ds:List oQ) {os:List Oper} {s:AS} {ps:List Prop} {s':AS} {os':List Oper},bg P ops os ds s=some (ps,s',os')→bt ps→fO P ops os' Q s'→fO P ops os Q s
 | [],os,s,ps,s',os',h,hp,ht=>by
  cases os<;>(simp only [bg] at h;cases h;exact ht)
 | .fz k::ds,os,s,ps,s',os',h,hp,ht=>by
  have h':(match s.frz k with | some s'=>bg P ops os ds s' | none=>none)=some (ps,s',os'):=by cases os<;>simpa only [bg] using h
  split at h'
  ·exact EY k (by assumption) (av ds h' hp ht)
  ·cases h'
 | .rwT t v::ds,os,s,ps,s',os',h,hp,ht=>by
  have h':(match bg P ops os ds ⟨s.n,ins t v s.t,s.h⟩ with
   | some (ps,r)=>some ((lk .any s.t t=v)::ps,r)
   | none=>none)=some (ps,s',os'):=by cases os<;>simpa only [bg] using h
  split at h'
  ·rename_i ps' r hr;cases h';obtain ⟨h1,h2⟩:=bt.cons.1 hp;exact Fg h1 (av ds hr h2 ht)
  ·cases h'
 | .rwH k ob::ds,os,s,ps,s',os',h,hp,ht=>by
  have h':(match bg P ops os ds ⟨s.n,s.t,ins k ob s.h⟩ with
   | some (ps,r)=>some ((lk .gone s.h k=ob)::ps,r)
   | none=>none)=some (ps,s',os'):=by cases os<;>simpa only [bg] using h
  split at h'
  ·rename_i ps' r hr;cases h';obtain ⟨h1,h2⟩:=bt.cons.1 hp;exact EM h1 (av ds hr h2 ht)
  ·cases h'
 | .wk t p::ds,os,s,ps,s',os',h,hp,ht=>by
  have h':bg P ops os ds (s.wkT t p)=some (ps,s',os'):=by cases os<;>simpa only [bg] using h
  exact IA t p (av ds h' hp ht)
 | .er t k e sz::ds,os,s,ps,s',os',h,hp,ht=>by
  have h':(match s.erow t k e sz with | some s'=>bg P ops os ds s' | none=>none)=some (ps,s',os'):=by cases os<;>simpa only [bg] using h
  split at h'
  ·exact Ii (by assumption) (av ds h' hp ht)
  ·cases h'
 | .m::ds,[],s,ps,s',os',h,hp,ht=>by simp only [bg] at h;cases h
 | .m::ds,o::os,s,ps,s',os',h,hp,ht=>by
  simp only [bg] at h;obtain ⟨hg,h⟩:=ay h;split at h
  ·rename_i s2 hs;exact dp ((s6 (aR hg) hs).mono fun s3 e=>by subst e;exact av ds h hp ht)
  ·cases h
 | .rs n j::ds,[],s,ps,s',os',h,hp,ht=>by simp only [bg] at h;cases h
 | .rs n j::ds,o::os,s,ps,s',os',h,hp,ht=>by
  simp only [bg] at h;obtain ⟨hg,h⟩:=ay h;split at h
  ·rename_i p s2 hs;split at h
   ·rename_i ps' r hr;cases h;obtain ⟨h1,h2⟩:=bt.cons.1 hp;exact dp ((qM (aR hg) hs h1).mono fun s3 e=>by subst e;exact av ds hr h2 ht)
   ·cases h
  ·cases h
 | .ap::ds,[],s,ps,s',os',h,hp,ht=>by simp only [bg] at h;cases h
 | .ap::ds,o::os,s,ps,s',os',h,hp,ht=>by
  simp only [bg] at h;obtain ⟨hg,h⟩:=ay h;split at h
  ·rename_i p s2 hs;split at h
   ·rename_i ps' r hr;cases h;obtain ⟨h1,h2⟩:=bt.append.1 hp;exact dp ((sM (aR hg) hs h1).mono fun s3 e=>by subst e;exact av ds hr h2 ht)
   ·cases h
  ·cases h
 | .lk zs es::ds,[],s,ps,s',os',h,hp,ht=>by simp only [bg] at h;cases h
 | .lk zs es::ds,o::os,s,ps,s',os',h,hp,ht=>by
  simp only [bg] at h;obtain ⟨hg,h⟩:=ay h;split at h
  ·rename_i p s2 hs;split at h
   ·rename_i ps' r hr;cases h;obtain ⟨h1,h2⟩:=bt.append.1 hp;exact dp ((pj (aR hg) hs h1).mono fun s3 e=>by subst e;exact av ds hr h2 ht)
   ·cases h
  ·cases h
 | .ms es::ds,[],s,ps,s',os',h,hp,ht=>by simp only [bg] at h;cases h
 | .ms es::ds,o::os,s,ps,s',os',h,hp,ht=>by
  simp only [bg] at h;obtain ⟨hg,h⟩:=ay h;split at h
  ·rename_i p s2 hs;split at h
   ·rename_i ps' r hr;cases h;obtain ⟨h1,h2⟩:=bt.append.1 hp;exact dp ((qR (aR hg) hs h1).mono fun s3 e=>by subst e;exact av ds hr h2 ht)
   ·cases h
  ·cases h
 | .fw k::ds,os,s,ps,s',os',h,hp,ht=>by
  have h':(match s.frzW k with
   | some (p,s')=>(match bg P ops os ds s' with | some (ps,r)=>some (p::ps,r) | none=>none)
   | none=>none)=some (ps,s',os'):=by cases os<;>simpa only [bg] using h
  split at h'
  ·rename_i p s2 hs;split at h'
   ·rename_i ps' r hr;cases h';obtain ⟨h1,h2⟩:=bt.cons.1 hp;exact Iy hs h1 (av ds hr h2 ht)
   ·cases h'
  ·cases h'
 | .ew t k eo e sz::ds,os,s,ps,s',os',h,hp,ht=>by
  have h':(match s.errow t k eo e sz with | some s'=>bg P ops os ds s' | none=>none)=some (ps,s',os'):=by cases os<;>simpa only [bg] using h
  split at h'
  ·exact Ie (by assumption) (av ds h' hp ht)
  ·cases h'
 | .qo q::ds,[],s,ps,s',os',h,hp,ht=>by simp only [bg] at h;cases h
 | .qo q::ds,o::os,s,ps,s',os',h,hp,ht=>by
  simp only [bg] at h;obtain ⟨hg,h⟩:=ay h;split at h
  ·rename_i p s2 hs;split at h
   ·rename_i ps' r hr;cases h;obtain ⟨h1,h2⟩:=bt.append.1 hp;exact dp ((th (aR hg) hs h1.mem).mono fun s3 e=>by subst e;exact av ds hr h2 ht)
   ·cases h
  ·cases h
 | .apg::ds,[],s,ps,s',os',h,hp,ht=>by simp only [bg] at h;cases h
 | .apg::ds,o::os,s,ps,s',os',h,hp,ht=>by
  simp only [bg] at h;obtain ⟨hg,h⟩:=ay h;split at h
  ·rename_i p s2 hs;split at h
   ·rename_i ps' r hr;cases h;obtain ⟨h1,h2⟩:=bt.append.1 hp;exact dp ((tq (aR hg) hs h1).mono fun s3 e=>by subst e;exact av ds hr h2 ht)
   ·cases h
  ·cases h
 | .fm k::ds,os,s,ps,s',os',h,hp,ht=>by
  have h':(match s.frzM k with
   | some (p,s')=>(match bg P ops os ds s' with | some (ps,r)=>some (p::ps,r) | none=>none)
   | none=>none)=some (ps,s',os'):=by cases os<;>simpa only [bg] using h
  split at h'
  ·rename_i p s2 hs;split at h'
   ·rename_i ps' r hr;cases h';obtain ⟨h1,h2⟩:=bt.cons.1 hp;exact ID hs h1 (av ds hr h2 ht)
   ·cases h'
  ·cases h'
 | .en i v::ds,[],s,ps,s',os',h,hp,ht=>by simp only [bg] at h;cases h
 | .en i v::ds,o::os,s,ps,s',os',h,hp,ht=>by
  simp only [bg] at h;obtain ⟨hg,h⟩:=ay h;split at h
  ·rename_i p s2 hs;split at h
   ·rename_i ps' r hr;cases h;obtain ⟨h1,h2⟩:=bt.append.1 hp;exact dp ((s7 (aR hg) hs h1).mono fun s3 e=>by subst e;exact av ds hr h2 ht)
   ·cases h
  ·cases h
 | .h qs v h1::ds,[],s,ps,s',os',h,hp,ht=>by simp only [bg] at h;cases h
 | .h qs v h1::ds,o::os,s,ps,s',os',h,hp,ht=>by
  simp only [bg] at h;obtain ⟨hg,h⟩:=ay h;split at h
  ·rename_i p s2 hs;split at h
   ·rename_i ps' r hr;cases h;obtain ⟨h1,h2⟩:=bt.append.1 hp;exact dp ((sJ (aR hg) hs h1).mono fun s3 e=>by subst e;exact av ds hr h2 ht)
   ·cases h
  ·cases h
 | .hR qs d v h1::ds,[],s,ps,s',os',h,hp,ht=>by simp only [bg] at h;cases h
 | .hR qs d v h1::ds,o::os,s,ps,s',os',h,hp,ht=>by
  simp only [bg] at h;obtain ⟨hg,h⟩:=ay h;split at h
  ·rename_i p s2 hs;split at h
   ·rename_i ps' r hr;cases h;obtain ⟨h1,h2⟩:=bt.append.1 hp;exact dp ((sG (aR hg) hs h1).mono fun s3 e=>by subst e;exact av ds hr h2 ht)
   ·cases h
  ·cases h
 | .hM qs qd v h1::ds,[],s,ps,s',os',h,hp,ht=>by simp only [bg] at h;cases h
 | .hM qs qd v h1::ds,o::os,s,ps,s',os',h,hp,ht=>by
  simp only [bg] at h;obtain ⟨hg,h⟩:=ay h;split at h
  ·rename_i p s2 hs;split at h
   ·rename_i ps' r hr;cases h;obtain ⟨h1,h2⟩:=bt.append.1 hp;exact dp ((qL (aR hg) hs h1).mono fun s3 e=>by subst e;exact av ds hr h2 ht)
   ·cases h
  ·cases h
 | d::ds,[],s,ps,s',os',h,hp,ht=>by
  cases d;case fw k =>
   simp only [bg] at h;split at h
   ·rename_i p s2 hs;split at h
    ·rename_i ps' r hr;cases h;obtain ⟨h1,h2⟩:=bt.cons.1 hp;exact Iy hs h1 (av ds hr h2 ht)
    ·cases h
   ·cases h
  case ew=>simp only [bg] at h;split at h<;>first | (cases h;done) | exact Ie (by assumption) (av ds h hp ht)
  case fr k =>
   simp only [bg] at h;split at h
   ·rename_i p s2 hs;split at h
    ·rename_i ps' r hr;cases h;obtain ⟨h1,h2⟩:=bt.cons.1 hp;exact Jk hs h1 (av ds hr h2 ht)
    ·cases h
   ·cases h
  case tr k e sz =>
   simp only [bg] at h;split at h
   ·rename_i s2 hs;exact fun c a w β κ r=>av ds h hp ht c a w β κ (r.toR hs)
   ·cases h
  case fm k =>
   simp only [bg] at h;split at h
   ·rename_i p s2 hs;split at h
    ·rename_i ps' r hr;cases h;obtain ⟨h1,h2⟩:=bt.cons.1 hp;exact ID hs h1 (av ds hr h2 ht)
    ·cases h
   ·cases h
  case rwT t v =>
   simp only [bg] at h;split at h
   ·rename_i ps' r hr;cases h;obtain ⟨h1,h2⟩:=bt.cons.1 hp;exact Fg h1 (av ds hr h2 ht)
   ·cases h
  case rwH k ob =>
   simp only [bg] at h;split at h
   ·rename_i ps' r hr;cases h;obtain ⟨h1,h2⟩:=bt.cons.1 hp;exact EM h1 (av ds hr h2 ht)
   ·cases h
  case wk t p=>simp only [bg] at h;exact IA t p (av ds h hp ht)
  all_goals simp only [bg] at h
  all_goals first | (cases h;done) | (split at h<;>first | (cases h;done) | exact EY _ (by assumption) (av ds h hp ht) | exact Ii (by assumption) (av ds h hp ht))
 | d::ds,o::os,s,ps,s',os',h,hp,ht=>by
  have key:∀ p v,vK P ops s o d=some (p,v)→(match bg P ops os ds ((cE.put o.dst v).app s) with | some (ps,r)=>some (p++ps,r) | none=>none)=some (ps,s',os')→fO P ops (o::os) Q s:=by
   intro p v hs hr;split at hr
   ·rename_i ps' r hr';cases hr;obtain ⟨h1,h2⟩:=bt.append.1 hp;refine dp (((tf hs h1).op rfl rfl).mono fun s3 e => ?_);exact fun c a w β κ r=>av ds hr' h2 ht c a w β κ (r.same e.symm')
   ·cases hr
  cases d;case fw k =>
   simp only [bg] at h;split at h
   ·rename_i p s2 hs;split at h
    ·rename_i ps' r hr;cases h;obtain ⟨h1,h2⟩:=bt.cons.1 hp;exact Iy hs h1 (av ds hr h2 ht)
    ·cases h
   ·cases h
  case ew=>simp only [bg] at h;split at h<;>first | (cases h;done) | exact Ie (by assumption) (av ds h hp ht)
  case qo q =>
   simp only [bg] at h;obtain ⟨hg,h⟩:=ay h;split at h
   ·rename_i p s2 hs;split at h
    ·rename_i ps' r hr;cases h;obtain ⟨h1,h2⟩:=bt.append.1 hp;exact dp ((th (aR hg) hs h1.mem).mono fun s3 e=>by subst e;exact av ds hr h2 ht)
    ·cases h
   ·cases h
  case fr k =>
   simp only [bg] at h;split at h
   ·rename_i p s2 hs;split at h
    ·rename_i ps' r hr;cases h;obtain ⟨h1,h2⟩:=bt.cons.1 hp;exact Jk hs h1 (av ds hr h2 ht)
    ·cases h
   ·cases h
  case tr k e sz =>
   simp only [bg] at h;split at h
   ·rename_i s2 hs;exact fun c a w β κ r=>av ds h hp ht c a w β κ (r.toR hs)
   ·cases h
  case es3 es =>
   rcases os with _ | ⟨o2,_ | ⟨o3,os⟩⟩
   ·simp only [bg,xv] at h;cases h
   ·simp only [bg,xv] at h;cases h
   ·simp only [bg] at h;split at h
    ·rename_i p s2 hs;split at h
     ·rename_i ps' r hr;cases h;obtain ⟨h1,h2⟩:=bt.append.1 hp;exact yW hs h1 (av ds hr h2 ht)
     ·cases h
    ·cases h
  case fz=>simp only [bg] at h;split at h<;>first | (cases h;done) | exact EY _ (by assumption) (av ds h hp ht)
  case er=>simp only [bg] at h;split at h<;>first | (cases h;done) | exact Ii (by assumption) (av ds h hp ht)
  case rwT t v =>
   simp only [bg] at h;split at h
   ·rename_i ps' r hr;cases h;obtain ⟨h1,h2⟩:=bt.cons.1 hp;exact Fg h1 (av ds hr h2 ht)
   ·cases h
  case rwH k ob =>
   simp only [bg] at h;split at h
   ·rename_i ps' r hr;cases h;obtain ⟨h1,h2⟩:=bt.cons.1 hp;exact EM h1 (av ds hr h2 ht)
   ·cases h
  case wk t p=>simp only [bg] at h;exact IA t p (av ds h hp ht)
  case m =>
   simp only [bg] at h;obtain ⟨hg,h⟩:=ay h;split at h
   ·rename_i s2 hs;exact dp ((s6 (aR hg) hs).mono fun s3 e=>by subst e;exact av ds h hp ht)
   ·cases h
  case rs n j =>
   simp only [bg] at h;obtain ⟨hg,h⟩:=ay h;split at h
   ·rename_i p s2 hs;split at h
    ·rename_i ps' r hr;cases h;obtain ⟨h1,h2⟩:=bt.cons.1 hp;exact dp ((qM (aR hg) hs h1).mono fun s3 e=>by subst e;exact av ds hr h2 ht)
    ·cases h
   ·cases h
  case ap =>
   simp only [bg] at h;obtain ⟨hg,h⟩:=ay h;split at h
   ·rename_i p s2 hs;split at h
    ·rename_i ps' r hr;cases h;obtain ⟨h1,h2⟩:=bt.append.1 hp;exact dp ((sM (aR hg) hs h1).mono fun s3 e=>by subst e;exact av ds hr h2 ht)
    ·cases h
   ·cases h
  case lk zs es =>
   simp only [bg] at h;obtain ⟨hg,h⟩:=ay h;split at h
   ·rename_i p s2 hs;split at h
    ·rename_i ps' r hr;cases h;obtain ⟨h1,h2⟩:=bt.append.1 hp;exact dp ((pj (aR hg) hs h1).mono fun s3 e=>by subst e;exact av ds hr h2 ht)
    ·cases h
   ·cases h
  case ms es =>
   simp only [bg] at h;obtain ⟨hg,h⟩:=ay h;split at h
   ·rename_i p s2 hs;split at h
    ·rename_i ps' r hr;cases h;obtain ⟨h1,h2⟩:=bt.append.1 hp;exact dp ((qR (aR hg) hs h1).mono fun s3 e=>by subst e;exact av ds hr h2 ht)
    ·cases h
   ·cases h
  case apg =>
   simp only [bg] at h;obtain ⟨hg,h⟩:=ay h;split at h
   ·rename_i p s2 hs;split at h
    ·rename_i ps' r hr;cases h;obtain ⟨h1,h2⟩:=bt.append.1 hp;exact dp ((tq (aR hg) hs h1).mono fun s3 e=>by subst e;exact av ds hr h2 ht)
    ·cases h
   ·cases h
  case fm k =>
   simp only [bg] at h;split at h
   ·rename_i p s2 hs;split at h
    ·rename_i ps' r hr;cases h;obtain ⟨h1,h2⟩:=bt.cons.1 hp;exact ID hs h1 (av ds hr h2 ht)
    ·cases h
   ·cases h
  case en i v =>
   simp only [bg] at h;obtain ⟨hg,h⟩:=ay h;split at h
   ·rename_i p s2 hs;split at h
    ·rename_i ps' r hr;cases h;obtain ⟨h1,h2⟩:=bt.append.1 hp;exact dp ((s7 (aR hg) hs h1).mono fun s3 e=>by subst e;exact av ds hr h2 ht)
    ·cases h
   ·cases h
  case h qs v h1 =>
   simp only [bg] at h;obtain ⟨hg,h⟩:=ay h;split at h
   ·rename_i p s2 hs;split at h
    ·rename_i ps' r hr;cases h;obtain ⟨h1,h2⟩:=bt.append.1 hp;exact dp ((sJ (aR hg) hs h1).mono fun s3 e=>by subst e;exact av ds hr h2 ht)
    ·cases h
   ·cases h
  case hR qs d v h1 =>
   simp only [bg] at h;obtain ⟨hg,h⟩:=ay h;split at h
   ·rename_i p s2 hs;split at h
    ·rename_i ps' r hr;cases h;obtain ⟨h1,h2⟩:=bt.append.1 hp;exact dp ((sG (aR hg) hs h1).mono fun s3 e=>by subst e;exact av ds hr h2 ht)
    ·cases h
   ·cases h
  case hM qs qd v h1 =>
   simp only [bg] at h;obtain ⟨hg,h⟩:=ay h;split at h
   ·rename_i p s2 hs;split at h
    ·rename_i ps' r hr;cases h;obtain ⟨h1,h2⟩:=bt.append.1 hp;exact dp ((qL (aR hg) hs h1).mono fun s3 e=>by subst e;exact av ds hr h2 ht)
    ·cases h
   ·cases h
  all_goals
   simp only [bg] at h;split at h
   ·rename_i p v hs;exact key p v hs h
   ·cases h
end
section
variable {P:Program} {Q:Exit→AS→Prop} {s s':AS} {l:List Oper} {id:Nat}
theorem G8 (ds:List oQ) {ps:List Prop} (h:bg P l.toArray l ds s=some (ps,s',[])) (hp:bt ps) (hq:Q .normal s'):dL P (.region id l.toArray false) Q s :=
 vd (av ds h hp (xh hq))
def Ih (P:Program) (l:List Oper) (n:Nat) (d1 d2:List oQ) (s:AS):Option (List Prop×AS×List Oper) :=
 match Bg P l.toArray (l.take n) d1 s with
 | some (ps,es)=>bif uI l n es s&&AX (kj l []) es s&&AK (kj l []) es s then (match bg P l.toArray (l.drop n) d2 (apps es s) with
  | some (qs,r)=>some (ps++qs,r)
  | none=>none) else none
 | none=>none
theorem Dl (hm:P.follows .mixedOrders=true) (n:Nat) (d1 d2:List oQ) {ps:List Prop} (h:Ih P l n d1 d2 s=some (ps,s',[])) (hp:bt ps) (hq:Q .normal s'):dL P (.region id l.toArray true) Q s:=by
 unfold Ih at h;split at h
 ·rename_i ps1 es he;obtain ⟨hc,h2⟩:=ay h;split at h2
  ·rename_i qs r hr;simp only [JX,Prod.mk.injEq] at h2;obtain ⟨h3,h4⟩:=h2;subst h3;subst h4;obtain ⟨p1,p2⟩:=bt.append.1 hp;exact E7 hm n es hc (vv he p1) (av d2 hr p2 (xh hq))
  ·cases h2
 ·cases h
def BS (P:Program) (ops:Array Oper) (cl:List (List Nat)) (c:zc) (i:Nat) (s:AS) (o:Oper) (d:oQ):Option (List Prop×cE) :=
 bif Nat.beq i c.i0 then none else bif DK i (cl.getD c.i0 []) then zu P ops s o d else (match d,o.dst with
  | .v,some dst=>bif nw true (gd ops s o)&&(Nat.blt dst s.n && !Nat.beq dst c.t1 && !Nat.beq dst c.t2)&&(!Nat.beq i c.i0 && !Nat.beq i c.i1 && !Nat.beq i c.i2) then (match fJ P s o.op with
   | some (p,v)=>some (Jn o.op p,.put o.dst v)
   | none=>none) else none
  | _,_=>none)
def zZ (P:Program) (ops:Array Oper) (cl:List (List Nat)) (c:zc) (i:Nat) (s:AS) (o:Oper):oQ→Option (List Prop×cE)
 | .e1 es'=>bif Nat.beq i c.i0&&nw true (gd ops s o)&&c.ok cl&&Nat.blt c.t1 s.n then (match o.op,o.dst with
  | .mapEntry t (.tmp tm) x,some t1=>bif Nat.beq t c.t&&Nat.beq t1 c.t1 then (match lk .any s.t tm,s.op x,P.underlying t with
   | .amap k,.str y,some (.map K E)=>bif Nat.beq k c.k then (match lk .gone s.h k,P.underlying K,zeroOf P E with
    | .rmap e sz es,some .string,some _=>some ([y=c.y,es.length<1000000,iz c.y es=es'],⟨[(c.t1,.any)],[(c.k,.rmap e sz es')],[],[]⟩)
    | _,_,_=>none) else none
   | _,_,_=>none) else none
  | _,_=>none) else none
 | .e2=>bif Nat.beq i c.i1&&nw true (gd ops s o)&&c.ok cl&&Nat.blt c.t2 s.n then (match o.op,o.dst with
  | .extract (.tmp t1) 1,some t2=>bif Nat.beq t1 c.t1&&Nat.beq t2 c.t2 then some ([],⟨[(c.t2,.any)],[],[],[]⟩) else none
  | _,_=>none) else none
 | .e3 es'=>bif Nat.beq i c.i2&&nw true (gd ops s o)&&c.ok cl then (match o.op,o.dst with
  | .entryStore t (.tmp tm) (.tmp t2) (.tmp tv),none=>bif Nat.beq t c.t&&Nat.beq t2 c.t2 then (match lk .any s.t tm,lk .any s.t tv,P.underlying t with
   | .amap k,.rslice q,some (.map K E)=>bif Nat.beq k c.k then (match lk .gone s.h k,lk .gone s.h q,P.underlying K,zeroOf P E with
    | .rmap e sz es,.row e2 sz2 zs,some .string,some _=>bif Nat.beq e2 e&&Nat.beq sz2 sz then some ([es.length<1000000,eO c.y zs es=es'],⟨[(tv,.any)],[(q,.gone),(c.k,.rmap e sz es')],[],[(q,tv)]⟩) else none
    | _,_,_,_=>none) else none
   | _,_,_=>none) else none
  | _,_=>none) else none
 | d=>BS P ops cl c i s o d
theorem Gw {a b:Nat} (h:(!Nat.beq a b)=true):a≠b:=fun e=>by rw [e,Nat.beq_refl] at h;cases h
theorem yr {ops:Array Oper} {cl:List (List Nat)} {c:zc} {i:Nat} {o:Oper} {d:oQ} {ps:List Prop} {e:cE} (h:BS P ops cl c i s o d=some (ps,e)) (hp:bt ps):rQ P ops cl (J3 P c) i o s e:=by
 unfold BS at h;cases h0:Nat.beq i c.i0 with
 | true=>rw [h0] at h;cases h
 | false =>
  have hne:i≠c.i0:=fun e1=>by rw [e1,Nat.beq_refl] at h0;cases h0
  rw [h0,cond_false] at h;cases h1:DK i (cl.getD c.i0 []) with
  | true =>
   rw [h1,cond_true] at h;exact A6 (n9 h hp) hne (oT h1)
  | false =>
   rw [h1,cond_false] at h;split at h
   ·rename_i dst hd;obtain ⟨hc,h⟩:=ay h;simp only [JO] at hc;obtain ⟨⟨g1,⟨g2,g3⟩,g4⟩,⟨g5,g6⟩,g7⟩:=hc;split at h
    ·rename_i p v hv;cases h;exact DO (aR g1) hv (uo hv hp) hd (by simpa [Nat.blt_eq] using g2) (Gw g3) (Gw g4) hne (Gw g6) (Gw g7)
    ·cases h
   ·cases h
theorem z7 {ops:Array Oper} {cl:List (List Nat)} {c:zc} {i:Nat} {o:Oper} {d:oQ} {ps:List Prop} {e:cE} (h:zZ P ops cl c i s o d=some (ps,e)) (hp:bt ps):rQ P ops cl (J3 P c) i o s e:=by
 cases d with
 | e1 es' =>
  simp only [zZ] at h;have h9:=ay h;clear h;obtain ⟨hc,h⟩:=h9;simp only [JO] at hc;obtain ⟨⟨⟨g1,g2⟩,g3⟩,g4⟩:=hc;have g1:=bM.1 g1;subst g1;split at h
  ·rename_i t tm x t1 hop hd;have h9:=ay h;clear h;obtain ⟨hc,h⟩:=h9;rw [JO] at hc;have e1:=bM.1 hc.1;have e2:=bM.1 hc.2;clear hc;subst e1;subst e2;split at h
   ·rename_i k y K E hm hx hu;have h9:=ay h;clear h;obtain ⟨hc,h⟩:=h9;have e3:=bM.1 hc;clear hc;subst e3;split at h
    ·rename_i e' sz es z hk hK hz;cases h;obtain ⟨p1,p2,p3⟩:=hp;exact Hm (aR g2) hop hd (by simpa [Nat.blt_eq] using g4) hm hx p1 hk hu hK hz p2 p3 g3
    ·cases h
   ·cases h
  ·cases h
 | e2 =>
  simp only [zZ] at h;have h9:=ay h;clear h;obtain ⟨hc,h⟩:=h9;simp only [JO] at hc;obtain ⟨⟨⟨g1,g2⟩,g3⟩,g4⟩:=hc;have g1:=bM.1 g1;subst g1;split at h
  ·rename_i t1 t2 hop hd;have h9:=ay h;clear h;obtain ⟨hc,h⟩:=h9;rw [JO] at hc;have e1:=bM.1 hc.1;have e2:=bM.1 hc.2;clear hc;subst e1;subst e2;cases h;exact Hg (aR g2) hop hd (by simpa [Nat.blt_eq] using g4) g3
  ·cases h
 | e3 es' =>
  simp only [zZ] at h;have h9:=ay h;clear h;obtain ⟨hc,h⟩:=h9;simp only [JO] at hc;obtain ⟨⟨g1,g2⟩,g3⟩:=hc;have g1:=bM.1 g1;subst g1;split at h
  ·rename_i t tm t2 tv hop hd;have h9:=ay h;clear h;obtain ⟨hc,h⟩:=h9;rw [JO] at hc;have e1:=bM.1 hc.1;have e2:=bM.1 hc.2;clear hc;subst e1;subst e2;split at h
   ·rename_i k q K E hm hv hu;have h9:=ay h;clear h;obtain ⟨hc,h⟩:=h9;have e3:=bM.1 hc;clear hc;subst e3;split at h
    ·rename_i e' sz es e2 sz2 zs z hk hq hK hz;have h9:=ay h;clear h;obtain ⟨hc,h⟩:=h9;rw [JO] at hc;have e4:=bM.1 hc.1;have e5:=bM.1 hc.2;subst e4;subst e5;cases h;obtain ⟨p1,p2⟩:=hp;exact Hp (aR g2) hop hd hm hv hq hk hu hK hz p1 p2 g3
    ·cases h
   ·cases h
  ·cases h
 | _=>exact yr h hp
def uk (P:Program) (ops:Array Oper) (cl:List (List Nat)) (c:zc):Nat→List Oper→List oQ→AS→Option (List Prop×List cE)
 | _,[],[],_=>some ([],[])
 | i,o::os,d::ds,s=>match zZ P ops cl c i s o d with
  | some (p,e)=>match uk P ops cl c (i+1) os ds (e.app s) with
   | some (ps,es)=>some (p++ps,e::es)
   | none=>none
  | none=>none
 | _,_,_,_=>none
theorem uw {P:Program}:∀ (es:List cE) (bs:List Bool) (s:AS),(∀ b∈bs,b=false)→sL es bs s=s
 | [],bs,s,_=>by cases bs<;>rfl
 | e::es,[],s,_=>rfl
 | e::es,b::bs,s,hb=>by rw [sL,hb b (by simp)];exact uw (P:=P) es bs s fun b hb'=>hb b (by simp [hb'])
theorem s8 {ops:Array Oper} {cl:List (List Nat)} {c:zc}:∀ {os:List Oper} {ds:List oQ} {s:AS} {ps:List Prop} {es:List cE} {n:Nat},uk P ops cl c n os ds s=some (ps,es)→bt ps →
 os.length=es.length∧apps es s=sL es (List.replicate es.length true) s∧∀ (i:Nat) (o:Oper) (e:cE),os[i]? = some o→es[i]? = some e→rQ P ops cl (J3 P c) (n+i) o (sL es ((List.range es.length).map fun j=>decide (j<i)) s) e
 | [],[],s,ps,es,n,h,hp=>by simp only [uk] at h;cases h;exact ⟨rfl,rfl,fun i o e ho _=>by simp at ho⟩
 | [],_::_,s,ps,es,n,h,hp=>by simp only [uk] at h;cases h
 | _::_,[],s,ps,es,n,h,hp=>by simp only [uk] at h;cases h
 | o::os,d::ds,s,ps,es,n,h,hp=>by
  simp only [uk] at h;split at h
  ·rename_i p e hv;split at h
   ·rename_i ps' es' hr;cases h;obtain ⟨h1,h2⟩:=bt.append.1 hp;obtain ⟨a1,a2,a3⟩:=s8 hr h2;refine ⟨by simp [a1],by show apps es' (e.app s)=_;rw [a2];rfl,fun i o' e' ho he => ?_⟩;cases i with
    | zero =>
     simp only [List.getElem?_cons_zero,JX] at ho he;subst ho;subst he;rw [uw (P:=P) _ _ _ (by simp)];exact z7 hv h1
    | succ i =>
     have h3:=a3 i o' e' (by simpa using ho) (by simpa using he);have:sL (e::es') ((List.range (e::es').length).map fun j=>decide (j<i+1)) s=sL es' ((List.range es'.length).map fun j=>decide (j<i)) (e.app s):=by rw [List.length_cons,List.range_succ_eq_map,List.map_cons,List.map_map];simp only [sL,Nat.zero_lt_succ,decide_true,if_true];congr 1;simp [Function.comp_def]
     rw [this,show n+(i+1)=n+1+i by omega];exact h3
   ·cases h
  ·cases h
def Fz (P:Program) (c:zc) (l:List Oper) (n:Nat) (d1 d2:List oQ) (s:AS):Option (List Prop×AS×List Oper) :=
 match uk P l.toArray (kj l []) c 0 (l.take n) d1 s with
 | some (ps,es)=>bif (uI l n es s&&AX (kj l []) es s&&AK (kj l []) es s)&&(s.noR&&es.all wv) then (match bg P l.toArray (l.drop n) d2 (apps es s) with
  | some (qs,r)=>some (ps++qs,r)
  | none=>none) else none
 | none=>none
theorem BW (hm:P.follows .mixedOrders=true) (c:zc) (n:Nat) (d1 d2:List oQ) {ps:List Prop} (h:Fz P c l n d1 d2 s=some (ps,s',[])) (hp:bt ps) (hq:Q .normal s'):dL P (.region id l.toArray true) Q s:=by
 unfold Fz at h;split at h
 ·rename_i ps1 es he;obtain ⟨hc,h2⟩:=ay h;rw [JO] at hc;split at h2
  ·rename_i qs r hr;simp only [JX,Prod.mk.injEq] at h2;obtain ⟨h3,h4⟩:=h2;subst h3;subst h4;obtain ⟨p1,p2⟩:=bt.append.1 hp;obtain ⟨k1,k2,k3⟩:=s8 he p1;exact xb hm n es (J3 P c) hc.1 hc.2 k1 k2 (fun i o e h1 h2=>by have:=k3 i o e h1 h2;rwa [Nat.zero_add] at this) (fun a w β h=>by cases h) (av d2 hr p2 (xh hq))
  ·cases h2
 ·cases h
def JT:(Nat→Bool)→Act→World→(Nat→Nat)→Prop:=fun _ _ _ _=>True
theorem Jt {ops:Array Oper} {cl:List (List Nat)} {i:Nat} {o:Oper} {e:cE} (h:Loc P ops o s e):rQ P ops cl JT i o s e :=
 fun s' _ ha hf hx _ _ _ _ c' a w β κ r _ K Q hK=>h s' ha hf hx c' a w β κ r K Q fun s'' a' w' β' κ' hs hr=>hK s'' a' w' β' κ' hs hr trivial
def B6 (P:Program) (s:AS) (dst:Option Tmp) (es':tQ):Op→Option (List Prop×cE)
 | .store t x (.tmp tv)=>match s.op x,lk .any s.t tv,dst,kH P t with
  | .hptr k off,.rslice q,none,some 1=>match lk .gone s.h k,lk .gone s.h q with
   | .rrow eo e sz es,.row e2 sz2 zs=>bif Nat.beq e2 e&&Nat.beq sz2 sz then some ([off<es.length,es.set off (some zs)=es'],⟨[(tv,.any)],[(q,.gone),(k,.rrow eo e sz es')],[],[(q,tv)]⟩) else none
   | _,_=>none
  | _,_,_,_=>none
 | _=>none
theorem yp {ops:Array Oper} {cl:List (List Nat)} {i:Nat} {o:Oper} {es':tQ} {ps:List Prop} {ef:cE} (hg:gd ops s o=some true) (h:B6 P s o.dst es' o.op=some (ps,ef)) (hp:bt ps):rQ P ops cl JT i o s ef:=by
 unfold B6 at h;split at h
 ·rename_i t x tv hop;split at h
  ·rename_i k off q hx hv hd hsz;split at h
   ·rename_i eo e sz es e2 sz2 zs hk hq;have h9:=ay h;clear h;obtain ⟨hc,h⟩:=h9;rw [JO] at hc;have e4:=bM.1 hc.1;have e5:=bM.1 hc.2;subst e4;subst e5;cases h;obtain ⟨p1,p2⟩:=hp;have p2:es.set off (some zs)=es':=p2;subst p2;intro s' b ha _ hx2 hnr hbi hcl hcl2 c' a w β κ r _ K2 Q hK2;obtain ⟨x1,x2⟩:=hx2 (q,tv) (by simp);have hxo:x∈o.op.operands:=by rw [hop];simp [Op.operands]
    have hvo:Operand.tmp tv∈o.op.operands:=by rw [hop];simp [Op.operands]
    have hx':s'.op x = .hptr k off:=by rw [bc ha hxo];exact hx
    have hv':s'.op (.tmp tv) = .rslice q:=by rw [bc ha hvo];exact hv
    have hk':lk .gone s'.h k = .rrow eo e2 sz2 es:=by rw [ha.h (by rw [hop];rfl) _ hxo k (by rw [hx];simp [AV.men])];exact hk
    have hq':lk .gone s'.h q = .row e2 sz2 zs:=by rw [ha.h (by rw [hop];rfl) _ hvo q (by show AV.men q (lk .any s.t tv)=true;rw [hv];simp [AV.men])];exact hq
    have hX:=r.op x;have hV:=r.op (.tmp tv);rw [hx'] at hX;rw [hv'] at hV;obtain ⟨w',hr,rel⟩:=CZ r hX hV hsz hq' hk' hnr p1;rw [fP r (by rw [bL ha];exact hg)];simp only [if_true];unfold Oper.wp;have he:(execOp a.eval o).run P w = .ok .skip w':=by simp only [execOp,hop,Sem.run_bind,hr,Result.andThen];rfl
    rw [he];show K2 (a.put o.dst _) _;rw [hd];refine hK2 (s'.stowR k q eo e2 sz2 (es.set off (some zs))) _ _ _ _ ⟨rfl,fun i => ?_,fun n => ?_⟩ rel trivial
    ·show lk .any (gi q s'.t) i=lk .any (jN [(tv,.any)] s'.t) i;rw [b8,cP];simp only [gw];by_cases e1:i=tv
     ·subst e1;have hv2:lk .any s'.t i = .rslice q:=hv';simp [hv2,AV.pg,AV.men]
     ·rw [bK e1,AV.pg_free (x1 i e1)];rfl
    ·show lk .gone (rm q (dh q (ins k (.rrow eo e2 sz2 (es.set off (some zs))) s'.h))) n=lk .gone (jN [(q,.gone),(k,.rrow eo e2 sz2 (es.set off (some zs)))] s'.h) n;rw [cP,iT,cn,aG];simp only [gw];by_cases e1:n=q
     ·subst e1;simp
     ·rw [if_neg e1,bK e1];simp only [cond_false];by_cases e2:n=k
      ·subst e2;simp [AO.pg]
      ·rw [if_neg e2,bK e2,AO.pg_free (x2 n)];rfl
   ·cases h
  ·cases h
 ·cases h
def EO (P:Program) (ops:Array Oper) (s:AS) (o:Oper):oQ→Option (List Prop×cE)
 | .qo (.st es')=>bif nw true (gd ops s o) then B6 P s o.dst es' o.op else none
 | d=>zu P ops s o d
theorem z6 {ops:Array Oper} {cl:List (List Nat)} {i:Nat} {o:Oper} {d:oQ} {ps:List Prop} {e:cE} (h:EO P ops s o d=some (ps,e)) (hp:bt ps):rQ P ops cl JT i o s e:=by
 unfold EO at h;split at h
 ·have h9:=ay h;clear h;obtain ⟨hg,h⟩:=h9;exact yp (aR hg) h hp
 ·exact Jt (n9 h hp)
def uQ (P:Program) (ops:Array Oper):List Oper→List oQ→AS→Option (List Prop×List cE)
 | [],[],_=>some ([],[])
 | o::os,d::ds,s=>match EO P ops s o d with
  | some (p,e)=>match uQ P ops os ds (e.app s) with
   | some (ps,es)=>some (p++ps,e::es)
   | none=>none
  | none=>none
 | _,_,_=>none
theorem tc {ops:Array Oper} {cl:List (List Nat)}:∀ {os:List Oper} {ds:List oQ} {s:AS} {ps:List Prop} {es:List cE},uQ P ops os ds s=some (ps,es)→bt ps →
 os.length=es.length∧apps es s=sL es (List.replicate es.length true) s∧∀ (i:Nat) (o:Oper) (e:cE),os[i]? = some o→es[i]? = some e→∀ n,rQ P ops cl JT n o (sL es ((List.range es.length).map fun j=>decide (j<i)) s) e
 | [],[],s,ps,es,h,hp=>by simp only [uQ] at h;cases h;exact ⟨rfl,rfl,fun i o e ho _=>by simp at ho⟩
 | [],_::_,s,ps,es,h,hp=>by simp only [uQ] at h;cases h
 | _::_,[],s,ps,es,h,hp=>by simp only [uQ] at h;cases h
 | o::os,d::ds,s,ps,es,h,hp=>by
  simp only [uQ] at h;split at h
  ·rename_i p e hv;split at h
   ·rename_i ps' es' hr;cases h;obtain ⟨h1,h2⟩:=bt.append.1 hp;obtain ⟨a1,a2,a3⟩:=tc (cl:=cl) hr h2;refine ⟨by simp [a1],by show apps es' (e.app s)=_;rw [a2];rfl,fun i o' e' ho he n => ?_⟩;cases i with
    | zero =>
     simp only [List.getElem?_cons_zero,JX] at ho he;subst ho;subst he;rw [uw (P:=P) _ _ _ (by simp)];exact z6 hv h1
    | succ i =>
     have h3:=a3 i o' e' (by simpa using ho) (by simpa using he) n;have:sL (e::es') ((List.range (e::es').length).map fun j=>decide (j<i+1)) s=sL es' ((List.range es'.length).map fun j=>decide (j<i)) (e.app s):=by rw [List.length_cons,List.range_succ_eq_map,List.map_cons,List.map_map];simp only [sL,Nat.zero_lt_succ,decide_true,if_true];congr 1;simp [Function.comp_def]
     rw [this];exact h3
   ·cases h
  ·cases h
def Ez (P:Program) (l:List Oper) (n:Nat) (d1 d2:List oQ) (s:AS):Option (List Prop×AS×List Oper) :=
 match uQ P l.toArray (l.take n) d1 s with
 | some (ps,es)=>bif (uI l n es s&&AX (kj l []) es s&&AK (kj l []) es s)&&(s.noR&&es.all wv) then (match bg P l.toArray (l.drop n) d2 (apps es s) with
  | some (qs,r)=>some (ps++qs,r)
  | none=>none) else none
 | none=>none
theorem B8 (hm:P.follows .mixedOrders=true) (n:Nat) (d1 d2:List oQ) {ps:List Prop} (h:Ez P l n d1 d2 s=some (ps,s',[])) (hp:bt ps) (hq:Q .normal s'):dL P (.region id l.toArray true) Q s:=by
 unfold Ez at h;split at h
 ·rename_i ps1 es he;obtain ⟨hc,h2⟩:=ay h;rw [JO] at hc;split at h2
  ·rename_i qs r hr;simp only [JX,Prod.mk.injEq] at h2;obtain ⟨h3,h4⟩:=h2;subst h3;subst h4;obtain ⟨p1,p2⟩:=bt.append.1 hp;obtain ⟨k1,k2,k3⟩:=tc (cl:=kj l []) he p1;exact xb hm n es JT hc.1 hc.2 k1 k2 (fun i o e h1 h2=>k3 i o e h1 h2 i) (fun a w β=>trivial) (av d2 hr p2 (xh hq))
  ·cases h2
 ·cases h
def uf (f:Func):Code:=match f.body with | some c=>c | none=>.skip
def rh (f:Func):Bool:=match f.body with | some _=>true | none=>false
theorem zv {f:Func} (h:rh f=true):f.body=some (uf f):=by
 unfold rh at h;unfold uf;split at h
 ·rename_i c e;rw [e]
 ·cases h
theorem I5 {f:FuncId} {fn:Func} {args:List AV} {h:List (Nat×AO)} {Post:AV→List (Nat×AO)→Prop} (hf:P.funcs[f]? = some fn) (n:Nat) (rs:List ResultVar) (hok:(rh fn&&Nat.beq fn.ntmps n&&Nat.ble args.length n)=true) (hrs:fn.results.toList=rs)
 (ht:dL P (uf fn) (I1 P rs Post) ⟨n,kR args 0,h⟩):bG P f args h Post:=by
 simp only [JO,Nat.beq_eq,Nat.ble_eq] at hok;exact zT hf (zv hok.1.1) n hok.1.2 rs hrs hok.2 ht
end
section
variable {P:Program} {Q:Exit→AS→Prop} {s s':AS} {l:List Oper} {id:Nat}
def AS.only (s:AS) (ts hs:List Nat):AS:=⟨s.n,sel ts s.t,sel hs s.h⟩
theorem all_nil:bt []:=trivial
theorem all_cons {p:Prop} {ps:List Prop} (h:p) (h2:bt ps):bt (p::ps):=bt.cons.2 ⟨h,h2⟩
theorem aV {ps qs:List Prop} (h:bt ps) (h2:bt qs):bt (ps++qs):=bt.append.2 ⟨h,h2⟩
theorem bI.eq {f:FuncId} {args:List AV} {v v':AV} (h:bI P f args v) (e:v=v'):bG P f args [] fun r _=>r=v':=bG.mono h fun _ _ hr=>hr.1.trans e
theorem bI.is {f:FuncId} {args:List AV} {v:AV} (h:bI P f args v):bG P f args [] fun r _=>r=v:=bG.mono h fun _ _ hr=>hr.1
theorem ix {α:Type} {f:α→List AV} {l:List α} {n:Nat} {sz:Nat} (d:α) (hf:∀ x,(f x).length=sz) (h0:0<sz) (h:n<l.length) :
 bt [((0:Int)≤(n:Int)∧(n:Int)<((l.map f).length:Int))∧(((l.map f).getD (n:Int).toNat []).length=sz∧0<sz),AV.dptr ((l.map f).getD (n:Int).toNat []) = .dptr (f (l.getD n d))]:=by
 have e:(l.map f).getD (n:Int).toNat []=f (l.getD n d):=by simp [JM,JN h]
 refine ⟨⟨⟨by omega,by simpa using h⟩,?_,h0⟩,?_⟩
 ·rw [e];exact hf _
 ·rw [e];rfl
theorem vy {α:Type} {f:α→List AV} {l:List α} {n:Int} {sz:Nat} (d:α) (hf:∀ x,(f x).length=sz) (h0:0<sz) (h:0≤n∧n<l.length) :
 bt [((0:Int)≤n∧n<((l.map f).length:Int))∧(((l.map f).getD n.toNat []).length=sz∧0<sz),AV.dptr ((l.map f).getD n.toNat []) = .dptr (f (l.getD n.toNat d))]:=by
 have hn:n.toNat<l.length:=by omega
 have e:(l.map f).getD n.toNat []=f (l.getD n.toNat d):=by simp [JM,JN hn]
 refine ⟨⟨⟨h.1,by simpa using h.2⟩,?_,h0⟩,?_⟩
 ·rw [e];exact hf _
 ·rw [e];rfl
theorem aK {α:Type} (f:α→List AV) (l:List α):AV.int .i64 ((l.map f).length:Nat) = .int .i64 (l.length:Nat):=by rw [JV]
def zI:AV→List Prop
 | .str l=>[l.length≤9223372036854775807]
 | .dslice xs=>[xs.length≤9223372036854775807]
 | _=>[]
def Cc:List AV→List Prop
 | []=>[]
 | c::cs=>zI c++Cc cs
def lens:AV→List Prop
 | .agg cs=>Cc cs
 | .tup cs=>Cc cs
 | v=>zI v
theorem rH {w:World} {X:Nat→Prop} {β:Nat→Nat} {κ:Nat→Nat×Nat} {v:AV} {V:Value} (h:G w X β κ v V):bt (zI v):=by
 unfold zI;split
 ·exact h.str_len
 ·obtain ⟨_,_,_,_,h1,h2⟩:=h.dslice_inv;exact Nat.le_trans h1 h2
 ·trivial
theorem rL {w:World} {X:Nat→Prop} {β:Nat→Nat} {κ:Nat→Nat×Nat}:∀ {cs:List AV} {vs:Nat→Value},(∀ i,i<cs.length→G w X β κ (cs.getD i .any) (vs i))→bt (Cc cs)
 | [],_,_=>trivial
 | c::cs,vs,h=>bt.append.2 ⟨rH (h 0 (by simp)),rL (vs:=fun i=>vs (i+1)) fun i hi=>by simpa using h (i+1) (by simpa using hi)⟩
theorem Gs {w:World} {X:Nat→Prop} {β:Nat→Nat} {κ:Nat→Nat×Nat} {v:AV} {V:Value} (h:G w X β κ v V):bt (lens v):=by
 unfold lens;split
 ·obtain ⟨vs,_,_,hg⟩:=h.agg_inv;exact rL hg
 ·obtain ⟨vs,_,_,hg⟩:=h.tup_inv;exact rL hg
 ·exact rH h
theorem bn {cd:Code} (t:Nat) {ps:List Prop} (h:lens (lk .any s.t t)=ps) (ht:bt ps→dL P cd Q s):dL P cd Q s:=fun c a w β κ r =>
 ht (h ▸ Gs (r.tm t)) c a w β κ r
end
def Cv (s s':AS):Prop:=∀ (P:Program) (c:Cx P) (a:Act) (w:World) (β:Nat→Nat) (κ:Nat→Nat×Nat),Rel c s a w β κ→∃ β' κ',Rel c s' a w β' κ'
theorem Cv.refl (s:AS):Cv s s:=fun _ _ _ _ β κ r=>⟨β,κ,r⟩
theorem Cv.trans {s s' s'':AS} (h:Cv s s') (h':Cv s' s''):Cv s s'':=fun P c a w β κ r=>by obtain ⟨β',κ',r'⟩:=h _ c a w β κ r;exact h' _ c a w β' κ' r'
theorem Cv.only (s:AS) (ts hs:List Nat):Cv s (s.only ts hs):=fun _ _ _ _ β κ r=>⟨β,κ,r.sel ts hs⟩
theorem Cv.frz {s s':AS} {k:Nat} (h:s.frz k=some s'):Cv s s':=fun _ _ _ _ β κ r=>⟨β,κ,r.frz h⟩
theorem Cv.frzM {s s':AS} {k:Nat} {p:Prop} (h:s.frzM k=some (p,s')) (hp:p):Cv s s':=fun _ _ _ _ β κ r=>⟨β,κ,r.frzM h hp⟩
theorem Cv.erow {s s':AS} {t k:Nat} {e:TypeId} {sz:Nat} (h:s.erow t k e sz=some s'):Cv s s':=fun _ _ _ _ β κ r=>by obtain ⟨κ',r'⟩:=r.erow h;exact ⟨β,κ',r'⟩
theorem Cv.tri {P:Program} {cd:Code} {Q:Exit→AS→Prop} {s s':AS} (h:Cv s s') (ht:dL P cd Q s'):dL P cd Q s:=fun c a w β κ r=>by obtain ⟨β',κ',r'⟩:=h _ c a w β κ r;exact ht c a w β' κ' r'
theorem Cv.wkT (s:AS) (t:Nat) (p:List (Nat×Nat)):Cv s (s.wkT t p):=fun _ _ _ _ β κ r=>⟨β,κ,r.wkT t p⟩
def AO.wk (i:Nat) (p:List (Nat×Nat)):AO→AO
 | .cells e cs=>.cells e (cU (AV.wk p) i cs)
 | o=>o
def AS.wkH (s:AS) (k i:Nat) (p:List (Nat×Nat)):AS:=⟨s.n,s.t,s.h.map fun q=>(q.1,bif Nat.beq q.1 k then AO.wk i p q.2 else q.2)⟩
theorem Ey {α:Type} (d:α) (f:α→α) (hd:f d=d) (k:Nat) (l:List (Nat×α)) (i:Nat):lk d (l.map fun q=>(q.1,bif Nat.beq q.1 k then f q.2 else q.2)) i=if i=k then f (lk d l i) else lk d l i:=by
 induction l with
 | nil=>simp [lk,hd]
 | cons p l ih =>
  obtain ⟨j,u⟩:=p;simp only [List.map_cons,lk];by_cases h:i=j
  ·subst h;rw [Nat.beq_refl];simp only [cond_true];by_cases h2:i=k
   ·subst h2;simp
   ·rw [bK h2,if_neg h2];rfl
  ·rw [bK h];simp only [cond_false];exact ih
theorem yn (s:AS) (k i:Nat) (p:List (Nat×Nat)) (j:Nat):lk .gone (s.wkH k i p).h j=if j=k then AO.wk i p (lk .gone s.h j) else lk .gone s.h j:=Ey .gone (AO.wk i p) rfl k s.h j
theorem AO.live_wk (i:Nat) (p:List (Nat×Nat)) (o:AO):(AO.wk i p o).live=o.live:=by cases o<;>rfl
theorem AO.inn_wk (i:Nat) (p:List (Nat×Nat)) (o:AO) (j:Nat):(AO.wk i p o).inn j=o.inn j:=by cases o<;>rfl
theorem AO.gone_wk {i:Nat} {p:List (Nat×Nat)} {o:AO} (h:AO.wk i p o ≠ .gone):o ≠ .gone:=fun e=>h (by rw [e];rfl)
theorem Cv.wkH (s:AS) (k i:Nat) (p:List (Nat×Nat)):Cv s (s.wkH k i p):=fun P c a w β κ r=>by
 have hlive:∀ j,(lk .gone (s.wkH k i p).h j).live=(lk .gone s.h j).live:=fun j=>by
  rw [yn];split
  ·rw [AO.live_wk]
  ·rfl
 have hinn:∀ j l,(lk .gone (s.wkH k i p).h j).inn l=(lk .gone s.h j).inn l:=fun j l=>by
  rw [yn];split
  ·rw [AO.inn_wk]
  ·rfl
 have hlv:∀ j,lv (s.wkH k i p).h j=lv s.h j:=fun j=>by simp only [lv,hlive,hinn]
 have hown:own (s.wkH k i p).h β=own s.h β:=by funext b;simp only [own,hlv]
 have hX:c.XX (s.wkH k i p).h β=c.XX s.h β:=by funext b;simp [Cx.XX,hown]
 refine ⟨β,κ,r.df,r.sz,fun j => ?_,⟨fun j => ?_,fun a b ha hb e=>r.hp.inj a b (by rw [hlv] at ha;exact ha) (by rw [hlv] at hb;exact hb) e,r.hp.kp,fun j hj=>r.hp.nk j (by rw [hlv] at hj;exact hj),fun j hj=>r.hp.nx j (by rw [hlv] at hj;exact hj),r.hp.fix,fun j hj => ?_⟩⟩
 ·rw [hX];exact r.tm j
 ·rw [hX,yn];have h:=r.hp.ob j;split
  ·generalize lk .gone s.h j=o at h;cases o with
   | cells e cs =>
    obtain ⟨cur,h1,h2,h3⟩:=h;exact ⟨cur,h1,by rw [bl];exact h2,fun l hl=>dO (R:=fun x=>G w (c.XX s.h β) β κ x (cur.getD l undef)) (fun x hx=>hx.wk p) i cs l (h3 l (by rw [bl] at hl;exact hl))⟩
   | _=>exact h
  ·exact h
 ·rw [yn] at hj;split at hj
  ·exact r.hp.sg j (AO.gone_wk hj)
  ·exact r.hp.sg j hj
def Jb (ps:List (Nat×Nat)):Bool:=ps.all fun p=>bif Nat.beq p.1 p.2 then Nat.blt p.2 1000000 else Nat.blt p.2 1000
def AS.ren (s:AS) (ps:List (Nat×Nat)):AS:=⟨s.n,s.t.map fun q=>(q.1,AV.ren ps q.2),hand ps s.h⟩
theorem Cv.ren (s:AS) (ps:List (Nat×Nat)) (hps:(lB ps&&Jb ps)=true):Cv s (s.ren ps):=fun P c a w β κ r=>by
 simp only [JO] at hps;obtain ⟨hinj,hid⟩:=hps;have hbig:∀ {k j},rk ps k=some j→j<1000000∧(1000≤j→k=j):=fun {k j} h=>by
  have:=J0.1 hid _ (lV h);cases e:Nat.beq k j with
  | true =>
   simp only [e,cond_true,Nat.blt_eq] at this;exact ⟨this,fun _=>bM.1 e⟩
  | false =>
   simp only [e,cond_false,Nat.blt_eq] at this;exact ⟨by omega,fun hj=>by omega⟩
 let τ:Nat→Nat→Prop:=fun n n'=>rk ps n=some n'∨∃ k j i,rk ps k=some j∧i<1000000∧n=gk k i∧n'=gk j i
 let β':Nat→Nat:=tz (fun j=>match rk (swp ps) j with | some k=>β k | none=>β j) (fun j i=>match rk (swp ps) j with | some k=>β (gk k i) | none=>β (gk j i))
 let κ':Nat→Nat×Nat:=tz (fun j=>match rk (swp ps) j with | some k=>κ k | none=>κ j) (fun j i=>match rk (swp ps) j with | some k=>κ (gk k i) | none=>κ (gk j i))
 have hβ:∀ k j,rk ps k=some j→β' j=β k∧κ' j=κ k:=by intro k j h;have h2:=(bJ hinj).2 h;have h3:=(hbig h).1;exact ⟨by simp only [β',eF h3,h2],by simp only [κ',eF h3,h2]⟩
 have hβv:∀ k j,rk ps k=some j→∀ i,i<1000000→β' (gk j i)=β (gk k i)∧κ' (gk j i)=κ (gk k i):=by intro k j h i hi;have h2:=(bJ hinj).2 h;exact ⟨by simp only [β',dm hi,h2],by simp only [κ',dm hi,h2]⟩
 have hlk:∀ j,lk .gone (hand ps s.h) j=match rk (swp ps) j with | some k=>AO.ren ps (lk .gone s.h k) | none=>.gone:=fun j=>qU hinj j
 have hlvh:∀ n',lv (hand ps s.h) n'→∃ n,((rk ps n=some n'∧n<1000000)∨∃ k j i,rk ps k=some j∧i<1000000∧n=gk k i∧n'=gk j i)∧lv s.h n∧β' n'=β n:=by
  rintro n' (h1 | ⟨m,i,rfl,h1⟩)
  ·rw [hlk] at h1;cases e:rk (swp ps) n' with
   | none=>rw [e] at h1;exact h1.elim
   | some k =>
    rw [e] at h1;have e2:=(bJ hinj).1 e;have h2:=jk.1 h1;exact ⟨k,.inl ⟨e2,r.hp.sm k h2⟩,.inl h2,(hβ _ _ e2).1⟩
  ·rw [hlk] at h1;cases e:rk (swp ps) m with
   | none=>rw [e] at h1;exact h1.elim
   | some k =>
    rw [e] at h1;have e2:=(bJ hinj).1 e;have hi:=(AO.inn_isR h1).1;exact ⟨gk k i,.inr ⟨k,m,i,e2,hi,rfl,rfl⟩,bp (nc.1 h1),(hβv _ _ e2 i hi).1⟩
 have hown:∀ b,own (hand ps s.h) β' b→own s.h β b:=by rintro b ⟨j,h1,h2⟩;obtain ⟨k,_,h3,h4⟩:=hlvh j h1;exact ⟨k,h3,by rw [← h4];exact h2⟩
 have hX:∀ b,¬ c.XX s.h β b→b<w.heap.size→¬ c.XX (hand ps s.h) β' b:=fun b hb _ hb'=>hb (hb'.imp id (hown b));refine ⟨β',κ',r.df,r.sz,fun i => ?_,⟨fun j => ?_,fun i j hi hj e => ?_,r.hp.kp,fun j hj => ?_,fun j hj => ?_,fun j hj hj6 => ?_,fun j hj => ?_⟩⟩
 ·show G w (c.XX (hand ps s.h) β') β' κ' (lk .any (s.t.map fun q=>(q.1,AV.ren ps q.2)) i) _;rw [vC .any (AV.ren ps) rfl];exact (r.tm i).ren hβ hX
 ·show HO w (c.XX (hand ps s.h) β') β' κ' j (lk .gone (hand ps s.h) j);rw [hlk];cases e:rk (swp ps) j with
  | none=>trivial
  | some k =>
   have e2:=(bJ hinj).1 e;exact (r.hp.ob k).ren hβ hX (hβ _ _ e2) (fun i hi _=>hβv _ _ e2 i hi)
 ·obtain ⟨k1,a1,a2,a3⟩:=hlvh i hi;obtain ⟨k2,b1,b2,b3⟩:=hlvh j hj;have:k1=k2:=r.hp.inj k1 k2 a2 b2 (by rw [← a3,← b3];exact e);subst this;rcases a1 with ⟨h,h'⟩ | ⟨k,l,i,h,hii,rfl,rfl⟩<;>rcases b1 with ⟨g,g'⟩ | ⟨k2,l2,i2,g,hi2,ee,rfl⟩
  ·rw [h] at g;exact JZ g
  ·have:=cq k2 i2;omega
  ·have:=cq k i;omega
  ·obtain ⟨rfl,rfl⟩:=dJ hii hi2 ee;rw [h] at g;rw [JZ g]
 ·obtain ⟨k,_,a2,a3⟩:=hlvh j hj;rw [a3];exact r.hp.nk k a2
 ·obtain ⟨k,_,a2,a3⟩:=hlvh j hj;rw [a3];exact r.hp.nx k a2
 ·have hf:=r.hp.fix j hj hj6;have e1:β' j=(match rk (swp ps) j with | some k=>β k | none=>β j):=eF hj6;have e2:κ' j=(match rk (swp ps) j with | some k=>κ k | none=>κ j):=eF hj6;rw [e1,e2];cases e:rk (swp ps) j with
  | none=>exact hf
  | some k =>
   have:=(hbig ((bJ hinj).1 e)).2 hj;subst this;exact hf
 ·have hj:lk .gone (hand ps s.h) j ≠ .gone:=hj;rw [hlk] at hj;cases e:rk (swp ps) j with
  | none=>rw [e] at hj;exact absurd rfl hj
  | some k=>exact (hbig ((bJ hinj).1 e)).1
def AS.erowH (s:AS) (k i k':Nat) (e:TypeId) (sz:Nat):Option AS :=
 match lk .gone (dh k' s.h) k with
 | .cells e2 cs=>match cs.getD i .any with
  | .eslice=>bif Nat.blt k' 1000 && !Nat.beq k k' then some ⟨s.n,gi k' s.t,ins k' (.row e sz []) (ins k (.cells e2 (cU (fun _=>.rslice k') i cs)) (dh k' s.h))⟩ else none
  | _=>none
 | _=>none
theorem zH {α:Type} (f:α→α) (d:α):∀ (i:Nat) (l:List α) (j:Nat),(cU f i l).getD j d=if j=i∧i<l.length then f (l.getD j d) else l.getD j d
 | _,[],j=>by simp [cU]
 | 0,x::xs,0=>by simp [cU]
 | 0,x::xs,j+1=>by simp [cU]
 | i+1,x::xs,0=>by simp [cU]
 | i+1,x::xs,j+1=>by have:=zH f d i xs j;simpa [cU] using this
theorem Cv.erowH {s s':AS} {k i k':Nat} {e:TypeId} {sz:Nat} (h:s.erowH k i k' e sz=some s'):Cv s s':=fun P c a w β κ r=>by
 unfold AS.erowH at h;split at h
 ·rename_i e2 cs hk;split at h
  ·rename_i hi;obtain ⟨hc,h⟩:=ay h;cases h;rw [JO] at hc;have hk':k'<1000:=by simpa [Nat.blt_eq] using hc.1
   have hkk:k≠k':=fun e=>by have:=hc.2;rw [e,Nat.beq_refl] at this;cases this
   have r':=r.pg k';let h2:=ins k' (AO.row e sz []) (ins k (.cells e2 (cU (fun _=>.rslice k') i cs)) (dh k' s.h))
   have hl:∀ j,lk AO.gone h2 j=if j=k' then .row e sz [] else if j=k then .cells e2 (cU (fun _=>.rslice k') i cs) else lk .gone (dh k' s.h) j:=fun j=>by show lk AO.gone (ins k' _ _) j=_;rw [aG,aG]
   have hk6:k'<1000000:=by omega
   have hlive:∀ {j},lv h2 j→lv (dh k' s.h) j:=by
    intro j hl2;rcases ed (o:=.row e sz []) hk6 (fun _ h=>h) hl2 with ⟨_,h0⟩ | ⟨_,hl2⟩
    ·exact absurd rfl h0
    ·exact (qy (by rw [hk];exact Iff.rfl) (fun i=>by rw [hk];exact Iff.rfl) j).1 hl2
   have hX:∀ b,¬ c.XX (dh k' s.h) β b→b<w.heap.size→¬ c.XX h2 β b:=by
    rintro b hb _ (hx | ⟨j,hl,hj⟩)
    ·exact hb (.inl hx)
    ·exact hb (.inr ⟨j,hlive hl,hj⟩)
   have hT:∀ {v:AV} {V:Value},G w (c.XX (dh k' s.h) β) β κ v V→AV.men k' v=false→G w (c.XX h2 β) β (upd κ k' (0,0)) v V:=fun hg hm =>
    hg.mono (w':=w) (fun _ _ _=>rfl) hX (fun j hj=>.updκ hk6 (fun e=>by rw [e,hm] at hj;cases hj))
   refine ⟨β,upd κ k' (0,0),r.df,r.sz,fun i => ?_,⟨fun j => ?_,fun i j hi hj e=>r'.hp.inj i j (hlive hi) (hlive hj) e,r.hp.kp,fun j hj=>r'.hp.nk j (hlive hj),fun j hj=>r'.hp.nx j (hlive hj),fun j hj hj6 => ?_,fun j hj => ?_⟩⟩
   ·exact hT (r'.tm i) (by show AV.men k' (lk .any (gi k' s.t) i)=false;rw [b8,AV.men_pg])
   ·show HO w (c.XX h2 β) β (upd κ k' (0,0)) j (lk AO.gone h2 j);rw [hl];by_cases ej:j=k'
    ·rw [if_pos ej,ej];exact ⟨by rw [aj];rfl,fun h=>absurd rfl h⟩
    ·rw [if_neg ej];by_cases ej2:j=k
     ·rw [if_pos ej2,ej2];have ho:=r'.hp.ob k;have hmen:AO.men k' (lk .gone (dh k' s.h) k)=false:=by rw [cn];exact AO.men_pg k' _
      rw [hk] at ho hmen;obtain ⟨cur,g1,g2,g3⟩:=ho;refine ⟨cur,g1,by rw [bl];exact g2,fun l hl2 => ?_⟩;rw [bl] at hl2;rw [zH];have g4:=g3 l hl2;have hm2:AV.men k' (cs.getD l .any)=false:=by
       cases hb:AV.men k' (cs.getD l .any) with
       | false=>rfl
       | true=>have:=cY hl2 hb;rw [show AV.menL k' cs=false from hmen] at this;cases this
      by_cases el:l=i∧i<cs.length
      ·rw [if_pos el];rw [el.1,hi] at g4;obtain ⟨ad,e1⟩:=g4.eslice_inv;rw [el.1,e1];exact .rslice0 k' ad (by rw [aj])
      ·rw [if_neg el];exact hT g4 hm2
     ·rw [if_neg ej2];exact (r'.hp.ob j).mono (w':=w) (fun _ _ _=>rfl) hX (fun i hi=>.updκ hk6 (fun e=>by rw [e] at hi;have:AO.men k' (lk .gone (dh k' s.h) j)=true:=hi;rw [cn,AO.men_pg] at this;cases this)) (.updκ hk6 ej) (fun _=>rfl) (fun _ _=>rfl)
   ·have:j≠k':=by omega
    rw [bf κ this];exact r.hp.fix j hj hj6
   ·have hj:lk AO.gone h2 j ≠ .gone:=hj;rw [hl] at hj;by_cases ej:j=k'
    ·omega
    ·rw [if_neg ej] at hj;by_cases ej2:j=k
     ·rw [ej2];exact r'.hp.sm k (by show (lk .gone (dh k' s.h) k).live;rw [hk];trivial)
     ·rw [if_neg ej2] at hj;exact r'.hp.sg j hj
  ·cases h
 ·cases h
inductive Cd where
 | only (ts hs:List Nat)
 | fz (k:Nat)
 | er (t k:Nat) (e:TypeId) (sz:Nat)
 | wk (t:Nat) (p:List (Nat×Nat))
 | wkH (k i:Nat) (p:List (Nat×Nat))
 | ren (ps:List (Nat×Nat))
 | erH (k i k':Nat) (e:TypeId) (sz:Nat)
def conv:List Cd→AS→Option AS
 | [],s=>some s
 | .only ts hs::cs,s=>conv cs (s.only ts hs)
 | .fz k::cs,s=>match s.frz k with | some s'=>conv cs s' | none=>none
 | .er t k e sz::cs,s=>match s.erow t k e sz with | some s'=>conv cs s' | none=>none
 | .wk t p::cs,s=>conv cs (s.wkT t p)
 | .wkH k i p::cs,s=>conv cs (s.wkH k i p)
 | .erH k i k' e sz::cs,s=>match s.erowH k i k' e sz with | some s'=>conv cs s' | none=>none
 | .ren ps::cs,s=>bif lB ps&&Jb ps then conv cs (s.ren ps) else none
theorem dw:∀ (cs:List Cd) {s s':AS},conv cs s=some s'→Cv s s'
 | [],s,s',h=>by cases h;exact .refl _
 | .only ts hs::cs,s,s',h=>(Cv.only s ts hs).trans (dw cs h)
 | .fz k::cs,s,s',h=>by
  simp only [conv] at h;split at h
  ·rename_i h1;exact (Cv.frz h1).trans (dw cs h)
  ·cases h
 | .er t k e sz::cs,s,s',h=>by
  simp only [conv] at h;split at h
  ·rename_i h1;exact (Cv.erow h1).trans (dw cs h)
  ·cases h
 | .wk t p::cs,s,s',h=>(Cv.wkT s t p).trans (dw cs h)
 | .wkH k i p::cs,s,s',h=>(Cv.wkH s k i p).trans (dw cs h)
 | .erH k i k' e sz::cs,s,s',h=>by
  simp only [conv] at h;split at h
  ·rename_i h1;exact (Cv.erowH h1).trans (dw cs h)
  ·cases h
 | .ren ps::cs,s,s',h=>by obtain ⟨h1,h2⟩:=ay h;exact (Cv.ren s ps h1).trans (dw cs h2)
end Go.Ab
namespace Go.Sh
inductive ff (σ ε ρ:Type) where
 | go (s:σ)
 | brk (e:ε)
 | ret (r:ρ)
inductive Out (ε ρ:Type) where
 | brk (e:ε)
 | ret (r:ρ)
section
variable {α β σ ε ρ:Type}
def nD (k:σ→Option (Out ε ρ)):ff σ ε ρ→Option (Out ε ρ)
 | .go s=>k s
 | .brk e=>some (.brk e)
 | .ret r=>some (.ret r)
def cL (body:Nat→σ→Option (ff σ ε ρ)) (fin:Nat→σ→ε):Nat→Nat→σ→Option (Out ε ρ)
 | 0,i,s=>some (.brk (fin i s))
 | k+1,i,s=>(body i s).bind (nD (cL body fin k (i+1)))
def mC (body:σ→Option (ff σ ε ρ)):Nat→σ→Option (Out ε ρ)
 | 0,_=>none
 | n+1,s=>(body s).bind (nD (mC body n))
def aft (f:ε→Option β):Out ε β→Option β
 | .brk e=>f e
 | .ret r=>some r
def bZ (p:Prop) [Decidable p] (x:Option α):Option α:=if p then x else none
def qq:ff σ ε ρ→Out ε ρ→Prop
 | .go _,_=>True
 | .brk e,r=>r = .brk e
 | .ret x,r=>r = .ret x
theorem aU {m:Option α} {f:α→Option β} {v:β} {G:Prop} (H:m.bind f=some v) (k:∀ y,m=some y→f y=some v→G):G:=by
 cases m with
 | none=>cases H
 | some y=>exact k y rfl H
theorem a7 {b:Bool} {x y:Option α} {v:α} {G:Prop} (H:(bif b then x else y)=some v) (t:b=true→x=some v→G) (f:b=false→y=some v→G):G:=by
 cases b with
 | true=>exact t rfl H
 | false=>exact f rfl H
theorem aY {p:Prop} [Decidable p] {x:Option α} {v:α} {G:Prop} (H:bZ p x=some v) (k:p→x=some v→G):G:=by
 unfold bZ at H;split at H
 ·exact k (by assumption) H
 ·cases H
theorem cK {x y:α} {G:Prop} (H:some x=some y) (k:x=y→G):G:=k (JZ H)
end
end Go.Sh
namespace Go.Ab
open Go.RowKit Go.Sh
inductive Fr where
 | seq (c:Code)
 | blk (id:Nat)
 | bar (S:AS)
 | rnd (n:Nat) (y:Code)
def RT (P:Program) (n:Nat) (y:Code) (Q:Exit→AS→Prop) (s:AS):Prop:=∀ (c:Cx P) a w β κ,Rel c s a w β κ→Code.rounds P y (lift c Q) n a w
theorem tt {P:Program} {y:Code} {Q Q':Exit→Act→World→Prop} (h:∀ e a w,Q e a w→Q' e a w):∀ (n:Nat) a w,Code.rounds P y Q n a w→Code.rounds P y Q' n a w
 | 0,_,_,hr=>hr.elim
 | n+1,a,w,hr=>Code.wp_mono (fun e a w q=>by
  cases e with
  | normal=>exact tt h n a w q
  | _=>exact h _ _ _ q) hr
theorem RT.succ {P:Program} {n:Nat} {y:Code} {Q:Exit→AS→Prop} {s:AS} (h:dL P y (IW (RT P n y Q) Q) s):RT P (n+1) y Q s:=fun c a w β κ r =>
 Code.wp_mono (fun e a w q=>by
  obtain ⟨s',β',κ',q,r'⟩:=q;cases e with
  | normal=>exact (show RT P n y Q s' from q) c a w β' κ' r'
  | _=>exact ⟨s',β',κ',q,r'⟩) (h c a w β κ r)
theorem RT.loop {P:Program} {n:Nat} {y:Code} {Q:Exit→AS→Prop} {s:AS} (h:RT P n y Q s):dL P (.loop y) Q s:=fun c a w β κ r=>wp_loop_rounds n (h c a w β κ r)
theorem RT.lift {P:Program} {n:Nat} {y:Code} {Q Q':Exit→AS→Prop} {s:AS} (h:RT P n y Q s) (hq:∀ (c:Cx P) e a w,lift c Q e a w→lift c Q' e a w):RT P n y Q' s:=fun c a w β κ r=>tt (fun e a w=>hq c e a w) n a w (h c a w β κ r)
def b5 (P:Program):List Fr→(Exit→AS→Prop)→Exit→AS→Prop
 | [],Q=>Q
 | .seq c::fs,Q=>IW (dL P c (b5 P fs Q)) (b5 P fs Q)
 | .blk id::fs,Q=>blk id (b5 P fs Q)
 | .bar S::fs,Q=>IW (fun s=>Cv s S) (b5 P fs Q)
 | .rnd n y::fs,Q=>IW (RT P n y (b5 P fs Q)) (b5 P fs Q)
def yH:List Fr→Option Code×List Fr
 | .seq c::fs=>(some c,fs)
 | .blk _::fs=>yH fs
 | .bar S::fs=>(none,.bar S::fs)
 | .rnd (n+1) y::fs=>(some y,.rnd n y::fs)
 | .rnd 0 y::fs=>(none,.rnd 0 y::fs)
 | []=>(none,[])
def zy (id:Nat):List Fr→Option (List Fr)
 | .seq _::fs=>zy id fs
 | .blk j::fs=>bif Nat.beq id j then some fs else zy id fs
 | .bar _::fs=>zy id fs
 | .rnd _ _::fs=>zy id fs
 | []=>none
inductive Sg where
 | rg (n:Nat) (d1 d2:List oQ)
 | cv (cs:List Cd)
 | un
 | eqT (t:Nat) (v:AV)
inductive El where
 | at (c:Code) (fs:List Fr) (s:AS)
 | nrm (fs:List Fr) (s:AS)
 | ret (s:AS)
def Ip (P:Program) (ops:Array Oper) (dr:Bool) (k:Nat) (d1 d2:List oQ) (s:AS):Option (List Prop×AS×List Oper) :=
 bif dr then (match d1 with | .ent c::d1'=>Fz P c ops.toList k d1' d2 s | .rr::d1'=>Ez P ops.toList k d1' d2 s | _=>Ih P ops.toList k d1 d2 s) else bg P ops.toList.toArray ops.toList d2 s
def path (P:Program):Nat→List Sg→Code→List Fr→AS→Option (List Prop×El)
 | 0,_,c,fs,s=>some ([],.at c fs s)
 | n+1,.cv cs::sg,c,fs,s=>match conv cs s with
  | some s'=>path P n sg c fs s'
  | none=>none
 | n+1,.eqT t v::sg,c,fs,s=>match path P n sg c fs ⟨s.n,ins t v s.t,s.h⟩ with
  | some (ps,lf)=>some ((lk .any s.t t=v)::ps,lf)
  | none=>none
 | n+1,.un::sg,.loop y,fs,s=>path P n sg y (.rnd 63 y::fs) s
 | n+1,sg,.seq x y,fs,s=>path P n sg x (.seq y::fs) s
 | n+1,sg,.skip,fs,s=>match yH fs with
  | (some c,fs')=>path P n sg c fs' s
  | (none,fs')=>some ([],.nrm fs' s)
 | n+1,.rg k d1 d2::sg,.region _ ops dr,fs,s=>match Ip P ops dr k d1 d2 s with
  | some (ps,s',[])=>match yH fs with
   | (some c,fs')=>match path P n sg c fs' s' with
    | some (qs,lf)=>some (ps++qs,lf)
    | none=>none
   | (none,fs')=>some (ps,.nrm fs' s')
  | _=>none
 | n+1,sg,.cond x y z,fs,s=>match s.op x with
  | .bool true=>path P n sg y fs s
  | .bool false=>path P n sg z fs s
  | _=>none
 | n+1,sg,.block id y,fs,s=>path P n sg y (.blk id::fs) s
 | n+1,sg,.exit id,fs,s=>match zy id fs with
  | some fs1=>match yH fs1 with
   | (some c,fs')=>path P n sg c fs' s
   | (none,fs')=>some ([],.nrm fs' s)
  | none=>none
 | _+1,_,.ret,_,s=>some ([],.ret s)
 | _+1,_,.loop y,fs,s=>some ([],.at (.loop y) fs s)
 | _+1,_,_,_,_=>none
section
variable {P:Program} {Q:Exit→AS→Prop}
theorem vm:∀ {fs:List Fr} {s:AS},(∀ c fs',yH fs=(some c,fs')→dL P c (b5 P fs' Q) s)→(∀ fs',yH fs=(none,fs')→b5 P fs' Q .normal s)→b5 P fs Q .normal s
 | [],s,_,h=>h _ rfl
 | .seq c::fs,s,h,_=>h _ _ rfl
 | .blk id::fs,s,h,h2=>vm (fs:=fs) h h2
 | .bar S::fs,s,_,h=>h _ rfl
 | .rnd (n+1) y::fs,s,h,_=>RT.succ (h _ _ rfl)
 | .rnd 0 y::fs,s,_,h=>h _ rfl
theorem wc {id:Nat}:∀ {fs fs1:List Fr} {s:AS},zy id fs=some fs1→b5 P fs1 Q .normal s→b5 P fs Q (.exit id) s
 | [],_,s,h,_=>by cases h
 | .seq c::fs,_,s,h,h2=>wc (fs:=fs) h h2
 | .bar S::fs,_,s,h,h2=>wc (fs:=fs) h h2
 | .rnd n y::fs,_,s,h,h2=>wc (fs:=fs) h h2
 | .blk j::fs,fs1,s,h,h2=>by
  simp only [zy] at h;simp only [b5,blk];cases e:Nat.beq id j with
  | true=>rw [e] at h;cases h;exact h2
  | false=>rw [e] at h;exact wc (fs:=fs) h h2
theorem vN:∀ {fs:List Fr} {s:AS},Q .ret s→b5 P fs Q .ret s
 | [],_,h=>h
 | .seq _::fs,_,h=>vN (fs:=fs) h
 | .blk _::fs,_,h=>vN (fs:=fs) h
 | .bar _::fs,_,h=>vN (fs:=fs) h
 | .rnd _ _::fs,_,h=>vN (fs:=fs) h
def HM (P:Program) (Q:Exit→AS→Prop):El→Prop
 | .at c fs s=>dL P c (b5 P fs Q) s
 | .nrm fs s=>b5 P fs Q .normal s
 | .ret s=>Q .ret s
theorem vY (hm:P.follows .mixedOrders=true) {id k:Nat} {ops:Array Oper} {dr:Bool} {d1 d2:List oQ} {s s':AS} {ps:List Prop} {Q':Exit→AS→Prop} (h:Ip P ops dr k d1 d2 s=some (ps,s',[])) (hp:bt ps) (hq:Q' .normal s'):dL P (.region id ops dr) Q' s:=by
 have e:ops=ops.toList.toArray:=by simp
 unfold Ip at h;cases dr with
 | true =>
  simp only [cond_true] at h;split at h
  ·rw [e];exact BW hm _ k _ d2 h hp hq
  ·rw [e];exact B8 hm k _ d2 h hp hq
  ·rw [e];exact Dl hm k d1 d2 h hp hq
 | false =>
  simp only [cond_false] at h;have h':=G8 (id:=id) d2 h hp hq;rw [← e] at h';exact h'
theorem cD (hm:P.follows .mixedOrders=true):∀ (n:Nat) {sg:List Sg} {c:Code} {fs:List Fr} {s:AS} {ps:List Prop} {lf:El},path P n sg c fs s=some (ps,lf)→bt ps→HM P Q lf→dL P c (b5 P fs Q) s
 | 0,sg,c,fs,s,ps,lf,h,_,hl=>by simp only [path] at h;cases h;exact hl
 | n+1,sg,c,fs,s,ps,lf,h,hp,hl=>by
  unfold path at h;split at h
  ·rename_i e;cases e
  ·rename_i n' cs sg' c' fs' s' e;cases e;split at h
   ·rename_i s2 hc;exact (dw _ hc).tri (cD hm n h hp hl)
   ·cases h
  ·rename_i n' t v sg' c' fs' s' e;cases e;split at h
   ·rename_i ps1 lf1 hpath;cases h;obtain ⟨p1,p2⟩:=bt.cons.1 hp;have ht:=cD hm n hpath p2 hl;exact fun c a w β κ r=>ht c a w β κ (r.same (ik.symm' (Aw p1)))
   ·cases h
  ·rename_i n' sg' y fs' s' e;cases e;exact RT.loop (RT.succ (n:=63) (cD hm n h hp hl))
  ·rename_i n' e _ _;cases e;exact De (cD hm n h hp hl)
  ·rename_i n' e _ _;cases e;refine FK (vm (fun c fs' e => ?_) (fun fs' e => ?_))
   ·rw [e] at h;exact cD hm n h hp hl
   ·rw [e] at h;cases h;exact hl
  ·rename_i n' k d1 d2 sg' id ops dr fs0 s0 e;cases e;split at h
   ·rename_i ps1 s1 hr;split at h
    ·rename_i c1 fs1 e1;split at h
     ·rename_i qs lf1 hpath;cases h;obtain ⟨p1,p2⟩:=bt.append.1 hp;refine vY hm hr p1 (vm (fun c2 fs2 e2 => ?_) (fun fs2 e2 => ?_))
      ·rw [e1] at e2;cases e2;exact cD hm n hpath p2 hl
      ·rw [e1] at e2;cases e2
     ·cases h
    ·rename_i fs1 e1;cases h;refine vY hm hr hp (vm (fun c2 fs2 e2 => ?_) (fun fs2 e2 => ?_))
     ·rw [e1] at e2;cases e2
     ·rw [e1] at e2;cases e2;exact hl
   ·cases h
  ·rename_i n' x y z fs0 s0 e _ _;cases e;split at h
   ·rename_i hb;exact F3 hb (cD hm n h hp hl)
   ·rename_i hb;exact Ds hb (cD hm n h hp hl)
   ·cases h
  ·rename_i n' e _ _;cases e;exact Dy (cD hm n h hp hl)
  ·rename_i n' e _ _;cases e;split at h
   ·rename_i fs1 he;refine FC (wc he (vm (fun c fs' e => ?_) (fun fs' e => ?_)))
    ·rw [e] at h;exact cD hm n h hp hl
    ·rw [e] at h;cases h;exact hl
   ·cases h
  ·rename_i n' e _ _;cases e;cases h;exact G1 (vN hl)
  ·rename_i n' e _ _ _;cases e;cases h;exact hl
  ·cases h
end
def dead:AS:=⟨0,[(0,.dslice [[]])],[]⟩
theorem xQ {P:Program} {c:Cx P} {a:Act} {w:World} {β:Nat→Nat} {κ:Nat→Nat×Nat} (r:Rel c dead a w β κ):False:=by
 have h:=r.tm 0;simp only [dead,lk,Nat.beq_refl,cond_true] at h;generalize a.tmps.getD 0 undef=V at h;cases h with
 | d h =>
  cases h with
  | dslice _ b o cap sz cv h1 h2 h0 h3 h4 h5 h6 =>
   have:=h4 0 (by simp);simp at this;omega
section
variable {P:Program} {Q Q':Exit→AS→Prop} {c:Code} {fs:List Fr} {s:AS}
theorem dL.lift {cd:Code} (h:dL P cd Q s) (hq:∀ (c:Cx P) e a w,lift c Q e a w→lift c Q' e a w):dL P cd Q' s:=fun c a w β κ r=>wp_mono (h c a w β κ r) fun e a w q=>hq c e a w q
def IM (cs:List Cd):Option (List Prop×El)→Option (List Prop×AS×AS)
 | some (ps,.nrm (.bar S::_) s)=>match conv cs s with
  | some s'=>some (ps,s',S)
  | none=>none
 | _=>none
theorem qF (hm:P.follows .mixedOrders=true) (n:Nat) (sg:List Sg) (cs:List Cd) (S:AS) {ps:List Prop} (hp:bt ps) (h:IM cs (path P n sg c fs s)=some (ps,S,S)):dL P c (b5 P fs Q) s:=by
 unfold IM at h;split at h
 ·rename_i ps' S' fs' s' hpath;split at h
  ·rename_i s2 hc;simp only [JX,Prod.mk.injEq] at h;obtain ⟨rfl,rfl,rfl⟩:=h;exact cD hm n hpath hp (dw cs hc)
  ·cases h
 ·cases h
def GR (P:Program) (rs:List ResultVar) (v:AV) (h1:List (Nat×AO)):Exit→AS→Prop
 | .ret,s=>∃ s2 ks,Cv s s2∧wm P s2 rs=some v∧sel ks s2.h=h1
 | .normal,s=>∃ s2 ks,Cv s s2∧wm P s2 rs=some v∧sel ks s2.h=h1
 | _,_=>False
def Gx (P:Program) (rs:List ResultVar) (cs:List Cd) (ks:List Nat) (ps:List Prop) (s:AS):Option (List Prop×AV×List (Nat×AO)) :=
 match conv cs s with
 | some s2=>match wm P s2 rs with
  | some v=>some (ps,v,sel ks s2.h)
  | none=>none
 | none=>none
def II (P:Program) (rs:List ResultVar) (cs:List Cd) (ks:List Nat):Option (List Prop×El)→Option (List Prop×AV×List (Nat×AO))
 | some (ps,.nrm [] s)=>Gx P rs cs ks ps s
 | some (ps,.ret s)=>Gx P rs cs ks ps s
 | _=>none
theorem xe {rs:List ResultVar} {cs:List Cd} {ks:List Nat} {ps ps':List Prop} {v:AV} {h1:List (Nat×AO)} (h:Gx P rs cs ks ps s=some (ps',v,h1)):ps=ps'∧∃ s2 ks,Cv s s2∧wm P s2 rs=some v∧sel ks s2.h=h1:=by
 unfold Gx at h;split at h
 ·rename_i s2 hc;split at h
  ·rename_i v' hv;simp only [JX,Prod.mk.injEq] at h;obtain ⟨rfl,rfl,rfl⟩:=h;exact ⟨rfl,s2,ks,dw cs hc,hv,rfl⟩
  ·cases h
 ·cases h
theorem EU (hm:P.follows .mixedOrders=true) (n:Nat) (sg:List Sg) (cs:List Cd) (ks:List Nat) {rs:List ResultVar} {v:AV} {h1:List (Nat×AO)} {ps:List Prop} (hp:bt ps) (h:II P rs cs ks (path P n sg c fs s)=some (ps,v,h1)):dL P c (b5 P fs (GR P rs v h1)) s:=by
 unfold II at h;split at h
 ·rename_i ps' s' hpath;obtain ⟨rfl,h2⟩:=xe h;exact cD hm n hpath hp h2
 ·rename_i ps' s' hpath;obtain ⟨rfl,h2⟩:=xe h;exact cD hm n hpath hp h2
 ·cases h
def p8:Nat→List Bool→Code→List Fr→Code×List Fr
 | 0,_,c,fs=>(c,fs)
 | n+1,bs,.seq x y,fs=>p8 n bs x (.seq y::fs)
 | n+1,bs,.skip,fs=>match yH fs with
  | (some c,fs')=>p8 n bs c fs'
  | (none,fs')=>(.skip,fs')
 | n+1,bs,.region _ _ _,fs=>match yH fs with
  | (some c,fs')=>p8 n bs c fs'
  | (none,fs')=>(.skip,fs')
 | n+1,b::bs,.cond _ y z,fs=>p8 n bs (bif b then y else z) fs
 | n+1,bs,.block id y,fs=>p8 n bs y (.blk id::fs)
 | n+1,bs,.loop y,fs=>p8 n bs y (.rnd 63 y::fs)
 | n+1,bs,.exit id,fs=>match zy id fs with
  | some fs1=>match yH fs1 with
   | (some c,fs')=>p8 n bs c fs'
   | (none,fs')=>(.skip,fs')
  | none=>(.skip,fs)
 | _+1,_,c,fs=>(c,fs)
def Jw (cs:List Cd):Option (List Prop×El)→Option (List Prop×Code×List Fr×AS)
 | some (ps,.at c fs s)=>match conv cs s with
  | some s'=>some (ps,c,fs,s')
  | none=>none
 | _=>none
theorem Hi (hm:P.follows .mixedOrders=true) (n:Nat) (sg:List Sg) (cs:List Cd) (m:Nat) (bs:List Bool) (S:AS) {ps:List Prop} (hp:bt ps) (h:Jw cs (path P n sg c fs s)=some (ps,(p8 m bs c fs).1,(p8 m bs c fs).2,S))
 (ht:dL P (p8 m bs c fs).1 (b5 P (p8 m bs c fs).2 Q) S):dL P c (b5 P fs Q) s:=by
 unfold Jw at h;split at h
 ·rename_i ps' c' fs' s' hpath;split at h
  ·rename_i s2 hc;simp only [JX,Prod.mk.injEq] at h;obtain ⟨rfl,h1,h2,rfl⟩:=h;refine cD hm n hpath hp ?_;rw [← h1,← h2] at ht;exact (dw cs hc).tri ht
  ·cases h
 ·cases h
def zG:Nat→AS→List Fr→List Fr
 | _,_,[]=>[]
 | 0,S,_::fs=>.bar S::fs
 | k+1,S,f::fs=>f::zG k S fs
def um:Nat→List Fr→Code
 | 0,.seq y::_=>y
 | k+1,_::fs=>um k fs
 | _,_=>.skip
def qw:Nat→List Fr→Bool
 | 0,.seq _::_=>true
 | k+1,_::fs=>qw k fs
 | _,_=>false
theorem Dx:∀ (f:Fr) {Q Q':Exit→AS→Prop} {fs fs':List Fr},(∀ (c:Cx P) e a w,lift c (b5 P fs Q) e a w→lift c (b5 P fs' Q') e a w)→∀ (c:Cx P) e a w,lift c (b5 P (f::fs) Q) e a w→lift c (b5 P (f::fs') Q') e a w:=by
 intro f Q Q' fs fs' h c e a w ⟨s,β,κ,hs,r⟩;cases f with
 | seq y =>
  cases e with
  | normal=>exact ⟨s,β,κ,dL.lift (hs:dL P y (b5 P fs Q) s) h,r⟩
  | _ =>
   obtain ⟨s',β',κ',hs',r'⟩:=h c _ a w ⟨s,β,κ,hs,r⟩;exact ⟨s',β',κ',hs',r'⟩
 | rnd n y =>
  cases e with
  | normal=>exact ⟨s,β,κ,RT.lift (hs:RT P n y (b5 P fs Q) s) h,r⟩
  | _ =>
   obtain ⟨s',β',κ',hs',r'⟩:=h c _ a w ⟨s,β,κ,hs,r⟩;exact ⟨s',β',κ',hs',r'⟩
 | bar S =>
  cases e with
  | normal=>exact ⟨s,β,κ,hs,r⟩
  | _ =>
   obtain ⟨s',β',κ',hs',r'⟩:=h c _ a w ⟨s,β,κ,hs,r⟩;exact ⟨s',β',κ',hs',r'⟩
 | blk id =>
  cases e with
  | exit j =>
   simp only [b5,blk] at hs;cases hb:Nat.beq j id with
   | true =>
    rw [hb] at hs;obtain ⟨s',β',κ',hs',r'⟩:=h c _ a w ⟨s,β,κ,hs,r⟩;refine ⟨s',β',κ',?_,r'⟩;simp only [b5,blk,hb];exact hs'
   | false =>
    rw [hb] at hs;obtain ⟨s',β',κ',hs',r'⟩:=h c _ a w ⟨s,β,κ,hs,r⟩;refine ⟨s',β',κ',?_,r'⟩;simp only [b5,blk,hb];exact hs'
  | _ =>
   obtain ⟨s',β',κ',hs',r'⟩:=h c _ a w ⟨s,β,κ,hs,r⟩;exact ⟨s',β',κ',hs',r'⟩
theorem rV:∀ (k:Nat) {fs:List Fr} {S:AS},qw k fs=true→(S=dead∨dL P (um k fs) (b5 P (fs.drop (k+1)) Q) S)→∀ (c:Cx P) e a w,lift c (b5 P (zG k S fs) Q) e a w→lift c (b5 P fs Q) e a w
 | 0,[],S,h,_=>by cases h
 | _+1,[],S,h,_=>by cases h
 | 0,f::fs,S,h,h2=>by
  intro c e a w ⟨s,β,κ,hs,r⟩;cases f with
  | seq y =>
   cases e with
   | normal =>
    obtain ⟨β',κ',r'⟩:=(hs:Cv s S) _ c a w β κ r;rcases h2 with h2 | h2
    ·subst h2;exact (xQ r').elim
    ·exact ⟨S,β',κ',h2,r'⟩
   | _=>exact ⟨s,β,κ,hs,r⟩
  | blk id=>cases h
  | bar S=>cases h
  | rnd n y=>cases h
 | k+1,f::fs,S,h,h2=>Dx f (rV k (fs:=fs) h h2)
theorem dd (k:Nat) (S:AS) (hk:qw k fs=true) (h1:dL P c (b5 P (zG k S fs) Q) s) (h2:dL P (um k fs) (b5 P (fs.drop (k+1)) Q) S):dL P c (b5 P fs Q) s :=
 h1.lift (rV k hk (.inr h2))
def I6 {ε ρ:Type} (S:ε→AS):Out ε ρ→AS
 | .brk e=>S e
 | .ret _=>dead
theorem GY {ε ρ:Type} (k:Nat) (S:ε→AS) (R:Out ε ρ) (hk:qw k fs=true) (h1:dL P c (b5 P (zG k (I6 S R) fs) Q) s) (h2:∀ e,R = .brk e→dL P (um k fs) (b5 P (fs.drop (k+1)) Q) (S e)):dL P c (b5 P fs Q) s :=
 h1.lift (rV k hk (by cases R with | brk e=>exact .inr (h2 e rfl) | ret x=>exact .inl rfl))
def kr:Code→Code
 | .loop y=>y
 | _=>.skip
def wj:Code→Bool
 | .loop _=>true
 | _=>false
theorem nT (h:wj c=true):c = .loop (kr c):=by cases c<;>first | rfl | (cases h;done)
def Jx {σ ε ρ:Type} (S:σ→AS):ff σ ε ρ→AS
 | .go x=>S x
 | _=>dead
theorem sf {ι:Type} {y:Code} (S:ι→AS) (φ:ι→Prop) (μ:ι→Nat) (i₀:ι) (h₀:φ i₀)
 (round:∀ i,φ i→∃ T,(T=dead∨∃ j,φ j∧μ j<μ i∧T=S j)∧dL P y (b5 P (.bar T::fs) Q) (S i)):dL P (.loop y) (b5 P fs Q) (S i₀):=fun c a w β κ r=>by
 refine wp_loop_ghost (fun n a w=>∃ i β κ,φ i∧μ i=n∧Rel c (S i) a w β κ) (μ i₀) ⟨i₀,β,κ,h₀,rfl,r⟩ ?_;rintro n a w ⟨i,β,κ,hi,rfl,r⟩;obtain ⟨T,hT,ht⟩:=round i hi;refine wp_mono (ht c a w β κ r) fun e a' w' ⟨s',β',κ',q,r'⟩ => ?_;cases e with
 | normal =>
  obtain ⟨β2,κ2,r2⟩:=(q:Cv s' T) _ c a' w' β' κ' r';rcases hT with rfl | ⟨j,hj,hlt,rfl⟩
  ·exact (xQ r2).elim
  ·exact ⟨μ j,hlt,j,β2,κ2,hj,rfl,r2⟩
 | exit id=>exact ⟨s',β',κ',q,r'⟩
 | goto l=>exact ⟨s',β',κ',q,r'⟩
 | ret=>exact ⟨s',β',κ',q,r'⟩
 | panic ch=>exact ⟨s',β',κ',q,r'⟩
 | outgrown=>exact ⟨s',β',κ',q,r'⟩
theorem Jj {σ ε ρ:Type} {body:Nat→σ→Option (ff σ ε ρ)} {fin:Nat→σ→ε} {N i0:Nat} {st0:σ} {R:Out ε ρ} (S:Nat→σ→AS) (hc:wj c=true) (H:cL body fin (N-i0) i0 st0=some R)
 (zero:∀ i st,N≤i→R = .brk (fin i st)→dL P (kr c) (b5 P (.bar dead::fs) Q) (S i st))
 (succ:∀ i st,i<N→∀ q,body i st=some q→qq q R→dL P (kr c) (b5 P (.bar (Jx (S (i+1)) q)::fs) Q) (S i st)):dL P c (b5 P fs Q) (S i0 st0):=by
 rw [nT hc];refine sf (ι:=Nat×σ) (fun x=>S x.1 x.2) (fun x=>cL body fin (N-x.1) x.1 x.2=some R) (fun x=>N-x.1) (i0,st0) H ?_;rintro ⟨i,st⟩ hi;by_cases hN:N≤i
 ·rw [show N-i=0 by omega] at hi;simp only [cL,JX] at hi;exact ⟨dead,.inl rfl,zero i st hN hi.symm⟩
 ·have e:N-i=(N-(i+1))+1:=by omega
  have hi:cL body fin (N-i) i st=some R:=hi;rw [e] at hi;simp only [cL] at hi;refine aU hi fun q hq hK => ?_;cases q with
  | go st'=>exact ⟨S (i+1) st',.inr ⟨(i+1,st'),hK,by show N-(i+1)<N-i;omega,rfl⟩,succ i st (by omega) _ hq trivial⟩
  | brk e=>exact ⟨dead,.inl rfl,succ i st (by omega) _ hq (JZ hK).symm⟩
  | ret e=>exact ⟨dead,.inl rfl,succ i st (by omega) _ hq (JZ hK).symm⟩
theorem pr {σ ε ρ:Type} {body:σ→Option (ff σ ε ρ)} {n:Nat} {st0:σ} {R:Out ε ρ} (S:σ→AS) (hc:wj c=true) (H:mC body n st0=some R)
 (succ:∀ st,∀ q,body st=some q→qq q R→dL P (kr c) (b5 P (.bar (Jx S q)::fs) Q) (S st)):dL P c (b5 P fs Q) (S st0):=by
 rw [nT hc];refine sf (ι:=Nat×σ) (fun x=>S x.2) (fun x=>mC body x.1 x.2=some R) (fun x=>x.1) (n,st0) H ?_;rintro ⟨k,st⟩ hi;cases k with
 | zero=>cases hi
 | succ k =>
  have hi:(body st).bind (nD (mC body k))=some R:=hi;refine aU hi fun q hq hK => ?_;cases q with
  | go st'=>exact ⟨S st',.inr ⟨(k,st'),hK,Nat.lt_succ_self k,rfl⟩,succ st _ hq trivial⟩
  | brk e=>exact ⟨dead,.inl rfl,succ st _ hq (JZ hK).symm⟩
  | ret e=>exact ⟨dead,.inl rfl,succ st _ hq (JZ hK).symm⟩
theorem FM {f:FuncId} {fn:Func} {args:List AV} {h h1:List (Nat×AO)} {v:AV} (hf:P.funcs[f]? = some fn) (n:Nat) (rs:List ResultVar) (hok:(rh fn&&Nat.beq fn.ntmps n&&Nat.ble args.length n)=true) (hrs:fn.results.toList=rs)
 (ht:dL P (uf fn) (b5 P [] (GR P rs v h1)) ⟨n,kR args 0,h⟩):bG P f args h (fun r h'=>r=v∧h'=h1):=by
 refine I5 hf n rs hok hrs (ht.lift fun c e a w ⟨s,β,κ,q,r⟩ => ?_);have key:(∃ s2 ks,Cv s s2∧wm P s2 rs=some v∧sel ks s2.h=h1)→∃ s β κ,(∃ v' ks,wm P s rs=some v'∧v'=v∧sel ks s.h=h1)∧Rel c s a w β κ:=by rintro ⟨s2,ks,hcv,h2,h3⟩;obtain ⟨β',κ',r'⟩:=hcv _ c a w β κ r;exact ⟨s2,β',κ',⟨v,ks,h2,rfl,h3⟩,r'⟩
 cases e with
 | normal=>exact key q
 | ret=>exact key q
 | exit id=>exact q.elim
 | goto l=>exact q.elim
 | panic ch=>exact q.elim
 | outgrown=>exact q.elim
end
end Go.Ab
namespace Go.Sh
abbrev ah:=List UInt8
def aftE {ε β:Type} (f:ε→Option β):Out ε Empty→Option β
 | .brk e=>f e
theorem aW {ε β:Type} {f:ε→Option β} {e:ε} {v:β} (h:aft f (.brk e)=some v):f e=some v:=h
theorem ao {ε β:Type} {f:ε→Option β} {x v:β} (h:aft f (.ret x)=some v):some x=some v:=h
theorem bT {ε β:Type} {f:ε→Option β} {e:ε} {v:β} (h:aftE f (.brk e)=some v):f e=some v:=h
theorem eL {σ ε ρ:Type} {e:ε} {R:Out ε ρ} (h:qq (.brk e:ff σ ε ρ) R):R = .brk e:=h
theorem aA {σ ε ρ:Type} {x:ρ} {R:Out ε ρ} (h:qq (.ret x:ff σ ε ρ) R):R = .ret x:=h
def dx {V:Type} (d:V) (x:ah):List (ah×V)→V
 | []=>d
 | (k,n)::m=>if k=x then n else dx d x m
def di {V:Type} (x:ah) (n:V):List (ah×V)→List (ah×V)
 | []=>[(x,n)]
 | (k,u)::m=>if k=x then (x,n)::m else (k,u)::di x n m
end Go.Sh
namespace Go.Ab
open Go.RowKit Go.Sh
theorem tL (l:List UInt8) (a:Nat):AV.str ((l.drop a).take (l.length-a)) = .str (l.drop a):=by congr 1;exact List.take_of_length_le (by simp)
theorem yg (l:List UInt8) (b:Nat):AV.str ((l.drop 0).take (b-0)) = .str (l.take b):=by simp
theorem Ep {α:Type} (c:α→List AV) (l:List α) (a:Nat):AV.dslice (((l.map c).drop a).take ((l.map c).length-a)) = .dslice ((l.drop a).map c):=by congr 1;rw [List.take_of_length_le (by simp),List.map_drop]
theorem Es {α:Type} (c:α→List AV) (l:List α) (b:Nat):AV.dslice (((l.map c).drop 0).take (b-0)) = .dslice ((l.take b).map c):=by simp [List.map_take]
theorem G4 {α:Type} (c:α→List AV) (l:List α) (a b:Nat):AV.dslice (((l.map c).drop a).take (b-a)) = .dslice (((l.drop a).take (b-a)).map c):=by simp [List.map_take,List.map_drop]
theorem HG {α:Type} {c:α→List AV} {sz:Nat} (h:∀ x,(c x).length=sz∧(c x).all (fun v=>v.one&&v.fl)=true) (l:List α):EL sz (l.map c):=by intro y hy;obtain ⟨x,_,rfl⟩:=List.mem_map.1 hy;refine ⟨(h x).1,fun v hv => ?_⟩;have:=J0.1 (h x).2 v hv;simpa [JO] using this
theorem wB {α:Type} {c:α→List AV} {sz:Nat} (h:∀ x,(c x).length=sz∧(c x).all (fun v=>v.one&&v.fl)=true) (xs ys:List α) (by_:Nat) (hb:0<by_) (hc:(xs.length+ys.length)*by_≤140737488355328) :
 bt [EL sz (ys.map c),((xs.map c).length+(ys.map c).length)*by_≤140737488355328,(xs.map c).length+(ys.map c).length≤9223372036854775807]:=by
 refine ⟨HG h ys,by simpa using hc,?_⟩;have:xs.length+ys.length≤(xs.length+ys.length)*by_:=Nat.le_mul_of_pos_right _ hb;show (xs.map c).length+(ys.map c).length≤_;simp only [JV];omega
theorem ya {α:Type} (e sz:Nat) (c:α→List AV) (xs ys:List α):AO.row e sz (xs.map c++ys.map c) = .row e sz ((xs++ys).map c):=by rw [List.map_append]
theorem Je {α:Type} (e sz:Nat) (c:α→List AV) (ys:List α):AO.row e sz (([]:List α).map c++ys.map c) = .row e sz (ys.map c):=rfl
theorem JG {α:Type} {c:α→List AV} {sz:Nat} (h:∀ x,(c x).length=sz∧(c x).all (fun v=>v.one&&v.fl)=true) (ys:List α) (by_:Nat) (hb:0<by_) (hc:ys.length*by_≤140737488355328) :
 bt [EL sz (ys.map c),(ys.map c).length*by_≤140737488355328,(ys.map c).length≤9223372036854775807]:=by
 refine ⟨HG h ys,by simpa using hc,?_⟩;have:ys.length≤ys.length*by_:=Nat.le_mul_of_pos_right _ hb;show (ys.map c).length≤_;simp only [JV];omega
def kX (t:TypeId) (ok:Bool):AV:=bif ok then .nilI else .iface t .any
def Gv:List AV→AV
 | v::_=>v
 | []=>.any
def bC {V:Type} (c:V→List AV) (p:ah×V):List UInt8×AV:=(p.1,Gv (c p.2))
theorem oW {V:Type} {c:V→List AV} (x:List UInt8) (d:V):∀ (m:List (ah×V)),wP x (Gv (c d)) (m.map (bC c))=Gv (c (dx d x m))
 | []=>rfl
 | (k,n)::m=>by
  simp only [List.map_cons,bC,wP,dx];split
  ·rfl
  ·exact oW x d m
theorem rG {V:Type} {c:V→List AV} (x:List UInt8) (n:V):∀ (m:List (ah×V)),vR x (Gv (c n)) (m.map (bC c))=(di x n m).map (bC c)
 | []=>rfl
 | (k,u)::m=>by
  simp only [List.map_cons,bC,vR,di];split
  ·rfl
  ·rw [List.map_cons];exact congrArg _ (rG x n m)
section
variable {P:Program} {Q:Exit→AS→Prop} {s:AS}
def HF (s:AS) (k i:Nat):List Prop:=match lk .gone s.h k with
 | .cells _ cs=>bif Nat.blt i cs.length then zI (cs.getD i .any) else []
 | _=>[]
theorem qj {cd:Code} (k i:Nat) {ps:List Prop} (h:HF s k i=ps) (ht:bt ps→dL P cd Q s):dL P cd Q s:=fun c a w β κ r=>by
 refine ht ?_ c a w β κ r;subst h;unfold HF;split
 ·rename_i e cs he;cases hb:Nat.blt i cs.length with
  | false=>trivial
  | true =>
   have:=r.hp.ob k;rw [he] at this;obtain ⟨cur,_,_,h3⟩:=this;exact rH (h3 i (by simpa [Nat.blt_eq] using hb))
 ·trivial
def Fk (s:AS) (k:Nat):Option Nat:=match lk .gone s.h k with
 | .row _ _ xs=>some xs.length
 | _=>none
theorem qN {cd:Code} (k:Nat) {n:Nat} (h:Fk s k=some n) (ht:n≤9223372036854775807→dL P cd Q s):dL P cd Q s:=fun c a w β κ r=>by
 refine ht ?_ c a w β κ r;unfold Fk at h;split at h
 ·rename_i e sz xs he;cases h;have:=r.hp.ob k;rw [he] at this;by_cases hx:xs=[]
  ·subst hx;simp
  ·obtain ⟨cur,_,_,h3,h4,_⟩:=this.2 hx;exact Nat.le_trans h3 h4
 ·cases h
end
theorem HW {α:Type} {f:α→List AV} {l:List α} {n:Nat} (sz j m:Nat) (hn:n<l.length) (hj:j+m≤sz):n*sz+j=n*sz+j∧n<(l.map f).length∧j+m≤sz:=⟨rfl,by simpa using hn,hj⟩
theorem cF {α:Type} {f:α→List AV} {l:List α} {n:Nat} (d:α) (h:n<l.length):(l.map f).getD n []=f (l.getD n d):=by simp [JM,JN h]
theorem IK {α:Type} {f:α→List AV} {l:List α} {n:Nat} (d:α) (j:Nat) (h:n<l.length):((l.map f).getD n []).getD j .any=(f (l.getD n d)).getD j .any:=by rw [cF d h]
theorem DH {α:Type} {c:α→List AV} {sz:Nat} (h:∀ x,(c x).length=sz∧(c x).all (fun v=>v.one&&v.fl)=true) (xs ys:List α) (by_:Nat) (hb:0<by_) (hc:(xs.length+ys.length)*by_≤140737488355328) {zs:List (List AV)} (hz:xs.map c++ys.map c=zs) :
 bt [EL sz (ys.map c),((xs.map c).length+(ys.map c).length)*by_≤140737488355328,(xs.map c).length+(ys.map c).length≤9223372036854775807,xs.map c++ys.map c=zs]:=by
 obtain ⟨h1,h2,h3⟩:=wB h xs ys by_ hb hc;exact ⟨h1,h2,h3,hz⟩
open Go.Proofs
theorem nf {P:Program} {f:FuncId} {args:List AV} {v:AV} (hfl:AV.flL args=true)
 (h:∀ (w:World) (X:Nat→Prop) (vs:List Value),vs.length=args.length→(∀ b,X b→b<w.heap.size)→(∀ i,i<args.length→D w X (args.getD i .any) (vs.getD i undef))→GP P w→Calls P f vs.toArray w fun e w'=>∃ V,e = .returned V∧Below w.heap.size w w'∧D w' X v V):bI P f args v:=by
 intro c vs hl hr hg;have hX:∀ b,c.XX [] c.β b→c.X b:=fun b hb=>hb.resolve_right fun ⟨k,hk,_⟩=>lp hk;refine (h c.W c.X vs hl c.hX (fun i hi=>((hg i hi).toD (gS hi hfl)).mono (fun _ _ _=>rfl) (fun b hb _ hb'=>hb (.inl hb'))) (c.gp _ (cr.refl _ _))).mono fun e w' ⟨V,e1,hb,hd⟩ => ?_;have hk:cr c.K c.W w':=⟨hb.os,hb.tape,hb.output,hb.size,fun b hb2=>hb.block b (c.hK b hb2)⟩;exact ⟨V,v,[],c.β,c.κ,e1,⟨rfl,rfl⟩,(ep.nil (hk)),.d (hd.mono (fun _ _ _=>rfl) (fun b hb2 _ hb3=>hb2 (hX b hb3)))⟩
section
variable {P:Program} {ρ:Go.Shelf.Ren}
theorem D.str_inv {w:World} {X:Nat→Prop} {s:List UInt8} {V:Value} (h:D w X (.str s) V):V = .string ⟨s.toArray⟩∧s.length≤maxLen:=by cases h;exact ⟨rfl,by assumption⟩
theorem D.int_inv {w:World} {X:Nat→Prop} {k:IntKind} {n:Int} {V:Value} (h:D w X (.int k n) V):V = .int k n:=by cases h;rfl
theorem Iq {vs:List Value} (h:vs.length=1):vs=[vs.getD 0 undef]:=by
 match vs,h with
 | [v],_=>rfl
theorem GF {vs:List Value} (h:vs.length=2):vs=[vs.getD 0 undef,vs.getD 1 undef]:=by
 match vs,h with
 | [v,u],_=>rfl
theorem BP (w:World) (k:Nat) (os:Array Obj):Below w.heap.size w (Go.Sort.grow (w.drewN k) os):=by refine ⟨rfl,rfl,rfl,by simp [Go.Sort.grow,World.drewN],fun b hb => ?_⟩;simp [Go.Sort.grow,World.drewN,Array.getElem?_append,hb]
def fY (n:Int):Option ah:=bZ (-9223372036854775808≤n∧n≤9223372036854775807∧(Lib.itoa n).length≤9223372036854775807) <| some (Lib.itoa n)
theorem EA (L:LaysM.n171 P ρ) (hg:P.globalNamed "internal/strconv.uint64pow10" ≠ none) (n:Int) (r:ah) (H:fY n=some r):bI P (ρ.f 171) [.int .i64 n] (.str r):=by unfold fY at H;refine aY H fun hn H => ?_;refine cK H fun e => ?_;subst e;refine nf rfl fun w X vs hl _ hd gp => ?_;have h0:=(hd 0 (by simp)).int_inv;rw [Iq (vs:=vs) (by simpa using hl),h0];refine (Any.strconv_Itoa L n hn.1 hn.2.1 w (gp.pow10 hg)).mono fun e w' ⟨e1,k,os,e2⟩ => ?_;exact ⟨_,e1,by rw [e2];exact BP w k os,.str _ hn.2.2⟩
def tj (s:ah):Int×Bool:=match Lib.atoiAll s with | .ok v=>(v,true) | .range=>(Lib.atoiSat s,false) | _=>(0,false)
def ky (s:ah):Option (Int×Bool):=bZ (s.length≤281474976710656) <| some (tj s)
theorem Al (w:World) (a:Addr) (n b:Nat) (h:b≠a.block):(w.freeze a n).heap[b]? = w.heap[b]? := by
 unfold World.freeze;split
 ·rfl
 ·simp [Array.getElem?_modify,Ne.symm h]
theorem zS (w:World) (e:TypeId) (s:ByteArray):Below w.heap.size w (Lib.bytesWorld w e s):=by
 unfold Lib.bytesWorld;have h1:Below w.heap.size w (w.drew.alloc (.cells (Lib.bytesCells w e s) e)):=(Below.refl _ w).drew.alloc (Nat.le_refl _) _;have hsz:((w.drew.alloc (.cells (Lib.bytesCells w e s) e)).freeze ⟨w.heap.size,(Lib.bytesCells w e s).size,none⟩ 1).heap.size=(w.drew.alloc (.cells (Lib.bytesCells w e s) e)).heap.size:=by
  unfold World.freeze;split
  ·rfl
  ·simp
 have hf:∀ (w:World) (a:Addr) (n:Nat),(w.freeze a n).os=w.os∧(w.freeze a n).tape=w.tape∧(w.freeze a n).output=w.output:=by intro w a n;unfold World.freeze;split<;>exact ⟨rfl,rfl,rfl⟩
 obtain ⟨f1,f2,f3⟩:=hf (w.drew.alloc (.cells (Lib.bytesCells w e s) e)) ⟨w.heap.size,(Lib.bytesCells w e s).size,none⟩ 1;exact ⟨f1.trans h1.os,f2.trans h1.tape,f3.trans h1.output,by rw [hsz];exact h1.size,fun b hb=>(Al _ _ _ _ (by show b≠w.heap.size;omega)).trans (h1.block b hb)⟩
theorem D.pair {w:World} {X:Nat→Prop} {a b:AV} {A B:Value} (ha:D w X a A) (hb:D w X b B):D w X (.tup [a,b]) (.tuple #[A,B]) :=
 .tup _ _ rfl fun i hi=>by
  match i,hi with
  | 0,_=>exact ha
  | 1,_=>exact hb
theorem EH (L:LaysC.n172 P ρ) (hg1:P.globalNamed "strconv.ErrSyntax" ≠ none) (hg2:P.globalNamed "strconv.ErrRange" ≠ none) (s:ah) (r:Int×Bool) (H:ky s=some r):bI P (ρ.f 172) [.str s] (.tup [.int .i64 r.1,kX (ρ.t 168) r.2]):=by
 unfold ky at H;refine aY H fun hn H => ?_;refine cK H fun e => ?_;subst e;refine nf rfl fun w X vs hl _ hd gp => ?_;have h0:=(hd 0 (by simp)).str_inv.1;rw [Iq (vs:=vs) (by simpa using hl),h0];have hsz:ByteArray.size ⟨s.toArray⟩=s.length:=by simp [ByteArray.size]
 unfold tj;cases hr:Lib.atoiAll s with
 | ok v =>
  refine (Any.strconv_Atoi_ok L ⟨s.toArray⟩ (by rw [hsz];omega) v (by simpa using hr) w).mono fun e w' ⟨e1,e2⟩ => ?_;refine ⟨_,e1,?_,.pair (.int _ _) .nilI⟩;rcases e2 with rfl | ⟨t,rfl⟩
  ·exact .refl _ _
  ·exact zS _ _ _
 | range =>
  obtain ⟨tp,p,hv⟩:=gp.rng hg2;refine (Any.strconv_Atoi_range_var L ⟨s.toArray⟩ (by rw [hsz];exact hn) (by simpa using hr) tp p w hv).mono fun e w' ⟨N,e1,_,_,e2⟩ => ?_;refine ⟨_,e1,e2,.pair ?_ (.iface _ _ _ (.any _))⟩;simp only [List.toList_toArray];exact .int _ _
 | _ =>
  obtain ⟨tp,p,hv⟩:=gp.syn hg1;refine (Any.strconv_Atoi_syntax_var L ⟨s.toArray⟩ (by rw [hsz];exact hn) (by simpa using hr) tp p w hv).mono fun e w' ⟨N,e1,_,_,e2⟩ => ?_;exact ⟨_,e1,e2,.pair (.int _ _) (.iface _ _ _ (.any _))⟩
def iU (xs:List ah) (sep:ah):Option ah:=bZ ((Lib.join xs sep).length≤140737488355328∧xs.length≤140737488355328) <| some (Lib.join xs sep)
def cp (x:ah):List AV:=[.str x]
theorem FX (L:Lays.n156 P ρ) (E:Builder.Extra P ρ) (xs:List ah) (sep:ah) (r:ah) (H:iU xs sep=some r):bI P (ρ.f 156) [.dslice (xs.map cp),.str sep] (.str r):=by
 unfold iU at H;refine aY H fun hn H => ?_;refine cK H fun e => ?_;subst e;refine nf rfl fun w X vs hl hX hd gp => ?_;have h0:=hd 0 (by simp);have h1:=(hd 1 (by simp)).str_inv.1;rw [GF (vs:=vs) (by simpa using hl),h1];simp only [List.getD_cons_zero] at h0;generalize vs.getD 0 undef=V at h0;have hmap:∀ ys:List ah,(ys.map fun y=>(⟨y.toArray⟩:ByteArray)).map (·.data.toList)=ys:=fun ys=>by simp [List.map_map,Function.comp_def]
 by_cases hx:xs=[]
 ·subst hx;have:∃ a c,V = .slice a 0 c:=by
   have h0:D w X (.dslice []) V:=h0;generalize hL:([]:List (List AV))=L at h0;cases h0 with
   | dnil a c _=>exact ⟨a,c,rfl⟩
   | dslice _ b o c sz cv h1 h2 h3=>subst hL;exact ⟨_,_,rfl⟩
  obtain ⟨a,c,rfl⟩:=this;refine (Any.strings_Join_none L E a c ⟨sep.toArray⟩ w).mono fun e w' ⟨e1,e2⟩ => ?_;exact ⟨_,e1,by rw [e2];exact .refl _ _,.str [] (Nat.zero_le _)⟩
 ·have hne:0<xs.length:=List.length_pos_iff.2 hx;generalize hL:xs.map cp=L at h0;cases h0 with
  | dnil a c hc=>simp at hL;exact absurd hL hx
  | dslice _ b o c sz cv q1 q2 q0 q3 q4 q5 q6 =>
   subst hL;have hsz1:sz=1:=by
    have:=q4 0 (by simpa using hne);rw [← this];obtain ⟨x,ys,rfl⟩:∃ x ys,xs=x::ys:=by
     cases xs with
     | nil=>simp at hne
     | cons x ys=>exact ⟨x,ys,rfl⟩
    rfl
   subst hsz1;have hcell:∀ j,j<xs.length→w.cell? ⟨b,o+j,none⟩=some (.string ⟨(xs.getD j []).toArray⟩)∧(xs.getD j []).length≤maxLen:=by
    intro j hj;have a1:=q5 j 0 (by simpa using hj) (by omega);have a2:=q6 j 0 (by simpa using hj) (by omega);have e1:(xs.map cp).getD j []=cp (xs.getD j []):=by simp [JM,JN hj]
    rw [e1] at a2;have a3:=(show D w X (.str (xs.getD j [])) (cv j 0) from a2).str_inv;rw [show o+(j*1+0)=o+j by omega,a3.1] at a1;exact ⟨a1,a3.2⟩
   have hb:b<w.heap.size:=World.block_lt_of_cell? w _ (hcell 0 hne).1;have:=Any.strings_Join L E b o c (xs.map fun y=>(⟨y.toArray⟩:ByteArray)) ⟨sep.toArray⟩ w (fun j x hj=>by simp only [List.getElem?_map,Option.map_eq_some_iff] at hj;obtain ⟨y,hy,rfl⟩:=hj;have hlt:j<xs.length:=(JW.1 hy).1;have:=(hcell j hlt).1;rw [JM,hy] at this;exact this) hb (by simpa using hn.2) (by simpa using q1) (by rw [hmap];exact hn.1)
   rw [hmap] at this;simp only [JV] at this ⊢;refine this.mono fun e w' ⟨e1,e2⟩ => ?_;exact ⟨_,e1,e2,.str _ (Nat.le_trans hn.1 (by decide))⟩
theorem xo (sep:List UInt8) (save:Nat):∀ (k:Nat) (s x:List UInt8),x∈Lib.splitK sep save k s→x.length≤s.length
 | 0,s,x,h=>by simp only [Lib.splitK,List.mem_singleton] at h;rw [h];exact Nat.le_refl _
 | k+1,s,x,h=>by
  simp only [Lib.splitK] at h;split at h
  ·simp only [List.mem_singleton] at h;rw [h];exact Nat.le_refl _
  ·rcases List.mem_cons.1 h with h | h
   ·rw [h];simp only [List.length_take];omega
   ·have:=xo sep save k _ x h;simp only [List.length_drop] at this;omega
def oY (s sep:ah):Option (List ah):=bZ (s.length<4294967281∧1≤sep.length) <| some (Lib.splitK sep 0 (Lib.countB ⟨s.toArray⟩ ⟨sep.toArray⟩) s)
theorem DU (L:Lays.n146 P ρ) (hi9:(P.info? (ρ.t 9)).map (fun i=>(i.zero,i.size,i.bytes))=some (some (.string ByteArray.empty),1,16)) (hg:P.globalNamed "internal/bytealg.MaxLen" = some (ρ.g 1)) (s sep:ah) (r:List ah) (H:oY s sep=some r):bI P (ρ.f 146) [.str s,.str sep] (.dslice (r.map cp)):=by
 unfold oY at H;refine aY H fun hn H => ?_;refine cK H fun e => ?_;subst e;refine nf rfl fun w X vs hl hX hd gp => ?_;have h0:=(hd 0 (by simp)).str_inv;have h1:=(hd 1 (by simp)).str_inv;rw [GF (vs:=vs) (by simpa using hl),h0.1,h1.1];obtain ⟨m,hm⟩:=gp.len _ hg;have sz:∀ l:List UInt8,ByteArray.size ⟨l.toArray⟩=l.length:=fun l=>by simp [ByteArray.size]
 refine (Any.strings_Split L hi9 ⟨s.toArray⟩ ⟨sep.toArray⟩ m w (by rw [sz];exact hn.1) hm (by rw [sz];exact hn.2)).mono fun e w' ⟨e1,e2⟩ => ?_;refine ⟨_,e1,by rw [e2];exact (Below.refl _ w).alloc (Nat.le_refl _) _,?_⟩;have hBl:((Lib.splitB ⟨sep.toArray⟩ 0 (Lib.countB ⟨s.toArray⟩ ⟨sep.toArray⟩) ⟨s.toArray⟩).map (·.data.toList))=Lib.splitK sep 0 (Lib.countB ⟨s.toArray⟩ ⟨sep.toArray⟩) s:=by rw [Lib.splitB_data]
 have hlen:(Lib.splitB ⟨sep.toArray⟩ 0 (Lib.countB ⟨s.toArray⟩ ⟨sep.toArray⟩) ⟨s.toArray⟩).length=Lib.countB ⟨s.toArray⟩ ⟨sep.toArray⟩+1:=Lib.splitB_all _ (by rw [sz];exact hn.2) 0 _ _ rfl;generalize Lib.splitB ⟨sep.toArray⟩ 0 (Lib.countB ⟨s.toArray⟩ ⟨sep.toArray⟩) ⟨s.toArray⟩=B at hBl hlen e2;generalize hr:Lib.splitK sep 0 (Lib.countB ⟨s.toArray⟩ ⟨sep.toArray⟩) s=r at hBl;have hle:∀ x∈r,x.length≤maxLen:=fun x hx=>Nat.le_trans (xo sep 0 _ s x (by rw [hr];exact hx)) h0.2;have hrl:r.length=Lib.countB ⟨s.toArray⟩ ⟨sep.toArray⟩+1:=by rw [← hBl,JV,hlen]
 have hbig:r.length≤maxLen:=by rw [hrl];have:=Lib.countB_le ⟨sep.toArray⟩ (by rw [sz];exact hn.2) _ ⟨s.toArray⟩ (Nat.le_refl _);rw [sz] at this;exact Nat.le_trans (Nat.succ_le_succ this) (Nat.le_trans (show s.length+1≤4294967282 by omega) (by decide))
 have hml:(r.map cp).length=Lib.countB ⟨s.toArray⟩ ⟨sep.toArray⟩+1:=by rw [JV,hrl]
 have hcell:∀ i,i<r.length→w'.cell? ⟨w.heap.size,0+i,none⟩=some (.string ⟨(r.getD i []).toArray⟩):=by
  intro i hi;have hheap:w'.heap[w.heap.size]? = some (.cells (B.map Value.string).toArray (ρ.t 9) (0,0)):=by rw [e2];exact Array.getElem?_push_size
  have h2:=a8 (w:=w') (b:=w.heap.size) (i:=i) hheap (by rw [List.size_toArray,JV,hlen];omega);rw [Nat.zero_add,h2];have hBi:i<B.length:=by omega
  have:r.getD i []=(B[i]'hBi).data.toList:=by rw [← hBl];simp [JM,JN hBi]
  rw [this];simp [JP,JN hBi]
 rw [← hml];refine .dslice _ w.heap.size 0 _ 1 (fun i _=>.string ⟨(r.getD i []).toArray⟩) (Nat.le_refl _) (by rw [JV];exact hbig) (by omega) (fun hx=>Nat.lt_irrefl _ (hX _ hx)) (fun i hi => ?_) (fun i j hi hj => ?_) (fun i j hi hj => ?_)
 ·rw [JV] at hi;simp [JM,JN hi,cp]
 ·rw [JV] at hi;have:=hcell i hi;rw [show 0+(i*1+j)=0+i by omega];exact this
 ·rw [JV] at hi;have e3:(r.map cp).getD i []=cp (r.getD i []):=by simp [JM,JN hi]
  obtain rfl:j=0:=by omega
  rw [e3];refine .str _ (hle _ ?_);rw [JM,JN hi];exact List.getElem_mem hi
end
end Go.Ab
