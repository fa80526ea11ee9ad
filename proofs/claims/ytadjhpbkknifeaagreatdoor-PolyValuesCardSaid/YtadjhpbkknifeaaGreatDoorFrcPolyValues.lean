/- The frame for walks: states without addresses, the rules by which code is walked, and contracts of library functions. -/
import Derived.Test.YtadjhpbkknifeaaGreatDoorFrbPolyValues
import Derived.LoopN
import Derived.Shelf.Strconv.Itoa3
import Derived.Shelf.Strconv.ErrVarAll
import Derived.Shelf.Strings.OnBuilder
import Derived.Shelf.Strings.Split
import Derived.Shelf.Strings.SlTrimAscii
import Derived.Lib.SplitLaws
import Derived.Shelf.Sort.Plain
import Derived.Shelf.Slices.In.SortNone
set_option linter.unusedSimpArgs false
set_option linter.unusedVariables false
namespace Go.Ab
open Go.RowKit
def iA (x:List UInt8):jx→jx
 | []=>[(x,none)]
 | (k,r)::es=>if k=x then (k,none)::es else (k,r)::iA x es
theorem zX (x:List UInt8) (v:List (List AV)):∀ es:jx,eR x v (iA x es)=eR x v es
 | []=>by simp [iA,eR]
 | (k,r)::es=>by
  unfold iA;by_cases h:k=x
  ·rw [if_pos h];simp [eR,h]
  ·rw [if_neg h];simp only [eR,if_neg h];rw [zX x v es]
theorem xJ {x:List UInt8}:∀ {es:jx},(∀ i,i<es.length→(es.getD i bQ).1≠x)→iA x es=es++[(x,none)]
 | [],_=>rfl
 | (k,r)::es,h=>by have h0:k≠x:=h 0 (by simp);rw [iA,if_neg h0,xJ (es:=es) fun i hi=>by simpa using h (i+1) (by simpa using hi)];rfl
theorem vW {x:List UInt8}:∀ {es:jx} {j:Nat},(es.map (·.1)).Nodup→j<es.length→(es.getD j bQ).1=x→iA x es=es.set j (x,none)
 | [],j,_,h,_=>by simp at h
 | (k,r)::es,0,_,_,h=>by
  have h:k=x:=h;simp [iA,h]
 | (k,r)::es,j+1,hn,hj,h=>by
  rw [List.map_cons,List.nodup_cons] at hn;have hj':j<es.length:=by simpa using hj
  have h:(es.getD j bQ).1=x:=by simpa using h
  have hne:k≠x:=by rintro rfl;refine hn.1 (List.mem_map.2 ⟨es.getD j bQ,?_,h⟩);rw [KH,KI hj'];exact List.getElem_mem hj'
  simp only [iA,if_neg hne,vW hn.2 hj' h,List.set_cons_succ]
theorem Ap (x:List UInt8):∀ es:jx,(iA x es).length≤es.length+1
 | []=>by simp [iA]
 | (k,r)::es=>by
  unfold iA;split
  ·simp
  ·have:=Ap x es;simp;omega
section
variable {P:Program} {ops:Array Oper} {o:Oper} {s:AS} {c:Cx P} {a:Act} {w:World} {β:Nat→Nat} {κ:Nat→Nat×Nat}
theorem Rel.entry (r:Rel c s a w β κ) {k:Nat} {e:TypeId} {sz:Nat} {es es2:jx} (hk:lk .gone s.h k = .rmap e sz es) {w':World}
 {ents:Array MapEntry} {clock:Nat} (hw:∀ i,i≠β k→w'.heap[i]? = w.heap[i]?) (hkp:cE (fun i=>i≠β k) w w') (hm:w'.heap[β k]? = some (.map ents clock)) (hs:ents.size=es2.length) (hl6:es2.length≤1000000)
 (hei:∀ i,i<es2.length→(i<es.length∧es2.getD i bQ=es.getD i bQ)∨(es2.getD i bQ).2=none)
 (hents:∀ i (h:i<ents.size),ents[i].key = .string ⟨(es2.getD i bQ).1.toArray⟩∧ents[i].born<clock∧((es2.getD i bQ).2≠none→zF w (c.XX s.h β) (β (gk k i)) (κ (gk k i)) e sz ents[i].val (es.getD i bQ).2))
 (hborn:∀ i j (hi:i<ents.size) (hj:j<ents.size),i<j→ents[i].born<ents[j].born) (hkeys:(es2.map (·.1)).Nodup∧∀ k∈es2.map (·.1),k.length≤maxLen) :
 Rel c ⟨s.n,s.t,ins k (.rmap e sz es2) s.h⟩ a w' β κ:=by
 have hlk:(lk .gone s.h k).live:=by rw [hk];trivial
 have hinn:∀ i,(AO.rmap e sz es2).inn i→(AO.rmap e sz es).inn i:=by
  rintro i ⟨h1,h2,y,ys,h3⟩;rcases hei i h2 with ⟨g1,g2⟩ | g
  ·exact ⟨h1,g1,y,ys,by rw [← g2];exact h3⟩
  ·rw [g] at h3;cases h3
 have hlv:∀ n,lv (ins k (.rmap e sz es2) s.h) n→lv s.h n:=by
  rintro n (h | ⟨m,i,rfl,h⟩)
  ·rw [aD] at h;by_cases ej:n=k
   ·rw [ej];exact .inl hlk
   ·rw [if_neg ej] at h;exact .inl h
  ·rw [aD] at h;by_cases ej:m=k
   ·rw [if_pos ej] at h;refine bo ?_;rw [ej,hk];exact hinn i h
   ·rw [if_neg ej] at h;exact bo h
 have hX:∀ b,¬ c.XX s.h β b→b<w.heap.size→¬ c.XX (ins k (.rmap e sz es2) s.h) β b:=by
  rintro b hb _ (h | ⟨n,h1,h2⟩)
  ·exact hb (.inl h)
  ·exact hb (.inr ⟨n,hlv n h1,h2⟩)
 have hw2:∀ b,¬ c.XX s.h β b→b<w.heap.size→w'.heap[b]? = w.heap[b]? := fun b hb _=>hw b (fun e1=>hb (.inr ⟨k,.inl hlk,e1.symm⟩));refine ⟨r.df,r.sz,fun i=>(r.tm i).mono hw2 hX (fun _ _=>.refl),⟨fun n => ?_,fun i j hi hj e=>r.hp.inj i j (hlv i hi) (hlv j hj) e,r.hp.kp.trans hkp (fun b hb e1=>r.hp.nk k (.inl hlk) (e1 ▸ hb)),fun j hj=>r.hp.nk j (hlv j hj),fun j hj=>r.hp.nx j (hlv j hj),r.hp.fix,fun j hj => ?_⟩⟩
 ·show HO w' (c.XX (ins k (.rmap e sz es2) s.h) β) β κ n (lk .gone (ins k (.rmap e sz es2) s.h) n);rw [aD];by_cases ej:n=k
  ·rw [if_pos ej,ej];refine ⟨ents,clock,hm,hs,hl6,fun i hi => ?_,hborn,hkeys⟩;obtain ⟨a1,a2,a3⟩:=hents i hi;refine ⟨a1,a2,?_⟩;rcases hei i (by omega) with ⟨g4,g5⟩ | g
   ·have hin:∀ z zs',(es.getD i bQ).2=some (z::zs')→(lk .gone s.h k).inn i:=fun z zs' h=>by rw [hk];exact ⟨by omega,g4,z,zs',h⟩
    rw [g5] at a3 ⊢;generalize (es.getD i ([],none)).2=o at a3 hin ⊢;match o,a3,hin with
    | none,_,_=>trivial
    | some [],a5,_=>exact a5 (by simp)
    | some (z::zs'),a5,hin =>
     have a5:=a5 (by simp);exact ⟨a5.1,a5.2.1,a5.2.2.mono hw2 hX (hw _ (r.hp.vne hlk (hin z zs' rfl)))⟩
   ·rw [g];trivial
  ·rw [if_neg ej];refine (r.hp.ob n).mono hw2 hX (fun _ _=>.refl) .refl (fun hl => ?_) (fun i hl => ?_)
   ·exact hw _ fun e3=>ej (r.hp.inj n k (.inl hl) (.inl hlk) e3)
   ·exact hw _ (r.hp.vne hlk hl)
 ·have hj:lk .gone (ins k (.rmap e sz es2) s.h) j ≠ .gone:=hj;rw [aD] at hj;by_cases ej:j=k
  ·rw [ej];exact r.hp.sm k hlk
  ·rw [if_neg ej] at hj;exact r.hp.sg j hj
theorem DD {W:World} {b:Nat} {x:Obj} (h:W.heap[b]? = some x):({ W with heap:=W.heap.setIfInBounds b x }:World)=W:=by
 have:W.heap.setIfInBounds b x=W.heap:=by
  refine Array.ext (by simp) fun i hi1 hi2 => ?_;rw [Array.getElem_setIfInBounds];split
  ·rename_i e1;subst e1;exact (Array.getElem?_eq_some_iff.1 h).2.symm
  ·rfl
 rw [this]
theorem EO (r:Rel c s a w β κ) {t K E:TypeId} {k:Nat} {e:TypeId} {sz:Nat} {es:jx} {y:List UInt8} {z:Value} (hk:lk .gone s.h k = .rmap e sz es)
 (hu:P.underlying t=some (.map K E)) (hK:P.underlying K=some .string) (hz:zeroOf P E=some z) (hl6:es.length<1000000) (hy:y.length≤maxLen) :
 ∃ (v0:Value) (st:Nat) (w':World),(Instr.mapEntry t (.map (some (β k))) (.string ⟨y.toArray⟩)).run P w = .ok (.tuple #[v0,goInt st]) w'∧(Instr.mapEntry t (.map (some (β k))) (.string ⟨y.toArray⟩)).run P w' = .ok (.tuple #[v0,goInt st]) w' ∧
  Rel c ⟨s.n,s.t,ins k (.rmap e sz (iA y es)) s.h⟩ a w' β κ:=by
 have ho:=r.hp.ob k;rw [hk] at ho;obtain ⟨ents,clock,h1,h2,hl,h3,h4,h5,h6⟩:=qM (P:=P) ho y hK;have hik:MapKept.IsKey .string (Value.string ⟨y.toArray⟩):=by simp [MapKept.IsKey]
 have hck:∀ (e:Bool) (W:World),(Instr.checkKey e 10000 K (.string ⟨y.toArray⟩)).run P W = .ok () W:=fun e W=>MapKept.run_checkKey (k:=.string ⟨y.toArray⟩) hK hik e 9999;rcases h6 with ⟨f1,f2⟩ | ⟨j,hj,f1,f2⟩
 ·have run1:(Instr.mapEntry t (.map (some (β k))) (.string ⟨y.toArray⟩)).run P w = .ok (.tuple #[z,goInt clock]) { w with heap:=w.heap.setIfInBounds (β k) (.map (ents.push { key:=.string ⟨y.toArray⟩,val:=z,born:=clock }) (clock+1)) }:=by simp [Instr.mapEntry,aQ hu,bC h1,hck,f1,jh hz,MapKept.run_setObj_map _ h1,Result.andThen]
  have hes:iA y es=es++[(y,none)]:=xJ f2;have hm1:({ w with heap:=w.heap.setIfInBounds (β k) (.map (ents.push { key:=.string ⟨y.toArray⟩,val:=z,born:=clock }) (clock+1)) }:World).heap[β k]? = some (.map (ents.push { key:=.string ⟨y.toArray⟩,val:=z,born:=clock }) (clock+1)):=(MapKept.heap_set h1).1;have hgl:∀ i,i<es.length→(es++[(y,none)]).getD i bQ=es.getD i bQ:=fun i hi=>by simp [KH,List.getElem?_append_left hi]
  have hgj:(es++[(y,none)]).getD es.length bQ=(y,none):=by simp [KH]
  have rel:Rel c ⟨s.n,s.t,ins k (.rmap e sz (iA y es)) s.h⟩ a { w with heap:=w.heap.setIfInBounds (β k) (.map (ents.push { key:=.string ⟨y.toArray⟩,val:=z,born:=clock }) (clock+1)) } β κ:=by
   rw [hes];refine r.entry hk (fun i hi=>(MapKept.heap_set h1).2 i hi) (sM w _ _) hm1 (by simp [h2]) (by simp;omega) (fun i hi => ?_) (fun i hi => ?_) (fun i j' hi hj' hlt' => ?_) ?_
   ·by_cases e1:i<es.length
    ·exact .inl ⟨e1,hgl i e1⟩
    ·have:i=es.length:=by simp at hi;omega
     subst this;exact .inr (by rw [hgj])
   ·by_cases hi2:i<ents.size
    ·rw [Array.getElem_push_lt hi2,hgl i (by omega)];exact ⟨(h3 i hi2).1,by have:=(h3 i hi2).2.1;omega,fun _=>(h3 i hi2).2.2⟩
    ·have:i=ents.size:=by simp at hi;omega
     subst this;rw [Array.getElem_push_eq];have e0:ents.size=es.length:=h2;refine ⟨?_,by simp,fun h => ?_⟩
     ·show Value.string ⟨y.toArray⟩=_;rw [e0,hgj]
     ·rw [e0,hgj] at h;exact absurd rfl h
   ·by_cases hj2:j'<ents.size
    ·rw [Array.getElem_push_lt hj2,Array.getElem_push_lt (by omega:i<ents.size)];exact h4 i j' (by omega) hj2 hlt'
    ·have:j'=ents.size:=by simp at hj';omega
     subst this;rw [Array.getElem_push_eq,Array.getElem_push_lt hlt'];exact (h3 i hlt').2.1
   ·refine ⟨?_,fun u hu1 => ?_⟩
    ·rw [List.map_append,List.nodup_append];refine ⟨h5.1,by simp,fun u hu1 v' hv' => ?_⟩;simp only [List.map_cons,List.map_nil,List.mem_singleton] at hv';subst hv';obtain ⟨p,hp,rfl⟩:=List.mem_map.1 hu1;obtain ⟨i,hi,rfl⟩:=List.getElem_of_mem hp;have:=f2 i hi;simpa [KH,KI hi] using this
    ·rw [List.map_append,List.mem_append] at hu1;rcases hu1 with hu1 | hu1
     ·exact h5.2 u hu1
     ·simp only [List.map_cons,List.map_nil,List.mem_singleton] at hu1;subst hu1;exact hy
  refine ⟨z,clock,_,run1,?_,rel⟩;have ho2:=rel.hp.ob k;have hk2:lk .gone (ins k (.rmap e sz (iA y es)) s.h) k = .rmap e sz (iA y es):=by rw [aD,if_pos rfl]
  rw [show lk .gone (⟨s.n,s.t,ins k (.rmap e sz (iA y es)) s.h⟩:AS).h k = .rmap e sz (iA y es) from hk2] at ho2;obtain ⟨ents2,clock2,g1,g2,gl,g3,g4,g5,g6⟩:=qM (P:=P) ho2 y hK;rw [hm1] at g1;simp only [KR,Obj.map.injEq] at g1;obtain ⟨rfl,rfl⟩:=g1;rcases g6 with ⟨_,f3⟩ | ⟨j,hj,f3,f4⟩
  ·exfalso;refine f3 es.length (by rw [hes];simp) ?_;rw [hes,hgj]
  ·have hje:j=ents.size:=by
    rw [hes] at f4;by_cases e1:j<es.length
    ·rw [hgl j e1] at f4;exact absurd f4 (f2 j e1)
    ·simp at hj;omega
   subst hje;have hsame:(ents.push { key:=.string ⟨y.toArray⟩,val:=z,born:=clock }).modify ents.size (fun e=>{ e with key:=.string ⟨y.toArray⟩ })=ents.push { key:=.string ⟨y.toArray⟩,val:=z,born:=clock }:=by
    refine Array.ext (by simp) fun i hi1 hi2 => ?_;rw [Array.getElem_modify];split
    ·rename_i e;subst e;simp
    ·rfl
   simp only [Array.getElem_push_eq] at f3;generalize hW:({ w with heap:=w.heap.setIfInBounds (β k) (.map (ents.push { key:=.string ⟨y.toArray⟩,val:=z,born:=clock }) (clock+1)) }:World)=W at hm1 f3 ⊢;have hid:({ W with heap:=W.heap.setIfInBounds (β k) (.map (ents.push { key:=.string ⟨y.toArray⟩,val:=z,born:=clock }) (clock+1)) }:World)=W:=DD hm1;have:(Instr.mapEntry t (.map (some (β k))) (.string ⟨y.toArray⟩)).run P W = .ok (.tuple #[z,goInt clock]) { W with heap:=W.heap.setIfInBounds (β k) (.map (ents.push { key:=.string ⟨y.toArray⟩,val:=z,born:=clock }) (clock+1)) }:=by simp [-Array.toList_push,Instr.mapEntry,aQ hu,bC hm1,hck,f3,MapKept.run_keyThatStays hik,hsame,MapKept.run_setObj_map _ hm1,Result.andThen]
   rw [this,hid]
 ·have hjk:ents[j].key = .string ⟨y.toArray⟩:=by rw [(h3 j hj).1,f2]
  have hsame:ents.modify j (fun e=>{ e with key:=.string ⟨y.toArray⟩ })=ents:=by
   refine Array.ext (by simp) fun i hi1 hi2 => ?_;rw [Array.getElem_modify];split
   ·rename_i e;subst e;exact FE hjk
   ·rfl
  have hid:({ w with heap:=w.heap.setIfInBounds (β k) (.map ents clock) }:World)=w:=DD h1;have run1:(Instr.mapEntry t (.map (some (β k))) (.string ⟨y.toArray⟩)).run P w = .ok (.tuple #[ents[j].val,goInt ents[j].born]) w:=by
   have:(Instr.mapEntry t (.map (some (β k))) (.string ⟨y.toArray⟩)).run P w = .ok (.tuple #[ents[j].val,goInt ents[j].born]) { w with heap:=w.heap.setIfInBounds (β k) (.map ents clock) }:=by simp [Instr.mapEntry,aQ hu,bC h1,hck,f1,KS hj,hjk,MapKept.run_keyThatStays hik,hsame,MapKept.run_setObj_map _ h1,Result.andThen]
   rw [this,hid]
  refine ⟨_,_,w,run1,run1,?_⟩;rw [vW h5.1 (by omega) f2];have hgs:∀ i,i<es.length→(es.set j (y,none)).getD i bQ=if j=i then (y,none) else es.getD i bQ:=by
   intro i hi;simp only [KH,List.getElem?_set];by_cases e:j=i
   ·subst e;simp [hi]
   ·simp [e]
  refine r.entry hk (fun _ _=>rfl) ⟨rfl,rfl,rfl,Nat.le_refl _,fun _ _=>rfl⟩ h1 (by simp [h2]) (by simp;omega) (fun i hi => ?_) (fun i hi => ?_) h4 ?_
  ·have hi:i<es.length:=by simpa using hi
   rw [hgs i hi];by_cases e1:j=i
   ·rw [if_pos e1];exact .inr rfl
   ·rw [if_neg e1];exact .inl ⟨hi,rfl⟩
  ·rw [hgs i (by omega)];by_cases e1:j=i
   ·subst e1;rw [if_pos rfl];exact ⟨hjk,(h3 j hj).2.1,fun h=>absurd rfl h⟩
   ·rw [if_neg e1];exact ⟨(h3 i hi).1,(h3 i hi).2.1,fun _=>(h3 i hi).2.2⟩
  ·have:(es.set j (y,none)).map (·.1)=es.map (·.1):=by
    rw [List.map_set];refine List.ext_getElem (by simp) fun n hn1 hn2 => ?_;rw [List.getElem_set];split
    ·rename_i e;subst e;have:j<es.length:=by omega
     simp only [List.getElem_map];rw [← f2];simp [KH,KI this]
    ·rfl
   rw [this];exact h5
end
section
variable {P:Program} {l:List Oper}
def vn (e:cJ):Bool:=(e.ws.all fun p => !p.2.hasR)&&e.os.all fun p => !p.2.hasR
theorem C7 {α:Type} {p:α→Bool} {k:Nat} {v:α} (hv:p v=true):∀ {l:List (Nat×α)},(l.all fun x=>p x.2)=true→((ins k v l).all fun x=>p x.2)=true
 | [],_=>by simp [ins,hv]
 | (j,u)::l,h=>by
  simp only [List.all_cons,KJ] at h;unfold ins;cases Nat.blt k j with
  | true=>simp only [cond_true,List.all_cons,KJ];exact ⟨hv,h⟩
  | false =>
   cases Nat.beq k j with
   | true=>simp only [cond_true,cond_false,List.all_cons,KJ];exact ⟨hv,h.2⟩
   | false=>simp only [cond_false,List.all_cons,KJ];exact ⟨h.1,C7 hv h.2⟩
theorem uH {α:Type} {p:α→Bool} {m:List (Nat×α)} (hm:(m.all fun x=>p x.2)=true):∀ {l:List (Nat×α)},(l.all fun x=>p x.2)=true→((jY l m).all fun x=>p x.2)=true
 | [],_=>hm
 | (k,v)::l,h=>by simp only [List.all_cons,KJ] at h;exact C7 h.1 (uH hm h.2)
theorem Fy:∀ (es:List cJ) (bs:List Bool) (s:AS),s.noR=true→es.all vn=true→(sL es bs s).noR=true
 | [],bs,s,h,_=>by cases bs<;>exact h
 | e::es,[],s,h,_=>h
 | e::es,b::bs,s,h,he=>by
  simp only [List.all_cons,KJ] at he;rw [sL];refine Fy es bs _ ?_ he.2;cases b with
  | false=>exact h
  | true =>
   simp only [AS.noR,KJ] at h;have h1:=he.1;simp only [vn,KJ] at h1;show ((e.app s).noR)=true;simp only [AS.noR,cJ.app,KJ];exact ⟨uH (p:=fun v:AV => !v.hasR) h.1 h1.1,uH (p:=fun v:AO => !v.hasR) h.2 h1.2⟩
def sy (P:Program) (ops:Array Oper) (cl:List (List Nat)) (J:(Nat→Bool)→Act→World→(Nat→Nat)→Prop) (i:Nat) (o:Oper) (s:AS) (e:cJ):Prop :=
 ∀ (s':AS) (b:Nat→Bool),rv ops o s s'→(∀ k∈e.fr,DU k s')→(∀ p∈e.ex,Gi p.1 p.2 s')→s'.noR=true→b i=false→(∀ j x,b j=true→x∈cl.getD j []→b x=true)→(∀ x∈cl.getD i [],b x=true) →
  ∀ (c:Cx P) a w β κ,Rel c s' a w β κ→J b a w β→∀ (K:Act→World→Prop) (Q:Exit→Act→World→Prop),(∀ s'' a' w' β' κ',iM (e.app s') s''→Rel c s'' a' w' β' κ'→J (upd b i true) a' w' β'→K a' w') →
   if Region.wanted o (yielded ops a.tmps) then o.wp P a w K Q else K (a.put o.dst undef) w
theorem xp {id:Nat} {Q:Exit→AS→Prop} (hm:P.follows .mixedOrders=true) (n:Nat) (es:List cJ) {s s1:AS} (J:(Nat→Bool)→Act→World→(Nat→Nat)→Prop) (hchk:(vt l n es s&&Az (kA l []) es s&&z8 (kA l []) es s)=true) (hnr:(s.noR&&es.all vn)=true)
 (k1:(l.take n).length=es.length) (k2:s1=sL es (List.replicate es.length true) s) (k3:∀ (i:Nat) (o:Oper) (e:cJ),(l.take n)[i]? = some o→es[i]? = some e→sy P l.toArray (kA l []) J i o (sL es ((List.range es.length).map fun j=>decide (j<i)) s) e) (hJ0:∀ a w β,J (fun _=>false) a w β)
 (ht:fR P l.toArray (l.drop n) Q s1):dL P (.region id l.toArray true) Q s:=fun c a w β κ r=>by
 simp only [KJ,vt] at hchk;obtain ⟨⟨⟨⟨⟨⟨c1,c2⟩,c3⟩,c5⟩,c6⟩,c7⟩,c8⟩:=hchk;have hen:es.length=n:=bP.1 c1;have hnl:n≤l.length:=by simpa [Nat.ble_eq] using c2
 rw [KJ] at hnr;have htk:∀ i,i<n→(l.take n)[i]? = l[i]? := fun i hi=>by rw [List.getElem?_take,if_pos hi]
 have htail:(∀ i o,n<i→l[i]? = some o→(i-1)∈aft o)∧(n<l.length→∀ j,j<n→j∈(kA l []).getD n []):=by
  cases hd:l.drop n with
  | nil =>
   have hle:l.length≤n:=by simpa using hd
   exact ⟨fun i o hi ho=>by have:=(KQ.1 ho).1;omega,fun h=>by omega⟩
  | cons o0 os =>
   rw [hd] at c6;simp only [KJ] at c6;refine ⟨fun i o hi ho => ?_,fun _ j hj => ?_⟩
   ·have hget:os[i-(n+1)]? = some o:=by
     have:(l.drop n)[i-n]? = some o:=by rw [List.getElem?_drop,show n+(i-n)=i by omega];exact ho
     rw [hd,show i-n=(i-(n+1))+1 by omega,List.getElem?_cons_succ] at this;exact this
    have:=qb c6.2 _ o hget;rw [show n+(i-(n+1))=i-1 by omega] at this;exact this
   ·obtain ⟨x,hx,hb⟩:=List.any_eq_true.1 (KU.1 c6.1 j (vi hj));have:j=x:=bP.1 hb;subst this;exact hx
 have main:∀ (f:Nat) (listed:Array Bool) (a:Act) (w:World) (β:Nat→Nat) (κ:Nat→Nat×Nat),listed.size=l.length→CE l listed→cntF (listed.toList.take n)=f→(∀ i,n≤i→listed.getD i false=false) →
  Rel c (sL es (listed.toList.take n) s) a w β κ→J (fun j=>listed.getD j false) a w β→wpAny P .any l.toArray (lift c Q) (f+(l.length-n)) listed a w:=by
  intro f;induction f with
  | zero =>
   intro listed a w β κ hs hcl hcnt hun hr hJ;have hml:(listed.toList.take n).length=n:=by simp;omega
   have hall:=sJ hcnt;rw [hml] at hall;rw [hall,← hen,← k2] at hr;have hlist:=ht c a w β κ hr;have hdl:(l.drop n).length=l.length-n:=by simp
   rw [Nat.zero_add,← hdl];refine oz c5 (l.drop n) n listed a w hs (fun j=>by rw [List.getElem?_drop]) (by rw [hdl];omega) (fun i hi => ?_) hun htail.1 hlist;have h1:=mW (listed:=listed) hi (by omega);rw [hall,List.getElem?_replicate,if_pos hi] at h1;exact (KT h1).symm
  | succ f ih =>
   intro listed a w β κ hs hcl hcnt hun hr hJ;have hml:(listed.toList.take n).length=n:=by simp;omega
   obtain ⟨i0,hi0⟩:=wj (bs:=listed.toList.take n) (by omega);have hi0n:i0<n:=by have:=(KQ.1 hi0).1;omega
   have hgf:∀ i,i<n→(listed.toList.take n)[i]? = some (listed.getD i false):=fun i hi=>mW hi (by omega);have hready:∀ i∈Region.ready .any l.toArray listed,i<n∧listed.getD i false=false∧∃ o,l[i]? = some o∧∀ j∈aft o,listed.getD j false=true:=by
    intro i hi;obtain ⟨h4,o,ho,h5⟩:=gu.1 hi;have hil:i<l.length:=(KQ.1 ho).1;have h6:listed.getD i false=false:=by simp [KK,KS (show i<listed.size by omega)] at h4 ⊢;exact h4
    refine ⟨?_,h6,o,ho,h5⟩;by_cases hin:i<n
    ·exact hin
    ·exfalso;by_cases e:i=n
     ·subst e;have:=eL hcl l [] (fun j=>by simp) (fun k hk=>by simp at hk) (by simpa using c5) i o ho (by simpa using hil) h5 i0 (htail.2 hil i0 hi0n);rw [hgf i0 hi0n,this] at hi0;cases hi0
     ·have:=h5 _ (htail.1 i o (by omega) ho);rw [hun (i-1) (by omega)] at this;cases this
   rw [show f+1+(l.length-n)=(f+(l.length-n))+1 by omega];refine ⟨fun h0 => ?_,fun i hi => ?_⟩
   ·
    exfalso;have hex:∃ i,i<n∧listed.getD i false=false∧∀ j,j<i→listed.getD j false=true:=by
     have gen:∀ m,(∀ j,j<m→listed.getD j false=true)∨∃ i,i<m∧listed.getD i false=false∧∀ j,j<i→listed.getD j false=true:=by
      intro m;induction m with
      | zero=>exact .inl fun j hj=>by omega
      | succ m ihm =>
       rcases ihm with h | ⟨i,h1,h2,h3⟩
       ·cases hb:listed.getD m false with
        | true =>
         refine .inl fun j hj => ?_;by_cases e:j=m
         ·rw [e];exact hb
         ·exact h j (by omega)
        | false=>exact .inr ⟨m,by omega,hb,h⟩
       ·exact .inr ⟨i,by omega,h2,h3⟩
     rcases gen n with h | ⟨i,h1,h2,h3⟩
     ·have:=h i0 hi0n;rw [hgf i0 hi0n,this] at hi0;cases hi0
     ·exact ⟨i,h1,h2,h3⟩
    obtain ⟨i,h1,h2,h3⟩:=hex;have hil:i<l.length:=by omega
    have:i∈Region.ready .any l.toArray listed:=by
     refine gu.2 ⟨?_,l[i],KI hil,fun j hj=>h3 j ?_⟩
     ·simp [KK,KS (show i<listed.size by omega)] at h2 ⊢;exact h2
     ·have:=mM c5 i _ (KI hil) j hj;omega
    rw [h0] at this;cases this
   ·obtain ⟨hin,hif,o,ho,haft⟩:=hready i hi;obtain ⟨e,he⟩:∃ e,es[i]? = some e:=⟨es[i]'(by omega),KI (by omega)⟩;have hloc:=k3 i o e (by rw [htk i hin];exact ho) he;have hbi:(listed.toList.take n)[i]? = some false:=by rw [hgf i hin,hif]
    let lex:=(List.range es.length).map fun j=>decide (j<i)
    have hlex:∀ j,j<n→lex[j]? = some (decide (j<i)):=fun j hj=>by simp [lex,hen,hj]
    have hlexl:lex.length=(listed.toList.take n).length:=by simp [lex,hen];omega
    have hord:∀ (j:Nat) (oj:Oper) (ej:cJ),l[j]? = some oj→es[j]? = some ej→j≠i →
     (∀ r1 r2,(infos l.toArray (l.take n) es s)[min i j]? = some r1→(infos l.toArray (l.take n) es s)[max i j]? = some r2→nV (if i<j then e else ej) (if i<j then ej else e) r1 r2=true)→(listed.toList.take n)[j]? = lex[j]? := by
     intro j oj ej hoj hej hji hcf;have hjn:j<n:=by have:=(KQ.1 hej).1;omega
     have i1:=fU (ops:=l.toArray) (s:=s) k1 i o (by rw [htk i hin];exact ho);have i2:=fU (ops:=l.toArray) (s:=s) k1 j oj (by rw [htk j hjn];exact hoj);rw [hgf j hjn,hlex j hjn];rcases Nat.lt_or_ge j i with hlt | hge
     ·rw [show min i j=j by omega,show max i j=i by omega,if_neg (by omega),if_neg (by omega)] at hcf;have hm:=nl c3 hej i2 he i1 hlt (hcf _ _ i2 i1);have:=eL hcl l [] (fun j=>by simp) (fun k hk=>by simp at hk) (by simpa using c5) i o ho (by simpa using (KQ.1 ho).1) haft j hm;rw [this];simp [hlt]
     ·rw [show min i j=i by omega,show max i j=j by omega,if_pos (by omega),if_pos (by omega)] at hcf;have hm:=nl c3 he i1 hej i2 (by omega) (hcf _ _ i1 i2);have:listed.getD j false=false:=by
       cases hb:listed.getD j false with
       | false=>rfl
       | true =>
        have:=eL hcl l [] (fun j=>by simp) (fun k hk=>by simp at hk) (by simpa using c5) j oj hoj (by simpa using (KQ.1 hoj).1) (hcl j oj hoj hb) i hm;rw [hif] at this;cases this
      rw [this];simp;omega
    have hoj:∀ (j:Nat) (ej:cJ),es[j]? = some ej→∃ oj,l[j]? = some oj:=fun j ej h=>by have:=(KQ.1 h).1;exact ⟨l[j]'(by omega),KI (by omega)⟩
    have hii:(listed.toList.take n)[i]? = lex[i]? := by rw [hbi,hlex i hin];simp
    have hagree:rv l.toArray o (sL es lex s) (sL es (listed.toList.take n) s):=by
     refine ⟨by rw [B6,B6],fun t hlt => ?_,fun hmv x hx k hk => ?_⟩
     ·rw [uP,uP,kO hlexl.symm fun j ej h1 h2 => ?_];by_cases hji:j=i
      ·rw [hji];exact hii
      obtain ⟨oj,h3⟩:=hoj j ej h1;refine hord j oj ej h3 h1 hji fun r1 r2 q1 q2 => ?_;have i1:=fU (ops:=l.toArray) (s:=s) k1 i o (by rw [htk i hin];exact ho);by_cases hlt2:i<j
      ·rw [if_pos hlt2,if_pos hlt2];rw [show min i j=i by omega,i1] at q1;cases q1;exact DO h2 hlt
      ·rw [if_neg hlt2,if_neg hlt2];rw [show max i j=i by omega,i1] at q2;cases q2;exact CS h2 hlt
     ·rw [uQ,uQ,kO hlexl.symm fun j ej h1 h2 => ?_];by_cases hji:j=i
      ·rw [hji];exact hii
      obtain ⟨oj,h3⟩:=hoj j ej h1;refine hord j oj ej h3 h1 hji fun r1 r2 q1 q2 => ?_;have i1:=fU (ops:=l.toArray) (s:=s) k1 i o (by rw [htk i hin];exact ho);have hxm:(sL es lex s).op x∈(bif I2 o.op then [] else o.op.operands.toList.map (sL es lex s).op):=by rw [hmv];exact List.mem_map.2 ⟨x,by simpa using hx,rfl⟩
      by_cases hlt2:i<j
      ·rw [if_pos hlt2,if_pos hlt2];rw [show min i j=i by omega,i1] at q1;cases q1;exact DE h2 hxm hk
      ·rw [if_neg hlt2,if_neg hlt2];rw [show max i j=i by omega,i1] at q2;cases q2;exact Dx h2 hxm hk
    have hfree:∀ k∈e.fr,DU k (sL es (listed.toList.take n) s):=by
     intro k hk;have h1:=KU.1 (KU.1 c7 (e,i) (by rw [List.mem_iff_getElem?];exact ⟨i,by simp [he]⟩)) k hk;simp only [KJ] at h1;obtain ⟨f1,f2⟩:=sX h1.1;have hother:∀ (j:Nat) (e':cJ),es[j]? = some e'→(listed.toList.take n)[j]? = some true→ql k e'=false:=by
      intro j e' h2 h3;have hne:i≠j:=by rintro rfl;rw [hbi] at h3;cases h3
      have h4:=KU.1 h1.2 (e',j) (by rw [List.mem_iff_getElem?];exact ⟨j,by simp [h2]⟩);simp only [bN hne,Bool.false_or,Bool.or_eq_true,Bool.not_eq_true',KJ] at h4;rcases h4 with h4 | ⟨h4,h5⟩
      ·exact h4
      ·exfalso;obtain ⟨x,hx,hb⟩:=List.any_eq_true.1 h5;have hxi:i=x:=bP.1 hb;subst hxi;obtain ⟨oj,hoj'⟩:=hoj j e' h2;have hjn:j<n:=by have:=(KQ.1 h2).1;omega
       rw [hgf j hjn] at h3;have hb2:listed.getD j false=true:=KT h3;have:=eL hcl l [] (fun j=>by simp) (fun k hk=>by simp at hk) (by simpa using c5) j oj hoj' (by simpa using (KQ.1 hoj').1) (hcl j oj hoj' hb2) i hx;rw [hif] at this;cases this
     refine ⟨fun t => ?_,fun t => ?_⟩
     ·rw [uP];cases hv:lw (fun e=>gz e.ws t) es (listed.toList.take n) with
      | none=>exact f1 t
      | some v =>
       obtain ⟨j,e',h2,h3,h4⟩:=nw hv;exact AU (hother j e' h2 h3) h4
     ·rw [uQ];cases hv:lw (fun e=>gz e.os t) es (listed.toList.take n) with
      | none=>exact f2 t
      | some v =>
       obtain ⟨j,e',h2,h3,h4⟩:=nw hv;exact Bl (hother j e' h2 h3) h4
    have honly:∀ p∈e.ex,Gi p.1 p.2 (sL es (listed.toList.take n) s):=by
     rintro ⟨k,t0⟩ hk;have h1:=KU.1 (KU.1 c8 (e,i) (by rw [List.mem_iff_getElem?];exact ⟨i,by simp [he]⟩)) (k,t0) hk;simp only [KJ] at h1;obtain ⟨f1,f2⟩:=td h1.1;have hother:∀ (j:Nat) (e':cJ),es[j]? = some e'→(listed.toList.take n)[j]? = some true→nv k t0 e'=false:=by
      intro j e' h2 h3;have hne:i≠j:=by rintro rfl;rw [hbi] at h3;cases h3
      have h4:=KU.1 h1.2 (e',j) (by rw [List.mem_iff_getElem?];exact ⟨j,by simp [h2]⟩);simp only [bN hne,Bool.false_or,Bool.or_eq_true,Bool.not_eq_true',KJ] at h4;rcases h4 with h4 | ⟨h4,h5⟩
      ·exact h4
      ·exfalso;obtain ⟨x,hx,hb⟩:=List.any_eq_true.1 h5;have hxi:i=x:=bP.1 hb;subst hxi;obtain ⟨oj,hoj'⟩:=hoj j e' h2;have hjn:j<n:=by have:=(KQ.1 h2).1;omega
       rw [hgf j hjn] at h3;have hb2:listed.getD j false=true:=KT h3;have:=eL hcl l [] (fun j=>by simp) (fun k hk=>by simp at hk) (by simpa using c5) j oj hoj' (by simpa using (KQ.1 hoj').1) (hcl j oj hoj' hb2) i hx;rw [hif] at this;cases this
     refine ⟨fun t htt => ?_,fun t => ?_⟩
     ·rw [uP];cases hv:lw (fun e=>gz e.ws t) es (listed.toList.take n) with
      | none=>exact f1 t htt
      | some v =>
       obtain ⟨j,e',h2,h3,h4⟩:=nw hv;exact xq (hother j e' h2 h3) h4 htt
     ·rw [uQ];cases hv:lw (fun e=>gz e.os t) es (listed.toList.take n) with
      | none=>exact f2 t
      | some v =>
       obtain ⟨j,e',h2,h3,h4⟩:=nw hv;exact xf (hother j e' h2 h3) h4
    have hlater:∀ (j:Nat) (e':cJ),i<j→es[j]? = some e'→(listed.toList.take n)[j]? = some true→(∀ r1 r2,nV e e' r1 r2=true)→False:=by
     intro j e' hij h1 h2 hcf;obtain ⟨oj,h3⟩:=hoj j e' h1;have:=hord j oj e' h3 h1 (by omega) fun r1 r2 _ _=>by rw [if_pos hij,if_pos hij];exact hcf r1 r2
     have hjn:j<n:=by have:=(KQ.1 h1).1;omega
     rw [h2,hlex j hjn] at this;simp at this;omega
    have hcl2:∀ j x,listed.getD j false=true→x∈(kA l []).getD j []→listed.getD x false=true:=by
     intro j x hj hx;have hjl:j<l.length:=by apply Classical.byContradiction;intro hn;rw [KK,Array.getElem?_eq_none (by omega)] at hj;cases hj
     exact eL hcl l [] (fun j=>by simp) (fun k hk=>by simp at hk) (by simpa using c5) j l[j] (KI hjl) (by simpa using hjl) (hcl j _ (KI hjl) hj) x hx
    have hcl3:∀ x∈(kA l []).getD i [],listed.getD x false=true:=fun x hx=>eL hcl l [] (fun j=>by simp) (fun k hk=>by simp at hk) (by simpa using c5) i o ho (by simpa using (KQ.1 ho).1) haft x hx;have hop:=hloc _ (fun j=>listed.getD j false) hagree hfree honly (Fy es _ s hnr.1 hnr.2) hif hcl2 hcl3 c a w β κ hr hJ (wpAny P .any l.toArray (lift c Q) (f+(l.length-n)) (listed.setIfInBounds i true)) (lift c Q) (fun s' a' w' β' κ' hs' hr' hJ'=>by
     have hset:∀ j,(listed.setIfInBounds i true).getD j false=if j=i then true else listed.getD j false:=by
      intro j;simp only [KK,Array.getElem?_setIfInBounds];by_cases e:j=i
      ·subst e;rw [if_pos rfl,if_pos (by omega)];simp
      ·rw [if_neg (fun h=>e h.symm),if_neg e]
     have htake:(listed.setIfInBounds i true).toList.take n=(listed.toList.take n).set i true:=by rw [Array.toList_setIfInBounds,List.take_set]
     refine ih (listed.setIfInBounds i true) a' w' β' κ' (by simpa using hs) (fun j oj hoj hl' j' hj' => ?_) ?_ (fun j hj => ?_) ?_ ?_
     ·rw [hset];by_cases e1:j'=i
      ·rw [if_pos e1]
      ·rw [if_neg e1];rw [hset] at hl';by_cases e2:j=i
       ·subst e2;rw [ho] at hoj;cases hoj;exact haft j' hj'
       ·rw [if_neg e2] at hl';exact hcl j oj hoj hl' j' hj'
     ·rw [htake];have:=uv hbi;omega
     ·rw [hset,if_neg (by omega)];exact hun j hj
     ·rw [htake];exact (hr'.same hs'.symm').same (Fw he hbi (fun t ht j e' hij h1 h2=>by
       cases hw:gz e'.ws t with
       | none=>rfl
       | some v=>exact (hlater j e' hij h1 h2 fun r1 r2=>Df ht (by rw [hw];simp)).elim) (fun k hk j e' hij h1 h2=>by
       cases hw:gz e'.os k with
       | none=>rfl
       | some v=>exact (hlater j e' hij h1 h2 fun r1 r2=>Du hk (by rw [hw];simp)).elim) s)
     ·rw [show (fun j=>(listed.setIfInBounds i true).getD j false)=upd (fun j=>listed.getD j false) i true from funext fun j=>by rw [hset];rfl];exact hJ')
    have hopi:l.toArray[i]? = some o:=by simpa using ho
    unfold wpOp;simp only [hopi];split
    ·rename_i hw;rw [if_pos hw] at hop;exact .inl hop
    ·rename_i hw;rw [if_neg hw] at hop;exact hop
 refine wp_region_any hm ?_;have hrep:((Array.replicate l.toArray.size false).toList.take n)=List.replicate n false:=by simp [List.take_replicate];omega
 have hcf:∀ n,cntF (List.replicate n false)=n:=by
  intro n;induction n with
  | zero=>rfl
  | succ n ih=>rw [List.replicate_succ,cntF,ih];simp;omega
 have hs0:∀ (es:List cJ) (n:Nat) (s:AS),sL es (List.replicate n false) s=s:=by
  intro es;induction es with
  | nil=>intro n s;cases n<;>rfl
  | cons e es ih=>intro n s;cases n with
   | zero=>rfl
   | succ n=>rw [List.replicate_succ,sL];exact ih n s
 have hrf:∀ i,(Array.replicate l.toArray.size false).getD i false=false:=by intro i;simp [KK,Array.getElem?_replicate];split<;>simp
 have:=main n (Array.replicate l.toArray.size false) a w.drew β κ (by simp) (fun i o _ h=>by rw [hrf] at h;cases h) (by rw [hrep,hcf]) (fun i _=>hrf i) (by rw [hrep,hs0];exact r.drew) (by rw [show (fun j=>(Array.replicate l.toArray.size false).getD j false)=fun _=>false from funext hrf];exact hJ0 _ _ _);rw [show n+(l.length-n)=l.toArray.size by simp;omega] at this;exact this
end
structure zr where
 t:TypeId
 k:Nat
 y:List UInt8
 t1:Nat
 t2:Nat
 i0:Nat
 i1:Nat
 i2:Nat
section
variable {P:Program} {ops:Array Oper} {o:Oper} {s:AS} {cl:List (List Nat)} {c:zr} {i:Nat}
def J3 (P:Program) (c:zr) (b:Nat→Bool) (a:Act) (w:World) (β:Nat→Nat):Prop :=
 b c.i0=true→b c.i2=false→∃ (v0:Value) (st:Nat),c.y.length≤maxLen∧(Instr.mapEntry c.t (.map (some (β c.k))) (.string ⟨c.y.toArray⟩)).run P w = .ok (.tuple #[v0,goInt st]) w ∧
  (b c.i1=false→a.eval (.tmp c.t1) = .tuple #[v0,goInt st])∧(b c.i1=true→a.eval (.tmp c.t2)=goInt st)
def EG (x:Nat) (l:List Nat):Bool:=l.any (Nat.beq x)
theorem pf {x:Nat} {l:List Nat} (h:EG x l=true):x∈l:=by obtain ⟨y,hy,hb⟩:=List.any_eq_true.1 h;have:x=y:=bP.1 hb;subst this;exact hy
def zr.ok (c:zr) (cl:List (List Nat)):Bool:=EG c.i0 (cl.getD c.i1 [])&&EG c.i0 (cl.getD c.i2 [])&&EG c.i1 (cl.getD c.i2 [])&&(!Nat.beq c.i0 c.i1 && !Nat.beq c.i0 c.i2 && !Nat.beq c.i1 c.i2)
theorem zr.ok_spec (h:c.ok cl=true):c.i0∈cl.getD c.i1 []∧c.i0∈cl.getD c.i2 []∧c.i1∈cl.getD c.i2 []∧c.i0≠c.i1∧c.i0≠c.i2∧c.i1≠c.i2:=by simp only [zr.ok,KJ,Bool.not_eq_true'] at h;obtain ⟨⟨⟨h1,h2⟩,h3⟩,⟨h4,h5⟩,h6⟩:=h;exact ⟨pf h1,pf h2,pf h3,fun e=>(by rw [e,Nat.beq_refl] at h4;cases h4),fun e=>(by rw [e,Nat.beq_refl] at h5;cases h5),fun e=>(by rw [e,Nat.beq_refl] at h6;cases h6)⟩
theorem CC {e:cJ} (h:Loc P ops o s e) (hne:i≠c.i0) (hi:i∈cl.getD c.i0 []):sy P ops cl (J3 P c) i o s e :=
 fun s' b ha hf hx _ hbi hcl _ c' a w β κ r _ K Q hK=>h s' ha hf hx c' a w β κ r K Q fun s'' a' w' β' κ' hs hr=>hK s'' a' w' β' κ' hs hr fun h0 _=>by rw [bh _ hne.symm] at h0;have:=hcl c.i0 i h0 hi;rw [hbi] at this;cases this
theorem EP (hg:gd ops s o=some true) {p:Prop} {v:AV} (hv:fT P s o.op=some (p,v)) (hp:p) {dst:Nat} (hd:o.dst=some dst) (hn:dst<s.n) (h1:dst≠c.t1) (h2:dst≠c.t2) (n0:i≠c.i0) (n1:i≠c.i1) (n2:i≠c.i2):sy P ops cl (J3 P c) i o s (.put o.dst v) :=
 fun s' b ha _ _ _ _ _ _ c' a w β κ r hJ K Q hK=>by
  have hv':fT P s' o.op=some (p,v):=by rw [uR ha];exact hv
  have hg':gd ops s' o=some true:=by rw [bO ha];exact hg
  obtain ⟨dst0,op,ty,pos,af,g⟩:=o;obtain ⟨V,hr,hG⟩:=vA r hv' hp dst0 ty pos af g;rw [fM r hg'];simp only [if_true];unfold Oper.wp;rw [hr];have hd:dst0=some dst:=hd;subst hd;have hput:AS.put s' (some dst) v=some ⟨s'.n,ins dst v s'.t,s'.h⟩:=by simp only [AS.put,show Nat.blt dst s'.n=true by rw [ha.n];simpa [Nat.blt_eq] using hn,cond_true]
  refine hK _ _ _ β κ ?_ (bu r hG hput) fun h0 hh2 => ?_
  ·exact ⟨rfl,fun _=>rfl,fun _=>rfl⟩
  ·rw [bh _ n0.symm] at h0;rw [bh _ n2.symm] at hh2;rw [bh _ n1.symm];obtain ⟨v0,st,q0,q1,q2,q3⟩:=hJ h0 hh2;have ev:∀ l,l≠dst→(a.put (some dst) V).eval (.tmp l)=a.eval (.tmp l):=fun l h=>by simp [Act.put,Act.eval,Ne.symm h]
   exact ⟨v0,st,q0,q1,fun h=>by rw [ev _ (Ne.symm h1)];exact q2 h,fun h=>by rw [ev _ (Ne.symm h2)];exact q3 h⟩
theorem HT (hg:gd ops s o=some true) {tm:Nat} {x:Operand} {K E:TypeId} {e:TypeId} {sz:Nat} {es es':jx} {z:Value} (hop:o.op = .mapEntry c.t (.tmp tm) x) (hd:o.dst=some c.t1) (hn:c.t1<s.n) (hm:lk .any s.t tm = .amap c.k) {y:List UInt8} (hx:s.op x = .str y) (hy:y=c.y)
 (hk:lk .gone s.h c.k = .rmap e sz es) (hu:P.underlying c.t=some (.map K E)) (hK:P.underlying K=some .string) (hz:zeroOf P E=some z) (hl6:es.length<1000000) (hes:iA c.y es=es') (hc:c.ok cl=true) :
 sy P ops cl (J3 P c) c.i0 o s ⟨[(c.t1,.any)],[(c.k,.rmap e sz es')],[],[]⟩:=by
 subst hy;subst hes;intro s' b ha _ _ _ hbi hcl _ c' a w β κ r _ K2 Q hK2;obtain ⟨o1,o2,o3,o4,o5,o6⟩:=zr.ok_spec hc;have hmo:Operand.tmp tm∈o.op.operands:=by rw [hop];simp [Op.operands]
 have hm':s'.op (.tmp tm) = .amap c.k:=by rw [bg ha hmo];exact hm
 have hx':s'.op x = .str c.y:=by rw [bg ha (by rw [hop];simp [Op.operands])];exact hx
 have hk':lk .gone s'.h c.k = .rmap e sz es:=by rw [ha.h (by rw [hop];rfl) _ hmo c.k (by show AV.men c.k (lk .any s.t tm)=true;rw [hm];simp [AV.men])];exact hk
 have hM:=r.op (.tmp tm);have hX:=r.op x;rw [hm'] at hM;rw [hx'] at hX;obtain ⟨v0,st,w',r1,r2,rel⟩:=EO r hk' hu hK hz hl6 hX.str_len;rw [fM r (by rw [bO ha];exact hg)];simp only [if_true];unfold Oper.wp;have he:(execOp a.eval o).run P w = .ok (.value (.tuple #[v0,goInt st])) w':=by simp [execOp,hop,hM.amap_inv,hX.str_inv,r1,Result.andThen]
 rw [he];show K2 (a.put o.dst _) _;rw [hd];have hput:AS.put ⟨s'.n,s'.t,ins c.k (.rmap e sz (iA c.y es)) s'.h⟩ (some c.t1) .any=some ⟨s'.n,ins c.t1 .any s'.t,ins c.k (.rmap e sz (iA c.y es)) s'.h⟩:=by simp only [AS.put,show Nat.blt c.t1 s'.n=true by rw [ha.n];simpa [Nat.blt_eq] using hn,cond_true]
 refine hK2 _ _ _ β κ ⟨rfl,fun _=>rfl,fun _=>rfl⟩ (bu rel (V:=.tuple #[v0,goInt st]) (.d (.any _)) hput) fun h0 h2=>⟨v0,st,hX.str_len,r2,fun _ => ?_,fun h1 => ?_⟩
 ·have:c.t1<a.tmps.size:=by rw [r.sz,ha.n];exact hn
  simp [Act.put,Act.eval,this]
 ·rw [bh _ o4.symm] at h1;have:=hcl c.i1 c.i0 h1 o1;rw [hbi] at this;cases this
theorem Hp (hg:gd ops s o=some true) (hop:o.op = .extract (.tmp c.t1) 1) (hd:o.dst=some c.t2) (hn:c.t2<s.n) (hc:c.ok cl=true) :
 sy P ops cl (J3 P c) c.i1 o s ⟨[(c.t2,.any)],[],[],[]⟩:=by
 intro s' b ha _ _ _ hbi hcl hcl2 c' a w β κ r hJ K2 Q hK2;obtain ⟨o1,o2,o3,o4,o5,o6⟩:=zr.ok_spec hc;have hb2:b c.i2=false:=by
  cases h:b c.i2 with
  | false=>rfl
  | true=>rw [hcl c.i2 c.i1 h o3] at hbi;cases hbi
 obtain ⟨v0,st,q0,q1,q2,q3⟩:=hJ (hcl2 _ o1) hb2;rw [fM r (by rw [bO ha];exact hg)];simp only [if_true];unfold Oper.wp;have he:(execOp a.eval o).run P w = .ok (.value (goInt st)) w:=by simp [execOp,hop,q2 hbi,Instr.extract,Result.andThen]
 rw [he];show K2 (a.put o.dst _) _;rw [hd];have hput:AS.put s' (some c.t2) .any=some ⟨s'.n,ins c.t2 .any s'.t,s'.h⟩:=by simp only [AS.put,show Nat.blt c.t2 s'.n=true by rw [ha.n];simpa [Nat.blt_eq] using hn,cond_true]
 refine hK2 _ _ _ β κ ⟨rfl,fun _=>rfl,fun _=>rfl⟩ (bu r (V:=goInt st) (.d (.any _)) hput) fun h0 h2=>⟨v0,st,q0,q1,fun h1 => ?_,fun _ => ?_⟩
 ·rw [ak] at h1;cases h1
 ·have:c.t2<a.tmps.size:=by rw [r.sz,ha.n];exact hn
  simp [Act.put,Act.eval,this]
theorem HH (hg:gd ops s o=some true) {tm tv q:Nat} {K E:TypeId} {e:TypeId} {sz:Nat} {es es':jx} {zs:List (List AV)} {z:Value} (hop:o.op = .entryStore c.t (.tmp tm) (.tmp c.t2) (.tmp tv)) (hd:o.dst=none) (hm:lk .any s.t tm = .amap c.k) (hv:lk .any s.t tv = .rslice q)
 (hq:lk .gone s.h q = .row e sz zs) (hk:lk .gone s.h c.k = .rmap e sz es) (hu:P.underlying c.t=some (.map K E)) (hK:P.underlying K=some .string) (hz:zeroOf P E=some z) (hl6:es.length<1000000) (hes:eR c.y zs es=es') (hc:c.ok cl=true) :
 sy P ops cl (J3 P c) c.i2 o s ⟨[(tv,.any)],[(q,.gone),(c.k,.rmap e sz es')],[],[(q,tv)]⟩:=by
 subst hes;intro s' b ha _ hx hnr hbi hcl hcl2 c' a w β κ r hJ K2 Q hK2;obtain ⟨o1,o2,o3,o4,o5,o6⟩:=zr.ok_spec hc;obtain ⟨x1,x2⟩:=hx (q,tv) (by simp);obtain ⟨v0,st,q0,q1,q2,q3⟩:=hJ (hcl2 _ o2) hbi;have q3:=q3 (hcl2 _ o3);have hmo:Operand.tmp tm∈o.op.operands:=by rw [hop];simp [Op.operands]
 have hvo:Operand.tmp tv∈o.op.operands:=by rw [hop];simp [Op.operands]
 have hm':s'.op (.tmp tm) = .amap c.k:=by rw [bg ha hmo];exact hm
 have hv':s'.op (.tmp tv) = .rslice q:=by rw [bg ha hvo];exact hv
 have hk':lk .gone s'.h c.k = .rmap e sz es:=by rw [ha.h (by rw [hop];rfl) _ hmo c.k (by show AV.men c.k (lk .any s.t tm)=true;rw [hm];simp [AV.men])];exact hk
 have hq':lk .gone s'.h q = .row e sz zs:=by rw [ha.h (by rw [hop];rfl) _ hvo q (by show AV.men q (lk .any s.t tv)=true;rw [hv];simp [AV.men])];exact hq
 have hM:=r.op (.tmp tm);have hV:=r.op (.tmp tv);rw [hm'] at hM;rw [hv'] at hV;obtain ⟨j,ents',clock',g1,_,⟨ob,g3⟩,v1,st1,ents1,clock1,g4,g5⟩:=qn r hq' hk' hnr hu hK hz hl6 q0 hV;rw [q1] at g4;simp only [Result.ok.injEq,Value.tuple.injEq] at g4;obtain ⟨g6,g7⟩:=g4;have hst:goInt st=goInt st1:=by have:=congrArg (fun x:Array Value=>x.getD 1 undef) g6;simpa using this
 have hblk:w.heap[β c.k]? = some (.map ents1 clock1):=by have h8:=congrArg World.heap g7;have:({ w with heap:=w.heap.setIfInBounds (β c.k) (.map ents1 clock1) }:World).heap[β c.k]? = some (.map ents1 clock1):=(MapKept.heap_set g3).1;rw [← h8] at this;exact this
 have g8:=g5 w hblk;rw [fM r (by rw [bO ha];exact hg)];simp only [if_true];unfold Oper.wp;have he:(execOp a.eval o).run P w = .ok .skip { w with heap:=w.heap.setIfInBounds (β c.k) (.map ents' clock') }:=by simp [execOp,hop,hM.amap_inv,q3,hst,g8,Result.andThen]
 rw [he];show K2 (a.put o.dst _) _;rw [hd];have rel:=g1 { w with heap:=w.heap.setIfInBounds (β c.k) (.map ents' clock') } (fun i hi=>(MapKept.heap_set g3).2 i hi) (sM w _ _) (MapKept.heap_set g3).1;refine hK2 (s'.stow c.k q e sz (eR c.y zs es)) _ _ _ _ ⟨rfl,fun i => ?_,fun n => ?_⟩ rel fun _ h2 => ?_
 ·show lk .any (gq q s'.t) i=lk .any (jY [(tv,.any)] s'.t) i;rw [cq,cT];simp only [gz];by_cases e1:i=tv
  ·subst e1;have hv2:lk .any s'.t i = .rslice q:=hv';simp [hv2,AV.pg,AV.men]
  ·rw [bN e1,AV.pg_free (x1 i e1)];rfl
 ·show lk .gone (rm q (dm q (ins c.k (.rmap e sz (eR c.y zs es)) s'.h))) n=lk .gone (jY [(q,.gone),(c.k,.rmap e sz (eR c.y zs es))] s'.h) n;rw [cT,ja,cu,aD];simp only [gz];by_cases e1:n=q
  ·subst e1;simp
  ·rw [if_neg e1,bN e1];simp only [cond_false];by_cases e2:n=c.k
   ·subst e2;simp [AO.pg]
   ·rw [if_neg e2,bN e2,AO.pg_free (x2 n)];rfl
 ·rw [ak] at h2;cases h2
end
section
variable {P:Program} {ops:Array Oper} {o:Oper} {s:AS}
def HI:List AV→Option (List Value)
 | []=>some []
 | .int k n::l=>match HI l with | some vs=>some (.int k n::vs) | none=>none
 | _::_=>none
theorem Bp {w:World} {X:Nat→Prop} {β:Nat→Nat} {κ:Nat→Nat×Nat}:∀ {l:List AV} {us vs:List Value},HI l=some us→vs.length=l.length→(∀ i,i<l.length→G w X β κ (l.getD i .any) (vs.getD i undef))→vs=us
 | [],us,vs,h,hl,_=>by cases h;exact List.eq_nil_of_length_eq_zero hl
 | v::l,us,[],h,hl,_=>by simp at hl
 | v::l,us,u::vs,h,hl,hg=>by
  cases v with
  | int k n =>
   simp only [HI] at h;split at h
   ·rename_i us' hu;cases h;have h0:G w X β κ (.int k n) u:=by simpa using hg 0 (by simp)
    have h1:=Bp (w:=w) (X:=X) (β:=β) (κ:=κ) (vs:=vs) hu (by simpa using hl) fun i hi=>by simpa using hg (i+1) (by simpa using hi)
    rw [h0.int_inv,h1]
   ·cases h
  | _=>cases h
theorem IK {w:World} {X:Nat→Prop}:∀ {l:List AV} {us:List Value},HI l=some us→us.length=l.length∧∀ i,i<l.length→D w X (l.getD i .any) (us.getD i undef)
 | [],us,h=>by cases h;exact ⟨rfl,fun i hi=>by simp at hi⟩
 | v::l,us,h=>by
  cases v with
  | int k n =>
   simp only [HI] at h;split at h
   ·rename_i us' hu;cases h;obtain ⟨h1,h2⟩:=IK (w:=w) (X:=X) hu;refine ⟨by simp [h1],fun i hi => ?_⟩;cases i with
    | zero=>exact .int k n
    | succ i=>simpa using h2 i (by simpa using hi)
   ·cases h
  | _=>cases h
def GK (P:Program) (s:AS) (op:Op) (v:AV):Option (List Prop) :=
 match op with
 | .call ⟨.value x,ar,_⟩=>match s.op x,v with
  | .fn f [],.tup cs=>match HI (s.args ar []),HI cs with
   | some vs,some us=>some [∀ w:World,(callFunc f vs.toArray).run P w = .ok (.value (.tuple us.toArray)) w]
   | _,_=>none
  | _,_=>none
 | _=>none
theorem Jc {x:Operand} {ar:Array Operand} {tys:Array TypeId} {f:FuncId} {cs:List AV} {vs us:List Value} (hg:gd ops s o=some true) (hop:o.op = .call ⟨.value x,ar,tys⟩) (hx:s.op x = .fn f []) (h1:HI (s.args ar [])=some vs) (h2:HI cs=some us)
 (hc:∀ w:World,(callFunc f vs.toArray).run P w = .ok (.value (.tuple us.toArray)) w) {s1:AS} (h:s.put o.dst (.tup cs)=some s1):Loc P ops o s (.put o.dst (.tup cs)) :=
 kh rfl h fun s' ha s2 h2'=>by
  have hxx:s'.op x=s.op x:=bg ha (by simp [hop,Op.operands,Call.operands]);have har:∀ y∈ar,s'.op y=s.op y:=fun y hy=>bg ha (by simp [hop,Op.operands,Call.operands,hy]);have e1:s'.args ar []=s.args ar []:=by unfold AS.args;rw [List.map_congr_left (fun y hy=>har y (by simpa using hy))]
  refine b6 (by rw [bO ha];exact hg) fun c a w β κ r => ?_;have hX:=r.op x;rw [hxx,hx] at hX;obtain ⟨Vs,eV,hl,hgs⟩:=hX.fn_inv;obtain ⟨a1,a2⟩:=mF r ar hl hgs;rw [e1] at a1 a2;have hvs:=Bp h1 (vs:=(ar.map a.eval++Vs).toList) (by simpa using a1) a2;have hrun:(execOp a.eval o).run P w = .ok (.value (.tuple us.toArray)) w:=by simp only [execOp,hop,resolve,eV,Deferred.ofValue,pure_bind,invoke,Array.empty_append];rw [show ar.map a.eval++Vs=vs.toArray by rw [← hvs]];exact hc w
  obtain ⟨d1,d2⟩:=IK (w:=w) (X:=c.XX s'.h β) h2;exact ⟨_,w,β,κ,.inl hrun,bu r (.d (.tup cs us.toArray (by simp [d1]) fun i hi=>by have:=d2 i hi;simpa [KH,KK] using this)) h2'⟩
end
abbrev ui:=List (Option (List (List AV)))
section
variable {P:Program} {ops:Array Oper} {o:Oper} {s:AS} {c:Cx P} {a:Act} {w:World} {β:Nat→Nat} {κ:Nat→Nat×Nat}
theorem B8 (es:ui) (j:Nat) (v:Option (List (List AV))) (i:Nat) (hj:j<es.length):(es.set j v).getD i none=if i=j then v else es.getD i none:=by
 simp only [KH,List.getElem?_set];by_cases e:j=i
 ·subst e;simp [hj]
 ·rw [if_neg e,if_neg (fun h=>e h.symm)]
theorem Rel.weakR (r:Rel c s a w β κ) {k j:Nat} {eo e:TypeId} {sz:Nat} {es:ui} (hk:lk .gone s.h k = .rrow eo e sz es) (hj:j<es.length) :
 Rel c ⟨s.n,s.t,ins k (.rrow eo e sz (es.set j none)) s.h⟩ a w β κ∧(∀ n,lv (ins k (.rrow eo e sz (es.set j none)) s.h) n→lv s.h n)∧(∀ n,lv (ins k (.rrow eo e sz (es.set j none)) s.h) n→n≠gk k j) ∧
 ∀ X':Nat→Prop,(∀ b,¬ c.XX s.h β b→b<w.heap.size→¬ X' b)→∀ n,HO w X' β κ n (lk .gone (ins k (.rrow eo e sz (es.set j none)) s.h) n):=by
 have hne:es≠[]:=by intro e1;subst e1;simp at hj
 have hlive:(lk .gone s.h k).live:=by rw [hk];exact hne
 have ho:=r.hp.ob k;rw [hk] at ho;obtain ⟨o1,o2,o3⟩:=ho;have hj6:j<1000000:=by omega
 have hinn:∀ i,(AO.rrow eo e sz (es.set j none)).inn i→(AO.rrow eo e sz es).inn i∧i≠j:=by
  rintro i ⟨h1,h2,y,ys,h3⟩;rw [B8 es j none i hj] at h3;by_cases e1:i=j
  ·rw [if_pos e1] at h3;cases h3
  ·rw [if_neg e1] at h3;exact ⟨⟨h1,by simpa using h2,y,ys,h3⟩,e1⟩
 have hlv:∀ n,lv (ins k (.rrow eo e sz (es.set j none)) s.h) n→lv s.h n:=by
  rintro n (h | ⟨m,i,rfl,h⟩)
  ·rw [aD] at h;by_cases ej:n=k
   ·rw [ej];exact .inl hlive
   ·rw [if_neg ej] at h;exact .inl h
  ·rw [aD] at h;by_cases ej:m=k
   ·rw [if_pos ej] at h;refine bo ?_;rw [ej,hk];exact (hinn i h).1
   ·rw [if_neg ej] at h;exact bo h
 have hX:∀ b,¬ c.XX s.h β b→b<w.heap.size→¬ c.XX (ins k (.rrow eo e sz (es.set j none)) s.h) β b:=by
  rintro b hb _ (h | ⟨n,h1,h2⟩)
  ·exact hb (.inl h)
  ·exact hb (.inr ⟨n,hlv n h1,h2⟩)
 have hHO:∀ X':Nat→Prop,(∀ b,¬ c.XX s.h β b→b<w.heap.size→¬ X' b)→∀ n,HO w X' β κ n (lk .gone (ins k (.rrow eo e sz (es.set j none)) s.h) n):=by
  intro X' hX n;rw [aD];by_cases ej:n=k
  ·rw [if_pos ej,ej];refine ⟨by rw [o1];simp,by simpa using o2,fun _ => ?_⟩;obtain ⟨cur,h1,h2,h3,h4,h5⟩:=o3 hne;refine ⟨cur,h1,h2,by simpa using h3,h4,fun i hi => ?_⟩;have a3:=h5 i (by simpa using hi);rw [B8 es j none i hj];by_cases e1:i=j
   ·rw [if_pos e1];trivial
   ·rw [if_neg e1];generalize es.getD i none=o at a3 ⊢;match o,a3 with
    | none,_=>trivial
    | some [],h5=>exact h5
    | some (x::xs),h5=>exact ⟨h5.1,h5.2.1,h5.2.2.mono (fun _ _ _=>rfl) hX rfl⟩
  ·rw [if_neg ej];exact (r.hp.ob n).mono (fun _ _ _=>rfl) hX (fun _ _=>.refl) .refl (fun _=>rfl) (fun _ _=>rfl)
 refine ⟨⟨r.df,r.sz,fun i=>(r.tm i).mono (fun _ _ _=>rfl) hX (fun _ _=>.refl),⟨hHO _ hX,fun i j hi hj e=>r.hp.inj i j (hlv i hi) (hlv j hj) e,r.hp.kp,fun j hj=>r.hp.nk j (hlv j hj),fun j hj=>r.hp.nx j (hlv j hj),r.hp.fix,fun n hn => ?_⟩⟩,hlv,fun n hn => ?_,hHO⟩
 ·have hn:lk .gone (ins k (.rrow eo e sz (es.set j none)) s.h) n ≠ .gone:=hn;rw [aD] at hn;by_cases ej:n=k
  ·rw [ej];exact r.hp.sm k hlive
  ·rw [if_neg ej] at hn;exact r.hp.sg n hn
 ·rintro rfl;rcases hn with h | ⟨m,i,e1,h⟩
  ·rw [aD] at h;by_cases ej:gk k j=k
   ·have:=cD k j;have:=r.hp.sm k hlive;omega
   ·rw [if_neg ej] at h;have:=r.hp.sm _ h;have:=cD k j;omega
  ·rw [aD] at h;by_cases ej:m=k
   ·rw [if_pos ej] at h;have hi:=(AO.inn_isR h).1;obtain ⟨_,rfl⟩:=dH hj6 hi e1;exact (hinn j h).2 rfl
   ·rw [if_neg ej] at h;exact ej (dH hj6 (AO.inn_isR h).1 e1).1.symm
def AS.takeR (s:AS) (k q:Nat) (eo e:TypeId) (sz:Nat) (zs:List (List AV)) (es':ui):AS :=
 ⟨s.n,ins q (.rslice q) (gq q s.t),ins q (.row e sz zs) (dm q (ins k (.rrow eo e sz es') s.h))⟩
theorem Rel.takeR_in (r:Rel c s a w β κ) {k q j:Nat} {eo e:TypeId} {sz:Nat} {es:ui} {zs:List (List AV)} {V:Value} (hq:q<s.n∧q<1000) (hk:lk .gone s.h k = .rrow eo e sz es) (hjl:j<es.length) (hj:es.getD j none=some zs) (hz:zs≠[])
 (hV:zF w (c.XX s.h β) (β (gk k j)) (κ (gk k j)) e sz V (some zs)):∃ β' κ',Rel c (s.takeR k q eo e sz zs (es.set j none)) (a.put (some q) V) w β' κ':=by
 obtain ⟨y,ys,rfl⟩:∃ y ys,zs=y::ys:=by cases zs with | nil=>exact absurd rfl hz | cons y ys=>exact ⟨y,ys,rfl⟩
 obtain ⟨v1,v2,v3⟩:=hV;have hj6:j<1000000:=by have ho:=r.hp.ob k;rw [hk] at ho;have:=ho.2.1;omega
 have hinn:(lk .gone s.h k).inn j:=by rw [hk];exact ⟨hj6,hjl,y,ys,hj⟩
 obtain ⟨r1,w1,w2,w3⟩:=r.weakR hk hjl;have r2:=r1.pg q;have hlvp:∀ n,lv (dm q (ins k (.rrow eo e sz (es.set j none)) s.h)) n→lv (ins k (.rrow eo e sz (es.set j none)) s.h) n:=fun n h=>by rw [kC] at h;exact h
 have hXb:c.XX s.h β (β (gk k j)):=.inr ⟨_,bo hinn,rfl⟩;have hsub:∀ b,¬ c.XX s.h β b→b<w.heap.size→¬ (c.XX (dm q (ins k (.rrow eo e sz (es.set j none)) s.h)) β b∨b=β (gk k j)):=by
  rintro b hb _ ((h | ⟨n,h1,h2⟩) | rfl)
  ·exact hb (.inl h)
  ·exact hb (.inr ⟨n,w1 n (hlvp n h1),h2⟩)
  ·exact hb hXb
 have hXs:∀ b,¬ c.XX s.h β b→b<w.heap.size→¬ c.XX (ins q (.row e sz (y::ys)) (dm q (ins k (.rrow eo e sz (es.set j none)) s.h))) (upd β q (β (gk k j))) b:=by
  rintro b hb _ (h | ⟨n,h1,h2⟩)
  ·exact hb (.inl h)
  ·rcases ed (o:=.row e sz (y::ys)) (by omega) (fun _ h=>h) h1 with ⟨e1,_⟩ | ⟨e1,h1⟩
   ·subst e1;rw [ak] at h2;exact hb (h2 ▸ hXb)
   ·rw [bh β e1] at h2;exact hb (.inr ⟨n,w1 n (hlvp n h1),h2⟩)
 obtain ⟨g1,g2⟩:=r2.hp.rebind (w':=w) (k':=q) (b:=β (gk k j)) hq.2 (fun j _=>by rw [cu];exact AO.men_pg q _) (κ (gk k j)) (ob:=.row e sz (y::ys))
  (r.hp.nx _ (bo hinn)) (r.hp.nk _ (bo hinn)) (fun n hn e1=>w2 n (hlvp n hn) (r.hp.inj n _ (w1 n (hlvp n hn)) (bo hinn) e1)) (fun _ _=>rfl) (cE.refl _ _)
  ⟨by rw [ak];exact v1,fun _=>by obtain ⟨cur,h1,h2,h3,h4,h0,h5,h6⟩:=v3;exact ⟨cur,by rw [ak];exact h1,by rw [ak];exact h2,by rw [ak];exact h3,by rw [ak];exact h4,h0,h5,fun i l hi hl=>(h6 i l hi hl).mono (fun _ _ _=>rfl) hXs⟩⟩
  (fun n=>by rw [cu];exact (w3 _ hsub n).pg)
 refine ⟨_,_,r.df,by simp [Act.put,r.sz,AS.takeR],fun i => ?_,g1⟩;show G w (c.XX (ins q (.row e sz (y::ys)) (dm q (ins k (.rrow eo e sz (es.set j none)) s.h))) (upd β q (β (gk k j)))) (upd β q (β (gk k j))) (upd κ q (κ (gk k j))) (lk .any (ins q (.rslice q) (gq q s.t)) i) _;rw [aD];by_cases hi:i=q
 ·subst hi;have hi':i<a.tmps.size:=by rw [r.sz];exact hq.1
  have:=G.rslice (w:=w) (X:=c.XX (ins i (.row e sz (y::ys)) (dm i (ins k (.rrow eo e sz (es.set j none)) s.h))) (upd β i (β (gk k j)))) (β:=upd β i (β (gk k j))) (κ:=upd κ i (κ (gk k j))) i (by rw [ak,v1];simp);rw [ak,ak,← v2] at this;simpa [Act.put,KK,Array.getElem?_setIfInBounds,hi'] using this
 ·rw [if_neg hi];have g0:G w (fun b=>c.XX (dm q (ins k (.rrow eo e sz (es.set j none)) s.h)) β b∨b=β (gk k j)) β κ (lk .any (gq q s.t) i) (a.tmps.getD i undef):=by rw [cq];exact ((r.tm i).pg q).mono (fun _ _ _=>rfl) hsub (fun _ _=>.refl)
  have:=g2 g0 (by rw [cq];exact AV.men_pg q _);have hne:¬ q=i:=fun e=>hi e.symm;simpa [Act.put,KK,Array.getElem?_setIfInBounds,hne] using this
theorem Rel.takeR_empty (r:Rel c s a w β κ) {k q j:Nat} {eo e:TypeId} {sz:Nat} {es:ui} {ad:Option Addr} (hq:q<s.n∧q<1000) (hk:lk .gone s.h k = .rrow eo e sz es) (hjl:j<es.length):∃ κ',Rel c (s.takeR k q eo e sz [] (es.set j none)) (a.put (some q) (.slice ad 0 0)) w β κ':=by
 obtain ⟨r1,_⟩:=r.weakR hk hjl;have hput:AS.put ⟨s.n,s.t,ins k (.rrow eo e sz (es.set j none)) s.h⟩ (some q) .eslice=some ⟨s.n,ins q .eslice s.t,ins k (.rrow eo e sz (es.set j none)) s.h⟩:=by simp only [AS.put,show Nat.blt q s.n=true by simpa [Nat.blt_eq] using hq.1,cond_true]
 have r2:=bu r1 (v:=.eslice) (V:=.slice ad 0 0) (.d (.eslice ad)) hput;have her:AS.erow ⟨s.n,ins q .eslice s.t,ins k (.rrow eo e sz (es.set j none)) s.h⟩ q q e sz=some ⟨s.n,ins q (.rslice q) (gq q (ins q .eslice s.t)),ins q (.row e sz []) (dm q (ins k (.rrow eo e sz (es.set j none)) s.h))⟩:=by
  have h0:lk .any (ins q .eslice s.t) q = .eslice:=by rw [aD,if_pos rfl]
  simp only [AS.erow,h0,show Nat.blt q 1000=true by simpa [Nat.blt_eq] using hq.2,cond_true]
 obtain ⟨κ',r3⟩:=r2.erow her;refine ⟨κ',r3.same ⟨rfl,fun i => ?_,fun _=>rfl⟩⟩;show lk .any (ins q (.rslice q) (gq q s.t)) i=lk .any (ins q (.rslice q) (gq q (ins q .eslice s.t))) i;rw [aD,aD,cq,cq,aD];by_cases h:i=q
 ·rw [if_pos h,if_pos h]
 ·rw [if_neg h,if_neg h,if_neg h]
end
section
variable {P:Program} {ops:Array Oper} {o:Oper} {s:AS} {c:Cx P} {a:Act} {w:World} {β:Nat→Nat} {κ:Nat→Nat×Nat}
def AS.stowR (s:AS) (k q:Nat) (eo e:TypeId) (sz:Nat) (es':ui):AS:=⟨s.n,gq q s.t,rm q (dm q (ins k (.rrow eo e sz es') s.h))⟩
theorem Rel.stowR (r:Rel c s a w β κ) {k q j:Nat} {eo e:TypeId} {sz:Nat} {es:ui} {zs:List (List AV)} {V:Value} (hq:lk .gone s.h q = .row e sz zs) (hk:lk .gone s.h k = .rrow eo e sz es) (hnoR:s.noR=true) (hjl:j<es.length) {w':World}
 {cur new:Array Value} (hw:∀ i,i≠β k→w'.heap[i]? = w.heap[i]?) (hkp:cE (fun i=>i≠β k) w w') (h1:w.heap[β k]? = some (.cells cur eo (0,0))) (hm:w'.heap[β k]? = some (.cells new eo (0,0)))
 (hs:new.size=cur.size) (hnew:∀ i,new.getD i undef=if i=j then V else cur.getD i undef) (hV:G w (c.XX s.h β) β κ (.rslice q) V) :
 Rel c (s.stowR k q eo e sz (es.set j (some zs))) a w' (upd β (gk k j) (β q)) (upd κ (gk k j) (κ q)):=by
 have hne:es≠[]:=by intro e1;subst e1;simp at hjl
 have hlk:(lk .gone s.h k).live:=by rw [hk];exact hne
 have hok:=r.hp.ob k;rw [hk] at hok;obtain ⟨o1,o2,o3⟩:=hok;obtain ⟨cur',p1,p2,p3,p4,p5⟩:=o3 hne;rw [h1] at p1;simp only [KR,Obj.cells.injEq] at p1;obtain ⟨rfl,_⟩:=p1;have hj6:j<1000000:=by omega
 have hk6:=r.hp.sm k hlk;have hq6:q<1000000:=r.hp.sg q (by rw [hq];exact fun h=>by cases h);have hkq:k≠q:=fun e1=>by rw [e1,hq] at hk;cases hk
 have hgne:∀ n,n<1000000→n≠gk k j:=fun n hn e1=>by have:=cD k j;omega
 have b2:∀ n,n≠gk k j→upd β (gk k j) (β q) n=β n∧upd κ (gk k j) (κ q) n=κ n:=fun n h=>⟨bh β h,bh κ h⟩;have hat:=fun i=>B8 es j (some zs) i hjl;have hlk2:∀ n,lk .gone (s.stowR k q eo e sz (es.set j (some zs))).h n=if n=q then .gone else if n=k then .rrow eo e sz (es.set j (some zs)) else AO.pg q (lk .gone s.h n):=fun n=>by
  show lk .gone (rm q (dm q (ins k (.rrow eo e sz (es.set j (some zs))) s.h))) n=_;rw [ja,cu,aD];by_cases h1:n=q
  ·rw [if_pos h1,if_pos h1]
  ·rw [if_neg h1,if_neg h1];by_cases h2:n=k
   ·rw [if_pos h2,if_pos h2];rfl
   ·rw [if_neg h2,if_neg h2]
 have hlv:∀ n,lv (s.stowR k q eo e sz (es.set j (some zs))).h n→(n=gk k j∧zs≠[])∨(lv s.h n∧n≠q∧n≠gk k j):=by
  rintro n (h | ⟨m,i,rfl,h⟩)
  ·rw [hlk2] at h;by_cases h1:n=q
   ·rw [if_pos h1] at h;exact h.elim
   ·rw [if_neg h1] at h;by_cases h2:n=k
    ·exact .inr ⟨by rw [h2];exact .inl hlk,h1,hgne n (by omega)⟩
    ·rw [if_neg h2,AO.live_pg] at h;exact .inr ⟨.inl h,h1,hgne n (r.hp.sm n h)⟩
  ·rw [hlk2] at h;have hne:gk m i≠q:=by have:=cD m i;omega
   by_cases h1:m=q
   ·rw [if_pos h1] at h;exact h.elim
   ·rw [if_neg h1] at h;by_cases h2:m=k
    ·rw [if_pos h2] at h;obtain ⟨g1,g2,z,zs',g3⟩:=h;rw [hat] at g3;by_cases h3:i=j
     ·refine .inl ⟨by rw [h2,h3],?_⟩;rw [if_pos h3] at g3;intro e1;rw [e1] at g3;cases g3
     ·rw [if_neg h3] at g3;refine .inr ⟨bo ?_,hne,fun e1=>h3 (dH g1 hj6 e1).2⟩;rw [h2,hk];exact ⟨g1,by simpa using g2,z,zs',g3⟩
    ·rw [if_neg h2,AO.inn_pg] at h;exact .inr ⟨bo h,hne,fun e1=>h2 (dH (AO.inn_isR h).1 hj6 e1).1⟩
 have hqlive:zs≠[]→(lk .gone s.h q).live:=fun h=>by rw [hq];exact h
 have hX:∀ b,¬ c.XX s.h β b→b<w.heap.size→¬ c.XX (s.stowR k q eo e sz (es.set j (some zs))).h (upd β (gk k j) (β q)) b:=by
  rintro b hb _ (h | ⟨n,h1,h2⟩)
  ·exact hb (.inl h)
  ·rcases hlv n h1 with ⟨e1,hz⟩ | ⟨h3,_,h4⟩
   ·rw [e1,ak] at h2;exact hb (.inr ⟨q,.inl (hqlive hz),h2⟩)
   ·rw [(b2 n h4).1] at h2;exact hb (.inr ⟨n,h3,h2⟩)
 have hw2:∀ b,¬ c.XX s.h β b→b<w.heap.size→w'.heap[b]? = w.heap[b]? := fun b hb _=>hw b (fun e1=>hb (.inr ⟨k,.inl hlk,e1.symm⟩));have hmn:∀ {v:AV},AV.hasR v=false→∀ n,AV.men n v=true→upd β (gk k j) (β q) n=β n∧upd κ (gk k j) (κ q) n=κ n:=fun {v} hr n hn=>b2 n (hgne n (men_lt hr hn));refine ⟨r.df,r.sz,fun i => ?_,⟨fun n => ?_,fun n n' hn hn' e1 => ?_,r.hp.kp.trans hkp (fun b hb e1=>r.hp.nk k (.inl hlk) (e1 ▸ hb)),fun n hn => ?_,fun n hn => ?_,fun n hn hn6 => ?_,fun n hn => ?_⟩⟩
 ·show G w' (c.XX (s.stowR k q eo e sz (es.set j (some zs))).h (upd β (gk k j) (β q))) (upd β (gk k j) (β q)) (upd κ (gk k j) (κ q)) (lk .any (gq q s.t) i) _;rw [cq];have hR:=AV.hasR_pg (k:=q) (AS.noR_t hnoR i);exact ((r.tm i).pg q).mono2 hw2 hX hR (hmn hR)
 ·show HO w' (c.XX (s.stowR k q eo e sz (es.set j (some zs))).h (upd β (gk k j) (β q))) (upd β (gk k j) (β q)) (upd κ (gk k j) (κ q)) n (lk .gone (s.stowR k q eo e sz (es.set j (some zs))).h n);rw [hlk2];by_cases h1:n=q
  ·rw [if_pos h1];trivial
  ·rw [if_neg h1];by_cases h2:n=k
   ·rw [if_pos h2,h2];refine ⟨by rw [(b2 k (hgne k hk6)).2,o1];simp,by simpa using o2,fun _=>⟨new,by rw [(b2 k (hgne k hk6)).1];exact hm,by rw [(b2 k (hgne k hk6)).2,hs];exact p2,by rw [(b2 k (hgne k hk6)).2];simpa using p3,by rw [(b2 k (hgne k hk6)).2];exact p4,fun i hi => ?_⟩⟩;have hi:i<es.length:=by simpa using hi
    rw [hat,hnew];by_cases h3:i=j
    ·subst h3;rw [if_pos rfl,if_pos rfl,ak,ak];have ho:=r.hp.ob q;rw [hq] at ho;cases zs with
     | nil =>
      rcases hV.rslice_inv with ⟨h0,_⟩ | ⟨h0,ad,e2⟩
      ·rw [ho.1] at h0;simp at h0
      ·exact ⟨h0,ad,e2⟩
     | cons z zs =>
      rcases hV.rslice_inv with ⟨h0,e2⟩ | ⟨h0,_⟩
      ·obtain ⟨cur,q1,q2,q3,q4,q5,q6,q7⟩:=ho.2 (by simp);have hb:w'.heap[β q]? = w.heap[β q]? := hw _ fun e3=>hkq (r.hp.inj k q (.inl hlk) (.inl (hqlive (by simp))) e3.symm);exact ⟨ho.1,e2,xD.mono hw2 hX ⟨cur,q1,q2,q3,q4,q5,q6,q7⟩ hb⟩
      ·rw [ho.1] at h0;simp at h0
    ·rw [if_neg h3,if_neg h3];have hne:gk k i≠gk k j:=fun e3=>h3 (dH (by omega) hj6 e3).2;rw [(b2 _ hne).1,(b2 _ hne).2];have a5:=p5 i hi;have hin:∀ z zs',es.getD i none=some (z::zs')→(lk .gone s.h k).inn i:=fun z zs' h=>by rw [hk];exact ⟨by omega,hi,z,zs',h⟩
     generalize es.getD i none=o at a5 hin ⊢;match o,a5,hin with
     | none,_,_=>trivial
     | some [],a5,_=>exact a5
     | some (z::zs'),a5,hin=>exact ⟨a5.1,a5.2.1,a5.2.2.mono hw2 hX (hw _ (r.hp.vne hlk (hin z zs' rfl)))⟩
   ·rw [if_neg h2];have hR:=AO.hasR_pg (k:=q) (AS.noR_h hnoR n);by_cases hg0:lk .gone s.h n = .gone
    ·rw [hg0];trivial
    ·have hn6:=r.hp.sg n hg0;refine ((r.hp.ob n).pg (j:=q)).mono2 hw2 hX hR (fun l hl=>b2 l (hgne l (AO.men_lt hR hl))) ⟨(b2 n (hgne n hn6)).1,(b2 n (hgne n hn6)).2,fun i hi=>b2 _ (fun e3=>h2 (dH hi hj6 e3).1)⟩ (fun hl => ?_) (fun i hl => ?_)
     ·rw [AO.live_pg] at hl;exact hw _ fun e3=>h2 (r.hp.inj n k (.inl hl) (.inl hlk) e3)
     ·rw [AO.inn_pg] at hl;exact hw _ (r.hp.vne hlk hl)
 ·rcases hlv n hn with ⟨e2,hz⟩ | ⟨h3,h4,h5⟩<;>rcases hlv n' hn' with ⟨e3,hz'⟩ | ⟨h6,h7,h8⟩
  ·rw [e2,e3]
  ·rw [e2,ak,(b2 n' h8).1] at e1;exact absurd (r.hp.inj q n' (.inl (hqlive hz)) h6 e1).symm h7
  ·rw [e3,ak,(b2 n h5).1] at e1;exact absurd (r.hp.inj n q h3 (.inl (hqlive hz')) e1) h4
  ·rw [(b2 n h5).1,(b2 n' h8).1] at e1;exact r.hp.inj n n' h3 h6 e1
 ·rcases hlv n hn with ⟨e2,hz⟩ | ⟨h3,_,h5⟩
  ·rw [e2,ak];exact r.hp.nk q (.inl (hqlive hz))
  ·rw [(b2 n h5).1];exact r.hp.nk n h3
 ·rcases hlv n hn with ⟨e2,hz⟩ | ⟨h3,_,h5⟩
  ·rw [e2,ak];exact r.hp.nx q (.inl (hqlive hz))
  ·rw [(b2 n h5).1];exact r.hp.nx n h3
 ·rw [(b2 n (hgne n hn6)).1,(b2 n (hgne n hn6)).2];exact r.hp.fix n hn hn6
 ·have hn:lk .gone (s.stowR k q eo e sz (es.set j (some zs))).h n ≠ .gone:=hn;rw [hlk2] at hn;by_cases h1:n=q
  ·rw [if_pos h1] at hn;exact absurd rfl hn
  ·rw [if_neg h1] at hn;by_cases h2:n=k
   ·rw [h2];exact hk6
   ·rw [if_neg h2] at hn;exact r.hp.sg n (fun e3=>hn (by rw [e3];rfl))
theorem CQ (r:Rel c s a w β κ) {t:TypeId} {k q j:Nat} {eo e:TypeId} {sz:Nat} {es:ui} {zs:List (List AV)} {X Y:Value} (hx:G w (c.XX s.h β) β κ (.hptr k j) X) (hy:G w (c.XX s.h β) β κ (.rslice q) Y)
 (hsz:kQ P t=some 1) (hq:lk .gone s.h q = .row e sz zs) (hk:lk .gone s.h k = .rrow eo e sz es) (hnoR:s.noR=true) (hjl:j<es.length) :
 ∃ w',(Instr.storeAt t X Y).run P w = .ok () w'∧Rel c (s.stowR k q eo e sz (es.set j (some zs))) a w' (upd β (gk k j) (β q)) (upd κ (gk k j) (κ q)):=by
 have hne:es≠[]:=by intro e1;subst e1;simp at hjl
 have hok:=r.hp.ob k;rw [hk] at hok;obtain ⟨o1,o2,o3⟩:=hok;obtain ⟨cur,p1,p2,p3,p4,p5⟩:=o3 hne;have hYc:Y.cells = #[Y]∧Y.oneCell'=true:=by rcases hy.rslice_inv with ⟨_,e1⟩ | ⟨_,ad,e1⟩<;>rw [e1]<;>exact ⟨rfl,rfl⟩
 have hend:j+1≤cur.size:=by rw [p2];omega
 have hst:=run_storeCells_at P (β k) j eo [Y] 0 cur w p1 (by simp;omega) (fun v hv=>by simp only [List.mem_singleton] at hv;rw [hv];exact hYc.2);simp only [Nat.add_zero,List.length_singleton] at hst;let new:Array Value:=(cur.toList.take j++[Y]++cur.toList.drop (j+1)).toArray
 have hnewsz:new.size=cur.size:=by simp [new];omega
 have hnew:∀ i,new.getD i undef=if i=j then Y else cur.getD i undef:=by
  intro i;have hN:new.getD i undef=(cur.toList.take j++[Y]++cur.toList.drop (j+1)).getD i undef:=by simp [new,KK,KH]
  have hl1:(cur.toList.take j).length=j:=by simp;omega
  rw [hN];by_cases h4:i<j
  ·rw [if_neg (by omega),List.append_assoc,bJ (by omega),getD_take _ _ _ _ h4];simp [KK,KH]
  ·by_cases h5:i=j
   ·rw [if_pos h5,List.append_assoc,be (by omega),hl1,h5,Nat.sub_self];rfl
   ·rw [if_neg h5,be (by simp;omega),dK];have:j+1+(i-(cur.toList.take j++[Y]).length)=i:=by simp;omega
    rw [this];simp [KK,KH]
 refine ⟨w.setRow (β k) new,?_,?_⟩
 ·rw [hx.hptr_inv];simp only [Instr.storeAt,Instr.sureAddr,pure_bind,storeVar,Sem.run_bind,run_sizeOf hsz,Result.andThen];rw [hYc.1];rw [if_neg (by simp)];exact hst
 ·exact r.stowR hq hk hnoR hjl (fun i hi=>bl _ _ _ hi) ⟨rfl,rfl,rfl,by simp [World.setRow],fun b hb=>bl _ _ _ hb⟩ p1 (eF w _ cur eo new p1) hnewsz hnew hy
theorem IX {t:TypeId} {x y:Operand} {k q j:Nat} {eo e:TypeId} {sz:Nat} {es:ui} {zs:List (List AV)} (hg:gd ops s o=some true) (hop:o.op = .store t x y) (hd:o.dst=none) (hx:s.op x = .hptr k j) (hy:s.op y = .rslice q)
 (hsz:kQ P t=some 1) (hq:lk .gone s.h q = .row e sz zs) (hk:lk .gone s.h k = .rrow eo e sz es) (hnoR:s.noR=true) (hjl:j<es.length):iP P ops o s (· = s.stowR k q eo e sz (es.set j (some zs))) :=
 b6 hg fun c a w β κ r=>by obtain ⟨w',hr,r'⟩:=CQ r (by have:=r.op x;rwa [hx] at this) (by have:=r.op y;rwa [hy] at this) hsz hq hk hnoR hjl;refine ⟨undef,w',_,_,.inr ⟨?_,rfl⟩,by rw [hd];exact r'⟩;simp only [execOp,hop,Sem.run_bind,hr,Result.andThen];rfl
theorem GM {t:TypeId} {x:Operand} {k q j:Nat} {eo e:TypeId} {sz:Nat} {es:ui} {zs:List (List AV)} (hg:gd ops s o=some true) (hop:o.op = .load t x) (hd:o.dst=some q) (hx:s.op x = .hptr k j)
 (hag:zV P t=some false) (hk:lk .gone s.h k = .rrow eo e sz es) (hjl:j<es.length) (hj:es.getD j none=some zs) (hq:q<s.n∧q<1000):iP P ops o s (· = s.takeR k q eo e sz zs (es.set j none)) :=
 b6 hg fun c a w β κ r=>by
  have hX:=r.op x;rw [hx] at hX;have hne:es≠[]:=by intro e1;subst e1;simp at hjl
  have hok:=r.hp.ob k;rw [hk] at hok;obtain ⟨o1,o2,o3⟩:=hok;obtain ⟨cur,p1,p2,p3,p4,p5⟩:=o3 hne;have hc:=bc p1 (i:=j) (by rw [p2];omega);have hr:(execOp a.eval o).run P w = .ok (.value (cur.getD j undef)) w:=by
   have h2:(Instr.loadAt t (a.eval x)).run P w = .ok (cur.getD j undef) w:=by rw [hX.hptr_inv];simp [Instr.loadAt,Instr.sureAddr,loadVar,run_isAgg hag,hc,go_sem]
   simp only [execOp,hop,Sem.run_bind,h2,Result.andThen];rfl
  have hv:=p5 j hjl;rw [hj] at hv;rw [hd];cases zs with
  | nil =>
   obtain ⟨_,ad,hv2⟩:=hv;obtain ⟨κ',r'⟩:=r.takeR_empty (ad:=ad) hq hk hjl;exact ⟨_,w,β,κ',.inl hr,by rw [hv2];exact r'⟩
  | cons z zs =>
   obtain ⟨β',κ',r'⟩:=r.takeR_in (j:=j) hq hk hjl hj (by simp) hv;exact ⟨_,w,β',κ',.inl hr,r'⟩
theorem HL {t:TypeId} {x:Operand} {k q j:Nat} {eo e:TypeId} {sz:Nat} {es es':ui} {zs:List (List AV)} (hg:gd ops s o=some true) (hop:o.op = .load t x) (hd:o.dst=some q) (hx:s.op x = .hptr k j)
 (hag:zV P t=some false) (hk:lk .gone s.h k = .rrow eo e sz es) (hjl:j<es.length) (hj:es.getD j none=some zs) (he:es.set j none=es') (hq:(Nat.blt q s.n&&Nat.blt q 1000)=true) :
 Loc P ops o s ⟨[(q,.rslice q)],[(q,.row e sz zs),(k,.rrow eo e sz es')],[q],[]⟩:=by
 subst he;intro s' ha hf _;have hfk:=hf q (by simp);simp only [KJ,Nat.blt_eq] at hq;have hxo:x∈o.op.operands:=by rw [hop];simp [Op.operands]
 have hx':s'.op x = .hptr k j:=by rw [bg ha hxo];exact hx
 have hk':lk .gone s'.h k = .rrow eo e sz es:=by rw [ha.h (by rw [hop];rfl) _ hxo k (by rw [hx];simp [AV.men])];exact hk
 refine (GM (by rw [bO ha];exact hg) hop hd hx' hag hk' hjl hj ⟨by rw [ha.n];exact hq.1,hq.2⟩).mono fun s'' e1 => ?_;subst e1;have hfh:∀ i,AO.men q (lk .gone (ins k (.rrow eo e sz (es.set j none)) s'.h) i)=false:=fun i=>by
  rw [aD];split
  ·rfl
  ·exact hfk.2 i
 refine ⟨rfl,fun i => ?_,fun i => ?_⟩
 ·show lk .any (ins q (.rslice q) (gq q s'.t)) i=lk .any (jY [(q,.rslice q)] s'.t) i;rw [aD,cT,cq,AV.pg_free (hfk.1 i)];simp only [gz];by_cases e:i=q
  ·subst e;simp
  ·rw [if_neg e,bN e];rfl
 ·show lk .gone (ins q (.row e sz zs) (dm q (ins k (.rrow eo e sz (es.set j none)) s'.h))) i=lk .gone (jY [(q,.row e sz zs),(k,.rrow eo e sz (es.set j none))] s'.h) i;rw [aD,cT,cu,AO.pg_free (hfh i)];simp only [gz];by_cases e:i=q
  ·subst e;simp
  ·rw [if_neg e,bN e,aD];simp only [cond_false];by_cases e2:i=k
   ·subst e2;simp
   ·rw [if_neg e2,bN e2];rfl
end
section
variable {P:Program} {ops:Array Oper} {o:Oper} {s:AS} {c:Cx P} {a:Act} {w:World} {β:Nat→Nat} {κ:Nat→Nat×Nat}
theorem yo (es:ui) (v:Option (List (List AV))) (i:Nat):(i<es.length→(es++[v]).getD i none=es.getD i none)∧(i=es.length→(es++[v]).getD i none=v):=by
 refine ⟨fun h => ?_,fun h => ?_⟩
 ·simp [KH,List.getElem?_append_left h]
 ·subst h;simp [KH]
theorem Rel.growR (r:Rel c s a w β κ) {k:Nat} {eo e:TypeId} {sz:Nat} {es:ui} (hk:lk .gone s.h k = .rrow eo e sz es) (hk3:k<1000) (hnoR:s.noR=true) {w':World} {b2 C:Nat} {arr:Array Value} {ad:Option Addr}
 (hw:∀ i,i≠b2→i<w.heap.size→w'.heap[i]? = w.heap[i]?) (hkp:cE c.K c.W w') (hb:(b2=β k∧es≠[])∨w.heap.size≤b2) (hm:w'.heap[b2]? = some (.cells arr eo (0,0))) (hs:arr.size=C*1) (hC:es.length+1≤C) (hCm:C≤maxLen) (hl:es.length<1000000)
 (hold:∀ i,i<es.length→zF w (c.XX s.h β) (β (gk k i)) (κ (gk k i)) e sz (arr.getD i undef) (es.getD i none)) (hnew:arr.getD es.length undef = .slice ad 0 0) :
 Rel c ⟨s.n,gq k s.t,ins k (.rrow eo e sz (es++[some []])) (dm k s.h)⟩ a w' (upd β k b2) (upd (upd κ k (C,es.length+1)) (gk k es.length) (0,0)):=by
 have hk6:k<1000000:=by omega
 have hgk:∀ i,gk k i≠k:=fun i e1=>by have:=cD k i;omega
 have hlive:es≠[]→(lk .gone s.h k).live:=fun h=>by rw [hk];exact h
 have hlk2:∀ n,lk .gone (ins k (.rrow eo e sz (es++[some []])) (dm k s.h)) n=if n=k then .rrow eo e sz (es++[some []]) else AO.pg k (lk .gone s.h n):=fun n=>by rw [aD,cu]
 have hinn:∀ i,(AO.rrow eo e sz (es++[some []])).inn i→(lk .gone s.h k).inn i∧i<es.length:=by
  rintro i ⟨h1,h2,y,ys,h3⟩;by_cases h4:i<es.length
  ·rw [(yo es (some []) i).1 h4] at h3;refine ⟨?_,h4⟩;rw [hk];exact ⟨h1,h4,y,ys,h3⟩
  ·rw [(yo es (some []) i).2 (by simp at h2;omega)] at h3;cases h3
 have hlv:∀ n,lv (ins k (.rrow eo e sz (es++[some []])) (dm k s.h)) n→n=k∨(lv s.h n∧n≠k):=by
  rintro n (h | ⟨m,i,rfl,h⟩)
  ·rw [hlk2] at h;by_cases h2:n=k
   ·exact .inl h2
   ·rw [if_neg h2,AO.live_pg] at h;exact .inr ⟨.inl h,h2⟩
  ·rw [hlk2] at h;have hne:gk m i≠k:=by have:=cD m i;omega
   by_cases h2:m=k
   ·rw [if_pos h2] at h;exact .inr ⟨bo (by rw [h2];exact (hinn i h).1),hne⟩
   ·rw [if_neg h2,AO.inn_pg] at h;exact .inr ⟨bo h,hne⟩
 have b1:∀ n,n≠k→upd β k b2 n=β n:=fun n h=>bh β h;have hX:∀ b,¬ c.XX s.h β b→b<w.heap.size→¬ c.XX (ins k (.rrow eo e sz (es++[some []])) (dm k s.h)) (upd β k b2) b:=by
  rintro b hb2 hlt (h | ⟨n,h1,h2⟩)
  ·exact hb2 (.inl h)
  ·rcases hlv n h1 with rfl | ⟨h3,h4⟩
   ·rw [ak] at h2;rcases hb with ⟨e1,e2⟩ | e1
    ·exact hb2 (.inr ⟨n,.inl (hlive e2),by rw [← e1];exact h2⟩)
    ·omega
   ·rw [b1 n h4] at h2;exact hb2 (.inr ⟨n,h3,h2⟩)
 have hnb:∀ n,lv s.h n→n≠k→β n≠b2:=by
  intro n hn hne e1;rcases hb with ⟨e2,e3⟩ | e2
  ·exact hne (r.hp.inj n k hn (.inl (hlive e3)) (e1.trans e2))
  ·have:=r.hp.lt hn;omega
 have hw2:∀ b,¬ c.XX s.h β b→b<w.heap.size→w'.heap[b]? = w.heap[b]? := fun b hb2 hlt=>hw b (fun e1=>by
  rcases hb with ⟨e2,e3⟩ | e2
  ·exact hb2 (.inr ⟨k,.inl (hlive e3),(e1.trans e2).symm⟩)
  ·omega) hlt
 have hk1:upd (upd κ k (C,es.length+1)) (gk k es.length) (0,0) k=(C,es.length+1):=by rw [bh _ (Ne.symm (hgk _)),ak]
 have hko:∀ n,n≠k→n≠gk k es.length→upd (upd κ k (C,es.length+1)) (gk k es.length) (0,0) n=κ n:=fun n h1 h2=>by rw [bh _ h2,bh _ h1]
 have hgne:∀ n,n<1000000→n≠gk k es.length:=fun n hn e1=>by have:=cD k es.length;omega
 have hmn:∀ {v:AV},AV.hasR (AV.pg k v)=false→∀ n,AV.men n (AV.pg k v)=true→upd β k b2 n=β n∧upd (upd κ k (C,es.length+1)) (gk k es.length) (0,0) n=κ n:=fun {v} hr n hn=>by
  have h1:n≠k:=fun e1=>by subst e1;rw [AV.men_pg] at hn;cases hn
  exact ⟨b1 n h1,hko n h1 (hgne n (men_lt hr hn))⟩
 refine ⟨r.df,r.sz,fun i => ?_,⟨fun n => ?_,fun n n' hn hn' e1 => ?_,hkp,fun n hn => ?_,fun n hn => ?_,fun n hn hn6 => ?_,fun n hn => ?_⟩⟩
 ·show G w' (c.XX (ins k (.rrow eo e sz (es++[some []])) (dm k s.h)) (upd β k b2)) (upd β k b2) _ (lk .any (gq k s.t) i) _;rw [cq];have hR:=AV.hasR_pg (k:=k) (AS.noR_t hnoR i);exact ((r.tm i).pg k).mono2 hw2 hX hR (hmn hR)
 ·show HO w' (c.XX (ins k (.rrow eo e sz (es++[some []])) (dm k s.h)) (upd β k b2)) (upd β k b2) _ n (lk .gone (ins k (.rrow eo e sz (es++[some []])) (dm k s.h)) n);rw [hlk2];by_cases h2:n=k
  ·rw [if_pos h2,h2];refine ⟨by rw [hk1];simp,by simp;omega,fun _=>⟨arr,by rw [ak];exact hm,by rw [hk1];exact hs,by rw [hk1];simpa using hC,by rw [hk1];exact hCm,fun i hi => ?_⟩⟩;by_cases h4:i<es.length
   ·rw [(yo es (some []) i).1 h4,b1 _ (hgk i),hko _ (hgk i) (fun e3=>by have:=(dH (by omega) hl e3).2;omega)];have a5:=hold i h4;have hin:∀ z zs',es.getD i none=some (z::zs')→(lk .gone s.h k).inn i:=fun z zs' h=>by rw [hk];exact ⟨by omega,h4,z,zs',h⟩
    generalize es.getD i none=o at a5 hin ⊢;match o,a5,hin with
    | none,_,_=>trivial
    | some [],a5,_=>exact a5
    | some (z::zs'),a5,hin =>
     have hi9:=bo (hin z zs' rfl);exact ⟨a5.1,a5.2.1,a5.2.2.mono hw2 hX (hw _ (hnb _ hi9 (hgk i)) (r.hp.lt hi9))⟩
   ·have h5:i=es.length:=by simp at hi;omega
    rw [(yo es (some []) i).2 h5,h5,hnew,ak];exact ⟨rfl,ad,rfl⟩
  ·rw [if_neg h2];have hR:=AO.hasR_pg (k:=k) (AS.noR_h hnoR n);by_cases hg0:lk .gone s.h n = .gone
   ·rw [hg0];trivial
   ·have hn6:=r.hp.sg n hg0;refine ((r.hp.ob n).pg (j:=k)).mono2 hw2 hX hR (fun l hl => ?_) ⟨b1 n h2,hko n h2 (hgne n hn6),fun i hi=>⟨b1 _ (fun e3=>by have:=cD n i;omega),hko _ (fun e3=>by have:=cD n i;omega) (fun e3=>h2 (dH hi hl e3).1)⟩⟩ (fun hl => ?_) (fun i hl => ?_)
    ·have h1:l≠k:=fun e1=>by subst e1;rw [AO.men_pg] at hl;cases hl
     exact ⟨b1 l h1,hko l h1 (hgne l (AO.men_lt hR hl))⟩
    ·rw [AO.live_pg] at hl;exact hw _ (hnb n (.inl hl) h2) (r.hp.lt (.inl hl))
    ·rw [AO.inn_pg] at hl;exact hw _ (hnb _ (bo hl) (fun e3=>by have:=cD n i;omega)) (r.hp.lt (bo hl))
 ·rcases hlv n hn with e2 | ⟨h3,h4⟩<;>rcases hlv n' hn' with e3 | ⟨h6,h7⟩
  ·rw [e2,e3]
  ·rw [e2,ak,b1 n' h7] at e1;exact absurd e1.symm (hnb n' h6 h7)
  ·rw [e3,ak,b1 n h4] at e1;exact absurd e1 (hnb n h3 h4)
  ·rw [b1 n h4,b1 n' h7] at e1;exact r.hp.inj n n' h3 h6 e1
 ·rcases hlv n hn with e2 | ⟨h3,h4⟩
  ·rw [e2,ak];rcases hb with ⟨e3,e4⟩ | e3
   ·rw [e3];exact r.hp.nk k (.inl (hlive e4))
   ·intro hK;have:=c.hK _ hK;have:=r.hp.kp.size;omega
  ·rw [b1 n h4];exact r.hp.nk n h3
 ·rcases hlv n hn with e2 | ⟨h3,h4⟩
  ·rw [e2,ak];rcases hb with ⟨e3,e4⟩ | e3
   ·rw [e3];exact r.hp.nx k (.inl (hlive e4))
   ·intro hK;have:=c.hX _ hK;have:=r.hp.kp.size;omega
  ·rw [b1 n h4];exact r.hp.nx n h3
 ·rw [b1 n (by omega),hko n (by omega) (hgne n hn6)];exact r.hp.fix n hn hn6
 ·have hn:lk .gone (ins k (.rrow eo e sz (es++[some []])) (dm k s.h)) n ≠ .gone:=hn;rw [hlk2] at hn;by_cases h2:n=k
  ·rw [h2];exact hk6
  ·rw [if_neg h2] at hn;exact r.hp.sg n (fun e3=>hn (by rw [e3];rfl))
def AS.growR (s:AS) (k d:Nat) (eo e:TypeId) (sz:Nat) (es':ui):AS:=⟨s.n,ins d (.rslice k) (gq k s.t),ins k (.rrow eo e sz es') (dm k s.h)⟩
theorem I8 {x y:Operand} {t eo e:TypeId} {sz by_ k d:Nat} {es:ui} (hg:gd ops s o=some true) (hop:o.op = .call ⟨.builtin .append,#[x,y],#[t,t]⟩) (hd:o.dst=some d) (he:dZ P t=some (eo,1,by_)) (hx:s.op x = .rslice k) (hk:lk .gone s.h k = .rrow eo e sz es)
 (hy:s.op y = .dslice [[.eslice]]) (hkd:k<1000∧d<s.n) (hnoR:s.noR=true) (hb:(es.length+1)*by_≤140737488355328) (hl:es.length<1000000):iP P ops o s (· = s.growR k d eo e sz (es++[some []])) :=
 b6 hg fun c a w β κ r=>by
  obtain ⟨hu,i,z,hi,hz,hi1,rfl,hzs,hsz⟩:=fB he;have hX:=r.op x;have hY:=r.op y;rw [hx] at hX;rw [hy] at hY;obtain ⟨eYd,ad2,cap2,eY,_⟩:=hY.dslice_inv;have hE:EL 1 [[AV.eslice]]:=EL.one rfl rfl;obtain ⟨bd,cap,news,e1,n1,n2,n3,n4⟩:=qR eYd hE (by simp);simp only [List.length_singleton,Nat.one_mul] at n1 e1;have hn0:=n4 0 0 (by simp) (by omega);obtain ⟨v,rfl⟩:∃ v,news=[v]:=by
   cases news with
   | nil=>simp at n1
   | cons v l=>cases l with | nil=>exact ⟨v,rfl⟩ | cons _ _=>simp at n1
  have hv:∃ ad,v = .slice ad 0 0:=by
   have h9:D w (c.XX s.h β) .eslice v:=hn0;cases h9 with
   | eslice ad=>exact ⟨ad,rfl⟩
  obtain ⟨ad,rfl⟩:=hv;have hexec:∀ {V V' w'},a.eval x=V'→(Builtin.append_ #[t,t] o.type #[V',a.eval y]).run P w = .ok V w'→(execOp a.eval o).run P w = .ok (.value V) w':=by intro V V' w' e1 hr;simp only [execOp,hop,resolve,invoke,builtin,Sem.run_bind,Sem.run_pure,Result.andThen_ok,List.map_toArray,List.map_cons,List.map_nil,e1,hr]
  have hput:∀ {β' κ' w'} (b2 C:Nat),Rel c ⟨s.n,gq k s.t,ins k (.rrow eo e sz (es++[some []])) (dm k s.h)⟩ a w' β' κ'→β' k=b2→κ' k=(C,es.length+1)→Rel c (s.growR k d eo e sz (es++[some []])) (a.put o.dst (.slice (some ⟨b2,0,none⟩) (es.length+1) C)) w' β' κ':=by
   intro β' κ' w' b2 C r' h1 h2;rw [hd];refine bu r' (v:=.rslice k) ?_ (by simp only [AS.put,show Nat.blt d s.n=true by simpa [Nat.blt_eq] using hkd.2,cond_true];rfl);have:=G.rslice (w:=w') (X:=c.XX (ins k (.rrow eo e sz (es++[some []])) (dm k s.h)) β') (β:=β') (κ:=κ') k (by rw [h2];simp)
   rwa [h1,h2] at this
  have hkk:∀ C,upd (upd κ k (C,es.length+1)) (gk k es.length) (0,0) k=(C,es.length+1):=fun C=>by rw [bh _ (fun e1=>by have:=cD k es.length;omega),ak]
  have ho:=r.hp.ob k;rw [hk] at ho;obtain ⟨o1,o2,o3⟩:=ho;by_cases hes:es=[]
  ·subst hes;obtain ⟨adx,eX⟩:∃ adx,a.eval x = .slice adx 0 0:=by
    rcases hX.rslice_inv with ⟨h0,_⟩ | ⟨_,adx,e2⟩
    ·rw [o1] at h0;simp at h0
    ·exact ⟨adx,e2⟩
   let C:=grownCap w 1 0 eo
   have hC:1≤C:=grownCap_ge w _ _ _;have hCm:C≤maxLen:=grownCap_le_maxLen w _ _ _ (by unfold maxLen;omega);let arr:Array Value:=[Value.slice ad 0 0].toArray++Builtin.zeroCells z.cells (C-1)
   simp only [List.length_nil,Nat.zero_add] at hb;have hrun:(Builtin.append_ #[t,t] o.type #[.slice adx 0 0,a.eval y]).run P w = .ok (.slice (some ⟨w.heap.size,0,none⟩) 1 C) (w.drew.alloc (.cells arr eo)):=by
    rw [e1];cases adx with
    | none=>exact run_append_nil (P:=P) w t o.type eo i z hu hi hz bd 1 cap [.slice ad 0 0] (by simp [hi1]) n2 (by omega) (by omega) (by omega)
    | some b0 =>
     have:=run_append_grow (P:=P) w t o.type eo i z hu hi hz b0 0 0 [] (by simp) (fun j v hv=>by simp at hv) bd 1 cap [.slice ad 0 0] (by simp [hi1]) n2 (by omega) (by omega) (growslice_fits (by omega) (by simpa using hb));simpa [arr,C] using this
   have hsz2:arr.size=C*1:=by simp only [arr,Array.size_append,List.size_toArray,size_zeroCells,hzs,hi1,List.length_singleton];omega
   have r':=r.growR (w':=w.drew.alloc (.cells arr eo)) (b2:=w.heap.size) (C:=C) (arr:=arr) (ad:=ad) hk hkd.1 hnoR (fun b _ hb=>dV w.drew _ hb) (r.drew.hp.kp.trans (dU c.K w.drew _ r.Klt) (fun _ h=>h)) (.inr (Nat.le_refl _)) (fy w.drew _) hsz2 hC hCm hl (fun i hi=>by simp at hi) (by simp [arr,KK,Array.getElem?_append]);exact ⟨_,_,_,_,.inl (hexec eX hrun),hput w.heap.size C r' (ak _ _ _) (hkk C)⟩
  ·obtain ⟨cur,q1,q2,q3,q4,q5⟩:=o3 hes;have eX:a.eval x = .slice (some ⟨β k,0,none⟩) es.length (κ k).1:=by
    rcases hX.rslice_inv with ⟨h0,e2⟩ | ⟨h0,_,e2⟩
    ·rw [e2,o1]
    ·rw [o1] at h0;exact absurd (List.eq_nil_of_length_eq_zero h0) hes
   by_cases hroom:es.length+1≤(κ k).1
   ·have hfit:es.length*i.size+1≤cur.size:=by rw [hi1,q2];omega
    let arr:Array Value:=(cur.toList.take (es.length*i.size)++[Value.slice ad 0 0]++cur.toList.drop (es.length*i.size+1)).toArray
    have hrun:(Builtin.append_ #[t,t] o.type #[.slice (some ⟨β k,0,none⟩) es.length (κ k).1,a.eval y]).run P w = .ok (.slice (some ⟨β k,0,none⟩) (es.length+1) (κ k).1) (w.setRow (β k) arr):=by rw [e1];exact run_append_room (P:=P) w t o.type eo i hu hi (β k) es.length (κ k).1 cur q1 bd 1 cap [.slice ad 0 0] (by simp [hi1]) n2 n3 hroom hfit
    have harr:∀ j,arr.getD j undef=if j=es.length then .slice ad 0 0 else cur.getD j undef:=by
     intro j;rw [← dw];simp only [arr,hi1,Nat.mul_one];have hl1:(cur.toList.take es.length).length=es.length:=by simp;omega
     by_cases h4:j<es.length
     ·rw [if_neg (by omega),List.append_assoc,dh (by omega),getD_take _ _ _ _ h4,dw]
     ·by_cases h5:j=es.length
      ·rw [if_pos h5,List.append_assoc,fb (by omega),hl1,h5,Nat.sub_self];rfl
      ·rw [if_neg h5,fb (by simp;omega),dK];have:es.length+1+(j-(cur.toList.take es.length++[Value.slice ad 0 0]).length)=j:=by simp;omega
       rw [this,dw]
    have hasz:arr.size=(κ k).1*1:=by rw [← q2];simp [arr,hi1];omega
    have hlv:(lk .gone s.h k).live:=by rw [hk];exact hes
    have r':=r.growR (w':=w.setRow (β k) arr) (b2:=β k) (C:=(κ k).1) (arr:=arr) (ad:=ad) hk hkd.1 hnoR (fun b hb _=>bl _ _ _ hb) (r.hp.kp.trans (K':=c.K) ⟨rfl,rfl,rfl,by simp [World.setRow],fun b hb=>bl _ _ _ (fun e3=>r.hp.nk k (.inl hlv) (e3 ▸ hb))⟩ (fun _ h=>h)) (.inl ⟨rfl,hes⟩) (eF w _ cur eo arr q1) hasz hroom q4 hl
     (fun j hj=>by rw [harr,if_neg (by omega)];exact q5 j hj) (by rw [harr,if_pos rfl])
    exact ⟨_,_,_,_,.inl (hexec eX hrun),hput (β k) (κ k).1 r' (ak _ _ _) (hkk _)⟩
   ·let C:=grownCap w (es.length+1) (κ k).1 eo
    have hC:es.length+1≤C:=grownCap_ge w _ _ _;have hCm:C≤maxLen:=grownCap_le_maxLen w _ _ _ (by unfold maxLen;omega);let olds:=cur.toList.take (es.length*i.size)
    have hol:olds.length=es.length*i.size:=by simp [olds,hi1];omega
    let arr:Array Value:=olds.toArray++[Value.slice ad 0 0].toArray++Builtin.zeroCells z.cells (C-(es.length+1))
    have hrun:(Builtin.append_ #[t,t] o.type #[.slice (some ⟨β k,0,none⟩) es.length (κ k).1,a.eval y]).run P w = .ok (.slice (some ⟨w.heap.size,0,none⟩) (es.length+1) C) (w.drew.alloc (.cells arr eo)):=by
     rw [e1];refine run_append_grow (P:=P) w t o.type eo i z hu hi hz ⟨β k,0,none⟩ es.length (κ k).1 olds hol (fun j v hv => ?_) bd 1 cap [.slice ad 0 0] (by simp [hi1]) n2 (by omega) (by omega) (growslice_fits (by omega) hb);have hj:j<es.length*i.size:=by have:=(KQ.1 hv).1;omega
     have hv2:cur[j]? = some v:=by simp only [olds,List.getElem?_take] at hv;rw [if_pos hj] at hv;simpa using hv
     rw [jz,Nat.zero_add];have:=bc q1 (i:=j) (by rw [hi1] at hj;omega);rw [this];simp [KK,hv2]
    have hasz:arr.size=C*1:=by simp only [arr,Array.size_append,List.size_toArray,size_zeroCells,hol,hzs,hi1,List.length_singleton];omega
    have harr:∀ j,j≤es.length→arr.getD j undef=if j=es.length then .slice ad 0 0 else cur.getD j undef:=by
     intro j hj;have hol1:olds.length=es.length:=by rw [hol,hi1,Nat.mul_one]
     rw [← dw];simp only [arr,Array.toList_append,List.append_assoc];by_cases h4:j<es.length
     ·rw [if_neg (by omega),dh (by simpa [hol1] using h4)];simp only [olds,hi1,Nat.mul_one];rw [getD_take _ _ _ _ h4,dw]
     ·have h5:j=es.length:=by omega
      rw [if_pos h5,fb (by simpa [hol1] using Nat.le_of_eq h5.symm)];simp [hol1,h5]
    have r':=r.growR (w':=w.drew.alloc (.cells arr eo)) (b2:=w.heap.size) (C:=C) (arr:=arr) (ad:=ad) hk hkd.1 hnoR (fun b _ hb=>dV w.drew _ hb) (r.drew.hp.kp.trans (dU c.K w.drew _ r.Klt) (fun _ h=>h)) (.inr (Nat.le_refl _)) (fy w.drew _) hasz hC hCm hl
     (fun j hj=>by rw [harr j (by omega),if_neg (by omega)];exact q5 j hj) (by rw [harr _ (Nat.le_refl _),if_pos rfl])
    exact ⟨_,_,_,_,.inl (hexec eX hrun),hput w.heap.size C r' (ak _ _ _) (hkk C)⟩
def AS.errow (s:AS) (t k:Nat) (eo e:TypeId) (sz:Nat):Option AS :=
 match lk .any s.t t with
 | .eslice=>bif Nat.blt k 1000 then some ⟨s.n,ins t (.rslice k) (gq k s.t),ins k (.rrow eo e sz []) (dm k s.h)⟩ else none
 | _=>none
theorem Rel.errow (r:Rel c s a w β κ) {t k:Nat} {eo e:TypeId} {sz:Nat} {s':AS} (h:s.errow t k eo e sz=some s'):∃ κ',Rel c s' a w β κ':=by
 unfold AS.errow at h;split at h
 ·rename_i ht;cases hc:Nat.blt k 1000 with
  | false=>rw [hc] at h;cases h
  | true =>
   rw [hc] at h;cases h;have hk:k<1000:=by simpa [Nat.blt_eq] using hc
   have r':=r.pg k;have hk6:k<1000000:=by omega
   have hi:∀ j,¬ (AO.rrow eo e sz []).inn j:=fun j h=>by have:=h.2.1;simp at this
   have hlive:∀ {j},lv (ins k (.rrow eo e sz []) (dm k s.h)) j→lv (dm k s.h) j:=by
    intro j hl;rcases ed (o:=.rrow eo e sz []) hk6 hi hl with ⟨_,h0⟩ | ⟨_,hl⟩
    ·exact absurd rfl h0
    ·exact hl
   have hX:∀ b,¬ c.XX (dm k s.h) β b→b<w.heap.size→¬ c.XX (ins k (.rrow eo e sz []) (dm k s.h)) β b:=by
    rintro b hb _ (hx | ⟨j,hl,hj⟩)
    ·exact hb (.inl hx)
    ·exact hb (.inr ⟨j,hlive hl,hj⟩)
   refine ⟨upd κ k (0,0),r.df,r.sz,fun i => ?_,⟨fun j => ?_,fun i j hi hj e=>r'.hp.inj i j (hlive hi) (hlive hj) e,r.hp.kp,fun j hj=>r'.hp.nk j (hlive hj),fun j hj=>r'.hp.nx j (hlive hj),fun j hj hj6 => ?_,fun j hj => ?_⟩⟩
   ·show G _ _ _ _ (lk .any (ins t (.rslice k) (gq k s.t)) i) _;rw [aD];by_cases hi:i=t
    ·subst hi;have:=r.tm i;rw [ht] at this;obtain ⟨ad,e1⟩:=this.eslice_inv;rw [if_pos rfl,e1];exact .rslice0 k ad (by rw [ak])
    ·rw [if_neg hi];exact (r'.tm i).mono (w':=w) (κ':=upd κ k (0,0)) (β':=β) (fun _ _ _=>rfl) hX (fun j hj=>.updκ hk6 (fun e=>by rw [e] at hj;have:AV.men k (lk .any (gq k s.t) i)=true:=hj;rw [cq,AV.men_pg] at this;cases this))
   ·show HO _ _ _ _ j (lk .gone (ins k (.rrow eo e sz []) (dm k s.h)) j);rw [aD];by_cases ej:j=k
    ·rw [if_pos ej,ej];exact ⟨by rw [ak];rfl,by simp,fun h=>absurd rfl h⟩
    ·rw [if_neg ej];exact (r'.hp.ob j).mono (w':=w) (fun _ _ _=>rfl) hX (fun i hi=>.updκ hk6 (fun e=>by rw [e] at hi;have:AO.men k (lk .gone (dm k s.h) j)=true:=hi;rw [cu,AO.men_pg] at this;cases this)) (.updκ hk6 ej) (fun _=>rfl) (fun _ _=>rfl)
   ·have:j≠k:=by omega
    rw [bh κ this];exact r.hp.fix j hj hj6
   ·have hj:lk .gone (ins k (.rrow eo e sz []) (dm k s.h)) j ≠ .gone:=hj;rw [aD] at hj;by_cases ej:j=k
    ·omega
    ·rw [if_neg ej] at hj;exact r'.hp.sg j hj
 ·cases h
def HF (es:ui):List (List AV):=es.map fun p=>[AV.dslice (p.getD [])]
def AS.frzW (s:AS) (k:Nat):Option (Prop×AS) :=
 match lk .gone s.h k with
 | .rrow _ _ _ es=>some ((es.all fun p=>p.isSome)=true,s.subst k (.dslice (HF es)))
 | _=>none
theorem Rel.frzW {s':AS} {p:Prop} (r:Rel c s a w β κ) {k:Nat} (h:s.frzW k=some (p,s')) (hp:p):Rel c s' a w β κ:=by
 unfold AS.frzW at h;split at h
 ·rename_i eo e sz es hk;cases h;refine r.subst fun hnV hX hnX=>⟨fun V hg => ?_,fun V _=>.any V⟩;have ho:=r.hp.ob k;rw [hk] at ho;obtain ⟨o1,o2,o3⟩:=ho;show D w _ (.dslice (HF es)) V;have hlen:(HF es).length=es.length:=by simp [HF]
  have hat:∀ i,i<es.length→(HF es).getD i []=[AV.dslice ((es.getD i none).getD [])]:=fun i hi=>by simp [HF,KH,KI hi]
  rcases hg.rslice_inv with ⟨h0,e1⟩ | ⟨h0,ad,rfl⟩
  ·have hne:es≠[]:=by intro e;subst e;rw [o1] at h0;simp at h0
   have hlk:(lk .gone s.h k).live:=by rw [hk];exact hne
   obtain ⟨cur,h1,h2,h3,h4,h5⟩:=o3 hne;rw [e1,o1,← hlen];refine .dslice (HF es) (β k) 0 (κ k).1 1 (fun i j=>cur.getD (i*1+j) undef) (by rw [hlen];exact h3) h4 (by omega) (hnX hlk) (fun i hi=>by rw [hat i (by omega)];rfl) (fun i j hi hj => ?_) (fun i j hi hj => ?_)
   ·rw [Nat.zero_add];exact bc h1 (by rw [h2];omega)
   ·have ej:j=0:=by omega
    subst ej;have hi2:i<es.length:=by omega
    rw [hat i hi2];show D w _ (.dslice ((es.getD i none).getD [])) (cur.getD (i*1+0) undef);rw [Nat.mul_one,Nat.add_zero];have hv:=h5 i hi2;have hs:(es.getD i none).isSome=true:=by have:=KU.1 hp (es.getD i none) (by rw [KH,KI hi2];exact List.getElem_mem hi2);simpa using this
    have hin:∀ z zs,es.getD i none=some (z::zs)→(lk .gone s.h k).inn i:=fun z zs h=>by rw [hk];exact ⟨by omega,hi2,z,zs,h⟩
    generalize es.getD i none=o at hv hs hin ⊢;match o,hv,hs,hin with
    | none,_,hs,_=>cases hs
    | some [],hv,_,_ =>
     obtain ⟨_,ad,e1⟩:=hv;rw [e1];exact .dnil _ _ (Nat.zero_le _)
    | some (z::zs),hv,_,hin =>
     obtain ⟨v1,v2,cur2,g1,g2,g3,g4,g5,g6,g7⟩:=hv;rw [v2,v1];show D w _ (.dslice (z::zs)) _;refine .dslice (z::zs) (β (gk k i)) 0 (κ (gk k i)).1 sz (fun i' j=>cur2.getD (i'*sz+j) undef) g3 g4 g5 (hnV i (hin z zs rfl)) g6 (fun i' j hi' hj => ?_) (fun i' j hi' hj=>(g7 i' j hi' hj).mono (fun _ _ _=>rfl) hX);rw [Nat.zero_add];refine bc g1 ?_;rw [g2];have:(i'+1)*sz≤(κ (gk k i)).1*sz:=Nat.mul_le_mul_right _ (by omega);rw [Nat.add_mul] at this;omega
  ·have:es=[]:=List.eq_nil_of_length_eq_zero (by rw [← o1];exact h0);subst this;exact .dnil _ _ (Nat.zero_le _)
 ·cases h
end
inductive Jy where
 | tk (zs:List (List AV)) (es:ui)
 | st (es:ui)
 | apr (es:ui)
section
variable {P:Program} {ops:Array Oper} {o:Oper} {s s':AS}
def BU (P:Program) (s:AS) (dst:Option Tmp) (zs:List (List AV)) (es':ui):Op→Option (List Prop×cJ)
 | .load t x=>match s.op x,dst,zV P t with
  | .hptr k off,some q,some false=>match lk .gone s.h k with
   | .rrow eo e sz es=>bif Nat.blt q s.n&&Nat.blt q 1000 then some ([off<es.length,es.getD off none=some zs,es.set off none=es'],⟨[(q,.rslice q)],[(q,.row e sz zs),(k,.rrow eo e sz es')],[q],[]⟩) else none
   | _=>none
  | _,_,_=>none
 | _=>none
theorem yb {zs:List (List AV)} {es':ui} {ps:List Prop} {e:cJ} (hg:gd ops s o=some true) (h:BU P s o.dst zs es' o.op=some (ps,e)) (hp:∀ p∈ps,p):Loc P ops o s e:=by
 unfold BU at h;split at h
 ·rename_i t x hop;split at h
  ·rename_i k off q hx hd hag;split at h
   ·rename_i eo e' sz es hk;cases hc:(Nat.blt q s.n&&Nat.blt q 1000) with
    | false=>rw [hc] at h;cases h
    | true =>
     rw [hc] at h;cases h;exact HL hg hop hd hx hag hk (hp _ (by simp)) (hp _ (by simp)) (hp _ (by simp)) hc
   ·cases h
  ·cases h
 ·cases h
def Fq (P:Program) (s:AS) (dst:Option Tmp):Jy→Op→Option (List Prop×AS)
 | .tk zs es',.load t x=>match s.op x,dst,zV P t with
  | .hptr k off,some q,some false=>match lk .gone s.h k with
   | .rrow eo e sz es=>bif Nat.blt q s.n&&Nat.blt q 1000 then some ([off<es.length,es.getD off none=some zs,es.set off none=es'],s.takeR k q eo e sz zs es') else none
   | _=>none
  | _,_,_=>none
 | .st es',.store t x y=>match s.op x,s.op y,dst,kQ P t with
  | .hptr k off,.rslice q,none,some 1=>match lk .gone s.h k,lk .gone s.h q with
   | .rrow eo e sz es,.row e2 sz2 zs=>bif Nat.beq e2 e&&Nat.beq sz2 sz&&s.noR then some ([off<es.length,es.set off (some zs)=es'],s.stowR k q eo e sz es') else none
   | _,_=>none
  | _,_,_,_=>none
 | .apr es',.call ⟨.builtin .append,ar,tys⟩=>match ar.toList,tys.toList,dst with
  | [x,y],[t,t'],some d=>if t=t' then (match dZ P t,s.op x,s.op y with
   | some (eo,1,by_),.rslice k,.dslice [[.eslice]]=>match lk .gone s.h k with
    | .rrow eo2 e sz es=>bif Nat.beq eo2 eo&&(Nat.blt k 1000&&Nat.blt d s.n)&&s.noR then some ([(es.length+1)*by_≤140737488355328∧es.length<1000000,es++[some []]=es'],s.growR k d eo e sz es') else none
    | _=>none
   | _,_,_=>none) else none
  | _,_,_=>none
 | _,_=>none
theorem sB {α:Type} {b:Bool} {x:Option α} {y:α} (h:(bif b then x else none)=some y):b=true∧x=some y:=by
 cases b with
 | true=>exact ⟨rfl,h⟩
 | false=>cases h
theorem ti {d:Jy} {ps:List Prop} (hg:gd ops s o=some true) (h:Fq P s o.dst d o.op=some (ps,s')) (hp:∀ p∈ps,p):iP P ops o s (· = s'):=by
 unfold Fq at h;split at h
 ·rename_i zs es' t x hop;split at h
  ·rename_i k off q hx hd hag;split at h
   ·rename_i eo e sz es hk;obtain ⟨hc,h⟩:=sB h;simp only [KJ,Nat.blt_eq] at hc;cases h;have h3:es.set off none=es':=hp _ (by simp);subst h3;exact GM hg hop hd hx hag hk (hp _ (by simp)) (hp _ (by simp)) hc
   ·cases h
  ·cases h
 ·rename_i es' t x y hop;split at h
  ·rename_i k off q hx hy hd hsz;split at h
   ·rename_i eo e sz es e2 sz2 zs hk hq;obtain ⟨hc,h⟩:=sB h;simp only [KJ] at hc;obtain ⟨⟨c1,c2⟩,c3⟩:=hc;have c1:=bP.1 c1;have c2:=bP.1 c2;subst c1;subst c2;cases h;have h3:es.set off (some zs)=es':=hp _ (by simp);subst h3;exact IX hg hop hd hx hy hsz hq hk c3 (hp _ (by simp))
   ·cases h
  ·cases h
 ·rename_i es' ar tys hop;split at h
  ·rename_i x y t t' d har hty hd;split at h;case isFalse=>cases h
   rename_i ht;subst ht;split at h
   ·rename_i eo by_ k he hx hy;split at h
    ·rename_i eo2 e sz es hk;obtain ⟨hc,h⟩:=sB h;simp only [KJ,Nat.blt_eq] at hc;obtain ⟨⟨c1,c2⟩,c3⟩:=hc;have c1:=bP.1 c1;subst c1;cases h;have e1:ar = #[x,y]:=by rw [← Array.toList_inj];exact har
     have e2:tys = #[t,t]:=by rw [← Array.toList_inj];exact hty
     subst e1;subst e2;have h3:es++[some []]=es':=hp _ (by simp);subst h3;have h4:(es.length+1)*by_≤140737488355328∧es.length<1000000:=hp _ (by simp);exact I8 hg hop hd he hx hk hy c2 c3 h4.1 h4.2
    ·cases h
   ·cases h
  ·cases h
 ·cases h
end
inductive pe where
 | v
 | e (v:AV)
 | s
 | c (fl:Bool) (v:AV)
 | b
 | ae
 | l (v:AV)
 | h (ps:List (Nat×Nat)) (v:AV) (h1:List (Nat×AO))
 | m
 | ap
 | fz (k:Nat)
 | fm (k:Nat)
 | en (i:Nat) (v:AV)
 | er (t k:Nat) (e:TypeId) (sz:Nat)
 | w
 | we (v:AV)
 | cf (fl:Bool) (v:AV)
 | cw (fl:Bool) (pl:List (Nat×List (Nat×Nat))) (v:AV)
 | wk (t:Nat) (p:List (Nat×Nat))
 | rwT (t:Nat) (v:AV)
 | rwH (k:Nat) (ob:AO)
 | rl (n j:Nat) (v:AV)
 | rs (n j:Nat)
 | apx (zs:List (List AV))
 | bw (pl:List (List (Nat×Nat)))
 | apg
 | lk (zs:List (List AV)) (es:jx)
 | ms (es:jx)
 | es3 (es:jx)
 | e1 (es:jx)
 | e2
 | e3 (es:jx)
 | ent (c:zr)
 | xc (v:AV)
 | hM (ps ds:List (Nat×Nat)) (v:AV) (h1:List (Nat×AO))
 | fr (k:Nat)
 | qo (q:Jy)
 | rr
 | fw (k:Nat)
 | ew (t k:Nat) (eo e:TypeId) (sz:Nat)
 | tr (k:Nat) (e:TypeId) (sz:Nat)
 | hN (v:AV) (h1:List (Nat×AO))
 | hR (ps:List (Nat×Nat)) (d:Nat) (v:AV) (h1:List (Nat×AO))
def br:List Prop→Prop
 | []=>True
 | [p]=>p
 | p::ps=>p∧br ps
theorem br.cons {p:Prop} {ps:List Prop}:br (p::ps)↔p∧br ps:=by
 cases ps with
 | nil=>simp [br]
 | cons q qs=>rfl
theorem br.append {ps qs:List Prop}:br (ps++qs)↔br ps∧br qs:=by
 induction ps with
 | nil=>simp [br]
 | cons p ps ih=>rw [List.cons_append,br.cons,br.cons,ih,and_assoc]
def asks:Op→Bool
 | .unOp _ _ _=>true
 | .binOp op _ _ _ _=>match op with | .add | .sub | .mul | .quo | .rem=>true | _=>false
 | .slice _ _ _ _ _=>true
 | .index _ _ _=>true
 | .indexAddr _ _ _=>true
 | .call _=>true
 | .convert _ _ _=>true
 | _=>false
def FO:Op→Bool
 | .binOp .quo _ _ _ _=>true
 | .index _ _ _=>true
 | _=>false
def Hr (op:Op) (p:Prop):List Prop:=if FO op then [p] else []
def Kf (op:Op) (p:Prop):List Prop:=if asks op then [p] else []
section
variable {P:Program} {ops:Array Oper} {o:Oper} {s s':AS}
theorem tN {p q:Prop} {u v:AV} (hq:q) (h:some (q,u)=some (p,v)):p:=by cases h;exact hq
theorem D2 {op:BinOp} {k:IntKind} {a b:Int} {p:Prop} {v:AV} (ha:(match op with | .add | .sub | .mul | .quo | .rem=>true | _=>false)=false) (h:vm op k a b=some (p,v)):p:=by cases op<;>simp only [vm,reduceCtorEq] at h ha<;>first | exact tN trivial h | cases h
theorem Eb {op:BinOp} {a b:List UInt8} {p:Prop} {v:AV} (ha:(match op with | .add | .sub | .mul | .quo | .rem=>true | _=>false)=false) (h:BM op a b=some (p,v)):p:=by cases op<;>simp only [BM,reduceCtorEq] at h ha<;>first | exact tN trivial h | cases h
theorem D3 {op:BinOp} {t:TypeId} {x y:Operand} {p:Prop} {v:AV} (ha:(match op with | .add | .sub | .mul | .quo | .rem=>true | _=>false)=false) (h:A6 P s op t x y=some (p,v)):p:=by
 unfold A6 at h;split at h
 ·split at h
  ·exact D2 ha h
  ·cases h
 ·exact Eb ha h
 ·split at h
  ·split at h<;>first | exact tN trivial h | cases h
  ·cases h
 ·split at h
  ·split at h<;>first | exact tN trivial h | cases h
  ·cases h
 ·split at h
  ·split at h<;>first | exact tN trivial h | cases h
  ·cases h
 ·cases h
theorem Ex {op:Op} {p:Prop} {v:AV} (ha:asks op=false) (h:fT P s op=some (p,v)):p:=by
 unfold fT at h;split at h;case h_9=>exact D3 ha h
 all_goals first
  | exact tN trivial h
  | (cases ha;done)
  | ((repeat' split at h)<;>first | exact tN trivial h | (cases h;done))
theorem uZ {op:Op} {p:Prop} {v:AV} (h:fT P s op=some (p,v)) (hp:br (Kf op p)):p:=by
 unfold Kf at hp;cases ha:asks op with
 | true=>rw [ha] at hp;exact hp
 | false=>exact Ex ha h
theorem FV {op:Op} {p:Prop} {v:AV} (ha:FO op=false) (h:Dn P s op=some (p,v)):p:=by
 unfold Dn at h;split at h
 ·split at h
  ·repeat' split at h
   all_goals first | exact tN trivial h | cases h
  ·split at h
   ·exact tN trivial h
   ·exact tN trivial h
   ·exact tN trivial h
   ·cases ha
   ·cases h
  ·cases h
 ·split at h
  ·exact tN trivial h
  ·cases h
 ·cases ha
 ·cases h
theorem xi {op:Op} {p:Prop} {v:AV} (h:Dn P s op=some (p,v)) (hp:br (Hr op p)):p:=by
 unfold Hr at hp;cases ha:FO op with
 | true=>rw [ha] at hp;exact hp
 | false=>exact FV ha h
def CR (s:AS) (dst:Option Tmp):Bool:=match dst with | none=>true | some t=>Nat.blt t s.n
theorem bZ {dst:Option Tmp} (h:CR s dst=true) (v:AV):s.put dst v=some ((cJ.put dst v).app s):=by
 cases dst with
 | none=>rfl
 | some t=>simp only [CR] at h;simp only [AS.put,h];rfl
def wD (fl:Bool) (s:AS) (ar:Array Operand) (caps:List AV):Option (List AV) :=
 if fl then (if AV.flL (s.args ar caps) then some (s.args ar caps) else none) else some ((s.args ar caps).map (AV.vw s.h))
def ID (P:Program) (s:AS) (op:Op) (fl:Bool) (v:AV):Option (List Prop) :=
 match op with
 | .call ⟨.value x,ar,_⟩=>match s.op x with
  | .fn f caps=>match wD fl s ar caps with
   | some args=>bif qI fl v then some [Go.Proofs.Enters P f,bD P f args [] fun r _=>r=v] else none
   | none=>none
  | _=>none
 | _=>none
def F4 (P:Program) (s:AS) (op:Op) (fl:Bool) (v:AV):Option (List Prop) :=
 match op with
 | .call ⟨.value x,ar,_⟩=>match s.op x with
  | .fn f caps=>match wD fl s ar caps with
   | some args=>some [Go.Proofs.Enters P f,bD P f args [] (fun r _=>r=v),qI fl v=true]
   | none=>none
  | _=>none
 | _=>none
def Fx (P:Program) (s:AS) (op:Op) (fl:Bool) (pl:List (Nat×List (Nat×Nat))) (v:AV):Option (List Prop) :=
 match op with
 | .call ⟨.value x,ar,_⟩=>match s.op x with
  | .fn f caps=>match wD fl s ar caps with
   | some args=>bif qI fl v then some [Go.Proofs.Enters P f,bD P f (sQ pl args) [] fun r _=>r=v] else none
   | none=>none
  | _=>none
 | _=>none
def CZ (P:Program) (s:AS):Op→Option AV
 | .build t ps=>wo P t (s.parts ps)
 | .buildSlice t len ps=>cL P t len (s.parts ps)
 | _=>none
def FI (P:Program) (s:AS):Op→Option (List Prop×AV)
 | .call ⟨.builtin .append,ar,tys⟩=>match ar.toList,tys.toList with
  | [x,y],[t,t']=>if t=t' then (match dZ P t,s.op x,s.op y with
   | some (_,sz,by_),.eslice,.dslice ys=>some ([EL sz ys,ys.length*by_≤140737488355328,ys.length≤9223372036854775807],.dslice ys)
   | _,_,_=>none) else none
  | _,_=>none
 | _=>none
def FC (P:Program) (s:AS) (n j:Nat):Op→Option (Prop×AV)
 | .load t x=>s9 P s t (s.op x) n j
 | _=>none
def Cc (P:Program) (s:AS) (dst:Option Tmp) (n j:Nat):Op→Option (Prop×AS)
 | .store t x y=>match dst with | none=>yx P s t (s.op x) (s.op y) n j | some _=>none
 | _=>none
theorem rF {n j:Nat} {p:Prop} (hg:gd ops s o=some true) (h:Cc P s o.dst n j o.op=some (p,s')) (hp:p):iP P ops o s (· = s'):=by
 unfold Cc at h;split at h
 ·rename_i t x y hop;split at h
  ·rename_i hd;exact ET hg hop hd h hp
  ·cases h
 ·cases h
def IB (P:Program) (s:AS):Op→Option AV
 | .lookup t m x false=>match tF P s t (s.op m) (s.op x) with
  | some v=>some v
  | none=>wB P t (s.op m) (s.op x)
 | _=>none
def nL (b:Bool):Option Bool→Bool
 | some c=>c==b
 | none=>false
theorem aU {b:Bool} {x:Option Bool} (h:nL b x=true):x=some b:=by
 cases x with
 | none=>cases h
 | some c=>simp only [nL,beq_iff_eq] at h;rw [h]
def vz (P:Program) (ops:Array Oper) (s:AS) (o:Oper) (d:pe):Option (List Prop×AV) :=
 bif CR s o.dst then (match d with
 | .s=>bif nL false (gd ops s o) then some ([],.tup []) else none
 | .v=>bif nL true (gd ops s o) then (match fT P s o.op with | some (p,v)=>some (Kf o.op p,v) | none=>none) else none
 | .e v'=>bif nL true (gd ops s o) then (match fT P s o.op with | some (p,v)=>some (Kf o.op p++[v=v'],v') | none=>none) else none
 | .c fl v=>bif nL true (gd ops s o) then (match ID P s o.op fl v with | some ps=>some (ps,v) | none=>none) else none
 | .cf fl v=>bif nL true (gd ops s o) then (match F4 P s o.op fl v with | some ps=>some (ps,v) | none=>none) else none
 | .xc v=>bif nL true (gd ops s o) then (match GK P s o.op v with | some ps=>some (ps,v) | none=>none) else none
 | .b=>bif nL true (gd ops s o) then (match CZ P s o.op with | some v=>some ([],v) | none=>none) else none
 | .bw pl=>bif nL true (gd ops s o) then (match CZ P s o.op with | some v=>some ([],FD pl v) | none=>none) else none
 | .ae=>bif nL true (gd ops s o) then FI P s o.op else none
 | .l v'=>bif nL true (gd ops s o) then (match IB P s o.op with | some v=>some ([v=v'],v') | none=>none) else none
 | .rl n j v'=>bif nL true (gd ops s o) then (match FC P s n j o.op with | some (p,v)=>some ([p,v=v'],v') | none=>none) else none
 | .w=>bif nL true (gd ops s o) then (match Dn P s o.op with | some (p,v)=>some (Hr o.op p,v) | none=>none) else none
 | .we v'=>bif nL true (gd ops s o) then (match Dn P s o.op with | some (p,v)=>some (Hr o.op p++[v=v'],v') | none=>none) else none
 | .cw fl pl v=>bif nL true (gd ops s o) then (match Fx P s o.op fl pl v with | some ps=>some (ps,v) | none=>none) else none
 | _=>none) else none
theorem ax {α:Type} {b:Bool} {x:Option α} {y:α} (h:(bif b then x else none)=some y):b=true∧x=some y:=by
 cases b with
 | true=>exact ⟨rfl,h⟩
 | false=>cases h
theorem tD {d:pe} {ps:List Prop} {v:AV} (h:vz P ops s o d=some (ps,v)) (hp:br ps):Loc P ops o s (.put o.dst v):=by
 unfold vz at h;obtain ⟨hd,h⟩:=ax h;cases d;case s =>
  obtain ⟨hg,h⟩:=ax h;cases h;exact Fp (aU hg) (bZ hd _)
 case v =>
  obtain ⟨hg,h⟩:=ax h;split at h
  ·rename_i p v' hv;cases h;exact DP (aU hg) hv (uZ hv hp) (bZ hd _)
  ·cases h
 case e v0 =>
  obtain ⟨hg,h⟩:=ax h;split at h
  ·rename_i p v' hv;cases h;obtain ⟨h1,h2⟩:=br.append.1 hp;have h3:v'=v:=h2;subst h3;exact DP (aU hg) hv (uZ hv h1) (bZ hd _)
  ·cases h
 case c fl v0 =>
  obtain ⟨hg,h⟩:=ax h;split at h
  ·rename_i ps' hs;simp only [KR,Prod.mk.injEq] at h;obtain ⟨h1,h2⟩:=h;subst h1;subst h2;unfold ID at hs;split at hs
   ·rename_i x ar tys hop;split at hs
    ·rename_i f caps hx;split at hs
     ·rename_i args ha;obtain ⟨hr,hs⟩:=ax hs;cases hs;exact vr hp.1 (aU hg) hop hx _ ha hp.2 hr (bZ hd _)
     ·cases hs
    ·cases hs
   ·cases hs
  ·cases h
 case cf fl v0 =>
  obtain ⟨hg,h⟩:=ax h;split at h
  ·rename_i ps' hs;simp only [KR,Prod.mk.injEq] at h;obtain ⟨h1,h2⟩:=h;subst h1;subst h2;unfold F4 at hs;split at hs
   ·rename_i x ar tys hop;split at hs
    ·rename_i f caps hx;split at hs
     ·rename_i args ha;cases hs;exact vr hp.1 (aU hg) hop hx _ ha hp.2.1 hp.2.2 (bZ hd _)
     ·cases hs
    ·cases hs
   ·cases hs
  ·cases h
 case xc v0 =>
  obtain ⟨hg,h⟩:=ax h;split at h
  ·rename_i ps' hs;simp only [KR,Prod.mk.injEq] at h;obtain ⟨h1,h2⟩:=h;subst h1;subst h2;unfold GK at hs;split at hs
   ·rename_i x ar tys hop;split at hs
    ·rename_i f cs hx;split at hs
     ·rename_i vs us hv hu;cases hs;exact Jc (aU hg) hop hx hv hu hp (bZ hd _)
     ·cases hs
    ·cases hs
   ·cases hs
  ·cases h
 case rl n j v0 =>
  obtain ⟨hg,h⟩:=ax h;split at h
  ·rename_i p v' hv;cases h;obtain ⟨h1,h2⟩:=hp;have h3:v'=v:=h2;subst h3;unfold FC at hv;split at hv
   ·rename_i t x hop;exact D8 (aU hg) hop hv h1 (bZ hd _)
   ·cases hv
  ·cases h
 case w =>
  obtain ⟨hg,h⟩:=ax h;split at h
  ·rename_i p v' hv;cases h;exact F7 (aU hg) hv (xi hv hp) (bZ hd _)
  ·cases h
 case we v0 =>
  obtain ⟨hg,h⟩:=ax h;split at h
  ·rename_i p v' hv;cases h;obtain ⟨h1,h2⟩:=br.append.1 hp;have h3:v'=v:=h2;subst h3;exact F7 (aU hg) hv (xi hv h1) (bZ hd _)
  ·cases h
 case cw fl pl v0 =>
  obtain ⟨hg,h⟩:=ax h;split at h
  ·rename_i ps' hs;simp only [KR,Prod.mk.injEq] at h;obtain ⟨h1,h2⟩:=h;subst h1;subst h2;unfold Fx at hs;split at hs
   ·rename_i x ar tys hop;split at hs
    ·rename_i f caps hx;split at hs
     ·rename_i args ha;obtain ⟨hr,hs⟩:=ax hs;cases hs;exact vr hp.1 (aU hg) hop hx _ ha hp.2.wk hr (bZ hd _)
     ·cases hs
    ·cases hs
   ·cases hs
  ·cases h
 case b =>
  obtain ⟨hg,h⟩:=ax h;split at h
  ·rename_i v' hs;cases h;unfold CZ at hs;split at hs
   ·rename_i t parts hop;exact xu (aU hg) hop hs (bZ hd _)
   ·rename_i t len parts hop;exact ou (aU hg) hop hs (bZ hd _)
   ·cases hs
  ·cases h
 case bw pl =>
  obtain ⟨hg,h⟩:=ax h;split at h
  ·rename_i v' hs;cases h;unfold CZ at hs;split at hs
   ·rename_i t parts hop;exact sA _ (xu (aU hg) hop hs (bZ hd _))
   ·rename_i t len parts hop;exact sA _ (ou (aU hg) hop hs (bZ hd _))
   ·cases hs
  ·cases h
 case ae =>
  obtain ⟨hg,h⟩:=ax h;unfold FI at h;split at h
  ·rename_i ar tys hop;split at h
   ·rename_i x y t t' har hty;split at h;case isFalse=>cases h
    rename_i ht;subst ht;split at h
    ·rename_i e sz by_ ys he hx hy;cases h;have e1:ar = #[x,y]:=by rw [← Array.toList_inj];exact har
     have e2:tys = #[t,t]:=by rw [← Array.toList_inj];exact hty
     subst e1;subst e2;exact Ae (aU hg) hop he hx hy hp.1 hp.2.1 hp.2.2 (bZ hd _)
    ·cases h
   ·cases h
  ·cases h
 case l v0 =>
  obtain ⟨hg,h⟩:=ax h;split at h
  ·rename_i v' hs;cases h;unfold IB at hs;split at hs
   ·rename_i t m x hop;have h3:v'=v:=hp;subst h3;split at hs
    ·rename_i h4;cases hs;exact Gf (aU hg) hop h4 (bZ hd _)
    ·exact Ek (aU hg) hop hs (bZ hd _)
   ·cases hs
  ·cases h
 all_goals cases h
def za (P:Program) (s:AS) (dst:Option Tmp) (v:AV) (h1:List (Nat×AO)):Op→Option (List Prop×cJ)
 | .call ⟨.value x,ar,_⟩=>match s.op x,dst with
  | .fn f caps,some k=>bif AV.flL (s.args ar caps)&&(Nat.blt k s.n&&Nat.blt k 1000) && !(lk .gone h1 0).isR then some ([Go.Proofs.Enters P f,bD P f (s.args ar caps) [] fun r h=>r=v∧h=h1],⟨[(k,AV.ren [(0,k)] v)],[(k,AO.ren [(0,k)] (lk .gone h1 0))],[k],[]⟩) else none
  | _,_=>none
 | _=>none
theorem wJ {v:AV} {h1:List (Nat×AO)} {ps:List Prop} {e:cJ} (hg:gd ops s o=some true) (h:za P s o.dst v h1 o.op=some (ps,e)) (hp:br ps):Loc P ops o s e:=by
 unfold za at h;split at h
 ·rename_i x ar tys hop;split at h
  ·rename_i f caps k hx hd;obtain ⟨hc,h⟩:=ax h;rw [KJ,KJ] at hc;cases h;exact Es hp.1 hg hop hx hc.1.1 hd hc.1.2 (by simpa using hc.2) hp.2
  ·cases h
 ·cases h
def Co (P:Program) (s:AS) (dst:Option Tmp) (zs:List (List AV)) (es':jx):Op→Option (List Prop×cJ)
 | .lookup t m x false=>match s.op m,s.op x,dst,P.underlying t with
  | .amap k,.str y,some q,some (.map K E)=>match lk .gone s.h k,P.underlying K,zeroOf P E with
   | .rmap e sz es,some .string,some (.slice none 0 0)=>bif Nat.blt q s.n&&Nat.blt q 1000 then some ([Ha y es=true,rC y es=zs,cM y es=es'],⟨[(q,.rslice q)],[(q,.row e sz zs),(k,.rmap e sz es')],[q],[]⟩) else none
   | _,_,_=>none
  | _,_,_,_=>none
 | _=>none
theorem ym {zs:List (List AV)} {es':jx} {ps:List Prop} {e:cJ} (hg:gd ops s o=some true) (h:Co P s o.dst zs es' o.op=some (ps,e)) (hp:br ps):Loc P ops o s e:=by
 unfold Co at h;split at h
 ·rename_i t m x hop;split at h
  ·rename_i k y q K E hm hx hd hu;split at h
   ·rename_i e' sz es hk hK hz;obtain ⟨hc,h⟩:=ax h;cases h;exact Ef hg hop hd hm hx hk hu hK hz hp.1 hp.2.1 hp.2.2 hc
   ·cases h
  ·cases h
 ·cases h
def yz (P:Program) (s:AS) (dst:Option Tmp) (zs:List (List AV)) (es':jx):Op→Option (List Prop×AS)
 | .lookup t m x false=>match s.op m,s.op x,dst,P.underlying t with
  | .amap k,.str y,some q,some (.map K E)=>match lk .gone s.h k,P.underlying K,zeroOf P E with
   | .rmap e sz es,some .string,some (.slice none 0 0)=>bif Nat.blt q s.n&&Nat.blt q 1000 then some ([Ha y es=true,rC y es=zs,cM y es=es'],s.take k q e sz zs es') else none
   | _,_,_=>none
  | _,_,_,_=>none
 | _=>none
theorem pY {zs:List (List AV)} {es':jx} {ps:List Prop} (hg:gd ops s o=some true) (h:yz P s o.dst zs es' o.op=some (ps,s')) (hp:br ps):iP P ops o s (· = s'):=by
 unfold yz at h;split at h
 ·rename_i t m x hop;split at h
  ·rename_i k y q K E hm hx hd hu;split at h
   ·rename_i e' sz es hk hK hz;obtain ⟨hc,h⟩:=ax h;simp only [KJ,Nat.blt_eq] at hc;cases h;obtain ⟨p1,p2,p3⟩:=hp;have p3:cM y es=es':=p3;subst p2;subst p3;exact zz hg hop hd hm hx hk hu hK hz p1 hc
   ·cases h
  ·cases h
 ·cases h
def B4 (P:Program) (s:AS) (dst:Option Tmp) (es':jx):Op→Option (List Prop×AS)
 | .mapUpdate t m x v=>match s.op m,s.op x,s.op v,dst,P.underlying t with
  | .amap k,.str y,.rslice q,none,some (.map K E)=>match lk .gone s.h k,lk .gone s.h q,P.underlying K,zeroOf P E with
   | .rmap e sz es,.row e2 sz2 zs,some .string,some _=>if e2=e∧sz2=sz∧s.noR=true then some ([es.length<1000000,eR y zs es=es'],s.stow k q e sz es') else none
   | _,_,_,_=>none
  | _,_,_,_,_=>none
 | _=>none
theorem qQ {es':jx} {ps:List Prop} (hg:gd ops s o=some true) (h:B4 P s o.dst es' o.op=some (ps,s')) (hp:br ps):iP P ops o s (· = s'):=by
 unfold B4 at h;split at h
 ·rename_i t m x v hop;split at h
  ·rename_i k y q K E hm hx hv hd hu;split at h
   ·rename_i e sz es e2 sz2 zs z hk hq hK hz;split at h;case isFalse=>cases h
    rename_i hc;obtain ⟨rfl,rfl,hn⟩:=hc;cases h;obtain ⟨p1,p2⟩:=hp;have p2:eR y zs es=es':=p2;subst p2;exact FX hg hop hd hm hx hv hq hk hn hu hK hz p1
   ·cases h
  ·cases h
 ·cases h
def B2 (P:Program) (ops:Array Oper) (s:AS) (es':jx) (o1 o2 o3:Oper):Option (List Prop×AS) :=
 match o1.op,o1.dst,o2.op,o2.dst,o3.op,o3.dst with
 | .mapEntry t (.tmp tm) x,some t1,.extract (.tmp t1') 1,some t2,.entryStore t' (.tmp tm') (.tmp t2') (.tmp tv),none =>
  if (t1'=t1∧t'=t∧tm'=tm∧t2'=t2∧o2.guard=none∧o3.guard=none)∧(t1<s.n∧t2<s.n∧t1≠t2∧tm≠t1∧tm≠t2∧tv≠t1∧tv≠t2)∧gd ops s o1=some true∧s.noR=true then
   (match lk .any s.t tm,s.op x,lk .any s.t tv,P.underlying t with
   | .amap k,.str y,.rslice q,some (.map K E)=>match lk .gone s.h k,lk .gone s.h q,P.underlying K,zeroOf P E with
    | .rmap e sz es,.row e2 sz2 zs,some .string,some _=>if e2=e∧sz2=sz then some ([es.length<1000000,eR y zs es=es'],⟨s.n,ins t2 .any (ins t1 .any (s.stow k q e sz es').t),(s.stow k q e sz es').h⟩) else none
    | _,_,_,_=>none
   | _,_,_,_=>none) else none
 | _,_,_,_,_,_=>none
theorem yh {es':jx} {o1 o2 o3:Oper} {rest:List Oper} {Q:Exit→AS→Prop} {ps:List Prop} (h:B2 P ops s es' o1 o2 o3=some (ps,s')) (hp:br ps) (hr:fR P ops rest Q s'):fR P ops (o1::o2::o3::rest) Q s:=by
 unfold B2 at h;split at h
 ·rename_i t tm x t1 t1' t2 t' tm' t2' tv h1 d1 h2 d2 h3 d3;split at h;case isFalse=>cases h
  rename_i hc;obtain ⟨⟨rfl,rfl,rfl,rfl,n2,n3⟩,ht,hg,hn⟩:=hc;split at h
  ·rename_i k y q K E hm hx hv hu;split at h
   ·rename_i e sz es e2 sz2 zs z hk hq hK hz;split at h;case isFalse=>cases h
    rename_i hc;obtain ⟨rfl,rfl⟩:=hc;cases h;obtain ⟨p1,p2⟩:=hp;have p2:eR y zs es=es':=p2;subst p2;exact Ka hg h1 d1 h2 d2 n2 h3 d3 n3 ht hm hx hv hq hk hn hu hK hz p1 hr
   ·cases h
  ·cases h
 ·cases h
def Bh (P:Program) (ops:Array Oper) (s:AS) (o:Oper) (d:pe):Option (List Prop×cJ) :=
 match d with
 | .m=>bif nL true (gd ops s o) then (match FY P s o.dst o.op with | some e=>some ([],e) | none=>none) else none
 | .apx zs=>bif nL true (gd ops s o) then Fb P s o.dst zs o.op else none
 | .hN v h1=>bif nL true (gd ops s o) then za P s o.dst v h1 o.op else none
 | .lk zs es=>bif nL true (gd ops s o) then Co P s o.dst zs es o.op else none
 | .qo (.tk zs es)=>bif nL true (gd ops s o) then BU P s o.dst zs es o.op else none
 | d=>match vz P ops s o d with
  | some (p,v)=>some (p,.put o.dst v)
  | none=>none
theorem br.mem {ps:List Prop} (h:br ps):∀ p∈ps,p:=by
 induction ps with
 | nil=>intro p hp;cases hp
 | cons q qs ih =>
  obtain ⟨h1,h2⟩:=br.cons.1 h;intro p hp;rcases List.mem_cons.1 hp with rfl | hp
  ·exact h1
  ·exact ih h2 p hp
theorem oL {d:pe} {ps:List Prop} {e:cJ} (h:Bh P ops s o d=some (ps,e)) (hp:br ps):Loc P ops o s e:=by
 unfold Bh at h;split at h
 ·obtain ⟨hg,h⟩:=ax h;split at h
  ·rename_i e' he;cases h;exact Aj (aU hg) he
  ·cases h
 ·obtain ⟨hg,h⟩:=ax h;exact zu (aU hg) h hp.mem
 ·obtain ⟨hg,h⟩:=ax h;exact wJ (aU hg) h hp
 ·obtain ⟨hg,h⟩:=ax h;exact ym (aU hg) h hp
 ·obtain ⟨hg,h⟩:=ax h;exact yb (aU hg) h hp.mem
 ·split at h
  ·rename_i p v hv;cases h;exact tD hv hp
  ·cases h
def Cn (P:Program) (ops:Array Oper):List Oper→List pe→AS→Option (List Prop×List cJ)
 | [],[],_=>some ([],[])
 | o::os,d::ds,s=>match Bh P ops s o d with
  | some (p,e)=>match Cn P ops os ds (e.app s) with
   | some (ps,es)=>some (p++ps,e::es)
   | none=>none
  | none=>none
 | _,_,_=>none
def apps:List cJ→AS→AS
 | [],s=>s
 | e::es,s=>apps es (e.app s)
theorem uX:∀ {os:List Oper} {ds:List pe} {s:AS} {ps:List Prop} {es:List cJ},Cn P ops os ds s=some (ps,es)→br ps→xH P ops os es s (apps es s)
 | [],[],s,ps,es,h,hp=>by simp only [Cn] at h;cases h;rfl
 | [],_::_,s,ps,es,h,hp=>by simp only [Cn] at h;cases h
 | _::_,[],s,ps,es,h,hp=>by simp only [Cn] at h;cases h
 | o::os,d::ds,s,ps,es,h,hp=>by
  simp only [Cn] at h;split at h
  ·rename_i p e hv;split at h
   ·rename_i ps' es' hr;cases h;obtain ⟨h1,h2⟩:=br.append.1 hp;exact ⟨oL hv h1,uX hr h2⟩
   ·cases h
  ·cases h
theorem Loc.op {e:cJ} (h:Loc P ops o s e) (hf:e.fr=[]) (hx:e.ex=[]):iP P ops o s (fun s''=>iM (e.app s) s'') :=
 h s ⟨rfl,fun _ _=>rfl,fun _ _ _ _ _=>rfl⟩ (fun k hk=>by rw [hf] at hk;cases hk) (fun p hp=>by rw [hx] at hp;cases hp)
def EY (P:Program) (s:AS) (dst:Option Tmp):Op→Option AS
 | .box t x=>match dst with | some k=>yk s t (s.op x) k | none=>none
 | .alloc t=>match dst,zeroOf P t with | some k,some z=>yk s t (AV.of z) k | _,_=>none
 | .store t x y=>match dst with | none=>se P s t (s.op x) (s.op y) | some _=>none
 | .makeMap t none=>match dst with | some k=>uE P s t k | none=>none
 | .mapUpdate t m x y=>match dst with | none=>C8 P s t (s.op m) (s.op x) (s.op y) | some _=>none
 | .range t m=>match dst with | some k=>Ch P s t (s.op m) k | none=>none
 | op=>match sv P s op with | some v=>s.put dst v | none=>none
theorem sW (hg:gd ops s o=some true) (h:EY P s o.dst o.op=some s'):iP P ops o s (· = s'):=by
 unfold EY at h;split at h
 ·rename_i t x hop;split at h
  ·rename_i k hd;exact Ff hg hop hd h
  ·cases h
 ·rename_i t hop;split at h
  ·rename_i k z hd hz;exact z7 hg hop hd hz h
  ·cases h
 ·rename_i t x y hop;split at h
  ·rename_i hd;exact A5 hg hop hd h
  ·cases h
 ·rename_i t hop;split at h
  ·rename_i k hd;exact BG hg hop hd h
  ·cases h
 ·rename_i t m x y hop;split at h
  ·rename_i hd;exact Ic hg hop hd h
  ·cases h
 ·rename_i t m hop;split at h
  ·rename_i k hd;exact Fs hg hop hd h
  ·cases h
 ·split at h
  ·exact Bm hg (by assumption) h
  ·cases h
def FA (P:Program) (s:AS) (dst:Option Tmp) (ps:List (Nat×Nat)) (v:AV) (h1:List (Nat×AO)):Op→Option (List Prop×AS)
 | .call ⟨.value x,ar,_⟩=>match s.op x with
  | .fn f caps=>bif lC ps&&(ps.all fun p=>(lk .gone s.h p.1).liveB&&(Nat.ble 1000 p.2&&Nat.blt p.2 1000000))&&(AV.fl v&&h1.all fun p => !p.2.isR) then (match AS.put ⟨s.n,s.t,back ps h1 ps s.h⟩ dst v with
   | some s'=>some ([Go.Proofs.Enters P f,bD P f ((s.args ar caps).map (AV.ren ps)) (hand ps s.h) fun r h'=>r=v∧h'=h1],s')
   | none=>none) else none
  | _=>none
 | _=>none
theorem tI {ps:List (Nat×Nat)} {v:AV} {h1:List (Nat×AO)} {qs:List Prop} (hg:gd ops s o=some true) (h:FA P s o.dst ps v h1 o.op=some (qs,s')) (hp:br qs):iP P ops o s (· = s'):=by
 unfold FA at h;split at h
 ·rename_i x ar tys hop;split at h
  ·rename_i f caps hx;obtain ⟨hc,h2⟩:=ax h;rw [KJ] at hc;split at h2
   ·rename_i s2 hs;simp only [KR,Prod.mk.injEq] at h2;obtain ⟨h3,h4⟩:=h2;subst h3;subst h4;exact GB hp.1 hg hop hx ps hc.1 rfl rfl hp.2 fun r h' hr=>by obtain ⟨rfl,rfl⟩:=hr;have hc2:=hc.2;rw [KJ] at hc2;exact ⟨hc2.1,hc2.2,_,hs,rfl⟩
   ·cases h2
  ·cases h
 ·cases h
def yH (P:Program) (s:AS) (dst:Option Tmp) (ps:List (Nat×Nat)) (d:Nat) (v:AV) (h1:List (Nat×AO)) (f:FuncId) (args0:List AV):Option (List Prop×AS) :=
 bif lC ps&&(ps.all fun p=>Nat.ble 1000 p.2&&(Nat.blt p.2 1000000&&Nat.blt p.1 1000000))&&(rk ps d).isNone&&Nat.blt d 1000&&(s.noR||(ps.isEmpty && !(lk .gone h1 0).isR)) then (match AS.put ⟨s.n,gq d s.t,iX ps d h1 s.h⟩ dst (AV.ren ((0,d)::swp ps) v) with
  | some s'=>some ([Go.Proofs.Enters P f,bD P f (args0.map (AV.ren ps)) (hand ps s.h) fun r h'=>r=v∧h'=h1],s')
  | none=>none) else none
def G2 (P:Program) (s:AS) (dst:Option Tmp) (ps:List (Nat×Nat)) (d:Nat) (v:AV) (h1:List (Nat×AO)):Op→Option (List Prop×AS)
 | .call ⟨.value x,ar,_⟩=>match s.op x with
  | .fn f caps=>yH P s dst ps d v h1 f (s.args ar caps)
  | .bm f k off=>yH P s dst ps d v h1 f (AV.hptr k off::s.args ar [])
  | _=>none
 | _=>none
theorem tc {ps:List (Nat×Nat)} {d:Nat} {v:AV} {h1:List (Nat×AO)} {qs:List Prop} (hg:gd ops s o=some true) (h:G2 P s o.dst ps d v h1 o.op=some (qs,s')) (hp:br qs):iP P ops o s (· = s'):=by
 have key:∀ {f:FuncId} {args0:List AV} {x:Operand} {ar:Array Operand} {tys:Array TypeId},o.op = .call ⟨.value x,ar,tys⟩→(Go.Proofs.Enters P f→∀ (c:Cx P) a w β κ,Rel c s a w β κ→∃ vs:Array Value,(execOp a.eval o).run P w = .ok (.enter f vs) w∧vs.size=args0.length∧∀ i,i<args0.length→G w (c.XX s.h β) β κ (args0.getD i .any) (vs.toList.getD i undef))→yH P s o.dst ps d v h1 f args0=some (qs,s')→iP P ops o s (· = s'):=by
  intro f args0 x ar tys hop hx h;unfold yH at h;obtain ⟨hc0,h2⟩:=ax h;rw [KJ] at hc0;obtain ⟨hc,hor⟩:=hc0;have hor:s.noR=true∨(ps=[]∧∀ v2 h',(v2=v∧h'=h1)→(lk .gone h' 0).isR=false):=by rw [Bool.or_eq_true,KJ] at hor;refine hor.imp id fun h=>⟨by simpa using h.1,fun v2 h' e => ?_⟩;rw [e.2];simpa using h.2
  split at h2
  ·rename_i s2 hs;simp only [KR,Prod.mk.injEq] at h2;obtain ⟨h3,h4⟩:=h2;subst h3;subst h4;exact AZ hp.1 hg hop (hx hp.1) ps d hc hor rfl rfl hp.2 fun r h' hr=>by obtain ⟨rfl,rfl⟩:=hr;exact ⟨_,hs,rfl⟩
  ·cases h2
 unfold G2 at h;split at h
 ·rename_i x ar tys hop;split at h
  ·rename_i f caps hx;exact key hop (fun he=>yT he hop hx) h
  ·rename_i f k off hx;exact key hop (fun he=>C0 he hop hx) h
  ·cases h
 ·cases h
def yR (P:Program) (s:AS) (dst:Option Tmp) (ps ds:List (Nat×Nat)) (v:AV) (h1:List (Nat×AO)) (f:FuncId) (args0:List AV):Option (List Prop×AS) :=
 bif (lC ps&&(ps.all fun p=>Nat.ble 1000 p.2&&(Nat.blt p.2 1000000&&Nat.blt p.1 1000000))&&lC ds&&ds.all fun p=>(rk ps p.2).isNone&&(Nat.blt p.1 1000&&Nat.blt p.2 1000))&&(s.noR||(ps.isEmpty&&h1.all fun p => !p.2.isR)) then (match AS.put ⟨s.n,DR ds s.t,kz ps ds h1 s.h⟩ dst (AV.ren (ds++swp ps) v) with
  | some s'=>some ([Go.Proofs.Enters P f,bD P f (args0.map (AV.ren ps)) (hand ps s.h) fun r h'=>r=v∧h'=h1],s')
  | none=>none) else none
def BP (P:Program) (s:AS) (dst:Option Tmp) (ps ds:List (Nat×Nat)) (v:AV) (h1:List (Nat×AO)):Op→Option (List Prop×AS)
 | .call ⟨.value x,ar,_⟩=>match s.op x with
  | .fn f caps=>yR P s dst ps ds v h1 f (s.args ar caps)
  | .bm f k off=>yR P s dst ps ds v h1 f (AV.hptr k off::s.args ar [])
  | _=>none
 | _=>none
theorem qN {ps ds:List (Nat×Nat)} {v:AV} {h1:List (Nat×AO)} {qs:List Prop} (hg:gd ops s o=some true) (h:BP P s o.dst ps ds v h1 o.op=some (qs,s')) (hp:br qs):iP P ops o s (· = s'):=by
 have key:∀ {f:FuncId} {args0:List AV} {x:Operand} {ar:Array Operand} {tys:Array TypeId},o.op = .call ⟨.value x,ar,tys⟩→(Go.Proofs.Enters P f→∀ (c:Cx P) a w β κ,Rel c s a w β κ→∃ vs:Array Value,(execOp a.eval o).run P w = .ok (.enter f vs) w∧vs.size=args0.length∧∀ i,i<args0.length→G w (c.XX s.h β) β κ (args0.getD i .any) (vs.toList.getD i undef))→yR P s o.dst ps ds v h1 f args0=some (qs,s')→iP P ops o s (· = s'):=by
  intro f args0 x ar tys hop hx h;unfold yR at h;obtain ⟨hc0,h2⟩:=ax h;rw [KJ] at hc0;obtain ⟨hc,hor⟩:=hc0;have hor:s.noR=true∨(ps=[]∧∀ v2 h',(v2=v∧h'=h1)→∀ j,(lk .gone h' j).isR=false):=by rw [Bool.or_eq_true,KJ] at hor;refine hor.imp id fun h=>⟨by simpa using h.1,fun v2 h' e j => ?_⟩;rw [e.2];have:=tY (p:=fun o:AO => !o.isR) (d:=AO.gone) rfl h.2 j;simpa using this
  split at h2
  ·rename_i s2 hs;simp only [KR,Prod.mk.injEq] at h2;obtain ⟨h3,h4⟩:=h2;subst h3;subst h4;exact Gr hp.1 hg hop (hx hp.1) ps ds hc hor rfl rfl hp.2 fun r h' hr=>by obtain ⟨rfl,rfl⟩:=hr;exact ⟨_,hs,rfl⟩
  ·cases h2
 unfold BP at h;split at h
 ·rename_i x ar tys hop;split at h
  ·rename_i f caps hx;exact key hop (fun he=>yT he hop hx) h
  ·rename_i f k off hx;exact key hop (fun he=>C0 he hop hx) h
  ·cases h
 ·cases h
def rowAt (s:AS):AV→Option (Nat×List (List AV))
 | .rslice k=>match lk .gone s.h k with | .row _ _ xs=>some (k,xs) | _=>none
 | _=>none
def J0:AV→Option (List (List AV))
 | .dslice ys=>some ys
 | .eslice=>some []
 | _=>none
def J8 (s:AS) (x:AV):Option TypeId:=match x with | .rslice k=>(match lk .gone s.h k with | .row e _ _=>some e | _=>none) | _=>none
def J5 (s:AS) (x:AV):Option Nat:=match x with | .rslice k=>(match lk .gone s.h k with | .row _ e _=>some e | _=>none) | _=>none
def FF (P:Program) (s:AS) (dst:Option Tmp):Op→Option (List Prop×AS)
 | .call ⟨.builtin .append,ar,tys⟩=>match ar.toList,tys.toList,dst with
  | [x,y],[t,t'],some k'=>if t=t' then (match dZ P t,rowAt s (s.op x),J0 (s.op y) with
   | some (e,sz,by_),some (k,xs),some ys=>if J8 s (s.op x)=some e∧J5 s (s.op x)=some sz then (match s.grow k k' e sz (xs++ys) with
    | some s'=>some ([EL sz ys,(xs.length+ys.length)*by_≤140737488355328,xs.length+ys.length≤9223372036854775807],s')
    | none=>none) else none
   | _,_,_=>none) else none
  | _,_,_=>none
 | .buildSlice t len ps=>match dst,dZ P t,cL P t len (s.parts ps) with
  | some k',some (e,sz,_),some (.dslice xs)=>(match s.grow k' k' e sz xs with | some s'=>some ([],s') | none=>none)
  | _,_,_=>none
 | _=>none
theorem ta {ps:List Prop} (hg:gd ops s o=some true) (h:FF P s o.dst o.op=some (ps,s')) (hp:br ps):iP P ops o s (· = s'):=by
 unfold FF at h;split at h
 ·rename_i ar tys hop;split at h
  ·rename_i x y t t' k' har hty hd;split at h;case isFalse=>cases h
   rename_i ht;subst ht;have e1:ar = #[x,y]:=by rw [← Array.toList_inj];exact har
   have e2:tys = #[t,t]:=by rw [← Array.toList_inj];exact hty
   subst e1;subst e2;split at h
   ·rename_i e sz by_ k xs ys he hx hy;split at h;case isFalse=>cases h
    rename_i hm;split at h
    ·rename_i s2 hs;cases h;have hx':s.op x = .rslice k∧lk .gone s.h k = .row e sz xs:=by
      unfold rowAt at hx;split at hx
      ·rename_i k2 hk2;split at hx
       ·rename_i e3 sz3 xs3 h3;cases hx;simp only [hk2,J8,J5,h3,KR] at hm;obtain ⟨e4,e5⟩:=hm;subst e4;subst e5;exact ⟨hk2,h3⟩
       ·cases hx
      ·cases hx
     have hy':s.op y = .dslice ys∨(s.op y = .eslice∧ys=[]):=by
      unfold J0 at hy;split at hy
      ·cases hy;exact .inl (by assumption)
      ·cases hy;exact .inr ⟨by assumption,rfl⟩
      ·cases hy
     exact sF hg hop hd he (.inr hx') hy' hp.1 hp.2.1 hp.2.2 hs
    ·cases h
   ·cases h
  ·cases h
 ·rename_i t len ps hop;split at h
  ·rename_i k' e2 sz by_ xs hd he hv;split at h
   ·rename_i s2 hs;cases h;exact te hg hop hd he hv hs
   ·cases h
  ·cases h
 ·cases h
def stepG (P:Program) (s:AS) (dst:Option Tmp):Op→Option (List Prop×AS)
 | .call ⟨.builtin .append,ar,tys⟩=>match ar.toList,tys.toList,dst with
  | [x,y],[t,t'],some k'=>if t=t' then (match dZ P t,s.op x,s.op y with
   | some (e,sz,by_),.gslice k,.dslice []=>(match s.put dst (.gslice k) with | some s'=>some ([],s') | none=>none)
   | some (e,sz,by_),.gslice k,.dslice (y0::ys)=>(match lk .gone s.h k with
    | .room e' sz'=>if e'=e∧sz'=sz then (match s.grow k k' e sz (y0::ys) with
     | some s'=>some ([EL sz (y0::ys),(y0::ys).length*by_≤140737488355328,(y0::ys).length≤9223372036854775807],s')
     | none=>none) else none
    | _=>none)
   | _,_,_=>none) else none
  | _,_,_=>none
 | _=>none
theorem tf {ps:List Prop} (hg:gd ops s o=some true) (h:stepG P s o.dst o.op=some (ps,s')) (hp:br ps):iP P ops o s (· = s'):=by
 unfold stepG at h;split at h
 ·rename_i ar tys hop;split at h
  ·rename_i x y t t' k' har hty hd;split at h;case isFalse=>cases h
   rename_i ht;subst ht;have e1:ar = #[x,y]:=by rw [← Array.toList_inj];exact har
   have e2:tys = #[t,t]:=by rw [← Array.toList_inj];exact hty
   subst e1;subst e2;split at h
   ·rename_i e sz by_ k he hx hy;split at h
    ·rename_i s2 hs;cases h;exact Bw hg hop he hx hy hs
    ·cases h
   ·rename_i e sz by_ k y0 ys he hx hy;split at h
    ·rename_i e' sz' hk;split at h;case isFalse=>cases h
     rename_i hm;obtain ⟨rfl,rfl⟩:=hm;split at h
     ·rename_i s2 hs;cases h;exact Ca hg hop hd he hx hk hy (by simp) hp.1 hp.2.1 hp.2.2 hs
     ·cases h
    ·cases h
   ·cases h
  ·cases h
 ·cases h
def Gt (s:AS) (dst:Option Tmp) (i:Nat) (v':AV):Op→Option (List Prop×AS)
 | .entry it=>match s.op it with
  | .hptr k 0=>match lk .gone s.h k with
   | .iter es sn=>match s.put dst v' with
    | some s'=>some ([sn.getLast? = some i,AV.tup [.str (es.getD i default).1,(es.getD i default).2]=v'],s')
    | none=>none
   | _=>none
  | _=>none
 | _=>none
theorem th {i:Nat} {v':AV} {ps:List Prop} (hg:gd ops s o=some true) (h:Gt s o.dst i v' o.op=some (ps,s')) (hp:br ps):iP P ops o s (· = s'):=by
 unfold Gt at h;split at h
 ·rename_i it hop;split at h
  ·rename_i k hi;split at h
   ·rename_i es sn hk;split at h
    ·rename_i s2 hs;cases h;obtain ⟨h1,h2⟩:=hp;have h2:AV.tup [.str (es.getD i default).1,(es.getD i default).2]=v':=h2;subst h2;exact GQ hg hop hi hk h1 hs
    ·cases h
   ·cases h
  ·cases h
 ·cases h
def bj (P:Program) (ops:Array Oper):List Oper→List pe→AS→Option (List Prop×AS×List Oper)
 | os,[],s=>some ([],s,os)
 | os,.fz k::ds,s=>match s.frz k with | some s'=>bj P ops os ds s' | none=>none
 | os,.fm k::ds,s=>match s.frzM k with
  | some (p,s')=>(match bj P ops os ds s' with | some (ps,r)=>some (p::ps,r) | none=>none)
  | none=>none
 | os,.fr k::ds,s=>match s.frzR k with
  | some (p,s')=>(match bj P ops os ds s' with | some (ps,r)=>some (p::ps,r) | none=>none)
  | none=>none
 | os,.fw k::ds,s=>match s.frzW k with
  | some (p,s')=>(match bj P ops os ds s' with | some (ps,r)=>some (p::ps,r) | none=>none)
  | none=>none
 | os,.ew t k eo e sz::ds,s=>match s.errow t k eo e sz with | some s'=>bj P ops os ds s' | none=>none
 | os,.tr k e sz::ds,s=>match s.toR k e sz with | some s'=>bj P ops os ds s' | none=>none
 | o1::o2::o3::os,.es3 es::ds,s=>(match B2 P ops s es o1 o2 o3 with
  | some (p,s')=>(match bj P ops os ds s' with | some (ps,r)=>some (p++ps,r) | none=>none)
  | none=>none)
 | os,.er t k e sz::ds,s=>match s.erow t k e sz with | some s'=>bj P ops os ds s' | none=>none
 | os,.wk t p::ds,s=>bj P ops os ds (s.wkT t p)
 | os,.rwT t v::ds,s=>match bj P ops os ds ⟨s.n,ins t v s.t,s.h⟩ with
  | some (ps,r)=>some ((lk .any s.t t=v)::ps,r)
  | none=>none
 | os,.rwH k ob::ds,s=>match bj P ops os ds ⟨s.n,s.t,ins k ob s.h⟩ with
  | some (ps,r)=>some ((lk .gone s.h k=ob)::ps,r)
  | none=>none
 | o::os,.m::ds,s=>bif nL true (gd ops s o) then (match EY P s o.dst o.op with | some s'=>bj P ops os ds s' | none=>none) else none
 | o::os,.rs n j::ds,s=>bif nL true (gd ops s o) then (match Cc P s o.dst n j o.op with
  | some (p,s')=>(match bj P ops os ds s' with | some (ps,r)=>some (p::ps,r) | none=>none)
  | none=>none) else none
 | o::os,.ap::ds,s=>bif nL true (gd ops s o) then (match FF P s o.dst o.op with
  | some (p,s')=>(match bj P ops os ds s' with | some (ps,r)=>some (p++ps,r) | none=>none)
  | none=>none) else none
 | o::os,.lk zs es::ds,s=>bif nL true (gd ops s o) then (match yz P s o.dst zs es o.op with
  | some (p,s')=>(match bj P ops os ds s' with | some (ps,r)=>some (p++ps,r) | none=>none)
  | none=>none) else none
 | o::os,.ms es::ds,s=>bif nL true (gd ops s o) then (match B4 P s o.dst es o.op with
  | some (p,s')=>(match bj P ops os ds s' with | some (ps,r)=>some (p++ps,r) | none=>none)
  | none=>none) else none
 | o::os,.qo q::ds,s=>bif nL true (gd ops s o) then (match Fq P s o.dst q o.op with
  | some (p,s')=>(match bj P ops os ds s' with | some (ps,r)=>some (p++ps,r) | none=>none)
  | none=>none) else none
 | o::os,.apg::ds,s=>bif nL true (gd ops s o) then (match stepG P s o.dst o.op with
  | some (p,s')=>(match bj P ops os ds s' with | some (ps,r)=>some (p++ps,r) | none=>none)
  | none=>none) else none
 | o::os,.en i v::ds,s=>bif nL true (gd ops s o) then (match Gt s o.dst i v o.op with
  | some (p,s')=>(match bj P ops os ds s' with | some (ps,r)=>some (p++ps,r) | none=>none)
  | none=>none) else none
 | o::os,.h qs v h1::ds,s=>bif nL true (gd ops s o) then (match FA P s o.dst qs v h1 o.op with
  | some (p,s')=>(match bj P ops os ds s' with | some (ps,r)=>some (p++ps,r) | none=>none)
  | none=>none) else none
 | o::os,.hR qs d v h1::ds,s=>bif nL true (gd ops s o) then (match G2 P s o.dst qs d v h1 o.op with
  | some (p,s')=>(match bj P ops os ds s' with | some (ps,r)=>some (p++ps,r) | none=>none)
  | none=>none) else none
 | o::os,.hM qs qd v h1::ds,s=>bif nL true (gd ops s o) then (match BP P s o.dst qs qd v h1 o.op with
  | some (p,s')=>(match bj P ops os ds s' with | some (ps,r)=>some (p++ps,r) | none=>none)
  | none=>none) else none
 | o::os,d::ds,s=>match vz P ops s o d with
  | some (p,v)=>(match bj P ops os ds ((cJ.put o.dst v).app s) with | some (ps,r)=>some (p++ps,r) | none=>none)
  | none=>none
 | [],_::_,_=>none
theorem fR.same {rest:List Oper} {Q:Exit→AS→Prop} (h:fR P ops rest Q s) (e:iM s' s):fR P ops rest Q s':=fun c a w β κ r=>h c a w β κ (r.same e)
theorem JL {rest:List Oper} {Q:Exit→AS→Prop} {t k:Nat} {e:TypeId} {sz:Nat} (h:s.erow t k e sz=some s') (ht:fR P ops rest Q s'):fR P ops rest Q s:=fun c a w β κ r=>by obtain ⟨κ',r'⟩:=r.erow h;exact ht c a w β κ' r'
theorem Ji {rest:List Oper} {Q:Exit→AS→Prop} {k:Nat} {p:Prop} (h:s.frzM k=some (p,s')) (hp:p) (ht:fR P ops rest Q s'):fR P ops rest Q s:=fun c a w β κ r=>ht c a w β κ (r.frzM h hp)
theorem Bc {t:Nat} {v:AV} (h:lk .any s.t t=v):iM ⟨s.n,ins t v s.t,s.h⟩ s:=⟨rfl,fun i=>by
 show lk .any s.t i=lk .any (ins t v s.t) i;rw [aD];split
 ·rename_i e;rw [e];exact h
 ·rfl,fun _=>rfl⟩
theorem Gv {k:Nat} {ob:AO} (h:lk .gone s.h k=ob):iM ⟨s.n,s.t,ins k ob s.h⟩ s:=⟨rfl,fun _=>rfl,fun i=>by
 show lk .gone s.h i=lk .gone (ins k ob s.h) i;rw [aD];split
 ·rename_i e;rw [e];exact h
 ·rfl⟩
theorem Fv {rest:List Oper} {Q:Exit→AS→Prop} {t:Nat} {v:AV} (h:lk .any s.t t=v) (ht:fR P ops rest Q ⟨s.n,ins t v s.t,s.h⟩):fR P ops rest Q s :=
 fun c a w β κ r=>ht c a w β κ (r.same (iM.symm' (Bc h)))
theorem FZ {rest:List Oper} {Q:Exit→AS→Prop} {k:Nat} {ob:AO} (h:lk .gone s.h k=ob) (ht:fR P ops rest Q ⟨s.n,s.t,ins k ob s.h⟩):fR P ops rest Q s :=
 fun c a w β κ r=>ht c a w β κ (r.same (iM.symm' (Gv h)))
theorem Js {rest:List Oper} {Q:Exit→AS→Prop} (t:Nat) (p:List (Nat×Nat)) (ht:fR P ops rest Q (s.wkT t p)):fR P ops rest Q s:=fun c a w β κ r=>by exact ht c a w β κ (r.wkT t p)
theorem xo {es:jx}:vz P ops s o (.es3 es)=none:=by unfold vz;cases CR s o.dst<;>rfl
theorem JZ {rest:List Oper} {Q:Exit→AS→Prop} {k:Nat} {p:Prop} (h:s.frzR k=some (p,s')) (hp:p) (ht:fR P ops rest Q s'):fR P ops rest Q s:=fun c a w β κ r=>ht c a w β κ (r.frzR h hp)
theorem JF {rest:List Oper} {Q:Exit→AS→Prop} {k:Nat} {p:Prop} (h:s.frzW k=some (p,s')) (hp:p) (ht:fR P ops rest Q s'):fR P ops rest Q s:=fun c a w β κ r=>ht c a w β κ (r.frzW h hp)
theorem Jm {rest:List Oper} {Q:Exit→AS→Prop} {t k:Nat} {eo e:TypeId} {sz:Nat} (h:s.errow t k eo e sz=some s') (ht:fR P ops rest Q s'):fR P ops rest Q s:=fun c a w β κ r=>by obtain ⟨κ',r'⟩:=r.errow h;exact ht c a w β κ' r'
theorem au {Q:Exit→AS→Prop}:∀ (ds:List pe) {os:List Oper} {s:AS} {ps:List Prop} {s':AS} {os':List Oper},bj P ops os ds s=some (ps,s',os')→br ps→fR P ops os' Q s'→fR P ops os Q s
 | [],os,s,ps,s',os',h,hp,ht=>by
  cases os<;>(simp only [bj] at h;cases h;exact ht)
 | .fz k::ds,os,s,ps,s',os',h,hp,ht=>by
  have h':(match s.frz k with | some s'=>bj P ops os ds s' | none=>none)=some (ps,s',os'):=by cases os<;>simpa only [bj] using h
  split at h'
  ·exact Gw k (by assumption) (au ds h' hp ht)
  ·cases h'
 | .rwT t v::ds,os,s,ps,s',os',h,hp,ht=>by
  have h':(match bj P ops os ds ⟨s.n,ins t v s.t,s.h⟩ with
   | some (ps,r)=>some ((lk .any s.t t=v)::ps,r)
   | none=>none)=some (ps,s',os'):=by cases os<;>simpa only [bj] using h
  split at h'
  ·rename_i ps' r hr;cases h';obtain ⟨h1,h2⟩:=br.cons.1 hp;exact Fv h1 (au ds hr h2 ht)
  ·cases h'
 | .rwH k ob::ds,os,s,ps,s',os',h,hp,ht=>by
  have h':(match bj P ops os ds ⟨s.n,s.t,ins k ob s.h⟩ with
   | some (ps,r)=>some ((lk .gone s.h k=ob)::ps,r)
   | none=>none)=some (ps,s',os'):=by cases os<;>simpa only [bj] using h
  split at h'
  ·rename_i ps' r hr;cases h';obtain ⟨h1,h2⟩:=br.cons.1 hp;exact FZ h1 (au ds hr h2 ht)
  ·cases h'
 | .wk t p::ds,os,s,ps,s',os',h,hp,ht=>by
  have h':bj P ops os ds (s.wkT t p)=some (ps,s',os'):=by cases os<;>simpa only [bj] using h
  exact Js t p (au ds h' hp ht)
 | .er t k e sz::ds,os,s,ps,s',os',h,hp,ht=>by
  have h':(match s.erow t k e sz with | some s'=>bj P ops os ds s' | none=>none)=some (ps,s',os'):=by cases os<;>simpa only [bj] using h
  split at h'
  ·exact JL (by assumption) (au ds h' hp ht)
  ·cases h'
 | .m::ds,[],s,ps,s',os',h,hp,ht=>by simp only [bj] at h;cases h
 | .m::ds,o::os,s,ps,s',os',h,hp,ht=>by
  simp only [bj] at h;obtain ⟨hg,h⟩:=ax h;split at h
  ·rename_i s2 hs;exact dt ((sW (aU hg) hs).mono fun s3 e=>by subst e;exact au ds h hp ht)
  ·cases h
 | .rs n j::ds,[],s,ps,s',os',h,hp,ht=>by simp only [bj] at h;cases h
 | .rs n j::ds,o::os,s,ps,s',os',h,hp,ht=>by
  simp only [bj] at h;obtain ⟨hg,h⟩:=ax h;split at h
  ·rename_i p s2 hs;split at h
   ·rename_i ps' r hr;cases h;obtain ⟨h1,h2⟩:=br.cons.1 hp;exact dt ((rF (aU hg) hs h1).mono fun s3 e=>by subst e;exact au ds hr h2 ht)
   ·cases h
  ·cases h
 | .ap::ds,[],s,ps,s',os',h,hp,ht=>by simp only [bj] at h;cases h
 | .ap::ds,o::os,s,ps,s',os',h,hp,ht=>by
  simp only [bj] at h;obtain ⟨hg,h⟩:=ax h;split at h
  ·rename_i p s2 hs;split at h
   ·rename_i ps' r hr;cases h;obtain ⟨h1,h2⟩:=br.append.1 hp;exact dt ((ta (aU hg) hs h1).mono fun s3 e=>by subst e;exact au ds hr h2 ht)
   ·cases h
  ·cases h
 | .lk zs es::ds,[],s,ps,s',os',h,hp,ht=>by simp only [bj] at h;cases h
 | .lk zs es::ds,o::os,s,ps,s',os',h,hp,ht=>by
  simp only [bj] at h;obtain ⟨hg,h⟩:=ax h;split at h
  ·rename_i p s2 hs;split at h
   ·rename_i ps' r hr;cases h;obtain ⟨h1,h2⟩:=br.append.1 hp;exact dt ((pY (aU hg) hs h1).mono fun s3 e=>by subst e;exact au ds hr h2 ht)
   ·cases h
  ·cases h
 | .ms es::ds,[],s,ps,s',os',h,hp,ht=>by simp only [bj] at h;cases h
 | .ms es::ds,o::os,s,ps,s',os',h,hp,ht=>by
  simp only [bj] at h;obtain ⟨hg,h⟩:=ax h;split at h
  ·rename_i p s2 hs;split at h
   ·rename_i ps' r hr;cases h;obtain ⟨h1,h2⟩:=br.append.1 hp;exact dt ((qQ (aU hg) hs h1).mono fun s3 e=>by subst e;exact au ds hr h2 ht)
   ·cases h
  ·cases h
 | .fw k::ds,os,s,ps,s',os',h,hp,ht=>by
  have h':(match s.frzW k with
   | some (p,s')=>(match bj P ops os ds s' with | some (ps,r)=>some (p::ps,r) | none=>none)
   | none=>none)=some (ps,s',os'):=by cases os<;>simpa only [bj] using h
  split at h'
  ·rename_i p s2 hs;split at h'
   ·rename_i ps' r hr;cases h';obtain ⟨h1,h2⟩:=br.cons.1 hp;exact JF hs h1 (au ds hr h2 ht)
   ·cases h'
  ·cases h'
 | .ew t k eo e sz::ds,os,s,ps,s',os',h,hp,ht=>by
  have h':(match s.errow t k eo e sz with | some s'=>bj P ops os ds s' | none=>none)=some (ps,s',os'):=by cases os<;>simpa only [bj] using h
  split at h'
  ·exact Jm (by assumption) (au ds h' hp ht)
  ·cases h'
 | .qo q::ds,[],s,ps,s',os',h,hp,ht=>by simp only [bj] at h;cases h
 | .qo q::ds,o::os,s,ps,s',os',h,hp,ht=>by
  simp only [bj] at h;obtain ⟨hg,h⟩:=ax h;split at h
  ·rename_i p s2 hs;split at h
   ·rename_i ps' r hr;cases h;obtain ⟨h1,h2⟩:=br.append.1 hp;exact dt ((ti (aU hg) hs h1.mem).mono fun s3 e=>by subst e;exact au ds hr h2 ht)
   ·cases h
  ·cases h
 | .apg::ds,[],s,ps,s',os',h,hp,ht=>by simp only [bj] at h;cases h
 | .apg::ds,o::os,s,ps,s',os',h,hp,ht=>by
  simp only [bj] at h;obtain ⟨hg,h⟩:=ax h;split at h
  ·rename_i p s2 hs;split at h
   ·rename_i ps' r hr;cases h;obtain ⟨h1,h2⟩:=br.append.1 hp;exact dt ((tf (aU hg) hs h1).mono fun s3 e=>by subst e;exact au ds hr h2 ht)
   ·cases h
  ·cases h
 | .fm k::ds,os,s,ps,s',os',h,hp,ht=>by
  have h':(match s.frzM k with
   | some (p,s')=>(match bj P ops os ds s' with | some (ps,r)=>some (p::ps,r) | none=>none)
   | none=>none)=some (ps,s',os'):=by cases os<;>simpa only [bj] using h
  split at h'
  ·rename_i p s2 hs;split at h'
   ·rename_i ps' r hr;cases h';obtain ⟨h1,h2⟩:=br.cons.1 hp;exact Ji hs h1 (au ds hr h2 ht)
   ·cases h'
  ·cases h'
 | .en i v::ds,[],s,ps,s',os',h,hp,ht=>by simp only [bj] at h;cases h
 | .en i v::ds,o::os,s,ps,s',os',h,hp,ht=>by
  simp only [bj] at h;obtain ⟨hg,h⟩:=ax h;split at h
  ·rename_i p s2 hs;split at h
   ·rename_i ps' r hr;cases h;obtain ⟨h1,h2⟩:=br.append.1 hp;exact dt ((th (aU hg) hs h1).mono fun s3 e=>by subst e;exact au ds hr h2 ht)
   ·cases h
  ·cases h
 | .h qs v h1::ds,[],s,ps,s',os',h,hp,ht=>by simp only [bj] at h;cases h
 | .h qs v h1::ds,o::os,s,ps,s',os',h,hp,ht=>by
  simp only [bj] at h;obtain ⟨hg,h⟩:=ax h;split at h
  ·rename_i p s2 hs;split at h
   ·rename_i ps' r hr;cases h;obtain ⟨h1,h2⟩:=br.append.1 hp;exact dt ((tI (aU hg) hs h1).mono fun s3 e=>by subst e;exact au ds hr h2 ht)
   ·cases h
  ·cases h
 | .hR qs d v h1::ds,[],s,ps,s',os',h,hp,ht=>by simp only [bj] at h;cases h
 | .hR qs d v h1::ds,o::os,s,ps,s',os',h,hp,ht=>by
  simp only [bj] at h;obtain ⟨hg,h⟩:=ax h;split at h
  ·rename_i p s2 hs;split at h
   ·rename_i ps' r hr;cases h;obtain ⟨h1,h2⟩:=br.append.1 hp;exact dt ((tc (aU hg) hs h1).mono fun s3 e=>by subst e;exact au ds hr h2 ht)
   ·cases h
  ·cases h
 | .hM qs qd v h1::ds,[],s,ps,s',os',h,hp,ht=>by simp only [bj] at h;cases h
 | .hM qs qd v h1::ds,o::os,s,ps,s',os',h,hp,ht=>by
  simp only [bj] at h;obtain ⟨hg,h⟩:=ax h;split at h
  ·rename_i p s2 hs;split at h
   ·rename_i ps' r hr;cases h;obtain ⟨h1,h2⟩:=br.append.1 hp;exact dt ((qN (aU hg) hs h1).mono fun s3 e=>by subst e;exact au ds hr h2 ht)
   ·cases h
  ·cases h
 | d::ds,[],s,ps,s',os',h,hp,ht=>by
  cases d;case fw k =>
   simp only [bj] at h;split at h
   ·rename_i p s2 hs;split at h
    ·rename_i ps' r hr;cases h;obtain ⟨h1,h2⟩:=br.cons.1 hp;exact JF hs h1 (au ds hr h2 ht)
    ·cases h
   ·cases h
  case ew=>simp only [bj] at h;split at h<;>first | (cases h;done) | exact Jm (by assumption) (au ds h hp ht)
  case fr k =>
   simp only [bj] at h;split at h
   ·rename_i p s2 hs;split at h
    ·rename_i ps' r hr;cases h;obtain ⟨h1,h2⟩:=br.cons.1 hp;exact JZ hs h1 (au ds hr h2 ht)
    ·cases h
   ·cases h
  case tr k e sz =>
   simp only [bj] at h;split at h
   ·rename_i s2 hs;exact fun c a w β κ r=>au ds h hp ht c a w β κ (r.toR hs)
   ·cases h
  case fm k =>
   simp only [bj] at h;split at h
   ·rename_i p s2 hs;split at h
    ·rename_i ps' r hr;cases h;obtain ⟨h1,h2⟩:=br.cons.1 hp;exact Ji hs h1 (au ds hr h2 ht)
    ·cases h
   ·cases h
  case rwT t v =>
   simp only [bj] at h;split at h
   ·rename_i ps' r hr;cases h;obtain ⟨h1,h2⟩:=br.cons.1 hp;exact Fv h1 (au ds hr h2 ht)
   ·cases h
  case rwH k ob =>
   simp only [bj] at h;split at h
   ·rename_i ps' r hr;cases h;obtain ⟨h1,h2⟩:=br.cons.1 hp;exact FZ h1 (au ds hr h2 ht)
   ·cases h
  case wk t p=>simp only [bj] at h;exact Js t p (au ds h hp ht)
  all_goals simp only [bj] at h
  all_goals first | (cases h;done) | (split at h<;>first | (cases h;done) | exact Gw _ (by assumption) (au ds h hp ht) | exact JL (by assumption) (au ds h hp ht))
 | d::ds,o::os,s,ps,s',os',h,hp,ht=>by
  have key:∀ p v,vz P ops s o d=some (p,v)→(match bj P ops os ds ((cJ.put o.dst v).app s) with | some (ps,r)=>some (p++ps,r) | none=>none)=some (ps,s',os')→fR P ops (o::os) Q s:=by
   intro p v hs hr;split at hr
   ·rename_i ps' r hr';cases hr;obtain ⟨h1,h2⟩:=br.append.1 hp;refine dt (((tD hs h1).op rfl rfl).mono fun s3 e => ?_);exact fun c a w β κ r=>au ds hr' h2 ht c a w β κ (r.same e.symm')
   ·cases hr
  cases d;case fw k =>
   simp only [bj] at h;split at h
   ·rename_i p s2 hs;split at h
    ·rename_i ps' r hr;cases h;obtain ⟨h1,h2⟩:=br.cons.1 hp;exact JF hs h1 (au ds hr h2 ht)
    ·cases h
   ·cases h
  case ew=>simp only [bj] at h;split at h<;>first | (cases h;done) | exact Jm (by assumption) (au ds h hp ht)
  case qo q =>
   simp only [bj] at h;obtain ⟨hg,h⟩:=ax h;split at h
   ·rename_i p s2 hs;split at h
    ·rename_i ps' r hr;cases h;obtain ⟨h1,h2⟩:=br.append.1 hp;exact dt ((ti (aU hg) hs h1.mem).mono fun s3 e=>by subst e;exact au ds hr h2 ht)
    ·cases h
   ·cases h
  case fr k =>
   simp only [bj] at h;split at h
   ·rename_i p s2 hs;split at h
    ·rename_i ps' r hr;cases h;obtain ⟨h1,h2⟩:=br.cons.1 hp;exact JZ hs h1 (au ds hr h2 ht)
    ·cases h
   ·cases h
  case tr k e sz =>
   simp only [bj] at h;split at h
   ·rename_i s2 hs;exact fun c a w β κ r=>au ds h hp ht c a w β κ (r.toR hs)
   ·cases h
  case es3 es =>
   rcases os with _ | ⟨o2,_ | ⟨o3,os⟩⟩
   ·simp only [bj,xo] at h;cases h
   ·simp only [bj,xo] at h;cases h
   ·simp only [bj] at h;split at h
    ·rename_i p s2 hs;split at h
     ·rename_i ps' r hr;cases h;obtain ⟨h1,h2⟩:=br.append.1 hp;exact yh hs h1 (au ds hr h2 ht)
     ·cases h
    ·cases h
  case fz=>simp only [bj] at h;split at h<;>first | (cases h;done) | exact Gw _ (by assumption) (au ds h hp ht)
  case er=>simp only [bj] at h;split at h<;>first | (cases h;done) | exact JL (by assumption) (au ds h hp ht)
  case rwT t v =>
   simp only [bj] at h;split at h
   ·rename_i ps' r hr;cases h;obtain ⟨h1,h2⟩:=br.cons.1 hp;exact Fv h1 (au ds hr h2 ht)
   ·cases h
  case rwH k ob =>
   simp only [bj] at h;split at h
   ·rename_i ps' r hr;cases h;obtain ⟨h1,h2⟩:=br.cons.1 hp;exact FZ h1 (au ds hr h2 ht)
   ·cases h
  case wk t p=>simp only [bj] at h;exact Js t p (au ds h hp ht)
  case m =>
   simp only [bj] at h;obtain ⟨hg,h⟩:=ax h;split at h
   ·rename_i s2 hs;exact dt ((sW (aU hg) hs).mono fun s3 e=>by subst e;exact au ds h hp ht)
   ·cases h
  case rs n j =>
   simp only [bj] at h;obtain ⟨hg,h⟩:=ax h;split at h
   ·rename_i p s2 hs;split at h
    ·rename_i ps' r hr;cases h;obtain ⟨h1,h2⟩:=br.cons.1 hp;exact dt ((rF (aU hg) hs h1).mono fun s3 e=>by subst e;exact au ds hr h2 ht)
    ·cases h
   ·cases h
  case ap =>
   simp only [bj] at h;obtain ⟨hg,h⟩:=ax h;split at h
   ·rename_i p s2 hs;split at h
    ·rename_i ps' r hr;cases h;obtain ⟨h1,h2⟩:=br.append.1 hp;exact dt ((ta (aU hg) hs h1).mono fun s3 e=>by subst e;exact au ds hr h2 ht)
    ·cases h
   ·cases h
  case lk zs es =>
   simp only [bj] at h;obtain ⟨hg,h⟩:=ax h;split at h
   ·rename_i p s2 hs;split at h
    ·rename_i ps' r hr;cases h;obtain ⟨h1,h2⟩:=br.append.1 hp;exact dt ((pY (aU hg) hs h1).mono fun s3 e=>by subst e;exact au ds hr h2 ht)
    ·cases h
   ·cases h
  case ms es =>
   simp only [bj] at h;obtain ⟨hg,h⟩:=ax h;split at h
   ·rename_i p s2 hs;split at h
    ·rename_i ps' r hr;cases h;obtain ⟨h1,h2⟩:=br.append.1 hp;exact dt ((qQ (aU hg) hs h1).mono fun s3 e=>by subst e;exact au ds hr h2 ht)
    ·cases h
   ·cases h
  case apg =>
   simp only [bj] at h;obtain ⟨hg,h⟩:=ax h;split at h
   ·rename_i p s2 hs;split at h
    ·rename_i ps' r hr;cases h;obtain ⟨h1,h2⟩:=br.append.1 hp;exact dt ((tf (aU hg) hs h1).mono fun s3 e=>by subst e;exact au ds hr h2 ht)
    ·cases h
   ·cases h
  case fm k =>
   simp only [bj] at h;split at h
   ·rename_i p s2 hs;split at h
    ·rename_i ps' r hr;cases h;obtain ⟨h1,h2⟩:=br.cons.1 hp;exact Ji hs h1 (au ds hr h2 ht)
    ·cases h
   ·cases h
  case en i v =>
   simp only [bj] at h;obtain ⟨hg,h⟩:=ax h;split at h
   ·rename_i p s2 hs;split at h
    ·rename_i ps' r hr;cases h;obtain ⟨h1,h2⟩:=br.append.1 hp;exact dt ((th (aU hg) hs h1).mono fun s3 e=>by subst e;exact au ds hr h2 ht)
    ·cases h
   ·cases h
  case h qs v h1 =>
   simp only [bj] at h;obtain ⟨hg,h⟩:=ax h;split at h
   ·rename_i p s2 hs;split at h
    ·rename_i ps' r hr;cases h;obtain ⟨h1,h2⟩:=br.append.1 hp;exact dt ((tI (aU hg) hs h1).mono fun s3 e=>by subst e;exact au ds hr h2 ht)
    ·cases h
   ·cases h
  case hR qs d v h1 =>
   simp only [bj] at h;obtain ⟨hg,h⟩:=ax h;split at h
   ·rename_i p s2 hs;split at h
    ·rename_i ps' r hr;cases h;obtain ⟨h1,h2⟩:=br.append.1 hp;exact dt ((tc (aU hg) hs h1).mono fun s3 e=>by subst e;exact au ds hr h2 ht)
    ·cases h
   ·cases h
  case hM qs qd v h1 =>
   simp only [bj] at h;obtain ⟨hg,h⟩:=ax h;split at h
   ·rename_i p s2 hs;split at h
    ·rename_i ps' r hr;cases h;obtain ⟨h1,h2⟩:=br.append.1 hp;exact dt ((qN (aU hg) hs h1).mono fun s3 e=>by subst e;exact au ds hr h2 ht)
    ·cases h
   ·cases h
  all_goals
   simp only [bj] at h;split at h
   ·rename_i p v hs;exact key p v hs h
   ·cases h
end
section
variable {P:Program} {Q:Exit→AS→Prop} {s s':AS} {l:List Oper} {id:Nat}
theorem Ij (ds:List pe) {ps:List Prop} (h:bj P l.toArray l ds s=some (ps,s',[])) (hp:br ps) (hq:Q .normal s'):dL P (.region id l.toArray false) Q s :=
 uU (au ds h hp (xh hq))
def I1 (P:Program) (l:List Oper) (n:Nat) (d1 d2:List pe) (s:AS):Option (List Prop×AS×List Oper) :=
 match Cn P l.toArray (l.take n) d1 s with
 | some (ps,es)=>bif vt l n es s&&Az (kA l []) es s&&z8 (kA l []) es s then (match bj P l.toArray (l.drop n) d2 (apps es s) with
  | some (qs,r)=>some (ps++qs,r)
  | none=>none) else none
 | none=>none
theorem DT (hm:P.follows .mixedOrders=true) (n:Nat) (d1 d2:List pe) {ps:List Prop} (h:I1 P l n d1 d2 s=some (ps,s',[])) (hp:br ps) (hq:Q .normal s'):dL P (.region id l.toArray true) Q s:=by
 unfold I1 at h;split at h
 ·rename_i ps1 es he;obtain ⟨hc,h2⟩:=ax h;split at h2
  ·rename_i qs r hr;simp only [KR,Prod.mk.injEq] at h2;obtain ⟨h3,h4⟩:=h2;subst h3;subst h4;obtain ⟨p1,p2⟩:=br.append.1 hp;exact Gu hm n es hc (uX he p1) (au d2 hr p2 (xh hq))
  ·cases h2
 ·cases h
def BE (P:Program) (ops:Array Oper) (cl:List (List Nat)) (c:zr) (i:Nat) (s:AS) (o:Oper) (d:pe):Option (List Prop×cJ) :=
 bif Nat.beq i c.i0 then none else bif EG i (cl.getD c.i0 []) then Bh P ops s o d else (match d,o.dst with
  | .v,some dst=>bif nL true (gd ops s o)&&(Nat.blt dst s.n && !Nat.beq dst c.t1 && !Nat.beq dst c.t2)&&(!Nat.beq i c.i0 && !Nat.beq i c.i1 && !Nat.beq i c.i2) then (match fT P s o.op with
   | some (p,v)=>some (Kf o.op p,.put o.dst v)
   | none=>none) else none
  | _,_=>none)
def zN (P:Program) (ops:Array Oper) (cl:List (List Nat)) (c:zr) (i:Nat) (s:AS) (o:Oper):pe→Option (List Prop×cJ)
 | .e1 es'=>bif Nat.beq i c.i0&&nL true (gd ops s o)&&c.ok cl&&Nat.blt c.t1 s.n then (match o.op,o.dst with
  | .mapEntry t (.tmp tm) x,some t1=>bif Nat.beq t c.t&&Nat.beq t1 c.t1 then (match lk .any s.t tm,s.op x,P.underlying t with
   | .amap k,.str y,some (.map K E)=>bif Nat.beq k c.k then (match lk .gone s.h k,P.underlying K,zeroOf P E with
    | .rmap e sz es,some .string,some _=>some ([y=c.y,es.length<1000000,iA c.y es=es'],⟨[(c.t1,.any)],[(c.k,.rmap e sz es')],[],[]⟩)
    | _,_,_=>none) else none
   | _,_,_=>none) else none
  | _,_=>none) else none
 | .e2=>bif Nat.beq i c.i1&&nL true (gd ops s o)&&c.ok cl&&Nat.blt c.t2 s.n then (match o.op,o.dst with
  | .extract (.tmp t1) 1,some t2=>bif Nat.beq t1 c.t1&&Nat.beq t2 c.t2 then some ([],⟨[(c.t2,.any)],[],[],[]⟩) else none
  | _,_=>none) else none
 | .e3 es'=>bif Nat.beq i c.i2&&nL true (gd ops s o)&&c.ok cl then (match o.op,o.dst with
  | .entryStore t (.tmp tm) (.tmp t2) (.tmp tv),none=>bif Nat.beq t c.t&&Nat.beq t2 c.t2 then (match lk .any s.t tm,lk .any s.t tv,P.underlying t with
   | .amap k,.rslice q,some (.map K E)=>bif Nat.beq k c.k then (match lk .gone s.h k,lk .gone s.h q,P.underlying K,zeroOf P E with
    | .rmap e sz es,.row e2 sz2 zs,some .string,some _=>bif Nat.beq e2 e&&Nat.beq sz2 sz then some ([es.length<1000000,eR c.y zs es=es'],⟨[(tv,.any)],[(q,.gone),(c.k,.rmap e sz es')],[],[(q,tv)]⟩) else none
    | _,_,_,_=>none) else none
   | _,_,_=>none) else none
  | _,_=>none) else none
 | d=>BE P ops cl c i s o d
theorem Hz {a b:Nat} (h:(!Nat.beq a b)=true):a≠b:=fun e=>by rw [e,Nat.beq_refl] at h;cases h
theorem ye {ops:Array Oper} {cl:List (List Nat)} {c:zr} {i:Nat} {o:Oper} {d:pe} {ps:List Prop} {e:cJ} (h:BE P ops cl c i s o d=some (ps,e)) (hp:br ps):sy P ops cl (J3 P c) i o s e:=by
 unfold BE at h;cases h0:Nat.beq i c.i0 with
 | true=>rw [h0] at h;cases h
 | false =>
  have hne:i≠c.i0:=fun e1=>by rw [e1,Nat.beq_refl] at h0;cases h0
  rw [h0,cond_false] at h;cases h1:EG i (cl.getD c.i0 []) with
  | true =>
   rw [h1,cond_true] at h;exact CC (oL h hp) hne (pf h1)
  | false =>
   rw [h1,cond_false] at h;split at h
   ·rename_i dst hd;obtain ⟨hc,h⟩:=ax h;simp only [KJ] at hc;obtain ⟨⟨g1,⟨g2,g3⟩,g4⟩,⟨g5,g6⟩,g7⟩:=hc;split at h
    ·rename_i p v hv;cases h;exact EP (aU g1) hv (uZ hv hp) hd (by simpa [Nat.blt_eq] using g2) (Hz g3) (Hz g4) hne (Hz g6) (Hz g7)
    ·cases h
   ·cases h
theorem zM {ops:Array Oper} {cl:List (List Nat)} {c:zr} {i:Nat} {o:Oper} {d:pe} {ps:List Prop} {e:cJ} (h:zN P ops cl c i s o d=some (ps,e)) (hp:br ps):sy P ops cl (J3 P c) i o s e:=by
 cases d with
 | e1 es' =>
  simp only [zN] at h;have h9:=ax h;clear h;obtain ⟨hc,h⟩:=h9;simp only [KJ] at hc;obtain ⟨⟨⟨g1,g2⟩,g3⟩,g4⟩:=hc;have g1:=bP.1 g1;subst g1;split at h
  ·rename_i t tm x t1 hop hd;have h9:=ax h;clear h;obtain ⟨hc,h⟩:=h9;rw [KJ] at hc;have e1:=bP.1 hc.1;have e2:=bP.1 hc.2;clear hc;subst e1;subst e2;split at h
   ·rename_i k y K E hm hx hu;have h9:=ax h;clear h;obtain ⟨hc,h⟩:=h9;have e3:=bP.1 hc;clear hc;subst e3;split at h
    ·rename_i e' sz es z hk hK hz;cases h;obtain ⟨p1,p2,p3⟩:=hp;exact HT (aU g2) hop hd (by simpa [Nat.blt_eq] using g4) hm hx p1 hk hu hK hz p2 p3 g3
    ·cases h
   ·cases h
  ·cases h
 | e2 =>
  simp only [zN] at h;have h9:=ax h;clear h;obtain ⟨hc,h⟩:=h9;simp only [KJ] at hc;obtain ⟨⟨⟨g1,g2⟩,g3⟩,g4⟩:=hc;have g1:=bP.1 g1;subst g1;split at h
  ·rename_i t1 t2 hop hd;have h9:=ax h;clear h;obtain ⟨hc,h⟩:=h9;rw [KJ] at hc;have e1:=bP.1 hc.1;have e2:=bP.1 hc.2;clear hc;subst e1;subst e2;cases h;exact Hp (aU g2) hop hd (by simpa [Nat.blt_eq] using g4) g3
  ·cases h
 | e3 es' =>
  simp only [zN] at h;have h9:=ax h;clear h;obtain ⟨hc,h⟩:=h9;simp only [KJ] at hc;obtain ⟨⟨g1,g2⟩,g3⟩:=hc;have g1:=bP.1 g1;subst g1;split at h
  ·rename_i t tm t2 tv hop hd;have h9:=ax h;clear h;obtain ⟨hc,h⟩:=h9;rw [KJ] at hc;have e1:=bP.1 hc.1;have e2:=bP.1 hc.2;clear hc;subst e1;subst e2;split at h
   ·rename_i k q K E hm hv hu;have h9:=ax h;clear h;obtain ⟨hc,h⟩:=h9;have e3:=bP.1 hc;clear hc;subst e3;split at h
    ·rename_i e' sz es e2 sz2 zs z hk hq hK hz;have h9:=ax h;clear h;obtain ⟨hc,h⟩:=h9;rw [KJ] at hc;have e4:=bP.1 hc.1;have e5:=bP.1 hc.2;subst e4;subst e5;cases h;obtain ⟨p1,p2⟩:=hp;exact HH (aU g2) hop hd hm hv hq hk hu hK hz p1 p2 g3
    ·cases h
   ·cases h
  ·cases h
 | _=>exact ye h hp
def uB (P:Program) (ops:Array Oper) (cl:List (List Nat)) (c:zr):Nat→List Oper→List pe→AS→Option (List Prop×List cJ)
 | _,[],[],_=>some ([],[])
 | i,o::os,d::ds,s=>match zN P ops cl c i s o d with
  | some (p,e)=>match uB P ops cl c (i+1) os ds (e.app s) with
   | some (ps,es)=>some (p++ps,e::es)
   | none=>none
  | none=>none
 | _,_,_,_=>none
theorem vh {P:Program}:∀ (es:List cJ) (bs:List Bool) (s:AS),(∀ b∈bs,b=false)→sL es bs s=s
 | [],bs,s,_=>by cases bs<;>rfl
 | e::es,[],s,_=>rfl
 | e::es,b::bs,s,hb=>by rw [sL,hb b (by simp)];exact vh (P:=P) es bs s fun b hb'=>hb b (by simp [hb'])
theorem tA {ops:Array Oper} {cl:List (List Nat)} {c:zr}:∀ {os:List Oper} {ds:List pe} {s:AS} {ps:List Prop} {es:List cJ} {n:Nat},uB P ops cl c n os ds s=some (ps,es)→br ps →
 os.length=es.length∧apps es s=sL es (List.replicate es.length true) s∧∀ (i:Nat) (o:Oper) (e:cJ),os[i]? = some o→es[i]? = some e→sy P ops cl (J3 P c) (n+i) o (sL es ((List.range es.length).map fun j=>decide (j<i)) s) e
 | [],[],s,ps,es,n,h,hp=>by simp only [uB] at h;cases h;exact ⟨rfl,rfl,fun i o e ho _=>by simp at ho⟩
 | [],_::_,s,ps,es,n,h,hp=>by simp only [uB] at h;cases h
 | _::_,[],s,ps,es,n,h,hp=>by simp only [uB] at h;cases h
 | o::os,d::ds,s,ps,es,n,h,hp=>by
  simp only [uB] at h;split at h
  ·rename_i p e hv;split at h
   ·rename_i ps' es' hr;cases h;obtain ⟨h1,h2⟩:=br.append.1 hp;obtain ⟨a1,a2,a3⟩:=tA hr h2;refine ⟨by simp [a1],by show apps es' (e.app s)=_;rw [a2];rfl,fun i o' e' ho he => ?_⟩;cases i with
    | zero =>
     simp only [List.getElem?_cons_zero,KR] at ho he;subst ho;subst he;rw [vh (P:=P) _ _ _ (by simp)];exact zM hv h1
    | succ i =>
     have h3:=a3 i o' e' (by simpa using ho) (by simpa using he);have:sL (e::es') ((List.range (e::es').length).map fun j=>decide (j<i+1)) s=sL es' ((List.range es'.length).map fun j=>decide (j<i)) (e.app s):=by rw [List.length_cons,List.range_succ_eq_map,List.map_cons,List.map_map];simp only [sL,Nat.zero_lt_succ,decide_true,if_true];congr 1;simp [Function.comp_def]
     rw [this,show n+(i+1)=n+1+i by omega];exact h3
   ·cases h
  ·cases h
def F2 (P:Program) (c:zr) (l:List Oper) (n:Nat) (d1 d2:List pe) (s:AS):Option (List Prop×AS×List Oper) :=
 match uB P l.toArray (kA l []) c 0 (l.take n) d1 s with
 | some (ps,es)=>bif (vt l n es s&&Az (kA l []) es s&&z8 (kA l []) es s)&&(s.noR&&es.all vn) then (match bj P l.toArray (l.drop n) d2 (apps es s) with
  | some (qs,r)=>some (ps++qs,r)
  | none=>none) else none
 | none=>none
theorem Cw (hm:P.follows .mixedOrders=true) (c:zr) (n:Nat) (d1 d2:List pe) {ps:List Prop} (h:F2 P c l n d1 d2 s=some (ps,s',[])) (hp:br ps) (hq:Q .normal s'):dL P (.region id l.toArray true) Q s:=by
 unfold F2 at h;split at h
 ·rename_i ps1 es he;obtain ⟨hc,h2⟩:=ax h;rw [KJ] at hc;split at h2
  ·rename_i qs r hr;simp only [KR,Prod.mk.injEq] at h2;obtain ⟨h3,h4⟩:=h2;subst h3;subst h4;obtain ⟨p1,p2⟩:=br.append.1 hp;obtain ⟨k1,k2,k3⟩:=tA he p1;exact xp hm n es (J3 P c) hc.1 hc.2 k1 k2 (fun i o e h1 h2=>by have:=k3 i o e h1 h2;rwa [Nat.zero_add] at this) (fun a w β h=>by cases h) (au d2 hr p2 (xh hq))
  ·cases h2
 ·cases h
def JT:(Nat→Bool)→Act→World→(Nat→Nat)→Prop:=fun _ _ _ _=>True
theorem Kv {ops:Array Oper} {cl:List (List Nat)} {i:Nat} {o:Oper} {e:cJ} (h:Loc P ops o s e):sy P ops cl JT i o s e :=
 fun s' _ ha hf hx _ _ _ _ c' a w β κ r _ K Q hK=>h s' ha hf hx c' a w β κ r K Q fun s'' a' w' β' κ' hs hr=>hK s'' a' w' β' κ' hs hr trivial
def BH (P:Program) (s:AS) (dst:Option Tmp) (es':ui):Op→Option (List Prop×cJ)
 | .store t x (.tmp tv)=>match s.op x,lk .any s.t tv,dst,kQ P t with
  | .hptr k off,.rslice q,none,some 1=>match lk .gone s.h k,lk .gone s.h q with
   | .rrow eo e sz es,.row e2 sz2 zs=>bif Nat.beq e2 e&&Nat.beq sz2 sz then some ([off<es.length,es.set off (some zs)=es'],⟨[(tv,.any)],[(q,.gone),(k,.rrow eo e sz es')],[],[(q,tv)]⟩) else none
   | _,_=>none
  | _,_,_,_=>none
 | _=>none
theorem yC {ops:Array Oper} {cl:List (List Nat)} {i:Nat} {o:Oper} {es':ui} {ps:List Prop} {ef:cJ} (hg:gd ops s o=some true) (h:BH P s o.dst es' o.op=some (ps,ef)) (hp:br ps):sy P ops cl JT i o s ef:=by
 unfold BH at h;split at h
 ·rename_i t x tv hop;split at h
  ·rename_i k off q hx hv hd hsz;split at h
   ·rename_i eo e sz es e2 sz2 zs hk hq;have h9:=ax h;clear h;obtain ⟨hc,h⟩:=h9;rw [KJ] at hc;have e4:=bP.1 hc.1;have e5:=bP.1 hc.2;subst e4;subst e5;cases h;obtain ⟨p1,p2⟩:=hp;have p2:es.set off (some zs)=es':=p2;subst p2;intro s' b ha _ hx2 hnr hbi hcl hcl2 c' a w β κ r _ K2 Q hK2;obtain ⟨x1,x2⟩:=hx2 (q,tv) (by simp);have hxo:x∈o.op.operands:=by rw [hop];simp [Op.operands]
    have hvo:Operand.tmp tv∈o.op.operands:=by rw [hop];simp [Op.operands]
    have hx':s'.op x = .hptr k off:=by rw [bg ha hxo];exact hx
    have hv':s'.op (.tmp tv) = .rslice q:=by rw [bg ha hvo];exact hv
    have hk':lk .gone s'.h k = .rrow eo e2 sz2 es:=by rw [ha.h (by rw [hop];rfl) _ hxo k (by rw [hx];simp [AV.men])];exact hk
    have hq':lk .gone s'.h q = .row e2 sz2 zs:=by rw [ha.h (by rw [hop];rfl) _ hvo q (by show AV.men q (lk .any s.t tv)=true;rw [hv];simp [AV.men])];exact hq
    have hX:=r.op x;have hV:=r.op (.tmp tv);rw [hx'] at hX;rw [hv'] at hV;obtain ⟨w',hr,rel⟩:=CQ r hX hV hsz hq' hk' hnr p1;rw [fM r (by rw [bO ha];exact hg)];simp only [if_true];unfold Oper.wp;have he:(execOp a.eval o).run P w = .ok .skip w':=by simp only [execOp,hop,Sem.run_bind,hr,Result.andThen];rfl
    rw [he];show K2 (a.put o.dst _) _;rw [hd];refine hK2 (s'.stowR k q eo e2 sz2 (es.set off (some zs))) _ _ _ _ ⟨rfl,fun i => ?_,fun n => ?_⟩ rel trivial
    ·show lk .any (gq q s'.t) i=lk .any (jY [(tv,.any)] s'.t) i;rw [cq,cT];simp only [gz];by_cases e1:i=tv
     ·subst e1;have hv2:lk .any s'.t i = .rslice q:=hv';simp [hv2,AV.pg,AV.men]
     ·rw [bN e1,AV.pg_free (x1 i e1)];rfl
    ·show lk .gone (rm q (dm q (ins k (.rrow eo e2 sz2 (es.set off (some zs))) s'.h))) n=lk .gone (jY [(q,.gone),(k,.rrow eo e2 sz2 (es.set off (some zs)))] s'.h) n;rw [cT,ja,cu,aD];simp only [gz];by_cases e1:n=q
     ·subst e1;simp
     ·rw [if_neg e1,bN e1];simp only [cond_false];by_cases e2:n=k
      ·subst e2;simp [AO.pg]
      ·rw [if_neg e2,bN e2,AO.pg_free (x2 n)];rfl
   ·cases h
  ·cases h
 ·cases h
def FT (P:Program) (ops:Array Oper) (s:AS) (o:Oper):pe→Option (List Prop×cJ)
 | .qo (.st es')=>bif nL true (gd ops s o) then BH P s o.dst es' o.op else none
 | d=>Bh P ops s o d
theorem zH {ops:Array Oper} {cl:List (List Nat)} {i:Nat} {o:Oper} {d:pe} {ps:List Prop} {e:cJ} (h:FT P ops s o d=some (ps,e)) (hp:br ps):sy P ops cl JT i o s e:=by
 unfold FT at h;split at h
 ·have h9:=ax h;clear h;obtain ⟨hg,h⟩:=h9;exact yC (aU hg) h hp
 ·exact Kv (oL h hp)
def uJ (P:Program) (ops:Array Oper):List Oper→List pe→AS→Option (List Prop×List cJ)
 | [],[],_=>some ([],[])
 | o::os,d::ds,s=>match FT P ops s o d with
  | some (p,e)=>match uJ P ops os ds (e.app s) with
   | some (ps,es)=>some (p++ps,e::es)
   | none=>none
  | none=>none
 | _,_,_=>none
theorem sV {ops:Array Oper} {cl:List (List Nat)}:∀ {os:List Oper} {ds:List pe} {s:AS} {ps:List Prop} {es:List cJ},uJ P ops os ds s=some (ps,es)→br ps →
 os.length=es.length∧apps es s=sL es (List.replicate es.length true) s∧∀ (i:Nat) (o:Oper) (e:cJ),os[i]? = some o→es[i]? = some e→∀ n,sy P ops cl JT n o (sL es ((List.range es.length).map fun j=>decide (j<i)) s) e
 | [],[],s,ps,es,h,hp=>by simp only [uJ] at h;cases h;exact ⟨rfl,rfl,fun i o e ho _=>by simp at ho⟩
 | [],_::_,s,ps,es,h,hp=>by simp only [uJ] at h;cases h
 | _::_,[],s,ps,es,h,hp=>by simp only [uJ] at h;cases h
 | o::os,d::ds,s,ps,es,h,hp=>by
  simp only [uJ] at h;split at h
  ·rename_i p e hv;split at h
   ·rename_i ps' es' hr;cases h;obtain ⟨h1,h2⟩:=br.append.1 hp;obtain ⟨a1,a2,a3⟩:=sV (cl:=cl) hr h2;refine ⟨by simp [a1],by show apps es' (e.app s)=_;rw [a2];rfl,fun i o' e' ho he n => ?_⟩;cases i with
    | zero =>
     simp only [List.getElem?_cons_zero,KR] at ho he;subst ho;subst he;rw [vh (P:=P) _ _ _ (by simp)];exact zH hv h1
    | succ i =>
     have h3:=a3 i o' e' (by simpa using ho) (by simpa using he) n;have:sL (e::es') ((List.range (e::es').length).map fun j=>decide (j<i+1)) s=sL es' ((List.range es'.length).map fun j=>decide (j<i)) (e.app s):=by rw [List.length_cons,List.range_succ_eq_map,List.map_cons,List.map_map];simp only [sL,Nat.zero_lt_succ,decide_true,if_true];congr 1;simp [Function.comp_def]
     rw [this];exact h3
   ·cases h
  ·cases h
def FL (P:Program) (l:List Oper) (n:Nat) (d1 d2:List pe) (s:AS):Option (List Prop×AS×List Oper) :=
 match uJ P l.toArray (l.take n) d1 s with
 | some (ps,es)=>bif (vt l n es s&&Az (kA l []) es s&&z8 (kA l []) es s)&&(s.noR&&es.all vn) then (match bj P l.toArray (l.drop n) d2 (apps es s) with
  | some (qs,r)=>some (ps++qs,r)
  | none=>none) else none
 | none=>none
theorem CD (hm:P.follows .mixedOrders=true) (n:Nat) (d1 d2:List pe) {ps:List Prop} (h:FL P l n d1 d2 s=some (ps,s',[])) (hp:br ps) (hq:Q .normal s'):dL P (.region id l.toArray true) Q s:=by
 unfold FL at h;split at h
 ·rename_i ps1 es he;obtain ⟨hc,h2⟩:=ax h;rw [KJ] at hc;split at h2
  ·rename_i qs r hr;simp only [KR,Prod.mk.injEq] at h2;obtain ⟨h3,h4⟩:=h2;subst h3;subst h4;obtain ⟨p1,p2⟩:=br.append.1 hp;obtain ⟨k1,k2,k3⟩:=sV (cl:=kA l []) he p1;exact xp hm n es JT hc.1 hc.2 k1 k2 (fun i o e h1 h2=>k3 i o e h1 h2 i) (fun a w β=>trivial) (au d2 hr p2 (xh hq))
  ·cases h2
 ·cases h
def vU (f:Func):Code:=match f.body with | some c=>c | none=>.skip
def qZ (f:Func):Bool:=match f.body with | some _=>true | none=>false
theorem Ai {f:Func} (h:qZ f=true):f.body=some (vU f):=by
 unfold qZ at h;unfold vU;split at h
 ·rename_i c e;rw [e]
 ·cases h
theorem Ko {f:FuncId} {fn:Func} {args:List AV} {h:List (Nat×AO)} {Post:AV→List (Nat×AO)→Prop} (hf:P.funcs[f]? = some fn) (n:Nat) (rs:List ResultVar) (hok:(qZ fn&&Nat.beq fn.ntmps n&&Nat.ble args.length n)=true) (hrs:fn.results.toList=rs)
 (ht:dL P (vU fn) (Kj P rs Post) ⟨n,lI args 0,h⟩):bD P f args h Post:=by
 simp only [KJ,Nat.beq_eq,Nat.ble_eq] at hok;exact Bq hf (Ai hok.1.1) n hok.1.2 rs hrs hok.2 ht
end
section
variable {P:Program} {Q:Exit→AS→Prop} {s s':AS} {l:List Oper} {id:Nat}
def AS.only (s:AS) (ts hs:List Nat):AS:=⟨s.n,sel ts s.t,sel hs s.h⟩
theorem all_nil:br []:=trivial
theorem all_cons {p:Prop} {ps:List Prop} (h:p) (h2:br ps):br (p::ps):=br.cons.2 ⟨h,h2⟩
theorem aJ {ps qs:List Prop} (h:br ps) (h2:br qs):br (ps++qs):=br.append.2 ⟨h,h2⟩
theorem bF.eq {f:FuncId} {args:List AV} {v v':AV} (h:bF P f args v) (e:v=v'):bD P f args [] fun r _=>r=v':=bD.mono h fun _ _ hr=>hr.1.trans e
theorem bF.is {f:FuncId} {args:List AV} {v:AV} (h:bF P f args v):bD P f args [] fun r _=>r=v:=bD.mono h fun _ _ hr=>hr.1
theorem ix {α:Type} {f:α→List AV} {l:List α} {n:Nat} {sz:Nat} (d:α) (hf:∀ x,(f x).length=sz) (h0:0<sz) (h:n<l.length) :
 br [((0:Int)≤(n:Int)∧(n:Int)<((l.map f).length:Int))∧(((l.map f).getD (n:Int).toNat []).length=sz∧0<sz),AV.dptr ((l.map f).getD (n:Int).toNat []) = .dptr (f (l.getD n d))]:=by
 have e:(l.map f).getD (n:Int).toNat []=f (l.getD n d):=by simp [KH,KI h]
 refine ⟨⟨⟨by omega,by simpa using h⟩,?_,h0⟩,?_⟩
 ·rw [e];exact hf _
 ·rw [e];rfl
theorem xv {α:Type} {f:α→List AV} {l:List α} {n:Int} {sz:Nat} (d:α) (hf:∀ x,(f x).length=sz) (h0:0<sz) (h:0≤n∧n<l.length) :
 br [((0:Int)≤n∧n<((l.map f).length:Int))∧(((l.map f).getD n.toNat []).length=sz∧0<sz),AV.dptr ((l.map f).getD n.toNat []) = .dptr (f (l.getD n.toNat d))]:=by
 have hn:n.toNat<l.length:=by omega
 have e:(l.map f).getD n.toNat []=f (l.getD n.toNat d):=by simp [KH,KI hn]
 refine ⟨⟨⟨h.1,by simpa using h.2⟩,?_,h0⟩,?_⟩
 ·rw [e];exact hf _
 ·rw [e];rfl
theorem aV {α:Type} (f:α→List AV) (l:List α):AV.int .i64 ((l.map f).length:Nat) = .int .i64 (l.length:Nat):=by rw [KP]
def AY:AV→List Prop
 | .str l=>[l.length≤9223372036854775807]
 | .dslice xs=>[xs.length≤9223372036854775807]
 | _=>[]
def Dc:List AV→List Prop
 | []=>[]
 | c::cs=>AY c++Dc cs
def lens:AV→List Prop
 | .agg cs=>Dc cs
 | .tup cs=>Dc cs
 | v=>AY v
theorem sG {w:World} {X:Nat→Prop} {β:Nat→Nat} {κ:Nat→Nat×Nat} {v:AV} {V:Value} (h:G w X β κ v V):br (AY v):=by
 unfold AY;split
 ·exact h.str_len
 ·obtain ⟨_,_,_,_,h1,h2⟩:=h.dslice_inv;exact Nat.le_trans h1 h2
 ·trivial
theorem sT {w:World} {X:Nat→Prop} {β:Nat→Nat} {κ:Nat→Nat×Nat}:∀ {cs:List AV} {vs:Nat→Value},(∀ i,i<cs.length→G w X β κ (cs.getD i .any) (vs i))→br (Dc cs)
 | [],_,_=>trivial
 | c::cs,vs,h=>br.append.2 ⟨sG (h 0 (by simp)),sT (vs:=fun i=>vs (i+1)) fun i hi=>by simpa using h (i+1) (by simpa using hi)⟩
theorem Ga {w:World} {X:Nat→Prop} {β:Nat→Nat} {κ:Nat→Nat×Nat} {v:AV} {V:Value} (h:G w X β κ v V):br (lens v):=by
 unfold lens;split
 ·obtain ⟨vs,_,_,hg⟩:=h.agg_inv;exact sT hg
 ·obtain ⟨vs,_,_,hg⟩:=h.tup_inv;exact sT hg
 ·exact sG h
theorem bB {cd:Code} (t:Nat) {ps:List Prop} (h:lens (lk .any s.t t)=ps) (ht:br ps→dL P cd Q s):dL P cd Q s:=fun c a w β κ r =>
 ht (h ▸ Ga (r.tm t)) c a w β κ r
end
def Cv (s s':AS):Prop:=∀ (P:Program) (c:Cx P) (a:Act) (w:World) (β:Nat→Nat) (κ:Nat→Nat×Nat),Rel c s a w β κ→∃ β' κ',Rel c s' a w β' κ'
theorem Cv.refl (s:AS):Cv s s:=fun _ _ _ _ β κ r=>⟨β,κ,r⟩
theorem Cv.trans {s s' s'':AS} (h:Cv s s') (h':Cv s' s''):Cv s s'':=fun P c a w β κ r=>by obtain ⟨β',κ',r'⟩:=h _ c a w β κ r;exact h' _ c a w β' κ' r'
theorem Cv.only (s:AS) (ts hs:List Nat):Cv s (s.only ts hs):=fun _ _ _ _ β κ r=>⟨β,κ,r.sel ts hs⟩
theorem Cv.frz {s s':AS} {k:Nat} (h:s.frz k=some s'):Cv s s':=fun _ _ _ _ β κ r=>⟨β,κ,r.frz h⟩
theorem Cv.frzM {s s':AS} {k:Nat} {p:Prop} (h:s.frzM k=some (p,s')) (hp:p):Cv s s':=fun _ _ _ _ β κ r=>⟨β,κ,r.frzM h hp⟩
theorem Cv.erow {s s':AS} {t k:Nat} {e:TypeId} {sz:Nat} (h:s.erow t k e sz=some s'):Cv s s':=fun _ _ _ _ β κ r=>by obtain ⟨κ',r'⟩:=r.erow h;exact ⟨β,κ',r'⟩
theorem Cv.tri {P:Program} {cd:Code} {Q:Exit→AS→Prop} {s s':AS} (h:Cv s s') (ht:dL P cd Q s'):dL P cd Q s:=fun c a w β κ r=>by obtain ⟨β',κ',r'⟩:=h _ c a w β κ r;exact ht c a w β' κ' r'
theorem Cv.wkT (s:AS) (t:Nat) (p:List (Nat×Nat)):Cv s (s.wkT t p):=fun _ _ _ _ β κ r=>⟨β,κ,r.wkT t p⟩
def AO.wk (i:Nat) (p:List (Nat×Nat)):AO→AO
 | .cells e cs=>.cells e (db (AV.wk p) i cs)
 | o=>o
def AS.wkH (s:AS) (k i:Nat) (p:List (Nat×Nat)):AS:=⟨s.n,s.t,s.h.map fun q=>(q.1,bif Nat.beq q.1 k then AO.wk i p q.2 else q.2)⟩
theorem Fo {α:Type} (d:α) (f:α→α) (hd:f d=d) (k:Nat) (l:List (Nat×α)) (i:Nat):lk d (l.map fun q=>(q.1,bif Nat.beq q.1 k then f q.2 else q.2)) i=if i=k then f (lk d l i) else lk d l i:=by
 induction l with
 | nil=>simp [lk,hd]
 | cons p l ih =>
  obtain ⟨j,u⟩:=p;simp only [List.map_cons,lk];by_cases h:i=j
  ·subst h;rw [Nat.beq_refl];simp only [cond_true];by_cases h2:i=k
   ·subst h2;simp
   ·rw [bN h2,if_neg h2];rfl
  ·rw [bN h];simp only [cond_false];exact ih
theorem ze (s:AS) (k i:Nat) (p:List (Nat×Nat)) (j:Nat):lk .gone (s.wkH k i p).h j=if j=k then AO.wk i p (lk .gone s.h j) else lk .gone s.h j:=Fo .gone (AO.wk i p) rfl k s.h j
theorem AO.live_wk (i:Nat) (p:List (Nat×Nat)) (o:AO):(AO.wk i p o).live=o.live:=by cases o<;>rfl
theorem AO.inn_wk (i:Nat) (p:List (Nat×Nat)) (o:AO) (j:Nat):(AO.wk i p o).inn j=o.inn j:=by cases o<;>rfl
theorem AO.gone_wk {i:Nat} {p:List (Nat×Nat)} {o:AO} (h:AO.wk i p o ≠ .gone):o ≠ .gone:=fun e=>h (by rw [e];rfl)
theorem Cv.wkH (s:AS) (k i:Nat) (p:List (Nat×Nat)):Cv s (s.wkH k i p):=fun P c a w β κ r=>by
 have hlive:∀ j,(lk .gone (s.wkH k i p).h j).live=(lk .gone s.h j).live:=fun j=>by
  rw [ze];split
  ·rw [AO.live_wk]
  ·rfl
 have hinn:∀ j l,(lk .gone (s.wkH k i p).h j).inn l=(lk .gone s.h j).inn l:=fun j l=>by
  rw [ze];split
  ·rw [AO.inn_wk]
  ·rfl
 have hlv:∀ j,lv (s.wkH k i p).h j=lv s.h j:=fun j=>by simp only [lv,hlive,hinn]
 have hown:own (s.wkH k i p).h β=own s.h β:=by funext b;simp only [own,hlv]
 have hX:c.XX (s.wkH k i p).h β=c.XX s.h β:=by funext b;simp [Cx.XX,hown]
 refine ⟨β,κ,r.df,r.sz,fun j => ?_,⟨fun j => ?_,fun a b ha hb e=>r.hp.inj a b (by rw [hlv] at ha;exact ha) (by rw [hlv] at hb;exact hb) e,r.hp.kp,fun j hj=>r.hp.nk j (by rw [hlv] at hj;exact hj),fun j hj=>r.hp.nx j (by rw [hlv] at hj;exact hj),r.hp.fix,fun j hj => ?_⟩⟩
 ·rw [hX];exact r.tm j
 ·rw [hX,ze];have h:=r.hp.ob j;split
  ·generalize lk .gone s.h j=o at h;cases o with
   | cells e cs =>
    obtain ⟨cur,h1,h2,h3⟩:=h;exact ⟨cur,h1,by rw [bn];exact h2,fun l hl=>dM (R:=fun x=>G w (c.XX s.h β) β κ x (cur.getD l undef)) (fun x hx=>hx.wk p) i cs l (h3 l (by rw [bn] at hl;exact hl))⟩
   | _=>exact h
  ·exact h
 ·rw [ze] at hj;split at hj
  ·exact r.hp.sg j (AO.gone_wk hj)
  ·exact r.hp.sg j hj
def J1 (ps:List (Nat×Nat)):Bool:=ps.all fun p=>bif Nat.beq p.1 p.2 then Nat.blt p.2 1000000 else Nat.blt p.2 1000
def AS.ren (s:AS) (ps:List (Nat×Nat)):AS:=⟨s.n,s.t.map fun q=>(q.1,AV.ren ps q.2),hand ps s.h⟩
theorem Cv.ren (s:AS) (ps:List (Nat×Nat)) (hps:(lC ps&&J1 ps)=true):Cv s (s.ren ps):=fun P c a w β κ r=>by
 simp only [KJ] at hps;obtain ⟨hinj,hid⟩:=hps;have hbig:∀ {k j},rk ps k=some j→j<1000000∧(1000≤j→k=j):=fun {k j} h=>by
  have:=KU.1 hid _ (mj h);cases e:Nat.beq k j with
  | true =>
   simp only [e,cond_true,Nat.blt_eq] at this;exact ⟨this,fun _=>bP.1 e⟩
  | false =>
   simp only [e,cond_false,Nat.blt_eq] at this;exact ⟨by omega,fun hj=>by omega⟩
 let τ:Nat→Nat→Prop:=fun n n'=>rk ps n=some n'∨∃ k j i,rk ps k=some j∧i<1000000∧n=gk k i∧n'=gk j i
 let β':Nat→Nat:=tO (fun j=>match rk (swp ps) j with | some k=>β k | none=>β j) (fun j i=>match rk (swp ps) j with | some k=>β (gk k i) | none=>β (gk j i))
 let κ':Nat→Nat×Nat:=tO (fun j=>match rk (swp ps) j with | some k=>κ k | none=>κ j) (fun j i=>match rk (swp ps) j with | some k=>κ (gk k i) | none=>κ (gk j i))
 have hβ:∀ k j,rk ps k=some j→β' j=β k∧κ' j=κ k:=by intro k j h;have h2:=(bL hinj).2 h;have h3:=(hbig h).1;exact ⟨by simp only [β',eI h3,h2],by simp only [κ',eI h3,h2]⟩
 have hβv:∀ k j,rk ps k=some j→∀ i,i<1000000→β' (gk j i)=β (gk k i)∧κ' (gk j i)=κ (gk k i):=by intro k j h i hi;have h2:=(bL hinj).2 h;exact ⟨by simp only [β',dq hi,h2],by simp only [κ',dq hi,h2]⟩
 have hlk:∀ j,lk .gone (hand ps s.h) j=match rk (swp ps) j with | some k=>AO.ren ps (lk .gone s.h k) | none=>.gone:=fun j=>qK hinj j
 have hlvh:∀ n',lv (hand ps s.h) n'→∃ n,((rk ps n=some n'∧n<1000000)∨∃ k j i,rk ps k=some j∧i<1000000∧n=gk k i∧n'=gk j i)∧lv s.h n∧β' n'=β n:=by
  rintro n' (h1 | ⟨m,i,rfl,h1⟩)
  ·rw [hlk] at h1;cases e:rk (swp ps) n' with
   | none=>rw [e] at h1;exact h1.elim
   | some k =>
    rw [e] at h1;have e2:=(bL hinj).1 e;have h2:=iZ.1 h1;exact ⟨k,.inl ⟨e2,r.hp.sm k h2⟩,.inl h2,(hβ _ _ e2).1⟩
  ·rw [hlk] at h1;cases e:rk (swp ps) m with
   | none=>rw [e] at h1;exact h1.elim
   | some k =>
    rw [e] at h1;have e2:=(bL hinj).1 e;have hi:=(AO.inn_isR h1).1;exact ⟨gk k i,.inr ⟨k,m,i,e2,hi,rfl,rfl⟩,bo (nC.1 h1),(hβv _ _ e2 i hi).1⟩
 have hown:∀ b,own (hand ps s.h) β' b→own s.h β b:=by rintro b ⟨j,h1,h2⟩;obtain ⟨k,_,h3,h4⟩:=hlvh j h1;exact ⟨k,h3,by rw [← h4];exact h2⟩
 have hX:∀ b,¬ c.XX s.h β b→b<w.heap.size→¬ c.XX (hand ps s.h) β' b:=fun b hb _ hb'=>hb (hb'.imp id (hown b));refine ⟨β',κ',r.df,r.sz,fun i => ?_,⟨fun j => ?_,fun i j hi hj e => ?_,r.hp.kp,fun j hj => ?_,fun j hj => ?_,fun j hj hj6 => ?_,fun j hj => ?_⟩⟩
 ·show G w (c.XX (hand ps s.h) β') β' κ' (lk .any (s.t.map fun q=>(q.1,AV.ren ps q.2)) i) _;rw [wv .any (AV.ren ps) rfl];exact (r.tm i).ren hβ hX
 ·show HO w (c.XX (hand ps s.h) β') β' κ' j (lk .gone (hand ps s.h) j);rw [hlk];cases e:rk (swp ps) j with
  | none=>trivial
  | some k =>
   have e2:=(bL hinj).1 e;exact (r.hp.ob k).ren hβ hX (hβ _ _ e2) (fun i hi _=>hβv _ _ e2 i hi)
 ·obtain ⟨k1,a1,a2,a3⟩:=hlvh i hi;obtain ⟨k2,b1,b2,b3⟩:=hlvh j hj;have:k1=k2:=r.hp.inj k1 k2 a2 b2 (by rw [← a3,← b3];exact e);subst this;rcases a1 with ⟨h,h'⟩ | ⟨k,l,i,h,hii,rfl,rfl⟩<;>rcases b1 with ⟨g,g'⟩ | ⟨k2,l2,i2,g,hi2,ee,rfl⟩
  ·rw [h] at g;exact KT g
  ·have:=cD k2 i2;omega
  ·have:=cD k i;omega
  ·obtain ⟨rfl,rfl⟩:=dH hii hi2 ee;rw [h] at g;rw [KT g]
 ·obtain ⟨k,_,a2,a3⟩:=hlvh j hj;rw [a3];exact r.hp.nk k a2
 ·obtain ⟨k,_,a2,a3⟩:=hlvh j hj;rw [a3];exact r.hp.nx k a2
 ·have hf:=r.hp.fix j hj hj6;have e1:β' j=(match rk (swp ps) j with | some k=>β k | none=>β j):=eI hj6;have e2:κ' j=(match rk (swp ps) j with | some k=>κ k | none=>κ j):=eI hj6;rw [e1,e2];cases e:rk (swp ps) j with
  | none=>exact hf
  | some k =>
   have:=(hbig ((bL hinj).1 e)).2 hj;subst this;exact hf
 ·have hj:lk .gone (hand ps s.h) j ≠ .gone:=hj;rw [hlk] at hj;cases e:rk (swp ps) j with
  | none=>rw [e] at hj;exact absurd rfl hj
  | some k=>exact (hbig ((bL hinj).1 e)).1
def AS.erowH (s:AS) (k i k':Nat) (e:TypeId) (sz:Nat):Option AS :=
 match lk .gone (dm k' s.h) k with
 | .cells e2 cs=>match cs.getD i .any with
  | .eslice=>bif Nat.blt k' 1000 && !Nat.beq k k' then some ⟨s.n,gq k' s.t,ins k' (.row e sz []) (ins k (.cells e2 (db (fun _=>.rslice k') i cs)) (dm k' s.h))⟩ else none
  | _=>none
 | _=>none
theorem Ah {α:Type} (f:α→α) (d:α):∀ (i:Nat) (l:List α) (j:Nat),(db f i l).getD j d=if j=i∧i<l.length then f (l.getD j d) else l.getD j d
 | _,[],j=>by simp [db]
 | 0,x::xs,0=>by simp [db]
 | 0,x::xs,j+1=>by simp [db]
 | i+1,x::xs,0=>by simp [db]
 | i+1,x::xs,j+1=>by have:=Ah f d i xs j;simpa [db] using this
theorem Cv.erowH {s s':AS} {k i k':Nat} {e:TypeId} {sz:Nat} (h:s.erowH k i k' e sz=some s'):Cv s s':=fun P c a w β κ r=>by
 unfold AS.erowH at h;split at h
 ·rename_i e2 cs hk;split at h
  ·rename_i hi;obtain ⟨hc,h⟩:=ax h;cases h;rw [KJ] at hc;have hk':k'<1000:=by simpa [Nat.blt_eq] using hc.1
   have hkk:k≠k':=fun e=>by have:=hc.2;rw [e,Nat.beq_refl] at this;cases this
   have r':=r.pg k';let h2:=ins k' (AO.row e sz []) (ins k (.cells e2 (db (fun _=>.rslice k') i cs)) (dm k' s.h))
   have hl:∀ j,lk AO.gone h2 j=if j=k' then .row e sz [] else if j=k then .cells e2 (db (fun _=>.rslice k') i cs) else lk .gone (dm k' s.h) j:=fun j=>by show lk AO.gone (ins k' _ _) j=_;rw [aD,aD]
   have hk6:k'<1000000:=by omega
   have hlive:∀ {j},lv h2 j→lv (dm k' s.h) j:=by
    intro j hl2;rcases ed (o:=.row e sz []) hk6 (fun _ h=>h) hl2 with ⟨_,h0⟩ | ⟨_,hl2⟩
    ·exact absurd rfl h0
    ·exact (rD (by rw [hk];exact Iff.rfl) (fun i=>by rw [hk];exact Iff.rfl) j).1 hl2
   have hX:∀ b,¬ c.XX (dm k' s.h) β b→b<w.heap.size→¬ c.XX h2 β b:=by
    rintro b hb _ (hx | ⟨j,hl,hj⟩)
    ·exact hb (.inl hx)
    ·exact hb (.inr ⟨j,hlive hl,hj⟩)
   have hT:∀ {v:AV} {V:Value},G w (c.XX (dm k' s.h) β) β κ v V→AV.men k' v=false→G w (c.XX h2 β) β (upd κ k' (0,0)) v V:=fun hg hm =>
    hg.mono (w':=w) (fun _ _ _=>rfl) hX (fun j hj=>.updκ hk6 (fun e=>by rw [e,hm] at hj;cases hj))
   refine ⟨β,upd κ k' (0,0),r.df,r.sz,fun i => ?_,⟨fun j => ?_,fun i j hi hj e=>r'.hp.inj i j (hlive hi) (hlive hj) e,r.hp.kp,fun j hj=>r'.hp.nk j (hlive hj),fun j hj=>r'.hp.nx j (hlive hj),fun j hj hj6 => ?_,fun j hj => ?_⟩⟩
   ·exact hT (r'.tm i) (by show AV.men k' (lk .any (gq k' s.t) i)=false;rw [cq,AV.men_pg])
   ·show HO w (c.XX h2 β) β (upd κ k' (0,0)) j (lk AO.gone h2 j);rw [hl];by_cases ej:j=k'
    ·rw [if_pos ej,ej];exact ⟨by rw [ak];rfl,fun h=>absurd rfl h⟩
    ·rw [if_neg ej];by_cases ej2:j=k
     ·rw [if_pos ej2,ej2];have ho:=r'.hp.ob k;have hmen:AO.men k' (lk .gone (dm k' s.h) k)=false:=by rw [cu];exact AO.men_pg k' _
      rw [hk] at ho hmen;obtain ⟨cur,g1,g2,g3⟩:=ho;refine ⟨cur,g1,by rw [bn];exact g2,fun l hl2 => ?_⟩;rw [bn] at hl2;rw [Ah];have g4:=g3 l hl2;have hm2:AV.men k' (cs.getD l .any)=false:=by
       cases hb:AV.men k' (cs.getD l .any) with
       | false=>rfl
       | true=>have:=dc hl2 hb;rw [show AV.menL k' cs=false from hmen] at this;cases this
      by_cases el:l=i∧i<cs.length
      ·rw [if_pos el];rw [el.1,hi] at g4;obtain ⟨ad,e1⟩:=g4.eslice_inv;rw [el.1,e1];exact .rslice0 k' ad (by rw [ak])
      ·rw [if_neg el];exact hT g4 hm2
     ·rw [if_neg ej2];exact (r'.hp.ob j).mono (w':=w) (fun _ _ _=>rfl) hX (fun i hi=>.updκ hk6 (fun e=>by rw [e] at hi;have:AO.men k' (lk .gone (dm k' s.h) j)=true:=hi;rw [cu,AO.men_pg] at this;cases this)) (.updκ hk6 ej) (fun _=>rfl) (fun _ _=>rfl)
   ·have:j≠k':=by omega
    rw [bh κ this];exact r.hp.fix j hj hj6
   ·have hj:lk AO.gone h2 j ≠ .gone:=hj;rw [hl] at hj;by_cases ej:j=k'
    ·omega
    ·rw [if_neg ej] at hj;by_cases ej2:j=k
     ·rw [ej2];exact r'.hp.sm k (by show (lk .gone (dm k' s.h) k).live;rw [hk];trivial)
     ·rw [if_neg ej2] at hj;exact r'.hp.sg j hj
  ·cases h
 ·cases h
inductive Cd where
 | only (ts hs:List Nat)
 | fz (k:Nat)
 | er (t k:Nat) (e:TypeId) (sz:Nat)
 | wk (t:Nat) (p:List (Nat×Nat))
 | wkH (k i:Nat) (p:List (Nat×Nat))
 | ren (ps:List (Nat×Nat))
 | erH (k i k':Nat) (e:TypeId) (sz:Nat)
def conv:List Cd→AS→Option AS
 | [],s=>some s
 | .only ts hs::cs,s=>conv cs (s.only ts hs)
 | .fz k::cs,s=>match s.frz k with | some s'=>conv cs s' | none=>none
 | .er t k e sz::cs,s=>match s.erow t k e sz with | some s'=>conv cs s' | none=>none
 | .wk t p::cs,s=>conv cs (s.wkT t p)
 | .wkH k i p::cs,s=>conv cs (s.wkH k i p)
 | .erH k i k' e sz::cs,s=>match s.erowH k i k' e sz with | some s'=>conv cs s' | none=>none
 | .ren ps::cs,s=>bif lC ps&&J1 ps then conv cs (s.ren ps) else none
theorem dD:∀ (cs:List Cd) {s s':AS},conv cs s=some s'→Cv s s'
 | [],s,s',h=>by cases h;exact .refl _
 | .only ts hs::cs,s,s',h=>(Cv.only s ts hs).trans (dD cs h)
 | .fz k::cs,s,s',h=>by
  simp only [conv] at h;split at h
  ·rename_i h1;exact (Cv.frz h1).trans (dD cs h)
  ·cases h
 | .er t k e sz::cs,s,s',h=>by
  simp only [conv] at h;split at h
  ·rename_i h1;exact (Cv.erow h1).trans (dD cs h)
  ·cases h
 | .wk t p::cs,s,s',h=>(Cv.wkT s t p).trans (dD cs h)
 | .wkH k i p::cs,s,s',h=>(Cv.wkH s k i p).trans (dD cs h)
 | .erH k i k' e sz::cs,s,s',h=>by
  simp only [conv] at h;split at h
  ·rename_i h1;exact (Cv.erowH h1).trans (dD cs h)
  ·cases h
 | .ren ps::cs,s,s',h=>by obtain ⟨h1,h2⟩:=ax h;exact (Cv.ren s ps h1).trans (dD cs h2)
end Go.Ab
namespace Go.Sh
inductive eM (σ ε ρ:Type) where
 | go (s:σ)
 | brk (e:ε)
 | ret (r:ρ)
inductive Out (ε ρ:Type) where
 | brk (e:ε)
 | ret (r:ρ)
section
variable {α β σ ε ρ:Type}
def oy (k:σ→Option (Out ε ρ)):eM σ ε ρ→Option (Out ε ρ)
 | .go s=>k s
 | .brk e=>some (.brk e)
 | .ret r=>some (.ret r)
def cV (body:Nat→σ→Option (eM σ ε ρ)) (fin:Nat→σ→ε):Nat→Nat→σ→Option (Out ε ρ)
 | 0,i,s=>some (.brk (fin i s))
 | k+1,i,s=>(body i s).bind (oy (cV body fin k (i+1)))
def qG (body:σ→Option (eM σ ε ρ)):Nat→σ→Option (Out ε ρ)
 | 0,_=>none
 | n+1,s=>(body s).bind (oy (qG body n))
def aft (f:ε→Option β):Out ε β→Option β
 | .brk e=>f e
 | .ret r=>some r
def bR (p:Prop) [Decidable p] (x:Option α):Option α:=if p then x else none
def ry:eM σ ε ρ→Out ε ρ→Prop
 | .go _,_=>True
 | .brk e,r=>r = .brk e
 | .ret x,r=>r = .ret x
theorem aS {m:Option α} {f:α→Option β} {v:β} {G:Prop} (H:m.bind f=some v) (k:∀ y,m=some y→f y=some v→G):G:=by
 cases m with
 | none=>cases H
 | some y=>exact k y rfl H
theorem a7 {b:Bool} {x y:Option α} {v:α} {G:Prop} (H:(bif b then x else y)=some v) (t:b=true→x=some v→G) (f:b=false→y=some v→G):G:=by
 cases b with
 | true=>exact t rfl H
 | false=>exact f rfl H
theorem aR {p:Prop} [Decidable p] {x:Option α} {v:α} {G:Prop} (H:bR p x=some v) (k:p→x=some v→G):G:=by
 unfold bR at H;split at H
 ·exact k (by assumption) H
 ·cases H
theorem cC {x y:α} {G:Prop} (H:some x=some y) (k:x=y→G):G:=k (KT H)
end
end Go.Sh
namespace Go.Ab
open Go.RowKit Go.Sh
inductive Fr where
 | seq (c:Code)
 | blk (id:Nat)
 | bar (S:AS)
 | rnd (n:Nat) (y:Code)
def RT (P:Program) (n:Nat) (y:Code) (Q:Exit→AS→Prop) (s:AS):Prop:=∀ (c:Cx P) a w β κ,Rel c s a w β κ→Code.rounds P y (lift c Q) n a w
theorem tE {P:Program} {y:Code} {Q Q':Exit→Act→World→Prop} (h:∀ e a w,Q e a w→Q' e a w):∀ (n:Nat) a w,Code.rounds P y Q n a w→Code.rounds P y Q' n a w
 | 0,_,_,hr=>hr.elim
 | n+1,a,w,hr=>Code.wp_mono (fun e a w q=>by
  cases e with
  | normal=>exact tE h n a w q
  | _=>exact h _ _ _ q) hr
theorem RT.succ {P:Program} {n:Nat} {y:Code} {Q:Exit→AS→Prop} {s:AS} (h:dL P y (JO (RT P n y Q) Q) s):RT P (n+1) y Q s:=fun c a w β κ r =>
 Code.wp_mono (fun e a w q=>by
  obtain ⟨s',β',κ',q,r'⟩:=q;cases e with
  | normal=>exact (show RT P n y Q s' from q) c a w β' κ' r'
  | _=>exact ⟨s',β',κ',q,r'⟩) (h c a w β κ r)
theorem RT.loop {P:Program} {n:Nat} {y:Code} {Q:Exit→AS→Prop} {s:AS} (h:RT P n y Q s):dL P (.loop y) Q s:=fun c a w β κ r=>wp_loop_rounds n (h c a w β κ r)
theorem RT.lift {P:Program} {n:Nat} {y:Code} {Q Q':Exit→AS→Prop} {s:AS} (h:RT P n y Q s) (hq:∀ (c:Cx P) e a w,lift c Q e a w→lift c Q' e a w):RT P n y Q' s:=fun c a w β κ r=>tE (fun e a w=>hq c e a w) n a w (h c a w β κ r)
def cg (P:Program):List Fr→(Exit→AS→Prop)→Exit→AS→Prop
 | [],Q=>Q
 | .seq c::fs,Q=>JO (dL P c (cg P fs Q)) (cg P fs Q)
 | .blk id::fs,Q=>blk id (cg P fs Q)
 | .bar S::fs,Q=>JO (fun s=>Cv s S) (cg P fs Q)
 | .rnd n y::fs,Q=>JO (RT P n y (cg P fs Q)) (cg P fs Q)
def yX:List Fr→Option Code×List Fr
 | .seq c::fs=>(some c,fs)
 | .blk _::fs=>yX fs
 | .bar S::fs=>(none,.bar S::fs)
 | .rnd (n+1) y::fs=>(some y,.rnd n y::fs)
 | .rnd 0 y::fs=>(none,.rnd 0 y::fs)
 | []=>(none,[])
def AX (id:Nat):List Fr→Option (List Fr)
 | .seq _::fs=>AX id fs
 | .blk j::fs=>bif Nat.beq id j then some fs else AX id fs
 | .bar _::fs=>AX id fs
 | .rnd _ _::fs=>AX id fs
 | []=>none
inductive Sg where
 | rg (n:Nat) (d1 d2:List pe)
 | cv (cs:List Cd)
 | un
 | eqT (t:Nat) (v:AV)
inductive EH where
 | at (c:Code) (fs:List Fr) (s:AS)
 | nrm (fs:List Fr) (s:AS)
 | ret (s:AS)
def JH (P:Program) (ops:Array Oper) (dr:Bool) (k:Nat) (d1 d2:List pe) (s:AS):Option (List Prop×AS×List Oper) :=
 bif dr then (match d1 with | .ent c::d1'=>F2 P c ops.toList k d1' d2 s | .rr::d1'=>FL P ops.toList k d1' d2 s | _=>I1 P ops.toList k d1 d2 s) else bj P ops.toList.toArray ops.toList d2 s
def path (P:Program):Nat→List Sg→Code→List Fr→AS→Option (List Prop×EH)
 | 0,_,c,fs,s=>some ([],.at c fs s)
 | n+1,.cv cs::sg,c,fs,s=>match conv cs s with
  | some s'=>path P n sg c fs s'
  | none=>none
 | n+1,.eqT t v::sg,c,fs,s=>match path P n sg c fs ⟨s.n,ins t v s.t,s.h⟩ with
  | some (ps,lf)=>some ((lk .any s.t t=v)::ps,lf)
  | none=>none
 | n+1,.un::sg,.loop y,fs,s=>path P n sg y (.rnd 63 y::fs) s
 | n+1,sg,.seq x y,fs,s=>path P n sg x (.seq y::fs) s
 | n+1,sg,.skip,fs,s=>match yX fs with
  | (some c,fs')=>path P n sg c fs' s
  | (none,fs')=>some ([],.nrm fs' s)
 | n+1,.rg k d1 d2::sg,.region _ ops dr,fs,s=>match JH P ops dr k d1 d2 s with
  | some (ps,s',[])=>match yX fs with
   | (some c,fs')=>match path P n sg c fs' s' with
    | some (qs,lf)=>some (ps++qs,lf)
    | none=>none
   | (none,fs')=>some (ps,.nrm fs' s')
  | _=>none
 | n+1,sg,.cond x y z,fs,s=>match s.op x with
  | .bool true=>path P n sg y fs s
  | .bool false=>path P n sg z fs s
  | _=>none
 | n+1,sg,.block id y,fs,s=>path P n sg y (.blk id::fs) s
 | n+1,sg,.exit id,fs,s=>match AX id fs with
  | some fs1=>match yX fs1 with
   | (some c,fs')=>path P n sg c fs' s
   | (none,fs')=>some ([],.nrm fs' s)
  | none=>none
 | _+1,_,.ret,_,s=>some ([],.ret s)
 | _+1,_,.loop y,fs,s=>some ([],.at (.loop y) fs s)
 | _+1,_,_,_,_=>none
section
variable {P:Program} {Q:Exit→AS→Prop}
theorem vj:∀ {fs:List Fr} {s:AS},(∀ c fs',yX fs=(some c,fs')→dL P c (cg P fs' Q) s)→(∀ fs',yX fs=(none,fs')→cg P fs' Q .normal s)→cg P fs Q .normal s
 | [],s,_,h=>h _ rfl
 | .seq c::fs,s,h,_=>h _ _ rfl
 | .blk id::fs,s,h,h2=>vj (fs:=fs) h h2
 | .bar S::fs,s,_,h=>h _ rfl
 | .rnd (n+1) y::fs,s,h,_=>RT.succ (h _ _ rfl)
 | .rnd 0 y::fs,s,_,h=>h _ rfl
theorem vF {id:Nat}:∀ {fs fs1:List Fr} {s:AS},AX id fs=some fs1→cg P fs1 Q .normal s→cg P fs Q (.exit id) s
 | [],_,s,h,_=>by cases h
 | .seq c::fs,_,s,h,h2=>vF (fs:=fs) h h2
 | .bar S::fs,_,s,h,h2=>vF (fs:=fs) h h2
 | .rnd n y::fs,_,s,h,h2=>vF (fs:=fs) h h2
 | .blk j::fs,fs1,s,h,h2=>by
  simp only [AX] at h;simp only [cg,blk];cases e:Nat.beq id j with
  | true=>rw [e] at h;cases h;exact h2
  | false=>rw [e] at h;exact vF (fs:=fs) h h2
theorem uK:∀ {fs:List Fr} {s:AS},Q .ret s→cg P fs Q .ret s
 | [],_,h=>h
 | .seq _::fs,_,h=>uK (fs:=fs) h
 | .blk _::fs,_,h=>uK (fs:=fs) h
 | .bar _::fs,_,h=>uK (fs:=fs) h
 | .rnd _ _::fs,_,h=>uK (fs:=fs) h
def Jv (P:Program) (Q:Exit→AS→Prop):EH→Prop
 | .at c fs s=>dL P c (cg P fs Q) s
 | .nrm fs s=>cg P fs Q .normal s
 | .ret s=>Q .ret s
theorem uy (hm:P.follows .mixedOrders=true) {id k:Nat} {ops:Array Oper} {dr:Bool} {d1 d2:List pe} {s s':AS} {ps:List Prop} {Q':Exit→AS→Prop} (h:JH P ops dr k d1 d2 s=some (ps,s',[])) (hp:br ps) (hq:Q' .normal s'):dL P (.region id ops dr) Q' s:=by
 have e:ops=ops.toList.toArray:=by simp
 unfold JH at h;cases dr with
 | true =>
  simp only [cond_true] at h;split at h
  ·rw [e];exact Cw hm _ k _ d2 h hp hq
  ·rw [e];exact CD hm k _ d2 h hp hq
  ·rw [e];exact DT hm k d1 d2 h hp hq
 | false =>
  simp only [cond_false] at h;have h':=Ij (id:=id) d2 h hp hq;rw [← e] at h';exact h'
theorem cF (hm:P.follows .mixedOrders=true):∀ (n:Nat) {sg:List Sg} {c:Code} {fs:List Fr} {s:AS} {ps:List Prop} {lf:EH},path P n sg c fs s=some (ps,lf)→br ps→Jv P Q lf→dL P c (cg P fs Q) s
 | 0,sg,c,fs,s,ps,lf,h,_,hl=>by simp only [path] at h;cases h;exact hl
 | n+1,sg,c,fs,s,ps,lf,h,hp,hl=>by
  unfold path at h;split at h
  ·rename_i e;cases e
  ·rename_i n' cs sg' c' fs' s' e;cases e;split at h
   ·rename_i s2 hc;exact (dD _ hc).tri (cF hm n h hp hl)
   ·cases h
  ·rename_i n' t v sg' c' fs' s' e;cases e;split at h
   ·rename_i ps1 lf1 hpath;cases h;obtain ⟨p1,p2⟩:=br.cons.1 hp;have ht:=cF hm n hpath p2 hl;exact fun c a w β κ r=>ht c a w β κ (r.same (iM.symm' (Bc p1)))
   ·cases h
  ·rename_i n' sg' y fs' s' e;cases e;exact RT.loop (RT.succ (n:=63) (cF hm n h hp hl))
  ·rename_i n' e _ _;cases e;exact DM (cF hm n h hp hl)
  ·rename_i n' e _ _;cases e;refine FR (vj (fun c fs' e => ?_) (fun fs' e => ?_))
   ·rw [e] at h;exact cF hm n h hp hl
   ·rw [e] at h;cases h;exact hl
  ·rename_i n' k d1 d2 sg' id ops dr fs0 s0 e;cases e;split at h
   ·rename_i ps1 s1 hr;split at h
    ·rename_i c1 fs1 e1;split at h
     ·rename_i qs lf1 hpath;cases h;obtain ⟨p1,p2⟩:=br.append.1 hp;refine uy hm hr p1 (vj (fun c2 fs2 e2 => ?_) (fun fs2 e2 => ?_))
      ·rw [e1] at e2;cases e2;exact cF hm n hpath p2 hl
      ·rw [e1] at e2;cases e2
     ·cases h
    ·rename_i fs1 e1;cases h;refine uy hm hr hp (vj (fun c2 fs2 e2 => ?_) (fun fs2 e2 => ?_))
     ·rw [e1] at e2;cases e2
     ·rw [e1] at e2;cases e2;exact hl
   ·cases h
  ·rename_i n' x y z fs0 s0 e _ _;cases e;split at h
   ·rename_i hb;exact E6 hb (cF hm n h hp hl)
   ·rename_i hb;exact Ej hb (cF hm n h hp hl)
   ·cases h
  ·rename_i n' e _ _;cases e;exact EA (cF hm n h hp hl)
  ·rename_i n' e _ _;cases e;split at h
   ·rename_i fs1 he;refine G6 (vF he (vj (fun c fs' e => ?_) (fun fs' e => ?_)))
    ·rw [e] at h;exact cF hm n h hp hl
    ·rw [e] at h;cases h;exact hl
   ·cases h
  ·rename_i n' e _ _;cases e;cases h;exact Hk (uK hl)
  ·rename_i n' e _ _ _;cases e;cases h;exact hl
  ·cases h
end
def dead:AS:=⟨0,[(0,.dslice [[]])],[]⟩
theorem zl {P:Program} {c:Cx P} {a:Act} {w:World} {β:Nat→Nat} {κ:Nat→Nat×Nat} (r:Rel c dead a w β κ):False:=by
 have h:=r.tm 0;simp only [dead,lk,Nat.beq_refl,cond_true] at h;generalize a.tmps.getD 0 undef=V at h;cases h with
 | d h =>
  cases h with
  | dslice _ b o cap sz cv h1 h2 h0 h3 h4 h5 h6 =>
   have:=h4 0 (by simp);simp at this;omega
section
variable {P:Program} {Q Q':Exit→AS→Prop} {c:Code} {fs:List Fr} {s:AS}
theorem dL.lift {cd:Code} (h:dL P cd Q s) (hq:∀ (c:Cx P) e a w,lift c Q e a w→lift c Q' e a w):dL P cd Q' s:=fun c a w β κ r=>wp_mono (h c a w β κ r) fun e a w q=>hq c e a w q
def I5 (cs:List Cd):Option (List Prop×EH)→Option (List Prop×AS×AS)
 | some (ps,.nrm (.bar S::_) s)=>match conv cs s with
  | some s'=>some (ps,s',S)
  | none=>none
 | _=>none
theorem re (hm:P.follows .mixedOrders=true) (n:Nat) (sg:List Sg) (cs:List Cd) (S:AS) {ps:List Prop} (hp:br ps) (h:I5 cs (path P n sg c fs s)=some (ps,S,S)):dL P c (cg P fs Q) s:=by
 unfold I5 at h;split at h
 ·rename_i ps' S' fs' s' hpath;split at h
  ·rename_i s2 hc;simp only [KR,Prod.mk.injEq] at h;obtain ⟨rfl,rfl,rfl⟩:=h;exact cF hm n hpath hp (dD cs hc)
  ·cases h
 ·cases h
def Hh (P:Program) (rs:List ResultVar) (v:AV) (h1:List (Nat×AO)):Exit→AS→Prop
 | .ret,s=>∃ s2 ks,Cv s s2∧vo P s2 rs=some v∧sel ks s2.h=h1
 | .normal,s=>∃ s2 ks,Cv s s2∧vo P s2 rs=some v∧sel ks s2.h=h1
 | _,_=>False
def Iq (P:Program) (rs:List ResultVar) (cs:List Cd) (ks:List Nat) (ps:List Prop) (s:AS):Option (List Prop×AV×List (Nat×AO)) :=
 match conv cs s with
 | some s2=>match vo P s2 rs with
  | some v=>some (ps,v,sel ks s2.h)
  | none=>none
 | none=>none
def Jx (P:Program) (rs:List ResultVar) (cs:List Cd) (ks:List Nat):Option (List Prop×EH)→Option (List Prop×AV×List (Nat×AO))
 | some (ps,.nrm [] s)=>Iq P rs cs ks ps s
 | some (ps,.ret s)=>Iq P rs cs ks ps s
 | _=>none
theorem xE {rs:List ResultVar} {cs:List Cd} {ks:List Nat} {ps ps':List Prop} {v:AV} {h1:List (Nat×AO)} (h:Iq P rs cs ks ps s=some (ps',v,h1)):ps=ps'∧∃ s2 ks,Cv s s2∧vo P s2 rs=some v∧sel ks s2.h=h1:=by
 unfold Iq at h;split at h
 ·rename_i s2 hc;split at h
  ·rename_i v' hv;simp only [KR,Prod.mk.injEq] at h;obtain ⟨rfl,rfl,rfl⟩:=h;exact ⟨rfl,s2,ks,dD cs hc,hv,rfl⟩
  ·cases h
 ·cases h
theorem Fm (hm:P.follows .mixedOrders=true) (n:Nat) (sg:List Sg) (cs:List Cd) (ks:List Nat) {rs:List ResultVar} {v:AV} {h1:List (Nat×AO)} {ps:List Prop} (hp:br ps) (h:Jx P rs cs ks (path P n sg c fs s)=some (ps,v,h1)):dL P c (cg P fs (Hh P rs v h1)) s:=by
 unfold Jx at h;split at h
 ·rename_i ps' s' hpath;obtain ⟨rfl,h2⟩:=xE h;exact cF hm n hpath hp h2
 ·rename_i ps' s' hpath;obtain ⟨rfl,h2⟩:=xE h;exact cF hm n hpath hp h2
 ·cases h
def qm:Nat→List Bool→Code→List Fr→Code×List Fr
 | 0,_,c,fs=>(c,fs)
 | n+1,bs,.seq x y,fs=>qm n bs x (.seq y::fs)
 | n+1,bs,.skip,fs=>match yX fs with
  | (some c,fs')=>qm n bs c fs'
  | (none,fs')=>(.skip,fs')
 | n+1,bs,.region _ _ _,fs=>match yX fs with
  | (some c,fs')=>qm n bs c fs'
  | (none,fs')=>(.skip,fs')
 | n+1,b::bs,.cond _ y z,fs=>qm n bs (bif b then y else z) fs
 | n+1,bs,.block id y,fs=>qm n bs y (.blk id::fs)
 | n+1,bs,.loop y,fs=>qm n bs y (.rnd 63 y::fs)
 | n+1,bs,.exit id,fs=>match AX id fs with
  | some fs1=>match yX fs1 with
   | (some c,fs')=>qm n bs c fs'
   | (none,fs')=>(.skip,fs')
  | none=>(.skip,fs)
 | _+1,_,c,fs=>(c,fs)
def Ku (cs:List Cd):Option (List Prop×EH)→Option (List Prop×Code×List Fr×AS)
 | some (ps,.at c fs s)=>match conv cs s with
  | some s'=>some (ps,c,fs,s')
  | none=>none
 | _=>none
theorem Ho (hm:P.follows .mixedOrders=true) (n:Nat) (sg:List Sg) (cs:List Cd) (m:Nat) (bs:List Bool) (S:AS) {ps:List Prop} (hp:br ps) (h:Ku cs (path P n sg c fs s)=some (ps,(qm m bs c fs).1,(qm m bs c fs).2,S))
 (ht:dL P (qm m bs c fs).1 (cg P (qm m bs c fs).2 Q) S):dL P c (cg P fs Q) s:=by
 unfold Ku at h;split at h
 ·rename_i ps' c' fs' s' hpath;split at h
  ·rename_i s2 hc;simp only [KR,Prod.mk.injEq] at h;obtain ⟨rfl,h1,h2,rfl⟩:=h;refine cF hm n hpath hp ?_;rw [← h1,← h2] at ht;exact (dD cs hc).tri ht
  ·cases h
 ·cases h
def Ak:Nat→AS→List Fr→List Fr
 | _,_,[]=>[]
 | 0,S,_::fs=>.bar S::fs
 | k+1,S,f::fs=>f::Ak k S fs
def uN:Nat→List Fr→Code
 | 0,.seq y::_=>y
 | k+1,_::fs=>uN k fs
 | _,_=>.skip
def rI:Nat→List Fr→Bool
 | 0,.seq _::_=>true
 | k+1,_::fs=>rI k fs
 | _,_=>false
theorem Ez:∀ (f:Fr) {Q Q':Exit→AS→Prop} {fs fs':List Fr},(∀ (c:Cx P) e a w,lift c (cg P fs Q) e a w→lift c (cg P fs' Q') e a w)→∀ (c:Cx P) e a w,lift c (cg P (f::fs) Q) e a w→lift c (cg P (f::fs') Q') e a w:=by
 intro f Q Q' fs fs' h c e a w ⟨s,β,κ,hs,r⟩;cases f with
 | seq y =>
  cases e with
  | normal=>exact ⟨s,β,κ,dL.lift (hs:dL P y (cg P fs Q) s) h,r⟩
  | _ =>
   obtain ⟨s',β',κ',hs',r'⟩:=h c _ a w ⟨s,β,κ,hs,r⟩;exact ⟨s',β',κ',hs',r'⟩
 | rnd n y =>
  cases e with
  | normal=>exact ⟨s,β,κ,RT.lift (hs:RT P n y (cg P fs Q) s) h,r⟩
  | _ =>
   obtain ⟨s',β',κ',hs',r'⟩:=h c _ a w ⟨s,β,κ,hs,r⟩;exact ⟨s',β',κ',hs',r'⟩
 | bar S =>
  cases e with
  | normal=>exact ⟨s,β,κ,hs,r⟩
  | _ =>
   obtain ⟨s',β',κ',hs',r'⟩:=h c _ a w ⟨s,β,κ,hs,r⟩;exact ⟨s',β',κ',hs',r'⟩
 | blk id =>
  cases e with
  | exit j =>
   simp only [cg,blk] at hs;cases hb:Nat.beq j id with
   | true =>
    rw [hb] at hs;obtain ⟨s',β',κ',hs',r'⟩:=h c _ a w ⟨s,β,κ,hs,r⟩;refine ⟨s',β',κ',?_,r'⟩;simp only [cg,blk,hb];exact hs'
   | false =>
    rw [hb] at hs;obtain ⟨s',β',κ',hs',r'⟩:=h c _ a w ⟨s,β,κ,hs,r⟩;refine ⟨s',β',κ',?_,r'⟩;simp only [cg,blk,hb];exact hs'
  | _ =>
   obtain ⟨s',β',κ',hs',r'⟩:=h c _ a w ⟨s,β,κ,hs,r⟩;exact ⟨s',β',κ',hs',r'⟩
theorem r6:∀ (k:Nat) {fs:List Fr} {S:AS},rI k fs=true→(S=dead∨dL P (uN k fs) (cg P (fs.drop (k+1)) Q) S)→∀ (c:Cx P) e a w,lift c (cg P (Ak k S fs) Q) e a w→lift c (cg P fs Q) e a w
 | 0,[],S,h,_=>by cases h
 | _+1,[],S,h,_=>by cases h
 | 0,f::fs,S,h,h2=>by
  intro c e a w ⟨s,β,κ,hs,r⟩;cases f with
  | seq y =>
   cases e with
   | normal =>
    obtain ⟨β',κ',r'⟩:=(hs:Cv s S) _ c a w β κ r;rcases h2 with h2 | h2
    ·subst h2;exact (zl r').elim
    ·exact ⟨S,β',κ',h2,r'⟩
   | _=>exact ⟨s,β,κ,hs,r⟩
  | blk id=>cases h
  | bar S=>cases h
  | rnd n y=>cases h
 | k+1,f::fs,S,h,h2=>Ez f (r6 k (fs:=fs) h h2)
theorem cQ (k:Nat) (S:AS) (hk:rI k fs=true) (h1:dL P c (cg P (Ak k S fs) Q) s) (h2:dL P (uN k fs) (cg P (fs.drop (k+1)) Q) S):dL P c (cg P fs Q) s :=
 h1.lift (r6 k hk (.inr h2))
def J2 {ε ρ:Type} (S:ε→AS):Out ε ρ→AS
 | .brk e=>S e
 | .ret _=>dead
theorem Il {ε ρ:Type} (k:Nat) (S:ε→AS) (R:Out ε ρ) (hk:rI k fs=true) (h1:dL P c (cg P (Ak k (J2 S R) fs) Q) s) (h2:∀ e,R = .brk e→dL P (uN k fs) (cg P (fs.drop (k+1)) Q) (S e)):dL P c (cg P fs Q) s :=
 h1.lift (r6 k hk (by cases R with | brk e=>exact .inr (h2 e rfl) | ret x=>exact .inl rfl))
def kG:Code→Code
 | .loop y=>y
 | _=>.skip
def vP:Code→Bool
 | .loop _=>true
 | _=>false
theorem oO (h:vP c=true):c = .loop (kG c):=by cases c<;>first | rfl | (cases h;done)
def Ky {σ ε ρ:Type} (S:σ→AS):eM σ ε ρ→AS
 | .go x=>S x
 | _=>dead
theorem rZ {ι:Type} {y:Code} (S:ι→AS) (φ:ι→Prop) (μ:ι→Nat) (i₀:ι) (h₀:φ i₀)
 (round:∀ i,φ i→∃ T,(T=dead∨∃ j,φ j∧μ j<μ i∧T=S j)∧dL P y (cg P (.bar T::fs) Q) (S i)):dL P (.loop y) (cg P fs Q) (S i₀):=fun c a w β κ r=>by
 refine wp_loop_ghost (fun n a w=>∃ i β κ,φ i∧μ i=n∧Rel c (S i) a w β κ) (μ i₀) ⟨i₀,β,κ,h₀,rfl,r⟩ ?_;rintro n a w ⟨i,β,κ,hi,rfl,r⟩;obtain ⟨T,hT,ht⟩:=round i hi;refine wp_mono (ht c a w β κ r) fun e a' w' ⟨s',β',κ',q,r'⟩ => ?_;cases e with
 | normal =>
  obtain ⟨β2,κ2,r2⟩:=(q:Cv s' T) _ c a' w' β' κ' r';rcases hT with rfl | ⟨j,hj,hlt,rfl⟩
  ·exact (zl r2).elim
  ·exact ⟨μ j,hlt,j,β2,κ2,hj,rfl,r2⟩
 | exit id=>exact ⟨s',β',κ',q,r'⟩
 | goto l=>exact ⟨s',β',κ',q,r'⟩
 | ret=>exact ⟨s',β',κ',q,r'⟩
 | panic ch=>exact ⟨s',β',κ',q,r'⟩
 | outgrown=>exact ⟨s',β',κ',q,r'⟩
theorem Ke {σ ε ρ:Type} {body:Nat→σ→Option (eM σ ε ρ)} {fin:Nat→σ→ε} {N i0:Nat} {st0:σ} {R:Out ε ρ} (S:Nat→σ→AS) (hc:vP c=true) (H:cV body fin (N-i0) i0 st0=some R)
 (zero:∀ i st,N≤i→R = .brk (fin i st)→dL P (kG c) (cg P (.bar dead::fs) Q) (S i st))
 (succ:∀ i st,i<N→∀ q,body i st=some q→ry q R→dL P (kG c) (cg P (.bar (Ky (S (i+1)) q)::fs) Q) (S i st)):dL P c (cg P fs Q) (S i0 st0):=by
 rw [oO hc];refine rZ (ι:=Nat×σ) (fun x=>S x.1 x.2) (fun x=>cV body fin (N-x.1) x.1 x.2=some R) (fun x=>N-x.1) (i0,st0) H ?_;rintro ⟨i,st⟩ hi;by_cases hN:N≤i
 ·rw [show N-i=0 by omega] at hi;simp only [cV,KR] at hi;exact ⟨dead,.inl rfl,zero i st hN hi.symm⟩
 ·have e:N-i=(N-(i+1))+1:=by omega
  have hi:cV body fin (N-i) i st=some R:=hi;rw [e] at hi;simp only [cV] at hi;refine aS hi fun q hq hK => ?_;cases q with
  | go st'=>exact ⟨S (i+1) st',.inr ⟨(i+1,st'),hK,by show N-(i+1)<N-i;omega,rfl⟩,succ i st (by omega) _ hq trivial⟩
  | brk e=>exact ⟨dead,.inl rfl,succ i st (by omega) _ hq (KT hK).symm⟩
  | ret e=>exact ⟨dead,.inl rfl,succ i st (by omega) _ hq (KT hK).symm⟩
theorem s7 {σ ε ρ:Type} {body:σ→Option (eM σ ε ρ)} {n:Nat} {st0:σ} {R:Out ε ρ} (S:σ→AS) (hc:vP c=true) (H:qG body n st0=some R)
 (succ:∀ st,∀ q,body st=some q→ry q R→dL P (kG c) (cg P (.bar (Ky S q)::fs) Q) (S st)):dL P c (cg P fs Q) (S st0):=by
 rw [oO hc];refine rZ (ι:=Nat×σ) (fun x=>S x.2) (fun x=>qG body x.1 x.2=some R) (fun x=>x.1) (n,st0) H ?_;rintro ⟨k,st⟩ hi;cases k with
 | zero=>cases hi
 | succ k =>
  have hi:(body st).bind (oy (qG body k))=some R:=hi;refine aS hi fun q hq hK => ?_;cases q with
  | go st'=>exact ⟨S st',.inr ⟨(k,st'),hK,Nat.lt_succ_self k,rfl⟩,succ st _ hq trivial⟩
  | brk e=>exact ⟨dead,.inl rfl,succ st _ hq (KT hK).symm⟩
  | ret e=>exact ⟨dead,.inl rfl,succ st _ hq (KT hK).symm⟩
theorem GC {f:FuncId} {fn:Func} {args:List AV} {h h1:List (Nat×AO)} {v:AV} (hf:P.funcs[f]? = some fn) (n:Nat) (rs:List ResultVar) (hok:(qZ fn&&Nat.beq fn.ntmps n&&Nat.ble args.length n)=true) (hrs:fn.results.toList=rs)
 (ht:dL P (vU fn) (cg P [] (Hh P rs v h1)) ⟨n,lI args 0,h⟩):bD P f args h (fun r h'=>r=v∧h'=h1):=by
 refine Ko hf n rs hok hrs (ht.lift fun c e a w ⟨s,β,κ,q,r⟩ => ?_);have key:(∃ s2 ks,Cv s s2∧vo P s2 rs=some v∧sel ks s2.h=h1)→∃ s β κ,(∃ v' ks,vo P s rs=some v'∧v'=v∧sel ks s.h=h1)∧Rel c s a w β κ:=by rintro ⟨s2,ks,hcv,h2,h3⟩;obtain ⟨β',κ',r'⟩:=hcv _ c a w β κ r;exact ⟨s2,β',κ',⟨v,ks,h2,rfl,h3⟩,r'⟩
 cases e with
 | normal=>exact key q
 | ret=>exact key q
 | exit id=>exact q.elim
 | goto l=>exact q.elim
 | panic ch=>exact q.elim
 | outgrown=>exact q.elim
end
end Go.Ab
namespace Go.Sh
abbrev ai:=List UInt8
def dJ {ε β:Type} (f:ε→Option β):Out ε Empty→Option β
 | .brk e=>f e
theorem a8 {ε β:Type} {f:ε→Option β} {e:ε} {v:β} (h:aft f (.brk e)=some v):f e=some v:=h
theorem ao {ε β:Type} {f:ε→Option β} {x v:β} (h:aft f (.ret x)=some v):some x=some v:=h
theorem bI {ε β:Type} {f:ε→Option β} {e:ε} {v:β} (h:dJ f (.brk e)=some v):f e=some v:=h
theorem eT {σ ε ρ:Type} {e:ε} {R:Out ε ρ} (h:ry (.brk e:eM σ ε ρ) R):R = .brk e:=h
theorem aG {σ ε ρ:Type} {x:ρ} {R:Out ε ρ} (h:ry (.ret x:eM σ ε ρ) R):R = .ret x:=h
def dy {V:Type} (d:V) (x:ai):List (ai×V)→V
 | []=>d
 | (k,n)::m=>if k=x then n else dy d x m
def dn {V:Type} (x:ai) (n:V):List (ai×V)→List (ai×V)
 | []=>[(x,n)]
 | (k,u)::m=>if k=x then (x,n)::m else (k,u)::dn x n m
end Go.Sh
namespace Go.Ab
open Go.RowKit Go.Sh
theorem tZ (l:List UInt8) (a:Nat):AV.str ((l.drop a).take (l.length-a)) = .str (l.drop a):=by congr 1;exact List.take_of_length_le (by simp)
theorem zc (l:List UInt8) (b:Nat):AV.str ((l.drop 0).take (b-0)) = .str (l.take b):=by simp
theorem zP {α:Type} (c:α→List AV) (l:List α) (a:Nat):AV.dslice (((l.map c).drop a).take ((l.map c).length-a)) = .dslice ((l.drop a).map c):=by congr 1;rw [List.take_of_length_le (by simp),List.map_drop]
theorem Bt {α:Type} (c:α→List AV) (l:List α) (b:Nat):AV.dslice (((l.map c).drop 0).take (b-0)) = .dslice ((l.take b).map c):=by simp [List.map_take]
theorem Ib {α:Type} (c:α→List AV) (l:List α) (a b:Nat):AV.dslice (((l.map c).drop a).take (b-a)) = .dslice (((l.drop a).take (b-a)).map c):=by simp [List.map_take,List.map_drop]
theorem IM {α:Type} {c:α→List AV} {sz:Nat} (h:∀ x,(c x).length=sz∧(c x).all (fun v=>v.one&&v.fl)=true) (l:List α):EL sz (l.map c):=by intro y hy;obtain ⟨x,_,rfl⟩:=List.mem_map.1 hy;refine ⟨(h x).1,fun v hv => ?_⟩;have:=KU.1 (h x).2 v hv;simpa [KJ] using this
theorem qw {α:Type} {c:α→List AV} {sz:Nat} (h:∀ x,(c x).length=sz∧(c x).all (fun v=>v.one&&v.fl)=true) (xs ys:List α) (by_:Nat) (hb:0<by_) (hc:(xs.length+ys.length)*by_≤140737488355328) :
 br [EL sz (ys.map c),((xs.map c).length+(ys.map c).length)*by_≤140737488355328,(xs.map c).length+(ys.map c).length≤9223372036854775807]:=by
 refine ⟨IM h ys,by simpa using hc,?_⟩;have:xs.length+ys.length≤(xs.length+ys.length)*by_:=Nat.le_mul_of_pos_right _ hb;show (xs.map c).length+(ys.map c).length≤_;simp only [KP];omega
theorem rO {α:Type} (e sz:Nat) (c:α→List AV) (xs ys:List α):AO.row e sz (xs.map c++ys.map c) = .row e sz ((xs++ys).map c):=by rw [List.map_append]
theorem Kd {α:Type} (e sz:Nat) (c:α→List AV) (ys:List α):AO.row e sz (([]:List α).map c++ys.map c) = .row e sz (ys.map c):=rfl
theorem KD {α:Type} {c:α→List AV} {sz:Nat} (h:∀ x,(c x).length=sz∧(c x).all (fun v=>v.one&&v.fl)=true) (ys:List α) (by_:Nat) (hb:0<by_) (hc:ys.length*by_≤140737488355328) :
 br [EL sz (ys.map c),(ys.map c).length*by_≤140737488355328,(ys.map c).length≤9223372036854775807]:=by
 refine ⟨IM h ys,by simpa using hc,?_⟩;have:ys.length≤ys.length*by_:=Nat.le_mul_of_pos_right _ hb;show (ys.map c).length≤_;simp only [KP];omega
def lQ (t:TypeId) (ok:Bool):AV:=bif ok then .nilI else .iface t .any
def G9:List AV→AV
 | v::_=>v
 | []=>.any
def bA {V:Type} (c:V→List AV) (p:ai×V):List UInt8×AV:=(p.1,G9 (c p.2))
theorem pj {V:Type} {c:V→List AV} (x:List UInt8) (d:V):∀ (m:List (ai×V)),wQ x (G9 (c d)) (m.map (bA c))=G9 (c (dy d x m))
 | []=>rfl
 | (k,n)::m=>by
  simp only [List.map_cons,bA,wQ,dy];split
  ·rfl
  ·exact pj x d m
theorem sH {V:Type} {c:V→List AV} (x:List UInt8) (n:V):∀ (m:List (ai×V)),vd x (G9 (c n)) (m.map (bA c))=(dn x n m).map (bA c)
 | []=>rfl
 | (k,u)::m=>by
  simp only [List.map_cons,bA,vd,dn];split
  ·rfl
  ·rw [List.map_cons];exact congrArg _ (sH x n m)
section
variable {P:Program} {Q:Exit→AS→Prop} {s:AS}
def II (s:AS) (k i:Nat):List Prop:=match lk .gone s.h k with
 | .cells _ cs=>bif Nat.blt i cs.length then AY (cs.getD i .any) else []
 | _=>[]
theorem nc {cd:Code} (k i:Nat) {ps:List Prop} (h:II s k i=ps) (ht:br ps→dL P cd Q s):dL P cd Q s:=fun c a w β κ r=>by
 refine ht ?_ c a w β κ r;subst h;unfold II;split
 ·rename_i e cs he;cases hb:Nat.blt i cs.length with
  | false=>trivial
  | true =>
   have:=r.hp.ob k;rw [he] at this;obtain ⟨cur,_,_,h3⟩:=this;exact sG (h3 i (by simpa [Nat.blt_eq] using hb))
 ·trivial
def Gz (s:AS) (k:Nat):Option Nat:=match lk .gone s.h k with
 | .row _ _ xs=>some xs.length
 | _=>none
theorem nu {cd:Code} (k:Nat) {n:Nat} (h:Gz s k=some n) (ht:n≤9223372036854775807→dL P cd Q s):dL P cd Q s:=fun c a w β κ r=>by
 refine ht ?_ c a w β κ r;unfold Gz at h;split at h
 ·rename_i e sz xs he;cases h;have:=r.hp.ob k;rw [he] at this;by_cases hx:xs=[]
  ·subst hx;simp
  ·obtain ⟨cur,_,_,h3,h4,_⟩:=this.2 hx;exact Nat.le_trans h3 h4
 ·cases h
end
theorem Bz {α:Type} {f:α→List AV} {l:List α} {n:Nat} (sz j m:Nat) (hn:n<l.length) (hj:j+m≤sz):n*sz+j=n*sz+j∧n<(l.map f).length∧j+m≤sz:=⟨rfl,by simpa using hn,hj⟩
theorem cK {α:Type} {f:α→List AV} {l:List α} {n:Nat} (d:α) (h:n<l.length):(l.map f).getD n []=f (l.getD n d):=by simp [KH,KI h]
theorem Bx {α:Type} {f:α→List AV} {l:List α} {n:Nat} (d:α) (j:Nat) (h:n<l.length):((l.map f).getD n []).getD j .any=(f (l.getD n d)).getD j .any:=by rw [cK d h]
theorem wW {α:Type} {c:α→List AV} {sz:Nat} (h:∀ x,(c x).length=sz∧(c x).all (fun v=>v.one&&v.fl)=true) (xs ys:List α) (by_:Nat) (hb:0<by_) (hc:(xs.length+ys.length)*by_≤140737488355328) {zs:List (List AV)} (hz:xs.map c++ys.map c=zs) :
 br [EL sz (ys.map c),((xs.map c).length+(ys.map c).length)*by_≤140737488355328,(xs.map c).length+(ys.map c).length≤9223372036854775807,xs.map c++ys.map c=zs]:=by
 obtain ⟨h1,h2,h3⟩:=qw h xs ys by_ hb hc;exact ⟨h1,h2,h3,hz⟩
open Go.Proofs
theorem nD {P:Program} {f:FuncId} {args:List AV} {v:AV} (hfl:AV.flL args=true)
 (h:∀ (w:World) (X:Nat→Prop) (vs:List Value),vs.length=args.length→(∀ b,X b→b<w.heap.size)→(∀ i,i<args.length→D w X (args.getD i .any) (vs.getD i undef))→GP P w→Calls P f vs.toArray w fun e w'=>∃ V,e = .returned V∧Below w.heap.size w w'∧D w' X v V):bF P f args v:=by
 intro c vs hl hr hg;have hX:∀ b,c.XX [] c.β b→c.X b:=fun b hb=>hb.resolve_right fun ⟨k,hk,_⟩=>lA hk;refine (h c.W c.X vs hl c.hX (fun i hi=>((hg i hi).toD (hU hi hfl)).mono (fun _ _ _=>rfl) (fun b hb _ hb'=>hb (.inl hb'))) (c.gp _ (cE.refl _ _))).mono fun e w' ⟨V,e1,hb,hd⟩ => ?_;have hk:cE c.K c.W w':=⟨hb.os,hb.tape,hb.output,hb.size,fun b hb2=>hb.block b (c.hK b hb2)⟩;exact ⟨V,v,[],c.β,c.κ,e1,⟨rfl,rfl⟩,(eB.nil (hk)),.d (hd.mono (fun _ _ _=>rfl) (fun b hb2 _ hb3=>hb2 (hX b hb3)))⟩
section
variable {P:Program} {ρ:Go.Shelf.Ren}
theorem D.str_inv {w:World} {X:Nat→Prop} {s:List UInt8} {V:Value} (h:D w X (.str s) V):V = .string ⟨s.toArray⟩∧s.length≤maxLen:=by cases h;exact ⟨rfl,by assumption⟩
theorem D.int_inv {w:World} {X:Nat→Prop} {k:IntKind} {n:Int} {V:Value} (h:D w X (.int k n) V):V = .int k n:=by cases h;rfl
theorem Ju {vs:List Value} (h:vs.length=1):vs=[vs.getD 0 undef]:=by
 match vs,h with
 | [v],_=>rfl
theorem HD {vs:List Value} (h:vs.length=2):vs=[vs.getD 0 undef,vs.getD 1 undef]:=by
 match vs,h with
 | [v,u],_=>rfl
theorem CF (w:World) (k:Nat) (os:Array Obj):Below w.heap.size w (Go.Sort.grow (w.drewN k) os):=by refine ⟨rfl,rfl,rfl,by simp [Go.Sort.grow,World.drewN],fun b hb => ?_⟩;simp [Go.Sort.grow,World.drewN,Array.getElem?_append,hb]
def gm (n:Int):Option ai:=bR (-9223372036854775808≤n∧n≤9223372036854775807∧(Lib.itoa n).length≤9223372036854775807) <| some (Lib.itoa n)
theorem Gx (L:LaysM.n171 P ρ) (hg:P.globalNamed "internal/strconv.uint64pow10" ≠ none) (n:Int) (r:ai) (H:gm n=some r):bF P (ρ.f 171) [.int .i64 n] (.str r):=by unfold gm at H;refine aR H fun hn H => ?_;refine cC H fun e => ?_;subst e;refine nD rfl fun w X vs hl _ hd gp => ?_;have h0:=(hd 0 (by simp)).int_inv;rw [Ju (vs:=vs) (by simpa using hl),h0];refine (Any.strconv_Itoa L n hn.1 hn.2.1 w (gp.pow10 hg)).mono fun e w' ⟨e1,k,os,e2⟩ => ?_;exact ⟨_,e1,by rw [e2];exact CF w k os,.str _ hn.2.2⟩
def tC (s:ai):Int×Bool:=match Lib.atoiAll s with | .ok v=>(v,true) | .range=>(Lib.atoiSat s,false) | _=>(0,false)
def kD (s:ai):Option (Int×Bool):=bR (s.length≤281474976710656) <| some (tC s)
theorem zw (w:World) (a:Addr) (n b:Nat) (h:b≠a.block):(w.freeze a n).heap[b]? = w.heap[b]? := by
 unfold World.freeze;split
 ·rfl
 ·simp [Array.getElem?_modify,Ne.symm h]
theorem zD (w:World) (e:TypeId) (s:ByteArray):Below w.heap.size w (Lib.bytesWorld w e s):=by
 unfold Lib.bytesWorld;have h1:Below w.heap.size w (w.drew.alloc (.cells (Lib.bytesCells w e s) e)):=(Below.refl _ w).drew.alloc (Nat.le_refl _) _;have hsz:((w.drew.alloc (.cells (Lib.bytesCells w e s) e)).freeze ⟨w.heap.size,(Lib.bytesCells w e s).size,none⟩ 1).heap.size=(w.drew.alloc (.cells (Lib.bytesCells w e s) e)).heap.size:=by
  unfold World.freeze;split
  ·rfl
  ·simp
 have hf:∀ (w:World) (a:Addr) (n:Nat),(w.freeze a n).os=w.os∧(w.freeze a n).tape=w.tape∧(w.freeze a n).output=w.output:=by intro w a n;unfold World.freeze;split<;>exact ⟨rfl,rfl,rfl⟩
 obtain ⟨f1,f2,f3⟩:=hf (w.drew.alloc (.cells (Lib.bytesCells w e s) e)) ⟨w.heap.size,(Lib.bytesCells w e s).size,none⟩ 1;exact ⟨f1.trans h1.os,f2.trans h1.tape,f3.trans h1.output,by rw [hsz];exact h1.size,fun b hb=>(zw _ _ _ _ (by show b≠w.heap.size;omega)).trans (h1.block b hb)⟩
theorem D.pair {w:World} {X:Nat→Prop} {a b:AV} {A B:Value} (ha:D w X a A) (hb:D w X b B):D w X (.tup [a,b]) (.tuple #[A,B]) :=
 .tup _ _ rfl fun i hi=>by
  match i,hi with
  | 0,_=>exact ha
  | 1,_=>exact hb
theorem E8 (L:LaysC.n172 P ρ) (hg1:P.globalNamed "strconv.ErrSyntax" ≠ none) (hg2:P.globalNamed "strconv.ErrRange" ≠ none) (s:ai) (r:Int×Bool) (H:kD s=some r):bF P (ρ.f 172) [.str s] (.tup [.int .i64 r.1,lQ (ρ.t 168) r.2]):=by
 unfold kD at H;refine aR H fun hn H => ?_;refine cC H fun e => ?_;subst e;refine nD rfl fun w X vs hl _ hd gp => ?_;have h0:=(hd 0 (by simp)).str_inv.1;rw [Ju (vs:=vs) (by simpa using hl),h0];have hsz:ByteArray.size ⟨s.toArray⟩=s.length:=by simp [ByteArray.size]
 unfold tC;cases hr:Lib.atoiAll s with
 | ok v =>
  refine (Any.strconv_Atoi_ok L ⟨s.toArray⟩ (by rw [hsz];omega) v (by simpa using hr) w).mono fun e w' ⟨e1,e2⟩ => ?_;refine ⟨_,e1,?_,.pair (.int _ _) .nilI⟩;rcases e2 with rfl | ⟨t,rfl⟩
  ·exact .refl _ _
  ·exact zD _ _ _
 | range =>
  obtain ⟨tp,p,hv⟩:=gp.rng hg2;refine (Any.strconv_Atoi_range_var L ⟨s.toArray⟩ (by rw [hsz];exact hn) (by simpa using hr) tp p w hv).mono fun e w' ⟨N,e1,_,_,e2⟩ => ?_;refine ⟨_,e1,e2,.pair ?_ (.iface _ _ _ (.any _))⟩;simp only [List.toList_toArray];exact .int _ _
 | _ =>
  obtain ⟨tp,p,hv⟩:=gp.syn hg1;refine (Any.strconv_Atoi_syntax_var L ⟨s.toArray⟩ (by rw [hsz];exact hn) (by simpa using hr) tp p w hv).mono fun e w' ⟨N,e1,_,_,e2⟩ => ?_;exact ⟨_,e1,e2,.pair (.int _ _) (.iface _ _ _ (.any _))⟩
def jq (xs:List ai) (sep:ai):Option ai:=bR ((Lib.join xs sep).length≤140737488355328∧xs.length≤140737488355328) <| some (Lib.join xs sep)
def cA (x:ai):List AV:=[.str x]
theorem Gd (L:Lays.n156 P ρ) (E:Builder.Extra P ρ) (xs:List ai) (sep:ai) (r:ai) (H:jq xs sep=some r):bF P (ρ.f 156) [.dslice (xs.map cA),.str sep] (.str r):=by
 unfold jq at H;refine aR H fun hn H => ?_;refine cC H fun e => ?_;subst e;refine nD rfl fun w X vs hl hX hd gp => ?_;have h0:=hd 0 (by simp);have h1:=(hd 1 (by simp)).str_inv.1;rw [HD (vs:=vs) (by simpa using hl),h1];simp only [List.getD_cons_zero] at h0;generalize vs.getD 0 undef=V at h0;have hmap:∀ ys:List ai,(ys.map fun y=>(⟨y.toArray⟩:ByteArray)).map (·.data.toList)=ys:=fun ys=>by simp [List.map_map,Function.comp_def]
 by_cases hx:xs=[]
 ·subst hx;have:∃ a c,V = .slice a 0 c:=by
   have h0:D w X (.dslice []) V:=h0;generalize hL:([]:List (List AV))=L at h0;cases h0 with
   | dnil a c _=>exact ⟨a,c,rfl⟩
   | dslice _ b o c sz cv h1 h2 h3=>subst hL;exact ⟨_,_,rfl⟩
  obtain ⟨a,c,rfl⟩:=this;refine (Any.strings_Join_none L E a c ⟨sep.toArray⟩ w).mono fun e w' ⟨e1,e2⟩ => ?_;exact ⟨_,e1,by rw [e2];exact .refl _ _,.str [] (Nat.zero_le _)⟩
 ·have hne:0<xs.length:=List.length_pos_iff.2 hx;generalize hL:xs.map cA=L at h0;cases h0 with
  | dnil a c hc=>simp at hL;exact absurd hL hx
  | dslice _ b o c sz cv q1 q2 q0 q3 q4 q5 q6 =>
   subst hL;have hsz1:sz=1:=by
    have:=q4 0 (by simpa using hne);rw [← this];obtain ⟨x,ys,rfl⟩:∃ x ys,xs=x::ys:=by
     cases xs with
     | nil=>simp at hne
     | cons x ys=>exact ⟨x,ys,rfl⟩
    rfl
   subst hsz1;have hcell:∀ j,j<xs.length→w.cell? ⟨b,o+j,none⟩=some (.string ⟨(xs.getD j []).toArray⟩)∧(xs.getD j []).length≤maxLen:=by
    intro j hj;have a1:=q5 j 0 (by simpa using hj) (by omega);have a2:=q6 j 0 (by simpa using hj) (by omega);have e1:(xs.map cA).getD j []=cA (xs.getD j []):=by simp [KH,KI hj]
    rw [e1] at a2;have a3:=(show D w X (.str (xs.getD j [])) (cv j 0) from a2).str_inv;rw [show o+(j*1+0)=o+j by omega,a3.1] at a1;exact ⟨a1,a3.2⟩
   have hb:b<w.heap.size:=World.block_lt_of_cell? w _ (hcell 0 hne).1;have:=Any.strings_Join L E b o c (xs.map fun y=>(⟨y.toArray⟩:ByteArray)) ⟨sep.toArray⟩ w (fun j x hj=>by simp only [List.getElem?_map,Option.map_eq_some_iff] at hj;obtain ⟨y,hy,rfl⟩:=hj;have hlt:j<xs.length:=(KQ.1 hy).1;have:=(hcell j hlt).1;rw [KH,hy] at this;exact this) hb (by simpa using hn.2) (by simpa using q1) (by rw [hmap];exact hn.1)
   rw [hmap] at this;simp only [KP] at this ⊢;refine this.mono fun e w' ⟨e1,e2⟩ => ?_;exact ⟨_,e1,e2,.str _ (Nat.le_trans hn.1 (by decide))⟩
theorem xT (sep:List UInt8) (save:Nat):∀ (k:Nat) (s x:List UInt8),x∈Lib.splitK sep save k s→x.length≤s.length
 | 0,s,x,h=>by simp only [Lib.splitK,List.mem_singleton] at h;rw [h];exact Nat.le_refl _
 | k+1,s,x,h=>by
  simp only [Lib.splitK] at h;split at h
  ·simp only [List.mem_singleton] at h;rw [h];exact Nat.le_refl _
  ·rcases List.mem_cons.1 h with h | h
   ·rw [h];simp only [List.length_take];omega
   ·have:=xT sep save k _ x h;simp only [List.length_drop] at this;omega
def oX (s sep:ai):Option (List ai):=bR (s.length<4294967281∧1≤sep.length) <| some (Lib.splitK sep 0 (Lib.countB ⟨s.toArray⟩ ⟨sep.toArray⟩) s)
theorem Em (L:Lays.n146 P ρ) (hi9:(P.info? (ρ.t 9)).map (fun i=>(i.zero,i.size,i.bytes))=some (some (.string ByteArray.empty),1,16)) (hg:P.globalNamed "internal/bytealg.MaxLen" = some (ρ.g 1)) (s sep:ai) (r:List ai) (H:oX s sep=some r):bF P (ρ.f 146) [.str s,.str sep] (.dslice (r.map cA)):=by
 unfold oX at H;refine aR H fun hn H => ?_;refine cC H fun e => ?_;subst e;refine nD rfl fun w X vs hl hX hd gp => ?_;have h0:=(hd 0 (by simp)).str_inv;have h1:=(hd 1 (by simp)).str_inv;rw [HD (vs:=vs) (by simpa using hl),h0.1,h1.1];obtain ⟨m,hm⟩:=gp.len _ hg;have sz:∀ l:List UInt8,ByteArray.size ⟨l.toArray⟩=l.length:=fun l=>by simp [ByteArray.size]
 refine (Any.strings_Split L hi9 ⟨s.toArray⟩ ⟨sep.toArray⟩ m w (by rw [sz];exact hn.1) hm (by rw [sz];exact hn.2)).mono fun e w' ⟨e1,e2⟩ => ?_;refine ⟨_,e1,by rw [e2];exact (Below.refl _ w).alloc (Nat.le_refl _) _,?_⟩;have hBl:((Lib.splitB ⟨sep.toArray⟩ 0 (Lib.countB ⟨s.toArray⟩ ⟨sep.toArray⟩) ⟨s.toArray⟩).map (·.data.toList))=Lib.splitK sep 0 (Lib.countB ⟨s.toArray⟩ ⟨sep.toArray⟩) s:=by rw [Lib.splitB_data]
 have hlen:(Lib.splitB ⟨sep.toArray⟩ 0 (Lib.countB ⟨s.toArray⟩ ⟨sep.toArray⟩) ⟨s.toArray⟩).length=Lib.countB ⟨s.toArray⟩ ⟨sep.toArray⟩+1:=Lib.splitB_all _ (by rw [sz];exact hn.2) 0 _ _ rfl;generalize Lib.splitB ⟨sep.toArray⟩ 0 (Lib.countB ⟨s.toArray⟩ ⟨sep.toArray⟩) ⟨s.toArray⟩=B at hBl hlen e2;generalize hr:Lib.splitK sep 0 (Lib.countB ⟨s.toArray⟩ ⟨sep.toArray⟩) s=r at hBl;have hle:∀ x∈r,x.length≤maxLen:=fun x hx=>Nat.le_trans (xT sep 0 _ s x (by rw [hr];exact hx)) h0.2;have hrl:r.length=Lib.countB ⟨s.toArray⟩ ⟨sep.toArray⟩+1:=by rw [← hBl,KP,hlen]
 have hbig:r.length≤maxLen:=by rw [hrl];have:=Lib.countB_le ⟨sep.toArray⟩ (by rw [sz];exact hn.2) _ ⟨s.toArray⟩ (Nat.le_refl _);rw [sz] at this;exact Nat.le_trans (Nat.succ_le_succ this) (Nat.le_trans (show s.length+1≤4294967282 by omega) (by decide))
 have hml:(r.map cA).length=Lib.countB ⟨s.toArray⟩ ⟨sep.toArray⟩+1:=by rw [KP,hrl]
 have hcell:∀ i,i<r.length→w'.cell? ⟨w.heap.size,0+i,none⟩=some (.string ⟨(r.getD i []).toArray⟩):=by
  intro i hi;have hheap:w'.heap[w.heap.size]? = some (.cells (B.map Value.string).toArray (ρ.t 9) (0,0)):=by rw [e2];exact Array.getElem?_push_size
  have h2:=bc (w:=w') (b:=w.heap.size) (i:=i) hheap (by rw [List.size_toArray,KP,hlen];omega);rw [Nat.zero_add,h2];have hBi:i<B.length:=by omega
  have:r.getD i []=(B[i]'hBi).data.toList:=by rw [← hBl];simp [KH,KI hBi]
  rw [this];simp [KK,KI hBi]
 rw [← hml];refine .dslice _ w.heap.size 0 _ 1 (fun i _=>.string ⟨(r.getD i []).toArray⟩) (Nat.le_refl _) (by rw [KP];exact hbig) (by omega) (fun hx=>Nat.lt_irrefl _ (hX _ hx)) (fun i hi => ?_) (fun i j hi hj => ?_) (fun i j hi hj => ?_)
 ·rw [KP] at hi;simp [KH,KI hi,cA]
 ·rw [KP] at hi;have:=hcell i hi;rw [show 0+(i*1+j)=0+i by omega];exact this
 ·rw [KP] at hi;have e3:(r.map cA).getD i []=cA (r.getD i []):=by simp [KH,KI hi]
  obtain rfl:j=0:=by omega
  rw [e3];refine .str _ (hle _ ?_);rw [KH,KI hi];exact List.getElem_mem hi
end
end Go.Ab
