/- The frame for walks: states without addresses, the rules by which code is walked, and contracts of library functions. -/
import Derived.WalkKit
import Derived.Below
import Derived.Orders
import Derived.Deep.LoopGhost
import Derived.Lib.LaidTab
import Derived.Lib.Space
import Derived.Shelf.Abstract
set_option linter.unusedSimpArgs false
set_option linter.unusedVariables false
namespace Go
theorem SW {α:Type _} {l:List α} {i:Nat} {a:α}:l.getD i a=l[i]?.getD a:=List.getD_eq_getElem?_getD
theorem SX {α:Type _} {l:List α} {i:Nat} (h:i<l.length):l[i]? = some l[i]:=List.getElem?_eq_getElem h
theorem SY (a b:Bool):((a&&b)=true)=(a=true∧b=true):=Bool.and_eq_true a b
theorem SZ {α:Type _} {xs:Array α} {i:Nat} {d:α}:xs.getD i d=xs[i]?.getD d:=Array.getD_eq_getD_getElem?
theorem S2 {p:Prop} [inst:Decidable p]:decide p=false→¬p:=of_decide_eq_false
theorem S3 {p:Prop} [inst:Decidable p]:decide p=true→p:=of_decide_eq_true
theorem S4 {p:Prop} [inst:Decidable p]:¬p→decide p=false:=decide_eq_false
theorem S5 {p:Prop} [inst:Decidable p]:p→decide p=true:=decide_eq_true
theorem S6 {α:Type _} {β:Type _} (a:α) (f:α→Option β):(some a).bind f=f a:=Option.bind_some a f
theorem S7 {α:Type _} {β:Type _} {l:List α} (f:α→β):(List.map f l).length=l.length:=List.length_map f
theorem S8 {α:Type _} {i:Nat} {a:α} {l:List α}:l[i]? = some a↔∃ h,l[i]=a:=List.getElem?_eq_some_iff
theorem S9 {α:Type _} (val val_1:α):(some val=some val_1)=(val=val_1):=Option.some.injEq val val_1
theorem Ta {α:Type _} {xs:Array α} {i:Nat} (h:i<xs.size):xs[i]? = some xs[i]:=Array.getElem?_eq_getElem h
theorem Tb {α:Type _} {val val_1:α}:some val=some val_1→val=val_1:=Option.some.inj
theorem Tc {α:Type _} {p:α→Bool} {l:List α}:l.all p=true↔∀ (x:α),x∈l→p x=true:=List.all_eq_true
end Go
namespace Go.Ab
inductive Key where
 | s (b:List UInt8)
 | i (n:Int)
 deriving Inhabited,DecidableEq
def Key.val:Key→Value
 | .s b=>.string ⟨b.toArray⟩
 | .i n=>.int .i64 n
def Key.kind:Key→Nat
 | .s _=>0
 | .i _=>1
def Key.desc:Key→TypeDesc
 | .s _=>.string
 | .i _=>.int .i64
def Key.ok:Key→Prop
 | .s b=>b.length≤maxLen
 | .i _=>True
inductive AV where
 | any
 | bool (b:Bool)
 | int (k:IntKind) (n:Int)
 | str (s:List UInt8)
 | agg (cs:List AV)
 | tup (vs:List AV)
 | eslice
 | dslice (xs:List (List AV))
 | dptr (cs:List AV)
 | hptr (k off:Nat)
 | rslice (k:Nat)
 | amap (k:Nat)
 | dmap (es:List (Key×AV))
 | fn (f:FuncId) (caps:List AV)
 | iface (t:TypeId) (v:AV)
 | nilI
 | lit (v:Value)
 | bm (f:FuncId) (k off:Nat)
 | gslice (k:Nat)
 | rref (k:Nat) (oj:Option Nat)
 | cslice (xs:List (List AV))
 deriving Inhabited
inductive AO where
 | gone
 | cells (e:TypeId) (cs:List AV)
 | row (e:TypeId) (sz:Nat) (xs:List (List AV))
 | smap (K E:TypeId) (es:List (Key×AV))
 | iter (es:List (Key×AV)) (seen:List Nat)
 | room (e:TypeId) (sz:Nat)
 | rmap (e:TypeId) (sz:Nat) (es:List (List UInt8×Option (List (List AV))))
 | rrow (eo e:TypeId) (sz:Nat) (es:List (Option (List (List AV))))
 | eit (cs:List AV)
 deriving Inhabited
def gk (k j:Nat):Nat:=1000000*(k+1)+j
theorem vV {k j k' j':Nat} (hj:j<1000000) (hj':j'<1000000) (h:gk k j=gk k' j'):k=k'∧j=j':=by unfold gk at h;omega
theorem iR (k j:Nat):1000000≤gk k j:=by unfold gk;omega
def AO.inn (j:Nat):AO→Prop
 | .rmap _ _ es=>j<1000000∧j<es.length∧∃ y ys,(es.getD j ([],none)).2=some (y::ys)
 | .rrow _ _ _ es=>j<1000000∧j<es.length∧∃ y ys,es.getD j none=some (y::ys)
 | _=>False
def AO.live:AO→Prop
 | .gone=>False
 | .row _ _ xs=>xs≠[]
 | .rrow _ _ _ es=>es≠[]
 | _=>True
section lists
variable {α:Type}
def lk (d:α):List (Nat×α)→Nat→α
 | [],_=>d
 | (k,v)::l,i=>bif Nat.beq i k then v else lk d l i
def ins (k:Nat) (v:α):List (Nat×α)→List (Nat×α)
 | []=>[(k,v)]
 | (j,u)::l=>bif Nat.blt k j then (k,v)::(j,u)::l else bif Nat.beq k j then (k,v)::l else (j,u)::ins k v l
def sel (ks:List Nat):List (Nat×α)→List (Nat×α)
 | []=>[]
 | (j,u)::l=>bif ks.any (Nat.beq j) then (j,u)::sel ks l else sel ks l
theorem ef {i k:Nat}:Nat.beq i k=true↔i=k:=by rw [Nat.beq_eq]
theorem dz {i k:Nat} (h:¬ i=k):Nat.beq i k=false:=by rw [Bool.eq_false_iff];exact fun e=>h (ef.1 e)
theorem bB (d:α) (k:Nat) (v:α) (l:List (Nat×α)) (i:Nat):lk d (ins k v l) i=if i=k then v else lk d l i:=by
 induction l with
 | nil =>
  simp only [ins,lk];by_cases h:i=k
  ·subst h;simp
  ·simp [h,dz h]
 | cons p l ih =>
  obtain ⟨j,u⟩:=p;simp only [ins];by_cases h1:k<j
  ·rw [show Nat.blt k j=true by simpa [Nat.blt_eq] using h1];simp only [cond_true,lk];by_cases h:i=k
   ·subst h;simp
   ·simp [h,dz h]
  ·rw [show Nat.blt k j=false by rw [Bool.eq_false_iff];simpa [Nat.blt_eq] using h1];simp only [cond_false];by_cases h2:k=j
   ·subst h2;simp only [Nat.beq_refl,cond_true,lk];by_cases h:i=k
    ·subst h;simp
    ·simp [h,dz h]
   ·rw [dz h2];simp only [cond_false,lk,ih];by_cases h:i=k
    ·subst h;rw [dz h2];simp
    ·simp [h]
theorem Eg (d:α) (ks:List Nat) (l:List (Nat×α)) (i:Nat):lk d (sel ks l) i=lk d l i∨lk d (sel ks l) i=d:=by
 by_cases hi:ks.any (Nat.beq i)=true
 ·left;induction l with
  | nil=>rfl
  | cons p l ih =>
   obtain ⟨j,u⟩:=p;simp only [sel];by_cases hj:ks.any (Nat.beq j)=true
   ·simp only [hj,cond_true,lk,ih]
   ·have:Nat.beq i j=false:=by rw [Bool.eq_false_iff];intro h;rw [ef] at h;exact hj (h ▸ hi)
    simp only [Bool.not_eq_true] at hj;simp only [hj,cond_false,lk,this,ih]
 ·right;induction l with
  | nil=>rfl
  | cons p l ih =>
   obtain ⟨j,u⟩:=p;simp only [sel];by_cases hj:ks.any (Nat.beq j)=true
   ·have:Nat.beq i j=false:=by rw [Bool.eq_false_iff];intro h;rw [ef] at h;exact hi (h ▸ hj)
    simp only [hj,cond_true,lk,this,cond_false,ih]
   ·simp only [Bool.not_eq_true] at hj;simp only [hj,cond_false,ih]
end lists
mutual
def AV.men (k:Nat):AV→Bool
 | .hptr j _=>Nat.beq j k
 | .rslice j=>Nat.beq j k
 | .gslice j=>Nat.beq j k
 | .rref j _=>Nat.beq j k
 | .amap j=>Nat.beq j k
 | .bm _ j _=>Nat.beq j k
 | .agg cs=>AV.menL k cs
 | .tup cs=>AV.menL k cs
 | .fn _ cs=>AV.menL k cs
 | _=>false
def AV.menL (k:Nat):List AV→Bool
 | []=>false
 | c::cs=>AV.men k c||AV.menL k cs
end
theorem cZ {k:Nat}:∀ {cs:List AV} {i:Nat},i<cs.length→AV.men k (cs.getD i .any)=true→AV.menL k cs=true
 | [],i,h,_=>by simp at h
 | c::cs,0,_,h=>by simp only [List.getD_cons_zero] at h;simp [AV.menL,h]
 | c::cs,i+1,hi,h=>by simp only [List.getD_cons_succ] at h;simp [AV.menL,cZ (by simpa using hi) h]
def yV (es:List (Key×AV)):Prop:=(es.map (·.1)).Nodup∧∀ k∈es.map (·.1),k.ok
inductive D (w:World) (X:Nat→Prop):AV→Value→Prop
 | any (v:Value):D w X .any v
 | bool (b:Bool):D w X (.bool b) (.bool b)
 | int (k:IntKind) (n:Int):D w X (.int k n) (.int k n)
 | str (s:List UInt8):s.length≤maxLen→D w X (.str s) (.string ⟨s.toArray⟩)
 | agg (cs:List AV) (vs:Array Value):cs.length=vs.size→(∀ i,i<cs.length→D w X (cs.getD i .any) (vs.getD i undef))→D w X (.agg cs) (.agg vs)
 | tup (cs:List AV) (vs:Array Value):cs.length=vs.size→(∀ i,i<cs.length→D w X (cs.getD i .any) (vs.getD i undef))→D w X (.tup cs) (.tuple vs)
 | eslice (a:Option Addr):D w X .eslice (.slice a 0 0)
 | dnil (a:Option Addr) (cap:Nat):cap≤maxLen→D w X (.dslice []) (.slice a 0 cap)
 | dslice (xs:List (List AV)) (b o cap sz:Nat) (cv:Nat→Nat→Value):xs.length≤cap→cap≤maxLen→0<sz→¬ X b→(∀ i,i<xs.length→(xs.getD i []).length=sz) →
  (∀ i j,i<xs.length→j<sz→w.cell? ⟨b,o+(i*sz+j),none⟩=some (cv i j)) →
  (∀ i j,i<xs.length→j<sz→D w X ((xs.getD i []).getD j .any) (cv i j))→D w X (.dslice xs) (.slice (some ⟨b,o,none⟩) xs.length cap)
 | dptr (cs:List AV) (b o:Nat) (cv:Nat→Value):0<cs.length→¬ X b→(∀ j,j<cs.length→w.cell? ⟨b,o+j,none⟩=some (cv j)) →
  (∀ j,j<cs.length→D w X (cs.getD j .any) (cv j))→D w X (.dptr cs) (.pointer (some ⟨b,o,none⟩))
 | fn (f:FuncId) (cs:List AV) (vs:Array Value):cs.length=vs.size→(∀ i,i<cs.length→D w X (cs.getD i .any) (vs.getD i undef))→D w X (.fn f cs) (.func (.func f) #[] vs)
 | dmap (es:List (Key×AV)) (b:Nat) (ents:Array MapEntry) (clock:Nat) (π:Nat→Nat):¬ X b→w.heap[b]? = some (.map ents clock)→ents.size=es.length→(∀ i,i<es.length→π i<es.length)→(∀ j,j<es.length→∃ i,i<es.length∧π i=j) →
  (∀ i,i<es.length→(ents.getD (π i) default).key=(es.getD i default).1.val∧(ents.getD (π i) default).born<clock) →
  (∀ i,i<es.length→D w X (es.getD i default).2 (ents.getD (π i) default).val)→(∀ i j (hi:i<ents.size) (hj:j<ents.size),i<j→ents[i].born<ents[j].born)→yV es→D w X (.dmap es) (.map (some b))
 | nilI:D w X .nilI .nilIface
 | iface (t:TypeId) (v:AV) (V:Value):D w X v V→D w X (.iface t v) (.iface t V)
 | lit (v:Value):D w X (.lit v) v
 | cslice (xs:List (List AV)) (V:Value):D w X (.dslice xs) V→(∃ a,V = .slice a xs.length xs.length)→D w X (.cslice xs) V
theorem cell_of_heap {w w':World} {b o:Nat} {v:Value} (h:w'.heap[b]? = w.heap[b]?) (hc:w.cell? ⟨b,o,none⟩=some v):w'.cell? ⟨b,o,none⟩=some v :=
 (World.cell?_of_block (w:=w) (w':=w') (a:=⟨b,o,none⟩) h).trans hc
theorem D.mono {w w':World} {X X':Nat→Prop} (hw:∀ b,¬ X b→b<w.heap.size→w'.heap[b]? = w.heap[b]?) (hX:∀ b,¬ X b→b<w.heap.size→¬ X' b) :
 ∀ {v:AV} {V:Value},D w X v V→D w' X' v V:=by
 intro v V h;have hc:∀ {b o:Nat} {u:Value},¬ X b→w.cell? ⟨b,o,none⟩=some u→w'.cell? ⟨b,o,none⟩=some u:=fun hb h =>
  cell_of_heap (hw _ hb (World.block_lt_of_cell? w _ h)) h
 have hX2:∀ {b o:Nat} {u:Value},¬ X b→w.cell? ⟨b,o,none⟩=some u→¬ X' b:=fun hb h=>hX _ hb (World.block_lt_of_cell? w _ h);induction h with
 | any v=>exact .any v
 | bool b=>exact .bool b
 | int k n=>exact .int k n
 | str s hs=>exact .str s hs
 | agg cs vs h1 _ ih=>exact .agg cs vs h1 ih
 | tup cs vs h1 _ ih=>exact .tup cs vs h1 ih
 | eslice a=>exact .eslice a
 | dnil a cap h=>exact .dnil a cap h
 | dslice xs b o cap sz cv h1 h2 h0 h3 h4 h5 _ ih =>
  by_cases hx:xs=[]
  ·subst hx;exact .dnil _ cap h2
  ·have hl:0<xs.length:=by cases xs with | nil=>exact absurd rfl hx | cons _ _=>simp
   exact .dslice xs b o cap sz cv h1 h2 h0 (hX2 h3 (h5 0 0 hl h0)) h4 (fun i j hi hj=>hc h3 (h5 i j hi hj)) ih
 | dptr cs b o cv h0 h1 h2 _ ih=>exact .dptr cs b o cv h0 (hX2 h1 (h2 0 h0)) (fun j hj=>hc h1 (h2 j hj)) ih
 | fn f cs vs h1 _ ih=>exact .fn f cs vs h1 ih
 | dmap es b ents clock π h1 h2 h3 p1 p2 h4 _ h6 h7 ih =>
  have hlt:b<w.heap.size:=(Array.getElem?_eq_some_iff.1 h2).1;exact .dmap es b ents clock π (hX _ h1 hlt) (by rw [hw _ h1 hlt,h2]) h3 p1 p2 h4 ih h6 h7
 | nilI=>exact .nilI
 | iface t v V _ ih=>exact .iface t v V ih
 | lit v=>exact .lit v
 | cslice xs V _ h ih=>exact .cslice xs V ih h
inductive G (w:World) (X:Nat→Prop) (β:Nat→Nat) (κ:Nat→Nat×Nat):AV→Value→Prop
 | d {v:AV} {V:Value}:D w X v V→G w X β κ v V
 | hptr (k o:Nat):G w X β κ (.hptr k o) (.pointer (some ⟨β k,o,none⟩))
 | rslice (k:Nat):0<(κ k).2→G w X β κ (.rslice k) (.slice (some ⟨β k,0,none⟩) (κ k).2 (κ k).1)
 | rslice0 (k:Nat) (a:Option Addr):(κ k).2=0→G w X β κ (.rslice k) (.slice a 0 0)
 | gslice (k:Nat):G w X β κ (.gslice k) (.slice (some ⟨β k,0,none⟩) 0 (κ k).1)
 | rref (k j:Nat):0<(κ (gk k j)).2→j<1000000→G w X β κ (.rref k (some j)) (.slice (some ⟨β (gk k j),0,none⟩) (κ (gk k j)).2 (κ (gk k j)).1)
 | rref0 (k:Nat) (oj:Option Nat) (a:Option Addr):(∀ j,oj=some j→j<1000000∧(κ (gk k j)).2=0)→G w X β κ (.rref k oj) (.slice a 0 0)
 | amap (k:Nat):G w X β κ (.amap k) (.map (some (β k)))
 | bm (f:FuncId) (k o:Nat):G w X β κ (.bm f k o) (.func (.func f) #[.pointer (some ⟨β k,o,none⟩)] #[])
 | fn (f:FuncId) (cs:List AV) (vs:Array Value):cs.length=vs.size→(∀ i,i<cs.length→G w X β κ (cs.getD i .any) (vs.getD i undef))→G w X β κ (.fn f cs) (.func (.func f) #[] vs)
 | agg (cs:List AV) (vs:Array Value):cs.length=vs.size→(∀ i,i<cs.length→G w X β κ (cs.getD i .any) (vs.getD i undef))→G w X β κ (.agg cs) (.agg vs)
 | tup (cs:List AV) (vs:Array Value):cs.length=vs.size→(∀ i,i<cs.length→G w X β κ (cs.getD i .any) (vs.getD i undef))→G w X β κ (.tup cs) (.tuple vs)
structure SK (β β':Nat→Nat) (κ κ':Nat→Nat×Nat) (j:Nat):Prop where
 b:β' j=β j
 k:κ' j=κ j
 v:∀ i,i<1000000→β' (gk j i)=β (gk j i)∧κ' (gk j i)=κ (gk j i)
theorem SK.refl {β:Nat→Nat} {κ:Nat→Nat×Nat} {j:Nat}:SK β β κ κ j:=⟨rfl,rfl,fun _ _=>⟨rfl,rfl⟩⟩
theorem G.mono {w w':World} {X X':Nat→Prop} {β β':Nat→Nat} {κ κ':Nat→Nat×Nat} (hw:∀ b,¬ X b→b<w.heap.size→w'.heap[b]? = w.heap[b]?) (hX:∀ b,¬ X b→b<w.heap.size→¬ X' b) :
 ∀ {v:AV} {V:Value},G w X β κ v V→(∀ j,AV.men j v=true→SK β β' κ κ' j)→G w' X' β' κ' v V:=by
 intro v V h;induction h with
 | d h=>exact fun _=>.d (h.mono hw hX)
 | hptr k o=>intro hm;rw [← (hm k (by simp [AV.men])).b];exact .hptr k o
 | rslice k h=>intro hm;rw [← (hm k (by simp [AV.men])).b,← (hm k (by simp [AV.men])).k];exact .rslice k (by rw [(hm k (by simp [AV.men])).k];exact h)
 | rslice0 k a h=>exact fun hm=>.rslice0 k a (by rw [(hm k (by simp [AV.men])).k];exact h)
 | gslice k=>intro hm;rw [← (hm k (by simp [AV.men])).b,← (hm k (by simp [AV.men])).k];exact .gslice k
 | rref k j h hj =>
  intro hm;obtain ⟨e1,e2⟩:=(hm k (by simp [AV.men])).v j hj;rw [← e1,← e2];exact .rref k j (by rw [e2];exact h) hj
 | rref0 k oj a h=>exact fun hm=>.rref0 k oj a fun j hj=>⟨(h j hj).1,by rw [((hm k (by simp [AV.men])).v j (h j hj).1).2];exact (h j hj).2⟩
 | amap k=>intro hm;rw [← (hm k (by simp [AV.men])).b];exact .amap k
 | bm f k o=>intro hm;rw [← (hm k (by simp [AV.men])).b];exact .bm f k o
 | fn f cs vs h1 _ ih=>exact fun hm=>.fn f cs vs h1 fun i hi=>ih i hi fun j hj=>hm j (by simpa [AV.men] using cZ hi hj)
 | agg cs vs h1 _ ih=>exact fun hm=>.agg cs vs h1 fun i hi=>ih i hi fun j hj=>hm j (by simpa [AV.men] using cZ hi hj)
 | tup cs vs h1 _ ih=>exact fun hm=>.tup cs vs h1 fun i hi=>ih i hi fun j hj=>hm j (by simpa [AV.men] using cZ hi hj)
def AV.one:AV→Bool
 | .bool _ | .int _ _ | .str _ | .eslice | .dslice _ | .cslice _ | .dptr _ | .hptr _ _ | .rslice _ | .gslice _ | .rref _ _ | .amap _ | .dmap _ | .bm _ _ _ | .fn _ _ | .iface _ _ | .nilI=>true
 | .lit v=>v.oneCell'
 | _=>false
theorem D.one {w:World} {X:Nat→Prop} {v:AV} {V:Value} (h:D w X v V) (h1:v.one=true):V.oneCell'=true:=by cases h<;>first | rfl | (simp [AV.one] at h1;done) | exact h1 | (rename_i h2;obtain ⟨a,rfl⟩:=h2;rfl)
theorem G.one {w:World} {X:Nat→Prop} {β:Nat→Nat} {κ:Nat→Nat×Nat} {v:AV} {V:Value} (h:G w X β κ v V) (h1:v.one=true):V.oneCell'=true:=by cases h<;>first | rfl | (simp [AV.one] at h1;done) | exact D.one ‹_› h1
def AO.men (k:Nat):AO→Bool
 | .gone=>false
 | .cells _ cs=>AV.menL k cs
 | .row _ _ _=>false
 | .room _ _=>false
 | .rmap _ _ _=>false
 | .rrow _ _ _ _=>false
 | .smap _ _ _=>false
 | .iter _ _=>false
 | .eit cs=>AV.menL k cs
def KV (w:World) (X:Nat→Prop) (b:Nat) (cl:Nat×Nat) (e:TypeId) (sz:Nat) (xs:List (List AV)):Prop :=∃ cur:Array Value,w.heap[b]? = some (.cells cur e (0,0))∧cur.size=cl.1*sz∧xs.length≤cl.1∧cl.1≤maxLen∧0<sz ∧ (∀ i,i<xs.length→(xs.getD i []).length=sz)∧∀ i j,i<xs.length→j<sz→D w X ((xs.getD i []).getD j .any) (cur.getD (i*sz+j) undef)
theorem KV.mono {w w':World} {X X':Nat→Prop} {b b':Nat} {cl:Nat×Nat} {e:TypeId} {sz:Nat} {xs:List (List AV)} (hw:∀ b,¬ X b→b<w.heap.size→w'.heap[b]? = w.heap[b]?) (hX:∀ b,¬ X b→b<w.heap.size→¬ X' b)
 (h:KV w X b cl e sz xs) (hb:w'.heap[b']? = w.heap[b]?):KV w' X' b' cl e sz xs:=by
 obtain ⟨cur,h1,h2,h3,h4,h0,h5,h6⟩:=h;exact ⟨cur,by rw [hb,h1],h2,h3,h4,h0,h5,fun i j hi hj=>(h6 i j hi hj).mono hw hX⟩
def QL (w:World) (X:Nat→Prop) (b:Nat) (cl:Nat×Nat) (e:TypeId) (sz:Nat) (V:Value):Option (List (List AV))→Prop
 | none=>True
 | some []=>cl.2=0∧∃ a,V = .slice a 0 0
 | some (x::xs)=>cl.2=(x::xs).length∧V = .slice (some ⟨b,0,none⟩) cl.2 cl.1∧KV w X b cl e sz (x::xs)
structure sX (w:World) (X:Nat→Prop) (es:List (Key×AV)) (ents:Array MapEntry) (clock:Nat) (π:Nat→Nat):Prop where
 size:ents.size=es.length
 lt:∀ i,i<es.length→π i<es.length
 onto:∀ j,j<es.length→∃ i,i<es.length∧π i=j
 key:∀ i,i<es.length→(ents.getD (π i) default).key=(es.getD i default).1.val∧(ents.getD (π i) default).born<clock
 val:∀ i,i<es.length→D w X (es.getD i default).2 (ents.getD (π i) default).val
 born:∀ i j (hi:i<ents.size) (hj:j<ents.size),i<j→ents[i].born<ents[j].born
 keys:yV es
theorem sX.mono {w w':World} {X X':Nat→Prop} {es:List (Key×AV)} {ents:Array MapEntry} {clock:Nat} {π:Nat→Nat} (hw:∀ b,¬ X b→b<w.heap.size→w'.heap[b]? = w.heap[b]?) (hX:∀ b,¬ X b→b<w.heap.size→¬ X' b) (h:sX w X es ents clock π):sX w' X' es ents clock π :=
 ⟨h.size,h.lt,h.onto,h.key,fun i hi=>(h.val i hi).mono hw hX,h.born,h.keys⟩
theorem sX.toD {w:World} {X:Nat→Prop} {es:List (Key×AV)} {ents:Array MapEntry} {clock:Nat} {π:Nat→Nat} (h:sX w X es ents clock π) {b:Nat} (hb:¬ X b) (he:w.heap[b]? = some (.map ents clock)):D w X (.dmap es) (.map (some b)) :=
 .dmap es b ents clock π hb he h.size h.lt h.onto h.key h.val h.born h.keys
theorem sX.of {w:World} {X:Nat→Prop} {es:List (Key×AV)} {ents:Array MapEntry} {clock:Nat} (h1:ents.size=es.length) (h2:∀ i (h:i<ents.size),ents[i].key=(es.getD i default).1.val∧ents[i].born<clock) (h3:∀ i (h:i<ents.size),D w X (es.getD i default).2 ents[i].val)
 (h4:∀ i j (hi:i<ents.size) (hj:j<ents.size),i<j→ents[i].born<ents[j].born) (h5:yV es):sX w X es ents clock id :=
 have e:∀ i,i<es.length→∃ h:i<ents.size,ents.getD i default=ents[i]:=fun i hi=>⟨by omega,by simp [SZ,show i<ents.size by omega]⟩
 ⟨h1,fun i hi=>hi,fun j hj=>⟨j,hj,rfl⟩,fun i hi=>by obtain ⟨a,b⟩:=e i hi;show (ents.getD i default).key=_∧(ents.getD i default).born<_;rw [b];exact h2 i a,fun i hi=>by obtain ⟨a,b⟩:=e i hi;show D w X _ (ents.getD i default).val;rw [b];exact h3 i a,h4,h5⟩
theorem D.mapAt {w:World} {X:Nat→Prop} {es:List (Key×AV)} {V:Value} (h:D w X (.dmap es) V):∃ (b:Nat) (ents:Array MapEntry) (clock:Nat) (π:Nat→Nat),V = .map (some b)∧¬ X b∧w.heap[b]? = some (.map ents clock)∧sX w X es ents clock π:=by
 cases h with
 | dmap _ b ents clock π h1 h2 h3 p1 p2 h4 h5 h6 h7=>exact ⟨b,ents,clock,π,rfl,h1,h2,h3,p1,p2,h4,h5,h6,h7⟩
def HO (w:World) (X:Nat→Prop) (β:Nat→Nat) (κ:Nat→Nat×Nat) (k:Nat):AO→Prop
 | .gone=>True
 | .cells e cs=>∃ cur:Array Value,w.heap[β k]? = some (.cells cur e (0,0))∧cur.size=cs.length∧∀ i,i<cs.length→G w X β κ (cs.getD i .any) (cur.getD i undef)
 | .row e sz xs=>(κ k).2=xs.length∧(xs≠[]→∃ cur:Array Value,w.heap[β k]? = some (.cells cur e (0,0))∧cur.size=(κ k).1*sz∧xs.length≤(κ k).1∧(κ k).1≤maxLen∧0<sz ∧
  (∀ i,i<xs.length→(xs.getD i []).length=sz)∧∀ i j,i<xs.length→j<sz→D w X ((xs.getD i []).getD j .any) (cur.getD (i*sz+j) undef))
 | .rrow eo e sz es=>(κ k).2=es.length∧es.length≤1000000∧(es≠[]→∃ cur:Array Value,w.heap[β k]? = some (.cells cur eo (0,0))∧cur.size=(κ k).1*1∧es.length≤(κ k).1∧(κ k).1≤maxLen ∧
  ∀ i,i<es.length→QL w X (β (gk k i)) (κ (gk k i)) e sz (cur.getD i undef) (es.getD i none))
 | .room e sz=>∃ cur:Array Value,w.heap[β k]? = some (.cells cur e (0,0))∧cur.size=(κ k).1*sz∧(κ k).1≤maxLen∧0<sz
 | .rmap e sz es=>∃ (ents:Array MapEntry) (clock:Nat),w.heap[β k]? = some (.map ents clock)∧ents.size=es.length∧es.length≤1000000 ∧
  (∀ i (h:i<ents.size),ents[i].key = .string ⟨(es.getD i ([],none)).1.toArray⟩∧ents[i].born<clock∧QL w X (β (gk k i)) (κ (gk k i)) e sz ents[i].val (es.getD i ([],none)).2) ∧
  (∀ i j (hi:i<ents.size) (hj:j<ents.size),i<j→ents[i].born<ents[j].born)∧(es.map (·.1)).Nodup∧∀ k∈es.map (·.1),k.length≤maxLen
 | .smap kd _ es=>∃ (ents:Array MapEntry) (clock:Nat),w.heap[β k]? = some (.map ents clock)∧ents.size=es.length ∧
  (∀ i (h:i<ents.size),ents[i].key=(es.getD i default).1.val∧ents[i].born<clock∧D w X (es.getD i default).2 ents[i].val) ∧
  (∀ i j (hi:i<ents.size) (hj:j<ents.size),i<j→ents[i].born<ents[j].born)∧yV es∧∀ p∈es,p.1.kind=kd
 | .iter es seen=>∃ (b:Nat) (ents:Array MapEntry) (clock:Nat) (sb:Array Nat) (π:Nat→Nat),w.heap[β k]? = some (.mapIter (some b) clock sb clock)∧¬ X b∧w.heap[b]? = some (.map ents clock) ∧
  sX w X es ents clock π∧sb.toList=seen.map (fun i=>(ents.getD (π i) default).born)∧∀ i∈seen,i<es.length
 | .eit cs=>∃ (b clock:Nat),w.heap[β k]? = some (.mapIter (some b) clock #[] clock)∧∀ i,i<cs.length→G w X β κ (cs.getD i .any) (.map (some b))
theorem HO.lt {w:World} {X:Nat→Prop} {β:Nat→Nat} {κ:Nat→Nat×Nat} {k:Nat} {o:AO} (h:HO w X β κ k o) (hl:o.live):β k<w.heap.size:=by
 cases o with
 | gone=>exact hl.elim
 | cells e cs=>obtain ⟨cur,h,_⟩:=h;exact (Array.getElem?_eq_some_iff.1 h).1
 | row e sz xs=>obtain ⟨cur,h,_⟩:=h.2 hl;exact (Array.getElem?_eq_some_iff.1 h).1
 | smap K E es=>obtain ⟨cur,c,h,_⟩:=h;exact (Array.getElem?_eq_some_iff.1 h).1
 | iter es seen=>obtain ⟨_,_,_,_,_,h,_⟩:=h;exact (Array.getElem?_eq_some_iff.1 h).1
 | eit cs=>obtain ⟨_,_,h,_⟩:=h;exact (Array.getElem?_eq_some_iff.1 h).1
 | room e sz=>obtain ⟨cur,h,_⟩:=h;exact (Array.getElem?_eq_some_iff.1 h).1
 | rmap e sz es=>obtain ⟨cur,c,h,_⟩:=h;exact (Array.getElem?_eq_some_iff.1 h).1
 | rrow eo e sz es=>obtain ⟨cur,h,_⟩:=h.2.2 hl;exact (Array.getElem?_eq_some_iff.1 h).1
theorem HO.ltv {w:World} {X:Nat→Prop} {β:Nat→Nat} {κ:Nat→Nat×Nat} {k j:Nat} {o:AO} (h:HO w X β κ k o) (hl:o.inn j):β (gk k j)<w.heap.size:=by
 cases o with
 | rmap e sz es =>
  obtain ⟨_,h2,y,ys,h3⟩:=hl;obtain ⟨ents,c,_,h5,_,h6,_⟩:=h;have:=(h6 j (by omega)).2.2;rw [h3] at this;obtain ⟨_,_,cur,h7,_⟩:=this;exact (Array.getElem?_eq_some_iff.1 h7).1
 | rrow eo e sz es =>
  obtain ⟨_,h2,y,ys,h3⟩:=hl;obtain ⟨cur,_,_,_,_,h6⟩:=h.2.2 (by intro e;subst e;simp at h2);have:=h6 j h2;rw [h3] at this;obtain ⟨_,_,cur,h7,_⟩:=this;exact (Array.getElem?_eq_some_iff.1 h7).1
 | _=>exact hl.elim
theorem HO.mono {w w':World} {X X':Nat→Prop} {β β':Nat→Nat} {κ κ':Nat→Nat×Nat} {k:Nat} {o:AO} (hw:∀ b,¬ X b→b<w.heap.size→w'.heap[b]? = w.heap[b]?) (hX:∀ b,¬ X b→b<w.heap.size→¬ X' b)
 (h:HO w X β κ k o) (hm:∀ j,AO.men j o=true→SK β β' κ κ' j) (hk:SK β β' κ κ' k) (hb:o.live→w'.heap[β k]? = w.heap[β k]?) (hbv:∀ j,o.inn j→w'.heap[β (gk k j)]? = w.heap[β (gk k j)]?):HO w' X' β' κ' k o:=by
 cases o with
 | gone=>trivial
 | cells e cs =>
  obtain ⟨cur,h1,h2,h3⟩:=h;exact ⟨cur,by rw [hk.b,hb trivial,h1],h2,fun i hi=>(h3 i hi).mono hw hX fun j hj=>hm j (by simpa [AO.men] using cZ hi hj)⟩
 | row e sz xs =>
  refine ⟨by rw [hk.k];exact h.1,fun hx=>?_⟩;obtain ⟨cur,h1,h2,h3,h4,h0,h5,h6⟩:=h.2 hx;exact ⟨cur,by rw [hk.b,hb hx,h1],by rw [hk.k,h2],by rw [hk.k];exact h3,by rw [hk.k];exact h4,h0,h5,fun i j hi hj=>(h6 i j hi hj).mono hw hX⟩
 | smap K E es =>
  obtain ⟨ents,clock,h1,h2,h3,h4,h5⟩:=h;exact ⟨ents,clock,by rw [hk.b,hb trivial,h1],h2,fun i hi=>⟨(h3 i hi).1,(h3 i hi).2.1,((h3 i hi).2.2).mono hw hX⟩,h4,h5⟩
 | iter es seen =>
  obtain ⟨b,ents,clock,sb,π,h1,h3,h4,h2,h5,h6⟩:=h;have hlt:b<w.heap.size:=(Array.getElem?_eq_some_iff.1 h4).1;exact ⟨b,ents,clock,sb,π,by rw [hk.b,hb trivial,h1],hX _ h3 hlt,by rw [hw _ h3 hlt,h4],h2.mono hw hX,h5,h6⟩
 | eit cs =>
  obtain ⟨b,c,h1,h3⟩:=h;exact ⟨b,c,by rw [hk.b,hb trivial,h1],fun i hi=>(h3 i hi).mono hw hX fun j hj=>hm j (by simpa [AO.men] using cZ hi hj)⟩
 | room e sz =>
  obtain ⟨cur,h1,h2,h3,h4⟩:=h;exact ⟨cur,by rw [hk.b,hb trivial,h1],by rw [hk.k,h2],by rw [hk.k];exact h3,h4⟩
 | rmap e sz es =>
  obtain ⟨ents,clock,h1,h2,hl,h3,h4⟩:=h;refine ⟨ents,clock,by rw [hk.b,hb trivial,h1],h2,hl,fun i hi=>⟨(h3 i hi).1,(h3 i hi).2.1,?_⟩,h4⟩;obtain ⟨e1,e2⟩:=hk.v i (by omega);have h5:=(h3 i hi).2.2;rw [e1,e2];have h6:=hbv i;simp only [AO.inn] at h6;generalize (es.getD i ([],none)).2=o at h5 h6 ⊢;match o,h5,h6 with
  | none,_,_=>trivial
  | some [],h5,_=>exact h5
  | some (x::xs),h5,h6=>exact ⟨h5.1,h5.2.1,h5.2.2.mono hw hX (h6 ⟨by omega,by omega,x,xs,rfl⟩)⟩
 | rrow eo e sz es =>
  obtain ⟨h1,hl,h2⟩:=h;refine ⟨by rw [hk.k];exact h1,hl,fun hx=>?_⟩;obtain ⟨cur,g1,g2,g3,g4,g5⟩:=h2 hx;refine ⟨cur,by rw [hk.b,hb hx,g1],by rw [hk.k];exact g2,by rw [hk.k];exact g3,by rw [hk.k];exact g4,fun i hi=>?_⟩;obtain ⟨e1,e2⟩:=hk.v i (by omega);have h5:=g5 i hi;rw [e1,e2];have h6:=hbv i;simp only [AO.inn] at h6;generalize es.getD i none=o at h5 h6 ⊢;match o,h5,h6 with
  | none,_,_=>trivial
  | some [],h5,_=>exact h5
  | some (x::xs),h5,h6=>exact ⟨h5.1,h5.2.1,h5.2.2.mono hw hX (h6 ⟨by omega,hi,x,xs,rfl⟩)⟩
structure AS where
 n:Nat
 t:List (Nat×AV)
 h:List (Nat×AO)
structure dG (K:Nat→Prop) (W w:World):Prop where
 os:w.os=W.os
 tape:w.tape=W.tape
 output:w.output=W.output
 size:W.heap.size≤w.heap.size
 block:∀ b,K b→w.heap[b]? = W.heap[b]?
theorem dG.refl (K:Nat→Prop) (w:World):dG K w w:=⟨rfl,rfl,rfl,Nat.le_refl _,fun _ _=>rfl⟩
theorem dG.trans {K K':Nat→Prop} {a b c:World} (h:dG K a b) (k:dG K' b c) (hK:∀ b,K b→K' b):dG K a c :=
 ⟨k.os.trans h.os,k.tape.trans h.tape,k.output.trans h.output,Nat.le_trans h.size k.size,fun i hi=>(k.block i (hK i hi)).trans (h.block i hi)⟩
def lv (h:List (Nat×AO)) (k:Nat):Prop:=(lk .gone h k).live∨∃ m j,k=gk m j∧(lk .gone h m).inn j
def own (h:List (Nat×AO)) (β:Nat→Nat) (b:Nat):Prop:=∃ k,lv h k∧β k=b
structure GP (P:Program) (w:World):Prop where
 pow10:P.globalNamed "internal/strconv.uint64pow10" ≠ none→Lib.TabIs P w "internal/strconv.uint64pow10" .u64 [1,10,100,1000,10000,100000,1000000,10000000,100000000,1000000000,10000000000,100000000000,1000000000000,10000000000000,100000000000000,1000000000000000,10000000000000000,100000000000000000,1000000000000000000,10000000000000000000]
 syn:P.globalNamed "strconv.ErrSyntax" ≠ none→∃ t p,w.var? P "strconv.ErrSyntax" = some #[.iface t p]
 rng:P.globalNamed "strconv.ErrRange" ≠ none→∃ t p,w.var? P "strconv.ErrRange" = some #[.iface t p]
 len:∀ g,P.globalNamed "internal/bytealg.MaxLen" = some g→∃ m:Int,w.cell? ⟨g,0,none⟩=some (.int .i64 m)
 asp:P.globalNamed "strings.asciiSpace" ≠ none→Lib.TabIs P w "strings.asciiSpace" .u8 Lib.asciiSpaceTab
structure Cx (P:Program) where
 K:Nat→Prop
 X:Nat→Prop
 W:World
 β:Nat→Nat
 κ:Nat→Nat×Nat
 hK:∀ b,K b→b<W.heap.size
 hX:∀ b,X b→b<W.heap.size
 gp:∀ w,dG K W w→GP P w
def Cx.XX {P:Program} (c:Cx P) (h:List (Nat×AO)) (β:Nat→Nat) (b:Nat):Prop:=c.X b∨own h β b
structure eN {P:Program} (c:Cx P) (h:List (Nat×AO)) (w:World) (β:Nat→Nat) (κ:Nat→Nat×Nat):Prop where
 ob:∀ k,HO w (c.XX h β) β κ k (lk .gone h k)
 inj:∀ k k',lv h k→lv h k'→β k=β k'→k=k'
 kp:dG c.K c.W w
 nk:∀ k,lv h k→¬ c.K (β k)
 nx:∀ k,lv h k→¬ c.X (β k)
 fix:∀ k,1000≤k→k<1000000→β k=c.β k∧κ k=c.κ k
 sg:∀ k,lk .gone h k ≠ .gone→k<1000000
structure Rel {P:Program} (c:Cx P) (s:AS) (a:Act) (w:World) (β:Nat→Nat) (κ:Nat→Nat×Nat):Prop where
 df:a.defers=[]
 sz:a.tmps.size=s.n
 tm:∀ i,G w (c.XX s.h β) β κ (lk .any s.t i) (a.tmps.getD i undef)
 hp:eN c s.h w β κ
theorem eN.lt {P:Program} {c:Cx P} {h:List (Nat×AO)} {w:World} {β:Nat→Nat} {κ:Nat→Nat×Nat} (r:eN c h w β κ) {k:Nat} (hl:lv h k):β k<w.heap.size:=by
 rcases hl with hl | ⟨m,j,rfl,hl⟩
 ·exact (r.ob k).lt hl
 ·exact (r.ob m).ltv hl
theorem AO.live_ne {o:AO} (h:o.live):o ≠ .gone:=fun e=>by rw [e] at h;exact h
theorem eN.sm {P:Program} {c:Cx P} {h:List (Nat×AO)} {w:World} {β:Nat→Nat} {κ:Nat→Nat×Nat} (r:eN c h w β κ) (k:Nat) (hl:(lk .gone h k).live):k<1000000:=r.sg k (AO.live_ne hl)
mutual
def AV.hasR:AV→Bool
 | .rref _ _=>true
 | .hptr k _=>!Nat.blt k 1000000
 | .rslice k=>!Nat.blt k 1000000
 | .gslice k=>!Nat.blt k 1000000
 | .amap k=>!Nat.blt k 1000000
 | .bm _ k _=>!Nat.blt k 1000000
 | .agg cs=>AV.hasRL cs
 | .tup cs=>AV.hasRL cs
 | .fn _ cs=>AV.hasRL cs
 | _=>false
def AV.hasRL:List AV→Bool
 | []=>false
 | c::cs=>AV.hasR c||AV.hasRL cs
end
theorem mZ:∀ {cs:List AV} {i:Nat},i<cs.length→AV.hasRL cs=false→AV.hasR (cs.getD i .any)=false
 | [],i,h,_=>by simp at h
 | c::cs,0,_,h=>by simp only [AV.hasRL,Bool.or_eq_false_iff] at h;exact h.1
 | c::cs,i+1,hi,h=>by simp only [AV.hasRL,Bool.or_eq_false_iff] at h;simp only [List.getD_cons_succ];exact mZ (by simpa using hi) h.2
mutual
theorem men_lt {j:Nat}:∀ {v:AV},AV.hasR v=false→AV.men j v=true→j<1000000
 | .hptr k _,h,hm=>by simp only [AV.hasR,Bool.not_eq_false',Nat.blt_eq] at h;simp only [AV.men] at hm;rw [← ef.1 hm];exact h
 | .rslice k,h,hm=>by simp only [AV.hasR,Bool.not_eq_false',Nat.blt_eq] at h;simp only [AV.men] at hm;rw [← ef.1 hm];exact h
 | .gslice k,h,hm=>by simp only [AV.hasR,Bool.not_eq_false',Nat.blt_eq] at h;simp only [AV.men] at hm;rw [← ef.1 hm];exact h
 | .amap k,h,hm=>by simp only [AV.hasR,Bool.not_eq_false',Nat.blt_eq] at h;simp only [AV.men] at hm;rw [← ef.1 hm];exact h
 | .bm _ k _,h,hm=>by simp only [AV.hasR,Bool.not_eq_false',Nat.blt_eq] at h;simp only [AV.men] at hm;rw [← ef.1 hm];exact h
 | .agg cs,h,hm=>xh (cs:=cs) (by simpa [AV.hasR] using h) (by simpa [AV.men] using hm)
 | .tup cs,h,hm=>xh (cs:=cs) (by simpa [AV.hasR] using h) (by simpa [AV.men] using hm)
 | .fn _ cs,h,hm=>xh (cs:=cs) (by simpa [AV.hasR] using h) (by simpa [AV.men] using hm)
 | .rref _ _,h,_=>by cases h
 | .any,_,hm | .bool _,_,hm | .int _ _,_,hm | .str _,_,hm | .eslice,_,hm | .dslice _,_,hm | .cslice _,_,hm | .dptr _,_,hm | .dmap _,_,hm | .iface _ _,_,hm | .nilI,_,hm | .lit _,_,hm=>by simp [AV.men] at hm
theorem xh {j:Nat}:∀ {cs:List AV},AV.hasRL cs=false→AV.menL j cs=true→j<1000000
 | [],_,hm=>by simp [AV.menL] at hm
 | c::cs,h,hm=>by
  simp only [AV.hasRL,Bool.or_eq_false_iff] at h;simp only [AV.menL,Bool.or_eq_true] at hm;rcases hm with hm | hm
  ·exact men_lt h.1 hm
  ·exact xh h.2 hm
end
def AO.hasR:AO→Bool
 | .cells _ cs=>AV.hasRL cs
 | .eit cs=>AV.hasRL cs
 | _=>false
theorem G.mono2 {w w':World} {X X':Nat→Prop} {β β':Nat→Nat} {κ κ':Nat→Nat×Nat} (hw:∀ b,¬ X b→b<w.heap.size→w'.heap[b]? = w.heap[b]?) (hX:∀ b,¬ X b→b<w.heap.size→¬ X' b) :
 ∀ {v:AV} {V:Value},G w X β κ v V→AV.hasR v=false→(∀ j,AV.men j v=true→β' j=β j∧κ' j=κ j)→G w' X' β' κ' v V:=by
 intro v V h;induction h with
 | d h=>exact fun _ _=>.d (h.mono hw hX)
 | hptr k o=>intro _ hm;rw [← (hm k (by simp [AV.men])).1];exact .hptr k o
 | rslice k h=>intro _ hm;rw [← (hm k (by simp [AV.men])).1,← (hm k (by simp [AV.men])).2];exact .rslice k (by rw [(hm k (by simp [AV.men])).2];exact h)
 | rslice0 k a h=>exact fun _ hm=>.rslice0 k a (by rw [(hm k (by simp [AV.men])).2];exact h)
 | gslice k=>intro _ hm;rw [← (hm k (by simp [AV.men])).1,← (hm k (by simp [AV.men])).2];exact .gslice k
 | rref k j h hj=>intro hr;cases hr
 | rref0 k oj a h=>intro hr;cases hr
 | amap k=>intro _ hm;rw [← (hm k (by simp [AV.men])).1];exact .amap k
 | bm f k o=>intro _ hm;rw [← (hm k (by simp [AV.men])).1];exact .bm f k o
 | fn f cs vs h1 _ ih=>exact fun hr hm=>.fn f cs vs h1 fun i hi=>ih i hi (mZ hi (by simpa [AV.hasR] using hr)) fun j hj=>hm j (by simpa [AV.men] using cZ hi hj)
 | agg cs vs h1 _ ih=>exact fun hr hm=>.agg cs vs h1 fun i hi=>ih i hi (mZ hi (by simpa [AV.hasR] using hr)) fun j hj=>hm j (by simpa [AV.men] using cZ hi hj)
 | tup cs vs h1 _ ih=>exact fun hr hm=>.tup cs vs h1 fun i hi=>ih i hi (mZ hi (by simpa [AV.hasR] using hr)) fun j hj=>hm j (by simpa [AV.men] using cZ hi hj)
theorem AO.men_lt {j:Nat} {o:AO} (h:AO.hasR o=false) (hm:AO.men j o=true):j<1000000:=by
 cases o with
 | cells e cs=>exact xh h hm
 | eit cs=>exact xh h hm
 | _=>simp [AO.men] at hm
theorem HO.mono2 {w w':World} {X X':Nat→Prop} {β β':Nat→Nat} {κ κ':Nat→Nat×Nat} {k:Nat} {o:AO} (hw:∀ b,¬ X b→b<w.heap.size→w'.heap[b]? = w.heap[b]?) (hX:∀ b,¬ X b→b<w.heap.size→¬ X' b)
 (h:HO w X β κ k o) (hr:AO.hasR o=false) (hm:∀ j,AO.men j o=true→β' j=β j∧κ' j=κ j) (hk:SK β β' κ κ' k) (hb:o.live→w'.heap[β k]? = w.heap[β k]?) (hbv:∀ j,o.inn j→w'.heap[β (gk k j)]? = w.heap[β (gk k j)]?):HO w' X' β' κ' k o:=by
 cases o with
 | cells e cs =>
  obtain ⟨cur,h1,h2,h3⟩:=h;exact ⟨cur,by rw [hk.b,hb trivial,h1],h2,fun i hi=>(h3 i hi).mono2 hw hX (mZ hi hr) fun j hj=>hm j (by simpa [AO.men] using cZ hi hj)⟩
 | eit cs =>
  obtain ⟨b,c,h1,h3⟩:=h;exact ⟨b,c,by rw [hk.b,hb trivial,h1],fun i hi=>(h3 i hi).mono2 hw hX (mZ hi hr) fun j hj=>hm j (by simpa [AO.men] using cZ hi hj)⟩
 | _=>exact h.mono hw hX (fun j hj=>by cases hj) hk hb hbv
def AS.noR (s:AS):Bool:=(s.t.all fun p=>!p.2.hasR)&&s.h.all fun p=>!p.2.hasR
theorem C9 {α:Type} {d:α} {p:α→Bool} (hd:p d=true):∀ {l:List (Nat×α)},(l.all fun q=>p q.2)=true→∀ i,p (lk d l i)=true
 | [],_,_=>hd
 | (k,v)::l,h,i=>by
  simp only [List.all_cons,SY] at h;simp only [lk];cases Nat.beq i k with
  | true=>exact h.1
  | false=>exact C9 hd h.2 i
theorem AS.noR_t {s:AS} (h:s.noR=true) (i:Nat):AV.hasR (lk .any s.t i)=false:=by simp only [AS.noR,SY] at h;have:=C9 (p:=fun v=>!AV.hasR v) (d:=AV.any) rfl h.1 i;simpa using this
theorem AS.noR_h {s:AS} (h:s.noR=true) (i:Nat):AO.hasR (lk .gone s.h i)=false:=by simp only [AS.noR,SY] at h;have:=C9 (p:=fun v=>!AO.hasR v) (d:=AO.gone) rfl h.2 i;simpa using this
theorem AV.men_any (k:Nat):AV.men k .any=false:=rfl
open Go.RowKit
theorem Rel.put {P:Program} {c:Cx P} {s:AS} {a:Act} {w:World} {β:Nat→Nat} {κ:Nat→Nat×Nat} (r:Rel c s a w β κ) {t:Nat} (ht:t<s.n) {v:AV} {V:Value} (h:G w (c.XX s.h β) β κ v V) :
 Rel c ⟨s.n,ins t v s.t,s.h⟩ (a.put (some t) V) w β κ:=by
 refine ⟨r.df,by simp [Act.put,r.sz],fun i=>?_,r.hp⟩;rw [bB];by_cases hi:i=t
 ·subst hi;have:i<a.tmps.size:=by rw [r.sz];exact ht
  simpa [Act.put,SZ,Array.getElem?_setIfInBounds,this] using h
 ·have:=r.tm i;simpa [hi,Act.put,SZ,Array.getElem?_setIfInBounds,Ne.symm hi,fun e:t=i=>hi e.symm] using this
theorem eN.drew {P:Program} {c:Cx P} {h:List (Nat×AO)} {w:World} {β:Nat→Nat} {κ:Nat→Nat×Nat} (r:eN c h w β κ):eN c h w.drew β κ:=by refine ⟨fun k=>(r.ob k).mono (w:=w) (w':=w.drew) (fun _ _ _=>rfl) (fun _ h _=>h) (fun _ _=>.refl) .refl (fun _=>rfl) (fun _ _=>rfl),r.inj,⟨r.kp.os,r.kp.tape,r.kp.output,r.kp.size,r.kp.block⟩,r.nk,r.nx,r.fix,r.sg⟩
theorem Rel.drew {P:Program} {c:Cx P} {s:AS} {a:Act} {w:World} {β:Nat→Nat} {κ:Nat→Nat×Nat} (r:Rel c s a w β κ):Rel c s a w.drew β κ :=
 ⟨r.df,r.sz,fun i=>(r.tm i).mono (w:=w) (w':=w.drew) (fun _ _ _=>rfl) (fun _ h _=>h) (fun _ _=>.refl),r.hp.drew⟩
theorem Ek {h:List (Nat×AO)} {ks:List Nat} {k:Nat} (hl:lv (sel ks h) k):lv h k:=by
 rcases hl with hl | ⟨m,j,e,hl⟩
 ·rcases Eg .gone ks h k with e | e
  ·exact .inl (by rw [← e];exact hl)
  ·rw [e] at hl;exact hl.elim
 ·rcases Eg .gone ks h m with e2 | e2
  ·exact .inr ⟨m,j,e,by rw [← e2];exact hl⟩
  ·rw [e2] at hl;exact hl.elim
theorem Hs {h:List (Nat×AO)} {β:Nat→Nat} {ks:List Nat} {b:Nat} (ho:own (sel ks h) β b):own h β b:=by obtain ⟨k,hl,hb⟩:=ho;exact ⟨k,Ek hl,hb⟩
theorem eN.sel {P:Program} {c:Cx P} {h:List (Nat×AO)} {w:World} {β:Nat→Nat} {κ:Nat→Nat×Nat} (r:eN c h w β κ) (ks:List Nat):eN c (sel ks h) w β κ:=by
 have hx:∀ b,¬ c.XX h β b→b<w.heap.size→¬ c.XX (Ab.sel ks h) β b:=fun b hb _ hb'=>hb (hb'.imp id Hs);refine ⟨fun k=>?_,fun k k' hl hl' e=>r.inj k k' (Ek hl) (Ek hl') e,r.kp,fun k hl=>r.nk k (Ek hl),fun k hl=>r.nx k (Ek hl),r.fix,fun k hl=>by
  rcases Eg .gone ks h k with e | e
  ·rw [e] at hl;exact r.sg k hl
  ·exact absurd e hl⟩
 rcases Eg .gone ks h k with e | e
 ·rw [e];exact (r.ob k).mono (fun _ _ _=>rfl) hx (fun _ _=>.refl) .refl (fun _=>rfl) (fun _ _=>rfl)
 ·rw [e];trivial
theorem Rel.sel {P:Program} {c:Cx P} {s:AS} {a:Act} {w:World} {β:Nat→Nat} {κ:Nat→Nat×Nat} (r:Rel c s a w β κ) (ts hs:List Nat):Rel c ⟨s.n,sel ts s.t,sel hs s.h⟩ a w β κ:=by
 have hx:∀ b,¬ c.XX s.h β b→b<w.heap.size→¬ c.XX (Ab.sel hs s.h) β b:=fun b hb _ hb'=>hb (hb'.imp id Hs);refine ⟨r.df,r.sz,fun i=>?_,r.hp.sel hs⟩;rcases Eg .any ts s.t i with e | e
 ·show G w _ β κ (lk .any (Ab.sel ts s.t) i) _;rw [e];exact (r.tm i).mono (fun _ _ _=>rfl) hx (fun _ _=>.refl)
 ·show G w _ β κ (lk .any (Ab.sel ts s.t) i) _;rw [e];exact .d (.any _)
def AV.pg (k:Nat) (v:AV):AV:=bif AV.men k v then .any else v
def AO.pg (k:Nat):AO→AO
 | .gone=>.gone
 | .cells e cs=>.cells e (cs.map (AV.pg k))
 | .row e sz xs=>.row e sz xs
 | .room e sz=>.room e sz
 | .rmap e sz es=>.rmap e sz es
 | .rrow eo e sz es=>.rrow eo e sz es
 | .smap K E es=>.smap K E es
 | .iter es seen=>.iter es seen
 | .eit cs=>.eit (cs.map (AV.pg k))
def vl (k:Nat) (t:List (Nat×AV)):List (Nat×AV):=t.map fun p=>(p.1,AV.pg k p.2)
def lu (k:Nat) (h:List (Nat×AO)):List (Nat×AO):=h.map fun p=>(p.1,AO.pg k p.2)
theorem Ef {α:Type} (d:α) (f:α→α) (hd:f d=d) (l:List (Nat×α)) (i:Nat):lk d (l.map fun p=>(p.1,f p.2)) i=f (lk d l i):=by
 induction l with
 | nil=>simp [lk,hd]
 | cons p l ih =>
  obtain ⟨j,u⟩:=p;simp only [List.map_cons,lk,ih];cases Nat.beq i j<;>rfl
theorem AV.men_pg (k:Nat) (v:AV):AV.men k (AV.pg k v)=false:=by unfold AV.pg;cases h:AV.men k v<;>simp [h,AV.men_any]
theorem AV.men_pg' {j k:Nat} {v:AV} (h:AV.men j (AV.pg k v)=true):AV.men j v=true:=by
 unfold AV.pg at h;cases h':AV.men k v<;>rw [h'] at h
 ·exact h
 ·simp [AV.men_any] at h
theorem AV.hasR_pg {k:Nat} {v:AV} (h:AV.hasR v=false):AV.hasR (AV.pg k v)=false:=by
 unfold AV.pg;cases AV.men k v
 ·exact h
 ·rfl
theorem DZ {k:Nat}:∀ {cs:List AV},AV.hasRL cs=false→AV.hasRL (cs.map (AV.pg k))=false
 | [],_=>rfl
 | c::cs,h=>by simp only [AV.hasRL,Bool.or_eq_false_iff] at h;simp only [List.map_cons,AV.hasRL,AV.hasR_pg h.1,DZ h.2,Bool.or_self]
theorem AO.hasR_pg {k:Nat} {o:AO} (h:AO.hasR o=false):AO.hasR (AO.pg k o)=false:=by
 cases o with
 | cells e cs=>exact DZ h
 | eit cs=>exact DZ h
 | _=>rfl
theorem G.pg {w:World} {X:Nat→Prop} {β:Nat→Nat} {κ:Nat→Nat×Nat} {v:AV} {V:Value} (k:Nat) (h:G w X β κ v V):G w X β κ (AV.pg k v) V:=by
 unfold AV.pg;cases AV.men k v
 ·exact h
 ·exact .d (.any _)
theorem getD_map {α β:Type} (f:α→β) (l:List α) (i:Nat) (d:α) (d':β) (hd:f d=d'):(l.map f).getD i d'=f (l.getD i d):=by simp only [SW,List.getElem?_map];cases l[i]? <;> simp [hd]
theorem Hp (k:Nat):∀ cs:List AV,AV.menL k (cs.map (AV.pg k))=false
 | []=>rfl
 | c::cs=>by simp [AV.menL,AV.men_pg,Hp k cs]
theorem En {j k:Nat}:∀ {cs:List AV},AV.menL j (cs.map (AV.pg k))=true→AV.menL j cs=true
 | [],h=>by simp [AV.menL] at h
 | c::cs,h=>by simp only [List.map_cons,AV.menL,Bool.or_eq_true] at h ⊢;exact h.imp AV.men_pg' En
theorem AO.men_pg (k:Nat) (o:AO):AO.men k (AO.pg k o)=false:=by
 cases o with
 | gone=>rfl
 | cells e cs=>exact Hp k cs
 | eit cs=>exact Hp k cs
 | row e sz xs=>rfl
 | smap K E es=>rfl
 | iter es seen=>rfl
 | room _ _=>rfl
 | rmap _ _ _=>rfl
 | rrow _ _ _ _=>rfl
theorem AO.men_pg' {j k:Nat} {o:AO} (h:AO.men j (AO.pg k o)=true):AO.men j o=true:=by
 cases o with
 | gone=>exact h
 | cells e cs=>exact En h
 | eit cs=>exact En h
 | row e sz xs=>exact h
 | smap K E es=>exact h
 | iter es seen=>exact h
 | room _ _=>exact h
 | rmap _ _ _=>exact h
 | rrow _ _ _ _=>exact h
theorem AO.live_pg (k:Nat) (o:AO):(AO.pg k o).live=o.live:=by cases o<;>simp [AO.live,AO.pg]
theorem AO.inn_pg (k j:Nat) (o:AO):(AO.pg k o).inn j=o.inn j:=by cases o<;>rfl
theorem HO.pg {w:World} {X:Nat→Prop} {β:Nat→Nat} {κ:Nat→Nat×Nat} {k j:Nat} {o:AO} (h:HO w X β κ k o):HO w X β κ k (AO.pg j o):=by
 cases o with
 | gone=>trivial
 | cells e cs =>
  obtain ⟨cur,h1,h2,h3⟩:=h;exact ⟨cur,h1,by simp [h2],fun i hi=>by rw [getD_map (AV.pg j) cs i .any .any rfl];exact (h3 i (by simpa using hi)).pg j⟩
 | eit cs =>
  obtain ⟨b,c,h1,h3⟩:=h;exact ⟨b,c,h1,fun i hi=>by rw [getD_map (AV.pg j) cs i .any .any rfl];exact (h3 i (by simpa using hi)).pg j⟩
 | row e sz xs=>exact h
 | smap K E es=>exact h
 | iter es seen=>exact h
 | room _ _=>exact h
 | rmap _ _ _=>exact h
 | rrow _ _ _ _=>exact h
theorem jT (k:Nat) (t:List (Nat×AV)) (i:Nat):lk .any (vl k t) i=AV.pg k (lk .any t i):=Ef .any (AV.pg k) rfl t i
theorem ij (k:Nat) (h:List (Nat×AO)) (i:Nat):lk .gone (lu k h) i=AO.pg k (lk .gone h i):=Ef .gone (AO.pg k) rfl h i
theorem uz (k:Nat) (h:List (Nat×AO)) (i:Nat):lv (lu k h) i=lv h i:=by simp only [lv,ij,AO.live_pg,AO.inn_pg]
theorem De (k:Nat) (h:List (Nat×AO)) (β:Nat→Nat):own (lu k h) β=own h β:=by funext b;simp only [own,uz]
theorem eN.pg {P:Program} {c:Cx P} {h:List (Nat×AO)} {w:World} {β:Nat→Nat} {κ:Nat→Nat×Nat} (r:eN c h w β κ) (k:Nat):eN c (lu k h) w β κ:=by
 refine ⟨fun j=>?_,fun i j hi hj e=>r.inj i j (by rw [uz] at hi;exact hi) (by rw [uz] at hj;exact hj) e,r.kp,fun j hj=>r.nk j (by rw [uz] at hj;exact hj),
  fun j hj=>r.nx j (by rw [uz] at hj;exact hj),r.fix,fun j hj=>r.sg j (fun e=>hj (by rw [ij,e];rfl))⟩
 rw [ij];have:c.XX (lu k h) β=c.XX h β:=by funext b;simp [Cx.XX,De]
 rw [this];exact (r.ob j).pg
theorem Rel.pg {P:Program} {c:Cx P} {s:AS} {a:Act} {w:World} {β:Nat→Nat} {κ:Nat→Nat×Nat} (r:Rel c s a w β κ) (k:Nat):Rel c ⟨s.n,vl k s.t,lu k s.h⟩ a w β κ:=by
 have:c.XX (lu k s.h) β=c.XX s.h β:=by funext b;simp [Cx.XX,De]
 refine ⟨r.df,r.sz,fun i=>?_,r.hp.pg k⟩;show G w (c.XX (lu k s.h) β) β κ (lk .any (vl k s.t) i) _;rw [jT,this];exact (r.tm i).pg k
def upd {α:Type} (f:Nat→α) (k:Nat) (v:α):Nat→α:=fun i=>if i=k then v else f i
theorem bh {α:Type} (f:Nat→α) (k:Nat) (v:α):upd f k v k=v:=by simp [upd]
theorem cM {α:Type} (f:Nat→α) {k:Nat} {v:α} {i:Nat} (h:i≠k):upd f k v i=f i:=by simp [upd,h]
theorem ir (w:World) (o:Obj) {b:Nat} (h:b<w.heap.size):(w.alloc o).heap[b]? = w.heap[b]? := Below.heap_alloc w o b h
theorem SK.upd {β:Nat→Nat} {κ:Nat→Nat×Nat} {k j b:Nat} {cap:Nat×Nat} (hk:k<1000000) (h:j≠k):SK β (Ab.upd β k b) κ (Ab.upd κ k cap) j :=
 ⟨cM β h,cM κ h,fun i _=>⟨cM β (by have:=iR j i;omega),cM κ (by have:=iR j i;omega)⟩⟩
def CO {α:Type} (f:Nat→α) (g:Nat→Nat→α) (n:Nat):α:=if n<1000000 then f n else g (n / 1000000-1) (n % 1000000)
theorem gC {α:Type} {f:Nat→α} {g:Nat→Nat→α} {n:Nat} (h:n<1000000):CO f g n=f n:=if_pos h
theorem eH {α:Type} {f:Nat→α} {g:Nat→Nat→α} {k j:Nat} (h:j<1000000):CO f g (gk k j)=g k j:=by
 have h1:¬ gk k j<1000000:=by have:=iR k j;omega
 have h2:gk k j / 1000000-1=k:=by unfold gk;omega
 have h3:gk k j % 1000000=j:=by unfold gk;omega
 unfold CO;rw [if_neg h1,h2,h3]
def AO.isR:AO→Bool
 | .rmap _ _ _=>true
 | .rrow _ _ _ _=>true
 | _=>false
theorem AO.inn_isR {o:AO} {i:Nat} (h:o.inn i):i<1000000∧o.isR=true:=by
 cases o with
 | rmap _ _ _=>exact ⟨h.1,rfl⟩
 | rrow _ _ _ _=>exact ⟨h.1,rfl⟩
 | _=>exact h.elim
theorem SK.updκ {β:Nat→Nat} {κ:Nat→Nat×Nat} {k j:Nat} {cap:Nat×Nat} (hk:k<1000000) (h:j≠k):SK β β κ (Ab.upd κ k cap) j :=
 ⟨rfl,cM κ h,fun i _=>⟨rfl,cM κ (by have:=iR j i;omega)⟩⟩
theorem iO {h:List (Nat×AO)} {k j:Nat} {o:AO} (hk:k<1000000) (hi:∀ j,¬ o.inn j) (hl:lv (ins k o h) j):(j=k∧o.live)∨(j≠k∧lv h j):=by
 rcases hl with hl | ⟨m,i,rfl,hl⟩
 ·rw [bB] at hl;by_cases e:j=k
  ·rw [if_pos e] at hl;exact .inl ⟨e,hl⟩
  ·rw [if_neg e] at hl;exact .inr ⟨e,.inl hl⟩
 ·rw [bB] at hl;by_cases e:m=k
  ·rw [if_pos e] at hl;exact absurd hl (hi i)
  ·rw [if_neg e] at hl;exact .inr ⟨by have:=iR m i;omega,.inr ⟨m,i,rfl,hl⟩⟩
theorem Ak {h:List (Nat×AO)} {k:Nat} {o:AO} (h1:o.live↔(lk .gone h k).live) (h2:∀ j,o.inn j↔(lk .gone h k).inn j) (j:Nat):lv (ins k o h) j↔lv h j:=by
 have e1:∀ i,(lk .gone (ins k o h) i).live↔(lk .gone h i).live:=fun i=>by
  rw [bB];by_cases e:i=k
  ·rw [if_pos e,e];exact h1
  ·rw [if_neg e]
 have e2:∀ i j,(lk .gone (ins k o h) i).inn j↔(lk .gone h i).inn j:=fun i j=>by
  rw [bB];by_cases e:i=k
  ·rw [if_pos e,e];exact h2 j
  ·rw [if_neg e]
 simp only [lv,e1,e2]
theorem C1 {P:Program} (c:Cx P) {h:List (Nat×AO)} {k:Nat} {o:AO} (β:Nat→Nat) (h1:o.live↔(lk .gone h k).live) (h2:∀ j,o.inn j↔(lk .gone h k).inn j):c.XX (ins k o h) β=c.XX h β:=by funext i;simp only [Cx.XX,own,Ak h1 h2]
theorem eN.vne {P:Program} {c:Cx P} {h:List (Nat×AO)} {w:World} {β:Nat→Nat} {κ:Nat→Nat×Nat} (r:eN c h w β κ) {k m j:Nat} (hk:(lk .gone h k).live) (hj:(lk .gone h m).inn j):β (gk m j)≠β k:=fun e=>by have:=r.inj _ _ (.inr ⟨m,j,rfl,hj⟩) (.inl hk) e;have:=r.sm k hk;have:=iR m j;omega
theorem l6 {k:Nat} (h:lv [] k):False:=by
 rcases h with h | ⟨m,j,_,h⟩
 ·exact h
 ·exact h
theorem eN.nil {P:Program} {c:Cx P} {w:World} (hk:dG c.K c.W w):eN c [] w c.β c.κ :=
 ⟨fun _=>trivial,fun _ _ h=>(l6 h).elim,hk,fun _ h=>(l6 h).elim,fun _ h=>(l6 h).elim,fun _ _ _=>⟨rfl,rfl⟩,fun _ h=>absurd rfl h⟩
theorem eN.nilA {P:Program} {c:Cx P} {w:World} {β:Nat→Nat} {κ:Nat→Nat×Nat} (hk:dG c.K c.W w) (hf:∀ k,1000≤k→k<1000000→β k=c.β k∧κ k=c.κ k):eN c [] w β κ :=
 ⟨fun _=>trivial,fun _ _ h=>(l6 h).elim,hk,fun _ h=>(l6 h).elim,fun _ h=>(l6 h).elim,hf,fun _ h=>absurd rfl h⟩
theorem eZ {h:List (Nat×AO)} {m j:Nat} (hl:(lk .gone h m).inn j):lv h (gk m j):=.inr ⟨m,j,rfl,hl⟩
theorem eN.anew {P:Program} {c:Cx P} {h:List (Nat×AO)} {w w':World} {β:Nat→Nat} {κ:Nat→Nat×Nat} (r:eN c h w β κ) {k:Nat} (hk:k<1000) (hm:∀ j,j≠k→AO.men k (lk .gone h j)=false) (b:Nat) (cap:Nat×Nat) {o:AO}
 (hb:w.heap.size≤b) (hw:∀ i,i<w.heap.size→w'.heap[i]? = w.heap[i]?) (hkp:dG c.K w w')
 (ho:HO w' (c.XX (ins k o h) (upd β k b)) (upd β k b) (upd κ k cap) k o) (hi:∀ j,¬ o.inn j:=by exact fun _ h=>h) :
 eN c (ins k o h) w' (upd β k b) (upd κ k cap) ∧
 ∀ {v:AV} {V:Value},G w (c.XX h β) β κ v V→AV.men k v=false→G w' (c.XX (ins k o h) (upd β k b)) (upd β k b) (upd κ k cap) v V:=by
 have hk6:k<1000000:=by omega
 have hX:∀ i,¬ c.XX h β i→i<w.heap.size→¬ c.XX (ins k o h) (upd β k b) i:=by
  rintro i hi2 hlt (hx | ⟨j,hl,hj⟩)
  ·exact hi2 (.inl hx)
  ·rcases iO hk6 hi hl with ⟨e,_⟩ | ⟨e,hl⟩
   ·subst e;rw [bh] at hj;omega
   ·rw [cM β e] at hj;exact hi2 (.inr ⟨j,hl,hj⟩)
 have hw2:∀ i,¬ c.XX h β i→i<w.heap.size→w'.heap[i]? = w.heap[i]? := fun i _=>hw i;have hlt:c.W.heap.size≤w.heap.size:=r.kp.size;refine ⟨⟨fun j=>?_,fun i j hi2 hj e=>?_,r.kp.trans hkp (fun _ h=>h),fun j hj=>?_,fun j hj=>?_,fun j hj hj6=>?_,fun j hj=>?_⟩,fun {v V} hg hmv=>hg.mono hw2 hX fun j hj=>?_⟩
 ·rw [bB];by_cases e:j=k
  ·subst e;simpa using ho
  ·rw [if_neg e];refine (r.ob j).mono hw2 hX (fun i hi=>?_) (.upd hk6 e) (fun hl=>hw _ (r.lt (.inl hl))) (fun i hl=>hw _ (r.lt (eZ hl)));exact .upd hk6 fun e2=>by subst e2;rw [hm j e] at hi;cases hi
 ·rcases iO hk6 hi hi2 with ⟨e1,_⟩ | ⟨e1,hi2⟩<;>rcases iO hk6 hi hj with ⟨e2,_⟩ | ⟨e2,hj⟩
  ·rw [e1,e2]
  ·rw [e1,bh,cM β e2] at e;have:=r.lt hj;omega
  ·rw [e2,bh,cM β e1] at e;have:=r.lt hi2;omega
  ·rw [cM β e1,cM β e2] at e;exact r.inj i j hi2 hj e
 ·rcases iO hk6 hi hj with ⟨e,_⟩ | ⟨e,hj⟩
  ·subst e;rw [bh];intro hk';have:=c.hK _ hk';omega
  ·rw [cM β e];exact r.nk j hj
 ·rcases iO hk6 hi hj with ⟨e,_⟩ | ⟨e,hj⟩
  ·subst e;rw [bh];intro hk';have:=c.hX _ hk';omega
  ·rw [cM β e];exact r.nx j hj
 ·have:j≠k:=by omega
  rw [cM β this,cM κ this];exact r.fix j hj hj6
 ·rw [bB] at hj;by_cases e:j=k
  ·omega
  ·rw [if_neg e] at hj;exact r.sg j hj
 ·exact .upd hk6 fun e2=>by subst e2;rw [hmv] at hj;cases hj
section inv
variable {w:World} {X:Nat→Prop} {β:Nat→Nat} {κ:Nat→Nat×Nat} {V:Value}
theorem G.bool_inv {b:Bool} (h:G w X β κ (.bool b) V):V = .bool b:=by cases h with | d h=>cases h;rfl
theorem G.int_inv {k:IntKind} {n:Int} (h:G w X β κ (.int k n) V):V = .int k n:=by cases h with | d h=>cases h;rfl
theorem G.str_inv {s:List UInt8} (h:G w X β κ (.str s) V):V = .string ⟨s.toArray⟩:=by cases h with | d h=>cases h;rfl
theorem G.str_len {s:List UInt8} (h:G w X β κ (.str s) V):s.length≤maxLen:=by cases h with | d h=>cases h;assumption
theorem G.hptr_inv {k o:Nat} (h:G w X β κ (.hptr k o) V):V = .pointer (some ⟨β k,o,none⟩):=by cases h with | d h=>cases h | hptr=>rfl
theorem G.rslice_inv {k:Nat} (h:G w X β κ (.rslice k) V):(0<(κ k).2∧V = .slice (some ⟨β k,0,none⟩) (κ k).2 (κ k).1)∨((κ k).2=0∧∃ a,V = .slice a 0 0):=by
 cases h with
 | d h=>cases h
 | rslice _ h=>exact .inl ⟨h,rfl⟩
 | rslice0 _ a h=>exact .inr ⟨h,a,rfl⟩
theorem G.rslice_len {k:Nat} (h:G w X β κ (.rslice k) V):∃ a c,V = .slice a (κ k).2 c:=by
 rcases h.rslice_inv with ⟨_,h⟩ | ⟨h0,a,h⟩
 ·exact ⟨_,_,h⟩
 ·exact ⟨a,0,by rw [h0];exact h⟩
theorem G.amap_inv {k:Nat} (h:G w X β κ (.amap k) V):V = .map (some (β k)):=by cases h with | d h=>cases h | amap=>rfl
theorem G.bm_inv {f:FuncId} {k o:Nat} (h:G w X β κ (.bm f k o) V):V = .func (.func f) #[.pointer (some ⟨β k,o,none⟩)] #[]:=by cases h with | d h=>cases h | bm=>rfl
theorem G.nilI_inv (h:G w X β κ .nilI V):V = .nilIface:=by cases h with | d h=>cases h;rfl
theorem G.eslice_inv (h:G w X β κ .eslice V):∃ a,V = .slice a 0 0:=by cases h with | d h=>cases h;exact ⟨_,rfl⟩
theorem G.cslice_inv {xs:List (List AV)} (h:G w X β κ (.cslice xs) V):D w X (.dslice xs) V∧∃ a,V = .slice a xs.length xs.length:=by cases h with | d h=>cases h with | cslice _ _ h1 h2=>exact ⟨h1,h2⟩
theorem G.dslice_inv {xs:List (List AV)} (h:G w X β κ (.dslice xs) V):D w X (.dslice xs) V∧∃ a cap,V = .slice a xs.length cap∧xs.length≤cap∧cap≤maxLen:=by
 cases h with | d h=>exact ⟨h,by cases h with
  | dnil a cap h=>exact ⟨a,cap,rfl,Nat.zero_le _,h⟩
  | dslice _ b o cap sz cv h1 h2=>exact ⟨_,cap,rfl,h1,h2⟩⟩
theorem G.dptr_inv {cs:List AV} (h:G w X β κ (.dptr cs) V):D w X (.dptr cs) V:=by cases h with | d h=>exact h
theorem G.agg_inv {cs:List AV} (h:G w X β κ (.agg cs) V):∃ vs:Array Value,V = .agg vs∧cs.length=vs.size∧∀ i,i<cs.length→G w X β κ (cs.getD i .any) (vs.getD i undef):=by
 cases h with
 | d h=>cases h with | agg _ vs h1 h2=>exact ⟨vs,rfl,h1,fun i hi=>.d (h2 i hi)⟩
 | agg _ vs h1 h2=>exact ⟨vs,rfl,h1,h2⟩
theorem G.tup_inv {cs:List AV} (h:G w X β κ (.tup cs) V):∃ vs:Array Value,V = .tuple vs∧cs.length=vs.size∧∀ i,i<cs.length→G w X β κ (cs.getD i .any) (vs.getD i undef):=by
 cases h with
 | d h=>cases h with | tup _ vs h1 h2=>exact ⟨vs,rfl,h1,fun i hi=>.d (h2 i hi)⟩
 | tup _ vs h1 h2=>exact ⟨vs,rfl,h1,h2⟩
theorem G.fn_inv {f:FuncId} {cs:List AV} (h:G w X β κ (.fn f cs) V):∃ vs:Array Value,V = .func (.func f) #[] vs∧cs.length=vs.size∧∀ i,i<cs.length→G w X β κ (cs.getD i .any) (vs.getD i undef):=by
 cases h with
 | d h=>cases h with | fn _ _ vs h1 h2=>exact ⟨vs,rfl,h1,fun i hi=>.d (h2 i hi)⟩
 | fn _ _ vs h1 h2=>exact ⟨vs,rfl,h1,h2⟩
end inv
def AV.of1:Value→AV
 | .bool b=>.bool b
 | .int k n=>.int k n
 | .string s=>if s.data.toList.length≤9223372036854775807 then .str s.data.toList else .lit (.string s)
 | .slice _ 0 0=>.eslice
 | .nilIface=>.nilI
 | v=>.lit v
def AV.of:Value→AV
 | .agg cs=>.agg (cs.toList.map AV.of1)
 | .tuple cs=>.tup (cs.toList.map AV.of1)
 | v=>AV.of1 v
theorem D.of1 (w:World) (X:Nat→Prop) (v:Value):D w X (AV.of1 v) v:=by
 unfold AV.of1;split
 ·exact .bool _
 ·exact .int _ _
 ·split
  ·exact .str _ (by assumption)
  ·exact .lit _
 ·exact .eslice _
 ·exact .nilI
 ·exact .lit _
theorem DY (cs:Array Value) (i:Nat) (hi:i<cs.size):(cs.toList.map AV.of1).getD i .any=AV.of1 (cs.getD i undef):=by simp [SW,SZ,Ta hi]
theorem D.of (w:World) (X:Nat→Prop) (v:Value):D w X (AV.of v) v:=by
 unfold AV.of;split
 ·exact .agg _ _ (by simp) fun i hi=>by rw [DY _ _ (by simpa using hi)];exact D.of1 w X _
 ·exact .tup _ _ (by simp) fun i hi=>by rw [DY _ _ (by simpa using hi)];exact D.of1 w X _
 ·exact D.of1 w X v
def AS.op (s:AS):Operand→AV
 | .tmp t=>lk .any s.t t
 | .const v=>AV.of v
 | .global g=>.lit (.pointer (some ⟨g,0,none⟩))
 | .func f=>.fn f []
theorem Rel.op {P:Program} {c:Cx P} {s:AS} {a:Act} {w:World} {β:Nat→Nat} {κ:Nat→Nat×Nat} (r:Rel c s a w β κ) (x:Operand):G w (c.XX s.h β) β κ (s.op x) (a.eval x):=by
 cases x with
 | tmp t=>exact r.tm t
 | const v=>exact .d (D.of w _ v)
 | global g=>exact .d (.lit _)
 | func f=>exact .d (.fn f [] #[] rfl (fun i hi=>by simp at hi))
def tN (P:Program) (t:TypeId):Option Nat:=match P.info? t with | some i=>some i.size | none=>none
def LW (P:Program) (t:TypeId):Option Bool:=match P.underlying t with | some (.struct _)=>some true | some (.array _ _)=>some true | some _=>some false | none=>none
theorem run_sizeOf {P:Program} {w:World} {t:TypeId} {n:Nat} (h:tN P t=some n):(sizeOf t).run P w = .ok n w:=by
 unfold tN at h;cases hi:P.info? t with
 | none=>simp [hi] at h
 | some i=>simp [hi] at h;simp [sizeOf,typeInfo,hi,h,go_sem]
theorem nu {P:Program} {w:World} {t:TypeId} {b:Bool} (h:LW P t=some b):(isAgg t).run P w = .ok b w:=by
 unfold LW at h;cases hi:P.underlying t with
 | none=>simp [hi] at h
 | some d=>cases d<;>simp [hi] at h<;>subst h<;>simp [isAgg,underlying,hi,go_sem]
theorem bu {P:Program} {w:World} {t:TypeId} {d:TypeDesc} (h:P.underlying t=some d):(underlying t).run P w = .ok d w:=by simp [underlying,h,go_sem]
def tS (s:AS):AV→Option (List AV)
 | .dptr cs=>some cs
 | .hptr k o=>match lk .gone s.h k with
  | .cells _ cs=>some (cs.drop o)
  | _=>none
 | _=>none
def rL (n:Int):Prop := -9223372036854775808≤n∧n≤9223372036854775807
def D0 (op:BinOp) (k:IntKind) (a b:Int):Option (Prop×AV) :=
 match op with
 | .add=>match k with | .i64=>some (rL (a+b),.int .i64 (a+b)) | _=>some (True,.int k (k.wrap (a+b)))
 | .sub=>match k with | .i64=>some (rL (a-b),.int .i64 (a-b)) | _=>some (True,.int k (k.wrap (a-b)))
 | .mul=>match k with | .i64=>some (rL (a*b),.int .i64 (a*b)) | _=>some (True,.int k (k.wrap (a*b)))
 | .quo=>match k with | .i64=>some (b≠0∧rL (a.tdiv b),.int .i64 (a.tdiv b)) | _=>some (b≠0,.int k (k.wrap (a.tdiv b)))
 | .rem=>some (b≠0,.int k (a.tmod b))
 | .eql=>some (True,.bool (a==b))
 | .neq=>some (True,.bool (a != b))
 | .lss=>some (True,.bool (a<b))
 | .leq=>some (True,.bool (a≤b))
 | .gtr=>some (True,.bool (a>b))
 | .geq=>some (True,.bool (a≥b))
 | _=>none
def KL (op:BinOp) (a b:List UInt8):Option (Prop×AV) :=
 match op with
 | .add=>some (a.length+b.length≤9223372036854775807,.str (a++b))
 | .eql=>some (True,.bool (a==b))
 | .neq=>some (True,.bool !(a==b))
 | .lss=>some (True,.bool (Op.bytesLess a b))
 | .leq=>some (True,.bool (Op.bytesLess a b||a==b))
 | .gtr=>some (True,.bool !(Op.bytesLess a b||a==b))
 | .geq=>some (True,.bool !(Op.bytesLess a b))
 | _=>none
def SD (P:Program) (t:TypeId):Bool:=match P.underlying t with | some .bool=>true | _=>false
def RD (P:Program) (t:TypeId):Bool:=match P.underlying t with | some (.interface _)=>true | _=>false
def RY:Operand→Bool | .const _=>true | _=>false
def Vp (P:Program) (s:AS) (op:BinOp) (t:TypeId) (x y:Operand):Option (Prop×AV) :=
 match s.op x,s.op y with
 | .int k a,.int k' b=>if k=k' then D0 op k a b else none
 | .str a,.str b=>KL op a b
 | .bool a,.bool b=>if SD P t then (match op with | .eql=>some (True,.bool (a==b)) | .neq=>some (True,.bool !(a==b)) | _=>none) else none
 | .nilI,.nilI=>if RD P t&&(RY x||RY y) then (match op with | .eql=>some (True,.bool true) | .neq=>some (True,.bool false) | _=>none) else none
 | .iface _ _,.nilI=>if RD P t then (match op with | .eql=>some (True,.bool false) | .neq=>some (True,.bool true) | _=>none) else none
 | _,_=>none
theorem size_mk (l:List UInt8):ByteArray.size ⟨l.toArray⟩=l.length:=by simp [ByteArray.size]
theorem toList_mk (l:List UInt8):ByteArray.toList ⟨l.toArray⟩=l:=by simp [go_sem]
theorem LY (a b:List UInt8):(⟨a.toArray⟩:ByteArray)++⟨b.toArray⟩=⟨(a++b).toArray⟩:=by apply ByteArray.ext;simp
theorem wrap64 {n:Int} (h:rL n):IntKind.i64.wrap n=n:=by obtain ⟨h1,h2⟩:=h;simp only [IntKind.wrap,IntKind.signed,IntKind.bits,Bool.true_and,decide_eq_true_eq,show ((2:Int) ^ 64)=18446744073709551616 from by decide,show ((2:Int) ^ (64-1))=9223372036854775808 from by decide];split<;>omega
theorem Kd {P:Program} {w:World} {X:Nat→Prop} {β:Nat→Nat} {κ:Nat→Nat×Nat} {ρ:Operand→Value} {op:BinOp} {t:TypeId} {x y:Operand} {u:TypeId} {k:IntKind} {m n:Int} {p:Prop} {v:AV}
 (ex:ρ x = .int k m) (ey:ρ y = .int k n) (h:D0 op k m n=some (p,v)) (hp:p) (dst:Option Tmp) (ty:TypeId) (pos:String) (af:Array Edge) (g:Option (Nat×Bool)) :
 ∃ V,(execOp ρ ⟨dst,.binOp op t x y u,ty,pos,af,g⟩).run P w = .ok (.value V) w∧G w X β κ v V:=by
 cases op;case add =>
  cases k<;>simp only [D0,S9,Prod.mk.injEq] at h<;>obtain ⟨rfl,rfl⟩:=h<;>refine ⟨_,?_,.d (.int _ _)⟩ <;>
   simp [execOp,ex,ey,eqGuard,binOp,Op.intArith,go_sem]<;>first | rfl | (rw [wrap64 hp])
 case sub =>
  cases k<;>simp only [D0,S9,Prod.mk.injEq] at h<;>obtain ⟨rfl,rfl⟩:=h<;>refine ⟨_,?_,.d (.int _ _)⟩ <;>
   simp [execOp,ex,ey,eqGuard,binOp,Op.intArith,go_sem]<;>first | rfl | (rw [wrap64 hp])
 case mul =>
  cases k<;>simp only [D0,S9,Prod.mk.injEq] at h<;>obtain ⟨rfl,rfl⟩:=h<;>refine ⟨_,?_,.d (.int _ _)⟩ <;>
   simp [execOp,ex,ey,eqGuard,binOp,Op.intArith,go_sem]<;>first | rfl | (rw [wrap64 hp])
 case quo =>
  cases k<;>simp only [D0,S9,Prod.mk.injEq] at h<;>obtain ⟨rfl,rfl⟩:=h<;>refine ⟨_,?_,.d (.int _ _)⟩ <;>
   simp [execOp,ex,ey,eqGuard,binOp,Op.intDiv,go_sem]<;>first | (simp [hp];done) | (rw [if_neg hp.1];simp [wrap64 hp.2])
 case rem =>
  simp only [D0,S9,Prod.mk.injEq] at h;obtain ⟨rfl,rfl⟩:=h;refine ⟨_,?_,.d (.int _ _)⟩;simp [execOp,ex,ey,eqGuard,binOp,Op.intDiv,go_sem];simp [hp]
 case eql | neq | lss | leq | gtr | geq =>
  simp only [D0,S9,Prod.mk.injEq] at h;obtain ⟨rfl,rfl⟩:=h;refine ⟨_,?_,.d (.bool _)⟩;simp [execOp,ex,ey,eqGuard,binOp,Op.intCmp,go_sem]<;>rfl
 all_goals simp [D0] at h
theorem KM {P:Program} {w:World} {X:Nat→Prop} {β:Nat→Nat} {κ:Nat→Nat×Nat} {ρ:Operand→Value} {op:BinOp} {t:TypeId} {x y:Operand} {u:TypeId} {m n:List UInt8} {p:Prop} {v:AV}
 (ex:ρ x = .string ⟨m.toArray⟩) (ey:ρ y = .string ⟨n.toArray⟩) (h:KL op m n=some (p,v)) (hp:p) (dst:Option Tmp) (ty:TypeId) (pos:String) (af:Array Edge) (g:Option (Nat×Bool)) :
 ∃ V,(execOp ρ ⟨dst,.binOp op t x y u,ty,pos,af,g⟩).run P w = .ok (.value V) w∧G w X β κ v V:=by
 cases op;case add =>
  simp only [KL,S9,Prod.mk.injEq] at h;obtain ⟨rfl,rfl⟩:=h;refine ⟨_,?_,.d (.str _ (by rw [List.length_append];exact hp))⟩;have e:¬ ((m.length:Int)+n.length>IntKind.i64.max):=by rw [show IntKind.i64.max=9223372036854775807 from by decide];omega
  have e':(m.length:Int)+n.length≤9223372036854775807:=by omega
  simp [execOp,ex,ey,eqGuard,binOp,Op.stringOp,go_sem,e',LY]
 case eql | neq | lss | leq | gtr | geq =>
  simp only [KL,S9,Prod.mk.injEq] at h;obtain ⟨rfl,rfl⟩:=h;refine ⟨_,?_,.d (.bool _)⟩;simp [execOp,ex,ey,eqGuard,binOp,Op.stringOp,go_sem]<;>rfl
 all_goals simp [KL] at h
theorem FJ {P:Program} {w:World} {t:TypeId} (h:P.underlying t=some .bool) (d:Nat) (a b:Bool):(Op.equalIn (d+1) t (.bool a) (.bool b)).run P w = .ok (a==b) w:=by simp [Op.equalIn,bu h,go_sem]
theorem Js {P:Program} {w:World} {t:TypeId} {ms:Array (String×TypeId)} (h:P.underlying t=some (.interface ms)) (d:Nat):(Op.equalIn (d+1) t .nilIface .nilIface).run P w = .ok true w:=by simp [Op.equalIn,bu h,go_sem]
theorem Jr {P:Program} {w:World} {t:TypeId} {ms:Array (String×TypeId)} (h:P.underlying t=some (.interface ms)) (d:Nat) (e:TypeId) (v:Value):(Op.equalIn (d+1) t (.iface e v) .nilIface).run P w = .ok false w:=by simp [Op.equalIn,bu h,go_sem]
theorem JZ {P:Program} {w:World} {X:Nat→Prop} {β:Nat→Nat} {κ:Nat→Nat×Nat} {ρ:Operand→Value} {op:BinOp} {t:TypeId} {x y:Operand} {u:TypeId} {m n:Bool} {p:Prop} {v:AV} (hb:SD P t=true)
 (ex:ρ x = .bool m) (ey:ρ y = .bool n) (h:(match op with | .eql=>some (True,AV.bool (m==n)) | .neq=>some (True,AV.bool !(m==n)) | _=>none)=some (p,v)) (dst:Option Tmp) (ty:TypeId) (pos:String) (af:Array Edge) (g:Option (Nat×Bool)) :
 ∃ V,(execOp ρ ⟨dst,.binOp op t x y u,ty,pos,af,g⟩).run P w = .ok (.value V) w∧G w X β κ v V:=by
 have hu:P.underlying t=some .bool:=by
  unfold SD at hb;split at hb
  ·assumption
  ·cases hb
 cases op;case eql | neq =>
  simp only [S9,Prod.mk.injEq] at h;obtain ⟨_,rfl⟩:=h;refine ⟨_,?_,.d (.bool _)⟩;have e:(Op.equal t (.bool m) (.bool n)).run P w = .ok (m==n) w:=FJ hu 9999 m n;simp [execOp,ex,ey,eqGuard,binOp,e,go_sem]<;>rfl
 all_goals simp at h
theorem Kp {P:Program} {w:World} {X:Nat→Prop} {β:Nat→Nat} {κ:Nat→Nat×Nat} {ρ:Operand→Value} {op:BinOp} {t:TypeId} {x y:Operand} {u:TypeId} {p:Prop} {v:AV} (hb:RD P t=true) (hk:(RY x||RY y)=true)
 (ex:ρ x = .nilIface) (ey:ρ y = .nilIface) (h:(match op with | .eql=>some (True,AV.bool true) | .neq=>some (True,AV.bool false) | _=>none)=some (p,v)) (dst:Option Tmp) (ty:TypeId) (pos:String) (af:Array Edge) (g:Option (Nat×Bool)) :
 ∃ V,(execOp ρ ⟨dst,.binOp op t x y u,ty,pos,af,g⟩).run P w = .ok (.value V) w∧G w X β κ v V:=by
 obtain ⟨ms,hu⟩:∃ ms,P.underlying t=some (.interface ms):=by
  unfold RD at hb;split at hb
  ·exact ⟨_,by assumption⟩
  ·cases hb
 cases op;case eql | neq =>
  simp only [S9,Prod.mk.injEq] at h;obtain ⟨_,rfl⟩:=h;refine ⟨_,?_,.d (.bool _)⟩;have e:(Op.equal t .nilIface .nilIface).run P w = .ok true w:=Js hu 9999;cases x<;>cases y<;>simp only [RY,Bool.or_self,Bool.or_true,Bool.true_or,Bool.false_eq_true] at hk<;>simp [execOp,ex,ey,eqGuard,binOp,e,go_sem]
 all_goals simp at h
theorem IG {P:Program} {w:World} {X:Nat→Prop} {β:Nat→Nat} {κ:Nat→Nat×Nat} {ρ:Operand→Value} {op:BinOp} {t:TypeId} {x y:Operand} {u:TypeId} {p:Prop} {v:AV} (hb:RD P t=true) {d:TypeId} {V0:Value}
 (ex:ρ x = .iface d V0) (ey:ρ y = .nilIface) (h:(match op with | .eql=>some (True,AV.bool false) | .neq=>some (True,AV.bool true) | _=>none)=some (p,v)) (dst:Option Tmp) (ty:TypeId) (pos:String) (af:Array Edge) (g:Option (Nat×Bool)) :
 ∃ V,(execOp ρ ⟨dst,.binOp op t x y u,ty,pos,af,g⟩).run P w = .ok (.value V) w∧G w X β κ v V:=by
 obtain ⟨ms,hu⟩:∃ ms,P.underlying t=some (.interface ms):=by
  unfold RD at hb;split at hb
  ·exact ⟨_,by assumption⟩
  ·cases hb
 cases op;case eql | neq =>
  simp only [S9,Prod.mk.injEq] at h;obtain ⟨_,rfl⟩:=h;refine ⟨_,?_,.d (.bool _)⟩;have e:(Op.equal t (.iface d V0) .nilIface).run P w = .ok false w:=Jr hu 9999 d V0;simp [execOp,ex,ey,eqGuard,binOp,e,go_sem]
 all_goals simp at h
theorem G.iface_inv {w:World} {X:Nat→Prop} {β:Nat→Nat} {κ:Nat→Nat×Nat} {V:Value} {t:TypeId} {v:AV} (h:G w X β κ (.iface t v) V):∃ V',V = .iface t V'∧D w X v V':=by cases h with | d h=>cases h;exact ⟨_,rfl,by assumption⟩
theorem JN {P:Program} {c:Cx P} {s:AS} {a:Act} {w:World} {β:Nat→Nat} {κ:Nat→Nat×Nat} (r:Rel c s a w β κ) {op:BinOp} {t:TypeId} {x y:Operand} {u:TypeId} {p:Prop} {v:AV} (h:Vp P s op t x y=some (p,v)) (hp:p)
 (dst:Option Tmp) (ty:TypeId) (pos:String) (af:Array Edge) (g:Option (Nat×Bool)) :
 ∃ V,(execOp a.eval ⟨dst,.binOp op t x y u,ty,pos,af,g⟩).run P w = .ok (.value V) w∧G w (c.XX s.h β) β κ v V:=by
 have hx:=r.op x;have hy:=r.op y;unfold Vp at h;split at h
 ·rename_i k m k' n e1 e2;rw [e1] at hx;rw [e2] at hy;split at h
  ·rename_i hk;subst hk;exact Kd hx.int_inv hy.int_inv h hp _ _ _ _ _
  ·cases h
 ·rename_i m n e1 e2;rw [e1] at hx;rw [e2] at hy;exact KM hx.str_inv hy.str_inv h hp _ _ _ _ _
 ·rename_i m n e1 e2;rw [e1] at hx;rw [e2] at hy;split at h
  ·exact JZ (by assumption) hx.bool_inv hy.bool_inv h _ _ _ _ _
  ·cases h
 ·rename_i e1 e2;rw [e1] at hx;rw [e2] at hy;split at h
  ·rename_i hb;simp only [SY] at hb;exact Kp hb.1 hb.2 hx.nilI_inv hy.nilI_inv h _ _ _ _ _
  ·cases h
 ·rename_i e1 e2;rw [e1] at hx;rw [e2] at hy;obtain ⟨V',e3,_⟩:=hx.iface_inv;split at h
  ·exact IG (by assumption) e3 hy.nilI_inv h _ _ _ _ _
  ·cases h
 ·cases h
theorem mR (b o j:Nat):(⟨b,o,none⟩:Addr).add j=⟨b,o+j,none⟩:=by unfold Addr.add;split<;>simp_all
theorem ca {w:World} {b i:Nat} {cur:Array Value} {e:TypeId} {fr:Nat×Nat} (h:w.heap[b]? = some (.cells cur e fr)) (hi:i<cur.size):w.cell? ⟨b,i,none⟩=some (cur.getD i undef):=by simp [World.cell?,h,SZ,Ta hi]
theorem getD_drop {α:Type} (l:List α) (o j:Nat) (d:α):(l.drop o).getD j d=l.getD (o+j) d:=by simp [SW]
theorem Dz {P:Program} {c:Cx P} {s:AS} {a:Act} {w:World} {β:Nat→Nat} {κ:Nat→Nat×Nat} (r:Rel c s a w β κ) {v:AV} {V:Value} (hg:G w (c.XX s.h β) β κ v V) {cs:List AV} (hc:tS s v=some cs) :
 ∃ (b o:Nat) (cv:Nat→Value),V = .pointer (some ⟨b,o,none⟩)∧(∀ j,j<cs.length→w.cell? ⟨b,o+j,none⟩=some (cv j))∧∀ j,j<cs.length→G w (c.XX s.h β) β κ (cs.getD j .any) (cv j):=by
 cases v<;>simp only [tS,reduceCtorEq,S9] at hc;case dptr cs' =>
  subst hc;have:=hg.dptr_inv;cases this with
  | dptr _ b o cv h0 h1 h2 h3=>exact ⟨b,o,cv,rfl,h2,fun j hj=>.d (h3 j hj)⟩
 case hptr k o =>
  split at hc
  ·rename_i e cs' hk;cases hc;have ho:=r.hp.ob k;rw [hk] at ho;obtain ⟨cur,h1,h2,h3⟩:=ho;refine ⟨β k,o,fun j=>cur.getD (o+j) undef,hg.hptr_inv,fun j hj=>?_,fun j hj=>?_⟩
   ·simp at hj;exact ca h1 (by omega)
   ·simp at hj;rw [getD_drop];exact h3 (o+j) (by omega)
  ·cases hc
def xK (P:Program) (s:AS) (t:TypeId) (v:AV):Option AV :=
 match tS s v,LW P t,tN P t with
 | some cs,some true,some n=>if n≤cs.length then some (.agg (cs.take n)) else none
 | some cs,some false,some _=>if 0<cs.length then some (cs.getD 0 .any) else none
 | _,_,_=>none
theorem getD_take {α:Type} (l:List α) (n j:Nat) (d:α) (h:j<n):(l.take n).getD j d=l.getD j d:=by simp [SW,h]
theorem vu {P:Program} {c:Cx P} {s:AS} {a:Act} {w:World} {β:Nat→Nat} {κ:Nat→Nat×Nat} (r:Rel c s a w β κ) {t:TypeId} {v0 v:AV} {V0:Value} (hg:G w (c.XX s.h β) β κ v0 V0) (h:xK P s t v0=some v) :
 ∃ V,(Instr.loadAt t V0).run P w = .ok V w∧G w (c.XX s.h β) β κ v V:=by
 unfold xK at h;split at h
 ·rename_i cs n hc hag hsz;obtain ⟨b,o,cv,e,h1,h2⟩:=Dz r hg hc;split at h
  ·rename_i hn;cases h;refine ⟨_,?_,.agg (cs.take n) ((List.range n).map cv).toArray (by simp;omega) fun i hi=>?_⟩
   ·have:=run_loadCells (P:=P) w ⟨b,o,none⟩ n cv (fun j hj=>by rw [mR];exact h1 j (by omega));rw [e];simp only [Instr.loadAt,Instr.sureAddr,loadVar,pure_bind,Sem.run_bind,nu hag,run_sizeOf hsz,this,Result.andThen,if_true];rfl
   ·have hi':i<n:=by simp at hi;omega
    rw [getD_take _ _ _ _ hi'];simpa [SZ,List.getElem?_map,hi'] using h2 i (by omega)
  ·cases h
 ·rename_i cs n hc hag hsz;obtain ⟨b,o,cv,e,h1,h2⟩:=Dz r hg hc;split at h
  ·rename_i hn;cases h;refine ⟨cv 0,?_,h2 0 hn⟩;have:=h1 0 hn;simp only [Nat.add_zero] at this;rw [e];simp [Instr.loadAt,Instr.sureAddr,loadVar,nu hag,this,go_sem]
  ·cases h
 ·cases h
def C6 (P:Program) (t:TypeId) (f:Nat):Option (Nat×TypeId) :=
 match P.underlying t with
 | some (.struct fs)=>match fs[f]? with | some fd=>some (fd.offset,fd.type) | none=>none
 | _=>none
def yW (P:Program) (t:TypeId) (f:Nat) (v:AV):Option AV :=
 match C6 P t f with
 | some (off,ft)=>match tN P ft with
  | some n=>if n=0 then none else match v with
   | .dptr cs=>if off<cs.length then some (.dptr (cs.drop off)) else none
   | .hptr k o=>some (.hptr k (o+off))
   | _=>none
  | none=>none
 | none=>none
theorem zM {P:Program} {t:TypeId} {f off:Nat} {ft:TypeId} (h:C6 P t f=some (off,ft)):∃ fs fd,P.underlying t=some (.struct fs)∧fs[f]? = some fd∧fd.offset=off∧fd.type=ft:=by
 unfold C6 at h;split at h
 ·rename_i fs hu;split at h
  ·rename_i fd hf;cases h;exact ⟨fs,fd,hu,hf,rfl,rfl⟩
  ·cases h
 ·cases h
theorem AF {P:Program} {w:World} {X:Nat→Prop} {β:Nat→Nat} {κ:Nat→Nat×Nat} {t:TypeId} {f:Nat} {v v':AV} {V:Value} (hg:G w X β κ v V) (h:yW P t f v=some v') :
 ∃ V',(Instr.fieldAt t V f).run P w = .ok V' w∧G w X β κ v' V':=by
 unfold yW at h;split at h
 ·rename_i off ft hf;obtain ⟨fs,fd,hu,hfd,rfl,rfl⟩:=zM hf;split at h
  ·rename_i n hn;split at h
   ·cases h
   ·rename_i hn0;split at h
    ·rename_i cs;split at h
     ·rename_i hl;cases h;have:=hg.dptr_inv;cases this with
      | dptr _ b o cv h0 h1 h2 h3 =>
       refine ⟨.pointer (some ⟨b,o+fd.offset,none⟩),?_,.d (.dptr (cs.drop fd.offset) b (o+fd.offset) (fun j=>cv (fd.offset+j)) (by simp;omega) h1 (fun j hj=>?_) (fun j hj=>?_))⟩
       ·simp [Instr.fieldAt,bu hu,hfd,Instr.sureAddr,fieldPlace,run_sizeOf hn,hn0,mR,go_sem]
       ·simp at hj;rw [Nat.add_assoc];exact h2 _ (by omega)
       ·simp at hj;rw [getD_drop];exact h3 _ (by omega)
     ·cases h
    ·rename_i k o;cases h;refine ⟨.pointer (some ⟨β k,o+fd.offset,none⟩),?_,.hptr k (o+fd.offset)⟩;rw [hg.hptr_inv];simp [Instr.fieldAt,bu hu,hfd,Instr.sureAddr,fieldPlace,run_sizeOf hn,hn0,mR,go_sem]
    ·cases h
  ·cases h
 ·cases h
def apart (P:Program) (t:TypeId) (cs:List AV) (off:Nat):Option AV :=
 match LW P t,tN P t with
 | some true,some n=>if off+n≤cs.length then some (.agg ((cs.drop off).take n)) else none
 | some false,some _=>if off<cs.length then some (cs.getD off .any) else none
 | _,_=>none
theorem vx {P:Program} {w:World} {X:Nat→Prop} {β:Nat→Nat} {κ:Nat→Nat×Nat} {t:TypeId} {cs:List AV} {vs:Array Value} {off:Nat} {v:AV} (hl:cs.length=vs.size) (hg:∀ i,i<cs.length→G w X β κ (cs.getD i .any) (vs.getD i undef))
 (h:apart P t cs off=some v):∃ V,(part t vs off).run P w = .ok V w∧G w X β κ v V:=by
 unfold apart at h;split at h
 ·rename_i n hag hsz;split at h
  ·rename_i hn;cases h;refine ⟨.agg (vs.extract off (off+n)),?_,.agg _ _ (by simp;omega) fun i hi=>?_⟩
   ·simp [part,nu hag,run_sizeOf hsz,go_sem]
   ·have hi':i<n:=by simp at hi;omega
    rw [getD_take _ _ _ _ hi',getD_drop];have:=hg (off+i) (by omega);have e:(vs.extract off (off+n)).getD i undef=vs.getD (off+i) undef:=by simp only [SZ,Array.getElem?_extract];rw [if_pos (by omega)]
    rw [e];exact this
  ·cases h
 ·rename_i n hag hsz;split at h
  ·rename_i hn;cases h;have hn':off<vs.size:=by omega
   refine ⟨vs.getD off undef,?_,hg off hn⟩;simp [part,nu hag,Ta hn',SZ,go_sem]
  ·cases h
 ·cases h
def MQ (P:Program) (t:TypeId):Option (Nat×TypeId):=match P.underlying t with | some (.array n e)=>some (n,e) | _=>none
def KS (P:Program) (t:TypeId):Option TypeId:=match P.underlying t with | some (.slice e)=>some e | _=>none
def O2 (P:Program) (t:TypeId):Option IntKind:=match P.underlying t with | some (.int k)=>some k | _=>none
def isStr (P:Program) (t:TypeId):Bool:=match P.underlying t with | some .string=>true | _=>false
def isMap (P:Program) (t:TypeId):Bool:=match P.underlying t with | some (.map _ _)=>true | _=>false
theorem xo {P:Program} {t:TypeId} {n:Nat} {e:TypeId} (h:MQ P t=some (n,e)):P.underlying t=some (.array n e):=by
 unfold MQ at h;split at h
 ·cases h;assumption
 ·cases h
theorem eD {P:Program} {t e:TypeId} (h:KS P t=some e):P.underlying t=some (.slice e):=by
 unfold KS at h;split at h
 ·cases h;assumption
 ·cases h
theorem Gw {P:Program} {t:TypeId} {k:IntKind} (h:O2 P t=some k):P.underlying t=some (.int k):=by
 unfold O2 at h;split at h
 ·cases h;assumption
 ·cases h
theorem na {P:Program} {t:TypeId} (h:isStr P t=true):P.underlying t=some .string:=by
 unfold isStr at h;split at h
 ·assumption
 ·cases h
theorem zf {P:Program} {t:TypeId} (h:isMap P t=true):∃ k e,P.underlying t=some (.map k e):=by
 unfold isMap at h;split at h
 ·exact ⟨_,_,by assumption⟩
 ·cases h
def LX (P:Program) (s:AS) (t:TypeId) (v:AV):Option AV :=
 match v with
 | .str l=>if isStr P t then some (.int .i64 l.length) else none
 | .eslice=>match KS P t with | some _=>some (.int .i64 0) | none=>none
 | .dslice xs=>match KS P t with | some _=>some (.int .i64 xs.length) | none=>none
 | .rslice k=>match KS P t with | some _=>(match lk .gone s.h k with | .row _ _ xs=>some (.int .i64 xs.length) | _=>none) | none=>none
 | .amap k=>if isMap P t then (match lk .gone s.h k with | .smap _ _ es=>some (.int .i64 es.length) | _=>none) else none
 | _=>match MQ P t with | some (n,_)=>some (.int .i64 n) | none=>none
def UL (n:Nat) (xs:List (List AV)):Prop:=∀ x∈xs,x.length=n
theorem UL.getD {n:Nat} {xs:List (List AV)} (h:UL n xs) {i:Nat} (hi:i<xs.length):(xs.getD i []).length=n:=by rw [SW,SX hi];exact h _ (List.getElem_mem hi)
theorem UL.map {α:Type} {n:Nat} {f:α→List AV} (h:∀ x,(f x).length=n) (l:List α):UL n (l.map f):=by intro x hx;obtain ⟨y,_,rfl⟩:=List.mem_map.1 hx;exact h y
def xp (s:AS) (d:Int):Option Operand→Option Int
 | none=>some d
 | some x=>match s.op x with | .int _ n=>some n | _=>none
def AM (P:Program) (s:AS) (t:TypeId) (v:AV) (lo hi:Option Operand):Option (Prop×AV) :=
 match v with
 | .str l=>if isStr P t then (match xp s 0 lo,xp s l.length hi with
  | some a,some b=>some (0≤a∧a≤b∧b≤l.length,.str ((l.drop a.toNat).take (b.toNat-a.toNat)))
  | _,_=>none) else none
 | .dslice xs=>match KS P t with
  | some e=>(match tN P e,xp s 0 lo,xp s xs.length hi with
   | some n,some a,some b=>if n=0 then none else some ((0≤a∧a≤b∧b≤xs.length)∧UL n xs,.dslice ((xs.drop a.toNat).take (b.toNat-a.toNat)))
   | _,_,_=>none)
  | none=>none
 | _=>none
def tQ (P:Program) (s:AS) (t:TypeId) (v:AV) (lo hi:Option Operand) (m:Operand):Option (Prop×AV) :=
 match v,lo,hi with
 | .dslice xs,none,some h=>match KS P t,s.op h,s.op m with
  | some e,.int _ x,.int _ y=>(match tN P e with | some _=>some (x=xs.length∧y=xs.length,.cslice xs) | none=>none)
  | _,_,_=>none
 | .dslice xs,some l,some h=>match KS P t,s.op l,s.op h,s.op m with
  | some e,.int _ x,.int _ y,.int _ z=>(match tN P e with | some n=>if n=0 then none else some ((0≤x∧x≤y∧y≤xs.length∧z=y)∧UL n xs,.dslice ((xs.drop x.toNat).take (y.toNat-x.toNat))) | none=>none)
  | _,_,_,_=>none
 | _,_,_=>none
def AH (P:Program) (s:AS) (t:TypeId) (v:AV) (i:Operand):Option (Prop×AV) :=
 match v,s.op i with
 | .str l,.int _ n=>if isStr P t then some (0≤n∧n<l.length,.int .u8 ((l.getD n.toNat 0).toNat)) else none
 | .agg cs,.int _ n=>match MQ P t with
  | some (len,e)=>(match n with
   | .ofNat m=>(match tN P e with | some sz=>if m<len then (match apart P e cs (m*sz) with | some v=>some (True,v) | none=>none) else none | none=>none)
   | _=>none)
  | none=>none
 | _,_=>none
def mS (P:Program) (s:AS) (t:TypeId) (v:AV) (i:Operand):Option (Prop×AV) :=
 match s.op i with
 | .int _ n=>(match v with
  | .dslice xs=>(match KS P t with
   | some e=>(match tN P e with
    | some sz=>some ((0≤n∧n<xs.length)∧((xs.getD n.toNat []).length=sz∧0<sz),.dptr (xs.getD n.toNat []))
    | none=>none)
   | none=>none)
  | .rslice k=>(match KS P t with
   | some e=>(match tN P e,lk .gone s.h k with
    | some sz,.row _ _ xs=>some (0≤n∧n<xs.length,.hptr k (n.toNat*sz))
    | some 1,.rrow _ _ _ es=>some (0≤n∧n<es.length,.hptr k n.toNat)
    | _,_=>none)
   | none=>none)
  | .hptr k o=>(match MQ P t with
   | some (len,e)=>(match n with
    | .ofNat m=>(match tN P e with | some sz=>if m<len then some (True,.hptr k (o+m*sz)) else none | none=>none)
    | _=>none)
   | none=>none)
  | _=>none)
 | _=>none
def j5 (P:Program) (s:AS):Op→Option (Prop×AV)
 | .move x=>some (True,s.op x)
 | .assign x=>some (True,s.op x)
 | .pick c a b=>match s.op c with | .bool true=>some (True,s.op a) | .bool false=>some (True,s.op b) | _=>none
 | .load t x=>match xK P s t (s.op x) with | some v=>some (True,v) | none=>none
 | .fieldAddr t x f=>match yW P t f (s.op x) with | some v=>some (True,v) | none=>none
 | .field t x f=>match s.op x,C6 P t f with
  | .agg cs,some (off,ft)=>match apart P ft cs off with | some v=>some (True,v) | none=>none
  | _,_=>none
 | .extract x i=>match s.op x with | .tup vs=>if i<vs.length then some (True,vs.getD i .any) else none | _=>none
 | .unOp op _ x=>match op,s.op x with
  | .not,.bool b=>some (True,.bool (!b))
  | .neg,.int k n=>match k with | .i64=>some (rL (0-n),.int .i64 (0-n)) | _=>none
  | _,_=>none
 | .binOp op t x y _=>Vp P s op t x y
 | .nilCheck x=>match s.op x with | .hptr k o=>some (True,.hptr k o) | .dptr cs=>some (True,.dptr cs) | _=>none
 | .makeFunc (.func f) first caps=>if first.size=0 then some (True,.fn f (caps.toList.map s.op)) else match first.toList,caps.toList with
  | [x],[]=>match s.op x with | .hptr k o=>some (True,.bm f k o) | _=>none
  | _,_=>none
 | .slice t x lo hi none=>AM P s t (s.op x) lo hi
 | .slice t x lo hi (some m)=>tQ P s t (s.op x) lo hi m
 | .index t x i=>AH P s t (s.op x) i
 | .indexAddr t x i=>mS P s t (s.op x) i
 | .convert u t x=>match O2 P t,s.op x with
  | some k,.int _ n=>match P.underlying u with | some (.int _)=>some (True,.int k (k.wrap n)) | _=>none
  | _,.str l=>if isStr P t&&isStr P u then some (True,.str l) else none
  | _,_=>none
 | .call c=>match c.callee,c.args.toList,c.argTypes.toList with
  | .builtin .len,[x],[t]=>match LX P s t (s.op x) with | some v=>some (True,v) | none=>none
  | .builtin .max,[x,y],_=>match s.op x,s.op y with | .int k a,.int _ b=>some (True,.int k (if b>a then b else a)) | _,_=>none
  | .builtin .min,[x,y],_=>match s.op x,s.op y with | .int k a,.int _ b=>some (True,.int k (if b<a then b else a)) | _,_=>none
  | _,_,_=>none
 | _=>none
section
variable {P:Program} {c:Cx P} {s:AS} {a:Act} {w:World} {β:Nat→Nat} {κ:Nat→Nat×Nat}
theorem KI {m:Nat} {es:Array MapEntry} {k:Nat} (h:w.heap[m]? = some (.map es k)):(getObj m).run P w = .ok (.map es k) w:=by simp [getObj,Sem.run,h]
theorem JR (r:Rel c s a w β κ) {t:TypeId} {v v':AV} {V:Value} (hg:G w (c.XX s.h β) β κ v V) (h:LX P s t v=some v') {ty:TypeId} :
 ∃ V',(Builtin.len_ #[t] ty #[V]).run P w = .ok V' w∧G w (c.XX s.h β) β κ v' V':=by
 unfold LX at h;split at h
 ·split at h
  ·cases h;refine ⟨_,?_,.d (.int _ _)⟩;rw [hg.str_inv];simp [Builtin.len_,bu (na (by assumption)),goInt,size_mk,go_sem]
  ·cases h
 ·split at h
  ·cases h;obtain ⟨ad,e⟩:=hg.eslice_inv;refine ⟨_,?_,.d (.int _ _)⟩;rw [e];simp [Builtin.len_,bu (eD (by assumption)),goInt,go_sem]
  ·cases h
 ·split at h
  ·cases h;obtain ⟨_,ad,cap,e,_⟩:=hg.dslice_inv;refine ⟨_,?_,.d (.int _ _)⟩;rw [e];simp [Builtin.len_,bu (eD (by assumption)),goInt,go_sem]
  ·cases h
 ·rename_i k;split at h
  ·rename_i e0 hu;split at h
   ·rename_i e1 sz xs hk;cases h;refine ⟨_,?_,.d (.int _ _)⟩;obtain ⟨ad,cap,e⟩:=hg.rslice_len;have ho:=r.hp.ob k;rw [hk] at ho;rw [e,ho.1];simp [Builtin.len_,bu (eD hu),goInt,go_sem]
   ·cases h
  ·cases h
 ·rename_i k;split at h
  ·obtain ⟨K,E,hu⟩:=zf (by assumption);split at h
   ·rename_i es hk;cases h;have ho:=r.hp.ob k;rw [hk] at ho;obtain ⟨ents,clock,h1,h2,_⟩:=ho;refine ⟨_,?_,.d (.int _ _)⟩;rw [hg.amap_inv];simp [Builtin.len_,bu hu,goInt,KI h1,h2,go_sem]
   ·cases h
  ·cases h
 ·split at h
  ·cases h;refine ⟨_,?_,.d (.int _ _)⟩;simp [Builtin.len_,bu (xo (by assumption)),goInt,go_sem]
  ·cases h
theorem E9 (l:List UInt8) (i j:Nat):(⟨l.toArray⟩:ByteArray).extract i j=⟨((l.drop i).take (j-i)).toArray⟩:=by apply ByteArray.ext;simp [ByteArray.data_extract,List.extract_toArray]
theorem FT (r:Rel c s a w β κ) {d n:Int} {x:Option Operand} (h:xp s d x=some n):(x=none∧n=d)∨∃ y k,x=some y∧a.eval y = .int k n:=by
 cases x with
 | none=>simp [xp] at h;exact .inl ⟨rfl,h.symm⟩
 | some y =>
  simp only [xp] at h;split at h
  ·rename_i k m e;cases h;have:=r.op y;rw [e] at this;exact .inr ⟨y,k,rfl,this.int_inv⟩
  ·cases h
theorem jK {k:IntKind} {n:Int} {m:Nat} {code:BoundsCode} (h0:0≤n) (h1:n≤m):(Instr.sliceBound (.int k n) m code).run P w = .ok n.toNat w:=by simp [Instr.sliceBound,asIntOf,h0,h1,go_sem]
theorem EO (r:Rel c s a w β κ) {isS:Bool} {len cap:Nat} {lo hi:Option Operand} {x y:Int} (h1:xp s 0 lo=some x) (h2:xp s len hi=some y) (hx:0≤x) (hxy:x≤y) (hy:y≤len) (hlc:len≤cap) :
 (Instr.sliceBounds isS len cap (lo.map a.eval) (hi.map a.eval) none).run P w = .ok (x.toNat,y.toNat,cap) w:=by
 have e2:hi=none∧y=len∨∃ z k,hi=some z∧a.eval z = .int k y:=FT r h2;have e1:=FT r h1;rcases e1 with ⟨rfl,rfl⟩ | ⟨z1,k1,rfl,e1⟩<;>rcases e2 with ⟨rfl,rfl⟩ | ⟨z2,k2,rfl,e2⟩
 ·simp [Instr.sliceBounds,go_sem]
 ·have b2:=jK (P:=P) (w:=w) (k:=k2) (n:=y) (m:=cap) (code:=if isS then .sliceAcap else .sliceAlen) (by omega) (by omega);simp only [Instr.sliceBounds,Option.map_some,Option.map_none,e2,pure_bind,Sem.run_bind,b2,Result.andThen];rfl
 ·have b1:=jK (P:=P) (w:=w) (k:=k1) (n:=x) (m:=len) (code:=if false=true then BoundsCode.slice3C else BoundsCode.sliceB) (by omega) (by omega);simp only [Instr.sliceBounds,Option.map_some,Option.map_none,e1,pure_bind,Sem.run_bind,b1,Result.andThen,Option.isSome];rfl
 ·have b2:=jK (P:=P) (w:=w) (k:=k2) (n:=y) (m:=cap) (code:=if isS then .sliceAcap else .sliceAlen) (by omega) (by omega);have b1:=jK (P:=P) (w:=w) (k:=k1) (n:=x) (m:=y.toNat) (code:=if false=true then BoundsCode.slice3C else BoundsCode.sliceB) (by omega) (by omega);simp only [Instr.sliceBounds,Option.map_some,Option.map_none,e1,e2,pure_bind,Sem.run_bind,b1,b2,Result.andThen,Option.isSome];rfl
theorem FK (r:Rel c s a w β κ) {t:TypeId} {l:List UInt8} {lo hi:Option Operand} {x y:Int} (hu:P.underlying t=some .string) (h1:xp s 0 lo=some x) (h2:xp s l.length hi=some y) (hx:0≤x) (hxy:x≤y) (hy:y≤l.length) :
 (Instr.sliceAt t (.string ⟨l.toArray⟩) (lo.map a.eval) (hi.map a.eval) none).run P w = .ok (.string ⟨((l.drop x.toNat).take (y.toNat-x.toNat)).toArray⟩) w:=by
 have hb:=EO (P:=P) (w:=w) r (isS:=false) (cap:=l.length) h1 h2 hx hxy hy (Nat.le_refl _);simp only [Instr.sliceAt,Instr.slice,Sem.run_bind,bu hu,Result.andThen,size_mk,Option.isSome,Bool.false_eq_true,if_false,hb];simp [E9,go_sem]
theorem Vl (r:Rel c s a w β κ) {t e:TypeId} {n:Nat} {ad:Option Addr} {len cap:Nat} {lo hi:Option Operand} {x y:Int} (hu:P.underlying t=some (.slice e)) (hn:tN P e=some n) (h1:xp s 0 lo=some x) (h2:xp s len hi=some y) (hx:0≤x) (hxy:x≤y) (hy:y≤len) (hc:len≤cap) :
 (Instr.sliceAt t (.slice ad len cap) (lo.map a.eval) (hi.map a.eval) none).run P w = .ok (.slice (if cap=x.toNat then ad else ad.map (·.add (x.toNat*n))) (y.toNat-x.toNat) (cap-x.toNat)) w:=by
 have hb:=EO (P:=P) (w:=w) r (isS:=true) (cap:=cap) h1 h2 hx hxy hy hc;simp only [Instr.sliceAt,Instr.slice,Sem.run_bind,bu hu,Result.andThen,run_sizeOf hn,hb];rfl
theorem GO (r:Rel c s a w β κ) {t:TypeId} {v v':AV} {V:Value} (hg:G w (c.XX s.h β) β κ v V) {lo hi:Option Operand} {p:Prop} (h:AM P s t v lo hi=some (p,v')) (hp:p) :
 ∃ V',(Instr.sliceAt t V (lo.map a.eval) (hi.map a.eval) none).run P w = .ok V' w∧G w (c.XX s.h β) β κ v' V':=by
 unfold AM at h;split at h
 ·split at h
  ·split at h
   ·rename_i hS _ _ x y h1 h2;cases h;rw [hg.str_inv];exact ⟨_,FK r (na hS) h1 h2 hp.1 hp.2.1 hp.2.2,.d (.str _ (Nat.le_trans (by simp;omega) hg.str_len))⟩
   ·cases h
  ·cases h
 ·rename_i xs;split at h
  ·rename_i e he;split at h
   ·rename_i n x y hn h1 h2;split at h
    ·cases h
    ·rename_i hn0;cases h;obtain ⟨⟨hx,hxy,hy⟩,hul⟩:=hp;obtain ⟨hd,ad,cap,eV,hc1,hc2⟩:=hg.dslice_inv;refine ⟨_,by rw [eV];exact Vl r (eD he) hn h1 h2 hx hxy hy hc1,?_⟩;have hlen:((xs.drop x.toNat).take (y.toNat-x.toNat)).length=y.toNat-x.toNat:=by simp;omega
     by_cases hz:y.toNat-x.toNat=0
     ·have:(xs.drop x.toNat).take (y.toNat-x.toNat)=[]:=by rw [hz];rfl
      rw [this,hz];exact .d (.dnil _ _ (by omega))
     ·cases hd with
      | dnil=>cases eV;simp at hy;omega
      | dslice _ b o cap' sz cv k1 k2 k0 k3 k4 k5 k6 =>
       cases eV;have hsz:sz=n:=by rw [← k4 0 (by omega)];exact hul.getD (by omega)
       subst hsz;rw [if_neg (by omega)];have:=D.dslice (w:=w) (X:=c.XX s.h β) ((xs.drop x.toNat).take (y.toNat-x.toNat)) b (o+x.toNat*sz) (cap-x.toNat) sz (fun i j=>cv (x.toNat+i) j) (by omega) (by omega) k0 k3
        (fun i hi=>by rw [getD_take _ _ _ _ (by omega),getD_drop];exact k4 _ (by omega))
        (fun i j hi hj=>by have:=k5 (x.toNat+i) j (by omega) hj;rw [Nat.add_mul] at this;rw [show o+x.toNat*sz+(i*sz+j)=o+(x.toNat*sz+i*sz+j) by omega];exact this)
        (fun i j hi hj=>by rw [getD_take _ _ _ _ (by omega),getD_drop];exact k6 _ j (by omega) hj)
       rw [hlen] at this;simpa [mR] using G.d this
   ·cases h
  ·cases h
 ·cases h
theorem E4 (r:Rel c s a w β κ) {t:TypeId} {v v':AV} {V:Value} (hg:G w (c.XX s.h β) β κ v V) {lo hi:Option Operand} {m:Operand} {p:Prop} (h:tQ P s t v lo hi m=some (p,v')) (hp:p) :
 ∃ V',(Instr.sliceAt t V (lo.map a.eval) (hi.map a.eval) (some (a.eval m))).run P w = .ok V' w∧G w (c.XX s.h β) β κ v' V':=by
 unfold tQ at h;split at h
 ·rename_i xs z;split at h
  ·rename_i e k1 x k2 y he e1 e2;split at h
   ·rename_i n hn;cases h;obtain ⟨rfl,rfl⟩:=hp;obtain ⟨hd,ad,cap,eV,hc1,hc2⟩:=hg.dslice_inv;have h1:=r.op z;rw [e1] at h1;have h2:=r.op m;rw [e2] at h2;have b1:=jK (P:=P) (w:=w) (k:=k2) (n:=(xs.length:Int)) (m:=cap) (code:=.slice3Acap) (by omega) (by omega);have b2:=jK (P:=P) (w:=w) (k:=k1) (n:=(xs.length:Int)) (m:=xs.length) (code:=.slice3B) (by omega) (by omega);refine ⟨.slice (if xs.length=0 then ad else ad.map (·.add (0*n))) xs.length xs.length,?_,.d (.cslice _ _ ?_ ⟨_,rfl⟩)⟩
    ·simp only [Option.map_some,Option.map_none,eV,h1.int_inv,h2.int_inv];simp only [Instr.sliceAt,Instr.slice,Instr.sliceBounds,pure_bind,Sem.run_bind,bu (eD he),Result.andThen,if_true,b1,b2,Int.toNat_natCast,run_sizeOf hn,Sem.run_pure,Nat.sub_zero]
    ·by_cases hx:xs.length=0
     ·have:xs=[]:=List.eq_nil_of_length_eq_zero hx;subst this;exact .dnil _ _ (Nat.zero_le _)
     ·rw [if_neg hx];cases hd with
      | dnil=>exact absurd rfl hx
      | dslice _ b o cap' sz cv k1 k2 k0 k3 k4 k5 k6 =>
       cases eV;simp only [Option.map_some,Nat.zero_mul,mR,Nat.add_zero];exact .dslice xs b o xs.length sz cv (Nat.le_refl _) (Nat.le_trans k1 k2) k0 k3 k4 k5 k6
   ·cases h
  ·cases h
 ·rename_i xs zl zh;split at h
  ·rename_i e k0 x k1 y k2 z he e0 e1 e2;split at h
   ·rename_i n hn;split at h
    ·cases h
    ·rename_i hn0;cases h;obtain ⟨⟨hx,hxy,hy,rfl⟩,hul⟩:=hp;obtain ⟨hd,ad,cap,eV,hc1,hc2⟩:=hg.dslice_inv;have h0:=r.op zl;rw [e0] at h0;have h1:=r.op zh;rw [e1] at h1;have h2:=r.op m;rw [e2] at h2;have b1:=jK (P:=P) (w:=w) (k:=k2) (n:=z) (m:=cap) (code:=.slice3Acap) (by omega) (by omega);have b2:=jK (P:=P) (w:=w) (k:=k1) (n:=z) (m:=z.toNat) (code:=.slice3B) (by omega) (by omega);have b3:=jK (P:=P) (w:=w) (k:=k0) (n:=x) (m:=z.toNat) (code:=.slice3C) (by omega) (by omega);refine ⟨.slice (if z.toNat=x.toNat then ad else ad.map (·.add (x.toNat*n))) (z.toNat-x.toNat) (z.toNat-x.toNat),?_,?_⟩
     ·simp only [Option.map_some,eV,h0.int_inv,h1.int_inv,h2.int_inv];simp only [Instr.sliceAt,Instr.slice,Instr.sliceBounds,pure_bind,Sem.run_bind,bu (eD he),Result.andThen,if_true,b1,b2,b3,run_sizeOf hn,Sem.run_pure,Option.isSome]
     ·have hlen:((xs.drop x.toNat).take (z.toNat-x.toNat)).length=z.toNat-x.toNat:=by simp;omega
      by_cases hz:z.toNat-x.toNat=0
      ·have:(xs.drop x.toNat).take (z.toNat-x.toNat)=[]:=by rw [hz];rfl
       rw [this,hz];exact .d (.dnil _ _ (by omega))
      ·cases hd with
       | dnil=>cases eV;simp at hy;omega
       | dslice _ b o cap' sz cv k1 k2 k0 k3 k4 k5 k6 =>
        cases eV;have hsz:sz=n:=by rw [← k4 0 (by omega)];exact hul.getD (by omega)
        subst hsz;rw [if_neg (by omega)];have:=D.dslice (w:=w) (X:=c.XX s.h β) ((xs.drop x.toNat).take (z.toNat-x.toNat)) b (o+x.toNat*sz) (z.toNat-x.toNat) sz (fun i j=>cv (x.toNat+i) j) (by omega) (by omega) k0 k3
         (fun i hi=>by rw [getD_take _ _ _ _ (by omega),getD_drop];exact k4 _ (by omega))
         (fun i j hi hj=>by have:=k5 (x.toNat+i) j (by omega) hj;rw [Nat.add_mul] at this;rw [show o+x.toNat*sz+(i*sz+j)=o+(x.toNat*sz+i*sz+j) by omega];exact this)
         (fun i j hi hj=>by rw [getD_take _ _ _ _ (by omega),getD_drop];exact k6 _ j (by omega) hj)
        rw [hlen] at this;simpa [mR] using G.d this
   ·cases h
  ·cases h
 ·cases h
theorem GG (r:Rel c s a w β κ) {t:TypeId} {v v':AV} {V:Value} (hg:G w (c.XX s.h β) β κ v V) {i:Operand} {p:Prop} (h:AH P s t v i=some (p,v')) (hp:p) :
 ∃ V',(Instr.index t V (a.eval i)).run P w = .ok V' w∧G w (c.XX s.h β) β κ v' V':=by
 have hi:=r.op i;unfold AH at h;split at h
 ·rename_i l k n e;rw [e] at hi;split at h
  ·rename_i hS;cases h;rw [hi.int_inv,hg.str_inv];refine ⟨_,?_,.d (.int _ _)⟩;have hb:n.toNat<l.length:=by omega
   have:(⟨l.toArray⟩:ByteArray)[n.toNat]? = some (l.getD n.toNat 0):=by rw [getElem?_pos _ _ (by rw [size_mk];exact hb)];simp [SW,SX hb];rfl
   simp [Instr.index,asIntOf,bu (na hS),hp.1,this,go_sem]
  ·cases h
 ·rename_i cs k n e;rw [e] at hi;split at h
  ·rename_i len et hA;split at h
   ·rename_i m;split at h
    ·rename_i sz hsz;split at h
     ·rename_i hm;split at h
      ·rename_i v2 hv2;cases h;obtain ⟨vs,eV,hl,hgs⟩:=hg.agg_inv;obtain ⟨V',hr,hg'⟩:=vx hl hgs hv2 (P:=P);refine ⟨V',?_,hg'⟩;rw [hi.int_inv,eV];have h0:(0:Int)≤Int.ofNat m∧Int.ofNat m<(len:Int):=⟨by simp,by simpa using hm⟩;simp only [Instr.index,asIntOf,pure_bind,Sem.run_bind,bu (xo hA),Result.andThen,if_pos h0,run_sizeOf hsz];exact hr
      ·cases h
     ·cases h
    ·cases h
   ·cases h
  ·cases h
 ·cases h
theorem AK (r:Rel c s a w β κ) {t:TypeId} {v v':AV} {V:Value} (hg:G w (c.XX s.h β) β κ v V) {i:Operand} {p:Prop} (h:mS P s t v i=some (p,v')) (hp:p) :
 ∃ V',(Instr.indexAt t V (a.eval i)).run P w = .ok V' w∧G w (c.XX s.h β) β κ v' V':=by
 have hi:=r.op i;unfold mS at h;split at h
 ·rename_i k n e;rw [e] at hi;split at h
  ·rename_i xs;split at h
   ·rename_i et hS;split at h
    ·rename_i sz hsz;cases h;obtain ⟨⟨h0,h1⟩,h2,h3⟩:=hp;have hb:n.toNat<xs.length:=by omega
     obtain ⟨hd,ad,cap,eV,hc1,hc2⟩:=hg.dslice_inv;cases hd with
     | dnil=>simp at hb
     | dslice _ b o cap' sz' cv k1 k2 k0 k3 k4 k5 k6 =>
      have hsz':sz'=sz:=by rw [← k4 _ hb];exact h2
      subst hsz';refine ⟨.pointer (some ⟨b,o+n.toNat*sz',none⟩),?_,.d (.dptr _ b (o+n.toNat*sz') (fun j=>cv n.toNat j) (by omega) k3 (fun j hj=>?_) (fun j hj=>k6 _ j hb (by omega)))⟩
      ·rw [hi.int_inv];simp [Instr.indexAt,asIntOf,bu (eD hS),h0,h1,run_sizeOf hsz,mR,go_sem]
      ·have:=k5 n.toNat j hb (by omega)
       rwa [← Nat.add_assoc] at this
    ·cases h
   ·cases h
  ·rename_i kk;split at h
   ·rename_i et hS;split at h
    ·rename_i sz _ _ xs hsz hk;cases h;refine ⟨.pointer (some ⟨β kk,n.toNat*sz,none⟩),?_,.hptr _ _⟩;have ho:=r.hp.ob kk;rw [hk] at ho;rcases hg.rslice_inv with ⟨_,e⟩ | ⟨e0,_,_⟩;case inr=>rw [ho.1] at e0;omega
     rw [hi.int_inv,e,ho.1];simp [Instr.indexAt,asIntOf,bu (eD hS),hp.1,hp.2,run_sizeOf hsz,mR,go_sem]
    ·rename_i _ _ _ es hsz hk;cases h;refine ⟨.pointer (some ⟨β kk,n.toNat,none⟩),?_,.hptr _ _⟩;have ho:=r.hp.ob kk;rw [hk] at ho;rcases hg.rslice_inv with ⟨_,e⟩ | ⟨e0,_,_⟩;case inr=>rw [ho.1] at e0;omega
     rw [hi.int_inv,e,ho.1];simp [Instr.indexAt,asIntOf,bu (eD hS),hp.1,hp.2,run_sizeOf hsz,mR,go_sem]
    ·cases h
   ·cases h
  ·rename_i kk o;split at h
   ·rename_i len et hA;split at h
    ·rename_i m;split at h
     ·rename_i sz hsz;split at h
      ·rename_i hm;cases h;refine ⟨.pointer (some ⟨β kk,o+m*sz,none⟩),?_,.hptr _ _⟩;rw [hi.int_inv,hg.hptr_inv];have h0:(0:Int)≤Int.ofNat m∧Int.ofNat m<(len:Int):=⟨by simp,by simpa using hm⟩;have h0':(0:Int)≤(m:Int)∧(m:Int)<(len:Int):=h0;simp [Instr.indexAt,asIntOf,bu (xo hA),Instr.sureAddr,hm,run_sizeOf hsz,mR,go_sem]
      ·cases h
     ·cases h
    ·cases h
   ·cases h
  ·cases h
 ·cases h
end
variable {P:Program} {c:Cx P} {s:AS} {a:Act} {w:World} {β:Nat→Nat} {κ:Nat→Nat×Nat}
def KU (P:Program) (c:Cx P) (s:AS) (a:Act) (w:World) (β:Nat→Nat) (κ:Nat→Nat×Nat) (o:Oper) (v:AV):Prop :=∃ V,(execOp a.eval o).run P w = .ok (.value V) w∧G w (c.XX s.h β) β κ v V
theorem eB {o:Oper} {v:AV} {m:Sem Value} (he:execOp a.eval o=(do pure (.value (← m)))) (h:∃ V,m.run P w = .ok V w∧G w (c.XX s.h β) β κ v V):KU P c s a w β κ o v:=by obtain ⟨V,h1,h2⟩:=h;refine ⟨V,?_,h2⟩;rw [he];simp [h1,Result.andThen]
theorem G.dptr_ptr {w:World} {X:Nat→Prop} {β:Nat→Nat} {κ:Nat→Nat×Nat} {V:Value} {cs:List AV} (h:G w X β κ (.dptr cs) V):∃ b o,V = .pointer (some ⟨b,o,none⟩):=by cases h with | d h=>cases h;exact ⟨_,_,rfl⟩
theorem JY (r:Rel c s a w β κ) {op:Op} {p:Prop} {v:AV} (h:j5 P s op=some (p,v)) (hp:p) (dst:Option Tmp) (ty:TypeId) (pos:String) (af:Array Edge) (g:Option (Nat×Bool)) :
 KU P c s a w β κ ⟨dst,op,ty,pos,af,g⟩ v:=by
 unfold j5 at h;split at h
 ·cases h;exact ⟨_,rfl,r.op _⟩
 ·cases h;exact ⟨_,rfl,r.op _⟩
 ·rename_i x y z;have hx:=r.op x;split at h
  ·rename_i e;rw [e] at hx;cases h;refine ⟨_,?_,r.op y⟩;simp only [execOp,hx.bool_inv,asBool,pure_bind];rfl
  ·rename_i e;rw [e] at hx;cases h;refine ⟨_,?_,r.op z⟩;simp only [execOp,hx.bool_inv,asBool,pure_bind];rfl
  ·cases h
 ·rename_i t x;split at h
  ·rename_i v' hv;cases h;exact eB rfl (vu r (r.op x) hv)
  ·cases h
 ·rename_i t x f;split at h
  ·rename_i v' hv;cases h;exact eB rfl (AF (r.op x) hv)
  ·cases h
 ·rename_i t x f;have hx:=r.op x;split at h
  ·rename_i cs off ft e hf;rw [e] at hx;split at h
   ·rename_i v' hv;cases h;obtain ⟨fs,fd,hu,hfd,rfl,rfl⟩:=zM hf;obtain ⟨vs,eV,hl,hgs⟩:=hx.agg_inv;obtain ⟨V',hr,hg'⟩:=vx hl hgs hv (P:=P);refine eB rfl ⟨V',?_,hg'⟩;simp only [Instr.field,Sem.run_bind,bu hu,Result.andThen,hfd,eV,asAgg,pure_bind];exact hr
   ·cases h
  ·cases h
 ·rename_i x i;have hx:=r.op x;split at h
  ·rename_i vs e;rw [e] at hx;split at h
   ·rename_i hi;cases h;obtain ⟨Vs,eV,hl,hgs⟩:=hx.tup_inv;refine eB rfl ⟨Vs.getD i undef,?_,hgs i hi⟩;have hi':i<Vs.size:=by omega
    rw [eV];simp [Instr.extract,Ta hi',SZ,go_sem]
   ·cases h
  ·cases h
 ·rename_i op _ x;have hx:=r.op x;split at h
  ·rename_i b e;rw [e] at hx;cases h;exact eB rfl ⟨_,by rw [hx.bool_inv];rfl,.d (.bool _)⟩
  ·rename_i k n e;split at h
   ·rw [e] at hx;cases h;refine eB rfl ⟨_,?_,.d (.int _ _)⟩;rw [hx.int_inv];simp only [Op.unary,Op.intArith];rw [wrap64 hp];rfl
   ·cases h
  ·cases h
 ·rename_i op t x y u;exact JN r h hp _ _ _ _ _
 ·rename_i x;have hx:=r.op x;split at h
  ·rename_i k o e;rw [e] at hx;cases h;refine ⟨_,?_,hx⟩;simp only [execOp,hx.hptr_inv];rfl
  ·rename_i cs e;rw [e] at hx;cases h;refine ⟨_,?_,hx⟩;obtain ⟨b,o,e2⟩:=hx.dptr_ptr;simp only [execOp,e2];rfl
  ·cases h
 ·rename_i f first caps
  split at h
  ·rename_i hf;cases h;refine eB rfl ⟨.func (.func f) #[] (caps.map a.eval),?_,.fn f _ _ (by simp) fun i hi=>?_⟩
   ·have:first = #[]:=Array.size_eq_zero_iff.1 hf
    subst this;simp [Instr.makeFunc,go_sem]
   ·have hi':i<caps.size:=by simpa using hi
    have:=r.op (caps[i]);simpa [SW,SZ,List.getElem?_map,Ta hi'] using this
  ·split at h
   ·rename_i x e1 e2;split at h
    ·rename_i k o e3;cases h;have hx:=r.op x;rw [e3] at hx;have e4:first = #[x]:=by rw [← Array.toList_inj];exact e1
     have e5:caps = #[]:=by rw [← Array.toList_inj];exact e2
     subst e4;subst e5;refine eB rfl ⟨.func (.func f) #[.pointer (some ⟨β k,o,none⟩)] #[],?_,.bm f k o⟩;have hx2:=hx.hptr_inv;simp only [List.map_toArray,List.map_cons,List.map_nil,hx2];rfl
    ·cases h
   ·cases h
 ·rename_i t x lo hi;exact eB rfl (GO r (r.op x) h hp)
 ·rename_i t x lo hi m;exact eB rfl (E4 r (r.op x) h hp)
 ·rename_i t x i;exact eB rfl (GG r (r.op x) h hp)
 ·rename_i t x i;exact eB rfl (AK r (r.op x) h hp)
 ·rename_i u t x;have hx:=r.op x;split at h
  ·rename_i k k' n hk e;rw [e] at hx;split at h
   ·rename_i k2 hu;cases h;refine eB rfl ⟨_,?_,.d (.int _ _)⟩;rw [hx.int_inv];simp only [convert,Sem.run_bind,bu hu,bu (Gw hk),Result.andThen];rfl
   ·cases h
  ·rename_i l e;rw [e] at hx;split at h
   ·rename_i hb;cases h;simp only [SY] at hb;refine eB rfl ⟨_,?_,.d (.str _ hx.str_len)⟩;rw [hx.str_inv];simp only [convert,Sem.run_bind,bu (na hb.1),bu (na hb.2),Result.andThen];rfl
   ·cases h
  ·cases h
 ·rename_i cl;obtain ⟨callee,args,argTypes⟩:=cl;simp only at h;split at h
  ·rename_i x t h1 h2;split at h
   ·rename_i v' hv;cases h;obtain ⟨V',hr,hg⟩:=JR r (r.op x) hv (ty:=ty);refine ⟨V',?_,hg⟩;have e1:args = #[x]:=by rw [← Array.toArray_toList (xs:=args),h1]
    have e2:argTypes = #[t]:=by rw [← Array.toArray_toList (xs:=argTypes),h2]
    subst e1;subst e2;simp only [execOp,resolve,pure_bind,invoke,builtin,List.map_toArray,List.map_cons,List.map_nil,Sem.run_bind,hr,Result.andThen];rfl
   ·cases h
  ·rename_i x y h1;split at h
   ·rename_i k m k' n ex ey;cases h;have hx:=r.op x;have hy:=r.op y;rw [ex] at hx;rw [ey] at hy;have e1:args = #[x,y]:=by rw [← Array.toArray_toList (xs:=args),h1]
    subst e1;refine ⟨_,?_,.d (.int _ _)⟩;simp only [execOp,resolve,pure_bind,invoke,builtin,List.map_toArray,List.map_cons,List.map_nil,hx.int_inv,hy.int_inv];rfl
   ·cases h
  ·rename_i x y h1;split at h
   ·rename_i k m k' n ex ey;cases h;have hx:=r.op x;have hy:=r.op y;rw [ex] at hx;rw [ey] at hy;have e1:args = #[x,y]:=by rw [← Array.toArray_toList (xs:=args),h1]
    subst e1;refine ⟨_,?_,.d (.int _ _)⟩;simp only [execOp,resolve,pure_bind,invoke,builtin,List.map_toArray,List.map_cons,List.map_nil,hx.int_inv,hy.int_inv];rfl
   ·cases h
  ·cases h
 ·cases h
end Go.Ab
namespace Go.Ab
open Go.RowKit
def lift {P:Program} (c:Cx P) (Q:Exit→AS→Prop):Exit→Act→World→Prop:=fun e a w=>∃ s β κ,Q e s∧Rel c s a w β κ
def eA (P:Program) (cd:Code) (Q:Exit→AS→Prop) (s:AS):Prop:=∀ (c:Cx P) a w β κ,Rel c s a w β κ→cd.wp P (lift c Q) a w
def jD (P:Program) (ops:Array Oper) (rest:List Oper) (Q:Exit→AS→Prop) (s:AS):Prop:=∀ (c:Cx P) a w β κ,Rel c s a w β κ→wpList P ops (lift c Q) rest a w
def nL (P:Program) (ops:Array Oper) (o:Oper) (s:AS) (N:AS→Prop):Prop :=∀ (c:Cx P) a w β κ,Rel c s a w β κ→∀ (K:Act→World→Prop) (Q:Exit→Act→World→Prop),(∀ s' a' w' β' κ',N s'→Rel c s' a' w' β' κ'→K a' w') → if Region.wanted o (yielded ops a.tmps) then o.wp P a w K Q else K (a.put o.dst undef) w
section rules
variable {P:Program} {Q:Exit→AS→Prop} {s:AS}
theorem eA.mono {cd:Code} {Q':Exit→AS→Prop} (h:eA P cd Q s) (hq:∀ e s,Q e s→Q' e s):eA P cd Q' s :=
 fun c a w β κ r=>wp_mono (h c a w β κ r) fun e a w ⟨s,β,κ,q,r⟩=>⟨s,β,κ,hq e s q,r⟩
def RF (N:AS→Prop) (Q:Exit→AS→Prop):Exit→AS→Prop
 | .normal,s=>N s
 | e,s=>Q e s
theorem OX (h:Q .normal s):eA P .skip Q s:=fun _ _ _ β κ r=>wp_skip ⟨s,β,κ,h,r⟩
theorem Qh (h:Q .ret s):eA P .ret Q s:=fun _ _ _ β κ r=>wp_ret ⟨s,β,κ,h,r⟩
theorem OW {id:Nat} (h:Q (.exit id) s):eA P (.exit id) Q s:=fun _ _ _ β κ r=>wp_exit ⟨s,β,κ,h,r⟩
theorem LL {x y:Code} (h:eA P x (RF (eA P y Q) Q) s):eA P (.seq x y) Q s:=fun c a w β κ r =>
 wp_seq (wp_mono (h c a w β κ r) fun e a' w' ⟨s',β',κ',q,r'⟩=>by
  cases e with
  | normal=>exact (q:eA P y Q s') c a' w' β' κ' r'
  | exit id=>exact ⟨s',β',κ',q,r'⟩
  | goto l=>exact ⟨s',β',κ',q,r'⟩
  | ret=>exact ⟨s',β',κ',q,r'⟩
  | panic ch=>exact ⟨s',β',κ',q,r'⟩
  | outgrown=>exact ⟨s',β',κ',q,r'⟩)
theorem JD {x:Operand} {y z:Code} {b:Bool} (hx:s.op x = .bool b) (ht:b=true→eA P y Q s) (hf:b=false→eA P z Q s):eA P (.cond x y z) Q s:=fun c a w β κ r=>by have h:=r.op x;rw [hx] at h;exact wp_cond_split h.bool_inv (fun e=>ht e c a w β κ r) (fun e=>hf e c a w β κ r)
theorem OY {x:Operand} {y z:Code} (hx:s.op x = .bool true) (ht:eA P y Q s):eA P (.cond x y z) Q s:=JD hx (fun _=>ht) (fun e=>by cases e)
theorem MO {x:Operand} {y z:Code} (hx:s.op x = .bool false) (hf:eA P z Q s):eA P (.cond x y z) Q s:=JD hx (fun e=>by cases e) (fun _=>hf)
def blk (id:Nat) (Q:Exit→AS→Prop):Exit→AS→Prop
 | .exit id',s=>bif Nat.beq id' id then Q .normal s else Q (.exit id') s
 | e,s=>Q e s
theorem MM {id:Nat} {y:Code} (h:eA P y (blk id Q) s):eA P (.block id y) Q s:=fun c a w β κ r =>
 wp_block (wp_mono (h c a w β κ r) fun e a' w' ⟨s',β',κ',q,r'⟩=>by
  cases e with
  | normal=>exact ⟨s',β',κ',q,r'⟩
  | exit id' =>
   simp only [blk] at q;simp only [Exit.inBlock];by_cases hid:id'=id
   ·subst hid;rw [Nat.beq_refl] at q;rw [if_pos rfl];exact ⟨s',β',κ',q,r'⟩
   ·rw [dz hid] at q;rw [if_neg hid];exact ⟨s',β',κ',q,r'⟩
  | goto l=>exact ⟨s',β',κ',q,r'⟩
  | ret=>exact ⟨s',β',κ',q,r'⟩
  | panic ch=>exact ⟨s',β',κ',q,r'⟩
  | outgrown=>exact ⟨s',β',κ',q,r'⟩)
theorem IM {ops:Array Oper} (h:Q .normal s):jD P ops [] Q s:=fun _ _ _ β κ r=>wpList_nil ⟨s,β,κ,h,r⟩
theorem D9 {ops:Array Oper} {o:Oper} {rest:List Oper} (h:nL P ops o s (jD P ops rest Q)):jD P ops (o::rest) Q s:=fun c a w β κ r =>
 wpList_step fun K hK=>h c a w β κ r K _ fun s' a' w' β' κ' hn r'=>hK a' w' (hn c a' w' β' κ' r')
theorem zw {id:Nat} {l:List Oper} (h:jD P l.toArray l Q s):eA P (.region id l.toArray false) Q s:=fun c a w β κ r=>wp_region_lit (h c a w β κ r)
theorem nL.mono {ops:Array Oper} {o:Oper} {N N':AS→Prop} (h:nL P ops o s N) (hn:∀ s,N s→N' s):nL P ops o s N' :=
 fun c a w β κ r K Q hK=>h c a w β κ r K Q fun s' a' w' β' κ' n r'=>hK s' a' w' β' κ' (hn s' n) r'
end rules
section step
variable {P:Program} {ops:Array Oper} {o:Oper} {s:AS}
def gd (ops:Array Oper) (s:AS) (o:Oper):Option Bool :=
 match o.guard with
 | none=>some true
 | some (j,b)=>match (match ops[j]? with | some x=>x.dst | none=>none) with
  | some t=>bif Nat.blt t s.n then (match lk .any s.t t with | .bool c=>some (c==b) | .tup []=>some false | _=>none) else none
  | none=>none
theorem pq {c:Cx P} {a:Act} {w:World} {β:Nat→Nat} {κ:Nat→Nat×Nat} (r:Rel c s a w β κ) {b:Bool} (h:gd ops s o=some b):Region.wanted o (yielded ops a.tmps)=b:=by
 unfold gd at h;unfold Region.wanted;split at h
 ·rename_i e;rw [e];cases h;rfl
 ·rename_i j b' e;rw [e];split at h
  ·rename_i t ht;have ht':(ops[j]?).bind (·.dst)=some t:=by
    split at ht
    ·rename_i x hx;rw [hx];exact ht
    ·cases ht
   cases hlt:Nat.blt t s.n with
   | false=>rw [hlt] at h;cases h
   | true =>
    rw [hlt] at h;have hlt':t<a.tmps.size:=by rw [r.sz];simpa [Nat.blt_eq] using hlt
    have hg:=r.tm t;simp only [cond_true] at h;split at h
    ·rename_i cc e2;rw [e2] at hg;cases h;have:=hg.bool_inv;simp only [SZ,Ta hlt',Option.getD_some] at this;simp [yielded,ht',Ta hlt',this]
    ·rename_i e2;rw [e2] at hg;cases h;obtain ⟨vs,eV,hl,_⟩:=hg.tup_inv;simp only [SZ,Ta hlt',Option.getD_some] at eV;simp [yielded,ht',Ta hlt',eV]
    ·cases h
  ·cases h
def AS.put (s:AS) (dst:Option Tmp) (v:AV):Option AS :=
 match dst with
 | none=>some s
 | some t=>bif Nat.blt t s.n then some ⟨s.n,ins t v s.t,s.h⟩ else none
theorem cC {c:Cx P} {a:Act} {w:World} {β:Nat→Nat} {κ:Nat→Nat×Nat} (r:Rel c s a w β κ) {dst:Option Tmp} {v:AV} {V:Value} (hg:G w (c.XX s.h β) β κ v V) {s':AS} (h:s.put dst v=some s'):Rel c s' (a.put dst V) w β κ:=by
 cases dst with
 | none=>cases h;exact r
 | some t =>
  simp only [AS.put] at h;cases hlt:Nat.blt t s.n with
  | false=>rw [hlt] at h;cases h
  | true =>
   rw [hlt] at h;cases h;exact r.put (by simpa [Nat.blt_eq] using hlt) hg
theorem PS (hg:gd ops s o=some false) {s':AS} (h:s.put o.dst (.tup [])=some s'):nL P ops o s (· = s'):=fun c a w β κ r K Q hK=>by rw [pq r hg];exact hK s' _ w β κ rfl (cC r (.d (.tup [] #[] rfl (fun i hi=>by simp at hi))) h)
theorem cG (hg:gd ops s o=some true) {s':AS}
 (h:∀ (c:Cx P) a w β κ,Rel c s a w β κ→∃ V w' β' κ',((execOp a.eval o).run P w = .ok (.value V) w'∨((execOp a.eval o).run P w = .ok .skip w'∧V=undef))∧Rel c s' (a.put o.dst V) w' β' κ'):nL P ops o s (· = s'):=fun c a w β κ r K Q hK=>by
 rw [pq r hg];obtain ⟨V,w',β',κ',hr,r'⟩:=h c a w β κ r;simp only [if_true];unfold Oper.wp;rcases hr with hr | ⟨hr,rfl⟩<;>rw [hr]
 ·exact hK s' _ w' β' κ' rfl r'
 ·exact hK s' _ w' β' κ' rfl r'
theorem Rh (hg:gd ops s o=some true) {p:Prop} {v:AV} (hv:j5 P s o.op=some (p,v)) (hp:p) {s':AS} (h:s.put o.dst v=some s'):nL P ops o s (· = s') :=
 cG hg fun c a w β κ r=>by obtain ⟨dst,op,ty,pos,af,g⟩:=o;obtain ⟨V,hr,hG⟩:=JY r hv hp dst ty pos af g;exact ⟨V,w,β,κ,.inl hr,cC r hG h⟩
end step
section
variable {P:Program} {ops:Array Oper} {o:Oper} {s:AS}
def jE:AV→Option (List AV)
 | .agg cs=>some cs
 | v=>if v.one then some [v] else none
theorem Fw {V:Value} (h:V.oneCell'=true):V.cells = #[V]:=by cases V<;>first | rfl | (simp [Value.oneCell'] at h)
theorem ph {w:World} {X:Nat→Prop} {β:Nat→Nat} {κ:Nat→Nat×Nat} {v:AV} {V:Value} (hg:G w X β κ v V) {cs:List AV} (h:jE v=some cs):V.cells.size=cs.length∧∀ i,i<cs.length→G w X β κ (cs.getD i .any) (V.cells.getD i undef):=by
 unfold jE at h;split at h
 ·cases h;obtain ⟨vs,rfl,hl,hgs⟩:=hg.agg_inv;exact ⟨hl.symm,hgs⟩
 ·split at h
  ·rename_i h1;cases h;rw [Fw (hg.one h1)];refine ⟨rfl,fun i hi=>?_⟩;have:i=0:=by simpa using hi
   subst this;simpa using hg
  ·cases h
def AS.fresh (s:AS) (k:Nat) (ob:AO) (v:AV):Option AS :=bif Nat.blt k s.n&&Nat.blt k 1000 then some ⟨s.n,ins k v (vl k s.t),ins k ob (lu k s.h)⟩ else none
theorem pT {α:Type} {b:Bool} {x:Option α} {y:α} (h:(bif b then x else none)=some y):b=true∧x=some y:=by
 cases b with
 | true=>exact ⟨rfl,h⟩
 | false=>cases h
theorem um {c:Cx P} {a:Act} {w w':World} {β:Nat→Nat} {κ:Nat→Nat×Nat} (r:Rel c s a w β κ) {k:Nat} {ob:AO} {v:AV} {s':AS} (h:s.fresh k ob v=some s') {b:Nat} {cap:Nat×Nat} {V:Value}
 (hb:w.heap.size≤b) (hw:∀ i,i<w.heap.size→w'.heap[i]? = w.heap[i]?) (hkp:dG c.K w w')
 (ho:HO w' (c.XX (ins k ob (lu k s.h)) (upd β k b)) (upd β k b) (upd κ k cap) k ob)
 (hv:G w' (c.XX (ins k ob (lu k s.h)) (upd β k b)) (upd β k b) (upd κ k cap) v V) (hi:∀ j,¬ ob.inn j:=by exact fun _ h=>h):Rel c s' (a.put (some k) V) w' (upd β k b) (upd κ k cap):=by
 unfold AS.fresh at h;cases hc:(Nat.blt k s.n&&Nat.blt k 1000) with
 | false=>rw [hc] at h;cases h
 | true =>
  rw [hc] at h;cases h;simp only [SY,Nat.blt_eq] at hc;have r':=r.pg k;obtain ⟨h1,h2⟩:=r'.hp.anew (w':=w') hc.2 (fun j _=>by show AO.men k (lk .gone (lu k s.h) j)=false;rw [ij];exact AO.men_pg k _) b cap hb hw hkp ho hi;refine ⟨r.df,by simp [Act.put,r.sz],fun i=>?_,h1⟩;show G w' _ _ _ (lk .any (ins k v (vl k s.t)) i) _;rw [bB];by_cases hi:i=k
  ·subst hi;have:i<a.tmps.size:=by rw [r.sz];exact hc.1
   simpa [Act.put,SZ,Array.getElem?_setIfInBounds,this] using hv
  ·have:=h2 (r'.tm i) (by show AV.men k (lk .any (vl k s.t) i)=false;rw [jT];exact AV.men_pg k _);rw [if_neg hi];simpa [Act.put,SZ,Array.getElem?_setIfInBounds,Ne.symm hi,fun e:k=i=>hi e.symm] using this
theorem fJ (K:Nat→Prop) (w:World) (o:Obj) (hK:∀ b,K b→b<w.heap.size):dG K w (w.alloc o) :=
 ⟨rfl,rfl,rfl,by simp,fun b hb=>ir w o (hK b hb)⟩
theorem Rel.Klt {c:Cx P} {a:Act} {w:World} {β:Nat→Nat} {κ:Nat→Nat×Nat} (r:Rel c s a w β κ):∀ b,c.K b→b<w.heap.size:=fun b hb=>Nat.lt_of_lt_of_le (c.hK b hb) r.hp.kp.size
theorem nS (w:World) (o:Obj):(w.alloc o).heap[w.heap.size]? = some o:=heap_alloc_new w o
def Gz (s:AS) (e:TypeId) (v:AV) (k:Nat):Option AS :=
 match jE (AV.pg k v) with
 | some cs=>s.fresh k (.cells e cs) (.hptr k 0)
 | none=>none
theorem B8 {c:Cx P} {a:Act} {w:World} {β:Nat→Nat} {κ:Nat→Nat×Nat} (r:Rel c s a w β κ) {k:Nat} {e:TypeId} {v:AV} {V:Value} (hg:G w (c.XX s.h β) β κ v V) {s':AS} (h:Gz s e v k=some s') :
 Rel c s' (a.put (some k) (.pointer (some ⟨w.heap.size,0,none⟩))) (w.alloc (.cells V.cells e)) (upd β k w.heap.size) (upd κ k (0,0)):=by
 unfold Gz at h;split at h
 ·rename_i cs hcs;have hlt:∀ i,i<w.heap.size→(w.alloc (.cells V.cells e)).heap[i]? = w.heap[i]? := fun i hi=>ir w _ hi;obtain ⟨hs,hG⟩:=ph (hg.pg k) hcs;have hX:∀ i,¬ c.XX s.h β i→i<w.heap.size→¬ c.XX (ins k (.cells e cs) (lu k s.h)) (upd β k w.heap.size) i:=by
   rintro i hi hlt (hx | ⟨j,hl,hj⟩)
   ·exact hi (.inl hx)
   ·have hk6:k<1000000:=by unfold AS.fresh at h;obtain ⟨hc,_⟩:=pT h;simp only [SY,Nat.blt_eq] at hc;omega
    rcases iO (o:=.cells e cs) hk6 (fun _ h=>h) hl with ⟨e,_⟩ | ⟨e,hl⟩
    ·subst e;rw [bh] at hj;omega
    ·rw [cM β e] at hj;rw [uz] at hl;exact hi (.inr ⟨j,hl,hj⟩)
  refine um r h (Nat.le_refl _) hlt (fJ _ _ _ r.Klt) ⟨V.cells,by rw [bh];exact nS w _,hs,fun i hi=>?_⟩ (by have:=G.hptr (w:=w.alloc (.cells V.cells e)) (X:=c.XX (ins k (.cells e cs) (lu k s.h)) (upd β k w.heap.size)) (β:=upd β k w.heap.size) (κ:=upd κ k (0,0)) k 0;rwa [bh] at this);refine (hG i hi).mono (fun b _ hb=>hlt b hb) hX fun j hj=>?_;have:j≠k:=by
   rintro rfl;have h0:=AV.men_pg j v;unfold jE at hcs;split at hcs
   ·rename_i cs' e';cases hcs;rw [e'] at h0;simp only [AV.men] at h0;rw [cZ hi hj] at h0;cases h0
   ·split at hcs
    ·cases hcs;have:i=0:=by simpa using hi
     subst this;simp only [List.getD_cons_zero] at hj;rw [hj] at h0;cases h0
    ·cases hcs
  have hk6:k<1000000:=by unfold AS.fresh at h;obtain ⟨hc,_⟩:=pT h;simp only [SY,Nat.blt_eq] at hc;omega
  exact .upd hk6 this
 ·cases h
theorem N9 {t:TypeId} {x:Operand} {k:Nat} (hg:gd ops s o=some true) (hop:o.op = .box t x) (hd:o.dst=some k) {s':AS} (h:Gz s t (s.op x) k=some s'):nL P ops o s (· = s') :=
 cG hg fun c a w β κ r=>by refine ⟨_,_,_,_,.inl ?_,by rw [hd];exact B8 r (r.op x) h⟩;simp only [execOp,hop];simp [Instr.box,newVar,newRow,go_sem]
def zeroOf (P:Program) (t:TypeId):Option Value:=match P.info? t with | some i=>i.zero | none=>none
theorem om {w:World} {t:TypeId} {z:Value} (h:zeroOf P t=some z):(zeroValue t).run P w = .ok z w:=by
 unfold zeroOf at h;cases hi:P.info? t with
 | none=>simp [hi] at h
 | some i=>simp [hi] at h;simp [zeroValue,typeInfo,hi,h,go_sem]
theorem I8 {t:TypeId} {k:Nat} {z:Value} (hg:gd ops s o=some true) (hop:o.op = .alloc t) (hd:o.dst=some k) (hz:zeroOf P t=some z) {s':AS} (h:Gz s t (AV.of z) k=some s'):nL P ops o s (· = s') :=
 cG hg fun c a w β κ r=>by refine ⟨_,_,_,_,.inl ?_,by rw [hd];exact B8 r (.d (D.of w _ z)) h⟩;simp only [execOp,hop,Instr.alloc,Sem.run_bind,om hz,Result.andThen];simp [newVar,newRow,go_sem]
def fh (cs:List AV) (o:Nat) (vs:List AV):List AV:=cs.take o++vs++cs.drop (o+vs.length)
theorem nC {cs vs:List AV} {o:Nat} (h:o+vs.length≤cs.length):(fh cs o vs).length=cs.length:=by simp [fh];omega
theorem bV {α:Type} {l m:List α} {i:Nat} {d:α} (h:i<l.length):(l++m).getD i d=l.getD i d:=by simp [SW,List.getElem?_append_left h]
theorem bz {α:Type} {l m:List α} {i:Nat} {d:α} (h:l.length≤i):(l++m).getD i d=m.getD (i-l.length) d:=by simp [SW,List.getElem?_append_right h]
theorem w8 {cs vs:List AV} {o i:Nat} (h:o+vs.length≤cs.length):(fh cs o vs).getD i .any=if o≤i∧i<o+vs.length then vs.getD (i-o) .any else cs.getD i .any:=by
 have h1:(cs.take o).length=o:=by simp;omega
 unfold fh;by_cases hi:i<o
 ·rw [if_neg (by omega),List.append_assoc,bV (by omega),getD_take _ _ _ _ hi]
 ·by_cases hi2:i<o+vs.length
  ·rw [if_pos ⟨by omega,hi2⟩,List.append_assoc,bz (by omega),h1,bV (by omega)]
  ·rw [if_neg (by omega),bz (by simp;omega),getD_drop];congr 1;simp;omega
def AP (P:Program) (s:AS) (t:TypeId) (x y:AV):Option AS :=
 match x,jE y,tN P t with
 | .hptr k o,some vs,some n=>(match lk .gone s.h k with
  | .cells e cs=>if vs.length=n∧o+vs.length≤cs.length∧vs.all AV.one=true then some ⟨s.n,s.t,ins k (.cells e (fh cs o vs)) s.h⟩ else none
  | _=>none)
 | _,_,_=>none
theorem qU (w:World) (b:Nat) (cur:Array Value) (e:TypeId) (vs:Array Value) (h:w.heap[b]? = some (.cells cur e (0,0))):(w.setRow b vs).heap[b]? = some (.cells vs e (0,0)):=setRow_heap w b cur vs e _ h
theorem cT (w:World) (b:Nat) (vs:Array Value) {i:Nat} (h:i≠b):(w.setRow b vs).heap[i]? = w.heap[i]? := setRow_other w b i vs h
theorem GQ {c:Cx P} {a:Act} {w:World} {β:Nat→Nat} {κ:Nat→Nat×Nat} (r:Rel c s a w β κ) {t:TypeId} {x y:AV} {X Y:Value} (hx:G w (c.XX s.h β) β κ x X) (hy:G w (c.XX s.h β) β κ y Y) {s':AS} (h:AP P s t x y=some s') :
 ∃ w',(Instr.storeAt t X Y).run P w = .ok () w'∧Rel c s' a w' β κ:=by
 unfold AP at h;split at h
 ·rename_i k off vs n hvs hn;split at h
  ·rename_i e cs hk;split at h
   ·rename_i hc;obtain ⟨hc1,hc2,hc3⟩:=hc;cases h;have ho:=r.hp.ob k;rw [hk] at ho;obtain ⟨cur,h1,h2,h3⟩:=ho;obtain ⟨g1,g2⟩:=ph hy hvs;have hone:∀ v∈Y.cells.toList,v.oneCell'=true:=by
     intro v hv;obtain ⟨i,hi,rfl⟩:=List.getElem_of_mem hv;have hi':i<Y.cells.size:=by simpa using hi
     have:=g2 i (by omega);have e1:Y.cells.getD i undef=Y.cells.toList[i]:=by simp [SZ,Ta hi']
     rw [e1] at this;refine this.one ?_;have:=Tc.1 hc3 (vs.getD i .any);refine this ?_;rw [SW,SX (by omega:i<vs.length)];exact List.getElem_mem _
    have hst:=run_storeCells_at P (β k) off e Y.cells.toList 0 cur w h1 (by simp;omega) hone;simp only [Nat.add_zero,Array.length_toList] at hst;let new:Array Value:=(cur.toList.take off++Y.cells.toList++cur.toList.drop (off+Y.cells.size)).toArray
    refine ⟨w.setRow (β k) new,?_,?_⟩
    ·rw [hx.hptr_inv];simp only [Instr.storeAt,Instr.sureAddr,pure_bind,storeVar,Sem.run_bind,run_sizeOf hn,Result.andThen];rw [if_neg (by omega)];exact hst
    ·have hlive:(lk .gone s.h k).live:=by rw [hk];trivial
     have hbk:β k<w.heap.size:=r.hp.lt (.inl hlive);have hsl:(AO.cells e (fh cs off vs)).live↔(lk .gone s.h k).live:=by rw [hk];exact Iff.rfl
     have hsi:∀ j,(AO.cells e (fh cs off vs)).inn j↔(lk .gone s.h k).inn j:=fun j=>by rw [hk];exact Iff.rfl
     have hlv:=fun j=>Ak (h:=s.h) hsl hsi j;have hXX:c.XX (ins k (.cells e (fh cs off vs)) s.h) β=c.XX s.h β:=C1 c β hsl hsi;have hw:∀ i,¬ c.XX s.h β i→i<w.heap.size→(w.setRow (β k) new).heap[i]? = w.heap[i]? := fun i hi _=>cT _ _ _ (fun e=>hi (.inr ⟨k,.inl hlive,e.symm⟩));have hG:∀ {v:AV} {V:Value},G w (c.XX s.h β) β κ v V→G (w.setRow (β k) new) (c.XX s.h β) β κ v V:=fun hg=>hg.mono hw (fun _ h _=>h) (fun _ _=>.refl);refine ⟨r.df,r.sz,fun i=>?_,⟨fun j=>?_,fun i j hi hj e=>?_,?_,fun j hj=>?_,fun j hj=>?_,r.hp.fix,fun j hj=>?_⟩⟩
     ·show G _ (c.XX (ins k _ s.h) β) β κ _ _;rw [hXX];exact hG (r.tm i)
     ·show HO _ (c.XX (ins k _ s.h) β) β κ j (lk .gone (ins k _ s.h) j);rw [hXX,bB];by_cases ej:j=k
      ·subst ej;rw [if_pos rfl];refine ⟨new,qU w _ cur e new h1,?_,fun i hi=>?_⟩
       ·rw [nC hc2];simp [new];omega
       ·rw [nC hc2] at hi;rw [w8 hc2];have hnew:new.getD i undef=if off≤i∧i<off+vs.length then Y.cells.getD (i-off) undef else cur.getD i undef:=by
         have hl1:(cur.toList.take off).length=off:=by simp;omega
         have hN:new.getD i undef=(cur.toList.take off++Y.cells.toList++cur.toList.drop (off+Y.cells.size)).getD i undef:=by simp [new,SZ,SW]
         rw [hN];by_cases h4:i<off
         ·rw [if_neg (by omega),List.append_assoc,bV (by omega),getD_take _ _ _ _ h4];simp [SZ,SW]
         ·by_cases h5:i<off+vs.length
          ·rw [if_pos ⟨by omega,h5⟩,List.append_assoc,bz (by omega),hl1,bV (by simp;omega)];simp [SZ,SW]
          ·rw [if_neg (by omega),bz (by simp;omega),getD_drop];have:off+Y.cells.size+(i-(cur.toList.take off++Y.cells.toList).length)=i:=by simp;omega
           rw [this];simp [SZ,SW]
        rw [hnew];by_cases h6:off≤i∧i<off+vs.length
        ·rw [if_pos h6,if_pos h6];exact hG (g2 (i-off) (by omega))
        ·rw [if_neg h6,if_neg h6];exact hG (h3 i hi)
      ·rw [if_neg ej];exact (r.hp.ob j).mono hw (fun _ h _=>h) (fun _ _=>.refl) .refl (fun hl=>cT _ _ _ fun e=>ej (r.hp.inj j k (.inl hl) (.inl hlive) e)) (fun i hl=>cT _ _ _ (r.hp.vne hlive hl))
     ·exact r.hp.inj i j ((hlv i).1 hi) ((hlv j).1 hj) e
     ·refine r.hp.kp.trans (K':=c.K) ⟨rfl,rfl,rfl,by simp [World.setRow],fun b hb=>cT _ _ _ fun e=>r.hp.nk k (.inl hlive) (e ▸ hb)⟩ (fun _ h=>h)
     ·exact r.hp.nk j ((hlv j).1 hj)
     ·exact r.hp.nx j ((hlv j).1 hj)
     ·rw [bB] at hj;by_cases ej:j=k
      ·rw [ej];exact r.hp.sm k hlive
      ·rw [if_neg ej] at hj;exact r.hp.sg j hj
   ·cases h
  ·cases h
 ·cases h
theorem VB {t:TypeId} {x y:Operand} (hg:gd ops s o=some true) (hop:o.op = .store t x y) (hd:o.dst=none) {s':AS} (h:AP P s t (s.op x) (s.op y)=some s'):nL P ops o s (· = s') :=
 cG hg fun c a w β κ r=>by obtain ⟨w',hr,r'⟩:=GQ r (r.op x) (r.op y) h;refine ⟨undef,w',β,κ,.inr ⟨?_,rfl⟩,by rw [hd];exact r'⟩;simp only [execOp,hop,Sem.run_bind,hr,Result.andThen];rfl
end
section
variable {P:Program} {ops:Array Oper} {o:Oper} {s:AS}
def Ug (place:Nat→Option (Nat×Nat)):List AV→List (Nat×AV)→Option (List AV)
 | cs,[]=>some cs
 | cs,(i,v)::rest=>match place i,jE v with
  | some (off,size),some vs=>if vs.length=size∧off+vs.length≤cs.length then Ug place (fh cs off vs) rest else none
  | _,_=>none
theorem F7 (off:Nat):∀ (l:List Value) (k:Nat) (cells:Array Value),off+k+l.length≤cells.size →
 ((l.zipIdx k).foldl (fun cs (x:Value×Nat)=>cs.setIfInBounds (off+x.2) x.1) cells).size=cells.size ∧
 ∀ i,((l.zipIdx k).foldl (fun cs (x:Value×Nat)=>cs.setIfInBounds (off+x.2) x.1) cells).getD i undef=if off+k≤i∧i<off+k+l.length then l.getD (i-(off+k)) undef else cells.getD i undef
 | [],k,cells,_=>by
  refine ⟨rfl,fun i=>?_⟩;rw [if_neg (by simp)];rfl
 | v::l,k,cells,h=>by
  simp only [List.length_cons] at h;simp only [List.zipIdx_cons,List.foldl_cons];obtain ⟨h1,h2⟩:=F7 off l (k+1) (cells.setIfInBounds (off+k) v) (by simp;omega);refine ⟨by simpa using h1,fun i=>?_⟩;rw [h2 i];have hlt:off+k<cells.size:=by omega
  by_cases e:i=off+k
  ·subst e;rw [if_neg (by omega),if_pos ⟨by omega,by simp⟩];simp [SZ,hlt]
  ·by_cases hi:off+(k+1)≤i∧i<off+(k+1)+l.length
   ·rw [if_pos hi,if_pos ⟨by omega,by simp;omega⟩];rw [show i-(off+k)=(i-(off+(k+1)))+1 by omega,List.getD_cons_succ]
   ·rw [if_neg hi,if_neg (by simp;omega)];have e':¬ off+k=i:=fun h=>e h.symm;simp [SZ,e']
theorem nM {w:World} {X:Nat→Prop} {β:Nat→Nat} {κ:Nat→Nat×Nat} {place:Nat→Option (Nat×Nat)}:∀ (parts:List (Nat×AV)) (vals:List (Nat×Value)) (cs:List AV) (arr:Array Value),parts.length=vals.length →
 (∀ i,i<parts.length→(parts.getD i default).1=(vals.getD i default).1∧G w X β κ (parts.getD i default).2 (vals.getD i default).2) →
 arr.size=cs.length→(∀ i,i<cs.length→G w X β κ (cs.getD i .any) (arr.getD i undef))→∀ cs',Ug place cs parts=some cs' →
 ∃ arr',Instr.fill place arr vals=some arr'∧arr'.size=cs'.length∧∀ i,i<cs'.length→G w X β κ (cs'.getD i .any) (arr'.getD i undef)
 | [],[],cs,arr,_,_,h1,h2,cs',h=>by cases h;exact ⟨arr,rfl,h1,h2⟩
 | [],_::_,_,_,hl,_,_,_,_,_=>by simp at hl
 | _::_,[],_,_,hl,_,_,_,_,_=>by simp at hl
 | (i,v)::parts,(j,V)::vals,cs,arr,hl,hp,h1,h2,cs',h=>by
  obtain ⟨e,hG⟩:=hp 0 (by simp);simp only [List.getD_cons_zero] at e hG;subst e;unfold Ug at h;split at h
  ·rename_i off size vs hpl hvs;split at h
   ·rename_i hc;obtain ⟨g1,g2⟩:=ph hG hvs;obtain ⟨f1,f2⟩:=F7 off V.cells.toList 0 arr (by simp;omega);have hf:Instr.fill place arr ((i,V)::vals)=Instr.fill place (V.cells.zipIdx.foldl (fun cs (x:Value×Nat)=>cs.setIfInBounds (off+x.2) x.1) arr) vals:=by simp only [Instr.fill,hpl];rw [if_neg];rw [g1,hc.1];simp;omega
    rw [hf];have hz:(V.cells.zipIdx.foldl (fun cs (x:Value×Nat)=>cs.setIfInBounds (off+x.2) x.1) arr)=(V.cells.toList.zipIdx.foldl (fun cs (x:Value×Nat)=>cs.setIfInBounds (off+x.2) x.1) arr):=by rw [← Array.foldl_toList];simp
    rw [hz];refine nM parts vals (fh cs off vs) _ (by simpa using hl) (fun i hi=>by simpa using hp (i+1) (by simp;omega)) (by rw [f1,h1,nC hc.2]) (fun i hi=>?_) cs' h;rw [f2,w8 hc.2];rw [nC hc.2] at hi;simp only [Nat.add_zero,Array.length_toList];by_cases h3:off≤i∧i<off+vs.length
    ·rw [if_pos h3,if_pos (by omega)];have:=g2 (i-off) (by omega);have e2:V.cells.toList.getD (i-off) undef=V.cells.getD (i-off) undef:=by simp [SZ,SW]
     rw [e2];exact this
    ·rw [if_neg h3,if_neg (by omega)];exact h2 i hi
   ·cases h
  ·cases h
def Dh (P:Program) (t:TypeId) (parts:List (Nat×AV)):Option AV :=
 match P.info? t,P.underlying t with
 | some it,some (.array _ e) =>
  match it.zero,P.info? e with
  | some z,some ie=>(match Ug (fun i=>some (i*ie.size,ie.size)) (z.cells.toList.map AV.of1) parts with | some cs=>some (.agg cs) | none=>none)
  | _,_=>none
 | some it,some (.struct fields) =>
  match it.zero,fields.toList.mapM (fun f=>(P.info? f.type).map fun i=>(f.offset,i.size)) with
  | some z,some places=>(match Ug (places.toArray[·]?) (z.cells.toList.map AV.of1) parts with | some cs=>some (.agg cs) | none=>none)
  | _,_=>none
 | _,_=>none
theorem Gy {w:World} {X:Nat→Prop} {β:Nat→Nat} {κ:Nat→Nat×Nat} (z:Array Value) (i:Nat) (hi:i<(z.toList.map AV.of1).length):G w X β κ ((z.toList.map AV.of1).getD i .any) (z.getD i undef):=by rw [DY _ _ (by simpa using hi)];exact .d (D.of1 w X _)
theorem GA {w:World} {X:Nat→Prop} {β:Nat→Nat} {κ:Nat→Nat×Nat} {t:TypeId} {parts:List (Nat×AV)} {vals:Array (Nat×Value)} (hl:parts.length=vals.size)
 (hp:∀ i,i<parts.length→(parts.getD i default).1=(vals.toList.getD i default).1∧G w X β κ (parts.getD i default).2 (vals.toList.getD i default).2) {v:AV} (h:Dh P t parts=some v) :
 ∃ V,(Instr.build t vals).run P w = .ok V w∧G w X β κ v V:=by
 unfold Dh at h;split at h
 ·rename_i it n e hit hu;split at h
  ·rename_i z ie hz hie;split at h
   ·rename_i cs hcs;cases h;obtain ⟨arr,h1,h2,h3⟩:=nM (w:=w) (X:=X) (β:=β) (κ:=κ) parts vals.toList _ z.cells (by simpa using hl) hp (by simp) (Gy _) cs hcs;refine ⟨_,run_build (P:=P) w t vals arr ?_,.agg _ _ h2.symm h3⟩;simp only [Program.built,hit,hu,hz,hie,h1]
   ·cases h
  ·cases h
 ·rename_i it fields hit hu;split at h
  ·rename_i z places hz hpl;split at h
   ·rename_i cs hcs;cases h;obtain ⟨arr,h1,h2,h3⟩:=nM (w:=w) (X:=X) (β:=β) (κ:=κ) parts vals.toList _ z.cells (by simpa using hl) hp (by simp) (Gy _) cs hcs;refine ⟨_,run_build (P:=P) w t vals arr ?_,.agg _ _ h2.symm h3⟩;simp only [Program.built,hit,hu,hz,hpl,h1]
   ·cases h
  ·cases h
 ·cases h
def AS.parts (s:AS) (ps:Array (Nat×Operand)):List (Nat×AV):=ps.toList.map fun p=>(p.1,s.op p.2)
theorem zj {c:Cx P} {a:Act} {w:World} {β:Nat→Nat} {κ:Nat→Nat×Nat} (r:Rel c s a w β κ) (ps:Array (Nat×Operand)):(s.parts ps).length=(ps.map fun p=>(p.1,a.eval p.2)).size ∧
 ∀ i,i<(s.parts ps).length→((s.parts ps).getD i default).1=((ps.map fun p=>(p.1,a.eval p.2)).toList.getD i default).1∧G w (c.XX s.h β) β κ ((s.parts ps).getD i default).2 ((ps.map fun p=>(p.1,a.eval p.2)).toList.getD i default).2:=by
 refine ⟨by simp [AS.parts],fun i hi=>?_⟩;have hi':i<ps.size:=by simpa [AS.parts] using hi
 have:=r.op (ps[i]).2;simp [AS.parts,SW,Ta hi'];exact this
theorem Oa {t:TypeId} {ps:Array (Nat×Operand)} (hg:gd ops s o=some true) (hop:o.op = .build t ps) {v:AV} (hv:Dh P t (s.parts ps)=some v) {s':AS} (h:s.put o.dst v=some s'):nL P ops o s (· = s') :=
 cG hg fun c a w β κ r=>by obtain ⟨h1,h2⟩:=zj r ps;obtain ⟨V,hr,hG⟩:=GA (P:=P) h1 h2 hv;refine ⟨V,w,β,κ,.inl ?_,cC r hG h⟩;simp only [execOp,hop,Sem.run_bind];have:(fun x:Nat×Operand=>(x.1,a.eval x.2))=fun p=>(p.1,a.eval p.2):=rfl;show ((Instr.build t (ps.map fun p=>(p.1,a.eval p.2))).run P w).andThen _=_;rw [hr];rfl
mutual
def AV.fl:AV→Bool
 | .hptr _ _=>false
 | .rslice _=>false
 | .gslice _=>false
 | .rref _ _=>false
 | .amap _=>false
 | .bm _ _ _=>false
 | .agg cs=>AV.flL cs
 | .tup cs=>AV.flL cs
 | .fn _ cs=>AV.flL cs
 | _=>true
def AV.flL:List AV→Bool
 | []=>true
 | c::cs=>AV.fl c&&AV.flL cs
end
theorem iX:∀ {cs:List AV} {i:Nat},i<cs.length→AV.flL cs=true→AV.fl (cs.getD i .any)=true
 | [],i,h,_=>by simp at h
 | c::cs,0,_,h=>by simp only [AV.flL,SY] at h;exact h.1
 | c::cs,i+1,hi,h=>by simp only [AV.flL,SY] at h;simp only [List.getD_cons_succ];exact iX (by simpa using hi) h.2
theorem G.toD {w:World} {X:Nat→Prop} {β:Nat→Nat} {κ:Nat→Nat×Nat} {v:AV} {V:Value} (h:G w X β κ v V) (hf:AV.fl v=true):D w X v V:=by
 induction h with
 | d h=>exact h
 | hptr k o=>cases hf
 | rslice k _=>cases hf
 | rslice0 k a _=>cases hf
 | gslice k=>cases hf
 | rref k j _ _=>cases hf
 | rref0 k oj a _=>cases hf
 | amap k=>cases hf
 | bm f k o=>cases hf
 | fn f cs vs h1 h2 ih =>
  exact .fn f cs vs h1 fun i hi=>ih i hi (iX hi (by simpa [AV.fl] using hf))
 | agg cs vs h1 h2 ih=>exact .agg cs vs h1 fun i hi=>ih i hi (iX hi (by simpa [AV.fl] using hf))
 | tup cs vs h1 h2 ih=>exact .tup cs vs h1 fun i hi=>ih i hi (iX hi (by simpa [AV.fl] using hf))
theorem Rel.more {P:Program} {c:Cx P} {a:Act} {w:World} {β:Nat→Nat} {κ:Nat→Nat×Nat} (r:Rel c s a w β κ) (ob:Obj):Rel c s a (w.alloc ob) β κ∧(∀ {v V},G w (c.XX s.h β) β κ v V→G (w.alloc ob) (c.XX s.h β) β κ v V)∧¬ c.XX s.h β w.heap.size:=by
 have hw:∀ i,¬ c.XX s.h β i→i<w.heap.size→(w.alloc ob).heap[i]? = w.heap[i]? := fun i _ hi=>ir w ob hi;refine ⟨⟨r.df,r.sz,fun i=>(r.tm i).mono hw (fun _ h _=>h) (fun _ _=>.refl),⟨fun k=>(r.hp.ob k).mono hw (fun _ h _=>h) (fun _ _=>.refl) .refl (fun hl=>ir w ob (r.hp.lt (.inl hl))) (fun _ hl=>ir w ob (r.hp.lt (eZ hl))),
  r.hp.inj,r.hp.kp.trans (fJ _ _ _ r.Klt) (fun _ h=>h),r.hp.nk,r.hp.nx,r.hp.fix,r.hp.sg⟩⟩,fun hg=>hg.mono hw (fun _ h _=>h) (fun _ _=>.refl),?_⟩
 rintro (hx | ⟨k,hl,hk⟩)
 ·have:=c.hX _ hx;have:=r.hp.kp.size;omega
 ·have:=r.hp.lt hl;omega
def C7:Nat→List (Nat×AV)→Bool
 | _,[]=>true
 | k,(i,_)::ps=>Nat.beq i k&&C7 (k+1) ps
def Bj (n:Nat):List (Nat×AV)→Option (List (List AV))
 | []=>some []
 | (_,v)::ps=>match jE v,Bj n ps with
  | some cs,some r=>if cs.length=n∧AV.flL cs=true then some (cs::r) else none
  | _,_=>none
def dy (P:Program) (t:TypeId) (len:Nat) (parts:List (Nat×AV)):Option AV :=
 match KS P t with
 | some e=>match tN P e,zeroOf P e with
  | some n,some z=>if n=0∨16777216<len*n∨z.cells.size≠n then none else
   if len=0 then (match parts with | []=>some .eslice | _=>none) else
   (match Bj n parts with | some xs=>if C7 0 parts&&Nat.beq xs.length len then some (.dslice xs) else none | none=>none)
  | _,_=>none
 | none=>none
theorem wv {n:Nat}:∀ {ps:List (Nat×AV)} {xs:List (List AV)},Bj n ps=some xs→xs.length=ps.length∧UL n xs∧(∀ x∈xs,AV.flL x=true)∧∀ i,i<xs.length→jE (ps.getD i default).2=some (xs.getD i [])
 | [],xs,h=>by cases h;exact ⟨rfl,fun x hx=>(by cases hx),fun x hx=>(by cases hx),fun i hi=>(by simp at hi)⟩
 | (j,v)::ps,xs,h=>by
  unfold Bj at h;split at h
  ·rename_i cs r hcs hr;split at h
   ·rename_i hc;cases h;obtain ⟨h1,h2,h3,h4⟩:=wv hr;refine ⟨by simp [h1],fun x hx=>?_,fun x hx=>?_,fun i hi=>?_⟩
    ·rcases List.mem_cons.1 hx with rfl | hx
     ·exact hc.1
     ·exact h2 x hx
    ·rcases List.mem_cons.1 hx with rfl | hx
     ·exact hc.2
     ·exact h3 x hx
    ·cases i with
     | zero=>exact hcs
     | succ i=>simpa using h4 i (by simpa using hi)
   ·cases h
  ·cases h
theorem uk {n:Nat}:∀ {xs:List (List AV)},UL n xs→∀ {i j:Nat},i<xs.length→j<n→xs.flatten.getD (i*n+j) .any=(xs.getD i []).getD j .any
 | [],_,i,j,hi,_=>by simp at hi
 | x::xs,h,i,j,hi,hj=>by
  have hx:x.length=n:=h x (by simp);cases i with
  | zero=>simp only [Nat.zero_mul,Nat.zero_add,List.flatten_cons,List.getD_cons_zero];exact bV (by omega)
  | succ i =>
   rw [List.flatten_cons,bz (by rw [Nat.add_mul];omega),List.getD_cons_succ,← uk (fun y hy=>h y (by simp [hy])) (by simpa using hi) hj];congr 1;rw [hx,Nat.add_mul];omega
theorem vU {n:Nat}:∀ {xs:List (List AV)},UL n xs→xs.flatten.length=xs.length*n
 | [],_=>by simp
 | x::xs,h=>by have hx:x.length=n:=h x (by simp);rw [List.flatten_cons,List.length_append,vU fun y hy=>h y (by simp [hy]),hx,List.length_cons,Nat.add_mul];omega
theorem Ti {n:Nat}:∀ (ps:List (Nat×AV)) (k:Nat) (xs:List (List AV)) (cs:List AV),Bj n ps=some xs→C7 k ps=true→(k+ps.length)*n≤cs.length →
 Ug (fun i=>some (i*n,n)) cs ps=some (cs.take (k*n)++xs.flatten++cs.drop ((k+ps.length)*n))
 | [],k,xs,cs,h,_,_=>by cases h;simp [Ug]
 | (i,v)::ps,k,xs,cs,h,ho,hl=>by
  simp only [C7,SY] at ho;have ei:i=k:=ef.1 ho.1;subst ei;unfold Bj at h;split at h
  ·rename_i vs r hvs hr;split at h
   ·rename_i hc;cases h;simp only [List.length_cons] at hl;have hkn:i*n+n≤cs.length:=by have:(i+1)*n≤(i+(ps.length+1))*n:=Nat.mul_le_mul_right _ (by omega);rw [Nat.add_mul] at this;omega
    simp only [Ug,hvs];rw [if_pos ⟨hc.1,by rw [hc.1];exact hkn⟩];have hsl:(fh cs (i*n) vs).length=cs.length:=nC (by rw [hc.1];exact hkn);rw [Ti ps (i+1) r _ hr ho.2 (by rw [hsl];rw [show i+1+ps.length=i+(ps.length+1) by omega];exact hl)];have e1:(cs.take (i*n)).length=i*n:=by simp;omega
    have e2:(fh cs (i*n) vs).take ((i+1)*n)=cs.take (i*n)++vs:=by unfold fh;rw [List.take_left' (by simp [hc.1,Nat.add_mul];omega)]
    have e3:(fh cs (i*n) vs).drop ((i+1+ps.length)*n)=cs.drop ((i+(ps.length+1))*n):=by
     unfold fh;have e4:(i+1+ps.length)*n=(i*n+n)+ps.length*n:=by rw [Nat.add_mul,Nat.add_mul];omega
     have e5:(i+(ps.length+1))*n=(i*n+n)+ps.length*n:=by rw [Nat.add_mul,Nat.add_mul];omega
     rw [e4,e5,← List.drop_drop,List.drop_left' (by simp [hc.1];omega),List.drop_drop,hc.1]
    rw [e2,e3];simp [List.append_assoc]
   ·cases h
  ·cases h
theorem T1 {P:Program} {c:Cx P} {a:Act} {w:World} {β:Nat→Nat} {κ:Nat→Nat×Nat} (r:Rel c s a w β κ) {t:TypeId} {len:Nat} {parts:List (Nat×AV)} {vals:Array (Nat×Value)} (hl:parts.length=vals.size)
 (hp:∀ i,i<parts.length→(parts.getD i default).1=(vals.toList.getD i default).1∧G w (c.XX s.h β) β κ (parts.getD i default).2 (vals.toList.getD i default).2) {v:AV} (h:dy P t len parts=some v) :
 ∃ V ob,(Instr.buildSlice t len vals).run P w = .ok V (w.alloc ob)∧D (w.alloc ob) (c.XX s.h β) v V:=by
 unfold dy at h;split at h
 ·rename_i e he;split at h
  ·rename_i n z hn hz;split at h
   ·cases h
   ·rename_i hc;simp only [not_or,Nat.not_lt] at hc;obtain ⟨hn0,hc1,hc2⟩:=hc;have hc2:z.cells.size=n:=by simpa using hc2
    have hnb:¬ (len*n>2 ^ 24):=by omega
    split at h
    ·rename_i hl0;subst hl0;split at h
     ·cases h;have:vals = #[]:=Array.size_eq_zero_iff.1 (by simpa using hl.symm);subst this;refine ⟨.slice (some ⟨w.heap.size,0,none⟩) 0 0,.cells #[] e,?_,.eslice _⟩;simp only [Instr.buildSlice,Sem.run_bind,bu (eD he),Result.andThen,run_sizeOf hn];simp [Instr.fill,newRow,go_sem]
     ·cases h
    ·rename_i hl0;split at h
     ·rename_i xs hxs;split at h
      ·rename_i hcc;cases h;simp only [SY] at hcc;obtain ⟨p1,p2,p3,p4⟩:=wv hxs;have hxl:xs.length=len:=ef.1 hcc.2;let zs:Array Value:=(Array.range (len*n)).map (z.cells[· % z.cells.size]!)
       have hzs:zs.size=len*n:=by simp [zs]
       have hle:(0+parts.length)*n≤(zs.toList.map AV.of1).length:=by simp [hzs,← p1,hxl]
       obtain ⟨arr,a1,a2,a3⟩:=nM (w:=w) (X:=c.XX s.h β) (β:=β) (κ:=κ) parts vals.toList (zs.toList.map AV.of1) zs (by simpa using hl) hp (by simp) (Gy _) _ (Ti parts 0 xs _ hxs hcc.1 hle);have hflat:(List.take (0*n) (zs.toList.map AV.of1)++xs.flatten++List.drop ((0+parts.length)*n) (zs.toList.map AV.of1))=xs.flatten:=by rw [Nat.zero_mul,List.take_zero,List.nil_append,List.drop_eq_nil_of_le (by simp [hzs,← p1,hxl]),List.append_nil]
       rw [hflat] at a2 a3;have hfl:=vU p2;refine ⟨.slice (some ⟨w.heap.size,0,none⟩) len len,.cells arr e,?_,?_⟩
       ·simp only [Instr.buildSlice,Sem.run_bind,bu (eD he),Result.andThen,run_sizeOf hn];rw [if_neg hnb];have h0:¬ (len*n=0):=by rw [Nat.mul_eq_zero];omega
        simp only [h0,if_false,Sem.run_bind,om hz,Result.andThen,pure_bind];have:Instr.fill (fun i=>some (i*n,n)) ((Array.range (len*n)).map (z.cells[· % z.cells.size]!)) vals.toList=some arr:=a1;rw [this];simp [newRow,go_sem]
       ·obtain ⟨_,r2,r3⟩:=r.more (.cells arr e);have hd:=D.dslice (w:=w.alloc (.cells arr e)) (X:=c.XX s.h β) xs w.heap.size 0 len n (fun i j=>arr.getD (i*n+j) undef) (by omega) (by unfold maxLen;have:len*1≤len*n:=Nat.mul_le_mul_left _ (by omega);omega) (by omega) r3
         (fun i hi=>p2.getD hi) (fun i j hi hj=>?_) (fun i j hi hj=>?_)
        ·rw [hxl] at hd;exact hd
        ·have:i*n+j<arr.size:=by rw [a2,hfl];have:(i+1)*n≤xs.length*n:=Nat.mul_le_mul_right _ hi;rw [Nat.add_mul] at this;omega
         rw [Nat.zero_add];exact ca (nS w _) this
        ·have hij:i*n+j<xs.flatten.length:=by rw [hfl];have:(i+1)*n≤xs.length*n:=Nat.mul_le_mul_right _ hi;rw [Nat.add_mul] at this;omega
         have:=r2 (a3 (i*n+j) hij);rw [uk p2 hi hj] at this;refine this.toD ?_;have hxm:xs.getD i []∈xs:=by rw [SW,SX hi];exact List.getElem_mem hi
         exact iX (by rw [p2.getD hi];exact hj) (p3 _ hxm)
      ·cases h
     ·cases h
  ·cases h
 ·cases h
theorem Fx {t:TypeId} {len:Nat} {ps:Array (Nat×Operand)} (hg:gd ops s o=some true) (hop:o.op = .buildSlice t len ps) {v:AV} (hv:dy P t len (s.parts ps)=some v) {s':AS} (h:s.put o.dst v=some s'):nL P ops o s (· = s') :=
 cG hg fun c a w β κ r=>by obtain ⟨h1,h2⟩:=zj r ps;obtain ⟨V,ob,hr,hD⟩:=T1 r h1 h2 hv;refine ⟨V,w.alloc ob,β,κ,.inl ?_,cC (r.more ob).1 (.d hD) h⟩;simp only [execOp,hop];show ((Instr.buildSlice t len (ps.map fun p=>(p.1,a.eval p.2))) >>= fun x=>pure (Next.value x)).run P w=_;rw [Sem.run_bind,hr];rfl
def SE (P:Program) (K:TypeId):Option Nat :=
 match P.underlying K with
 | some .string=>some 0
 | some (.int .i64)=>some 1
 | _=>none
def Dl (P:Program) (s:AS) (t:TypeId) (k:Nat):Option AS :=
 match P.underlying t with
 | some (.map K E)=>match SE P K with
  | some kd=>s.fresh k (.smap kd E []) (.amap k)
  | none=>none
 | _=>none
theorem Ku {t:TypeId} {k:Nat} (hg:gd ops s o=some true) (hop:o.op = .makeMap t none) (hd:o.dst=some k) {s':AS} (h:Dl P s t k=some s'):nL P ops o s (· = s') :=
 cG hg fun c a w β κ r=>by
  unfold Dl at h;split at h
  ·rename_i K E hu;split at h;case h_2=>cases h
   rename_i kd hkd;refine ⟨.map (some w.heap.size),w.alloc (.map #[] 0),_,_,.inl ?_,by
    rw [hd];refine um r h (Nat.le_refl _) (fun i hi=>ir w _ hi) (fJ _ _ _ r.Klt) (cap:=(0,0)) ⟨#[],0,by rw [bh];exact nS w _,rfl,fun i hi=>by simp at hi,fun i j hi=>by simp at hi,by simp [yV],fun p hp=>by cases hp⟩ ?_;have:=G.amap (w:=w.alloc (.map #[] 0)) (X:=c.XX (ins k (.smap kd E []) (lu k s.h)) (upd β k w.heap.size)) (β:=upd β k w.heap.size) (κ:=upd κ k (0,0)) k
    rwa [bh] at this⟩
   simp only [execOp,hop,Instr.makeMap,Option.map_none];simp [go_sem]
  ·cases h
end
def bH (P:Program) (f:FuncId) (args:List AV) (h:List (Nat×AO)) (Post:AV→List (Nat×AO)→Prop):Prop :=∀ (c:Cx P) (vs:List Value),vs.length=args.length→eN c h c.W c.β c.κ→(∀ i,i<args.length→G c.W (c.XX h c.β) c.β c.κ (args.getD i .any) (vs.getD i undef)) → Calls P f vs.toArray c.W fun e w'=>∃ V v h' β' κ',e = .returned V∧Post v h'∧eN c h' w' β' κ'∧G w' (c.XX h' β') β' κ' v V
def bp (P:Program) (f:FuncId) (args:List AV) (v:AV):Prop:=bH P f args [] fun r h=>r=v∧h=[]
theorem bH.mono {P:Program} {f:FuncId} {args:List AV} {h:List (Nat×AO)} {Q Q':AV→List (Nat×AO)→Prop} (hc:bH P f args h Q) (hq:∀ v h,Q v h→Q' v h):bH P f args h Q' :=
 fun c vs hl hr hg=>(hc c vs hl hr hg).mono fun _ _ ⟨V,v,h',β',κ',e,q,r⟩=>⟨V,v,h',β',κ',e,hq _ _ q,r⟩
def sV:List AV→Nat→List (Nat×AV)
 | [],_=>[]
 | a::vs0,i=>(i,a)::sV vs0 (i+1)
theorem Gc:∀ (vs0:List AV) (i k:Nat),lk .any (sV vs0 k) i=if i<k then .any else vs0.getD (i-k) .any
 | [],i,k=>by simp [sV,lk]
 | a::vs0,i,k=>by
  simp only [sV,lk,Gc vs0 i (k+1)];by_cases h:i=k
  ·subst h;simp
  ·rw [dz h];simp only [cond_false];by_cases h2:i<k
   ·rw [if_pos (by omega),if_pos h2]
   ·rw [if_neg (by omega),if_neg h2,show i-k=(i-(k+1))+1 by omega,List.getD_cons_succ]
def Nb (P:Program) (s:AS):ResultVar→Option AV
 | .tmp t=>some (lk .any s.t t)
 | .cell a t=>xK P s t (lk .any s.t a)
def KX (P:Program) (s:AS):List ResultVar→Option (List AV)
 | []=>some []
 | r::rs=>match Nb P s r,KX P s rs with | some v,some vs=>some (v::vs) | _,_=>none
def Dn (P:Program) (s:AS) (rs:List ResultVar):Option AV :=
 match KX P s rs with
 | some [v]=>some v
 | some vs=>some (.tup vs)
 | none=>none
def EJ:ResultVar→Array Value→Sem Value
 | .tmp t,tmps=>pure (tmps.getD t undef)
 | .cell a t,tmps=>do loadVar t (← asAddr (tmps.getD a undef))
theorem Ic {P:Program} {s:AS} {c:Cx P} {a:Act} {w:World} {β:Nat→Nat} {κ:Nat→Nat×Nat} (r:Rel c s a w β κ) {x:ResultVar} {v:AV} (h:Nb P s x=some v) :
 ∃ V,(EJ x a.tmps).run P w = .ok V w∧G w (c.XX s.h β) β κ v V:=by
 cases x with
 | tmp t=>cases h;exact ⟨_,rfl,r.tm t⟩
 | cell ad t =>
  simp only [Nb] at h;obtain ⟨V,hr,hG⟩:=vu r (r.tm ad) h;refine ⟨V,?_,hG⟩;unfold xK at h;cases hc:tS s (lk .any s.t ad) with
  | none=>rw [hc] at h;simp at h
  | some cs =>
   obtain ⟨b,o,cv,e,_⟩:=Dz r (r.tm ad) hc;rw [e] at hr;simp only [EJ,e,asAddr,pure_bind];simpa [Instr.loadAt,Instr.sureAddr] using hr
theorem vy {P:Program} {s:AS} {c:Cx P} {a:Act} {w:World} {β:Nat→Nat} {κ:Nat→Nat×Nat} (r:Rel c s a w β κ):∀ {rs:List ResultVar} {vs:List AV},KX P s rs=some vs →
 ∃ Vs:List Value,(rs.mapM fun x=>EJ x a.tmps).run P w = .ok Vs w∧vs.length=Vs.length∧∀ i,i<vs.length→G w (c.XX s.h β) β κ (vs.getD i .any) (Vs.getD i undef)
 | [],vs,h=>by cases h;exact ⟨[],by simp,rfl,fun i hi=>by simp at hi⟩
 | x::rs,vs,h=>by
  unfold KX at h;split at h
  ·rename_i v vs' h1 h2;cases h;obtain ⟨V,hr,hG⟩:=Ic r h1;obtain ⟨Vs,hrs,hl,hGs⟩:=vy r h2;refine ⟨V::Vs,?_,by simp [hl],fun i hi=>?_⟩
   ·simp only [List.mapM_cons,Sem.run_bind,hr,hrs,Result.andThen,Sem.run_pure]
   ·cases i with
    | zero=>exact hG
    | succ i=>simpa using hGs i (by simpa using hi)
  ·cases h
theorem JV {P:Program} {s:AS} {c:Cx P} {a:Act} {w:World} {β:Nat→Nat} {κ:Nat→Nat×Nat} (r:Rel c s a w β κ) {fn:Func} {v:AV} (h:Dn P s fn.results.toList=some v) :
 ∃ V,(results fn a.tmps).run P w = .ok V w∧G w (c.XX s.h β) β κ v V:=by
 unfold Dn at h;have key:(results fn a.tmps)=(do let vs ← fn.results.toList.mapM (fun x=>EJ x a.tmps);pure (if h:vs.toArray.size=1 then vs.toArray[0] else .tuple vs.toArray)):=by
  have k0:(results fn a.tmps)=(do let vs ← fn.results.mapM (fun x=>EJ x a.tmps);pure (if h:vs.size=1 then vs[0] else .tuple vs)):=by unfold results;congr 1;congr 1;funext x;cases x<;>rfl
  rw [k0,Array.mapM_eq_mapM_toList];simp only [bind_map_left]
 split at h
 ·rename_i v' h1;cases h;obtain ⟨Vs,hr,hl,hG⟩:=vy r h1;match Vs,hl with
  | [V],_ =>
   refine ⟨V,?_,hG 0 (by simp)⟩;rw [key];simp only [Sem.run_bind,hr,Result.andThen];simp [go_sem]
 ·rename_i vs h0 h1;cases h;obtain ⟨Vs,hr,hl,hG⟩:=vy r h1;refine ⟨.tuple Vs.toArray,?_,.tup _ _ (by simpa using hl) fun i hi=>?_⟩
  ·rw [key];simp only [Sem.run_bind,hr,Result.andThen];have:¬ (Vs.toArray.size=1):=by
    intro e;have:vs.length=1:=by rw [hl];simpa using e
    match vs,this with
    | [x],_=>exact h0 x rfl
   rw [dif_neg this];rfl
  ·have:=hG i hi;simpa [SZ,SW] using this
 ·cases h
def Sj (P:Program) (rs:List ResultVar) (Post:AV→List (Nat×AO)→Prop):Exit→AS→Prop
 | .ret,s=>∃ v ks,Dn P s rs=some v∧Post v (sel ks s.h)
 | .normal,s=>∃ v ks,Dn P s rs=some v∧Post v (sel ks s.h)
 | _,_=>False
theorem EK {P:Program} {fn:Func} {Post:AV→List (Nat×AO)→Prop} {s:AS} {c:Cx P} {a:Act} {w:World} {β:Nat→Nat} {κ:Nat→Nat×Nat} (r:Rel c s a w β κ) (h:∃ v ks,Dn P s fn.results.toList=some v∧Post v (sel ks s.h)) :
 a.defers=[]∧∃ V,(results fn a.tmps).run P w = .ok V w∧∃ V' v h' β' κ',Ending.returned V = .returned V'∧Post v h'∧eN c h' w β' κ'∧G w (c.XX h' β') β' κ' v V':=by
 obtain ⟨v,ks,hv,hp⟩:=h;obtain ⟨V,hr,hG⟩:=JV r hv;refine ⟨r.df,V,hr,V,v,_,β,κ,rfl,hp,r.hp.sel ks,hG.mono (fun _ _ _=>rfl) (fun b hb _ hb'=>hb (hb'.imp id Hs)) (fun _ _=>.refl)⟩
theorem HU {P:Program} {f:FuncId} {fn:Func} {cd:Code} {args:List AV} {h:List (Nat×AO)} {Post:AV→List (Nat×AO)→Prop} (hf:P.funcs[f]? = some fn) (hb:fn.body=some cd) (n:Nat) (hn:fn.ntmps=n) (rs:List ResultVar) (hrs:fn.results.toList=rs) (hl:args.length≤n)
 (ht:eA P cd (Sj P rs Post) ⟨n,sV args 0,h⟩):bH P f args h Post:=by
 subst hn;subst hrs;intro c vs hvl hr hg;refine calls_of_wp hf hb ?_;have r:Rel c ⟨fn.ntmps,sV args 0,h⟩ { tmps:=vs.toArray++Array.replicate (fn.ntmps-vs.toArray.size) undef,defers:=[] } c.W c.β c.κ:=by
  refine ⟨rfl,by simp;omega,fun i=>?_,hr⟩;show G _ _ _ _ (lk .any (sV args 0) i) _;rw [Gc,if_neg (by omega),Nat.sub_zero];by_cases hi:i<args.length
  ·have:=hg i hi;have e:(vs.toArray++Array.replicate (fn.ntmps-vs.toArray.size) undef).getD i undef=vs.getD i undef:=by simp [SZ,Array.getElem?_append,hvl,hi,SW]
   rw [e];exact this
  ·have:args.getD i .any = .any:=by simp [SW,List.getElem?_eq_none (Nat.le_of_not_lt hi)]
   rw [this];exact .d (.any _)
 refine wp_mono (ht c _ c.W c.β c.κ r) fun e a w ⟨s,β,κ,q,r'⟩=>?_;cases e with
 | normal=>exact EK r' q
 | ret=>exact EK r' q
 | exit id=>exact q.elim
 | goto l=>exact q.elim
 | panic ch=>exact q.elim
 | outgrown=>exact q.elim
section
variable {P:Program} {ops:Array Oper} {o:Oper} {s:AS}
theorem Rel.later {c:Cx P} {a:Act} {w w':World} {β:Nat→Nat} {κ:Nat→Nat×Nat} (r:Rel c s a w β κ) (k:dG (fun b=>b<w.heap.size) w w'):Rel c s a w' β κ:=by
 have hw:∀ i,¬ c.XX s.h β i→i<w.heap.size→w'.heap[i]? = w.heap[i]? := fun i _ hi=>k.block i hi;exact ⟨r.df,r.sz,fun i=>(r.tm i).mono hw (fun _ h _=>h) (fun _ _=>.refl),⟨fun j=>(r.hp.ob j).mono hw (fun _ h _=>h) (fun _ _=>.refl) .refl (fun hl=>k.block _ (r.hp.lt (.inl hl))) (fun _ hl=>k.block _ (r.hp.lt (eZ hl))),
  r.hp.inj,r.hp.kp.trans k (fun b hb=>r.Klt b hb),r.hp.nk,r.hp.nx,r.hp.fix,r.hp.sg⟩⟩
theorem zI {f:FuncId} (he:Go.Proofs.Enters P f) {x:Operand} {ar:Array Operand} {tys:Array TypeId} (hop:o.op = .call ⟨.value x,ar,tys⟩) {a:Act} {w:World} {Vs:Array Value} (hx:a.eval x = .func (.func f) #[] Vs) :
 (execOp a.eval o).run P w = .ok (.enter f (ar.map a.eval++Vs)) w:=by
 simp only [execOp,hop,resolve,hx,Deferred.ofValue,pure_bind,invoke,Array.empty_append];exact he _ w
def AV.sc1:AV→Bool
 | .bool _ | .int _ _ | .str _ | .nilI | .eslice=>true
 | _=>false
def AV.sc:AV→Bool
 | .tup vs=>vs.all AV.sc1
 | .agg vs=>vs.all AV.sc1
 | v=>AV.sc1 v
theorem D.sc1 {w w':World} {X X':Nat→Prop} {v:AV} {V:Value} (h:D w X v V) (hs:AV.sc1 v=true):D w' X' v V:=by cases h<;>first | (simp [AV.sc1] at hs;done) | exact .bool _ | exact .int _ _ | exact .str _ (by assumption) | exact .nilI | exact .eslice _
theorem G.sc1 {w w':World} {X X':Nat→Prop} {β:Nat→Nat} {κ:Nat→Nat×Nat} {v:AV} {V:Value} (h:G w X β κ v V) (hs:AV.sc1 v=true):D w' X' v V:=by cases h<;>first | exact D.sc1 ‹_› hs | (simp [AV.sc1] at hs;done)
theorem j1 {α:Type} {p:α→Bool} {l:List α} {i:Nat} {d:α} (h:l.all p=true) (hi:i<l.length):p (l.getD i d)=true:=by rw [SW,SX hi];exact Tc.1 h _ (List.getElem_mem hi)
theorem G.sc {w w':World} {X X':Nat→Prop} {β:Nat→Nat} {κ:Nat→Nat×Nat} {v:AV} {V:Value} (h:G w X β κ v V) (hs:AV.sc v=true):D w' X' v V:=by
 unfold AV.sc at hs;split at hs
 ·obtain ⟨vs,rfl,hl,hg⟩:=h.tup_inv;exact .tup _ _ hl fun i hi=>(hg i hi).sc1 (j1 hs hi)
 ·obtain ⟨vs,rfl,hl,hg⟩:=h.agg_inv;exact .agg _ _ hl fun i hi=>(hg i hi).sc1 (j1 hs hi)
 ·exact h.sc1 hs
def AV.vw1 (h:List (Nat×AO)):AV→AV
 | .rslice k=>match lk .gone h k with
  | .row _ _ xs=>.dslice xs
  | _=>.any
 | .hptr k o=>match lk .gone h k with
  | .cells _ cs=>bif Nat.blt o cs.length&&AV.flL (cs.drop o) then .dptr (cs.drop o) else .any
  | _=>.any
 | v=>bif AV.fl v then v else .any
def AV.vw (h:List (Nat×AO)):AV→AV
 | .agg cs=>.agg (cs.map (AV.vw1 h))
 | .fn f cs=>.fn f (cs.map (AV.vw1 h))
 | v=>AV.vw1 h v
theorem G.vw1 {c:Cx P} {h:List (Nat×AO)} {w:World} {β:Nat→Nat} {κ:Nat→Nat×Nat} (r:eN c h w β κ) {v:AV} {V:Value} (hg:G w (c.XX h β) β κ v V):D w c.X (AV.vw1 h v) V:=by
 have up:∀ {v V},D w (c.XX h β) v V→D w c.X v V:=fun hd=>hd.mono (fun _ _ _=>rfl) (fun b hb _ hb'=>hb (.inl hb'));unfold AV.vw1;split
 ·rename_i k;split
  ·rename_i e sz xs hk;have ho:=r.ob k;rw [hk] at ho;rcases hg.rslice_inv with ⟨h0,e1⟩ | ⟨h0,ad,rfl⟩
   ·have hne:xs≠[]:=by intro e;subst e;rw [ho.1] at h0;simp at h0
    obtain ⟨cur,h1,h2,h3,h4,h5,h6,h7⟩:=ho.2 hne;have hlive:(lk .gone h k).live:=by rw [hk];exact hne
    rw [e1,ho.1];refine .dslice xs (β k) 0 (κ k).1 sz (fun i j=>cur.getD (i*sz+j) undef) h3 h4 h5 (r.nx k (.inl hlive)) h6 (fun i j hi hj=>?_) (fun i j hi hj=>up (h7 i j hi hj));rw [Nat.zero_add];refine ca h1 ?_;rw [h2];have:(i+1)*sz≤(κ k).1*sz:=Nat.mul_le_mul_right _ (by omega);rw [Nat.add_mul] at this;omega
   ·have:xs=[]:=List.eq_nil_of_length_eq_zero (by rw [← ho.1];exact h0);subst this;exact .dnil _ _ (Nat.zero_le _)
  ·exact .any _
 ·rename_i k o;split
  ·rename_i e cs hk;have ho:=r.ob k;rw [hk] at ho;obtain ⟨cur,h1,h2,h3⟩:=ho;rw [hg.hptr_inv];cases hc:(Nat.blt o cs.length&&AV.flL (cs.drop o)) with
   | false=>exact .any _
   | true =>
    simp only [SY,Nat.blt_eq] at hc;have hlive:(lk .gone h k).live:=by rw [hk];trivial
    refine .dptr (cs.drop o) (β k) o (fun j=>cur.getD (o+j) undef) (by simp;omega) (r.nx k (.inl hlive)) (fun j hj=>?_) (fun j hj=>?_)
    ·simp at hj;exact ca h1 (by omega)
    ·simp at hj;refine up ((?_:G w (c.XX h β) β κ ((cs.drop o).getD j .any) (cur.getD (o+j) undef)).toD (iX (by simpa using hj) hc.2));rw [getD_drop];exact h3 (o+j) (by omega)
  ·exact .any _
 ·rename_i hne;cases hf:AV.fl v with
  | false=>exact .any _
  | true=>exact up (hg.toD hf)
theorem G.vw {c:Cx P} {h:List (Nat×AO)} {w:World} {β:Nat→Nat} {κ:Nat→Nat×Nat} (r:eN c h w β κ) {v:AV} {V:Value} (hg:G w (c.XX h β) β κ v V):D w c.X (AV.vw h v) V:=by
 unfold AV.vw;split
 ·obtain ⟨vs,rfl,hl,hgs⟩:=hg.agg_inv;refine .agg _ _ (by simpa using hl) fun i hi=>?_;have e:∀ cs:List AV,(cs.map (AV.vw1 h)).getD i .any=AV.vw1 h (cs.getD i .any):=fun cs=>getD_map (AV.vw1 h) cs i .any .any rfl;rw [e];exact (hgs i (by simpa using hi)).vw1 r
 ·obtain ⟨vs,rfl,hl,hgs⟩:=hg.fn_inv;refine .fn _ _ _ (by simpa using hl) fun i hi=>?_;have e:∀ cs:List AV,(cs.map (AV.vw1 h)).getD i .any=AV.vw1 h (cs.getD i .any):=fun cs=>getD_map (AV.vw1 h) cs i .any .any rfl;rw [e];exact (hgs i (by simpa using hi)).vw1 r
 ·exact hg.vw1 r
def AS.args (s:AS) (ar:Array Operand) (caps:List AV):List AV:=ar.toList.map s.op++caps
theorem TD {c:Cx P} {a:Act} {w:World} {β:Nat→Nat} {κ:Nat→Nat×Nat} (r:Rel c s a w β κ) (ar:Array Operand) {caps:List AV} {Vs:Array Value} (hl:caps.length=Vs.size) (hg:∀ i,i<caps.length→G w (c.XX s.h β) β κ (caps.getD i .any) (Vs.getD i undef)) :
 (ar.map a.eval++Vs).size=(s.args ar caps).length∧∀ i,i<(s.args ar caps).length→G w (c.XX s.h β) β κ ((s.args ar caps).getD i .any) ((ar.map a.eval++Vs).toList.getD i undef):=by
 refine ⟨by simp [AS.args,hl],fun i hi=>?_⟩;by_cases h:i<ar.size
 ·have:=r.op ar[i];have e1:(s.args ar caps).getD i .any=s.op ar[i]:=by simp [AS.args,SW,List.getElem?_append,h]
  have e2:(ar.map a.eval++Vs).toList.getD i undef=a.eval ar[i]:=by simp [SW,List.getElem?_append,h]
  rw [e1,e2];exact this
 ·have hi':i-ar.size<caps.length:=by simp [AS.args] at hi;omega
  have:=hg (i-ar.size) hi';have e1:(s.args ar caps).getD i .any=caps.getD (i-ar.size) .any:=by unfold AS.args;rw [bz (by simp;omega)];simp
  have e2:(ar.map a.eval++Vs).toList.getD i undef=Vs.getD (i-ar.size) undef:=by simp only [Array.toList_append];rw [bz (by simp;omega)];simp [SW,SZ]
  rw [e1,e2];exact this
def Ev (fl:Bool) (v:AV):Bool:=if fl then AV.fl v else AV.sc v
theorem PM {f:FuncId} (he:Go.Proofs.Enters P f) {x:Operand} {ar:Array Operand} {tys:Array TypeId} (hg:gd ops s o=some true) (hop:o.op = .call ⟨.value x,ar,tys⟩) {caps:List AV} (hx:s.op x = .fn f caps) (fl:Bool)
 {args:List AV} (hargs:(if fl then (if AV.flL (s.args ar caps) then some (s.args ar caps) else none) else some ((s.args ar caps).map (AV.vw s.h)))=some args) {Post:AV→List (Nat×AO)→Prop} (hc:bH P f args [] Post) {N:AS→Prop}
 (hN:∀ v h',Post v h'→Ev fl v=true∧∃ s',s.put o.dst v=some s'∧N s'):nL P ops o s N:=fun c a w β κ r K Q hK=>by
 rw [pq r hg];simp only [if_true];have hX:=r.op x;rw [hx] at hX;obtain ⟨Vs,eV,hl,hgs⟩:=hX.fn_inv;obtain ⟨a1,a2⟩:=TD r ar hl hgs;unfold Oper.wp;rw [zI he hop eV];let X':Nat→Prop:=if fl then c.XX s.h β else c.X
 have hX':∀ b,X' b→b<w.heap.size:=by
  intro b hb;have hx:c.X b→b<w.heap.size:=fun h=>Nat.lt_of_lt_of_le (c.hX b h) r.hp.kp.size;cases fl with
  | true =>
   rcases (hb:c.XX s.h β b) with h | ⟨k,h1,rfl⟩
   ·exact hx h
   ·exact r.hp.lt h1
  | false=>exact hx hb
 let c':Cx P:=⟨fun b=>b<w.heap.size,X',w,β,κ,fun _ h=>h,hX',fun w' hk=>c.gp w' (r.hp.kp.trans hk fun b hb=>r.Klt b hb)⟩
 have hlen:args.length=(s.args ar caps).length:=by
  cases fl with
  | true =>
   split at hargs
   ·rename_i h;simp at h;split at hargs<;>cases hargs;rfl
   ·rename_i h;simp at h
  | false=>simp at hargs;rw [← hargs];simp
 have hD:∀ i,i<args.length→D w X' (args.getD i .any) ((ar.map a.eval++Vs).toList.getD i undef):=by
  intro i hi;have h2:=a2 i (by omega);cases fl with
  | true =>
   simp only [if_true] at hargs;split at hargs
   ·rename_i hf;cases hargs;exact h2.toD (iX hi hf)
   ·cases hargs
  | false =>
   simp only [Bool.false_eq_true,if_false,S9] at hargs;subst hargs;have e:((s.args ar caps).map (AV.vw s.h)).getD i .any=AV.vw s.h ((s.args ar caps).getD i .any):=getD_map (AV.vw s.h) _ i .any .any rfl;rw [e];exact h2.vw r.hp
 have hcall:=hc c' (ar.map a.eval++Vs).toList (by simp [hlen,← a1]) (eN.nil (dG.refl _ _))
  (fun i hi=>.d ((hD i hi).mono (fun _ _ _=>rfl) (fun b hb _ hb'=>hb (hb'.resolve_right (fun ⟨_,h,_⟩=>l6 h)))))
 simp only [Array.toArray_toList] at hcall;refine hcall.mono fun e w' ⟨V,v,h',β',κ',e1,hp,hr',hG⟩=>?_;subst e1;obtain ⟨h1,s',h2,h3⟩:=hN v h' hp;have r2:=r.later hr'.kp;have hGv:G w' (c.XX s.h β) β κ v V:=by
  cases fl with
  | true=>exact .d ((hG.toD h1).mono (fun _ _ _=>rfl) (fun b hb _ hb'=>hb (.inl hb')))
  | false=>exact .d (hG.sc h1)
 exact hK s' _ w' β κ h3 (cC r2 hGv h2)
def AV.vw0 (h:List (Nat×AO)):AV→AV
 | .rslice k=>AV.vw1 h (.rslice k)
 | v=>bif AV.fl v then v else .any
def AV.vwd1 (h:List (Nat×AO)):AV→AV
 | .hptr k o=>match lk .gone h k with
  | .cells _ cs=>bif Nat.blt o cs.length then .dptr ((cs.drop o).map (AV.vw0 h)) else .any
  | _=>.any
 | v=>AV.vw1 h v
def AV.vwd (h:List (Nat×AO)):AV→AV
 | .fn f cs=>.fn f (cs.map (AV.vwd1 h))
 | v=>AV.vw h v
theorem G.vw0 {c:Cx P} {h:List (Nat×AO)} {w:World} {β:Nat→Nat} {κ:Nat→Nat×Nat} (r:eN c h w β κ) {v:AV} {V:Value} (hg:G w (c.XX h β) β κ v V):D w c.X (AV.vw0 h v) V:=by
 unfold AV.vw0;split
 ·exact hg.vw1 r
 ·cases hf:AV.fl v with
  | false=>exact .any _
  | true=>exact (hg.toD hf).mono (fun _ _ _=>rfl) (fun b hb _ hb'=>hb (.inl hb'))
theorem G.vwd1 {c:Cx P} {h:List (Nat×AO)} {w:World} {β:Nat→Nat} {κ:Nat→Nat×Nat} (r:eN c h w β κ) {v:AV} {V:Value} (hg:G w (c.XX h β) β κ v V):D w c.X (AV.vwd1 h v) V:=by
 unfold AV.vwd1;split
 ·rename_i k o;split
  ·rename_i e cs hk;have ho:=r.ob k;rw [hk] at ho;obtain ⟨cur,h1,h2,h3⟩:=ho;rw [hg.hptr_inv];cases hc:Nat.blt o cs.length with
   | false=>exact .any _
   | true =>
    have hc:o<cs.length:=by simpa [Nat.blt_eq] using hc
    have hlive:(lk .gone h k).live:=by rw [hk];trivial
    refine .dptr _ (β k) o (fun j=>cur.getD (o+j) undef) (by simp;omega) (r.nx k (.inl hlive)) (fun j hj=>?_) (fun j hj=>?_)
    ·simp at hj;exact ca h1 (by omega)
    ·simp at hj;rw [getD_map (AV.vw0 h) _ j .any .any rfl,getD_drop];exact (h3 (o+j) (by omega)).vw0 r
  ·exact .any _
 ·exact hg.vw1 r
theorem G.vwd {c:Cx P} {h:List (Nat×AO)} {w:World} {β:Nat→Nat} {κ:Nat→Nat×Nat} (r:eN c h w β κ) {v:AV} {V:Value} (hg:G w (c.XX h β) β κ v V):D w c.X (AV.vwd h v) V:=by
 unfold AV.vwd;split
 ·obtain ⟨vs,rfl,hl,hgs⟩:=hg.fn_inv;refine .fn _ _ _ (by simpa using hl) fun i hi=>?_;have e:∀ cs:List AV,(cs.map (AV.vwd1 h)).getD i .any=AV.vwd1 h (cs.getD i .any):=fun cs=>getD_map (AV.vwd1 h) cs i .any .any rfl;rw [e];exact (hgs i (by simpa using hi)).vwd1 r
 ·exact hg.vw r
theorem Od {f:FuncId} (he:Go.Proofs.Enters P f) {x:Operand} {ar:Array Operand} {tys:Array TypeId} (hg:gd ops s o=some true) (hop:o.op = .call ⟨.value x,ar,tys⟩) {caps:List AV} (hx:s.op x = .fn f caps)
 {v:AV} (hok:AV.sc v=true) (hc:bH P f ((ar.toList.map fun y=>AV.vwd s.h (s.op y))++caps.map (AV.vwd1 s.h)) [] fun r _=>r=v) {s':AS}
 (h2:s.put o.dst v=some s'):nL P ops o s (· = s'):=fun c a w β κ r K Q hK=>by
 rw [pq r hg];simp only [if_true];have hX:=r.op x;rw [hx] at hX;obtain ⟨Vs,eV,hl,hgs⟩:=hX.fn_inv;obtain ⟨a1,a2⟩:=TD r ar hl hgs;unfold Oper.wp;rw [zI he hop eV];have hX':∀ b,c.X b→b<w.heap.size:=fun b hb=>Nat.lt_of_lt_of_le (c.hX b hb) r.hp.kp.size;let c':Cx P:=⟨fun b=>b<w.heap.size,c.X,w,β,κ,fun _ h=>h,hX',fun w' hk=>c.gp w' (r.hp.kp.trans hk fun b hb=>r.Klt b hb)⟩
 have hlen:((ar.toList.map fun y=>AV.vwd s.h (s.op y))++caps.map (AV.vwd1 s.h)).length=(s.args ar caps).length:=by simp [AS.args]
 have hD:∀ i,i<((ar.toList.map fun y=>AV.vwd s.h (s.op y))++caps.map (AV.vwd1 s.h)).length→D w c.X (((ar.toList.map fun y=>AV.vwd s.h (s.op y))++caps.map (AV.vwd1 s.h)).getD i .any) ((ar.map a.eval++Vs).toList.getD i undef):=by
  intro i hi;have h3:=a2 i (by omega);by_cases hlt:i<ar.size
  ·have e1:((ar.toList.map fun y=>AV.vwd s.h (s.op y))++caps.map (AV.vwd1 s.h)).getD i .any=AV.vwd s.h ((s.args ar caps).getD i .any):=by simp [AS.args,SW,List.getElem?_append,hlt]
   rw [e1];exact h3.vwd r.hp
  ·have e1:((ar.toList.map fun y=>AV.vwd s.h (s.op y))++caps.map (AV.vwd1 s.h)).getD i .any=AV.vwd1 s.h ((s.args ar caps).getD i .any):=by unfold AS.args;rw [bz (by simp;omega),bz (by simp;omega)];simp only [S7];rw [getD_map (AV.vwd1 s.h) _ _ .any .any rfl]
   rw [e1];exact h3.vwd1 r.hp
 have hcall:=hc c' (ar.map a.eval++Vs).toList (by rw [hlen];simp [← a1]) (eN.nil (dG.refl _ _))
  (fun i hi=>.d ((hD i hi).mono (fun _ _ _=>rfl) (fun b hb _ hb'=>hb (hb'.resolve_right (fun ⟨_,h,_⟩=>l6 h)))))
 simp only [Array.toArray_toList] at hcall;refine hcall.mono fun e1 w' ⟨V,v',h',β',κ',e1,hp,hr',hG⟩=>?_;subst hp;subst e1;have r2:=r.later hr'.kp;exact hK s' _ w' β κ rfl (cC r2 (.d (hG.sc hok)) h2)
end
def rm {α:Type} (k:Nat):List (Nat×α)→List (Nat×α)
 | []=>[]
 | (j,u)::l=>bif Nat.beq j k then rm k l else (j,u)::rm k l
theorem tr {α:Type} (d:α) (k:Nat) (l:List (Nat×α)) (i:Nat):lk d (rm k l) i=if i=k then d else lk d l i:=by
 induction l with
 | nil=>simp [rm,lk]
 | cons p l ih =>
  obtain ⟨j,u⟩:=p;simp only [rm];by_cases hj:j=k
  ·subst hj;simp only [Nat.beq_refl,cond_true,ih,lk];by_cases h:i=j
   ·subst h;simp
   ·rw [if_neg h,if_neg h,dz h];rfl
  ·rw [dz hj];simp only [cond_false,lk,ih];by_cases h:i=k
   ·subst h;rw [dz (fun e=>hj e.symm)];simp
   ·simp [h]
section
variable {P:Program} {ops:Array Oper} {o:Oper} {s:AS}
theorem Ej {h:List (Nat×AO)} {k j:Nat} (hl:lv (Ab.rm k h) j):lv h j∧(k<1000000→j≠k):=by
 rcases hl with hl | ⟨m,i,rfl,hl⟩
 ·rw [tr] at hl;by_cases e:j=k
  ·rw [if_pos e] at hl;exact hl.elim
  ·rw [if_neg e] at hl;exact ⟨.inl hl,fun _=>e⟩
 ·rw [tr] at hl;by_cases e:m=k
  ·rw [if_pos e] at hl;exact hl.elim
  ·rw [if_neg e] at hl;exact ⟨.inr ⟨m,i,rfl,hl⟩,fun hk=>by have:=iR m i;omega⟩
theorem eN.rm {c:Cx P} {h:List (Nat×AO)} {w:World} {β:Nat→Nat} {κ:Nat→Nat×Nat} (r:eN c h w β κ) (k:Nat):eN c (Ab.rm k h) w β κ∧∀ b,own (Ab.rm k h) β b→own h β b:=by
 have ho:∀ b,own (Ab.rm k h) β b→own h β b:=by rintro b ⟨j,hl,hj⟩;exact ⟨j,(Ej hl).1,hj⟩
 refine ⟨⟨fun j=>?_,fun i j hi hj e=>r.inj i j (Ej hi).1 (Ej hj).1 e,r.kp,fun j hj=>r.nk j (Ej hj).1,fun j hj=>r.nx j (Ej hj).1,r.fix,fun j hj=>?_⟩,ho⟩
 ·rw [tr];by_cases e:j=k
  ·rw [if_pos e];trivial
  ·rw [if_neg e];exact (r.ob j).mono (fun _ _ _=>rfl) (fun b hb _ hb'=>hb (hb'.imp id (ho b))) (fun _ _=>.refl) .refl (fun _=>rfl) (fun _ _=>rfl)
 ·rw [tr] at hj;by_cases e:j=k
  ·rw [if_pos e] at hj;exact absurd rfl hj
  ·rw [if_neg e] at hj;exact r.sg j hj
def AS.drop2 (s:AS) (k k':Nat):AS:=⟨s.n,vl k (vl k' s.t),rm k (lu k (lu k' s.h))⟩
theorem NZ (k k':Nat) (s:AS):(∀ i,AV.men k (lk .any (s.drop2 k k').t i)=false∧AV.men k' (lk .any (s.drop2 k k').t i)=false)∧(∀ i,AO.men k (lk .gone (s.drop2 k k').h i)=false∧AO.men k' (lk .gone (s.drop2 k k').h i)=false):=by
 constructor
 ·intro i;simp only [AS.drop2,jT];refine ⟨AV.men_pg k _,?_⟩;rw [Bool.eq_false_iff];intro h;have:=AV.men_pg' h;rw [AV.men_pg] at this;cases this
 ·intro i;simp only [AS.drop2,tr,ij];by_cases e:i=k
  ·rw [if_pos e];exact ⟨rfl,rfl⟩
  ·rw [if_neg e];refine ⟨AO.men_pg k _,?_⟩;rw [Bool.eq_false_iff];intro h;have:=AO.men_pg' h;rw [AO.men_pg] at this;cases this
theorem Aj {k k' j:Nat} (hl:lv (s.drop2 k k').h j):lv s.h j∧(k<1000000→j≠k):=by obtain ⟨h1,h2⟩:=Ej hl;rw [uz,uz] at h1;exact ⟨h1,h2⟩
theorem Rel.drop2 {c:Cx P} {a:Act} {w:World} {β:Nat→Nat} {κ:Nat→Nat×Nat} (r:Rel c s a w β κ) (k k':Nat):Rel c (s.drop2 k k') a w β κ:=by have r2:=(r.pg k').pg k;obtain ⟨h1,h2⟩:=r2.hp.rm k;exact ⟨r2.df,r2.sz,fun i=>(r2.tm i).mono (fun _ _ _=>rfl) (fun b hb _ hb'=>hb (hb'.imp id (h2 b))) (fun _ _=>.refl),h1⟩
theorem eN.rebind {c:Cx P} {h:List (Nat×AO)} {w w':World} {β:Nat→Nat} {κ:Nat→Nat×Nat} (r:eN c h w β κ) {k' b:Nat} (hk:k'<1000) (hm:∀ j,j≠k'→AO.men k' (lk .gone h j)=false) (cap:Nat×Nat) {ob:AO}
 (hbX:¬ c.X b) (hbK:¬ c.K b) (hfree:∀ j,lv h j→β j≠b) (hw:∀ i,i≠b→w'.heap[i]? = w.heap[i]?) (hkp:dG (fun i=>i≠b) w w')
 (ho:HO w' (c.XX (ins k' ob h) (upd β k' b)) (upd β k' b) (upd κ k' cap) k' ob) (rw':∀ j,HO w (fun i=>c.XX h β i∨i=b) β κ j (lk .gone h j)) (hi:∀ j,¬ ob.inn j:=by exact fun _ h=>h) :
 eN c (ins k' ob h) w' (upd β k' b) (upd κ k' cap) ∧
 ∀ {v:AV} {V:Value},G w (fun i=>c.XX h β i∨i=b) β κ v V→AV.men k' v=false→G w' (c.XX (ins k' ob h) (upd β k' b)) (upd β k' b) (upd κ k' cap) v V:=by
 have hk6:k'<1000000:=by omega
 have hX:∀ i,¬ (c.XX h β i∨i=b)→i<w.heap.size→¬ c.XX (ins k' ob h) (upd β k' b) i:=by
  rintro i hi2 hlt (hx | ⟨j,hl,hj⟩)
  ·exact hi2 (.inl (.inl hx))
  ·rcases iO hk6 hi hl with ⟨e,_⟩ | ⟨e,hl⟩
   ·subst e;rw [bh] at hj;exact hi2 (.inr hj.symm)
   ·rw [cM β e] at hj;exact hi2 (.inl (.inr ⟨j,hl,hj⟩))
 have hw2:∀ i,¬ (c.XX h β i∨i=b)→i<w.heap.size→w'.heap[i]? = w.heap[i]? := fun i hi _=>hw i (fun e=>hi (.inr e));refine ⟨⟨fun j=>?_,fun i j hi2 hj e=>?_,r.kp.trans hkp (fun i hi e=>hbK (e ▸ hi)),fun j hj=>?_,fun j hj=>?_,fun j hj hj6=>?_,fun j hj=>?_⟩,fun {v V} hg hmv=>hg.mono hw2 hX fun j hj=>?_⟩
 ·rw [bB];by_cases e:j=k'
  ·subst e;simpa using ho
  ·rw [if_neg e];refine (rw' j).mono hw2 hX (fun i hi=>?_) (.upd hk6 e) (fun hl=>hw _ (hfree j (.inl hl))) (fun i hl=>hw _ (hfree _ (eZ hl)));exact .upd hk6 fun e2=>by subst e2;rw [hm j e] at hi;cases hi
 ·rcases iO hk6 hi hi2 with ⟨e1,_⟩ | ⟨e1,hi2⟩<;>rcases iO hk6 hi hj with ⟨e2,_⟩ | ⟨e2,hj⟩
  ·rw [e1,e2]
  ·rw [e1,bh,cM β e2] at e;exact absurd e.symm (hfree j hj)
  ·rw [e2,bh,cM β e1] at e;exact absurd e (hfree i hi2)
  ·rw [cM β e1,cM β e2] at e;exact r.inj i j hi2 hj e
 ·rcases iO hk6 hi hj with ⟨e,_⟩ | ⟨e,hj⟩
  ·subst e;rw [bh];exact hbK
  ·rw [cM β e];exact r.nk j hj
 ·rcases iO hk6 hi hj with ⟨e,_⟩ | ⟨e,hj⟩
  ·subst e;rw [bh];exact hbX
  ·rw [cM β e];exact r.nx j hj
 ·have:j≠k':=by omega
  rw [cM β this,cM κ this];exact r.fix j hj hj6
 ·rw [bB] at hj;by_cases e:j=k'
  ·omega
  ·rw [if_neg e] at hj;exact r.sg j hj
 ·exact .upd hk6 fun e2=>by subst e2;rw [hmv] at hj;cases hj
def EL (sz:Nat) (ys:List (List AV)):Prop:=∀ y∈ys,y.length=sz∧∀ v∈y,v.one=true∧v.fl=true
theorem EL.nil (sz:Nat):EL sz []:=fun y hy=>by cases hy
theorem EL.map {α:Type} {sz:Nat} {f:α→List AV} (h:∀ x,(f x).length=sz∧∀ v∈f x,v.one=true∧v.fl=true) (l:List α):EL sz (l.map f):=by intro y hy;obtain ⟨x,_,rfl⟩:=List.mem_map.1 hy;exact h x
theorem EL.one {sz:Nat} {y:List AV} (h:y.length=sz) (h2:y.all (fun v=>v.one&&v.fl)=true):EL sz [y]:=by intro z hz;simp only [List.mem_singleton] at hz;subst hz;refine ⟨h,fun v hv=>?_⟩;have:=Tc.1 h2 v hv;simpa using this
theorem Dc {w:World} {X:Nat→Prop} {ys:List (List AV)} {V:Value} {sz:Nat} (h:D w X (.dslice ys) V) (hE:EL sz ys) (hy:ys≠[]) :
 ∃ (ad:Addr) (cap:Nat) (news:List Value),V = .slice (some ad) ys.length cap∧news.length=ys.length*sz∧(∀ j u,news[j]? = some u→w.cell? (ad.add j)=some u)∧(∀ u∈news,u.oneCell'=true) ∧
  ∀ i j,i<ys.length→j<sz→D w X ((ys.getD i []).getD j .any) (news.getD (i*sz+j) undef):=by
 cases h with
 | dnil=>exact absurd rfl hy
 | dslice _ b o cap sz' cv h1 h2 h0 h3 h4 h5 h6 =>
  have hl:0<ys.length:=by cases ys with | nil=>exact absurd rfl hy | cons _ _=>simp
  have hsz:sz'=sz:=by
   rw [← h4 0 hl];have:ys.getD 0 []∈ys:=by rw [SW,SX hl];exact List.getElem_mem hl
   exact (hE _ this).1
  subst hsz;have hdm:∀ j,j<ys.length*sz'→j / sz'<ys.length∧j % sz'<sz'∧j / sz'*sz'+j % sz'=j:=fun j hj=>⟨(Nat.div_lt_iff_lt_mul h0).2 hj,Nat.mod_lt _ h0,by rw [Nat.mul_comm];exact Nat.div_add_mod j sz'⟩;have hg:∀ j,j<ys.length*sz'→((List.range (ys.length*sz')).map fun j=>cv (j / sz') (j % sz'))[j]? = some (cv (j / sz') (j % sz')):=fun j hj=>by simp [hj]
  refine ⟨⟨b,o,none⟩,cap,(List.range (ys.length*sz')).map fun j=>cv (j / sz') (j % sz'),rfl,by simp,fun j u hu=>?_,fun u hu=>?_,fun i j hi hj=>?_⟩
  ·have hj:j<ys.length*sz':=by have:=(S8.1 hu).1;simpa using this
   rw [hg j hj] at hu;cases hu;obtain ⟨a1,a2,a3⟩:=hdm j hj;have:=h5 _ _ a1 a2;rw [a3] at this;rw [mR];exact this
  ·obtain ⟨j,hj,rfl⟩:=List.mem_map.1 hu;obtain ⟨a1,a2,a3⟩:=hdm j (by simpa using hj);have hd:=h6 _ _ a1 a2;have hm:ys.getD (j / sz') []∈ys:=by rw [SW,SX a1];exact List.getElem_mem a1
   have hm2:(ys.getD (j / sz') []).getD (j % sz') .any∈ys.getD (j / sz') []:=by rw [SW (l:=ys.getD (j / sz') []),SX (by rw [h4 _ a1];exact a2)];exact List.getElem_mem _
   exact hd.one ((hE _ hm).2 _ hm2).1
  ·have hij:i*sz'+j<ys.length*sz':=by have:(i+1)*sz'≤ys.length*sz':=Nat.mul_le_mul_right _ hi;rw [Nat.add_mul] at this;omega
   have e1:(i*sz'+j) / sz'=i:=by rw [Nat.mul_comm,Nat.mul_add_div h0,Nat.div_eq_of_lt hj,Nat.add_zero]
   have e2:(i*sz'+j) % sz'=j:=by rw [Nat.mul_comm,Nat.mul_add_mod,Nat.mod_eq_of_lt hj]
   have e0:((List.range (ys.length*sz')).map fun j=>cv (j / sz') (j % sz')).getD (i*sz'+j) undef=cv i j:=by rw [SW,hg _ hij,e1,e2];rfl
   rw [e0];exact h6 i j hi hj
theorem BF {t e:TypeId} {i:TypeInfo} {w:World} (ht:P.underlying t=some (.slice e)) (hi:P.info? e=some i) (ad:Option Addr) (n cap:Nat) (hn:n≤cap) (b:Option Addr) (c:Nat) (ty:TypeId) :
 (Builtin.append_ #[t,t] ty #[.slice ad n cap,.slice b 0 c]).run P w = .ok (.slice ad n cap) w:=by
 cases ad<;>cases b<;>simp [Builtin.append_,run_underlying ht,sizeOf,typeInfo,hi,Builtin.lenOf,Builtin.firstCells,hn,loadCells,loadCellsFrom,storeCells,go_sem]
def jS (P:Program) (t:TypeId):Option (TypeId×Nat×Nat) :=
 match KS P t with
 | some e=>match P.info? e with
  | some i=>match i.zero with
   | some z=>if z.cells.size=i.size∧0<i.size then some (e,i.size,i.bytes) else none
   | none=>none
  | none=>none
 | none=>none
theorem nP {t e:TypeId} {sz by_:Nat} (h:jS P t=some (e,sz,by_)):P.underlying t=some (.slice e)∧∃ i z,P.info? e=some i∧i.zero=some z∧i.size=sz∧i.bytes=by_∧z.cells.size=sz∧0<sz:=by
 unfold jS at h;split at h
 ·rename_i e' he;split at h
  ·rename_i i hi;split at h
   ·rename_i z hz;split at h
    ·rename_i hc;cases h;exact ⟨eD he,i,z,hi,hz,rfl,rfl,hc.1,hc.2⟩
    ·cases h
   ·cases h
  ·cases h
 ·cases h
def AS.grow (s:AS) (k k':Nat) (e:TypeId) (sz:Nat) (zs:List (List AV)):Option AS :=bif Nat.blt k' s.n&&Nat.blt k' 1000 then some ⟨s.n,ins k' (.rslice k') (s.drop2 k k').t,ins k' (.row e sz zs) (s.drop2 k k').h⟩ else none
theorem Df {c:Cx P} {a:Act} {w:World} {β:Nat→Nat} {κ:Nat→Nat×Nat} {s:AS} (r:Rel c s a w β κ) {k k':Nat} {e:TypeId} {sz:Nat} {zs:List (List AV)} {s':AS} (h:s.grow k k' e sz zs=some s') (arr:Array Value) (C:Nat) (hz:zs≠[]) (hsz:0<sz)
 (hl:∀ i,i<zs.length→(zs.getD i []).length=sz) (hs:arr.size=C*sz) (hC:zs.length≤C) (hCm:C≤maxLen)
 (hG:∀ i j,i<zs.length→j<sz→D w (c.XX s.h β) ((zs.getD i []).getD j .any) (arr.getD (i*sz+j) undef)) :
 ∃ β' κ',Rel c s' (a.put (some k') (.slice (some ⟨w.heap.size,0,none⟩) zs.length C)) (w.drew.alloc (.cells arr e)) β' κ':=by
 unfold AS.grow at h;cases hc:(Nat.blt k' s.n&&Nat.blt k' 1000) with
 | false=>rw [hc] at h;cases h
 | true =>
  rw [hc] at h;cases h;simp only [SY,Nat.blt_eq] at hc;have r':=(r.drew).drop2 k k';obtain ⟨m1,m2⟩:=NZ k k' s;have hw:∀ b,b<w.heap.size→(w.drew.alloc (.cells arr e)).heap[b]? = w.heap[b]? := fun b hb=>ir w.drew _ hb;have hsub:∀ b,¬ c.XX s.h β b→b<w.heap.size→¬ c.XX (ins k' (.row e sz zs) (s.drop2 k k').h) (upd β k' w.heap.size) b:=by
   rintro b hb hlt (hx | ⟨j,hl,hj⟩)
   ·exact hb (.inl hx)
   ·rcases iO (o:=.row e sz zs) (by omega) (fun _ h=>h) hl with ⟨ej,_⟩ | ⟨ej,hl⟩
    ·subst ej;rw [bh] at hj;omega
    ·rw [cM β ej] at hj;exact hb (.inr ⟨j,(Aj hl).1,hj⟩)
  obtain ⟨h1,h2⟩:=r'.hp.anew (w':=w.drew.alloc (.cells arr e)) hc.2 (fun j _=>(m2 j).2) w.heap.size (C,zs.length) (Nat.le_refl _) hw (fJ _ w.drew _ r.Klt) (o:=.row e sz zs)
   ⟨by rw [bh],fun _=>⟨arr,by rw [bh];exact nS w.drew _,by rw [bh];exact hs,by rw [bh];exact hC,by rw [bh];exact hCm,hsz,hl,fun i j hi hj=>(hG i j hi hj).mono (w:=w) (fun b _ hb=>hw b hb) hsub⟩⟩
  refine ⟨upd β k' w.heap.size,upd κ k' (C,zs.length),r.df,by simp [Act.put,r.sz],fun i=>?_,h1⟩;show G _ _ _ _ (lk .any (ins k' (.rslice k') (s.drop2 k k').t) i) _;rw [bB];by_cases hi:i=k'
  ·subst hi;have hi':i<a.tmps.size:=by rw [r.sz];exact hc.1
   have hlz:0<zs.length:=by cases zs with | nil=>exact absurd rfl hz | cons _ _=>simp
   have:=G.rslice (w:=w.drew.alloc (.cells arr e)) (X:=c.XX (ins i (.row e sz zs) (s.drop2 k i).h) (upd β i w.heap.size)) (β:=upd β i w.heap.size) (κ:=upd κ i (C,zs.length)) i (by rw [bh];exact hlz);rw [bh,bh] at this;simpa [Act.put,SZ,Array.getElem?_setIfInBounds,hi'] using this
  ·have:=h2 (r'.tm i) (m1 i).2;rw [if_neg hi];have hne:¬ k'=i:=fun e=>hi e.symm;simpa [Act.put,SZ,Array.getElem?_setIfInBounds,hne] using this
theorem MH {c:Cx P} {a:Act} {w:World} {β:Nat→Nat} {κ:Nat→Nat×Nat} {s:AS} (r:Rel c s a w β κ) {k k':Nat} {e:TypeId} {sz:Nat} {s':AS} (h:s.grow k k' e sz []=some s') (ad:Option Addr) :
 Rel c s' (a.put (some k') (.slice ad 0 0)) w β (upd κ k' (0,0)):=by
 unfold AS.grow at h;cases hc:(Nat.blt k' s.n&&Nat.blt k' 1000) with
 | false=>rw [hc] at h;cases h
 | true =>
  rw [hc] at h;cases h;simp only [SY,Nat.blt_eq] at hc;have r':=r.drop2 k k';obtain ⟨m1,m2⟩:=NZ k k' s;have hk6:k'<1000000:=by omega
  have hlive:∀ {j},lv (ins k' (.row e sz []) (s.drop2 k k').h) j→lv (s.drop2 k k').h j:=by
   intro j hl;rcases iO (o:=.row e sz []) hk6 (fun _ h=>h) hl with ⟨_,h0⟩ | ⟨_,hl⟩
   ·exact absurd rfl h0
   ·exact hl
  have hX:∀ b,¬ c.XX (s.drop2 k k').h β b→b<w.heap.size→¬ c.XX (ins k' (.row e sz []) (s.drop2 k k').h) β b:=by
   rintro b hb _ (hx | ⟨j,hl,hj⟩)
   ·exact hb (.inl hx)
   ·exact hb (.inr ⟨j,hlive hl,hj⟩)
  refine ⟨r.df,by simp [Act.put,r.sz],fun i=>?_,⟨fun j=>?_,fun i j hi hj e=>r'.hp.inj i j (hlive hi) (hlive hj) e,r.hp.kp,fun j hj=>r'.hp.nk j (hlive hj),fun j hj=>r'.hp.nx j (hlive hj),fun j hj hj6=>?_,fun j hj=>?_⟩⟩
  ·show G _ _ _ _ (lk .any (ins k' (.rslice k') (s.drop2 k k').t) i) _;rw [bB];by_cases hi:i=k'
   ·subst hi;have hi':i<a.tmps.size:=by rw [r.sz];exact hc.1
    simpa [Act.put,SZ,Array.getElem?_setIfInBounds,hi'] using (G.rslice0 i ad (by rw [bh]):G w (c.XX (ins i (.row e sz []) (s.drop2 k i).h) β) β (upd κ i (0,0)) (.rslice i) (.slice ad 0 0))
   ·have:=(r'.tm i).mono (w':=w) (κ':=upd κ k' (0,0)) (β':=β) (fun _ _ _=>rfl) hX (fun j hj=>.updκ hk6 (fun e=>by rw [e,(m1 i).2] at hj;cases hj));rw [if_neg hi];have hne:¬ k'=i:=fun e=>hi e.symm;simpa [Act.put,SZ,Array.getElem?_setIfInBounds,hne] using this
  ·show HO _ _ _ _ j (lk .gone (ins k' (.row e sz []) (s.drop2 k k').h) j);rw [bB];by_cases ej:j=k'
   ·rw [if_pos ej,ej];exact ⟨by rw [bh];rfl,fun h=>absurd rfl h⟩
   ·rw [if_neg ej];exact (r'.hp.ob j).mono (w':=w) (fun _ _ _=>rfl) hX (fun i hi=>.updκ hk6 (fun e=>by rw [e,(m2 j).2] at hi;cases hi)) (.updκ hk6 ej) (fun _=>rfl) (fun _ _=>rfl)
  ·have:j≠k':=by omega
   rw [cM κ this];exact r.hp.fix j hj hj6
  ·rw [bB] at hj;by_cases ej:j=k'
   ·omega
   ·rw [if_neg ej] at hj;exact r'.hp.sg j hj
theorem Jo {c:Cx P} {a:Act} {w w':World} {β:Nat→Nat} {κ:Nat→Nat×Nat} {s:AS} (r:Rel c s a w β κ) {k k':Nat} {e:TypeId} {sz:Nat} {zs:List (List AV)} {s':AS} (h:s.grow k k' e sz zs=some s') (hk:(lk .gone s.h k).live) (arr:Array Value) (hz:zs≠[]) (hsz:0<sz)
 (hw:∀ i,i≠β k→w'.heap[i]? = w.heap[i]?) (hkp:dG (fun i=>i≠β k) w w') (harr:w'.heap[β k]? = some (.cells arr e (0,0)))
 (hl:∀ i,i<zs.length→(zs.getD i []).length=sz) (hs:arr.size=(κ k).1*sz) (hC:zs.length≤(κ k).1) (hCm:(κ k).1≤maxLen)
 (hG:∀ i j,i<zs.length→j<sz→D w (c.XX s.h β) ((zs.getD i []).getD j .any) (arr.getD (i*sz+j) undef)) :
 ∃ β' κ',Rel c s' (a.put (some k') (.slice (some ⟨β k,0,none⟩) zs.length (κ k).1)) w' β' κ':=by
 unfold AS.grow at h;cases hc:(Nat.blt k' s.n&&Nat.blt k' 1000) with
 | false=>rw [hc] at h;cases h
 | true =>
  rw [hc] at h;cases h;simp only [SY,Nat.blt_eq] at hc;have r':=r.drop2 k k';have r2:=(r.pg k').pg k;obtain ⟨m1,m2⟩:=NZ k k' s;have hbX:c.XX s.h β (β k):=.inr ⟨k,.inl hk,rfl⟩;have hlive:∀ {j},lv (s.drop2 k k').h j→j≠k∧lv s.h j:=fun hl=>⟨(Aj hl).2 (r.hp.sm k hk),(Aj hl).1⟩;have hsub:∀ b,¬ c.XX s.h β b→b<w.heap.size→¬ (c.XX (s.drop2 k k').h β b∨b=β k):=by
   rintro b hb hlt ((hx | ⟨j,hl,hj⟩) | rfl)
   ·exact hb (.inl hx)
   ·exact hb (.inr ⟨j,(hlive hl).2,hj⟩)
   ·exact hb hbX
  have hXs:∀ b,¬ c.XX s.h β b→b<w.heap.size→¬ c.XX (ins k' (.row e sz zs) (s.drop2 k k').h) (upd β k' (β k)) b:=by
   rintro b hb hlt (hx | ⟨j,hl,hj⟩)
   ·exact hb (.inl hx)
   ·rcases iO (o:=.row e sz zs) (by omega) (fun _ h=>h) hl with ⟨ej,_⟩ | ⟨ej,hl⟩
    ·subst ej;rw [bh] at hj;exact hb (hj ▸ hbX)
    ·rw [cM β ej] at hj;exact hb (.inr ⟨j,(hlive hl).2,hj⟩)
  have hpgX:c.XX (lu k (lu k' s.h)) β=c.XX s.h β:=by funext b;simp [Cx.XX,De]
  obtain ⟨h1,h2⟩:=r'.hp.rebind (w':=w') (k':=k') (b:=β k) hc.2 (fun j _=>(m2 j).2) ((κ k).1,zs.length) (ob:=.row e sz zs) (r.hp.nx k (.inl hk)) (r.hp.nk k (.inl hk)) (fun j hl e=>(hlive hl).1 (r.hp.inj j k (hlive hl).2 (.inl hk) e)) hw hkp
   ⟨by rw [bh],fun _=>⟨arr,by rw [bh];exact harr,by rw [bh];exact hs,by rw [bh];exact hC,by rw [bh];exact hCm,hsz,hl,fun i j hi hj=>(hG i j hi hj).mono (fun b hb _=>hw b (fun e=>hb (e ▸ hbX))) hXs⟩⟩
   (fun j=>by
    show HO w _ β κ j (lk .gone (rm k (lu k (lu k' s.h))) j);rw [tr];by_cases ej:j=k
    ·rw [if_pos ej];trivial
    ·rw [if_neg ej];have:=r2.hp.ob j;rw [show c.XX (⟨s.n,vl k (vl k' s.t),lu k (lu k' s.h)⟩:AS).h β=c.XX s.h β from hpgX] at this;exact this.mono (fun _ _ _=>rfl) hsub (fun _ _=>.refl) .refl (fun _=>rfl) (fun _ _=>rfl))
  refine ⟨upd β k' (β k),upd κ k' ((κ k).1,zs.length),r.df,by simp [Act.put,r.sz],fun i=>?_,h1⟩;show G _ _ _ _ (lk .any (ins k' (.rslice k') (s.drop2 k k').t) i) _;rw [bB];by_cases hi:i=k'
  ·subst hi;have hi':i<a.tmps.size:=by rw [r.sz];exact hc.1
   have hlz:0<zs.length:=by cases zs with | nil=>exact absurd rfl hz | cons _ _=>simp
   have:=G.rslice (w:=w') (X:=c.XX (ins i (.row e sz zs) (s.drop2 k i).h) (upd β i (β k))) (β:=upd β i (β k)) (κ:=upd κ i ((κ k).1,zs.length)) i (by rw [bh];exact hlz);rw [bh,bh] at this;simpa [Act.put,SZ,Array.getElem?_setIfInBounds,hi'] using this
  ·have g0:G w (fun b=>c.XX (s.drop2 k k').h β b∨b=β k) β κ (lk .any (s.drop2 k k').t i) (a.tmps.getD i undef):=by have:=r2.tm i;rw [show c.XX (⟨s.n,vl k (vl k' s.t),lu k (lu k' s.h)⟩:AS).h β=c.XX s.h β from hpgX] at this;exact this.mono (fun _ _ _=>rfl) hsub (fun _ _=>.refl)
   have:=h2 g0 (m1 i).2;rw [if_neg hi];have hne:¬ k'=i:=fun e=>hi e.symm;simpa [Act.put,SZ,Array.getElem?_setIfInBounds,hne] using this
theorem rH (arr:Array Value) (i:Nat):arr.toList.getD i undef=arr.getD i undef:=by simp [SZ,SW]
theorem iB {l m:List Value} {i:Nat} (h:i<l.length):(l++m).getD i undef=l.getD i undef:=bV h
theorem o4 {l m:List Value} {i:Nat} (h:l.length≤i):(l++m).getD i undef=m.getD (i-l.length) undef:=bz h
theorem Kt {x y:Operand} {t e:TypeId} {sz by_ k':Nat} {xs ys:List (List AV)} (hg:gd ops s o=some true) (hop:o.op = .call ⟨.builtin .append,#[x,y],#[t,t]⟩) (hd:o.dst=some k') (he:jS P t=some (e,sz,by_))
 (hx:s.op x = .cslice xs) (hy:s.op y = .dslice ys) (hE:EL sz (xs++ys)) (hys:ys≠[]) (hb:(xs.length+ys.length)*by_≤140737488355328) (h63:xs.length+ys.length≤9223372036854775807) {s':AS} (h:s.grow k' k' e sz (xs++ys)=some s'):nL P ops o s (· = s') :=
 cG hg fun c a w β κ r=>by
  obtain ⟨hu,i,z,hi,hz,rfl,rfl,hzs,hsz⟩:=nP he;have hX:=r.op x;have hY:=r.op y;rw [hx] at hX;rw [hy] at hY;obtain ⟨hdX,adX,eX⟩:=hX.cslice_inv;obtain ⟨hdY,ad2,cap2,eY,_⟩:=hY.dslice_inv;have hexec:∀ {V V' w'},a.eval x=V'→(Builtin.append_ #[t,t] o.type #[V',a.eval y]).run P w = .ok V w'→(execOp a.eval o).run P w = .ok (.value V) w':=by intro V V' w' e1 hr;simp only [execOp,hop,resolve,invoke,builtin,Sem.run_bind,Sem.run_pure,Result.andThen_ok,List.map_toArray,List.map_cons,List.map_nil,e1,hr]
  have hEx:EL i.size xs:=fun v hv=>hE v (List.mem_append_left _ hv);have hEy:EL i.size ys:=fun v hv=>hE v (List.mem_append_right _ hv);have hEl:∀ j,j<(xs++ys).length→((xs++ys).getD j []).length=i.size:=by intro j hj;exact (hE _ (by rw [SW,SX hj];exact List.getElem_mem hj)).1
  obtain ⟨bd,cap,news,e1,n1,n2,n3,n4⟩:=Dc hdY hEy hys;have hm:0<ys.length:=by cases ys with | nil=>exact absurd rfl hys | cons _ _=>simp
  let C:=grownCap w (xs.length+ys.length) xs.length e
  have hC:xs.length+ys.length≤C:=grownCap_ge w _ _ _;have hCm:C≤maxLen:=grownCap_le_maxLen w _ _ _ (by unfold maxLen;omega);by_cases hxs:xs=[]
  ·subst hxs;simp only [List.length_nil,Nat.zero_add,List.nil_append] at hb h63 hC hCm h hEl eX;let arr:Array Value:=news.toArray++Builtin.zeroCells z.cells (C-ys.length)
   have hrun:(Builtin.append_ #[t,t] o.type #[.slice adX 0 0,a.eval y]).run P w = .ok (.slice (some ⟨w.heap.size,0,none⟩) ys.length C) (w.drew.alloc (.cells arr e)):=by
    rw [e1];have hC0:C=grownCap w ys.length 0 e:=by simp [C]
    cases adX with
    | none =>
     have:=run_append_nil (P:=P) w t o.type e i z hu hi hz bd ys.length cap news n1 n2 hm (by omega) (by omega);simpa [arr,hC0] using this
    | some b0 =>
     have:=run_append_grow (P:=P) w t o.type e i z hu hi hz b0 0 0 [] (by simp) (fun j v hv=>by simp at hv) bd ys.length cap news n1 n2 (by omega) (by omega) (growslice_fits (by omega) (by simpa using hb));simpa [arr,hC0] using this
   have hsz2:arr.size=C*i.size:=by simp only [arr,Array.size_append,List.size_toArray,size_zeroCells,n1,hzs,← Nat.add_mul];congr 1;omega
   obtain ⟨β',κ',r'⟩:=Df r h arr C hys hsz hEl hsz2 hC hCm (fun i' j hi' hj=>by
    have:=n4 i' j hi' hj;have hij:i'*i.size+j<news.length:=by rw [n1];have:(i'+1)*i.size≤ys.length*i.size:=Nat.mul_le_mul_right _ hi';rw [Nat.add_mul] at this;omega
    have e2:arr.getD (i'*i.size+j) undef=news.getD (i'*i.size+j) undef:=by simp [arr,SZ,Array.getElem?_append,hij,SW]
    rw [e2];exact this)
   refine ⟨_,_,β',κ',.inl (hexec eX hrun),?_⟩;rw [hd];simpa using r'
  ·obtain ⟨bx,capx,olds,f1,m1,m2,m3,m4⟩:=Dc hdX hEx hxs;have f2:a.eval x = .slice (some bx) xs.length xs.length:=by rw [eX] at f1;cases f1;exact eX
   let arr:Array Value:=(olds++news).toArray++Builtin.zeroCells z.cells (C-(xs.length+ys.length))
   have hrun:(Builtin.append_ #[t,t] o.type #[.slice (some bx) xs.length xs.length,a.eval y]).run P w = .ok (.slice (some ⟨w.heap.size,0,none⟩) (xs.length+ys.length) C) (w.drew.alloc (.cells arr e)):=by rw [e1];have:=run_append_grow (P:=P) w t o.type e i z hu hi hz bx xs.length xs.length olds m1 m2 bd ys.length cap news n1 n2 (by omega) (by omega) (growslice_fits (by omega) hb);simpa [arr,C] using this
   have hsz2:arr.size=C*i.size:=by simp only [arr,Array.size_append,List.size_toArray,List.length_append,size_zeroCells,m1,n1,hzs,← Nat.add_mul];congr 1;omega
   obtain ⟨β',κ',r'⟩:=Df r h arr C (by simp [hxs]) hsz hEl hsz2 (by simpa using hC) hCm (fun i' j hi' hj=>by
    have hle:(olds++news).length=(xs.length+ys.length)*i.size:=by rw [List.length_append,m1,n1,Nat.add_mul]
    have hij:i'*i.size+j<(olds++news).length:=by rw [hle];have:(i'+1)*i.size≤(xs.length+ys.length)*i.size:=Nat.mul_le_mul_right _ (by simp at hi';omega);rw [Nat.add_mul] at this;omega
    have e2:arr.getD (i'*i.size+j) undef=(olds++news).getD (i'*i.size+j) undef:=by simp only [arr,SZ,SW];rw [Array.getElem?_append_left (by simpa using hij)];simp
    rw [e2];by_cases hlt:i'<xs.length
    ·rw [bV hlt,iB (by
      rw [m1];have:(i'+1)*i.size≤xs.length*i.size:=Nat.mul_le_mul_right _ hlt;rw [Nat.add_mul] at this;omega)]
     exact (m4 i' j hlt hj)
    ·have hge:xs.length≤i':=Nat.le_of_not_lt hlt;have hi2:i'-xs.length<ys.length:=by simp at hi';omega
     have e4:i'*i.size+j-xs.length*i.size=(i'-xs.length)*i.size+j:=by
      have e6:i'=xs.length+(i'-xs.length):=by omega
      have e5:i'*i.size=xs.length*i.size+(i'-xs.length)*i.size:=by conv=>lhs;rw [e6,Nat.add_mul]
      omega
     have e5:xs.length*i.size≤i'*i.size+j:=by have:xs.length*i.size≤i'*i.size:=Nat.mul_le_mul_right _ hge;omega
     rw [bz hge,o4 (by rw [m1];exact e5),m1,e4];exact n4 _ j hi2 hj)
   refine ⟨_,_,β',κ',.inl (hexec f2 hrun),?_⟩;rw [hd];simpa using r'
theorem Bh {x y:Operand} {t e:TypeId} {sz by_ k k':Nat} {xs ys:List (List AV)} (hg:gd ops s o=some true) (hop:o.op = .call ⟨.builtin .append,#[x,y],#[t,t]⟩) (hd:o.dst=some k') (he:jS P t=some (e,sz,by_))
 (hx:(s.op x = .eslice∧xs=[])∨(s.op x = .rslice k∧lk .gone s.h k = .row e sz xs)) (hy:s.op y = .dslice ys∨(s.op y = .eslice∧ys=[]))
 (hE:EL sz ys) (hb:(xs.length+ys.length)*by_≤140737488355328) (h63:xs.length+ys.length≤9223372036854775807) {s':AS} (h:s.grow k k' e sz (xs++ys)=some s'):nL P ops o s (· = s') :=
 cG hg fun c a w β κ r=>by
  obtain ⟨hu,i,z,hi,hz,rfl,rfl,hzs,hsz⟩:=nP he;have hX:=r.op x;have hY:=r.op y;obtain ⟨eYd,ad2,cap2,eY⟩:D w (c.XX s.h β) (.dslice ys) (a.eval y)∧∃ ad2 cap2,a.eval y = .slice ad2 ys.length cap2:=by
   rcases hy with hy | ⟨hy,rfl⟩
   ·rw [hy] at hY;obtain ⟨hd,ad2,cap2,eY,_⟩:=hY.dslice_inv;exact ⟨hd,ad2,cap2,eY⟩
   ·rw [hy] at hY;obtain ⟨ad2,eY⟩:=hY.eslice_inv;exact ⟨by rw [eY];exact .dnil _ _ (Nat.zero_le _),ad2,0,eY⟩
  have hexec:∀ {V V' w'},a.eval x=V'→(Builtin.append_ #[t,t] o.type #[V',a.eval y]).run P w = .ok V w'→(execOp a.eval o).run P w = .ok (.value V) w':=by intro V V' w' e1 hr;simp only [execOp,hop,resolve,invoke,builtin,Sem.run_bind,Sem.run_pure,Result.andThen_ok,List.map_toArray,List.map_cons,List.map_nil,e1,hr]
  have hx2:(xs=[]∧∃ ad,a.eval x = .slice ad 0 0)∨(xs≠[]∧lk .gone s.h k = .row e i.size xs∧a.eval x = .slice (some ⟨β k,0,none⟩) xs.length (κ k).1):=by
   rcases hx with ⟨hx,rfl⟩ | ⟨hx,hk⟩
   ·rw [hx] at hX;exact .inl ⟨rfl,hX.eslice_inv⟩
   ·rw [hx] at hX;have ho:=r.hp.ob k;rw [hk] at ho;rcases hX.rslice_inv with ⟨h0,e1⟩ | ⟨h0,ad,e1⟩
    ·rw [ho.1] at h0 e1;exact .inr ⟨(by intro e2;subst e2;simp at h0),hk,e1⟩
    ·exact .inl ⟨List.eq_nil_of_length_eq_zero (by rw [← ho.1];exact h0),ad,e1⟩
  have hEl:∀ j,j<ys.length→(ys.getD j []).length=i.size:=by intro j hj;exact (hE _ (by rw [SW,SX hj];exact List.getElem_mem hj)).1
  rcases hx2 with ⟨rfl,ad,eX⟩ | ⟨hxs,hk,eX⟩
  ·by_cases hys:ys=[]
   ·subst hys;refine ⟨.slice ad 0 0,w,β,upd κ k' (0,0),.inl (hexec eX (by rw [eY];exact BF hu hi ad 0 0 (Nat.le_refl _) _ _ _)),?_⟩;rw [hd];exact MH r h ad
   ·obtain ⟨bd,cap,news,e1,n1,n2,n3,n4⟩:=Dc eYd hE hys;have hm:0<ys.length:=by cases ys with | nil=>exact absurd rfl hys | cons _ _=>simp
    simp only [List.length_nil,Nat.zero_add] at hb h63;let C:=grownCap w ys.length 0 e
    have hC:ys.length≤C:=grownCap_ge w _ _ _;have hCm:C≤maxLen:=grownCap_le_maxLen w _ _ _ (by unfold maxLen;omega);let arr:Array Value:=news.toArray++Builtin.zeroCells z.cells (C-ys.length)
    have hrun:(Builtin.append_ #[t,t] o.type #[.slice ad 0 0,a.eval y]).run P w = .ok (.slice (some ⟨w.heap.size,0,none⟩) ys.length C) (w.drew.alloc (.cells arr e)):=by
     rw [e1];cases ad with
     | none=>exact run_append_nil (P:=P) w t o.type e i z hu hi hz bd ys.length cap news n1 n2 hm (by omega) (by omega)
     | some b0 =>
      have:=run_append_grow (P:=P) w t o.type e i z hu hi hz b0 0 0 [] (by simp) (fun j v hv=>by simp at hv) bd ys.length cap news n1 n2 (by omega) (by omega) (growslice_fits (by omega) (by simpa using hb));simpa [arr,C] using this
    have hsz2:arr.size=C*i.size:=by simp only [arr,Array.size_append,List.size_toArray,size_zeroCells,n1,hzs,← Nat.add_mul];congr 1;omega
    obtain ⟨β',κ',r'⟩:=Df r h arr C (by simpa using hys) hsz (by simpa using hEl) hsz2 (by simpa using hC) hCm (fun i' j hi' hj=>by
     simp only [List.nil_append] at hi' ⊢;have:=n4 i' j hi' hj;have hij:i'*i.size+j<news.length:=by rw [n1];have:(i'+1)*i.size≤ys.length*i.size:=Nat.mul_le_mul_right _ hi';rw [Nat.add_mul] at this;omega
     have e2:arr.getD (i'*i.size+j) undef=news.getD (i'*i.size+j) undef:=by simp [arr,SZ,Array.getElem?_append,hij,SW]
     rw [e2];exact this)
    refine ⟨_,_,β',κ',.inl (hexec eX hrun),?_⟩;rw [hd];simpa using r'
  ·have hlive:(lk .gone s.h k).live:=by rw [hk];exact hxs
   have ho:=r.hp.ob k;rw [hk] at ho;obtain ⟨cur,q1,q2,q3,q4,q5,q6,hfl⟩:=ho.2 hxs;have hELl:∀ j,j<(xs++ys).length→((xs++ys).getD j []).length=i.size:=by
    intro j hj;by_cases hlt:j<xs.length
    ·rw [bV hlt];exact q6 j hlt
    ·rw [bz (Nat.le_of_not_lt hlt)];exact hEl _ (by simp at hj;omega)
   have hidx:∀ i' j,i'<xs.length→j<i.size→i'*i.size+j<xs.length*i.size:=by intro i' j hi' hj;have:(i'+1)*i.size≤xs.length*i.size:=Nat.mul_le_mul_right _ hi';rw [Nat.add_mul] at this;omega
   have hxk:xs.length*i.size≤cur.size:=by rw [q2];exact Nat.mul_le_mul_right _ q3
   by_cases hys:ys=[]
   ·subst hys;have hrun:=BF (P:=P) (w:=w) hu hi (some ⟨β k,0,none⟩) xs.length (κ k).1 q3 ad2 cap2 o.type;simp only [List.append_nil] at h;obtain ⟨β',κ',r'⟩:=Jo (w':=w) r h hlive cur hxs hsz (fun _ _=>rfl) (dG.refl _ _) q1 q6 q2 q3 q4 hfl;refine ⟨_,w,β',κ',.inl (hexec eX (by rw [eY];exact hrun)),?_⟩;rw [hd];exact r'
   ·obtain ⟨bd,cap,news,e1,n1,n2,n3,n4⟩:=Dc eYd hE hys;have hm:0<ys.length:=by cases ys with | nil=>exact absurd rfl hys | cons _ _=>simp
    by_cases hroom:xs.length+ys.length≤(κ k).1
    ·have hfit:xs.length*i.size+news.length≤cur.size:=by rw [n1,q2,← Nat.add_mul];exact Nat.mul_le_mul_right _ hroom
     let arr:Array Value:=(cur.toList.take (xs.length*i.size)++news++cur.toList.drop (xs.length*i.size+news.length)).toArray
     have hrun:(Builtin.append_ #[t,t] o.type #[.slice (some ⟨β k,0,none⟩) xs.length (κ k).1,a.eval y]).run P w = .ok (.slice (some ⟨β k,0,none⟩) (xs.length+ys.length) (κ k).1) (w.setRow (β k) arr):=by rw [e1];exact run_append_room (P:=P) w t o.type e i hu hi (β k) xs.length (κ k).1 cur q1 bd ys.length cap news n1 n2 n3 hroom hfit
     have hl1:(cur.toList.take (xs.length*i.size)).length=xs.length*i.size:=by simp;omega
     have hasz:arr.size=(κ k).1*i.size:=by rw [← q2];simp [arr];omega
     obtain ⟨β',κ',r'⟩:=Jo (w':=w.setRow (β k) arr) r h hlive arr (by simp [hxs]) hsz (fun j hj=>cT _ _ _ hj) ⟨rfl,rfl,rfl,by simp,fun b hb=>cT _ _ _ hb⟩ (qU w _ cur e arr q1) hELl hasz (by simpa using hroom) q4 (fun i' j hi' hj=>by
      rw [← rH];simp only [arr];by_cases hlt:i'<xs.length
      ·rw [bV hlt,List.append_assoc,iB (by rw [hl1];exact hidx i' j hlt hj)];have e2:(cur.toList.take (xs.length*i.size)).getD (i'*i.size+j) undef=cur.getD (i'*i.size+j) undef:=by rw [getD_take _ _ _ _ (hidx i' j hlt hj),rH]
       rw [e2];exact hfl i' j hlt hj
      ·have hge:xs.length≤i':=Nat.le_of_not_lt hlt;have hi2:i'-xs.length<ys.length:=by simp at hi';omega
       rw [bz hge];have e4:i'*i.size+j-xs.length*i.size=(i'-xs.length)*i.size+j:=by rw [Nat.sub_mul];have:xs.length*i.size≤i'*i.size:=Nat.mul_le_mul_right _ hge;omega
       have e5:(i'-xs.length)*i.size+j<news.length:=by rw [n1];have:(i'-xs.length+1)*i.size≤ys.length*i.size:=Nat.mul_le_mul_right _ hi2;rw [Nat.add_mul] at this;omega
       have hge2:xs.length*i.size≤i'*i.size+j:=by have:xs.length*i.size≤i'*i.size:=Nat.mul_le_mul_right _ hge;omega
       rw [List.append_assoc,o4 (by rw [hl1];exact hge2),hl1,e4,iB e5];exact n4 _ j hi2 hj)
     refine ⟨_,_,β',κ',.inl (hexec eX hrun),?_⟩;rw [hd];simpa using r'
    ·let C:=grownCap w (xs.length+ys.length) (κ k).1 e
     have hC:xs.length+ys.length≤C:=grownCap_ge w _ _ _;have hCm:C≤maxLen:=grownCap_le_maxLen w _ _ _ (by unfold maxLen;omega);let olds:=cur.toList.take (xs.length*i.size)
     have hol:olds.length=xs.length*i.size:=by simp [olds];omega
     let arr:Array Value:=olds.toArray++news.toArray++Builtin.zeroCells z.cells (C-(xs.length+ys.length))
     have hrun:(Builtin.append_ #[t,t] o.type #[.slice (some ⟨β k,0,none⟩) xs.length (κ k).1,a.eval y]).run P w = .ok (.slice (some ⟨w.heap.size,0,none⟩) (xs.length+ys.length) C) (w.drew.alloc (.cells arr e)):=by
      rw [e1];refine run_append_grow (P:=P) w t o.type e i z hu hi hz ⟨β k,0,none⟩ xs.length (κ k).1 olds hol (fun j v hv=>?_) bd ys.length cap news n1 n2 (by omega) (by omega) (growslice_fits (by omega) hb);have hj:j<xs.length*i.size:=by have:=(S8.1 hv).1;omega
      have hv2:cur[j]? = some v:=by simp only [olds,List.getElem?_take] at hv;rw [if_pos hj] at hv;simpa using hv
      rw [mR,Nat.zero_add];have:=ca q1 (i:=j) (by omega);rw [this];simp [SZ,hv2]
     have hasz:arr.size=C*i.size:=by simp only [arr,Array.size_append,List.size_toArray,size_zeroCells,n1,hol,hzs,← Nat.add_mul];congr 1;omega
     have harrL:∀ j,arr.getD j undef=(olds++(news++(Builtin.zeroCells z.cells (C-(xs.length+ys.length))).toList)).getD j undef:=by intro j;rw [← rH];simp [arr]
     obtain ⟨β',κ',r'⟩:=Df r h arr C (by simp [hxs]) hsz hELl hasz (by simpa using hC) hCm (fun i' j hi' hj=>by
      rw [harrL];by_cases hlt:i'<xs.length
      ·rw [bV hlt,iB (by rw [hol];exact hidx i' j hlt hj)];have e2:olds.getD (i'*i.size+j) undef=cur.getD (i'*i.size+j) undef:=by simp only [olds];rw [getD_take _ _ _ _ (hidx i' j hlt hj),rH]
       rw [e2];exact hfl i' j hlt hj
      ·have hge:xs.length≤i':=Nat.le_of_not_lt hlt;have hi2:i'-xs.length<ys.length:=by simp at hi';omega
       rw [bz hge];have e4:i'*i.size+j-xs.length*i.size=(i'-xs.length)*i.size+j:=by rw [Nat.sub_mul];have:xs.length*i.size≤i'*i.size:=Nat.mul_le_mul_right _ hge;omega
       have e5:(i'-xs.length)*i.size+j<news.length:=by rw [n1];have:(i'-xs.length+1)*i.size≤ys.length*i.size:=Nat.mul_le_mul_right _ hi2;rw [Nat.add_mul] at this;omega
       have hge2:xs.length*i.size≤i'*i.size+j:=by have:xs.length*i.size≤i'*i.size:=Nat.mul_le_mul_right _ hge;omega
       rw [o4 (by rw [hol];exact hge2),hol,e4,iB e5];exact n4 _ j hi2 hj)
     refine ⟨_,_,β',κ',.inl (hexec eX hrun),?_⟩;rw [hd];simpa using r'
end
section
variable {P:Program} {Q:Exit→AS→Prop} {s:AS}
structure kq (s s':AS):Prop where
 n:s'.n=s.n
 t:∀ i,lk .any s'.t i=lk .any s.t i
 h:∀ k,lk .gone s'.h k=lk .gone s.h k
theorem kq.refl (s:AS):kq s s:=⟨rfl,fun _=>rfl,fun _=>rfl⟩
theorem kq.lv {s s':AS} (e:kq s s') (k:Nat):lv s'.h k=lv s.h k:=by simp only [Ab.lv,e.h]
theorem kq.own {s s':AS} (e:kq s s') (β:Nat→Nat):own s'.h β=own s.h β:=by funext b;simp only [Ab.own,e.lv]
theorem Rel.same {c:Cx P} {a:Act} {w:World} {β:Nat→Nat} {κ:Nat→Nat×Nat} {s s':AS} (r:Rel c s a w β κ) (e:kq s s'):Rel c s' a w β κ:=by
 have hx:c.XX s'.h β=c.XX s.h β:=by funext b;simp only [Cx.XX,e.own]
 refine ⟨r.df,by rw [e.n];exact r.sz,fun i=>by rw [hx,e.t];exact r.tm i,⟨fun k=>by rw [hx,e.h];exact r.hp.ob k,fun k k' hk hk' h=>r.hp.inj k k' (by rw [← e.lv];exact hk) (by rw [← e.lv];exact hk') h,r.hp.kp,fun k hk=>r.hp.nk k (by rw [← e.lv];exact hk),fun k hk=>r.hp.nx k (by rw [← e.lv];exact hk),r.hp.fix,fun k hk=>r.hp.sg k (by rw [← e.h];exact hk)⟩⟩
def AV.asSl:AV→AV
 | .dslice xs=>.dslice xs
 | _=>.any
def AV.asMp:AV→AV
 | .dmap es=>.dmap es
 | _=>.any
def AV.asPt (j o:Nat):AV→AV
 | .dptr cs=>bif Nat.blt o cs.length then .dptr (cs.drop o) else .any
 | _=>.hptr j o
def AV.sb1 (k:Nat) (u:AV):AV→AV
 | .hptr j o=>bif Nat.beq j k then u.asPt j o else .hptr j o
 | .rslice j=>bif Nat.beq j k then u.asSl else .rslice j
 | .amap j=>bif Nat.beq j k then u.asMp else .amap j
 | v=>v
def AV.sb2 (k:Nat) (u:AV):AV→AV
 | .agg cs=>.agg (cs.map (AV.sb1 k u))
 | .fn f cs=>.fn f (cs.map (AV.sb1 k u))
 | v=>AV.sb1 k u v
def AV.sb (k:Nat) (u:AV):AV→AV
 | .tup vs=>.tup (vs.map (AV.sb2 k u))
 | v=>AV.sb2 k u v
def AO.sb (k:Nat) (u:AV):AO→AO
 | .cells e cs=>.cells e (cs.map (AV.sb1 k u))
 | .eit cs=>.eit (cs.map (AV.sb1 k u))
 | o=>o
theorem AO.live_sb (k:Nat) (u:AV) (o:AO):(AO.sb k u o).live=o.live:=by cases o<;>rfl
theorem AO.inn_sb (k:Nat) (u:AV) (o:AO) (j:Nat):(AO.sb k u o).inn j=o.inn j:=by cases o<;>rfl
def AS.subst (s:AS) (k:Nat) (u:AV):AS:=⟨s.n,s.t.map fun p=>(p.1,AV.sb k u p.2),rm k (s.h.map fun p=>(p.1,AO.sb k u p.2))⟩
theorem Rel.subst {c:Cx P} {a:Act} {w:World} {β:Nat→Nat} {κ:Nat→Nat×Nat} {s:AS} (r:Rel c s a w β κ) {k:Nat} {xs:AV} (hk0:(∀ i,(lk .gone s.h k).inn i→¬ c.XX (s.subst k xs).h β (β (gk k i)))→(∀ b,¬ c.XX s.h β b→b<w.heap.size→¬ c.XX (s.subst k xs).h β b)→((lk .gone s.h k).live→¬ c.XX (s.subst k xs).h β (β k)) →
 (∀ V,G w (c.XX s.h β) β κ (.rslice k) V→D w (c.XX (s.subst k xs).h β) xs.asSl V)∧(∀ V,G w (c.XX s.h β) β κ (.amap k) V→D w (c.XX (s.subst k xs).h β) xs.asMp V)∧(∀ o V,G w (c.XX s.h β) β κ (.hptr k o) V→G w (c.XX (s.subst k xs).h β) β κ (xs.asPt k o) V)):Rel c (s.subst k xs) a w β κ:=by
 have hlkt:∀ i,lk .any (s.t.map fun p=>(p.1,AV.sb k xs p.2)) i=AV.sb k xs (lk .any s.t i):=fun i=>Ef .any (AV.sb k xs) rfl s.t i;have hlkh:∀ i,lk .gone (s.h.map fun p=>(p.1,AO.sb k xs p.2)) i=AO.sb k xs (lk .gone s.h i):=fun i=>Ef .gone (AO.sb k xs) rfl s.h i;have hlm:∀ j,lv (s.h.map fun p=>(p.1,AO.sb k xs p.2)) j=lv s.h j:=fun j=>by simp only [lv,hlkh,AO.live_sb,AO.inn_sb]
 have hlive:∀ {j},lv (rm k (s.h.map fun p=>(p.1,AO.sb k xs p.2))) j→lv s.h j∧(k<1000000→j≠k):=by intro j hl;obtain ⟨h1,h2⟩:=Ej hl;rw [hlm] at h1;exact ⟨h1,h2⟩
 let X':=c.XX (rm k (s.h.map fun p=>(p.1,AO.sb k xs p.2))) β
 have hX:∀ b,¬ c.XX s.h β b→b<w.heap.size→¬ X' b:=by
  rintro b hb _ (hx | ⟨j,hl,hj⟩)
  ·exact hb (.inl hx)
  ·exact hb (.inr ⟨j,(hlive hl).1,hj⟩)
 have hnX:(lk .gone s.h k).live→¬ X' (β k):=by
  rintro hlk (hx | ⟨j,hl,hj⟩)
  ·exact r.hp.nx k (.inl hlk) hx
  ·exact (hlive hl).2 (r.hp.sm k hlk) (r.hp.inj j k (hlive hl).1 (.inl hlk) hj)
 have hnV:∀ i,(lk .gone s.h k).inn i→¬ X' (β (gk k i)):=by
  rintro i hli (hx | ⟨j,hl,hj⟩)
  ·exact r.hp.nx _ (eZ hli) hx
  ·have e:=r.hp.inj j _ (hlive hl).1 (eZ hli) hj;subst e;have hi6:∀ {o:AO} {i:Nat},o.inn i→i<1000000:=fun {o i} h=>by
    cases o with
    | rmap _ _ _=>exact h.1
    | rrow _ _ _ _=>exact h.1
    | _=>exact h.elim
   rcases hl with hl | ⟨m,i',e2,hl⟩
   ·rw [tr,hlkh] at hl;by_cases e3:gk k i=k
    ·rw [if_pos e3] at hl;exact hl.elim
    ·rw [if_neg e3,AO.live_sb] at hl;have:=r.hp.sm _ hl;have:=iR k i;omega
   ·rw [tr,hlkh] at hl;by_cases e3:m=k
    ·rw [if_pos e3] at hl;exact hl.elim
    ·rw [if_neg e3,AO.inn_sb] at hl;exact e3 (vV (hi6 hli) (hi6 hl) e2).1.symm
 obtain ⟨hrow,hmap,hptr⟩:=hk0 hnV hX hnX;have up:∀ {v V},G w (c.XX s.h β) β κ v V→G w X' β κ v V:=fun hg=>hg.mono (fun _ _ _=>rfl) hX (fun _ _=>.refl);have hs1:∀ {v V},G w (c.XX s.h β) β κ v V→G w X' β κ (AV.sb1 k xs v) V:=by
  intro v V hg;unfold AV.sb1;split
  ·rename_i j o;by_cases ej:j=k
   ·subst ej;rw [Nat.beq_refl];exact hptr _ _ hg
   ·rw [dz ej];exact up hg
  ·rename_i j;by_cases ej:j=k
   ·subst ej;rw [Nat.beq_refl];exact .d (hrow _ hg)
   ·rw [dz ej];exact up hg
  ·rename_i j;by_cases ej:j=k
   ·subst ej;rw [Nat.beq_refl];exact .d (hmap _ hg)
   ·rw [dz ej];exact up hg
  ·exact up hg
 have hs2:∀ {v V},G w (c.XX s.h β) β κ v V→G w X' β κ (AV.sb2 k xs v) V:=by
  intro v V hg;unfold AV.sb2;split
  ·obtain ⟨vs,rfl,hl,hgs⟩:=hg.agg_inv;exact .agg _ _ (by simpa using hl) fun i hi=>by rw [getD_map (AV.sb1 k xs) _ i .any .any rfl];exact hs1 (hgs i (by simpa using hi))
  ·obtain ⟨vs,rfl,hl,hgs⟩:=hg.fn_inv;exact .fn _ _ _ (by simpa using hl) fun i hi=>by rw [getD_map (AV.sb1 k xs) _ i .any .any rfl];exact hs1 (hgs i (by simpa using hi))
  ·exact hs1 hg
 have hs3:∀ {v V},G w (c.XX s.h β) β κ v V→G w X' β κ (AV.sb k xs v) V:=by
  intro v V hg;unfold AV.sb;split
  ·obtain ⟨vs,rfl,hl,hgs⟩:=hg.tup_inv;exact .tup _ _ (by simpa using hl) fun i hi=>by rw [getD_map (AV.sb2 k xs) _ i .any .any rfl];exact hs2 (hgs i (by simpa using hi))
  ·exact hs2 hg
 refine ⟨r.df,r.sz,fun i=>?_,⟨fun j=>?_,fun i j hi hj e=>r.hp.inj i j (hlive hi).1 (hlive hj).1 e,r.hp.kp,fun j hj=>r.hp.nk j (hlive hj).1,fun j hj=>r.hp.nx j (hlive hj).1,r.hp.fix,fun j hj=>?_⟩⟩
 ·show G w X' β κ (lk .any (s.t.map fun p=>(p.1,AV.sb k xs p.2)) i) _;rw [hlkt];exact hs3 (r.tm i)
 ·show HO w X' β κ j (lk .gone (rm k (s.h.map fun p=>(p.1,AO.sb k xs p.2))) j);rw [tr,hlkh];by_cases ej:j=k
  ·rw [if_pos ej];trivial
  ·rw [if_neg ej];have hj:=r.hp.ob j;cases hoj:lk .gone s.h j with
   | gone=>trivial
   | cells e cs =>
    rw [hoj] at hj;obtain ⟨cur,h1,h2,h3⟩:=hj;exact ⟨cur,h1,by simpa using h2,fun i hi=>by rw [getD_map (AV.sb1 k xs) _ i .any .any rfl];exact hs1 (h3 i (by simpa using hi))⟩
   | eit cs =>
    rw [hoj] at hj;obtain ⟨b,c,h1,h3⟩:=hj;exact ⟨b,c,h1,fun i hi=>by rw [getD_map (AV.sb1 k xs) _ i .any .any rfl];exact hs1 (h3 i (by simpa using hi))⟩
   | iter es seen =>
    rw [hoj] at hj;exact hj.mono (fun _ _ _=>rfl) hX (fun _ _=>.refl) .refl (fun _=>rfl) (fun _ _=>rfl)
   | row e sz ys =>
    rw [hoj] at hj;exact hj.mono (fun _ _ _=>rfl) hX (fun _ _=>.refl) .refl (fun _=>rfl) (fun _ _=>rfl)
   | smap K E es =>
    rw [hoj] at hj;exact hj.mono (fun _ _ _=>rfl) hX (fun _ _=>.refl) .refl (fun _=>rfl) (fun _ _=>rfl)
   | room e sz =>
    rw [hoj] at hj;exact hj.mono (fun _ _ _=>rfl) hX (fun _ _=>.refl) .refl (fun _=>rfl) (fun _ _=>rfl)
   | rmap e sz es =>
    rw [hoj] at hj;exact hj.mono (fun _ _ _=>rfl) hX (fun _ _=>.refl) .refl (fun _=>rfl) (fun _ _=>rfl)
   | rrow eo e sz es =>
    rw [hoj] at hj;exact hj.mono (fun _ _ _=>rfl) hX (fun _ _=>.refl) .refl (fun _=>rfl) (fun _ _=>rfl)
 ·have hj:lk .gone (rm k (s.h.map fun p=>(p.1,AO.sb k xs p.2))) j ≠ .gone:=hj;rw [tr,hlkh] at hj;by_cases ej:j=k
  ·rw [if_pos ej] at hj;exact absurd rfl hj
  ·rw [if_neg ej] at hj;exact r.hp.sg j (fun e=>hj (by rw [e];rfl))
def AS.frz (s:AS) (k:Nat):Option AS :=
 match lk .gone s.h k with
 | .row _ _ xs=>some (s.subst k (.dslice xs))
 | _=>none
theorem Rel.frz {c:Cx P} {a:Act} {w:World} {β:Nat→Nat} {κ:Nat→Nat×Nat} {s s':AS} (r:Rel c s a w β κ) {k:Nat} (h:s.frz k=some s'):Rel c s' a w β κ:=by
 unfold AS.frz at h;split at h
 ·rename_i e sz xs hk;cases h;refine r.subst fun _ hX hnX=>⟨fun V hg=>?_,fun V _=>.any V,fun o V hg=>hg.mono (fun _ _ _=>rfl) hX (fun _ _=>.refl)⟩;have ho:=r.hp.ob k;rw [hk] at ho;show D w _ (.dslice xs) V;rcases hg.rslice_inv with ⟨h0,e1⟩ | ⟨h0,ad,rfl⟩
  ·have hne:xs≠[]:=by intro e;subst e;rw [ho.1] at h0;simp at h0
   have hlk:(lk .gone s.h k).live:=by rw [hk];exact hne
   obtain ⟨cur,h1,h2,h3,h4,h5,h6,h7⟩:=ho.2 hne;rw [e1,ho.1];refine .dslice xs (β k) 0 (κ k).1 sz (fun i j=>cur.getD (i*sz+j) undef) h3 h4 h5 (hnX hlk) h6 (fun i j hi hj=>?_) (fun i j hi hj=>(h7 i j hi hj).mono (fun _ _ _=>rfl) hX);rw [Nat.zero_add];refine ca h1 ?_;rw [h2];have:(i+1)*sz≤(κ k).1*sz:=Nat.mul_le_mul_right _ (by omega);rw [Nat.add_mul] at this;omega
  ·have:xs=[]:=List.eq_nil_of_length_eq_zero (by rw [← ho.1];exact h0);subst this;exact .dnil _ _ (Nat.zero_le _)
 ·cases h
def AS.frzC (s:AS) (k:Nat):Option AS :=
 match lk .gone s.h k with
 | .cells _ cs=>bif AV.flL cs&&Nat.blt 0 cs.length then some (s.subst k (.dptr cs)) else none
 | _=>none
theorem Rel.frzC {c:Cx P} {a:Act} {w:World} {β:Nat→Nat} {κ:Nat→Nat×Nat} {s s':AS} (r:Rel c s a w β κ) {k:Nat} (h:s.frzC k=some s'):Rel c s' a w β κ:=by
 unfold AS.frzC at h;split at h
 ·rename_i e cs hk;cases hc:(AV.flL cs&&Nat.blt 0 cs.length) with
  | false=>rw [hc] at h;cases h
  | true =>
  rw [hc] at h;cases h;rw [SY] at hc;refine r.subst fun _ hX hnX=>⟨fun V _=>.any V,fun V _=>.any V,fun o V hg=>?_⟩;have ho:=r.hp.ob k;rw [hk] at ho;obtain ⟨cur,h1,h2,h3⟩:=ho;unfold AV.asPt;simp only;cases hb:Nat.blt o cs.length with
  | false=>exact .d (.any V)
  | true =>
  have hb':o<cs.length:=by simpa [Nat.blt_eq] using hb
  rw [hg.hptr_inv];refine .d (.dptr _ (β k) o (fun j=>cur.getD (o+j) undef) (by simp;omega) (hnX (by rw [hk];trivial)) (fun j hj=>?_) (fun j hj=>?_))
  ·simp at hj;exact ca h1 (by omega)
  ·simp at hj;have e1:(cs.drop o).getD j .any=cs.getD (o+j) .any:=by simp [SW]
   rw [e1];exact ((h3 (o+j) (by omega)).toD (iX (by omega) hc.1)).mono (fun _ _ _=>rfl) hX
 ·cases h
def RG (es:List (Key×AV)):Prop:=∀ p∈es,p.2.fl=true
theorem D.perm {w:World} {X:Nat→Prop} {es es':List (Key×AV)} {V:Value} (h:D w X (.dmap es) V) (hp:es.Perm es'):D w X (.dmap es') V:=by
 obtain ⟨b,ents,clock,π,rfl,hb,he,h⟩:=h.mapAt;have hlen:=hp.length_eq;have getm:∀ {l:List (Key×AV)} {i:Nat},i<l.length→l.getD i default∈l:=fun {l i} hi=>by rw [SW,SX hi];exact List.getElem_mem hi
 have cI:∀ {l:List (Key×AV)} {x:Key×AV},x∈l→∃ j,j<l.length∧l.getD j default=x:=fun {l x} hx=>by obtain ⟨j,hj,rfl⟩:=List.getElem_of_mem hx;exact ⟨j,hj,by rw [SW,SX hj];rfl⟩
 have hidx:∀ i,i<es'.length→∃ j,j<es.length∧es.getD j default=es'.getD i default:=fun i hi=>cI (hp.mem_iff.2 (getm hi));have huniq:∀ i j,i<es.length→j<es.length→es.getD i default=es.getD j default→i=j:=fun i j hi hj e=>by
  have hn:=h.keys.1;rw [List.nodup_iff_pairwise_ne,List.pairwise_iff_getElem] at hn;have e2:(es.map (·.1))[i]'(by simpa using hi)=(es.map (·.1))[j]'(by simpa using hj):=by rw [SW,SX hi,SW,SX hj] at e;simp only [Option.getD_some] at e;simp [e]
  rcases Nat.lt_trichotomy i j with g | g | g
  ·exact absurd e2 (hn i j (by simpa using hi) (by simpa using hj) g)
  ·exact g
  ·exact absurd e2.symm (hn j i (by simpa using hj) (by simpa using hi) g)
 let ρ:Nat→Nat:=fun i=>if h:i<es'.length then Classical.choose (hidx i h) else 0
 have hρ:∀ i,i<es'.length→ρ i<es.length∧es.getD (ρ i) default=es'.getD i default:=fun i hi=>by have:=Classical.choose_spec (hidx i hi);simp only [ρ,dif_pos hi];exact this
 refine sX.toD (π:=fun i=>π (ρ i)) ⟨by rw [h.size,hlen],fun i hi=>by rw [← hlen];exact h.lt _ (hρ i hi).1,fun j hj=>?_,fun i hi=>?_,fun i hi=>?_,h.born,⟨?_,fun k hk=>?_⟩⟩ hb he
 ·obtain ⟨i0,hi0,rfl⟩:=h.onto j (by omega);obtain ⟨i1,hi1,e1⟩:=cI (hp.mem_iff.1 (getm hi0));have:=hρ i1 hi1;exact ⟨i1,hi1,by rw [huniq (ρ i1) i0 this.1 hi0 (by rw [this.2,e1])]⟩
 ·rw [← (hρ i hi).2];exact h.key _ (hρ i hi).1
 ·rw [← (hρ i hi).2];exact h.val _ (hρ i hi).1
 ·exact (hp.map (·.1)).nodup_iff.1 h.keys.1
 ·exact h.keys.2 k ((hp.map (·.1)).mem_iff.2 hk)
def AS.frzO (s:AS) (k:Nat) (es':List (Key×AV)):Option (Prop×AS) :=
 match lk .gone s.h k with
 | .smap _ _ es=>some (RG es∧es.Perm es',s.subst k (.dmap es'))
 | _=>none
theorem Rel.frzO {c:Cx P} {a:Act} {w:World} {β:Nat→Nat} {κ:Nat→Nat×Nat} {s s':AS} {p:Prop} (r:Rel c s a w β κ) {k:Nat} {es':List (Key×AV)} (h:s.frzO k es'=some (p,s')) (hp:p):Rel c s' a w β κ:=by
 unfold AS.frzO at h;split at h
 ·rename_i K E es hk;cases h;refine r.subst fun _ hX hnX=>⟨fun V _=>.any V,fun V hg=>?_,fun o V hg=>hg.mono (fun _ _ _=>rfl) hX (fun _ _=>.refl)⟩;have ho:=r.hp.ob k;rw [hk] at ho;obtain ⟨ents,clock,h1,h2,h3,h4,h5,_⟩:=ho;rw [hg.amap_inv];exact ((sX.of h2 (fun i hi=>⟨(h3 i hi).1,(h3 i hi).2.1⟩) (fun i hi=>(h3 i hi).2.2.mono (fun _ _ _=>rfl) hX) h4 h5).toD (hnX (by rw [hk];trivial)) h1).perm hp.2
 ·cases h
theorem R5 {ops:Array Oper} {rest:List Oper} (k:Nat) {s':AS} (h:s.frz k=some s') (ht:jD P ops rest Q s'):jD P ops rest Q s:=fun c a w β κ r=>ht c a w β κ (r.frz h)
def AS.erow (s:AS) (t k:Nat) (e:TypeId) (sz:Nat):Option AS :=
 match lk .any s.t t with
 | .eslice=>bif Nat.blt k 1000 then some ⟨s.n,ins t (.rslice k) (vl k s.t),ins k (.row e sz []) (lu k s.h)⟩ else none
 | _=>none
theorem Rel.erow {c:Cx P} {a:Act} {w:World} {β:Nat→Nat} {κ:Nat→Nat×Nat} {s s':AS} (r:Rel c s a w β κ) {t k:Nat} {e:TypeId} {sz:Nat} (h:s.erow t k e sz=some s'):∃ κ',Rel c s' a w β κ':=by
 unfold AS.erow at h;split at h
 ·rename_i ht;cases hc:Nat.blt k 1000 with
  | false=>rw [hc] at h;cases h
  | true =>
   rw [hc] at h;cases h;have hk:k<1000:=by simpa [Nat.blt_eq] using hc
   have r':=r.pg k;have hk6:k<1000000:=by omega
   have hlive:∀ {j},lv (ins k (.row e sz []) (lu k s.h)) j→lv (lu k s.h) j:=by
    intro j hl;rcases iO (o:=.row e sz []) hk6 (fun _ h=>h) hl with ⟨_,h0⟩ | ⟨_,hl⟩
    ·exact absurd rfl h0
    ·exact hl
   have hX:∀ b,¬ c.XX (lu k s.h) β b→b<w.heap.size→¬ c.XX (ins k (.row e sz []) (lu k s.h)) β b:=by
    rintro b hb _ (hx | ⟨j,hl,hj⟩)
    ·exact hb (.inl hx)
    ·exact hb (.inr ⟨j,hlive hl,hj⟩)
   refine ⟨upd κ k (0,0),r.df,r.sz,fun i=>?_,⟨fun j=>?_,fun i j hi hj e=>r'.hp.inj i j (hlive hi) (hlive hj) e,r.hp.kp,fun j hj=>r'.hp.nk j (hlive hj),fun j hj=>r'.hp.nx j (hlive hj),fun j hj hj6=>?_,fun j hj=>?_⟩⟩
   ·show G _ _ _ _ (lk .any (ins t (.rslice k) (vl k s.t)) i) _;rw [bB];by_cases hi:i=t
    ·subst hi;have:=r.tm i;rw [ht] at this;obtain ⟨ad,e1⟩:=this.eslice_inv;rw [if_pos rfl,e1];exact .rslice0 k ad (by rw [bh])
    ·rw [if_neg hi];exact (r'.tm i).mono (w':=w) (κ':=upd κ k (0,0)) (β':=β) (fun _ _ _=>rfl) hX (fun j hj=>.updκ hk6 (fun e=>by rw [e] at hj;have:AV.men k (lk .any (vl k s.t) i)=true:=hj;rw [jT,AV.men_pg] at this;cases this))
   ·show HO _ _ _ _ j (lk .gone (ins k (.row e sz []) (lu k s.h)) j);rw [bB];by_cases ej:j=k
    ·rw [if_pos ej,ej];exact ⟨by rw [bh];rfl,fun h=>absurd rfl h⟩
    ·rw [if_neg ej];exact (r'.hp.ob j).mono (w':=w) (fun _ _ _=>rfl) hX (fun i hi=>.updκ hk6 (fun e=>by rw [e] at hi;have:AO.men k (lk .gone (lu k s.h) j)=true:=hi;rw [ij,AO.men_pg] at this;cases this)) (.updκ hk6 ej) (fun _=>rfl) (fun _ _=>rfl)
   ·have:j≠k:=by omega
    rw [cM κ this];exact r.hp.fix j hj hj6
   ·rw [bB] at hj;by_cases ej:j=k
    ·omega
    ·rw [if_neg ej] at hj;exact r'.hp.sg j hj
 ·cases h
end
structure dw where
 ws:List (Nat×AV)
 os:List (Nat×AO)
 fr:List Nat
 ex:List (Nat×Nat)
section lists
variable {α:Type}
def xB (l:List (Nat×α)) (m:List (Nat×α)):List (Nat×α):=l.foldr (fun p m=>ins p.1 p.2 m) m
def n5:List (Nat×α)→Nat→Option α
 | [],_=>none
 | (k,v)::l,i=>bif Nat.beq i k then some v else n5 l i
theorem gq (d:α) (m:List (Nat×α)) (i:Nat):∀ (l:List (Nat×α)),lk d (xB l m) i=(n5 l i).getD (lk d m i)
 | []=>rfl
 | (k,v)::l=>by
  have h:xB ((k,v)::l) m=ins k v (xB l m):=rfl;rw [h,bB,gq d m i l];simp only [n5];by_cases e:i=k
  ·subst e;simp
  ·rw [if_neg e,dz e];rfl
def lw (wr:dw→Option α):List dw→List Bool→Option α
 | e::es,b::bs=>match lw wr es bs with
  | some v=>some v
  | none=>if b then wr e else none
 | _,_=>none
theorem wo {wr:dw→Option α}:∀ {es:List dw} {bs bs':List Bool},bs.length=bs'.length→(∀ (j:Nat) (e:dw),es[j]? = some e→wr e≠none→bs[j]? = bs'[j]?)→lw wr es bs=lw wr es bs'
 | [],bs,bs',_,_=>by cases bs<;>cases bs'<;>rfl
 | e::es,[],[],_,_=>rfl
 | e::es,[],_::_,h,_=>by simp at h
 | e::es,_::_,[],h,_=>by simp at h
 | e::es,b::bs,b'::bs',h,hj=>by
  simp only [lw];rw [wo (es:=es) (bs:=bs) (bs':=bs') (by simpa using h) fun j e' h1 h2=>by simpa using hj (j+1) e' (by simpa using h1) h2];split
  ·rfl
  ·cases hw:wr e with
   | none=>simp
   | some v =>
    have:=hj 0 e rfl (by rw [hw];simp);simp only [List.getElem?_cons_zero,S9] at this;rw [this]
theorem Lt {wr:dw→Option α}:∀ {es:List dw} {bs:List Bool},(∀ (j:Nat) (e:dw),es[j]? = some e→bs[j]? = some true→wr e=none)→lw wr es bs=none
 | [],bs,_=>by cases bs<;>rfl
 | e::es,[],_=>rfl
 | e::es,b::bs,h=>by
  simp only [lw];rw [Lt (es:=es) (bs:=bs) fun j e' h1 h2=>h (j+1) e' (by simpa using h1) (by simpa using h2)];cases b with
  | false=>rfl
  | true=>simpa using h 0 e rfl rfl
theorem NY {wr:dw→Option α} {v:α}:∀ {es:List dw} {bs:List Bool} {i:Nat} {e:dw},es[i]? = some e→bs[i]? = some true→wr e=some v→(∀ (j:Nat) (e':dw),i<j→es[j]? = some e'→bs[j]? = some true→wr e'=none)→lw wr es bs=some v
 | [],_,i,e,h,_,_,_=>by simp at h
 | _::_,[],i,e,_,h,_,_=>by simp at h
 | e0::es,b::bs,0,e,h,hb,hw,hj=>by
  simp only [List.getElem?_cons_zero,S9] at h hb;subst h;subst hb;simp only [lw];rw [Lt (es:=es) (bs:=bs) fun j e' h1 h2=>hj (j+1) e' (by omega) (by simpa using h1) (by simpa using h2)];simpa using hw
 | e0::es,b::bs,i+1,e,h,hb,hw,hj=>by simp only [lw];rw [NY (es:=es) (bs:=bs) (i:=i) (e:=e) (by simpa using h) (by simpa using hb) hw fun j e' h0 h1 h2=>hj (j+1) e' (by omega) (by simpa using h1) (by simpa using h2)]
theorem El {wr:dw→Option α} {v:α}:∀ {es:List dw} {bs:List Bool},lw wr es bs=some v→∃ (j:Nat) (e:dw),es[j]? = some e∧bs[j]? = some true∧wr e=some v
 | [],bs,h=>by cases bs<;>cases h
 | e::es,[],h=>by cases h
 | e::es,b::bs,h=>by
  simp only [lw] at h;split at h
  ·rename_i v' hv;cases h;obtain ⟨j,e',h1,h2,h3⟩:=El hv;exact ⟨j+1,e',by simpa using h1,by simpa using h2,h3⟩
  ·cases b with
   | false=>cases h
   | true=>exact ⟨0,e,rfl,rfl,by simpa using h⟩
end lists
def dw.app (e:dw) (s:AS):AS:=⟨s.n,xB e.ws s.t,xB e.os s.h⟩
def RE:Op→Bool
 | .move _=>true
 | .assign _=>true
 | _=>false
structure xJ (ops:Array Oper) (o:Oper) (s s':AS):Prop where
 n:s'.n=s.n
 t:∀ t∈o.looksAt ops,lk .any s'.t t=lk .any s.t t
 h:RE o.op=false→∀ x∈o.op.operands,∀ k,AV.men k (s.op x)=true→lk .gone s'.h k=lk .gone s.h k
def Pc (k:Nat) (s:AS):Prop:=(∀ t,AV.men k (lk .any s.t t)=false)∧∀ j,AO.men k (lk .gone s.h j)=false
def RH (k t:Nat) (s:AS):Prop:=(∀ i,i≠t→AV.men k (lk .any s.t i)=false)∧∀ j,AO.men k (lk .gone s.h j)=false
def Loc (P:Program) (ops:Array Oper) (o:Oper) (s:AS) (e:dw):Prop :=∀ s',xJ ops o s s'→(∀ k∈e.fr,Pc k s')→(∀ p∈e.ex,RH p.1 p.2 s')→nL P ops o s' (fun s''=>kq (e.app s') s'')
def lG (P:Program) (ops:Array Oper):List Oper→List dw→AS→AS→Prop
 | [],[],s,s'=>s'=s
 | o::os,e::es,s,s'=>Loc P ops o s e∧lG P ops os es (e.app s) s'
 | _,_,_,_=>False
def aft (o:Oper):List Nat:=o.after.toList.filterMap fun e=>if Region.binds .any e then some e.on else none
def Rg:List Nat→List Nat→List Nat
 | [],r=>r
 | x::l,r=>Rg l (bif r.any (Nat.beq x) then r else x::r)
theorem Lv {y:Nat}:∀ (l r:List Nat),y∈Rg l r→y∈l∨y∈r
 | [],r,h=>.inr h
 | x::l,r,h=>by
  have h':y∈Rg l (bif r.any (Nat.beq x) then r else x::r):=h;rcases Lv l _ h' with h1 | h1
  ·exact .inl (List.mem_cons_of_mem _ h1)
  ·cases hc:r.any (Nat.beq x) with
   | true=>rw [hc] at h1;exact .inr h1
   | false =>
    rw [hc] at h1;rcases List.mem_cons.1 h1 with rfl | h1
    ·exact .inl (by simp)
    ·exact .inr h1
def DA:List Oper→List (List Nat)→List (List Nat)
 | [],acc=>acc
 | o::os,acc=>DA os (acc++[(aft o).foldr (fun j r=>Rg (j::acc.getD j []) r) []])
def idxs:Nat→List Nat
 | 0=>[]
 | n+1=>idxs n++[n]
def infos (ops:Array Oper):List Oper→List dw→AS→List (List Nat×List AV)
 | o::os,e::es,s=>(o.looksAt ops,bif RE o.op then [] else o.op.operands.toList.map s.op)::infos ops os es (e.app s)
 | _,_,_=>[]
def TE (e1 e2:dw) (r1 r2:List Nat×List AV):Bool :=e1.ws.any (fun p=>e2.ws.any (fun q=>Nat.beq p.1 q.1)||r2.1.any (Nat.beq p.1))||e2.ws.any (fun q=>r1.1.any (Nat.beq q.1)) || e1.os.any (fun p=>e2.os.any (fun q=>Nat.beq p.1 q.1)||r2.2.any (AV.men p.1))||e2.os.any (fun q=>r1.2.any (AV.men q.1))
def Qn (cl:List (List Nat)) (es:List dw) (rs:List (List Nat×List AV)):Bool :=(es.zip rs).zipIdx.all fun (x,i)=>(es.zip rs).zipIdx.all fun (y,j)=>!Nat.blt i j||(cl.getD j []).any (Nat.beq i) || !TE x.1 y.1 x.2 y.2
def JB:Nat→List Oper→Bool
 | _,[]=>true
 | k,o::os=>(aft o).any (Nat.beq k)&&JB (k+1) os
def BI:Nat→List Oper→Bool
 | _,[]=>true
 | i,o::os=>(aft o).all (fun j=>Nat.blt j i)&&BI (i+1) os
def NA (l:List Oper) (n:Nat) (es:List dw) (s:AS):Bool :=
 Nat.beq es.length n&&Nat.ble n l.length&&Qn (DA l []) es (infos l.toArray (l.take n) es s)&&BI 0 l &&
 (match l.drop n with | []=>true | _::os=>(idxs n).all (fun j=>((DA l []).getD n []).any (Nat.beq j))&&JB n os)
def sL:List dw→List Bool→AS→AS
 | e::es,b::bs,s=>sL es bs (if b then e.app s else s)
 | _,_,s=>s
theorem Ql {e:dw} {s:AS} (i:Nat):lk .any (e.app s).t i=(n5 e.ws i).getD (lk .any s.t i):=gq .any s.t i e.ws
theorem Qk {e:dw} {s:AS} (i:Nat):lk .gone (e.app s).h i=(n5 e.os i).getD (lk .gone s.h i):=gq .gone s.h i e.os
theorem RL {e:dw} {s:AS}:(e.app s).n=s.n:=rfl
theorem Oz:∀ (es:List dw) (bs:List Bool) (s:AS),(sL es bs s).n=s.n
 | [],bs,s=>by cases bs<;>rfl
 | e::es,[],s=>rfl
 | e::es,b::bs,s=>by rw [sL,Oz es bs];split<;>rfl
theorem KK (t:Nat):∀ (es:List dw) (bs:List Bool) (s:AS),lk .any (sL es bs s).t t=(lw (fun e=>n5 e.ws t) es bs).getD (lk .any s.t t)
 | [],bs,s=>by cases bs<;>rfl
 | e::es,[],s=>rfl
 | e::es,b::bs,s=>by
  rw [sL,KK t es bs];simp only [lw];cases lw (fun e=>n5 e.ws t) es bs with
  | some v=>rfl
  | none =>
   simp only [Option.getD_none];cases b with
   | false=>simp
   | true=>simp [Ql]
theorem KJ (k:Nat):∀ (es:List dw) (bs:List Bool) (s:AS),lk .gone (sL es bs s).h k=(lw (fun e=>n5 e.os k) es bs).getD (lk .gone s.h k)
 | [],bs,s=>by cases bs<;>rfl
 | e::es,[],s=>rfl
 | e::es,b::bs,s=>by
  rw [sL,KJ k es bs];simp only [lw];cases lw (fun e=>n5 e.os k) es bs with
  | some v=>rfl
  | none =>
   simp only [Option.getD_none];cases b with
   | false=>simp
   | true=>simp [Qk]
theorem PI {α:Type} {l:List (Nat×α)} {i:Nat} (h:n5 l i≠none):l.any (fun p=>Nat.beq p.1 i)=true:=by
 induction l with
 | nil=>exact absurd rfl h
 | cons p l ih =>
  obtain ⟨k,v⟩:=p;simp only [n5] at h;simp only [List.any_cons,Bool.or_eq_true];by_cases e:i=k
  ·subst e;exact .inl (Nat.beq_refl i)
  ·rw [dz e] at h;exact .inr (ih h)
theorem wm {α:Type} {l:List (Nat×α)} {i:Nat} (h:n5 l i≠none):∃ p∈l,p.1=i:=by obtain ⟨p,hp,hb⟩:=List.any_eq_true.1 (PI h);exact ⟨p,hp,ef.1 hb⟩
theorem Ru {es:List dw} {bs:List Bool} {i:Nat} {e:dw} (he:es[i]? = some e) (hb:bs[i]? = some false)
 (ht:∀ t,n5 e.ws t≠none→∀ (j:Nat) (e':dw),i<j→es[j]? = some e'→bs[j]? = some true→n5 e'.ws t=none)
 (hh:∀ k,n5 e.os k≠none→∀ (j:Nat) (e':dw),i<j→es[j]? = some e'→bs[j]? = some true→n5 e'.os k=none) (s:AS):kq (e.app (sL es bs s)) (sL es (bs.set i true) s):=by
 have hi:i<bs.length:=(S8.1 hb).1;have hset:∀ j,j≠i→(bs.set i true)[j]? = bs[j]? := fun j hj=>by rw [List.getElem?_set,if_neg (fun h=>hj h.symm)]
 have hseti:(bs.set i true)[i]? = some true:=by rw [List.getElem?_set,if_pos rfl,if_pos hi]
 refine ⟨by rw [Oz,RL,Oz],fun t=>?_,fun k=>?_⟩
 ·rw [Ql,KK,KK];cases hw:n5 e.ws t with
  | none =>
   rw [Option.getD_none,wo (bs:=bs.set i true) (bs':=bs) (by simp) fun j e' h1 h2=>?_];refine hset j ?_;rintro rfl;rw [he] at h1;cases h1;exact h2 hw
  | some v =>
   rw [NY he hseti hw fun j e' h0 h1 h2=>ht t (by rw [hw];simp) j e' h0 h1 (by rw [← hset j (by omega)];exact h2)];rfl
 ·rw [Qk,KJ,KJ];cases hw:n5 e.os k with
  | none =>
   rw [Option.getD_none,wo (bs:=bs.set i true) (bs':=bs) (by simp) fun j e' h1 h2=>?_];refine hset j ?_;rintro rfl;rw [he] at h1;cases h1;exact h2 hw
  | some v =>
   rw [NY he hseti hw fun j e' h0 h1 h2=>hh k (by rw [hw];simp) j e' h0 h1 (by rw [← hset j (by omega)];exact h2)];rfl
section
variable {P:Program} {l:List Oper}
def MZ (l:List Oper) (listed:Array Bool):Prop:=∀ i o,l[i]? = some o→listed.getD i false=true→∀ j∈aft o,listed.getD j false=true
theorem HW {o:Oper} {j:Nat}:j∈aft o↔∃ e∈o.after,Region.binds .any e=true∧e.on=j:=by
 unfold aft;rw [List.mem_filterMap];constructor
 ·rintro ⟨e,he,h⟩;split at h
  ·rename_i hb;cases h;exact ⟨e,by simpa using he,hb,rfl⟩
  ·cases h
 ·rintro ⟨e,he,hb,rfl⟩;exact ⟨e,by simpa using he,by rw [if_pos hb]⟩
theorem IC {acc:List (List Nat)} {y:Nat}:∀ (js:List Nat),y∈js.foldr (fun j r=>Rg (j::acc.getD j []) r) []→∃ j∈js,y=j∨y∈acc.getD j []
 | [],h=>by cases h
 | j::js,h=>by
  rw [List.foldr_cons] at h;rcases Lv _ _ h with h | h
  ·exact ⟨j,by simp,by simpa using h⟩
  ·obtain ⟨j',h1,h2⟩:=IC js h;exact ⟨j',by simp [h1],h2⟩
theorem nO {listed:Array Bool} (hcl:MZ l listed):∀ (os:List Oper) (acc:List (List Nat)),(∀ j,os[j]? = l[acc.length+j]?)→(∀ i,i<acc.length→∀ o,l[i]? = some o→(∀ j∈aft o,listed.getD j false=true)→∀ j∈acc.getD i [],listed.getD j false=true)→BI acc.length os=true →
 ∀ (i:Nat) (o:Oper),l[i]? = some o→i<acc.length+os.length→(∀ j∈aft o,listed.getD j false=true)→∀ j∈(DA os acc).getD i [],listed.getD j false=true
 | [],acc,_,hacc,_,i,o,ho,hi,ha=>by simpa [DA] using hacc i (by simpa using hi) o ho ha
 | o0::os,acc,hos,hacc,hb,i,o,ho,hi,ha=>by
  simp only [BI,SY] at hb;rw [DA];refine nO hcl os _ (fun j=>by have:=hos (j+1);simpa [Nat.add_assoc,Nat.add_comm 1 j] using this) (fun k hk ok hok hak j hj=>?_) (by simpa using hb.2) i o ho (by simp at hi ⊢;omega) ha;by_cases hk2:k<acc.length
  ·refine hacc k hk2 ok hok hak j ?_;simpa [SW,List.getElem?_append_left hk2] using hj
  ·have hk3:k=acc.length:=by simp at hk;omega
   subst hk3;have e1:(acc++[(aft o0).foldr (fun j r=>Rg (j::acc.getD j []) r) []]).getD acc.length []=(aft o0).foldr (fun j r=>Rg (j::acc.getD j []) r) []:=by simp [SW]
   rw [e1] at hj;have e2:ok=o0:=by have:=hos 0;simp only [List.getElem?_cons_zero,Nat.add_zero] at this;rw [hok] at this;exact (Tb this).symm
   subst e2;obtain ⟨j',h1,h2⟩:=IC _ hj;rcases h2 with rfl | h2
   ·exact hak _ h1
   ·have hlt:j'<acc.length:=by have:=Tc.1 hb.1 j' h1;simpa [Nat.blt_eq] using this
    have hol:j'<l.length:=by have:=(S8.1 hok).1;omega
    have hl':=hak _ h1;exact hacc j' hlt l[j'] (SX hol) (hcl j' _ (SX hol) hl') j h2
theorem lG.loc {ops:Array Oper}:∀ {os:List Oper} {es:List dw} {s s':AS},lG P ops os es s s'→os.length=es.length∧s'=sL es (List.replicate es.length true) s ∧
 ∀ (i:Nat) (o:Oper) (e:dw),os[i]? = some o→es[i]? = some e→Loc P ops o (sL es ((List.range es.length).map fun j=>decide (j<i)) s) e
 | [],[],s,s',h=>⟨rfl,h,fun i o e ho _=>by simp at ho⟩
 | [],_::_,_,_,h=>h.elim
 | _::_,[],_,_,h=>h.elim
 | o::os,e::es,s,s',h=>by
  obtain ⟨h1,h2⟩:=h;obtain ⟨a1,a2,a3⟩:=lG.loc h2;refine ⟨by simp [a1],by rw [a2];rfl,fun i o' e' ho he=>?_⟩;cases i with
  | zero =>
   simp only [List.getElem?_cons_zero,S9] at ho he;subst ho;subst he;have:sL (e::es) ((List.range (e::es).length).map fun j=>decide (j<0)) s=s:=by
    have gen:∀ (es:List dw) (bs:List Bool) (s:AS),(∀ b∈bs,b=false)→sL es bs s=s:=by
     intro es;induction es with
     | nil=>intro bs s _;cases bs<;>rfl
     | cons e es ih =>
      intro bs s hb;cases bs with
      | nil=>rfl
      | cons b bs=>rw [sL,hb b (by simp)];exact ih bs s fun b hb'=>hb b (by simp [hb'])
    exact gen _ _ _ (by simp)
   rw [this];exact h1
  | succ i =>
   have h3:=a3 i o' e' (by simpa using ho) (by simpa using he);have:sL (e::es) ((List.range (e::es).length).map fun j=>decide (j<i+1)) s=sL es ((List.range es.length).map fun j=>decide (j<i)) (e.app s):=by rw [List.length_cons,List.range_succ_eq_map,List.map_cons,List.map_map];simp only [sL,Nat.zero_lt_succ,decide_true,if_true];congr 1;simp [Function.comp_def]
   rw [this];exact h3
theorem Ee {listed:Array Bool} {n i:Nat} (hi:i<n) (hs:n≤listed.size):(listed.toList.take n)[i]? = some (listed.getD i false):=by rw [List.getElem?_take,if_pos hi,Array.getElem?_toList,Ta (by omega)];simp [SZ,Ta (show i<listed.size by omega)]
theorem tf {ops:Array Oper}:∀ {os:List Oper} {es:List dw} {s:AS},os.length=es.length→∀ (i:Nat) (o:Oper),os[i]? = some o →
 (infos ops os es s)[i]? = some (o.looksAt ops,bif RE o.op then [] else o.op.operands.toList.map (sL es ((List.range es.length).map fun j=>decide (j<i)) s).op)
 | [],_,_,_,i,o,h=>by simp at h
 | o0::os,[],_,hl,_,_,_=>by simp at hl
 | o0::os,e::es,s,hl,i,o,ho=>by
  cases i with
  | zero =>
   simp only [List.getElem?_cons_zero,S9] at ho;subst ho;have gen:∀ (es:List dw) (bs:List Bool) (s:AS),(∀ b∈bs,b=false)→sL es bs s=s:=by
    intro es;induction es with
    | nil=>intro bs s _;cases bs<;>rfl
    | cons e es ih =>
     intro bs s hb;cases bs with
     | nil=>rfl
     | cons b bs=>rw [sL,hb b (by simp)];exact ih bs s fun b hb'=>hb b (by simp [hb'])
   rw [gen _ _ _ (by simp)];rfl
  | succ i =>
   have:=tf (ops:=ops) (s:=e.app s) (by simpa using hl) i o (by simpa using ho);have e1:sL (e::es) ((List.range (e::es).length).map fun j=>decide (j<i+1)) s=sL es ((List.range es.length).map fun j=>decide (j<i)) (e.app s):=by rw [List.length_cons,List.range_succ_eq_map,List.map_cons,List.map_map];simp only [sL,Nat.zero_lt_succ,decide_true,if_true];congr 1;simp [Function.comp_def]
   rw [e1];exact this
theorem Dq {cl:List (List Nat)} {es:List dw} {rs:List (List Nat×List AV)} (h:Qn cl es rs=true) {i j:Nat} {e1 e2:dw} {r1 r2:List Nat×List AV} (h1:es[i]? = some e1) (h2:rs[i]? = some r1) (h3:es[j]? = some e2) (h4:rs[j]? = some r2) (hij:i<j) (hc:TE e1 e2 r1 r2=true):i∈cl.getD j []:=by
 have g:∀ {i:Nat} {e:dw} {r:List Nat×List AV},es[i]? = some e→rs[i]? = some r→((e,r),i)∈(es.zip rs).zipIdx:=by intro i e r he hr;rw [List.mem_iff_getElem?];refine ⟨i,?_⟩;have hz:(es.zip rs)[i]? = some (e,r):=List.getElem?_zip_eq_some.2 ⟨he,hr⟩;simp [List.getElem?_zipIdx,hz]
 have a1:=Tc.1 h _ (g h1 h2);have a2:=Tc.1 a1 _ (g h3 h4);have hb:Nat.blt i j=true:=by simpa [Nat.blt_eq] using hij
 simp only [hb,hc,Bool.not_true,Bool.false_or,Bool.or_false] at a2;obtain ⟨x,hx,hxb⟩:=List.any_eq_true.1 a2;have:i=x:=ef.1 hxb;subst this;exact hx
end
end Go.Ab
