/- Plain laws: what the walked functions compute answers as the statement says. -/
import Derived.Test.YtjfpcjnopbfekaaGreatDoorWkcShapeEval
import Derived.Lib.ItoaNum
import Derived.Lib.ItoaMem
import Derived.Lib.AtoiAll
import Derived.Lib.AtoiAllCases
import Derived.Lib.ItoaLen
import Derived.KernelRfl
set_option linter.unusedSimpArgs false
set_option linter.unusedVariables false
namespace Go.Sh
open Go.Ab
section
variable {α σ ε ρ:Type}
theorem dO {body:Nat→Unit→Option (gZ Unit ε ρ)} {fin:Nat→Unit→ε} {r:ρ} (p:Nat→Bool):∀ (k i:Nat) (u:Unit),(∀ j u,i≤j→j<i+k→body j u=some (bif p j then .go () else .ret r)) →
 cY body fin k i u=some (bif (List.range' i k).all p then .brk (fin (i+k) ()) else .ret r)
 | 0,i,u,h=>by simp [cY]
 | k+1,i,u,h=>by
  simp only [cY,h i u (Nat.le_refl _) (by omega),List.range'_succ,List.all_cons];cases hp:p i with
  | true =>
   simp only [cond_true,Option.bind_some,tw,Bool.true_and];rw [dO p k (i+1) () (fun j u h1 h2=>h j u (by omega) (by omega))];rw [show i+1+k=i+(k+1) by omega]
  | false=>simp [tw]
theorem s8 {body:Nat→Unit→Option (gZ Unit ε ρ)} {fin:Nat→Unit→ε} {f:Nat→ρ} (p:Nat→Bool):∀ (k i:Nat) (u:Unit),(∀ j u,i≤j→j<i+k→body j u=some (bif p j then .ret (f j) else .go ())) →
 cY body fin k i u=some (match (List.range' i k).find? p with | some j=>.ret (f j) | none=>.brk (fin (i+k) ()))
 | 0,i,u,h=>by simp [cY]
 | k+1,i,u,h=>by
  simp only [cY,h i u (Nat.le_refl _) (by omega),List.range'_succ,List.find?_cons];cases hp:p i with
  | false =>
   simp only [cond_false,Option.bind_some,tw];rw [s8 p k (i+1) () (fun j u h1 h2=>h j u (by omega) (by omega))];rw [show i+1+k=i+(k+1) by omega]
  | true=>simp [tw]
theorem Ds {body:Nat→σ→Option (gZ σ ε ρ)} {fin:Nat→σ→ε} (g:Nat→σ→σ) (I:Nat→σ→Prop):∀ (k i:Nat) (s:σ),I i s→(∀ j s,i≤j→j<i+k→I j s→body j s=some (.go (g j s))∧I (j+1) (g j s)) →
 ∃ s',cY body fin k i s=some (.brk (fin (i+k) s'))∧s'=(List.range' i k).foldl (fun s j=>g j s) s∧I (i+k) s'
 | 0,i,s,hI,h=>⟨s,by simp [cY],by simp,hI⟩
 | k+1,i,s,hI,h=>by
  obtain ⟨h1,h2⟩:=h i s (Nat.le_refl _) (by omega) hI;obtain ⟨s',e1,e2,e3⟩:=Ds g I k (i+1) (g i s) h2 (fun j s h1 h2=>h j s (by omega) (by omega));refine ⟨s',?_,?_,by rw [show i+(k+1)=i+1+k by omega];exact e3⟩
  ·simp only [cY,h1,Option.bind_some,tw];rw [e1,show i+1+k=i+(k+1) by omega]
  ·rw [e2,List.range'_succ];rfl
theorem ke (q:α→Bool) (d:α) (l:List α):∀ (i:Nat),(List.range' i (l.length-i)).all (fun j=>q (l.getD j d))=(l.drop i).all q:=by
 intro i;by_cases h:i<l.length
 ·obtain ⟨k,hk⟩:∃ k,l.length-i=k+1:=⟨l.length-i-1,by omega⟩;have ih:=ke q d l (i+1);rw [hk,List.range'_succ,List.all_cons,List.drop_eq_getElem_cons h,List.all_cons];rw [show l.length-(i+1)=k by omega] at ih;rw [ih];simp [KO,KP h]
 ·rw [show l.length-i=0 by omega,List.drop_eq_nil_of_le (by omega)];rfl
 termination_by i=>l.length-i
theorem Di (q:α→Bool) (d:α) (l:List α):(List.range' 0 (l.length-0)).all (fun j=>q (l.getD j d))=l.all q:=by have:=ke q d l 0;simpa using this
theorem rN {β:Type} (g:β→α→β) (d:α) (l:List α):∀ (i:Nat) (s:β),(List.range' i (l.length-i)).foldl (fun s j=>g s (l.getD j d)) s=(l.drop i).foldl g s:=by
 intro i s;by_cases h:i<l.length
 ·obtain ⟨k,hk⟩:∃ k,l.length-i=k+1:=⟨l.length-i-1,by omega⟩;have ih:=rN g d l (i+1) (g s (l.getD i d));rw [hk,List.range'_succ,List.foldl_cons,List.drop_eq_getElem_cons h,List.foldl_cons];rw [show l.length-(i+1)=k by omega] at ih;rw [ih];simp [KO,KP h]
 ·rw [show l.length-i=0 by omega,List.drop_eq_nil_of_le (by omega)];rfl
 termination_by i=>l.length-i
def idxOf (p:α→Bool):List α→Int
 | [] => -1
 | x::l=>bif p x then 0 else (let r:=idxOf p l;bif r == -1 then -1 else r+1)
theorem pQ (p:α→Bool):∀ l:List α,-1≤idxOf p l
 | []=>by simp [idxOf]
 | x::l=>by
  have:=pQ p l;simp only [idxOf];cases p x
  ·cases h:idxOf p l == -1
   ·simp;omega
   ·simp
  ·simp
theorem qS (p:α→Bool):∀ l:List α,(idxOf p l<0)↔l.any p=false
 | []=>by simp [idxOf]
 | x::l=>by
  have h1:=pQ p l;have h2:=qS p l;simp only [idxOf,List.any_cons];cases hp:p x
  ·cases h:idxOf p l == -1
   ·have:idxOf p l ≠ -1:=by simpa using h
    simp only [cond_false,Bool.false_or];rw [← h2];omega
   ·have:idxOf p l = -1:=by simpa using h
    simp only [cond_false,cond_true,Bool.false_or];rw [← h2];omega
  ·simp
theorem AJ (p:α→Bool) (d:α) (l:List α):∀ (i:Nat),(match (List.range' i (l.length-i)).find? (fun j=>p (l.getD j d)) with | some j=>((j:Nat):Int) | none => -1)=(bif idxOf p (l.drop i) == -1 then -1 else idxOf p (l.drop i)+i):=by
 intro i;by_cases h:i<l.length
 ·obtain ⟨k,hk⟩:∃ k,l.length-i=k+1:=⟨l.length-i-1,by omega⟩;have ih:=AJ p d l (i+1);rw [hk,List.range'_succ,List.find?_cons,List.drop_eq_getElem_cons h];rw [show l.length-(i+1)=k by omega] at ih;have e:l.getD i d=l[i]:=by simp [KO,KP h]
  rw [e];simp only [idxOf];cases hp:p l[i]
  ·simp only [cond_false];rw [ih];cases hq:idxOf p (l.drop (i+1)) == -1
   ·have h3:idxOf p (l.drop (i+1)) ≠ -1:=by simpa using hq
    have h4:=pQ p (l.drop (i+1));simp only [cond_false];have:((idxOf p (l.drop (i+1))+1) == -1)=false:=by simp;omega
    rw [this];simp only [cond_false];omega
   ·simp
  ·simp
 ·rw [show l.length-i=0 by omega,List.drop_eq_nil_of_le (by omega)];rfl
 termination_by i=>l.length-i
theorem qO (p:α→Bool) (d:α) (l:List α):(match (List.range' 0 (l.length-0)).find? (fun j=>p (l.getD j d)) with | some j=>((j:Nat):Int) | none => -1)=idxOf p l:=by
 rw [AJ p d l 0];simp only [List.drop_zero];cases h:idxOf p l == -1
 ·simp
 ·have:idxOf p l = -1:=by simpa using h
  simp [this]
end
def b7 (b:UInt8):Bool:=decide (48≤b.toNat)&&decide (b.toNat≤57)
def kH (acc:Nat) (l:ai):Nat:=l.foldl (fun a c=>a*10+(c.toNat-48)) acc
theorem FH (acc:Nat) (l:ai) (c:UInt8):kH acc (l++[c])=kH acc l*10+(c.toNat-48):=by simp [kH]
theorem zk:∀ (l:ai) (acc:Nat),l.all b7=true→(acc+1)*10 ^ l.length≤10 ^ 18→Lib.parseUint10 acc l = .ok (kH acc l)
 | [],acc,_,_=>rfl
 | c::l,acc,h,hb=>by
  simp only [List.all_cons,KQ,b7,decide_eq_true_eq] at h;obtain ⟨⟨h1,h2⟩,h3⟩:=h;have hp:1≤10 ^ l.length:=Nat.one_le_pow _ _ (by decide);have hb2:(acc*10+10)*10 ^ l.length≤10 ^ 18:=by
   have:(acc+1)*10 ^ (l.length+1)=(acc*10+10)*10 ^ l.length:=by rw [Nat.pow_succ];rw [show (acc*10+10)=(acc+1)*10 by omega,Nat.mul_assoc,Nat.mul_comm 10]
   rw [← this];simpa using hb
  have hb3:acc*10+10≤10 ^ 18:=Nat.le_trans (Nat.le_mul_of_pos_right _ hp) hb2;have e18:(10:Nat) ^ 18=1000000000000000000:=by decide
  rw [e18] at hb3;simp only [Lib.parseUint10];rw [if_pos ⟨h1,h2⟩,if_neg (by omega),if_neg (by omega)];rw [zk l _ (by simpa [b7] using h3) (Nat.le_trans (Nat.mul_le_mul_right _ (by omega)) hb2)];rfl
theorem Bu {c:UInt8} (h:b7 c=true):UInt8.ofNat (48+(c.toNat-48))=c:=by simp only [b7,KQ,decide_eq_true_eq] at h;rw [show 48+(c.toNat-48)=c.toNat by omega];exact UInt8.ofNat_toNat
theorem FO {α:Type} {P:List α→Prop} (h0:P []) (h1:∀ l c,P l→P (l++[c])) (l:List α):P l:=by
 have:∀ m:List α,P m.reverse:=by
  intro m;induction m with
  | nil=>exact h0
  | cons c m ih=>simpa using h1 _ c ih
 simpa using this l.reverse
theorem IB (l:ai):l.all b7=true→l≠[]→l.head? ≠ some 48→1≤kH 0 l∧Lib.decDigits (kH 0 l)=l:=by
 refine FO (P:=fun l=>l.all b7=true→l≠[]→l.head? ≠ some 48→1≤kH 0 l∧Lib.decDigits (kH 0 l)=l) ?_ ?_ l
 ·intro _ h;exact absurd rfl h
 ·intro l c ih h _ hh;rw [List.all_append,KQ] at h;have hc:b7 c=true:=by simpa using h.2
  have hc':=hc;simp only [b7,KQ,decide_eq_true_eq] at hc';rw [FH];by_cases hl:l=[]
  ·subst hl;have hne:c≠48:=by simpa using hh
   have:c.toNat≠48:=fun e=>hne (by rw [← UInt8.toNat_inj];simpa using e);simp only [kH,List.foldl_nil,Nat.zero_mul,Nat.zero_add,List.nil_append];refine ⟨by omega,?_⟩;rw [Lib.decDigits_one (by omega),Bu hc]
  ·have hh2:l.head? ≠ some 48:=by
    cases l with
    | nil=>exact absurd rfl hl
    | cons x l=>simpa using hh
   obtain ⟨i1,i2⟩:=ih h.1 hl hh2;refine ⟨by omega,?_⟩;rw [Lib.decDigits,dif_neg (by omega),show (kH 0 l*10+(c.toNat-48)) / 10=kH 0 l by omega,i2,show (kH 0 l*10+(c.toNat-48)) % 10=c.toNat-48 by omega,Bu hc]
theorem Ao (u:Nat):(Lib.decDigits u).all b7=true∧(1≤u→(Lib.decDigits u).head? ≠ some 48)∧Lib.decDigits u≠[]:=by
 have key:∀ i,i<10→b7 (UInt8.ofNat (48+i))=true:=by decide
 have key2:∀ i,i<10→1≤i→UInt8.ofNat (48+i)≠48:=by decide
 by_cases h:u<10
 ·rw [Lib.decDigits_one h];exact ⟨by simp only [List.all_cons,List.all_nil,Bool.and_true];exact key u h,fun h1=>by simpa using key2 u h h1,by simp⟩
 ·have ih:=Ao (u / 10);rw [Lib.decDigits,dif_neg h];refine ⟨by rw [List.all_append,ih.1];simp only [List.all_cons,List.all_nil,Bool.and_true,Bool.true_and];exact key (u % 10) (by omega),fun _ => ?_,by simp⟩;have:=ih.2.1 (by omega);cases hd:Lib.decDigits (u / 10) with
  | nil=>exact absurd hd ih.2.2
  | cons x l=>rw [hd] at this;simpa using this
 termination_by u
 decreasing_by omega
end Go.Sh
namespace Go.Proofs.YtjfpcjnopbfekaaGreatDoor
open Go.Ab Go.Sh
theorem aD {α:Type} {p:Prop} [Decidable p] {x:Option α} (h:p):cy p x=x:=if_pos h
theorem gn {ε β:Type} {b:Bool} {e:ε} {r:β} {f:ε→Option β}:(some (bif b then Out.brk e else Out.ret r:Out ε β)).bind (aft f)=bif b then f e else some r:=by cases b<;>rfl
theorem all_congr {p q:Nat→Bool}:∀ (k i:Nat),(∀ j,i≤j→j<i+k→p j=q j)→(List.range' i k).all p=(List.range' i k).all q
 | 0,i,_=>rfl
 | k+1,i,h=>by rw [List.range'_succ,List.all_cons,List.all_cons,h i (Nat.le_refl _) (by omega),all_congr k (i+1) (fun j h1 h2=>h j (by omega) (by omega))]
theorem GO (c k:UInt8) (n:Int) (hk:(k.toNat:Int)=n):((c.toNat:Int)==n)=(c==k):=by rw [Bool.eq_iff_iff];simp only [beq_iff_eq,← UInt8.toNat_inj];omega
def isLet (b:UInt8):Bool:=decide (97≤b.toNat)&&decide (b.toNat≤122)
theorem qu (x:UInt8):iO x=some (b7 x):=by
 unfold iO b7;by_cases h:48≤x.toNat
 ·rw [KV (show (x.toNat:Int)≥48 by omega),KV h];simp only [cond_true,Bool.true_and,KY];rw [decide_eq_decide];omega
 ·rw [KU (show ¬ (x.toNat:Int)≥48 by omega),KU h];rfl
theorem vu (x:UInt8):ju x=some (isLet x):=by
 unfold ju isLet;by_cases h:97≤x.toNat
 ·rw [KV (show (x.toNat:Int)≥97 by omega),KV h];simp only [cond_true,Bool.true_and,KY];rw [decide_eq_decide];omega
 ·rw [KU (show ¬ (x.toNat:Int)≥97 by omega),KU h];rfl
def cW:ai→Bool
 | []=>false
 | c::r=>bif c==95 then (decide (1≤r.length)&&(decide (r.length≤9)&&(!(r.getD 0 0==48)&&r.all b7))) else (decide (r.length≤29)&&(isLet c&&r.all (fun b=>isLet b||b7 b)))
theorem nC (s:ai):iw s=some (cW s):=by
 cases s with
 | nil=>rfl
 | cons c r =>
  unfold iw;have e1:((((c::r).length:Nat):Int)==0)=false:=by simp;omega
  rw [e1];simp only [cond_false];have e95:((((c::r).getD 0 0).toNat:Int)==95)=(c==95):=by rw [List.getD_cons_zero];exact GO c 95 95 rfl
  by_cases h30:r.length≤29
  ·rw [KU (show ¬ (((c::r).length:Nat):Int)>30 by simp;omega)];simp only [cond_false];rw [aD (by simp),e95];simp only [cW];cases hc:c==95 with
   | true =>
    simp only [cond_true];by_cases h1:1≤r.length
    ·rw [KU (show ¬ (((c::r).length:Nat):Int)<2 by simp;omega),KV h1];simp only [cond_false,Bool.true_and];by_cases h9:r.length≤9
     ·rw [KU (show ¬ (((c::r).length:Nat):Int)>10 by simp;omega),KV h9];simp only [cond_false,Bool.true_and];rw [aD (by simp;omega)];have e48:((((c::r).getD 1 0).toNat:Int)==48)=(r.getD 0 0==48):=by rw [List.getD_cons_succ];exact GO _ 48 48 rfl
      rw [e48];cases hd:r.getD 0 0==48 with
      | true=>simp
      | false =>
       simp only [cond_false,Bool.not_false,Bool.true_and];rw [dO (fun j=>b7 ((c::r).getD j 0)) _ _ () (fun j u _ _=>by rw [qu];cases b7 ((c::r).getD j 0)<;>rfl),gn,ke b7 0 (c::r) 1];simp only [List.drop_succ_cons,List.drop_zero];cases r.all b7<;>rfl
     ·rw [KV (show (((c::r).length:Nat):Int)>10 by simp;omega),KU h9];simp
    ·rw [KV (show (((c::r).length:Nat):Int)<2 by simp;omega),KU h1];simp
   | false =>
    simp only [cond_false];rw [KV h30];rw [dO (fun j=>isLet ((c::r).getD j 0)||(!(((j:Nat):Int)==0)&&b7 ((c::r).getD j 0))) _ _ () (fun j u _ _=>by rw [vu,qu];cases isLet ((c::r).getD j 0)<;>cases b7 ((c::r).getD j 0)<;>cases ((j:Nat):Int)==0<;>rfl),gn]
    have e:(List.range' 0 ((c::r).length-0)).all (fun j=>isLet ((c::r).getD j 0)||(!(((j:Nat):Int)==0)&&b7 ((c::r).getD j 0)))=(isLet c&&r.all (fun b=>isLet b||b7 b)):=by
     rw [show (c::r).length-0=r.length+1 by simp,List.range'_succ,List.all_cons];have e0:(isLet ((c::r).getD 0 0)||(!(((0:Nat):Int)==0)&&b7 ((c::r).getD 0 0)))=isLet c:=by simp
     rw [e0];congr 1;rw [all_congr (q:=fun j=>(fun b=>isLet b||b7 b) ((c::r).getD j 0)) _ _ (fun j h1 _=>by
      have:(((j:Nat):Int)==0)=false:=by simp;omega
      simp only [this,Bool.not_false,Bool.true_and])]
     have:=ke (fun b=>isLet b||b7 b) 0 (c::r) 1;simpa using this
    rw [e];simp only [Bool.true_and];cases isLet c&&r.all (fun b=>isLet b||b7 b)<;>rfl
  ·rw [KV (show (((c::r).length:Nat):Int)>30 by simp;omega)];simp only [cond_true,cW];rw [KU h30];have:¬ r.length≤9:=by omega
   rw [KU this];cases c==95<;>simp
theorem rI (s:ai) (c:UInt8):cQ s [c]=some (match s with | []=>false | x::_=>x==c):=by
 unfold cQ bJ;cases s with
 | nil=>rfl
 | cons x l =>
  rw [KV (by simp;omega)];simp only [cond_true];rw [aD (by simp)];simp
theorem Gq {r:ai} (h0:r≠[]) (h:r.all b7=true) (hl:r.length≤9):Lib.atoiAll r = .ok (kH 0 r:Int)∧kH 0 r<10000000000:=by
 cases r with
 | nil=>exact absurd rfl h0
 | cons c r =>
  have hc:b7 c=true:=by simp only [List.all_cons,KQ] at h;exact h.1
  have hc2:=hc;simp only [b7,KQ,decide_eq_true_eq] at hc2;have hp:(10:Nat) ^ (c::r).length≤10 ^ 9:=Nat.pow_le_pow_right (by decide) hl;have hv:=zk (c::r) 0 h (by
   rw [Nat.zero_add,Nat.one_mul];exact Nat.le_trans hp (by decide))
  have hb:∀ (l:ai) (a:Nat),l.all b7=true→kH a l+1≤(a+1)*10 ^ l.length:=by
   intro l;induction l with
   | nil=>intro a _;simp [kH]
   | cons x l ih =>
    intro a hx;simp only [List.all_cons,KQ,b7,decide_eq_true_eq] at hx;have:=ih (a*10+(x.toNat-48)) (by simpa [b7] using hx.2);have e:kH a (x::l)=kH (a*10+(x.toNat-48)) l:=rfl;rw [e];refine Nat.le_trans this ?_;rw [List.length_cons,Nat.pow_succ,Nat.mul_comm (10 ^ l.length) 10,← Nat.mul_assoc];exact Nat.mul_le_mul_right _ (by omega)
  have hlt:=hb (c::r) 0 h;rw [Nat.zero_add,Nat.one_mul] at hlt;have h9:(10:Nat) ^ 9=1000000000:=by decide
  rw [h9] at hp;refine ⟨?_,by omega⟩;rw [Lib.atoiAll_plain c r (by omega) (by omega)];have:Lib.parseMag (c::r) = .ok (kH 0 (c::r)):=by unfold Lib.parseMag;rw [if_neg (by simp)];exact hv
  rw [this];simp only [Lib.signless];rw [if_neg (by omega)]
theorem lH (s:ai) (hs:s.length≤1000000):dV s=some (cW s):=by
 unfold dV;rw [rI];cases s with
 | nil=>rfl
 | cons c r =>
  simp only [Option.bind_some,cW];have hr:r.length≤1000000:=by simp at hs;omega
  cases hc:c==95 with
  | true =>
   simp only [cond_true];rw [aD (by simp)];simp only [List.drop_succ_cons,List.drop_zero,nV];rw [aD (by omega)];simp only [Option.bind_some];by_cases h9:r.length≤9
   ·by_cases h1:1≤r.length
    ·rw [KV h1,KV h9];simp only [Bool.true_and];have hne:r≠[]:=by intro e;subst e;simp at h1
     have hhd:(r.getD 0 0==48)=decide (r.head? = some 48):=by
      cases r with
      | nil=>exact absurd rfl hne
      | cons x l=>simp;rw [Bool.eq_iff_iff];simp
     have key:∀ v:Int,0<v→v≤9223372036854775807→jb v=some (Lib.decDigits v.toNat)∨True:=fun _ _ _=>.inr trivial;by_cases hall:r.all b7=true
     ·obtain ⟨a1,a2⟩:=Gq hne hall h9;simp only [va,a1,cond_true];by_cases h48:r.head? = some 48
      ·
       rw [hhd,KV h48];simp only [Bool.not_true,Bool.false_and];by_cases hz:kH 0 r=0
       ·rw [hz];rfl
       ·rw [KV (by omega:(kH 0 r:Int)>0),KV (by simp;omega:(((c::r).length:Nat):Int)≤10)];simp only [cond_true,jb];have hlen:(Lib.itoa (kH 0 r:Int)).length≤21:=Lib.itoa_length_le _ (by omega) (by omega);rw [aD ⟨by omega,by omega,by omega⟩];simp only [Option.bind_some,KY];rw [Lib.itoa_nonneg,beq_eq_false_iff_ne];intro e;exact (Ao (kH 0 r)).2.1 (by omega) (by rw [e];exact h48)
      ·obtain ⟨d1,d2⟩:=IB r hall hne h48;rw [hhd,KU h48,hall];simp only [Bool.not_false,Bool.true_and];rw [KV (by omega:(kH 0 r:Int)>0),KV (by simp;omega:(((c::r).length:Nat):Int)≤10)];simp only [cond_true,jb];have hlen:(Lib.itoa (kH 0 r:Int)).length≤21:=Lib.itoa_length_le _ (by omega) (by omega);rw [aD ⟨by omega,by omega,by omega⟩];simp only [Option.bind_some,KY];rw [Lib.itoa_nonneg,d2];simp
     ·have hall:r.all b7=false:=by simpa using hall
      rw [hall];simp only [Bool.and_false];cases ha:Lib.atoiAll r with
      | ok v =>
       simp only [va,ha,cond_true];by_cases hv:v>0
       ·rw [KV hv,KV (by simp;omega:(((c::r).length:Nat):Int)≤10)];simp only [cond_true,jb];have hvb:v≤9223372036854775807:=by
         cases r with
         | nil=>exact absurd rfl hne
         | cons x l =>
          unfold Lib.atoiAll at ha;simp only at ha;split at ha
          ·cases ha
          ·cases ha
          ·split at ha
           ·cases ha
           ·split at ha
            ·cases ha
            ·rename_i h1 h2;simp only [Lib.NumEnd.ok.injEq] at ha;rw [← ha];split
             ·omega
             ·rename_i h3;have:=h1;simp only [h3,not_false_eq_true,true_and] at this;omega
        have hlen:(Lib.itoa v).length≤21:=Lib.itoa_length_le _ (by omega) hvb;rw [aD ⟨by omega,hvb,by omega⟩];simp only [Option.bind_some,KY];rw [beq_eq_false_iff_ne];intro e;have:(Lib.itoa v).all b7=true:=by unfold Lib.itoa;rw [if_neg (by omega)];exact (Ao _).1
        rw [e,hall] at this;cases this
       ·rw [KU hv];rfl
      | range=>simp [va,ha]
      | _=>simp [va,ha]
    ·have:r=[]:=List.eq_nil_of_length_eq_zero (by omega);subst this;rfl
   ·rw [KU h9,KU (by simp;omega:¬ (((c::r).length:Nat):Int)≤10)];simp only [cond_false,Bool.false_and,Bool.and_false];cases (va r).2<;>cases decide ((va r).1>0)<;>rfl
  | false =>
   simp only [cond_false];rw [dO (fun j=>isLet ((c::r).getD j 0)||(!(((j:Nat):Int)==0)&&b7 ((c::r).getD j 0))) _ _ () (fun j u _ _=>by
    simp only [isLet,b7];generalize (c::r).getD j 0=x;by_cases h1:(x.toNat:Int)<97
    ·rw [KV h1,KU (show ¬ 97≤x.toNat by omega)];simp only [cond_true,Bool.false_and,Bool.false_or];cases ((j:Nat):Int)==0
     ·simp only [cond_false,Bool.not_false,Bool.true_and];by_cases h2:(x.toNat:Int)<48
      ·rw [KV h2,KU (show ¬ 48≤x.toNat by omega)];rfl
      ·rw [KU h2,KV (show 48≤x.toNat by omega)];by_cases h3:(x.toNat:Int)>57
       ·rw [KV h3,KU (show ¬ x.toNat≤57 by omega)];rfl
       ·rw [KU h3,KV (show x.toNat≤57 by omega)];rfl
     ·rfl
    ·rw [KU h1,KV (show 97≤x.toNat by omega)];simp only [cond_false,Bool.true_and];by_cases h2:(x.toNat:Int)>122
     ·rw [KV h2,KU (show ¬ x.toNat≤122 by omega),KU (show ¬ x.toNat≤57 by omega),KU (show ¬ (x.toNat:Int)<48 by omega),KV (show (x.toNat:Int)>57 by omega)];cases ((j:Nat):Int)==0<;>simp [Sh.aft]
     ·rw [KU h2,KV (show x.toNat≤122 by omega)];simp [Sh.aft]),gn]
   have e:(List.range' 0 ((c::r).length-0)).all (fun j=>isLet ((c::r).getD j 0)||(!(((j:Nat):Int)==0)&&b7 ((c::r).getD j 0)))=(isLet c&&r.all (fun b=>isLet b||b7 b)):=by
    rw [show (c::r).length-0=r.length+1 by simp,List.range'_succ,List.all_cons];have e0:(isLet ((c::r).getD 0 0)||(!(((0:Nat):Int)==0)&&b7 ((c::r).getD 0 0)))=isLet c:=by simp
    rw [e0];congr 1;rw [all_congr (q:=fun j=>(fun b=>isLet b||b7 b) ((c::r).getD j 0)) _ _ (fun j h1 _=>by
     have:(((j:Nat):Int)==0)=false:=by simp;omega
     simp only [this,Bool.not_false,Bool.true_and])]
    have:=ke (fun b=>isLet b||b7 b) 0 (c::r) 1;simpa using this
   rw [e];have e2:((c::r)==[])=false:=rfl;rw [e2];simp only [cond_false];by_cases h30:r.length≤29
   ·rw [KV h30,KV (by simp;omega:(((c::r).length:Nat):Int)≤30)];cases isLet c&&r.all (fun b=>isLet b||b7 b)<;>rfl
   ·rw [KU h30,KU (by simp;omega:¬ (((c::r).length:Nat):Int)≤30)];cases isLet c&&r.all (fun b=>isLet b||b7 b)<;>rfl
end Go.Proofs.YtjfpcjnopbfekaaGreatDoor
namespace Go.Sh
theorem j7 {α:Type} [DecidableEq α]:∀ (l l':List α),l.Nodup→(∀ x∈l,x∈l')→l.length≤l'.length
 | [],l',_,_=>by simp
 | a::l,l',h,hs=>by
  rw [List.nodup_cons] at h;have ha:a∈l':=hs a (by simp);have ih:=j7 l (l'.erase a) h.2 (fun x hx=>by have hne:x≠a:=fun e=>h.1 (e ▸ hx);exact (List.mem_erase_of_ne hne).2 (hs x (by simp [hx])))
  rw [List.length_erase_of_mem ha] at ih;have:0<l'.length:=List.length_pos_of_mem ha;simp only [List.length_cons];omega
theorem Gz {V σ ε β:Type} {m:List (ai×V)} {body:ai×V→σ→Option (gZ σ ε β)} {K:σ→Prop} {J:β→Prop} (I:List Nat→σ→Prop) (g:σ→ai×V→σ)
 (hstep:∀ seen s i (h:i<m.length),seen.Nodup→i ∉ seen→(∀ j∈seen,j<m.length)→I seen s→body m[i] s=some (.go (g s m[i]))∧I (seen++[i]) (g s m[i]))
 (hend:∀ seen s,seen.Nodup→(∀ i,i<m.length→i∈seen)→(∀ i∈seen,i<m.length)→I seen s→K s) :
 ∀ (n:Nat) (seen:List Nat) (s:σ),seen.Nodup→(∀ i∈seen,i<m.length)→n+seen.length=m.length→I seen s→MR m body K J n seen s
 | 0,seen,s,h1,h2,h3,hI=>by
  have hall:∀ i,i<m.length→i∈seen:=by
   intro i hi;refine Classical.byContradiction fun hn => ?_;have:=j7 (i::seen) (List.range m.length) (List.nodup_cons.2 ⟨hn,h1⟩) (fun x hx=>by
    rcases List.mem_cons.1 hx with rfl | hx
    ·simpa using hi
    ·simpa using h2 x hx)
   simp at this;omega
  exact ⟨hall,hend seen s h1 hall h2 hI⟩
 | n+1,seen,s,h1,h2,h3,hI=>by
  refine ⟨?_,fun i hi hn => ?_⟩
  ·refine Classical.byContradiction fun hn => ?_;have:=j7 (List.range m.length) seen List.nodup_range (fun x hx=>Classical.byContradiction fun hx2=>hn ⟨x,by simpa using hx,hx2⟩);simp at this;omega
  ·obtain ⟨e1,e2⟩:=hstep seen s i hi h1 hn h2 hI;refine ⟨_,e1,?_⟩;have hnd:(seen++[i]).Nodup:=by
    rw [List.nodup_append];exact ⟨h1,by simp,fun a ha b hb=>by
     have:b=i:=by simpa using hb
     subst this;intro e;subst e;exact hn ha⟩
   exact Gz I g hstep hend n (seen++[i]) _ hnd (fun j hj=>by
    rcases List.mem_append.1 hj with hj | hj
    ·exact h2 j hj
    ·have:j=i:=by simpa using hj
     subst this;exact hi) (by simp;omega) e2
def pN (x y:ai):Bool:=decide (x≤y)
theorem qM (a b c:ai) (h1:pN a b=true) (h2:pN b c=true):pN a c=true:=by simp only [pN,decide_eq_true_eq] at *;exact List.le_trans h1 h2
theorem tW (a b:ai):(pN a b||pN b a)=true:=by simp only [pN,Bool.or_eq_true,decide_eq_true_eq];exact List.le_total a b
theorem Gf (a b:ai) (h1:pN a b=true) (h2:pN b a=true):a=b:=by simp only [pN,decide_eq_true_eq] at *;exact List.le_antisymm h1 h2
theorem uD (l:List ai):(Go.Ab.sortS l).Pairwise (fun a b=>pN a b=true):=List.pairwise_mergeSort qM tW l
theorem zg (l:List ai):(Go.Ab.sortS l).Perm l:=List.mergeSort_perm l _
theorem Ay {l r:List ai} (hs:r.Pairwise (fun a b=>pN a b=true)) (hp:r.Perm l):Go.Ab.sortS l=r :=
 List.Perm.eq_of_pairwise (fun a b _ _=>Gf a b) (uD l) hs ((zg l).trans hp.symm)
theorem Dn {l r:List ai} (h:l.Perm r):Go.Ab.sortS l=Go.Ab.sortS r:=Ay (uD r) ((zg r).trans h.symm)
def Cr (x:ai):List ai→List ai
 | []=>[x]
 | y::l=>bif pN x y then x::y::l else y::Cr x l
def bK:List ai→List ai
 | []=>[]
 | x::l=>Cr x (bK l)
theorem uc (x:ai):∀ l,(Cr x l).Perm (x::l)
 | []=>.refl _
 | y::l=>by
  simp only [Cr];cases pN x y
  ·exact ((uc x l).cons y).trans (.swap _ _ _)
  ·exact .refl _
theorem uW (x:ai):∀ {l:List ai},l.Pairwise (fun a b=>pN a b=true)→(Cr x l).Pairwise (fun a b=>pN a b=true)
 | [],_=>by simp [Cr]
 | y::l,h=>by
  rw [List.pairwise_cons] at h;simp only [Cr];cases hxy:pN x y
  ·simp only [cond_false,List.pairwise_cons];have hyx:pN y x=true:=by have:=tW x y;rw [hxy] at this;simpa using this
   refine ⟨fun a ha => ?_,uW x h.2⟩;rcases List.mem_cons.1 ((uc x l).mem_iff.1 ha) with rfl | ha
   ·exact hyx
   ·exact h.1 a ha
  ·simp only [cond_true,List.pairwise_cons];refine ⟨fun a ha => ?_,h⟩;rcases List.mem_cons.1 ha with rfl | ha
   ·exact hxy
   ·exact qM _ _ _ hxy (h.1 a ha)
theorem iB:∀ l,(bK l).Perm l
 | []=>.refl _
 | x::l=>(uc x _).trans ((iB l).cons x)
theorem sE:∀ l,(bK l).Pairwise (fun a b=>pN a b=true)
 | []=>List.Pairwise.nil
 | x::l=>uW x (sE l)
theorem xM (l:List ai):Go.Ab.sortS l=bK l:=Ay (sE l) (iB l)
def Ai:List ai→Bool
 | []=>true
 | x::l => !(l.any fun y=>y==x)&&Ai l
theorem yB:∀ {l:List ai},Ai l=true→l.Nodup
 | [],_=>List.nodup_nil
 | x::l,h=>by simp only [Ai,KQ,Bool.not_eq_true',List.any_eq_false,beq_iff_eq] at h;exact List.nodup_cons.2 ⟨fun hm=>h.1 x hm rfl,yB h.2⟩
section
variable {α σ ε ρ:Type}
def cu (g:α→σ→gZ σ ε ρ) (fin:σ→ε):List α→σ→Out ε ρ
 | [],s=>.brk (fin s)
 | x::l,s=>match g x s with | .go s'=>cu g fin l s' | .brk e=>.brk e | .ret r=>.ret r
theorem BQ {body:Nat→σ→Option (gZ σ ε ρ)} {fin:Nat→σ→ε} {f:σ→ε} (d:α) (l:List α) (g:α→σ→gZ σ ε ρ) (I:Nat→σ→Prop) (hf:∀ i s,fin i s=f s) :
 ∀ (i:Nat) (s:σ),I i s→(∀ j s,i≤j→j<l.length→I j s→body j s=some (g (l.getD j d) s)∧∀ s',g (l.getD j d) s = .go s'→I (j+1) s') →
 cY body fin (l.length-i) i s=some (cu g f (l.drop i) s):=by
 intro i s hI h;by_cases hi:i<l.length
 ·obtain ⟨k,hk⟩:∃ k,l.length-i=k+1:=⟨l.length-i-1,by omega⟩;obtain ⟨h1,h2⟩:=h i s (Nat.le_refl _) hi hI;have hx:l.getD i d=l[i]:=by simp [KO,KP hi]
  rw [hx] at h1 h2;rw [hk,List.drop_eq_getElem_cons hi];simp only [cY,h1,Option.bind_some,cu];cases hg:g l[i] s with
  | go s' =>
   have ih:=BQ d l g I hf (i+1) s' (h2 s' hg) (fun j s h1 h2=>h j s (by omega) h2);rw [show l.length-(i+1)=k by omega] at ih;exact ih
  | brk e=>rfl
  | ret r=>rfl
 ·rw [show l.length-i=0 by omega,List.drop_eq_nil_of_le (by omega)];simp [cY,cu,hf]
 termination_by i=>l.length-i
theorem jO {body:Nat→σ→Option (gZ σ ε ρ)} {fin:Nat→σ→ε} {f:σ→ε} (d:α) (l:List α) (g:α→σ→gZ σ ε ρ) (I:Nat→σ→Prop) (hf:∀ i s,fin i s=f s) (s:σ) (hI:I 0 s)
 (h:∀ j s,j<l.length→I j s→body j s=some (g (l.getD j d) s)∧∀ s',g (l.getD j d) s = .go s'→I (j+1) s') :
 cY body fin (l.length-0) 0 s=some (cu g f l s):=by
 have:=BQ d l g I hf 0 s hI (fun j s _ h1 h2=>h j s h1 h2);simpa using this
theorem qW {body:Nat→Unit→Option (gZ Unit Nat ρ)} (p:Nat→Bool):∀ (k i:Nat) (u:Unit),(∀ j u,i≤j→j<i+k→body j u=some (bif p j then .brk j else .go ())) →
 cY body (fun i _=>i) k i u=some (.brk (match (List.range' i k).find? p with | some j=>j | none=>i+k))
 | 0,i,u,h=>by simp [cY]
 | k+1,i,u,h=>by
  simp only [cY,h i u (Nat.le_refl _) (by omega),List.range'_succ,List.find?_cons];cases hp:p i with
  | false =>
   simp only [cond_false,Option.bind_some,tw];rw [qW p k (i+1) () (fun j u h1 h2=>h j u (by omega) (by omega))];rw [show i+1+k=i+(k+1) by omega]
  | true=>simp [tw]
theorem tL (p:α→Bool) (d:α):∀ l:List α,0≤idxOf p l→(idxOf p l).toNat<l.length∧p (l.getD (idxOf p l).toNat d)=true
 | [],h=>by simp [idxOf] at h
 | x::l,h=>by
  cases hp:p x with
  | true=>simp [idxOf,hp]
  | false =>
   have hge:=pQ p l;simp only [idxOf,hp,cond_false] at h ⊢;by_cases hm:idxOf p l = -1
   ·rw [hm] at h;simp at h
   ·have e:(idxOf p l == -1)=false:=by simpa using hm
    rw [e,cond_false];obtain ⟨h1,h2⟩:=tL p d l (by omega);have e2:(idxOf p l+1).toNat=(idxOf p l).toNat+1:=by omega
    rw [e2];exact ⟨by simp;omega,by simpa using h2⟩
theorem vR (p:α→Bool) (d:α) (l:List α):idxOf p l<(l.length:Int):=by
 by_cases h:0≤idxOf p l
 ·have:=(tL p d l h).1;omega
 ·omega
theorem uv (p:α→Bool) (d:α) (l:List α):((match (List.range' 0 (l.length-0)).find? (fun j=>p (l.getD j d)) with | some j=>j | none=>0+(l.length-0)):Nat)=(bif decide (idxOf p l<0) then l.length else (idxOf p l).toNat):=by
 have h:=qO p d l;have hge:=pQ p l;cases hf:(List.range' 0 (l.length-0)).find? (fun j=>p (l.getD j d)) with
 | none =>
  rw [hf] at h;have h:(-1:Int)=idxOf p l:=h;rw [← h];simp
 | some j =>
  rw [hf] at h;have h:((j:Nat):Int)=idxOf p l:=h;rw [← h,KU (by omega)];simp
end
end Go.Sh
namespace Go.Proofs.YtjfpcjnopbfekaaGreatDoor
open Go.Ab Go.Sh
theorem av {n:Int} (h1 : -9223372036854775808≤n) (h2:n≤9223372036854775807):aJ n=n:=by unfold aJ IntKind.wrap IntKind.bits IntKind.signed;simp;omega
theorem DV (x:ai):cmp_isNaN_string x=some false:=by simp [cmp_isNaN_string]
theorem IP (x y:ai):cmp_Less_string x y=some (Op.bytesLess x y):=by simp [cmp_Less_string,DV]
theorem BN (x y:ai):de x y=some (gU x y):=by
 simp only [de,DV,Option.bind_some,cond_false];cases h:Op.bytesLess x y with
 | true=>simp [gU,h]
 | false =>
  rcases xd x y with h1 | h1 | h1
  ·rw [h] at h1;cases h1
  ·subst h1;simp [gU,h]
  ·have hne:(x==y)=false:=by rw [beq_eq_false_iff_ne];intro e;subst e;rw [h] at h1;cases h1
   simp [gU,h,h1,hne]
theorem Dm (a b:List ai):dd a b=some (cmpL a b):=by
 unfold dd;generalize hb:(fun (i37:Nat) (s36:Unit)=>_:Nat→Unit→Option (gZ Unit Unit Int))=body;have key:∀ k i u,i+k=a.length→i≤b.length→(∀ j,j<i→a.getD j []=b.getD j [])→(cY body (fun _ _=>()) k i u).bind (aft fun _=>bif decide (((a.length:Nat):Int)<((b.length:Nat):Int)) then some (-1) else some 0)=some (cmpL a b):=by
  intro k;induction k with
  | zero =>
   intro i u h1 h2 hA;simp only [cY,Option.bind_some,Sh.aft];by_cases h:a.length<b.length
   ·rw [KV (by omega),zR hA (by omega) (by omega)];rfl
   ·rw [KU (by omega),cmpL_eq hA (by omega) (by omega)];rfl
  | succ k ih =>
   intro i u h1 h2 hA;have e0:body i u=bif decide (((i:Nat):Int)≥((b.length:Nat):Int)) then some (.ret 1) else (de (a.getD i []) (b.getD i [])).bind fun y=>bif (y==0) then some (.go ()) else some (.ret y):=by rw [← hb]
   simp only [cY];rw [e0];by_cases hl:b.length≤i
   ·rw [KV (by omega),zw hA (by omega) (by omega)];rfl
   ·rw [KU (by omega)];simp only [cond_false,BN,Option.bind_some];by_cases hz:gU (a.getD i []) (b.getD i [])=0
    ·rw [hz];simp only [beq_self_eq_true,cond_true,Option.bind_some,tw];exact ih (i+1) () (by omega) (by omega) fun j hj=>by
      by_cases e:j=i
      ·subst e;exact nS.1 hz
      ·exact hA j (by omega)
    ·rw [beq_eq_false_iff_ne.2 hz,vK hA (by omega) (by omega) hz];simp [tw,Sh.aft]
 exact key (a.length-0) 0 () (by omega) (Nat.zero_le _) (fun j hj=>absurd hj (Nat.not_lt_zero _))
theorem w6 (a b:List ai) (ha:a.length≤1000000) (hb2:b.length≤1000000):∃ r,dz a b=some r∧(0≤r↔0≤cmpL a b)∧(r=0↔cmpL a b=0):=by
 unfold dz;generalize hb:(fun (i47:Nat) (s46:Unit)=>_:Nat→Unit→Option (gZ Unit Unit Int))=body;have hend:aJ (((a.length:Nat):Int)-((b.length:Nat):Int))=((a.length:Nat):Int)-((b.length:Nat):Int):=av (by omega) (by omega);have key:∀ k i u,i+k=a.length→i≤b.length→(∀ j,j<i→a.getD j []=b.getD j [])→∃ r,(cY body (fun _ _=>()) k i u).bind (aft fun _=>some (aJ (((a.length:Nat):Int)-((b.length:Nat):Int))))=some r∧(0≤r↔0≤cmpL a b)∧(r=0↔cmpL a b=0):=by
  intro k;induction k with
  | zero =>
   intro i u h1 h2 hA;refine ⟨_,rfl,?_⟩;rw [hend];by_cases h:a.length<b.length
   ·rw [zR hA (by omega) (by omega)];omega
   ·rw [cmpL_eq hA (by omega) (by omega)];omega
  | succ k ih =>
   intro i u h1 h2 hA;have e0:body i u=bif decide (((i:Nat):Int)<((b.length:Nat):Int)) then (bif (Op.bytesLess (a.getD i []) (b.getD i [])) then some (.ret (-1)) else (bif (Op.bytesLess (a.getD i []) (b.getD i [])||(a.getD i [])==(b.getD i [])) then some (.go ()) else some (.ret 1))) else some (.brk ()):=by rw [← hb]
   simp only [cY];rw [e0];by_cases hl:b.length≤i
   ·rw [KU (by omega)];refine ⟨_,rfl,?_⟩;rw [hend,zw hA (by omega) (by omega)];omega
   ·rw [KV (by omega)];simp only [cond_true];rcases xd (a.getD i []) (b.getD i []) with h3 | h3 | h3
    ·rw [h3,vK hA (by omega) (by omega) (by have:=ka.2 h3;omega)];refine ⟨_,rfl,?_⟩;have:=ka.2 h3;omega
    ·rw [h3,iP];simp only [cond_false,Bool.false_or,beq_self_eq_true,cond_true,Option.bind_some,tw];exact ih (i+1) () (by omega) (by omega) fun j hj=>by
      by_cases e:j=i
      ·subst e;exact h3
      ·exact hA j (by omega)
    ·have hne:(a.getD i []==b.getD i [])=false:=by rw [beq_eq_false_iff_ne];intro e;rw [e,iP] at h3;cases h3
     rw [sA h3,hne,vK hA (by omega) (by omega) (by have:=ql.2 h3;omega)];refine ⟨_,rfl,?_⟩;have:=ql.2 h3;omega
 exact key (a.length-0) 0 () (by omega) (Nat.zero_le _) (fun j hj=>absurd hj (Nat.not_lt_zero _))
def v8 (x:List ai):Bool:=(List.range' 1 (x.length-1)).all fun j => !(Op.bytesLess (x.getD j []) (x.getD (j-1) []))
theorem B0 (n:Nat):List.range' 1 (n+1)=List.range' 1 n++[n+1]:=by rw [List.range'_concat];simp [Nat.add_comm]
theorem BJ (x:List ai) (hx:x.length≤1000000):cT x=some (v8 x):=by
 unfold cT;generalize hb:(fun (s32:Int)=>_:Int→Option (gZ Int Unit Bool))=body;have key:∀ k fuel,k<x.length∨k=0→k<fuel→(xU body fuel ((k:Nat):Int)).bind (aft fun _=>some true)=some ((List.range' 1 k).all fun j => !(Op.bytesLess (x.getD j []) (x.getD (j-1) []))):=by
  intro k;induction k with
  | zero =>
   intro fuel _ hf;obtain ⟨f,rfl⟩:∃ f,fuel=f+1:=⟨fuel-1,by omega⟩;have e0:body ((0:Nat):Int)=some (.brk ()):=by rw [← hb];rfl
   simp only [xU,e0,Option.bind_some,tw,Sh.aft];rfl
  | succ k ih =>
   intro fuel hk hf;obtain ⟨f,rfl⟩:∃ f,fuel=f+1:=⟨fuel-1,by omega⟩;have ew:aJ (((k+1:Nat):Int)-1)=((k:Nat):Int):=by rw [av (by omega) (by omega)];omega
   have e0:body ((k+1:Nat):Int)=bif (Op.bytesLess (x.getD (k+1) []) (x.getD k [])) then some (.ret false) else some (.go ((k:Nat):Int)):=by rw [← hb];simp only [ew];rw [KV (by omega)];simp only [cond_true];rw [aD (by omega),aD (by omega),IP];simp
   simp only [xU,e0];rw [B0,List.all_append];cases h:Op.bytesLess (x.getD (k+1) []) (x.getD k []) with
   | true=>simp only [cond_true,Option.bind_some,tw,Sh.aft,List.all_cons,List.all_nil,Bool.and_true,Nat.add_sub_cancel,h,Bool.not_true,Bool.and_false]
   | false =>
    simp only [cond_false,Option.bind_some,tw];rw [ih f (by omega) (by omega)];simp only [List.all_cons,List.all_nil,Bool.and_true,Nat.add_sub_cancel,h,Bool.not_false]
 by_cases h0:x.length=0
 ·have ex:x=[]:=List.eq_nil_of_length_eq_zero h0;subst ex;have e0:body (aJ (-1))=some (.brk ()):=by rw [← hb];rfl
  have e1:aJ ((([]:List ai).length:Nat)-1:Int)=aJ (-1):=rfl;have e2:∀ fuel,(xU body (fuel+1) (aJ (-1))).bind (Sh.aft fun _=>some true)=some true:=fun fuel=>by simp only [xU,e0,Option.bind_some,tw,Sh.aft]
  exact e2 4294967295
 ·have ew:aJ (((x.length:Nat):Int)-1)=((x.length-1:Nat):Int):=by rw [av (by omega) (by omega)];omega
  rw [ew];exact key (x.length-1) _ (by omega) (by omega)
theorem contains_eq (x:List ai) (hN:∀ v∈x,v.length≤1000000):b5 x=some (!(x.all cW)):=by
 have h1:∀ v∈x,jw v=some (!(cW v)):=fun v hv=>by unfold jw;rw [lH v (hN v hv)];rfl
 unfold b5 dC;rw [s8 (f:=fun j=>((j:Nat):Int)) (fun j => !(cW (x.getD j []))) _ _ () (fun j u _ hj=>by rw [h1 (x.getD j []) (by rw [KO,KP (by omega)];exact List.getElem_mem _)];cases cW (x.getD j [])<;>rfl)]
 have h2:=qO (fun v => !(cW v)) [] x;have h3:=qS (fun v => !(cW v)) x;have h4:x.any (fun v => !(cW v)) = !(x.all cW):=by rw [List.not_all_eq_any_not]
 generalize (List.range' 0 (x.length-0)).find? (fun j => !(cW (x.getD j [])))=o at h2 ⊢;cases o with
 | none =>
  simp only [Option.bind_some,Sh.aft];rw [← h2] at h3;rw [← h4,h3.1 (by decide)];rfl
 | some j =>
  simp only [Option.bind_some,Sh.aft];rw [← h2] at h3;have:x.any (fun v => !(cW v))=true:=by
   cases h5:x.any (fun v => !(cW v)) with
   | true=>rfl
   | false=>have h6:=h3.2 h5;simp only at h6;omega
  rw [← h4,this];simp
def F7 (m:aa):Bool := !(m.Coef==0)&&(decide (-1099511627776≤m.Coef)&&(decide (m.Coef≤1099511627776)&&(decide (m.Vars.length≤8)&&(v8 m.Vars&&m.Vars.all cW))))
def bg (p:List aa) (j:Nat):aa:=p.getD j ⟨0,[]⟩
def oW (p:List aa) (j:Nat):Bool:=F7 (bg p j)&&(((j:Nat):Int)==0||decide (cmpL (bg p (j-1)).Vars (bg p j).Vars<0))
def bC (p:List aa):Bool:=(List.range' 0 (p.length-0)).all (oW p)&&decide (p.length≤60)
def Bd (p:List aa):Prop:=p.length≤1000000∧∀ m∈p,m.Vars.length≤1000000∧∀ v∈m.Vars,v.length≤1000000
theorem ed {p:List aa} {j:Nat} (h:j<p.length):bg p j∈p:=by unfold bg;rw [KO,KP h];exact List.getElem_mem _
theorem nz (p:List aa) (hB:Bd p):gE p=some (bC p):=by
 unfold gE;rw [dO (oW p) _ _ () (fun j u _ hj=>by
  have hm:=hB.2 _ (ed (p:=p) (j:=j) (by omega));have hw:∀ (h:0<j),aJ (((j:Nat):Int)-1)=((j-1:Nat):Int):=fun h=>by rw [av (by have:=hB.1;omega) (by have:=hB.1;omega)];omega
  show _=_;unfold oW F7;simp only [show p.getD j ⟨0,[]⟩=bg p j from rfl,BJ _ hm.1,contains_eq _ hm.2,Option.bind_some];by_cases hj0:0<j
  ·have hjz:(((j:Nat):Int)==0)=false:=by simp;omega
   rw [hw hj0,aD (by omega),hjz,KV (show ((j:Nat):Int)>0 by omega)];simp only [Int.toNat_natCast,show p.getD (j-1) ⟨0,[]⟩=bg p (j-1) from rfl,Dm,Option.bind_some,Bool.false_or,cond_true];generalize cmpL (bg p (j-1)).Vars (bg p j).Vars=r;generalize bg p j=m;have e1:decide (m.Coef < -1099511627776) = !(decide (-1099511627776≤m.Coef)):=by rw [Bool.eq_iff_iff];simp
   have e2:decide (m.Coef>1099511627776) = !(decide (m.Coef≤1099511627776)):=by rw [Bool.eq_iff_iff];simp
   have e3:decide (((m.Vars.length:Nat):Int)>8) = !(decide (m.Vars.length≤8)):=by rw [Bool.eq_iff_iff];simp;omega
   have e4:decide (r≥0) = !(decide (r<0)):=by rw [Bool.eq_iff_iff];simp
   rw [e1,e2,e3,e4];cases m.Coef==0<;>cases decide (-1099511627776≤m.Coef)<;>cases decide (m.Coef≤1099511627776)<;>cases decide (m.Vars.length≤8)<;>cases v8 m.Vars<;>cases m.Vars.all cW<;>cases decide (r<0)<;>rfl
  ·have:j=0:=by omega
   subst this;generalize bg p 0=m;have e1:decide (m.Coef < -1099511627776) = !(decide (-1099511627776≤m.Coef)):=by rw [Bool.eq_iff_iff];simp
   have e2:decide (m.Coef>1099511627776) = !(decide (m.Coef≤1099511627776)):=by rw [Bool.eq_iff_iff];simp
   have e3:decide (((m.Vars.length:Nat):Int)>8) = !(decide (m.Vars.length≤8)):=by rw [Bool.eq_iff_iff];simp;omega
   rw [e1,e2,e3];cases m.Coef==0<;>cases decide (-1099511627776≤m.Coef)<;>cases decide (m.Coef≤1099511627776)<;>cases decide (m.Vars.length≤8)<;>cases v8 m.Vars<;>cases m.Vars.all cW<;>rfl),gn]
 unfold bC;cases (List.range' 0 (p.length-0)).all (oW p) with
 | false=>rfl
 | true =>
  simp only [cond_true,Bool.true_and,KY];rw [decide_eq_decide];omega
theorem DN (x y:ai):(Op.bytesLess x y||x==y) = !(Op.bytesLess y x):=by
 rcases xd x y with h | h | h
 ·simp [h,sA h]
 ·subst h;simp [iP]
 ·have hne:(x==y)=false:=by rw [beq_eq_false_iff_ne];intro e;subst e;rw [iP] at h;cases h
  simp [h,hne,sA h]
def nm (x:List ai) (k:Nat):Bool:=cW (x.getD k [])&&(((k:Nat):Int)==0 || !(Op.bytesLess (x.getD k []) (x.getD (k-1) [])))
theorem JV (x:List ai):(List.range' 0 (x.length-0)).all (nm x)=(v8 x&&x.all cW):=by
 have h1:=Di cW [] x;rw [← h1];unfold v8;rw [Bool.eq_iff_iff];simp only [KQ,K5,List.mem_range'_1,nm,Bool.or_eq_true,beq_iff_eq];constructor
 ·intro h;refine ⟨fun j hj => ?_,fun j hj=>(h j hj).1⟩;rcases (h j (by omega)).2 with h2 | h2
  ·omega
  ·exact h2
 ·rintro ⟨h2,h3⟩ j hj;refine ⟨h3 j hj,?_⟩;by_cases h0:j=0
  ·exact .inl (by omega)
  ·exact .inr (h2 j (by omega))
theorem dY (p:List aa) (hB:Bd p):fE p=some (bC p):=by
 unfold fE;unfold bC;by_cases h60:p.length≤60
 ·rw [KU (by omega),KV h60];simp only [cond_false,Bool.and_true];rw [dO (oW p) _ _ () (fun j u _ hj=>by
   have hm:=hB.2 _ (ed (p:=p) (j:=j) (by omega));have hw:∀ {j:Nat} (h:0<j),j≤1000000→aJ (((j:Nat):Int)-1)=((j-1:Nat):Int):=fun h h2=>by rw [av (by omega) (by omega)];omega
   show _=_;simp only [show p.getD j ⟨0,[]⟩=bg p j from rfl];rw [dO (nm (bg p j).Vars) _ _ () (fun k u _ hk=>by
    unfold nm;rw [nC];simp only [Option.bind_some];cases cW ((bg p j).Vars.getD k []) with
    | false=>rfl
    | true =>
     simp only [cond_true,Bool.true_and];by_cases hk0:0<k
     ·have hkz:(((k:Nat):Int)==0)=false:=by simp;omega
      rw [hw hk0 (by omega),aD (by omega),hkz,KV (show ((k:Nat):Int)>0 by omega)];simp only [Int.toNat_natCast,DN,Bool.false_or,cond_true];cases Op.bytesLess ((bg p j).Vars.getD k []) ((bg p j).Vars.getD (k-1) [])<;>rfl
     ·have:k=0:=by omega
      subst this;rfl),JV]
   unfold oW F7;by_cases hj0:0<j
   ·have hm':=hB.2 _ (ed (p:=p) (j:=j-1) (by omega));have hjz:(((j:Nat):Int)==0)=false:=by simp;omega
    obtain ⟨r,hr,hr1,hr2⟩:=w6 (bg p (j-1)).Vars (bg p j).Vars hm'.1 hm.1;rw [hw hj0 (by omega),aD (by omega),hjz,KV (show ((j:Nat):Int)>0 by omega)];simp only [Int.toNat_natCast,show p.getD (j-1) ⟨0,[]⟩=bg p (j-1) from rfl,hr,Option.bind_some,Bool.false_or,cond_true];have e4:decide (r≥0) = !(decide (cmpL (bg p (j-1)).Vars (bg p j).Vars<0)):=by rw [Bool.eq_iff_iff];simp;omega
    rw [e4];generalize cmpL (bg p (j-1)).Vars (bg p j).Vars=r;generalize bg p j=m;have e1:decide (m.Coef < -1099511627776) = !(decide (-1099511627776≤m.Coef)):=by rw [Bool.eq_iff_iff];simp
    have e2:decide (m.Coef>1099511627776) = !(decide (m.Coef≤1099511627776)):=by rw [Bool.eq_iff_iff];simp
    have e3:decide (((m.Vars.length:Nat):Int)>8) = !(decide (m.Vars.length≤8)):=by rw [Bool.eq_iff_iff];simp;omega
    rw [e1,e2,e3];cases m.Coef==0<;>cases decide (-1099511627776≤m.Coef)<;>cases decide (m.Coef≤1099511627776)<;>cases decide (m.Vars.length≤8)<;>cases v8 m.Vars<;>cases m.Vars.all cW<;>cases decide (r<0)<;>rfl
   ·have:j=0:=by omega
    subst this;generalize bg p 0=m;have e1:decide (m.Coef < -1099511627776) = !(decide (-1099511627776≤m.Coef)):=by rw [Bool.eq_iff_iff];simp
    have e2:decide (m.Coef>1099511627776) = !(decide (m.Coef≤1099511627776)):=by rw [Bool.eq_iff_iff];simp
    have e3:decide (((m.Vars.length:Nat):Int)>8) = !(decide (m.Vars.length≤8)):=by rw [Bool.eq_iff_iff];simp;omega
    rw [e1,e2,e3];cases m.Coef==0<;>cases decide (-1099511627776≤m.Coef)<;>cases decide (m.Coef≤1099511627776)<;>cases decide (m.Vars.length≤8)<;>cases v8 m.Vars<;>cases m.Vars.all cW<;>rfl),gn]
  cases (List.range' 0 (p.length-0)).all (oW p)<;>rfl
 ·rw [KV (by omega),KU h60];simp
theorem jv {σ ε ρ:Type} {body:Nat→σ→Option (gZ σ ε ρ)} {fin:Nat→σ→ε} (I:Nat→σ→Prop):∀ (k i:Nat) (s:σ),I i s→(∀ j s,i≤j→j<i+k→I j s→∃ s',body j s=some (.go s')∧I (j+1) s') →
 ∃ s',cY body fin k i s=some (.brk (fin (i+k) s'))∧I (i+k) s'
 | 0,i,s,hI,h=>⟨s,by simp [cY],hI⟩
 | k+1,i,s,hI,h=>by obtain ⟨s1,h1,h2⟩:=h i s (Nat.le_refl _) (by omega) hI;obtain ⟨s',e1,e3⟩:=jv I k (i+1) s1 h2 (fun j s h1 h2=>h j s (by omega) (by omega));refine ⟨s',?_,by rw [show i+(k+1)=i+1+k by omega];exact e3⟩;simp only [cY,h1,Option.bind_some,tw];rw [e1,show i+1+k=i+(k+1) by omega]
def db (n:Int):Bool:=decide (-4611686018427387904≤n)&&decide (n≤4611686018427387904)
theorem cE {n:Int}:db n=true ↔ -4611686018427387904≤n∧n≤4611686018427387904:=by simp [db]
theorem gF (n:Int):fR n=some (db n):=by
 unfold fR db;by_cases h : -4611686018427387904≤n
 ·rw [KV (show n ≥ -4611686018427387904 from h)];rfl
 ·rw [KU (show ¬ n ≥ -4611686018427387904 from h)];rfl
theorem nF (l:List Int):iy l=some (l.all db):=by
 unfold iy;rw [dO (fun j=>db (l.getD j 0)) _ _ () (fun j u _ _=>by
  generalize l.getD j 0=n;unfold db;have e1:decide (n < -4611686018427387904) = !(decide (-4611686018427387904≤n)):=by rw [Bool.eq_iff_iff];simp
  have e2:decide (n>4611686018427387904) = !(decide (n≤4611686018427387904)):=by rw [Bool.eq_iff_iff];simp
  rw [e1,e2];cases decide (-4611686018427387904≤n)<;>cases decide (n≤4611686018427387904)<;>rfl),gn,Di db 0 l]
 cases l.all db<;>rfl
theorem DT {a:Int} (h:db a=true):fD a=some (a.natAbs:Int)∧a.natAbs≤4611686018427387904:=by
 rw [cE] at h;unfold fD;by_cases h0:a<0
 ·rw [KV h0];simp only [cond_true,KY];rw [av (by omega) (by omega)];omega
 ·rw [KU h0];simp only [cond_false,KY];omega
theorem Bv {a:Int} (h:db a=true):lg a=some (a.natAbs:Int)∧a.natAbs≤4611686018427387904:=by
 rw [cE] at h;unfold lg;by_cases h0:a<0
 ·rw [KV h0];simp only [cond_true,KY];rw [av (by omega) (by omega)];omega
 ·rw [KU h0];simp only [cond_false,KY];omega
theorem wrap_u64 {n:Int} (h0:0≤n) (h:n<18446744073709551616):IntKind.wrap .u64 n=n:=by unfold IntKind.wrap IntKind.bits IntKind.signed;simp;omega
theorem wrap_i64 {n:Int} (h0:0≤n) (h:n≤9223372036854775807):IntKind.wrap .i64 n=n:=av (by omega) h
def mulR (a b:Int):Int×Int:=bif db a&&(db b&&db (a*b)) then (a*b,0) else (0,2)
theorem zf (a b:Int):((decide (a<0)==decide (b<0))=true→a*b=((a.natAbs*b.natAbs:Nat):Int))∧((decide (a<0)==decide (b<0))=false→a*b = -((a.natAbs*b.natAbs:Nat):Int)):=by
 rcases Int.natAbs_eq a with ha | ha<;>rcases Int.natAbs_eq b with hb | hb;all_goals
  generalize a.natAbs=x at ha ⊢;generalize b.natAbs=y at hb ⊢;subst ha;subst hb
 ·refine ⟨fun _=>by push_cast;rfl,fun h => ?_⟩;rw [KU (by omega),KU (by omega)] at h;cases h
 ·constructor
  ·intro h;by_cases hy:y=0
   ·subst hy;simp
   ·rw [KU (by omega),KV (by omega)] at h;cases h
  ·intro _;rw [Int.mul_neg];push_cast;rfl
 ·constructor
  ·intro h;by_cases hx:x=0
   ·subst hx;simp
   ·rw [KV (by omega),KU (by omega)] at h;cases h
  ·intro _;rw [Int.neg_mul];push_cast;rfl
 ·constructor
  ·intro _;rw [Int.neg_mul_neg];push_cast;rfl
  ·intro h;by_cases hx:x=0
   ·subst hx;simp
   ·by_cases hy:y=0
    ·subst hy;simp
    ·rw [KV (by omega),KV (by omega)] at h;cases h
theorem ak {α β:Type} (x:α) (f:α→Option β):(some x).bind f=f x:=Eq.trans (Option.bind_some x f) rfl
theorem Ha {x y:Int} (hx:0≤x∧x<18446744073709551616) (hy:0≤y∧y<18446744073709551616):oq x y=some (x*y / 18446744073709551616,x*y % 18446744073709551616):=if_pos ⟨hx,hy⟩
theorem zW (a b:Int):oc a b=some (mulR a b):=by
 unfold oc mulR;simp only [gF,Option.bind_some];cases ha:db a with
 | false=>simp
 | true =>
  cases hb:db b with
  | false=>simp
  | true =>
   simp only [Bool.true_and,cond_true];by_cases ha0:a=0
   ·subst ha0;simp [db]
   ·by_cases hb0:b=0
    ·subst hb0;have:(a==0)=false:=by simpa using ha0
     rw [this];simp [db]
    ·obtain ⟨a1,a2⟩:=Bv ha;obtain ⟨b1,b2⟩:=Bv hb;rw [beq_eq_false_iff_ne.2 ha0,beq_eq_false_iff_ne.2 hb0];simp only [cond_false,a1,b1,Option.bind_some];rw [aD (by omega)];obtain ⟨s1,s2⟩:=zf a b;have hbn:0<b.natAbs:=by omega
     have e1:(4611686018427387904:Int).tdiv (b.natAbs:Int)=((4611686018427387904 / b.natAbs:Nat):Int):=by rw [Int.tdiv_eq_ediv_of_nonneg (by decide)];rfl
     have hq:4611686018427387904 / b.natAbs≤4611686018427387904:=Nat.div_le_self _ _;have hd:(a.natAbs≤4611686018427387904 / b.natAbs)↔a.natAbs*b.natAbs≤4611686018427387904:=Nat.le_div_iff_mul_le hbn;rw [e1];generalize 4611686018427387904 / b.natAbs=q at hq hd ⊢;rw [av (by omega) (by omega)];by_cases hle:a.natAbs*b.natAbs≤4611686018427387904
     ·rw [KU (by have:=hd.2 hle;omega)];have:db (a*b)=true:=by
       rw [cE];cases hs:(decide (a<0)==decide (b<0)) with
       | true=>rw [s1 hs];omega
       | false=>rw [s2 hs];omega
      have h2:=cE.1 this;rw [this,av (by omega) (by omega)];rfl
     ·rw [KV (by have:¬ a.natAbs≤q:=fun h=>hle (hd.1 h);omega)];have:db (a*b)=false:=by
       have:¬ (db (a*b)=true):=by
        rw [cE];cases hs:(decide (a<0)==decide (b<0)) with
        | true=>rw [s1 hs];omega
        | false=>rw [s2 hs];omega
       simpa using this
      rw [this];rfl
def v3 (a b c:Int):Int:=a+b*18446744073709551616+c*340282366920938463463374607431768211456
def lm (x:Int):Prop:=0≤x∧x<18446744073709551616
theorem Gu {x y c:Int} (hx:lm x) (hy:lm y) (hc:0≤c∧c≤1):eL x y c=some ((x+y+c) % 18446744073709551616,(x+y+c) / 18446744073709551616):=if_pos ⟨hx,hy,hc⟩
theorem wG {x y c:Int} (hx:lm x) (hy:lm y) (hc:0≤c∧c≤1):∃ r d,eL x y c=some (r,d)∧lm r∧(0≤d∧d≤1)∧r+d*18446744073709551616=x+y+c:=by refine ⟨_,_,Gu hx hy hc,?_⟩;unfold lm at *;generalize hs:x+y+c=s;omega
theorem Hx {x y:Int} (hx:lm x) (hy:lm y):∃ hi lo,oq x y=some (hi,lo)∧lm lo∧lo+hi*18446744073709551616=x*y∧0≤hi:=by refine ⟨_,_,Ha hx hy,?_⟩;have h0:0≤x*y:=Int.mul_nonneg hx.1 hy.1;unfold lm;generalize x*y=s at h0;omega
theorem Dz {x0 x1 x2 hi lo:Int} (h0:lm x0) (h1:lm x1) (h2:lm x2) (hh:lm hi) (hl:lm lo) (hs:v3 x0 x1 x2+lo+hi*18446744073709551616<6277101735386680763835789423207666416102355444464034512896) :
 ∃ r0 r1 r2 c0 c1 c2,eL x0 lo 0=some (r0,c0)∧eL x1 hi c0=some (r1,c1)∧eL x2 0 c1=some (r2,c2)∧lm r0∧lm r1∧lm r2∧v3 r0 r1 r2=v3 x0 x1 x2+lo+hi*18446744073709551616:=by
 obtain ⟨r0,c0,e0,l0,d0,s0⟩:=wG h0 hl (c:=0) (by omega);obtain ⟨r1,c1,e1,l1,d1,s1⟩:=wG h1 hh d0;obtain ⟨r2,c2,e2,l2,d2,s2⟩:=wG h2 (y:=0) (by unfold lm;omega) d1;refine ⟨r0,r1,r2,c0,c1,c2,e0,e1,e2,l0,l1,l2,?_⟩;unfold lm v3 at *;omega
theorem Am {a b p0 p1 p2 n0 n1 n2 K:Int} (ha:db a=true) (hb:db b=true) (h0:lm p0) (h1:lm p1) (h2:lm p2) (g0:lm n0) (g1:lm n1) (g2:lm n2) (hK:v3 p0 p1 p2+v3 n0 n1 n2≤K) (hK2:K≤6277101735386680763835789423207666416102355444464034512896-21267647932558653966460912964485513216-1) :
 ∃ q0 q1 q2 m0 m1 m2,cJ a b p0 p1 p2 n0 n1 n2=some (q0,q1,q2,m0,m1,m2)∧lm q0∧lm q1∧lm q2∧lm m0∧lm m1∧lm m2∧v3 q0 q1 q2-v3 m0 m1 m2=v3 p0 p1 p2-v3 n0 n1 n2+a*b∧v3 q0 q1 q2+v3 m0 m1 m2≤K+21267647932558653966460912964485513216:=by
 obtain ⟨a1,a2⟩:=DT ha;obtain ⟨b1,b2⟩:=DT hb;obtain ⟨s1,s2⟩:=zf a b;obtain ⟨hi,lo,em,hlo,hsum,hhi⟩:=Hx (x:=(a.natAbs:Int)) (y:=(b.natAbs:Int)) (by unfold lm;omega) (by unfold lm;omega);have hP:((a.natAbs:Int)*(b.natAbs:Int))=((a.natAbs*b.natAbs:Nat):Int):=by push_cast;rfl
 have hPb:a.natAbs*b.natAbs≤21267647932558653966460912964485513216:=by have:=Nat.mul_le_mul a2 b2;exact this
 rw [hP] at hsum;have wa:=wrap_u64 (n:=(a.natAbs:Int)) (by omega) (by omega);have wb:=wrap_u64 (n:=(b.natAbs:Int)) (by omega) (by omega);have v0:0≤v3 p0 p1 p2:=by unfold lm v3 at *;omega
 have v1:0≤v3 n0 n1 n2:=by unfold lm v3 at *;omega
 generalize a.natAbs*b.natAbs=Pn at s1 s2 hsum hPb;have hhi2:lm hi:=by unfold lm at *;omega
 unfold cJ;cases hs:(decide (a<0)==decide (b<0)) with
 | true =>
  obtain ⟨r0,r1,r2,c0,c1,c2,e0,e1,e2,l0,l1,l2,hv⟩:=Dz h0 h1 h2 hhi2 hlo (by omega);refine ⟨r0,r1,r2,n0,n1,n2,?_,l0,l1,l2,g0,g1,g2,?_,?_⟩
  ·simp only [cond_true];rw [a1,b1];simp only [ak];rw [wa,wb,em];simp only [ak];rw [e0];simp only [ak];rw [e1];simp only [ak];rw [e2];simp only [ak]
  ·rw [hv,s1 hs];omega
  ·rw [hv];omega
 | false =>
  obtain ⟨r0,r1,r2,c0,c1,c2,e0,e1,e2,l0,l1,l2,hv⟩:=Dz g0 g1 g2 hhi2 hlo (by omega);refine ⟨p0,p1,p2,r0,r1,r2,?_,h0,h1,h2,l0,l1,l2,?_,?_⟩
  ·simp only [cond_false];rw [a1,b1];simp only [ak];rw [wa,wb,em];simp only [ak];rw [e0];simp only [ak];rw [e1];simp only [ak];rw [e2];simp only [ak]
  ·rw [hv,s2 hs];omega
  ·rw [hv];omega
theorem xr {x y c:Int} (hx:lm x) (hy:lm y) (hc:0≤c∧c≤1):∃ r d,lh x y c=some (r,d)∧lm r∧(0≤d∧d≤1)∧r=x-y-c+d*18446744073709551616:=by have e:lh x y c=some ((x-y-c) % 18446744073709551616,if x<y+c then 1 else 0):=if_pos ⟨hx,hy,hc⟩;refine ⟨_,_,e,?_⟩;unfold lm at *;generalize hs:x-y-c=s;split<;>omega
theorem wD {a0 a1 a2 b0 b1 b2:Int} (h0:lm a0) (h1:lm a1) (h2:lm a2) (g0:lm b0) (g1:lm b1) (g2:lm b2) :
 ∃ r0 r1 r2 k,cz (a0,a1,a2) (b0,b1,b2)=some ((r0,r1,r2),k)∧(v3 b0 b1 b2≤v3 a0 a1 a2→k=true∧lm r0∧lm r1∧lm r2∧v3 r0 r1 r2=v3 a0 a1 a2-v3 b0 b1 b2)∧(v3 a0 a1 a2<v3 b0 b1 b2→k=false):=by
 obtain ⟨r0,c0,e0,l0,d0,s0⟩:=xr h0 g0 (c:=0) (by omega);obtain ⟨r1,c1,e1,l1,d1,s1⟩:=xr h1 g1 d0;obtain ⟨r2,c2,e2,l2,d2,s2⟩:=xr h2 g2 d1;refine ⟨r0,r1,r2,c2==0,?_,fun h => ?_,fun h => ?_⟩
 ·unfold cz;rw [e0];simp only [ak];rw [e1];simp only [ak];rw [e2];simp only [ak]
 ·unfold lm v3 at *;refine ⟨?_,l0,l1,l2,by omega⟩;have:c2=0:=by omega
  rw [this];rfl
 ·unfold lm v3 at *;have:c2=1:=by omega
  rw [this];rfl
theorem wT (n:Int) (h:db n=true):eH n=some (n,0):=by unfold eH;rw [nF];simp only [List.all_cons,List.all_nil,h,Bool.and_true,ak,cond_true]
def qY (S:Int):Int×Int:=bif db S then (S,0) else (0,2)
theorem eS {S:Int} (h:S < -4611686018427387904∨4611686018427387904<S):qY S=(0,2):=by
 have:db S=false:=by
  have:¬ db S=true:=by rw [cE];omega
  simpa using this
 unfold qY;rw [this];rfl
theorem td {S:Int} (h:db S=true):qY S=(S,0):=by unfold qY;rw [h];rfl
theorem vT {a0 a1 a2 b0 b1 b2:Int} (h0:lm a0) (h1:lm a1) (h2:lm a2) (g0:lm b0) (g1:lm b1) (g2:lm b2):cq a0 a1 a2 b0 b1 b2=some (qY (v3 a0 a1 a2-v3 b0 b1 b2)):=by
 obtain ⟨r0,r1,r2,k,e1,k1,k2⟩:=wD h0 h1 h2 g0 g1 g2;obtain ⟨t0,t1,t2,j,e2,j1,j2⟩:=wD g0 g1 g2 h0 h1 h2;unfold cq;rw [e1];simp only [ak];by_cases hge:v3 b0 b1 b2≤v3 a0 a1 a2
 ·obtain ⟨hk,l0,l1,l2,hv⟩:=k1 hge;rw [hk];simp only [cond_true];by_cases q1:r1>0
  ·rw [KV q1,eS (by unfold lm v3 at *;omega)];rfl
  ·rw [KU q1];simp only [cond_false];by_cases q2:r2>0
   ·rw [KV q2,eS (by unfold lm v3 at *;omega)];rfl
   ·rw [KU q2];simp only [cond_false];by_cases q0:r0>4611686018427387904
    ·rw [KV q0,eS (by unfold lm v3 at *;omega)];rfl
    ·rw [KU q0];simp only [cond_false];have e:r0=v3 a0 a1 a2-v3 b0 b1 b2:=by unfold lm v3 at *;omega
     have hin:db r0=true:=cE.2 (by unfold lm at *;omega);rw [wrap_i64 l0.1 (by omega),Int.one_mul,av (by unfold lm at *;omega) (by omega),wT r0 hin,← e,td hin];simp only [ak]
 ·rw [k2 (by omega)];simp only [cond_false];rw [e2];simp only [ak];obtain ⟨hj,l0,l1,l2,hv⟩:=j1 (by omega);rw [hj];simp only [cond_true];by_cases q1:t1>0
  ·rw [KV q1,eS (by unfold lm v3 at *;omega)];rfl
  ·rw [KU q1];simp only [cond_false];by_cases q2:t2>0
   ·rw [KV q2,eS (by unfold lm v3 at *;omega)];rfl
   ·rw [KU q2];simp only [cond_false];by_cases q0:t0>4611686018427387904
    ·rw [KV q0,eS (by unfold lm v3 at *;omega)];rfl
    ·rw [KU q0];simp only [cond_false];have e : -t0=v3 a0 a1 a2-v3 b0 b1 b2:=by unfold lm v3 at *;omega
     have hin:db (-t0)=true:=cE.2 (by unfold lm at *;omega);rw [wrap_i64 l0.1 (by omega),show (-1)*t0 = -t0 by omega,av (by omega) (by unfold lm at *;omega),wT (-t0) hin,← e,td hin];simp only [ak]
def sl (f:Nat→Int):Nat→Int
 | 0=>0
 | j+1=>sl f j+f j
def r9 (a b:List Int) (i:Nat):Int:=a.getD i 0*b.getD i 0
def sZ (a b:List Int):Int×Int:=bif decide (a.length=b.length) then (bif decide (a.length≤10000) then (bif a.all db&&b.all db then qY (sl (r9 a b) a.length) else (0,2)) else (0,3)) else (0,1)
def zn (s:Int×Int×Int×Int×Int×Int):Prop:=lm s.1∧lm s.2.1∧lm s.2.2.1∧lm s.2.2.2.1∧lm s.2.2.2.2.1∧lm s.2.2.2.2.2
def KC (s:Int×Int×Int×Int×Int×Int):Int:=v3 s.1 s.2.1 s.2.2.1-v3 s.2.2.2.1 s.2.2.2.2.1 s.2.2.2.2.2
def KG (s:Int×Int×Int×Int×Int×Int):Int:=v3 s.1 s.2.1 s.2.2.1+v3 s.2.2.2.1 s.2.2.2.2.1 s.2.2.2.2.2
theorem EU {a b:Int} (ha:db a=true) (hb:db b=true) (s:Int×Int×Int×Int×Int×Int) (hl:zn s) (j:Nat) (hj:j<10000) (ht:KG s≤(j:Int)*21267647932558653966460912964485513216) :
 ∃ s',cJ a b s.1 s.2.1 s.2.2.1 s.2.2.2.1 s.2.2.2.2.1 s.2.2.2.2.2=some s'∧zn s'∧KC s'=KC s+a*b∧KG s'≤((j+1:Nat):Int)*21267647932558653966460912964485513216:=by
 obtain ⟨q0,q1,q2,m0,m1,m2,e,l0,l1,l2,l3,l4,l5,hd,hs⟩:=Am (K:=(j:Int)*21267647932558653966460912964485513216) ha hb hl.1 hl.2.1 hl.2.2.1 hl.2.2.2.1 hl.2.2.2.2.1 hl.2.2.2.2.2 ht (by omega);refine ⟨(q0,q1,q2,m0,m1,m2),e,⟨l0,l1,l2,l3,l4,l5⟩,hd,?_⟩;show v3 q0 q1 q2+v3 m0 m1 m2≤_;omega
theorem BM (s:Int×Int×Int×Int×Int×Int) (hl:zn s):cq s.1 s.2.1 s.2.2.1 s.2.2.2.1 s.2.2.2.2.1 s.2.2.2.2.2=some (qY (KC s)) :=
 vT hl.1 hl.2.1 hl.2.2.1 hl.2.2.2.1 hl.2.2.2.2.1 hl.2.2.2.2.2
theorem Ag {l:List Int} (h:l.all db=true) {j:Nat} (hj:j<l.length):db (l.getD j 0)=true:=by rw [KO,KP hj];exact K5.1 h _ (List.getElem_mem hj)
theorem Jc:zn (0,0,0,0,0,0):=by unfold zn lm;simp
def sH (n:Nat):List Int:=List.replicate n 1
theorem Il {n j:Nat} (h:j<n):(sH n).getD j 0=1:=by simp [sH,KO,h]
theorem xK (a b:List Int):iT a b=some (sZ a b):=by
 unfold iT sZ;by_cases hlen:a.length=b.length
 ·rw [KV hlen,show ((((a.length:Nat):Int)==((b.length:Nat):Int)))=true by simp [hlen]];simp only [cond_true];by_cases h1:a.length≤10000
  ·rw [KV h1,KU (by omega)];simp only [cond_true,cond_false];rw [nF,nF];simp only [ak];cases ha:a.all db with
   | false=>rfl
   | true =>
    cases hb:b.all db with
    | false=>rfl
    | true =>
     simp only [cond_true,Bool.and_true];obtain ⟨s',e1,hI⟩:=jv (ρ:=Empty) (body:=fun i93 (s92:Int×Int×Int×Int×Int×Int)=>cy (i93<b.length) <| (cJ (a.getD i93 0) (b.getD i93 0) s92.1 s92.2.1 s92.2.2.1 s92.2.2.2.1 s92.2.2.2.2.1 s92.2.2.2.2.2).bind fun y122=>some (.go (y122.1,y122.2.1,y122.2.2.1,y122.2.2.2.1,y122.2.2.2.2.1,y122.2.2.2.2.2)))
      (fin:=fun i93 s92=>(s92.1,s92.2.1,s92.2.2.1,s92.2.2.2.1,s92.2.2.2.2.1,s92.2.2.2.2.2))
      (fun j s=>zn s∧KC s=sl (r9 a b) j∧KG s≤(j:Int)*21267647932558653966460912964485513216) (a.length-0) 0 (0,0,0,0,0,0) ⟨Jc,rfl,by decide⟩ (fun j s _ hj ⟨i1,i2,i3⟩=>by obtain ⟨s',e,l,d,t⟩:=EU (Ag ha (j:=j) (by omega)) (Ag hb (j:=j) (by omega)) s i1 j (by omega) i3;refine ⟨s',?_,l,by rw [d,i2];rfl,t⟩;rw [aD (by omega),e];rfl)
     rw [e1];show (cq s'.1 s'.2.1 s'.2.2.1 s'.2.2.2.1 s'.2.2.2.2.1 s'.2.2.2.2.2).bind _=_;rw [BM s' hI.1,hI.2.1,Nat.zero_add,Nat.sub_zero];rfl
  ·rw [KU h1,KV (by omega)];rfl
 ·rw [KU hlen,show ((((a.length:Nat):Int)==((b.length:Nat):Int)))=false by rw [beq_eq_false_iff_ne];omega];rfl
theorem oz {n:Int} (h:0≤n):n.tdiv 2097152=n / 2097152:=Int.tdiv_eq_ediv_of_nonneg h
theorem tdiv_neg {n:Int} (h:n≤0):n.tdiv 2097152 = -((-n) / 2097152):=by have h1:(-(-n)).tdiv 2097152 = -((-n).tdiv 2097152):=Int.neg_tdiv ..;rw [Int.neg_neg] at h1;rw [h1,oz (by omega)]
theorem vD (n:Int):n.tmod 2097152=n-2097152*n.tdiv 2097152:=Int.tmod_def ..
theorem yJ {n:Int} (h:db n=true):∃ x0 x1 x2,cO n=some (x0,x1,x2)∧n=x0+x1*2097152+x2*4398046511104∧(-2097152≤x0∧x0≤2097152)∧(-2097152≤x1∧x1≤2097152)∧(-2097152≤x2∧x2≤2097152):=by
 have hb:=cE.1 h;have e:cO n=some (n.tmod 2097152,(n.tdiv 2097152).tmod 2097152,(n.tdiv 2097152).tdiv 2097152):=by
  have h1 : -2199023255552≤n.tdiv 2097152∧n.tdiv 2097152≤2199023255552:=by
   by_cases h0:0≤n
   ·rw [oz h0];omega
   ·rw [tdiv_neg (by omega)];omega
  have h2 : -1048576≤(n.tdiv 2097152).tdiv 2097152∧(n.tdiv 2097152).tdiv 2097152≤1048576:=by
   generalize n.tdiv 2097152=m at h1;by_cases h0:0≤m
   ·rw [oz h0];omega
   ·rw [tdiv_neg (by omega)];omega
  unfold cO;rw [av (by omega) (by omega),av (by omega) (by omega)]
 refine ⟨_,_,_,e,?_⟩;rw [vD n,vD (n.tdiv 2097152)];by_cases h0:0≤n
 ·rw [oz h0,oz (n:=n / 2097152) (by omega)];omega
 ·rw [tdiv_neg (n:=n) (by omega),tdiv_neg (n := -((-n) / 2097152)) (by omega)];omega
theorem rO {c:Int} (h:db c=true):∃ q,eI c 2097152=some (q,0)∧q*2097152≤c∧c<q*2097152+2097152:=by
 have hb:=cE.1 h;refine ⟨c / 2097152,?_,by omega,by omega⟩;unfold eI;rw [gF,gF,h];simp only [ak,cond_true];rw [show db 2097152=true from rfl];simp only [cond_true];rw [show ((2097152:Int)==0)=false from rfl];simp only [cond_false];rw [aD (by decide),show decide ((2097152:Int)<0)=false from rfl];by_cases h0:0≤c
 ·rw [vD,oz h0,KU (show ¬ c<0 by omega)];by_cases hz:c-2097152*(c / 2097152)=0
  ·rw [hz];simp only [beq_self_eq_true,cond_true,ak,cond_false];rw [av (by omega) (by omega)]
  ·rw [beq_eq_false_iff_ne.2 hz];simp only [cond_false,beq_self_eq_true,Bool.not_true,ak];rw [av (by omega) (by omega)]
 ·rw [vD,tdiv_neg (by omega),KV (show c<0 by omega)];by_cases hz:c-2097152 * -((-c) / 2097152)=0
  ·rw [hz];simp only [beq_self_eq_true,cond_true,ak,cond_false];rw [av (by omega) (by omega)];have : -((-c) / 2097152)=c / 2097152:=by omega
   rw [this]
  ·rw [beq_eq_false_iff_ne.2 hz];have e1:(!(true==false))=true:=rfl;simp only [cond_false,e1,ak,cond_true];rw [av (n := -((-c) / 2097152)) (by omega) (by omega),av (by omega) (by omega)];have : -((-c) / 2097152)-1=c / 2097152:=by omega
   rw [this]
theorem pb {x y:Int} (hx : -2097152≤x∧x≤2097152) (hy : -2097152≤y∧y≤2097152) : -4398046511104≤x*y∧x*y≤4398046511104:=by
 have h1:x.natAbs≤2097152:=by omega
 have h2:y.natAbs≤2097152:=by omega
 have h3:=Nat.mul_le_mul h1 h2;rw [← Int.natAbs_mul] at h3;omega
theorem Ku (x0 x1 x2 y0 y1 y2:Int):(x0+x1*2097152+x2*4398046511104)*(y0+y1*2097152+y2*4398046511104) =
 x0*y0+(x0*y1+x1*y0)*2097152+(x0*y2+x1*y1+x2*y0)*4398046511104+(x1*y2+x2*y1)*9223372036854775808+x2*y2*19342813113834066795298816:=by
 simp only [Int.add_mul,Int.mul_add,Int.mul_assoc,Int.mul_comm,Int.mul_left_comm,Int.reduceMul];omega
abbrev C5:=Int×Int×Int×Int×Int
def sm (c:Int) (j:Nat):Prop := -((j:Int)*13194139533312)≤c∧c≤(j:Int)*13194139533312
def v5 (s:C5):Int:=s.1+s.2.1*2097152+s.2.2.1*4398046511104+s.2.2.2.1*9223372036854775808+s.2.2.2.2*19342813113834066795298816
def JY (j:Nat) (s:C5):Prop:=sm s.1 j∧sm s.2.1 j∧sm s.2.2.1 j∧sm s.2.2.2.1 j∧sm s.2.2.2.2 j
theorem Gr {a b:Int} (ha:db a=true) (hb:db b=true) (s:C5) (j:Nat) (hj:j<10000) (hs:JY j s) :
 ∃ x y:Int×Int×Int,cO a=some x∧cO b=some y∧∃ s':C5,((aJ (s.1+(aJ (x.1*y.1)))),(aJ ((aJ (s.2.1+(aJ (x.1*y.2.1))))+(aJ (x.2.1*y.1)))),(aJ ((aJ ((aJ (s.2.2.1+(aJ (x.1*y.2.2))))+(aJ (x.2.1*y.2.1))))+(aJ (x.2.2*y.1)))),(aJ ((aJ (s.2.2.2.1+(aJ (x.2.1*y.2.2))))+(aJ (x.2.2*y.2.1)))),(aJ (s.2.2.2.2+(aJ (x.2.2*y.2.2)))))=s'∧JY (j+1) s'∧v5 s'=v5 s+a*b:=by
 obtain ⟨x0,x1,x2,ex,hx,bx0,bx1,bx2⟩:=yJ ha;obtain ⟨y0,y1,y2,ey,hy,by0,by1,by2⟩:=yJ hb;refine ⟨(x0,x1,x2),(y0,y1,y2),ex,ey,(s.1+x0*y0,s.2.1+x0*y1+x1*y0,s.2.2.1+x0*y2+x1*y1+x2*y0,s.2.2.2.1+x1*y2+x2*y1,s.2.2.2.2+x2*y2),?_⟩;have hm:=Ku x0 x1 x2 y0 y1 y2;rw [← hx,← hy] at hm;have p00:=pb bx0 by0;have p01:=pb bx0 by1;have p02:=pb bx0 by2;have p10:=pb bx1 by0;have p11:=pb bx1 by1;have p12:=pb bx1 by2;have p20:=pb bx2 by0;have p21:=pb bx2 by1;have p22:=pb bx2 by2;rw [hm];show (aJ (s.1+aJ (x0*y0)),aJ (aJ (s.2.1+aJ (x0*y1))+aJ (x1*y0)),aJ (aJ (aJ (s.2.2.1+aJ (x0*y2))+aJ (x1*y1))+aJ (x2*y0)),aJ (aJ (s.2.2.2.1+aJ (x1*y2))+aJ (x2*y1)),aJ (s.2.2.2.2+aJ (x2*y2)))=_∧_;obtain ⟨s0,s1,s2,s3,s4⟩:=s;generalize x0*y0=m00 at *;generalize x0*y1=m01 at *;generalize x0*y2=m02 at *;generalize x1*y0=m10 at *;generalize x1*y1=m11 at *;generalize x1*y2=m12 at *;generalize x2*y0=m20 at *;generalize x2*y1=m21 at *;generalize x2*y2=m22 at *;unfold JY sm at *;simp only at hs ⊢;refine ⟨?_,by omega,by unfold v5;simp only;omega⟩;rw [av (n:=m00) (by omega) (by omega),av (n:=m01) (by omega) (by omega),av (n:=m02) (by omega) (by omega),av (n:=m10) (by omega) (by omega),av (n:=m11) (by omega) (by omega),av (n:=m12) (by omega) (by omega),av (n:=m20) (by omega) (by omega),av (n:=m21) (by omega) (by omega),av (n:=m22) (by omega) (by omega)];rw [av (n:=s0+m00) (by omega) (by omega),av (n:=s1+m01) (by omega) (by omega),av (n:=s1+m01+m10) (by omega) (by omega),av (n:=s2+m02) (by omega) (by omega),av (n:=s2+m02+m11) (by omega) (by omega),av (n:=s2+m02+m11+m20) (by omega) (by omega),av (n:=s3+m12) (by omega) (by omega),av (n:=s3+m12+m21) (by omega) (by omega),av (n:=s4+m22) (by omega) (by omega)]
theorem HZ (a b:List Int) (h:a.length=b.length):(List.range' 0 (a.length-0)).all (fun j=>db (a.getD j 0)&&db (b.getD j 0))=(a.all db&&b.all db):=by have h1:=Di db 0 a;have h2:=Di db 0 b;rw [← h1,← h2,← h,Bool.eq_iff_iff];simp only [KQ,K5];exact ⟨fun k=>⟨fun j hj=>(k j hj).1,fun j hj=>(k j hj).2⟩,fun k j hj=>⟨k.1 j hj,k.2 j hj⟩⟩
theorem wz {q:Int} (h : -9223372036854775808≤q) (h2:q≤9223372036854775807):aJ (0+q)=q:=by rw [Int.zero_add];exact av h h2
set_option maxHeartbeats 1000000 in
theorem ti (a b:List Int):fX a b=some (sZ a b):=by
 unfold sZ;by_cases hlen:a.length=b.length
 ·by_cases h1:a.length≤10000
  ·rw [KV hlen,KV h1];simp only [cond_true];unfold fX;rw [show ((((a.length:Nat):Int)==((b.length:Nat):Int)))=true by simp [hlen]];simp only [cond_true];rw [KU (show ¬ ((a.length:Nat):Int)>10000 by omega)];simp only [cond_false];rw [dO (fun j=>db (a.getD j 0)&&db (b.getD j 0)) _ _ () (fun j u _ hj=>by rw [gF,gF,aD (by omega)];simp only [ak];cases db (a.getD j 0)<;>cases db (b.getD j 0)<;>rfl),gn,HZ a b hlen]
   cases hin:a.all db&&b.all db with
   | false=>rfl
   | true =>
    rw [KQ] at hin;obtain ⟨ha,hb⟩:=hin;simp only [cond_true];obtain ⟨s,e1,hI⟩:=jv (ρ:=Empty) (body:=fun i197 (s196:C5)=>(cO (a.getD i197 0)).bind fun y227=>cy (i197<b.length) <| (cO (b.getD i197 0)).bind fun y232 =>
     some (.go ((aJ (s196.1+(aJ (y227.1*y232.1)))),(aJ ((aJ (s196.2.1+(aJ (y227.1*y232.2.1))))+(aJ (y227.2.1*y232.1)))),(aJ ((aJ ((aJ (s196.2.2.1+(aJ (y227.1*y232.2.2))))+(aJ (y227.2.1*y232.2.1))))+(aJ (y227.2.2*y232.1)))),(aJ ((aJ (s196.2.2.2.1+(aJ (y227.2.1*y232.2.2))))+(aJ (y227.2.2*y232.2.1)))),(aJ (s196.2.2.2.2+(aJ (y227.2.2*y232.2.2)))))))
     (fin:=fun i197 s196=>(s196.1,s196.2.1,s196.2.2.1,s196.2.2.2.1,s196.2.2.2.2))
     (fun j s=>JY j s∧v5 s=sl (r9 a b) j) (a.length-0) 0 (0,0,0,0,0) ⟨by unfold JY sm;simp,by unfold v5 sl;simp⟩ (fun j s _ hj ⟨i1,i2⟩=>by
      obtain ⟨x,y,ex,ey,s',es,k1,k2⟩:=Gr (Ag ha (j:=j) (by omega)) (Ag hb (j:=j) (by omega)) s j (by omega) i1;refine ⟨s',?_,k1,?_⟩
      ·rw [ex];simp only [ak];rw [aD (by omega),ey];simp only [ak];rw [es]
      ·rw [k2,i2];rfl)
    rw [e1];rw [Nat.zero_add,Nat.sub_zero] at hI;obtain ⟨hC,hv⟩:=hI;have hlen2:(a.length:Int)≤10000:=by omega
    rw [← hv];clear hv e1;obtain ⟨s0,s1,s2,s3,s4⟩:=s;unfold JY sm at hC;simp only at hC;obtain ⟨⟨z0,z0'⟩,⟨z1,z1'⟩,⟨z2,z2'⟩,⟨z3,z3'⟩,⟨z4,z4'⟩⟩:=hC;obtain ⟨S,hS⟩:∃ S,S=v5 (s0,s1,s2,s3,s4):=⟨_,rfl⟩;rw [← hS];have hS2:S=s0+s1*2097152+s2*4398046511104+s3*9223372036854775808+s4*19342813113834066795298816:=hS;clear hS;have b0 : -131941395333120000≤s0∧s0≤131941395333120000:=by omega
    have b1 : -131941395333120000≤s1∧s1≤131941395333120000:=by omega
    have b2 : -131941395333120000≤s2∧s2≤131941395333120000:=by omega
    have b3 : -131941395333120000≤s3∧s3≤131941395333120000:=by omega
    have b4 : -131941395333120000≤s4∧s4≤131941395333120000:=by omega
    clear z0 z0' z1 z1' z2 z2' z3 z3' z4 z4';show ((eI s0 2097152).bind fun y243=>_)=_;obtain ⟨q0,e0,f0,g0⟩:=rO (c:=s0) (cE.2 (by omega));rw [e0];simp only [ak];rw [av (n:=s1+q0) (by omega) (by omega)];obtain ⟨c1,hc1⟩:∃ c,c=s1+q0:=⟨_,rfl⟩;rw [← hc1];obtain ⟨q1,e1,f1,g1⟩:=rO (c:=c1) (cE.2 (by omega));rw [e1];simp only [ak];rw [av (n:=s2+q1) (by omega) (by omega)];obtain ⟨c2,hc2⟩:∃ c,c=s2+q1:=⟨_,rfl⟩;rw [← hc2];obtain ⟨q2,e2,f2,g2⟩:=rO (c:=c2) (cE.2 (by omega));rw [e2];simp only [ak];rw [av (n:=s3+q2) (by omega) (by omega)];obtain ⟨c3,hc3⟩:∃ c,c=s3+q2:=⟨_,rfl⟩;rw [← hc3];obtain ⟨q3,e3,f3,g3⟩:=rO (c:=c3) (cE.2 (by omega));rw [e3];simp only [ak];rw [av (n:=s4+q3) (by omega) (by omega)];obtain ⟨c4,hc4⟩:∃ c,c=s4+q3:=⟨_,rfl⟩;rw [← hc4];obtain ⟨q4,e4,f4,g4⟩:=rO (c:=c4) (cE.2 (by omega));rw [e4];simp only [ak];rw [wz (q:=q4) (by omega) (by omega)];obtain ⟨q5,e5,f5,g5⟩:=rO (c:=q4) (cE.2 (by omega));rw [e5];simp only [ak];rw [wz (q:=q5) (by omega) (by omega)];obtain ⟨q6,e6,f6,g6⟩:=rO (c:=q5) (cE.2 (by omega));rw [e6];simp only [ak];rw [wz (q:=q6) (by omega) (by omega),wz (q:=q6) (by omega) (by omega)];clear e0 e1 e2 e3 e4 e5 e6;rw [av (n:=q6*2097152) (by omega) (by omega),av (n:=q5-q6*2097152) (by omega) (by omega),show q6*2097152+(q5-q6*2097152)=q5 by omega,av (n:=q5) (by omega) (by omega)];rw [av (n:=q5*2097152) (by omega) (by omega),av (n:=q4-q5*2097152) (by omega) (by omega),show q5*2097152+(q4-q5*2097152)=q4 by omega,av (n:=q4) (by omega) (by omega)];rw [av (n:=q4*2097152) (by omega) (by omega),av (n:=c4-q4*2097152) (by omega) (by omega),show q4*2097152+(c4-q4*2097152)=c4 by omega,av (n:=c4) (by omega) (by omega)];rw [av (n:=q3*2097152) (by omega) (by omega),av (n:=c3-q3*2097152) (by omega) (by omega),av (n:=q2*2097152) (by omega) (by omega),av (n:=c2-q2*2097152) (by omega) (by omega),av (n:=q1*2097152) (by omega) (by omega),av (n:=c1-q1*2097152) (by omega) (by omega),av (n:=q0*2097152) (by omega) (by omega),av (n:=s0-q0*2097152) (by omega) (by omega)];obtain ⟨d3,hd3⟩:∃ d,d=c3-q3*2097152:=⟨_,rfl⟩;obtain ⟨d2,hd2⟩:∃ d,d=c2-q2*2097152:=⟨_,rfl⟩;obtain ⟨d1,HS⟩:∃ d,d=c1-q1*2097152:=⟨_,rfl⟩;obtain ⟨d0,hd0⟩:∃ d,d=s0-q0*2097152:=⟨_,rfl⟩;rw [← hd3,← hd2,← HS,← hd0];have k3:0≤d3∧d3<2097152:=by omega
    have k2:0≤d2∧d2<2097152:=by omega
    have k1:0≤d1∧d1<2097152:=by omega
    have k0:0≤d0∧d0<2097152:=by omega
    have hSv:S=c4*19342813113834066795298816+d3*9223372036854775808+d2*4398046511104+d1*2097152+d0:=by omega
    rw [KU (show ¬ q6>2199023255552 by omega),KU (show ¬ q6 < -2199023255552 by omega),KU (show ¬ q5>2199023255552 by omega),KU (show ¬ q5 < -2199023255552 by omega),KU (show ¬ q4>2199023255552 by omega),KU (show ¬ q4 < -2199023255552 by omega)];simp only [cond_false];clear hc1 hc2 hc3 hc4 f0 f1 f2 f3 f4 f5 f6 g0 g1 g2 g3 g4 g5 g6 hd3 hd2 HS hd0 hS2 b0 b1 b2 b3;by_cases t4:c4>2199023255552
    ·rw [KV t4,eS (by omega)];rfl
    rw [KU t4];by_cases u4:c4 < -2199023255552
    ·rw [KV u4,eS (by omega)];rfl
    rw [KU u4];simp only [cond_false];rw [av (n:=c4*2097152) (by omega) (by omega),av (n:=c4*2097152+d3) (by omega) (by omega)];obtain ⟨n3,hn3⟩:∃ d,d=c4*2097152+d3:=⟨_,rfl⟩;rw [← hn3];by_cases t3:n3>2199023255552
    ·rw [KV t3,eS (by omega)];rfl
    rw [KU t3];by_cases u3:n3 < -2199023255552
    ·rw [KV u3,eS (by omega)];rfl
    rw [KU u3];simp only [cond_false];rw [av (n:=n3*2097152) (by omega) (by omega),av (n:=n3*2097152+d2) (by omega) (by omega)];obtain ⟨n2,hn2⟩:∃ d,d=n3*2097152+d2:=⟨_,rfl⟩;rw [← hn2];by_cases t2:n2>2199023255552
    ·rw [KV t2,eS (by omega)];rfl
    rw [KU t2];by_cases u2:n2 < -2199023255552
    ·rw [KV u2,eS (by omega)];rfl
    rw [KU u2];simp only [cond_false];rw [av (n:=n2*2097152) (by omega) (by omega),av (n:=n2*2097152+d1) (by omega) (by omega)];obtain ⟨n1,hn1⟩:∃ d,d=n2*2097152+d1:=⟨_,rfl⟩;rw [← hn1];by_cases t1:n1>2199023255552
    ·rw [KV t1,eS (by omega)];rfl
    rw [KU t1];by_cases u1:n1 < -2199023255552
    ·rw [KV u1,eS (by omega)];rfl
    rw [KU u1];simp only [cond_false];rw [av (n:=n1*2097152) (by omega) (by omega),av (n:=n1*2097152+d0) (by omega) (by omega),show n1*2097152+d0=S by omega,gF];simp only [ak];unfold qY;cases db S<;>rfl
  ·rw [KV hlen,KU h1];unfold fX;rw [show ((((a.length:Nat):Int)==((b.length:Nat):Int)))=true by simp [hlen]];simp only [cond_true,cond_false];rw [KV (show ((a.length:Nat):Int)>10000 by omega)];simp only [cond_true]
 ·rw [KU hlen];unfold fX;rw [show ((((a.length:Nat):Int)==((b.length:Nat):Int)))=false by rw [beq_eq_false_iff_ne];omega];simp only [cond_false]
theorem An (l:List Int) (hl:l.length≤1000000):ox l=some (sZ l (sH l.length)):=by
 unfold ox;obtain ⟨s,e1,hI⟩:=jv (ρ:=Empty) (body:=fun (i18:Nat) (s17:List Int)=>cy ((s17.length+1)*8≤140737488355328) <| some (.go (s17++[1]))) (fin:=fun i18 s17=>s17)
  (fun j s=>s=sH j) (l.length-0) 0 [] rfl (fun j s _ hj i1=>by
   refine ⟨sH (j+1),?_,rfl⟩;subst i1;have:(sH j).length=j:=by simp [sH]
   rw [aD (by rw [this];omega)];unfold sH;rw [List.replicate_succ'])
 rw [e1];rw [Nat.zero_add,Nat.sub_zero] at hI;show ((fX l s).bind fun y=>some (y.1,y.2))=_;rw [hI,ti];rfl
def uV (v:ai) (x:Value):Bool:=x.Var==v
def look (vs:List Value) (v:ai):Int:=idxOf (uV v) vs
def num (vs:List Value) (v:ai):Int:=(vs.getD (look vs v).toNat ⟨[],0⟩).N
def rF (vs:List Value) (v:ai):Bool:=decide (look vs v<0)
def wM (vs:List Value) (m:aa):Bool:=m.Vars.any (rF vs)
def fA (vs:List Value) (m:aa):List Int:=m.Vars.map (num vs)
def tC (vs:List Value) (m:aa):Bool:=(fA vs m).any (fun n => !(db n))
theorem IK (vs:List Value) (v:ai) (h:rF vs v=false):0≤look vs v∧look vs v<(vs.length:Int):=by
 have h1:¬ look vs v<0:=by simpa [rF] using h
 have h2:=vR (uV v) ⟨[],0⟩ vs;unfold look at *;omega
abbrev E2:=Int×Int
abbrev S1:=List (List Int)×Bool
def pm:Int→List Int→Option Int
 | n,[]=>some n
 | n,x::l=>bif db n&&(db x&&db (n*x)) then pm (n*x) l else none
def gB (l:List Int):E2:=bif l.any (fun n=>n==0) then (0,0) else (match pm 1 l with | some r=>(r,0) | none=>(0,2))
def yF (p:List aa) (vs:List Value):E2 :=
 bif bC p then (bif p.any (wM vs) then (0,7) else bif p.any (tC vs) then (0,2) else
  bif (p.map (fun m=>m.Coef::fA vs m)).any (fun l => !((gB l).2==0)) then (0,2) else sZ ((p.map (fun m=>m.Coef::fA vs m)).map (fun l=>(gB l).1)) (sH p.length)) else (0,1)
theorem lI {p:List aa} (h:bC p=true) {m:aa} (hm:m∈p):F7 m=true:=by
 unfold bC at h;rw [KQ,K5] at h;obtain ⟨j,hj,rfl⟩:=List.getElem_of_mem hm;have:=h.1 j (by rw [List.mem_range'_1];omega);unfold oW at this;rw [KQ] at this;have e:bg p j=p[j]:=by unfold bg;rw [KO,KP hj];rfl
 rw [e] at this;exact this.1
abbrev R4:=Bool×Int×Bool×Bool
def vi (s:R4) (x:Int):R4:=bif db x then (bif x==0 then (s.1,s.2.1,true,s.2.2.2) else (bif db s.2.1&&(db x&&db (s.2.1*x)) then (s.1,s.2.1*x,s.2.2.1,s.2.2.2) else (s.1,s.2.1,s.2.2.1,true))) else (true,s.2.1,s.2.2.1,s.2.2.2)
theorem A4:∀ (l:List Int) (s:R4),(l.foldl vi s).1=(s.1||l.any (fun n => !(db n)))
 | [],s=>by simp
 | x::l,s=>by
  simp only [List.foldl_cons,List.any_cons];rw [A4 l];unfold vi;cases db x with
  | false=>simp
  | true =>
   simp only [cond_true,Bool.not_true,Bool.false_or];cases x==0 with
   | true=>rfl
   | false =>
    simp only [cond_false];cases db s.2.1&&(true&&db (s.2.1*x))<;>rfl
theorem GW:∀ (l:List Int) (s:R4),l.any (fun n => !(db n))=false→(l.foldl vi s).2.2.1=(s.2.2.1||l.any (fun n=>n==0))
 | [],s,_=>by simp
 | x::l,s,h=>by
  simp only [List.any_cons,Bool.or_eq_false_iff] at h;simp only [List.foldl_cons,List.any_cons];rw [GW l _ h.2];have hx:db x=true:=by simpa using h.1
  unfold vi;rw [hx];simp only [cond_true];cases x==0 with
  | true=>simp
  | false =>
   simp only [cond_false,Bool.false_or];cases db s.2.1&&(true&&db (s.2.1*x))<;>rfl
theorem sD:∀ (l:List Int) (b z:Bool) (n:Int) , (l.foldl vi (b,n,z,true)).2.2.2=true
 | [],b,z,n=>rfl
 | x::l,b,z,n=>by
  simp only [List.foldl_cons];unfold vi;simp only;cases db x with
  | false=>exact sD l _ _ _
  | true =>
   simp only [cond_true];cases x==0 with
   | true=>exact sD l _ _ _
   | false =>
    simp only [cond_false];cases db n&&(true&&db (n*x)) with
    | true=>exact sD l _ _ _
    | false=>exact sD l _ _ _
theorem CD:∀ (l:List Int) (b z:Bool) (n:Int),l.any (fun n => !(db n))=false→l.any (fun n=>n==0)=false→match pm n l with | some r=>(l.foldl vi (b,n,z,false)).2.1=r∧(l.foldl vi (b,n,z,false)).2.2.2=false | none=>(l.foldl vi (b,n,z,false)).2.2.2=true
 | [],b,z,n,_,_=>⟨rfl,rfl⟩
 | x::l,b,z,n,h,h2=>by
  simp only [List.any_cons,Bool.or_eq_false_iff] at h h2;have hx:db x=true:=by simpa using h.1
  simp only [List.foldl_cons,pm];have e:vi (b,n,z,false) x=bif db n&&(db x&&db (n*x)) then (b,n*x,z,false) else (b,n,z,true):=by unfold vi;rw [hx,h2.1];rfl
  rw [e];cases db n&&(db x&&db (n*x)) with
  | true=>exact CD l b z (n*x) h.2 h2.2
  | false=>exact sD l b z n
abbrev T1:=List Int×Bool
def gR (vs:List Value) (m:aa) (s:T1):gZ T1 T1 E2:=bif wM vs m then .ret (0,7) else
 (let r:=(fA vs m).foldl vi (s.2,m.Coef,false,false);.go (s.1++[bif r.2.2.1 then 0 else r.2.1],bif r.2.2.1 then r.1 else (bif r.1 then true else r.2.2.2)))
theorem JW (vs:List Value) (m:aa) (s:T1) (hc:m.Coef≠0) (hi:db m.Coef=true):gR vs m s=bif wM vs m then .ret (0,7) else
 .go (s.1++[bif tC vs m then (bif ((fA vs m).foldl vi (s.2,m.Coef,false,false)).2.2.1 then 0 else ((fA vs m).foldl vi (s.2,m.Coef,false,false)).2.1) else (bif ((gB (m.Coef::fA vs m)).2==0) then (gB (m.Coef::fA vs m)).1 else ((fA vs m).foldl vi (s.2,m.Coef,false,false)).2.1)],s.2||(tC vs m || !((gB (m.Coef::fA vs m)).2==0))):=by
 unfold gR;cases wM vs m with
 | true=>rfl
 | false =>
  simp only [cond_false];congr 2
  ·
   unfold tC;cases ho:(fA vs m).any (fun n => !(db n)) with
   | true=>rfl
   | false =>
    simp only [cond_false];rw [GW _ _ ho];unfold gB;have h0:(m.Coef==0)=false:=by simpa using hc
    simp only [List.any_cons,h0,Bool.false_or];cases hz:(fA vs m).any (fun n=>n==0) with
    | true=>rfl
    | false =>
     have h1:pm 1 (m.Coef::fA vs m)=pm m.Coef (fA vs m):=by simp only [pm,Int.one_mul,hi];rfl
     have h2:=CD (fA vs m) s.2 false m.Coef ho hz;simp only [cond_false,h1];cases hp:pm m.Coef (fA vs m) with
     | none=>rfl
     | some r=>rw [hp] at h2;simp only [h2.1];rfl
  ·rw [A4];unfold tC;cases ho:(fA vs m).any (fun n => !(db n)) with
   | true =>
    cases ((fA vs m).foldl vi (s.2,m.Coef,false,false)).2.2.1<;>cases s.2<;>rfl
   | false =>
    rw [GW _ _ ho];unfold gB;have h0:(m.Coef==0)=false:=by simpa using hc
    simp only [List.any_cons,h0,Bool.false_or,Bool.or_false];cases hz:(fA vs m).any (fun n=>n==0) with
    | true=>simp
    | false =>
     have h1:pm 1 (m.Coef::fA vs m)=pm m.Coef (fA vs m):=by simp only [pm,Int.one_mul,hi];rfl
     have h2:=CD (fA vs m) s.2 false m.Coef ho hz;simp only [cond_false,h1];cases hp:pm m.Coef (fA vs m) with
     | none=>rw [hp] at h2;simp only [h2];cases s.2<;>rfl
     | some r=>rw [hp] at h2;simp only [h2.2];cases s.2<;>rfl
theorem Gs (vs:List Value):∀ (l:List aa) (s:T1),(∀ m∈l,m.Coef≠0∧db m.Coef=true) →
 cu (gR vs) (fun s=>(s.1,s.2)) l s=(bif l.any (wM vs) then .ret (0,7) else (cu (gR vs) (fun s=>(s.1,s.2)) l s)) ∧
 (l.any (wM vs)=false→∃ q:List Int,cu (gR vs) (fun s=>(s.1,s.2)) l s = .brk (s.1++q,s.2||l.any (fun m=>tC vs m || !((gB (m.Coef::fA vs m)).2==0)))∧(l.any (fun m=>tC vs m || !((gB (m.Coef::fA vs m)).2==0))=false→q=l.map (fun m=>(gB (m.Coef::fA vs m)).1)))
 | [],s,_=>⟨rfl,fun _=>⟨[],by simp [cu],fun _=>rfl⟩⟩
 | m::l,s,h=>by
  have hm:=h m (by simp);have ih:=fun s=>Gs vs l s (fun x hx=>h x (by simp [hx]));simp only [cu,List.any_cons,List.map_cons];rw [JW vs m s hm.1 hm.2];cases hmi:wM vs m with
  | true=>exact ⟨rfl,fun e=>by cases e⟩
  | false =>
   simp only [cond_false,Bool.false_or];generalize hx:(bif tC vs m then (bif ((fA vs m).foldl vi (s.2,m.Coef,false,false)).2.2.1 then 0 else ((fA vs m).foldl vi (s.2,m.Coef,false,false)).2.1) else (bif ((gB (m.Coef::fA vs m)).2==0) then (gB (m.Coef::fA vs m)).1 else ((fA vs m).foldl vi (s.2,m.Coef,false,false)).2.1))=X;obtain ⟨i1,i2⟩:=ih (s.1++[X],s.2||(tC vs m || !((gB (m.Coef::fA vs m)).2==0)));refine ⟨i1,fun e => ?_⟩;obtain ⟨q,e1,e2⟩:=i2 e;refine ⟨X::q,?_,fun e3 => ?_⟩
   ·rw [e1];simp only [List.append_assoc,List.singleton_append,Bool.or_assoc]
   ·rw [Bool.or_eq_false_iff] at e3;rw [e2 e3.2];congr 1;have e4:=e3.1;rw [Bool.or_eq_false_iff] at e4;have e5:((gB (m.Coef::fA vs m)).2==0)=true:=by simpa using e4.2
    rw [e4.1,e5] at hx;exact hx.symm
theorem CV (vs:List Value) (v:ai) (b:Nat→Option (gZ Unit Nat Empty)) (hb:∀ j,j<vs.length→b j=some (bif uV v (vs.getD j ⟨[],0⟩) then .brk j else .go ())) :
 cY (fun j (_:Unit)=>b j) (fun i _=>i) (vs.length-0) 0 ()=some (.brk (bif rF vs v then vs.length else (look vs v).toNat)):=by
 rw [qW (fun j=>uV v (vs.getD j ⟨[],0⟩)) _ _ () (fun j u _ hj=>hb j (by omega)),uv (uV v) ⟨[],0⟩ vs];rfl
theorem yh (p:List aa) (vs:List Value) (hB:Bd p) (hvs:vs.length≤1000000):mj p vs=some (yF p vs):=by
 unfold mj yF;rw [dY p hB];simp only [ak];cases hv:bC p with
 | false=>rfl
 | true =>
  simp only [cond_true];rw [jO (f:=fun s=>(s.1,s.2)) ⟨0,[]⟩ p (gR vs) (fun j s=>s.1.length=j) (fun _ _=>rfl) ([],false) rfl (fun j s hj hI=>by
   have hm:=hB.2 _ (ed (p:=p) (j:=j) hj);refine ⟨?_,fun s' e => ?_⟩
   ·simp only [show p.getD j ⟨0,[]⟩=bg p j from rfl];generalize bg p j=m at hm;generalize hbd:(fun (s2257:Bool×Int×Bool×Bool×Int)=>_:(Bool×Int×Bool×Bool×Int)→Option (gZ (Bool×Int×Bool×Bool×Int) (Bool×Int×Bool×Bool) (gZ T1 T1 E2)))=body;have key:∀ (rest:List ai) (k fuel:Nat) (st:R4),m.Vars.drop k=rest→k+rest.length=m.Vars.length→rest.length<fuel →
     xU body fuel (st.1,st.2.1,st.2.2.1,st.2.2.2,((k:Nat):Int))=some (bif rest.any (rF vs) then .ret (.ret (0,7)) else .brk ((rest.map (num vs)).foldl vi st)):=by
     intro rest;induction rest with
     | nil =>
      intro k fuel st h1 h2 h3;obtain ⟨f,rfl⟩:∃ f,fuel=f+1:=⟨fuel-1,by simp at h3;omega⟩;have e0:body (st.1,st.2.1,st.2.2.1,st.2.2.2,((k:Nat):Int))=some (.brk st):=by rw [← hbd];simp only;rw [KU (by simp at h2;omega)];rfl
      simp only [xU,e0,ak,tw];rfl
     | cons v rest ih =>
      intro k fuel st h1 h2 h3;obtain ⟨f,rfl⟩:∃ f,fuel=f+1:=⟨fuel-1,by simp at h3;omega⟩;have hk:k<m.Vars.length:=by simp at h2;omega
      have h4:=drop_cons hk;rw [h1] at h4;have hv1:m.Vars.getD k []=v:=(List.cons.inj h4).1.symm;have hv2:m.Vars.drop (k+1)=rest:=(List.cons.inj h4).2.symm;have e0:body (st.1,st.2.1,st.2.2.1,st.2.2.2,((k:Nat):Int))=some (bif rF vs v then .ret (.ret (0,7)) else (let r:=vi st (num vs v);.go (r.1,r.2.1,r.2.2.1,r.2.2.2,((k+1:Nat):Int)))):=by
       rw [← hbd];simp only;rw [KV (by omega)];simp only [cond_true];rw [CV vs v (fun i=>cy (0≤((k:Nat):Int)∧((k:Nat):Int)<((m.Vars.length:Nat):Int)) <| bif (((vs.getD i ⟨[],0⟩).Var)==((m.Vars).getD ((k:Nat):Int).toNat [])) then some (.brk i) else some (.go ())) (fun i hi=>by rw [aD (by omega),Int.toNat_natCast,hv1];unfold uV;cases ((vs.getD i ⟨[],0⟩).Var==v)<;>rfl)]
       simp only [ak,gu];cases hmv:rF vs v with
       | true =>
        simp only [cond_true];rw [show ((((vs.length:Nat):Int)==((vs.length:Nat):Int)))=true by simp];rfl
       | false =>
        have hl:=IK vs v hmv;simp only [cond_false];rw [show (((((look vs v).toNat:Nat):Int)==((vs.length:Nat):Int)))=false by rw [beq_eq_false_iff_ne];omega];simp only [cond_false];rw [aD (by omega),gF];simp only [ak];have hn:(vs.getD (look vs v).toNat ⟨[],0⟩).N=num vs v:=rfl;rw [hn];have hw:aJ (((k:Nat):Int)+1)=((k+1:Nat):Int):=by rw [av (by omega) (by omega)];omega
        rw [hw];unfold vi;cases hin:db (num vs v) with
        | false=>rfl
        | true =>
         simp only [cond_true];cases hz:(num vs v==0) with
         | true=>rfl
         | false =>
          simp only [cond_false];rw [zW];simp only [ak];unfold mulR;rw [hin];cases db st.2.1&&(true&&db (st.2.1*num vs v))<;>rfl
      simp only [xU,e0,ak,List.any_cons,List.map_cons,List.foldl_cons];cases hmv:rF vs v with
      | true=>rfl
      | false =>
       simp only [cond_false,Bool.false_or,tw];exact ih (k+1) f (vi st (num vs v)) hv2 (by simp at h2;omega) (by simp at h3;omega)
    have hk0:=key m.Vars 0 4294967296 (s.2,m.Coef,false,false) (by rw [List.drop_zero]) (by omega) (by omega);have hk1:xU body 4294967296 (s.2,m.Coef,false,false,0)=some (bif m.Vars.any (rF vs) then .ret (.ret (0,7)) else .brk ((m.Vars.map (num vs)).foldl vi (s.2,m.Coef,false,false))):=hk0;rw [hk1];unfold gR wM fA;cases m.Vars.any (rF vs) with
    | true=>rfl
    | false =>
     simp only [cond_false,ak,Sh.aft];generalize (m.Vars.map (num vs)).foldl vi (s.2,m.Coef,false,false)=r;have hg:(s.1.length+1)*8≤140737488355328:=by have:=hB.1;omega
     cases r.2.2.1<;>cases r.1<;>exact aD hg
   ·unfold gR at e;cases hmv:wM vs (p.getD j ⟨0,[]⟩) with
    | true=>rw [hmv] at e;cases e
    | false=>rw [hmv] at e;cases e;simp [hI])]
  obtain ⟨i1,i2⟩:=Gs vs p ([],false) (fun m hm=>by have hok:=lI hv hm;unfold F7 at hok;simp only [KQ,Bool.not_eq_true',beq_eq_false_iff_ne,decide_eq_true_eq] at hok;exact ⟨hok.1,cE.2 (by omega)⟩)
  cases hmi:p.any (wM vs) with
  | true=>rw [i1,hmi];rfl
  | false =>
   obtain ⟨q,e1,e2⟩:=i2 hmi;rw [e1];simp only [cond_false,ak,Sh.aft,Bool.false_or,List.nil_append];have hor:p.any (fun m=>tC vs m || !((gB (m.Coef::fA vs m)).2==0))=(p.any (tC vs)||(p.map (fun m=>m.Coef::fA vs m)).any (fun l => !((gB l).2==0))):=by
    rw [List.any_map,Bool.eq_iff_iff];simp only [List.any_eq_true,Bool.or_eq_true,Function.comp];constructor
    ·rintro ⟨m,hm,h | h⟩
     ·exact .inl ⟨m,hm,h⟩
     ·exact .inr ⟨m,hm,h⟩
    ·rintro (⟨m,hm,h⟩ | ⟨m,hm,h⟩)
     ·exact ⟨m,hm,.inl h⟩
     ·exact ⟨m,hm,.inr h⟩
   rw [hor] at e2 ⊢;cases h1:p.any (tC vs) with
   | true=>rfl
   | false =>
    simp only [Bool.false_or,cond_false];cases h2:(p.map (fun m=>m.Coef::fA vs m)).any (fun l => !((gB l).2==0)) with
    | true=>rfl
    | false =>
     simp only [cond_false];have e3:=e2 (by rw [h1,h2];rfl);rw [e3,An _ (by rw [KW];exact hB.1)];simp only [ak,KW,List.map_map];rfl
end Go.Proofs.YtjfpcjnopbfekaaGreatDoor
namespace Go.Sh
theorem Ht {V σ ε β:Type} {m:List (ai×V)} {body:ai×V→σ→Option (gZ σ ε β)} {K:σ→Prop} {J:β→Prop} (I:List Nat→σ→Prop) (ok:ai×V→Bool) (g:σ→ai×V→σ) (x:β) (hJ:J x)
 (hstep:∀ seen s i (h:i<m.length),seen.Nodup→i ∉ seen→(∀ j∈seen,j<m.length)→I seen s→body m[i] s=some (bif ok m[i] then .go (g s m[i]) else .ret x)∧I (seen++[i]) (g s m[i]))
 (hbad:∃ i,∃ h:i<m.length,ok m[i]=false) :
 ∀ (n:Nat) (seen:List Nat) (s:σ),seen.Nodup→(∀ i∈seen,i<m.length)→(∀ i∈seen,∀ h:i<m.length,ok m[i]=true)→n+seen.length=m.length→I seen s→MR m body K J n seen s
 | 0,seen,s,h1,h2,h4,h3,hI=>by
  obtain ⟨i,hi,hb⟩:=hbad;have hin:i∈seen:=by
   refine Classical.byContradiction fun hn => ?_;have:=j7 (i::seen) (List.range m.length) (List.nodup_cons.2 ⟨hn,h1⟩) (fun x hx=>by
    rcases List.mem_cons.1 hx with rfl | hx
    ·simpa using hi
    ·simpa using h2 x hx)
   simp at this;omega
  rw [h4 i hin hi] at hb;cases hb
 | n+1,seen,s,h1,h2,h4,h3,hI=>by
  refine ⟨?_,fun i hi hn => ?_⟩
  ·refine Classical.byContradiction fun hn => ?_;have:=j7 (List.range m.length) seen List.nodup_range (fun x hx=>Classical.byContradiction fun hx2=>hn ⟨x,by simpa using hx,hx2⟩);simp at this;omega
  ·obtain ⟨e1,e2⟩:=hstep seen s i hi h1 hn h2 hI;refine ⟨_,e1,?_⟩;cases hok:ok m[i] with
   | false=>exact hJ
   | true =>
    have hnd:(seen++[i]).Nodup:=by
     rw [List.nodup_append];exact ⟨h1,by simp,fun a ha b hb=>by
      have:b=i:=by simpa using hb
      subst this;intro e;subst e;exact hn ha⟩
    exact Ht I ok g x hJ hstep hbad n (seen++[i]) _ hnd (fun j hj=>by
     rcases List.mem_append.1 hj with hj | hj
     ·exact h2 j hj
     ·have:j=i:=by simpa using hj
      subst this;exact hi) (fun j hj h=>by
     rcases List.mem_append.1 hj with hj | hj
     ·exact h4 j hj h
     ·have:j=i:=by simpa using hj
      subst this;exact hok) (by simp;omega) e2
theorem Cz {seen:List Nat} {n:Nat} (h1:seen.Nodup) (h2:∀ i,i<n→i∈seen) (h3:∀ i∈seen,i<n):seen.Perm (List.range n) :=
 (List.perm_ext_iff_of_nodup h1 List.nodup_range).2 fun a=>⟨fun h=>List.mem_range.2 (h3 a h),fun h=>h2 a (List.mem_range.1 h)⟩
end Go.Sh
namespace Go.Proofs.YtjfpcjnopbfekaaGreatDoor
open Go.Ab Go.Sh Go.Sort
section
variable {α:Type} (key:α→List ai)
def CX (x:α):List α→List α
 | []=>[x]
 | y::l=>bif decide (cmpL (key y) (key x)<0) then y::CX x l else x::y::l
def gJ:List α→List α
 | []=>[]
 | x::l=>CX key x (gJ l)
def yp (a b:α):Prop:=cmpL (key a) (key b)<0
theorem tQ (x:α):∀ l,(CX key x l).Perm (x::l)
 | []=>List.Perm.refl _
 | y::l=>by
  unfold CX;cases decide (cmpL (key y) (key x)<0) with
  | true=>exact ((tQ x l).cons y).trans (List.Perm.swap x y l)
  | false=>exact List.Perm.refl _
theorem dy:∀ l,(gJ key l).Perm l
 | []=>List.Perm.refl _
 | x::l=>(tQ key x _).trans ((dy l).cons x)
theorem vf (x:α):∀ {l:List α},l.Pairwise (yp key)→(∀ y∈l,key y≠key x)→(CX key x l).Pairwise (yp key)
 | [],_,_=>by simp [CX]
 | y::l,h,hne=>by
  unfold CX;rw [List.pairwise_cons] at h;by_cases hlt:cmpL (key y) (key x)<0
  ·rw [KV hlt];simp only [cond_true];rw [List.pairwise_cons];refine ⟨fun z hz => ?_,vf x h.2 fun z hz=>hne z (by simp [hz])⟩;rcases List.mem_cons.1 ((tQ key x l).mem_iff.1 hz) with rfl | hz
   ·exact hlt
   ·exact h.1 z hz
  ·rw [KU hlt];simp only [cond_false];have hxy:yp key x y:=by have h0:cmpL (key y) (key x)≠0:=fun e=>hne y (by simp) (gY e);exact gM.2 (by omega)
   rw [List.pairwise_cons];refine ⟨fun z hz => ?_,List.pairwise_cons.2 h⟩;rcases List.mem_cons.1 hz with rfl | hz
   ·exact hxy
   ·exact iC hxy (h.1 z hz)
theorem im:∀ {l:List α},(l.map key).Nodup→(gJ key l).Pairwise (yp key)
 | [],_=>by simp [gJ]
 | x::l,h=>by rw [List.map_cons,List.nodup_cons] at h;refine vf key x (im h.2) fun y hy e=>h.1 ?_;rw [← e];exact List.mem_map.2 ⟨y,(dy key l).mem_iff.1 hy,rfl⟩
theorem EI {a b:α} (h1:yp key a b) (h2:yp key b a):a=b:=by have:=iC h1 h2;rw [iK] at this;omega
theorem rY {a b:List α} (h1:a.Pairwise (yp key)) (h2:b.Pairwise (yp key)) (h:a.Perm b):a=b :=
 List.Perm.eq_of_pairwise (fun _ _ _ _=>EI key) h1 h2 h
theorem FV {l:List α} (h:(l.map key).Nodup):kS (fun x y=>cmpL (key x) (key y)) l=gJ key l:=by
 refine rY key ?_ (im key h) ((List.mergeSort_perm l _).trans (dy key l).symm);have hsw:=sM A8 key;have h1:(kS (fun x y=>cmpL (key x) (key y)) l).Pairwise (fun a b => !(ltOf (fun x y=>cmpL (key x) (key y)) b a)):=by
  refine List.pairwise_mergeSort (fun a b c hab hbc => ?_) (fun a b => ?_) l
  ·simp only [Bool.not_eq_true'] at *;exact hsw.ntrans _ _ _ hbc hab
  ·cases h2:ltOf (fun x y=>cmpL (key x) (key y)) b a with
   | false=>rfl
   | true =>
    cases h3:ltOf (fun x y=>cmpL (key x) (key y)) a b with
    | false=>rfl
    | true=>have:=hsw.trans _ _ _ h2 h3;rw [hsw.irrefl] at this;cases this
 have hnd:((kS (fun x y=>cmpL (key x) (key y)) l).map key).Nodup:=((List.mergeSort_perm l _).map key).nodup_iff.2 h;have h2:(kS (fun x y=>cmpL (key x) (key y)) l).Pairwise (fun a b=>key a≠key b):=List.pairwise_map.1 hnd;refine (h1.and h2).imp fun {a b} ⟨k1,k2⟩ => ?_;have k3:¬ cmpL (key b) (key a)<0:=by simpa [ltOf] using k1
 have k4:cmpL (key b) (key a)≠0:=fun e=>k2 (gY e).symm;exact gM.2 (by omega)
theorem Ak {a b:List α} (h:a.Perm b) (hb:(b.map key).Nodup):gJ key a=gJ key b :=
 rY key (im key ((h.map key).nodup_iff.2 hb)) (im key hb) ((dy key a).trans (h.trans (dy key b).symm))
end
abbrev MV:=List (ai×List ai)
abbrev MI:=List (ai×List Int)
def zr (x1 x2:MI) (e:ai×List ai):Int×Int:=sZ (bN [] e.1 x1) (bN [] e.1 x2)
def ou (x1 x2:MI) (e:ai×List ai):Bool:=(zr x1 x2 e).2==0
def ko (x1 x2:MI) (e:ai×List ai):List aa:=bif (zr x1 x2 e).1==0 then [] else [⟨(zr x1 x2 e).1,e.2⟩]
def pM (x0:MV) (x1 x2:MI):List aa:=(x0.map (ko x1 x2)).flatten
def JH (x0:MV) (x1 x2:MI):List aa×Int :=
 bif x0.all (ou x1 x2) then (bif bC (gJ aa.Vars (pM x0 x1 x2)) then (gJ aa.Vars (pM x0 x1 x2),0) else ([],3)) else ([],3)
theorem rZ {x1 x2:MI} {e:ai×List ai} {m:aa} (h:m∈ko x1 x2 e):m.Vars=e.2:=by
 unfold ko at h;cases hz:(zr x1 x2 e).1==0 with
 | true=>rw [hz] at h;cases h
 | false=>rw [hz] at h;simp only [cond_false,List.mem_singleton] at h;rw [h]
theorem yV (x1 x2:MI) (e:ai×List ai):(ko x1 x2 e).length≤1:=by unfold ko;cases (zr x1 x2 e).1==0<;>simp
theorem yW (x1 x2:MI):∀ (x0:MV),(x0.map (·.2)).Nodup→((pM x0 x1 x2).map aa.Vars).Nodup
 | [],_=>by simp [pM]
 | e::x0,h=>by
  rw [List.map_cons,List.nodup_cons] at h;have ih:=yW x1 x2 x0 h.2;unfold pM at *;rw [List.map_cons,List.flatten_cons,List.map_append,List.nodup_append];refine ⟨?_,ih,?_⟩
  ·unfold ko;cases (zr x1 x2 e).1==0<;>simp
  ·rintro a ha b hb rfl;obtain ⟨m,hm,rfl⟩:=List.mem_map.1 ha;obtain ⟨m',hm',e2⟩:=List.mem_map.1 hb;obtain ⟨l,hl,hml⟩:=List.mem_flatten.1 hm';obtain ⟨e',he',rfl⟩:=List.mem_map.1 hl;rw [rZ hm,rZ hml] at e2;exact h.1 (List.mem_map.2 ⟨e',he',e2⟩)
theorem wq (x1 x2:MI):∀ (x0:MV),(pM x0 x1 x2).length≤x0.length
 | []=>by simp [pM]
 | e::x0=>by have ih:=wq x1 x2 x0;have h1:=yV x1 x2 e;unfold pM at *;rw [List.map_cons,List.flatten_cons,List.length_append,List.length_cons];omega
def F3 (x0:MV) (i:Nat):ai×List ai:=x0.getD i ([],[])
theorem Fj (x0:MV):(List.range x0.length).map (F3 x0)=x0:=by refine List.ext_getElem (by simp) fun i h1 h2=>by simp [F3,KO,h2]
theorem F6 {x0:MV} {i:Nat} (h:i<x0.length):F3 x0 i=x0[i]:=by simp [F3,KO,h]
theorem Fg (x0:MV) (x1 x2:MI) (h1:(x0.map (·.2)).Nodup) (hn:x0.length≤1000000) (hb:∀ e∈x0,e.2.length≤1000000∧∀ v∈e.2,v.length≤1000000):cZ x0 x1 x2=some (JH x0 x1 x2):=by
 unfold cZ JH;have hbody:∀ (e:ai×List ai) (s:List aa),s.length≤1000000→((iT (bN [] e.1 x1) (bN [] e.1 x2)).bind fun y109=>bif (y109.2==0) then (bif (y109.1==0) then (some (.go s):Option (gZ (List aa) Empty (List aa×Int))) else (cy ((s.length+1)*32≤140737488355328) <| some (.go (s++[(aa.mk y109.1 e.2)])))) else (some (.ret ([],3))))=some (bif ou x1 x2 e then .go (s++ko x1 x2 e) else .ret ([],3)):=fun e s hs=>by
  rw [xK];simp only [ak];unfold ou ko zr;generalize sZ (bN [] e.1 x1) (bN [] e.1 x2)=c;cases c.2==0 with
  | false=>rfl
  | true =>
   cases c.1==0 with
   | true=>simp
   | false =>
    simp only [cond_true,cond_false];rw [aD (by omega)]
 have hIlen:∀ (seen:List Nat),seen.Nodup→(∀ j∈seen,j<x0.length)→((seen.map fun i=>ko x1 x2 (F3 x0 i)).flatten).length≤1000000:=fun seen k1 k2=>by
  have h3:=j7 seen (List.range x0.length) k1 (fun x hx=>List.mem_range.2 (k2 x hx));rw [List.length_range] at h3;have h4:∀ l:List Nat,((l.map fun i=>ko x1 x2 (F3 x0 i)).flatten).length≤l.length:=by
   intro l;induction l with
   | nil=>simp
   | cons a l ih =>
    have:=yV x1 x2 (F3 x0 a);rw [List.map_cons,List.flatten_cons,List.length_append,List.length_cons];omega
  have:=h4 seen;omega
 cases hall:x0.all (ou x1 x2) with
 | true =>
  simp only [cond_true];have hok:∀ i (h:i<x0.length),ou x1 x2 x0[i]=true:=fun i h=>K5.1 hall _ (List.getElem_mem h);refine wN (Gz (fun seen s=>s=(seen.map fun i=>ko x1 x2 (F3 x0 i)).flatten) (fun s e=>s++ko x1 x2 e) (fun seen s i h k1 k2 k3 hI => ?_) (fun seen s k1 k2 k3 hI => ?_) x0.length [] [] List.nodup_nil (fun i hi=>by cases hi) (by simp) rfl)
  ·refine ⟨?_,?_⟩
   ·rw [hbody _ _ (by rw [hI];exact hIlen seen k1 k3),hok i h];rfl
   ·rw [hI,List.map_append,List.flatten_append];simp [F6 h]
  ·have hp:=((Cz k1 k2 k3).map fun i=>ko x1 x2 (F3 x0 i)).flatten;rw [← hI] at hp;have e1:((List.range x0.length).map fun i=>ko x1 x2 (F3 x0 i)).flatten=pM x0 x1 x2:=by
    unfold pM;conv=>rhs;rw [← Fj x0]
    rw [List.map_map];rfl
   rw [e1] at hp;have hk:=yW x1 x2 x0 h1;have hs:ll (fun x=>x.Vars) s=some (gJ aa.Vars (pM x0 x1 x2)):=by have hnd:=(hp.map aa.Vars).nodup_iff.2 hk;have hlen:=hp.length_eq;have hl2:=wq x1 x2 x0;unfold ll;rw [aD ⟨by omega,hnd⟩];exact congrArg some ((FV aa.Vars hnd).trans (Ak aa.Vars hp hk))
   show ((ll (fun x=>x.Vars) s).bind fun y91=>(gE y91).bind fun y94=>bif y94 then some (y91,0) else some ([],3))=_;rw [hs];simp only [ak];have hBd:Bd (gJ aa.Vars (pM x0 x1 x2)):=by
    refine ⟨?_,fun m hm => ?_⟩
    ·have:=(dy aa.Vars (pM x0 x1 x2)).length_eq;have hl2:=wq x1 x2 x0;omega
    ·have hm:=(dy aa.Vars (pM x0 x1 x2)).mem_iff.1 hm;unfold pM at hm;obtain ⟨l,hl,hml⟩:=List.mem_flatten.1 hm;obtain ⟨e',he',rfl⟩:=List.mem_map.1 hl;rw [rZ hml];exact hb e' he'
   rw [nz _ hBd];simp only [ak];cases bC (gJ aa.Vars (pM x0 x1 x2))<;>rfl
 | false =>
  have hbad:∃ i,∃ h:i<x0.length,ou x1 x2 x0[i]=false:=by
   have:¬ (x0.all (ou x1 x2)=true):=by rw [hall];simp
   rw [K5] at this;refine Classical.byContradiction fun hn=>this fun e he => ?_;obtain ⟨i,hi,rfl⟩:=List.getElem_of_mem he;cases hq:ou x1 x2 x0[i] with
   | true=>rfl
   | false=>exact absurd ⟨i,hi,hq⟩ hn
  rw [cond_false];refine wN (Ht (J:=fun x=>x=(([],3):List aa×Int)) (fun seen s=>s=(seen.map fun i=>ko x1 x2 (F3 x0 i)).flatten) (ou x1 x2) (fun s e=>s++ko x1 x2 e) ([],3) rfl (fun seen s i h k1 k2 k3 hI => ?_) hbad x0.length [] [] List.nodup_nil (fun i hi=>by cases hi) (fun i hi=>by cases hi) (by simp) rfl);refine ⟨hbody _ _ (by rw [hI];exact hIlen seen k1 k3),?_⟩;rw [hI,List.map_append,List.flatten_append];simp [F6 h]
end Go.Proofs.YtjfpcjnopbfekaaGreatDoor
namespace Go.Sh
open Go.Ab
section
variable {V:Type}
theorem wu (d:V) (x y:ai) (v:V):∀ m:List (ai×V),bN d y (dL x v m)=if x=y then v else bN d y m
 | []=>by simp [dL,bN]
 | (k,u)::m=>by
  by_cases h:k=x
  ·subst h;simp only [dL,bN,if_pos];by_cases h2:k=y
   ·simp [h2]
   ·simp [h2]
  ·simp only [dL,if_neg h,bN];rw [wu d x y v m];by_cases h2:k=y
   ·subst h2;simp [Ne.symm h]
   ·simp [h2]
theorem vO (x:ai) (v:V):∀ m:List (ai×V),(dL x v m).map (·.1)=if x∈m.map (·.1) then m.map (·.1) else m.map (·.1)++[x]
 | []=>by simp [dL]
 | (k,u)::m=>by
  by_cases h:k=x
  ·subst h;simp [dL]
  ·simp only [dL,if_neg h,List.map_cons,vO x v m,List.mem_cons,Ne.symm h,false_or];split<;>simp
theorem EK {x:ai} {v:V} {m:List (ai×V)} (h:(m.map (·.1)).Nodup):((dL x v m).map (·.1)).Nodup:=by
 rw [vO];split
 ·exact h
 ·rename_i hx;rw [List.nodup_append];refine ⟨h,by simp,fun a ha b hb => ?_⟩;have:b=x:=by simpa using hb
  subst this;intro e;subst e;exact hx ha
theorem Ax (x:ai) (v:V) (m:List (ai×V)):(dL x v m).length≤m.length+1:=by have:=congrArg List.length (vO x v m);rw [KW] at this;rw [this];split<;>simp
theorem Ew {x:ai} {v:V} {e:ai×V}:∀ {m:List (ai×V)},e∈dL x v m→e=(x,v)∨e∈m
 | [],h=>by simp [dL] at h;exact .inl h
 | (k,u)::m,h=>by
  by_cases hk:k=x
  ·simp only [dL,if_pos hk,List.mem_cons] at h;rcases h with h | h
   ·exact .inl h
   ·exact .inr (by simp [h])
  ·simp only [dL,if_neg hk,List.mem_cons] at h;rcases h with h | h
   ·exact .inr (by simp [h])
   ·rcases Ew h with h | h
    ·exact .inl h
    ·exact .inr (by simp [h])
theorem zX (x:ai) (v:V):∀ m:List (ai×V),(x,v)∈dL x v m
 | []=>by simp [dL]
 | (k,u)::m=>by
  by_cases hk:k=x
  ·simp [dL,hk]
  ·simp only [dL,if_neg hk,List.mem_cons];exact .inr (zX x v m)
theorem Ee {x:ai} {v:V} {e:ai×V} (hne:e.1≠x):∀ {m:List (ai×V)},e∈m→e∈dL x v m
 | [],h=>by cases h
 | (k,u)::m,h=>by
  by_cases hk:k=x
  ·simp only [dL,if_pos hk,List.mem_cons] at h ⊢;rcases h with h | h
   ·exact absurd (by rw [h];exact hk) hne
   ·exact .inr h
  ·simp only [dL,if_neg hk,List.mem_cons] at h ⊢;rcases h with h | h
   ·exact .inl h
   ·exact .inr (Ee hne h)
end
def jn:List ai→ai
 | []=>[]
 | [x]=>x
 | x::y::l=>x++42::jn (y::l)
theorem Ev:∀ l:List ai,Lib.join l [42]=jn l
 | []=>rfl
 | [x]=>by simp [jn,Lib.join,List.intercalate]
 | x::y::l=>by have ih:=Ev (y::l);simp only [jn,← ih];simp [Lib.join,List.intercalate,List.intersperse]
def Kn (v:ai):Prop:=v≠[]∧(42:UInt8) ∉ v
theorem DU:∀ {x y r s:ai},(42:UInt8) ∉ x→(42:UInt8) ∉ y→x++42::r=y++42::s→x=y∧r=s
 | [],[],r,s,_,_,h=>by simpa using h
 | [],b::y,r,s,_,hy,h=>by
  simp only [List.nil_append,List.cons_append,List.cons.injEq] at h;exact absurd (by rw [h.1];simp) hy
 | a::x,[],r,s,hx,_,h=>by
  simp only [List.nil_append,List.cons_append,List.cons.injEq] at h;exact absurd (by rw [← h.1];simp) hx
 | a::x,b::y,r,s,hx,hy,h=>by simp only [List.cons_append,List.cons.injEq] at h;obtain ⟨e1,e2⟩:=DU (fun k=>hx (by simp [k])) (fun k=>hy (by simp [k])) h.2;exact ⟨by rw [h.1,e1],e2⟩
theorem Bf {x y r:ai} (hy:(42:UInt8) ∉ y) (h:x++42::r=y):False:=hy (by rw [← h];simp)
theorem Hz:∀ {l m:List ai},(∀ v∈l,Kn v)→(∀ v∈m,Kn v)→jn l=jn m→l=m
 | [],[],_,_,_=>rfl
 | [],[y],_,hm,h=>absurd h.symm (hm y (by simp)).1
 | [],y::z::m,_,_,h=>by
  have:([]:ai)=y++42::jn (z::m):=h;exact absurd (congrArg List.length this) (by simp)
 | [x],[],hl,_,h=>absurd h (hl x (by simp)).1
 | x::y::l,[],_,_,h=>by
  have:x++42::jn (y::l)=([]:ai):=h;exact absurd (congrArg List.length this) (by simp)
 | [x],[y],_,_,h=>by rw [show x=y from h]
 | [x],y::z::m,hl,_,h=>(Bf (hl x (by simp)).2 (show y++42::jn (z::m)=x from h.symm)).elim
 | x::y::l,[z],_,hm,h=>(Bf (hm z (by simp)).2 (show x++42::jn (y::l)=z from h)).elim
 | x::y::l,z::w::m,hl,hm,h=>by obtain ⟨e1,e2⟩:=DU (hl x (by simp)).2 (hm z (by simp)).2 (show x++42::jn (y::l)=z++42::jn (w::m) from h);rw [e1,Hz (fun v hv=>hl v (by simp [hv])) (fun v hv=>hm v (by simp [hv])) e2]
theorem G2:∀ {l:List ai} {k:Nat},(∀ v∈l,v.length≤k)→(jn l).length≤l.length*(k+1)
 | [],k,_=>by simp [jn]
 | [x],k,h=>by have:=h x (by simp);simp [jn];omega
 | x::y::l,k,h=>by
  have h1:=h x (by simp);have ih:=G2 (l:=y::l) (k:=k) (fun v hv=>h v (by simp [hv]));have e:(jn (x::y::l)).length=x.length+(jn (y::l)).length+1:=by simp [jn];omega
  rw [e,List.length_cons,Nat.add_mul];omega
end Go.Sh
namespace Go.Proofs.YtjfpcjnopbfekaaGreatDoor
open Go.Ab Go.Sh Go.Sort
def pX (xs:List ai):Option (List ai):=cy (xs.length*16≤140737488355328) <| some (bK xs)
theorem ED:iN=pX:=funext fun xs=>by unfold iN pX;rw [xM]
abbrev k8:=List ai×Int×Int
def aL:List k8→List ai→Int
 | [],_=>0
 | c::L,V=>(if c.1=V then c.2.1*c.2.2 else 0)+aL L V
theorem kV:∀ (L M:List k8) (V:List ai),aL (L++M) V=aL L V+aL M V
 | [],M,V=>by simp [aL]
 | c::L,M,V=>by simp only [List.cons_append,aL,kV L M V];omega
def qH (L:List k8) (V:List ai):List Int:=(L.filter fun c=>decide (c.1=V)).map fun c=>c.2.1
def r7 (L:List k8) (V:List ai):List Int:=(L.filter fun c=>decide (c.1=V)).map fun c=>c.2.2
theorem ur (f:Nat→Int):∀ n,sl f (n+1)=f 0+sl (fun i=>f (i+1)) n
 | 0=>by simp [sl]
 | n+1=>by have:=ur f n;rw [show sl f (n+1+1)=sl f (n+1)+f (n+1) from rfl,this];rw [show sl (fun i=>f (i+1)) (n+1)=sl (fun i=>f (i+1)) n+f (n+1) from rfl];omega
theorem tH:∀ (L:List k8) (V:List ai),sl (r9 (qH L V) (r7 L V)) (qH L V).length=aL L V
 | [],V=>rfl
 | c::L,V=>by
  have ih:=tH L V;by_cases h:c.1=V
  ·have e1:qH (c::L) V=c.2.1::qH L V:=by simp [qH,h]
   have e2:r7 (c::L) V=c.2.2::r7 L V:=by simp [r7,h]
   rw [e1,e2,List.length_cons,ur];have e3:(fun i=>r9 (c.2.1::qH L V) (c.2.2::r7 L V) (i+1))=r9 (qH L V) (r7 L V):=by funext i;simp [r9]
   rw [e3,ih];simp [aL,h,r9]
  ·have e1:qH (c::L) V=qH L V:=by simp [qH,h]
   have e2:r7 (c::L) V=r7 L V:=by simp [r7,h]
   rw [e1,e2,ih];simp [aL,h]
theorem yZ {L:List k8} {V:List ai} (h:aL L V≠0):∃ c∈L,c.1=V:=by
 induction L with
 | nil=>exact absurd rfl h
 | cons c L ih =>
  by_cases hc:c.1=V
  ·exact ⟨c,by simp,hc⟩
  ·have:aL L V≠0:=by simpa [aL,hc] using h
   obtain ⟨c',h1,h2⟩:=ih this;exact ⟨c',by simp [h1],h2⟩
def Dd (V:List ai):Prop:=V.length≤1000∧∀ v∈V,Kn v∧v.length≤1000
def HP (c:k8):Prop:=Dd c.1∧db c.2.1=true∧db c.2.2=true
structure kQ (L:List k8) (x3:MV) (x4 x5:MI):Prop where
 e1:∀ e∈x3,e.1=jn e.2∧∃ c∈L,c.1=e.2
 e2:∀ c∈L,(jn c.1,c.1)∈x3
 nd:(x3.map (·.1)).Nodup
 ma:∀ V,Dd V→bN [] (jn V) x4=qH L V
 mb:∀ V,Dd V→bN [] (jn V) x5=r7 L V
 l3:x3.length≤L.length
 l4:x4.length≤L.length
 l5:x5.length≤L.length
theorem kQ.nil:kQ [] [] [] []:=⟨fun e he=>(by cases he),fun c hc=>(by cases hc),by simp,fun V _=>rfl,fun V _=>rfl,by simp,by simp,by simp⟩
theorem Cs {V W:List ai} (hV:Dd V) (hW:Dd W) (h:jn V=jn W):V=W:=Hz (fun v hv=>(hV.2 v hv).1) (fun v hv=>(hW.2 v hv).1) h
theorem tj (L:List k8) (V:List ai):(qH L V).length≤L.length:=by unfold qH;rw [KW];exact List.length_filter_le _ _
theorem vE (L:List k8) (V:List ai):(r7 L V).length=(qH L V).length:=by unfold qH r7;rw [KW,KW]
theorem Cc {V:List ai} (h:Dd V):Dd (bK V):=⟨by rw [(iB V).length_eq];exact h.1,fun v hv=>h.2 v ((iB V).mem_iff.1 hv)⟩
theorem tc {L:List k8} {x3:MV} {x4 x5:MI} (h:kQ L x3 x4 x5) (hL:∀ c∈L,HP c) (hn:L.length≤900000) {V0:List ai} {a b:Int} (hV:Dd V0) :
 ∃ y,du V0 a b x3 x4 x5=some y∧kQ (L++[(bK V0,a,b)]) y.1 y.2.1 y.2.2:=by
 have hS:=Cc hV;refine ⟨(dL (jn (bK V0)) (bK V0) x3,dL (jn (bK V0)) (qH L (bK V0)++[a]) x4,dL (jn (bK V0)) (r7 L (bK V0)++[b]) x5),?_,?_⟩
 ·unfold du;have e1:mJ V0=some V0:=rfl;have e2:iN V0=some (bK V0):=by rw [ED];unfold pX;rw [aD (by have:=hV.1;omega)]
  have e3:mw (bK V0) [42]=some (jn (bK V0)):=by unfold mw;rw [Ev];have h1:=G2 (l:=bK V0) (k:=1000) (fun v hv=>(hS.2 v hv).2);have h2:=hS.1;have h3:(bK V0).length*(1000+1)≤1000*1001:=Nat.mul_le_mul_right _ h2;rw [aD ⟨by omega,by omega⟩]
  rw [e1];simp only [ak];rw [e2];simp only [ak];rw [e3];simp only [ak];rw [h.ma _ hS,h.mb _ hS];have l1:=tj L (bK V0);have l2:=vE L (bK V0);have l4:=h.l4;have l5:=h.l5;rw [aD (by simp;omega),aD (by simp;omega),aD (by omega),aD (by omega)]
 ·refine ⟨fun e he => ?_,fun c hc => ?_,EK h.nd,fun V hV2 => ?_,fun V hV2 => ?_,?_,?_,?_⟩
  ·rcases Ew he with rfl | he
   ·exact ⟨rfl,(bK V0,a,b),by simp,rfl⟩
   ·obtain ⟨k1,c,k2,k3⟩:=h.e1 e he;exact ⟨k1,c,by simp [k2],k3⟩
  ·rcases List.mem_append.1 hc with hc | hc
   ·by_cases hj:jn c.1=jn (bK V0)
    ·have:=Cs (hL c hc).1 hS hj;rw [this];exact zX _ _ _
    ·exact Ee hj (h.e2 c hc)
   ·have:c=(bK V0,a,b):=by simpa using hc
    rw [this];exact zX _ _ _
  ·show bN [] (jn V) (dL (jn (bK V0)) (qH L (bK V0)++[a]) x4)=_;rw [wu];by_cases hj:jn (bK V0)=jn V
   ·rw [if_pos hj];have:=Cs hS hV2 hj;subst this;simp [qH]
   ·rw [if_neg hj,h.ma V hV2];have:¬ bK V0=V:=fun e=>hj (by rw [e]);simp [qH,this]
  ·show bN [] (jn V) (dL (jn (bK V0)) (r7 L (bK V0)++[b]) x5)=_;rw [wu];by_cases hj:jn (bK V0)=jn V
   ·rw [if_pos hj];have:=Cs hS hV2 hj;subst this;simp [r7]
   ·rw [if_neg hj,h.mb V hV2];have:¬ bK V0=V:=fun e=>hj (by rw [e]);simp [r7,this]
  ·have:=Ax (jn (bK V0)) (bK V0) x3;have:=h.l3;simp;omega
  ·have:=Ax (jn (bK V0)) (qH L (bK V0)++[a]) x4;have:=h.l4;simp;omega
  ·have:=Ax (jn (bK V0)) (r7 L (bK V0)++[b]) x5;have:=h.l5;simp;omega
structure bH (f:List ai→Int) (p:List aa):Prop where
 st:p.Pairwise (yp aa.Vars)
 mem:∀ m,m∈p↔(m.Coef≠0∧m.Coef=f m.Vars)
theorem tE {p:List aa} (h:p.Pairwise (yp aa.Vars)):p.Nodup:=h.imp fun {a b} hab e=>by subst e;unfold yp at hab;rw [iK] at hab;omega
theorem bH.uniq {f:List ai→Int} {p q:List aa} (hp:bH f p) (hq:bH f q):p=q :=
 rY aa.Vars hp.st hq.st ((List.perm_ext_iff_of_nodup (tE hp.st) (tE hq.st)).2 fun m=>by rw [hp.mem,hq.mem])
def limited (p:List aa):List aa×Int:=bif bC p then (p,0) else ([],3)
def mV (L:List k8) (x3:MV):List aa:=(x3.map fun e=>bif aL L e.2==0 then [] else [aa.mk (aL L e.2) e.2]).flatten
theorem sJ {L:List k8} {x3:MV} {m:aa}:m∈mV L x3↔∃ e∈x3,aL L e.2≠0∧m=⟨aL L e.2,e.2⟩:=by
 unfold mV;rw [List.mem_flatten];constructor
 ·rintro ⟨l,hl,hm⟩;obtain ⟨e,he,rfl⟩:=List.mem_map.1 hl;cases hz:aL L e.2==0 with
  | true=>rw [hz] at hm;cases hm
  | false =>
   rw [hz] at hm;simp only [cond_false,List.mem_singleton] at hm;exact ⟨e,he,by simpa using hz,hm⟩
 ·rintro ⟨e,he,hz,rfl⟩;refine ⟨_,List.mem_map.2 ⟨e,he,rfl⟩,?_⟩;have:(aL L e.2==0)=false:=by simpa using hz
  rw [this];simp
theorem za (L:List k8):∀ (x3:MV),(x3.map (·.2)).Nodup→((mV L x3).map aa.Vars).Nodup
 | [],_=>by simp [mV]
 | e::x3,h=>by
  rw [List.map_cons,List.nodup_cons] at h;have ih:=za L x3 h.2;have e0:mV L (e::x3)=(bif aL L e.2==0 then [] else [aa.mk (aL L e.2) e.2])++mV L x3:=rfl;rw [e0,List.map_append,List.nodup_append];refine ⟨?_,ih,?_⟩
  ·cases aL L e.2==0<;>simp
  ·rintro a ha b hb rfl;have ha2:a=e.2:=by
    cases hz:aL L e.2==0 with
    | true=>rw [hz] at ha;cases ha
    | false=>rw [hz] at ha;simpa using ha
   obtain ⟨m,hm,e2⟩:=List.mem_map.1 hb;obtain ⟨e',he',_,rfl⟩:=sJ.1 hm;exact h.1 (List.mem_map.2 ⟨e',he',by rw [← ha2,← e2]⟩)
theorem wc:∀ {x3:MV},(∀ e∈x3,e.1=jn e.2)→(x3.map (·.1)).Nodup→(x3.map (·.2)).Nodup
 | [],_,_=>by simp
 | e::x3,h,hn=>by rw [List.map_cons,List.nodup_cons] at hn ⊢;refine ⟨fun hm=>hn.1 ?_,wc (fun e' he=>h e' (by simp [he])) hn.2⟩;obtain ⟨e',he',e2⟩:=List.mem_map.1 hm;exact List.mem_map.2 ⟨e',he',by rw [h e' (by simp [he']),e2,h e (by simp)]⟩
theorem oM {L:List k8} {x3:MV} {x4 x5:MI} (h:kQ L x3 x4 x5) (hL:∀ c∈L,HP c) (hn:L.length≤10000) :
 ∃ p,bH (aL L) p∧Bd p∧cZ x3 x4 x5=some (limited p):=by
 have hv2:=wc (fun e he=>(h.e1 e he).1) h.nd;have hok:∀ e∈x3,Dd e.2:=fun e he=>by obtain ⟨_,c,hc,e2⟩:=h.e1 e he;rw [← e2];exact (hL c hc).1
 have hent:∀ e∈x3,zr x4 x5 e=qY (aL L e.2):=fun e he=>by
  unfold zr;rw [(h.e1 e he).1,h.ma _ (hok e he),h.mb _ (hok e he)];unfold sZ;have ha:(qH L e.2).all db=true:=by rw [K5];intro n hn2;obtain ⟨c,hc,rfl⟩:=List.mem_map.1 hn2;exact (hL c (List.mem_filter.1 hc).1).2.1
  have hb:(r7 L e.2).all db=true:=by rw [K5];intro n hn2;obtain ⟨c,hc,rfl⟩:=List.mem_map.1 hn2;exact (hL c (List.mem_filter.1 hc).1).2.2
  rw [KV (vE L e.2).symm,KV (show (qH L e.2).length≤10000 by have:=tj L e.2;omega),ha,hb,tH];rfl
 have hkeys:=za L x3 hv2;have hcan:bH (aL L) (gJ aa.Vars (mV L x3)):=by
  refine ⟨im _ hkeys,fun m => ?_⟩;rw [(dy aa.Vars (mV L x3)).mem_iff,sJ];constructor
  ·rintro ⟨e,he,hz,rfl⟩;exact ⟨hz,rfl⟩
  ·rintro ⟨hz,he⟩;rw [he] at hz;obtain ⟨c,hc,e2⟩:=yZ hz;refine ⟨_,h.e2 c hc,by rw [e2];exact hz,?_⟩;show m=⟨aL L c.1,c.1⟩;rw [e2,← he]
 have hBd:Bd (gJ aa.Vars (mV L x3)):=by
  refine ⟨?_,fun m hm => ?_⟩
  ·rw [(dy aa.Vars (mV L x3)).length_eq];have:∀ x:MV,(mV L x).length≤x.length:=by
    intro x;induction x with
    | nil=>simp [mV]
    | cons e x ih =>
     have e0:mV L (e::x)=(bif aL L e.2==0 then [] else [aa.mk (aL L e.2) e.2])++mV L x:=rfl;rw [e0,List.length_append,List.length_cons];cases aL L e.2==0<;>simp<;>omega
   have h1:=this x3;have h2:=h.l3;omega
  ·obtain ⟨e,he,_,rfl⟩:=sJ.1 ((dy aa.Vars (mV L x3)).mem_iff.1 hm);have:=hok e he;exact ⟨by have:=this.1;show e.2.length≤1000000;omega,fun v hv=>by have:=(this.2 v hv).2;omega⟩
 refine ⟨_,hcan,hBd,?_⟩;rw [Fg x3 x4 x5 hv2 (by have:=h.l3;omega) (fun e he=>by have:=hok e he;exact ⟨by have:=this.1;omega,fun v hv=>by have:=(this.2 v hv).2;omega⟩)]
 unfold JH;cases hall:x3.all (ou x4 x5) with
 | true =>
  have hin:∀ e∈x3,db (aL L e.2)=true:=fun e he=>by
   have h1:=K5.1 hall e he;unfold ou at h1;rw [hent e he] at h1;unfold qY at h1;cases hq:db (aL L e.2) with
   | true=>rfl
   | false=>rw [hq] at h1;simp at h1
  have e1:pM x3 x4 x5=mV L x3:=by unfold pM mV;congr 1;refine List.map_congr_left fun e he => ?_;unfold ko;rw [hent e he,td (hin e he)]
  rw [e1];rfl
 | false =>
  have hbad:∃ e∈x3,db (aL L e.2)=false:=by
   have:¬ (x3.all (ou x4 x5)=true):=by rw [hall];simp
   rw [K5] at this;refine Classical.byContradiction fun hn2=>this fun e he => ?_;cases hq:db (aL L e.2) with
   | true=>unfold ou;rw [hent e he,td hq];rfl
   | false=>exact absurd ⟨e,he,hq⟩ hn2
  obtain ⟨e,he,hq⟩:=hbad;have hnv:bC (gJ aa.Vars (mV L x3))=false:=by
   cases hv:bC (gJ aa.Vars (mV L x3)) with
   | false=>rfl
   | true =>
    have hz:aL L e.2≠0:=by intro e0;rw [e0] at hq;cases hq
    have hm:(⟨aL L e.2,e.2⟩:aa)∈gJ aa.Vars (mV L x3):=(dy aa.Vars (mV L x3)).mem_iff.2 (sJ.2 ⟨e,he,hz,rfl⟩);have:=lI hv hm;unfold F7 at this;simp only [KQ,decide_eq_true_eq] at this;have h2:db (aL L e.2)=true:=cE.2 (by omega);rw [h2] at hq;cases hq
  unfold limited;rw [hnv];rfl
def uj (m:aa):Prop:=(m.Vars.length≤400∧∀ v∈m.Vars,Kn v∧v.length≤1000)∧db m.Coef=true
def Ki (p:List aa):Prop:=p.length≤60∧∀ m∈p,uj m
theorem Jm {l:ai} (h:l.all b7=true):(42:UInt8) ∉ l:=fun hm=>by have:=K5.1 h _ hm;revert this;decide
theorem Bc {v:ai} (h:cW v=true):Kn v∧v.length≤30:=by
 cases v with
 | nil=>cases h
 | cons c r =>
  simp only [cW] at h;cases hc:c==95 with
  | true =>
   rw [hc] at h;simp only [cond_true,KQ,decide_eq_true_eq] at h;have hc':c=95:=by simpa using hc
   refine ⟨⟨by simp,?_⟩,by simp;omega⟩;rw [hc',List.mem_cons,not_or];exact ⟨by decide,Jm h.2.2.2⟩
  | false =>
   rw [hc] at h;simp only [cond_false,KQ,decide_eq_true_eq] at h;refine ⟨⟨by simp,?_⟩,by simp;omega⟩;rw [List.mem_cons,not_or];refine ⟨fun e => ?_,fun hm => ?_⟩
   ·have:=h.2.1;rw [← e] at this;revert this;decide
   ·have:=K5.1 h.2.2 _ hm;revert this;decide
theorem lq {p:List aa} (h:bC p=true):Ki p:=by
 refine ⟨?_,fun m hm => ?_⟩
 ·unfold bC at h;rw [KQ,decide_eq_true_eq] at h;exact h.2
 ·have:=lI h hm;unfold F7 at this;simp only [KQ,decide_eq_true_eq] at this;obtain ⟨_,h1,h2,h3,_,h5⟩:=this;refine ⟨⟨by omega,fun v hv => ?_⟩,cE.2 (by omega)⟩;have:=Bc (K5.1 h5 v hv);exact ⟨this.1,by omega⟩
theorem zG (l:List aa) (i:Nat) (h:i<l.length):l.take (i+1)=l.take i++[bg l i]:=by unfold bg;rw [List.take_add_one,KO,KP h];rfl
def vq (m n:aa):k8:=(bK (m.Vars++n.Vars),m.Coef,n.Coef)
def kU (a b:List aa):List k8:=(a.map fun m=>b.map (vq m)).flatten
theorem DR {m n:aa} (hm:uj m) (hn:uj n):Dd (m.Vars++n.Vars):=by
 refine ⟨by rw [List.length_append];have:=hm.1.1;have:=hn.1.1;omega,fun v hv => ?_⟩;rcases List.mem_append.1 hv with h | h
 ·exact hm.1.2 v h
 ·exact hn.1.2 v h
theorem vA {m n:aa} (hm:uj m) (hn:uj n):HP (vq m n):=⟨Cc (DR hm hn),hm.2,hn.2⟩
theorem wy (a b:List aa):(kU a b).length=a.length*b.length:=by
 induction a with
 | nil=>simp [kU]
 | cons m a ih =>
  have e:kU (m::a) b=b.map (vq m)++kU a b:=rfl;rw [e,List.length_append,KW,ih,List.length_cons,Nat.add_mul];omega
theorem AB {a b:List aa} (ha:∀ m∈a,uj m) (hb:∀ m∈b,uj m):∀ c∈kU a b,HP c:=fun c hc=>by obtain ⟨l,hl,hcl⟩:=List.mem_flatten.1 hc;obtain ⟨m,hm,rfl⟩:=List.mem_map.1 hl;obtain ⟨n,hn,rfl⟩:=List.mem_map.1 hcl;exact vA (ha m hm) (hb n hn)
theorem yU (a:List aa) (m:aa) (b:List aa):kU (a++[m]) b=kU a b++b.map (vq m):=by unfold kU;rw [List.map_append,List.flatten_append];simp
theorem Gh {L:List k8} {s:MV×MI×MI} (h:kQ L s.1 s.2.1 s.2.2) (hL:∀ c∈L,HP c) (hn:L.length≤900000) {m n:aa} (hm:uj m) (hn2:uj n) :
 ∃ y,gG m n s.1 s.2.1 s.2.2=some y∧kQ (L++[vq m n]) y.1 y.2.1 y.2.2:=by
 obtain ⟨y,e,hs⟩:=tc (a:=m.Coef) (b:=n.Coef) h hL hn (DR hm hn2);refine ⟨y,?_,hs⟩;unfold gG;have e1:km [m.Vars,n.Vars]=some (m.Vars++n.Vars):=by unfold km;have:=hm.1.1;have:=hn2.1.1;rw [aD ⟨by simp;omega,by simp⟩];simp
 rw [e1];simp only [ak];rw [e];rfl
theorem Fl {L:List k8} {s:MV×MI×MI} (h:kQ L s.1 s.2.1 s.2.2) (hL:∀ c∈L,HP c) {a b:List aa} (ha:Ki a) (hb:Ki b) (hn:L.length≤800000) :
 ∃ y,bY a b s.1 s.2.1 s.2.2=some y∧kQ (L++kU a b) y.1 y.2.1 y.2.2:=by
 unfold bY;have hta:∀ j,∀ m∈a.take j,uj m:=fun j m hm=>ha.2 m (List.mem_of_mem_take hm);have hlen:∀ j,(kU (a.take j) b).length≤3600:=fun j=>by
  rw [wy,List.length_take];have h1:min j a.length≤60:=by have:=ha.1;omega
  exact Nat.le_trans (Nat.mul_le_mul h1 hb.1) (by decide)
 obtain ⟨s',e,hI⟩:=jv (ρ:=MV×MI×MI) (σ:=MV×MI×MI) (ε:=MV×MI×MI) (body:=fun i303 s302 =>
  (cY (σ:=MV×MI×MI) (ε:=MV×MI×MI) (ρ:=Empty) (fun i341 s340 =>
   (gG (aa.mk ((a.getD i303 ⟨0,[]⟩).Coef) ((a.getD i303 ⟨0,[]⟩).Vars)) (aa.mk ((b.getD i341 ⟨0,[]⟩).Coef) ((b.getD i341 ⟨0,[]⟩).Vars)) s340.1 s340.2.1 s340.2.2).bind fun y366 =>
   some (.go (y366.1,y366.2.1,y366.2.2))
  ) (fun i341 s340=>(s340.1,s340.2.1,s340.2.2)) (b.length-0) 0 (s302.1,s302.2.1,s302.2.2)).bind <| gu fun u374 =>
  some (.go (u374.1,u374.2.1,u374.2.2))) (fin:=fun i303 s302=>(s302.1,s302.2.1,s302.2.2))
  (fun j s=>kQ (L++kU (a.take j) b) s.1 s.2.1 s.2.2) (a.length-0) 0 (s.1,s.2.1,s.2.2) (by simpa [kU] using h) (fun j s _ hj hI=>by
   obtain ⟨s2,e2,hI2⟩:=jv (ρ:=Empty) (σ:=MV×MI×MI) (ε:=MV×MI×MI) (body:=fun i341 s340 =>
    (gG (aa.mk ((a.getD j ⟨0,[]⟩).Coef) ((a.getD j ⟨0,[]⟩).Vars)) (aa.mk ((b.getD i341 ⟨0,[]⟩).Coef) ((b.getD i341 ⟨0,[]⟩).Vars)) s340.1 s340.2.1 s340.2.2).bind fun y366 =>
    some (.go (y366.1,y366.2.1,y366.2.2))) (fin:=fun i341 s340=>(s340.1,s340.2.1,s340.2.2))
    (fun k s=>kQ (L++kU (a.take j) b++(b.take k).map (vq (bg a j))) s.1 s.2.1 s.2.2) (b.length-0) 0 (s.1,s.2.1,s.2.2) (by simpa using hI) (fun k s _ hk hI3=>by
     have hLL:∀ c∈L++kU (a.take j) b++(b.take k).map (vq (bg a j)),HP c:=fun c hc=>by
      rcases List.mem_append.1 hc with hc | hc
      ·rcases List.mem_append.1 hc with hc | hc
       ·exact hL c hc
       ·exact AB (hta j) hb.2 c hc
      ·obtain ⟨n,hn3,rfl⟩:=List.mem_map.1 hc;exact vA (ha.2 _ (ed (by omega))) (hb.2 n (List.mem_of_mem_take hn3))
     obtain ⟨y,e3,hs⟩:=Gh (m:=bg a j) (n:=bg b k) hI3 hLL (by
      have h1:=hlen j;have h2:=hb.1;simp only [List.length_append,KW,List.length_take];omega) (ha.2 _ (ed (by omega))) (hb.2 _ (ed (by omega)))
     refine ⟨(y.1,y.2.1,y.2.2),?_,?_⟩
     ·show (gG (bg a j) (bg b k) s.1 s.2.1 s.2.2).bind _=_;rw [e3];rfl
     ·rw [zG b k (by omega),List.map_append,← List.append_assoc];exact hs)
   refine ⟨(s2.1,s2.2.1,s2.2.2),?_,?_⟩
   ·rw [e2];rfl
   ·rw [Nat.zero_add,Nat.sub_zero,List.take_length] at hI2;rw [zG a j (by omega),yU,← List.append_assoc];exact hI2)
 refine ⟨s',?_,?_⟩
 ·rw [e];rfl
 ·rw [Nat.zero_add,Nat.sub_zero,List.take_length] at hI;exact hI
theorem uP {a b:List aa} (ha:Ki a) (hb:Ki b):∃ p,bH (aL (kU a b)) p∧Bd p∧kc a b=some (limited p):=by
 obtain ⟨y,e,hs⟩:=Fl (s:=([],[],[])) kQ.nil (fun c hc=>(by cases hc)) ha hb (by simp);rw [List.nil_append] at hs;obtain ⟨p,h1,h2,h3⟩:=oM hs (AB ha.2 hb.2) (by
  rw [wy];exact Nat.le_trans (Nat.mul_le_mul ha.1 hb.1) (by decide))
 refine ⟨p,h1,h2,?_⟩;unfold kc;rw [show dT=some ([],[],[]) from rfl];simp only [ak];rw [show bY a b [] [] []=some y from e];simp only [ak];rw [h3];rfl
theorem uQ {a b:List aa} (ha:Bd a) (hb:Bd b):(bC a=true→bC b=true→∃ p,bH (aL (kU a b)) p∧Bd p∧lz a b=some (limited p))∧(bC a=false∨bC b=false→lz a b=some ([],1)):=by
 unfold lz;rw [nz a ha,nz b hb];refine ⟨fun h1 h2 => ?_,fun h => ?_⟩
 ·obtain ⟨p,k1,k2,k3⟩:=uP (lq h1) (lq h2);refine ⟨p,k1,k2,?_⟩;rw [h1,h2];simp only [ak,cond_true];rw [k3];rfl
 ·cases hv:bC a with
  | false=>rfl
  | true =>
   rcases h with h | h
   ·rw [hv] at h;cases h
   ·rw [h];rfl
theorem zi {p:List aa} {j:Nat} (hj:j<p.length):bg p j=p[j]:=by unfold bg;rw [KO,KP hj];rfl
theorem Hf {V:List ai} (h:v8 V=true):V.Pairwise (fun a b=>pN a b=true):=by
 have key:∀ j i,i<j→j<V.length→pN (V.getD i []) (V.getD j [])=true:=by
  intro j;induction j with
  | zero=>intro i h1;omega
  | succ j ih =>
   intro i h1 h2;unfold v8 at h;have hs:=K5.1 h (j+1) (by rw [List.mem_range'_1];omega);have hadj:pN (V.getD j []) (V.getD (j+1) [])=true:=by simp only [pN,decide_eq_true_eq];rw [← List.not_lt,sR];simpa [KO] using hs
   by_cases e:i=j
   ·subst e;exact hadj
   ·exact qM _ _ _ (ih i (by omega) (by omega)) hadj
 rw [List.pairwise_iff_getElem];intro i j hi hj hij;have:=key j i hij hj;simpa [KO,KP hi,KP hj] using this
theorem zc {p:List aa} (h:bC p=true) {m:aa} (hm:m∈p):m.Vars.Pairwise (fun a b=>pN a b=true):=by have:=lI h hm;unfold F7 at this;simp only [KQ] at this;exact Hf this.2.2.2.2.1
theorem Ko {p:List aa} (h:p.Pairwise (yp aa.Vars)) {m n:aa} (hm:m∈p) (hn:n∈p) (e:m.Vars=n.Vars):m=n:=by
 obtain ⟨i,hi,rfl⟩:=List.getElem_of_mem hm;obtain ⟨j,hj,rfl⟩:=List.getElem_of_mem hn;rw [List.pairwise_iff_getElem] at h;have no:∀ {i j:Nat} (hi:i<p.length) (hj:j<p.length),i<j→p[i].Vars=p[j].Vars→False:=fun hi hj hij e=>by have:=h _ _ hi hj hij;unfold yp at this;rw [e,iK] at this;omega
 rcases Nat.lt_trichotomy i j with h1 | h1 | h1
 ·exact (no hi hj h1 e).elim
 ·subst h1;rfl
 ·exact (no hj hi h1 e.symm).elim
theorem oD {V:List ai}:∀ {L:List k8},(∀ c∈L,c.1≠V)→aL L V=0
 | [],_=>rfl
 | c::L,h=>by simp only [aL,if_neg (h c (by simp)),oD (L:=L) fun c' hc=>h c' (by simp [hc])];rfl
theorem EY {p:List aa} {f:List ai→Int} (h:bH f p) (hf:∀ V,f V=0):p=[]:=by
 cases p with
 | nil=>rfl
 | cons m p =>
  have:=(h.mem m).1 (by simp);rw [hf] at this;exact absurd this.2 this.1
theorem qm {n:Int} (h:n=0∨n=1):∃ p,bH (aL [([],n,1)]) p∧eO n=some (limited p):=by
 have hin:db n=true:=by rcases h with rfl | rfl<;>rfl
 have h0:Dd []:=⟨by simp,fun v hv=>by cases hv⟩;obtain ⟨y,e,hs⟩:=tc (a:=n) (b:=1) kQ.nil (fun c hc=>(by cases hc)) (by simp) h0;rw [List.nil_append] at hs;obtain ⟨p,k1,_,k3⟩:=oM hs (fun c hc=>by
  have:c=(bK [],n,1):=by simpa using hc
  rw [this];exact ⟨h0,hin,rfl⟩) (by simp)
 refine ⟨p,k1,?_⟩;unfold eO;rw [show dT=some ([],[],[]) from rfl];simp only [ak];rw [KU (by omega),KU (by omega)];simp only [cond_false];rw [e];simp only [ak];rw [k3];rfl
theorem vV (V:List ai):fM V V=some true:=by
 unfold fM;rw [show ((((V.length:Nat):Int)==((V.length:Nat):Int)))=true by simp];simp only [cond_true];rw [dO (r:=false) (fun _=>true) _ _ () (fun j u _ hj=>by rw [aD (by omega)];simp)]
 have:(List.range' 0 (V.length-0)).all (fun _=>true)=true:=by simp
 rw [this];rfl
theorem Cu (p:List aa):kf p p=some true:=by
 unfold kf;rw [show ((((p.length:Nat):Int)==((p.length:Nat):Int)))=true by simp];simp only [cond_true];rw [dO (r:=false) (fun _=>true) _ _ () (fun j u _ hj=>by rw [aD (by omega),vV];simp)]
 have:(List.range' 0 (p.length-0)).all (fun _=>true)=true:=by simp
 rw [this];rfl
def kC (g:List ai→Int):List k8→Int
 | []=>0
 | c::L=>c.2.1*c.2.2*g c.1+kC g L
def jg (g:List ai→Int):List aa→Int
 | []=>0
 | m::p=>m.Coef*g m.Vars+jg g p
theorem mQ (g:List ai→Int):∀ L M,kC g (L++M)=kC g L+kC g M
 | [],M=>by simp [kC]
 | c::L,M=>by simp only [List.cons_append,kC,mQ g L M];omega
theorem xN (g:List ai→Int) (V:List ai):∀ M,kC g M=aL M V*g V+kC g (M.filter fun c=>decide (c.1≠V))
 | []=>by simp [kC,aL]
 | c::M=>by
  have ih:=xN g V M;by_cases h:c.1=V
  ·have e:((c::M).filter fun c=>decide (c.1≠V))=M.filter fun c=>decide (c.1≠V):=by simp [h]
   rw [e];simp only [kC,aL,ih,h,if_true,Int.add_mul];omega
  ·have e:((c::M).filter fun c=>decide (c.1≠V))=c::M.filter fun c=>decide (c.1≠V):=by simp [h]
   rw [e];simp only [kC,aL,if_neg h,ih,Int.zero_add];omega
theorem s5 (V W:List ai):∀ M,aL (M.filter fun c=>decide (c.1≠V)) W=if W=V then 0 else aL M W
 | []=>by simp [aL]
 | c::M=>by
  have ih:=s5 V W M;by_cases h:c.1=V
  ·have e:((c::M).filter fun c=>decide (c.1≠V))=M.filter fun c=>decide (c.1≠V):=by simp [h]
   rw [e,ih];by_cases hw:W=V
   ·rw [if_pos hw,if_pos hw]
   ·have:¬ c.1=W:=fun k=>hw (by rw [← k,h]);rw [if_neg hw,if_neg hw];simp [aL,this]
  ·have e:((c::M).filter fun c=>decide (c.1≠V))=c::M.filter fun c=>decide (c.1≠V):=by simp [h]
   rw [e];simp only [aL,ih];by_cases hw:W=V
   ·have:¬ c.1=W:=fun k=>h (by rw [k,hw]);rw [if_pos hw,if_pos hw,if_neg this];rfl
   ·rw [if_neg hw,if_neg hw]
theorem zd (g:List ai→Int):∀ (n:Nat) (M:List k8),M.length≤n→(∀ V,aL M V=0)→kC g M=0
 | _,[],_,_=>rfl
 | 0,c::M,h,_=>by simp at h
 | n+1,c::M,h,hz=>by
  rw [xN g c.1 (c::M),hz,Int.zero_mul,Int.zero_add];refine zd g n _ ?_ fun V => ?_
  ·have e:((c::M).filter fun x=>decide (x.1≠c.1))=M.filter fun x=>decide (x.1≠c.1):=by simp
   rw [e];have:=List.length_filter_le (fun x:k8=>decide (x.1≠c.1)) M;simp only [List.length_cons] at h;omega
  ·rw [s5];split
   ·rfl
   ·exact hz V
def zv (k:Int) (m:aa):k8:=(m.Vars,m.Coef,k)
theorem A1 (g:List ai→Int) (k:Int):∀ p:List aa,kC g (p.map (zv k))=k*jg g p
 | []=>by simp [kC,jg]
 | m::p=>by simp only [List.map_cons,kC,jg,A1 g k p,zv,Int.mul_add,Int.mul_comm,Int.mul_left_comm]
theorem Io {f:List ai→Int} {p:List aa} (h:bH f p) (k:Int) (V:List ai):aL (p.map (zv k)) V=f V*k:=by
 by_cases hz:f V=0
 ·rw [hz,Int.zero_mul];refine oD fun c hc e => ?_;obtain ⟨m,hm,rfl⟩:=List.mem_map.1 hc;have h2:=(h.mem m).1 hm;have e:m.Vars=V:=e;rw [e,hz] at h2;exact h2.1 h2.2
 ·have hm:(⟨f V,V⟩:aa)∈p:=(h.mem _).2 ⟨hz,rfl⟩;have hu:∀ n∈p,n.Vars=V→n=⟨f V,V⟩:=fun n hn e=>Ko h.st hn hm e;have hnd:=tE h.st;obtain ⟨s,t,rfl⟩:=List.append_of_mem hm;have z:∀ l:List aa,(∀ n∈l,n∈s++⟨f V,V⟩::t∧n≠⟨f V,V⟩)→aL (l.map (zv k)) V=0:=fun l hl=>oD fun c hc e=>by obtain ⟨m,hm,rfl⟩:=List.mem_map.1 hc;exact (hl m hm).2 (hu m (hl m hm).1 e)
  rw [List.nodup_append] at hnd;rw [List.map_append,List.map_cons,kV,z s (fun n hn=>⟨by simp [hn],fun e=>hnd.2.2 n hn _ (by simp) e⟩)];have e2:aL (zv k ⟨f V,V⟩::t.map (zv k)) V=f V*k+aL (t.map (zv k)) V:=by simp [aL,zv]
  rw [e2,z t (fun n hn=>⟨by simp [hn],fun e=>(List.nodup_cons.1 hnd.2.1).1 (by rw [← e];exact hn)⟩)];omega
theorem yQ {L:List k8} {p:List aa} (h:bH (aL L) p) (g:List ai→Int):jg g p=kC g L:=by
 have hz:=zd g _ (L++p.map (zv (-1))) (Nat.le_refl _) fun V=>by rw [kV,Io h];omega
 rw [mQ,A1] at hz;omega
theorem wO (g:List ai→Int) (k:Int):∀ p,jg (fun U=>k*g U) p=k*jg g p
 | []=>by simp [jg]
 | m::p=>by simp only [jg,wO g k p,Int.mul_add,Int.mul_left_comm]
theorem Eu (g:List ai→Int) (m:aa):∀ b:List aa,kC g (b.map (vq m))=m.Coef*jg (fun U=>g (bK (m.Vars++U))) b
 | []=>by simp [kC,jg]
 | n::b=>by simp only [List.map_cons,kC,jg,Eu g m b,vq,Int.mul_add,Int.mul_assoc]
theorem AY (g:List ai→Int) (b:List aa):∀ a:List aa,kC g (kU a b)=jg (fun W=>jg (fun U=>g (bK (W++U))) b) a
 | []=>rfl
 | m::a=>by have e:kU (m::a) b=b.map (vq m)++kU a b:=rfl;rw [e,mQ,Eu,AY g b a];rfl
theorem E1 {p:List aa} (h:(limited p).2=0):bC p=true∧limited p=(p,0):=by
 unfold limited at *;cases hv:bC p with
 | false=>rw [hv] at h;cases h
 | true=>exact ⟨rfl,rfl⟩
theorem CG:bC []=true:=by decide
def qE:List aa:=[⟨1,[]⟩]
theorem Fy {p:List aa} (h:bH (aL [([],1,1)]) p):p=qE:=by
 refine bH.uniq h ⟨by simp [qE],fun m => ?_⟩;unfold qE;rw [List.mem_singleton];obtain ⟨k,V⟩:=m;simp only [aL,aa.mk.injEq];by_cases hV:([]:List ai)=V
 ·rw [if_pos hV];constructor
  ·rintro ⟨rfl,rfl⟩;decide
  ·rintro ⟨_,h⟩;exact ⟨by omega,hV.symm⟩
 ·rw [if_neg hV];constructor
  ·rintro ⟨_,e⟩;exact absurd e.symm hV
  ·rintro ⟨h0,h1⟩;omega
theorem GX:eO 1=some (qE,0)∧eO 0=some ([],0):=by
 constructor
 ·obtain ⟨p,hc,he⟩:=qm (n:=1) (.inr rfl);rw [he,Fy hc];have hv:bC qE=true:=by decide
  unfold limited;rw [hv];rfl
 ·obtain ⟨p,hc,he⟩:=qm (n:=0) (.inl rfl);have:p=[]:=EY hc fun V=>by simp only [aL];split<;>rfl
  rw [he,this];unfold limited;rw [CG];rfl
def kO (m:aa):List aa→List aa
 | []=>[m]
 | x::r=>if 0<cmpL x.Vars m.Vars then m::x::r else if cmpL x.Vars m.Vars=0 then (if x.Coef+m.Coef=0 then r else ⟨x.Coef+m.Coef,x.Vars⟩::r) else x::kO m r
def kR (p:List aa) (m:aa):List aa:=if m.Coef=0 then p else kO m p
theorem ue (m:aa):∀ p,(kO m p).length≤p.length+1
 | []=>by simp [kO]
 | x::r=>by
  unfold kO;have:=ue m r;split
  ·simp
  ·split
   ·split<;>simp;omega
   ·simp;omega
theorem qV (p:List aa) (m:aa):(kR p m).length≤p.length+1:=by
 unfold kR;split
 ·omega
 ·exact ue m p
theorem yI {m n:aa}:∀ {p:List aa},n∈kO m p→n.Vars=m.Vars∨∃ x∈p,x.Vars=n.Vars
 | [],h=>by simp [kO] at h;exact .inl (by rw [h])
 | x::r,h=>by
  unfold kO at h;split at h
  ·rcases List.mem_cons.1 h with rfl | h
   ·exact .inl rfl
   ·exact .inr ⟨n,h,rfl⟩
  ·split at h
   ·split at h
    ·exact .inr ⟨n,by simp [h],rfl⟩
    ·rcases List.mem_cons.1 h with rfl | h
     ·exact .inr ⟨x,by simp,rfl⟩
     ·exact .inr ⟨n,by simp [h],rfl⟩
   ·rcases List.mem_cons.1 h with rfl | h
    ·exact .inr ⟨n,by simp,rfl⟩
    ·rcases yI h with h | ⟨y,hy,e⟩
     ·exact .inl h
     ·exact .inr ⟨y,by simp [hy],e⟩
theorem sd {m:aa}:∀ {p:List aa},p.Pairwise (yp aa.Vars)→(kO m p).Pairwise (yp aa.Vars)
 | [],_=>by simp [kO]
 | x::r,h=>by
  have h2:=List.pairwise_cons.1 h;unfold kO;split
  ·rename_i hgt;have hmx:yp aa.Vars m x:=gM.2 hgt;refine List.pairwise_cons.2 ⟨fun z hz => ?_,h⟩;rcases List.mem_cons.1 hz with rfl | hz
   ·exact hmx
   ·exact iC hmx (h2.1 z hz)
  ·split
   ·split
    ·exact h2.2
    ·exact List.pairwise_cons.2 ⟨fun z hz=>h2.1 z hz,h2.2⟩
   ·rename_i hgt heq;refine List.pairwise_cons.2 ⟨fun z hz => ?_,sd h2.2⟩;show cmpL x.Vars z.Vars<0;rcases yI hz with e | ⟨y,hy,e⟩
    ·rw [e];omega
    ·rw [← e];exact h2.1 y hy
theorem yR {m:aa} (hm:m.Coef≠0) {c:Int}:∀ {p:List aa},p.Pairwise (yp aa.Vars)→(∀ x∈p,x.Coef≠0)→(∀ x∈p,x.Vars=m.Vars→x.Coef=c)→((∀ x∈p,x.Vars≠m.Vars)→c=0) →
 ∀ n,n∈kO m p↔(n.Vars≠m.Vars∧n∈p)∨(n.Vars=m.Vars∧n.Coef=c+m.Coef∧n.Coef≠0)
 | [],_,_,_,h4,n=>by
  have hc:c=0:=h4 fun x hx=>by cases hx
  subst hc;obtain ⟨k,V⟩:=n;obtain ⟨k',V'⟩:=m;simp only [kO,List.mem_singleton,aa.mk.injEq,List.not_mem_nil,and_false,false_or];simp only at hm;constructor
  ·rintro ⟨rfl,rfl⟩;exact ⟨rfl,by omega,hm⟩
  ·rintro ⟨rfl,h,_⟩;exact ⟨by omega,rfl⟩
 | x::r,h,h2,h3,h4,n=>by
  have hp:=List.pairwise_cons.1 h;have hself:cmpL m.Vars m.Vars=0:=iK _;unfold kO;split
  ·rename_i hgt;have hmx:yp aa.Vars m x:=gM.2 hgt;have hne:∀ y∈x::r,y.Vars≠m.Vars:=fun y hy e=>by
    have h5:yp aa.Vars m y:=by
     rcases List.mem_cons.1 hy with rfl | hy
     ·exact hmx
     ·exact iC hmx (hp.1 y hy)
    have h5:cmpL m.Vars y.Vars<0:=h5;rw [e,hself] at h5;omega
   have hc:c=0:=h4 hne;subst hc;rw [List.mem_cons];constructor
   ·rintro (rfl | hn)
    ·exact .inr ⟨rfl,by omega,hm⟩
    ·exact .inl ⟨hne n hn,hn⟩
   ·rintro (⟨_,hn⟩ | ⟨e1,e2,_⟩)
    ·exact .inr hn
    ·refine .inl ?_;obtain ⟨k,V⟩:=n;obtain ⟨k',V'⟩:=m;simp only at e1 e2;rw [e1,e2,Int.zero_add]
  ·split
   ·rename_i hgt heq;have exm:=gY heq;have hc:x.Coef=c:=h3 x (by simp) exm;have hne:∀ y∈r,y.Vars≠m.Vars:=fun y hy e=>by have h5:cmpL x.Vars y.Vars<0:=hp.1 y hy;rw [e,exm,hself] at h5;omega
    split
    ·rename_i hz;constructor
     ·intro hn;exact .inl ⟨hne n hn,by simp [hn]⟩
     ·rintro (⟨e1,hn⟩ | ⟨e1,e2,e3⟩)
      ·rcases List.mem_cons.1 hn with rfl | hn
       ·exact absurd exm e1
       ·exact hn
      ·exfalso;omega
    ·rename_i hz;rw [List.mem_cons];constructor
     ·rintro (rfl | hn)
      ·exact .inr ⟨exm,by simp only;omega,hz⟩
      ·exact .inl ⟨hne n hn,by simp [hn]⟩
     ·rintro (⟨e1,hn⟩ | ⟨e1,e2,e3⟩)
      ·rcases List.mem_cons.1 hn with rfl | hn
       ·exact absurd exm e1
       ·exact .inr hn
      ·refine .inl ?_;obtain ⟨k,V⟩:=n;simp only at e1 e2;rw [e1,e2,exm,hc]
   ·rename_i hgt heq;have hxm:x.Vars≠m.Vars:=fun e=>heq (by rw [e];exact hself);have ih:=yR hm hp.2 (fun y hy=>h2 y (by simp [hy])) (fun y hy=>h3 y (by simp [hy])) (fun hA=>h4 fun y hy=>by
     rcases List.mem_cons.1 hy with rfl | hy
     ·exact hxm
     ·exact hA y hy) n
    rw [List.mem_cons,ih,List.mem_cons];constructor
    ·rintro (rfl | ⟨e1,hn⟩ | e1)
     ·exact .inl ⟨hxm,.inl rfl⟩
     ·exact .inl ⟨e1,.inr hn⟩
     ·exact .inr e1
    ·rintro (⟨e1,rfl | hn⟩ | e1)
     ·exact .inl rfl
     ·exact .inr (.inl ⟨e1,hn⟩)
     ·exact .inr (.inr e1)
theorem yX (V:List ai) (c:k8):aL [c] V=if c.1=V then c.2.1*c.2.2 else 0:=by unfold aL;simp [aL]
theorem oB {L:List k8} {p:List aa} (h:bH (aL L) p) {m:aa} {a b:Int} (e:m.Coef=a*b):bH (aL (L++[(m.Vars,a,b)])) (kR p m):=by
 have hco:∀ V,aL (L++[(m.Vars,a,b)]) V=aL L V+if m.Vars=V then m.Coef else 0:=fun V=>by rw [kV,yX];simp only [e]
 unfold kR;by_cases hz:m.Coef=0
 ·rw [if_pos hz];refine ⟨h.st,fun n => ?_⟩;rw [h.mem,hco,hz];simp
 ·rw [if_neg hz];refine ⟨sd h.st,fun n => ?_⟩;rw [yR hz (c:=aL L m.Vars) h.st (fun x hx=>((h.mem x).1 hx).1) (fun x hx ex=>by rw [((h.mem x).1 hx).2,ex]) (fun hA => ?_) n,h.mem,hco]
  ·constructor
   ·rintro (⟨e1,e2,e3⟩ | ⟨e1,e2,e3⟩)
    ·rw [if_neg (Ne.symm e1)];exact ⟨e2,by omega⟩
    ·rw [if_pos e1.symm,e1];exact ⟨e3,e2⟩
   ·rintro ⟨e2,e3⟩;by_cases e1:n.Vars=m.Vars
    ·rw [if_pos e1.symm,e1] at e3;exact .inr ⟨e1,e3,e2⟩
    ·rw [if_neg (Ne.symm e1)] at e3;exact .inl ⟨e1,e2,by omega⟩
  ·apply Classical.byContradiction;intro hc;exact hA ⟨aL L m.Vars,m.Vars⟩ ((h.mem _).2 ⟨hc,rfl⟩) rfl
def AE (m x:aa) (s:List aa×Bool):List aa×Bool :=
 if s.2=true then (if x.Coef=0 then s.1 else s.1++[x],true)
 else if 0<cmpL x.Vars m.Vars then (if x.Coef=0 then s.1++[m] else s.1++[m]++[x],true)
 else if cmpL x.Vars m.Vars=0 then (if aJ (x.Coef+m.Coef)=0 then s.1 else s.1++[⟨aJ (x.Coef+m.Coef),x.Vars⟩],true)
 else (if x.Coef=0 then s.1 else s.1++[x],false)
theorem II (m x:aa) (s:List aa×Bool):(AE m x s).1.length≤s.1.length+2:=by
 unfold AE;repeat' split
 all_goals simp
theorem nX {m:aa}:∀ {p:List aa},(∀ x∈p,x.Coef≠0)→∀ out,cu (ρ:=Empty) (fun x s=>.go (AE m x s)) (fun s=>s) p (out,true) = .brk (out++p,true)
 | [],_,out=>by simp [cu]
 | x::r,h,out=>by
  have hx:=h x (by simp);have e:AE m x (out,true)=(out++[x],true):=by unfold AE;rw [if_pos rfl,if_neg hx]
  simp only [cu,e];rw [nX (fun y hy=>h y (by simp [hy]))];simp
def Ky (m:aa) (s:List aa×Bool):List aa:=if s.2=true then s.1 else s.1++[m]
theorem zh {m:aa}:∀ {p:List aa},(∀ x∈p,x.Coef≠0)→(∀ x∈p,x.Vars=m.Vars→aJ (x.Coef+m.Coef)=x.Coef+m.Coef)→∀ out,∃ s,cu (ρ:=Empty) (fun x s=>.go (AE m x s)) (fun s=>s) p (out,false) = .brk s∧Ky m s=out++kO m p
 | [],_,_,out=>⟨(out,false),rfl,rfl⟩
 | x::r,h,hw,out=>by
  have hx:=h x (by simp);have hr:∀ y∈r,y.Coef≠0:=fun y hy=>h y (by simp [hy]);unfold kO;by_cases h1:0<cmpL x.Vars m.Vars
  ·have e:AE m x (out,false)=(out++[m]++[x],true):=by unfold AE;rw [if_neg (by simp),if_pos h1,if_neg hx]
   rw [if_pos h1];simp only [cu,e];exact ⟨_,nX hr _,by simp [Ky]⟩
  ·by_cases h2:cmpL x.Vars m.Vars=0
   ·have hw1:=hw x (by simp) (gY h2);rw [if_neg h1,if_pos h2];by_cases h3:x.Coef+m.Coef=0
    ·have e:AE m x (out,false)=(out,true):=by unfold AE;rw [if_neg (by simp),if_neg h1,if_pos h2,hw1,if_pos h3]
     simp only [cu,e];exact ⟨_,nX hr _,by rw [if_pos h3];simp [Ky]⟩
    ·have e:AE m x (out,false)=(out++[⟨x.Coef+m.Coef,x.Vars⟩],true):=by unfold AE;rw [if_neg (by simp),if_neg h1,if_pos h2,hw1,if_neg h3]
     simp only [cu,e];exact ⟨_,nX hr _,by rw [if_neg h3];simp [Ky]⟩
   ·have e:AE m x (out,false)=(out++[x],false):=by unfold AE;rw [if_neg (by simp),if_neg h1,if_neg h2,if_neg hx]
    rw [if_neg h1,if_neg h2];simp only [cu,e];obtain ⟨s,h3,h4⟩:=zh hr (fun y hy=>hw y (by simp [hy])) (out++[x]);exact ⟨s,h3,by rw [h4];simp⟩
theorem j4 {p:List aa} {m:aa} (hB:Bd p) (hm:m.Vars.length≤1000000) (h0:∀ x∈p,x.Coef≠0) (hw:∀ x∈p,x.Vars=m.Vars→aJ (x.Coef+m.Coef)=x.Coef+m.Coef):cK p m=some (kR p m):=by
 unfold cK;have hbody:∀ (j:Nat) (s:List aa×Bool),j<p.length→s.1.length≤2*j →
  ((dz ((p.getD j ⟨0,[]⟩).Vars) m.Vars).bind fun y183 =>
  ((
   bif s.2 then (
    some (true,false)
   ) else (
    some (false,decide (y183>0))
   )
  ):Option (Bool×Bool)).bind fun v186 =>
  ((
   bif v186.2 then (
    cy ((s.1.length+1)*32≤140737488355328) <|
    some ((s.1++[m]),true)
   ) else (
    some (s.1,v186.1)
   )
  ):Option ((List aa)×Bool)).bind fun v199 =>
  ((
   bif v199.2 then (
    some (true,false)
   ) else (
    some (false,(y183==0))
   )
  ):Option (Bool×Bool)).bind fun v210 =>
  ((
   bif v210.2 then (
    some (true,(aJ (((p.getD j ⟨0,[]⟩).Coef)+m.Coef)))
   ) else (
    some (v210.1,((p.getD j ⟨0,[]⟩).Coef))
   )
  ):Option (Bool×Int)).bind fun v219 =>
  ((
   bif (v219.2==0) then (
    some v199.1
   ) else (
    cy ((v199.1.length+1)*32≤140737488355328) <|
    some (v199.1++[(aa.mk v219.2 ((p.getD j ⟨0,[]⟩).Vars))])
   )
  ):Option (List aa)).bind fun v232 =>
  (some (.go (v232,v219.1)):Option (gZ (List aa×Bool) (List aa×Bool) Empty)))=some (.go (AE m (p.getD j ⟨0,[]⟩) s)):=by
  intro j s hj hI;have hpl:=hB.1;have hxm:=hB.2 _ (ed (p:=p) (j:=j) hj);obtain ⟨r,e,k1,k2⟩:=w6 (bg p j).Vars m.Vars hxm.1 hm;rw [show p.getD j ⟨0,[]⟩=bg p j from rfl,e];generalize bg p j=x at k1 k2 ⊢;obtain ⟨out,put⟩:=s;have hI:out.length≤2*j:=hI;obtain ⟨c,V⟩:=x;have hz:(c==0)=decide (c=0):=rfl;cases put with
  | true =>
   simp only [ak,cond_true,cond_false];unfold AE;rw [if_pos rfl];by_cases h:c=0
   ·rw [beq_iff_eq.2 h,if_pos h];rfl
   ·rw [beq_eq_false_iff_ne.2 h,if_neg h,cond_false,aD (by omega)];rfl
  | false =>
   simp only [ak,cond_false];unfold AE;rw [if_neg (by simp)];simp only at k1 k2;by_cases h1:0<cmpL V m.Vars
   ·rw [KV (show r>0 by omega),if_pos h1];simp only [cond_true];rw [aD (by omega)];simp only [ak,cond_true,cond_false];by_cases h:c=0
    ·rw [beq_iff_eq.2 h,if_pos h];rfl
    ·rw [beq_eq_false_iff_ne.2 h,if_neg h,cond_false,aD (by simp;omega)];rfl
   ·rw [KU (show ¬ r>0 by omega),if_neg h1];simp only [ak,cond_false];by_cases h2:cmpL V m.Vars=0
    ·rw [beq_iff_eq.2 (k2.2 h2),if_pos h2];simp only [ak,cond_true];by_cases h:aJ (c+m.Coef)=0
     ·rw [beq_iff_eq.2 h,if_pos h];rfl
     ·rw [beq_eq_false_iff_ne.2 h,if_neg h,cond_false,aD (by omega)];rfl
    ·rw [beq_eq_false_iff_ne.2 (fun e=>h2 (k2.1 e)),if_neg h2];simp only [ak,cond_false];by_cases h:c=0
     ·rw [beq_iff_eq.2 h,if_pos h];rfl
     ·rw [beq_eq_false_iff_ne.2 h,if_neg h,cond_false,aD (by omega)];rfl
 rw [jO (f:=fun s=>s) ⟨0,[]⟩ p (fun x s=>.go (AE m x s)) (fun j s=>s.1.length≤2*j) (fun i s=>rfl) ([],(m.Coef==0)) (by simp) (fun j s hj hI=>⟨hbody j s hj hI,fun s' hs=>by cases hs;have:=II m (p.getD j ⟨0,[]⟩) s;omega⟩)]
 unfold kR;by_cases hz:m.Coef=0
 ·rw [beq_iff_eq.2 hz,if_pos hz,nX h0];rfl
 ·rw [beq_eq_false_iff_ne.2 hz,if_neg hz];obtain ⟨s,h1,h2⟩:=zh h0 hw [];rw [h1];show (bif s.2 then some s.1 else cy ((s.1.length+1)*32≤140737488355328) <| some (s.1++[m]))=_;unfold Ky at h2;rw [List.nil_append] at h2;cases h3:s.2 with
  | true=>rw [h3,if_pos rfl] at h2;rw [← h2];rfl
  | false =>
   rw [h3,if_neg (by simp)] at h2;have h4:=ue m p;rw [← h2] at h4 ⊢;have:=hB.1;simp only [List.length_append,List.length_singleton] at h4;rw [cond_false,aD (by omega)]
theorem E8 {p:List aa} (h:bC p=true) {m:aa} (hm:m∈p) : -1099511627776≤m.Coef∧m.Coef≤1099511627776:=by have:=lI h hm;unfold F7 at this;simp only [KQ,decide_eq_true_eq,Bool.not_eq_true',beq_eq_false_iff_ne] at this;exact ⟨this.2.1,this.2.2.1⟩
theorem jG {p:List aa} (hB:Bd p):dv p=some (limited p):=by unfold dv limited;rw [dY p hB];cases bC p<;>rfl
theorem EA {f:List ai→Int} {p:List aa} (h:bH f p) {V:List ai} (hb:f V < -1099511627776∨1099511627776<f V):limited p=([],3):=by
 unfold limited;cases hv:bC p with
 | false=>rfl
 | true =>
  exfalso;have hm:(⟨f V,V⟩:aa)∈p:=(h.mem _).2 ⟨by show f V≠0;omega,rfl⟩;have:=E8 hv hm;simp only at this;omega
theorem uz {B:Int} (V:List ai):∀ {L:List k8},0≤B→(∀ c∈L,-B≤c.2.1*c.2.2∧c.2.1*c.2.2≤B) → -((L.length:Int)*B)≤aL L V∧aL L V≤(L.length:Int)*B
 | [],_,_=>by simp [aL]
 | c::L,h0,h=>by
  have ih:=uz V (L:=L) h0 fun c hc=>h c (by simp [hc]);have hc:=h c (by simp);have e:(((c::L).length:Nat):Int)*B=(L.length:Int)*B+B:=by rw [List.length_cons,Int.natCast_add,Int.add_mul];simp
  rw [e];generalize (L.length:Int)*B=X at ih ⊢;unfold aL;split<;>omega
theorem oh {L:List k8} {p:List aa} (h:bH (aL L) p) {m:aa} (hm:m∈p):∃ c∈L,c.1=m.Vars:=by have:=(h.mem m).1 hm;exact yZ (by rw [← this.2];exact this.1)
def KI (V:List ai):Prop:=V.length≤1000000∧∀ v∈V,v.length≤1000000
theorem qg {L:List k8} {p:List aa} (h:bH (aL L) p) (hl:p.length≤1000000) (hL:∀ c∈L,KI c.1):Bd p:=⟨hl,fun m hm=>by obtain ⟨c,hc,e⟩:=oh h hm;have:=hL c hc;rw [e] at this;exact this⟩
end Go.Proofs.YtjfpcjnopbfekaaGreatDoor
namespace Go.Sh
theorem B1 {σ ε ρ:Type} {body:Nat→σ→Option (gZ σ ε ρ)} {fin:Nat→σ→ε} (I:Nat→σ→Prop) (r:ρ) (Bad:Prop):∀ (k i:Nat) (s:σ),I i s →
 (∀ j s,i≤j→j<i+k→I j s→(∃ s',body j s=some (.go s')∧I (j+1) s')∨(body j s=some (.ret r)∧Bad)) →
 (∃ s',cY body fin k i s=some (.brk (fin (i+k) s'))∧I (i+k) s')∨(cY body fin k i s=some (.ret r)∧Bad)
 | 0,i,s,hI,h=>.inl ⟨s,by simp [cY],hI⟩
 | k+1,i,s,hI,h=>by
  rcases h i s (Nat.le_refl _) (by omega) hI with ⟨s1,h1,h2⟩ | ⟨h1,h2⟩
  ·rcases B1 I r Bad k (i+1) s1 h2 (fun j s h1 h2=>h j s (by omega) (by omega)) with ⟨s',e1,e3⟩ | ⟨e1,e2⟩
   ·refine .inl ⟨s',?_,by rw [show i+(k+1)=i+1+k by omega];exact e3⟩;simp only [cY,h1,Option.bind_some,tw];rw [e1,show i+1+k=i+(k+1) by omega]
   ·refine .inr ⟨?_,e2⟩;simp only [cY,h1,Option.bind_some,tw];exact e1
  ·exact .inr ⟨by simp [cY,h1,tw],h2⟩
end Go.Sh
namespace Go.Proofs.YtjfpcjnopbfekaaGreatDoor
open Go.Ab Go.Sh
def Cq (n:Int):Bool:=decide (-1000000≤n)&&decide (n≤1000000)
theorem sW (n:Int):la n=some (Cq n):=by
 unfold la Cq;by_cases h:n ≥ -1000000
 ·rw [KV h];rfl
 ·rw [KU h];rfl
theorem qA (n:Int):iS n=some (Cq n):=by
 unfold iS Cq;by_cases h:n ≥ -1000000
 ·rw [KV h];rfl
 ·rw [KU h];rfl
def nY (l:Linear) (j:Nat):Coef:=l.Terms.getD j ⟨[],0⟩
def jQ (l:Linear) (j:Nat):Bool:=cW (nY l j).Var&&(!((nY l j).C==0)&&(Cq (nY l j).C&&(!decide (((j:Nat):Int)>0)||Op.bytesLess (nY l (j-1)).Var (nY l j).Var)))
def bA (l:Linear):Bool:=(List.range' 0 (l.Terms.length-0)).all (jQ l)&&(Cq l.Const&&decide (l.Terms.length≤12))
theorem BK {j:Nat} (h:0<j) (h2:j≤9223372036854775807):aJ (((j:Nat):Int)-1)=((j-1:Nat):Int):=by rw [CJ (by unfold yL;omega)];omega
theorem Im {l:List Coef} {n:Nat} (h:∀ t∈l,t.Var.length≤n) (j:Nat):(l.getD j ⟨[],0⟩).Var.length≤n:=by
 rw [KO];cases h1:l[j]? with
 | none=>simp
 | some x=>exact h x (List.mem_of_getElem? h1)
theorem iu (l:Linear) (h1:l.Terms.length≤1000000) (h2:∀ t∈l.Terms,t.Var.length≤1000000):bG l=some (bA l):=by
 unfold bG;rw [dO (jQ l) _ _ () (fun j u _ hj=>by
  rw [lH _ (Im h2 j),sW];simp only [jQ,nY,Option.bind_some];cases cW (l.Terms.getD j ⟨[],0⟩).Var
  ·rfl
  ·cases (l.Terms.getD j ⟨[],0⟩).C==0
   ·cases Cq (l.Terms.getD j ⟨[],0⟩).C
    ·rfl
    ·by_cases hp:0<j
     ·rw [KV (show ((j:Nat):Int)>0 by omega),BK hp (by omega)];rw [aD (by omega)];simp only [Int.toNat_natCast,cond_true,cond_false,Bool.not_true,Bool.false_or,Bool.true_and,Bool.not_false];cases Op.bytesLess (l.Terms.getD (j-1) ⟨[],0⟩).Var (l.Terms.getD j ⟨[],0⟩).Var<;>rfl
     ·rw [KU (show ¬ ((j:Nat):Int)>0 by omega)];rfl
   ·rfl),gn,sW]
 unfold bA;cases (List.range' 0 (l.Terms.length-0)).all (jQ l)
 ·rfl
 ·cases Cq l.Const
  ·rfl
  ·simp only [cond_true,Option.bind_some,Bool.true_and,KY];rw [decide_eq_decide];omega
theorem jo (l:Linear):fC l=some (bA l):=by
 unfold fC;rw [qA];unfold bA;by_cases h12:l.Terms.length≤12
 ·rw [KU (show ¬ ((l.Terms.length:Nat):Int)>12 by omega),KV h12];rw [dO (jQ l) _ _ () (fun j u _ hj=>by
   rw [nC,qA];simp only [jQ,nY,Option.bind_some];cases cW (l.Terms.getD j ⟨[],0⟩).Var
   ·rfl
   ·cases (l.Terms.getD j ⟨[],0⟩).C==0
    ·cases Cq (l.Terms.getD j ⟨[],0⟩).C
     ·rfl
     ·by_cases hp:0<j
      ·rw [KV (show ((j:Nat):Int)>0 by omega),BK hp (by omega)];rw [aD (by omega)];simp only [Int.toNat_natCast,cond_true,cond_false,Bool.not_true,Bool.false_or,Bool.true_and,Bool.not_false];cases Op.bytesLess (l.Terms.getD (j-1) ⟨[],0⟩).Var (l.Terms.getD j ⟨[],0⟩).Var<;>rfl
      ·rw [KU (show ¬ ((j:Nat):Int)>0 by omega)];rfl
    ·rfl),gn]
  cases (List.range' 0 (l.Terms.length-0)).all (jQ l)<;>cases Cq l.Const<;>rfl
 ·rw [KV (show ((l.Terms.length:Nat):Int)>12 by omega),KU h12];cases (List.range' 0 (l.Terms.length-0)).all (jQ l)<;>cases Cq l.Const<;>rfl
def zN (l:Linear):Bool:=l.Terms.all (fun t=>decide (t.Var.length≤35))&&decide (l.Terms.length≤14)
theorem JC {a b:Nat}:decide (((a:Nat):Int)>(b:Int)) = !decide (a≤b):=by
 by_cases h:a≤b
 ·rw [KV h,KU (by omega)];rfl
 ·rw [KU h,KV (by omega)];rfl
theorem xa {a b:Nat}:decide (((a:Nat):Int)≤(b:Int))=decide (a≤b):=by rw [decide_eq_decide];omega
theorem rU (l:Linear):fQ l=some (zN l):=by
 unfold fQ;rw [dO (fun j=>(fun (t:Coef)=>decide (t.Var.length≤35)) (l.Terms.getD j ⟨[],0⟩)) _ _ () (fun j u _ _=>by rw [show (35:Int)=((35:Nat):Int) from rfl,JC];simp only;cases decide ((l.Terms.getD j ⟨[],0⟩).Var.length≤35)<;>rfl),gn,Di (fun (t:Coef)=>decide (t.Var.length≤35))]
 unfold zN;rw [show (14:Int)=((14:Nat):Int) from rfl,xa];cases l.Terms.all (fun t=>decide (t.Var.length≤35))<;>rfl
def GS (s:Shape):Bool:=s.Dims.all zN&&(decide (s.Dims.length≤8)&&decide (s.Row.length≤35))
theorem HJ (l:Linear):Linear.mk l.Const l.Terms=l:=rfl
theorem Aj (s:Shape):od s=some (GS s):=by
 unfold od;rw [dO (fun j=>zN (s.Dims.getD j ⟨0,[]⟩)) _ _ () (fun j u _ _=>by rw [HJ,rU];simp only [Option.bind_some];cases zN (s.Dims.getD j ⟨0,[]⟩)<;>rfl),gn,Di zN]
 unfold GS;rw [show (8:Int)=((8:Nat):Int) from rfl,xa,show (35:Int)=((35:Nat):Int) from rfl,xa];cases s.Dims.all zN
 ·rfl
 ·cases decide (s.Dims.length≤8)<;>rfl
def jH (s:Shape):Bool:=s.Dims.all bA&&(decide (s.Dims.length≤6)&&(s.Row.isEmpty||cW s.Row))
theorem ot (s:ai):(s==[])=s.isEmpty:=by cases s<;>rfl
theorem pV (s:Shape):iQ s=some (jH s):=by
 unfold iQ;rw [dO (fun j=>bA (s.Dims.getD j ⟨0,[]⟩)) _ _ () (fun j u _ _=>by rw [HJ,jo];simp only [Option.bind_some];cases bA (s.Dims.getD j ⟨0,[]⟩)<;>rfl),gn,Di bA]
 unfold jH;rw [show (6:Int)=((6:Nat):Int) from rfl,xa,ot,nC];cases s.Dims.all bA
 ·rfl
 ·cases decide (s.Dims.length≤6)
  ·rfl
  ·cases s.Row.isEmpty<;>rfl
def Je (l:Linear):Prop:=l.Terms.length≤1000000∧∀ t∈l.Terms,t.Var.length≤1000000
def KB (s:Shape):Prop:=s.Row.length≤1000000∧∀ l∈s.Dims,Je l
theorem Ir {l:Linear} (h:zN l=true):Je l:=by simp only [zN,KQ,K5,decide_eq_true_eq] at h;exact ⟨by omega,fun t ht=>by have:=h.1 t ht;omega⟩
theorem Ib {s:Shape} (h:GS s=true):KB s:=by simp only [GS,KQ,K5,decide_eq_true_eq] at h;exact ⟨by omega,fun l hl=>Ir (h.1 l hl)⟩
theorem A3 {ls:List Linear} (h:∀ l∈ls,Je l) (j:Nat):Je (ls.getD j ⟨0,[]⟩):=by
 rw [KO];cases h1:ls[j]? with
 | none=>exact ⟨by simp,fun t ht=>by simp at ht⟩
 | some x=>exact h x (List.mem_of_getElem? h1)
theorem Ah (ls:List Linear) (h:∀ l∈ls,Je l):bp ls=some (!ls.all bA):=by
 unfold bp cG;rw [s8 (f:=fun j=>((j:Nat):Int)) (fun j=>(fun l => !bA l) (ls.getD j ⟨0,[]⟩)) _ _ () (fun j u _ _=>by rw [HJ];unfold jU;rw [iu _ (A3 h j).1 (A3 h j).2];simp only [Option.bind_some];cases bA (ls.getD j ⟨0,[]⟩)<;>rfl)]
 have hf:=qO (fun l => !bA l) ⟨0,[]⟩ ls;have hn:=qS (fun l => !bA l) ls;have e:ls.any (fun l => !bA l) = !ls.all bA:=by simp [List.any_eq_not_all_not]
 rw [e] at hn;generalize (List.range' 0 (ls.length-0)).find? (fun j=>(fun l => !bA l) (ls.getD j ⟨0,[]⟩))=x at hf;cases x with
 | none =>
  simp only at hf;have h1:(!ls.all bA)=false:=hn.1 (by omega);rw [h1];rfl
 | some j =>
  simp only at hf;have h1:(!ls.all bA)=true:=by
   cases hb : !ls.all bA
   ·have:=hn.2 hb;omega
   ·rfl
  rw [h1];simp only [Option.bind_some,Sh.aft];rw [KV (by omega:((j:Nat):Int)≥0)]
theorem pU (s:Shape) (h:KB s):ct s=some (jH s):=by unfold ct jH;rw [ot,Ah _ h.2,lH _ h.1,show (6:Int)=((6:Nat):Int) from rfl,xa];cases s.Row.isEmpty<;>cases cW s.Row<;>cases decide (s.Dims.length≤6)<;>cases s.Dims.all bA<;>rfl
open Go.Sort
theorem wY:bH (aL []) []:=⟨by simp,fun m=>by simp [aL]⟩
theorem FW:Bd []:=⟨by simp,fun m hm=>by cases hm⟩
theorem AH (n:Int):∃ r,eO n=some r∧gN n=some r:=by
 have hc:bH (aL [([],n,1)]) (kR [] ⟨n,[]⟩):=by have:=oB wY (m:=⟨n,[]⟩) (a:=n) (b:=1) (by simp);simpa using this
 have hB:Bd (kR [] ⟨n,[]⟩):=qg hc (by have:=qV [] ⟨n,[]⟩;simp at this;omega) (fun c hc=>by
  have:c=([],n,1):=by simpa using hc
  rw [this];exact ⟨by simp,fun v hv=>by cases hv⟩)
 have href:gN n=some (limited (kR [] ⟨n,[]⟩)):=by unfold gN;rw [j4 FW (by simp) (fun x hx=>by cases hx) (fun x hx=>by cases hx)];simp only [ak];rw [jG hB];rfl
 rw [href];by_cases hs:n < -1099511627776∨1099511627776<n
 ·refine ⟨([],3),?_,?_⟩
  ·unfold eO;rw [show dT=some ([],[],[]) from rfl];simp only [ak];rcases hs with hs | hs
   ·rw [KV (show n<(-1099511627776) by omega)];rfl
   ·rw [KU (show ¬ n<(-1099511627776) by omega),KV (show n>1099511627776 by omega)];rfl
  ·rw [EA hc (V:=[])];rw [yX];simpa using hs
 ·have hin:db n=true:=cE.2 (by omega);have h0:Dd []:=⟨by simp,fun v hv=>by cases hv⟩;obtain ⟨y,e,hs2⟩:=tc (a:=n) (b:=1) kQ.nil (fun c hc=>(by cases hc)) (by simp) h0;rw [List.nil_append] at hs2;obtain ⟨p,k1,_,k3⟩:=oM hs2 (fun c hc=>by
   have:c=(bK [],n,1):=by simpa using hc
   rw [this];exact ⟨h0,hin,rfl⟩) (by simp)
  refine ⟨limited p,?_,by rw [bH.uniq k1 hc]⟩;unfold eO;rw [show dT=some ([],[],[]) from rfl];simp only [ak];rw [KU (by omega),KU (by omega)];simp only [cond_false];rw [e];simp only [ak];rw [k3];rfl
theorem yK {l:Linear} (h:bA l=true):l.Terms.length≤12∧(-1000000≤l.Const∧l.Const≤1000000)∧∀ j,j<l.Terms.length→cW (nY l j).Var=true∧(nY l j).C≠0∧(-1000000≤(nY l j).C∧(nY l j).C≤1000000)∧(0<j→Op.bytesLess (nY l (j-1)).Var (nY l j).Var=true):=by
 unfold bA at h;simp only [KQ,decide_eq_true_eq] at h;obtain ⟨h1,h2,h3⟩:=h;have h2 : -1000000≤l.Const∧l.Const≤1000000:=by simpa [Cq] using h2
 refine ⟨h3,h2,fun j hj => ?_⟩;have:=K5.1 h1 j (by simp only [List.mem_range'_1];omega);unfold jQ Cq at this;simp only [KQ,decide_eq_true_eq,Bool.not_eq_true',beq_eq_false_iff_ne,Bool.or_eq_true,decide_eq_false_iff_not] at this;obtain ⟨g1,g2,g3,g4⟩:=this;exact ⟨g1,g2,g3,fun h0=>g4.resolve_left (by omega)⟩
theorem JQ {l:Linear} (h:bA l=true):∀ j i,i<j→j<l.Terms.length→Op.bytesLess (nY l i).Var (nY l j).Var=true:=by
 obtain ⟨_,_,h3⟩:=yK h;intro j;induction j with
 | zero=>intro i hi;omega
 | succ j ih =>
  intro i hi hj;have h4:=(h3 (j+1) hj).2.2.2 (by omega);rw [Nat.add_sub_cancel] at h4;by_cases e:i=j
  ·rw [e];exact h4
  ·exact wF (ih i (by omega) (by omega)) h4
theorem IZ (l:Linear) (j:Nat) (h:j<l.Terms.length):l.Terms.take (j+1)=l.Terms.take j++[nY l j]:=by rw [List.take_add_one,KP h];simp [nY,KO,KP h]
def Hr (t:Coef):k8:=([t.Var],t.C,1)
theorem D5 {v:ai} (h:cW v=true):Dd [v]:=⟨by simp,fun w hw=>by
 have:w=v:=by simpa using hw
 subst this;have:=Bc h;exact ⟨this.1,by have:=this.2;omega⟩⟩
theorem Gl {l:Linear} (h1:l.Terms.length≤1000000) (h2:∀ t∈l.Terms,t.Var.length≤1000000) (hv:bA l=true):∃ p,bH (aL (([([],l.Const,1)]:List k8)++l.Terms.map Hr)) p∧Bd p∧mI l=some (limited p)∧lX l=some (limited p):=by
 unfold mI lX;rw [iu l h1 h2,jo l,hv];obtain ⟨v1,v2,v3⟩:=yK hv;simp only [ak,cond_true];rw [show dT=some ([],[],[]) from rfl];simp only [ak];have h0:Dd []:=⟨by simp,fun v hv=>by cases hv⟩;have hinC:db l.Const=true:=cE.2 (by omega);obtain ⟨y,e,hs2⟩:=tc (a:=l.Const) (b:=1) kQ.nil (fun c hc=>(by cases hc)) (by simp) h0;rw [List.nil_append] at hs2;rw [e];simp only [ak];have hokc:∀ j,∀ c∈([([],l.Const,1)]:List k8)++(l.Terms.take j).map Hr,HP c:=fun j c hc=>by
  rcases List.mem_append.1 hc with hc | hc
  ·have:c=([],l.Const,1):=by simpa using hc
   rw [this];exact ⟨h0,hinC,rfl⟩
  ·obtain ⟨t,ht,rfl⟩:=List.mem_map.1 hc;obtain ⟨i,hi,rfl⟩:=List.getElem_of_mem (List.mem_of_mem_take ht);have h5:=v3 i hi;have e5:nY l i=l.Terms[i]:=by simp [nY,KO,KP hi]
   rw [e5] at h5;exact ⟨D5 h5.1,cE.2 (by have:=h5.2.2.1;show _≤l.Terms[i].C∧l.Terms[i].C≤_;omega),rfl⟩
 obtain ⟨s,e2,hI⟩:=jv (ρ:=Empty) (σ:=MI×MI×MV) (ε:=MI×MI×MV) (body:=fun i37 s36 =>
  (du [((l.Terms.getD i37 ⟨[],0⟩).Var)] ((l.Terms.getD i37 ⟨[],0⟩).C) 1 s36.2.2 s36.1 s36.2.1).bind fun y62 =>
  some (.go (y62.2.1,y62.2.2,y62.1))) (fin:=fun i37 s36=>(s36.1,s36.2.1,s36.2.2))
  (fun j s=>kQ (([([],l.Const,1)]:List k8)++(l.Terms.take j).map Hr) s.2.2 s.1 s.2.1) (l.Terms.length-0) 0 (y.2.1,y.2.2,y.1) (by rw [List.take_zero,List.map_nil,List.append_nil];exact hs2) (fun j s _ hj hI=>by
   have hjl:j<l.Terms.length:=by omega
   have h5:=v3 j hjl;obtain ⟨z,e3,hz⟩:=tc (a:=(nY l j).C) (b:=1) hI (hokc j) (by simp only [List.length_append,KW,List.length_take,List.length_singleton];omega) (D5 h5.1);refine ⟨(z.2.1,z.2.2,z.1),?_,?_⟩
   ·show (du [(nY l j).Var] (nY l j).C 1 s.2.2 s.1 s.2.1).bind _=_;rw [e3];rfl
   ·rw [IZ l j hjl,List.map_append,← List.append_assoc];exact hz)
 rw [Nat.zero_add,Nat.sub_zero,List.take_length] at hI;rw [e2];simp only [ak,gu];have hokA:=hokc l.Terms.length;rw [List.take_length] at hokA;obtain ⟨p,k1,k2,k3⟩:=oM hI hokA (by simp only [List.length_append,KW,List.length_singleton];omega);rw [k3];refine ⟨p,k1,k2,rfl,?_⟩;have hc0:bH (aL [([],l.Const,1)]) (kR [] ⟨l.Const,[]⟩):=by have:=oB wY (m:=⟨l.Const,[]⟩) (a:=l.Const) (b:=1) (by simp);simpa using this
 have hl0:(kR [] ⟨l.Const,[]⟩).length≤1:=by have:=qV [] ⟨l.Const,[]⟩;simpa using this
 have hbdc:∀ j,∀ c∈([([],l.Const,1)]:List k8)++(l.Terms.take j).map Hr,KI c.1:=fun j c hc=>by have:=(hokc j c hc).1;exact ⟨by have:=this.1;omega,fun v hv=>by have:=(this.2 v hv).2;omega⟩
 rw [j4 FW (by simp) (fun x hx=>by cases hx) (fun x hx=>by cases hx)];simp only [ak];obtain ⟨q,e4,hQ,hql⟩:=jv (ρ:=Empty) (σ:=List aa) (ε:=List aa) (body:=fun i32 s31 =>
  (cK s31 (aa.mk ((l.Terms.getD i32 ⟨[],0⟩).C) [((l.Terms.getD i32 ⟨[],0⟩).Var)])).bind fun y57 =>
  some (.go y57)) (fin:=fun i32 s31=>s31)
  (fun j s=>bH (aL (([([],l.Const,1)]:List k8)++(l.Terms.take j).map Hr)) s∧s.length≤1+j) (l.Terms.length-0) 0 (kR [] ⟨l.Const,[]⟩) (by
   simp only [List.take_zero,List.map_nil,List.append_nil];exact ⟨hc0,by omega⟩) (fun j s _ hj ⟨hI,hl⟩=>by
   have hjl:j<l.Terms.length:=by omega
   have h5:=v3 j hjl;have e1:cK s ⟨(nY l j).C,[(nY l j).Var]⟩=some (kR s ⟨(nY l j).C,[(nY l j).Var]⟩):=by
    refine j4 (qg hI (by omega) (hbdc j)) (by simp) (fun x hx=>((hI.mem x).1 hx).1) fun x hx ex => ?_;exfalso;obtain ⟨c,hc,e⟩:=oh hI hx;have ex:x.Vars=[(nY l j).Var]:=ex;rw [ex] at e;rcases List.mem_append.1 hc with hc | hc
    ·have:c=([],l.Const,1):=by simpa using hc
     rw [this] at e;cases e
    ·obtain ⟨t,ht,rfl⟩:=List.mem_map.1 hc;obtain ⟨i,hi,rfl⟩:=List.getElem_of_mem ht;rw [List.getElem_take] at e;have hi2:i<j:=by simp at hi;omega
     have hlt:=JQ hv j i hi2 hjl;have e5:nY l i=l.Terms[i]'(by omega):=by simp [nY,KO,KP (show i<l.Terms.length by omega)]
     have e6:(l.Terms[i]'(by omega)).Var=(nY l j).Var:=(List.cons.inj e).1;rw [e5,e6,iP] at hlt;cases hlt
   refine ⟨kR s ⟨(nY l j).C,[(nY l j).Var]⟩,?_,?_,?_⟩
   ·show (cK s ⟨(nY l j).C,[(nY l j).Var]⟩).bind _=_;rw [e1];rfl
   ·rw [IZ l j hjl,List.map_append,← List.append_assoc];exact oB hI (m:=⟨(nY l j).C,[(nY l j).Var]⟩) (a:=(nY l j).C) (b:=1) (by simp)
   ·have:=qV s ⟨(nY l j).C,[(nY l j).Var]⟩;omega)
 rw [Nat.zero_add,Nat.sub_zero,List.take_length] at hQ;rw [Nat.zero_add,Nat.sub_zero] at hql;rw [e4];have hB2:=hbdc l.Terms.length;rw [List.take_length] at hB2;show (dv q).bind _=_;rw [jG (qg hQ (by omega) hB2),bH.uniq k1 hQ];rfl
theorem Jz (x y:ai):(Op.bytesLess x y||x==y)=pN x y:=by
 rw [DN];unfold pN;cases h:Op.bytesLess y x with
 | true =>
  have:=(sR y x).2 h;simp [List.not_le.2 this]
 | false =>
  have:¬ y<x:=fun e=>by rw [(sR y x).1 e] at h;cases h
  simp [List.not_lt.1 this]
theorem vx {α:Type} {l:List α} {i:Nat} (h:l.length≤i):l.drop i=[]:=List.drop_eq_nil_of_le h
theorem xX {A B:List ai} (hA:A.Pairwise (fun a b=>pN a b=true)) (hB:B.Pairwise (fun a b=>pN a b=true)) (h1:A.length≤1000) (h2:B.length≤1000):jF A B=some (bK (A++B)):=by
 have hm:List.merge A B pN=bK (A++B):=by rw [← xM];exact (Ay (List.pairwise_merge qM tW A B hA hB) (List.merge_perm_append pN)).symm
 unfold jF;generalize hb:(fun (s186:(List ai)×Int×Int)=>_:(List ai)×Int×Int→Option (gZ ((List ai)×Int×Int) (List ai) Empty))=body;have e0:∀ (out:List ai) (i k:Nat),i≤A.length→k≤B.length→out.length≤i+k→body (out,((i:Nat):Int),((k:Nat):Int))=some (if i<A.length∧(k<B.length→pN (A.getD i []) (B.getD k [])=true) then .go (out++[A.getD i []],((i+1:Nat):Int),((k:Nat):Int)) else if k<B.length then .go (out++[B.getD k []],((i:Nat):Int),((k+1:Nat):Int)) else .brk out):=by
  intro out i k hi hk hl;rw [← hb];have w1:aJ (((i:Nat):Int)+1)=((i+1:Nat):Int):=by rw [av (by omega) (by omega)];omega
  have w2:aJ (((k:Nat):Int)+1)=((k+1:Nat):Int):=by rw [av (by omega) (by omega)];omega
  simp only [w1,w2,Int.toNat_natCast,Jz];by_cases ci:i<A.length
  ·rw [KV (show ((i:Nat):Int)<((A.length:Nat):Int) by omega)];simp only [cond_true,ak,Sh.aft];by_cases ck:k<B.length
   ·rw [beq_eq_false_iff_ne.2 (show ((k:Nat):Int)≠((B.length:Nat):Int) by omega)];simp only [cond_false];rw [aD (by omega),aD (by omega)];simp only [ak];cases hl:pN (A.getD i []) (B.getD k []) with
    | true =>
     rw [if_pos ⟨ci,fun _=>rfl⟩];simp only [cond_true];rw [aD (by omega),aD (by omega)]
    | false =>
     rw [if_neg (fun h=>by have:=h.2 ck;cases this),if_pos ck];simp only [cond_false];rw [aD (by omega),aD (by omega)]
   ·rw [beq_iff_eq.2 (show ((k:Nat):Int)=((B.length:Nat):Int) by omega)];simp only [cond_true,ak];rw [if_pos ⟨ci,fun h=>absurd h ck⟩,aD (by omega),aD (by omega)]
  ·rw [KU (show ¬ ((i:Nat):Int)<((A.length:Nat):Int) by omega),if_neg (fun h=>ci h.1)];simp only [cond_false];by_cases ck:k<B.length
   ·rw [KV (show ((k:Nat):Int)<((B.length:Nat):Int) by omega),if_pos ck];simp only [cond_true,ak,Sh.aft];rw [beq_eq_false_iff_ne.2 (show ((k:Nat):Int)≠((B.length:Nat):Int) by omega)];simp only [cond_false,ak];rw [aD (by omega),aD (by omega)]
   ·rw [KU (show ¬ ((k:Nat):Int)<((B.length:Nat):Int) by omega),if_neg ck];rfl
 have key:∀ (n i k fuel:Nat) (out:List ai),i≤A.length→k≤B.length→(A.length-i)+(B.length-k)=n→out.length≤i+k→n<fuel→xU body fuel (out,((i:Nat):Int),((k:Nat):Int))=some (.brk (out++List.merge (A.drop i) (B.drop k) pN)):=by
  intro n;induction n with
  | zero =>
   intro i k fuel out hi hk hn hl hf;obtain ⟨f,rfl⟩:∃ f,fuel=f+1:=⟨fuel-1,by omega⟩;simp only [xU,e0 out i k hi hk hl];rw [if_neg (by omega),if_neg (by omega),vx (l:=A) (by omega),vx (l:=B) (by omega)];simp [tw]
  | succ n ih =>
   intro i k fuel out hi hk hn hl hf;obtain ⟨f,rfl⟩:∃ f,fuel=f+1:=⟨fuel-1,by omega⟩;simp only [xU,e0 out i k hi hk hl];by_cases ci:i<A.length
   ·have dA:=drop_cons ci;by_cases ck:k<B.length
    ·have dB:=drop_cons ck;by_cases hc:pN (A.getD i []) (B.getD k [])=true
     ·rw [if_pos ⟨ci,fun _=>hc⟩];simp only [ak,tw];rw [ih (i+1) k f _ (by omega) hk (by omega) (by simp;omega) (by omega),dA,dB,List.cons_merge_cons,if_pos hc];simp
     ·rw [if_neg (fun h=>hc (h.2 ck)),if_pos ck];simp only [ak,tw];rw [ih i (k+1) f _ hi (by omega) (by omega) (by simp;omega) (by omega),dA,dB,List.cons_merge_cons,if_neg hc];simp
    ·rw [if_pos ⟨ci,fun h=>absurd h ck⟩];simp only [ak,tw];rw [ih (i+1) k f _ (by omega) hk (by omega) (by simp;omega) (by omega),dA,vx (l:=B) (by omega)];simp
   ·have ck:k<B.length:=by omega
    have dB:=drop_cons ck;rw [if_neg (fun h=>ci h.1),if_pos ck];simp only [ak,tw];rw [ih i (k+1) f _ hi (by omega) (by omega) (by simp;omega) (by omega),dB,vx (l:=A) (by omega)];simp
 have:=key (A.length+B.length) 0 0 4294967296 [] (Nat.zero_le _) (Nat.zero_le _) (by omega) (Nat.zero_le _) (by omega);rw [show ((([]:List ai),0,0):(List ai)×Int×Int)=([],((0:Nat):Int),((0:Nat):Int)) from rfl,this];rw [List.drop_zero,List.drop_zero,hm];rfl
theorem sK (L:List k8) (c:k8) (V:List ai):qH (L++[c]) V=qH L V++(if c.1=V then [c.2.1] else [])∧r7 (L++[c]) V=r7 L V++(if c.1=V then [c.2.2] else []):=by
 unfold qH r7;rw [List.filter_append,List.map_append,List.map_append];by_cases h:c.1=V
 ·simp [h]
 ·simp [h]
theorem Gb {α:Type} {l:List α} (hn:l.Nodup) {i j:Nat} (hi:i<l.length) (hj:j<l.length) (e:l[i]=l[j]):i=j:=by
 have hp:=List.pairwise_iff_getElem.1 hn;rcases Nat.lt_trichotomy i j with h | h | h
 ·exact absurd e (hp i j hi hj h)
 ·exact h
 ·exact absurd e.symm (hp j i hj hi h)
theorem re {α β:Type} {l:List α} (hn:l.Nodup) {n:Nat} (h:n<l.length) (f g:α→β) (hg:∀ W∈l,W≠l[n]→g W=f W):(l.map f).set n (g l[n])=l.map g:=by
 refine List.ext_getElem (by simp) fun i h1 h2 => ?_;have hi:i<l.length:=by simpa using h2
 rw [List.getElem_set,List.getElem_map];by_cases e:n=i
 ·subst e;simp
 ·rw [if_neg e,List.getElem_map];exact (hg _ (List.getElem_mem hi) (fun h3=>e (Gb hn hi h h3).symm)).symm
abbrev S3:=(List (List ai))×(List (List Int))×(List (List Int))
structure HR (L:List k8) (s:S3):Prop where
 nd:s.1.Nodup
 al:∀ c∈L,c.1∈s.1
 sr:∀ V∈s.1,∃ c∈L,c.1=V
 ls:s.2.2=s.1.map (qH L)
 rs:s.2.1=s.1.map (r7 L)
 ln:s.1.length≤L.length
theorem HR.nil:HR [] ([],[],[]):=⟨by simp,fun c hc=>(by cases hc),fun V hV=>(by cases hV),rfl,rfl,Nat.le_refl _⟩
def grown (s:S3) (V:List ai):S3:=if V∈s.1 then s else (s.1++[V],s.2.1++[[]],s.2.2++[[]])
theorem Be {L:List k8} {s:S3} (h:HR L s) (V:List ai):(grown s V).1.Nodup∧V∈(grown s V).1∧(∀ c∈L,c.1∈(grown s V).1)∧(∀ W∈(grown s V).1,W=V∨∃ c∈L,c.1=W)∧(grown s V).2.2=(grown s V).1.map (qH L)∧(grown s V).2.1=(grown s V).1.map (r7 L)∧(grown s V).1.length≤L.length+1:=by
 unfold grown;by_cases hV:V∈s.1
 ·rw [if_pos hV];exact ⟨h.nd,hV,h.al,fun W hW=>.inr (h.sr W hW),h.ls,h.rs,by have:=h.ln;omega⟩
 ·rw [if_neg hV];have hno:∀ c∈L,c.1≠V:=fun c hc e=>hV (by rw [← e];exact h.al c hc);have ea:qH L V=[]:=by unfold qH;rw [List.filter_eq_nil_iff.2 (fun c hc=>by simp [hno c hc])];rfl
  have eb:r7 L V=[]:=by unfold r7;rw [List.filter_eq_nil_iff.2 (fun c hc=>by simp [hno c hc])];rfl
  refine ⟨?_,by simp,fun c hc=>by simp [h.al c hc],fun W hW => ?_,by simp [h.ls,ea],by simp [h.rs,eb],by simp;exact h.ln⟩
  ·rw [List.nodup_append];refine ⟨h.nd,by simp,fun a ha b hb e => ?_⟩;have:b=V:=by simpa using hb
   rw [e,this] at ha;exact hV ha
  ·rcases List.mem_append.1 hW with hW | hW
   ·exact .inr (h.sr W hW)
   ·exact .inl (by simpa using hW)
theorem JI {L:List k8} {s:S3} (h:HR L s) {V:List ai} {n:Nat} (a b:Int) (hn:n<(grown s V).1.length) (hV:(grown s V).1[n]=V) :
 HR (L++[(V,a,b)]) ((grown s V).1,(grown s V).2.1.set n ((grown s V).2.1.getD n []++[b]),(grown s V).2.2.set n ((grown s V).2.2.getD n []++[a])):=by
 obtain ⟨g1,g2,g3,g4,g5,g6,g7⟩:=Be h V;generalize grown s V=t at *;have gl:∀ (f:List ai→List Int),(t.1.map f).getD n []=f V:=fun f=>by simp [KO,KP hn,hV]
 refine ⟨g1,fun c hc => ?_,fun W hW => ?_,?_,?_,by simpa using g7⟩
 ·rcases List.mem_append.1 hc with hc | hc
  ·exact g3 c hc
  ·have:c=(V,a,b):=by simpa using hc
   rw [this];exact g2
 ·rcases g4 W hW with rfl | ⟨c,hc,e⟩
  ·exact ⟨(W,a,b),by simp,rfl⟩
  ·exact ⟨c,by simp [hc],e⟩
 ·show t.2.2.set n _=_;rw [g5,gl];have:=re g1 hn (qH L) (qH (L++[(V,a,b)])) (fun W _ hne=>by rw [(sK L (V,a,b) W).1,if_neg (fun e=>hne (by rw [hV];exact e.symm))];simp)
  rw [hV,(sK L (V,a,b) V).1,if_pos rfl] at this;exact this
 ·show t.2.1.set n _=_;rw [g6,gl];have:=re g1 hn (r7 L) (r7 (L++[(V,a,b)])) (fun W _ hne=>by rw [(sK L (V,a,b) W).2,if_neg (fun e=>hne (by rw [hV];exact e.symm))];simp)
  rw [hV,(sK L (V,a,b) V).2,if_pos rfl] at this;exact this
theorem EW {ls:List (List ai)} {V:List ai} (hl:∀ W∈ls,W.length≤1000000) (hV:V.length≤1000000):∃ u,cY (σ:=Unit) (ε:=Nat) (ρ:=Empty) (fun i2026 s2025 =>
 (dz (ls.getD i2026 []) V).bind fun y2062 =>
 bif (y2062==0) then (
  some (.brk i2026)
 ) else (
  some (.go ())
 )
 ) (fun i2026 s2025=>i2026) (ls.length-0) 0 ()=some (.brk u)∧((V∈ls∧∃ h:u<ls.length,ls[u]=V)∨(V ∉ ls∧u=ls.length)):=by
 have hp:=qW (ρ:=Empty) (body:=fun i2026 s2025 =>
  (dz (ls.getD i2026 []) V).bind fun y2062 =>
  bif (y2062==0) then (
   some (.brk i2026)
  ) else (
   some (.go ())
  )) (fun j=>decide (cmpL (ls.getD j []) V=0)) (ls.length-0) 0 () (fun j u _ hj=>by
  have hm:ls.getD j []∈ls:=by rw [KO,KP (by omega)];exact List.getElem_mem _
  obtain ⟨r,e,k1,k2⟩:=w6 (ls.getD j []) V (hl _ hm) hV;simp only [e,ak];by_cases h:cmpL (ls.getD j []) V=0
  ·rw [beq_iff_eq.2 (k2.2 h),KV h];rfl
  ·rw [beq_eq_false_iff_ne.2 (fun e=>h (k2.1 e)),KU h];rfl)
 rw [uv (fun W:List ai=>decide (cmpL W V=0)) [] ls] at hp;refine ⟨_,hp,?_⟩;have h3:=qS (fun W:List ai=>decide (cmpL W V=0)) ls;by_cases hn:idxOf (fun W:List ai=>decide (cmpL W V=0)) ls<0
 ·right;rw [KV hn];refine ⟨fun hm => ?_,rfl⟩;have h4:=h3.1 hn;rw [List.any_eq_false] at h4;exact h4 V hm (by simp [iK])
 ·left;rw [KU hn];simp only [cond_false];obtain ⟨h5,h6⟩:=tL (fun W:List ai=>decide (cmpL W V=0)) [] ls (by omega);have h7:ls[(idxOf (fun W:List ai=>decide (cmpL W V=0)) ls).toNat]=V:=by rw [KO,KP h5] at h6;simp only [Option.getD_some,decide_eq_true_eq] at h6;exact gY h6
  exact ⟨by rw [← h7];exact List.getElem_mem _,h5,h7⟩
def Bz (m:aa) (b:List aa) (i1834:Nat) (s1833:S3):Option (gZ S3 S3 Empty) :=
 (jF m.Vars ((b.getD i1834 ⟨0,[]⟩).Vars)).bind fun y1981 =>
 (cY (σ:=Unit) (ε:=Nat) (ρ:=Empty) (fun i2026 s2025 =>
  (dz (s1833.1.getD i2026 []) y1981).bind fun y2062 =>
  bif (y2062==0) then (
   some (.brk i2026)
  ) else (
   some (.go ())
  )
 ) (fun i2026 s2025=>i2026) (s1833.1.length-0) 0 ()).bind <| gu fun u2076 =>
 ((
  bif (((u2076:Nat):Int)==((s1833.1.length:Nat):Int)) then (
   cy ((s1833.1.length+1)*24≤140737488355328) <|
   cy ((s1833.2.2.length+1)*24≤140737488355328∧s1833.2.2.length<1000000) <|
   cy ((s1833.2.1.length+1)*24≤140737488355328∧s1833.2.1.length<1000000) <|
   some ((s1833.1++[y1981]),(s1833.2.1++[[]]),(s1833.2.2++[[]]))
  ) else (
   some (s1833.1,s1833.2.1,s1833.2.2)
  )
 ):Option S3).bind fun v2091 =>
 cy (u2076<v2091.2.2.length) <|
 cy (((v2091.2.2.getD u2076 []).length+[(m.Coef)].length)*8≤140737488355328) <|
 cy (u2076<v2091.2.1.length) <|
 cy (((v2091.2.1.getD u2076 []).length+[((b.getD i1834 ⟨0,[]⟩).Coef)].length)*8≤140737488355328) <|
 some (.go (v2091.1,(v2091.2.1.set u2076 ((v2091.2.1.getD u2076 [])++[((b.getD i1834 ⟨0,[]⟩).Coef)])),(v2091.2.2.set u2076 ((v2091.2.2.getD u2076 [])++[m.Coef]))))
theorem E3 {L:List k8} {s:S3} (h:HR L s) (hL:∀ c∈L,HP c) (hn:L.length≤10000) {m:aa} {b:List aa} {j:Nat} (hj:j<b.length) (hm:uj m) (hms:m.Vars.Pairwise (fun a b=>pN a b=true)) (hb:uj (bg b j)) (hbs:(bg b j).Vars.Pairwise (fun a b=>pN a b=true)) :
 ∃ s',Bz m b j s=some (.go s')∧HR (L++[vq m (bg b j)]) s':=by
 unfold Bz;rw [show b.getD j ⟨0,[]⟩=bg b j from rfl,xX hms hbs (by have:=hm.1.1;omega) (by have:=hb.1.1;omega)];simp only [ak];have hok:=vA hm hb;generalize hV:bK (m.Vars++(bg b j).Vars)=V;have hVl:V.length≤1000:=by rw [← hV];exact hok.1.1
 obtain ⟨u,e,hu⟩:=EW (ls:=s.1) (V:=V) (fun W hW=>by obtain ⟨c,hc,e⟩:=h.sr W hW;rw [← e];have:=(hL c hc).1.1;omega) (by omega)
 rw [e];simp only [ak,gu];have hl1:s.2.2.length=s.1.length:=by rw [h.ls,KW]
 have hl2:s.2.1.length=s.1.length:=by rw [h.rs,KW]
 have hln:=h.ln;have hgr:((
  bif (((u:Nat):Int)==((s.1.length:Nat):Int)) then (
   cy ((s.1.length+1)*24≤140737488355328) <|
   cy ((s.2.2.length+1)*24≤140737488355328∧s.2.2.length<1000000) <|
   cy ((s.2.1.length+1)*24≤140737488355328∧s.2.1.length<1000000) <|
   some ((s.1++[V]),(s.2.1++[[]]),(s.2.2++[[]]))
  ) else (
   some (s.1,s.2.1,s.2.2)
  )
 ):Option S3)=some (grown s V)∧∃ h:u<(grown s V).1.length,(grown s V).1[u]=V:=by
  unfold grown;rcases hu with ⟨hm,hlt,hv⟩ | ⟨hm,rfl⟩
  ·rw [beq_eq_false_iff_ne.2 (show ((u:Nat):Int)≠((s.1.length:Nat):Int) by omega)];simp only [if_pos hm];exact ⟨rfl,hlt,hv⟩
  ·rw [beq_iff_eq.2 rfl];simp only [if_neg hm,cond_true];rw [aD (by omega),aD (by omega),aD (by omega)];exact ⟨rfl,by simp,by simp⟩
 obtain ⟨hg1,hg2,hg3⟩:=hgr;rw [hg1];simp only [ak];obtain ⟨q1,q2,q3,q4,q5,q6,q7⟩:=Be h V;have r1:(grown s V).2.2.length=(grown s V).1.length:=by rw [q5,KW]
 have r2:(grown s V).2.1.length=(grown s V).1.length:=by rw [q6,KW]
 have r3:((grown s V).2.2.getD u []).length≤10000:=by rw [q5];simp only [KO,List.getElem?_map,KP hg2,Option.map_some,Option.getD_some];have:=tj L (grown s V).1[u];omega
 have r4:((grown s V).2.1.getD u []).length≤10000:=by rw [q6];simp only [KO,List.getElem?_map,KP hg2,Option.map_some,Option.getD_some];rw [vE];have:=tj L (grown s V).1[u];omega
 rw [aD (by omega),aD (by rw [List.length_singleton];omega),aD (by omega),aD (by rw [List.length_singleton];omega)];refine ⟨_,rfl,?_⟩;have:=JI h (V:=V) m.Coef (bg b j).Coef hg2 hg3;rw [← hV] at this ⊢;exact this
theorem BG {L:List k8} {ls:List (List ai)} (hn:ls.Nodup) (V:List ai):aL (ls.map fun W=>(W,aL L W,(1:Int))) V=if V∈ls then aL L V else 0:=by
 induction ls with
 | nil=>rfl
 | cons W ls ih =>
  rw [List.nodup_cons] at hn;rw [List.map_cons];show (if W=V then aL L W*1 else 0)+aL (ls.map fun W=>(W,aL L W,(1:Int))) V=_;rw [ih hn.2];by_cases h:W=V
  ·subst h;rw [if_pos rfl,if_neg hn.1,if_pos (by simp)];simp
  ·rw [if_neg h];by_cases h2:V∈ls
   ·rw [if_pos h2,if_pos (by simp [h2])];omega
   ·rw [if_neg h2,if_neg (by simp [h2,Ne.symm h])];rfl
theorem bH.congr {f g:List ai→Int} {p:List aa} (h:bH f p) (e:∀ V,f V=g V):bH g p:=⟨h.st,fun m=>by rw [h.mem,e]⟩
theorem GI {a b:List aa} (ha:Bd a) (hb:Bd b):∃ r,lz a b=some r∧gQ a b=some r:=by
 obtain ⟨hgood,hbad⟩:=uQ ha hb;cases hva:bC a with
 | false =>
  refine ⟨([],1),hbad (.inl hva),?_⟩;unfold gQ;rw [dY a ha,hva];rfl
 | true =>
  cases hvb:bC b with
  | false =>
   refine ⟨([],1),hbad (.inr hvb),?_⟩;unfold gQ;rw [dY a ha,hva,dY b hb,hvb];rfl
  | true =>
   obtain ⟨p,h1,hBp,h2⟩:=hgood hva hvb;refine ⟨limited p,h2,?_⟩;have oa:=lq hva;have ob:=lq hvb;have ha60:=oa.1;have hb60:=ob.1;have hcl:∀ i,(kU (a.take i) b).length≤3600:=fun i=>by rw [wy,List.length_take];exact Nat.le_trans (Nat.mul_le_mul (show min i a.length≤60 by omega) hb60) (by decide)
   have hbok:∀ m∈b,uj m:=ob.2;have hok:∀ i,∀ c∈kU (a.take i) b,HP c:=fun i=>AB (fun m hm=>oa.2 m (List.mem_of_mem_take hm)) hbok;unfold gQ;rw [dY a ha,hva,dY b hb,hvb];simp only [ak,cond_true];obtain ⟨s,e,hI⟩:=jv (ρ:=Empty) (σ:=S3) (ε:=S3) (body:=fun i1006 s1005 =>
    (cY (σ:=S3) (ε:=S3) (ρ:=Empty) (fun i1834 s1833=>Bz (bg a i1006) b i1834 s1833) (fun i1834 s1833=>(s1833.1,s1833.2.1,s1833.2.2)) (b.length-0) 0 (s1005.1,s1005.2.1,s1005.2.2)).bind <| gu fun u2119 =>
    some (.go (u2119.1,u2119.2.1,u2119.2.2))) (fin:=fun i1006 s1005=>(s1005.1,s1005.2.1,s1005.2.2))
    (fun i s=>HR (kU (a.take i) b) s) (a.length-0) 0 ([],[],[]) HR.nil (fun i s _ hi hI=>by
    have hia:i<a.length:=by omega
    have hmm:=ed (p:=a) (j:=i) hia;obtain ⟨s2,e2,hI2⟩:=jv (ρ:=Empty) (σ:=S3) (ε:=S3) (body:=fun i1834 s1833=>Bz (bg a i) b i1834 s1833) (fin:=fun i1834 s1833=>(s1833.1,s1833.2.1,s1833.2.2))
     (fun j s=>HR (kU (a.take i) b++(b.take j).map (vq (bg a i))) s) (b.length-0) 0 (s.1,s.2.1,s.2.2) (by simpa using hI) (fun j s _ hj hI=>by
      have hjb:j<b.length:=by omega
      have hmb:=ed (p:=b) (j:=j) hjb;have hc:=hcl i;obtain ⟨s3,k1,k2⟩:=E3 hI (fun c hc=>by
       rcases List.mem_append.1 hc with hc | hc
       ·exact hok i c hc
       ·obtain ⟨n,hn,rfl⟩:=List.mem_map.1 hc;exact vA (oa.2 _ hmm) (ob.2 n (List.mem_of_mem_take hn))) (by
       simp only [List.length_append,KW,List.length_take];omega) hjb (oa.2 _ hmm) (zc hva hmm) (ob.2 _ hmb) (zc hvb hmb)
      refine ⟨s3,k1,?_⟩;rw [zG b j hjb,List.map_append,← List.append_assoc];exact k2)
    rw [Nat.zero_add,Nat.sub_zero,List.take_length] at hI2;refine ⟨(s2.1,s2.2.1,s2.2.2),?_,?_⟩
    ·rw [e2];rfl
    ·rw [zG a i hia,yU];exact hI2)
   rw [Nat.zero_add,Nat.sub_zero,List.take_length] at hI;have hc2:=hcl a.length;have hokL:=hok a.length;rw [List.take_length] at hc2 hokL;show ((cY (σ:=S3) (ε:=S3) (ρ:=Empty) (fun i1006 s1005 =>
    (cY (σ:=S3) (ε:=S3) (ρ:=Empty) (fun i1834 s1833=>Bz (bg a i1006) b i1834 s1833) (fun i1834 s1833=>(s1833.1,s1833.2.1,s1833.2.2)) (b.length-0) 0 (s1005.1,s1005.2.1,s1005.2.2)).bind <| gu fun u2119 =>
    some (.go (u2119.1,u2119.2.1,u2119.2.2))) (fun i1006 s1005=>(s1005.1,s1005.2.1,s1005.2.2)) (a.length-0) 0 ([],[],[])).bind _)=_
   rw [e];generalize hL:kU a b=L at *;simp only [ak,gu];have hll:=hI.ln;have hVok:∀ V∈s.1,Dd V:=fun V hV=>by obtain ⟨c,hc,e⟩:=hI.sr V hV;rw [← e];exact (hokL c hc).1
   have hdot:∀ V,sZ (qH L V) (r7 L V)=qY (aL L V):=fun V=>by
    unfold sZ;have ha2:(qH L V).all db=true:=by rw [K5];intro n hn2;obtain ⟨c,hc,rfl⟩:=List.mem_map.1 hn2;exact (hokL c (List.mem_filter.1 hc).1).2.1
    have hb2:(r7 L V).all db=true:=by rw [K5];intro n hn2;obtain ⟨c,hc,rfl⟩:=List.mem_map.1 hn2;exact (hokL c (List.mem_filter.1 hc).1).2.2
    rw [KV (vE L V).symm,KV (show (qH L V).length≤10000 by have:=tj L V;omega),ha2,hb2,tH];rfl
   have hbdl:∀ j,∀ c∈(s.1.take j).map (fun W=>(W,aL L W,(1:Int))),KI c.1:=fun j c hc=>by obtain ⟨W,hW,rfl⟩:=List.mem_map.1 hc;have:=hVok W (List.mem_of_mem_take hW);exact ⟨by have:=this.1;show W.length≤_;omega,fun v hv=>by have:=(this.2 v hv).2;omega⟩
   rcases B1 (σ:=List aa) (ε:=List aa) (ρ:=List aa×Int) (body:=fun i2173 s2172 =>
    cy (i2173<s.2.2.length) <|
    cy (i2173<s.2.1.length) <|
    (fX (s.2.2.getD i2173 []) (s.2.1.getD i2173 [])).bind fun y2213 =>
    bif (y2213.2==0) then (
     (cK s2172 (aa.mk y2213.1 (s.1.getD i2173 []))).bind fun y2220 =>
     some (.go y2220)
    ) else (
     some (.ret ([],3))
    )) (fin:=fun i2173 s2172=>s2172)
    (fun j q=>bH (aL ((s.1.take j).map fun W=>(W,aL L W,(1:Int)))) q∧q.length≤j) ([],3) (∃ V,db (aL L V)=false) (s.1.length-0) 0 [] ⟨⟨by simp,fun m=>by simp [aL]⟩,Nat.le_refl _⟩ (fun j q _ hj ⟨hQ,hql⟩=>by
    have hjs:j<s.1.length:=by omega
    have g1:s.2.2.getD j []=qH L s.1[j]:=by rw [hI.ls];simp [KO,KP hjs]
    have g2:s.2.1.getD j []=r7 L s.1[j]:=by rw [hI.rs];simp [KO,KP hjs]
    have g3:s.1.getD j []=s.1[j]:=by simp [KO,KP hjs]
    simp only [g1,g2,g3];rw [aD (by rw [hI.ls,KW];exact hjs),aD (by rw [hI.rs,KW];exact hjs),ti,hdot];simp only [ak];have hVm:s.1[j]∈s.1:=List.getElem_mem hjs;cases hin:db (aL L s.1[j]) with
    | false =>
     right;have:qY (aL L s.1[j])=(0,2):=by unfold qY;rw [hin];rfl
     rw [this];exact ⟨rfl,_,hin⟩
    | true =>
     left;rw [td hin];have e1:cK q ⟨aL L s.1[j],s.1[j]⟩=some (kR q ⟨aL L s.1[j],s.1[j]⟩):=by
      refine j4 (qg hQ (by omega) (hbdl j)) (by have:=(hVok _ hVm).1;show s.1[j].length≤_;omega) (fun x hx=>((hQ.mem x).1 hx).1) fun x hx ex => ?_;exfalso;obtain ⟨c,hc,e⟩:=oh hQ hx;obtain ⟨W,hW,rfl⟩:=List.mem_map.1 hc;have e:W=x.Vars:=e;have ex:x.Vars=s.1[j]:=ex;obtain ⟨i,hi,rfl⟩:=List.getElem_of_mem hW;rw [List.getElem_take] at e;have hi2:i<j:=by simp at hi;omega
      have:=Gb hI.nd (by omega) hjs (e.trans ex);omega
     refine ⟨kR q ⟨aL L s.1[j],s.1[j]⟩,?_,?_,?_⟩
     ·show (cK q ⟨aL L s.1[j],s.1[j]⟩).bind _=_;rw [e1];rfl
     ·rw [List.take_add_one,KP hjs,Option.toList_some,List.map_append];exact oB hQ (m:=⟨aL L s.1[j],s.1[j]⟩) (a:=aL L s.1[j]) (b:=1) (by simp)
     ·have:=qV q ⟨aL L s.1[j],s.1[j]⟩;omega) with ⟨q,e3,hQ,hql⟩ | ⟨e3,V,hV⟩
   ·rw [e3];rw [Nat.zero_add,Nat.sub_zero,List.take_length] at hQ;rw [Nat.zero_add,Nat.sub_zero] at hql;show (dv q).bind _=_;have hB2:=hbdl s.1.length;rw [List.take_length] at hB2;rw [jG (qg hQ (by omega) hB2)];have hQ2:bH (aL L) q:=hQ.congr fun V=>by
     rw [BG hI.nd];by_cases hV:V∈s.1
     ·rw [if_pos hV]
     ·rw [if_neg hV,oD (fun c hc e=>hV (by rw [← e];exact hI.al c hc))]
    rw [bH.uniq h1 hQ2];rfl
   ·rw [e3];show some (([],3):List aa×Int)=some (limited p);rw [EA h1 (V:=V)];have:¬ db (aL L V)=true:=by rw [hV];simp
    rw [cE] at this;omega
def gr (m:List (ai×Int)):List ai:=(m.filter fun e => !(e.2==0)).map (·.1)
def tA (n:Int) (m:List (ai×Int)) (names:List ai):Linear×Int :=
 bif bA (Linear.mk n (names.map fun k=>Coef.mk k (bN 0 k m))) then (Linear.mk n (names.map fun k=>Coef.mk k (bN 0 k m)),0) else (Linear.mk 0 [],3)
def mW (m:List (ai×Int)):Bool:=Ai (m.map (·.1))&&(decide (m.length≤1000)&&m.all fun e=>decide (e.1.length≤1000000))
theorem HG (m:List (ai×Int)) (y:List ai) (hy:y.length≤1000000):(cY (σ:=(List Coef)) (ε:=(List Coef)) (ρ:=Empty) (fun i117 s116 =>
 cy ((s116.length+1)*24≤140737488355328) <|
 some (.go (s116++[(Coef.mk (y.getD i117 []) (bN 0 (y.getD i117 []) m))]))
 ) (fun i117 s116=>s116) (y.length-0) 0 [])=some (.brk (y.map fun k=>Coef.mk k (bN 0 k m))):=by
 obtain ⟨s',e1,e2,_⟩:=Ds (fin:=fun _ s=>s) (body:=fun i117 s116 =>
  cy ((s116.length+1)*24≤140737488355328) <|
  some (.go (s116++[(Coef.mk (y.getD i117 []) (bN 0 (y.getD i117 []) m))]))) (ε:=List Coef) (ρ:=Empty) (fun j s=>s++[(fun k=>Coef.mk k (bN 0 k m)) (y.getD j [])]) (fun j s=>s.length=j) (y.length-0) 0 [] rfl (fun j s _ hj hI=>⟨by rw [aD (by omega)],by simp [hI]⟩)
 rw [e1,e2];have:=rN (fun (s:List Coef) (k:ai)=>s++[(fun k=>Coef.mk k (bN 0 k m)) k]) [] y 0 [];rw [this];have gen:∀ (ts:List ai) (s:List Coef),ts.foldl (fun s k=>s++[(fun k=>Coef.mk k (bN 0 k m)) k]) s=s++ts.map (fun k=>Coef.mk k (bN 0 k m)):=by
  intro ts;induction ts with
  | nil=>intro s;simp
  | cons t ts ih=>intro s;simp [ih]
 rw [List.drop_zero,gen];rfl
theorem BI (n:Int) (m:List (ai×Int)) (hm:mW m=true) (s:List ai) (hp:s.Perm (gr m)) :
 ((lU s).bind fun y97 =>
 (cY (σ:=(List Coef)) (ε:=(List Coef)) (ρ:=Empty) (fun i117 s116 =>
  cy ((s116.length+1)*24≤140737488355328) <|
  some (.go (s116++[(Coef.mk (y97.getD i117 []) (bN 0 (y97.getD i117 []) m))]))
 ) (fun i117 s116=>s116) (y97.length-0) 0 []).bind <| gu fun u148 =>
 (bG (Linear.mk n u148)).bind fun y151 =>
 bif y151 then (
  some ((Linear.mk n u148),0)
 ) else (
  some ((Linear.mk 0 []),3)
 ))=some (tA n m (bK (gr m))):=by
 simp only [mW,KQ,decide_eq_true_eq,K5] at hm;obtain ⟨_,hl,hk⟩:=hm;have hlen:(gr m).length≤m.length:=by unfold gr;rw [KW];exact List.length_filter_le _ _
 have hs:s.length≤1000:=by rw [hp.length_eq];omega
 unfold lU;rw [aD (by omega)];simp only [Option.bind_some];rw [Dn hp,xM];have hsi:(bK (gr m)).length≤1000:=by rw [(iB _).length_eq];omega
 rw [HG m _ (by omega)];simp only [Option.bind_some,gu];rw [iu _ (by simp;omega) (fun t ht=>by obtain ⟨k,hk1,rfl⟩:=List.mem_map.1 ht;have hk2:=(iB _).mem_iff.1 hk1;obtain ⟨e,he,rfl⟩:=List.mem_map.1 hk2;exact hk e (List.mem_filter.1 he).1)]
 simp only [Option.bind_some,tA];cases bA (Linear.mk n ((bK (gr m)).map fun k=>Coef.mk k (bN 0 k m)))<;>rfl
theorem BD {β:Type} (m:List (ai×Int)) (hm:mW m=true) (k:List ai→Option β) (v:β) (hk:∀ s,s.Perm (gr m)→k s=some v) :
 rf (σ:=(List ai)) (ε:=Empty) (β:=β) m (fun e164 s94 =>
 bif (e164.2==0) then (
  some (.go s94)
 ) else (
  cy ((s94.length+1)*16≤140737488355328) <|
  some (.go (s94++[e164.1]))
 )) [] k=some v:=by
 simp only [mW,KQ,decide_eq_true_eq,K5] at hm;obtain ⟨hnd,hl,_⟩:=hm;have hnd:=yB hnd;have hinj:∀ i j (hi:i<m.length) (hj:j<m.length),m[i].1=m[j].1→i=j:=by
  intro i j hi hj e;have h1:(m.map (·.1))[i]'(by simpa using hi)=(m.map (·.1))[j]'(by simpa using hj):=by simpa using e
  exact (List.getElem_inj hnd).1 h1
 refine wN (Gz (fun seen s=>s.Nodup∧s.length≤seen.length∧∀ x,x∈s↔∃ i,i∈seen∧∃ h:i<m.length,m[i].1=x∧m[i].2≠0) (fun s e=>bif e.2==0 then s else s++[e.1]) ?_ ?_ m.length [] [] List.nodup_nil (fun i hi=>by simp at hi) (by simp) ⟨List.nodup_nil,by simp,fun x=>by simp⟩)
 ·rintro seen s i hi hs1 hs2 hs3 ⟨i1,i2,i3⟩;have hsl:seen.length≤m.length:=by have:=j7 seen (List.range m.length) hs1 (fun x hx=>by simpa using hs3 x hx);simpa using this
  cases hz:m[i].2==0 with
  | true =>
   have hz':m[i].2=0:=by simpa using hz
   refine ⟨rfl,i1,by simp;omega,fun x => ?_⟩;simp only [cond_true];rw [i3];constructor
   ·rintro ⟨j,h1,h2⟩;exact ⟨j,by simp [h1],h2⟩
   ·rintro ⟨j,h1,h2,h3,h4⟩;rcases List.mem_append.1 h1 with h1 | h1
    ·exact ⟨j,h1,h2,h3,h4⟩
    ·have:j=i:=by simpa using h1
     subst this;exact absurd hz' h4
  | false =>
   have hz':m[i].2≠0:=by simpa using hz
   simp only [cond_false];rw [aD (by omega)];refine ⟨rfl,?_,by simp;omega,fun x => ?_⟩
   ·rw [List.nodup_append];refine ⟨i1,by simp,fun a ha b hb => ?_⟩;have hb:b=m[i].1:=by simpa using hb
    subst hb;intro e;obtain ⟨j,h1,h2,h3,_⟩:=(i3 a).1 ha;exact hs2 (hinj j i h2 hi (h3.trans e) ▸ h1)
   ·rw [List.mem_append,i3];constructor
    ·rintro (⟨j,h1,h2⟩ | h)
     ·exact ⟨j,by simp [h1],h2⟩
     ·have h:x=m[i].1:=by simpa using h
      exact ⟨i,by simp,hi,h.symm,hz'⟩
    ·rintro ⟨j,h1,h2,h3,h4⟩;rcases List.mem_append.1 h1 with h1 | h1
     ·exact .inl ⟨j,h1,h2,h3,h4⟩
     ·have:j=i:=by simpa using h1
      subst this;exact .inr (by simp [h3])
 ·rintro seen s hs1 hall hlt ⟨i1,i2,i3⟩;refine hk s ?_;have hn2:(gr m).Nodup:=by unfold gr;exact (List.Sublist.map _ List.filter_sublist).nodup hnd
  refine (List.perm_ext_iff_of_nodup i1 hn2).2 fun x => ?_;rw [i3];unfold gr;simp only [List.mem_map,List.mem_filter,Bool.not_eq_true',beq_eq_false_iff_ne];constructor
  ·rintro ⟨j,_,h2,h3,h4⟩;exact ⟨m[j],⟨List.getElem_mem h2,h4⟩,h3⟩
  ·rintro ⟨e,⟨h1,h2⟩,h3⟩;obtain ⟨j,hj,rfl⟩:=List.getElem_of_mem h1;exact ⟨j,hall j hj,hj,h3,h2⟩
theorem yf (n:Int) (m:List (ai×Int)) (hm:mW m=true):cR n m=some (tA n m (bK (gr m))):=by unfold cR;exact BD m hm _ _ fun s hp=>BI n m hm s hp
theorem vm (s0:ai) (n:Int) (m:List (ai×Int)) (hm:mW m=true):cr s0 n m=some (tA n m (bK (gr m))):=by unfold cr;exact BD m hm _ _ fun s hp=>BI n m hm s hp
theorem Hb (l:List Coef) (h:l.length≤1000000):bW l=some l:=by unfold bW;rw [aD (by omega)];exact ES fun e=>by rw [e]
noncomputable def Jp (n:Int) (m:List (ai×Int)):Option (Linear×Int):=bif mW m then some (tA n m (bK (gr m))) else cR n m
noncomputable def Hv (s:ai) (n:Int) (m:List (ai×Int)):Option (Linear×Int):=bif mW m then some (tA n m (bK (gr m))) else cr s n m
noncomputable def CM (l:List Coef):Option (List Coef):=bif decide (l.length≤1000000) then some l else bW l
theorem v7:cR=Jp:=by
 funext n m;unfold Jp;cases h:mW m
 ·rfl
 ·exact yf n m h
theorem r5:cr=Hv:=by
 funext s n m;unfold Hv;cases h:mW m
 ·rfl
 ·exact vm s n m h
theorem oJ:bW=CM:=by
 funext l;unfold CM;by_cases h:l.length≤1000000
 ·rw [KV h];exact Hb l h
 ·rw [KU h];rfl
noncomputable def ny (x0:Linear) (x1:(List Bind)):Option (Linear×Int) :=
 (bG x0).bind fun y0 =>
 bif y0 then (
  (cY (σ:=(Int×(List (ai×Int)))) (ε:=(Int×(List (ai×Int)))) (ρ:=(Linear×Int)) (fun i0 s0 =>
   (cF x1 ((x0.Terms.getD i0 ⟨[],0⟩).Var) ((x0.Terms.getD i0 ⟨[],0⟩).C)).bind fun y1 =>
   ((
    bif decide (y1<0) then (
     some (.brk (s0.1,(dL ((x0.Terms.getD i0 ⟨[],0⟩).Var) (aJ ((bN 0 ((x0.Terms.getD i0 ⟨[],0⟩).Var) s0.2)+((x0.Terms.getD i0 ⟨[],0⟩).C))) s0.2)))
    ) else (
     cy (0≤y1∧y1<(x1.length:Int)) <|
     (bG (Linear.mk (((x1.getD y1.toNat (⟨0,[],⟨0,[]⟩,⟨[],[]⟩,[]⟩)).Dim).Const) (((x1.getD y1.toNat (⟨0,[],⟨0,[]⟩,⟨[],[]⟩,[]⟩)).Dim).Terms))).bind fun y2 =>
     bif y2 then (
      (jc (Linear.mk (((x1.getD y1.toNat (⟨0,[],⟨0,[]⟩,⟨[],[]⟩,[]⟩)).Dim).Const) (((x1.getD y1.toNat (⟨0,[],⟨0,[]⟩,⟨[],[]⟩,[]⟩)).Dim).Terms)) ((x0.Terms.getD i0 ⟨[],0⟩).C) s0.1 s0.2).bind fun y3 =>
      some (.brk (y3.1,y3.2))
     ) else (
      some (.ret (.ret ((Linear.mk 0 []),1)))
     )
    )
   ):Option (Out (Int×(List (ai×Int))) (gZ (Int×(List (ai×Int))) (Int×(List (ai×Int))) (Linear×Int)))).bind (aft fun u0 =>
    some (.go (u0.1,u0.2))
   )
  ) (fun i0 s0=>(s0.1,s0.2)) (x0.Terms.length-0) 0 (x0.Const,[])).bind <| aft fun u1 =>
  (Jp u1.1 u1.2).bind fun y4 =>
  some (y4.1,y4.2)
 ) else (
  some ((Linear.mk 0 []),1)
 )
theorem eK:jt=ny:=by funext x0 x1;unfold jt ny;simp only [v7,r5,oJ]
noncomputable def jY (x0:(List Linear)):Option (List Linear) :=
 (cY (σ:=(List Linear)) (ε:=(List Linear)) (ρ:=Empty) (fun i0 s0 =>
  (CM ((x0.getD i0 ⟨0,[]⟩).Terms)).bind fun y0 =>
  cy ((s0.length+1)*32≤140737488355328) <|
  some (.go (s0++[(Linear.mk ((x0.getD i0 ⟨0,[]⟩).Const) y0)]))
 ) (fun i0 s0=>s0) (x0.length-0) 0 []).bind <| gu fun u0 =>
 some u0
theorem fO:gO=jY:=by funext x0;unfold gO jY;simp only [v7,r5,oJ,eK]
noncomputable def qC (x0:ai) (x1:(List Linear)):Option (Shape×Int) :=
 bif decide (((x1.length:Nat):Int)>6) then (
  some ((Shape.mk [] []),3)
 ) else (
  (jY x1).bind fun y0 =>
  some ((Shape.mk x0 y0),0)
 )
theorem j5:mn=qC:=by funext x0 x1;unfold mn qC;simp only [v7,r5,oJ,eK,fO]
noncomputable def oG (x0:Shape) (x1:(List Bind)):Option (Shape×Int) :=
 (ct x0).bind fun y0 =>
 bif y0 then (
  (gS x1).bind fun y1 =>
  bif y1 then (
   (mf x1 2 x0.Row).bind fun y2 =>
   ((
    bif (x0.Row==[]) then (
     some false
    ) else (
     some (decide (y2≥0))
    )
   ):Option Bool).bind fun v0 =>
   ((
    bif v0 then (
     cy (0≤y2∧y2<(x1.length:Int)) <|
     (jY (((x1.getD y2.toNat (⟨0,[],⟨0,[]⟩,⟨[],[]⟩,[]⟩)).Row).Dims)).bind fun y3 =>
     some ((((x1.getD y2.toNat (⟨0,[],⟨0,[]⟩,⟨[],[]⟩,[]⟩)).Row).Row),y3)
    ) else (
     some (x0.Row,[])
    )
   ):Option (ai×(List Linear))).bind fun v1 =>
   (cY (σ:=(List Linear)) (ε:=(List Linear)) (ρ:=(Shape×Int)) (fun i0 s0 =>
    (ny (Linear.mk ((x0.Dims.getD i0 ⟨0,[]⟩).Const) ((x0.Dims.getD i0 ⟨0,[]⟩).Terms)) x1).bind fun y4 =>
    bif (y4.2==0) then (
     cy ((s0.length+1)*32≤140737488355328) <|
     some (.go (s0++[y4.1]))
    ) else (
     some (.ret ((Shape.mk [] []),y4.2))
    )
   ) (fun i0 s0=>s0) (x0.Dims.length-0) 0 v1.2).bind <| aft fun u0 =>
   (qC v1.1 u0).bind fun y5 =>
   some (y5.1,y5.2)
  ) else (
   some ((Shape.mk [] []),1)
  )
 ) else (
  some ((Shape.mk [] []),1)
 )
theorem mg:j9=oG:=by funext x0 x1;unfold j9 oG;simp only [v7,r5,oJ,eK,fO,j5]
noncomputable def nu (x0:ai):Option (Linear×Int) :=
 (bD x0 0 []).bind fun y0 =>
 (dj y0 0 []).bind fun y1 =>
 (xU (σ:=(Int×ai×Int×(List (ai×Int)))) (ε:=(Linear×Int)) (ρ:=(Linear×Int)) (fun s0 =>
  (bD s0.2.1 s0.2.2.1 s0.2.2.2).bind fun y2 =>
  (fK s0.1 y2 s0.2.2.1 s0.2.2.2).bind fun y3 =>
  bif y3.1 then (
   (bD y3.2.1 y3.2.2.1 y3.2.2.2).bind fun y4 =>
   bif (y4==[]) then (
    (Hv y4 y3.2.2.1 y3.2.2.2).bind fun y5 =>
    some (.ret (y5.1,y5.2))
   ) else (
    (dj y4 y3.2.2.1 y3.2.2.2).bind fun y6 =>
    bif y6.1.2 then (
     some (.go (y6.1.1,y6.2,y3.2.2.1,y3.2.2.2))
    ) else (
     some (.ret ((Linear.mk 0 []),6))
    )
   )
  ) else (
   some (.ret ((Linear.mk 0 []),6))
  )
 ) 4294967296 (y1.1.1,y1.2,0,[])).bind <| aft some
theorem pF:iZ=nu:=by funext x0;unfold iZ nu;simp only [v7,r5,oJ,eK,fO,j5,mg]
noncomputable def oI (x0:ai):Option (Shape×Int) :=
 (gq x0 [91]).bind fun y0 =>
 (dD y0.1 [93]).bind fun y1 =>
 bif y0.2 then (
  bif y1.2 then (
   (n9 y1.1 [44,32]).bind fun y2 =>
   (cY (σ:=(ai×(List Linear))) (ε:=(ai×(List Linear))) (ρ:=(Shape×Int)) (fun i0 s0 =>
    (dD (y2.getD i0 []) [46,46]).bind fun y3 =>
    ((
     ((
      bif y3.2 then (
       bif (((i0:Nat):Int)==0) then (
        some (.ret (.brk (y3.1,s0.2)))
       ) else (
        some (.brk ())
       )
      ) else (
       some (.brk ())
      )
     ):Option (Out Unit (Out (ai×(List Linear)) (gZ (ai×(List Linear)) (ai×(List Linear)) (Shape×Int))))).bind (aft fun u0 =>
      (nu (y2.getD i0 [])).bind fun y4 =>
      ((
       bif (y4.2==0) then (
        some (.brk ())
       ) else (
        bif (y1.1==[]) then (
         some (.brk ())
        ) else (
         some (.ret (.ret (.ret ((Shape.mk [] []),6))))
        )
       )
      ):Option (Out Unit (Out (ai×(List Linear)) (gZ (ai×(List Linear)) (ai×(List Linear)) (Shape×Int))))).bind (aft fun u1 =>
       bif (y1.1==[]) then (
        some (.brk (s0.1,s0.2))
       ) else (
        cy ((s0.2.length+1)*32≤140737488355328) <|
        some (.brk (s0.1,(s0.2++[y4.1])))
       )
      )
     )
    ):Option (Out (ai×(List Linear)) (gZ (ai×(List Linear)) (ai×(List Linear)) (Shape×Int)))).bind (aft fun u2 =>
     some (.go (u2.1,u2.2))
    )
   ) (fun i0 s0=>(s0.1,s0.2)) (y2.length-0) 0 ([],[])).bind <| aft fun u3 =>
   (ct (Shape.mk u3.1 u3.2)).bind fun y5 =>
   bif y5 then (
    (lP (Shape.mk u3.1 u3.2)).bind fun y6 =>
    bif (y6==x0) then (
     some ((Shape.mk u3.1 u3.2),0)
    ) else (
     some ((Shape.mk [] []),6)
    )
   ) else (
    some ((Shape.mk [] []),6)
   )
  ) else (
   some ((Shape.mk [] []),6)
  )
 ) else (
  some ((Shape.mk [] []),6)
 )
theorem xg:ku=oI:=by funext x0;unfold ku oI;simp only [v7,r5,oJ,eK,fO,j5,mg,pF]
noncomputable def sj  : Option Bool :=
 (fU 1 [110] 1).bind fun y0 =>
 (fU 0 [] 3).bind fun y1 =>
 (iM (Shape.mk [114] [y0,y1])).bind fun y2 =>
 (fU 1 [109] 0).bind fun y3 =>
 (fU 2 [107] 0).bind fun y4 =>
 (oG (Shape.mk [114] [y0,y1]) [(Bind.mk 2 [114] (Linear.mk 0 []) (Shape.mk [] [y3]) []),(Bind.mk 1 [110] y4 (Shape.mk [] []) [])]).bind fun y5 =>
 (iM y5.1).bind fun y6 =>
 (oI y6.1).bind fun y7 =>
 (iv y5.1 [(Value.mk [107] 2),(Value.mk [109] 7)]).bind fun y8 =>
 bif (y2.2==0) then (
  bif (y5.2==0) then (
   bif (y6.2==0) then (
    bif (y7.2==0) then (
     bif (y8.2==0) then (
      bif (y2.1==[91,114,46,46,44,32,110,43,49,44,32,51,93]) then (
       bif (y6.1==[91,109,44,32,50,107,43,49,44,32,51,93]) then (
        (mN y5.1 y7.1).bind fun y9 =>
        bif y9 then (
         (eA y8.1 [7,5,3]).bind fun y10 =>
         bif y10 then (
          (ct (Shape.mk [114] [y0,y1])).bind fun y11 =>
          some y11
         ) else (
          some false
         )
        ) else (
         some false
        )
       ) else (
        some false
       )
      ) else (
       some false
      )
     ) else (
      some false
     )
    ) else (
     some false
    )
   ) else (
    some false
   )
  ) else (
   some false
  )
 ) else (
  some false
 )
theorem xI:eU=sj:=by unfold eU sj;simp only [v7,r5,oJ,eK,fO,j5,mg,pF,xg]
theorem tK:eU=some true:=by rw [xI];kernel_rfl
def vv (vs:List Value) (v:ai):Int:=(vs.getD (idxOf (uV v) vs).toNat ⟨[],0⟩).N
def Hn (vs:List Value) (v:ai):Prop:=0≤idxOf (uV v) vs ∧ -1000000000≤vv vs v∧vv vs v≤1000000000
def FN (vs:List Value) (t:Coef) (n:Int):gZ Int Int (Int×Int) :=
 bif decide (idxOf (uV t.Var) vs<0) then .ret (0,7) else
 bif decide (vv vs t.Var<(-1000000000)) then .ret (0,2) else
 bif decide (vv vs t.Var>1000000000) then .ret (0,2) else .go (aJ (n+(aJ (t.C*vv vs t.Var))))
def JE (o:Out Int (Int×Int)):Int×Int:=match o with | .brk n=>(n,0) | .ret r=>r
def tZ (vs:List Value) (l:Linear):Int×Int:=bif bA l then JE (cu (FN vs) (fun s=>s) l.Terms l.Const) else (0,1)
theorem A2 (vs:List Value) (v:ai) (c:Int):b6 vs v c=some (idxOf (uV v) vs):=by
 unfold b6;rw [s8 (f:=fun j=>((j:Nat):Int)) (fun j=>uV v (vs.getD j ⟨[],0⟩)) _ _ () (fun j u _ _=>by unfold jS uV;simp only [Option.bind_some];cases (vs.getD j ⟨[],0⟩).Var==v<;>rfl)]
 have h:=qO (uV v) ⟨[],0⟩ vs;cases hf:(List.range' 0 (vs.length-0)).find? (fun j=>uV v (vs.getD j ⟨[],0⟩)) with
 | none=>rw [hf] at h;exact congrArg some h
 | some j=>rw [hf] at h;exact congrArg some h
theorem yT (o:Out Int (Int×Int)):((some o).bind (Sh.aft fun u=>some (u,0)))=some (JE o):=by cases o<;>rfl
theorem xq (l:Linear) (vs:List Value) (h:Je l):kl l vs=some (tZ vs l):=by
 unfold kl tZ;rw [iu l h.1 h.2];simp only [Option.bind_some];cases bA l with
 | false=>rfl
 | true =>
  simp only [cond_true];rw [jO (fin:=fun _ s=>s) (f:=fun s=>s) ⟨[],0⟩ l.Terms (FN vs) (fun _ _=>True) (fun _ _=>rfl) l.Const trivial (fun j s hj _=>⟨by
   rw [A2];simp only [Option.bind_some,FN];by_cases h0:idxOf (uV (l.Terms.getD j ⟨[],0⟩).Var) vs<0
   ·rw [KV h0];rfl
   ·rw [KU h0];simp only [cond_false];rw [aD ⟨by omega,vR _ ⟨[],0⟩ _⟩];unfold vv;cases decide ((vs.getD (idxOf (uV (l.Terms.getD j ⟨[],0⟩).Var) vs).toNat ⟨[],0⟩).N<(-1000000000))<;>cases decide ((vs.getD (idxOf (uV (l.Terms.getD j ⟨[],0⟩).Var) vs).toNat ⟨[],0⟩).N>1000000000)<;>rfl,fun _ _=>trivial⟩)]
  exact yT _
theorem yc (l:Linear) (vs:List Value):lC l vs=some (tZ vs l):=by
 unfold lC tZ;rw [jo l];simp only [Option.bind_some];cases bA l with
 | false=>rfl
 | true =>
  simp only [cond_true];rw [jO (fin:=fun _ s=>s) (f:=fun s=>s) ⟨[],0⟩ l.Terms (FN vs) (fun _ _=>True) (fun _ _=>rfl) l.Const trivial (fun j s hj _=>⟨by
   rw [qW (fun i=>uV (l.Terms.getD j ⟨[],0⟩).Var (vs.getD i ⟨[],0⟩)) _ _ () (fun i u _ _=>by unfold uV;cases (vs.getD i ⟨[],0⟩).Var==(l.Terms.getD j ⟨[],0⟩).Var<;>rfl)]
   simp only [Option.bind_some,gu];rw [uv (uV (l.Terms.getD j ⟨[],0⟩).Var) ⟨[],0⟩ vs];simp only [FN];have hlt:=vR (uV (l.Terms.getD j ⟨[],0⟩).Var) ⟨[],0⟩ vs;by_cases h0:idxOf (uV (l.Terms.getD j ⟨[],0⟩).Var) vs<0
   ·rw [KV h0];simp
   ·rw [KU h0];simp only [cond_false];have e:((((idxOf (uV (l.Terms.getD j ⟨[],0⟩).Var) vs).toNat:Nat):Int)==((vs.length:Nat):Int))=false:=by rw [beq_eq_false_iff_ne];omega
    rw [e,cond_false,aD (by omega)];unfold vv;cases decide ((vs.getD (idxOf (uV (l.Terms.getD j ⟨[],0⟩).Var) vs).toNat ⟨[],0⟩).N<(-1000000000))<;>cases decide ((vs.getD (idxOf (uV (l.Terms.getD j ⟨[],0⟩).Var) vs).toNat ⟨[],0⟩).N>1000000000)<;>rfl,fun _ _=>trivial⟩)]
  exact yT _
def Dj (f:ai→Int):List Coef→Int
 | []=>0
 | t::ts=>t.C*f t.Var+Dj f ts
def FM (f:ai→Int) (l:Linear):Int:=l.Const+Dj f l.Terms
theorem prod_bound {a b A B:Int} (h1 : -A≤a) (h2:a≤A) (h3 : -B≤b) (h4:b≤B) : -(A*B)≤a*b∧a*b≤A*B:=by
 have hA:0≤A:=by omega
 have hB:0≤B:=by omega
 have hn:(a*b).natAbs≤A.natAbs*B.natAbs:=by rw [Int.natAbs_mul];exact Nat.mul_le_mul (by omega) (by omega)
 have e:((A.natAbs*B.natAbs:Nat):Int)=A*B:=by rw [Int.natCast_mul];congr 1<;>omega
 omega
theorem B3 (vs:List Value):∀ (ts:List Coef) (n:Int),(∀ t∈ts,-1000000≤t.C∧t.C≤1000000)→ts.length≤12 →
 -(1000000+(12-(ts.length:Int))*1000000000000000)≤n→n≤1000000+(12-(ts.length:Int))*1000000000000000 →
 (cu (FN vs) (fun s=>s) ts n = .brk (n+Dj (vv vs) ts)∧∀ t∈ts,Hn vs t.Var)∨((∃ t∈ts,¬ Hn vs t.Var)∧∃ e,(e=7∨e=2)∧cu (FN vs) (fun s=>s) ts n = .ret (0,e))
 | [],n,_,_,_,_=>.inl ⟨by simp [cu,Dj],by simp⟩
 | t::ts,n,hC,hl,h1,h2=>by
  by_cases h0:idxOf (uV t.Var) vs<0
  ·exact .inr ⟨⟨t,by simp,fun hv=>by have:=hv.1;omega⟩,7,.inl rfl,by simp only [cu,FN,KV h0,cond_true]⟩
  by_cases h3:vv vs t.Var < -1000000000
  ·exact .inr ⟨⟨t,by simp,fun hv=>by have:=hv.2.1;omega⟩,2,.inr rfl,by simp only [cu,FN,KU h0,KV h3,cond_true,cond_false]⟩
  by_cases h4:vv vs t.Var>1000000000
  ·exact .inr ⟨⟨t,by simp,fun hv=>by have:=hv.2.2;omega⟩,2,.inr rfl,by simp only [cu,FN,KU h0,KU h3,KV h4,cond_true,cond_false]⟩
  obtain ⟨c1,c2⟩:=hC t (by simp);obtain ⟨b1,b2⟩:=prod_bound c1 c2 (show -1000000000≤vv vs t.Var by omega) (show vv vs t.Var≤1000000000 by omega);have hl':(ts.length:Int)≤11:=by simp at hl;omega
  have hlen:(((t::ts).length:Nat):Int)=(ts.length:Int)+1:=by simp
  rw [hlen] at h1 h2;have e:FN vs t n = .go (n+t.C*vv vs t.Var):=by simp only [FN,KU h0,KU h3,KU h4,cond_false];rw [CJ (n:=t.C*vv vs t.Var) (by unfold yL;omega),CJ (by unfold yL;omega)]
  simp only [cu,e,Dj];rcases B3 vs ts (n+t.C*vv vs t.Var) (fun t ht=>hC t (by simp [ht])) (by omega) (by omega) (by omega) with ⟨e1,e2⟩ | ⟨⟨y,e1,e1'⟩,e2⟩
  ·refine .inl ⟨by rw [e1,Int.add_assoc],fun x hx => ?_⟩;rcases List.mem_cons.1 hx with rfl | hx
   ·exact ⟨by omega,by omega,by omega⟩
   ·exact e2 x hx
  ·exact .inr ⟨⟨y,by simp [e1],e1'⟩,e2⟩
theorem rT {l:Linear} (h:bA l=true):l.Terms.length≤12:=by simp only [bA,KQ,decide_eq_true_eq] at h;exact h.2.2
theorem sX {l:Linear} (h:bA l=true):∀ t∈l.Terms,(-1000000≤t.C∧t.C≤1000000)∧cW t.Var=true:=by
 intro t ht;obtain ⟨j,hj,rfl⟩:=List.getElem_of_mem ht;simp only [bA,KQ,K5] at h;have:=h.1 j (by simpa using hj);have e:nY l j=l.Terms[j]:=by simp [nY,KO,KP hj]
 simp only [jQ,e,KQ,Cq,decide_eq_true_eq] at this;exact ⟨this.2.2.1,this.1⟩
theorem BC {l:Linear} (h:bA l=true) : -1000000≤l.Const∧l.Const≤1000000:=by simp only [bA,KQ,Cq,decide_eq_true_eq] at h;exact h.2.1
theorem Gi {s:ai} (h:cW s=true):s.length≤30:=by
 cases s with
 | nil=>simp
 | cons c r =>
  simp only [cW] at h;cases hc:c==95
  ·simp only [hc,cond_false,KQ,decide_eq_true_eq] at h;simp;omega
  ·simp only [hc,cond_true,KQ,decide_eq_true_eq] at h;simp;omega
theorem yP {l:Linear} (h:bA l=true):Je l :=
 ⟨by have:=rT h;omega,fun t ht=>by have:=Gi (sX h t ht).2;omega⟩
theorem EH (vs:List Value) (l:Linear) (h:bA l=true):(tZ vs l=(FM (vv vs) l,0)∧∀ t∈l.Terms,Hn vs t.Var)∨((∃ t∈l.Terms,¬ Hn vs t.Var)∧(tZ vs l).2≠0):=by
 have hl:=rT h;obtain ⟨k1,k2⟩:=BC h;have hp:0≤(12-(l.Terms.length:Int))*1000000000000000:=Int.mul_nonneg (by omega) (by omega);unfold tZ;rw [h,cond_true];rcases B3 vs l.Terms l.Const (fun t ht=>(sX h t ht).1) hl (by omega) (by omega) with ⟨e1,e2⟩ | ⟨e1,e,e2,e3⟩
 ·exact .inl ⟨by rw [e1];rfl,e2⟩
 ·refine .inr ⟨e1,?_⟩;rw [e3];rcases e2 with rfl | rfl<;>simp [JE]
theorem JS {vs:List Value} {l:Linear} (h:(tZ vs l).2=0):bA l=true∧(tZ vs l).1=FM (vv vs) l∧∀ t∈l.Terms,Hn vs t.Var:=by
 cases hv:bA l with
 | false=>unfold tZ at h;rw [hv] at h;simp at h
 | true =>
  rcases EH vs l hv with ⟨e1,e2⟩ | ⟨_,e⟩
  ·exact ⟨rfl,by rw [e1],e2⟩
  ·exact absurd h e
end Go.Proofs.YtjfpcjnopbfekaaGreatDoor
