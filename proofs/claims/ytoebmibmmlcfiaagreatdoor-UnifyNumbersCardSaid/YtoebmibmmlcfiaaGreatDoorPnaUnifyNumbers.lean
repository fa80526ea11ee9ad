/- Plain laws: what the walked functions compute answers as the statement says. -/
import Derived.Test.YtoebmibmmlcfiaaGreatDoorWkcUnifyNumbers
import Derived.Lib.ItoaNum
import Derived.Lib.ItoaMem
import Derived.Lib.AtoiAll
import Derived.Lib.AtoiAllCases
import Derived.Lib.ItoaLen
import Derived.Lib.SlTrimSet
set_option linter.unusedSimpArgs false
set_option linter.unusedVariables false
namespace Go.Sh
open Go.Ab
section
variable {α σ ε ρ:Type}
theorem oz {body:Nat→Unit→Option (fE Unit ε ρ)} {fin:Nat→Unit→ε} {r:ρ} (p:Nat→Bool):∀ (k i:Nat) (u:Unit),(∀ j u,i≤j→j<i+k→body j u=some (bif p j then .go () else .ret r)) →
 fA body fin k i u=some (bif (List.range' i k).all p then .brk (fin (i+k) ()) else .ret r)
 | 0,i,u,h=>by simp [fA]
 | k+1,i,u,h=>by
  simp only [fA,h i u (Nat.le_refl _) (by omega),List.range'_succ,List.all_cons];cases hp:p i with
  | true =>
   simp only [cond_true,Option.bind_some,AK,Bool.true_and];rw [oz p k (i+1) () (fun j u h1 h2=>h j u (by omega) (by omega))];rw [show i+1+k=i+(k+1) by omega]
  | false=>simp [AK]
theorem o8 {body:Nat→Unit→Option (fE Unit ε ρ)} {fin:Nat→Unit→ε} {f:Nat→ρ} (p:Nat→Bool):∀ (k i:Nat) (u:Unit),(∀ j u,i≤j→j<i+k→body j u=some (bif p j then .ret (f j) else .go ())) →
 fA body fin k i u=some (match (List.range' i k).find? p with | some j=>.ret (f j) | none=>.brk (fin (i+k) ()))
 | 0,i,u,h=>by simp [fA]
 | k+1,i,u,h=>by
  simp only [fA,h i u (Nat.le_refl _) (by omega),List.range'_succ,List.find?_cons];cases hp:p i with
  | false =>
   simp only [cond_false,Option.bind_some,AK];rw [o8 p k (i+1) () (fun j u h1 h2=>h j u (by omega) (by omega))];rw [show i+1+k=i+(k+1) by omega]
  | true=>simp [AK]
theorem Aw {body:Nat→σ→Option (fE σ ε ρ)} {fin:Nat→σ→ε} (g:Nat→σ→σ) (I:Nat→σ→Prop):∀ (k i:Nat) (s:σ),I i s→(∀ j s,i≤j→j<i+k→I j s→body j s=some (.go (g j s))∧I (j+1) (g j s)) →
 ∃ s',fA body fin k i s=some (.brk (fin (i+k) s'))∧s'=(List.range' i k).foldl (fun s j=>g j s) s∧I (i+k) s'
 | 0,i,s,hI,h=>⟨s,by simp [fA],by simp,hI⟩
 | k+1,i,s,hI,h=>by
  obtain ⟨h1,h2⟩:=h i s (Nat.le_refl _) (by omega) hI;obtain ⟨s',e1,e2,e3⟩:=Aw g I k (i+1) (g i s) h2 (fun j s h1 h2=>h j s (by omega) (by omega));refine ⟨s',?_,?_,by rw [show i+(k+1)=i+1+k by omega];exact e3⟩
  ·simp only [fA,h1,Option.bind_some,AK];rw [e1,show i+1+k=i+(k+1) by omega]
  ·rw [e2,List.range'_succ];rfl
theorem lD (q:α→Bool) (d:α) (l:List α):∀ (i:Nat),(List.range' i (l.length-i)).all (fun j=>q (l.getD j d))=(l.drop i).all q:=by
 intro i;by_cases h:i<l.length
 ·obtain ⟨k,hk⟩:∃ k,l.length-i=k+1:=⟨l.length-i-1,by omega⟩;have ih:=lD q d l (i+1);rw [hk,List.range'_succ,List.all_cons,List.drop_eq_getElem_cons h,List.all_cons];rw [show l.length-(i+1)=k by omega] at ih;rw [ih];simp [Mk,Ml h]
 ·rw [show l.length-i=0 by omega,List.drop_eq_nil_of_le (by omega)];rfl
 termination_by i=>l.length-i
theorem L0 (q:α→Bool) (d:α) (l:List α):(List.range' 0 (l.length-0)).all (fun j=>q (l.getD j d))=l.all q:=by have:=lD q d l 0;simpa using this
theorem pW {β:Type} (g:β→α→β) (d:α) (l:List α):∀ (i:Nat) (s:β),(List.range' i (l.length-i)).foldl (fun s j=>g s (l.getD j d)) s=(l.drop i).foldl g s:=by
 intro i s;by_cases h:i<l.length
 ·obtain ⟨k,hk⟩:∃ k,l.length-i=k+1:=⟨l.length-i-1,by omega⟩;have ih:=pW g d l (i+1) (g s (l.getD i d));rw [hk,List.range'_succ,List.foldl_cons,List.drop_eq_getElem_cons h,List.foldl_cons];rw [show l.length-(i+1)=k by omega] at ih;rw [ih];simp [Mk,Ml h]
 ·rw [show l.length-i=0 by omega,List.drop_eq_nil_of_le (by omega)];rfl
 termination_by i=>l.length-i
def idxOf (p:α→Bool):List α→Int
 | [] => -1
 | x::l=>bif p x then 0 else (let r:=idxOf p l;bif r == -1 then -1 else r+1)
theorem rI (p:α→Bool):∀ l:List α,-1≤idxOf p l
 | []=>by simp [idxOf]
 | x::l=>by
  have:=rI p l;simp only [idxOf];cases p x
  ·cases h:idxOf p l == -1
   ·simp;omega
   ·simp
  ·simp
theorem pc (p:α→Bool):∀ l:List α,(idxOf p l<0)↔l.any p=false
 | []=>by simp [idxOf]
 | x::l=>by
  have h1:=rI p l;have h2:=pc p l;simp only [idxOf,List.any_cons];cases hp:p x
  ·cases h:idxOf p l == -1
   ·have:idxOf p l ≠ -1:=by simpa using h
    simp only [cond_false,Bool.false_or];rw [← h2];omega
   ·have:idxOf p l = -1:=by simpa using h
    simp only [cond_false,cond_true,Bool.false_or];rw [← h2];omega
  ·simp
theorem B1 (p:α→Bool) (d:α) (l:List α):∀ (i:Nat),(match (List.range' i (l.length-i)).find? (fun j=>p (l.getD j d)) with | some j=>((j:Nat):Int) | none => -1)=(bif idxOf p (l.drop i) == -1 then -1 else idxOf p (l.drop i)+i):=by
 intro i;by_cases h:i<l.length
 ·obtain ⟨k,hk⟩:∃ k,l.length-i=k+1:=⟨l.length-i-1,by omega⟩;have ih:=B1 p d l (i+1);rw [hk,List.range'_succ,List.find?_cons,List.drop_eq_getElem_cons h];rw [show l.length-(i+1)=k by omega] at ih;have e:l.getD i d=l[i]:=by simp [Mk,Ml h]
  rw [e];simp only [idxOf];cases hp:p l[i]
  ·simp only [cond_false];rw [ih];cases hq:idxOf p (l.drop (i+1)) == -1
   ·have h3:idxOf p (l.drop (i+1)) ≠ -1:=by simpa using hq
    have h4:=rI p (l.drop (i+1));simp only [cond_false];have:((idxOf p (l.drop (i+1))+1) == -1)=false:=by simp;omega
    rw [this];simp only [cond_false];omega
   ·simp
  ·simp
 ·rw [show l.length-i=0 by omega,List.drop_eq_nil_of_le (by omega)];rfl
 termination_by i=>l.length-i
theorem mB (p:α→Bool) (d:α) (l:List α):(match (List.range' 0 (l.length-0)).find? (fun j=>p (l.getD j d)) with | some j=>((j:Nat):Int) | none => -1)=idxOf p l:=by
 rw [B1 p d l 0];simp only [List.drop_zero];cases h:idxOf p l == -1
 ·simp
 ·have:idxOf p l = -1:=by simpa using h
  simp [this]
end
def b7 (b:UInt8):Bool:=decide (48≤b.toNat)&&decide (b.toNat≤57)
def kC (acc:Nat) (l:ak):Nat:=l.foldl (fun a c=>a*10+(c.toNat-48)) acc
theorem zl (acc:Nat) (l:ak) (c:UInt8):kC acc (l++[c])=kC acc l*10+(c.toNat-48):=by simp [kC]
theorem yP:∀ (l:ak) (acc:Nat),l.all b7=true→(acc+1)*10 ^ l.length≤10 ^ 18→Lib.parseUint10 acc l = .ok (kC acc l)
 | [],acc,_,_=>rfl
 | c::l,acc,h,hb=>by
  simp only [List.all_cons,Mm,b7,decide_eq_true_eq] at h;obtain ⟨⟨h1,h2⟩,h3⟩:=h;have hp:1≤10 ^ l.length:=Nat.one_le_pow _ _ (by decide);have hb2:(acc*10+10)*10 ^ l.length≤10 ^ 18:=by
   have:(acc+1)*10 ^ (l.length+1)=(acc*10+10)*10 ^ l.length:=by rw [Nat.pow_succ];rw [show (acc*10+10)=(acc+1)*10 by omega,Nat.mul_assoc,Nat.mul_comm 10]
   rw [← this];simpa using hb
  have hb3:acc*10+10≤10 ^ 18:=Nat.le_trans (Nat.le_mul_of_pos_right _ hp) hb2;have e18:(10:Nat) ^ 18=1000000000000000000:=by decide
  rw [e18] at hb3;simp only [Lib.parseUint10];rw [if_pos ⟨h1,h2⟩,if_neg (by omega),if_neg (by omega)];rw [yP l _ (by simpa [b7] using h3) (Nat.le_trans (Nat.mul_le_mul_right _ (by omega)) hb2)];rfl
theorem AP {c:UInt8} (h:b7 c=true):UInt8.ofNat (48+(c.toNat-48))=c:=by simp only [b7,Mm,decide_eq_true_eq] at h;rw [show 48+(c.toNat-48)=c.toNat by omega];exact UInt8.ofNat_toNat
theorem Hr {α:Type} {P:List α→Prop} (h0:P []) (h1:∀ l c,P l→P (l++[c])) (l:List α):P l:=by
 have:∀ m:List α,P m.reverse:=by
  intro m;induction m with
  | nil=>exact h0
  | cons c m ih=>simpa using h1 _ c ih
 simpa using this l.reverse
theorem Jo (l:ak):l.all b7=true→l≠[]→l.head? ≠ some 48→1≤kC 0 l∧Lib.decDigits (kC 0 l)=l:=by
 refine Hr (P:=fun l=>l.all b7=true→l≠[]→l.head? ≠ some 48→1≤kC 0 l∧Lib.decDigits (kC 0 l)=l) ?_ ?_ l
 ·intro _ h;exact absurd rfl h
 ·intro l c ih h _ hh;rw [List.all_append,Mm] at h;have hc:b7 c=true:=by simpa using h.2
  have hc':=hc;simp only [b7,Mm,decide_eq_true_eq] at hc';rw [zl];by_cases hl:l=[]
  ·subst hl;have hne:c≠48:=by simpa using hh
   have:c.toNat≠48:=fun e=>hne (by rw [← UInt8.toNat_inj];simpa using e);simp only [kC,List.foldl_nil,Nat.zero_mul,Nat.zero_add,List.nil_append];refine ⟨by omega,?_⟩;rw [Lib.decDigits_one (by omega),AP hc]
  ·have hh2:l.head? ≠ some 48:=by
    cases l with
    | nil=>exact absurd rfl hl
    | cons x l=>simpa using hh
   obtain ⟨i1,i2⟩:=ih h.1 hl hh2;refine ⟨by omega,?_⟩;rw [Lib.decDigits,dif_neg (by omega),show (kC 0 l*10+(c.toNat-48)) / 10=kC 0 l by omega,i2,show (kC 0 l*10+(c.toNat-48)) % 10=c.toNat-48 by omega,AP hc]
theorem tP (u:Nat):(Lib.decDigits u).all b7=true∧(1≤u→(Lib.decDigits u).head? ≠ some 48)∧Lib.decDigits u≠[]:=by
 have key:∀ i,i<10→b7 (UInt8.ofNat (48+i))=true:=by decide
 have key2:∀ i,i<10→1≤i→UInt8.ofNat (48+i)≠48:=by decide
 by_cases h:u<10
 ·rw [Lib.decDigits_one h];exact ⟨by simp only [List.all_cons,List.all_nil,Bool.and_true];exact key u h,fun h1=>by simpa using key2 u h h1,by simp⟩
 ·have ih:=tP (u / 10);rw [Lib.decDigits,dif_neg h];refine ⟨by rw [List.all_append,ih.1];simp only [List.all_cons,List.all_nil,Bool.and_true,Bool.true_and];exact key (u % 10) (by omega),fun _ => ?_,by simp⟩;have:=ih.2.1 (by omega);cases hd:Lib.decDigits (u / 10) with
  | nil=>exact absurd hd ih.2.2
  | cons x l=>rw [hd] at this;simpa using this
 termination_by u
 decreasing_by omega
end Go.Sh
namespace Go.Proofs.YtoebmibmmlcfiaaGreatDoor
open Go.Ab Go.Sh
theorem aK {α:Type} {p:Prop} [Decidable p] {x:Option α} (h:p):bX p x=x:=if_pos h
theorem pS {ε β:Type} {b:Bool} {e:ε} {r:β} {f:ε→Option β}:(some (bif b then Out.brk e else Out.ret r:Out ε β)).bind (aft f)=bif b then f e else some r:=by cases b<;>rfl
theorem all_congr {p q:Nat→Bool}:∀ (k i:Nat),(∀ j,i≤j→j<i+k→p j=q j)→(List.range' i k).all p=(List.range' i k).all q
 | 0,i,_=>rfl
 | k+1,i,h=>by rw [List.range'_succ,List.all_cons,List.all_cons,h i (Nat.le_refl _) (by omega),all_congr k (i+1) (fun j h1 h2=>h j (by omega) (by omega))]
theorem G6 (c k:UInt8) (n:Int) (hk:(k.toNat:Int)=n):((c.toNat:Int)==n)=(c==k):=by rw [Bool.eq_iff_iff];simp only [beq_iff_eq,← UInt8.toNat_inj];omega
theorem xT {α:Type} (l:List α):(((l.length:Nat):Int)==0)=l.isEmpty:=by
 cases l with
 | nil=>rfl
 | cons x l=>simp;omega
def isLet (b:UInt8):Bool:=decide (97≤b.toNat)&&decide (b.toNat≤122)
theorem qS (x:UInt8):jz x=some (b7 x):=by
 unfold jz b7;by_cases h:48≤x.toNat
 ·rw [Mr (show (x.toNat:Int)≥48 by omega),Mr h];simp only [cond_true,Bool.true_and,Mv];rw [decide_eq_decide];omega
 ·rw [Mq (show ¬ (x.toNat:Int)≥48 by omega),Mq h];rfl
theorem vF (x:UInt8):kb x=some (isLet x):=by
 unfold kb isLet;by_cases h:97≤x.toNat
 ·rw [Mr (show (x.toNat:Int)≥97 by omega),Mr h];simp only [cond_true,Bool.true_and,Mv];rw [decide_eq_decide];omega
 ·rw [Mq (show ¬ (x.toNat:Int)≥97 by omega),Mq h];rfl
def dF:ak→Bool
 | []=>false
 | c::r=>bif c==95 then (decide (1≤r.length)&&(decide (r.length≤9)&&(!(r.getD 0 0==48)&&r.all b7))) else (decide (r.length≤29)&&(isLet c&&r.all (fun b=>isLet b||b7 b)))
theorem yg (s:ak):mK s=some (dF s):=by
 cases s with
 | nil=>rfl
 | cons c r =>
  unfold mK;have e1:((((c::r).length:Nat):Int)==0)=false:=by simp;omega
  rw [e1];simp only [cond_false];have e95:((((c::r).getD 0 0).toNat:Int)==95)=(c==95):=by rw [List.getD_cons_zero];exact G6 c 95 95 rfl
  by_cases h30:r.length≤29
  ·rw [Mq (show ¬ (((c::r).length:Nat):Int)>30 by simp;omega)];simp only [cond_false];rw [aK (by simp),e95];simp only [dF];cases hc:c==95 with
   | true =>
    simp only [cond_true];by_cases h1:1≤r.length
    ·rw [Mq (show ¬ (((c::r).length:Nat):Int)<2 by simp;omega),Mr h1];simp only [cond_false,Bool.true_and];by_cases h9:r.length≤9
     ·rw [Mq (show ¬ (((c::r).length:Nat):Int)>10 by simp;omega),Mr h9];simp only [cond_false,Bool.true_and];rw [aK (by simp;omega)];have e48:((((c::r).getD 1 0).toNat:Int)==48)=(r.getD 0 0==48):=by rw [List.getD_cons_succ];exact G6 _ 48 48 rfl
      rw [e48];cases hd:r.getD 0 0==48 with
      | true=>simp
      | false =>
       simp only [cond_false,Bool.not_false,Bool.true_and];rw [oz (fun j=>b7 ((c::r).getD j 0)) _ _ () (fun j u _ _=>by rw [qS];cases b7 ((c::r).getD j 0)<;>rfl),pS,lD b7 0 (c::r) 1];simp only [List.drop_succ_cons,List.drop_zero];cases r.all b7<;>rfl
     ·rw [Mr (show (((c::r).length:Nat):Int)>10 by simp;omega),Mq h9];simp
    ·rw [Mr (show (((c::r).length:Nat):Int)<2 by simp;omega),Mq h1];simp
   | false =>
    simp only [cond_false];rw [Mr h30];rw [oz (fun j=>isLet ((c::r).getD j 0)||(!(((j:Nat):Int)==0)&&b7 ((c::r).getD j 0))) _ _ () (fun j u _ _=>by rw [vF,qS];cases isLet ((c::r).getD j 0)<;>cases b7 ((c::r).getD j 0)<;>cases ((j:Nat):Int)==0<;>rfl),pS]
    have e:(List.range' 0 ((c::r).length-0)).all (fun j=>isLet ((c::r).getD j 0)||(!(((j:Nat):Int)==0)&&b7 ((c::r).getD j 0)))=(isLet c&&r.all (fun b=>isLet b||b7 b)):=by
     rw [show (c::r).length-0=r.length+1 by simp,List.range'_succ,List.all_cons];have e0:(isLet ((c::r).getD 0 0)||(!(((0:Nat):Int)==0)&&b7 ((c::r).getD 0 0)))=isLet c:=by simp
     rw [e0];congr 1;rw [all_congr (q:=fun j=>(fun b=>isLet b||b7 b) ((c::r).getD j 0)) _ _ (fun j h1 _=>by
      have:(((j:Nat):Int)==0)=false:=by simp;omega
      simp only [this,Bool.not_false,Bool.true_and])]
     have:=lD (fun b=>isLet b||b7 b) 0 (c::r) 1;simpa using this
    rw [e];simp only [Bool.true_and];cases isLet c&&r.all (fun b=>isLet b||b7 b)<;>rfl
  ·rw [Mr (show (((c::r).length:Nat):Int)>30 by simp;omega)];simp only [cond_true,dF];rw [Mq h30];have:¬ r.length≤9:=by omega
   rw [Mq this];cases c==95<;>simp
theorem mO (s:ak) (c:UInt8):strings_HasPrefix s [c]=some (match s with | []=>false | x::_=>x==c):=by
 unfold strings_HasPrefix bQ;cases s with
 | nil=>rfl
 | cons x l =>
  rw [Mr (by simp;omega)];simp only [cond_true];rw [aK (by simp)];simp
theorem wZ {r:ak} (h0:r≠[]) (h:r.all b7=true) (hl:r.length≤9):Lib.atoiAll r = .ok (kC 0 r:Int)∧kC 0 r<10000000000:=by
 cases r with
 | nil=>exact absurd rfl h0
 | cons c r =>
  have hc:b7 c=true:=by simp only [List.all_cons,Mm] at h;exact h.1
  have hc2:=hc;simp only [b7,Mm,decide_eq_true_eq] at hc2;have hp:(10:Nat) ^ (c::r).length≤10 ^ 9:=Nat.pow_le_pow_right (by decide) hl;have hv:=yP (c::r) 0 h (by
   rw [Nat.zero_add,Nat.one_mul];exact Nat.le_trans hp (by decide))
  have hb:∀ (l:ak) (a:Nat),l.all b7=true→kC a l+1≤(a+1)*10 ^ l.length:=by
   intro l;induction l with
   | nil=>intro a _;simp [kC]
   | cons x l ih =>
    intro a hx;simp only [List.all_cons,Mm,b7,decide_eq_true_eq] at hx;have:=ih (a*10+(x.toNat-48)) (by simpa [b7] using hx.2);have e:kC a (x::l)=kC (a*10+(x.toNat-48)) l:=rfl;rw [e];refine Nat.le_trans this ?_;rw [List.length_cons,Nat.pow_succ,Nat.mul_comm (10 ^ l.length) 10,← Nat.mul_assoc];exact Nat.mul_le_mul_right _ (by omega)
  have hlt:=hb (c::r) 0 h;rw [Nat.zero_add,Nat.one_mul] at hlt;have h9:(10:Nat) ^ 9=1000000000:=by decide
  rw [h9] at hp;refine ⟨?_,by omega⟩;rw [Lib.atoiAll_plain c r (by omega) (by omega)];have:Lib.parseMag (c::r) = .ok (kC 0 (c::r)):=by unfold Lib.parseMag;rw [if_neg (by simp)];exact hv
  rw [this];simp only [Lib.signless];rw [if_neg (by omega)]
theorem nh (s:ak) (hs:s.length≤1000000):fg s=some (dF s):=by
 unfold fg;rw [mO];cases s with
 | nil=>rfl
 | cons c r =>
  simp only [Option.bind_some,dF];have hr:r.length≤1000000:=by simp at hs;omega
  cases hc:c==95 with
  | true =>
   simp only [cond_true];rw [aK (by simp)];simp only [List.drop_succ_cons,List.drop_zero,lr];rw [aK (by omega)];simp only [Option.bind_some];by_cases h9:r.length≤9
   ·by_cases h1:1≤r.length
    ·rw [Mr h1,Mr h9];simp only [Bool.true_and];have hne:r≠[]:=by intro e;subst e;simp at h1
     have hhd:(r.getD 0 0==48)=decide (r.head? = some 48):=by
      cases r with
      | nil=>exact absurd rfl hne
      | cons x l=>simp;rw [Bool.eq_iff_iff];simp
     have key:∀ v:Int,0<v→v≤9223372036854775807→iw v=some (Lib.decDigits v.toNat)∨True:=fun _ _ _=>.inr trivial;by_cases hall:r.all b7=true
     ·obtain ⟨a1,a2⟩:=wZ hne hall h9;simp only [qn,a1,cond_true];by_cases h48:r.head? = some 48
      ·
       rw [hhd,Mr h48];simp only [Bool.not_true,Bool.false_and];by_cases hz:kC 0 r=0
       ·rw [hz];rfl
       ·rw [Mr (by omega:(kC 0 r:Int)>0),Mr (by simp;omega:(((c::r).length:Nat):Int)≤10)];simp only [cond_true,iw,rB];have hlen:(Lib.itoa (kC 0 r:Int)).length≤21:=Lib.itoa_length_le _ (by omega) (by omega);rw [aK ⟨by omega,by omega,by omega⟩];simp only [Option.bind_some,Mv];rw [Lib.itoa_nonneg,beq_eq_false_iff_ne];intro e;exact (tP (kC 0 r)).2.1 (by omega) (by rw [e];exact h48)
      ·obtain ⟨d1,d2⟩:=Jo r hall hne h48;rw [hhd,Mq h48,hall];simp only [Bool.not_false,Bool.true_and];rw [Mr (by omega:(kC 0 r:Int)>0),Mr (by simp;omega:(((c::r).length:Nat):Int)≤10)];simp only [cond_true,iw,rB];have hlen:(Lib.itoa (kC 0 r:Int)).length≤21:=Lib.itoa_length_le _ (by omega) (by omega);rw [aK ⟨by omega,by omega,by omega⟩];simp only [Option.bind_some,Mv];rw [Lib.itoa_nonneg,d2];simp
     ·have hall:r.all b7=false:=by simpa using hall
      rw [hall];simp only [Bool.and_false];cases ha:Lib.atoiAll r with
      | ok v =>
       simp only [qn,ha,cond_true];by_cases hv:v>0
       ·rw [Mr hv,Mr (by simp;omega:(((c::r).length:Nat):Int)≤10)];simp only [cond_true,iw,rB];have hvb:v≤9223372036854775807:=by
         cases r with
         | nil=>exact absurd rfl hne
         | cons x l =>
          unfold Lib.atoiAll at ha;simp only at ha;split at ha
          ·cases ha
          ·cases ha
          ·split at ha
           ·cases ha
           ·split at ha
            ·cases ha
            ·rename_i h1 h2;simp only [Lib.NumEnd.ok.injEq] at ha;rw [← ha];split
             ·omega
             ·rename_i h3;have:=h1;simp only [h3,not_false_eq_true,true_and] at this;omega
        have hlen:(Lib.itoa v).length≤21:=Lib.itoa_length_le _ (by omega) hvb;rw [aK ⟨by omega,hvb,by omega⟩];simp only [Option.bind_some,Mv];rw [beq_eq_false_iff_ne];intro e;have:(Lib.itoa v).all b7=true:=by unfold Lib.itoa;rw [if_neg (by omega)];exact (tP _).1
        rw [e,hall] at this;cases this
       ·rw [Mq hv];rfl
      | range=>simp [qn,ha]
      | _=>simp [qn,ha]
    ·have:r=[]:=List.eq_nil_of_length_eq_zero (by omega);subst this;rfl
   ·rw [Mq h9,Mq (by simp;omega:¬ (((c::r).length:Nat):Int)≤10)];simp only [cond_false,Bool.false_and,Bool.and_false];cases (qn r).2<;>cases decide ((qn r).1>0)<;>rfl
  | false =>
   simp only [cond_false];rw [oz (fun j=>isLet ((c::r).getD j 0)||(!(((j:Nat):Int)==0)&&b7 ((c::r).getD j 0))) _ _ () (fun j u _ _=>by
    simp only [isLet,b7];generalize (c::r).getD j 0=x;by_cases h1:(x.toNat:Int)<97
    ·rw [Mr h1,Mq (show ¬ 97≤x.toNat by omega)];simp only [cond_true,Bool.false_and,Bool.false_or];cases ((j:Nat):Int)==0
     ·simp only [cond_false,Bool.not_false,Bool.true_and];by_cases h2:(x.toNat:Int)<48
      ·rw [Mr h2,Mq (show ¬ 48≤x.toNat by omega)];rfl
      ·rw [Mq h2,Mr (show 48≤x.toNat by omega)];by_cases h3:(x.toNat:Int)>57
       ·rw [Mr h3,Mq (show ¬ x.toNat≤57 by omega)];rfl
       ·rw [Mq h3,Mr (show x.toNat≤57 by omega)];rfl
     ·rfl
    ·rw [Mq h1,Mr (show 97≤x.toNat by omega)];simp only [cond_false,Bool.true_and];by_cases h2:(x.toNat:Int)>122
     ·rw [Mr h2,Mq (show ¬ x.toNat≤122 by omega),Mq (show ¬ x.toNat≤57 by omega),Mq (show ¬ (x.toNat:Int)<48 by omega),Mr (show (x.toNat:Int)>57 by omega)];cases ((j:Nat):Int)==0<;>simp [Sh.aft]
     ·rw [Mq h2,Mr (show x.toNat≤122 by omega)];simp [Sh.aft]),pS]
   have e:(List.range' 0 ((c::r).length-0)).all (fun j=>isLet ((c::r).getD j 0)||(!(((j:Nat):Int)==0)&&b7 ((c::r).getD j 0)))=(isLet c&&r.all (fun b=>isLet b||b7 b)):=by
    rw [show (c::r).length-0=r.length+1 by simp,List.range'_succ,List.all_cons];have e0:(isLet ((c::r).getD 0 0)||(!(((0:Nat):Int)==0)&&b7 ((c::r).getD 0 0)))=isLet c:=by simp
    rw [e0];congr 1;rw [all_congr (q:=fun j=>(fun b=>isLet b||b7 b) ((c::r).getD j 0)) _ _ (fun j h1 _=>by
     have:(((j:Nat):Int)==0)=false:=by simp;omega
     simp only [this,Bool.not_false,Bool.true_and])]
    have:=lD (fun b=>isLet b||b7 b) 0 (c::r) 1;simpa using this
   rw [e];have e2:((c::r)==[])=false:=rfl;rw [e2];simp only [cond_false];by_cases h30:r.length≤29
   ·rw [Mr h30,Mr (by simp;omega:(((c::r).length:Nat):Int)≤30)];cases isLet c&&r.all (fun b=>isLet b||b7 b)<;>rfl
   ·rw [Mq h30,Mq (by simp;omega:¬ (((c::r).length:Nat):Int)≤30)];cases isLet c&&r.all (fun b=>isLet b||b7 b)<;>rfl
def Bk (n:Int):Bool:=decide (-1000000≤n)&&decide (n≤1000000)
theorem tM (n:Int):mx n=some (Bk n):=by
 unfold mx Bk;by_cases h:n ≥ -1000000
 ·rw [Mr h];rfl
 ·rw [Mq h];rfl
theorem rS (n:Int):jG n=some (Bk n):=by
 unfold jG Bk;by_cases h:n ≥ -1000000
 ·rw [Mr h];rfl
 ·rw [Mq h];rfl
def yv (l:Linear) (j:Nat):au:=l.Terms.getD j ⟨[],0⟩
def kB (l:Linear) (j:Nat):Bool:=dF (yv l j).Var&&(!((yv l j).C==0)&&(Bk (yv l j).C&&(!decide (((j:Nat):Int)>0)||Op.bytesLess (yv l (j-1)).Var (yv l j).Var)))
def ax (l:Linear):Bool:=(List.range' 0 (l.Terms.length-0)).all (kB l)&&(Bk l.Const&&decide (l.Terms.length≤12))
theorem BU {j:Nat} (h:0<j) (h2:j≤9223372036854775807):aS (((j:Nat):Int)-1)=((j-1:Nat):Int):=by rw [rh (by unfold vE;omega)];omega
theorem Jj {l:List au} {n:Nat} (h:∀ t∈l,t.Var.length≤n) (j:Nat):(l.getD j ⟨[],0⟩).Var.length≤n:=by
 rw [Mk];cases h1:l[j]? with
 | none=>simp
 | some x=>exact h x (List.mem_of_getElem? h1)
theorem bP (l:Linear) (h1:l.Terms.length≤1000000) (h2:∀ t∈l.Terms,t.Var.length≤1000000):bE l=some (ax l):=by
 unfold bE;rw [oz (kB l) _ _ () (fun j u _ hj=>by
  rw [nh _ (Jj h2 j),tM];simp only [kB,yv,Option.bind_some];cases dF (l.Terms.getD j ⟨[],0⟩).Var
  ·rfl
  ·cases (l.Terms.getD j ⟨[],0⟩).C==0
   ·cases Bk (l.Terms.getD j ⟨[],0⟩).C
    ·rfl
    ·by_cases hp:0<j
     ·rw [Mr (show ((j:Nat):Int)>0 by omega),BU hp (by omega)];rw [aK (by omega)];simp only [Int.toNat_natCast,cond_true,cond_false,Bool.not_true,Bool.false_or,Bool.true_and,Bool.not_false];cases Op.bytesLess (l.Terms.getD (j-1) ⟨[],0⟩).Var (l.Terms.getD j ⟨[],0⟩).Var<;>rfl
     ·rw [Mq (show ¬ ((j:Nat):Int)>0 by omega)];rfl
   ·rfl),pS,tM]
 unfold ax;cases (List.range' 0 (l.Terms.length-0)).all (kB l)
 ·rfl
 ·cases Bk l.Const
  ·rfl
  ·simp only [cond_true,Option.bind_some,Bool.true_and,Mv];rw [decide_eq_decide];omega
theorem xL (l:Linear):kW l=some (ax l):=by
 unfold kW;rw [rS];unfold ax;by_cases h12:l.Terms.length≤12
 ·rw [Mq (show ¬ ((l.Terms.length:Nat):Int)>12 by omega),Mr h12];rw [oz (kB l) _ _ () (fun j u _ hj=>by
   rw [yg,rS];simp only [kB,yv,Option.bind_some];cases dF (l.Terms.getD j ⟨[],0⟩).Var
   ·rfl
   ·cases (l.Terms.getD j ⟨[],0⟩).C==0
    ·cases Bk (l.Terms.getD j ⟨[],0⟩).C
     ·rfl
     ·by_cases hp:0<j
      ·rw [Mr (show ((j:Nat):Int)>0 by omega),BU hp (by omega)];rw [aK (by omega)];simp only [Int.toNat_natCast,cond_true,cond_false,Bool.not_true,Bool.false_or,Bool.true_and,Bool.not_false];cases Op.bytesLess (l.Terms.getD (j-1) ⟨[],0⟩).Var (l.Terms.getD j ⟨[],0⟩).Var<;>rfl
      ·rw [Mq (show ¬ ((j:Nat):Int)>0 by omega)];rfl
    ·rfl),pS]
  cases (List.range' 0 (l.Terms.length-0)).all (kB l)<;>cases Bk l.Const<;>rfl
 ·rw [Mr (show ((l.Terms.length:Nat):Int)>12 by omega),Mq h12];cases (List.range' 0 (l.Terms.length-0)).all (kB l)<;>cases Bk l.Const<;>rfl
theorem K3 {a b:Nat}:decide (((a:Nat):Int)≤(b:Int))=decide (a≤b):=by rw [decide_eq_decide];omega
theorem vp (l:Linear):Linear.mk l.Const l.Terms=l:=rfl
theorem LH (s:Shape):Shape.mk s.Row s.Dims=s:=rfl
def nW (s:Shape):Bool:=s.Dims.all ax&&(decide (s.Dims.length≤6)&&(s.Row.isEmpty||dF s.Row))
theorem v7 (s:ak):(s==[])=s.isEmpty:=by cases s<;>rfl
def Ac (l:Linear):Prop:=l.Terms.length≤1000000∧∀ t∈l.Terms,t.Var.length≤1000000
def Je (s:Shape):Prop:=s.Row.length≤1000000∧∀ l∈s.Dims,Ac l
theorem tE {ls:List Linear} (h:∀ l∈ls,Ac l) (j:Nat):Ac (ls.getD j ⟨0,[]⟩):=by
 rw [Mk];cases h1:ls[j]? with
 | none=>exact ⟨by simp,fun t ht=>by simp at ht⟩
 | some x=>exact h x (List.mem_of_getElem? h1)
theorem Ah (ls:List Linear) (h:∀ l∈ls,Ac l):bw ls=some (!ls.all ax):=by
 unfold bw cT;rw [o8 (f:=fun j=>((j:Nat):Int)) (fun j=>(fun l => !ax l) (ls.getD j ⟨0,[]⟩)) _ _ () (fun j u _ _=>by rw [vp];unfold kU;rw [bP _ (tE h j).1 (tE h j).2];simp only [Option.bind_some];cases ax (ls.getD j ⟨0,[]⟩)<;>rfl)]
 have hf:=mB (fun l => !ax l) ⟨0,[]⟩ ls;have hn:=pc (fun l => !ax l) ls;have e:ls.any (fun l => !ax l) = !ls.all ax:=by simp [List.any_eq_not_all_not]
 rw [e] at hn;generalize (List.range' 0 (ls.length-0)).find? (fun j=>(fun l => !ax l) (ls.getD j ⟨0,[]⟩))=x at hf;cases x with
 | none =>
  simp only at hf;have h1:(!ls.all ax)=false:=hn.1 (by omega);rw [h1];rfl
 | some j =>
  simp only at hf;have h1:(!ls.all ax)=true:=by
   cases hb : !ls.all ax
   ·have:=hn.2 hb;omega
   ·rfl
  rw [h1];simp only [Option.bind_some,Sh.aft];rw [Mr (by omega:((j:Nat):Int)≥0)]
theorem kg (s:Shape) (h:Je s):dj s=some (nW s):=by unfold dj nW;rw [v7,Ah _ h.2,nh _ h.1,show (6:Int)=((6:Nat):Int) from rfl,K3];cases s.Row.isEmpty<;>cases dF s.Row<;>cases decide (s.Dims.length≤6)<;>cases s.Dims.all ax<;>rfl
def xV:ak→Bool
 | []=>false
 | c::r=>decide (r.length≤29)&&((decide (65≤c.toNat)&&decide (c.toNat≤90))&&r.all b7)
theorem dropWhile_nil {α:Type} (p:α→Bool):∀ l:List α,(l.dropWhile p=[])↔l.all p=true
 | []=>by simp
 | x::l=>by
  simp only [List.dropWhile_cons,List.all_cons,Mm];cases hp:p x
  ·simp
  ·simp [dropWhile_nil p l]
theorem rQ {α:Type} (p:α→Bool):∀ (l:List α) {x:α} {r:List α},l.dropWhile p=x::r→p x=false
 | [],x,r,h=>by simp at h
 | y::l,x,r,h=>by
  simp only [List.dropWhile_cons] at h;cases hp:p y
  ·rw [hp] at h;simp at h;rw [← h.1];exact hp
  ·rw [hp] at h;simp at h;exact rQ p l h
theorem GU (l cs:ak):(Lib.trimS l cs=[])↔l.all cs.contains=true:=by
 unfold Lib.trimS Lib.trimLeftS Lib.trimRightS;rw [dropWhile_nil];constructor
 ·intro h;cases hd:l.reverse.dropWhile (cs.contains ·) with
  | nil =>
   have:=(dropWhile_nil (cs.contains ·) l.reverse).1 hd;simpa using this
  | cons x r =>
   have h1:=rQ _ _ hd;rw [hd] at h;simp only [List.all_reverse,List.all_cons,Mm] at h;have h2:=h.1;rw [h2] at h1;cases h1
 ·intro h;have:l.reverse.dropWhile (cs.contains ·)=[]:=(dropWhile_nil (cs.contains ·) l.reverse).2 (by simpa using h);rw [this];rfl
theorem vJ (b:UInt8):([48,49,50,51,52,53,54,55,56,57]:ak).contains b=b7 b:=by
 rw [Bool.eq_iff_iff];simp only [List.contains_iff_mem,List.mem_cons,List.mem_nil_iff,or_false,b7,Mm,decide_eq_true_eq,← UInt8.toNat_inj];have:(48:UInt8).toNat=48∧(49:UInt8).toNat=49∧(50:UInt8).toNat=50∧(51:UInt8).toNat=51∧(52:UInt8).toNat=52∧(53:UInt8).toNat=53∧(54:UInt8).toNat=54∧(55:UInt8).toNat=55∧(56:UInt8).toNat=56∧(57:UInt8).toNat=57:=by decide
 omega
theorem fN (s:ak):cX s=some (xV s):=by
 unfold cX;cases s with
 | nil=>rfl
 | cons c r =>
  rw [Mq (by simp;omega:¬ (((c::r).length:Nat):Int)<1)];simp only [cond_false,xV];by_cases h29:r.length≤29
  ·rw [Mq (by simp;omega:¬ (((c::r).length:Nat):Int)>30),Mr h29,aK (by simp)];simp only [cond_false,Bool.true_and,List.getD_cons_zero];by_cases h65:65≤c.toNat
   ·rw [Mq (show ¬ (c.toNat:Int)<65 by omega),Mr h65];by_cases h90:c.toNat≤90
    ·rw [Mq (show ¬ (c.toNat:Int)>90 by omega),Mr h90,aK (by simp)];simp only [cond_false,Bool.true_and,List.drop_succ_cons,List.drop_zero,qx];rw [aK (by decide)];simp only [Option.bind_some,Mv];have hc:(([48,49,50,51,52,53,54,55,56,57]:ak).contains)=b7:=funext vJ;rw [Bool.eq_iff_iff,beq_iff_eq,GU,hc]
    ·rw [Mr (show (c.toNat:Int)>90 by omega),Mq h90];rfl
   ·rw [Mr (show (c.toNat:Int)<65 by omega),Mq h65];rfl
  ·rw [Mr (by simp;omega:(((c::r).length:Nat):Int)>30),Mq h29];rfl
abbrev pq:Bind:=⟨0,[],⟨0,[]⟩,⟨[],[]⟩,[]⟩
theorem J3 (b:Bind):Bind.mk b.Kind b.Var b.Dim b.Row b.Elem=b:=rfl
def iD (k:Int) (v:ak) (b:Bind):Bool:=b.Kind==k&&b.Var==v
theorem xh (l:List Bind) (p:Bind→Bool):∀ x:Option Nat,(match x with | some j=>((j:Nat):Int) | none => -1)=idxOf p l →
 ((some (match x with | some j=>Out.ret ((j:Nat):Int) | none=>Out.brk ()):Option (Out Unit Int)).bind (Sh.aft fun _=>some (-1)))=some (idxOf p l)
 | none,hx=>by rw [← hx];rfl
 | some j,hx=>by rw [← hx];rfl
theorem sF (l:List Bind) (k:Int) (v:ak):jf l k v=some (idxOf (iD k v) l):=by
 unfold jf dq;rw [o8 (f:=fun j=>((j:Nat):Int)) (fun j=>iD k v (l.getD j pq)) _ _ () (fun j u _ _=>by
  unfold mq iD;simp only;cases (l.getD j pq).Kind==k
  ·rfl
  ·cases (l.getD j pq).Var==v<;>rfl)]
 exact congrArg (fun o:Option Int=>o.bind fun y=>some y) (xh l (iD k v) _ (mB (iD k v) pq l))
def GW (l:Linear):Bool:=l.Const==0&&l.Terms.isEmpty
def Ev (s:Shape):Bool:=s.Row.isEmpty&&s.Dims.isEmpty
def Ay (s:ak):Bool:=s==[105,110,116]||(s==[98,111,111,108]||xV s)
def xH (b:Bind):Bool :=
 bif b.Kind==1 then (dF b.Var&&(ax b.Dim&&(Ev b.Row&&b.Elem.isEmpty)))
 else bif b.Kind==2 then (dF b.Var&&(nW b.Row&&(GW b.Dim&&b.Elem.isEmpty)))
 else bif b.Kind==3 then (xV b.Var&&(Ay b.Elem&&(GW b.Dim&&Ev b.Row))) else false
def okB (b:Bind):Prop:=b.Var.length≤1000000∧Ac b.Dim∧Je b.Row
theorem xq (b:Bind) (h:okB b):lp b=some (xH b):=by
 unfold lp xH GW Ev Ay;rw [nh _ h.1,bP _ h.2.1.1 h.2.1.2,kg _ h.2.2,fN,fN,xT,xT,v7,v7];cases b.Dim.Const==0<;>cases b.Row.Row.isEmpty<;>simp only [cond_true,cond_false,Option.bind_some,Bool.true_and,Bool.false_and] <;>
 (cases b.Kind==1
  ·cases b.Kind==2
   ·cases b.Kind==3
    ·rfl
    ·cases xV b.Var
     ·rfl
     ·cases b.Elem==[105,110,116]<;>cases b.Elem==[98,111,111,108]<;>cases xV b.Elem<;>cases b.Dim.Terms.isEmpty<;>cases b.Row.Dims.isEmpty<;>rfl
   ·cases dF b.Var
    ·rfl
    ·cases nW b.Row<;>cases b.Dim.Terms.isEmpty<;>cases b.Elem.isEmpty<;>rfl
  ·cases dF b.Var
   ·rfl
   ·cases ax b.Dim<;>cases b.Row.Dims.isEmpty<;>cases b.Elem.isEmpty<;>rfl)
def tO (l:List Bind) (j:Nat):Bool:=xH (l.getD j pq) && !decide (idxOf (iD (l.getD j pq).Kind (l.getD j pq).Var) (l.take j)≥0)
def kT (l:List Bind):Bool:=(List.range' 0 (l.length-0)).all (tO l)
theorem xB {l:List Bind} (h:∀ b∈l,okB b) (j:Nat):okB (l.getD j pq):=by
 rw [Mk];cases h1:l[j]? with
 | none=>exact ⟨by simp,⟨by simp,fun t ht=>by simp at ht⟩,⟨by simp,fun t ht=>by simp at ht⟩⟩
 | some x=>exact h x (List.mem_of_getElem? h1)
theorem lZ (l:List Bind) (h:∀ b∈l,okB b):dZ l=some (kT l):=by
 unfold dZ kT;rw [oz (tO l) _ _ () (fun j u _ _=>by
  have e:=xq (l.getD j pq) (xB h j);have e2:=sF (l.take j) (l.getD j pq).Kind (l.getD j pq).Var;simp only [vp,LH,J3];rw [e,e2];simp only [Option.bind_some,tO];cases xH (l.getD j pq)
  ·rfl
  ·cases decide (idxOf (iD (l.getD j pq).Kind (l.getD j pq).Var) (l.take j)≥0)<;>rfl),pS]
 cases (List.range' 0 (l.length-0)).all (tO l)<;>rfl
theorem xv (l:Linear) (h:l.Terms.length≤1000000):il l=some (l.Terms.map (·.Var)):=by
 unfold il;obtain ⟨s',e1,e2,_⟩:=Aw (fin:=fun _ s=>s) (body:=fun i18 s17 =>
  bX ((s17.length+1)*16≤140737488355328) <|
  some (.go (s17++[((l.Terms.getD i18 ⟨[],0⟩).Var)]))) (ε:=List ak) (ρ:=Empty) (fun j s=>s++[(l.Terms.getD j ⟨[],0⟩).Var]) (fun j s=>s.length=j) (l.Terms.length-0) 0 [] rfl (fun j s _ hj hI=>by refine ⟨by rw [aK (by omega)],by simp [hI]⟩)
 rw [e1];simp only [Option.bind_some,dL,Mv];rw [e2];have:=pW (fun (s:List ak) (t:au)=>s++[t.Var]) ⟨[],0⟩ l.Terms 0 [];rw [this];simp only [List.drop_zero];have gen:∀ (ts:List au) (s:List ak),ts.foldl (fun s t=>s++[t.Var]) s=s++ts.map (·.Var):=by
  intro ts;induction ts with
  | nil=>intro s;simp
  | cons t ts ih=>intro s;simp [ih]
 rw [gen];rfl
theorem b8 {l:Linear} (h:ax l=true):l.Terms.length≤12:=by simp only [ax,Mm,decide_eq_true_eq] at h;exact h.2.2
theorem A7 {s:Shape} (h:nW s=true):s.Dims.length≤6∧∀ j,(s.Dims.getD j ⟨0,[]⟩).Terms.length≤12:=by
 simp only [nW,Mm,decide_eq_true_eq,My] at h;refine ⟨h.2.1,fun j => ?_⟩;rw [Mk];cases h1:s.Dims[j]? with
 | none=>simp
 | some x=>exact b8 (h.1 x (List.mem_of_getElem? h1))
end Go.Proofs.YtoebmibmmlcfiaaGreatDoor
namespace Go.Sh
theorem nv {α:Type} [DecidableEq α]:∀ (l l':List α),l.Nodup→(∀ x∈l,x∈l')→l.length≤l'.length
 | [],l',_,_=>by simp
 | a::l,l',h,hs=>by
  rw [List.nodup_cons] at h;have ha:a∈l':=hs a (by simp);have ih:=nv l (l'.erase a) h.2 (fun x hx=>by have hne:x≠a:=fun e=>h.1 (e ▸ hx);exact (List.mem_erase_of_ne hne).2 (hs x (by simp [hx])))
  rw [List.length_erase_of_mem ha] at ih;have:0<l'.length:=List.length_pos_of_mem ha;simp only [List.length_cons];omega
theorem Kd {V σ ε β:Type} {m:List (ak×V)} {body:ak×V→σ→Option (fE σ ε β)} {K:σ→Prop} {J:β→Prop} (I:List Nat→σ→Prop) (g:σ→ak×V→σ)
 (hstep:∀ seen s i (h:i<m.length),seen.Nodup→i ∉ seen→(∀ j∈seen,j<m.length)→I seen s→body m[i] s=some (.go (g s m[i]))∧I (seen++[i]) (g s m[i]))
 (hend:∀ seen s,seen.Nodup→(∀ i,i<m.length→i∈seen)→(∀ i∈seen,i<m.length)→I seen s→K s) :
 ∀ (n:Nat) (seen:List Nat) (s:σ),seen.Nodup→(∀ i∈seen,i<m.length)→n+seen.length=m.length→I seen s→MR m body K J n seen s
 | 0,seen,s,h1,h2,h3,hI=>by
  have hall:∀ i,i<m.length→i∈seen:=by
   intro i hi;refine Classical.byContradiction fun hn => ?_;have:=nv (i::seen) (List.range m.length) (List.nodup_cons.2 ⟨hn,h1⟩) (fun x hx=>by
    rcases List.mem_cons.1 hx with rfl | hx
    ·simpa using hi
    ·simpa using h2 x hx)
   simp at this;omega
  exact ⟨hall,hend seen s h1 hall h2 hI⟩
 | n+1,seen,s,h1,h2,h3,hI=>by
  refine ⟨?_,fun i hi hn => ?_⟩
  ·refine Classical.byContradiction fun hn => ?_;have:=nv (List.range m.length) seen List.nodup_range (fun x hx=>Classical.byContradiction fun hx2=>hn ⟨x,by simpa using hx,hx2⟩);simp at this;omega
  ·obtain ⟨e1,e2⟩:=hstep seen s i hi h1 hn h2 hI;refine ⟨_,e1,?_⟩;have hnd:(seen++[i]).Nodup:=by
    rw [List.nodup_append];exact ⟨h1,by simp,fun a ha b hb=>by
     have:b=i:=by simpa using hb
     subst this;intro e;subst e;exact hn ha⟩
   exact Kd I g hstep hend n (seen++[i]) _ hnd (fun j hj=>by
    rcases List.mem_append.1 hj with hj | hj
    ·exact h2 j hj
    ·have:j=i:=by simpa using hj
     subst this;exact hi) (by simp;omega) e2
def yd (x y:ak):Bool:=decide (x≤y)
theorem yY (a b c:ak) (h1:yd a b=true) (h2:yd b c=true):yd a c=true:=by simp only [yd,decide_eq_true_eq] at *;exact List.le_trans h1 h2
theorem zt (a b:ak):(yd a b||yd b a)=true:=by simp only [yd,Bool.or_eq_true,decide_eq_true_eq];exact List.le_total a b
theorem xS (a b:ak) (h1:yd a b=true) (h2:yd b a=true):a=b:=by simp only [yd,decide_eq_true_eq] at *;exact List.le_antisymm h1 h2
theorem qY (l:List ak):(Go.Ab.sortS l).Pairwise (fun a b=>yd a b=true):=Go.Ab.msort_pw yY zt l
theorem uI (l:List ak):(Go.Ab.sortS l).Perm l:=Go.Ab.msort_perm l _
theorem Ec {l r:List ak} (hs:r.Pairwise (fun a b=>yd a b=true)) (hp:r.Perm l):Go.Ab.sortS l=r :=
 List.Perm.eq_of_pairwise (fun a b _ _=>xS a b) (qY l) hs ((uI l).trans hp.symm)
theorem xd {l r:List ak} (h:l.Perm r):Go.Ab.sortS l=Go.Ab.sortS r:=Ec (qY r) ((uI r).trans h.symm)
def Dd (x:ak):List ak→List ak
 | []=>[x]
 | y::l=>bif yd x y then x::y::l else y::Dd x l
def l8:List ak→List ak
 | []=>[]
 | x::l=>Dd x (l8 l)
theorem uB (x:ak):∀ l,(Dd x l).Perm (x::l)
 | []=>.refl _
 | y::l=>by
  simp only [Dd];cases yd x y
  ·exact ((uB x l).cons y).trans (.swap _ _ _)
  ·exact .refl _
theorem vo (x:ak):∀ {l:List ak},l.Pairwise (fun a b=>yd a b=true)→(Dd x l).Pairwise (fun a b=>yd a b=true)
 | [],_=>by simp [Dd]
 | y::l,h=>by
  rw [List.pairwise_cons] at h;simp only [Dd];cases hxy:yd x y
  ·simp only [cond_false,List.pairwise_cons];have hyx:yd y x=true:=by have:=zt x y;rw [hxy] at this;simpa using this
   refine ⟨fun a ha => ?_,vo x h.2⟩;rcases List.mem_cons.1 ((uB x l).mem_iff.1 ha) with rfl | ha
   ·exact hyx
   ·exact h.1 a ha
  ·simp only [cond_true,List.pairwise_cons];refine ⟨fun a ha => ?_,h⟩;rcases List.mem_cons.1 ha with rfl | ha
   ·exact hxy
   ·exact yY _ _ _ hxy (h.1 a ha)
theorem iA:∀ l,(l8 l).Perm l
 | []=>.refl _
 | x::l=>(uB x _).trans ((iA l).cons x)
theorem pZ:∀ l,(l8 l).Pairwise (fun a b=>yd a b=true)
 | []=>List.Pairwise.nil
 | x::l=>vo x (pZ l)
theorem HH (l:List ak):Go.Ab.sortS l=l8 l:=Ec (pZ l) (iA l)
def uU:List ak→Bool
 | []=>true
 | x::l => !(l.any fun y=>y==x)&&uU l
theorem yT:∀ {l:List ak},uU l=true→l.Nodup
 | [],_=>List.nodup_nil
 | x::l,h=>by simp only [uU,Mm,Bool.not_eq_true',List.any_eq_false,beq_iff_eq] at h;exact List.nodup_cons.2 ⟨fun hm=>h.1 x hm rfl,yT h.2⟩
end Go.Sh
namespace Go.Proofs.YtoebmibmmlcfiaaGreatDoor
open Go.Ab Go.Sh
def bD (m:List (ak×Int)):List ak:=(m.filter fun e => !(e.2==0)).map (·.1)
def p8 (n:Int) (m:List (ak×Int)) (names:List ak):Linear×Int :=
 bif ax (Linear.mk n (names.map fun k=>au.mk k (be 0 k m))) then (Linear.mk n (names.map fun k=>au.mk k (be 0 k m)),0) else (Linear.mk 0 [],3)
def xe (m:List (ak×Int)):Bool:=uU (m.map (·.1))&&(decide (m.length≤1000)&&m.all fun e=>decide (e.1.length≤1000000))
theorem GV (m:List (ak×Int)) (y:List ak) (hy:y.length≤1000000):(fA (σ:=(List au)) (ε:=(List au)) (ρ:=Empty) (fun i117 s116 =>
 bX ((s116.length+1)*24≤140737488355328) <|
 some (.go (s116++[(au.mk (y.getD i117 []) (be 0 (y.getD i117 []) m))]))
 ) (fun i117 s116=>s116) (y.length-0) 0 [])=some (.brk (y.map fun k=>au.mk k (be 0 k m))):=by
 obtain ⟨s',e1,e2,_⟩:=Aw (fin:=fun _ s=>s) (body:=fun i117 s116 =>
  bX ((s116.length+1)*24≤140737488355328) <|
  some (.go (s116++[(au.mk (y.getD i117 []) (be 0 (y.getD i117 []) m))]))) (ε:=List au) (ρ:=Empty) (fun j s=>s++[(fun k=>au.mk k (be 0 k m)) (y.getD j [])]) (fun j s=>s.length=j) (y.length-0) 0 [] rfl (fun j s _ hj hI=>⟨by rw [aK (by omega)],by simp [hI]⟩)
 rw [e1,e2];have:=pW (fun (s:List au) (k:ak)=>s++[(fun k=>au.mk k (be 0 k m)) k]) [] y 0 [];rw [this];have gen:∀ (ts:List ak) (s:List au),ts.foldl (fun s k=>s++[(fun k=>au.mk k (be 0 k m)) k]) s=s++ts.map (fun k=>au.mk k (be 0 k m)):=by
  intro ts;induction ts with
  | nil=>intro s;simp
  | cons t ts ih=>intro s;simp [ih]
 rw [List.drop_zero,gen];rfl
theorem Gt (n:Int) (m:List (ak×Int)) (hm:xe m=true) (s:List ak) (hp:s.Perm (bD m)) :
 ((iT s).bind fun y97 =>
 (fA (σ:=(List au)) (ε:=(List au)) (ρ:=Empty) (fun i117 s116 =>
  bX ((s116.length+1)*24≤140737488355328) <|
  some (.go (s116++[(au.mk (y97.getD i117 []) (be 0 (y97.getD i117 []) m))]))
 ) (fun i117 s116=>s116) (y97.length-0) 0 []).bind <| dL fun u148 =>
 (bE (Linear.mk n u148)).bind fun y151 =>
 bif y151 then (
  some ((Linear.mk n u148),0)
 ) else (
  some ((Linear.mk 0 []),3)
 ))=some (p8 n m (l8 (bD m))):=by
 simp only [xe,Mm,decide_eq_true_eq,My] at hm;obtain ⟨_,hl,hk⟩:=hm;have hlen:(bD m).length≤m.length:=by unfold bD;rw [Mt];exact List.length_filter_le _ _
 have hs:s.length≤1000:=by rw [hp.length_eq];omega
 unfold iT;rw [aK (by omega)];simp only [Option.bind_some];rw [xd hp,HH];have hsi:(l8 (bD m)).length≤1000:=by rw [(iA _).length_eq];omega
 rw [GV m _ (by omega)];simp only [Option.bind_some,dL];rw [bP _ (by simp;omega) (fun t ht=>by obtain ⟨k,hk1,rfl⟩:=List.mem_map.1 ht;have hk2:=(iA _).mem_iff.1 hk1;obtain ⟨e,he,rfl⟩:=List.mem_map.1 hk2;exact hk e (List.mem_filter.1 he).1)]
 simp only [Option.bind_some,p8];cases ax (Linear.mk n ((l8 (bD m)).map fun k=>au.mk k (be 0 k m)))<;>rfl
theorem HN {β:Type} (m:List (ak×Int)) (hm:xe m=true) (k:List ak→Option β) (v:β) (hk:∀ s,s.Perm (bD m)→k s=some v) :
 lg (σ:=(List ak)) (ε:=Empty) (β:=β) m (fun e164 s94 =>
 bif (e164.2==0) then (
  some (.go s94)
 ) else (
  bX ((s94.length+1)*16≤140737488355328) <|
  some (.go (s94++[e164.1]))
 )) [] k=some v:=by
 simp only [xe,Mm,decide_eq_true_eq,My] at hm;obtain ⟨hnd,hl,_⟩:=hm;have hnd:=yT hnd;have hinj:∀ i j (hi:i<m.length) (hj:j<m.length),m[i].1=m[j].1→i=j:=by
  intro i j hi hj e;have h1:(m.map (·.1))[i]'(by simpa using hi)=(m.map (·.1))[j]'(by simpa using hj):=by simpa using e
  exact (List.getElem_inj hnd).1 h1
 refine rL (Kd (fun seen s=>s.Nodup∧s.length≤seen.length∧∀ x,x∈s↔∃ i,i∈seen∧∃ h:i<m.length,m[i].1=x∧m[i].2≠0) (fun s e=>bif e.2==0 then s else s++[e.1]) ?_ ?_ m.length [] [] List.nodup_nil (fun i hi=>by simp at hi) (by simp) ⟨List.nodup_nil,by simp,fun x=>by simp⟩)
 ·rintro seen s i hi hs1 hs2 hs3 ⟨i1,i2,i3⟩;have hsl:seen.length≤m.length:=by have:=nv seen (List.range m.length) hs1 (fun x hx=>by simpa using hs3 x hx);simpa using this
  cases hz:m[i].2==0 with
  | true =>
   have hz':m[i].2=0:=by simpa using hz
   refine ⟨rfl,i1,by simp;omega,fun x => ?_⟩;simp only [cond_true];rw [i3];constructor
   ·rintro ⟨j,h1,h2⟩;exact ⟨j,by simp [h1],h2⟩
   ·rintro ⟨j,h1,h2,h3,h4⟩;rcases List.mem_append.1 h1 with h1 | h1
    ·exact ⟨j,h1,h2,h3,h4⟩
    ·have:j=i:=by simpa using h1
     subst this;exact absurd hz' h4
  | false =>
   have hz':m[i].2≠0:=by simpa using hz
   simp only [cond_false];rw [aK (by omega)];refine ⟨rfl,?_,by simp;omega,fun x => ?_⟩
   ·rw [List.nodup_append];refine ⟨i1,by simp,fun a ha b hb => ?_⟩;have hb:b=m[i].1:=by simpa using hb
    subst hb;intro e;obtain ⟨j,h1,h2,h3,_⟩:=(i3 a).1 ha;exact hs2 (hinj j i h2 hi (h3.trans e) ▸ h1)
   ·rw [List.mem_append,i3];constructor
    ·rintro (⟨j,h1,h2⟩ | h)
     ·exact ⟨j,by simp [h1],h2⟩
     ·have h:x=m[i].1:=by simpa using h
      exact ⟨i,by simp,hi,h.symm,hz'⟩
    ·rintro ⟨j,h1,h2,h3,h4⟩;rcases List.mem_append.1 h1 with h1 | h1
     ·exact .inl ⟨j,h1,h2,h3,h4⟩
     ·have:j=i:=by simpa using h1
      subst this;exact .inr (by simp [h3])
 ·rintro seen s hs1 hall hlt ⟨i1,i2,i3⟩;refine hk s ?_;have hn2:(bD m).Nodup:=by unfold bD;exact (List.Sublist.map _ List.filter_sublist).nodup hnd
  refine (List.perm_ext_iff_of_nodup i1 hn2).2 fun x => ?_;rw [i3];unfold bD;simp only [List.mem_map,List.mem_filter,Bool.not_eq_true',beq_eq_false_iff_ne];constructor
  ·rintro ⟨j,_,h2,h3,h4⟩;exact ⟨m[j],⟨List.getElem_mem h2,h4⟩,h3⟩
  ·rintro ⟨e,⟨h1,h2⟩,h3⟩;obtain ⟨j,hj,rfl⟩:=List.getElem_of_mem h1;exact ⟨j,hall j hj,hj,h3,h2⟩
theorem ym (n:Int) (m:List (ak×Int)) (hm:xe m=true):bN n m=some (p8 n m (l8 (bD m))):=by unfold bN;exact HN m hm _ _ fun s hp=>Gt n m hm s hp
end Go.Proofs.YtoebmibmmlcfiaaGreatDoor
namespace Go.Sh
section
variable {α σ ε ρ:Type}
def cR (g:α→σ→fE σ ε ρ) (fin:σ→ε):List α→σ→Out ε ρ
 | [],s=>.brk (fin s)
 | x::l,s=>match g x s with | .go s'=>cR g fin l s' | .brk e=>.brk e | .ret r=>.ret r
theorem xA {body:Nat→σ→Option (fE σ ε ρ)} {fin:Nat→σ→ε} {f:σ→ε} (d:α) (l:List α) (g:α→σ→fE σ ε ρ) (I:Nat→σ→Prop) (hf:∀ i s,fin i s=f s) :
 ∀ (i:Nat) (s:σ),I i s→(∀ j s,i≤j→j<l.length→I j s→body j s=some (g (l.getD j d) s)∧∀ s',g (l.getD j d) s = .go s'→I (j+1) s') →
 fA body fin (l.length-i) i s=some (cR g f (l.drop i) s):=by
 intro i s hI h;by_cases hi:i<l.length
 ·obtain ⟨k,hk⟩:∃ k,l.length-i=k+1:=⟨l.length-i-1,by omega⟩;obtain ⟨h1,h2⟩:=h i s (Nat.le_refl _) hi hI;have hx:l.getD i d=l[i]:=by simp [Mk,Ml hi]
  rw [hx] at h1 h2;rw [hk,List.drop_eq_getElem_cons hi];simp only [fA,h1,Option.bind_some,cR];cases hg:g l[i] s with
  | go s' =>
   have ih:=xA d l g I hf (i+1) s' (h2 s' hg) (fun j s h1 h2=>h j s (by omega) h2);rw [show l.length-(i+1)=k by omega] at ih;exact ih
  | brk e=>rfl
  | ret r=>rfl
 ·rw [show l.length-i=0 by omega,List.drop_eq_nil_of_le (by omega)];simp [fA,cR,hf]
 termination_by i=>l.length-i
theorem ea {body:Nat→σ→Option (fE σ ε ρ)} {fin:Nat→σ→ε} {f:σ→ε} (d:α) (l:List α) (g:α→σ→fE σ ε ρ) (I:Nat→σ→Prop) (hf:∀ i s,fin i s=f s) (s:σ) (hI:I 0 s)
 (h:∀ j s,j<l.length→I j s→body j s=some (g (l.getD j d) s)∧∀ s',g (l.getD j d) s = .go s'→I (j+1) s') :
 fA body fin (l.length-0) 0 s=some (cR g f l s):=by
 have:=xA d l g I hf 0 s hI (fun j s _ h1 h2=>h j s h1 h2);simpa using this
theorem yW {body:Nat→Unit→Option (fE Unit Nat ρ)} (p:Nat→Bool):∀ (k i:Nat) (u:Unit),(∀ j u,i≤j→j<i+k→body j u=some (bif p j then .brk j else .go ())) →
 fA body (fun i _=>i) k i u=some (.brk (match (List.range' i k).find? p with | some j=>j | none=>i+k))
 | 0,i,u,h=>by simp [fA]
 | k+1,i,u,h=>by
  simp only [fA,h i u (Nat.le_refl _) (by omega),List.range'_succ,List.find?_cons];cases hp:p i with
  | false =>
   simp only [cond_false,Option.bind_some,AK];rw [yW p k (i+1) () (fun j u h1 h2=>h j u (by omega) (by omega))];rw [show i+1+k=i+(k+1) by omega]
  | true=>simp [AK]
theorem Cc {β:Type} (p:α→Bool) (f:α→β) (r:α→ρ):∀ (l:List α) (acc:List β),
 cR (σ:=List β) (ε:=List β) (fun x acc=>bif p x then .go (acc++[f x]) else .ret (r x)) (fun s=>s) l acc = .brk (acc++l.map f)∧l.all p=true ∨
 ∃ x∈l,p x=false∧cR (σ:=List β) (ε:=List β) (fun x acc=>bif p x then .go (acc++[f x]) else .ret (r x)) (fun s=>s) l acc = .ret (r x)
 | [],acc=>.inl ⟨by simp [cR],rfl⟩
 | x::l,acc=>by
  cases hp:p x with
  | false=>exact .inr ⟨x,by simp,hp,by simp [cR,hp]⟩
  | true =>
   simp only [cR,hp,cond_true];rcases Cc p f r l (acc++[f x]) with ⟨h1,h2⟩ | ⟨y,h1,h2,h3⟩
   ·exact .inl ⟨by rw [h1];simp,by rw [List.all_cons,hp,h2];rfl⟩
   ·exact .inr ⟨y,by simp [h1],h2,h3⟩
theorem r8 (p:α→Bool) (d:α):∀ l:List α,0≤idxOf p l→(idxOf p l).toNat<l.length∧p (l.getD (idxOf p l).toNat d)=true
 | [],h=>by simp [idxOf] at h
 | x::l,h=>by
  cases hp:p x with
  | true=>simp [idxOf,hp]
  | false =>
   have hge:=rI p l;simp only [idxOf,hp,cond_false] at h ⊢;by_cases hm:idxOf p l = -1
   ·rw [hm] at h;simp at h
   ·have e:(idxOf p l == -1)=false:=by simpa using hm
    rw [e,cond_false];obtain ⟨h1,h2⟩:=r8 p d l (by omega);have e2:(idxOf p l+1).toNat=(idxOf p l).toNat+1:=by omega
    rw [e2];exact ⟨by simp;omega,by simpa using h2⟩
theorem tQ (p:α→Bool) (d:α) (l:List α):idxOf p l<(l.length:Int):=by
 by_cases h:0≤idxOf p l
 ·have:=(r8 p d l h).1;omega
 ·omega
theorem Fp (p:α→Bool) (d:α) (l:List α):((match (List.range' 0 (l.length-0)).find? (fun j=>p (l.getD j d)) with | some j=>j | none=>0+(l.length-0)):Nat)=(bif decide (idxOf p l<0) then l.length else (idxOf p l).toNat):=by
 have h:=mB p d l;have hge:=rI p l;cases hf:(List.range' 0 (l.length-0)).find? (fun j=>p (l.getD j d)) with
 | none =>
  rw [hf] at h;have h:(-1:Int)=idxOf p l:=h;rw [← h];simp
 | some j =>
  rw [hf] at h;have h:((j:Nat):Int)=idxOf p l:=h;rw [← h,Mq (by omega)];simp
end
end Go.Sh
namespace Go.Proofs.YtoebmibmmlcfiaaGreatDoor
open Go.Ab Go.Sh
def F2 (v:ak) (x:Value):Bool:=x.Var==v
def vv (vs:List Value) (v:ak):Int:=(vs.getD (idxOf (F2 v) vs).toNat ⟨[],0⟩).N
def Hg (vs:List Value) (v:ak):Prop:=0≤idxOf (F2 v) vs ∧ -1000000000≤vv vs v∧vv vs v≤1000000000
def IG (vs:List Value) (t:au) (n:Int):fE Int Int (Int×Int) :=
 bif decide (idxOf (F2 t.Var) vs<0) then .ret (0,7) else
 bif decide (vv vs t.Var<(-1000000000)) then .ret (0,2) else
 bif decide (vv vs t.Var>1000000000) then .ret (0,2) else .go (aS (n+(aS (t.C*vv vs t.Var))))
def KU (o:Out Int (Int×Int)):Int×Int:=match o with | .brk n=>(n,0) | .ret r=>r
def Ll (vs:List Value) (l:Linear):Int×Int:=bif ax l then KU (cR (IG vs) (fun s=>s) l.Terms l.Const) else (0,1)
theorem FU (o:Out Int (Int×Int)):((some o).bind (Sh.aft fun u=>some (u,0)))=some (KU o):=by cases o<;>rfl
theorem yf (l:Linear) (vs:List Value):gi l vs=some (Ll vs l):=by
 unfold gi Ll;rw [xL l];simp only [Option.bind_some];cases ax l with
 | false=>rfl
 | true =>
  simp only [cond_true];rw [ea (fin:=fun _ s=>s) (f:=fun s=>s) ⟨[],0⟩ l.Terms (IG vs) (fun _ _=>True) (fun _ _=>rfl) l.Const trivial (fun j s hj _=>⟨by
   rw [yW (fun i=>F2 (l.Terms.getD j ⟨[],0⟩).Var (vs.getD i ⟨[],0⟩)) _ _ () (fun i u _ _=>by unfold F2;cases (vs.getD i ⟨[],0⟩).Var==(l.Terms.getD j ⟨[],0⟩).Var<;>rfl)]
   simp only [Option.bind_some,dL];rw [Fp (F2 (l.Terms.getD j ⟨[],0⟩).Var) ⟨[],0⟩ vs];simp only [IG];have hlt:=tQ (F2 (l.Terms.getD j ⟨[],0⟩).Var) ⟨[],0⟩ vs;by_cases h0:idxOf (F2 (l.Terms.getD j ⟨[],0⟩).Var) vs<0
   ·rw [Mr h0];simp
   ·rw [Mq h0];simp only [cond_false];have e:((((idxOf (F2 (l.Terms.getD j ⟨[],0⟩).Var) vs).toNat:Nat):Int)==((vs.length:Nat):Int))=false:=by rw [beq_eq_false_iff_ne];omega
    rw [e,cond_false,aK (by omega)];unfold vv;cases decide ((vs.getD (idxOf (F2 (l.Terms.getD j ⟨[],0⟩).Var) vs).toNat ⟨[],0⟩).N<(-1000000000))<;>cases decide ((vs.getD (idxOf (F2 (l.Terms.getD j ⟨[],0⟩).Var) vs).toNat ⟨[],0⟩).N>1000000000)<;>rfl,fun _ _=>trivial⟩)]
  exact FU _
def du (f:ak→Int):List au→Int
 | []=>0
 | t::ts=>t.C*f t.Var+du f ts
def mz (f:ak→Int) (l:Linear):Int:=l.Const+du f l.Terms
theorem prod_bound {a b A B:Int} (h1 : -A≤a) (h2:a≤A) (h3 : -B≤b) (h4:b≤B) : -(A*B)≤a*b∧a*b≤A*B:=by
 have hA:0≤A:=by omega
 have hB:0≤B:=by omega
 have hn:(a*b).natAbs≤A.natAbs*B.natAbs:=by rw [Int.natAbs_mul];exact Nat.mul_le_mul (by omega) (by omega)
 have e:((A.natAbs*B.natAbs:Nat):Int)=A*B:=by rw [Int.natCast_mul];congr 1<;>omega
 omega
theorem AX (vs:List Value):∀ (ts:List au) (n:Int),(∀ t∈ts,-1000000≤t.C∧t.C≤1000000)→ts.length≤12 →
 -(1000000+(12-(ts.length:Int))*1000000000000000)≤n→n≤1000000+(12-(ts.length:Int))*1000000000000000 →
 (cR (IG vs) (fun s=>s) ts n = .brk (n+du (vv vs) ts)∧∀ t∈ts,Hg vs t.Var)∨((∃ t∈ts,¬ Hg vs t.Var)∧∃ e,(e=7∨e=2)∧cR (IG vs) (fun s=>s) ts n = .ret (0,e))
 | [],n,_,_,_,_=>.inl ⟨by simp [cR,du],by simp⟩
 | t::ts,n,hC,hl,h1,h2=>by
  by_cases h0:idxOf (F2 t.Var) vs<0
  ·exact .inr ⟨⟨t,by simp,fun hv=>by have:=hv.1;omega⟩,7,.inl rfl,by simp only [cR,IG,Mr h0,cond_true]⟩
  by_cases h3:vv vs t.Var < -1000000000
  ·exact .inr ⟨⟨t,by simp,fun hv=>by have:=hv.2.1;omega⟩,2,.inr rfl,by simp only [cR,IG,Mq h0,Mr h3,cond_true,cond_false]⟩
  by_cases h4:vv vs t.Var>1000000000
  ·exact .inr ⟨⟨t,by simp,fun hv=>by have:=hv.2.2;omega⟩,2,.inr rfl,by simp only [cR,IG,Mq h0,Mq h3,Mr h4,cond_true,cond_false]⟩
  obtain ⟨c1,c2⟩:=hC t (by simp);obtain ⟨b1,b2⟩:=prod_bound c1 c2 (show -1000000000≤vv vs t.Var by omega) (show vv vs t.Var≤1000000000 by omega);have hl':(ts.length:Int)≤11:=by simp at hl;omega
  have hlen:(((t::ts).length:Nat):Int)=(ts.length:Int)+1:=by simp
  rw [hlen] at h1 h2;have e:IG vs t n = .go (n+t.C*vv vs t.Var):=by simp only [IG,Mq h0,Mq h3,Mq h4,cond_false];rw [rh (n:=t.C*vv vs t.Var) (by unfold vE;omega),rh (by unfold vE;omega)]
  simp only [cR,e,du];rcases AX vs ts (n+t.C*vv vs t.Var) (fun t ht=>hC t (by simp [ht])) (by omega) (by omega) (by omega) with ⟨e1,e2⟩ | ⟨⟨y,e1,e1'⟩,e2⟩
  ·refine .inl ⟨by rw [e1,Int.add_assoc],fun x hx => ?_⟩;rcases List.mem_cons.1 hx with rfl | hx
   ·exact ⟨by omega,by omega,by omega⟩
   ·exact e2 x hx
  ·exact .inr ⟨⟨y,by simp [e1],e1'⟩,e2⟩
theorem cM {l:Linear} (h:ax l=true):∀ t∈l.Terms,(-1000000≤t.C∧t.C≤1000000)∧dF t.Var=true:=by
 intro t ht;obtain ⟨j,hj,rfl⟩:=List.getElem_of_mem ht;simp only [ax,Mm,My] at h;have:=h.1 j (by simpa using hj);have e:yv l j=l.Terms[j]:=by simp [yv,Mk,Ml hj]
 simp only [kB,e,Mm,Bk,decide_eq_true_eq] at this;exact ⟨this.2.2.1,this.1⟩
theorem nt {l:Linear} (h:ax l=true) : -1000000≤l.Const∧l.Const≤1000000:=by simp only [ax,Mm,Bk,decide_eq_true_eq] at h;exact h.2.1
theorem iS {s:ak} (h:dF s=true):s.length≤30:=by
 cases s with
 | nil=>simp
 | cons c r =>
  simp only [dF] at h;cases hc:c==95
  ·simp only [hc,cond_false,Mm,decide_eq_true_eq] at h;simp;omega
  ·simp only [hc,cond_true,Mm,decide_eq_true_eq] at h;simp;omega
theorem mC {l:Linear} (h:ax l=true):Ac l :=
 ⟨by have:=b8 h;omega,fun t ht=>by have:=iS (cM h t ht).2;omega⟩
theorem Fu (vs:List Value) (l:Linear) (h:ax l=true):(Ll vs l=(mz (vv vs) l,0)∧∀ t∈l.Terms,Hg vs t.Var)∨((∃ t∈l.Terms,¬ Hg vs t.Var)∧(Ll vs l).2≠0):=by
 have hl:=b8 h;obtain ⟨k1,k2⟩:=nt h;have hp:0≤(12-(l.Terms.length:Int))*1000000000000000:=Int.mul_nonneg (by omega) (by omega);unfold Ll;rw [h,cond_true];rcases AX vs l.Terms l.Const (fun t ht=>(cM h t ht).1) hl (by omega) (by omega) with ⟨e1,e2⟩ | ⟨e1,e,e2,e3⟩
 ·exact .inl ⟨by rw [e1];rfl,e2⟩
 ·refine .inr ⟨e1,?_⟩;rw [e3];rcases e2 with rfl | rfl<;>simp [KU]
theorem Kq {vs:List Value} {l:Linear} (h:ax l=true) (hh:∀ t∈l.Terms,Hg vs t.Var):Ll vs l=(mz (vv vs) l,0):=by
 rcases Fu vs l h with ⟨e1,_⟩ | ⟨⟨t,ht,e⟩,_⟩
 ·exact e1
 ·exact absurd (hh t ht) e
end Go.Proofs.YtoebmibmmlcfiaaGreatDoor
namespace Go.Sh
def oe (f:ak→Int):List (ak×Int)→Int
 | []=>0
 | (k,c)::m=>c*f k+oe f m
theorem xw (f:ak→Int) (x:ak) (v:Int):∀ m:List (ak×Int),oe f (bH x v m)=oe f m+(v-be 0 x m)*f x
 | []=>by simp [bH,be,oe]
 | (k,u)::m=>by
  by_cases h:k=x
  ·subst h;simp only [bH,be,if_pos,oe];rw [Int.sub_mul];omega
  ·simp only [bH,be,if_neg h,oe];rw [xw f x v m];omega
theorem ze (x y:ak) (v:Int):∀ m:List (ak×Int),be 0 y (bH x v m)=if x=y then v else be 0 y m
 | []=>by simp [bH,be]
 | (k,u)::m=>by
  by_cases h:k=x
  ·subst h;simp only [bH,be,if_pos];by_cases h2:k=y
   ·simp [h2]
   ·simp [h2]
  ·simp only [bH,if_neg h,be];rw [ze x y v m];by_cases h2:k=y
   ·subst h2;simp [Ne.symm h]
   ·simp [h2]
theorem kA (x:ak) (v:Int):∀ m:List (ak×Int),(bH x v m).map (·.1)=if x∈m.map (·.1) then m.map (·.1) else m.map (·.1)++[x]
 | []=>by simp [bH]
 | (k,u)::m=>by
  by_cases h:k=x
  ·subst h;simp [bH]
  ·simp only [bH,if_neg h,List.map_cons,kA x v m,List.mem_cons,Ne.symm h,false_or];split<;>simp
structure Sm (B:Int) (K:Nat) (m:List (ak×Int)):Prop where
 bd:∀ x,-B≤be 0 x m∧be 0 x m≤B
 len:m.length≤K
 nd:(m.map (·.1)).Nodup
 key:∀ x∈m.map (·.1),x.length≤1000000
theorem Sm.nil:Sm 0 0 []:=⟨fun x=>by simp [be],by simp,by simp,by simp⟩
theorem Sm.put {B:Int} {K:Nat} {m:List (ak×Int)} (h:Sm B K m) {x:ak} {v:Int} {B':Int} (hx:x.length≤1000000) (hB:B≤B') (h1 : -B'≤v) (h2:v≤B'):Sm B' (K+1) (bH x v m):=by
 refine ⟨fun y => ?_,?_,?_,fun y hy => ?_⟩
 ·rw [ze];split
  ·exact ⟨h1,h2⟩
  ·have:=h.bd y;omega
 ·have e:=congrArg List.length (kA x v m);have:=h.len;split at e<;>simp at e<;>omega
 ·rw [kA];split
  ·exact h.nd
  ·rename_i hn;rw [List.nodup_append];exact ⟨h.nd,by simp,fun a ha b hb=>by
    have:b=x:=by simpa using hb
    subst this;intro e;subst e;exact hn ha⟩
 ·rw [kA] at hy;split at hy
  ·exact h.key y hy
  ·rcases List.mem_append.1 hy with hy | hy
   ·exact h.key y hy
   ·have:y=x:=by simpa using hy
    subst this;exact hx
theorem Sm.mono {B B':Int} {K K':Nat} {m:List (ak×Int)} (h:Sm B K m) (h1:B≤B') (h2:K≤K'):Sm B' K' m :=
 ⟨fun x=>by have:=h.bd x;omega,by have:=h.len;omega,h.nd,h.key⟩
theorem yK:∀ {l:List ak},l.Nodup→uU l=true
 | [],_=>rfl
 | x::l,h=>by rw [List.nodup_cons] at h;simp only [uU,Mm,Bool.not_eq_true',List.any_eq_false,beq_iff_eq];exact ⟨fun y hy e=>h.1 (e ▸ hy),yK h.2⟩
end Go.Sh
namespace Go.Proofs.YtoebmibmmlcfiaaGreatDoor
open Go.Ab Go.Sh
theorem Jp {B:Int} {K:Nat} {m:List (ak×Int)} (h:Sm B K m) (hK:K≤1000):xe m=true:=by simp only [xe,Mm,decide_eq_true_eq,My];refine ⟨yK h.nd,by have:=h.len;omega,fun e he=>h.key e.1 (List.mem_map.2 ⟨e,he,rfl⟩)⟩
def Br (k:Int) (t:au) (m:List (ak×Int)):List (ak×Int):=bH t.Var (aS ((be 0 t.Var m)+(aS (k*t.C)))) m
def DH (l:Linear) (k:Int) (n:Int) (m:List (ak×Int)):Int×List (ak×Int):=(aS (n+aS (k*l.Const)),l.Terms.foldl (fun m t=>Br k t m) m)
theorem tU (l:Linear) (k n:Int) (m:List (ak×Int)):ck l k n m=some (DH l k n m):=by
 unfold ck;obtain ⟨s',e1,e2,_⟩:=Aw (σ:=List (ak×Int)) (ε:=(Int×(List (ak×Int)))) (ρ:=(Int×(List (ak×Int)))) (fin:=fun _ s41=>((aS (n+(aS (k*l.Const)))),s41))
  (body:=fun i42 s41 =>
  some (.go (bH ((l.Terms.getD i42 ⟨[],0⟩).Var) (aS ((be 0 ((l.Terms.getD i42 ⟨[],0⟩).Var) s41)+(aS (k*((l.Terms.getD i42 ⟨[],0⟩).C))))) s41)))
  (fun j m=>Br k (l.Terms.getD j ⟨[],0⟩) m) (fun _ _=>True) (l.Terms.length-0) 0 m trivial (fun j s _ _ _=>⟨rfl,trivial⟩)
 rw [e1];simp only [Option.bind_some,Sh.aft,DH,Mv];rw [e2];have:=pW (fun (m:List (ak×Int)) (t:au)=>Br k t m) ⟨[],0⟩ l.Terms 0 m;rw [this];rfl
theorem Gc (a b c:Int):a*b*c=a*(b*c):=Int.mul_assoc a b c
theorem Bg (f:ak→Int) (k:Int) (hk : -1000000≤k∧k≤1000000):∀ (ts:List au) (m:List (ak×Int)) (B:Int) (K:Nat),(∀ t∈ts,(-1000000≤t.C∧t.C≤1000000)∧t.Var.length≤1000000) →
 Sm B K m→0≤B→B+(ts.length:Int)*1000000000000≤9000000000000000000 →
 Sm (B+(ts.length:Int)*1000000000000) (K+ts.length) (ts.foldl (fun m t=>Br k t m) m)∧oe f (ts.foldl (fun m t=>Br k t m) m)=oe f m+k*du f ts
 | [],m,B,K,_,hs,_,_=>⟨by simpa using hs,by simp [du]⟩
 | t::ts,m,B,K,hC,hs,hB,hle=>by
  obtain ⟨⟨c1,c2⟩,hv⟩:=hC t (by simp);obtain ⟨b1,b2⟩:=prod_bound hk.1 hk.2 c1 c2;have hlen:(((t::ts).length:Nat):Int)=(ts.length:Int)+1:=by simp
  rw [hlen] at hle;have hle':B+((ts.length:Int)*1000000000000+1000000000000)≤9000000000000000000:=by rw [Int.add_mul] at hle;omega
  have hp:0≤(ts.length:Int)*1000000000000:=by omega
  obtain ⟨m1,m2⟩:=hs.bd t.Var;have e:Br k t m=bH t.Var (be 0 t.Var m+k*t.C) m:=by unfold Br;rw [rh (n:=k*t.C) (by unfold vE;omega),rh (by unfold vE;omega)]
  have hs1:=hs.put (v:=be 0 t.Var m+k*t.C) (B':=B+1000000000000) hv (by omega) (by omega) (by omega);rw [← e] at hs1;obtain ⟨g1,g2⟩:=Bg f k hk ts (Br k t m) (B+1000000000000) (K+1) (fun x hx=>hC x (by simp [hx])) hs1 (by omega) (by omega);rw [List.foldl_cons,hlen];refine ⟨?_,?_⟩
  ·have e1:B+1000000000000+(ts.length:Int)*1000000000000=B+((ts.length:Int)+1)*1000000000000:=by rw [Int.add_mul];omega
   have e2:K+1+ts.length=K+(t::ts).length:=by simp;omega
   rw [← e1,← e2];exact g1
  ·rw [g2,e,xw];simp only [du];rw [Int.mul_add,show be 0 t.Var m+k*t.C-be 0 t.Var m=k*t.C by omega,Gc];omega
theorem uo (f:ak→Int) {a b:List au} (h:a.Perm b):du f a=du f b:=by
 induction h with
 | nil=>rfl
 | cons x _ ih=>simp only [du,ih]
 | swap x y l=>simp only [du];omega
 | trans _ _ h1 h2=>exact h1.trans h2
theorem E7 {k x:ak} {u:Int} {m:List (ak×Int)} (h:k≠x):be 0 x ((k,u)::m)=be 0 x m:=by simp [be,h]
theorem FI (m:List (ak×Int)) {x:ak} (h:x∈bD m):x∈m.map (·.1):=by unfold bD at h;obtain ⟨e,he,rfl⟩:=List.mem_map.1 h;exact List.mem_map.2 ⟨e,(List.mem_filter.1 he).1,rfl⟩
theorem uu (f:ak→Int):∀ m:List (ak×Int),(m.map (·.1)).Nodup→du f ((bD m).map fun k=>au.mk k (be 0 k m))=oe f m
 | [],_=>rfl
 | (k,u)::m,h=>by
  rw [List.map_cons,List.nodup_cons] at h;have ih:=uu f m h.2;have hskip:(bD m).map (fun x=>au.mk x (be 0 x ((k,u)::m)))=(bD m).map fun x=>au.mk x (be 0 x m):=by refine List.map_congr_left fun x hx => ?_;rw [E7 fun e=>h.1 (by subst e;exact FI m hx)]
  by_cases hu:u=0
  ·subst hu;have e:bD ((k,(0:Int))::m)=bD m:=by simp [bD]
   rw [e,hskip,ih];simp [oe]
  ·have e:bD ((k,u)::m)=k::bD m:=by simp [bD,hu]
   rw [e,List.map_cons,hskip];simp only [du,ih,oe];simp [be]
theorem Fz {n:Int} {m:List (ak×Int)} {B:Int} {K:Nat} (hs:Sm B K m) (f:ak→Int) (h:(p8 n m (l8 (bD m))).2=0):ax (p8 n m (l8 (bD m))).1=true∧mz f (p8 n m (l8 (bD m))).1=n+oe f m:=by
 unfold p8 at h ⊢;cases hv:ax (Linear.mk n ((l8 (bD m)).map fun k=>au.mk k (be 0 k m))) with
 | false=>rw [hv] at h;simp at h
 | true =>
  simp only [cond_true,mz];refine ⟨hv,?_⟩;rw [uo f ((iA (bD m)).map _),uu f m hs.nd]
def DM (bs:List Bind) (t:au) (s:Int×List (ak×Int)):fE (Int×List (ak×Int)) (Int×List (ak×Int)) (Linear×Int) :=
 bif decide (idxOf (iD 1 t.Var) bs<0) then .go (s.1,bH t.Var (aS (be 0 t.Var s.2+t.C)) s.2) else
 bif ax (bs.getD (idxOf (iD 1 t.Var) bs).toNat pq).Dim then .go (DH (bs.getD (idxOf (iD 1 t.Var) bs).toNat pq).Dim t.C s.1 s.2) else .ret ((Linear.mk 0 []),1)
def sv (bs:List Bind) (f:ak→Int) (v:ak):Int:=bif decide (idxOf (iD 1 v) bs<0) then f v else mz f (bs.getD (idxOf (iD 1 v) bs).toNat pq).Dim
theorem Fc (bs:List Bind) (v:ak) (c:Int):b9 bs v c=some (idxOf (iD 1 v) bs):=by
 unfold b9;rw [o8 (f:=fun j=>((j:Nat):Int)) (fun j=>iD 1 v (bs.getD j pq)) _ _ () (fun j u _ _=>by
  unfold j5 iD;simp only;cases (bs.getD j pq).Kind==1
  ·rfl
  ·cases (bs.getD j pq).Var==v<;>rfl)]
 exact xh bs (iD 1 v) _ (mB (iD 1 v) pq bs)
def GB (o:Out (Int×List (ak×Int)) (Linear×Int)):Linear×Int:=match o with | .brk u=>p8 u.1 u.2 (l8 (bD u.2)) | .ret r=>r
def pF (bs:List Bind) (l:Linear):Linear×Int:=bif ax l then GB (cR (DM bs) (fun s=>s) l.Terms (l.Const,[])) else ((Linear.mk 0 []),1)
def St (j:Nat) (c:Int) (s:Int×List (ak×Int)):Prop:=Sm ((j:Int)*12000000000000) (12*j) s.2 ∧ -(1000000+(j:Int)*1000000000000)≤s.1∧s.1≤1000000+(j:Int)*1000000000000
theorem GR (bs:List Bind) (f:ak→Int) (t:au) (c:Int) (j:Nat) (hj:j<12) (ht:(-1000000≤t.C∧t.C≤1000000)∧dF t.Var=true) (s s':Int×List (ak×Int)) (hs:St j c s) (h:DM bs t s = .go s') :
 St (j+1) c s'∧s'.1+oe f s'.2=s.1+oe f s.2+t.C*sv bs f t.Var:=by
 have hn:=iS ht.2;have ej:((j+1:Nat):Int)*12000000000000=(j:Int)*12000000000000+12000000000000:=by omega
 obtain ⟨h1,h2,h3⟩:=hs;unfold DM at h;by_cases h0:idxOf (iD 1 t.Var) bs<0
 ·rw [Mr h0,cond_true] at h;have e:s'=(s.1,bH t.Var (aS (be 0 t.Var s.2+t.C)) s.2):=by injection h with h;exact h.symm
  obtain ⟨m1,m2⟩:=h1.bd t.Var;have hw:aS (be 0 t.Var s.2+t.C)=be 0 t.Var s.2+t.C:=rh (by unfold vE;omega);rw [hw] at e;subst e;refine ⟨⟨(h1.put (v:=be 0 t.Var s.2+t.C) (B':=((j+1:Nat):Int)*12000000000000) (by omega) (by omega) (by omega) (by omega)).mono (Int.le_refl _) (by omega),by simp only;omega,by simp only;omega⟩,?_⟩;simp only;rw [xw,show be 0 t.Var s.2+t.C-be 0 t.Var s.2=t.C by omega];simp only [sv,Mr h0,cond_true];omega
 ·rw [Mq h0,cond_false] at h;generalize hD:(bs.getD (idxOf (iD 1 t.Var) bs).toNat pq).Dim=D at h;cases hv:ax D with
  | false=>rw [hv,cond_false] at h;cases h
  | true =>
   rw [hv,cond_true] at h;have e:s'=DH D t.C s.1 s.2:=by injection h with h;exact h.symm
   subst e;obtain ⟨k1,k2⟩:=nt hv;have hl:=b8 hv;obtain ⟨b1,b2⟩:=prod_bound ht.1.1 ht.1.2 k1 k2;obtain ⟨g1,g2⟩:=Bg f t.C ht.1 D.Terms s.2 ((j:Int)*12000000000000) (12*j) (fun x hx=>⟨(cM hv x hx).1,by have:=iS (cM hv x hx).2;omega⟩) h1 (by omega) (by omega);have hw:aS (s.1+aS (t.C*D.Const))=s.1+t.C*D.Const:=by rw [rh (n:=t.C*D.Const) (by unfold vE;omega),rh (by unfold vE;omega)]
   refine ⟨⟨g1.mono (by omega) (by omega),?_,?_⟩,?_⟩
   ·simp only [DH,hw];omega
   ·simp only [DH,hw];omega
   ·simp only [DH,hw,g2,sv,Mq h0,cond_false,hD,mz];rw [Int.mul_add];omega
theorem zX (bs:List Bind) (f:ak→Int) (c:Int) (ts:List au):∀ (j:Nat) (s:Int×List (ak×Int)),j+ts.length≤12→(∀ t∈ts,(-1000000≤t.C∧t.C≤1000000)∧dF t.Var=true)→St j c s →
 (∃ u,cR (DM bs) (fun s=>s) ts s = .brk u∧St (j+ts.length) c u∧u.1+oe f u.2=s.1+oe f s.2+du (sv bs f) ts)∨cR (DM bs) (fun s=>s) ts s = .ret ((Linear.mk 0 []),1):=by
 induction ts with
 | nil=>exact fun j s _ _ hs=>.inl ⟨s,rfl,hs,by simp [du]⟩
 | cons t ts ih =>
  intro j s hj hC hs;have hj':j+1+ts.length≤12:=by simp at hj;omega
  have hret:∀ r,DM bs t s = .ret r→r=((Linear.mk 0 []),1):=by intro r hg;unfold DM at hg;cases h1:decide (idxOf (iD 1 t.Var) bs<0)<;>cases h2:ax (bs.getD (idxOf (iD 1 t.Var) bs).toNat pq).Dim<;>rw [h1,h2] at hg<;>first | (injection hg with hg;exact hg.symm) | cases hg
  have hbrk:∀ e,DM bs t s ≠ .brk e:=by intro e hg;unfold DM at hg;cases h1:decide (idxOf (iD 1 t.Var) bs<0)<;>cases h2:ax (bs.getD (idxOf (iD 1 t.Var) bs).toNat pq).Dim<;>rw [h1,h2] at hg<;>cases hg
  have hgo:=fun s'=>GR bs f t c j (by simp at hj;omega) (hC t (by simp)) s s';simp only [cR];generalize DM bs t s=R at hret hbrk hgo;cases R with
  | go s' =>
   obtain ⟨h1,h2⟩:=hgo s' hs rfl;rcases ih (j+1) s' hj' (fun x hx=>hC x (by simp [hx])) h1 with ⟨u,e1,e2,e3⟩ | e
   ·refine .inl ⟨u,e1,?_,?_⟩
    ·rw [show j+(t::ts).length=j+1+ts.length by simp;omega];exact e2
    ·rw [e3,h2];simp only [du];omega
   ·exact .inr e
  | brk e=>exact absurd rfl (hbrk e)
  | ret r=>exact .inr (by rw [hret r rfl])
theorem L2 (l:Linear) (h:ax l=true):St 0 l.Const (l.Const,[]):=by obtain ⟨k1,k2⟩:=nt h;exact ⟨Sm.nil,by simp only;omega,by simp only;omega⟩
theorem lR (l:Linear) (bs:List Bind) (h:Ac l) (hb:∀ b∈bs,okB b):gr l bs=some (pF bs l):=by
 unfold gr pF;rw [bP l h.1 h.2];simp only [Option.bind_some];cases hv:ax l with
 | false=>rfl
 | true =>
  simp only [cond_true];rw [ea (fin:=fun _ s=>(s.1,s.2)) (f:=fun s=>s) ⟨[],0⟩ l.Terms (DM bs) (fun _ _=>True) (fun _ _=>rfl) (l.Const,[]) trivial (fun j s hj _=>⟨by
   rw [Fc];simp only [Option.bind_some,DM];generalize ht:l.Terms.getD j ⟨[],0⟩=t;by_cases h0:idxOf (iD 1 t.Var) bs<0
   ·rw [Mr h0];rfl
   ·rw [Mq h0];simp only [cond_false];rw [aK ⟨by omega,tQ _ pq _⟩];have hk:=xB hb (idxOf (iD 1 t.Var) bs).toNat;rw [vp,bP _ hk.2.1.1 hk.2.1.2];simp only [Option.bind_some];cases ax (bs.getD (idxOf (iD 1 t.Var) bs).toNat pq).Dim with
    | false=>rfl
    | true=>simp only [cond_true];rw [tU];rfl,fun _ _=>trivial⟩)]
  rcases zX bs (fun _=>0) l.Const l.Terms 0 (l.Const,[]) (by have:=b8 hv;omega) (cM hv) (L2 l hv) with ⟨u,e1,e2,_⟩ | e
  ·rw [e1];simp only [Option.bind_some,Sh.aft,GB];rw [ym u.1 u.2 (Jp e2.1 (by have:=b8 hv;omega))];rfl
  ·rw [e];rfl
theorem Gq {bs:List Bind} {l:Linear} (h:(pF bs l).2=0) (f:ak→Int):ax l=true∧ax (pF bs l).1=true∧mz f (pF bs l).1=mz (sv bs f) l:=by
 cases hv:ax l with
 | false=>unfold pF at h;rw [hv] at h;simp at h
 | true =>
  unfold pF at h ⊢;rw [hv,cond_true] at h ⊢;rcases zX bs f l.Const l.Terms 0 (l.Const,[]) (by have:=b8 hv;omega) (cM hv) (L2 l hv) with ⟨u,e1,e2,e3⟩ | e
  ·rw [e1] at h ⊢;simp only [GB] at h ⊢;obtain ⟨g1,g2⟩:=Fz e2.1 f h;refine ⟨by simp,g1,?_⟩;rw [g2,e3];simp only [oe,mz];omega
  ·rw [e] at h;simp [GB] at h
end Go.Proofs.YtoebmibmmlcfiaaGreatDoor
namespace Go.Sh
theorem zm {α ρ:Type}:∀ (l acc:List α),cR (ρ:=ρ) (fun x acc=>fE.go (acc++[x])) (fun s=>s) l acc = .brk (acc++l)
 | [],acc=>by simp [cR]
 | x::l,acc=>by simp only [cR];rw [zm l];simp
end Go.Sh
namespace Go.Proofs.YtoebmibmmlcfiaaGreatDoor
open Go.Ab Go.Sh
theorem HU (l:List au) (h:l.length≤1000000):dt l=some l:=by unfold dt;rw [aK (by omega)];exact FF fun e=>by rw [e]
theorem qm (ls:List Linear) (h:∀ l∈ls,Ac l) (hl:ls.length≤1000000):fe ls=some ls:=by
 unfold fe;rw [ea (fin:=fun _ s=>s) (f:=fun s=>s) ⟨0,[]⟩ ls (fun x acc=>fE.go (acc++[x])) (fun j s=>s.length=j) (fun _ _=>rfl) [] rfl (fun j s hj hI=>⟨by
  rw [HU _ (tE h j).1];simp only [Option.bind_some];rw [aK (by omega)],fun s' e=>by injection e with e;subst e;simp [hI]⟩)]
 rw [zm];simp [dL]
theorem yy (row:ak) (ls:List Linear) (h:∀ l∈ls,Ac l):kM row ls=some (bif decide (ls.length≤6) then (Shape.mk row ls,0) else (Shape.mk [] [],3)):=by
 unfold kM;by_cases h6:ls.length≤6
 ·rw [Mr h6,Mq (by omega),cond_false,qm ls h (by omega)];rfl
 ·rw [Mq h6,Mr (by omega)];rfl
def rowOf (bs:List Bind) (s:Shape):ak×List Linear :=
 bif (bif s.Row.isEmpty then false else decide (idxOf (iD 2 s.Row) bs≥0)) then ((bs.getD (idxOf (iD 2 s.Row) bs).toNat pq).Row.Row,(bs.getD (idxOf (iD 2 s.Row) bs).toNat pq).Row.Dims) else (s.Row,[])
def J6 (bs:List Bind) (s:Shape):Out (List Linear) (Shape×Int) :=
 cR (fun x acc=>bif (pF bs x).2==0 then .go (acc++[(pF bs x).1]) else .ret (Shape.mk [] [],(pF bs x).2)) (fun s=>s) s.Dims (rowOf bs s).2
def Md (row:ak) (o:Out (List Linear) (Shape×Int)):Shape×Int:=match o with | .brk ds=>(bif decide (ds.length≤6) then (Shape.mk row ds,0) else (Shape.mk [] [],3)) | .ret r=>r
def JP (bs:List Bind) (s:Shape):Shape×Int:=bif nW s then (bif kT bs then Md (rowOf bs s).1 (J6 bs s) else (Shape.mk [] [],1)) else (Shape.mk [] [],1)
theorem Fb (bs:List Bind) (s:Shape):(J6 bs s = .brk ((rowOf bs s).2++s.Dims.map fun d=>(pF bs d).1)∧∀ d∈s.Dims,(pF bs d).2=0)∨∃ d∈s.Dims,(pF bs d).2≠0∧J6 bs s = .ret (Shape.mk [] [],(pF bs d).2):=by
 unfold J6;rcases Cc (ρ:=Shape×Int) (fun d=>(pF bs d).2==0) (fun d=>(pF bs d).1) (fun d=>(Shape.mk [] [],(pF bs d).2)) s.Dims (rowOf bs s).2 with ⟨h1,h2⟩ | ⟨d,h1,h2,h3⟩
 ·exact .inl ⟨h1,fun d hd=>by simpa using My.1 h2 d hd⟩
 ·exact .inr ⟨d,h1,by simpa using h2,h3⟩
theorem Cj (bs:List Bind) (s:Shape) (hs:Je s) (hb:∀ b∈bs,okB b∧b.Row.Dims.length≤8):(rowOf bs s).1.length≤1000000∧(∀ l∈(rowOf bs s).2,Ac l)∧(rowOf bs s).2.length≤8:=by
 unfold rowOf;cases (bif s.Row.isEmpty then false else decide (idxOf (iD 2 s.Row) bs≥0))
 ·exact ⟨hs.1,fun l hl=>by simp at hl,by simp⟩
 ·have h1:=xB (fun b hb'=>(hb b hb').1) (idxOf (iD 2 s.Row) bs).toNat;refine ⟨h1.2.2.1,h1.2.2.2,?_⟩;simp only [cond_true];rw [Mk];cases hx:bs[(idxOf (iD 2 s.Row) bs).toNat]? with
  | none=>simp
  | some b=>exact (hb b (List.mem_of_getElem? hx)).2
theorem La (bs:List Bind) (s:Shape) (hs:Je s) (hb:∀ b∈bs,okB b∧b.Row.Dims.length≤8) {ds:List Linear} (h:J6 bs s = .brk ds):∀ l∈ds,Ac l:=by
 rcases Fb bs s with ⟨e,h2⟩ | ⟨d,_,_,e⟩
 ·rw [e] at h;injection h with h
  subst h;intro l hl;rcases List.mem_append.1 hl with hl | hl
  ·exact (Cj bs s hs hb).2.1 l hl
  ·obtain ⟨d,hd,rfl⟩:=List.mem_map.1 hl;exact mC (Gq (h2 d hd) (fun _=>0)).2.1
 ·rw [e] at h;cases h
theorem wo (s:Shape) (bs:List Bind) (hs:Je s) (hb:∀ b∈bs,okB b∧b.Row.Dims.length≤8):jq s bs=some (JP bs s):=by
 have hb1:∀ b∈bs,okB b:=fun b h=>(hb b h).1;unfold jq JP;rw [kg s hs,lZ bs hb1];simp only [Option.bind_some];cases hv:nW s with
 | false=>rfl
 | true =>
  cases hvb:kT bs with
  | false=>rfl
  | true =>
   simp only [cond_true];rw [sF];simp only [Option.bind_some];rw [v7];have hr:=Cj bs s hs hb;have hrow:((bif s.Row.isEmpty then some false else some (decide (idxOf (iD 2 s.Row) bs≥0)):Option Bool).bind fun v25 =>
   ((
    bif v25 then (
     bX (0≤idxOf (iD 2 s.Row) bs∧idxOf (iD 2 s.Row) bs<(bs.length:Int)) <|
     (fe (((bs.getD (idxOf (iD 2 s.Row) bs).toNat (⟨0,[],⟨0,[]⟩,⟨[],[]⟩,[]⟩)).Row).Dims)).bind fun y53 =>
     some ((((bs.getD (idxOf (iD 2 s.Row) bs).toNat (⟨0,[],⟨0,[]⟩,⟨[],[]⟩,[]⟩)).Row).Row),y53)
    ) else (
     some (s.Row,[])
    )
   ):Option (ak×(List Linear))))=some (rowOf bs s):=by
    unfold rowOf at hr ⊢;cases hre:s.Row.isEmpty with
    | true=>rfl
    | false =>
     simp only [hre,cond_false,Option.bind_some] at hr ⊢;by_cases h0:idxOf (iD 2 s.Row) bs≥0
     ·rw [Mr h0] at hr ⊢;simp only [cond_true] at hr ⊢;rw [aK ⟨h0,tQ _ pq _⟩,qm _ hr.2.1 (by omega)];rfl
     ·rw [Mq h0];rfl
   have key:∀ (k:ak×List Linear→Option (Shape×Int)),((bif s.Row.isEmpty then some false else some (decide (idxOf (iD 2 s.Row) bs≥0)):Option Bool).bind fun v25 =>
   ((
    bif v25 then (
     bX (0≤idxOf (iD 2 s.Row) bs∧idxOf (iD 2 s.Row) bs<(bs.length:Int)) <|
     (fe (((bs.getD (idxOf (iD 2 s.Row) bs).toNat (⟨0,[],⟨0,[]⟩,⟨[],[]⟩,[]⟩)).Row).Dims)).bind fun y53 =>
     some ((((bs.getD (idxOf (iD 2 s.Row) bs).toNat (⟨0,[],⟨0,[]⟩,⟨[],[]⟩,[]⟩)).Row).Row),y53)
    ) else (
     some (s.Row,[])
    )
   ):Option (ak×(List Linear))).bind k)=k (rowOf bs s):=by intro k;rw [← Option.bind_assoc,hrow];rfl
   refine (key _).trans ?_;have hd6:=(A7 hv).1;rw [ea (fin:=fun _ s=>s) (f:=fun s=>s) ⟨0,[]⟩ s.Dims (fun x acc=>bif (pF bs x).2==0 then .go (acc++[(pF bs x).1]) else .ret (Shape.mk [] [],(pF bs x).2)) (fun j acc=>acc.length≤8+j) (fun _ _=>rfl) (rowOf bs s).2 hr.2.2 (fun j acc hj hI=>⟨by
    rw [vp,lR _ bs (tE hs.2 j) hb1];simp only [Option.bind_some];cases (pF bs (s.Dims.getD j ⟨0,[]⟩)).2==0
    ·rfl
    ·simp only [cond_true];rw [aK (by omega)],fun s' e=>by
    cases hz:(pF bs (s.Dims.getD j ⟨0,[]⟩)).2==0
    ·rw [hz] at e;cases e
    ·rw [hz,cond_true] at e;injection e with e;subst e;simp;omega⟩)]
   show ((some (J6 bs s)).bind (Sh.aft fun u140=>(kM (rowOf bs s).1 u140).bind fun y143=>some (y143.1,y143.2)))=_;cases hD:J6 bs s with
   | ret r=>rfl
   | brk ds =>
    simp only [Option.bind_some,Sh.aft,Md];rw [yy _ ds (La bs s hs hb hD)];rfl
end Go.Proofs.YtoebmibmmlcfiaaGreatDoor
namespace Go.Sh
def dec (n:Nat):ak:=Lib.decDigits n
theorem zj {n:Nat} (h:n<10):dec n=[UInt8.ofNat (48+n)]:=by unfold dec;rw [Lib.decDigits,dif_pos h]
theorem EM {n:Nat} (h:¬ n<10):dec n=dec (n / 10)++[UInt8.ofNat (48+n % 10)]:=by unfold dec;rw [Lib.decDigits,dif_neg h]
theorem KW (n:Nat):dec n≠[]:=(tP n).2.2
end Go.Sh
namespace Go.Proofs.YtoebmibmmlcfiaaGreatDoor
open Go.Ab Go.Sh
theorem Gi (n:Int):Lib.itoa n=(bif decide (n<0) then 45::dec n.natAbs else dec n.natAbs):=by
 unfold Lib.itoa;by_cases h:n<0
 ·rw [if_pos h,Mr h];rfl
 ·rw [if_neg h,Mq h];show Lib.decDigits n.toNat=Lib.decDigits n.natAbs;congr 1;omega
theorem cb {α:Type} (d:α) {l:List α} {j:Nat} (h:j<l.length):l.getD j d∈l:=by rw [Mk,Ml h];exact List.getElem_mem h
end Go.Proofs.YtoebmibmmlcfiaaGreatDoor
namespace Go.Sh
structure Gm (K:Nat) (m:List (ak×Int)):Prop where
 len:m.length≤K
 nd:(m.map (·.1)).Nodup
 key:∀ x∈m.map (·.1),x.length≤1000000
theorem Gm.nil:Gm 0 []:=⟨by simp,by simp,by simp⟩
theorem Gm.put {K:Nat} {m:List (ak×Int)} (h:Gm K m) {x:ak} (v:Int) (hx:x.length≤1000000):Gm (K+1) (bH x v m):=by
 refine ⟨?_,?_,fun y hy => ?_⟩
 ·have e:=congrArg List.length (kA x v m);have:=h.len;split at e<;>simp at e<;>omega
 ·rw [kA];split
  ·exact h.nd
  ·rename_i hn;rw [List.nodup_append];exact ⟨h.nd,by simp,fun a ha b hb=>by
    have:b=x:=by simpa using hb
    subst this;intro e;subst e;exact hn ha⟩
 ·rw [kA] at hy;split at hy
  ·exact h.key y hy
  ·rcases List.mem_append.1 hy with hy | hy
   ·exact h.key y hy
   ·have:y=x:=by simpa using hy
    subst this;exact hx
theorem Gm.mono {K K':Nat} {m:List (ak×Int)} (h:Gm K m) (h1:K≤K'):Gm K' m:=⟨by have:=h.len;omega,h.nd,h.key⟩
end Go.Sh
namespace Go.Proofs.YtoebmibmmlcfiaaGreatDoor
open Go.Ab Go.Sh
end Go.Proofs.YtoebmibmmlcfiaaGreatDoor
namespace Go.Sh
theorem kI:∀ x:ak,Op.bytesLess x x=false
 | []=>rfl
 | a::x=>by simp [Op.bytesLess,kI x]
theorem nS:∀ x y z:ak,Op.bytesLess x y=true→Op.bytesLess y z=true→Op.bytesLess x z=true
 | _,[],_,h,_=>by simp [Op.bytesLess] at h
 | _,_::_,[],_,h=>by simp [Op.bytesLess] at h
 | [],_::_,_::_,_,_=>rfl
 | a::x,b::y,c::z,h1,h2=>by
  simp only [Op.bytesLess,Bool.or_eq_true,Mm,decide_eq_true_eq,beq_iff_eq] at h1 h2 ⊢;rcases h1 with h1 | ⟨rfl,h1⟩
  ·rcases h2 with h2 | ⟨rfl,h2⟩
   ·exact .inl (UInt8.lt_trans h1 h2)
   ·exact .inl h1
  ·rcases h2 with h2 | ⟨rfl,h2⟩
   ·exact .inl h2
   ·exact .inr ⟨rfl,nS x y z h1 h2⟩
theorem Et:∀ x y:ak,x<y↔Op.bytesLess x y=true
 | x,[]=>by simp [Op.bytesLess]
 | [],b::y=>by simp [Op.bytesLess]
 | a::x,b::y=>by rw [List.cons_lt_cons_iff,Et x y];simp only [Op.bytesLess,Bool.or_eq_true,Mm,decide_eq_true_eq,beq_iff_eq]
theorem JZ {x y:ak} (h:Op.bytesLess x y=true):yd x y=true:=by simp only [yd,decide_eq_true_eq];show ¬ y<x;rw [Et];intro h2;have:=nS _ _ _ h h2;rw [kI] at this;cases this
theorem th:∀ (k a:Nat),a<10 ^ (k+1)→(dec a).length≤k+1
 | k,a,h=>by
  by_cases h10:a<10
  ·rw [zj h10];simp
  ·cases k with
   | zero=>simp at h;omega
   | succ k =>
    rw [EM h10];have hp:10 ^ (k+1+1)=10*10 ^ (k+1):=by rw [Nat.pow_succ];omega
    have:=th k (a / 10) (by rw [hp] at h;omega);simp only [List.length_append,List.length_cons,List.length_nil];omega
theorem GK (a:Nat):kC 0 (dec a)=a:=by
 induction a using Nat.strongRecOn with
 | _ a ih =>
  by_cases h:a<10
  ·rw [zj h];simp only [kC,List.foldl_cons,List.foldl_nil];rw [UInt8.toNat_ofNat_of_lt' (show _<256 by omega)];omega
  ·rw [EM h,zl,ih (a / 10) (by omega),UInt8.toNat_ofNat_of_lt' (show _<256 by omega)];omega
end Go.Sh
namespace Go.Proofs.YtoebmibmmlcfiaaGreatDoor
open Go.Ab Go.Sh
theorem xW {l:Linear} (h:ax l=true):(l.Terms.map (·.Var)).Pairwise (fun a b=>Op.bytesLess a b=true):=by
 have hadj:∀ j,0<j→(hj:j<l.Terms.length)→Op.bytesLess (l.Terms[j-1]'(by omega)).Var l.Terms[j].Var=true:=by
  intro j h0 hj;simp only [ax,Mm,My] at h;have:=h.1 j (by simpa using hj);have e:yv l j=l.Terms[j]:=by simp [yv,Mk,Ml hj]
  have e':yv l (j-1)=l.Terms[j-1]'(by omega):=by simp [yv,Mk,Ml (show j-1<l.Terms.length by omega)]
  simp only [kB,e,e',Mm,Bool.or_eq_true,Bool.not_eq_true',decide_eq_false_iff_not] at this;rcases this.2.2.2 with h | h
  ·omega
  ·exact h
 have hall:∀ (n i:Nat) (hi:i+n+1<l.Terms.length),Op.bytesLess (l.Terms[i]'(by omega)).Var l.Terms[i+n+1].Var=true:=by
  intro n;induction n with
  | zero=>intro i hi;exact hadj (i+1) (by omega) hi
  | succ n ih =>
   intro i hi;exact nS _ _ _ (ih i (by omega)) (hadj (i+(n+1)+1) (by omega) hi)
 rw [List.pairwise_iff_getElem];intro i j hi hj hij;simp only [List.getElem_map];simp only [Mt] at hi hj;have:=hall (j-i-1) i (by omega);have e:i+(j-i-1)+1=j:=by omega
 simp only [e] at this;exact this
theorem Bp {l:Linear} (h:ax l=true):(l.Terms.map (·.Var)).Nodup:=(xW h).imp fun hab=>by intro e;rw [e,kI] at hab;cases hab
end Go.Proofs.YtoebmibmmlcfiaaGreatDoor
namespace Go.Sh
def Eo (x s:ak):Prop:=∃ p,x=p++s
def pos (x s:ak):Int:=((x.length-s.length:Nat):Int)
theorem Eo.len {x s:ak} (h:Eo x s):s.length≤x.length:=by obtain ⟨p,rfl⟩:=h;simp
theorem Eo.drop {x s:ak} (h:Eo x s):x.drop (x.length-s.length)=s:=by obtain ⟨p,rfl⟩:=h;simp
theorem Eo.refl (x:ak):Eo x x:=⟨[],rfl⟩
theorem Eo.trans {x s r:ak} (h:Eo x s) (h2:Eo s r):Eo x r:=by obtain ⟨p,rfl⟩:=h;obtain ⟨q,rfl⟩:=h2;exact ⟨p++q,by simp⟩
theorem Eo.succ {x s:ak} {c:UInt8} (h:Eo x (c::s)):pos x (c::s)+1=pos x s:=by have:=h.len;unfold pos;simp at this ⊢;omega
theorem Eo.lt {x s:ak} {c:UInt8} (h:Eo x (c::s)):0≤pos x (c::s)∧pos x (c::s)<(x.length:Int):=by have:=h.len;unfold pos;simp at this ⊢;omega
end Go.Sh
namespace Go.Proofs.YtoebmibmmlcfiaaGreatDoor
open Go.Ab Go.Sh
def nz (t:au):Bool := !(t.C==0)
def Fj (l:Linear):Linear×Int:=bif ax l then (l,0) else (Linear.mk 0 [],3)
def J4 (ts:List au):Prop:=ts.Pairwise (fun a b=>Op.bytesLess a.Var b.Var=true)
def Nz (ts:List au):Prop:=∀ t∈ts,t.C≠0
def ind (v:ak) (x:ak):Int:=if x=v then 1 else 0
theorem nf (v:ak):∀ ts:List au,(∀ t∈ts,t.Var≠v)→du (ind v) ts=0
 | [],_=>rfl
 | t::ts,h=>by simp only [du,ind,if_neg (h t (by simp)),Int.mul_zero,Int.zero_add];exact nf v ts fun x hx=>h x (by simp [hx])
theorem vj {x y:ak} (h:Op.bytesLess x y=true):x≠y:=fun e=>by rw [e,kI] at h;cases h
theorem Au (x y:ak):Op.bytesLess x y=true∨x=y∨Op.bytesLess y x=true:=by
 rcases Bool.eq_false_or_eq_true (Op.bytesLess x y) with h | h
 ·exact .inl h
 ·rcases Bool.eq_false_or_eq_true (Op.bytesLess y x) with h' | h'
  ·exact .inr (.inr h')
  ·refine .inr (.inl ?_);have h1:¬ x<y:=fun e=>by rw [Et,h] at e;cases e
   have h2:¬ y<x:=fun e=>by rw [Et,h'] at e;cases e
   exact List.le_antisymm (List.not_lt.1 h2) (List.not_lt.1 h1)
theorem xj:∀ a b:List au,J4 a→Nz a→J4 b→Nz b→(∀ f,du f a=du f b)→a=b
 | [],[],_,_,_,_,_=>rfl
 | [],t::ts,_,_,h1,h2,h=>by
  have:=h (ind t.Var);simp only [du] at this;rw [nf t.Var ts fun x hx=>Ne.symm (vj ((List.pairwise_cons.1 h1).1 x hx))] at this;simp only [ind,if_pos,Int.mul_one,Int.add_zero] at this;exact absurd this.symm (h2 t (by simp))
 | t::ts,[],h1,h2,_,_,h=>by
  have:=h (ind t.Var);simp only [du] at this;rw [nf t.Var ts fun x hx=>Ne.symm (vj ((List.pairwise_cons.1 h1).1 x hx))] at this;simp only [ind,if_pos,Int.mul_one,Int.add_zero] at this;exact absurd this (h2 t (by simp))
 | t::ts,u::us,h1,h2,h3,h4,h=>by
  have ht:=List.pairwise_cons.1 h1;have hu:=List.pairwise_cons.1 h3;have et:du (ind t.Var) ts=0:=nf t.Var ts fun x hx=>Ne.symm (vj (ht.1 x hx));have eu:du (ind u.Var) us=0:=nf u.Var us fun x hx=>Ne.symm (vj (hu.1 x hx));have i1:=h (ind t.Var);have i2:=h (ind u.Var);simp only [du] at i1 i2;rcases Au t.Var u.Var with hl | he | hl
  ·have z:du (ind t.Var) us=0:=nf t.Var us fun x hx=>Ne.symm (vj (nS _ _ _ hl (hu.1 x hx)));rw [et,z] at i1;simp only [ind,if_pos,if_neg (Ne.symm (vj hl)),Int.mul_one,Int.mul_zero,Int.add_zero] at i1;exact absurd i1 (h2 t (by simp))
  ·rw [et,he,eu] at i1;simp only [ind,if_pos,Int.mul_one,Int.add_zero] at i1;have e:t=u:=by obtain ⟨tv,tc⟩:=t;obtain ⟨uv,uc⟩:=u;simp only at he i1;rw [he,i1]
   subst e;rw [xj ts us ht.2 (fun x hx=>h2 x (by simp [hx])) hu.2 (fun x hx=>h4 x (by simp [hx])) fun f=>by have:=h f;simp only [du] at this;omega]
  ·have z:du (ind u.Var) ts=0:=nf u.Var ts fun x hx=>Ne.symm (vj (nS _ _ _ hl (ht.1 x hx)));rw [eu,z] at i2;simp only [ind,if_pos,if_neg (Ne.symm (vj hl)),Int.mul_one,Int.mul_zero,Int.add_zero] at i2;exact absurd i2.symm (h4 u (by simp))
structure RB (B:Int) (K:Nat) (ts:List au):Prop where
 srt:J4 ts
 nz:Nz ts
 bd:∀ t∈ts,-B≤t.C∧t.C≤B
 len:ts.length≤K
theorem RB.nil:RB 0 0 []:=⟨List.Pairwise.nil,(fun t h=>by simp at h),(fun t h=>by simp at h),Nat.le_refl _⟩
theorem RB.mono {B B':Int} {K K':Nat} {ts:List au} (h:RB B K ts) (h1:B≤B') (h2:K≤K'):RB B' K' ts :=
 ⟨h.srt,h.nz,fun t ht=>by have:=h.bd t ht;omega,Nat.le_trans h.len h2⟩
theorem Gb {m:List (ak×Int)}:(m.map (·.1)).Nodup→∀ {e:ak×Int},e∈m→be 0 e.1 m=e.2:=by
 induction m with
 | nil=>intro _ e h;cases h
 | cons p m ih =>
  obtain ⟨k,u⟩:=p;intro h e he;rw [List.map_cons,List.nodup_cons] at h;rcases List.mem_cons.1 he with rfl | he
  ·simp [be]
  ·have hne:k≠e.1:=fun e2=>h.1 (by rw [e2];exact List.mem_map.2 ⟨e,he,rfl⟩);simp only [be,if_neg hne];exact ih h.2 he
def AB (m:List (ak×Int)):List au:=(l8 (bD m)).map fun k=>au.mk k (be 0 k m)
theorem A1 {m:List (ak×Int)} (h:(m.map (·.1)).Nodup):(bD m).Nodup:=List.Nodup.sublist (List.Sublist.map _ List.filter_sublist) h
theorem JK {m:List (ak×Int)} (h:(m.map (·.1)).Nodup):J4 (AB m)∧Nz (AB m)∧∀ f,du f (AB m)=oe f m:=by
 refine ⟨?_,fun t ht => ?_,fun f => ?_⟩
 ·have h1:=pZ (bD m);have h2:(l8 (bD m)).Nodup:=(iA (bD m)).nodup_iff.2 (A1 h);unfold J4 AB;rw [List.pairwise_map];refine (h1.and h2).imp fun {a b} hab => ?_;rcases Au a b with hl | he | hl
  ·exact hl
  ·exact absurd he hab.2
  ·exact absurd (xS _ _ hab.1 (JZ hl)) hab.2
 ·unfold AB at ht;obtain ⟨k,hk,rfl⟩:=List.mem_map.1 ht;have hk:=(iA (bD m)).mem_iff.1 hk;unfold bD at hk;obtain ⟨e,he,rfl⟩:=List.mem_map.1 hk;obtain ⟨he1,he2⟩:=List.mem_filter.1 he;show be 0 e.1 m≠0;rw [Gb h he1];simpa using he2
 ·unfold AB;rw [uo f ((iA (bD m)).map _),uu f m h]
theorem C8 (n:Int) (m:List (ak×Int)):p8 n m (l8 (bD m))=Fj (Linear.mk n (AB m)):=rfl
theorem yX {l:Linear} (h:ax l=true):J4 l.Terms:=by have:=xW h;rw [List.pairwise_map] at this;exact this
theorem ij {l:Linear} (h:ax l=true):Nz l.Terms:=by
 intro t ht;obtain ⟨j,hj,rfl⟩:=List.getElem_of_mem ht;simp only [ax,Mm,My] at h;have:=h.1 j (by simpa using hj);have e:yv l j=l.Terms[j]:=by simp [yv,Mk,Ml hj]
 simp only [kB,e,Mm,Bool.not_eq_true',beq_eq_false_iff_ne] at this;exact this.2.1
theorem JH:∀ ts:List au,du (fun _=>0) ts=0
 | []=>rfl
 | t::ts=>by simp only [du,JH ts];omega
theorem J2:∀ m:List (ak×Int),oe (fun _=>0) m=0
 | []=>rfl
 | (k,c)::m=>by simp only [oe,J2 m];omega
theorem G9 {n n':Int} {m:List (ak×Int)} {ts:List au} (h:(m.map (·.1)).Nodup) (h1:J4 ts) (h2:Nz ts) (hf:∀ f,n+oe f m=n'+du f ts):Fj (Linear.mk n (AB m))=Fj (Linear.mk n' ts):=by
 obtain ⟨r1,r2,r3⟩:=JK h;have e:n=n':=by have:=hf (fun _=>0);rw [J2,JH] at this;omega
 have e2:AB m=ts:=xj _ _ r1 r2 h1 h2 fun f=>by have:=hf f;rw [r3 f];omega
 rw [e,e2]
theorem vW {α σ ρ:Type} (g:α→σ→σ):∀ (l:List α) (s:σ),cR (ε:=σ) (ρ:=ρ) (fun x s=>fE.go (g x s)) (fun s=>s) l s = .brk (l.foldl (fun s x=>g x s) s)
 | [],s=>rfl
 | x::l,s=>by simp only [cR,List.foldl_cons];exact vW g l (g x s)
theorem bU {n:Int} (h1 : -9223372036854775808≤n) (h2:n≤9223372036854775807):aS n=n:=by unfold aS IntKind.wrap IntKind.bits IntKind.signed;simp;omega
theorem vP {σ ε ρ:Type} {body:Nat→σ→Option (fE σ ε ρ)} {fin:Nat→σ→ε} (I:Nat→σ→Prop):∀ (k i:Nat) (s:σ),I i s→(∀ j s,i≤j→j<i+k→I j s→∃ s',body j s=some (.go s')∧I (j+1) s') →
 ∃ s',fA body fin k i s=some (.brk (fin (i+k) s'))∧I (i+k) s'
 | 0,i,s,hI,h=>⟨s,by simp [fA],hI⟩
 | k+1,i,s,hI,h=>by obtain ⟨s1,h1,h2⟩:=h i s (Nat.le_refl _) (by omega) hI;obtain ⟨s',e1,e3⟩:=vP I k (i+1) s1 h2 (fun j s h1 h2=>h j s (by omega) (by omega));refine ⟨s',?_,by rw [show i+(k+1)=i+1+k by omega];exact e3⟩;simp only [fA,h1,Option.bind_some,AK];rw [e1,show i+1+k=i+(k+1) by omega]
def l7 (n:Int):Bool:=decide (-4611686018427387904≤n)&&decide (n≤4611686018427387904)
theorem mn {n:Int}:l7 n=true ↔ -4611686018427387904≤n∧n≤4611686018427387904:=by simp [l7]
theorem gD (l:List Int):fB l=some (l.all l7):=by
 unfold fB;rw [oz (fun j=>l7 (l.getD j 0)) _ _ () (fun j u _ _=>by
  generalize l.getD j 0=n;unfold l7;have e1:decide (n < -4611686018427387904) = !(decide (-4611686018427387904≤n)):=by rw [Bool.eq_iff_iff];simp
  have e2:decide (n>4611686018427387904) = !(decide (n≤4611686018427387904)):=by rw [Bool.eq_iff_iff];simp
  rw [e1,e2];cases decide (-4611686018427387904≤n)<;>cases decide (n≤4611686018427387904)<;>rfl),pS,L0 l7 0 l]
 cases l.all l7<;>rfl
theorem kP {a:Int} (h:l7 a=true):cE a=some (a.natAbs:Int)∧a.natAbs≤4611686018427387904:=by
 rw [mn] at h;unfold cE;by_cases h0:a<0
 ·rw [Mr h0];simp only [cond_true,Mv];rw [bU (by omega) (by omega)];omega
 ·rw [Mq h0];simp only [cond_false,Mv];omega
theorem wrap_u64 {n:Int} (h0:0≤n) (h:n<18446744073709551616):IntKind.wrap .u64 n=n:=by unfold IntKind.wrap IntKind.bits IntKind.signed;simp;omega
theorem wrap_i64 {n:Int} (h0:0≤n) (h:n≤9223372036854775807):IntKind.wrap .i64 n=n:=bU (by omega) h
def mulR (a b:Int):Int×Int:=bif l7 a&&(l7 b&&l7 (a*b)) then (a*b,0) else (0,2)
theorem zk (a b:Int):((decide (a<0)==decide (b<0))=true→a*b=((a.natAbs*b.natAbs:Nat):Int))∧((decide (a<0)==decide (b<0))=false→a*b = -((a.natAbs*b.natAbs:Nat):Int)):=by
 rcases Int.natAbs_eq a with ha | ha<;>rcases Int.natAbs_eq b with hb | hb;all_goals
  generalize a.natAbs=x at ha ⊢;generalize b.natAbs=y at hb ⊢;subst ha;subst hb
 ·refine ⟨fun _=>by push_cast;rfl,fun h => ?_⟩;rw [Mq (by omega),Mq (by omega)] at h;cases h
 ·constructor
  ·intro h;by_cases hy:y=0
   ·subst hy;simp
   ·rw [Mq (by omega),Mr (by omega)] at h;cases h
  ·intro _;rw [Int.mul_neg];push_cast;rfl
 ·constructor
  ·intro h;by_cases hx:x=0
   ·subst hx;simp
   ·rw [Mr (by omega),Mq (by omega)] at h;cases h
  ·intro _;rw [Int.neg_mul];push_cast;rfl
 ·constructor
  ·intro _;rw [Int.neg_mul_neg];push_cast;rfl
  ·intro h;by_cases hx:x=0
   ·subst hx;simp
   ·by_cases hy:y=0
    ·subst hy;simp
    ·rw [Mr (by omega),Mr (by omega)] at h;cases h
theorem cz {α β:Type} (x:α) (f:α→Option β):(some x).bind f=f x:=Eq.trans (Option.bind_some x f) rfl
theorem BJ {x y:Int} (hx:0≤x∧x<18446744073709551616) (hy:0≤y∧y<18446744073709551616):mA x y=some (x*y / 18446744073709551616,x*y % 18446744073709551616):=if_pos ⟨hx,hy⟩
theorem nN (a b:Int):e9 a b=some (mulR a b):=by
 unfold e9 mulR;rw [gD];simp only [List.all_cons,List.all_nil,Bool.and_true,cz];cases ha:l7 a with
 | false=>rfl
 | true =>
  cases hb:l7 b with
  | false=>rfl
  | true =>
   obtain ⟨a1,a2⟩:=kP ha;obtain ⟨b1,b2⟩:=kP hb;simp only [Bool.true_and,cond_true];rw [a1,b1];simp only [cz];rw [wrap_u64 (by omega) (by omega),wrap_u64 (by omega) (by omega),BJ ⟨by omega,by omega⟩ ⟨by omega,by omega⟩];obtain ⟨s1,s2⟩:=zk a b;have hP:((a.natAbs:Int)*(b.natAbs:Int))=((a.natAbs*b.natAbs:Nat):Int):=by push_cast;rfl
   rw [hP];generalize a.natAbs*b.natAbs=P at s1 s2 ⊢;generalize hhi:(P:Int) / 18446744073709551616=hi;generalize hlo:(P:Int) % 18446744073709551616=lo;simp only [cz];by_cases hbig:P≤4611686018427387904
   ·rw [Mq (show ¬ (hi>0) by omega),Mq (show ¬ (lo>4611686018427387904) by omega)];simp only [cond_false];have em:lo=P:=by omega
    rw [em,wrap_i64 (by omega) (by omega)];cases hs:(decide (a<0)==decide (b<0)) with
    | true =>
     rw [s1 hs];have:l7 (P:Int)=true:=mn.2 ⟨by omega,by omega⟩;rw [this];rfl
    | false =>
     rw [s2 hs];have:l7 (-(P:Int))=true:=mn.2 ⟨by omega,by omega⟩;rw [this,bU (by omega) (by omega),Int.zero_sub];rfl
   ·have hab:l7 (a*b)=false:=by
     have:¬ (l7 (a*b)=true):=by
      rw [mn];cases hs:(decide (a<0)==decide (b<0)) with
      | true=>rw [s1 hs];omega
      | false=>rw [s2 hs];omega
     simpa using this
    rw [hab];by_cases hq:hi>0
    ·rw [Mr hq];rfl
    ·rw [Mq hq,Mr (show lo>4611686018427387904 by omega)];rfl
def v3 (a b c:Int):Int:=a+b*18446744073709551616+c*340282366920938463463374607431768211456
def lm (x:Int):Prop:=0≤x∧x<18446744073709551616
theorem Ir {x y c:Int} (hx:lm x) (hy:lm y) (hc:0≤c∧c≤1):eU x y c=some ((x+y+c) % 18446744073709551616,(x+y+c) / 18446744073709551616):=if_pos ⟨hx,hy,hc⟩
theorem xO {x y c:Int} (hx:lm x) (hy:lm y) (hc:0≤c∧c≤1):∃ r d,eU x y c=some (r,d)∧lm r∧(0≤d∧d≤1)∧r+d*18446744073709551616=x+y+c:=by refine ⟨_,_,Ir hx hy hc,?_⟩;unfold lm at *;generalize hs:x+y+c=s;omega
theorem Hl {x y:Int} (hx:lm x) (hy:lm y):∃ hi lo,mA x y=some (hi,lo)∧lm lo∧lo+hi*18446744073709551616=x*y∧0≤hi:=by refine ⟨_,_,BJ hx hy,?_⟩;have h0:0≤x*y:=Int.mul_nonneg hx.1 hy.1;unfold lm;generalize x*y=s at h0;omega
theorem D6 {x0 x1 x2 hi lo:Int} (h0:lm x0) (h1:lm x1) (h2:lm x2) (hh:lm hi) (hl:lm lo) (hs:v3 x0 x1 x2+lo+hi*18446744073709551616<6277101735386680763835789423207666416102355444464034512896) :
 ∃ r0 r1 r2 c0 c1 c2,eU x0 lo 0=some (r0,c0)∧eU x1 hi c0=some (r1,c1)∧eU x2 0 c1=some (r2,c2)∧lm r0∧lm r1∧lm r2∧v3 r0 r1 r2=v3 x0 x1 x2+lo+hi*18446744073709551616:=by
 obtain ⟨r0,c0,e0,l0,d0,s0⟩:=xO h0 hl (c:=0) (by omega);obtain ⟨r1,c1,e1,l1,d1,s1⟩:=xO h1 hh d0;obtain ⟨r2,c2,e2,l2,d2,s2⟩:=xO h2 (y:=0) (by unfold lm;omega) d1;refine ⟨r0,r1,r2,c0,c1,c2,e0,e1,e2,l0,l1,l2,?_⟩;unfold lm v3 at *;omega
theorem zI {a b p0 p1 p2 n0 n1 n2 K:Int} (ha:l7 a=true) (hb:l7 b=true) (h0:lm p0) (h1:lm p1) (h2:lm p2) (g0:lm n0) (g1:lm n1) (g2:lm n2) (hK:v3 p0 p1 p2+v3 n0 n1 n2≤K) (hK2:K≤6277101735386680763835789423207666416102355444464034512896-21267647932558653966460912964485513216-1) :
 ∃ q0 q1 q2 m0 m1 m2,db a b p0 p1 p2 n0 n1 n2=some (q0,q1,q2,m0,m1,m2)∧lm q0∧lm q1∧lm q2∧lm m0∧lm m1∧lm m2∧v3 q0 q1 q2-v3 m0 m1 m2=v3 p0 p1 p2-v3 n0 n1 n2+a*b∧v3 q0 q1 q2+v3 m0 m1 m2≤K+21267647932558653966460912964485513216:=by
 obtain ⟨a1,a2⟩:=kP ha;obtain ⟨b1,b2⟩:=kP hb;obtain ⟨s1,s2⟩:=zk a b;obtain ⟨hi,lo,em,hlo,hsum,hhi⟩:=Hl (x:=(a.natAbs:Int)) (y:=(b.natAbs:Int)) (by unfold lm;omega) (by unfold lm;omega);have hP:((a.natAbs:Int)*(b.natAbs:Int))=((a.natAbs*b.natAbs:Nat):Int):=by push_cast;rfl
 have hPb:a.natAbs*b.natAbs≤21267647932558653966460912964485513216:=by have:=Nat.mul_le_mul a2 b2;exact this
 rw [hP] at hsum;have wa:=wrap_u64 (n:=(a.natAbs:Int)) (by omega) (by omega);have wb:=wrap_u64 (n:=(b.natAbs:Int)) (by omega) (by omega);have v0:0≤v3 p0 p1 p2:=by unfold lm v3 at *;omega
 have v1:0≤v3 n0 n1 n2:=by unfold lm v3 at *;omega
 generalize a.natAbs*b.natAbs=Pn at s1 s2 hsum hPb;have hhi2:lm hi:=by unfold lm at *;omega
 unfold db;cases hs:(decide (a<0)==decide (b<0)) with
 | true =>
  obtain ⟨r0,r1,r2,c0,c1,c2,e0,e1,e2,l0,l1,l2,hv⟩:=D6 h0 h1 h2 hhi2 hlo (by omega);refine ⟨r0,r1,r2,n0,n1,n2,?_,l0,l1,l2,g0,g1,g2,?_,?_⟩
  ·simp only [cond_true];rw [a1,b1];simp only [cz];rw [wa,wb,em];simp only [cz];rw [e0];simp only [cz];rw [e1];simp only [cz];rw [e2];simp only [cz]
  ·rw [hv,s1 hs];omega
  ·rw [hv];omega
 | false =>
  obtain ⟨r0,r1,r2,c0,c1,c2,e0,e1,e2,l0,l1,l2,hv⟩:=D6 g0 g1 g2 hhi2 hlo (by omega);refine ⟨p0,p1,p2,r0,r1,r2,?_,h0,h1,h2,l0,l1,l2,?_,?_⟩
  ·simp only [cond_false];rw [a1,b1];simp only [cz];rw [wa,wb,em];simp only [cz];rw [e0];simp only [cz];rw [e1];simp only [cz];rw [e2];simp only [cz]
  ·rw [hv,s2 hs];omega
  ·rw [hv];omega
theorem w4 {x y c:Int} (hx:lm x) (hy:lm y) (hc:0≤c∧c≤1):∃ r d,my x y c=some (r,d)∧lm r∧(0≤d∧d≤1)∧r=x-y-c+d*18446744073709551616:=by have e:my x y c=some ((x-y-c) % 18446744073709551616,if x<y+c then 1 else 0):=if_pos ⟨hx,hy,hc⟩;refine ⟨_,_,e,?_⟩;unfold lm at *;generalize hs:x-y-c=s;split<;>omega
theorem wy {a0 a1 a2 b0 b1 b2:Int} (h0:lm a0) (h1:lm a1) (h2:lm a2) (g0:lm b0) (g1:lm b1) (g2:lm b2) :
 ∃ r0 r1 r2 k,cG (a0,a1,a2) (b0,b1,b2)=some ((r0,r1,r2),k)∧(v3 b0 b1 b2≤v3 a0 a1 a2→k=true∧lm r0∧lm r1∧lm r2∧v3 r0 r1 r2=v3 a0 a1 a2-v3 b0 b1 b2)∧(v3 a0 a1 a2<v3 b0 b1 b2→k=false):=by
 obtain ⟨r0,c0,e0,l0,d0,s0⟩:=w4 h0 g0 (c:=0) (by omega);obtain ⟨r1,c1,e1,l1,d1,s1⟩:=w4 h1 g1 d0;obtain ⟨r2,c2,e2,l2,d2,s2⟩:=w4 h2 g2 d1;refine ⟨r0,r1,r2,c2==0,?_,fun h => ?_,fun h => ?_⟩
 ·unfold cG;rw [e0];simp only [cz];rw [e1];simp only [cz];rw [e2];simp only [cz]
 ·unfold lm v3 at *;refine ⟨?_,l0,l1,l2,by omega⟩;have:c2=0:=by omega
  rw [this];rfl
 ·unfold lm v3 at *;have:c2=1:=by omega
  rw [this];rfl
theorem wm (n:Int) (h:l7 n=true):eT n=some (n,0):=by unfold eT;rw [gD];simp only [List.all_cons,List.all_nil,h,Bool.and_true,cz,cond_true]
def CL (S:Int):Int×Int:=bif l7 S then (S,0) else (0,2)
theorem pd {S:Int} (h:S < -4611686018427387904∨4611686018427387904<S):CL S=(0,2):=by
 have:l7 S=false:=by
  have:¬ l7 S=true:=by rw [mn];omega
  simpa using this
 unfold CL;rw [this];rfl
theorem D7 {S:Int} (h:l7 S=true):CL S=(S,0):=by unfold CL;rw [h];rfl
theorem wP {a0 a1 a2 b0 b1 b2:Int} (h0:lm a0) (h1:lm a1) (h2:lm a2) (g0:lm b0) (g1:lm b1) (g2:lm b2):cA a0 a1 a2 b0 b1 b2=some (CL (v3 a0 a1 a2-v3 b0 b1 b2)):=by
 obtain ⟨r0,r1,r2,k,e1,k1,k2⟩:=wy h0 h1 h2 g0 g1 g2;obtain ⟨t0,t1,t2,j,e2,j1,j2⟩:=wy g0 g1 g2 h0 h1 h2;unfold cA;rw [e1];simp only [cz];by_cases hge:v3 b0 b1 b2≤v3 a0 a1 a2
 ·obtain ⟨hk,l0,l1,l2,hv⟩:=k1 hge;rw [hk];simp only [cond_true];by_cases q1:r1>0
  ·rw [Mr q1,pd (by unfold lm v3 at *;omega)];rfl
  ·rw [Mq q1];simp only [cond_false];by_cases q2:r2>0
   ·rw [Mr q2,pd (by unfold lm v3 at *;omega)];rfl
   ·rw [Mq q2];simp only [cond_false];by_cases q0:r0>4611686018427387904
    ·rw [Mr q0,pd (by unfold lm v3 at *;omega)];rfl
    ·rw [Mq q0];simp only [cond_false];have e:r0=v3 a0 a1 a2-v3 b0 b1 b2:=by unfold lm v3 at *;omega
     have hin:l7 r0=true:=mn.2 (by unfold lm at *;omega);rw [wrap_i64 l0.1 (by omega),Int.one_mul,bU (by unfold lm at *;omega) (by omega),wm r0 hin,← e,D7 hin];simp only [cz]
 ·rw [k2 (by omega)];simp only [cond_false];rw [e2];simp only [cz];obtain ⟨hj,l0,l1,l2,hv⟩:=j1 (by omega);rw [hj];simp only [cond_true];by_cases q1:t1>0
  ·rw [Mr q1,pd (by unfold lm v3 at *;omega)];rfl
  ·rw [Mq q1];simp only [cond_false];by_cases q2:t2>0
   ·rw [Mr q2,pd (by unfold lm v3 at *;omega)];rfl
   ·rw [Mq q2];simp only [cond_false];by_cases q0:t0>4611686018427387904
    ·rw [Mr q0,pd (by unfold lm v3 at *;omega)];rfl
    ·rw [Mq q0];simp only [cond_false];have e : -t0=v3 a0 a1 a2-v3 b0 b1 b2:=by unfold lm v3 at *;omega
     have hin:l7 (-t0)=true:=mn.2 (by unfold lm at *;omega);rw [wrap_i64 l0.1 (by omega),show (-1)*t0 = -t0 by omega,bU (by omega) (by unfold lm at *;omega),wm (-t0) hin,← e,D7 hin];simp only [cz]
def Kh (f:Nat→Int):Nat→Int
 | 0=>0
 | j+1=>Kh f j+f j
def LM (a b:List Int) (i:Nat):Int:=a.getD i 0*b.getD i 0
def Dc (a b:List Int):Int×Int:=bif decide (a.length=b.length) then (bif decide (a.length≤10000) then (bif a.all l7&&b.all l7 then CL (Kh (LM a b) a.length) else (0,2)) else (0,3)) else (0,1)
def zn (s:Int×Int×Int×Int×Int×Int):Prop:=lm s.1∧lm s.2.1∧lm s.2.2.1∧lm s.2.2.2.1∧lm s.2.2.2.2.1∧lm s.2.2.2.2.2
def LV (s:Int×Int×Int×Int×Int×Int):Int:=v3 s.1 s.2.1 s.2.2.1-v3 s.2.2.2.1 s.2.2.2.2.1 s.2.2.2.2.2
def L3 (s:Int×Int×Int×Int×Int×Int):Int:=v3 s.1 s.2.1 s.2.2.1+v3 s.2.2.2.1 s.2.2.2.2.1 s.2.2.2.2.2
theorem EW {a b:Int} (ha:l7 a=true) (hb:l7 b=true) (s:Int×Int×Int×Int×Int×Int) (hl:zn s) (j:Nat) (hj:j<10000) (ht:L3 s≤(j:Int)*21267647932558653966460912964485513216) :
 ∃ s',db a b s.1 s.2.1 s.2.2.1 s.2.2.2.1 s.2.2.2.2.1 s.2.2.2.2.2=some s'∧zn s'∧LV s'=LV s+a*b∧L3 s'≤((j+1:Nat):Int)*21267647932558653966460912964485513216:=by
 obtain ⟨q0,q1,q2,m0,m1,m2,e,l0,l1,l2,l3,l4,l5,hd,hs⟩:=zI (K:=(j:Int)*21267647932558653966460912964485513216) ha hb hl.1 hl.2.1 hl.2.2.1 hl.2.2.2.1 hl.2.2.2.2.1 hl.2.2.2.2.2 ht (by omega);refine ⟨(q0,q1,q2,m0,m1,m2),e,⟨l0,l1,l2,l3,l4,l5⟩,hd,?_⟩;show v3 q0 q1 q2+v3 m0 m1 m2≤_;omega
theorem Bt (s:Int×Int×Int×Int×Int×Int) (hl:zn s):cA s.1 s.2.1 s.2.2.1 s.2.2.2.1 s.2.2.2.2.1 s.2.2.2.2.2=some (CL (LV s)) :=
 wP hl.1 hl.2.1 hl.2.2.1 hl.2.2.2.1 hl.2.2.2.2.1 hl.2.2.2.2.2
theorem GY {l:List Int} (h:l.all l7=true) {j:Nat} (hj:j<l.length):l7 (l.getD j 0)=true:=by rw [Mk,Ml hj];exact My.1 h _ (List.getElem_mem hj)
theorem Kz:zn (0,0,0,0,0,0):=by unfold zn lm;simp
theorem xU (a b:List Int):k9 a b=some (Dc a b):=by
 unfold k9 Dc;by_cases hlen:a.length=b.length
 ·rw [Mr hlen,show ((((a.length:Nat):Int)==((b.length:Nat):Int)))=true by simp [hlen]];simp only [cond_true];by_cases h1:a.length≤10000
  ·rw [Mr h1,Mq (by omega)];simp only [cond_true,cond_false];rw [gD,gD];simp only [cz];cases ha:a.all l7 with
   | false=>rfl
   | true =>
    cases hb:b.all l7 with
    | false=>rfl
    | true =>
     simp only [cond_true,Bool.and_true];obtain ⟨s',e1,hI⟩:=vP (ρ:=Empty) (body:=fun i93 (s92:Int×Int×Int×Int×Int×Int)=>bX (i93<b.length) <| (db (a.getD i93 0) (b.getD i93 0) s92.1 s92.2.1 s92.2.2.1 s92.2.2.2.1 s92.2.2.2.2.1 s92.2.2.2.2.2).bind fun y122=>some (.go (y122.1,y122.2.1,y122.2.2.1,y122.2.2.2.1,y122.2.2.2.2.1,y122.2.2.2.2.2)))
      (fin:=fun i93 s92=>(s92.1,s92.2.1,s92.2.2.1,s92.2.2.2.1,s92.2.2.2.2.1,s92.2.2.2.2.2))
      (fun j s=>zn s∧LV s=Kh (LM a b) j∧L3 s≤(j:Int)*21267647932558653966460912964485513216) (a.length-0) 0 (0,0,0,0,0,0) ⟨Kz,rfl,by decide⟩ (fun j s _ hj ⟨i1,i2,i3⟩=>by obtain ⟨s',e,l,d,t⟩:=EW (GY ha (j:=j) (by omega)) (GY hb (j:=j) (by omega)) s i1 j (by omega) i3;refine ⟨s',?_,l,by rw [d,i2];rfl,t⟩;rw [aK (by omega),e];rfl)
     rw [e1];show (cA s'.1 s'.2.1 s'.2.2.1 s'.2.2.2.1 s'.2.2.2.2.1 s'.2.2.2.2.2).bind _=_;rw [Bt s' hI.1,hI.2.1,Nat.zero_add,Nat.sub_zero];rfl
  ·rw [Mq h1,Mr (by omega)];rfl
 ·rw [Mq hlen,show ((((a.length:Nat):Int)==((b.length:Nat):Int)))=false by rw [beq_eq_false_iff_ne];omega];rfl
def ql (x:ak):List au→Int
 | []=>0
 | t::ts=>if t.Var=x then t.C else ql x ts
def cf (l:Linear) (x:ak):Int:=ql x l.Terms
def Bv (ts:List au):Prop:=(ts.map au.Var).Nodup
def upd (f:ak→Int) (x:ak) (a:Int):ak→Int:=fun v=>if v=x then a else f v
theorem B5 (f:ak→Int) (x:ak) (a:Int):upd f x a x=a:=if_pos rfl
theorem bM {f:ak→Int} {x v:ak} {a:Int} (h:v≠x):upd f x a v=f v:=if_neg h
theorem lI {x:ak}:∀ {ts:List au},x ∉ ts.map au.Var→ql x ts=0
 | [],_=>rfl
 | t::ts,h=>by simp only [List.map_cons,List.mem_cons,not_or] at h;rw [ql,if_neg (fun e=>h.1 e.symm),lI h.2]
theorem vT {x:ak}:∀ {ts:List au},ql x ts≠0→∃ t∈ts,t.Var=x∧t.C=ql x ts
 | [],h=>absurd rfl h
 | t::ts,h=>by
  by_cases e:t.Var=x
  ·exact ⟨t,by simp,e,by rw [ql,if_pos e]⟩
  ·rw [ql,if_neg e] at h;obtain ⟨u,hu,h1,h2⟩:=vT h;exact ⟨u,by simp [hu],h1,by rw [ql,if_neg e];exact h2⟩
theorem oK {t:au}:∀ {ts:List au},Bv ts→t∈ts→ql t.Var ts=t.C
 | u::ts,hn,h=>by
  unfold Bv at hn;rw [List.map_cons,List.nodup_cons] at hn;rcases List.mem_cons.1 h with rfl | h
  ·rw [ql,if_pos rfl]
  ·have:¬ u.Var=t.Var:=fun e=>hn.1 (by rw [e];exact List.mem_map.2 ⟨t,h,rfl⟩);rw [ql,if_neg this];exact oK hn.2 h
theorem xE (f:ak→Int) (x:ak) (a:Int):∀ {ts:List au},Bv ts→du (upd f x a) ts=du f ts+ql x ts*(a-f x)
 | [],_=>by simp [du,ql]
 | t::ts,hn=>by
  unfold Bv at hn;rw [List.map_cons,List.nodup_cons] at hn;have ih:=xE f x a (ts:=ts) hn.2;simp only [du,ql];by_cases e:t.Var=x
  ·have h0:ql x ts=0:=lI (by rw [← e];exact hn.1);rw [if_pos e,e,B5,ih,h0,Int.zero_mul,Int.mul_sub];omega
  ·rw [if_neg e,bM e,ih];omega
theorem gG {l:Linear} (h:ax l=true):Bv l.Terms:=Bp h
theorem xy (v:ak):∀ {ts:List au},Bv ts→du (ind v) ts=ql v ts:=fun {ts} hn=>by
 have h:=xE (fun _=>0) v 1 hn;rw [JH] at h;have e:upd (fun _=>0) v 1=ind v:=by funext x;simp only [upd,ind]
 rw [e] at h;omega
theorem Ex (f:ak→Int) (x:ak) (a:Int) {l:Linear} (h:Bv l.Terms):mz (upd f x a) l=mz f l+cf l x*(a-f x):=by unfold mz cf;rw [xE f x a h];omega
theorem qM (l:Linear):mz (fun _=>0) l=l.Const:=by unfold mz;rw [JH];omega
theorem zS (v:ak) {l:Linear} (h:Bv l.Terms):mz (ind v) l=l.Const+cf l v:=by unfold mz cf;rw [xy v h]
theorem JF {a b:Linear} (ha:ax a=true) (hb:ax b=true) (h:∀ f,mz f a=mz f b):a=b:=by
 obtain ⟨n,ts⟩:=a;obtain ⟨m,us⟩:=b;have e:n=m:=by have:=h (fun _=>0);rw [qM,qM] at this;exact this
 have e2:ts=us:=xj _ _ (yX ha) (ij ha) (yX hb) (ij hb) fun f=>by have:=h f;unfold mz at this;simp only at this;omega
 rw [e,e2]
theorem BT {bs:List Bind} (hb:∀ b∈bs,ax b.Dim=true) (r:Linear×Int):∀ (ts:List au) (s:Int×List (ak×Int)),cR (DM bs) (fun s=>s) ts s ≠ .ret r
 | [],s=>by simp [cR]
 | t::ts,s=>by
  have hg:∃ s',DM bs t s = .go s':=by
   unfold DM;cases h1:decide (idxOf (iD 1 t.Var) bs<0) with
   | true=>exact ⟨_,rfl⟩
   | false =>
    have hp:=r8 (iD 1 t.Var) pq bs (by simpa using h1);have hm:bs.getD (idxOf (iD 1 t.Var) bs).toNat pq∈bs:=by rw [Mk,Ml hp.1];exact List.getElem_mem hp.1
    rw [hb _ hm];exact ⟨_,rfl⟩
  obtain ⟨s',e⟩:=hg;simp only [cR,e];exact BT hb r ts s'
theorem K2 {bs:List Bind} {l:Linear} (hv:ax l=true) (hb:∀ b∈bs,ax b.Dim=true) {n:Int} {ts:List au} (h1:J4 ts) (h2:Nz ts) (h:∀ f,mz (sv bs f) l=n+du f ts):pF bs l=Fj (Linear.mk n ts):=by
 unfold pF;rw [hv,cond_true];have hall:=fun f=>zX bs f l.Const l.Terms 0 (l.Const,[]) (by have:=b8 hv;omega) (cM hv) (L2 l hv);rcases hall (fun _=>0) with ⟨u,e1,e2,_⟩ | e
 ·rw [e1];simp only [GB];rw [C8];refine G9 e2.1.nd h1 h2 fun f => ?_;rcases hall f with ⟨u',e1',_,e3'⟩ | e'
  ·rw [e1] at e1';injection e1' with e1'
   subst e1';rw [e3',← h f];simp only [oe,mz];omega
  ·rw [e'] at e1;cases e1
 ·exact absurd e (BT hb _ _ _)
theorem C5 {l:Linear} (h:ax l=true):Fj l=(l,0):=by unfold Fj;rw [h];rfl
theorem mX:ax (Linear.mk 0 [])=true:=by decide
def one (x:ak) (l:Linear):Bind:=Bind.mk 1 x l (Shape.mk [] []) []
theorem Hz (x:ak) (l:Linear) (f:ak→Int):sv [one x l] f=upd f x (mz f l):=by
 funext v;unfold sv upd;by_cases e:v=x
 ·subst e;simp [idxOf,iD,one]
 ·have e2:(x==v)=false:=by simpa using Ne.symm e
  simp [idxOf,iD,one,e,e2]
theorem zR {x:ak} {l q:Linear} (h:(pF [one x l] q).2=0) (f:ak→Int):ax q=true∧ax (pF [one x l] q).1=true∧mz f (pF [one x l] q).1=mz f q+cf q x*(mz f l-f x):=by obtain ⟨h1,h2,h3⟩:=Gq h f;refine ⟨h1,h2,?_⟩;rw [h3,Hz,Ex f x _ (gG h1)]
theorem Kw {x:ak} {l q:Linear} (h:(pF [one x l] q).2=0) (hl:ax l=true) (v:ak):cf (pF [one x l] q).1 v=cf q v+cf q x*(cf l v-ind v x):=by
 obtain ⟨h1,h2,h3⟩:=zR h (ind v);obtain ⟨_,_,h4⟩:=zR h (fun _=>0);rw [zS v (gG h2),zS v (gG h1),zS v (gG hl)] at h3;rw [qM,qM,qM] at h4;have e:cf q x*(l.Const+cf l v-ind v x)=cf q x*(l.Const-0)+cf q x*(cf l v-ind v x):=by rw [← Int.mul_add];congr 1;omega
 rw [e] at h3;omega
theorem EO (x:ak):∀ (ts:List au),cR (σ:=Unit) (ε:=Unit) (ρ:=Int) (fun t s=>bif t.Var==x then .ret t.C else .go ()) (fun _=>()) ts ()=if x∈ts.map au.Var then .ret (ql x ts) else .brk ()
 | []=>rfl
 | t::ts=>by
  simp only [cR,List.map_cons,List.mem_cons];by_cases e:t.Var=x
  ·simp [e,ql]
  ·have e2:(t.Var==x)=false:=by simpa using e
   rw [e2,cond_false];simp only;rw [EO x ts];have e3:¬ x=t.Var:=fun h=>e h.symm;simp [e3,ql,e]
theorem nc (l:Linear) (x:ak):fY l x=some (cf l x):=by
 unfold fY;rw [ea ⟨[],0⟩ l.Terms (fun t s=>bif t.Var==x then .ret t.C else .go ()) (fun _ _=>True) (f:=fun _=>()) (fun _ _=>rfl) () trivial (fun j s hj _=>⟨by cases (l.Terms.getD j ⟨[],0⟩).Var==x<;>rfl,fun _ _=>trivial⟩),EO];simp only [Option.bind_some];by_cases h:x∈l.Terms.map au.Var
 ·rw [if_pos h];rfl
 ·rw [if_neg h];show some 0=_;unfold cf;rw [lI h]
def gB (s:Int×Int):Option (fE (Int×Int) Int Empty):=bif (s.2==0) then some (.brk s.1) else bX ((s.2:Int)≠0) <| some (.go (s.2,(s.1.tmod s.2)))
theorem Ax (m:Int) (N:Nat):oa gB (N+1) (m,0)=some (.brk m):=rfl
theorem DR (m n:Nat) (h:n≠0) (N:Nat):oa gB (N+1) ((m:Int),(n:Int))=oa gB N ((n:Int),((m % n:Nat):Int)):=by
 have h1:((n:Int)==0)=false:=by simp;omega
 have h2:(n:Int)≠0:=by omega
 simp only [oa,gB,h1,cond_false];rw [aK h2,← Int.ofNat_tmod];rfl
theorem Dh:∀ (k m n N:Nat),n<2 ^ k→2*k+1≤N→oa gB N ((m:Int),(n:Int))=some (.brk ((Nat.gcd m n:Nat):Int))
 | 0,m,n,N,h1,h2=>by
  obtain ⟨N,rfl⟩:∃ j,N=j+1:=⟨N-1,by omega⟩;have:n=0:=by simpa using h1
  subst this;rw [Nat.gcd_zero_right];exact Ax _ _
 | k+1,m,n,N,h1,h2=>by
  obtain ⟨N,rfl⟩:∃ j,N=j+2:=⟨N-2,by omega⟩;by_cases hn:n=0
  ·subst hn;rw [Nat.gcd_zero_right];exact Ax _ _
  ·rw [DR m n hn];by_cases hr:m % n=0
   ·rw [hr,show ((0:Nat):Int)=0 from rfl,Ax,Nat.gcd_comm,Nat.gcd_rec n m,hr,Nat.gcd_zero_left]
   ·rw [DR n (m % n) hr];have hlt:m % n<n:=Nat.mod_lt _ (Nat.pos_of_ne_zero hn);have hd:=Nat.div_add_mod n (m % n);have hlt2:n % (m % n)<m % n:=Nat.mod_lt _ (Nat.pos_of_ne_zero hr);have hq:1≤n / (m % n):=(Nat.le_div_iff_mul_le (Nat.pos_of_ne_zero hr)).2 (by omega);have hm:m % n≤(m % n)*(n / (m % n)):=Nat.le_mul_of_pos_right _ hq;rw [Nat.pow_succ] at h1;rw [Dh k (m % n) (n % (m % n)) N (by omega) (by omega)];rw [Nat.gcd_comm m n,Nat.gcd_rec n m,Nat.gcd_comm (m % n) n,Nat.gcd_comm n (m % n),Nat.gcd_comm (m % n) (n % (m % n)),← Nat.gcd_rec (m % n) n]
theorem xb {a b:Int} (ha:l7 a=true) (hb:l7 b=true):kY a b=some ((Nat.gcd a.natAbs b.natAbs:Nat):Int):=by unfold kY;rw [(kP ha).1,(kP hb).1];simp only [Option.bind_some];have h:=Dh 63 a.natAbs b.natAbs 4294967296 (by have:=(kP hb).2;omega) (by omega);refine (congrArg (fun o:Option (Out Int Empty)=>Option.bind o _) h).trans ?_;rfl
def nB (a b:Int):Int×Int:=bif l7 a&&l7 b then (bif a==0||b==0 then (0,0) else mulR ((a.natAbs / Nat.gcd a.natAbs b.natAbs:Nat):Int) (b.natAbs:Int)) else (0,2)
theorem wU (a b:Int):k7 a b=some (nB a b):=by
 unfold k7 nB;rw [gD];simp only [Option.bind_some,List.all_cons,List.all_nil,Bool.and_true];cases hab:l7 a&&l7 b with
 | false=>rfl
 | true =>
  simp only [Mm] at hab;simp only [cond_true];cases h1:a==0 with
  | true=>rfl
  | false =>
   cases h2:b==0 with
   | true=>rfl
   | false =>
    simp only [Bool.or_false,cond_false];rw [(kP hab.1).1,xb hab.1 hab.2,(kP hab.2).1];simp only [Option.bind_some];have ha0:a≠0:=by simpa using h1
    have hg:Nat.gcd a.natAbs b.natAbs≠0:=Nat.gcd_ne_zero_left (by omega);have hw:∀ z:Nat,z≤a.natAbs→aS (z:Int)=z:=fun z hz=>bU (by omega) (by have:=(kP hab.1).2;omega);rw [aK (by omega),← Int.ofNat_tdiv,hw _ (Nat.div_le_self _ _),nN];rfl
def xR (ts:List au) (a:Nat):Nat:=ts.foldl (fun a t=>Nat.gcd a t.C.natAbs) a
def cont (l:Linear):Nat:=xR l.Terms 0
theorem CS {c:Int} (h : -1000000≤c∧c≤1000000):(if (aS (0-c))>c then (aS (0-c)) else c)=((c.natAbs:Nat):Int):=by rw [bU (by omega) (by omega)];split<;>omega
theorem tD {l:Linear} (h:ax l=true):iv l=some ((cont l:Nat):Int):=by
 have hk:=mC h;unfold iv;rw [bP l hk.1 hk.2,h];simp only [Option.bind_some,cond_true];have hC:=cM h;have hz:=ij h;have hl:=ea (ε:=Int) (ρ:=Empty) (f:=fun s=>s) (fin:=fun i0 s0=>s0) (⟨[],0⟩:au) l.Terms (fun t s=>fE.go ((Nat.gcd s.natAbs t.C.natAbs:Nat):Int)) (fun j s=>∃ n:Nat,s=(n:Int)∧n≤1000000)
  (body:=fun i0 s0=>(oa (σ:=(Int×Int)) (ε:=Int) (ρ:=Empty) (fun s1 =>
   bif (s1.2==0) then (
    some (.brk s1.1)
   ) else (
    bX ((s1.2:Int)≠0) <|
    some (.go (s1.2,(s1.1.tmod s1.2)))
   )
   ) 4294967296 (s0,(if (aS (0-((l.Terms.getD i0 ⟨[],0⟩).C)))>((l.Terms.getD i0 ⟨[],0⟩).C) then (aS (0-((l.Terms.getD i0 ⟨[],0⟩).C))) else ((l.Terms.getD i0 ⟨[],0⟩).C)))).bind <| dL fun u0 =>
   some (.go u0)) (fun _ _=>rfl) 0 ⟨0,rfl,by omega⟩ (fun j s hj hI=>by
   obtain ⟨n,rfl,hn⟩:=hI;have hm:l.Terms.getD j ⟨[],0⟩∈l.Terms:=cb _ hj;have hc:=(hC _ hm).1;have h0:=hz _ hm;refine ⟨?_,fun s' hs' => ?_⟩
   ·rw [CS hc];have:=Dh 20 n (l.Terms.getD j ⟨[],0⟩).C.natAbs 4294967296 (by omega) (by omega);refine (congrArg (fun o:Option (Out Int Empty)=>Option.bind o _) this).trans ?_;rfl
   ·injection hs' with hs'
    have h1:(l.Terms.getD j ⟨[],0⟩).C.natAbs≠0:=by omega
    have h2:Nat.gcd n (l.Terms.getD j ⟨[],0⟩).C.natAbs≤(l.Terms.getD j ⟨[],0⟩).C.natAbs:=Nat.gcd_le_right _ (Nat.pos_of_ne_zero h1);exact ⟨_,hs'.symm,by simp only [Int.natAbs_natCast];omega⟩)
 refine (congrArg (fun o:Option (Out Int Empty)=>Option.bind o _) hl).trans ?_;have hf:∀ (ts:List au) (n:Nat),cR (σ:=Int) (ε:=Int) (ρ:=Empty) (fun t s=>fE.go ((Nat.gcd s.natAbs t.C.natAbs:Nat):Int)) (fun s=>s) ts (n:Int) = .brk ((xR ts n:Nat):Int):=by
  intro ts;induction ts with
  | nil=>intro n;rfl
  | cons t ts ih=>intro n;simp only [cR];rw [Int.natAbs_natCast,ih];rfl
 have:=hf l.Terms 0;rw [show ((0:Nat):Int)=0 from rfl] at this;rw [this];rfl
theorem uE:∀ (ts:List au) (a:Nat),xR ts a ∣ a∧∀ t∈ts,xR ts a ∣ t.C.natAbs
 | [],a=>⟨Nat.dvd_refl _,fun t h=>by simp at h⟩
 | t::ts,a=>by
  obtain ⟨h1,h2⟩:=uE ts (Nat.gcd a t.C.natAbs);refine ⟨Nat.dvd_trans h1 (Nat.gcd_dvd_left _ _),fun u hu => ?_⟩;rcases List.mem_cons.1 hu with rfl | hu
  ·exact Nat.dvd_trans h1 (Nat.gcd_dvd_right _ _)
  ·exact h2 u hu
theorem zw {d:Nat}:∀ (ts:List au) (a:Nat),d ∣ a→(∀ t∈ts,d ∣ t.C.natAbs)→d ∣ xR ts a
 | [],a,h,_=>h
 | t::ts,a,h,ht=>zw ts _ (Nat.dvd_gcd h (ht t (by simp))) (fun u hu=>ht u (by simp [hu]))
theorem uf {l:Linear} (h:ax l=true):cont l=0↔l.Terms=[]:=by
 constructor
 ·intro h0;cases hT:l.Terms with
  | nil=>rfl
  | cons t ts =>
   have h1:=(uE l.Terms 0).2 t (by rw [hT];simp);have h2:xR l.Terms 0=0:=h0;rw [h2] at h1;have:=ij h t (by rw [hT];simp);have:=Nat.eq_zero_of_zero_dvd h1;omega
 ·intro h0;unfold cont;rw [h0];rfl
def jR (n d:Int):Int:=bif (n.tmod d==0)||(decide (n.tmod d<0)==decide (d<0)) then n.tdiv d else n.tdiv d-1
theorem Hc {n d:Int} (hd:d≠0):(n-d*jR n d).natAbs<d.natAbs∧(n-d*jR n d=0↔n.tmod d=0):=by
 have h1:=Int.mul_tdiv_add_tmod n d;have h2:(n.tmod d).natAbs<d.natAbs:=by rw [Int.natAbs_tmod];exact Nat.mod_lt _ (by omega)
 unfold jR;cases h3:n.tmod d==0 with
 | true =>
  have:n.tmod d=0:=by simpa using h3
  simp only [Bool.true_or,cond_true];omega
 | false =>
  have h3:n.tmod d≠0:=by simpa using h3
  cases h4:(decide (n.tmod d<0)==decide (d<0)) with
  | true=>simp only [Bool.false_or,cond_true];omega
  | false =>
   simp only [Bool.false_or,cond_false];rw [Int.mul_sub,Int.mul_one];have h5:(n.tmod d<0∧0<d)∨(0<n.tmod d∧d<0):=by
    by_cases e1:n.tmod d<0<;>by_cases e2:d<0
    ·rw [Mr e1,Mr e2] at h4;cases h4
    ·exact .inl ⟨e1,by omega⟩
    ·exact .inr ⟨by omega,e2⟩
    ·rw [Mq e1,Mq e2] at h4;cases h4
   omega
theorem Js {n d:Int} (hd:d≠0) (hn : -1000000≤n∧n≤1000000) : -1000001≤jR n d∧jR n d≤1000001:=by have h:=Int.natAbs_tdiv_le_natAbs n d;unfold jR;cases (n.tmod d==0)||(decide (n.tmod d<0)==decide (d<0))<;>simp only [cond_true,cond_false]<;>omega
theorem x8 {n d:Int} (hd:d≠0) (hn : -1000000≤n∧n≤1000000) (hdb : -1000000≤d∧d≤1000000):ln n d=some (jR n d,0):=by
 unfold ln hU;rw [gD];have hi:l7 n=true:=mn.2 (by omega);have hi2:l7 d=true:=mn.2 (by omega);have hz:(d==0)=false:=by simpa using hd
 simp only [Option.bind_some,List.all_cons,List.all_nil,Bool.and_true,hi,hi2,cond_true,hz,cond_false];unfold j6 jR;have h:=Int.natAbs_tdiv_le_natAbs n d;have h2:(n.tmod d).natAbs<d.natAbs:=by rw [Int.natAbs_tmod];exact Nat.mod_lt _ (by omega)
 rw [aK hd,bU (n:=n.tdiv d) (by omega) (by omega),bU (n:=n.tdiv d-1) (by omega) (by omega)];cases n.tmod d==0 with
 | true=>rfl
 | false=>cases (decide (n.tmod d<0)==decide (d<0))<;>rfl
theorem xF {K' V σ ε β:Type} {m:List (K'×V)} {body:K'×V→σ→Option (fE σ ε β)} {K:σ→Prop} {J:β→Prop} (I:List Nat→σ→Prop)
 (hstep:∀ seen s i (h:i<m.length),seen.Nodup→i ∉ seen→(∀ j∈seen,j<m.length)→I seen s→∃ s',body m[i] s=some (.go s')∧I (seen++[i]) s')
 (hend:∀ seen s,seen.Nodup→(∀ i,i<m.length→i∈seen)→(∀ i∈seen,i<m.length)→I seen s→K s) :
 ∀ (n:Nat) (seen:List Nat) (s:σ),seen.Nodup→(∀ i∈seen,i<m.length)→n+seen.length=m.length→I seen s→MR m body K J n seen s
 | 0,seen,s,h1,h2,h3,hI=>by
  have hall:∀ i,i<m.length→i∈seen:=by
   intro i hi;refine Classical.byContradiction fun hn => ?_;have:=nv (i::seen) (List.range m.length) (List.nodup_cons.2 ⟨hn,h1⟩) (fun x hx=>by
    rcases List.mem_cons.1 hx with rfl | hx
    ·simpa using hi
    ·simpa using h2 x hx)
   simp at this;omega
  exact ⟨hall,hend seen s h1 hall h2 hI⟩
 | n+1,seen,s,h1,h2,h3,hI=>by
  refine ⟨?_,fun i hi hn => ?_⟩
  ·refine Classical.byContradiction fun hn => ?_;have:=nv (List.range m.length) seen List.nodup_range (fun x hx=>Classical.byContradiction fun hx2=>hn ⟨x,by simpa using hx,hx2⟩);simp at this;omega
  ·obtain ⟨s',e1,e2⟩:=hstep seen s i hi h1 hn h2 hI;refine ⟨_,e1,?_⟩;have hnd:(seen++[i]).Nodup:=by
    rw [List.nodup_append];exact ⟨h1,by simp,fun a ha b hb=>by
     have:b=i:=by simpa using hb
     subst this;intro e;subst e;exact hn ha⟩
   exact xF I hstep hend n (seen++[i]) s' hnd (fun j hj=>by
    rcases List.mem_append.1 hj with h | h
    ·exact h2 j h
    ·have:j=i:=by simpa using h
     rw [this];exact hi) (by simp;omega) e2
theorem uw {α:Type} (d:α) {m:List α} {seen:List Nat} (h1:seen.Nodup) (h2:∀ i,i<m.length→i∈seen) (h3:∀ i∈seen,i<m.length):(seen.map fun i=>m.getD i d).Perm m:=by have hp:seen.Perm (List.range m.length):=(List.perm_ext_iff_of_nodup h1 List.nodup_range).2 fun a=>⟨fun h=>by simpa using h3 a h,fun h=>h2 a (by simpa using h)⟩;refine (hp.map _).trans (List.Perm.of_eq ?_);refine List.ext_getElem (by simp) fun i hi h2 => ?_;simp only [List.getElem_map,List.getElem_range];rw [Mk,Ml h2];rfl
def pr (v:ak):Int:=match v with | []=>0 | x::r=>bif x==95 then (qn r).1 else 0
theorem jb (v:ak) (h:v.length≤1000000):dM v=some (pr v):=by
 unfold dM pr;rw [mO];cases v with
 | nil=>rfl
 | cons x r =>
  simp only [Option.bind_some];cases x==95 with
  | false=>rfl
  | true =>
   simp only [cond_true];rw [aK (by simp)];unfold lr;rw [aK (by simp at h ⊢;omega)];rfl
theorem BB {v:ak} (h:dF v=true):0≤pr v∧pr v<10000000000:=by
 unfold pr;cases v with
 | nil=>simp
 | cons c r =>
  simp only [dF] at h ⊢;cases hc:c==95 with
  | false=>simp
  | true =>
   rw [hc] at h;simp only [cond_true,Mm,decide_eq_true_eq,Bool.not_eq_true'] at h ⊢;have hne:r≠[]:=by intro e;rw [e] at h;simp at h
   obtain ⟨a,b⟩:=wZ hne h.2.2.2 h.2.1;unfold qn;rw [a];simp only;omega
def lW (n:Nat):ak:=95::dec n
theorem rW {n:Nat} (h1:1≤n) (h2:n<1000000000):dF (lW n)=true∧pr (lW n)=n:=by
 have hd:=tP n;have hl:=th 8 n (by omega);have hne:dec n≠[]:=KW n;constructor
 ·show (decide (1≤(dec n).length)&&(decide ((dec n).length≤9)&&(!((dec n).getD 0 0==48)&&(dec n).all b7)))=true;simp only [Mm,decide_eq_true_eq,Bool.not_eq_true'];refine ⟨List.length_pos_iff.2 hne,hl,?_,hd.1⟩;have hh:=hd.2.1 h1;cases hx:dec n with
  | nil=>exact absurd hx hne
  | cons y z =>
   have:Lib.decDigits n=y::z:=hx;rw [this] at hh;simp at hh ⊢;exact hh
 ·show (qn (dec n)).1=_;unfold qn;rw [(wZ hne hd.1 hl).1,GK]
def pb (l:List Linear):List (ak×Bool):=l.foldl (fun m q=>(q.Terms.map au.Var).foldl (fun m v=>bH v true m) m) []
theorem DV {V:Type} (x:ak) (v:V):∀ m:List (ak×V),(bH x v m).map (·.1)=if x∈m.map (·.1) then m.map (·.1) else m.map (·.1)++[x]
 | []=>by simp [bH]
 | (k,u)::m=>by
  have ih:=DV x v m;by_cases h:k=x
  ·simp [bH,h]
  ·simp only [bH,if_neg h,List.map_cons,List.mem_cons,ih,Ne.symm h,false_or];split<;>simp [*]
theorem Fm {V:Type} {x y:ak} {v:V} {m:List (ak×V)}:y∈(bH x v m).map (·.1)↔y=x∨y∈m.map (·.1):=by
 rw [DV];by_cases h:x∈m.map (·.1)
 ·rw [if_pos h];exact ⟨.inr,fun h2=>by rcases h2 with rfl | h2;exact h;exact h2⟩
 ·rw [if_neg h,List.mem_append,List.mem_singleton];exact or_comm
theorem IA {V:Type} {x:ak} {v:V} {m:List (ak×V)} (h:(m.map (·.1)).Nodup):((bH x v m).map (·.1)).Nodup:=by
 rw [DV];by_cases hx:x∈m.map (·.1)
 ·rw [if_pos hx];exact h
 ·rw [if_neg hx,List.nodup_append];exact ⟨h,by simp,fun a ha b hb=>by
   have:b=x:=by simpa using hb
   rw [this];rintro rfl;exact hx ha⟩
theorem E9 {V:Type} (x:ak) (v:V) (m:List (ak×V)):(bH x v m).length≤m.length+1:=by have:=congrArg List.length (DV x v m);rw [Mt] at this;rw [this];split<;>simp
theorem wT:∀ (vs:List ak) (m:List (ak×Bool)),(m.map (·.1)).Nodup→((vs.foldl (fun m v=>bH v true m) m).map (·.1)).Nodup∧(vs.foldl (fun m v=>bH v true m) m).length≤m.length+vs.length ∧
 ∀ y,y∈(vs.foldl (fun m v=>bH v true m) m).map (·.1)↔y∈m.map (·.1)∨y∈vs
 | [],m,h=>⟨h,by simp,fun y=>by simp⟩
 | v::vs,m,h=>by
  obtain ⟨a,b,c⟩:=wT vs (bH v true m) (IA h);refine ⟨a,?_,fun y => ?_⟩
  ·have:=E9 v true m;simp only [List.foldl_cons,List.length_cons];omega
  ·simp only [List.foldl_cons];rw [c y,Fm,List.mem_cons];constructor
   ·rintro ((h | h) | h)
    ·exact .inr (.inl h)
    ·exact .inl h
    ·exact .inr (.inr h)
   ·rintro (h | h | h)
    ·exact .inl (.inr h)
    ·exact .inl (.inl h)
    ·exact .inr h
theorem s8:∀ (l:List Linear) (m:List (ak×Bool)),(∀ q∈l,q.Terms.length≤12)→(m.map (·.1)).Nodup→((l.foldl (fun m q=>(q.Terms.map au.Var).foldl (fun m v=>bH v true m) m) m).map (·.1)).Nodup∧(l.foldl (fun m q=>(q.Terms.map au.Var).foldl (fun m v=>bH v true m) m) m).length≤m.length+12*l.length ∧
 ∀ y,y∈(l.foldl (fun m q=>(q.Terms.map au.Var).foldl (fun m v=>bH v true m) m) m).map (·.1)↔y∈m.map (·.1)∨∃ q∈l,∃ t∈q.Terms,t.Var=y
 | [],m,_,h=>⟨h,by simp,fun y=>by simp⟩
 | q::l,m,hl,h=>by
  obtain ⟨a1,b1,c1⟩:=wT (q.Terms.map au.Var) m h;obtain ⟨a,b,c⟩:=s8 l _ (fun x hx=>hl x (by simp [hx])) a1;have:=hl q (by simp);rw [Mt] at b1;refine ⟨a,?_,fun y => ?_⟩
  ·simp only [List.foldl_cons,List.length_cons];omega
  ·simp only [List.foldl_cons];rw [c y,c1 y];constructor
   ·rintro ((h | h) | ⟨q',hq,h⟩)
    ·exact .inl h
    ·obtain ⟨t,ht,e⟩:=List.mem_map.1 h;exact .inr ⟨q,by simp,t,ht,e⟩
    ·exact .inr ⟨q',by simp [hq],h⟩
   ·rintro (h | ⟨q',hq,t,ht,e⟩)
    ·exact .inl (.inl h)
    ·rcases List.mem_cons.1 hq with rfl | hq
     ·exact .inl (.inr (List.mem_map.2 ⟨t,ht,e⟩))
     ·exact .inr ⟨q',hq,t,ht,e⟩
def iy (l:List Linear):List ak:=Go.Ab.sortS ((pb l).map (·.1))
theorem HL {x y:ak} (h:yd x y=true) (hn:x≠y):Op.bytesLess x y=true:=by
 rcases Au x y with h2 | h2 | h2
 ·exact h2
 ·exact absurd h2 hn
 ·exact absurd (xS x y h (JZ h2)) hn
theorem pz {l:List Linear} (hl:∀ q∈l,q.Terms.length≤12):(iy l).Pairwise (fun a b=>Op.bytesLess a b=true)∧(∀ y,y∈iy l↔∃ q∈l,∃ t∈q.Terms,t.Var=y)∧(iy l).length≤12*l.length:=by
 obtain ⟨a,b,c⟩:=s8 l [] hl (by simp);have hp:=uI ((pb l).map (·.1));refine ⟨?_,fun y => ?_,?_⟩
 ·have h1:=qY ((pb l).map (·.1));have h2:(Go.Ab.sortS ((pb l).map (·.1))).Nodup:=hp.nodup_iff.2 a;exact (List.Pairwise.and h1 h2).imp fun h=>HL h.1 h.2
 ·unfold iy;rw [hp.mem_iff];have:=c y;rw [List.map_nil] at this;exact this.trans ⟨fun h=>h.resolve_left (by simp),.inr⟩
 ·unfold iy;rw [hp.length_eq,Mt];have:(pb l).length≤[].length+12*l.length:=b;simpa using this
theorem ke {l:List Linear} (hl:∀ q∈l,q.Terms.length≤12) (hn:l.length≤6000):dh l=some (iy l):=by
 unfold dh;have h1:=ea (ε:=List (ak×Bool)) (ρ:=Empty) (f:=fun s=>s) (fin:=fun i0 s0=>s0) (⟨0,[]⟩:Linear) l (fun q m=>fE.go ((q.Terms.map au.Var).foldl (fun m v=>bH v true m) m)) (fun j s=>True)
  (body:=fun i0 s0 =>
  (il (Linear.mk ((l.getD i0 ⟨0,[]⟩).Const) ((l.getD i0 ⟨0,[]⟩).Terms))).bind fun y0 =>
  (fA (σ:=(List (ak×Bool))) (ε:=(List (ak×Bool))) (ρ:=Empty) (fun i1 s1 =>
   some (.go (bH (y0.getD i1 []) true s1))
  ) (fun i1 s1=>s1) (y0.length-0) 0 s0).bind <| dL fun u0 =>
  some (.go u0)) (fun _ _=>rfl) [] trivial (fun j s hj _=>⟨by
   have hm:l.getD j ⟨0,[]⟩∈l:=cb _ hj;rw [xv _ (by have:=hl _ hm;show (l.getD j ⟨0,[]⟩).Terms.length≤1000000;omega)];simp only [Option.bind_some];rw [ea (ε:=List (ak×Bool)) (ρ:=Empty) (f:=fun s=>s) (fin:=fun i0 s0=>s0) ([]:ak) ((l.getD j ⟨0,[]⟩).Terms.map au.Var) (fun v m=>fE.go (bH v true m)) (fun j s=>True) (fun _ _=>rfl) s trivial (fun j s hj _=>⟨rfl,fun _ _=>trivial⟩)];rw [vW (fun v m=>bH v true m)];rfl,fun _ _=>trivial⟩)
 refine (congrArg (fun o:Option (Out (List (ak×Bool)) Empty)=>Option.bind o _) h1).trans ?_;rw [vW (fun (q:Linear) m=>(q.Terms.map au.Var).foldl (fun m v=>bH v true m) m)];simp only [Option.bind_some,dL];obtain ⟨a,b,c⟩:=s8 l [] hl (by simp);have hlen:(pb l).length≤72000:=by have:(pb l).length≤[].length+12*l.length:=b;simp at this;omega
 refine rL (xF (fun seen s=>s=seen.map fun i=>((pb l).getD i ([],false)).1) (fun seen s i hi hnd hni hlt hI => ?_) (fun seen s hnd hall hlt hI => ?_) _ [] [] (by simp) (by simp) (by simp) rfl)
 ·have hsl:seen.length≤(pb l).length:=by have:=nv seen (List.range (pb l).length) hnd (fun x hx=>List.mem_range.2 (hlt x hx));simpa using this
  refine ⟨_,aK (by rw [hI,Mt];omega),?_⟩;rw [List.map_append,hI];simp only [List.map_cons,List.map_nil];congr 2;rw [Mk,show (pb l)[i]? = some (pb l)[i] from Ml hi];rfl
 ·have hp:s.Perm ((pb l).map (·.1)):=by
   rw [hI];have:=(uw ([],false) hnd hall hlt).map (·.1)
   rwa [List.map_map] at this
  unfold iT;have:=hp.length_eq;rw [Mt] at this;rw [aK (by omega)];simp only [Option.bind_some];exact congrArg some (xd hp)
def Lf (l:List Linear):Int:=(iy l).foldl (fun n v=>if pr v>n then pr v else n) 0
theorem D0:∀ (vs:List ak) (n:Int),n≤vs.foldl (fun n v=>if pr v>n then pr v else n) n∧(∀ v∈vs,pr v≤vs.foldl (fun n v=>if pr v>n then pr v else n) n)
 | [],n=>⟨Int.le_refl _,fun v h=>by simp at h⟩
 | v::vs,n=>by
  obtain ⟨a,b⟩:=D0 vs (if pr v>n then pr v else n);simp only [List.foldl_cons];refine ⟨?_,fun u hu => ?_⟩
  ·split at a<;>rename_i h<;>simp only [h,if_true,if_false]<;>omega
  ·rcases List.mem_cons.1 hu with rfl | hu
   ·split at a<;>rename_i h<;>simp only [h,if_true,if_false]<;>omega
   ·exact b u hu
theorem qp {l:List Linear} (hl:∀ q∈l,ax q=true) (hn:l.length≤6000):eL l=some (Lf l):=by
 have hl12:∀ q∈l,q.Terms.length≤12:=fun q hq=>b8 (hl q hq);unfold eL;rw [ke hl12 hn];simp only [Option.bind_some];obtain ⟨_,hv,_⟩:=pz hl12;rw [ea (ε:=Int) (ρ:=Empty) (f:=fun s=>s) (fin:=fun i0 s0=>s0) ([]:ak) (iy l) (fun v n=>fE.go (if pr v>n then pr v else n)) (fun j s=>True) (fun _ _=>rfl) 0 trivial (fun j s hj _=>⟨by
  have hm:(iy l).getD j []∈iy l:=cb _ hj;obtain ⟨q,hq,t,ht,e⟩:=(hv _).1 hm;have:=iS ((cM (hl q hq)) t ht).2;rw [jb _ (by rw [← e];omega)];rfl,fun _ _=>trivial⟩)]
 rw [vW (fun v n=>if pr v>n then pr v else n)];rfl
def zd (a b:au):Int:=bif (a.C.natAbs:Int)==b.C.natAbs then (bif pr a.Var==pr b.Var then mf b.Var a.Var else pr b.Var-pr a.Var) else (a.C.natAbs:Int)-b.C.natAbs
theorem su (a b:au) (ha : -1000000≤a.C∧a.C≤1000000) (hb : -1000000≤b.C∧b.C≤1000000) (na:dF a.Var=true) (nb:dF b.Var=true):ed a b=some (zd a b):=by
 unfold ed zd;rw [CS ha,CS hb];cases ((a.C.natAbs:Int)==b.C.natAbs) with
 | true =>
  simp only [cond_true];rw [jb _ (by have:=iS na;omega),jb _ (by have:=iS nb;omega)];simp only [Option.bind_some];cases pr a.Var==pr b.Var with
  | true=>rfl
  | false =>
   have h1:=BB na;have h2:=BB nb;simp only [cond_false];rw [bU (by omega) (by omega)]
 | false =>
  simp only [cond_false];rw [bU (by omega) (by omega)]
theorem I2 {a b:au} (h:zd a b<0):a.C.natAbs≤b.C.natAbs:=by
 unfold zd at h;cases e:((a.C.natAbs:Int)==b.C.natAbs) with
 | true=>have:=eq_of_beq e;omega
 | false=>rw [e] at h;simp only [cond_false] at h;omega
theorem Ji {a b:au} (h:¬ zd a b<0):b.C.natAbs≤a.C.natAbs:=by
 unfold zd at h;cases e:((a.C.natAbs:Int)==b.C.natAbs) with
 | true=>have:=eq_of_beq e;omega
 | false=>rw [e] at h;simp only [cond_false] at h;omega
def vZ (ts:List au):au:=(ts.drop 1).foldl (fun s t=>bif decide (zd t s<0) then t else s) (ts.getD 0 ⟨[],0⟩)
theorem AA:∀ (ts:List au) (s:au),(ts.foldl (fun s t=>bif decide (zd t s<0) then t else s) s=s∨ts.foldl (fun s t=>bif decide (zd t s<0) then t else s) s∈ts) ∧
 (ts.foldl (fun s t=>bif decide (zd t s<0) then t else s) s).C.natAbs≤s.C.natAbs∧∀ t∈ts,(ts.foldl (fun s t=>bif decide (zd t s<0) then t else s) s).C.natAbs≤t.C.natAbs
 | [],s=>⟨.inl rfl,Nat.le_refl _,fun t h=>by simp at h⟩
 | u::ts,s=>by
  simp only [List.foldl_cons];by_cases h:zd u s<0
  ·obtain ⟨a,b,c⟩:=AA ts u;rw [Mr h,cond_true];refine ⟨.inr ?_,Nat.le_trans b (I2 h),fun t ht => ?_⟩
   ·rcases a with a | a
    ·rw [a];simp
    ·exact List.mem_cons_of_mem _ a
   ·rcases List.mem_cons.1 ht with rfl | ht
    ·exact b
    ·exact c t ht
  ·obtain ⟨a,b,c⟩:=AA ts s;rw [Mq h,cond_false];refine ⟨a.imp id (List.mem_cons_of_mem _),b,fun t ht => ?_⟩;rcases List.mem_cons.1 ht with rfl | ht
   ·exact Nat.le_trans b (Ji h)
   ·exact c t ht
theorem KL {ts:List au} (h:ts≠[]):vZ ts∈ts∧∀ t∈ts,(vZ ts).C.natAbs≤t.C.natAbs:=by
 cases ts with
 | nil=>exact absurd rfl h
 | cons u ts =>
  obtain ⟨a,b,c⟩:=AA ts u;refine ⟨?_,fun t ht => ?_⟩
  ·show ts.foldl (fun s t=>bif decide (zd t s<0) then t else s) u∈u::ts;rcases a with a | a
   ·rw [a];simp
   ·exact List.mem_cons_of_mem _ a
  ·rcases List.mem_cons.1 ht with rfl | ht
   ·exact b
   ·exact c t ht
theorem tW {q:Linear} (h:ax q=true) (h0:q.Terms≠[]):fO q=some (vZ q.Terms):=by
 unfold fO dJ;have hlen:0<q.Terms.length:=List.length_pos_iff.2 h0;have hC:=cM h;rw [Mq (show ¬ (q.Terms.length:Int)<1 by omega)];simp only [cond_false];rw [aK hlen];have hm0:q.Terms.getD 0 ⟨[],0⟩∈q.Terms:=cb _ hlen;have hc:=xA (ε:=ak×Int) (ρ:=Empty) (f:=fun s=>s) (fin:=fun i0 s0=>(s0.1,s0.2)) (⟨[],0⟩:au) q.Terms (fun t s=>fE.go (bif decide (zd t ⟨s.1,s.2⟩<0) then (t.Var,t.C) else s)) (fun j s=>(-1000000≤s.2∧s.2≤1000000)∧dF s.1=true)
  (body:=fun i0 s0 =>
   (ed (au.mk ((q.Terms.getD i0 ⟨[],0⟩).Var) ((q.Terms.getD i0 ⟨[],0⟩).C)) (au.mk s0.1 s0.2)).bind fun y0 =>
   ((
    bif decide (y0<0) then (
     some (((q.Terms.getD i0 ⟨[],0⟩).Var),((q.Terms.getD i0 ⟨[],0⟩).C))
    ) else (
     some (s0.1,s0.2)
    )
   ):Option (ak×Int)).bind fun v0 =>
   some (.go (v0.1,v0.2))) (fun _ _=>rfl) 1 (((q.Terms.getD 0 ⟨[],0⟩).Var),((q.Terms.getD 0 ⟨[],0⟩).C)) (hC _ hm0) (fun j s hj1 hj hI=>by
   have hm:q.Terms.getD j ⟨[],0⟩∈q.Terms:=cb _ hj;obtain ⟨c1,c2⟩:=hC _ hm;refine ⟨?_,fun s' hs' => ?_⟩
   ·rw [su (au.mk ((q.Terms.getD j ⟨[],0⟩).Var) ((q.Terms.getD j ⟨[],0⟩).C)) (au.mk s.1 s.2) c1 hI.1 c2 hI.2];simp only [Option.bind_some];cases decide (zd (q.Terms.getD j ⟨[],0⟩) ⟨s.1,s.2⟩<0)<;>rfl
   ·injection hs' with hs'
    subst hs';cases decide (zd (q.Terms.getD j ⟨[],0⟩) ⟨s.1,s.2⟩<0)
    ·exact hI
    ·exact ⟨c1,c2⟩)
 have hf:∀ (ts:List au) (s:au),cR (σ:=ak×Int) (ε:=ak×Int) (ρ:=Empty) (fun t s=>fE.go (bif decide (zd t ⟨s.1,s.2⟩<0) then (t.Var,t.C) else s)) (fun s=>s) ts (s.Var,s.C) =
  .brk ((ts.foldl (fun s t=>bif decide (zd t s<0) then t else s) s).Var,(ts.foldl (fun s t=>bif decide (zd t s<0) then t else s) s).C):=by
  intro ts;induction ts with
  | nil=>intro s;rfl
  | cons t ts ih =>
   intro s;simp only [cR,List.foldl_cons];cases decide (zd t s<0) with
   | true=>exact ih t
   | false=>exact ih s
 rw [hf (q.Terms.drop 1) (q.Terms.getD 0 ⟨[],0⟩)] at hc;refine (congrArg (fun o:Option (Out (ak×Int) Empty)=>Option.bind (Option.bind o _) _) hc).trans ?_;rfl
abbrev Ms:=List (Int×Int)
theorem xu {V:Type} (d:V) (x y:Int) (v:V):∀ m:List (Int×V),be d y (bH x v m)=if y=x then v else be d y m
 | []=>by
  by_cases h:y=x
  ·simp [bH,be,h]
  ·simp [bH,be,h,Ne.symm h]
 | (k,u)::m=>by
  have ih:=xu d x y v m;by_cases h:k=x
  ·subst h;by_cases h2:y=k
   ·simp [bH,be,h2]
   ·simp [bH,be,h2,Ne.symm h2]
  ·by_cases h2:k=y
   ·subst h2;simp [bH,be,h]
   ·simp [bH,be,h,h2,ih]
theorem uJ {x y v:Int}:∀ {m:Ms},y∈(bH x v m).map (·.1)↔y=x∨y∈m.map (·.1)
 | []=>by simp [bH]
 | (k,u)::m=>by
  have ih:=uJ (x:=x) (y:=y) (v:=v) (m:=m);by_cases h:k=x
  ·subst h;simp [bH]
  ·simp only [bH,if_neg h,List.map_cons,List.mem_cons,ih];exact or_left_comm
theorem Bu {x v:Int}:∀ {m:Ms},(m.map (·.1)).Nodup→((bH x v m).map (·.1)).Nodup
 | [],_=>by simp [bH]
 | (k,u)::m,h=>by
  simp only [List.map_cons,List.nodup_cons] at h;by_cases e:k=x
  ·subst e;simp only [bH,if_true,List.map_cons,List.nodup_cons];exact h
  ·simp only [bH,if_neg e,List.map_cons,List.nodup_cons];refine ⟨fun hm => ?_,Bu h.2⟩;rcases uJ.1 hm with h2 | h2
   ·exact e h2
   ·exact h.1 h2
structure e8 (m:Ms) (D:Int→Prop) (f:Int→Int):Prop where
 nd:(m.map (·.1)).Nodup
 ks:∀ y,y∈m.map (·.1)↔D y
 at_:∀ y,D y→be 0 y m=f y
theorem e8.nil:e8 [] (fun _=>False) (fun _=>0):=⟨by simp,fun y=>by simp,fun y h=>h.elim⟩
theorem e8.put {m:Ms} {D:Int→Prop} {f:Int→Int} (h:e8 m D f) (x v:Int):e8 (bH x v m) (fun y=>y=x∨D y) (fun y=>if y=x then v else f y):=by
 refine ⟨Bu h.nd,fun y=>by rw [uJ,h.ks],fun y hy => ?_⟩;rw [xu];by_cases e:y=x
 ·rw [if_pos e,if_pos e]
 ·rw [if_neg e,if_neg e];exact h.at_ y (hy.resolve_left e)
theorem e8.congr {m:Ms} {D D':Int→Prop} {f f':Int→Int} (h:e8 m D f) (hD:∀ y,D y↔D' y) (hf:∀ y,D y→f y=f' y):e8 m D' f' :=
 ⟨h.nd,fun y=>(h.ks y).trans (hD y),fun y hy=>(h.at_ y ((hD y).2 hy)).trans (hf y ((hD y).2 hy))⟩
theorem dT:∀ {m:Ms},(m.map (·.1)).Nodup→∀ {e:Int×Int},e∈m→be 0 e.1 m=e.2
 | [],_,e,h=>by simp at h
 | (k,u)::m,hn,e,h=>by
  simp only [List.map_cons,List.nodup_cons] at hn;rcases List.mem_cons.1 h with rfl | h
  ·simp [be]
  ·have:k≠e.1:=fun he=>hn.1 (by rw [he];exact List.mem_map.2 ⟨e,h,rfl⟩);rw [be,if_neg this];exact dT hn.2 h
theorem w5 {m:Ms} (h:(m.map (·.1)).Nodup):m.Nodup:=(List.pairwise_map.1 h).imp fun h e=>h (congrArg _ e)
theorem e8.perm {m m':Ms} {D:Int→Prop} {f:Int→Int} (h:e8 m D f) (h':e8 m' D f):m.Perm m':=by
 have key:∀ {a b:Ms},e8 a D f→e8 b D f→∀ e∈a,e∈b:=fun {a b} ha hb e he=>by
  have hk:D e.1:=(ha.ks _).1 (List.mem_map.2 ⟨e,he,rfl⟩);obtain ⟨e',he',e1⟩:=List.mem_map.1 ((hb.ks _).2 hk);have v1:=dT ha.nd he;have v2:=dT hb.nd he';rw [e1,hb.at_ _ hk] at v2;rw [ha.at_ _ hk] at v1;have:e=e':=by refine Prod.ext e1.symm ?_;rw [← v1,← v2]
  rw [this];exact he'
 exact (List.perm_ext_iff_of_nodup (w5 h.nd) (w5 h'.nd)).2 fun e=>⟨key h h' e,key h' h e⟩
theorem u9 {V:Type} (p:Int×V):∀ {l:List (Int×V)},l.Pairwise (fun a b=>a.1≤b.1)→(CM p l).Pairwise (fun a b=>a.1≤b.1)
 | [],_=>by simp [CM]
 | q::l,h=>by
  have h':=List.pairwise_cons.1 h;unfold CM;split
  ·rename_i hle;refine List.pairwise_cons.2 ⟨fun x hx => ?_,h⟩;rcases List.mem_cons.1 hx with rfl | hx
   ·exact hle
   ·exact Int.le_trans hle (h'.1 x hx)
  ·rename_i hle;refine List.pairwise_cons.2 ⟨fun x hx => ?_,u9 p h'.2⟩;rcases List.mem_cons.1 ((ui p l).mem_iff.2 hx) with rfl | hx
   ·omega
   ·exact h'.1 x hx
theorem p6 {V:Type}:∀ l:List (Int×V),(ksort l).Pairwise (fun a b=>a.1≤b.1)
 | []=>List.Pairwise.nil
 | p::l=>u9 p (p6 l)
theorem B0 {a b:Ms} (h:a.Perm b) (hn:(a.map (·.1)).Nodup):ksort a=ksort b:=by
 refine List.Perm.eq_of_pairwise (le:=fun a b=>a.1≤b.1) (fun x y hx hy h1 h2 => ?_) (p6 a) (p6 b) ((jk a).symm.trans (h.trans (jk b)));have e:x.1=y.1:=by omega
 have hx':x∈a:=(jk a).mem_iff.2 hx;have hy':y∈a:=h.mem_iff.2 ((jk b).mem_iff.2 hy);refine Prod.ext e ?_;rw [← dT hn hx',← dT hn hy',e]
theorem e8.ksort_eq {m m':Ms} {D D':Int→Prop} {f f':Int→Int} (h:e8 m D f) (h':e8 m' D' f') (hD:∀ y,D y↔D' y) (hf:∀ y,D y→f y=f' y):ksort m=ksort m' :=
 B0 (h.perm (h'.congr (fun y=>(hD y).symm) fun y hy=>(hf y ((hD y).2 hy)).symm)) h.nd
theorem e8.ksort {m:Ms} {D:Int→Prop} {f:Int→Int} (h:e8 m D f):e8 (ksort m) D f:=by have hp:=jk m;refine ⟨(hp.map (·.1)).nodup_iff.1 h.nd,fun y=>by rw [← (hp.map (·.1)).mem_iff,h.ks],fun y hy => ?_⟩;obtain ⟨e,he,e1⟩:=List.mem_map.1 ((h.ks y).2 hy);rw [← e1,dT ((hp.map (·.1)).nodup_iff.1 h.nd) (hp.mem_iff.1 he),← dT h.nd he,e1,h.at_ y hy]
theorem e8.self {m:Ms} (h:(m.map (·.1)).Nodup):e8 m (fun y=>y∈m.map (·.1)) (fun y=>be 0 y m):=⟨h,fun y=>Iff.rfl,fun y _=>rfl⟩
abbrev Rw:=ae
theorem mT {α:Type} {l:List α} {i:Nat} {x d:α} (h:i<l.length):(l.set i x).getD i d=x:=by simp [Mk,h]
def AG (n e:Int):Bool:=e==0&&(decide (n ≥ -1099511627776)&&decide (n≤1099511627776))
theorem gf (n e:Int):cn n e=some (AG n e):=by
 unfold cn AG;cases e==0 with
 | false=>rfl
 | true=>cases decide (n≥(-1099511627776))<;>rfl
def F3 (r:Rw) (own:Int) (y:Int):Int:=if y∈r.mults.map (·.1) then (mulR (be 0 y r.mults) own).1 else 0
def Lk (r p:Rw) (own oth:Int) (y:Int):Int:=if y∈p.mults.map (·.1) then (Dc [1,oth] [F3 r own y,be 0 y p.mults]).1 else F3 r own y
def Ky (r p:Rw) (y:Int):Prop:=y∈r.mults.map (·.1)∨y∈p.mults.map (·.1)
def FY (r:Rw) (own:Int) (e:Int×Int):Bool := !AG (mulR e.2 own).1 (mulR e.2 own).2
def Gv (r:Rw) (own oth:Int) (e:Int×Int):Bool := !AG (Dc [1,oth] [F3 r own e.1,e.2]).1 (Dc [1,oth] [F3 r own e.1,e.2]).2
def KZ (r p:Rw) (f:Int→Int):Ms:=ksort (r.mults.map (fun e=>(e.1,f e.1))++(p.mults.filter fun e=>decide (e.1 ∉ r.mults.map (·.1))).map fun e=>(e.1,f e.1))
theorem wL {y:Int}:∀ {a b:Ms},y ∉ a.map (·.1)→be 0 y (a++b)=be 0 y b
 | [],b,_=>rfl
 | (k,u)::a,b,h=>by simp only [List.map_cons,List.mem_cons,not_or] at h;rw [List.cons_append,be,if_neg (fun e=>h.1 e.symm)];exact wL h.2
theorem uN {f:Int→Int} {y:Int}:∀ {a:Ms},y∈a.map (·.1)→∀ b,be 0 y (a.map (fun e=>(e.1,f e.1))++b)=f y
 | [],h,b=>by simp at h
 | (k,u)::a,h,b=>by
  simp only [List.map_cons,List.cons_append,be];by_cases e:k=y
  ·rw [if_pos e,e]
  ·rw [if_neg e];exact uN ((List.mem_cons.1 h).resolve_left fun h2=>e h2.symm) b
theorem Ch {r p:Rw} (hr:(r.mults.map (·.1)).Nodup) (hp:(p.mults.map (·.1)).Nodup) (f:Int→Int) :
 e8 (r.mults.map (fun e=>(e.1,f e.1))++(p.mults.filter fun e=>decide (e.1 ∉ r.mults.map (·.1))).map fun e=>(e.1,f e.1)) (Ky r p) f:=by
 refine ⟨?_,fun y => ?_,fun y hy => ?_⟩
 ·rw [List.map_append,List.map_map,List.map_map,List.nodup_append];refine ⟨hr,(List.Sublist.map _ List.filter_sublist).nodup hp,fun a ha b hb => ?_⟩;obtain ⟨e,he,e1⟩:=List.mem_map.1 hb;have he:=(List.mem_filter.1 he).2;rintro rfl;have e1:e.1=a:=e1;rw [e1] at he;exact (Mp he) ha
 ·rw [List.map_append,List.map_map,List.map_map,List.mem_append];constructor
  ·rintro (h | h)
   ·exact .inl h
   ·obtain ⟨e,he,e1⟩:=List.mem_map.1 h;exact .inr (List.mem_map.2 ⟨e,(List.mem_filter.1 he).1,e1⟩)
  ·rintro (h | h)
   ·exact .inl h
   ·by_cases h2:y∈r.mults.map (·.1)
    ·exact .inl h2
    ·obtain ⟨e,he,e1⟩:=List.mem_map.1 h;refine .inr (List.mem_map.2 ⟨e,List.mem_filter.2 ⟨he,Mr (by rw [show e.1=y from e1];exact h2)⟩,e1⟩)
 ·by_cases h2:y∈r.mults.map (·.1)
  ·exact uN h2 _
  ·rw [wL (by rw [List.map_map];exact h2)];obtain ⟨e,he,e1⟩:=List.mem_map.1 (hy.resolve_left h2);have:=uN (f:=f) (y:=y) (a:=p.mults.filter fun e=>decide (e.1 ∉ r.mults.map (·.1))) (List.mem_map.2 ⟨e,List.mem_filter.2 ⟨he,Mr (by rw [show e.1=y from e1];exact h2)⟩,e1⟩) []
   rwa [List.append_nil] at this
theorem Es {r p:Rw} (hr:(r.mults.map (·.1)).Nodup) (hp:(p.mults.map (·.1)).Nodup) (f:Int→Int):e8 (KZ r p f) (Ky r p) f:=(Ch hr hp f).ksort
theorem e8.out {m:Ms} {D:Int→Prop} {f:Int→Int} (h:e8 m D f) {y:Int} (hy:¬ D y):be 0 y m=0:=by
 have hn:y ∉ m.map (·.1):=fun h2=>hy ((h.ks y).1 h2);have:=wL (b:=[]) hn
 rwa [List.append_nil] at this
theorem BE {α:Type} (d:α) {m:List α} {seen:List Nat} (p:α→Bool) (h1:seen.Nodup) (h2:∀ i,i<m.length→i∈seen) (h3:∀ i∈seen,i<m.length):(seen.any fun j=>p (m.getD j d))=m.any p:=by
 have:=(uw d h1 h2 h3).any_eq (f:=p)
 rwa [List.any_map] at this
theorem o5 {m:Ms} {seen:List Nat} (h1:seen.Nodup) (h2:∀ i,i<m.length→i∈seen) (h3:∀ i∈seen,i<m.length) (y:Int):y∈seen.map (fun j=>(m.getD j (0,0)).1)↔y∈m.map (·.1):=by
 have:=((uw (0,0) h1 h2 h3).map (·.1)).mem_iff (a:=y)
 rwa [List.map_map] at this
theorem getD_at {α:Type} (d:α) {l:List α} {i:Nat} (h:i<l.length):l.getD i d=l[i]:=by rw [Mk,Ml h];rfl
def xK (r p:Rw) (k:Int):Rw :=
 bif r.lost||(p.lost || !AG (nB r.scale p.scale).1 (nB r.scale p.scale).2) then ae.mk r.q r.mults r.scale true
 else ae.mk r.q (KZ r p (Lk r p (aS ((nB r.scale p.scale).1.tdiv r.scale)) (aS ((aS (0-(aS ((nB r.scale p.scale).1.tdiv p.scale))))*k)))) (nB r.scale p.scale).1
  (r.mults.any (FY r (aS ((nB r.scale p.scale).1.tdiv r.scale)))||p.mults.any (Gv r (aS ((nB r.scale p.scale).1.tdiv r.scale)) (aS ((aS (0-(aS ((nB r.scale p.scale).1.tdiv p.scale))))*k))))
def RL (rows:List Rw) (i:Nat) (r:Rw) (b:Bool):List Rw:=rows.set i (ae.mk r.q r.mults r.scale b)
theorem DJ (rows:List Rw) (i:Nat) (r:Rw) (b:Bool):(RL rows i r b).length=rows.length:=by simp [RL]
theorem Hj {rows:List Rw} {i:Nat} (hi:i<rows.length) (r:Rw) (b:Bool):(RL rows i r b).getD i (⟨⟨0,[]⟩,[],0,false⟩)=ae.mk r.q r.mults r.scale b:=mT hi
theorem xm (rows:List Rw) (i:Nat) (r:Rw) (b:Bool) (x:Rw):(RL rows i r b).set i x=rows.set i x:=by simp [RL]
theorem Jl {rows:List Rw} {i:Nat} {p:Rw} {k:Int} (hi:i<rows.length) {r:Rw} (er:rows.getD i (⟨⟨0,[]⟩,[],0,false⟩)=r) (hr:(r.mults.map (·.1)).Nodup) (hp:(p.mults.map (·.1)).Nodup) (hs1:r.scale≠0) (hs2:p.scale≠0) :
 dy i p k rows=some (rows.set i (xK r p k)):=by
 unfold dy xK;rw [aK hi,er,wU];simp only [Option.bind_some];generalize hown:aS ((nB r.scale p.scale).1.tdiv r.scale)=own;generalize hoth:aS ((aS (0-(aS ((nB r.scale p.scale).1.tdiv p.scale))))*k)=oth;generalize hsc:(nB r.scale p.scale).1=sc;generalize hse:(nB r.scale p.scale).2=se;cases hl:r.lost with
 | true=>rfl
 | false =>
  cases hl2:p.lost with
  | true=>rfl
  | false =>
   simp only [cond_false,Bool.false_or];rw [gf];simp only [Option.bind_some];cases hsm:AG sc se with
   | false=>rfl
   | true =>
    simp only [cond_true,Bool.not_true,cond_false];rw [aK hs1,aK hs2];have hrows:rows=RL rows i r false:=by
     have e2:rows[i]=r:=by rw [← getD_at (⟨⟨0,[]⟩,[],0,false⟩) hi];exact er
     unfold RL;have:ae.mk r.q r.mults r.scale false=rows[i]:=by rw [e2,← hl]
     rw [this,List.set_getElem_self]
    refine rL (xF (fun seen s=>s.1=RL rows i r (seen.any fun j=>FY r own (r.mults.getD j (0,0)))∧e8 s.2 (fun y=>y∈seen.map (fun j=>(r.mults.getD j (0,0)).1)) (F3 r own)) (fun seen s i' hi' hnd hni hlt hI => ?_) (fun seen s hnd hall hlt hI => ?_) _ [] _ (by simp) (by simp) (by simp) ⟨hrows,?_⟩)
    ·obtain ⟨h1,h2⟩:=hI;have hm:r.mults[i']∈r.mults:=List.getElem_mem hi';have hg:r.mults.getD i' (0,0)=r.mults[i']:=getD_at _ hi';generalize he:r.mults[i']=e at hm hg ⊢;rw [nN];simp only [Option.bind_some];rw [h1,aK (by rw [DJ];exact hi),Hj hi,xm];refine ⟨(RL rows i r ((seen++[i']).any fun j=>FY r own (r.mults.getD j (0,0))),bH e.1 (mulR e.2 own).1 s.2),?_,rfl,?_⟩
     ·rw [List.any_append];simp only [List.any_cons,List.any_nil,Bool.or_false,hg];cases hb:seen.any fun j=>FY r own (r.mults.getD j (0,0)) with
      | true=>rfl
      | false =>
       simp only [cond_false,Bool.false_or];rw [gf];simp only [Option.bind_some,xm];rfl
     ·refine (h2.put e.1 (mulR e.2 own).1).congr (fun y => ?_) fun y hy => ?_
      ·rw [List.map_append,List.mem_append];simp only [List.map_cons,List.map_nil,List.mem_singleton,hg];exact or_comm
      ·by_cases ey:y=e.1
       ·rw [if_pos ey,ey];unfold F3;rw [if_pos (List.mem_map.2 ⟨e,hm,rfl⟩),dT hr hm]
       ·rw [if_neg ey]
    ·obtain ⟨h1,h2⟩:=hI;rw [BE (0,0) (FY r own) hnd hall hlt] at h1;have h2:e8 s.2 (fun y=>y∈r.mults.map (·.1)) (F3 r own):=h2.congr (fun y=>o5 hnd hall hlt y) fun y _=>rfl;generalize hB:r.mults.any (FY r own)=B at h1;refine rL (xF (fun seen t=>t.1=RL rows i r (B||seen.any fun j=>Gv r own oth (p.mults.getD j (0,0)))∧e8 t.2 (fun y=>y∈r.mults.map (·.1)∨y∈seen.map (fun j=>(p.mults.getD j (0,0)).1)) (fun y=>if y∈seen.map (fun j=>(p.mults.getD j (0,0)).1) then Lk r p own oth y else F3 r own y)) (fun seen t i' hi' hnd hni hlt hI => ?_) (fun seen t hnd hall hlt hI => ?_) _ [] _ (by simp) (by simp) (by simp) ⟨by simpa using h1,?_⟩)
     ·obtain ⟨g1,g2⟩:=hI;have hm:p.mults[i']∈p.mults:=List.getElem_mem hi';have hg:p.mults.getD i' (0,0)=p.mults[i']:=getD_at _ hi';have hns:p.mults[i'].1 ∉ seen.map (fun j=>(p.mults.getD j (0,0)).1):=fun hc=>by
       obtain ⟨j,hj,ej⟩:=List.mem_map.1 hc;have hjl:=hlt j hj;rw [getD_at _ hjl] at ej;have hpw:=List.pairwise_iff_getElem.1 (show (p.mults.map (·.1)).Pairwise (· ≠ ·) from hp);have hne:j≠i':=fun e=>hni (e ▸ hj);rcases Nat.lt_or_ge j i' with h | h
       ·exact hpw j i' (by simpa using hjl) (by simpa using hi') h (by simpa using ej)
       ·exact hpw i' j (by simpa using hi') (by simpa using hjl) (by omega) (by simpa using ej.symm)
      generalize he:p.mults[i']=e at hm hg hns ⊢;have hv:be 0 e.1 t.2=F3 r own e.1:=by
       by_cases hk:e.1∈r.mults.map (·.1)
       ·rw [g2.at_ _ (.inl hk),if_neg hns]
       ·rw [g2.out (fun h=>h.elim hk hns)];unfold F3;rw [if_neg hk]
      rw [hv,xU];simp only [Option.bind_some];rw [g1,aK (by rw [DJ];exact hi),Hj hi,xm];refine ⟨(RL rows i r (B||(seen++[i']).any fun j=>Gv r own oth (p.mults.getD j (0,0))),bH e.1 (Dc [1,oth] [F3 r own e.1,e.2]).1 t.2),?_,rfl,?_⟩
      ·rw [List.any_append];simp only [List.any_cons,List.any_nil,Bool.or_false,hg];cases hb:(B||seen.any fun j=>Gv r own oth (p.mults.getD j (0,0))) with
       | true =>
        rw [← Bool.or_assoc,hb];rfl
       | false =>
        simp only [cond_false];rw [← Bool.or_assoc,hb,Bool.false_or,gf];simp only [Option.bind_some,xm];rfl
      ·refine (g2.put e.1 (Dc [1,oth] [F3 r own e.1,e.2]).1).congr (fun y => ?_) fun y hy => ?_
       ·rw [List.map_append,List.mem_append];simp only [List.map_cons,List.map_nil,List.mem_singleton,hg];constructor
        ·rintro (h | h | h)
         ·exact .inr (.inr h)
         ·exact .inl h
         ·exact .inr (.inl h)
        ·rintro (h | h | h)
         ·exact .inr (.inl h)
         ·exact .inr (.inr h)
         ·exact .inl h
       ·rw [List.map_append];simp only [List.map_cons,List.map_nil,List.mem_append,List.mem_singleton,hg];by_cases ey:y=e.1
        ·rw [if_pos ey,if_pos (.inr ey),ey];unfold Lk;rw [if_pos (List.mem_map.2 ⟨e,hm,rfl⟩),dT hp hm]
        ·rw [if_neg ey];by_cases h:y∈seen.map (fun j=>(p.mults.getD j (0,0)).1)
         ·rw [if_pos h,if_pos (.inl h)]
         ·rw [if_neg h,if_neg (fun h2=>h2.elim h ey)]
     ·obtain ⟨g1,g2⟩:=hI;rw [BE (0,0) (Gv r own oth) hnd hall hlt] at g1;have hk:ksort t.2=KZ r p (Lk r p own oth):=by
       refine g2.ksort_eq (Ch hr hp (Lk r p own oth)) (fun y => ?_) fun y hy => ?_
       ·unfold Ky;rw [o5 hnd hall hlt]
       ·by_cases h:y∈seen.map (fun j=>(p.mults.getD j (0,0)).1)
        ·rw [if_pos h]
        ·rw [if_neg h];unfold Lk;rw [if_neg (fun h2=>h ((o5 hnd hall hlt y).2 h2))]
      rw [g1,aK (by rw [DJ];exact hi),Hj hi,xm,aK (by simpa using hi),hk,mT hi,List.set_set]
     ·refine h2.congr (fun y=>by simp) fun y _=>by simp
    ·exact ⟨by simp,fun y=>by simp,fun y hy=>by simp at hy⟩
theorem zD {α ρ:Type} (d:α) (ok:α→Bool) (g:α→α) (R:List α→ρ) {body:Int×List α→Option (fE (Int×List α) (List α) ρ)} (n:Nat) (I:α→Prop)
 (h:∀ (i:Nat) (l:List α),l.length=n→i<n→I (l.getD i d)→body ((i:Int),l)=some (bif ok (l.getD i d) then .go (((i+1:Nat):Int),l.set i (g (l.getD i d))) else .ret (R (l.set i (g (l.getD i d))))))
 (he:∀ l:List α,l.length=n→body ((n:Int),l)=some (.brk l)):∀ (k i N:Nat) (l:List α),i+k=n→k<N→l.length=n→(∀ x∈l.drop i,I x) →
 oa body N ((i:Int),l)=some (.brk (l.take i++(l.drop i).map g))∧(l.drop i).all ok=true∨(∃ l',oa body N ((i:Int),l)=some (.ret (R l')))∧(l.drop i).all ok=false
 | 0,i,N,l,h1,h2,h3,_=>by
  obtain ⟨N,rfl⟩:∃ j,N=j+1:=⟨N-1,by omega⟩;have hi:i=n:=by omega
  subst hi;left;rw [List.drop_of_length_le (by omega),List.take_of_length_le (by omega)];simp only [oa];rw [he l h3];simp [AK]
 | k+1,i,N,l,h1,h2,h3,hI=>by
  obtain ⟨N,rfl⟩:∃ j,N=j+1:=⟨N-1,by omega⟩;have hil:i<l.length:=by omega
  have hdrop:l.drop i=l[i]::l.drop (i+1):=List.drop_eq_getElem_cons hil;have hg:l.getD i d=l[i]:=getD_at d hil;have hIi:I (l.getD i d):=by rw [hg];exact hI _ (by rw [hdrop];exact List.mem_cons_self ..)
  have hb:=h i l h3 (by omega) hIi;simp only [oa];rw [hb,hg,hdrop];cases ho:ok l[i] with
  | false=>exact .inr ⟨⟨_,rfl⟩,by rw [List.all_cons,ho];rfl⟩
  | true =>
   simp only [cond_true,Option.bind_some,AK];have hd2:(l.set i (g l[i])).drop (i+1)=l.drop (i+1):=List.drop_set_of_lt (by omega);have ht2:(l.set i (g l[i])).take (i+1)=l.take i++[g l[i]]:=by rw [List.take_add_one,List.take_set_of_le (by omega)];simp [hil]
   have ih:=zD d ok g R n I h he k (i+1) N (l.set i (g l[i])) (by omega) (by omega) (by simpa using h3) (fun x hx=>by rw [hd2] at hx;exact hI x (by rw [hdrop];exact List.mem_cons_of_mem _ hx));rw [hd2,ht2] at ih;rcases ih with ⟨e1,e2⟩ | ⟨e1,e2⟩
   ·left;refine ⟨?_,by rw [List.all_cons,ho,e2];rfl⟩;rw [e1,List.map_cons,List.append_assoc];rfl
   ·right;exact ⟨e1,by rw [List.all_cons,ho,e2];rfl⟩
def vd (x:ak) (by_ l:Linear):Linear:=bif cf l x==0 then l else (pF [one x by_] l).1
def lY (x:ak) (by_ l:Linear):Bool:=cf l x==0||(pF [one x by_] l).2==0
theorem Eg {x:ak} {by_:Linear} (hx:dF x=true) (hb:ax by_=true):∀ b∈[one x by_],okB b:=fun b h=>by
 have:b=one x by_:=by simpa using h
 subst this;exact ⟨by have:=iS hx;show x.length≤1000000;omega,mC hb,by show ([]:ak).length≤1000000;simp,by intro l h;cases h⟩
abbrev Cy:Bind:=⟨0,[],⟨0,[]⟩,⟨[],[]⟩,[]⟩
abbrev qt:Rw:=⟨⟨0,[]⟩,[],0,false⟩
theorem Ib {i:Nat} {bs:List Bind} {x:ak} {by_:Linear} (hi:i<bs.length) (hx:dF x=true) (hb:ax by_=true) (hv:ax (bs.getD i Cy).Dim=true) :
 cw i bs x [one x by_]=some (lY x by_ (bs.getD i Cy).Dim,bs.set i (Bind.mk (bs.getD i Cy).Kind (bs.getD i Cy).Var (vd x by_ (bs.getD i Cy).Dim) (bs.getD i Cy).Row (bs.getD i Cy).Elem)):=by
 unfold cw lY vd;rw [aK hi,nc];simp only [Option.bind_some];have hg:bs.getD i Cy=bs[i]:=getD_at Cy hi;cases h0:cf (bs.getD i Cy).Dim x==0 with
 | true =>
  simp only [cond_true,Bool.true_or];rw [J3,hg,List.set_getElem_self]
 | false =>
  simp only [cond_false,Bool.false_or];rw [lR _ _ (mC hv) (Eg hx hb)];rfl
theorem CX {i:Nat} {rows:List Rw} {x:ak} {by_:Linear} (hi:i<rows.length) (hx:dF x=true) (hb:ax by_=true) (hv:ax (rows.getD i qt).q=true) :
 bZ i rows x [one x by_]=some (lY x by_ (rows.getD i qt).q,rows.set i (ae.mk (vd x by_ (rows.getD i qt).q) (rows.getD i qt).mults (rows.getD i qt).scale (rows.getD i qt).lost)):=by
 unfold bZ lY vd;rw [aK hi,nc];simp only [Option.bind_some];have hg:rows.getD i qt=rows[i]:=getD_at qt hi;cases h0:cf (rows.getD i qt).q x==0 with
 | true =>
  simp only [cond_true,Bool.true_or];rw [show ae.mk (rows.getD i qt).q (rows.getD i qt).mults (rows.getD i qt).scale (rows.getD i qt).lost=rows.getD i qt from rfl,hg,List.set_getElem_self]
 | false =>
  simp only [cond_false,Bool.false_or];rw [lR _ _ (mC hv) (Eg hx hb)];rfl
def kZ (x:ak) (by_:Linear) (b:Bind):Bind:=Bind.mk b.Kind b.Var (vd x by_ b.Dim) b.Row b.Elem
def JX (x:ak) (by_:Linear) (r:Rw):Rw:=ae.mk (vd x by_ r.q) r.mults r.scale r.lost
def wK (x:ak) (by_:Linear) (i:Nat) (qs ds:List Linear):Bool:=ax by_&&(ds.all (lY x by_)&&(qs.drop i).all (lY x by_))
theorem put_eq {x:ak} {by_:Linear} {i:Nat} {nx:Int} {rows:List Rw} {bs:List Bind} (hx:dF x=true) (hk:Ac by_) (hi:i≤rows.length) (hl1:rows.length≤1000000) (hl2:bs.length≤2000000000)
 (hr:∀ r∈rows,ax r.q=true) (hb:∀ b∈bs,ax b.Dim=true) :
 (wK x by_ i (rows.map (·.q)) (bs.map (·.Dim))=true∧bn x by_ (i:Int) nx rows bs=some (0,rows.take i++(rows.drop i).map (JX x by_),bs.map (kZ x by_)++[one x by_])) ∨
 (wK x by_ i (rows.map (·.q)) (bs.map (·.Dim))=false∧∃ r' b',bn x by_ (i:Int) nx rows bs=some (3,r',b')):=by
 unfold bn wK;rw [bP by_ hk.1 hk.2];cases hv:ax by_ with
 | false=>exact .inr ⟨rfl,_,_,rfl⟩
 | true =>
  simp only [Option.bind_some,cond_true,Bool.true_and];have h1:=zD (ρ:=Int×List Rw×List Bind) Cy (fun b=>lY x by_ b.Dim) (kZ x by_) (fun l=>(3,rows,l)) bs.length (fun b=>ax b.Dim=true)
   (body:=fun s0 =>
   bif decide (s0.1<((bs.length:Nat):Int)) then (
    bX (0≤s0.1∧s0.1<(s0.2.length:Int)) <|
    (cw s0.1.toNat s0.2 x [(Bind.mk 1 x by_ (Shape.mk [] []) [])]).bind fun y1 =>
    bif y1.1 then (
     some (.go ((aS (s0.1+1)),y1.2))
    ) else (
     some (.ret (3,rows,y1.2))
    )
   ) else (
    some (.brk s0.2)
   )) (fun j l hl hj hIj=>by
    simp only;rw [Mr (by omega),cond_true,aK ⟨by omega,by omega⟩,Int.toNat_natCast,show (Bind.mk 1 x by_ (Shape.mk [] []) [])=one x by_ from rfl,Ib (by omega) hx hv hIj];simp only [Option.bind_some];rw [bU (by omega) (by omega)];cases lY x by_ (l.getD j Cy).Dim<;>rfl) (fun l hl=>by
    simp only;rw [Mq (by omega)];rfl) bs.length 0 4294967296 bs (by omega) (by omega) rfl (fun b h=>hb b (by simpa using h))
  rcases h1 with ⟨e1,a1⟩ | ⟨⟨l',e1⟩,a1⟩
  ·rw [List.drop_zero,List.take_zero,List.nil_append] at e1;rw [List.drop_zero] at a1;have a1':(bs.map (·.Dim)).all (lY x by_)=true:=by rw [List.all_map];exact a1
   rw [a1',Bool.true_and];have h2:=zD (ρ:=Int×List Rw×List Bind) qt (fun r=>lY x by_ r.q) (JX x by_) (fun l=>(3,l,bs.map (kZ x by_))) rows.length (fun r=>ax r.q=true)
    (body:=fun s1 =>
    bif decide (s1.1<((s1.2.length:Nat):Int)) then (
     bX (0≤s1.1∧s1.1<(s1.2.length:Int)) <|
     (bZ s1.1.toNat s1.2 x [(Bind.mk 1 x by_ (Shape.mk [] []) [])]).bind fun y2 =>
     bif y2.1 then (
      some (.go ((aS (s1.1+1)),y2.2))
     ) else (
      some (.ret (3,y2.2,bs.map (kZ x by_)))
     )
    ) else (
     some (.brk s1.2)
    )) (fun j l hl hj hIj=>by
     simp only;rw [Mr (by omega),cond_true,aK ⟨by omega,by omega⟩,Int.toNat_natCast,show (Bind.mk 1 x by_ (Shape.mk [] []) [])=one x by_ from rfl,CX (by omega) hx hv hIj];simp only [Option.bind_some];rw [bU (by omega) (by omega)];cases lY x by_ (l.getD j qt).q<;>rfl) (fun l hl=>by
     simp only;rw [hl,Mq (by omega)];rfl) (rows.length-i) i 4294967296 rows (by omega) (by omega) rfl (fun r h=>hr r (List.mem_of_mem_drop h))
   rcases h2 with ⟨e2,a2⟩ | ⟨⟨l',e2⟩,a2⟩
   ·left;refine ⟨by rw [← List.map_drop,List.all_map];exact a2,?_⟩;refine (congrArg (fun o:Option (Out (List Bind) (Int×List Rw×List Bind))=>Option.bind o _) e1).trans ?_;simp only [Option.bind_some,Sh.aft];refine (congrArg (fun o:Option (Out (List Rw) (Int×List Rw×List Bind))=>Option.bind o _) e2).trans ?_;simp only [Option.bind_some,Sh.aft];rw [aK (by simp),aK (by simp;omega)];rfl
   ·right;refine ⟨by rw [← List.map_drop,List.all_map];exact a2,l',bs.map (kZ x by_),?_⟩;refine (congrArg (fun o:Option (Out (List Bind) (Int×List Rw×List Bind))=>Option.bind o _) e1).trans ?_;simp only [Option.bind_some,Sh.aft];refine (congrArg (fun o:Option (Out (List Rw) (Int×List Rw×List Bind))=>Option.bind o _) e2).trans ?_;rfl
  ·right;rw [List.drop_zero] at a1;have a1':(bs.map (·.Dim)).all (lY x by_)=false:=by rw [List.all_map];exact a1
   refine ⟨by rw [a1',Bool.false_and],rows,l',?_⟩;refine (congrArg (fun o:Option (Out (List Bind) (Int×List Rw×List Bind))=>Option.bind o _) e1).trans ?_;rfl
theorem Eh {α ρ:Type} (d:α) (g:α→α) {body:Int×List α→Option (fE (Int×List α) (List α) ρ)} (n:Nat) (I:α→Prop)
 (h:∀ (i:Nat) (l:List α),l.length=n→i<n→I (l.getD i d)→body ((i:Int),l)=some (.go (((i+1:Nat):Int),l.set i (g (l.getD i d)))))
 (he:∀ l:List α,l.length=n→body ((n:Int),l)=some (.brk l)):∀ (k i N:Nat) (l:List α),i+k=n→k<N→l.length=n→(∀ x∈l.drop i,I x) →
 oa body N ((i:Int),l)=some (.brk (l.take i++(l.drop i).map g))
 | 0,i,N,l,h1,h2,h3,_=>by
  obtain ⟨N,rfl⟩:∃ j,N=j+1:=⟨N-1,by omega⟩;have hi:i=n:=by omega
  subst hi;rw [List.drop_of_length_le (by omega),List.take_of_length_le (by omega)];simp only [oa];rw [he l h3];simp [AK]
 | k+1,i,N,l,h1,h2,h3,hI=>by
  obtain ⟨N,rfl⟩:∃ j,N=j+1:=⟨N-1,by omega⟩;have hil:i<l.length:=by omega
  have hdrop:l.drop i=l[i]::l.drop (i+1):=List.drop_eq_getElem_cons hil;have hg:l.getD i d=l[i]:=getD_at d hil;have hIi:I (l.getD i d):=by rw [hg];exact hI _ (by rw [hdrop];exact List.mem_cons_self ..)
  have hb:=h i l h3 (by omega) hIi;simp only [oa];rw [hb,hg,hdrop];simp only [Option.bind_some,AK];have hd2:(l.set i (g l[i])).drop (i+1)=l.drop (i+1):=List.drop_set_of_lt (by omega);have ht2:(l.set i (g l[i])).take (i+1)=l.take i++[g l[i]]:=by rw [List.take_add_one,List.take_set_of_le (by omega)];simp [hil]
  have ih:=Eh d g n I h he k (i+1) N (l.set i (g l[i])) (by omega) (by omega) (by simpa using h3) (fun x hx=>by rw [hd2] at hx;exact hI x (by rw [hdrop];exact List.mem_cons_of_mem _ hx));rw [hd2,ht2] at ih;rw [ih,List.map_cons,List.append_assoc];rfl
structure pX (n:Int) (r:Rw):Prop where
 v:ax r.q=true
 nd:(r.mults.map (·.1)).Nodup
 sc:r.scale≠0
 ks:∀ y∈r.mults.map (·.1),0≤y∧y<n
theorem Ek (r p:Rw) (k:Int):(xK r p k).q=r.q:=by unfold xK;cases r.lost||(p.lost || !AG (nB r.scale p.scale).1 (nB r.scale p.scale).2)<;>rfl
theorem Kp {a b:Int} (ha:a≠0) (hb:b≠0) (h:AG (nB a b).1 (nB a b).2=true):(nB a b).1≠0:=by
 have h2:(nB a b).2=0:=by unfold AG at h;simp only [Mm] at h;exact eq_of_beq h.1
 clear h;unfold nB at h2 ⊢;cases hi:l7 a&&l7 b with
 | false=>rw [hi] at h2;simp at h2
 | true =>
  rw [hi] at h2;have e1:(a==0)=false:=by simpa using ha
  have e2:(b==0)=false:=by simpa using hb
  simp only [cond_true,e1,e2,Bool.or_false,cond_false] at h2 ⊢;unfold mulR at h2 ⊢;cases hj:l7 (((a.natAbs / Nat.gcd a.natAbs b.natAbs:Nat)):Int)&&(l7 (b.natAbs:Int)&&l7 ((((a.natAbs / Nat.gcd a.natAbs b.natAbs:Nat)):Int)*(b.natAbs:Int))) with
  | false=>rw [hj] at h2;simp at h2
  | true =>
   simp only [cond_true];have hg:Nat.gcd a.natAbs b.natAbs≤a.natAbs:=Nat.gcd_le_left _ (by omega);have hg0:0<Nat.gcd a.natAbs b.natAbs:=Nat.pos_of_ne_zero (Nat.gcd_ne_zero_left (by omega));have h3:0<a.natAbs / Nat.gcd a.natAbs b.natAbs:=Nat.div_pos hg hg0;exact Int.mul_ne_zero (by omega) (by omega)
theorem HX {n:Int} {r p:Rw} (hr:pX n r) (hp:pX n p) (k:Int):pX n (xK r p k):=by
 refine ⟨by rw [Ek];exact hr.v,?_,?_,?_⟩<;>unfold xK<;>cases hc:r.lost||(p.lost || !AG (nB r.scale p.scale).1 (nB r.scale p.scale).2)
 ·exact (Es hr.nd hp.nd _).nd
 ·exact hr.nd
 ·simp only [Bool.or_eq_false_iff,Bool.not_eq_false'] at hc;exact Kp hr.sc hp.sc hc.2.2
 ·exact hr.sc
 ·intro y hy;rcases ((Es hr.nd hp.nd _).ks y).1 hy with h | h
  ·exact hr.ks y h
  ·exact hp.ks y h
 ·exact hr.ks
theorem rn {α β ρ:Type} (c:α→Bool) (f:α→β):∀ (ts:List α) (acc:List β),cR (ε:=List β) (ρ:=ρ) (fun u s=>fE.go (bif c u then s else s++[f u])) (fun s=>s) ts acc = .brk (acc++(ts.filter fun u => !c u).map f)
 | [],acc=>by simp [cR]
 | u::ts,acc=>by
  simp only [cR];rw [rn c f ts];cases h:c u with
  | true=>simp [h]
  | false=>simp [h]
def FB (t:au) (q:Linear):Linear:=Linear.mk (-t.C*q.Const) ((q.Terms.filter fun u => !(u.Var==t.Var)).map fun u=>au.mk u.Var (-t.C*u.C))
def gU (t:au) (p:Rw) (r:Rw):Rw:=bif cf r.q t.Var==0 then r else xK r p (cf r.q t.Var*t.C)
theorem G4 {l:Linear} (h:ax l=true) (v:ak) : -1000000≤cf l v∧cf l v≤1000000:=by
 by_cases h0:cf l v=0
 ·omega
 ·obtain ⟨t,ht,_,e⟩:=vT (show ql v l.Terms≠0 from h0);have:=(cM h t ht).1;have e:t.C=cf l v:=e;omega
theorem unit_eq {i:Nat} {t:au} {nx:Int} {rows:List Rw} {bs:List Bind} (hi:i<rows.length) (hl:rows.length≤1000000) (hr:∀ r∈rows,pX rows.length r) (ht:t.C=1∨t.C = -1) :
 bC (i:Int) t nx rows bs=(bn t.Var (FB t (rows.getD i qt).q) (i:Int) nx (rows.take (i+1)++(rows.drop (i+1)).map (gU t (rows.getD i qt))) bs).bind fun y=>some (y.1,y.2.1,y.2.2):=by
 unfold bC;have hp:=hr _ (cb qt hi);rw [aK ⟨by omega,by omega⟩,Int.toNat_natCast,aK hi];generalize hP:rows.getD i qt=p at hp;have hC:=cM hp.v;have hlen:=b8 hp.v;have h1:=ea (ε:=List au) (ρ:=Empty) (f:=fun s=>s) (fin:=fun i0 s0=>s0) (⟨[],0⟩:au) p.q.Terms (fun u s=>fE.go (bif u.Var==t.Var then s else s++[au.mk u.Var (-t.C*u.C)])) (fun j s=>s.length≤j)
  (body:=fun i0 s0=>((
   bif (((p.q.Terms).getD i0 ⟨[],0⟩).Var==t.Var) then (
    some s0
   ) else (
    bX ((s0.length+1)*24≤140737488355328) <|
    some (s0++[(au.mk (((p.q.Terms).getD i0 ⟨[],0⟩).Var) (aS ((aS (0-t.C))*(((p.q.Terms).getD i0 ⟨[],0⟩).C))))])
   )
  ):Option (List au)).bind fun v0 =>
  some (.go v0)) (fun _ _=>rfl) [] (Nat.zero_le _) (fun j s hj hI=>by
   have hm:p.q.Terms.getD j ⟨[],0⟩∈p.q.Terms:=cb _ hj;obtain ⟨c1,c2⟩:=hC _ hm;refine ⟨?_,fun s' hs' => ?_⟩
   ·cases (p.q.Terms.getD j ⟨[],0⟩).Var==t.Var with
    | true=>rfl
    | false =>
     simp only [cond_false];rw [aK (by omega),bU (n:=0-t.C) (by omega) (by omega)];have e:(0-t.C)*(p.q.Terms.getD j ⟨[],0⟩).C = -t.C*(p.q.Terms.getD j ⟨[],0⟩).C:=by congr 1;omega
     rw [e,bU (by rcases ht with h | h<;>rw [h]<;>omega) (by rcases ht with h | h<;>rw [h]<;>omega)];rfl
   ·injection hs' with hs'
    subst hs';cases (p.q.Terms.getD j ⟨[],0⟩).Var==t.Var<;>simp<;>omega)
 refine (congrArg (fun o:Option (Out (List au) Empty)=>Option.bind o _) h1).trans ?_;rw [rn (fun u:au=>u.Var==t.Var)];simp only [Option.bind_some,dL,List.nil_append];have h2:=Eh (ρ:=Empty) qt (gU t p) rows.length (pX rows.length)
  (body:=fun s1 =>
  bif decide (s1.1<((s1.2.length:Nat):Int)) then (
   bX (0≤s1.1∧s1.1<(s1.2.length:Int)) <|
   bX (s1.1.toNat<s1.2.length) <|
   (fY (Linear.mk (((s1.2.getD s1.1.toNat (⟨⟨0,[]⟩,[],0,false⟩)).q).Const) (((s1.2.getD s1.1.toNat (⟨⟨0,[]⟩,[],0,false⟩)).q).Terms)) t.Var).bind fun y0 =>
   ((
    bif (y0==0) then (
     some s1.2
    ) else (
     (dy s1.1.toNat (ae.mk (Linear.mk ((p.q).Const) ((p.q).Terms)) (p.mults) (p.scale) (p.lost)) (aS (y0*t.C)) s1.2).bind fun y1 =>
     some y1
    )
   ):Option (List ae)).bind fun v1 =>
   some (.go ((aS (s1.1+1)),v1))
  ) else (
   some (.brk s1.2)
  )) (fun j l hlj hj hIj=>by
   simp only;rw [Mr (by omega),cond_true,aK ⟨by omega,by omega⟩,Int.toNat_natCast,aK (by omega),nc];simp only [Option.bind_some];rw [bU (n:=(j:Int)+1) (by omega) (by omega)];unfold gU;have hIj':pX rows.length (l.getD j ⟨⟨0,[]⟩,[],0,false⟩):=hIj;generalize hR:l.getD j ⟨⟨0,[]⟩,[],0,false⟩=r at hIj';have hR':l.getD j qt=r:=hR;have hb:=G4 hIj'.v t.Var;rw [vp];cases h0:cf r.q t.Var==0 with
   | true =>
    simp only [cond_true,Option.bind_some];have:r=l[j]:=by rw [← hR',getD_at qt (by omega)]
    rw [this,List.set_getElem_self];rfl
   | false =>
    simp only [cond_false];rw [bU (n:=cf r.q t.Var*t.C) (by rcases ht with h | h<;>rw [h]<;>omega) (by rcases ht with h | h<;>rw [h]<;>omega)];rw [Jl (by omega) hR hIj'.nd hp.nd hIj'.sc hp.sc];rfl) (fun l hlj=>by
   simp only;rw [Mq (by omega)];rfl) (rows.length-(i+1)) (i+1) 4294967296 rows (by omega) (by omega) rfl (fun r h=>hr r (List.mem_of_mem_drop h))
 have e3:aS ((i:Int)+1)=((i+1:Nat):Int):=by rw [bU (by omega) (by omega)];omega
 rw [e3];refine (congrArg (fun o:Option (Out (List Rw) Empty)=>Option.bind o _) h2).trans ?_;simp only [Option.bind_some,dL];have e4:aS (aS (0-t.C)*p.q.Const) = -t.C*p.q.Const:=by
  have:=nt hp.v;rw [bU (n:=0-t.C) (by omega) (by omega)];have e:(0-t.C)*p.q.Const = -t.C*p.q.Const:=by congr 1;omega
  rw [e,bU (by rcases ht with h | h<;>rw [h]<;>omega) (by rcases ht with h | h<;>rw [h]<;>omega)]
 rw [e4];rfl
def ss (t:au) (n:Nat) (ts:List au):List au:=au.mk (lW n) 1::(ts.filter fun u => !(u.Var==t.Var||jR u.C t.C==0)).map fun u=>au.mk u.Var (-(jR u.C t.C))
def CT (ts:List au):List au:=om (fun x y=>mf x.Var y.Var) ts
theorem o9 (ts:List au):(CT ts).Perm ts:=msort_perm ts _
def F4 (t:au) (n:Nat) (q:Linear):Linear:=Linear.mk (-(jR q.Const t.C)) (CT (ss t n q.Terms))
theorem HF (n:Nat):Lib.itoa (n:Int)=dec n:=by rw [Gi,Mq (by omega),cond_false,Int.natAbs_natCast]
theorem vh {n:Int} {t:au} (h0:t.C≠0) (hn : -1000000≤n∧n≤1000000) (ht : -1000000≤t.C∧t.C≤1000000):bJ n t=some (-(jR n t.C)):=by unfold bJ;rw [x8 h0 hn ht];simp only [Option.bind_some];have:=Js h0 hn;rw [bU (by omega) (by omega)];exact congrArg some (by omega)
theorem Ew {t:au} {n:Nat} {ts:List au} (hn:Bv ts) (hf:∀ u∈ts,u.Var≠lW n):Bv (ss t n ts):=by unfold Bv ss;rw [List.map_cons,List.nodup_cons,List.map_map];refine ⟨fun h => ?_,(List.Sublist.map _ List.filter_sublist).nodup hn⟩;obtain ⟨u,hu,e⟩:=List.mem_map.1 h;exact hf u (List.mem_filter.1 hu).1 e
theorem Bw (t:au) (n:Nat) (ts:List au):(ss t n ts).length≤ts.length+1:=by unfold ss;rw [List.length_cons,Mt];have:=List.length_filter_le (fun u => !(u.Var==t.Var||jR u.C t.C==0)) ts;omega
theorem I6 {t:au} {n:Nat} {q:Linear} (h1:1≤n) (h2:n<1000000000) (hv:ax q=true):Ac (F4 t n q):=by
 have hp:=o9 (ss t n q.Terms);have hl:=b8 hv;refine ⟨?_,fun u hu => ?_⟩
 ·show (CT (ss t n q.Terms)).length≤1000000;rw [hp.length_eq];have:=Bw t n q.Terms;omega
 ·have hu:=hp.mem_iff.1 (show u∈CT (ss t n q.Terms) from hu);unfold ss at hu;rcases List.mem_cons.1 hu with rfl | hu
  ·have:=iS (rW h1 h2).1;show (lW n).length≤1000000;omega
  ·obtain ⟨x,hx,rfl⟩:=List.mem_map.1 hu;have:=iS ((cM hv x (List.mem_filter.1 hx).1).2);show x.Var.length≤1000000;omega
theorem IW {t:au} {q:Linear} (hv:ax q=true):Ac (FB t q):=by have hl:=b8 hv;have h2:=List.length_filter_le (fun u:au => !(u.Var==t.Var)) q.Terms;refine ⟨by show ((q.Terms.filter fun u => !(u.Var==t.Var)).map fun u=>au.mk u.Var (-t.C*u.C)).length≤1000000;rw [Mt];omega,fun u hu => ?_⟩;obtain ⟨x,hx,rfl⟩:=List.mem_map.1 (show u∈(q.Terms.filter fun u => !(u.Var==t.Var)).map fun u=>au.mk u.Var (-t.C*u.C) from hu);have:=iS ((cM hv x (List.mem_filter.1 hx).1).2);show x.Var.length≤1000000;omega
theorem E2 {i:Nat} {t:au} {n:Nat} {rows:List Rw} {bs:List Bind} (hi:i<rows.length) (hv:ax (rows.getD i qt).q=true) (h1:1≤n) (h2:n<1000000000) (h0:t.C≠0) (ht : -1000000≤t.C∧t.C≤1000000)
 (hf:∀ u∈(rows.getD i qt).q.Terms,u.Var≠lW n) :
 bR (i:Int) t (n:Int) rows bs=bif decide (n+1≥1000000000) then some (3,((n+1:Nat):Int),rows,bs) else
  (bn t.Var (F4 t n (rows.getD i qt).q) (i:Int) ((n+1:Nat):Int) rows bs).bind fun y=>some (y.1,((n+1:Nat):Int),y.2.1,y.2.2):=by
 unfold bR;rw [aK ⟨Int.natCast_nonneg _,by omega⟩,Int.toNat_natCast,aK hi];generalize hP:rows.getD i qt=p at hv hf;have hdl:=th 8 n (by omega);unfold iw;rw [rB];rw [HF,aK ⟨by omega,by omega,by omega⟩];simp only [Option.bind_some];rw [aK (by simp;omega),bU (n:=(n:Int)+1) (by omega) (by omega)];have e1:(n:Int)+1=((n+1:Nat):Int):=by omega
 rw [e1];have e2:decide (((n+1:Nat):Int)≥1000000000)=decide (n+1≥1000000000):=by rw [decide_eq_decide];omega
 rw [e2];cases decide (n+1≥1000000000) with
 | true=>rfl
 | false =>
  simp only [cond_false];have hC:=cM hv;have hlen:=b8 hv;rw [vh h0 (nt hv) ht];simp only [Option.bind_some];have hl:=ea (ε:=List au) (ρ:=Empty) (f:=fun s=>s) (fin:=fun i0 s0=>s0) (⟨[],0⟩:au) p.q.Terms (fun u s=>fE.go (bif (u.Var==t.Var||jR u.C t.C==0) then s else s++[au.mk u.Var (-(jR u.C t.C))])) (fun j s=>s.length≤j+1)
   (body:=fun i0 s0 =>
   (bJ ((p.q.Terms.getD i0 ⟨[],0⟩).C) t).bind fun y2 =>
   ((
    bif ((p.q.Terms.getD i0 ⟨[],0⟩).Var==t.Var) then (
     some false
    ) else (
     some (y2 != 0)
    )
   ):Option Bool).bind fun v0 =>
   ((
    bif v0 then (
     bX ((s0.length+1)*24≤140737488355328) <|
     some (s0++[(au.mk ((p.q.Terms.getD i0 ⟨[],0⟩).Var) y2)])
    ) else (
     some s0
    )
   ):Option (List au)).bind fun v1 =>
   some (.go v1)) (fun _ _=>rfl) [(au.mk ([95]++dec n) 1)] (by simp) (fun j s hj hI=>by
    have hm:p.q.Terms.getD j ⟨[],0⟩∈p.q.Terms:=cb _ hj;obtain ⟨c1,c2⟩:=hC _ hm;refine ⟨?_,fun s' hs' => ?_⟩
    ·rw [vh h0 c1 ht];simp only [Option.bind_some];cases (p.q.Terms.getD j ⟨[],0⟩).Var==t.Var with
     | true=>rfl
     | false =>
      simp only [cond_false,Option.bind_some,Bool.false_or];have e3:(-(jR (p.q.Terms.getD j ⟨[],0⟩).C t.C) != 0) = !(jR (p.q.Terms.getD j ⟨[],0⟩).C t.C==0):=by unfold bne;congr 1;rw [Bool.eq_iff_iff];simp
      rw [e3];cases jR (p.q.Terms.getD j ⟨[],0⟩).C t.C==0 with
      | true=>rfl
      | false =>
       simp only [Bool.not_false,cond_true];rw [aK (by omega)];rfl
    ·injection hs' with hs'
     subst hs';cases (p.q.Terms.getD j ⟨[],0⟩).Var==t.Var||jR (p.q.Terms.getD j ⟨[],0⟩).C t.C==0<;>simp<;>omega)
  refine (congrArg (fun o:Option (Out (List au) Empty)=>Option.bind o _) hl).trans ?_;rw [rn (fun u:au=>u.Var==t.Var||jR u.C t.C==0)];simp only [Option.bind_some,dL];have e4:[au.mk ([95]++dec n) 1]++(p.q.Terms.filter fun u => !(u.Var==t.Var||jR u.C t.C==0)).map (fun u=>au.mk u.Var (-(jR u.C t.C)))=ss t n p.q.Terms:=rfl;rw [e4];unfold jF;have hrl:=Bw t n p.q.Terms;rw [aK ⟨by omega,Ew (gG hv) hf⟩];rfl
theorem DE {l:Linear} (h:ax l=true) (c:Int) (f:Int→Int) (hc : -1000000≤c∧c≤1000000) (hf:∀ t∈l.Terms,f t.C≠0 ∧ -1000000≤f t.C∧f t.C≤1000000):ax (Linear.mk c (l.Terms.map fun t=>au.mk t.Var (f t.C)))=true:=by
 have hl:=b8 h;have hat:∀ j,j<l.Terms.length→yv (Linear.mk c (l.Terms.map fun t=>au.mk t.Var (f t.C))) j=au.mk (yv l j).Var (f (yv l j).C):=fun j hj=>by unfold yv;rw [getD_at _ (by simpa using hj),getD_at _ hj];simp
 have h':=h;simp only [ax,Mm,My,decide_eq_true_eq] at h' ⊢;refine ⟨fun j hj => ?_,by simp only [Bk,Mm,decide_eq_true_eq];exact hc,by simpa using hl⟩;have hj:j<l.Terms.length:=by simpa using hj
 have hp:=h'.1 j (by simpa using hj);have hm:yv l j∈l.Terms:=cb _ hj;obtain ⟨f1,f2⟩:=hf _ hm;simp only [kB,Mm] at hp ⊢;rw [hat j hj];refine ⟨hp.1,by simpa using f1,by simp only [Bk,Mm,decide_eq_true_eq];exact f2,?_⟩;cases j with
 | zero=>rfl
 | succ j =>
  have:=hp.2.2.2;rw [hat (j+1-1) (by omega)];exact this
def bj (g:Int) (q:Linear):Linear:=Linear.mk (q.Const.tdiv g) (q.Terms.map fun t=>au.mk t.Var (t.C.tdiv g))
theorem tdiv_le {a g:Int} (h : -1000000≤a∧a≤1000000) : -1000000≤a.tdiv g∧a.tdiv g≤1000000:=by have:=Int.natAbs_tdiv_le_natAbs a g;omega
theorem wN {q:Linear}:∀ t∈q.Terms,((cont q:Nat):Int) ∣ t.C:=fun t ht=>Int.natAbs_dvd_natAbs.1 (by rw [Int.natAbs_natCast];exact (uE q.Terms 0).2 t ht)
theorem iC {q:Linear} (h:ax q=true):ax (bj (cont q) q)=true:=by refine DE h _ (fun c=>c.tdiv (cont q)) (tdiv_le (nt h)) fun t ht=>⟨fun h0 => ?_,tdiv_le (cM h t ht).1⟩;have:=Int.mul_tdiv_cancel' (wN t ht);rw [h0,Int.mul_zero] at this;exact ij h t ht this.symm
def Jz (n:Nat) (m:Ms):List Int:=(List.range n).map fun j:Nat=>be 0 (j:Int) m
theorem HC {β:Type} {n:Nat} {m:Ms} (hn:(m.map (·.1)).Nodup) (hk:∀ y∈m.map (·.1),0≤y∧y<(n:Int)) (k:List Int→Option β) (v:β) (hv:k (Jz n m)=some v) :
 lg (σ:=(List Int)) (ε:=Empty) (β:=β) m (fun e0 s0 =>
  bX (0≤e0.1∧e0.1<(s0.length:Int)) <|
  bX (e0.1.toNat<s0.length) <|
  some (.go (s0.set e0.1.toNat e0.2))
  ) (List.replicate n 0) k=some v:=by
 refine rL (xF (fun seen s=>s=(List.range n).map fun j:Nat=>if (j:Int)∈seen.map (fun i=>(m.getD i (0,0)).1) then be 0 (j:Int) m else 0) (fun seen s i hi hnd hni hlt hI => ?_) (fun seen s hnd hall hlt hI => ?_) _ [] _ (by simp) (by simp) (by simp) ?_)
 ·have hm:m[i]∈m:=List.getElem_mem hi;have hg:m.getD i (0,0)=m[i]:=getD_at _ hi;generalize he:m[i]=e at hm hg ⊢;have hb:=hk e.1 (List.mem_map.2 ⟨e,hm,rfl⟩);have hlen:s.length=n:=by rw [hI];simp
  refine ⟨_,by rw [aK ⟨hb.1,by omega⟩,aK (by omega)],?_⟩;rw [hI];refine List.ext_getElem (by simp) fun j h1 h2 => ?_;have hj:j<n:=by simpa using h2
  rw [List.getElem_set];simp only [List.getElem_map,List.getElem_range,List.map_append,List.map_cons,List.map_nil,List.mem_append,List.mem_singleton,hg];by_cases ej:e.1.toNat=j
  ·have:(j:Int)=e.1:=by omega
   rw [if_pos ej,this,if_pos (.inr rfl),dT hn hm]
  ·have:¬ (j:Int)=e.1:=by omega
   rw [if_neg ej];simp only [this,or_false]
 ·have:s=Jz n m:=by
   rw [hI];unfold Jz;refine List.map_congr_left fun j hj => ?_;by_cases h:(j:Int)∈m.map (·.1)
   ·rw [if_pos ((o5 hnd hall hlt _).2 h)]
   ·rw [if_neg (fun h2=>h ((o5 hnd hall hlt _).1 h2)),(e8.self hn).out h]
  rw [this];exact hv
 ·refine List.ext_getElem (by simp) fun j h1 h2=>by simp
def j3 (r:Rw):Rw:=bif AG (mulR r.scale (cont r.q)).1 (mulR r.scale (cont r.q)).2 then ae.mk (bj (cont r.q) r.q) r.mults (mulR r.scale (cont r.q)).1 r.lost else ae.mk (bj (cont r.q) r.q) r.mults 1 true
def I3 (n:Nat) (r:Rw):aj:=bif r.lost then aj.mk [] 0 else bif AG (mulR r.scale (cont r.q)).1 (mulR r.scale (cont r.q)).2 then aj.mk (Jz n r.mults) (mulR r.scale (cont r.q)).1 else aj.mk [] 0
def FW (q:Linear):Bool:=cont q==0 || !(q.Const.tmod (cont q)==0)
set_option maxHeartbeats 2000000 in
theorem step_eq {i:Nat} {n:Int} {rows:List Rw} {bs:List Bind} (hi:i<rows.length) (hl:rows.length≤1000000) {r:Rw} (er:rows.getD i qt=r) (hr:pX rows.length r) :
 bp (i:Int) n rows bs=bif FW r.q then some ((I3 rows.length r,9),n,rows,bs) else
  bif (vZ (bj (cont r.q) r.q).Terms).C==1||(vZ (bj (cont r.q) r.q).Terms).C == -1 then
   (bC (i:Int) (vZ (bj (cont r.q) r.q).Terms) n (rows.set i (j3 r)) bs).bind fun y=>some ((aj.mk [] 0,y.1),n,y.2.1,y.2.2)
  else (bR (i:Int) (vZ (bj (cont r.q) r.q).Terms) n (rows.set i (j3 r)) bs).bind fun y=>some ((aj.mk [] 0,y.1),y.2.1,y.2.2.1,y.2.2.2):=by
 unfold bp FW;rw [aK ⟨Int.natCast_nonneg _,by omega⟩,Int.toNat_natCast,aK hi];have er':rows.getD i ⟨⟨0,[]⟩,[],0,false⟩=r:=er;simp only [er',vp];rw [tD hr.v];simp only [Option.bind_some,nN,gf];have hrefuse:(bif r.lost then some ((aj.mk [] 0,(9:Int)),n,rows,bs) else bif AG (mulR r.scale (cont r.q)).1 (mulR r.scale (cont r.q)).2 then
  bX (8*rows.length≤140737488355328) <|
  lg (σ:=(List Int)) (ε:=Empty) (β:=((aj×Int)×Int×(List ae)×(List Bind))) r.mults (fun e0 s0 =>
   bX (0≤e0.1∧e0.1<(s0.length:Int)) <|
   bX (e0.1.toNat<s0.length) <|
   some (.go (s0.set e0.1.toNat e0.2))
  ) (List.replicate rows.length 0) (fun s0 =>
   some (((aj.mk s0 (mulR r.scale (cont r.q)).1),9),n,rows,bs)
  ) else some ((aj.mk [] 0,(9:Int)),n,rows,bs))=some ((I3 rows.length r,9),n,rows,bs):=by
  unfold I3;cases r.lost with
  | true=>rfl
  | false =>
   simp only [cond_false];cases AG (mulR r.scale (cont r.q)).1 (mulR r.scale (cont r.q)).2 with
   | false=>rfl
   | true =>
    simp only [cond_true];rw [aK (by omega)];exact HC hr.nd hr.ks _ _ rfl
 by_cases h0:cont r.q=0
 ·have e1:(((cont r.q:Nat):Int)==0)=true:=by simp [h0]
  have e2:(cont r.q==0)=true:=by simp [h0]
  rw [e1,e2];simp only [cond_true,Bool.true_or];exact hrefuse
 ·have e1:(((cont r.q:Nat):Int)==0)=false:=by simp [h0]
  have e2:(cont r.q==0)=false:=by simp [h0]
  rw [e1,e2];simp only [cond_false,Bool.false_or];rw [aK (by omega)];cases h1:r.q.Const.tmod (cont r.q)==0 with
  | false =>
   simp only [cond_false,Bool.not_false,cond_true];exact hrefuse
  | true =>
   simp only [cond_true,Bool.not_true,cond_false];have hC:=cM hr.v;have hlen:=b8 hr.v;have hcl:=ea (ε:=List au) (ρ:=Empty) (f:=fun s=>s) (fin:=fun i0 s0=>s0) (⟨[],0⟩:au) r.q.Terms (fun u s=>fE.go (bif false then s else s++[au.mk u.Var (u.C.tdiv (cont r.q))])) (fun j s=>s.length≤j)
    (body:=fun i0 s1 =>
    bX ((s1.length+1)*24≤140737488355328) <|
    some (.go (s1++[(au.mk ((r.q.Terms.getD i0 ⟨[],0⟩).Var) (aS (((r.q.Terms.getD i0 ⟨[],0⟩).C).tdiv (cont r.q))))]))) (fun _ _=>rfl) [] (Nat.zero_le _) (fun j s hj hI=>by
     have hm:r.q.Terms.getD j ⟨[],0⟩∈r.q.Terms:=cb _ hj;have hb:=tdiv_le (g:=(cont r.q:Int)) (hC _ hm).1;refine ⟨?_,fun s' hs' => ?_⟩
     ·rw [aK (by omega),bU (by omega) (by omega)];rfl
     ·injection hs' with hs'
      subst hs';simp;omega)
   rw [rn (fun _:au=>false)] at hcl;have hfl:(r.q.Terms.filter fun _ => !false)=r.q.Terms:=List.filter_eq_self.2 fun _ _=>rfl;rw [hfl,List.nil_append] at hcl;refine (congrArg (fun o:Option (Out (List au) Empty)=>Option.bind o _) hcl).trans ?_;simp only [Option.bind_some,dL];have hkc:=tdiv_le (g:=(cont r.q:Int)) (nt hr.v);rw [bU (n:=r.q.Const.tdiv (cont r.q)) (by omega) (by omega)];have hq:Linear.mk (r.q.Const.tdiv (cont r.q)) (r.q.Terms.map fun u=>au.mk u.Var (u.C.tdiv (cont r.q)))=bj (cont r.q) r.q:=rfl;rw [hq];have hne:(bj (cont r.q) r.q).Terms≠[]:=by
    intro h;have:r.q.Terms=[]:=by simpa [bj] using h
    exact h0 ((uf hr.v).2 this)
   simp only [tW (iC hr.v) hne,Option.bind_some,mT hi,List.set_set,List.length_set];unfold j3;cases AG (mulR r.scale (cont r.q)).1 (mulR r.scale (cont r.q)).2 with
   | true =>
    simp only [cond_true];rw [aK hi];cases (vZ (bj (cont r.q) r.q).Terms).C==1 with
    | true=>rfl
    | false=>cases (vZ (bj (cont r.q) r.q).Terms).C == -1<;>rfl
   | false =>
    simp only [cond_false];rw [aK hi,aK hi];cases (vZ (bj (cont r.q) r.q).Terms).C==1 with
    | true=>rfl
    | false=>cases (vZ (bj (cont r.q) r.q).Terms).C == -1<;>rfl
inductive Rs where
 | no
 | lim
 | ok (n:Nat) (qs:List Linear) (bs:List Bind)
abbrev fW:Linear:=⟨0,[]⟩
def xC (x:ak) (by_:Linear) (i n:Nat) (qs:List Linear) (bs:List Bind):Rs :=
 bif wK x by_ i qs (bs.map (·.Dim)) then .ok n (qs.take i++(qs.drop i).map (vd x by_)) (bs.map (kZ x by_)++[one x by_]) else .lim
def la (i n:Nat) (qs:List Linear) (bs:List Bind):Rs :=
 bif FW (qs.getD i fW) then .no else
 bif (vZ (bj (cont (qs.getD i fW)) (qs.getD i fW)).Terms).C==1||(vZ (bj (cont (qs.getD i fW)) (qs.getD i fW)).Terms).C == -1 then
  xC (vZ (bj (cont (qs.getD i fW)) (qs.getD i fW)).Terms).Var (FB (vZ (bj (cont (qs.getD i fW)) (qs.getD i fW)).Terms) (bj (cont (qs.getD i fW)) (qs.getD i fW))) i n (qs.set i (bj (cont (qs.getD i fW)) (qs.getD i fW))) bs
 else bif decide (n+1≥1000000000) then .lim else
  xC (vZ (bj (cont (qs.getD i fW)) (qs.getD i fW)).Terms).Var (F4 (vZ (bj (cont (qs.getD i fW)) (qs.getD i fW)).Terms) n (bj (cont (qs.getD i fW)) (qs.getD i fW))) i (n+1) (qs.set i (bj (cont (qs.getD i fW)) (qs.getD i fW))) bs
theorem nl {x:ak} {by_ q:Linear} (hb:ax by_=true) (hv:ax q=true) (h:lY x by_ q=true) :
 ax (vd x by_ q)=true∧(∀ f,mz f (vd x by_ q)=mz f q+cf q x*(mz f by_-f x))∧∀ v,cf (vd x by_ q) v=cf q v+cf q x*(cf by_ v-ind v x):=by
 unfold lY at h;unfold vd;cases h0:cf q x==0 with
 | true =>
  have:cf q x=0:=by simpa using h0
  simp only [cond_true,this,Int.zero_mul,Int.add_zero];exact ⟨hv,fun _=>trivial,fun _=>trivial⟩
 | false =>
  rw [h0,Bool.false_or] at h;have h2:(pF [one x by_] q).2=0:=by simpa using h
  simp only [cond_false];exact ⟨(zR h2 (fun _=>0)).2.1,fun f=>(zR h2 f).2.2,fun v=>Kw h2 hb v⟩
def AJ (n:Int) (q:Linear):Prop:=∀ t∈q.Terms,pr t.Var<n
theorem HM {n:Int} {q:Linear} (h:AJ n q) {v:ak} (h0:cf q v≠0):pr v<n:=by obtain ⟨t,ht,e,_⟩:=vT (show ql v q.Terms≠0 from h0);rw [← e];exact h t ht
theorem EF {n:Int} {x:ak} {by_ q:Linear} (hb:ax by_=true) (hv:ax q=true) (h:lY x by_ q=true) (h1:AJ n q) (h2:AJ n by_):AJ n (vd x by_ q):=by
 obtain ⟨a,_,c⟩:=nl hb hv h;intro t ht;have e:=oK (gG a) ht;have hz:=ij a t ht;have e:cf (vd x by_ q) t.Var=t.C:=e;rw [c] at e;by_cases z1:cf q t.Var=0
 ·by_cases z2:cf by_ t.Var=0
  ·by_cases z3:t.Var=x
   ·subst z3;rw [z1,z2] at e;simp at e;omega
   ·have:ind t.Var x=0:=by unfold ind;rw [if_neg (fun e=>z3 e.symm)]
    rw [z1,z2,this] at e;simp at e;omega
  ·exact HM h2 z2
 ·exact HM h1 z1
theorem wz {n m:Int} {q:Linear} (h:AJ n q) (hm:n≤m):AJ m q:=fun t ht=>by have:=h t ht;omega
theorem lE {n:Int} {q:Linear} (h:AJ n q):AJ n (bj (cont q) q):=by intro t ht;obtain ⟨u,hu,rfl⟩:=List.mem_map.1 (show t∈q.Terms.map fun t=>au.mk t.Var (t.C.tdiv (cont q)) from ht);exact h u hu
theorem EH {n:Int} {t:au} {q:Linear} (h:AJ n q):AJ n (FB t q):=by intro u hu;obtain ⟨x,hx,rfl⟩:=List.mem_map.1 (show u∈(q.Terms.filter fun u => !(u.Var==t.Var)).map fun u=>au.mk u.Var (-t.C*u.C) from hu);exact h x (List.mem_filter.1 hx).1
theorem ES {n:Nat} {t:au} {q:Linear} (h1:1≤n) (h2:n<1000000000) (h:AJ n q):AJ ((n+1:Nat):Int) (F4 t n q):=by
 intro u hu;have hu:=(o9 _).mem_iff.1 (show u∈CT (ss t n q.Terms) from hu);unfold ss at hu;rcases List.mem_cons.1 hu with rfl | hu
 ·show pr (lW n)<_;rw [(rW h1 h2).2];omega
 ·obtain ⟨x,hx,rfl⟩:=List.mem_map.1 hu;have:=h x (List.mem_filter.1 hx).1;show pr x.Var<_;omega
theorem J5 {n:Nat} (h1:1≤n) (h2:n<1000000000) {q:Linear} (h:AJ n q):∀ u∈q.Terms,u.Var≠lW n:=fun u hu e=>by have:=h u hu;rw [e,(rW h1 h2).2] at this;omega
structure nK (n:Nat) (qs:List Linear) (bs:List Bind):Prop where
 n1:1≤n
 n2:n<1000000000
 qv:∀ q∈qs,ax q=true∧AJ n q
 bv:∀ b∈bs,ax b.Dim=true∧AJ n b.Dim∧dF b.Var=true∧pr b.Var<n
structure yA (N:Int) (r:Rw):Prop where
 nd:(r.mults.map (·.1)).Nodup
 sc:r.scale≠0
 ks:∀ y∈r.mults.map (·.1),0≤y∧y<N
theorem yA.to {N:Int} {r:Rw} (h:yA N r) (hv:ax r.q=true):pX N r:=⟨hv,h.nd,h.sc,h.ks⟩
theorem pX.to {N:Int} {r:Rw} (h:pX N r):yA N r:=⟨h.nd,h.sc,h.ks⟩
theorem Dt {q:Linear} (hv:ax q=true) (hc:cont q≠0):vZ (bj (cont q) q).Terms∈(bj (cont q) q).Terms∧∀ t∈(bj (cont q) q).Terms,(vZ (bj (cont q) q).Terms).C.natAbs≤t.C.natAbs:=by refine KL fun h=>hc ((uf hv).2 ?_);simpa [bj] using h
theorem tF {q:Linear} (h:FW q=false):cont q≠0∧q.Const.tmod (cont q)=0:=by unfold FW at h;simp only [Bool.or_eq_false_iff,Bool.not_eq_false'] at h;exact ⟨by simpa using h.1,by simpa using h.2⟩
theorem z7 {x:ak} {by_:Linear} {i n m:Nat} {qs:List Linear} {bs:List Bind} (h:nK n qs bs) (hnm:n≤m) (hm:m<1000000000) (hx:dF x=true) (hxf:pr x<m) (hb:AJ m by_) {n':Nat} {qs':List Linear} {bs':List Bind} (e:xC x by_ i m qs bs = .ok n' qs' bs') :
 n'=m∧nK m qs' bs'∧qs'=qs.take i++(qs.drop i).map (vd x by_)∧bs'=bs.map (kZ x by_)++[one x by_]∧ax by_=true∧(∀ b∈bs,lY x by_ b.Dim=true)∧∀ q∈qs.drop i,lY x by_ q=true:=by
 unfold xC at e;cases ho:wK x by_ i qs (bs.map (·.Dim)) with
 | false=>rw [ho] at e;cases e
 | true =>
  rw [ho] at e;injection e with e1 e2 e3
  unfold wK at ho;simp only [Mm,My,List.mem_map,forall_exists_index,and_imp,forall_apply_eq_imp_iff₂] at ho;obtain ⟨hv,hB,hQ⟩:=ho;refine ⟨e1.symm,⟨by have:=h.n1;omega,hm,fun q hq => ?_,fun b hb' => ?_⟩,e2.symm,e3.symm,hv,hB,hQ⟩
  ·rw [← e2] at hq;rcases List.mem_append.1 hq with hq | hq
   ·obtain ⟨a,c⟩:=h.qv q (List.mem_of_mem_take hq);exact ⟨a,wz c (by omega)⟩
   ·obtain ⟨q0,hq0,rfl⟩:=List.mem_map.1 hq;obtain ⟨a,c⟩:=h.qv q0 (List.mem_of_mem_drop hq0);exact ⟨(nl hv a (hQ q0 hq0)).1,EF hv a (hQ q0 hq0) (wz c (by omega)) hb⟩
  ·rw [← e3] at hb';rcases List.mem_append.1 hb' with hb' | hb'
   ·obtain ⟨b0,hb0,rfl⟩:=List.mem_map.1 hb';obtain ⟨a,c,d,f⟩:=h.bv b0 hb0;exact ⟨(nl hv a (hB b0 hb0)).1,EF hv a (hB b0 hb0) (wz c (by omega)) hb,d,by show pr b0.Var<_;omega⟩
   ·have:b=one x by_:=by simpa using hb'
    subst this;exact ⟨hv,hb,hx,hxf⟩
theorem yL {i n:Nat} {qs:List Linear} {bs:List Bind} (h:nK n qs bs) (hi:i<qs.length):nK n (qs.set i (bj (cont (qs.getD i fW)) (qs.getD i fW))) bs:=by
 obtain ⟨a,c⟩:=h.qv _ (cb fW hi);refine ⟨h.n1,h.n2,fun q hq => ?_,h.bv⟩;rcases List.mem_or_eq_of_mem_set hq with hq | rfl
 ·exact h.qv q hq
 ·exact ⟨iC a,lE c⟩
theorem FG (rows:List Rw) (i:Nat) (r:Rw):(rows.set i r).map (·.q)=(rows.map (·.q)).set i r.q:=by rw [List.map_set]
theorem ub (r:Rw):(j3 r).q=bj (cont r.q) r.q:=by unfold j3;cases AG (mulR r.scale (cont r.q)).1 (mulR r.scale (cont r.q)).2<;>rfl
theorem DU {N:Int} {r:Rw} (h:pX N r) (hc:cont r.q≠0):pX N (j3 r):=by
 refine ⟨by rw [ub];exact iC h.v,?_,?_,?_⟩<;>unfold j3<;>cases hs:AG (mulR r.scale (cont r.q)).1 (mulR r.scale (cont r.q)).2
 ·exact h.nd
 ·exact h.nd
 ·show (1:Int)≠0;omega
 ·show (mulR r.scale (cont r.q)).1≠0;unfold AG at hs;simp only [Mm] at hs;have h2:(mulR r.scale (cont r.q)).2=0:=eq_of_beq hs.1;clear hs;unfold mulR at h2 ⊢;cases hj:l7 r.scale&&(l7 (cont r.q:Int)&&l7 (r.scale*(cont r.q:Int))) with
  | false=>rw [hj] at h2;simp at h2
  | true=>exact Int.mul_ne_zero h.sc (by omega)
 ·exact h.ks
 ·exact h.ks
theorem J9 {x:ak} {by_:Linear} {i m:Nat} {rows:List Rw} {bs:List Bind} (hx:dF x=true) (hk:Ac by_) (hi:i≤rows.length) (hl1:rows.length≤1000000) (hl2:bs.length≤2000000000)
 (hr:∀ r∈rows,pX rows.length r) (hb:∀ b∈bs,ax b.Dim=true) (nx:Int) :
 (xC x by_ i m (rows.map (·.q)) bs = .lim∧∃ r' b',bn x by_ (i:Int) nx rows bs=some (3,r',b')) ∨
 ∃ rows' bs',xC x by_ i m (rows.map (·.q)) bs = .ok m (rows'.map (·.q)) bs'∧bn x by_ (i:Int) nx rows bs=some (0,rows',bs')∧rows'.length=rows.length∧∀ r∈rows',yA rows.length r:=by
 rcases put_eq (nx:=nx) hx hk hi hl1 hl2 (fun r h=>(hr r h).v) hb with ⟨h1,h2⟩ | ⟨h1,h2⟩
 ·right;refine ⟨_,_,?_,h2,?_,fun r h => ?_⟩
  ·unfold xC;rw [h1,cond_true,List.map_append,List.map_map,← List.map_take,← List.map_drop,List.map_map];rfl
  ·simp;omega
  ·rcases List.mem_append.1 h with h | h
   ·exact (hr r (List.mem_of_mem_take h)).to
   ·obtain ⟨r0,hr0,rfl⟩:=List.mem_map.1 h;have:=hr r0 (List.mem_of_mem_drop hr0);exact ⟨this.nd,this.sc,this.ks⟩
 ·left;exact ⟨by unfold xC;rw [h1];rfl,h2⟩
theorem L8 (t:au) (p r:Rw):(gU t p r).q=r.q:=by
 unfold gU;cases cf r.q t.Var==0 with
 | true=>rfl
 | false=>exact Ek r p _
theorem LN {N:Int} {t:au} {p r:Rw} (hp:pX N p) (hr:pX N r):pX N (gU t p r):=by
 unfold gU;cases cf r.q t.Var==0 with
 | true=>exact hr
 | false=>exact HX hr hp _
theorem xQ (rows:List Rw) (i:Nat):(rows.map (·.q)).getD i fW=(rows.getD i qt).q:=by rw [Mk,Mk,List.getElem?_map];cases rows[i]? <;> rfl
theorem Kl {i n:Nat} {rows:List Rw} {bs:List Bind} (hi:i<rows.length) (hl1:rows.length≤1000000) (hl2:bs.length≤2000000000) (h:nK n (rows.map (·.q)) bs) (hr:∀ r∈rows,yA rows.length r) :
 (la i n (rows.map (·.q)) bs = .no∧bp (i:Int) (n:Int) rows bs=some ((I3 rows.length (rows.getD i qt),9),(n:Int),rows,bs)) ∨
 (la i n (rows.map (·.q)) bs = .lim∧∃ f n' r' b',bp (i:Int) (n:Int) rows bs=some ((f,3),n',r',b')) ∨
 ∃ m rows' bs',la i n (rows.map (·.q)) bs = .ok m (rows'.map (·.q)) bs'∧bp (i:Int) (n:Int) rows bs=some ((aj.mk [] 0,0),(m:Int),rows',bs')∧rows'.length=rows.length∧∀ r∈rows',yA rows.length r:=by
 have hrw:∀ r∈rows,pX rows.length r:=fun r hm=>(hr r hm).to (h.qv r.q (List.mem_map.2 ⟨r,hm,rfl⟩)).1;have hri:=hrw _ (cb qt hi);have hfi:AJ n (rows.getD i qt).q:=(h.qv _ (List.mem_map.2 ⟨_,cb qt hi,rfl⟩)).2;rw [step_eq hi hl1 rfl hri];unfold la;rw [xQ];generalize hP:rows.getD i qt=p at hri hfi ⊢;cases hno:FW p.q with
 | true=>exact .inl ⟨rfl,rfl⟩
 | false =>
  obtain ⟨hc,hd⟩:=tF hno;simp only [cond_false];obtain ⟨tm,tmin⟩:=Dt hri.v hc;have hnv:=iC hri.v;generalize hT:vZ (bj (cont p.q) p.q).Terms=t at tm tmin ⊢;have hbd:∀ b∈bs,ax b.Dim=true:=fun b hb=>(h.bv b hb).1;have hrows1:∀ r∈rows.set i (j3 p),pX rows.length r:=fun r hm=>by
   rcases List.mem_or_eq_of_mem_set hm with hm | rfl
   ·exact hrw r hm
   ·exact DU hri hc
  have hq1:(rows.map (·.q)).set i (bj (cont p.q) p.q)=(rows.set i (j3 p)).map (·.q):=by rw [FG,ub]
  have hat:(rows.set i (j3 p)).getD i qt=j3 p:=mT hi;have hi1:i<(rows.set i (j3 p)).length:=by simpa using hi
  have hl:(rows.set i (j3 p)).length=rows.length:=by simp
  obtain ⟨tb,tn⟩:=cM hnv t tm;cases hu:t.C==1||t.C == -1 with
  | true =>
   have ht:t.C=1∨t.C = -1:=by simp only [Bool.or_eq_true,beq_iff_eq] at hu;exact hu
   simp only [cond_true];rw [unit_eq hi1 (by rw [hl];exact hl1) (fun r hm=>by rw [hl];exact hrows1 r hm) ht,hat,ub,hq1];have hmq:((rows.set i (j3 p)).take (i+1)++((rows.set i (j3 p)).drop (i+1)).map (gU t (j3 p))).map (·.q)=(rows.set i (j3 p)).map (·.q):=by rw [List.map_append,List.map_map];have:((fun x:Rw=>x.q) ∘ gU t (j3 p))=fun x=>x.q:=funext fun r=>L8 t (j3 p) r;rw [this,← List.map_append,List.take_append_drop]
   have hlq:((rows.set i (j3 p)).take (i+1)++((rows.set i (j3 p)).drop (i+1)).map (gU t (j3 p))).length=rows.length:=by simp;omega
   have hrq:∀ r∈(rows.set i (j3 p)).take (i+1)++((rows.set i (j3 p)).drop (i+1)).map (gU t (j3 p)),pX rows.length r:=fun r hm=>by
    rcases List.mem_append.1 hm with hm | hm
    ·exact hrows1 r (List.mem_of_mem_take hm)
    ·obtain ⟨r0,hr0,rfl⟩:=List.mem_map.1 hm;exact LN (DU hri hc) (hrows1 r0 (List.mem_of_mem_drop hr0))
   have hpu:=J9 (i:=i) (m:=n) (nx:=(n:Int)) (bs:=bs) (rows:=(rows.set i (j3 p)).take (i+1)++((rows.set i (j3 p)).drop (i+1)).map (gU t (j3 p))) tn (IW (t:=t) hnv) (by omega) (by omega) hl2 (fun r hm=>by rw [hlq];exact hrq r hm) hbd;rw [hmq,hlq] at hpu;rcases hpu with ⟨a,r',b',e⟩ | ⟨rows',bs',a,e,l,o⟩
   ·right;left;exact ⟨a,_,_,_,_,by rw [e];rfl⟩
   ·right;right;exact ⟨n,rows',bs',a,by rw [e];rfl,l,o⟩
  | false =>
   simp only [cond_false];have ht0:t.C≠0:=ij hnv t tm;rw [E2 hi1 (by rw [hat,ub];exact hnv) h.n1 h.n2 ht0 tb (by rw [hat,ub];exact J5 h.n1 h.n2 (lE hfi)),hat,ub,hq1];cases hlim:decide (n+1≥1000000000) with
   | true=>exact .inr (.inl ⟨rfl,_,_,_,_,rfl⟩)
   | false =>
    simp only [cond_false];have hpu:=J9 (i:=i) (m:=n+1) (nx:=((n+1:Nat):Int)) (bs:=bs) (rows:=rows.set i (j3 p)) tn (I6 (t:=t) h.n1 h.n2 hnv) (by omega) (by omega) hl2 (fun r hm=>by rw [hl];exact hrows1 r hm) hbd;rw [hl] at hpu;rcases hpu with ⟨a,r',b',e⟩ | ⟨rows',bs',a,e,l,o⟩
    ·right;left;exact ⟨a,_,_,_,_,by rw [e];rfl⟩
    ·right;right;exact ⟨n+1,rows',bs',a,by rw [e];rfl,l,o⟩
theorem yJ (f:ak→Int) (x:ak) (a:Int):∀ {ts:List au},Bv ts→du f ((ts.filter fun u => !(u.Var==x)).map fun u=>au.mk u.Var (a*u.C))=a*(du f ts-ql x ts*f x)
 | [],_=>by simp [du,ql]
 | t::ts,hn=>by
  unfold Bv at hn;rw [List.map_cons,List.nodup_cons] at hn;have ih:=yJ f x a (ts:=ts) hn.2;by_cases e:t.Var=x
  ·have h0:ql x ts=0:=lI (by rw [← e];exact hn.1);have e2:(!(t.Var==x))=false:=by simp [e]
   rw [List.filter_cons,e2];simp only [Bool.false_eq_true,if_false];rw [ih,h0];simp only [du,ql,e,if_true,Int.zero_mul,Int.sub_zero];congr 1;omega
  ·have e2:(!(t.Var==x))=true:=by simp [e]
   rw [List.filter_cons,e2];simp only [if_true,List.map_cons,du,ql,if_neg e];rw [ih,Int.mul_sub,Int.mul_sub,Int.mul_add,Int.mul_assoc];omega
theorem Jk (f:ak→Int) {t:au} {q:Linear} (hq:ax q=true) (hm:t∈q.Terms):mz f (FB t q) = -t.C*(mz f q-t.C*f t.Var):=by have h1:=yJ f t.Var (-t.C) (gG hq);have h2:ql t.Var q.Terms=t.C:=oK (gG hq) hm;show -t.C*q.Const+du f ((q.Terms.filter fun u => !(u.Var==t.Var)).map fun u=>au.mk u.Var (-t.C*u.C))=_;rw [h1,h2,← Int.mul_add];congr 1;unfold mz;omega
theorem HI {t:au} {q:Linear} (hq:ax q=true) (hm:t∈q.Terms) (ht:t.C=1∨t.C = -1) (hb:ax (FB t q)=true) (hc:lY t.Var (FB t q) q=true):vd t.Var (FB t q) q=⟨0,[]⟩:=by
 obtain ⟨a,b,_⟩:=nl hb hq hc;refine JF a mX fun f => ?_;have h2:cf q t.Var=t.C:=oK (gG hq) hm;rw [b f,Jk f hq hm,h2];have h0:mz f (⟨0,[]⟩:Linear)=0:=by simp [mz,du]
 rw [h0];rcases ht with h | h<;>rw [h]<;>omega
theorem Iq {a b:List au} (h:a.Perm b) (ha:Bv a) (v:ak):ql v a=ql v b:=by have hb:Bv b:=(h.map au.Var).nodup_iff.1 ha;rw [← xy v ha,← xy v hb,uo _ h]
theorem sU {p:au→Bool} {g:Int→Int} {v:ak}:∀ {ts:List au},Bv ts→∀ {u:au},u∈ts→u.Var=v→ql v ((ts.filter p).map fun u=>au.mk u.Var (g u.C))=if p u=true then g u.C else 0
 | [],_,u,h,_=>by simp at h
 | t::ts,hn,u,h,e=>by
  unfold Bv at hn;rw [List.map_cons,List.nodup_cons] at hn;have hno:∀ (y:ak),y ∉ ts.map au.Var→ql y ((ts.filter p).map fun u=>au.mk u.Var (g u.C))=0:=fun y hy=>lI (by
   rw [List.map_map];intro h;obtain ⟨z,hz,ez⟩:=List.mem_map.1 h;exact hy (List.mem_map.2 ⟨z,(List.mem_filter.1 hz).1,ez⟩))
  rcases List.mem_cons.1 h with rfl | h
  ·rw [List.filter_cons];cases hp:p u with
   | true=>simp only [if_true,List.map_cons,ql,if_pos e]
   | false =>
    simp only [Bool.false_eq_true,if_false];exact hno v (by rw [← e];exact hn.1)
  ·have hne:¬ t.Var=v:=fun e2=>hn.1 (by rw [e2,← e];exact List.mem_map.2 ⟨u,h,rfl⟩);rw [List.filter_cons];cases hp:p t with
   | true =>
    simp only [if_true,List.map_cons,ql,if_neg hne];exact sU hn.2 h e
   | false =>
    simp only [Bool.false_eq_true,if_false];exact sU hn.2 h e
theorem KQ {t u:au} {n:Nat} {q:Linear} (hq:ax q=true) (hf:∀ u∈q.Terms,u.Var≠lW n) (hu:u∈q.Terms) (hne:u.Var≠t.Var):cf (F4 t n q) u.Var = -(jR u.C t.C):=by
 show ql u.Var (CT (ss t n q.Terms))=_;have hnd:=Ew (t:=t) (gG hq) hf;rw [Iq (o9 _) ((o9 _).map au.Var |>.nodup_iff.2 hnd)];unfold ss;rw [ql,if_neg (fun e=>hf u hu e.symm)];rw [sU (p:=fun u => !(u.Var==t.Var||jR u.C t.C==0)) (g:=fun c => -(jR c t.C)) (gG hq) hu rfl];have e1:(u.Var==t.Var)=false:=by simpa using hne
 simp only [e1,Bool.false_or];cases h:jR u.C t.C==0 with
 | true =>
  have:jR u.C t.C=0:=by simpa using h
  simp [this]
 | false=>simp
theorem F6 {q:Linear} (hv:ax q=true) (hc:cont q≠0) {d:Nat} (h:∀ t∈(bj (cont q) q).Terms,d ∣ t.C.natAbs):d=1:=by
 have h2:d*cont q ∣ cont q:=by
  refine zw q.Terms 0 (Nat.dvd_zero _) fun t ht => ?_;have:=h (au.mk t.Var (t.C.tdiv (cont q))) (List.mem_map.2 ⟨t,ht,rfl⟩);have e:=Int.mul_tdiv_cancel' (wN t ht);have e2:t.C.natAbs=cont q*(t.C.tdiv (cont q)).natAbs:=by have:=congrArg Int.natAbs e;rw [Int.natAbs_mul,Int.natAbs_natCast] at this;exact this.symm
  rw [e2,Nat.mul_comm d];exact Nat.mul_dvd_mul_left _ this
 have h3:d*cont q≤1*cont q:=by rw [Nat.one_mul];exact Nat.le_of_dvd (by omega) h2
 have h4:d≤1:=Nat.le_of_mul_le_mul_right h3 (by omega);rcases Nat.eq_zero_or_pos d with h5 | h5
 ·subst h5;rw [Nat.zero_mul] at h2;exact absurd (Nat.eq_zero_of_zero_dvd h2) hc
 ·omega
theorem KR {q:Linear} (hv:ax q=true) (hc:cont q≠0) {t:au} (ht:t∈(bj (cont q) q).Terms) (h1:¬ (t.C=1∨t.C = -1)):∃ u∈(bj (cont q) q).Terms,u.C.tmod t.C≠0:=by
 refine Classical.byContradiction fun hn => ?_;have hall:∀ u∈(bj (cont q) q).Terms,t.C.natAbs ∣ u.C.natAbs:=fun u hu=>by have h0:u.C.tmod t.C=0:=Classical.byContradiction fun h=>hn ⟨u,hu,h⟩;have:=congrArg Int.natAbs h0;rw [Int.natAbs_tmod] at this;exact Nat.dvd_of_mod_eq_zero this
 have:=F6 hv hc hall;omega
def Pm (k:Nat) (q:Linear):Prop:=∃ t∈q.Terms,t.C.natAbs≤k
theorem IL {t:au} {n:Nat} {q:Linear} (hv:ax q=true) (hc:cont q≠0) (hf:∀ u∈q.Terms,u.Var≠lW n) (ht:t∈(bj (cont q) q).Terms) (h1:¬ (t.C=1∨t.C = -1)) (hb:ax (F4 t n (bj (cont q) q))=true)
 (hcb:lY t.Var (F4 t n (bj (cont q) q)) (bj (cont q) q)=true):∃ u∈(vd t.Var (F4 t n (bj (cont q) q)) (bj (cont q) q)).Terms,u.C.natAbs<t.C.natAbs:=by
 have hnv:=iC hv;obtain ⟨a,_,c⟩:=nl hb hnv hcb;obtain ⟨u,hu,hr⟩:=KR hv hc ht h1;have ht0:t.C≠0:=ij hnv t ht;have hne:u.Var≠t.Var:=fun e=>by have e1:=oK (gG hnv) hu;have e2:=oK (gG hnv) ht;rw [e,e2] at e1;rw [← e1,Int.tmod_self] at hr;exact hr rfl
 have hf':∀ u∈(bj (cont q) q).Terms,u.Var≠lW n:=fun u hu=>by obtain ⟨z,hz,rfl⟩:=List.mem_map.1 (show u∈q.Terms.map fun t=>au.mk t.Var (t.C.tdiv (cont q)) from hu);exact hf z hz
 have hcf:=c u.Var;have e1:cf (bj (cont q) q) u.Var=u.C:=oK (gG hnv) hu;have e2:cf (bj (cont q) q) t.Var=t.C:=oK (gG hnv) ht;have e3:ind u.Var t.Var=0:=if_neg fun e=>hne e.symm;rw [e1,e2,KQ hnv hf' hu hne,e3,Int.sub_zero,Int.mul_neg] at hcf;obtain ⟨d1,d2⟩:=Hc (n:=u.C) ht0;have hnz:cf (vd t.Var (F4 t n (bj (cont q) q)) (bj (cont q) q)) u.Var≠0:=fun h=>hr (d2.1 (by omega));obtain ⟨w,hw,_,ew⟩:=vT (show ql u.Var (vd t.Var (F4 t n (bj (cont q) q)) (bj (cont q) q)).Terms≠0 from hnz);refine ⟨w,hw,?_⟩;have ew:w.C=cf (vd t.Var (F4 t n (bj (cont q) q)) (bj (cont q) q)) u.Var:=ew;rw [ew,hcf];have:u.C + -(t.C*jR u.C t.C)=u.C-t.C*jR u.C t.C:=by omega
 rw [this];exact d1
theorem yZ {α:Type} (d:α) (l:List α) (g:α→α) {i:Nat} (hi:i<l.length):(l.take i++(l.drop i).map g).getD i d=g (l.getD i d):=by
 rw [Mk,List.getElem?_append_right (by simp;omega),getD_at d hi];have:i-(l.take i).length=0:=by simp;omega
 rw [this,List.drop_eq_getElem_cons hi];rfl
theorem tK {i n:Nat} {qs:List Linear} {bs:List Bind} (h:nK n qs bs) (hi:i<qs.length) {m:Nat} {qs':List Linear} {bs':List Bind} (e:la i n qs bs = .ok m qs' bs') :
 nK m qs' bs'∧qs'.length=qs.length∧bs'.length=bs.length+1∧((m=n∧qs'.getD i fW=⟨0,[]⟩)∨(m=n+1∧∀ k,Pm (k+1) (qs.getD i fW)→Pm k (qs'.getD i fW))):=by
 obtain ⟨qv,qf⟩:=h.qv _ (cb fW hi);unfold la at e;generalize hQ:qs.getD i fW=q at qv qf e ⊢;cases hno:FW q with
 | true=>rw [hno] at e;cases e
 | false =>
  obtain ⟨hc,hd⟩:=tF hno;rw [hno] at e;simp only [cond_false] at e;have hnv:=iC qv;obtain ⟨tm,tmin⟩:=Dt qv hc;generalize hT:vZ (bj (cont q) q).Terms=t at tm tmin e;obtain ⟨tb,tn⟩:=cM hnv t tm;have hset:nK n (qs.set i (bj (cont q) q)) bs:=by have:=yL h hi;rwa [hQ] at this
  have htf:pr t.Var<n:=lE qf t tm;have hat:(qs.set i (bj (cont q) q)).getD i fW=bj (cont q) q:=mT hi;have hmem:bj (cont q) q∈(qs.set i (bj (cont q) q)).drop i:=by rw [List.drop_eq_getElem_cons (by simpa using hi)];simp
  cases hu:t.C==1||t.C == -1 with
  | true =>
   rw [hu] at e;simp only [cond_true] at e;have ht:t.C=1∨t.C = -1:=by simp only [Bool.or_eq_true,beq_iff_eq] at hu;exact hu
   obtain ⟨a1,a2,a3,a4,a5,a6,a7⟩:=z7 hset (Nat.le_refl n) h.n2 tn htf (EH (lE qf)) e;refine ⟨by rw [a1];exact a2,by rw [a3];simp;omega,by rw [a4];simp,.inl ⟨a1,?_⟩⟩;rw [a3,yZ fW _ _ (by simpa using hi),hat];exact HI hnv tm ht a5 (a7 _ hmem)
  | false =>
   rw [hu] at e;simp only [cond_false] at e;have ht:¬ (t.C=1∨t.C = -1):=by simp only [Bool.or_eq_false_iff,beq_eq_false_iff_ne] at hu;exact fun h=>h.elim hu.1 hu.2
   cases hl:decide (n+1≥1000000000) with
   | true=>rw [hl] at e;cases e
   | false =>
    rw [hl] at e;simp only [cond_false] at e;have hl:=Mo hl;obtain ⟨a1,a2,a3,a4,a5,a6,a7⟩:=z7 hset (Nat.le_succ n) (by omega) tn (by omega) (ES h.n1 h.n2 (lE qf)) e;refine ⟨by rw [a1];exact a2,by rw [a3];simp;omega,by rw [a4];simp,.inr ⟨a1,fun k hk => ?_⟩⟩;rw [a3,yZ fW _ _ (by simpa using hi),hat];obtain ⟨u,hu,hlt⟩:=IL (n:=n) qv hc (J5 h.n1 h.n2 qf) tm ht a5 (a7 _ hmem);obtain ⟨z,hz,hzk⟩:=hk;have h1:=tmin (au.mk z.Var (z.C.tdiv (cont q))) (List.mem_map.2 ⟨z,hz,rfl⟩);have h2:=Int.natAbs_tdiv_le_natAbs z.C (cont q);simp only at h1;exact ⟨u,hu,by omega⟩
def nG (q:Linear):Bool:=q.Terms.isEmpty&&q.Const==0
theorem tB (q:Linear):ev q=some (nG q):=by unfold ev nG;rw [xT];cases q.Terms.isEmpty<;>rfl
theorem uh {q:Linear}:nG q=true↔q=⟨0,[]⟩:=by unfold nG;obtain ⟨c,ts⟩:=q;simp only [Mm,List.isEmpty_iff,beq_iff_eq,Linear.mk.injEq];exact and_comm
def mu:Nat→Nat→Nat→List Linear→List Bind→Option Rs
 | 0,_,_,_,_=>none
 | f+1,i,n,qs,bs=>bif nG (qs.getD i fW) then some (.ok n qs bs) else
  match la i n qs bs with
  | .ok m qs' bs'=>mu f i m qs' bs'
  | e=>some e
theorem Cl:∀ (k N i n:Nat) (qs:List Linear) (bs:List Bind),nK n qs bs→i<qs.length→(Pm k (qs.getD i fW)∨(qs.getD i fW).Terms=[])→k+2≤N→∃ r,mu N i n qs bs=some r
 | k,N,i,n,qs,bs,h,hi,hP,hN=>by
  obtain ⟨N,rfl⟩:∃ j,N=j+1:=⟨N-1,by omega⟩;simp only [mu];cases hz:nG (qs.getD i fW) with
  | true=>exact ⟨_,rfl⟩
  | false =>
   simp only [cond_false];cases hs:la i n qs bs with
   | no=>exact ⟨_,rfl⟩
   | lim=>exact ⟨_,rfl⟩
   | ok m qs' bs' =>
    simp only;obtain ⟨a1,a2,a3,a4⟩:=tK h hi hs;rcases a4 with ⟨_,a4⟩ | ⟨_,a4⟩
    ·obtain ⟨N,rfl⟩:∃ j,N=j+1:=⟨N-1,by omega⟩;simp only [mu];rw [a4,show nG ⟨0,[]⟩=true from rfl];exact ⟨_,rfl⟩
    ·rcases hP with hP | hP
     ·cases k with
      | zero =>
       obtain ⟨t,ht,hk⟩:=hP;have:=ij (h.qv _ (cb fW hi)).1 t ht;omega
      | succ k=>exact Cl k N i m qs' bs' a1 (by omega) (.inl (a4 k hP)) (by omega)
     ·exfalso;unfold la FW at hs;have h0:cont (qs.getD i fW)=0:=(uf (h.qv _ (cb fW hi)).1).2 hP;rw [h0] at hs;simp at hs
theorem Bf {N i n:Nat} {qs:List Linear} {bs:List Bind} (h:nK n qs bs) (hi:i<qs.length) (hN:1000002≤N):∃ r,mu N i n qs bs=some r:=by
 refine Cl 1000000 N i n qs bs h hi ?_ hN;cases hT:(qs.getD i fW).Terms with
 | nil=>exact .inr rfl
 | cons t ts =>
  left;have:=(cM (h.qv _ (cb fW hi)).1 t (by rw [hT];simp)).1;exact ⟨t,by rw [hT];simp,by omega⟩
theorem vV:∀ (N i n c:Nat) (qs:List Linear) (bs:List Bind),nK n qs bs→i<qs.length→(bs.length≤n+c∨(nG (qs.getD i fW)=true∧bs.length≤n+c+1))→∀ (m:Nat) (qs':List Linear) (bs':List Bind),mu N i n qs bs=some (.ok m qs' bs') →
 nK m qs' bs'∧qs'.length=qs.length∧bs'.length≤m+c+1∧qs'.getD i fW=⟨0,[]⟩∧n≤m
 | 0,i,n,c,qs,bs,h,hi,hl,m,qs',bs',e=>by simp [mu] at e
 | N+1,i,n,c,qs,bs,h,hi,hl,m,qs',bs',e=>by
  simp only [mu] at e;cases hz:nG (qs.getD i fW) with
  | true =>
   rw [hz] at e;injection e with e
   injection e with e1 e2 e3
   subst e1;subst e2;subst e3;exact ⟨h,rfl,by rcases hl with hl | hl<;>omega,uh.1 hz,Nat.le_refl _⟩
  | false =>
   rw [hz] at e;simp only [cond_false] at e;have hl:bs.length≤n+c:=hl.resolve_right fun h2=>by rw [hz] at h2;cases h2.1
   cases hs:la i n qs bs with
   | no=>rw [hs] at e;cases e
   | lim=>rw [hs] at e;cases e
   | ok m1 qs1 bs1 =>
    rw [hs] at e;simp only at e;obtain ⟨a1,a2,a3,a4⟩:=tK h hi hs;have hb:bs1.length≤m1+c∨(nG (qs1.getD i fW)=true∧bs1.length≤m1+c+1):=by
     rcases a4 with ⟨e1,a4⟩ | ⟨e1,_⟩
     ·exact .inr ⟨uh.2 a4,by omega⟩
     ·exact .inl (by omega)
    obtain ⟨b1,b2,b3,b4,b5⟩:=vV N i m1 c qs1 bs1 a1 (by omega) hb m qs' bs' e;refine ⟨b1,by omega,b3,b4,?_⟩;rcases a4 with ⟨e1,_⟩ | ⟨e1,_⟩<;>omega
abbrev LZ:=aj
abbrev F9:=List Bind×Int×LZ×Int
noncomputable def HZ (i:Nat) (s2:List Rw×List Bind×Int):Option (fE (List Rw×List Bind×Int) (List Rw×List Bind×Int) (fE (Int×List Rw×List Bind×Int) (List Rw×List Bind×Int) F9)) :=
 bX (0≤(i:Int)∧(i:Int)<(s2.1.length:Int)) <|
 bX ((i:Int).toNat<s2.1.length) <|
 (ev (Linear.mk (((s2.1.getD (i:Int).toNat (⟨⟨0,[]⟩,[],0,false⟩)).q).Const) (((s2.1.getD (i:Int).toNat (⟨⟨0,[]⟩,[],0,false⟩)).q).Terms))).bind fun y2 =>
 bif y2 then (
  some (.brk (s2.1,s2.2.1,s2.2.2))
 ) else (
  (bp (i:Int) s2.2.2 s2.1 s2.2.1).bind fun y3 =>
  bif (y3.1.2==0) then (
   some (.go (y3.2.2.1,y3.2.2.2,y3.2.1))
  ) else (
   some (.ret (.ret ([],0,y3.1.1,y3.1.2)))
  )
 )
theorem Kf:∀ (N i n c:Nat) (rows:List Rw) (bs:List Bind),i<rows.length→rows.length≤6000→nK n (rows.map (·.q)) bs→(∀ r∈rows,yA rows.length r)→c≤6000→(bs.length≤n+c∨(nG ((rows.map (·.q)).getD i fW)=true∧bs.length≤n+c+1)) →
 (∀ (m:Nat) (qs':List Linear) (bs':List Bind),mu N i n (rows.map (·.q)) bs=some (.ok m qs' bs')→∃ rows',rows'.map (·.q)=qs'∧rows'.length=rows.length∧(∀ r∈rows',yA rows.length r)∧oa (HZ i) N (rows,bs,(n:Int))=some (.brk (rows',bs',(m:Int)))) ∧
 (mu N i n (rows.map (·.q)) bs=some .no→∃ f,oa (HZ i) N (rows,bs,(n:Int))=some (.ret (.ret ([],0,f,9)))) ∧
 (mu N i n (rows.map (·.q)) bs=some .lim→∃ f,oa (HZ i) N (rows,bs,(n:Int))=some (.ret (.ret ([],0,f,3))))
 | 0,i,n,c,rows,bs,hi,hl,h,hr,hc,hb=>by simp [mu]
 | N+1,i,n,c,rows,bs,hi,hl,h,hr,hc,hb=>by
  have hn:=h.n2;simp only [mu,oa,HZ];rw [aK ⟨by omega,by omega⟩,Int.toNat_natCast,aK hi,vp,tB,xQ];simp only [Option.bind_some];cases hz:nG (rows.getD i qt).q with
  | true =>
   refine ⟨fun m qs' bs' e => ?_,fun e=>(by injection e with e;cases e),fun e=>(by injection e with e;cases e)⟩;injection e with e
   injection e with e1 e2 e3
   subst e1;subst e3;exact ⟨rows,e2,rfl,hr,rfl⟩
  | false =>
   simp only [cond_false];have hb':bs.length≤n+c:=hb.resolve_right fun h2=>by rw [xQ,hz] at h2;cases h2.1
   rcases Kl hi (by omega) (by omega) h hr with ⟨e1,e2⟩ | ⟨e1,f,n',r',b',e2⟩ | ⟨m1,rows1,bs1,e1,e2,l1,o1⟩
   ·rw [e1,e2];exact ⟨fun m qs' bs' e=>(by injection e with e;cases e),fun _=>⟨_,rfl⟩,fun e=>(by injection e with e;cases e)⟩
   ·rw [e1,e2];exact ⟨fun m qs' bs' e=>(by injection e with e;cases e),fun e=>(by injection e with e;cases e),fun _=>⟨_,rfl⟩⟩
   ·rw [e1,e2];simp only [Option.bind_some];have hq:i<(rows.map (·.q)).length:=by simpa using hi
    obtain ⟨a1,a2,a3,a4⟩:=tK h hq e1;have hb1:bs1.length≤m1+c∨(nG ((rows1.map (·.q)).getD i fW)=true∧bs1.length≤m1+c+1):=by
     rcases a4 with ⟨e1,a4⟩ | ⟨e1,_⟩
     ·exact .inr ⟨uh.2 a4,by omega⟩
     ·exact .inl (by omega)
    have ih:=Kf N i m1 c rows1 bs1 (by omega) (by omega) a1 (fun r hm=>by rw [l1];exact o1 r hm) hc hb1;rw [l1] at ih;exact ih
theorem Ic {v:ak}:∀ {bs:List Bind},(∀ b∈bs,b.Kind=1)→(∃ b∈bs,b.Var=v)→0≤idxOf (iD 1 v) bs
 | [],_,h=>by obtain ⟨b,hb,_⟩:=h;simp at hb
 | b::bs,hk,h=>by have h2:=pc (iD 1 v) (b::bs);refine Int.not_lt.1 fun hn => ?_;have:=h2.1 hn;obtain ⟨b',hb',e⟩:=h;rw [List.any_eq_false] at this;refine this b' hb' ?_;simp [iD,hk b' hb',e]
theorem Io {bs:List Bind} (hk:∀ b∈bs,b.Kind=1) (hd:(bs.map Bind.Var).Nodup) {b:Bind} (hb:b∈bs) (f:ak→Int):sv bs f b.Var=mz f b.Dim:=by
 have h0:=Ic hk ⟨b,hb,rfl⟩;obtain ⟨h1,h2⟩:=r8 (iD 1 b.Var) pq bs h0;unfold sv;rw [Mq (by omega),cond_false];have hm:bs.getD (idxOf (iD 1 b.Var) bs).toNat pq∈bs:=cb _ h1;generalize bs.getD (idxOf (iD 1 b.Var) bs).toNat pq=b' at h2 hm;simp only [iD,Mm,beq_iff_eq] at h2;have:b'=b:=by
  obtain ⟨i,hi,rfl⟩:=List.getElem_of_mem hm;obtain ⟨j,hj,rfl⟩:=List.getElem_of_mem hb;have hp:=List.pairwise_iff_getElem.1 (show (bs.map Bind.Var).Pairwise (· ≠ ·) from hd);rcases Nat.lt_trichotomy i j with h | h | h
  ·exact absurd (by rw [List.getElem_map,List.getElem_map];exact h2.2) (hp i j (by simpa using hi) (by simpa using hj) h)
  ·subst h;rfl
  ·exact absurd (by rw [List.getElem_map,List.getElem_map];exact h2.2.symm) (hp j i (by simpa using hj) (by simpa using hi) h)
 rw [this]
theorem CC {bs:List Bind} {v:ak} (h:v ∉ bs.map Bind.Var) (f:ak→Int):sv bs f v=f v:=by
 unfold sv;have:idxOf (iD 1 v) bs<0:=(pc (iD 1 v) bs).2 (List.any_eq_false.2 fun b hb=>by simp only [iD,Mm,beq_iff_eq,not_and];intro _ e;exact h (List.mem_map.2 ⟨b,hb,e⟩))
 rw [Mr this,cond_true]
theorem EA {x:ak} {by_ q:Linear} (hb:ax by_=true) (hv:ax q=true) (h:lY x by_ q=true) (f:ak→Int):mz f (vd x by_ q)=mz (upd f x (mz f by_)) q:=by rw [(nl hb hv h).2.1 f,Ex f x _ (gG hv)]
theorem Ki {x:ak} {by_:Linear} {bs:List Bind} (hk:∀ b∈bs,b.Kind=1) (hd:(bs.map Bind.Var).Nodup) (hx:x ∉ bs.map Bind.Var) (hb:ax by_=true) (hv:∀ b∈bs,ax b.Dim=true) (hc:∀ b∈bs,lY x by_ b.Dim=true) (f:ak→Int) :
 (∀ b∈bs.map (kZ x by_)++[one x by_],b.Kind=1)∧((bs.map (kZ x by_)++[one x by_]).map Bind.Var).Nodup∧sv (bs.map (kZ x by_)++[one x by_]) f=sv bs (upd f x (mz f by_)):=by
 have hvars:(bs.map (kZ x by_)).map Bind.Var=bs.map Bind.Var:=by rw [List.map_map];rfl
 have h1:∀ b∈bs.map (kZ x by_)++[one x by_],b.Kind=1:=fun b hb=>by
  rcases List.mem_append.1 hb with hb | hb
  ·obtain ⟨b0,hb0,rfl⟩:=List.mem_map.1 hb;exact hk b0 hb0
  ·have:b=one x by_:=by simpa using hb
   rw [this];rfl
 have h2:((bs.map (kZ x by_)++[one x by_]).map Bind.Var).Nodup:=by
  rw [List.map_append,hvars,List.nodup_append];exact ⟨hd,by simp,fun a ha b hb=>by
   have:b=x:=by simpa [one] using hb
   rw [this];rintro rfl;exact hx ha⟩
 refine ⟨h1,h2,funext fun v => ?_⟩;by_cases hvb:v∈bs.map Bind.Var
 ·obtain ⟨b,hb0,rfl⟩:=List.mem_map.1 hvb;rw [Io hk hd hb0];have hm:kZ x by_ b∈bs.map (kZ x by_)++[one x by_]:=List.mem_append.2 (.inl (List.mem_map.2 ⟨b,hb0,rfl⟩));have:=Io h1 h2 hm f;rw [show (kZ x by_ b).Var=b.Var from rfl] at this;rw [this];exact EA hb (hv b hb0) (hc b hb0) f
 ·rw [CC hvb];by_cases e:v=x
  ·subst e;have hm:one v by_∈bs.map (kZ v by_)++[one v by_]:=by simp
   have:=Io h1 h2 hm f;rw [show (one v by_).Var=v from rfl] at this;rw [this,B5];rfl
  ·rw [bM e];refine CC ?_ f;rw [List.map_append,hvars];simp only [List.mem_append,List.map_cons,List.map_nil,List.mem_singleton,not_or];exact ⟨hvb,e⟩
structure Inv (l:List Linear) (i:Nat) (qs:List Linear) (bs:List Bind):Prop where
 len:qs.length=l.length
 A:∀ j,j<i→∀ f,mz (sv bs f) (l.getD j fW)=0
 B:∀ j,i≤j→j<l.length→∃ k:Int,k≠0∧∀ f,mz (sv bs f) (l.getD j fW)=k*mz f (qs.getD j fW)
 C1:∀ b∈bs,∀ q∈qs.drop i,cf q b.Var=0
 C2:∀ b∈bs,∀ b'∈bs,cf b'.Dim b.Var=0
 D:(bs.map Bind.Var).Nodup
 K:∀ b∈bs,b.Kind=1
theorem ET {l:List Linear} {i n m:Nat} {qs:List Linear} {bs:List Bind} {x:ak} {by_:Linear} (h:nK n qs bs) (hI:Inv l i qs bs) (hi:i<qs.length) (hnm:n≤m) (hm:m<1000000000) (hx:dF x=true) (hxf:pr x<m) (hb:AJ m by_)
 (hxi:cf (qs.getD i fW) x≠0) (hbx:cf by_ x=0) (hbb:∀ b∈bs,cf by_ b.Var=0) {n':Nat} {qs':List Linear} {bs':List Bind} (e:xC x by_ i m qs bs = .ok n' qs' bs'):Inv l i qs' bs':=by
 obtain ⟨_,_,a3,a4,a5,a6,a7⟩:=z7 h hnm hm hx hxf hb e;have hmi:qs.getD i fW∈qs.drop i:=by rw [getD_at fW hi,List.drop_eq_getElem_cons hi];exact List.mem_cons_self ..
 have hxn:x ∉ bs.map Bind.Var:=fun hc=>by obtain ⟨b,hb,eb⟩:=List.mem_map.1 hc;have:=hI.C1 b hb _ hmi;rw [eb] at this;exact hxi this
 have hbv:∀ b∈bs,ax b.Dim=true:=fun b hb=>(h.bv b hb).1;have hsv:=fun f=>Ki hI.K hI.D hxn a5 hbv a6 f;have hq':∀ j,i≤j→j<qs.length→qs'.getD j fW=vd x by_ (qs.getD j fW)∧qs.getD j fW∈qs.drop i:=fun j h1 h2=>by
  constructor
  ·rw [a3,Mk,List.getElem?_append_right (by simp;omega),List.getElem?_map,List.getElem?_drop,getD_at fW h2];have:i+(j-(qs.take i).length)=j:=by simp;omega
   rw [this,Ml h2];rfl
  ·rw [getD_at fW h2];refine List.mem_iff_getElem?.2 ⟨j-i,?_⟩;rw [List.getElem?_drop,show i+(j-i)=j by omega,Ml h2]
 have hqv:∀ q∈qs.drop i,ax q=true:=fun q hq=>(h.qv q (List.mem_of_mem_drop hq)).1;have key:∀ q,ax q=true→lY x by_ q=true→(∀ b∈bs,cf q b.Var=0)→∀ b∈bs',cf (vd x by_ q) b.Var=0:=fun q hv hc hz b hb=>by
  rw [(nl a5 hv hc).2.2];rw [a4] at hb;rcases List.mem_append.1 hb with hb | hb
  ·obtain ⟨b0,hb0,rfl⟩:=List.mem_map.1 hb;have hne:ind b0.Var x=0:=if_neg fun e=>hxn (by rw [e];exact List.mem_map.2 ⟨b0,hb0,rfl⟩);show cf q b0.Var+cf q x*(cf by_ b0.Var-ind b0.Var x)=0;rw [hz b0 hb0,hbb b0 hb0,hne];simp
  ·have:b=one x by_:=by simpa using hb
   subst this;show cf q x+cf q x*(cf by_ x-ind x x)=0;rw [hbx,show ind x x=1 from if_pos rfl];omega
 refine ⟨?_,fun j hj f => ?_,fun j h1 h2 => ?_,fun b hb q hq => ?_,fun b hb b' hb' => ?_,by rw [a4];exact (hsv fun _=>0).2.1,by rw [a4];exact (hsv fun _=>0).1⟩
 ·rw [a3,← hI.len];simp;omega
 ·rw [a4,(hsv f).2.2];exact hI.A j hj _
 ·obtain ⟨k,hk,hB⟩:=hI.B j h1 h2;refine ⟨k,hk,fun f => ?_⟩;obtain ⟨e1,e2⟩:=hq' j h1 (by rw [hI.len];exact h2);rw [a4,(hsv f).2.2,hB,e1,EA a5 (hqv _ e2) (a7 _ e2) f]
 ·rw [a3,List.drop_append_of_le_length (by simp;omega)] at hq;have hq:q∈(qs.drop i).map (vd x by_):=by rw [List.drop_of_length_le (by simp;omega)] at hq;simpa using hq
  obtain ⟨q0,hq0,rfl⟩:=List.mem_map.1 hq;exact key q0 (hqv q0 hq0) (a7 q0 hq0) (fun b hb=>hI.C1 b hb q0 hq0) b hb
 ·rw [a4] at hb';rcases List.mem_append.1 hb' with hb' | hb'
  ·obtain ⟨b0,hb0,rfl⟩:=List.mem_map.1 hb';exact key b0.Dim (hbv b0 hb0) (a6 b0 hb0) (fun b hb=>hI.C2 b hb b0 hb0) b hb
  ·have:b'=one x by_:=by simpa using hb'
   subst this;rw [a4] at hb;rcases List.mem_append.1 hb with hb | hb
   ·obtain ⟨b0,hb0,rfl⟩:=List.mem_map.1 hb;exact hbb b0 hb0
   ·have:b=one x by_:=by simpa using hb
    subst this;exact hbx
end Go.Proofs.YtoebmibmmlcfiaaGreatDoor
