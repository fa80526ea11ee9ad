/- Plain laws: what the walked functions compute answers as the statement says. -/
import Derived.Test.YtadjhpbkknifeaaGreatDoorWkcPolyProduct
import Derived.Lib.ItoaNum
import Derived.Lib.ItoaMem
import Derived.Lib.AtoiAll
import Derived.Lib.AtoiAllCases
import Derived.Lib.ItoaLen
import Derived.KernelRfl
set_option linter.unusedSimpArgs false
set_option linter.unusedVariables false
namespace Go.Sh
open Go.Ab
section
variable {α σ ε ρ:Type}
theorem cH {body:Nat→Unit→Option (ff Unit ε ρ)} {fin:Nat→Unit→ε} {r:ρ} (p:Nat→Bool):∀ (k i:Nat) (u:Unit),(∀ j u,i≤j→j<i+k→body j u=some (bif p j then .go () else .ret r)) →
 cL body fin k i u=some (bif (List.range' i k).all p then .brk (fin (i+k) ()) else .ret r)
 | 0,i,u,h=>by simp [cL]
 | k+1,i,u,h=>by
  simp only [cL,h i u (Nat.le_refl _) (by omega),List.range'_succ,List.all_cons];cases hp:p i with
  | true =>
   simp only [cond_true,Option.bind_some,nD,Bool.true_and];rw [cH p k (i+1) () (fun j u h1 h2=>h j u (by omega) (by omega))];rw [show i+1+k=i+(k+1) by omega]
  | false=>simp [nD]
theorem uE {body:Nat→Unit→Option (ff Unit ε ρ)} {fin:Nat→Unit→ε} {f:Nat→ρ} (p:Nat→Bool):∀ (k i:Nat) (u:Unit),(∀ j u,i≤j→j<i+k→body j u=some (bif p j then .ret (f j) else .go ())) →
 cL body fin k i u=some (match (List.range' i k).find? p with | some j=>.ret (f j) | none=>.brk (fin (i+k) ()))
 | 0,i,u,h=>by simp [cL]
 | k+1,i,u,h=>by
  simp only [cL,h i u (Nat.le_refl _) (by omega),List.range'_succ,List.find?_cons];cases hp:p i with
  | false =>
   simp only [cond_false,Option.bind_some,nD];rw [uE p k (i+1) () (fun j u h1 h2=>h j u (by omega) (by omega))];rw [show i+1+k=i+(k+1) by omega]
  | true=>simp [nD]
theorem jh (q:α→Bool) (d:α) (l:List α):∀ (i:Nat),(List.range' i (l.length-i)).all (fun j=>q (l.getD j d))=(l.drop i).all q:=by
 intro i;by_cases h:i<l.length
 ·obtain ⟨k,hk⟩:∃ k,l.length-i=k+1:=⟨l.length-i-1,by omega⟩;have ih:=jh q d l (i+1);rw [hk,List.range'_succ,List.all_cons,List.drop_eq_getElem_cons h,List.all_cons];rw [show l.length-(i+1)=k by omega] at ih;rw [ih];simp [JM,JN h]
 ·rw [show l.length-i=0 by omega,List.drop_eq_nil_of_le (by omega)];rfl
 termination_by i=>l.length-i
theorem Ee (q:α→Bool) (d:α) (l:List α):(List.range' 0 (l.length-0)).all (fun j=>q (l.getD j d))=l.all q:=by have:=jh q d l 0;simpa using this
def idxOf (p:α→Bool):List α→Int
 | [] => -1
 | x::l=>bif p x then 0 else (let r:=idxOf p l;bif r == -1 then -1 else r+1)
theorem mj (p:α→Bool):∀ l:List α,-1≤idxOf p l
 | []=>by simp [idxOf]
 | x::l=>by
  have:=mj p l;simp only [idxOf];cases p x
  ·cases h:idxOf p l == -1
   ·simp;omega
   ·simp
  ·simp
theorem rF (p:α→Bool):∀ l:List α,(idxOf p l<0)↔l.any p=false
 | []=>by simp [idxOf]
 | x::l=>by
  have h1:=mj p l;have h2:=rF p l;simp only [idxOf,List.any_cons];cases hp:p x
  ·cases h:idxOf p l == -1
   ·have:idxOf p l ≠ -1:=by simpa using h
    simp only [cond_false,Bool.false_or];rw [← h2];omega
   ·have:idxOf p l = -1:=by simpa using h
    simp only [cond_false,cond_true,Bool.false_or];rw [← h2];omega
  ·simp
theorem zQ (p:α→Bool) (d:α) (l:List α):∀ (i:Nat),(match (List.range' i (l.length-i)).find? (fun j=>p (l.getD j d)) with | some j=>((j:Nat):Int) | none => -1)=(bif idxOf p (l.drop i) == -1 then -1 else idxOf p (l.drop i)+i):=by
 intro i;by_cases h:i<l.length
 ·obtain ⟨k,hk⟩:∃ k,l.length-i=k+1:=⟨l.length-i-1,by omega⟩;have ih:=zQ p d l (i+1);rw [hk,List.range'_succ,List.find?_cons,List.drop_eq_getElem_cons h];rw [show l.length-(i+1)=k by omega] at ih;have e:l.getD i d=l[i]:=by simp [JM,JN h]
  rw [e];simp only [idxOf];cases hp:p l[i]
  ·simp only [cond_false];rw [ih];cases hq:idxOf p (l.drop (i+1)) == -1
   ·have h3:idxOf p (l.drop (i+1)) ≠ -1:=by simpa using hq
    have h4:=mj p (l.drop (i+1));simp only [cond_false];have:((idxOf p (l.drop (i+1))+1) == -1)=false:=by simp;omega
    rw [this];simp only [cond_false];omega
   ·simp
  ·simp
 ·rw [show l.length-i=0 by omega,List.drop_eq_nil_of_le (by omega)];rfl
 termination_by i=>l.length-i
theorem rE (p:α→Bool) (d:α) (l:List α):(match (List.range' 0 (l.length-0)).find? (fun j=>p (l.getD j d)) with | some j=>((j:Nat):Int) | none => -1)=idxOf p l:=by
 rw [zQ p d l 0];simp only [List.drop_zero];cases h:idxOf p l == -1
 ·simp
 ·have:idxOf p l = -1:=by simpa using h
  simp [this]
end
def bU (b:UInt8):Bool:=decide (48≤b.toNat)&&decide (b.toNat≤57)
def jC (acc:Nat) (l:ah):Nat:=l.foldl (fun a c=>a*10+(c.toNat-48)) acc
theorem D4 (acc:Nat) (l:ah) (c:UInt8):jC acc (l++[c])=jC acc l*10+(c.toNat-48):=by simp [jC]
theorem w6:∀ (l:ah) (acc:Nat),l.all bU=true→(acc+1)*10 ^ l.length≤10 ^ 18→Lib.parseUint10 acc l = .ok (jC acc l)
 | [],acc,_,_=>rfl
 | c::l,acc,h,hb=>by
  simp only [List.all_cons,JO,bU,decide_eq_true_eq] at h;obtain ⟨⟨h1,h2⟩,h3⟩:=h;have hp:1≤10 ^ l.length:=Nat.one_le_pow _ _ (by decide);have hb2:(acc*10+10)*10 ^ l.length≤10 ^ 18:=by
   have:(acc+1)*10 ^ (l.length+1)=(acc*10+10)*10 ^ l.length:=by rw [Nat.pow_succ];rw [show (acc*10+10)=(acc+1)*10 by omega,Nat.mul_assoc,Nat.mul_comm 10]
   rw [← this];simpa using hb
  have hb3:acc*10+10≤10 ^ 18:=Nat.le_trans (Nat.le_mul_of_pos_right _ hp) hb2;have e18:(10:Nat) ^ 18=1000000000000000000:=by decide
  rw [e18] at hb3;simp only [Lib.parseUint10];rw [if_pos ⟨h1,h2⟩,if_neg (by omega),if_neg (by omega)];rw [w6 l _ (by simpa [bU] using h3) (Nat.le_trans (Nat.mul_le_mul_right _ (by omega)) hb2)];rfl
theorem AZ {c:UInt8} (h:bU c=true):UInt8.ofNat (48+(c.toNat-48))=c:=by simp only [bU,JO,decide_eq_true_eq] at h;rw [show 48+(c.toNat-48)=c.toNat by omega];exact UInt8.ofNat_toNat
theorem EG {α:Type} {P:List α→Prop} (h0:P []) (h1:∀ l c,P l→P (l++[c])) (l:List α):P l:=by
 have:∀ m:List α,P m.reverse:=by
  intro m;induction m with
  | nil=>exact h0
  | cons c m ih=>simpa using h1 _ c ih
 simpa using this l.reverse
theorem G7 (l:ah):l.all bU=true→l≠[]→l.head? ≠ some 48→1≤jC 0 l∧Lib.decDigits (jC 0 l)=l:=by
 refine EG (P:=fun l=>l.all bU=true→l≠[]→l.head? ≠ some 48→1≤jC 0 l∧Lib.decDigits (jC 0 l)=l) ?_ ?_ l
 ·intro _ h;exact absurd rfl h
 ·intro l c ih h _ hh;rw [List.all_append,JO] at h;have hc:bU c=true:=by simpa using h.2
  have hc':=hc;simp only [bU,JO,decide_eq_true_eq] at hc';rw [D4];by_cases hl:l=[]
  ·subst hl;have hne:c≠48:=by simpa using hh
   have:c.toNat≠48:=fun e=>hne (by rw [← UInt8.toNat_inj];simpa using e);simp only [jC,List.foldl_nil,Nat.zero_mul,Nat.zero_add,List.nil_append];refine ⟨by omega,?_⟩;rw [Lib.decDigits_one (by omega),AZ hc]
  ·have hh2:l.head? ≠ some 48:=by
    cases l with
    | nil=>exact absurd rfl hl
    | cons x l=>simpa using hh
   obtain ⟨i1,i2⟩:=ih h.1 hl hh2;refine ⟨by omega,?_⟩;rw [Lib.decDigits,dif_neg (by omega),show (jC 0 l*10+(c.toNat-48)) / 10=jC 0 l by omega,i2,show (jC 0 l*10+(c.toNat-48)) % 10=c.toNat-48 by omega,AZ hc]
theorem xL (u:Nat):(Lib.decDigits u).all bU=true∧(1≤u→(Lib.decDigits u).head? ≠ some 48)∧Lib.decDigits u≠[]:=by
 have key:∀ i,i<10→bU (UInt8.ofNat (48+i))=true:=by decide
 have key2:∀ i,i<10→1≤i→UInt8.ofNat (48+i)≠48:=by decide
 by_cases h:u<10
 ·rw [Lib.decDigits_one h];exact ⟨by simp only [List.all_cons,List.all_nil,Bool.and_true];exact key u h,fun h1=>by simpa using key2 u h h1,by simp⟩
 ·have ih:=xL (u / 10);rw [Lib.decDigits,dif_neg h];refine ⟨by rw [List.all_append,ih.1];simp only [List.all_cons,List.all_nil,Bool.and_true,Bool.true_and];exact key (u % 10) (by omega),fun _ => ?_,by simp⟩;have:=ih.2.1 (by omega);cases hd:Lib.decDigits (u / 10) with
  | nil=>exact absurd hd ih.2.2
  | cons x l=>rw [hd] at this;simpa using this
 termination_by u
 decreasing_by omega
end Go.Sh
namespace Go.Proofs.YtadjhpbkknifeaaGreatDoor
open Go.Ab Go.Sh
theorem aw {α:Type} {p:Prop} [Decidable p] {x:Option α} (h:p):bZ p x=x:=if_pos h
theorem dF {ε β:Type} {b:Bool} {e:ε} {r:β} {f:ε→Option β}:(some (bif b then Out.brk e else Out.ret r:Out ε β)).bind (aft f)=bif b then f e else some r:=by cases b<;>rfl
theorem all_congr {p q:Nat→Bool}:∀ (k i:Nat),(∀ j,i≤j→j<i+k→p j=q j)→(List.range' i k).all p=(List.range' i k).all q
 | 0,i,_=>rfl
 | k+1,i,h=>by rw [List.range'_succ,List.all_cons,List.all_cons,h i (Nat.le_refl _) (by omega),all_congr k (i+1) (fun j h1 h2=>h j (by omega) (by omega))]
theorem Fm (c k:UInt8) (n:Int) (hk:(k.toNat:Int)=n):((c.toNat:Int)==n)=(c==k):=by rw [Bool.eq_iff_iff];simp only [beq_iff_eq,← UInt8.toNat_inj];omega
def isLet (b:UInt8):Bool:=decide (97≤b.toNat)&&decide (b.toNat≤122)
theorem oF (x:UInt8):gE x=some (bU x):=by
 unfold gE bU;by_cases h:48≤x.toNat
 ·rw [JU (show (x.toNat:Int)≥48 by omega),JU h];simp only [cond_true,Bool.true_and,JX];rw [decide_eq_decide];omega
 ·rw [JS (show ¬ (x.toNat:Int)≥48 by omega),JS h];rfl
theorem tI (x:UInt8):gX x=some (isLet x):=by
 unfold gX isLet;by_cases h:97≤x.toNat
 ·rw [JU (show (x.toNat:Int)≥97 by omega),JU h];simp only [cond_true,Bool.true_and,JX];rw [decide_eq_decide];omega
 ·rw [JS (show ¬ (x.toNat:Int)≥97 by omega),JS h];rfl
def cO:ah→Bool
 | []=>false
 | c::r=>bif c==95 then (decide (1≤r.length)&&(decide (r.length≤9)&&(!(r.getD 0 0==48)&&r.all bU))) else (decide (r.length≤29)&&(isLet c&&r.all (fun b=>isLet b||bU b)))
theorem ph (s:ah):iv s=some (cO s):=by
 cases s with
 | nil=>rfl
 | cons c r =>
  unfold iv;have e1:((((c::r).length:Nat):Int)==0)=false:=by simp;omega
  rw [e1];simp only [cond_false];have e95:((((c::r).getD 0 0).toNat:Int)==95)=(c==95):=by rw [List.getD_cons_zero];exact Fm c 95 95 rfl
  by_cases h30:r.length≤29
  ·rw [JS (show ¬ (((c::r).length:Nat):Int)>30 by simp;omega)];simp only [cond_false];rw [aw (by simp),e95];simp only [cO];cases hc:c==95 with
   | true =>
    simp only [cond_true];by_cases h1:1≤r.length
    ·rw [JS (show ¬ (((c::r).length:Nat):Int)<2 by simp;omega),JU h1];simp only [cond_false,Bool.true_and];by_cases h9:r.length≤9
     ·rw [JS (show ¬ (((c::r).length:Nat):Int)>10 by simp;omega),JU h9];simp only [cond_false,Bool.true_and];rw [aw (by simp;omega)];have e48:((((c::r).getD 1 0).toNat:Int)==48)=(r.getD 0 0==48):=by rw [List.getD_cons_succ];exact Fm _ 48 48 rfl
      rw [e48];cases hd:r.getD 0 0==48 with
      | true=>simp
      | false =>
       simp only [cond_false,Bool.not_false,Bool.true_and];rw [cH (fun j=>bU ((c::r).getD j 0)) _ _ () (fun j u _ _=>by rw [oF];cases bU ((c::r).getD j 0)<;>rfl),dF,jh bU 0 (c::r) 1];simp only [List.drop_succ_cons,List.drop_zero];cases r.all bU<;>rfl
     ·rw [JU (show (((c::r).length:Nat):Int)>10 by simp;omega),JS h9];simp
    ·rw [JU (show (((c::r).length:Nat):Int)<2 by simp;omega),JS h1];simp
   | false =>
    simp only [cond_false];rw [JU h30];rw [cH (fun j=>isLet ((c::r).getD j 0)||(!(((j:Nat):Int)==0)&&bU ((c::r).getD j 0))) _ _ () (fun j u _ _=>by rw [tI,oF];cases isLet ((c::r).getD j 0)<;>cases bU ((c::r).getD j 0)<;>cases ((j:Nat):Int)==0<;>rfl),dF]
    have e:(List.range' 0 ((c::r).length-0)).all (fun j=>isLet ((c::r).getD j 0)||(!(((j:Nat):Int)==0)&&bU ((c::r).getD j 0)))=(isLet c&&r.all (fun b=>isLet b||bU b)):=by
     rw [show (c::r).length-0=r.length+1 by simp,List.range'_succ,List.all_cons];have e0:(isLet ((c::r).getD 0 0)||(!(((0:Nat):Int)==0)&&bU ((c::r).getD 0 0)))=isLet c:=by simp
     rw [e0];congr 1;rw [all_congr (q:=fun j=>(fun b=>isLet b||bU b) ((c::r).getD j 0)) _ _ (fun j h1 _=>by
      have:(((j:Nat):Int)==0)=false:=by simp;omega
      simp only [this,Bool.not_false,Bool.true_and])]
     have:=jh (fun b=>isLet b||bU b) 0 (c::r) 1;simpa using this
    rw [e];simp only [Bool.true_and];cases isLet c&&r.all (fun b=>isLet b||bU b)<;>rfl
  ·rw [JU (show (((c::r).length:Nat):Int)>30 by simp;omega)];simp only [cond_true,cO];rw [JS h30];have:¬ r.length≤9:=by omega
   rw [JS this];cases c==95<;>simp
theorem qe (s:ah) (c:UInt8):dV s [c]=some (match s with | []=>false | x::_=>x==c):=by
 unfold dV bX;cases s with
 | nil=>rfl
 | cons x l =>
  rw [JU (by simp;omega)];simp only [cond_true];rw [aw (by simp)];simp
theorem EP {r:ah} (h0:r≠[]) (h:r.all bU=true) (hl:r.length≤9):Lib.atoiAll r = .ok (jC 0 r:Int)∧jC 0 r<10000000000:=by
 cases r with
 | nil=>exact absurd rfl h0
 | cons c r =>
  have hc:bU c=true:=by simp only [List.all_cons,JO] at h;exact h.1
  have hc2:=hc;simp only [bU,JO,decide_eq_true_eq] at hc2;have hp:(10:Nat) ^ (c::r).length≤10 ^ 9:=Nat.pow_le_pow_right (by decide) hl;have hv:=w6 (c::r) 0 h (by
   rw [Nat.zero_add,Nat.one_mul];exact Nat.le_trans hp (by decide))
  have hb:∀ (l:ah) (a:Nat),l.all bU=true→jC a l+1≤(a+1)*10 ^ l.length:=by
   intro l;induction l with
   | nil=>intro a _;simp [jC]
   | cons x l ih =>
    intro a hx;simp only [List.all_cons,JO,bU,decide_eq_true_eq] at hx;have:=ih (a*10+(x.toNat-48)) (by simpa [bU] using hx.2);have e:jC a (x::l)=jC (a*10+(x.toNat-48)) l:=rfl;rw [e];refine Nat.le_trans this ?_;rw [List.length_cons,Nat.pow_succ,Nat.mul_comm (10 ^ l.length) 10,← Nat.mul_assoc];exact Nat.mul_le_mul_right _ (by omega)
  have hlt:=hb (c::r) 0 h;rw [Nat.zero_add,Nat.one_mul] at hlt;have h9:(10:Nat) ^ 9=1000000000:=by decide
  rw [h9] at hp;refine ⟨?_,by omega⟩;rw [Lib.atoiAll_plain c r (by omega) (by omega)];have:Lib.parseMag (c::r) = .ok (jC 0 (c::r)):=by unfold Lib.parseMag;rw [if_neg (by simp)];exact hv
  rw [this];simp only [Lib.signless];rw [if_neg (by omega)]
theorem nQ (s:ah) (hs:s.length≤1000000):gz s=some (cO s):=by
 unfold gz;rw [qe];cases s with
 | nil=>rfl
 | cons c r =>
  simp only [Option.bind_some,cO];have hr:r.length≤1000000:=by simp at hs;omega
  cases hc:c==95 with
  | true =>
   simp only [cond_true];rw [aw (by simp)];simp only [List.drop_succ_cons,List.drop_zero,ky];rw [aw (by omega)];simp only [Option.bind_some];by_cases h9:r.length≤9
   ·by_cases h1:1≤r.length
    ·rw [JU h1,JU h9];simp only [Bool.true_and];have hne:r≠[]:=by intro e;subst e;simp at h1
     have hhd:(r.getD 0 0==48)=decide (r.head? = some 48):=by
      cases r with
      | nil=>exact absurd rfl hne
      | cons x l=>simp;rw [Bool.eq_iff_iff];simp
     have key:∀ v:Int,0<v→v≤9223372036854775807→fY v=some (Lib.decDigits v.toNat)∨True:=fun _ _ _=>.inr trivial;by_cases hall:r.all bU=true
     ·obtain ⟨a1,a2⟩:=EP hne hall h9;simp only [tj,a1,cond_true];by_cases h48:r.head? = some 48
      ·
       rw [hhd,JU h48];simp only [Bool.not_true,Bool.false_and];by_cases hz:jC 0 r=0
       ·rw [hz];rfl
       ·rw [JU (by omega:(jC 0 r:Int)>0),JU (by simp;omega:(((c::r).length:Nat):Int)≤10)];simp only [cond_true,fY];have hlen:(Lib.itoa (jC 0 r:Int)).length≤21:=Lib.itoa_length_le _ (by omega) (by omega);rw [aw ⟨by omega,by omega,by omega⟩];simp only [Option.bind_some,JX];rw [Lib.itoa_nonneg,beq_eq_false_iff_ne];intro e;exact (xL (jC 0 r)).2.1 (by omega) (by rw [e];exact h48)
      ·obtain ⟨d1,d2⟩:=G7 r hall hne h48;rw [hhd,JS h48,hall];simp only [Bool.not_false,Bool.true_and];rw [JU (by omega:(jC 0 r:Int)>0),JU (by simp;omega:(((c::r).length:Nat):Int)≤10)];simp only [cond_true,fY];have hlen:(Lib.itoa (jC 0 r:Int)).length≤21:=Lib.itoa_length_le _ (by omega) (by omega);rw [aw ⟨by omega,by omega,by omega⟩];simp only [Option.bind_some,JX];rw [Lib.itoa_nonneg,d2];simp
     ·have hall:r.all bU=false:=by simpa using hall
      rw [hall];simp only [Bool.and_false];cases ha:Lib.atoiAll r with
      | ok v =>
       simp only [tj,ha,cond_true];by_cases hv:v>0
       ·rw [JU hv,JU (by simp;omega:(((c::r).length:Nat):Int)≤10)];simp only [cond_true,fY];have hvb:v≤9223372036854775807:=by
         cases r with
         | nil=>exact absurd rfl hne
         | cons x l =>
          unfold Lib.atoiAll at ha;simp only at ha;split at ha
          ·cases ha
          ·cases ha
          ·split at ha
           ·cases ha
           ·split at ha
            ·cases ha
            ·rename_i h1 h2;simp only [Lib.NumEnd.ok.injEq] at ha;rw [← ha];split
             ·omega
             ·rename_i h3;have:=h1;simp only [h3,not_false_eq_true,true_and] at this;omega
        have hlen:(Lib.itoa v).length≤21:=Lib.itoa_length_le _ (by omega) hvb;rw [aw ⟨by omega,hvb,by omega⟩];simp only [Option.bind_some,JX];rw [beq_eq_false_iff_ne];intro e;have:(Lib.itoa v).all bU=true:=by unfold Lib.itoa;rw [if_neg (by omega)];exact (xL _).1
        rw [e,hall] at this;cases this
       ·rw [JS hv];rfl
      | range=>simp [tj,ha]
      | _=>simp [tj,ha]
    ·have:r=[]:=List.eq_nil_of_length_eq_zero (by omega);subst this;rfl
   ·rw [JS h9,JS (by simp;omega:¬ (((c::r).length:Nat):Int)≤10)];simp only [cond_false,Bool.false_and,Bool.and_false];cases (tj r).2<;>cases decide ((tj r).1>0)<;>rfl
  | false =>
   simp only [cond_false];rw [cH (fun j=>isLet ((c::r).getD j 0)||(!(((j:Nat):Int)==0)&&bU ((c::r).getD j 0))) _ _ () (fun j u _ _=>by
    simp only [isLet,bU];generalize (c::r).getD j 0=x;by_cases h1:(x.toNat:Int)<97
    ·rw [JU h1,JS (show ¬ 97≤x.toNat by omega)];simp only [cond_true,Bool.false_and,Bool.false_or];cases ((j:Nat):Int)==0
     ·simp only [cond_false,Bool.not_false,Bool.true_and];by_cases h2:(x.toNat:Int)<48
      ·rw [JU h2,JS (show ¬ 48≤x.toNat by omega)];rfl
      ·rw [JS h2,JU (show 48≤x.toNat by omega)];by_cases h3:(x.toNat:Int)>57
       ·rw [JU h3,JS (show ¬ x.toNat≤57 by omega)];rfl
       ·rw [JS h3,JU (show x.toNat≤57 by omega)];rfl
     ·rfl
    ·rw [JS h1,JU (show 97≤x.toNat by omega)];simp only [cond_false,Bool.true_and];by_cases h2:(x.toNat:Int)>122
     ·rw [JU h2,JS (show ¬ x.toNat≤122 by omega),JS (show ¬ x.toNat≤57 by omega),JS (show ¬ (x.toNat:Int)<48 by omega),JU (show (x.toNat:Int)>57 by omega)];cases ((j:Nat):Int)==0<;>simp [Sh.aft]
     ·rw [JS h2,JU (show x.toNat≤122 by omega)];simp [Sh.aft]),dF]
   have e:(List.range' 0 ((c::r).length-0)).all (fun j=>isLet ((c::r).getD j 0)||(!(((j:Nat):Int)==0)&&bU ((c::r).getD j 0)))=(isLet c&&r.all (fun b=>isLet b||bU b)):=by
    rw [show (c::r).length-0=r.length+1 by simp,List.range'_succ,List.all_cons];have e0:(isLet ((c::r).getD 0 0)||(!(((0:Nat):Int)==0)&&bU ((c::r).getD 0 0)))=isLet c:=by simp
    rw [e0];congr 1;rw [all_congr (q:=fun j=>(fun b=>isLet b||bU b) ((c::r).getD j 0)) _ _ (fun j h1 _=>by
     have:(((j:Nat):Int)==0)=false:=by simp;omega
     simp only [this,Bool.not_false,Bool.true_and])]
    have:=jh (fun b=>isLet b||bU b) 0 (c::r) 1;simpa using this
   rw [e];have e2:((c::r)==[])=false:=rfl;rw [e2];simp only [cond_false];by_cases h30:r.length≤29
   ·rw [JU h30,JU (by simp;omega:(((c::r).length:Nat):Int)≤30)];cases isLet c&&r.all (fun b=>isLet b||bU b)<;>rfl
   ·rw [JS h30,JS (by simp;omega:¬ (((c::r).length:Nat):Int)≤30)];cases isLet c&&r.all (fun b=>isLet b||bU b)<;>rfl
end Go.Proofs.YtadjhpbkknifeaaGreatDoor
namespace Go.Sh
theorem iW {α:Type} [DecidableEq α]:∀ (l l':List α),l.Nodup→(∀ x∈l,x∈l')→l.length≤l'.length
 | [],l',_,_=>by simp
 | a::l,l',h,hs=>by
  rw [List.nodup_cons] at h;have ha:a∈l':=hs a (by simp);have ih:=iW l (l'.erase a) h.2 (fun x hx=>by have hne:x≠a:=fun e=>h.1 (e ▸ hx);exact (List.mem_erase_of_ne hne).2 (hs x (by simp [hx])))
  rw [List.length_erase_of_mem ha] at ih;have:0<l'.length:=List.length_pos_of_mem ha;simp only [List.length_cons];omega
theorem HE {V σ ε β:Type} {m:List (ah×V)} {body:ah×V→σ→Option (ff σ ε β)} {K:σ→Prop} {J:β→Prop} (I:List Nat→σ→Prop) (g:σ→ah×V→σ)
 (hstep:∀ seen s i (h:i<m.length),seen.Nodup→i ∉ seen→(∀ j∈seen,j<m.length)→I seen s→body m[i] s=some (.go (g s m[i]))∧I (seen++[i]) (g s m[i]))
 (hend:∀ seen s,seen.Nodup→(∀ i,i<m.length→i∈seen)→(∀ i∈seen,i<m.length)→I seen s→K s) :
 ∀ (n:Nat) (seen:List Nat) (s:σ),seen.Nodup→(∀ i∈seen,i<m.length)→n+seen.length=m.length→I seen s→MR m body K J n seen s
 | 0,seen,s,h1,h2,h3,hI=>by
  have hall:∀ i,i<m.length→i∈seen:=by
   intro i hi;refine Classical.byContradiction fun hn => ?_;have:=iW (i::seen) (List.range m.length) (List.nodup_cons.2 ⟨hn,h1⟩) (fun x hx=>by
    rcases List.mem_cons.1 hx with rfl | hx
    ·simpa using hi
    ·simpa using h2 x hx)
   simp at this;omega
  exact ⟨hall,hend seen s h1 hall h2 hI⟩
 | n+1,seen,s,h1,h2,h3,hI=>by
  refine ⟨?_,fun i hi hn => ?_⟩
  ·refine Classical.byContradiction fun hn => ?_;have:=iW (List.range m.length) seen List.nodup_range (fun x hx=>Classical.byContradiction fun hx2=>hn ⟨x,by simpa using hx,hx2⟩);simp at this;omega
  ·obtain ⟨e1,e2⟩:=hstep seen s i hi h1 hn h2 hI;refine ⟨_,e1,?_⟩;have hnd:(seen++[i]).Nodup:=by
    rw [List.nodup_append];exact ⟨h1,by simp,fun a ha b hb=>by
     have:b=i:=by simpa using hb
     subst this;intro e;subst e;exact hn ha⟩
   exact HE I g hstep hend n (seen++[i]) _ hnd (fun j hj=>by
    rcases List.mem_append.1 hj with hj | hj
    ·exact h2 j hj
    ·have:j=i:=by simpa using hj
     subst this;exact hi) (by simp;omega) e2
def mA (x y:ah):Bool:=decide (x≤y)
theorem mr (a b c:ah) (h1:mA a b=true) (h2:mA b c=true):mA a c=true:=by simp only [mA,decide_eq_true_eq] at *;exact List.le_trans h1 h2
theorem rv (a b:ah):(mA a b||mA b a)=true:=by simp only [mA,Bool.or_eq_true,decide_eq_true_eq];exact List.le_total a b
theorem uU (a b:ah) (h1:mA a b=true) (h2:mA b a=true):a=b:=by simp only [mA,decide_eq_true_eq] at *;exact List.le_antisymm h1 h2
theorem sE (l:List ah):(Go.Ab.sortS l).Pairwise (fun a b=>mA a b=true):=List.pairwise_mergeSort mr rv l
theorem oU (l:List ah):(Go.Ab.sortS l).Perm l:=List.mergeSort_perm l _
theorem yN {l r:List ah} (hs:r.Pairwise (fun a b=>mA a b=true)) (hp:r.Perm l):Go.Ab.sortS l=r :=
 List.Perm.eq_of_pairwise (fun a b _ _=>uU a b) (sE l) hs ((oU l).trans hp.symm)
def BE (x:ah):List ah→List ah
 | []=>[x]
 | y::l=>bif mA x y then x::y::l else y::BE x l
def bQ:List ah→List ah
 | []=>[]
 | x::l=>BE x (bQ l)
theorem rN (x:ah):∀ l,(BE x l).Perm (x::l)
 | []=>.refl _
 | y::l=>by
  simp only [BE];cases mA x y
  ·exact ((rN x l).cons y).trans (.swap _ _ _)
  ·exact .refl _
theorem sU (x:ah):∀ {l:List ah},l.Pairwise (fun a b=>mA a b=true)→(BE x l).Pairwise (fun a b=>mA a b=true)
 | [],_=>by simp [BE]
 | y::l,h=>by
  rw [List.pairwise_cons] at h;simp only [BE];cases hxy:mA x y
  ·simp only [cond_false,List.pairwise_cons];have hyx:mA y x=true:=by have:=rv x y;rw [hxy] at this;simpa using this
   refine ⟨fun a ha => ?_,sU x h.2⟩;rcases List.mem_cons.1 ((rN x l).mem_iff.1 ha) with rfl | ha
   ·exact hyx
   ·exact h.1 a ha
  ·simp only [cond_true,List.pairwise_cons];refine ⟨fun a ha => ?_,h⟩;rcases List.mem_cons.1 ha with rfl | ha
   ·exact hxy
   ·exact mr _ _ _ hxy (h.1 a ha)
theorem iq:∀ l,(bQ l).Perm l
 | []=>.refl _
 | x::l=>(rN x _).trans ((iq l).cons x)
theorem qI:∀ l,(bQ l).Pairwise (fun a b=>mA a b=true)
 | []=>List.Pairwise.nil
 | x::l=>sU x (qI l)
theorem ua (l:List ah):Go.Ab.sortS l=bQ l:=yN (qI l) (iq l)
section
variable {α σ ε ρ:Type}
def cT (g:α→σ→ff σ ε ρ) (fin:σ→ε):List α→σ→Out ε ρ
 | [],s=>.brk (fin s)
 | x::l,s=>match g x s with | .go s'=>cT g fin l s' | .brk e=>.brk e | .ret r=>.ret r
theorem z8 {body:Nat→σ→Option (ff σ ε ρ)} {fin:Nat→σ→ε} {f:σ→ε} (d:α) (l:List α) (g:α→σ→ff σ ε ρ) (I:Nat→σ→Prop) (hf:∀ i s,fin i s=f s) :
 ∀ (i:Nat) (s:σ),I i s→(∀ j s,i≤j→j<l.length→I j s→body j s=some (g (l.getD j d) s)∧∀ s',g (l.getD j d) s = .go s'→I (j+1) s') →
 cL body fin (l.length-i) i s=some (cT g f (l.drop i) s):=by
 intro i s hI h;by_cases hi:i<l.length
 ·obtain ⟨k,hk⟩:∃ k,l.length-i=k+1:=⟨l.length-i-1,by omega⟩;obtain ⟨h1,h2⟩:=h i s (Nat.le_refl _) hi hI;have hx:l.getD i d=l[i]:=by simp [JM,JN hi]
  rw [hx] at h1 h2;rw [hk,List.drop_eq_getElem_cons hi];simp only [cL,h1,Option.bind_some,cT];cases hg:g l[i] s with
  | go s' =>
   have ih:=z8 d l g I hf (i+1) s' (h2 s' hg) (fun j s h1 h2=>h j s (by omega) h2);rw [show l.length-(i+1)=k by omega] at ih;exact ih
  | brk e=>rfl
  | ret r=>rfl
 ·rw [show l.length-i=0 by omega,List.drop_eq_nil_of_le (by omega)];simp [cL,cT,hf]
 termination_by i=>l.length-i
theorem fK {body:Nat→σ→Option (ff σ ε ρ)} {fin:Nat→σ→ε} {f:σ→ε} (d:α) (l:List α) (g:α→σ→ff σ ε ρ) (I:Nat→σ→Prop) (hf:∀ i s,fin i s=f s) (s:σ) (hI:I 0 s)
 (h:∀ j s,j<l.length→I j s→body j s=some (g (l.getD j d) s)∧∀ s',g (l.getD j d) s = .go s'→I (j+1) s') :
 cL body fin (l.length-0) 0 s=some (cT g f l s):=by
 have:=z8 d l g I hf 0 s hI (fun j s _ h1 h2=>h j s h1 h2);simpa using this
theorem rZ {body:Nat→Unit→Option (ff Unit Nat ρ)} (p:Nat→Bool):∀ (k i:Nat) (u:Unit),(∀ j u,i≤j→j<i+k→body j u=some (bif p j then .brk j else .go ())) →
 cL body (fun i _=>i) k i u=some (.brk (match (List.range' i k).find? p with | some j=>j | none=>i+k))
 | 0,i,u,h=>by simp [cL]
 | k+1,i,u,h=>by
  simp only [cL,h i u (Nat.le_refl _) (by omega),List.range'_succ,List.find?_cons];cases hp:p i with
  | false =>
   simp only [cond_false,Option.bind_some,nD];rw [rZ p k (i+1) () (fun j u h1 h2=>h j u (by omega) (by omega))];rw [show i+1+k=i+(k+1) by omega]
  | true=>simp [nD]
theorem xu (p:α→Bool) (d:α):∀ l:List α,0≤idxOf p l→(idxOf p l).toNat<l.length∧p (l.getD (idxOf p l).toNat d)=true
 | [],h=>by simp [idxOf] at h
 | x::l,h=>by
  cases hp:p x with
  | true=>simp [idxOf,hp]
  | false =>
   have hge:=mj p l;simp only [idxOf,hp,cond_false] at h ⊢;by_cases hm:idxOf p l = -1
   ·rw [hm] at h;simp at h
   ·have e:(idxOf p l == -1)=false:=by simpa using hm
    rw [e,cond_false];obtain ⟨h1,h2⟩:=xu p d l (by omega);have e2:(idxOf p l+1).toNat=(idxOf p l).toNat+1:=by omega
    rw [e2];exact ⟨by simp;omega,by simpa using h2⟩
theorem Ec (p:α→Bool) (d:α) (l:List α):((match (List.range' 0 (l.length-0)).find? (fun j=>p (l.getD j d)) with | some j=>j | none=>0+(l.length-0)):Nat)=(bif decide (idxOf p l<0) then l.length else (idxOf p l).toNat):=by
 have h:=rE p d l;have hge:=mj p l;cases hf:(List.range' 0 (l.length-0)).find? (fun j=>p (l.getD j d)) with
 | none =>
  rw [hf] at h;have h:(-1:Int)=idxOf p l:=h;rw [← h];simp
 | some j =>
  rw [hf] at h;have h:((j:Nat):Int)=idxOf p l:=h;rw [← h,JS (by omega)];simp
end
end Go.Sh
namespace Go.Proofs.YtadjhpbkknifeaaGreatDoor
open Go.Ab Go.Sh
theorem ax {n:Int} (h1 : -9223372036854775808≤n) (h2:n≤9223372036854775807):aS n=n:=by unfold aS IntKind.wrap IntKind.bits IntKind.signed;simp;omega
theorem Ca (x:ah):cmp_isNaN_string x=some false:=by simp [cmp_isNaN_string]
theorem GW (x y:ah):cmp_Less_string x y=some (Op.bytesLess x y):=by simp [cmp_Less_string,Ca]
theorem Ay (x y:ah):cM x y=some (fR x y):=by
 simp only [cM,Ca,Option.bind_some,cond_false];cases h:Op.bytesLess x y with
 | true=>simp [fR,h]
 | false =>
  rcases pU x y with h1 | h1 | h1
  ·rw [h] at h1;cases h1
  ·subst h1;simp [fR,h]
  ·have hne:(x==y)=false:=by rw [beq_eq_false_iff_ne];intro e;subst e;rw [h] at h1;cases h1
   simp [fR,h,h1,hne]
theorem Be (a b:List ah):cJ a b=some (cmpL a b):=by
 unfold cJ;generalize hb:(fun (i37:Nat) (s36:Unit)=>_:Nat→Unit→Option (ff Unit Unit Int))=body;have key:∀ k i u,i+k=a.length→i≤b.length→(∀ j,j<i→a.getD j []=b.getD j [])→(cL body (fun _ _=>()) k i u).bind (aft fun _=>bif decide (((a.length:Nat):Int)<((b.length:Nat):Int)) then some (-1) else some 0)=some (cmpL a b):=by
  intro k;induction k with
  | zero =>
   intro i u h1 h2 hA;simp only [cL,Option.bind_some,Sh.aft];by_cases h:a.length<b.length
   ·rw [JU (by omega),yf hA (by omega) (by omega)];rfl
   ·rw [JS (by omega),cmpL_eq hA (by omega) (by omega)];rfl
  | succ k ih =>
   intro i u h1 h2 hA;have e0:body i u=bif decide (((i:Nat):Int)≥((b.length:Nat):Int)) then some (.ret 1) else (cM (a.getD i []) (b.getD i [])).bind fun y=>bif (y==0) then some (.go ()) else some (.ret y):=by rw [← hb]
   simp only [cL];rw [e0];by_cases hl:b.length≤i
   ·rw [JU (by omega),yK hA (by omega) (by omega)];rfl
   ·rw [JS (by omega)];simp only [cond_false,Ay,Option.bind_some];by_cases hz:fR (a.getD i []) (b.getD i [])=0
    ·rw [hz];simp only [beq_self_eq_true,cond_true,Option.bind_some,nD];exact ih (i+1) () (by omega) (by omega) fun j hj=>by
      by_cases e:j=i
      ·subst e;exact mu.1 hz
      ·exact hA j (by omega)
    ·rw [beq_eq_false_iff_ne.2 hz,tV hA (by omega) (by omega) hz];simp [nD,Sh.aft]
 exact key (a.length-0) 0 () (by omega) (Nat.zero_le _) (fun j hj=>absurd hj (Nat.not_lt_zero _))
theorem uN (a b:List ah) (ha:a.length≤1000000) (hb2:b.length≤1000000):∃ r,cW a b=some r∧(0≤r↔0≤cmpL a b)∧(r=0↔cmpL a b=0):=by
 unfold cW;generalize hb:(fun (i47:Nat) (s46:Unit)=>_:Nat→Unit→Option (ff Unit Unit Int))=body;have hend:aS (((a.length:Nat):Int)-((b.length:Nat):Int))=((a.length:Nat):Int)-((b.length:Nat):Int):=ax (by omega) (by omega);have key:∀ k i u,i+k=a.length→i≤b.length→(∀ j,j<i→a.getD j []=b.getD j [])→∃ r,(cL body (fun _ _=>()) k i u).bind (aft fun _=>some (aS (((a.length:Nat):Int)-((b.length:Nat):Int))))=some r∧(0≤r↔0≤cmpL a b)∧(r=0↔cmpL a b=0):=by
  intro k;induction k with
  | zero =>
   intro i u h1 h2 hA;refine ⟨_,rfl,?_⟩;rw [hend];by_cases h:a.length<b.length
   ·rw [yf hA (by omega) (by omega)];omega
   ·rw [cmpL_eq hA (by omega) (by omega)];omega
  | succ k ih =>
   intro i u h1 h2 hA;have e0:body i u=bif decide (((i:Nat):Int)<((b.length:Nat):Int)) then (bif (Op.bytesLess (a.getD i []) (b.getD i [])) then some (.ret (-1)) else (bif (Op.bytesLess (a.getD i []) (b.getD i [])||(a.getD i [])==(b.getD i [])) then some (.go ()) else some (.ret 1))) else some (.brk ()):=by rw [← hb]
   simp only [cL];rw [e0];by_cases hl:b.length≤i
   ·rw [JS (by omega)];refine ⟨_,rfl,?_⟩;rw [hend,yK hA (by omega) (by omega)];omega
   ·rw [JU (by omega)];simp only [cond_true];rcases pU (a.getD i []) (b.getD i []) with h3 | h3 | h3
    ·rw [h3,tV hA (by omega) (by omega) (by have:=iY.2 h3;omega)];refine ⟨_,rfl,?_⟩;have:=iY.2 h3;omega
    ·rw [h3,eC];simp only [cond_false,Bool.false_or,beq_self_eq_true,cond_true,Option.bind_some,nD];exact ih (i+1) () (by omega) (by omega) fun j hj=>by
      by_cases e:j=i
      ·subst e;exact h3
      ·exact hA j (by omega)
    ·have hne:(a.getD i []==b.getD i [])=false:=by rw [beq_eq_false_iff_ne];intro e;rw [e,eC] at h3;cases h3
     rw [oD h3,hne,tV hA (by omega) (by omega) (by have:=oe.2 h3;omega)];refine ⟨_,rfl,?_⟩;have:=oe.2 h3;omega
 exact key (a.length-0) 0 () (by omega) (Nat.zero_le _) (fun j hj=>absurd hj (Nat.not_lt_zero _))
def uj (x:List ah):Bool:=(List.range' 1 (x.length-1)).all fun j => !(Op.bytesLess (x.getD j []) (x.getD (j-1) []))
theorem zw (n:Nat):List.range' 1 (n+1)=List.range' 1 n++[n+1]:=by rw [List.range'_concat];simp [Nat.add_comm]
theorem A0 (x:List ah) (hx:x.length≤1000000):cA x=some (uj x):=by
 unfold cA;generalize hb:(fun (s32:Int)=>_:Int→Option (ff Int Unit Bool))=body;have key:∀ k fuel,k<x.length∨k=0→k<fuel→(mC body fuel ((k:Nat):Int)).bind (aft fun _=>some true)=some ((List.range' 1 k).all fun j => !(Op.bytesLess (x.getD j []) (x.getD (j-1) []))):=by
  intro k;induction k with
  | zero =>
   intro fuel _ hf;obtain ⟨f,rfl⟩:∃ f,fuel=f+1:=⟨fuel-1,by omega⟩;have e0:body ((0:Nat):Int)=some (.brk ()):=by rw [← hb];rfl
   simp only [mC,e0,Option.bind_some,nD,Sh.aft];rfl
  | succ k ih =>
   intro fuel hk hf;obtain ⟨f,rfl⟩:∃ f,fuel=f+1:=⟨fuel-1,by omega⟩;have ew:aS (((k+1:Nat):Int)-1)=((k:Nat):Int):=by rw [ax (by omega) (by omega)];omega
   have e0:body ((k+1:Nat):Int)=bif (Op.bytesLess (x.getD (k+1) []) (x.getD k [])) then some (.ret false) else some (.go ((k:Nat):Int)):=by rw [← hb];simp only [ew];rw [JU (by omega)];simp only [cond_true];rw [aw (by omega),aw (by omega),GW];simp
   simp only [mC,e0];rw [zw,List.all_append];cases h:Op.bytesLess (x.getD (k+1) []) (x.getD k []) with
   | true=>simp only [cond_true,Option.bind_some,nD,Sh.aft,List.all_cons,List.all_nil,Bool.and_true,Nat.add_sub_cancel,h,Bool.not_true,Bool.and_false]
   | false =>
    simp only [cond_false,Option.bind_some,nD];rw [ih f (by omega) (by omega)];simp only [List.all_cons,List.all_nil,Bool.and_true,Nat.add_sub_cancel,h,Bool.not_false]
 by_cases h0:x.length=0
 ·have ex:x=[]:=List.eq_nil_of_length_eq_zero h0;subst ex;have e0:body (aS (-1))=some (.brk ()):=by rw [← hb];rfl
  have e1:aS ((([]:List ah).length:Nat)-1:Int)=aS (-1):=rfl;have e2:∀ fuel,(mC body (fuel+1) (aS (-1))).bind (Sh.aft fun _=>some true)=some true:=fun fuel=>by simp only [mC,e0,Option.bind_some,nD,Sh.aft]
  exact e2 4294967295
 ·have ew:aS (((x.length:Nat):Int)-1)=((x.length-1:Nat):Int):=by rw [ax (by omega) (by omega)];omega
  rw [ew];exact key (x.length-1) _ (by omega) (by omega)
theorem contains_eq (x:List ah) (hN:∀ v∈x,v.length≤1000000):bR x=some (!(x.all cO)):=by
 have h1:∀ v∈x,gQ v=some (!(cO v)):=fun v hv=>by unfold gQ;rw [nQ v (hN v hv)];rfl
 unfold bR da;rw [uE (f:=fun j=>((j:Nat):Int)) (fun j => !(cO (x.getD j []))) _ _ () (fun j u _ hj=>by rw [h1 (x.getD j []) (by rw [JM,JN (by omega)];exact List.getElem_mem _)];cases cO (x.getD j [])<;>rfl)]
 have h2:=rE (fun v => !(cO v)) [] x;have h3:=rF (fun v => !(cO v)) x;have h4:x.any (fun v => !(cO v)) = !(x.all cO):=by rw [List.not_all_eq_any_not]
 generalize (List.range' 0 (x.length-0)).find? (fun j => !(cO (x.getD j [])))=o at h2 ⊢;cases o with
 | none =>
  simp only [Option.bind_some,Sh.aft];rw [← h2] at h3;rw [← h4,h3.1 (by decide)];rfl
 | some j =>
  simp only [Option.bind_some,Sh.aft];rw [← h2] at h3;have:x.any (fun v => !(cO v))=true:=by
   cases h5:x.any (fun v => !(cO v)) with
   | true=>rfl
   | false=>have h6:=h3.2 h5;simp only at h6;omega
  rw [← h4,this];simp
def A5 (m:aa):Bool := !(m.Coef==0)&&(decide (-1099511627776≤m.Coef)&&(decide (m.Coef≤1099511627776)&&(decide (m.Vars.length≤8)&&(uj m.Vars&&m.Vars.all cO))))
def aQ (p:List aa) (j:Nat):aa:=p.getD j ⟨0,[]⟩
def iB (p:List aa) (j:Nat):Bool:=A5 (aQ p j)&&(((j:Nat):Int)==0||decide (cmpL (aQ p (j-1)).Vars (aQ p j).Vars<0))
def aL (p:List aa):Bool:=(List.range' 0 (p.length-0)).all (iB p)&&decide (p.length≤60)
def Bd (p:List aa):Prop:=p.length≤1000000∧∀ m∈p,m.Vars.length≤1000000∧∀ v∈m.Vars,v.length≤1000000
theorem cy {p:List aa} {j:Nat} (h:j<p.length):aQ p j∈p:=by unfold aQ;rw [JM,JN h];exact List.getElem_mem _
theorem b9 (p:List aa) (hB:Bd p):bo p=some (aL p):=by
 unfold bo;rw [cH (iB p) _ _ () (fun j u _ hj=>by
  have hm:=hB.2 _ (cy (p:=p) (j:=j) (by omega));have hw:∀ (h:0<j),aS (((j:Nat):Int)-1)=((j-1:Nat):Int):=fun h=>by rw [ax (by have:=hB.1;omega) (by have:=hB.1;omega)];omega
  show _=_;unfold iB A5;simp only [show p.getD j ⟨0,[]⟩=aQ p j from rfl,A0 _ hm.1,contains_eq _ hm.2,Option.bind_some];by_cases hj0:0<j
  ·have hjz:(((j:Nat):Int)==0)=false:=by simp;omega
   rw [hw hj0,aw (by omega),hjz,JU (show ((j:Nat):Int)>0 by omega)];simp only [Int.toNat_natCast,show p.getD (j-1) ⟨0,[]⟩=aQ p (j-1) from rfl,Be,Option.bind_some,Bool.false_or,cond_true];generalize cmpL (aQ p (j-1)).Vars (aQ p j).Vars=r;generalize aQ p j=m;have e1:decide (m.Coef < -1099511627776) = !(decide (-1099511627776≤m.Coef)):=by rw [Bool.eq_iff_iff];simp
   have e2:decide (m.Coef>1099511627776) = !(decide (m.Coef≤1099511627776)):=by rw [Bool.eq_iff_iff];simp
   have e3:decide (((m.Vars.length:Nat):Int)>8) = !(decide (m.Vars.length≤8)):=by rw [Bool.eq_iff_iff];simp;omega
   have e4:decide (r≥0) = !(decide (r<0)):=by rw [Bool.eq_iff_iff];simp
   rw [e1,e2,e3,e4];cases m.Coef==0<;>cases decide (-1099511627776≤m.Coef)<;>cases decide (m.Coef≤1099511627776)<;>cases decide (m.Vars.length≤8)<;>cases uj m.Vars<;>cases m.Vars.all cO<;>cases decide (r<0)<;>rfl
  ·have:j=0:=by omega
   subst this;generalize aQ p 0=m;have e1:decide (m.Coef < -1099511627776) = !(decide (-1099511627776≤m.Coef)):=by rw [Bool.eq_iff_iff];simp
   have e2:decide (m.Coef>1099511627776) = !(decide (m.Coef≤1099511627776)):=by rw [Bool.eq_iff_iff];simp
   have e3:decide (((m.Vars.length:Nat):Int)>8) = !(decide (m.Vars.length≤8)):=by rw [Bool.eq_iff_iff];simp;omega
   rw [e1,e2,e3];cases m.Coef==0<;>cases decide (-1099511627776≤m.Coef)<;>cases decide (m.Coef≤1099511627776)<;>cases decide (m.Vars.length≤8)<;>cases uj m.Vars<;>cases m.Vars.all cO<;>rfl),dF]
 unfold aL;cases (List.range' 0 (p.length-0)).all (iB p) with
 | false=>rfl
 | true =>
  simp only [cond_true,Bool.true_and,JX];rw [decide_eq_decide];omega
theorem Cg (x y:ah):(Op.bytesLess x y||x==y) = !(Op.bytesLess y x):=by
 rcases pU x y with h | h | h
 ·simp [h,oD h]
 ·subst h;simp [eC]
 ·have hne:(x==y)=false:=by rw [beq_eq_false_iff_ne];intro e;subst e;rw [eC] at h;cases h
  simp [h,hne,oD h]
def nm (x:List ah) (k:Nat):Bool:=cO (x.getD k [])&&(((k:Nat):Int)==0 || !(Op.bytesLess (x.getD k []) (x.getD (k-1) [])))
theorem Ij (x:List ah):(List.range' 0 (x.length-0)).all (nm x)=(uj x&&x.all cO):=by
 have h1:=Ee cO [] x;rw [← h1];unfold uj;rw [Bool.eq_iff_iff];simp only [JO,J0,List.mem_range'_1,nm,Bool.or_eq_true,beq_iff_eq];constructor
 ·intro h;refine ⟨fun j hj => ?_,fun j hj=>(h j hj).1⟩;rcases (h j (by omega)).2 with h2 | h2
  ·omega
  ·exact h2
 ·rintro ⟨h2,h3⟩ j hj;refine ⟨h3 j hj,?_⟩;by_cases h0:j=0
  ·exact .inl (by omega)
  ·exact .inr (h2 j (by omega))
theorem bA (p:List aa) (hB:Bd p):cV p=some (aL p):=by
 unfold cV;unfold aL;by_cases h60:p.length≤60
 ·rw [JS (by omega),JU h60];simp only [cond_false,Bool.and_true];rw [cH (iB p) _ _ () (fun j u _ hj=>by
   have hm:=hB.2 _ (cy (p:=p) (j:=j) (by omega));have hw:∀ {j:Nat} (h:0<j),j≤1000000→aS (((j:Nat):Int)-1)=((j-1:Nat):Int):=fun h h2=>by rw [ax (by omega) (by omega)];omega
   show _=_;simp only [show p.getD j ⟨0,[]⟩=aQ p j from rfl];rw [cH (nm (aQ p j).Vars) _ _ () (fun k u _ hk=>by
    unfold nm;rw [ph];simp only [Option.bind_some];cases cO ((aQ p j).Vars.getD k []) with
    | false=>rfl
    | true =>
     simp only [cond_true,Bool.true_and];by_cases hk0:0<k
     ·have hkz:(((k:Nat):Int)==0)=false:=by simp;omega
      rw [hw hk0 (by omega),aw (by omega),hkz,JU (show ((k:Nat):Int)>0 by omega)];simp only [Int.toNat_natCast,Cg,Bool.false_or,cond_true];cases Op.bytesLess ((aQ p j).Vars.getD k []) ((aQ p j).Vars.getD (k-1) [])<;>rfl
     ·have:k=0:=by omega
      subst this;rfl),Ij]
   unfold iB A5;by_cases hj0:0<j
   ·have hm':=hB.2 _ (cy (p:=p) (j:=j-1) (by omega));have hjz:(((j:Nat):Int)==0)=false:=by simp;omega
    obtain ⟨r,hr,hr1,hr2⟩:=uN (aQ p (j-1)).Vars (aQ p j).Vars hm'.1 hm.1;rw [hw hj0 (by omega),aw (by omega),hjz,JU (show ((j:Nat):Int)>0 by omega)];simp only [Int.toNat_natCast,show p.getD (j-1) ⟨0,[]⟩=aQ p (j-1) from rfl,hr,Option.bind_some,Bool.false_or,cond_true];have e4:decide (r≥0) = !(decide (cmpL (aQ p (j-1)).Vars (aQ p j).Vars<0)):=by rw [Bool.eq_iff_iff];simp;omega
    rw [e4];generalize cmpL (aQ p (j-1)).Vars (aQ p j).Vars=r;generalize aQ p j=m;have e1:decide (m.Coef < -1099511627776) = !(decide (-1099511627776≤m.Coef)):=by rw [Bool.eq_iff_iff];simp
    have e2:decide (m.Coef>1099511627776) = !(decide (m.Coef≤1099511627776)):=by rw [Bool.eq_iff_iff];simp
    have e3:decide (((m.Vars.length:Nat):Int)>8) = !(decide (m.Vars.length≤8)):=by rw [Bool.eq_iff_iff];simp;omega
    rw [e1,e2,e3];cases m.Coef==0<;>cases decide (-1099511627776≤m.Coef)<;>cases decide (m.Coef≤1099511627776)<;>cases decide (m.Vars.length≤8)<;>cases uj m.Vars<;>cases m.Vars.all cO<;>cases decide (r<0)<;>rfl
   ·have:j=0:=by omega
    subst this;generalize aQ p 0=m;have e1:decide (m.Coef < -1099511627776) = !(decide (-1099511627776≤m.Coef)):=by rw [Bool.eq_iff_iff];simp
    have e2:decide (m.Coef>1099511627776) = !(decide (m.Coef≤1099511627776)):=by rw [Bool.eq_iff_iff];simp
    have e3:decide (((m.Vars.length:Nat):Int)>8) = !(decide (m.Vars.length≤8)):=by rw [Bool.eq_iff_iff];simp;omega
    rw [e1,e2,e3];cases m.Coef==0<;>cases decide (-1099511627776≤m.Coef)<;>cases decide (m.Coef≤1099511627776)<;>cases decide (m.Vars.length≤8)<;>cases uj m.Vars<;>cases m.Vars.all cO<;>rfl),dF]
  cases (List.range' 0 (p.length-0)).all (iB p)<;>rfl
 ·rw [JU (by omega),JS h60];simp
theorem fu {σ ε ρ:Type} {body:Nat→σ→Option (ff σ ε ρ)} {fin:Nat→σ→ε} (I:Nat→σ→Prop):∀ (k i:Nat) (s:σ),I i s→(∀ j s,i≤j→j<i+k→I j s→∃ s',body j s=some (.go s')∧I (j+1) s') →
 ∃ s',cL body fin k i s=some (.brk (fin (i+k) s'))∧I (i+k) s'
 | 0,i,s,hI,h=>⟨s,by simp [cL],hI⟩
 | k+1,i,s,hI,h=>by obtain ⟨s1,h1,h2⟩:=h i s (Nat.le_refl _) (by omega) hI;obtain ⟨s',e1,e3⟩:=fu I k (i+1) s1 h2 (fun j s h1 h2=>h j s (by omega) (by omega));refine ⟨s',?_,by rw [show i+(k+1)=i+1+k by omega];exact e3⟩;simp only [cL,h1,Option.bind_some,nD];rw [e1,show i+1+k=i+(k+1) by omega]
def gf (n:Int):Bool:=decide (-4611686018427387904≤n)&&decide (n≤4611686018427387904)
theorem dG {n:Int}:gf n=true ↔ -4611686018427387904≤n∧n≤4611686018427387904:=by simp [gf]
theorem jc (n:Int):gN n=some (gf n):=by
 unfold gN gf;by_cases h : -4611686018427387904≤n
 ·rw [JU (show n ≥ -4611686018427387904 from h)];rfl
 ·rw [JS (show ¬ n ≥ -4611686018427387904 from h)];rfl
theorem lu (l:List Int):eM l=some (l.all gf):=by
 unfold eM;rw [cH (fun j=>gf (l.getD j 0)) _ _ () (fun j u _ _=>by
  generalize l.getD j 0=n;unfold gf;have e1:decide (n < -4611686018427387904) = !(decide (-4611686018427387904≤n)):=by rw [Bool.eq_iff_iff];simp
  have e2:decide (n>4611686018427387904) = !(decide (n≤4611686018427387904)):=by rw [Bool.eq_iff_iff];simp
  rw [e1,e2];cases decide (-4611686018427387904≤n)<;>cases decide (n≤4611686018427387904)<;>rfl),dF,Ee gf 0 l]
 cases l.all gf<;>rfl
theorem C8 {a:Int} (h:gf a=true):dt a=some (a.natAbs:Int)∧a.natAbs≤4611686018427387904:=by
 rw [dG] at h;unfold dt;by_cases h0:a<0
 ·rw [JU h0];simp only [cond_true,JX];rw [ax (by omega) (by omega)];omega
 ·rw [JS h0];simp only [cond_false,JX];omega
theorem wrap_u64 {n:Int} (h0:0≤n) (h:n<18446744073709551616):IntKind.wrap .u64 n=n:=by unfold IntKind.wrap IntKind.bits IntKind.signed;simp;omega
theorem wrap_i64 {n:Int} (h0:0≤n) (h:n≤9223372036854775807):IntKind.wrap .i64 n=n:=ax (by omega) h
theorem DP (a b:Int):((decide (a<0)==decide (b<0))=true→a*b=((a.natAbs*b.natAbs:Nat):Int))∧((decide (a<0)==decide (b<0))=false→a*b = -((a.natAbs*b.natAbs:Nat):Int)):=by
 rcases Int.natAbs_eq a with ha | ha<;>rcases Int.natAbs_eq b with hb | hb;all_goals
  generalize a.natAbs=x at ha ⊢;generalize b.natAbs=y at hb ⊢;subst ha;subst hb
 ·refine ⟨fun _=>by push_cast;rfl,fun h => ?_⟩;rw [JS (by omega),JS (by omega)] at h;cases h
 ·constructor
  ·intro h;by_cases hy:y=0
   ·subst hy;simp
   ·rw [JS (by omega),JU (by omega)] at h;cases h
  ·intro _;rw [Int.mul_neg];push_cast;rfl
 ·constructor
  ·intro h;by_cases hx:x=0
   ·subst hx;simp
   ·rw [JU (by omega),JS (by omega)] at h;cases h
  ·intro _;rw [Int.neg_mul];push_cast;rfl
 ·constructor
  ·intro _;rw [Int.neg_mul_neg];push_cast;rfl
  ·intro h;by_cases hx:x=0
   ·subst hx;simp
   ·by_cases hy:y=0
    ·subst hy;simp
    ·rw [JU (by omega),JU (by omega)] at h;cases h
theorem ai {α β:Type} (x:α) (f:α→Option β):(some x).bind f=f x:=Eq.trans (Option.bind_some x f) rfl
theorem EI {x y:Int} (hx:0≤x∧x<18446744073709551616) (hy:0≤y∧y<18446744073709551616):jR x y=some (x*y / 18446744073709551616,x*y % 18446744073709551616):=if_pos ⟨hx,hy⟩
def v3 (a b c:Int):Int:=a+b*18446744073709551616+c*340282366920938463463374607431768211456
def lm (x:Int):Prop:=0≤x∧x<18446744073709551616
theorem FQ {x y c:Int} (hx:lm x) (hy:lm y) (hc:0≤c∧c≤1):dP x y c=some ((x+y+c) % 18446744073709551616,(x+y+c) / 18446744073709551616):=if_pos ⟨hx,hy,hc⟩
theorem uS {x y c:Int} (hx:lm x) (hy:lm y) (hc:0≤c∧c≤1):∃ r d,dP x y c=some (r,d)∧lm r∧(0≤d∧d≤1)∧r+d*18446744073709551616=x+y+c:=by refine ⟨_,_,FQ hx hy hc,?_⟩;unfold lm at *;generalize hs:x+y+c=s;omega
theorem Fb {x y:Int} (hx:lm x) (hy:lm y):∃ hi lo,jR x y=some (hi,lo)∧lm lo∧lo+hi*18446744073709551616=x*y∧0≤hi:=by refine ⟨_,_,EI hx hy,?_⟩;have h0:0≤x*y:=Int.mul_nonneg hx.1 hy.1;unfold lm;generalize x*y=s at h0;omega
theorem C4 {x0 x1 x2 hi lo:Int} (h0:lm x0) (h1:lm x1) (h2:lm x2) (hh:lm hi) (hl:lm lo) (hs:v3 x0 x1 x2+lo+hi*18446744073709551616<6277101735386680763835789423207666416102355444464034512896) :
 ∃ r0 r1 r2 c0 c1 c2,dP x0 lo 0=some (r0,c0)∧dP x1 hi c0=some (r1,c1)∧dP x2 0 c1=some (r2,c2)∧lm r0∧lm r1∧lm r2∧v3 r0 r1 r2=v3 x0 x1 x2+lo+hi*18446744073709551616:=by
 obtain ⟨r0,c0,e0,l0,d0,s0⟩:=uS h0 hl (c:=0) (by omega);obtain ⟨r1,c1,e1,l1,d1,s1⟩:=uS h1 hh d0;obtain ⟨r2,c2,e2,l2,d2,s2⟩:=uS h2 (y:=0) (by unfold lm;omega) d1;refine ⟨r0,r1,r2,c0,c1,c2,e0,e1,e2,l0,l1,l2,?_⟩;unfold lm v3 at *;omega
theorem xJ {a b p0 p1 p2 n0 n1 n2 K:Int} (ha:gf a=true) (hb:gf b=true) (h0:lm p0) (h1:lm p1) (h2:lm p2) (g0:lm n0) (g1:lm n1) (g2:lm n2) (hK:v3 p0 p1 p2+v3 n0 n1 n2≤K) (hK2:K≤6277101735386680763835789423207666416102355444464034512896-21267647932558653966460912964485513216-1) :
 ∃ q0 q1 q2 m0 m1 m2,b6 a b p0 p1 p2 n0 n1 n2=some (q0,q1,q2,m0,m1,m2)∧lm q0∧lm q1∧lm q2∧lm m0∧lm m1∧lm m2∧v3 q0 q1 q2-v3 m0 m1 m2=v3 p0 p1 p2-v3 n0 n1 n2+a*b∧v3 q0 q1 q2+v3 m0 m1 m2≤K+21267647932558653966460912964485513216:=by
 obtain ⟨a1,a2⟩:=C8 ha;obtain ⟨b1,b2⟩:=C8 hb;obtain ⟨s1,s2⟩:=DP a b;obtain ⟨hi,lo,em,hlo,hsum,hhi⟩:=Fb (x:=(a.natAbs:Int)) (y:=(b.natAbs:Int)) (by unfold lm;omega) (by unfold lm;omega);have hP:((a.natAbs:Int)*(b.natAbs:Int))=((a.natAbs*b.natAbs:Nat):Int):=by push_cast;rfl
 have hPb:a.natAbs*b.natAbs≤21267647932558653966460912964485513216:=by have:=Nat.mul_le_mul a2 b2;exact this
 rw [hP] at hsum;have wa:=wrap_u64 (n:=(a.natAbs:Int)) (by omega) (by omega);have wb:=wrap_u64 (n:=(b.natAbs:Int)) (by omega) (by omega);have v0:0≤v3 p0 p1 p2:=by unfold lm v3 at *;omega
 have v1:0≤v3 n0 n1 n2:=by unfold lm v3 at *;omega
 generalize a.natAbs*b.natAbs=Pn at s1 s2 hsum hPb;have hhi2:lm hi:=by unfold lm at *;omega
 unfold b6;cases hs:(decide (a<0)==decide (b<0)) with
 | true =>
  obtain ⟨r0,r1,r2,c0,c1,c2,e0,e1,e2,l0,l1,l2,hv⟩:=C4 h0 h1 h2 hhi2 hlo (by omega);refine ⟨r0,r1,r2,n0,n1,n2,?_,l0,l1,l2,g0,g1,g2,?_,?_⟩
  ·simp only [cond_true];rw [a1,b1];simp only [ai];rw [wa,wb,em];simp only [ai];rw [e0];simp only [ai];rw [e1];simp only [ai];rw [e2];simp only [ai]
  ·rw [hv,s1 hs];omega
  ·rw [hv];omega
 | false =>
  obtain ⟨r0,r1,r2,c0,c1,c2,e0,e1,e2,l0,l1,l2,hv⟩:=C4 g0 g1 g2 hhi2 hlo (by omega);refine ⟨p0,p1,p2,r0,r1,r2,?_,h0,h1,h2,l0,l1,l2,?_,?_⟩
  ·simp only [cond_false];rw [a1,b1];simp only [ai];rw [wa,wb,em];simp only [ai];rw [e0];simp only [ai];rw [e1];simp only [ai];rw [e2];simp only [ai]
  ·rw [hv,s2 hs];omega
  ·rw [hv];omega
theorem vM {x y c:Int} (hx:lm x) (hy:lm y) (hc:0≤c∧c≤1):∃ r d,jS x y c=some (r,d)∧lm r∧(0≤d∧d≤1)∧r=x-y-c+d*18446744073709551616:=by have e:jS x y c=some ((x-y-c) % 18446744073709551616,if x<y+c then 1 else 0):=if_pos ⟨hx,hy,hc⟩;refine ⟨_,_,e,?_⟩;unfold lm at *;generalize hs:x-y-c=s;split<;>omega
theorem uC {a0 a1 a2 b0 b1 b2:Int} (h0:lm a0) (h1:lm a1) (h2:lm a2) (g0:lm b0) (g1:lm b1) (g2:lm b2) :
 ∃ r0 r1 r2 k,b7 (a0,a1,a2) (b0,b1,b2)=some ((r0,r1,r2),k)∧(v3 b0 b1 b2≤v3 a0 a1 a2→k=true∧lm r0∧lm r1∧lm r2∧v3 r0 r1 r2=v3 a0 a1 a2-v3 b0 b1 b2)∧(v3 a0 a1 a2<v3 b0 b1 b2→k=false):=by
 obtain ⟨r0,c0,e0,l0,d0,s0⟩:=vM h0 g0 (c:=0) (by omega);obtain ⟨r1,c1,e1,l1,d1,s1⟩:=vM h1 g1 d0;obtain ⟨r2,c2,e2,l2,d2,s2⟩:=vM h2 g2 d1;refine ⟨r0,r1,r2,c2==0,?_,fun h => ?_,fun h => ?_⟩
 ·unfold b7;rw [e0];simp only [ai];rw [e1];simp only [ai];rw [e2];simp only [ai]
 ·unfold lm v3 at *;refine ⟨?_,l0,l1,l2,by omega⟩;have:c2=0:=by omega
  rw [this];rfl
 ·unfold lm v3 at *;have:c2=1:=by omega
  rw [this];rfl
theorem ur (n:Int) (h:gf n=true):dM n=some (n,0):=by unfold dM;rw [lu];simp only [List.all_cons,List.all_nil,h,Bool.and_true,ai,cond_true]
def rJ (S:Int):Int×Int:=bif gf S then (S,0) else (0,2)
theorem dR {S:Int} (h:S < -4611686018427387904∨4611686018427387904<S):rJ S=(0,2):=by
 have:gf S=false:=by
  have:¬ gf S=true:=by rw [dG];omega
  simpa using this
 unfold rJ;rw [this];rfl
theorem qn {S:Int} (h:gf S=true):rJ S=(S,0):=by unfold rJ;rw [h];rfl
theorem vz {a0 a1 a2 b0 b1 b2:Int} (h0:lm a0) (h1:lm a1) (h2:lm a2) (g0:lm b0) (g1:lm b1) (g2:lm b2):bO a0 a1 a2 b0 b1 b2=some (rJ (v3 a0 a1 a2-v3 b0 b1 b2)):=by
 obtain ⟨r0,r1,r2,k,e1,k1,k2⟩:=uC h0 h1 h2 g0 g1 g2;obtain ⟨t0,t1,t2,j,e2,j1,j2⟩:=uC g0 g1 g2 h0 h1 h2;unfold bO;rw [e1];simp only [ai];by_cases hge:v3 b0 b1 b2≤v3 a0 a1 a2
 ·obtain ⟨hk,l0,l1,l2,hv⟩:=k1 hge;rw [hk];simp only [cond_true];by_cases q1:r1>0
  ·rw [JU q1,dR (by unfold lm v3 at *;omega)];rfl
  ·rw [JS q1];simp only [cond_false];by_cases q2:r2>0
   ·rw [JU q2,dR (by unfold lm v3 at *;omega)];rfl
   ·rw [JS q2];simp only [cond_false];by_cases q0:r0>4611686018427387904
    ·rw [JU q0,dR (by unfold lm v3 at *;omega)];rfl
    ·rw [JS q0];simp only [cond_false];have e:r0=v3 a0 a1 a2-v3 b0 b1 b2:=by unfold lm v3 at *;omega
     have hin:gf r0=true:=dG.2 (by unfold lm at *;omega);rw [wrap_i64 l0.1 (by omega),Int.one_mul,ax (by unfold lm at *;omega) (by omega),ur r0 hin,← e,qn hin];simp only [ai]
 ·rw [k2 (by omega)];simp only [cond_false];rw [e2];simp only [ai];obtain ⟨hj,l0,l1,l2,hv⟩:=j1 (by omega);rw [hj];simp only [cond_true];by_cases q1:t1>0
  ·rw [JU q1,dR (by unfold lm v3 at *;omega)];rfl
  ·rw [JS q1];simp only [cond_false];by_cases q2:t2>0
   ·rw [JU q2,dR (by unfold lm v3 at *;omega)];rfl
   ·rw [JS q2];simp only [cond_false];by_cases q0:t0>4611686018427387904
    ·rw [JU q0,dR (by unfold lm v3 at *;omega)];rfl
    ·rw [JS q0];simp only [cond_false];have e : -t0=v3 a0 a1 a2-v3 b0 b1 b2:=by unfold lm v3 at *;omega
     have hin:gf (-t0)=true:=dG.2 (by unfold lm at *;omega);rw [wrap_i64 l0.1 (by omega),show (-1)*t0 = -t0 by omega,ax (by omega) (by unfold lm at *;omega),ur (-t0) hin,← e,qn hin];simp only [ai]
def sd (f:Nat→Int):Nat→Int
 | 0=>0
 | j+1=>sd f j+f j
def zx (a b:List Int) (i:Nat):Int:=a.getD i 0*b.getD i 0
def yB (a b:List Int):Int×Int:=bif decide (a.length=b.length) then (bif decide (a.length≤10000) then (bif a.all gf&&b.all gf then rJ (sd (zx a b) a.length) else (0,2)) else (0,3)) else (0,1)
def xd (s:Int×Int×Int×Int×Int×Int):Prop:=lm s.1∧lm s.2.1∧lm s.2.2.1∧lm s.2.2.2.1∧lm s.2.2.2.2.1∧lm s.2.2.2.2.2
def Jr (s:Int×Int×Int×Int×Int×Int):Int:=v3 s.1 s.2.1 s.2.2.1-v3 s.2.2.2.1 s.2.2.2.2.1 s.2.2.2.2.2
def Jy (s:Int×Int×Int×Int×Int×Int):Int:=v3 s.1 s.2.1 s.2.2.1+v3 s.2.2.2.1 s.2.2.2.2.1 s.2.2.2.2.2
theorem Dw {a b:Int} (ha:gf a=true) (hb:gf b=true) (s:Int×Int×Int×Int×Int×Int) (hl:xd s) (j:Nat) (hj:j<10000) (ht:Jy s≤(j:Int)*21267647932558653966460912964485513216) :
 ∃ s',b6 a b s.1 s.2.1 s.2.2.1 s.2.2.2.1 s.2.2.2.2.1 s.2.2.2.2.2=some s'∧xd s'∧Jr s'=Jr s+a*b∧Jy s'≤((j+1:Nat):Int)*21267647932558653966460912964485513216:=by
 obtain ⟨q0,q1,q2,m0,m1,m2,e,l0,l1,l2,l3,l4,l5,hd,hs⟩:=xJ (K:=(j:Int)*21267647932558653966460912964485513216) ha hb hl.1 hl.2.1 hl.2.2.1 hl.2.2.2.1 hl.2.2.2.2.1 hl.2.2.2.2.2 ht (by omega);refine ⟨(q0,q1,q2,m0,m1,m2),e,⟨l0,l1,l2,l3,l4,l5⟩,hd,?_⟩;show v3 q0 q1 q2+v3 m0 m1 m2≤_;omega
theorem AJ (s:Int×Int×Int×Int×Int×Int) (hl:xd s):bO s.1 s.2.1 s.2.2.1 s.2.2.2.1 s.2.2.2.2.1 s.2.2.2.2.2=some (rJ (Jr s)) :=
 vz hl.1 hl.2.1 hl.2.2.1 hl.2.2.2.1 hl.2.2.2.2.1 hl.2.2.2.2.2
theorem yI {l:List Int} (h:l.all gf=true) {j:Nat} (hj:j<l.length):gf (l.getD j 0)=true:=by rw [JM,JN hj];exact J0.1 h _ (List.getElem_mem hj)
theorem IE:xd (0,0,0,0,0,0):=by unfold xd lm;simp
theorem ue (a b:List Int):gG a b=some (yB a b):=by
 unfold gG yB;by_cases hlen:a.length=b.length
 ·rw [JU hlen,show ((((a.length:Nat):Int)==((b.length:Nat):Int)))=true by simp [hlen]];simp only [cond_true];by_cases h1:a.length≤10000
  ·rw [JU h1,JS (by omega)];simp only [cond_true,cond_false];rw [lu,lu];simp only [ai];cases ha:a.all gf with
   | false=>rfl
   | true =>
    cases hb:b.all gf with
    | false=>rfl
    | true =>
     simp only [cond_true,Bool.and_true];obtain ⟨s',e1,hI⟩:=fu (ρ:=Empty) (body:=fun i93 (s92:Int×Int×Int×Int×Int×Int)=>bZ (i93<b.length) <| (b6 (a.getD i93 0) (b.getD i93 0) s92.1 s92.2.1 s92.2.2.1 s92.2.2.2.1 s92.2.2.2.2.1 s92.2.2.2.2.2).bind fun y122=>some (.go (y122.1,y122.2.1,y122.2.2.1,y122.2.2.2.1,y122.2.2.2.2.1,y122.2.2.2.2.2)))
      (fin:=fun i93 s92=>(s92.1,s92.2.1,s92.2.2.1,s92.2.2.2.1,s92.2.2.2.2.1,s92.2.2.2.2.2))
      (fun j s=>xd s∧Jr s=sd (zx a b) j∧Jy s≤(j:Int)*21267647932558653966460912964485513216) (a.length-0) 0 (0,0,0,0,0,0) ⟨IE,rfl,by decide⟩ (fun j s _ hj ⟨i1,i2,i3⟩=>by obtain ⟨s',e,l,d,t⟩:=Dw (yI ha (j:=j) (by omega)) (yI hb (j:=j) (by omega)) s i1 j (by omega) i3;refine ⟨s',?_,l,by rw [d,i2];rfl,t⟩;rw [aw (by omega),e];rfl)
     rw [e1];show (bO s'.1 s'.2.1 s'.2.2.1 s'.2.2.2.1 s'.2.2.2.2.1 s'.2.2.2.2.2).bind _=_;rw [AJ s' hI.1,hI.2.1,Nat.zero_add,Nat.sub_zero];rfl
  ·rw [JS h1,JU (by omega)];rfl
 ·rw [JS hlen,show ((((a.length:Nat):Int)==((b.length:Nat):Int)))=false by rw [beq_eq_false_iff_ne];omega];rfl
theorem mm {n:Int} (h:0≤n):n.tdiv 2097152=n / 2097152:=Int.tdiv_eq_ediv_of_nonneg h
theorem tdiv_neg {n:Int} (h:n≤0):n.tdiv 2097152 = -((-n) / 2097152):=by have h1:(-(-n)).tdiv 2097152 = -((-n).tdiv 2097152):=Int.neg_tdiv ..;rw [Int.neg_neg] at h1;rw [h1,mm (by omega)]
theorem tK (n:Int):n.tmod 2097152=n-2097152*n.tdiv 2097152:=Int.tmod_def ..
theorem xa {n:Int} (h:gf n=true):∃ x0 x1 x2,cu n=some (x0,x1,x2)∧n=x0+x1*2097152+x2*4398046511104∧(-2097152≤x0∧x0≤2097152)∧(-2097152≤x1∧x1≤2097152)∧(-2097152≤x2∧x2≤2097152):=by
 have hb:=dG.1 h;have e:cu n=some (n.tmod 2097152,(n.tdiv 2097152).tmod 2097152,(n.tdiv 2097152).tdiv 2097152):=by
  have h1 : -2199023255552≤n.tdiv 2097152∧n.tdiv 2097152≤2199023255552:=by
   by_cases h0:0≤n
   ·rw [mm h0];omega
   ·rw [tdiv_neg (by omega)];omega
  have h2 : -1048576≤(n.tdiv 2097152).tdiv 2097152∧(n.tdiv 2097152).tdiv 2097152≤1048576:=by
   generalize n.tdiv 2097152=m at h1;by_cases h0:0≤m
   ·rw [mm h0];omega
   ·rw [tdiv_neg (by omega)];omega
  unfold cu;rw [ax (by omega) (by omega),ax (by omega) (by omega)]
 refine ⟨_,_,_,e,?_⟩;rw [tK n,tK (n.tdiv 2097152)];by_cases h0:0≤n
 ·rw [mm h0,mm (n:=n / 2097152) (by omega)];omega
 ·rw [tdiv_neg (n:=n) (by omega),tdiv_neg (n := -((-n) / 2097152)) (by omega)];omega
theorem p6 {c:Int} (h:gf c=true):∃ q,dN c 2097152=some (q,0)∧q*2097152≤c∧c<q*2097152+2097152:=by
 have hb:=dG.1 h;refine ⟨c / 2097152,?_,by omega,by omega⟩;unfold dN;rw [jc,jc,h];simp only [ai,cond_true];rw [show gf 2097152=true from rfl];simp only [cond_true];rw [show ((2097152:Int)==0)=false from rfl];simp only [cond_false];rw [aw (by decide),show decide ((2097152:Int)<0)=false from rfl];by_cases h0:0≤c
 ·rw [tK,mm h0,JS (show ¬ c<0 by omega)];by_cases hz:c-2097152*(c / 2097152)=0
  ·rw [hz];simp only [beq_self_eq_true,cond_true,ai,cond_false];rw [ax (by omega) (by omega)]
  ·rw [beq_eq_false_iff_ne.2 hz];simp only [cond_false,beq_self_eq_true,Bool.not_true,ai];rw [ax (by omega) (by omega)]
 ·rw [tK,tdiv_neg (by omega),JU (show c<0 by omega)];by_cases hz:c-2097152 * -((-c) / 2097152)=0
  ·rw [hz];simp only [beq_self_eq_true,cond_true,ai,cond_false];rw [ax (by omega) (by omega)];have : -((-c) / 2097152)=c / 2097152:=by omega
   rw [this]
  ·rw [beq_eq_false_iff_ne.2 hz];have e1:(!(true==false))=true:=rfl;simp only [cond_false,e1,ai,cond_true];rw [ax (n := -((-c) / 2097152)) (by omega) (by omega),ax (by omega) (by omega)];have : -((-c) / 2097152)-1=c / 2097152:=by omega
   rw [this]
theorem pb {x y:Int} (hx : -2097152≤x∧x≤2097152) (hy : -2097152≤y∧y≤2097152) : -4398046511104≤x*y∧x*y≤4398046511104:=by
 have h1:x.natAbs≤2097152:=by omega
 have h2:y.natAbs≤2097152:=by omega
 have h3:=Nat.mul_le_mul h1 h2;rw [← Int.natAbs_mul] at h3;omega
theorem Jc (x0 x1 x2 y0 y1 y2:Int):(x0+x1*2097152+x2*4398046511104)*(y0+y1*2097152+y2*4398046511104) =
 x0*y0+(x0*y1+x1*y0)*2097152+(x0*y2+x1*y1+x2*y0)*4398046511104+(x1*y2+x2*y1)*9223372036854775808+x2*y2*19342813113834066795298816:=by
 simp only [Int.add_mul,Int.mul_add,Int.mul_assoc,Int.mul_comm,Int.mul_left_comm,Int.reduceMul];omega
abbrev C5:=Int×Int×Int×Int×Int
def sm (c:Int) (j:Nat):Prop := -((j:Int)*13194139533312)≤c∧c≤(j:Int)*13194139533312
def v5 (s:C5):Int:=s.1+s.2.1*2097152+s.2.2.1*4398046511104+s.2.2.2.1*9223372036854775808+s.2.2.2.2*19342813113834066795298816
def IV (j:Nat) (s:C5):Prop:=sm s.1 j∧sm s.2.1 j∧sm s.2.2.1 j∧sm s.2.2.2.1 j∧sm s.2.2.2.2 j
theorem Fv {a b:Int} (ha:gf a=true) (hb:gf b=true) (s:C5) (j:Nat) (hj:j<10000) (hs:IV j s) :
 ∃ x y:Int×Int×Int,cu a=some x∧cu b=some y∧∃ s':C5,((aS (s.1+(aS (x.1*y.1)))),(aS ((aS (s.2.1+(aS (x.1*y.2.1))))+(aS (x.2.1*y.1)))),(aS ((aS ((aS (s.2.2.1+(aS (x.1*y.2.2))))+(aS (x.2.1*y.2.1))))+(aS (x.2.2*y.1)))),(aS ((aS (s.2.2.2.1+(aS (x.2.1*y.2.2))))+(aS (x.2.2*y.2.1)))),(aS (s.2.2.2.2+(aS (x.2.2*y.2.2)))))=s'∧IV (j+1) s'∧v5 s'=v5 s+a*b:=by
 obtain ⟨x0,x1,x2,ex,hx,bx0,bx1,bx2⟩:=xa ha;obtain ⟨y0,y1,y2,ey,hy,by0,by1,by2⟩:=xa hb;refine ⟨(x0,x1,x2),(y0,y1,y2),ex,ey,(s.1+x0*y0,s.2.1+x0*y1+x1*y0,s.2.2.1+x0*y2+x1*y1+x2*y0,s.2.2.2.1+x1*y2+x2*y1,s.2.2.2.2+x2*y2),?_⟩;have hm:=Jc x0 x1 x2 y0 y1 y2;rw [← hx,← hy] at hm;have p00:=pb bx0 by0;have p01:=pb bx0 by1;have p02:=pb bx0 by2;have p10:=pb bx1 by0;have p11:=pb bx1 by1;have p12:=pb bx1 by2;have p20:=pb bx2 by0;have p21:=pb bx2 by1;have p22:=pb bx2 by2;rw [hm];show (aS (s.1+aS (x0*y0)),aS (aS (s.2.1+aS (x0*y1))+aS (x1*y0)),aS (aS (aS (s.2.2.1+aS (x0*y2))+aS (x1*y1))+aS (x2*y0)),aS (aS (s.2.2.2.1+aS (x1*y2))+aS (x2*y1)),aS (s.2.2.2.2+aS (x2*y2)))=_∧_;obtain ⟨s0,s1,s2,s3,s4⟩:=s;generalize x0*y0=m00 at *;generalize x0*y1=m01 at *;generalize x0*y2=m02 at *;generalize x1*y0=m10 at *;generalize x1*y1=m11 at *;generalize x1*y2=m12 at *;generalize x2*y0=m20 at *;generalize x2*y1=m21 at *;generalize x2*y2=m22 at *;unfold IV sm at *;simp only at hs ⊢;refine ⟨?_,by omega,by unfold v5;simp only;omega⟩;rw [ax (n:=m00) (by omega) (by omega),ax (n:=m01) (by omega) (by omega),ax (n:=m02) (by omega) (by omega),ax (n:=m10) (by omega) (by omega),ax (n:=m11) (by omega) (by omega),ax (n:=m12) (by omega) (by omega),ax (n:=m20) (by omega) (by omega),ax (n:=m21) (by omega) (by omega),ax (n:=m22) (by omega) (by omega)];rw [ax (n:=s0+m00) (by omega) (by omega),ax (n:=s1+m01) (by omega) (by omega),ax (n:=s1+m01+m10) (by omega) (by omega),ax (n:=s2+m02) (by omega) (by omega),ax (n:=s2+m02+m11) (by omega) (by omega),ax (n:=s2+m02+m11+m20) (by omega) (by omega),ax (n:=s3+m12) (by omega) (by omega),ax (n:=s3+m12+m21) (by omega) (by omega),ax (n:=s4+m22) (by omega) (by omega)]
theorem Ha (a b:List Int) (h:a.length=b.length):(List.range' 0 (a.length-0)).all (fun j=>gf (a.getD j 0)&&gf (b.getD j 0))=(a.all gf&&b.all gf):=by have h1:=Ee gf 0 a;have h2:=Ee gf 0 b;rw [← h1,← h2,← h,Bool.eq_iff_iff];simp only [JO,J0];exact ⟨fun k=>⟨fun j hj=>(k j hj).1,fun j hj=>(k j hj).2⟩,fun k j hj=>⟨k.1 j hj,k.2 j hj⟩⟩
theorem wz {q:Int} (h : -9223372036854775808≤q) (h2:q≤9223372036854775807):aS (0+q)=q:=by rw [Int.zero_add];exact ax h h2
set_option maxHeartbeats 1000000 in
theorem yM (a b:List Int):gu a b=some (yB a b):=by
 unfold yB;by_cases hlen:a.length=b.length
 ·by_cases h1:a.length≤10000
  ·rw [JU hlen,JU h1];simp only [cond_true];unfold gu;rw [show ((((a.length:Nat):Int)==((b.length:Nat):Int)))=true by simp [hlen]];simp only [cond_true];rw [JS (show ¬ ((a.length:Nat):Int)>10000 by omega)];simp only [cond_false];rw [cH (fun j=>gf (a.getD j 0)&&gf (b.getD j 0)) _ _ () (fun j u _ hj=>by rw [jc,jc,aw (by omega)];simp only [ai];cases gf (a.getD j 0)<;>cases gf (b.getD j 0)<;>rfl),dF,Ha a b hlen]
   cases hin:a.all gf&&b.all gf with
   | false=>rfl
   | true =>
    rw [JO] at hin;obtain ⟨ha,hb⟩:=hin;simp only [cond_true];obtain ⟨s,e1,hI⟩:=fu (ρ:=Empty) (body:=fun i197 (s196:C5)=>(cu (a.getD i197 0)).bind fun y227=>bZ (i197<b.length) <| (cu (b.getD i197 0)).bind fun y232 =>
     some (.go ((aS (s196.1+(aS (y227.1*y232.1)))),(aS ((aS (s196.2.1+(aS (y227.1*y232.2.1))))+(aS (y227.2.1*y232.1)))),(aS ((aS ((aS (s196.2.2.1+(aS (y227.1*y232.2.2))))+(aS (y227.2.1*y232.2.1))))+(aS (y227.2.2*y232.1)))),(aS ((aS (s196.2.2.2.1+(aS (y227.2.1*y232.2.2))))+(aS (y227.2.2*y232.2.1)))),(aS (s196.2.2.2.2+(aS (y227.2.2*y232.2.2)))))))
     (fin:=fun i197 s196=>(s196.1,s196.2.1,s196.2.2.1,s196.2.2.2.1,s196.2.2.2.2))
     (fun j s=>IV j s∧v5 s=sd (zx a b) j) (a.length-0) 0 (0,0,0,0,0) ⟨by unfold IV sm;simp,by unfold v5 sd;simp⟩ (fun j s _ hj ⟨i1,i2⟩=>by
      obtain ⟨x,y,ex,ey,s',es,k1,k2⟩:=Fv (yI ha (j:=j) (by omega)) (yI hb (j:=j) (by omega)) s j (by omega) i1;refine ⟨s',?_,k1,?_⟩
      ·rw [ex];simp only [ai];rw [aw (by omega),ey];simp only [ai];rw [es]
      ·rw [k2,i2];rfl)
    rw [e1];rw [Nat.zero_add,Nat.sub_zero] at hI;obtain ⟨hC,hv⟩:=hI;have hlen2:(a.length:Int)≤10000:=by omega
    rw [← hv];clear hv e1;obtain ⟨s0,s1,s2,s3,s4⟩:=s;unfold IV sm at hC;simp only at hC;obtain ⟨⟨z0,z0'⟩,⟨z1,z1'⟩,⟨z2,z2'⟩,⟨z3,z3'⟩,⟨z4,z4'⟩⟩:=hC;obtain ⟨S,hS⟩:∃ S,S=v5 (s0,s1,s2,s3,s4):=⟨_,rfl⟩;rw [← hS];have hS2:S=s0+s1*2097152+s2*4398046511104+s3*9223372036854775808+s4*19342813113834066795298816:=hS;clear hS;have b0 : -131941395333120000≤s0∧s0≤131941395333120000:=by omega
    have b1 : -131941395333120000≤s1∧s1≤131941395333120000:=by omega
    have b2 : -131941395333120000≤s2∧s2≤131941395333120000:=by omega
    have b3 : -131941395333120000≤s3∧s3≤131941395333120000:=by omega
    have b4 : -131941395333120000≤s4∧s4≤131941395333120000:=by omega
    clear z0 z0' z1 z1' z2 z2' z3 z3' z4 z4';show ((dN s0 2097152).bind fun y243=>_)=_;obtain ⟨q0,e0,f0,g0⟩:=p6 (c:=s0) (dG.2 (by omega));rw [e0];simp only [ai];rw [ax (n:=s1+q0) (by omega) (by omega)];obtain ⟨c1,hc1⟩:∃ c,c=s1+q0:=⟨_,rfl⟩;rw [← hc1];obtain ⟨q1,e1,f1,g1⟩:=p6 (c:=c1) (dG.2 (by omega));rw [e1];simp only [ai];rw [ax (n:=s2+q1) (by omega) (by omega)];obtain ⟨c2,hc2⟩:∃ c,c=s2+q1:=⟨_,rfl⟩;rw [← hc2];obtain ⟨q2,e2,f2,g2⟩:=p6 (c:=c2) (dG.2 (by omega));rw [e2];simp only [ai];rw [ax (n:=s3+q2) (by omega) (by omega)];obtain ⟨c3,hc3⟩:∃ c,c=s3+q2:=⟨_,rfl⟩;rw [← hc3];obtain ⟨q3,e3,f3,g3⟩:=p6 (c:=c3) (dG.2 (by omega));rw [e3];simp only [ai];rw [ax (n:=s4+q3) (by omega) (by omega)];obtain ⟨c4,hc4⟩:∃ c,c=s4+q3:=⟨_,rfl⟩;rw [← hc4];obtain ⟨q4,e4,f4,g4⟩:=p6 (c:=c4) (dG.2 (by omega));rw [e4];simp only [ai];rw [wz (q:=q4) (by omega) (by omega)];obtain ⟨q5,e5,f5,g5⟩:=p6 (c:=q4) (dG.2 (by omega));rw [e5];simp only [ai];rw [wz (q:=q5) (by omega) (by omega)];obtain ⟨q6,e6,f6,g6⟩:=p6 (c:=q5) (dG.2 (by omega));rw [e6];simp only [ai];rw [wz (q:=q6) (by omega) (by omega),wz (q:=q6) (by omega) (by omega)];clear e0 e1 e2 e3 e4 e5 e6;rw [ax (n:=q6*2097152) (by omega) (by omega),ax (n:=q5-q6*2097152) (by omega) (by omega),show q6*2097152+(q5-q6*2097152)=q5 by omega,ax (n:=q5) (by omega) (by omega)];rw [ax (n:=q5*2097152) (by omega) (by omega),ax (n:=q4-q5*2097152) (by omega) (by omega),show q5*2097152+(q4-q5*2097152)=q4 by omega,ax (n:=q4) (by omega) (by omega)];rw [ax (n:=q4*2097152) (by omega) (by omega),ax (n:=c4-q4*2097152) (by omega) (by omega),show q4*2097152+(c4-q4*2097152)=c4 by omega,ax (n:=c4) (by omega) (by omega)];rw [ax (n:=q3*2097152) (by omega) (by omega),ax (n:=c3-q3*2097152) (by omega) (by omega),ax (n:=q2*2097152) (by omega) (by omega),ax (n:=c2-q2*2097152) (by omega) (by omega),ax (n:=q1*2097152) (by omega) (by omega),ax (n:=c1-q1*2097152) (by omega) (by omega),ax (n:=q0*2097152) (by omega) (by omega),ax (n:=s0-q0*2097152) (by omega) (by omega)];obtain ⟨d3,hd3⟩:∃ d,d=c3-q3*2097152:=⟨_,rfl⟩;obtain ⟨d2,hd2⟩:∃ d,d=c2-q2*2097152:=⟨_,rfl⟩;obtain ⟨d1,Gv⟩:∃ d,d=c1-q1*2097152:=⟨_,rfl⟩;obtain ⟨d0,hd0⟩:∃ d,d=s0-q0*2097152:=⟨_,rfl⟩;rw [← hd3,← hd2,← Gv,← hd0];have k3:0≤d3∧d3<2097152:=by omega
    have k2:0≤d2∧d2<2097152:=by omega
    have k1:0≤d1∧d1<2097152:=by omega
    have k0:0≤d0∧d0<2097152:=by omega
    have hSv:S=c4*19342813113834066795298816+d3*9223372036854775808+d2*4398046511104+d1*2097152+d0:=by omega
    rw [JS (show ¬ q6>2199023255552 by omega),JS (show ¬ q6 < -2199023255552 by omega),JS (show ¬ q5>2199023255552 by omega),JS (show ¬ q5 < -2199023255552 by omega),JS (show ¬ q4>2199023255552 by omega),JS (show ¬ q4 < -2199023255552 by omega)];simp only [cond_false];clear hc1 hc2 hc3 hc4 f0 f1 f2 f3 f4 f5 f6 g0 g1 g2 g3 g4 g5 g6 hd3 hd2 Gv hd0 hS2 b0 b1 b2 b3;by_cases t4:c4>2199023255552
    ·rw [JU t4,dR (by omega)];rfl
    rw [JS t4];by_cases u4:c4 < -2199023255552
    ·rw [JU u4,dR (by omega)];rfl
    rw [JS u4];simp only [cond_false];rw [ax (n:=c4*2097152) (by omega) (by omega),ax (n:=c4*2097152+d3) (by omega) (by omega)];obtain ⟨n3,hn3⟩:∃ d,d=c4*2097152+d3:=⟨_,rfl⟩;rw [← hn3];by_cases t3:n3>2199023255552
    ·rw [JU t3,dR (by omega)];rfl
    rw [JS t3];by_cases u3:n3 < -2199023255552
    ·rw [JU u3,dR (by omega)];rfl
    rw [JS u3];simp only [cond_false];rw [ax (n:=n3*2097152) (by omega) (by omega),ax (n:=n3*2097152+d2) (by omega) (by omega)];obtain ⟨n2,hn2⟩:∃ d,d=n3*2097152+d2:=⟨_,rfl⟩;rw [← hn2];by_cases t2:n2>2199023255552
    ·rw [JU t2,dR (by omega)];rfl
    rw [JS t2];by_cases u2:n2 < -2199023255552
    ·rw [JU u2,dR (by omega)];rfl
    rw [JS u2];simp only [cond_false];rw [ax (n:=n2*2097152) (by omega) (by omega),ax (n:=n2*2097152+d1) (by omega) (by omega)];obtain ⟨n1,hn1⟩:∃ d,d=n2*2097152+d1:=⟨_,rfl⟩;rw [← hn1];by_cases t1:n1>2199023255552
    ·rw [JU t1,dR (by omega)];rfl
    rw [JS t1];by_cases u1:n1 < -2199023255552
    ·rw [JU u1,dR (by omega)];rfl
    rw [JS u1];simp only [cond_false];rw [ax (n:=n1*2097152) (by omega) (by omega),ax (n:=n1*2097152+d0) (by omega) (by omega),show n1*2097152+d0=S by omega,jc];simp only [ai];unfold rJ;cases gf S<;>rfl
  ·rw [JU hlen,JS h1];unfold gu;rw [show ((((a.length:Nat):Int)==((b.length:Nat):Int)))=true by simp [hlen]];simp only [cond_true,cond_false];rw [JU (show ((a.length:Nat):Int)>10000 by omega)];simp only [cond_true]
 ·rw [JS hlen];unfold gu;rw [show ((((a.length:Nat):Int)==((b.length:Nat):Int)))=false by rw [beq_eq_false_iff_ne];omega];simp only [cond_false]
def JH (v:ah) (x:Value):Bool:=x.Var==v
def look (vs:List Value) (v:ah):Int:=idxOf (JH v) vs
abbrev S1:=List (List Int)×Bool
theorem kz {p:List aa} (h:aL p=true) {m:aa} (hm:m∈p):A5 m=true:=by
 unfold aL at h;rw [JO,J0] at h;obtain ⟨j,hj,rfl⟩:=List.getElem_of_mem hm;have:=h.1 j (by rw [List.mem_range'_1];omega);unfold iB at this;rw [JO] at this;have e:aQ p j=p[j]:=by unfold aQ;rw [JM,JN hj];rfl
 rw [e] at this;exact this.1
abbrev R4:=Bool×Int×Bool×Bool
def r7 (m:aa):Bool:=decide (m.Vars.length≤10)&&m.Vars.all (fun v=>decide (v.length≤40))
def F2 (p:List aa) (n:Int):Bool:=p.all r7&&decide ((p.length:Int)≤n)
theorem yt (p:List aa) (n:Int):ml p n=some (F2 p n):=by
 unfold ml F2;rw [cH (fun j=>r7 (p.getD j ⟨0,[]⟩)) _ _ () (fun j u _ _=>by
  generalize p.getD j ⟨0,[]⟩=m;unfold r7;by_cases h10:m.Vars.length≤10
  ·rw [JS (show ¬ ((m.Vars.length:Nat):Int)>10 by omega),JU h10];simp only [cond_false,Bool.true_and];generalize hbd:(fun (s241:Int)=>_:Int→Option (ff Int Unit (ff Unit Unit Bool)))=body;have key:∀ (rest:List ah) (k fuel:Nat),m.Vars.drop k=rest→k+rest.length=m.Vars.length→rest.length<fuel→mC body fuel ((k:Nat):Int)=some (bif rest.all (fun v=>decide (v.length≤40)) then .brk () else .ret (.ret false)):=by
    intro rest;induction rest with
    | nil =>
     intro k fuel h1 h2 h3;obtain ⟨f,rfl⟩:∃ f,fuel=f+1:=⟨fuel-1,by simp at h3;omega⟩;have e0:body ((k:Nat):Int)=some (.brk ()):=by rw [← hbd];simp only;rw [JS (by simp at h2;omega)];rfl
     simp only [mC,e0,ai,nD];rfl
    | cons v rest ih =>
     intro k fuel h1 h2 h3;obtain ⟨f,rfl⟩:∃ f,fuel=f+1:=⟨fuel-1,by simp at h3;omega⟩;have hk:k<m.Vars.length:=by simp at h2;omega
     have h4:=drop_cons hk;rw [h1] at h4;have hv1:m.Vars.getD k []=v:=(List.cons.inj h4).1.symm;have hv2:m.Vars.drop (k+1)=rest:=(List.cons.inj h4).2.symm;have hw:aS (((k:Nat):Int)+1)=((k+1:Nat):Int):=by rw [ax (by omega) (by omega)];omega
     have e0:body ((k:Nat):Int)=some (bif decide (v.length≤40) then .go ((k+1:Nat):Int) else .ret (.ret false)):=by
      rw [← hbd];simp only;rw [JU (by omega)];simp only [cond_true];rw [aw (by omega),Int.toNat_natCast,hv1,hw];by_cases hv:v.length≤40
      ·rw [JU hv,JS (by omega)];rfl
      ·rw [JS hv,JU (by omega)];rfl
     simp only [mC,e0,ai,List.all_cons];cases decide (v.length≤40) with
     | false=>rfl
     | true =>
      simp only [cond_true,Bool.true_and,nD];exact ih (k+1) f hv2 (by simp at h2;omega) (by simp at h3;omega)
   have hk0:mC body 4294967296 0=_:=key m.Vars 0 4294967296 (by rw [List.drop_zero]) (by omega) (by omega);rw [hk0];cases m.Vars.all (fun v=>decide (v.length≤40))<;>rfl
  ·rw [JU (show ((m.Vars.length:Nat):Int)>10 by omega),JS h10];rfl),dF,Ee r7 ⟨0,[]⟩ p]
 cases p.all r7<;>rfl
theorem IL {p:List aa} {n:Int} (h:F2 p n=true) (hn:n≤1000):Bd p:=by unfold F2 at h;rw [JO,J0,decide_eq_true_eq] at h;refine ⟨by omega,fun m hm => ?_⟩;have:=h.1 m hm;unfold r7 at this;rw [JO,J0,decide_eq_true_eq] at this;exact ⟨by omega,fun v hv=>by have:=this.2 v hv;simp only [decide_eq_true_eq] at this;omega⟩
end Go.Proofs.YtadjhpbkknifeaaGreatDoor
namespace Go.Sh
theorem Fw {V σ ε β:Type} {m:List (ah×V)} {body:ah×V→σ→Option (ff σ ε β)} {K:σ→Prop} {J:β→Prop} (I:List Nat→σ→Prop) (ok:ah×V→Bool) (g:σ→ah×V→σ) (x:β) (hJ:J x)
 (hstep:∀ seen s i (h:i<m.length),seen.Nodup→i ∉ seen→(∀ j∈seen,j<m.length)→I seen s→body m[i] s=some (bif ok m[i] then .go (g s m[i]) else .ret x)∧I (seen++[i]) (g s m[i]))
 (hbad:∃ i,∃ h:i<m.length,ok m[i]=false) :
 ∀ (n:Nat) (seen:List Nat) (s:σ),seen.Nodup→(∀ i∈seen,i<m.length)→(∀ i∈seen,∀ h:i<m.length,ok m[i]=true)→n+seen.length=m.length→I seen s→MR m body K J n seen s
 | 0,seen,s,h1,h2,h4,h3,hI=>by
  obtain ⟨i,hi,hb⟩:=hbad;have hin:i∈seen:=by
   refine Classical.byContradiction fun hn => ?_;have:=iW (i::seen) (List.range m.length) (List.nodup_cons.2 ⟨hn,h1⟩) (fun x hx=>by
    rcases List.mem_cons.1 hx with rfl | hx
    ·simpa using hi
    ·simpa using h2 x hx)
   simp at this;omega
  rw [h4 i hin hi] at hb;cases hb
 | n+1,seen,s,h1,h2,h4,h3,hI=>by
  refine ⟨?_,fun i hi hn => ?_⟩
  ·refine Classical.byContradiction fun hn => ?_;have:=iW (List.range m.length) seen List.nodup_range (fun x hx=>Classical.byContradiction fun hx2=>hn ⟨x,by simpa using hx,hx2⟩);simp at this;omega
  ·obtain ⟨e1,e2⟩:=hstep seen s i hi h1 hn h2 hI;refine ⟨_,e1,?_⟩;cases hok:ok m[i] with
   | false=>exact hJ
   | true =>
    have hnd:(seen++[i]).Nodup:=by
     rw [List.nodup_append];exact ⟨h1,by simp,fun a ha b hb=>by
      have:b=i:=by simpa using hb
      subst this;intro e;subst e;exact hn ha⟩
    exact Fw I ok g x hJ hstep hbad n (seen++[i]) _ hnd (fun j hj=>by
     rcases List.mem_append.1 hj with hj | hj
     ·exact h2 j hj
     ·have:j=i:=by simpa using hj
      subst this;exact hi) (fun j hj h=>by
     rcases List.mem_append.1 hj with hj | hj
     ·exact h4 j hj h
     ·have:j=i:=by simpa using hj
      subst this;exact hok) (by simp;omega) e2
theorem Bn {seen:List Nat} {n:Nat} (h1:seen.Nodup) (h2:∀ i,i<n→i∈seen) (h3:∀ i∈seen,i<n):seen.Perm (List.range n) :=
 (List.perm_ext_iff_of_nodup h1 List.nodup_range).2 fun a=>⟨fun h=>List.mem_range.2 (h3 a h),fun h=>h2 a (List.mem_range.1 h)⟩
end Go.Sh
namespace Go.Proofs.YtadjhpbkknifeaaGreatDoor
open Go.Ab Go.Sh Go.Sort
section
variable {α:Type} (key:α→List ah)
def Bb (x:α):List α→List α
 | []=>[x]
 | y::l=>bif decide (cmpL (key y) (key x)<0) then y::Bb x l else x::y::l
def fD:List α→List α
 | []=>[]
 | x::l=>Bb key x (fD l)
def wA (a b:α):Prop:=cmpL (key a) (key b)<0
theorem rA (x:α):∀ l,(Bb key x l).Perm (x::l)
 | []=>List.Perm.refl _
 | y::l=>by
  unfold Bb;cases decide (cmpL (key y) (key x)<0) with
  | true=>exact ((rA x l).cons y).trans (List.Perm.swap x y l)
  | false=>exact List.Perm.refl _
theorem cQ:∀ l,(fD key l).Perm l
 | []=>List.Perm.refl _
 | x::l=>(rA key x _).trans ((cQ l).cons x)
theorem sH (x:α):∀ {l:List α},l.Pairwise (wA key)→(∀ y∈l,key y≠key x)→(Bb key x l).Pairwise (wA key)
 | [],_,_=>by simp [Bb]
 | y::l,h,hne=>by
  unfold Bb;rw [List.pairwise_cons] at h;by_cases hlt:cmpL (key y) (key x)<0
  ·rw [JU hlt];simp only [cond_true];rw [List.pairwise_cons];refine ⟨fun z hz => ?_,sH x h.2 fun z hz=>hne z (by simp [hz])⟩;rcases List.mem_cons.1 ((rA key x l).mem_iff.1 hz) with rfl | hz
   ·exact hlt
   ·exact h.1 z hz
  ·rw [JS hlt];simp only [cond_false];have hxy:wA key x y:=by have h0:cmpL (key y) (key x)≠0:=fun e=>hne y (by simp) (fI e);exact fQ.2 (by omega)
   rw [List.pairwise_cons];refine ⟨fun z hz => ?_,List.pairwise_cons.2 h⟩;rcases List.mem_cons.1 hz with rfl | hz
   ·exact hxy
   ·exact fE hxy (h.1 z hz)
theorem fW:∀ {l:List α},(l.map key).Nodup→(fD key l).Pairwise (wA key)
 | [],_=>by simp [fD]
 | x::l,h=>by rw [List.map_cons,List.nodup_cons] at h;refine sH key x (fW h.2) fun y hy e=>h.1 ?_;rw [← e];exact List.mem_map.2 ⟨y,(cQ key l).mem_iff.1 hy,rfl⟩
theorem DT {a b:α} (h1:wA key a b) (h2:wA key b a):a=b:=by have:=fE h1 h2;rw [gC] at this;omega
theorem pK {a b:List α} (h1:a.Pairwise (wA key)) (h2:b.Pairwise (wA key)) (h:a.Perm b):a=b :=
 List.Perm.eq_of_pairwise (fun _ _ _ _=>DT key) h1 h2 h
theorem Gc {l:List α} (h:(l.map key).Nodup):jD (fun x y=>cmpL (key x) (key y)) l=fD key l:=by
 refine pK key ?_ (fW key h) ((List.mergeSort_perm l _).trans (cQ key l).symm);have hsw:=qB AL key;have h1:(jD (fun x y=>cmpL (key x) (key y)) l).Pairwise (fun a b => !(ltOf (fun x y=>cmpL (key x) (key y)) b a)):=by
  refine List.pairwise_mergeSort (fun a b c hab hbc => ?_) (fun a b => ?_) l
  ·simp only [Bool.not_eq_true'] at *;exact hsw.ntrans _ _ _ hbc hab
  ·cases h2:ltOf (fun x y=>cmpL (key x) (key y)) b a with
   | false=>rfl
   | true =>
    cases h3:ltOf (fun x y=>cmpL (key x) (key y)) a b with
    | false=>rfl
    | true=>have:=hsw.trans _ _ _ h2 h3;rw [hsw.irrefl] at this;cases this
 have hnd:((jD (fun x y=>cmpL (key x) (key y)) l).map key).Nodup:=((List.mergeSort_perm l _).map key).nodup_iff.2 h;have h2:(jD (fun x y=>cmpL (key x) (key y)) l).Pairwise (fun a b=>key a≠key b):=List.pairwise_map.1 hnd;refine (h1.and h2).imp fun {a b} ⟨k1,k2⟩ => ?_;have k3:¬ cmpL (key b) (key a)<0:=by simpa [ltOf] using k1
 have k4:cmpL (key b) (key a)≠0:=fun e=>k2 (fI e).symm;exact fQ.2 (by omega)
theorem xT {a b:List α} (h:a.Perm b) (hb:(b.map key).Nodup):fD key a=fD key b :=
 pK key (fW key ((h.map key).nodup_iff.2 hb)) (fW key hb) ((cQ key a).trans (h.trans (cQ key b).symm))
end
abbrev MV:=List (ah×List ah)
abbrev MI:=List (ah×List Int)
def xW (x1 x2:MI) (e:ah×List ah):Int×Int:=yB (dx [] e.1 x1) (dx [] e.1 x2)
def mh (x1 x2:MI) (e:ah×List ah):Bool:=(xW x1 x2 e).2==0
def iZ (x1 x2:MI) (e:ah×List ah):List aa:=bif (xW x1 x2 e).1==0 then [] else [⟨(xW x1 x2 e).1,e.2⟩]
def nC (x0:MV) (x1 x2:MI):List aa:=(x0.map (iZ x1 x2)).flatten
def FZ (x0:MV) (x1 x2:MI):List aa×Int :=
 bif x0.all (mh x1 x2) then (bif aL (fD aa.Vars (nC x0 x1 x2)) then (fD aa.Vars (nC x0 x1 x2),0) else ([],3)) else ([],3)
theorem qc {x1 x2:MI} {e:ah×List ah} {m:aa} (h:m∈iZ x1 x2 e):m.Vars=e.2:=by
 unfold iZ at h;cases hz:(xW x1 x2 e).1==0 with
 | true=>rw [hz] at h;cases h
 | false=>rw [hz] at h;simp only [cond_false,List.mem_singleton] at h;rw [h]
theorem xG (x1 x2:MI) (e:ah×List ah):(iZ x1 x2 e).length≤1:=by unfold iZ;cases (xW x1 x2 e).1==0<;>simp
theorem xi (x1 x2:MI):∀ (x0:MV),(x0.map (·.2)).Nodup→((nC x0 x1 x2).map aa.Vars).Nodup
 | [],_=>by simp [nC]
 | e::x0,h=>by
  rw [List.map_cons,List.nodup_cons] at h;have ih:=xi x1 x2 x0 h.2;unfold nC at *;rw [List.map_cons,List.flatten_cons,List.map_append,List.nodup_append];refine ⟨?_,ih,?_⟩
  ·unfold iZ;cases (xW x1 x2 e).1==0<;>simp
  ·rintro a ha b hb rfl;obtain ⟨m,hm,rfl⟩:=List.mem_map.1 ha;obtain ⟨m',hm',e2⟩:=List.mem_map.1 hb;obtain ⟨l,hl,hml⟩:=List.mem_flatten.1 hm';obtain ⟨e',he',rfl⟩:=List.mem_map.1 hl;rw [qc hm,qc hml] at e2;exact h.1 (List.mem_map.2 ⟨e',he',e2⟩)
theorem vt (x1 x2:MI):∀ (x0:MV),(nC x0 x1 x2).length≤x0.length
 | []=>by simp [nC]
 | e::x0=>by have ih:=vt x1 x2 x0;have h1:=xG x1 x2 e;unfold nC at *;rw [List.map_cons,List.flatten_cons,List.length_append,List.length_cons];omega
def EB (x0:MV) (i:Nat):ah×List ah:=x0.getD i ([],[])
theorem DE (x0:MV):(List.range x0.length).map (EB x0)=x0:=by refine List.ext_getElem (by simp) fun i h1 h2=>by simp [EB,JM,h2]
theorem FP {x0:MV} {i:Nat} (h:i<x0.length):EB x0 i=x0[i]:=by simp [EB,JM,h]
theorem rX (x0:MV) (x1 x2:MI) (h1:(x0.map (·.2)).Nodup) (hn:x0.length≤1000000) (hb:∀ e∈x0,e.2.length≤1000000∧∀ v∈e.2,v.length≤1000000):cg x0 x1 x2=some (FZ x0 x1 x2):=by
 unfold cg FZ;have hbody:∀ (e:ah×List ah) (s:List aa),s.length≤1000000→((gG (dx [] e.1 x1) (dx [] e.1 x2)).bind fun y109=>bif (y109.2==0) then (bif (y109.1==0) then (some (.go s):Option (ff (List aa) Empty (List aa×Int))) else (bZ ((s.length+1)*32≤140737488355328) <| some (.go (s++[(aa.mk y109.1 e.2)])))) else (some (.ret ([],3))))=some (bif mh x1 x2 e then .go (s++iZ x1 x2 e) else .ret ([],3)):=fun e s hs=>by
  rw [ue];simp only [ai];unfold mh iZ xW;generalize yB (dx [] e.1 x1) (dx [] e.1 x2)=c;cases c.2==0 with
  | false=>rfl
  | true =>
   cases c.1==0 with
   | true=>simp
   | false =>
    simp only [cond_true,cond_false];rw [aw (by omega)]
 have hIlen:∀ (seen:List Nat),seen.Nodup→(∀ j∈seen,j<x0.length)→((seen.map fun i=>iZ x1 x2 (EB x0 i)).flatten).length≤1000000:=fun seen k1 k2=>by
  have h3:=iW seen (List.range x0.length) k1 (fun x hx=>List.mem_range.2 (k2 x hx));rw [List.length_range] at h3;have h4:∀ l:List Nat,((l.map fun i=>iZ x1 x2 (EB x0 i)).flatten).length≤l.length:=by
   intro l;induction l with
   | nil=>simp
   | cons a l ih =>
    have:=xG x1 x2 (EB x0 a);rw [List.map_cons,List.flatten_cons,List.length_append,List.length_cons];omega
  have:=h4 seen;omega
 cases hall:x0.all (mh x1 x2) with
 | true =>
  simp only [cond_true];have hok:∀ i (h:i<x0.length),mh x1 x2 x0[i]=true:=fun i h=>J0.1 hall _ (List.getElem_mem h);refine Ae (HE (fun seen s=>s=(seen.map fun i=>iZ x1 x2 (EB x0 i)).flatten) (fun s e=>s++iZ x1 x2 e) (fun seen s i h k1 k2 k3 hI => ?_) (fun seen s k1 k2 k3 hI => ?_) x0.length [] [] List.nodup_nil (fun i hi=>by cases hi) (by simp) rfl)
  ·refine ⟨?_,?_⟩
   ·rw [hbody _ _ (by rw [hI];exact hIlen seen k1 k3),hok i h];rfl
   ·rw [hI,List.map_append,List.flatten_append];simp [FP h]
  ·have hp:=((Bn k1 k2 k3).map fun i=>iZ x1 x2 (EB x0 i)).flatten;rw [← hI] at hp;have e1:((List.range x0.length).map fun i=>iZ x1 x2 (EB x0 i)).flatten=nC x0 x1 x2:=by
    unfold nC;conv=>rhs;rw [← DE x0]
    rw [List.map_map];rfl
   rw [e1] at hp;have hk:=xi x1 x2 x0 h1;have hs:jO (fun x=>x.Vars) s=some (fD aa.Vars (nC x0 x1 x2)):=by have hnd:=(hp.map aa.Vars).nodup_iff.2 hk;have hlen:=hp.length_eq;have hl2:=vt x1 x2 x0;unfold jO;rw [aw ⟨by omega,hnd⟩];exact congrArg some ((Gc aa.Vars hnd).trans (xT aa.Vars hp hk))
   show ((jO (fun x=>x.Vars) s).bind fun y91=>(bo y91).bind fun y94=>bif y94 then some (y91,0) else some ([],3))=_;rw [hs];simp only [ai];have hBd:Bd (fD aa.Vars (nC x0 x1 x2)):=by
    refine ⟨?_,fun m hm => ?_⟩
    ·have:=(cQ aa.Vars (nC x0 x1 x2)).length_eq;have hl2:=vt x1 x2 x0;omega
    ·have hm:=(cQ aa.Vars (nC x0 x1 x2)).mem_iff.1 hm;unfold nC at hm;obtain ⟨l,hl,hml⟩:=List.mem_flatten.1 hm;obtain ⟨e',he',rfl⟩:=List.mem_map.1 hl;rw [qc hml];exact hb e' he'
   rw [b9 _ hBd];simp only [ai];cases aL (fD aa.Vars (nC x0 x1 x2))<;>rfl
 | false =>
  have hbad:∃ i,∃ h:i<x0.length,mh x1 x2 x0[i]=false:=by
   have:¬ (x0.all (mh x1 x2)=true):=by rw [hall];simp
   rw [J0] at this;refine Classical.byContradiction fun hn=>this fun e he => ?_;obtain ⟨i,hi,rfl⟩:=List.getElem_of_mem he;cases hq:mh x1 x2 x0[i] with
   | true=>rfl
   | false=>exact absurd ⟨i,hi,hq⟩ hn
  rw [cond_false];refine Ae (Fw (J:=fun x=>x=(([],3):List aa×Int)) (fun seen s=>s=(seen.map fun i=>iZ x1 x2 (EB x0 i)).flatten) (mh x1 x2) (fun s e=>s++iZ x1 x2 e) ([],3) rfl (fun seen s i h k1 k2 k3 hI => ?_) hbad x0.length [] [] List.nodup_nil (fun i hi=>by cases hi) (fun i hi=>by cases hi) (by simp) rfl);refine ⟨hbody _ _ (by rw [hI];exact hIlen seen k1 k3),?_⟩;rw [hI,List.map_append,List.flatten_append];simp [FP h]
end Go.Proofs.YtadjhpbkknifeaaGreatDoor
namespace Go.Sh
open Go.Ab
section
variable {V:Type}
theorem nF (d:V) (x y:ah) (v:V):∀ m:List (ah×V),dx d y (di x v m)=if x=y then v else dx d y m
 | []=>by simp [di,dx]
 | (k,u)::m=>by
  by_cases h:k=x
  ·subst h;simp only [di,dx,if_pos];by_cases h2:k=y
   ·simp [h2]
   ·simp [h2]
  ·simp only [di,if_neg h,dx];rw [nF d x y v m];by_cases h2:k=y
   ·subst h2;simp [Ne.symm h]
   ·simp [h2]
theorem uP (x:ah) (v:V):∀ m:List (ah×V),(di x v m).map (·.1)=if x∈m.map (·.1) then m.map (·.1) else m.map (·.1)++[x]
 | []=>by simp [di]
 | (k,u)::m=>by
  by_cases h:k=x
  ·subst h;simp [di]
  ·simp only [di,if_neg h,List.map_cons,uP x v m,List.mem_cons,Ne.symm h,false_or];split<;>simp
theorem DB {x:ah} {v:V} {m:List (ah×V)} (h:(m.map (·.1)).Nodup):((di x v m).map (·.1)).Nodup:=by
 rw [uP];split
 ·exact h
 ·rename_i hx;rw [List.nodup_append];refine ⟨h,by simp,fun a ha b hb => ?_⟩;have:b=x:=by simpa using hb
  subst this;intro e;subst e;exact hx ha
theorem yE (x:ah) (v:V) (m:List (ah×V)):(di x v m).length≤m.length+1:=by have:=congrArg List.length (uP x v m);rw [JV] at this;rw [this];split<;>simp
theorem Cw {x:ah} {v:V} {e:ah×V}:∀ {m:List (ah×V)},e∈di x v m→e=(x,v)∨e∈m
 | [],h=>by simp [di] at h;exact .inl h
 | (k,u)::m,h=>by
  by_cases hk:k=x
  ·simp only [di,if_pos hk,List.mem_cons] at h;rcases h with h | h
   ·exact .inl h
   ·exact .inr (by simp [h])
  ·simp only [di,if_neg hk,List.mem_cons] at h;rcases h with h | h
   ·exact .inr (by simp [h])
   ·rcases Cw h with h | h
    ·exact .inl h
    ·exact .inr (by simp [h])
theorem yG (x:ah) (v:V):∀ m:List (ah×V),(x,v)∈di x v m
 | []=>by simp [di]
 | (k,u)::m=>by
  by_cases hk:k=x
  ·simp [di,hk]
  ·simp only [di,if_neg hk,List.mem_cons];exact .inr (yG x v m)
theorem Cu {x:ah} {v:V} {e:ah×V} (hne:e.1≠x):∀ {m:List (ah×V)},e∈m→e∈di x v m
 | [],h=>by cases h
 | (k,u)::m,h=>by
  by_cases hk:k=x
  ·simp only [di,if_pos hk,List.mem_cons] at h ⊢;rcases h with h | h
   ·exact absurd (by rw [h];exact hk) hne
   ·exact .inr h
  ·simp only [di,if_neg hk,List.mem_cons] at h ⊢;rcases h with h | h
   ·exact .inl h
   ·exact .inr (Cu hne h)
end
def jn:List ah→ah
 | []=>[]
 | [x]=>x
 | x::y::l=>x++42::jn (y::l)
theorem CG:∀ l:List ah,Lib.join l [42]=jn l
 | []=>rfl
 | [x]=>by simp [jn,Lib.join,List.intercalate]
 | x::y::l=>by have ih:=CG (y::l);simp only [jn,← ih];simp [Lib.join,List.intercalate,List.intersperse]
def Jl (v:ah):Prop:=v≠[]∧(42:UInt8) ∉ v
theorem Cf:∀ {x y r s:ah},(42:UInt8) ∉ x→(42:UInt8) ∉ y→x++42::r=y++42::s→x=y∧r=s
 | [],[],r,s,_,_,h=>by simpa using h
 | [],b::y,r,s,_,hy,h=>by
  simp only [List.nil_append,List.cons_append,List.cons.injEq] at h;exact absurd (by rw [h.1];simp) hy
 | a::x,[],r,s,hx,_,h=>by
  simp only [List.nil_append,List.cons_append,List.cons.injEq] at h;exact absurd (by rw [← h.1];simp) hx
 | a::x,b::y,r,s,hx,hy,h=>by simp only [List.cons_append,List.cons.injEq] at h;obtain ⟨e1,e2⟩:=Cf (fun k=>hx (by simp [k])) (fun k=>hy (by simp [k])) h.2;exact ⟨by rw [h.1,e1],e2⟩
theorem AA {x y r:ah} (hy:(42:UInt8) ∉ y) (h:x++42::r=y):False:=hy (by rw [← h];simp)
theorem FW:∀ {l m:List ah},(∀ v∈l,Jl v)→(∀ v∈m,Jl v)→jn l=jn m→l=m
 | [],[],_,_,_=>rfl
 | [],[y],_,hm,h=>absurd h.symm (hm y (by simp)).1
 | [],y::z::m,_,_,h=>by
  have:([]:ah)=y++42::jn (z::m):=h;exact absurd (congrArg List.length this) (by simp)
 | [x],[],hl,_,h=>absurd h (hl x (by simp)).1
 | x::y::l,[],_,_,h=>by
  have:x++42::jn (y::l)=([]:ah):=h;exact absurd (congrArg List.length this) (by simp)
 | [x],[y],_,_,h=>by rw [show x=y from h]
 | [x],y::z::m,hl,_,h=>(AA (hl x (by simp)).2 (show y++42::jn (z::m)=x from h.symm)).elim
 | x::y::l,[z],_,hm,h=>(AA (hm z (by simp)).2 (show x++42::jn (y::l)=z from h)).elim
 | x::y::l,z::w::m,hl,hm,h=>by obtain ⟨e1,e2⟩:=Cf (hl x (by simp)).2 (hm z (by simp)).2 (show x++42::jn (y::l)=z++42::jn (w::m) from h);rw [e1,FW (fun v hv=>hl v (by simp [hv])) (fun v hv=>hm v (by simp [hv])) e2]
theorem Fu:∀ {l:List ah} {k:Nat},(∀ v∈l,v.length≤k)→(jn l).length≤l.length*(k+1)
 | [],k,_=>by simp [jn]
 | [x],k,h=>by have:=h x (by simp);simp [jn];omega
 | x::y::l,k,h=>by
  have h1:=h x (by simp);have ih:=Fu (l:=y::l) (k:=k) (fun v hv=>h v (by simp [hv]));have e:(jn (x::y::l)).length=x.length+(jn (y::l)).length+1:=by simp [jn];omega
  rw [e,List.length_cons,Nat.add_mul];omega
end Go.Sh
namespace Go.Proofs.YtadjhpbkknifeaaGreatDoor
open Go.Ab Go.Sh Go.Sort
def kN (xs:List ah):Option (List ah):=bZ (xs.length*16≤140737488355328) <| some (bQ xs)
theorem xt:gv=kN:=funext fun xs=>by unfold gv kN;rw [ua]
def BU (x0:(List ah)) (x1:Int) (x2:Int) (x3:MV) (x4:MI) (x5:MI):Option (MV×MI×MI) :=
 (je x0).bind fun y18 =>
 (kN y18).bind fun y21 =>
 (iU y21 [42]).bind fun y24 =>
 bZ (((dx [] y24 x4).length+[x1].length)*8≤140737488355328) <|
 bZ (((dx [] y24 x5).length+[x2].length)*8≤140737488355328) <|
 bZ (x4.length+1<1000000) <|
 bZ (x5.length+1<1000000) <|
 some ((di y24 y21 x3),(di y24 ((dx [] y24 x4)++[x1]) x4),(di y24 ((dx [] y24 x5)++[x2]) x5))
theorem FI:bW=BU:=by funext x0 x1 x2 x3 x4 x5;unfold bW BU;rw [xt]
def CL (x0:Linear):Option (MV×MI×MI) :=
 (eQ x0).bind fun y1=>bif y1 then (
  (BU [] x0.Const 1 [] [] []).bind fun y11 =>
  (cL (σ:=(MI×MI×MV)) (ε:=(MI×MI×MV)) (ρ:=Empty) (fun i37 s36 =>
   (BU [((x0.Terms.getD i37 ⟨[],0⟩).Var)] ((x0.Terms.getD i37 ⟨[],0⟩).C) 1 s36.2.2 s36.1 s36.2.1).bind fun y62 =>
   some (.go (y62.2.1,y62.2.2,y62.1))
  ) (fun i37 s36=>(s36.1,s36.2.1,s36.2.2)) (x0.Terms.length-0) 0 (y11.2.1,y11.2.2,y11.1)).bind <| aftE fun u70 =>
  some (u70.2.2,u70.1,u70.2.1)) else none
def CU (x0:MV):Prop:=(x0.map (·.2)).Nodup∧x0.length≤1000000∧∀ e∈x0,e.2.length≤1000000∧∀ v∈e.2,v.length≤1000000
theorem Gg {x0:Linear} {M:MV×MI×MI} (h:CL x0=some M) (hg:CU M.1):dn x0=some (FZ M.1 M.2.1 M.2.2):=by
 unfold CL at h;unfold dn;rw [FI];cases h1:eQ x0 with
 | none=>rw [h1] at h;cases h
 | some b =>
  rw [h1] at h;cases b with
  | false=>cases h
  | true =>
   simp only [Option.bind_some,cond_true] at h ⊢;rw [show cX=some ([],[],[]) from rfl];simp only [Option.bind_some];cases h2:BU [] x0.Const 1 [] [] [] with
   | none=>rw [h2] at h;cases h
   | some y =>
    rw [h2] at h;simp only [Option.bind_some] at h ⊢;generalize cL (σ:=(MI×MI×MV)) (ε:=(MI×MI×MV)) (ρ:=Empty) (fun i37 s36 =>
     (BU [((x0.Terms.getD i37 ⟨[],0⟩).Var)] ((x0.Terms.getD i37 ⟨[],0⟩).C) 1 s36.2.2 s36.1 s36.2.1).bind fun y62 =>
     some (.go (y62.2.1,y62.2.2,y62.1))
    ) (fun i37 s36=>(s36.1,s36.2.1,s36.2.2)) (x0.Terms.length-0) 0 (y.2.1,y.2.2,y.1)=o at h ⊢
    cases o with
    | none=>cases h
    | some o =>
     cases o with
     | ret e=>cases e
     | brk u =>
      have h:some (u.2.2,u.1,u.2.1)=some M:=h;cases h;show ((cg u.2.2 u.1 u.2.1).bind fun y73=>some (y73.1,y73.2))=_;rw [rX _ _ _ hg.1 hg.2.1 hg.2.2];rfl
def EN (x0:aa) (x1:aa) (x2:MV) (x3:MI) (x4:MI):Option (MV×MI×MI) :=
 (gF [x0.Vars,x1.Vars]).bind fun y7=>(BU y7 x0.Coef x1.Coef x2 x3 x4).bind fun y10=>some (y10.1,y10.2.1,y10.2.2)
def vS (x0:(List aa)) (x1:(List aa)) (x2:MV) (x3:MI) (x4:MI):Option (MV×MI×MI) :=
 (cL (σ:=(MV×MI×MI)) (ε:=(MV×MI×MI)) (ρ:=(MV×MI×MI)) (fun i303 s302 =>
  (cL (σ:=(MV×MI×MI)) (ε:=(MV×MI×MI)) (ρ:=Empty) (fun i341 s340 =>
   (EN (aa.mk ((x0.getD i303 ⟨0,[]⟩).Coef) ((x0.getD i303 ⟨0,[]⟩).Vars)) (aa.mk ((x1.getD i341 ⟨0,[]⟩).Coef) ((x1.getD i341 ⟨0,[]⟩).Vars)) s340.1 s340.2.1 s340.2.2).bind fun y366 =>
   some (.go (y366.1,y366.2.1,y366.2.2))
  ) (fun i341 s340=>(s340.1,s340.2.1,s340.2.2)) (x1.length-0) 0 (s302.1,s302.2.1,s302.2.2)).bind <| aftE fun u374 =>
  some (.go (u374.1,u374.2.1,u374.2.2))
 ) (fun i303 s302=>(s302.1,s302.2.1,s302.2.2)) (x0.length-0) 0 (x2,x3,x4)).bind <| Sh.aft some
theorem EW:bq=vS:=by
 have h:dX=EN:=by funext x0 x1 x2 x3 x4;unfold dX EN;rw [FI]
 funext x0 x1 x2 x3 x4;unfold bq vS;rw [h]
theorem Dc {a b:List aa} {M:MV×MI×MI} (h:vS a b [] [] []=some M) (hg:CU M.1):eH a b=some (FZ M.1 M.2.1 M.2.2):=by unfold eH;rw [show cX=some ([],[],[]) from rfl];simp only [Option.bind_some];rw [EW,h];simp only [Option.bind_some];rw [rX _ _ _ hg.1 hg.2.1 hg.2.2];rfl
def HU:Linear:=Linear.mk (-1) [Coef.mk [110] 1]
def Ir:Linear:=Linear.mk 1 [Coef.mk [110] 1]
theorem IG:CL HU=some ([([],[]),([110],[[110]])],[([],[-1]),([110],[1])],[([],[1]),([110],[1])]):=by kernel_rfl
theorem HZ:CL Ir=some ([([],[]),([110],[[110]])],[([],[1]),([110],[1])],[([],[1]),([110],[1])]):=by kernel_rfl
theorem Gp:CU [([],[]),([110],[[110]])]:=⟨by decide,by decide,by decide⟩
theorem JK:dn HU=some ([⟨-1,[]⟩,⟨1,[[110]]⟩],0):=by rw [Gg IG Gp];kernel_rfl
theorem JL:dn Ir=some ([⟨1,[]⟩,⟨1,[[110]]⟩],0):=by rw [Gg HZ Gp];kernel_rfl
theorem GZ:vS [⟨1,[]⟩] [⟨-1,[]⟩,⟨1,[[110]]⟩] [] [] []=some ([([],[]),([110],[[110]])],[([],[1]),([110],[1])],[([],[-1]),([110],[1])]):=by kernel_rfl
theorem Ju:eH [⟨1,[]⟩] [⟨-1,[]⟩,⟨1,[[110]]⟩]=some ([⟨-1,[]⟩,⟨1,[[110]]⟩],0):=by rw [Dc GZ Gp];kernel_rfl
theorem GK:vS [⟨-1,[]⟩,⟨1,[[110]]⟩] [⟨1,[]⟩,⟨1,[[110]]⟩] [] [] []=some ([([],[]),([110],[[110]]),([110,42,110],[[110],[110]])],[([],[-1]),([110],[-1,1]),([110,42,110],[1])],[([],[1]),([110],[1,1]),([110,42,110],[1])]):=by kernel_rfl
theorem Jm:CU [([],[]),([110],[[110]]),([110,42,110],[[110],[110]])]:=⟨by decide,by decide,by decide⟩
theorem Jv:eH [⟨-1,[]⟩,⟨1,[[110]]⟩] [⟨1,[]⟩,⟨1,[[110]]⟩]=some ([⟨-1,[]⟩,⟨1,[[110],[110]]⟩],0):=by rw [Dc GK Jm];kernel_rfl
theorem Bz:cz [HU,Ir]=some ([⟨-1,[]⟩,⟨1,[[110],[110]]⟩],0):=by unfold cz;simp only [List.length_cons,List.length_nil,Nat.zero_add,Nat.sub_zero,Nat.reduceAdd,cL,List.getD_cons_zero,List.getD_cons_succ];rw [show (Linear.mk HU.Const HU.Terms)=HU from rfl,show (Linear.mk Ir.Const Ir.Terms)=Ir from rfl,JK,JL];simp only [Option.bind_some,nD,Sh.aft,beq_self_eq_true,cond_true,List.nil_append];rw [aw (by decide)];simp only [Option.bind_some,nD,Sh.aft,beq_self_eq_true,cond_true,List.nil_append,List.cons_append];rw [aw (by decide)];simp only [Option.bind_some,nD,Sh.aft,List.length_cons,List.length_nil,Nat.zero_add,Nat.sub_zero,Nat.reduceAdd,cL,List.getD_cons_zero,List.getD_cons_succ,Ju,beq_self_eq_true,cond_true];rw [Jv];simp only [Option.bind_some,nD,Sh.aft,beq_self_eq_true,cond_true]
theorem Ew:np [50,42,109,42,110,94,50]=some ([⟨2,[[109],[110],[110]]⟩],0):=by kernel_rfl
theorem GI:o7 [⟨2,[[109],[110],[110]]⟩] [(Value.mk [109] 3),(Value.mk [110] (-1))]=some (6,0):=by kernel_rfl
theorem E4:jY [⟨-1,[]⟩,⟨1,[[110],[110]]⟩]=some [45,49,43,110,94,50]:=by kernel_rfl
theorem Gr:bo [⟨2,[[109],[110],[110]]⟩]=some true:=by kernel_rfl
theorem D3:kO [⟨2,[[109],[110],[110]]⟩]=some 3:=by kernel_rfl
theorem sk:ja=some true:=by unfold ja;rw [show [(Linear.mk (-1) [(Coef.mk [110] 1)]),(Linear.mk 1 [(Coef.mk [110] 1)])]=[HU,Ir] from rfl,Bz,Ew];simp only [Option.bind_some];rw [GI];simp only [Option.bind_some];rw [E4,Gr,D3];rfl
abbrev jx:=List ah×Int×Int
def aJ:List jx→List ah→Int
 | [],_=>0
 | c::L,V=>(if c.1=V then c.2.1*c.2.2 else 0)+aJ L V
theorem gZ:∀ (L M:List jx) (V:List ah),aJ (L++M) V=aJ L V+aJ M V
 | [],M,V=>by simp [aJ]
 | c::L,M,V=>by simp only [List.cons_append,aJ,gZ L M V];omega
def nR (L:List jx) (V:List ah):List Int:=(L.filter fun c=>decide (c.1=V)).map fun c=>c.2.1
def qg (L:List jx) (V:List ah):List Int:=(L.filter fun c=>decide (c.1=V)).map fun c=>c.2.2
theorem xF (f:Nat→Int):∀ n,sd f (n+1)=f 0+sd (fun i=>f (i+1)) n
 | 0=>by simp [sd]
 | n+1=>by have:=xF f n;rw [show sd f (n+1+1)=sd f (n+1)+f (n+1) from rfl,this];rw [show sd (fun i=>f (i+1)) (n+1)=sd (fun i=>f (i+1)) n+f (n+1) from rfl];omega
theorem rW:∀ (L:List jx) (V:List ah),sd (zx (nR L V) (qg L V)) (nR L V).length=aJ L V
 | [],V=>rfl
 | c::L,V=>by
  have ih:=rW L V;by_cases h:c.1=V
  ·have e1:nR (c::L) V=c.2.1::nR L V:=by simp [nR,h]
   have e2:qg (c::L) V=c.2.2::qg L V:=by simp [qg,h]
   rw [e1,e2,List.length_cons,xF];have e3:(fun i=>zx (c.2.1::nR L V) (c.2.2::qg L V) (i+1))=zx (nR L V) (qg L V):=by funext i;simp [zx]
   rw [e3,ih];simp [aJ,h,zx]
  ·have e1:nR (c::L) V=nR L V:=by simp [nR,h]
   have e2:qg (c::L) V=qg L V:=by simp [qg,h]
   rw [e1,e2,ih];simp [aJ,h]
theorem r6 {L:List jx} {V:List ah} (h:aJ L V≠0):∃ c∈L,c.1=V:=by
 induction L with
 | nil=>exact absurd rfl h
 | cons c L ih =>
  by_cases hc:c.1=V
  ·exact ⟨c,by simp,hc⟩
  ·have:aJ L V≠0:=by simpa [aJ,hc] using h
   obtain ⟨c',h1,h2⟩:=ih this;exact ⟨c',by simp [h1],h2⟩
def CV (V:List ah):Prop:=V.length≤1000∧∀ v∈V,Jl v∧v.length≤1000
def Bc (c:jx):Prop:=CV c.1∧gf c.2.1=true∧gf c.2.2=true
structure hZ (L:List jx) (x3:MV) (x4 x5:MI):Prop where
 e1:∀ e∈x3,e.1=jn e.2∧∃ c∈L,c.1=e.2
 e2:∀ c∈L,(jn c.1,c.1)∈x3
 nd:(x3.map (·.1)).Nodup
 ma:∀ V,CV V→dx [] (jn V) x4=nR L V
 mb:∀ V,CV V→dx [] (jn V) x5=qg L V
 l3:x3.length≤L.length
 l4:x4.length≤L.length
 l5:x5.length≤L.length
theorem hZ.nil:hZ [] [] [] []:=⟨fun e he=>(by cases he),fun c hc=>(by cases hc),by simp,fun V _=>rfl,fun V _=>rfl,by simp,by simp,by simp⟩
theorem B7 {V W:List ah} (hV:CV V) (hW:CV W) (h:jn V=jn W):V=W:=FW (fun v hv=>(hV.2 v hv).1) (fun v hv=>(hW.2 v hv).1) h
theorem qS (L:List jx) (V:List ah):(nR L V).length≤L.length:=by unfold nR;rw [JV];exact List.length_filter_le _ _
theorem tW (L:List jx) (V:List ah):(qg L V).length=(nR L V).length:=by unfold nR qg;rw [JV,JV]
theorem vP {V:List ah} (h:CV V):CV (bQ V):=⟨by rw [(iq V).length_eq];exact h.1,fun v hv=>h.2 v ((iq V).mem_iff.1 hv)⟩
theorem tO {L:List jx} {x3:MV} {x4 x5:MI} (h:hZ L x3 x4 x5) (hL:∀ c∈L,Bc c) (hn:L.length≤900000) {V0:List ah} {a b:Int} (hV:CV V0) :
 ∃ y,bW V0 a b x3 x4 x5=some y∧hZ (L++[(bQ V0,a,b)]) y.1 y.2.1 y.2.2:=by
 have hS:=vP hV;refine ⟨(di (jn (bQ V0)) (bQ V0) x3,di (jn (bQ V0)) (nR L (bQ V0)++[a]) x4,di (jn (bQ V0)) (qg L (bQ V0)++[b]) x5),?_,?_⟩
 ·unfold bW;have e1:je V0=some V0:=rfl;have e2:gv V0=some (bQ V0):=by rw [xt];unfold kN;rw [aw (by have:=hV.1;omega)]
  have e3:iU (bQ V0) [42]=some (jn (bQ V0)):=by unfold iU;rw [CG];have h1:=Fu (l:=bQ V0) (k:=1000) (fun v hv=>(hS.2 v hv).2);have h2:=hS.1;have h3:(bQ V0).length*(1000+1)≤1000*1001:=Nat.mul_le_mul_right _ h2;rw [aw ⟨by omega,by omega⟩]
  rw [e1];simp only [ai];rw [e2];simp only [ai];rw [e3];simp only [ai];rw [h.ma _ hS,h.mb _ hS];have l1:=qS L (bQ V0);have l2:=tW L (bQ V0);have l4:=h.l4;have l5:=h.l5;rw [aw (by simp;omega),aw (by simp;omega),aw (by omega),aw (by omega)]
 ·refine ⟨fun e he => ?_,fun c hc => ?_,DB h.nd,fun V hV2 => ?_,fun V hV2 => ?_,?_,?_,?_⟩
  ·rcases Cw he with rfl | he
   ·exact ⟨rfl,(bQ V0,a,b),by simp,rfl⟩
   ·obtain ⟨k1,c,k2,k3⟩:=h.e1 e he;exact ⟨k1,c,by simp [k2],k3⟩
  ·rcases List.mem_append.1 hc with hc | hc
   ·by_cases hj:jn c.1=jn (bQ V0)
    ·have:=B7 (hL c hc).1 hS hj;rw [this];exact yG _ _ _
    ·exact Cu hj (h.e2 c hc)
   ·have:c=(bQ V0,a,b):=by simpa using hc
    rw [this];exact yG _ _ _
  ·show dx [] (jn V) (di (jn (bQ V0)) (nR L (bQ V0)++[a]) x4)=_;rw [nF];by_cases hj:jn (bQ V0)=jn V
   ·rw [if_pos hj];have:=B7 hS hV2 hj;subst this;simp [nR]
   ·rw [if_neg hj,h.ma V hV2];have:¬ bQ V0=V:=fun e=>hj (by rw [e]);simp [nR,this]
  ·show dx [] (jn V) (di (jn (bQ V0)) (qg L (bQ V0)++[b]) x5)=_;rw [nF];by_cases hj:jn (bQ V0)=jn V
   ·rw [if_pos hj];have:=B7 hS hV2 hj;subst this;simp [qg]
   ·rw [if_neg hj,h.mb V hV2];have:¬ bQ V0=V:=fun e=>hj (by rw [e]);simp [qg,this]
  ·have:=yE (jn (bQ V0)) (bQ V0) x3;have:=h.l3;simp;omega
  ·have:=yE (jn (bQ V0)) (nR L (bQ V0)++[a]) x4;have:=h.l4;simp;omega
  ·have:=yE (jn (bQ V0)) (qg L (bQ V0)++[b]) x5;have:=h.l5;simp;omega
structure bE (f:List ah→Int) (p:List aa):Prop where
 st:p.Pairwise (wA aa.Vars)
 mem:∀ m,m∈p↔(m.Coef≠0∧m.Coef=f m.Vars)
theorem oV {p:List aa} (h:p.Pairwise (wA aa.Vars)):p.Nodup:=h.imp fun {a b} hab e=>by subst e;unfold wA at hab;rw [gC] at hab;omega
theorem bE.uniq {f:List ah→Int} {p q:List aa} (hp:bE f p) (hq:bE f q):p=q :=
 pK aa.Vars hp.st hq.st ((List.perm_ext_iff_of_nodup (oV hp.st) (oV hq.st)).2 fun m=>by rw [hp.mem,hq.mem])
def limited (p:List aa):List aa×Int:=bif aL p then (p,0) else ([],3)
def lS (L:List jx) (x3:MV):List aa:=(x3.map fun e=>bif aJ L e.2==0 then [] else [aa.mk (aJ L e.2) e.2]).flatten
theorem ru {L:List jx} {x3:MV} {m:aa}:m∈lS L x3↔∃ e∈x3,aJ L e.2≠0∧m=⟨aJ L e.2,e.2⟩:=by
 unfold lS;rw [List.mem_flatten];constructor
 ·rintro ⟨l,hl,hm⟩;obtain ⟨e,he,rfl⟩:=List.mem_map.1 hl;cases hz:aJ L e.2==0 with
  | true=>rw [hz] at hm;cases hm
  | false =>
   rw [hz] at hm;simp only [cond_false,List.mem_singleton] at hm;exact ⟨e,he,by simpa using hz,hm⟩
 ·rintro ⟨e,he,hz,rfl⟩;refine ⟨_,List.mem_map.2 ⟨e,he,rfl⟩,?_⟩;have:(aJ L e.2==0)=false:=by simpa using hz
  rw [this];simp
theorem w9 (L:List jx):∀ (x3:MV),(x3.map (·.2)).Nodup→((lS L x3).map aa.Vars).Nodup
 | [],_=>by simp [lS]
 | e::x3,h=>by
  rw [List.map_cons,List.nodup_cons] at h;have ih:=w9 L x3 h.2;have e0:lS L (e::x3)=(bif aJ L e.2==0 then [] else [aa.mk (aJ L e.2) e.2])++lS L x3:=rfl;rw [e0,List.map_append,List.nodup_append];refine ⟨?_,ih,?_⟩
  ·cases aJ L e.2==0<;>simp
  ·rintro a ha b hb rfl;have ha2:a=e.2:=by
    cases hz:aJ L e.2==0 with
    | true=>rw [hz] at ha;cases ha
    | false=>rw [hz] at ha;simpa using ha
   obtain ⟨m,hm,e2⟩:=List.mem_map.1 hb;obtain ⟨e',he',_,rfl⟩:=ru.1 hm;exact h.1 (List.mem_map.2 ⟨e',he',by rw [← ha2,← e2]⟩)
theorem wg:∀ {x3:MV},(∀ e∈x3,e.1=jn e.2)→(x3.map (·.1)).Nodup→(x3.map (·.2)).Nodup
 | [],_,_=>by simp
 | e::x3,h,hn=>by rw [List.map_cons,List.nodup_cons] at hn ⊢;refine ⟨fun hm=>hn.1 ?_,wg (fun e' he=>h e' (by simp [he])) hn.2⟩;obtain ⟨e',he',e2⟩:=List.mem_map.1 hm;exact List.mem_map.2 ⟨e',he',by rw [h e' (by simp [he']),e2,h e (by simp)]⟩
theorem pM {L:List jx} {x3:MV} {x4 x5:MI} (h:hZ L x3 x4 x5) (hL:∀ c∈L,Bc c) (hn:L.length≤10000) :
 ∃ p,bE (aJ L) p∧Bd p∧cg x3 x4 x5=some (limited p):=by
 have hv2:=wg (fun e he=>(h.e1 e he).1) h.nd;have hok:∀ e∈x3,CV e.2:=fun e he=>by obtain ⟨_,c,hc,e2⟩:=h.e1 e he;rw [← e2];exact (hL c hc).1
 have hent:∀ e∈x3,xW x4 x5 e=rJ (aJ L e.2):=fun e he=>by
  unfold xW;rw [(h.e1 e he).1,h.ma _ (hok e he),h.mb _ (hok e he)];unfold yB;have ha:(nR L e.2).all gf=true:=by rw [J0];intro n hn2;obtain ⟨c,hc,rfl⟩:=List.mem_map.1 hn2;exact (hL c (List.mem_filter.1 hc).1).2.1
  have hb:(qg L e.2).all gf=true:=by rw [J0];intro n hn2;obtain ⟨c,hc,rfl⟩:=List.mem_map.1 hn2;exact (hL c (List.mem_filter.1 hc).1).2.2
  rw [JU (tW L e.2).symm,JU (show (nR L e.2).length≤10000 by have:=qS L e.2;omega),ha,hb,rW];rfl
 have hkeys:=w9 L x3 hv2;have hcan:bE (aJ L) (fD aa.Vars (lS L x3)):=by
  refine ⟨fW _ hkeys,fun m => ?_⟩;rw [(cQ aa.Vars (lS L x3)).mem_iff,ru];constructor
  ·rintro ⟨e,he,hz,rfl⟩;exact ⟨hz,rfl⟩
  ·rintro ⟨hz,he⟩;rw [he] at hz;obtain ⟨c,hc,e2⟩:=r6 hz;refine ⟨_,h.e2 c hc,by rw [e2];exact hz,?_⟩;show m=⟨aJ L c.1,c.1⟩;rw [e2,← he]
 have hBd:Bd (fD aa.Vars (lS L x3)):=by
  refine ⟨?_,fun m hm => ?_⟩
  ·rw [(cQ aa.Vars (lS L x3)).length_eq];have:∀ x:MV,(lS L x).length≤x.length:=by
    intro x;induction x with
    | nil=>simp [lS]
    | cons e x ih =>
     have e0:lS L (e::x)=(bif aJ L e.2==0 then [] else [aa.mk (aJ L e.2) e.2])++lS L x:=rfl;rw [e0,List.length_append,List.length_cons];cases aJ L e.2==0<;>simp<;>omega
   have h1:=this x3;have h2:=h.l3;omega
  ·obtain ⟨e,he,_,rfl⟩:=ru.1 ((cQ aa.Vars (lS L x3)).mem_iff.1 hm);have:=hok e he;exact ⟨by have:=this.1;show e.2.length≤1000000;omega,fun v hv=>by have:=(this.2 v hv).2;omega⟩
 refine ⟨_,hcan,hBd,?_⟩;rw [rX x3 x4 x5 hv2 (by have:=h.l3;omega) (fun e he=>by have:=hok e he;exact ⟨by have:=this.1;omega,fun v hv=>by have:=(this.2 v hv).2;omega⟩)]
 unfold FZ;cases hall:x3.all (mh x4 x5) with
 | true =>
  have hin:∀ e∈x3,gf (aJ L e.2)=true:=fun e he=>by
   have h1:=J0.1 hall e he;unfold mh at h1;rw [hent e he] at h1;unfold rJ at h1;cases hq:gf (aJ L e.2) with
   | true=>rfl
   | false=>rw [hq] at h1;simp at h1
  have e1:nC x3 x4 x5=lS L x3:=by unfold nC lS;congr 1;refine List.map_congr_left fun e he => ?_;unfold iZ;rw [hent e he,qn (hin e he)]
  rw [e1];rfl
 | false =>
  have hbad:∃ e∈x3,gf (aJ L e.2)=false:=by
   have:¬ (x3.all (mh x4 x5)=true):=by rw [hall];simp
   rw [J0] at this;refine Classical.byContradiction fun hn2=>this fun e he => ?_;cases hq:gf (aJ L e.2) with
   | true=>unfold mh;rw [hent e he,qn hq];rfl
   | false=>exact absurd ⟨e,he,hq⟩ hn2
  obtain ⟨e,he,hq⟩:=hbad;have hnv:aL (fD aa.Vars (lS L x3))=false:=by
   cases hv:aL (fD aa.Vars (lS L x3)) with
   | false=>rfl
   | true =>
    have hz:aJ L e.2≠0:=by intro e0;rw [e0] at hq;cases hq
    have hm:(⟨aJ L e.2,e.2⟩:aa)∈fD aa.Vars (lS L x3):=(cQ aa.Vars (lS L x3)).mem_iff.2 (ru.2 ⟨e,he,hz,rfl⟩);have:=kz hv hm;unfold A5 at this;simp only [JO,decide_eq_true_eq] at this;have h2:gf (aJ L e.2)=true:=dG.2 (by omega);rw [h2] at hq;cases hq
  unfold limited;rw [hnv];rfl
def pc (m:aa):Prop:=(m.Vars.length≤400∧∀ v∈m.Vars,Jl v∧v.length≤1000)∧gf m.Coef=true
def IP (p:List aa):Prop:=p.length≤60∧∀ m∈p,pc m
theorem Is {l:ah} (h:l.all bU=true):(42:UInt8) ∉ l:=fun hm=>by have:=J0.1 h _ hm;revert this;decide
theorem AD {v:ah} (h:cO v=true):Jl v∧v.length≤30:=by
 cases v with
 | nil=>cases h
 | cons c r =>
  simp only [cO] at h;cases hc:c==95 with
  | true =>
   rw [hc] at h;simp only [cond_true,JO,decide_eq_true_eq] at h;have hc':c=95:=by simpa using hc
   refine ⟨⟨by simp,?_⟩,by simp;omega⟩;rw [hc',List.mem_cons,not_or];exact ⟨by decide,Is h.2.2.2⟩
  | false =>
   rw [hc] at h;simp only [cond_false,JO,decide_eq_true_eq] at h;refine ⟨⟨by simp,?_⟩,by simp;omega⟩;rw [List.mem_cons,not_or];refine ⟨fun e => ?_,fun hm => ?_⟩
   ·have:=h.2.1;rw [← e] at this;revert this;decide
   ·have:=J0.1 h.2.2 _ hm;revert this;decide
theorem cZ {p:List aa} (h:aL p=true):IP p:=by
 refine ⟨?_,fun m hm => ?_⟩
 ·unfold aL at h;rw [JO,decide_eq_true_eq] at h;exact h.2
 ·have:=kz h hm;unfold A5 at this;simp only [JO,decide_eq_true_eq] at this;obtain ⟨_,h1,h2,h3,_,h5⟩:=this;refine ⟨⟨by omega,fun v hv => ?_⟩,dG.2 (by omega)⟩;have:=AD (J0.1 h5 v hv);exact ⟨this.1,by omega⟩
theorem oI (l:List aa) (i:Nat) (h:i<l.length):l.take (i+1)=l.take i++[aQ l i]:=by unfold aQ;rw [List.take_add_one,JM,JN h];rfl
def tF (m n:aa):jx:=(bQ (m.Vars++n.Vars),m.Coef,n.Coef)
def jI (a b:List aa):List jx:=(a.map fun m=>b.map (tF m)).flatten
theorem Cs {m n:aa} (hm:pc m) (hn:pc n):CV (m.Vars++n.Vars):=by
 refine ⟨by rw [List.length_append];have:=hm.1.1;have:=hn.1.1;omega,fun v hv => ?_⟩;rcases List.mem_append.1 hv with h | h
 ·exact hm.1.2 v h
 ·exact hn.1.2 v h
theorem tP {m n:aa} (hm:pc m) (hn:pc n):Bc (tF m n):=⟨vP (Cs hm hn),hm.2,hn.2⟩
theorem uy (a b:List aa):(jI a b).length=a.length*b.length:=by
 induction a with
 | nil=>simp [jI]
 | cons m a ih =>
  have e:jI (m::a) b=b.map (tF m)++jI a b:=rfl;rw [e,List.length_append,JV,ih,List.length_cons,Nat.add_mul];omega
theorem yQ {a b:List aa} (ha:∀ m∈a,pc m) (hb:∀ m∈b,pc m):∀ c∈jI a b,Bc c:=fun c hc=>by obtain ⟨l,hl,hcl⟩:=List.mem_flatten.1 hc;obtain ⟨m,hm,rfl⟩:=List.mem_map.1 hl;obtain ⟨n,hn,rfl⟩:=List.mem_map.1 hcl;exact tP (ha m hm) (hb n hn)
theorem xn (a:List aa) (m:aa) (b:List aa):jI (a++[m]) b=jI a b++b.map (tF m):=by unfold jI;rw [List.map_append,List.flatten_append];simp
theorem Et {L:List jx} {s:MV×MI×MI} (h:hZ L s.1 s.2.1 s.2.2) (hL:∀ c∈L,Bc c) (hn:L.length≤900000) {m n:aa} (hm:pc m) (hn2:pc n) :
 ∃ y,dX m n s.1 s.2.1 s.2.2=some y∧hZ (L++[tF m n]) y.1 y.2.1 y.2.2:=by
 obtain ⟨y,e,hs⟩:=tO (a:=m.Coef) (b:=n.Coef) h hL hn (Cs hm hn2);refine ⟨y,?_,hs⟩;unfold dX;have e1:gF [m.Vars,n.Vars]=some (m.Vars++n.Vars):=by unfold gF;have:=hm.1.1;have:=hn2.1.1;rw [aw ⟨by simp;omega,by simp⟩];simp
 rw [e1];simp only [ai];rw [e];rfl
theorem DM {L:List jx} {s:MV×MI×MI} (h:hZ L s.1 s.2.1 s.2.2) (hL:∀ c∈L,Bc c) {a b:List aa} (ha:IP a) (hb:IP b) (hn:L.length≤800000) :
 ∃ y,bq a b s.1 s.2.1 s.2.2=some y∧hZ (L++jI a b) y.1 y.2.1 y.2.2:=by
 unfold bq;have hta:∀ j,∀ m∈a.take j,pc m:=fun j m hm=>ha.2 m (List.mem_of_mem_take hm);have hlen:∀ j,(jI (a.take j) b).length≤3600:=fun j=>by
  rw [uy,List.length_take];have h1:min j a.length≤60:=by have:=ha.1;omega
  exact Nat.le_trans (Nat.mul_le_mul h1 hb.1) (by decide)
 obtain ⟨s',e,hI⟩:=fu (ρ:=MV×MI×MI) (σ:=MV×MI×MI) (ε:=MV×MI×MI) (body:=fun i303 s302 =>
  (cL (σ:=MV×MI×MI) (ε:=MV×MI×MI) (ρ:=Empty) (fun i341 s340 =>
   (dX (aa.mk ((a.getD i303 ⟨0,[]⟩).Coef) ((a.getD i303 ⟨0,[]⟩).Vars)) (aa.mk ((b.getD i341 ⟨0,[]⟩).Coef) ((b.getD i341 ⟨0,[]⟩).Vars)) s340.1 s340.2.1 s340.2.2).bind fun y366 =>
   some (.go (y366.1,y366.2.1,y366.2.2))
  ) (fun i341 s340=>(s340.1,s340.2.1,s340.2.2)) (b.length-0) 0 (s302.1,s302.2.1,s302.2.2)).bind <| aftE fun u374 =>
  some (.go (u374.1,u374.2.1,u374.2.2))) (fin:=fun i303 s302=>(s302.1,s302.2.1,s302.2.2))
  (fun j s=>hZ (L++jI (a.take j) b) s.1 s.2.1 s.2.2) (a.length-0) 0 (s.1,s.2.1,s.2.2) (by simpa [jI] using h) (fun j s _ hj hI=>by
   obtain ⟨s2,e2,hI2⟩:=fu (ρ:=Empty) (σ:=MV×MI×MI) (ε:=MV×MI×MI) (body:=fun i341 s340 =>
    (dX (aa.mk ((a.getD j ⟨0,[]⟩).Coef) ((a.getD j ⟨0,[]⟩).Vars)) (aa.mk ((b.getD i341 ⟨0,[]⟩).Coef) ((b.getD i341 ⟨0,[]⟩).Vars)) s340.1 s340.2.1 s340.2.2).bind fun y366 =>
    some (.go (y366.1,y366.2.1,y366.2.2))) (fin:=fun i341 s340=>(s340.1,s340.2.1,s340.2.2))
    (fun k s=>hZ (L++jI (a.take j) b++(b.take k).map (tF (aQ a j))) s.1 s.2.1 s.2.2) (b.length-0) 0 (s.1,s.2.1,s.2.2) (by simpa using hI) (fun k s _ hk hI3=>by
     have hLL:∀ c∈L++jI (a.take j) b++(b.take k).map (tF (aQ a j)),Bc c:=fun c hc=>by
      rcases List.mem_append.1 hc with hc | hc
      ·rcases List.mem_append.1 hc with hc | hc
       ·exact hL c hc
       ·exact yQ (hta j) hb.2 c hc
      ·obtain ⟨n,hn3,rfl⟩:=List.mem_map.1 hc;exact tP (ha.2 _ (cy (by omega))) (hb.2 n (List.mem_of_mem_take hn3))
     obtain ⟨y,e3,hs⟩:=Et (m:=aQ a j) (n:=aQ b k) hI3 hLL (by
      have h1:=hlen j;have h2:=hb.1;simp only [List.length_append,JV,List.length_take];omega) (ha.2 _ (cy (by omega))) (hb.2 _ (cy (by omega)))
     refine ⟨(y.1,y.2.1,y.2.2),?_,?_⟩
     ·show (dX (aQ a j) (aQ b k) s.1 s.2.1 s.2.2).bind _=_;rw [e3];rfl
     ·rw [oI b k (by omega),List.map_append,← List.append_assoc];exact hs)
   refine ⟨(s2.1,s2.2.1,s2.2.2),?_,?_⟩
   ·rw [e2];rfl
   ·rw [Nat.zero_add,Nat.sub_zero,List.take_length] at hI2;rw [oI a j (by omega),xn,← List.append_assoc];exact hI2)
 refine ⟨s',?_,?_⟩
 ·rw [e];rfl
 ·rw [Nat.zero_add,Nat.sub_zero,List.take_length] at hI;exact hI
theorem tg {a b:List aa} (ha:IP a) (hb:IP b):∃ p,bE (aJ (jI a b)) p∧Bd p∧eH a b=some (limited p):=by
 obtain ⟨y,e,hs⟩:=DM (s:=([],[],[])) hZ.nil (fun c hc=>(by cases hc)) ha hb (by simp);rw [List.nil_append] at hs;obtain ⟨p,h1,h2,h3⟩:=pM hs (yQ ha.2 hb.2) (by
  rw [uy];exact Nat.le_trans (Nat.mul_le_mul ha.1 hb.1) (by decide))
 refine ⟨p,h1,h2,?_⟩;unfold eH;rw [show cX=some ([],[],[]) from rfl];simp only [ai];rw [show bq a b [] [] []=some y from e];simp only [ai];rw [h3];rfl
theorem sN {a b:List aa} (ha:Bd a) (hb:Bd b):(aL a=true→aL b=true→∃ p,bE (aJ (jI a b)) p∧Bd p∧kg a b=some (limited p))∧(aL a=false∨aL b=false→kg a b=some ([],1)):=by
 unfold kg;rw [b9 a ha,b9 b hb];refine ⟨fun h1 h2 => ?_,fun h => ?_⟩
 ·obtain ⟨p,k1,k2,k3⟩:=tg (cZ h1) (cZ h2);refine ⟨p,k1,k2,?_⟩;rw [h1,h2];simp only [ai,cond_true];rw [k3];rfl
 ·cases hv:aL a with
  | false=>rfl
  | true =>
   rcases h with h | h
   ·rw [hv] at h;cases h
   ·rw [h];rfl
theorem BO {p:List aa} (h:aL p=true) {j:Nat} (hj:j<p.length):iB p j=true:=by unfold aL at h;rw [JO,J0] at h;exact h.1 j (by rw [List.mem_range'_1];omega)
theorem oS {p:List aa} {j:Nat} (hj:j<p.length):aQ p j=p[j]:=by unfold aQ;rw [JM,JN hj];rfl
theorem Ff {p:List aa} (h:aL p=true):p.Pairwise (wA aa.Vars):=by
 have key:∀ j i,i<j→j<p.length→cmpL (aQ p i).Vars (aQ p j).Vars<0:=by
  intro j;induction j with
  | zero=>intro i h1;omega
  | succ j ih =>
   intro i h1 h2;have hs:=BO h h2;unfold iB at hs;simp only [JO,Bool.or_eq_true,beq_iff_eq,decide_eq_true_eq,Nat.add_sub_cancel] at hs;have hadj:cmpL (aQ p j).Vars (aQ p (j+1)).Vars<0:=by
    rcases hs.2 with h3 | h3
    ·omega
    ·exact h3
   by_cases e:i=j
   ·subst e;exact hadj
   ·exact fE (ih i (by omega) (by omega)) hadj
 rw [List.pairwise_iff_getElem];intro i j hi hj hij;have:=key j i hij hj
 rwa [oS hi,oS hj] at this
theorem E2 {V:List ah} (h:uj V=true):V.Pairwise (fun a b=>mA a b=true):=by
 have key:∀ j i,i<j→j<V.length→mA (V.getD i []) (V.getD j [])=true:=by
  intro j;induction j with
  | zero=>intro i h1;omega
  | succ j ih =>
   intro i h1 h2;unfold uj at h;have hs:=J0.1 h (j+1) (by rw [List.mem_range'_1];omega);have hadj:mA (V.getD j []) (V.getD (j+1) [])=true:=by simp only [mA,decide_eq_true_eq];rw [← List.not_lt,pE];simpa [JM] using hs
   by_cases e:i=j
   ·subst e;exact hadj
   ·exact mr _ _ _ (ih i (by omega) (by omega)) hadj
 rw [List.pairwise_iff_getElem];intro i j hi hj hij;have:=key j i hij hj;simpa [JM,JN hi,JN hj] using this
theorem si {p:List aa} (h:aL p=true) {m:aa} (hm:m∈p):m.Vars.Pairwise (fun a b=>mA a b=true):=by have:=kz h hm;unfold A5 at this;simp only [JO] at this;exact E2 this.2.2.2.2.1
theorem sB {p:List aa} (h:aL p=true) {m:aa} (hm:m∈p):m.Vars.length≤8∧m.Coef≠0:=by have:=kz h hm;unfold A5 at this;simp only [JO,decide_eq_true_eq,Bool.not_eq_true',beq_eq_false_iff_ne] at this;exact ⟨this.2.2.2.1,this.1⟩
theorem Hw {p:List aa} (h:p.Pairwise (wA aa.Vars)) {m n:aa} (hm:m∈p) (hn:n∈p) (e:m.Vars=n.Vars):m=n:=by
 obtain ⟨i,hi,rfl⟩:=List.getElem_of_mem hm;obtain ⟨j,hj,rfl⟩:=List.getElem_of_mem hn;rw [List.pairwise_iff_getElem] at h;have no:∀ {i j:Nat} (hi:i<p.length) (hj:j<p.length),i<j→p[i].Vars=p[j].Vars→False:=fun hi hj hij e=>by have:=h _ _ hi hj hij;unfold wA at this;rw [e,gC] at this;omega
 rcases Nat.lt_trichotomy i j with h1 | h1 | h1
 ·exact (no hi hj h1 e).elim
 ·subst h1;rfl
 ·exact (no hj hi h1 e.symm).elim
theorem km {V:List ah}:∀ {L:List jx},(∀ c∈L,c.1≠V)→aJ L V=0
 | [],_=>rfl
 | c::L,h=>by simp only [aJ,if_neg (h c (by simp)),km (L:=L) fun c' hc=>h c' (by simp [hc])];rfl
def rR (k:Int) (m:aa):jx:=(bQ m.Vars,m.Coef,k)
theorem Cb {m:aa} (hm:pc m):CV m.Vars:=⟨by have:=hm.1.1;omega,hm.1.2⟩
theorem yd {k:Int} {m:aa} (hm:pc m) (hk:gf k=true):Bc (rR k m):=⟨vP (Cb hm),hm.2,hk⟩
theorem pZ {L:List jx} {s:MV×MI×MI} (h:hZ L s.1 s.2.1 s.2.2) (hL:∀ c∈L,Bc c) {a:List aa} {k:Int} (ha:IP a) (hk:gf k=true) (hn:L.length≤800000) :
 ∃ y,eG a [k] s.1 s.2.1 s.2.2=some y∧hZ (L++a.map (rR k)) y.1 y.2.1 y.2.2:=by
 unfold eG;obtain ⟨s',e,hI⟩:=fu (ρ:=MV×MI×MI) (σ:=MV×MI×MI) (ε:=MV×MI×MI) (body:=fun i303 s302 =>
  (cL (σ:=MV×MI×MI) (ε:=MV×MI×MI) (ρ:=Empty) (fun i341 s340 =>
   (eE (aa.mk ((a.getD i303 ⟨0,[]⟩).Coef) ((a.getD i303 ⟨0,[]⟩).Vars)) ([k].getD i341 0) s340.1 s340.2.1 s340.2.2).bind fun y366 =>
   some (.go (y366.1,y366.2.1,y366.2.2))
  ) (fun i341 s340=>(s340.1,s340.2.1,s340.2.2)) ([k].length-0) 0 (s302.1,s302.2.1,s302.2.2)).bind <| aftE fun u374 =>
  some (.go (u374.1,u374.2.1,u374.2.2))) (fin:=fun i303 s302=>(s302.1,s302.2.1,s302.2.2))
  (fun j s=>hZ (L++(a.take j).map (rR k)) s.1 s.2.1 s.2.2) (a.length-0) 0 (s.1,s.2.1,s.2.2) (by simpa using h) (fun j s _ hj hI=>by
   have hLL:∀ c∈L++(a.take j).map (rR k),Bc c:=fun c hc=>by
    rcases List.mem_append.1 hc with hc | hc
    ·exact hL c hc
    ·obtain ⟨n,hn3,rfl⟩:=List.mem_map.1 hc;exact yd (ha.2 n (List.mem_of_mem_take hn3)) hk
   obtain ⟨y,e3,hs⟩:=tO (a:=(aQ a j).Coef) (b:=k) hI hLL (by
    have h2:=ha.1;simp only [List.length_append,JV,List.length_take];omega) (Cb (ha.2 _ (cy (p:=a) (j:=j) (by omega))))
   refine ⟨(y.1,y.2.1,y.2.2),?_,?_⟩
   ·have e5:eE (aa.mk ((a.getD j ⟨0,[]⟩).Coef) ((a.getD j ⟨0,[]⟩).Vars)) ([k].getD 0 0) s.1 s.2.1 s.2.2=some y:=by unfold eE;rw [show bW (aa.mk ((a.getD j ⟨0,[]⟩).Coef) ((a.getD j ⟨0,[]⟩).Vars)).Vars (aa.mk ((a.getD j ⟨0,[]⟩).Coef) ((a.getD j ⟨0,[]⟩).Vars)).Coef ([k].getD 0 0) s.1 s.2.1 s.2.2=some y from e3];rfl
    simp only [List.length_cons,List.length_nil,Nat.zero_add,Nat.sub_zero,cL];rw [e5];rfl
   ·rw [oI a j (by omega),List.map_append,← List.append_assoc];exact hs)
 refine ⟨s',?_,?_⟩
 ·rw [e];rfl
 ·rw [Nat.zero_add,Nat.sub_zero,List.take_length] at hI;exact hI
theorem tn {a b:List aa} (ha:Bd a) (hb:Bd b) (hva:aL a=true) (hvb:aL b=true):∃ p,bE (aJ (a.map (rR 1)++b.map (rR 1))) p∧Bd p∧fX a b=some (limited p):=by
 have oa:=cZ hva;have ob:=cZ hvb;have h1:gf 1=true:=rfl;have ok1:∀ c∈a.map (rR 1),Bc c:=fun c hc=>by obtain ⟨n,hn,rfl⟩:=List.mem_map.1 hc;exact yd (oa.2 n hn) h1
 have ok2:∀ c∈b.map (rR 1),Bc c:=fun c hc=>by obtain ⟨n,hn,rfl⟩:=List.mem_map.1 hc;exact yd (ob.2 n hn) h1
 obtain ⟨y,e,hs⟩:=pZ (s:=([],[],[])) hZ.nil (fun c hc=>(by cases hc)) oa h1 (by simp);rw [List.nil_append] at hs;obtain ⟨z,e2,hs2⟩:=pZ hs ok1 ob h1 (by rw [JV];have:=oa.1;omega);obtain ⟨p,k1,k2,k3⟩:=pM hs2 (fun c hc=>by
  rcases List.mem_append.1 hc with hc | hc
  ·exact ok1 c hc
  ·exact ok2 c hc) (by
  have:=oa.1;have:=ob.1;simp only [List.length_append,JV];omega)
 refine ⟨p,k1,k2,?_⟩;unfold fX fS;rw [show cX=some ([],[],[]) from rfl];simp only [ai];have ec:cL (σ:=MV×MI×MI) (ε:=MV×MI×MI) (ρ:=List aa×Int) (fun i45 s44 =>
  (bo ([a,b].getD i45 [])).bind fun y79 =>
  bif y79 then (
   bZ (i45≤(i45+1)∧(i45+1)≤([1,1]:List Int).length) <|
   (eG ([a,b].getD i45 []) ((([1,1]:List Int).drop i45).take ((i45+1)-i45)) s44.1 s44.2.1 s44.2.2).bind fun y92 =>
   some (.go (y92.1,y92.2.1,y92.2.2))
  ) else (
   some (.ret ([],1))
  )
 ) (fun i45 s44=>(s44.1,s44.2.1,s44.2.2)) (([a,b]:List (List aa)).length-0) 0 ([],[],[])=some (.brk z):=by show (((bo a).bind fun y79=>_).bind _)=_;rw [b9 a ha,hva];simp only [ai,cond_true];rw [aw (by simp)];rw [show (([1,1]:List Int).drop 0).take (0+1-0)=[1] from rfl,show [a,b].getD 0 []=a from rfl,e];simp only [ai,nD];show (((bo b).bind fun y79=>_).bind _)=_;rw [b9 b hb,hvb];simp only [ai,cond_true];rw [aw (by simp)];rw [show (([1,1]:List Int).drop (0+1)).take (0+1+1-(0+1))=[1] from rfl,show [a,b].getD (0+1) []=b from rfl,e2];rfl
 rw [ec];simp only [ai,Sh.aft];rw [k3];rfl
theorem wu (V:List ah):de V V=some true:=by
 unfold de;rw [show ((((V.length:Nat):Int)==((V.length:Nat):Int)))=true by simp];simp only [cond_true];rw [cH (r:=false) (fun _=>true) _ _ () (fun j u _ hj=>by rw [aw (by omega)];simp)]
 have:(List.range' 0 (V.length-0)).all (fun _=>true)=true:=by simp
 rw [this];rfl
theorem Bt (p:List aa):eK p p=some true:=by
 unfold eK;rw [show ((((p.length:Nat):Int)==((p.length:Nat):Int)))=true by simp];simp only [cond_true];rw [cH (r:=false) (fun _=>true) _ _ () (fun j u _ hj=>by rw [aw (by omega),wu];simp)]
 have:(List.range' 0 (p.length-0)).all (fun _=>true)=true:=by simp
 rw [this];rfl
def iK (g:List ah→Int):List jx→Int
 | []=>0
 | c::L=>c.2.1*c.2.2*g c.1+iK g L
def gK (g:List ah→Int):List aa→Int
 | []=>0
 | m::p=>m.Coef*g m.Vars+gK g p
theorem jd (g:List ah→Int):∀ L M,iK g (L++M)=iK g L+iK g M
 | [],M=>by simp [iK]
 | c::L,M=>by simp only [List.cons_append,iK,jd g L M];omega
theorem vj (g:List ah→Int) (V:List ah):∀ M,iK g M=aJ M V*g V+iK g (M.filter fun c=>decide (c.1≠V))
 | []=>by simp [iK,aJ]
 | c::M=>by
  have ih:=vj g V M;by_cases h:c.1=V
  ·have e:((c::M).filter fun c=>decide (c.1≠V))=M.filter fun c=>decide (c.1≠V):=by simp [h]
   rw [e];simp only [iK,aJ,ih,h,if_true,Int.add_mul];omega
  ·have e:((c::M).filter fun c=>decide (c.1≠V))=c::M.filter fun c=>decide (c.1≠V):=by simp [h]
   rw [e];simp only [iK,aJ,if_neg h,ih,Int.zero_add];omega
theorem qH (V W:List ah):∀ M,aJ (M.filter fun c=>decide (c.1≠V)) W=if W=V then 0 else aJ M W
 | []=>by simp [aJ]
 | c::M=>by
  have ih:=qH V W M;by_cases h:c.1=V
  ·have e:((c::M).filter fun c=>decide (c.1≠V))=M.filter fun c=>decide (c.1≠V):=by simp [h]
   rw [e,ih];by_cases hw:W=V
   ·rw [if_pos hw,if_pos hw]
   ·have:¬ c.1=W:=fun k=>hw (by rw [← k,h]);rw [if_neg hw,if_neg hw];simp [aJ,this]
  ·have e:((c::M).filter fun c=>decide (c.1≠V))=c::M.filter fun c=>decide (c.1≠V):=by simp [h]
   rw [e];simp only [aJ,ih];by_cases hw:W=V
   ·have:¬ c.1=W:=fun k=>h (by rw [k,hw]);rw [if_pos hw,if_pos hw,if_neg this];rfl
   ·rw [if_neg hw,if_neg hw]
theorem xI (g:List ah→Int):∀ (n:Nat) (M:List jx),M.length≤n→(∀ V,aJ M V=0)→iK g M=0
 | _,[],_,_=>rfl
 | 0,c::M,h,_=>by simp at h
 | n+1,c::M,h,hz=>by
  rw [vj g c.1 (c::M),hz,Int.zero_mul,Int.zero_add];refine xI g n _ ?_ fun V => ?_
  ·have e:((c::M).filter fun x=>decide (x.1≠c.1))=M.filter fun x=>decide (x.1≠c.1):=by simp
   rw [e];have:=List.length_filter_le (fun x:jx=>decide (x.1≠c.1)) M;simp only [List.length_cons] at h;omega
  ·rw [qH];split
   ·rfl
   ·exact hz V
def fG (k:Int) (m:aa):jx:=(m.Vars,m.Coef,k)
theorem ze (g:List ah→Int) (k:Int):∀ p:List aa,iK g (p.map (fG k))=k*gK g p
 | []=>by simp [iK,gK]
 | m::p=>by simp only [List.map_cons,iK,gK,ze g k p,fG,Int.mul_add,Int.mul_comm,Int.mul_left_comm]
theorem G5 {f:List ah→Int} {p:List aa} (h:bE f p) (k:Int) (V:List ah):aJ (p.map (fG k)) V=f V*k:=by
 by_cases hz:f V=0
 ·rw [hz,Int.zero_mul];refine km fun c hc e => ?_;obtain ⟨m,hm,rfl⟩:=List.mem_map.1 hc;have h2:=(h.mem m).1 hm;have e:m.Vars=V:=e;rw [e,hz] at h2;exact h2.1 h2.2
 ·have hm:(⟨f V,V⟩:aa)∈p:=(h.mem _).2 ⟨hz,rfl⟩;have hu:∀ n∈p,n.Vars=V→n=⟨f V,V⟩:=fun n hn e=>Hw h.st hn hm e;have hnd:=oV h.st;obtain ⟨s,t,rfl⟩:=List.append_of_mem hm;have z:∀ l:List aa,(∀ n∈l,n∈s++⟨f V,V⟩::t∧n≠⟨f V,V⟩)→aJ (l.map (fG k)) V=0:=fun l hl=>km fun c hc e=>by obtain ⟨m,hm,rfl⟩:=List.mem_map.1 hc;exact (hl m hm).2 (hu m (hl m hm).1 e)
  rw [List.nodup_append] at hnd;rw [List.map_append,List.map_cons,gZ,z s (fun n hn=>⟨by simp [hn],fun e=>hnd.2.2 n hn _ (by simp) e⟩)];have e2:aJ (fG k ⟨f V,V⟩::t.map (fG k)) V=f V*k+aJ (t.map (fG k)) V:=by simp [aJ,fG]
  rw [e2,z t (fun n hn=>⟨by simp [hn],fun e=>(List.nodup_cons.1 hnd.2.1).1 (by rw [← e];exact hn)⟩)];omega
theorem rM {L:List jx} {p:List aa} (h:bE (aJ L) p) (g:List ah→Int):gK g p=iK g L:=by
 have hz:=xI g _ (L++p.map (fG (-1))) (Nat.le_refl _) fun V=>by rw [gZ,G5 h];omega
 rw [jd,ze] at hz;omega
theorem Br {p:List aa} (h:aL p=true):bE (aJ (p.map (fG 1))) p:=by
 have hst:=Ff h;refine ⟨hst,fun m => ?_⟩;have one:∀ {m:aa},m∈p→aJ (p.map (fG 1)) m.Vars=m.Coef:=fun {m} hm=>by
  have hu:∀ n∈p,n.Vars=m.Vars→n=m:=fun n hn e=>Hw hst hn hm e;have hnd:=oV hst;obtain ⟨s,t,rfl⟩:=List.append_of_mem hm;have z:∀ l:List aa,(∀ n∈l,n∈s++m::t∧n≠m)→aJ (l.map (fG 1)) m.Vars=0:=fun l hl=>km fun c hc e=>by obtain ⟨n,hn,rfl⟩:=List.mem_map.1 hc;exact (hl n hn).2 (hu n (hl n hn).1 e)
  rw [List.nodup_append] at hnd;rw [List.map_append,List.map_cons,gZ,z s (fun n hn=>⟨by simp [hn],fun e=>hnd.2.2 n hn _ (by simp) e⟩)];have e2:aJ (fG 1 m::t.map (fG 1)) m.Vars=m.Coef+aJ (t.map (fG 1)) m.Vars:=by simp [aJ,fG]
  rw [e2,z t (fun n hn=>⟨by simp [hn],fun e=>(List.nodup_cons.1 hnd.2.1).1 (by rw [← e];exact hn)⟩)];omega
 constructor
 ·intro hm;exact ⟨(sB h hm).2,(one hm).symm⟩
 ·rintro ⟨h0,h1⟩;have h2:aJ (p.map (fG 1)) m.Vars≠0:=by rw [← h1];exact h0
  obtain ⟨c,hc,e⟩:=r6 h2;obtain ⟨n,hn,rfl⟩:=List.mem_map.1 hc;have e:n.Vars=m.Vars:=e;have h3:=one hn;rw [e,← h1] at h3;have:n=m:=by cases n;cases m;simp only at e h3;rw [e,h3]
  rw [← this];exact hn
theorem uc (g:List ah→Int) (k:Int):∀ p,gK (fun U=>k*g U) p=k*gK g p
 | []=>by simp [gK]
 | m::p=>by simp only [gK,uc g k p,Int.mul_add,Int.mul_left_comm]
theorem Db (g:List ah→Int) (m:aa):∀ b:List aa,iK g (b.map (tF m))=m.Coef*gK (fun U=>g (bQ (m.Vars++U))) b
 | []=>by simp [iK,gK]
 | n::b=>by simp only [List.map_cons,iK,gK,Db g m b,tF,Int.mul_add,Int.mul_assoc]
theorem Av (g:List ah→Int) (b:List aa):∀ a:List aa,iK g (jI a b)=gK (fun W=>gK (fun U=>g (bQ (W++U))) b) a
 | []=>rfl
 | m::a=>by have e:jI (m::a) b=b.map (tF m)++jI a b:=rfl;rw [e,jd,Db,Av g b a];rfl
theorem yS {p:List aa} (h:aL p=true):∀ m∈p,bQ m.Vars=m.Vars:=fun m hm=>by rw [← ua];exact yN (si h hm) (List.Perm.refl _)
theorem xk {p:List aa} (h:(limited p).2=0):aL p=true∧limited p=(p,0):=by
 unfold limited at *;cases hv:aL p with
 | false=>rw [hv] at h;cases h
 | true=>exact ⟨rfl,rfl⟩
def xN:List aa:=[⟨1,[]⟩]
def jH (m:aa):List aa→List aa
 | []=>[m]
 | x::r=>if 0<cmpL x.Vars m.Vars then m::x::r else if cmpL x.Vars m.Vars=0 then (if x.Coef+m.Coef=0 then r else ⟨x.Coef+m.Coef,x.Vars⟩::r) else x::jH m r
def ga (p:List aa) (m:aa):List aa:=if m.Coef=0 then p else jH m p
theorem se (m:aa):∀ p,(jH m p).length≤p.length+1
 | []=>by simp [jH]
 | x::r=>by
  unfold jH;have:=se m r;split
  ·simp
  ·split
   ·split<;>simp;omega
   ·simp;omega
theorem l9 (p:List aa) (m:aa):(ga p m).length≤p.length+1:=by
 unfold ga;split
 ·omega
 ·exact se m p
theorem xA {m n:aa}:∀ {p:List aa},n∈jH m p→n.Vars=m.Vars∨∃ x∈p,x.Vars=n.Vars
 | [],h=>by simp [jH] at h;exact .inl (by rw [h])
 | x::r,h=>by
  unfold jH at h;split at h
  ·rcases List.mem_cons.1 h with rfl | h
   ·exact .inl rfl
   ·exact .inr ⟨n,h,rfl⟩
  ·split at h
   ·split at h
    ·exact .inr ⟨n,by simp [h],rfl⟩
    ·rcases List.mem_cons.1 h with rfl | h
     ·exact .inr ⟨x,by simp,rfl⟩
     ·exact .inr ⟨n,by simp [h],rfl⟩
   ·rcases List.mem_cons.1 h with rfl | h
    ·exact .inr ⟨n,by simp,rfl⟩
    ·rcases xA h with h | ⟨y,hy,e⟩
     ·exact .inl h
     ·exact .inr ⟨y,by simp [hy],e⟩
theorem qQ {m:aa}:∀ {p:List aa},p.Pairwise (wA aa.Vars)→(jH m p).Pairwise (wA aa.Vars)
 | [],_=>by simp [jH]
 | x::r,h=>by
  have h2:=List.pairwise_cons.1 h;unfold jH;split
  ·rename_i hgt;have hmx:wA aa.Vars m x:=fQ.2 hgt;refine List.pairwise_cons.2 ⟨fun z hz => ?_,h⟩;rcases List.mem_cons.1 hz with rfl | hz
   ·exact hmx
   ·exact fE hmx (h2.1 z hz)
  ·split
   ·split
    ·exact h2.2
    ·exact List.pairwise_cons.2 ⟨fun z hz=>h2.1 z hz,h2.2⟩
   ·rename_i hgt heq;refine List.pairwise_cons.2 ⟨fun z hz => ?_,qQ h2.2⟩;show cmpL x.Vars z.Vars<0;rcases xA hz with e | ⟨y,hy,e⟩
    ·rw [e];omega
    ·rw [← e];exact h2.1 y hy
theorem xB {m:aa} (hm:m.Coef≠0) {c:Int}:∀ {p:List aa},p.Pairwise (wA aa.Vars)→(∀ x∈p,x.Coef≠0)→(∀ x∈p,x.Vars=m.Vars→x.Coef=c)→((∀ x∈p,x.Vars≠m.Vars)→c=0) →
 ∀ n,n∈jH m p↔(n.Vars≠m.Vars∧n∈p)∨(n.Vars=m.Vars∧n.Coef=c+m.Coef∧n.Coef≠0)
 | [],_,_,_,h4,n=>by
  have hc:c=0:=h4 fun x hx=>by cases hx
  subst hc;obtain ⟨k,V⟩:=n;obtain ⟨k',V'⟩:=m;simp only [jH,List.mem_singleton,aa.mk.injEq,List.not_mem_nil,and_false,false_or];simp only at hm;constructor
  ·rintro ⟨rfl,rfl⟩;exact ⟨rfl,by omega,hm⟩
  ·rintro ⟨rfl,h,_⟩;exact ⟨by omega,rfl⟩
 | x::r,h,h2,h3,h4,n=>by
  have hp:=List.pairwise_cons.1 h;have hself:cmpL m.Vars m.Vars=0:=gC _;unfold jH;split
  ·rename_i hgt;have hmx:wA aa.Vars m x:=fQ.2 hgt;have hne:∀ y∈x::r,y.Vars≠m.Vars:=fun y hy e=>by
    have h5:wA aa.Vars m y:=by
     rcases List.mem_cons.1 hy with rfl | hy
     ·exact hmx
     ·exact fE hmx (hp.1 y hy)
    have h5:cmpL m.Vars y.Vars<0:=h5;rw [e,hself] at h5;omega
   have hc:c=0:=h4 hne;subst hc;rw [List.mem_cons];constructor
   ·rintro (rfl | hn)
    ·exact .inr ⟨rfl,by omega,hm⟩
    ·exact .inl ⟨hne n hn,hn⟩
   ·rintro (⟨_,hn⟩ | ⟨e1,e2,_⟩)
    ·exact .inr hn
    ·refine .inl ?_;obtain ⟨k,V⟩:=n;obtain ⟨k',V'⟩:=m;simp only at e1 e2;rw [e1,e2,Int.zero_add]
  ·split
   ·rename_i hgt heq;have exm:=fI heq;have hc:x.Coef=c:=h3 x (by simp) exm;have hne:∀ y∈r,y.Vars≠m.Vars:=fun y hy e=>by have h5:cmpL x.Vars y.Vars<0:=hp.1 y hy;rw [e,exm,hself] at h5;omega
    split
    ·rename_i hz;constructor
     ·intro hn;exact .inl ⟨hne n hn,by simp [hn]⟩
     ·rintro (⟨e1,hn⟩ | ⟨e1,e2,e3⟩)
      ·rcases List.mem_cons.1 hn with rfl | hn
       ·exact absurd exm e1
       ·exact hn
      ·exfalso;omega
    ·rename_i hz;rw [List.mem_cons];constructor
     ·rintro (rfl | hn)
      ·exact .inr ⟨exm,by simp only;omega,hz⟩
      ·exact .inl ⟨hne n hn,by simp [hn]⟩
     ·rintro (⟨e1,hn⟩ | ⟨e1,e2,e3⟩)
      ·rcases List.mem_cons.1 hn with rfl | hn
       ·exact absurd exm e1
       ·exact .inr hn
      ·refine .inl ?_;obtain ⟨k,V⟩:=n;simp only at e1 e2;rw [e1,e2,exm,hc]
   ·rename_i hgt heq;have hxm:x.Vars≠m.Vars:=fun e=>heq (by rw [e];exact hself);have ih:=xB hm hp.2 (fun y hy=>h2 y (by simp [hy])) (fun y hy=>h3 y (by simp [hy])) (fun hA=>h4 fun y hy=>by
     rcases List.mem_cons.1 hy with rfl | hy
     ·exact hxm
     ·exact hA y hy) n
    rw [List.mem_cons,ih,List.mem_cons];constructor
    ·rintro (rfl | ⟨e1,hn⟩ | e1)
     ·exact .inl ⟨hxm,.inl rfl⟩
     ·exact .inl ⟨e1,.inr hn⟩
     ·exact .inr e1
    ·rintro (⟨e1,rfl | hn⟩ | e1)
     ·exact .inl rfl
     ·exact .inr (.inl ⟨e1,hn⟩)
     ·exact .inr (.inr e1)
theorem Dz (V:List ah) (c:jx):aJ [c] V=if c.1=V then c.2.1*c.2.2 else 0:=by unfold aJ;simp [aJ]
theorem kl {L:List jx} {p:List aa} (h:bE (aJ L) p) {m:aa} {a b:Int} (e:m.Coef=a*b):bE (aJ (L++[(m.Vars,a,b)])) (ga p m):=by
 have hco:∀ V,aJ (L++[(m.Vars,a,b)]) V=aJ L V+if m.Vars=V then m.Coef else 0:=fun V=>by rw [gZ,Dz];simp only [e]
 unfold ga;by_cases hz:m.Coef=0
 ·rw [if_pos hz];refine ⟨h.st,fun n => ?_⟩;rw [h.mem,hco,hz];simp
 ·rw [if_neg hz];refine ⟨qQ h.st,fun n => ?_⟩;rw [xB hz (c:=aJ L m.Vars) h.st (fun x hx=>((h.mem x).1 hx).1) (fun x hx ex=>by rw [((h.mem x).1 hx).2,ex]) (fun hA => ?_) n,h.mem,hco]
  ·constructor
   ·rintro (⟨e1,e2,e3⟩ | ⟨e1,e2,e3⟩)
    ·rw [if_neg (Ne.symm e1)];exact ⟨e2,by omega⟩
    ·rw [if_pos e1.symm,e1];exact ⟨e3,e2⟩
   ·rintro ⟨e2,e3⟩;by_cases e1:n.Vars=m.Vars
    ·rw [if_pos e1.symm,e1] at e3;exact .inr ⟨e1,e3,e2⟩
    ·rw [if_neg (Ne.symm e1)] at e3;exact .inl ⟨e1,e2,by omega⟩
  ·apply Classical.byContradiction;intro hc;exact hA ⟨aJ L m.Vars,m.Vars⟩ ((h.mem _).2 ⟨hc,rfl⟩) rfl
def zb (m x:aa) (s:List aa×Bool):List aa×Bool :=
 if s.2=true then (if x.Coef=0 then s.1 else s.1++[x],true)
 else if 0<cmpL x.Vars m.Vars then (if x.Coef=0 then s.1++[m] else s.1++[m]++[x],true)
 else if cmpL x.Vars m.Vars=0 then (if aS (x.Coef+m.Coef)=0 then s.1 else s.1++[⟨aS (x.Coef+m.Coef),x.Vars⟩],true)
 else (if x.Coef=0 then s.1 else s.1++[x],false)
theorem GC (m x:aa) (s:List aa×Bool):(zb m x s).1.length≤s.1.length+2:=by
 unfold zb;repeat' split
 all_goals simp
theorem mi {m:aa}:∀ {p:List aa},(∀ x∈p,x.Coef≠0)→∀ out,cT (ρ:=Empty) (fun x s=>.go (zb m x s)) (fun s=>s) p (out,true) = .brk (out++p,true)
 | [],_,out=>by simp [cT]
 | x::r,h,out=>by
  have hx:=h x (by simp);have e:zb m x (out,true)=(out++[x],true):=by unfold zb;rw [if_pos rfl,if_neg hx]
  simp only [cT,e];rw [mi (fun y hy=>h y (by simp [hy]))];simp
def I2 (m:aa) (s:List aa×Bool):List aa:=if s.2=true then s.1 else s.1++[m]
theorem w7 {m:aa}:∀ {p:List aa},(∀ x∈p,x.Coef≠0)→(∀ x∈p,x.Vars=m.Vars→aS (x.Coef+m.Coef)=x.Coef+m.Coef)→∀ out,∃ s,cT (ρ:=Empty) (fun x s=>.go (zb m x s)) (fun s=>s) p (out,false) = .brk s∧I2 m s=out++jH m p
 | [],_,_,out=>⟨(out,false),rfl,rfl⟩
 | x::r,h,hw,out=>by
  have hx:=h x (by simp);have hr:∀ y∈r,y.Coef≠0:=fun y hy=>h y (by simp [hy]);unfold jH;by_cases h1:0<cmpL x.Vars m.Vars
  ·have e:zb m x (out,false)=(out++[m]++[x],true):=by unfold zb;rw [if_neg (by simp),if_pos h1,if_neg hx]
   rw [if_pos h1];simp only [cT,e];exact ⟨_,mi hr _,by simp [I2]⟩
  ·by_cases h2:cmpL x.Vars m.Vars=0
   ·have hw1:=hw x (by simp) (fI h2);rw [if_neg h1,if_pos h2];by_cases h3:x.Coef+m.Coef=0
    ·have e:zb m x (out,false)=(out,true):=by unfold zb;rw [if_neg (by simp),if_neg h1,if_pos h2,hw1,if_pos h3]
     simp only [cT,e];exact ⟨_,mi hr _,by rw [if_pos h3];simp [I2]⟩
    ·have e:zb m x (out,false)=(out++[⟨x.Coef+m.Coef,x.Vars⟩],true):=by unfold zb;rw [if_neg (by simp),if_neg h1,if_pos h2,hw1,if_neg h3]
     simp only [cT,e];exact ⟨_,mi hr _,by rw [if_neg h3];simp [I2]⟩
   ·have e:zb m x (out,false)=(out++[x],false):=by unfold zb;rw [if_neg (by simp),if_neg h1,if_neg h2,if_neg hx]
    rw [if_neg h1,if_neg h2];simp only [cT,e];obtain ⟨s,h3,h4⟩:=w7 hr (fun y hy=>hw y (by simp [hy])) (out++[x]);exact ⟨s,h3,by rw [h4];simp⟩
theorem fa {p:List aa} {m:aa} (hB:Bd p) (hm:m.Vars.length≤1000000) (h0:∀ x∈p,x.Coef≠0) (hw:∀ x∈p,x.Vars=m.Vars→aS (x.Coef+m.Coef)=x.Coef+m.Coef):bP p m=some (ga p m):=by
 unfold bP;have hbody:∀ (j:Nat) (s:List aa×Bool),j<p.length→s.1.length≤2*j →
  ((cW ((p.getD j ⟨0,[]⟩).Vars) m.Vars).bind fun y183 =>
  ((
   bif s.2 then (
    some (true,false)
   ) else (
    some (false,decide (y183>0))
   )
  ):Option (Bool×Bool)).bind fun v186 =>
  ((
   bif v186.2 then (
    bZ ((s.1.length+1)*32≤140737488355328) <|
    some ((s.1++[m]),true)
   ) else (
    some (s.1,v186.1)
   )
  ):Option ((List aa)×Bool)).bind fun v199 =>
  ((
   bif v199.2 then (
    some (true,false)
   ) else (
    some (false,(y183==0))
   )
  ):Option (Bool×Bool)).bind fun v210 =>
  ((
   bif v210.2 then (
    some (true,(aS (((p.getD j ⟨0,[]⟩).Coef)+m.Coef)))
   ) else (
    some (v210.1,((p.getD j ⟨0,[]⟩).Coef))
   )
  ):Option (Bool×Int)).bind fun v219 =>
  ((
   bif (v219.2==0) then (
    some v199.1
   ) else (
    bZ ((v199.1.length+1)*32≤140737488355328) <|
    some (v199.1++[(aa.mk v219.2 ((p.getD j ⟨0,[]⟩).Vars))])
   )
  ):Option (List aa)).bind fun v232 =>
  (some (.go (v232,v219.1)):Option (ff (List aa×Bool) (List aa×Bool) Empty)))=some (.go (zb m (p.getD j ⟨0,[]⟩) s)):=by
  intro j s hj hI;have hpl:=hB.1;have hxm:=hB.2 _ (cy (p:=p) (j:=j) hj);obtain ⟨r,e,k1,k2⟩:=uN (aQ p j).Vars m.Vars hxm.1 hm;rw [show p.getD j ⟨0,[]⟩=aQ p j from rfl,e];generalize aQ p j=x at k1 k2 ⊢;obtain ⟨out,put⟩:=s;have hI:out.length≤2*j:=hI;obtain ⟨c,V⟩:=x;have hz:(c==0)=decide (c=0):=rfl;cases put with
  | true =>
   simp only [ai,cond_true,cond_false];unfold zb;rw [if_pos rfl];by_cases h:c=0
   ·rw [beq_iff_eq.2 h,if_pos h];rfl
   ·rw [beq_eq_false_iff_ne.2 h,if_neg h,cond_false,aw (by omega)];rfl
  | false =>
   simp only [ai,cond_false];unfold zb;rw [if_neg (by simp)];simp only at k1 k2;by_cases h1:0<cmpL V m.Vars
   ·rw [JU (show r>0 by omega),if_pos h1];simp only [cond_true];rw [aw (by omega)];simp only [ai,cond_true,cond_false];by_cases h:c=0
    ·rw [beq_iff_eq.2 h,if_pos h];rfl
    ·rw [beq_eq_false_iff_ne.2 h,if_neg h,cond_false,aw (by simp;omega)];rfl
   ·rw [JS (show ¬ r>0 by omega),if_neg h1];simp only [ai,cond_false];by_cases h2:cmpL V m.Vars=0
    ·rw [beq_iff_eq.2 (k2.2 h2),if_pos h2];simp only [ai,cond_true];by_cases h:aS (c+m.Coef)=0
     ·rw [beq_iff_eq.2 h,if_pos h];rfl
     ·rw [beq_eq_false_iff_ne.2 h,if_neg h,cond_false,aw (by omega)];rfl
    ·rw [beq_eq_false_iff_ne.2 (fun e=>h2 (k2.1 e)),if_neg h2];simp only [ai,cond_false];by_cases h:c=0
     ·rw [beq_iff_eq.2 h,if_pos h];rfl
     ·rw [beq_eq_false_iff_ne.2 h,if_neg h,cond_false,aw (by omega)];rfl
 rw [fK (f:=fun s=>s) ⟨0,[]⟩ p (fun x s=>.go (zb m x s)) (fun j s=>s.1.length≤2*j) (fun i s=>rfl) ([],(m.Coef==0)) (by simp) (fun j s hj hI=>⟨hbody j s hj hI,fun s' hs=>by cases hs;have:=GC m (p.getD j ⟨0,[]⟩) s;omega⟩)]
 unfold ga;by_cases hz:m.Coef=0
 ·rw [beq_iff_eq.2 hz,if_pos hz,mi h0];rfl
 ·rw [beq_eq_false_iff_ne.2 hz,if_neg hz];obtain ⟨s,h1,h2⟩:=w7 h0 hw [];rw [h1];show (bif s.2 then some s.1 else bZ ((s.1.length+1)*32≤140737488355328) <| some (s.1++[m]))=_;unfold I2 at h2;rw [List.nil_append] at h2;cases h3:s.2 with
  | true=>rw [h3,if_pos rfl] at h2;rw [← h2];rfl
  | false =>
   rw [h3,if_neg (by simp)] at h2;have h4:=se m p;rw [← h2] at h4 ⊢;have:=hB.1;simp only [List.length_append,List.length_singleton] at h4;rw [cond_false,aw (by omega)]
end Go.Proofs.YtadjhpbkknifeaaGreatDoor
namespace Go.Sh
open Go.Ab
def A4 (x y:ah):Prop:=Op.bytesLess x y=true
theorem xq {a:List ah} (h:a.Pairwise A4):a.Nodup:=h.imp fun {x y} hxy e=>by subst e;unfold A4 at hxy;rw [eC] at hxy;cases hxy
theorem AE {a b:List ah} (ha:a.Pairwise A4) (hb:b.Pairwise A4) (h:∀ v,v∈a↔v∈b):a=b :=
 List.Perm.eq_of_pairwise (fun x y _ _ h1 h2=>by have h3:=oD h1;unfold A4 at h2;rw [h2] at h3;cases h3) ha hb ((List.perm_ext_iff_of_nodup (xq ha) (xq hb)).2 h)
def pe (v:ah):List ah→List ah
 | []=>[v]
 | x::r=>if Op.bytesLess x v=true then x::pe v r else if x=v then x::r else v::x::r
theorem uW (v y:ah):∀ l,y∈pe v l↔y=v∨y∈l
 | []=>by simp [pe]
 | x::r=>by
  unfold pe;split
  ·rw [List.mem_cons,uW v y r,List.mem_cons];constructor
   ·rintro (h | h | h)
    ·exact .inr (.inl h)
    ·exact .inl h
    ·exact .inr (.inr h)
   ·rintro (h | h | h)
    ·exact .inr (.inl h)
    ·exact .inl h
    ·exact .inr (.inr h)
  ·split
   ·rename_i e;constructor
    ·exact .inr
    ·rintro (h | h)
     ·rw [h,e];simp
     ·exact h
   ·simp
theorem s9 {v:ah}:∀ {l:List ah},l.Pairwise A4→(pe v l).Pairwise A4
 | [],_=>by simp [pe]
 | x::r,h=>by
  have h2:=List.pairwise_cons.1 h;unfold pe;split
  ·rename_i hx;refine List.pairwise_cons.2 ⟨fun y hy => ?_,s9 h2.2⟩;rcases (uW v y r).1 hy with rfl | hy
   ·exact hx
   ·exact h2.1 y hy
  ·split
   ·exact h
   ·rename_i h3 h4;have hvx:A4 v x:=by
     rcases pU v x with h5 | h5 | h5
     ·exact h5
     ·exact absurd h5.symm h4
     ·exact absurd h5 h3
    refine List.pairwise_cons.2 ⟨fun y hy => ?_,h⟩;rcases List.mem_cons.1 hy with rfl | hy
    ·exact hvx
    ·exact rf hvx (h2.1 y hy)
theorem zf (v:ah):∀ l,(pe v l).length≤l.length+1
 | []=>by simp [pe]
 | x::r=>by
  have:=zf v r;unfold pe;split
  ·simp;omega
  ·split<;>simp
theorem vJ (v:ah):∀ (l:List ah) (u:Nat),(∀ i,i<u→Op.bytesLess (l.getD i []) v=true)→u≤l.length→(u<l.length→Op.bytesLess (l.getD u []) v=false) →
 pe v l=if u<l.length∧l.getD u []=v then l else l.take u++[v]++l.drop u
 | [],u,_,hu,_=>by
  have:u=0:=by simpa using hu
  subst this;simp [pe]
 | x::r,0,_,_,h=>by
  have h0:=h (by simp);simp only [List.getD_cons_zero] at h0;unfold pe;rw [if_neg (by rw [h0];simp)];by_cases e:x=v
  ·rw [if_pos e,if_pos ⟨by simp,by simpa using e⟩]
  ·rw [if_neg e,if_neg (fun h=>e (by simpa using h.2))];rfl
 | x::r,u+1,h1,hu,h=>by have h0:=h1 0 (by omega);simp only [List.getD_cons_zero] at h0;unfold pe;rw [if_pos h0,vJ v r u (fun i hi=>by have:=h1 (i+1) (by omega);simpa using this) (by simpa using hu) (fun hl=>by have:=h (by simpa using hl);simpa using this)];simp only [List.length_cons,List.getD_cons_succ,Nat.add_lt_add_iff_right,List.take_succ_cons,List.drop_succ_cons,List.cons_append];split<;>rfl
theorem Bu {xs:List ah} {x:ah} (h:x∈xs):x∈Lib.compact xs:=by
 have key:∀ j,j<xs.length→xs.toArray[j]! ∈ Lib.compact xs:=by
  intro j;induction j with
  | zero =>
   intro hj;unfold Lib.compact Lib.compactUpTo;exact List.mem_map.2 ⟨0,List.mem_filter.2 ⟨List.mem_range.2 hj,by simp [Lib.keeps]⟩,rfl⟩
  | succ j ih =>
   intro hj;cases hk:Lib.keeps xs.toArray (j+1) with
   | true =>
    unfold Lib.compact Lib.compactUpTo;exact List.mem_map.2 ⟨j+1,List.mem_filter.2 ⟨List.mem_range.2 hj,hk⟩,rfl⟩
   | false =>
    unfold Lib.keeps at hk;simp only [decide_eq_false_iff_not,not_or,Nat.add_sub_cancel,Decidable.not_not,ne_eq] at hk;rw [hk.2];exact ih (by omega)
 obtain ⟨j,hj,rfl⟩:=List.getElem_of_mem h;have:=key j hj;rw [getElem!_pos xs.toArray j (by simpa using hj)] at this;simpa using this
theorem uL {xs:List ah} (h:xs.Pairwise (fun a b=>mA a b=true)):(Lib.compact xs).Pairwise A4:=by
 unfold Lib.compact Lib.compactUpTo;rw [List.pairwise_map];have hg:∀ j,j<xs.length→xs.toArray[j]! = xs.getD j []:=fun j hj=>by rw [getElem!_pos xs.toArray j (by simpa using hj),JM,JN hj];simp
 refine List.Pairwise.imp_of_mem (R:=(· < ·)) (fun {i j} hi hj hij => ?_) (List.Pairwise.filter _ List.pairwise_lt_range);obtain ⟨hi1,_⟩:=List.mem_filter.1 hi;obtain ⟨hj1,hj2⟩:=List.mem_filter.1 hj;have hi1:=List.mem_range.1 hi1;have hj1:=List.mem_range.1 hj1;unfold Lib.keeps at hj2;simp only [decide_eq_true_eq] at hj2;have hne:=hj2.resolve_left (by omega);rw [hg i hi1];rw [hg j hj1] at hne ⊢;rw [hg (j-1) (by omega)] at hne;have le:∀ i j,i≤j→j<xs.length→mA (xs.getD i []) (xs.getD j [])=true:=fun i j hij hj=>by
  by_cases e:i=j
  ·subst e;simp [mA,List.le_refl]
  ·have:=List.pairwise_iff_getElem.1 h i j (by omega) hj (by omega);simpa [JM,JN hj,JN (show i<xs.length by omega)] using this
 have h1:=le i (j-1) (by omega) (by omega);have h2:=le (j-1) j (by omega) hj1;have h3:=mr _ _ _ h1 h2;show A4 (xs.getD i []) (xs.getD j []);rcases pU (xs.getD i []) (xs.getD j []) with h4 | h4 | h4
 ·exact h4
 ·exfalso;rw [h4] at h1;exact hne (uU _ _ h2 h1).symm
 ·exfalso;have h5:mA (xs.getD j []) (xs.getD i [])=true:=by unfold mA;rw [decide_eq_true_eq];exact List.le_of_lt ((pE _ _).2 h4)
  have e:=uU _ _ h3 h5;rw [e] at h4;rw [eC] at h4;cases h4
end Go.Sh
namespace Go.Proofs.YtadjhpbkknifeaaGreatDoor
open Go.Ab Go.Sh Go.Sort
def varsOf (p:List aa):List ah:=(p.map aa.Vars).flatten
theorem uB {p:List aa} {k:Nat} (h:∀ m∈p,m.Vars.length≤k):(varsOf p).length≤p.length*k:=by
 induction p with
 | nil=>simp [varsOf]
 | cons m p ih =>
  have:=ih fun n hn=>h n (by simp [hn]);have h1:=h m (by simp);unfold varsOf at this ⊢;rw [List.map_cons,List.flatten_cons,List.length_append,List.length_cons,Nat.add_mul,Nat.one_mul];omega
theorem qJ {p:List aa} (hB:Bd p):∃ r,iu p=some r∧(aL p=false→r=[])∧(aL p=true→r.Pairwise A4∧∀ v,v∈r↔v∈varsOf p):=by
 unfold iu;rw [b9 p hB];cases hv:aL p with
 | false=>exact ⟨[],rfl,fun _=>rfl,fun h=>by cases h⟩
 | true =>
  have o:=cZ hv;have h8:∀ m∈p,m.Vars.length≤8:=fun m hm=>(sB hv hm).1;have ho:=o.1;simp only [ai,cond_true];obtain ⟨s,e,hI⟩:=fu (ρ:=Empty) (σ:=List ah) (ε:=List ah) (body:=fun i27 s26 =>
   bZ ((s26.length+((p.getD i27 ⟨0,[]⟩).Vars).length)*16≤140737488355328) <|
   some (.go (s26++((p.getD i27 ⟨0,[]⟩).Vars)))) (fin:=fun i27 s26=>s26)
   (fun j s=>s=varsOf (p.take j)) (p.length-0) 0 [] rfl (fun j s _ hj hI=>by
    have hjp:j<p.length:=by omega
    have hm:=cy (p:=p) (j:=j) hjp;have h1:=h8 _ hm;have h2:=uB (p:=p.take j) (k:=8) fun m hm=>h8 m (List.mem_of_mem_take hm);rw [List.length_take] at h2;subst hI;refine ⟨varsOf (p.take j)++(aQ p j).Vars,?_,?_⟩
    ·rw [show p.getD j ⟨0,[]⟩=aQ p j from rfl,aw (by omega)]
    ·rw [oI p j hjp];unfold varsOf;simp)
  rw [Nat.zero_add,Nat.sub_zero,List.take_length] at hI;subst hI;have h2:=uB (p:=p) (k:=8) h8;rw [e];refine ⟨Lib.compact (sortS (varsOf p)),?_,(fun h=>by cases h),fun _=>⟨uL (sE _),fun v => ?_⟩⟩
  ·simp only [ai,aftE];unfold oc;rw [aw (by omega)];simp only [ai];unfold jf;rw [aw (by rw [(oU _).length_eq];omega)];rfl
  ·constructor
   ·intro h;exact (oU _).mem_iff.1 (sQ h)
   ·intro h;exact Bu ((oU _).mem_iff.2 h)
theorem Ho {l:List ah} (V:List ah) {k:Nat} (hk:k<V.length):∃ u,cL (σ:=Unit) (ε:=Nat) (ρ:=Empty) (fun i2484 s2483 =>
 bZ (0≤((k:Nat):Int)∧((k:Nat):Int)<(V.length:Int)) <|
 bif (Op.bytesLess (l.getD i2484 []) (V.getD ((k:Nat):Int).toNat [])) then (
  some (.go ())
 ) else (
  some (.brk i2484)
 )
 ) (fun i2484 s2483=>i2484) (l.length-0) 0 ()=some (.brk u)∧u≤l.length∧(∀ i,i<u→Op.bytesLess (l.getD i []) (V.getD k [])=true)∧(u<l.length→Op.bytesLess (l.getD u []) (V.getD k [])=false):=by
 have hp:=rZ (ρ:=Empty) (body:=fun i2484 s2483 =>
  bZ (0≤((k:Nat):Int)∧((k:Nat):Int)<(V.length:Int)) <|
  bif (Op.bytesLess (l.getD i2484 []) (V.getD ((k:Nat):Int).toNat [])) then (
   some (.go ())
  ) else (
   some (.brk i2484)
  )) (fun j => !(Op.bytesLess (l.getD j []) (V.getD k []))) (l.length-0) 0 () (fun j u _ hj=>by
  rw [aw (by omega),Int.toNat_natCast];cases Op.bytesLess (l.getD j []) (V.getD k [])<;>rfl)
 refine ⟨_,hp,?_⟩;cases hf:(List.range' 0 (l.length-0)).find? (fun j => !(Op.bytesLess (l.getD j []) (V.getD k []))) with
 | none =>
  rw [List.find?_eq_none] at hf;refine ⟨by simp,fun i hi => ?_,fun h=>by simp at h⟩;have:=hf i (by simp only [List.mem_range'_1];simp at hi;omega);simpa using this
 | some j =>
  obtain ⟨h1,xs1,xs2,h2,h3⟩:=List.find?_eq_some_iff_append.1 hf;have hjm:j∈List.range' 0 (l.length-0):=by rw [h2];simp
  have hjl:j<l.length:=by simp only [List.mem_range'_1] at hjm;omega
  refine ⟨by show j≤_;omega,fun i hi => ?_,fun _=>by simpa using h1⟩;have hi:i<j:=hi;have hias:i∈xs1:=by
   have him:i∈xs1++j::xs2:=by rw [← h2];simp only [List.mem_range'_1];omega
   rcases List.mem_append.1 him with h | h
   ·exact h
   ·exfalso;have hs:(xs1++j::xs2).Pairwise (· < ·):=by rw [← h2];exact List.pairwise_lt_range'
    rw [List.pairwise_append] at hs;rcases List.mem_cons.1 h with rfl | h
    ·omega
    ·have:=(List.pairwise_cons.1 hs.2.1).1 i h;omega
  simpa using h3 i hias
theorem oO {p:List aa} (h:aL p=true) {m:aa} (hm:m∈p) : -1099511627776≤m.Coef∧m.Coef≤1099511627776:=by have:=kz h hm;unfold A5 at this;simp only [JO,decide_eq_true_eq,Bool.not_eq_true',beq_eq_false_iff_ne] at this;exact ⟨this.2.1,this.2.2.1⟩
theorem eA {p:List aa} (hB:Bd p):ct p=some (limited p):=by unfold ct limited;rw [bA p hB];cases aL p<;>rfl
theorem Hl {f:List ah→Int} {p:List aa} (h:bE f p) {V:List ah} (hb:f V < -1099511627776∨1099511627776<f V):limited p=([],3):=by
 unfold limited;cases hv:aL p with
 | false=>rfl
 | true =>
  exfalso;have hm:(⟨f V,V⟩:aa)∈p:=(h.mem _).2 ⟨by show f V≠0;omega,rfl⟩;have:=oO hv hm;simp only at this;omega
theorem ou {B:Int} (V:List ah):∀ {L:List jx},0≤B→(∀ c∈L,-B≤c.2.1*c.2.2∧c.2.1*c.2.2≤B) → -((L.length:Int)*B)≤aJ L V∧aJ L V≤(L.length:Int)*B
 | [],_,_=>by simp [aJ]
 | c::L,h0,h=>by
  have ih:=ou V (L:=L) h0 fun c hc=>h c (by simp [hc]);have hc:=h c (by simp);have e:(((c::L).length:Nat):Int)*B=(L.length:Int)*B+B:=by rw [List.length_cons,Int.natCast_add,Int.add_mul];simp
  rw [e];generalize (L.length:Int)*B=X at ih ⊢;unfold aJ;split<;>omega
theorem mB {L:List jx} {p:List aa} (h:bE (aJ L) p) {m:aa} (hm:m∈p):∃ c∈L,c.1=m.Vars:=by have:=(h.mem m).1 hm;exact r6 (by rw [← this.2];exact this.1)
def Jo (V:List ah):Prop:=V.length≤1000000∧∀ v∈V,v.length≤1000000
theorem jV {L:List jx} {p:List aa} (h:bE (aJ L) p) (hl:p.length≤1000000) (hL:∀ c∈L,Jo c.1):Bd p:=⟨hl,fun m hm=>by obtain ⟨c,hc,e⟩:=mB h hm;have:=hL c hc;rw [e] at this;exact this⟩
theorem uu {m:aa} (h:pc m):Jo m.Vars:=⟨by have:=h.1.1;omega,fun v hv=>by have:=(h.1.2 v hv).2;omega⟩
theorem Fj {a b:List aa} {k:Int} (hk:k=1∨k = -1) (hva:aL a=true) (hvb:aL b=true):∃ p,bE (aJ (a.map (fG 1)++b.map (fG k))) p∧Bd p∧jo a b k=some p:=by
 have oa:=cZ hva;have ob:=cZ hvb;have ha60:=oa.1;have hb60:=ob.1;have hbd:∀ c∈a.map (fG 1)++b.map (fG k),Jo c.1:=fun c hc=>by
  rcases List.mem_append.1 hc with hc | hc
  ·obtain ⟨n,hn,rfl⟩:=List.mem_map.1 hc;exact uu (oa.2 n hn)
  ·obtain ⟨n,hn,rfl⟩:=List.mem_map.1 hc;exact uu (ob.2 n hn)
 have hsmall:∀ c∈a.map (fG 1)++b.map (fG k),-1099511627776≤c.2.1*c.2.2∧c.2.1*c.2.2≤1099511627776:=fun c hc=>by
  rcases List.mem_append.1 hc with hc | hc
  ·obtain ⟨n,hn,rfl⟩:=List.mem_map.1 hc;have:=oO hva hn;show -1099511627776≤n.Coef*1∧n.Coef*1≤1099511627776;omega
  ·obtain ⟨n,hn,rfl⟩:=List.mem_map.1 hc;have:=oO hvb hn;show -1099511627776≤n.Coef*k∧n.Coef*k≤1099511627776;rcases hk with rfl | rfl<;>omega
 unfold jo;rw [aw (by omega)];have hsub:∀ j,∀ c∈a.map (fG 1)++(b.take j).map (fG k),c∈a.map (fG 1)++b.map (fG k):=fun j c hc=>by
  rcases List.mem_append.1 hc with hc | hc
  ·exact List.mem_append.2 (.inl hc)
  ·obtain ⟨n,hn,rfl⟩:=List.mem_map.1 hc;exact List.mem_append.2 (.inr (List.mem_map.2 ⟨n,List.mem_of_mem_take hn,rfl⟩))
 obtain ⟨s',e,hI⟩:=fu (ρ:=Empty) (σ:=List aa) (ε:=List aa) (body:=fun i24 s23 =>
  (bP s23 (aa.mk (aS (k*((b.getD i24 ⟨0,[]⟩).Coef))) ((b.getD i24 ⟨0,[]⟩).Vars))).bind fun y49 =>
  some (.go y49)) (fin:=fun i24 s23=>s23)
  (fun j s=>bE (aJ (a.map (fG 1)++(b.take j).map (fG k))) s∧s.length≤60+j) (b.length-0) 0 a (by
   simp only [List.take_zero,List.map_nil,List.append_nil];exact ⟨Br hva,by omega⟩) (fun j s _ hj ⟨hI,hl⟩=>by
   have hjb:j<b.length:=by omega
   have hm:=cy (p:=b) (j:=j) hjb;have hc:=oO hvb hm;have hkc:aS (k*(aQ b j).Coef)=(aQ b j).Coef*k:=by
    rcases hk with rfl | rfl
    ·rw [ax (by omega) (by omega)];omega
    ·rw [ax (by omega) (by omega)];omega
   have e1:bP s ⟨aS (k*(aQ b j).Coef),(aQ b j).Vars⟩=some (ga s ⟨aS (k*(aQ b j).Coef),(aQ b j).Vars⟩):=by
    refine fa (jV hI (by omega) fun c hc=>hbd c (hsub j c hc)) (uu (ob.2 _ hm)).1 (fun x hx=>((hI.mem x).1 hx).1) fun x hx _ => ?_;have h1:=((hI.mem x).1 hx).2;have h2:=ou (B:=1099511627776) x.Vars (by omega) (fun c hc=>hsmall c (hsub j c hc));have hlen:(a.map (fG 1)++(b.take j).map (fG k)).length≤120:=by simp only [List.length_append,JV,List.length_take];omega
    rw [← h1] at h2;simp only [hkc];generalize (a.map (fG 1)++(b.take j).map (fG k)).length=len at h2 hlen;rcases hk with rfl | rfl
    ·exact ax (by omega) (by omega)
    ·exact ax (by omega) (by omega)
   refine ⟨ga s ⟨aS (k*(aQ b j).Coef),(aQ b j).Vars⟩,?_,?_,?_⟩
   ·show (bP s ⟨aS (k*(aQ b j).Coef),(aQ b j).Vars⟩).bind _=_;rw [e1];rfl
   ·rw [oI b j hjb,List.map_append,← List.append_assoc];have:=kl hI (m:=⟨aS (k*(aQ b j).Coef),(aQ b j).Vars⟩) (a:=(aQ b j).Coef) (b:=k) hkc;exact this
   ·have:=l9 s ⟨aS (k*(aQ b j).Coef),(aQ b j).Vars⟩;omega)
 rw [Nat.zero_add,Nat.sub_zero,List.take_length] at hI;refine ⟨s',hI.1,jV hI.1 (by have:=hI.2;omega) hbd,?_⟩;rw [e];rfl
theorem Gl {a:List aa} (h:aL a=true) (k:Int):a.map (rR k)=a.map (fG k) :=
 List.map_congr_left fun m hm=>by unfold rR fG;rw [yS h m hm]
theorem qD {a b:List aa} {k:Int} (ha:Bd a) (hb:Bd b) (h:aL a=false∨aL b=false):fS [a,b] [1,k]=some ([],1):=by
 unfold fS;rw [show cX=some ([],[],[]) from rfl];simp only [ai];cases hva:aL a with
 | false =>
  show (((bo a).bind fun y79=>_).bind _).bind _=_;rw [b9 a ha,hva];rfl
 | true =>
  have hvb:aL b=false:=by
   rcases h with h | h
   ·rw [hva] at h;cases h
   ·exact h
  have oa:=cZ hva;obtain ⟨y,e,hs⟩:=pZ (k:=1) (s:=([],[],[])) hZ.nil (fun c hc=>(by cases hc)) oa rfl (by simp);show (((bo a).bind fun y79=>_).bind _).bind _=_;rw [b9 a ha,hva];simp only [ai,cond_true];rw [aw (by simp)];rw [show (([1,k]:List Int).drop 0).take (0+1-0)=[1] from rfl,show [a,b].getD 0 []=a from rfl,e];simp only [ai,nD];show (((bo b).bind fun y79=>_).bind _).bind _=_;rw [b9 b hb,hvb];rfl
theorem EJ {a b:List aa} (ha:Bd a) (hb:Bd b):∃ r,fX a b=some r∧fM a b=some r:=by
 cases hva:aL a with
 | false =>
  refine ⟨([],1),?_,?_⟩
  ·unfold fX;rw [qD ha hb (.inl hva)];rfl
  ·unfold fM;rw [bA a ha,hva];rfl
 | true =>
  cases hvb:aL b with
  | false =>
   refine ⟨([],1),?_,?_⟩
   ·unfold fX;rw [qD ha hb (.inr hvb)];rfl
   ·unfold fM;rw [bA a ha,hva,bA b hb,hvb];rfl
  | true =>
   obtain ⟨p,h1,_,h2⟩:=tn ha hb hva hvb;obtain ⟨q,h3,h4,h5⟩:=Fj (.inl rfl) hva hvb;rw [Gl hva,Gl hvb] at h1;have:=bE.uniq h1 h3;subst this;refine ⟨limited p,h2,?_⟩;unfold fM;rw [bA a ha,hva,bA b hb,hvb];simp only [ai,cond_true];rw [h5];simp only [ai];rw [eA h4];rfl
end Go.Proofs.YtadjhpbkknifeaaGreatDoor
namespace Go.Sh
theorem zO {σ ε ρ:Type} {body:Nat→σ→Option (ff σ ε ρ)} {fin:Nat→σ→ε} (I:Nat→σ→Prop) (r:ρ) (Bad:Prop):∀ (k i:Nat) (s:σ),I i s →
 (∀ j s,i≤j→j<i+k→I j s→(∃ s',body j s=some (.go s')∧I (j+1) s')∨(body j s=some (.ret r)∧Bad)) →
 (∃ s',cL body fin k i s=some (.brk (fin (i+k) s'))∧I (i+k) s')∨(cL body fin k i s=some (.ret r)∧Bad)
 | 0,i,s,hI,h=>.inl ⟨s,by simp [cL],hI⟩
 | k+1,i,s,hI,h=>by
  rcases h i s (Nat.le_refl _) (by omega) hI with ⟨s1,h1,h2⟩ | ⟨h1,h2⟩
  ·rcases zO I r Bad k (i+1) s1 h2 (fun j s h1 h2=>h j s (by omega) (by omega)) with ⟨s',e1,e3⟩ | ⟨e1,e2⟩
   ·refine .inl ⟨s',?_,by rw [show i+(k+1)=i+1+k by omega];exact e3⟩;simp only [cL,h1,Option.bind_some,nD];rw [e1,show i+1+k=i+(k+1) by omega]
   ·refine .inr ⟨?_,e2⟩;simp only [cL,h1,Option.bind_some,nD];exact e1
  ·exact .inr ⟨by simp [cL,h1,nD],h2⟩
end Go.Sh
namespace Go.Proofs.YtadjhpbkknifeaaGreatDoor
open Go.Ab Go.Sh
def BQ (n:Int):Bool:=decide (-1000000≤n)&&decide (n≤1000000)
theorem q9 (n:Int):jP n=some (BQ n):=by
 unfold jP BQ;by_cases h:n ≥ -1000000
 ·rw [JU h];rfl
 ·rw [JS h];rfl
theorem nV (n:Int):gH n=some (BQ n):=by
 unfold gH BQ;by_cases h:n ≥ -1000000
 ·rw [JU h];rfl
 ·rw [JS h];rfl
def mx (l:Linear) (j:Nat):Coef:=l.Terms.getD j ⟨[],0⟩
def iQ (l:Linear) (j:Nat):Bool:=cO (mx l j).Var&&(!((mx l j).C==0)&&(BQ (mx l j).C&&(!decide (((j:Nat):Int)>0)||Op.bytesLess (mx l (j-1)).Var (mx l j).Var)))
def br (l:Linear):Bool:=(List.range' 0 (l.Terms.length-0)).all (iQ l)&&(BQ l.Const&&decide (l.Terms.length≤12))
theorem Ad {j:Nat} (h:0<j) (h2:j≤9223372036854775807):aS (((j:Nat):Int)-1)=((j-1:Nat):Int):=by rw [uv (by unfold wC;omega)];omega
theorem GV {l:List Coef} {n:Nat} (h:∀ t∈l,t.Var.length≤n) (j:Nat):(l.getD j ⟨[],0⟩).Var.length≤n:=by
 rw [JM];cases h1:l[j]? with
 | none=>simp
 | some x=>exact h x (List.mem_of_getElem? h1)
theorem nq (l:Linear) (h1:l.Terms.length≤1000000) (h2:∀ t∈l.Terms,t.Var.length≤1000000):eQ l=some (br l):=by
 unfold eQ;rw [cH (iQ l) _ _ () (fun j u _ hj=>by
  rw [nQ _ (GV h2 j),q9];simp only [iQ,mx,Option.bind_some];cases cO (l.Terms.getD j ⟨[],0⟩).Var
  ·rfl
  ·cases (l.Terms.getD j ⟨[],0⟩).C==0
   ·cases BQ (l.Terms.getD j ⟨[],0⟩).C
    ·rfl
    ·by_cases hp:0<j
     ·rw [JU (show ((j:Nat):Int)>0 by omega),Ad hp (by omega)];rw [aw (by omega)];simp only [Int.toNat_natCast,cond_true,cond_false,Bool.not_true,Bool.false_or,Bool.true_and,Bool.not_false];cases Op.bytesLess (l.Terms.getD (j-1) ⟨[],0⟩).Var (l.Terms.getD j ⟨[],0⟩).Var<;>rfl
     ·rw [JS (show ¬ ((j:Nat):Int)>0 by omega)];rfl
   ·rfl),dF,q9]
 unfold br;cases (List.range' 0 (l.Terms.length-0)).all (iQ l)
 ·rfl
 ·cases BQ l.Const
  ·rfl
  ·simp only [cond_true,Option.bind_some,Bool.true_and,JX];rw [decide_eq_decide];omega
theorem gP (l:Linear):gD l=some (br l):=by
 unfold gD;rw [nV];unfold br;by_cases h12:l.Terms.length≤12
 ·rw [JS (show ¬ ((l.Terms.length:Nat):Int)>12 by omega),JU h12];rw [cH (iQ l) _ _ () (fun j u _ hj=>by
   rw [ph,nV];simp only [iQ,mx,Option.bind_some];cases cO (l.Terms.getD j ⟨[],0⟩).Var
   ·rfl
   ·cases (l.Terms.getD j ⟨[],0⟩).C==0
    ·cases BQ (l.Terms.getD j ⟨[],0⟩).C
     ·rfl
     ·by_cases hp:0<j
      ·rw [JU (show ((j:Nat):Int)>0 by omega),Ad hp (by omega)];rw [aw (by omega)];simp only [Int.toNat_natCast,cond_true,cond_false,Bool.not_true,Bool.false_or,Bool.true_and,Bool.not_false];cases Op.bytesLess (l.Terms.getD (j-1) ⟨[],0⟩).Var (l.Terms.getD j ⟨[],0⟩).Var<;>rfl
      ·rw [JS (show ¬ ((j:Nat):Int)>0 by omega)];rfl
    ·rfl),dF]
  cases (List.range' 0 (l.Terms.length-0)).all (iQ l)<;>cases BQ l.Const<;>rfl
 ·rw [JU (show ((l.Terms.length:Nat):Int)>12 by omega),JS h12];cases (List.range' 0 (l.Terms.length-0)).all (iQ l)<;>cases BQ l.Const<;>rfl
def JJ (l:Linear):Prop:=l.Terms.length≤1000000∧∀ t∈l.Terms,t.Var.length≤1000000
open Go.Sort
theorem wU {p:List aa} (hB:Bd p):∃ r,gh p=some r∧(aL p=false→r=[])∧(aL p=true→r.Pairwise A4∧∀ v,v∈r↔v∈varsOf p):=by
 unfold gh;rw [bA p hB];cases hv:aL p with
 | false=>exact ⟨[],rfl,fun _=>rfl,fun h=>by cases h⟩
 | true =>
  have o:=cZ hv;have h8:∀ m∈p,m.Vars.length≤8:=fun m hm=>(sB hv hm).1;have ho:=o.1;simp only [ai,cond_true];obtain ⟨s,e,hI⟩:=fu (ρ:=Empty) (σ:=List ah) (ε:=List ah) (body:=fun i1241 s1240 =>
   (mC (σ:=((List ah)×Int)) (ε:=(List ah)) (ρ:=Empty) (fun s2292 =>
    bif decide (s2292.2<((((p.getD i1241 ⟨0,[]⟩).Vars).length:Nat):Int)) then (
     (cL (σ:=Unit) (ε:=Nat) (ρ:=Empty) (fun i2484 s2483 =>
      bZ (0≤s2292.2∧s2292.2<(((p.getD i1241 ⟨0,[]⟩).Vars).length:Int)) <|
      bif (Op.bytesLess (s2292.1.getD i2484 []) (((p.getD i1241 ⟨0,[]⟩).Vars).getD s2292.2.toNat [])) then (
       some (.go ())
      ) else (
       some (.brk i2484)
      )
     ) (fun i2484 s2483=>i2484) (s2292.1.length-0) 0 ()).bind <| aftE fun u2531 =>
     ((
      bif (((u2531:Nat):Int)==((s2292.1.length:Nat):Int)) then (
       some true
      ) else (
       bZ (u2531<s2292.1.length) <|
       bZ (0≤s2292.2∧s2292.2<(((p.getD i1241 ⟨0,[]⟩).Vars).length:Int)) <|
       some (!((s2292.1.getD u2531 [])==(((p.getD i1241 ⟨0,[]⟩).Vars).getD s2292.2.toNat [])))
      )
     ):Option Bool).bind fun v2542 =>
     ((
      bif v2542 then (
       bZ (u2531≤s2292.1.length) <|
       bZ ((0+(s2292.1.take u2531).length)*16≤140737488355328) <|
       bZ (0≤s2292.2∧s2292.2<(((p.getD i1241 ⟨0,[]⟩).Vars).length:Int)) <|
       bZ (((s2292.1.take u2531).length+[(((p.getD i1241 ⟨0,[]⟩).Vars).getD s2292.2.toNat [])].length)*16≤140737488355328) <|
       bZ ((((s2292.1.take u2531)++[(((p.getD i1241 ⟨0,[]⟩).Vars).getD s2292.2.toNat [])]).length+(s2292.1.drop u2531).length)*16≤140737488355328) <|
       some (((s2292.1.take u2531)++[(((p.getD i1241 ⟨0,[]⟩).Vars).getD s2292.2.toNat [])])++(s2292.1.drop u2531))
      ) else (
       some s2292.1
      )
     ):Option (List ah)).bind fun v2575 =>
     some (.go (v2575,(aS (s2292.2+1))))
    ) else (
     some (.brk s2292.1)
    )
   ) 4294967296 (s1240,0)).bind <| aftE fun u2597 =>
   some (.go u2597)) (fin:=fun i1241 s1240=>s1240)
   (fun j s=>s.Pairwise A4∧s.length≤8*j∧∀ v,v∈s↔v∈varsOf (p.take j)) (p.length-0) 0 [] ⟨by simp,by simp,fun v=>by simp [varsOf]⟩ (fun j s _ hj ⟨hI1,hI2,hI3⟩=>by
    have hjp:j<p.length:=by omega
    have hm:=cy (p:=p) (j:=j) hjp;rw [show p.getD j ⟨0,[]⟩=aQ p j from rfl];have h1:=h8 _ hm;generalize hV:(aQ p j).Vars=V at h1;generalize hbd:(fun (s2292:List ah×Int)=>_:List ah×Int→Option (ff (List ah×Int) (List ah) Empty))=body;have e0:∀ (k:Nat) (l:List ah),l.length≤8*j+k→k<V.length→body (l,((k:Nat):Int))=some (.go (pe (V.getD k []) l,((k+1:Nat):Int))):=by
     intro k l hl hk;rw [← hbd];simp only;have w1:aS (((k:Nat):Int)+1)=((k+1:Nat):Int):=by rw [ax (by omega) (by omega)];omega
     obtain ⟨u,e1,u1,u2,u3⟩:=Ho (l:=l) V hk;rw [JU (show ((k:Nat):Int)<((V.length:Nat):Int) by omega),w1];simp only [cond_true];rw [e1];simp only [ai,aftE,Int.toNat_natCast];rw [vJ (V.getD k []) l u u2 u1 u3];by_cases hu:u=l.length
     ·rw [beq_iff_eq.2 (show ((u:Nat):Int)=((l.length:Nat):Int) by omega),if_neg (by omega)];simp only [cond_true,ai];rw [aw (by omega),aw (by rw [List.length_take];omega),aw (by omega),aw (by rw [List.length_take];simp;omega),aw (by simp;omega)];rfl
     ·have hlt:u<l.length:=by omega
      rw [beq_eq_false_iff_ne.2 (show ((u:Nat):Int)≠((l.length:Nat):Int) by omega)];simp only [cond_false];rw [aw hlt,aw (by omega)];simp only [ai];by_cases hc:l.getD u []=V.getD k []
      ·rw [if_pos ⟨hlt,hc⟩,beq_iff_eq.2 hc];rfl
      ·rw [if_neg (fun h=>hc h.2),beq_eq_false_iff_ne.2 hc];simp only [Bool.not_false,cond_true];rw [aw (by omega),aw (by rw [List.length_take];omega),aw (by omega),aw (by rw [List.length_take];simp;omega),aw (by simp;omega)];rfl
    have eN:∀ (l:List ah),body (l,((V.length:Nat):Int))=some (.brk l):=by intro l;rw [← hbd];simp only;rw [JS (by omega)];rfl
    have key:∀ (n k fuel:Nat) (l:List ah),k+n=V.length→n<fuel→l.length≤8*j+k→l.Pairwise A4→∃ l',mC body fuel (l,((k:Nat):Int))=some (.brk l')∧l'.Pairwise A4∧l'.length≤l.length+n∧∀ v,v∈l'↔v∈l∨v∈V.drop k:=by
     intro n;induction n with
     | zero =>
      intro k fuel l hk hf hl hs;obtain ⟨f,rfl⟩:∃ f,fuel=f+1:=⟨fuel-1,by omega⟩;have ek:k=V.length:=by omega
      subst ek;refine ⟨l,?_,hs,by omega,fun v=>by simp⟩;simp only [mC,eN,ai,nD]
     | succ n ih =>
      intro k fuel l hk hf hl hs;obtain ⟨f,rfl⟩:∃ f,fuel=f+1:=⟨fuel-1,by omega⟩;have hlen:=zf (V.getD k []) l;obtain ⟨l',k1,k2,k3,k4⟩:=ih (k+1) f (pe (V.getD k []) l) (by omega) (by omega) (by omega) (s9 hs);refine ⟨l',?_,k2,by omega,fun v => ?_⟩
      ·simp only [mC,e0 k l hl (by omega),ai,nD];exact k1
      ·rw [k4,uW,drop_cons (show k<V.length by omega),List.mem_cons];constructor
       ·rintro ((h | h) | h)
        ·exact .inr (.inl h)
        ·exact .inl h
        ·exact .inr (.inr h)
       ·rintro (h | h | h)
        ·exact .inl (.inr h)
        ·exact .inl (.inl h)
        ·exact .inr h
    obtain ⟨l',k1,k2,k3,k4⟩:=key V.length 0 4294967296 s (by omega) (by omega) (by omega) hI1;refine ⟨l',?_,k2,by omega,fun v => ?_⟩
    ·show (mC body 4294967296 (s,((0:Nat):Int))).bind _=_;rw [k1];rfl
    ·rw [k4,List.drop_zero,hI3,oI p j hjp];unfold varsOf;rw [List.map_append,List.flatten_append,List.mem_append];simp [hV])
  rw [Nat.zero_add,Nat.sub_zero,List.take_length] at hI;refine ⟨s,?_,(fun h=>by cases h),fun _=>⟨hI.1,hI.2.2⟩⟩;rw [e];rfl
theorem DN {p:List aa} (hB:Bd p):∃ r,iu p=some r∧gh p=some r:=by
 obtain ⟨r1,e1,f1,g1⟩:=qJ hB;obtain ⟨r2,e2,f2,g2⟩:=wU hB;refine ⟨r1,e1,?_⟩;rw [e2];cases hv:aL p with
 | false=>rw [f1 hv,f2 hv]
 | true =>
  obtain ⟨a1,a2⟩:=g1 hv;obtain ⟨b1,b2⟩:=g2 hv;rw [AE a1 b1 fun v=>by rw [a2,b2]]
theorem Ci {α:Type} [DecidableEq α] (d:α) (a b:List α) (h:a.length=b.length):(List.range' 0 (a.length-0)).all (fun j=>decide (a.getD j d=b.getD j d))=true↔a=b:=by
 rw [J0];constructor
 ·intro hA;refine List.ext_getElem h fun i h1 h2 => ?_;have:=hA i (by simp only [List.mem_range'_1];omega);simpa [JM,JN h1,JN h2] using this
 ·rintro rfl j _;simp
theorem yl (a b:List ah) (r:Option Bool) (hr:r=(bif (((a.length:Nat):Int)==((b.length:Nat):Int)) then (
 (cL (σ:=Unit) (ε:=Unit) (ρ:=Bool) (fun i31 s30 =>
  bZ (i31<b.length) <|
  bif ((a.getD i31 [])==(b.getD i31 [])) then (
   some (.go ())
  ) else (
   some (.ret false)
  )
 ) (fun i31 s30=>()) (a.length-0) 0 ()).bind <| aft fun u74 =>
 some true
 ) else (
  some false
 ))):r=some (decide (a=b)):=by
 rw [hr];by_cases hl:a.length=b.length
 ·rw [beq_iff_eq.2 (show ((a.length:Nat):Int)=((b.length:Nat):Int) by omega)];simp only [cond_true];rw [cH (r:=false) (fun j=>decide (a.getD j []=b.getD j [])) _ _ () (fun j u _ hj=>by
   rw [aw (by omega)];by_cases h:a.getD j []=b.getD j []
   ·rw [beq_iff_eq.2 h,JU h];rfl
   ·rw [beq_eq_false_iff_ne.2 h,JS h];rfl),dF]
  have h9:=Ci [] a b hl;cases hc:(List.range' 0 (a.length-0)).all (fun j=>decide (a.getD j []=b.getD j [])) with
  | true=>rw [JU (h9.1 hc)];rfl
  | false=>rw [JS (fun e=>by rw [h9.2 e] at hc;cases hc)];rfl
 ·rw [beq_eq_false_iff_ne.2 (show ((a.length:Nat):Int)≠((b.length:Nat):Int) by omega),JS (fun e=>hl (by rw [e]))];rfl
theorem yh (a b:List ah):de a b=some (decide (a=b)):=yl a b _ (by unfold de;rfl)
theorem Ex (x y:aa):(bif (x.Coef==y.Coef) then some (decide (x.Vars=y.Vars)) else some false)=some (decide (x=y)):=by
 obtain ⟨c,V⟩:=x;obtain ⟨d,W⟩:=y;by_cases h1:c=d
 ·by_cases h2:V=W
  ·simp [h1,h2]
  ·simp [h1,h2]
 ·rw [beq_eq_false_iff_ne.2 h1,JS (fun e=>h1 (aa.mk.inj e).1)];rfl
theorem vQ (a b:List aa):eK a b=some (decide (a=b)):=by
 unfold eK;by_cases hl:a.length=b.length
 ·rw [beq_iff_eq.2 (show ((a.length:Nat):Int)=((b.length:Nat):Int) by omega)];simp only [cond_true];rw [cH (r:=false) (fun j=>decide (a.getD j ⟨0,[]⟩=b.getD j ⟨0,[]⟩)) _ _ () (fun j u _ hj=>by
   rw [aw (by omega)];have h:=Ex (a.getD j ⟨0,[]⟩) (b.getD j ⟨0,[]⟩);simp only [yh,ai];cases hc:((a.getD j ⟨0,[]⟩).Coef==(b.getD j ⟨0,[]⟩).Coef) with
   | false=>rw [hc] at h;rw [← JZ h];rfl
   | true =>
    rw [hc] at h;simp only [cond_true] at h;simp only [cond_true];rw [JZ h];cases decide (a.getD j ⟨0,[]⟩=b.getD j ⟨0,[]⟩)<;>rfl),dF]
  have h9:=Ci ⟨0,[]⟩ a b hl;cases hc:(List.range' 0 (a.length-0)).all (fun j=>decide (a.getD j ⟨0,[]⟩=b.getD j ⟨0,[]⟩)) with
  | true=>rw [JU (h9.1 hc)];rfl
  | false=>rw [JS (fun e=>by rw [h9.2 e] at hc;cases hc)];rfl
 ·rw [beq_eq_false_iff_ne.2 (show ((a.length:Nat):Int)≠((b.length:Nat):Int) by omega),JS (fun e=>hl (by rw [e]))];rfl
theorem yP {l:Linear} {n:Int} (h:dK l n=some true):l.Terms.length≤n∧∀ t∈l.Terms,t.Var.length≤40:=by
 unfold dK at h;rw [cH (r:=false) (fun j=>decide ((l.Terms.getD j ⟨[],0⟩).Var.length≤40)) _ _ () (fun j u _ hj=>by
  by_cases hc:(l.Terms.getD j ⟨[],0⟩).Var.length≤40
  ·rw [JS (by omega),JU hc];rfl
  ·rw [JU (by omega),JS hc];rfl),dF] at h
 rw [Ee (fun t:Coef=>decide (t.Var.length≤40)) ⟨[],0⟩ l.Terms] at h;cases hc:l.Terms.all (fun t:Coef=>decide (t.Var.length≤40)) with
 | false=>rw [hc] at h;simp at h
 | true =>
  rw [hc] at h;simp only [cond_true,JX,decide_eq_true_eq] at h;refine ⟨h,fun t ht => ?_⟩;have:=J0.1 hc t ht;simpa using this
theorem ub (l:Linear) (n:Int):∃ b,dK l n=some b:=by
 unfold dK;rw [cH (r:=false) (fun j=>decide ((l.Terms.getD j ⟨[],0⟩).Var.length≤40)) _ _ () (fun j u _ hj=>by
  by_cases hc:(l.Terms.getD j ⟨[],0⟩).Var.length≤40
  ·rw [JS (by omega),JU hc];rfl
  ·rw [JU (by omega),JS hc];rfl),dF]
 cases (List.range' 0 (l.Terms.length-0)).all (fun j=>decide ((l.Terms.getD j ⟨[],0⟩).Var.length≤40)) with
 | false=>exact ⟨_,rfl⟩
 | true=>exact ⟨_,rfl⟩
theorem vB:bE (aJ []) []:=⟨by simp,fun m=>by simp [aJ]⟩
theorem uF:Bd []:=⟨by simp,fun m hm=>by cases hm⟩
theorem Ai (n:Int):dj n=some (limited (ga [] ⟨n,[]⟩)):=by
 have hc:bE (aJ [([],n,1)]) (ga [] ⟨n,[]⟩):=by have:=kl vB (m:=⟨n,[]⟩) (a:=n) (b:=1) (by simp);simpa using this
 have hB:Bd (ga [] ⟨n,[]⟩):=jV hc (by have:=l9 [] ⟨n,[]⟩;simp at this;omega) (fun c hc=>by
  have:c=([],n,1):=by simpa using hc
  rw [this];exact ⟨by simp,fun v hv=>by cases hv⟩)
 unfold dj;rw [fa uF (by simp) (fun x hx=>by cases hx) (fun x hx=>by cases hx)];simp only [ai];rw [eA hB];rfl
theorem xm {l:Linear} (h:br l=true):l.Terms.length≤12∧(-1000000≤l.Const∧l.Const≤1000000)∧∀ j,j<l.Terms.length→cO (mx l j).Var=true∧(mx l j).C≠0∧(-1000000≤(mx l j).C∧(mx l j).C≤1000000)∧(0<j→Op.bytesLess (mx l (j-1)).Var (mx l j).Var=true):=by
 unfold br at h;simp only [JO,decide_eq_true_eq] at h;obtain ⟨h1,h2,h3⟩:=h;have h2 : -1000000≤l.Const∧l.Const≤1000000:=by simpa [BQ] using h2
 refine ⟨h3,h2,fun j hj => ?_⟩;have:=J0.1 h1 j (by simp only [List.mem_range'_1];omega);unfold iQ BQ at this;simp only [JO,decide_eq_true_eq,Bool.not_eq_true',beq_eq_false_iff_ne,Bool.or_eq_true,decide_eq_false_iff_not] at this;obtain ⟨g1,g2,g3,g4⟩:=this;exact ⟨g1,g2,g3,fun h0=>g4.resolve_left (by omega)⟩
theorem Iz {l:Linear} (h:br l=true):∀ j i,i<j→j<l.Terms.length→Op.bytesLess (mx l i).Var (mx l j).Var=true:=by
 obtain ⟨_,_,h3⟩:=xm h;intro j;induction j with
 | zero=>intro i hi;omega
 | succ j ih =>
  intro i hi hj;have h4:=(h3 (j+1) hj).2.2.2 (by omega);rw [Nat.add_sub_cancel] at h4;by_cases e:i=j
  ·rw [e];exact h4
  ·exact rf (ih i (by omega) (by omega)) h4
theorem HD (l:Linear) (j:Nat) (h:j<l.Terms.length):l.Terms.take (j+1)=l.Terms.take j++[mx l j]:=by rw [List.take_add_one,JN h];simp [mx,JM,JN h]
def FB (t:Coef):jx:=([t.Var],t.C,1)
theorem CF {v:ah} (h:cO v=true):CV [v]:=⟨by simp,fun w hw=>by
 have:w=v:=by simpa using hw
 subst this;have:=AD h;exact ⟨this.1,by have:=this.2;omega⟩⟩
theorem F0 {l:Linear} (h1:l.Terms.length≤1000000) (h2:∀ t∈l.Terms,t.Var.length≤1000000) (hv:br l=true):∃ p,bE (aJ (([([],l.Const,1)]:List jx)++l.Terms.map FB)) p∧Bd p∧dn l=some (limited p)∧eS l=some (limited p):=by
 unfold dn eS;rw [nq l h1 h2,gP l,hv];obtain ⟨v1,v2,v3⟩:=xm hv;simp only [ai,cond_true];rw [show cX=some ([],[],[]) from rfl];simp only [ai];have h0:CV []:=⟨by simp,fun v hv=>by cases hv⟩;have hinC:gf l.Const=true:=dG.2 (by omega);obtain ⟨y,e,hs2⟩:=tO (a:=l.Const) (b:=1) hZ.nil (fun c hc=>(by cases hc)) (by simp) h0;rw [List.nil_append] at hs2;rw [e];simp only [ai];have hokc:∀ j,∀ c∈([([],l.Const,1)]:List jx)++(l.Terms.take j).map FB,Bc c:=fun j c hc=>by
  rcases List.mem_append.1 hc with hc | hc
  ·have:c=([],l.Const,1):=by simpa using hc
   rw [this];exact ⟨h0,hinC,rfl⟩
  ·obtain ⟨t,ht,rfl⟩:=List.mem_map.1 hc;obtain ⟨i,hi,rfl⟩:=List.getElem_of_mem (List.mem_of_mem_take ht);have h5:=v3 i hi;have e5:mx l i=l.Terms[i]:=by simp [mx,JM,JN hi]
   rw [e5] at h5;exact ⟨CF h5.1,dG.2 (by have:=h5.2.2.1;show _≤l.Terms[i].C∧l.Terms[i].C≤_;omega),rfl⟩
 obtain ⟨s,e2,hI⟩:=fu (ρ:=Empty) (σ:=MI×MI×MV) (ε:=MI×MI×MV) (body:=fun i37 s36 =>
  (bW [((l.Terms.getD i37 ⟨[],0⟩).Var)] ((l.Terms.getD i37 ⟨[],0⟩).C) 1 s36.2.2 s36.1 s36.2.1).bind fun y62 =>
  some (.go (y62.2.1,y62.2.2,y62.1))) (fin:=fun i37 s36=>(s36.1,s36.2.1,s36.2.2))
  (fun j s=>hZ (([([],l.Const,1)]:List jx)++(l.Terms.take j).map FB) s.2.2 s.1 s.2.1) (l.Terms.length-0) 0 (y.2.1,y.2.2,y.1) (by rw [List.take_zero,List.map_nil,List.append_nil];exact hs2) (fun j s _ hj hI=>by
   have hjl:j<l.Terms.length:=by omega
   have h5:=v3 j hjl;obtain ⟨z,e3,hz⟩:=tO (a:=(mx l j).C) (b:=1) hI (hokc j) (by simp only [List.length_append,JV,List.length_take,List.length_singleton];omega) (CF h5.1);refine ⟨(z.2.1,z.2.2,z.1),?_,?_⟩
   ·show (bW [(mx l j).Var] (mx l j).C 1 s.2.2 s.1 s.2.1).bind _=_;rw [e3];rfl
   ·rw [HD l j hjl,List.map_append,← List.append_assoc];exact hz)
 rw [Nat.zero_add,Nat.sub_zero,List.take_length] at hI;rw [e2];simp only [ai,aftE];have hokA:=hokc l.Terms.length;rw [List.take_length] at hokA;obtain ⟨p,k1,k2,k3⟩:=pM hI hokA (by simp only [List.length_append,JV,List.length_singleton];omega);rw [k3];refine ⟨p,k1,k2,rfl,?_⟩;have hc0:bE (aJ [([],l.Const,1)]) (ga [] ⟨l.Const,[]⟩):=by have:=kl vB (m:=⟨l.Const,[]⟩) (a:=l.Const) (b:=1) (by simp);simpa using this
 have hl0:(ga [] ⟨l.Const,[]⟩).length≤1:=by have:=l9 [] ⟨l.Const,[]⟩;simpa using this
 have hbdc:∀ j,∀ c∈([([],l.Const,1)]:List jx)++(l.Terms.take j).map FB,Jo c.1:=fun j c hc=>by have:=(hokc j c hc).1;exact ⟨by have:=this.1;omega,fun v hv=>by have:=(this.2 v hv).2;omega⟩
 rw [fa uF (by simp) (fun x hx=>by cases hx) (fun x hx=>by cases hx)];simp only [ai];obtain ⟨q,e4,hQ,hql⟩:=fu (ρ:=Empty) (σ:=List aa) (ε:=List aa) (body:=fun i32 s31 =>
  (bP s31 (aa.mk ((l.Terms.getD i32 ⟨[],0⟩).C) [((l.Terms.getD i32 ⟨[],0⟩).Var)])).bind fun y57 =>
  some (.go y57)) (fin:=fun i32 s31=>s31)
  (fun j s=>bE (aJ (([([],l.Const,1)]:List jx)++(l.Terms.take j).map FB)) s∧s.length≤1+j) (l.Terms.length-0) 0 (ga [] ⟨l.Const,[]⟩) (by
   simp only [List.take_zero,List.map_nil,List.append_nil];exact ⟨hc0,by omega⟩) (fun j s _ hj ⟨hI,hl⟩=>by
   have hjl:j<l.Terms.length:=by omega
   have h5:=v3 j hjl;have e1:bP s ⟨(mx l j).C,[(mx l j).Var]⟩=some (ga s ⟨(mx l j).C,[(mx l j).Var]⟩):=by
    refine fa (jV hI (by omega) (hbdc j)) (by simp) (fun x hx=>((hI.mem x).1 hx).1) fun x hx ex => ?_;exfalso;obtain ⟨c,hc,e⟩:=mB hI hx;have ex:x.Vars=[(mx l j).Var]:=ex;rw [ex] at e;rcases List.mem_append.1 hc with hc | hc
    ·have:c=([],l.Const,1):=by simpa using hc
     rw [this] at e;cases e
    ·obtain ⟨t,ht,rfl⟩:=List.mem_map.1 hc;obtain ⟨i,hi,rfl⟩:=List.getElem_of_mem ht;rw [List.getElem_take] at e;have hi2:i<j:=by simp at hi;omega
     have hlt:=Iz hv j i hi2 hjl;have e5:mx l i=l.Terms[i]'(by omega):=by simp [mx,JM,JN (show i<l.Terms.length by omega)]
     have e6:(l.Terms[i]'(by omega)).Var=(mx l j).Var:=(List.cons.inj e).1;rw [e5,e6,eC] at hlt;cases hlt
   refine ⟨ga s ⟨(mx l j).C,[(mx l j).Var]⟩,?_,?_,?_⟩
   ·show (bP s ⟨(mx l j).C,[(mx l j).Var]⟩).bind _=_;rw [e1];rfl
   ·rw [HD l j hjl,List.map_append,← List.append_assoc];exact kl hI (m:=⟨(mx l j).C,[(mx l j).Var]⟩) (a:=(mx l j).C) (b:=1) (by simp)
   ·have:=l9 s ⟨(mx l j).C,[(mx l j).Var]⟩;omega)
 rw [Nat.zero_add,Nat.sub_zero,List.take_length] at hQ;rw [Nat.zero_add,Nat.sub_zero] at hql;rw [e4];have hB2:=hbdc l.Terms.length;rw [List.take_length] at hB2;show (ct q).bind _=_;rw [eA (jV hQ (by omega) hB2),bE.uniq k1 hQ];rfl
theorem HK (x y:ah):(Op.bytesLess x y||x==y)=mA x y:=by
 rw [Cg];unfold mA;cases h:Op.bytesLess y x with
 | true =>
  have:=(pE y x).2 h;simp [List.not_le.2 this]
 | false =>
  have:¬ y<x:=fun e=>by rw [(pE y x).1 e] at h;cases h
  simp [List.not_lt.1 this]
theorem tT {α:Type} {l:List α} {i:Nat} (h:l.length≤i):l.drop i=[]:=List.drop_eq_nil_of_le h
theorem wW {A B:List ah} (hA:A.Pairwise (fun a b=>mA a b=true)) (hB:B.Pairwise (fun a b=>mA a b=true)) (h1:A.length≤1000) (h2:B.length≤1000):iD A B=some (bQ (A++B)):=by
 have hm:List.merge A B mA=bQ (A++B):=by rw [← ua];exact (yN (List.pairwise_merge mr rv A B hA hB) (List.merge_perm_append mA)).symm
 unfold iD;generalize hb:(fun (s186:(List ah)×Int×Int)=>_:(List ah)×Int×Int→Option (ff ((List ah)×Int×Int) (List ah) Empty))=body;have e0:∀ (out:List ah) (i k:Nat),i≤A.length→k≤B.length→out.length≤i+k→body (out,((i:Nat):Int),((k:Nat):Int))=some (if i<A.length∧(k<B.length→mA (A.getD i []) (B.getD k [])=true) then .go (out++[A.getD i []],((i+1:Nat):Int),((k:Nat):Int)) else if k<B.length then .go (out++[B.getD k []],((i:Nat):Int),((k+1:Nat):Int)) else .brk out):=by
  intro out i k hi hk hl;rw [← hb];have w1:aS (((i:Nat):Int)+1)=((i+1:Nat):Int):=by rw [ax (by omega) (by omega)];omega
  have w2:aS (((k:Nat):Int)+1)=((k+1:Nat):Int):=by rw [ax (by omega) (by omega)];omega
  simp only [w1,w2,Int.toNat_natCast,HK];by_cases ci:i<A.length
  ·rw [JU (show ((i:Nat):Int)<((A.length:Nat):Int) by omega)];simp only [cond_true,ai,Sh.aft];by_cases ck:k<B.length
   ·rw [beq_eq_false_iff_ne.2 (show ((k:Nat):Int)≠((B.length:Nat):Int) by omega)];simp only [cond_false];rw [aw (by omega),aw (by omega)];simp only [ai];cases hl:mA (A.getD i []) (B.getD k []) with
    | true =>
     rw [if_pos ⟨ci,fun _=>rfl⟩];simp only [cond_true];rw [aw (by omega),aw (by omega)]
    | false =>
     rw [if_neg (fun h=>by have:=h.2 ck;cases this),if_pos ck];simp only [cond_false];rw [aw (by omega),aw (by omega)]
   ·rw [beq_iff_eq.2 (show ((k:Nat):Int)=((B.length:Nat):Int) by omega)];simp only [cond_true,ai];rw [if_pos ⟨ci,fun h=>absurd h ck⟩,aw (by omega),aw (by omega)]
  ·rw [JS (show ¬ ((i:Nat):Int)<((A.length:Nat):Int) by omega),if_neg (fun h=>ci h.1)];simp only [cond_false];by_cases ck:k<B.length
   ·rw [JU (show ((k:Nat):Int)<((B.length:Nat):Int) by omega),if_pos ck];simp only [cond_true,ai,Sh.aft];rw [beq_eq_false_iff_ne.2 (show ((k:Nat):Int)≠((B.length:Nat):Int) by omega)];simp only [cond_false,ai];rw [aw (by omega),aw (by omega)]
   ·rw [JS (show ¬ ((k:Nat):Int)<((B.length:Nat):Int) by omega),if_neg ck];rfl
 have key:∀ (n i k fuel:Nat) (out:List ah),i≤A.length→k≤B.length→(A.length-i)+(B.length-k)=n→out.length≤i+k→n<fuel→mC body fuel (out,((i:Nat):Int),((k:Nat):Int))=some (.brk (out++List.merge (A.drop i) (B.drop k) mA)):=by
  intro n;induction n with
  | zero =>
   intro i k fuel out hi hk hn hl hf;obtain ⟨f,rfl⟩:∃ f,fuel=f+1:=⟨fuel-1,by omega⟩;simp only [mC,e0 out i k hi hk hl];rw [if_neg (by omega),if_neg (by omega),tT (l:=A) (by omega),tT (l:=B) (by omega)];simp [nD]
  | succ n ih =>
   intro i k fuel out hi hk hn hl hf;obtain ⟨f,rfl⟩:∃ f,fuel=f+1:=⟨fuel-1,by omega⟩;simp only [mC,e0 out i k hi hk hl];by_cases ci:i<A.length
   ·have dA:=drop_cons ci;by_cases ck:k<B.length
    ·have dB:=drop_cons ck;by_cases hc:mA (A.getD i []) (B.getD k [])=true
     ·rw [if_pos ⟨ci,fun _=>hc⟩];simp only [ai,nD];rw [ih (i+1) k f _ (by omega) hk (by omega) (by simp;omega) (by omega),dA,dB,List.cons_merge_cons,if_pos hc];simp
     ·rw [if_neg (fun h=>hc (h.2 ck)),if_pos ck];simp only [ai,nD];rw [ih i (k+1) f _ hi (by omega) (by omega) (by simp;omega) (by omega),dA,dB,List.cons_merge_cons,if_neg hc];simp
    ·rw [if_pos ⟨ci,fun h=>absurd h ck⟩];simp only [ai,nD];rw [ih (i+1) k f _ (by omega) hk (by omega) (by simp;omega) (by omega),dA,tT (l:=B) (by omega)];simp
   ·have ck:k<B.length:=by omega
    have dB:=drop_cons ck;rw [if_neg (fun h=>ci h.1),if_pos ck];simp only [ai,nD];rw [ih i (k+1) f _ hi (by omega) (by omega) (by simp;omega) (by omega),dB,tT (l:=A) (by omega)];simp
 have:=key (A.length+B.length) 0 0 4294967296 [] (Nat.zero_le _) (Nat.zero_le _) (by omega) (Nat.zero_le _) (by omega);rw [show ((([]:List ah),0,0):(List ah)×Int×Int)=([],((0:Nat):Int),((0:Nat):Int)) from rfl,this];rw [List.drop_zero,List.drop_zero,hm];rfl
theorem qX (L:List jx) (c:jx) (V:List ah):nR (L++[c]) V=nR L V++(if c.1=V then [c.2.1] else [])∧qg (L++[c]) V=qg L V++(if c.1=V then [c.2.2] else []):=by
 unfold nR qg;rw [List.filter_append,List.map_append,List.map_append];by_cases h:c.1=V
 ·simp [h]
 ·simp [h]
theorem EK {α:Type} {l:List α} (hn:l.Nodup) {i j:Nat} (hi:i<l.length) (hj:j<l.length) (e:l[i]=l[j]):i=j:=by
 have hp:=List.pairwise_iff_getElem.1 hn;rcases Nat.lt_trichotomy i j with h | h | h
 ·exact absurd e (hp i j hi hj h)
 ·exact h
 ·exact absurd e.symm (hp j i hj hi h)
theorem pz {α β:Type} {l:List α} (hn:l.Nodup) {n:Nat} (h:n<l.length) (f g:α→β) (hg:∀ W∈l,W≠l[n]→g W=f W):(l.map f).set n (g l[n])=l.map g:=by
 refine List.ext_getElem (by simp) fun i h1 h2 => ?_;have hi:i<l.length:=by simpa using h2
 rw [List.getElem_set,List.getElem_map];by_cases e:n=i
 ·subst e;simp
 ·rw [if_neg e,List.getElem_map];exact (hg _ (List.getElem_mem hi) (fun h3=>e (EK hn hi h h3).symm)).symm
abbrev S3:=(List (List ah))×(List (List Int))×(List (List Int))
structure Gt (L:List jx) (s:S3):Prop where
 nd:s.1.Nodup
 al:∀ c∈L,c.1∈s.1
 sr:∀ V∈s.1,∃ c∈L,c.1=V
 ls:s.2.2=s.1.map (nR L)
 rs:s.2.1=s.1.map (qg L)
 ln:s.1.length≤L.length
theorem Gt.nil:Gt [] ([],[],[]):=⟨by simp,fun c hc=>(by cases hc),fun V hV=>(by cases hV),rfl,rfl,Nat.le_refl _⟩
def grown (s:S3) (V:List ah):S3:=if V∈s.1 then s else (s.1++[V],s.2.1++[[]],s.2.2++[[]])
theorem zz {L:List jx} {s:S3} (h:Gt L s) (V:List ah):(grown s V).1.Nodup∧V∈(grown s V).1∧(∀ c∈L,c.1∈(grown s V).1)∧(∀ W∈(grown s V).1,W=V∨∃ c∈L,c.1=W)∧(grown s V).2.2=(grown s V).1.map (nR L)∧(grown s V).2.1=(grown s V).1.map (qg L)∧(grown s V).1.length≤L.length+1:=by
 unfold grown;by_cases hV:V∈s.1
 ·rw [if_pos hV];exact ⟨h.nd,hV,h.al,fun W hW=>.inr (h.sr W hW),h.ls,h.rs,by have:=h.ln;omega⟩
 ·rw [if_neg hV];have hno:∀ c∈L,c.1≠V:=fun c hc e=>hV (by rw [← e];exact h.al c hc);have ea:nR L V=[]:=by unfold nR;rw [List.filter_eq_nil_iff.2 (fun c hc=>by simp [hno c hc])];rfl
  have eb:qg L V=[]:=by unfold qg;rw [List.filter_eq_nil_iff.2 (fun c hc=>by simp [hno c hc])];rfl
  refine ⟨?_,by simp,fun c hc=>by simp [h.al c hc],fun W hW => ?_,by simp [h.ls,ea],by simp [h.rs,eb],by simp;exact h.ln⟩
  ·rw [List.nodup_append];refine ⟨h.nd,by simp,fun a ha b hb e => ?_⟩;have:b=V:=by simpa using hb
   rw [e,this] at ha;exact hV ha
  ·rcases List.mem_append.1 hW with hW | hW
   ·exact .inr (h.sr W hW)
   ·exact .inl (by simpa using hW)
theorem Ik {L:List jx} {s:S3} (h:Gt L s) {V:List ah} {n:Nat} (a b:Int) (hn:n<(grown s V).1.length) (hV:(grown s V).1[n]=V) :
 Gt (L++[(V,a,b)]) ((grown s V).1,(grown s V).2.1.set n ((grown s V).2.1.getD n []++[b]),(grown s V).2.2.set n ((grown s V).2.2.getD n []++[a])):=by
 obtain ⟨g1,g2,g3,g4,g5,g6,g7⟩:=zz h V;generalize grown s V=t at *;have gl:∀ (f:List ah→List Int),(t.1.map f).getD n []=f V:=fun f=>by simp [JM,JN hn,hV]
 refine ⟨g1,fun c hc => ?_,fun W hW => ?_,?_,?_,by simpa using g7⟩
 ·rcases List.mem_append.1 hc with hc | hc
  ·exact g3 c hc
  ·have:c=(V,a,b):=by simpa using hc
   rw [this];exact g2
 ·rcases g4 W hW with rfl | ⟨c,hc,e⟩
  ·exact ⟨(W,a,b),by simp,rfl⟩
  ·exact ⟨c,by simp [hc],e⟩
 ·show t.2.2.set n _=_;rw [g5,gl];have:=pz g1 hn (nR L) (nR (L++[(V,a,b)])) (fun W _ hne=>by rw [(qX L (V,a,b) W).1,if_neg (fun e=>hne (by rw [hV];exact e.symm))];simp)
  rw [hV,(qX L (V,a,b) V).1,if_pos rfl] at this;exact this
 ·show t.2.1.set n _=_;rw [g6,gl];have:=pz g1 hn (qg L) (qg (L++[(V,a,b)])) (fun W _ hne=>by rw [(qX L (V,a,b) W).2,if_neg (fun e=>hne (by rw [hV];exact e.symm))];simp)
  rw [hV,(qX L (V,a,b) V).2,if_pos rfl] at this;exact this
theorem DF {ls:List (List ah)} {V:List ah} (hl:∀ W∈ls,W.length≤1000000) (hV:V.length≤1000000):∃ u,cL (σ:=Unit) (ε:=Nat) (ρ:=Empty) (fun i2026 s2025 =>
 (cW (ls.getD i2026 []) V).bind fun y2062 =>
 bif (y2062==0) then (
  some (.brk i2026)
 ) else (
  some (.go ())
 )
 ) (fun i2026 s2025=>i2026) (ls.length-0) 0 ()=some (.brk u)∧((V∈ls∧∃ h:u<ls.length,ls[u]=V)∨(V ∉ ls∧u=ls.length)):=by
 have hp:=rZ (ρ:=Empty) (body:=fun i2026 s2025 =>
  (cW (ls.getD i2026 []) V).bind fun y2062 =>
  bif (y2062==0) then (
   some (.brk i2026)
  ) else (
   some (.go ())
  )) (fun j=>decide (cmpL (ls.getD j []) V=0)) (ls.length-0) 0 () (fun j u _ hj=>by
  have hm:ls.getD j []∈ls:=by rw [JM,JN (by omega)];exact List.getElem_mem _
  obtain ⟨r,e,k1,k2⟩:=uN (ls.getD j []) V (hl _ hm) hV;simp only [e,ai];by_cases h:cmpL (ls.getD j []) V=0
  ·rw [beq_iff_eq.2 (k2.2 h),JU h];rfl
  ·rw [beq_eq_false_iff_ne.2 (fun e=>h (k2.1 e)),JS h];rfl)
 rw [Ec (fun W:List ah=>decide (cmpL W V=0)) [] ls] at hp;refine ⟨_,hp,?_⟩;have h3:=rF (fun W:List ah=>decide (cmpL W V=0)) ls;by_cases hn:idxOf (fun W:List ah=>decide (cmpL W V=0)) ls<0
 ·right;rw [JU hn];refine ⟨fun hm => ?_,rfl⟩;have h4:=h3.1 hn;rw [List.any_eq_false] at h4;exact h4 V hm (by simp [gC])
 ·left;rw [JS hn];simp only [cond_false];obtain ⟨h5,h6⟩:=xu (fun W:List ah=>decide (cmpL W V=0)) [] ls (by omega);have h7:ls[(idxOf (fun W:List ah=>decide (cmpL W V=0)) ls).toNat]=V:=by rw [JM,JN h5] at h6;simp only [Option.getD_some,decide_eq_true_eq] at h6;exact fI h6
  exact ⟨by rw [← h7];exact List.getElem_mem _,h5,h7⟩
def zq (m:aa) (b:List aa) (i1834:Nat) (s1833:S3):Option (ff S3 S3 Empty) :=
 (iD m.Vars ((b.getD i1834 ⟨0,[]⟩).Vars)).bind fun y1981 =>
 (cL (σ:=Unit) (ε:=Nat) (ρ:=Empty) (fun i2026 s2025 =>
  (cW (s1833.1.getD i2026 []) y1981).bind fun y2062 =>
  bif (y2062==0) then (
   some (.brk i2026)
  ) else (
   some (.go ())
  )
 ) (fun i2026 s2025=>i2026) (s1833.1.length-0) 0 ()).bind <| aftE fun u2076 =>
 ((
  bif (((u2076:Nat):Int)==((s1833.1.length:Nat):Int)) then (
   bZ ((s1833.1.length+1)*24≤140737488355328) <|
   bZ ((s1833.2.2.length+1)*24≤140737488355328∧s1833.2.2.length<1000000) <|
   bZ ((s1833.2.1.length+1)*24≤140737488355328∧s1833.2.1.length<1000000) <|
   some ((s1833.1++[y1981]),(s1833.2.1++[[]]),(s1833.2.2++[[]]))
  ) else (
   some (s1833.1,s1833.2.1,s1833.2.2)
  )
 ):Option S3).bind fun v2091 =>
 bZ (u2076<v2091.2.2.length) <|
 bZ (((v2091.2.2.getD u2076 []).length+[(m.Coef)].length)*8≤140737488355328) <|
 bZ (u2076<v2091.2.1.length) <|
 bZ (((v2091.2.1.getD u2076 []).length+[((b.getD i1834 ⟨0,[]⟩).Coef)].length)*8≤140737488355328) <|
 some (.go (v2091.1,(v2091.2.1.set u2076 ((v2091.2.1.getD u2076 [])++[((b.getD i1834 ⟨0,[]⟩).Coef)])),(v2091.2.2.set u2076 ((v2091.2.2.getD u2076 [])++[m.Coef]))))
theorem DD {L:List jx} {s:S3} (h:Gt L s) (hL:∀ c∈L,Bc c) (hn:L.length≤10000) {m:aa} {b:List aa} {j:Nat} (hj:j<b.length) (hm:pc m) (hms:m.Vars.Pairwise (fun a b=>mA a b=true)) (hb:pc (aQ b j)) (hbs:(aQ b j).Vars.Pairwise (fun a b=>mA a b=true)) :
 ∃ s',zq m b j s=some (.go s')∧Gt (L++[tF m (aQ b j)]) s':=by
 unfold zq;rw [show b.getD j ⟨0,[]⟩=aQ b j from rfl,wW hms hbs (by have:=hm.1.1;omega) (by have:=hb.1.1;omega)];simp only [ai];have hok:=tP hm hb;generalize hV:bQ (m.Vars++(aQ b j).Vars)=V;have hVl:V.length≤1000:=by rw [← hV];exact hok.1.1
 obtain ⟨u,e,hu⟩:=DF (ls:=s.1) (V:=V) (fun W hW=>by obtain ⟨c,hc,e⟩:=h.sr W hW;rw [← e];have:=(hL c hc).1.1;omega) (by omega)
 rw [e];simp only [ai,aftE];have hl1:s.2.2.length=s.1.length:=by rw [h.ls,JV]
 have hl2:s.2.1.length=s.1.length:=by rw [h.rs,JV]
 have hln:=h.ln;have hgr:((
  bif (((u:Nat):Int)==((s.1.length:Nat):Int)) then (
   bZ ((s.1.length+1)*24≤140737488355328) <|
   bZ ((s.2.2.length+1)*24≤140737488355328∧s.2.2.length<1000000) <|
   bZ ((s.2.1.length+1)*24≤140737488355328∧s.2.1.length<1000000) <|
   some ((s.1++[V]),(s.2.1++[[]]),(s.2.2++[[]]))
  ) else (
   some (s.1,s.2.1,s.2.2)
  )
 ):Option S3)=some (grown s V)∧∃ h:u<(grown s V).1.length,(grown s V).1[u]=V:=by
  unfold grown;rcases hu with ⟨hm,hlt,hv⟩ | ⟨hm,rfl⟩
  ·rw [beq_eq_false_iff_ne.2 (show ((u:Nat):Int)≠((s.1.length:Nat):Int) by omega)];simp only [if_pos hm];exact ⟨rfl,hlt,hv⟩
  ·rw [beq_iff_eq.2 rfl];simp only [if_neg hm,cond_true];rw [aw (by omega),aw (by omega),aw (by omega)];exact ⟨rfl,by simp,by simp⟩
 obtain ⟨hg1,hg2,hg3⟩:=hgr;rw [hg1];simp only [ai];obtain ⟨q1,q2,q3,q4,q5,q6,q7⟩:=zz h V;have r1:(grown s V).2.2.length=(grown s V).1.length:=by rw [q5,JV]
 have r2:(grown s V).2.1.length=(grown s V).1.length:=by rw [q6,JV]
 have r3:((grown s V).2.2.getD u []).length≤10000:=by rw [q5];simp only [JM,List.getElem?_map,JN hg2,Option.map_some,Option.getD_some];have:=qS L (grown s V).1[u];omega
 have r4:((grown s V).2.1.getD u []).length≤10000:=by rw [q6];simp only [JM,List.getElem?_map,JN hg2,Option.map_some,Option.getD_some];rw [tW];have:=qS L (grown s V).1[u];omega
 rw [aw (by omega),aw (by rw [List.length_singleton];omega),aw (by omega),aw (by rw [List.length_singleton];omega)];refine ⟨_,rfl,?_⟩;have:=Ik h (V:=V) m.Coef (aQ b j).Coef hg2 hg3;rw [← hV] at this ⊢;exact this
theorem zg {L:List jx} {ls:List (List ah)} (hn:ls.Nodup) (V:List ah):aJ (ls.map fun W=>(W,aJ L W,(1:Int))) V=if V∈ls then aJ L V else 0:=by
 induction ls with
 | nil=>rfl
 | cons W ls ih =>
  rw [List.nodup_cons] at hn;rw [List.map_cons];show (if W=V then aJ L W*1 else 0)+aJ (ls.map fun W=>(W,aJ L W,(1:Int))) V=_;rw [ih hn.2];by_cases h:W=V
  ·subst h;rw [if_pos rfl,if_neg hn.1,if_pos (by simp)];simp
  ·rw [if_neg h];by_cases h2:V∈ls
   ·rw [if_pos h2,if_pos (by simp [h2])];omega
   ·rw [if_neg h2,if_neg (by simp [h2,Ne.symm h])];rfl
theorem bE.congr {f g:List ah→Int} {p:List aa} (h:bE f p) (e:∀ V,f V=g V):bE g p:=⟨h.st,fun m=>by rw [h.mem,e]⟩
theorem Gi {a b:List aa} (ha:Bd a) (hb:Bd b):∃ r,kg a b=some r∧eI a b=some r:=by
 obtain ⟨hgood,hbad⟩:=sN ha hb;cases hva:aL a with
 | false =>
  refine ⟨([],1),hbad (.inl hva),?_⟩;unfold eI;rw [bA a ha,hva];rfl
 | true =>
  cases hvb:aL b with
  | false =>
   refine ⟨([],1),hbad (.inr hvb),?_⟩;unfold eI;rw [bA a ha,hva,bA b hb,hvb];rfl
  | true =>
   obtain ⟨p,h1,hBp,h2⟩:=hgood hva hvb;refine ⟨limited p,h2,?_⟩;have oa:=cZ hva;have ob:=cZ hvb;have ha60:=oa.1;have hb60:=ob.1;have hcl:∀ i,(jI (a.take i) b).length≤3600:=fun i=>by rw [uy,List.length_take];exact Nat.le_trans (Nat.mul_le_mul (show min i a.length≤60 by omega) hb60) (by decide)
   have hbok:∀ m∈b,pc m:=ob.2;have hok:∀ i,∀ c∈jI (a.take i) b,Bc c:=fun i=>yQ (fun m hm=>oa.2 m (List.mem_of_mem_take hm)) hbok;unfold eI;rw [bA a ha,hva,bA b hb,hvb];simp only [ai,cond_true];obtain ⟨s,e,hI⟩:=fu (ρ:=Empty) (σ:=S3) (ε:=S3) (body:=fun i1006 s1005 =>
    (cL (σ:=S3) (ε:=S3) (ρ:=Empty) (fun i1834 s1833=>zq (aQ a i1006) b i1834 s1833) (fun i1834 s1833=>(s1833.1,s1833.2.1,s1833.2.2)) (b.length-0) 0 (s1005.1,s1005.2.1,s1005.2.2)).bind <| aftE fun u2119 =>
    some (.go (u2119.1,u2119.2.1,u2119.2.2))) (fin:=fun i1006 s1005=>(s1005.1,s1005.2.1,s1005.2.2))
    (fun i s=>Gt (jI (a.take i) b) s) (a.length-0) 0 ([],[],[]) Gt.nil (fun i s _ hi hI=>by
    have hia:i<a.length:=by omega
    have hmm:=cy (p:=a) (j:=i) hia;obtain ⟨s2,e2,hI2⟩:=fu (ρ:=Empty) (σ:=S3) (ε:=S3) (body:=fun i1834 s1833=>zq (aQ a i) b i1834 s1833) (fin:=fun i1834 s1833=>(s1833.1,s1833.2.1,s1833.2.2))
     (fun j s=>Gt (jI (a.take i) b++(b.take j).map (tF (aQ a i))) s) (b.length-0) 0 (s.1,s.2.1,s.2.2) (by simpa using hI) (fun j s _ hj hI=>by
      have hjb:j<b.length:=by omega
      have hmb:=cy (p:=b) (j:=j) hjb;have hc:=hcl i;obtain ⟨s3,k1,k2⟩:=DD hI (fun c hc=>by
       rcases List.mem_append.1 hc with hc | hc
       ·exact hok i c hc
       ·obtain ⟨n,hn,rfl⟩:=List.mem_map.1 hc;exact tP (oa.2 _ hmm) (ob.2 n (List.mem_of_mem_take hn))) (by
       simp only [List.length_append,JV,List.length_take];omega) hjb (oa.2 _ hmm) (si hva hmm) (ob.2 _ hmb) (si hvb hmb)
      refine ⟨s3,k1,?_⟩;rw [oI b j hjb,List.map_append,← List.append_assoc];exact k2)
    rw [Nat.zero_add,Nat.sub_zero,List.take_length] at hI2;refine ⟨(s2.1,s2.2.1,s2.2.2),?_,?_⟩
    ·rw [e2];rfl
    ·rw [oI a i hia,xn];exact hI2)
   rw [Nat.zero_add,Nat.sub_zero,List.take_length] at hI;have hc2:=hcl a.length;have hokL:=hok a.length;rw [List.take_length] at hc2 hokL;show ((cL (σ:=S3) (ε:=S3) (ρ:=Empty) (fun i1006 s1005 =>
    (cL (σ:=S3) (ε:=S3) (ρ:=Empty) (fun i1834 s1833=>zq (aQ a i1006) b i1834 s1833) (fun i1834 s1833=>(s1833.1,s1833.2.1,s1833.2.2)) (b.length-0) 0 (s1005.1,s1005.2.1,s1005.2.2)).bind <| aftE fun u2119 =>
    some (.go (u2119.1,u2119.2.1,u2119.2.2))) (fun i1006 s1005=>(s1005.1,s1005.2.1,s1005.2.2)) (a.length-0) 0 ([],[],[])).bind _)=_
   rw [e];generalize hL:jI a b=L at *;simp only [ai,aftE];have hll:=hI.ln;have hVok:∀ V∈s.1,CV V:=fun V hV=>by obtain ⟨c,hc,e⟩:=hI.sr V hV;rw [← e];exact (hokL c hc).1
   have hdot:∀ V,yB (nR L V) (qg L V)=rJ (aJ L V):=fun V=>by
    unfold yB;have ha2:(nR L V).all gf=true:=by rw [J0];intro n hn2;obtain ⟨c,hc,rfl⟩:=List.mem_map.1 hn2;exact (hokL c (List.mem_filter.1 hc).1).2.1
    have hb2:(qg L V).all gf=true:=by rw [J0];intro n hn2;obtain ⟨c,hc,rfl⟩:=List.mem_map.1 hn2;exact (hokL c (List.mem_filter.1 hc).1).2.2
    rw [JU (tW L V).symm,JU (show (nR L V).length≤10000 by have:=qS L V;omega),ha2,hb2,rW];rfl
   have hbdl:∀ j,∀ c∈(s.1.take j).map (fun W=>(W,aJ L W,(1:Int))),Jo c.1:=fun j c hc=>by obtain ⟨W,hW,rfl⟩:=List.mem_map.1 hc;have:=hVok W (List.mem_of_mem_take hW);exact ⟨by have:=this.1;show W.length≤_;omega,fun v hv=>by have:=(this.2 v hv).2;omega⟩
   rcases zO (σ:=List aa) (ε:=List aa) (ρ:=List aa×Int) (body:=fun i2173 s2172 =>
    bZ (i2173<s.2.2.length) <|
    bZ (i2173<s.2.1.length) <|
    (gu (s.2.2.getD i2173 []) (s.2.1.getD i2173 [])).bind fun y2213 =>
    bif (y2213.2==0) then (
     (bP s2172 (aa.mk y2213.1 (s.1.getD i2173 []))).bind fun y2220 =>
     some (.go y2220)
    ) else (
     some (.ret ([],3))
    )) (fin:=fun i2173 s2172=>s2172)
    (fun j q=>bE (aJ ((s.1.take j).map fun W=>(W,aJ L W,(1:Int)))) q∧q.length≤j) ([],3) (∃ V,gf (aJ L V)=false) (s.1.length-0) 0 [] ⟨⟨by simp,fun m=>by simp [aJ]⟩,Nat.le_refl _⟩ (fun j q _ hj ⟨hQ,hql⟩=>by
    have hjs:j<s.1.length:=by omega
    have g1:s.2.2.getD j []=nR L s.1[j]:=by rw [hI.ls];simp [JM,JN hjs]
    have g2:s.2.1.getD j []=qg L s.1[j]:=by rw [hI.rs];simp [JM,JN hjs]
    have g3:s.1.getD j []=s.1[j]:=by simp [JM,JN hjs]
    simp only [g1,g2,g3];rw [aw (by rw [hI.ls,JV];exact hjs),aw (by rw [hI.rs,JV];exact hjs),yM,hdot];simp only [ai];have hVm:s.1[j]∈s.1:=List.getElem_mem hjs;cases hin:gf (aJ L s.1[j]) with
    | false =>
     right;have:rJ (aJ L s.1[j])=(0,2):=by unfold rJ;rw [hin];rfl
     rw [this];exact ⟨rfl,_,hin⟩
    | true =>
     left;rw [qn hin];have e1:bP q ⟨aJ L s.1[j],s.1[j]⟩=some (ga q ⟨aJ L s.1[j],s.1[j]⟩):=by
      refine fa (jV hQ (by omega) (hbdl j)) (by have:=(hVok _ hVm).1;show s.1[j].length≤_;omega) (fun x hx=>((hQ.mem x).1 hx).1) fun x hx ex => ?_;exfalso;obtain ⟨c,hc,e⟩:=mB hQ hx;obtain ⟨W,hW,rfl⟩:=List.mem_map.1 hc;have e:W=x.Vars:=e;have ex:x.Vars=s.1[j]:=ex;obtain ⟨i,hi,rfl⟩:=List.getElem_of_mem hW;rw [List.getElem_take] at e;have hi2:i<j:=by simp at hi;omega
      have:=EK hI.nd (by omega) hjs (e.trans ex);omega
     refine ⟨ga q ⟨aJ L s.1[j],s.1[j]⟩,?_,?_,?_⟩
     ·show (bP q ⟨aJ L s.1[j],s.1[j]⟩).bind _=_;rw [e1];rfl
     ·rw [List.take_add_one,JN hjs,Option.toList_some,List.map_append];exact kl hQ (m:=⟨aJ L s.1[j],s.1[j]⟩) (a:=aJ L s.1[j]) (b:=1) (by simp)
     ·have:=l9 q ⟨aJ L s.1[j],s.1[j]⟩;omega) with ⟨q,e3,hQ,hql⟩ | ⟨e3,V,hV⟩
   ·rw [e3];rw [Nat.zero_add,Nat.sub_zero,List.take_length] at hQ;rw [Nat.zero_add,Nat.sub_zero] at hql;show (ct q).bind _=_;have hB2:=hbdl s.1.length;rw [List.take_length] at hB2;rw [eA (jV hQ (by omega) hB2)];have hQ2:bE (aJ L) q:=hQ.congr fun V=>by
     rw [zg hI.nd];by_cases hV:V∈s.1
     ·rw [if_pos hV]
     ·rw [if_neg hV,km (fun c hc e=>hV (by rw [← e];exact hI.al c hc))]
    rw [bE.uniq h1 hQ2];rfl
   ·rw [e3];show some (([],3):List aa×Int)=some (limited p);rw [Hl h1 (V:=V)];have:¬ gf (aJ L V)=true:=by rw [hV];simp
    rw [dG] at this;omega
def Hr (f:ah→Int):List Coef→Int
 | []=>0
 | t::ts=>t.C*f t.Var+Hr f ts
def JF (f:ah→Int) (l:Linear):Int:=l.Const+Hr f l.Terms
theorem vu {l:Linear} (h:br l=true):l.Terms.length≤12:=by simp only [br,JO,decide_eq_true_eq] at h;exact h.2.2
theorem wo {l:Linear} (h:br l=true):∀ t∈l.Terms,(-1000000≤t.C∧t.C≤1000000)∧cO t.Var=true:=by
 intro t ht;obtain ⟨j,hj,rfl⟩:=List.getElem_of_mem ht;simp only [br,JO,J0] at h;have:=h.1 j (by simpa using hj);have e:mx l j=l.Terms[j]:=by simp [mx,JM,JN hj]
 simp only [iQ,e,JO,BQ,decide_eq_true_eq] at this;exact ⟨this.2.2.1,this.1⟩
theorem EZ {l:Linear} (h:br l=true) : -1000000≤l.Const∧l.Const≤1000000:=by simp only [br,JO,BQ,decide_eq_true_eq] at h;exact h.2.1
theorem FO {s:ah} (h:cO s=true):s.length≤30:=by
 cases s with
 | nil=>simp
 | cons c r =>
  simp only [cO] at h;cases hc:c==95
  ·simp only [hc,cond_false,JO,decide_eq_true_eq] at h;simp;omega
  ·simp only [hc,cond_true,JO,decide_eq_true_eq] at h;simp;omega
theorem Ed {l:Linear} (h:br l=true):JJ l :=
 ⟨by have:=vu h;omega,fun t ht=>by have:=FO (wo h t ht).2;omega⟩
def lZ (f:ah→Int):List ah→Int
 | []=>1
 | v::l=>f v*lZ f l
theorem CW (f:ah→Int):∀ A B:List ah,lZ f (A++B)=lZ f A*lZ f B
 | [],B=>by simp [lZ]
 | v::A,B=>by simp only [List.cons_append,lZ,CW f A B,Int.mul_assoc]
theorem AR (f:ah→Int) {A B:List ah} (h:A.Perm B):lZ f A=lZ f B:=by
 induction h with
 | nil=>rfl
 | cons x _ ih=>simp only [lZ,ih]
 | swap x y l=>simp only [lZ];rw [← Int.mul_assoc,← Int.mul_assoc,Int.mul_comm (f y)]
 | trans _ _ h1 h2=>rw [h1,h2]
theorem Gf {p:List aa} (hs:p.Pairwise (wA aa.Vars)) (hm:∀ m∈p,A5 m=true) (hl:p.length≤60):aL p=true:=by
 unfold aL;rw [JO,decide_eq_true_eq,J0];refine ⟨fun j hj => ?_,hl⟩;have hj:j<p.length:=by simp only [List.mem_range'_1] at hj;omega
 unfold iB;rw [JO,Bool.or_eq_true,decide_eq_true_eq];refine ⟨hm _ (cy hj),?_⟩;by_cases h0:j=0
 ·left;simp [h0]
 ·right;have:=List.pairwise_iff_getElem.1 hs (j-1) j (by omega) hj (by omega);rw [← oS hj,← oS (show j-1<p.length by omega)] at this;exact this
theorem DS {L:List jx} {p:List aa} (h:bE (aJ L) p):p.length≤L.length:=by
 have hn:(p.map aa.Vars).Nodup:=by rw [List.nodup_iff_pairwise_ne,List.pairwise_map];refine h.st.imp fun {a b} hab e => ?_;unfold wA at hab;rw [e,gC] at hab;omega
 have:=iW (p.map aa.Vars) (L.map (·.1)) hn fun V hV=>by obtain ⟨m,hm,rfl⟩:=List.mem_map.1 hV;obtain ⟨c,hc,e⟩:=mB h hm;exact List.mem_map.2 ⟨c,hc,e⟩
 simpa using this
theorem HS (f:ah→Int) (l:Linear):iK (lZ f) (([([],l.Const,1)]:List jx)++l.Terms.map FB)=JF f l:=by
 rw [jd];have h1:iK (lZ f) ([([],l.Const,1)]:List jx)=l.Const:=by simp [iK,lZ]
 have h2:∀ ts:List Coef,iK (lZ f) (ts.map FB)=Hr f ts:=by
  intro ts;induction ts with
  | nil=>rfl
  | cons t ts ih =>
   rw [List.map_cons];unfold iK Hr;rw [ih];simp [FB,lZ]
 rw [h1,h2];rfl
noncomputable def jJ (l:Linear):List aa:=((dn l).getD ([],0)).1
theorem kC {l:Linear} (hv:br l=true):dn l=some (jJ l,0)∧eS l=some (jJ l,0)∧aL (jJ l)=true∧Bd (jJ l)∧∀ f,gK (lZ f) (jJ l)=JF f l:=by
 have hok:=Ed hv;obtain ⟨p,k1,k2,k3,k4⟩:=F0 hok.1 hok.2 hv;have hl12:=vu hv;have hv2:aL p=true:=by
  have hlen:=DS k1;simp only [List.length_append,JV,List.length_singleton] at hlen;refine Gf k1.st (fun m hm => ?_) (by omega);have hm2:=(k1.mem m).1 hm;obtain ⟨c,hc,e⟩:=mB k1 hm;have hb:=ou (B:=1000000) m.Vars (L:=([([],l.Const,1)]:List jx)++l.Terms.map FB) (by omega) (fun c hc=>by
   rcases List.mem_append.1 hc with hc | hc
   ·have:c=([],l.Const,1):=by simpa using hc
    have:=EZ hv;rw [‹c=_›];show -1000000≤l.Const*1∧l.Const*1≤1000000;omega
   ·obtain ⟨t,ht,rfl⟩:=List.mem_map.1 hc;have:=(wo hv t ht).1;show -1000000≤t.C*1∧t.C*1≤1000000;omega)
  have hlen2:(([([],l.Const,1)]:List jx)++l.Terms.map FB).length≤13:=by simp only [List.length_append,JV,List.length_singleton];omega
  rw [← hm2.2] at hb;generalize (([([],l.Const,1)]:List jx)++l.Terms.map FB).length=len at hb hlen2;unfold A5;have g1:(m.Coef==0)=false:=beq_eq_false_iff_ne.2 hm2.1;have hV:m.Vars.length≤8∧uj m.Vars=true∧m.Vars.all cO=true:=by
   rcases List.mem_append.1 hc with hc | hc
   ·have:c=([],l.Const,1):=by simpa using hc
    rw [this] at e;rw [← e];exact ⟨by simp,rfl,rfl⟩
   ·obtain ⟨t,ht,rfl⟩:=List.mem_map.1 hc;have e:[t.Var]=m.Vars:=e;rw [← e];refine ⟨by simp,rfl,?_⟩;simp [(wo hv t ht).2]
  rw [g1,JU (show -1099511627776≤m.Coef by omega),JU (show m.Coef≤1099511627776 by omega),JU hV.1,hV.2.1,hV.2.2];rfl
 have hlim:limited p=(p,0):=by unfold limited;rw [hv2];rfl
 rw [hlim] at k3 k4;have he:jJ l=p:=by unfold jJ;rw [k3];rfl
 rw [he];exact ⟨k3,k4,hv2,k2,fun f=>by rw [rM k1,HS]⟩
noncomputable def gJ (s p:List aa):List aa×Int:=(kg s p).getD ([],0)
theorem ra {s p:List aa} (hs:aL s=true) (hp:aL p=true) (hBs:Bd s) (hBp:Bd p):eH s p=some (gJ s p)∧eI s p=some (gJ s p)∧((gJ s p).2=0→aL (gJ s p).1=true∧Bd (gJ s p).1∧∀ f,gK (lZ f) (gJ s p).1=gK (lZ f) s*gK (lZ f) p):=by
 obtain ⟨q,h1,h2,h3⟩:=(sN hBs hBp).1 hs hp;obtain ⟨r,e1,e2⟩:=Gi hBs hBp;have he:gJ s p=limited q:=by unfold gJ;rw [h3];rfl
 rw [h3] at e1;have e1:=JZ e1;rw [he,e1];refine ⟨?_,e2,fun h0 => ?_⟩
 ·obtain ⟨q2,g1,g2,g3⟩:=tg (cZ hs) (cZ hp);rw [g3,bE.uniq g1 h1,e1]
 ·rw [← e1] at h0 ⊢;obtain ⟨v1,v2⟩:=xk h0;rw [v2];refine ⟨v1,h2,fun f => ?_⟩;show gK (lZ f) q=_;rw [rM h1,Av];have e:∀ W U:List ah,lZ f (bQ (W++U))=lZ f W*lZ f U:=fun W U=>by rw [AR f (iq (W++U)),CW]
  have e3:(fun W=>gK (fun U=>lZ f (bQ (W++U))) p)=fun W=>gK (lZ f) p*lZ f W:=by funext W;have:(fun U=>lZ f (bQ (W++U)))=fun U=>lZ f W*lZ f U:=funext fun U=>e W U;rw [this,uc,Int.mul_comm]
  rw [e3,uc,Int.mul_comm]
noncomputable def Ic (x:Linear) (s:List aa):ff (List aa) (List aa) (List aa×Int):=bif (gJ s (jJ x)).2==0 then .go (gJ s (jJ x)).1 else .ret ([],(gJ s (jJ x)).2)
noncomputable def CE (l:List Linear):List aa×Int:=match cT Ic (fun s=>s) l xN with | .brk q=>(q,0) | .ret r=>r
theorem vW:aL xN=true:=by decide
theorem C1:Bd xN:=⟨by decide,by decide⟩
theorem nP {l:List Linear} {j:Nat} (h:j<l.length):l.getD j ⟨0,[]⟩∈l:=by rw [JM,JN h];exact List.getElem_mem h
theorem tu {l:List Linear} (h:∀ x∈l,br x=true) (hl:l.length≤1000000):cz l=some (CE l):=by
 unfold cz;obtain ⟨s,e,hI⟩:=fu (σ:=List (List aa)) (ε:=List (List aa)) (ρ:=List aa×Int) (body:=fun i32 s31 =>
  (dn (Linear.mk ((l.getD i32 ⟨0,[]⟩).Const) ((l.getD i32 ⟨0,[]⟩).Terms))).bind fun y63 =>
  bif (y63.2==0) then (
   bZ ((s31.length+1)*24≤140737488355328) <|
   some (.go (s31++[y63.1]))
  ) else (
   some (.ret ([],y63.2))
  )) (fin:=fun i32 s31=>s31) (fun j s=>s=(l.take j).map jJ) (l.length-0) 0 [] rfl (fun j s _ hj hI=>by
   have hjl:j<l.length:=by omega
   have hm:=nP hjl;subst hI;refine ⟨(l.take j).map jJ++[jJ (l.getD j ⟨0,[]⟩)],?_,?_⟩
   ·rw [show (Linear.mk ((l.getD j ⟨0,[]⟩).Const) ((l.getD j ⟨0,[]⟩).Terms))=l.getD j ⟨0,[]⟩ from rfl,(kC (h _ hm)).1];simp only [ai,beq_self_eq_true,cond_true];rw [aw (by rw [JV,List.length_take];omega)]
   ·rw [List.take_add_one,JN hjl,Option.toList_some,List.map_append,List.map_cons,List.map_nil];rw [JM,JN hjl,Option.getD_some])
 rw [Nat.zero_add,Nat.sub_zero,List.take_length] at hI;rw [e];subst hI;simp only [ai,Sh.aft];have hloop:=fK (σ:=List aa) (ε:=List aa) (ρ:=List aa×Int) (body:=fun i113 s112 =>
  (eH s112 ((l.map jJ).getD i113 [])).bind fun y142 =>
  bif (y142.2==0) then (
   some (.go y142.1)
  ) else (
   some (.ret ([],y142.2))
  )) (fin:=fun i113 s112=>s112) (f:=fun s=>s) ⟨0,[]⟩ l Ic (fun j s=>aL s=true∧Bd s) (fun _ _=>rfl) xN ⟨vW,C1⟩ (fun j s hj ⟨hs,hB⟩=>by
   have hm:=nP hj;obtain ⟨_,_,o1,o2,_⟩:=kC (h _ hm);have eg:(l.map jJ).getD j []=jJ (l.getD j ⟨0,[]⟩):=by simp [JM,JN hj]
   obtain ⟨m1,_,m3⟩:=ra hs o1 hB o2;simp only [eg,m1,ai];unfold Ic;refine ⟨by cases ((gJ s (jJ (l.getD j ⟨0,[]⟩))).2==0)<;>rfl,fun s' hs' => ?_⟩;cases hc:((gJ s (jJ (l.getD j ⟨0,[]⟩))).2==0) with
   | false=>rw [hc] at hs';cases hs'
   | true =>
    rw [hc] at hs';cases hs';obtain ⟨v1,v2,_⟩:=m3 (beq_iff_eq.1 hc);exact ⟨v1,v2⟩)
 rw [JV];show ((cL _ _ (l.length-0) 0 xN).bind _)=_;rw [hloop];unfold CE;cases cT Ic (fun s=>s) l xN<;>rfl
theorem rC {l:List Linear} (h:∀ x∈l,br x=true) (hl:l.length≤1000000):du l=some (CE l):=by
 unfold du;rw [cH (r:=([],1)) (fun _=>true) _ _ () (fun j u _ hj=>by have hm:=nP (l:=l) (j:=j) (by omega);rw [show (Linear.mk ((l.getD j ⟨0,[]⟩).Const) ((l.getD j ⟨0,[]⟩).Terms))=l.getD j ⟨0,[]⟩ from rfl,gP,h _ hm];rfl),dF]
 have hall:(List.range' 0 (l.length-0)).all (fun _=>true)=true:=by simp
 rw [hall];simp only [cond_true];rw [show dj 1=some (xN,0) from (Ai 1).trans rfl];simp only [ai];have hloop:=fK (σ:=List aa) (ε:=List aa) (ρ:=List aa×Int) (body:=fun i115 s114 =>
  (eS (Linear.mk ((l.getD i115 ⟨0,[]⟩).Const) ((l.getD i115 ⟨0,[]⟩).Terms))).bind fun y147 =>
  (eI s114 y147.1).bind fun y150 =>
  bif (y150.2==0) then (
   some (.go y150.1)
  ) else (
   some (.ret ([],y150.2))
  )) (fin:=fun i115 s114=>s114) (f:=fun s=>s) ⟨0,[]⟩ l Ic (fun j s=>aL s=true∧Bd s) (fun _ _=>rfl) xN ⟨vW,C1⟩ (fun j s hj ⟨hs,hB⟩=>by
   have hm:=nP hj;obtain ⟨_,o0,o1,o2,_⟩:=kC (h _ hm);obtain ⟨_,m1,m3⟩:=ra hs o1 hB o2;rw [show (Linear.mk ((l.getD j ⟨0,[]⟩).Const) ((l.getD j ⟨0,[]⟩).Terms))=l.getD j ⟨0,[]⟩ from rfl,o0];simp only [ai,m1];unfold Ic;refine ⟨by cases ((gJ s (jJ (l.getD j ⟨0,[]⟩))).2==0)<;>rfl,fun s' hs' => ?_⟩;cases hc:((gJ s (jJ (l.getD j ⟨0,[]⟩))).2==0) with
   | false=>rw [hc] at hs';cases hs'
   | true =>
    rw [hc] at hs';cases hs';obtain ⟨v1,v2,_⟩:=m3 (beq_iff_eq.1 hc);exact ⟨v1,v2⟩)
 rw [hloop];unfold CE;cases cT Ic (fun s=>s) l xN<;>rfl
end Go.Proofs.YtadjhpbkknifeaaGreatDoor
