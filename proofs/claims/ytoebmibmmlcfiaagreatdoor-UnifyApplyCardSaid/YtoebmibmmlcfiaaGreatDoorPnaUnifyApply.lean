/- Plain laws: what the walked functions compute answers as the statement says. -/
import Derived.Test.YtoebmibmmlcfiaaGreatDoorWkcUnifyApply
import Derived.Lib.ItoaNum
import Derived.Lib.ItoaMem
import Derived.Lib.AtoiAll
import Derived.Lib.AtoiAllCases
import Derived.Lib.ItoaLen
import Derived.Lib.SlTrimSet
set_option linter.unusedSimpArgs false
set_option linter.unusedVariables false
namespace Go.Sh
open Go.Ab
section
variable {α σ ε ρ:Type}
theorem dd {body:Nat→Unit→Option (kg Unit ε ρ)} {fin:Nat→Unit→ε} {r:ρ} (p:Nat→Bool):∀ (k i:Nat) (u:Unit),(∀ j u,i≤j→j<i+k→body j u=some (bif p j then .go () else .ret r)) →
 dF body fin k i u=some (bif (List.range' i k).all p then .brk (fin (i+k) ()) else .ret r)
 | 0,i,u,h=>by simp [dF]
 | k+1,i,u,h=>by
  simp only [dF,h i u (Nat.le_refl _) (by omega),List.range'_succ,List.all_cons];cases hp:p i with
  | true =>
   simp only [cond_true,Option.bind_some,CS,Bool.true_and];rw [dd p k (i+1) () (fun j u h1 h2=>h j u (by omega) (by omega))];rw [show i+1+k=i+(k+1) by omega]
  | false=>simp [CS]
theorem lQ {body:Nat→Unit→Option (kg Unit ε ρ)} {fin:Nat→Unit→ε} {f:Nat→ρ} (p:Nat→Bool):∀ (k i:Nat) (u:Unit),(∀ j u,i≤j→j<i+k→body j u=some (bif p j then .ret (f j) else .go ())) →
 dF body fin k i u=some (match (List.range' i k).find? p with | some j=>.ret (f j) | none=>.brk (fin (i+k) ()))
 | 0,i,u,h=>by simp [dF]
 | k+1,i,u,h=>by
  simp only [dF,h i u (Nat.le_refl _) (by omega),List.range'_succ,List.find?_cons];cases hp:p i with
  | false =>
   simp only [cond_false,Option.bind_some,CS];rw [lQ p k (i+1) () (fun j u h1 h2=>h j u (by omega) (by omega))];rw [show i+1+k=i+(k+1) by omega]
  | true=>simp [CS]
theorem A8 {body:Nat→σ→Option (kg σ ε ρ)} {fin:Nat→σ→ε} (g:Nat→σ→σ) (I:Nat→σ→Prop):∀ (k i:Nat) (s:σ),I i s→(∀ j s,i≤j→j<i+k→I j s→body j s=some (.go (g j s))∧I (j+1) (g j s)) →
 ∃ s',dF body fin k i s=some (.brk (fin (i+k) s'))∧s'=(List.range' i k).foldl (fun s j=>g j s) s∧I (i+k) s'
 | 0,i,s,hI,h=>⟨s,by simp [dF],by simp,hI⟩
 | k+1,i,s,hI,h=>by
  obtain ⟨h1,h2⟩:=h i s (Nat.le_refl _) (by omega) hI;obtain ⟨s',e1,e2,e3⟩:=A8 g I k (i+1) (g i s) h2 (fun j s h1 h2=>h j s (by omega) (by omega));refine ⟨s',?_,?_,by rw [show i+(k+1)=i+1+k by omega];exact e3⟩
  ·simp only [dF,h1,Option.bind_some,CS];rw [e1,show i+1+k=i+(k+1) by omega]
  ·rw [e2,List.range'_succ];rfl
theorem iv (q:α→Bool) (d:α) (l:List α):∀ (i:Nat),(List.range' i (l.length-i)).all (fun j=>q (l.getD j d))=(l.drop i).all q:=by
 intro i;by_cases h:i<l.length
 ·obtain ⟨k,hk⟩:∃ k,l.length-i=k+1:=⟨l.length-i-1,by omega⟩;have ih:=iv q d l (i+1);rw [hk,List.range'_succ,List.all_cons,List.drop_eq_getElem_cons h,List.all_cons];rw [show l.length-(i+1)=k by omega] at ih;rw [ih];simp [Hh,Hi h]
 ·rw [show l.length-i=0 by omega,List.drop_eq_nil_of_le (by omega)];rfl
 termination_by i=>l.length-i
theorem Bb (q:α→Bool) (d:α) (l:List α):(List.range' 0 (l.length-0)).all (fun j=>q (l.getD j d))=l.all q:=by have:=iv q d l 0;simpa using this
theorem rh {β:Type} (g:β→α→β) (d:α) (l:List α):∀ (i:Nat) (s:β),(List.range' i (l.length-i)).foldl (fun s j=>g s (l.getD j d)) s=(l.drop i).foldl g s:=by
 intro i s;by_cases h:i<l.length
 ·obtain ⟨k,hk⟩:∃ k,l.length-i=k+1:=⟨l.length-i-1,by omega⟩;have ih:=rh g d l (i+1) (g s (l.getD i d));rw [hk,List.range'_succ,List.foldl_cons,List.drop_eq_getElem_cons h,List.foldl_cons];rw [show l.length-(i+1)=k by omega] at ih;rw [ih];simp [Hh,Hi h]
 ·rw [show l.length-i=0 by omega,List.drop_eq_nil_of_le (by omega)];rfl
 termination_by i=>l.length-i
def idxOf (p:α→Bool):List α→Int
 | [] => -1
 | x::l=>bif p x then 0 else (let r:=idxOf p l;bif r == -1 then -1 else r+1)
theorem sr (p:α→Bool):∀ l:List α,-1≤idxOf p l
 | []=>by simp [idxOf]
 | x::l=>by
  have:=sr p l;simp only [idxOf];cases p x
  ·cases h:idxOf p l == -1
   ·simp;omega
   ·simp
  ·simp
theorem xh (p:α→Bool):∀ l:List α,(idxOf p l<0)↔l.any p=false
 | []=>by simp [idxOf]
 | x::l=>by
  have h1:=sr p l;have h2:=xh p l;simp only [idxOf,List.any_cons];cases hp:p x
  ·cases h:idxOf p l == -1
   ·have:idxOf p l ≠ -1:=by simpa using h
    simp only [cond_false,Bool.false_or];rw [← h2];omega
   ·have:idxOf p l = -1:=by simpa using h
    simp only [cond_false,cond_true,Bool.false_or];rw [← h2];omega
  ·simp
theorem yK (p:α→Bool) (d:α) (l:List α):∀ (i:Nat),(match (List.range' i (l.length-i)).find? (fun j=>p (l.getD j d)) with | some j=>((j:Nat):Int) | none => -1)=(bif idxOf p (l.drop i) == -1 then -1 else idxOf p (l.drop i)+i):=by
 intro i;by_cases h:i<l.length
 ·obtain ⟨k,hk⟩:∃ k,l.length-i=k+1:=⟨l.length-i-1,by omega⟩;have ih:=yK p d l (i+1);rw [hk,List.range'_succ,List.find?_cons,List.drop_eq_getElem_cons h];rw [show l.length-(i+1)=k by omega] at ih;have e:l.getD i d=l[i]:=by simp [Hh,Hi h]
  rw [e];simp only [idxOf];cases hp:p l[i]
  ·simp only [cond_false];rw [ih];cases hq:idxOf p (l.drop (i+1)) == -1
   ·have h3:idxOf p (l.drop (i+1)) ≠ -1:=by simpa using hq
    have h4:=sr p (l.drop (i+1));simp only [cond_false];have:((idxOf p (l.drop (i+1))+1) == -1)=false:=by simp;omega
    rw [this];simp only [cond_false];omega
   ·simp
  ·simp
 ·rw [show l.length-i=0 by omega,List.drop_eq_nil_of_le (by omega)];rfl
 termination_by i=>l.length-i
theorem kH (p:α→Bool) (d:α) (l:List α):(match (List.range' 0 (l.length-0)).find? (fun j=>p (l.getD j d)) with | some j=>((j:Nat):Int) | none => -1)=idxOf p l:=by
 rw [yK p d l 0];simp only [List.drop_zero];cases h:idxOf p l == -1
 ·simp
 ·have:idxOf p l = -1:=by simpa using h
  simp [this]
end
def bD (b:UInt8):Bool:=decide (48≤b.toNat)&&decide (b.toNat≤57)
def j6 (acc:Nat) (l:aq):Nat:=l.foldl (fun a c=>a*10+(c.toNat-48)) acc
theorem CC (acc:Nat) (l:aq) (c:UInt8):j6 acc (l++[c])=j6 acc l*10+(c.toNat-48):=by simp [j6]
theorem w6:∀ (l:aq) (acc:Nat),l.all bD=true→(acc+1)*10 ^ l.length≤10 ^ 18→Lib.parseUint10 acc l = .ok (j6 acc l)
 | [],acc,_,_=>rfl
 | c::l,acc,h,hb=>by
  simp only [List.all_cons,Hj,bD,decide_eq_true_eq] at h;obtain ⟨⟨h1,h2⟩,h3⟩:=h;have hp:1≤10 ^ l.length:=Nat.one_le_pow _ _ (by decide);have hb2:(acc*10+10)*10 ^ l.length≤10 ^ 18:=by
   have:(acc+1)*10 ^ (l.length+1)=(acc*10+10)*10 ^ l.length:=by rw [Nat.pow_succ];rw [show (acc*10+10)=(acc+1)*10 by omega,Nat.mul_assoc,Nat.mul_comm 10]
   rw [← this];simpa using hb
  have hb3:acc*10+10≤10 ^ 18:=Nat.le_trans (Nat.le_mul_of_pos_right _ hp) hb2;have e18:(10:Nat) ^ 18=1000000000000000000:=by decide
  rw [e18] at hb3;simp only [Lib.parseUint10];rw [if_pos ⟨h1,h2⟩,if_neg (by omega),if_neg (by omega)];rw [w6 l _ (by simpa [bD] using h3) (Nat.le_trans (Nat.mul_le_mul_right _ (by omega)) hb2)];rfl
theorem zy {c:UInt8} (h:bD c=true):UInt8.ofNat (48+(c.toNat-48))=c:=by simp only [bD,Hj,decide_eq_true_eq] at h;rw [show 48+(c.toNat-48)=c.toNat by omega];exact UInt8.ofNat_toNat
theorem Dv {α:Type} {P:List α→Prop} (h0:P []) (h1:∀ l c,P l→P (l++[c])) (l:List α):P l:=by
 have:∀ m:List α,P m.reverse:=by
  intro m;induction m with
  | nil=>exact h0
  | cons c m ih=>simpa using h1 _ c ih
 simpa using this l.reverse
theorem Fo (l:aq):l.all bD=true→l≠[]→l.head? ≠ some 48→1≤j6 0 l∧Lib.decDigits (j6 0 l)=l:=by
 refine Dv (P:=fun l=>l.all bD=true→l≠[]→l.head? ≠ some 48→1≤j6 0 l∧Lib.decDigits (j6 0 l)=l) ?_ ?_ l
 ·intro _ h;exact absurd rfl h
 ·intro l c ih h _ hh;rw [List.all_append,Hj] at h;have hc:bD c=true:=by simpa using h.2
  have hc':=hc;simp only [bD,Hj,decide_eq_true_eq] at hc';rw [CC];by_cases hl:l=[]
  ·subst hl;have hne:c≠48:=by simpa using hh
   have:c.toNat≠48:=fun e=>hne (by rw [← UInt8.toNat_inj];simpa using e);simp only [j6,List.foldl_nil,Nat.zero_mul,Nat.zero_add,List.nil_append];refine ⟨by omega,?_⟩;rw [Lib.decDigits_one (by omega),zy hc]
  ·have hh2:l.head? ≠ some 48:=by
    cases l with
    | nil=>exact absurd rfl hl
    | cons x l=>simpa using hh
   obtain ⟨i1,i2⟩:=ih h.1 hl hh2;refine ⟨by omega,?_⟩;rw [Lib.decDigits,dif_neg (by omega),show (j6 0 l*10+(c.toNat-48)) / 10=j6 0 l by omega,i2,show (j6 0 l*10+(c.toNat-48)) % 10=c.toNat-48 by omega,zy hc]
theorem xR (u:Nat):(Lib.decDigits u).all bD=true∧(1≤u→(Lib.decDigits u).head? ≠ some 48)∧Lib.decDigits u≠[]:=by
 have key:∀ i,i<10→bD (UInt8.ofNat (48+i))=true:=by decide
 have key2:∀ i,i<10→1≤i→UInt8.ofNat (48+i)≠48:=by decide
 by_cases h:u<10
 ·rw [Lib.decDigits_one h];exact ⟨by simp only [List.all_cons,List.all_nil,Bool.and_true];exact key u h,fun h1=>by simpa using key2 u h h1,by simp⟩
 ·have ih:=xR (u / 10);rw [Lib.decDigits,dif_neg h];refine ⟨by rw [List.all_append,ih.1];simp only [List.all_cons,List.all_nil,Bool.and_true,Bool.true_and];exact key (u % 10) (by omega),fun _ => ?_,by simp⟩;have:=ih.2.1 (by omega);cases hd:Lib.decDigits (u / 10) with
  | nil=>exact absurd hd ih.2.2
  | cons x l=>rw [hd] at this;simpa using this
 termination_by u
 decreasing_by omega
end Go.Sh
namespace Go.Proofs.YtoebmibmmlcfiaaGreatDoor
open Go.Ab Go.Sh
theorem be {α:Type} {p:Prop} [Decidable p] {x:Option α} (h:p):cb p x=x:=if_pos h
theorem dD {ε β:Type} {b:Bool} {e:ε} {r:β} {f:ε→Option β}:(some (bif b then Out.brk e else Out.ret r:Out ε β)).bind (aft f)=bif b then f e else some r:=by cases b<;>rfl
theorem all_congr {p q:Nat→Bool}:∀ (k i:Nat),(∀ j,i≤j→j<i+k→p j=q j)→(List.range' i k).all p=(List.range' i k).all q
 | 0,i,_=>rfl
 | k+1,i,h=>by rw [List.range'_succ,List.all_cons,List.all_cons,h i (Nat.le_refl _) (by omega),all_congr k (i+1) (fun j h1 h2=>h j (by omega) (by omega))]
theorem Ec (c k:UInt8) (n:Int) (hk:(k.toNat:Int)=n):((c.toNat:Int)==n)=(c==k):=by rw [Bool.eq_iff_iff];simp only [beq_iff_eq,← UInt8.toNat_inj];omega
theorem uL {α:Type} (l:List α):(((l.length:Nat):Int)==0)=l.isEmpty:=by
 cases l with
 | nil=>rfl
 | cons x l=>simp;omega
def isLet (b:UInt8):Bool:=decide (97≤b.toNat)&&decide (b.toNat≤122)
theorem qk (x:UInt8):gX x=some (bD x):=by
 unfold gX bD;by_cases h:48≤x.toNat
 ·rw [Ho (show (x.toNat:Int)≥48 by omega),Ho h];simp only [cond_true,Bool.true_and,Hr];rw [decide_eq_decide];omega
 ·rw [Hn (show ¬ (x.toNat:Int)≥48 by omega),Hn h];rfl
theorem tT (x:UInt8):ij x=some (isLet x):=by
 unfold ij isLet;by_cases h:97≤x.toNat
 ·rw [Ho (show (x.toNat:Int)≥97 by omega),Ho h];simp only [cond_true,Bool.true_and,Hr];rw [decide_eq_decide];omega
 ·rw [Hn (show ¬ (x.toNat:Int)≥97 by omega),Hn h];rfl
def fx:aq→Bool
 | []=>false
 | c::r=>bif c==95 then (decide (1≤r.length)&&(decide (r.length≤9)&&(!(r.getD 0 0==48)&&r.all bD))) else (decide (r.length≤29)&&(isLet c&&r.all (fun b=>isLet b||bD b)))
theorem mN (s:aq):fC s=some (fx s):=by
 cases s with
 | nil=>rfl
 | cons c r =>
  unfold fC;have e1:((((c::r).length:Nat):Int)==0)=false:=by simp;omega
  rw [e1];simp only [cond_false];have e95:((((c::r).getD 0 0).toNat:Int)==95)=(c==95):=by rw [List.getD_cons_zero];exact Ec c 95 95 rfl
  by_cases h30:r.length≤29
  ·rw [Hn (show ¬ (((c::r).length:Nat):Int)>30 by simp;omega)];simp only [cond_false];rw [be (by simp),e95];simp only [fx];cases hc:c==95 with
   | true =>
    simp only [cond_true];by_cases h1:1≤r.length
    ·rw [Hn (show ¬ (((c::r).length:Nat):Int)<2 by simp;omega),Ho h1];simp only [cond_false,Bool.true_and];by_cases h9:r.length≤9
     ·rw [Hn (show ¬ (((c::r).length:Nat):Int)>10 by simp;omega),Ho h9];simp only [cond_false,Bool.true_and];rw [be (by simp;omega)];have e48:((((c::r).getD 1 0).toNat:Int)==48)=(r.getD 0 0==48):=by rw [List.getD_cons_succ];exact Ec _ 48 48 rfl
      rw [e48];cases hd:r.getD 0 0==48 with
      | true=>simp
      | false =>
       simp only [cond_false,Bool.not_false,Bool.true_and];rw [dd (fun j=>bD ((c::r).getD j 0)) _ _ () (fun j u _ _=>by rw [qk];cases bD ((c::r).getD j 0)<;>rfl),dD,iv bD 0 (c::r) 1];simp only [List.drop_succ_cons,List.drop_zero];cases r.all bD<;>rfl
     ·rw [Ho (show (((c::r).length:Nat):Int)>10 by simp;omega),Hn h9];simp
    ·rw [Ho (show (((c::r).length:Nat):Int)<2 by simp;omega),Hn h1];simp
   | false =>
    simp only [cond_false];rw [Ho h30];rw [dd (fun j=>isLet ((c::r).getD j 0)||(!(((j:Nat):Int)==0)&&bD ((c::r).getD j 0))) _ _ () (fun j u _ _=>by rw [tT,qk];cases isLet ((c::r).getD j 0)<;>cases bD ((c::r).getD j 0)<;>cases ((j:Nat):Int)==0<;>rfl),dD]
    have e:(List.range' 0 ((c::r).length-0)).all (fun j=>isLet ((c::r).getD j 0)||(!(((j:Nat):Int)==0)&&bD ((c::r).getD j 0)))=(isLet c&&r.all (fun b=>isLet b||bD b)):=by
     rw [show (c::r).length-0=r.length+1 by simp,List.range'_succ,List.all_cons];have e0:(isLet ((c::r).getD 0 0)||(!(((0:Nat):Int)==0)&&bD ((c::r).getD 0 0)))=isLet c:=by simp
     rw [e0];congr 1;rw [all_congr (q:=fun j=>(fun b=>isLet b||bD b) ((c::r).getD j 0)) _ _ (fun j h1 _=>by
      have:(((j:Nat):Int)==0)=false:=by simp;omega
      simp only [this,Bool.not_false,Bool.true_and])]
     have:=iv (fun b=>isLet b||bD b) 0 (c::r) 1;simpa using this
    rw [e];simp only [Bool.true_and];cases isLet c&&r.all (fun b=>isLet b||bD b)<;>rfl
  ·rw [Ho (show (((c::r).length:Nat):Int)>30 by simp;omega)];simp only [cond_true,fx];rw [Hn h30];have:¬ r.length≤9:=by omega
   rw [Hn this];cases c==95<;>simp
theorem ra (s:aq) (c:UInt8):strings_HasPrefix s [c]=some (match s with | []=>false | x::_=>x==c):=by
 unfold strings_HasPrefix bG;cases s with
 | nil=>rfl
 | cons x l =>
  rw [Ho (by simp;omega)];simp only [cond_true];rw [be (by simp)];simp
theorem DV {r:aq} (h0:r≠[]) (h:r.all bD=true) (hl:r.length≤9):Lib.atoiAll r = .ok (j6 0 r:Int)∧j6 0 r<10000000000:=by
 cases r with
 | nil=>exact absurd rfl h0
 | cons c r =>
  have hc:bD c=true:=by simp only [List.all_cons,Hj] at h;exact h.1
  have hc2:=hc;simp only [bD,Hj,decide_eq_true_eq] at hc2;have hp:(10:Nat) ^ (c::r).length≤10 ^ 9:=Nat.pow_le_pow_right (by decide) hl;have hv:=w6 (c::r) 0 h (by
   rw [Nat.zero_add,Nat.one_mul];exact Nat.le_trans hp (by decide))
  have hb:∀ (l:aq) (a:Nat),l.all bD=true→j6 a l+1≤(a+1)*10 ^ l.length:=by
   intro l;induction l with
   | nil=>intro a _;simp [j6]
   | cons x l ih =>
    intro a hx;simp only [List.all_cons,Hj,bD,decide_eq_true_eq] at hx;have:=ih (a*10+(x.toNat-48)) (by simpa [bD] using hx.2);have e:j6 a (x::l)=j6 (a*10+(x.toNat-48)) l:=rfl;rw [e];refine Nat.le_trans this ?_;rw [List.length_cons,Nat.pow_succ,Nat.mul_comm (10 ^ l.length) 10,← Nat.mul_assoc];exact Nat.mul_le_mul_right _ (by omega)
  have hlt:=hb (c::r) 0 h;rw [Nat.zero_add,Nat.one_mul] at hlt;have h9:(10:Nat) ^ 9=1000000000:=by decide
  rw [h9] at hp;refine ⟨?_,by omega⟩;rw [Lib.atoiAll_plain c r (by omega) (by omega)];have:Lib.parseMag (c::r) = .ok (j6 0 (c::r)):=by unfold Lib.parseMag;rw [if_neg (by simp)];exact hv
  rw [this];simp only [Lib.signless];rw [if_neg (by omega)]
theorem kM (s:aq) (hs:s.length≤1000000):dL s=some (fx s):=by
 unfold dL;rw [ra];cases s with
 | nil=>rfl
 | cons c r =>
  simp only [Option.bind_some,fx];have hr:r.length≤1000000:=by simp at hs;omega
  cases hc:c==95 with
  | true =>
   simp only [cond_true];rw [be (by simp)];simp only [List.drop_succ_cons,List.drop_zero,nS];rw [be (by omega)];simp only [Option.bind_some];by_cases h9:r.length≤9
   ·by_cases h1:1≤r.length
    ·rw [Ho h1,Ho h9];simp only [Bool.true_and];have hne:r≠[]:=by intro e;subst e;simp at h1
     have hhd:(r.getD 0 0==48)=decide (r.head? = some 48):=by
      cases r with
      | nil=>exact absurd rfl hne
      | cons x l=>simp;rw [Bool.eq_iff_iff];simp
     have key:∀ v:Int,0<v→v≤9223372036854775807→il v=some (Lib.decDigits v.toNat)∨True:=fun _ _ _=>.inr trivial;by_cases hall:r.all bD=true
     ·obtain ⟨a1,a2⟩:=DV hne hall h9;simp only [tq,a1,cond_true];by_cases h48:r.head? = some 48
      ·
       rw [hhd,Ho h48];simp only [Bool.not_true,Bool.false_and];by_cases hz:j6 0 r=0
       ·rw [hz];rfl
       ·rw [Ho (by omega:(j6 0 r:Int)>0),Ho (by simp;omega:(((c::r).length:Nat):Int)≤10)];simp only [cond_true,il,rO];have hlen:(Lib.itoa (j6 0 r:Int)).length≤21:=Lib.itoa_length_le _ (by omega) (by omega);rw [be ⟨by omega,by omega,by omega⟩];simp only [Option.bind_some,Hr];rw [Lib.itoa_nonneg,beq_eq_false_iff_ne];intro e;exact (xR (j6 0 r)).2.1 (by omega) (by rw [e];exact h48)
      ·obtain ⟨d1,d2⟩:=Fo r hall hne h48;rw [hhd,Hn h48,hall];simp only [Bool.not_false,Bool.true_and];rw [Ho (by omega:(j6 0 r:Int)>0),Ho (by simp;omega:(((c::r).length:Nat):Int)≤10)];simp only [cond_true,il,rO];have hlen:(Lib.itoa (j6 0 r:Int)).length≤21:=Lib.itoa_length_le _ (by omega) (by omega);rw [be ⟨by omega,by omega,by omega⟩];simp only [Option.bind_some,Hr];rw [Lib.itoa_nonneg,d2];simp
     ·have hall:r.all bD=false:=by simpa using hall
      rw [hall];simp only [Bool.and_false];cases ha:Lib.atoiAll r with
      | ok v =>
       simp only [tq,ha,cond_true];by_cases hv:v>0
       ·rw [Ho hv,Ho (by simp;omega:(((c::r).length:Nat):Int)≤10)];simp only [cond_true,il,rO];have hvb:v≤9223372036854775807:=by
         cases r with
         | nil=>exact absurd rfl hne
         | cons x l =>
          unfold Lib.atoiAll at ha;simp only at ha;split at ha
          ·cases ha
          ·cases ha
          ·split at ha
           ·cases ha
           ·split at ha
            ·cases ha
            ·rename_i h1 h2;simp only [Lib.NumEnd.ok.injEq] at ha;rw [← ha];split
             ·omega
             ·rename_i h3;have:=h1;simp only [h3,not_false_eq_true,true_and] at this;omega
        have hlen:(Lib.itoa v).length≤21:=Lib.itoa_length_le _ (by omega) hvb;rw [be ⟨by omega,hvb,by omega⟩];simp only [Option.bind_some,Hr];rw [beq_eq_false_iff_ne];intro e;have:(Lib.itoa v).all bD=true:=by unfold Lib.itoa;rw [if_neg (by omega)];exact (xR _).1
        rw [e,hall] at this;cases this
       ·rw [Hn hv];rfl
      | range=>simp [tq,ha]
      | _=>simp [tq,ha]
    ·have:r=[]:=List.eq_nil_of_length_eq_zero (by omega);subst this;rfl
   ·rw [Hn h9,Hn (by simp;omega:¬ (((c::r).length:Nat):Int)≤10)];simp only [cond_false,Bool.false_and,Bool.and_false];cases (tq r).2<;>cases decide ((tq r).1>0)<;>rfl
  | false =>
   simp only [cond_false];rw [dd (fun j=>isLet ((c::r).getD j 0)||(!(((j:Nat):Int)==0)&&bD ((c::r).getD j 0))) _ _ () (fun j u _ _=>by
    simp only [isLet,bD];generalize (c::r).getD j 0=x;by_cases h1:(x.toNat:Int)<97
    ·rw [Ho h1,Hn (show ¬ 97≤x.toNat by omega)];simp only [cond_true,Bool.false_and,Bool.false_or];cases ((j:Nat):Int)==0
     ·simp only [cond_false,Bool.not_false,Bool.true_and];by_cases h2:(x.toNat:Int)<48
      ·rw [Ho h2,Hn (show ¬ 48≤x.toNat by omega)];rfl
      ·rw [Hn h2,Ho (show 48≤x.toNat by omega)];by_cases h3:(x.toNat:Int)>57
       ·rw [Ho h3,Hn (show ¬ x.toNat≤57 by omega)];rfl
       ·rw [Hn h3,Ho (show x.toNat≤57 by omega)];rfl
     ·rfl
    ·rw [Hn h1,Ho (show 97≤x.toNat by omega)];simp only [cond_false,Bool.true_and];by_cases h2:(x.toNat:Int)>122
     ·rw [Ho h2,Hn (show ¬ x.toNat≤122 by omega),Hn (show ¬ x.toNat≤57 by omega),Hn (show ¬ (x.toNat:Int)<48 by omega),Ho (show (x.toNat:Int)>57 by omega)];cases ((j:Nat):Int)==0<;>simp [Sh.aft]
     ·rw [Hn h2,Ho (show x.toNat≤122 by omega)];simp [Sh.aft]),dD]
   have e:(List.range' 0 ((c::r).length-0)).all (fun j=>isLet ((c::r).getD j 0)||(!(((j:Nat):Int)==0)&&bD ((c::r).getD j 0)))=(isLet c&&r.all (fun b=>isLet b||bD b)):=by
    rw [show (c::r).length-0=r.length+1 by simp,List.range'_succ,List.all_cons];have e0:(isLet ((c::r).getD 0 0)||(!(((0:Nat):Int)==0)&&bD ((c::r).getD 0 0)))=isLet c:=by simp
    rw [e0];congr 1;rw [all_congr (q:=fun j=>(fun b=>isLet b||bD b) ((c::r).getD j 0)) _ _ (fun j h1 _=>by
     have:(((j:Nat):Int)==0)=false:=by simp;omega
     simp only [this,Bool.not_false,Bool.true_and])]
    have:=iv (fun b=>isLet b||bD b) 0 (c::r) 1;simpa using this
   rw [e];have e2:((c::r)==[])=false:=rfl;rw [e2];simp only [cond_false];by_cases h30:r.length≤29
   ·rw [Ho h30,Ho (by simp;omega:(((c::r).length:Nat):Int)≤30)];cases isLet c&&r.all (fun b=>isLet b||bD b)<;>rfl
   ·rw [Hn h30,Hn (by simp;omega:¬ (((c::r).length:Nat):Int)≤30)];cases isLet c&&r.all (fun b=>isLet b||bD b)<;>rfl
def BF (n:Int):Bool:=decide (-1000000≤n)&&decide (n≤1000000)
theorem rT (n:Int):kE n=some (BF n):=by
 unfold kE BF;by_cases h:n ≥ -1000000
 ·rw [Ho h];rfl
 ·rw [Hn h];rfl
theorem pN (n:Int):hJ n=some (BF n):=by
 unfold hJ BF;by_cases h:n ≥ -1000000
 ·rw [Ho h];rfl
 ·rw [Hn h];rfl
def EG (l:Linear) (j:Nat):ay:=l.Terms.getD j ⟨[],0⟩
def mY (l:Linear) (j:Nat):Bool:=fx (EG l j).Var&&(!((EG l j).C==0)&&(BF (EG l j).C&&(!decide (((j:Nat):Int)>0)||Op.bytesLess (EG l (j-1)).Var (EG l j).Var)))
def ba (l:Linear):Bool:=(List.range' 0 (l.Terms.length-0)).all (mY l)&&(BF l.Const&&decide (l.Terms.length≤12))
theorem zI {j:Nat} (h:0<j) (h2:j≤9223372036854775807):bg (((j:Nat):Int)-1)=((j-1:Nat):Int):=by rw [jc (by unfold tu;omega)];omega
theorem Fh {l:List ay} {n:Nat} (h:∀ t∈l,t.Var.length≤n) (j:Nat):(l.getD j ⟨[],0⟩).Var.length≤n:=by
 rw [Hh];cases h1:l[j]? with
 | none=>simp
 | some x=>exact h x (List.mem_of_getElem? h1)
theorem e7 (l:Linear) (h1:l.Terms.length≤1000000) (h2:∀ t∈l.Terms,t.Var.length≤1000000):bw l=some (ba l):=by
 unfold bw;rw [dd (mY l) _ _ () (fun j u _ hj=>by
  rw [kM _ (Fh h2 j),rT];simp only [mY,EG,Option.bind_some];cases fx (l.Terms.getD j ⟨[],0⟩).Var
  ·rfl
  ·cases (l.Terms.getD j ⟨[],0⟩).C==0
   ·cases BF (l.Terms.getD j ⟨[],0⟩).C
    ·rfl
    ·by_cases hp:0<j
     ·rw [Ho (show ((j:Nat):Int)>0 by omega),zI hp (by omega)];rw [be (by omega)];simp only [Int.toNat_natCast,cond_true,cond_false,Bool.not_true,Bool.false_or,Bool.true_and,Bool.not_false];cases Op.bytesLess (l.Terms.getD (j-1) ⟨[],0⟩).Var (l.Terms.getD j ⟨[],0⟩).Var<;>rfl
     ·rw [Hn (show ¬ ((j:Nat):Int)>0 by omega)];rfl
   ·rfl),dD,rT]
 unfold ba;cases (List.range' 0 (l.Terms.length-0)).all (mY l)
 ·rfl
 ·cases BF l.Const
  ·rfl
  ·simp only [cond_true,Option.bind_some,Bool.true_and,Hr];rw [decide_eq_decide];omega
theorem eJ (l:Linear):dR l=some (ba l):=by
 unfold dR;rw [pN];unfold ba;by_cases h12:l.Terms.length≤12
 ·rw [Hn (show ¬ ((l.Terms.length:Nat):Int)>12 by omega),Ho h12];rw [dd (mY l) _ _ () (fun j u _ hj=>by
   rw [mN,pN];simp only [mY,EG,Option.bind_some];cases fx (l.Terms.getD j ⟨[],0⟩).Var
   ·rfl
   ·cases (l.Terms.getD j ⟨[],0⟩).C==0
    ·cases BF (l.Terms.getD j ⟨[],0⟩).C
     ·rfl
     ·by_cases hp:0<j
      ·rw [Ho (show ((j:Nat):Int)>0 by omega),zI hp (by omega)];rw [be (by omega)];simp only [Int.toNat_natCast,cond_true,cond_false,Bool.not_true,Bool.false_or,Bool.true_and,Bool.not_false];cases Op.bytesLess (l.Terms.getD (j-1) ⟨[],0⟩).Var (l.Terms.getD j ⟨[],0⟩).Var<;>rfl
      ·rw [Hn (show ¬ ((j:Nat):Int)>0 by omega)];rfl
    ·rfl),dD]
  cases (List.range' 0 (l.Terms.length-0)).all (mY l)<;>cases BF l.Const<;>rfl
 ·rw [Ho (show ((l.Terms.length:Nat):Int)>12 by omega),Hn h12];cases (List.range' 0 (l.Terms.length-0)).all (mY l)<;>cases BF l.Const<;>rfl
def uz (l:Linear):Bool:=l.Terms.all (fun t=>decide (t.Var.length≤35))&&decide (l.Terms.length≤14)
theorem Ba {a b:Nat}:decide (((a:Nat):Int)>(b:Int)) = !decide (a≤b):=by
 by_cases h:a≤b
 ·rw [Ho h,Hn (by omega)];rfl
 ·rw [Hn h,Ho (by omega)];rfl
theorem pj {a b:Nat}:decide (((a:Nat):Int)≤(b:Int))=decide (a≤b):=by rw [decide_eq_decide];omega
theorem kR (l:Linear):dG l=some (uz l):=by
 unfold dG;rw [dd (fun j=>(fun (t:ay)=>decide (t.Var.length≤35)) (l.Terms.getD j ⟨[],0⟩)) _ _ () (fun j u _ _=>by rw [show (35:Int)=((35:Nat):Int) from rfl,Ba];simp only;cases decide ((l.Terms.getD j ⟨[],0⟩).Var.length≤35)<;>rfl),dD,Bb (fun (t:ay)=>decide (t.Var.length≤35))]
 unfold uz;rw [show (14:Int)=((14:Nat):Int) from rfl,pj];cases l.Terms.all (fun t=>decide (t.Var.length≤35))<;>rfl
def Al (s:Shape):Bool:=s.Dims.all uz&&(decide (s.Dims.length≤8)&&decide (s.Row.length≤35))
theorem mu (l:Linear):Linear.mk l.Const l.Terms=l:=rfl
theorem D1 (s:Shape):Shape.mk s.Row s.Dims=s:=rfl
theorem rL (s:Shape):kF s=some (Al s):=by
 unfold kF;rw [dd (fun j=>uz (s.Dims.getD j ⟨0,[]⟩)) _ _ () (fun j u _ _=>by rw [mu,kR];simp only [Option.bind_some];cases uz (s.Dims.getD j ⟨0,[]⟩)<;>rfl),dD,Bb uz]
 unfold Al;rw [show (8:Int)=((8:Nat):Int) from rfl,pj,show (35:Int)=((35:Nat):Int) from rfl,pj];cases s.Dims.all uz
 ·rfl
 ·cases decide (s.Dims.length≤8)<;>rfl
def zz (b:Bind):Bool:=decide (b.Var.length≤35)&&(decide (b.Elem.length≤35)&&(uz b.Dim&&Al b.Row))
def BD (l:List Bind):Bool:=l.all zz&&decide (l.length≤10)
theorem sq (l:List Bind):fL l=some (BD l):=by
 unfold fL;rw [dd (fun j=>zz (l.getD j (⟨0,[],⟨0,[]⟩,⟨[],[]⟩,[]⟩))) _ _ () (fun j u _ _=>by
  rw [mu,D1,kR,rL];simp only [Option.bind_some,zz];rw [show (35:Int)=((35:Nat):Int) from rfl,Ba,Ba];generalize l.getD j (⟨0,[],⟨0,[]⟩,⟨[],[]⟩,[]⟩)=x;cases decide (x.Var.length≤35)
  ·rfl
  ·cases decide (x.Elem.length≤35)
   ·rfl
   ·cases uz x.Dim
    ·rfl
    ·cases Al x.Row<;>rfl),dD,Bb zz]
 unfold BD;rw [show (10:Int)=((10:Nat):Int) from rfl,pj];cases l.all zz<;>rfl
def jt (s:Shape):Bool:=s.Dims.all ba&&(decide (s.Dims.length≤6)&&(s.Row.isEmpty||fx s.Row))
theorem mG (s:aq):(s==[])=s.isEmpty:=by cases s<;>rfl
theorem mb (s:Shape):fP s=some (jt s):=by
 unfold fP;rw [dd (fun j=>ba (s.Dims.getD j ⟨0,[]⟩)) _ _ () (fun j u _ _=>by rw [mu,eJ];simp only [Option.bind_some];cases ba (s.Dims.getD j ⟨0,[]⟩)<;>rfl),dD,Bb ba]
 unfold jt;rw [show (6:Int)=((6:Nat):Int) from rfl,pj,mG,mN];cases s.Dims.all ba
 ·rfl
 ·cases decide (s.Dims.length≤6)
  ·rfl
  ·cases s.Row.isEmpty<;>rfl
def Db (l:Linear):Prop:=l.Terms.length≤1000000∧∀ t∈l.Terms,t.Var.length≤1000000
def Dd (s:Shape):Prop:=s.Row.length≤1000000∧∀ l∈s.Dims,Db l
theorem BP {l:Linear} (h:uz l=true):Db l:=by simp only [uz,Hj,Hu,decide_eq_true_eq] at h;exact ⟨by omega,fun t ht=>by have:=h.1 t ht;omega⟩
theorem ux {s:Shape} (h:Al s=true):Dd s:=by simp only [Al,Hj,Hu,decide_eq_true_eq] at h;exact ⟨by omega,fun l hl=>BP (h.1 l hl)⟩
theorem sx {ls:List Linear} (h:∀ l∈ls,Db l) (j:Nat):Db (ls.getD j ⟨0,[]⟩):=by
 rw [Hh];cases h1:ls[j]? with
 | none=>exact ⟨by simp,fun t ht=>by simp at ht⟩
 | some x=>exact h x (List.mem_of_getElem? h1)
theorem xI (ls:List Linear) (h:∀ l∈ls,Db l):br ls=some (!ls.all ba):=by
 unfold br bY;rw [lQ (f:=fun j=>((j:Nat):Int)) (fun j=>(fun l => !ba l) (ls.getD j ⟨0,[]⟩)) _ _ () (fun j u _ _=>by rw [mu];unfold jx;rw [e7 _ (sx h j).1 (sx h j).2];simp only [Option.bind_some];cases ba (ls.getD j ⟨0,[]⟩)<;>rfl)]
 have hf:=kH (fun l => !ba l) ⟨0,[]⟩ ls;have hn:=xh (fun l => !ba l) ls;have e:ls.any (fun l => !ba l) = !ls.all ba:=by simp [List.any_eq_not_all_not]
 rw [e] at hn;generalize (List.range' 0 (ls.length-0)).find? (fun j=>(fun l => !ba l) (ls.getD j ⟨0,[]⟩))=x at hf;cases x with
 | none =>
  simp only at hf;have h1:(!ls.all ba)=false:=hn.1 (by omega);rw [h1];rfl
 | some j =>
  simp only at hf;have h1:(!ls.all ba)=true:=by
   cases hb : !ls.all ba
   ·have:=hn.2 hb;omega
   ·rfl
  rw [h1];simp only [Option.bind_some,Sh.aft];rw [Ho (by omega:((j:Nat):Int)≥0)]
theorem lA (s:Shape) (h:Dd s):cz s=some (jt s):=by unfold cz jt;rw [mG,xI _ h.2,kM _ h.1,show (6:Int)=((6:Nat):Int) from rfl,pj];cases s.Row.isEmpty<;>cases fx s.Row<;>cases decide (s.Dims.length≤6)<;>cases s.Dims.all ba<;>rfl
theorem xa {body:Nat→Unit→Option (kg Unit Unit Int)} {fin:Nat→Unit→Unit} (m:Nat) (E:Nat→Prop):∀ (k i:Nat) (u:Unit),(∀ j u,i≤j→j<i+k→(j<m∧E j∧body j u=some (.go ()))∨(j<m∧¬ E j∧∃ x,x≠0∧body j u=some (.ret x))∨(m≤j∧body j u=some (.brk ()))) →
 (dF body fin k i u=some (.brk ())∧∀ j,i≤j→j<i+k→j<m→E j)∨(∃ x,x≠0∧dF body fin k i u=some (.ret x)∧∃ j,i≤j∧j<i+k∧j<m∧¬ E j)
 | 0,i,u,h=>.inl ⟨rfl,fun j h1 h2=>by omega⟩
 | k+1,i,u,h=>by
  rcases h i u (Nat.le_refl _) (by omega) with ⟨h1,h2,h3⟩ | ⟨h1,h2,x,h3,h4⟩ | ⟨h1,h2⟩
  ·rcases xa m E k (i+1) () (fun j u h1 h2=>h j u (by omega) (by omega)) with ⟨e,ha⟩ | ⟨x,hx,e,j,j1,j2,j3,j4⟩
   ·refine .inl ⟨by simp only [dF,h3,Option.bind_some,CS];exact e,fun j j1 j2 j3 => ?_⟩;by_cases hj:j=i
    ·subst hj;exact h2
    ·exact ha j (by omega) (by omega) j3
   ·exact .inr ⟨x,hx,by simp only [dF,h3,Option.bind_some,CS];exact e,j,by omega,by omega,j3,j4⟩
  ·exact .inr ⟨x,h3,by simp only [dF,h4,Option.bind_some,CS],i,Nat.le_refl _,by omega,h1,h2⟩
  ·exact .inl ⟨by simp only [dF,h2,Option.bind_some,CS],fun j j1 j2 j3=>by omega⟩
theorem yX {α:Type} (d:α) {x y:List α} (hl:x.length=y.length) (h:∀ j,j<x.length→x.getD j d=y.getD j d):x=y:=by refine List.ext_getElem hl fun j h1 h2 => ?_;have:=h j h1;simpa [Hh,Hi h1,Hi h2] using this
theorem all_eq {α:Type} [DecidableEq α] (d:α) {x y:List α} (hl:x.length=y.length):(List.range' 0 (x.length-0)).all (fun j=>decide (x.getD j d=y.getD j d))=decide (x=y):=by rw [Bool.eq_iff_iff];simp only [Hu,decide_eq_true_eq,List.mem_range'_1];exact ⟨fun h=>yX d hl fun j hj=>h j ⟨by omega,by omega⟩,fun h j _=>by rw [h]⟩
theorem va {a b:Nat}:(((a:Nat):Int)==((b:Nat):Int))=decide (a=b):=by rw [Bool.eq_iff_iff];simp only [beq_iff_eq,decide_eq_true_eq];omega
theorem zP (x y:ay):((x.Var==y.Var)&&((x.C==y.C)&&true))=decide (x=y):=by cases x;cases y;rw [Bool.eq_iff_iff];simp
theorem tX (x y:List ay):cD x y=some (decide (x=y)):=by
 unfold cD;rw [va];by_cases h:x.length=y.length
 ·rw [Ho h];simp only [cond_true];rw [dd (fun j=>decide (x.getD j ⟨[],0⟩=y.getD j ⟨[],0⟩)) _ _ () (fun j u _ hj=>by rw [be (by omega),zP];cases decide (x.getD j ⟨[],0⟩=y.getD j ⟨[],0⟩)<;>rfl),dD,all_eq ⟨[],0⟩ h]
  cases decide (x=y)<;>rfl
 ·rw [Hn h,Hn (fun e=>h (by rw [e]))];rfl
theorem wH (x y:Linear):lr x y=some (decide (x=y)):=by
 unfold lr;rw [tX];cases x with | mk a s=>cases y with | mk b t =>
 by_cases h:a=b
 ·subst h;simp
 ·have:(a==b)=false:=by simpa using h
  simp only;rw [this,Hn (p:=Linear.mk a s=Linear.mk b t) (fun e=>h (by simp only [Linear.mk.injEq] at e;exact e.1))];rfl
theorem xK (x y:List Linear):bJ x y=some (decide (x=y)):=by
 unfold bJ;rw [va];by_cases h:x.length=y.length
 ·rw [Ho h];simp only [cond_true];rw [dd (fun j=>decide (x.getD j ⟨0,[]⟩=y.getD j ⟨0,[]⟩)) _ _ () (fun j u _ hj=>by rw [be (by omega),mu,mu,wH];simp only [Option.bind_some];cases decide (x.getD j ⟨0,[]⟩=y.getD j ⟨0,[]⟩)<;>rfl),dD,all_eq ⟨0,[]⟩ h]
  cases decide (x=y)<;>rfl
 ·rw [Hn h,Hn (fun e=>h (by rw [e]))];rfl
theorem vA (x y:Shape):jQ x y=some (decide (x=y)):=by
 unfold jQ;rw [xK];cases x with | mk a s=>cases y with | mk b t =>
 by_cases h:a=b
 ·subst h;simp
 ·have:(a==b)=false:=by simpa using h
  simp only;rw [this,Hn (p:=Shape.mk a s=Shape.mk b t) (fun e=>h (by simp only [Shape.mk.injEq] at e;exact e.1))];rfl
theorem uV (x y:Linear):jz x y=some (decide (x=y)):=by
 unfold jz jw;have key:=xa (fin:=fun _ _=>()) (body:=fun i147 s146 =>
  bif decide (((i147:Nat):Int)<((y.Terms.length:Nat):Int)) then (
   ((
    bif (Op.bytesLess ((x.Terms.getD i147 ⟨[],0⟩).Var) ((y.Terms.getD i147 ⟨[],0⟩).Var)) then (
     some (.ret (.ret (-1)))
    ) else (
     bif (((x.Terms.getD i147 ⟨[],0⟩).Var)==((y.Terms.getD i147 ⟨[],0⟩).Var)) then (
      bif decide (((x.Terms.getD i147 ⟨[],0⟩).C)<((y.Terms.getD i147 ⟨[],0⟩).C)) then (
       some (.ret (.ret (-1)))
      ) else (
       bif ((((x.Terms.getD i147 ⟨[],0⟩).Var)==((y.Terms.getD i147 ⟨[],0⟩).Var))&&((((x.Terms.getD i147 ⟨[],0⟩).C)==((y.Terms.getD i147 ⟨[],0⟩).C))&&true)) then (
        some (.brk ())
       ) else (
        some (.ret (.ret 1))
       )
      )
     ) else (
      bif ((((x.Terms.getD i147 ⟨[],0⟩).Var)==((y.Terms.getD i147 ⟨[],0⟩).Var))&&((((x.Terms.getD i147 ⟨[],0⟩).C)==((y.Terms.getD i147 ⟨[],0⟩).C))&&true)) then (
       some (.brk ())
      ) else (
       some (.ret (.ret 1))
      )
     )
    )
   ):Option (Out Unit (kg Unit Unit Int))).bind (Sh.aft fun u274 =>
    some (.go ())
   )
  ) else (
   some (.brk ())
  )) y.Terms.length (fun j=>x.Terms.getD j ⟨[],0⟩=y.Terms.getD j ⟨[],0⟩) (x.Terms.length-0) 0 () (fun j u _ _=>by
   by_cases hj:j<y.Terms.length
   ·rw [Ho (show ((j:Nat):Int)<((y.Terms.length:Nat):Int) by omega),zP];generalize x.Terms.getD j ⟨[],0⟩=a;generalize y.Terms.getD j ⟨[],0⟩=b;by_cases hab:a=b
    ·subst hab;refine .inl ⟨hj,rfl,?_⟩;have h1:Op.bytesLess a.Var a.Var=false:=by
      have:∀ l:aq,Op.bytesLess l l=false:=by
       intro l;induction l with
       | nil=>rfl
       | cons x l ih=>simp [Op.bytesLess,ih]
      exact this _
     rw [h1];simp [Sh.aft]
    ·refine .inr (.inl ⟨hj,hab,?_⟩);rw [Hn hab];cases Op.bytesLess a.Var b.Var with
     | true=>exact ⟨-1,by decide,rfl⟩
     | false =>
      cases hv:a.Var==b.Var with
      | true =>
       cases decide (a.C<b.C) with
       | true=>exact ⟨-1,by decide,rfl⟩
       | false=>exact ⟨1,by decide,rfl⟩
      | false=>exact ⟨1,by decide,rfl⟩
   ·rw [Hn (show ¬ ((j:Nat):Int)<((y.Terms.length:Nat):Int) by omega)];exact .inr (.inr ⟨by omega,rfl⟩))
 rcases key with ⟨e,ha⟩ | ⟨r,hr,e,j,_,j2,j3,j4⟩
 ·rw [e];simp only [Option.bind_some,Sh.aft];rw [va];cases x with | mk a s=>cases y with | mk b t =>
  simp only at ha ⊢;by_cases hl:s.length=t.length
  ·have hst:s=t:=yX ⟨[],0⟩ hl fun j hj=>ha j (by omega) (by omega) (by omega);subst hst;rw [Hn (show ¬ ((s.length:Nat):Int)<((s.length:Nat):Int) by omega),Ho (rfl:s.length=s.length)];simp only [cond_true,cond_false];by_cases h1:a<b
   ·rw [Ho h1];have:¬ a=b:=by omega
    simp [this]
   ·rw [Hn h1];by_cases h2:a>b
    ·rw [Ho h2];have:¬ a=b:=by omega
     simp [this]
    ·rw [Hn h2];have:a=b:=by omega
     simp [this]
  ·rw [Hn hl];have hne:¬ (Linear.mk a s=Linear.mk b t):=fun e=>hl (by simp at e;rw [e.2]);rw [Hn hne];by_cases h1:s.length<t.length
   ·rw [Ho (show ((s.length:Nat):Int)<((t.length:Nat):Int) by omega)];rfl
   ·rw [Hn (show ¬ ((s.length:Nat):Int)<((t.length:Nat):Int) by omega),Ho (show ((s.length:Nat):Int)>((t.length:Nat):Int) by omega)];rfl
 ·rw [e];simp only [Option.bind_some,Sh.aft];have hne:¬ (x=y):=fun e=>j4 (by rw [e]);rw [Hn hne];simpa using hr
theorem v7 (x y:Shape):jP x y=some (decide (x=y)):=by
 unfold jP;cases x with | mk a s=>cases y with | mk b t =>
 simp only;rw [va];by_cases h:a=b
 ·subst h;simp only [beq_self_eq_true,cond_true];by_cases hl:s.length=t.length
  ·rw [Ho hl];simp only [cond_true];rw [dd (fun j=>decide (s.getD j ⟨0,[]⟩=t.getD j ⟨0,[]⟩)) _ _ () (fun j u _ hj=>by rw [be (by omega),mu,mu,uV];simp only [Option.bind_some];cases decide (s.getD j ⟨0,[]⟩=t.getD j ⟨0,[]⟩)<;>rfl),dD,all_eq ⟨0,[]⟩ hl]
   have:decide (Shape.mk a s=Shape.mk a t)=decide (s=t):=by rw [decide_eq_decide];simp
   rw [this];cases decide (s=t)<;>rfl
  ·rw [Hn hl,Hn (p:=Shape.mk a s=Shape.mk a t) (fun e=>hl (by simp only [Shape.mk.injEq] at e;rw [e.2]))];rfl
 ·have:(a==b)=false:=by simpa using h
  rw [this,Hn (p:=Shape.mk a s=Shape.mk b t) (fun e=>h (by simp only [Shape.mk.injEq] at e;exact e.1))];rfl
def oN:aq→Bool
 | []=>false
 | c::r=>decide (r.length≤29)&&((decide (65≤c.toNat)&&decide (c.toNat≤90))&&r.all bD)
theorem jl (s:aq):fb s=some (oN s):=by
 unfold fb;rw [dd (fun j=>bD (s.getD j 0)) _ _ () (fun j u _ _=>by
  simp only [bD];generalize s.getD j 0=x;by_cases h2:(x.toNat:Int)<48
  ·rw [Ho h2,Hn (show ¬ 48≤x.toNat by omega)];rfl
  ·rw [Hn h2,Ho (show 48≤x.toNat by omega)];by_cases h3:(x.toNat:Int)>57
   ·rw [Ho h3,Hn (show ¬ x.toNat≤57 by omega)];rfl
   ·rw [Hn h3,Ho (show x.toNat≤57 by omega)];rfl),dD,iv bD 0 s 1]
 cases s with
 | nil=>rfl
 | cons c r =>
  simp only [List.drop_succ_cons,List.drop_zero,oN];rw [Ho (by simp;omega:(((c::r).length:Nat):Int)≥1)];simp only [cond_true];by_cases h29:r.length≤29
  ·rw [Ho (by simp;omega:(((c::r).length:Nat):Int)≤30),Ho h29,be (by simp)];simp only [cond_true,Bool.true_and,List.getD_cons_zero];by_cases h65:65≤c.toNat
   ·rw [Ho (show (c.toNat:Int)≥65 by omega),Ho h65];have:decide ((c.toNat:Int)≤90)=decide (c.toNat≤90):=by rw [decide_eq_decide];omega
    rw [this];cases r.all bD<;>cases decide (c.toNat≤90)<;>rfl
   ·rw [Hn (show ¬ (c.toNat:Int)≥65 by omega),Hn h65];cases r.all bD<;>rfl
  ·rw [Hn (by simp;omega:¬ (((c::r).length:Nat):Int)≤30),Hn h29];cases r.all bD<;>rfl
theorem dropWhile_nil {α:Type} (p:α→Bool):∀ l:List α,(l.dropWhile p=[])↔l.all p=true
 | []=>by simp
 | x::l=>by
  simp only [List.dropWhile_cons,List.all_cons,Hj];cases hp:p x
  ·simp
  ·simp [dropWhile_nil p l]
theorem p6 {α:Type} (p:α→Bool):∀ (l:List α) {x:α} {r:List α},l.dropWhile p=x::r→p x=false
 | [],x,r,h=>by simp at h
 | y::l,x,r,h=>by
  simp only [List.dropWhile_cons] at h;cases hp:p y
  ·rw [hp] at h;simp at h;rw [← h.1];exact hp
  ·rw [hp] at h;simp at h;exact p6 p l h
theorem Eh (l cs:aq):(Lib.trimS l cs=[])↔l.all cs.contains=true:=by
 unfold Lib.trimS Lib.trimLeftS Lib.trimRightS;rw [dropWhile_nil];constructor
 ·intro h;cases hd:l.reverse.dropWhile (cs.contains ·) with
  | nil =>
   have:=(dropWhile_nil (cs.contains ·) l.reverse).1 hd;simpa using this
  | cons x r =>
   have h1:=p6 _ _ hd;rw [hd] at h;simp only [List.all_reverse,List.all_cons,Hj] at h;have h2:=h.1;rw [h2] at h1;cases h1
 ·intro h;have:l.reverse.dropWhile (cs.contains ·)=[]:=(dropWhile_nil (cs.contains ·) l.reverse).2 (by simpa using h);rw [this];rfl
theorem ug (b:UInt8):([48,49,50,51,52,53,54,55,56,57]:aq).contains b=bD b:=by
 rw [Bool.eq_iff_iff];simp only [List.contains_iff_mem,List.mem_cons,List.mem_nil_iff,or_false,bD,Hj,decide_eq_true_eq,← UInt8.toNat_inj];have:(48:UInt8).toNat=48∧(49:UInt8).toNat=49∧(50:UInt8).toNat=50∧(51:UInt8).toNat=51∧(52:UInt8).toNat=52∧(53:UInt8).toNat=53∧(54:UInt8).toNat=54∧(55:UInt8).toNat=55∧(56:UInt8).toNat=56∧(57:UInt8).toNat=57:=by decide
 omega
theorem iW (s:aq):ca s=some (oN s):=by
 unfold ca;cases s with
 | nil=>rfl
 | cons c r =>
  rw [Hn (by simp;omega:¬ (((c::r).length:Nat):Int)<1)];simp only [cond_false,oN];by_cases h29:r.length≤29
  ·rw [Hn (by simp;omega:¬ (((c::r).length:Nat):Int)>30),Ho h29,be (by simp)];simp only [cond_false,Bool.true_and,List.getD_cons_zero];by_cases h65:65≤c.toNat
   ·rw [Hn (show ¬ (c.toNat:Int)<65 by omega),Ho h65];by_cases h90:c.toNat≤90
    ·rw [Hn (show ¬ (c.toNat:Int)>90 by omega),Ho h90,be (by simp)];simp only [cond_false,Bool.true_and,List.drop_succ_cons,List.drop_zero,pb];rw [be (by decide)];simp only [Option.bind_some,Hr];have hc:(([48,49,50,51,52,53,54,55,56,57]:aq).contains)=bD:=funext ug;rw [Bool.eq_iff_iff,beq_iff_eq,Eh,hc]
    ·rw [Ho (show (c.toNat:Int)>90 by omega),Hn h90];rfl
   ·rw [Ho (show (c.toNat:Int)<65 by omega),Hn h65];rfl
  ·rw [Ho (by simp;omega:(((c::r).length:Nat):Int)>30),Hn h29];rfl
abbrev iN:Bind:=⟨0,[],⟨0,[]⟩,⟨[],[]⟩,[]⟩
theorem FB (b:Bind):Bind.mk b.Kind b.Var b.Dim b.Row b.Elem=b:=rfl
def eP (k:Int) (v:aq) (b:Bind):Bool:=b.Kind==k&&b.Var==v
theorem rW (l:List Bind) (p:Bind→Bool):∀ x:Option Nat,(match x with | some j=>((j:Nat):Int) | none => -1)=idxOf p l →
 ((some (match x with | some j=>Out.ret ((j:Nat):Int) | none=>Out.brk ()):Option (Out Unit Int)).bind (Sh.aft fun _=>some (-1)))=some (idxOf p l)
 | none,hx=>by rw [← hx];rfl
 | some j,hx=>by rw [← hx];rfl
theorem qW (l:List Bind) (k:Int) (v:aq):gI l k v=some (idxOf (eP k v) l):=by
 unfold gI cC;rw [lQ (f:=fun j=>((j:Nat):Int)) (fun j=>eP k v (l.getD j iN)) _ _ () (fun j u _ _=>by
  unfold kq eP;simp only;cases (l.getD j iN).Kind==k
  ·rfl
  ·cases (l.getD j iN).Var==v<;>rfl)]
 exact congrArg (fun o:Option Int=>o.bind fun y=>some y) (rW l (eP k v) _ (kH (eP k v) iN l))
theorem ny (l:List Bind) (k:Int) (v:aq):gK l k v=some (idxOf (eP k v) l):=by
 unfold gK;rw [lQ (f:=fun j=>((j:Nat):Int)) (fun j=>eP k v (l.getD j iN)) _ _ () (fun j u _ _=>by
  unfold eP;cases (l.getD j iN).Kind==k
  ·rfl
  ·cases (l.getD j iN).Var==v<;>rfl)]
 exact rW l (eP k v) _ (kH (eP k v) iN l)
def B1 (l:Linear):Bool:=l.Const==0&&l.Terms.isEmpty
def BO (s:Shape):Bool:=s.Row.isEmpty&&s.Dims.isEmpty
def sN (s:aq):Bool:=s==[105,110,116]||(s==[98,111,111,108]||oN s)
def ri (b:Bind):Bool :=
 bif b.Kind==1 then (fx b.Var&&(ba b.Dim&&(BO b.Row&&b.Elem.isEmpty)))
 else bif b.Kind==2 then (fx b.Var&&(jt b.Row&&(B1 b.Dim&&b.Elem.isEmpty)))
 else bif b.Kind==3 then (oN b.Var&&(sN b.Elem&&(B1 b.Dim&&BO b.Row))) else false
def okB (b:Bind):Prop:=b.Var.length≤1000000∧Db b.Dim∧Dd b.Row
theorem Fq {b:Bind} (h:zz b=true):okB b:=by simp only [zz,Hj,decide_eq_true_eq] at h;exact ⟨by omega,BP h.2.2.1,ux h.2.2.2⟩
theorem E1 {α:Type} (l:List α):decide (((l.length:Nat):Int)>0) = !l.isEmpty:=by
 cases l with
 | nil=>rfl
 | cons x l=>rw [Ho (by simp)];rfl
theorem vg (b:Bind) (h:okB b):jD b=some (ri b):=by
 unfold jD ri B1 BO sN;rw [kM _ h.1,e7 _ h.2.1.1 h.2.1.2,lA _ h.2.2,iW,iW,uL,uL,mG,mG];cases b.Dim.Const==0<;>cases b.Row.Row.isEmpty<;>simp only [cond_true,cond_false,Option.bind_some,Bool.true_and,Bool.false_and] <;>
 (cases b.Kind==1
  ·cases b.Kind==2
   ·cases b.Kind==3
    ·rfl
    ·cases oN b.Var
     ·rfl
     ·cases b.Elem==[105,110,116]<;>cases b.Elem==[98,111,111,108]<;>cases oN b.Elem<;>cases b.Dim.Terms.isEmpty<;>cases b.Row.Dims.isEmpty<;>rfl
   ·cases fx b.Var
    ·rfl
    ·cases jt b.Row<;>cases b.Dim.Terms.isEmpty<;>cases b.Elem.isEmpty<;>rfl
  ·cases fx b.Var
   ·rfl
   ·cases ba b.Dim<;>cases b.Row.Dims.isEmpty<;>cases b.Elem.isEmpty<;>rfl)
theorem rp (b:Bind):e9 b=some (ri b):=by
 unfold e9 ri B1 BO sN mg ju;rw [mN,eJ,mb,jl,jl,uL,E1,mG,mG];cases b.Dim.Const==0<;>cases b.Row.Row.isEmpty<;>simp only [cond_true,cond_false,Option.bind_some,Bool.true_and,Bool.false_and] <;>
 (cases b.Kind==1
  ·cases b.Kind==2
   ·cases b.Kind==3
    ·rfl
    ·cases oN b.Var
     ·rfl
     ·cases b.Elem==[105,110,116]<;>cases b.Elem==[98,111,111,108]<;>cases oN b.Elem<;>cases b.Dim.Terms.isEmpty<;>cases b.Row.Dims.isEmpty<;>rfl
   ·cases fx b.Var
    ·rfl
    ·cases jt b.Row<;>cases b.Dim.Terms.isEmpty<;>cases b.Elem.isEmpty<;>rfl
  ·cases fx b.Var
   ·rfl
   ·cases ba b.Dim<;>cases b.Row.Dims.isEmpty<;>cases b.Elem.isEmpty<;>rfl)
def oa (l:List Bind) (j:Nat):Bool:=ri (l.getD j iN) && !decide (idxOf (eP (l.getD j iN).Kind (l.getD j iN).Var) (l.take j)≥0)
def fY (l:List Bind):Bool:=(List.range' 0 (l.length-0)).all (oa l)
theorem uW {l:List Bind} (h:∀ b∈l,okB b) (j:Nat):okB (l.getD j iN):=by
 rw [Hh];cases h1:l[j]? with
 | none=>exact ⟨by simp,⟨by simp,fun t ht=>by simp at ht⟩,⟨by simp,fun t ht=>by simp at ht⟩⟩
 | some x=>exact h x (List.mem_of_getElem? h1)
theorem gg (l:List Bind) (h:∀ b∈l,okB b):cH l=some (fY l):=by
 unfold cH fY;rw [dd (oa l) _ _ () (fun j u _ _=>by
  have e:=vg (l.getD j iN) (uW h j);have e2:=qW (l.take j) (l.getD j iN).Kind (l.getD j iN).Var;simp only [mu,D1,FB];rw [e,e2];simp only [Option.bind_some,oa];cases ri (l.getD j iN)
  ·rfl
  ·cases decide (idxOf (eP (l.getD j iN).Kind (l.getD j iN).Var) (l.take j)≥0)<;>rfl),dD]
 cases (List.range' 0 (l.length-0)).all (oa l)<;>rfl
theorem ga (l:List Bind):cR l=some (fY l):=by
 unfold cR fY;rw [dd (oa l) _ _ () (fun j u _ _=>by
  have e:=rp (l.getD j iN);have e2:=ny (l.take j) (l.getD j iN).Kind (l.getD j iN).Var;simp only [mu,D1,FB];rw [e,e2];simp only [Option.bind_some,oa];cases ri (l.getD j iN)
  ·rfl
  ·cases decide (idxOf (eP (l.getD j iN).Kind (l.getD j iN).Var) (l.take j)≥0)<;>rfl),dD]
 cases (List.range' 0 (l.length-0)).all (oa l)<;>rfl
theorem du {l:Linear} (h:ba l=true):l.Terms.length≤12:=by simp only [ba,Hj,decide_eq_true_eq] at h;exact h.2.2
theorem tn {s:Shape} (h:jt s=true):s.Dims.length≤6∧∀ j,(s.Dims.getD j ⟨0,[]⟩).Terms.length≤12:=by
 simp only [jt,Hj,decide_eq_true_eq,Hu] at h;refine ⟨h.2.1,fun j => ?_⟩;rw [Hh];cases h1:s.Dims[j]? with
 | none=>simp
 | some x=>exact du (h.1 x (List.mem_of_getElem? h1))
end Go.Proofs.YtoebmibmmlcfiaaGreatDoor
namespace Go.Sh
theorem si {α:Type} [DecidableEq α]:∀ (l l':List α),l.Nodup→(∀ x∈l,x∈l')→l.length≤l'.length
 | [],l',_,_=>by simp
 | a::l,l',h,hs=>by
  rw [List.nodup_cons] at h;have ha:a∈l':=hs a (by simp);have ih:=si l (l'.erase a) h.2 (fun x hx=>by have hne:x≠a:=fun e=>h.1 (e ▸ hx);exact (List.mem_erase_of_ne hne).2 (hs x (by simp [hx])))
  rw [List.length_erase_of_mem ha] at ih;have:0<l'.length:=List.length_pos_of_mem ha;simp only [List.length_cons];omega
theorem FA {V σ ε β:Type} {m:List (aq×V)} {body:aq×V→σ→Option (kg σ ε β)} {K:σ→Prop} {J:β→Prop} (I:List Nat→σ→Prop) (g:σ→aq×V→σ)
 (hstep:∀ seen s i (h:i<m.length),seen.Nodup→i ∉ seen→(∀ j∈seen,j<m.length)→I seen s→body m[i] s=some (.go (g s m[i]))∧I (seen++[i]) (g s m[i]))
 (hend:∀ seen s,seen.Nodup→(∀ i,i<m.length→i∈seen)→(∀ i∈seen,i<m.length)→I seen s→K s) :
 ∀ (n:Nat) (seen:List Nat) (s:σ),seen.Nodup→(∀ i∈seen,i<m.length)→n+seen.length=m.length→I seen s→MR m body K J n seen s
 | 0,seen,s,h1,h2,h3,hI=>by
  have hall:∀ i,i<m.length→i∈seen:=by
   intro i hi;refine Classical.byContradiction fun hn => ?_;have:=si (i::seen) (List.range m.length) (List.nodup_cons.2 ⟨hn,h1⟩) (fun x hx=>by
    rcases List.mem_cons.1 hx with rfl | hx
    ·simpa using hi
    ·simpa using h2 x hx)
   simp at this;omega
  exact ⟨hall,hend seen s h1 hall h2 hI⟩
 | n+1,seen,s,h1,h2,h3,hI=>by
  refine ⟨?_,fun i hi hn => ?_⟩
  ·refine Classical.byContradiction fun hn => ?_;have:=si (List.range m.length) seen List.nodup_range (fun x hx=>Classical.byContradiction fun hx2=>hn ⟨x,by simpa using hx,hx2⟩);simp at this;omega
  ·obtain ⟨e1,e2⟩:=hstep seen s i hi h1 hn h2 hI;refine ⟨_,e1,?_⟩;have hnd:(seen++[i]).Nodup:=by
    rw [List.nodup_append];exact ⟨h1,by simp,fun a ha b hb=>by
     have:b=i:=by simpa using hb
     subst this;intro e;subst e;exact hn ha⟩
   exact FA I g hstep hend n (seen++[i]) _ hnd (fun j hj=>by
    rcases List.mem_append.1 hj with hj | hj
    ·exact h2 j hj
    ·have:j=i:=by simpa using hj
     subst this;exact hi) (by simp;omega) e2
def wi (x y:aq):Bool:=decide (x≤y)
theorem xc (a b c:aq) (h1:wi a b=true) (h2:wi b c=true):wi a c=true:=by simp only [wi,decide_eq_true_eq] at *;exact List.le_trans h1 h2
theorem xq (a b:aq):(wi a b||wi b a)=true:=by simp only [wi,Bool.or_eq_true,decide_eq_true_eq];exact List.le_total a b
theorem zN (a b:aq) (h1:wi a b=true) (h2:wi b a=true):a=b:=by simp only [wi,decide_eq_true_eq] at *;exact List.le_antisymm h1 h2
theorem tF (l:List aq):(Go.Ab.sortS l).Pairwise (fun a b=>wi a b=true):=Go.Ab.msort_pw xc xq l
theorem wY (l:List aq):(Go.Ab.sortS l).Perm l:=Go.Ab.msort_perm l _
theorem BA {l r:List aq} (hs:r.Pairwise (fun a b=>wi a b=true)) (hp:r.Perm l):Go.Ab.sortS l=r :=
 List.Perm.eq_of_pairwise (fun a b _ _=>zN a b) (tF l) hs ((wY l).trans hp.symm)
theorem A6 {l r:List aq} (h:l.Perm r):Go.Ab.sortS l=Go.Ab.sortS r:=BA (tF r) ((wY r).trans h.symm)
def Bg (x:aq):List aq→List aq
 | []=>[x]
 | y::l=>bif wi x y then x::y::l else y::Bg x l
def kj:List aq→List aq
 | []=>[]
 | x::l=>Bg x (kj l)
theorem s4 (x:aq):∀ l,(Bg x l).Perm (x::l)
 | []=>.refl _
 | y::l=>by
  simp only [Bg];cases wi x y
  ·exact ((s4 x l).cons y).trans (.swap _ _ _)
  ·exact .refl _
theorem tk (x:aq):∀ {l:List aq},l.Pairwise (fun a b=>wi a b=true)→(Bg x l).Pairwise (fun a b=>wi a b=true)
 | [],_=>by simp [Bg]
 | y::l,h=>by
  rw [List.pairwise_cons] at h;simp only [Bg];cases hxy:wi x y
  ·simp only [cond_false,List.pairwise_cons];have hyx:wi y x=true:=by have:=xq x y;rw [hxy] at this;simpa using this
   refine ⟨fun a ha => ?_,tk x h.2⟩;rcases List.mem_cons.1 ((s4 x l).mem_iff.1 ha) with rfl | ha
   ·exact hyx
   ·exact h.1 a ha
  ·simp only [cond_true,List.pairwise_cons];refine ⟨fun a ha => ?_,h⟩;rcases List.mem_cons.1 ha with rfl | ha
   ·exact hxy
   ·exact xc _ _ _ hxy (h.1 a ha)
theorem fE:∀ l,(kj l).Perm l
 | []=>.refl _
 | x::l=>(s4 x _).trans ((fE l).cons x)
theorem oc:∀ l,(kj l).Pairwise (fun a b=>wi a b=true)
 | []=>List.Pairwise.nil
 | x::l=>tk x (oc l)
theorem DM (l:List aq):Go.Ab.sortS l=kj l:=BA (oc l) (fE l)
def sB:List aq→Bool
 | []=>true
 | x::l => !(l.any fun y=>y==x)&&sB l
theorem xd:∀ {l:List aq},sB l=true→l.Nodup
 | [],_=>List.nodup_nil
 | x::l,h=>by simp only [sB,Hj,Bool.not_eq_true',List.any_eq_false,beq_iff_eq] at h;exact List.nodup_cons.2 ⟨fun hm=>h.1 x hm rfl,xd h.2⟩
end Go.Sh
namespace Go.Proofs.YtoebmibmmlcfiaaGreatDoor
open Go.Ab Go.Sh
def bu (m:List (aq×Int)):List aq:=(m.filter fun e => !(e.2==0)).map (·.1)
def oz (n:Int) (m:List (aq×Int)) (names:List aq):Linear×Int :=
 bif ba (Linear.mk n (names.map fun k=>ay.mk k (bC 0 k m))) then (Linear.mk n (names.map fun k=>ay.mk k (bC 0 k m)),0) else (Linear.mk 0 [],3)
def vG (m:List (aq×Int)):Bool:=sB (m.map (·.1))&&(decide (m.length≤1000)&&m.all fun e=>decide (e.1.length≤1000000))
theorem Ei (m:List (aq×Int)) (y:List aq) (hy:y.length≤1000000):(dF (σ:=(List ay)) (ε:=(List ay)) (ρ:=Empty) (fun i117 s116 =>
 cb ((s116.length+1)*24≤140737488355328) <|
 some (.go (s116++[(ay.mk (y.getD i117 []) (bC 0 (y.getD i117 []) m))]))
 ) (fun i117 s116=>s116) (y.length-0) 0 [])=some (.brk (y.map fun k=>ay.mk k (bC 0 k m))):=by
 obtain ⟨s',e1,e2,_⟩:=A8 (fin:=fun _ s=>s) (body:=fun i117 s116 =>
  cb ((s116.length+1)*24≤140737488355328) <|
  some (.go (s116++[(ay.mk (y.getD i117 []) (bC 0 (y.getD i117 []) m))]))) (ε:=List ay) (ρ:=Empty) (fun j s=>s++[(fun k=>ay.mk k (bC 0 k m)) (y.getD j [])]) (fun j s=>s.length=j) (y.length-0) 0 [] rfl (fun j s _ hj hI=>⟨by rw [be (by omega)],by simp [hI]⟩)
 rw [e1,e2];have:=rh (fun (s:List ay) (k:aq)=>s++[(fun k=>ay.mk k (bC 0 k m)) k]) [] y 0 [];rw [this];have gen:∀ (ts:List aq) (s:List ay),ts.foldl (fun s k=>s++[(fun k=>ay.mk k (bC 0 k m)) k]) s=s++ts.map (fun k=>ay.mk k (bC 0 k m)):=by
  intro ts;induction ts with
  | nil=>intro s;simp
  | cons t ts ih=>intro s;simp [ih]
 rw [List.drop_zero,gen];rfl
theorem Dz (n:Int) (m:List (aq×Int)) (hm:vG m=true) (s:List aq) (hp:s.Perm (bu m)) :
 ((jO s).bind fun y97 =>
 (dF (σ:=(List ay)) (ε:=(List ay)) (ρ:=Empty) (fun i117 s116 =>
  cb ((s116.length+1)*24≤140737488355328) <|
  some (.go (s116++[(ay.mk (y97.getD i117 []) (bC 0 (y97.getD i117 []) m))]))
 ) (fun i117 s116=>s116) (y97.length-0) 0 []).bind <| dq fun u148 =>
 (bw (Linear.mk n u148)).bind fun y151 =>
 bif y151 then (
  some ((Linear.mk n u148),0)
 ) else (
  some ((Linear.mk 0 []),3)
 ))=some (oz n m (kj (bu m))):=by
 simp only [vG,Hj,decide_eq_true_eq,Hu] at hm;obtain ⟨_,hl,hk⟩:=hm;have hlen:(bu m).length≤m.length:=by unfold bu;rw [Hp];exact List.length_filter_le _ _
 have hs:s.length≤1000:=by rw [hp.length_eq];omega
 unfold jO;rw [be (by omega)];simp only [Option.bind_some];rw [A6 hp,DM];have hsi:(kj (bu m)).length≤1000:=by rw [(fE _).length_eq];omega
 rw [Ei m _ (by omega)];simp only [Option.bind_some,dq];rw [e7 _ (by simp;omega) (fun t ht=>by obtain ⟨k,hk1,rfl⟩:=List.mem_map.1 ht;have hk2:=(fE _).mem_iff.1 hk1;obtain ⟨e,he,rfl⟩:=List.mem_map.1 hk2;exact hk e (List.mem_filter.1 he).1)]
 simp only [Option.bind_some,oz];cases ba (Linear.mk n ((kj (bu m)).map fun k=>ay.mk k (bC 0 k m)))<;>rfl
theorem DQ {β:Type} (m:List (aq×Int)) (hm:vG m=true) (k:List aq→Option β) (v:β) (hk:∀ s,s.Perm (bu m)→k s=some v) :
 qX (σ:=(List aq)) (ε:=Empty) (β:=β) m (fun e164 s94 =>
 bif (e164.2==0) then (
  some (.go s94)
 ) else (
  cb ((s94.length+1)*16≤140737488355328) <|
  some (.go (s94++[e164.1]))
 )) [] k=some v:=by
 simp only [vG,Hj,decide_eq_true_eq,Hu] at hm;obtain ⟨hnd,hl,_⟩:=hm;have hnd:=xd hnd;have hinj:∀ i j (hi:i<m.length) (hj:j<m.length),m[i].1=m[j].1→i=j:=by
  intro i j hi hj e;have h1:(m.map (·.1))[i]'(by simpa using hi)=(m.map (·.1))[j]'(by simpa using hj):=by simpa using e
  exact (List.getElem_inj hnd).1 h1
 refine D3 (FA (fun seen s=>s.Nodup∧s.length≤seen.length∧∀ x,x∈s↔∃ i,i∈seen∧∃ h:i<m.length,m[i].1=x∧m[i].2≠0) (fun s e=>bif e.2==0 then s else s++[e.1]) ?_ ?_ m.length [] [] List.nodup_nil (fun i hi=>by simp at hi) (by simp) ⟨List.nodup_nil,by simp,fun x=>by simp⟩)
 ·rintro seen s i hi hs1 hs2 hs3 ⟨i1,i2,i3⟩;have hsl:seen.length≤m.length:=by have:=si seen (List.range m.length) hs1 (fun x hx=>by simpa using hs3 x hx);simpa using this
  cases hz:m[i].2==0 with
  | true =>
   have hz':m[i].2=0:=by simpa using hz
   refine ⟨rfl,i1,by simp;omega,fun x => ?_⟩;simp only [cond_true];rw [i3];constructor
   ·rintro ⟨j,h1,h2⟩;exact ⟨j,by simp [h1],h2⟩
   ·rintro ⟨j,h1,h2,h3,h4⟩;rcases List.mem_append.1 h1 with h1 | h1
    ·exact ⟨j,h1,h2,h3,h4⟩
    ·have:j=i:=by simpa using h1
     subst this;exact absurd hz' h4
  | false =>
   have hz':m[i].2≠0:=by simpa using hz
   simp only [cond_false];rw [be (by omega)];refine ⟨rfl,?_,by simp;omega,fun x => ?_⟩
   ·rw [List.nodup_append];refine ⟨i1,by simp,fun a ha b hb => ?_⟩;have hb:b=m[i].1:=by simpa using hb
    subst hb;intro e;obtain ⟨j,h1,h2,h3,_⟩:=(i3 a).1 ha;exact hs2 (hinj j i h2 hi (h3.trans e) ▸ h1)
   ·rw [List.mem_append,i3];constructor
    ·rintro (⟨j,h1,h2⟩ | h)
     ·exact ⟨j,by simp [h1],h2⟩
     ·have h:x=m[i].1:=by simpa using h
      exact ⟨i,by simp,hi,h.symm,hz'⟩
    ·rintro ⟨j,h1,h2,h3,h4⟩;rcases List.mem_append.1 h1 with h1 | h1
     ·exact .inl ⟨j,h1,h2,h3,h4⟩
     ·have:j=i:=by simpa using h1
      subst this;exact .inr (by simp [h3])
 ·rintro seen s hs1 hall hlt ⟨i1,i2,i3⟩;refine hk s ?_;have hn2:(bu m).Nodup:=by unfold bu;exact (List.Sublist.map _ List.filter_sublist).nodup hnd
  refine (List.perm_ext_iff_of_nodup i1 hn2).2 fun x => ?_;rw [i3];unfold bu;simp only [List.mem_map,List.mem_filter,Bool.not_eq_true',beq_eq_false_iff_ne];constructor
  ·rintro ⟨j,_,h2,h3,h4⟩;exact ⟨m[j],⟨List.getElem_mem h2,h4⟩,h3⟩
  ·rintro ⟨e,⟨h1,h2⟩,h3⟩;obtain ⟨j,hj,rfl⟩:=List.getElem_of_mem h1;exact ⟨j,hall j hj,hj,h3,h2⟩
theorem wR (n:Int) (m:List (aq×Int)) (hm:vG m=true):cu n m=some (oz n m (kj (bu m))):=by unfold cu;exact DQ m hm _ _ fun s hp=>Dz n m hm s hp
end Go.Proofs.YtoebmibmmlcfiaaGreatDoor
namespace Go.Sh
section
variable {α σ ε ρ:Type}
def cZ (g:α→σ→kg σ ε ρ) (fin:σ→ε):List α→σ→Out ε ρ
 | [],s=>.brk (fin s)
 | x::l,s=>match g x s with | .go s'=>cZ g fin l s' | .brk e=>.brk e | .ret r=>.ret r
theorem zt {body:Nat→σ→Option (kg σ ε ρ)} {fin:Nat→σ→ε} {f:σ→ε} (d:α) (l:List α) (g:α→σ→kg σ ε ρ) (I:Nat→σ→Prop) (hf:∀ i s,fin i s=f s) :
 ∀ (i:Nat) (s:σ),I i s→(∀ j s,i≤j→j<l.length→I j s→body j s=some (g (l.getD j d) s)∧∀ s',g (l.getD j d) s = .go s'→I (j+1) s') →
 dF body fin (l.length-i) i s=some (cZ g f (l.drop i) s):=by
 intro i s hI h;by_cases hi:i<l.length
 ·obtain ⟨k,hk⟩:∃ k,l.length-i=k+1:=⟨l.length-i-1,by omega⟩;obtain ⟨h1,h2⟩:=h i s (Nat.le_refl _) hi hI;have hx:l.getD i d=l[i]:=by simp [Hh,Hi hi]
  rw [hx] at h1 h2;rw [hk,List.drop_eq_getElem_cons hi];simp only [dF,h1,Option.bind_some,cZ];cases hg:g l[i] s with
  | go s' =>
   have ih:=zt d l g I hf (i+1) s' (h2 s' hg) (fun j s h1 h2=>h j s (by omega) h2);rw [show l.length-(i+1)=k by omega] at ih;exact ih
  | brk e=>rfl
  | ret r=>rfl
 ·rw [show l.length-i=0 by omega,List.drop_eq_nil_of_le (by omega)];simp [dF,cZ,hf]
 termination_by i=>l.length-i
theorem gV {body:Nat→σ→Option (kg σ ε ρ)} {fin:Nat→σ→ε} {f:σ→ε} (d:α) (l:List α) (g:α→σ→kg σ ε ρ) (I:Nat→σ→Prop) (hf:∀ i s,fin i s=f s) (s:σ) (hI:I 0 s)
 (h:∀ j s,j<l.length→I j s→body j s=some (g (l.getD j d) s)∧∀ s',g (l.getD j d) s = .go s'→I (j+1) s') :
 dF body fin (l.length-0) 0 s=some (cZ g f l s):=by
 have:=zt d l g I hf 0 s hI (fun j s _ h1 h2=>h j s h1 h2);simpa using this
theorem ve {β:Type} (p:α→Bool) (f:α→β) (r:α→ρ):∀ (l:List α) (acc:List β),
 cZ (σ:=List β) (ε:=List β) (fun x acc=>bif p x then .go (acc++[f x]) else .ret (r x)) (fun s=>s) l acc = .brk (acc++l.map f)∧l.all p=true ∨
 ∃ x∈l,p x=false∧cZ (σ:=List β) (ε:=List β) (fun x acc=>bif p x then .go (acc++[f x]) else .ret (r x)) (fun s=>s) l acc = .ret (r x)
 | [],acc=>.inl ⟨by simp [cZ],rfl⟩
 | x::l,acc=>by
  cases hp:p x with
  | false=>exact .inr ⟨x,by simp,hp,by simp [cZ,hp]⟩
  | true =>
   simp only [cZ,hp,cond_true];rcases ve p f r l (acc++[f x]) with ⟨h1,h2⟩ | ⟨y,h1,h2,h3⟩
   ·exact .inl ⟨by rw [h1];simp,by rw [List.all_cons,hp,h2];rfl⟩
   ·exact .inr ⟨y,by simp [h1],h2,h3⟩
theorem wW (p:α→Bool) (d:α):∀ l:List α,0≤idxOf p l→(idxOf p l).toNat<l.length∧p (l.getD (idxOf p l).toNat d)=true
 | [],h=>by simp [idxOf] at h
 | x::l,h=>by
  cases hp:p x with
  | true=>simp [idxOf,hp]
  | false =>
   have hge:=sr p l;simp only [idxOf,hp,cond_false] at h ⊢;by_cases hm:idxOf p l = -1
   ·rw [hm] at h;simp at h
   ·have e:(idxOf p l == -1)=false:=by simpa using hm
    rw [e,cond_false];obtain ⟨h1,h2⟩:=wW p d l (by omega);have e2:(idxOf p l+1).toNat=(idxOf p l).toNat+1:=by omega
    rw [e2];exact ⟨by simp;omega,by simpa using h2⟩
theorem oZ (p:α→Bool) (d:α) (l:List α):idxOf p l<(l.length:Int):=by
 by_cases h:0≤idxOf p l
 ·have:=(wW p d l h).1;omega
 ·omega
end
end Go.Sh
namespace Go.Proofs.YtoebmibmmlcfiaaGreatDoor
open Go.Ab Go.Sh
def cW (f:aq→Int):List ay→Int
 | []=>0
 | t::ts=>t.C*f t.Var+cW f ts
def EF (f:aq→Int) (l:Linear):Int:=l.Const+cW f l.Terms
theorem prod_bound {a b A B:Int} (h1 : -A≤a) (h2:a≤A) (h3 : -B≤b) (h4:b≤B) : -(A*B)≤a*b∧a*b≤A*B:=by
 have hA:0≤A:=by omega
 have hB:0≤B:=by omega
 have hn:(a*b).natAbs≤A.natAbs*B.natAbs:=by rw [Int.natAbs_mul];exact Nat.mul_le_mul (by omega) (by omega)
 have e:((A.natAbs*B.natAbs:Nat):Int)=A*B:=by rw [Int.natCast_mul];congr 1<;>omega
 omega
theorem mh {l:Linear} (h:ba l=true):∀ t∈l.Terms,(-1000000≤t.C∧t.C≤1000000)∧fx t.Var=true:=by
 intro t ht;obtain ⟨j,hj,rfl⟩:=List.getElem_of_mem ht;simp only [ba,Hj,Hu] at h;have:=h.1 j (by simpa using hj);have e:EG l j=l.Terms[j]:=by simp [EG,Hh,Hi hj]
 simp only [mY,e,Hj,BF,decide_eq_true_eq] at this;exact ⟨this.2.2.1,this.1⟩
theorem rJ {l:Linear} (h:ba l=true) : -1000000≤l.Const∧l.Const≤1000000:=by simp only [ba,Hj,BF,decide_eq_true_eq] at h;exact h.2.1
theorem wa {s:aq} (h:fx s=true):s.length≤30:=by
 cases s with
 | nil=>simp
 | cons c r =>
  simp only [fx] at h;cases hc:c==95
  ·simp only [hc,cond_false,Hj,decide_eq_true_eq] at h;simp;omega
  ·simp only [hc,cond_true,Hj,decide_eq_true_eq] at h;simp;omega
theorem Cb {l:Linear} (h:ba l=true):Db l :=
 ⟨by have:=du h;omega,fun t ht=>by have:=wa (mh h t ht).2;omega⟩
end Go.Proofs.YtoebmibmmlcfiaaGreatDoor
namespace Go.Sh
def ma (f:aq→Int):List (aq×Int)→Int
 | []=>0
 | (k,c)::m=>c*f k+ma f m
theorem vN (f:aq→Int) (x:aq) (v:Int):∀ m:List (aq×Int),ma f (dE x v m)=ma f m+(v-bC 0 x m)*f x
 | []=>by simp [dE,bC,ma]
 | (k,u)::m=>by
  by_cases h:k=x
  ·subst h;simp only [dE,bC,if_pos,ma];rw [Int.sub_mul];omega
  ·simp only [dE,bC,if_neg h,ma];rw [vN f x v m];omega
theorem xz (x y:aq) (v:Int):∀ m:List (aq×Int),bC 0 y (dE x v m)=if x=y then v else bC 0 y m
 | []=>by simp [dE,bC]
 | (k,u)::m=>by
  by_cases h:k=x
  ·subst h;simp only [dE,bC,if_pos];by_cases h2:k=y
   ·simp [h2]
   ·simp [h2]
  ·simp only [dE,if_neg h,bC];rw [xz x y v m];by_cases h2:k=y
   ·subst h2;simp [Ne.symm h]
   ·simp [h2]
theorem jo (x:aq) (v:Int):∀ m:List (aq×Int),(dE x v m).map (·.1)=if x∈m.map (·.1) then m.map (·.1) else m.map (·.1)++[x]
 | []=>by simp [dE]
 | (k,u)::m=>by
  by_cases h:k=x
  ·subst h;simp [dE]
  ·simp only [dE,if_neg h,List.map_cons,jo x v m,List.mem_cons,Ne.symm h,false_or];split<;>simp
structure Sm (B:Int) (K:Nat) (m:List (aq×Int)):Prop where
 bd:∀ x,-B≤bC 0 x m∧bC 0 x m≤B
 len:m.length≤K
 nd:(m.map (·.1)).Nodup
 key:∀ x∈m.map (·.1),x.length≤1000000
theorem Sm.nil:Sm 0 0 []:=⟨fun x=>by simp [bC],by simp,by simp,by simp⟩
theorem Sm.put {B:Int} {K:Nat} {m:List (aq×Int)} (h:Sm B K m) {x:aq} {v:Int} {B':Int} (hx:x.length≤1000000) (hB:B≤B') (h1 : -B'≤v) (h2:v≤B'):Sm B' (K+1) (dE x v m):=by
 refine ⟨fun y => ?_,?_,?_,fun y hy => ?_⟩
 ·rw [xz];split
  ·exact ⟨h1,h2⟩
  ·have:=h.bd y;omega
 ·have e:=congrArg List.length (jo x v m);have:=h.len;split at e<;>simp at e<;>omega
 ·rw [jo];split
  ·exact h.nd
  ·rename_i hn;rw [List.nodup_append];exact ⟨h.nd,by simp,fun a ha b hb=>by
    have:b=x:=by simpa using hb
    subst this;intro e;subst e;exact hn ha⟩
 ·rw [jo] at hy;split at hy
  ·exact h.key y hy
  ·rcases List.mem_append.1 hy with hy | hy
   ·exact h.key y hy
   ·have:y=x:=by simpa using hy
    subst this;exact hx
theorem Sm.mono {B B':Int} {K K':Nat} {m:List (aq×Int)} (h:Sm B K m) (h1:B≤B') (h2:K≤K'):Sm B' K' m :=
 ⟨fun x=>by have:=h.bd x;omega,by have:=h.len;omega,h.nd,h.key⟩
theorem xB:∀ {l:List aq},l.Nodup→sB l=true
 | [],_=>rfl
 | x::l,h=>by rw [List.nodup_cons] at h;simp only [sB,Hj,Bool.not_eq_true',List.any_eq_false,beq_iff_eq];exact ⟨fun y hy e=>h.1 (e ▸ hy),xB h.2⟩
end Go.Sh
namespace Go.Proofs.YtoebmibmmlcfiaaGreatDoor
open Go.Ab Go.Sh
theorem E5 {B:Int} {K:Nat} {m:List (aq×Int)} (h:Sm B K m) (hK:K≤1000):vG m=true:=by simp only [vG,Hj,decide_eq_true_eq,Hu];refine ⟨xB h.nd,by have:=h.len;omega,fun e he=>h.key e.1 (List.mem_map.2 ⟨e,he,rfl⟩)⟩
def Ai (k:Int) (t:ay) (m:List (aq×Int)):List (aq×Int):=dE t.Var (bg ((bC 0 t.Var m)+(bg (k*t.C)))) m
def AU (l:Linear) (k:Int) (n:Int) (m:List (aq×Int)):Int×List (aq×Int):=(bg (n+bg (k*l.Const)),l.Terms.foldl (fun m t=>Ai k t m) m)
theorem r4 (l:Linear) (k n:Int) (m:List (aq×Int)):dt l k n m=some (AU l k n m):=by
 unfold dt;obtain ⟨s',e1,e2,_⟩:=A8 (σ:=List (aq×Int)) (ε:=(Int×(List (aq×Int)))) (ρ:=(Int×(List (aq×Int)))) (fin:=fun _ s41=>((bg (n+(bg (k*l.Const)))),s41))
  (body:=fun i42 s41 =>
  some (.go (dE ((l.Terms.getD i42 ⟨[],0⟩).Var) (bg ((bC 0 ((l.Terms.getD i42 ⟨[],0⟩).Var) s41)+(bg (k*((l.Terms.getD i42 ⟨[],0⟩).C))))) s41)))
  (fun j m=>Ai k (l.Terms.getD j ⟨[],0⟩) m) (fun _ _=>True) (l.Terms.length-0) 0 m trivial (fun j s _ _ _=>⟨rfl,trivial⟩)
 rw [e1];simp only [Option.bind_some,Sh.aft,AU,Hr];rw [e2];have:=rh (fun (m:List (aq×Int)) (t:ay)=>Ai k t m) ⟨[],0⟩ l.Terms 0 m;rw [this];rfl
theorem yW (a b c:Int):a*b*c=a*(b*c):=Int.mul_assoc a b c
theorem yF (f:aq→Int) (k:Int) (hk : -1000000≤k∧k≤1000000):∀ (ts:List ay) (m:List (aq×Int)) (B:Int) (K:Nat),(∀ t∈ts,(-1000000≤t.C∧t.C≤1000000)∧t.Var.length≤1000000) →
 Sm B K m→0≤B→B+(ts.length:Int)*1000000000000≤9000000000000000000 →
 Sm (B+(ts.length:Int)*1000000000000) (K+ts.length) (ts.foldl (fun m t=>Ai k t m) m)∧ma f (ts.foldl (fun m t=>Ai k t m) m)=ma f m+k*cW f ts
 | [],m,B,K,_,hs,_,_=>⟨by simpa using hs,by simp [cW]⟩
 | t::ts,m,B,K,hC,hs,hB,hle=>by
  obtain ⟨⟨c1,c2⟩,hv⟩:=hC t (by simp);obtain ⟨b1,b2⟩:=prod_bound hk.1 hk.2 c1 c2;have hlen:(((t::ts).length:Nat):Int)=(ts.length:Int)+1:=by simp
  rw [hlen] at hle;have hle':B+((ts.length:Int)*1000000000000+1000000000000)≤9000000000000000000:=by rw [Int.add_mul] at hle;omega
  have hp:0≤(ts.length:Int)*1000000000000:=by omega
  obtain ⟨m1,m2⟩:=hs.bd t.Var;have e:Ai k t m=dE t.Var (bC 0 t.Var m+k*t.C) m:=by unfold Ai;rw [jc (n:=k*t.C) (by unfold tu;omega),jc (by unfold tu;omega)]
  have hs1:=hs.put (v:=bC 0 t.Var m+k*t.C) (B':=B+1000000000000) hv (by omega) (by omega) (by omega);rw [← e] at hs1;obtain ⟨g1,g2⟩:=yF f k hk ts (Ai k t m) (B+1000000000000) (K+1) (fun x hx=>hC x (by simp [hx])) hs1 (by omega) (by omega);rw [List.foldl_cons,hlen];refine ⟨?_,?_⟩
  ·have e1:B+1000000000000+(ts.length:Int)*1000000000000=B+((ts.length:Int)+1)*1000000000000:=by rw [Int.add_mul];omega
   have e2:K+1+ts.length=K+(t::ts).length:=by simp;omega
   rw [← e1,← e2];exact g1
  ·rw [g2,e,vN];simp only [cW];rw [Int.mul_add,show bC 0 t.Var m+k*t.C-bC 0 t.Var m=k*t.C by omega,yW];omega
theorem xl (f:aq→Int) {a b:List ay} (h:a.Perm b):cW f a=cW f b:=by
 induction h with
 | nil=>rfl
 | cons x _ ih=>simp only [cW,ih]
 | swap x y l=>simp only [cW];omega
 | trans _ _ h1 h2=>exact h1.trans h2
theorem CN {k x:aq} {u:Int} {m:List (aq×Int)} (h:k≠x):bC 0 x ((k,u)::m)=bC 0 x m:=by simp [bC,h]
theorem CO (m:List (aq×Int)) {x:aq} (h:x∈bu m):x∈m.map (·.1):=by unfold bu at h;obtain ⟨e,he,rfl⟩:=List.mem_map.1 h;exact List.mem_map.2 ⟨e,(List.mem_filter.1 he).1,rfl⟩
theorem s7 (f:aq→Int):∀ m:List (aq×Int),(m.map (·.1)).Nodup→cW f ((bu m).map fun k=>ay.mk k (bC 0 k m))=ma f m
 | [],_=>rfl
 | (k,u)::m,h=>by
  rw [List.map_cons,List.nodup_cons] at h;have ih:=s7 f m h.2;have hskip:(bu m).map (fun x=>ay.mk x (bC 0 x ((k,u)::m)))=(bu m).map fun x=>ay.mk x (bC 0 x m):=by refine List.map_congr_left fun x hx => ?_;rw [CN fun e=>h.1 (by subst e;exact CO m hx)]
  by_cases hu:u=0
  ·subst hu;have e:bu ((k,(0:Int))::m)=bu m:=by simp [bu]
   rw [e,hskip,ih];simp [ma]
  ·have e:bu ((k,u)::m)=k::bu m:=by simp [bu,hu]
   rw [e,List.map_cons,hskip];simp only [cW,ih,ma];simp [bC]
theorem C6 {n:Int} {m:List (aq×Int)} {B:Int} {K:Nat} (hs:Sm B K m) (f:aq→Int) (h:(oz n m (kj (bu m))).2=0):ba (oz n m (kj (bu m))).1=true∧EF f (oz n m (kj (bu m))).1=n+ma f m:=by
 unfold oz at h ⊢;cases hv:ba (Linear.mk n ((kj (bu m)).map fun k=>ay.mk k (bC 0 k m))) with
 | false=>rw [hv] at h;simp at h
 | true =>
  simp only [cond_true,EF];refine ⟨hv,?_⟩;rw [xl f ((fE (bu m)).map _),s7 f m hs.nd]
def zd (bs:List Bind) (t:ay) (s:Int×List (aq×Int)):kg (Int×List (aq×Int)) (Int×List (aq×Int)) (Linear×Int) :=
 bif decide (idxOf (eP 1 t.Var) bs<0) then .go (s.1,dE t.Var (bg (bC 0 t.Var s.2+t.C)) s.2) else
 bif ba (bs.getD (idxOf (eP 1 t.Var) bs).toNat iN).Dim then .go (AU (bs.getD (idxOf (eP 1 t.Var) bs).toNat iN).Dim t.C s.1 s.2) else .ret ((Linear.mk 0 []),1)
def sv (bs:List Bind) (f:aq→Int) (v:aq):Int:=bif decide (idxOf (eP 1 v) bs<0) then f v else EF f (bs.getD (idxOf (eP 1 v) bs).toNat iN).Dim
theorem CT (bs:List Bind) (v:aq) (c:Int):bL bs v c=some (idxOf (eP 1 v) bs):=by
 unfold bL;rw [lQ (f:=fun j=>((j:Nat):Int)) (fun j=>eP 1 v (bs.getD j iN)) _ _ () (fun j u _ _=>by
  unfold iu eP;simp only;cases (bs.getD j iN).Kind==1
  ·rfl
  ·cases (bs.getD j iN).Var==v<;>rfl)]
 exact rW bs (eP 1 v) _ (kH (eP 1 v) iN bs)
def D9 (o:Out (Int×List (aq×Int)) (Linear×Int)):Linear×Int:=match o with | .brk u=>oz u.1 u.2 (kj (bu u.2)) | .ret r=>r
def nD (bs:List Bind) (l:Linear):Linear×Int:=bif ba l then D9 (cZ (zd bs) (fun s=>s) l.Terms (l.Const,[])) else ((Linear.mk 0 []),1)
def St (j:Nat) (c:Int) (s:Int×List (aq×Int)):Prop:=Sm ((j:Int)*12000000000000) (12*j) s.2 ∧ -(1000000+(j:Int)*1000000000000)≤s.1∧s.1≤1000000+(j:Int)*1000000000000
theorem yM (bs:List Bind) (f:aq→Int) (t:ay) (c:Int) (j:Nat) (hj:j<12) (ht:(-1000000≤t.C∧t.C≤1000000)∧fx t.Var=true) (s s':Int×List (aq×Int)) (hs:St j c s) (h:zd bs t s = .go s') :
 St (j+1) c s'∧s'.1+ma f s'.2=s.1+ma f s.2+t.C*sv bs f t.Var:=by
 have hn:=wa ht.2;have ej:((j+1:Nat):Int)*12000000000000=(j:Int)*12000000000000+12000000000000:=by omega
 obtain ⟨h1,h2,h3⟩:=hs;unfold zd at h;by_cases h0:idxOf (eP 1 t.Var) bs<0
 ·rw [Ho h0,cond_true] at h;have e:s'=(s.1,dE t.Var (bg (bC 0 t.Var s.2+t.C)) s.2):=by injection h with h;exact h.symm
  obtain ⟨m1,m2⟩:=h1.bd t.Var;have hw:bg (bC 0 t.Var s.2+t.C)=bC 0 t.Var s.2+t.C:=jc (by unfold tu;omega);rw [hw] at e;subst e;refine ⟨⟨(h1.put (v:=bC 0 t.Var s.2+t.C) (B':=((j+1:Nat):Int)*12000000000000) (by omega) (by omega) (by omega) (by omega)).mono (Int.le_refl _) (by omega),by simp only;omega,by simp only;omega⟩,?_⟩;simp only;rw [vN,show bC 0 t.Var s.2+t.C-bC 0 t.Var s.2=t.C by omega];simp only [sv,Ho h0,cond_true];omega
 ·rw [Hn h0,cond_false] at h;generalize hD:(bs.getD (idxOf (eP 1 t.Var) bs).toNat iN).Dim=D at h;cases hv:ba D with
  | false=>rw [hv,cond_false] at h;cases h
  | true =>
   rw [hv,cond_true] at h;have e:s'=AU D t.C s.1 s.2:=by injection h with h;exact h.symm
   subst e;obtain ⟨k1,k2⟩:=rJ hv;have hl:=du hv;obtain ⟨b1,b2⟩:=prod_bound ht.1.1 ht.1.2 k1 k2;obtain ⟨g1,g2⟩:=yF f t.C ht.1 D.Terms s.2 ((j:Int)*12000000000000) (12*j) (fun x hx=>⟨(mh hv x hx).1,by have:=wa (mh hv x hx).2;omega⟩) h1 (by omega) (by omega);have hw:bg (s.1+bg (t.C*D.Const))=s.1+t.C*D.Const:=by rw [jc (n:=t.C*D.Const) (by unfold tu;omega),jc (by unfold tu;omega)]
   refine ⟨⟨g1.mono (by omega) (by omega),?_,?_⟩,?_⟩
   ·simp only [AU,hw];omega
   ·simp only [AU,hw];omega
   ·simp only [AU,hw,g2,sv,Hn h0,cond_false,hD,EF];rw [Int.mul_add];omega
theorem B8 (bs:List Bind) (f:aq→Int) (c:Int) (ts:List ay):∀ (j:Nat) (s:Int×List (aq×Int)),j+ts.length≤12→(∀ t∈ts,(-1000000≤t.C∧t.C≤1000000)∧fx t.Var=true)→St j c s →
 (∃ u,cZ (zd bs) (fun s=>s) ts s = .brk u∧St (j+ts.length) c u∧u.1+ma f u.2=s.1+ma f s.2+cW (sv bs f) ts)∨cZ (zd bs) (fun s=>s) ts s = .ret ((Linear.mk 0 []),1):=by
 induction ts with
 | nil=>exact fun j s _ _ hs=>.inl ⟨s,rfl,hs,by simp [cW]⟩
 | cons t ts ih =>
  intro j s hj hC hs;have hj':j+1+ts.length≤12:=by simp at hj;omega
  have hret:∀ r,zd bs t s = .ret r→r=((Linear.mk 0 []),1):=by intro r hg;unfold zd at hg;cases h1:decide (idxOf (eP 1 t.Var) bs<0)<;>cases h2:ba (bs.getD (idxOf (eP 1 t.Var) bs).toNat iN).Dim<;>rw [h1,h2] at hg<;>first | (injection hg with hg;exact hg.symm) | cases hg
  have hbrk:∀ e,zd bs t s ≠ .brk e:=by intro e hg;unfold zd at hg;cases h1:decide (idxOf (eP 1 t.Var) bs<0)<;>cases h2:ba (bs.getD (idxOf (eP 1 t.Var) bs).toNat iN).Dim<;>rw [h1,h2] at hg<;>cases hg
  have hgo:=fun s'=>yM bs f t c j (by simp at hj;omega) (hC t (by simp)) s s';simp only [cZ];generalize zd bs t s=R at hret hbrk hgo;cases R with
  | go s' =>
   obtain ⟨h1,h2⟩:=hgo s' hs rfl;rcases ih (j+1) s' hj' (fun x hx=>hC x (by simp [hx])) h1 with ⟨u,e1,e2,e3⟩ | e
   ·refine .inl ⟨u,e1,?_,?_⟩
    ·rw [show j+(t::ts).length=j+1+ts.length by simp;omega];exact e2
    ·rw [e3,h2];simp only [cW];omega
   ·exact .inr e
  | brk e=>exact absurd rfl (hbrk e)
  | ret r=>exact .inr (by rw [hret r rfl])
theorem G4 (l:Linear) (h:ba l=true):St 0 l.Const (l.Const,[]):=by obtain ⟨k1,k2⟩:=rJ h;exact ⟨Sm.nil,by simp only;omega,by simp only;omega⟩
theorem uj (l:Linear) (bs:List Bind) (h:Db l) (hb:∀ b∈bs,okB b):fU l bs=some (nD bs l):=by
 unfold fU nD;rw [e7 l h.1 h.2];simp only [Option.bind_some];cases hv:ba l with
 | false=>rfl
 | true =>
  simp only [cond_true];rw [gV (fin:=fun _ s=>(s.1,s.2)) (f:=fun s=>s) ⟨[],0⟩ l.Terms (zd bs) (fun _ _=>True) (fun _ _=>rfl) (l.Const,[]) trivial (fun j s hj _=>⟨by
   rw [CT];simp only [Option.bind_some,zd];generalize ht:l.Terms.getD j ⟨[],0⟩=t;by_cases h0:idxOf (eP 1 t.Var) bs<0
   ·rw [Ho h0];rfl
   ·rw [Hn h0];simp only [cond_false];rw [be ⟨by omega,oZ _ iN _⟩];have hk:=uW hb (idxOf (eP 1 t.Var) bs).toNat;rw [mu,e7 _ hk.2.1.1 hk.2.1.2];simp only [Option.bind_some];cases ba (bs.getD (idxOf (eP 1 t.Var) bs).toNat iN).Dim with
    | false=>rfl
    | true=>simp only [cond_true];rw [r4];rfl,fun _ _=>trivial⟩)]
  rcases B8 bs (fun _=>0) l.Const l.Terms 0 (l.Const,[]) (by have:=du hv;omega) (mh hv) (G4 l hv) with ⟨u,e1,e2,_⟩ | e
  ·rw [e1];simp only [Option.bind_some,Sh.aft,D9];rw [wR u.1 u.2 (E5 e2.1 (by have:=du hv;omega))];rfl
  ·rw [e];rfl
theorem FU {bs:List Bind} {l:Linear} (h:(nD bs l).2=0) (f:aq→Int):ba l=true∧ba (nD bs l).1=true∧EF f (nD bs l).1=EF (sv bs f) l:=by
 cases hv:ba l with
 | false=>unfold nD at h;rw [hv] at h;simp at h
 | true =>
  unfold nD at h ⊢;rw [hv,cond_true] at h ⊢;rcases B8 bs f l.Const l.Terms 0 (l.Const,[]) (by have:=du hv;omega) (mh hv) (G4 l hv) with ⟨u,e1,e2,e3⟩ | e
  ·rw [e1] at h ⊢;simp only [D9] at h ⊢;obtain ⟨g1,g2⟩:=C6 e2.1 f h;refine ⟨by simp,g1,?_⟩;rw [g2,e3];simp only [ma,EF];omega
  ·rw [e] at h;simp [D9] at h
end Go.Proofs.YtoebmibmmlcfiaaGreatDoor
namespace Go.Sh
theorem sT {α ρ:Type}:∀ (l acc:List α),cZ (ρ:=ρ) (fun x acc=>kg.go (acc++[x])) (fun s=>s) l acc = .brk (acc++l)
 | [],acc=>by simp [cZ]
 | x::l,acc=>by simp only [cZ];rw [sT l];simp
end Go.Sh
namespace Go.Proofs.YtoebmibmmlcfiaaGreatDoor
open Go.Ab Go.Sh
theorem Ex (l:List ay) (h:l.length≤1000000):cE l=some l:=by unfold cE;rw [be (by omega)];exact Ct fun e=>by rw [e]
theorem oX (ls:List Linear) (h:∀ l∈ls,Db l) (hl:ls.length≤1000000):dT ls=some ls:=by
 unfold dT;rw [gV (fin:=fun _ s=>s) (f:=fun s=>s) ⟨0,[]⟩ ls (fun x acc=>kg.go (acc++[x])) (fun j s=>s.length=j) (fun _ _=>rfl) [] rfl (fun j s hj hI=>⟨by
  rw [Ex _ (sx h j).1];simp only [Option.bind_some];rw [be (by omega)],fun s' e=>by injection e with e;subst e;simp [hI]⟩)]
 rw [sT];simp [dq]
theorem wE (row:aq) (ls:List Linear) (h:∀ l∈ls,Db l):jg row ls=some (bif decide (ls.length≤6) then (Shape.mk row ls,0) else (Shape.mk [] [],3)):=by
 unfold jg;by_cases h6:ls.length≤6
 ·rw [Ho h6,Hn (by omega),cond_false,oX ls h (by omega)];rfl
 ·rw [Hn h6,Ho (by omega)];rfl
def rowOf (bs:List Bind) (s:Shape):aq×List Linear :=
 bif (bif s.Row.isEmpty then false else decide (idxOf (eP 2 s.Row) bs≥0)) then ((bs.getD (idxOf (eP 2 s.Row) bs).toNat iN).Row.Row,(bs.getD (idxOf (eP 2 s.Row) bs).toNat iN).Row.Dims) else (s.Row,[])
def Fv (bs:List Bind) (s:Shape):Out (List Linear) (Shape×Int) :=
 cZ (fun x acc=>bif (nD bs x).2==0 then .go (acc++[(nD bs x).1]) else .ret (Shape.mk [] [],(nD bs x).2)) (fun s=>s) s.Dims (rowOf bs s).2
def GY (row:aq) (o:Out (List Linear) (Shape×Int)):Shape×Int:=match o with | .brk ds=>(bif decide (ds.length≤6) then (Shape.mk row ds,0) else (Shape.mk [] [],3)) | .ret r=>r
def Fs (bs:List Bind) (s:Shape):Shape×Int:=bif jt s then (bif fY bs then GY (rowOf bs s).1 (Fv bs s) else (Shape.mk [] [],1)) else (Shape.mk [] [],1)
theorem Cc (bs:List Bind) (s:Shape):(Fv bs s = .brk ((rowOf bs s).2++s.Dims.map fun d=>(nD bs d).1)∧∀ d∈s.Dims,(nD bs d).2=0)∨∃ d∈s.Dims,(nD bs d).2≠0∧Fv bs s = .ret (Shape.mk [] [],(nD bs d).2):=by
 unfold Fv;rcases ve (ρ:=Shape×Int) (fun d=>(nD bs d).2==0) (fun d=>(nD bs d).1) (fun d=>(Shape.mk [] [],(nD bs d).2)) s.Dims (rowOf bs s).2 with ⟨h1,h2⟩ | ⟨d,h1,h2,h3⟩
 ·exact .inl ⟨h1,fun d hd=>by simpa using Hu.1 h2 d hd⟩
 ·exact .inr ⟨d,h1,by simpa using h2,h3⟩
theorem zQ (bs:List Bind) (s:Shape) (hs:Dd s) (hb:∀ b∈bs,okB b∧b.Row.Dims.length≤8):(rowOf bs s).1.length≤1000000∧(∀ l∈(rowOf bs s).2,Db l)∧(rowOf bs s).2.length≤8:=by
 unfold rowOf;cases (bif s.Row.isEmpty then false else decide (idxOf (eP 2 s.Row) bs≥0))
 ·exact ⟨hs.1,fun l hl=>by simp at hl,by simp⟩
 ·have h1:=uW (fun b hb'=>(hb b hb').1) (idxOf (eP 2 s.Row) bs).toNat;refine ⟨h1.2.2.1,h1.2.2.2,?_⟩;simp only [cond_true];rw [Hh];cases hx:bs[(idxOf (eP 2 s.Row) bs).toNat]? with
  | none=>simp
  | some b=>exact (hb b (List.mem_of_getElem? hx)).2
theorem FT (bs:List Bind) (s:Shape) (hs:Dd s) (hb:∀ b∈bs,okB b∧b.Row.Dims.length≤8) {ds:List Linear} (h:Fv bs s = .brk ds):∀ l∈ds,Db l:=by
 rcases Cc bs s with ⟨e,h2⟩ | ⟨d,_,_,e⟩
 ·rw [e] at h;injection h with h
  subst h;intro l hl;rcases List.mem_append.1 hl with hl | hl
  ·exact (zQ bs s hs hb).2.1 l hl
  ·obtain ⟨d,hd,rfl⟩:=List.mem_map.1 hl;exact Cb (FU (h2 d hd) (fun _=>0)).2.1
 ·rw [e] at h;cases h
theorem uK (s:Shape) (bs:List Bind) (hs:Dd s) (hb:∀ b∈bs,okB b∧b.Row.Dims.length≤8):gW s bs=some (Fs bs s):=by
 have hb1:∀ b∈bs,okB b:=fun b h=>(hb b h).1;unfold gW Fs;rw [lA s hs,gg bs hb1];simp only [Option.bind_some];cases hv:jt s with
 | false=>rfl
 | true =>
  cases hvb:fY bs with
  | false=>rfl
  | true =>
   simp only [cond_true];rw [qW];simp only [Option.bind_some];rw [mG];have hr:=zQ bs s hs hb;have hrow:((bif s.Row.isEmpty then some false else some (decide (idxOf (eP 2 s.Row) bs≥0)):Option Bool).bind fun v25 =>
   ((
    bif v25 then (
     cb (0≤idxOf (eP 2 s.Row) bs∧idxOf (eP 2 s.Row) bs<(bs.length:Int)) <|
     (dT (((bs.getD (idxOf (eP 2 s.Row) bs).toNat (⟨0,[],⟨0,[]⟩,⟨[],[]⟩,[]⟩)).Row).Dims)).bind fun y53 =>
     some ((((bs.getD (idxOf (eP 2 s.Row) bs).toNat (⟨0,[],⟨0,[]⟩,⟨[],[]⟩,[]⟩)).Row).Row),y53)
    ) else (
     some (s.Row,[])
    )
   ):Option (aq×(List Linear))))=some (rowOf bs s):=by
    unfold rowOf at hr ⊢;cases hre:s.Row.isEmpty with
    | true=>rfl
    | false =>
     simp only [hre,cond_false,Option.bind_some] at hr ⊢;by_cases h0:idxOf (eP 2 s.Row) bs≥0
     ·rw [Ho h0] at hr ⊢;simp only [cond_true] at hr ⊢;rw [be ⟨h0,oZ _ iN _⟩,oX _ hr.2.1 (by omega)];rfl
     ·rw [Hn h0];rfl
   have key:∀ (k:aq×List Linear→Option (Shape×Int)),((bif s.Row.isEmpty then some false else some (decide (idxOf (eP 2 s.Row) bs≥0)):Option Bool).bind fun v25 =>
   ((
    bif v25 then (
     cb (0≤idxOf (eP 2 s.Row) bs∧idxOf (eP 2 s.Row) bs<(bs.length:Int)) <|
     (dT (((bs.getD (idxOf (eP 2 s.Row) bs).toNat (⟨0,[],⟨0,[]⟩,⟨[],[]⟩,[]⟩)).Row).Dims)).bind fun y53 =>
     some ((((bs.getD (idxOf (eP 2 s.Row) bs).toNat (⟨0,[],⟨0,[]⟩,⟨[],[]⟩,[]⟩)).Row).Row),y53)
    ) else (
     some (s.Row,[])
    )
   ):Option (aq×(List Linear))).bind k)=k (rowOf bs s):=by intro k;rw [← Option.bind_assoc,hrow];rfl
   refine (key _).trans ?_;have hd6:=(tn hv).1;rw [gV (fin:=fun _ s=>s) (f:=fun s=>s) ⟨0,[]⟩ s.Dims (fun x acc=>bif (nD bs x).2==0 then .go (acc++[(nD bs x).1]) else .ret (Shape.mk [] [],(nD bs x).2)) (fun j acc=>acc.length≤8+j) (fun _ _=>rfl) (rowOf bs s).2 hr.2.2 (fun j acc hj hI=>⟨by
    rw [mu,uj _ bs (sx hs.2 j) hb1];simp only [Option.bind_some];cases (nD bs (s.Dims.getD j ⟨0,[]⟩)).2==0
    ·rfl
    ·simp only [cond_true];rw [be (by omega)],fun s' e=>by
    cases hz:(nD bs (s.Dims.getD j ⟨0,[]⟩)).2==0
    ·rw [hz] at e;cases e
    ·rw [hz,cond_true] at e;injection e with e;subst e;simp;omega⟩)]
   show ((some (Fv bs s)).bind (Sh.aft fun u140=>(jg (rowOf bs s).1 u140).bind fun y143=>some (y143.1,y143.2)))=_;cases hD:Fv bs s with
   | ret r=>rfl
   | brk ds =>
    simp only [Option.bind_some,Sh.aft,GY];rw [wE _ ds (FT bs s hs hb hD)];rfl
end Go.Proofs.YtoebmibmmlcfiaaGreatDoor
namespace Go.Sh
theorem zk {α σ ε ρ:Type} (g:σ→α→σ):∀ (l:List α) (s:σ),cZ (ε:=σ) (ρ:=ρ) (fun x s=>kg.go (g s x)) (fun s=>s) l s = .brk (l.foldl g s)
 | [],s=>rfl
 | x::l,s=>by simp only [cZ];rw [zk (ε:=ε) g l];rfl
end Go.Sh
namespace Go.Proofs.YtoebmibmmlcfiaaGreatDoor
open Go.Ab Go.Sh
end Go.Proofs.YtoebmibmmlcfiaaGreatDoor
namespace Go.Sh
structure Gm (K:Nat) (m:List (aq×Int)):Prop where
 len:m.length≤K
 nd:(m.map (·.1)).Nodup
 key:∀ x∈m.map (·.1),x.length≤1000000
theorem Gm.nil:Gm 0 []:=⟨by simp,by simp,by simp⟩
theorem Gm.put {K:Nat} {m:List (aq×Int)} (h:Gm K m) {x:aq} (v:Int) (hx:x.length≤1000000):Gm (K+1) (dE x v m):=by
 refine ⟨?_,?_,fun y hy => ?_⟩
 ·have e:=congrArg List.length (jo x v m);have:=h.len;split at e<;>simp at e<;>omega
 ·rw [jo];split
  ·exact h.nd
  ·rename_i hn;rw [List.nodup_append];exact ⟨h.nd,by simp,fun a ha b hb=>by
    have:b=x:=by simpa using hb
    subst this;intro e;subst e;exact hn ha⟩
 ·rw [jo] at hy;split at hy
  ·exact h.key y hy
  ·rcases List.mem_append.1 hy with hy | hy
   ·exact h.key y hy
   ·have:y=x:=by simpa using hy
    subst this;exact hx
theorem Gm.mono {K K':Nat} {m:List (aq×Int)} (h:Gm K m) (h1:K≤K'):Gm K' m:=⟨by have:=h.len;omega,h.nd,h.key⟩
end Go.Sh
namespace Go.Proofs.YtoebmibmmlcfiaaGreatDoor
open Go.Ab Go.Sh
end Go.Proofs.YtoebmibmmlcfiaaGreatDoor
namespace Go.Sh
theorem tj:∀ x:aq,Op.bytesLess x x=false
 | []=>rfl
 | a::x=>by simp [Op.bytesLess,tj x]
theorem nK:∀ x y z:aq,Op.bytesLess x y=true→Op.bytesLess y z=true→Op.bytesLess x z=true
 | _,[],_,h,_=>by simp [Op.bytesLess] at h
 | _,_::_,[],_,h=>by simp [Op.bytesLess] at h
 | [],_::_,_::_,_,_=>rfl
 | a::x,b::y,c::z,h1,h2=>by
  simp only [Op.bytesLess,Bool.or_eq_true,Hj,decide_eq_true_eq,beq_iff_eq] at h1 h2 ⊢;rcases h1 with h1 | ⟨rfl,h1⟩
  ·rcases h2 with h2 | ⟨rfl,h2⟩
   ·exact .inl (UInt8.lt_trans h1 h2)
   ·exact .inl h1
  ·rcases h2 with h2 | ⟨rfl,h2⟩
   ·exact .inl h2
   ·exact .inr ⟨rfl,nK x y z h1 h2⟩
theorem BN:∀ x y:aq,x<y↔Op.bytesLess x y=true
 | x,[]=>by simp [Op.bytesLess]
 | [],b::y=>by simp [Op.bytesLess]
 | a::x,b::y=>by rw [List.cons_lt_cons_iff,BN x y];simp only [Op.bytesLess,Bool.or_eq_true,Hj,decide_eq_true_eq,beq_iff_eq]
theorem GA {x y:aq} (h:Op.bytesLess x y=true):wi x y=true:=by simp only [wi,decide_eq_true_eq];show ¬ y<x;rw [BN];intro h2;have:=nK _ _ _ h h2;rw [tj] at this;cases this
end Go.Sh
namespace Go.Proofs.YtoebmibmmlcfiaaGreatDoor
open Go.Ab Go.Sh
end Go.Proofs.YtoebmibmmlcfiaaGreatDoor
namespace Go.Sh
def BT (x s:aq):Prop:=∃ p,x=p++s
def pos (x s:aq):Int:=((x.length-s.length:Nat):Int)
theorem BT.len {x s:aq} (h:BT x s):s.length≤x.length:=by obtain ⟨p,rfl⟩:=h;simp
theorem BT.drop {x s:aq} (h:BT x s):x.drop (x.length-s.length)=s:=by obtain ⟨p,rfl⟩:=h;simp
theorem BT.refl (x:aq):BT x x:=⟨[],rfl⟩
theorem BT.trans {x s r:aq} (h:BT x s) (h2:BT s r):BT x r:=by obtain ⟨p,rfl⟩:=h;obtain ⟨q,rfl⟩:=h2;exact ⟨p++q,by simp⟩
theorem BT.succ {x s:aq} {c:UInt8} (h:BT x (c::s)):pos x (c::s)+1=pos x s:=by have:=h.len;unfold pos;simp at this ⊢;omega
theorem BT.lt {x s:aq} {c:UInt8} (h:BT x (c::s)):0≤pos x (c::s)∧pos x (c::s)<(x.length:Int):=by have:=h.len;unfold pos;simp at this ⊢;omega
end Go.Sh
namespace Go.Proofs.YtoebmibmmlcfiaaGreatDoor
open Go.Ab Go.Sh
def qE (v:aq) (c:Int) (t:ay) (s:Bool×List ay):Bool×List ay :=
 let ins := !s.1 && !(Op.bytesLess t.Var v||t.Var==v)
 let out:=bif ins then s.2++[ay.mk v c] else s.2
 (bif t.Var==v then true else (s.1||ins),out++[ay.mk t.Var (bif t.Var==v then bg (t.C+c) else t.C)])
def nz (t:ay):Bool := !(t.C==0)
def qI (ts:List ay) (v:aq) (c:Int):List ay :=
 let r:=ts.foldl (fun s t=>qE v c t s) (false,[])
 bif r.1 then r.2 else r.2++[ay.mk v c]
def lG (ts:List ay) (v:aq) (c:Int):List ay:=(qI ts v c).filter nz
theorem Bv (v:aq) (c:Int):∀ (ts:List ay) (s:Bool×List ay),s.1=true→(ts.foldl (fun s t=>qE v c t s) s).1=true
 | [],s,h=>h
 | t::ts,s,h=>by rw [List.foldl_cons];refine Bv v c ts _ ?_;unfold qE;simp only [h];cases t.Var==v<;>rfl
theorem yi (v:aq) (c:Int):∀ (ts:List ay) (s:Bool×List ay),(ts.foldl (fun s t=>qE v c t s) s).2.length≤s.2.length+ts.length+(bif s.1 then 0 else (bif (ts.foldl (fun s t=>qE v c t s) s).1 then 1 else 0))
 | [],s=>by simp
 | t::ts,s=>by have ih:=yi v c ts (qE v c t s);have hp:=Bv v c ts (qE v c t s);rw [List.foldl_cons];generalize ts.foldl (fun s t=>qE v c t s) (qE v c t s)=r at ih hp ⊢;obtain ⟨s1,s2⟩:=s;unfold qE at ih hp;cases s1<;>cases h1:Op.bytesLess t.Var v<;>cases h2:t.Var==v<;>cases hr:r.1<;>simp [h1,h2,hr] at ih hp ⊢ <;> omega
theorem w5 (ts:List ay) (v:aq) (c:Int):(qI ts v c).length≤ts.length+1:=by
 have:=yi v c ts (false,[]);unfold qI;simp only at this ⊢;cases hr:(ts.foldl (fun s t=>qE v c t s) (false,[])).1 with
 | true=>rw [hr] at this;simp at this ⊢;omega
 | false=>rw [hr] at this;simp at this ⊢;omega
theorem xA (ts:List ay) (v:aq) (c:Int):(lG ts v c).length≤ts.length+1:=Nat.le_trans (List.length_filter_le _ _) (w5 ts v c)
def yu (s1:Int×Int×List ay):Option (kg (Int×Int×List ay) (Int×List ay) Empty) :=
 bif decide (s1.2.1<((s1.2.2.length:Nat):Int)) then (
  cb (0≤s1.2.1∧s1.2.1<(s1.2.2.length:Int)) <|
  cb (s1.2.1.toNat<s1.2.2.length) <|
  ((
   bif (((s1.2.2.getD s1.2.1.toNat ⟨[],0⟩).C)==0) then (
    some (s1.1,s1.2.2)
   ) else (
    cb (0≤s1.1∧s1.1<(s1.2.2.length:Int)) <|
    cb (s1.1.toNat<s1.2.2.length) <|
    some ((bg (s1.1+1)),(s1.2.2.set s1.1.toNat (ay.mk ((s1.2.2.getD s1.2.1.toNat ⟨[],0⟩).Var) ((s1.2.2.getD s1.2.1.toNat ⟨[],0⟩).C))))
   )
  ):Option (Int×(List ay))).bind fun v4 =>
  some (.go (v4.1,(bg (s1.2.1+1)),v4.2))
 ) else (
  some (.brk (s1.1,s1.2.2))
 )
theorem sX (o:List ay) (ho:o.length≤1000000):∀ (n i k:Nat) (l:List ay) (N:Nat),i+n=o.length→n<N→l.length=o.length→k=((o.take i).filter nz).length→l.take k=(o.take i).filter nz→l.drop i=o.drop i→k≤i →
 ∃ l',xv yu N ((k:Int),(i:Int),l)=some (.brk (((o.filter nz).length:Int),l'))∧l'.take (o.filter nz).length=o.filter nz∧l'.length=o.length
 | 0,i,k,l,N,h1,h2,h3,h4,h5,h6,h7=>by
  obtain ⟨N',rfl⟩:∃ j,N=j+1:=⟨N-1,by omega⟩;have hi:i=o.length:=by omega
  rw [hi,List.take_length] at h4 h5;refine ⟨l,?_,by rw [← h4];exact h5,h3⟩;simp only [xv,yu];rw [Hn (by omega),← h4];rfl
 | n+1,i,k,l,N,h1,h2,h3,h4,h5,h6,h7=>by
  obtain ⟨N',rfl⟩:∃ j,N=j+1:=⟨N-1,by omega⟩;have hio:i<o.length:=by omega
  have hil:i<l.length:=by omega
  have hget:l[i]=o[i]:=by
   have e1:=List.drop_eq_getElem_cons hil;have e2:=List.drop_eq_getElem_cons hio;rw [h6,e2] at e1;injection e1 with e1 _
   exact e1.symm
  have hD:l.getD i ⟨[],0⟩=o[i]:=by rw [Hh,Hi hil];exact hget
  have ht:o.take (i+1)=o.take i++[o[i]]:=by rw [List.take_add_one];simp [Hi hio]
  have hdrop:l.drop (i+1)=o.drop (i+1):=by have:=congrArg (List.drop 1) h6;simpa [List.drop_drop,Nat.add_comm] using this
  simp only [xv];have hb:yu ((k:Int),(i:Int),l)=some (.go (bif nz o[i] then (((k+1:Nat):Int),((i+1:Nat):Int),l.set k o[i]) else ((k:Int),((i+1:Nat):Int),l))):=by
   unfold yu;simp only;rw [Ho (by omega)];simp only [cond_true,Int.toNat_natCast];rw [be ⟨by omega,by omega⟩,be (by omega),hD,jc (n:=((i:Int)+1)) (by unfold tu;omega)];unfold nz;cases o[i].C==0 with
   | true=>rfl
   | false =>
    simp only [cond_false,Bool.not_false,cond_true];rw [be ⟨by omega,by omega⟩,be (by omega),jc (by unfold tu;omega)];rfl
  rw [hb];simp only [Option.bind_some,CS];cases hz:nz o[i] with
  | false =>
   simp only [cond_false];have hf:(o.take (i+1)).filter nz=(o.take i).filter nz:=by rw [ht,List.filter_append];simp [hz]
   exact sX o ho n (i+1) k l N' (by omega) (by omega) h3 (by rw [hf];exact h4) (by rw [hf];exact h5) hdrop (by omega)
  | true =>
   simp only [cond_true];have hf:(o.take (i+1)).filter nz=(o.take i).filter nz++[o[i]]:=by rw [ht,List.filter_append];simp [hz]
   refine sX o ho n (i+1) (k+1) (l.set k o[i]) N' (by omega) (by omega) (by simp [h3]) (by rw [hf];simp [h4]) ?_ ?_ (by omega)
   ·rw [hf,← h5];have hk:k<l.length:=by omega
    rw [List.take_add_one];simp [List.getElem?_set_self,hk,List.take_set_of_le]
   ·rw [List.drop_set_of_lt (by omega)];exact hdrop
theorem Ff (l:Linear) (v:aq) (c:Int) (h:l.Terms.length≤10000):kT l v c=some (Linear.mk l.Const (lG l.Terms v c)):=by
 unfold kT;rw [gV (fin:=fun _ s=>(s.1,s.2)) (f:=fun s=>s) ⟨[],0⟩ l.Terms (fun t s=>kg.go (qE v c t s)) (fun j s=>s.2.length≤2*j) (fun _ _=>rfl) (false,[]) (by simp) (fun j s hj hI=>by
  generalize l.Terms.getD j ⟨[],0⟩=t;obtain ⟨s1,s2⟩:=s;simp only at hI;refine ⟨?_,fun s' e => ?_⟩
  ·unfold qE;simp only;cases s1 with
   | true =>
    simp only [cond_true,cond_false,Option.bind_some];cases t.Var==v with
    | true =>
     simp only [cond_true,Option.bind_some];rw [be (by omega)];rfl
    | false =>
     simp only [cond_false,Option.bind_some];rw [be (by omega)];rfl
   | false =>
    simp only [cond_false,Option.bind_some,Bool.not_false,Bool.true_and,Bool.false_or];cases (!(Op.bytesLess t.Var v||t.Var==v)) with
    | true =>
     simp only [cond_true];rw [be (by omega)];simp only [Option.bind_some];cases t.Var==v with
     | true =>
      simp only [cond_true,Option.bind_some];rw [be (by simp;omega)]
     | false =>
      simp only [cond_false,Option.bind_some];rw [be (by simp;omega)]
    | false =>
     simp only [cond_false,Option.bind_some];cases t.Var==v with
     | true =>
      simp only [cond_true,Option.bind_some];rw [be (by omega)]
     | false =>
      simp only [cond_false,Option.bind_some];rw [be (by omega)]
  ·injection e with e
   subst e;unfold qE;simp only;cases (!s1 && !(Op.bytesLess t.Var v||t.Var==v))<;>simp<;>omega)]
 rw [zk (α:=ay) (ε:=Bool×List ay) (fun s t=>qE v c t s)];simp only [Option.bind_some,dq];have hl:=w5 l.Terms v c;have hl2:=yi v c l.Terms (false,[]);have hpl:((bif (l.Terms.foldl (fun s t=>qE v c t s) (false,[])).1 then some (l.Terms.foldl (fun s t=>qE v c t s) (false,[])).2 else cb (((l.Terms.foldl (fun s t=>qE v c t s) (false,[])).2.length+1)*24≤140737488355328) <| some ((l.Terms.foldl (fun s t=>qE v c t s) (false,[])).2++[ay.mk v c])):Option (List ay))=some (qI l.Terms v c):=by
  unfold qI;simp only;cases hr:(l.Terms.foldl (fun s t=>qE v c t s) (false,[])).1 with
  | true=>rfl
  | false =>
   rw [hr] at hl2;simp at hl2;simp only [cond_false];rw [be (by omega)]
 refine (congrArg (fun o=>Option.bind o _) hpl).trans ?_;simp only [Option.bind_some];obtain ⟨l',e1,e2,e3⟩:=sX (qI l.Terms v c) (by omega) (qI l.Terms v c).length 0 0 (qI l.Terms v c) 4294967296 (by omega) (by omega) rfl (by simp) (by simp) rfl (by omega);have hfl:=List.length_filter_le nz (qI l.Terms v c);refine (congrArg (fun o:Option (Out (Int×List ay) Empty)=>Option.bind o _) e1).trans ?_;simp only [Option.bind_some,dq];rw [be ⟨by omega,by omega⟩,Int.toNat_natCast,e2];rfl
def CQ (l:Linear):Linear×Int:=bif ba l then (l,0) else (Linear.mk 0 [],3)
theorem AK (l:Linear):gu l=some (CQ l):=by unfold gu CQ;rw [eJ];simp only [Option.bind_some];cases ba l<;>rfl
def El (ts:List ay):Prop:=ts.Pairwise (fun a b=>Op.bytesLess a.Var b.Var=true)
def Nz (ts:List ay):Prop:=∀ t∈ts,t.C≠0
def ind (v:aq) (x:aq):Int:=if x=v then 1 else 0
theorem kW (v:aq):∀ ts:List ay,(∀ t∈ts,t.Var≠v)→cW (ind v) ts=0
 | [],_=>rfl
 | t::ts,h=>by simp only [cW,ind,if_neg (h t (by simp)),Int.mul_zero,Int.zero_add];exact kW v ts fun x hx=>h x (by simp [hx])
theorem qZ {x y:aq} (h:Op.bytesLess x y=true):x≠y:=fun e=>by rw [e,tj] at h;cases h
theorem xD (x y:aq):Op.bytesLess x y=true∨x=y∨Op.bytesLess y x=true:=by
 rcases Bool.eq_false_or_eq_true (Op.bytesLess x y) with h | h
 ·exact .inl h
 ·rcases Bool.eq_false_or_eq_true (Op.bytesLess y x) with h' | h'
  ·exact .inr (.inr h')
  ·refine .inr (.inl ?_);have h1:¬ x<y:=fun e=>by rw [BN,h] at e;cases e
   have h2:¬ y<x:=fun e=>by rw [BN,h'] at e;cases e
   exact List.le_antisymm (List.not_lt.1 h2) (List.not_lt.1 h1)
theorem z7:∀ a b:List ay,El a→Nz a→El b→Nz b→(∀ f,cW f a=cW f b)→a=b
 | [],[],_,_,_,_,_=>rfl
 | [],t::ts,_,_,h1,h2,h=>by
  have:=h (ind t.Var);simp only [cW] at this;rw [kW t.Var ts fun x hx=>Ne.symm (qZ ((List.pairwise_cons.1 h1).1 x hx))] at this;simp only [ind,if_pos,Int.mul_one,Int.add_zero] at this;exact absurd this.symm (h2 t (by simp))
 | t::ts,[],h1,h2,_,_,h=>by
  have:=h (ind t.Var);simp only [cW] at this;rw [kW t.Var ts fun x hx=>Ne.symm (qZ ((List.pairwise_cons.1 h1).1 x hx))] at this;simp only [ind,if_pos,Int.mul_one,Int.add_zero] at this;exact absurd this (h2 t (by simp))
 | t::ts,u::us,h1,h2,h3,h4,h=>by
  have ht:=List.pairwise_cons.1 h1;have hu:=List.pairwise_cons.1 h3;have et:cW (ind t.Var) ts=0:=kW t.Var ts fun x hx=>Ne.symm (qZ (ht.1 x hx));have eu:cW (ind u.Var) us=0:=kW u.Var us fun x hx=>Ne.symm (qZ (hu.1 x hx));have i1:=h (ind t.Var);have i2:=h (ind u.Var);simp only [cW] at i1 i2;rcases xD t.Var u.Var with hl | he | hl
  ·have z:cW (ind t.Var) us=0:=kW t.Var us fun x hx=>Ne.symm (qZ (nK _ _ _ hl (hu.1 x hx)));rw [et,z] at i1;simp only [ind,if_pos,if_neg (Ne.symm (qZ hl)),Int.mul_one,Int.mul_zero,Int.add_zero] at i1;exact absurd i1 (h2 t (by simp))
  ·rw [et,he,eu] at i1;simp only [ind,if_pos,Int.mul_one,Int.add_zero] at i1;have e:t=u:=by obtain ⟨tv,tc⟩:=t;obtain ⟨uv,uc⟩:=u;simp only at he i1;rw [he,i1]
   subst e;rw [z7 ts us ht.2 (fun x hx=>h2 x (by simp [hx])) hu.2 (fun x hx=>h4 x (by simp [hx])) fun f=>by have:=h f;simp only [cW] at this;omega]
  ·have z:cW (ind u.Var) ts=0:=kW u.Var ts fun x hx=>Ne.symm (qZ (nK _ _ _ hl (ht.1 x hx)));rw [eu,z] at i2;simp only [ind,if_pos,if_neg (Ne.symm (qZ hl)),Int.mul_one,Int.mul_zero,Int.add_zero] at i2;exact absurd i2.symm (h4 u (by simp))
def nY (v:aq) (c:Int):List ay→List ay
 | []=>[ay.mk v c]
 | t::ts=>if t.Var=v then ay.mk v (t.C+c)::ts else bif Op.bytesLess t.Var v then t::nY v c ts else ay.mk v c::t::ts
theorem uA (v:aq) (c:Int):∀ (ts o:List ay),(∀ t∈ts,t.Var≠v)→ts.foldl (fun s t=>qE v c t s) (true,o)=(true,o++ts)
 | [],o,_=>by simp
 | t::ts,o,h=>by
  have e:qE v c t (true,o)=(true,o++[t]):=by unfold qE;simp only [beq_eq_false_iff_ne.2 (h t (by simp)),Bool.not_true,Bool.false_and,cond_false,Bool.or_false]
  rw [List.foldl_cons,e,uA v c ts _ fun x hx=>h x (by simp [hx])];simp
theorem BQ (v:aq) (c:Int):∀ (ts o:List ay),El ts→(∀ t∈ts,bg (t.C+c)=t.C+c) →
 (bif (ts.foldl (fun s t=>qE v c t s) (false,o)).1 then (ts.foldl (fun s t=>qE v c t s) (false,o)).2 else (ts.foldl (fun s t=>qE v c t s) (false,o)).2++[ay.mk v c])=o++nY v c ts
 | [],o,_,_=>by simp [nY]
 | t::ts,o,hs,hw=>by
  have ht:=List.pairwise_cons.1 hs;rw [List.foldl_cons];by_cases hv:t.Var=v
  ·have e:qE v c t (false,o)=(true,o++[ay.mk v (t.C+c)]):=by unfold qE;simp only [hv,beq_self_eq_true,Bool.or_true,Bool.not_true,Bool.and_false,cond_false,cond_true,hw t (by simp)]
   rw [e,uA v c ts _ fun x hx=>Ne.symm (qZ (hv ▸ ht.1 x hx))];simp [nY,hv]
  ·cases hl:Op.bytesLess t.Var v with
   | true =>
    have e:qE v c t (false,o)=(false,o++[t]):=by unfold qE;simp only [beq_eq_false_iff_ne.2 hv,hl,Bool.true_or,Bool.not_true,Bool.and_false,cond_false,Bool.or_self]
    rw [e,BQ v c ts _ ht.2 fun x hx=>hw x (by simp [hx])];simp [nY,hv,hl]
   | false =>
    have hvl:Op.bytesLess v t.Var=true:=by
     rcases xD t.Var v with h | h | h
     ·rw [h] at hl;cases hl
     ·exact absurd h hv
     ·exact h
    have e:qE v c t (false,o)=(true,o++[ay.mk v c]++[t]):=by unfold qE;simp only [beq_eq_false_iff_ne.2 hv,hl,Bool.or_self,Bool.not_false,Bool.and_self,cond_false,cond_true,Bool.or_true]
    rw [e,uA v c ts _ fun x hx=>Ne.symm (qZ (nK _ _ _ hvl (ht.1 x hx)))];simp [nY,hv,hl]
theorem C7 {ts:List ay} (v:aq) (c:Int) (hs:El ts) (hw:∀ t∈ts,bg (t.C+c)=t.C+c):lG ts v c=(nY v c ts).filter nz:=by have:=BQ v c ts [] hs hw;unfold lG qI;simp only;rw [this];simp
theorem Aj (f:aq→Int) (v:aq) (c:Int):∀ ts:List ay,cW f (nY v c ts)=cW f ts+c*f v
 | []=>by simp [nY,cW]
 | t::ts=>by
  unfold nY;by_cases hv:t.Var=v
  ·rw [if_pos hv];simp only [cW,hv];rw [Int.add_mul];omega
  ·rw [if_neg hv];cases Op.bytesLess t.Var v
   ·simp only [cond_false,cW];omega
   ·simp only [cond_true,cW,Aj f v c ts];omega
theorem vC (v:aq) (c:Int):∀ (ts:List ay) (x:ay),x∈nY v c ts→x∈ts∨(x.Var=v∧(x.C=c∨∃ t∈ts,x.C=t.C+c))
 | [],x,h=>by
  have:x=ay.mk v c:=by simpa [nY] using h
  subst this;exact .inr ⟨rfl,.inl rfl⟩
 | t::ts,x,h=>by
  unfold nY at h;by_cases hv:t.Var=v
  ·rw [if_pos hv] at h;rcases List.mem_cons.1 h with rfl | h
   ·exact .inr ⟨rfl,.inr ⟨t,by simp,rfl⟩⟩
   ·exact .inl (by simp [h])
  ·rw [if_neg hv] at h;cases hl:Op.bytesLess t.Var v with
   | true =>
    rw [hl,cond_true] at h;rcases List.mem_cons.1 h with rfl | h
    ·exact .inl (by simp)
    ·rcases vC v c ts x h with h | ⟨h1,h2⟩
     ·exact .inl (by simp [h])
     ·refine .inr ⟨h1,h2.imp id ?_⟩;rintro ⟨y,hy,e⟩;exact ⟨y,by simp [hy],e⟩
   | false =>
    rw [hl,cond_false] at h;rcases List.mem_cons.1 h with rfl | h
    ·exact .inr ⟨rfl,.inl rfl⟩
    ·exact .inl h
theorem ze (v:aq) (c:Int):∀ ts:List ay,(nY v c ts).length≤ts.length+1
 | []=>by simp [nY]
 | t::ts=>by
  have:=ze v c ts;unfold nY;by_cases hv:t.Var=v
  ·rw [if_pos hv];simp
  ·rw [if_neg hv];cases Op.bytesLess t.Var v
   ·simp
   ·simp only [cond_true,List.length_cons];omega
theorem yL (v:aq) (c:Int):∀ ts:List ay,El ts→El (nY v c ts)
 | [],_=>by simp [nY,El]
 | t::ts,hs=>by
  have ht:=List.pairwise_cons.1 hs;unfold nY;by_cases hv:t.Var=v
  ·rw [if_pos hv];exact List.pairwise_cons.2 ⟨fun x hx=>by have:=ht.1 x hx;rw [hv] at this;exact this,ht.2⟩
  ·rw [if_neg hv];cases hl:Op.bytesLess t.Var v with
   | true =>
    rw [cond_true];refine List.pairwise_cons.2 ⟨fun x hx => ?_,yL v c ts ht.2⟩;rcases vC v c ts x hx with h | ⟨h,_⟩
    ·exact ht.1 x h
    ·rw [h];exact hl
   | false =>
    have hvl:Op.bytesLess v t.Var=true:=by
     rcases xD t.Var v with h | h | h
     ·rw [h] at hl;cases hl
     ·exact absurd h hv
     ·exact h
    rw [cond_false];refine List.pairwise_cons.2 ⟨fun x hx => ?_,hs⟩;rcases List.mem_cons.1 hx with rfl | hx
    ·exact hvl
    ·exact nK _ _ _ hvl (ht.1 x hx)
theorem AW (f:aq→Int):∀ ts:List ay,cW f (ts.filter nz)=cW f ts
 | []=>rfl
 | t::ts=>by
  rw [List.filter_cons];cases h:nz t with
  | true=>simp only [if_pos,cW,AW f ts]
  | false =>
   have h0:t.C=0:=by simpa [nz] using h
   simp only [Bool.false_eq_true,if_false,cW,AW f ts,h0];omega
structure RB (B:Int) (K:Nat) (ts:List ay):Prop where
 srt:El ts
 nz:Nz ts
 bd:∀ t∈ts,-B≤t.C∧t.C≤B
 len:ts.length≤K
theorem RB.nil:RB 0 0 []:=⟨List.Pairwise.nil,(fun t h=>by simp at h),(fun t h=>by simp at h),Nat.le_refl _⟩
theorem RB.mono {B B':Int} {K K':Nat} {ts:List ay} (h:RB B K ts) (h1:B≤B') (h2:K≤K'):RB B' K' ts :=
 ⟨h.srt,h.nz,fun t ht=>by have:=h.bd t ht;omega,Nat.le_trans h.len h2⟩
theorem RB.plus {B:Int} {K:Nat} {ts:List ay} (h:RB B K ts) (v:aq) {c A:Int} (hB:0≤B) (h1 : -A≤c) (h2:c≤A) (hle:B+A≤9000000000000000000) :
 RB (B+A) (K+1) (lG ts v c)∧∀ f,cW f (lG ts v c)=cW f ts+c*f v:=by
 have hw:∀ t∈ts,bg (t.C+c)=t.C+c:=fun t ht=>by have:=h.bd t ht;exact jc (by unfold tu;omega)
 rw [C7 v c h.srt hw];refine ⟨⟨(yL v c ts h.srt).filter _,fun t ht => ?_,fun t ht => ?_,?_⟩,fun f => ?_⟩
 ·have:=(List.mem_filter.1 ht).2;simpa [YtoebmibmmlcfiaaGreatDoor.nz] using this
 ·rcases vC v c ts t (List.mem_filter.1 ht).1 with h3 | ⟨_,h3 | ⟨u,hu,h3⟩⟩
  ·have:=h.bd t h3;omega
  ·omega
  ·have:=h.bd u hu;omega
 ·have:=List.length_filter_le Go.Proofs.YtoebmibmmlcfiaaGreatDoor.nz (nY v c ts);have:=ze v c ts;have:=h.len;omega
 ·rw [AW,Aj]
theorem Dl {m:List (aq×Int)}:(m.map (·.1)).Nodup→∀ {e:aq×Int},e∈m→bC 0 e.1 m=e.2:=by
 induction m with
 | nil=>intro _ e h;cases h
 | cons p m ih =>
  obtain ⟨k,u⟩:=p;intro h e he;rw [List.map_cons,List.nodup_cons] at h;rcases List.mem_cons.1 he with rfl | he
  ·simp [bC]
  ·have hne:k≠e.1:=fun e2=>h.1 (by rw [e2];exact List.mem_map.2 ⟨e,he,rfl⟩);simp only [bC,if_neg hne];exact ih h.2 he
def ye (m:List (aq×Int)):List ay:=(kj (bu m)).map fun k=>ay.mk k (bC 0 k m)
theorem yJ {m:List (aq×Int)} (h:(m.map (·.1)).Nodup):(bu m).Nodup:=List.Nodup.sublist (List.Sublist.map _ List.filter_sublist) h
theorem EN {m:List (aq×Int)} (h:(m.map (·.1)).Nodup):El (ye m)∧Nz (ye m)∧∀ f,cW f (ye m)=ma f m:=by
 refine ⟨?_,fun t ht => ?_,fun f => ?_⟩
 ·have h1:=oc (bu m);have h2:(kj (bu m)).Nodup:=(fE (bu m)).nodup_iff.2 (yJ h);unfold El ye;rw [List.pairwise_map];refine (h1.and h2).imp fun {a b} hab => ?_;rcases xD a b with hl | he | hl
  ·exact hl
  ·exact absurd he hab.2
  ·exact absurd (zN _ _ hab.1 (GA hl)) hab.2
 ·unfold ye at ht;obtain ⟨k,hk,rfl⟩:=List.mem_map.1 ht;have hk:=(fE (bu m)).mem_iff.1 hk;unfold bu at hk;obtain ⟨e,he,rfl⟩:=List.mem_map.1 hk;obtain ⟨he1,he2⟩:=List.mem_filter.1 he;show bC 0 e.1 m≠0;rw [Dl h he1];simpa using he2
 ·unfold ye;rw [xl f ((fE (bu m)).map _),s7 f m h]
theorem A7 (n:Int) (m:List (aq×Int)):oz n m (kj (bu m))=CQ (Linear.mk n (ye m)):=rfl
theorem GL:∀ ts:List ay,cW (fun _=>0) ts=0
 | []=>rfl
 | t::ts=>by simp only [cW,GL ts];omega
theorem FE:∀ m:List (aq×Int),ma (fun _=>0) m=0
 | []=>rfl
 | (k,c)::m=>by simp only [ma,FE m];omega
theorem En {n n':Int} {m:List (aq×Int)} {ts:List ay} (h:(m.map (·.1)).Nodup) (h1:El ts) (h2:Nz ts) (hf:∀ f,n+ma f m=n'+cW f ts):CQ (Linear.mk n (ye m))=CQ (Linear.mk n' ts):=by
 obtain ⟨r1,r2,r3⟩:=EN h;have e:n=n':=by have:=hf (fun _=>0);rw [FE,GL] at this;omega
 have e2:ye m=ts:=z7 _ _ r1 r2 h1 h2 fun f=>by have:=hf f;rw [r3 f];omega
 rw [e,e2]
def mQ (n:Int) (ts:List ay) (x:Linear) (k:Int):Int×List ay:=(bg (n+bg (k*x.Const)),x.Terms.foldl (fun ts t=>lG ts t.Var (bg (k*t.C))) ts)
theorem zC (k:Int) (hk : -1000000≤k∧k≤1000000):∀ (xs:List ay) (ts:List ay) (B:Int) (K:Nat),(∀ t∈xs,-1000000≤t.C∧t.C≤1000000)→RB B K ts→0≤B→B+(xs.length:Int)*1000000000000≤9000000000000000000 →
 RB (B+(xs.length:Int)*1000000000000) (K+xs.length) (xs.foldl (fun ts t=>lG ts t.Var (bg (k*t.C))) ts)∧∀ f,cW f (xs.foldl (fun ts t=>lG ts t.Var (bg (k*t.C))) ts)=cW f ts+k*cW f xs
 | [],ts,B,K,_,h,_,_=>⟨by simpa using h,fun f=>by simp [cW]⟩
 | x::xs,ts,B,K,hC,h,hB,hle=>by
  obtain ⟨c1,c2⟩:=hC x (by simp);obtain ⟨b1,b2⟩:=prod_bound hk.1 hk.2 c1 c2;have hlen:(((x::xs).length:Nat):Int)=(xs.length:Int)+1:=by simp
  rw [hlen] at hle;have hle':B+((xs.length:Int)*1000000000000+1000000000000)≤9000000000000000000:=by rw [Int.add_mul] at hle;omega
  have hp:0≤(xs.length:Int)*1000000000000:=by omega
  have e:bg (k*x.C)=k*x.C:=jc (by unfold tu;omega);obtain ⟨p1,p2⟩:=h.plus x.Var (c:=k*x.C) (A:=1000000000000) hB (by omega) (by omega) (by omega);obtain ⟨g1,g2⟩:=zC k hk xs (lG ts x.Var (k*x.C)) (B+1000000000000) (K+1) (fun y hy=>hC y (by simp [hy])) p1 (by omega) (by omega);rw [List.foldl_cons,e,hlen];refine ⟨?_,fun f => ?_⟩
  ·have e1:B+1000000000000+(xs.length:Int)*1000000000000=B+((xs.length:Int)+1)*1000000000000:=by rw [Int.add_mul];omega
   have e2:K+1+xs.length=K+(x::xs).length:=by simp;omega
   rw [← e1,← e2];exact g1
  ·rw [g2 f,p2 f];simp only [cW];rw [Int.mul_add,yW];omega
def EP (bs:List Bind) (v:aq):Linear:=bif decide (idxOf (eP 1 v) bs<0) then Linear.mk 0 [ay.mk v 1] else (bs.getD (idxOf (eP 1 v) bs).toNat iN).Dim
def rG (bs:List Bind) (t:ay) (s:Int×List ay):kg (Int×List ay) (Int×List ay) (Linear×Int) :=
 bif ba (EP bs t.Var) then .go (mQ s.1 s.2 (EP bs t.Var) t.C) else .ret (Linear.mk 0 [],1)
theorem Ck {v:aq} (h:fx v=true):ba (Linear.mk 0 [ay.mk v 1])=true:=by have e:EG (Linear.mk 0 [ay.mk v 1]) 0=ay.mk v 1:=rfl;unfold ba;simp only [List.length_cons,List.length_nil];simp [mY,e,h,BF]
def Rt (j:Nat) (s:Int×List ay):Prop:=RB ((j:Int)*12000000000000) (12*j) s.2 ∧ -(1000000+(j:Int)*1000000000000)≤s.1∧s.1≤1000000+(j:Int)*1000000000000
theorem EX (bs:List Bind) (t:ay) (j:Nat) (hj:j<12) (ht:(-1000000≤t.C∧t.C≤1000000)∧fx t.Var=true) (s s':Int×List ay) (hs:Rt j s) (h:rG bs t s = .go s') :
 Rt (j+1) s'∧∀ f,s'.1+cW f s'.2=s.1+cW f s.2+t.C*sv bs f t.Var:=by
 have ej:((j+1:Nat):Int)*12000000000000=(j:Int)*12000000000000+12000000000000:=by omega
 obtain ⟨h1,h2,h3⟩:=hs;have esv:∀ f,EF f (EP bs t.Var)=sv bs f t.Var:=fun f=>by
  unfold EP sv;cases decide (idxOf (eP 1 t.Var) bs<0)
  ·rfl
  ·simp [EF,cW]
 unfold rG at h;generalize EP bs t.Var=D at h esv;cases hv:ba D with
 | false=>rw [hv,cond_false] at h;cases h
 | true =>
  rw [hv,cond_true] at h;have e:s'=mQ s.1 s.2 D t.C:=by injection h with h;exact h.symm
  subst e;obtain ⟨k1,k2⟩:=rJ hv;have hl:=du hv;obtain ⟨b1,b2⟩:=prod_bound ht.1.1 ht.1.2 k1 k2;obtain ⟨g1,g2⟩:=zC t.C ht.1 D.Terms s.2 ((j:Int)*12000000000000) (12*j) (fun x hx=>(mh hv x hx).1) h1 (by omega) (by omega);have hw:bg (s.1+bg (t.C*D.Const))=s.1+t.C*D.Const:=by rw [jc (n:=t.C*D.Const) (by unfold tu;omega),jc (by unfold tu;omega)]
  refine ⟨⟨g1.mono (by omega) (by omega),?_,?_⟩,fun f => ?_⟩
  ·simp only [mQ,hw];omega
  ·simp only [mQ,hw];omega
  ·simp only [mQ,hw,g2 f];rw [← esv f];simp only [EF];rw [Int.mul_add];omega
theorem C1 (bs:List Bind) (c:Int) (ts:List ay):∀ (j:Nat) (s:Int×List (aq×Int)) (s':Int×List ay),j+ts.length≤12→(∀ t∈ts,(-1000000≤t.C∧t.C≤1000000)∧fx t.Var=true)→St j c s→Rt j s'→(∀ f,s.1+ma f s.2=s'.1+cW f s'.2) →
 (∃ u u',cZ (zd bs) (fun s=>s) ts s = .brk u∧cZ (rG bs) (fun s=>s) ts s' = .brk u'∧St (j+ts.length) c u∧Rt (j+ts.length) u'∧∀ f,u.1+ma f u.2=u'.1+cW f u'.2)∨(cZ (zd bs) (fun s=>s) ts s = .ret (Linear.mk 0 [],1)∧cZ (rG bs) (fun s=>s) ts s' = .ret (Linear.mk 0 [],1)):=by
 induction ts with
 | nil=>exact fun j s s' _ _ h1 h2 h3=>.inl ⟨s,s',rfl,rfl,h1,h2,h3⟩
 | cons t ts ih =>
  intro j s s' hj hC hs hs' hf;have hj':j+1+ts.length≤12:=by simp at hj;omega
  have ht:=hC t (by simp);have g1:=fun f u=>yM bs f t c j (by simp at hj;omega) ht s u hs;have g2:=fun u=>EX bs t j (by simp at hj;omega) ht s' u hs';have hcase:(∃ u u',zd bs t s = .go u∧rG bs t s' = .go u')∨(zd bs t s = .ret (Linear.mk 0 [],1)∧rG bs t s' = .ret (Linear.mk 0 [],1)):=by
   unfold zd rG EP;cases h0:decide (idxOf (eP 1 t.Var) bs<0) with
   | true =>
    simp only [cond_true,Ck ht.2];exact .inl ⟨_,_,rfl,rfl⟩
   | false =>
    simp only [cond_false];cases ba (bs.getD (idxOf (eP 1 t.Var) bs).toNat iN).Dim with
    | false=>exact .inr ⟨rfl,rfl⟩
    | true=>exact .inl ⟨_,_,rfl,rfl⟩
  simp only [cZ];rcases hcase with ⟨u,u',e1,e2⟩ | ⟨e1,e2⟩
  ·rw [e1,e2];have k1:=fun f=>g1 f u e1;obtain ⟨k2,k3⟩:=g2 u' e2;rcases ih (j+1) u u' hj' (fun x hx=>hC x (by simp [hx])) (k1 (fun _=>0)).1 k2 (fun f=>by have:=(k1 f).2;have:=k3 f;have:=hf f;omega) with ⟨v,v',a1,a2,a3,a4,a5⟩ | ⟨a1,a2⟩
   ·refine .inl ⟨v,v',a1,a2,?_,?_,a5⟩
    ·rw [show j+(t::ts).length=j+1+ts.length by simp;omega];exact a3
    ·rw [show j+(t::ts).length=j+1+ts.length by simp;omega];exact a4
   ·exact .inr ⟨a1,a2⟩
  ·rw [e1,e2];exact .inr ⟨rfl,rfl⟩
def F2 (o:Out (Int×List ay) (Linear×Int)):Linear×Int:=match o with | .brk u=>CQ (Linear.mk u.1 u.2) | .ret r=>r
theorem E9 (bs:List Bind) (l:Linear) (h:ba l=true):F2 (cZ (rG bs) (fun s=>s) l.Terms (l.Const,[]))=nD bs l∧(∀ u,cZ (rG bs) (fun s=>s) l.Terms (l.Const,[]) = .brk u→u.2.length≤144):=by
 obtain ⟨k1,k2⟩:=rJ h;have hl:=du h;have h0:Rt 0 (l.Const,[]):=⟨RB.nil,by simp only;omega,by simp only;omega⟩;unfold nD;rw [h,cond_true];rcases C1 bs l.Const l.Terms 0 (l.Const,[]) (l.Const,[]) (by omega) (mh h) (G4 l h) h0 (fun f=>rfl) with ⟨u,u',e1,e2,e3,e4,e5⟩ | ⟨e1,e2⟩
 ·rw [e1,e2];refine ⟨?_,fun w hw => ?_⟩
  ·simp only [D9,F2];rw [A7];exact (En e3.1.nd e4.1.srt e4.1.nz e5).symm
  ·injection hw with hw
   subst hw;have:=e4.1.len;omega
 ·rw [e1,e2];exact ⟨rfl,fun w hw=>by cases hw⟩
def FH (row:aq) (ds:List Linear):Shape×Int:=bif decide (ds.length≤6) then (Shape.mk row ds,0) else (Shape.mk [] [],3)
theorem Cs (bs:List Bind) (p:Bind→Bool):∀ x:Option Nat,(match x with | some j=>((j:Nat):Int) | none => -1)=idxOf p bs →
 ((some (match x with | some j=>Out.ret ((bs.getD j iN).Dim,true) | none=>Out.brk ()):Option (Out Unit (Linear×Bool))).bind (Sh.aft fun _=>some ((Linear.mk 0 []),false)))=some (bif decide (idxOf p bs<0) then ((Linear.mk 0 []),false) else ((bs.getD (idxOf p bs).toNat iN).Dim,true))
 | none,hx=>by rw [← hx];rfl
 | some j,hx=>by have hx:((j:Nat):Int)=idxOf p bs:=hx;rw [← hx,Hn (by omega)];rfl
theorem vj (bs:List Bind) (v:aq):jy bs v=some (bif decide (idxOf (eP 1 v) bs<0) then ((Linear.mk 0 []),false) else ((bs.getD (idxOf (eP 1 v) bs).toNat iN).Dim,true)):=by
 unfold jy;rw [lQ (f:=fun j=>((bs.getD j iN).Dim,true)) (fun j=>eP 1 v (bs.getD j iN)) _ _ () (fun j u _ _=>by
  unfold eP;cases (bs.getD j iN).Kind==1
  ·rfl
  ·cases (bs.getD j iN).Var==v<;>rfl)]
 exact Cs bs (eP 1 v) _ (kH (eP 1 v) iN bs)
theorem yy (v:aq):nM v=some (Linear.mk 0 [ay.mk v 1]):=by unfold nM;rfl
theorem o4 (k:Int):∀ (xs ts:List ay),(xs.foldl (fun ts t=>lG ts t.Var (bg (k*t.C))) ts).length≤ts.length+xs.length
 | [],ts=>by simp
 | x::xs,ts=>by have h1:=o4 k xs (lG ts x.Var (bg (k*x.C)));have h2:=xA ts x.Var (bg (k*x.C));simp only [List.foldl_cons,List.length_cons];omega
theorem Bx {α σ ρ:Type} (g:α→σ→σ):∀ (l:List α) (s:σ),cZ (ε:=σ) (ρ:=ρ) (fun x s=>kg.go (g x s)) (fun s=>s) l s = .brk (l.foldl (fun s x=>g x s) s)
 | [],s=>rfl
 | x::l,s=>by simp only [cZ,List.foldl_cons];exact Bx g l (g x s)
theorem vr {α β γ:Type} (g:β→α→β) (a:γ):∀ (l:List α) (b:β),l.foldl (fun (s:γ×β) x=>(s.1,g s.2 x)) (a,b)=(a,l.foldl g b)
 | [],b=>rfl
 | x::l,b=>by simp only [List.foldl_cons];exact vr g a l (g b x)
theorem uJ (l x:Linear) (k:Int) (h1:l.Terms.length≤1000) (h2:x.Terms.length≤1000):hF l x k=some (Linear.mk (mQ l.Const l.Terms x k).1 (mQ l.Const l.Terms x k).2):=by
 unfold hF;rw [be (by omega)];rw [gV (fin:=fun _ s=>(s.1,s.2)) (f:=fun s=>s) ⟨[],0⟩ x.Terms (fun t s=>kg.go (s.1,lG s.2 t.Var (bg (k*t.C)))) (fun j s=>s.2.length≤1000+j) (fun _ _=>rfl) _ (by simpa using h1) (fun j s hj hI=>⟨by
  rw [Ff _ _ _ (by simp only;omega)];rfl,fun s' e=>by
  injection e with e
  subst e;have:=xA s.2 (x.Terms.getD j ⟨[],0⟩).Var (bg (k*(x.Terms.getD j ⟨[],0⟩).C));simp only;omega⟩)]
 rw [Bx (fun (t:ay) (s:Int×List ay)=>(s.1,lG s.2 t.Var (bg (k*t.C)))),vr (fun ts (t:ay)=>lG ts t.Var (bg (k*t.C)))];rfl
theorem AF (n:Int) (ts:List ay) (x:Linear) (k:Int):(mQ n ts x k).2.length≤ts.length+x.Terms.length:=o4 k x.Terms ts
theorem uX (l:Linear) (bs:List Bind):jK l bs=some (nD bs l):=by
 unfold jK;rw [eJ];simp only [Option.bind_some];cases hv:ba l with
 | false=>unfold nD;rw [hv];rfl
 | true =>
  simp only [cond_true];have hl:=du hv;rw [gV (fin:=fun _ s=>(s.1,s.2)) (f:=fun s=>s) ⟨[],0⟩ l.Terms (rG bs) (fun j s=>s.2.length≤12*j) (fun _ _=>rfl) (l.Const,[]) (by simp) (fun j s hj hI=>by
   rw [vj];generalize l.Terms.getD j ⟨[],0⟩=t;have hb:∀ (o:Option (kg (Int×List ay) (Int×List ay) (Linear×Int))),o=some (rG bs t s)→(o=some (rG bs t s)∧∀ s',rG bs t s = .go s'→s'.2.length≤12*(j+1)):=fun o ho=>⟨ho,fun s' e=>by
    unfold rG at e;cases hw:ba (EP bs t.Var) with
    | false=>rw [hw] at e;cases e
    | true =>
     rw [hw,cond_true] at e;injection e with e
     subst e;have:=AF s.1 s.2 (EP bs t.Var) t.C;have:=du hw;omega⟩
   refine hb _ ?_;have hlen:∀ D:Linear,ba D=true→hF (Linear.mk s.1 s.2) D t.C=some (Linear.mk (mQ s.1 s.2 D t.C).1 (mQ s.1 s.2 D t.C).2):=fun D hD=>by have:=du hD;exact uJ _ D t.C (by simp only;omega) (by omega)
   simp only [Option.bind_some,rG,EP];cases h0:decide (idxOf (eP 1 t.Var) bs<0) with
   | true =>
    simp only [cond_true,cond_false];rw [yy];simp only [Option.bind_some];rw [eJ];simp only [Option.bind_some];cases hw:ba (Linear.mk 0 [ay.mk t.Var 1]) with
    | false=>rfl
    | true=>simp only [cond_true];rw [hlen _ hw];rfl
   | false =>
    simp only [cond_true,cond_false,Option.bind_some];generalize (bs.getD (idxOf (eP 1 t.Var) bs).toNat iN).Dim=D at *;rw [mu,eJ];simp only [Option.bind_some];cases hw:ba D with
    | false=>rfl
    | true=>simp only [cond_true];rw [hlen _ hw];rfl)]
  obtain ⟨h1,h2⟩:=E9 bs l hv;rw [← h1];generalize cZ (rG bs) (fun s=>s) l.Terms (l.Const,[])=o;cases o with
  | ret r=>rfl
  | brk u =>
   simp only [Option.bind_some,Sh.aft,F2];rw [AK];rfl
theorem np (row:aq) (a b:List Linear) (ha:a.length≤1000000) (hb:b.length≤1000000):iY row a b=some (FH row (a++b)):=by
 unfold iY FH;rw [jc (by unfold tu;omega)];by_cases h:(a++b).length≤6
 ·rw [Ho h];simp only [List.length_append] at h;rw [Hn (by omega)];simp only [cond_false,cond_true];rw [be (by omega),be (by omega)]
 ·rw [Hn h];simp only [List.length_append] at h;rw [Ho (by omega)];rfl
theorem vT (s:Shape) (bs:List Bind) (hb:∀ b∈bs,b.Row.Dims.length≤8):jA s bs=some (Fs bs s):=by
 unfold jA;rw [mb,ga];simp only [Option.bind_some];unfold Fs;cases hv:jt s with
 | false=>rfl
 | true =>
  cases hvb:fY bs with
  | false=>rfl
  | true =>
   simp only [cond_true];have hd6:=(tn hv).1;rw [gV (fin:=fun _ s=>s) (f:=fun s=>s) ⟨0,[]⟩ s.Dims (fun x acc=>bif (nD bs x).2==0 then .go (acc++[(nD bs x).1]) else .ret (Shape.mk [] [],(nD bs x).2)) (fun j acc=>acc.length≤j) (fun _ _=>rfl) [] (by simp) (fun j acc hj hI=>⟨by
    rw [mu,uX];simp only [Option.bind_some];cases (nD bs (s.Dims.getD j ⟨0,[]⟩)).2==0
    ·rfl
    ·simp only [cond_true];rw [be (by omega)],fun s' e=>by
    cases hz:(nD bs (s.Dims.getD j ⟨0,[]⟩)).2==0
    ·rw [hz] at e;cases e
    ·rw [hz,cond_true] at e;injection e with e;subst e;simp;omega⟩)]
   have hp:=ve (ρ:=Shape×Int) (fun d=>(nD bs d).2==0) (fun d=>(nD bs d).1) (fun d=>(Shape.mk [] [],(nD bs d).2)) s.Dims;unfold Fv;have hr8:(rowOf bs s).2.length≤8:=by
    unfold rowOf;cases (bif s.Row.isEmpty then false else decide (idxOf (eP 2 s.Row) bs≥0))
    ·simp
    ·simp only [cond_true];rw [Hh];cases hx:bs[(idxOf (eP 2 s.Row) bs).toNat]? with
     | none=>simp
     | some b=>exact hb b (List.mem_of_getElem? hx)
   rcases hp [] with ⟨e1,e2⟩ | ⟨d,d1,d2,d3⟩
   ·rcases hp (rowOf bs s).2 with ⟨f1,_⟩ | ⟨d,d1,d2,_⟩
    ·rw [e1,f1];simp only [Option.bind_some,Sh.aft,List.nil_append,GY];rw [ny,mG];simp only [Option.bind_some];have hm:(s.Dims.map fun d=>(nD bs d).1).length≤6:=by simpa using hd6
     unfold rowOf at hr8 ⊢;cases hre:s.Row.isEmpty with
     | true =>
      simp only [cond_true,cond_false,Option.bind_some];rw [np _ _ _ (by simp) (by omega)];rfl
     | false =>
      rw [hre] at hr8;simp only [cond_false,Option.bind_some] at hr8 ⊢;by_cases h0:idxOf (eP 2 s.Row) bs≥0
      ·rw [Ho h0] at hr8 ⊢;rw [Hn (show ¬ idxOf (eP 2 s.Row) bs<0 by omega)];simp only [cond_true,cond_false] at hr8 ⊢;rw [be ⟨h0,oZ _ iN _⟩,np _ _ _ (Nat.le_trans hr8 (by decide)) (by omega)];rfl
      ·rw [Hn h0,Ho (show idxOf (eP 2 s.Row) bs<0 by omega)];simp only [cond_true,cond_false];rw [np _ _ _ (by simp) (by omega)];rfl
    ·have:=Hu.1 e2 d d1;rw [this] at d2;cases d2
   ·rw [d3];rcases hp (rowOf bs s).2 with ⟨_,f2⟩ | ⟨x,x1,x2,x3⟩
    ·have:=Hu.1 f2 d d1;rw [this] at d2;cases d2
    ·rw [x3];simp only [Option.bind_some,Sh.aft,GY,Hr];have g:∀ (l acc acc':List Linear) (r r':Shape×Int),cZ (σ:=List Linear) (ε:=List Linear) (fun x acc=>bif (nD bs x).2==0 then .go (acc++[(nD bs x).1]) else .ret (Shape.mk [] [],(nD bs x).2)) (fun s=>s) l acc = .ret r→cZ (σ:=List Linear) (ε:=List Linear) (fun x acc=>bif (nD bs x).2==0 then .go (acc++[(nD bs x).1]) else .ret (Shape.mk [] [],(nD bs x).2)) (fun s=>s) l acc' = .ret r'→r=r':=by
      intro l;induction l with
      | nil=>intro acc acc' r r' h;cases h
      | cons y l ih =>
       intro acc acc' r r' h h';simp only [cZ] at h h';cases hz:(nD bs y).2==0 with
       | true =>
        rw [hz] at h h';exact ih _ _ _ _ h h'
       | false =>
        rw [hz] at h h';simp only [cond_false] at h h';injection h with h
        injection h' with h'
        rw [← h,← h']
     exact g _ _ _ _ _ d3 x3
abbrev Pr:=ah
theorem wX (t:bQ):bQ.mk t.Elem (Shape.mk t.Shape.Row t.Shape.Dims)=t:=rfl
theorem GM (p:Pr):ah.mk (bQ.mk p.A.Elem (Shape.mk p.A.Shape.Row p.A.Shape.Dims)) (bQ.mk p.B.Elem (Shape.mk p.B.Shape.Row p.B.Shape.Dims))=p:=rfl
def rE (t:bQ):Bool:=sN t.Elem&&jt t.Shape
theorem vB (t:bQ) (h:Dd t.Shape):dK t=some (rE t):=by unfold dK rE sN;rw [lA _ h,iW];cases t.Elem==[105,110,116]<;>cases t.Elem==[98,111,111,108]<;>cases oN t.Elem<;>rfl
theorem uF (t:bQ):jM t=some (rE t):=by unfold jM ju rE sN;rw [mb,jl];cases t.Elem==[105,110,116]<;>cases t.Elem==[98,111,111,108]<;>cases oN t.Elem<;>rfl
theorem wK (l:List Bind) (k:Int) (v:aq):lK l k v=some (idxOf (eP k v) l):=by
 unfold lK b7;rw [lQ (f:=fun j=>((j:Nat):Int)) (fun j=>eP k v (l.getD j iN)) _ _ () (fun j u _ _=>by
  unfold kr eP;simp only;cases (l.getD j iN).Kind==k
  ·rfl
  ·cases (l.getD j iN).Var==v<;>rfl)]
 exact congrArg (fun o:Option Int=>o.bind fun y=>some y) (rW l (eP k v) _ (kH (eP k v) iN l))
def G6 (bs:List Bind) (e:aq):aq:=bif decide (idxOf (eP 3 e) bs≥0) then (bs.getD (idxOf (eP 3 e) bs).toNat iN).Elem else e
def Ao (bs:List Bind) (t:bQ):bQ×Int :=
 bif rE t&&fY bs then (bif (Fs bs t.Shape).2==0 then (bQ.mk (G6 bs t.Elem) (Fs bs t.Shape).1,0) else (bQ.mk [] (Shape.mk [] []),(Fs bs t.Shape).2))
 else (bQ.mk [] (Shape.mk [] []),1)
def Em (bs:List Bind):Prop:=∀ b∈bs,okB b∧b.Row.Dims.length≤8
theorem kP (t:bQ) (bs:List Bind) (h:Dd t.Shape) (hb:Em bs):dN t bs=some (Ao bs t):=by
 unfold dN Ao;rw [vB _ h,gg _ fun b m=>(hb b m).1,uK _ _ h hb];cases rE t with
 | false=>rfl
 | true =>
  cases fY bs with
  | false=>rfl
  | true =>
   simp only [Option.bind_some,cond_true,Bool.and_self];cases (Fs bs t.Shape).2==0 with
   | false=>rfl
   | true =>
    simp only [cond_true];rw [wK];simp only [Option.bind_some];unfold G6;cases hd:decide (idxOf (eP 3 t.Elem) bs≥0) with
    | false=>rfl
    | true =>
     simp only [cond_true];rw [be ⟨Hm hd,oZ _ iN _⟩];rfl
theorem me (t:bQ) (bs:List Bind) (hb:Em bs):fJ t bs=some (Ao bs t):=by
 unfold fJ Ao;rw [uF,ga,vT _ _ fun b m=>(hb b m).2];cases rE t with
 | false=>rfl
 | true =>
  cases fY bs with
  | false=>rfl
  | true =>
   simp only [Option.bind_some,cond_true,Bool.and_self];cases (Fs bs t.Shape).2==0 with
   | false=>rfl
   | true =>
    simp only [cond_true];rw [ny];simp only [Option.bind_some];unfold G6;cases hd:decide (idxOf (eP 3 t.Elem) bs≥0) with
    | false=>rfl
    | true =>
     simp only [cond_true];rw [be ⟨Hm hd,oZ _ iN _⟩]
def eqT (x y:bQ):Bool:=x.Elem==y.Elem&&decide (x.Shape=y.Shape)
theorem vI (x y:bQ):jH x y=some (eqT x y):=by unfold jH eqT;rw [vA];cases x.Elem==y.Elem<;>rfl
theorem pr (x y:bQ):gS x y=some (eqT x y):=by unfold gS eqT;rw [v7];cases x.Elem==y.Elem<;>rfl
theorem Dk (x:bQ):eqT x x=true:=by simp [eqT]
def kY (t:bQ):Bool:=decide (t.Elem.length≤35)&&Al t.Shape
theorem jf (t:bQ):dX t=some (kY t):=by unfold dX kY;rw [show (35:Int)=((35:Nat):Int) from rfl,pj,rL];cases decide (t.Elem.length≤35)<;>rfl
def BL (l:List Pr):Bool:=(l.all fun p=>kY p.A&&kY p.B)&&(decide (l.length≤8)||decide (l.length=6001))
theorem yk (l:List Pr):nV l=some (BL l):=by
 unfold nV;rw [dd (fun j=>(fun (p:Pr)=>kY p.A&&kY p.B) (l.getD j aa)) _ _ () (fun j u _ _=>by rw [wX,wX,jf,jf];simp only [Option.bind_some];cases kY (l.getD j aa).A<;>cases kY (l.getD j aa).B<;>rfl),dD,Bb (fun (p:Pr)=>kY p.A&&kY p.B)]
 unfold BL;rw [show (8:Int)=((8:Nat):Int) from rfl,pj,show (6001:Int)=((6001:Nat):Int) from rfl,va];cases l.all (fun p=>kY p.A&&kY p.B)
 ·rfl
 ·cases decide (l.length≤8)<;>rfl
def xT (bs:List Bind) (p:Pr):Bool:=(Ao bs p.A).2==0&&((Ao bs p.B).2==0&&eqT (Ao bs p.A).1 (Ao bs p.B).1)
def uu (l:List Pr) (bs:List Bind):Bool:=fY bs&&l.all (xT bs)
theorem CV {α:Type} (d:α) {l:List α} {j:Nat} (h:j<l.length):l.getD j d∈l:=by rw [Hh,Hi h];exact List.getElem_mem h
theorem tU (l:List Pr) (bs:List Bind) (hl:∀ p∈l,Dd p.A.Shape∧Dd p.B.Shape) (hb:Em bs):iB l bs=some (uu l bs):=by
 unfold iB uu;rw [gg _ fun b m=>(hb b m).1];simp only [Option.bind_some];cases fY bs with
 | false=>rfl
 | true =>
  simp only [cond_true,Bool.true_and];rw [dd (fun j=>xT bs (l.getD j aa)) _ _ () (fun j u _ hj=>by
   have hm:=hl _ (CV aa (show j<l.length by omega));rw [wX,wX,kP _ _ hm.1 hb,kP _ _ hm.2 hb];simp only [Option.bind_some,xT];cases (Ao bs (l.getD j aa).A).2==0 with
   | false=>rfl
   | true =>
    cases (Ao bs (l.getD j aa).B).2==0 with
    | false=>rfl
    | true =>
     simp only [cond_true,Bool.true_and];rw [vI];simp only [Option.bind_some];cases eqT (Ao bs (l.getD j aa).A).1 (Ao bs (l.getD j aa).B).1<;>rfl),dD,Bb (xT bs)]
  cases l.all (xT bs)<;>rfl
theorem ub (l:List Pr) (bs:List Bind) (hb:Em bs):iJ l bs=some (uu l bs):=by
 unfold iJ uu;rw [ga];simp only [Option.bind_some];cases fY bs with
 | false=>rfl
 | true =>
  simp only [cond_true,Bool.true_and];rw [dd (fun j=>xT bs (l.getD j aa)) _ _ () (fun j u _ hj=>by
   rw [wX,wX,me _ _ hb,me _ _ hb];simp only [Option.bind_some,xT];cases (Ao bs (l.getD j aa).A).2==0 with
   | false=>rfl
   | true =>
    cases (Ao bs (l.getD j aa).B).2==0 with
    | false=>rfl
    | true =>
     simp only [cond_true,Bool.true_and];rw [pr];simp only [Option.bind_some];cases eqT (Ao bs (l.getD j aa).A).1 (Ao bs (l.getD j aa).B).1<;>rfl),dD,Bb (xT bs)]
  cases l.all (xT bs)<;>rfl
theorem yp (l:List Pr) (h:l.length≤1000000):nF l=some l:=by
 unfold nF;rw [gV (fin:=fun _ s=>s) (f:=fun s=>s) aa l (fun x acc=>kg.go (acc++[x])) (fun j s=>s.length=j) (fun _ _=>rfl) [] rfl (fun j s hj hI=>⟨by
  rw [GM,be (by omega)],fun s' e=>by injection e with e;subst e;simp [hI]⟩)]
 rw [sT];simp [dq]
theorem sK:eN=some true:=by kernel_rfl
theorem CX (x0:bQ) (x1:List ah) (x2:List Bind):fS x0 x1 x2=some true:=by
 unfold fS;rw [sK,jf,yk,sq];simp only [Option.bind_some,cond_true];cases h0:kY x0 with
 | false=>rfl
 | true =>
  cases h1:BL x1 with
  | false=>rfl
  | true =>
   cases h2:BD x2 with
   | false=>rfl
   | true =>
    simp only [cond_true];simp only [kY,Hj] at h0;simp only [BL,Hj,Hu,Bool.or_eq_true,decide_eq_true_eq] at h1;have hb:Em x2:=fun b m=>by simp only [BD,Hj,Hu] at h2;refine ⟨Fq (h2.1 b m),?_⟩;have:=h2.1 b m;simp only [zz,Al,Hj,decide_eq_true_eq] at this;omega
    have hp:∀ p∈x1,Dd p.A.Shape∧Dd p.B.Shape:=fun p m=>by have:=h1.1 p m;simp only [kY,Hj] at this;exact ⟨ux this.1.2,ux this.2.2⟩
    unfold mB mK;rw [kP _ _ (ux h0.2) hb,me _ _ hb];simp only [Option.bind_some];rw [pr,Dk,yp _ (by omega)];simp only [Option.bind_some,cond_true,beq_self_eq_true];rw [tU _ _ hp hb,ub _ _ hb];simp only [Option.bind_some,beq_self_eq_true]
end Go.Proofs.YtoebmibmmlcfiaaGreatDoor
