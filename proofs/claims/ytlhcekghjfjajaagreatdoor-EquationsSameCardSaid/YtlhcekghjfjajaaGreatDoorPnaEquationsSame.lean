/- Plain laws: what the walked functions compute answers as the statement says. -/
import Derived.Test.YtlhcekghjfjajaaGreatDoorWkcEquationsSame
import Derived.Lib.ItoaNum
import Derived.Lib.ItoaMem
import Derived.Lib.AtoiAll
import Derived.Lib.AtoiAllCases
import Derived.Lib.ItoaLen
import Derived.Lib.SlTrimSet
set_option linter.unusedSimpArgs false
set_option linter.unusedVariables false
namespace Go.Sh
open Go.Ab
section
variable {α σ ε ρ:Type}
theorem gT {body:Nat→Unit→Option (fX Unit ε ρ)} {fin:Nat→Unit→ε} {r:ρ} (p:Nat→Bool):∀ (k i:Nat) (u:Unit),(∀ j u,i≤j→j<i+k→body j u=some (bif p j then .go () else .ret r)) →
 dZ body fin k i u=some (bif (List.range' i k).all p then .brk (fin (i+k) ()) else .ret r)
 | 0,i,u,h=>by simp [dZ]
 | k+1,i,u,h=>by
  simp only [dZ,h i u (Nat.le_refl _) (by omega),List.range'_succ,List.all_cons];cases hp:p i with
  | true =>
   simp only [cond_true,Option.bind_some,yn,Bool.true_and];rw [gT p k (i+1) () (fun j u h1 h2=>h j u (by omega) (by omega))];rw [show i+1+k=i+(k+1) by omega]
  | false=>simp [yn]
theorem vy {body:Nat→Unit→Option (fX Unit ε ρ)} {fin:Nat→Unit→ε} {f:Nat→ρ} (p:Nat→Bool):∀ (k i:Nat) (u:Unit),(∀ j u,i≤j→j<i+k→body j u=some (bif p j then .ret (f j) else .go ())) →
 dZ body fin k i u=some (match (List.range' i k).find? p with | some j=>.ret (f j) | none=>.brk (fin (i+k) ()))
 | 0,i,u,h=>by simp [dZ]
 | k+1,i,u,h=>by
  simp only [dZ,h i u (Nat.le_refl _) (by omega),List.range'_succ,List.find?_cons];cases hp:p i with
  | false =>
   simp only [cond_false,Option.bind_some,yn];rw [vy p k (i+1) () (fun j u h1 h2=>h j u (by omega) (by omega))];rw [show i+1+k=i+(k+1) by omega]
  | true=>simp [yn]
theorem yE {body:Nat→σ→Option (fX σ ε ρ)} {fin:Nat→σ→ε} (g:Nat→σ→σ) (I:Nat→σ→Prop):∀ (k i:Nat) (s:σ),I i s→(∀ j s,i≤j→j<i+k→I j s→body j s=some (.go (g j s))∧I (j+1) (g j s)) →
 ∃ s',dZ body fin k i s=some (.brk (fin (i+k) s'))∧s'=(List.range' i k).foldl (fun s j=>g j s) s∧I (i+k) s'
 | 0,i,s,hI,h=>⟨s,by simp [dZ],by simp,hI⟩
 | k+1,i,s,hI,h=>by
  obtain ⟨h1,h2⟩:=h i s (Nat.le_refl _) (by omega) hI;obtain ⟨s',e1,e2,e3⟩:=yE g I k (i+1) (g i s) h2 (fun j s h1 h2=>h j s (by omega) (by omega));refine ⟨s',?_,?_,by rw [show i+(k+1)=i+1+k by omega];exact e3⟩
  ·simp only [dZ,h1,Option.bind_some,yn];rw [e1,show i+1+k=i+(k+1) by omega]
  ·rw [e2,List.range'_succ];rfl
theorem jR (q:α→Bool) (d:α) (l:List α):∀ (i:Nat),(List.range' i (l.length-i)).all (fun j=>q (l.getD j d))=(l.drop i).all q:=by
 intro i;by_cases h:i<l.length
 ·obtain ⟨k,hk⟩:∃ k,l.length-i=k+1:=⟨l.length-i-1,by omega⟩;have ih:=jR q d l (i+1);rw [hk,List.range'_succ,List.all_cons,List.drop_eq_getElem_cons h,List.all_cons];rw [show l.length-(i+1)=k by omega] at ih;rw [ih];simp [Kh,Ki h]
 ·rw [show l.length-i=0 by omega,List.drop_eq_nil_of_le (by omega)];rfl
 termination_by i=>l.length-i
theorem FN (q:α→Bool) (d:α) (l:List α):(List.range' 0 (l.length-0)).all (fun j=>q (l.getD j d))=l.all q:=by have:=jR q d l 0;simpa using this
theorem nC {β:Type} (g:β→α→β) (d:α) (l:List α):∀ (i:Nat) (s:β),(List.range' i (l.length-i)).foldl (fun s j=>g s (l.getD j d)) s=(l.drop i).foldl g s:=by
 intro i s;by_cases h:i<l.length
 ·obtain ⟨k,hk⟩:∃ k,l.length-i=k+1:=⟨l.length-i-1,by omega⟩;have ih:=nC g d l (i+1) (g s (l.getD i d));rw [hk,List.range'_succ,List.foldl_cons,List.drop_eq_getElem_cons h,List.foldl_cons];rw [show l.length-(i+1)=k by omega] at ih;rw [ih];simp [Kh,Ki h]
 ·rw [show l.length-i=0 by omega,List.drop_eq_nil_of_le (by omega)];rfl
 termination_by i=>l.length-i
def idxOf (p:α→Bool):List α→Int
 | [] => -1
 | x::l=>bif p x then 0 else (let r:=idxOf p l;bif r == -1 then -1 else r+1)
theorem rz (p:α→Bool):∀ l:List α,-1≤idxOf p l
 | []=>by simp [idxOf]
 | x::l=>by
  have:=rz p l;simp only [idxOf];cases p x
  ·cases h:idxOf p l == -1
   ·simp;omega
   ·simp
  ·simp
theorem pG (p:α→Bool):∀ l:List α,(idxOf p l<0)↔l.any p=false
 | []=>by simp [idxOf]
 | x::l=>by
  have h1:=rz p l;have h2:=pG p l;simp only [idxOf,List.any_cons];cases hp:p x
  ·cases h:idxOf p l == -1
   ·have:idxOf p l ≠ -1:=by simpa using h
    simp only [cond_false,Bool.false_or];rw [← h2];omega
   ·have:idxOf p l = -1:=by simpa using h
    simp only [cond_false,cond_true,Bool.false_or];rw [← h2];omega
  ·simp
theorem Aa (p:α→Bool) (d:α) (l:List α):∀ (i:Nat),(match (List.range' i (l.length-i)).find? (fun j=>p (l.getD j d)) with | some j=>((j:Nat):Int) | none => -1)=(bif idxOf p (l.drop i) == -1 then -1 else idxOf p (l.drop i)+i):=by
 intro i;by_cases h:i<l.length
 ·obtain ⟨k,hk⟩:∃ k,l.length-i=k+1:=⟨l.length-i-1,by omega⟩;have ih:=Aa p d l (i+1);rw [hk,List.range'_succ,List.find?_cons,List.drop_eq_getElem_cons h];rw [show l.length-(i+1)=k by omega] at ih;have e:l.getD i d=l[i]:=by simp [Kh,Ki h]
  rw [e];simp only [idxOf];cases hp:p l[i]
  ·simp only [cond_false];rw [ih];cases hq:idxOf p (l.drop (i+1)) == -1
   ·have h3:idxOf p (l.drop (i+1)) ≠ -1:=by simpa using hq
    have h4:=rz p (l.drop (i+1));simp only [cond_false];have:((idxOf p (l.drop (i+1))+1) == -1)=false:=by simp;omega
    rw [this];simp only [cond_false];omega
   ·simp
  ·simp
 ·rw [show l.length-i=0 by omega,List.drop_eq_nil_of_le (by omega)];rfl
 termination_by i=>l.length-i
theorem xN (p:α→Bool) (d:α) (l:List α):(match (List.range' 0 (l.length-0)).find? (fun j=>p (l.getD j d)) with | some j=>((j:Nat):Int) | none => -1)=idxOf p l:=by
 rw [Aa p d l 0];simp only [List.drop_zero];cases h:idxOf p l == -1
 ·simp
 ·have:idxOf p l = -1:=by simpa using h
  simp [this]
end
def cr (b:UInt8):Bool:=decide (48≤b.toNat)&&decide (b.toNat≤57)
def jm (acc:Nat) (l:aw):Nat:=l.foldl (fun a c=>a*10+(c.toNat-48)) acc
theorem xl (acc:Nat) (l:aw) (c:UInt8):jm acc (l++[c])=jm acc l*10+(c.toNat-48):=by simp [jm]
theorem xy:∀ (l:aw) (acc:Nat),l.all cr=true→(acc+1)*10 ^ l.length≤10 ^ 18→Lib.parseUint10 acc l = .ok (jm acc l)
 | [],acc,_,_=>rfl
 | c::l,acc,h,hb=>by
  simp only [List.all_cons,Kj,cr,decide_eq_true_eq] at h;obtain ⟨⟨h1,h2⟩,h3⟩:=h;have hp:1≤10 ^ l.length:=Nat.one_le_pow _ _ (by decide);have hb2:(acc*10+10)*10 ^ l.length≤10 ^ 18:=by
   have:(acc+1)*10 ^ (l.length+1)=(acc*10+10)*10 ^ l.length:=by rw [Nat.pow_succ];rw [show (acc*10+10)=(acc+1)*10 by omega,Nat.mul_assoc,Nat.mul_comm 10]
   rw [← this];simpa using hb
  have hb3:acc*10+10≤10 ^ 18:=Nat.le_trans (Nat.le_mul_of_pos_right _ hp) hb2;have e18:(10:Nat) ^ 18=1000000000000000000:=by decide
  rw [e18] at hb3;simp only [Lib.parseUint10];rw [if_pos ⟨h1,h2⟩,if_neg (by omega),if_neg (by omega)];rw [xy l _ (by simpa [cr] using h3) (Nat.le_trans (Nat.mul_le_mul_right _ (by omega)) hb2)];rfl
theorem zk {c:UInt8} (h:cr c=true):UInt8.ofNat (48+(c.toNat-48))=c:=by simp only [cr,Kj,decide_eq_true_eq] at h;rw [show 48+(c.toNat-48)=c.toNat by omega];exact UInt8.ofNat_toNat
theorem FM {α:Type} {P:List α→Prop} (h0:P []) (h1:∀ l c,P l→P (l++[c])) (l:List α):P l:=by
 have:∀ m:List α,P m.reverse:=by
  intro m;induction m with
  | nil=>exact h0
  | cons c m ih=>simpa using h1 _ c ih
 simpa using this l.reverse
theorem GN (l:aw):l.all cr=true→l≠[]→l.head? ≠ some 48→1≤jm 0 l∧Lib.decDigits (jm 0 l)=l:=by
 refine FM (P:=fun l=>l.all cr=true→l≠[]→l.head? ≠ some 48→1≤jm 0 l∧Lib.decDigits (jm 0 l)=l) ?_ ?_ l
 ·intro _ h;exact absurd rfl h
 ·intro l c ih h _ hh;rw [List.all_append,Kj] at h;have hc:cr c=true:=by simpa using h.2
  have hc':=hc;simp only [cr,Kj,decide_eq_true_eq] at hc';rw [xl];by_cases hl:l=[]
  ·subst hl;have hne:c≠48:=by simpa using hh
   have:c.toNat≠48:=fun e=>hne (by rw [← UInt8.toNat_inj];simpa using e);simp only [jm,List.foldl_nil,Nat.zero_mul,Nat.zero_add,List.nil_append];refine ⟨by omega,?_⟩;rw [Lib.decDigits_one (by omega),zk hc]
  ·have hh2:l.head? ≠ some 48:=by
    cases l with
    | nil=>exact absurd rfl hl
    | cons x l=>simpa using hh
   obtain ⟨i1,i2⟩:=ih h.1 hl hh2;refine ⟨by omega,?_⟩;rw [Lib.decDigits,dif_neg (by omega),show (jm 0 l*10+(c.toNat-48)) / 10=jm 0 l by omega,i2,show (jm 0 l*10+(c.toNat-48)) % 10=c.toNat-48 by omega,zk hc]
theorem qQ (u:Nat):(Lib.decDigits u).all cr=true∧(1≤u→(Lib.decDigits u).head? ≠ some 48)∧Lib.decDigits u≠[]:=by
 have key:∀ i,i<10→cr (UInt8.ofNat (48+i))=true:=by decide
 have key2:∀ i,i<10→1≤i→UInt8.ofNat (48+i)≠48:=by decide
 by_cases h:u<10
 ·rw [Lib.decDigits_one h];exact ⟨by simp only [List.all_cons,List.all_nil,Bool.and_true];exact key u h,fun h1=>by simpa using key2 u h h1,by simp⟩
 ·have ih:=qQ (u / 10);rw [Lib.decDigits,dif_neg h];refine ⟨by rw [List.all_append,ih.1];simp only [List.all_cons,List.all_nil,Bool.and_true,Bool.true_and];exact key (u % 10) (by omega),fun _ => ?_,by simp⟩;have:=ih.2.1 (by omega);cases hd:Lib.decDigits (u / 10) with
  | nil=>exact absurd hd ih.2.2
  | cons x l=>rw [hd] at this;simpa using this
 termination_by u
 decreasing_by omega
end Go.Sh
namespace Go.Proofs.YtlhcekghjfjajaaGreatDoor
open Go.Ab Go.Sh
theorem ax {α:Type} {p:Prop} [Decidable p] {x:Option α} (h:p):bH p x=x:=if_pos h
theorem jJ {ε β:Type} {b:Bool} {e:ε} {r:β} {f:ε→Option β}:(some (bif b then Out.brk e else Out.ret r:Out ε β)).bind (aft f)=bif b then f e else some r:=by cases b<;>rfl
theorem all_congr {p q:Nat→Bool}:∀ (k i:Nat),(∀ j,i≤j→j<i+k→p j=q j)→(List.range' i k).all p=(List.range' i k).all q
 | 0,i,_=>rfl
 | k+1,i,h=>by rw [List.range'_succ,List.all_cons,List.all_cons,h i (Nat.le_refl _) (by omega),all_congr k (i+1) (fun j h1 h2=>h j (by omega) (by omega))]
theorem E4 (c k:UInt8) (n:Int) (hk:(k.toNat:Int)=n):((c.toNat:Int)==n)=(c==k):=by rw [Bool.eq_iff_iff];simp only [beq_iff_eq,← UInt8.toNat_inj];omega
theorem F9 {α:Type} (l:List α):(((l.length:Nat):Int)==0)=l.isEmpty:=by
 cases l with
 | nil=>rfl
 | cons x l=>simp;omega
def isLet (b:UInt8):Bool:=decide (97≤b.toNat)&&decide (b.toNat≤122)
theorem oz (x:UInt8):iv x=some (cr x):=by
 unfold iv cr;by_cases h:48≤x.toNat
 ·rw [Ko (show (x.toNat:Int)≥48 by omega),Ko h];simp only [cond_true,Bool.true_and,Kr];rw [decide_eq_decide];omega
 ·rw [Kn (show ¬ (x.toNat:Int)≥48 by omega),Kn h];rfl
theorem tG (x:UInt8):iW x=some (isLet x):=by
 unfold iW isLet;by_cases h:97≤x.toNat
 ·rw [Ko (show (x.toNat:Int)≥97 by omega),Ko h];simp only [cond_true,Bool.true_and,Kr];rw [decide_eq_decide];omega
 ·rw [Kn (show ¬ (x.toNat:Int)≥97 by omega),Kn h];rfl
def eW:aw→Bool
 | []=>false
 | c::r=>bif c==95 then (decide (1≤r.length)&&(decide (r.length≤9)&&(!(r.getD 0 0==48)&&r.all cr))) else (decide (r.length≤29)&&(isLet c&&r.all (fun b=>isLet b||cr b)))
theorem wS (s:aw):kS s=some (eW s):=by
 cases s with
 | nil=>rfl
 | cons c r =>
  unfold kS;have e1:((((c::r).length:Nat):Int)==0)=false:=by simp;omega
  rw [e1];simp only [cond_false];have e95:((((c::r).getD 0 0).toNat:Int)==95)=(c==95):=by rw [List.getD_cons_zero];exact E4 c 95 95 rfl
  by_cases h30:r.length≤29
  ·rw [Kn (show ¬ (((c::r).length:Nat):Int)>30 by simp;omega)];simp only [cond_false];rw [ax (by simp),e95];simp only [eW];cases hc:c==95 with
   | true =>
    simp only [cond_true];by_cases h1:1≤r.length
    ·rw [Kn (show ¬ (((c::r).length:Nat):Int)<2 by simp;omega),Ko h1];simp only [cond_false,Bool.true_and];by_cases h9:r.length≤9
     ·rw [Kn (show ¬ (((c::r).length:Nat):Int)>10 by simp;omega),Ko h9];simp only [cond_false,Bool.true_and];rw [ax (by simp;omega)];have e48:((((c::r).getD 1 0).toNat:Int)==48)=(r.getD 0 0==48):=by rw [List.getD_cons_succ];exact E4 _ 48 48 rfl
      rw [e48];cases hd:r.getD 0 0==48 with
      | true=>simp
      | false =>
       simp only [cond_false,Bool.not_false,Bool.true_and];rw [gT (fun j=>cr ((c::r).getD j 0)) _ _ () (fun j u _ _=>by rw [oz];cases cr ((c::r).getD j 0)<;>rfl),jJ,jR cr 0 (c::r) 1];simp only [List.drop_succ_cons,List.drop_zero];cases r.all cr<;>rfl
     ·rw [Ko (show (((c::r).length:Nat):Int)>10 by simp;omega),Kn h9];simp
    ·rw [Ko (show (((c::r).length:Nat):Int)<2 by simp;omega),Kn h1];simp
   | false =>
    simp only [cond_false];rw [Ko h30];rw [gT (fun j=>isLet ((c::r).getD j 0)||(!(((j:Nat):Int)==0)&&cr ((c::r).getD j 0))) _ _ () (fun j u _ _=>by rw [tG,oz];cases isLet ((c::r).getD j 0)<;>cases cr ((c::r).getD j 0)<;>cases ((j:Nat):Int)==0<;>rfl),jJ]
    have e:(List.range' 0 ((c::r).length-0)).all (fun j=>isLet ((c::r).getD j 0)||(!(((j:Nat):Int)==0)&&cr ((c::r).getD j 0)))=(isLet c&&r.all (fun b=>isLet b||cr b)):=by
     rw [show (c::r).length-0=r.length+1 by simp,List.range'_succ,List.all_cons];have e0:(isLet ((c::r).getD 0 0)||(!(((0:Nat):Int)==0)&&cr ((c::r).getD 0 0)))=isLet c:=by simp
     rw [e0];congr 1;rw [all_congr (q:=fun j=>(fun b=>isLet b||cr b) ((c::r).getD j 0)) _ _ (fun j h1 _=>by
      have:(((j:Nat):Int)==0)=false:=by simp;omega
      simp only [this,Bool.not_false,Bool.true_and])]
     have:=jR (fun b=>isLet b||cr b) 0 (c::r) 1;simpa using this
    rw [e];simp only [Bool.true_and];cases isLet c&&r.all (fun b=>isLet b||cr b)<;>rfl
  ·rw [Ko (show (((c::r).length:Nat):Int)>30 by simp;omega)];simp only [cond_true,eW];rw [Kn h30];have:¬ r.length≤9:=by omega
   rw [Kn this];cases c==95<;>simp
theorem ln (s:aw) (c:UInt8):dj s [c]=some (match s with | []=>false | x::_=>x==c):=by
 unfold dj ct;cases s with
 | nil=>rfl
 | cons x l =>
  rw [Ko (by simp;omega)];simp only [cond_true];rw [ax (by simp)];simp
theorem vq {r:aw} (h0:r≠[]) (h:r.all cr=true) (hl:r.length≤9):Lib.atoiAll r = .ok (jm 0 r:Int)∧jm 0 r<10000000000:=by
 cases r with
 | nil=>exact absurd rfl h0
 | cons c r =>
  have hc:cr c=true:=by simp only [List.all_cons,Kj] at h;exact h.1
  have hc2:=hc;simp only [cr,Kj,decide_eq_true_eq] at hc2;have hp:(10:Nat) ^ (c::r).length≤10 ^ 9:=Nat.pow_le_pow_right (by decide) hl;have hv:=xy (c::r) 0 h (by
   rw [Nat.zero_add,Nat.one_mul];exact Nat.le_trans hp (by decide))
  have hb:∀ (l:aw) (a:Nat),l.all cr=true→jm a l+1≤(a+1)*10 ^ l.length:=by
   intro l;induction l with
   | nil=>intro a _;simp [jm]
   | cons x l ih =>
    intro a hx;simp only [List.all_cons,Kj,cr,decide_eq_true_eq] at hx;have:=ih (a*10+(x.toNat-48)) (by simpa [cr] using hx.2);have e:jm a (x::l)=jm (a*10+(x.toNat-48)) l:=rfl;rw [e];refine Nat.le_trans this ?_;rw [List.length_cons,Nat.pow_succ,Nat.mul_comm (10 ^ l.length) 10,← Nat.mul_assoc];exact Nat.mul_le_mul_right _ (by omega)
  have hlt:=hb (c::r) 0 h;rw [Nat.zero_add,Nat.one_mul] at hlt;have h9:(10:Nat) ^ 9=1000000000:=by decide
  rw [h9] at hp;refine ⟨?_,by omega⟩;rw [Lib.atoiAll_plain c r (by omega) (by omega)];have:Lib.parseMag (c::r) = .ok (jm 0 (c::r)):=by unfold Lib.parseMag;rw [if_neg (by simp)];exact hv
  rw [this];simp only [Lib.signless];rw [if_neg (by omega)]
theorem vL (s:aw) (hs:s.length≤1000000):jT s=some (eW s):=by
 unfold jT;rw [ln];cases s with
 | nil=>rfl
 | cons c r =>
  simp only [Option.bind_some,eW];have hr:r.length≤1000000:=by simp at hs;omega
  cases hc:c==95 with
  | true =>
   simp only [cond_true];rw [ax (by simp)];simp only [List.drop_succ_cons,List.drop_zero,lC];rw [ax (by omega)];simp only [Option.bind_some];by_cases h9:r.length≤9
   ·by_cases h1:1≤r.length
    ·rw [Ko h1,Ko h9];simp only [Bool.true_and];have hne:r≠[]:=by intro e;subst e;simp at h1
     have hhd:(r.getD 0 0==48)=decide (r.head? = some 48):=by
      cases r with
      | nil=>exact absurd rfl hne
      | cons x l=>simp;rw [Bool.eq_iff_iff];simp
     have key:∀ v:Int,0<v→v≤9223372036854775807→gM v=some (Lib.decDigits v.toNat)∨True:=fun _ _ _=>.inr trivial;by_cases hall:r.all cr=true
     ·obtain ⟨a1,a2⟩:=vq hne hall h9;simp only [n9,a1,cond_true];by_cases h48:r.head? = some 48
      ·
       rw [hhd,Ko h48];simp only [Bool.not_true,Bool.false_and];by_cases hz:jm 0 r=0
       ·rw [hz];rfl
       ·rw [Ko (by omega:(jm 0 r:Int)>0),Ko (by simp;omega:(((c::r).length:Nat):Int)≤10)];simp only [cond_true,gM];have hlen:(Lib.itoa (jm 0 r:Int)).length≤21:=Lib.itoa_length_le _ (by omega) (by omega);rw [ax ⟨by omega,by omega,by omega⟩];simp only [Option.bind_some,Kr];rw [Lib.itoa_nonneg,beq_eq_false_iff_ne];intro e;exact (qQ (jm 0 r)).2.1 (by omega) (by rw [e];exact h48)
      ·obtain ⟨d1,d2⟩:=GN r hall hne h48;rw [hhd,Kn h48,hall];simp only [Bool.not_false,Bool.true_and];rw [Ko (by omega:(jm 0 r:Int)>0),Ko (by simp;omega:(((c::r).length:Nat):Int)≤10)];simp only [cond_true,gM];have hlen:(Lib.itoa (jm 0 r:Int)).length≤21:=Lib.itoa_length_le _ (by omega) (by omega);rw [ax ⟨by omega,by omega,by omega⟩];simp only [Option.bind_some,Kr];rw [Lib.itoa_nonneg,d2];simp
     ·have hall:r.all cr=false:=by simpa using hall
      rw [hall];simp only [Bool.and_false];cases ha:Lib.atoiAll r with
      | ok v =>
       simp only [n9,ha,cond_true];by_cases hv:v>0
       ·rw [Ko hv,Ko (by simp;omega:(((c::r).length:Nat):Int)≤10)];simp only [cond_true,gM];have hvb:v≤9223372036854775807:=by
         cases r with
         | nil=>exact absurd rfl hne
         | cons x l =>
          unfold Lib.atoiAll at ha;simp only at ha;split at ha
          ·cases ha
          ·cases ha
          ·split at ha
           ·cases ha
           ·split at ha
            ·cases ha
            ·rename_i h1 h2;simp only [Lib.NumEnd.ok.injEq] at ha;rw [← ha];split
             ·omega
             ·rename_i h3;have:=h1;simp only [h3,not_false_eq_true,true_and] at this;omega
        have hlen:(Lib.itoa v).length≤21:=Lib.itoa_length_le _ (by omega) hvb;rw [ax ⟨by omega,hvb,by omega⟩];simp only [Option.bind_some,Kr];rw [beq_eq_false_iff_ne];intro e;have:(Lib.itoa v).all cr=true:=by unfold Lib.itoa;rw [if_neg (by omega)];exact (qQ _).1
        rw [e,hall] at this;cases this
       ·rw [Kn hv];rfl
      | range=>simp [n9,ha]
      | _=>simp [n9,ha]
    ·have:r=[]:=List.eq_nil_of_length_eq_zero (by omega);subst this;rfl
   ·rw [Kn h9,Kn (by simp;omega:¬ (((c::r).length:Nat):Int)≤10)];simp only [cond_false,Bool.false_and,Bool.and_false];cases (n9 r).2<;>cases decide ((n9 r).1>0)<;>rfl
  | false =>
   simp only [cond_false];rw [gT (fun j=>isLet ((c::r).getD j 0)||(!(((j:Nat):Int)==0)&&cr ((c::r).getD j 0))) _ _ () (fun j u _ _=>by
    simp only [isLet,cr];generalize (c::r).getD j 0=x;by_cases h1:(x.toNat:Int)<97
    ·rw [Ko h1,Kn (show ¬ 97≤x.toNat by omega)];simp only [cond_true,Bool.false_and,Bool.false_or];cases ((j:Nat):Int)==0
     ·simp only [cond_false,Bool.not_false,Bool.true_and];by_cases h2:(x.toNat:Int)<48
      ·rw [Ko h2,Kn (show ¬ 48≤x.toNat by omega)];rfl
      ·rw [Kn h2,Ko (show 48≤x.toNat by omega)];by_cases h3:(x.toNat:Int)>57
       ·rw [Ko h3,Kn (show ¬ x.toNat≤57 by omega)];rfl
       ·rw [Kn h3,Ko (show x.toNat≤57 by omega)];rfl
     ·rfl
    ·rw [Kn h1,Ko (show 97≤x.toNat by omega)];simp only [cond_false,Bool.true_and];by_cases h2:(x.toNat:Int)>122
     ·rw [Ko h2,Kn (show ¬ x.toNat≤122 by omega),Kn (show ¬ x.toNat≤57 by omega),Kn (show ¬ (x.toNat:Int)<48 by omega),Ko (show (x.toNat:Int)>57 by omega)];cases ((j:Nat):Int)==0<;>simp [Sh.aft]
     ·rw [Kn h2,Ko (show x.toNat≤122 by omega)];simp [Sh.aft]),jJ]
   have e:(List.range' 0 ((c::r).length-0)).all (fun j=>isLet ((c::r).getD j 0)||(!(((j:Nat):Int)==0)&&cr ((c::r).getD j 0)))=(isLet c&&r.all (fun b=>isLet b||cr b)):=by
    rw [show (c::r).length-0=r.length+1 by simp,List.range'_succ,List.all_cons];have e0:(isLet ((c::r).getD 0 0)||(!(((0:Nat):Int)==0)&&cr ((c::r).getD 0 0)))=isLet c:=by simp
    rw [e0];congr 1;rw [all_congr (q:=fun j=>(fun b=>isLet b||cr b) ((c::r).getD j 0)) _ _ (fun j h1 _=>by
     have:(((j:Nat):Int)==0)=false:=by simp;omega
     simp only [this,Bool.not_false,Bool.true_and])]
    have:=jR (fun b=>isLet b||cr b) 0 (c::r) 1;simpa using this
   rw [e];have e2:((c::r)==[])=false:=rfl;rw [e2];simp only [cond_false];by_cases h30:r.length≤29
   ·rw [Ko h30,Ko (by simp;omega:(((c::r).length:Nat):Int)≤30)];cases isLet c&&r.all (fun b=>isLet b||cr b)<;>rfl
   ·rw [Kn h30,Kn (by simp;omega:¬ (((c::r).length:Nat):Int)≤30)];cases isLet c&&r.all (fun b=>isLet b||cr b)<;>rfl
def B6 (n:Int):Bool:=decide (-1000000≤n)&&decide (n≤1000000)
theorem qH (n:Int):kB n=some (B6 n):=by
 unfold kB B6;by_cases h:n ≥ -1000000
 ·rw [Ko h];rfl
 ·rw [Kn h];rfl
theorem oo (n:Int):iw n=some (B6 n):=by
 unfold iw B6;by_cases h:n ≥ -1000000
 ·rw [Ko h];rfl
 ·rw [Kn h];rfl
def xK (l:Linear) (j:Nat):ak:=l.Terms.getD j ⟨[],0⟩
def kj (l:Linear) (j:Nat):Bool:=eW (xK l j).Var&&(!((xK l j).C==0)&&(B6 (xK l j).C&&(!decide (((j:Nat):Int)>0)||Op.bytesLess (xK l (j-1)).Var (xK l j).Var)))
def aq (l:Linear):Bool:=(List.range' 0 (l.Terms.length-0)).all (kj l)&&(B6 l.Const&&decide (l.Terms.length≤12))
theorem Ax {j:Nat} (h:0<j) (h2:j≤9223372036854775807):aD (((j:Nat):Int)-1)=((j-1:Nat):Int):=by rw [pt (by unfold wA;omega)];omega
theorem GX {l:List ak} {n:Nat} (h:∀ t∈l,t.Var.length≤n) (j:Nat):(l.getD j ⟨[],0⟩).Var.length≤n:=by
 rw [Kh];cases h1:l[j]? with
 | none=>simp
 | some x=>exact h x (List.mem_of_getElem? h1)
theorem dV (l:Linear) (h1:l.Terms.length≤1000000) (h2:∀ t∈l.Terms,t.Var.length≤1000000):bV l=some (aq l):=by
 unfold bV;rw [gT (kj l) _ _ () (fun j u _ hj=>by
  rw [vL _ (GX h2 j),qH];simp only [kj,xK,Option.bind_some];cases eW (l.Terms.getD j ⟨[],0⟩).Var
  ·rfl
  ·cases (l.Terms.getD j ⟨[],0⟩).C==0
   ·cases B6 (l.Terms.getD j ⟨[],0⟩).C
    ·rfl
    ·by_cases hp:0<j
     ·rw [Ko (show ((j:Nat):Int)>0 by omega),Ax hp (by omega)];rw [ax (by omega)];simp only [Int.toNat_natCast,cond_true,cond_false,Bool.not_true,Bool.false_or,Bool.true_and,Bool.not_false];cases Op.bytesLess (l.Terms.getD (j-1) ⟨[],0⟩).Var (l.Terms.getD j ⟨[],0⟩).Var<;>rfl
     ·rw [Kn (show ¬ ((j:Nat):Int)>0 by omega)];rfl
   ·rfl),jJ,qH]
 unfold aq;cases (List.range' 0 (l.Terms.length-0)).all (kj l)
 ·rfl
 ·cases B6 l.Const
  ·rfl
  ·simp only [cond_true,Option.bind_some,Bool.true_and,Kr];rw [decide_eq_decide];omega
theorem vr (l:Linear):iy l=some (aq l):=by
 unfold iy;rw [oo];unfold aq;by_cases h12:l.Terms.length≤12
 ·rw [Kn (show ¬ ((l.Terms.length:Nat):Int)>12 by omega),Ko h12];rw [gT (kj l) _ _ () (fun j u _ hj=>by
   rw [wS,oo];simp only [kj,xK,Option.bind_some];cases eW (l.Terms.getD j ⟨[],0⟩).Var
   ·rfl
   ·cases (l.Terms.getD j ⟨[],0⟩).C==0
    ·cases B6 (l.Terms.getD j ⟨[],0⟩).C
     ·rfl
     ·by_cases hp:0<j
      ·rw [Ko (show ((j:Nat):Int)>0 by omega),Ax hp (by omega)];rw [ax (by omega)];simp only [Int.toNat_natCast,cond_true,cond_false,Bool.not_true,Bool.false_or,Bool.true_and,Bool.not_false];cases Op.bytesLess (l.Terms.getD (j-1) ⟨[],0⟩).Var (l.Terms.getD j ⟨[],0⟩).Var<;>rfl
      ·rw [Kn (show ¬ ((j:Nat):Int)>0 by omega)];rfl
    ·rfl),jJ]
  cases (List.range' 0 (l.Terms.length-0)).all (kj l)<;>cases B6 l.Const<;>rfl
 ·rw [Ko (show ((l.Terms.length:Nat):Int)>12 by omega),Kn h12];cases (List.range' 0 (l.Terms.length-0)).all (kj l)<;>cases B6 l.Const<;>rfl
theorem Im {a b:Nat}:decide (((a:Nat):Int)>(b:Int)) = !decide (a≤b):=by
 by_cases h:a≤b
 ·rw [Ko h,Kn (by omega)];rfl
 ·rw [Kn h,Ko (by omega)];rfl
theorem F2 {a b:Nat}:decide (((a:Nat):Int)≤(b:Int))=decide (a≤b):=by rw [decide_eq_decide];omega
theorem re (l:Linear):Linear.mk l.Const l.Terms=l:=rfl
def GH (l:Linear):Prop:=l.Terms.length≤1000000∧∀ t∈l.Terms,t.Var.length≤1000000
def Kf (s:Shape):Prop:=s.Row.length≤1000000∧∀ l∈s.Dims,GH l
theorem xz {body:Nat→Unit→Option (fX Unit Unit Int)} {fin:Nat→Unit→Unit} (m:Nat) (E:Nat→Prop):∀ (k i:Nat) (u:Unit),(∀ j u,i≤j→j<i+k→(j<m∧E j∧body j u=some (.go ()))∨(j<m∧¬ E j∧∃ x,x≠0∧body j u=some (.ret x))∨(m≤j∧body j u=some (.brk ()))) →
 (dZ body fin k i u=some (.brk ())∧∀ j,i≤j→j<i+k→j<m→E j)∨(∃ x,x≠0∧dZ body fin k i u=some (.ret x)∧∃ j,i≤j∧j<i+k∧j<m∧¬ E j)
 | 0,i,u,h=>.inl ⟨rfl,fun j h1 h2=>by omega⟩
 | k+1,i,u,h=>by
  rcases h i u (Nat.le_refl _) (by omega) with ⟨h1,h2,h3⟩ | ⟨h1,h2,x,h3,h4⟩ | ⟨h1,h2⟩
  ·rcases xz m E k (i+1) () (fun j u h1 h2=>h j u (by omega) (by omega)) with ⟨e,ha⟩ | ⟨x,hx,e,j,j1,j2,j3,j4⟩
   ·refine .inl ⟨by simp only [dZ,h3,Option.bind_some,yn];exact e,fun j j1 j2 j3 => ?_⟩;by_cases hj:j=i
    ·subst hj;exact h2
    ·exact ha j (by omega) (by omega) j3
   ·exact .inr ⟨x,hx,by simp only [dZ,h3,Option.bind_some,yn];exact e,j,by omega,by omega,j3,j4⟩
  ·exact .inr ⟨x,h3,by simp only [dZ,h4,Option.bind_some,yn],i,Nat.le_refl _,by omega,h1,h2⟩
  ·exact .inl ⟨by simp only [dZ,h2,Option.bind_some,yn],fun j j1 j2 j3=>by omega⟩
theorem Fu {α:Type} (d:α) {x y:List α} (hl:x.length=y.length) (h:∀ j,j<x.length→x.getD j d=y.getD j d):x=y:=by refine List.ext_getElem hl fun j h1 h2 => ?_;have:=h j h1;simpa [Kh,Ki h1,Ki h2] using this
theorem Ik {a b:Nat}:(((a:Nat):Int)==((b:Nat):Int))=decide (a=b):=by rw [Bool.eq_iff_iff];simp only [beq_iff_eq,decide_eq_true_eq];omega
theorem GA (x y:ak):((x.Var==y.Var)&&((x.C==y.C)&&true))=decide (x=y):=by cases x;cases y;rw [Bool.eq_iff_iff];simp
theorem uE (x y:Linear):jK x y=some (decide (x=y)):=by
 unfold jK jH;have key:=xz (fin:=fun _ _=>()) (body:=fun i147 s146 =>
  bif decide (((i147:Nat):Int)<((y.Terms.length:Nat):Int)) then (
   ((
    bif (Op.bytesLess ((x.Terms.getD i147 ⟨[],0⟩).Var) ((y.Terms.getD i147 ⟨[],0⟩).Var)) then (
     some (.ret (.ret (-1)))
    ) else (
     bif (((x.Terms.getD i147 ⟨[],0⟩).Var)==((y.Terms.getD i147 ⟨[],0⟩).Var)) then (
      bif decide (((x.Terms.getD i147 ⟨[],0⟩).C)<((y.Terms.getD i147 ⟨[],0⟩).C)) then (
       some (.ret (.ret (-1)))
      ) else (
       bif ((((x.Terms.getD i147 ⟨[],0⟩).Var)==((y.Terms.getD i147 ⟨[],0⟩).Var))&&((((x.Terms.getD i147 ⟨[],0⟩).C)==((y.Terms.getD i147 ⟨[],0⟩).C))&&true)) then (
        some (.brk ())
       ) else (
        some (.ret (.ret 1))
       )
      )
     ) else (
      bif ((((x.Terms.getD i147 ⟨[],0⟩).Var)==((y.Terms.getD i147 ⟨[],0⟩).Var))&&((((x.Terms.getD i147 ⟨[],0⟩).C)==((y.Terms.getD i147 ⟨[],0⟩).C))&&true)) then (
       some (.brk ())
      ) else (
       some (.ret (.ret 1))
      )
     )
    )
   ):Option (Out Unit (fX Unit Unit Int))).bind (Sh.aft fun u274 =>
    some (.go ())
   )
  ) else (
   some (.brk ())
  )) y.Terms.length (fun j=>x.Terms.getD j ⟨[],0⟩=y.Terms.getD j ⟨[],0⟩) (x.Terms.length-0) 0 () (fun j u _ _=>by
   by_cases hj:j<y.Terms.length
   ·rw [Ko (show ((j:Nat):Int)<((y.Terms.length:Nat):Int) by omega),GA];generalize x.Terms.getD j ⟨[],0⟩=a;generalize y.Terms.getD j ⟨[],0⟩=b;by_cases hab:a=b
    ·subst hab;refine .inl ⟨hj,rfl,?_⟩;have h1:Op.bytesLess a.Var a.Var=false:=by
      have:∀ l:aw,Op.bytesLess l l=false:=by
       intro l;induction l with
       | nil=>rfl
       | cons x l ih=>simp [Op.bytesLess,ih]
      exact this _
     rw [h1];simp [Sh.aft]
    ·refine .inr (.inl ⟨hj,hab,?_⟩);rw [Kn hab];cases Op.bytesLess a.Var b.Var with
     | true=>exact ⟨-1,by decide,rfl⟩
     | false =>
      cases hv:a.Var==b.Var with
      | true =>
       cases decide (a.C<b.C) with
       | true=>exact ⟨-1,by decide,rfl⟩
       | false=>exact ⟨1,by decide,rfl⟩
      | false=>exact ⟨1,by decide,rfl⟩
   ·rw [Kn (show ¬ ((j:Nat):Int)<((y.Terms.length:Nat):Int) by omega)];exact .inr (.inr ⟨by omega,rfl⟩))
 rcases key with ⟨e,ha⟩ | ⟨r,hr,e,j,_,j2,j3,j4⟩
 ·rw [e];simp only [Option.bind_some,Sh.aft];rw [Ik];cases x with | mk a s=>cases y with | mk b t =>
  simp only at ha ⊢;by_cases hl:s.length=t.length
  ·have hst:s=t:=Fu ⟨[],0⟩ hl fun j hj=>ha j (by omega) (by omega) (by omega);subst hst;rw [Kn (show ¬ ((s.length:Nat):Int)<((s.length:Nat):Int) by omega),Ko (rfl:s.length=s.length)];simp only [cond_true,cond_false];by_cases h1:a<b
   ·rw [Ko h1];have:¬ a=b:=by omega
    simp [this]
   ·rw [Kn h1];by_cases h2:a>b
    ·rw [Ko h2];have:¬ a=b:=by omega
     simp [this]
    ·rw [Kn h2];have:a=b:=by omega
     simp [this]
  ·rw [Kn hl];have hne:¬ (Linear.mk a s=Linear.mk b t):=fun e=>hl (by simp at e;rw [e.2]);rw [Kn hne];by_cases h1:s.length<t.length
   ·rw [Ko (show ((s.length:Nat):Int)<((t.length:Nat):Int) by omega)];rfl
   ·rw [Kn (show ¬ ((s.length:Nat):Int)<((t.length:Nat):Int) by omega),Ko (show ((s.length:Nat):Int)>((t.length:Nat):Int) by omega)];rfl
 ·rw [e];simp only [Option.bind_some,Sh.aft];have hne:¬ (x=y):=fun e=>j4 (by rw [e]);rw [Kn hne];simpa using hr
abbrev A7:Bind:=⟨0,[],⟨0,[]⟩,⟨[],[]⟩,[]⟩
theorem Jr (b:Bind):Bind.mk b.Kind b.Var b.Dim b.Row b.Elem=b:=rfl
def oS (k:Int) (v:aw) (b:Bind):Bool:=b.Kind==k&&b.Var==v
theorem E2 (l:List Bind) (p:Bind→Bool):∀ x:Option Nat,(match x with | some j=>((j:Nat):Int) | none => -1)=idxOf p l →
 ((some (match x with | some j=>Out.ret ((j:Nat):Int) | none=>Out.brk ()):Option (Out Unit Int)).bind (Sh.aft fun _=>some (-1)))=some (idxOf p l)
 | none,hx=>by rw [← hx];rfl
 | some j,hx=>by rw [← hx];rfl
def okB (b:Bind):Prop:=b.Var.length≤1000000∧GH b.Dim∧Kf b.Row
theorem EZ {l:List Bind} (h:∀ b∈l,okB b) (j:Nat):okB (l.getD j A7):=by
 rw [Kh];cases h1:l[j]? with
 | none=>exact ⟨by simp,⟨by simp,fun t ht=>by simp at ht⟩,⟨by simp,fun t ht=>by simp at ht⟩⟩
 | some x=>exact h x (List.mem_of_getElem? h1)
theorem v8 (l:Linear) (h:l.Terms.length≤1000000):iE l=some (l.Terms.map (·.Var)):=by
 unfold iE;obtain ⟨s',e1,e2,_⟩:=yE (fin:=fun _ s=>s) (body:=fun i18 s17 =>
  bH ((s17.length+1)*16≤140737488355328) <|
  some (.go (s17++[((l.Terms.getD i18 ⟨[],0⟩).Var)]))) (ε:=List aw) (ρ:=Empty) (fun j s=>s++[(l.Terms.getD j ⟨[],0⟩).Var]) (fun j s=>s.length=j) (l.Terms.length-0) 0 [] rfl (fun j s _ hj hI=>by refine ⟨by rw [ax (by omega)],by simp [hI]⟩)
 rw [e1];simp only [Option.bind_some,dG,Kr];rw [e2];have:=nC (fun (s:List aw) (t:ak)=>s++[t.Var]) ⟨[],0⟩ l.Terms 0 [];rw [this];simp only [List.drop_zero];have gen:∀ (ts:List ak) (s:List aw),ts.foldl (fun s t=>s++[t.Var]) s=s++ts.map (·.Var):=by
  intro ts;induction ts with
  | nil=>intro s;simp
  | cons t ts ih=>intro s;simp [ih]
 rw [gen];rfl
theorem b8 {l:Linear} (h:aq l=true):l.Terms.length≤12:=by simp only [aq,Kj,decide_eq_true_eq] at h;exact h.2.2
end Go.Proofs.YtlhcekghjfjajaaGreatDoor
namespace Go.Sh
theorem la {α:Type} [DecidableEq α]:∀ (l l':List α),l.Nodup→(∀ x∈l,x∈l')→l.length≤l'.length
 | [],l',_,_=>by simp
 | a::l,l',h,hs=>by
  rw [List.nodup_cons] at h;have ha:a∈l':=hs a (by simp);have ih:=la l (l'.erase a) h.2 (fun x hx=>by have hne:x≠a:=fun e=>h.1 (e ▸ hx);exact (List.mem_erase_of_ne hne).2 (hs x (by simp [hx])))
  rw [List.length_erase_of_mem ha] at ih;have:0<l'.length:=List.length_pos_of_mem ha;simp only [List.length_cons];omega
theorem HG {V σ ε β:Type} {m:List (aw×V)} {body:aw×V→σ→Option (fX σ ε β)} {K:σ→Prop} {J:β→Prop} (I:List Nat→σ→Prop) (g:σ→aw×V→σ)
 (hstep:∀ seen s i (h:i<m.length),seen.Nodup→i ∉ seen→(∀ j∈seen,j<m.length)→I seen s→body m[i] s=some (.go (g s m[i]))∧I (seen++[i]) (g s m[i]))
 (hend:∀ seen s,seen.Nodup→(∀ i,i<m.length→i∈seen)→(∀ i∈seen,i<m.length)→I seen s→K s) :
 ∀ (n:Nat) (seen:List Nat) (s:σ),seen.Nodup→(∀ i∈seen,i<m.length)→n+seen.length=m.length→I seen s→MR m body K J n seen s
 | 0,seen,s,h1,h2,h3,hI=>by
  have hall:∀ i,i<m.length→i∈seen:=by
   intro i hi;refine Classical.byContradiction fun hn => ?_;have:=la (i::seen) (List.range m.length) (List.nodup_cons.2 ⟨hn,h1⟩) (fun x hx=>by
    rcases List.mem_cons.1 hx with rfl | hx
    ·simpa using hi
    ·simpa using h2 x hx)
   simp at this;omega
  exact ⟨hall,hend seen s h1 hall h2 hI⟩
 | n+1,seen,s,h1,h2,h3,hI=>by
  refine ⟨?_,fun i hi hn => ?_⟩
  ·refine Classical.byContradiction fun hn => ?_;have:=la (List.range m.length) seen List.nodup_range (fun x hx=>Classical.byContradiction fun hx2=>hn ⟨x,by simpa using hx,hx2⟩);simp at this;omega
  ·obtain ⟨e1,e2⟩:=hstep seen s i hi h1 hn h2 hI;refine ⟨_,e1,?_⟩;have hnd:(seen++[i]).Nodup:=by
    rw [List.nodup_append];exact ⟨h1,by simp,fun a ha b hb=>by
     have:b=i:=by simpa using hb
     subst this;intro e;subst e;exact hn ha⟩
   exact HG I g hstep hend n (seen++[i]) _ hnd (fun j hj=>by
    rcases List.mem_append.1 hj with hj | hj
    ·exact h2 j hj
    ·have:j=i:=by simpa using hj
     subst this;exact hi) (by simp;omega) e2
def wz (x y:aw):Bool:=decide (x≤y)
theorem xB (a b c:aw) (h1:wz a b=true) (h2:wz b c=true):wz a c=true:=by simp only [wz,decide_eq_true_eq] at *;exact List.le_trans h1 h2
theorem w4 (a b:aw):(wz a b||wz b a)=true:=by simp only [wz,Bool.or_eq_true,decide_eq_true_eq];exact List.le_total a b
theorem AK (a b:aw) (h1:wz a b=true) (h2:wz b a=true):a=b:=by simp only [wz,decide_eq_true_eq] at *;exact List.le_antisymm h1 h2
theorem oP (l:List aw):(Go.Ab.sortS l).Pairwise (fun a b=>wz a b=true):=List.pairwise_mergeSort xB w4 l
theorem sy (l:List aw):(Go.Ab.sortS l).Perm l:=List.mergeSort_perm l _
theorem Cn {l r:List aw} (hs:r.Pairwise (fun a b=>wz a b=true)) (hp:r.Perm l):Go.Ab.sortS l=r :=
 List.Perm.eq_of_pairwise (fun a b _ _=>AK a b) (oP l) hs ((sy l).trans hp.symm)
theorem va {l r:List aw} (h:l.Perm r):Go.Ab.sortS l=Go.Ab.sortS r:=Cn (oP r) ((sy r).trans h.symm)
def Bu (x:aw):List aw→List aw
 | []=>[x]
 | y::l=>bif wz x y then x::y::l else y::Bu x l
def ml:List aw→List aw
 | []=>[]
 | x::l=>Bu x (ml l)
theorem rX (x:aw):∀ l,(Bu x l).Perm (x::l)
 | []=>.refl _
 | y::l=>by
  simp only [Bu];cases wz x y
  ·exact ((rX x l).cons y).trans (.swap _ _ _)
  ·exact .refl _
theorem sR (x:aw):∀ {l:List aw},l.Pairwise (fun a b=>wz a b=true)→(Bu x l).Pairwise (fun a b=>wz a b=true)
 | [],_=>by simp [Bu]
 | y::l,h=>by
  rw [List.pairwise_cons] at h;simp only [Bu];cases hxy:wz x y
  ·simp only [cond_false,List.pairwise_cons];have hyx:wz y x=true:=by have:=w4 x y;rw [hxy] at this;simpa using this
   refine ⟨fun a ha => ?_,sR x h.2⟩;rcases List.mem_cons.1 ((rX x l).mem_iff.1 ha) with rfl | ha
   ·exact hyx
   ·exact h.1 a ha
  ·simp only [cond_true,List.pairwise_cons];refine ⟨fun a ha => ?_,h⟩;rcases List.mem_cons.1 ha with rfl | ha
   ·exact hxy
   ·exact xB _ _ _ hxy (h.1 a ha)
theorem ll:∀ l,(ml l).Perm l
 | []=>.refl _
 | x::l=>(rX x _).trans ((ll l).cons x)
theorem rp:∀ l,(ml l).Pairwise (fun a b=>wz a b=true)
 | []=>List.Pairwise.nil
 | x::l=>sR x (rp l)
theorem zD (l:List aw):Go.Ab.sortS l=ml l:=Cn (rp l) (ll l)
def sw:List aw→Bool
 | []=>true
 | x::l => !(l.any fun y=>y==x)&&sw l
theorem xd:∀ {l:List aw},sw l=true→l.Nodup
 | [],_=>List.nodup_nil
 | x::l,h=>by simp only [sw,Kj,Bool.not_eq_true',List.any_eq_false,beq_iff_eq] at h;exact List.nodup_cons.2 ⟨fun hm=>h.1 x hm rfl,xd h.2⟩
end Go.Sh
namespace Go.Proofs.YtlhcekghjfjajaaGreatDoor
open Go.Ab Go.Sh
def ck (m:List (aw×Int)):List aw:=(m.filter fun e => !(e.2==0)).map (·.1)
def pn (n:Int) (m:List (aw×Int)) (names:List aw):Linear×Int :=
 bif aq (Linear.mk n (names.map fun k=>ak.mk k (bA 0 k m))) then (Linear.mk n (names.map fun k=>ak.mk k (bA 0 k m)),0) else (Linear.mk 0 [],3)
def uO (m:List (aw×Int)):Bool:=sw (m.map (·.1))&&(decide (m.length≤1000)&&m.all fun e=>decide (e.1.length≤1000000))
theorem Gw (m:List (aw×Int)) (y:List aw) (hy:y.length≤1000000):(dZ (σ:=(List ak)) (ε:=(List ak)) (ρ:=Empty) (fun i117 s116 =>
 bH ((s116.length+1)*24≤140737488355328) <|
 some (.go (s116++[(ak.mk (y.getD i117 []) (bA 0 (y.getD i117 []) m))]))
 ) (fun i117 s116=>s116) (y.length-0) 0 [])=some (.brk (y.map fun k=>ak.mk k (bA 0 k m))):=by
 obtain ⟨s',e1,e2,_⟩:=yE (fin:=fun _ s=>s) (body:=fun i117 s116 =>
  bH ((s116.length+1)*24≤140737488355328) <|
  some (.go (s116++[(ak.mk (y.getD i117 []) (bA 0 (y.getD i117 []) m))]))) (ε:=List ak) (ρ:=Empty) (fun j s=>s++[(fun k=>ak.mk k (bA 0 k m)) (y.getD j [])]) (fun j s=>s.length=j) (y.length-0) 0 [] rfl (fun j s _ hj hI=>⟨by rw [ax (by omega)],by simp [hI]⟩)
 rw [e1,e2];have:=nC (fun (s:List ak) (k:aw)=>s++[(fun k=>ak.mk k (bA 0 k m)) k]) [] y 0 [];rw [this];have gen:∀ (ts:List aw) (s:List ak),ts.foldl (fun s k=>s++[(fun k=>ak.mk k (bA 0 k m)) k]) s=s++ts.map (fun k=>ak.mk k (bA 0 k m)):=by
  intro ts;induction ts with
  | nil=>intro s;simp
  | cons t ts ih=>intro s;simp [ih]
 rw [List.drop_zero,gen];rfl
theorem Gb (n:Int) (m:List (aw×Int)) (hm:uO m=true) (s:List aw) (hp:s.Perm (ck m)) :
 ((jS s).bind fun y97 =>
 (dZ (σ:=(List ak)) (ε:=(List ak)) (ρ:=Empty) (fun i117 s116 =>
  bH ((s116.length+1)*24≤140737488355328) <|
  some (.go (s116++[(ak.mk (y97.getD i117 []) (bA 0 (y97.getD i117 []) m))]))
 ) (fun i117 s116=>s116) (y97.length-0) 0 []).bind <| dG fun u148 =>
 (bV (Linear.mk n u148)).bind fun y151 =>
 bif y151 then (
  some ((Linear.mk n u148),0)
 ) else (
  some ((Linear.mk 0 []),3)
 ))=some (pn n m (ml (ck m))):=by
 simp only [uO,Kj,decide_eq_true_eq,Ku] at hm;obtain ⟨_,hl,hk⟩:=hm;have hlen:(ck m).length≤m.length:=by unfold ck;rw [Kp];exact List.length_filter_le _ _
 have hs:s.length≤1000:=by rw [hp.length_eq];omega
 unfold jS;rw [ax (by omega)];simp only [Option.bind_some];rw [va hp,zD];have hsi:(ml (ck m)).length≤1000:=by rw [(ll _).length_eq];omega
 rw [Gw m _ (by omega)];simp only [Option.bind_some,dG];rw [dV _ (by simp;omega) (fun t ht=>by obtain ⟨k,hk1,rfl⟩:=List.mem_map.1 ht;have hk2:=(ll _).mem_iff.1 hk1;obtain ⟨e,he,rfl⟩:=List.mem_map.1 hk2;exact hk e (List.mem_filter.1 he).1)]
 simp only [Option.bind_some,pn];cases aq (Linear.mk n ((ml (ck m)).map fun k=>ak.mk k (bA 0 k m)))<;>rfl
theorem Gf {β:Type} (m:List (aw×Int)) (hm:uO m=true) (k:List aw→Option β) (v:β) (hk:∀ s,s.Perm (ck m)→k s=some v) :
 lM (σ:=(List aw)) (ε:=Empty) (β:=β) m (fun e164 s94 =>
 bif (e164.2==0) then (
  some (.go s94)
 ) else (
  bH ((s94.length+1)*16≤140737488355328) <|
  some (.go (s94++[e164.1]))
 )) [] k=some v:=by
 simp only [uO,Kj,decide_eq_true_eq,Ku] at hm;obtain ⟨hnd,hl,_⟩:=hm;have hnd:=xd hnd;have hinj:∀ i j (hi:i<m.length) (hj:j<m.length),m[i].1=m[j].1→i=j:=by
  intro i j hi hj e;have h1:(m.map (·.1))[i]'(by simpa using hi)=(m.map (·.1))[j]'(by simpa using hj):=by simpa using e
  exact (List.getElem_inj hnd).1 h1
 refine pj (HG (fun seen s=>s.Nodup∧s.length≤seen.length∧∀ x,x∈s↔∃ i,i∈seen∧∃ h:i<m.length,m[i].1=x∧m[i].2≠0) (fun s e=>bif e.2==0 then s else s++[e.1]) ?_ ?_ m.length [] [] List.nodup_nil (fun i hi=>by simp at hi) (by simp) ⟨List.nodup_nil,by simp,fun x=>by simp⟩)
 ·rintro seen s i hi hs1 hs2 hs3 ⟨i1,i2,i3⟩;have hsl:seen.length≤m.length:=by have:=la seen (List.range m.length) hs1 (fun x hx=>by simpa using hs3 x hx);simpa using this
  cases hz:m[i].2==0 with
  | true =>
   have hz':m[i].2=0:=by simpa using hz
   refine ⟨rfl,i1,by simp;omega,fun x => ?_⟩;simp only [cond_true];rw [i3];constructor
   ·rintro ⟨j,h1,h2⟩;exact ⟨j,by simp [h1],h2⟩
   ·rintro ⟨j,h1,h2,h3,h4⟩;rcases List.mem_append.1 h1 with h1 | h1
    ·exact ⟨j,h1,h2,h3,h4⟩
    ·have:j=i:=by simpa using h1
     subst this;exact absurd hz' h4
  | false =>
   have hz':m[i].2≠0:=by simpa using hz
   simp only [cond_false];rw [ax (by omega)];refine ⟨rfl,?_,by simp;omega,fun x => ?_⟩
   ·rw [List.nodup_append];refine ⟨i1,by simp,fun a ha b hb => ?_⟩;have hb:b=m[i].1:=by simpa using hb
    subst hb;intro e;obtain ⟨j,h1,h2,h3,_⟩:=(i3 a).1 ha;exact hs2 (hinj j i h2 hi (h3.trans e) ▸ h1)
   ·rw [List.mem_append,i3];constructor
    ·rintro (⟨j,h1,h2⟩ | h)
     ·exact ⟨j,by simp [h1],h2⟩
     ·have h:x=m[i].1:=by simpa using h
      exact ⟨i,by simp,hi,h.symm,hz'⟩
    ·rintro ⟨j,h1,h2,h3,h4⟩;rcases List.mem_append.1 h1 with h1 | h1
     ·exact .inl ⟨j,h1,h2,h3,h4⟩
     ·have:j=i:=by simpa using h1
      subst this;exact .inr (by simp [h3])
 ·rintro seen s hs1 hall hlt ⟨i1,i2,i3⟩;refine hk s ?_;have hn2:(ck m).Nodup:=by unfold ck;exact (List.Sublist.map _ List.filter_sublist).nodup hnd
  refine (List.perm_ext_iff_of_nodup i1 hn2).2 fun x => ?_;rw [i3];unfold ck;simp only [List.mem_map,List.mem_filter,Bool.not_eq_true',beq_eq_false_iff_ne];constructor
  ·rintro ⟨j,_,h2,h3,h4⟩;exact ⟨m[j],⟨List.getElem_mem h2,h4⟩,h3⟩
  ·rintro ⟨e,⟨h1,h2⟩,h3⟩;obtain ⟨j,hj,rfl⟩:=List.getElem_of_mem h1;exact ⟨j,hall j hj,hj,h3,h2⟩
theorem wN (n:Int) (m:List (aw×Int)) (hm:uO m=true):eD n m=some (pn n m (ml (ck m))):=by unfold eD;exact Gf m hm _ _ fun s hp=>Gb n m hm s hp
end Go.Proofs.YtlhcekghjfjajaaGreatDoor
namespace Go.Sh
section
variable {α σ ε ρ:Type}
def gv (g:α→σ→fX σ ε ρ) (fin:σ→ε):List α→σ→Out ε ρ
 | [],s=>.brk (fin s)
 | x::l,s=>match g x s with | .go s'=>gv g fin l s' | .brk e=>.brk e | .ret r=>.ret r
theorem wj {body:Nat→σ→Option (fX σ ε ρ)} {fin:Nat→σ→ε} {f:σ→ε} (d:α) (l:List α) (g:α→σ→fX σ ε ρ) (I:Nat→σ→Prop) (hf:∀ i s,fin i s=f s) :
 ∀ (i:Nat) (s:σ),I i s→(∀ j s,i≤j→j<l.length→I j s→body j s=some (g (l.getD j d) s)∧∀ s',g (l.getD j d) s = .go s'→I (j+1) s') →
 dZ body fin (l.length-i) i s=some (gv g f (l.drop i) s):=by
 intro i s hI h;by_cases hi:i<l.length
 ·obtain ⟨k,hk⟩:∃ k,l.length-i=k+1:=⟨l.length-i-1,by omega⟩;obtain ⟨h1,h2⟩:=h i s (Nat.le_refl _) hi hI;have hx:l.getD i d=l[i]:=by simp [Kh,Ki hi]
  rw [hx] at h1 h2;rw [hk,List.drop_eq_getElem_cons hi];simp only [dZ,h1,Option.bind_some,gv];cases hg:g l[i] s with
  | go s' =>
   have ih:=wj d l g I hf (i+1) s' (h2 s' hg) (fun j s h1 h2=>h j s (by omega) h2);rw [show l.length-(i+1)=k by omega] at ih;exact ih
  | brk e=>rfl
  | ret r=>rfl
 ·rw [show l.length-i=0 by omega,List.drop_eq_nil_of_le (by omega)];simp [dZ,gv,hf]
 termination_by i=>l.length-i
theorem dU {body:Nat→σ→Option (fX σ ε ρ)} {fin:Nat→σ→ε} {f:σ→ε} (d:α) (l:List α) (g:α→σ→fX σ ε ρ) (I:Nat→σ→Prop) (hf:∀ i s,fin i s=f s) (s:σ) (hI:I 0 s)
 (h:∀ j s,j<l.length→I j s→body j s=some (g (l.getD j d) s)∧∀ s',g (l.getD j d) s = .go s'→I (j+1) s') :
 dZ body fin (l.length-0) 0 s=some (gv g f l s):=by
 have:=wj d l g I hf 0 s hI (fun j s _ h1 h2=>h j s h1 h2);simpa using this
theorem sE (p:α→Bool) (d:α):∀ l:List α,0≤idxOf p l→(idxOf p l).toNat<l.length∧p (l.getD (idxOf p l).toNat d)=true
 | [],h=>by simp [idxOf] at h
 | x::l,h=>by
  cases hp:p x with
  | true=>simp [idxOf,hp]
  | false =>
   have hge:=rz p l;simp only [idxOf,hp,cond_false] at h ⊢;by_cases hm:idxOf p l = -1
   ·rw [hm] at h;simp at h
   ·have e:(idxOf p l == -1)=false:=by simpa using hm
    rw [e,cond_false];obtain ⟨h1,h2⟩:=sE p d l (by omega);have e2:(idxOf p l+1).toNat=(idxOf p l).toNat+1:=by omega
    rw [e2];exact ⟨by simp;omega,by simpa using h2⟩
theorem Fa (p:α→Bool) (d:α) (l:List α):idxOf p l<(l.length:Int):=by
 by_cases h:0≤idxOf p l
 ·have:=(sE p d l h).1;omega
 ·omega
end
end Go.Sh
namespace Go.Proofs.YtlhcekghjfjajaaGreatDoor
open Go.Ab Go.Sh
def dd (f:aw→Int):List ak→Int
 | []=>0
 | t::ts=>t.C*f t.Var+dd f ts
def kf (f:aw→Int) (l:Linear):Int:=l.Const+dd f l.Terms
theorem prod_bound {a b A B:Int} (h1 : -A≤a) (h2:a≤A) (h3 : -B≤b) (h4:b≤B) : -(A*B)≤a*b∧a*b≤A*B:=by
 have hA:0≤A:=by omega
 have hB:0≤B:=by omega
 have hn:(a*b).natAbs≤A.natAbs*B.natAbs:=by rw [Int.natAbs_mul];exact Nat.mul_le_mul (by omega) (by omega)
 have e:((A.natAbs*B.natAbs:Nat):Int)=A*B:=by rw [Int.natCast_mul];congr 1<;>omega
 omega
theorem cP {l:Linear} (h:aq l=true):∀ t∈l.Terms,(-1000000≤t.C∧t.C≤1000000)∧eW t.Var=true:=by
 intro t ht;obtain ⟨j,hj,rfl⟩:=List.getElem_of_mem ht;simp only [aq,Kj,Ku] at h;have:=h.1 j (by simpa using hj);have e:xK l j=l.Terms[j]:=by simp [xK,Kh,Ki hj]
 simp only [kj,e,Kj,B6,decide_eq_true_eq] at this;exact ⟨this.2.2.1,this.1⟩
theorem nv {l:Linear} (h:aq l=true) : -1000000≤l.Const∧l.Const≤1000000:=by simp only [aq,Kj,B6,decide_eq_true_eq] at h;exact h.2.1
theorem gS {s:aw} (h:eW s=true):s.length≤30:=by
 cases s with
 | nil=>simp
 | cons c r =>
  simp only [eW] at h;cases hc:c==95
  ·simp only [hc,cond_false,Kj,decide_eq_true_eq] at h;simp;omega
  ·simp only [hc,cond_true,Kj,decide_eq_true_eq] at h;simp;omega
theorem jD {l:Linear} (h:aq l=true):GH l :=
 ⟨by have:=b8 h;omega,fun t ht=>by have:=gS (cP h t ht).2;omega⟩
end Go.Proofs.YtlhcekghjfjajaaGreatDoor
namespace Go.Sh
def oV (f:aw→Int):List (aw×Int)→Int
 | []=>0
 | (k,c)::m=>c*f k+oV f m
theorem vQ (f:aw→Int) (x:aw) (v:Int):∀ m:List (aw×Int),oV f (bL x v m)=oV f m+(v-bA 0 x m)*f x
 | []=>by simp [bL,bA,oV]
 | (k,u)::m=>by
  by_cases h:k=x
  ·subst h;simp only [bL,bA,if_pos,oV];rw [Int.sub_mul];omega
  ·simp only [bL,bA,if_neg h,oV];rw [vQ f x v m];omega
theorem xo (x y:aw) (v:Int):∀ m:List (aw×Int),bA 0 y (bL x v m)=if x=y then v else bA 0 y m
 | []=>by simp [bL,bA]
 | (k,u)::m=>by
  by_cases h:k=x
  ·subst h;simp only [bL,bA,if_pos];by_cases h2:k=y
   ·simp [h2]
   ·simp [h2]
  ·simp only [bL,if_neg h,bA];rw [xo x y v m];by_cases h2:k=y
   ·subst h2;simp [Ne.symm h]
   ·simp [h2]
theorem jv (x:aw) (v:Int):∀ m:List (aw×Int),(bL x v m).map (·.1)=if x∈m.map (·.1) then m.map (·.1) else m.map (·.1)++[x]
 | []=>by simp [bL]
 | (k,u)::m=>by
  by_cases h:k=x
  ·subst h;simp [bL]
  ·simp only [bL,if_neg h,List.map_cons,jv x v m,List.mem_cons,Ne.symm h,false_or];split<;>simp
structure Sm (B:Int) (K:Nat) (m:List (aw×Int)):Prop where
 bd:∀ x,-B≤bA 0 x m∧bA 0 x m≤B
 len:m.length≤K
 nd:(m.map (·.1)).Nodup
 key:∀ x∈m.map (·.1),x.length≤1000000
theorem Sm.nil:Sm 0 0 []:=⟨fun x=>by simp [bA],by simp,by simp,by simp⟩
theorem Sm.put {B:Int} {K:Nat} {m:List (aw×Int)} (h:Sm B K m) {x:aw} {v:Int} {B':Int} (hx:x.length≤1000000) (hB:B≤B') (h1 : -B'≤v) (h2:v≤B'):Sm B' (K+1) (bL x v m):=by
 refine ⟨fun y => ?_,?_,?_,fun y hy => ?_⟩
 ·rw [xo];split
  ·exact ⟨h1,h2⟩
  ·have:=h.bd y;omega
 ·have e:=congrArg List.length (jv x v m);have:=h.len;split at e<;>simp at e<;>omega
 ·rw [jv];split
  ·exact h.nd
  ·rename_i hn;rw [List.nodup_append];exact ⟨h.nd,by simp,fun a ha b hb=>by
    have:b=x:=by simpa using hb
    subst this;intro e;subst e;exact hn ha⟩
 ·rw [jv] at hy;split at hy
  ·exact h.key y hy
  ·rcases List.mem_append.1 hy with hy | hy
   ·exact h.key y hy
   ·have:y=x:=by simpa using hy
    subst this;exact hx
theorem Sm.mono {B B':Int} {K K':Nat} {m:List (aw×Int)} (h:Sm B K m) (h1:B≤B') (h2:K≤K'):Sm B' K' m :=
 ⟨fun x=>by have:=h.bd x;omega,by have:=h.len;omega,h.nd,h.key⟩
theorem wW:∀ {l:List aw},l.Nodup→sw l=true
 | [],_=>rfl
 | x::l,h=>by rw [List.nodup_cons] at h;simp only [sw,Kj,Bool.not_eq_true',List.any_eq_false,beq_iff_eq];exact ⟨fun y hy e=>h.1 (e ▸ hy),wW h.2⟩
end Go.Sh
namespace Go.Proofs.YtlhcekghjfjajaaGreatDoor
open Go.Ab Go.Sh
theorem Hs {B:Int} {K:Nat} {m:List (aw×Int)} (h:Sm B K m) (hK:K≤1000):uO m=true:=by simp only [uO,Kj,decide_eq_true_eq,Ku];refine ⟨wW h.nd,by have:=h.len;omega,fun e he=>h.key e.1 (List.mem_map.2 ⟨e,he,rfl⟩)⟩
def zR (k:Int) (t:ak) (m:List (aw×Int)):List (aw×Int):=bL t.Var (aD ((bA 0 t.Var m)+(aD (k*t.C)))) m
def BK (l:Linear) (k:Int) (n:Int) (m:List (aw×Int)):Int×List (aw×Int):=(aD (n+aD (k*l.Const)),l.Terms.foldl (fun m t=>zR k t m) m)
theorem qF (l:Linear) (k n:Int) (m:List (aw×Int)):gg l k n m=some (BK l k n m):=by
 unfold gg;obtain ⟨s',e1,e2,_⟩:=yE (σ:=List (aw×Int)) (ε:=(Int×(List (aw×Int)))) (ρ:=(Int×(List (aw×Int)))) (fin:=fun _ s41=>((aD (n+(aD (k*l.Const)))),s41))
  (body:=fun i42 s41 =>
  some (.go (bL ((l.Terms.getD i42 ⟨[],0⟩).Var) (aD ((bA 0 ((l.Terms.getD i42 ⟨[],0⟩).Var) s41)+(aD (k*((l.Terms.getD i42 ⟨[],0⟩).C))))) s41)))
  (fun j m=>zR k (l.Terms.getD j ⟨[],0⟩) m) (fun _ _=>True) (l.Terms.length-0) 0 m trivial (fun j s _ _ _=>⟨rfl,trivial⟩)
 rw [e1];simp only [Option.bind_some,Sh.aft,BK,Kr];rw [e2];have:=nC (fun (m:List (aw×Int)) (t:ak)=>zR k t m) ⟨[],0⟩ l.Terms 0 m;rw [this];rfl
theorem ED (a b c:Int):a*b*c=a*(b*c):=Int.mul_assoc a b c
theorem zj (f:aw→Int) (k:Int) (hk : -1000000≤k∧k≤1000000):∀ (ts:List ak) (m:List (aw×Int)) (B:Int) (K:Nat),(∀ t∈ts,(-1000000≤t.C∧t.C≤1000000)∧t.Var.length≤1000000) →
 Sm B K m→0≤B→B+(ts.length:Int)*1000000000000≤9000000000000000000 →
 Sm (B+(ts.length:Int)*1000000000000) (K+ts.length) (ts.foldl (fun m t=>zR k t m) m)∧oV f (ts.foldl (fun m t=>zR k t m) m)=oV f m+k*dd f ts
 | [],m,B,K,_,hs,_,_=>⟨by simpa using hs,by simp [dd]⟩
 | t::ts,m,B,K,hC,hs,hB,hle=>by
  obtain ⟨⟨c1,c2⟩,hv⟩:=hC t (by simp);obtain ⟨b1,b2⟩:=prod_bound hk.1 hk.2 c1 c2;have hlen:(((t::ts).length:Nat):Int)=(ts.length:Int)+1:=by simp
  rw [hlen] at hle;have hle':B+((ts.length:Int)*1000000000000+1000000000000)≤9000000000000000000:=by rw [Int.add_mul] at hle;omega
  have hp:0≤(ts.length:Int)*1000000000000:=by omega
  obtain ⟨m1,m2⟩:=hs.bd t.Var;have e:zR k t m=bL t.Var (bA 0 t.Var m+k*t.C) m:=by unfold zR;rw [pt (n:=k*t.C) (by unfold wA;omega),pt (by unfold wA;omega)]
  have hs1:=hs.put (v:=bA 0 t.Var m+k*t.C) (B':=B+1000000000000) hv (by omega) (by omega) (by omega);rw [← e] at hs1;obtain ⟨g1,g2⟩:=zj f k hk ts (zR k t m) (B+1000000000000) (K+1) (fun x hx=>hC x (by simp [hx])) hs1 (by omega) (by omega);rw [List.foldl_cons,hlen];refine ⟨?_,?_⟩
  ·have e1:B+1000000000000+(ts.length:Int)*1000000000000=B+((ts.length:Int)+1)*1000000000000:=by rw [Int.add_mul];omega
   have e2:K+1+ts.length=K+(t::ts).length:=by simp;omega
   rw [← e1,← e2];exact g1
  ·rw [g2,e,vQ];simp only [dd];rw [Int.mul_add,show bA 0 t.Var m+k*t.C-bA 0 t.Var m=k*t.C by omega,ED];omega
theorem xP (f:aw→Int) {a b:List ak} (h:a.Perm b):dd f a=dd f b:=by
 induction h with
 | nil=>rfl
 | cons x _ ih=>simp only [dd,ih]
 | swap x y l=>simp only [dd];omega
 | trans _ _ h1 h2=>exact h1.trans h2
theorem DT {k x:aw} {u:Int} {m:List (aw×Int)} (h:k≠x):bA 0 x ((k,u)::m)=bA 0 x m:=by simp [bA,h]
theorem DD (m:List (aw×Int)) {x:aw} (h:x∈ck m):x∈m.map (·.1):=by unfold ck at h;obtain ⟨e,he,rfl⟩:=List.mem_map.1 h;exact List.mem_map.2 ⟨e,(List.mem_filter.1 he).1,rfl⟩
theorem w6 (f:aw→Int):∀ m:List (aw×Int),(m.map (·.1)).Nodup→dd f ((ck m).map fun k=>ak.mk k (bA 0 k m))=oV f m
 | [],_=>rfl
 | (k,u)::m,h=>by
  rw [List.map_cons,List.nodup_cons] at h;have ih:=w6 f m h.2;have hskip:(ck m).map (fun x=>ak.mk x (bA 0 x ((k,u)::m)))=(ck m).map fun x=>ak.mk x (bA 0 x m):=by refine List.map_congr_left fun x hx => ?_;rw [DT fun e=>h.1 (by subst e;exact DD m hx)]
  by_cases hu:u=0
  ·subst hu;have e:ck ((k,(0:Int))::m)=ck m:=by simp [ck]
   rw [e,hskip,ih];simp [oV]
  ·have e:ck ((k,u)::m)=k::ck m:=by simp [ck,hu]
   rw [e,List.map_cons,hskip];simp only [dd,ih,oV];simp [bA]
theorem En {n:Int} {m:List (aw×Int)} {B:Int} {K:Nat} (hs:Sm B K m) (f:aw→Int) (h:(pn n m (ml (ck m))).2=0):aq (pn n m (ml (ck m))).1=true∧kf f (pn n m (ml (ck m))).1=n+oV f m:=by
 unfold pn at h ⊢;cases hv:aq (Linear.mk n ((ml (ck m)).map fun k=>ak.mk k (bA 0 k m))) with
 | false=>rw [hv] at h;simp at h
 | true =>
  simp only [cond_true,kf];refine ⟨hv,?_⟩;rw [xP f ((ll (ck m)).map _),w6 f m hs.nd]
def Eu (bs:List Bind) (t:ak) (s:Int×List (aw×Int)):fX (Int×List (aw×Int)) (Int×List (aw×Int)) (Linear×Int) :=
 bif decide (idxOf (oS 1 t.Var) bs<0) then .go (s.1,bL t.Var (aD (bA 0 t.Var s.2+t.C)) s.2) else
 bif aq (bs.getD (idxOf (oS 1 t.Var) bs).toNat A7).Dim then .go (BK (bs.getD (idxOf (oS 1 t.Var) bs).toNat A7).Dim t.C s.1 s.2) else .ret ((Linear.mk 0 []),1)
def sv (bs:List Bind) (f:aw→Int) (v:aw):Int:=bif decide (idxOf (oS 1 v) bs<0) then f v else kf f (bs.getD (idxOf (oS 1 v) bs).toNat A7).Dim
theorem DB (bs:List Bind) (v:aw) (c:Int):cC bs v c=some (idxOf (oS 1 v) bs):=by
 unfold cC;rw [vy (f:=fun j=>((j:Nat):Int)) (fun j=>oS 1 v (bs.getD j A7)) _ _ () (fun j u _ _=>by
  unfold iO oS;simp only;cases (bs.getD j A7).Kind==1
  ·rfl
  ·cases (bs.getD j A7).Var==v<;>rfl)]
 exact E2 bs (oS 1 v) _ (xN (oS 1 v) A7 bs)
def Hm (o:Out (Int×List (aw×Int)) (Linear×Int)):Linear×Int:=match o with | .brk u=>pn u.1 u.2 (ml (ck u.2)) | .ret r=>r
def BL (bs:List Bind) (l:Linear):Linear×Int:=bif aq l then Hm (gv (Eu bs) (fun s=>s) l.Terms (l.Const,[])) else ((Linear.mk 0 []),1)
def St (j:Nat) (c:Int) (s:Int×List (aw×Int)):Prop:=Sm ((j:Int)*12000000000000) (12*j) s.2 ∧ -(1000000+(j:Int)*1000000000000)≤s.1∧s.1≤1000000+(j:Int)*1000000000000
theorem Gv (bs:List Bind) (f:aw→Int) (t:ak) (c:Int) (j:Nat) (hj:j<12) (ht:(-1000000≤t.C∧t.C≤1000000)∧eW t.Var=true) (s s':Int×List (aw×Int)) (hs:St j c s) (h:Eu bs t s = .go s') :
 St (j+1) c s'∧s'.1+oV f s'.2=s.1+oV f s.2+t.C*sv bs f t.Var:=by
 have hn:=gS ht.2;have ej:((j+1:Nat):Int)*12000000000000=(j:Int)*12000000000000+12000000000000:=by omega
 obtain ⟨h1,h2,h3⟩:=hs;unfold Eu at h;by_cases h0:idxOf (oS 1 t.Var) bs<0
 ·rw [Ko h0,cond_true] at h;have e:s'=(s.1,bL t.Var (aD (bA 0 t.Var s.2+t.C)) s.2):=by injection h with h;exact h.symm
  obtain ⟨m1,m2⟩:=h1.bd t.Var;have hw:aD (bA 0 t.Var s.2+t.C)=bA 0 t.Var s.2+t.C:=pt (by unfold wA;omega);rw [hw] at e;subst e;refine ⟨⟨(h1.put (v:=bA 0 t.Var s.2+t.C) (B':=((j+1:Nat):Int)*12000000000000) (by omega) (by omega) (by omega) (by omega)).mono (Int.le_refl _) (by omega),by simp only;omega,by simp only;omega⟩,?_⟩;simp only;rw [vQ,show bA 0 t.Var s.2+t.C-bA 0 t.Var s.2=t.C by omega];simp only [sv,Ko h0,cond_true];omega
 ·rw [Kn h0,cond_false] at h;generalize hD:(bs.getD (idxOf (oS 1 t.Var) bs).toNat A7).Dim=D at h;cases hv:aq D with
  | false=>rw [hv,cond_false] at h;cases h
  | true =>
   rw [hv,cond_true] at h;have e:s'=BK D t.C s.1 s.2:=by injection h with h;exact h.symm
   subst e;obtain ⟨k1,k2⟩:=nv hv;have hl:=b8 hv;obtain ⟨b1,b2⟩:=prod_bound ht.1.1 ht.1.2 k1 k2;obtain ⟨g1,g2⟩:=zj f t.C ht.1 D.Terms s.2 ((j:Int)*12000000000000) (12*j) (fun x hx=>⟨(cP hv x hx).1,by have:=gS (cP hv x hx).2;omega⟩) h1 (by omega) (by omega);have hw:aD (s.1+aD (t.C*D.Const))=s.1+t.C*D.Const:=by rw [pt (n:=t.C*D.Const) (by unfold wA;omega),pt (by unfold wA;omega)]
   refine ⟨⟨g1.mono (by omega) (by omega),?_,?_⟩,?_⟩
   ·simp only [BK,hw];omega
   ·simp only [BK,hw];omega
   ·simp only [BK,hw,g2,sv,Kn h0,cond_false,hD,kf];rw [Int.mul_add];omega
theorem CK (bs:List Bind) (f:aw→Int) (c:Int) (ts:List ak):∀ (j:Nat) (s:Int×List (aw×Int)),j+ts.length≤12→(∀ t∈ts,(-1000000≤t.C∧t.C≤1000000)∧eW t.Var=true)→St j c s →
 (∃ u,gv (Eu bs) (fun s=>s) ts s = .brk u∧St (j+ts.length) c u∧u.1+oV f u.2=s.1+oV f s.2+dd (sv bs f) ts)∨gv (Eu bs) (fun s=>s) ts s = .ret ((Linear.mk 0 []),1):=by
 induction ts with
 | nil=>exact fun j s _ _ hs=>.inl ⟨s,rfl,hs,by simp [dd]⟩
 | cons t ts ih =>
  intro j s hj hC hs;have hj':j+1+ts.length≤12:=by simp at hj;omega
  have hret:∀ r,Eu bs t s = .ret r→r=((Linear.mk 0 []),1):=by intro r hg;unfold Eu at hg;cases h1:decide (idxOf (oS 1 t.Var) bs<0)<;>cases h2:aq (bs.getD (idxOf (oS 1 t.Var) bs).toNat A7).Dim<;>rw [h1,h2] at hg<;>first | (injection hg with hg;exact hg.symm) | cases hg
  have hbrk:∀ e,Eu bs t s ≠ .brk e:=by intro e hg;unfold Eu at hg;cases h1:decide (idxOf (oS 1 t.Var) bs<0)<;>cases h2:aq (bs.getD (idxOf (oS 1 t.Var) bs).toNat A7).Dim<;>rw [h1,h2] at hg<;>cases hg
  have hgo:=fun s'=>Gv bs f t c j (by simp at hj;omega) (hC t (by simp)) s s';simp only [gv];generalize Eu bs t s=R at hret hbrk hgo;cases R with
  | go s' =>
   obtain ⟨h1,h2⟩:=hgo s' hs rfl;rcases ih (j+1) s' hj' (fun x hx=>hC x (by simp [hx])) h1 with ⟨u,e1,e2,e3⟩ | e
   ·refine .inl ⟨u,e1,?_,?_⟩
    ·rw [show j+(t::ts).length=j+1+ts.length by simp;omega];exact e2
    ·rw [e3,h2];simp only [dd];omega
   ·exact .inr e
  | brk e=>exact absurd rfl (hbrk e)
  | ret r=>exact .inr (by rw [hret r rfl])
theorem Kd (l:Linear) (h:aq l=true):St 0 l.Const (l.Const,[]):=by obtain ⟨k1,k2⟩:=nv h;exact ⟨Sm.nil,by simp only;omega,by simp only;omega⟩
theorem oc (l:Linear) (bs:List Bind) (h:GH l) (hb:∀ b∈bs,okB b):gi l bs=some (BL bs l):=by
 unfold gi BL;rw [dV l h.1 h.2];simp only [Option.bind_some];cases hv:aq l with
 | false=>rfl
 | true =>
  simp only [cond_true];rw [dU (fin:=fun _ s=>(s.1,s.2)) (f:=fun s=>s) ⟨[],0⟩ l.Terms (Eu bs) (fun _ _=>True) (fun _ _=>rfl) (l.Const,[]) trivial (fun j s hj _=>⟨by
   rw [DB];simp only [Option.bind_some,Eu];generalize ht:l.Terms.getD j ⟨[],0⟩=t;by_cases h0:idxOf (oS 1 t.Var) bs<0
   ·rw [Ko h0];rfl
   ·rw [Kn h0];simp only [cond_false];rw [ax ⟨by omega,Fa _ A7 _⟩];have hk:=EZ hb (idxOf (oS 1 t.Var) bs).toNat;rw [re,dV _ hk.2.1.1 hk.2.1.2];simp only [Option.bind_some];cases aq (bs.getD (idxOf (oS 1 t.Var) bs).toNat A7).Dim with
    | false=>rfl
    | true=>simp only [cond_true];rw [qF];rfl,fun _ _=>trivial⟩)]
  rcases CK bs (fun _=>0) l.Const l.Terms 0 (l.Const,[]) (by have:=b8 hv;omega) (cP hv) (Kd l hv) with ⟨u,e1,e2,_⟩ | e
  ·rw [e1];simp only [Option.bind_some,Sh.aft,Hm];rw [wN u.1 u.2 (Hs e2.1 (by have:=b8 hv;omega))];rfl
  ·rw [e];rfl
theorem I6 {bs:List Bind} {l:Linear} (h:(BL bs l).2=0) (f:aw→Int):aq l=true∧aq (BL bs l).1=true∧kf f (BL bs l).1=kf (sv bs f) l:=by
 cases hv:aq l with
 | false=>unfold BL at h;rw [hv] at h;simp at h
 | true =>
  unfold BL at h ⊢;rw [hv,cond_true] at h ⊢;rcases CK bs f l.Const l.Terms 0 (l.Const,[]) (by have:=b8 hv;omega) (cP hv) (Kd l hv) with ⟨u,e1,e2,e3⟩ | e
  ·rw [e1] at h ⊢;simp only [Hm] at h ⊢;obtain ⟨g1,g2⟩:=En e2.1 f h;refine ⟨by simp,g1,?_⟩;rw [g2,e3];simp only [oV,kf];omega
  ·rw [e] at h;simp [Hm] at h
end Go.Proofs.YtlhcekghjfjajaaGreatDoor
namespace Go.Sh
def dec (n:Nat):aw:=Lib.decDigits n
theorem sG {n:Nat} (h:n<10):dec n=[UInt8.ofNat (48+n)]:=by unfold dec;rw [Lib.decDigits,dif_pos h]
theorem Ct {n:Nat} (h:¬ n<10):dec n=dec (n / 10)++[UInt8.ofNat (48+n % 10)]:=by unfold dec;rw [Lib.decDigits,dif_neg h]
theorem HV (n:Nat):dec n≠[]:=(qQ n).2.2
theorem zG {α σ ε ρ:Type} (g:σ→α→σ):∀ (l:List α) (s:σ),gv (ε:=σ) (ρ:=ρ) (fun x s=>fX.go (g s x)) (fun s=>s) l s = .brk (l.foldl g s)
 | [],s=>rfl
 | x::l,s=>by simp only [gv];rw [zG (ε:=ε) g l];rfl
end Go.Sh
namespace Go.Proofs.YtlhcekghjfjajaaGreatDoor
open Go.Ab Go.Sh
theorem Fv (n:Int):Lib.itoa n=(bif decide (n<0) then 45::dec n.natAbs else dec n.natAbs):=by
 unfold Lib.itoa;by_cases h:n<0
 ·rw [if_pos h,Ko h];rfl
 ·rw [if_neg h,Kn h];show Lib.decDigits n.toNat=Lib.decDigits n.natAbs;congr 1;omega
theorem ba {α:Type} (d:α) {l:List α} {j:Nat} (h:j<l.length):l.getD j d∈l:=by rw [Kh,Ki h];exact List.getElem_mem h
end Go.Proofs.YtlhcekghjfjajaaGreatDoor
namespace Go.Sh
structure Gm (K:Nat) (m:List (aw×Int)):Prop where
 len:m.length≤K
 nd:(m.map (·.1)).Nodup
 key:∀ x∈m.map (·.1),x.length≤1000000
theorem Gm.nil:Gm 0 []:=⟨by simp,by simp,by simp⟩
theorem Gm.put {K:Nat} {m:List (aw×Int)} (h:Gm K m) {x:aw} (v:Int) (hx:x.length≤1000000):Gm (K+1) (bL x v m):=by
 refine ⟨?_,?_,fun y hy => ?_⟩
 ·have e:=congrArg List.length (jv x v m);have:=h.len;split at e<;>simp at e<;>omega
 ·rw [jv];split
  ·exact h.nd
  ·rename_i hn;rw [List.nodup_append];exact ⟨h.nd,by simp,fun a ha b hb=>by
    have:b=x:=by simpa using hb
    subst this;intro e;subst e;exact hn ha⟩
 ·rw [jv] at hy;split at hy
  ·exact h.key y hy
  ·rcases List.mem_append.1 hy with hy | hy
   ·exact h.key y hy
   ·have:y=x:=by simpa using hy
    subst this;exact hx
theorem Gm.mono {K K':Nat} {m:List (aw×Int)} (h:Gm K m) (h1:K≤K'):Gm K' m:=⟨by have:=h.len;omega,h.nd,h.key⟩
end Go.Sh
namespace Go.Proofs.YtlhcekghjfjajaaGreatDoor
open Go.Ab Go.Sh
end Go.Proofs.YtlhcekghjfjajaaGreatDoor
namespace Go.Sh
theorem dT:∀ x:aw,Op.bytesLess x x=false
 | []=>rfl
 | a::x=>by simp [Op.bytesLess,dT x]
theorem fA:∀ x y z:aw,Op.bytesLess x y=true→Op.bytesLess y z=true→Op.bytesLess x z=true
 | _,[],_,h,_=>by simp [Op.bytesLess] at h
 | _,_::_,[],_,h=>by simp [Op.bytesLess] at h
 | [],_::_,_::_,_,_=>rfl
 | a::x,b::y,c::z,h1,h2=>by
  simp only [Op.bytesLess,Bool.or_eq_true,Kj,decide_eq_true_eq,beq_iff_eq] at h1 h2 ⊢;rcases h1 with h1 | ⟨rfl,h1⟩
  ·rcases h2 with h2 | ⟨rfl,h2⟩
   ·exact .inl (UInt8.lt_trans h1 h2)
   ·exact .inl h1
  ·rcases h2 with h2 | ⟨rfl,h2⟩
   ·exact .inl h2
   ·exact .inr ⟨rfl,fA x y z h1 h2⟩
theorem CS:∀ x y:aw,x<y↔Op.bytesLess x y=true
 | x,[]=>by simp [Op.bytesLess]
 | [],b::y=>by simp [Op.bytesLess]
 | a::x,b::y=>by rw [List.cons_lt_cons_iff,CS x y];simp only [Op.bytesLess,Bool.or_eq_true,Kj,decide_eq_true_eq,beq_iff_eq]
theorem JC {x y:aw} (h:Op.bytesLess x y=true):wz x y=true:=by simp only [wz,decide_eq_true_eq];show ¬ y<x;rw [CS];intro h2;have:=fA _ _ _ h h2;rw [dT] at this;cases this
theorem qp:∀ (k a:Nat),a<10 ^ (k+1)→(dec a).length≤k+1
 | k,a,h=>by
  by_cases h10:a<10
  ·rw [sG h10];simp
  ·cases k with
   | zero=>simp at h;omega
   | succ k =>
    rw [Ct h10];have hp:10 ^ (k+1+1)=10*10 ^ (k+1):=by rw [Nat.pow_succ];omega
    have:=qp k (a / 10) (by rw [hp] at h;omega);simp only [List.length_append,List.length_cons,List.length_nil];omega
theorem Ga (a:Nat):jm 0 (dec a)=a:=by
 induction a using Nat.strongRecOn with
 | _ a ih =>
  by_cases h:a<10
  ·rw [sG h];simp only [jm,List.foldl_cons,List.foldl_nil];rw [UInt8.toNat_ofNat_of_lt' (show _<256 by omega)];omega
  ·rw [Ct h,xl,ih (a / 10) (by omega),UInt8.toNat_ofNat_of_lt' (show _<256 by omega)];omega
end Go.Sh
namespace Go.Proofs.YtlhcekghjfjajaaGreatDoor
open Go.Ab Go.Sh
theorem vF {l:Linear} (h:aq l=true):(l.Terms.map (·.Var)).Pairwise (fun a b=>Op.bytesLess a b=true):=by
 have hadj:∀ j,0<j→(hj:j<l.Terms.length)→Op.bytesLess (l.Terms[j-1]'(by omega)).Var l.Terms[j].Var=true:=by
  intro j h0 hj;simp only [aq,Kj,Ku] at h;have:=h.1 j (by simpa using hj);have e:xK l j=l.Terms[j]:=by simp [xK,Kh,Ki hj]
  have e':xK l (j-1)=l.Terms[j-1]'(by omega):=by simp [xK,Kh,Ki (show j-1<l.Terms.length by omega)]
  simp only [kj,e,e',Kj,Bool.or_eq_true,Bool.not_eq_true',decide_eq_false_iff_not] at this;rcases this.2.2.2 with h | h
  ·omega
  ·exact h
 have hall:∀ (n i:Nat) (hi:i+n+1<l.Terms.length),Op.bytesLess (l.Terms[i]'(by omega)).Var l.Terms[i+n+1].Var=true:=by
  intro n;induction n with
  | zero=>intro i hi;exact hadj (i+1) (by omega) hi
  | succ n ih =>
   intro i hi;exact fA _ _ _ (ih i (by omega)) (hadj (i+(n+1)+1) (by omega) hi)
 rw [List.pairwise_iff_getElem];intro i j hi hj hij;simp only [List.getElem_map];simp only [Kp] at hi hj;have:=hall (j-i-1) i (by omega);have e:i+(j-i-1)+1=j:=by omega
 simp only [e] at this;exact this
theorem zg {l:Linear} (h:aq l=true):(l.Terms.map (·.Var)).Nodup:=(vF h).imp fun hab=>by intro e;rw [e,dT] at hab;cases hab
end Go.Proofs.YtlhcekghjfjajaaGreatDoor
namespace Go.Sh
def Dj (x s:aw):Prop:=∃ p,x=p++s
def pos (x s:aw):Int:=((x.length-s.length:Nat):Int)
theorem Dj.len {x s:aw} (h:Dj x s):s.length≤x.length:=by obtain ⟨p,rfl⟩:=h;simp
theorem Dj.drop {x s:aw} (h:Dj x s):x.drop (x.length-s.length)=s:=by obtain ⟨p,rfl⟩:=h;simp
theorem Dj.refl (x:aw):Dj x x:=⟨[],rfl⟩
theorem Dj.trans {x s r:aw} (h:Dj x s) (h2:Dj s r):Dj x r:=by obtain ⟨p,rfl⟩:=h;obtain ⟨q,rfl⟩:=h2;exact ⟨p++q,by simp⟩
theorem Dj.succ {x s:aw} {c:UInt8} (h:Dj x (c::s)):pos x (c::s)+1=pos x s:=by have:=h.len;unfold pos;simp at this ⊢;omega
theorem Dj.lt {x s:aw} {c:UInt8} (h:Dj x (c::s)):0≤pos x (c::s)∧pos x (c::s)<(x.length:Int):=by have:=h.len;unfold pos;simp at this ⊢;omega
end Go.Sh
namespace Go.Proofs.YtlhcekghjfjajaaGreatDoor
open Go.Ab Go.Sh
def vM (v:aw) (c:Int) (t:ak) (s:Bool×List ak):Bool×List ak :=
 let ins := !s.1 && !(Op.bytesLess t.Var v||t.Var==v)
 let out:=bif ins then s.2++[ak.mk v c] else s.2
 (bif t.Var==v then true else (s.1||ins),out++[ak.mk t.Var (bif t.Var==v then aD (t.C+c) else t.C)])
def nz (t:ak):Bool := !(t.C==0)
def qg (ts:List ak) (v:aw) (c:Int):List ak :=
 let r:=ts.foldl (fun s t=>vM v c t s) (false,[])
 bif r.1 then r.2 else r.2++[ak.mk v c]
def qO (ts:List ak) (v:aw) (c:Int):List ak:=(qg ts v c).filter nz
theorem Cm (v:aw) (c:Int):∀ (ts:List ak) (s:Bool×List ak),s.1=true→(ts.foldl (fun s t=>vM v c t s) s).1=true
 | [],s,h=>h
 | t::ts,s,h=>by rw [List.foldl_cons];refine Cm v c ts _ ?_;unfold vM;simp only [h];cases t.Var==v<;>rfl
theorem yf (v:aw) (c:Int):∀ (ts:List ak) (s:Bool×List ak),(ts.foldl (fun s t=>vM v c t s) s).2.length≤s.2.length+ts.length+(bif s.1 then 0 else (bif (ts.foldl (fun s t=>vM v c t s) s).1 then 1 else 0))
 | [],s=>by simp
 | t::ts,s=>by have ih:=yf v c ts (vM v c t s);have hp:=Cm v c ts (vM v c t s);rw [List.foldl_cons];generalize ts.foldl (fun s t=>vM v c t s) (vM v c t s)=r at ih hp ⊢;obtain ⟨s1,s2⟩:=s;unfold vM at ih hp;cases s1<;>cases h1:Op.bytesLess t.Var v<;>cases h2:t.Var==v<;>cases hr:r.1<;>simp [h1,h2,hr] at ih hp ⊢ <;> omega
theorem xb (ts:List ak) (v:aw) (c:Int):(qg ts v c).length≤ts.length+1:=by
 have:=yf v c ts (false,[]);unfold qg;simp only at this ⊢;cases hr:(ts.foldl (fun s t=>vM v c t s) (false,[])).1 with
 | true=>rw [hr] at this;simp at this ⊢;omega
 | false=>rw [hr] at this;simp at this ⊢;omega
theorem Ei (ts:List ak) (v:aw) (c:Int):(qO ts v c).length≤ts.length+1:=Nat.le_trans (List.length_filter_le _ _) (xb ts v c)
def yw (s1:Int×Int×List ak):Option (fX (Int×Int×List ak) (Int×List ak) Empty) :=
 bif decide (s1.2.1<((s1.2.2.length:Nat):Int)) then (
  bH (0≤s1.2.1∧s1.2.1<(s1.2.2.length:Int)) <|
  bH (s1.2.1.toNat<s1.2.2.length) <|
  ((
   bif (((s1.2.2.getD s1.2.1.toNat ⟨[],0⟩).C)==0) then (
    some (s1.1,s1.2.2)
   ) else (
    bH (0≤s1.1∧s1.1<(s1.2.2.length:Int)) <|
    bH (s1.1.toNat<s1.2.2.length) <|
    some ((aD (s1.1+1)),(s1.2.2.set s1.1.toNat (ak.mk ((s1.2.2.getD s1.2.1.toNat ⟨[],0⟩).Var) ((s1.2.2.getD s1.2.1.toNat ⟨[],0⟩).C))))
   )
  ):Option (Int×(List ak))).bind fun v4 =>
  some (.go (v4.1,(aD (s1.2.1+1)),v4.2))
 ) else (
  some (.brk (s1.1,s1.2.2))
 )
theorem ss (o:List ak) (ho:o.length≤1000000):∀ (n i k:Nat) (l:List ak) (N:Nat),i+n=o.length→n<N→l.length=o.length→k=((o.take i).filter nz).length→l.take k=(o.take i).filter nz→l.drop i=o.drop i→k≤i →
 ∃ l',kD yw N ((k:Int),(i:Int),l)=some (.brk (((o.filter nz).length:Int),l'))∧l'.take (o.filter nz).length=o.filter nz∧l'.length=o.length
 | 0,i,k,l,N,h1,h2,h3,h4,h5,h6,h7=>by
  obtain ⟨N',rfl⟩:∃ j,N=j+1:=⟨N-1,by omega⟩;have hi:i=o.length:=by omega
  rw [hi,List.take_length] at h4 h5;refine ⟨l,?_,by rw [← h4];exact h5,h3⟩;simp only [kD,yw];rw [Kn (by omega),← h4];rfl
 | n+1,i,k,l,N,h1,h2,h3,h4,h5,h6,h7=>by
  obtain ⟨N',rfl⟩:∃ j,N=j+1:=⟨N-1,by omega⟩;have hio:i<o.length:=by omega
  have hil:i<l.length:=by omega
  have hget:l[i]=o[i]:=by
   have e1:=List.drop_eq_getElem_cons hil;have e2:=List.drop_eq_getElem_cons hio;rw [h6,e2] at e1;injection e1 with e1 _
   exact e1.symm
  have hD:l.getD i ⟨[],0⟩=o[i]:=by rw [Kh,Ki hil];exact hget
  have ht:o.take (i+1)=o.take i++[o[i]]:=by rw [List.take_add_one];simp [Ki hio]
  have hdrop:l.drop (i+1)=o.drop (i+1):=by have:=congrArg (List.drop 1) h6;simpa [List.drop_drop,Nat.add_comm] using this
  simp only [kD];have hb:yw ((k:Int),(i:Int),l)=some (.go (bif nz o[i] then (((k+1:Nat):Int),((i+1:Nat):Int),l.set k o[i]) else ((k:Int),((i+1:Nat):Int),l))):=by
   unfold yw;simp only;rw [Ko (by omega)];simp only [cond_true,Int.toNat_natCast];rw [ax ⟨by omega,by omega⟩,ax (by omega),hD,pt (n:=((i:Int)+1)) (by unfold wA;omega)];unfold nz;cases o[i].C==0 with
   | true=>rfl
   | false =>
    simp only [cond_false,Bool.not_false,cond_true];rw [ax ⟨by omega,by omega⟩,ax (by omega),pt (by unfold wA;omega)];rfl
  rw [hb];simp only [Option.bind_some,yn];cases hz:nz o[i] with
  | false =>
   simp only [cond_false];have hf:(o.take (i+1)).filter nz=(o.take i).filter nz:=by rw [ht,List.filter_append];simp [hz]
   exact ss o ho n (i+1) k l N' (by omega) (by omega) h3 (by rw [hf];exact h4) (by rw [hf];exact h5) hdrop (by omega)
  | true =>
   simp only [cond_true];have hf:(o.take (i+1)).filter nz=(o.take i).filter nz++[o[i]]:=by rw [ht,List.filter_append];simp [hz]
   refine ss o ho n (i+1) (k+1) (l.set k o[i]) N' (by omega) (by omega) (by simp [h3]) (by rw [hf];simp [h4]) ?_ ?_ (by omega)
   ·rw [hf,← h5];have hk:k<l.length:=by omega
    rw [List.take_add_one];simp [List.getElem?_set_self,hk,List.take_set_of_le]
   ·rw [List.drop_set_of_lt (by omega)];exact hdrop
theorem GL (l:Linear) (v:aw) (c:Int) (h:l.Terms.length≤10000):fV l v c=some (Linear.mk l.Const (qO l.Terms v c)):=by
 unfold fV;rw [dU (fin:=fun _ s=>(s.1,s.2)) (f:=fun s=>s) ⟨[],0⟩ l.Terms (fun t s=>fX.go (vM v c t s)) (fun j s=>s.2.length≤2*j) (fun _ _=>rfl) (false,[]) (by simp) (fun j s hj hI=>by
  generalize l.Terms.getD j ⟨[],0⟩=t;obtain ⟨s1,s2⟩:=s;simp only at hI;refine ⟨?_,fun s' e => ?_⟩
  ·unfold vM;simp only;cases s1 with
   | true =>
    simp only [cond_true,cond_false,Option.bind_some];cases t.Var==v with
    | true =>
     simp only [cond_true,Option.bind_some];rw [ax (by omega)];rfl
    | false =>
     simp only [cond_false,Option.bind_some];rw [ax (by omega)];rfl
   | false =>
    simp only [cond_false,Option.bind_some,Bool.not_false,Bool.true_and,Bool.false_or];cases (!(Op.bytesLess t.Var v||t.Var==v)) with
    | true =>
     simp only [cond_true];rw [ax (by omega)];simp only [Option.bind_some];cases t.Var==v with
     | true =>
      simp only [cond_true,Option.bind_some];rw [ax (by simp;omega)]
     | false =>
      simp only [cond_false,Option.bind_some];rw [ax (by simp;omega)]
    | false =>
     simp only [cond_false,Option.bind_some];cases t.Var==v with
     | true =>
      simp only [cond_true,Option.bind_some];rw [ax (by omega)]
     | false =>
      simp only [cond_false,Option.bind_some];rw [ax (by omega)]
  ·injection e with e
   subst e;unfold vM;simp only;cases (!s1 && !(Op.bytesLess t.Var v||t.Var==v))<;>simp<;>omega)]
 rw [zG (α:=ak) (ε:=Bool×List ak) (fun s t=>vM v c t s)];simp only [Option.bind_some,dG];have hl:=xb l.Terms v c;have hl2:=yf v c l.Terms (false,[]);have hpl:((bif (l.Terms.foldl (fun s t=>vM v c t s) (false,[])).1 then some (l.Terms.foldl (fun s t=>vM v c t s) (false,[])).2 else bH (((l.Terms.foldl (fun s t=>vM v c t s) (false,[])).2.length+1)*24≤140737488355328) <| some ((l.Terms.foldl (fun s t=>vM v c t s) (false,[])).2++[ak.mk v c])):Option (List ak))=some (qg l.Terms v c):=by
  unfold qg;simp only;cases hr:(l.Terms.foldl (fun s t=>vM v c t s) (false,[])).1 with
  | true=>rfl
  | false =>
   rw [hr] at hl2;simp at hl2;simp only [cond_false];rw [ax (by omega)]
 refine (congrArg (fun o=>Option.bind o _) hpl).trans ?_;simp only [Option.bind_some];obtain ⟨l',e1,e2,e3⟩:=ss (qg l.Terms v c) (by omega) (qg l.Terms v c).length 0 0 (qg l.Terms v c) 4294967296 (by omega) (by omega) rfl (by simp) (by simp) rfl (by omega);have hfl:=List.length_filter_le nz (qg l.Terms v c);refine (congrArg (fun o:Option (Out (Int×List ak) Empty)=>Option.bind o _) e1).trans ?_;simp only [Option.bind_some,dG];rw [ax ⟨by omega,by omega⟩,Int.toNat_natCast,e2];rfl
theorem Bx (ts:List ak) (v:aw) (c:Int) (hc:c≠0) (h:∀ t∈ts,Op.bytesLess t.Var v=true∧t.C≠0):qO ts v c=ts++[ak.mk v c]:=by
 have gen:∀ (ts o:List ak),(∀ t∈ts,Op.bytesLess t.Var v=true∧t.C≠0)→ts.foldl (fun s t=>vM v c t s) (false,o)=(false,o++ts):=by
  intro ts;induction ts with
  | nil=>intro o _;simp
  | cons t ts ih =>
   intro o h;obtain ⟨h1,_⟩:=h t (by simp);have hne:(t.Var==v)=false:=by rw [beq_eq_false_iff_ne];intro e;rw [e,dT] at h1;cases h1
   have e:vM v c t (false,o)=(false,o++[t]):=by unfold vM;simp only [h1,hne,Bool.true_or,Bool.not_true,Bool.and_false,cond_false,Bool.or_self]
   rw [List.foldl_cons,e,ih _ fun x hx=>h x (by simp [hx])];simp
 have hg:=gen ts [] h;unfold qO qg;simp only;rw [hg];simp only [cond_false,List.nil_append];rw [List.filter_eq_self];intro t ht;rcases List.mem_append.1 ht with ht | ht
 ·simp [nz,(h t ht).2]
 ·have:t=ak.mk v c:=by simpa using ht
  subst this;simp [nz,hc]
def G9 (ts:List ak):Prop:=ts.Pairwise (fun a b=>Op.bytesLess a.Var b.Var=true)
def Nz (ts:List ak):Prop:=∀ t∈ts,t.C≠0
def ind (v:aw) (x:aw):Int:=if x=v then 1 else 0
theorem kO (v:aw):∀ ts:List ak,(∀ t∈ts,t.Var≠v)→dd (ind v) ts=0
 | [],_=>rfl
 | t::ts,h=>by simp only [dd,ind,if_neg (h t (by simp)),Int.mul_zero,Int.zero_add];exact kO v ts fun x hx=>h x (by simp [hx])
theorem ta {x y:aw} (h:Op.bytesLess x y=true):x≠y:=fun e=>by rw [e,dT] at h;cases h
theorem sk (x y:aw):Op.bytesLess x y=true∨x=y∨Op.bytesLess y x=true:=by
 rcases Bool.eq_false_or_eq_true (Op.bytesLess x y) with h | h
 ·exact .inl h
 ·rcases Bool.eq_false_or_eq_true (Op.bytesLess y x) with h' | h'
  ·exact .inr (.inr h')
  ·refine .inr (.inl ?_);have h1:¬ x<y:=fun e=>by rw [CS,h] at e;cases e
   have h2:¬ y<x:=fun e=>by rw [CS,h'] at e;cases e
   exact List.le_antisymm (List.not_lt.1 h2) (List.not_lt.1 h1)
theorem uD:∀ a b:List ak,G9 a→Nz a→G9 b→Nz b→(∀ f,dd f a=dd f b)→a=b
 | [],[],_,_,_,_,_=>rfl
 | [],t::ts,_,_,h1,h2,h=>by
  have:=h (ind t.Var);simp only [dd] at this;rw [kO t.Var ts fun x hx=>Ne.symm (ta ((List.pairwise_cons.1 h1).1 x hx))] at this;simp only [ind,if_pos,Int.mul_one,Int.add_zero] at this;exact absurd this.symm (h2 t (by simp))
 | t::ts,[],h1,h2,_,_,h=>by
  have:=h (ind t.Var);simp only [dd] at this;rw [kO t.Var ts fun x hx=>Ne.symm (ta ((List.pairwise_cons.1 h1).1 x hx))] at this;simp only [ind,if_pos,Int.mul_one,Int.add_zero] at this;exact absurd this (h2 t (by simp))
 | t::ts,u::us,h1,h2,h3,h4,h=>by
  have ht:=List.pairwise_cons.1 h1;have hu:=List.pairwise_cons.1 h3;have et:dd (ind t.Var) ts=0:=kO t.Var ts fun x hx=>Ne.symm (ta (ht.1 x hx));have eu:dd (ind u.Var) us=0:=kO u.Var us fun x hx=>Ne.symm (ta (hu.1 x hx));have i1:=h (ind t.Var);have i2:=h (ind u.Var);simp only [dd] at i1 i2;rcases sk t.Var u.Var with hl | he | hl
  ·have z:dd (ind t.Var) us=0:=kO t.Var us fun x hx=>Ne.symm (ta (fA _ _ _ hl (hu.1 x hx)));rw [et,z] at i1;simp only [ind,if_pos,if_neg (Ne.symm (ta hl)),Int.mul_one,Int.mul_zero,Int.add_zero] at i1;exact absurd i1 (h2 t (by simp))
  ·rw [et,he,eu] at i1;simp only [ind,if_pos,Int.mul_one,Int.add_zero] at i1;have e:t=u:=by obtain ⟨tv,tc⟩:=t;obtain ⟨uv,uc⟩:=u;simp only at he i1;rw [he,i1]
   subst e;rw [uD ts us ht.2 (fun x hx=>h2 x (by simp [hx])) hu.2 (fun x hx=>h4 x (by simp [hx])) fun f=>by have:=h f;simp only [dd] at this;omega]
  ·have z:dd (ind u.Var) ts=0:=kO u.Var ts fun x hx=>Ne.symm (ta (fA _ _ _ hl (ht.1 x hx)));rw [eu,z] at i2;simp only [ind,if_pos,if_neg (Ne.symm (ta hl)),Int.mul_one,Int.mul_zero,Int.add_zero] at i2;exact absurd i2.symm (h4 u (by simp))
structure RB (B:Int) (K:Nat) (ts:List ak):Prop where
 srt:G9 ts
 nz:Nz ts
 bd:∀ t∈ts,-B≤t.C∧t.C≤B
 len:ts.length≤K
theorem RB.nil:RB 0 0 []:=⟨List.Pairwise.nil,(fun t h=>by simp at h),(fun t h=>by simp at h),Nat.le_refl _⟩
theorem RB.mono {B B':Int} {K K':Nat} {ts:List ak} (h:RB B K ts) (h1:B≤B') (h2:K≤K'):RB B' K' ts :=
 ⟨h.srt,h.nz,fun t ht=>by have:=h.bd t ht;omega,Nat.le_trans h.len h2⟩
theorem nu {l:Linear} (h:aq l=true):G9 l.Terms:=by have:=vF h;rw [List.pairwise_map] at this;exact this
theorem dt {l:Linear} (h:aq l=true):Nz l.Terms:=by
 intro t ht;obtain ⟨j,hj,rfl⟩:=List.getElem_of_mem ht;simp only [aq,Kj,Ku] at h;have:=h.1 j (by simpa using hj);have e:xK l j=l.Terms[j]:=by simp [xK,Kh,Ki hj]
 simp only [kj,e,Kj,Bool.not_eq_true',beq_eq_false_iff_ne] at this;exact this.2.1
theorem I0:∀ ts:List ak,dd (fun _=>0) ts=0
 | []=>rfl
 | t::ts=>by simp only [dd,I0 ts];omega
def B9 (n:Int) (ts:List ak) (x:Linear) (k:Int):Int×List ak:=(aD (n+aD (k*x.Const)),x.Terms.foldl (fun ts t=>qO ts t.Var (aD (k*t.C))) ts)
theorem qG {α σ ρ:Type} (g:α→σ→σ):∀ (l:List α) (s:σ),gv (ε:=σ) (ρ:=ρ) (fun x s=>fX.go (g x s)) (fun s=>s) l s = .brk (l.foldl (fun s x=>g x s) s)
 | [],s=>rfl
 | x::l,s=>by simp only [gv,List.foldl_cons];exact qG g l (g x s)
theorem wm {α β γ:Type} (g:β→α→β) (a:γ):∀ (l:List α) (b:β),l.foldl (fun (s:γ×β) x=>(s.1,g s.2 x)) (a,b)=(a,l.foldl g b)
 | [],b=>rfl
 | x::l,b=>by simp only [List.foldl_cons];exact wm g a l (g b x)
theorem uZ (l x:Linear) (k:Int) (h1:l.Terms.length≤1000) (h2:x.Terms.length≤1000):cZ l x k=some (Linear.mk (B9 l.Const l.Terms x k).1 (B9 l.Const l.Terms x k).2):=by
 unfold cZ;rw [ax (by omega)];rw [dU (fin:=fun _ s=>(s.1,s.2)) (f:=fun s=>s) ⟨[],0⟩ x.Terms (fun t s=>fX.go (s.1,qO s.2 t.Var (aD (k*t.C)))) (fun j s=>s.2.length≤1000+j) (fun _ _=>rfl) _ (by simpa using h1) (fun j s hj hI=>⟨by
  rw [GL _ _ _ (by simp only;omega)];rfl,fun s' e=>by
  injection e with e
  subst e;have:=Ei s.2 (x.Terms.getD j ⟨[],0⟩).Var (aD (k*(x.Terms.getD j ⟨[],0⟩).C));simp only;omega⟩)]
 rw [qG (fun (t:ak) (s:Int×List ak)=>(s.1,qO s.2 t.Var (aD (k*t.C)))),wm (fun ts (t:ak)=>qO ts t.Var (aD (k*t.C)))];rfl
theorem bJ {n:Int} (h1 : -9223372036854775808≤n) (h2:n≤9223372036854775807):aD n=n:=by unfold aD IntKind.wrap IntKind.bits IntKind.signed;simp;omega
theorem tU {σ ε ρ:Type} {body:Nat→σ→Option (fX σ ε ρ)} {fin:Nat→σ→ε} (I:Nat→σ→Prop):∀ (k i:Nat) (s:σ),I i s→(∀ j s,i≤j→j<i+k→I j s→∃ s',body j s=some (.go s')∧I (j+1) s') →
 ∃ s',dZ body fin k i s=some (.brk (fin (i+k) s'))∧I (i+k) s'
 | 0,i,s,hI,h=>⟨s,by simp [dZ],hI⟩
 | k+1,i,s,hI,h=>by obtain ⟨s1,h1,h2⟩:=h i s (Nat.le_refl _) (by omega) hI;obtain ⟨s',e1,e3⟩:=tU I k (i+1) s1 h2 (fun j s h1 h2=>h j s (by omega) (by omega));refine ⟨s',?_,by rw [show i+(k+1)=i+1+k by omega];exact e3⟩;simp only [dZ,h1,Option.bind_some,yn];rw [e1,show i+1+k=i+(k+1) by omega]
def ko (n:Int):Bool:=decide (-4611686018427387904≤n)&&decide (n≤4611686018427387904)
theorem kx {n:Int}:ko n=true ↔ -4611686018427387904≤n∧n≤4611686018427387904:=by simp [ko]
theorem fH (l:List Int):eL l=some (l.all ko):=by
 unfold eL;rw [gT (fun j=>ko (l.getD j 0)) _ _ () (fun j u _ _=>by
  generalize l.getD j 0=n;unfold ko;have e1:decide (n < -4611686018427387904) = !(decide (-4611686018427387904≤n)):=by rw [Bool.eq_iff_iff];simp
  have e2:decide (n>4611686018427387904) = !(decide (n≤4611686018427387904)):=by rw [Bool.eq_iff_iff];simp
  rw [e1,e2];cases decide (-4611686018427387904≤n)<;>cases decide (n≤4611686018427387904)<;>rfl),jJ,FN ko 0 l]
 cases l.all ko<;>rfl
theorem jI {a:Int} (h:ko a=true):cE a=some (a.natAbs:Int)∧a.natAbs≤4611686018427387904:=by
 rw [kx] at h;unfold cE;by_cases h0:a<0
 ·rw [Ko h0];simp only [cond_true,Kr];rw [bJ (by omega) (by omega)];omega
 ·rw [Kn h0];simp only [cond_false,Kr];omega
theorem wrap_u64 {n:Int} (h0:0≤n) (h:n<18446744073709551616):IntKind.wrap .u64 n=n:=by unfold IntKind.wrap IntKind.bits IntKind.signed;simp;omega
theorem wrap_i64 {n:Int} (h0:0≤n) (h:n≤9223372036854775807):IntKind.wrap .i64 n=n:=bJ (by omega) h
def mulR (a b:Int):Int×Int:=bif ko a&&(ko b&&ko (a*b)) then (a*b,0) else (0,2)
theorem wV (a b:Int):((decide (a<0)==decide (b<0))=true→a*b=((a.natAbs*b.natAbs:Nat):Int))∧((decide (a<0)==decide (b<0))=false→a*b = -((a.natAbs*b.natAbs:Nat):Int)):=by
 rcases Int.natAbs_eq a with ha | ha<;>rcases Int.natAbs_eq b with hb | hb;all_goals
  generalize a.natAbs=x at ha ⊢;generalize b.natAbs=y at hb ⊢;subst ha;subst hb
 ·refine ⟨fun _=>by push_cast;rfl,fun h => ?_⟩;rw [Kn (by omega),Kn (by omega)] at h;cases h
 ·constructor
  ·intro h;by_cases hy:y=0
   ·subst hy;simp
   ·rw [Kn (by omega),Ko (by omega)] at h;cases h
  ·intro _;rw [Int.mul_neg];push_cast;rfl
 ·constructor
  ·intro h;by_cases hx:x=0
   ·subst hx;simp
   ·rw [Ko (by omega),Kn (by omega)] at h;cases h
  ·intro _;rw [Int.neg_mul];push_cast;rfl
 ·constructor
  ·intro _;rw [Int.neg_mul_neg];push_cast;rfl
  ·intro h;by_cases hx:x=0
   ·subst hx;simp
   ·by_cases hy:y=0
    ·subst hy;simp
    ·rw [Ko (by omega),Ko (by omega)] at h;cases h
theorem cA {α β:Type} (x:α) (f:α→Option β):(some x).bind f=f x:=Eq.trans (Option.bind_some x f) rfl
theorem Av {x y:Int} (hx:0≤x∧x<18446744073709551616) (hy:0≤y∧y<18446744073709551616):kF x y=some (x*y / 18446744073709551616,x*y % 18446744073709551616):=if_pos ⟨hx,hy⟩
theorem kI (a b:Int):ep a b=some (mulR a b):=by
 unfold ep mulR;rw [fH];simp only [List.all_cons,List.all_nil,Bool.and_true,cA];cases ha:ko a with
 | false=>rfl
 | true =>
  cases hb:ko b with
  | false=>rfl
  | true =>
   obtain ⟨a1,a2⟩:=jI ha;obtain ⟨b1,b2⟩:=jI hb;simp only [Bool.true_and,cond_true];rw [a1,b1];simp only [cA];rw [wrap_u64 (by omega) (by omega),wrap_u64 (by omega) (by omega),Av ⟨by omega,by omega⟩ ⟨by omega,by omega⟩];obtain ⟨s1,s2⟩:=wV a b;have hP:((a.natAbs:Int)*(b.natAbs:Int))=((a.natAbs*b.natAbs:Nat):Int):=by push_cast;rfl
   rw [hP];generalize a.natAbs*b.natAbs=P at s1 s2 ⊢;generalize hhi:(P:Int) / 18446744073709551616=hi;generalize hlo:(P:Int) % 18446744073709551616=lo;simp only [cA];by_cases hbig:P≤4611686018427387904
   ·rw [Kn (show ¬ (hi>0) by omega),Kn (show ¬ (lo>4611686018427387904) by omega)];simp only [cond_false];have em:lo=P:=by omega
    rw [em,wrap_i64 (by omega) (by omega)];cases hs:(decide (a<0)==decide (b<0)) with
    | true =>
     rw [s1 hs];have:ko (P:Int)=true:=kx.2 ⟨by omega,by omega⟩;rw [this];rfl
    | false =>
     rw [s2 hs];have:ko (-(P:Int))=true:=kx.2 ⟨by omega,by omega⟩;rw [this,bJ (by omega) (by omega),Int.zero_sub];rfl
   ·have hab:ko (a*b)=false:=by
     have:¬ (ko (a*b)=true):=by
      rw [kx];cases hs:(decide (a<0)==decide (b<0)) with
      | true=>rw [s1 hs];omega
      | false=>rw [s2 hs];omega
     simpa using this
    rw [hab];by_cases hq:hi>0
    ·rw [Ko hq];rfl
    ·rw [Kn hq,Ko (show lo>4611686018427387904 by omega)];rfl
def v3 (a b c:Int):Int:=a+b*18446744073709551616+c*340282366920938463463374607431768211456
def lm (x:Int):Prop:=0≤x∧x<18446744073709551616
theorem FT {x y c:Int} (hx:lm x) (hy:lm y) (hc:0≤c∧c≤1):dY x y c=some ((x+y+c) % 18446744073709551616,(x+y+c) / 18446744073709551616):=if_pos ⟨hx,hy,hc⟩
theorem uH {x y c:Int} (hx:lm x) (hy:lm y) (hc:0≤c∧c≤1):∃ r d,dY x y c=some (r,d)∧lm r∧(0≤d∧d≤1)∧r+d*18446744073709551616=x+y+c:=by refine ⟨_,_,FT hx hy hc,?_⟩;unfold lm at *;generalize hs:x+y+c=s;omega
theorem F6 {x y:Int} (hx:lm x) (hy:lm y):∃ hi lo,kF x y=some (hi,lo)∧lm lo∧lo+hi*18446744073709551616=x*y∧0≤hi:=by refine ⟨_,_,Av hx hy,?_⟩;have h0:0≤x*y:=Int.mul_nonneg hx.1 hy.1;unfold lm;generalize x*y=s at h0;omega
theorem CQ {x0 x1 x2 hi lo:Int} (h0:lm x0) (h1:lm x1) (h2:lm x2) (hh:lm hi) (hl:lm lo) (hs:v3 x0 x1 x2+lo+hi*18446744073709551616<6277101735386680763835789423207666416102355444464034512896) :
 ∃ r0 r1 r2 c0 c1 c2,dY x0 lo 0=some (r0,c0)∧dY x1 hi c0=some (r1,c1)∧dY x2 0 c1=some (r2,c2)∧lm r0∧lm r1∧lm r2∧v3 r0 r1 r2=v3 x0 x1 x2+lo+hi*18446744073709551616:=by
 obtain ⟨r0,c0,e0,l0,d0,s0⟩:=uH h0 hl (c:=0) (by omega);obtain ⟨r1,c1,e1,l1,d1,s1⟩:=uH h1 hh d0;obtain ⟨r2,c2,e2,l2,d2,s2⟩:=uH h2 (y:=0) (by unfold lm;omega) d1;refine ⟨r0,r1,r2,c0,c1,c2,e0,e1,e2,l0,l1,l2,?_⟩;unfold lm v3 at *;omega
theorem yv {a b p0 p1 p2 n0 n1 n2 K:Int} (ha:ko a=true) (hb:ko b=true) (h0:lm p0) (h1:lm p1) (h2:lm p2) (g0:lm n0) (g1:lm n1) (g2:lm n2) (hK:v3 p0 p1 p2+v3 n0 n1 n2≤K) (hK2:K≤6277101735386680763835789423207666416102355444464034512896-21267647932558653966460912964485513216-1) :
 ∃ q0 q1 q2 m0 m1 m2,cO a b p0 p1 p2 n0 n1 n2=some (q0,q1,q2,m0,m1,m2)∧lm q0∧lm q1∧lm q2∧lm m0∧lm m1∧lm m2∧v3 q0 q1 q2-v3 m0 m1 m2=v3 p0 p1 p2-v3 n0 n1 n2+a*b∧v3 q0 q1 q2+v3 m0 m1 m2≤K+21267647932558653966460912964485513216:=by
 obtain ⟨a1,a2⟩:=jI ha;obtain ⟨b1,b2⟩:=jI hb;obtain ⟨s1,s2⟩:=wV a b;obtain ⟨hi,lo,em,hlo,hsum,hhi⟩:=F6 (x:=(a.natAbs:Int)) (y:=(b.natAbs:Int)) (by unfold lm;omega) (by unfold lm;omega);have hP:((a.natAbs:Int)*(b.natAbs:Int))=((a.natAbs*b.natAbs:Nat):Int):=by push_cast;rfl
 have hPb:a.natAbs*b.natAbs≤21267647932558653966460912964485513216:=by have:=Nat.mul_le_mul a2 b2;exact this
 rw [hP] at hsum;have wa:=wrap_u64 (n:=(a.natAbs:Int)) (by omega) (by omega);have wb:=wrap_u64 (n:=(b.natAbs:Int)) (by omega) (by omega);have v0:0≤v3 p0 p1 p2:=by unfold lm v3 at *;omega
 have v1:0≤v3 n0 n1 n2:=by unfold lm v3 at *;omega
 generalize a.natAbs*b.natAbs=Pn at s1 s2 hsum hPb;have hhi2:lm hi:=by unfold lm at *;omega
 unfold cO;cases hs:(decide (a<0)==decide (b<0)) with
 | true =>
  obtain ⟨r0,r1,r2,c0,c1,c2,e0,e1,e2,l0,l1,l2,hv⟩:=CQ h0 h1 h2 hhi2 hlo (by omega);refine ⟨r0,r1,r2,n0,n1,n2,?_,l0,l1,l2,g0,g1,g2,?_,?_⟩
  ·simp only [cond_true];rw [a1,b1];simp only [cA];rw [wa,wb,em];simp only [cA];rw [e0];simp only [cA];rw [e1];simp only [cA];rw [e2];simp only [cA]
  ·rw [hv,s1 hs];omega
  ·rw [hv];omega
 | false =>
  obtain ⟨r0,r1,r2,c0,c1,c2,e0,e1,e2,l0,l1,l2,hv⟩:=CQ g0 g1 g2 hhi2 hlo (by omega);refine ⟨p0,p1,p2,r0,r1,r2,?_,h0,h1,h2,l0,l1,l2,?_,?_⟩
  ·simp only [cond_false];rw [a1,b1];simp only [cA];rw [wa,wb,em];simp only [cA];rw [e0];simp only [cA];rw [e1];simp only [cA];rw [e2];simp only [cA]
  ·rw [hv,s2 hs];omega
  ·rw [hv];omega
theorem vb {x y c:Int} (hx:lm x) (hy:lm y) (hc:0≤c∧c≤1):∃ r d,kC x y c=some (r,d)∧lm r∧(0≤d∧d≤1)∧r=x-y-c+d*18446744073709551616:=by have e:kC x y c=some ((x-y-c) % 18446744073709551616,if x<y+c then 1 else 0):=if_pos ⟨hx,hy,hc⟩;refine ⟨_,_,e,?_⟩;unfold lm at *;generalize hs:x-y-c=s;split<;>omega
theorem tV {a0 a1 a2 b0 b1 b2:Int} (h0:lm a0) (h1:lm a1) (h2:lm a2) (g0:lm b0) (g1:lm b1) (g2:lm b2) :
 ∃ r0 r1 r2 k,cG (a0,a1,a2) (b0,b1,b2)=some ((r0,r1,r2),k)∧(v3 b0 b1 b2≤v3 a0 a1 a2→k=true∧lm r0∧lm r1∧lm r2∧v3 r0 r1 r2=v3 a0 a1 a2-v3 b0 b1 b2)∧(v3 a0 a1 a2<v3 b0 b1 b2→k=false):=by
 obtain ⟨r0,c0,e0,l0,d0,s0⟩:=vb h0 g0 (c:=0) (by omega);obtain ⟨r1,c1,e1,l1,d1,s1⟩:=vb h1 g1 d0;obtain ⟨r2,c2,e2,l2,d2,s2⟩:=vb h2 g2 d1;refine ⟨r0,r1,r2,c2==0,?_,fun h => ?_,fun h => ?_⟩
 ·unfold cG;rw [e0];simp only [cA];rw [e1];simp only [cA];rw [e2];simp only [cA]
 ·unfold lm v3 at *;refine ⟨?_,l0,l1,l2,by omega⟩;have:c2=0:=by omega
  rw [this];rfl
 ·unfold lm v3 at *;have:c2=1:=by omega
  rw [this];rfl
theorem vP (n:Int) (h:ko n=true):dX n=some (n,0):=by unfold dX;rw [fH];simp only [List.all_cons,List.all_nil,h,Bool.and_true,cA,cond_true]
def B4 (S:Int):Int×Int:=bif ko S then (S,0) else (0,2)
theorem ns {S:Int} (h:S < -4611686018427387904∨4611686018427387904<S):B4 S=(0,2):=by
 have:ko S=false:=by
  have:¬ ko S=true:=by rw [kx];omega
  simpa using this
 unfold B4;rw [this];rfl
theorem Dr {S:Int} (h:ko S=true):B4 S=(S,0):=by unfold B4;rw [h];rfl
theorem vR {a0 a1 a2 b0 b1 b2:Int} (h0:lm a0) (h1:lm a1) (h2:lm a2) (g0:lm b0) (g1:lm b1) (g2:lm b2):cD a0 a1 a2 b0 b1 b2=some (B4 (v3 a0 a1 a2-v3 b0 b1 b2)):=by
 obtain ⟨r0,r1,r2,k,e1,k1,k2⟩:=tV h0 h1 h2 g0 g1 g2;obtain ⟨t0,t1,t2,j,e2,j1,j2⟩:=tV g0 g1 g2 h0 h1 h2;unfold cD;rw [e1];simp only [cA];by_cases hge:v3 b0 b1 b2≤v3 a0 a1 a2
 ·obtain ⟨hk,l0,l1,l2,hv⟩:=k1 hge;rw [hk];simp only [cond_true];by_cases q1:r1>0
  ·rw [Ko q1,ns (by unfold lm v3 at *;omega)];rfl
  ·rw [Kn q1];simp only [cond_false];by_cases q2:r2>0
   ·rw [Ko q2,ns (by unfold lm v3 at *;omega)];rfl
   ·rw [Kn q2];simp only [cond_false];by_cases q0:r0>4611686018427387904
    ·rw [Ko q0,ns (by unfold lm v3 at *;omega)];rfl
    ·rw [Kn q0];simp only [cond_false];have e:r0=v3 a0 a1 a2-v3 b0 b1 b2:=by unfold lm v3 at *;omega
     have hin:ko r0=true:=kx.2 (by unfold lm at *;omega);rw [wrap_i64 l0.1 (by omega),Int.one_mul,bJ (by unfold lm at *;omega) (by omega),vP r0 hin,← e,Dr hin];simp only [cA]
 ·rw [k2 (by omega)];simp only [cond_false];rw [e2];simp only [cA];obtain ⟨hj,l0,l1,l2,hv⟩:=j1 (by omega);rw [hj];simp only [cond_true];by_cases q1:t1>0
  ·rw [Ko q1,ns (by unfold lm v3 at *;omega)];rfl
  ·rw [Kn q1];simp only [cond_false];by_cases q2:t2>0
   ·rw [Ko q2,ns (by unfold lm v3 at *;omega)];rfl
   ·rw [Kn q2];simp only [cond_false];by_cases q0:t0>4611686018427387904
    ·rw [Ko q0,ns (by unfold lm v3 at *;omega)];rfl
    ·rw [Kn q0];simp only [cond_false];have e : -t0=v3 a0 a1 a2-v3 b0 b1 b2:=by unfold lm v3 at *;omega
     have hin:ko (-t0)=true:=kx.2 (by unfold lm at *;omega);rw [wrap_i64 l0.1 (by omega),show (-1)*t0 = -t0 by omega,bJ (by omega) (by unfold lm at *;omega),vP (-t0) hin,← e,Dr hin];simp only [cA]
def Ii (f:Nat→Int):Nat→Int
 | 0=>0
 | j+1=>Ii f j+f j
def Jy (a b:List Int) (i:Nat):Int:=a.getD i 0*b.getD i 0
def Bg (a b:List Int):Int×Int:=bif decide (a.length=b.length) then (bif decide (a.length≤10000) then (bif a.all ko&&b.all ko then B4 (Ii (Jy a b) a.length) else (0,2)) else (0,3)) else (0,1)
def wY (s:Int×Int×Int×Int×Int×Int):Prop:=lm s.1∧lm s.2.1∧lm s.2.2.1∧lm s.2.2.2.1∧lm s.2.2.2.2.1∧lm s.2.2.2.2.2
def J0 (s:Int×Int×Int×Int×Int×Int):Int:=v3 s.1 s.2.1 s.2.2.1-v3 s.2.2.2.1 s.2.2.2.2.1 s.2.2.2.2.2
def J2 (s:Int×Int×Int×Int×Int×Int):Int:=v3 s.1 s.2.1 s.2.2.1+v3 s.2.2.2.1 s.2.2.2.2.1 s.2.2.2.2.2
theorem Em {a b:Int} (ha:ko a=true) (hb:ko b=true) (s:Int×Int×Int×Int×Int×Int) (hl:wY s) (j:Nat) (hj:j<10000) (ht:J2 s≤(j:Int)*21267647932558653966460912964485513216) :
 ∃ s',cO a b s.1 s.2.1 s.2.2.1 s.2.2.2.1 s.2.2.2.2.1 s.2.2.2.2.2=some s'∧wY s'∧J0 s'=J0 s+a*b∧J2 s'≤((j+1:Nat):Int)*21267647932558653966460912964485513216:=by
 obtain ⟨q0,q1,q2,m0,m1,m2,e,l0,l1,l2,l3,l4,l5,hd,hs⟩:=yv (K:=(j:Int)*21267647932558653966460912964485513216) ha hb hl.1 hl.2.1 hl.2.2.1 hl.2.2.2.1 hl.2.2.2.2.1 hl.2.2.2.2.2 ht (by omega);refine ⟨(q0,q1,q2,m0,m1,m2),e,⟨l0,l1,l2,l3,l4,l5⟩,hd,?_⟩;show v3 q0 q1 q2+v3 m0 m1 m2≤_;omega
theorem Ag (s:Int×Int×Int×Int×Int×Int) (hl:wY s):cD s.1 s.2.1 s.2.2.1 s.2.2.2.1 s.2.2.2.2.1 s.2.2.2.2.2=some (B4 (J0 s)) :=
 vR hl.1 hl.2.1 hl.2.2.1 hl.2.2.2.1 hl.2.2.2.2.1 hl.2.2.2.2.2
theorem E6 {l:List Int} (h:l.all ko=true) {j:Nat} (hj:j<l.length):ko (l.getD j 0)=true:=by rw [Kh,Ki hj];exact Ku.1 h _ (List.getElem_mem hj)
theorem I9:wY (0,0,0,0,0,0):=by unfold wY lm;simp
theorem wu (a b:List Int):eC a b=some (Bg a b):=by
 unfold eC Bg;by_cases hlen:a.length=b.length
 ·rw [Ko hlen,show ((((a.length:Nat):Int)==((b.length:Nat):Int)))=true by simp [hlen]];simp only [cond_true];by_cases h1:a.length≤10000
  ·rw [Ko h1,Kn (by omega)];simp only [cond_true,cond_false];rw [fH,fH];simp only [cA];cases ha:a.all ko with
   | false=>rfl
   | true =>
    cases hb:b.all ko with
    | false=>rfl
    | true =>
     simp only [cond_true,Bool.and_true];obtain ⟨s',e1,hI⟩:=tU (ρ:=Empty) (body:=fun i93 (s92:Int×Int×Int×Int×Int×Int)=>bH (i93<b.length) <| (cO (a.getD i93 0) (b.getD i93 0) s92.1 s92.2.1 s92.2.2.1 s92.2.2.2.1 s92.2.2.2.2.1 s92.2.2.2.2.2).bind fun y122=>some (.go (y122.1,y122.2.1,y122.2.2.1,y122.2.2.2.1,y122.2.2.2.2.1,y122.2.2.2.2.2)))
      (fin:=fun i93 s92=>(s92.1,s92.2.1,s92.2.2.1,s92.2.2.2.1,s92.2.2.2.2.1,s92.2.2.2.2.2))
      (fun j s=>wY s∧J0 s=Ii (Jy a b) j∧J2 s≤(j:Int)*21267647932558653966460912964485513216) (a.length-0) 0 (0,0,0,0,0,0) ⟨I9,rfl,by decide⟩ (fun j s _ hj ⟨i1,i2,i3⟩=>by obtain ⟨s',e,l,d,t⟩:=Em (E6 ha (j:=j) (by omega)) (E6 hb (j:=j) (by omega)) s i1 j (by omega) i3;refine ⟨s',?_,l,by rw [d,i2];rfl,t⟩;rw [ax (by omega),e];rfl)
     rw [e1];show (cD s'.1 s'.2.1 s'.2.2.1 s'.2.2.2.1 s'.2.2.2.2.1 s'.2.2.2.2.2).bind _=_;rw [Ag s' hI.1,hI.2.1,Nat.zero_add,Nat.sub_zero];rfl
  ·rw [Kn h1,Ko (by omega)];rfl
 ·rw [Kn hlen,show ((((a.length:Nat):Int)==((b.length:Nat):Int)))=false by rw [beq_eq_false_iff_ne];omega];rfl
def nY (x:aw):List ak→Int
 | []=>0
 | t::ts=>if t.Var=x then t.C else nY x ts
def cf (l:Linear) (x:aw):Int:=nY x l.Terms
def zf (ts:List ak):Prop:=(ts.map ak.Var).Nodup
def upd (f:aw→Int) (x:aw) (a:Int):aw→Int:=fun v=>if v=x then a else f v
theorem AB (f:aw→Int) (x:aw) (a:Int):upd f x a x=a:=if_pos rfl
theorem be {f:aw→Int} {x v:aw} {a:Int} (h:v≠x):upd f x a v=f v:=if_neg h
theorem j8 {x:aw}:∀ {ts:List ak},x ∉ ts.map ak.Var→nY x ts=0
 | [],_=>rfl
 | t::ts,h=>by simp only [List.map_cons,List.mem_cons,not_or] at h;rw [nY,if_neg (fun e=>h.1 e.symm),j8 h.2]
theorem tR {x:aw}:∀ {ts:List ak},nY x ts≠0→∃ t∈ts,t.Var=x∧t.C=nY x ts
 | [],h=>absurd rfl h
 | t::ts,h=>by
  by_cases e:t.Var=x
  ·exact ⟨t,by simp,e,by rw [nY,if_pos e]⟩
  ·rw [nY,if_neg e] at h;obtain ⟨u,hu,h1,h2⟩:=tR h;exact ⟨u,by simp [hu],h1,by rw [nY,if_neg e];exact h2⟩
theorem mF {t:ak}:∀ {ts:List ak},zf ts→t∈ts→nY t.Var ts=t.C
 | u::ts,hn,h=>by
  unfold zf at hn;rw [List.map_cons,List.nodup_cons] at hn;rcases List.mem_cons.1 h with rfl | h
  ·rw [nY,if_pos rfl]
  ·have:¬ u.Var=t.Var:=fun e=>hn.1 (by rw [e];exact List.mem_map.2 ⟨t,h,rfl⟩);rw [nY,if_neg this];exact mF hn.2 h
theorem ve (f:aw→Int) (x:aw) (a:Int):∀ {ts:List ak},zf ts→dd (upd f x a) ts=dd f ts+nY x ts*(a-f x)
 | [],_=>by simp [dd,nY]
 | t::ts,hn=>by
  unfold zf at hn;rw [List.map_cons,List.nodup_cons] at hn;have ih:=ve f x a (ts:=ts) hn.2;simp only [dd,nY];by_cases e:t.Var=x
  ·have h0:nY x ts=0:=j8 (by rw [← e];exact hn.1);rw [if_pos e,e,AB,ih,h0,Int.zero_mul,Int.mul_sub];omega
  ·rw [if_neg e,be e,ih];omega
theorem eS {l:Linear} (h:aq l=true):zf l.Terms:=zg h
theorem uw (v:aw):∀ {ts:List ak},zf ts→dd (ind v) ts=nY v ts:=fun {ts} hn=>by
 have h:=ve (fun _=>0) v 1 hn;rw [I0] at h;have e:upd (fun _=>0) v 1=ind v:=by funext x;simp only [upd,ind]
 rw [e] at h;omega
theorem Db (f:aw→Int) (x:aw) (a:Int) {l:Linear} (h:zf l.Terms):kf (upd f x a) l=kf f l+cf l x*(a-f x):=by unfold kf cf;rw [ve f x a h];omega
theorem jb (l:Linear):kf (fun _=>0) l=l.Const:=by unfold kf;rw [I0];omega
theorem rn (v:aw) {l:Linear} (h:zf l.Terms):kf (ind v) l=l.Const+cf l v:=by unfold kf cf;rw [uw v h]
theorem Hv {a b:Linear} (ha:aq a=true) (hb:aq b=true) (h:∀ f,kf f a=kf f b):a=b:=by
 obtain ⟨n,ts⟩:=a;obtain ⟨m,us⟩:=b;have e:n=m:=by have:=h (fun _=>0);rw [jb,jb] at this;exact this
 have e2:ts=us:=uD _ _ (nu ha) (dt ha) (nu hb) (dt hb) fun f=>by have:=h f;unfold kf at this;simp only at this;omega
 rw [e,e2]
theorem nO:aq (Linear.mk 0 [])=true:=by decide
def one (x:aw) (l:Linear):Bind:=Bind.mk 1 x l (Shape.mk [] []) []
theorem IM (x:aw) (l:Linear) (f:aw→Int):sv [one x l] f=upd f x (kf f l):=by
 funext v;unfold sv upd;by_cases e:v=x
 ·subst e;simp [idxOf,oS,one]
 ·have e2:(x==v)=false:=by simpa using Ne.symm e
  simp [idxOf,oS,one,e,e2]
theorem yh {x:aw} {l q:Linear} (h:(BL [one x l] q).2=0) (f:aw→Int):aq q=true∧aq (BL [one x l] q).1=true∧kf f (BL [one x l] q).1=kf f q+cf q x*(kf f l-f x):=by obtain ⟨h1,h2,h3⟩:=I6 h f;refine ⟨h1,h2,?_⟩;rw [h3,IM,Db f x _ (eS h1)]
theorem I1 {x:aw} {l q:Linear} (h:(BL [one x l] q).2=0) (hl:aq l=true) (v:aw):cf (BL [one x l] q).1 v=cf q v+cf q x*(cf l v-ind v x):=by
 obtain ⟨h1,h2,h3⟩:=yh h (ind v);obtain ⟨_,_,h4⟩:=yh h (fun _=>0);rw [rn v (eS h2),rn v (eS h1),rn v (eS hl)] at h3;rw [jb,jb,jb] at h4;have e:cf q x*(l.Const+cf l v-ind v x)=cf q x*(l.Const-0)+cf q x*(cf l v-ind v x):=by rw [← Int.mul_add];congr 1;omega
 rw [e] at h3;omega
theorem Dn (x:aw):∀ (ts:List ak),gv (σ:=Unit) (ε:=Unit) (ρ:=Int) (fun t s=>bif t.Var==x then .ret t.C else .go ()) (fun _=>()) ts ()=if x∈ts.map ak.Var then .ret (nY x ts) else .brk ()
 | []=>rfl
 | t::ts=>by
  simp only [gv,List.map_cons,List.mem_cons];by_cases e:t.Var=x
  ·simp [e,nY]
  ·have e2:(t.Var==x)=false:=by simpa using e
   rw [e2,cond_false];simp only;rw [Dn x ts];have e3:¬ x=t.Var:=fun h=>e h.symm;simp [e3,nY,e]
theorem lh (l:Linear) (x:aw):cS l x=some (cf l x):=by
 unfold cS;rw [dU ⟨[],0⟩ l.Terms (fun t s=>bif t.Var==x then .ret t.C else .go ()) (fun _ _=>True) (f:=fun _=>()) (fun _ _=>rfl) () trivial (fun j s hj _=>⟨by cases (l.Terms.getD j ⟨[],0⟩).Var==x<;>rfl,fun _ _=>trivial⟩),Dn];simp only [Option.bind_some];by_cases h:x∈l.Terms.map ak.Var
 ·rw [if_pos h];rfl
 ·rw [if_neg h];show some 0=_;unfold cf;rw [j8 h]
def gB (s:Int×Int):Option (fX (Int×Int) Int Empty):=bif (s.2==0) then some (.brk s.1) else bH ((s.2:Int)≠0) <| some (.go (s.2,(s.1.tmod s.2)))
theorem ym (m:Int) (N:Nat):kD gB (N+1) (m,0)=some (.brk m):=rfl
theorem Cl (m n:Nat) (h:n≠0) (N:Nat):kD gB (N+1) ((m:Int),(n:Int))=kD gB N ((n:Int),((m % n:Nat):Int)):=by
 have h1:((n:Int)==0)=false:=by simp;omega
 have h2:(n:Int)≠0:=by omega
 simp only [kD,gB,h1,cond_false];rw [ax h2,← Int.ofNat_tmod];rfl
theorem BE:∀ (k m n N:Nat),n<2 ^ k→2*k+1≤N→kD gB N ((m:Int),(n:Int))=some (.brk ((Nat.gcd m n:Nat):Int))
 | 0,m,n,N,h1,h2=>by
  obtain ⟨N,rfl⟩:∃ j,N=j+1:=⟨N-1,by omega⟩;have:n=0:=by simpa using h1
  subst this;rw [Nat.gcd_zero_right];exact ym _ _
 | k+1,m,n,N,h1,h2=>by
  obtain ⟨N,rfl⟩:∃ j,N=j+2:=⟨N-2,by omega⟩;by_cases hn:n=0
  ·subst hn;rw [Nat.gcd_zero_right];exact ym _ _
  ·rw [Cl m n hn];by_cases hr:m % n=0
   ·rw [hr,show ((0:Nat):Int)=0 from rfl,ym,Nat.gcd_comm,Nat.gcd_rec n m,hr,Nat.gcd_zero_left]
   ·rw [Cl n (m % n) hr];have hlt:m % n<n:=Nat.mod_lt _ (Nat.pos_of_ne_zero hn);have hd:=Nat.div_add_mod n (m % n);have hlt2:n % (m % n)<m % n:=Nat.mod_lt _ (Nat.pos_of_ne_zero hr);have hq:1≤n / (m % n):=(Nat.le_div_iff_mul_le (Nat.pos_of_ne_zero hr)).2 (by omega);have hm:m % n≤(m % n)*(n / (m % n)):=Nat.le_mul_of_pos_right _ hq;rw [Nat.pow_succ] at h1;rw [BE k (m % n) (n % (m % n)) N (by omega) (by omega)];rw [Nat.gcd_comm m n,Nat.gcd_rec n m,Nat.gcd_comm (m % n) n,Nat.gcd_comm n (m % n),Nat.gcd_comm (m % n) (n % (m % n)),← Nat.gcd_rec (m % n) n]
theorem uN {a b:Int} (ha:ko a=true) (hb:ko b=true):jX a b=some ((Nat.gcd a.natAbs b.natAbs:Nat):Int):=by unfold jX;rw [(jI ha).1,(jI hb).1];simp only [Option.bind_some];have h:=BE 63 a.natAbs b.natAbs 4294967296 (by have:=(jI hb).2;omega) (by omega);refine (congrArg (fun o:Option (Out Int Empty)=>Option.bind o _) h).trans ?_;rfl
def kJ (a b:Int):Int×Int:=bif ko a&&ko b then (bif a==0||b==0 then (0,0) else mulR ((a.natAbs / Nat.gcd a.natAbs b.natAbs:Nat):Int) (b.natAbs:Int)) else (0,2)
theorem vK (a b:Int):jU a b=some (kJ a b):=by
 unfold jU kJ;rw [fH];simp only [Option.bind_some,List.all_cons,List.all_nil,Bool.and_true];cases hab:ko a&&ko b with
 | false=>rfl
 | true =>
  simp only [Kj] at hab;simp only [cond_true];cases h1:a==0 with
  | true=>rfl
  | false =>
   cases h2:b==0 with
   | true=>rfl
   | false =>
    simp only [Bool.or_false,cond_false];rw [(jI hab.1).1,uN hab.1 hab.2,(jI hab.2).1];simp only [Option.bind_some];have ha0:a≠0:=by simpa using h1
    have hg:Nat.gcd a.natAbs b.natAbs≠0:=Nat.gcd_ne_zero_left (by omega);have hw:∀ z:Nat,z≤a.natAbs→aD (z:Int)=z:=fun z hz=>bJ (by omega) (by have:=(jI hab.1).2;omega);rw [ax (by omega),← Int.ofNat_tdiv,hw _ (Nat.div_le_self _ _),kI];rfl
def qV (ts:List ak) (a:Nat):Nat:=ts.foldl (fun a t=>Nat.gcd a t.C.natAbs) a
def cont (l:Linear):Nat:=qV l.Terms 0
theorem Bv {c:Int} (h : -1000000≤c∧c≤1000000):(if (aD (0-c))>c then (aD (0-c)) else c)=((c.natAbs:Nat):Int):=by rw [bJ (by omega) (by omega)];split<;>omega
theorem rv {l:Linear} (h:aq l=true):fY l=some ((cont l:Nat):Int):=by
 have hk:=jD h;unfold fY;rw [dV l hk.1 hk.2,h];simp only [Option.bind_some,cond_true];have hC:=cP h;have hz:=dt h;have hl:=dU (ε:=Int) (ρ:=Empty) (f:=fun s=>s) (fin:=fun i0 s0=>s0) (⟨[],0⟩:ak) l.Terms (fun t s=>fX.go ((Nat.gcd s.natAbs t.C.natAbs:Nat):Int)) (fun j s=>∃ n:Nat,s=(n:Int)∧n≤1000000)
  (body:=fun i0 s0=>(kD (σ:=(Int×Int)) (ε:=Int) (ρ:=Empty) (fun s1 =>
   bif (s1.2==0) then (
    some (.brk s1.1)
   ) else (
    bH ((s1.2:Int)≠0) <|
    some (.go (s1.2,(s1.1.tmod s1.2)))
   )
   ) 4294967296 (s0,(if (aD (0-((l.Terms.getD i0 ⟨[],0⟩).C)))>((l.Terms.getD i0 ⟨[],0⟩).C) then (aD (0-((l.Terms.getD i0 ⟨[],0⟩).C))) else ((l.Terms.getD i0 ⟨[],0⟩).C)))).bind <| dG fun u0 =>
   some (.go u0)) (fun _ _=>rfl) 0 ⟨0,rfl,by omega⟩ (fun j s hj hI=>by
   obtain ⟨n,rfl,hn⟩:=hI;have hm:l.Terms.getD j ⟨[],0⟩∈l.Terms:=ba _ hj;have hc:=(hC _ hm).1;have h0:=hz _ hm;refine ⟨?_,fun s' hs' => ?_⟩
   ·rw [Bv hc];have:=BE 20 n (l.Terms.getD j ⟨[],0⟩).C.natAbs 4294967296 (by omega) (by omega);refine (congrArg (fun o:Option (Out Int Empty)=>Option.bind o _) this).trans ?_;rfl
   ·injection hs' with hs'
    have h1:(l.Terms.getD j ⟨[],0⟩).C.natAbs≠0:=by omega
    have h2:Nat.gcd n (l.Terms.getD j ⟨[],0⟩).C.natAbs≤(l.Terms.getD j ⟨[],0⟩).C.natAbs:=Nat.gcd_le_right _ (Nat.pos_of_ne_zero h1);exact ⟨_,hs'.symm,by simp only [Int.natAbs_natCast];omega⟩)
 refine (congrArg (fun o:Option (Out Int Empty)=>Option.bind o _) hl).trans ?_;have hf:∀ (ts:List ak) (n:Nat),gv (σ:=Int) (ε:=Int) (ρ:=Empty) (fun t s=>fX.go ((Nat.gcd s.natAbs t.C.natAbs:Nat):Int)) (fun s=>s) ts (n:Int) = .brk ((qV ts n:Nat):Int):=by
  intro ts;induction ts with
  | nil=>intro n;rfl
  | cons t ts ih=>intro n;simp only [gv];rw [Int.natAbs_natCast,ih];rfl
 have:=hf l.Terms 0;rw [show ((0:Nat):Int)=0 from rfl] at this;rw [this];rfl
theorem sf:∀ (ts:List ak) (a:Nat),qV ts a ∣ a∧∀ t∈ts,qV ts a ∣ t.C.natAbs
 | [],a=>⟨Nat.dvd_refl _,fun t h=>by simp at h⟩
 | t::ts,a=>by
  obtain ⟨h1,h2⟩:=sf ts (Nat.gcd a t.C.natAbs);refine ⟨Nat.dvd_trans h1 (Nat.gcd_dvd_left _ _),fun u hu => ?_⟩;rcases List.mem_cons.1 hu with rfl | hu
  ·exact Nat.dvd_trans h1 (Nat.gcd_dvd_right _ _)
  ·exact h2 u hu
theorem xI {d:Nat}:∀ (ts:List ak) (a:Nat),d ∣ a→(∀ t∈ts,d ∣ t.C.natAbs)→d ∣ qV ts a
 | [],a,h,_=>h
 | t::ts,a,h,ht=>xI ts _ (Nat.dvd_gcd h (ht t (by simp))) (fun u hu=>ht u (by simp [hu]))
theorem sB {l:Linear} (h:aq l=true):cont l=0↔l.Terms=[]:=by
 constructor
 ·intro h0;cases hT:l.Terms with
  | nil=>rfl
  | cons t ts =>
   have h1:=(sf l.Terms 0).2 t (by rw [hT];simp);have h2:qV l.Terms 0=0:=h0;rw [h2] at h1;have:=dt h t (by rw [hT];simp);have:=Nat.eq_zero_of_zero_dvd h1;omega
 ·intro h0;unfold cont;rw [h0];rfl
def eZ (n d:Int):Int:=bif (n.tmod d==0)||(decide (n.tmod d<0)==decide (d<0)) then n.tdiv d else n.tdiv d-1
theorem Gi {n d:Int} (hd:d≠0):(n-d*eZ n d).natAbs<d.natAbs∧(n-d*eZ n d=0↔n.tmod d=0):=by
 have h1:=Int.mul_tdiv_add_tmod n d;have h2:(n.tmod d).natAbs<d.natAbs:=by rw [Int.natAbs_tmod];exact Nat.mod_lt _ (by omega)
 unfold eZ;cases h3:n.tmod d==0 with
 | true =>
  have:n.tmod d=0:=by simpa using h3
  simp only [Bool.true_or,cond_true];omega
 | false =>
  have h3:n.tmod d≠0:=by simpa using h3
  cases h4:(decide (n.tmod d<0)==decide (d<0)) with
  | true=>simp only [Bool.false_or,cond_true];omega
  | false =>
   simp only [Bool.false_or,cond_false];rw [Int.mul_sub,Int.mul_one];have h5:(n.tmod d<0∧0<d)∨(0<n.tmod d∧d<0):=by
    by_cases e1:n.tmod d<0<;>by_cases e2:d<0
    ·rw [Ko e1,Ko e2] at h4;cases h4
    ·exact .inl ⟨e1,by omega⟩
    ·exact .inr ⟨by omega,e2⟩
    ·rw [Kn e1,Kn e2] at h4;cases h4
   omega
theorem Hf {n d:Int} (hd:d≠0) (hn : -1000000≤n∧n≤1000000) : -1000001≤eZ n d∧eZ n d≤1000001:=by have h:=Int.natAbs_tdiv_le_natAbs n d;unfold eZ;cases (n.tmod d==0)||(decide (n.tmod d<0)==decide (d<0))<;>simp only [cond_true,cond_false]<;>omega
theorem vx {n d:Int} (hd:d≠0) (hn : -1000000≤n∧n≤1000000) (hdb : -1000000≤d∧d≤1000000):jP n d=some (eZ n d,0):=by
 unfold jP fS;rw [fH];have hi:ko n=true:=kx.2 (by omega);have hi2:ko d=true:=kx.2 (by omega);have hz:(d==0)=false:=by simpa using hd
 simp only [Option.bind_some,List.all_cons,List.all_nil,Bool.and_true,hi,hi2,cond_true,hz,cond_false];unfold iX eZ;have h:=Int.natAbs_tdiv_le_natAbs n d;have h2:(n.tmod d).natAbs<d.natAbs:=by rw [Int.natAbs_tmod];exact Nat.mod_lt _ (by omega)
 rw [ax hd,bJ (n:=n.tdiv d) (by omega) (by omega),bJ (n:=n.tdiv d-1) (by omega) (by omega)];cases n.tmod d==0 with
 | true=>rfl
 | false=>cases (decide (n.tmod d<0)==decide (d<0))<;>rfl
theorem tZ {K' V σ ε β:Type} {m:List (K'×V)} {body:K'×V→σ→Option (fX σ ε β)} {K:σ→Prop} {J:β→Prop} (I:List Nat→σ→Prop)
 (hstep:∀ seen s i (h:i<m.length),seen.Nodup→i ∉ seen→(∀ j∈seen,j<m.length)→I seen s→∃ s',body m[i] s=some (.go s')∧I (seen++[i]) s')
 (hend:∀ seen s,seen.Nodup→(∀ i,i<m.length→i∈seen)→(∀ i∈seen,i<m.length)→I seen s→K s) :
 ∀ (n:Nat) (seen:List Nat) (s:σ),seen.Nodup→(∀ i∈seen,i<m.length)→n+seen.length=m.length→I seen s→MR m body K J n seen s
 | 0,seen,s,h1,h2,h3,hI=>by
  have hall:∀ i,i<m.length→i∈seen:=by
   intro i hi;refine Classical.byContradiction fun hn => ?_;have:=la (i::seen) (List.range m.length) (List.nodup_cons.2 ⟨hn,h1⟩) (fun x hx=>by
    rcases List.mem_cons.1 hx with rfl | hx
    ·simpa using hi
    ·simpa using h2 x hx)
   simp at this;omega
  exact ⟨hall,hend seen s h1 hall h2 hI⟩
 | n+1,seen,s,h1,h2,h3,hI=>by
  refine ⟨?_,fun i hi hn => ?_⟩
  ·refine Classical.byContradiction fun hn => ?_;have:=la (List.range m.length) seen List.nodup_range (fun x hx=>Classical.byContradiction fun hx2=>hn ⟨x,by simpa using hx,hx2⟩);simp at this;omega
  ·obtain ⟨s',e1,e2⟩:=hstep seen s i hi h1 hn h2 hI;refine ⟨_,e1,?_⟩;have hnd:(seen++[i]).Nodup:=by
    rw [List.nodup_append];exact ⟨h1,by simp,fun a ha b hb=>by
     have:b=i:=by simpa using hb
     subst this;intro e;subst e;exact hn ha⟩
   exact tZ I hstep hend n (seen++[i]) s' hnd (fun j hj=>by
    rcases List.mem_append.1 hj with h | h
    ·exact h2 j h
    ·have:j=i:=by simpa using h
     rw [this];exact hi) (by simp;omega) e2
theorem sl {α:Type} (d:α) {m:List α} {seen:List Nat} (h1:seen.Nodup) (h2:∀ i,i<m.length→i∈seen) (h3:∀ i∈seen,i<m.length):(seen.map fun i=>m.getD i d).Perm m:=by have hp:seen.Perm (List.range m.length):=(List.perm_ext_iff_of_nodup h1 List.nodup_range).2 fun a=>⟨fun h=>by simpa using h3 a h,fun h=>h2 a (by simpa using h)⟩;refine (hp.map _).trans (List.Perm.of_eq ?_);refine List.ext_getElem (by simp) fun i hi h2 => ?_;simp only [List.getElem_map,List.getElem_range];rw [Kh,Ki h2];rfl
def nV (v:aw):Int:=match v with | []=>0 | x::r=>bif x==95 then (n9 r).1 else 0
theorem gV (v:aw) (h:v.length≤1000000):dp v=some (nV v):=by
 unfold dp nV;rw [ln];cases v with
 | nil=>rfl
 | cons x r =>
  simp only [Option.bind_some];cases x==95 with
  | false=>rfl
  | true =>
   simp only [cond_true];rw [ax (by simp)];unfold lC;rw [ax (by simp at h ⊢;omega)];rfl
theorem zc {v:aw} (h:eW v=true):0≤nV v∧nV v<10000000000:=by
 unfold nV;cases v with
 | nil=>simp
 | cons c r =>
  simp only [eW] at h ⊢;cases hc:c==95 with
  | false=>simp
  | true =>
   rw [hc] at h;simp only [cond_true,Kj,decide_eq_true_eq,Bool.not_eq_true'] at h ⊢;have hne:r≠[]:=by intro e;rw [e] at h;simp at h
   obtain ⟨a,b⟩:=vq hne h.2.2.2 h.2.1;unfold n9;rw [a];simp only;omega
def jB (n:Nat):aw:=95::dec n
theorem py {n:Nat} (h1:1≤n) (h2:n<1000000000):eW (jB n)=true∧nV (jB n)=n:=by
 have hd:=qQ n;have hl:=qp 8 n (by omega);have hne:dec n≠[]:=HV n;constructor
 ·show (decide (1≤(dec n).length)&&(decide ((dec n).length≤9)&&(!((dec n).getD 0 0==48)&&(dec n).all cr)))=true;simp only [Kj,decide_eq_true_eq,Bool.not_eq_true'];refine ⟨List.length_pos_iff.2 hne,hl,?_,hd.1⟩;have hh:=hd.2.1 h1;cases hx:dec n with
  | nil=>exact absurd hx hne
  | cons y z =>
   have:Lib.decDigits n=y::z:=hx;rw [this] at hh;simp at hh ⊢;exact hh
 ·show (n9 (dec n)).1=_;unfold n9;rw [(vq hne hd.1 hl).1,Ga]
def mc (l:List Linear):List (aw×Bool):=l.foldl (fun m q=>(q.Terms.map ak.Var).foldl (fun m v=>bL v true m) m) []
theorem CP {V:Type} (x:aw) (v:V):∀ m:List (aw×V),(bL x v m).map (·.1)=if x∈m.map (·.1) then m.map (·.1) else m.map (·.1)++[x]
 | []=>by simp [bL]
 | (k,u)::m=>by
  have ih:=CP x v m;by_cases h:k=x
  ·simp [bL,h]
  ·simp only [bL,if_neg h,List.map_cons,List.mem_cons,ih,Ne.symm h,false_or];split<;>simp [*]
theorem Ek {V:Type} {x y:aw} {v:V} {m:List (aw×V)}:y∈(bL x v m).map (·.1)↔y=x∨y∈m.map (·.1):=by
 rw [CP];by_cases h:x∈m.map (·.1)
 ·rw [if_pos h];exact ⟨.inr,fun h2=>by rcases h2 with rfl | h2;exact h;exact h2⟩
 ·rw [if_neg h,List.mem_append,List.mem_singleton];exact or_comm
theorem E7 {V:Type} {x:aw} {v:V} {m:List (aw×V)} (h:(m.map (·.1)).Nodup):((bL x v m).map (·.1)).Nodup:=by
 rw [CP];by_cases hx:x∈m.map (·.1)
 ·rw [if_pos hx];exact h
 ·rw [if_neg hx,List.nodup_append];exact ⟨h,by simp,fun a ha b hb=>by
   have:b=x:=by simpa using hb
   rw [this];rintro rfl;exact hx ha⟩
theorem DF {V:Type} (x:aw) (v:V) (m:List (aw×V)):(bL x v m).length≤m.length+1:=by have:=congrArg List.length (CP x v m);rw [Kp] at this;rw [this];split<;>simp
theorem um:∀ (vs:List aw) (m:List (aw×Bool)),(m.map (·.1)).Nodup→((vs.foldl (fun m v=>bL v true m) m).map (·.1)).Nodup∧(vs.foldl (fun m v=>bL v true m) m).length≤m.length+vs.length ∧
 ∀ y,y∈(vs.foldl (fun m v=>bL v true m) m).map (·.1)↔y∈m.map (·.1)∨y∈vs
 | [],m,h=>⟨h,by simp,fun y=>by simp⟩
 | v::vs,m,h=>by
  obtain ⟨a,b,c⟩:=um vs (bL v true m) (E7 h);refine ⟨a,?_,fun y => ?_⟩
  ·have:=DF v true m;simp only [List.foldl_cons,List.length_cons];omega
  ·simp only [List.foldl_cons];rw [c y,Ek,List.mem_cons];constructor
   ·rintro ((h | h) | h)
    ·exact .inr (.inl h)
    ·exact .inl h
    ·exact .inr (.inr h)
   ·rintro (h | h | h)
    ·exact .inl (.inr h)
    ·exact .inl (.inl h)
    ·exact .inr h
theorem ql:∀ (l:List Linear) (m:List (aw×Bool)),(∀ q∈l,q.Terms.length≤12)→(m.map (·.1)).Nodup→((l.foldl (fun m q=>(q.Terms.map ak.Var).foldl (fun m v=>bL v true m) m) m).map (·.1)).Nodup∧(l.foldl (fun m q=>(q.Terms.map ak.Var).foldl (fun m v=>bL v true m) m) m).length≤m.length+12*l.length ∧
 ∀ y,y∈(l.foldl (fun m q=>(q.Terms.map ak.Var).foldl (fun m v=>bL v true m) m) m).map (·.1)↔y∈m.map (·.1)∨∃ q∈l,∃ t∈q.Terms,t.Var=y
 | [],m,_,h=>⟨h,by simp,fun y=>by simp⟩
 | q::l,m,hl,h=>by
  obtain ⟨a1,b1,c1⟩:=um (q.Terms.map ak.Var) m h;obtain ⟨a,b,c⟩:=ql l _ (fun x hx=>hl x (by simp [hx])) a1;have:=hl q (by simp);rw [Kp] at b1;refine ⟨a,?_,fun y => ?_⟩
  ·simp only [List.foldl_cons,List.length_cons];omega
  ·simp only [List.foldl_cons];rw [c y,c1 y];constructor
   ·rintro ((h | h) | ⟨q',hq,h⟩)
    ·exact .inl h
    ·obtain ⟨t,ht,e⟩:=List.mem_map.1 h;exact .inr ⟨q,by simp,t,ht,e⟩
    ·exact .inr ⟨q',by simp [hq],h⟩
   ·rintro (h | ⟨q',hq,t,ht,e⟩)
    ·exact .inl (.inl h)
    ·rcases List.mem_cons.1 hq with rfl | hq
     ·exact .inl (.inr (List.mem_map.2 ⟨t,ht,e⟩))
     ·exact .inr ⟨q',hq,t,ht,e⟩
def fh (l:List Linear):List aw:=Go.Ab.sortS ((mc l).map (·.1))
theorem Gg {x y:aw} (h:wz x y=true) (hn:x≠y):Op.bytesLess x y=true:=by
 rcases sk x y with h2 | h2 | h2
 ·exact h2
 ·exact absurd h2 hn
 ·exact absurd (AK x y h (JC h2)) hn
theorem lp {l:List Linear} (hl:∀ q∈l,q.Terms.length≤12):(fh l).Pairwise (fun a b=>Op.bytesLess a b=true)∧(∀ y,y∈fh l↔∃ q∈l,∃ t∈q.Terms,t.Var=y)∧(fh l).length≤12*l.length:=by
 obtain ⟨a,b,c⟩:=ql l [] hl (by simp);have hp:=sy ((mc l).map (·.1));refine ⟨?_,fun y => ?_,?_⟩
 ·have h1:=oP ((mc l).map (·.1));have h2:(Go.Ab.sortS ((mc l).map (·.1))).Nodup:=hp.nodup_iff.2 a;exact (List.Pairwise.and h1 h2).imp fun h=>Gg h.1 h.2
 ·unfold fh;rw [hp.mem_iff];have:=c y;rw [List.map_nil] at this;exact this.trans ⟨fun h=>h.resolve_left (by simp),.inr⟩
 ·unfold fh;rw [hp.length_eq,Kp];have:(mc l).length≤[].length+12*l.length:=b;simpa using this
theorem fp {l:List Linear} (hl:∀ q∈l,q.Terms.length≤12) (hn:l.length≤6000):bl l=some (fh l):=by
 unfold bl;have h1:=dU (ε:=List (aw×Bool)) (ρ:=Empty) (f:=fun s=>s) (fin:=fun i0 s0=>s0) (⟨0,[]⟩:Linear) l (fun q m=>fX.go ((q.Terms.map ak.Var).foldl (fun m v=>bL v true m) m)) (fun j s=>True)
  (body:=fun i0 s0 =>
  (iE (Linear.mk ((l.getD i0 ⟨0,[]⟩).Const) ((l.getD i0 ⟨0,[]⟩).Terms))).bind fun y0 =>
  (dZ (σ:=(List (aw×Bool))) (ε:=(List (aw×Bool))) (ρ:=Empty) (fun i1 s1 =>
   some (.go (bL (y0.getD i1 []) true s1))
  ) (fun i1 s1=>s1) (y0.length-0) 0 s0).bind <| dG fun u0 =>
  some (.go u0)) (fun _ _=>rfl) [] trivial (fun j s hj _=>⟨by
   have hm:l.getD j ⟨0,[]⟩∈l:=ba _ hj;rw [v8 _ (by have:=hl _ hm;show (l.getD j ⟨0,[]⟩).Terms.length≤1000000;omega)];simp only [Option.bind_some];rw [dU (ε:=List (aw×Bool)) (ρ:=Empty) (f:=fun s=>s) (fin:=fun i0 s0=>s0) ([]:aw) ((l.getD j ⟨0,[]⟩).Terms.map ak.Var) (fun v m=>fX.go (bL v true m)) (fun j s=>True) (fun _ _=>rfl) s trivial (fun j s hj _=>⟨rfl,fun _ _=>trivial⟩)];rw [qG (fun v m=>bL v true m)];rfl,fun _ _=>trivial⟩)
 refine (congrArg (fun o:Option (Out (List (aw×Bool)) Empty)=>Option.bind o _) h1).trans ?_;rw [qG (fun (q:Linear) m=>(q.Terms.map ak.Var).foldl (fun m v=>bL v true m) m)];simp only [Option.bind_some,dG];obtain ⟨a,b,c⟩:=ql l [] hl (by simp);have hlen:(mc l).length≤72000:=by have:(mc l).length≤[].length+12*l.length:=b;simp at this;omega
 refine pj (tZ (fun seen s=>s=seen.map fun i=>((mc l).getD i ([],false)).1) (fun seen s i hi hnd hni hlt hI => ?_) (fun seen s hnd hall hlt hI => ?_) _ [] [] (by simp) (by simp) (by simp) rfl)
 ·have hsl:seen.length≤(mc l).length:=by have:=la seen (List.range (mc l).length) hnd (fun x hx=>List.mem_range.2 (hlt x hx));simpa using this
  refine ⟨_,ax (by rw [hI,Kp];omega),?_⟩;rw [List.map_append,hI];simp only [List.map_cons,List.map_nil];congr 2;rw [Kh,show (mc l)[i]? = some (mc l)[i] from Ki hi];rfl
 ·have hp:s.Perm ((mc l).map (·.1)):=by
   rw [hI];have:=(sl ([],false) hnd hall hlt).map (·.1)
   rwa [List.map_map] at this
  unfold jS;have:=hp.length_eq;rw [Kp] at this;rw [ax (by omega)];simp only [Option.bind_some];exact congrArg some (va hp)
def A5 (l:List Linear):Int:=(fh l).foldl (fun n v=>if nV v>n then nV v else n) 0
theorem CE:∀ (vs:List aw) (n:Int),n≤vs.foldl (fun n v=>if nV v>n then nV v else n) n∧(∀ v∈vs,nV v≤vs.foldl (fun n v=>if nV v>n then nV v else n) n)
 | [],n=>⟨Int.le_refl _,fun v h=>by simp at h⟩
 | v::vs,n=>by
  obtain ⟨a,b⟩:=CE vs (if nV v>n then nV v else n);simp only [List.foldl_cons];refine ⟨?_,fun u hu => ?_⟩
  ·split at a<;>rename_i h<;>simp only [h,if_true,if_false]<;>omega
  ·rcases List.mem_cons.1 hu with rfl | hu
   ·split at a<;>rename_i h<;>simp only [h,if_true,if_false]<;>omega
   ·exact b u hu
theorem dO {l:List Linear} (hl:∀ q∈l,aq q=true) (hn:l.length≤6000):cm l=some (A5 l):=by
 have hl12:∀ q∈l,q.Terms.length≤12:=fun q hq=>b8 (hl q hq);unfold cm;rw [fp hl12 hn];simp only [Option.bind_some];obtain ⟨_,hv,_⟩:=lp hl12;rw [dU (ε:=Int) (ρ:=Empty) (f:=fun s=>s) (fin:=fun i0 s0=>s0) ([]:aw) (fh l) (fun v n=>fX.go (if nV v>n then nV v else n)) (fun j s=>True) (fun _ _=>rfl) 0 trivial (fun j s hj _=>⟨by
  have hm:(fh l).getD j []∈fh l:=ba _ hj;obtain ⟨q,hq,t,ht,e⟩:=(hv _).1 hm;have:=gS ((cP (hl q hq)) t ht).2;rw [gV _ (by rw [← e];omega)];rfl,fun _ _=>trivial⟩)]
 rw [qG (fun v n=>if nV v>n then nV v else n)];rfl
def tC (a b:ak):Int:=bif (a.C.natAbs:Int)==b.C.natAbs then (bif nV a.Var==nV b.Var then iG b.Var a.Var else nV b.Var-nV a.Var) else (a.C.natAbs:Int)-b.C.natAbs
theorem pP (a b:ak) (ha : -1000000≤a.C∧a.C≤1000000) (hb : -1000000≤b.C∧b.C≤1000000) (na:eW a.Var=true) (nb:eW b.Var=true):dB a b=some (tC a b):=by
 unfold dB tC;rw [Bv ha,Bv hb];cases ((a.C.natAbs:Int)==b.C.natAbs) with
 | true =>
  simp only [cond_true];rw [gV _ (by have:=gS na;omega),gV _ (by have:=gS nb;omega)];simp only [Option.bind_some];cases nV a.Var==nV b.Var with
  | true=>rfl
  | false =>
   have h1:=zc na;have h2:=zc nb;simp only [cond_false];rw [bJ (by omega) (by omega)]
 | false =>
  simp only [cond_false];rw [bJ (by omega) (by omega)]
theorem G8 {a b:ak} (h:tC a b<0):a.C.natAbs≤b.C.natAbs:=by
 unfold tC at h;cases e:((a.C.natAbs:Int)==b.C.natAbs) with
 | true=>have:=eq_of_beq e;omega
 | false=>rw [e] at h;simp only [cond_false] at h;omega
theorem G3 {a b:ak} (h:¬ tC a b<0):b.C.natAbs≤a.C.natAbs:=by
 unfold tC at h;cases e:((a.C.natAbs:Int)==b.C.natAbs) with
 | true=>have:=eq_of_beq e;omega
 | false=>rw [e] at h;simp only [cond_false] at h;omega
def rD (ts:List ak):ak:=(ts.drop 1).foldl (fun s t=>bif decide (tC t s<0) then t else s) (ts.getD 0 ⟨[],0⟩)
theorem yp:∀ (ts:List ak) (s:ak),(ts.foldl (fun s t=>bif decide (tC t s<0) then t else s) s=s∨ts.foldl (fun s t=>bif decide (tC t s<0) then t else s) s∈ts) ∧
 (ts.foldl (fun s t=>bif decide (tC t s<0) then t else s) s).C.natAbs≤s.C.natAbs∧∀ t∈ts,(ts.foldl (fun s t=>bif decide (tC t s<0) then t else s) s).C.natAbs≤t.C.natAbs
 | [],s=>⟨.inl rfl,Nat.le_refl _,fun t h=>by simp at h⟩
 | u::ts,s=>by
  simp only [List.foldl_cons];by_cases h:tC u s<0
  ·obtain ⟨a,b,c⟩:=yp ts u;rw [Ko h,cond_true];refine ⟨.inr ?_,Nat.le_trans b (G8 h),fun t ht => ?_⟩
   ·rcases a with a | a
    ·rw [a];simp
    ·exact List.mem_cons_of_mem _ a
   ·rcases List.mem_cons.1 ht with rfl | ht
    ·exact b
    ·exact c t ht
  ·obtain ⟨a,b,c⟩:=yp ts s;rw [Kn h,cond_false];refine ⟨a.imp id (List.mem_cons_of_mem _),b,fun t ht => ?_⟩;rcases List.mem_cons.1 ht with rfl | ht
   ·exact Nat.le_trans b (G3 h)
   ·exact c t ht
theorem IG {ts:List ak} (h:ts≠[]):rD ts∈ts∧∀ t∈ts,(rD ts).C.natAbs≤t.C.natAbs:=by
 cases ts with
 | nil=>exact absurd rfl h
 | cons u ts =>
  obtain ⟨a,b,c⟩:=yp ts u;refine ⟨?_,fun t ht => ?_⟩
  ·show ts.foldl (fun s t=>bif decide (tC t s<0) then t else s) u∈u::ts;rcases a with a | a
   ·rw [a];simp
   ·exact List.mem_cons_of_mem _ a
  ·rcases List.mem_cons.1 ht with rfl | ht
   ·exact b
   ·exact c t ht
theorem qW {q:Linear} (h:aq q=true) (h0:q.Terms≠[]):fa q=some (rD q.Terms):=by
 unfold fa de;have hlen:0<q.Terms.length:=List.length_pos_iff.2 h0;have hC:=cP h;rw [Kn (show ¬ (q.Terms.length:Int)<1 by omega)];simp only [cond_false];rw [ax hlen];have hm0:q.Terms.getD 0 ⟨[],0⟩∈q.Terms:=ba _ hlen;have hc:=wj (ε:=aw×Int) (ρ:=Empty) (f:=fun s=>s) (fin:=fun i0 s0=>(s0.1,s0.2)) (⟨[],0⟩:ak) q.Terms (fun t s=>fX.go (bif decide (tC t ⟨s.1,s.2⟩<0) then (t.Var,t.C) else s)) (fun j s=>(-1000000≤s.2∧s.2≤1000000)∧eW s.1=true)
  (body:=fun i0 s0 =>
   (dB (ak.mk ((q.Terms.getD i0 ⟨[],0⟩).Var) ((q.Terms.getD i0 ⟨[],0⟩).C)) (ak.mk s0.1 s0.2)).bind fun y0 =>
   ((
    bif decide (y0<0) then (
     some (((q.Terms.getD i0 ⟨[],0⟩).Var),((q.Terms.getD i0 ⟨[],0⟩).C))
    ) else (
     some (s0.1,s0.2)
    )
   ):Option (aw×Int)).bind fun v0 =>
   some (.go (v0.1,v0.2))) (fun _ _=>rfl) 1 (((q.Terms.getD 0 ⟨[],0⟩).Var),((q.Terms.getD 0 ⟨[],0⟩).C)) (hC _ hm0) (fun j s hj1 hj hI=>by
   have hm:q.Terms.getD j ⟨[],0⟩∈q.Terms:=ba _ hj;obtain ⟨c1,c2⟩:=hC _ hm;refine ⟨?_,fun s' hs' => ?_⟩
   ·rw [pP (ak.mk ((q.Terms.getD j ⟨[],0⟩).Var) ((q.Terms.getD j ⟨[],0⟩).C)) (ak.mk s.1 s.2) c1 hI.1 c2 hI.2];simp only [Option.bind_some];cases decide (tC (q.Terms.getD j ⟨[],0⟩) ⟨s.1,s.2⟩<0)<;>rfl
   ·injection hs' with hs'
    subst hs';cases decide (tC (q.Terms.getD j ⟨[],0⟩) ⟨s.1,s.2⟩<0)
    ·exact hI
    ·exact ⟨c1,c2⟩)
 have hf:∀ (ts:List ak) (s:ak),gv (σ:=aw×Int) (ε:=aw×Int) (ρ:=Empty) (fun t s=>fX.go (bif decide (tC t ⟨s.1,s.2⟩<0) then (t.Var,t.C) else s)) (fun s=>s) ts (s.Var,s.C) =
  .brk ((ts.foldl (fun s t=>bif decide (tC t s<0) then t else s) s).Var,(ts.foldl (fun s t=>bif decide (tC t s<0) then t else s) s).C):=by
  intro ts;induction ts with
  | nil=>intro s;rfl
  | cons t ts ih =>
   intro s;simp only [gv,List.foldl_cons];cases decide (tC t s<0) with
   | true=>exact ih t
   | false=>exact ih s
 rw [hf (q.Terms.drop 1) (q.Terms.getD 0 ⟨[],0⟩)] at hc;refine (congrArg (fun o:Option (Out (aw×Int) Empty)=>Option.bind (Option.bind o _) _) hc).trans ?_;rfl
abbrev Ms:=List (Int×Int)
theorem vi {V:Type} (d:V) (x y:Int) (v:V):∀ m:List (Int×V),bA d y (bL x v m)=if y=x then v else bA d y m
 | []=>by
  by_cases h:y=x
  ·simp [bL,bA,h]
  ·simp [bL,bA,h,Ne.symm h]
 | (k,u)::m=>by
  have ih:=vi d x y v m;by_cases h:k=x
  ·subst h;by_cases h2:y=k
   ·simp [bL,bA,h2]
   ·simp [bL,bA,h2,Ne.symm h2]
  ·by_cases h2:k=y
   ·subst h2;simp [bL,bA,h]
   ·simp [bL,bA,h,h2,ih]
theorem rV {x y v:Int}:∀ {m:Ms},y∈(bL x v m).map (·.1)↔y=x∨y∈m.map (·.1)
 | []=>by simp [bL]
 | (k,u)::m=>by
  have ih:=rV (x:=x) (y:=y) (v:=v) (m:=m);by_cases h:k=x
  ·subst h;simp [bL]
  ·simp only [bL,if_neg h,List.map_cons,List.mem_cons,ih];exact or_left_comm
theorem zA {x v:Int}:∀ {m:Ms},(m.map (·.1)).Nodup→((bL x v m).map (·.1)).Nodup
 | [],_=>by simp [bL]
 | (k,u)::m,h=>by
  simp only [List.map_cons,List.nodup_cons] at h;by_cases e:k=x
  ·subst e;simp only [bL,if_true,List.map_cons,List.nodup_cons];exact h
  ·simp only [bL,if_neg e,List.map_cons,List.nodup_cons];refine ⟨fun hm => ?_,zA h.2⟩;rcases rV.1 hm with h2 | h2
   ·exact e h2
   ·exact h.1 h2
structure eA (m:Ms) (D:Int→Prop) (f:Int→Int):Prop where
 nd:(m.map (·.1)).Nodup
 ks:∀ y,y∈m.map (·.1)↔D y
 at_:∀ y,D y→bA 0 y m=f y
theorem eA.nil:eA [] (fun _=>False) (fun _=>0):=⟨by simp,fun y=>by simp,fun y h=>h.elim⟩
theorem eA.put {m:Ms} {D:Int→Prop} {f:Int→Int} (h:eA m D f) (x v:Int):eA (bL x v m) (fun y=>y=x∨D y) (fun y=>if y=x then v else f y):=by
 refine ⟨zA h.nd,fun y=>by rw [rV,h.ks],fun y hy => ?_⟩;rw [vi];by_cases e:y=x
 ·rw [if_pos e,if_pos e]
 ·rw [if_neg e,if_neg e];exact h.at_ y (hy.resolve_left e)
theorem eA.congr {m:Ms} {D D':Int→Prop} {f f':Int→Int} (h:eA m D f) (hD:∀ y,D y↔D' y) (hf:∀ y,D y→f y=f' y):eA m D' f' :=
 ⟨h.nd,fun y=>(h.ks y).trans (hD y),fun y hy=>(h.at_ y ((hD y).2 hy)).trans (hf y ((hD y).2 hy))⟩
theorem dy:∀ {m:Ms},(m.map (·.1)).Nodup→∀ {e:Int×Int},e∈m→bA 0 e.1 m=e.2
 | [],_,e,h=>by simp at h
 | (k,u)::m,hn,e,h=>by
  simp only [List.map_cons,List.nodup_cons] at hn;rcases List.mem_cons.1 h with rfl | h
  ·simp [bA]
  ·have:k≠e.1:=fun he=>hn.1 (by rw [he];exact List.mem_map.2 ⟨e,h,rfl⟩);rw [bA,if_neg this];exact dy hn.2 h
theorem uu {m:Ms} (h:(m.map (·.1)).Nodup):m.Nodup:=(List.pairwise_map.1 h).imp fun h e=>h (congrArg _ e)
theorem eA.perm {m m':Ms} {D:Int→Prop} {f:Int→Int} (h:eA m D f) (h':eA m' D f):m.Perm m':=by
 have key:∀ {a b:Ms},eA a D f→eA b D f→∀ e∈a,e∈b:=fun {a b} ha hb e he=>by
  have hk:D e.1:=(ha.ks _).1 (List.mem_map.2 ⟨e,he,rfl⟩);obtain ⟨e',he',e1⟩:=List.mem_map.1 ((hb.ks _).2 hk);have v1:=dy ha.nd he;have v2:=dy hb.nd he';rw [e1,hb.at_ _ hk] at v2;rw [ha.at_ _ hk] at v1;have:e=e':=by refine Prod.ext e1.symm ?_;rw [← v1,← v2]
  rw [this];exact he'
 exact (List.perm_ext_iff_of_nodup (uu h.nd) (uu h'.nd)).2 fun e=>⟨key h h' e,key h' h e⟩
theorem tw {V:Type} (p:Int×V):∀ {l:List (Int×V)},l.Pairwise (fun a b=>a.1≤b.1)→(Bh p l).Pairwise (fun a b=>a.1≤b.1)
 | [],_=>by simp [Bh]
 | q::l,h=>by
  have h':=List.pairwise_cons.1 h;unfold Bh;split
  ·rename_i hle;refine List.pairwise_cons.2 ⟨fun x hx => ?_,h⟩;rcases List.mem_cons.1 hx with rfl | hx
   ·exact hle
   ·exact Int.le_trans hle (h'.1 x hx)
  ·rename_i hle;refine List.pairwise_cons.2 ⟨fun x hx => ?_,tw p h'.2⟩;rcases List.mem_cons.1 ((r8 p l).mem_iff.2 hx) with rfl | hx
   ·omega
   ·exact h'.1 x hx
theorem nM {V:Type}:∀ l:List (Int×V),(ksort l).Pairwise (fun a b=>a.1≤b.1)
 | []=>List.Pairwise.nil
 | p::l=>tw p (nM l)
theorem zN {a b:Ms} (h:a.Perm b) (hn:(a.map (·.1)).Nodup):ksort a=ksort b:=by
 refine List.Perm.eq_of_pairwise (le:=fun a b=>a.1≤b.1) (fun x y hx hy h1 h2 => ?_) (nM a) (nM b) ((ir a).symm.trans (h.trans (ir b)));have e:x.1=y.1:=by omega
 have hx':x∈a:=(ir a).mem_iff.2 hx;have hy':y∈a:=h.mem_iff.2 ((ir b).mem_iff.2 hy);refine Prod.ext e ?_;rw [← dy hn hx',← dy hn hy',e]
theorem eA.ksort_eq {m m':Ms} {D D':Int→Prop} {f f':Int→Int} (h:eA m D f) (h':eA m' D' f') (hD:∀ y,D y↔D' y) (hf:∀ y,D y→f y=f' y):ksort m=ksort m' :=
 zN (h.perm (h'.congr (fun y=>(hD y).symm) fun y hy=>(hf y ((hD y).2 hy)).symm)) h.nd
theorem eA.ksort {m:Ms} {D:Int→Prop} {f:Int→Int} (h:eA m D f):eA (ksort m) D f:=by have hp:=ir m;refine ⟨(hp.map (·.1)).nodup_iff.1 h.nd,fun y=>by rw [← (hp.map (·.1)).mem_iff,h.ks],fun y hy => ?_⟩;obtain ⟨e,he,e1⟩:=List.mem_map.1 ((h.ks y).2 hy);rw [← e1,dy ((hp.map (·.1)).nodup_iff.1 h.nd) (hp.mem_iff.1 he),← dy h.nd he,e1,h.at_ y hy]
theorem eA.self {m:Ms} (h:(m.map (·.1)).Nodup):eA m (fun y=>y∈m.map (·.1)) (fun y=>bA 0 y m):=⟨h,fun y=>Iff.rfl,fun y _=>rfl⟩
abbrev Rw:=ab
theorem kb {α:Type} {l:List α} {i:Nat} {x d:α} (h:i<l.length):(l.set i x).getD i d=x:=by simp [Kh,h]
def yW (n e:Int):Bool:=e==0&&(decide (n ≥ -1099511627776)&&decide (n≤1099511627776))
theorem fj (n e:Int):bN n e=some (yW n e):=by
 unfold bN yW;cases e==0 with
 | false=>rfl
 | true=>cases decide (n≥(-1099511627776))<;>rfl
def Ev (r:Rw) (own:Int) (y:Int):Int:=if y∈r.mults.map (·.1) then (mulR (bA 0 y r.mults) own).1 else 0
def Jo (r p:Rw) (own oth:Int) (y:Int):Int:=if y∈p.mults.map (·.1) then (Bg [1,oth] [Ev r own y,bA 0 y p.mults]).1 else Ev r own y
def I3 (r p:Rw) (y:Int):Prop:=y∈r.mults.map (·.1)∨y∈p.mults.map (·.1)
def Dw (r:Rw) (own:Int) (e:Int×Int):Bool := !yW (mulR e.2 own).1 (mulR e.2 own).2
def EI (r:Rw) (own oth:Int) (e:Int×Int):Bool := !yW (Bg [1,oth] [Ev r own e.1,e.2]).1 (Bg [1,oth] [Ev r own e.1,e.2]).2
def IL (r p:Rw) (f:Int→Int):Ms:=ksort (r.mults.map (fun e=>(e.1,f e.1))++(p.mults.filter fun e=>decide (e.1 ∉ r.mults.map (·.1))).map fun e=>(e.1,f e.1))
theorem vt {y:Int}:∀ {a b:Ms},y ∉ a.map (·.1)→bA 0 y (a++b)=bA 0 y b
 | [],b,_=>rfl
 | (k,u)::a,b,h=>by simp only [List.map_cons,List.mem_cons,not_or] at h;rw [List.cons_append,bA,if_neg (fun e=>h.1 e.symm)];exact vt h.2
theorem sx {f:Int→Int} {y:Int}:∀ {a:Ms},y∈a.map (·.1)→∀ b,bA 0 y (a.map (fun e=>(e.1,f e.1))++b)=f y
 | [],h,b=>by simp at h
 | (k,u)::a,h,b=>by
  simp only [List.map_cons,List.cons_append,bA];by_cases e:k=y
  ·rw [if_pos e,e]
  ·rw [if_neg e];exact sx ((List.mem_cons.1 h).resolve_left fun h2=>e h2.symm) b
theorem AD {r p:Rw} (hr:(r.mults.map (·.1)).Nodup) (hp:(p.mults.map (·.1)).Nodup) (f:Int→Int) :
 eA (r.mults.map (fun e=>(e.1,f e.1))++(p.mults.filter fun e=>decide (e.1 ∉ r.mults.map (·.1))).map fun e=>(e.1,f e.1)) (I3 r p) f:=by
 refine ⟨?_,fun y => ?_,fun y hy => ?_⟩
 ·rw [List.map_append,List.map_map,List.map_map,List.nodup_append];refine ⟨hr,(List.Sublist.map _ List.filter_sublist).nodup hp,fun a ha b hb => ?_⟩;obtain ⟨e,he,e1⟩:=List.mem_map.1 hb;have he:=(List.mem_filter.1 he).2;rintro rfl;have e1:e.1=a:=e1;rw [e1] at he;exact (Km he) ha
 ·rw [List.map_append,List.map_map,List.map_map,List.mem_append];constructor
  ·rintro (h | h)
   ·exact .inl h
   ·obtain ⟨e,he,e1⟩:=List.mem_map.1 h;exact .inr (List.mem_map.2 ⟨e,(List.mem_filter.1 he).1,e1⟩)
  ·rintro (h | h)
   ·exact .inl h
   ·by_cases h2:y∈r.mults.map (·.1)
    ·exact .inl h2
    ·obtain ⟨e,he,e1⟩:=List.mem_map.1 h;refine .inr (List.mem_map.2 ⟨e,List.mem_filter.2 ⟨he,Ko (by rw [show e.1=y from e1];exact h2)⟩,e1⟩)
 ·by_cases h2:y∈r.mults.map (·.1)
  ·exact sx h2 _
  ·rw [vt (by rw [List.map_map];exact h2)];obtain ⟨e,he,e1⟩:=List.mem_map.1 (hy.resolve_left h2);have:=sx (f:=f) (y:=y) (a:=p.mults.filter fun e=>decide (e.1 ∉ r.mults.map (·.1))) (List.mem_map.2 ⟨e,List.mem_filter.2 ⟨he,Ko (by rw [show e.1=y from e1];exact h2)⟩,e1⟩) []
   rwa [List.append_nil] at this
theorem C0 {r p:Rw} (hr:(r.mults.map (·.1)).Nodup) (hp:(p.mults.map (·.1)).Nodup) (f:Int→Int):eA (IL r p f) (I3 r p) f:=(AD hr hp f).ksort
theorem eA.out {m:Ms} {D:Int→Prop} {f:Int→Int} (h:eA m D f) {y:Int} (hy:¬ D y):bA 0 y m=0:=by
 have hn:y ∉ m.map (·.1):=fun h2=>hy ((h.ks y).1 h2);have:=vt (b:=[]) hn
 rwa [List.append_nil] at this
theorem zU {α:Type} (d:α) {m:List α} {seen:List Nat} (p:α→Bool) (h1:seen.Nodup) (h2:∀ i,i<m.length→i∈seen) (h3:∀ i∈seen,i<m.length):(seen.any fun j=>p (m.getD j d))=m.any p:=by
 have:=(sl d h1 h2 h3).any_eq (f:=p)
 rwa [List.any_map] at this
theorem mW {m:Ms} {seen:List Nat} (h1:seen.Nodup) (h2:∀ i,i<m.length→i∈seen) (h3:∀ i∈seen,i<m.length) (y:Int):y∈seen.map (fun j=>(m.getD j (0,0)).1)↔y∈m.map (·.1):=by
 have:=((sl (0,0) h1 h2 h3).map (·.1)).mem_iff (a:=y)
 rwa [List.map_map] at this
theorem getD_at {α:Type} (d:α) {l:List α} {i:Nat} (h:i<l.length):l.getD i d=l[i]:=by rw [Kh,Ki h];rfl
def wi (r p:Rw) (k:Int):Rw :=
 bif r.lost||(p.lost || !yW (kJ r.scale p.scale).1 (kJ r.scale p.scale).2) then ab.mk r.q r.mults r.scale true
 else ab.mk r.q (IL r p (Jo r p (aD ((kJ r.scale p.scale).1.tdiv r.scale)) (aD ((aD (0-(aD ((kJ r.scale p.scale).1.tdiv p.scale))))*k)))) (kJ r.scale p.scale).1
  (r.mults.any (Dw r (aD ((kJ r.scale p.scale).1.tdiv r.scale)))||p.mults.any (EI r (aD ((kJ r.scale p.scale).1.tdiv r.scale)) (aD ((aD (0-(aD ((kJ r.scale p.scale).1.tdiv p.scale))))*k))))
def RL (rows:List Rw) (i:Nat) (r:Rw) (b:Bool):List Rw:=rows.set i (ab.mk r.q r.mults r.scale b)
theorem Bo (rows:List Rw) (i:Nat) (r:Rw) (b:Bool):(RL rows i r b).length=rows.length:=by simp [RL]
theorem E9 {rows:List Rw} {i:Nat} (hi:i<rows.length) (r:Rw) (b:Bool):(RL rows i r b).getD i (⟨⟨0,[]⟩,[],0,false⟩)=ab.mk r.q r.mults r.scale b:=kb hi
theorem uF (rows:List Rw) (i:Nat) (r:Rw) (b:Bool) (x:Rw):(RL rows i r b).set i x=rows.set i x:=by simp [RL]
theorem G5 {rows:List Rw} {i:Nat} {p:Rw} {k:Int} (hi:i<rows.length) {r:Rw} (er:rows.getD i (⟨⟨0,[]⟩,[],0,false⟩)=r) (hr:(r.mults.map (·.1)).Nodup) (hp:(p.mults.map (·.1)).Nodup) (hs1:r.scale≠0) (hs2:p.scale≠0) :
 cV i p k rows=some (rows.set i (wi r p k)):=by
 unfold cV wi;rw [ax hi,er,vK];simp only [Option.bind_some];generalize hown:aD ((kJ r.scale p.scale).1.tdiv r.scale)=own;generalize hoth:aD ((aD (0-(aD ((kJ r.scale p.scale).1.tdiv p.scale))))*k)=oth;generalize hsc:(kJ r.scale p.scale).1=sc;generalize hse:(kJ r.scale p.scale).2=se;cases hl:r.lost with
 | true=>rfl
 | false =>
  cases hl2:p.lost with
  | true=>rfl
  | false =>
   simp only [cond_false,Bool.false_or];rw [fj];simp only [Option.bind_some];cases hsm:yW sc se with
   | false=>rfl
   | true =>
    simp only [cond_true,Bool.not_true,cond_false];rw [ax hs1,ax hs2];have hrows:rows=RL rows i r false:=by
     have e2:rows[i]=r:=by rw [← getD_at (⟨⟨0,[]⟩,[],0,false⟩) hi];exact er
     unfold RL;have:ab.mk r.q r.mults r.scale false=rows[i]:=by rw [e2,← hl]
     rw [this,List.set_getElem_self]
    refine pj (tZ (fun seen s=>s.1=RL rows i r (seen.any fun j=>Dw r own (r.mults.getD j (0,0)))∧eA s.2 (fun y=>y∈seen.map (fun j=>(r.mults.getD j (0,0)).1)) (Ev r own)) (fun seen s i' hi' hnd hni hlt hI => ?_) (fun seen s hnd hall hlt hI => ?_) _ [] _ (by simp) (by simp) (by simp) ⟨hrows,?_⟩)
    ·obtain ⟨h1,h2⟩:=hI;have hm:r.mults[i']∈r.mults:=List.getElem_mem hi';have hg:r.mults.getD i' (0,0)=r.mults[i']:=getD_at _ hi';generalize he:r.mults[i']=e at hm hg ⊢;rw [kI];simp only [Option.bind_some];rw [h1,ax (by rw [Bo];exact hi),E9 hi,uF];refine ⟨(RL rows i r ((seen++[i']).any fun j=>Dw r own (r.mults.getD j (0,0))),bL e.1 (mulR e.2 own).1 s.2),?_,rfl,?_⟩
     ·rw [List.any_append];simp only [List.any_cons,List.any_nil,Bool.or_false,hg];cases hb:seen.any fun j=>Dw r own (r.mults.getD j (0,0)) with
      | true=>rfl
      | false =>
       simp only [cond_false,Bool.false_or];rw [fj];simp only [Option.bind_some,uF];rfl
     ·refine (h2.put e.1 (mulR e.2 own).1).congr (fun y => ?_) fun y hy => ?_
      ·rw [List.map_append,List.mem_append];simp only [List.map_cons,List.map_nil,List.mem_singleton,hg];exact or_comm
      ·by_cases ey:y=e.1
       ·rw [if_pos ey,ey];unfold Ev;rw [if_pos (List.mem_map.2 ⟨e,hm,rfl⟩),dy hr hm]
       ·rw [if_neg ey]
    ·obtain ⟨h1,h2⟩:=hI;rw [zU (0,0) (Dw r own) hnd hall hlt] at h1;have h2:eA s.2 (fun y=>y∈r.mults.map (·.1)) (Ev r own):=h2.congr (fun y=>mW hnd hall hlt y) fun y _=>rfl;generalize hB:r.mults.any (Dw r own)=B at h1;refine pj (tZ (fun seen t=>t.1=RL rows i r (B||seen.any fun j=>EI r own oth (p.mults.getD j (0,0)))∧eA t.2 (fun y=>y∈r.mults.map (·.1)∨y∈seen.map (fun j=>(p.mults.getD j (0,0)).1)) (fun y=>if y∈seen.map (fun j=>(p.mults.getD j (0,0)).1) then Jo r p own oth y else Ev r own y)) (fun seen t i' hi' hnd hni hlt hI => ?_) (fun seen t hnd hall hlt hI => ?_) _ [] _ (by simp) (by simp) (by simp) ⟨by simpa using h1,?_⟩)
     ·obtain ⟨g1,g2⟩:=hI;have hm:p.mults[i']∈p.mults:=List.getElem_mem hi';have hg:p.mults.getD i' (0,0)=p.mults[i']:=getD_at _ hi';have hns:p.mults[i'].1 ∉ seen.map (fun j=>(p.mults.getD j (0,0)).1):=fun hc=>by
       obtain ⟨j,hj,ej⟩:=List.mem_map.1 hc;have hjl:=hlt j hj;rw [getD_at _ hjl] at ej;have hpw:=List.pairwise_iff_getElem.1 (show (p.mults.map (·.1)).Pairwise (· ≠ ·) from hp);have hne:j≠i':=fun e=>hni (e ▸ hj);rcases Nat.lt_or_ge j i' with h | h
       ·exact hpw j i' (by simpa using hjl) (by simpa using hi') h (by simpa using ej)
       ·exact hpw i' j (by simpa using hi') (by simpa using hjl) (by omega) (by simpa using ej.symm)
      generalize he:p.mults[i']=e at hm hg hns ⊢;have hv:bA 0 e.1 t.2=Ev r own e.1:=by
       by_cases hk:e.1∈r.mults.map (·.1)
       ·rw [g2.at_ _ (.inl hk),if_neg hns]
       ·rw [g2.out (fun h=>h.elim hk hns)];unfold Ev;rw [if_neg hk]
      rw [hv,wu];simp only [Option.bind_some];rw [g1,ax (by rw [Bo];exact hi),E9 hi,uF];refine ⟨(RL rows i r (B||(seen++[i']).any fun j=>EI r own oth (p.mults.getD j (0,0))),bL e.1 (Bg [1,oth] [Ev r own e.1,e.2]).1 t.2),?_,rfl,?_⟩
      ·rw [List.any_append];simp only [List.any_cons,List.any_nil,Bool.or_false,hg];cases hb:(B||seen.any fun j=>EI r own oth (p.mults.getD j (0,0))) with
       | true =>
        rw [← Bool.or_assoc,hb];rfl
       | false =>
        simp only [cond_false];rw [← Bool.or_assoc,hb,Bool.false_or,fj];simp only [Option.bind_some,uF];rfl
      ·refine (g2.put e.1 (Bg [1,oth] [Ev r own e.1,e.2]).1).congr (fun y => ?_) fun y hy => ?_
       ·rw [List.map_append,List.mem_append];simp only [List.map_cons,List.map_nil,List.mem_singleton,hg];constructor
        ·rintro (h | h | h)
         ·exact .inr (.inr h)
         ·exact .inl h
         ·exact .inr (.inl h)
        ·rintro (h | h | h)
         ·exact .inr (.inl h)
         ·exact .inr (.inr h)
         ·exact .inl h
       ·rw [List.map_append];simp only [List.map_cons,List.map_nil,List.mem_append,List.mem_singleton,hg];by_cases ey:y=e.1
        ·rw [if_pos ey,if_pos (.inr ey),ey];unfold Jo;rw [if_pos (List.mem_map.2 ⟨e,hm,rfl⟩),dy hp hm]
        ·rw [if_neg ey];by_cases h:y∈seen.map (fun j=>(p.mults.getD j (0,0)).1)
         ·rw [if_pos h,if_pos (.inl h)]
         ·rw [if_neg h,if_neg (fun h2=>h2.elim h ey)]
     ·obtain ⟨g1,g2⟩:=hI;rw [zU (0,0) (EI r own oth) hnd hall hlt] at g1;have hk:ksort t.2=IL r p (Jo r p own oth):=by
       refine g2.ksort_eq (AD hr hp (Jo r p own oth)) (fun y => ?_) fun y hy => ?_
       ·unfold I3;rw [mW hnd hall hlt]
       ·by_cases h:y∈seen.map (fun j=>(p.mults.getD j (0,0)).1)
        ·rw [if_pos h]
        ·rw [if_neg h];unfold Jo;rw [if_neg (fun h2=>h ((mW hnd hall hlt y).2 h2))]
      rw [g1,ax (by rw [Bo];exact hi),E9 hi,uF,ax (by simpa using hi),hk,kb hi,List.set_set]
     ·refine h2.congr (fun y=>by simp) fun y _=>by simp
    ·exact ⟨by simp,fun y=>by simp,fun y hy=>by simp at hy⟩
theorem yG {α ρ:Type} (d:α) (ok:α→Bool) (g:α→α) (R:List α→ρ) {body:Int×List α→Option (fX (Int×List α) (List α) ρ)} (n:Nat) (I:α→Prop)
 (h:∀ (i:Nat) (l:List α),l.length=n→i<n→I (l.getD i d)→body ((i:Int),l)=some (bif ok (l.getD i d) then .go (((i+1:Nat):Int),l.set i (g (l.getD i d))) else .ret (R (l.set i (g (l.getD i d))))))
 (he:∀ l:List α,l.length=n→body ((n:Int),l)=some (.brk l)):∀ (k i N:Nat) (l:List α),i+k=n→k<N→l.length=n→(∀ x∈l.drop i,I x) →
 kD body N ((i:Int),l)=some (.brk (l.take i++(l.drop i).map g))∧(l.drop i).all ok=true∨(∃ l',kD body N ((i:Int),l)=some (.ret (R l')))∧(l.drop i).all ok=false
 | 0,i,N,l,h1,h2,h3,_=>by
  obtain ⟨N,rfl⟩:∃ j,N=j+1:=⟨N-1,by omega⟩;have hi:i=n:=by omega
  subst hi;left;rw [List.drop_of_length_le (by omega),List.take_of_length_le (by omega)];simp only [kD];rw [he l h3];simp [yn]
 | k+1,i,N,l,h1,h2,h3,hI=>by
  obtain ⟨N,rfl⟩:∃ j,N=j+1:=⟨N-1,by omega⟩;have hil:i<l.length:=by omega
  have hdrop:l.drop i=l[i]::l.drop (i+1):=List.drop_eq_getElem_cons hil;have hg:l.getD i d=l[i]:=getD_at d hil;have hIi:I (l.getD i d):=by rw [hg];exact hI _ (by rw [hdrop];exact List.mem_cons_self ..)
  have hb:=h i l h3 (by omega) hIi;simp only [kD];rw [hb,hg,hdrop];cases ho:ok l[i] with
  | false=>exact .inr ⟨⟨_,rfl⟩,by rw [List.all_cons,ho];rfl⟩
  | true =>
   simp only [cond_true,Option.bind_some,yn];have hd2:(l.set i (g l[i])).drop (i+1)=l.drop (i+1):=List.drop_set_of_lt (by omega);have ht2:(l.set i (g l[i])).take (i+1)=l.take i++[g l[i]]:=by rw [List.take_add_one,List.take_set_of_le (by omega)];simp [hil]
   have ih:=yG d ok g R n I h he k (i+1) N (l.set i (g l[i])) (by omega) (by omega) (by simpa using h3) (fun x hx=>by rw [hd2] at hx;exact hI x (by rw [hdrop];exact List.mem_cons_of_mem _ hx));rw [hd2,ht2] at ih;rcases ih with ⟨e1,e2⟩ | ⟨e1,e2⟩
   ·left;refine ⟨?_,by rw [List.all_cons,ho,e2];rfl⟩;rw [e1,List.map_cons,List.append_assoc];rfl
   ·right;exact ⟨e1,by rw [List.all_cons,ho,e2];rfl⟩
def pN (x:aw) (by_ l:Linear):Linear:=bif cf l x==0 then l else (BL [one x by_] l).1
def jg (x:aw) (by_ l:Linear):Bool:=cf l x==0||(BL [one x by_] l).2==0
theorem CH {x:aw} {by_:Linear} (hx:eW x=true) (hb:aq by_=true):∀ b∈[one x by_],okB b:=fun b h=>by
 have:b=one x by_:=by simpa using h
 subst this;exact ⟨by have:=gS hx;show x.length≤1000000;omega,jD hb,by show ([]:aw).length≤1000000;simp,by intro l h;cases h⟩
abbrev A6:Bind:=⟨0,[],⟨0,[]⟩,⟨[],[]⟩,[]⟩
abbrev ny:Rw:=⟨⟨0,[]⟩,[],0,false⟩
theorem FP {i:Nat} {bs:List Bind} {x:aw} {by_:Linear} (hi:i<bs.length) (hx:eW x=true) (hb:aq by_=true) (hv:aq (bs.getD i A6).Dim=true) :
 cy i bs x [one x by_]=some (jg x by_ (bs.getD i A6).Dim,bs.set i (Bind.mk (bs.getD i A6).Kind (bs.getD i A6).Var (pN x by_ (bs.getD i A6).Dim) (bs.getD i A6).Row (bs.getD i A6).Elem)):=by
 unfold cy jg pN;rw [ax hi,lh];simp only [Option.bind_some];have hg:bs.getD i A6=bs[i]:=getD_at A6 hi;cases h0:cf (bs.getD i A6).Dim x==0 with
 | true =>
  simp only [cond_true,Bool.true_or];rw [Jr,hg,List.set_getElem_self]
 | false =>
  simp only [cond_false,Bool.false_or];rw [oc _ _ (jD hv) (CH hx hb)];rfl
theorem Bs {i:Nat} {rows:List Rw} {x:aw} {by_:Linear} (hi:i<rows.length) (hx:eW x=true) (hb:aq by_=true) (hv:aq (rows.getD i ny).q=true) :
 bZ i rows x [one x by_]=some (jg x by_ (rows.getD i ny).q,rows.set i (ab.mk (pN x by_ (rows.getD i ny).q) (rows.getD i ny).mults (rows.getD i ny).scale (rows.getD i ny).lost)):=by
 unfold bZ jg pN;rw [ax hi,lh];simp only [Option.bind_some];have hg:rows.getD i ny=rows[i]:=getD_at ny hi;cases h0:cf (rows.getD i ny).q x==0 with
 | true =>
  simp only [cond_true,Bool.true_or];rw [show ab.mk (rows.getD i ny).q (rows.getD i ny).mults (rows.getD i ny).scale (rows.getD i ny).lost=rows.getD i ny from rfl,hg,List.set_getElem_self]
 | false =>
  simp only [cond_false,Bool.false_or];rw [oc _ _ (jD hv) (CH hx hb)];rfl
def j6 (x:aw) (by_:Linear) (b:Bind):Bind:=Bind.mk b.Kind b.Var (pN x by_ b.Dim) b.Row b.Elem
def HK (x:aw) (by_:Linear) (r:Rw):Rw:=ab.mk (pN x by_ r.q) r.mults r.scale r.lost
def rJ (x:aw) (by_:Linear) (i:Nat) (qs ds:List Linear):Bool:=aq by_&&(ds.all (jg x by_)&&(qs.drop i).all (jg x by_))
theorem put_eq {x:aw} {by_:Linear} {i:Nat} {nx:Int} {rows:List Rw} {bs:List Bind} (hx:eW x=true) (hk:GH by_) (hi:i≤rows.length) (hl1:rows.length≤1000000) (hl2:bs.length≤2000000000)
 (hr:∀ r∈rows,aq r.q=true) (hb:∀ b∈bs,aq b.Dim=true) :
 (rJ x by_ i (rows.map (·.q)) (bs.map (·.Dim))=true∧bc x by_ (i:Int) nx rows bs=some (0,rows.take i++(rows.drop i).map (HK x by_),bs.map (j6 x by_)++[one x by_])) ∨
 (rJ x by_ i (rows.map (·.q)) (bs.map (·.Dim))=false∧∃ r' b',bc x by_ (i:Int) nx rows bs=some (3,r',b')):=by
 unfold bc rJ;rw [dV by_ hk.1 hk.2];cases hv:aq by_ with
 | false=>exact .inr ⟨rfl,_,_,rfl⟩
 | true =>
  simp only [Option.bind_some,cond_true,Bool.true_and];have h1:=yG (ρ:=Int×List Rw×List Bind) A6 (fun b=>jg x by_ b.Dim) (j6 x by_) (fun l=>(3,rows,l)) bs.length (fun b=>aq b.Dim=true)
   (body:=fun s0 =>
   bif decide (s0.1<((bs.length:Nat):Int)) then (
    bH (0≤s0.1∧s0.1<(s0.2.length:Int)) <|
    (cy s0.1.toNat s0.2 x [(Bind.mk 1 x by_ (Shape.mk [] []) [])]).bind fun y1 =>
    bif y1.1 then (
     some (.go ((aD (s0.1+1)),y1.2))
    ) else (
     some (.ret (3,rows,y1.2))
    )
   ) else (
    some (.brk s0.2)
   )) (fun j l hl hj hIj=>by
    simp only;rw [Ko (by omega),cond_true,ax ⟨by omega,by omega⟩,Int.toNat_natCast,show (Bind.mk 1 x by_ (Shape.mk [] []) [])=one x by_ from rfl,FP (by omega) hx hv hIj];simp only [Option.bind_some];rw [bJ (by omega) (by omega)];cases jg x by_ (l.getD j A6).Dim<;>rfl) (fun l hl=>by
    simp only;rw [Kn (by omega)];rfl) bs.length 0 4294967296 bs (by omega) (by omega) rfl (fun b h=>hb b (by simpa using h))
  rcases h1 with ⟨e1,a1⟩ | ⟨⟨l',e1⟩,a1⟩
  ·rw [List.drop_zero,List.take_zero,List.nil_append] at e1;rw [List.drop_zero] at a1;have a1':(bs.map (·.Dim)).all (jg x by_)=true:=by rw [List.all_map];exact a1
   rw [a1',Bool.true_and];have h2:=yG (ρ:=Int×List Rw×List Bind) ny (fun r=>jg x by_ r.q) (HK x by_) (fun l=>(3,l,bs.map (j6 x by_))) rows.length (fun r=>aq r.q=true)
    (body:=fun s1 =>
    bif decide (s1.1<((s1.2.length:Nat):Int)) then (
     bH (0≤s1.1∧s1.1<(s1.2.length:Int)) <|
     (bZ s1.1.toNat s1.2 x [(Bind.mk 1 x by_ (Shape.mk [] []) [])]).bind fun y2 =>
     bif y2.1 then (
      some (.go ((aD (s1.1+1)),y2.2))
     ) else (
      some (.ret (3,y2.2,bs.map (j6 x by_)))
     )
    ) else (
     some (.brk s1.2)
    )) (fun j l hl hj hIj=>by
     simp only;rw [Ko (by omega),cond_true,ax ⟨by omega,by omega⟩,Int.toNat_natCast,show (Bind.mk 1 x by_ (Shape.mk [] []) [])=one x by_ from rfl,Bs (by omega) hx hv hIj];simp only [Option.bind_some];rw [bJ (by omega) (by omega)];cases jg x by_ (l.getD j ny).q<;>rfl) (fun l hl=>by
     simp only;rw [hl,Kn (by omega)];rfl) (rows.length-i) i 4294967296 rows (by omega) (by omega) rfl (fun r h=>hr r (List.mem_of_mem_drop h))
   rcases h2 with ⟨e2,a2⟩ | ⟨⟨l',e2⟩,a2⟩
   ·left;refine ⟨by rw [← List.map_drop,List.all_map];exact a2,?_⟩;refine (congrArg (fun o:Option (Out (List Bind) (Int×List Rw×List Bind))=>Option.bind o _) e1).trans ?_;simp only [Option.bind_some,Sh.aft];refine (congrArg (fun o:Option (Out (List Rw) (Int×List Rw×List Bind))=>Option.bind o _) e2).trans ?_;simp only [Option.bind_some,Sh.aft];rw [ax (by simp),ax (by simp;omega)];rfl
   ·right;refine ⟨by rw [← List.map_drop,List.all_map];exact a2,l',bs.map (j6 x by_),?_⟩;refine (congrArg (fun o:Option (Out (List Bind) (Int×List Rw×List Bind))=>Option.bind o _) e1).trans ?_;simp only [Option.bind_some,Sh.aft];refine (congrArg (fun o:Option (Out (List Rw) (Int×List Rw×List Bind))=>Option.bind o _) e2).trans ?_;rfl
  ·right;rw [List.drop_zero] at a1;have a1':(bs.map (·.Dim)).all (jg x by_)=false:=by rw [List.all_map];exact a1
   refine ⟨by rw [a1',Bool.false_and],rows,l',?_⟩;refine (congrArg (fun o:Option (Out (List Bind) (Int×List Rw×List Bind))=>Option.bind o _) e1).trans ?_;rfl
theorem Co {α ρ:Type} (d:α) (g:α→α) {body:Int×List α→Option (fX (Int×List α) (List α) ρ)} (n:Nat) (I:α→Prop)
 (h:∀ (i:Nat) (l:List α),l.length=n→i<n→I (l.getD i d)→body ((i:Int),l)=some (.go (((i+1:Nat):Int),l.set i (g (l.getD i d)))))
 (he:∀ l:List α,l.length=n→body ((n:Int),l)=some (.brk l)):∀ (k i N:Nat) (l:List α),i+k=n→k<N→l.length=n→(∀ x∈l.drop i,I x) →
 kD body N ((i:Int),l)=some (.brk (l.take i++(l.drop i).map g))
 | 0,i,N,l,h1,h2,h3,_=>by
  obtain ⟨N,rfl⟩:∃ j,N=j+1:=⟨N-1,by omega⟩;have hi:i=n:=by omega
  subst hi;rw [List.drop_of_length_le (by omega),List.take_of_length_le (by omega)];simp only [kD];rw [he l h3];simp [yn]
 | k+1,i,N,l,h1,h2,h3,hI=>by
  obtain ⟨N,rfl⟩:∃ j,N=j+1:=⟨N-1,by omega⟩;have hil:i<l.length:=by omega
  have hdrop:l.drop i=l[i]::l.drop (i+1):=List.drop_eq_getElem_cons hil;have hg:l.getD i d=l[i]:=getD_at d hil;have hIi:I (l.getD i d):=by rw [hg];exact hI _ (by rw [hdrop];exact List.mem_cons_self ..)
  have hb:=h i l h3 (by omega) hIi;simp only [kD];rw [hb,hg,hdrop];simp only [Option.bind_some,yn];have hd2:(l.set i (g l[i])).drop (i+1)=l.drop (i+1):=List.drop_set_of_lt (by omega);have ht2:(l.set i (g l[i])).take (i+1)=l.take i++[g l[i]]:=by rw [List.take_add_one,List.take_set_of_le (by omega)];simp [hil]
  have ih:=Co d g n I h he k (i+1) N (l.set i (g l[i])) (by omega) (by omega) (by simpa using h3) (fun x hx=>by rw [hd2] at hx;exact hI x (by rw [hdrop];exact List.mem_cons_of_mem _ hx));rw [hd2,ht2] at ih;rw [ih,List.map_cons,List.append_assoc];rfl
structure np (n:Int) (r:Rw):Prop where
 v:aq r.q=true
 nd:(r.mults.map (·.1)).Nodup
 sc:r.scale≠0
 ks:∀ y∈r.mults.map (·.1),0≤y∧y<n
theorem Ch (r p:Rw) (k:Int):(wi r p k).q=r.q:=by unfold wi;cases r.lost||(p.lost || !yW (kJ r.scale p.scale).1 (kJ r.scale p.scale).2)<;>rfl
theorem Je {a b:Int} (ha:a≠0) (hb:b≠0) (h:yW (kJ a b).1 (kJ a b).2=true):(kJ a b).1≠0:=by
 have h2:(kJ a b).2=0:=by unfold yW at h;simp only [Kj] at h;exact eq_of_beq h.1
 clear h;unfold kJ at h2 ⊢;cases hi:ko a&&ko b with
 | false=>rw [hi] at h2;simp at h2
 | true =>
  rw [hi] at h2;have e1:(a==0)=false:=by simpa using ha
  have e2:(b==0)=false:=by simpa using hb
  simp only [cond_true,e1,e2,Bool.or_false,cond_false] at h2 ⊢;unfold mulR at h2 ⊢;cases hj:ko (((a.natAbs / Nat.gcd a.natAbs b.natAbs:Nat)):Int)&&(ko (b.natAbs:Int)&&ko ((((a.natAbs / Nat.gcd a.natAbs b.natAbs:Nat)):Int)*(b.natAbs:Int))) with
  | false=>rw [hj] at h2;simp at h2
  | true =>
   simp only [cond_true];have hg:Nat.gcd a.natAbs b.natAbs≤a.natAbs:=Nat.gcd_le_left _ (by omega);have hg0:0<Nat.gcd a.natAbs b.natAbs:=Nat.pos_of_ne_zero (Nat.gcd_ne_zero_left (by omega));have h3:0<a.natAbs / Nat.gcd a.natAbs b.natAbs:=Nat.div_pos hg hg0;exact Int.mul_ne_zero (by omega) (by omega)
theorem FG {n:Int} {r p:Rw} (hr:np n r) (hp:np n p) (k:Int):np n (wi r p k):=by
 refine ⟨by rw [Ch];exact hr.v,?_,?_,?_⟩<;>unfold wi<;>cases hc:r.lost||(p.lost || !yW (kJ r.scale p.scale).1 (kJ r.scale p.scale).2)
 ·exact (C0 hr.nd hp.nd _).nd
 ·exact hr.nd
 ·simp only [Bool.or_eq_false_iff,Bool.not_eq_false'] at hc;exact Je hr.sc hp.sc hc.2.2
 ·exact hr.sc
 ·intro y hy;rcases ((C0 hr.nd hp.nd _).ks y).1 hy with h | h
  ·exact hr.ks y h
  ·exact hp.ks y h
 ·exact hr.ks
theorem oE {α β ρ:Type} (c:α→Bool) (f:α→β):∀ (ts:List α) (acc:List β),gv (ε:=List β) (ρ:=ρ) (fun u s=>fX.go (bif c u then s else s++[f u])) (fun s=>s) ts acc = .brk (acc++(ts.filter fun u => !c u).map f)
 | [],acc=>by simp [gv]
 | u::ts,acc=>by
  simp only [gv];rw [oE c f ts];cases h:c u with
  | true=>simp [h]
  | false=>simp [h]
def D3 (t:ak) (q:Linear):Linear:=Linear.mk (-t.C*q.Const) ((q.Terms.filter fun u => !(u.Var==t.Var)).map fun u=>ak.mk u.Var (-t.C*u.C))
def gU (t:ak) (p:Rw) (r:Rw):Rw:=bif cf r.q t.Var==0 then r else wi r p (cf r.q t.Var*t.C)
theorem Fi {l:Linear} (h:aq l=true) (v:aw) : -1000000≤cf l v∧cf l v≤1000000:=by
 by_cases h0:cf l v=0
 ·omega
 ·obtain ⟨t,ht,_,e⟩:=tR (show nY v l.Terms≠0 from h0);have:=(cP h t ht).1;have e:t.C=cf l v:=e;omega
theorem unit_eq {i:Nat} {t:ak} {nx:Int} {rows:List Rw} {bs:List Bind} (hi:i<rows.length) (hl:rows.length≤1000000) (hr:∀ r∈rows,np rows.length r) (ht:t.C=1∨t.C = -1) :
 br (i:Int) t nx rows bs=(bc t.Var (D3 t (rows.getD i ny).q) (i:Int) nx (rows.take (i+1)++(rows.drop (i+1)).map (gU t (rows.getD i ny))) bs).bind fun y=>some (y.1,y.2.1,y.2.2):=by
 unfold br;have hp:=hr _ (ba ny hi);rw [ax ⟨by omega,by omega⟩,Int.toNat_natCast,ax hi];generalize hP:rows.getD i ny=p at hp;have hC:=cP hp.v;have hlen:=b8 hp.v;have h1:=dU (ε:=List ak) (ρ:=Empty) (f:=fun s=>s) (fin:=fun i0 s0=>s0) (⟨[],0⟩:ak) p.q.Terms (fun u s=>fX.go (bif u.Var==t.Var then s else s++[ak.mk u.Var (-t.C*u.C)])) (fun j s=>s.length≤j)
  (body:=fun i0 s0=>((
   bif (((p.q.Terms).getD i0 ⟨[],0⟩).Var==t.Var) then (
    some s0
   ) else (
    bH ((s0.length+1)*24≤140737488355328) <|
    some (s0++[(ak.mk (((p.q.Terms).getD i0 ⟨[],0⟩).Var) (aD ((aD (0-t.C))*(((p.q.Terms).getD i0 ⟨[],0⟩).C))))])
   )
  ):Option (List ak)).bind fun v0 =>
  some (.go v0)) (fun _ _=>rfl) [] (Nat.zero_le _) (fun j s hj hI=>by
   have hm:p.q.Terms.getD j ⟨[],0⟩∈p.q.Terms:=ba _ hj;obtain ⟨c1,c2⟩:=hC _ hm;refine ⟨?_,fun s' hs' => ?_⟩
   ·cases (p.q.Terms.getD j ⟨[],0⟩).Var==t.Var with
    | true=>rfl
    | false =>
     simp only [cond_false];rw [ax (by omega),bJ (n:=0-t.C) (by omega) (by omega)];have e:(0-t.C)*(p.q.Terms.getD j ⟨[],0⟩).C = -t.C*(p.q.Terms.getD j ⟨[],0⟩).C:=by congr 1;omega
     rw [e,bJ (by rcases ht with h | h<;>rw [h]<;>omega) (by rcases ht with h | h<;>rw [h]<;>omega)];rfl
   ·injection hs' with hs'
    subst hs';cases (p.q.Terms.getD j ⟨[],0⟩).Var==t.Var<;>simp<;>omega)
 refine (congrArg (fun o:Option (Out (List ak) Empty)=>Option.bind o _) h1).trans ?_;rw [oE (fun u:ak=>u.Var==t.Var)];simp only [Option.bind_some,dG,List.nil_append];have h2:=Co (ρ:=Empty) ny (gU t p) rows.length (np rows.length)
  (body:=fun s1 =>
  bif decide (s1.1<((s1.2.length:Nat):Int)) then (
   bH (0≤s1.1∧s1.1<(s1.2.length:Int)) <|
   bH (s1.1.toNat<s1.2.length) <|
   (cS (Linear.mk (((s1.2.getD s1.1.toNat (⟨⟨0,[]⟩,[],0,false⟩)).q).Const) (((s1.2.getD s1.1.toNat (⟨⟨0,[]⟩,[],0,false⟩)).q).Terms)) t.Var).bind fun y0 =>
   ((
    bif (y0==0) then (
     some s1.2
    ) else (
     (cV s1.1.toNat (ab.mk (Linear.mk ((p.q).Const) ((p.q).Terms)) (p.mults) (p.scale) (p.lost)) (aD (y0*t.C)) s1.2).bind fun y1 =>
     some y1
    )
   ):Option (List ab)).bind fun v1 =>
   some (.go ((aD (s1.1+1)),v1))
  ) else (
   some (.brk s1.2)
  )) (fun j l hlj hj hIj=>by
   simp only;rw [Ko (by omega),cond_true,ax ⟨by omega,by omega⟩,Int.toNat_natCast,ax (by omega),lh];simp only [Option.bind_some];rw [bJ (n:=(j:Int)+1) (by omega) (by omega)];unfold gU;have hIj':np rows.length (l.getD j ⟨⟨0,[]⟩,[],0,false⟩):=hIj;generalize hR:l.getD j ⟨⟨0,[]⟩,[],0,false⟩=r at hIj';have hR':l.getD j ny=r:=hR;have hb:=Fi hIj'.v t.Var;rw [re];cases h0:cf r.q t.Var==0 with
   | true =>
    simp only [cond_true,Option.bind_some];have:r=l[j]:=by rw [← hR',getD_at ny (by omega)]
    rw [this,List.set_getElem_self];rfl
   | false =>
    simp only [cond_false];rw [bJ (n:=cf r.q t.Var*t.C) (by rcases ht with h | h<;>rw [h]<;>omega) (by rcases ht with h | h<;>rw [h]<;>omega)];rw [G5 (by omega) hR hIj'.nd hp.nd hIj'.sc hp.sc];rfl) (fun l hlj=>by
   simp only;rw [Kn (by omega)];rfl) (rows.length-(i+1)) (i+1) 4294967296 rows (by omega) (by omega) rfl (fun r h=>hr r (List.mem_of_mem_drop h))
 have e3:aD ((i:Int)+1)=((i+1:Nat):Int):=by rw [bJ (by omega) (by omega)];omega
 rw [e3];refine (congrArg (fun o:Option (Out (List Rw) Empty)=>Option.bind o _) h2).trans ?_;simp only [Option.bind_some,dG];have e4:aD (aD (0-t.C)*p.q.Const) = -t.C*p.q.Const:=by
  have:=nv hp.v;rw [bJ (n:=0-t.C) (by omega) (by omega)];have e:(0-t.C)*p.q.Const = -t.C*p.q.Const:=by congr 1;omega
  rw [e,bJ (by rcases ht with h | h<;>rw [h]<;>omega) (by rcases ht with h | h<;>rw [h]<;>omega)]
 rw [e4];rfl
def mY (t:ak) (n:Nat) (ts:List ak):List ak:=ak.mk (jB n) 1::(ts.filter fun u => !(u.Var==t.Var||eZ u.C t.C==0)).map fun u=>ak.mk u.Var (-(eZ u.C t.C))
def A3 (ts:List ak):List ak:=gJ (fun x y=>iG x.Var y.Var) ts
theorem nc (ts:List ak):(A3 ts).Perm ts:=List.mergeSort_perm ts _
def zI (t:ak) (n:Nat) (q:Linear):Linear:=Linear.mk (-(eZ q.Const t.C)) (A3 (mY t n q.Terms))
theorem EJ (n:Nat):Lib.itoa (n:Int)=dec n:=by rw [Fv,Kn (by omega),cond_false,Int.natAbs_natCast]
theorem sQ {n:Int} {t:ak} (h0:t.C≠0) (hn : -1000000≤n∧n≤1000000) (ht : -1000000≤t.C∧t.C≤1000000):bD n t=some (-(eZ n t.C)):=by unfold bD;rw [vx h0 hn ht];simp only [Option.bind_some];have:=Hf h0 hn;rw [bJ (by omega) (by omega)];exact congrArg some (by omega)
theorem CD {t:ak} {n:Nat} {ts:List ak} (hn:zf ts) (hf:∀ u∈ts,u.Var≠jB n):zf (mY t n ts):=by unfold zf mY;rw [List.map_cons,List.nodup_cons,List.map_map];refine ⟨fun h => ?_,(List.Sublist.map _ List.filter_sublist).nodup hn⟩;obtain ⟨u,hu,e⟩:=List.mem_map.1 h;exact hf u (List.mem_filter.1 hu).1 e
theorem A0 (t:ak) (n:Nat) (ts:List ak):(mY t n ts).length≤ts.length+1:=by unfold mY;rw [List.length_cons,Kp];have:=List.length_filter_le (fun u => !(u.Var==t.Var||eZ u.C t.C==0)) ts;omega
theorem Hj {t:ak} {n:Nat} {q:Linear} (h1:1≤n) (h2:n<1000000000) (hv:aq q=true):GH (zI t n q):=by
 have hp:=nc (mY t n q.Terms);have hl:=b8 hv;refine ⟨?_,fun u hu => ?_⟩
 ·show (A3 (mY t n q.Terms)).length≤1000000;rw [hp.length_eq];have:=A0 t n q.Terms;omega
 ·have hu:=hp.mem_iff.1 (show u∈A3 (mY t n q.Terms) from hu);unfold mY at hu;rcases List.mem_cons.1 hu with rfl | hu
  ·have:=gS (py h1 h2).1;show (jB n).length≤1000000;omega
  ·obtain ⟨x,hx,rfl⟩:=List.mem_map.1 hu;have:=gS ((cP hv x (List.mem_filter.1 hx).1).2);show x.Var.length≤1000000;omega
theorem Hd {t:ak} {q:Linear} (hv:aq q=true):GH (D3 t q):=by have hl:=b8 hv;have h2:=List.length_filter_le (fun u:ak => !(u.Var==t.Var)) q.Terms;refine ⟨by show ((q.Terms.filter fun u => !(u.Var==t.Var)).map fun u=>ak.mk u.Var (-t.C*u.C)).length≤1000000;rw [Kp];omega,fun u hu => ?_⟩;obtain ⟨x,hx,rfl⟩:=List.mem_map.1 (show u∈(q.Terms.filter fun u => !(u.Var==t.Var)).map fun u=>ak.mk u.Var (-t.C*u.C) from hu);have:=gS ((cP hv x (List.mem_filter.1 hx).1).2);show x.Var.length≤1000000;omega
theorem Es {i:Nat} {t:ak} {n:Nat} {rows:List Rw} {bs:List Bind} (hi:i<rows.length) (hv:aq (rows.getD i ny).q=true) (h1:1≤n) (h2:n<1000000000) (h0:t.C≠0) (ht : -1000000≤t.C∧t.C≤1000000)
 (hf:∀ u∈(rows.getD i ny).q.Terms,u.Var≠jB n) :
 bQ (i:Int) t (n:Int) rows bs=bif decide (n+1≥1000000000) then some (3,((n+1:Nat):Int),rows,bs) else
  (bc t.Var (zI t n (rows.getD i ny).q) (i:Int) ((n+1:Nat):Int) rows bs).bind fun y=>some (y.1,((n+1:Nat):Int),y.2.1,y.2.2):=by
 unfold bQ;rw [ax ⟨Int.natCast_nonneg _,by omega⟩,Int.toNat_natCast,ax hi];generalize hP:rows.getD i ny=p at hv hf;have hdl:=qp 8 n (by omega);unfold gM;rw [EJ,ax ⟨by omega,by omega,by omega⟩];simp only [Option.bind_some];rw [ax (by simp;omega),bJ (n:=(n:Int)+1) (by omega) (by omega)];have e1:(n:Int)+1=((n+1:Nat):Int):=by omega
 rw [e1];have e2:decide (((n+1:Nat):Int)≥1000000000)=decide (n+1≥1000000000):=by rw [decide_eq_decide];omega
 rw [e2];cases decide (n+1≥1000000000) with
 | true=>rfl
 | false =>
  simp only [cond_false];have hC:=cP hv;have hlen:=b8 hv;rw [sQ h0 (nv hv) ht];simp only [Option.bind_some];have hl:=dU (ε:=List ak) (ρ:=Empty) (f:=fun s=>s) (fin:=fun i0 s0=>s0) (⟨[],0⟩:ak) p.q.Terms (fun u s=>fX.go (bif (u.Var==t.Var||eZ u.C t.C==0) then s else s++[ak.mk u.Var (-(eZ u.C t.C))])) (fun j s=>s.length≤j+1)
   (body:=fun i0 s0 =>
   (bD ((p.q.Terms.getD i0 ⟨[],0⟩).C) t).bind fun y2 =>
   ((
    bif ((p.q.Terms.getD i0 ⟨[],0⟩).Var==t.Var) then (
     some false
    ) else (
     some (y2 != 0)
    )
   ):Option Bool).bind fun v0 =>
   ((
    bif v0 then (
     bH ((s0.length+1)*24≤140737488355328) <|
     some (s0++[(ak.mk ((p.q.Terms.getD i0 ⟨[],0⟩).Var) y2)])
    ) else (
     some s0
    )
   ):Option (List ak)).bind fun v1 =>
   some (.go v1)) (fun _ _=>rfl) [(ak.mk ([95]++dec n) 1)] (by simp) (fun j s hj hI=>by
    have hm:p.q.Terms.getD j ⟨[],0⟩∈p.q.Terms:=ba _ hj;obtain ⟨c1,c2⟩:=hC _ hm;refine ⟨?_,fun s' hs' => ?_⟩
    ·rw [sQ h0 c1 ht];simp only [Option.bind_some];cases (p.q.Terms.getD j ⟨[],0⟩).Var==t.Var with
     | true=>rfl
     | false =>
      simp only [cond_false,Option.bind_some,Bool.false_or];have e3:(-(eZ (p.q.Terms.getD j ⟨[],0⟩).C t.C) != 0) = !(eZ (p.q.Terms.getD j ⟨[],0⟩).C t.C==0):=by unfold bne;congr 1;rw [Bool.eq_iff_iff];simp
      rw [e3];cases eZ (p.q.Terms.getD j ⟨[],0⟩).C t.C==0 with
      | true=>rfl
      | false =>
       simp only [Bool.not_false,cond_true];rw [ax (by omega)];rfl
    ·injection hs' with hs'
     subst hs';cases (p.q.Terms.getD j ⟨[],0⟩).Var==t.Var||eZ (p.q.Terms.getD j ⟨[],0⟩).C t.C==0<;>simp<;>omega)
  refine (congrArg (fun o:Option (Out (List ak) Empty)=>Option.bind o _) hl).trans ?_;rw [oE (fun u:ak=>u.Var==t.Var||eZ u.C t.C==0)];simp only [Option.bind_some,dG];have e4:[ak.mk ([95]++dec n) 1]++(p.q.Terms.filter fun u => !(u.Var==t.Var||eZ u.C t.C==0)).map (fun u=>ak.mk u.Var (-(eZ u.C t.C)))=mY t n p.q.Terms:=rfl;rw [e4];unfold iB;have hrl:=A0 t n p.q.Terms;rw [ax ⟨by omega,CD (eS hv) hf⟩];rfl
theorem vk {l:Linear} (h:aq l=true) (c:Int) (f:Int→Int) (hc : -1000000≤c∧c≤1000000) (hf:∀ t∈l.Terms,f t.C≠0 ∧ -1000000≤f t.C∧f t.C≤1000000):aq (Linear.mk c (l.Terms.map fun t=>ak.mk t.Var (f t.C)))=true:=by
 have hl:=b8 h;have hat:∀ j,j<l.Terms.length→xK (Linear.mk c (l.Terms.map fun t=>ak.mk t.Var (f t.C))) j=ak.mk (xK l j).Var (f (xK l j).C):=fun j hj=>by unfold xK;rw [getD_at _ (by simpa using hj),getD_at _ hj];simp
 have h':=h;simp only [aq,Kj,Ku,decide_eq_true_eq] at h' ⊢;refine ⟨fun j hj => ?_,by simp only [B6,Kj,decide_eq_true_eq];exact hc,by simpa using hl⟩;have hj:j<l.Terms.length:=by simpa using hj
 have hp:=h'.1 j (by simpa using hj);have hm:xK l j∈l.Terms:=ba _ hj;obtain ⟨f1,f2⟩:=hf _ hm;simp only [kj,Kj] at hp ⊢;rw [hat j hj];refine ⟨hp.1,by simpa using f1,by simp only [B6,Kj,decide_eq_true_eq];exact f2,?_⟩;cases j with
 | zero=>rfl
 | succ j =>
  have:=hp.2.2.2;rw [hat (j+1-1) (by omega)];exact this
def aY (g:Int) (q:Linear):Linear:=Linear.mk (q.Const.tdiv g) (q.Terms.map fun t=>ak.mk t.Var (t.C.tdiv g))
theorem tdiv_le {a g:Int} (h : -1000000≤a∧a≤1000000) : -1000000≤a.tdiv g∧a.tdiv g≤1000000:=by have:=Int.natAbs_tdiv_le_natAbs a g;omega
theorem rb {q:Linear}:∀ t∈q.Terms,((cont q:Nat):Int) ∣ t.C:=fun t ht=>Int.natAbs_dvd_natAbs.1 (by rw [Int.natAbs_natCast];exact (sf q.Terms 0).2 t ht)
theorem ed {q:Linear} (h:aq q=true):aq (aY (cont q) q)=true:=by refine vk h _ (fun c=>c.tdiv (cont q)) (tdiv_le (nv h)) fun t ht=>⟨fun h0 => ?_,tdiv_le (cP h t ht).1⟩;have:=Int.mul_tdiv_cancel' (rb t ht);rw [h0,Int.mul_zero] at this;exact dt h t ht this.symm
def He (n:Nat) (m:Ms):List Int:=(List.range n).map fun j:Nat=>bA 0 (j:Int) m
theorem FX {β:Type} {n:Nat} {m:Ms} (hn:(m.map (·.1)).Nodup) (hk:∀ y∈m.map (·.1),0≤y∧y<(n:Int)) (k:List Int→Option β) (v:β) (hv:k (He n m)=some v) :
 lM (σ:=(List Int)) (ε:=Empty) (β:=β) m (fun e0 s0 =>
  bH (0≤e0.1∧e0.1<(s0.length:Int)) <|
  bH (e0.1.toNat<s0.length) <|
  some (.go (s0.set e0.1.toNat e0.2))
  ) (List.replicate n 0) k=some v:=by
 refine pj (tZ (fun seen s=>s=(List.range n).map fun j:Nat=>if (j:Int)∈seen.map (fun i=>(m.getD i (0,0)).1) then bA 0 (j:Int) m else 0) (fun seen s i hi hnd hni hlt hI => ?_) (fun seen s hnd hall hlt hI => ?_) _ [] _ (by simp) (by simp) (by simp) ?_)
 ·have hm:m[i]∈m:=List.getElem_mem hi;have hg:m.getD i (0,0)=m[i]:=getD_at _ hi;generalize he:m[i]=e at hm hg ⊢;have hb:=hk e.1 (List.mem_map.2 ⟨e,hm,rfl⟩);have hlen:s.length=n:=by rw [hI];simp
  refine ⟨_,by rw [ax ⟨hb.1,by omega⟩,ax (by omega)],?_⟩;rw [hI];refine List.ext_getElem (by simp) fun j h1 h2 => ?_;have hj:j<n:=by simpa using h2
  rw [List.getElem_set];simp only [List.getElem_map,List.getElem_range,List.map_append,List.map_cons,List.map_nil,List.mem_append,List.mem_singleton,hg];by_cases ej:e.1.toNat=j
  ·have:(j:Int)=e.1:=by omega
   rw [if_pos ej,this,if_pos (.inr rfl),dy hn hm]
  ·have:¬ (j:Int)=e.1:=by omega
   rw [if_neg ej];simp only [this,or_false]
 ·have:s=He n m:=by
   rw [hI];unfold He;refine List.map_congr_left fun j hj => ?_;by_cases h:(j:Int)∈m.map (·.1)
   ·rw [if_pos ((mW hnd hall hlt _).2 h)]
   ·rw [if_neg (fun h2=>h ((mW hnd hall hlt _).1 h2)),(eA.self hn).out h]
  rw [this];exact hv
 ·refine List.ext_getElem (by simp) fun j h1 h2=>by simp
def iM (r:Rw):Rw:=bif yW (mulR r.scale (cont r.q)).1 (mulR r.scale (cont r.q)).2 then ab.mk (aY (cont r.q) r.q) r.mults (mulR r.scale (cont r.q)).1 r.lost else ab.mk (aY (cont r.q) r.q) r.mults 1 true
def zd (n:Nat) (r:Rw):ah:=bif r.lost then ah.mk [] 0 else bif yW (mulR r.scale (cont r.q)).1 (mulR r.scale (cont r.q)).2 then ah.mk (He n r.mults) (mulR r.scale (cont r.q)).1 else ah.mk [] 0
def w5 (q:Linear):Bool:=cont q==0 || !(q.Const.tmod (cont q)==0)
set_option maxHeartbeats 2000000 in
theorem step_eq {i:Nat} {n:Int} {rows:List Rw} {bs:List Bind} (hi:i<rows.length) (hl:rows.length≤1000000) {r:Rw} (er:rows.getD i ny=r) (hr:np rows.length r) :
 bg (i:Int) n rows bs=bif w5 r.q then some ((zd rows.length r,9),n,rows,bs) else
  bif (rD (aY (cont r.q) r.q).Terms).C==1||(rD (aY (cont r.q) r.q).Terms).C == -1 then
   (br (i:Int) (rD (aY (cont r.q) r.q).Terms) n (rows.set i (iM r)) bs).bind fun y=>some ((ah.mk [] 0,y.1),n,y.2.1,y.2.2)
  else (bQ (i:Int) (rD (aY (cont r.q) r.q).Terms) n (rows.set i (iM r)) bs).bind fun y=>some ((ah.mk [] 0,y.1),y.2.1,y.2.2.1,y.2.2.2):=by
 unfold bg w5;rw [ax ⟨Int.natCast_nonneg _,by omega⟩,Int.toNat_natCast,ax hi];have er':rows.getD i ⟨⟨0,[]⟩,[],0,false⟩=r:=er;simp only [er',re];rw [rv hr.v];simp only [Option.bind_some,kI,fj];have hrefuse:(bif r.lost then some ((ah.mk [] 0,(9:Int)),n,rows,bs) else bif yW (mulR r.scale (cont r.q)).1 (mulR r.scale (cont r.q)).2 then
  bH (8*rows.length≤140737488355328) <|
  lM (σ:=(List Int)) (ε:=Empty) (β:=((ah×Int)×Int×(List ab)×(List Bind))) r.mults (fun e0 s0 =>
   bH (0≤e0.1∧e0.1<(s0.length:Int)) <|
   bH (e0.1.toNat<s0.length) <|
   some (.go (s0.set e0.1.toNat e0.2))
  ) (List.replicate rows.length 0) (fun s0 =>
   some (((ah.mk s0 (mulR r.scale (cont r.q)).1),9),n,rows,bs)
  ) else some ((ah.mk [] 0,(9:Int)),n,rows,bs))=some ((zd rows.length r,9),n,rows,bs):=by
  unfold zd;cases r.lost with
  | true=>rfl
  | false =>
   simp only [cond_false];cases yW (mulR r.scale (cont r.q)).1 (mulR r.scale (cont r.q)).2 with
   | false=>rfl
   | true =>
    simp only [cond_true];rw [ax (by omega)];exact FX hr.nd hr.ks _ _ rfl
 by_cases h0:cont r.q=0
 ·have e1:(((cont r.q:Nat):Int)==0)=true:=by simp [h0]
  have e2:(cont r.q==0)=true:=by simp [h0]
  rw [e1,e2];simp only [cond_true,Bool.true_or];exact hrefuse
 ·have e1:(((cont r.q:Nat):Int)==0)=false:=by simp [h0]
  have e2:(cont r.q==0)=false:=by simp [h0]
  rw [e1,e2];simp only [cond_false,Bool.false_or];rw [ax (by omega)];cases h1:r.q.Const.tmod (cont r.q)==0 with
  | false =>
   simp only [cond_false,Bool.not_false,cond_true];exact hrefuse
  | true =>
   simp only [cond_true,Bool.not_true,cond_false];have hC:=cP hr.v;have hlen:=b8 hr.v;have hcl:=dU (ε:=List ak) (ρ:=Empty) (f:=fun s=>s) (fin:=fun i0 s0=>s0) (⟨[],0⟩:ak) r.q.Terms (fun u s=>fX.go (bif false then s else s++[ak.mk u.Var (u.C.tdiv (cont r.q))])) (fun j s=>s.length≤j)
    (body:=fun i0 s1 =>
    bH ((s1.length+1)*24≤140737488355328) <|
    some (.go (s1++[(ak.mk ((r.q.Terms.getD i0 ⟨[],0⟩).Var) (aD (((r.q.Terms.getD i0 ⟨[],0⟩).C).tdiv (cont r.q))))]))) (fun _ _=>rfl) [] (Nat.zero_le _) (fun j s hj hI=>by
     have hm:r.q.Terms.getD j ⟨[],0⟩∈r.q.Terms:=ba _ hj;have hb:=tdiv_le (g:=(cont r.q:Int)) (hC _ hm).1;refine ⟨?_,fun s' hs' => ?_⟩
     ·rw [ax (by omega),bJ (by omega) (by omega)];rfl
     ·injection hs' with hs'
      subst hs';simp;omega)
   rw [oE (fun _:ak=>false)] at hcl;have hfl:(r.q.Terms.filter fun _ => !false)=r.q.Terms:=List.filter_eq_self.2 fun _ _=>rfl;rw [hfl,List.nil_append] at hcl;refine (congrArg (fun o:Option (Out (List ak) Empty)=>Option.bind o _) hcl).trans ?_;simp only [Option.bind_some,dG];have hkc:=tdiv_le (g:=(cont r.q:Int)) (nv hr.v);rw [bJ (n:=r.q.Const.tdiv (cont r.q)) (by omega) (by omega)];have hq:Linear.mk (r.q.Const.tdiv (cont r.q)) (r.q.Terms.map fun u=>ak.mk u.Var (u.C.tdiv (cont r.q)))=aY (cont r.q) r.q:=rfl;rw [hq];have hne:(aY (cont r.q) r.q).Terms≠[]:=by
    intro h;have:r.q.Terms=[]:=by simpa [aY] using h
    exact h0 ((sB hr.v).2 this)
   simp only [qW (ed hr.v) hne,Option.bind_some,kb hi,List.set_set,List.length_set];unfold iM;cases yW (mulR r.scale (cont r.q)).1 (mulR r.scale (cont r.q)).2 with
   | true =>
    simp only [cond_true];rw [ax hi];cases (rD (aY (cont r.q) r.q).Terms).C==1 with
    | true=>rfl
    | false=>cases (rD (aY (cont r.q) r.q).Terms).C == -1<;>rfl
   | false =>
    simp only [cond_false];rw [ax hi,ax hi];cases (rD (aY (cont r.q) r.q).Terms).C==1 with
    | true=>rfl
    | false=>cases (rD (aY (cont r.q) r.q).Terms).C == -1<;>rfl
inductive Rs where
 | no
 | lim
 | ok (n:Nat) (qs:List Linear) (bs:List Bind)
abbrev bh:Linear:=⟨0,[]⟩
def rG (x:aw) (by_:Linear) (i n:Nat) (qs:List Linear) (bs:List Bind):Rs :=
 bif rJ x by_ i qs (bs.map (·.Dim)) then .ok n (qs.take i++(qs.drop i).map (pN x by_)) (bs.map (j6 x by_)++[one x by_]) else .lim
def gz (i n:Nat) (qs:List Linear) (bs:List Bind):Rs :=
 bif w5 (qs.getD i bh) then .no else
 bif (rD (aY (cont (qs.getD i bh)) (qs.getD i bh)).Terms).C==1||(rD (aY (cont (qs.getD i bh)) (qs.getD i bh)).Terms).C == -1 then
  rG (rD (aY (cont (qs.getD i bh)) (qs.getD i bh)).Terms).Var (D3 (rD (aY (cont (qs.getD i bh)) (qs.getD i bh)).Terms) (aY (cont (qs.getD i bh)) (qs.getD i bh))) i n (qs.set i (aY (cont (qs.getD i bh)) (qs.getD i bh))) bs
 else bif decide (n+1≥1000000000) then .lim else
  rG (rD (aY (cont (qs.getD i bh)) (qs.getD i bh)).Terms).Var (zI (rD (aY (cont (qs.getD i bh)) (qs.getD i bh)).Terms) n (aY (cont (qs.getD i bh)) (qs.getD i bh))) i (n+1) (qs.set i (aY (cont (qs.getD i bh)) (qs.getD i bh))) bs
theorem iJ {x:aw} {by_ q:Linear} (hb:aq by_=true) (hv:aq q=true) (h:jg x by_ q=true) :
 aq (pN x by_ q)=true∧(∀ f,kf f (pN x by_ q)=kf f q+cf q x*(kf f by_-f x))∧∀ v,cf (pN x by_ q) v=cf q v+cf q x*(cf by_ v-ind v x):=by
 unfold jg at h;unfold pN;cases h0:cf q x==0 with
 | true =>
  have:cf q x=0:=by simpa using h0
  simp only [cond_true,this,Int.zero_mul,Int.add_zero];exact ⟨hv,fun _=>trivial,fun _=>trivial⟩
 | false =>
  rw [h0,Bool.false_or] at h;have h2:(BL [one x by_] q).2=0:=by simpa using h
  simp only [cond_false];exact ⟨(yh h2 (fun _=>0)).2.1,fun f=>(yh h2 f).2.2,fun v=>I1 h2 hb v⟩
def yU (n:Int) (q:Linear):Prop:=∀ t∈q.Terms,nV t.Var<n
theorem EP {n:Int} {q:Linear} (h:yU n q) {v:aw} (h0:cf q v≠0):nV v<n:=by obtain ⟨t,ht,e,_⟩:=tR (show nY v q.Terms≠0 from h0);rw [← e];exact h t ht
theorem C9 {n:Int} {x:aw} {by_ q:Linear} (hb:aq by_=true) (hv:aq q=true) (h:jg x by_ q=true) (h1:yU n q) (h2:yU n by_):yU n (pN x by_ q):=by
 obtain ⟨a,_,c⟩:=iJ hb hv h;intro t ht;have e:=mF (eS a) ht;have hz:=dt a t ht;have e:cf (pN x by_ q) t.Var=t.C:=e;rw [c] at e;by_cases z1:cf q t.Var=0
 ·by_cases z2:cf by_ t.Var=0
  ·by_cases z3:t.Var=x
   ·subst z3;rw [z1,z2] at e;simp at e;omega
   ·have:ind t.Var x=0:=by unfold ind;rw [if_neg (fun e=>z3 e.symm)]
    rw [z1,z2,this] at e;simp at e;omega
  ·exact EP h2 z2
 ·exact EP h1 z1
theorem uk {n m:Int} {q:Linear} (h:yU n q) (hm:n≤m):yU m q:=fun t ht=>by have:=h t ht;omega
theorem jZ {n:Int} {q:Linear} (h:yU n q):yU n (aY (cont q) q):=by intro t ht;obtain ⟨u,hu,rfl⟩:=List.mem_map.1 (show t∈q.Terms.map fun t=>ak.mk t.Var (t.C.tdiv (cont q)) from ht);exact h u hu
theorem C8 {n:Int} {t:ak} {q:Linear} (h:yU n q):yU n (D3 t q):=by intro u hu;obtain ⟨x,hx,rfl⟩:=List.mem_map.1 (show u∈(q.Terms.filter fun u => !(u.Var==t.Var)).map fun u=>ak.mk u.Var (-t.C*u.C) from hu);exact h x (List.mem_filter.1 hx).1
theorem Ds {n:Nat} {t:ak} {q:Linear} (h1:1≤n) (h2:n<1000000000) (h:yU n q):yU ((n+1:Nat):Int) (zI t n q):=by
 intro u hu;have hu:=(nc _).mem_iff.1 (show u∈A3 (mY t n q.Terms) from hu);unfold mY at hu;rcases List.mem_cons.1 hu with rfl | hu
 ·show nV (jB n)<_;rw [(py h1 h2).2];omega
 ·obtain ⟨x,hx,rfl⟩:=List.mem_map.1 hu;have:=h x (List.mem_filter.1 hx).1;show nV x.Var<_;omega
theorem HD {n:Nat} (h1:1≤n) (h2:n<1000000000) {q:Linear} (h:yU n q):∀ u∈q.Terms,u.Var≠jB n:=fun u hu e=>by have:=h u hu;rw [e,(py h1 h2).2] at this;omega
structure gE (n:Nat) (qs:List Linear) (bs:List Bind):Prop where
 n1:1≤n
 n2:n<1000000000
 qv:∀ q∈qs,aq q=true∧yU n q
 bv:∀ b∈bs,aq b.Dim=true∧yU n b.Dim∧eW b.Var=true∧nV b.Var<n
structure wR (N:Int) (r:Rw):Prop where
 nd:(r.mults.map (·.1)).Nodup
 sc:r.scale≠0
 ks:∀ y∈r.mults.map (·.1),0≤y∧y<N
theorem wR.to {N:Int} {r:Rw} (h:wR N r) (hv:aq r.q=true):np N r:=⟨hv,h.nd,h.sc,h.ks⟩
theorem np.to {N:Int} {r:Rw} (h:np N r):wR N r:=⟨h.nd,h.sc,h.ks⟩
theorem yb {q:Linear} (hv:aq q=true) (hc:cont q≠0):rD (aY (cont q) q).Terms∈(aY (cont q) q).Terms∧∀ t∈(aY (cont q) q).Terms,(rD (aY (cont q) q).Terms).C.natAbs≤t.C.natAbs:=by refine IG fun h=>hc ((sB hv).2 ?_);simpa [aY] using h
theorem oI {q:Linear} (h:w5 q=false):cont q≠0∧q.Const.tmod (cont q)=0:=by unfold w5 at h;simp only [Bool.or_eq_false_iff,Bool.not_eq_false'] at h;exact ⟨by simpa using h.1,by simpa using h.2⟩
theorem yi {x:aw} {by_:Linear} {i n m:Nat} {qs:List Linear} {bs:List Bind} (h:gE n qs bs) (hnm:n≤m) (hm:m<1000000000) (hx:eW x=true) (hxf:nV x<m) (hb:yU m by_) {n':Nat} {qs':List Linear} {bs':List Bind} (e:rG x by_ i m qs bs = .ok n' qs' bs') :
 n'=m∧gE m qs' bs'∧qs'=qs.take i++(qs.drop i).map (pN x by_)∧bs'=bs.map (j6 x by_)++[one x by_]∧aq by_=true∧(∀ b∈bs,jg x by_ b.Dim=true)∧∀ q∈qs.drop i,jg x by_ q=true:=by
 unfold rG at e;cases ho:rJ x by_ i qs (bs.map (·.Dim)) with
 | false=>rw [ho] at e;cases e
 | true =>
  rw [ho] at e;injection e with e1 e2 e3
  unfold rJ at ho;simp only [Kj,Ku,List.mem_map,forall_exists_index,and_imp,forall_apply_eq_imp_iff₂] at ho;obtain ⟨hv,hB,hQ⟩:=ho;refine ⟨e1.symm,⟨by have:=h.n1;omega,hm,fun q hq => ?_,fun b hb' => ?_⟩,e2.symm,e3.symm,hv,hB,hQ⟩
  ·rw [← e2] at hq;rcases List.mem_append.1 hq with hq | hq
   ·obtain ⟨a,c⟩:=h.qv q (List.mem_of_mem_take hq);exact ⟨a,uk c (by omega)⟩
   ·obtain ⟨q0,hq0,rfl⟩:=List.mem_map.1 hq;obtain ⟨a,c⟩:=h.qv q0 (List.mem_of_mem_drop hq0);exact ⟨(iJ hv a (hQ q0 hq0)).1,C9 hv a (hQ q0 hq0) (uk c (by omega)) hb⟩
  ·rw [← e3] at hb';rcases List.mem_append.1 hb' with hb' | hb'
   ·obtain ⟨b0,hb0,rfl⟩:=List.mem_map.1 hb';obtain ⟨a,c,d,f⟩:=h.bv b0 hb0;exact ⟨(iJ hv a (hB b0 hb0)).1,C9 hv a (hB b0 hb0) (uk c (by omega)) hb,d,by show nV b0.Var<_;omega⟩
   ·have:b=one x by_:=by simpa using hb'
    subst this;exact ⟨hv,hb,hx,hxf⟩
theorem xw {i n:Nat} {qs:List Linear} {bs:List Bind} (h:gE n qs bs) (hi:i<qs.length):gE n (qs.set i (aY (cont (qs.getD i bh)) (qs.getD i bh))) bs:=by
 obtain ⟨a,c⟩:=h.qv _ (ba bh hi);refine ⟨h.n1,h.n2,fun q hq => ?_,h.bv⟩;rcases List.mem_or_eq_of_mem_set hq with hq | rfl
 ·exact h.qv q hq
 ·exact ⟨ed a,jZ c⟩
theorem Eh (rows:List Rw) (i:Nat) (r:Rw):(rows.set i r).map (·.q)=(rows.map (·.q)).set i r.q:=by rw [List.map_set]
theorem sH (r:Rw):(iM r).q=aY (cont r.q) r.q:=by unfold iM;cases yW (mulR r.scale (cont r.q)).1 (mulR r.scale (cont r.q)).2<;>rfl
theorem C5 {N:Int} {r:Rw} (h:np N r) (hc:cont r.q≠0):np N (iM r):=by
 refine ⟨by rw [sH];exact ed h.v,?_,?_,?_⟩<;>unfold iM<;>cases hs:yW (mulR r.scale (cont r.q)).1 (mulR r.scale (cont r.q)).2
 ·exact h.nd
 ·exact h.nd
 ·show (1:Int)≠0;omega
 ·show (mulR r.scale (cont r.q)).1≠0;unfold yW at hs;simp only [Kj] at hs;have h2:(mulR r.scale (cont r.q)).2=0:=eq_of_beq hs.1;clear hs;unfold mulR at h2 ⊢;cases hj:ko r.scale&&(ko (cont r.q:Int)&&ko (r.scale*(cont r.q:Int))) with
  | false=>rw [hj] at h2;simp at h2
  | true=>exact Int.mul_ne_zero h.sc (by omega)
 ·exact h.ks
 ·exact h.ks
theorem HL {x:aw} {by_:Linear} {i m:Nat} {rows:List Rw} {bs:List Bind} (hx:eW x=true) (hk:GH by_) (hi:i≤rows.length) (hl1:rows.length≤1000000) (hl2:bs.length≤2000000000)
 (hr:∀ r∈rows,np rows.length r) (hb:∀ b∈bs,aq b.Dim=true) (nx:Int) :
 (rG x by_ i m (rows.map (·.q)) bs = .lim∧∃ r' b',bc x by_ (i:Int) nx rows bs=some (3,r',b')) ∨
 ∃ rows' bs',rG x by_ i m (rows.map (·.q)) bs = .ok m (rows'.map (·.q)) bs'∧bc x by_ (i:Int) nx rows bs=some (0,rows',bs')∧rows'.length=rows.length∧∀ r∈rows',wR rows.length r:=by
 rcases put_eq (nx:=nx) hx hk hi hl1 hl2 (fun r h=>(hr r h).v) hb with ⟨h1,h2⟩ | ⟨h1,h2⟩
 ·right;refine ⟨_,_,?_,h2,?_,fun r h => ?_⟩
  ·unfold rG;rw [h1,cond_true,List.map_append,List.map_map,← List.map_take,← List.map_drop,List.map_map];rfl
  ·simp;omega
  ·rcases List.mem_append.1 h with h | h
   ·exact (hr r (List.mem_of_mem_take h)).to
   ·obtain ⟨r0,hr0,rfl⟩:=List.mem_map.1 h;have:=hr r0 (List.mem_of_mem_drop hr0);exact ⟨this.nd,this.sc,this.ks⟩
 ·left;exact ⟨by unfold rG;rw [h1];rfl,h2⟩
theorem J9 (t:ak) (p r:Rw):(gU t p r).q=r.q:=by
 unfold gU;cases cf r.q t.Var==0 with
 | true=>rfl
 | false=>exact Ch r p _
theorem JN {N:Int} {t:ak} {p r:Rw} (hp:np N p) (hr:np N r):np N (gU t p r):=by
 unfold gU;cases cf r.q t.Var==0 with
 | true=>exact hr
 | false=>exact FG hr hp _
theorem vA (rows:List Rw) (i:Nat):(rows.map (·.q)).getD i bh=(rows.getD i ny).q:=by rw [Kh,Kh,List.getElem?_map];cases rows[i]? <;> rfl
theorem Ie {i n:Nat} {rows:List Rw} {bs:List Bind} (hi:i<rows.length) (hl1:rows.length≤1000000) (hl2:bs.length≤2000000000) (h:gE n (rows.map (·.q)) bs) (hr:∀ r∈rows,wR rows.length r) :
 (gz i n (rows.map (·.q)) bs = .no∧bg (i:Int) (n:Int) rows bs=some ((zd rows.length (rows.getD i ny),9),(n:Int),rows,bs)) ∨
 (gz i n (rows.map (·.q)) bs = .lim∧∃ f n' r' b',bg (i:Int) (n:Int) rows bs=some ((f,3),n',r',b')) ∨
 ∃ m rows' bs',gz i n (rows.map (·.q)) bs = .ok m (rows'.map (·.q)) bs'∧bg (i:Int) (n:Int) rows bs=some ((ah.mk [] 0,0),(m:Int),rows',bs')∧rows'.length=rows.length∧∀ r∈rows',wR rows.length r:=by
 have hrw:∀ r∈rows,np rows.length r:=fun r hm=>(hr r hm).to (h.qv r.q (List.mem_map.2 ⟨r,hm,rfl⟩)).1;have hri:=hrw _ (ba ny hi);have hfi:yU n (rows.getD i ny).q:=(h.qv _ (List.mem_map.2 ⟨_,ba ny hi,rfl⟩)).2;rw [step_eq hi hl1 rfl hri];unfold gz;rw [vA];generalize hP:rows.getD i ny=p at hri hfi ⊢;cases hno:w5 p.q with
 | true=>exact .inl ⟨rfl,rfl⟩
 | false =>
  obtain ⟨hc,hd⟩:=oI hno;simp only [cond_false];obtain ⟨tm,tmin⟩:=yb hri.v hc;have hnv:=ed hri.v;generalize hT:rD (aY (cont p.q) p.q).Terms=t at tm tmin ⊢;have hbd:∀ b∈bs,aq b.Dim=true:=fun b hb=>(h.bv b hb).1;have hrows1:∀ r∈rows.set i (iM p),np rows.length r:=fun r hm=>by
   rcases List.mem_or_eq_of_mem_set hm with hm | rfl
   ·exact hrw r hm
   ·exact C5 hri hc
  have hq1:(rows.map (·.q)).set i (aY (cont p.q) p.q)=(rows.set i (iM p)).map (·.q):=by rw [Eh,sH]
  have hat:(rows.set i (iM p)).getD i ny=iM p:=kb hi;have hi1:i<(rows.set i (iM p)).length:=by simpa using hi
  have hl:(rows.set i (iM p)).length=rows.length:=by simp
  obtain ⟨tb,tn⟩:=cP hnv t tm;cases hu:t.C==1||t.C == -1 with
  | true =>
   have ht:t.C=1∨t.C = -1:=by simp only [Bool.or_eq_true,beq_iff_eq] at hu;exact hu
   simp only [cond_true];rw [unit_eq hi1 (by rw [hl];exact hl1) (fun r hm=>by rw [hl];exact hrows1 r hm) ht,hat,sH,hq1];have hmq:((rows.set i (iM p)).take (i+1)++((rows.set i (iM p)).drop (i+1)).map (gU t (iM p))).map (·.q)=(rows.set i (iM p)).map (·.q):=by rw [List.map_append,List.map_map];have:((fun x:Rw=>x.q) ∘ gU t (iM p))=fun x=>x.q:=funext fun r=>J9 t (iM p) r;rw [this,← List.map_append,List.take_append_drop]
   have hlq:((rows.set i (iM p)).take (i+1)++((rows.set i (iM p)).drop (i+1)).map (gU t (iM p))).length=rows.length:=by simp;omega
   have hrq:∀ r∈(rows.set i (iM p)).take (i+1)++((rows.set i (iM p)).drop (i+1)).map (gU t (iM p)),np rows.length r:=fun r hm=>by
    rcases List.mem_append.1 hm with hm | hm
    ·exact hrows1 r (List.mem_of_mem_take hm)
    ·obtain ⟨r0,hr0,rfl⟩:=List.mem_map.1 hm;exact JN (C5 hri hc) (hrows1 r0 (List.mem_of_mem_drop hr0))
   have hpu:=HL (i:=i) (m:=n) (nx:=(n:Int)) (bs:=bs) (rows:=(rows.set i (iM p)).take (i+1)++((rows.set i (iM p)).drop (i+1)).map (gU t (iM p))) tn (Hd (t:=t) hnv) (by omega) (by omega) hl2 (fun r hm=>by rw [hlq];exact hrq r hm) hbd;rw [hmq,hlq] at hpu;rcases hpu with ⟨a,r',b',e⟩ | ⟨rows',bs',a,e,l,o⟩
   ·right;left;exact ⟨a,_,_,_,_,by rw [e];rfl⟩
   ·right;right;exact ⟨n,rows',bs',a,by rw [e];rfl,l,o⟩
  | false =>
   simp only [cond_false];have ht0:t.C≠0:=dt hnv t tm;rw [Es hi1 (by rw [hat,sH];exact hnv) h.n1 h.n2 ht0 tb (by rw [hat,sH];exact HD h.n1 h.n2 (jZ hfi)),hat,sH,hq1];cases hlim:decide (n+1≥1000000000) with
   | true=>exact .inr (.inl ⟨rfl,_,_,_,_,rfl⟩)
   | false =>
    simp only [cond_false];have hpu:=HL (i:=i) (m:=n+1) (nx:=((n+1:Nat):Int)) (bs:=bs) (rows:=rows.set i (iM p)) tn (Hj (t:=t) h.n1 h.n2 hnv) (by omega) (by omega) hl2 (fun r hm=>by rw [hl];exact hrows1 r hm) hbd;rw [hl] at hpu;rcases hpu with ⟨a,r',b',e⟩ | ⟨rows',bs',a,e,l,o⟩
    ·right;left;exact ⟨a,_,_,_,_,by rw [e];rfl⟩
    ·right;right;exact ⟨n+1,rows',bs',a,by rw [e];rfl,l,o⟩
theorem xj (f:aw→Int) (x:aw) (a:Int):∀ {ts:List ak},zf ts→dd f ((ts.filter fun u => !(u.Var==x)).map fun u=>ak.mk u.Var (a*u.C))=a*(dd f ts-nY x ts*f x)
 | [],_=>by simp [dd,nY]
 | t::ts,hn=>by
  unfold zf at hn;rw [List.map_cons,List.nodup_cons] at hn;have ih:=xj f x a (ts:=ts) hn.2;by_cases e:t.Var=x
  ·have h0:nY x ts=0:=j8 (by rw [← e];exact hn.1);have e2:(!(t.Var==x))=false:=by simp [e]
   rw [List.filter_cons,e2];simp only [Bool.false_eq_true,if_false];rw [ih,h0];simp only [dd,nY,e,if_true,Int.zero_mul,Int.sub_zero];congr 1;omega
  ·have e2:(!(t.Var==x))=true:=by simp [e]
   rw [List.filter_cons,e2];simp only [if_true,List.map_cons,dd,nY,if_neg e];rw [ih,Int.mul_sub,Int.mul_sub,Int.mul_add,Int.mul_assoc];omega
theorem G4 (f:aw→Int) {t:ak} {q:Linear} (hq:aq q=true) (hm:t∈q.Terms):kf f (D3 t q) = -t.C*(kf f q-t.C*f t.Var):=by have h1:=xj f t.Var (-t.C) (eS hq);have h2:nY t.Var q.Terms=t.C:=mF (eS hq) hm;show -t.C*q.Const+dd f ((q.Terms.filter fun u => !(u.Var==t.Var)).map fun u=>ak.mk u.Var (-t.C*u.C))=_;rw [h1,h2,← Int.mul_add];congr 1;unfold kf;omega
theorem FB {t:ak} {q:Linear} (hq:aq q=true) (hm:t∈q.Terms) (ht:t.C=1∨t.C = -1) (hb:aq (D3 t q)=true) (hc:jg t.Var (D3 t q) q=true):pN t.Var (D3 t q) q=⟨0,[]⟩:=by
 obtain ⟨a,b,_⟩:=iJ hb hq hc;refine Hv a nO fun f => ?_;have h2:cf q t.Var=t.C:=mF (eS hq) hm;rw [b f,G4 f hq hm,h2];have h0:kf f (⟨0,[]⟩:Linear)=0:=by simp [kf,dd]
 rw [h0];rcases ht with h | h<;>rw [h]<;>omega
theorem FJ {a b:List ak} (h:a.Perm b) (ha:zf a) (v:aw):nY v a=nY v b:=by have hb:zf b:=(h.map ak.Var).nodup_iff.1 ha;rw [← uw v ha,← uw v hb,xP _ h]
theorem qz {p:ak→Bool} {g:Int→Int} {v:aw}:∀ {ts:List ak},zf ts→∀ {u:ak},u∈ts→u.Var=v→nY v ((ts.filter p).map fun u=>ak.mk u.Var (g u.C))=if p u=true then g u.C else 0
 | [],_,u,h,_=>by simp at h
 | t::ts,hn,u,h,e=>by
  unfold zf at hn;rw [List.map_cons,List.nodup_cons] at hn;have hno:∀ (y:aw),y ∉ ts.map ak.Var→nY y ((ts.filter p).map fun u=>ak.mk u.Var (g u.C))=0:=fun y hy=>j8 (by
   rw [List.map_map];intro h;obtain ⟨z,hz,ez⟩:=List.mem_map.1 h;exact hy (List.mem_map.2 ⟨z,(List.mem_filter.1 hz).1,ez⟩))
  rcases List.mem_cons.1 h with rfl | h
  ·rw [List.filter_cons];cases hp:p u with
   | true=>simp only [if_true,List.map_cons,nY,if_pos e]
   | false =>
    simp only [Bool.false_eq_true,if_false];exact hno v (by rw [← e];exact hn.1)
  ·have hne:¬ t.Var=v:=fun e2=>hn.1 (by rw [e2,← e];exact List.mem_map.2 ⟨u,h,rfl⟩);rw [List.filter_cons];cases hp:p t with
   | true =>
    simp only [if_true,List.map_cons,nY,if_neg hne];exact qz hn.2 h e
   | false =>
    simp only [Bool.false_eq_true,if_false];exact qz hn.2 h e
theorem Iz {t u:ak} {n:Nat} {q:Linear} (hq:aq q=true) (hf:∀ u∈q.Terms,u.Var≠jB n) (hu:u∈q.Terms) (hne:u.Var≠t.Var):cf (zI t n q) u.Var = -(eZ u.C t.C):=by
 show nY u.Var (A3 (mY t n q.Terms))=_;have hnd:=CD (t:=t) (eS hq) hf;rw [FJ (nc _) ((nc _).map ak.Var |>.nodup_iff.2 hnd)];unfold mY;rw [nY,if_neg (fun e=>hf u hu e.symm)];rw [qz (p:=fun u => !(u.Var==t.Var||eZ u.C t.C==0)) (g:=fun c => -(eZ c t.C)) (eS hq) hu rfl];have e1:(u.Var==t.Var)=false:=by simpa using hne
 simp only [e1,Bool.false_or];cases h:eZ u.C t.C==0 with
 | true =>
  have:eZ u.C t.C=0:=by simpa using h
  simp [this]
 | false=>simp
theorem EN {q:Linear} (hv:aq q=true) (hc:cont q≠0) {d:Nat} (h:∀ t∈(aY (cont q) q).Terms,d ∣ t.C.natAbs):d=1:=by
 have h2:d*cont q ∣ cont q:=by
  refine xI q.Terms 0 (Nat.dvd_zero _) fun t ht => ?_;have:=h (ak.mk t.Var (t.C.tdiv (cont q))) (List.mem_map.2 ⟨t,ht,rfl⟩);have e:=Int.mul_tdiv_cancel' (rb t ht);have e2:t.C.natAbs=cont q*(t.C.tdiv (cont q)).natAbs:=by have:=congrArg Int.natAbs e;rw [Int.natAbs_mul,Int.natAbs_natCast] at this;exact this.symm
  rw [e2,Nat.mul_comm d];exact Nat.mul_dvd_mul_left _ this
 have h3:d*cont q≤1*cont q:=by rw [Nat.one_mul];exact Nat.le_of_dvd (by omega) h2
 have h4:d≤1:=Nat.le_of_mul_le_mul_right h3 (by omega);rcases Nat.eq_zero_or_pos d with h5 | h5
 ·subst h5;rw [Nat.zero_mul] at h2;exact absurd (Nat.eq_zero_of_zero_dvd h2) hc
 ·omega
theorem Ij {q:Linear} (hv:aq q=true) (hc:cont q≠0) {t:ak} (ht:t∈(aY (cont q) q).Terms) (h1:¬ (t.C=1∨t.C = -1)):∃ u∈(aY (cont q) q).Terms,u.C.tmod t.C≠0:=by
 refine Classical.byContradiction fun hn => ?_;have hall:∀ u∈(aY (cont q) q).Terms,t.C.natAbs ∣ u.C.natAbs:=fun u hu=>by have h0:u.C.tmod t.C=0:=Classical.byContradiction fun h=>hn ⟨u,hu,h⟩;have:=congrArg Int.natAbs h0;rw [Int.natAbs_tmod] at this;exact Nat.dvd_of_mod_eq_zero this
 have:=EN hv hc hall;omega
def Pm (k:Nat) (q:Linear):Prop:=∃ t∈q.Terms,t.C.natAbs≤k
theorem Hl {t:ak} {n:Nat} {q:Linear} (hv:aq q=true) (hc:cont q≠0) (hf:∀ u∈q.Terms,u.Var≠jB n) (ht:t∈(aY (cont q) q).Terms) (h1:¬ (t.C=1∨t.C = -1)) (hb:aq (zI t n (aY (cont q) q))=true)
 (hcb:jg t.Var (zI t n (aY (cont q) q)) (aY (cont q) q)=true):∃ u∈(pN t.Var (zI t n (aY (cont q) q)) (aY (cont q) q)).Terms,u.C.natAbs<t.C.natAbs:=by
 have hnv:=ed hv;obtain ⟨a,_,c⟩:=iJ hb hnv hcb;obtain ⟨u,hu,hr⟩:=Ij hv hc ht h1;have ht0:t.C≠0:=dt hnv t ht;have hne:u.Var≠t.Var:=fun e=>by have e1:=mF (eS hnv) hu;have e2:=mF (eS hnv) ht;rw [e,e2] at e1;rw [← e1,Int.tmod_self] at hr;exact hr rfl
 have hf':∀ u∈(aY (cont q) q).Terms,u.Var≠jB n:=fun u hu=>by obtain ⟨z,hz,rfl⟩:=List.mem_map.1 (show u∈q.Terms.map fun t=>ak.mk t.Var (t.C.tdiv (cont q)) from hu);exact hf z hz
 have hcf:=c u.Var;have e1:cf (aY (cont q) q) u.Var=u.C:=mF (eS hnv) hu;have e2:cf (aY (cont q) q) t.Var=t.C:=mF (eS hnv) ht;have e3:ind u.Var t.Var=0:=if_neg fun e=>hne e.symm;rw [e1,e2,Iz hnv hf' hu hne,e3,Int.sub_zero,Int.mul_neg] at hcf;obtain ⟨d1,d2⟩:=Gi (n:=u.C) ht0;have hnz:cf (pN t.Var (zI t n (aY (cont q) q)) (aY (cont q) q)) u.Var≠0:=fun h=>hr (d2.1 (by omega));obtain ⟨w,hw,_,ew⟩:=tR (show nY u.Var (pN t.Var (zI t n (aY (cont q) q)) (aY (cont q) q)).Terms≠0 from hnz);refine ⟨w,hw,?_⟩;have ew:w.C=cf (pN t.Var (zI t n (aY (cont q) q)) (aY (cont q) q)) u.Var:=ew;rw [ew,hcf];have:u.C + -(t.C*eZ u.C t.C)=u.C-t.C*eZ u.C t.C:=by omega
 rw [this];exact d1
theorem xD {α:Type} (d:α) (l:List α) (g:α→α) {i:Nat} (hi:i<l.length):(l.take i++(l.drop i).map g).getD i d=g (l.getD i d):=by
 rw [Kh,List.getElem?_append_right (by simp;omega),getD_at d hi];have:i-(l.take i).length=0:=by simp;omega
 rw [this,List.drop_eq_getElem_cons hi];rfl
theorem ng {i n:Nat} {qs:List Linear} {bs:List Bind} (h:gE n qs bs) (hi:i<qs.length) {m:Nat} {qs':List Linear} {bs':List Bind} (e:gz i n qs bs = .ok m qs' bs') :
 gE m qs' bs'∧qs'.length=qs.length∧bs'.length=bs.length+1∧((m=n∧qs'.getD i bh=⟨0,[]⟩)∨(m=n+1∧∀ k,Pm (k+1) (qs.getD i bh)→Pm k (qs'.getD i bh))):=by
 obtain ⟨qv,qf⟩:=h.qv _ (ba bh hi);unfold gz at e;generalize hQ:qs.getD i bh=q at qv qf e ⊢;cases hno:w5 q with
 | true=>rw [hno] at e;cases e
 | false =>
  obtain ⟨hc,hd⟩:=oI hno;rw [hno] at e;simp only [cond_false] at e;have hnv:=ed qv;obtain ⟨tm,tmin⟩:=yb qv hc;generalize hT:rD (aY (cont q) q).Terms=t at tm tmin e;obtain ⟨tb,tn⟩:=cP hnv t tm;have hset:gE n (qs.set i (aY (cont q) q)) bs:=by have:=xw h hi;rwa [hQ] at this
  have htf:nV t.Var<n:=jZ qf t tm;have hat:(qs.set i (aY (cont q) q)).getD i bh=aY (cont q) q:=kb hi;have hmem:aY (cont q) q∈(qs.set i (aY (cont q) q)).drop i:=by rw [List.drop_eq_getElem_cons (by simpa using hi)];simp
  cases hu:t.C==1||t.C == -1 with
  | true =>
   rw [hu] at e;simp only [cond_true] at e;have ht:t.C=1∨t.C = -1:=by simp only [Bool.or_eq_true,beq_iff_eq] at hu;exact hu
   obtain ⟨a1,a2,a3,a4,a5,a6,a7⟩:=yi hset (Nat.le_refl n) h.n2 tn htf (C8 (jZ qf)) e;refine ⟨by rw [a1];exact a2,by rw [a3];simp;omega,by rw [a4];simp,.inl ⟨a1,?_⟩⟩;rw [a3,xD bh _ _ (by simpa using hi),hat];exact FB hnv tm ht a5 (a7 _ hmem)
  | false =>
   rw [hu] at e;simp only [cond_false] at e;have ht:¬ (t.C=1∨t.C = -1):=by simp only [Bool.or_eq_false_iff,beq_eq_false_iff_ne] at hu;exact fun h=>h.elim hu.1 hu.2
   cases hl:decide (n+1≥1000000000) with
   | true=>rw [hl] at e;cases e
   | false =>
    rw [hl] at e;simp only [cond_false] at e;have hl:=Kl hl;obtain ⟨a1,a2,a3,a4,a5,a6,a7⟩:=yi hset (Nat.le_succ n) (by omega) tn (by omega) (Ds h.n1 h.n2 (jZ qf)) e;refine ⟨by rw [a1];exact a2,by rw [a3];simp;omega,by rw [a4];simp,.inr ⟨a1,fun k hk => ?_⟩⟩;rw [a3,xD bh _ _ (by simpa using hi),hat];obtain ⟨u,hu,hlt⟩:=Hl (n:=n) qv hc (HD h.n1 h.n2 qf) tm ht a5 (a7 _ hmem);obtain ⟨z,hz,hzk⟩:=hk;have h1:=tmin (ak.mk z.Var (z.C.tdiv (cont q))) (List.mem_map.2 ⟨z,hz,rfl⟩);have h2:=Int.natAbs_tdiv_le_natAbs z.C (cont q);simp only at h1;exact ⟨u,hu,by omega⟩
def gw (q:Linear):Bool:=q.Terms.isEmpty&&q.Const==0
theorem mq (q:Linear):dE q=some (gw q):=by unfold dE gw;rw [F9];cases q.Terms.isEmpty<;>rfl
theorem mU {q:Linear}:gw q=true↔q=⟨0,[]⟩:=by unfold gw;obtain ⟨c,ts⟩:=q;simp only [Kj,List.isEmpty_iff,beq_iff_eq,Linear.mk.injEq];exact and_comm
def ju:Nat→Nat→Nat→List Linear→List Bind→Option Rs
 | 0,_,_,_,_=>none
 | f+1,i,n,qs,bs=>bif gw (qs.getD i bh) then some (.ok n qs bs) else
  match gz i n qs bs with
  | .ok m qs' bs'=>ju f i m qs' bs'
  | e=>some e
theorem AG:∀ (k N i n:Nat) (qs:List Linear) (bs:List Bind),gE n qs bs→i<qs.length→(Pm k (qs.getD i bh)∨(qs.getD i bh).Terms=[])→k+2≤N→∃ r,ju N i n qs bs=some r
 | k,N,i,n,qs,bs,h,hi,hP,hN=>by
  obtain ⟨N,rfl⟩:∃ j,N=j+1:=⟨N-1,by omega⟩;simp only [ju];cases hz:gw (qs.getD i bh) with
  | true=>exact ⟨_,rfl⟩
  | false =>
   simp only [cond_false];cases hs:gz i n qs bs with
   | no=>exact ⟨_,rfl⟩
   | lim=>exact ⟨_,rfl⟩
   | ok m qs' bs' =>
    simp only;obtain ⟨a1,a2,a3,a4⟩:=ng h hi hs;rcases a4 with ⟨_,a4⟩ | ⟨_,a4⟩
    ·obtain ⟨N,rfl⟩:∃ j,N=j+1:=⟨N-1,by omega⟩;simp only [ju];rw [a4,show gw ⟨0,[]⟩=true from rfl];exact ⟨_,rfl⟩
    ·rcases hP with hP | hP
     ·cases k with
      | zero =>
       obtain ⟨t,ht,hk⟩:=hP;have:=dt (h.qv _ (ba bh hi)).1 t ht;omega
      | succ k=>exact AG k N i m qs' bs' a1 (by omega) (.inl (a4 k hP)) (by omega)
     ·exfalso;unfold gz w5 at hs;have h0:cont (qs.getD i bh)=0:=(sB (h.qv _ (ba bh hi)).1).2 hP;rw [h0] at hs;simp at hs
theorem Ak {N i n:Nat} {qs:List Linear} {bs:List Bind} (h:gE n qs bs) (hi:i<qs.length) (hN:1000002≤N):∃ r,ju N i n qs bs=some r:=by
 refine AG 1000000 N i n qs bs h hi ?_ hN;cases hT:(qs.getD i bh).Terms with
 | nil=>exact .inr rfl
 | cons t ts =>
  left;have:=(cP (h.qv _ (ba bh hi)).1 t (by rw [hT];simp)).1;exact ⟨t,by rw [hT];simp,by omega⟩
theorem ra:∀ (N i n c:Nat) (qs:List Linear) (bs:List Bind),gE n qs bs→i<qs.length→(bs.length≤n+c∨(gw (qs.getD i bh)=true∧bs.length≤n+c+1))→∀ (m:Nat) (qs':List Linear) (bs':List Bind),ju N i n qs bs=some (.ok m qs' bs') →
 gE m qs' bs'∧qs'.length=qs.length∧bs'.length≤m+c+1∧qs'.getD i bh=⟨0,[]⟩∧n≤m
 | 0,i,n,c,qs,bs,h,hi,hl,m,qs',bs',e=>by simp [ju] at e
 | N+1,i,n,c,qs,bs,h,hi,hl,m,qs',bs',e=>by
  simp only [ju] at e;cases hz:gw (qs.getD i bh) with
  | true =>
   rw [hz] at e;injection e with e
   injection e with e1 e2 e3
   subst e1;subst e2;subst e3;exact ⟨h,rfl,by rcases hl with hl | hl<;>omega,mU.1 hz,Nat.le_refl _⟩
  | false =>
   rw [hz] at e;simp only [cond_false] at e;have hl:bs.length≤n+c:=hl.resolve_right fun h2=>by rw [hz] at h2;cases h2.1
   cases hs:gz i n qs bs with
   | no=>rw [hs] at e;cases e
   | lim=>rw [hs] at e;cases e
   | ok m1 qs1 bs1 =>
    rw [hs] at e;simp only at e;obtain ⟨a1,a2,a3,a4⟩:=ng h hi hs;have hb:bs1.length≤m1+c∨(gw (qs1.getD i bh)=true∧bs1.length≤m1+c+1):=by
     rcases a4 with ⟨e1,a4⟩ | ⟨e1,_⟩
     ·exact .inr ⟨mU.2 a4,by omega⟩
     ·exact .inl (by omega)
    obtain ⟨b1,b2,b3,b4,b5⟩:=ra N i m1 c qs1 bs1 a1 (by omega) hb m qs' bs' e;refine ⟨b1,by omega,b3,b4,?_⟩;rcases a4 with ⟨e1,_⟩ | ⟨e1,_⟩<;>omega
abbrev J7:=ah
abbrev DY:=List Bind×Int×J7×Int
noncomputable def BU (i:Nat) (s2:List Rw×List Bind×Int):Option (fX (List Rw×List Bind×Int) (List Rw×List Bind×Int) (fX (Int×List Rw×List Bind×Int) (List Rw×List Bind×Int) DY)) :=
 bH (0≤(i:Int)∧(i:Int)<(s2.1.length:Int)) <|
 bH ((i:Int).toNat<s2.1.length) <|
 (dE (Linear.mk (((s2.1.getD (i:Int).toNat (⟨⟨0,[]⟩,[],0,false⟩)).q).Const) (((s2.1.getD (i:Int).toNat (⟨⟨0,[]⟩,[],0,false⟩)).q).Terms))).bind fun y2 =>
 bif y2 then (
  some (.brk (s2.1,s2.2.1,s2.2.2))
 ) else (
  (bg (i:Int) s2.2.2 s2.1 s2.2.1).bind fun y3 =>
  bif (y3.1.2==0) then (
   some (.go (y3.2.2.1,y3.2.2.2,y3.2.1))
  ) else (
   some (.ret (.ret ([],0,y3.1.1,y3.1.2)))
  )
 )
theorem HI:∀ (N i n c:Nat) (rows:List Rw) (bs:List Bind),i<rows.length→rows.length≤6000→gE n (rows.map (·.q)) bs→(∀ r∈rows,wR rows.length r)→c≤6000→(bs.length≤n+c∨(gw ((rows.map (·.q)).getD i bh)=true∧bs.length≤n+c+1)) →
 (∀ (m:Nat) (qs':List Linear) (bs':List Bind),ju N i n (rows.map (·.q)) bs=some (.ok m qs' bs')→∃ rows',rows'.map (·.q)=qs'∧rows'.length=rows.length∧(∀ r∈rows',wR rows.length r)∧kD (BU i) N (rows,bs,(n:Int))=some (.brk (rows',bs',(m:Int)))) ∧
 (ju N i n (rows.map (·.q)) bs=some .no→∃ f,kD (BU i) N (rows,bs,(n:Int))=some (.ret (.ret ([],0,f,9)))) ∧
 (ju N i n (rows.map (·.q)) bs=some .lim→∃ f,kD (BU i) N (rows,bs,(n:Int))=some (.ret (.ret ([],0,f,3))))
 | 0,i,n,c,rows,bs,hi,hl,h,hr,hc,hb=>by simp [ju]
 | N+1,i,n,c,rows,bs,hi,hl,h,hr,hc,hb=>by
  have hn:=h.n2;simp only [ju,kD,BU];rw [ax ⟨by omega,by omega⟩,Int.toNat_natCast,ax hi,re,mq,vA];simp only [Option.bind_some];cases hz:gw (rows.getD i ny).q with
  | true =>
   refine ⟨fun m qs' bs' e => ?_,fun e=>(by injection e with e;cases e),fun e=>(by injection e with e;cases e)⟩;injection e with e
   injection e with e1 e2 e3
   subst e1;subst e3;exact ⟨rows,e2,rfl,hr,rfl⟩
  | false =>
   simp only [cond_false];have hb':bs.length≤n+c:=hb.resolve_right fun h2=>by rw [vA,hz] at h2;cases h2.1
   rcases Ie hi (by omega) (by omega) h hr with ⟨e1,e2⟩ | ⟨e1,f,n',r',b',e2⟩ | ⟨m1,rows1,bs1,e1,e2,l1,o1⟩
   ·rw [e1,e2];exact ⟨fun m qs' bs' e=>(by injection e with e;cases e),fun _=>⟨_,rfl⟩,fun e=>(by injection e with e;cases e)⟩
   ·rw [e1,e2];exact ⟨fun m qs' bs' e=>(by injection e with e;cases e),fun e=>(by injection e with e;cases e),fun _=>⟨_,rfl⟩⟩
   ·rw [e1,e2];simp only [Option.bind_some];have hq:i<(rows.map (·.q)).length:=by simpa using hi
    obtain ⟨a1,a2,a3,a4⟩:=ng h hq e1;have hb1:bs1.length≤m1+c∨(gw ((rows1.map (·.q)).getD i bh)=true∧bs1.length≤m1+c+1):=by
     rcases a4 with ⟨e1,a4⟩ | ⟨e1,_⟩
     ·exact .inr ⟨mU.2 a4,by omega⟩
     ·exact .inl (by omega)
    have ih:=HI N i m1 c rows1 bs1 (by omega) (by omega) a1 (fun r hm=>by rw [l1];exact o1 r hm) hc hb1;rw [l1] at ih;exact ih
theorem Ez {v:aw}:∀ {bs:List Bind},(∀ b∈bs,b.Kind=1)→(∃ b∈bs,b.Var=v)→0≤idxOf (oS 1 v) bs
 | [],_,h=>by obtain ⟨b,hb,_⟩:=h;simp at hb
 | b::bs,hk,h=>by have h2:=pG (oS 1 v) (b::bs);refine Int.not_lt.1 fun hn => ?_;have:=h2.1 hn;obtain ⟨b',hb',e⟩:=h;rw [List.any_eq_false] at this;refine this b' hb' ?_;simp [oS,hk b' hb',e]
theorem EC {bs:List Bind} (hk:∀ b∈bs,b.Kind=1) (hd:(bs.map Bind.Var).Nodup) {b:Bind} (hb:b∈bs) (f:aw→Int):sv bs f b.Var=kf f b.Dim:=by
 have h0:=Ez hk ⟨b,hb,rfl⟩;obtain ⟨h1,h2⟩:=sE (oS 1 b.Var) A7 bs h0;unfold sv;rw [Kn (by omega),cond_false];have hm:bs.getD (idxOf (oS 1 b.Var) bs).toNat A7∈bs:=ba _ h1;generalize bs.getD (idxOf (oS 1 b.Var) bs).toNat A7=b' at h2 hm;simp only [oS,Kj,beq_iff_eq] at h2;have:b'=b:=by
  obtain ⟨i,hi,rfl⟩:=List.getElem_of_mem hm;obtain ⟨j,hj,rfl⟩:=List.getElem_of_mem hb;have hp:=List.pairwise_iff_getElem.1 (show (bs.map Bind.Var).Pairwise (· ≠ ·) from hd);rcases Nat.lt_trichotomy i j with h | h | h
  ·exact absurd (by rw [List.getElem_map,List.getElem_map];exact h2.2) (hp i j (by simpa using hi) (by simpa using hj) h)
  ·subst h;rfl
  ·exact absurd (by rw [List.getElem_map,List.getElem_map];exact h2.2.symm) (hp j i (by simpa using hj) (by simpa using hi) h)
 rw [this]
theorem BI {bs:List Bind} {v:aw} (h:v ∉ bs.map Bind.Var) (f:aw→Int):sv bs f v=f v:=by
 unfold sv;have:idxOf (oS 1 v) bs<0:=(pG (oS 1 v) bs).2 (List.any_eq_false.2 fun b hb=>by simp only [oS,Kj,beq_iff_eq,not_and];intro _ e;exact h (List.mem_map.2 ⟨b,hb,e⟩))
 rw [Ko this,cond_true]
theorem De {x:aw} {by_ q:Linear} (hb:aq by_=true) (hv:aq q=true) (h:jg x by_ q=true) (f:aw→Int):kf f (pN x by_ q)=kf (upd f x (kf f by_)) q:=by rw [(iJ hb hv h).2.1 f,Db f x _ (eS hv)]
theorem Jc {x:aw} {by_:Linear} {bs:List Bind} (hk:∀ b∈bs,b.Kind=1) (hd:(bs.map Bind.Var).Nodup) (hx:x ∉ bs.map Bind.Var) (hb:aq by_=true) (hv:∀ b∈bs,aq b.Dim=true) (hc:∀ b∈bs,jg x by_ b.Dim=true) (f:aw→Int) :
 (∀ b∈bs.map (j6 x by_)++[one x by_],b.Kind=1)∧((bs.map (j6 x by_)++[one x by_]).map Bind.Var).Nodup∧sv (bs.map (j6 x by_)++[one x by_]) f=sv bs (upd f x (kf f by_)):=by
 have hvars:(bs.map (j6 x by_)).map Bind.Var=bs.map Bind.Var:=by rw [List.map_map];rfl
 have h1:∀ b∈bs.map (j6 x by_)++[one x by_],b.Kind=1:=fun b hb=>by
  rcases List.mem_append.1 hb with hb | hb
  ·obtain ⟨b0,hb0,rfl⟩:=List.mem_map.1 hb;exact hk b0 hb0
  ·have:b=one x by_:=by simpa using hb
   rw [this];rfl
 have h2:((bs.map (j6 x by_)++[one x by_]).map Bind.Var).Nodup:=by
  rw [List.map_append,hvars,List.nodup_append];exact ⟨hd,by simp,fun a ha b hb=>by
   have:b=x:=by simpa [one] using hb
   rw [this];rintro rfl;exact hx ha⟩
 refine ⟨h1,h2,funext fun v => ?_⟩;by_cases hvb:v∈bs.map Bind.Var
 ·obtain ⟨b,hb0,rfl⟩:=List.mem_map.1 hvb;rw [EC hk hd hb0];have hm:j6 x by_ b∈bs.map (j6 x by_)++[one x by_]:=List.mem_append.2 (.inl (List.mem_map.2 ⟨b,hb0,rfl⟩));have:=EC h1 h2 hm f;rw [show (j6 x by_ b).Var=b.Var from rfl] at this;rw [this];exact De hb (hv b hb0) (hc b hb0) f
 ·rw [BI hvb];by_cases e:v=x
  ·subst e;have hm:one v by_∈bs.map (j6 v by_)++[one v by_]:=by simp
   have:=EC h1 h2 hm f;rw [show (one v by_).Var=v from rfl] at this;rw [this,AB];rfl
  ·rw [be e];refine BI ?_ f;rw [List.map_append,hvars];simp only [List.mem_append,List.map_cons,List.map_nil,List.mem_singleton,not_or];exact ⟨hvb,e⟩
structure Inv (l:List Linear) (i:Nat) (qs:List Linear) (bs:List Bind):Prop where
 len:qs.length=l.length
 A:∀ j,j<i→∀ f,kf (sv bs f) (l.getD j bh)=0
 B:∀ j,i≤j→j<l.length→∃ k:Int,k≠0∧∀ f,kf (sv bs f) (l.getD j bh)=k*kf f (qs.getD j bh)
 C1:∀ b∈bs,∀ q∈qs.drop i,cf q b.Var=0
 C2:∀ b∈bs,∀ b'∈bs,cf b'.Dim b.Var=0
 D:(bs.map Bind.Var).Nodup
 K:∀ b∈bs,b.Kind=1
theorem Cw {l:List Linear} {i n m:Nat} {qs:List Linear} {bs:List Bind} {x:aw} {by_:Linear} (h:gE n qs bs) (hI:Inv l i qs bs) (hi:i<qs.length) (hnm:n≤m) (hm:m<1000000000) (hx:eW x=true) (hxf:nV x<m) (hb:yU m by_)
 (hxi:cf (qs.getD i bh) x≠0) (hbx:cf by_ x=0) (hbb:∀ b∈bs,cf by_ b.Var=0) {n':Nat} {qs':List Linear} {bs':List Bind} (e:rG x by_ i m qs bs = .ok n' qs' bs'):Inv l i qs' bs':=by
 obtain ⟨_,_,a3,a4,a5,a6,a7⟩:=yi h hnm hm hx hxf hb e;have hmi:qs.getD i bh∈qs.drop i:=by rw [getD_at bh hi,List.drop_eq_getElem_cons hi];exact List.mem_cons_self ..
 have hxn:x ∉ bs.map Bind.Var:=fun hc=>by obtain ⟨b,hb,eb⟩:=List.mem_map.1 hc;have:=hI.C1 b hb _ hmi;rw [eb] at this;exact hxi this
 have hbv:∀ b∈bs,aq b.Dim=true:=fun b hb=>(h.bv b hb).1;have hsv:=fun f=>Jc hI.K hI.D hxn a5 hbv a6 f;have hq':∀ j,i≤j→j<qs.length→qs'.getD j bh=pN x by_ (qs.getD j bh)∧qs.getD j bh∈qs.drop i:=fun j h1 h2=>by
  constructor
  ·rw [a3,Kh,List.getElem?_append_right (by simp;omega),List.getElem?_map,List.getElem?_drop,getD_at bh h2];have:i+(j-(qs.take i).length)=j:=by simp;omega
   rw [this,Ki h2];rfl
  ·rw [getD_at bh h2];refine List.mem_iff_getElem?.2 ⟨j-i,?_⟩;rw [List.getElem?_drop,show i+(j-i)=j by omega,Ki h2]
 have hqv:∀ q∈qs.drop i,aq q=true:=fun q hq=>(h.qv q (List.mem_of_mem_drop hq)).1;have key:∀ q,aq q=true→jg x by_ q=true→(∀ b∈bs,cf q b.Var=0)→∀ b∈bs',cf (pN x by_ q) b.Var=0:=fun q hv hc hz b hb=>by
  rw [(iJ a5 hv hc).2.2];rw [a4] at hb;rcases List.mem_append.1 hb with hb | hb
  ·obtain ⟨b0,hb0,rfl⟩:=List.mem_map.1 hb;have hne:ind b0.Var x=0:=if_neg fun e=>hxn (by rw [e];exact List.mem_map.2 ⟨b0,hb0,rfl⟩);show cf q b0.Var+cf q x*(cf by_ b0.Var-ind b0.Var x)=0;rw [hz b0 hb0,hbb b0 hb0,hne];simp
  ·have:b=one x by_:=by simpa using hb
   subst this;show cf q x+cf q x*(cf by_ x-ind x x)=0;rw [hbx,show ind x x=1 from if_pos rfl];omega
 refine ⟨?_,fun j hj f => ?_,fun j h1 h2 => ?_,fun b hb q hq => ?_,fun b hb b' hb' => ?_,by rw [a4];exact (hsv fun _=>0).2.1,by rw [a4];exact (hsv fun _=>0).1⟩
 ·rw [a3,← hI.len];simp;omega
 ·rw [a4,(hsv f).2.2];exact hI.A j hj _
 ·obtain ⟨k,hk,hB⟩:=hI.B j h1 h2;refine ⟨k,hk,fun f => ?_⟩;obtain ⟨e1,e2⟩:=hq' j h1 (by rw [hI.len];exact h2);rw [a4,(hsv f).2.2,hB,e1,De a5 (hqv _ e2) (a7 _ e2) f]
 ·rw [a3,List.drop_append_of_le_length (by simp;omega)] at hq;have hq:q∈(qs.drop i).map (pN x by_):=by rw [List.drop_of_length_le (by simp;omega)] at hq;simpa using hq
  obtain ⟨q0,hq0,rfl⟩:=List.mem_map.1 hq;exact key q0 (hqv q0 hq0) (a7 q0 hq0) (fun b hb=>hI.C1 b hb q0 hq0) b hb
 ·rw [a4] at hb';rcases List.mem_append.1 hb' with hb' | hb'
  ·obtain ⟨b0,hb0,rfl⟩:=List.mem_map.1 hb';exact key b0.Dim (hbv b0 hb0) (a6 b0 hb0) (fun b hb=>hI.C2 b hb b0 hb0) b hb
  ·have:b'=one x by_:=by simpa using hb'
   subst this;rw [a4] at hb;rcases List.mem_append.1 hb with hb | hb
   ·obtain ⟨b0,hb0,rfl⟩:=List.mem_map.1 hb;exact hbb b0 hb0
   ·have:b=one x by_:=by simpa using hb
    subst this;exact hbx
theorem AY (f:aw→Int) {q:Linear} (hd:q.Const.tmod (cont q)=0):kf f q=(cont q:Int)*kf f (aY (cont q) q):=by
 have h1:(cont q:Int)*q.Const.tdiv (cont q)=q.Const:=by have:=Int.mul_tdiv_add_tmod q.Const (cont q);omega
 have h2:∀ ts:List ak,(∀ t∈ts,((cont q:Nat):Int) ∣ t.C)→dd f ts=(cont q:Int)*dd f (ts.map fun t=>ak.mk t.Var (t.C.tdiv (cont q))):=by
  intro ts;induction ts with
  | nil=>intro _;simp [dd]
  | cons t ts ih =>
   intro h;simp only [dd,List.map_cons];rw [ih fun u hu=>h u (by simp [hu]),Int.mul_add,← Int.mul_assoc,Int.mul_tdiv_cancel' (h t (by simp))]
 show q.Const+dd f q.Terms=(cont q:Int)*(q.Const.tdiv (cont q)+dd f (q.Terms.map fun t=>ak.mk t.Var (t.C.tdiv (cont q))));rw [Int.mul_add,h1,← h2 q.Terms rb]
theorem sT {q:Linear} (hv:aq q=true) {v:aw} (h:cf q v=0):v ∉ q.Terms.map ak.Var:=fun hm=>by obtain ⟨t,ht,rfl⟩:=List.mem_map.1 hm;have e:cf q t.Var=t.C:=mF (eS hv) ht;exact dt hv t ht (by omega)
theorem wX (q:Linear):(aY (cont q) q).Terms.map ak.Var=q.Terms.map ak.Var:=by show (q.Terms.map fun t=>ak.mk t.Var (t.C.tdiv (cont q))).map ak.Var=_;rw [List.map_map];rfl
theorem EK {t:ak} {q:Linear} {v:aw} (h:v=t.Var∨v ∉ q.Terms.map ak.Var):cf (D3 t q) v=0:=by
 refine j8 fun hm => ?_;obtain ⟨u,hu,e⟩:=List.mem_map.1 hm;obtain ⟨z,hz,rfl⟩:=List.mem_map.1 (show u∈(q.Terms.filter fun u => !(u.Var==t.Var)).map fun u=>ak.mk u.Var (-t.C*u.C) from hu);obtain ⟨h1,h2⟩:=List.mem_filter.1 hz;have e:z.Var=v:=e;rcases h with h | h
 ·rw [e,h] at h2;simp at h2
 ·exact h (List.mem_map.2 ⟨z,h1,e⟩)
theorem Gt {t:ak} {n:Nat} {q:Linear} {v:aw} (hn:v≠jB n) (h:v=t.Var∨v ∉ q.Terms.map ak.Var):cf (zI t n q) v=0:=by
 refine j8 fun hm => ?_;obtain ⟨u,hu,e⟩:=List.mem_map.1 hm;have hu:=(nc _).mem_iff.1 (show u∈A3 (mY t n q.Terms) from hu);unfold mY at hu;rcases List.mem_cons.1 hu with rfl | hu
 ·exact hn e.symm
 ·obtain ⟨z,hz,rfl⟩:=List.mem_map.1 hu;obtain ⟨h1,h2⟩:=List.mem_filter.1 hz;have e:z.Var=v:=e;rcases h with h | h
  ·rw [e,h] at h2;simp at h2
  ·exact h (List.mem_map.2 ⟨z,h1,e⟩)
theorem ya {α:Type} {l:List α} {i:Nat} {x y:α} (h:y∈(l.set i x).drop i):y=x∨y∈l.drop (i+1):=by
 by_cases hi:i<l.length
 ·rw [List.drop_eq_getElem_cons (by simpa using hi),List.drop_set_of_lt (by omega)] at h;rcases List.mem_cons.1 h with h | h
  ·left;rw [h,List.getElem_set_self]
  ·exact .inr h
 ·rw [List.drop_of_length_le (by simp;omega)] at h;simp at h
theorem qc {α:Type} {l:List α} {i:Nat} {y:α} (h:y∈l.drop (i+1)):y∈l.drop i:=by rw [show i+1=i+1 from rfl,← List.drop_drop] at h;exact List.mem_of_mem_drop h
theorem FV {l:List Linear} {i n:Nat} {qs:List Linear} {bs:List Bind} (h:gE n qs bs) (hI:Inv l i qs bs) (hi:i<qs.length) (hno:w5 (qs.getD i bh)=false):Inv l i (qs.set i (aY (cont (qs.getD i bh)) (qs.getD i bh))) bs:=by
 obtain ⟨hc,hd⟩:=oI hno;have hv:=(h.qv _ (ba bh hi)).1;refine ⟨by simpa using hI.len,hI.A,fun j h1 h2 => ?_,fun b hb q hq => ?_,hI.C2,hI.D,hI.K⟩
 ·obtain ⟨k,hk,hB⟩:=hI.B j h1 h2;by_cases e:j=i
  ·subst e;refine ⟨k*cont (qs.getD j bh),Int.mul_ne_zero hk (by omega),fun f => ?_⟩;rw [kb hi,hB f,AY f hd,Int.mul_assoc]
  ·refine ⟨k,hk,fun f => ?_⟩;rw [hB f];congr 2;rw [Kh,Kh,List.getElem?_set_ne (fun e2=>e e2.symm)]
 ·rcases ya hq with rfl | hq
  ·refine j8 ?_;rw [wX];refine sT hv (hI.C1 b hb _ ?_);rw [getD_at bh hi,List.drop_eq_getElem_cons hi];exact List.mem_cons_self ..
  ·exact hI.C1 b hb q (qc hq)
theorem DR {l:List Linear} {i n:Nat} {qs:List Linear} {bs:List Bind} (h:gE n qs bs) (hI:Inv l i qs bs) (hi:i<qs.length) {m:Nat} {qs':List Linear} {bs':List Bind} (e:gz i n qs bs = .ok m qs' bs'):Inv l i qs' bs':=by
 obtain ⟨qv,qf⟩:=h.qv _ (ba bh hi);have hset:=xw h hi;have hN:=fun hno=>FV h hI hi hno;have hmi:qs.getD i bh∈qs.drop i:=by rw [getD_at bh hi,List.drop_eq_getElem_cons hi];exact List.mem_cons_self ..
 have hC:=fun b hb=>sT qv (hI.C1 b hb _ hmi);unfold gz at e;generalize hQ:qs.getD i bh=q at qv qf e hset hN hC;cases hno:w5 q with
 | true=>rw [hno] at e;cases e
 | false =>
  obtain ⟨hc,hd⟩:=oI hno;have hN:=hN hno;rw [hno] at e;simp only [cond_false] at e;have hnv:=ed qv;obtain ⟨tm,_⟩:=yb qv hc;generalize hT:rD (aY (cont q) q).Terms=t at tm e;obtain ⟨tb,tn⟩:=cP hnv t tm;have htf:nV t.Var<n:=jZ qf t tm;have hat:(qs.set i (aY (cont q) q)).getD i bh=aY (cont q) q:=kb hi;have hi':i<(qs.set i (aY (cont q) q)).length:=by simpa using hi
  have hxi:cf ((qs.set i (aY (cont q) q)).getD i bh) t.Var≠0:=by rw [hat,show cf (aY (cont q) q) t.Var=t.C from mF (eS hnv) tm];exact dt hnv t tm
  have hbv:∀ b∈bs,b.Var ∉ (aY (cont q) q).Terms.map ak.Var:=fun b hb=>by rw [wX];exact hC b hb
  cases hu:t.C==1||t.C == -1 with
  | true =>
   rw [hu] at e;exact Cw hset hN hi' (Nat.le_refl n) h.n2 tn htf (C8 (jZ qf)) hxi (EK (.inl rfl)) (fun b hb=>EK (.inr (hbv b hb))) e
  | false =>
   rw [hu] at e;simp only [cond_false] at e;cases hl:decide (n+1≥1000000000) with
   | true=>rw [hl] at e;cases e
   | false =>
    rw [hl] at e;have hl:=Kl hl;have hfn:=py h.n1 h.n2;refine Cw hset hN hi' (Nat.le_succ n) (by omega) tn (by omega) (Ds h.n1 h.n2 (jZ qf)) hxi (Gt (fun e => ?_) (.inl rfl)) (fun b hb=>Gt (fun e => ?_) (.inr (hbv b hb))) e
    ·rw [e,hfn.2] at htf;omega
    ·have:=(h.bv b hb).2.2.2;rw [e,hfn.2] at this;omega
theorem Ad {l:List Linear}:∀ (N i n:Nat) (qs:List Linear) (bs:List Bind),gE n qs bs→Inv l i qs bs→i<qs.length→∀ (m:Nat) (qs':List Linear) (bs':List Bind),ju N i n qs bs=some (.ok m qs' bs')→Inv l i qs' bs'
 | 0,i,n,qs,bs,h,hI,hi,m,qs',bs',e=>by simp [ju] at e
 | N+1,i,n,qs,bs,h,hI,hi,m,qs',bs',e=>by
  simp only [ju] at e;cases hz:gw (qs.getD i bh) with
  | true =>
   rw [hz] at e;injection e with e
   injection e with e1 e2 e3
   subst e2;subst e3;exact hI
  | false =>
   rw [hz] at e;simp only [cond_false] at e;cases hs:gz i n qs bs with
   | no=>rw [hs] at e;cases e
   | lim=>rw [hs] at e;cases e
   | ok m1 qs1 bs1 =>
    rw [hs] at e;obtain ⟨a1,a2,_,_⟩:=ng h hi hs;exact Ad N i m1 qs1 bs1 a1 (DR h hI hi hs) (by omega) m qs' bs' e
theorem GC {l:List Linear} {i:Nat} {qs:List Linear} {bs:List Bind} (hI:Inv l i qs bs) (hi:i<l.length) (h0:qs.getD i bh=⟨0,[]⟩):Inv l (i+1) qs bs:=by
 refine ⟨hI.len,fun j hj f => ?_,fun j h1 h2=>hI.B j (by omega) h2,fun b hb q hq=>hI.C1 b hb q (qc hq),hI.C2,hI.D,hI.K⟩;by_cases e:j=i
 ·subst e;obtain ⟨k,_,hB⟩:=hI.B j (Nat.le_refl _) hi;rw [hB f,h0];simp [kf,dd]
 ·exact hI.A j (by omega) f
theorem DG (l:List Linear):Inv l 0 l [] :=
 ⟨rfl,fun j hj=>absurd hj (Nat.not_lt_zero _),fun j _ _=>⟨1,by omega,fun f=>by rw [Int.one_mul];have:sv [] f=f:=funext fun v=>BI (by simp) f;rw [this]⟩,fun b hb=>by simp at hb,fun b hb=>by simp at hb,by simp,fun b hb=>by simp at hb⟩
end Go.Proofs.YtlhcekghjfjajaaGreatDoor
