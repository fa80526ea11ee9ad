/- Plain laws: what the walked functions compute answers as the statement says. -/
import Derived.Test.YtlhcekghjfjajaaGreatDoorWkdEquationsComplete
import Derived.Lib.ItoaNum
import Derived.Lib.ItoaMem
import Derived.Lib.AtoiAll
import Derived.Lib.AtoiAllCases
import Derived.Lib.ItoaLen
import Derived.Lib.SlTrimSet
set_option linter.unusedSimpArgs false
set_option linter.unusedVariables false
namespace Go.Sh
open Go.Ab
section
variable {α σ ε ρ:Type}
theorem jk {body:Nat→Unit→Option (eR Unit ε ρ)} {fin:Nat→Unit→ε} {r:ρ} (p:Nat→Bool):∀ (k i:Nat) (u:Unit),(∀ j u,i≤j→j<i+k→body j u=some (bif p j then .go () else .ret r)) →
 dn body fin k i u=some (bif (List.range' i k).all p then .brk (fin (i+k) ()) else .ret r)
 | 0,i,u,h=>by simp [dn]
 | k+1,i,u,h=>by
  simp only [dn,h i u (Nat.le_refl _) (by omega),List.range'_succ,List.all_cons];cases hp:p i with
  | true =>
   simp only [cond_true,Option.bind_some,tN,Bool.true_and];rw [jk p k (i+1) () (fun j u h1 h2=>h j u (by omega) (by omega))];rw [show i+1+k=i+(k+1) by omega]
  | false=>simp [tN]
theorem tY {body:Nat→Unit→Option (eR Unit ε ρ)} {fin:Nat→Unit→ε} {f:Nat→ρ} (p:Nat→Bool):∀ (k i:Nat) (u:Unit),(∀ j u,i≤j→j<i+k→body j u=some (bif p j then .ret (f j) else .go ())) →
 dn body fin k i u=some (match (List.range' i k).find? p with | some j=>.ret (f j) | none=>.brk (fin (i+k) ()))
 | 0,i,u,h=>by simp [dn]
 | k+1,i,u,h=>by
  simp only [dn,h i u (Nat.le_refl _) (by omega),List.range'_succ,List.find?_cons];cases hp:p i with
  | false =>
   simp only [cond_false,Option.bind_some,tN];rw [tY p k (i+1) () (fun j u h1 h2=>h j u (by omega) (by omega))];rw [show i+1+k=i+(k+1) by omega]
  | true=>simp [tN]
theorem Al {body:Nat→σ→Option (eR σ ε ρ)} {fin:Nat→σ→ε} (g:Nat→σ→σ) (I:Nat→σ→Prop):∀ (k i:Nat) (s:σ),I i s→(∀ j s,i≤j→j<i+k→I j s→body j s=some (.go (g j s))∧I (j+1) (g j s)) →
 ∃ s',dn body fin k i s=some (.brk (fin (i+k) s'))∧s'=(List.range' i k).foldl (fun s j=>g j s) s∧I (i+k) s'
 | 0,i,s,hI,h=>⟨s,by simp [dn],by simp,hI⟩
 | k+1,i,s,hI,h=>by
  obtain ⟨h1,h2⟩:=h i s (Nat.le_refl _) (by omega) hI;obtain ⟨s',e1,e2,e3⟩:=Al g I k (i+1) (g i s) h2 (fun j s h1 h2=>h j s (by omega) (by omega));refine ⟨s',?_,?_,by rw [show i+(k+1)=i+1+k by omega];exact e3⟩
  ·simp only [dn,h1,Option.bind_some,tN];rw [e1,show i+1+k=i+(k+1) by omega]
  ·rw [e2,List.range'_succ];rfl
theorem lA (q:α→Bool) (d:α) (l:List α):∀ (i:Nat),(List.range' i (l.length-i)).all (fun j=>q (l.getD j d))=(l.drop i).all q:=by
 intro i;by_cases h:i<l.length
 ·obtain ⟨k,hk⟩:∃ k,l.length-i=k+1:=⟨l.length-i-1,by omega⟩;have ih:=lA q d l (i+1);rw [hk,List.range'_succ,List.all_cons,List.drop_eq_getElem_cons h,List.all_cons];rw [show l.length-(i+1)=k by omega] at ih;rw [ih];simp [ME,MF h]
 ·rw [show l.length-i=0 by omega,List.drop_eq_nil_of_le (by omega)];rfl
 termination_by i=>l.length-i
theorem Gh (q:α→Bool) (d:α) (l:List α):(List.range' 0 (l.length-0)).all (fun j=>q (l.getD j d))=l.all q:=by have:=lA q d l 0;simpa using this
theorem qu {β:Type} (g:β→α→β) (d:α) (l:List α):∀ (i:Nat) (s:β),(List.range' i (l.length-i)).foldl (fun s j=>g s (l.getD j d)) s=(l.drop i).foldl g s:=by
 intro i s;by_cases h:i<l.length
 ·obtain ⟨k,hk⟩:∃ k,l.length-i=k+1:=⟨l.length-i-1,by omega⟩;have ih:=qu g d l (i+1) (g s (l.getD i d));rw [hk,List.range'_succ,List.foldl_cons,List.drop_eq_getElem_cons h,List.foldl_cons];rw [show l.length-(i+1)=k by omega] at ih;rw [ih];simp [ME,MF h]
 ·rw [show l.length-i=0 by omega,List.drop_eq_nil_of_le (by omega)];rfl
 termination_by i=>l.length-i
def idxOf (p:α→Bool):List α→Int
 | [] => -1
 | x::l=>bif p x then 0 else (let r:=idxOf p l;bif r == -1 then -1 else r+1)
theorem rP (p:α→Bool):∀ l:List α,-1≤idxOf p l
 | []=>by simp [idxOf]
 | x::l=>by
  have:=rP p l;simp only [idxOf];cases p x
  ·cases h:idxOf p l == -1
   ·simp;omega
   ·simp
  ·simp
theorem pK (p:α→Bool):∀ l:List α,(idxOf p l<0)↔l.any p=false
 | []=>by simp [idxOf]
 | x::l=>by
  have h1:=rP p l;have h2:=pK p l;simp only [idxOf,List.any_cons];cases hp:p x
  ·cases h:idxOf p l == -1
   ·have:idxOf p l ≠ -1:=by simpa using h
    simp only [cond_false,Bool.false_or];rw [← h2];omega
   ·have:idxOf p l = -1:=by simpa using h
    simp only [cond_false,cond_true,Bool.false_or];rw [← h2];omega
  ·simp
theorem BA (p:α→Bool) (d:α) (l:List α):∀ (i:Nat),(match (List.range' i (l.length-i)).find? (fun j=>p (l.getD j d)) with | some j=>((j:Nat):Int) | none => -1)=(bif idxOf p (l.drop i) == -1 then -1 else idxOf p (l.drop i)+i):=by
 intro i;by_cases h:i<l.length
 ·obtain ⟨k,hk⟩:∃ k,l.length-i=k+1:=⟨l.length-i-1,by omega⟩;have ih:=BA p d l (i+1);rw [hk,List.range'_succ,List.find?_cons,List.drop_eq_getElem_cons h];rw [show l.length-(i+1)=k by omega] at ih;have e:l.getD i d=l[i]:=by simp [ME,MF h]
  rw [e];simp only [idxOf];cases hp:p l[i]
  ·simp only [cond_false];rw [ih];cases hq:idxOf p (l.drop (i+1)) == -1
   ·have h3:idxOf p (l.drop (i+1)) ≠ -1:=by simpa using hq
    have h4:=rP p (l.drop (i+1));simp only [cond_false];have:((idxOf p (l.drop (i+1))+1) == -1)=false:=by simp;omega
    rw [this];simp only [cond_false];omega
   ·simp
  ·simp
 ·rw [show l.length-i=0 by omega,List.drop_eq_nil_of_le (by omega)];rfl
 termination_by i=>l.length-i
theorem sC (p:α→Bool) (d:α) (l:List α):(match (List.range' 0 (l.length-0)).find? (fun j=>p (l.getD j d)) with | some j=>((j:Nat):Int) | none => -1)=idxOf p l:=by
 rw [BA p d l 0];simp only [List.drop_zero];cases h:idxOf p l == -1
 ·simp
 ·have:idxOf p l = -1:=by simpa using h
  simp [this]
end
def cq (b:UInt8):Bool:=decide (48≤b.toNat)&&decide (b.toNat≤57)
def kh (acc:Nat) (l:aJ):Nat:=l.foldl (fun a c=>a*10+(c.toNat-48)) acc
theorem zh (acc:Nat) (l:aJ) (c:UInt8):kh acc (l++[c])=kh acc l*10+(c.toNat-48):=by simp [kh]
theorem zP:∀ (l:aJ) (acc:Nat),l.all cq=true→(acc+1)*10 ^ l.length≤10 ^ 18→Lib.parseUint10 acc l = .ok (kh acc l)
 | [],acc,_,_=>rfl
 | c::l,acc,h,hb=>by
  simp only [List.all_cons,MG,cq,decide_eq_true_eq] at h;obtain ⟨⟨h1,h2⟩,h3⟩:=h;have hp:1≤10 ^ l.length:=Nat.one_le_pow _ _ (by decide);have hb2:(acc*10+10)*10 ^ l.length≤10 ^ 18:=by
   have:(acc+1)*10 ^ (l.length+1)=(acc*10+10)*10 ^ l.length:=by rw [Nat.pow_succ];rw [show (acc*10+10)=(acc+1)*10 by omega,Nat.mul_assoc,Nat.mul_comm 10]
   rw [← this];simpa using hb
  have hb3:acc*10+10≤10 ^ 18:=Nat.le_trans (Nat.le_mul_of_pos_right _ hp) hb2;have e18:(10:Nat) ^ 18=1000000000000000000:=by decide
  rw [e18] at hb3;simp only [Lib.parseUint10];rw [if_pos ⟨h1,h2⟩,if_neg (by omega),if_neg (by omega)];rw [zP l _ (by simpa [cq] using h3) (Nat.le_trans (Nat.mul_le_mul_right _ (by omega)) hb2)];rfl
theorem Bx {c:UInt8} (h:cq c=true):UInt8.ofNat (48+(c.toNat-48))=c:=by simp only [cq,MG,decide_eq_true_eq] at h;rw [show 48+(c.toNat-48)=c.toNat by omega];exact UInt8.ofNat_toNat
theorem GU {α:Type} {P:List α→Prop} (h0:P []) (h1:∀ l c,P l→P (l++[c])) (l:List α):P l:=by
 have:∀ m:List α,P m.reverse:=by
  intro m;induction m with
  | nil=>exact h0
  | cons c m ih=>simpa using h1 _ c ih
 simpa using this l.reverse
theorem EF (l:aJ):l.all cq=true→l≠[]→l.head? ≠ some 48→1≤kh 0 l∧Lib.decDigits (kh 0 l)=l:=by
 refine GU (P:=fun l=>l.all cq=true→l≠[]→l.head? ≠ some 48→1≤kh 0 l∧Lib.decDigits (kh 0 l)=l) ?_ ?_ l
 ·intro _ h;exact absurd rfl h
 ·intro l c ih h _ hh;rw [List.all_append,MG] at h;have hc:cq c=true:=by simpa using h.2
  have hc':=hc;simp only [cq,MG,decide_eq_true_eq] at hc';rw [zh];by_cases hl:l=[]
  ·subst hl;have hne:c≠48:=by simpa using hh
   have:c.toNat≠48:=fun e=>hne (by rw [← UInt8.toNat_inj];simpa using e);simp only [kh,List.foldl_nil,Nat.zero_mul,Nat.zero_add,List.nil_append];refine ⟨by omega,?_⟩;rw [Lib.decDigits_one (by omega),Bx hc]
  ·have hh2:l.head? ≠ some 48:=by
    cases l with
    | nil=>exact absurd rfl hl
    | cons x l=>simpa using hh
   obtain ⟨i1,i2⟩:=ih h.1 hl hh2;refine ⟨by omega,?_⟩;rw [Lib.decDigits,dif_neg (by omega),show (kh 0 l*10+(c.toNat-48)) / 10=kh 0 l by omega,i2,show (kh 0 l*10+(c.toNat-48)) % 10=c.toNat-48 by omega,Bx hc]
theorem tL (u:Nat):(Lib.decDigits u).all cq=true∧(1≤u→(Lib.decDigits u).head? ≠ some 48)∧Lib.decDigits u≠[]:=by
 have key:∀ i,i<10→cq (UInt8.ofNat (48+i))=true:=by decide
 have key2:∀ i,i<10→1≤i→UInt8.ofNat (48+i)≠48:=by decide
 by_cases h:u<10
 ·rw [Lib.decDigits_one h];exact ⟨by simp only [List.all_cons,List.all_nil,Bool.and_true];exact key u h,fun h1=>by simpa using key2 u h h1,by simp⟩
 ·have ih:=tL (u / 10);rw [Lib.decDigits,dif_neg h];refine ⟨by rw [List.all_append,ih.1];simp only [List.all_cons,List.all_nil,Bool.and_true,Bool.true_and];exact key (u % 10) (by omega),fun _ => ?_,by simp⟩;have:=ih.2.1 (by omega);cases hd:Lib.decDigits (u / 10) with
  | nil=>exact absurd hd ih.2.2
  | cons x l=>rw [hd] at this;simpa using this
 termination_by u
 decreasing_by omega
end Go.Sh
namespace Go.Proofs.YtlhcekghjfjajaaGreatDoor
open Go.Ab Go.Sh
theorem aD {α:Type} {p:Prop} [Decidable p] {x:Option α} (h:p):bf p x=x:=if_pos h
theorem jR {ε β:Type} {b:Bool} {e:ε} {r:β} {f:ε→Option β}:(some (bif b then Out.brk e else Out.ret r:Out ε β)).bind (aft f)=bif b then f e else some r:=by cases b<;>rfl
theorem all_congr {p q:Nat→Bool}:∀ (k i:Nat),(∀ j,i≤j→j<i+k→p j=q j)→(List.range' i k).all p=(List.range' i k).all q
 | 0,i,_=>rfl
 | k+1,i,h=>by rw [List.range'_succ,List.all_cons,List.all_cons,h i (Nat.le_refl _) (by omega),all_congr k (i+1) (fun j h1 h2=>h j (by omega) (by omega))]
theorem DQ (c k:UInt8) (n:Int) (hk:(k.toNat:Int)=n):((c.toNat:Int)==n)=(c==k):=by rw [Bool.eq_iff_iff];simp only [beq_iff_eq,← UInt8.toNat_inj];omega
theorem Ik {α:Type} (l:List α):(((l.length:Nat):Int)==0)=l.isEmpty:=by
 cases l with
 | nil=>rfl
 | cons x l=>simp;omega
def isLet (b:UInt8):Bool:=decide (97≤b.toNat)&&decide (b.toNat≤122)
theorem r9 (x:UInt8):jI x=some (cq x):=by
 unfold jI cq;by_cases h:48≤x.toNat
 ·rw [ML (show (x.toNat:Int)≥48 by omega),ML h];simp only [cond_true,Bool.true_and,MO];rw [decide_eq_decide];omega
 ·rw [MK (show ¬ (x.toNat:Int)≥48 by omega),MK h];rfl
theorem wj (x:UInt8):jU x=some (isLet x):=by
 unfold jU isLet;by_cases h:97≤x.toNat
 ·rw [ML (show (x.toNat:Int)≥97 by omega),ML h];simp only [cond_true,Bool.true_and,MO];rw [decide_eq_decide];omega
 ·rw [MK (show ¬ (x.toNat:Int)≥97 by omega),MK h];rfl
def db:aJ→Bool
 | []=>false
 | c::r=>bif c==95 then (decide (1≤r.length)&&(decide (r.length≤9)&&(!(r.getD 0 0==48)&&r.all cq))) else (decide (r.length≤29)&&(isLet c&&r.all (fun b=>isLet b||cq b)))
theorem oN (s:aJ):kF s=some (db s):=by
 cases s with
 | nil=>rfl
 | cons c r =>
  unfold kF;have e1:((((c::r).length:Nat):Int)==0)=false:=by simp;omega
  rw [e1];simp only [cond_false];have e95:((((c::r).getD 0 0).toNat:Int)==95)=(c==95):=by rw [List.getD_cons_zero];exact DQ c 95 95 rfl
  by_cases h30:r.length≤29
  ·rw [MK (show ¬ (((c::r).length:Nat):Int)>30 by simp;omega)];simp only [cond_false];rw [aD (by simp),e95];simp only [db];cases hc:c==95 with
   | true =>
    simp only [cond_true];by_cases h1:1≤r.length
    ·rw [MK (show ¬ (((c::r).length:Nat):Int)<2 by simp;omega),ML h1];simp only [cond_false,Bool.true_and];by_cases h9:r.length≤9
     ·rw [MK (show ¬ (((c::r).length:Nat):Int)>10 by simp;omega),ML h9];simp only [cond_false,Bool.true_and];rw [aD (by simp;omega)];have e48:((((c::r).getD 1 0).toNat:Int)==48)=(r.getD 0 0==48):=by rw [List.getD_cons_succ];exact DQ _ 48 48 rfl
      rw [e48];cases hd:r.getD 0 0==48 with
      | true=>simp
      | false =>
       simp only [cond_false,Bool.not_false,Bool.true_and];rw [jk (fun j=>cq ((c::r).getD j 0)) _ _ () (fun j u _ _=>by rw [r9];cases cq ((c::r).getD j 0)<;>rfl),jR,lA cq 0 (c::r) 1];simp only [List.drop_succ_cons,List.drop_zero];cases r.all cq<;>rfl
     ·rw [ML (show (((c::r).length:Nat):Int)>10 by simp;omega),MK h9];simp
    ·rw [ML (show (((c::r).length:Nat):Int)<2 by simp;omega),MK h1];simp
   | false =>
    simp only [cond_false];rw [ML h30];rw [jk (fun j=>isLet ((c::r).getD j 0)||(!(((j:Nat):Int)==0)&&cq ((c::r).getD j 0))) _ _ () (fun j u _ _=>by rw [wj,r9];cases isLet ((c::r).getD j 0)<;>cases cq ((c::r).getD j 0)<;>cases ((j:Nat):Int)==0<;>rfl),jR]
    have e:(List.range' 0 ((c::r).length-0)).all (fun j=>isLet ((c::r).getD j 0)||(!(((j:Nat):Int)==0)&&cq ((c::r).getD j 0)))=(isLet c&&r.all (fun b=>isLet b||cq b)):=by
     rw [show (c::r).length-0=r.length+1 by simp,List.range'_succ,List.all_cons];have e0:(isLet ((c::r).getD 0 0)||(!(((0:Nat):Int)==0)&&cq ((c::r).getD 0 0)))=isLet c:=by simp
     rw [e0];congr 1;rw [all_congr (q:=fun j=>(fun b=>isLet b||cq b) ((c::r).getD j 0)) _ _ (fun j h1 _=>by
      have:(((j:Nat):Int)==0)=false:=by simp;omega
      simp only [this,Bool.not_false,Bool.true_and])]
     have:=lA (fun b=>isLet b||cq b) 0 (c::r) 1;simpa using this
    rw [e];simp only [Bool.true_and];cases isLet c&&r.all (fun b=>isLet b||cq b)<;>rfl
  ·rw [ML (show (((c::r).length:Nat):Int)>30 by simp;omega)];simp only [cond_true,db];rw [MK h30];have:¬ r.length≤9:=by omega
   rw [MK this];cases c==95<;>simp
theorem mV (s:aJ) (c:UInt8):dO s [c]=some (match s with | []=>false | x::_=>x==c):=by
 unfold dO cC;cases s with
 | nil=>rfl
 | cons x l =>
  rw [ML (by simp;omega)];simp only [cond_true];rw [aD (by simp)];simp
theorem ub {r:aJ} (h0:r≠[]) (h:r.all cq=true) (hl:r.length≤9):Lib.atoiAll r = .ok (kh 0 r:Int)∧kh 0 r<10000000000:=by
 cases r with
 | nil=>exact absurd rfl h0
 | cons c r =>
  have hc:cq c=true:=by simp only [List.all_cons,MG] at h;exact h.1
  have hc2:=hc;simp only [cq,MG,decide_eq_true_eq] at hc2;have hp:(10:Nat) ^ (c::r).length≤10 ^ 9:=Nat.pow_le_pow_right (by decide) hl;have hv:=zP (c::r) 0 h (by
   rw [Nat.zero_add,Nat.one_mul];exact Nat.le_trans hp (by decide))
  have hb:∀ (l:aJ) (a:Nat),l.all cq=true→kh a l+1≤(a+1)*10 ^ l.length:=by
   intro l;induction l with
   | nil=>intro a _;simp [kh]
   | cons x l ih =>
    intro a hx;simp only [List.all_cons,MG,cq,decide_eq_true_eq] at hx;have:=ih (a*10+(x.toNat-48)) (by simpa [cq] using hx.2);have e:kh a (x::l)=kh (a*10+(x.toNat-48)) l:=rfl;rw [e];refine Nat.le_trans this ?_;rw [List.length_cons,Nat.pow_succ,Nat.mul_comm (10 ^ l.length) 10,← Nat.mul_assoc];exact Nat.mul_le_mul_right _ (by omega)
  have hlt:=hb (c::r) 0 h;rw [Nat.zero_add,Nat.one_mul] at hlt;have h9:(10:Nat) ^ 9=1000000000:=by decide
  rw [h9] at hp;refine ⟨?_,by omega⟩;rw [Lib.atoiAll_plain c r (by omega) (by omega)];have:Lib.parseMag (c::r) = .ok (kh 0 (c::r)):=by unfold Lib.parseMag;rw [if_neg (by simp)];exact hv
  rw [this];simp only [Lib.signless];rw [if_neg (by omega)]
theorem xQ (s:aJ) (hs:s.length≤1000000):lE s=some (db s):=by
 unfold lE;rw [mV];cases s with
 | nil=>rfl
 | cons c r =>
  simp only [Option.bind_some,db];have hr:r.length≤1000000:=by simp at hs;omega
  cases hc:c==95 with
  | true =>
   simp only [cond_true];rw [aD (by simp)];simp only [List.drop_succ_cons,List.drop_zero,nQ];rw [aD (by omega)];simp only [Option.bind_some];by_cases h9:r.length≤9
   ·by_cases h1:1≤r.length
    ·rw [ML h1,ML h9];simp only [Bool.true_and];have hne:r≠[]:=by intro e;subst e;simp at h1
     have hhd:(r.getD 0 0==48)=decide (r.head? = some 48):=by
      cases r with
      | nil=>exact absurd rfl hne
      | cons x l=>simp;rw [Bool.eq_iff_iff];simp
     have key:∀ v:Int,0<v→v≤9223372036854775807→jc v=some (Lib.decDigits v.toNat)∨True:=fun _ _ _=>.inr trivial;by_cases hall:r.all cq=true
     ·obtain ⟨a1,a2⟩:=ub hne hall h9;simp only [oy,a1,cond_true];by_cases h48:r.head? = some 48
      ·
       rw [hhd,ML h48];simp only [Bool.not_true,Bool.false_and];by_cases hz:kh 0 r=0
       ·rw [hz];rfl
       ·rw [ML (by omega:(kh 0 r:Int)>0),ML (by simp;omega:(((c::r).length:Nat):Int)≤10)];simp only [cond_true,jc];have hlen:(Lib.itoa (kh 0 r:Int)).length≤21:=Lib.itoa_length_le _ (by omega) (by omega);rw [aD ⟨by omega,by omega,by omega⟩];simp only [Option.bind_some,MO];rw [Lib.itoa_nonneg,beq_eq_false_iff_ne];intro e;exact (tL (kh 0 r)).2.1 (by omega) (by rw [e];exact h48)
      ·obtain ⟨d1,d2⟩:=EF r hall hne h48;rw [hhd,MK h48,hall];simp only [Bool.not_false,Bool.true_and];rw [ML (by omega:(kh 0 r:Int)>0),ML (by simp;omega:(((c::r).length:Nat):Int)≤10)];simp only [cond_true,jc];have hlen:(Lib.itoa (kh 0 r:Int)).length≤21:=Lib.itoa_length_le _ (by omega) (by omega);rw [aD ⟨by omega,by omega,by omega⟩];simp only [Option.bind_some,MO];rw [Lib.itoa_nonneg,d2];simp
     ·have hall:r.all cq=false:=by simpa using hall
      rw [hall];simp only [Bool.and_false];cases ha:Lib.atoiAll r with
      | ok v =>
       simp only [oy,ha,cond_true];by_cases hv:v>0
       ·rw [ML hv,ML (by simp;omega:(((c::r).length:Nat):Int)≤10)];simp only [cond_true,jc];have hvb:v≤9223372036854775807:=by
         cases r with
         | nil=>exact absurd rfl hne
         | cons x l =>
          unfold Lib.atoiAll at ha;simp only at ha;split at ha
          ·cases ha
          ·cases ha
          ·split at ha
           ·cases ha
           ·split at ha
            ·cases ha
            ·rename_i h1 h2;simp only [Lib.NumEnd.ok.injEq] at ha;rw [← ha];split
             ·omega
             ·rename_i h3;have:=h1;simp only [h3,not_false_eq_true,true_and] at this;omega
        have hlen:(Lib.itoa v).length≤21:=Lib.itoa_length_le _ (by omega) hvb;rw [aD ⟨by omega,hvb,by omega⟩];simp only [Option.bind_some,MO];rw [beq_eq_false_iff_ne];intro e;have:(Lib.itoa v).all cq=true:=by unfold Lib.itoa;rw [if_neg (by omega)];exact (tL _).1
        rw [e,hall] at this;cases this
       ·rw [MK hv];rfl
      | range=>simp [oy,ha]
      | _=>simp [oy,ha]
    ·have:r=[]:=List.eq_nil_of_length_eq_zero (by omega);subst this;rfl
   ·rw [MK h9,MK (by simp;omega:¬ (((c::r).length:Nat):Int)≤10)];simp only [cond_false,Bool.false_and,Bool.and_false];cases (oy r).2<;>cases decide ((oy r).1>0)<;>rfl
  | false =>
   simp only [cond_false];rw [jk (fun j=>isLet ((c::r).getD j 0)||(!(((j:Nat):Int)==0)&&cq ((c::r).getD j 0))) _ _ () (fun j u _ _=>by
    simp only [isLet,cq];generalize (c::r).getD j 0=x;by_cases h1:(x.toNat:Int)<97
    ·rw [ML h1,MK (show ¬ 97≤x.toNat by omega)];simp only [cond_true,Bool.false_and,Bool.false_or];cases ((j:Nat):Int)==0
     ·simp only [cond_false,Bool.not_false,Bool.true_and];by_cases h2:(x.toNat:Int)<48
      ·rw [ML h2,MK (show ¬ 48≤x.toNat by omega)];rfl
      ·rw [MK h2,ML (show 48≤x.toNat by omega)];by_cases h3:(x.toNat:Int)>57
       ·rw [ML h3,MK (show ¬ x.toNat≤57 by omega)];rfl
       ·rw [MK h3,ML (show x.toNat≤57 by omega)];rfl
     ·rfl
    ·rw [MK h1,ML (show 97≤x.toNat by omega)];simp only [cond_false,Bool.true_and];by_cases h2:(x.toNat:Int)>122
     ·rw [ML h2,MK (show ¬ x.toNat≤122 by omega),MK (show ¬ x.toNat≤57 by omega),MK (show ¬ (x.toNat:Int)<48 by omega),ML (show (x.toNat:Int)>57 by omega)];cases ((j:Nat):Int)==0<;>simp [Sh.aft]
     ·rw [MK h2,ML (show x.toNat≤122 by omega)];simp [Sh.aft]),jR]
   have e:(List.range' 0 ((c::r).length-0)).all (fun j=>isLet ((c::r).getD j 0)||(!(((j:Nat):Int)==0)&&cq ((c::r).getD j 0)))=(isLet c&&r.all (fun b=>isLet b||cq b)):=by
    rw [show (c::r).length-0=r.length+1 by simp,List.range'_succ,List.all_cons];have e0:(isLet ((c::r).getD 0 0)||(!(((0:Nat):Int)==0)&&cq ((c::r).getD 0 0)))=isLet c:=by simp
    rw [e0];congr 1;rw [all_congr (q:=fun j=>(fun b=>isLet b||cq b) ((c::r).getD j 0)) _ _ (fun j h1 _=>by
     have:(((j:Nat):Int)==0)=false:=by simp;omega
     simp only [this,Bool.not_false,Bool.true_and])]
    have:=lA (fun b=>isLet b||cq b) 0 (c::r) 1;simpa using this
   rw [e];have e2:((c::r)==[])=false:=rfl;rw [e2];simp only [cond_false];by_cases h30:r.length≤29
   ·rw [ML h30,ML (by simp;omega:(((c::r).length:Nat):Int)≤30)];cases isLet c&&r.all (fun b=>isLet b||cq b)<;>rfl
   ·rw [MK h30,MK (by simp;omega:¬ (((c::r).length:Nat):Int)≤30)];cases isLet c&&r.all (fun b=>isLet b||cq b)<;>rfl
def Cm (n:Int):Bool:=decide (-1000000≤n)&&decide (n≤1000000)
theorem tW (n:Int):mB n=some (Cm n):=by
 unfold mB Cm;by_cases h:n ≥ -1000000
 ·rw [ML h];rfl
 ·rw [MK h];rfl
theorem rV (n:Int):jM n=some (Cm n):=by
 unfold jM Cm;by_cases h:n ≥ -1000000
 ·rw [ML h];rfl
 ·rw [MK h];rfl
def zg (l:Linear) (j:Nat):au:=l.Terms.getD j ⟨[],0⟩
def kE (l:Linear) (j:Nat):Bool:=db (zg l j).Var&&(!((zg l j).C==0)&&(Cm (zg l j).C&&(!decide (((j:Nat):Int)>0)||Op.bytesLess (zg l (j-1)).Var (zg l j).Var)))
def aA (l:Linear):Bool:=(List.range' 0 (l.Terms.length-0)).all (kE l)&&(Cm l.Const&&decide (l.Terms.length≤12))
theorem Br {j:Nat} (h:0<j) (h2:j≤9223372036854775807):aK (((j:Nat):Int)-1)=((j-1:Nat):Int):=by rw [gI (by unfold tE;omega)];omega
theorem Jx {l:List au} {n:Nat} (h:∀ t∈l,t.Var.length≤n) (j:Nat):(l.getD j ⟨[],0⟩).Var.length≤n:=by
 rw [ME];cases h1:l[j]? with
 | none=>simp
 | some x=>exact h x (List.mem_of_getElem? h1)
theorem fa (l:Linear) (h1:l.Terms.length≤1000000) (h2:∀ t∈l.Terms,t.Var.length≤1000000):cb l=some (aA l):=by
 unfold cb;rw [jk (kE l) _ _ () (fun j u _ hj=>by
  rw [xQ _ (Jx h2 j),tW];simp only [kE,zg,Option.bind_some];cases db (l.Terms.getD j ⟨[],0⟩).Var
  ·rfl
  ·cases (l.Terms.getD j ⟨[],0⟩).C==0
   ·cases Cm (l.Terms.getD j ⟨[],0⟩).C
    ·rfl
    ·by_cases hp:0<j
     ·rw [ML (show ((j:Nat):Int)>0 by omega),Br hp (by omega)];rw [aD (by omega)];simp only [Int.toNat_natCast,cond_true,cond_false,Bool.not_true,Bool.false_or,Bool.true_and,Bool.not_false];cases Op.bytesLess (l.Terms.getD (j-1) ⟨[],0⟩).Var (l.Terms.getD j ⟨[],0⟩).Var<;>rfl
     ·rw [MK (show ¬ ((j:Nat):Int)>0 by omega)];rfl
   ·rfl),jR,tW]
 unfold aA;cases (List.range' 0 (l.Terms.length-0)).all (kE l)
 ·rfl
 ·cases Cm l.Const
  ·rfl
  ·simp only [cond_true,Option.bind_some,Bool.true_and,MO];rw [decide_eq_decide];omega
theorem dA (l:Linear):dj l=some (aA l):=by
 unfold dj;rw [rV];unfold aA;by_cases h12:l.Terms.length≤12
 ·rw [MK (show ¬ ((l.Terms.length:Nat):Int)>12 by omega),ML h12];rw [jk (kE l) _ _ () (fun j u _ hj=>by
   rw [oN,rV];simp only [kE,zg,Option.bind_some];cases db (l.Terms.getD j ⟨[],0⟩).Var
   ·rfl
   ·cases (l.Terms.getD j ⟨[],0⟩).C==0
    ·cases Cm (l.Terms.getD j ⟨[],0⟩).C
     ·rfl
     ·by_cases hp:0<j
      ·rw [ML (show ((j:Nat):Int)>0 by omega),Br hp (by omega)];rw [aD (by omega)];simp only [Int.toNat_natCast,cond_true,cond_false,Bool.not_true,Bool.false_or,Bool.true_and,Bool.not_false];cases Op.bytesLess (l.Terms.getD (j-1) ⟨[],0⟩).Var (l.Terms.getD j ⟨[],0⟩).Var<;>rfl
      ·rw [MK (show ¬ ((j:Nat):Int)>0 by omega)];rfl
    ·rfl),jR]
  cases (List.range' 0 (l.Terms.length-0)).all (kE l)<;>cases Cm l.Const<;>rfl
 ·rw [ML (show ((l.Terms.length:Nat):Int)>12 by omega),MK h12];cases (List.range' 0 (l.Terms.length-0)).all (kE l)<;>cases Cm l.Const<;>rfl
theorem KS {a b:Nat}:decide (((a:Nat):Int)>(b:Int)) = !decide (a≤b):=by
 by_cases h:a≤b
 ·rw [ML h,MK (by omega)];rfl
 ·rw [MK h,ML (by omega)];rfl
theorem G5 {a b:Nat}:decide (((a:Nat):Int)≤(b:Int))=decide (a≤b):=by rw [decide_eq_decide];omega
theorem lJ (l:Linear):Linear.mk l.Const l.Terms=l:=rfl
def I6 (l:Linear):Prop:=l.Terms.length≤1000000∧∀ t∈l.Terms,t.Var.length≤1000000
def MD (s:Shape):Prop:=s.Row.length≤1000000∧∀ l∈s.Dims,I6 l
theorem zl {body:Nat→Unit→Option (eR Unit Unit Int)} {fin:Nat→Unit→Unit} (m:Nat) (E:Nat→Prop):∀ (k i:Nat) (u:Unit),(∀ j u,i≤j→j<i+k→(j<m∧E j∧body j u=some (.go ()))∨(j<m∧¬ E j∧∃ x,x≠0∧body j u=some (.ret x))∨(m≤j∧body j u=some (.brk ()))) →
 (dn body fin k i u=some (.brk ())∧∀ j,i≤j→j<i+k→j<m→E j)∨(∃ x,x≠0∧dn body fin k i u=some (.ret x)∧∃ j,i≤j∧j<i+k∧j<m∧¬ E j)
 | 0,i,u,h=>.inl ⟨rfl,fun j h1 h2=>by omega⟩
 | k+1,i,u,h=>by
  rcases h i u (Nat.le_refl _) (by omega) with ⟨h1,h2,h3⟩ | ⟨h1,h2,x,h3,h4⟩ | ⟨h1,h2⟩
  ·rcases zl m E k (i+1) () (fun j u h1 h2=>h j u (by omega) (by omega)) with ⟨e,ha⟩ | ⟨x,hx,e,j,j1,j2,j3,j4⟩
   ·refine .inl ⟨by simp only [dn,h3,Option.bind_some,tN];exact e,fun j j1 j2 j3 => ?_⟩;by_cases hj:j=i
    ·subst hj;exact h2
    ·exact ha j (by omega) (by omega) j3
   ·exact .inr ⟨x,hx,by simp only [dn,h3,Option.bind_some,tN];exact e,j,by omega,by omega,j3,j4⟩
  ·exact .inr ⟨x,h3,by simp only [dn,h4,Option.bind_some,tN],i,Nat.le_refl _,by omega,h1,h2⟩
  ·exact .inl ⟨by simp only [dn,h2,Option.bind_some,tN],fun j j1 j2 j3=>by omega⟩
theorem Hj {α:Type} (d:α) {x y:List α} (hl:x.length=y.length) (h:∀ j,j<x.length→x.getD j d=y.getD j d):x=y:=by refine List.ext_getElem hl fun j h1 h2 => ?_;have:=h j h1;simpa [ME,MF h1,MF h2] using this
theorem KB {a b:Nat}:(((a:Nat):Int)==((b:Nat):Int))=decide (a=b):=by rw [Bool.eq_iff_iff];simp only [beq_iff_eq,decide_eq_true_eq];omega
theorem HF (x y:au):((x.Var==y.Var)&&((x.C==y.C)&&true))=decide (x=y):=by cases x;cases y;rw [Bool.eq_iff_iff];simp
theorem yo (x y:Linear):fj x y=some (decide (x=y)):=by
 unfold fj k7;have key:=zl (fin:=fun _ _=>()) (body:=fun i147 s146 =>
  bif decide (((i147:Nat):Int)<((y.Terms.length:Nat):Int)) then (
   ((
    bif (Op.bytesLess ((x.Terms.getD i147 ⟨[],0⟩).Var) ((y.Terms.getD i147 ⟨[],0⟩).Var)) then (
     some (.ret (.ret (-1)))
    ) else (
     bif (((x.Terms.getD i147 ⟨[],0⟩).Var)==((y.Terms.getD i147 ⟨[],0⟩).Var)) then (
      bif decide (((x.Terms.getD i147 ⟨[],0⟩).C)<((y.Terms.getD i147 ⟨[],0⟩).C)) then (
       some (.ret (.ret (-1)))
      ) else (
       bif ((((x.Terms.getD i147 ⟨[],0⟩).Var)==((y.Terms.getD i147 ⟨[],0⟩).Var))&&((((x.Terms.getD i147 ⟨[],0⟩).C)==((y.Terms.getD i147 ⟨[],0⟩).C))&&true)) then (
        some (.brk ())
       ) else (
        some (.ret (.ret 1))
       )
      )
     ) else (
      bif ((((x.Terms.getD i147 ⟨[],0⟩).Var)==((y.Terms.getD i147 ⟨[],0⟩).Var))&&((((x.Terms.getD i147 ⟨[],0⟩).C)==((y.Terms.getD i147 ⟨[],0⟩).C))&&true)) then (
       some (.brk ())
      ) else (
       some (.ret (.ret 1))
      )
     )
    )
   ):Option (Out Unit (eR Unit Unit Int))).bind (Sh.aft fun u274 =>
    some (.go ())
   )
  ) else (
   some (.brk ())
  )) y.Terms.length (fun j=>x.Terms.getD j ⟨[],0⟩=y.Terms.getD j ⟨[],0⟩) (x.Terms.length-0) 0 () (fun j u _ _=>by
   by_cases hj:j<y.Terms.length
   ·rw [ML (show ((j:Nat):Int)<((y.Terms.length:Nat):Int) by omega),HF];generalize x.Terms.getD j ⟨[],0⟩=a;generalize y.Terms.getD j ⟨[],0⟩=b;by_cases hab:a=b
    ·subst hab;refine .inl ⟨hj,rfl,?_⟩;have h1:Op.bytesLess a.Var a.Var=false:=by
      have:∀ l:aJ,Op.bytesLess l l=false:=by
       intro l;induction l with
       | nil=>rfl
       | cons x l ih=>simp [Op.bytesLess,ih]
      exact this _
     rw [h1];simp [Sh.aft]
    ·refine .inr (.inl ⟨hj,hab,?_⟩);rw [MK hab];cases Op.bytesLess a.Var b.Var with
     | true=>exact ⟨-1,by decide,rfl⟩
     | false =>
      cases hv:a.Var==b.Var with
      | true =>
       cases decide (a.C<b.C) with
       | true=>exact ⟨-1,by decide,rfl⟩
       | false=>exact ⟨1,by decide,rfl⟩
      | false=>exact ⟨1,by decide,rfl⟩
   ·rw [MK (show ¬ ((j:Nat):Int)<((y.Terms.length:Nat):Int) by omega)];exact .inr (.inr ⟨by omega,rfl⟩))
 rcases key with ⟨e,ha⟩ | ⟨r,hr,e,j,_,j2,j3,j4⟩
 ·rw [e];simp only [Option.bind_some,Sh.aft];rw [KB];cases x with | mk a s=>cases y with | mk b t =>
  simp only at ha ⊢;by_cases hl:s.length=t.length
  ·have hst:s=t:=Hj ⟨[],0⟩ hl fun j hj=>ha j (by omega) (by omega) (by omega);subst hst;rw [MK (show ¬ ((s.length:Nat):Int)<((s.length:Nat):Int) by omega),ML (rfl:s.length=s.length)];simp only [cond_true,cond_false];by_cases h1:a<b
   ·rw [ML h1];have:¬ a=b:=by omega
    simp [this]
   ·rw [MK h1];by_cases h2:a>b
    ·rw [ML h2];have:¬ a=b:=by omega
     simp [this]
    ·rw [MK h2];have:a=b:=by omega
     simp [this]
  ·rw [MK hl];have hne:¬ (Linear.mk a s=Linear.mk b t):=fun e=>hl (by simp at e;rw [e.2]);rw [MK hne];by_cases h1:s.length<t.length
   ·rw [ML (show ((s.length:Nat):Int)<((t.length:Nat):Int) by omega)];rfl
   ·rw [MK (show ¬ ((s.length:Nat):Int)<((t.length:Nat):Int) by omega),ML (show ((s.length:Nat):Int)>((t.length:Nat):Int) by omega)];rfl
 ·rw [e];simp only [Option.bind_some,Sh.aft];have hne:¬ (x=y):=fun e=>j4 (by rw [e]);rw [MK hne];simpa using hr
abbrev tU:Bind:=⟨0,[],⟨0,[]⟩,⟨[],[]⟩,[]⟩
theorem LI (b:Bind):Bind.mk b.Kind b.Var b.Dim b.Row b.Elem=b:=rfl
def lV (k:Int) (v:aJ) (b:Bind):Bool:=b.Kind==k&&b.Var==v
theorem Im (l:List Bind) (p:Bind→Bool):∀ x:Option Nat,(match x with | some j=>((j:Nat):Int) | none => -1)=idxOf p l →
 ((some (match x with | some j=>Out.ret ((j:Nat):Int) | none=>Out.brk ()):Option (Out Unit Int)).bind (Sh.aft fun _=>some (-1)))=some (idxOf p l)
 | none,hx=>by rw [← hx];rfl
 | some j,hx=>by rw [← hx];rfl
def okB (b:Bind):Prop:=b.Var.length≤1000000∧I6 b.Dim∧MD b.Row
theorem GG {l:List Bind} (h:∀ b∈l,okB b) (j:Nat):okB (l.getD j tU):=by
 rw [ME];cases h1:l[j]? with
 | none=>exact ⟨by simp,⟨by simp,fun t ht=>by simp at ht⟩,⟨by simp,fun t ht=>by simp at ht⟩⟩
 | some x=>exact h x (List.mem_of_getElem? h1)
theorem xO (l:Linear) (h:l.Terms.length≤1000000):jJ l=some (l.Terms.map (·.Var)):=by
 unfold jJ;obtain ⟨s',e1,e2,_⟩:=Al (fin:=fun _ s=>s) (body:=fun i18 s17 =>
  bf ((s17.length+1)*16≤140737488355328) <|
  some (.go (s17++[((l.Terms.getD i18 ⟨[],0⟩).Var)]))) (ε:=List aJ) (ρ:=Empty) (fun j s=>s++[(l.Terms.getD j ⟨[],0⟩).Var]) (fun j s=>s.length=j) (l.Terms.length-0) 0 [] rfl (fun j s _ hj hI=>by refine ⟨by rw [aD (by omega)],by simp [hI]⟩)
 rw [e1];simp only [Option.bind_some,ca,MO];rw [e2];have:=qu (fun (s:List aJ) (t:au)=>s++[t.Var]) ⟨[],0⟩ l.Terms 0 [];rw [this];simp only [List.drop_zero];have gen:∀ (ts:List au) (s:List aJ),ts.foldl (fun s t=>s++[t.Var]) s=s++ts.map (·.Var):=by
  intro ts;induction ts with
  | nil=>intro s;simp
  | cons t ts ih=>intro s;simp [ih]
 rw [gen];rfl
theorem bc {l:Linear} (h:aA l=true):l.Terms.length≤12:=by simp only [aA,MG,decide_eq_true_eq] at h;exact h.2.2
end Go.Proofs.YtlhcekghjfjajaaGreatDoor
namespace Go.Sh
theorem nH {α:Type} [DecidableEq α]:∀ (l l':List α),l.Nodup→(∀ x∈l,x∈l')→l.length≤l'.length
 | [],l',_,_=>by simp
 | a::l,l',h,hs=>by
  rw [List.nodup_cons] at h;have ha:a∈l':=hs a (by simp);have ih:=nH l (l'.erase a) h.2 (fun x hx=>by have hne:x≠a:=fun e=>h.1 (e ▸ hx);exact (List.mem_erase_of_ne hne).2 (hs x (by simp [hx])))
  rw [List.length_erase_of_mem ha] at ih;have:0<l'.length:=List.length_pos_of_mem ha;simp only [List.length_cons];omega
theorem Kc {V σ ε β:Type} {m:List (aJ×V)} {body:aJ×V→σ→Option (eR σ ε β)} {K:σ→Prop} {J:β→Prop} (I:List Nat→σ→Prop) (g:σ→aJ×V→σ)
 (hstep:∀ seen s i (h:i<m.length),seen.Nodup→i ∉ seen→(∀ j∈seen,j<m.length)→I seen s→body m[i] s=some (.go (g s m[i]))∧I (seen++[i]) (g s m[i]))
 (hend:∀ seen s,seen.Nodup→(∀ i,i<m.length→i∈seen)→(∀ i∈seen,i<m.length)→I seen s→K s) :
 ∀ (n:Nat) (seen:List Nat) (s:σ),seen.Nodup→(∀ i∈seen,i<m.length)→n+seen.length=m.length→I seen s→MR m body K J n seen s
 | 0,seen,s,h1,h2,h3,hI=>by
  have hall:∀ i,i<m.length→i∈seen:=by
   intro i hi;refine Classical.byContradiction fun hn => ?_;have:=nH (i::seen) (List.range m.length) (List.nodup_cons.2 ⟨hn,h1⟩) (fun x hx=>by
    rcases List.mem_cons.1 hx with rfl | hx
    ·simpa using hi
    ·simpa using h2 x hx)
   simp at this;omega
  exact ⟨hall,hend seen s h1 hall h2 hI⟩
 | n+1,seen,s,h1,h2,h3,hI=>by
  refine ⟨?_,fun i hi hn => ?_⟩
  ·refine Classical.byContradiction fun hn => ?_;have:=nH (List.range m.length) seen List.nodup_range (fun x hx=>Classical.byContradiction fun hx2=>hn ⟨x,by simpa using hx,hx2⟩);simp at this;omega
  ·obtain ⟨e1,e2⟩:=hstep seen s i hi h1 hn h2 hI;refine ⟨_,e1,?_⟩;have hnd:(seen++[i]).Nodup:=by
    rw [List.nodup_append];exact ⟨h1,by simp,fun a ha b hb=>by
     have:b=i:=by simpa using hb
     subst this;intro e;subst e;exact hn ha⟩
   exact Kc I g hstep hend n (seen++[i]) _ hnd (fun j hj=>by
    rcases List.mem_append.1 hj with hj | hj
    ·exact h2 j hj
    ·have:j=i:=by simpa using hj
     subst this;exact hi) (by simp;omega) e2
def yE (x y:aJ):Bool:=decide (x≤y)
theorem zH (a b c:aJ) (h1:yE a b=true) (h2:yE b c=true):yE a c=true:=by simp only [yE,decide_eq_true_eq] at *;exact List.le_trans h1 h2
theorem zM (a b:aJ):(yE a b||yE b a)=true:=by simp only [yE,Bool.or_eq_true,decide_eq_true_eq];exact List.le_total a b
theorem yp (a b:aJ) (h1:yE a b=true) (h2:yE b a=true):a=b:=by simp only [yE,decide_eq_true_eq] at *;exact List.le_antisymm h1 h2
theorem qZ (l:List aJ):(Go.Ab.sortS l).Pairwise (fun a b=>yE a b=true):=List.pairwise_mergeSort zH zM l
theorem uW (l:List aJ):(Go.Ab.sortS l).Perm l:=List.mergeSort_perm l _
theorem ES {l r:List aJ} (hs:r.Pairwise (fun a b=>yE a b=true)) (hp:r.Perm l):Go.Ab.sortS l=r :=
 List.Perm.eq_of_pairwise (fun a b _ _=>yp a b) (qZ l) hs ((uW l).trans hp.symm)
theorem yg {l r:List aJ} (h:l.Perm r):Go.Ab.sortS l=Go.Ab.sortS r:=ES (qZ r) ((uW r).trans h.symm)
def Ds (x:aJ):List aJ→List aJ
 | []=>[x]
 | y::l=>bif yE x y then x::y::l else y::Ds x l
def kz:List aJ→List aJ
 | []=>[]
 | x::l=>Ds x (kz l)
theorem vI (x:aJ):∀ l,(Ds x l).Perm (x::l)
 | []=>.refl _
 | y::l=>by
  simp only [Ds];cases yE x y
  ·exact ((vI x l).cons y).trans (.swap _ _ _)
  ·exact .refl _
theorem wh (x:aJ):∀ {l:List aJ},l.Pairwise (fun a b=>yE a b=true)→(Ds x l).Pairwise (fun a b=>yE a b=true)
 | [],_=>by simp [Ds]
 | y::l,h=>by
  rw [List.pairwise_cons] at h;simp only [Ds];cases hxy:yE x y
  ·simp only [cond_false,List.pairwise_cons];have hyx:yE y x=true:=by have:=zM x y;rw [hxy] at this;simpa using this
   refine ⟨fun a ha => ?_,wh x h.2⟩;rcases List.mem_cons.1 ((vI x l).mem_iff.1 ha) with rfl | ha
   ·exact hyx
   ·exact h.1 a ha
  ·simp only [cond_true,List.pairwise_cons];refine ⟨fun a ha => ?_,h⟩;rcases List.mem_cons.1 ha with rfl | ha
   ·exact hxy
   ·exact zH _ _ _ hxy (h.1 a ha)
theorem ic:∀ l,(kz l).Perm l
 | []=>.refl _
 | x::l=>(vI x _).trans ((ic l).cons x)
theorem qB:∀ l,(kz l).Pairwise (fun a b=>yE a b=true)
 | []=>List.Pairwise.nil
 | x::l=>wh x (qB l)
theorem Cn (l:List aJ):Go.Ab.sortS l=kz l:=ES (qB l) (ic l)
def vq:List aJ→Bool
 | []=>true
 | x::l => !(l.any fun y=>y==x)&&vq l
theorem zJ:∀ {l:List aJ},vq l=true→l.Nodup
 | [],_=>List.nodup_nil
 | x::l,h=>by simp only [vq,MG,Bool.not_eq_true',List.any_eq_false,beq_iff_eq] at h;exact List.nodup_cons.2 ⟨fun hm=>h.1 x hm rfl,zJ h.2⟩
end Go.Sh
namespace Go.Proofs.YtlhcekghjfjajaaGreatDoor
open Go.Ab Go.Sh
def bI (m:List (aJ×Int)):List aJ:=(m.filter fun e => !(e.2==0)).map (·.1)
def pr (n:Int) (m:List (aJ×Int)) (names:List aJ):Linear×Int :=
 bif aA (Linear.mk n (names.map fun k=>au.mk k (bE 0 k m))) then (Linear.mk n (names.map fun k=>au.mk k (bE 0 k m)),0) else (Linear.mk 0 [],3)
def yl (m:List (aJ×Int)):Bool:=vq (m.map (·.1))&&(decide (m.length≤1000)&&m.all fun e=>decide (e.1.length≤1000000))
theorem GR (m:List (aJ×Int)) (y:List aJ) (hy:y.length≤1000000):(dn (σ:=(List au)) (ε:=(List au)) (ρ:=Empty) (fun i117 s116 =>
 bf ((s116.length+1)*24≤140737488355328) <|
 some (.go (s116++[(au.mk (y.getD i117 []) (bE 0 (y.getD i117 []) m))]))
 ) (fun i117 s116=>s116) (y.length-0) 0 [])=some (.brk (y.map fun k=>au.mk k (bE 0 k m))):=by
 obtain ⟨s',e1,e2,_⟩:=Al (fin:=fun _ s=>s) (body:=fun i117 s116 =>
  bf ((s116.length+1)*24≤140737488355328) <|
  some (.go (s116++[(au.mk (y.getD i117 []) (bE 0 (y.getD i117 []) m))]))) (ε:=List au) (ρ:=Empty) (fun j s=>s++[(fun k=>au.mk k (bE 0 k m)) (y.getD j [])]) (fun j s=>s.length=j) (y.length-0) 0 [] rfl (fun j s _ hj hI=>⟨by rw [aD (by omega)],by simp [hI]⟩)
 rw [e1,e2];have:=qu (fun (s:List au) (k:aJ)=>s++[(fun k=>au.mk k (bE 0 k m)) k]) [] y 0 [];rw [this];have gen:∀ (ts:List aJ) (s:List au),ts.foldl (fun s k=>s++[(fun k=>au.mk k (bE 0 k m)) k]) s=s++ts.map (fun k=>au.mk k (bE 0 k m)):=by
  intro ts;induction ts with
  | nil=>intro s;simp
  | cons t ts ih=>intro s;simp [ih]
 rw [List.drop_zero,gen];rfl
theorem HJ (n:Int) (m:List (aJ×Int)) (hm:yl m=true) (s:List aJ) (hp:s.Perm (bI m)) :
 ((lp s).bind fun y97 =>
 (dn (σ:=(List au)) (ε:=(List au)) (ρ:=Empty) (fun i117 s116 =>
  bf ((s116.length+1)*24≤140737488355328) <|
  some (.go (s116++[(au.mk (y97.getD i117 []) (bE 0 (y97.getD i117 []) m))]))
 ) (fun i117 s116=>s116) (y97.length-0) 0 []).bind <| ca fun u148 =>
 (cb (Linear.mk n u148)).bind fun y151 =>
 bif y151 then (
  some ((Linear.mk n u148),0)
 ) else (
  some ((Linear.mk 0 []),3)
 ))=some (pr n m (kz (bI m))):=by
 simp only [yl,MG,decide_eq_true_eq,MS] at hm;obtain ⟨_,hl,hk⟩:=hm;have hlen:(bI m).length≤m.length:=by unfold bI;rw [MM];exact List.length_filter_le _ _
 have hs:s.length≤1000:=by rw [hp.length_eq];omega
 unfold lp;rw [aD (by omega)];simp only [Option.bind_some];rw [yg hp,Cn];have hsi:(kz (bI m)).length≤1000:=by rw [(ic _).length_eq];omega
 rw [GR m _ (by omega)];simp only [Option.bind_some,ca];rw [fa _ (by simp;omega) (fun t ht=>by obtain ⟨k,hk1,rfl⟩:=List.mem_map.1 ht;have hk2:=(ic _).mem_iff.1 hk1;obtain ⟨e,he,rfl⟩:=List.mem_map.1 hk2;exact hk e (List.mem_filter.1 he).1)]
 simp only [Option.bind_some,pr];cases aA (Linear.mk n ((kz (bI m)).map fun k=>au.mk k (bE 0 k m)))<;>rfl
theorem Iv {β:Type} (m:List (aJ×Int)) (hm:yl m=true) (k:List aJ→Option β) (v:β) (hk:∀ s,s.Perm (bI m)→k s=some v) :
 nL (σ:=(List aJ)) (ε:=Empty) (β:=β) m (fun e164 s94 =>
 bif (e164.2==0) then (
  some (.go s94)
 ) else (
  bf ((s94.length+1)*16≤140737488355328) <|
  some (.go (s94++[e164.1]))
 )) [] k=some v:=by
 simp only [yl,MG,decide_eq_true_eq,MS] at hm;obtain ⟨hnd,hl,_⟩:=hm;have hnd:=zJ hnd;have hinj:∀ i j (hi:i<m.length) (hj:j<m.length),m[i].1=m[j].1→i=j:=by
  intro i j hi hj e;have h1:(m.map (·.1))[i]'(by simpa using hi)=(m.map (·.1))[j]'(by simpa using hj):=by simpa using e
  exact (List.getElem_inj hnd).1 h1
 refine rO (Kc (fun seen s=>s.Nodup∧s.length≤seen.length∧∀ x,x∈s↔∃ i,i∈seen∧∃ h:i<m.length,m[i].1=x∧m[i].2≠0) (fun s e=>bif e.2==0 then s else s++[e.1]) ?_ ?_ m.length [] [] List.nodup_nil (fun i hi=>by simp at hi) (by simp) ⟨List.nodup_nil,by simp,fun x=>by simp⟩)
 ·rintro seen s i hi hs1 hs2 hs3 ⟨i1,i2,i3⟩;have hsl:seen.length≤m.length:=by have:=nH seen (List.range m.length) hs1 (fun x hx=>by simpa using hs3 x hx);simpa using this
  cases hz:m[i].2==0 with
  | true =>
   have hz':m[i].2=0:=by simpa using hz
   refine ⟨rfl,i1,by simp;omega,fun x => ?_⟩;simp only [cond_true];rw [i3];constructor
   ·rintro ⟨j,h1,h2⟩;exact ⟨j,by simp [h1],h2⟩
   ·rintro ⟨j,h1,h2,h3,h4⟩;rcases List.mem_append.1 h1 with h1 | h1
    ·exact ⟨j,h1,h2,h3,h4⟩
    ·have:j=i:=by simpa using h1
     subst this;exact absurd hz' h4
  | false =>
   have hz':m[i].2≠0:=by simpa using hz
   simp only [cond_false];rw [aD (by omega)];refine ⟨rfl,?_,by simp;omega,fun x => ?_⟩
   ·rw [List.nodup_append];refine ⟨i1,by simp,fun a ha b hb => ?_⟩;have hb:b=m[i].1:=by simpa using hb
    subst hb;intro e;obtain ⟨j,h1,h2,h3,_⟩:=(i3 a).1 ha;exact hs2 (hinj j i h2 hi (h3.trans e) ▸ h1)
   ·rw [List.mem_append,i3];constructor
    ·rintro (⟨j,h1,h2⟩ | h)
     ·exact ⟨j,by simp [h1],h2⟩
     ·have h:x=m[i].1:=by simpa using h
      exact ⟨i,by simp,hi,h.symm,hz'⟩
    ·rintro ⟨j,h1,h2,h3,h4⟩;rcases List.mem_append.1 h1 with h1 | h1
     ·exact .inl ⟨j,h1,h2,h3,h4⟩
     ·have:j=i:=by simpa using h1
      subst this;exact .inr (by simp [h3])
 ·rintro seen s hs1 hall hlt ⟨i1,i2,i3⟩;refine hk s ?_;have hn2:(bI m).Nodup:=by unfold bI;exact (List.Sublist.map _ List.filter_sublist).nodup hnd
  refine (List.perm_ext_iff_of_nodup i1 hn2).2 fun x => ?_;rw [i3];unfold bI;simp only [List.mem_map,List.mem_filter,Bool.not_eq_true',beq_eq_false_iff_ne];constructor
  ·rintro ⟨j,_,h2,h3,h4⟩;exact ⟨m[j],⟨List.getElem_mem h2,h4⟩,h3⟩
  ·rintro ⟨e,⟨h1,h2⟩,h3⟩;obtain ⟨j,hj,rfl⟩:=List.getElem_of_mem h1;exact ⟨j,hall j hj,hj,h3,h2⟩
theorem zc (n:Int) (m:List (aJ×Int)) (hm:yl m=true):fw n m=some (pr n m (kz (bI m))):=by unfold fw;exact Iv m hm _ _ fun s hp=>HJ n m hm s hp
end Go.Proofs.YtlhcekghjfjajaaGreatDoor
namespace Go.Sh
section
variable {α σ ε ρ:Type}
def cL (g:α→σ→eR σ ε ρ) (fin:σ→ε):List α→σ→Out ε ρ
 | [],s=>.brk (fin s)
 | x::l,s=>match g x s with | .go s'=>cL g fin l s' | .brk e=>.brk e | .ret r=>.ret r
theorem rC {body:Nat→σ→Option (eR σ ε ρ)} {fin:Nat→σ→ε} {f:σ→ε} (d:α) (l:List α) (g:α→σ→eR σ ε ρ) (I:Nat→σ→Prop) (hf:∀ i s,fin i s=f s) :
 ∀ (i:Nat) (s:σ),I i s→(∀ j s,i≤j→j<l.length→I j s→body j s=some (g (l.getD j d) s)∧∀ s',g (l.getD j d) s = .go s'→I (j+1) s') →
 dn body fin (l.length-i) i s=some (cL g f (l.drop i) s):=by
 intro i s hI h;by_cases hi:i<l.length
 ·obtain ⟨k,hk⟩:∃ k,l.length-i=k+1:=⟨l.length-i-1,by omega⟩;obtain ⟨h1,h2⟩:=h i s (Nat.le_refl _) hi hI;have hx:l.getD i d=l[i]:=by simp [ME,MF hi]
  rw [hx] at h1 h2;rw [hk,List.drop_eq_getElem_cons hi];simp only [dn,h1,Option.bind_some,cL];cases hg:g l[i] s with
  | go s' =>
   have ih:=rC d l g I hf (i+1) s' (h2 s' hg) (fun j s h1 h2=>h j s (by omega) h2);rw [show l.length-(i+1)=k by omega] at ih;exact ih
  | brk e=>rfl
  | ret r=>rfl
 ·rw [show l.length-i=0 by omega,List.drop_eq_nil_of_le (by omega)];simp [dn,cL,hf]
 termination_by i=>l.length-i
theorem de {body:Nat→σ→Option (eR σ ε ρ)} {fin:Nat→σ→ε} {f:σ→ε} (d:α) (l:List α) (g:α→σ→eR σ ε ρ) (I:Nat→σ→Prop) (hf:∀ i s,fin i s=f s) (s:σ) (hI:I 0 s)
 (h:∀ j s,j<l.length→I j s→body j s=some (g (l.getD j d) s)∧∀ s',g (l.getD j d) s = .go s'→I (j+1) s') :
 dn body fin (l.length-0) 0 s=some (cL g f l s):=by
 have:=rC d l g I hf 0 s hI (fun j s _ h1 h2=>h j s h1 h2);simpa using this
theorem zO {body:Nat→Unit→Option (eR Unit Nat ρ)} (p:Nat→Bool):∀ (k i:Nat) (u:Unit),(∀ j u,i≤j→j<i+k→body j u=some (bif p j then .brk j else .go ())) →
 dn body (fun i _=>i) k i u=some (.brk (match (List.range' i k).find? p with | some j=>j | none=>i+k))
 | 0,i,u,h=>by simp [dn]
 | k+1,i,u,h=>by
  simp only [dn,h i u (Nat.le_refl _) (by omega),List.range'_succ,List.find?_cons];cases hp:p i with
  | false =>
   simp only [cond_false,Option.bind_some,tN];rw [zO p k (i+1) () (fun j u h1 h2=>h j u (by omega) (by omega))];rw [show i+1+k=i+(k+1) by omega]
  | true=>simp [tN]
theorem sG (p:α→Bool) (d:α):∀ l:List α,0≤idxOf p l→(idxOf p l).toNat<l.length∧p (l.getD (idxOf p l).toNat d)=true
 | [],h=>by simp [idxOf] at h
 | x::l,h=>by
  cases hp:p x with
  | true=>simp [idxOf,hp]
  | false =>
   have hge:=rP p l;simp only [idxOf,hp,cond_false] at h ⊢;by_cases hm:idxOf p l = -1
   ·rw [hm] at h;simp at h
   ·have e:(idxOf p l == -1)=false:=by simpa using hm
    rw [e,cond_false];obtain ⟨h1,h2⟩:=sG p d l (by omega);have e2:(idxOf p l+1).toNat=(idxOf p l).toNat+1:=by omega
    rw [e2];exact ⟨by simp;omega,by simpa using h2⟩
theorem CK (p:α→Bool) (d:α) (l:List α):idxOf p l<(l.length:Int):=by
 by_cases h:0≤idxOf p l
 ·have:=(sG p d l h).1;omega
 ·omega
theorem FP (p:α→Bool) (d:α) (l:List α):((match (List.range' 0 (l.length-0)).find? (fun j=>p (l.getD j d)) with | some j=>j | none=>0+(l.length-0)):Nat)=(bif decide (idxOf p l<0) then l.length else (idxOf p l).toNat):=by
 have h:=sC p d l;have hge:=rP p l;cases hf:(List.range' 0 (l.length-0)).find? (fun j=>p (l.getD j d)) with
 | none =>
  rw [hf] at h;have h:(-1:Int)=idxOf p l:=h;rw [← h];simp
 | some j =>
  rw [hf] at h;have h:((j:Nat):Int)=idxOf p l:=h;rw [← h,MK (by omega)];simp
end
end Go.Sh
namespace Go.Proofs.YtlhcekghjfjajaaGreatDoor
open Go.Ab Go.Sh
def Eg (v:aJ) (x:Value):Bool:=x.Var==v
def vv (vs:List Value) (v:aJ):Int:=(vs.getD (idxOf (Eg v) vs).toNat ⟨[],0⟩).N
def F4 (vs:List Value) (v:aJ):Prop:=0≤idxOf (Eg v) vs ∧ -1000000000≤vv vs v∧vv vs v≤1000000000
def IM (vs:List Value) (t:au) (n:Int):eR Int Int (Int×Int) :=
 bif decide (idxOf (Eg t.Var) vs<0) then .ret (0,7) else
 bif decide (vv vs t.Var<(-1000000000)) then .ret (0,2) else
 bif decide (vv vs t.Var>1000000000) then .ret (0,2) else .go (aK (n+(aK (t.C*vv vs t.Var))))
def K8 (o:Out Int (Int×Int)):Int×Int:=match o with | .brk n=>(n,0) | .ret r=>r
def zT (vs:List Value) (l:Linear):Int×Int:=bif aA l then K8 (cL (IM vs) (fun s=>s) l.Terms l.Const) else (0,1)
theorem FY (o:Out Int (Int×Int)):((some o).bind (Sh.aft fun u=>some (u,0)))=some (K8 o):=by cases o<;>rfl
theorem yW (l:Linear) (vs:List Value):nX l vs=some (zT vs l):=by
 unfold nX zT;rw [dA l];simp only [Option.bind_some];cases aA l with
 | false=>rfl
 | true =>
  simp only [cond_true];rw [de (fin:=fun _ s=>s) (f:=fun s=>s) ⟨[],0⟩ l.Terms (IM vs) (fun _ _=>True) (fun _ _=>rfl) l.Const trivial (fun j s hj _=>⟨by
   rw [zO (fun i=>Eg (l.Terms.getD j ⟨[],0⟩).Var (vs.getD i ⟨[],0⟩)) _ _ () (fun i u _ _=>by unfold Eg;cases (vs.getD i ⟨[],0⟩).Var==(l.Terms.getD j ⟨[],0⟩).Var<;>rfl)]
   simp only [Option.bind_some,ca];rw [FP (Eg (l.Terms.getD j ⟨[],0⟩).Var) ⟨[],0⟩ vs];simp only [IM];have hlt:=CK (Eg (l.Terms.getD j ⟨[],0⟩).Var) ⟨[],0⟩ vs;by_cases h0:idxOf (Eg (l.Terms.getD j ⟨[],0⟩).Var) vs<0
   ·rw [ML h0];simp
   ·rw [MK h0];simp only [cond_false];have e:((((idxOf (Eg (l.Terms.getD j ⟨[],0⟩).Var) vs).toNat:Nat):Int)==((vs.length:Nat):Int))=false:=by rw [beq_eq_false_iff_ne];omega
    rw [e,cond_false,aD (by omega)];unfold vv;cases decide ((vs.getD (idxOf (Eg (l.Terms.getD j ⟨[],0⟩).Var) vs).toNat ⟨[],0⟩).N<(-1000000000))<;>cases decide ((vs.getD (idxOf (Eg (l.Terms.getD j ⟨[],0⟩).Var) vs).toNat ⟨[],0⟩).N>1000000000)<;>rfl,fun _ _=>trivial⟩)]
  exact FY _
def bA (f:aJ→Int):List au→Int
 | []=>0
 | t::ts=>t.C*f t.Var+bA f ts
def ga (f:aJ→Int) (l:Linear):Int:=l.Const+bA f l.Terms
theorem prod_bound {a b A B:Int} (h1 : -A≤a) (h2:a≤A) (h3 : -B≤b) (h4:b≤B) : -(A*B)≤a*b∧a*b≤A*B:=by
 have hA:0≤A:=by omega
 have hB:0≤B:=by omega
 have hn:(a*b).natAbs≤A.natAbs*B.natAbs:=by rw [Int.natAbs_mul];exact Nat.mul_le_mul (by omega) (by omega)
 have e:((A.natAbs*B.natAbs:Nat):Int)=A*B:=by rw [Int.natCast_mul];congr 1<;>omega
 omega
theorem BR (vs:List Value):∀ (ts:List au) (n:Int),(∀ t∈ts,-1000000≤t.C∧t.C≤1000000)→ts.length≤12 →
 -(1000000+(12-(ts.length:Int))*1000000000000000)≤n→n≤1000000+(12-(ts.length:Int))*1000000000000000 →
 (cL (IM vs) (fun s=>s) ts n = .brk (n+bA (vv vs) ts)∧∀ t∈ts,F4 vs t.Var)∨((∃ t∈ts,¬ F4 vs t.Var)∧∃ e,(e=7∨e=2)∧cL (IM vs) (fun s=>s) ts n = .ret (0,e))
 | [],n,_,_,_,_=>.inl ⟨by simp [cL,bA],by simp⟩
 | t::ts,n,hC,hl,h1,h2=>by
  by_cases h0:idxOf (Eg t.Var) vs<0
  ·exact .inr ⟨⟨t,by simp,fun hv=>by have:=hv.1;omega⟩,7,.inl rfl,by simp only [cL,IM,ML h0,cond_true]⟩
  by_cases h3:vv vs t.Var < -1000000000
  ·exact .inr ⟨⟨t,by simp,fun hv=>by have:=hv.2.1;omega⟩,2,.inr rfl,by simp only [cL,IM,MK h0,ML h3,cond_true,cond_false]⟩
  by_cases h4:vv vs t.Var>1000000000
  ·exact .inr ⟨⟨t,by simp,fun hv=>by have:=hv.2.2;omega⟩,2,.inr rfl,by simp only [cL,IM,MK h0,MK h3,ML h4,cond_true,cond_false]⟩
  obtain ⟨c1,c2⟩:=hC t (by simp);obtain ⟨b1,b2⟩:=prod_bound c1 c2 (show -1000000000≤vv vs t.Var by omega) (show vv vs t.Var≤1000000000 by omega);have hl':(ts.length:Int)≤11:=by simp at hl;omega
  have hlen:(((t::ts).length:Nat):Int)=(ts.length:Int)+1:=by simp
  rw [hlen] at h1 h2;have e:IM vs t n = .go (n+t.C*vv vs t.Var):=by simp only [IM,MK h0,MK h3,MK h4,cond_false];rw [gI (n:=t.C*vv vs t.Var) (by unfold tE;omega),gI (by unfold tE;omega)]
  simp only [cL,e,bA];rcases BR vs ts (n+t.C*vv vs t.Var) (fun t ht=>hC t (by simp [ht])) (by omega) (by omega) (by omega) with ⟨e1,e2⟩ | ⟨⟨y,e1,e1'⟩,e2⟩
  ·refine .inl ⟨by rw [e1,Int.add_assoc],fun x hx => ?_⟩;rcases List.mem_cons.1 hx with rfl | hx
   ·exact ⟨by omega,by omega,by omega⟩
   ·exact e2 x hx
  ·exact .inr ⟨⟨y,by simp [e1],e1'⟩,e2⟩
theorem bD {l:Linear} (h:aA l=true):∀ t∈l.Terms,(-1000000≤t.C∧t.C≤1000000)∧db t.Var=true:=by
 intro t ht;obtain ⟨j,hj,rfl⟩:=List.getElem_of_mem ht;simp only [aA,MG,MS] at h;have:=h.1 j (by simpa using hj);have e:zg l j=l.Terms[j]:=by simp [zg,ME,MF hj]
 simp only [kE,e,MG,Cm,decide_eq_true_eq] at this;exact ⟨this.2.2.1,this.1⟩
theorem j6 {l:Linear} (h:aA l=true) : -1000000≤l.Const∧l.Const≤1000000:=by simp only [aA,MG,Cm,decide_eq_true_eq] at h;exact h.2.1
theorem je {s:aJ} (h:db s=true):s.length≤30:=by
 cases s with
 | nil=>simp
 | cons c r =>
  simp only [db] at h;cases hc:c==95
  ·simp only [hc,cond_false,MG,decide_eq_true_eq] at h;simp;omega
  ·simp only [hc,cond_true,MG,decide_eq_true_eq] at h;simp;omega
theorem mz {l:Linear} (h:aA l=true):I6 l :=
 ⟨by have:=bc h;omega,fun t ht=>by have:=je (bD h t ht).2;omega⟩
theorem FF (vs:List Value) (l:Linear) (h:aA l=true):(zT vs l=(ga (vv vs) l,0)∧∀ t∈l.Terms,F4 vs t.Var)∨((∃ t∈l.Terms,¬ F4 vs t.Var)∧(zT vs l).2≠0):=by
 have hl:=bc h;obtain ⟨k1,k2⟩:=j6 h;have hp:0≤(12-(l.Terms.length:Int))*1000000000000000:=Int.mul_nonneg (by omega) (by omega);unfold zT;rw [h,cond_true];rcases BR vs l.Terms l.Const (fun t ht=>(bD h t ht).1) hl (by omega) (by omega) with ⟨e1,e2⟩ | ⟨e1,e,e2,e3⟩
 ·exact .inl ⟨by rw [e1];rfl,e2⟩
 ·refine .inr ⟨e1,?_⟩;rw [e3];rcases e2 with rfl | rfl<;>simp [K8]
theorem HK {vs:List Value} {l:Linear} (h:(zT vs l).2=0):aA l=true∧(zT vs l).1=ga (vv vs) l∧∀ t∈l.Terms,F4 vs t.Var:=by
 cases hv:aA l with
 | false=>unfold zT at h;rw [hv] at h;simp at h
 | true =>
  rcases FF vs l hv with ⟨e1,e2⟩ | ⟨_,e⟩
  ·exact ⟨rfl,by rw [e1],e2⟩
  ·exact absurd h e
end Go.Proofs.YtlhcekghjfjajaaGreatDoor
namespace Go.Sh
def mn (f:aJ→Int):List (aJ×Int)→Int
 | []=>0
 | (k,c)::m=>c*f k+mn f m
theorem yn (f:aJ→Int) (x:aJ) (v:Int):∀ m:List (aJ×Int),mn f (bW x v m)=mn f m+(v-bE 0 x m)*f x
 | []=>by simp [bW,bE,mn]
 | (k,u)::m=>by
  by_cases h:k=x
  ·subst h;simp only [bW,bE,if_pos,mn];rw [Int.sub_mul];omega
  ·simp only [bW,bE,if_neg h,mn];rw [yn f x v m];omega
theorem zI (x y:aJ) (v:Int):∀ m:List (aJ×Int),bE 0 y (bW x v m)=if x=y then v else bE 0 y m
 | []=>by simp [bW,bE]
 | (k,u)::m=>by
  by_cases h:k=x
  ·subst h;simp only [bW,bE,if_pos];by_cases h2:k=y
   ·simp [h2]
   ·simp [h2]
  ·simp only [bW,if_neg h,bE];rw [zI x y v m];by_cases h2:k=y
   ·subst h2;simp [Ne.symm h]
   ·simp [h2]
theorem kJ (x:aJ) (v:Int):∀ m:List (aJ×Int),(bW x v m).map (·.1)=if x∈m.map (·.1) then m.map (·.1) else m.map (·.1)++[x]
 | []=>by simp [bW]
 | (k,u)::m=>by
  by_cases h:k=x
  ·subst h;simp [bW]
  ·simp only [bW,if_neg h,List.map_cons,kJ x v m,List.mem_cons,Ne.symm h,false_or];split<;>simp
structure Sm (B:Int) (K:Nat) (m:List (aJ×Int)):Prop where
 bd:∀ x,-B≤bE 0 x m∧bE 0 x m≤B
 len:m.length≤K
 nd:(m.map (·.1)).Nodup
 key:∀ x∈m.map (·.1),x.length≤1000000
theorem Sm.nil:Sm 0 0 []:=⟨fun x=>by simp [bE],by simp,by simp,by simp⟩
theorem Sm.put {B:Int} {K:Nat} {m:List (aJ×Int)} (h:Sm B K m) {x:aJ} {v:Int} {B':Int} (hx:x.length≤1000000) (hB:B≤B') (h1 : -B'≤v) (h2:v≤B'):Sm B' (K+1) (bW x v m):=by
 refine ⟨fun y => ?_,?_,?_,fun y hy => ?_⟩
 ·rw [zI];split
  ·exact ⟨h1,h2⟩
  ·have:=h.bd y;omega
 ·have e:=congrArg List.length (kJ x v m);have:=h.len;split at e<;>simp at e<;>omega
 ·rw [kJ];split
  ·exact h.nd
  ·rename_i hn;rw [List.nodup_append];exact ⟨h.nd,by simp,fun a ha b hb=>by
    have:b=x:=by simpa using hb
    subst this;intro e;subst e;exact hn ha⟩
 ·rw [kJ] at hy;split at hy
  ·exact h.key y hy
  ·rcases List.mem_append.1 hy with hy | hy
   ·exact h.key y hy
   ·have:y=x:=by simpa using hy
    subst this;exact hx
theorem Sm.mono {B B':Int} {K K':Nat} {m:List (aJ×Int)} (h:Sm B K m) (h1:B≤B') (h2:K≤K'):Sm B' K' m :=
 ⟨fun x=>by have:=h.bd x;omega,by have:=h.len;omega,h.nd,h.key⟩
theorem zp:∀ {l:List aJ},l.Nodup→vq l=true
 | [],_=>rfl
 | x::l,h=>by rw [List.nodup_cons] at h;simp only [vq,MG,Bool.not_eq_true',List.any_eq_false,beq_iff_eq];exact ⟨fun y hy e=>h.1 (e ▸ hy),zp h.2⟩
end Go.Sh
namespace Go.Proofs.YtlhcekghjfjajaaGreatDoor
open Go.Ab Go.Sh
theorem Jg {B:Int} {K:Nat} {m:List (aJ×Int)} (h:Sm B K m) (hK:K≤1000):yl m=true:=by simp only [yl,MG,decide_eq_true_eq,MS];refine ⟨zp h.nd,by have:=h.len;omega,fun e he=>h.key e.1 (List.mem_map.2 ⟨e,he,rfl⟩)⟩
def Ck (k:Int) (t:au) (m:List (aJ×Int)):List (aJ×Int):=bW t.Var (aK ((bE 0 t.Var m)+(aK (k*t.C)))) m
def Ed (l:Linear) (k:Int) (n:Int) (m:List (aJ×Int)):Int×List (aJ×Int):=(aK (n+aK (k*l.Const)),l.Terms.foldl (fun m t=>Ck k t m) m)
theorem ud (l:Linear) (k n:Int) (m:List (aJ×Int)):ij l k n m=some (Ed l k n m):=by
 unfold ij;obtain ⟨s',e1,e2,_⟩:=Al (σ:=List (aJ×Int)) (ε:=(Int×(List (aJ×Int)))) (ρ:=(Int×(List (aJ×Int)))) (fin:=fun _ s41=>((aK (n+(aK (k*l.Const)))),s41))
  (body:=fun i42 s41 =>
  some (.go (bW ((l.Terms.getD i42 ⟨[],0⟩).Var) (aK ((bE 0 ((l.Terms.getD i42 ⟨[],0⟩).Var) s41)+(aK (k*((l.Terms.getD i42 ⟨[],0⟩).C))))) s41)))
  (fun j m=>Ck k (l.Terms.getD j ⟨[],0⟩) m) (fun _ _=>True) (l.Terms.length-0) 0 m trivial (fun j s _ _ _=>⟨rfl,trivial⟩)
 rw [e1];simp only [Option.bind_some,Sh.aft,Ed,MO];rw [e2];have:=qu (fun (m:List (aJ×Int)) (t:au)=>Ck k t m) ⟨[],0⟩ l.Terms 0 m;rw [this];rfl
theorem BZ (a b c:Int):a*b*c=a*(b*c):=Int.mul_assoc a b c
theorem Cw (f:aJ→Int) (k:Int) (hk : -1000000≤k∧k≤1000000):∀ (ts:List au) (m:List (aJ×Int)) (B:Int) (K:Nat),(∀ t∈ts,(-1000000≤t.C∧t.C≤1000000)∧t.Var.length≤1000000) →
 Sm B K m→0≤B→B+(ts.length:Int)*1000000000000≤9000000000000000000 →
 Sm (B+(ts.length:Int)*1000000000000) (K+ts.length) (ts.foldl (fun m t=>Ck k t m) m)∧mn f (ts.foldl (fun m t=>Ck k t m) m)=mn f m+k*bA f ts
 | [],m,B,K,_,hs,_,_=>⟨by simpa using hs,by simp [bA]⟩
 | t::ts,m,B,K,hC,hs,hB,hle=>by
  obtain ⟨⟨c1,c2⟩,hv⟩:=hC t (by simp);obtain ⟨b1,b2⟩:=prod_bound hk.1 hk.2 c1 c2;have hlen:(((t::ts).length:Nat):Int)=(ts.length:Int)+1:=by simp
  rw [hlen] at hle;have hle':B+((ts.length:Int)*1000000000000+1000000000000)≤9000000000000000000:=by rw [Int.add_mul] at hle;omega
  have hp:0≤(ts.length:Int)*1000000000000:=by omega
  obtain ⟨m1,m2⟩:=hs.bd t.Var;have e:Ck k t m=bW t.Var (bE 0 t.Var m+k*t.C) m:=by unfold Ck;rw [gI (n:=k*t.C) (by unfold tE;omega),gI (by unfold tE;omega)]
  have hs1:=hs.put (v:=bE 0 t.Var m+k*t.C) (B':=B+1000000000000) hv (by omega) (by omega) (by omega);rw [← e] at hs1;obtain ⟨g1,g2⟩:=Cw f k hk ts (Ck k t m) (B+1000000000000) (K+1) (fun x hx=>hC x (by simp [hx])) hs1 (by omega) (by omega);rw [List.foldl_cons,hlen];refine ⟨?_,?_⟩
  ·have e1:B+1000000000000+(ts.length:Int)*1000000000000=B+((ts.length:Int)+1)*1000000000000:=by rw [Int.add_mul];omega
   have e2:K+1+ts.length=K+(t::ts).length:=by simp;omega
   rw [← e1,← e2];exact g1
  ·rw [g2,e,yn];simp only [bA];rw [Int.mul_add,show bE 0 t.Var m+k*t.C-bE 0 t.Var m=k*t.C by omega,BZ];omega
theorem vg (f:aJ→Int) {a b:List au} (h:a.Perm b):bA f a=bA f b:=by
 induction h with
 | nil=>rfl
 | cons x _ ih=>simp only [bA,ih]
 | swap x y l=>simp only [bA];omega
 | trans _ _ h1 h2=>exact h1.trans h2
theorem Gy {k x:aJ} {u:Int} {m:List (aJ×Int)} (h:k≠x):bE 0 x ((k,u)::m)=bE 0 x m:=by simp [bE,h]
theorem Gl (m:List (aJ×Int)) {x:aJ} (h:x∈bI m):x∈m.map (·.1):=by unfold bI at h;obtain ⟨e,he,rfl⟩:=List.mem_map.1 h;exact List.mem_map.2 ⟨e,(List.mem_filter.1 he).1,rfl⟩
theorem vc (f:aJ→Int):∀ m:List (aJ×Int),(m.map (·.1)).Nodup→bA f ((bI m).map fun k=>au.mk k (bE 0 k m))=mn f m
 | [],_=>rfl
 | (k,u)::m,h=>by
  rw [List.map_cons,List.nodup_cons] at h;have ih:=vc f m h.2;have hskip:(bI m).map (fun x=>au.mk x (bE 0 x ((k,u)::m)))=(bI m).map fun x=>au.mk x (bE 0 x m):=by refine List.map_congr_left fun x hx => ?_;rw [Gy fun e=>h.1 (by subst e;exact Gl m hx)]
  by_cases hu:u=0
  ·subst hu;have e:bI ((k,(0:Int))::m)=bI m:=by simp [bI]
   rw [e,hskip,ih];simp [mn]
  ·have e:bI ((k,u)::m)=k::bI m:=by simp [bI,hu]
   rw [e,List.map_cons,hskip];simp only [bA,ih,mn];simp [bE]
theorem F9 {n:Int} {m:List (aJ×Int)} {B:Int} {K:Nat} (hs:Sm B K m) (f:aJ→Int) (h:(pr n m (kz (bI m))).2=0):aA (pr n m (kz (bI m))).1=true∧ga f (pr n m (kz (bI m))).1=n+mn f m:=by
 unfold pr at h ⊢;cases hv:aA (Linear.mk n ((kz (bI m)).map fun k=>au.mk k (bE 0 k m))) with
 | false=>rw [hv] at h;simp at h
 | true =>
  simp only [cond_true,ga];refine ⟨hv,?_⟩;rw [vg f ((ic (bI m)).map _),vc f m hs.nd]
def yL (bs:List Bind) (t:au) (s:Int×List (aJ×Int)):eR (Int×List (aJ×Int)) (Int×List (aJ×Int)) (Linear×Int) :=
 bif decide (idxOf (lV 1 t.Var) bs<0) then .go (s.1,bW t.Var (aK (bE 0 t.Var s.2+t.C)) s.2) else
 bif aA (bs.getD (idxOf (lV 1 t.Var) bs).toNat tU).Dim then .go (Ed (bs.getD (idxOf (lV 1 t.Var) bs).toNat tU).Dim t.C s.1 s.2) else .ret ((Linear.mk 0 []),1)
def sv (bs:List Bind) (f:aJ→Int) (v:aJ):Int:=bif decide (idxOf (lV 1 v) bs<0) then f v else ga f (bs.getD (idxOf (lV 1 v) bs).toNat tU).Dim
theorem Gj (bs:List Bind) (v:aJ) (c:Int):cF bs v c=some (idxOf (lV 1 v) bs):=by
 unfold cF;rw [tY (f:=fun j=>((j:Nat):Int)) (fun j=>lV 1 v (bs.getD j tU)) _ _ () (fun j u _ _=>by
  unfold ko lV;simp only;cases (bs.getD j tU).Kind==1
  ·rfl
  ·cases (bs.getD j tU).Var==v<;>rfl)]
 exact Im bs (lV 1 v) _ (sC (lV 1 v) tU bs)
def Db (o:Out (Int×List (aJ×Int)) (Linear×Int)):Linear×Int:=match o with | .brk u=>pr u.1 u.2 (kz (bI u.2)) | .ret r=>r
def uB (bs:List Bind) (l:Linear):Linear×Int:=bif aA l then Db (cL (yL bs) (fun s=>s) l.Terms (l.Const,[])) else ((Linear.mk 0 []),1)
def St (j:Nat) (c:Int) (s:Int×List (aJ×Int)):Prop:=Sm ((j:Int)*12000000000000) (12*j) s.2 ∧ -(1000000+(j:Int)*1000000000000)≤s.1∧s.1≤1000000+(j:Int)*1000000000000
theorem Cg (bs:List Bind) (f:aJ→Int) (t:au) (c:Int) (j:Nat) (hj:j<12) (ht:(-1000000≤t.C∧t.C≤1000000)∧db t.Var=true) (s s':Int×List (aJ×Int)) (hs:St j c s) (h:yL bs t s = .go s') :
 St (j+1) c s'∧s'.1+mn f s'.2=s.1+mn f s.2+t.C*sv bs f t.Var:=by
 have hn:=je ht.2;have ej:((j+1:Nat):Int)*12000000000000=(j:Int)*12000000000000+12000000000000:=by omega
 obtain ⟨h1,h2,h3⟩:=hs;unfold yL at h;by_cases h0:idxOf (lV 1 t.Var) bs<0
 ·rw [ML h0,cond_true] at h;have e:s'=(s.1,bW t.Var (aK (bE 0 t.Var s.2+t.C)) s.2):=by injection h with h;exact h.symm
  obtain ⟨m1,m2⟩:=h1.bd t.Var;have hw:aK (bE 0 t.Var s.2+t.C)=bE 0 t.Var s.2+t.C:=gI (by unfold tE;omega);rw [hw] at e;subst e;refine ⟨⟨(h1.put (v:=bE 0 t.Var s.2+t.C) (B':=((j+1:Nat):Int)*12000000000000) (by omega) (by omega) (by omega) (by omega)).mono (Int.le_refl _) (by omega),by simp only;omega,by simp only;omega⟩,?_⟩;simp only;rw [yn,show bE 0 t.Var s.2+t.C-bE 0 t.Var s.2=t.C by omega];simp only [sv,ML h0,cond_true];omega
 ·rw [MK h0,cond_false] at h;generalize hD:(bs.getD (idxOf (lV 1 t.Var) bs).toNat tU).Dim=D at h;cases hv:aA D with
  | false=>rw [hv,cond_false] at h;cases h
  | true =>
   rw [hv,cond_true] at h;have e:s'=Ed D t.C s.1 s.2:=by injection h with h;exact h.symm
   subst e;obtain ⟨k1,k2⟩:=j6 hv;have hl:=bc hv;obtain ⟨b1,b2⟩:=prod_bound ht.1.1 ht.1.2 k1 k2;obtain ⟨g1,g2⟩:=Cw f t.C ht.1 D.Terms s.2 ((j:Int)*12000000000000) (12*j) (fun x hx=>⟨(bD hv x hx).1,by have:=je (bD hv x hx).2;omega⟩) h1 (by omega) (by omega);have hw:aK (s.1+aK (t.C*D.Const))=s.1+t.C*D.Const:=by rw [gI (n:=t.C*D.Const) (by unfold tE;omega),gI (by unfold tE;omega)]
   refine ⟨⟨g1.mono (by omega) (by omega),?_,?_⟩,?_⟩
   ·simp only [Ed,hw];omega
   ·simp only [Ed,hw];omega
   ·simp only [Ed,hw,g2,sv,MK h0,cond_false,hD,ga];rw [Int.mul_add];omega
theorem AA (bs:List Bind) (f:aJ→Int) (c:Int) (ts:List au):∀ (j:Nat) (s:Int×List (aJ×Int)),j+ts.length≤12→(∀ t∈ts,(-1000000≤t.C∧t.C≤1000000)∧db t.Var=true)→St j c s →
 (∃ u,cL (yL bs) (fun s=>s) ts s = .brk u∧St (j+ts.length) c u∧u.1+mn f u.2=s.1+mn f s.2+bA (sv bs f) ts)∨cL (yL bs) (fun s=>s) ts s = .ret ((Linear.mk 0 []),1):=by
 induction ts with
 | nil=>exact fun j s _ _ hs=>.inl ⟨s,rfl,hs,by simp [bA]⟩
 | cons t ts ih =>
  intro j s hj hC hs;have hj':j+1+ts.length≤12:=by simp at hj;omega
  have hret:∀ r,yL bs t s = .ret r→r=((Linear.mk 0 []),1):=by intro r hg;unfold yL at hg;cases h1:decide (idxOf (lV 1 t.Var) bs<0)<;>cases h2:aA (bs.getD (idxOf (lV 1 t.Var) bs).toNat tU).Dim<;>rw [h1,h2] at hg<;>first | (injection hg with hg;exact hg.symm) | cases hg
  have hbrk:∀ e,yL bs t s ≠ .brk e:=by intro e hg;unfold yL at hg;cases h1:decide (idxOf (lV 1 t.Var) bs<0)<;>cases h2:aA (bs.getD (idxOf (lV 1 t.Var) bs).toNat tU).Dim<;>rw [h1,h2] at hg<;>cases hg
  have hgo:=fun s'=>Cg bs f t c j (by simp at hj;omega) (hC t (by simp)) s s';simp only [cL];generalize yL bs t s=R at hret hbrk hgo;cases R with
  | go s' =>
   obtain ⟨h1,h2⟩:=hgo s' hs rfl;rcases ih (j+1) s' hj' (fun x hx=>hC x (by simp [hx])) h1 with ⟨u,e1,e2,e3⟩ | e
   ·refine .inl ⟨u,e1,?_,?_⟩
    ·rw [show j+(t::ts).length=j+1+ts.length by simp;omega];exact e2
    ·rw [e3,h2];simp only [bA];omega
   ·exact .inr e
  | brk e=>exact absurd rfl (hbrk e)
  | ret r=>exact .inr (by rw [hret r rfl])
theorem Mc (l:Linear) (h:aA l=true):St 0 l.Const (l.Const,[]):=by obtain ⟨k1,k2⟩:=j6 h;exact ⟨Sm.nil,by simp only;omega,by simp only;omega⟩
theorem qM (l:Linear) (bs:List Bind) (h:I6 l) (hb:∀ b∈bs,okB b):iF l bs=some (uB bs l):=by
 unfold iF uB;rw [fa l h.1 h.2];simp only [Option.bind_some];cases hv:aA l with
 | false=>rfl
 | true =>
  simp only [cond_true];rw [de (fin:=fun _ s=>(s.1,s.2)) (f:=fun s=>s) ⟨[],0⟩ l.Terms (yL bs) (fun _ _=>True) (fun _ _=>rfl) (l.Const,[]) trivial (fun j s hj _=>⟨by
   rw [Gj];simp only [Option.bind_some,yL];generalize ht:l.Terms.getD j ⟨[],0⟩=t;by_cases h0:idxOf (lV 1 t.Var) bs<0
   ·rw [ML h0];rfl
   ·rw [MK h0];simp only [cond_false];rw [aD ⟨by omega,CK _ tU _⟩];have hk:=GG hb (idxOf (lV 1 t.Var) bs).toNat;rw [lJ,fa _ hk.2.1.1 hk.2.1.2];simp only [Option.bind_some];cases aA (bs.getD (idxOf (lV 1 t.Var) bs).toNat tU).Dim with
    | false=>rfl
    | true=>simp only [cond_true];rw [ud];rfl,fun _ _=>trivial⟩)]
  rcases AA bs (fun _=>0) l.Const l.Terms 0 (l.Const,[]) (by have:=bc hv;omega) (bD hv) (Mc l hv) with ⟨u,e1,e2,_⟩ | e
  ·rw [e1];simp only [Option.bind_some,Sh.aft,Db];rw [zc u.1 u.2 (Jg e2.1 (by have:=bc hv;omega))];rfl
  ·rw [e];rfl
theorem KO {bs:List Bind} {l:Linear} (h:(uB bs l).2=0) (f:aJ→Int):aA l=true∧aA (uB bs l).1=true∧ga f (uB bs l).1=ga (sv bs f) l:=by
 cases hv:aA l with
 | false=>unfold uB at h;rw [hv] at h;simp at h
 | true =>
  unfold uB at h ⊢;rw [hv,cond_true] at h ⊢;rcases AA bs f l.Const l.Terms 0 (l.Const,[]) (by have:=bc hv;omega) (bD hv) (Mc l hv) with ⟨u,e1,e2,e3⟩ | e
  ·rw [e1] at h ⊢;simp only [Db] at h ⊢;obtain ⟨g1,g2⟩:=F9 e2.1 f h;refine ⟨by simp,g1,?_⟩;rw [g2,e3];simp only [mn,ga];omega
  ·rw [e] at h;simp [Db] at h
end Go.Proofs.YtlhcekghjfjajaaGreatDoor
namespace Go.Sh
def dec (n:Nat):aJ:=Lib.decDigits n
theorem pF {n:Nat} (h:n<10):dec n=[UInt8.ofNat (48+n)]:=by unfold dec;rw [Lib.decDigits,dif_pos h]
theorem Ao {n:Nat} (h:¬ n<10):dec n=dec (n / 10)++[UInt8.ofNat (48+n % 10)]:=by unfold dec;rw [Lib.decDigits,dif_neg h]
theorem Er (n:Nat) (h:n<1000000000000):(dec n).length≤21:=by have:=Lib.itoa_length_le (n:Int) (by omega) (by omega);rw [Lib.itoa_nonneg] at this;exact this
theorem Kx (n:Nat):dec n≠[]:=(tL n).2.2
theorem CS {α σ ε ρ:Type} (g:σ→α→σ):∀ (l:List α) (s:σ),cL (ε:=σ) (ρ:=ρ) (fun x s=>eR.go (g s x)) (fun s=>s) l s = .brk (l.foldl g s)
 | [],s=>rfl
 | x::l,s=>by simp only [cL];rw [CS (ε:=ε) g l];rfl
end Go.Sh
namespace Go.Proofs.YtlhcekghjfjajaaGreatDoor
open Go.Ab Go.Sh
theorem Hp (u:Nat) (h:u<10):(([48,49,50,51,52,53,54,55,56,57].drop u).take (u+1-u):aJ)=[UInt8.ofNat (48+u)]:=by
 match u,h with
 | 0,_=>rfl
 | 1,_=>rfl
 | 2,_=>rfl
 | 3,_=>rfl
 | 4,_=>rfl
 | 5,_=>rfl
 | 6,_=>rfl
 | 7,_=>rfl
 | 8,_=>rfl
 | 9,_=>rfl
theorem mU:∀ (f u:Nat),u<10 ^ (f+1)→u<1000000000000→fC (f+1) (u:Int)=some (dec u)
 | f,u,h,hu=>by
  show kr (fC f) (u:Int)=_;unfold kr;rw [MK (by omega),cond_false];by_cases h10:u<10
  ·rw [ML (by omega),cond_true,gI (by unfold tE;omega),pF h10];rw [aD (by refine ⟨by omega,by omega,?_⟩;simp;omega)];have e1:((u:Int)).toNat=u:=by omega
   have e2:((u:Int)+1).toNat=u+1:=by omega
   rw [e1,e2,Hp u h10]
  ·rw [MK (by omega),cond_false];have e1:(u:Int).tdiv 10=((u / 10:Nat):Int):=by rw [Int.tdiv_eq_ediv_of_nonneg (by omega)];omega
   have e2:(u:Int).tmod 10=((u % 10:Nat):Int):=by rw [Int.tmod_eq_emod_of_nonneg (by omega)];omega
   rw [e1,e2,gI (by unfold tE;omega)];obtain ⟨f',rfl⟩:∃ f',f=f'+1:=by
    cases f with
    | zero=>simp at h;omega
    | succ f'=>exact ⟨f',rfl⟩
   have hp:10 ^ (f'+1+1)=10*10 ^ (f'+1):=by rw [Nat.pow_succ];omega
   rw [mU f' (u / 10) (by rw [hp] at h;omega) (by omega)];rw [mU f' (u % 10) (by
    have:10 ^ 1≤10 ^ (f'+1):=Nat.pow_le_pow_right (by decide) (by omega);omega) (by omega)]
   simp only [Option.bind_some];have l1:=Er (u / 10) (by omega);have l2:=Er (u % 10) (by omega);rw [aD (by omega),Ao h10,pF (Nat.mod_lt _ (by decide))]
theorem G7 (n:Int):Lib.itoa n=(bif decide (n<0) then 45::dec n.natAbs else dec n.natAbs):=by
 unfold Lib.itoa;by_cases h:n<0
 ·rw [if_pos h,ML h];rfl
 ·rw [if_neg h,MK h];show Lib.decDigits n.toNat=Lib.decDigits n.natAbs;congr 1;omega
theorem ba {α:Type} (d:α) {l:List α} {j:Nat} (h:j<l.length):l.getD j d∈l:=by rw [ME,MF h];exact List.getElem_mem h
end Go.Proofs.YtlhcekghjfjajaaGreatDoor
namespace Go.Sh
structure Gm (K:Nat) (m:List (aJ×Int)):Prop where
 len:m.length≤K
 nd:(m.map (·.1)).Nodup
 key:∀ x∈m.map (·.1),x.length≤1000000
theorem Gm.nil:Gm 0 []:=⟨by simp,by simp,by simp⟩
theorem Gm.put {K:Nat} {m:List (aJ×Int)} (h:Gm K m) {x:aJ} (v:Int) (hx:x.length≤1000000):Gm (K+1) (bW x v m):=by
 refine ⟨?_,?_,fun y hy => ?_⟩
 ·have e:=congrArg List.length (kJ x v m);have:=h.len;split at e<;>simp at e<;>omega
 ·rw [kJ];split
  ·exact h.nd
  ·rename_i hn;rw [List.nodup_append];exact ⟨h.nd,by simp,fun a ha b hb=>by
    have:b=x:=by simpa using hb
    subst this;intro e;subst e;exact hn ha⟩
 ·rw [kJ] at hy;split at hy
  ·exact h.key y hy
  ·rcases List.mem_append.1 hy with hy | hy
   ·exact h.key y hy
   ·have:y=x:=by simpa using hy
    subst this;exact hx
theorem Gm.mono {K K':Nat} {m:List (aJ×Int)} (h:Gm K m) (h1:K≤K'):Gm K' m:=⟨by have:=h.len;omega,h.nd,h.key⟩
end Go.Sh
namespace Go.Proofs.YtlhcekghjfjajaaGreatDoor
open Go.Ab Go.Sh
end Go.Proofs.YtlhcekghjfjajaaGreatDoor
namespace Go.Sh
theorem fM:∀ x:aJ,Op.bytesLess x x=false
 | []=>rfl
 | a::x=>by simp [Op.bytesLess,fM x]
theorem fT:∀ x y z:aJ,Op.bytesLess x y=true→Op.bytesLess y z=true→Op.bytesLess x z=true
 | _,[],_,h,_=>by simp [Op.bytesLess] at h
 | _,_::_,[],_,h=>by simp [Op.bytesLess] at h
 | [],_::_,_::_,_,_=>rfl
 | a::x,b::y,c::z,h1,h2=>by
  simp only [Op.bytesLess,Bool.or_eq_true,MG,decide_eq_true_eq,beq_iff_eq] at h1 h2 ⊢;rcases h1 with h1 | ⟨rfl,h1⟩
  ·rcases h2 with h2 | ⟨rfl,h2⟩
   ·exact .inl (UInt8.lt_trans h1 h2)
   ·exact .inl h1
  ·rcases h2 with h2 | ⟨rfl,h2⟩
   ·exact .inl h2
   ·exact .inr ⟨rfl,fT x y z h1 h2⟩
theorem EG:∀ x y:aJ,x<y↔Op.bytesLess x y=true
 | x,[]=>by simp [Op.bytesLess]
 | [],b::y=>by simp [Op.bytesLess]
 | a::x,b::y=>by rw [List.cons_lt_cons_iff,EG x y];simp only [Op.bytesLess,Bool.or_eq_true,MG,decide_eq_true_eq,beq_iff_eq]
theorem J4 {x y:aJ} (h:Op.bytesLess x y=true):yE x y=true:=by simp only [yE,decide_eq_true_eq];show ¬ y<x;rw [EG];intro h2;have:=fT _ _ _ h h2;rw [fM] at this;cases this
theorem qD:∀ (k a:Nat),a<10 ^ (k+1)→(dec a).length≤k+1
 | k,a,h=>by
  by_cases h10:a<10
  ·rw [pF h10];simp
  ·cases k with
   | zero=>simp at h;omega
   | succ k =>
    rw [Ao h10];have hp:10 ^ (k+1+1)=10*10 ^ (k+1):=by rw [Nat.pow_succ];omega
    have:=qD k (a / 10) (by rw [hp] at h;omega);simp only [List.length_append,List.length_cons,List.length_nil];omega
theorem Hg (a:Nat):kh 0 (dec a)=a:=by
 induction a using Nat.strongRecOn with
 | _ a ih =>
  by_cases h:a<10
  ·rw [pF h];simp only [kh,List.foldl_cons,List.foldl_nil];rw [UInt8.toNat_ofNat_of_lt' (show _<256 by omega)];omega
  ·rw [Ao h,zh,ih (a / 10) (by omega),UInt8.toNat_ofNat_of_lt' (show _<256 by omega)];omega
end Go.Sh
namespace Go.Proofs.YtlhcekghjfjajaaGreatDoor
open Go.Ab Go.Sh
theorem xT {l:Linear} (h:aA l=true):(l.Terms.map (·.Var)).Pairwise (fun a b=>Op.bytesLess a b=true):=by
 have hadj:∀ j,0<j→(hj:j<l.Terms.length)→Op.bytesLess (l.Terms[j-1]'(by omega)).Var l.Terms[j].Var=true:=by
  intro j h0 hj;simp only [aA,MG,MS] at h;have:=h.1 j (by simpa using hj);have e:zg l j=l.Terms[j]:=by simp [zg,ME,MF hj]
  have e':zg l (j-1)=l.Terms[j-1]'(by omega):=by simp [zg,ME,MF (show j-1<l.Terms.length by omega)]
  simp only [kE,e,e',MG,Bool.or_eq_true,Bool.not_eq_true',decide_eq_false_iff_not] at this;rcases this.2.2.2 with h | h
  ·omega
  ·exact h
 have hall:∀ (n i:Nat) (hi:i+n+1<l.Terms.length),Op.bytesLess (l.Terms[i]'(by omega)).Var l.Terms[i+n+1].Var=true:=by
  intro n;induction n with
  | zero=>intro i hi;exact hadj (i+1) (by omega) hi
  | succ n ih =>
   intro i hi;exact fT _ _ _ (ih i (by omega)) (hadj (i+(n+1)+1) (by omega) hi)
 rw [List.pairwise_iff_getElem];intro i j hi hj hij;simp only [List.getElem_map];simp only [MM] at hi hj;have:=hall (j-i-1) i (by omega);have e:i+(j-i-1)+1=j:=by omega
 simp only [e] at this;exact this
theorem CW {l:Linear} (h:aA l=true):(l.Terms.map (·.Var)).Nodup:=(xT h).imp fun hab=>by intro e;rw [e,fM] at hab;cases hab
end Go.Proofs.YtlhcekghjfjajaaGreatDoor
namespace Go.Sh
def EH (x s:aJ):Prop:=∃ p,x=p++s
def pos (x s:aJ):Int:=((x.length-s.length:Nat):Int)
theorem EH.len {x s:aJ} (h:EH x s):s.length≤x.length:=by obtain ⟨p,rfl⟩:=h;simp
theorem EH.drop {x s:aJ} (h:EH x s):x.drop (x.length-s.length)=s:=by obtain ⟨p,rfl⟩:=h;simp
theorem EH.refl (x:aJ):EH x x:=⟨[],rfl⟩
theorem EH.trans {x s r:aJ} (h:EH x s) (h2:EH s r):EH x r:=by obtain ⟨p,rfl⟩:=h;obtain ⟨q,rfl⟩:=h2;exact ⟨p++q,by simp⟩
theorem EH.succ {x s:aJ} {c:UInt8} (h:EH x (c::s)):pos x (c::s)+1=pos x s:=by have:=h.len;unfold pos;simp at this ⊢;omega
theorem EH.lt {x s:aJ} {c:UInt8} (h:EH x (c::s)):0≤pos x (c::s)∧pos x (c::s)<(x.length:Int):=by have:=h.len;unfold pos;simp at this ⊢;omega
end Go.Sh
namespace Go.Proofs.YtlhcekghjfjajaaGreatDoor
open Go.Ab Go.Sh
def rR (v:aJ) (c:Int) (t:au) (s:Bool×List au):Bool×List au :=
 let ins := !s.1 && !(Op.bytesLess t.Var v||t.Var==v)
 let out:=bif ins then s.2++[au.mk v c] else s.2
 (bif t.Var==v then true else (s.1||ins),out++[au.mk t.Var (bif t.Var==v then aK (t.C+c) else t.C)])
def nz (t:au):Bool := !(t.C==0)
def rM (ts:List au) (v:aJ) (c:Int):List au :=
 let r:=ts.foldl (fun s t=>rR v c t s) (false,[])
 bif r.1 then r.2 else r.2++[au.mk v c]
def eT (ts:List au) (v:aJ) (c:Int):List au:=(rM ts v c).filter nz
theorem EI (v:aJ) (c:Int):∀ (ts:List au) (s:Bool×List au),s.1=true→(ts.foldl (fun s t=>rR v c t s) s).1=true
 | [],s,h=>h
 | t::ts,s,h=>by rw [List.foldl_cons];refine EI v c ts _ ?_;unfold rR;simp only [h];cases t.Var==v<;>rfl
theorem Ba (v:aJ) (c:Int):∀ (ts:List au) (s:Bool×List au),(ts.foldl (fun s t=>rR v c t s) s).2.length≤s.2.length+ts.length+(bif s.1 then 0 else (bif (ts.foldl (fun s t=>rR v c t s) s).1 then 1 else 0))
 | [],s=>by simp
 | t::ts,s=>by have ih:=Ba v c ts (rR v c t s);have hp:=EI v c ts (rR v c t s);rw [List.foldl_cons];generalize ts.foldl (fun s t=>rR v c t s) (rR v c t s)=r at ih hp ⊢;obtain ⟨s1,s2⟩:=s;unfold rR at ih hp;cases s1<;>cases h1:Op.bytesLess t.Var v<;>cases h2:t.Var==v<;>cases hr:r.1<;>simp [h1,h2,hr] at ih hp ⊢ <;> omega
theorem zr (ts:List au) (v:aJ) (c:Int):(rM ts v c).length≤ts.length+1:=by
 have:=Ba v c ts (false,[]);unfold rM;simp only at this ⊢;cases hr:(ts.foldl (fun s t=>rR v c t s) (false,[])).1 with
 | true=>rw [hr] at this;simp at this ⊢;omega
 | false=>rw [hr] at this;simp at this ⊢;omega
theorem p8 (ts:List au) (v:aJ) (c:Int):(eT ts v c).length≤ts.length+1:=Nat.le_trans (List.length_filter_le _ _) (zr ts v c)
def AU (s1:Int×Int×List au):Option (eR (Int×Int×List au) (Int×List au) Empty) :=
 bif decide (s1.2.1<((s1.2.2.length:Nat):Int)) then (
  bf (0≤s1.2.1∧s1.2.1<(s1.2.2.length:Int)) <|
  bf (s1.2.1.toNat<s1.2.2.length) <|
  ((
   bif (((s1.2.2.getD s1.2.1.toNat ⟨[],0⟩).C)==0) then (
    some (s1.1,s1.2.2)
   ) else (
    bf (0≤s1.1∧s1.1<(s1.2.2.length:Int)) <|
    bf (s1.1.toNat<s1.2.2.length) <|
    some ((aK (s1.1+1)),(s1.2.2.set s1.1.toNat (au.mk ((s1.2.2.getD s1.2.1.toNat ⟨[],0⟩).Var) ((s1.2.2.getD s1.2.1.toNat ⟨[],0⟩).C))))
   )
  ):Option (Int×(List au))).bind fun v4 =>
  some (.go (v4.1,(aK (s1.2.1+1)),v4.2))
 ) else (
  some (.brk (s1.1,s1.2.2))
 )
theorem vi (o:List au) (ho:o.length≤1000000):∀ (n i k:Nat) (l:List au) (N:Nat),i+n=o.length→n<N→l.length=o.length→k=((o.take i).filter nz).length→l.take k=(o.take i).filter nz→l.drop i=o.drop i→k≤i →
 ∃ l',gn AU N ((k:Int),(i:Int),l)=some (.brk (((o.filter nz).length:Int),l'))∧l'.take (o.filter nz).length=o.filter nz∧l'.length=o.length
 | 0,i,k,l,N,h1,h2,h3,h4,h5,h6,h7=>by
  obtain ⟨N',rfl⟩:∃ j,N=j+1:=⟨N-1,by omega⟩;have hi:i=o.length:=by omega
  rw [hi,List.take_length] at h4 h5;refine ⟨l,?_,by rw [← h4];exact h5,h3⟩;simp only [gn,AU];rw [MK (by omega),← h4];rfl
 | n+1,i,k,l,N,h1,h2,h3,h4,h5,h6,h7=>by
  obtain ⟨N',rfl⟩:∃ j,N=j+1:=⟨N-1,by omega⟩;have hio:i<o.length:=by omega
  have hil:i<l.length:=by omega
  have hget:l[i]=o[i]:=by
   have e1:=List.drop_eq_getElem_cons hil;have e2:=List.drop_eq_getElem_cons hio;rw [h6,e2] at e1;injection e1 with e1 _
   exact e1.symm
  have hD:l.getD i ⟨[],0⟩=o[i]:=by rw [ME,MF hil];exact hget
  have ht:o.take (i+1)=o.take i++[o[i]]:=by rw [List.take_add_one];simp [MF hio]
  have hdrop:l.drop (i+1)=o.drop (i+1):=by have:=congrArg (List.drop 1) h6;simpa [List.drop_drop,Nat.add_comm] using this
  simp only [gn];have hb:AU ((k:Int),(i:Int),l)=some (.go (bif nz o[i] then (((k+1:Nat):Int),((i+1:Nat):Int),l.set k o[i]) else ((k:Int),((i+1:Nat):Int),l))):=by
   unfold AU;simp only;rw [ML (by omega)];simp only [cond_true,Int.toNat_natCast];rw [aD ⟨by omega,by omega⟩,aD (by omega),hD,gI (n:=((i:Int)+1)) (by unfold tE;omega)];unfold nz;cases o[i].C==0 with
   | true=>rfl
   | false =>
    simp only [cond_false,Bool.not_false,cond_true];rw [aD ⟨by omega,by omega⟩,aD (by omega),gI (by unfold tE;omega)];rfl
  rw [hb];simp only [Option.bind_some,tN];cases hz:nz o[i] with
  | false =>
   simp only [cond_false];have hf:(o.take (i+1)).filter nz=(o.take i).filter nz:=by rw [ht,List.filter_append];simp [hz]
   exact vi o ho n (i+1) k l N' (by omega) (by omega) h3 (by rw [hf];exact h4) (by rw [hf];exact h5) hdrop (by omega)
  | true =>
   simp only [cond_true];have hf:(o.take (i+1)).filter nz=(o.take i).filter nz++[o[i]]:=by rw [ht,List.filter_append];simp [hz]
   refine vi o ho n (i+1) (k+1) (l.set k o[i]) N' (by omega) (by omega) (by simp [h3]) (by rw [hf];simp [h4]) ?_ ?_ (by omega)
   ·rw [hf,← h5];have hk:k<l.length:=by omega
    rw [List.take_add_one];simp [List.getElem?_set_self,hk,List.take_set_of_le]
   ·rw [List.drop_set_of_lt (by omega)];exact hdrop
theorem oz (l:Linear) (v:aJ) (c:Int) (h:l.Terms.length≤10000):bQ l v c=some (Linear.mk l.Const (eT l.Terms v c)):=by
 unfold bQ;rw [de (fin:=fun _ s=>(s.1,s.2)) (f:=fun s=>s) ⟨[],0⟩ l.Terms (fun t s=>eR.go (rR v c t s)) (fun j s=>s.2.length≤2*j) (fun _ _=>rfl) (false,[]) (by simp) (fun j s hj hI=>by
  generalize l.Terms.getD j ⟨[],0⟩=t;obtain ⟨s1,s2⟩:=s;simp only at hI;refine ⟨?_,fun s' e => ?_⟩
  ·unfold rR;simp only;cases s1 with
   | true =>
    simp only [cond_true,cond_false,Option.bind_some];cases t.Var==v with
    | true =>
     simp only [cond_true,Option.bind_some];rw [aD (by omega)];rfl
    | false =>
     simp only [cond_false,Option.bind_some];rw [aD (by omega)];rfl
   | false =>
    simp only [cond_false,Option.bind_some,Bool.not_false,Bool.true_and,Bool.false_or];cases (!(Op.bytesLess t.Var v||t.Var==v)) with
    | true =>
     simp only [cond_true];rw [aD (by omega)];simp only [Option.bind_some];cases t.Var==v with
     | true =>
      simp only [cond_true,Option.bind_some];rw [aD (by simp;omega)]
     | false =>
      simp only [cond_false,Option.bind_some];rw [aD (by simp;omega)]
    | false =>
     simp only [cond_false,Option.bind_some];cases t.Var==v with
     | true =>
      simp only [cond_true,Option.bind_some];rw [aD (by omega)]
     | false =>
      simp only [cond_false,Option.bind_some];rw [aD (by omega)]
  ·injection e with e
   subst e;unfold rR;simp only;cases (!s1 && !(Op.bytesLess t.Var v||t.Var==v))<;>simp<;>omega)]
 rw [CS (α:=au) (ε:=Bool×List au) (fun s t=>rR v c t s)];simp only [Option.bind_some,ca];have hl:=zr l.Terms v c;have hl2:=Ba v c l.Terms (false,[]);have hpl:((bif (l.Terms.foldl (fun s t=>rR v c t s) (false,[])).1 then some (l.Terms.foldl (fun s t=>rR v c t s) (false,[])).2 else bf (((l.Terms.foldl (fun s t=>rR v c t s) (false,[])).2.length+1)*24≤140737488355328) <| some ((l.Terms.foldl (fun s t=>rR v c t s) (false,[])).2++[au.mk v c])):Option (List au))=some (rM l.Terms v c):=by
  unfold rM;simp only;cases hr:(l.Terms.foldl (fun s t=>rR v c t s) (false,[])).1 with
  | true=>rfl
  | false =>
   rw [hr] at hl2;simp at hl2;simp only [cond_false];rw [aD (by omega)]
 refine (congrArg (fun o=>Option.bind o _) hpl).trans ?_;simp only [Option.bind_some];obtain ⟨l',e1,e2,e3⟩:=vi (rM l.Terms v c) (by omega) (rM l.Terms v c).length 0 0 (rM l.Terms v c) 4294967296 (by omega) (by omega) rfl (by simp) (by simp) rfl (by omega);have hfl:=List.length_filter_le nz (rM l.Terms v c);refine (congrArg (fun o:Option (Out (Int×List au) Empty)=>Option.bind o _) e1).trans ?_;simp only [Option.bind_some,ca];rw [aD ⟨by omega,by omega⟩,Int.toNat_natCast,e2];rfl
def Am (l:Linear):Linear×Int:=bif aA l then (l,0) else (Linear.mk 0 [],3)
theorem D8 (l:Linear):jd l=some (Am l):=by unfold jd Am;rw [dA];simp only [Option.bind_some];cases aA l<;>rfl
theorem Ci:∀ (d:aJ) (n:Nat),d.all cq=true→(n+1)*10 ^ d.length≤10 ^ 18→d.foldl (fun n b=>aK (aK (10*n)+((b-48).toNat:Int))) (n:Int)=((kh n d:Nat):Int)
 | [],n,_,_=>rfl
 | c::d,n,h,hb=>by
  simp only [List.all_cons,MG] at h;have hc:=h.1;simp only [cq,MG,decide_eq_true_eq] at hc;have hp:1≤10 ^ d.length:=Nat.one_le_pow _ _ (by decide);rw [List.length_cons,Nat.pow_succ,Nat.mul_comm (10 ^ d.length) 10,← Nat.mul_assoc] at hb;have hb1:(n+1)*10≤10 ^ 18:=Nat.le_trans (Nat.le_mul_of_pos_right _ hp) hb;have hsub:(c-48).toNat=c.toNat-48:=UInt8.toNat_sub_of_le c 48 (by rw [UInt8.le_iff_toNat_le];exact hc.1);rw [List.foldl_cons];have e:aK (aK (10*(n:Int))+((c-48).toNat:Int))=((n*10+(c.toNat-48):Nat):Int):=by rw [gI (n:=10*(n:Int)) (by unfold tE;omega),gI (by unfold tE;omega),hsub];omega
  rw [e,Ci d (n*10+(c.toNat-48)) h.2 (Nat.le_trans (Nat.mul_le_mul_right _ (by omega)) hb)];rfl
theorem D9 (ts:List au) (v:aJ) (c:Int) (hc:c≠0) (h:∀ t∈ts,Op.bytesLess t.Var v=true∧t.C≠0):eT ts v c=ts++[au.mk v c]:=by
 have gen:∀ (ts o:List au),(∀ t∈ts,Op.bytesLess t.Var v=true∧t.C≠0)→ts.foldl (fun s t=>rR v c t s) (false,o)=(false,o++ts):=by
  intro ts;induction ts with
  | nil=>intro o _;simp
  | cons t ts ih =>
   intro o h;obtain ⟨h1,_⟩:=h t (by simp);have hne:(t.Var==v)=false:=by rw [beq_eq_false_iff_ne];intro e;rw [e,fM] at h1;cases h1
   have e:rR v c t (false,o)=(false,o++[t]):=by unfold rR;simp only [h1,hne,Bool.true_or,Bool.not_true,Bool.and_false,cond_false,Bool.or_self]
   rw [List.foldl_cons,e,ih _ fun x hx=>h x (by simp [hx])];simp
 have hg:=gen ts [] h;unfold eT rM;simp only;rw [hg];simp only [cond_false,List.nil_append];rw [List.filter_eq_self];intro t ht;rcases List.mem_append.1 ht with ht | ht
 ·simp [nz,(h t ht).2]
 ·have:t=au.mk v c:=by simpa using ht
  subst this;simp [nz,hc]
def Ap (ts:List au):Prop:=ts.Pairwise (fun a b=>Op.bytesLess a.Var b.Var=true)
def Nz (ts:List au):Prop:=∀ t∈ts,t.C≠0
def ind (v:aJ) (x:aJ):Int:=if x=v then 1 else 0
theorem ng (v:aJ):∀ ts:List au,(∀ t∈ts,t.Var≠v)→bA (ind v) ts=0
 | [],_=>rfl
 | t::ts,h=>by simp only [bA,ind,if_neg (h t (by simp)),Int.mul_zero,Int.zero_add];exact ng v ts fun x hx=>h x (by simp [hx])
theorem sX {x y:aJ} (h:Op.bytesLess x y=true):x≠y:=fun e=>by rw [e,fM] at h;cases h
theorem qI (x y:aJ):Op.bytesLess x y=true∨x=y∨Op.bytesLess y x=true:=by
 rcases Bool.eq_false_or_eq_true (Op.bytesLess x y) with h | h
 ·exact .inl h
 ·rcases Bool.eq_false_or_eq_true (Op.bytesLess y x) with h' | h'
  ·exact .inr (.inr h')
  ·refine .inr (.inl ?_);have h1:¬ x<y:=fun e=>by rw [EG,h] at e;cases e
   have h2:¬ y<x:=fun e=>by rw [EG,h'] at e;cases e
   exact List.le_antisymm (List.not_lt.1 h2) (List.not_lt.1 h1)
theorem pU:∀ a b:List au,Ap a→Nz a→Ap b→Nz b→(∀ f,bA f a=bA f b)→a=b
 | [],[],_,_,_,_,_=>rfl
 | [],t::ts,_,_,h1,h2,h=>by
  have:=h (ind t.Var);simp only [bA] at this;rw [ng t.Var ts fun x hx=>Ne.symm (sX ((List.pairwise_cons.1 h1).1 x hx))] at this;simp only [ind,if_pos,Int.mul_one,Int.add_zero] at this;exact absurd this.symm (h2 t (by simp))
 | t::ts,[],h1,h2,_,_,h=>by
  have:=h (ind t.Var);simp only [bA] at this;rw [ng t.Var ts fun x hx=>Ne.symm (sX ((List.pairwise_cons.1 h1).1 x hx))] at this;simp only [ind,if_pos,Int.mul_one,Int.add_zero] at this;exact absurd this (h2 t (by simp))
 | t::ts,u::us,h1,h2,h3,h4,h=>by
  have ht:=List.pairwise_cons.1 h1;have hu:=List.pairwise_cons.1 h3;have et:bA (ind t.Var) ts=0:=ng t.Var ts fun x hx=>Ne.symm (sX (ht.1 x hx));have eu:bA (ind u.Var) us=0:=ng u.Var us fun x hx=>Ne.symm (sX (hu.1 x hx));have i1:=h (ind t.Var);have i2:=h (ind u.Var);simp only [bA] at i1 i2;rcases qI t.Var u.Var with hl | he | hl
  ·have z:bA (ind t.Var) us=0:=ng t.Var us fun x hx=>Ne.symm (sX (fT _ _ _ hl (hu.1 x hx)));rw [et,z] at i1;simp only [ind,if_pos,if_neg (Ne.symm (sX hl)),Int.mul_one,Int.mul_zero,Int.add_zero] at i1;exact absurd i1 (h2 t (by simp))
  ·rw [et,he,eu] at i1;simp only [ind,if_pos,Int.mul_one,Int.add_zero] at i1;have e:t=u:=by obtain ⟨tv,tc⟩:=t;obtain ⟨uv,uc⟩:=u;simp only at he i1;rw [he,i1]
   subst e;rw [pU ts us ht.2 (fun x hx=>h2 x (by simp [hx])) hu.2 (fun x hx=>h4 x (by simp [hx])) fun f=>by have:=h f;simp only [bA] at this;omega]
  ·have z:bA (ind u.Var) ts=0:=ng u.Var ts fun x hx=>Ne.symm (sX (fT _ _ _ hl (ht.1 x hx)));rw [eu,z] at i2;simp only [ind,if_pos,if_neg (Ne.symm (sX hl)),Int.mul_one,Int.mul_zero,Int.add_zero] at i2;exact absurd i2.symm (h4 u (by simp))
def p7 (v:aJ) (c:Int):List au→List au
 | []=>[au.mk v c]
 | t::ts=>if t.Var=v then au.mk v (t.C+c)::ts else bif Op.bytesLess t.Var v then t::p7 v c ts else au.mk v c::t::ts
theorem xx (v:aJ) (c:Int):∀ (ts o:List au),(∀ t∈ts,t.Var≠v)→ts.foldl (fun s t=>rR v c t s) (true,o)=(true,o++ts)
 | [],o,_=>by simp
 | t::ts,o,h=>by
  have e:rR v c t (true,o)=(true,o++[t]):=by unfold rR;simp only [beq_eq_false_iff_ne.2 (h t (by simp)),Bool.not_true,Bool.false_and,cond_false,Bool.or_false]
  rw [List.foldl_cons,e,xx v c ts _ fun x hx=>h x (by simp [hx])];simp
theorem Fp (v:aJ) (c:Int):∀ (ts o:List au),Ap ts→(∀ t∈ts,aK (t.C+c)=t.C+c) →
 (bif (ts.foldl (fun s t=>rR v c t s) (false,o)).1 then (ts.foldl (fun s t=>rR v c t s) (false,o)).2 else (ts.foldl (fun s t=>rR v c t s) (false,o)).2++[au.mk v c])=o++p7 v c ts
 | [],o,_,_=>by simp [p7]
 | t::ts,o,hs,hw=>by
  have ht:=List.pairwise_cons.1 hs;rw [List.foldl_cons];by_cases hv:t.Var=v
  ·have e:rR v c t (false,o)=(true,o++[au.mk v (t.C+c)]):=by unfold rR;simp only [hv,beq_self_eq_true,Bool.or_true,Bool.not_true,Bool.and_false,cond_false,cond_true,hw t (by simp)]
   rw [e,xx v c ts _ fun x hx=>Ne.symm (sX (hv ▸ ht.1 x hx))];simp [p7,hv]
  ·cases hl:Op.bytesLess t.Var v with
   | true =>
    have e:rR v c t (false,o)=(false,o++[t]):=by unfold rR;simp only [beq_eq_false_iff_ne.2 hv,hl,Bool.true_or,Bool.not_true,Bool.and_false,cond_false,Bool.or_self]
    rw [e,Fp v c ts _ ht.2 fun x hx=>hw x (by simp [hx])];simp [p7,hv,hl]
   | false =>
    have hvl:Op.bytesLess v t.Var=true:=by
     rcases qI t.Var v with h | h | h
     ·rw [h] at hl;cases hl
     ·exact absurd h hv
     ·exact h
    have e:rR v c t (false,o)=(true,o++[au.mk v c]++[t]):=by unfold rR;simp only [beq_eq_false_iff_ne.2 hv,hl,Bool.or_self,Bool.not_false,Bool.and_self,cond_false,cond_true,Bool.or_true]
    rw [e,xx v c ts _ fun x hx=>Ne.symm (sX (fT _ _ _ hvl (ht.1 x hx)))];simp [p7,hv,hl]
theorem zG {ts:List au} (v:aJ) (c:Int) (hs:Ap ts) (hw:∀ t∈ts,aK (t.C+c)=t.C+c):eT ts v c=(p7 v c ts).filter nz:=by have:=Fp v c ts [] hs hw;unfold eT rM;simp only;rw [this];simp
theorem B4 (f:aJ→Int) (v:aJ) (c:Int):∀ ts:List au,bA f (p7 v c ts)=bA f ts+c*f v
 | []=>by simp [p7,bA]
 | t::ts=>by
  unfold p7;by_cases hv:t.Var=v
  ·rw [if_pos hv];simp only [bA,hv];rw [Int.add_mul];omega
  ·rw [if_neg hv];cases Op.bytesLess t.Var v
   ·simp only [cond_false,bA];omega
   ·simp only [cond_true,bA,B4 f v c ts];omega
theorem uD (v:aJ) (c:Int):∀ (ts:List au) (x:au),x∈p7 v c ts→x∈ts∨(x.Var=v∧(x.C=c∨∃ t∈ts,x.C=t.C+c))
 | [],x,h=>by
  have:x=au.mk v c:=by simpa [p7] using h
  subst this;exact .inr ⟨rfl,.inl rfl⟩
 | t::ts,x,h=>by
  unfold p7 at h;by_cases hv:t.Var=v
  ·rw [if_pos hv] at h;rcases List.mem_cons.1 h with rfl | h
   ·exact .inr ⟨rfl,.inr ⟨t,by simp,rfl⟩⟩
   ·exact .inl (by simp [h])
  ·rw [if_neg hv] at h;cases hl:Op.bytesLess t.Var v with
   | true =>
    rw [hl,cond_true] at h;rcases List.mem_cons.1 h with rfl | h
    ·exact .inl (by simp)
    ·rcases uD v c ts x h with h | ⟨h1,h2⟩
     ·exact .inl (by simp [h])
     ·refine .inr ⟨h1,h2.imp id ?_⟩;rintro ⟨y,hy,e⟩;exact ⟨y,by simp [hy],e⟩
   | false =>
    rw [hl,cond_false] at h;rcases List.mem_cons.1 h with rfl | h
    ·exact .inr ⟨rfl,.inl rfl⟩
    ·exact .inl h
theorem C8 (v:aJ) (c:Int):∀ ts:List au,(p7 v c ts).length≤ts.length+1
 | []=>by simp [p7]
 | t::ts=>by
  have:=C8 v c ts;unfold p7;by_cases hv:t.Var=v
  ·rw [if_pos hv];simp
  ·rw [if_neg hv];cases Op.bytesLess t.Var v
   ·simp
   ·simp only [cond_true,List.length_cons];omega
theorem Cj (v:aJ) (c:Int):∀ ts:List au,Ap ts→Ap (p7 v c ts)
 | [],_=>by simp [p7,Ap]
 | t::ts,hs=>by
  have ht:=List.pairwise_cons.1 hs;unfold p7;by_cases hv:t.Var=v
  ·rw [if_pos hv];exact List.pairwise_cons.2 ⟨fun x hx=>by have:=ht.1 x hx;rw [hv] at this;exact this,ht.2⟩
  ·rw [if_neg hv];cases hl:Op.bytesLess t.Var v with
   | true =>
    rw [cond_true];refine List.pairwise_cons.2 ⟨fun x hx => ?_,Cj v c ts ht.2⟩;rcases uD v c ts x hx with h | ⟨h,_⟩
    ·exact ht.1 x h
    ·rw [h];exact hl
   | false =>
    have hvl:Op.bytesLess v t.Var=true:=by
     rcases qI t.Var v with h | h | h
     ·rw [h] at hl;cases hl
     ·exact absurd h hv
     ·exact h
    rw [cond_false];refine List.pairwise_cons.2 ⟨fun x hx => ?_,hs⟩;rcases List.mem_cons.1 hx with rfl | hx
    ·exact hvl
    ·exact fT _ _ _ hvl (ht.1 x hx)
theorem Dg (f:aJ→Int):∀ ts:List au,bA f (ts.filter nz)=bA f ts
 | []=>rfl
 | t::ts=>by
  rw [List.filter_cons];cases h:nz t with
  | true=>simp only [if_pos,bA,Dg f ts]
  | false =>
   have h0:t.C=0:=by simpa [nz] using h
   simp only [Bool.false_eq_true,if_false,bA,Dg f ts,h0];omega
structure RB (B:Int) (K:Nat) (ts:List au):Prop where
 srt:Ap ts
 nz:Nz ts
 bd:∀ t∈ts,-B≤t.C∧t.C≤B
 len:ts.length≤K
theorem RB.nil:RB 0 0 []:=⟨List.Pairwise.nil,(fun t h=>by simp at h),(fun t h=>by simp at h),Nat.le_refl _⟩
theorem RB.mono {B B':Int} {K K':Nat} {ts:List au} (h:RB B K ts) (h1:B≤B') (h2:K≤K'):RB B' K' ts :=
 ⟨h.srt,h.nz,fun t ht=>by have:=h.bd t ht;omega,Nat.le_trans h.len h2⟩
theorem RB.plus {B:Int} {K:Nat} {ts:List au} (h:RB B K ts) (v:aJ) {c A:Int} (hB:0≤B) (h1 : -A≤c) (h2:c≤A) (hle:B+A≤9000000000000000000) :
 RB (B+A) (K+1) (eT ts v c)∧∀ f,bA f (eT ts v c)=bA f ts+c*f v:=by
 have hw:∀ t∈ts,aK (t.C+c)=t.C+c:=fun t ht=>by have:=h.bd t ht;exact gI (by unfold tE;omega)
 rw [zG v c h.srt hw];refine ⟨⟨(Cj v c ts h.srt).filter _,fun t ht => ?_,fun t ht => ?_,?_⟩,fun f => ?_⟩
 ·have:=(List.mem_filter.1 ht).2;simpa [YtlhcekghjfjajaaGreatDoor.nz] using this
 ·rcases uD v c ts t (List.mem_filter.1 ht).1 with h3 | ⟨_,h3 | ⟨u,hu,h3⟩⟩
  ·have:=h.bd t h3;omega
  ·omega
  ·have:=h.bd u hu;omega
 ·have:=List.length_filter_le Go.Proofs.YtlhcekghjfjajaaGreatDoor.nz (p7 v c ts);have:=C8 v c ts;have:=h.len;omega
 ·rw [Dg,B4]
theorem GO {m:List (aJ×Int)}:(m.map (·.1)).Nodup→∀ {e:aJ×Int},e∈m→bE 0 e.1 m=e.2:=by
 induction m with
 | nil=>intro _ e h;cases h
 | cons p m ih =>
  obtain ⟨k,u⟩:=p;intro h e he;rw [List.map_cons,List.nodup_cons] at h;rcases List.mem_cons.1 he with rfl | he
  ·simp [bE]
  ·have hne:k≠e.1:=fun e2=>h.1 (by rw [e2];exact List.mem_map.2 ⟨e,he,rfl⟩);simp only [bE,if_neg hne];exact ih h.2 he
def AY (m:List (aJ×Int)):List au:=(kz (bI m)).map fun k=>au.mk k (bE 0 k m)
theorem C6 {m:List (aJ×Int)} (h:(m.map (·.1)).Nodup):(bI m).Nodup:=List.Nodup.sublist (List.Sublist.map _ List.filter_sublist) h
theorem JG {m:List (aJ×Int)} (h:(m.map (·.1)).Nodup):Ap (AY m)∧Nz (AY m)∧∀ f,bA f (AY m)=mn f m:=by
 refine ⟨?_,fun t ht => ?_,fun f => ?_⟩
 ·have h1:=qB (bI m);have h2:(kz (bI m)).Nodup:=(ic (bI m)).nodup_iff.2 (C6 h);unfold Ap AY;rw [List.pairwise_map];refine (h1.and h2).imp fun {a b} hab => ?_;rcases qI a b with hl | he | hl
  ·exact hl
  ·exact absurd he hab.2
  ·exact absurd (yp _ _ hab.1 (J4 hl)) hab.2
 ·unfold AY at ht;obtain ⟨k,hk,rfl⟩:=List.mem_map.1 ht;have hk:=(ic (bI m)).mem_iff.1 hk;unfold bI at hk;obtain ⟨e,he,rfl⟩:=List.mem_map.1 hk;obtain ⟨he1,he2⟩:=List.mem_filter.1 he;show bE 0 e.1 m≠0;rw [GO h he1];simpa using he2
 ·unfold AY;rw [vg f ((ic (bI m)).map _),vc f m h]
theorem xa (n:Int) (m:List (aJ×Int)):pr n m (kz (bI m))=Am (Linear.mk n (AY m)):=rfl
theorem iD {l:Linear} (h:aA l=true):Ap l.Terms:=by have:=xT h;rw [List.pairwise_map] at this;exact this
theorem cD {l:Linear} (h:aA l=true):Nz l.Terms:=by
 intro t ht;obtain ⟨j,hj,rfl⟩:=List.getElem_of_mem ht;simp only [aA,MG,MS] at h;have:=h.1 j (by simpa using hj);have e:zg l j=l.Terms[j]:=by simp [zg,ME,MF hj]
 simp only [kE,e,MG,Bool.not_eq_true',beq_eq_false_iff_ne] at this;exact this.2.1
theorem Jh:∀ ts:List au,bA (fun _=>0) ts=0
 | []=>rfl
 | t::ts=>by simp only [bA,Jh ts];omega
theorem Ka:∀ m:List (aJ×Int),mn (fun _=>0) m=0
 | []=>rfl
 | (k,c)::m=>by simp only [mn,Ka m];omega
theorem BU {n n':Int} {m:List (aJ×Int)} {ts:List au} (h:(m.map (·.1)).Nodup) (h1:Ap ts) (h2:Nz ts) (hf:∀ f,n+mn f m=n'+bA f ts):Am (Linear.mk n (AY m))=Am (Linear.mk n' ts):=by
 obtain ⟨r1,r2,r3⟩:=JG h;have e:n=n':=by have:=hf (fun _=>0);rw [Ka,Jh] at this;omega
 have e2:AY m=ts:=pU _ _ r1 r2 h1 h2 fun f=>by have:=hf f;rw [r3 f];omega
 rw [e,e2]
def lU (n:Int) (ts:List au) (x:Linear) (k:Int):Int×List au:=(aK (n+aK (k*x.Const)),x.Terms.foldl (fun ts t=>eT ts t.Var (aK (k*t.C))) ts)
theorem yu (k:Int) (hk : -1000000≤k∧k≤1000000):∀ (xs:List au) (ts:List au) (B:Int) (K:Nat),(∀ t∈xs,-1000000≤t.C∧t.C≤1000000)→RB B K ts→0≤B→B+(xs.length:Int)*1000000000000≤9000000000000000000 →
 RB (B+(xs.length:Int)*1000000000000) (K+xs.length) (xs.foldl (fun ts t=>eT ts t.Var (aK (k*t.C))) ts)∧∀ f,bA f (xs.foldl (fun ts t=>eT ts t.Var (aK (k*t.C))) ts)=bA f ts+k*bA f xs
 | [],ts,B,K,_,h,_,_=>⟨by simpa using h,fun f=>by simp [bA]⟩
 | x::xs,ts,B,K,hC,h,hB,hle=>by
  obtain ⟨c1,c2⟩:=hC x (by simp);obtain ⟨b1,b2⟩:=prod_bound hk.1 hk.2 c1 c2;have hlen:(((x::xs).length:Nat):Int)=(xs.length:Int)+1:=by simp
  rw [hlen] at hle;have hle':B+((xs.length:Int)*1000000000000+1000000000000)≤9000000000000000000:=by rw [Int.add_mul] at hle;omega
  have hp:0≤(xs.length:Int)*1000000000000:=by omega
  have e:aK (k*x.C)=k*x.C:=gI (by unfold tE;omega);obtain ⟨p1,p2⟩:=h.plus x.Var (c:=k*x.C) (A:=1000000000000) hB (by omega) (by omega) (by omega);obtain ⟨g1,g2⟩:=yu k hk xs (eT ts x.Var (k*x.C)) (B+1000000000000) (K+1) (fun y hy=>hC y (by simp [hy])) p1 (by omega) (by omega);rw [List.foldl_cons,e,hlen];refine ⟨?_,fun f => ?_⟩
  ·have e1:B+1000000000000+(xs.length:Int)*1000000000000=B+((xs.length:Int)+1)*1000000000000:=by rw [Int.add_mul];omega
   have e2:K+1+xs.length=K+(x::xs).length:=by simp;omega
   rw [← e1,← e2];exact g1
  ·rw [g2 f,p2 f];simp only [bA];rw [Int.mul_add,BZ];omega
def JM (bs:List Bind) (v:aJ):Linear:=bif decide (idxOf (lV 1 v) bs<0) then Linear.mk 0 [au.mk v 1] else (bs.getD (idxOf (lV 1 v) bs).toNat tU).Dim
def rG (bs:List Bind) (t:au) (s:Int×List au):eR (Int×List au) (Int×List au) (Linear×Int) :=
 bif aA (JM bs t.Var) then .go (lU s.1 s.2 (JM bs t.Var) t.C) else .ret (Linear.mk 0 [],1)
theorem F0 {v:aJ} (h:db v=true):aA (Linear.mk 0 [au.mk v 1])=true:=by have e:zg (Linear.mk 0 [au.mk v 1]) 0=au.mk v 1:=rfl;unfold aA;simp only [List.length_cons,List.length_nil];simp [kE,e,h,Cm]
def Rt (j:Nat) (s:Int×List au):Prop:=RB ((j:Int)*12000000000000) (12*j) s.2 ∧ -(1000000+(j:Int)*1000000000000)≤s.1∧s.1≤1000000+(j:Int)*1000000000000
theorem JP (bs:List Bind) (t:au) (j:Nat) (hj:j<12) (ht:(-1000000≤t.C∧t.C≤1000000)∧db t.Var=true) (s s':Int×List au) (hs:Rt j s) (h:rG bs t s = .go s') :
 Rt (j+1) s'∧∀ f,s'.1+bA f s'.2=s.1+bA f s.2+t.C*sv bs f t.Var:=by
 have ej:((j+1:Nat):Int)*12000000000000=(j:Int)*12000000000000+12000000000000:=by omega
 obtain ⟨h1,h2,h3⟩:=hs;have esv:∀ f,ga f (JM bs t.Var)=sv bs f t.Var:=fun f=>by
  unfold JM sv;cases decide (idxOf (lV 1 t.Var) bs<0)
  ·rfl
  ·simp [ga,bA]
 unfold rG at h;generalize JM bs t.Var=D at h esv;cases hv:aA D with
 | false=>rw [hv,cond_false] at h;cases h
 | true =>
  rw [hv,cond_true] at h;have e:s'=lU s.1 s.2 D t.C:=by injection h with h;exact h.symm
  subst e;obtain ⟨k1,k2⟩:=j6 hv;have hl:=bc hv;obtain ⟨b1,b2⟩:=prod_bound ht.1.1 ht.1.2 k1 k2;obtain ⟨g1,g2⟩:=yu t.C ht.1 D.Terms s.2 ((j:Int)*12000000000000) (12*j) (fun x hx=>(bD hv x hx).1) h1 (by omega) (by omega);have hw:aK (s.1+aK (t.C*D.Const))=s.1+t.C*D.Const:=by rw [gI (n:=t.C*D.Const) (by unfold tE;omega),gI (by unfold tE;omega)]
  refine ⟨⟨g1.mono (by omega) (by omega),?_,?_⟩,fun f => ?_⟩
  ·simp only [lU,hw];omega
  ·simp only [lU,hw];omega
  ·simp only [lU,hw,g2 f];rw [← esv f];simp only [ga];rw [Int.mul_add];omega
theorem F7 (bs:List Bind) (c:Int) (ts:List au):∀ (j:Nat) (s:Int×List (aJ×Int)) (s':Int×List au),j+ts.length≤12→(∀ t∈ts,(-1000000≤t.C∧t.C≤1000000)∧db t.Var=true)→St j c s→Rt j s'→(∀ f,s.1+mn f s.2=s'.1+bA f s'.2) →
 (∃ u u',cL (yL bs) (fun s=>s) ts s = .brk u∧cL (rG bs) (fun s=>s) ts s' = .brk u'∧St (j+ts.length) c u∧Rt (j+ts.length) u'∧∀ f,u.1+mn f u.2=u'.1+bA f u'.2)∨(cL (yL bs) (fun s=>s) ts s = .ret (Linear.mk 0 [],1)∧cL (rG bs) (fun s=>s) ts s' = .ret (Linear.mk 0 [],1)):=by
 induction ts with
 | nil=>exact fun j s s' _ _ h1 h2 h3=>.inl ⟨s,s',rfl,rfl,h1,h2,h3⟩
 | cons t ts ih =>
  intro j s s' hj hC hs hs' hf;have hj':j+1+ts.length≤12:=by simp at hj;omega
  have ht:=hC t (by simp);have g1:=fun f u=>Cg bs f t c j (by simp at hj;omega) ht s u hs;have g2:=fun u=>JP bs t j (by simp at hj;omega) ht s' u hs';have hcase:(∃ u u',yL bs t s = .go u∧rG bs t s' = .go u')∨(yL bs t s = .ret (Linear.mk 0 [],1)∧rG bs t s' = .ret (Linear.mk 0 [],1)):=by
   unfold yL rG JM;cases h0:decide (idxOf (lV 1 t.Var) bs<0) with
   | true =>
    simp only [cond_true,F0 ht.2];exact .inl ⟨_,_,rfl,rfl⟩
   | false =>
    simp only [cond_false];cases aA (bs.getD (idxOf (lV 1 t.Var) bs).toNat tU).Dim with
    | false=>exact .inr ⟨rfl,rfl⟩
    | true=>exact .inl ⟨_,_,rfl,rfl⟩
  simp only [cL];rcases hcase with ⟨u,u',e1,e2⟩ | ⟨e1,e2⟩
  ·rw [e1,e2];have k1:=fun f=>g1 f u e1;obtain ⟨k2,k3⟩:=g2 u' e2;rcases ih (j+1) u u' hj' (fun x hx=>hC x (by simp [hx])) (k1 (fun _=>0)).1 k2 (fun f=>by have:=(k1 f).2;have:=k3 f;have:=hf f;omega) with ⟨v,v',a1,a2,a3,a4,a5⟩ | ⟨a1,a2⟩
   ·refine .inl ⟨v,v',a1,a2,?_,?_,a5⟩
    ·rw [show j+(t::ts).length=j+1+ts.length by simp;omega];exact a3
    ·rw [show j+(t::ts).length=j+1+ts.length by simp;omega];exact a4
   ·exact .inr ⟨a1,a2⟩
  ·rw [e1,e2];exact .inr ⟨rfl,rfl⟩
def Lh (o:Out (Int×List au) (Linear×Int)):Linear×Int:=match o with | .brk u=>Am (Linear.mk u.1 u.2) | .ret r=>r
theorem JF (bs:List Bind) (l:Linear) (h:aA l=true):Lh (cL (rG bs) (fun s=>s) l.Terms (l.Const,[]))=uB bs l∧(∀ u,cL (rG bs) (fun s=>s) l.Terms (l.Const,[]) = .brk u→u.2.length≤144):=by
 obtain ⟨k1,k2⟩:=j6 h;have hl:=bc h;have h0:Rt 0 (l.Const,[]):=⟨RB.nil,by simp only;omega,by simp only;omega⟩;unfold uB;rw [h,cond_true];rcases F7 bs l.Const l.Terms 0 (l.Const,[]) (l.Const,[]) (by omega) (bD h) (Mc l h) h0 (fun f=>rfl) with ⟨u,u',e1,e2,e3,e4,e5⟩ | ⟨e1,e2⟩
 ·rw [e1,e2];refine ⟨?_,fun w hw => ?_⟩
  ·simp only [Db,Lh];rw [xa];exact (BU e3.1.nd e4.1.srt e4.1.nz e5).symm
  ·injection hw with hw
   subst hw;have:=e4.1.len;omega
 ·rw [e1,e2];exact ⟨rfl,fun w hw=>by cases hw⟩
theorem FG (bs:List Bind) (p:Bind→Bool):∀ x:Option Nat,(match x with | some j=>((j:Nat):Int) | none => -1)=idxOf p bs →
 ((some (match x with | some j=>Out.ret ((bs.getD j tU).Dim,true) | none=>Out.brk ()):Option (Out Unit (Linear×Bool))).bind (Sh.aft fun _=>some ((Linear.mk 0 []),false)))=some (bif decide (idxOf p bs<0) then ((Linear.mk 0 []),false) else ((bs.getD (idxOf p bs).toNat tU).Dim,true))
 | none,hx=>by rw [← hx];rfl
 | some j,hx=>by have hx:((j:Nat):Int)=idxOf p bs:=hx;rw [← hx,MK (by omega)];rfl
theorem xm (bs:List Bind) (v:aJ):lH bs v=some (bif decide (idxOf (lV 1 v) bs<0) then ((Linear.mk 0 []),false) else ((bs.getD (idxOf (lV 1 v) bs).toNat tU).Dim,true)):=by
 unfold lH;rw [tY (f:=fun j=>((bs.getD j tU).Dim,true)) (fun j=>lV 1 v (bs.getD j tU)) _ _ () (fun j u _ _=>by
  unfold lV;cases (bs.getD j tU).Kind==1
  ·rfl
  ·cases (bs.getD j tU).Var==v<;>rfl)]
 exact FG bs (lV 1 v) _ (sC (lV 1 v) tU bs)
theorem mr (v:aJ):gF v=some (Linear.mk 0 [au.mk v 1]):=by unfold gF;rfl
theorem sl (k:Int):∀ (xs ts:List au),(xs.foldl (fun ts t=>eT ts t.Var (aK (k*t.C))) ts).length≤ts.length+xs.length
 | [],ts=>by simp
 | x::xs,ts=>by have h1:=sl k xs (eT ts x.Var (aK (k*x.C)));have h2:=p8 ts x.Var (aK (k*x.C));simp only [List.foldl_cons,List.length_cons];omega
theorem oI {α σ ρ:Type} (g:α→σ→σ):∀ (l:List α) (s:σ),cL (ε:=σ) (ρ:=ρ) (fun x s=>eR.go (g x s)) (fun s=>s) l s = .brk (l.foldl (fun s x=>g x s) s)
 | [],s=>rfl
 | x::l,s=>by simp only [cL,List.foldl_cons];exact oI g l (g x s)
theorem xi {α β γ:Type} (g:β→α→β) (a:γ):∀ (l:List α) (b:β),l.foldl (fun (s:γ×β) x=>(s.1,g s.2 x)) (a,b)=(a,l.foldl g b)
 | [],b=>rfl
 | x::l,b=>by simp only [List.foldl_cons];exact xi g a l (g b x)
theorem mM (l x:Linear) (k:Int) (h1:l.Terms.length≤1000) (h2:x.Terms.length≤1000):cW l x k=some (Linear.mk (lU l.Const l.Terms x k).1 (lU l.Const l.Terms x k).2):=by
 unfold cW;rw [aD (by omega)];rw [de (fin:=fun _ s=>(s.1,s.2)) (f:=fun s=>s) ⟨[],0⟩ x.Terms (fun t s=>eR.go (s.1,eT s.2 t.Var (aK (k*t.C)))) (fun j s=>s.2.length≤1000+j) (fun _ _=>rfl) _ (by simpa using h1) (fun j s hj hI=>⟨by
  rw [oz _ _ _ (by simp only;omega)];rfl,fun s' e=>by
  injection e with e
  subst e;have:=p8 s.2 (x.Terms.getD j ⟨[],0⟩).Var (aK (k*(x.Terms.getD j ⟨[],0⟩).C));simp only;omega⟩)]
 rw [oI (fun (t:au) (s:Int×List au)=>(s.1,eT s.2 t.Var (aK (k*t.C)))),xi (fun ts (t:au)=>eT ts t.Var (aK (k*t.C)))];rfl
theorem DT (n:Int) (ts:List au) (x:Linear) (k:Int):(lU n ts x k).2.length≤ts.length+x.Terms.length:=sl k x.Terms ts
theorem ka (l:Linear) (bs:List Bind):fZ l bs=some (uB bs l):=by
 unfold fZ;rw [dA];simp only [Option.bind_some];cases hv:aA l with
 | false=>unfold uB;rw [hv];rfl
 | true =>
  simp only [cond_true];have hl:=bc hv;rw [de (fin:=fun _ s=>(s.1,s.2)) (f:=fun s=>s) ⟨[],0⟩ l.Terms (rG bs) (fun j s=>s.2.length≤12*j) (fun _ _=>rfl) (l.Const,[]) (by simp) (fun j s hj hI=>by
   rw [xm];generalize l.Terms.getD j ⟨[],0⟩=t;have hb:∀ (o:Option (eR (Int×List au) (Int×List au) (Linear×Int))),o=some (rG bs t s)→(o=some (rG bs t s)∧∀ s',rG bs t s = .go s'→s'.2.length≤12*(j+1)):=fun o ho=>⟨ho,fun s' e=>by
    unfold rG at e;cases hw:aA (JM bs t.Var) with
    | false=>rw [hw] at e;cases e
    | true =>
     rw [hw,cond_true] at e;injection e with e
     subst e;have:=DT s.1 s.2 (JM bs t.Var) t.C;have:=bc hw;omega⟩
   refine hb _ ?_;have hlen:∀ D:Linear,aA D=true→cW (Linear.mk s.1 s.2) D t.C=some (Linear.mk (lU s.1 s.2 D t.C).1 (lU s.1 s.2 D t.C).2):=fun D hD=>by have:=bc hD;exact mM _ D t.C (by simp only;omega) (by omega)
   simp only [Option.bind_some,rG,JM];cases h0:decide (idxOf (lV 1 t.Var) bs<0) with
   | true =>
    simp only [cond_true,cond_false];rw [mr];simp only [Option.bind_some];rw [dA];simp only [Option.bind_some];cases hw:aA (Linear.mk 0 [au.mk t.Var 1]) with
    | false=>rfl
    | true=>simp only [cond_true];rw [hlen _ hw];rfl
   | false =>
    simp only [cond_true,cond_false,Option.bind_some];generalize (bs.getD (idxOf (lV 1 t.Var) bs).toNat tU).Dim=D at *;rw [lJ,dA];simp only [Option.bind_some];cases hw:aA D with
    | false=>rfl
    | true=>simp only [cond_true];rw [hlen _ hw];rfl)]
  obtain ⟨h1,h2⟩:=JF bs l hv;rw [← h1];generalize cL (rG bs) (fun s=>s) l.Terms (l.Const,[])=o;cases o with
  | ret r=>rfl
  | brk u =>
   simp only [Option.bind_some,Sh.aft,Lh];rw [D8];rfl
theorem aU {n:Int} (h1 : -9223372036854775808≤n) (h2:n≤9223372036854775807):aK n=n:=by unfold aK IntKind.wrap IntKind.bits IntKind.signed;simp;omega
theorem jl {σ ε ρ:Type} {body:Nat→σ→Option (eR σ ε ρ)} {fin:Nat→σ→ε} (I:Nat→σ→Prop):∀ (k i:Nat) (s:σ),I i s→(∀ j s,i≤j→j<i+k→I j s→∃ s',body j s=some (.go s')∧I (j+1) s') →
 ∃ s',dn body fin k i s=some (.brk (fin (i+k) s'))∧I (i+k) s'
 | 0,i,s,hI,h=>⟨s,by simp [dn],hI⟩
 | k+1,i,s,hI,h=>by obtain ⟨s1,h1,h2⟩:=h i s (Nat.le_refl _) (by omega) hI;obtain ⟨s',e1,e3⟩:=jl I k (i+1) s1 h2 (fun j s h1 h2=>h j s (by omega) (by omega));refine ⟨s',?_,by rw [show i+(k+1)=i+1+k by omega];exact e3⟩;simp only [dn,h1,Option.bind_some,tN];rw [e1,show i+1+k=i+(k+1) by omega]
def kj (n:Int):Bool:=decide (-4611686018427387904≤n)&&decide (n≤4611686018427387904)
theorem jh {n:Int}:kj n=true ↔ -4611686018427387904≤n∧n≤4611686018427387904:=by simp [kj]
theorem dm (n:Int):da n=some (kj n):=by
 unfold da kj;by_cases h : -4611686018427387904≤n
 ·rw [ML (show n ≥ -4611686018427387904 from h)];rfl
 ·rw [MK (show ¬ n ≥ -4611686018427387904 from h)];rfl
theorem gE (l:List Int):fy l=some (l.all kj):=by
 unfold fy;rw [jk (fun j=>kj (l.getD j 0)) _ _ () (fun j u _ _=>by
  generalize l.getD j 0=n;unfold kj;have e1:decide (n < -4611686018427387904) = !(decide (-4611686018427387904≤n)):=by rw [Bool.eq_iff_iff];simp
  have e2:decide (n>4611686018427387904) = !(decide (n≤4611686018427387904)):=by rw [Bool.eq_iff_iff];simp
  rw [e1,e2];cases decide (-4611686018427387904≤n)<;>cases decide (n≤4611686018427387904)<;>rfl),jR,Gh kj 0 l]
 cases l.all kj<;>rfl
theorem jf {a:Int} (h:kj a=true):cO a=some (a.natAbs:Int)∧a.natAbs≤4611686018427387904:=by
 rw [jh] at h;unfold cO;by_cases h0:a<0
 ·rw [ML h0];simp only [cond_true,MO];rw [aU (by omega) (by omega)];omega
 ·rw [MK h0];simp only [cond_false,MO];omega
theorem wrap_u64 {n:Int} (h0:0≤n) (h:n<18446744073709551616):IntKind.wrap .u64 n=n:=by unfold IntKind.wrap IntKind.bits IntKind.signed;simp;omega
theorem wrap_i64 {n:Int} (h0:0≤n) (h:n≤9223372036854775807):IntKind.wrap .i64 n=n:=aU (by omega) h
def mulR (a b:Int):Int×Int:=bif kj a&&(kj b&&kj (a*b)) then (a*b,0) else (0,2)
theorem zX (a b:Int):((decide (a<0)==decide (b<0))=true→a*b=((a.natAbs*b.natAbs:Nat):Int))∧((decide (a<0)==decide (b<0))=false→a*b = -((a.natAbs*b.natAbs:Nat):Int)):=by
 rcases Int.natAbs_eq a with ha | ha<;>rcases Int.natAbs_eq b with hb | hb;all_goals
  generalize a.natAbs=x at ha ⊢;generalize b.natAbs=y at hb ⊢;subst ha;subst hb
 ·refine ⟨fun _=>by push_cast;rfl,fun h => ?_⟩;rw [MK (by omega),MK (by omega)] at h;cases h
 ·constructor
  ·intro h;by_cases hy:y=0
   ·subst hy;simp
   ·rw [MK (by omega),ML (by omega)] at h;cases h
  ·intro _;rw [Int.mul_neg];push_cast;rfl
 ·constructor
  ·intro h;by_cases hx:x=0
   ·subst hx;simp
   ·rw [ML (by omega),MK (by omega)] at h;cases h
  ·intro _;rw [Int.neg_mul];push_cast;rfl
 ·constructor
  ·intro _;rw [Int.neg_mul_neg];push_cast;rfl
  ·intro h;by_cases hx:x=0
   ·subst hx;simp
   ·by_cases hy:y=0
    ·subst hy;simp
    ·rw [ML (by omega),ML (by omega)] at h;cases h
theorem cE {α β:Type} (x:α) (f:α→Option β):(some x).bind f=f x:=Eq.trans (Option.bind_some x f) rfl
theorem BL {x y:Int} (hx:0≤x∧x<18446744073709551616) (hy:0≤y∧y<18446744073709551616):mA x y=some (x*y / 18446744073709551616,x*y % 18446744073709551616):=if_pos ⟨hx,hy⟩
theorem nl (a b:Int):fi a b=some (mulR a b):=by
 unfold fi mulR;rw [gE];simp only [List.all_cons,List.all_nil,Bool.and_true,cE];cases ha:kj a with
 | false=>rfl
 | true =>
  cases hb:kj b with
  | false=>rfl
  | true =>
   obtain ⟨a1,a2⟩:=jf ha;obtain ⟨b1,b2⟩:=jf hb;simp only [Bool.true_and,cond_true];rw [a1,b1];simp only [cE];rw [wrap_u64 (by omega) (by omega),wrap_u64 (by omega) (by omega),BL ⟨by omega,by omega⟩ ⟨by omega,by omega⟩];obtain ⟨s1,s2⟩:=zX a b;have hP:((a.natAbs:Int)*(b.natAbs:Int))=((a.natAbs*b.natAbs:Nat):Int):=by push_cast;rfl
   rw [hP];generalize a.natAbs*b.natAbs=P at s1 s2 ⊢;generalize hhi:(P:Int) / 18446744073709551616=hi;generalize hlo:(P:Int) % 18446744073709551616=lo;simp only [cE];by_cases hbig:P≤4611686018427387904
   ·rw [MK (show ¬ (hi>0) by omega),MK (show ¬ (lo>4611686018427387904) by omega)];simp only [cond_false];have em:lo=P:=by omega
    rw [em,wrap_i64 (by omega) (by omega)];cases hs:(decide (a<0)==decide (b<0)) with
    | true =>
     rw [s1 hs];have:kj (P:Int)=true:=jh.2 ⟨by omega,by omega⟩;rw [this];rfl
    | false =>
     rw [s2 hs];have:kj (-(P:Int))=true:=jh.2 ⟨by omega,by omega⟩;rw [this,aU (by omega) (by omega),Int.zero_sub];rfl
   ·have hab:kj (a*b)=false:=by
     have:¬ (kj (a*b)=true):=by
      rw [jh];cases hs:(decide (a<0)==decide (b<0)) with
      | true=>rw [s1 hs];omega
      | false=>rw [s2 hs];omega
     simpa using this
    rw [hab];by_cases hq:hi>0
    ·rw [ML hq];rfl
    ·rw [MK hq,ML (show lo>4611686018427387904 by omega)];rfl
def v3 (a b c:Int):Int:=a+b*18446744073709551616+c*340282366920938463463374607431768211456
def lm (x:Int):Prop:=0≤x∧x<18446744073709551616
theorem Ii {x y c:Int} (hx:lm x) (hy:lm y) (hc:0≤c∧c≤1):eU x y c=some ((x+y+c) % 18446744073709551616,(x+y+c) / 18446744073709551616):=if_pos ⟨hx,hy,hc⟩
theorem ye {x y c:Int} (hx:lm x) (hy:lm y) (hc:0≤c∧c≤1):∃ r d,eU x y c=some (r,d)∧lm r∧(0≤d∧d≤1)∧r+d*18446744073709551616=x+y+c:=by refine ⟨_,_,Ii hx hy hc,?_⟩;unfold lm at *;generalize hs:x+y+c=s;omega
theorem Hn {x y:Int} (hx:lm x) (hy:lm y):∃ hi lo,mA x y=some (hi,lo)∧lm lo∧lo+hi*18446744073709551616=x*y∧0≤hi:=by refine ⟨_,_,BL hx hy,?_⟩;have h0:0≤x*y:=Int.mul_nonneg hx.1 hy.1;unfold lm;generalize x*y=s at h0;omega
theorem EM {x0 x1 x2 hi lo:Int} (h0:lm x0) (h1:lm x1) (h2:lm x2) (hh:lm hi) (hl:lm lo) (hs:v3 x0 x1 x2+lo+hi*18446744073709551616<6277101735386680763835789423207666416102355444464034512896) :
 ∃ r0 r1 r2 c0 c1 c2,eU x0 lo 0=some (r0,c0)∧eU x1 hi c0=some (r1,c1)∧eU x2 0 c1=some (r2,c2)∧lm r0∧lm r1∧lm r2∧v3 r0 r1 r2=v3 x0 x1 x2+lo+hi*18446744073709551616:=by
 obtain ⟨r0,c0,e0,l0,d0,s0⟩:=ye h0 hl (c:=0) (by omega);obtain ⟨r1,c1,e1,l1,d1,s1⟩:=ye h1 hh d0;obtain ⟨r2,c2,e2,l2,d2,s2⟩:=ye h2 (y:=0) (by unfold lm;omega) d1;refine ⟨r0,r1,r2,c0,c1,c2,e0,e1,e2,l0,l1,l2,?_⟩;unfold lm v3 at *;omega
theorem Aa {a b p0 p1 p2 n0 n1 n2 K:Int} (ha:kj a=true) (hb:kj b=true) (h0:lm p0) (h1:lm p1) (h2:lm p2) (g0:lm n0) (g1:lm n1) (g2:lm n2) (hK:v3 p0 p1 p2+v3 n0 n1 n2≤K) (hK2:K≤6277101735386680763835789423207666416102355444464034512896-21267647932558653966460912964485513216-1) :
 ∃ q0 q1 q2 m0 m1 m2,dd a b p0 p1 p2 n0 n1 n2=some (q0,q1,q2,m0,m1,m2)∧lm q0∧lm q1∧lm q2∧lm m0∧lm m1∧lm m2∧v3 q0 q1 q2-v3 m0 m1 m2=v3 p0 p1 p2-v3 n0 n1 n2+a*b∧v3 q0 q1 q2+v3 m0 m1 m2≤K+21267647932558653966460912964485513216:=by
 obtain ⟨a1,a2⟩:=jf ha;obtain ⟨b1,b2⟩:=jf hb;obtain ⟨s1,s2⟩:=zX a b;obtain ⟨hi,lo,em,hlo,hsum,hhi⟩:=Hn (x:=(a.natAbs:Int)) (y:=(b.natAbs:Int)) (by unfold lm;omega) (by unfold lm;omega);have hP:((a.natAbs:Int)*(b.natAbs:Int))=((a.natAbs*b.natAbs:Nat):Int):=by push_cast;rfl
 have hPb:a.natAbs*b.natAbs≤21267647932558653966460912964485513216:=by have:=Nat.mul_le_mul a2 b2;exact this
 rw [hP] at hsum;have wa:=wrap_u64 (n:=(a.natAbs:Int)) (by omega) (by omega);have wb:=wrap_u64 (n:=(b.natAbs:Int)) (by omega) (by omega);have v0:0≤v3 p0 p1 p2:=by unfold lm v3 at *;omega
 have v1:0≤v3 n0 n1 n2:=by unfold lm v3 at *;omega
 generalize a.natAbs*b.natAbs=Pn at s1 s2 hsum hPb;have hhi2:lm hi:=by unfold lm at *;omega
 unfold dd;cases hs:(decide (a<0)==decide (b<0)) with
 | true =>
  obtain ⟨r0,r1,r2,c0,c1,c2,e0,e1,e2,l0,l1,l2,hv⟩:=EM h0 h1 h2 hhi2 hlo (by omega);refine ⟨r0,r1,r2,n0,n1,n2,?_,l0,l1,l2,g0,g1,g2,?_,?_⟩
  ·simp only [cond_true];rw [a1,b1];simp only [cE];rw [wa,wb,em];simp only [cE];rw [e0];simp only [cE];rw [e1];simp only [cE];rw [e2];simp only [cE]
  ·rw [hv,s1 hs];omega
  ·rw [hv];omega
 | false =>
  obtain ⟨r0,r1,r2,c0,c1,c2,e0,e1,e2,l0,l1,l2,hv⟩:=EM g0 g1 g2 hhi2 hlo (by omega);refine ⟨p0,p1,p2,r0,r1,r2,?_,h0,h1,h2,l0,l1,l2,?_,?_⟩
  ·simp only [cond_false];rw [a1,b1];simp only [cE];rw [wa,wb,em];simp only [cE];rw [e0];simp only [cE];rw [e1];simp only [cE];rw [e2];simp only [cE]
  ·rw [hv,s2 hs];omega
  ·rw [hv];omega
theorem yv {x y c:Int} (hx:lm x) (hy:lm y) (hc:0≤c∧c≤1):∃ r d,mD x y c=some (r,d)∧lm r∧(0≤d∧d≤1)∧r=x-y-c+d*18446744073709551616:=by have e:mD x y c=some ((x-y-c) % 18446744073709551616,if x<y+c then 1 else 0):=if_pos ⟨hx,hy,hc⟩;refine ⟨_,_,e,?_⟩;unfold lm at *;generalize hs:x-y-c=s;split<;>omega
theorem xw {a0 a1 a2 b0 b1 b2:Int} (h0:lm a0) (h1:lm a1) (h2:lm a2) (g0:lm b0) (g1:lm b1) (g2:lm b2) :
 ∃ r0 r1 r2 k,cP (a0,a1,a2) (b0,b1,b2)=some ((r0,r1,r2),k)∧(v3 b0 b1 b2≤v3 a0 a1 a2→k=true∧lm r0∧lm r1∧lm r2∧v3 r0 r1 r2=v3 a0 a1 a2-v3 b0 b1 b2)∧(v3 a0 a1 a2<v3 b0 b1 b2→k=false):=by
 obtain ⟨r0,c0,e0,l0,d0,s0⟩:=yv h0 g0 (c:=0) (by omega);obtain ⟨r1,c1,e1,l1,d1,s1⟩:=yv h1 g1 d0;obtain ⟨r2,c2,e2,l2,d2,s2⟩:=yv h2 g2 d1;refine ⟨r0,r1,r2,c2==0,?_,fun h => ?_,fun h => ?_⟩
 ·unfold cP;rw [e0];simp only [cE];rw [e1];simp only [cE];rw [e2];simp only [cE]
 ·unfold lm v3 at *;refine ⟨?_,l0,l1,l2,by omega⟩;have:c2=0:=by omega
  rw [this];rfl
 ·unfold lm v3 at *;have:c2=1:=by omega
  rw [this];rfl
theorem w4 (n:Int) (h:kj n=true):eW n=some (n,0):=by unfold eW;rw [gE];simp only [List.all_cons,List.all_nil,h,Bool.and_true,cE,cond_true]
def DS (S:Int):Int×Int:=bif kj S then (S,0) else (0,2)
theorem qa {S:Int} (h:S < -4611686018427387904∨4611686018427387904<S):DS S=(0,2):=by
 have:kj S=false:=by
  have:¬ kj S=true:=by rw [jh];omega
  simpa using this
 unfold DS;rw [this];rfl
theorem EN {S:Int} (h:kj S=true):DS S=(S,0):=by unfold DS;rw [h];rfl
theorem xG {a0 a1 a2 b0 b1 b2:Int} (h0:lm a0) (h1:lm a1) (h2:lm a2) (g0:lm b0) (g1:lm b1) (g2:lm b2):cK a0 a1 a2 b0 b1 b2=some (DS (v3 a0 a1 a2-v3 b0 b1 b2)):=by
 obtain ⟨r0,r1,r2,k,e1,k1,k2⟩:=xw h0 h1 h2 g0 g1 g2;obtain ⟨t0,t1,t2,j,e2,j1,j2⟩:=xw g0 g1 g2 h0 h1 h2;unfold cK;rw [e1];simp only [cE];by_cases hge:v3 b0 b1 b2≤v3 a0 a1 a2
 ·obtain ⟨hk,l0,l1,l2,hv⟩:=k1 hge;rw [hk];simp only [cond_true];by_cases q1:r1>0
  ·rw [ML q1,qa (by unfold lm v3 at *;omega)];rfl
  ·rw [MK q1];simp only [cond_false];by_cases q2:r2>0
   ·rw [ML q2,qa (by unfold lm v3 at *;omega)];rfl
   ·rw [MK q2];simp only [cond_false];by_cases q0:r0>4611686018427387904
    ·rw [ML q0,qa (by unfold lm v3 at *;omega)];rfl
    ·rw [MK q0];simp only [cond_false];have e:r0=v3 a0 a1 a2-v3 b0 b1 b2:=by unfold lm v3 at *;omega
     have hin:kj r0=true:=jh.2 (by unfold lm at *;omega);rw [wrap_i64 l0.1 (by omega),Int.one_mul,aU (by unfold lm at *;omega) (by omega),w4 r0 hin,← e,EN hin];simp only [cE]
 ·rw [k2 (by omega)];simp only [cond_false];rw [e2];simp only [cE];obtain ⟨hj,l0,l1,l2,hv⟩:=j1 (by omega);rw [hj];simp only [cond_true];by_cases q1:t1>0
  ·rw [ML q1,qa (by unfold lm v3 at *;omega)];rfl
  ·rw [MK q1];simp only [cond_false];by_cases q2:t2>0
   ·rw [ML q2,qa (by unfold lm v3 at *;omega)];rfl
   ·rw [MK q2];simp only [cond_false];by_cases q0:t0>4611686018427387904
    ·rw [ML q0,qa (by unfold lm v3 at *;omega)];rfl
    ·rw [MK q0];simp only [cond_false];have e : -t0=v3 a0 a1 a2-v3 b0 b1 b2:=by unfold lm v3 at *;omega
     have hin:kj (-t0)=true:=jh.2 (by unfold lm at *;omega);rw [wrap_i64 l0.1 (by omega),show (-1)*t0 = -t0 by omega,aU (by omega) (by unfold lm at *;omega),w4 (-t0) hin,← e,EN hin];simp only [cE]
def Kr (f:Nat→Int):Nat→Int
 | 0=>0
 | j+1=>Kr f j+f j
def LM (a b:List Int) (i:Nat):Int:=a.getD i 0*b.getD i 0
def DB (a b:List Int):Int×Int:=bif decide (a.length=b.length) then (bif decide (a.length≤10000) then (bif a.all kj&&b.all kj then DS (Kr (LM a b) a.length) else (0,2)) else (0,3)) else (0,1)
def zx (s:Int×Int×Int×Int×Int×Int):Prop:=lm s.1∧lm s.2.1∧lm s.2.2.1∧lm s.2.2.2.1∧lm s.2.2.2.2.1∧lm s.2.2.2.2.2
def Mf (s:Int×Int×Int×Int×Int×Int):Int:=v3 s.1 s.2.1 s.2.2.1-v3 s.2.2.2.1 s.2.2.2.2.1 s.2.2.2.2.2
def Mx (s:Int×Int×Int×Int×Int×Int):Int:=v3 s.1 s.2.1 s.2.2.1+v3 s.2.2.2.1 s.2.2.2.2.1 s.2.2.2.2.2
theorem Gz {a b:Int} (ha:kj a=true) (hb:kj b=true) (s:Int×Int×Int×Int×Int×Int) (hl:zx s) (j:Nat) (hj:j<10000) (ht:Mx s≤(j:Int)*21267647932558653966460912964485513216) :
 ∃ s',dd a b s.1 s.2.1 s.2.2.1 s.2.2.2.1 s.2.2.2.2.1 s.2.2.2.2.2=some s'∧zx s'∧Mf s'=Mf s+a*b∧Mx s'≤((j+1:Nat):Int)*21267647932558653966460912964485513216:=by
 obtain ⟨q0,q1,q2,m0,m1,m2,e,l0,l1,l2,l3,l4,l5,hd,hs⟩:=Aa (K:=(j:Int)*21267647932558653966460912964485513216) ha hb hl.1 hl.2.1 hl.2.2.1 hl.2.2.2.1 hl.2.2.2.2.1 hl.2.2.2.2.2 ht (by omega);refine ⟨(q0,q1,q2,m0,m1,m2),e,⟨l0,l1,l2,l3,l4,l5⟩,hd,?_⟩;show v3 q0 q1 q2+v3 m0 m1 m2≤_;omega
theorem BB (s:Int×Int×Int×Int×Int×Int) (hl:zx s):cK s.1 s.2.1 s.2.2.1 s.2.2.2.1 s.2.2.2.2.1 s.2.2.2.2.2=some (DS (Mf s)) :=
 xG hl.1 hl.2.1 hl.2.2.1 hl.2.2.2.1 hl.2.2.2.2.1 hl.2.2.2.2.2
theorem Hf {l:List Int} (h:l.all kj=true) {j:Nat} (hj:j<l.length):kj (l.getD j 0)=true:=by rw [ME,MF hj];exact MS.1 h _ (List.getElem_mem hj)
theorem Ky:zx (0,0,0,0,0,0):=by unfold zx lm;simp
theorem wT (a b:List Int):fv a b=some (DB a b):=by
 unfold fv DB;by_cases hlen:a.length=b.length
 ·rw [ML hlen,show ((((a.length:Nat):Int)==((b.length:Nat):Int)))=true by simp [hlen]];simp only [cond_true];by_cases h1:a.length≤10000
  ·rw [ML h1,MK (by omega)];simp only [cond_true,cond_false];rw [gE,gE];simp only [cE];cases ha:a.all kj with
   | false=>rfl
   | true =>
    cases hb:b.all kj with
    | false=>rfl
    | true =>
     simp only [cond_true,Bool.and_true];obtain ⟨s',e1,hI⟩:=jl (ρ:=Empty) (body:=fun i93 (s92:Int×Int×Int×Int×Int×Int)=>bf (i93<b.length) <| (dd (a.getD i93 0) (b.getD i93 0) s92.1 s92.2.1 s92.2.2.1 s92.2.2.2.1 s92.2.2.2.2.1 s92.2.2.2.2.2).bind fun y122=>some (.go (y122.1,y122.2.1,y122.2.2.1,y122.2.2.2.1,y122.2.2.2.2.1,y122.2.2.2.2.2)))
      (fin:=fun i93 s92=>(s92.1,s92.2.1,s92.2.2.1,s92.2.2.2.1,s92.2.2.2.2.1,s92.2.2.2.2.2))
      (fun j s=>zx s∧Mf s=Kr (LM a b) j∧Mx s≤(j:Int)*21267647932558653966460912964485513216) (a.length-0) 0 (0,0,0,0,0,0) ⟨Ky,rfl,by decide⟩ (fun j s _ hj ⟨i1,i2,i3⟩=>by obtain ⟨s',e,l,d,t⟩:=Gz (Hf ha (j:=j) (by omega)) (Hf hb (j:=j) (by omega)) s i1 j (by omega) i3;refine ⟨s',?_,l,by rw [d,i2];rfl,t⟩;rw [aD (by omega),e];rfl)
     rw [e1];show (cK s'.1 s'.2.1 s'.2.2.1 s'.2.2.2.1 s'.2.2.2.2.1 s'.2.2.2.2.2).bind _=_;rw [BB s' hI.1,hI.2.1,Nat.zero_add,Nat.sub_zero];rfl
  ·rw [MK h1,ML (by omega)];rfl
 ·rw [MK hlen,show ((((a.length:Nat):Int)==((b.length:Nat):Int)))=false by rw [beq_eq_false_iff_ne];omega];rfl
def kv (x:aJ):List au→Int
 | []=>0
 | t::ts=>if t.Var=x then t.C else kv x ts
def cf (l:Linear) (x:aJ):Int:=kv x l.Terms
def AW (ts:List au):Prop:=(ts.map au.Var).Nodup
def upd (f:aJ→Int) (x:aJ) (a:Int):aJ→Int:=fun v=>if v=x then a else f v
theorem Ct (f:aJ→Int) (x:aJ) (a:Int):upd f x a x=a:=if_pos rfl
theorem bS {f:aJ→Int} {x v:aJ} {a:Int} (h:v≠x):upd f x a v=f v:=if_neg h
theorem lh {x:aJ}:∀ {ts:List au},x ∉ ts.map au.Var→kv x ts=0
 | [],_=>rfl
 | t::ts,h=>by simp only [List.map_cons,List.mem_cons,not_or] at h;rw [kv,if_neg (fun e=>h.1 e.symm),lh h.2]
theorem uC {x:aJ}:∀ {ts:List au},kv x ts≠0→∃ t∈ts,t.Var=x∧t.C=kv x ts
 | [],h=>absurd rfl h
 | t::ts,h=>by
  by_cases e:t.Var=x
  ·exact ⟨t,by simp,e,by rw [kv,if_pos e]⟩
  ·rw [kv,if_neg e] at h;obtain ⟨u,hu,h1,h2⟩:=uC h;exact ⟨u,by simp [hu],h1,by rw [kv,if_neg e];exact h2⟩
theorem lS {t:au}:∀ {ts:List au},AW ts→t∈ts→kv t.Var ts=t.C
 | u::ts,hn,h=>by
  unfold AW at hn;rw [List.map_cons,List.nodup_cons] at hn;rcases List.mem_cons.1 h with rfl | h
  ·rw [kv,if_pos rfl]
  ·have:¬ u.Var=t.Var:=fun e=>hn.1 (by rw [e];exact List.mem_map.2 ⟨t,h,rfl⟩);rw [kv,if_neg this];exact lS hn.2 h
theorem ya (f:aJ→Int) (x:aJ) (a:Int):∀ {ts:List au},AW ts→bA (upd f x a) ts=bA f ts+kv x ts*(a-f x)
 | [],_=>by simp [bA,kv]
 | t::ts,hn=>by
  unfold AW at hn;rw [List.map_cons,List.nodup_cons] at hn;have ih:=ya f x a (ts:=ts) hn.2;simp only [bA,kv];by_cases e:t.Var=x
  ·have h0:kv x ts=0:=lh (by rw [← e];exact hn.1);rw [if_pos e,e,Ct,ih,h0,Int.zero_mul,Int.mul_sub];omega
  ·rw [if_neg e,bS e,ih];omega
theorem du {l:Linear} (h:aA l=true):AW l.Terms:=CW h
theorem yd (v:aJ):∀ {ts:List au},AW ts→bA (ind v) ts=kv v ts:=fun {ts} hn=>by
 have h:=ya (fun _=>0) v 1 hn;rw [Jh] at h;have e:upd (fun _=>0) v 1=ind v:=by funext x;simp only [upd,ind]
 rw [e] at h;omega
theorem qo (f:aJ→Int) (x:aJ) (a:Int) {l:Linear} (h:AW l.Terms):ga (upd f x a) l=ga f l+cf l x*(a-f x):=by unfold ga cf;rw [ya f x a h];omega
theorem nW (l:Linear):ga (fun _=>0) l=l.Const:=by unfold ga;rw [Jh];omega
theorem Aj (v:aJ) {l:Linear} (h:AW l.Terms):ga (ind v) l=l.Const+cf l v:=by unfold ga cf;rw [yd v h]
theorem Jq {a b:Linear} (ha:aA a=true) (hb:aA b=true) (h:∀ f,ga f a=ga f b):a=b:=by
 obtain ⟨n,ts⟩:=a;obtain ⟨m,us⟩:=b;have e:n=m:=by have:=h (fun _=>0);rw [nW,nW] at this;exact this
 have e2:ts=us:=pU _ _ (iD ha) (cD ha) (iD hb) (cD hb) fun f=>by have:=h f;unfold ga at this;simp only at this;omega
 rw [e,e2]
theorem xH {bs:List Bind} (hb:∀ b∈bs,aA b.Dim=true) (r:Linear×Int):∀ (ts:List au) (s:Int×List (aJ×Int)),cL (yL bs) (fun s=>s) ts s ≠ .ret r
 | [],s=>by simp [cL]
 | t::ts,s=>by
  have hg:∃ s',yL bs t s = .go s':=by
   unfold yL;cases h1:decide (idxOf (lV 1 t.Var) bs<0) with
   | true=>exact ⟨_,rfl⟩
   | false =>
    have hp:=sG (lV 1 t.Var) tU bs (by simpa using h1);have hm:bs.getD (idxOf (lV 1 t.Var) bs).toNat tU∈bs:=by rw [ME,MF hp.1];exact List.getElem_mem hp.1
    rw [hb _ hm];exact ⟨_,rfl⟩
  obtain ⟨s',e⟩:=hg;simp only [cL,e];exact xH hb r ts s'
theorem KR {bs:List Bind} {l:Linear} (hv:aA l=true) (hb:∀ b∈bs,aA b.Dim=true) {n:Int} {ts:List au} (h1:Ap ts) (h2:Nz ts) (h:∀ f,ga (sv bs f) l=n+bA f ts):uB bs l=Am (Linear.mk n ts):=by
 unfold uB;rw [hv,cond_true];have hall:=fun f=>AA bs f l.Const l.Terms 0 (l.Const,[]) (by have:=bc hv;omega) (bD hv) (Mc l hv);rcases hall (fun _=>0) with ⟨u,e1,e2,_⟩ | e
 ·rw [e1];simp only [Db];rw [xa];refine BU e2.1.nd h1 h2 fun f => ?_;rcases hall f with ⟨u',e1',_,e3'⟩ | e'
  ·rw [e1] at e1';injection e1' with e1'
   subst e1';rw [e3',← h f];simp only [mn,ga];omega
  ·rw [e'] at e1;cases e1
 ·exact absurd e (xH hb _ _ _)
theorem DW {l:Linear} (h:aA l=true):Am l=(l,0):=by unfold Am;rw [h];rfl
theorem xC:aA (Linear.mk 0 [])=true:=by decide
def one (x:aJ) (l:Linear):Bind:=Bind.mk 1 x l (Shape.mk [] []) []
theorem HC (x:aJ) (l:Linear) (f:aJ→Int):sv [one x l] f=upd f x (ga f l):=by
 funext v;unfold sv upd;by_cases e:v=x
 ·subst e;simp [idxOf,lV,one]
 ·have e2:(x==v)=false:=by simpa using Ne.symm e
  simp [idxOf,lV,one,e,e2]
theorem Az {x:aJ} {l q:Linear} (h:(uB [one x l] q).2=0) (f:aJ→Int):aA q=true∧aA (uB [one x l] q).1=true∧ga f (uB [one x l] q).1=ga f q+cf q x*(ga f l-f x):=by obtain ⟨h1,h2,h3⟩:=KO h f;refine ⟨h1,h2,?_⟩;rw [h3,HC,qo f x _ (du h1)]
theorem KT {x:aJ} {l q:Linear} (h:(uB [one x l] q).2=0) (hl:aA l=true) (v:aJ):cf (uB [one x l] q).1 v=cf q v+cf q x*(cf l v-ind v x):=by
 obtain ⟨h1,h2,h3⟩:=Az h (ind v);obtain ⟨_,_,h4⟩:=Az h (fun _=>0);rw [Aj v (du h2),Aj v (du h1),Aj v (du hl)] at h3;rw [nW,nW,nW] at h4;have e:cf q x*(l.Const+cf l v-ind v x)=cf q x*(l.Const-0)+cf q x*(cf l v-ind v x):=by rw [← Int.mul_add];congr 1;omega
 rw [e] at h3;omega
theorem Fi (x:aJ):∀ (ts:List au),cL (σ:=Unit) (ε:=Unit) (ρ:=Int) (fun t s=>bif t.Var==x then .ret t.C else .go ()) (fun _=>()) ts ()=if x∈ts.map au.Var then .ret (kv x ts) else .brk ()
 | []=>rfl
 | t::ts=>by
  simp only [cL,List.map_cons,List.mem_cons];by_cases e:t.Var=x
  ·simp [e,kv]
  ·have e2:(t.Var==x)=false:=by simpa using e
   rw [e2,cond_false];simp only;rw [Fi x ts];have e3:¬ x=t.Var:=fun h=>e h.symm;simp [e3,kv,e]
theorem kq (l:Linear) (x:aJ):cU l x=some (cf l x):=by
 unfold cU;rw [de ⟨[],0⟩ l.Terms (fun t s=>bif t.Var==x then .ret t.C else .go ()) (fun _ _=>True) (f:=fun _=>()) (fun _ _=>rfl) () trivial (fun j s hj _=>⟨by cases (l.Terms.getD j ⟨[],0⟩).Var==x<;>rfl,fun _ _=>trivial⟩),Fi];simp only [Option.bind_some];by_cases h:x∈l.Terms.map au.Var
 ·rw [if_pos h];rfl
 ·rw [if_neg h];show some 0=_;unfold cf;rw [lh h]
theorem gD (l:Linear) (x:aJ):cr l x=some (cf l x):=by have h:=kq l x;unfold cU at h;unfold cr;exact h
def gB (s:Int×Int):Option (eR (Int×Int) Int Empty):=bif (s.2==0) then some (.brk s.1) else bf ((s.2:Int)≠0) <| some (.go (s.2,(s.1.tmod s.2)))
theorem AD (m:Int) (N:Nat):gn gB (N+1) (m,0)=some (.brk m):=rfl
theorem A5 (m n:Nat) (h:n≠0) (N:Nat):gn gB (N+1) ((m:Int),(n:Int))=gn gB N ((n:Int),((m % n:Nat):Int)):=by
 have h1:((n:Int)==0)=false:=by simp;omega
 have h2:(n:Int)≠0:=by omega
 simp only [gn,gB,h1,cond_false];rw [aD h2,← Int.ofNat_tmod];rfl
theorem xy:∀ (k m n N:Nat),n<2 ^ k→2*k+1≤N→gn gB N ((m:Int),(n:Int))=some (.brk ((Nat.gcd m n:Nat):Int))
 | 0,m,n,N,h1,h2=>by
  obtain ⟨N,rfl⟩:∃ j,N=j+1:=⟨N-1,by omega⟩;have:n=0:=by simpa using h1
  subst this;rw [Nat.gcd_zero_right];exact AD _ _
 | k+1,m,n,N,h1,h2=>by
  obtain ⟨N,rfl⟩:∃ j,N=j+2:=⟨N-2,by omega⟩;by_cases hn:n=0
  ·subst hn;rw [Nat.gcd_zero_right];exact AD _ _
  ·rw [A5 m n hn];by_cases hr:m % n=0
   ·rw [hr,show ((0:Nat):Int)=0 from rfl,AD,Nat.gcd_comm,Nat.gcd_rec n m,hr,Nat.gcd_zero_left]
   ·rw [A5 n (m % n) hr];have hlt:m % n<n:=Nat.mod_lt _ (Nat.pos_of_ne_zero hn);have hd:=Nat.div_add_mod n (m % n);have hlt2:n % (m % n)<m % n:=Nat.mod_lt _ (Nat.pos_of_ne_zero hr);have hq:1≤n / (m % n):=(Nat.le_div_iff_mul_le (Nat.pos_of_ne_zero hr)).2 (by omega);have hm:m % n≤(m % n)*(n / (m % n)):=Nat.le_mul_of_pos_right _ hq;rw [Nat.pow_succ] at h1;rw [xy k (m % n) (n % (m % n)) N (by omega) (by omega)];rw [Nat.gcd_comm m n,Nat.gcd_rec n m,Nat.gcd_comm (m % n) n,Nat.gcd_comm n (m % n),Nat.gcd_comm (m % n) (n % (m % n)),← Nat.gcd_rec (m % n) n]
theorem xE {a b:Int} (ha:kj a=true) (hb:kj b=true):lG a b=some ((Nat.gcd a.natAbs b.natAbs:Nat):Int):=by unfold lG;rw [(jf ha).1,(jf hb).1];simp only [Option.bind_some];have h:=xy 63 a.natAbs b.natAbs 4294967296 (by have:=(jf hb).2;omega) (by omega);refine (congrArg (fun o:Option (Out Int Empty)=>Option.bind o _) h).trans ?_;rfl
def nu (a b:Int):Int×Int:=bif kj a&&kj b then (bif a==0||b==0 then (0,0) else mulR ((a.natAbs / Nat.gcd a.natAbs b.natAbs:Nat):Int) (b.natAbs:Int)) else (0,2)
theorem xM (a b:Int):ll a b=some (nu a b):=by
 unfold ll nu;rw [gE];simp only [Option.bind_some,List.all_cons,List.all_nil,Bool.and_true];cases hab:kj a&&kj b with
 | false=>rfl
 | true =>
  simp only [MG] at hab;simp only [cond_true];cases h1:a==0 with
  | true=>rfl
  | false =>
   cases h2:b==0 with
   | true=>rfl
   | false =>
    simp only [Bool.or_false,cond_false];rw [(jf hab.1).1,xE hab.1 hab.2,(jf hab.2).1];simp only [Option.bind_some];have ha0:a≠0:=by simpa using h1
    have hg:Nat.gcd a.natAbs b.natAbs≠0:=Nat.gcd_ne_zero_left (by omega);have hw:∀ z:Nat,z≤a.natAbs→aK (z:Int)=z:=fun z hz=>aU (by omega) (by have:=(jf hab.1).2;omega);rw [aD (by omega),← Int.ofNat_tdiv,hw _ (Nat.div_le_self _ _),nl];rfl
def uu (ts:List au) (a:Nat):Nat:=ts.foldl (fun a t=>Nat.gcd a t.C.natAbs) a
def cont (l:Linear):Nat:=uu l.Terms 0
theorem DE {c:Int} (h : -1000000≤c∧c≤1000000):(if (aK (0-c))>c then (aK (0-c)) else c)=((c.natAbs:Nat):Int):=by rw [aU (by omega) (by omega)];split<;>omega
theorem EX:∀ (ts:List au) (a:Nat),(∀ t∈ts,t.C≠0)→a≤1000000→(∀ t∈ts,-1000000≤t.C∧t.C≤1000000)→uu ts a≤1000000
 | [],a,_,h,_=>h
 | t::ts,a,h0,h,hc=>by
  unfold uu;rw [List.foldl_cons];have:=hc t (by simp);have h1:t.C.natAbs≠0:=by have:=h0 t (by simp);omega
  have h2:Nat.gcd a t.C.natAbs≤t.C.natAbs:=Nat.gcd_le_right _ (Nat.pos_of_ne_zero h1);exact EX ts _ (fun x hx=>h0 x (by simp [hx])) (by omega) (fun x hx=>hc x (by simp [hx]))
theorem tS {l:Linear} (h:aA l=true):hZ l=some ((cont l:Nat):Int):=by
 have hk:=mz h;unfold hZ;rw [fa l hk.1 hk.2,h];simp only [Option.bind_some,cond_true];have hC:=bD h;have hz:=cD h;have hl:=de (ε:=Int) (ρ:=Empty) (f:=fun s=>s) (fin:=fun i0 s0=>s0) (⟨[],0⟩:au) l.Terms (fun t s=>eR.go ((Nat.gcd s.natAbs t.C.natAbs:Nat):Int)) (fun j s=>∃ n:Nat,s=(n:Int)∧n≤1000000)
  (body:=fun i0 s0=>(gn (σ:=(Int×Int)) (ε:=Int) (ρ:=Empty) (fun s1 =>
   bif (s1.2==0) then (
    some (.brk s1.1)
   ) else (
    bf ((s1.2:Int)≠0) <|
    some (.go (s1.2,(s1.1.tmod s1.2)))
   )
   ) 4294967296 (s0,(if (aK (0-((l.Terms.getD i0 ⟨[],0⟩).C)))>((l.Terms.getD i0 ⟨[],0⟩).C) then (aK (0-((l.Terms.getD i0 ⟨[],0⟩).C))) else ((l.Terms.getD i0 ⟨[],0⟩).C)))).bind <| ca fun u0 =>
   some (.go u0)) (fun _ _=>rfl) 0 ⟨0,rfl,by omega⟩ (fun j s hj hI=>by
   obtain ⟨n,rfl,hn⟩:=hI;have hm:l.Terms.getD j ⟨[],0⟩∈l.Terms:=ba _ hj;have hc:=(hC _ hm).1;have h0:=hz _ hm;refine ⟨?_,fun s' hs' => ?_⟩
   ·rw [DE hc];have:=xy 20 n (l.Terms.getD j ⟨[],0⟩).C.natAbs 4294967296 (by omega) (by omega);refine (congrArg (fun o:Option (Out Int Empty)=>Option.bind o _) this).trans ?_;rfl
   ·injection hs' with hs'
    have h1:(l.Terms.getD j ⟨[],0⟩).C.natAbs≠0:=by omega
    have h2:Nat.gcd n (l.Terms.getD j ⟨[],0⟩).C.natAbs≤(l.Terms.getD j ⟨[],0⟩).C.natAbs:=Nat.gcd_le_right _ (Nat.pos_of_ne_zero h1);exact ⟨_,hs'.symm,by simp only [Int.natAbs_natCast];omega⟩)
 refine (congrArg (fun o:Option (Out Int Empty)=>Option.bind o _) hl).trans ?_;have hf:∀ (ts:List au) (n:Nat),cL (σ:=Int) (ε:=Int) (ρ:=Empty) (fun t s=>eR.go ((Nat.gcd s.natAbs t.C.natAbs:Nat):Int)) (fun s=>s) ts (n:Int) = .brk ((uu ts n:Nat):Int):=by
  intro ts;induction ts with
  | nil=>intro n;rfl
  | cons t ts ih=>intro n;simp only [cL];rw [Int.natAbs_natCast,ih];rfl
 have:=hf l.Terms 0;rw [show ((0:Nat):Int)=0 from rfl] at this;rw [this];rfl
theorem vu:∀ (ts:List au) (a:Nat),uu ts a ∣ a∧∀ t∈ts,uu ts a ∣ t.C.natAbs
 | [],a=>⟨Nat.dvd_refl _,fun t h=>by simp at h⟩
 | t::ts,a=>by
  obtain ⟨h1,h2⟩:=vu ts (Nat.gcd a t.C.natAbs);refine ⟨Nat.dvd_trans h1 (Nat.gcd_dvd_left _ _),fun u hu => ?_⟩;rcases List.mem_cons.1 hu with rfl | hu
  ·exact Nat.dvd_trans h1 (Nat.gcd_dvd_right _ _)
  ·exact h2 u hu
theorem zi {d:Nat}:∀ (ts:List au) (a:Nat),d ∣ a→(∀ t∈ts,d ∣ t.C.natAbs)→d ∣ uu ts a
 | [],a,h,_=>h
 | t::ts,a,h,ht=>zi ts _ (Nat.dvd_gcd h (ht t (by simp))) (fun u hu=>ht u (by simp [hu]))
theorem sA {l:Linear} (h:aA l=true):cont l=0↔l.Terms=[]:=by
 constructor
 ·intro h0;cases hT:l.Terms with
  | nil=>rfl
  | cons t ts =>
   have h1:=(vu l.Terms 0).2 t (by rw [hT];simp);have h2:uu l.Terms 0=0:=h0;rw [h2] at h1;have:=cD h t (by rw [hT];simp);have:=Nat.eq_zero_of_zero_dvd h1;omega
 ·intro h0;unfold cont;rw [h0];rfl
def dB (n d:Int):Int:=bif (n.tmod d==0)||(decide (n.tmod d<0)==decide (d<0)) then n.tdiv d else n.tdiv d-1
theorem Ho {n d:Int} (hd:d≠0):(n-d*dB n d).natAbs<d.natAbs∧(n-d*dB n d=0↔n.tmod d=0):=by
 have h1:=Int.mul_tdiv_add_tmod n d;have h2:(n.tmod d).natAbs<d.natAbs:=by rw [Int.natAbs_tmod];exact Nat.mod_lt _ (by omega)
 unfold dB;cases h3:n.tmod d==0 with
 | true =>
  have:n.tmod d=0:=by simpa using h3
  simp only [Bool.true_or,cond_true];omega
 | false =>
  have h3:n.tmod d≠0:=by simpa using h3
  cases h4:(decide (n.tmod d<0)==decide (d<0)) with
  | true=>simp only [Bool.false_or,cond_true];omega
  | false =>
   simp only [Bool.false_or,cond_false];rw [Int.mul_sub,Int.mul_one];have h5:(n.tmod d<0∧0<d)∨(0<n.tmod d∧d<0):=by
    by_cases e1:n.tmod d<0<;>by_cases e2:d<0
    ·rw [ML e1,ML e2] at h4;cases h4
    ·exact .inl ⟨e1,by omega⟩
    ·exact .inr ⟨by omega,e2⟩
    ·rw [MK e1,MK e2] at h4;cases h4
   omega
theorem wG {n d:Int} (hd:d≠0) (hn : -1000000≤n∧n≤1000000) : -1000001≤dB n d∧dB n d≤1000001:=by have h:=Int.natAbs_tdiv_le_natAbs n d;unfold dB;cases (n.tmod d==0)||(decide (n.tmod d<0)==decide (d<0))<;>simp only [cond_true,cond_false]<;>omega
theorem xq {n d:Int} (hd:d≠0) (hn : -1000000≤n∧n≤1000000) (hdb : -1000000≤d∧d≤1000000):k8 n d=some (dB n d,0):=by
 unfold k8 gS;rw [gE];have hi:kj n=true:=jh.2 (by omega);have hi2:kj d=true:=jh.2 (by omega);have hz:(d==0)=false:=by simpa using hd
 simp only [Option.bind_some,List.all_cons,List.all_nil,Bool.and_true,hi,hi2,cond_true,hz,cond_false];unfold jT dB;have h:=Int.natAbs_tdiv_le_natAbs n d;have h2:(n.tmod d).natAbs<d.natAbs:=by rw [Int.natAbs_tmod];exact Nat.mod_lt _ (by omega)
 rw [aD hd,aU (n:=n.tdiv d) (by omega) (by omega),aU (n:=n.tdiv d-1) (by omega) (by omega)];cases n.tmod d==0 with
 | true=>rfl
 | false=>cases (decide (n.tmod d<0)==decide (d<0))<;>rfl
theorem yy {K' V σ ε β:Type} {m:List (K'×V)} {body:K'×V→σ→Option (eR σ ε β)} {K:σ→Prop} {J:β→Prop} (I:List Nat→σ→Prop)
 (hstep:∀ seen s i (h:i<m.length),seen.Nodup→i ∉ seen→(∀ j∈seen,j<m.length)→I seen s→∃ s',body m[i] s=some (.go s')∧I (seen++[i]) s')
 (hend:∀ seen s,seen.Nodup→(∀ i,i<m.length→i∈seen)→(∀ i∈seen,i<m.length)→I seen s→K s) :
 ∀ (n:Nat) (seen:List Nat) (s:σ),seen.Nodup→(∀ i∈seen,i<m.length)→n+seen.length=m.length→I seen s→MR m body K J n seen s
 | 0,seen,s,h1,h2,h3,hI=>by
  have hall:∀ i,i<m.length→i∈seen:=by
   intro i hi;refine Classical.byContradiction fun hn => ?_;have:=nH (i::seen) (List.range m.length) (List.nodup_cons.2 ⟨hn,h1⟩) (fun x hx=>by
    rcases List.mem_cons.1 hx with rfl | hx
    ·simpa using hi
    ·simpa using h2 x hx)
   simp at this;omega
  exact ⟨hall,hend seen s h1 hall h2 hI⟩
 | n+1,seen,s,h1,h2,h3,hI=>by
  refine ⟨?_,fun i hi hn => ?_⟩
  ·refine Classical.byContradiction fun hn => ?_;have:=nH (List.range m.length) seen List.nodup_range (fun x hx=>Classical.byContradiction fun hx2=>hn ⟨x,by simpa using hx,hx2⟩);simp at this;omega
  ·obtain ⟨s',e1,e2⟩:=hstep seen s i hi h1 hn h2 hI;refine ⟨_,e1,?_⟩;have hnd:(seen++[i]).Nodup:=by
    rw [List.nodup_append];exact ⟨h1,by simp,fun a ha b hb=>by
     have:b=i:=by simpa using hb
     subst this;intro e;subst e;exact hn ha⟩
   exact yy I hstep hend n (seen++[i]) s' hnd (fun j hj=>by
    rcases List.mem_append.1 hj with h | h
    ·exact h2 j h
    ·have:j=i:=by simpa using h
     rw [this];exact hi) (by simp;omega) e2
theorem vy {α:Type} (d:α) {m:List α} {seen:List Nat} (h1:seen.Nodup) (h2:∀ i,i<m.length→i∈seen) (h3:∀ i∈seen,i<m.length):(seen.map fun i=>m.getD i d).Perm m:=by have hp:seen.Perm (List.range m.length):=(List.perm_ext_iff_of_nodup h1 List.nodup_range).2 fun a=>⟨fun h=>by simpa using h3 a h,fun h=>h2 a (by simpa using h)⟩;refine (hp.map _).trans (List.Perm.of_eq ?_);refine List.ext_getElem (by simp) fun i hi h2 => ?_;simp only [List.getElem_map,List.getElem_range];rw [ME,MF h2];rfl
def fX (v:aJ):Int:=match v with | []=>0 | x::r=>bif x==95 then (oy r).1 else 0
theorem jB (v:aJ) (h:v.length≤1000000):dP v=some (fX v):=by
 unfold dP fX;rw [mV];cases v with
 | nil=>rfl
 | cons x r =>
  simp only [Option.bind_some];cases x==95 with
  | false=>rfl
  | true =>
   simp only [cond_true];rw [aD (by simp)];unfold nQ;rw [aD (by simp at h ⊢;omega)];rfl
theorem uk {v:aJ} (h:db v=true):0≤fX v∧fX v<10000000000:=by
 unfold fX;cases v with
 | nil=>simp
 | cons c r =>
  simp only [db] at h ⊢;cases hc:c==95 with
  | false=>simp
  | true =>
   rw [hc] at h;simp only [cond_true,MG,decide_eq_true_eq,Bool.not_eq_true'] at h ⊢;have hne:r≠[]:=by intro e;rw [e] at h;simp at h
   obtain ⟨a,b⟩:=ub hne h.2.2.2 h.2.1;unfold oy;rw [a];simp only;omega
def eG (n:Nat):aJ:=95::dec n
theorem mC {n:Nat} (h1:1≤n) (h2:n<1000000000):db (eG n)=true∧fX (eG n)=n:=by
 have hd:=tL n;have hl:=qD 8 n (by omega);have hne:dec n≠[]:=Kx n;constructor
 ·show (decide (1≤(dec n).length)&&(decide ((dec n).length≤9)&&(!((dec n).getD 0 0==48)&&(dec n).all cq)))=true;simp only [MG,decide_eq_true_eq,Bool.not_eq_true'];refine ⟨List.length_pos_iff.2 hne,hl,?_,hd.1⟩;have hh:=hd.2.1 h1;cases hx:dec n with
  | nil=>exact absurd hx hne
  | cons y z =>
   have:Lib.decDigits n=y::z:=hx;rw [this] at hh;simp at hh ⊢;exact hh
 ·show (oy (dec n)).1=_;unfold oy;rw [(ub hne hd.1 hl).1,Hg]
def oH (l:List Linear):List (aJ×Bool):=l.foldl (fun m q=>(q.Terms.map au.Var).foldl (fun m v=>bW v true m) m) []
theorem E7 {V:Type} (x:aJ) (v:V):∀ m:List (aJ×V),(bW x v m).map (·.1)=if x∈m.map (·.1) then m.map (·.1) else m.map (·.1)++[x]
 | []=>by simp [bW]
 | (k,u)::m=>by
  have ih:=E7 x v m;by_cases h:k=x
  ·simp [bW,h]
  ·simp only [bW,if_neg h,List.map_cons,List.mem_cons,ih,Ne.symm h,false_or];split<;>simp [*]
theorem Gv {V:Type} {x y:aJ} {v:V} {m:List (aJ×V)}:y∈(bW x v m).map (·.1)↔y=x∨y∈m.map (·.1):=by
 rw [E7];by_cases h:x∈m.map (·.1)
 ·rw [if_pos h];exact ⟨.inr,fun h2=>by rcases h2 with rfl | h2;exact h;exact h2⟩
 ·rw [if_neg h,List.mem_append,List.mem_singleton];exact or_comm
theorem Hw {V:Type} {x:aJ} {v:V} {m:List (aJ×V)} (h:(m.map (·.1)).Nodup):((bW x v m).map (·.1)).Nodup:=by
 rw [E7];by_cases hx:x∈m.map (·.1)
 ·rw [if_pos hx];exact h
 ·rw [if_neg hx,List.nodup_append];exact ⟨h,by simp,fun a ha b hb=>by
   have:b=x:=by simpa using hb
   rw [this];rintro rfl;exact hx ha⟩
theorem Gb {V:Type} (x:aJ) (v:V) (m:List (aJ×V)):(bW x v m).length≤m.length+1:=by have:=congrArg List.length (E7 x v m);rw [MM] at this;rw [this];split<;>simp
theorem w5:∀ (vs:List aJ) (m:List (aJ×Bool)),(m.map (·.1)).Nodup→((vs.foldl (fun m v=>bW v true m) m).map (·.1)).Nodup∧(vs.foldl (fun m v=>bW v true m) m).length≤m.length+vs.length ∧
 ∀ y,y∈(vs.foldl (fun m v=>bW v true m) m).map (·.1)↔y∈m.map (·.1)∨y∈vs
 | [],m,h=>⟨h,by simp,fun y=>by simp⟩
 | v::vs,m,h=>by
  obtain ⟨a,b,c⟩:=w5 vs (bW v true m) (Hw h);refine ⟨a,?_,fun y => ?_⟩
  ·have:=Gb v true m;simp only [List.foldl_cons,List.length_cons];omega
  ·simp only [List.foldl_cons];rw [c y,Gv,List.mem_cons];constructor
   ·rintro ((h | h) | h)
    ·exact .inr (.inl h)
    ·exact .inl h
    ·exact .inr (.inr h)
   ·rintro (h | h | h)
    ·exact .inl (.inr h)
    ·exact .inl (.inl h)
    ·exact .inr h
theorem tA:∀ (l:List Linear) (m:List (aJ×Bool)),(∀ q∈l,q.Terms.length≤12)→(m.map (·.1)).Nodup→((l.foldl (fun m q=>(q.Terms.map au.Var).foldl (fun m v=>bW v true m) m) m).map (·.1)).Nodup∧(l.foldl (fun m q=>(q.Terms.map au.Var).foldl (fun m v=>bW v true m) m) m).length≤m.length+12*l.length ∧
 ∀ y,y∈(l.foldl (fun m q=>(q.Terms.map au.Var).foldl (fun m v=>bW v true m) m) m).map (·.1)↔y∈m.map (·.1)∨∃ q∈l,∃ t∈q.Terms,t.Var=y
 | [],m,_,h=>⟨h,by simp,fun y=>by simp⟩
 | q::l,m,hl,h=>by
  obtain ⟨a1,b1,c1⟩:=w5 (q.Terms.map au.Var) m h;obtain ⟨a,b,c⟩:=tA l _ (fun x hx=>hl x (by simp [hx])) a1;have:=hl q (by simp);rw [MM] at b1;refine ⟨a,?_,fun y => ?_⟩
  ·simp only [List.foldl_cons,List.length_cons];omega
  ·simp only [List.foldl_cons];rw [c y,c1 y];constructor
   ·rintro ((h | h) | ⟨q',hq,h⟩)
    ·exact .inl h
    ·obtain ⟨t,ht,e⟩:=List.mem_map.1 h;exact .inr ⟨q,by simp,t,ht,e⟩
    ·exact .inr ⟨q',by simp [hq],h⟩
   ·rintro (h | ⟨q',hq,t,ht,e⟩)
    ·exact .inl (.inl h)
    ·rcases List.mem_cons.1 hq with rfl | hq
     ·exact .inl (.inr (List.mem_map.2 ⟨t,ht,e⟩))
     ·exact .inr ⟨q',hq,t,ht,e⟩
def gu (l:List Linear):List aJ:=Go.Ab.sortS ((oH l).map (·.1))
theorem Ip {x y:aJ} (h:yE x y=true) (hn:x≠y):Op.bytesLess x y=true:=by
 rcases qI x y with h2 | h2 | h2
 ·exact h2
 ·exact absurd h2 hn
 ·exact absurd (yp x y h (J4 h2)) hn
theorem kG {l:List Linear} (hl:∀ q∈l,q.Terms.length≤12):(gu l).Pairwise (fun a b=>Op.bytesLess a b=true)∧(∀ y,y∈gu l↔∃ q∈l,∃ t∈q.Terms,t.Var=y)∧(gu l).length≤12*l.length:=by
 obtain ⟨a,b,c⟩:=tA l [] hl (by simp);have hp:=uW ((oH l).map (·.1));refine ⟨?_,fun y => ?_,?_⟩
 ·have h1:=qZ ((oH l).map (·.1));have h2:(Go.Ab.sortS ((oH l).map (·.1))).Nodup:=hp.nodup_iff.2 a;exact (List.Pairwise.and h1 h2).imp fun h=>Ip h.1 h.2
 ·unfold gu;rw [hp.mem_iff];have:=c y;rw [List.map_nil] at this;exact this.trans ⟨fun h=>h.resolve_left (by simp),.inr⟩
 ·unfold gu;rw [hp.length_eq,MM];have:(oH l).length≤[].length+12*l.length:=b;simpa using this
theorem gf {l:List Linear} (hl:∀ q∈l,q.Terms.length≤12) (hn:l.length≤6000):bB l=some (gu l):=by
 unfold bB;have h1:=de (ε:=List (aJ×Bool)) (ρ:=Empty) (f:=fun s=>s) (fin:=fun i0 s0=>s0) (⟨0,[]⟩:Linear) l (fun q m=>eR.go ((q.Terms.map au.Var).foldl (fun m v=>bW v true m) m)) (fun j s=>True)
  (body:=fun i0 s0 =>
  (jJ (Linear.mk ((l.getD i0 ⟨0,[]⟩).Const) ((l.getD i0 ⟨0,[]⟩).Terms))).bind fun y0 =>
  (dn (σ:=(List (aJ×Bool))) (ε:=(List (aJ×Bool))) (ρ:=Empty) (fun i1 s1 =>
   some (.go (bW (y0.getD i1 []) true s1))
  ) (fun i1 s1=>s1) (y0.length-0) 0 s0).bind <| ca fun u0 =>
  some (.go u0)) (fun _ _=>rfl) [] trivial (fun j s hj _=>⟨by
   have hm:l.getD j ⟨0,[]⟩∈l:=ba _ hj;rw [xO _ (by have:=hl _ hm;show (l.getD j ⟨0,[]⟩).Terms.length≤1000000;omega)];simp only [Option.bind_some];rw [de (ε:=List (aJ×Bool)) (ρ:=Empty) (f:=fun s=>s) (fin:=fun i0 s0=>s0) ([]:aJ) ((l.getD j ⟨0,[]⟩).Terms.map au.Var) (fun v m=>eR.go (bW v true m)) (fun j s=>True) (fun _ _=>rfl) s trivial (fun j s hj _=>⟨rfl,fun _ _=>trivial⟩)];rw [oI (fun v m=>bW v true m)];rfl,fun _ _=>trivial⟩)
 refine (congrArg (fun o:Option (Out (List (aJ×Bool)) Empty)=>Option.bind o _) h1).trans ?_;rw [oI (fun (q:Linear) m=>(q.Terms.map au.Var).foldl (fun m v=>bW v true m) m)];simp only [Option.bind_some,ca];obtain ⟨a,b,c⟩:=tA l [] hl (by simp);have hlen:(oH l).length≤72000:=by have:(oH l).length≤[].length+12*l.length:=b;simp at this;omega
 refine rO (yy (fun seen s=>s=seen.map fun i=>((oH l).getD i ([],false)).1) (fun seen s i hi hnd hni hlt hI => ?_) (fun seen s hnd hall hlt hI => ?_) _ [] [] (by simp) (by simp) (by simp) rfl)
 ·have hsl:seen.length≤(oH l).length:=by have:=nH seen (List.range (oH l).length) hnd (fun x hx=>List.mem_range.2 (hlt x hx));simpa using this
  refine ⟨_,aD (by rw [hI,MM];omega),?_⟩;rw [List.map_append,hI];simp only [List.map_cons,List.map_nil];congr 2;rw [ME,show (oH l)[i]? = some (oH l)[i] from MF hi];rfl
 ·have hp:s.Perm ((oH l).map (·.1)):=by
   rw [hI];have:=(vy ([],false) hnd hall hlt).map (·.1)
   rwa [List.map_map] at this
  unfold lp;have:=hp.length_eq;rw [MM] at this;rw [aD (by omega)];simp only [Option.bind_some];exact congrArg some (yg hp)
def Jp (l:List Linear):Int:=(gu l).foldl (fun n v=>if fX v>n then fX v else n) 0
theorem EW:∀ (vs:List aJ) (n:Int),n≤vs.foldl (fun n v=>if fX v>n then fX v else n) n∧(∀ v∈vs,fX v≤vs.foldl (fun n v=>if fX v>n then fX v else n) n)
 | [],n=>⟨Int.le_refl _,fun v h=>by simp at h⟩
 | v::vs,n=>by
  obtain ⟨a,b⟩:=EW vs (if fX v>n then fX v else n);simp only [List.foldl_cons];refine ⟨?_,fun u hu => ?_⟩
  ·split at a<;>rename_i h<;>simp only [h,if_true,if_false]<;>omega
  ·rcases List.mem_cons.1 hu with rfl | hu
   ·split at a<;>rename_i h<;>simp only [h,if_true,if_false]<;>omega
   ·exact b u hu
theorem gQ {l:List Linear} (hl:∀ q∈l,aA q=true) (hn:l.length≤6000):cy l=some (Jp l):=by
 have hl12:∀ q∈l,q.Terms.length≤12:=fun q hq=>bc (hl q hq);unfold cy;rw [gf hl12 hn];simp only [Option.bind_some];obtain ⟨_,hv,_⟩:=kG hl12;rw [de (ε:=Int) (ρ:=Empty) (f:=fun s=>s) (fin:=fun i0 s0=>s0) ([]:aJ) (gu l) (fun v n=>eR.go (if fX v>n then fX v else n)) (fun j s=>True) (fun _ _=>rfl) 0 trivial (fun j s hj _=>⟨by
  have hm:(gu l).getD j []∈gu l:=ba _ hj;obtain ⟨q,hq,t,ht,e⟩:=(hv _).1 hm;have:=je ((bD (hl q hq)) t ht).2;rw [jB _ (by rw [← e];omega)];rfl,fun _ _=>trivial⟩)]
 rw [oI (fun v n=>if fX v>n then fX v else n)];rfl
def tH (a b:au):Int:=bif (a.C.natAbs:Int)==b.C.natAbs then (bif fX a.Var==fX b.Var then jQ b.Var a.Var else fX b.Var-fX a.Var) else (a.C.natAbs:Int)-b.C.natAbs
theorem sS (a b:au) (ha : -1000000≤a.C∧a.C≤1000000) (hb : -1000000≤b.C∧b.C≤1000000) (na:db a.Var=true) (nb:db b.Var=true):dY a b=some (tH a b):=by
 unfold dY tH;rw [DE ha,DE hb];cases ((a.C.natAbs:Int)==b.C.natAbs) with
 | true =>
  simp only [cond_true];rw [jB _ (by have:=je na;omega),jB _ (by have:=je nb;omega)];simp only [Option.bind_some];cases fX a.Var==fX b.Var with
  | true=>rfl
  | false =>
   have h1:=uk na;have h2:=uk nb;simp only [cond_false];rw [aU (by omega) (by omega)]
 | false =>
  simp only [cond_false];rw [aU (by omega) (by omega)]
theorem Jf {a b:au} (h:tH a b<0):a.C.natAbs≤b.C.natAbs:=by
 unfold tH at h;cases e:((a.C.natAbs:Int)==b.C.natAbs) with
 | true=>have:=eq_of_beq e;omega
 | false=>rw [e] at h;simp only [cond_false] at h;omega
theorem IY {a b:au} (h:¬ tH a b<0):b.C.natAbs≤a.C.natAbs:=by
 unfold tH at h;cases e:((a.C.natAbs:Int)==b.C.natAbs) with
 | true=>have:=eq_of_beq e;omega
 | false=>rw [e] at h;simp only [cond_false] at h;omega
def uL (ts:List au):au:=(ts.drop 1).foldl (fun s t=>bif decide (tH t s<0) then t else s) (ts.getD 0 ⟨[],0⟩)
theorem AL:∀ (ts:List au) (s:au),(ts.foldl (fun s t=>bif decide (tH t s<0) then t else s) s=s∨ts.foldl (fun s t=>bif decide (tH t s<0) then t else s) s∈ts) ∧
 (ts.foldl (fun s t=>bif decide (tH t s<0) then t else s) s).C.natAbs≤s.C.natAbs∧∀ t∈ts,(ts.foldl (fun s t=>bif decide (tH t s<0) then t else s) s).C.natAbs≤t.C.natAbs
 | [],s=>⟨.inl rfl,Nat.le_refl _,fun t h=>by simp at h⟩
 | u::ts,s=>by
  simp only [List.foldl_cons];by_cases h:tH u s<0
  ·obtain ⟨a,b,c⟩:=AL ts u;rw [ML h,cond_true];refine ⟨.inr ?_,Nat.le_trans b (Jf h),fun t ht => ?_⟩
   ·rcases a with a | a
    ·rw [a];simp
    ·exact List.mem_cons_of_mem _ a
   ·rcases List.mem_cons.1 ht with rfl | ht
    ·exact b
    ·exact c t ht
  ·obtain ⟨a,b,c⟩:=AL ts s;rw [MK h,cond_false];refine ⟨a.imp id (List.mem_cons_of_mem _),b,fun t ht => ?_⟩;rcases List.mem_cons.1 ht with rfl | ht
   ·exact Nat.le_trans b (IY h)
   ·exact c t ht
theorem KN {ts:List au} (h:ts≠[]):uL ts∈ts∧∀ t∈ts,(uL ts).C.natAbs≤t.C.natAbs:=by
 cases ts with
 | nil=>exact absurd rfl h
 | cons u ts =>
  obtain ⟨a,b,c⟩:=AL ts u;refine ⟨?_,fun t ht => ?_⟩
  ·show ts.foldl (fun s t=>bif decide (tH t s<0) then t else s) u∈u::ts;rcases a with a | a
   ·rw [a];simp
   ·exact List.mem_cons_of_mem _ a
  ·rcases List.mem_cons.1 ht with rfl | ht
   ·exact b
   ·exact c t ht
theorem tV {q:Linear} (h:aA q=true) (h0:q.Terms≠[]):fO q=some (uL q.Terms):=by
 unfold fO dH;have hlen:0<q.Terms.length:=List.length_pos_iff.2 h0;have hC:=bD h;rw [MK (show ¬ (q.Terms.length:Int)<1 by omega)];simp only [cond_false];rw [aD hlen];have hm0:q.Terms.getD 0 ⟨[],0⟩∈q.Terms:=ba _ hlen;have hc:=rC (ε:=aJ×Int) (ρ:=Empty) (f:=fun s=>s) (fin:=fun i0 s0=>(s0.1,s0.2)) (⟨[],0⟩:au) q.Terms (fun t s=>eR.go (bif decide (tH t ⟨s.1,s.2⟩<0) then (t.Var,t.C) else s)) (fun j s=>(-1000000≤s.2∧s.2≤1000000)∧db s.1=true)
  (body:=fun i0 s0 =>
   (dY (au.mk ((q.Terms.getD i0 ⟨[],0⟩).Var) ((q.Terms.getD i0 ⟨[],0⟩).C)) (au.mk s0.1 s0.2)).bind fun y0 =>
   ((
    bif decide (y0<0) then (
     some (((q.Terms.getD i0 ⟨[],0⟩).Var),((q.Terms.getD i0 ⟨[],0⟩).C))
    ) else (
     some (s0.1,s0.2)
    )
   ):Option (aJ×Int)).bind fun v0 =>
   some (.go (v0.1,v0.2))) (fun _ _=>rfl) 1 (((q.Terms.getD 0 ⟨[],0⟩).Var),((q.Terms.getD 0 ⟨[],0⟩).C)) (hC _ hm0) (fun j s hj1 hj hI=>by
   have hm:q.Terms.getD j ⟨[],0⟩∈q.Terms:=ba _ hj;obtain ⟨c1,c2⟩:=hC _ hm;refine ⟨?_,fun s' hs' => ?_⟩
   ·rw [sS (au.mk ((q.Terms.getD j ⟨[],0⟩).Var) ((q.Terms.getD j ⟨[],0⟩).C)) (au.mk s.1 s.2) c1 hI.1 c2 hI.2];simp only [Option.bind_some];cases decide (tH (q.Terms.getD j ⟨[],0⟩) ⟨s.1,s.2⟩<0)<;>rfl
   ·injection hs' with hs'
    subst hs';cases decide (tH (q.Terms.getD j ⟨[],0⟩) ⟨s.1,s.2⟩<0)
    ·exact hI
    ·exact ⟨c1,c2⟩)
 have hf:∀ (ts:List au) (s:au),cL (σ:=aJ×Int) (ε:=aJ×Int) (ρ:=Empty) (fun t s=>eR.go (bif decide (tH t ⟨s.1,s.2⟩<0) then (t.Var,t.C) else s)) (fun s=>s) ts (s.Var,s.C) =
  .brk ((ts.foldl (fun s t=>bif decide (tH t s<0) then t else s) s).Var,(ts.foldl (fun s t=>bif decide (tH t s<0) then t else s) s).C):=by
  intro ts;induction ts with
  | nil=>intro s;rfl
  | cons t ts ih =>
   intro s;simp only [cL,List.foldl_cons];cases decide (tH t s<0) with
   | true=>exact ih t
   | false=>exact ih s
 rw [hf (q.Terms.drop 1) (q.Terms.getD 0 ⟨[],0⟩)] at hc;refine (congrArg (fun o:Option (Out (aJ×Int) Empty)=>Option.bind (Option.bind o _) _) hc).trans ?_;rfl
abbrev Ms:=List (Int×Int)
theorem xg {V:Type} (d:V) (x y:Int) (v:V):∀ m:List (Int×V),bE d y (bW x v m)=if y=x then v else bE d y m
 | []=>by
  by_cases h:y=x
  ·simp [bW,bE,h]
  ·simp [bW,bE,h,Ne.symm h]
 | (k,u)::m=>by
  have ih:=xg d x y v m;by_cases h:k=x
  ·subst h;by_cases h2:y=k
   ·simp [bW,bE,h2]
   ·simp [bW,bE,h2,Ne.symm h2]
  ·by_cases h2:k=y
   ·subst h2;simp [bW,bE,h]
   ·simp [bW,bE,h,h2,ih]
theorem vf {x y v:Int}:∀ {m:Ms},y∈(bW x v m).map (·.1)↔y=x∨y∈m.map (·.1)
 | []=>by simp [bW]
 | (k,u)::m=>by
  have ih:=vf (x:=x) (y:=y) (v:=v) (m:=m);by_cases h:k=x
  ·subst h;simp [bW]
  ·simp only [bW,if_neg h,List.map_cons,List.mem_cons,ih];exact or_left_comm
theorem C5 {x v:Int}:∀ {m:Ms},(m.map (·.1)).Nodup→((bW x v m).map (·.1)).Nodup
 | [],_=>by simp [bW]
 | (k,u)::m,h=>by
  simp only [List.map_cons,List.nodup_cons] at h;by_cases e:k=x
  ·subst e;simp only [bW,if_true,List.map_cons,List.nodup_cons];exact h
  ·simp only [bW,if_neg e,List.map_cons,List.nodup_cons];refine ⟨fun hm => ?_,C5 h.2⟩;rcases vf.1 hm with h2 | h2
   ·exact e h2
   ·exact h.1 h2
structure fg (m:Ms) (D:Int→Prop) (f:Int→Int):Prop where
 nd:(m.map (·.1)).Nodup
 ks:∀ y,y∈m.map (·.1)↔D y
 at_:∀ y,D y→bE 0 y m=f y
theorem fg.nil:fg [] (fun _=>False) (fun _=>0):=⟨by simp,fun y=>by simp,fun y h=>h.elim⟩
theorem fg.put {m:Ms} {D:Int→Prop} {f:Int→Int} (h:fg m D f) (x v:Int):fg (bW x v m) (fun y=>y=x∨D y) (fun y=>if y=x then v else f y):=by
 refine ⟨C5 h.nd,fun y=>by rw [vf,h.ks],fun y hy => ?_⟩;rw [xg];by_cases e:y=x
 ·rw [if_pos e,if_pos e]
 ·rw [if_neg e,if_neg e];exact h.at_ y (hy.resolve_left e)
theorem fg.congr {m:Ms} {D D':Int→Prop} {f f':Int→Int} (h:fg m D f) (hD:∀ y,D y↔D' y) (hf:∀ y,D y→f y=f' y):fg m D' f' :=
 ⟨h.nd,fun y=>(h.ks y).trans (hD y),fun y hy=>(h.at_ y ((hD y).2 hy)).trans (hf y ((hD y).2 hy))⟩
theorem dX:∀ {m:Ms},(m.map (·.1)).Nodup→∀ {e:Int×Int},e∈m→bE 0 e.1 m=e.2
 | [],_,e,h=>by simp at h
 | (k,u)::m,hn,e,h=>by
  simp only [List.map_cons,List.nodup_cons] at hn;rcases List.mem_cons.1 h with rfl | h
  ·simp [bE]
  ·have:k≠e.1:=fun he=>hn.1 (by rw [he];exact List.mem_map.2 ⟨e,h,rfl⟩);rw [bE,if_neg this];exact dX hn.2 h
theorem yq {m:Ms} (h:(m.map (·.1)).Nodup):m.Nodup:=(List.pairwise_map.1 h).imp fun h e=>h (congrArg _ e)
theorem fg.perm {m m':Ms} {D:Int→Prop} {f:Int→Int} (h:fg m D f) (h':fg m' D f):m.Perm m':=by
 have key:∀ {a b:Ms},fg a D f→fg b D f→∀ e∈a,e∈b:=fun {a b} ha hb e he=>by
  have hk:D e.1:=(ha.ks _).1 (List.mem_map.2 ⟨e,he,rfl⟩);obtain ⟨e',he',e1⟩:=List.mem_map.1 ((hb.ks _).2 hk);have v1:=dX ha.nd he;have v2:=dX hb.nd he';rw [e1,hb.at_ _ hk] at v2;rw [ha.at_ _ hk] at v1;have:e=e':=by refine Prod.ext e1.symm ?_;rw [← v1,← v2]
  rw [this];exact he'
 exact (List.perm_ext_iff_of_nodup (yq h.nd) (yq h'.nd)).2 fun e=>⟨key h h' e,key h' h e⟩
theorem wc {V:Type} (p:Int×V):∀ {l:List (Int×V)},l.Pairwise (fun a b=>a.1≤b.1)→(DV p l).Pairwise (fun a b=>a.1≤b.1)
 | [],_=>by simp [DV]
 | q::l,h=>by
  have h':=List.pairwise_cons.1 h;unfold DV;split
  ·rename_i hle;refine List.pairwise_cons.2 ⟨fun x hx => ?_,h⟩;rcases List.mem_cons.1 hx with rfl | hx
   ·exact hle
   ·exact Int.le_trans hle (h'.1 x hx)
  ·rename_i hle;refine List.pairwise_cons.2 ⟨fun x hx => ?_,wc p h'.2⟩;rcases List.mem_cons.1 ((vk p l).mem_iff.2 hx) with rfl | hx
   ·omega
   ·exact h'.1 x hx
theorem qq {V:Type}:∀ l:List (Int×V),(ksort l).Pairwise (fun a b=>a.1≤b.1)
 | []=>List.Pairwise.nil
 | p::l=>wc p (qq l)
theorem CQ {a b:Ms} (h:a.Perm b) (hn:(a.map (·.1)).Nodup):ksort a=ksort b:=by
 refine List.Perm.eq_of_pairwise (le:=fun a b=>a.1≤b.1) (fun x y hx hy h1 h2 => ?_) (qq a) (qq b) ((jn a).symm.trans (h.trans (jn b)));have e:x.1=y.1:=by omega
 have hx':x∈a:=(jn a).mem_iff.2 hx;have hy':y∈a:=h.mem_iff.2 ((jn b).mem_iff.2 hy);refine Prod.ext e ?_;rw [← dX hn hx',← dX hn hy',e]
theorem fg.ksort_eq {m m':Ms} {D D':Int→Prop} {f f':Int→Int} (h:fg m D f) (h':fg m' D' f') (hD:∀ y,D y↔D' y) (hf:∀ y,D y→f y=f' y):ksort m=ksort m' :=
 CQ (h.perm (h'.congr (fun y=>(hD y).symm) fun y hy=>(hf y ((hD y).2 hy)).symm)) h.nd
theorem fg.ksort {m:Ms} {D:Int→Prop} {f:Int→Int} (h:fg m D f):fg (ksort m) D f:=by have hp:=jn m;refine ⟨(hp.map (·.1)).nodup_iff.1 h.nd,fun y=>by rw [← (hp.map (·.1)).mem_iff,h.ks],fun y hy => ?_⟩;obtain ⟨e,he,e1⟩:=List.mem_map.1 ((h.ks y).2 hy);rw [← e1,dX ((hp.map (·.1)).nodup_iff.1 h.nd) (hp.mem_iff.1 he),← dX h.nd he,e1,h.at_ y hy]
theorem fg.self {m:Ms} (h:(m.map (·.1)).Nodup):fg m (fun y=>y∈m.map (·.1)) (fun y=>bE 0 y m):=⟨h,fun y=>Iff.rfl,fun y _=>rfl⟩
abbrev Rw:=aj
theorem ja {α:Type} {l:List α} {i:Nat} {x d:α} (h:i<l.length):(l.set i x).getD i d=x:=by simp [ME,h]
def Bh (n e:Int):Bool:=e==0&&(decide (n ≥ -1099511627776)&&decide (n≤1099511627776))
theorem gh (n e:Int):bY n e=some (Bh n e):=by
 unfold bY Bh;cases e==0 with
 | false=>rfl
 | true=>cases decide (n≥(-1099511627776))<;>rfl
def GD (r:Rw) (own:Int) (y:Int):Int:=if y∈r.mults.map (·.1) then (mulR (bE 0 y r.mults) own).1 else 0
def Lq (r p:Rw) (own oth:Int) (y:Int):Int:=if y∈p.mults.map (·.1) then (DB [1,oth] [GD r own y,bE 0 y p.mults]).1 else GD r own y
def Kl (r p:Rw) (y:Int):Prop:=y∈r.mults.map (·.1)∨y∈p.mults.map (·.1)
def Gg (r:Rw) (own:Int) (e:Int×Int):Bool := !Bh (mulR e.2 own).1 (mulR e.2 own).2
def Hv (r:Rw) (own oth:Int) (e:Int×Int):Bool := !Bh (DB [1,oth] [GD r own e.1,e.2]).1 (DB [1,oth] [GD r own e.1,e.2]).2
def Kf (r p:Rw) (f:Int→Int):Ms:=ksort (r.mults.map (fun e=>(e.1,f e.1))++(p.mults.filter fun e=>decide (e.1 ∉ r.mults.map (·.1))).map fun e=>(e.1,f e.1))
theorem xl {y:Int}:∀ {a b:Ms},y ∉ a.map (·.1)→bE 0 y (a++b)=bE 0 y b
 | [],b,_=>rfl
 | (k,u)::a,b,h=>by simp only [List.map_cons,List.mem_cons,not_or] at h;rw [List.cons_append,bE,if_neg (fun e=>h.1 e.symm)];exact xl h.2
theorem vh {f:Int→Int} {y:Int}:∀ {a:Ms},y∈a.map (·.1)→∀ b,bE 0 y (a.map (fun e=>(e.1,f e.1))++b)=f y
 | [],h,b=>by simp at h
 | (k,u)::a,h,b=>by
  simp only [List.map_cons,List.cons_append,bE];by_cases e:k=y
  ·rw [if_pos e,e]
  ·rw [if_neg e];exact vh ((List.mem_cons.1 h).resolve_left fun h2=>e h2.symm) b
theorem BO {r p:Rw} (hr:(r.mults.map (·.1)).Nodup) (hp:(p.mults.map (·.1)).Nodup) (f:Int→Int) :
 fg (r.mults.map (fun e=>(e.1,f e.1))++(p.mults.filter fun e=>decide (e.1 ∉ r.mults.map (·.1))).map fun e=>(e.1,f e.1)) (Kl r p) f:=by
 refine ⟨?_,fun y => ?_,fun y hy => ?_⟩
 ·rw [List.map_append,List.map_map,List.map_map,List.nodup_append];refine ⟨hr,(List.Sublist.map _ List.filter_sublist).nodup hp,fun a ha b hb => ?_⟩;obtain ⟨e,he,e1⟩:=List.mem_map.1 hb;have he:=(List.mem_filter.1 he).2;rintro rfl;have e1:e.1=a:=e1;rw [e1] at he;exact (MJ he) ha
 ·rw [List.map_append,List.map_map,List.map_map,List.mem_append];constructor
  ·rintro (h | h)
   ·exact .inl h
   ·obtain ⟨e,he,e1⟩:=List.mem_map.1 h;exact .inr (List.mem_map.2 ⟨e,(List.mem_filter.1 he).1,e1⟩)
  ·rintro (h | h)
   ·exact .inl h
   ·by_cases h2:y∈r.mults.map (·.1)
    ·exact .inl h2
    ·obtain ⟨e,he,e1⟩:=List.mem_map.1 h;refine .inr (List.mem_map.2 ⟨e,List.mem_filter.2 ⟨he,ML (by rw [show e.1=y from e1];exact h2)⟩,e1⟩)
 ·by_cases h2:y∈r.mults.map (·.1)
  ·exact vh h2 _
  ·rw [xl (by rw [List.map_map];exact h2)];obtain ⟨e,he,e1⟩:=List.mem_map.1 (hy.resolve_left h2);have:=vh (f:=f) (y:=y) (a:=p.mults.filter fun e=>decide (e.1 ∉ r.mults.map (·.1))) (List.mem_map.2 ⟨e,List.mem_filter.2 ⟨he,ML (by rw [show e.1=y from e1];exact h2)⟩,e1⟩) []
   rwa [List.append_nil] at this
theorem EJ {r p:Rw} (hr:(r.mults.map (·.1)).Nodup) (hp:(p.mults.map (·.1)).Nodup) (f:Int→Int):fg (Kf r p f) (Kl r p) f:=(BO hr hp f).ksort
theorem fg.out {m:Ms} {D:Int→Prop} {f:Int→Int} (h:fg m D f) {y:Int} (hy:¬ D y):bE 0 y m=0:=by
 have hn:y ∉ m.map (·.1):=fun h2=>hy ((h.ks y).1 h2);have:=xl (b:=[]) hn
 rwa [List.append_nil] at this
theorem BJ {α:Type} (d:α) {m:List α} {seen:List Nat} (p:α→Bool) (h1:seen.Nodup) (h2:∀ i,i<m.length→i∈seen) (h3:∀ i∈seen,i<m.length):(seen.any fun j=>p (m.getD j d))=m.any p:=by
 have:=(vy d h1 h2 h3).any_eq (f:=p)
 rwa [List.any_map] at this
theorem p6 {m:Ms} {seen:List Nat} (h1:seen.Nodup) (h2:∀ i,i<m.length→i∈seen) (h3:∀ i∈seen,i<m.length) (y:Int):y∈seen.map (fun j=>(m.getD j (0,0)).1)↔y∈m.map (·.1):=by
 have:=((vy (0,0) h1 h2 h3).map (·.1)).mem_iff (a:=y)
 rwa [List.map_map] at this
theorem getD_at {α:Type} (d:α) {l:List α} {i:Nat} (h:i<l.length):l.getD i d=l[i]:=by rw [ME,MF h];rfl
def yj (r p:Rw) (k:Int):Rw :=
 bif r.lost||(p.lost || !Bh (nu r.scale p.scale).1 (nu r.scale p.scale).2) then aj.mk r.q r.mults r.scale true
 else aj.mk r.q (Kf r p (Lq r p (aK ((nu r.scale p.scale).1.tdiv r.scale)) (aK ((aK (0-(aK ((nu r.scale p.scale).1.tdiv p.scale))))*k)))) (nu r.scale p.scale).1
  (r.mults.any (Gg r (aK ((nu r.scale p.scale).1.tdiv r.scale)))||p.mults.any (Hv r (aK ((nu r.scale p.scale).1.tdiv r.scale)) (aK ((aK (0-(aK ((nu r.scale p.scale).1.tdiv p.scale))))*k))))
def RL (rows:List Rw) (i:Nat) (r:Rw) (b:Bool):List Rw:=rows.set i (aj.mk r.q r.mults r.scale b)
theorem D4 (rows:List Rw) (i:Nat) (r:Rw) (b:Bool):(RL rows i r b).length=rows.length:=by simp [RL]
theorem GF {rows:List Rw} {i:Nat} (hi:i<rows.length) (r:Rw) (b:Bool):(RL rows i r b).getD i (⟨⟨0,[]⟩,[],0,false⟩)=aj.mk r.q r.mults r.scale b:=ja hi
theorem wX (rows:List Rw) (i:Nat) (r:Rw) (b:Bool) (x:Rw):(RL rows i r b).set i x=rows.set i x:=by simp [RL]
theorem IW {rows:List Rw} {i:Nat} {p:Rw} {k:Int} (hi:i<rows.length) {r:Rw} (er:rows.getD i (⟨⟨0,[]⟩,[],0,false⟩)=r) (hr:(r.mults.map (·.1)).Nodup) (hp:(p.mults.map (·.1)).Nodup) (hs1:r.scale≠0) (hs2:p.scale≠0) :
 dt i p k rows=some (rows.set i (yj r p k)):=by
 unfold dt yj;rw [aD hi,er,xM];simp only [Option.bind_some];generalize hown:aK ((nu r.scale p.scale).1.tdiv r.scale)=own;generalize hoth:aK ((aK (0-(aK ((nu r.scale p.scale).1.tdiv p.scale))))*k)=oth;generalize hsc:(nu r.scale p.scale).1=sc;generalize hse:(nu r.scale p.scale).2=se;cases hl:r.lost with
 | true=>rfl
 | false =>
  cases hl2:p.lost with
  | true=>rfl
  | false =>
   simp only [cond_false,Bool.false_or];rw [gh];simp only [Option.bind_some];cases hsm:Bh sc se with
   | false=>rfl
   | true =>
    simp only [cond_true,Bool.not_true,cond_false];rw [aD hs1,aD hs2];have hrows:rows=RL rows i r false:=by
     have e2:rows[i]=r:=by rw [← getD_at (⟨⟨0,[]⟩,[],0,false⟩) hi];exact er
     unfold RL;have:aj.mk r.q r.mults r.scale false=rows[i]:=by rw [e2,← hl]
     rw [this,List.set_getElem_self]
    refine rO (yy (fun seen s=>s.1=RL rows i r (seen.any fun j=>Gg r own (r.mults.getD j (0,0)))∧fg s.2 (fun y=>y∈seen.map (fun j=>(r.mults.getD j (0,0)).1)) (GD r own)) (fun seen s i' hi' hnd hni hlt hI => ?_) (fun seen s hnd hall hlt hI => ?_) _ [] _ (by simp) (by simp) (by simp) ⟨hrows,?_⟩)
    ·obtain ⟨h1,h2⟩:=hI;have hm:r.mults[i']∈r.mults:=List.getElem_mem hi';have hg:r.mults.getD i' (0,0)=r.mults[i']:=getD_at _ hi';generalize he:r.mults[i']=e at hm hg ⊢;rw [nl];simp only [Option.bind_some];rw [h1,aD (by rw [D4];exact hi),GF hi,wX];refine ⟨(RL rows i r ((seen++[i']).any fun j=>Gg r own (r.mults.getD j (0,0))),bW e.1 (mulR e.2 own).1 s.2),?_,rfl,?_⟩
     ·rw [List.any_append];simp only [List.any_cons,List.any_nil,Bool.or_false,hg];cases hb:seen.any fun j=>Gg r own (r.mults.getD j (0,0)) with
      | true=>rfl
      | false =>
       simp only [cond_false,Bool.false_or];rw [gh];simp only [Option.bind_some,wX];rfl
     ·refine (h2.put e.1 (mulR e.2 own).1).congr (fun y => ?_) fun y hy => ?_
      ·rw [List.map_append,List.mem_append];simp only [List.map_cons,List.map_nil,List.mem_singleton,hg];exact or_comm
      ·by_cases ey:y=e.1
       ·rw [if_pos ey,ey];unfold GD;rw [if_pos (List.mem_map.2 ⟨e,hm,rfl⟩),dX hr hm]
       ·rw [if_neg ey]
    ·obtain ⟨h1,h2⟩:=hI;rw [BJ (0,0) (Gg r own) hnd hall hlt] at h1;have h2:fg s.2 (fun y=>y∈r.mults.map (·.1)) (GD r own):=h2.congr (fun y=>p6 hnd hall hlt y) fun y _=>rfl;generalize hB:r.mults.any (Gg r own)=B at h1;refine rO (yy (fun seen t=>t.1=RL rows i r (B||seen.any fun j=>Hv r own oth (p.mults.getD j (0,0)))∧fg t.2 (fun y=>y∈r.mults.map (·.1)∨y∈seen.map (fun j=>(p.mults.getD j (0,0)).1)) (fun y=>if y∈seen.map (fun j=>(p.mults.getD j (0,0)).1) then Lq r p own oth y else GD r own y)) (fun seen t i' hi' hnd hni hlt hI => ?_) (fun seen t hnd hall hlt hI => ?_) _ [] _ (by simp) (by simp) (by simp) ⟨by simpa using h1,?_⟩)
     ·obtain ⟨g1,g2⟩:=hI;have hm:p.mults[i']∈p.mults:=List.getElem_mem hi';have hg:p.mults.getD i' (0,0)=p.mults[i']:=getD_at _ hi';have hns:p.mults[i'].1 ∉ seen.map (fun j=>(p.mults.getD j (0,0)).1):=fun hc=>by
       obtain ⟨j,hj,ej⟩:=List.mem_map.1 hc;have hjl:=hlt j hj;rw [getD_at _ hjl] at ej;have hpw:=List.pairwise_iff_getElem.1 (show (p.mults.map (·.1)).Pairwise (· ≠ ·) from hp);have hne:j≠i':=fun e=>hni (e ▸ hj);rcases Nat.lt_or_ge j i' with h | h
       ·exact hpw j i' (by simpa using hjl) (by simpa using hi') h (by simpa using ej)
       ·exact hpw i' j (by simpa using hi') (by simpa using hjl) (by omega) (by simpa using ej.symm)
      generalize he:p.mults[i']=e at hm hg hns ⊢;have hv:bE 0 e.1 t.2=GD r own e.1:=by
       by_cases hk:e.1∈r.mults.map (·.1)
       ·rw [g2.at_ _ (.inl hk),if_neg hns]
       ·rw [g2.out (fun h=>h.elim hk hns)];unfold GD;rw [if_neg hk]
      rw [hv,wT];simp only [Option.bind_some];rw [g1,aD (by rw [D4];exact hi),GF hi,wX];refine ⟨(RL rows i r (B||(seen++[i']).any fun j=>Hv r own oth (p.mults.getD j (0,0))),bW e.1 (DB [1,oth] [GD r own e.1,e.2]).1 t.2),?_,rfl,?_⟩
      ·rw [List.any_append];simp only [List.any_cons,List.any_nil,Bool.or_false,hg];cases hb:(B||seen.any fun j=>Hv r own oth (p.mults.getD j (0,0))) with
       | true =>
        rw [← Bool.or_assoc,hb];rfl
       | false =>
        simp only [cond_false];rw [← Bool.or_assoc,hb,Bool.false_or,gh];simp only [Option.bind_some,wX];rfl
      ·refine (g2.put e.1 (DB [1,oth] [GD r own e.1,e.2]).1).congr (fun y => ?_) fun y hy => ?_
       ·rw [List.map_append,List.mem_append];simp only [List.map_cons,List.map_nil,List.mem_singleton,hg];constructor
        ·rintro (h | h | h)
         ·exact .inr (.inr h)
         ·exact .inl h
         ·exact .inr (.inl h)
        ·rintro (h | h | h)
         ·exact .inr (.inl h)
         ·exact .inr (.inr h)
         ·exact .inl h
       ·rw [List.map_append];simp only [List.map_cons,List.map_nil,List.mem_append,List.mem_singleton,hg];by_cases ey:y=e.1
        ·rw [if_pos ey,if_pos (.inr ey),ey];unfold Lq;rw [if_pos (List.mem_map.2 ⟨e,hm,rfl⟩),dX hp hm]
        ·rw [if_neg ey];by_cases h:y∈seen.map (fun j=>(p.mults.getD j (0,0)).1)
         ·rw [if_pos h,if_pos (.inl h)]
         ·rw [if_neg h,if_neg (fun h2=>h2.elim h ey)]
     ·obtain ⟨g1,g2⟩:=hI;rw [BJ (0,0) (Hv r own oth) hnd hall hlt] at g1;have hk:ksort t.2=Kf r p (Lq r p own oth):=by
       refine g2.ksort_eq (BO hr hp (Lq r p own oth)) (fun y => ?_) fun y hy => ?_
       ·unfold Kl;rw [p6 hnd hall hlt]
       ·by_cases h:y∈seen.map (fun j=>(p.mults.getD j (0,0)).1)
        ·rw [if_pos h]
        ·rw [if_neg h];unfold Lq;rw [if_neg (fun h2=>h ((p6 hnd hall hlt y).2 h2))]
      rw [g1,aD (by rw [D4];exact hi),GF hi,wX,aD (by simpa using hi),hk,ja hi,List.set_set]
     ·refine h2.congr (fun y=>by simp) fun y _=>by simp
    ·exact ⟨by simp,fun y=>by simp,fun y hy=>by simp at hy⟩
theorem AX {α ρ:Type} (d:α) (ok:α→Bool) (g:α→α) (R:List α→ρ) {body:Int×List α→Option (eR (Int×List α) (List α) ρ)} (n:Nat) (I:α→Prop)
 (h:∀ (i:Nat) (l:List α),l.length=n→i<n→I (l.getD i d)→body ((i:Int),l)=some (bif ok (l.getD i d) then .go (((i+1:Nat):Int),l.set i (g (l.getD i d))) else .ret (R (l.set i (g (l.getD i d))))))
 (he:∀ l:List α,l.length=n→body ((n:Int),l)=some (.brk l)):∀ (k i N:Nat) (l:List α),i+k=n→k<N→l.length=n→(∀ x∈l.drop i,I x) →
 gn body N ((i:Int),l)=some (.brk (l.take i++(l.drop i).map g))∧(l.drop i).all ok=true∨(∃ l',gn body N ((i:Int),l)=some (.ret (R l')))∧(l.drop i).all ok=false
 | 0,i,N,l,h1,h2,h3,_=>by
  obtain ⟨N,rfl⟩:∃ j,N=j+1:=⟨N-1,by omega⟩;have hi:i=n:=by omega
  subst hi;left;rw [List.drop_of_length_le (by omega),List.take_of_length_le (by omega)];simp only [gn];rw [he l h3];simp [tN]
 | k+1,i,N,l,h1,h2,h3,hI=>by
  obtain ⟨N,rfl⟩:∃ j,N=j+1:=⟨N-1,by omega⟩;have hil:i<l.length:=by omega
  have hdrop:l.drop i=l[i]::l.drop (i+1):=List.drop_eq_getElem_cons hil;have hg:l.getD i d=l[i]:=getD_at d hil;have hIi:I (l.getD i d):=by rw [hg];exact hI _ (by rw [hdrop];exact List.mem_cons_self ..)
  have hb:=h i l h3 (by omega) hIi;simp only [gn];rw [hb,hg,hdrop];cases ho:ok l[i] with
  | false=>exact .inr ⟨⟨_,rfl⟩,by rw [List.all_cons,ho];rfl⟩
  | true =>
   simp only [cond_true,Option.bind_some,tN];have hd2:(l.set i (g l[i])).drop (i+1)=l.drop (i+1):=List.drop_set_of_lt (by omega);have ht2:(l.set i (g l[i])).take (i+1)=l.take i++[g l[i]]:=by rw [List.take_add_one,List.take_set_of_le (by omega)];simp [hil]
   have ih:=AX d ok g R n I h he k (i+1) N (l.set i (g l[i])) (by omega) (by omega) (by simpa using h3) (fun x hx=>by rw [hd2] at hx;exact hI x (by rw [hdrop];exact List.mem_cons_of_mem _ hx));rw [hd2,ht2] at ih;rcases ih with ⟨e1,e2⟩ | ⟨e1,e2⟩
   ·left;refine ⟨?_,by rw [List.all_cons,ho,e2];rfl⟩;rw [e1,List.map_cons,List.append_assoc];rfl
   ·right;exact ⟨e1,by rw [List.all_cons,ho,e2];rfl⟩
def tK (x:aJ) (by_ l:Linear):Linear:=bif cf l x==0 then l else (uB [one x by_] l).1
def iT (x:aJ) (by_ l:Linear):Bool:=cf l x==0||(uB [one x by_] l).2==0
theorem EK {x:aJ} {by_:Linear} (hx:db x=true) (hb:aA by_=true):∀ b∈[one x by_],okB b:=fun b h=>by
 have:b=one x by_:=by simpa using h
 subst this;exact ⟨by have:=je hx;show x.length≤1000000;omega,mz hb,by show ([]:aJ).length≤1000000;simp,by intro l h;cases h⟩
abbrev wv:Bind:=⟨0,[],⟨0,[]⟩,⟨[],[]⟩,[]⟩
abbrev qg:Rw:=⟨⟨0,[]⟩,[],0,false⟩
theorem Ha {i:Nat} {bs:List Bind} {x:aJ} {by_:Linear} (hi:i<bs.length) (hx:db x=true) (hb:aA by_=true) (hv:aA (bs.getD i wv).Dim=true) :
 cA i bs x [one x by_]=some (iT x by_ (bs.getD i wv).Dim,bs.set i (Bind.mk (bs.getD i wv).Kind (bs.getD i wv).Var (tK x by_ (bs.getD i wv).Dim) (bs.getD i wv).Row (bs.getD i wv).Elem)):=by
 unfold cA iT tK;rw [aD hi,kq];simp only [Option.bind_some];have hg:bs.getD i wv=bs[i]:=getD_at wv hi;cases h0:cf (bs.getD i wv).Dim x==0 with
 | true =>
  simp only [cond_true,Bool.true_or];rw [LI,hg,List.set_getElem_self]
 | false =>
  simp only [cond_false,Bool.false_or];rw [qM _ _ (mz hv) (EK hx hb)];rfl
theorem DO {i:Nat} {rows:List Rw} {x:aJ} {by_:Linear} (hi:i<rows.length) (hx:db x=true) (hb:aA by_=true) (hv:aA (rows.getD i qg).q=true) :
 cp i rows x [one x by_]=some (iT x by_ (rows.getD i qg).q,rows.set i (aj.mk (tK x by_ (rows.getD i qg).q) (rows.getD i qg).mults (rows.getD i qg).scale (rows.getD i qg).lost)):=by
 unfold cp iT tK;rw [aD hi,kq];simp only [Option.bind_some];have hg:rows.getD i qg=rows[i]:=getD_at qg hi;cases h0:cf (rows.getD i qg).q x==0 with
 | true =>
  simp only [cond_true,Bool.true_or];rw [show aj.mk (rows.getD i qg).q (rows.getD i qg).mults (rows.getD i qg).scale (rows.getD i qg).lost=rows.getD i qg from rfl,hg,List.set_getElem_self]
 | false =>
  simp only [cond_false,Bool.false_or];rw [qM _ _ (mz hv) (EK hx hb)];rfl
def jO (x:aJ) (by_:Linear) (b:Bind):Bind:=Bind.mk b.Kind b.Var (tK x by_ b.Dim) b.Row b.Elem
def JV (x:aJ) (by_:Linear) (r:Rw):Rw:=aj.mk (tK x by_ r.q) r.mults r.scale r.lost
def rW (x:aJ) (by_:Linear) (i:Nat) (qs ds:List Linear):Bool:=aA by_&&(ds.all (iT x by_)&&(qs.drop i).all (iT x by_))
theorem put_eq {x:aJ} {by_:Linear} {i:Nat} {nx:Int} {rows:List Rw} {bs:List Bind} (hx:db x=true) (hk:I6 by_) (hi:i≤rows.length) (hl1:rows.length≤1000000) (hl2:bs.length≤2000000000)
 (hr:∀ r∈rows,aA r.q=true) (hb:∀ b∈bs,aA b.Dim=true) :
 (rW x by_ i (rows.map (·.q)) (bs.map (·.Dim))=true∧br x by_ (i:Int) nx rows bs=some (0,rows.take i++(rows.drop i).map (JV x by_),bs.map (jO x by_)++[one x by_])) ∨
 (rW x by_ i (rows.map (·.q)) (bs.map (·.Dim))=false∧∃ r' b',br x by_ (i:Int) nx rows bs=some (3,r',b')):=by
 unfold br rW;rw [fa by_ hk.1 hk.2];cases hv:aA by_ with
 | false=>exact .inr ⟨rfl,_,_,rfl⟩
 | true =>
  simp only [Option.bind_some,cond_true,Bool.true_and];have h1:=AX (ρ:=Int×List Rw×List Bind) wv (fun b=>iT x by_ b.Dim) (jO x by_) (fun l=>(3,rows,l)) bs.length (fun b=>aA b.Dim=true)
   (body:=fun s0 =>
   bif decide (s0.1<((bs.length:Nat):Int)) then (
    bf (0≤s0.1∧s0.1<(s0.2.length:Int)) <|
    (cA s0.1.toNat s0.2 x [(Bind.mk 1 x by_ (Shape.mk [] []) [])]).bind fun y1 =>
    bif y1.1 then (
     some (.go ((aK (s0.1+1)),y1.2))
    ) else (
     some (.ret (3,rows,y1.2))
    )
   ) else (
    some (.brk s0.2)
   )) (fun j l hl hj hIj=>by
    simp only;rw [ML (by omega),cond_true,aD ⟨by omega,by omega⟩,Int.toNat_natCast,show (Bind.mk 1 x by_ (Shape.mk [] []) [])=one x by_ from rfl,Ha (by omega) hx hv hIj];simp only [Option.bind_some];rw [aU (by omega) (by omega)];cases iT x by_ (l.getD j wv).Dim<;>rfl) (fun l hl=>by
    simp only;rw [MK (by omega)];rfl) bs.length 0 4294967296 bs (by omega) (by omega) rfl (fun b h=>hb b (by simpa using h))
  rcases h1 with ⟨e1,a1⟩ | ⟨⟨l',e1⟩,a1⟩
  ·rw [List.drop_zero,List.take_zero,List.nil_append] at e1;rw [List.drop_zero] at a1;have a1':(bs.map (·.Dim)).all (iT x by_)=true:=by rw [List.all_map];exact a1
   rw [a1',Bool.true_and];have h2:=AX (ρ:=Int×List Rw×List Bind) qg (fun r=>iT x by_ r.q) (JV x by_) (fun l=>(3,l,bs.map (jO x by_))) rows.length (fun r=>aA r.q=true)
    (body:=fun s1 =>
    bif decide (s1.1<((s1.2.length:Nat):Int)) then (
     bf (0≤s1.1∧s1.1<(s1.2.length:Int)) <|
     (cp s1.1.toNat s1.2 x [(Bind.mk 1 x by_ (Shape.mk [] []) [])]).bind fun y2 =>
     bif y2.1 then (
      some (.go ((aK (s1.1+1)),y2.2))
     ) else (
      some (.ret (3,y2.2,bs.map (jO x by_)))
     )
    ) else (
     some (.brk s1.2)
    )) (fun j l hl hj hIj=>by
     simp only;rw [ML (by omega),cond_true,aD ⟨by omega,by omega⟩,Int.toNat_natCast,show (Bind.mk 1 x by_ (Shape.mk [] []) [])=one x by_ from rfl,DO (by omega) hx hv hIj];simp only [Option.bind_some];rw [aU (by omega) (by omega)];cases iT x by_ (l.getD j qg).q<;>rfl) (fun l hl=>by
     simp only;rw [hl,MK (by omega)];rfl) (rows.length-i) i 4294967296 rows (by omega) (by omega) rfl (fun r h=>hr r (List.mem_of_mem_drop h))
   rcases h2 with ⟨e2,a2⟩ | ⟨⟨l',e2⟩,a2⟩
   ·left;refine ⟨by rw [← List.map_drop,List.all_map];exact a2,?_⟩;refine (congrArg (fun o:Option (Out (List Bind) (Int×List Rw×List Bind))=>Option.bind o _) e1).trans ?_;simp only [Option.bind_some,Sh.aft];refine (congrArg (fun o:Option (Out (List Rw) (Int×List Rw×List Bind))=>Option.bind o _) e2).trans ?_;simp only [Option.bind_some,Sh.aft];rw [aD (by simp),aD (by simp;omega)];rfl
   ·right;refine ⟨by rw [← List.map_drop,List.all_map];exact a2,l',bs.map (jO x by_),?_⟩;refine (congrArg (fun o:Option (Out (List Bind) (Int×List Rw×List Bind))=>Option.bind o _) e1).trans ?_;simp only [Option.bind_some,Sh.aft];refine (congrArg (fun o:Option (Out (List Rw) (Int×List Rw×List Bind))=>Option.bind o _) e2).trans ?_;rfl
  ·right;rw [List.drop_zero] at a1;have a1':(bs.map (·.Dim)).all (iT x by_)=false:=by rw [List.all_map];exact a1
   refine ⟨by rw [a1',Bool.false_and],rows,l',?_⟩;refine (congrArg (fun o:Option (Out (List Bind) (Int×List Rw×List Bind))=>Option.bind o _) e1).trans ?_;rfl
theorem Ex {α ρ:Type} (d:α) (g:α→α) {body:Int×List α→Option (eR (Int×List α) (List α) ρ)} (n:Nat) (I:α→Prop)
 (h:∀ (i:Nat) (l:List α),l.length=n→i<n→I (l.getD i d)→body ((i:Int),l)=some (.go (((i+1:Nat):Int),l.set i (g (l.getD i d)))))
 (he:∀ l:List α,l.length=n→body ((n:Int),l)=some (.brk l)):∀ (k i N:Nat) (l:List α),i+k=n→k<N→l.length=n→(∀ x∈l.drop i,I x) →
 gn body N ((i:Int),l)=some (.brk (l.take i++(l.drop i).map g))
 | 0,i,N,l,h1,h2,h3,_=>by
  obtain ⟨N,rfl⟩:∃ j,N=j+1:=⟨N-1,by omega⟩;have hi:i=n:=by omega
  subst hi;rw [List.drop_of_length_le (by omega),List.take_of_length_le (by omega)];simp only [gn];rw [he l h3];simp [tN]
 | k+1,i,N,l,h1,h2,h3,hI=>by
  obtain ⟨N,rfl⟩:∃ j,N=j+1:=⟨N-1,by omega⟩;have hil:i<l.length:=by omega
  have hdrop:l.drop i=l[i]::l.drop (i+1):=List.drop_eq_getElem_cons hil;have hg:l.getD i d=l[i]:=getD_at d hil;have hIi:I (l.getD i d):=by rw [hg];exact hI _ (by rw [hdrop];exact List.mem_cons_self ..)
  have hb:=h i l h3 (by omega) hIi;simp only [gn];rw [hb,hg,hdrop];simp only [Option.bind_some,tN];have hd2:(l.set i (g l[i])).drop (i+1)=l.drop (i+1):=List.drop_set_of_lt (by omega);have ht2:(l.set i (g l[i])).take (i+1)=l.take i++[g l[i]]:=by rw [List.take_add_one,List.take_set_of_le (by omega)];simp [hil]
  have ih:=Ex d g n I h he k (i+1) N (l.set i (g l[i])) (by omega) (by omega) (by simpa using h3) (fun x hx=>by rw [hd2] at hx;exact hI x (by rw [hdrop];exact List.mem_cons_of_mem _ hx));rw [hd2,ht2] at ih;rw [ih,List.map_cons,List.append_assoc];rfl
structure pX (n:Int) (r:Rw):Prop where
 v:aA r.q=true
 nd:(r.mults.map (·.1)).Nodup
 sc:r.scale≠0
 ks:∀ y∈r.mults.map (·.1),0≤y∧y<n
theorem Fm (r p:Rw) (k:Int):(yj r p k).q=r.q:=by unfold yj;cases r.lost||(p.lost || !Bh (nu r.scale p.scale).1 (nu r.scale p.scale).2)<;>rfl
theorem Ke {a b:Int} (ha:a≠0) (hb:b≠0) (h:Bh (nu a b).1 (nu a b).2=true):(nu a b).1≠0:=by
 have h2:(nu a b).2=0:=by unfold Bh at h;simp only [MG] at h;exact eq_of_beq h.1
 clear h;unfold nu at h2 ⊢;cases hi:kj a&&kj b with
 | false=>rw [hi] at h2;simp at h2
 | true =>
  rw [hi] at h2;have e1:(a==0)=false:=by simpa using ha
  have e2:(b==0)=false:=by simpa using hb
  simp only [cond_true,e1,e2,Bool.or_false,cond_false] at h2 ⊢;unfold mulR at h2 ⊢;cases hj:kj (((a.natAbs / Nat.gcd a.natAbs b.natAbs:Nat)):Int)&&(kj (b.natAbs:Int)&&kj ((((a.natAbs / Nat.gcd a.natAbs b.natAbs:Nat)):Int)*(b.natAbs:Int))) with
  | false=>rw [hj] at h2;simp at h2
  | true =>
   simp only [cond_true];have hg:Nat.gcd a.natAbs b.natAbs≤a.natAbs:=Nat.gcd_le_left _ (by omega);have hg0:0<Nat.gcd a.natAbs b.natAbs:=Nat.pos_of_ne_zero (Nat.gcd_ne_zero_left (by omega));have h3:0<a.natAbs / Nat.gcd a.natAbs b.natAbs:=Nat.div_pos hg hg0;exact Int.mul_ne_zero (by omega) (by omega)
theorem HG {n:Int} {r p:Rw} (hr:pX n r) (hp:pX n p) (k:Int):pX n (yj r p k):=by
 refine ⟨by rw [Fm];exact hr.v,?_,?_,?_⟩<;>unfold yj<;>cases hc:r.lost||(p.lost || !Bh (nu r.scale p.scale).1 (nu r.scale p.scale).2)
 ·exact (EJ hr.nd hp.nd _).nd
 ·exact hr.nd
 ·simp only [Bool.or_eq_false_iff,Bool.not_eq_false'] at hc;exact Ke hr.sc hp.sc hc.2.2
 ·exact hr.sc
 ·intro y hy;rcases ((EJ hr.nd hp.nd _).ks y).1 hy with h | h
  ·exact hr.ks y h
  ·exact hp.ks y h
 ·exact hr.ks
theorem ry {α β ρ:Type} (c:α→Bool) (f:α→β):∀ (ts:List α) (acc:List β),cL (ε:=List β) (ρ:=ρ) (fun u s=>eR.go (bif c u then s else s++[f u])) (fun s=>s) ts acc = .brk (acc++(ts.filter fun u => !c u).map f)
 | [],acc=>by simp [cL]
 | u::ts,acc=>by
  simp only [cL];rw [ry c f ts];cases h:c u with
  | true=>simp [h]
  | false=>simp [h]
def Fh (t:au) (q:Linear):Linear:=Linear.mk (-t.C*q.Const) ((q.Terms.filter fun u => !(u.Var==t.Var)).map fun u=>au.mk u.Var (-t.C*u.C))
def gU (t:au) (p:Rw) (r:Rw):Rw:=bif cf r.q t.Var==0 then r else yj r p (cf r.q t.Var*t.C)
theorem IJ {l:Linear} (h:aA l=true) (v:aJ) : -1000000≤cf l v∧cf l v≤1000000:=by
 by_cases h0:cf l v=0
 ·omega
 ·obtain ⟨t,ht,_,e⟩:=uC (show kv v l.Terms≠0 from h0);have:=(bD h t ht).1;have e:t.C=cf l v:=e;omega
theorem unit_eq {i:Nat} {t:au} {nx:Int} {rows:List Rw} {bs:List Bind} (hi:i<rows.length) (hl:rows.length≤1000000) (hr:∀ r∈rows,pX rows.length r) (ht:t.C=1∨t.C = -1) :
 bL (i:Int) t nx rows bs=(br t.Var (Fh t (rows.getD i qg).q) (i:Int) nx (rows.take (i+1)++(rows.drop (i+1)).map (gU t (rows.getD i qg))) bs).bind fun y=>some (y.1,y.2.1,y.2.2):=by
 unfold bL;have hp:=hr _ (ba qg hi);rw [aD ⟨by omega,by omega⟩,Int.toNat_natCast,aD hi];generalize hP:rows.getD i qg=p at hp;have hC:=bD hp.v;have hlen:=bc hp.v;have h1:=de (ε:=List au) (ρ:=Empty) (f:=fun s=>s) (fin:=fun i0 s0=>s0) (⟨[],0⟩:au) p.q.Terms (fun u s=>eR.go (bif u.Var==t.Var then s else s++[au.mk u.Var (-t.C*u.C)])) (fun j s=>s.length≤j)
  (body:=fun i0 s0=>((
   bif (((p.q.Terms).getD i0 ⟨[],0⟩).Var==t.Var) then (
    some s0
   ) else (
    bf ((s0.length+1)*24≤140737488355328) <|
    some (s0++[(au.mk (((p.q.Terms).getD i0 ⟨[],0⟩).Var) (aK ((aK (0-t.C))*(((p.q.Terms).getD i0 ⟨[],0⟩).C))))])
   )
  ):Option (List au)).bind fun v0 =>
  some (.go v0)) (fun _ _=>rfl) [] (Nat.zero_le _) (fun j s hj hI=>by
   have hm:p.q.Terms.getD j ⟨[],0⟩∈p.q.Terms:=ba _ hj;obtain ⟨c1,c2⟩:=hC _ hm;refine ⟨?_,fun s' hs' => ?_⟩
   ·cases (p.q.Terms.getD j ⟨[],0⟩).Var==t.Var with
    | true=>rfl
    | false =>
     simp only [cond_false];rw [aD (by omega),aU (n:=0-t.C) (by omega) (by omega)];have e:(0-t.C)*(p.q.Terms.getD j ⟨[],0⟩).C = -t.C*(p.q.Terms.getD j ⟨[],0⟩).C:=by congr 1;omega
     rw [e,aU (by rcases ht with h | h<;>rw [h]<;>omega) (by rcases ht with h | h<;>rw [h]<;>omega)];rfl
   ·injection hs' with hs'
    subst hs';cases (p.q.Terms.getD j ⟨[],0⟩).Var==t.Var<;>simp<;>omega)
 refine (congrArg (fun o:Option (Out (List au) Empty)=>Option.bind o _) h1).trans ?_;rw [ry (fun u:au=>u.Var==t.Var)];simp only [Option.bind_some,ca,List.nil_append];have h2:=Ex (ρ:=Empty) qg (gU t p) rows.length (pX rows.length)
  (body:=fun s1 =>
  bif decide (s1.1<((s1.2.length:Nat):Int)) then (
   bf (0≤s1.1∧s1.1<(s1.2.length:Int)) <|
   bf (s1.1.toNat<s1.2.length) <|
   (cU (Linear.mk (((s1.2.getD s1.1.toNat (⟨⟨0,[]⟩,[],0,false⟩)).q).Const) (((s1.2.getD s1.1.toNat (⟨⟨0,[]⟩,[],0,false⟩)).q).Terms)) t.Var).bind fun y0 =>
   ((
    bif (y0==0) then (
     some s1.2
    ) else (
     (dt s1.1.toNat (aj.mk (Linear.mk ((p.q).Const) ((p.q).Terms)) (p.mults) (p.scale) (p.lost)) (aK (y0*t.C)) s1.2).bind fun y1 =>
     some y1
    )
   ):Option (List aj)).bind fun v1 =>
   some (.go ((aK (s1.1+1)),v1))
  ) else (
   some (.brk s1.2)
  )) (fun j l hlj hj hIj=>by
   simp only;rw [ML (by omega),cond_true,aD ⟨by omega,by omega⟩,Int.toNat_natCast,aD (by omega),kq];simp only [Option.bind_some];rw [aU (n:=(j:Int)+1) (by omega) (by omega)];unfold gU;have hIj':pX rows.length (l.getD j ⟨⟨0,[]⟩,[],0,false⟩):=hIj;generalize hR:l.getD j ⟨⟨0,[]⟩,[],0,false⟩=r at hIj';have hR':l.getD j qg=r:=hR;have hb:=IJ hIj'.v t.Var;rw [lJ];cases h0:cf r.q t.Var==0 with
   | true =>
    simp only [cond_true,Option.bind_some];have:r=l[j]:=by rw [← hR',getD_at qg (by omega)]
    rw [this,List.set_getElem_self];rfl
   | false =>
    simp only [cond_false];rw [aU (n:=cf r.q t.Var*t.C) (by rcases ht with h | h<;>rw [h]<;>omega) (by rcases ht with h | h<;>rw [h]<;>omega)];rw [IW (by omega) hR hIj'.nd hp.nd hIj'.sc hp.sc];rfl) (fun l hlj=>by
   simp only;rw [MK (by omega)];rfl) (rows.length-(i+1)) (i+1) 4294967296 rows (by omega) (by omega) rfl (fun r h=>hr r (List.mem_of_mem_drop h))
 have e3:aK ((i:Int)+1)=((i+1:Nat):Int):=by rw [aU (by omega) (by omega)];omega
 rw [e3];refine (congrArg (fun o:Option (Out (List Rw) Empty)=>Option.bind o _) h2).trans ?_;simp only [Option.bind_some,ca];have e4:aK (aK (0-t.C)*p.q.Const) = -t.C*p.q.Const:=by
  have:=j6 hp.v;rw [aU (n:=0-t.C) (by omega) (by omega)];have e:(0-t.C)*p.q.Const = -t.C*p.q.Const:=by congr 1;omega
  rw [e,aU (by rcases ht with h | h<;>rw [h]<;>omega) (by rcases ht with h | h<;>rw [h]<;>omega)]
 rw [e4];rfl
def mZ (t:au) (n:Nat) (ts:List au):List au:=au.mk (eG n) 1::(ts.filter fun u => !(u.Var==t.Var||dB u.C t.C==0)).map fun u=>au.mk u.Var (-(dB u.C t.C))
def AQ (ts:List au):List au:=iN (fun x y=>jQ x.Var y.Var) ts
theorem gA (ts:List au):(AQ ts).Perm ts:=List.mergeSort_perm ts _
def ym (t:au) (n:Nat) (q:Linear):Linear:=Linear.mk (-(dB q.Const t.C)) (AQ (mZ t n q.Terms))
theorem GH (n:Nat):Lib.itoa (n:Int)=dec n:=by rw [G7,MK (by omega),cond_false,Int.natAbs_natCast]
theorem vO {n:Int} {t:au} (h0:t.C≠0) (hn : -1000000≤n∧n≤1000000) (ht : -1000000≤t.C∧t.C≤1000000):bP n t=some (-(dB n t.C)):=by unfold bP;rw [xq h0 hn ht];simp only [Option.bind_some];have:=wG h0 hn;rw [aU (by omega) (by omega)];exact congrArg some (by omega)
theorem tX {t:au} {n:Nat} {ts:List au} (hn:AW ts) (hf:∀ u∈ts,u.Var≠eG n):AW (mZ t n ts):=by unfold AW mZ;rw [List.map_cons,List.nodup_cons,List.map_map];refine ⟨fun h => ?_,(List.Sublist.map _ List.filter_sublist).nodup hn⟩;obtain ⟨u,hu,e⟩:=List.mem_map.1 h;exact hf u (List.mem_filter.1 hu).1 e
theorem C0 (t:au) (n:Nat) (ts:List au):(mZ t n ts).length≤ts.length+1:=by unfold mZ;rw [List.length_cons,MM];have:=List.length_filter_le (fun u => !(u.Var==t.Var||dB u.C t.C==0)) ts;omega
theorem Jm {t:au} {n:Nat} {q:Linear} (h1:1≤n) (h2:n<1000000000) (hv:aA q=true):I6 (ym t n q):=by
 have hp:=gA (mZ t n q.Terms);have hl:=bc hv;refine ⟨?_,fun u hu => ?_⟩
 ·show (AQ (mZ t n q.Terms)).length≤1000000;rw [hp.length_eq];have:=C0 t n q.Terms;omega
 ·have hu:=hp.mem_iff.1 (show u∈AQ (mZ t n q.Terms) from hu);unfold mZ at hu;rcases List.mem_cons.1 hu with rfl | hu
  ·have:=je (mC h1 h2).1;show (eG n).length≤1000000;omega
  ·obtain ⟨x,hx,rfl⟩:=List.mem_map.1 hu;have:=je ((bD hv x (List.mem_filter.1 hx).1).2);show x.Var.length≤1000000;omega
theorem Ju {t:au} {q:Linear} (hv:aA q=true):I6 (Fh t q):=by have hl:=bc hv;have h2:=List.length_filter_le (fun u:au => !(u.Var==t.Var)) q.Terms;refine ⟨by show ((q.Terms.filter fun u => !(u.Var==t.Var)).map fun u=>au.mk u.Var (-t.C*u.C)).length≤1000000;rw [MM];omega,fun u hu => ?_⟩;obtain ⟨x,hx,rfl⟩:=List.mem_map.1 (show u∈(q.Terms.filter fun u => !(u.Var==t.Var)).map fun u=>au.mk u.Var (-t.C*u.C) from hu);have:=je ((bD hv x (List.mem_filter.1 hx).1).2);show x.Var.length≤1000000;omega
theorem Gn {i:Nat} {t:au} {n:Nat} {rows:List Rw} {bs:List Bind} (hi:i<rows.length) (hv:aA (rows.getD i qg).q=true) (h1:1≤n) (h2:n<1000000000) (h0:t.C≠0) (ht : -1000000≤t.C∧t.C≤1000000)
 (hf:∀ u∈(rows.getD i qg).q.Terms,u.Var≠eG n) :
 b7 (i:Int) t (n:Int) rows bs=bif decide (n+1≥1000000000) then some (3,((n+1:Nat):Int),rows,bs) else
  (br t.Var (ym t n (rows.getD i qg).q) (i:Int) ((n+1:Nat):Int) rows bs).bind fun y=>some (y.1,((n+1:Nat):Int),y.2.1,y.2.2):=by
 unfold b7;rw [aD ⟨Int.natCast_nonneg _,by omega⟩,Int.toNat_natCast,aD hi];generalize hP:rows.getD i qg=p at hv hf;have hdl:=qD 8 n (by omega);unfold jc;rw [GH,aD ⟨by omega,by omega,by omega⟩];simp only [Option.bind_some];rw [aD (by simp;omega),aU (n:=(n:Int)+1) (by omega) (by omega)];have e1:(n:Int)+1=((n+1:Nat):Int):=by omega
 rw [e1];have e2:decide (((n+1:Nat):Int)≥1000000000)=decide (n+1≥1000000000):=by rw [decide_eq_decide];omega
 rw [e2];cases decide (n+1≥1000000000) with
 | true=>rfl
 | false =>
  simp only [cond_false];have hC:=bD hv;have hlen:=bc hv;rw [vO h0 (j6 hv) ht];simp only [Option.bind_some];have hl:=de (ε:=List au) (ρ:=Empty) (f:=fun s=>s) (fin:=fun i0 s0=>s0) (⟨[],0⟩:au) p.q.Terms (fun u s=>eR.go (bif (u.Var==t.Var||dB u.C t.C==0) then s else s++[au.mk u.Var (-(dB u.C t.C))])) (fun j s=>s.length≤j+1)
   (body:=fun i0 s0 =>
   (bP ((p.q.Terms.getD i0 ⟨[],0⟩).C) t).bind fun y2 =>
   ((
    bif ((p.q.Terms.getD i0 ⟨[],0⟩).Var==t.Var) then (
     some false
    ) else (
     some (y2 != 0)
    )
   ):Option Bool).bind fun v0 =>
   ((
    bif v0 then (
     bf ((s0.length+1)*24≤140737488355328) <|
     some (s0++[(au.mk ((p.q.Terms.getD i0 ⟨[],0⟩).Var) y2)])
    ) else (
     some s0
    )
   ):Option (List au)).bind fun v1 =>
   some (.go v1)) (fun _ _=>rfl) [(au.mk ([95]++dec n) 1)] (by simp) (fun j s hj hI=>by
    have hm:p.q.Terms.getD j ⟨[],0⟩∈p.q.Terms:=ba _ hj;obtain ⟨c1,c2⟩:=hC _ hm;refine ⟨?_,fun s' hs' => ?_⟩
    ·rw [vO h0 c1 ht];simp only [Option.bind_some];cases (p.q.Terms.getD j ⟨[],0⟩).Var==t.Var with
     | true=>rfl
     | false =>
      simp only [cond_false,Option.bind_some,Bool.false_or];have e3:(-(dB (p.q.Terms.getD j ⟨[],0⟩).C t.C) != 0) = !(dB (p.q.Terms.getD j ⟨[],0⟩).C t.C==0):=by unfold bne;congr 1;rw [Bool.eq_iff_iff];simp
      rw [e3];cases dB (p.q.Terms.getD j ⟨[],0⟩).C t.C==0 with
      | true=>rfl
      | false =>
       simp only [Bool.not_false,cond_true];rw [aD (by omega)];rfl
    ·injection hs' with hs'
     subst hs';cases (p.q.Terms.getD j ⟨[],0⟩).Var==t.Var||dB (p.q.Terms.getD j ⟨[],0⟩).C t.C==0<;>simp<;>omega)
  refine (congrArg (fun o:Option (Out (List au) Empty)=>Option.bind o _) hl).trans ?_;rw [ry (fun u:au=>u.Var==t.Var||dB u.C t.C==0)];simp only [Option.bind_some,ca];have e4:[au.mk ([95]++dec n) 1]++(p.q.Terms.filter fun u => !(u.Var==t.Var||dB u.C t.C==0)).map (fun u=>au.mk u.Var (-(dB u.C t.C)))=mZ t n p.q.Terms:=rfl;rw [e4];unfold jL;have hrl:=C0 t n p.q.Terms;rw [aD ⟨by omega,tX (du hv) hf⟩];rfl
theorem Ei {l:Linear} (h:aA l=true) (c:Int) (f:Int→Int) (hc : -1000000≤c∧c≤1000000) (hf:∀ t∈l.Terms,f t.C≠0 ∧ -1000000≤f t.C∧f t.C≤1000000):aA (Linear.mk c (l.Terms.map fun t=>au.mk t.Var (f t.C)))=true:=by
 have hl:=bc h;have hat:∀ j,j<l.Terms.length→zg (Linear.mk c (l.Terms.map fun t=>au.mk t.Var (f t.C))) j=au.mk (zg l j).Var (f (zg l j).C):=fun j hj=>by unfold zg;rw [getD_at _ (by simpa using hj),getD_at _ hj];simp
 have h':=h;simp only [aA,MG,MS,decide_eq_true_eq] at h' ⊢;refine ⟨fun j hj => ?_,by simp only [Cm,MG,decide_eq_true_eq];exact hc,by simpa using hl⟩;have hj:j<l.Terms.length:=by simpa using hj
 have hp:=h'.1 j (by simpa using hj);have hm:zg l j∈l.Terms:=ba _ hj;obtain ⟨f1,f2⟩:=hf _ hm;simp only [kE,MG] at hp ⊢;rw [hat j hj];refine ⟨hp.1,by simpa using f1,by simp only [Cm,MG,decide_eq_true_eq];exact f2,?_⟩;cases j with
 | zero=>rfl
 | succ j =>
  have:=hp.2.2.2;rw [hat (j+1-1) (by omega)];exact this
def bn (g:Int) (q:Linear):Linear:=Linear.mk (q.Const.tdiv g) (q.Terms.map fun t=>au.mk t.Var (t.C.tdiv g))
theorem tdiv_le {a g:Int} (h : -1000000≤a∧a≤1000000) : -1000000≤a.tdiv g∧a.tdiv g≤1000000:=by have:=Int.natAbs_tdiv_le_natAbs a g;omega
theorem um {q:Linear}:∀ t∈q.Terms,((cont q:Nat):Int) ∣ t.C:=fun t ht=>Int.natAbs_dvd_natAbs.1 (by rw [Int.natAbs_natCast];exact (vu q.Terms 0).2 t ht)
theorem fp {q:Linear} (h:aA q=true):aA (bn (cont q) q)=true:=by refine Ei h _ (fun c=>c.tdiv (cont q)) (tdiv_le (j6 h)) fun t ht=>⟨fun h0 => ?_,tdiv_le (bD h t ht).1⟩;have:=Int.mul_tdiv_cancel' (um t ht);rw [h0,Int.mul_zero] at this;exact cD h t ht this.symm
def JB (n:Nat) (m:Ms):List Int:=(List.range n).map fun j:Nat=>bE 0 (j:Int) m
theorem Hh {β:Type} {n:Nat} {m:Ms} (hn:(m.map (·.1)).Nodup) (hk:∀ y∈m.map (·.1),0≤y∧y<(n:Int)) (k:List Int→Option β) (v:β) (hv:k (JB n m)=some v) :
 nL (σ:=(List Int)) (ε:=Empty) (β:=β) m (fun e0 s0 =>
  bf (0≤e0.1∧e0.1<(s0.length:Int)) <|
  bf (e0.1.toNat<s0.length) <|
  some (.go (s0.set e0.1.toNat e0.2))
  ) (List.replicate n 0) k=some v:=by
 refine rO (yy (fun seen s=>s=(List.range n).map fun j:Nat=>if (j:Int)∈seen.map (fun i=>(m.getD i (0,0)).1) then bE 0 (j:Int) m else 0) (fun seen s i hi hnd hni hlt hI => ?_) (fun seen s hnd hall hlt hI => ?_) _ [] _ (by simp) (by simp) (by simp) ?_)
 ·have hm:m[i]∈m:=List.getElem_mem hi;have hg:m.getD i (0,0)=m[i]:=getD_at _ hi;generalize he:m[i]=e at hm hg ⊢;have hb:=hk e.1 (List.mem_map.2 ⟨e,hm,rfl⟩);have hlen:s.length=n:=by rw [hI];simp
  refine ⟨_,by rw [aD ⟨hb.1,by omega⟩,aD (by omega)],?_⟩;rw [hI];refine List.ext_getElem (by simp) fun j h1 h2 => ?_;have hj:j<n:=by simpa using h2
  rw [List.getElem_set];simp only [List.getElem_map,List.getElem_range,List.map_append,List.map_cons,List.map_nil,List.mem_append,List.mem_singleton,hg];by_cases ej:e.1.toNat=j
  ·have:(j:Int)=e.1:=by omega
   rw [if_pos ej,this,if_pos (.inr rfl),dX hn hm]
  ·have:¬ (j:Int)=e.1:=by omega
   rw [if_neg ej];simp only [this,or_false]
 ·have:s=JB n m:=by
   rw [hI];unfold JB;refine List.map_congr_left fun j hj => ?_;by_cases h:(j:Int)∈m.map (·.1)
   ·rw [if_pos ((p6 hnd hall hlt _).2 h)]
   ·rw [if_neg (fun h2=>h ((p6 hnd hall hlt _).1 h2)),(fg.self hn).out h]
  rw [this];exact hv
 ·refine List.ext_getElem (by simp) fun j h1 h2=>by simp
def km (r:Rw):Rw:=bif Bh (mulR r.scale (cont r.q)).1 (mulR r.scale (cont r.q)).2 then aj.mk (bn (cont r.q) r.q) r.mults (mulR r.scale (cont r.q)).1 r.lost else aj.mk (bn (cont r.q) r.q) r.mults 1 true
def Bp (n:Nat) (r:Rw):al:=bif r.lost then al.mk [] 0 else bif Bh (mulR r.scale (cont r.q)).1 (mulR r.scale (cont r.q)).2 then al.mk (JB n r.mults) (mulR r.scale (cont r.q)).1 else al.mk [] 0
def Aq (q:Linear):Bool:=cont q==0 || !(q.Const.tmod (cont q)==0)
set_option maxHeartbeats 2000000 in
theorem step_eq {i:Nat} {n:Int} {rows:List Rw} {bs:List Bind} (hi:i<rows.length) (hl:rows.length≤1000000) {r:Rw} (er:rows.getD i qg=r) (hr:pX rows.length r) :
 bt (i:Int) n rows bs=bif Aq r.q then some ((Bp rows.length r,9),n,rows,bs) else
  bif (uL (bn (cont r.q) r.q).Terms).C==1||(uL (bn (cont r.q) r.q).Terms).C == -1 then
   (bL (i:Int) (uL (bn (cont r.q) r.q).Terms) n (rows.set i (km r)) bs).bind fun y=>some ((al.mk [] 0,y.1),n,y.2.1,y.2.2)
  else (b7 (i:Int) (uL (bn (cont r.q) r.q).Terms) n (rows.set i (km r)) bs).bind fun y=>some ((al.mk [] 0,y.1),y.2.1,y.2.2.1,y.2.2.2):=by
 unfold bt Aq;rw [aD ⟨Int.natCast_nonneg _,by omega⟩,Int.toNat_natCast,aD hi];have er':rows.getD i ⟨⟨0,[]⟩,[],0,false⟩=r:=er;simp only [er',lJ];rw [tS hr.v];simp only [Option.bind_some,nl,gh];have hrefuse:(bif r.lost then some ((al.mk [] 0,(9:Int)),n,rows,bs) else bif Bh (mulR r.scale (cont r.q)).1 (mulR r.scale (cont r.q)).2 then
  bf (8*rows.length≤140737488355328) <|
  nL (σ:=(List Int)) (ε:=Empty) (β:=((al×Int)×Int×(List aj)×(List Bind))) r.mults (fun e0 s0 =>
   bf (0≤e0.1∧e0.1<(s0.length:Int)) <|
   bf (e0.1.toNat<s0.length) <|
   some (.go (s0.set e0.1.toNat e0.2))
  ) (List.replicate rows.length 0) (fun s0 =>
   some (((al.mk s0 (mulR r.scale (cont r.q)).1),9),n,rows,bs)
  ) else some ((al.mk [] 0,(9:Int)),n,rows,bs))=some ((Bp rows.length r,9),n,rows,bs):=by
  unfold Bp;cases r.lost with
  | true=>rfl
  | false =>
   simp only [cond_false];cases Bh (mulR r.scale (cont r.q)).1 (mulR r.scale (cont r.q)).2 with
   | false=>rfl
   | true =>
    simp only [cond_true];rw [aD (by omega)];exact Hh hr.nd hr.ks _ _ rfl
 by_cases h0:cont r.q=0
 ·have e1:(((cont r.q:Nat):Int)==0)=true:=by simp [h0]
  have e2:(cont r.q==0)=true:=by simp [h0]
  rw [e1,e2];simp only [cond_true,Bool.true_or];exact hrefuse
 ·have e1:(((cont r.q:Nat):Int)==0)=false:=by simp [h0]
  have e2:(cont r.q==0)=false:=by simp [h0]
  rw [e1,e2];simp only [cond_false,Bool.false_or];rw [aD (by omega)];cases h1:r.q.Const.tmod (cont r.q)==0 with
  | false =>
   simp only [cond_false,Bool.not_false,cond_true];exact hrefuse
  | true =>
   simp only [cond_true,Bool.not_true,cond_false];have hC:=bD hr.v;have hlen:=bc hr.v;have hcl:=de (ε:=List au) (ρ:=Empty) (f:=fun s=>s) (fin:=fun i0 s0=>s0) (⟨[],0⟩:au) r.q.Terms (fun u s=>eR.go (bif false then s else s++[au.mk u.Var (u.C.tdiv (cont r.q))])) (fun j s=>s.length≤j)
    (body:=fun i0 s1 =>
    bf ((s1.length+1)*24≤140737488355328) <|
    some (.go (s1++[(au.mk ((r.q.Terms.getD i0 ⟨[],0⟩).Var) (aK (((r.q.Terms.getD i0 ⟨[],0⟩).C).tdiv (cont r.q))))]))) (fun _ _=>rfl) [] (Nat.zero_le _) (fun j s hj hI=>by
     have hm:r.q.Terms.getD j ⟨[],0⟩∈r.q.Terms:=ba _ hj;have hb:=tdiv_le (g:=(cont r.q:Int)) (hC _ hm).1;refine ⟨?_,fun s' hs' => ?_⟩
     ·rw [aD (by omega),aU (by omega) (by omega)];rfl
     ·injection hs' with hs'
      subst hs';simp;omega)
   rw [ry (fun _:au=>false)] at hcl;have hfl:(r.q.Terms.filter fun _ => !false)=r.q.Terms:=List.filter_eq_self.2 fun _ _=>rfl;rw [hfl,List.nil_append] at hcl;refine (congrArg (fun o:Option (Out (List au) Empty)=>Option.bind o _) hcl).trans ?_;simp only [Option.bind_some,ca];have hkc:=tdiv_le (g:=(cont r.q:Int)) (j6 hr.v);rw [aU (n:=r.q.Const.tdiv (cont r.q)) (by omega) (by omega)];have hq:Linear.mk (r.q.Const.tdiv (cont r.q)) (r.q.Terms.map fun u=>au.mk u.Var (u.C.tdiv (cont r.q)))=bn (cont r.q) r.q:=rfl;rw [hq];have hne:(bn (cont r.q) r.q).Terms≠[]:=by
    intro h;have:r.q.Terms=[]:=by simpa [bn] using h
    exact h0 ((sA hr.v).2 this)
   simp only [tV (fp hr.v) hne,Option.bind_some,ja hi,List.set_set,List.length_set];unfold km;cases Bh (mulR r.scale (cont r.q)).1 (mulR r.scale (cont r.q)).2 with
   | true =>
    simp only [cond_true];rw [aD hi];cases (uL (bn (cont r.q) r.q).Terms).C==1 with
    | true=>rfl
    | false=>cases (uL (bn (cont r.q) r.q).Terms).C == -1<;>rfl
   | false =>
    simp only [cond_false];rw [aD hi,aD hi];cases (uL (bn (cont r.q) r.q).Terms).C==1 with
    | true=>rfl
    | false=>cases (uL (bn (cont r.q) r.q).Terms).C == -1<;>rfl
inductive Rs where
 | no
 | lim
 | ok (n:Nat) (qs:List Linear) (bs:List Bind)
abbrev b9:Linear:=⟨0,[]⟩
def qV (x:aJ) (by_:Linear) (i n:Nat) (qs:List Linear) (bs:List Bind):Rs :=
 bif rW x by_ i qs (bs.map (·.Dim)) then .ok n (qs.take i++(qs.drop i).map (tK x by_)) (bs.map (jO x by_)++[one x by_]) else .lim
def gT (i n:Nat) (qs:List Linear) (bs:List Bind):Rs :=
 bif Aq (qs.getD i b9) then .no else
 bif (uL (bn (cont (qs.getD i b9)) (qs.getD i b9)).Terms).C==1||(uL (bn (cont (qs.getD i b9)) (qs.getD i b9)).Terms).C == -1 then
  qV (uL (bn (cont (qs.getD i b9)) (qs.getD i b9)).Terms).Var (Fh (uL (bn (cont (qs.getD i b9)) (qs.getD i b9)).Terms) (bn (cont (qs.getD i b9)) (qs.getD i b9))) i n (qs.set i (bn (cont (qs.getD i b9)) (qs.getD i b9))) bs
 else bif decide (n+1≥1000000000) then .lim else
  qV (uL (bn (cont (qs.getD i b9)) (qs.getD i b9)).Terms).Var (ym (uL (bn (cont (qs.getD i b9)) (qs.getD i b9)).Terms) n (bn (cont (qs.getD i b9)) (qs.getD i b9))) i (n+1) (qs.set i (bn (cont (qs.getD i b9)) (qs.getD i b9))) bs
theorem lq {x:aJ} {by_ q:Linear} (hb:aA by_=true) (hv:aA q=true) (h:iT x by_ q=true) :
 aA (tK x by_ q)=true∧(∀ f,ga f (tK x by_ q)=ga f q+cf q x*(ga f by_-f x))∧∀ v,cf (tK x by_ q) v=cf q v+cf q x*(cf by_ v-ind v x):=by
 unfold iT at h;unfold tK;cases h0:cf q x==0 with
 | true =>
  have:cf q x=0:=by simpa using h0
  simp only [cond_true,this,Int.zero_mul,Int.add_zero];exact ⟨hv,fun _=>trivial,fun _=>trivial⟩
 | false =>
  rw [h0,Bool.false_or] at h;have h2:(uB [one x by_] q).2=0:=by simpa using h
  simp only [cond_false];exact ⟨(Az h2 (fun _=>0)).2.1,fun f=>(Az h2 f).2.2,fun v=>KT h2 hb v⟩
def uH (n:Int) (q:Linear):Prop:=∀ t∈q.Terms,fX t.Var<n
theorem DZ {n:Int} {q:Linear} (h:uH n q) {v:aJ} (h0:cf q v≠0):fX v<n:=by obtain ⟨t,ht,e,_⟩:=uC (show kv v q.Terms≠0 from h0);rw [← e];exact h t ht
theorem Fl {n:Int} {x:aJ} {by_ q:Linear} (hb:aA by_=true) (hv:aA q=true) (h:iT x by_ q=true) (h1:uH n q) (h2:uH n by_):uH n (tK x by_ q):=by
 obtain ⟨a,_,c⟩:=lq hb hv h;intro t ht;have e:=lS (du a) ht;have hz:=cD a t ht;have e:cf (tK x by_ q) t.Var=t.C:=e;rw [c] at e;by_cases z1:cf q t.Var=0
 ·by_cases z2:cf by_ t.Var=0
  ·by_cases z3:t.Var=x
   ·subst z3;rw [z1,z2] at e;simp at e;omega
   ·have:ind t.Var x=0:=by unfold ind;rw [if_neg (fun e=>z3 e.symm)]
    rw [z1,z2,this] at e;simp at e;omega
  ·exact DZ h2 z2
 ·exact DZ h1 z1
theorem yb {n m:Int} {q:Linear} (h:uH n q) (hm:n≤m):uH m q:=fun t ht=>by have:=h t ht;omega
theorem iY {n:Int} {q:Linear} (h:uH n q):uH n (bn (cont q) q):=by intro t ht;obtain ⟨u,hu,rfl⟩:=List.mem_map.1 (show t∈q.Terms.map fun t=>au.mk t.Var (t.C.tdiv (cont q)) from ht);exact h u hu
theorem EA {n:Int} {t:au} {q:Linear} (h:uH n q):uH n (Fh t q):=by intro u hu;obtain ⟨x,hx,rfl⟩:=List.mem_map.1 (show u∈(q.Terms.filter fun u => !(u.Var==t.Var)).map fun u=>au.mk u.Var (-t.C*u.C) from hu);exact h x (List.mem_filter.1 hx).1
theorem Fg {n:Nat} {t:au} {q:Linear} (h1:1≤n) (h2:n<1000000000) (h:uH n q):uH ((n+1:Nat):Int) (ym t n q):=by
 intro u hu;have hu:=(gA _).mem_iff.1 (show u∈AQ (mZ t n q.Terms) from hu);unfold mZ at hu;rcases List.mem_cons.1 hu with rfl | hu
 ·show fX (eG n)<_;rw [(mC h1 h2).2];omega
 ·obtain ⟨x,hx,rfl⟩:=List.mem_map.1 hu;have:=h x (List.mem_filter.1 hx).1;show fX x.Var<_;omega
theorem BP {n:Nat} (h1:1≤n) (h2:n<1000000000) {q:Linear} (h:uH n q):∀ u∈q.Terms,u.Var≠eG n:=fun u hu e=>by have:=h u hu;rw [e,(mC h1 h2).2] at this;omega
structure jx (n:Nat) (qs:List Linear) (bs:List Bind):Prop where
 n1:1≤n
 n2:n<1000000000
 qv:∀ q∈qs,aA q=true∧uH n q
 bv:∀ b∈bs,aA b.Dim=true∧uH n b.Dim∧db b.Var=true∧fX b.Var<n
structure yX (N:Int) (r:Rw):Prop where
 nd:(r.mults.map (·.1)).Nodup
 sc:r.scale≠0
 ks:∀ y∈r.mults.map (·.1),0≤y∧y<N
theorem yX.to {N:Int} {r:Rw} (h:yX N r) (hv:aA r.q=true):pX N r:=⟨hv,h.nd,h.sc,h.ks⟩
theorem pX.to {N:Int} {r:Rw} (h:pX N r):yX N r:=⟨h.nd,h.sc,h.ks⟩
theorem w9 {q:Linear} (hv:aA q=true) (hc:cont q≠0):uL (bn (cont q) q).Terms∈(bn (cont q) q).Terms∧∀ t∈(bn (cont q) q).Terms,(uL (bn (cont q) q).Terms).C.natAbs≤t.C.natAbs:=by refine KN fun h=>hc ((sA hv).2 ?_);simpa [bn] using h
theorem pW {q:Linear} (h:Aq q=false):cont q≠0∧q.Const.tmod (cont q)=0:=by unfold Aq at h;simp only [Bool.or_eq_false_iff,Bool.not_eq_false'] at h;exact ⟨by simpa using h.1,by simpa using h.2⟩
theorem Aw {x:aJ} {by_:Linear} {i n m:Nat} {qs:List Linear} {bs:List Bind} (h:jx n qs bs) (hnm:n≤m) (hm:m<1000000000) (hx:db x=true) (hxf:fX x<m) (hb:uH m by_) {n':Nat} {qs':List Linear} {bs':List Bind} (e:qV x by_ i m qs bs = .ok n' qs' bs') :
 n'=m∧jx m qs' bs'∧qs'=qs.take i++(qs.drop i).map (tK x by_)∧bs'=bs.map (jO x by_)++[one x by_]∧aA by_=true∧(∀ b∈bs,iT x by_ b.Dim=true)∧∀ q∈qs.drop i,iT x by_ q=true:=by
 unfold qV at e;cases ho:rW x by_ i qs (bs.map (·.Dim)) with
 | false=>rw [ho] at e;cases e
 | true =>
  rw [ho] at e;injection e with e1 e2 e3
  unfold rW at ho;simp only [MG,MS,List.mem_map,forall_exists_index,and_imp,forall_apply_eq_imp_iff₂] at ho;obtain ⟨hv,hB,hQ⟩:=ho;refine ⟨e1.symm,⟨by have:=h.n1;omega,hm,fun q hq => ?_,fun b hb' => ?_⟩,e2.symm,e3.symm,hv,hB,hQ⟩
  ·rw [← e2] at hq;rcases List.mem_append.1 hq with hq | hq
   ·obtain ⟨a,c⟩:=h.qv q (List.mem_of_mem_take hq);exact ⟨a,yb c (by omega)⟩
   ·obtain ⟨q0,hq0,rfl⟩:=List.mem_map.1 hq;obtain ⟨a,c⟩:=h.qv q0 (List.mem_of_mem_drop hq0);exact ⟨(lq hv a (hQ q0 hq0)).1,Fl hv a (hQ q0 hq0) (yb c (by omega)) hb⟩
  ·rw [← e3] at hb';rcases List.mem_append.1 hb' with hb' | hb'
   ·obtain ⟨b0,hb0,rfl⟩:=List.mem_map.1 hb';obtain ⟨a,c,d,f⟩:=h.bv b0 hb0;exact ⟨(lq hv a (hB b0 hb0)).1,Fl hv a (hB b0 hb0) (yb c (by omega)) hb,d,by show fX b0.Var<_;omega⟩
   ·have:b=one x by_:=by simpa using hb'
    subst this;exact ⟨hv,hb,hx,hxf⟩
theorem zF {i n:Nat} {qs:List Linear} {bs:List Bind} (h:jx n qs bs) (hi:i<qs.length):jx n (qs.set i (bn (cont (qs.getD i b9)) (qs.getD i b9))) bs:=by
 obtain ⟨a,c⟩:=h.qv _ (ba b9 hi);refine ⟨h.n1,h.n2,fun q hq => ?_,h.bv⟩;rcases List.mem_or_eq_of_mem_set hq with hq | rfl
 ·exact h.qv q hq
 ·exact ⟨fp a,iY c⟩
theorem GB (rows:List Rw) (i:Nat) (r:Rw):(rows.set i r).map (·.q)=(rows.map (·.q)).set i r.q:=by rw [List.map_set]
theorem uV (r:Rw):(km r).q=bn (cont r.q) r.q:=by unfold km;cases Bh (mulR r.scale (cont r.q)).1 (mulR r.scale (cont r.q)).2<;>rfl
theorem EO {N:Int} {r:Rw} (h:pX N r) (hc:cont r.q≠0):pX N (km r):=by
 refine ⟨by rw [uV];exact fp h.v,?_,?_,?_⟩<;>unfold km<;>cases hs:Bh (mulR r.scale (cont r.q)).1 (mulR r.scale (cont r.q)).2
 ·exact h.nd
 ·exact h.nd
 ·show (1:Int)≠0;omega
 ·show (mulR r.scale (cont r.q)).1≠0;unfold Bh at hs;simp only [MG] at hs;have h2:(mulR r.scale (cont r.q)).2=0:=eq_of_beq hs.1;clear hs;unfold mulR at h2 ⊢;cases hj:kj r.scale&&(kj (cont r.q:Int)&&kj (r.scale*(cont r.q:Int))) with
  | false=>rw [hj] at h2;simp at h2
  | true=>exact Int.mul_ne_zero h.sc (by omega)
 ·exact h.ks
 ·exact h.ks
theorem J2 {x:aJ} {by_:Linear} {i m:Nat} {rows:List Rw} {bs:List Bind} (hx:db x=true) (hk:I6 by_) (hi:i≤rows.length) (hl1:rows.length≤1000000) (hl2:bs.length≤2000000000)
 (hr:∀ r∈rows,pX rows.length r) (hb:∀ b∈bs,aA b.Dim=true) (nx:Int) :
 (qV x by_ i m (rows.map (·.q)) bs = .lim∧∃ r' b',br x by_ (i:Int) nx rows bs=some (3,r',b')) ∨
 ∃ rows' bs',qV x by_ i m (rows.map (·.q)) bs = .ok m (rows'.map (·.q)) bs'∧br x by_ (i:Int) nx rows bs=some (0,rows',bs')∧rows'.length=rows.length∧∀ r∈rows',yX rows.length r:=by
 rcases put_eq (nx:=nx) hx hk hi hl1 hl2 (fun r h=>(hr r h).v) hb with ⟨h1,h2⟩ | ⟨h1,h2⟩
 ·right;refine ⟨_,_,?_,h2,?_,fun r h => ?_⟩
  ·unfold qV;rw [h1,cond_true,List.map_append,List.map_map,← List.map_take,← List.map_drop,List.map_map];rfl
  ·simp;omega
  ·rcases List.mem_append.1 h with h | h
   ·exact (hr r (List.mem_of_mem_take h)).to
   ·obtain ⟨r0,hr0,rfl⟩:=List.mem_map.1 h;have:=hr r0 (List.mem_of_mem_drop hr0);exact ⟨this.nd,this.sc,this.ks⟩
 ·left;exact ⟨by unfold qV;rw [h1];rfl,h2⟩
theorem Mr (t:au) (p r:Rw):(gU t p r).q=r.q:=by
 unfold gU;cases cf r.q t.Var==0 with
 | true=>rfl
 | false=>exact Fm r p _
theorem LK {N:Int} {t:au} {p r:Rw} (hp:pX N p) (hr:pX N r):pX N (gU t p r):=by
 unfold gU;cases cf r.q t.Var==0 with
 | true=>exact hr
 | false=>exact HG hr hp _
theorem xn (rows:List Rw) (i:Nat):(rows.map (·.q)).getD i b9=(rows.getD i qg).q:=by rw [ME,ME,List.getElem?_map];cases rows[i]? <;> rfl
theorem Ld {i n:Nat} {rows:List Rw} {bs:List Bind} (hi:i<rows.length) (hl1:rows.length≤1000000) (hl2:bs.length≤2000000000) (h:jx n (rows.map (·.q)) bs) (hr:∀ r∈rows,yX rows.length r) :
 (gT i n (rows.map (·.q)) bs = .no∧bt (i:Int) (n:Int) rows bs=some ((Bp rows.length (rows.getD i qg),9),(n:Int),rows,bs)) ∨
 (gT i n (rows.map (·.q)) bs = .lim∧∃ f n' r' b',bt (i:Int) (n:Int) rows bs=some ((f,3),n',r',b')) ∨
 ∃ m rows' bs',gT i n (rows.map (·.q)) bs = .ok m (rows'.map (·.q)) bs'∧bt (i:Int) (n:Int) rows bs=some ((al.mk [] 0,0),(m:Int),rows',bs')∧rows'.length=rows.length∧∀ r∈rows',yX rows.length r:=by
 have hrw:∀ r∈rows,pX rows.length r:=fun r hm=>(hr r hm).to (h.qv r.q (List.mem_map.2 ⟨r,hm,rfl⟩)).1;have hri:=hrw _ (ba qg hi);have hfi:uH n (rows.getD i qg).q:=(h.qv _ (List.mem_map.2 ⟨_,ba qg hi,rfl⟩)).2;rw [step_eq hi hl1 rfl hri];unfold gT;rw [xn];generalize hP:rows.getD i qg=p at hri hfi ⊢;cases hno:Aq p.q with
 | true=>exact .inl ⟨rfl,rfl⟩
 | false =>
  obtain ⟨hc,hd⟩:=pW hno;simp only [cond_false];obtain ⟨tm,tmin⟩:=w9 hri.v hc;have hnv:=fp hri.v;generalize hT:uL (bn (cont p.q) p.q).Terms=t at tm tmin ⊢;have hbd:∀ b∈bs,aA b.Dim=true:=fun b hb=>(h.bv b hb).1;have hrows1:∀ r∈rows.set i (km p),pX rows.length r:=fun r hm=>by
   rcases List.mem_or_eq_of_mem_set hm with hm | rfl
   ·exact hrw r hm
   ·exact EO hri hc
  have hq1:(rows.map (·.q)).set i (bn (cont p.q) p.q)=(rows.set i (km p)).map (·.q):=by rw [GB,uV]
  have hat:(rows.set i (km p)).getD i qg=km p:=ja hi;have hi1:i<(rows.set i (km p)).length:=by simpa using hi
  have hl:(rows.set i (km p)).length=rows.length:=by simp
  obtain ⟨tb,tn⟩:=bD hnv t tm;cases hu:t.C==1||t.C == -1 with
  | true =>
   have ht:t.C=1∨t.C = -1:=by simp only [Bool.or_eq_true,beq_iff_eq] at hu;exact hu
   simp only [cond_true];rw [unit_eq hi1 (by rw [hl];exact hl1) (fun r hm=>by rw [hl];exact hrows1 r hm) ht,hat,uV,hq1];have hmq:((rows.set i (km p)).take (i+1)++((rows.set i (km p)).drop (i+1)).map (gU t (km p))).map (·.q)=(rows.set i (km p)).map (·.q):=by rw [List.map_append,List.map_map];have:((fun x:Rw=>x.q) ∘ gU t (km p))=fun x=>x.q:=funext fun r=>Mr t (km p) r;rw [this,← List.map_append,List.take_append_drop]
   have hlq:((rows.set i (km p)).take (i+1)++((rows.set i (km p)).drop (i+1)).map (gU t (km p))).length=rows.length:=by simp;omega
   have hrq:∀ r∈(rows.set i (km p)).take (i+1)++((rows.set i (km p)).drop (i+1)).map (gU t (km p)),pX rows.length r:=fun r hm=>by
    rcases List.mem_append.1 hm with hm | hm
    ·exact hrows1 r (List.mem_of_mem_take hm)
    ·obtain ⟨r0,hr0,rfl⟩:=List.mem_map.1 hm;exact LK (EO hri hc) (hrows1 r0 (List.mem_of_mem_drop hr0))
   have hpu:=J2 (i:=i) (m:=n) (nx:=(n:Int)) (bs:=bs) (rows:=(rows.set i (km p)).take (i+1)++((rows.set i (km p)).drop (i+1)).map (gU t (km p))) tn (Ju (t:=t) hnv) (by omega) (by omega) hl2 (fun r hm=>by rw [hlq];exact hrq r hm) hbd;rw [hmq,hlq] at hpu;rcases hpu with ⟨a,r',b',e⟩ | ⟨rows',bs',a,e,l,o⟩
   ·right;left;exact ⟨a,_,_,_,_,by rw [e];rfl⟩
   ·right;right;exact ⟨n,rows',bs',a,by rw [e];rfl,l,o⟩
  | false =>
   simp only [cond_false];have ht0:t.C≠0:=cD hnv t tm;rw [Gn hi1 (by rw [hat,uV];exact hnv) h.n1 h.n2 ht0 tb (by rw [hat,uV];exact BP h.n1 h.n2 (iY hfi)),hat,uV,hq1];cases hlim:decide (n+1≥1000000000) with
   | true=>exact .inr (.inl ⟨rfl,_,_,_,_,rfl⟩)
   | false =>
    simp only [cond_false];have hpu:=J2 (i:=i) (m:=n+1) (nx:=((n+1:Nat):Int)) (bs:=bs) (rows:=rows.set i (km p)) tn (Jm (t:=t) h.n1 h.n2 hnv) (by omega) (by omega) hl2 (fun r hm=>by rw [hl];exact hrows1 r hm) hbd;rw [hl] at hpu;rcases hpu with ⟨a,r',b',e⟩ | ⟨rows',bs',a,e,l,o⟩
    ·right;left;exact ⟨a,_,_,_,_,by rw [e];rfl⟩
    ·right;right;exact ⟨n+1,rows',bs',a,by rw [e];rfl,l,o⟩
end Go.Proofs.YtlhcekghjfjajaaGreatDoor
