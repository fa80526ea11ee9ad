/- Plain laws: what the walked functions compute answers as the statement says. -/
import Derived.Test.YtlhcekghjfjajaaGreatDoorWkcEquationsRefutes
import Derived.Lib.ItoaNum
import Derived.Lib.ItoaMem
import Derived.Lib.AtoiAll
import Derived.Lib.AtoiAllCases
import Derived.Lib.ItoaLen
import Derived.Lib.SlTrimSet
set_option linter.unusedSimpArgs false
set_option linter.unusedVariables false
namespace Go.Sh
open Go.Ab
section
variable {α σ ε ρ:Type}
theorem gJ {body:Nat→Unit→Option (gC Unit ε ρ)} {fin:Nat→Unit→ε} {r:ρ} (p:Nat→Bool):∀ (k i:Nat) (u:Unit),(∀ j u,i≤j→j<i+k→body j u=some (bif p j then .go () else .ret r)) →
 eH body fin k i u=some (bif (List.range' i k).all p then .brk (fin (i+k) ()) else .ret r)
 | 0,i,u,h=>by simp [eH]
 | k+1,i,u,h=>by
  simp only [eH,h i u (Nat.le_refl _) (by omega),List.range'_succ,List.all_cons];cases hp:p i with
  | true =>
   simp only [cond_true,Option.bind_some,zg,Bool.true_and];rw [gJ p k (i+1) () (fun j u h1 h2=>h j u (by omega) (by omega))];rw [show i+1+k=i+(k+1) by omega]
  | false=>simp [zg]
theorem vm {body:Nat→Unit→Option (gC Unit ε ρ)} {fin:Nat→Unit→ε} {f:Nat→ρ} (p:Nat→Bool):∀ (k i:Nat) (u:Unit),(∀ j u,i≤j→j<i+k→body j u=some (bif p j then .ret (f j) else .go ())) →
 eH body fin k i u=some (match (List.range' i k).find? p with | some j=>.ret (f j) | none=>.brk (fin (i+k) ()))
 | 0,i,u,h=>by simp [eH]
 | k+1,i,u,h=>by
  simp only [eH,h i u (Nat.le_refl _) (by omega),List.range'_succ,List.find?_cons];cases hp:p i with
  | false =>
   simp only [cond_false,Option.bind_some,zg];rw [vm p k (i+1) () (fun j u h1 h2=>h j u (by omega) (by omega))];rw [show i+1+k=i+(k+1) by omega]
  | true=>simp [zg]
theorem yU {body:Nat→σ→Option (gC σ ε ρ)} {fin:Nat→σ→ε} (g:Nat→σ→σ) (I:Nat→σ→Prop):∀ (k i:Nat) (s:σ),I i s→(∀ j s,i≤j→j<i+k→I j s→body j s=some (.go (g j s))∧I (j+1) (g j s)) →
 ∃ s',eH body fin k i s=some (.brk (fin (i+k) s'))∧s'=(List.range' i k).foldl (fun s j=>g j s) s∧I (i+k) s'
 | 0,i,s,hI,h=>⟨s,by simp [eH],by simp,hI⟩
 | k+1,i,s,hI,h=>by
  obtain ⟨h1,h2⟩:=h i s (Nat.le_refl _) (by omega) hI;obtain ⟨s',e1,e2,e3⟩:=yU g I k (i+1) (g i s) h2 (fun j s h1 h2=>h j s (by omega) (by omega));refine ⟨s',?_,?_,by rw [show i+(k+1)=i+1+k by omega];exact e3⟩
  ·simp only [eH,h1,Option.bind_some,zg];rw [e1,show i+1+k=i+(k+1) by omega]
  ·rw [e2,List.range'_succ];rfl
theorem j9 (q:α→Bool) (d:α) (l:List α):∀ (i:Nat),(List.range' i (l.length-i)).all (fun j=>q (l.getD j d))=(l.drop i).all q:=by
 intro i;by_cases h:i<l.length
 ·obtain ⟨k,hk⟩:∃ k,l.length-i=k+1:=⟨l.length-i-1,by omega⟩;have ih:=j9 q d l (i+1);rw [hk,List.range'_succ,List.all_cons,List.drop_eq_getElem_cons h,List.all_cons];rw [show l.length-(i+1)=k by omega] at ih;rw [ih];simp [Lz,LA h]
 ·rw [show l.length-i=0 by omega,List.drop_eq_nil_of_le (by omega)];rfl
 termination_by i=>l.length-i
theorem A4 (q:α→Bool) (d:α) (l:List α):(List.range' 0 (l.length-0)).all (fun j=>q (l.getD j d))=l.all q:=by have:=j9 q d l 0;simpa using this
theorem oK {β:Type} (g:β→α→β) (d:α) (l:List α):∀ (i:Nat) (s:β),(List.range' i (l.length-i)).foldl (fun s j=>g s (l.getD j d)) s=(l.drop i).foldl g s:=by
 intro i s;by_cases h:i<l.length
 ·obtain ⟨k,hk⟩:∃ k,l.length-i=k+1:=⟨l.length-i-1,by omega⟩;have ih:=oK g d l (i+1) (g s (l.getD i d));rw [hk,List.range'_succ,List.foldl_cons,List.drop_eq_getElem_cons h,List.foldl_cons];rw [show l.length-(i+1)=k by omega] at ih;rw [ih];simp [Lz,LA h]
 ·rw [show l.length-i=0 by omega,List.drop_eq_nil_of_le (by omega)];rfl
 termination_by i=>l.length-i
def idxOf (p:α→Bool):List α→Int
 | [] => -1
 | x::l=>bif p x then 0 else (let r:=idxOf p l;bif r == -1 then -1 else r+1)
theorem o9 (p:α→Bool):∀ l:List α,-1≤idxOf p l
 | []=>by simp [idxOf]
 | x::l=>by
  have:=o9 p l;simp only [idxOf];cases p x
  ·cases h:idxOf p l == -1
   ·simp;omega
   ·simp
  ·simp
theorem qB (p:α→Bool):∀ l:List α,(idxOf p l<0)↔l.any p=false
 | []=>by simp [idxOf]
 | x::l=>by
  have h1:=o9 p l;have h2:=qB p l;simp only [idxOf,List.any_cons];cases hp:p x
  ·cases h:idxOf p l == -1
   ·have:idxOf p l ≠ -1:=by simpa using h
    simp only [cond_false,Bool.false_or];rw [← h2];omega
   ·have:idxOf p l = -1:=by simpa using h
    simp only [cond_false,cond_true,Bool.false_or];rw [← h2];omega
  ·simp
theorem A8 (p:α→Bool) (d:α) (l:List α):∀ (i:Nat),(match (List.range' i (l.length-i)).find? (fun j=>p (l.getD j d)) with | some j=>((j:Nat):Int) | none => -1)=(bif idxOf p (l.drop i) == -1 then -1 else idxOf p (l.drop i)+i):=by
 intro i;by_cases h:i<l.length
 ·obtain ⟨k,hk⟩:∃ k,l.length-i=k+1:=⟨l.length-i-1,by omega⟩;have ih:=A8 p d l (i+1);rw [hk,List.range'_succ,List.find?_cons,List.drop_eq_getElem_cons h];rw [show l.length-(i+1)=k by omega] at ih;have e:l.getD i d=l[i]:=by simp [Lz,LA h]
  rw [e];simp only [idxOf];cases hp:p l[i]
  ·simp only [cond_false];rw [ih];cases hq:idxOf p (l.drop (i+1)) == -1
   ·have h3:idxOf p (l.drop (i+1)) ≠ -1:=by simpa using hq
    have h4:=o9 p (l.drop (i+1));simp only [cond_false];have:((idxOf p (l.drop (i+1))+1) == -1)=false:=by simp;omega
    rw [this];simp only [cond_false];omega
   ·simp
  ·simp
 ·rw [show l.length-i=0 by omega,List.drop_eq_nil_of_le (by omega)];rfl
 termination_by i=>l.length-i
theorem sX (p:α→Bool) (d:α) (l:List α):(match (List.range' 0 (l.length-0)).find? (fun j=>p (l.getD j d)) with | some j=>((j:Nat):Int) | none => -1)=idxOf p l:=by
 rw [A8 p d l 0];simp only [List.drop_zero];cases h:idxOf p l == -1
 ·simp
 ·have:idxOf p l = -1:=by simpa using h
  simp [this]
end
def cm (b:UInt8):Bool:=decide (48≤b.toNat)&&decide (b.toNat≤57)
def jJ (acc:Nat) (l:au):Nat:=l.foldl (fun a c=>a*10+(c.toNat-48)) acc
theorem xJ (acc:Nat) (l:au) (c:UInt8):jJ acc (l++[c])=jJ acc l*10+(c.toNat-48):=by simp [jJ]
theorem xE:∀ (l:au) (acc:Nat),l.all cm=true→(acc+1)*10 ^ l.length≤10 ^ 18→Lib.parseUint10 acc l = .ok (jJ acc l)
 | [],acc,_,_=>rfl
 | c::l,acc,h,hb=>by
  simp only [List.all_cons,LB,cm,decide_eq_true_eq] at h;obtain ⟨⟨h1,h2⟩,h3⟩:=h;have hp:1≤10 ^ l.length:=Nat.one_le_pow _ _ (by decide);have hb2:(acc*10+10)*10 ^ l.length≤10 ^ 18:=by
   have:(acc+1)*10 ^ (l.length+1)=(acc*10+10)*10 ^ l.length:=by rw [Nat.pow_succ];rw [show (acc*10+10)=(acc+1)*10 by omega,Nat.mul_assoc,Nat.mul_comm 10]
   rw [← this];simpa using hb
  have hb3:acc*10+10≤10 ^ 18:=Nat.le_trans (Nat.le_mul_of_pos_right _ hp) hb2;have e18:(10:Nat) ^ 18=1000000000000000000:=by decide
  rw [e18] at hb3;simp only [Lib.parseUint10];rw [if_pos ⟨h1,h2⟩,if_neg (by omega),if_neg (by omega)];rw [xE l _ (by simpa [cm] using h3) (Nat.le_trans (Nat.mul_le_mul_right _ (by omega)) hb2)];rfl
theorem Ay {c:UInt8} (h:cm c=true):UInt8.ofNat (48+(c.toNat-48))=c:=by simp only [cm,LB,decide_eq_true_eq] at h;rw [show 48+(c.toNat-48)=c.toNat by omega];exact UInt8.ofNat_toNat
theorem FC {α:Type} {P:List α→Prop} (h0:P []) (h1:∀ l c,P l→P (l++[c])) (l:List α):P l:=by
 have:∀ m:List α,P m.reverse:=by
  intro m;induction m with
  | nil=>exact h0
  | cons c m ih=>simpa using h1 _ c ih
 simpa using this l.reverse
theorem Ip (l:au):l.all cm=true→l≠[]→l.head? ≠ some 48→1≤jJ 0 l∧Lib.decDigits (jJ 0 l)=l:=by
 refine FC (P:=fun l=>l.all cm=true→l≠[]→l.head? ≠ some 48→1≤jJ 0 l∧Lib.decDigits (jJ 0 l)=l) ?_ ?_ l
 ·intro _ h;exact absurd rfl h
 ·intro l c ih h _ hh;rw [List.all_append,LB] at h;have hc:cm c=true:=by simpa using h.2
  have hc':=hc;simp only [cm,LB,decide_eq_true_eq] at hc';rw [xJ];by_cases hl:l=[]
  ·subst hl;have hne:c≠48:=by simpa using hh
   have:c.toNat≠48:=fun e=>hne (by rw [← UInt8.toNat_inj];simpa using e);simp only [jJ,List.foldl_nil,Nat.zero_mul,Nat.zero_add,List.nil_append];refine ⟨by omega,?_⟩;rw [Lib.decDigits_one (by omega),Ay hc]
  ·have hh2:l.head? ≠ some 48:=by
    cases l with
    | nil=>exact absurd rfl hl
    | cons x l=>simpa using hh
   obtain ⟨i1,i2⟩:=ih h.1 hl hh2;refine ⟨by omega,?_⟩;rw [Lib.decDigits,dif_neg (by omega),show (jJ 0 l*10+(c.toNat-48)) / 10=jJ 0 l by omega,i2,show (jJ 0 l*10+(c.toNat-48)) % 10=c.toNat-48 by omega,Ay hc]
theorem ss (u:Nat):(Lib.decDigits u).all cm=true∧(1≤u→(Lib.decDigits u).head? ≠ some 48)∧Lib.decDigits u≠[]:=by
 have key:∀ i,i<10→cm (UInt8.ofNat (48+i))=true:=by decide
 have key2:∀ i,i<10→1≤i→UInt8.ofNat (48+i)≠48:=by decide
 by_cases h:u<10
 ·rw [Lib.decDigits_one h];exact ⟨by simp only [List.all_cons,List.all_nil,Bool.and_true];exact key u h,fun h1=>by simpa using key2 u h h1,by simp⟩
 ·have ih:=ss (u / 10);rw [Lib.decDigits,dif_neg h];refine ⟨by rw [List.all_append,ih.1];simp only [List.all_cons,List.all_nil,Bool.and_true,Bool.true_and];exact key (u % 10) (by omega),fun _ => ?_,by simp⟩;have:=ih.2.1 (by omega);cases hd:Lib.decDigits (u / 10) with
  | nil=>exact absurd hd ih.2.2
  | cons x l=>rw [hd] at this;simpa using this
 termination_by u
 decreasing_by omega
end Go.Sh
namespace Go.Proofs.YtlhcekghjfjajaaGreatDoor
open Go.Ab Go.Sh
theorem aG {α:Type} {p:Prop} [Decidable p] {x:Option α} (h:p):bM p x=x:=if_pos h
theorem jh {ε β:Type} {b:Bool} {e:ε} {r:β} {f:ε→Option β}:(some (bif b then Out.brk e else Out.ret r:Out ε β)).bind (aft f)=bif b then f e else some r:=by cases b<;>rfl
theorem all_congr {p q:Nat→Bool}:∀ (k i:Nat),(∀ j,i≤j→j<i+k→p j=q j)→(List.range' i k).all p=(List.range' i k).all q
 | 0,i,_=>rfl
 | k+1,i,h=>by rw [List.range'_succ,List.all_cons,List.all_cons,h i (Nat.le_refl _) (by omega),all_congr k (i+1) (fun j h1 h2=>h j (by omega) (by omega))]
theorem Gd (c k:UInt8) (n:Int) (hk:(k.toNat:Int)=n):((c.toNat:Int)==n)=(c==k):=by rw [Bool.eq_iff_iff];simp only [beq_iff_eq,← UInt8.toNat_inj];omega
theorem F5 {α:Type} (l:List α):(((l.length:Nat):Int)==0)=l.isEmpty:=by
 cases l with
 | nil=>rfl
 | cons x l=>simp;omega
def isLet (b:UInt8):Bool:=decide (97≤b.toNat)&&decide (b.toNat≤122)
theorem pO (x:UInt8):iH x=some (cm x):=by
 unfold iH cm;by_cases h:48≤x.toNat
 ·rw [LH (show (x.toNat:Int)≥48 by omega),LH h];simp only [cond_true,Bool.true_and,LK];rw [decide_eq_decide];omega
 ·rw [LG (show ¬ (x.toNat:Int)≥48 by omega),LG h];rfl
theorem uj (x:UInt8):jn x=some (isLet x):=by
 unfold jn isLet;by_cases h:97≤x.toNat
 ·rw [LH (show (x.toNat:Int)≥97 by omega),LH h];simp only [cond_true,Bool.true_and,LK];rw [decide_eq_decide];omega
 ·rw [LG (show ¬ (x.toNat:Int)≥97 by omega),LG h];rfl
def fg:au→Bool
 | []=>false
 | c::r=>bif c==95 then (decide (1≤r.length)&&(decide (r.length≤9)&&(!(r.getD 0 0==48)&&r.all cm))) else (decide (r.length≤29)&&(isLet c&&r.all (fun b=>isLet b||cm b)))
theorem xe (s:au):mj s=some (fg s):=by
 cases s with
 | nil=>rfl
 | cons c r =>
  unfold mj;have e1:((((c::r).length:Nat):Int)==0)=false:=by simp;omega
  rw [e1];simp only [cond_false];have e95:((((c::r).getD 0 0).toNat:Int)==95)=(c==95):=by rw [List.getD_cons_zero];exact Gd c 95 95 rfl
  by_cases h30:r.length≤29
  ·rw [LG (show ¬ (((c::r).length:Nat):Int)>30 by simp;omega)];simp only [cond_false];rw [aG (by simp),e95];simp only [fg];cases hc:c==95 with
   | true =>
    simp only [cond_true];by_cases h1:1≤r.length
    ·rw [LG (show ¬ (((c::r).length:Nat):Int)<2 by simp;omega),LH h1];simp only [cond_false,Bool.true_and];by_cases h9:r.length≤9
     ·rw [LG (show ¬ (((c::r).length:Nat):Int)>10 by simp;omega),LH h9];simp only [cond_false,Bool.true_and];rw [aG (by simp;omega)];have e48:((((c::r).getD 1 0).toNat:Int)==48)=(r.getD 0 0==48):=by rw [List.getD_cons_succ];exact Gd _ 48 48 rfl
      rw [e48];cases hd:r.getD 0 0==48 with
      | true=>simp
      | false =>
       simp only [cond_false,Bool.not_false,Bool.true_and];rw [gJ (fun j=>cm ((c::r).getD j 0)) _ _ () (fun j u _ _=>by rw [pO];cases cm ((c::r).getD j 0)<;>rfl),jh,j9 cm 0 (c::r) 1];simp only [List.drop_succ_cons,List.drop_zero];cases r.all cm<;>rfl
     ·rw [LH (show (((c::r).length:Nat):Int)>10 by simp;omega),LG h9];simp
    ·rw [LH (show (((c::r).length:Nat):Int)<2 by simp;omega),LG h1];simp
   | false =>
    simp only [cond_false];rw [LH h30];rw [gJ (fun j=>isLet ((c::r).getD j 0)||(!(((j:Nat):Int)==0)&&cm ((c::r).getD j 0))) _ _ () (fun j u _ _=>by rw [uj,pO];cases isLet ((c::r).getD j 0)<;>cases cm ((c::r).getD j 0)<;>cases ((j:Nat):Int)==0<;>rfl),jh]
    have e:(List.range' 0 ((c::r).length-0)).all (fun j=>isLet ((c::r).getD j 0)||(!(((j:Nat):Int)==0)&&cm ((c::r).getD j 0)))=(isLet c&&r.all (fun b=>isLet b||cm b)):=by
     rw [show (c::r).length-0=r.length+1 by simp,List.range'_succ,List.all_cons];have e0:(isLet ((c::r).getD 0 0)||(!(((0:Nat):Int)==0)&&cm ((c::r).getD 0 0)))=isLet c:=by simp
     rw [e0];congr 1;rw [all_congr (q:=fun j=>(fun b=>isLet b||cm b) ((c::r).getD j 0)) _ _ (fun j h1 _=>by
      have:(((j:Nat):Int)==0)=false:=by simp;omega
      simp only [this,Bool.not_false,Bool.true_and])]
     have:=j9 (fun b=>isLet b||cm b) 0 (c::r) 1;simpa using this
    rw [e];simp only [Bool.true_and];cases isLet c&&r.all (fun b=>isLet b||cm b)<;>rfl
  ·rw [LH (show (((c::r).length:Nat):Int)>30 by simp;omega)];simp only [cond_true,fg];rw [LG h30];have:¬ r.length≤9:=by omega
   rw [LG this];cases c==95<;>simp
theorem lO (s:au) (c:UInt8):dD s [c]=some (match s with | []=>false | x::_=>x==c):=by
 unfold dD cn;cases s with
 | nil=>rfl
 | cons x l =>
  rw [LH (by simp;omega)];simp only [cond_true];rw [aG (by simp)];simp
theorem uO {r:au} (h0:r≠[]) (h:r.all cm=true) (hl:r.length≤9):Lib.atoiAll r = .ok (jJ 0 r:Int)∧jJ 0 r<10000000000:=by
 cases r with
 | nil=>exact absurd rfl h0
 | cons c r =>
  have hc:cm c=true:=by simp only [List.all_cons,LB] at h;exact h.1
  have hc2:=hc;simp only [cm,LB,decide_eq_true_eq] at hc2;have hp:(10:Nat) ^ (c::r).length≤10 ^ 9:=Nat.pow_le_pow_right (by decide) hl;have hv:=xE (c::r) 0 h (by
   rw [Nat.zero_add,Nat.one_mul];exact Nat.le_trans hp (by decide))
  have hb:∀ (l:au) (a:Nat),l.all cm=true→jJ a l+1≤(a+1)*10 ^ l.length:=by
   intro l;induction l with
   | nil=>intro a _;simp [jJ]
   | cons x l ih =>
    intro a hx;simp only [List.all_cons,LB,cm,decide_eq_true_eq] at hx;have:=ih (a*10+(x.toNat-48)) (by simpa [cm] using hx.2);have e:jJ a (x::l)=jJ (a*10+(x.toNat-48)) l:=rfl;rw [e];refine Nat.le_trans this ?_;rw [List.length_cons,Nat.pow_succ,Nat.mul_comm (10 ^ l.length) 10,← Nat.mul_assoc];exact Nat.mul_le_mul_right _ (by omega)
  have hlt:=hb (c::r) 0 h;rw [Nat.zero_add,Nat.one_mul] at hlt;have h9:(10:Nat) ^ 9=1000000000:=by decide
  rw [h9] at hp;refine ⟨?_,by omega⟩;rw [Lib.atoiAll_plain c r (by omega) (by omega)];have:Lib.parseMag (c::r) = .ok (jJ 0 (c::r)):=by unfold Lib.parseMag;rw [if_neg (by simp)];exact hv
  rw [this];simp only [Lib.signless];rw [if_neg (by omega)]
theorem wi (s:au) (hs:s.length≤1000000):ka s=some (fg s):=by
 unfold ka;rw [lO];cases s with
 | nil=>rfl
 | cons c r =>
  simp only [Option.bind_some,fg];have hr:r.length≤1000000:=by simp at hs;omega
  cases hc:c==95 with
  | true =>
   simp only [cond_true];rw [aG (by simp)];simp only [List.drop_succ_cons,List.drop_zero,lg];rw [aG (by omega)];simp only [Option.bind_some];by_cases h9:r.length≤9
   ·by_cases h1:1≤r.length
    ·rw [LH h1,LH h9];simp only [Bool.true_and];have hne:r≠[]:=by intro e;subst e;simp at h1
     have hhd:(r.getD 0 0==48)=decide (r.head? = some 48):=by
      cases r with
      | nil=>exact absurd rfl hne
      | cons x l=>simp;rw [Bool.eq_iff_iff];simp
     have key:∀ v:Int,0<v→v≤9223372036854775807→gS v=some (Lib.decDigits v.toNat)∨True:=fun _ _ _=>.inr trivial;by_cases hall:r.all cm=true
     ·obtain ⟨a1,a2⟩:=uO hne hall h9;simp only [oO,a1,cond_true];by_cases h48:r.head? = some 48
      ·
       rw [hhd,LH h48];simp only [Bool.not_true,Bool.false_and];by_cases hz:jJ 0 r=0
       ·rw [hz];rfl
       ·rw [LH (by omega:(jJ 0 r:Int)>0),LH (by simp;omega:(((c::r).length:Nat):Int)≤10)];simp only [cond_true,gS,pV];have hlen:(Lib.itoa (jJ 0 r:Int)).length≤21:=Lib.itoa_length_le _ (by omega) (by omega);rw [aG ⟨by omega,by omega,by omega⟩];simp only [Option.bind_some,LK];rw [Lib.itoa_nonneg,beq_eq_false_iff_ne];intro e;exact (ss (jJ 0 r)).2.1 (by omega) (by rw [e];exact h48)
      ·obtain ⟨d1,d2⟩:=Ip r hall hne h48;rw [hhd,LG h48,hall];simp only [Bool.not_false,Bool.true_and];rw [LH (by omega:(jJ 0 r:Int)>0),LH (by simp;omega:(((c::r).length:Nat):Int)≤10)];simp only [cond_true,gS,pV];have hlen:(Lib.itoa (jJ 0 r:Int)).length≤21:=Lib.itoa_length_le _ (by omega) (by omega);rw [aG ⟨by omega,by omega,by omega⟩];simp only [Option.bind_some,LK];rw [Lib.itoa_nonneg,d2];simp
     ·have hall:r.all cm=false:=by simpa using hall
      rw [hall];simp only [Bool.and_false];cases ha:Lib.atoiAll r with
      | ok v =>
       simp only [oO,ha,cond_true];by_cases hv:v>0
       ·rw [LH hv,LH (by simp;omega:(((c::r).length:Nat):Int)≤10)];simp only [cond_true,gS,pV];have hvb:v≤9223372036854775807:=by
         cases r with
         | nil=>exact absurd rfl hne
         | cons x l =>
          unfold Lib.atoiAll at ha;simp only at ha;split at ha
          ·cases ha
          ·cases ha
          ·split at ha
           ·cases ha
           ·split at ha
            ·cases ha
            ·rename_i h1 h2;simp only [Lib.NumEnd.ok.injEq] at ha;rw [← ha];split
             ·omega
             ·rename_i h3;have:=h1;simp only [h3,not_false_eq_true,true_and] at this;omega
        have hlen:(Lib.itoa v).length≤21:=Lib.itoa_length_le _ (by omega) hvb;rw [aG ⟨by omega,hvb,by omega⟩];simp only [Option.bind_some,LK];rw [beq_eq_false_iff_ne];intro e;have:(Lib.itoa v).all cm=true:=by unfold Lib.itoa;rw [if_neg (by omega)];exact (ss _).1
        rw [e,hall] at this;cases this
       ·rw [LG hv];rfl
      | range=>simp [oO,ha]
      | _=>simp [oO,ha]
    ·have:r=[]:=List.eq_nil_of_length_eq_zero (by omega);subst this;rfl
   ·rw [LG h9,LG (by simp;omega:¬ (((c::r).length:Nat):Int)≤10)];simp only [cond_false,Bool.false_and,Bool.and_false];cases (oO r).2<;>cases decide ((oO r).1>0)<;>rfl
  | false =>
   simp only [cond_false];rw [gJ (fun j=>isLet ((c::r).getD j 0)||(!(((j:Nat):Int)==0)&&cm ((c::r).getD j 0))) _ _ () (fun j u _ _=>by
    simp only [isLet,cm];generalize (c::r).getD j 0=x;by_cases h1:(x.toNat:Int)<97
    ·rw [LH h1,LG (show ¬ 97≤x.toNat by omega)];simp only [cond_true,Bool.false_and,Bool.false_or];cases ((j:Nat):Int)==0
     ·simp only [cond_false,Bool.not_false,Bool.true_and];by_cases h2:(x.toNat:Int)<48
      ·rw [LH h2,LG (show ¬ 48≤x.toNat by omega)];rfl
      ·rw [LG h2,LH (show 48≤x.toNat by omega)];by_cases h3:(x.toNat:Int)>57
       ·rw [LH h3,LG (show ¬ x.toNat≤57 by omega)];rfl
       ·rw [LG h3,LH (show x.toNat≤57 by omega)];rfl
     ·rfl
    ·rw [LG h1,LH (show 97≤x.toNat by omega)];simp only [cond_false,Bool.true_and];by_cases h2:(x.toNat:Int)>122
     ·rw [LH h2,LG (show ¬ x.toNat≤122 by omega),LG (show ¬ x.toNat≤57 by omega),LG (show ¬ (x.toNat:Int)<48 by omega),LH (show (x.toNat:Int)>57 by omega)];cases ((j:Nat):Int)==0<;>simp [Sh.aft]
     ·rw [LG h2,LH (show x.toNat≤122 by omega)];simp [Sh.aft]),jh]
   have e:(List.range' 0 ((c::r).length-0)).all (fun j=>isLet ((c::r).getD j 0)||(!(((j:Nat):Int)==0)&&cm ((c::r).getD j 0)))=(isLet c&&r.all (fun b=>isLet b||cm b)):=by
    rw [show (c::r).length-0=r.length+1 by simp,List.range'_succ,List.all_cons];have e0:(isLet ((c::r).getD 0 0)||(!(((0:Nat):Int)==0)&&cm ((c::r).getD 0 0)))=isLet c:=by simp
    rw [e0];congr 1;rw [all_congr (q:=fun j=>(fun b=>isLet b||cm b) ((c::r).getD j 0)) _ _ (fun j h1 _=>by
     have:(((j:Nat):Int)==0)=false:=by simp;omega
     simp only [this,Bool.not_false,Bool.true_and])]
    have:=j9 (fun b=>isLet b||cm b) 0 (c::r) 1;simpa using this
   rw [e];have e2:((c::r)==[])=false:=rfl;rw [e2];simp only [cond_false];by_cases h30:r.length≤29
   ·rw [LH h30,LH (by simp;omega:(((c::r).length:Nat):Int)≤30)];cases isLet c&&r.all (fun b=>isLet b||cm b)<;>rfl
   ·rw [LG h30,LG (by simp;omega:¬ (((c::r).length:Nat):Int)≤30)];cases isLet c&&r.all (fun b=>isLet b||cm b)<;>rfl
def Cg (n:Int):Bool:=decide (-1000000≤n)&&decide (n≤1000000)
theorem r4 (n:Int):kR n=some (Cg n):=by
 unfold kR Cg;by_cases h:n ≥ -1000000
 ·rw [LH h];rfl
 ·rw [LG h];rfl
theorem p8 (n:Int):iO n=some (Cg n):=by
 unfold iO Cg;by_cases h:n ≥ -1000000
 ·rw [LH h];rfl
 ·rw [LG h];rfl
def ye (l:Linear) (j:Nat):aq:=l.Terms.getD j ⟨[],0⟩
def km (l:Linear) (j:Nat):Bool:=fg (ye l j).Var&&(!((ye l j).C==0)&&(Cg (ye l j).C&&(!decide (((j:Nat):Int)>0)||Op.bytesLess (ye l (j-1)).Var (ye l j).Var)))
def ax (l:Linear):Bool:=(List.range' 0 (l.Terms.length-0)).all (km l)&&(Cg l.Const&&decide (l.Terms.length≤12))
theorem z6 {j:Nat} (h:0<j) (h2:j≤9223372036854775807):aL (((j:Nat):Int)-1)=((j-1:Nat):Int):=by rw [qj (by unfold xi;omega)];omega
theorem Iw {l:List aq} {n:Nat} (h:∀ t∈l,t.Var.length≤n) (j:Nat):(l.getD j ⟨[],0⟩).Var.length≤n:=by
 rw [Lz];cases h1:l[j]? with
 | none=>simp
 | some x=>exact h x (List.mem_of_getElem? h1)
theorem eI (l:Linear) (h1:l.Terms.length≤1000000) (h2:∀ t∈l.Terms,t.Var.length≤1000000):bR l=some (ax l):=by
 unfold bR;rw [gJ (km l) _ _ () (fun j u _ hj=>by
  rw [wi _ (Iw h2 j),r4];simp only [km,ye,Option.bind_some];cases fg (l.Terms.getD j ⟨[],0⟩).Var
  ·rfl
  ·cases (l.Terms.getD j ⟨[],0⟩).C==0
   ·cases Cg (l.Terms.getD j ⟨[],0⟩).C
    ·rfl
    ·by_cases hp:0<j
     ·rw [LH (show ((j:Nat):Int)>0 by omega),z6 hp (by omega)];rw [aG (by omega)];simp only [Int.toNat_natCast,cond_true,cond_false,Bool.not_true,Bool.false_or,Bool.true_and,Bool.not_false];cases Op.bytesLess (l.Terms.getD (j-1) ⟨[],0⟩).Var (l.Terms.getD j ⟨[],0⟩).Var<;>rfl
     ·rw [LG (show ¬ ((j:Nat):Int)>0 by omega)];rfl
   ·rfl),jh,r4]
 unfold ax;cases (List.range' 0 (l.Terms.length-0)).all (km l)
 ·rfl
 ·cases Cg l.Const
  ·rfl
  ·simp only [cond_true,Option.bind_some,Bool.true_and,LK];rw [decide_eq_decide];omega
theorem pX (l:Linear):gm l=some (ax l):=by
 unfold gm;rw [p8];unfold ax;by_cases h12:l.Terms.length≤12
 ·rw [LG (show ¬ ((l.Terms.length:Nat):Int)>12 by omega),LH h12];rw [gJ (km l) _ _ () (fun j u _ hj=>by
   rw [xe,p8];simp only [km,ye,Option.bind_some];cases fg (l.Terms.getD j ⟨[],0⟩).Var
   ·rfl
   ·cases (l.Terms.getD j ⟨[],0⟩).C==0
    ·cases Cg (l.Terms.getD j ⟨[],0⟩).C
     ·rfl
     ·by_cases hp:0<j
      ·rw [LH (show ((j:Nat):Int)>0 by omega),z6 hp (by omega)];rw [aG (by omega)];simp only [Int.toNat_natCast,cond_true,cond_false,Bool.not_true,Bool.false_or,Bool.true_and,Bool.not_false];cases Op.bytesLess (l.Terms.getD (j-1) ⟨[],0⟩).Var (l.Terms.getD j ⟨[],0⟩).Var<;>rfl
      ·rw [LG (show ¬ ((j:Nat):Int)>0 by omega)];rfl
    ·rfl),jh]
  cases (List.range' 0 (l.Terms.length-0)).all (km l)<;>cases Cg l.Const<;>rfl
 ·rw [LH (show ((l.Terms.length:Nat):Int)>12 by omega),LG h12];cases (List.range' 0 (l.Terms.length-0)).all (km l)<;>cases Cg l.Const<;>rfl
theorem JX {a b:Nat}:decide (((a:Nat):Int)>(b:Int)) = !decide (a≤b):=by
 by_cases h:a≤b
 ·rw [LH h,LG (by omega)];rfl
 ·rw [LG h,LH (by omega)];rfl
theorem Gf {a b:Nat}:decide (((a:Nat):Int)≤(b:Int))=decide (a≤b):=by rw [decide_eq_decide];omega
theorem oX (l:Linear):Linear.mk l.Const l.Terms=l:=rfl
def Dw (l:Linear):Prop:=l.Terms.length≤1000000∧∀ t∈l.Terms,t.Var.length≤1000000
def Lt (s:Shape):Prop:=s.Row.length≤1000000∧∀ l∈s.Dims,Dw l
abbrev Bl:Bind:=⟨0,[],⟨0,[]⟩,⟨[],[]⟩,[]⟩
theorem KF (b:Bind):Bind.mk b.Kind b.Var b.Dim b.Row b.Elem=b:=rfl
def pH (k:Int) (v:au) (b:Bind):Bool:=b.Kind==k&&b.Var==v
theorem Hg (l:List Bind) (p:Bind→Bool):∀ x:Option Nat,(match x with | some j=>((j:Nat):Int) | none => -1)=idxOf p l →
 ((some (match x with | some j=>Out.ret ((j:Nat):Int) | none=>Out.brk ()):Option (Out Unit Int)).bind (Sh.aft fun _=>some (-1)))=some (idxOf p l)
 | none,hx=>by rw [← hx];rfl
 | some j,hx=>by rw [← hx];rfl
def okB (b:Bind):Prop:=b.Var.length≤1000000∧Dw b.Dim∧Lt b.Row
theorem Gp {l:List Bind} (h:∀ b∈l,okB b) (j:Nat):okB (l.getD j Bl):=by
 rw [Lz];cases h1:l[j]? with
 | none=>exact ⟨by simp,⟨by simp,fun t ht=>by simp at ht⟩,⟨by simp,fun t ht=>by simp at ht⟩⟩
 | some x=>exact h x (List.mem_of_getElem? h1)
theorem wh (l:Linear) (h:l.Terms.length≤1000000):iQ l=some (l.Terms.map (·.Var)):=by
 unfold iQ;obtain ⟨s',e1,e2,_⟩:=yU (fin:=fun _ s=>s) (body:=fun i18 s17 =>
  bM ((s17.length+1)*16≤140737488355328) <|
  some (.go (s17++[((l.Terms.getD i18 ⟨[],0⟩).Var)]))) (ε:=List au) (ρ:=Empty) (fun j s=>s++[(l.Terms.getD j ⟨[],0⟩).Var]) (fun j s=>s.length=j) (l.Terms.length-0) 0 [] rfl (fun j s _ hj hI=>by refine ⟨by rw [aG (by omega)],by simp [hI]⟩)
 rw [e1];simp only [Option.bind_some,dI,LK];rw [e2];have:=oK (fun (s:List au) (t:aq)=>s++[t.Var]) ⟨[],0⟩ l.Terms 0 [];rw [this];simp only [List.drop_zero];have gen:∀ (ts:List aq) (s:List au),ts.foldl (fun s t=>s++[t.Var]) s=s++ts.map (·.Var):=by
  intro ts;induction ts with
  | nil=>intro s;simp
  | cons t ts ih=>intro s;simp [ih]
 rw [gen];rfl
theorem bX {l:Linear} (h:ax l=true):l.Terms.length≤12:=by simp only [ax,LB,decide_eq_true_eq] at h;exact h.2.2
end Go.Proofs.YtlhcekghjfjajaaGreatDoor
namespace Go.Sh
theorem lQ {α:Type} [DecidableEq α]:∀ (l l':List α),l.Nodup→(∀ x∈l,x∈l')→l.length≤l'.length
 | [],l',_,_=>by simp
 | a::l,l',h,hs=>by
  rw [List.nodup_cons] at h;have ha:a∈l':=hs a (by simp);have ih:=lQ l (l'.erase a) h.2 (fun x hx=>by have hne:x≠a:=fun e=>h.1 (e ▸ hx);exact (List.mem_erase_of_ne hne).2 (hs x (by simp [hx])))
  rw [List.length_erase_of_mem ha] at ih;have:0<l'.length:=List.length_pos_of_mem ha;simp only [List.length_cons];omega
theorem II {V σ ε β:Type} {m:List (au×V)} {body:au×V→σ→Option (gC σ ε β)} {K:σ→Prop} {J:β→Prop} (I:List Nat→σ→Prop) (g:σ→au×V→σ)
 (hstep:∀ seen s i (h:i<m.length),seen.Nodup→i ∉ seen→(∀ j∈seen,j<m.length)→I seen s→body m[i] s=some (.go (g s m[i]))∧I (seen++[i]) (g s m[i]))
 (hend:∀ seen s,seen.Nodup→(∀ i,i<m.length→i∈seen)→(∀ i∈seen,i<m.length)→I seen s→K s) :
 ∀ (n:Nat) (seen:List Nat) (s:σ),seen.Nodup→(∀ i∈seen,i<m.length)→n+seen.length=m.length→I seen s→MR m body K J n seen s
 | 0,seen,s,h1,h2,h3,hI=>by
  have hall:∀ i,i<m.length→i∈seen:=by
   intro i hi;refine Classical.byContradiction fun hn => ?_;have:=lQ (i::seen) (List.range m.length) (List.nodup_cons.2 ⟨hn,h1⟩) (fun x hx=>by
    rcases List.mem_cons.1 hx with rfl | hx
    ·simpa using hi
    ·simpa using h2 x hx)
   simp at this;omega
  exact ⟨hall,hend seen s h1 hall h2 hI⟩
 | n+1,seen,s,h1,h2,h3,hI=>by
  refine ⟨?_,fun i hi hn => ?_⟩
  ·refine Classical.byContradiction fun hn => ?_;have:=lQ (List.range m.length) seen List.nodup_range (fun x hx=>Classical.byContradiction fun hx2=>hn ⟨x,by simpa using hx,hx2⟩);simp at this;omega
  ·obtain ⟨e1,e2⟩:=hstep seen s i hi h1 hn h2 hI;refine ⟨_,e1,?_⟩;have hnd:(seen++[i]).Nodup:=by
    rw [List.nodup_append];exact ⟨h1,by simp,fun a ha b hb=>by
     have:b=i:=by simpa using hb
     subst this;intro e;subst e;exact hn ha⟩
   exact II I g hstep hend n (seen++[i]) _ hnd (fun j hj=>by
    rcases List.mem_append.1 hj with hj | hj
    ·exact h2 j hj
    ·have:j=i:=by simpa using hj
     subst this;exact hi) (by simp;omega) e2
def wS (x y:au):Bool:=decide (x≤y)
theorem xA (a b c:au) (h1:wS a b=true) (h2:wS b c=true):wS a c=true:=by simp only [wS,decide_eq_true_eq] at *;exact List.le_trans h1 h2
theorem xw (a b:au):(wS a b||wS b a)=true:=by simp only [wS,Bool.or_eq_true,decide_eq_true_eq];exact List.le_total a b
theorem AW (a b:au) (h1:wS a b=true) (h2:wS b a=true):a=b:=by simp only [wS,decide_eq_true_eq] at *;exact List.le_antisymm h1 h2
theorem oV (l:List au):(Go.Ab.sortS l).Pairwise (fun a b=>wS a b=true):=Go.Ab.msort_pw xA xw l
theorem sH (l:List au):(Go.Ab.sortS l).Perm l:=Go.Ab.msort_perm l _
theorem C4 {l r:List au} (hs:r.Pairwise (fun a b=>wS a b=true)) (hp:r.Perm l):Go.Ab.sortS l=r :=
 List.Perm.eq_of_pairwise (fun a b _ _=>AW a b) (oV l) hs ((sH l).trans hp.symm)
theorem vl {l r:List au} (h:l.Perm r):Go.Ab.sortS l=Go.Ab.sortS r:=C4 (oV r) ((sH r).trans h.symm)
def Bv (x:au):List au→List au
 | []=>[x]
 | y::l=>bif wS x y then x::y::l else y::Bv x l
def mH:List au→List au
 | []=>[]
 | x::l=>Bv x (mH l)
theorem sK (x:au):∀ l,(Bv x l).Perm (x::l)
 | []=>.refl _
 | y::l=>by
  simp only [Bv];cases wS x y
  ·exact ((sK x l).cons y).trans (.swap _ _ _)
  ·exact .refl _
theorem tT (x:au):∀ {l:List au},l.Pairwise (fun a b=>wS a b=true)→(Bv x l).Pairwise (fun a b=>wS a b=true)
 | [],_=>by simp [Bv]
 | y::l,h=>by
  rw [List.pairwise_cons] at h;simp only [Bv];cases hxy:wS x y
  ·simp only [cond_false,List.pairwise_cons];have hyx:wS y x=true:=by have:=xw x y;rw [hxy] at this;simpa using this
   refine ⟨fun a ha => ?_,tT x h.2⟩;rcases List.mem_cons.1 ((sK x l).mem_iff.1 ha) with rfl | ha
   ·exact hyx
   ·exact h.1 a ha
  ·simp only [cond_true,List.pairwise_cons];refine ⟨fun a ha => ?_,h⟩;rcases List.mem_cons.1 ha with rfl | ha
   ·exact hxy
   ·exact xA _ _ _ hxy (h.1 a ha)
theorem mv:∀ l,(mH l).Perm l
 | []=>.refl _
 | x::l=>(sK x _).trans ((mv l).cons x)
theorem rO:∀ l,(mH l).Pairwise (fun a b=>wS a b=true)
 | []=>List.Pairwise.nil
 | x::l=>tT x (rO l)
theorem AK (l:List au):Go.Ab.sortS l=mH l:=C4 (rO l) (mv l)
def tD:List au→Bool
 | []=>true
 | x::l => !(l.any fun y=>y==x)&&tD l
theorem xZ:∀ {l:List au},tD l=true→l.Nodup
 | [],_=>List.nodup_nil
 | x::l,h=>by simp only [tD,LB,Bool.not_eq_true',List.any_eq_false,beq_iff_eq] at h;exact List.nodup_cons.2 ⟨fun hm=>h.1 x hm rfl,xZ h.2⟩
end Go.Sh
namespace Go.Proofs.YtlhcekghjfjajaaGreatDoor
open Go.Ab Go.Sh
def b8 (m:List (au×Int)):List au:=(m.filter fun e => !(e.2==0)).map (·.1)
def pG (n:Int) (m:List (au×Int)) (names:List au):Linear×Int :=
 bif ax (Linear.mk n (names.map fun k=>aq.mk k (ba 0 k m))) then (Linear.mk n (names.map fun k=>aq.mk k (ba 0 k m)),0) else (Linear.mk 0 [],3)
def vy (m:List (au×Int)):Bool:=tD (m.map (·.1))&&(decide (m.length≤1000)&&m.all fun e=>decide (e.1.length≤1000000))
theorem Ft (m:List (au×Int)) (y:List au) (hy:y.length≤1000000):(eH (σ:=(List aq)) (ε:=(List aq)) (ρ:=Empty) (fun i117 s116 =>
 bM ((s116.length+1)*24≤140737488355328) <|
 some (.go (s116++[(aq.mk (y.getD i117 []) (ba 0 (y.getD i117 []) m))]))
 ) (fun i117 s116=>s116) (y.length-0) 0 [])=some (.brk (y.map fun k=>aq.mk k (ba 0 k m))):=by
 obtain ⟨s',e1,e2,_⟩:=yU (fin:=fun _ s=>s) (body:=fun i117 s116 =>
  bM ((s116.length+1)*24≤140737488355328) <|
  some (.go (s116++[(aq.mk (y.getD i117 []) (ba 0 (y.getD i117 []) m))]))) (ε:=List aq) (ρ:=Empty) (fun j s=>s++[(fun k=>aq.mk k (ba 0 k m)) (y.getD j [])]) (fun j s=>s.length=j) (y.length-0) 0 [] rfl (fun j s _ hj hI=>⟨by rw [aG (by omega)],by simp [hI]⟩)
 rw [e1,e2];have:=oK (fun (s:List aq) (k:au)=>s++[(fun k=>aq.mk k (ba 0 k m)) k]) [] y 0 [];rw [this];have gen:∀ (ts:List au) (s:List aq),ts.foldl (fun s k=>s++[(fun k=>aq.mk k (ba 0 k m)) k]) s=s++ts.map (fun k=>aq.mk k (ba 0 k m)):=by
  intro ts;induction ts with
  | nil=>intro s;simp
  | cons t ts ih=>intro s;simp [ih]
 rw [List.drop_zero,gen];rfl
theorem G8 (n:Int) (m:List (au×Int)) (hm:vy m=true) (s:List au) (hp:s.Perm (b8 m)) :
 ((jZ s).bind fun y97 =>
 (eH (σ:=(List aq)) (ε:=(List aq)) (ρ:=Empty) (fun i117 s116 =>
  bM ((s116.length+1)*24≤140737488355328) <|
  some (.go (s116++[(aq.mk (y97.getD i117 []) (ba 0 (y97.getD i117 []) m))]))
 ) (fun i117 s116=>s116) (y97.length-0) 0 []).bind <| dI fun u148 =>
 (bR (Linear.mk n u148)).bind fun y151 =>
 bif y151 then (
  some ((Linear.mk n u148),0)
 ) else (
  some ((Linear.mk 0 []),3)
 ))=some (pG n m (mH (b8 m))):=by
 simp only [vy,LB,decide_eq_true_eq,LN] at hm;obtain ⟨_,hl,hk⟩:=hm;have hlen:(b8 m).length≤m.length:=by unfold b8;rw [LI];exact List.length_filter_le _ _
 have hs:s.length≤1000:=by rw [hp.length_eq];omega
 unfold jZ;rw [aG (by omega)];simp only [Option.bind_some];rw [vl hp,AK];have hsi:(mH (b8 m)).length≤1000:=by rw [(mv _).length_eq];omega
 rw [Ft m _ (by omega)];simp only [Option.bind_some,dI];rw [eI _ (by simp;omega) (fun t ht=>by obtain ⟨k,hk1,rfl⟩:=List.mem_map.1 ht;have hk2:=(mv _).mem_iff.1 hk1;obtain ⟨e,he,rfl⟩:=List.mem_map.1 hk2;exact hk e (List.mem_filter.1 he).1)]
 simp only [Option.bind_some,pG];cases ax (Linear.mk n ((mH (b8 m)).map fun k=>aq.mk k (ba 0 k m)))<;>rfl
theorem FL {β:Type} (m:List (au×Int)) (hm:vy m=true) (k:List au→Option β) (v:β) (hk:∀ s,s.Perm (b8 m)→k s=some v) :
 nY (σ:=(List au)) (ε:=Empty) (β:=β) m (fun e164 s94 =>
 bif (e164.2==0) then (
  some (.go s94)
 ) else (
  bM ((s94.length+1)*16≤140737488355328) <|
  some (.go (s94++[e164.1]))
 )) [] k=some v:=by
 simp only [vy,LB,decide_eq_true_eq,LN] at hm;obtain ⟨hnd,hl,_⟩:=hm;have hnd:=xZ hnd;have hinj:∀ i j (hi:i<m.length) (hj:j<m.length),m[i].1=m[j].1→i=j:=by
  intro i j hi hj e;have h1:(m.map (·.1))[i]'(by simpa using hi)=(m.map (·.1))[j]'(by simpa using hj):=by simpa using e
  exact (List.getElem_inj hnd).1 h1
 refine pF (II (fun seen s=>s.Nodup∧s.length≤seen.length∧∀ x,x∈s↔∃ i,i∈seen∧∃ h:i<m.length,m[i].1=x∧m[i].2≠0) (fun s e=>bif e.2==0 then s else s++[e.1]) ?_ ?_ m.length [] [] List.nodup_nil (fun i hi=>by simp at hi) (by simp) ⟨List.nodup_nil,by simp,fun x=>by simp⟩)
 ·rintro seen s i hi hs1 hs2 hs3 ⟨i1,i2,i3⟩;have hsl:seen.length≤m.length:=by have:=lQ seen (List.range m.length) hs1 (fun x hx=>by simpa using hs3 x hx);simpa using this
  cases hz:m[i].2==0 with
  | true =>
   have hz':m[i].2=0:=by simpa using hz
   refine ⟨rfl,i1,by simp;omega,fun x => ?_⟩;simp only [cond_true];rw [i3];constructor
   ·rintro ⟨j,h1,h2⟩;exact ⟨j,by simp [h1],h2⟩
   ·rintro ⟨j,h1,h2,h3,h4⟩;rcases List.mem_append.1 h1 with h1 | h1
    ·exact ⟨j,h1,h2,h3,h4⟩
    ·have:j=i:=by simpa using h1
     subst this;exact absurd hz' h4
  | false =>
   have hz':m[i].2≠0:=by simpa using hz
   simp only [cond_false];rw [aG (by omega)];refine ⟨rfl,?_,by simp;omega,fun x => ?_⟩
   ·rw [List.nodup_append];refine ⟨i1,by simp,fun a ha b hb => ?_⟩;have hb:b=m[i].1:=by simpa using hb
    subst hb;intro e;obtain ⟨j,h1,h2,h3,_⟩:=(i3 a).1 ha;exact hs2 (hinj j i h2 hi (h3.trans e) ▸ h1)
   ·rw [List.mem_append,i3];constructor
    ·rintro (⟨j,h1,h2⟩ | h)
     ·exact ⟨j,by simp [h1],h2⟩
     ·have h:x=m[i].1:=by simpa using h
      exact ⟨i,by simp,hi,h.symm,hz'⟩
    ·rintro ⟨j,h1,h2,h3,h4⟩;rcases List.mem_append.1 h1 with h1 | h1
     ·exact .inl ⟨j,h1,h2,h3,h4⟩
     ·have:j=i:=by simpa using h1
      subst this;exact .inr (by simp [h3])
 ·rintro seen s hs1 hall hlt ⟨i1,i2,i3⟩;refine hk s ?_;have hn2:(b8 m).Nodup:=by unfold b8;exact (List.Sublist.map _ List.filter_sublist).nodup hnd
  refine (List.perm_ext_iff_of_nodup i1 hn2).2 fun x => ?_;rw [i3];unfold b8;simp only [List.mem_map,List.mem_filter,Bool.not_eq_true',beq_eq_false_iff_ne];constructor
  ·rintro ⟨j,_,h2,h3,h4⟩;exact ⟨m[j],⟨List.getElem_mem h2,h4⟩,h3⟩
  ·rintro ⟨e,⟨h1,h2⟩,h3⟩;obtain ⟨j,hj,rfl⟩:=List.getElem_of_mem h1;exact ⟨j,hall j hj,hj,h3,h2⟩
theorem xb (n:Int) (m:List (au×Int)) (hm:vy m=true):eK n m=some (pG n m (mH (b8 m))):=by unfold eK;exact FL m hm _ _ fun s hp=>G8 n m hm s hp
end Go.Proofs.YtlhcekghjfjajaaGreatDoor
namespace Go.Sh
section
variable {α σ ε ρ:Type}
def fh (g:α→σ→gC σ ε ρ) (fin:σ→ε):List α→σ→Out ε ρ
 | [],s=>.brk (fin s)
 | x::l,s=>match g x s with | .go s'=>fh g fin l s' | .brk e=>.brk e | .ret r=>.ret r
theorem vn {body:Nat→σ→Option (gC σ ε ρ)} {fin:Nat→σ→ε} {f:σ→ε} (d:α) (l:List α) (g:α→σ→gC σ ε ρ) (I:Nat→σ→Prop) (hf:∀ i s,fin i s=f s) :
 ∀ (i:Nat) (s:σ),I i s→(∀ j s,i≤j→j<l.length→I j s→body j s=some (g (l.getD j d) s)∧∀ s',g (l.getD j d) s = .go s'→I (j+1) s') →
 eH body fin (l.length-i) i s=some (fh g f (l.drop i) s):=by
 intro i s hI h;by_cases hi:i<l.length
 ·obtain ⟨k,hk⟩:∃ k,l.length-i=k+1:=⟨l.length-i-1,by omega⟩;obtain ⟨h1,h2⟩:=h i s (Nat.le_refl _) hi hI;have hx:l.getD i d=l[i]:=by simp [Lz,LA hi]
  rw [hx] at h1 h2;rw [hk,List.drop_eq_getElem_cons hi];simp only [eH,h1,Option.bind_some,fh];cases hg:g l[i] s with
  | go s' =>
   have ih:=vn d l g I hf (i+1) s' (h2 s' hg) (fun j s h1 h2=>h j s (by omega) h2);rw [show l.length-(i+1)=k by omega] at ih;exact ih
  | brk e=>rfl
  | ret r=>rfl
 ·rw [show l.length-i=0 by omega,List.drop_eq_nil_of_le (by omega)];simp [eH,fh,hf]
 termination_by i=>l.length-i
theorem fB {body:Nat→σ→Option (gC σ ε ρ)} {fin:Nat→σ→ε} {f:σ→ε} (d:α) (l:List α) (g:α→σ→gC σ ε ρ) (I:Nat→σ→Prop) (hf:∀ i s,fin i s=f s) (s:σ) (hI:I 0 s)
 (h:∀ j s,j<l.length→I j s→body j s=some (g (l.getD j d) s)∧∀ s',g (l.getD j d) s = .go s'→I (j+1) s') :
 eH body fin (l.length-0) 0 s=some (fh g f l s):=by
 have:=vn d l g I hf 0 s hI (fun j s _ h1 h2=>h j s h1 h2);simpa using this
theorem x8 {body:Nat→Unit→Option (gC Unit Nat ρ)} (p:Nat→Bool):∀ (k i:Nat) (u:Unit),(∀ j u,i≤j→j<i+k→body j u=some (bif p j then .brk j else .go ())) →
 eH body (fun i _=>i) k i u=some (.brk (match (List.range' i k).find? p with | some j=>j | none=>i+k))
 | 0,i,u,h=>by simp [eH]
 | k+1,i,u,h=>by
  simp only [eH,h i u (Nat.le_refl _) (by omega),List.range'_succ,List.find?_cons];cases hp:p i with
  | false =>
   simp only [cond_false,Option.bind_some,zg];rw [x8 p k (i+1) () (fun j u h1 h2=>h j u (by omega) (by omega))];rw [show i+1+k=i+(k+1) by omega]
  | true=>simp [zg]
theorem td (p:α→Bool) (d:α):∀ l:List α,0≤idxOf p l→(idxOf p l).toNat<l.length∧p (l.getD (idxOf p l).toNat d)=true
 | [],h=>by simp [idxOf] at h
 | x::l,h=>by
  cases hp:p x with
  | true=>simp [idxOf,hp]
  | false =>
   have hge:=o9 p l;simp only [idxOf,hp,cond_false] at h ⊢;by_cases hm:idxOf p l = -1
   ·rw [hm] at h;simp at h
   ·have e:(idxOf p l == -1)=false:=by simpa using hm
    rw [e,cond_false];obtain ⟨h1,h2⟩:=td p d l (by omega);have e2:(idxOf p l+1).toNat=(idxOf p l).toNat+1:=by omega
    rw [e2];exact ⟨by simp;omega,by simpa using h2⟩
theorem AD (p:α→Bool) (d:α) (l:List α):idxOf p l<(l.length:Int):=by
 by_cases h:0≤idxOf p l
 ·have:=(td p d l h).1;omega
 ·omega
theorem D3 (p:α→Bool) (d:α) (l:List α):((match (List.range' 0 (l.length-0)).find? (fun j=>p (l.getD j d)) with | some j=>j | none=>0+(l.length-0)):Nat)=(bif decide (idxOf p l<0) then l.length else (idxOf p l).toNat):=by
 have h:=sX p d l;have hge:=o9 p l;cases hf:(List.range' 0 (l.length-0)).find? (fun j=>p (l.getD j d)) with
 | none =>
  rw [hf] at h;have h:(-1:Int)=idxOf p l:=h;rw [← h];simp
 | some j =>
  rw [hf] at h;have h:((j:Nat):Int)=idxOf p l:=h;rw [← h,LG (by omega)];simp
end
end Go.Sh
namespace Go.Proofs.YtlhcekghjfjajaaGreatDoor
open Go.Ab Go.Sh
def E5 (v:au) (x:Value):Bool:=x.Var==v
def vv (vs:List Value) (v:au):Int:=(vs.getD (idxOf (E5 v) vs).toNat ⟨[],0⟩).N
def GS (vs:List Value) (v:au):Prop:=0≤idxOf (E5 v) vs ∧ -1000000000≤vv vs v∧vv vs v≤1000000000
def Hq (vs:List Value) (t:aq) (n:Int):gC Int Int (Int×Int) :=
 bif decide (idxOf (E5 t.Var) vs<0) then .ret (0,7) else
 bif decide (vv vs t.Var<(-1000000000)) then .ret (0,2) else
 bif decide (vv vs t.Var>1000000000) then .ret (0,2) else .go (aL (n+(aL (t.C*vv vs t.Var))))
def JN (o:Out Int (Int×Int)):Int×Int:=match o with | .brk n=>(n,0) | .ret r=>r
def ur (vs:List Value) (l:Linear):Int×Int:=bif ax l then JN (fh (Hq vs) (fun s=>s) l.Terms l.Const) else (0,1)
theorem EA (o:Out Int (Int×Int)):((some o).bind (Sh.aft fun u=>some (u,0)))=some (JN o):=by cases o<;>rfl
theorem xl (l:Linear) (vs:List Value):my l vs=some (ur vs l):=by
 unfold my ur;rw [pX l];simp only [Option.bind_some];cases ax l with
 | false=>rfl
 | true =>
  simp only [cond_true];rw [fB (fin:=fun _ s=>s) (f:=fun s=>s) ⟨[],0⟩ l.Terms (Hq vs) (fun _ _=>True) (fun _ _=>rfl) l.Const trivial (fun j s hj _=>⟨by
   rw [x8 (fun i=>E5 (l.Terms.getD j ⟨[],0⟩).Var (vs.getD i ⟨[],0⟩)) _ _ () (fun i u _ _=>by unfold E5;cases (vs.getD i ⟨[],0⟩).Var==(l.Terms.getD j ⟨[],0⟩).Var<;>rfl)]
   simp only [Option.bind_some,dI];rw [D3 (E5 (l.Terms.getD j ⟨[],0⟩).Var) ⟨[],0⟩ vs];simp only [Hq];have hlt:=AD (E5 (l.Terms.getD j ⟨[],0⟩).Var) ⟨[],0⟩ vs;by_cases h0:idxOf (E5 (l.Terms.getD j ⟨[],0⟩).Var) vs<0
   ·rw [LH h0];simp
   ·rw [LG h0];simp only [cond_false];have e:((((idxOf (E5 (l.Terms.getD j ⟨[],0⟩).Var) vs).toNat:Nat):Int)==((vs.length:Nat):Int))=false:=by rw [beq_eq_false_iff_ne];omega
    rw [e,cond_false,aG (by omega)];unfold vv;cases decide ((vs.getD (idxOf (E5 (l.Terms.getD j ⟨[],0⟩).Var) vs).toNat ⟨[],0⟩).N<(-1000000000))<;>cases decide ((vs.getD (idxOf (E5 (l.Terms.getD j ⟨[],0⟩).Var) vs).toNat ⟨[],0⟩).N>1000000000)<;>rfl,fun _ _=>trivial⟩)]
  exact EA _
def cD (f:au→Int):List aq→Int
 | []=>0
 | t::ts=>t.C*f t.Var+cD f ts
def dx (f:au→Int) (l:Linear):Int:=l.Const+cD f l.Terms
theorem prod_bound {a b A B:Int} (h1 : -A≤a) (h2:a≤A) (h3 : -B≤b) (h4:b≤B) : -(A*B)≤a*b∧a*b≤A*B:=by
 have hA:0≤A:=by omega
 have hB:0≤B:=by omega
 have hn:(a*b).natAbs≤A.natAbs*B.natAbs:=by rw [Int.natAbs_mul];exact Nat.mul_le_mul (by omega) (by omega)
 have e:((A.natAbs*B.natAbs:Nat):Int)=A*B:=by rw [Int.natCast_mul];congr 1<;>omega
 omega
theorem Ad (vs:List Value):∀ (ts:List aq) (n:Int),(∀ t∈ts,-1000000≤t.C∧t.C≤1000000)→ts.length≤12 →
 -(1000000+(12-(ts.length:Int))*1000000000000000)≤n→n≤1000000+(12-(ts.length:Int))*1000000000000000 →
 (fh (Hq vs) (fun s=>s) ts n = .brk (n+cD (vv vs) ts)∧∀ t∈ts,GS vs t.Var)∨((∃ t∈ts,¬ GS vs t.Var)∧∃ e,(e=7∨e=2)∧fh (Hq vs) (fun s=>s) ts n = .ret (0,e))
 | [],n,_,_,_,_=>.inl ⟨by simp [fh,cD],by simp⟩
 | t::ts,n,hC,hl,h1,h2=>by
  by_cases h0:idxOf (E5 t.Var) vs<0
  ·exact .inr ⟨⟨t,by simp,fun hv=>by have:=hv.1;omega⟩,7,.inl rfl,by simp only [fh,Hq,LH h0,cond_true]⟩
  by_cases h3:vv vs t.Var < -1000000000
  ·exact .inr ⟨⟨t,by simp,fun hv=>by have:=hv.2.1;omega⟩,2,.inr rfl,by simp only [fh,Hq,LG h0,LH h3,cond_true,cond_false]⟩
  by_cases h4:vv vs t.Var>1000000000
  ·exact .inr ⟨⟨t,by simp,fun hv=>by have:=hv.2.2;omega⟩,2,.inr rfl,by simp only [fh,Hq,LG h0,LG h3,LH h4,cond_true,cond_false]⟩
  obtain ⟨c1,c2⟩:=hC t (by simp);obtain ⟨b1,b2⟩:=prod_bound c1 c2 (show -1000000000≤vv vs t.Var by omega) (show vv vs t.Var≤1000000000 by omega);have hl':(ts.length:Int)≤11:=by simp at hl;omega
  have hlen:(((t::ts).length:Nat):Int)=(ts.length:Int)+1:=by simp
  rw [hlen] at h1 h2;have e:Hq vs t n = .go (n+t.C*vv vs t.Var):=by simp only [Hq,LG h0,LG h3,LG h4,cond_false];rw [qj (n:=t.C*vv vs t.Var) (by unfold xi;omega),qj (by unfold xi;omega)]
  simp only [fh,e,cD];rcases Ad vs ts (n+t.C*vv vs t.Var) (fun t ht=>hC t (by simp [ht])) (by omega) (by omega) (by omega) with ⟨e1,e2⟩ | ⟨⟨y,e1,e1'⟩,e2⟩
  ·refine .inl ⟨by rw [e1,Int.add_assoc],fun x hx => ?_⟩;rcases List.mem_cons.1 hx with rfl | hx
   ·exact ⟨by omega,by omega,by omega⟩
   ·exact e2 x hx
  ·exact .inr ⟨⟨y,by simp [e1],e1'⟩,e2⟩
theorem cz {l:Linear} (h:ax l=true):∀ t∈l.Terms,(-1000000≤t.C∧t.C≤1000000)∧fg t.Var=true:=by
 intro t ht;obtain ⟨j,hj,rfl⟩:=List.getElem_of_mem ht;simp only [ax,LB,LN] at h;have:=h.1 j (by simpa using hj);have e:ye l j=l.Terms[j]:=by simp [ye,Lz,LA hj]
 simp only [km,e,LB,Cg,decide_eq_true_eq] at this;exact ⟨this.2.2.1,this.1⟩
theorem kh {l:Linear} (h:ax l=true) : -1000000≤l.Const∧l.Const≤1000000:=by simp only [ax,LB,Cg,decide_eq_true_eq] at h;exact h.2.1
theorem ia {s:au} (h:fg s=true):s.length≤30:=by
 cases s with
 | nil=>simp
 | cons c r =>
  simp only [fg] at h;cases hc:c==95
  ·simp only [hc,cond_false,LB,decide_eq_true_eq] at h;simp;omega
  ·simp only [hc,cond_true,LB,decide_eq_true_eq] at h;simp;omega
theorem jK {l:Linear} (h:ax l=true):Dw l :=
 ⟨by have:=bX h;omega,fun t ht=>by have:=ia (cz h t ht).2;omega⟩
theorem Eg (vs:List Value) (l:Linear) (h:ax l=true):(ur vs l=(dx (vv vs) l,0)∧∀ t∈l.Terms,GS vs t.Var)∨((∃ t∈l.Terms,¬ GS vs t.Var)∧(ur vs l).2≠0):=by
 have hl:=bX h;obtain ⟨k1,k2⟩:=kh h;have hp:0≤(12-(l.Terms.length:Int))*1000000000000000:=Int.mul_nonneg (by omega) (by omega);unfold ur;rw [h,cond_true];rcases Ad vs l.Terms l.Const (fun t ht=>(cz h t ht).1) hl (by omega) (by omega) with ⟨e1,e2⟩ | ⟨e1,e,e2,e3⟩
 ·exact .inl ⟨by rw [e1];rfl,e2⟩
 ·refine .inr ⟨e1,?_⟩;rw [e3];rcases e2 with rfl | rfl<;>simp [JN]
theorem J3 {vs:List Value} {l:Linear} (h:(ur vs l).2=0):ax l=true∧(ur vs l).1=dx (vv vs) l∧∀ t∈l.Terms,GS vs t.Var:=by
 cases hv:ax l with
 | false=>unfold ur at h;rw [hv] at h;simp at h
 | true =>
  rcases Eg vs l hv with ⟨e1,e2⟩ | ⟨_,e⟩
  ·exact ⟨rfl,by rw [e1],e2⟩
  ·exact absurd h e
end Go.Proofs.YtlhcekghjfjajaaGreatDoor
namespace Go.Sh
def pe (f:au→Int):List (au×Int)→Int
 | []=>0
 | (k,c)::m=>c*f k+pe f m
theorem wy (f:au→Int) (x:au) (v:Int):∀ m:List (au×Int),pe f (bI x v m)=pe f m+(v-ba 0 x m)*f x
 | []=>by simp [bI,ba,pe]
 | (k,u)::m=>by
  by_cases h:k=x
  ·subst h;simp only [bI,ba,if_pos,pe];rw [Int.sub_mul];omega
  ·simp only [bI,ba,if_neg h,pe];rw [wy f x v m];omega
theorem xP (x y:au) (v:Int):∀ m:List (au×Int),ba 0 y (bI x v m)=if x=y then v else ba 0 y m
 | []=>by simp [bI,ba]
 | (k,u)::m=>by
  by_cases h:k=x
  ·subst h;simp only [bI,ba,if_pos];by_cases h2:k=y
   ·simp [h2]
   ·simp [h2]
  ·simp only [bI,if_neg h,ba];rw [xP x y v m];by_cases h2:k=y
   ·subst h2;simp [Ne.symm h]
   ·simp [h2]
theorem jG (x:au) (v:Int):∀ m:List (au×Int),(bI x v m).map (·.1)=if x∈m.map (·.1) then m.map (·.1) else m.map (·.1)++[x]
 | []=>by simp [bI]
 | (k,u)::m=>by
  by_cases h:k=x
  ·subst h;simp [bI]
  ·simp only [bI,if_neg h,List.map_cons,jG x v m,List.mem_cons,Ne.symm h,false_or];split<;>simp
structure Sm (B:Int) (K:Nat) (m:List (au×Int)):Prop where
 bd:∀ x,-B≤ba 0 x m∧ba 0 x m≤B
 len:m.length≤K
 nd:(m.map (·.1)).Nodup
 key:∀ x∈m.map (·.1),x.length≤1000000
theorem Sm.nil:Sm 0 0 []:=⟨fun x=>by simp [ba],by simp,by simp,by simp⟩
theorem Sm.put {B:Int} {K:Nat} {m:List (au×Int)} (h:Sm B K m) {x:au} {v:Int} {B':Int} (hx:x.length≤1000000) (hB:B≤B') (h1 : -B'≤v) (h2:v≤B'):Sm B' (K+1) (bI x v m):=by
 refine ⟨fun y => ?_,?_,?_,fun y hy => ?_⟩
 ·rw [xP];split
  ·exact ⟨h1,h2⟩
  ·have:=h.bd y;omega
 ·have e:=congrArg List.length (jG x v m);have:=h.len;split at e<;>simp at e<;>omega
 ·rw [jG];split
  ·exact h.nd
  ·rename_i hn;rw [List.nodup_append];exact ⟨h.nd,by simp,fun a ha b hb=>by
    have:b=x:=by simpa using hb
    subst this;intro e;subst e;exact hn ha⟩
 ·rw [jG] at hy;split at hy
  ·exact h.key y hy
  ·rcases List.mem_append.1 hy with hy | hy
   ·exact h.key y hy
   ·have:y=x:=by simpa using hy
    subst this;exact hx
theorem Sm.mono {B B':Int} {K K':Nat} {m:List (au×Int)} (h:Sm B K m) (h1:B≤B') (h2:K≤K'):Sm B' K' m :=
 ⟨fun x=>by have:=h.bd x;omega,by have:=h.len;omega,h.nd,h.key⟩
theorem xT:∀ {l:List au},l.Nodup→tD l=true
 | [],_=>rfl
 | x::l,h=>by rw [List.nodup_cons] at h;simp only [tD,LB,Bool.not_eq_true',List.any_eq_false,beq_iff_eq];exact ⟨fun y hy e=>h.1 (e ▸ hy),xT h.2⟩
end Go.Sh
namespace Go.Proofs.YtlhcekghjfjajaaGreatDoor
open Go.Ab Go.Sh
theorem Hs {B:Int} {K:Nat} {m:List (au×Int)} (h:Sm B K m) (hK:K≤1000):vy m=true:=by simp only [vy,LB,decide_eq_true_eq,LN];refine ⟨xT h.nd,by have:=h.len;omega,fun e he=>h.key e.1 (List.mem_map.2 ⟨e,he,rfl⟩)⟩
def Ba (k:Int) (t:aq) (m:List (au×Int)):List (au×Int):=bI t.Var (aL ((ba 0 t.Var m)+(aL (k*t.C)))) m
def Cj (l:Linear) (k:Int) (n:Int) (m:List (au×Int)):Int×List (au×Int):=(aL (n+aL (k*l.Const)),l.Terms.foldl (fun m t=>Ba k t m) m)
theorem r8 (l:Linear) (k n:Int) (m:List (au×Int)):gj l k n m=some (Cj l k n m):=by
 unfold gj;obtain ⟨s',e1,e2,_⟩:=yU (σ:=List (au×Int)) (ε:=(Int×(List (au×Int)))) (ρ:=(Int×(List (au×Int)))) (fin:=fun _ s41=>((aL (n+(aL (k*l.Const)))),s41))
  (body:=fun i42 s41 =>
  some (.go (bI ((l.Terms.getD i42 ⟨[],0⟩).Var) (aL ((ba 0 ((l.Terms.getD i42 ⟨[],0⟩).Var) s41)+(aL (k*((l.Terms.getD i42 ⟨[],0⟩).C))))) s41)))
  (fun j m=>Ba k (l.Terms.getD j ⟨[],0⟩) m) (fun _ _=>True) (l.Terms.length-0) 0 m trivial (fun j s _ _ _=>⟨rfl,trivial⟩)
 rw [e1];simp only [Option.bind_some,Sh.aft,Cj,LK];rw [e2];have:=oK (fun (m:List (au×Int)) (t:aq)=>Ba k t m) ⟨[],0⟩ l.Terms 0 m;rw [this];rfl
theorem Fe (a b c:Int):a*b*c=a*(b*c):=Int.mul_assoc a b c
theorem AL (f:au→Int) (k:Int) (hk : -1000000≤k∧k≤1000000):∀ (ts:List aq) (m:List (au×Int)) (B:Int) (K:Nat),(∀ t∈ts,(-1000000≤t.C∧t.C≤1000000)∧t.Var.length≤1000000) →
 Sm B K m→0≤B→B+(ts.length:Int)*1000000000000≤9000000000000000000 →
 Sm (B+(ts.length:Int)*1000000000000) (K+ts.length) (ts.foldl (fun m t=>Ba k t m) m)∧pe f (ts.foldl (fun m t=>Ba k t m) m)=pe f m+k*cD f ts
 | [],m,B,K,_,hs,_,_=>⟨by simpa using hs,by simp [cD]⟩
 | t::ts,m,B,K,hC,hs,hB,hle=>by
  obtain ⟨⟨c1,c2⟩,hv⟩:=hC t (by simp);obtain ⟨b1,b2⟩:=prod_bound hk.1 hk.2 c1 c2;have hlen:(((t::ts).length:Nat):Int)=(ts.length:Int)+1:=by simp
  rw [hlen] at hle;have hle':B+((ts.length:Int)*1000000000000+1000000000000)≤9000000000000000000:=by rw [Int.add_mul] at hle;omega
  have hp:0≤(ts.length:Int)*1000000000000:=by omega
  obtain ⟨m1,m2⟩:=hs.bd t.Var;have e:Ba k t m=bI t.Var (ba 0 t.Var m+k*t.C) m:=by unfold Ba;rw [qj (n:=k*t.C) (by unfold xi;omega),qj (by unfold xi;omega)]
  have hs1:=hs.put (v:=ba 0 t.Var m+k*t.C) (B':=B+1000000000000) hv (by omega) (by omega) (by omega);rw [← e] at hs1;obtain ⟨g1,g2⟩:=AL f k hk ts (Ba k t m) (B+1000000000000) (K+1) (fun x hx=>hC x (by simp [hx])) hs1 (by omega) (by omega);rw [List.foldl_cons,hlen];refine ⟨?_,?_⟩
  ·have e1:B+1000000000000+(ts.length:Int)*1000000000000=B+((ts.length:Int)+1)*1000000000000:=by rw [Int.add_mul];omega
   have e2:K+1+ts.length=K+(t::ts).length:=by simp;omega
   rw [← e1,← e2];exact g1
  ·rw [g2,e,wy];simp only [cD];rw [Int.mul_add,show ba 0 t.Var m+k*t.C-ba 0 t.Var m=k*t.C by omega,Fe];omega
theorem x9 (f:au→Int) {a b:List aq} (h:a.Perm b):cD f a=cD f b:=by
 induction h with
 | nil=>rfl
 | cons x _ ih=>simp only [cD,ih]
 | swap x y l=>simp only [cD];omega
 | trans _ _ h1 h2=>exact h1.trans h2
theorem Er {k x:au} {u:Int} {m:List (au×Int)} (h:k≠x):ba 0 x ((k,u)::m)=ba 0 x m:=by simp [ba,h]
theorem EM (m:List (au×Int)) {x:au} (h:x∈b8 m):x∈m.map (·.1):=by unfold b8 at h;obtain ⟨e,he,rfl⟩:=List.mem_map.1 h;exact List.mem_map.2 ⟨e,(List.mem_filter.1 he).1,rfl⟩
theorem xr (f:au→Int):∀ m:List (au×Int),(m.map (·.1)).Nodup→cD f ((b8 m).map fun k=>aq.mk k (ba 0 k m))=pe f m
 | [],_=>rfl
 | (k,u)::m,h=>by
  rw [List.map_cons,List.nodup_cons] at h;have ih:=xr f m h.2;have hskip:(b8 m).map (fun x=>aq.mk x (ba 0 x ((k,u)::m)))=(b8 m).map fun x=>aq.mk x (ba 0 x m):=by refine List.map_congr_left fun x hx => ?_;rw [Er fun e=>h.1 (by subst e;exact EM m hx)]
  by_cases hu:u=0
  ·subst hu;have e:b8 ((k,(0:Int))::m)=b8 m:=by simp [b8]
   rw [e,hskip,ih];simp [pe]
  ·have e:b8 ((k,u)::m)=k::b8 m:=by simp [b8,hu]
   rw [e,List.map_cons,hskip];simp only [cD,ih,pe];simp [ba]
theorem ES {n:Int} {m:List (au×Int)} {B:Int} {K:Nat} (hs:Sm B K m) (f:au→Int) (h:(pG n m (mH (b8 m))).2=0):ax (pG n m (mH (b8 m))).1=true∧dx f (pG n m (mH (b8 m))).1=n+pe f m:=by
 unfold pG at h ⊢;cases hv:ax (Linear.mk n ((mH (b8 m)).map fun k=>aq.mk k (ba 0 k m))) with
 | false=>rw [hv] at h;simp at h
 | true =>
  simp only [cond_true,dx];refine ⟨hv,?_⟩;rw [x9 f ((mv (b8 m)).map _),xr f m hs.nd]
def E4 (bs:List Bind) (t:aq) (s:Int×List (au×Int)):gC (Int×List (au×Int)) (Int×List (au×Int)) (Linear×Int) :=
 bif decide (idxOf (pH 1 t.Var) bs<0) then .go (s.1,bI t.Var (aL (ba 0 t.Var s.2+t.C)) s.2) else
 bif ax (bs.getD (idxOf (pH 1 t.Var) bs).toNat Bl).Dim then .go (Cj (bs.getD (idxOf (pH 1 t.Var) bs).toNat Bl).Dim t.C s.1 s.2) else .ret ((Linear.mk 0 []),1)
def sv (bs:List Bind) (f:au→Int) (v:au):Int:=bif decide (idxOf (pH 1 v) bs<0) then f v else dx f (bs.getD (idxOf (pH 1 v) bs).toNat Bl).Dim
theorem EG (bs:List Bind) (v:au) (c:Int):ct bs v c=some (idxOf (pH 1 v) bs):=by
 unfold ct;rw [vm (f:=fun j=>((j:Nat):Int)) (fun j=>pH 1 v (bs.getD j Bl)) _ _ () (fun j u _ _=>by
  unfold ju pH;simp only;cases (bs.getD j Bl).Kind==1
  ·rfl
  ·cases (bs.getD j Bl).Var==v<;>rfl)]
 exact Hg bs (pH 1 v) _ (sX (pH 1 v) Bl bs)
def Hr (o:Out (Int×List (au×Int)) (Linear×Int)):Linear×Int:=match o with | .brk u=>pG u.1 u.2 (mH (b8 u.2)) | .ret r=>r
def Ch (bs:List Bind) (l:Linear):Linear×Int:=bif ax l then Hr (fh (E4 bs) (fun s=>s) l.Terms (l.Const,[])) else ((Linear.mk 0 []),1)
def St (j:Nat) (c:Int) (s:Int×List (au×Int)):Prop:=Sm ((j:Int)*12000000000000) (12*j) s.2 ∧ -(1000000+(j:Int)*1000000000000)≤s.1∧s.1≤1000000+(j:Int)*1000000000000
theorem FT (bs:List Bind) (f:au→Int) (t:aq) (c:Int) (j:Nat) (hj:j<12) (ht:(-1000000≤t.C∧t.C≤1000000)∧fg t.Var=true) (s s':Int×List (au×Int)) (hs:St j c s) (h:E4 bs t s = .go s') :
 St (j+1) c s'∧s'.1+pe f s'.2=s.1+pe f s.2+t.C*sv bs f t.Var:=by
 have hn:=ia ht.2;have ej:((j+1:Nat):Int)*12000000000000=(j:Int)*12000000000000+12000000000000:=by omega
 obtain ⟨h1,h2,h3⟩:=hs;unfold E4 at h;by_cases h0:idxOf (pH 1 t.Var) bs<0
 ·rw [LH h0,cond_true] at h;have e:s'=(s.1,bI t.Var (aL (ba 0 t.Var s.2+t.C)) s.2):=by injection h with h;exact h.symm
  obtain ⟨m1,m2⟩:=h1.bd t.Var;have hw:aL (ba 0 t.Var s.2+t.C)=ba 0 t.Var s.2+t.C:=qj (by unfold xi;omega);rw [hw] at e;subst e;refine ⟨⟨(h1.put (v:=ba 0 t.Var s.2+t.C) (B':=((j+1:Nat):Int)*12000000000000) (by omega) (by omega) (by omega) (by omega)).mono (Int.le_refl _) (by omega),by simp only;omega,by simp only;omega⟩,?_⟩;simp only;rw [wy,show ba 0 t.Var s.2+t.C-ba 0 t.Var s.2=t.C by omega];simp only [sv,LH h0,cond_true];omega
 ·rw [LG h0,cond_false] at h;generalize hD:(bs.getD (idxOf (pH 1 t.Var) bs).toNat Bl).Dim=D at h;cases hv:ax D with
  | false=>rw [hv,cond_false] at h;cases h
  | true =>
   rw [hv,cond_true] at h;have e:s'=Cj D t.C s.1 s.2:=by injection h with h;exact h.symm
   subst e;obtain ⟨k1,k2⟩:=kh hv;have hl:=bX hv;obtain ⟨b1,b2⟩:=prod_bound ht.1.1 ht.1.2 k1 k2;obtain ⟨g1,g2⟩:=AL f t.C ht.1 D.Terms s.2 ((j:Int)*12000000000000) (12*j) (fun x hx=>⟨(cz hv x hx).1,by have:=ia (cz hv x hx).2;omega⟩) h1 (by omega) (by omega);have hw:aL (s.1+aL (t.C*D.Const))=s.1+t.C*D.Const:=by rw [qj (n:=t.C*D.Const) (by unfold xi;omega),qj (by unfold xi;omega)]
   refine ⟨⟨g1.mono (by omega) (by omega),?_,?_⟩,?_⟩
   ·simp only [Cj,hw];omega
   ·simp only [Cj,hw];omega
   ·simp only [Cj,hw,g2,sv,LG h0,cond_false,hD,dx];rw [Int.mul_add];omega
theorem CY (bs:List Bind) (f:au→Int) (c:Int) (ts:List aq):∀ (j:Nat) (s:Int×List (au×Int)),j+ts.length≤12→(∀ t∈ts,(-1000000≤t.C∧t.C≤1000000)∧fg t.Var=true)→St j c s →
 (∃ u,fh (E4 bs) (fun s=>s) ts s = .brk u∧St (j+ts.length) c u∧u.1+pe f u.2=s.1+pe f s.2+cD (sv bs f) ts)∨fh (E4 bs) (fun s=>s) ts s = .ret ((Linear.mk 0 []),1):=by
 induction ts with
 | nil=>exact fun j s _ _ hs=>.inl ⟨s,rfl,hs,by simp [cD]⟩
 | cons t ts ih =>
  intro j s hj hC hs;have hj':j+1+ts.length≤12:=by simp at hj;omega
  have hret:∀ r,E4 bs t s = .ret r→r=((Linear.mk 0 []),1):=by intro r hg;unfold E4 at hg;cases h1:decide (idxOf (pH 1 t.Var) bs<0)<;>cases h2:ax (bs.getD (idxOf (pH 1 t.Var) bs).toNat Bl).Dim<;>rw [h1,h2] at hg<;>first | (injection hg with hg;exact hg.symm) | cases hg
  have hbrk:∀ e,E4 bs t s ≠ .brk e:=by intro e hg;unfold E4 at hg;cases h1:decide (idxOf (pH 1 t.Var) bs<0)<;>cases h2:ax (bs.getD (idxOf (pH 1 t.Var) bs).toNat Bl).Dim<;>rw [h1,h2] at hg<;>cases hg
  have hgo:=fun s'=>FT bs f t c j (by simp at hj;omega) (hC t (by simp)) s s';simp only [fh];generalize E4 bs t s=R at hret hbrk hgo;cases R with
  | go s' =>
   obtain ⟨h1,h2⟩:=hgo s' hs rfl;rcases ih (j+1) s' hj' (fun x hx=>hC x (by simp [hx])) h1 with ⟨u,e1,e2,e3⟩ | e
   ·refine .inl ⟨u,e1,?_,?_⟩
    ·rw [show j+(t::ts).length=j+1+ts.length by simp;omega];exact e2
    ·rw [e3,h2];simp only [cD];omega
   ·exact .inr e
  | brk e=>exact absurd rfl (hbrk e)
  | ret r=>exact .inr (by rw [hret r rfl])
theorem Lm (l:Linear) (h:ax l=true):St 0 l.Const (l.Const,[]):=by obtain ⟨k1,k2⟩:=kh h;exact ⟨Sm.nil,by simp only;omega,by simp only;omega⟩
theorem oP (l:Linear) (bs:List Bind) (h:Dw l) (hb:∀ b∈bs,okB b):gG l bs=some (Ch bs l):=by
 unfold gG Ch;rw [eI l h.1 h.2];simp only [Option.bind_some];cases hv:ax l with
 | false=>rfl
 | true =>
  simp only [cond_true];rw [fB (fin:=fun _ s=>(s.1,s.2)) (f:=fun s=>s) ⟨[],0⟩ l.Terms (E4 bs) (fun _ _=>True) (fun _ _=>rfl) (l.Const,[]) trivial (fun j s hj _=>⟨by
   rw [EG];simp only [Option.bind_some,E4];generalize ht:l.Terms.getD j ⟨[],0⟩=t;by_cases h0:idxOf (pH 1 t.Var) bs<0
   ·rw [LH h0];rfl
   ·rw [LG h0];simp only [cond_false];rw [aG ⟨by omega,AD _ Bl _⟩];have hk:=Gp hb (idxOf (pH 1 t.Var) bs).toNat;rw [oX,eI _ hk.2.1.1 hk.2.1.2];simp only [Option.bind_some];cases ax (bs.getD (idxOf (pH 1 t.Var) bs).toNat Bl).Dim with
    | false=>rfl
    | true=>simp only [cond_true];rw [r8];rfl,fun _ _=>trivial⟩)]
  rcases CY bs (fun _=>0) l.Const l.Terms 0 (l.Const,[]) (by have:=bX hv;omega) (cz hv) (Lm l hv) with ⟨u,e1,e2,_⟩ | e
  ·rw [e1];simp only [Option.bind_some,Sh.aft,Hr];rw [xb u.1 u.2 (Hs e2.1 (by have:=bX hv;omega))];rfl
  ·rw [e];rfl
theorem Jz {bs:List Bind} {l:Linear} (h:(Ch bs l).2=0) (f:au→Int):ax l=true∧ax (Ch bs l).1=true∧dx f (Ch bs l).1=dx (sv bs f) l:=by
 cases hv:ax l with
 | false=>unfold Ch at h;rw [hv] at h;simp at h
 | true =>
  unfold Ch at h ⊢;rw [hv,cond_true] at h ⊢;rcases CY bs f l.Const l.Terms 0 (l.Const,[]) (by have:=bX hv;omega) (cz hv) (Lm l hv) with ⟨u,e1,e2,e3⟩ | e
  ·rw [e1] at h ⊢;simp only [Hr] at h ⊢;obtain ⟨g1,g2⟩:=ES e2.1 f h;refine ⟨by simp,g1,?_⟩;rw [g2,e3];simp only [pe,dx];omega
  ·rw [e] at h;simp [Hr] at h
theorem wj {f g:au→Int}:∀ (ts:List aq),(∀ t∈ts,f t.Var=g t.Var)→cD f ts=cD g ts
 | [],_=>rfl
 | t::ts,h=>by simp only [cD];rw [h t (by simp),wj ts fun x hx=>h x (by simp [hx])]
end Go.Proofs.YtlhcekghjfjajaaGreatDoor
namespace Go.Sh
def dec (n:Nat):au:=Lib.decDigits n
theorem tt {n:Nat} (h:n<10):dec n=[UInt8.ofNat (48+n)]:=by unfold dec;rw [Lib.decDigits,dif_pos h]
theorem CX {n:Nat} (h:¬ n<10):dec n=dec (n / 10)++[UInt8.ofNat (48+n % 10)]:=by unfold dec;rw [Lib.decDigits,dif_neg h]
theorem JH (n:Nat):dec n≠[]:=(ss n).2.2
end Go.Sh
namespace Go.Proofs.YtlhcekghjfjajaaGreatDoor
open Go.Ab Go.Sh
theorem Gl (n:Int):Lib.itoa n=(bif decide (n<0) then 45::dec n.natAbs else dec n.natAbs):=by
 unfold Lib.itoa;by_cases h:n<0
 ·rw [if_pos h,LH h];rfl
 ·rw [if_neg h,LG h];show Lib.decDigits n.toNat=Lib.decDigits n.natAbs;congr 1;omega
theorem bb {α:Type} (d:α) {l:List α} {j:Nat} (h:j<l.length):l.getD j d∈l:=by rw [Lz,LA h];exact List.getElem_mem h
end Go.Proofs.YtlhcekghjfjajaaGreatDoor
namespace Go.Sh
structure Gm (K:Nat) (m:List (au×Int)):Prop where
 len:m.length≤K
 nd:(m.map (·.1)).Nodup
 key:∀ x∈m.map (·.1),x.length≤1000000
theorem Gm.nil:Gm 0 []:=⟨by simp,by simp,by simp⟩
theorem Gm.put {K:Nat} {m:List (au×Int)} (h:Gm K m) {x:au} (v:Int) (hx:x.length≤1000000):Gm (K+1) (bI x v m):=by
 refine ⟨?_,?_,fun y hy => ?_⟩
 ·have e:=congrArg List.length (jG x v m);have:=h.len;split at e<;>simp at e<;>omega
 ·rw [jG];split
  ·exact h.nd
  ·rename_i hn;rw [List.nodup_append];exact ⟨h.nd,by simp,fun a ha b hb=>by
    have:b=x:=by simpa using hb
    subst this;intro e;subst e;exact hn ha⟩
 ·rw [jG] at hy;split at hy
  ·exact h.key y hy
  ·rcases List.mem_append.1 hy with hy | hy
   ·exact h.key y hy
   ·have:y=x:=by simpa using hy
    subst this;exact hx
theorem Gm.mono {K K':Nat} {m:List (au×Int)} (h:Gm K m) (h1:K≤K'):Gm K' m:=⟨by have:=h.len;omega,h.nd,h.key⟩
end Go.Sh
namespace Go.Proofs.YtlhcekghjfjajaaGreatDoor
open Go.Ab Go.Sh
end Go.Proofs.YtlhcekghjfjajaaGreatDoor
namespace Go.Sh
theorem gF:∀ x:au,Op.bytesLess x x=false
 | []=>rfl
 | a::x=>by simp [Op.bytesLess,gF x]
theorem gv:∀ x y z:au,Op.bytesLess x y=true→Op.bytesLess y z=true→Op.bytesLess x z=true
 | _,[],_,h,_=>by simp [Op.bytesLess] at h
 | _,_::_,[],_,h=>by simp [Op.bytesLess] at h
 | [],_::_,_::_,_,_=>rfl
 | a::x,b::y,c::z,h1,h2=>by
  simp only [Op.bytesLess,Bool.or_eq_true,LB,decide_eq_true_eq,beq_iff_eq] at h1 h2 ⊢;rcases h1 with h1 | ⟨rfl,h1⟩
  ·rcases h2 with h2 | ⟨rfl,h2⟩
   ·exact .inl (UInt8.lt_trans h1 h2)
   ·exact .inl h1
  ·rcases h2 with h2 | ⟨rfl,h2⟩
   ·exact .inl h2
   ·exact .inr ⟨rfl,gv x y z h1 h2⟩
theorem Db:∀ x y:au,x<y↔Op.bytesLess x y=true
 | x,[]=>by simp [Op.bytesLess]
 | [],b::y=>by simp [Op.bytesLess]
 | a::x,b::y=>by rw [List.cons_lt_cons_iff,Db x y];simp only [Op.bytesLess,Bool.or_eq_true,LB,decide_eq_true_eq,beq_iff_eq]
theorem KM {x y:au} (h:Op.bytesLess x y=true):wS x y=true:=by simp only [wS,decide_eq_true_eq];show ¬ y<x;rw [Db];intro h2;have:=gv _ _ _ h h2;rw [gF] at this;cases this
theorem ri:∀ (k a:Nat),a<10 ^ (k+1)→(dec a).length≤k+1
 | k,a,h=>by
  by_cases h10:a<10
  ·rw [tt h10];simp
  ·cases k with
   | zero=>simp at h;omega
   | succ k =>
    rw [CX h10];have hp:10 ^ (k+1+1)=10*10 ^ (k+1):=by rw [Nat.pow_succ];omega
    have:=ri k (a / 10) (by rw [hp] at h;omega);simp only [List.length_append,List.length_cons,List.length_nil];omega
theorem Hl (a:Nat):jJ 0 (dec a)=a:=by
 induction a using Nat.strongRecOn with
 | _ a ih =>
  by_cases h:a<10
  ·rw [tt h];simp only [jJ,List.foldl_cons,List.foldl_nil];rw [UInt8.toNat_ofNat_of_lt' (show _<256 by omega)];omega
  ·rw [CX h,xJ,ih (a / 10) (by omega),UInt8.toNat_ofNat_of_lt' (show _<256 by omega)];omega
end Go.Sh
namespace Go.Proofs.YtlhcekghjfjajaaGreatDoor
open Go.Ab Go.Sh
theorem uQ {l:Linear} (h:ax l=true):(l.Terms.map (·.Var)).Pairwise (fun a b=>Op.bytesLess a b=true):=by
 have hadj:∀ j,0<j→(hj:j<l.Terms.length)→Op.bytesLess (l.Terms[j-1]'(by omega)).Var l.Terms[j].Var=true:=by
  intro j h0 hj;simp only [ax,LB,LN] at h;have:=h.1 j (by simpa using hj);have e:ye l j=l.Terms[j]:=by simp [ye,Lz,LA hj]
  have e':ye l (j-1)=l.Terms[j-1]'(by omega):=by simp [ye,Lz,LA (show j-1<l.Terms.length by omega)]
  simp only [km,e,e',LB,Bool.or_eq_true,Bool.not_eq_true',decide_eq_false_iff_not] at this;rcases this.2.2.2 with h | h
  ·omega
  ·exact h
 have hall:∀ (n i:Nat) (hi:i+n+1<l.Terms.length),Op.bytesLess (l.Terms[i]'(by omega)).Var l.Terms[i+n+1].Var=true:=by
  intro n;induction n with
  | zero=>intro i hi;exact hadj (i+1) (by omega) hi
  | succ n ih =>
   intro i hi;exact gv _ _ _ (ih i (by omega)) (hadj (i+(n+1)+1) (by omega) hi)
 rw [List.pairwise_iff_getElem];intro i j hi hj hij;simp only [List.getElem_map];simp only [LI] at hi hj;have:=hall (j-i-1) i (by omega);have e:i+(j-i-1)+1=j:=by omega
 simp only [e] at this;exact this
theorem Ai {l:Linear} (h:ax l=true):(l.Terms.map (·.Var)).Nodup:=(uQ h).imp fun hab=>by intro e;rw [e,gF] at hab;cases hab
end Go.Proofs.YtlhcekghjfjajaaGreatDoor
namespace Go.Sh
def Dp (x s:au):Prop:=∃ p,x=p++s
def pos (x s:au):Int:=((x.length-s.length:Nat):Int)
theorem Dp.len {x s:au} (h:Dp x s):s.length≤x.length:=by obtain ⟨p,rfl⟩:=h;simp
theorem Dp.drop {x s:au} (h:Dp x s):x.drop (x.length-s.length)=s:=by obtain ⟨p,rfl⟩:=h;simp
theorem Dp.refl (x:au):Dp x x:=⟨[],rfl⟩
theorem Dp.trans {x s r:au} (h:Dp x s) (h2:Dp s r):Dp x r:=by obtain ⟨p,rfl⟩:=h;obtain ⟨q,rfl⟩:=h2;exact ⟨p++q,by simp⟩
theorem Dp.succ {x s:au} {c:UInt8} (h:Dp x (c::s)):pos x (c::s)+1=pos x s:=by have:=h.len;unfold pos;simp at this ⊢;omega
theorem Dp.lt {x s:au} {c:UInt8} (h:Dp x (c::s)):0≤pos x (c::s)∧pos x (c::s)<(x.length:Int):=by have:=h.len;unfold pos;simp at this ⊢;omega
end Go.Sh
namespace Go.Proofs.YtlhcekghjfjajaaGreatDoor
open Go.Ab Go.Sh
def nz (t:aq):Bool := !(t.C==0)
def IQ (ts:List aq):Prop:=ts.Pairwise (fun a b=>Op.bytesLess a.Var b.Var=true)
def Nz (ts:List aq):Prop:=∀ t∈ts,t.C≠0
def ind (v:au) (x:au):Int:=if x=v then 1 else 0
theorem lu (v:au):∀ ts:List aq,(∀ t∈ts,t.Var≠v)→cD (ind v) ts=0
 | [],_=>rfl
 | t::ts,h=>by simp only [cD,ind,if_neg (h t (by simp)),Int.mul_zero,Int.zero_add];exact lu v ts fun x hx=>h x (by simp [hx])
theorem tX {x y:au} (h:Op.bytesLess x y=true):x≠y:=fun e=>by rw [e,gF] at h;cases h
theorem sZ (x y:au):Op.bytesLess x y=true∨x=y∨Op.bytesLess y x=true:=by
 rcases Bool.eq_false_or_eq_true (Op.bytesLess x y) with h | h
 ·exact .inl h
 ·rcases Bool.eq_false_or_eq_true (Op.bytesLess y x) with h' | h'
  ·exact .inr (.inr h')
  ·refine .inr (.inl ?_);have h1:¬ x<y:=fun e=>by rw [Db,h] at e;cases e
   have h2:¬ y<x:=fun e=>by rw [Db,h'] at e;cases e
   exact List.le_antisymm (List.not_lt.1 h2) (List.not_lt.1 h1)
theorem vq:∀ a b:List aq,IQ a→Nz a→IQ b→Nz b→(∀ f,cD f a=cD f b)→a=b
 | [],[],_,_,_,_,_=>rfl
 | [],t::ts,_,_,h1,h2,h=>by
  have:=h (ind t.Var);simp only [cD] at this;rw [lu t.Var ts fun x hx=>Ne.symm (tX ((List.pairwise_cons.1 h1).1 x hx))] at this;simp only [ind,if_pos,Int.mul_one,Int.add_zero] at this;exact absurd this.symm (h2 t (by simp))
 | t::ts,[],h1,h2,_,_,h=>by
  have:=h (ind t.Var);simp only [cD] at this;rw [lu t.Var ts fun x hx=>Ne.symm (tX ((List.pairwise_cons.1 h1).1 x hx))] at this;simp only [ind,if_pos,Int.mul_one,Int.add_zero] at this;exact absurd this (h2 t (by simp))
 | t::ts,u::us,h1,h2,h3,h4,h=>by
  have ht:=List.pairwise_cons.1 h1;have hu:=List.pairwise_cons.1 h3;have et:cD (ind t.Var) ts=0:=lu t.Var ts fun x hx=>Ne.symm (tX (ht.1 x hx));have eu:cD (ind u.Var) us=0:=lu u.Var us fun x hx=>Ne.symm (tX (hu.1 x hx));have i1:=h (ind t.Var);have i2:=h (ind u.Var);simp only [cD] at i1 i2;rcases sZ t.Var u.Var with hl | he | hl
  ·have z:cD (ind t.Var) us=0:=lu t.Var us fun x hx=>Ne.symm (tX (gv _ _ _ hl (hu.1 x hx)));rw [et,z] at i1;simp only [ind,if_pos,if_neg (Ne.symm (tX hl)),Int.mul_one,Int.mul_zero,Int.add_zero] at i1;exact absurd i1 (h2 t (by simp))
  ·rw [et,he,eu] at i1;simp only [ind,if_pos,Int.mul_one,Int.add_zero] at i1;have e:t=u:=by obtain ⟨tv,tc⟩:=t;obtain ⟨uv,uc⟩:=u;simp only at he i1;rw [he,i1]
   subst e;rw [vq ts us ht.2 (fun x hx=>h2 x (by simp [hx])) hu.2 (fun x hx=>h4 x (by simp [hx])) fun f=>by have:=h f;simp only [cD] at this;omega]
  ·have z:cD (ind u.Var) ts=0:=lu u.Var ts fun x hx=>Ne.symm (tX (gv _ _ _ hl (ht.1 x hx)));rw [eu,z] at i2;simp only [ind,if_pos,if_neg (Ne.symm (tX hl)),Int.mul_one,Int.mul_zero,Int.add_zero] at i2;exact absurd i2.symm (h4 u (by simp))
structure RB (B:Int) (K:Nat) (ts:List aq):Prop where
 srt:IQ ts
 nz:Nz ts
 bd:∀ t∈ts,-B≤t.C∧t.C≤B
 len:ts.length≤K
theorem RB.nil:RB 0 0 []:=⟨List.Pairwise.nil,(fun t h=>by simp at h),(fun t h=>by simp at h),Nat.le_refl _⟩
theorem RB.mono {B B':Int} {K K':Nat} {ts:List aq} (h:RB B K ts) (h1:B≤B') (h2:K≤K'):RB B' K' ts :=
 ⟨h.srt,h.nz,fun t ht=>by have:=h.bd t ht;omega,Nat.le_trans h.len h2⟩
theorem qt {l:Linear} (h:ax l=true):IQ l.Terms:=by have:=uQ h;rw [List.pairwise_map] at this;exact this
theorem de {l:Linear} (h:ax l=true):Nz l.Terms:=by
 intro t ht;obtain ⟨j,hj,rfl⟩:=List.getElem_of_mem ht;simp only [ax,LB,LN] at h;have:=h.1 j (by simpa using hj);have e:ye l j=l.Terms[j]:=by simp [ye,Lz,LA hj]
 simp only [km,e,LB,Bool.not_eq_true',beq_eq_false_iff_ne] at this;exact this.2.1
theorem J1:∀ ts:List aq,cD (fun _=>0) ts=0
 | []=>rfl
 | t::ts=>by simp only [cD,J1 ts];omega
theorem uC {α σ ρ:Type} (g:α→σ→σ):∀ (l:List α) (s:σ),fh (ε:=σ) (ρ:=ρ) (fun x s=>gC.go (g x s)) (fun s=>s) l s = .brk (l.foldl (fun s x=>g x s) s)
 | [],s=>rfl
 | x::l,s=>by simp only [fh,List.foldl_cons];exact uC g l (g x s)
theorem bn {n:Int} (h1 : -9223372036854775808≤n) (h2:n≤9223372036854775807):aL n=n:=by unfold aL IntKind.wrap IntKind.bits IntKind.signed;simp;omega
theorem qk {σ ε ρ:Type} {body:Nat→σ→Option (gC σ ε ρ)} {fin:Nat→σ→ε} (I:Nat→σ→Prop):∀ (k i:Nat) (s:σ),I i s→(∀ j s,i≤j→j<i+k→I j s→∃ s',body j s=some (.go s')∧I (j+1) s') →
 ∃ s',eH body fin k i s=some (.brk (fin (i+k) s'))∧I (i+k) s'
 | 0,i,s,hI,h=>⟨s,by simp [eH],hI⟩
 | k+1,i,s,hI,h=>by obtain ⟨s1,h1,h2⟩:=h i s (Nat.le_refl _) (by omega) hI;obtain ⟨s',e1,e3⟩:=qk I k (i+1) s1 h2 (fun j s h1 h2=>h j s (by omega) (by omega));refine ⟨s',?_,by rw [show i+(k+1)=i+1+k by omega];exact e3⟩;simp only [eH,h1,Option.bind_some,zg];rw [e1,show i+1+k=i+(k+1) by omega]
def jA (n:Int):Bool:=decide (-4611686018427387904≤n)&&decide (n≤4611686018427387904)
theorem kI {n:Int}:jA n=true ↔ -4611686018427387904≤n∧n≤4611686018427387904:=by simp [jA]
theorem fO (l:List Int):eT l=some (l.all jA):=by
 unfold eT;rw [gJ (fun j=>jA (l.getD j 0)) _ _ () (fun j u _ _=>by
  generalize l.getD j 0=n;unfold jA;have e1:decide (n < -4611686018427387904) = !(decide (-4611686018427387904≤n)):=by rw [Bool.eq_iff_iff];simp
  have e2:decide (n>4611686018427387904) = !(decide (n≤4611686018427387904)):=by rw [Bool.eq_iff_iff];simp
  rw [e1,e2];cases decide (-4611686018427387904≤n)<;>cases decide (n≤4611686018427387904)<;>rfl),jh,A4 jA 0 l]
 cases l.all jA<;>rfl
theorem jU {a:Int} (h:jA a=true):cH a=some (a.natAbs:Int)∧a.natAbs≤4611686018427387904:=by
 rw [kI] at h;unfold cH;by_cases h0:a<0
 ·rw [LH h0];simp only [cond_true,LK];rw [bn (by omega) (by omega)];omega
 ·rw [LG h0];simp only [cond_false,LK];omega
theorem wrap_u64 {n:Int} (h0:0≤n) (h:n<18446744073709551616):IntKind.wrap .u64 n=n:=by unfold IntKind.wrap IntKind.bits IntKind.signed;simp;omega
theorem wrap_i64 {n:Int} (h0:0≤n) (h:n≤9223372036854775807):IntKind.wrap .i64 n=n:=bn (by omega) h
def mulR (a b:Int):Int×Int:=bif jA a&&(jA b&&jA (a*b)) then (a*b,0) else (0,2)
theorem yb (a b:Int):((decide (a<0)==decide (b<0))=true→a*b=((a.natAbs*b.natAbs:Nat):Int))∧((decide (a<0)==decide (b<0))=false→a*b = -((a.natAbs*b.natAbs:Nat):Int)):=by
 rcases Int.natAbs_eq a with ha | ha<;>rcases Int.natAbs_eq b with hb | hb;all_goals
  generalize a.natAbs=x at ha ⊢;generalize b.natAbs=y at hb ⊢;subst ha;subst hb
 ·refine ⟨fun _=>by push_cast;rfl,fun h => ?_⟩;rw [LG (by omega),LG (by omega)] at h;cases h
 ·constructor
  ·intro h;by_cases hy:y=0
   ·subst hy;simp
   ·rw [LG (by omega),LH (by omega)] at h;cases h
  ·intro _;rw [Int.mul_neg];push_cast;rfl
 ·constructor
  ·intro h;by_cases hx:x=0
   ·subst hx;simp
   ·rw [LH (by omega),LG (by omega)] at h;cases h
  ·intro _;rw [Int.neg_mul];push_cast;rfl
 ·constructor
  ·intro _;rw [Int.neg_mul_neg];push_cast;rfl
  ·intro h;by_cases hx:x=0
   ·subst hx;simp
   ·by_cases hy:y=0
    ·subst hy;simp
    ·rw [LH (by omega),LH (by omega)] at h;cases h
theorem cy {α β:Type} (x:α) (f:α→Option β):(some x).bind f=f x:=Eq.trans (Option.bind_some x f) rfl
theorem zN {x y:Int} (hx:0≤x∧x<18446744073709551616) (hy:0≤y∧y<18446744073709551616):kU x y=some (x*y / 18446744073709551616,x*y % 18446744073709551616):=if_pos ⟨hx,hy⟩
theorem ll (a b:Int):eN a b=some (mulR a b):=by
 unfold eN mulR;rw [fO];simp only [List.all_cons,List.all_nil,Bool.and_true,cy];cases ha:jA a with
 | false=>rfl
 | true =>
  cases hb:jA b with
  | false=>rfl
  | true =>
   obtain ⟨a1,a2⟩:=jU ha;obtain ⟨b1,b2⟩:=jU hb;simp only [Bool.true_and,cond_true];rw [a1,b1];simp only [cy];rw [wrap_u64 (by omega) (by omega),wrap_u64 (by omega) (by omega),zN ⟨by omega,by omega⟩ ⟨by omega,by omega⟩];obtain ⟨s1,s2⟩:=yb a b;have hP:((a.natAbs:Int)*(b.natAbs:Int))=((a.natAbs*b.natAbs:Nat):Int):=by push_cast;rfl
   rw [hP];generalize a.natAbs*b.natAbs=P at s1 s2 ⊢;generalize hhi:(P:Int) / 18446744073709551616=hi;generalize hlo:(P:Int) % 18446744073709551616=lo;simp only [cy];by_cases hbig:P≤4611686018427387904
   ·rw [LG (show ¬ (hi>0) by omega),LG (show ¬ (lo>4611686018427387904) by omega)];simp only [cond_false];have em:lo=P:=by omega
    rw [em,wrap_i64 (by omega) (by omega)];cases hs:(decide (a<0)==decide (b<0)) with
    | true =>
     rw [s1 hs];have:jA (P:Int)=true:=kI.2 ⟨by omega,by omega⟩;rw [this];rfl
    | false =>
     rw [s2 hs];have:jA (-(P:Int))=true:=kI.2 ⟨by omega,by omega⟩;rw [this,bn (by omega) (by omega),Int.zero_sub];rfl
   ·have hab:jA (a*b)=false:=by
     have:¬ (jA (a*b)=true):=by
      rw [kI];cases hs:(decide (a<0)==decide (b<0)) with
      | true=>rw [s1 hs];omega
      | false=>rw [s2 hs];omega
     simpa using this
    rw [hab];by_cases hq:hi>0
    ·rw [LH hq];rfl
    ·rw [LG hq,LH (show lo>4611686018427387904 by omega)];rfl
def v3 (a b c:Int):Int:=a+b*18446744073709551616+c*340282366920938463463374607431768211456
def lm (x:Int):Prop:=0≤x∧x<18446744073709551616
theorem GA {x y c:Int} (hx:lm x) (hy:lm y) (hc:0≤c∧c≤1):eF x y c=some ((x+y+c) % 18446744073709551616,(x+y+c) / 18446744073709551616):=if_pos ⟨hx,hy,hc⟩
theorem vF {x y c:Int} (hx:lm x) (hy:lm y) (hc:0≤c∧c≤1):∃ r d,eF x y c=some (r,d)∧lm r∧(0≤d∧d≤1)∧r+d*18446744073709551616=x+y+c:=by refine ⟨_,_,GA hx hy hc,?_⟩;unfold lm at *;generalize hs:x+y+c=s;omega
theorem GY {x y:Int} (hx:lm x) (hy:lm y):∃ hi lo,kU x y=some (hi,lo)∧lm lo∧lo+hi*18446744073709551616=x*y∧0≤hi:=by refine ⟨_,_,zN hx hy,?_⟩;have h0:0≤x*y:=Int.mul_nonneg hx.1 hy.1;unfold lm;generalize x*y=s at h0;omega
theorem Dk {x0 x1 x2 hi lo:Int} (h0:lm x0) (h1:lm x1) (h2:lm x2) (hh:lm hi) (hl:lm lo) (hs:v3 x0 x1 x2+lo+hi*18446744073709551616<6277101735386680763835789423207666416102355444464034512896) :
 ∃ r0 r1 r2 c0 c1 c2,eF x0 lo 0=some (r0,c0)∧eF x1 hi c0=some (r1,c1)∧eF x2 0 c1=some (r2,c2)∧lm r0∧lm r1∧lm r2∧v3 r0 r1 r2=v3 x0 x1 x2+lo+hi*18446744073709551616:=by
 obtain ⟨r0,c0,e0,l0,d0,s0⟩:=vF h0 hl (c:=0) (by omega);obtain ⟨r1,c1,e1,l1,d1,s1⟩:=vF h1 hh d0;obtain ⟨r2,c2,e2,l2,d2,s2⟩:=vF h2 (y:=0) (by unfold lm;omega) d1;refine ⟨r0,r1,r2,c0,c1,c2,e0,e1,e2,l0,l1,l2,?_⟩;unfold lm v3 at *;omega
theorem yV {a b p0 p1 p2 n0 n1 n2 K:Int} (ha:jA a=true) (hb:jA b=true) (h0:lm p0) (h1:lm p1) (h2:lm p2) (g0:lm n0) (g1:lm n1) (g2:lm n2) (hK:v3 p0 p1 p2+v3 n0 n1 n2≤K) (hK2:K≤6277101735386680763835789423207666416102355444464034512896-21267647932558653966460912964485513216-1) :
 ∃ q0 q1 q2 m0 m1 m2,cY a b p0 p1 p2 n0 n1 n2=some (q0,q1,q2,m0,m1,m2)∧lm q0∧lm q1∧lm q2∧lm m0∧lm m1∧lm m2∧v3 q0 q1 q2-v3 m0 m1 m2=v3 p0 p1 p2-v3 n0 n1 n2+a*b∧v3 q0 q1 q2+v3 m0 m1 m2≤K+21267647932558653966460912964485513216:=by
 obtain ⟨a1,a2⟩:=jU ha;obtain ⟨b1,b2⟩:=jU hb;obtain ⟨s1,s2⟩:=yb a b;obtain ⟨hi,lo,em,hlo,hsum,hhi⟩:=GY (x:=(a.natAbs:Int)) (y:=(b.natAbs:Int)) (by unfold lm;omega) (by unfold lm;omega);have hP:((a.natAbs:Int)*(b.natAbs:Int))=((a.natAbs*b.natAbs:Nat):Int):=by push_cast;rfl
 have hPb:a.natAbs*b.natAbs≤21267647932558653966460912964485513216:=by have:=Nat.mul_le_mul a2 b2;exact this
 rw [hP] at hsum;have wa:=wrap_u64 (n:=(a.natAbs:Int)) (by omega) (by omega);have wb:=wrap_u64 (n:=(b.natAbs:Int)) (by omega) (by omega);have v0:0≤v3 p0 p1 p2:=by unfold lm v3 at *;omega
 have v1:0≤v3 n0 n1 n2:=by unfold lm v3 at *;omega
 generalize a.natAbs*b.natAbs=Pn at s1 s2 hsum hPb;have hhi2:lm hi:=by unfold lm at *;omega
 unfold cY;cases hs:(decide (a<0)==decide (b<0)) with
 | true =>
  obtain ⟨r0,r1,r2,c0,c1,c2,e0,e1,e2,l0,l1,l2,hv⟩:=Dk h0 h1 h2 hhi2 hlo (by omega);refine ⟨r0,r1,r2,n0,n1,n2,?_,l0,l1,l2,g0,g1,g2,?_,?_⟩
  ·simp only [cond_true];rw [a1,b1];simp only [cy];rw [wa,wb,em];simp only [cy];rw [e0];simp only [cy];rw [e1];simp only [cy];rw [e2];simp only [cy]
  ·rw [hv,s1 hs];omega
  ·rw [hv];omega
 | false =>
  obtain ⟨r0,r1,r2,c0,c1,c2,e0,e1,e2,l0,l1,l2,hv⟩:=Dk g0 g1 g2 hhi2 hlo (by omega);refine ⟨p0,p1,p2,r0,r1,r2,?_,h0,h1,h2,l0,l1,l2,?_,?_⟩
  ·simp only [cond_false];rw [a1,b1];simp only [cy];rw [wa,wb,em];simp only [cy];rw [e0];simp only [cy];rw [e1];simp only [cy];rw [e2];simp only [cy]
  ·rw [hv,s2 hs];omega
  ·rw [hv];omega
theorem vQ {x y c:Int} (hx:lm x) (hy:lm y) (hc:0≤c∧c≤1):∃ r d,kO x y c=some (r,d)∧lm r∧(0≤d∧d≤1)∧r=x-y-c+d*18446744073709551616:=by have e:kO x y c=some ((x-y-c) % 18446744073709551616,if x<y+c then 1 else 0):=if_pos ⟨hx,hy,hc⟩;refine ⟨_,_,e,?_⟩;unfold lm at *;generalize hs:x-y-c=s;split<;>omega
theorem vZ {a0 a1 a2 b0 b1 b2:Int} (h0:lm a0) (h1:lm a1) (h2:lm a2) (g0:lm b0) (g1:lm b1) (g2:lm b2) :
 ∃ r0 r1 r2 k,cJ (a0,a1,a2) (b0,b1,b2)=some ((r0,r1,r2),k)∧(v3 b0 b1 b2≤v3 a0 a1 a2→k=true∧lm r0∧lm r1∧lm r2∧v3 r0 r1 r2=v3 a0 a1 a2-v3 b0 b1 b2)∧(v3 a0 a1 a2<v3 b0 b1 b2→k=false):=by
 obtain ⟨r0,c0,e0,l0,d0,s0⟩:=vQ h0 g0 (c:=0) (by omega);obtain ⟨r1,c1,e1,l1,d1,s1⟩:=vQ h1 g1 d0;obtain ⟨r2,c2,e2,l2,d2,s2⟩:=vQ h2 g2 d1;refine ⟨r0,r1,r2,c2==0,?_,fun h => ?_,fun h => ?_⟩
 ·unfold cJ;rw [e0];simp only [cy];rw [e1];simp only [cy];rw [e2];simp only [cy]
 ·unfold lm v3 at *;refine ⟨?_,l0,l1,l2,by omega⟩;have:c2=0:=by omega
  rw [this];rfl
 ·unfold lm v3 at *;have:c2=1:=by omega
  rw [this];rfl
theorem uP (n:Int) (h:jA n=true):eJ n=some (n,0):=by unfold eJ;rw [fO];simp only [List.all_cons,List.all_nil,h,Bool.and_true,cy,cond_true]
def xg (S:Int):Int×Int:=bif jA S then (S,0) else (0,2)
theorem nR {S:Int} (h:S < -4611686018427387904∨4611686018427387904<S):xg S=(0,2):=by
 have:jA S=false:=by
  have:¬ jA S=true:=by rw [kI];omega
  simpa using this
 unfold xg;rw [this];rfl
theorem De {S:Int} (h:jA S=true):xg S=(S,0):=by unfold xg;rw [h];rfl
theorem uV {a0 a1 a2 b0 b1 b2:Int} (h0:lm a0) (h1:lm a1) (h2:lm a2) (g0:lm b0) (g1:lm b1) (g2:lm b2):cA a0 a1 a2 b0 b1 b2=some (xg (v3 a0 a1 a2-v3 b0 b1 b2)):=by
 obtain ⟨r0,r1,r2,k,e1,k1,k2⟩:=vZ h0 h1 h2 g0 g1 g2;obtain ⟨t0,t1,t2,j,e2,j1,j2⟩:=vZ g0 g1 g2 h0 h1 h2;unfold cA;rw [e1];simp only [cy];by_cases hge:v3 b0 b1 b2≤v3 a0 a1 a2
 ·obtain ⟨hk,l0,l1,l2,hv⟩:=k1 hge;rw [hk];simp only [cond_true];by_cases q1:r1>0
  ·rw [LH q1,nR (by unfold lm v3 at *;omega)];rfl
  ·rw [LG q1];simp only [cond_false];by_cases q2:r2>0
   ·rw [LH q2,nR (by unfold lm v3 at *;omega)];rfl
   ·rw [LG q2];simp only [cond_false];by_cases q0:r0>4611686018427387904
    ·rw [LH q0,nR (by unfold lm v3 at *;omega)];rfl
    ·rw [LG q0];simp only [cond_false];have e:r0=v3 a0 a1 a2-v3 b0 b1 b2:=by unfold lm v3 at *;omega
     have hin:jA r0=true:=kI.2 (by unfold lm at *;omega);rw [wrap_i64 l0.1 (by omega),Int.one_mul,bn (by unfold lm at *;omega) (by omega),uP r0 hin,← e,De hin];simp only [cy]
 ·rw [k2 (by omega)];simp only [cond_false];rw [e2];simp only [cy];obtain ⟨hj,l0,l1,l2,hv⟩:=j1 (by omega);rw [hj];simp only [cond_true];by_cases q1:t1>0
  ·rw [LH q1,nR (by unfold lm v3 at *;omega)];rfl
  ·rw [LG q1];simp only [cond_false];by_cases q2:t2>0
   ·rw [LH q2,nR (by unfold lm v3 at *;omega)];rfl
   ·rw [LG q2];simp only [cond_false];by_cases q0:t0>4611686018427387904
    ·rw [LH q0,nR (by unfold lm v3 at *;omega)];rfl
    ·rw [LG q0];simp only [cond_false];have e : -t0=v3 a0 a1 a2-v3 b0 b1 b2:=by unfold lm v3 at *;omega
     have hin:jA (-t0)=true:=kI.2 (by unfold lm at *;omega);rw [wrap_i64 l0.1 (by omega),show (-1)*t0 = -t0 by omega,bn (by omega) (by unfold lm at *;omega),uP (-t0) hin,← e,De hin];simp only [cy]
def gz (f:Nat→Int):Nat→Int
 | 0=>0
 | j+1=>gz f j+f j
def r6 (a b:List Int) (i:Nat):Int:=a.getD i 0*b.getD i 0
def kK (a b:List Int):Int×Int:=bif decide (a.length=b.length) then (bif decide (a.length≤10000) then (bif a.all jA&&b.all jA then xg (gz (r6 a b) a.length) else (0,2)) else (0,3)) else (0,1)
def xC (s:Int×Int×Int×Int×Int×Int):Prop:=lm s.1∧lm s.2.1∧lm s.2.2.1∧lm s.2.2.2.1∧lm s.2.2.2.2.1∧lm s.2.2.2.2.2
def K5 (s:Int×Int×Int×Int×Int×Int):Int:=v3 s.1 s.2.1 s.2.2.1-v3 s.2.2.2.1 s.2.2.2.2.1 s.2.2.2.2.2
def Lc (s:Int×Int×Int×Int×Int×Int):Int:=v3 s.1 s.2.1 s.2.2.1+v3 s.2.2.2.1 s.2.2.2.2.1 s.2.2.2.2.2
theorem EW {a b:Int} (ha:jA a=true) (hb:jA b=true) (s:Int×Int×Int×Int×Int×Int) (hl:xC s) (j:Nat) (hj:j<10000) (ht:Lc s≤(j:Int)*21267647932558653966460912964485513216) :
 ∃ s',cY a b s.1 s.2.1 s.2.2.1 s.2.2.2.1 s.2.2.2.2.1 s.2.2.2.2.2=some s'∧xC s'∧K5 s'=K5 s+a*b∧Lc s'≤((j+1:Nat):Int)*21267647932558653966460912964485513216:=by
 obtain ⟨q0,q1,q2,m0,m1,m2,e,l0,l1,l2,l3,l4,l5,hd,hs⟩:=yV (K:=(j:Int)*21267647932558653966460912964485513216) ha hb hl.1 hl.2.1 hl.2.2.1 hl.2.2.2.1 hl.2.2.2.2.1 hl.2.2.2.2.2 ht (by omega);refine ⟨(q0,q1,q2,m0,m1,m2),e,⟨l0,l1,l2,l3,l4,l5⟩,hd,?_⟩;show v3 q0 q1 q2+v3 m0 m1 m2≤_;omega
theorem AP (s:Int×Int×Int×Int×Int×Int) (hl:xC s):cA s.1 s.2.1 s.2.2.1 s.2.2.2.1 s.2.2.2.2.1 s.2.2.2.2.2=some (xg (K5 s)) :=
 uV hl.1 hl.2.1 hl.2.2.1 hl.2.2.2.1 hl.2.2.2.2.1 hl.2.2.2.2.2
theorem Fk {l:List Int} (h:l.all jA=true) {j:Nat} (hj:j<l.length):jA (l.getD j 0)=true:=by rw [Lz,LA hj];exact LN.1 h _ (List.getElem_mem hj)
theorem Jw:xC (0,0,0,0,0,0):=by unfold xC lm;simp
theorem lM (a b:List Int):eL a b=some (kK a b):=by
 unfold eL kK;by_cases hlen:a.length=b.length
 ·rw [LH hlen,show ((((a.length:Nat):Int)==((b.length:Nat):Int)))=true by simp [hlen]];simp only [cond_true];by_cases h1:a.length≤10000
  ·rw [LH h1,LG (by omega)];simp only [cond_true,cond_false];rw [fO,fO];simp only [cy];cases ha:a.all jA with
   | false=>rfl
   | true =>
    cases hb:b.all jA with
    | false=>rfl
    | true =>
     simp only [cond_true,Bool.and_true];obtain ⟨s',e1,hI⟩:=qk (ρ:=Empty) (body:=fun i93 (s92:Int×Int×Int×Int×Int×Int)=>bM (i93<b.length) <| (cY (a.getD i93 0) (b.getD i93 0) s92.1 s92.2.1 s92.2.2.1 s92.2.2.2.1 s92.2.2.2.2.1 s92.2.2.2.2.2).bind fun y122=>some (.go (y122.1,y122.2.1,y122.2.2.1,y122.2.2.2.1,y122.2.2.2.2.1,y122.2.2.2.2.2)))
      (fin:=fun i93 s92=>(s92.1,s92.2.1,s92.2.2.1,s92.2.2.2.1,s92.2.2.2.2.1,s92.2.2.2.2.2))
      (fun j s=>xC s∧K5 s=gz (r6 a b) j∧Lc s≤(j:Int)*21267647932558653966460912964485513216) (a.length-0) 0 (0,0,0,0,0,0) ⟨Jw,rfl,by decide⟩ (fun j s _ hj ⟨i1,i2,i3⟩=>by obtain ⟨s',e,l,d,t⟩:=EW (Fk ha (j:=j) (by omega)) (Fk hb (j:=j) (by omega)) s i1 j (by omega) i3;refine ⟨s',?_,l,by rw [d,i2];rfl,t⟩;rw [aG (by omega),e];rfl)
     rw [e1];show (cA s'.1 s'.2.1 s'.2.2.1 s'.2.2.2.1 s'.2.2.2.2.1 s'.2.2.2.2.2).bind _=_;rw [AP s' hI.1,hI.2.1,Nat.zero_add,Nat.sub_zero];rfl
  ·rw [LG h1,LH (by omega)];rfl
 ·rw [LG hlen,show ((((a.length:Nat):Int)==((b.length:Nat):Int)))=false by rw [beq_eq_false_iff_ne];omega];rfl
def mF (x:au):List aq→Int
 | []=>0
 | t::ts=>if t.Var=x then t.C else mF x ts
def cf (l:Linear) (x:au):Int:=mF x l.Terms
def xp (ts:List aq):Prop:=(ts.map aq.Var).Nodup
def upd (f:au→Int) (x:au) (a:Int):au→Int:=fun v=>if v=x then a else f v
theorem Bb (f:au→Int) (x:au) (a:Int):upd f x a x=a:=if_pos rfl
theorem bA {f:au→Int} {x v:au} {a:Int} (h:v≠x):upd f x a v=f v:=if_neg h
theorem jw {x:au}:∀ {ts:List aq},x ∉ ts.map aq.Var→mF x ts=0
 | [],_=>rfl
 | t::ts,h=>by simp only [List.map_cons,List.mem_cons,not_or] at h;rw [mF,if_neg (fun e=>h.1 e.symm),jw h.2]
theorem qC {x:au}:∀ {ts:List aq},mF x ts≠0→∃ t∈ts,t.Var=x∧t.C=mF x ts
 | [],h=>absurd rfl h
 | t::ts,h=>by
  by_cases e:t.Var=x
  ·exact ⟨t,by simp,e,by rw [mF,if_pos e]⟩
  ·rw [mF,if_neg e] at h;obtain ⟨u,hu,h1,h2⟩:=qC h;exact ⟨u,by simp [hu],h1,by rw [mF,if_neg e];exact h2⟩
theorem kq {t:aq}:∀ {ts:List aq},xp ts→t∈ts→mF t.Var ts=t.C
 | u::ts,hn,h=>by
  unfold xp at hn;rw [List.map_cons,List.nodup_cons] at hn;rcases List.mem_cons.1 h with rfl | h
  ·rw [mF,if_pos rfl]
  ·have:¬ u.Var=t.Var:=fun e=>hn.1 (by rw [e];exact List.mem_map.2 ⟨t,h,rfl⟩);rw [mF,if_neg this];exact kq hn.2 h
theorem vL (f:au→Int) (x:au) (a:Int):∀ {ts:List aq},xp ts→cD (upd f x a) ts=cD f ts+mF x ts*(a-f x)
 | [],_=>by simp [cD,mF]
 | t::ts,hn=>by
  unfold xp at hn;rw [List.map_cons,List.nodup_cons] at hn;have ih:=vL f x a (ts:=ts) hn.2;simp only [cD,mF];by_cases e:t.Var=x
  ·have h0:mF x ts=0:=jw (by rw [← e];exact hn.1);rw [if_pos e,e,Bb,ih,h0,Int.zero_mul,Int.mul_sub];omega
  ·rw [if_neg e,bA e,ih];omega
theorem dp {l:Linear} (h:ax l=true):xp l.Terms:=Ai h
theorem Cc (v x:au):ind v x=if x=v then 1 else 0:=rfl
theorem uS (v:au):∀ {ts:List aq},xp ts→cD (ind v) ts=mF v ts:=fun {ts} hn=>by
 have h:=vL (fun _=>0) v 1 hn;rw [J1] at h;have e:upd (fun _=>0) v 1=ind v:=by funext x;simp only [upd,ind]
 rw [e] at h;omega
theorem kH (f:au→Int) (x:au) (a:Int) {l:Linear} (h:xp l.Terms):dx (upd f x a) l=dx f l+cf l x*(a-f x):=by unfold dx cf;rw [vL f x a h];omega
theorem gY (l:Linear):dx (fun _=>0) l=l.Const:=by unfold dx;rw [J1];omega
theorem rG (v:au) {l:Linear} (h:xp l.Terms):dx (ind v) l=l.Const+cf l v:=by unfold dx cf;rw [uS v h]
theorem Ic {a b:Linear} (ha:ax a=true) (hb:ax b=true) (h:∀ f,dx f a=dx f b):a=b:=by
 obtain ⟨n,ts⟩:=a;obtain ⟨m,us⟩:=b;have e:n=m:=by have:=h (fun _=>0);rw [gY,gY] at this;exact this
 have e2:ts=us:=vq _ _ (qt ha) (de ha) (qt hb) (de hb) fun f=>by have:=h f;unfold dx at this;simp only at this;omega
 rw [e,e2]
theorem wO:ax (Linear.mk 0 [])=true:=by decide
def one (x:au) (l:Linear):Bind:=Bind.mk 1 x l (Shape.mk [] []) []
theorem JY (x:au) (l:Linear) (f:au→Int):sv [one x l] f=upd f x (dx f l):=by
 funext v;unfold sv upd;by_cases e:v=x
 ·subst e;simp [idxOf,pH,one]
 ·have e2:(x==v)=false:=by simpa using Ne.symm e
  simp [idxOf,pH,one,e,e2]
theorem yw {x:au} {l q:Linear} (h:(Ch [one x l] q).2=0) (f:au→Int):ax q=true∧ax (Ch [one x l] q).1=true∧dx f (Ch [one x l] q).1=dx f q+cf q x*(dx f l-f x):=by obtain ⟨h1,h2,h3⟩:=Jz h f;refine ⟨h1,h2,?_⟩;rw [h3,JY,kH f x _ (dp h1)]
theorem JL {x:au} {l q:Linear} (h:(Ch [one x l] q).2=0) (hl:ax l=true) (v:au):cf (Ch [one x l] q).1 v=cf q v+cf q x*(cf l v-ind v x):=by
 obtain ⟨h1,h2,h3⟩:=yw h (ind v);obtain ⟨_,_,h4⟩:=yw h (fun _=>0);rw [rG v (dp h2),rG v (dp h1),rG v (dp hl)] at h3;rw [gY,gY,gY] at h4;have e:cf q x*(l.Const+cf l v-ind v x)=cf q x*(l.Const-0)+cf q x*(cf l v-ind v x):=by rw [← Int.mul_add];congr 1;omega
 rw [e] at h3;omega
theorem Dj (x:au):∀ (ts:List aq),fh (σ:=Unit) (ε:=Unit) (ρ:=Int) (fun t s=>bif t.Var==x then .ret t.C else .go ()) (fun _=>()) ts ()=if x∈ts.map aq.Var then .ret (mF x ts) else .brk ()
 | []=>rfl
 | t::ts=>by
  simp only [fh,List.map_cons,List.mem_cons];by_cases e:t.Var=x
  ·simp [e,mF]
  ·have e2:(t.Var==x)=false:=by simpa using e
   rw [e2,cond_false];simp only;rw [Dj x ts];have e3:¬ x=t.Var:=fun h=>e h.symm;simp [e3,mF,e]
theorem je (l:Linear) (x:au):cS l x=some (cf l x):=by
 unfold cS;rw [fB ⟨[],0⟩ l.Terms (fun t s=>bif t.Var==x then .ret t.C else .go ()) (fun _ _=>True) (f:=fun _=>()) (fun _ _=>rfl) () trivial (fun j s hj _=>⟨by cases (l.Terms.getD j ⟨[],0⟩).Var==x<;>rfl,fun _ _=>trivial⟩),Dj];simp only [Option.bind_some];by_cases h:x∈l.Terms.map aq.Var
 ·rw [if_pos h];rfl
 ·rw [if_neg h];show some 0=_;unfold cf;rw [jw h]
def gB (s:Int×Int):Option (gC (Int×Int) Int Empty):=bif (s.2==0) then some (.brk s.1) else bM ((s.2:Int)≠0) <| some (.go (s.2,(s.1.tmod s.2)))
theorem yX (m:Int) (N:Nat):kz gB (N+1) (m,0)=some (.brk m):=rfl
theorem Dh (m n:Nat) (h:n≠0) (N:Nat):kz gB (N+1) ((m:Int),(n:Int))=kz gB N ((n:Int),((m % n:Nat):Int)):=by
 have h1:((n:Int)==0)=false:=by simp;omega
 have h2:(n:Int)≠0:=by omega
 simp only [kz,gB,h1,cond_false];rw [aG h2,← Int.ofNat_tmod];rfl
theorem Cu:∀ (k m n N:Nat),n<2 ^ k→2*k+1≤N→kz gB N ((m:Int),(n:Int))=some (.brk ((Nat.gcd m n:Nat):Int))
 | 0,m,n,N,h1,h2=>by
  obtain ⟨N,rfl⟩:∃ j,N=j+1:=⟨N-1,by omega⟩;have:n=0:=by simpa using h1
  subst this;rw [Nat.gcd_zero_right];exact yX _ _
 | k+1,m,n,N,h1,h2=>by
  obtain ⟨N,rfl⟩:∃ j,N=j+2:=⟨N-2,by omega⟩;by_cases hn:n=0
  ·subst hn;rw [Nat.gcd_zero_right];exact yX _ _
  ·rw [Dh m n hn];by_cases hr:m % n=0
   ·rw [hr,show ((0:Nat):Int)=0 from rfl,yX,Nat.gcd_comm,Nat.gcd_rec n m,hr,Nat.gcd_zero_left]
   ·rw [Dh n (m % n) hr];have hlt:m % n<n:=Nat.mod_lt _ (Nat.pos_of_ne_zero hn);have hd:=Nat.div_add_mod n (m % n);have hlt2:n % (m % n)<m % n:=Nat.mod_lt _ (Nat.pos_of_ne_zero hr);have hq:1≤n / (m % n):=(Nat.le_div_iff_mul_le (Nat.pos_of_ne_zero hr)).2 (by omega);have hm:m % n≤(m % n)*(n / (m % n)):=Nat.le_mul_of_pos_right _ hq;rw [Nat.pow_succ] at h1;rw [Cu k (m % n) (n % (m % n)) N (by omega) (by omega)];rw [Nat.gcd_comm m n,Nat.gcd_rec n m,Nat.gcd_comm (m % n) n,Nat.gcd_comm n (m % n),Nat.gcd_comm (m % n) (n % (m % n)),← Nat.gcd_rec (m % n) n]
theorem uZ {a b:Int} (ha:jA a=true) (hb:jA b=true):j8 a b=some ((Nat.gcd a.natAbs b.natAbs:Nat):Int):=by unfold j8;rw [(jU ha).1,(jU hb).1];simp only [Option.bind_some];have h:=Cu 63 a.natAbs b.natAbs 4294967296 (by have:=(jU hb).2;omega) (by omega);refine (congrArg (fun o:Option (Out Int Empty)=>Option.bind o _) h).trans ?_;rfl
def jM (a b:Int):Int×Int:=bif jA a&&jA b then (bif a==0||b==0 then (0,0) else mulR ((a.natAbs / Nat.gcd a.natAbs b.natAbs:Nat):Int) (b.natAbs:Int)) else (0,2)
theorem wL (a b:Int):j5 a b=some (jM a b):=by
 unfold j5 jM;rw [fO];simp only [Option.bind_some,List.all_cons,List.all_nil,Bool.and_true];cases hab:jA a&&jA b with
 | false=>rfl
 | true =>
  simp only [LB] at hab;simp only [cond_true];cases h1:a==0 with
  | true=>rfl
  | false =>
   cases h2:b==0 with
   | true=>rfl
   | false =>
    simp only [Bool.or_false,cond_false];rw [(jU hab.1).1,uZ hab.1 hab.2,(jU hab.2).1];simp only [Option.bind_some];have ha0:a≠0:=by simpa using h1
    have hg:Nat.gcd a.natAbs b.natAbs≠0:=Nat.gcd_ne_zero_left (by omega);have hw:∀ z:Nat,z≤a.natAbs→aL (z:Int)=z:=fun z hz=>bn (by omega) (by have:=(jU hab.1).2;omega);rw [aG (by omega),← Int.ofNat_tdiv,hw _ (Nat.div_le_self _ _),ll];rfl
def tE (ts:List aq) (a:Nat):Nat:=ts.foldl (fun a t=>Nat.gcd a t.C.natAbs) a
def cont (l:Linear):Nat:=tE l.Terms 0
theorem Br {c:Int} (h : -1000000≤c∧c≤1000000):(if (aL (0-c))>c then (aL (0-c)) else c)=((c.natAbs:Nat):Int):=by rw [bn (by omega) (by omega)];split<;>omega
theorem CI:∀ (ts:List aq) (a:Nat),(∀ t∈ts,t.C≠0)→a≤1000000→(∀ t∈ts,-1000000≤t.C∧t.C≤1000000)→tE ts a≤1000000
 | [],a,_,h,_=>h
 | t::ts,a,h0,h,hc=>by
  unfold tE;rw [List.foldl_cons];have:=hc t (by simp);have h1:t.C.natAbs≠0:=by have:=h0 t (by simp);omega
  have h2:Nat.gcd a t.C.natAbs≤t.C.natAbs:=Nat.gcd_le_right _ (Nat.pos_of_ne_zero h1);exact CI ts _ (fun x hx=>h0 x (by simp [hx])) (by omega) (fun x hx=>hc x (by simp [hx]))
theorem si {l:Linear} (h:ax l=true):gA l=some ((cont l:Nat):Int):=by
 have hk:=jK h;unfold gA;rw [eI l hk.1 hk.2,h];simp only [Option.bind_some,cond_true];have hC:=cz h;have hz:=de h;have hl:=fB (ε:=Int) (ρ:=Empty) (f:=fun s=>s) (fin:=fun i0 s0=>s0) (⟨[],0⟩:aq) l.Terms (fun t s=>gC.go ((Nat.gcd s.natAbs t.C.natAbs:Nat):Int)) (fun j s=>∃ n:Nat,s=(n:Int)∧n≤1000000)
  (body:=fun i0 s0=>(kz (σ:=(Int×Int)) (ε:=Int) (ρ:=Empty) (fun s1 =>
   bif (s1.2==0) then (
    some (.brk s1.1)
   ) else (
    bM ((s1.2:Int)≠0) <|
    some (.go (s1.2,(s1.1.tmod s1.2)))
   )
   ) 4294967296 (s0,(if (aL (0-((l.Terms.getD i0 ⟨[],0⟩).C)))>((l.Terms.getD i0 ⟨[],0⟩).C) then (aL (0-((l.Terms.getD i0 ⟨[],0⟩).C))) else ((l.Terms.getD i0 ⟨[],0⟩).C)))).bind <| dI fun u0 =>
   some (.go u0)) (fun _ _=>rfl) 0 ⟨0,rfl,by omega⟩ (fun j s hj hI=>by
   obtain ⟨n,rfl,hn⟩:=hI;have hm:l.Terms.getD j ⟨[],0⟩∈l.Terms:=bb _ hj;have hc:=(hC _ hm).1;have h0:=hz _ hm;refine ⟨?_,fun s' hs' => ?_⟩
   ·rw [Br hc];have:=Cu 20 n (l.Terms.getD j ⟨[],0⟩).C.natAbs 4294967296 (by omega) (by omega);refine (congrArg (fun o:Option (Out Int Empty)=>Option.bind o _) this).trans ?_;rfl
   ·injection hs' with hs'
    have h1:(l.Terms.getD j ⟨[],0⟩).C.natAbs≠0:=by omega
    have h2:Nat.gcd n (l.Terms.getD j ⟨[],0⟩).C.natAbs≤(l.Terms.getD j ⟨[],0⟩).C.natAbs:=Nat.gcd_le_right _ (Nat.pos_of_ne_zero h1);exact ⟨_,hs'.symm,by simp only [Int.natAbs_natCast];omega⟩)
 refine (congrArg (fun o:Option (Out Int Empty)=>Option.bind o _) hl).trans ?_;have hf:∀ (ts:List aq) (n:Nat),fh (σ:=Int) (ε:=Int) (ρ:=Empty) (fun t s=>gC.go ((Nat.gcd s.natAbs t.C.natAbs:Nat):Int)) (fun s=>s) ts (n:Int) = .brk ((tE ts n:Nat):Int):=by
  intro ts;induction ts with
  | nil=>intro n;rfl
  | cons t ts ih=>intro n;simp only [fh];rw [Int.natAbs_natCast,ih];rfl
 have:=hf l.Terms 0;rw [show ((0:Nat):Int)=0 from rfl] at this;rw [this];rfl
theorem s7:∀ (ts:List aq) (a:Nat),tE ts a ∣ a∧∀ t∈ts,tE ts a ∣ t.C.natAbs
 | [],a=>⟨Nat.dvd_refl _,fun t h=>by simp at h⟩
 | t::ts,a=>by
  obtain ⟨h1,h2⟩:=s7 ts (Nat.gcd a t.C.natAbs);refine ⟨Nat.dvd_trans h1 (Nat.gcd_dvd_left _ _),fun u hu => ?_⟩;rcases List.mem_cons.1 hu with rfl | hu
  ·exact Nat.dvd_trans h1 (Nat.gcd_dvd_right _ _)
  ·exact h2 u hu
theorem xK {d:Nat}:∀ (ts:List aq) (a:Nat),d ∣ a→(∀ t∈ts,d ∣ t.C.natAbs)→d ∣ tE ts a
 | [],a,h,_=>h
 | t::ts,a,h,ht=>xK ts _ (Nat.dvd_gcd h (ht t (by simp))) (fun u hu=>ht u (by simp [hu]))
theorem kQ {l:Linear} (h:ax l=true):cont l=0↔l.Terms=[]:=by
 constructor
 ·intro h0;cases hT:l.Terms with
  | nil=>rfl
  | cons t ts =>
   have h1:=(s7 l.Terms 0).2 t (by rw [hT];simp);have h2:tE l.Terms 0=0:=h0;rw [h2] at h1;have:=de h t (by rw [hT];simp);have:=Nat.eq_zero_of_zero_dvd h1;omega
 ·intro h0;unfold cont;rw [h0];rfl
def gE (n d:Int):Int:=bif (n.tmod d==0)||(decide (n.tmod d<0)==decide (d<0)) then n.tdiv d else n.tdiv d-1
theorem FM {n d:Int} (hd:d≠0):(n-d*gE n d).natAbs<d.natAbs∧(n-d*gE n d=0↔n.tmod d=0):=by
 have h1:=Int.mul_tdiv_add_tmod n d;have h2:(n.tmod d).natAbs<d.natAbs:=by rw [Int.natAbs_tmod];exact Nat.mod_lt _ (by omega)
 unfold gE;cases h3:n.tmod d==0 with
 | true =>
  have:n.tmod d=0:=by simpa using h3
  simp only [Bool.true_or,cond_true];omega
 | false =>
  have h3:n.tmod d≠0:=by simpa using h3
  cases h4:(decide (n.tmod d<0)==decide (d<0)) with
  | true=>simp only [Bool.false_or,cond_true];omega
  | false =>
   simp only [Bool.false_or,cond_false];rw [Int.mul_sub,Int.mul_one];have h5:(n.tmod d<0∧0<d)∨(0<n.tmod d∧d<0):=by
    by_cases e1:n.tmod d<0<;>by_cases e2:d<0
    ·rw [LH e1,LH e2] at h4;cases h4
    ·exact .inl ⟨e1,by omega⟩
    ·exact .inr ⟨by omega,e2⟩
    ·rw [LG e1,LG e2] at h4;cases h4
   omega
theorem Hu {n d:Int} (hd:d≠0) (hn : -1000000≤n∧n≤1000000) : -1000001≤gE n d∧gE n d≤1000001:=by have h:=Int.natAbs_tdiv_le_natAbs n d;unfold gE;cases (n.tmod d==0)||(decide (n.tmod d<0)==decide (d<0))<;>simp only [cond_true,cond_false]<;>omega
theorem vf {n d:Int} (hd:d≠0) (hn : -1000000≤n∧n≤1000000) (hdb : -1000000≤d∧d≤1000000):ke n d=some (gE n d,0):=by
 unfold ke fY;rw [fO];have hi:jA n=true:=kI.2 (by omega);have hi2:jA d=true:=kI.2 (by omega);have hz:(d==0)=false:=by simpa using hd
 simp only [Option.bind_some,List.all_cons,List.all_nil,Bool.and_true,hi,hi2,cond_true,hz,cond_false];unfold jt gE;have h:=Int.natAbs_tdiv_le_natAbs n d;have h2:(n.tmod d).natAbs<d.natAbs:=by rw [Int.natAbs_tmod];exact Nat.mod_lt _ (by omega)
 rw [aG hd,bn (n:=n.tdiv d) (by omega) (by omega),bn (n:=n.tdiv d-1) (by omega) (by omega)];cases n.tmod d==0 with
 | true=>rfl
 | false=>cases (decide (n.tmod d<0)==decide (d<0))<;>rfl
theorem wE {K' V σ ε β:Type} {m:List (K'×V)} {body:K'×V→σ→Option (gC σ ε β)} {K:σ→Prop} {J:β→Prop} (I:List Nat→σ→Prop)
 (hstep:∀ seen s i (h:i<m.length),seen.Nodup→i ∉ seen→(∀ j∈seen,j<m.length)→I seen s→∃ s',body m[i] s=some (.go s')∧I (seen++[i]) s')
 (hend:∀ seen s,seen.Nodup→(∀ i,i<m.length→i∈seen)→(∀ i∈seen,i<m.length)→I seen s→K s) :
 ∀ (n:Nat) (seen:List Nat) (s:σ),seen.Nodup→(∀ i∈seen,i<m.length)→n+seen.length=m.length→I seen s→MR m body K J n seen s
 | 0,seen,s,h1,h2,h3,hI=>by
  have hall:∀ i,i<m.length→i∈seen:=by
   intro i hi;refine Classical.byContradiction fun hn => ?_;have:=lQ (i::seen) (List.range m.length) (List.nodup_cons.2 ⟨hn,h1⟩) (fun x hx=>by
    rcases List.mem_cons.1 hx with rfl | hx
    ·simpa using hi
    ·simpa using h2 x hx)
   simp at this;omega
  exact ⟨hall,hend seen s h1 hall h2 hI⟩
 | n+1,seen,s,h1,h2,h3,hI=>by
  refine ⟨?_,fun i hi hn => ?_⟩
  ·refine Classical.byContradiction fun hn => ?_;have:=lQ (List.range m.length) seen List.nodup_range (fun x hx=>Classical.byContradiction fun hx2=>hn ⟨x,by simpa using hx,hx2⟩);simp at this;omega
  ·obtain ⟨s',e1,e2⟩:=hstep seen s i hi h1 hn h2 hI;refine ⟨_,e1,?_⟩;have hnd:(seen++[i]).Nodup:=by
    rw [List.nodup_append];exact ⟨h1,by simp,fun a ha b hb=>by
     have:b=i:=by simpa using hb
     subst this;intro e;subst e;exact hn ha⟩
   exact wE I hstep hend n (seen++[i]) s' hnd (fun j hj=>by
    rcases List.mem_append.1 hj with h | h
    ·exact h2 j h
    ·have:j=i:=by simpa using h
     rw [this];exact hi) (by simp;omega) e2
theorem tB {α:Type} (d:α) {m:List α} {seen:List Nat} (h1:seen.Nodup) (h2:∀ i,i<m.length→i∈seen) (h3:∀ i∈seen,i<m.length):(seen.map fun i=>m.getD i d).Perm m:=by have hp:seen.Perm (List.range m.length):=(List.perm_ext_iff_of_nodup h1 List.nodup_range).2 fun a=>⟨fun h=>by simpa using h3 a h,fun h=>h2 a (by simpa using h)⟩;refine (hp.map _).trans (List.Perm.of_eq ?_);refine List.ext_getElem (by simp) fun i hi h2 => ?_;simp only [List.getElem_map,List.getElem_range];rw [Lz,LA h2];rfl
def nG (v:au):Int:=match v with | []=>0 | x::r=>bif x==95 then (oO r).1 else 0
theorem iD (v:au) (h:v.length≤1000000):dF v=some (nG v):=by
 unfold dF nG;rw [lO];cases v with
 | nil=>rfl
 | cons x r =>
  simp only [Option.bind_some];cases x==95 with
  | false=>rfl
  | true =>
   simp only [cond_true];rw [aG (by simp)];unfold lg;rw [aG (by simp at h ⊢;omega)];rfl
theorem Am {v:au} (h:fg v=true):0≤nG v∧nG v<10000000000:=by
 unfold nG;cases v with
 | nil=>simp
 | cons c r =>
  simp only [fg] at h ⊢;cases hc:c==95 with
  | false=>simp
  | true =>
   rw [hc] at h;simp only [cond_true,LB,decide_eq_true_eq,Bool.not_eq_true'] at h ⊢;have hne:r≠[]:=by intro e;rw [e] at h;simp at h
   obtain ⟨a,b⟩:=uO hne h.2.2.2 h.2.1;unfold oO;rw [a];simp only;omega
def cO (n:Nat):au:=95::dec n
theorem kV {n:Nat} (h1:1≤n) (h2:n<1000000000):fg (cO n)=true∧nG (cO n)=n:=by
 have hd:=ss n;have hl:=ri 8 n (by omega);have hne:dec n≠[]:=JH n;constructor
 ·show (decide (1≤(dec n).length)&&(decide ((dec n).length≤9)&&(!((dec n).getD 0 0==48)&&(dec n).all cm)))=true;simp only [LB,decide_eq_true_eq,Bool.not_eq_true'];refine ⟨List.length_pos_iff.2 hne,hl,?_,hd.1⟩;have hh:=hd.2.1 h1;cases hx:dec n with
  | nil=>exact absurd hx hne
  | cons y z =>
   have:Lib.decDigits n=y::z:=hx;rw [this] at hh;simp at hh ⊢;exact hh
 ·show (oO (dec n)).1=_;unfold oO;rw [(uO hne hd.1 hl).1,Hl]
def mP (l:List Linear):List (au×Bool):=l.foldl (fun m q=>(q.Terms.map aq.Var).foldl (fun m v=>bI v true m) m) []
theorem Dq {V:Type} (x:au) (v:V):∀ m:List (au×V),(bI x v m).map (·.1)=if x∈m.map (·.1) then m.map (·.1) else m.map (·.1)++[x]
 | []=>by simp [bI]
 | (k,u)::m=>by
  have ih:=Dq x v m;by_cases h:k=x
  ·simp [bI,h]
  ·simp only [bI,if_neg h,List.map_cons,List.mem_cons,ih,Ne.symm h,false_or];split<;>simp [*]
theorem EH {V:Type} {x y:au} {v:V} {m:List (au×V)}:y∈(bI x v m).map (·.1)↔y=x∨y∈m.map (·.1):=by
 rw [Dq];by_cases h:x∈m.map (·.1)
 ·rw [if_pos h];exact ⟨.inr,fun h2=>by rcases h2 with rfl | h2;exact h;exact h2⟩
 ·rw [if_neg h,List.mem_append,List.mem_singleton];exact or_comm
theorem Gw {V:Type} {x:au} {v:V} {m:List (au×V)} (h:(m.map (·.1)).Nodup):((bI x v m).map (·.1)).Nodup:=by
 rw [Dq];by_cases hx:x∈m.map (·.1)
 ·rw [if_pos hx];exact h
 ·rw [if_neg hx,List.nodup_append];exact ⟨h,by simp,fun a ha b hb=>by
   have:b=x:=by simpa using hb
   rw [this];rintro rfl;exact hx ha⟩
theorem EZ {V:Type} (x:au) (v:V) (m:List (au×V)):(bI x v m).length≤m.length+1:=by have:=congrArg List.length (Dq x v m);rw [LI] at this;rw [this];split<;>simp
theorem uX:∀ (vs:List au) (m:List (au×Bool)),(m.map (·.1)).Nodup→((vs.foldl (fun m v=>bI v true m) m).map (·.1)).Nodup∧(vs.foldl (fun m v=>bI v true m) m).length≤m.length+vs.length ∧
 ∀ y,y∈(vs.foldl (fun m v=>bI v true m) m).map (·.1)↔y∈m.map (·.1)∨y∈vs
 | [],m,h=>⟨h,by simp,fun y=>by simp⟩
 | v::vs,m,h=>by
  obtain ⟨a,b,c⟩:=uX vs (bI v true m) (Gw h);refine ⟨a,?_,fun y => ?_⟩
  ·have:=EZ v true m;simp only [List.foldl_cons,List.length_cons];omega
  ·simp only [List.foldl_cons];rw [c y,EH,List.mem_cons];constructor
   ·rintro ((h | h) | h)
    ·exact .inr (.inl h)
    ·exact .inl h
    ·exact .inr (.inr h)
   ·rintro (h | h | h)
    ·exact .inl (.inr h)
    ·exact .inl (.inl h)
    ·exact .inr h
theorem ry:∀ (l:List Linear) (m:List (au×Bool)),(∀ q∈l,q.Terms.length≤12)→(m.map (·.1)).Nodup→((l.foldl (fun m q=>(q.Terms.map aq.Var).foldl (fun m v=>bI v true m) m) m).map (·.1)).Nodup∧(l.foldl (fun m q=>(q.Terms.map aq.Var).foldl (fun m v=>bI v true m) m) m).length≤m.length+12*l.length ∧
 ∀ y,y∈(l.foldl (fun m q=>(q.Terms.map aq.Var).foldl (fun m v=>bI v true m) m) m).map (·.1)↔y∈m.map (·.1)∨∃ q∈l,∃ t∈q.Terms,t.Var=y
 | [],m,_,h=>⟨h,by simp,fun y=>by simp⟩
 | q::l,m,hl,h=>by
  obtain ⟨a1,b1,c1⟩:=uX (q.Terms.map aq.Var) m h;obtain ⟨a,b,c⟩:=ry l _ (fun x hx=>hl x (by simp [hx])) a1;have:=hl q (by simp);rw [LI] at b1;refine ⟨a,?_,fun y => ?_⟩
  ·simp only [List.foldl_cons,List.length_cons];omega
  ·simp only [List.foldl_cons];rw [c y,c1 y];constructor
   ·rintro ((h | h) | ⟨q',hq,h⟩)
    ·exact .inl h
    ·obtain ⟨t,ht,e⟩:=List.mem_map.1 h;exact .inr ⟨q,by simp,t,ht,e⟩
    ·exact .inr ⟨q',by simp [hq],h⟩
   ·rintro (h | ⟨q',hq,t,ht,e⟩)
    ·exact .inl (.inl h)
    ·rcases List.mem_cons.1 hq with rfl | hq
     ·exact .inl (.inr (List.mem_map.2 ⟨t,ht,e⟩))
     ·exact .inr ⟨q',hq,t,ht,e⟩
def dA (l:List Linear):List au:=Go.Ab.sortS ((mP l).map (·.1))
theorem Hf {x y:au} (h:wS x y=true) (hn:x≠y):Op.bytesLess x y=true:=by
 rcases sZ x y with h2 | h2 | h2
 ·exact h2
 ·exact absurd h2 hn
 ·exact absurd (AW x y h (KM h2)) hn
theorem oa {l:List Linear} (hl:∀ q∈l,q.Terms.length≤12):(dA l).Pairwise (fun a b=>Op.bytesLess a b=true)∧(∀ y,y∈dA l↔∃ q∈l,∃ t∈q.Terms,t.Var=y)∧(dA l).length≤12*l.length:=by
 obtain ⟨a,b,c⟩:=ry l [] hl (by simp);have hp:=sH ((mP l).map (·.1));refine ⟨?_,fun y => ?_,?_⟩
 ·have h1:=oV ((mP l).map (·.1));have h2:(Go.Ab.sortS ((mP l).map (·.1))).Nodup:=hp.nodup_iff.2 a;exact (List.Pairwise.and h1 h2).imp fun h=>Hf h.1 h.2
 ·unfold dA;rw [hp.mem_iff];have:=c y;rw [List.map_nil] at this;exact this.trans ⟨fun h=>h.resolve_left (by simp),.inr⟩
 ·unfold dA;rw [hp.length_eq,LI];have:(mP l).length≤[].length+12*l.length:=b;simpa using this
theorem dH {l:List Linear} (hl:∀ q∈l,q.Terms.length≤12) (hn:l.length≤6000):bj l=some (dA l):=by
 unfold bj;have h1:=fB (ε:=List (au×Bool)) (ρ:=Empty) (f:=fun s=>s) (fin:=fun i0 s0=>s0) (⟨0,[]⟩:Linear) l (fun q m=>gC.go ((q.Terms.map aq.Var).foldl (fun m v=>bI v true m) m)) (fun j s=>True)
  (body:=fun i0 s0 =>
  (iQ (Linear.mk ((l.getD i0 ⟨0,[]⟩).Const) ((l.getD i0 ⟨0,[]⟩).Terms))).bind fun y0 =>
  (eH (σ:=(List (au×Bool))) (ε:=(List (au×Bool))) (ρ:=Empty) (fun i1 s1 =>
   some (.go (bI (y0.getD i1 []) true s1))
  ) (fun i1 s1=>s1) (y0.length-0) 0 s0).bind <| dI fun u0 =>
  some (.go u0)) (fun _ _=>rfl) [] trivial (fun j s hj _=>⟨by
   have hm:l.getD j ⟨0,[]⟩∈l:=bb _ hj;rw [wh _ (by have:=hl _ hm;show (l.getD j ⟨0,[]⟩).Terms.length≤1000000;omega)];simp only [Option.bind_some];rw [fB (ε:=List (au×Bool)) (ρ:=Empty) (f:=fun s=>s) (fin:=fun i0 s0=>s0) ([]:au) ((l.getD j ⟨0,[]⟩).Terms.map aq.Var) (fun v m=>gC.go (bI v true m)) (fun j s=>True) (fun _ _=>rfl) s trivial (fun j s hj _=>⟨rfl,fun _ _=>trivial⟩)];rw [uC (fun v m=>bI v true m)];rfl,fun _ _=>trivial⟩)
 refine (congrArg (fun o:Option (Out (List (au×Bool)) Empty)=>Option.bind o _) h1).trans ?_;rw [uC (fun (q:Linear) m=>(q.Terms.map aq.Var).foldl (fun m v=>bI v true m) m)];simp only [Option.bind_some,dI];obtain ⟨a,b,c⟩:=ry l [] hl (by simp);have hlen:(mP l).length≤72000:=by have:(mP l).length≤[].length+12*l.length:=b;simp at this;omega
 refine pF (wE (fun seen s=>s=seen.map fun i=>((mP l).getD i ([],false)).1) (fun seen s i hi hnd hni hlt hI => ?_) (fun seen s hnd hall hlt hI => ?_) _ [] [] (by simp) (by simp) (by simp) rfl)
 ·have hsl:seen.length≤(mP l).length:=by have:=lQ seen (List.range (mP l).length) hnd (fun x hx=>List.mem_range.2 (hlt x hx));simpa using this
  refine ⟨_,aG (by rw [hI,LI];omega),?_⟩;rw [List.map_append,hI];simp only [List.map_cons,List.map_nil];congr 2;rw [Lz,show (mP l)[i]? = some (mP l)[i] from LA hi];rfl
 ·have hp:s.Perm ((mP l).map (·.1)):=by
   rw [hI];have:=(tB ([],false) hnd hall hlt).map (·.1)
   rwa [List.map_map] at this
  unfold jZ;have:=hp.length_eq;rw [LI] at this;rw [aG (by omega)];simp only [Option.bind_some];exact congrArg some (vl hp)
def DZ (l:List Linear):Int:=(dA l).foldl (fun n v=>if nG v>n then nG v else n) 0
theorem CR:∀ (vs:List au) (n:Int),n≤vs.foldl (fun n v=>if nG v>n then nG v else n) n∧(∀ v∈vs,nG v≤vs.foldl (fun n v=>if nG v>n then nG v else n) n)
 | [],n=>⟨Int.le_refl _,fun v h=>by simp at h⟩
 | v::vs,n=>by
  obtain ⟨a,b⟩:=CR vs (if nG v>n then nG v else n);simp only [List.foldl_cons];refine ⟨?_,fun u hu => ?_⟩
  ·split at a<;>rename_i h<;>simp only [h,if_true,if_false]<;>omega
  ·rcases List.mem_cons.1 hu with rfl | hu
   ·split at a<;>rename_i h<;>simp only [h,if_true,if_false]<;>omega
   ·exact b u hu
theorem dt {l:List Linear} (hl:∀ q∈l,ax q=true) (hn:l.length≤6000):ca l=some (DZ l):=by
 have hl12:∀ q∈l,q.Terms.length≤12:=fun q hq=>bX (hl q hq);unfold ca;rw [dH hl12 hn];simp only [Option.bind_some];obtain ⟨_,hv,_⟩:=oa hl12;rw [fB (ε:=Int) (ρ:=Empty) (f:=fun s=>s) (fin:=fun i0 s0=>s0) ([]:au) (dA l) (fun v n=>gC.go (if nG v>n then nG v else n)) (fun j s=>True) (fun _ _=>rfl) 0 trivial (fun j s hj _=>⟨by
  have hm:(dA l).getD j []∈dA l:=bb _ hj;obtain ⟨q,hq,t,ht,e⟩:=(hv _).1 hm;have:=ia ((cz (hl q hq)) t ht).2;rw [iD _ (by rw [← e];omega)];rfl,fun _ _=>trivial⟩)]
 rw [uC (fun v n=>if nG v>n then nG v else n)];rfl
def xW (a b:aq):Int:=bif (a.C.natAbs:Int)==b.C.natAbs then (bif nG a.Var==nG b.Var then iT b.Var a.Var else nG b.Var-nG a.Var) else (a.C.natAbs:Int)-b.C.natAbs
theorem qE (a b:aq) (ha : -1000000≤a.C∧a.C≤1000000) (hb : -1000000≤b.C∧b.C≤1000000) (na:fg a.Var=true) (nb:fg b.Var=true):dT a b=some (xW a b):=by
 unfold dT xW;rw [Br ha,Br hb];cases ((a.C.natAbs:Int)==b.C.natAbs) with
 | true =>
  simp only [cond_true];rw [iD _ (by have:=ia na;omega),iD _ (by have:=ia nb;omega)];simp only [Option.bind_some];cases nG a.Var==nG b.Var with
  | true=>rfl
  | false =>
   have h1:=Am na;have h2:=Am nb;simp only [cond_false];rw [bn (by omega) (by omega)]
 | false =>
  simp only [cond_false];rw [bn (by omega) (by omega)]
theorem Iz {a b:aq} (h:xW a b<0):a.C.natAbs≤b.C.natAbs:=by
 unfold xW at h;cases e:((a.C.natAbs:Int)==b.C.natAbs) with
 | true=>have:=eq_of_beq e;omega
 | false=>rw [e] at h;simp only [cond_false] at h;omega
theorem HR {a b:aq} (h:¬ xW a b<0):b.C.natAbs≤a.C.natAbs:=by
 unfold xW at h;cases e:((a.C.natAbs:Int)==b.C.natAbs) with
 | true=>have:=eq_of_beq e;omega
 | false=>rw [e] at h;simp only [cond_false] at h;omega
def uf (ts:List aq):aq:=(ts.drop 1).foldl (fun s t=>bif decide (xW t s<0) then t else s) (ts.getD 0 ⟨[],0⟩)
theorem yh:∀ (ts:List aq) (s:aq),(ts.foldl (fun s t=>bif decide (xW t s<0) then t else s) s=s∨ts.foldl (fun s t=>bif decide (xW t s<0) then t else s) s∈ts) ∧
 (ts.foldl (fun s t=>bif decide (xW t s<0) then t else s) s).C.natAbs≤s.C.natAbs∧∀ t∈ts,(ts.foldl (fun s t=>bif decide (xW t s<0) then t else s) s).C.natAbs≤t.C.natAbs
 | [],s=>⟨.inl rfl,Nat.le_refl _,fun t h=>by simp at h⟩
 | u::ts,s=>by
  simp only [List.foldl_cons];by_cases h:xW u s<0
  ·obtain ⟨a,b,c⟩:=yh ts u;rw [LH h,cond_true];refine ⟨.inr ?_,Nat.le_trans b (Iz h),fun t ht => ?_⟩
   ·rcases a with a | a
    ·rw [a];simp
    ·exact List.mem_cons_of_mem _ a
   ·rcases List.mem_cons.1 ht with rfl | ht
    ·exact b
    ·exact c t ht
  ·obtain ⟨a,b,c⟩:=yh ts s;rw [LG h,cond_false];refine ⟨a.imp id (List.mem_cons_of_mem _),b,fun t ht => ?_⟩;rcases List.mem_cons.1 ht with rfl | ht
   ·exact Nat.le_trans b (HR h)
   ·exact c t ht
theorem J7 {ts:List aq} (h:ts≠[]):uf ts∈ts∧∀ t∈ts,(uf ts).C.natAbs≤t.C.natAbs:=by
 cases ts with
 | nil=>exact absurd rfl h
 | cons u ts =>
  obtain ⟨a,b,c⟩:=yh ts u;refine ⟨?_,fun t ht => ?_⟩
  ·show ts.foldl (fun s t=>bif decide (xW t s<0) then t else s) u∈u::ts;rcases a with a | a
   ·rw [a];simp
   ·exact List.mem_cons_of_mem _ a
  ·rcases List.mem_cons.1 ht with rfl | ht
   ·exact b
   ·exact c t ht
theorem rF {q:Linear} (h:ax q=true) (h0:q.Terms≠[]):fC q=some (uf q.Terms):=by
 unfold fC dB;have hlen:0<q.Terms.length:=List.length_pos_iff.2 h0;have hC:=cz h;rw [LG (show ¬ (q.Terms.length:Int)<1 by omega)];simp only [cond_false];rw [aG hlen];have hm0:q.Terms.getD 0 ⟨[],0⟩∈q.Terms:=bb _ hlen;have hc:=vn (ε:=au×Int) (ρ:=Empty) (f:=fun s=>s) (fin:=fun i0 s0=>(s0.1,s0.2)) (⟨[],0⟩:aq) q.Terms (fun t s=>gC.go (bif decide (xW t ⟨s.1,s.2⟩<0) then (t.Var,t.C) else s)) (fun j s=>(-1000000≤s.2∧s.2≤1000000)∧fg s.1=true)
  (body:=fun i0 s0 =>
   (dT (aq.mk ((q.Terms.getD i0 ⟨[],0⟩).Var) ((q.Terms.getD i0 ⟨[],0⟩).C)) (aq.mk s0.1 s0.2)).bind fun y0 =>
   ((
    bif decide (y0<0) then (
     some (((q.Terms.getD i0 ⟨[],0⟩).Var),((q.Terms.getD i0 ⟨[],0⟩).C))
    ) else (
     some (s0.1,s0.2)
    )
   ):Option (au×Int)).bind fun v0 =>
   some (.go (v0.1,v0.2))) (fun _ _=>rfl) 1 (((q.Terms.getD 0 ⟨[],0⟩).Var),((q.Terms.getD 0 ⟨[],0⟩).C)) (hC _ hm0) (fun j s hj1 hj hI=>by
   have hm:q.Terms.getD j ⟨[],0⟩∈q.Terms:=bb _ hj;obtain ⟨c1,c2⟩:=hC _ hm;refine ⟨?_,fun s' hs' => ?_⟩
   ·rw [qE (aq.mk ((q.Terms.getD j ⟨[],0⟩).Var) ((q.Terms.getD j ⟨[],0⟩).C)) (aq.mk s.1 s.2) c1 hI.1 c2 hI.2];simp only [Option.bind_some];cases decide (xW (q.Terms.getD j ⟨[],0⟩) ⟨s.1,s.2⟩<0)<;>rfl
   ·injection hs' with hs'
    subst hs';cases decide (xW (q.Terms.getD j ⟨[],0⟩) ⟨s.1,s.2⟩<0)
    ·exact hI
    ·exact ⟨c1,c2⟩)
 have hf:∀ (ts:List aq) (s:aq),fh (σ:=au×Int) (ε:=au×Int) (ρ:=Empty) (fun t s=>gC.go (bif decide (xW t ⟨s.1,s.2⟩<0) then (t.Var,t.C) else s)) (fun s=>s) ts (s.Var,s.C) =
  .brk ((ts.foldl (fun s t=>bif decide (xW t s<0) then t else s) s).Var,(ts.foldl (fun s t=>bif decide (xW t s<0) then t else s) s).C):=by
  intro ts;induction ts with
  | nil=>intro s;rfl
  | cons t ts ih =>
   intro s;simp only [fh,List.foldl_cons];cases decide (xW t s<0) with
   | true=>exact ih t
   | false=>exact ih s
 rw [hf (q.Terms.drop 1) (q.Terms.getD 0 ⟨[],0⟩)] at hc;refine (congrArg (fun o:Option (Out (au×Int) Empty)=>Option.bind (Option.bind o _) _) hc).trans ?_;rfl
abbrev Ms:=List (Int×Int)
theorem uY {V:Type} (d:V) (x y:Int) (v:V):∀ m:List (Int×V),ba d y (bI x v m)=if y=x then v else ba d y m
 | []=>by
  by_cases h:y=x
  ·simp [bI,ba,h]
  ·simp [bI,ba,h,Ne.symm h]
 | (k,u)::m=>by
  have ih:=uY d x y v m;by_cases h:k=x
  ·subst h;by_cases h2:y=k
   ·simp [bI,ba,h2]
   ·simp [bI,ba,h2,Ne.symm h2]
  ·by_cases h2:k=y
   ·subst h2;simp [bI,ba,h]
   ·simp [bI,ba,h,h2,ih]
theorem sO {x y v:Int}:∀ {m:Ms},y∈(bI x v m).map (·.1)↔y=x∨y∈m.map (·.1)
 | []=>by simp [bI]
 | (k,u)::m=>by
  have ih:=sO (x:=x) (y:=y) (v:=v) (m:=m);by_cases h:k=x
  ·subst h;simp [bI]
  ·simp only [bI,if_neg h,List.map_cons,List.mem_cons,ih];exact or_left_comm
theorem zw {x v:Int}:∀ {m:Ms},(m.map (·.1)).Nodup→((bI x v m).map (·.1)).Nodup
 | [],_=>by simp [bI]
 | (k,u)::m,h=>by
  simp only [List.map_cons,List.nodup_cons] at h;by_cases e:k=x
  ·subst e;simp only [bI,if_true,List.map_cons,List.nodup_cons];exact h
  ·simp only [bI,if_neg e,List.map_cons,List.nodup_cons];refine ⟨fun hm => ?_,zw h.2⟩;rcases sO.1 hm with h2 | h2
   ·exact e h2
   ·exact h.1 h2
structure eO (m:Ms) (D:Int→Prop) (f:Int→Int):Prop where
 nd:(m.map (·.1)).Nodup
 ks:∀ y,y∈m.map (·.1)↔D y
 at_:∀ y,D y→ba 0 y m=f y
theorem eO.nil:eO [] (fun _=>False) (fun _=>0):=⟨by simp,fun y=>by simp,fun y h=>h.elim⟩
theorem eO.put {m:Ms} {D:Int→Prop} {f:Int→Int} (h:eO m D f) (x v:Int):eO (bI x v m) (fun y=>y=x∨D y) (fun y=>if y=x then v else f y):=by
 refine ⟨zw h.nd,fun y=>by rw [sO,h.ks],fun y hy => ?_⟩;rw [uY];by_cases e:y=x
 ·rw [if_pos e,if_pos e]
 ·rw [if_neg e,if_neg e];exact h.at_ y (hy.resolve_left e)
theorem eO.congr {m:Ms} {D D':Int→Prop} {f f':Int→Int} (h:eO m D f) (hD:∀ y,D y↔D' y) (hf:∀ y,D y→f y=f' y):eO m D' f' :=
 ⟨h.nd,fun y=>(h.ks y).trans (hD y),fun y hy=>(h.at_ y ((hD y).2 hy)).trans (hf y ((hD y).2 hy))⟩
theorem di:∀ {m:Ms},(m.map (·.1)).Nodup→∀ {e:Int×Int},e∈m→ba 0 e.1 m=e.2
 | [],_,e,h=>by simp at h
 | (k,u)::m,hn,e,h=>by
  simp only [List.map_cons,List.nodup_cons] at hn;rcases List.mem_cons.1 h with rfl | h
  ·simp [ba]
  ·have:k≠e.1:=fun he=>hn.1 (by rw [he];exact List.mem_map.2 ⟨e,h,rfl⟩);rw [ba,if_neg this];exact di hn.2 h
theorem wJ {m:Ms} (h:(m.map (·.1)).Nodup):m.Nodup:=(List.pairwise_map.1 h).imp fun h e=>h (congrArg _ e)
theorem eO.perm {m m':Ms} {D:Int→Prop} {f:Int→Int} (h:eO m D f) (h':eO m' D f):m.Perm m':=by
 have key:∀ {a b:Ms},eO a D f→eO b D f→∀ e∈a,e∈b:=fun {a b} ha hb e he=>by
  have hk:D e.1:=(ha.ks _).1 (List.mem_map.2 ⟨e,he,rfl⟩);obtain ⟨e',he',e1⟩:=List.mem_map.1 ((hb.ks _).2 hk);have v1:=di ha.nd he;have v2:=di hb.nd he';rw [e1,hb.at_ _ hk] at v2;rw [ha.at_ _ hk] at v1;have:e=e':=by refine Prod.ext e1.symm ?_;rw [← v1,← v2]
  rw [this];exact he'
 exact (List.perm_ext_iff_of_nodup (wJ h.nd) (wJ h'.nd)).2 fun e=>⟨key h h' e,key h' h e⟩
theorem ud {V:Type} (p:Int×V):∀ {l:List (Int×V)},l.Pairwise (fun a b=>a.1≤b.1)→(B6 p l).Pairwise (fun a b=>a.1≤b.1)
 | [],_=>by simp [B6]
 | q::l,h=>by
  have h':=List.pairwise_cons.1 h;unfold B6;split
  ·rename_i hle;refine List.pairwise_cons.2 ⟨fun x hx => ?_,h⟩;rcases List.mem_cons.1 hx with rfl | hx
   ·exact hle
   ·exact Int.le_trans hle (h'.1 x hx)
  ·rename_i hle;refine List.pairwise_cons.2 ⟨fun x hx => ?_,ud p h'.2⟩;rcases List.mem_cons.1 ((th p l).mem_iff.2 hx) with rfl | hx
   ·omega
   ·exact h'.1 x hx
theorem oc {V:Type}:∀ l:List (Int×V),(ksort l).Pairwise (fun a b=>a.1≤b.1)
 | []=>List.Pairwise.nil
 | p::l=>ud p (oc l)
theorem Al {a b:Ms} (h:a.Perm b) (hn:(a.map (·.1)).Nodup):ksort a=ksort b:=by
 refine List.Perm.eq_of_pairwise (le:=fun a b=>a.1≤b.1) (fun x y hx hy h1 h2 => ?_) (oc a) (oc b) ((iz a).symm.trans (h.trans (iz b)));have e:x.1=y.1:=by omega
 have hx':x∈a:=(iz a).mem_iff.2 hx;have hy':y∈a:=h.mem_iff.2 ((iz b).mem_iff.2 hy);refine Prod.ext e ?_;rw [← di hn hx',← di hn hy',e]
theorem eO.ksort_eq {m m':Ms} {D D':Int→Prop} {f f':Int→Int} (h:eO m D f) (h':eO m' D' f') (hD:∀ y,D y↔D' y) (hf:∀ y,D y→f y=f' y):ksort m=ksort m' :=
 Al (h.perm (h'.congr (fun y=>(hD y).symm) fun y hy=>(hf y ((hD y).2 hy)).symm)) h.nd
theorem eO.ksort {m:Ms} {D:Int→Prop} {f:Int→Int} (h:eO m D f):eO (ksort m) D f:=by have hp:=iz m;refine ⟨(hp.map (·.1)).nodup_iff.1 h.nd,fun y=>by rw [← (hp.map (·.1)).mem_iff,h.ks],fun y hy => ?_⟩;obtain ⟨e,he,e1⟩:=List.mem_map.1 ((h.ks y).2 hy);rw [← e1,di ((hp.map (·.1)).nodup_iff.1 h.nd) (hp.mem_iff.1 he),← di h.nd he,e1,h.at_ y hy]
theorem eO.self {m:Ms} (h:(m.map (·.1)).Nodup):eO m (fun y=>y∈m.map (·.1)) (fun y=>ba 0 y m):=⟨h,fun y=>Iff.rfl,fun y _=>rfl⟩
abbrev Rw:=ae
theorem gn {α:Type} {l:List α} {i:Nat} {x d:α} (h:i<l.length):(l.set i x).getD i d=x:=by simp [Lz,h]
def sy (n e:Int):Bool:=e==0&&(decide (n ≥ -1099511627776)&&decide (n≤1099511627776))
theorem dX (n e:Int):bE n e=some (sy n e):=by
 unfold bE sy;cases e==0 with
 | false=>rfl
 | true=>cases decide (n≥(-1099511627776))<;>rfl
def CE (r:Rw) (own:Int) (y:Int):Int:=if y∈r.mults.map (·.1) then (mulR (ba 0 y r.mults) own).1 else 0
def Hm (r p:Rw) (own oth:Int) (y:Int):Int:=if y∈p.mults.map (·.1) then (kK [1,oth] [CE r own y,ba 0 y p.mults]).1 else CE r own y
def Fg (r p:Rw) (y:Int):Prop:=y∈r.mults.map (·.1)∨y∈p.mults.map (·.1)
def AF (r:Rw) (own:Int) (e:Int×Int):Bool := !sy (mulR e.2 own).1 (mulR e.2 own).2
def CD (r:Rw) (own oth:Int) (e:Int×Int):Bool := !sy (kK [1,oth] [CE r own e.1,e.2]).1 (kK [1,oth] [CE r own e.1,e.2]).2
def HG (r p:Rw) (f:Int→Int):Ms:=ksort (r.mults.map (fun e=>(e.1,f e.1))++(p.mults.filter fun e=>decide (e.1 ∉ r.mults.map (·.1))).map fun e=>(e.1,f e.1))
theorem sf {y:Int}:∀ {a b:Ms},y ∉ a.map (·.1)→ba 0 y (a++b)=ba 0 y b
 | [],b,_=>rfl
 | (k,u)::a,b,h=>by simp only [List.map_cons,List.mem_cons,not_or] at h;rw [List.cons_append,ba,if_neg (fun e=>h.1 e.symm)];exact sf h.2
theorem s5 {f:Int→Int} {y:Int}:∀ {a:Ms},y∈a.map (·.1)→∀ b,ba 0 y (a.map (fun e=>(e.1,f e.1))++b)=f y
 | [],h,b=>by simp at h
 | (k,u)::a,h,b=>by
  simp only [List.map_cons,List.cons_append,ba];by_cases e:k=y
  ·rw [if_pos e,e]
  ·rw [if_neg e];exact s5 ((List.mem_cons.1 h).resolve_left fun h2=>e h2.symm) b
theorem zB {r p:Rw} (hr:(r.mults.map (·.1)).Nodup) (hp:(p.mults.map (·.1)).Nodup) (f:Int→Int) :
 eO (r.mults.map (fun e=>(e.1,f e.1))++(p.mults.filter fun e=>decide (e.1 ∉ r.mults.map (·.1))).map fun e=>(e.1,f e.1)) (Fg r p) f:=by
 refine ⟨?_,fun y => ?_,fun y hy => ?_⟩
 ·rw [List.map_append,List.map_map,List.map_map,List.nodup_append];refine ⟨hr,(List.Sublist.map _ List.filter_sublist).nodup hp,fun a ha b hb => ?_⟩;obtain ⟨e,he,e1⟩:=List.mem_map.1 hb;have he:=(List.mem_filter.1 he).2;rintro rfl;have e1:e.1=a:=e1;rw [e1] at he;exact (LF he) ha
 ·rw [List.map_append,List.map_map,List.map_map,List.mem_append];constructor
  ·rintro (h | h)
   ·exact .inl h
   ·obtain ⟨e,he,e1⟩:=List.mem_map.1 h;exact .inr (List.mem_map.2 ⟨e,(List.mem_filter.1 he).1,e1⟩)
  ·rintro (h | h)
   ·exact .inl h
   ·by_cases h2:y∈r.mults.map (·.1)
    ·exact .inl h2
    ·obtain ⟨e,he,e1⟩:=List.mem_map.1 h;refine .inr (List.mem_map.2 ⟨e,List.mem_filter.2 ⟨he,LH (by rw [show e.1=y from e1];exact h2)⟩,e1⟩)
 ·by_cases h2:y∈r.mults.map (·.1)
  ·exact s5 h2 _
  ·rw [sf (by rw [List.map_map];exact h2)];obtain ⟨e,he,e1⟩:=List.mem_map.1 (hy.resolve_left h2);have:=s5 (f:=f) (y:=y) (a:=p.mults.filter fun e=>decide (e.1 ∉ r.mults.map (·.1))) (List.mem_map.2 ⟨e,List.mem_filter.2 ⟨he,LH (by rw [show e.1=y from e1];exact h2)⟩,e1⟩) []
   rwa [List.append_nil] at this
theorem yE {r p:Rw} (hr:(r.mults.map (·.1)).Nodup) (hp:(p.mults.map (·.1)).Nodup) (f:Int→Int):eO (HG r p f) (Fg r p) f:=(zB hr hp f).ksort
theorem eO.out {m:Ms} {D:Int→Prop} {f:Int→Int} (h:eO m D f) {y:Int} (hy:¬ D y):ba 0 y m=0:=by
 have hn:y ∉ m.map (·.1):=fun h2=>hy ((h.ks y).1 h2);have:=sf (b:=[]) hn
 rwa [List.append_nil] at this
theorem AJ {α:Type} (d:α) {m:List α} {seen:List Nat} (p:α→Bool) (h1:seen.Nodup) (h2:∀ i,i<m.length→i∈seen) (h3:∀ i∈seen,i<m.length):(seen.any fun j=>p (m.getD j d))=m.any p:=by
 have:=(tB d h1 h2 h3).any_eq (f:=p)
 rwa [List.any_map] at this
theorem n9 {m:Ms} {seen:List Nat} (h1:seen.Nodup) (h2:∀ i,i<m.length→i∈seen) (h3:∀ i∈seen,i<m.length) (y:Int):y∈seen.map (fun j=>(m.getD j (0,0)).1)↔y∈m.map (·.1):=by
 have:=((tB (0,0) h1 h2 h3).map (·.1)).mem_iff (a:=y)
 rwa [List.map_map] at this
theorem getD_at {α:Type} (d:α) {l:List α} {i:Nat} (h:i<l.length):l.getD i d=l[i]:=by rw [Lz,LA h];rfl
def nO (r p:Rw) (k:Int):Rw :=
 bif r.lost||(p.lost || !sy (jM r.scale p.scale).1 (jM r.scale p.scale).2) then ae.mk r.q r.mults r.scale true
 else ae.mk r.q (HG r p (Hm r p (aL ((jM r.scale p.scale).1.tdiv r.scale)) (aL ((aL (0-(aL ((jM r.scale p.scale).1.tdiv p.scale))))*k)))) (jM r.scale p.scale).1
  (r.mults.any (AF r (aL ((jM r.scale p.scale).1.tdiv r.scale)))||p.mults.any (CD r (aL ((jM r.scale p.scale).1.tdiv r.scale)) (aL ((aL (0-(aL ((jM r.scale p.scale).1.tdiv p.scale))))*k))))
def RL (rows:List Rw) (i:Nat) (r:Rw) (b:Bool):List Rw:=rows.set i (ae.mk r.q r.mults r.scale b)
theorem Cp (rows:List Rw) (i:Nat) (r:Rw) (b:Bool):(RL rows i r b).length=rows.length:=by simp [RL]
theorem FH {rows:List Rw} {i:Nat} (hi:i<rows.length) (r:Rw) (b:Bool):(RL rows i r b).getD i (⟨⟨0,[]⟩,[],0,false⟩)=ae.mk r.q r.mults r.scale b:=gn hi
theorem uL (rows:List Rw) (i:Nat) (r:Rw) (b:Bool) (x:Rw):(RL rows i r b).set i x=rows.set i x:=by simp [RL]
theorem Ih {rows:List Rw} {i:Nat} {p:Rw} {k:Int} (hi:i<rows.length) {r:Rw} (er:rows.getD i (⟨⟨0,[]⟩,[],0,false⟩)=r) (hr:(r.mults.map (·.1)).Nodup) (hp:(p.mults.map (·.1)).Nodup) (hs1:r.scale≠0) (hs2:p.scale≠0) :
 du i p k rows=some (rows.set i (nO r p k)):=by
 unfold du nO;rw [aG hi,er,wL];simp only [Option.bind_some];generalize hown:aL ((jM r.scale p.scale).1.tdiv r.scale)=own;generalize hoth:aL ((aL (0-(aL ((jM r.scale p.scale).1.tdiv p.scale))))*k)=oth;generalize hsc:(jM r.scale p.scale).1=sc;generalize hse:(jM r.scale p.scale).2=se;cases hl:r.lost with
 | true=>rfl
 | false =>
  cases hl2:p.lost with
  | true=>rfl
  | false =>
   simp only [cond_false,Bool.false_or];rw [dX];simp only [Option.bind_some];cases hsm:sy sc se with
   | false=>rfl
   | true =>
    simp only [cond_true,Bool.not_true,cond_false];rw [aG hs1,aG hs2];have hrows:rows=RL rows i r false:=by
     have e2:rows[i]=r:=by rw [← getD_at (⟨⟨0,[]⟩,[],0,false⟩) hi];exact er
     unfold RL;have:ae.mk r.q r.mults r.scale false=rows[i]:=by rw [e2,← hl]
     rw [this,List.set_getElem_self]
    refine pF (wE (fun seen s=>s.1=RL rows i r (seen.any fun j=>AF r own (r.mults.getD j (0,0)))∧eO s.2 (fun y=>y∈seen.map (fun j=>(r.mults.getD j (0,0)).1)) (CE r own)) (fun seen s i' hi' hnd hni hlt hI => ?_) (fun seen s hnd hall hlt hI => ?_) _ [] _ (by simp) (by simp) (by simp) ⟨hrows,?_⟩)
    ·obtain ⟨h1,h2⟩:=hI;have hm:r.mults[i']∈r.mults:=List.getElem_mem hi';have hg:r.mults.getD i' (0,0)=r.mults[i']:=getD_at _ hi';generalize he:r.mults[i']=e at hm hg ⊢;rw [ll];simp only [Option.bind_some];rw [h1,aG (by rw [Cp];exact hi),FH hi,uL];refine ⟨(RL rows i r ((seen++[i']).any fun j=>AF r own (r.mults.getD j (0,0))),bI e.1 (mulR e.2 own).1 s.2),?_,rfl,?_⟩
     ·rw [List.any_append];simp only [List.any_cons,List.any_nil,Bool.or_false,hg];cases hb:seen.any fun j=>AF r own (r.mults.getD j (0,0)) with
      | true=>rfl
      | false =>
       simp only [cond_false,Bool.false_or];rw [dX];simp only [Option.bind_some,uL];rfl
     ·refine (h2.put e.1 (mulR e.2 own).1).congr (fun y => ?_) fun y hy => ?_
      ·rw [List.map_append,List.mem_append];simp only [List.map_cons,List.map_nil,List.mem_singleton,hg];exact or_comm
      ·by_cases ey:y=e.1
       ·rw [if_pos ey,ey];unfold CE;rw [if_pos (List.mem_map.2 ⟨e,hm,rfl⟩),di hr hm]
       ·rw [if_neg ey]
    ·obtain ⟨h1,h2⟩:=hI;rw [AJ (0,0) (AF r own) hnd hall hlt] at h1;have h2:eO s.2 (fun y=>y∈r.mults.map (·.1)) (CE r own):=h2.congr (fun y=>n9 hnd hall hlt y) fun y _=>rfl;generalize hB:r.mults.any (AF r own)=B at h1;refine pF (wE (fun seen t=>t.1=RL rows i r (B||seen.any fun j=>CD r own oth (p.mults.getD j (0,0)))∧eO t.2 (fun y=>y∈r.mults.map (·.1)∨y∈seen.map (fun j=>(p.mults.getD j (0,0)).1)) (fun y=>if y∈seen.map (fun j=>(p.mults.getD j (0,0)).1) then Hm r p own oth y else CE r own y)) (fun seen t i' hi' hnd hni hlt hI => ?_) (fun seen t hnd hall hlt hI => ?_) _ [] _ (by simp) (by simp) (by simp) ⟨by simpa using h1,?_⟩)
     ·obtain ⟨g1,g2⟩:=hI;have hm:p.mults[i']∈p.mults:=List.getElem_mem hi';have hg:p.mults.getD i' (0,0)=p.mults[i']:=getD_at _ hi';have hns:p.mults[i'].1 ∉ seen.map (fun j=>(p.mults.getD j (0,0)).1):=fun hc=>by
       obtain ⟨j,hj,ej⟩:=List.mem_map.1 hc;have hjl:=hlt j hj;rw [getD_at _ hjl] at ej;have hpw:=List.pairwise_iff_getElem.1 (show (p.mults.map (·.1)).Pairwise (· ≠ ·) from hp);have hne:j≠i':=fun e=>hni (e ▸ hj);rcases Nat.lt_or_ge j i' with h | h
       ·exact hpw j i' (by simpa using hjl) (by simpa using hi') h (by simpa using ej)
       ·exact hpw i' j (by simpa using hi') (by simpa using hjl) (by omega) (by simpa using ej.symm)
      generalize he:p.mults[i']=e at hm hg hns ⊢;have hv:ba 0 e.1 t.2=CE r own e.1:=by
       by_cases hk:e.1∈r.mults.map (·.1)
       ·rw [g2.at_ _ (.inl hk),if_neg hns]
       ·rw [g2.out (fun h=>h.elim hk hns)];unfold CE;rw [if_neg hk]
      rw [hv,lM];simp only [Option.bind_some];rw [g1,aG (by rw [Cp];exact hi),FH hi,uL];refine ⟨(RL rows i r (B||(seen++[i']).any fun j=>CD r own oth (p.mults.getD j (0,0))),bI e.1 (kK [1,oth] [CE r own e.1,e.2]).1 t.2),?_,rfl,?_⟩
      ·rw [List.any_append];simp only [List.any_cons,List.any_nil,Bool.or_false,hg];cases hb:(B||seen.any fun j=>CD r own oth (p.mults.getD j (0,0))) with
       | true =>
        rw [← Bool.or_assoc,hb];rfl
       | false =>
        simp only [cond_false];rw [← Bool.or_assoc,hb,Bool.false_or,dX];simp only [Option.bind_some,uL];rfl
      ·refine (g2.put e.1 (kK [1,oth] [CE r own e.1,e.2]).1).congr (fun y => ?_) fun y hy => ?_
       ·rw [List.map_append,List.mem_append];simp only [List.map_cons,List.map_nil,List.mem_singleton,hg];constructor
        ·rintro (h | h | h)
         ·exact .inr (.inr h)
         ·exact .inl h
         ·exact .inr (.inl h)
        ·rintro (h | h | h)
         ·exact .inr (.inl h)
         ·exact .inr (.inr h)
         ·exact .inl h
       ·rw [List.map_append];simp only [List.map_cons,List.map_nil,List.mem_append,List.mem_singleton,hg];by_cases ey:y=e.1
        ·rw [if_pos ey,if_pos (.inr ey),ey];unfold Hm;rw [if_pos (List.mem_map.2 ⟨e,hm,rfl⟩),di hp hm]
        ·rw [if_neg ey];by_cases h:y∈seen.map (fun j=>(p.mults.getD j (0,0)).1)
         ·rw [if_pos h,if_pos (.inl h)]
         ·rw [if_neg h,if_neg (fun h2=>h2.elim h ey)]
     ·obtain ⟨g1,g2⟩:=hI;rw [AJ (0,0) (CD r own oth) hnd hall hlt] at g1;have hk:ksort t.2=HG r p (Hm r p own oth):=by
       refine g2.ksort_eq (zB hr hp (Hm r p own oth)) (fun y => ?_) fun y hy => ?_
       ·unfold Fg;rw [n9 hnd hall hlt]
       ·by_cases h:y∈seen.map (fun j=>(p.mults.getD j (0,0)).1)
        ·rw [if_pos h]
        ·rw [if_neg h];unfold Hm;rw [if_neg (fun h2=>h ((n9 hnd hall hlt y).2 h2))]
      rw [g1,aG (by rw [Cp];exact hi),FH hi,uL,aG (by simpa using hi),hk,gn hi,List.set_set]
     ·refine h2.congr (fun y=>by simp) fun y _=>by simp
    ·exact ⟨by simp,fun y=>by simp,fun y hy=>by simp at hy⟩
theorem yo {α ρ:Type} (d:α) (ok:α→Bool) (g:α→α) (R:List α→ρ) {body:Int×List α→Option (gC (Int×List α) (List α) ρ)} (n:Nat) (I:α→Prop)
 (h:∀ (i:Nat) (l:List α),l.length=n→i<n→I (l.getD i d)→body ((i:Int),l)=some (bif ok (l.getD i d) then .go (((i+1:Nat):Int),l.set i (g (l.getD i d))) else .ret (R (l.set i (g (l.getD i d))))))
 (he:∀ l:List α,l.length=n→body ((n:Int),l)=some (.brk l)):∀ (k i N:Nat) (l:List α),i+k=n→k<N→l.length=n→(∀ x∈l.drop i,I x) →
 kz body N ((i:Int),l)=some (.brk (l.take i++(l.drop i).map g))∧(l.drop i).all ok=true∨(∃ l',kz body N ((i:Int),l)=some (.ret (R l')))∧(l.drop i).all ok=false
 | 0,i,N,l,h1,h2,h3,_=>by
  obtain ⟨N,rfl⟩:∃ j,N=j+1:=⟨N-1,by omega⟩;have hi:i=n:=by omega
  subst hi;left;rw [List.drop_of_length_le (by omega),List.take_of_length_le (by omega)];simp only [kz];rw [he l h3];simp [zg]
 | k+1,i,N,l,h1,h2,h3,hI=>by
  obtain ⟨N,rfl⟩:∃ j,N=j+1:=⟨N-1,by omega⟩;have hil:i<l.length:=by omega
  have hdrop:l.drop i=l[i]::l.drop (i+1):=List.drop_eq_getElem_cons hil;have hg:l.getD i d=l[i]:=getD_at d hil;have hIi:I (l.getD i d):=by rw [hg];exact hI _ (by rw [hdrop];exact List.mem_cons_self ..)
  have hb:=h i l h3 (by omega) hIi;simp only [kz];rw [hb,hg,hdrop];cases ho:ok l[i] with
  | false=>exact .inr ⟨⟨_,rfl⟩,by rw [List.all_cons,ho];rfl⟩
  | true =>
   simp only [cond_true,Option.bind_some,zg];have hd2:(l.set i (g l[i])).drop (i+1)=l.drop (i+1):=List.drop_set_of_lt (by omega);have ht2:(l.set i (g l[i])).take (i+1)=l.take i++[g l[i]]:=by rw [List.take_add_one,List.take_set_of_le (by omega)];simp [hil]
   have ih:=yo d ok g R n I h he k (i+1) N (l.set i (g l[i])) (by omega) (by omega) (by simpa using h3) (fun x hx=>by rw [hd2] at hx;exact hI x (by rw [hdrop];exact List.mem_cons_of_mem _ hx));rw [hd2,ht2] at ih;rcases ih with ⟨e1,e2⟩ | ⟨e1,e2⟩
   ·left;refine ⟨?_,by rw [List.all_cons,ho,e2];rfl⟩;rw [e1,List.map_cons,List.append_assoc];rfl
   ·right;exact ⟨e1,by rw [List.all_cons,ho,e2];rfl⟩
def pb (x:au) (by_ l:Linear):Linear:=bif cf l x==0 then l else (Ch [one x by_] l).1
def gN (x:au) (by_ l:Linear):Bool:=cf l x==0||(Ch [one x by_] l).2==0
theorem C5 {x:au} {by_:Linear} (hx:fg x=true) (hb:ax by_=true):∀ b∈[one x by_],okB b:=fun b h=>by
 have:b=one x by_:=by simpa using h
 subst this;exact ⟨by have:=ia hx;show x.length≤1000000;omega,jK hb,by show ([]:au).length≤1000000;simp,by intro l h;cases h⟩
abbrev Bm:Bind:=⟨0,[],⟨0,[]⟩,⟨[],[]⟩,[]⟩
abbrev br:Rw:=⟨⟨0,[]⟩,[],0,false⟩
theorem F2 {i:Nat} {bs:List Bind} {x:au} {by_:Linear} (hi:i<bs.length) (hx:fg x=true) (hb:ax by_=true) (hv:ax (bs.getD i Bm).Dim=true) :
 cq i bs x [one x by_]=some (gN x by_ (bs.getD i Bm).Dim,bs.set i (Bind.mk (bs.getD i Bm).Kind (bs.getD i Bm).Var (pb x by_ (bs.getD i Bm).Dim) (bs.getD i Bm).Row (bs.getD i Bm).Elem)):=by
 unfold cq gN pb;rw [aG hi,je];simp only [Option.bind_some];have hg:bs.getD i Bm=bs[i]:=getD_at Bm hi;cases h0:cf (bs.getD i Bm).Dim x==0 with
 | true =>
  simp only [cond_true,Bool.true_or];rw [KF,hg,List.set_getElem_self]
 | false =>
  simp only [cond_false,Bool.false_or];rw [oP _ _ (jK hv) (C5 hx hb)];rfl
theorem BJ {i:Nat} {rows:List Rw} {x:au} {by_:Linear} (hi:i<rows.length) (hx:fg x=true) (hb:ax by_=true) (hv:ax (rows.getD i br).q=true) :
 bW i rows x [one x by_]=some (gN x by_ (rows.getD i br).q,rows.set i (ae.mk (pb x by_ (rows.getD i br).q) (rows.getD i br).mults (rows.getD i br).scale (rows.getD i br).lost)):=by
 unfold bW gN pb;rw [aG hi,je];simp only [Option.bind_some];have hg:rows.getD i br=rows[i]:=getD_at br hi;cases h0:cf (rows.getD i br).q x==0 with
 | true =>
  simp only [cond_true,Bool.true_or];rw [show ae.mk (rows.getD i br).q (rows.getD i br).mults (rows.getD i br).scale (rows.getD i br).lost=rows.getD i br from rfl,hg,List.set_getElem_self]
 | false =>
  simp only [cond_false,Bool.false_or];rw [oP _ _ (jK hv) (C5 hx hb)];rfl
def jY (x:au) (by_:Linear) (b:Bind):Bind:=Bind.mk b.Kind b.Var (pb x by_ b.Dim) b.Row b.Elem
def p6 (x:au) (by_:Linear) (r:Rw):Rw:=ae.mk (pb x by_ r.q) r.mults r.scale r.lost
def pN (x:au) (by_:Linear) (i:Nat) (qs ds:List Linear):Bool:=ax by_&&(ds.all (gN x by_)&&(qs.drop i).all (gN x by_))
theorem put_eq {x:au} {by_:Linear} {i:Nat} {nx:Int} {rows:List Rw} {bs:List Bind} (hx:fg x=true) (hk:Dw by_) (hi:i≤rows.length) (hl1:rows.length≤1000000) (hl2:bs.length≤2000000000)
 (hr:∀ r∈rows,ax r.q=true) (hb:∀ b∈bs,ax b.Dim=true) :
 (pN x by_ i (rows.map (·.q)) (bs.map (·.Dim))=true∧aY x by_ (i:Int) nx rows bs=some (0,rows.take i++(rows.drop i).map (p6 x by_),bs.map (jY x by_)++[one x by_])) ∨
 (pN x by_ i (rows.map (·.q)) (bs.map (·.Dim))=false∧∃ r' b',aY x by_ (i:Int) nx rows bs=some (3,r',b')):=by
 unfold aY pN;rw [eI by_ hk.1 hk.2];cases hv:ax by_ with
 | false=>exact .inr ⟨rfl,_,_,rfl⟩
 | true =>
  simp only [Option.bind_some,cond_true,Bool.true_and];have h1:=yo (ρ:=Int×List Rw×List Bind) Bm (fun b=>gN x by_ b.Dim) (jY x by_) (fun l=>(3,rows,l)) bs.length (fun b=>ax b.Dim=true)
   (body:=fun s0 =>
   bif decide (s0.1<((bs.length:Nat):Int)) then (
    bM (0≤s0.1∧s0.1<(s0.2.length:Int)) <|
    (cq s0.1.toNat s0.2 x [(Bind.mk 1 x by_ (Shape.mk [] []) [])]).bind fun y1 =>
    bif y1.1 then (
     some (.go ((aL (s0.1+1)),y1.2))
    ) else (
     some (.ret (3,rows,y1.2))
    )
   ) else (
    some (.brk s0.2)
   )) (fun j l hl hj hIj=>by
    simp only;rw [LH (by omega),cond_true,aG ⟨by omega,by omega⟩,Int.toNat_natCast,show (Bind.mk 1 x by_ (Shape.mk [] []) [])=one x by_ from rfl,F2 (by omega) hx hv hIj];simp only [Option.bind_some];rw [bn (by omega) (by omega)];cases gN x by_ (l.getD j Bm).Dim<;>rfl) (fun l hl=>by
    simp only;rw [LG (by omega)];rfl) bs.length 0 4294967296 bs (by omega) (by omega) rfl (fun b h=>hb b (by simpa using h))
  rcases h1 with ⟨e1,a1⟩ | ⟨⟨l',e1⟩,a1⟩
  ·rw [List.drop_zero,List.take_zero,List.nil_append] at e1;rw [List.drop_zero] at a1;have a1':(bs.map (·.Dim)).all (gN x by_)=true:=by rw [List.all_map];exact a1
   rw [a1',Bool.true_and];have h2:=yo (ρ:=Int×List Rw×List Bind) br (fun r=>gN x by_ r.q) (p6 x by_) (fun l=>(3,l,bs.map (jY x by_))) rows.length (fun r=>ax r.q=true)
    (body:=fun s1 =>
    bif decide (s1.1<((s1.2.length:Nat):Int)) then (
     bM (0≤s1.1∧s1.1<(s1.2.length:Int)) <|
     (bW s1.1.toNat s1.2 x [(Bind.mk 1 x by_ (Shape.mk [] []) [])]).bind fun y2 =>
     bif y2.1 then (
      some (.go ((aL (s1.1+1)),y2.2))
     ) else (
      some (.ret (3,y2.2,bs.map (jY x by_)))
     )
    ) else (
     some (.brk s1.2)
    )) (fun j l hl hj hIj=>by
     simp only;rw [LH (by omega),cond_true,aG ⟨by omega,by omega⟩,Int.toNat_natCast,show (Bind.mk 1 x by_ (Shape.mk [] []) [])=one x by_ from rfl,BJ (by omega) hx hv hIj];simp only [Option.bind_some];rw [bn (by omega) (by omega)];cases gN x by_ (l.getD j br).q<;>rfl) (fun l hl=>by
     simp only;rw [hl,LG (by omega)];rfl) (rows.length-i) i 4294967296 rows (by omega) (by omega) rfl (fun r h=>hr r (List.mem_of_mem_drop h))
   rcases h2 with ⟨e2,a2⟩ | ⟨⟨l',e2⟩,a2⟩
   ·left;refine ⟨by rw [← List.map_drop,List.all_map];exact a2,?_⟩;refine (congrArg (fun o:Option (Out (List Bind) (Int×List Rw×List Bind))=>Option.bind o _) e1).trans ?_;simp only [Option.bind_some,Sh.aft];refine (congrArg (fun o:Option (Out (List Rw) (Int×List Rw×List Bind))=>Option.bind o _) e2).trans ?_;simp only [Option.bind_some,Sh.aft];rw [aG (by simp),aG (by simp;omega)];rfl
   ·right;refine ⟨by rw [← List.map_drop,List.all_map];exact a2,l',bs.map (jY x by_),?_⟩;refine (congrArg (fun o:Option (Out (List Bind) (Int×List Rw×List Bind))=>Option.bind o _) e1).trans ?_;simp only [Option.bind_some,Sh.aft];refine (congrArg (fun o:Option (Out (List Rw) (Int×List Rw×List Bind))=>Option.bind o _) e2).trans ?_;rfl
  ·right;rw [List.drop_zero] at a1;have a1':(bs.map (·.Dim)).all (gN x by_)=false:=by rw [List.all_map];exact a1
   refine ⟨by rw [a1',Bool.false_and],rows,l',?_⟩;refine (congrArg (fun o:Option (Out (List Bind) (Int×List Rw×List Bind))=>Option.bind o _) e1).trans ?_;rfl
theorem DJ {α ρ:Type} (d:α) (g:α→α) {body:Int×List α→Option (gC (Int×List α) (List α) ρ)} (n:Nat) (I:α→Prop)
 (h:∀ (i:Nat) (l:List α),l.length=n→i<n→I (l.getD i d)→body ((i:Int),l)=some (.go (((i+1:Nat):Int),l.set i (g (l.getD i d)))))
 (he:∀ l:List α,l.length=n→body ((n:Int),l)=some (.brk l)):∀ (k i N:Nat) (l:List α),i+k=n→k<N→l.length=n→(∀ x∈l.drop i,I x) →
 kz body N ((i:Int),l)=some (.brk (l.take i++(l.drop i).map g))
 | 0,i,N,l,h1,h2,h3,_=>by
  obtain ⟨N,rfl⟩:∃ j,N=j+1:=⟨N-1,by omega⟩;have hi:i=n:=by omega
  subst hi;rw [List.drop_of_length_le (by omega),List.take_of_length_le (by omega)];simp only [kz];rw [he l h3];simp [zg]
 | k+1,i,N,l,h1,h2,h3,hI=>by
  obtain ⟨N,rfl⟩:∃ j,N=j+1:=⟨N-1,by omega⟩;have hil:i<l.length:=by omega
  have hdrop:l.drop i=l[i]::l.drop (i+1):=List.drop_eq_getElem_cons hil;have hg:l.getD i d=l[i]:=getD_at d hil;have hIi:I (l.getD i d):=by rw [hg];exact hI _ (by rw [hdrop];exact List.mem_cons_self ..)
  have hb:=h i l h3 (by omega) hIi;simp only [kz];rw [hb,hg,hdrop];simp only [Option.bind_some,zg];have hd2:(l.set i (g l[i])).drop (i+1)=l.drop (i+1):=List.drop_set_of_lt (by omega);have ht2:(l.set i (g l[i])).take (i+1)=l.take i++[g l[i]]:=by rw [List.take_add_one,List.take_set_of_le (by omega)];simp [hil]
  have ih:=DJ d g n I h he k (i+1) N (l.set i (g l[i])) (by omega) (by omega) (by simpa using h3) (fun x hx=>by rw [hd2] at hx;exact hI x (by rw [hdrop];exact List.mem_cons_of_mem _ hx));rw [hd2,ht2] at ih;rw [ih,List.map_cons,List.append_assoc];rfl
structure kD (n:Int) (r:Rw):Prop where
 v:ax r.q=true
 nd:(r.mults.map (·.1)).Nodup
 sc:r.scale≠0
 ks:∀ y∈r.mults.map (·.1),0≤y∧y<n
theorem Da (r p:Rw) (k:Int):(nO r p k).q=r.q:=by unfold nO;cases r.lost||(p.lost || !sy (jM r.scale p.scale).1 (jM r.scale p.scale).2)<;>rfl
theorem Js {a b:Int} (ha:a≠0) (hb:b≠0) (h:sy (jM a b).1 (jM a b).2=true):(jM a b).1≠0:=by
 have h2:(jM a b).2=0:=by unfold sy at h;simp only [LB] at h;exact eq_of_beq h.1
 clear h;unfold jM at h2 ⊢;cases hi:jA a&&jA b with
 | false=>rw [hi] at h2;simp at h2
 | true =>
  rw [hi] at h2;have e1:(a==0)=false:=by simpa using ha
  have e2:(b==0)=false:=by simpa using hb
  simp only [cond_true,e1,e2,Bool.or_false,cond_false] at h2 ⊢;unfold mulR at h2 ⊢;cases hj:jA (((a.natAbs / Nat.gcd a.natAbs b.natAbs:Nat)):Int)&&(jA (b.natAbs:Int)&&jA ((((a.natAbs / Nat.gcd a.natAbs b.natAbs:Nat)):Int)*(b.natAbs:Int))) with
  | false=>rw [hj] at h2;simp at h2
  | true =>
   simp only [cond_true];have hg:Nat.gcd a.natAbs b.natAbs≤a.natAbs:=Nat.gcd_le_left _ (by omega);have hg0:0<Nat.gcd a.natAbs b.natAbs:=Nat.pos_of_ne_zero (Nat.gcd_ne_zero_left (by omega));have h3:0<a.natAbs / Nat.gcd a.natAbs b.natAbs:=Nat.div_pos hg hg0;exact Int.mul_ne_zero (by omega) (by omega)
theorem GC {n:Int} {r p:Rw} (hr:kD n r) (hp:kD n p) (k:Int):kD n (nO r p k):=by
 refine ⟨by rw [Da];exact hr.v,?_,?_,?_⟩<;>unfold nO<;>cases hc:r.lost||(p.lost || !sy (jM r.scale p.scale).1 (jM r.scale p.scale).2)
 ·exact (yE hr.nd hp.nd _).nd
 ·exact hr.nd
 ·simp only [Bool.or_eq_false_iff,Bool.not_eq_false'] at hc;exact Js hr.sc hp.sc hc.2.2
 ·exact hr.sc
 ·intro y hy;rcases ((yE hr.nd hp.nd _).ks y).1 hy with h | h
  ·exact hr.ks y h
  ·exact hp.ks y h
 ·exact hr.ks
theorem p9 {α β ρ:Type} (c:α→Bool) (f:α→β):∀ (ts:List α) (acc:List β),fh (ε:=List β) (ρ:=ρ) (fun u s=>gC.go (bif c u then s else s++[f u])) (fun s=>s) ts acc = .brk (acc++(ts.filter fun u => !c u).map f)
 | [],acc=>by simp [fh]
 | u::ts,acc=>by
  simp only [fh];rw [p9 c f ts];cases h:c u with
  | true=>simp [h]
  | false=>simp [h]
def vz (t:aq) (q:Linear):Linear:=Linear.mk (-t.C*q.Const) ((q.Terms.filter fun u => !(u.Var==t.Var)).map fun u=>aq.mk u.Var (-t.C*u.C))
def gU (t:aq) (p:Rw) (r:Rw):Rw:=bif cf r.q t.Var==0 then r else nO r p (cf r.q t.Var*t.C)
theorem vS {l:Linear} (h:ax l=true) (v:au) : -1000000≤cf l v∧cf l v≤1000000:=by
 by_cases h0:cf l v=0
 ·omega
 ·obtain ⟨t,ht,_,e⟩:=qC (show mF v l.Terms≠0 from h0);have:=(cz h t ht).1;have e:t.C=cf l v:=e;omega
theorem unit_eq {i:Nat} {t:aq} {nx:Int} {rows:List Rw} {bs:List Bind} (hi:i<rows.length) (hl:rows.length≤1000000) (hr:∀ r∈rows,kD rows.length r) (ht:t.C=1∨t.C = -1) :
 bw (i:Int) t nx rows bs=(aY t.Var (vz t (rows.getD i br).q) (i:Int) nx (rows.take (i+1)++(rows.drop (i+1)).map (gU t (rows.getD i br))) bs).bind fun y=>some (y.1,y.2.1,y.2.2):=by
 unfold bw;have hp:=hr _ (bb br hi);rw [aG ⟨by omega,by omega⟩,Int.toNat_natCast,aG hi];generalize hP:rows.getD i br=p at hp;have hC:=cz hp.v;have hlen:=bX hp.v;have h1:=fB (ε:=List aq) (ρ:=Empty) (f:=fun s=>s) (fin:=fun i0 s0=>s0) (⟨[],0⟩:aq) p.q.Terms (fun u s=>gC.go (bif u.Var==t.Var then s else s++[aq.mk u.Var (-t.C*u.C)])) (fun j s=>s.length≤j)
  (body:=fun i0 s0=>((
   bif (((p.q.Terms).getD i0 ⟨[],0⟩).Var==t.Var) then (
    some s0
   ) else (
    bM ((s0.length+1)*24≤140737488355328) <|
    some (s0++[(aq.mk (((p.q.Terms).getD i0 ⟨[],0⟩).Var) (aL ((aL (0-t.C))*(((p.q.Terms).getD i0 ⟨[],0⟩).C))))])
   )
  ):Option (List aq)).bind fun v0 =>
  some (.go v0)) (fun _ _=>rfl) [] (Nat.zero_le _) (fun j s hj hI=>by
   have hm:p.q.Terms.getD j ⟨[],0⟩∈p.q.Terms:=bb _ hj;obtain ⟨c1,c2⟩:=hC _ hm;refine ⟨?_,fun s' hs' => ?_⟩
   ·cases (p.q.Terms.getD j ⟨[],0⟩).Var==t.Var with
    | true=>rfl
    | false =>
     simp only [cond_false];rw [aG (by omega),bn (n:=0-t.C) (by omega) (by omega)];have e:(0-t.C)*(p.q.Terms.getD j ⟨[],0⟩).C = -t.C*(p.q.Terms.getD j ⟨[],0⟩).C:=by congr 1;omega
     rw [e,bn (by rcases ht with h | h<;>rw [h]<;>omega) (by rcases ht with h | h<;>rw [h]<;>omega)];rfl
   ·injection hs' with hs'
    subst hs';cases (p.q.Terms.getD j ⟨[],0⟩).Var==t.Var<;>simp<;>omega)
 refine (congrArg (fun o:Option (Out (List aq) Empty)=>Option.bind o _) h1).trans ?_;rw [p9 (fun u:aq=>u.Var==t.Var)];simp only [Option.bind_some,dI,List.nil_append];have h2:=DJ (ρ:=Empty) br (gU t p) rows.length (kD rows.length)
  (body:=fun s1 =>
  bif decide (s1.1<((s1.2.length:Nat):Int)) then (
   bM (0≤s1.1∧s1.1<(s1.2.length:Int)) <|
   bM (s1.1.toNat<s1.2.length) <|
   (cS (Linear.mk (((s1.2.getD s1.1.toNat (⟨⟨0,[]⟩,[],0,false⟩)).q).Const) (((s1.2.getD s1.1.toNat (⟨⟨0,[]⟩,[],0,false⟩)).q).Terms)) t.Var).bind fun y0 =>
   ((
    bif (y0==0) then (
     some s1.2
    ) else (
     (du s1.1.toNat (ae.mk (Linear.mk ((p.q).Const) ((p.q).Terms)) (p.mults) (p.scale) (p.lost)) (aL (y0*t.C)) s1.2).bind fun y1 =>
     some y1
    )
   ):Option (List ae)).bind fun v1 =>
   some (.go ((aL (s1.1+1)),v1))
  ) else (
   some (.brk s1.2)
  )) (fun j l hlj hj hIj=>by
   simp only;rw [LH (by omega),cond_true,aG ⟨by omega,by omega⟩,Int.toNat_natCast,aG (by omega),je];simp only [Option.bind_some];rw [bn (n:=(j:Int)+1) (by omega) (by omega)];unfold gU;have hIj':kD rows.length (l.getD j ⟨⟨0,[]⟩,[],0,false⟩):=hIj;generalize hR:l.getD j ⟨⟨0,[]⟩,[],0,false⟩=r at hIj';have hR':l.getD j br=r:=hR;have hb:=vS hIj'.v t.Var;rw [oX];cases h0:cf r.q t.Var==0 with
   | true =>
    simp only [cond_true,Option.bind_some];have:r=l[j]:=by rw [← hR',getD_at br (by omega)]
    rw [this,List.set_getElem_self];rfl
   | false =>
    simp only [cond_false];rw [bn (n:=cf r.q t.Var*t.C) (by rcases ht with h | h<;>rw [h]<;>omega) (by rcases ht with h | h<;>rw [h]<;>omega)];rw [Ih (by omega) hR hIj'.nd hp.nd hIj'.sc hp.sc];rfl) (fun l hlj=>by
   simp only;rw [LG (by omega)];rfl) (rows.length-(i+1)) (i+1) 4294967296 rows (by omega) (by omega) rfl (fun r h=>hr r (List.mem_of_mem_drop h))
 have e3:aL ((i:Int)+1)=((i+1:Nat):Int):=by rw [bn (by omega) (by omega)];omega
 rw [e3];refine (congrArg (fun o:Option (Out (List Rw) Empty)=>Option.bind o _) h2).trans ?_;simp only [Option.bind_some,dI];have e4:aL (aL (0-t.C)*p.q.Const) = -t.C*p.q.Const:=by
  have:=kh hp.v;rw [bn (n:=0-t.C) (by omega) (by omega)];have e:(0-t.C)*p.q.Const = -t.C*p.q.Const:=by congr 1;omega
  rw [e,bn (by rcases ht with h | h<;>rw [h]<;>omega) (by rcases ht with h | h<;>rw [h]<;>omega)]
 rw [e4];rfl
def oJ (t:aq) (n:Nat) (ts:List aq):List aq:=aq.mk (cO n) 1::(ts.filter fun u => !(u.Var==t.Var||gE u.C t.C==0)).map fun u=>aq.mk u.Var (-(gE u.C t.C))
def zK (ts:List aq):List aq:=iJ (fun x y=>iT x.Var y.Var) ts
theorem iL (ts:List aq):(zK ts).Perm ts:=msort_perm ts _
def om (t:aq) (n:Nat) (q:Linear):Linear:=Linear.mk (-(gE q.Const t.C)) (zK (oJ t n q.Terms))
theorem GI (n:Nat):Lib.itoa (n:Int)=dec n:=by rw [Gl,LG (by omega),cond_false,Int.natAbs_natCast]
theorem tW {n:Int} {t:aq} (h0:t.C≠0) (hn : -1000000≤n∧n≤1000000) (ht : -1000000≤t.C∧t.C≤1000000):bC n t=some (-(gE n t.C)):=by unfold bC;rw [vf h0 hn ht];simp only [Option.bind_some];have:=Hu h0 hn;rw [bn (by omega) (by omega)];exact congrArg some (by omega)
theorem uz {t:aq} {n:Nat} {ts:List aq} (hn:xp ts) (hf:∀ u∈ts,u.Var≠cO n):xp (oJ t n ts):=by unfold xp oJ;rw [List.map_cons,List.nodup_cons,List.map_map];refine ⟨fun h => ?_,(List.Sublist.map _ List.filter_sublist).nodup hn⟩;obtain ⟨u,hu,e⟩:=List.mem_map.1 h;exact hf u (List.mem_filter.1 hu).1 e
theorem As (t:aq) (n:Nat) (ts:List aq):(oJ t n ts).length≤ts.length+1:=by unfold oJ;rw [List.length_cons,LI];have:=List.length_filter_le (fun u => !(u.Var==t.Var||gE u.C t.C==0)) ts;omega
theorem CM {t:aq} {n:Nat} {q:Linear} (h1:1≤n) (h2:n<1000000000) (hv:ax q=true):Dw (om t n q):=by
 have hp:=iL (oJ t n q.Terms);have hl:=bX hv;refine ⟨?_,fun u hu => ?_⟩
 ·show (zK (oJ t n q.Terms)).length≤1000000;rw [hp.length_eq];have:=As t n q.Terms;omega
 ·have hu:=hp.mem_iff.1 (show u∈zK (oJ t n q.Terms) from hu);unfold oJ at hu;rcases List.mem_cons.1 hu with rfl | hu
  ·have:=ia (kV h1 h2).1;show (cO n).length≤1000000;omega
  ·obtain ⟨x,hx,rfl⟩:=List.mem_map.1 hu;have:=ia ((cz hv x (List.mem_filter.1 hx).1).2);show x.Var.length≤1000000;omega
theorem CN {t:aq} {q:Linear} (hv:ax q=true):Dw (vz t q):=by have hl:=bX hv;have h2:=List.length_filter_le (fun u:aq => !(u.Var==t.Var)) q.Terms;refine ⟨by show ((q.Terms.filter fun u => !(u.Var==t.Var)).map fun u=>aq.mk u.Var (-t.C*u.C)).length≤1000000;rw [LI];omega,fun u hu => ?_⟩;obtain ⟨x,hx,rfl⟩:=List.mem_map.1 (show u∈(q.Terms.filter fun u => !(u.Var==t.Var)).map fun u=>aq.mk u.Var (-t.C*u.C) from hu);have:=ia ((cz hv x (List.mem_filter.1 hx).1).2);show x.Var.length≤1000000;omega
theorem xN {i:Nat} {t:aq} {n:Nat} {rows:List Rw} {bs:List Bind} (hi:i<rows.length) (hv:ax (rows.getD i br).q=true) (h1:1≤n) (h2:n<1000000000) (h0:t.C≠0) (ht : -1000000≤t.C∧t.C≤1000000)
 (hf:∀ u∈(rows.getD i br).q.Terms,u.Var≠cO n) :
 bL (i:Int) t (n:Int) rows bs=bif decide (n+1≥1000000000) then some (3,((n+1:Nat):Int),rows,bs) else
  (aY t.Var (om t n (rows.getD i br).q) (i:Int) ((n+1:Nat):Int) rows bs).bind fun y=>some (y.1,((n+1:Nat):Int),y.2.1,y.2.2):=by
 unfold bL;rw [aG ⟨Int.natCast_nonneg _,by omega⟩,Int.toNat_natCast,aG hi];generalize hP:rows.getD i br=p at hv hf;have hdl:=ri 8 n (by omega);unfold gS;rw [pV];rw [GI,aG ⟨by omega,by omega,by omega⟩];simp only [Option.bind_some];rw [aG (by simp;omega),bn (n:=(n:Int)+1) (by omega) (by omega)];have e1:(n:Int)+1=((n+1:Nat):Int):=by omega
 rw [e1];have e2:decide (((n+1:Nat):Int)≥1000000000)=decide (n+1≥1000000000):=by rw [decide_eq_decide];omega
 rw [e2];cases decide (n+1≥1000000000) with
 | true=>rfl
 | false =>
  simp only [cond_false];have hC:=cz hv;have hlen:=bX hv;rw [tW h0 (kh hv) ht];simp only [Option.bind_some];have hl:=fB (ε:=List aq) (ρ:=Empty) (f:=fun s=>s) (fin:=fun i0 s0=>s0) (⟨[],0⟩:aq) p.q.Terms (fun u s=>gC.go (bif (u.Var==t.Var||gE u.C t.C==0) then s else s++[aq.mk u.Var (-(gE u.C t.C))])) (fun j s=>s.length≤j+1)
   (body:=fun i0 s0 =>
   (bC ((p.q.Terms.getD i0 ⟨[],0⟩).C) t).bind fun y2 =>
   ((
    bif ((p.q.Terms.getD i0 ⟨[],0⟩).Var==t.Var) then (
     some false
    ) else (
     some (y2 != 0)
    )
   ):Option Bool).bind fun v0 =>
   ((
    bif v0 then (
     bM ((s0.length+1)*24≤140737488355328) <|
     some (s0++[(aq.mk ((p.q.Terms.getD i0 ⟨[],0⟩).Var) y2)])
    ) else (
     some s0
    )
   ):Option (List aq)).bind fun v1 =>
   some (.go v1)) (fun _ _=>rfl) [(aq.mk ([95]++dec n) 1)] (by simp) (fun j s hj hI=>by
    have hm:p.q.Terms.getD j ⟨[],0⟩∈p.q.Terms:=bb _ hj;obtain ⟨c1,c2⟩:=hC _ hm;refine ⟨?_,fun s' hs' => ?_⟩
    ·rw [tW h0 c1 ht];simp only [Option.bind_some];cases (p.q.Terms.getD j ⟨[],0⟩).Var==t.Var with
     | true=>rfl
     | false =>
      simp only [cond_false,Option.bind_some,Bool.false_or];have e3:(-(gE (p.q.Terms.getD j ⟨[],0⟩).C t.C) != 0) = !(gE (p.q.Terms.getD j ⟨[],0⟩).C t.C==0):=by unfold bne;congr 1;rw [Bool.eq_iff_iff];simp
      rw [e3];cases gE (p.q.Terms.getD j ⟨[],0⟩).C t.C==0 with
      | true=>rfl
      | false =>
       simp only [Bool.not_false,cond_true];rw [aG (by omega)];rfl
    ·injection hs' with hs'
     subst hs';cases (p.q.Terms.getD j ⟨[],0⟩).Var==t.Var||gE (p.q.Terms.getD j ⟨[],0⟩).C t.C==0<;>simp<;>omega)
  refine (congrArg (fun o:Option (Out (List aq) Empty)=>Option.bind o _) hl).trans ?_;rw [p9 (fun u:aq=>u.Var==t.Var||gE u.C t.C==0)];simp only [Option.bind_some,dI];have e4:[aq.mk ([95]++dec n) 1]++(p.q.Terms.filter fun u => !(u.Var==t.Var||gE u.C t.C==0)).map (fun u=>aq.mk u.Var (-(gE u.C t.C)))=oJ t n p.q.Terms:=rfl;rw [e4];unfold iR;have hrl:=As t n p.q.Terms;rw [aG ⟨by omega,uz (dp hv) hf⟩];rfl
theorem BW {l:Linear} (h:ax l=true) (c:Int) (f:Int→Int) (hc : -1000000≤c∧c≤1000000) (hf:∀ t∈l.Terms,f t.C≠0 ∧ -1000000≤f t.C∧f t.C≤1000000):ax (Linear.mk c (l.Terms.map fun t=>aq.mk t.Var (f t.C)))=true:=by
 have hl:=bX h;have hat:∀ j,j<l.Terms.length→ye (Linear.mk c (l.Terms.map fun t=>aq.mk t.Var (f t.C))) j=aq.mk (ye l j).Var (f (ye l j).C):=fun j hj=>by unfold ye;rw [getD_at _ (by simpa using hj),getD_at _ hj];simp
 have h':=h;simp only [ax,LB,LN,decide_eq_true_eq] at h' ⊢;refine ⟨fun j hj => ?_,by simp only [Cg,LB,decide_eq_true_eq];exact hc,by simpa using hl⟩;have hj:j<l.Terms.length:=by simpa using hj
 have hp:=h'.1 j (by simpa using hj);have hm:ye l j∈l.Terms:=bb _ hj;obtain ⟨f1,f2⟩:=hf _ hm;simp only [km,LB] at hp ⊢;rw [hat j hj];refine ⟨hp.1,by simpa using f1,by simp only [Cg,LB,decide_eq_true_eq];exact f2,?_⟩;cases j with
 | zero=>rfl
 | succ j =>
  have:=hp.2.2.2;rw [hat (j+1-1) (by omega)];exact this
def aR (g:Int) (q:Linear):Linear:=Linear.mk (q.Const.tdiv g) (q.Terms.map fun t=>aq.mk t.Var (t.C.tdiv g))
theorem tdiv_le {a g:Int} (h : -1000000≤a∧a≤1000000) : -1000000≤a.tdiv g∧a.tdiv g≤1000000:=by have:=Int.natAbs_tdiv_le_natAbs a g;omega
theorem mu {q:Linear}:∀ t∈q.Terms,((cont q:Nat):Int) ∣ t.C:=fun t ht=>Int.natAbs_dvd_natAbs.1 (by rw [Int.natAbs_natCast];exact (s7 q.Terms 0).2 t ht)
theorem dn {q:Linear} (h:ax q=true):ax (aR (cont q) q)=true:=by refine BW h _ (fun c=>c.tdiv (cont q)) (tdiv_le (kh h)) fun t ht=>⟨fun h0 => ?_,tdiv_le (cz h t ht).1⟩;have:=Int.mul_tdiv_cancel' (mu t ht);rw [h0,Int.mul_zero] at this;exact de h t ht this.symm
def nU (n:Nat) (m:Ms):List Int:=(List.range n).map fun j:Nat=>ba 0 (j:Int) m
theorem FU {β:Type} {n:Nat} {m:Ms} (hn:(m.map (·.1)).Nodup) (hk:∀ y∈m.map (·.1),0≤y∧y<(n:Int)) (k:List Int→Option β) (v:β) (hv:k (nU n m)=some v) :
 nY (σ:=(List Int)) (ε:=Empty) (β:=β) m (fun e0 s0 =>
  bM (0≤e0.1∧e0.1<(s0.length:Int)) <|
  bM (e0.1.toNat<s0.length) <|
  some (.go (s0.set e0.1.toNat e0.2))
  ) (List.replicate n 0) k=some v:=by
 refine pF (wE (fun seen s=>s=(List.range n).map fun j:Nat=>if (j:Int)∈seen.map (fun i=>(m.getD i (0,0)).1) then ba 0 (j:Int) m else 0) (fun seen s i hi hnd hni hlt hI => ?_) (fun seen s hnd hall hlt hI => ?_) _ [] _ (by simp) (by simp) (by simp) ?_)
 ·have hm:m[i]∈m:=List.getElem_mem hi;have hg:m.getD i (0,0)=m[i]:=getD_at _ hi;generalize he:m[i]=e at hm hg ⊢;have hb:=hk e.1 (List.mem_map.2 ⟨e,hm,rfl⟩);have hlen:s.length=n:=by rw [hI];simp
  refine ⟨_,by rw [aG ⟨hb.1,by omega⟩,aG (by omega)],?_⟩;rw [hI];refine List.ext_getElem (by simp) fun j h1 h2 => ?_;have hj:j<n:=by simpa using h2
  rw [List.getElem_set];simp only [List.getElem_map,List.getElem_range,List.map_append,List.map_cons,List.map_nil,List.mem_append,List.mem_singleton,hg];by_cases ej:e.1.toNat=j
  ·have:(j:Int)=e.1:=by omega
   rw [if_pos ej,this,if_pos (.inr rfl),di hn hm]
  ·have:¬ (j:Int)=e.1:=by omega
   rw [if_neg ej];simp only [this,or_false]
 ·have:s=nU n m:=by
   rw [hI];unfold nU;refine List.map_congr_left fun j hj => ?_;by_cases h:(j:Int)∈m.map (·.1)
   ·rw [if_pos ((n9 hnd hall hlt _).2 h)]
   ·rw [if_neg (fun h2=>h ((n9 hnd hall hlt _).1 h2)),(eO.self hn).out h]
  rw [this];exact hv
 ·refine List.ext_getElem (by simp) fun j h1 h2=>by simp
def cg (r:Rw):Rw:=bif sy (mulR r.scale (cont r.q)).1 (mulR r.scale (cont r.q)).2 then ae.mk (aR (cont r.q) r.q) r.mults (mulR r.scale (cont r.q)).1 r.lost else ae.mk (aR (cont r.q) r.q) r.mults 1 true
def sP (n:Nat) (r:Rw):ah:=bif r.lost then ah.mk [] 0 else bif sy (mulR r.scale (cont r.q)).1 (mulR r.scale (cont r.q)).2 then ah.mk (nU n r.mults) (mulR r.scale (cont r.q)).1 else ah.mk [] 0
def sQ (q:Linear):Bool:=cont q==0 || !(q.Const.tmod (cont q)==0)
set_option maxHeartbeats 2000000 in
theorem step_eq {i:Nat} {n:Int} {rows:List Rw} {bs:List Bind} (hi:i<rows.length) (hl:rows.length≤1000000) {r:Rw} (er:rows.getD i br=r) (hr:kD rows.length r) :
 aV (i:Int) n rows bs=bif sQ r.q then some ((sP rows.length r,9),n,rows,bs) else
  bif (uf (aR (cont r.q) r.q).Terms).C==1||(uf (aR (cont r.q) r.q).Terms).C == -1 then
   (bw (i:Int) (uf (aR (cont r.q) r.q).Terms) n (rows.set i (cg r)) bs).bind fun y=>some ((ah.mk [] 0,y.1),n,y.2.1,y.2.2)
  else (bL (i:Int) (uf (aR (cont r.q) r.q).Terms) n (rows.set i (cg r)) bs).bind fun y=>some ((ah.mk [] 0,y.1),y.2.1,y.2.2.1,y.2.2.2):=by
 unfold aV sQ;rw [aG ⟨Int.natCast_nonneg _,by omega⟩,Int.toNat_natCast,aG hi];have er':rows.getD i ⟨⟨0,[]⟩,[],0,false⟩=r:=er;simp only [er',oX];rw [si hr.v];simp only [Option.bind_some,ll,dX];have hrefuse:(bif r.lost then some ((ah.mk [] 0,(9:Int)),n,rows,bs) else bif sy (mulR r.scale (cont r.q)).1 (mulR r.scale (cont r.q)).2 then
  bM (8*rows.length≤140737488355328) <|
  nY (σ:=(List Int)) (ε:=Empty) (β:=((ah×Int)×Int×(List ae)×(List Bind))) r.mults (fun e0 s0 =>
   bM (0≤e0.1∧e0.1<(s0.length:Int)) <|
   bM (e0.1.toNat<s0.length) <|
   some (.go (s0.set e0.1.toNat e0.2))
  ) (List.replicate rows.length 0) (fun s0 =>
   some (((ah.mk s0 (mulR r.scale (cont r.q)).1),9),n,rows,bs)
  ) else some ((ah.mk [] 0,(9:Int)),n,rows,bs))=some ((sP rows.length r,9),n,rows,bs):=by
  unfold sP;cases r.lost with
  | true=>rfl
  | false =>
   simp only [cond_false];cases sy (mulR r.scale (cont r.q)).1 (mulR r.scale (cont r.q)).2 with
   | false=>rfl
   | true =>
    simp only [cond_true];rw [aG (by omega)];exact FU hr.nd hr.ks _ _ rfl
 by_cases h0:cont r.q=0
 ·have e1:(((cont r.q:Nat):Int)==0)=true:=by simp [h0]
  have e2:(cont r.q==0)=true:=by simp [h0]
  rw [e1,e2];simp only [cond_true,Bool.true_or];exact hrefuse
 ·have e1:(((cont r.q:Nat):Int)==0)=false:=by simp [h0]
  have e2:(cont r.q==0)=false:=by simp [h0]
  rw [e1,e2];simp only [cond_false,Bool.false_or];rw [aG (by omega)];cases h1:r.q.Const.tmod (cont r.q)==0 with
  | false =>
   simp only [cond_false,Bool.not_false,cond_true];exact hrefuse
  | true =>
   simp only [cond_true,Bool.not_true,cond_false];have hC:=cz hr.v;have hlen:=bX hr.v;have hcl:=fB (ε:=List aq) (ρ:=Empty) (f:=fun s=>s) (fin:=fun i0 s0=>s0) (⟨[],0⟩:aq) r.q.Terms (fun u s=>gC.go (bif false then s else s++[aq.mk u.Var (u.C.tdiv (cont r.q))])) (fun j s=>s.length≤j)
    (body:=fun i0 s1 =>
    bM ((s1.length+1)*24≤140737488355328) <|
    some (.go (s1++[(aq.mk ((r.q.Terms.getD i0 ⟨[],0⟩).Var) (aL (((r.q.Terms.getD i0 ⟨[],0⟩).C).tdiv (cont r.q))))]))) (fun _ _=>rfl) [] (Nat.zero_le _) (fun j s hj hI=>by
     have hm:r.q.Terms.getD j ⟨[],0⟩∈r.q.Terms:=bb _ hj;have hb:=tdiv_le (g:=(cont r.q:Int)) (hC _ hm).1;refine ⟨?_,fun s' hs' => ?_⟩
     ·rw [aG (by omega),bn (by omega) (by omega)];rfl
     ·injection hs' with hs'
      subst hs';simp;omega)
   rw [p9 (fun _:aq=>false)] at hcl;have hfl:(r.q.Terms.filter fun _ => !false)=r.q.Terms:=List.filter_eq_self.2 fun _ _=>rfl;rw [hfl,List.nil_append] at hcl;refine (congrArg (fun o:Option (Out (List aq) Empty)=>Option.bind o _) hcl).trans ?_;simp only [Option.bind_some,dI];have hkc:=tdiv_le (g:=(cont r.q:Int)) (kh hr.v);rw [bn (n:=r.q.Const.tdiv (cont r.q)) (by omega) (by omega)];have hq:Linear.mk (r.q.Const.tdiv (cont r.q)) (r.q.Terms.map fun u=>aq.mk u.Var (u.C.tdiv (cont r.q)))=aR (cont r.q) r.q:=rfl;rw [hq];have hne:(aR (cont r.q) r.q).Terms≠[]:=by
    intro h;have:r.q.Terms=[]:=by simpa [aR] using h
    exact h0 ((kQ hr.v).2 this)
   simp only [rF (dn hr.v) hne,Option.bind_some,gn hi,List.set_set,List.length_set];unfold cg;cases sy (mulR r.scale (cont r.q)).1 (mulR r.scale (cont r.q)).2 with
   | true =>
    simp only [cond_true];rw [aG hi];cases (uf (aR (cont r.q) r.q).Terms).C==1 with
    | true=>rfl
    | false=>cases (uf (aR (cont r.q) r.q).Terms).C == -1<;>rfl
   | false =>
    simp only [cond_false];rw [aG hi,aG hi];cases (uf (aR (cont r.q) r.q).Terms).C==1 with
    | true=>rfl
    | false=>cases (uf (aR (cont r.q) r.q).Terms).C == -1<;>rfl
inductive Rs where
 | no
 | lim
 | ok (n:Nat) (qs:List Linear) (bs:List Bind)
abbrev bD:Linear:=⟨0,[]⟩
def oy (x:au) (by_:Linear) (i n:Nat) (qs:List Linear) (bs:List Bind):Rs :=
 bif pN x by_ i qs (bs.map (·.Dim)) then .ok n (qs.take i++(qs.drop i).map (pb x by_)) (bs.map (jY x by_)++[one x by_]) else .lim
def gf (i n:Nat) (qs:List Linear) (bs:List Bind):Rs :=
 bif sQ (qs.getD i bD) then .no else
 bif (uf (aR (cont (qs.getD i bD)) (qs.getD i bD)).Terms).C==1||(uf (aR (cont (qs.getD i bD)) (qs.getD i bD)).Terms).C == -1 then
  oy (uf (aR (cont (qs.getD i bD)) (qs.getD i bD)).Terms).Var (vz (uf (aR (cont (qs.getD i bD)) (qs.getD i bD)).Terms) (aR (cont (qs.getD i bD)) (qs.getD i bD))) i n (qs.set i (aR (cont (qs.getD i bD)) (qs.getD i bD))) bs
 else bif decide (n+1≥1000000000) then .lim else
  oy (uf (aR (cont (qs.getD i bD)) (qs.getD i bD)).Terms).Var (om (uf (aR (cont (qs.getD i bD)) (qs.getD i bD)).Terms) n (aR (cont (qs.getD i bD)) (qs.getD i bD))) i (n+1) (qs.set i (aR (cont (qs.getD i bD)) (qs.getD i bD))) bs
theorem fL {x:au} {by_ q:Linear} (hb:ax by_=true) (hv:ax q=true) (h:gN x by_ q=true) :
 ax (pb x by_ q)=true∧(∀ f,dx f (pb x by_ q)=dx f q+cf q x*(dx f by_-f x))∧∀ v,cf (pb x by_ q) v=cf q v+cf q x*(cf by_ v-ind v x):=by
 unfold gN at h;unfold pb;cases h0:cf q x==0 with
 | true =>
  have:cf q x=0:=by simpa using h0
  simp only [cond_true,this,Int.zero_mul,Int.add_zero];exact ⟨hv,fun _=>trivial,fun _=>trivial⟩
 | false =>
  rw [h0,Bool.false_or] at h;have h2:(Ch [one x by_] q).2=0:=by simpa using h
  simp only [cond_false];exact ⟨(yw h2 (fun _=>0)).2.1,fun f=>(yw h2 f).2.2,fun v=>JL h2 hb v⟩
def rX (n:Int) (q:Linear):Prop:=∀ t∈q.Terms,nG t.Var<n
theorem Cr {n:Int} {q:Linear} (h:rX n q) {v:au} (h0:cf q v≠0):nG v<n:=by obtain ⟨t,ht,e,_⟩:=qC (show mF v q.Terms≠0 from h0);rw [← e];exact h t ht
theorem C7 {n:Int} {x:au} {by_ q:Linear} (hb:ax by_=true) (hv:ax q=true) (h:gN x by_ q=true) (h1:rX n q) (h2:rX n by_):rX n (pb x by_ q):=by
 obtain ⟨a,_,c⟩:=fL hb hv h;intro t ht;have e:=kq (dp a) ht;have hz:=de a t ht;have e:cf (pb x by_ q) t.Var=t.C:=e;rw [c] at e;by_cases z1:cf q t.Var=0
 ·by_cases z2:cf by_ t.Var=0
  ·by_cases z3:t.Var=x
   ·subst z3;rw [z1,z2] at e;simp at e;omega
   ·have:ind t.Var x=0:=by unfold ind;rw [if_neg (fun e=>z3 e.symm)]
    rw [z1,z2,this] at e;simp at e;omega
  ·exact Cr h2 z2
 ·exact Cr h1 z1
theorem vC {n m:Int} {q:Linear} (h:rX n q) (hm:n≤m):rX m q:=fun t ht=>by have:=h t ht;omega
theorem gu {n:Int} {q:Linear} (h:rX n q):rX n (aR (cont q) q):=by intro t ht;obtain ⟨u,hu,rfl⟩:=List.mem_map.1 (show t∈q.Terms.map fun t=>aq.mk t.Var (t.C.tdiv (cont q)) from ht);exact h u hu
theorem C9 {n:Int} {t:aq} {q:Linear} (h:rX n q):rX n (vz t q):=by intro u hu;obtain ⟨x,hx,rfl⟩:=List.mem_map.1 (show u∈(q.Terms.filter fun u => !(u.Var==t.Var)).map fun u=>aq.mk u.Var (-t.C*u.C) from hu);exact h x (List.mem_filter.1 hx).1
theorem Dg {n:Nat} {t:aq} {q:Linear} (h1:1≤n) (h2:n<1000000000) (h:rX n q):rX ((n+1:Nat):Int) (om t n q):=by
 intro u hu;have hu:=(iL _).mem_iff.1 (show u∈zK (oJ t n q.Terms) from hu);unfold oJ at hu;rcases List.mem_cons.1 hu with rfl | hu
 ·show nG (cO n)<_;rw [(kV h1 h2).2];omega
 ·obtain ⟨x,hx,rfl⟩:=List.mem_map.1 hu;have:=h x (List.mem_filter.1 hx).1;show nG x.Var<_;omega
theorem tS {n:Nat} (h1:1≤n) (h2:n<1000000000) {q:Linear} (h:rX n q):∀ u∈q.Terms,u.Var≠cO n:=fun u hu e=>by have:=h u hu;rw [e,(kV h1 h2).2] at this;omega
structure gX (n:Nat) (qs:List Linear) (bs:List Bind):Prop where
 n1:1≤n
 n2:n<1000000000
 qv:∀ q∈qs,ax q=true∧rX n q
 bv:∀ b∈bs,ax b.Dim=true∧rX n b.Dim∧fg b.Var=true∧nG b.Var<n
structure qF (N:Int) (r:Rw):Prop where
 nd:(r.mults.map (·.1)).Nodup
 sc:r.scale≠0
 ks:∀ y∈r.mults.map (·.1),0≤y∧y<N
theorem qF.to {N:Int} {r:Rw} (h:qF N r) (hv:ax r.q=true):kD N r:=⟨hv,h.nd,h.sc,h.ks⟩
theorem kD.to {N:Int} {r:Rw} (h:kD N r):qF N r:=⟨h.nd,h.sc,h.ks⟩
theorem vi {q:Linear} (hv:ax q=true) (hc:cont q≠0):uf (aR (cont q) q).Terms∈(aR (cont q) q).Terms∧∀ t∈(aR (cont q) q).Terms,(uf (aR (cont q) q).Terms).C.natAbs≤t.C.natAbs:=by refine J7 fun h=>hc ((kQ hv).2 ?_);simpa [aR] using h
theorem jv {q:Linear} (h:sQ q=false):cont q≠0∧q.Const.tmod (cont q)=0:=by unfold sQ at h;simp only [Bool.or_eq_false_iff,Bool.not_eq_false'] at h;exact ⟨by simpa using h.1,by simpa using h.2⟩
theorem yz {x:au} {by_:Linear} {i n m:Nat} {qs:List Linear} {bs:List Bind} (h:gX n qs bs) (hnm:n≤m) (hm:m<1000000000) (hx:fg x=true) (hxf:nG x<m) (hb:rX m by_) {n':Nat} {qs':List Linear} {bs':List Bind} (e:oy x by_ i m qs bs = .ok n' qs' bs') :
 n'=m∧gX m qs' bs'∧qs'=qs.take i++(qs.drop i).map (pb x by_)∧bs'=bs.map (jY x by_)++[one x by_]∧ax by_=true∧(∀ b∈bs,gN x by_ b.Dim=true)∧∀ q∈qs.drop i,gN x by_ q=true:=by
 unfold oy at e;cases ho:pN x by_ i qs (bs.map (·.Dim)) with
 | false=>rw [ho] at e;cases e
 | true =>
  rw [ho] at e;injection e with e1 e2 e3
  unfold pN at ho;simp only [LB,LN,List.mem_map,forall_exists_index,and_imp,forall_apply_eq_imp_iff₂] at ho;obtain ⟨hv,hB,hQ⟩:=ho;refine ⟨e1.symm,⟨by have:=h.n1;omega,hm,fun q hq => ?_,fun b hb' => ?_⟩,e2.symm,e3.symm,hv,hB,hQ⟩
  ·rw [← e2] at hq;rcases List.mem_append.1 hq with hq | hq
   ·obtain ⟨a,c⟩:=h.qv q (List.mem_of_mem_take hq);exact ⟨a,vC c (by omega)⟩
   ·obtain ⟨q0,hq0,rfl⟩:=List.mem_map.1 hq;obtain ⟨a,c⟩:=h.qv q0 (List.mem_of_mem_drop hq0);exact ⟨(fL hv a (hQ q0 hq0)).1,C7 hv a (hQ q0 hq0) (vC c (by omega)) hb⟩
  ·rw [← e3] at hb';rcases List.mem_append.1 hb' with hb' | hb'
   ·obtain ⟨b0,hb0,rfl⟩:=List.mem_map.1 hb';obtain ⟨a,c,d,f⟩:=h.bv b0 hb0;exact ⟨(fL hv a (hB b0 hb0)).1,C7 hv a (hB b0 hb0) (vC c (by omega)) hb,d,by show nG b0.Var<_;omega⟩
   ·have:b=one x by_:=by simpa using hb'
    subst this;exact ⟨hv,hb,hx,hxf⟩
theorem xS {i n:Nat} {qs:List Linear} {bs:List Bind} (h:gX n qs bs) (hi:i<qs.length):gX n (qs.set i (aR (cont (qs.getD i bD)) (qs.getD i bD))) bs:=by
 obtain ⟨a,c⟩:=h.qv _ (bb bD hi);refine ⟨h.n1,h.n2,fun q hq => ?_,h.bv⟩;rcases List.mem_or_eq_of_mem_set hq with hq | rfl
 ·exact h.qv q hq
 ·exact ⟨dn a,gu c⟩
theorem xz (rows:List Rw) (i:Nat) (r:Rw):(rows.set i r).map (·.q)=(rows.map (·.q)).set i r.q:=by rw [List.map_set]
theorem jk (r:Rw):(cg r).q=aR (cont r.q) r.q:=by unfold cg;cases sy (mulR r.scale (cont r.q)).1 (mulR r.scale (cont r.q)).2<;>rfl
theorem uG {N:Int} {r:Rw} (h:kD N r) (hc:cont r.q≠0):kD N (cg r):=by
 refine ⟨by rw [jk];exact dn h.v,?_,?_,?_⟩<;>unfold cg<;>cases hs:sy (mulR r.scale (cont r.q)).1 (mulR r.scale (cont r.q)).2
 ·exact h.nd
 ·exact h.nd
 ·show (1:Int)≠0;omega
 ·show (mulR r.scale (cont r.q)).1≠0;unfold sy at hs;simp only [LB] at hs;have h2:(mulR r.scale (cont r.q)).2=0:=eq_of_beq hs.1;clear hs;unfold mulR at h2 ⊢;cases hj:jA r.scale&&(jA (cont r.q:Int)&&jA (r.scale*(cont r.q:Int))) with
  | false=>rw [hj] at h2;simp at h2
  | true=>exact Int.mul_ne_zero h.sc (by omega)
 ·exact h.ks
 ·exact h.ks
theorem IJ {x:au} {by_:Linear} {i m:Nat} {rows:List Rw} {bs:List Bind} (hx:fg x=true) (hk:Dw by_) (hi:i≤rows.length) (hl1:rows.length≤1000000) (hl2:bs.length≤2000000000)
 (hr:∀ r∈rows,kD rows.length r) (hb:∀ b∈bs,ax b.Dim=true) (nx:Int) :
 (oy x by_ i m (rows.map (·.q)) bs = .lim∧∃ r' b',aY x by_ (i:Int) nx rows bs=some (3,r',b')) ∨
 ∃ rows' bs',oy x by_ i m (rows.map (·.q)) bs = .ok m (rows'.map (·.q)) bs'∧aY x by_ (i:Int) nx rows bs=some (0,rows',bs')∧rows'.length=rows.length∧∀ r∈rows',qF rows.length r:=by
 rcases put_eq (nx:=nx) hx hk hi hl1 hl2 (fun r h=>(hr r h).v) hb with ⟨h1,h2⟩ | ⟨h1,h2⟩
 ·right;refine ⟨_,_,?_,h2,?_,fun r h => ?_⟩
  ·unfold oy;rw [h1,cond_true,List.map_append,List.map_map,← List.map_take,← List.map_drop,List.map_map];rfl
  ·simp;omega
  ·rcases List.mem_append.1 h with h | h
   ·exact (hr r (List.mem_of_mem_take h)).to
   ·obtain ⟨r0,hr0,rfl⟩:=List.mem_map.1 h;have:=hr r0 (List.mem_of_mem_drop hr0);exact ⟨this.nd,this.sc,this.ks⟩
 ·left;exact ⟨by unfold oy;rw [h1];rfl,h2⟩
theorem Is (t:aq) (p r:Rw):(gU t p r).q=r.q:=by
 unfold gU;cases cf r.q t.Var==0 with
 | true=>rfl
 | false=>exact Da r p _
theorem I8 {N:Int} {t:aq} {p r:Rw} (hp:kD N p) (hr:kD N r):kD N (gU t p r):=by
 unfold gU;cases cf r.q t.Var==0 with
 | true=>exact hr
 | false=>exact GC hr hp _
theorem lC (rows:List Rw) (i:Nat):(rows.map (·.q)).getD i bD=(rows.getD i br).q:=by rw [Lz,Lz,List.getElem?_map];cases rows[i]? <;> rfl
theorem JW {i n:Nat} {rows:List Rw} {bs:List Bind} (hi:i<rows.length) (hl1:rows.length≤1000000) (hl2:bs.length≤2000000000) (h:gX n (rows.map (·.q)) bs) (hr:∀ r∈rows,qF rows.length r) :
 (gf i n (rows.map (·.q)) bs = .no∧aV (i:Int) (n:Int) rows bs=some ((sP rows.length (rows.getD i br),9),(n:Int),rows,bs)) ∨
 (gf i n (rows.map (·.q)) bs = .lim∧∃ f n' r' b',aV (i:Int) (n:Int) rows bs=some ((f,3),n',r',b')) ∨
 ∃ m rows' bs',gf i n (rows.map (·.q)) bs = .ok m (rows'.map (·.q)) bs'∧aV (i:Int) (n:Int) rows bs=some ((ah.mk [] 0,0),(m:Int),rows',bs')∧rows'.length=rows.length∧∀ r∈rows',qF rows.length r:=by
 have hrw:∀ r∈rows,kD rows.length r:=fun r hm=>(hr r hm).to (h.qv r.q (List.mem_map.2 ⟨r,hm,rfl⟩)).1;have hri:=hrw _ (bb br hi);have hfi:rX n (rows.getD i br).q:=(h.qv _ (List.mem_map.2 ⟨_,bb br hi,rfl⟩)).2;rw [step_eq hi hl1 rfl hri];unfold gf;rw [lC];generalize hP:rows.getD i br=p at hri hfi ⊢;cases hno:sQ p.q with
 | true=>exact .inl ⟨rfl,rfl⟩
 | false =>
  obtain ⟨hc,hd⟩:=jv hno;simp only [cond_false];obtain ⟨tm,tmin⟩:=vi hri.v hc;have hnv:=dn hri.v;generalize hT:uf (aR (cont p.q) p.q).Terms=t at tm tmin ⊢;have hbd:∀ b∈bs,ax b.Dim=true:=fun b hb=>(h.bv b hb).1;have hrows1:∀ r∈rows.set i (cg p),kD rows.length r:=fun r hm=>by
   rcases List.mem_or_eq_of_mem_set hm with hm | rfl
   ·exact hrw r hm
   ·exact uG hri hc
  have hq1:(rows.map (·.q)).set i (aR (cont p.q) p.q)=(rows.set i (cg p)).map (·.q):=by rw [xz,jk]
  have hat:(rows.set i (cg p)).getD i br=cg p:=gn hi;have hi1:i<(rows.set i (cg p)).length:=by simpa using hi
  have hl:(rows.set i (cg p)).length=rows.length:=by simp
  obtain ⟨tb,tn⟩:=cz hnv t tm;cases hu:t.C==1||t.C == -1 with
  | true =>
   have ht:t.C=1∨t.C = -1:=by simp only [Bool.or_eq_true,beq_iff_eq] at hu;exact hu
   simp only [cond_true];rw [unit_eq hi1 (by rw [hl];exact hl1) (fun r hm=>by rw [hl];exact hrows1 r hm) ht,hat,jk,hq1];have hmq:((rows.set i (cg p)).take (i+1)++((rows.set i (cg p)).drop (i+1)).map (gU t (cg p))).map (·.q)=(rows.set i (cg p)).map (·.q):=by rw [List.map_append,List.map_map];have:((fun x:Rw=>x.q) ∘ gU t (cg p))=fun x=>x.q:=funext fun r=>Is t (cg p) r;rw [this,← List.map_append,List.take_append_drop]
   have hlq:((rows.set i (cg p)).take (i+1)++((rows.set i (cg p)).drop (i+1)).map (gU t (cg p))).length=rows.length:=by simp;omega
   have hrq:∀ r∈(rows.set i (cg p)).take (i+1)++((rows.set i (cg p)).drop (i+1)).map (gU t (cg p)),kD rows.length r:=fun r hm=>by
    rcases List.mem_append.1 hm with hm | hm
    ·exact hrows1 r (List.mem_of_mem_take hm)
    ·obtain ⟨r0,hr0,rfl⟩:=List.mem_map.1 hm;exact I8 (uG hri hc) (hrows1 r0 (List.mem_of_mem_drop hr0))
   have hpu:=IJ (i:=i) (m:=n) (nx:=(n:Int)) (bs:=bs) (rows:=(rows.set i (cg p)).take (i+1)++((rows.set i (cg p)).drop (i+1)).map (gU t (cg p))) tn (CN (t:=t) hnv) (by omega) (by omega) hl2 (fun r hm=>by rw [hlq];exact hrq r hm) hbd;rw [hmq,hlq] at hpu;rcases hpu with ⟨a,r',b',e⟩ | ⟨rows',bs',a,e,l,o⟩
   ·right;left;exact ⟨a,_,_,_,_,by rw [e];rfl⟩
   ·right;right;exact ⟨n,rows',bs',a,by rw [e];rfl,l,o⟩
  | false =>
   simp only [cond_false];have ht0:t.C≠0:=de hnv t tm;rw [xN hi1 (by rw [hat,jk];exact hnv) h.n1 h.n2 ht0 tb (by rw [hat,jk];exact tS h.n1 h.n2 (gu hfi)),hat,jk,hq1];cases hlim:decide (n+1≥1000000000) with
   | true=>exact .inr (.inl ⟨rfl,_,_,_,_,rfl⟩)
   | false =>
    simp only [cond_false];have hpu:=IJ (i:=i) (m:=n+1) (nx:=((n+1:Nat):Int)) (bs:=bs) (rows:=rows.set i (cg p)) tn (CM (t:=t) h.n1 h.n2 hnv) (by omega) (by omega) hl2 (fun r hm=>by rw [hl];exact hrows1 r hm) hbd;rw [hl] at hpu;rcases hpu with ⟨a,r',b',e⟩ | ⟨rows',bs',a,e,l,o⟩
    ·right;left;exact ⟨a,_,_,_,_,by rw [e];rfl⟩
    ·right;right;exact ⟨n+1,rows',bs',a,by rw [e];rfl,l,o⟩
theorem xH (f:au→Int) (x:au) (a:Int):∀ {ts:List aq},xp ts→cD f ((ts.filter fun u => !(u.Var==x)).map fun u=>aq.mk u.Var (a*u.C))=a*(cD f ts-mF x ts*f x)
 | [],_=>by simp [cD,mF]
 | t::ts,hn=>by
  unfold xp at hn;rw [List.map_cons,List.nodup_cons] at hn;have ih:=xH f x a (ts:=ts) hn.2;by_cases e:t.Var=x
  ·have h0:mF x ts=0:=jw (by rw [← e];exact hn.1);have e2:(!(t.Var==x))=false:=by simp [e]
   rw [List.filter_cons,e2];simp only [Bool.false_eq_true,if_false];rw [ih,h0];simp only [cD,mF,e,if_true,Int.zero_mul,Int.sub_zero];congr 1;omega
  ·have e2:(!(t.Var==x))=true:=by simp [e]
   rw [List.filter_cons,e2];simp only [if_true,List.map_cons,cD,mF,if_neg e];rw [ih,Int.mul_sub,Int.mul_sub,Int.mul_add,Int.mul_assoc];omega
theorem sk (f:au→Int) {t:aq} {q:Linear} (hq:ax q=true) (hm:t∈q.Terms):dx f (vz t q) = -t.C*(dx f q-t.C*f t.Var):=by have h1:=xH f t.Var (-t.C) (dp hq);have h2:mF t.Var q.Terms=t.C:=kq (dp hq) hm;show -t.C*q.Const+cD f ((q.Terms.filter fun u => !(u.Var==t.Var)).map fun u=>aq.mk u.Var (-t.C*u.C))=_;rw [h1,h2,← Int.mul_add];congr 1;unfold dx;omega
theorem Ap {t:aq} {q:Linear} (hq:ax q=true) (hm:t∈q.Terms) (ht:t.C=1∨t.C = -1) (hb:ax (vz t q)=true) (hc:gN t.Var (vz t q) q=true):pb t.Var (vz t q) q=⟨0,[]⟩:=by
 obtain ⟨a,b,_⟩:=fL hb hq hc;refine Ic a wO fun f => ?_;have h2:cf q t.Var=t.C:=kq (dp hq) hm;rw [b f,sk f hq hm,h2];have h0:dx f (⟨0,[]⟩:Linear)=0:=by simp [dx,cD]
 rw [h0];rcases ht with h | h<;>rw [h]<;>omega
theorem AB {a b:List aq} (h:a.Perm b) (ha:xp a) (v:au):mF v a=mF v b:=by have hb:xp b:=(h.map aq.Var).nodup_iff.1 ha;rw [← uS v ha,← uS v hb,x9 _ h]
theorem rv {p:aq→Bool} {g:Int→Int} {v:au}:∀ {ts:List aq},xp ts→∀ {u:aq},u∈ts→u.Var=v→mF v ((ts.filter p).map fun u=>aq.mk u.Var (g u.C))=if p u=true then g u.C else 0
 | [],_,u,h,_=>by simp at h
 | t::ts,hn,u,h,e=>by
  unfold xp at hn;rw [List.map_cons,List.nodup_cons] at hn;have hno:∀ (y:au),y ∉ ts.map aq.Var→mF y ((ts.filter p).map fun u=>aq.mk u.Var (g u.C))=0:=fun y hy=>jw (by
   rw [List.map_map];intro h;obtain ⟨z,hz,ez⟩:=List.mem_map.1 h;exact hy (List.mem_map.2 ⟨z,(List.mem_filter.1 hz).1,ez⟩))
  rcases List.mem_cons.1 h with rfl | h
  ·rw [List.filter_cons];cases hp:p u with
   | true=>simp only [if_true,List.map_cons,mF,if_pos e]
   | false =>
    simp only [Bool.false_eq_true,if_false];exact hno v (by rw [← e];exact hn.1)
  ·have hne:¬ t.Var=v:=fun e2=>hn.1 (by rw [e2,← e];exact List.mem_map.2 ⟨u,h,rfl⟩);rw [List.filter_cons];cases hp:p t with
   | true =>
    simp only [if_true,List.map_cons,mF,if_neg hne];exact rv hn.2 h e
   | false =>
    simp only [Bool.false_eq_true,if_false];exact rv hn.2 h e
theorem E7 {t u:aq} {n:Nat} {q:Linear} (hq:ax q=true) (hf:∀ u∈q.Terms,u.Var≠cO n) (hu:u∈q.Terms) (hne:u.Var≠t.Var):cf (om t n q) u.Var = -(gE u.C t.C):=by
 show mF u.Var (zK (oJ t n q.Terms))=_;have hnd:=uz (t:=t) (dp hq) hf;rw [AB (iL _) ((iL _).map aq.Var |>.nodup_iff.2 hnd)];unfold oJ;rw [mF,if_neg (fun e=>hf u hu e.symm)];rw [rv (p:=fun u => !(u.Var==t.Var||gE u.C t.C==0)) (g:=fun c => -(gE c t.C)) (dp hq) hu rfl];have e1:(u.Var==t.Var)=false:=by simpa using hne
 simp only [e1,Bool.false_or];cases h:gE u.C t.C==0 with
 | true =>
  have:gE u.C t.C=0:=by simpa using h
  simp [this]
 | false=>simp
theorem zt {q:Linear} (hv:ax q=true) (hc:cont q≠0) {d:Nat} (h:∀ t∈(aR (cont q) q).Terms,d ∣ t.C.natAbs):d=1:=by
 have h2:d*cont q ∣ cont q:=by
  refine xK q.Terms 0 (Nat.dvd_zero _) fun t ht => ?_;have:=h (aq.mk t.Var (t.C.tdiv (cont q))) (List.mem_map.2 ⟨t,ht,rfl⟩);have e:=Int.mul_tdiv_cancel' (mu t ht);have e2:t.C.natAbs=cont q*(t.C.tdiv (cont q)).natAbs:=by have:=congrArg Int.natAbs e;rw [Int.natAbs_mul,Int.natAbs_natCast] at this;exact this.symm
  rw [e2,Nat.mul_comm d];exact Nat.mul_dvd_mul_left _ this
 have h3:d*cont q≤1*cont q:=by rw [Nat.one_mul];exact Nat.le_of_dvd (by omega) h2
 have h4:d≤1:=Nat.le_of_mul_le_mul_right h3 (by omega);rcases Nat.eq_zero_or_pos d with h5 | h5
 ·subst h5;rw [Nat.zero_mul] at h2;exact absurd (Nat.eq_zero_of_zero_dvd h2) hc
 ·omega
theorem Ju {q:Linear} (hv:ax q=true) (hc:cont q≠0) {t:aq} (ht:t∈(aR (cont q) q).Terms) (h1:¬ (t.C=1∨t.C = -1)):∃ u∈(aR (cont q) q).Terms,u.C.tmod t.C≠0:=by
 refine Classical.byContradiction fun hn => ?_;have hall:∀ u∈(aR (cont q) q).Terms,t.C.natAbs ∣ u.C.natAbs:=fun u hu=>by have h0:u.C.tmod t.C=0:=Classical.byContradiction fun h=>hn ⟨u,hu,h⟩;have:=congrArg Int.natAbs h0;rw [Int.natAbs_tmod] at this;exact Nat.dvd_of_mod_eq_zero this
 have:=zt hv hc hall;omega
def Pm (k:Nat) (q:Linear):Prop:=∃ t∈q.Terms,t.C.natAbs≤k
theorem Hv {t:aq} {n:Nat} {q:Linear} (hv:ax q=true) (hc:cont q≠0) (hf:∀ u∈q.Terms,u.Var≠cO n) (ht:t∈(aR (cont q) q).Terms) (h1:¬ (t.C=1∨t.C = -1)) (hb:ax (om t n (aR (cont q) q))=true)
 (hcb:gN t.Var (om t n (aR (cont q) q)) (aR (cont q) q)=true):∃ u∈(pb t.Var (om t n (aR (cont q) q)) (aR (cont q) q)).Terms,u.C.natAbs<t.C.natAbs:=by
 have hnv:=dn hv;obtain ⟨a,_,c⟩:=fL hb hnv hcb;obtain ⟨u,hu,hr⟩:=Ju hv hc ht h1;have ht0:t.C≠0:=de hnv t ht;have hne:u.Var≠t.Var:=fun e=>by have e1:=kq (dp hnv) hu;have e2:=kq (dp hnv) ht;rw [e,e2] at e1;rw [← e1,Int.tmod_self] at hr;exact hr rfl
 have hf':∀ u∈(aR (cont q) q).Terms,u.Var≠cO n:=fun u hu=>by obtain ⟨z,hz,rfl⟩:=List.mem_map.1 (show u∈q.Terms.map fun t=>aq.mk t.Var (t.C.tdiv (cont q)) from hu);exact hf z hz
 have hcf:=c u.Var;have e1:cf (aR (cont q) q) u.Var=u.C:=kq (dp hnv) hu;have e2:cf (aR (cont q) q) t.Var=t.C:=kq (dp hnv) ht;have e3:ind u.Var t.Var=0:=if_neg fun e=>hne e.symm;rw [e1,e2,E7 hnv hf' hu hne,e3,Int.sub_zero,Int.mul_neg] at hcf;obtain ⟨d1,d2⟩:=FM (n:=u.C) ht0;have hnz:cf (pb t.Var (om t n (aR (cont q) q)) (aR (cont q) q)) u.Var≠0:=fun h=>hr (d2.1 (by omega));obtain ⟨w,hw,_,ew⟩:=qC (show mF u.Var (pb t.Var (om t n (aR (cont q) q)) (aR (cont q) q)).Terms≠0 from hnz);refine ⟨w,hw,?_⟩;have ew:w.C=cf (pb t.Var (om t n (aR (cont q) q)) (aR (cont q) q)) u.Var:=ew;rw [ew,hcf];have:u.C + -(t.C*gE u.C t.C)=u.C-t.C*gE u.C t.C:=by omega
 rw [this];exact d1
theorem xQ {α:Type} (d:α) (l:List α) (g:α→α) {i:Nat} (hi:i<l.length):(l.take i++(l.drop i).map g).getD i d=g (l.getD i d):=by
 rw [Lz,List.getElem?_append_right (by simp;omega),getD_at d hi];have:i-(l.take i).length=0:=by simp;omega
 rw [this,List.drop_eq_getElem_cons hi];rfl
theorem n5 {i n:Nat} {qs:List Linear} {bs:List Bind} (h:gX n qs bs) (hi:i<qs.length) {m:Nat} {qs':List Linear} {bs':List Bind} (e:gf i n qs bs = .ok m qs' bs') :
 gX m qs' bs'∧qs'.length=qs.length∧bs'.length=bs.length+1∧((m=n∧qs'.getD i bD=⟨0,[]⟩)∨(m=n+1∧∀ k,Pm (k+1) (qs.getD i bD)→Pm k (qs'.getD i bD))):=by
 obtain ⟨qv,qf⟩:=h.qv _ (bb bD hi);unfold gf at e;generalize hQ:qs.getD i bD=q at qv qf e ⊢;cases hno:sQ q with
 | true=>rw [hno] at e;cases e
 | false =>
  obtain ⟨hc,hd⟩:=jv hno;rw [hno] at e;simp only [cond_false] at e;have hnv:=dn qv;obtain ⟨tm,tmin⟩:=vi qv hc;generalize hT:uf (aR (cont q) q).Terms=t at tm tmin e;obtain ⟨tb,tn⟩:=cz hnv t tm;have hset:gX n (qs.set i (aR (cont q) q)) bs:=by have:=xS h hi;rwa [hQ] at this
  have htf:nG t.Var<n:=gu qf t tm;have hat:(qs.set i (aR (cont q) q)).getD i bD=aR (cont q) q:=gn hi;have hmem:aR (cont q) q∈(qs.set i (aR (cont q) q)).drop i:=by rw [List.drop_eq_getElem_cons (by simpa using hi)];simp
  cases hu:t.C==1||t.C == -1 with
  | true =>
   rw [hu] at e;simp only [cond_true] at e;have ht:t.C=1∨t.C = -1:=by simp only [Bool.or_eq_true,beq_iff_eq] at hu;exact hu
   obtain ⟨a1,a2,a3,a4,a5,a6,a7⟩:=yz hset (Nat.le_refl n) h.n2 tn htf (C9 (gu qf)) e;refine ⟨by rw [a1];exact a2,by rw [a3];simp;omega,by rw [a4];simp,.inl ⟨a1,?_⟩⟩;rw [a3,xQ bD _ _ (by simpa using hi),hat];exact Ap hnv tm ht a5 (a7 _ hmem)
  | false =>
   rw [hu] at e;simp only [cond_false] at e;have ht:¬ (t.C=1∨t.C = -1):=by simp only [Bool.or_eq_false_iff,beq_eq_false_iff_ne] at hu;exact fun h=>h.elim hu.1 hu.2
   cases hl:decide (n+1≥1000000000) with
   | true=>rw [hl] at e;cases e
   | false =>
    rw [hl] at e;simp only [cond_false] at e;have hl:=LD hl;obtain ⟨a1,a2,a3,a4,a5,a6,a7⟩:=yz hset (Nat.le_succ n) (by omega) tn (by omega) (Dg h.n1 h.n2 (gu qf)) e;refine ⟨by rw [a1];exact a2,by rw [a3];simp;omega,by rw [a4];simp,.inr ⟨a1,fun k hk => ?_⟩⟩;rw [a3,xQ bD _ _ (by simpa using hi),hat];obtain ⟨u,hu,hlt⟩:=Hv (n:=n) qv hc (tS h.n1 h.n2 qf) tm ht a5 (a7 _ hmem);obtain ⟨z,hz,hzk⟩:=hk;have h1:=tmin (aq.mk z.Var (z.C.tdiv (cont q))) (List.mem_map.2 ⟨z,hz,rfl⟩);have h2:=Int.natAbs_tdiv_le_natAbs z.C (cont q);simp only at h1;exact ⟨u,hu,by omega⟩
def dG (q:Linear):Bool:=q.Terms.isEmpty&&q.Const==0
theorem iW (q:Linear):dY q=some (dG q):=by unfold dY dG;rw [F5];cases q.Terms.isEmpty<;>rfl
theorem jF {q:Linear}:dG q=true↔q=⟨0,[]⟩:=by unfold dG;obtain ⟨c,ts⟩:=q;simp only [LB,List.isEmpty_iff,beq_iff_eq,Linear.mk.injEq];exact and_comm
def jz:Nat→Nat→Nat→List Linear→List Bind→Option Rs
 | 0,_,_,_,_=>none
 | f+1,i,n,qs,bs=>bif dG (qs.getD i bD) then some (.ok n qs bs) else
  match gf i n qs bs with
  | .ok m qs' bs'=>jz f i m qs' bs'
  | e=>some e
theorem A0:∀ (k N i n:Nat) (qs:List Linear) (bs:List Bind),gX n qs bs→i<qs.length→(Pm k (qs.getD i bD)∨(qs.getD i bD).Terms=[])→k+2≤N→∃ r,jz N i n qs bs=some r
 | k,N,i,n,qs,bs,h,hi,hP,hN=>by
  obtain ⟨N,rfl⟩:∃ j,N=j+1:=⟨N-1,by omega⟩;simp only [jz];cases hz:dG (qs.getD i bD) with
  | true=>exact ⟨_,rfl⟩
  | false =>
   simp only [cond_false];cases hs:gf i n qs bs with
   | no=>exact ⟨_,rfl⟩
   | lim=>exact ⟨_,rfl⟩
   | ok m qs' bs' =>
    simp only;obtain ⟨a1,a2,a3,a4⟩:=n5 h hi hs;rcases a4 with ⟨_,a4⟩ | ⟨_,a4⟩
    ·obtain ⟨N,rfl⟩:∃ j,N=j+1:=⟨N-1,by omega⟩;simp only [jz];rw [a4,show dG ⟨0,[]⟩=true from rfl];exact ⟨_,rfl⟩
    ·rcases hP with hP | hP
     ·cases k with
      | zero =>
       obtain ⟨t,ht,hk⟩:=hP;have:=de (h.qv _ (bb bD hi)).1 t ht;omega
      | succ k=>exact A0 k N i m qs' bs' a1 (by omega) (.inl (a4 k hP)) (by omega)
     ·exfalso;unfold gf sQ at hs;have h0:cont (qs.getD i bD)=0:=(kQ (h.qv _ (bb bD hi)).1).2 hP;rw [h0] at hs;simp at hs
theorem vo {N i n:Nat} {qs:List Linear} {bs:List Bind} (h:gX n qs bs) (hi:i<qs.length) (hN:1000002≤N):∃ r,jz N i n qs bs=some r:=by
 refine A0 1000000 N i n qs bs h hi ?_ hN;cases hT:(qs.getD i bD).Terms with
 | nil=>exact .inr rfl
 | cons t ts =>
  left;have:=(cz (h.qv _ (bb bD hi)).1 t (by rw [hT];simp)).1;exact ⟨t,by rw [hT];simp,by omega⟩
theorem qo:∀ (N i n c:Nat) (qs:List Linear) (bs:List Bind),gX n qs bs→i<qs.length→(bs.length≤n+c∨(dG (qs.getD i bD)=true∧bs.length≤n+c+1))→∀ (m:Nat) (qs':List Linear) (bs':List Bind),jz N i n qs bs=some (.ok m qs' bs') →
 gX m qs' bs'∧qs'.length=qs.length∧bs'.length≤m+c+1∧qs'.getD i bD=⟨0,[]⟩∧n≤m
 | 0,i,n,c,qs,bs,h,hi,hl,m,qs',bs',e=>by simp [jz] at e
 | N+1,i,n,c,qs,bs,h,hi,hl,m,qs',bs',e=>by
  simp only [jz] at e;cases hz:dG (qs.getD i bD) with
  | true =>
   rw [hz] at e;injection e with e
   injection e with e1 e2 e3
   subst e1;subst e2;subst e3;exact ⟨h,rfl,by rcases hl with hl | hl<;>omega,jF.1 hz,Nat.le_refl _⟩
  | false =>
   rw [hz] at e;simp only [cond_false] at e;have hl:bs.length≤n+c:=hl.resolve_right fun h2=>by rw [hz] at h2;cases h2.1
   cases hs:gf i n qs bs with
   | no=>rw [hs] at e;cases e
   | lim=>rw [hs] at e;cases e
   | ok m1 qs1 bs1 =>
    rw [hs] at e;simp only at e;obtain ⟨a1,a2,a3,a4⟩:=n5 h hi hs;have hb:bs1.length≤m1+c∨(dG (qs1.getD i bD)=true∧bs1.length≤m1+c+1):=by
     rcases a4 with ⟨e1,a4⟩ | ⟨e1,_⟩
     ·exact .inr ⟨jF.2 a4,by omega⟩
     ·exact .inl (by omega)
    obtain ⟨b1,b2,b3,b4,b5⟩:=qo N i m1 c qs1 bs1 a1 (by omega) hb m qs' bs' e;refine ⟨b1,by omega,b3,b4,?_⟩;rcases a4 with ⟨e1,_⟩ | ⟨e1,_⟩<;>omega
abbrev B4:=ah
abbrev B3:=List Bind×Int×B4×Int
noncomputable def xd (i:Nat) (s2:List Rw×List Bind×Int):Option (gC (List Rw×List Bind×Int) (List Rw×List Bind×Int) (gC (Int×List Rw×List Bind×Int) (List Rw×List Bind×Int) B3)) :=
 bM (0≤(i:Int)∧(i:Int)<(s2.1.length:Int)) <|
 bM ((i:Int).toNat<s2.1.length) <|
 (dY (Linear.mk (((s2.1.getD (i:Int).toNat (⟨⟨0,[]⟩,[],0,false⟩)).q).Const) (((s2.1.getD (i:Int).toNat (⟨⟨0,[]⟩,[],0,false⟩)).q).Terms))).bind fun y2 =>
 bif y2 then (
  some (.brk (s2.1,s2.2.1,s2.2.2))
 ) else (
  (aV (i:Int) s2.2.2 s2.1 s2.2.1).bind fun y3 =>
  bif (y3.1.2==0) then (
   some (.go (y3.2.2.1,y3.2.2.2,y3.2.1))
  ) else (
   some (.ret (.ret ([],0,y3.1.1,y3.1.2)))
  )
 )
theorem I7:∀ (N i n c:Nat) (rows:List Rw) (bs:List Bind),i<rows.length→rows.length≤6000→gX n (rows.map (·.q)) bs→(∀ r∈rows,qF rows.length r)→c≤6000→(bs.length≤n+c∨(dG ((rows.map (·.q)).getD i bD)=true∧bs.length≤n+c+1)) →
 (∀ (m:Nat) (qs':List Linear) (bs':List Bind),jz N i n (rows.map (·.q)) bs=some (.ok m qs' bs')→∃ rows',rows'.map (·.q)=qs'∧rows'.length=rows.length∧(∀ r∈rows',qF rows.length r)∧kz (xd i) N (rows,bs,(n:Int))=some (.brk (rows',bs',(m:Int)))) ∧
 (jz N i n (rows.map (·.q)) bs=some .no→∃ f,kz (xd i) N (rows,bs,(n:Int))=some (.ret (.ret ([],0,f,9)))) ∧
 (jz N i n (rows.map (·.q)) bs=some .lim→∃ f,kz (xd i) N (rows,bs,(n:Int))=some (.ret (.ret ([],0,f,3))))
 | 0,i,n,c,rows,bs,hi,hl,h,hr,hc,hb=>by simp [jz]
 | N+1,i,n,c,rows,bs,hi,hl,h,hr,hc,hb=>by
  have hn:=h.n2;simp only [jz,kz,xd];rw [aG ⟨by omega,by omega⟩,Int.toNat_natCast,aG hi,oX,iW,lC];simp only [Option.bind_some];cases hz:dG (rows.getD i br).q with
  | true =>
   refine ⟨fun m qs' bs' e => ?_,fun e=>(by injection e with e;cases e),fun e=>(by injection e with e;cases e)⟩;injection e with e
   injection e with e1 e2 e3
   subst e1;subst e3;exact ⟨rows,e2,rfl,hr,rfl⟩
  | false =>
   simp only [cond_false];have hb':bs.length≤n+c:=hb.resolve_right fun h2=>by rw [lC,hz] at h2;cases h2.1
   rcases JW hi (by omega) (by omega) h hr with ⟨e1,e2⟩ | ⟨e1,f,n',r',b',e2⟩ | ⟨m1,rows1,bs1,e1,e2,l1,o1⟩
   ·rw [e1,e2];exact ⟨fun m qs' bs' e=>(by injection e with e;cases e),fun _=>⟨_,rfl⟩,fun e=>(by injection e with e;cases e)⟩
   ·rw [e1,e2];exact ⟨fun m qs' bs' e=>(by injection e with e;cases e),fun e=>(by injection e with e;cases e),fun _=>⟨_,rfl⟩⟩
   ·rw [e1,e2];simp only [Option.bind_some];have hq:i<(rows.map (·.q)).length:=by simpa using hi
    obtain ⟨a1,a2,a3,a4⟩:=n5 h hq e1;have hb1:bs1.length≤m1+c∨(dG ((rows1.map (·.q)).getD i bD)=true∧bs1.length≤m1+c+1):=by
     rcases a4 with ⟨e1,a4⟩ | ⟨e1,_⟩
     ·exact .inr ⟨jF.2 a4,by omega⟩
     ·exact .inl (by omega)
    have ih:=I7 N i m1 c rows1 bs1 (by omega) (by omega) a1 (fun r hm=>by rw [l1];exact o1 r hm) hc hb1;rw [l1] at ih;exact ih
theorem FY {v:au}:∀ {bs:List Bind},(∀ b∈bs,b.Kind=1)→(∃ b∈bs,b.Var=v)→0≤idxOf (pH 1 v) bs
 | [],_,h=>by obtain ⟨b,hb,_⟩:=h;simp at hb
 | b::bs,hk,h=>by have h2:=qB (pH 1 v) (b::bs);refine Int.not_lt.1 fun hn => ?_;have:=h2.1 hn;obtain ⟨b',hb',e⟩:=h;rw [List.any_eq_false] at this;refine this b' hb' ?_;simp [pH,hk b' hb',e]
theorem G1 {bs:List Bind} (hk:∀ b∈bs,b.Kind=1) (hd:(bs.map Bind.Var).Nodup) {b:Bind} (hb:b∈bs) (f:au→Int):sv bs f b.Var=dx f b.Dim:=by
 have h0:=FY hk ⟨b,hb,rfl⟩;obtain ⟨h1,h2⟩:=td (pH 1 b.Var) Bl bs h0;unfold sv;rw [LG (by omega),cond_false];have hm:bs.getD (idxOf (pH 1 b.Var) bs).toNat Bl∈bs:=bb _ h1;generalize bs.getD (idxOf (pH 1 b.Var) bs).toNat Bl=b' at h2 hm;simp only [pH,LB,beq_iff_eq] at h2;have:b'=b:=by
  obtain ⟨i,hi,rfl⟩:=List.getElem_of_mem hm;obtain ⟨j,hj,rfl⟩:=List.getElem_of_mem hb;have hp:=List.pairwise_iff_getElem.1 (show (bs.map Bind.Var).Pairwise (· ≠ ·) from hd);rcases Nat.lt_trichotomy i j with h | h | h
  ·exact absurd (by rw [List.getElem_map,List.getElem_map];exact h2.2) (hp i j (by simpa using hi) (by simpa using hj) h)
  ·subst h;rfl
  ·exact absurd (by rw [List.getElem_map,List.getElem_map];exact h2.2.symm) (hp j i (by simpa using hj) (by simpa using hi) h)
 rw [this]
theorem BD {bs:List Bind} {v:au} (h:v ∉ bs.map Bind.Var) (f:au→Int):sv bs f v=f v:=by
 unfold sv;have:idxOf (pH 1 v) bs<0:=(qB (pH 1 v) bs).2 (List.any_eq_false.2 fun b hb=>by simp only [pH,LB,beq_iff_eq,not_and];intro _ e;exact h (List.mem_map.2 ⟨b,hb,e⟩))
 rw [LH this,cond_true]
theorem CW {x:au} {by_ q:Linear} (hb:ax by_=true) (hv:ax q=true) (h:gN x by_ q=true) (f:au→Int):dx f (pb x by_ q)=dx (upd f x (dx f by_)) q:=by rw [(fL hb hv h).2.1 f,kH f x _ (dp hv)]
theorem Jy {x:au} {by_:Linear} {bs:List Bind} (hk:∀ b∈bs,b.Kind=1) (hd:(bs.map Bind.Var).Nodup) (hx:x ∉ bs.map Bind.Var) (hb:ax by_=true) (hv:∀ b∈bs,ax b.Dim=true) (hc:∀ b∈bs,gN x by_ b.Dim=true) (f:au→Int) :
 (∀ b∈bs.map (jY x by_)++[one x by_],b.Kind=1)∧((bs.map (jY x by_)++[one x by_]).map Bind.Var).Nodup∧sv (bs.map (jY x by_)++[one x by_]) f=sv bs (upd f x (dx f by_)):=by
 have hvars:(bs.map (jY x by_)).map Bind.Var=bs.map Bind.Var:=by rw [List.map_map];rfl
 have h1:∀ b∈bs.map (jY x by_)++[one x by_],b.Kind=1:=fun b hb=>by
  rcases List.mem_append.1 hb with hb | hb
  ·obtain ⟨b0,hb0,rfl⟩:=List.mem_map.1 hb;exact hk b0 hb0
  ·have:b=one x by_:=by simpa using hb
   rw [this];rfl
 have h2:((bs.map (jY x by_)++[one x by_]).map Bind.Var).Nodup:=by
  rw [List.map_append,hvars,List.nodup_append];exact ⟨hd,by simp,fun a ha b hb=>by
   have:b=x:=by simpa [one] using hb
   rw [this];rintro rfl;exact hx ha⟩
 refine ⟨h1,h2,funext fun v => ?_⟩;by_cases hvb:v∈bs.map Bind.Var
 ·obtain ⟨b,hb0,rfl⟩:=List.mem_map.1 hvb;rw [G1 hk hd hb0];have hm:jY x by_ b∈bs.map (jY x by_)++[one x by_]:=List.mem_append.2 (.inl (List.mem_map.2 ⟨b,hb0,rfl⟩));have:=G1 h1 h2 hm f;rw [show (jY x by_ b).Var=b.Var from rfl] at this;rw [this];exact CW hb (hv b hb0) (hc b hb0) f
 ·rw [BD hvb];by_cases e:v=x
  ·subst e;have hm:one v by_∈bs.map (jY v by_)++[one v by_]:=by simp
   have:=G1 h1 h2 hm f;rw [show (one v by_).Var=v from rfl] at this;rw [this,Bb];rfl
  ·rw [bA e];refine BD ?_ f;rw [List.map_append,hvars];simp only [List.mem_append,List.map_cons,List.map_nil,List.mem_singleton,not_or];exact ⟨hvb,e⟩
structure Inv (l:List Linear) (i:Nat) (qs:List Linear) (bs:List Bind):Prop where
 len:qs.length=l.length
 A:∀ j,j<i→∀ f,dx (sv bs f) (l.getD j bD)=0
 B:∀ j,i≤j→j<l.length→∃ k:Int,k≠0∧∀ f,dx (sv bs f) (l.getD j bD)=k*dx f (qs.getD j bD)
 C1:∀ b∈bs,∀ q∈qs.drop i,cf q b.Var=0
 C2:∀ b∈bs,∀ b'∈bs,cf b'.Dim b.Var=0
 D:(bs.map Bind.Var).Nodup
 K:∀ b∈bs,b.Kind=1
theorem Dz {l:List Linear} {i n m:Nat} {qs:List Linear} {bs:List Bind} {x:au} {by_:Linear} (h:gX n qs bs) (hI:Inv l i qs bs) (hi:i<qs.length) (hnm:n≤m) (hm:m<1000000000) (hx:fg x=true) (hxf:nG x<m) (hb:rX m by_)
 (hxi:cf (qs.getD i bD) x≠0) (hbx:cf by_ x=0) (hbb:∀ b∈bs,cf by_ b.Var=0) {n':Nat} {qs':List Linear} {bs':List Bind} (e:oy x by_ i m qs bs = .ok n' qs' bs'):Inv l i qs' bs':=by
 obtain ⟨_,_,a3,a4,a5,a6,a7⟩:=yz h hnm hm hx hxf hb e;have hmi:qs.getD i bD∈qs.drop i:=by rw [getD_at bD hi,List.drop_eq_getElem_cons hi];exact List.mem_cons_self ..
 have hxn:x ∉ bs.map Bind.Var:=fun hc=>by obtain ⟨b,hb,eb⟩:=List.mem_map.1 hc;have:=hI.C1 b hb _ hmi;rw [eb] at this;exact hxi this
 have hbv:∀ b∈bs,ax b.Dim=true:=fun b hb=>(h.bv b hb).1;have hsv:=fun f=>Jy hI.K hI.D hxn a5 hbv a6 f;have hq':∀ j,i≤j→j<qs.length→qs'.getD j bD=pb x by_ (qs.getD j bD)∧qs.getD j bD∈qs.drop i:=fun j h1 h2=>by
  constructor
  ·rw [a3,Lz,List.getElem?_append_right (by simp;omega),List.getElem?_map,List.getElem?_drop,getD_at bD h2];have:i+(j-(qs.take i).length)=j:=by simp;omega
   rw [this,LA h2];rfl
  ·rw [getD_at bD h2];refine List.mem_iff_getElem?.2 ⟨j-i,?_⟩;rw [List.getElem?_drop,show i+(j-i)=j by omega,LA h2]
 have hqv:∀ q∈qs.drop i,ax q=true:=fun q hq=>(h.qv q (List.mem_of_mem_drop hq)).1;have key:∀ q,ax q=true→gN x by_ q=true→(∀ b∈bs,cf q b.Var=0)→∀ b∈bs',cf (pb x by_ q) b.Var=0:=fun q hv hc hz b hb=>by
  rw [(fL a5 hv hc).2.2];rw [a4] at hb;rcases List.mem_append.1 hb with hb | hb
  ·obtain ⟨b0,hb0,rfl⟩:=List.mem_map.1 hb;have hne:ind b0.Var x=0:=if_neg fun e=>hxn (by rw [e];exact List.mem_map.2 ⟨b0,hb0,rfl⟩);show cf q b0.Var+cf q x*(cf by_ b0.Var-ind b0.Var x)=0;rw [hz b0 hb0,hbb b0 hb0,hne];simp
  ·have:b=one x by_:=by simpa using hb
   subst this;show cf q x+cf q x*(cf by_ x-ind x x)=0;rw [hbx,show ind x x=1 from if_pos rfl];omega
 refine ⟨?_,fun j hj f => ?_,fun j h1 h2 => ?_,fun b hb q hq => ?_,fun b hb b' hb' => ?_,by rw [a4];exact (hsv fun _=>0).2.1,by rw [a4];exact (hsv fun _=>0).1⟩
 ·rw [a3,← hI.len];simp;omega
 ·rw [a4,(hsv f).2.2];exact hI.A j hj _
 ·obtain ⟨k,hk,hB⟩:=hI.B j h1 h2;refine ⟨k,hk,fun f => ?_⟩;obtain ⟨e1,e2⟩:=hq' j h1 (by rw [hI.len];exact h2);rw [a4,(hsv f).2.2,hB,e1,CW a5 (hqv _ e2) (a7 _ e2) f]
 ·rw [a3,List.drop_append_of_le_length (by simp;omega)] at hq;have hq:q∈(qs.drop i).map (pb x by_):=by rw [List.drop_of_length_le (by simp;omega)] at hq;simpa using hq
  obtain ⟨q0,hq0,rfl⟩:=List.mem_map.1 hq;exact key q0 (hqv q0 hq0) (a7 q0 hq0) (fun b hb=>hI.C1 b hb q0 hq0) b hb
 ·rw [a4] at hb';rcases List.mem_append.1 hb' with hb' | hb'
  ·obtain ⟨b0,hb0,rfl⟩:=List.mem_map.1 hb';exact key b0.Dim (hbv b0 hb0) (a6 b0 hb0) (fun b hb=>hI.C2 b hb b0 hb0) b hb
  ·have:b'=one x by_:=by simpa using hb'
   subst this;rw [a4] at hb;rcases List.mem_append.1 hb with hb | hb
   ·obtain ⟨b0,hb0,rfl⟩:=List.mem_map.1 hb;exact hbb b0 hb0
   ·have:b=one x by_:=by simpa using hb
    subst this;exact hbx
theorem wI (f:au→Int) {q:Linear} (hd:q.Const.tmod (cont q)=0):dx f q=(cont q:Int)*dx f (aR (cont q) q):=by
 have h1:(cont q:Int)*q.Const.tdiv (cont q)=q.Const:=by have:=Int.mul_tdiv_add_tmod q.Const (cont q);omega
 have h2:∀ ts:List aq,(∀ t∈ts,((cont q:Nat):Int) ∣ t.C)→cD f ts=(cont q:Int)*cD f (ts.map fun t=>aq.mk t.Var (t.C.tdiv (cont q))):=by
  intro ts;induction ts with
  | nil=>intro _;simp [cD]
  | cons t ts ih =>
   intro h;simp only [cD,List.map_cons];rw [ih fun u hu=>h u (by simp [hu]),Int.mul_add,← Int.mul_assoc,Int.mul_tdiv_cancel' (h t (by simp))]
 show q.Const+cD f q.Terms=(cont q:Int)*(q.Const.tdiv (cont q)+cD f (q.Terms.map fun t=>aq.mk t.Var (t.C.tdiv (cont q))));rw [Int.mul_add,h1,← h2 q.Terms mu]
theorem tM {q:Linear} (hv:ax q=true) {v:au} (h:cf q v=0):v ∉ q.Terms.map aq.Var:=fun hm=>by obtain ⟨t,ht,rfl⟩:=List.mem_map.1 hm;have e:cf q t.Var=t.C:=kq (dp hv) ht;exact de hv t ht (by omega)
theorem xU (q:Linear):(aR (cont q) q).Terms.map aq.Var=q.Terms.map aq.Var:=by show (q.Terms.map fun t=>aq.mk t.Var (t.C.tdiv (cont q))).map aq.Var=_;rw [List.map_map];rfl
theorem E8 {t:aq} {q:Linear} {v:au} (h:v=t.Var∨v ∉ q.Terms.map aq.Var):cf (vz t q) v=0:=by
 refine jw fun hm => ?_;obtain ⟨u,hu,e⟩:=List.mem_map.1 hm;obtain ⟨z,hz,rfl⟩:=List.mem_map.1 (show u∈(q.Terms.filter fun u => !(u.Var==t.Var)).map fun u=>aq.mk u.Var (-t.C*u.C) from hu);obtain ⟨h1,h2⟩:=List.mem_filter.1 hz;have e:z.Var=v:=e;rcases h with h | h
 ·rw [e,h] at h2;simp at h2
 ·exact h (List.mem_map.2 ⟨z,h1,e⟩)
theorem yv {t:aq} {n:Nat} {q:Linear} {v:au} (hn:v≠cO n) (h:v=t.Var∨v ∉ q.Terms.map aq.Var):cf (om t n q) v=0:=by
 refine jw fun hm => ?_;obtain ⟨u,hu,e⟩:=List.mem_map.1 hm;have hu:=(iL _).mem_iff.1 (show u∈zK (oJ t n q.Terms) from hu);unfold oJ at hu;rcases List.mem_cons.1 hu with rfl | hu
 ·exact hn e.symm
 ·obtain ⟨z,hz,rfl⟩:=List.mem_map.1 hu;obtain ⟨h1,h2⟩:=List.mem_filter.1 hz;have e:z.Var=v:=e;rcases h with h | h
  ·rw [e,h] at h2;simp at h2
  ·exact h (List.mem_map.2 ⟨z,h1,e⟩)
theorem yN {α:Type} {l:List α} {i:Nat} {x y:α} (h:y∈(l.set i x).drop i):y=x∨y∈l.drop (i+1):=by
 by_cases hi:i<l.length
 ·rw [List.drop_eq_getElem_cons (by simpa using hi),List.drop_set_of_lt (by omega)] at h;rcases List.mem_cons.1 h with h | h
  ·left;rw [h,List.getElem_set_self]
  ·exact .inr h
 ·rw [List.drop_of_length_le (by simp;omega)] at h;simp at h
theorem qZ {α:Type} {l:List α} {i:Nat} {y:α} (h:y∈l.drop (i+1)):y∈l.drop i:=by rw [show i+1=i+1 from rfl,← List.drop_drop] at h;exact List.mem_of_mem_drop h
theorem Ff {l:List Linear} {i n:Nat} {qs:List Linear} {bs:List Bind} (h:gX n qs bs) (hI:Inv l i qs bs) (hi:i<qs.length) (hno:sQ (qs.getD i bD)=false):Inv l i (qs.set i (aR (cont (qs.getD i bD)) (qs.getD i bD))) bs:=by
 obtain ⟨hc,hd⟩:=jv hno;have hv:=(h.qv _ (bb bD hi)).1;refine ⟨by simpa using hI.len,hI.A,fun j h1 h2 => ?_,fun b hb q hq => ?_,hI.C2,hI.D,hI.K⟩
 ·obtain ⟨k,hk,hB⟩:=hI.B j h1 h2;by_cases e:j=i
  ·subst e;refine ⟨k*cont (qs.getD j bD),Int.mul_ne_zero hk (by omega),fun f => ?_⟩;rw [gn hi,hB f,wI f hd,Int.mul_assoc]
  ·refine ⟨k,hk,fun f => ?_⟩;rw [hB f];congr 2;rw [Lz,Lz,List.getElem?_set_ne (fun e2=>e e2.symm)]
 ·rcases yN hq with rfl | hq
  ·refine jw ?_;rw [xU];refine tM hv (hI.C1 b hb _ ?_);rw [getD_at bD hi,List.drop_eq_getElem_cons hi];exact List.mem_cons_self ..
  ·exact hI.C1 b hb q (qZ hq)
theorem E1 {l:List Linear} {i n:Nat} {qs:List Linear} {bs:List Bind} (h:gX n qs bs) (hI:Inv l i qs bs) (hi:i<qs.length) {m:Nat} {qs':List Linear} {bs':List Bind} (e:gf i n qs bs = .ok m qs' bs'):Inv l i qs' bs':=by
 obtain ⟨qv,qf⟩:=h.qv _ (bb bD hi);have hset:=xS h hi;have hN:=fun hno=>Ff h hI hi hno;have hmi:qs.getD i bD∈qs.drop i:=by rw [getD_at bD hi,List.drop_eq_getElem_cons hi];exact List.mem_cons_self ..
 have hC:=fun b hb=>tM qv (hI.C1 b hb _ hmi);unfold gf at e;generalize hQ:qs.getD i bD=q at qv qf e hset hN hC;cases hno:sQ q with
 | true=>rw [hno] at e;cases e
 | false =>
  obtain ⟨hc,hd⟩:=jv hno;have hN:=hN hno;rw [hno] at e;simp only [cond_false] at e;have hnv:=dn qv;obtain ⟨tm,_⟩:=vi qv hc;generalize hT:uf (aR (cont q) q).Terms=t at tm e;obtain ⟨tb,tn⟩:=cz hnv t tm;have htf:nG t.Var<n:=gu qf t tm;have hat:(qs.set i (aR (cont q) q)).getD i bD=aR (cont q) q:=gn hi;have hi':i<(qs.set i (aR (cont q) q)).length:=by simpa using hi
  have hxi:cf ((qs.set i (aR (cont q) q)).getD i bD) t.Var≠0:=by rw [hat,show cf (aR (cont q) q) t.Var=t.C from kq (dp hnv) tm];exact de hnv t tm
  have hbv:∀ b∈bs,b.Var ∉ (aR (cont q) q).Terms.map aq.Var:=fun b hb=>by rw [xU];exact hC b hb
  cases hu:t.C==1||t.C == -1 with
  | true =>
   rw [hu] at e;exact Dz hset hN hi' (Nat.le_refl n) h.n2 tn htf (C9 (gu qf)) hxi (E8 (.inl rfl)) (fun b hb=>E8 (.inr (hbv b hb))) e
  | false =>
   rw [hu] at e;simp only [cond_false] at e;cases hl:decide (n+1≥1000000000) with
   | true=>rw [hl] at e;cases e
   | false =>
    rw [hl] at e;have hl:=LD hl;have hfn:=kV h.n1 h.n2;refine Dz hset hN hi' (Nat.le_succ n) (by omega) tn (by omega) (Dg h.n1 h.n2 (gu qf)) hxi (yv (fun e => ?_) (.inl rfl)) (fun b hb=>yv (fun e => ?_) (.inr (hbv b hb))) e
    ·rw [e,hfn.2] at htf;omega
    ·have:=(h.bv b hb).2.2.2;rw [e,hfn.2] at this;omega
theorem A6 {l:List Linear}:∀ (N i n:Nat) (qs:List Linear) (bs:List Bind),gX n qs bs→Inv l i qs bs→i<qs.length→∀ (m:Nat) (qs':List Linear) (bs':List Bind),jz N i n qs bs=some (.ok m qs' bs')→Inv l i qs' bs'
 | 0,i,n,qs,bs,h,hI,hi,m,qs',bs',e=>by simp [jz] at e
 | N+1,i,n,qs,bs,h,hI,hi,m,qs',bs',e=>by
  simp only [jz] at e;cases hz:dG (qs.getD i bD) with
  | true =>
   rw [hz] at e;injection e with e
   injection e with e1 e2 e3
   subst e2;subst e3;exact hI
  | false =>
   rw [hz] at e;simp only [cond_false] at e;cases hs:gf i n qs bs with
   | no=>rw [hs] at e;cases e
   | lim=>rw [hs] at e;cases e
   | ok m1 qs1 bs1 =>
    rw [hs] at e;obtain ⟨a1,a2,_,_⟩:=n5 h hi hs;exact A6 N i m1 qs1 bs1 a1 (E1 h hI hi hs) (by omega) m qs' bs' e
theorem Fb {l:List Linear} {i:Nat} {qs:List Linear} {bs:List Bind} (hI:Inv l i qs bs) (hi:i<l.length) (h0:qs.getD i bD=⟨0,[]⟩):Inv l (i+1) qs bs:=by
 refine ⟨hI.len,fun j hj f => ?_,fun j h1 h2=>hI.B j (by omega) h2,fun b hb q hq=>hI.C1 b hb q (qZ hq),hI.C2,hI.D,hI.K⟩;by_cases e:j=i
 ·subst e;obtain ⟨k,_,hB⟩:=hI.B j (Nat.le_refl _) hi;rw [hB f,h0];simp [dx,cD]
 ·exact hI.A j (by omega) f
theorem EB (l:List Linear):Inv l 0 l [] :=
 ⟨rfl,fun j hj=>absurd hj (Nat.not_lt_zero _),fun j _ _=>⟨1,by omega,fun f=>by rw [Int.one_mul];have:sv [] f=f:=funext fun v=>BD (by simp) f;rw [this]⟩,fun b hb=>by simp at hb,fun b hb=>by simp at hb,by simp,fun b hb=>by simp at hb⟩
def kG:Nat→Nat→Nat→List Linear→List Bind→Option Rs
 | 0,_,n,qs,bs=>some (.ok n qs bs)
 | k+1,i,n,qs,bs=>match jz 4294967296 i n qs bs with
  | some (.ok m qs' bs')=>kG k (i+1) m qs' bs'
  | e=>e
theorem DS {l:List Linear}:∀ (k i n:Nat) (qs:List Linear) (bs:List Bind),i+k=l.length→gX n qs bs→Inv l i qs bs→bs.length≤n+i→∀ (m:Nat) (qs':List Linear) (bs':List Bind),kG k i n qs bs=some (.ok m qs' bs') →
 gX m qs' bs'∧Inv l l.length qs' bs'∧n≤m∧bs'.length≤m+l.length
 | 0,i,n,qs,bs,hk,h,hI,hb,m,qs',bs',e=>by
  simp only [kG] at e;injection e with e
  injection e with e1 e2 e3
  subst e1;subst e2;subst e3;have:i=l.length:=by omega
  subst this;exact ⟨h,hI,Nat.le_refl _,hb⟩
 | k+1,i,n,qs,bs,hk,h,hI,hb,m,qs',bs',e=>by
  simp only [kG] at e;have hi:i<qs.length:=by rw [hI.len];omega
  cases hr:jz 4294967296 i n qs bs with
  | none=>rw [hr] at e;cases e
  | some r =>
   cases r with
   | no=>rw [hr] at e;cases e
   | lim=>rw [hr] at e;cases e
   | ok m1 qs1 bs1 =>
    rw [hr] at e;simp only at e;obtain ⟨a1,a2,a3,a4,a5⟩:=qo 4294967296 i n i qs bs h hi (.inl hb) m1 qs1 bs1 hr;have hI1:=Fb (A6 4294967296 i n qs bs h hI hi m1 qs1 bs1 hr) (by omega) a4;obtain ⟨b1,b2,b3,b4⟩:=DS k (i+1) m1 qs1 bs1 (by omega) a1 hI1 (by omega) m qs' bs' e;exact ⟨b1,b2,by omega,b4⟩
theorem s9:∀ (k i n:Nat) (qs:List Linear) (bs:List Bind),i+k=qs.length→gX n qs bs→bs.length≤n+i→∃ r,kG k i n qs bs=some r
 | 0,i,n,qs,bs,_,_,_=>⟨_,rfl⟩
 | k+1,i,n,qs,bs,hk,h,hb=>by
  simp only [kG];obtain ⟨r,hr⟩:=vo (N:=4294967296) h (show i<qs.length by omega) (by omega);rw [hr];cases r with
  | no=>exact ⟨_,rfl⟩
  | lim=>exact ⟨_,rfl⟩
  | ok m1 qs1 bs1 =>
   simp only;obtain ⟨a1,a2,a3,a4,a5⟩:=qo 4294967296 i n i qs bs h (by omega) (.inl hb) m1 qs1 bs1 hr;exact s9 k (i+1) m1 qs1 bs1 (by omega) a1 (by omega)
noncomputable def w5 (N:Nat) (s1:Int×List Rw×List Bind×Int):Option (gC (Int×List Rw×List Bind×Int) (List Rw×List Bind×Int) B3) :=
 bif decide (s1.1<((N:Nat):Int)) then (
  (kz (σ:=((List ae)×(List Bind)×Int)) (ε:=((List ae)×(List Bind)×Int)) (ρ:=(gC (Int×(List ae)×(List Bind)×Int) ((List ae)×(List Bind)×Int) ((List Bind)×Int×ah×Int))) (fun s2 =>
   bM (0≤s1.1∧s1.1<(s2.1.length:Int)) <|
   bM (s1.1.toNat<s2.1.length) <|
   (dY (Linear.mk (((s2.1.getD s1.1.toNat (⟨⟨0,[]⟩,[],0,false⟩)).q).Const) (((s2.1.getD s1.1.toNat (⟨⟨0,[]⟩,[],0,false⟩)).q).Terms))).bind fun y2 =>
   bif y2 then (
    some (.brk (s2.1,s2.2.1,s2.2.2))
   ) else (
    (aV s1.1 s2.2.2 s2.1 s2.2.1).bind fun y3 =>
    bif (y3.1.2==0) then (
     some (.go (y3.2.2.1,y3.2.2.2,y3.2.1))
    ) else (
     some (.ret (.ret ([],0,y3.1.1,y3.1.2)))
    )
   )
  ) 4294967296 (s1.2.1,s1.2.2.1,s1.2.2.2)).bind <| Sh.aft fun u1 =>
  some (.go ((aL (s1.1+1)),u1.1,u1.2.1,u1.2.2))
 ) else (
  some (.brk (s1.2.1,s1.2.2.1,s1.2.2.2))
 )
theorem yt {N i:Nat} (hi:i<N) (rows:List Rw) (bs:List Bind) (n:Int):w5 N ((i:Int),rows,bs,n)=(kz (xd i) 4294967296 (rows,bs,n)).bind (Sh.aft fun u1=>some (.go ((aL ((i:Int)+1)),u1.1,u1.2.1,u1.2.2))):=by unfold w5;rw [LH (show (i:Int)<(N:Int) by omega),cond_true];rfl
theorem IG {L:Nat} (hL:L≤6000):∀ (k i N n:Nat) (rows:List Rw) (bs:List Bind),i+k=L→k<N→rows.length=L→gX n (rows.map (·.q)) bs→(∀ r∈rows,qF L r)→bs.length≤n+i →
 (∀ (m:Nat) (qs':List Linear) (bs':List Bind),kG k i n (rows.map (·.q)) bs=some (.ok m qs' bs')→∃ rows',kz (w5 L) N ((i:Int),rows,bs,(n:Int))=some (.brk (rows',bs',(m:Int)))) ∧
 (kG k i n (rows.map (·.q)) bs=some .no→∃ f,kz (w5 L) N ((i:Int),rows,bs,(n:Int))=some (.ret ([],0,f,9))) ∧
 (kG k i n (rows.map (·.q)) bs=some .lim→∃ f,kz (w5 L) N ((i:Int),rows,bs,(n:Int))=some (.ret ([],0,f,3)))
 | 0,i,N,n,rows,bs,hk,hN,hl,h,hr,hb=>by
  obtain ⟨N,rfl⟩:∃ j,N=j+1:=⟨N-1,by omega⟩;simp only [kG,kz];have e0:w5 L ((i:Int),rows,bs,(n:Int))=some (.brk (rows,bs,(n:Int))):=by unfold w5;rw [LG (show ¬ (i:Int)<(L:Int) by omega)];rfl
  rw [e0];refine ⟨fun m qs' bs' e => ?_,fun e=>(by injection e with e;cases e),fun e=>(by injection e with e;cases e)⟩;injection e with e
  injection e with e1 e2 e3
  subst e1;subst e3;exact ⟨rows,rfl⟩
 | k+1,i,N,n,rows,bs,hk,hN,hl,h,hr,hb=>by
  obtain ⟨N,rfl⟩:∃ j,N=j+1:=⟨N-1,by omega⟩;have hi:i<rows.length:=by omega
  have hiq:i<(rows.map (·.q)).length:=by simpa using hi
  simp only [kG,kz];rw [yt (show i<L by omega)];obtain ⟨r1,r2,r3⟩:=I7 4294967296 i n i rows bs hi (by omega) h (fun r hm=>by rw [hl];exact hr r hm) (by omega) (.inl hb);obtain ⟨r,e⟩:=vo (N:=4294967296) h hiq (by omega);rw [e];cases r with
  | no =>
   obtain ⟨f,e2⟩:=r2 e;rw [e2];exact ⟨fun m qs' bs' e=>(by injection e with e;cases e),fun _=>⟨f,rfl⟩,fun e=>(by injection e with e;cases e)⟩
  | lim =>
   obtain ⟨f,e2⟩:=r3 e;rw [e2];exact ⟨fun m qs' bs' e=>(by injection e with e;cases e),fun e=>(by injection e with e;cases e),fun _=>⟨f,rfl⟩⟩
  | ok m1 qs1 bs1 =>
   obtain ⟨rows1,q1,l1,o1,e2⟩:=r1 m1 qs1 bs1 e;obtain ⟨a1,a2,a3,a4,a5⟩:=qo 4294967296 i n i (rows.map (·.q)) bs h hiq (.inl hb) m1 qs1 bs1 e;rw [e2];simp only [Option.bind_some,Sh.aft,zg];have e3:aL ((i:Int)+1)=((i+1:Nat):Int):=by rw [bn (by omega) (by omega)];omega
   rw [e3,← q1];rw [← q1] at a1;exact IG hL k (i+1) N m1 rows1 bs1 (by omega) (by omega) (by omega) a1 (fun r hm=>by rw [← hl];exact o1 r hm) (by omega)
theorem rb {p q:Nat→Bool} {n:Nat} (h:∀ t,t<n→p t=q t):∀ (f lo hi:Nat),hi≤n→Lib.bsGo p f lo hi=Lib.bsGo q f lo hi
 | 0,lo,hi,_=>rfl
 | f+1,lo,hi,hn=>by
  unfold Lib.bsGo;by_cases hl:lo<hi
  ·rw [if_pos hl,if_pos hl,h _ (by omega),rb h f _ hi hn,rb h f lo _ (by omega)]
  ·rw [if_neg hl,if_neg hl]
theorem Ef {xs:List au} (hs:xs.Pairwise (fun a b=>Op.bytesLess a b=true)) (x:au):∃ k,pK xs x=k∧k≤xs.length∧(∀ t,t<k→Op.bytesLess (xs.getD t []) x=true)∧∀ t,k≤t→t<xs.length→Op.bytesLess (xs.getD t []) x=false:=by
 have hk:∃ k,k≤xs.length∧(∀ t,t<k→Op.bytesLess (xs.getD t []) x=true)∧∀ t,k≤t→t<xs.length→Op.bytesLess (xs.getD t []) x=false:=by
  induction xs with
  | nil=>exact ⟨0,by simp,fun t h=>by omega,fun t _ h=>by simp at h⟩
  | cons y ys ih =>
   have h':=List.pairwise_cons.1 hs;by_cases hy:Op.bytesLess y x=true
   ·obtain ⟨k,a,b,c⟩:=ih h'.2;refine ⟨k+1,by simp;omega,fun t ht => ?_,fun t h1 h2 => ?_⟩
    ·cases t with
     | zero=>exact hy
     | succ t=>exact b t (by omega)
    ·cases t with
     | zero=>omega
     | succ t=>exact c t (by omega) (by simpa using h2)
   ·refine ⟨0,by simp,fun t h=>by omega,fun t _ h2 => ?_⟩;cases t with
    | zero=>exact Bool.eq_false_iff.2 hy
    | succ t =>
     rw [Bool.eq_false_iff];intro hc;have hm:ys.getD t []∈ys:=bb _ (by simpa using h2);exact hy (gv _ _ _ (h'.1 _ hm) hc)
 obtain ⟨k,a,b,c⟩:=hk;refine ⟨k,?_,a,b,c⟩;unfold pK;rw [rb (q:=fun t=>decide (t<xs.length)&&Op.bytesLess (xs.getD t []) x) (n:=xs.length) (fun t ht=>by simp [ht]) _ _ _ (Nat.le_refl _)];refine Lib.bsGo_spec _ k (fun t ht=>by simp only [LB,decide_eq_true_eq];exact ⟨by omega,b t ht⟩) (fun t ht => ?_) _ _ _ (by omega) (Nat.zero_le _) a;by_cases h:t<xs.length
 ·simp only [h,decide_true,Bool.true_and];exact c t ht h
 ·simp only [h,decide_false,Bool.false_and]
theorem Jk {xs:List au} (hs:xs.Pairwise (fun a b=>Op.bytesLess a b=true)) (x:au):(decide (pK xs x<xs.length)&&(xs.getD (pK xs x) []==x))=decide (x∈xs):=by
 obtain ⟨k,e,a,b,c⟩:=Ef hs x;rw [e,Bool.eq_iff_iff];simp only [LB,decide_eq_true_eq,beq_iff_eq];constructor
 ·rintro ⟨h1,h2⟩;rw [← h2];exact bb _ h1
 ·intro hm;obtain ⟨j,hj,ej⟩:=List.getElem_of_mem hm;have hjx:xs.getD j []=x:=by rw [getD_at [] hj];exact ej
  have h1:¬ j<k:=fun h=>by have:=b j h;rw [hjx,gF] at this;cases this
  have hkl:k<xs.length:=by omega
  refine ⟨hkl,?_⟩;rcases sZ (xs.getD k []) x with h | h | h
  ·rw [c k (Nat.le_refl _) hkl] at h;cases h
  ·exact h
  ·exfalso;by_cases e2:j=k
   ·subst e2;rw [hjx,gF] at h;cases h
   ·have hp:=List.pairwise_iff_getElem.1 hs k j hkl hj (by omega);rw [ej] at hp;rw [getD_at [] hkl] at h;have:=gv _ _ _ h hp;rw [gF] at this;cases this
theorem vU {xs:List au} (hs:xs.Pairwise (fun a b=>Op.bytesLess a b=true)) (hl:xs.length≤1000000) (x:au):∃ i,fE xs x=some (i,decide (x∈xs)):=by unfold fE;rw [aG (by omega),Jk hs];exact ⟨_,rfl⟩
def cU (l:List Linear) (j:Nat):List Rw:=(List.range j).map fun i=>ae.mk (l.getD i bD) [((i:Int),1)] 1 false
theorem C0 (l:List Linear):(cU l l.length).map (·.q)=l:=by unfold cU;rw [List.map_map];refine List.ext_getElem (by simp) fun i h1 h2 => ?_;simp only [List.getElem_map,List.getElem_range,Function.comp];exact getD_at bD h2
theorem vt (l:List Linear):∀ r∈cU l l.length,qF (l.length:Nat) r:=by
 intro r hr;obtain ⟨i,hi,rfl⟩:=List.mem_map.1 hr;have hi:i<l.length:=by simpa using hi
 exact ⟨by simp,by show (1:Int)≠0;omega,fun y hy=>by
  have:y=(i:Int):=by simpa using hy
  omega⟩
def JT (l:List Linear) (bs:List Bind):List Bind:=iJ (fun x y=>iT x.Var y.Var) (bs.filter fun b=>decide (b.Var∈dA l))
end Go.Proofs.YtlhcekghjfjajaaGreatDoor
