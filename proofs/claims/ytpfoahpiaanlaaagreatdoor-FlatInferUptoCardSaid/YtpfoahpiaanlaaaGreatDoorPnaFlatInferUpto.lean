/- Plain laws: what the walked functions compute answers as the statement says. -/
import Derived.Test.YtpfoahpiaanlaaaGreatDoorWkdFlatInferUpto
import Derived.Lib.ItoaNum
import Derived.Lib.ItoaMem
import Derived.Lib.AtoiAll
import Derived.Lib.AtoiAllCases
import Derived.Lib.ItoaLen
import Derived.Lib.SlTrimSet
import Derived.KernelRfl
set_option linter.unusedSimpArgs false
set_option linter.unusedVariables false
namespace Go.Sh
open Go.Ab
section
variable {α σ ε ρ:Type}
theorem cO {body:Nat→Unit→Option (kr Unit ε ρ)} {fin:Nat→Unit→ε} {r:ρ} (p:Nat→Bool):∀ (k i:Nat) (u:Unit),(∀ j u,i≤j→j<i+k→body j u=some (bif p j then .go () else .ret r)) →
 bR body fin k i u=some (bif (List.range' i k).all p then .brk (fin (i+k) ()) else .ret r)
 | 0,i,u,h=>by simp [bR]
 | k+1,i,u,h=>by
  simp only [bR,h i u (Nat.le_refl _) (by omega),List.range'_succ,List.all_cons];cases hp:p i with
  | true =>
   simp only [cond_true,S6,CZ,Bool.true_and];rw [cO p k (i+1) () (fun j u h1 h2=>h j u (by omega) (by omega))];rw [show i+1+k=i+(k+1) by omega]
  | false=>simp [CZ]
theorem DB {body:Nat→Unit→Option (kr Unit ε ρ)} {fin:Nat→Unit→ε} {f:Nat→ρ} (p:Nat→Bool):∀ (k i:Nat) (u:Unit),(∀ j u,i≤j→j<i+k→body j u=some (bif p j then .ret (f j) else .go ())) →
 bR body fin k i u=some (match (List.range' i k).find? p with | some j=>.ret (f j) | none=>.brk (fin (i+k) ()))
 | 0,i,u,h=>by simp [bR]
 | k+1,i,u,h=>by
  simp only [bR,h i u (Nat.le_refl _) (by omega),List.range'_succ,List.find?_cons];cases hp:p i with
  | false =>
   simp only [cond_false,S6,CZ];rw [DB p k (i+1) () (fun j u h1 h2=>h j u (by omega) (by omega))];rw [show i+1+k=i+(k+1) by omega]
  | true=>simp [CZ]
theorem J3 {body:Nat→σ→Option (kr σ ε ρ)} {fin:Nat→σ→ε} (g:Nat→σ→σ) (I:Nat→σ→Prop):∀ (k i:Nat) (s:σ),I i s→(∀ j s,i≤j→j<i+k→I j s→body j s=some (.go (g j s))∧I (j+1) (g j s)) →
 ∃ s',bR body fin k i s=some (.brk (fin (i+k) s'))∧s'=(List.range' i k).foldl (fun s j=>g j s) s∧I (i+k) s'
 | 0,i,s,hI,h=>⟨s,by simp [bR],by simp,hI⟩
 | k+1,i,s,hI,h=>by
  obtain ⟨h1,h2⟩:=h i s (Nat.le_refl _) (by omega) hI;obtain ⟨s',e1,e2,e3⟩:=J3 g I k (i+1) (g i s) h2 (fun j s h1 h2=>h j s (by omega) (by omega));refine ⟨s',?_,?_,by rw [show i+(k+1)=i+1+k by omega];exact e3⟩
  ·simp only [bR,h1,S6,CZ];rw [e1,show i+1+k=i+(k+1) by omega]
  ·rw [e2,List.range'_succ];rfl
theorem j1 (q:α→Bool) (d:α) (l:List α):∀ (i:Nat),(List.range' i (l.length-i)).all (fun j=>q (l.getD j d))=(l.drop i).all q:=by
 intro i;by_cases h:i<l.length
 ·obtain ⟨k,hk⟩:∃ k,l.length-i=k+1:=⟨l.length-i-1,by omega⟩;have ih:=j1 q d l (i+1);rw [hk,List.range'_succ,List.all_cons,List.drop_eq_getElem_cons h,List.all_cons];rw [show l.length-(i+1)=k by omega] at ih;rw [ih];simp [SW,SX h]
 ·rw [show l.length-i=0 by omega,List.drop_eq_nil_of_le (by omega)];rfl
 termination_by i=>l.length-i
theorem Dj (q:α→Bool) (d:α) (l:List α):(List.range' 0 (l.length-0)).all (fun j=>q (l.getD j d))=l.all q:=by have:=j1 q d l 0;simpa using this
theorem ze {β:Type} (g:β→α→β) (d:α) (l:List α):∀ (i:Nat) (s:β),(List.range' i (l.length-i)).foldl (fun s j=>g s (l.getD j d)) s=(l.drop i).foldl g s:=by
 intro i s;by_cases h:i<l.length
 ·obtain ⟨k,hk⟩:∃ k,l.length-i=k+1:=⟨l.length-i-1,by omega⟩;have ih:=ze g d l (i+1) (g s (l.getD i d));rw [hk,List.range'_succ,List.foldl_cons,List.drop_eq_getElem_cons h,List.foldl_cons];rw [show l.length-(i+1)=k by omega] at ih;rw [ih];simp [SW,SX h]
 ·rw [show l.length-i=0 by omega,List.drop_eq_nil_of_le (by omega)];rfl
 termination_by i=>l.length-i
def idxOf (p:α→Bool):List α→Int
 | []=>-1
 | x::l=>bif p x then 0 else (let r:=idxOf p l;bif r == -1 then -1 else r+1)
theorem D1 (p:α→Bool):∀ l:List α,-1≤idxOf p l
 | []=>by simp [idxOf]
 | x::l=>by
  have:=D1 p l;simp only [idxOf];cases p x
  ·cases h:idxOf p l == -1
   ·simp;omega
   ·simp
  ·simp
theorem A3 (p:α→Bool):∀ l:List α,(idxOf p l<0)↔l.any p=false
 | []=>by simp [idxOf]
 | x::l=>by
  have h1:=D1 p l;have h2:=A3 p l;simp only [idxOf,List.any_cons];cases hp:p x
  ·cases h:idxOf p l == -1
   ·have:idxOf p l ≠ -1:=by simpa using h
    simp only [cond_false,Bool.false_or];rw [← h2];omega
   ·have:idxOf p l = -1:=by simpa using h
    simp only [cond_false,cond_true,Bool.false_or];rw [← h2];omega
  ·simp
theorem Iv (p:α→Bool) (d:α) (l:List α):∀ (i:Nat),(match (List.range' i (l.length-i)).find? (fun j=>p (l.getD j d)) with | some j=>((j:Nat):Int) | none=>-1)=(bif idxOf p (l.drop i) == -1 then -1 else idxOf p (l.drop i)+i):=by
 intro i;by_cases h:i<l.length
 ·obtain ⟨k,hk⟩:∃ k,l.length-i=k+1:=⟨l.length-i-1,by omega⟩;have ih:=Iv p d l (i+1);rw [hk,List.range'_succ,List.find?_cons,List.drop_eq_getElem_cons h];rw [show l.length-(i+1)=k by omega] at ih;have e:l.getD i d=l[i]:=by simp [SW,SX h]
  rw [e];simp only [idxOf];cases hp:p l[i]
  ·simp only [cond_false];rw [ih];cases hq:idxOf p (l.drop (i+1)) == -1
   ·have h3:idxOf p (l.drop (i+1)) ≠ -1:=by simpa using hq
    have h4:=D1 p (l.drop (i+1));simp only [cond_false];have:((idxOf p (l.drop (i+1))+1) == -1)=false:=by simp;omega
    rw [this];simp only [cond_false];omega
   ·simp
  ·simp
 ·rw [show l.length-i=0 by omega,List.drop_eq_nil_of_le (by omega)];rfl
 termination_by i=>l.length-i
theorem F2 (p:α→Bool) (d:α) (l:List α):(match (List.range' 0 (l.length-0)).find? (fun j=>p (l.getD j d)) with | some j=>((j:Nat):Int) | none=>-1)=idxOf p l:=by
 rw [Iv p d l 0];simp only [List.drop_zero];cases h:idxOf p l == -1
 ·simp
 ·have:idxOf p l = -1:=by simpa using h
  simp [this]
end
def bS (b:UInt8):Bool:=decide (48≤b.toNat)&&decide (b.toNat≤57)
def o3 (acc:Nat) (l:aj):Nat:=l.foldl (fun a c=>a*10+(c.toNat-48)) acc
theorem MS (acc:Nat) (l:aj) (c:UInt8):o3 acc (l++[c])=o3 acc l*10+(c.toNat-48):=by simp [o3]
theorem Gm:∀ (l:aj) (acc:Nat),l.all bS=true→(acc+1)*10 ^ l.length≤10 ^ 18→Lib.parseUint10 acc l = .ok (o3 acc l)
 | [],acc,_,_=>rfl
 | c::l,acc,h,hb=>by
  simp only [List.all_cons,SY,bS,decide_eq_true_eq] at h;obtain ⟨⟨h1,h2⟩,h3⟩:=h;have hp:1≤10 ^ l.length:=Nat.one_le_pow _ _ (by decide);have hb2:(acc*10+10)*10 ^ l.length≤10 ^ 18:=by
   have:(acc+1)*10 ^ (l.length+1)=(acc*10+10)*10 ^ l.length:=by rw [Nat.pow_succ];rw [show (acc*10+10)=(acc+1)*10 by omega,Nat.mul_assoc,Nat.mul_comm 10]
   rw [← this];simpa using hb
  have hb3:acc*10+10≤10 ^ 18:=Nat.le_trans (Nat.le_mul_of_pos_right _ hp) hb2;have e18:(10:Nat) ^ 18=1000000000000000000:=by decide
  rw [e18] at hb3;simp only [Lib.parseUint10];rw [if_pos ⟨h1,h2⟩,if_neg (by omega),if_neg (by omega)];rw [Gm l _ (by simpa [bS] using h3) (Nat.le_trans (Nat.mul_le_mul_right _ (by omega)) hb2)];rfl
theorem Iq {c:UInt8} (h:bS c=true):UInt8.ofNat (48+(c.toNat-48))=c:=by simp only [bS,SY,decide_eq_true_eq] at h;rw [show 48+(c.toNat-48)=c.toNat by omega];exact UInt8.ofNat_toNat
theorem OE {α:Type} {P:List α→Prop} (h0:P []) (h1:∀ l c,P l→P (l++[c])) (l:List α):P l:=by
 have:∀ m:List α,P m.reverse:=by
  intro m;induction m with
  | nil=>exact h0
  | cons c m ih=>simpa using h1 _ c ih
 simpa using this l.reverse
theorem Pq (l:aj):l.all bS=true→l≠[]→l.head? ≠ some 48→1≤o3 0 l∧Lib.decDigits (o3 0 l)=l:=by
 refine OE (P:=fun l=>l.all bS=true→l≠[]→l.head? ≠ some 48→1≤o3 0 l∧Lib.decDigits (o3 0 l)=l) ?_ ?_ l
 ·intro _ h;exact absurd rfl h
 ·intro l c ih h _ hh;rw [List.all_append,SY] at h;have hc:bS c=true:=by simpa using h.2
  have hc':=hc;simp only [bS,SY,decide_eq_true_eq] at hc';rw [MS];by_cases hl:l=[]
  ·subst hl;have hne:c≠48:=by simpa using hh
   have:c.toNat≠48:=fun e=>hne (by rw [← UInt8.toNat_inj];simpa using e);simp only [o3,List.foldl_nil,Nat.zero_mul,Nat.zero_add,List.nil_append];refine ⟨by omega,?_⟩;rw [Lib.decDigits_one (by omega),Iq hc]
  ·have hh2:l.head? ≠ some 48:=by
    cases l with
    | nil=>exact absurd rfl hl
    | cons x l=>simpa using hh
   obtain ⟨i1,i2⟩:=ih h.1 hl hh2;refine ⟨by omega,?_⟩;rw [Lib.decDigits,dif_neg (by omega),show (o3 0 l*10+(c.toNat-48)) / 10=o3 0 l by omega,i2,show (o3 0 l*10+(c.toNat-48)) % 10=c.toNat-48 by omega,Iq hc]
theorem G6 (u:Nat):(Lib.decDigits u).all bS=true∧(1≤u→(Lib.decDigits u).head? ≠ some 48)∧Lib.decDigits u≠[]:=by
 have key:∀ i,i<10→bS (UInt8.ofNat (48+i))=true:=by decide
 have key2:∀ i,i<10→1≤i→UInt8.ofNat (48+i)≠48:=by decide
 by_cases h:u<10
 ·rw [Lib.decDigits_one h];exact ⟨by simp only [List.all_cons,List.all_nil,Bool.and_true];exact key u h,fun h1=>by simpa using key2 u h h1,by simp⟩
 ·have ih:=G6 (u / 10);rw [Lib.decDigits,dif_neg h];refine ⟨by rw [List.all_append,ih.1];simp only [List.all_cons,List.all_nil,Bool.and_true,Bool.true_and];exact key (u % 10) (by omega),fun _=>?_,by simp⟩;have:=ih.2.1 (by omega);cases hd:Lib.decDigits (u / 10) with
  | nil=>exact absurd hd ih.2.2
  | cons x l=>rw [hd] at this;simpa using this
 termination_by u
 decreasing_by omega
end Go.Sh
namespace Go.Proofs.YtpfoahpiaanlaaaGreatDoor
open Go.Ab Go.Sh
theorem aE {α:Type} {p:Prop} [Decidable p] {x:Option α} (h:p):bo p x=x:=if_pos h
theorem iP {ε β:Type} {b:Bool} {e:ε} {r:β} {f:ε→Option β}:(some (bif b then Out.brk e else Out.ret r:Out ε β)).bind (aft f)=bif b then f e else some r:=by cases b<;>rfl
theorem all_congr {p q:Nat→Bool}:∀ (k i:Nat),(∀ j,i≤j→j<i+k→p j=q j)→(List.range' i k).all p=(List.range' i k).all q
 | 0,i,_=>rfl
 | k+1,i,h=>by rw [List.range'_succ,List.all_cons,List.all_cons,h i (Nat.le_refl _) (by omega),all_congr k (i+1) (fun j h1 h2=>h j (by omega) (by omega))]
theorem O1 (c k:UInt8) (n:Int) (hk:(k.toNat:Int)=n):((c.toNat:Int)==n)=(c==k):=by rw [Bool.eq_iff_iff];simp only [beq_iff_eq,← UInt8.toNat_inj];omega
def isLet (b:UInt8):Bool:=decide (97≤b.toNat)&&decide (b.toNat≤122)
theorem wG (x:UInt8):n9 x=some (bS x):=by
 unfold n9 bS;by_cases h:48≤x.toNat
 ·rw [S5 (show (x.toNat:Int)≥48 by omega),S5 h];simp only [cond_true,Bool.true_and,S9];rw [decide_eq_decide];omega
 ·rw [S4 (show ¬ (x.toNat:Int)≥48 by omega),S4 h];rfl
theorem CT (x:UInt8):pL x=some (isLet x):=by
 unfold pL isLet;by_cases h:97≤x.toNat
 ·rw [S5 (show (x.toNat:Int)≥97 by omega),S5 h];simp only [cond_true,Bool.true_and,S9];rw [decide_eq_decide];omega
 ·rw [S4 (show ¬ (x.toNat:Int)≥97 by omega),S4 h];rfl
def tt:aj→Bool
 | []=>false
 | c::r=>bif c==95 then (decide (1≤r.length)&&(decide (r.length≤9)&&(!(r.getD 0 0==48)&&r.all bS))) else (decide (r.length≤29)&&(isLet c&&r.all (fun b=>isLet b||bS b)))
theorem yB (s:aj):qD s=some (tt s):=by
 cases s with
 | nil=>rfl
 | cons c r =>
  unfold qD;have e1:((((c::r).length:Nat):Int)==0)=false:=by simp;omega
  rw [e1];simp only [Bool.false_or];have e95:((((c::r).getD 0 0).toNat:Int)==95)=(c==95):=by rw [List.getD_cons_zero];exact O1 c 95 95 rfl
  by_cases h30:r.length≤29
  ·rw [S4 (show ¬ (((c::r).length:Nat):Int)>30 by simp;omega)];simp only [cond_false];rw [aE (by simp),e95];simp only [tt];cases hc:c==95 with
   | true =>
    simp only [cond_true];rw [aE (fun h=>by simp only [Bool.or_eq_false_iff,decide_eq_false_iff_not] at h;omega)];have e48:((((c::r).getD 1 0).toNat:Int)==48)=(r.getD 0 0==48):=by rw [List.getD_cons_succ];exact O1 _ 48 48 rfl
    rw [e48];by_cases h1:1≤r.length
    ·rw [S4 (show ¬ (((c::r).length:Nat):Int)<2 by simp;omega),S5 h1];simp only [Bool.false_or,Bool.true_and];by_cases h9:r.length≤9
     ·rw [S4 (show ¬ (((c::r).length:Nat):Int)>10 by simp;omega),S5 h9];simp only [Bool.false_or,Bool.true_and];cases hd:r.getD 0 0==48 with
      | true=>simp
      | false =>
       simp only [cond_false,Bool.not_false,Bool.true_and];rw [cO (fun j=>bS ((c::r).getD j 0)) _ _ () (fun j u _ _=>by rw [wG];cases bS ((c::r).getD j 0)<;>rfl),iP,j1 bS 0 (c::r) 1];simp only [List.drop_succ_cons,List.drop_zero];cases r.all bS<;>rfl
     ·rw [S5 (show (((c::r).length:Nat):Int)>10 by simp;omega),S4 h9];simp
    ·rw [S5 (show (((c::r).length:Nat):Int)<2 by simp;omega),S4 h1];simp
   | false =>
    simp only [cond_false];rw [S5 h30];rw [cO (fun j=>isLet ((c::r).getD j 0)||(!(((j:Nat):Int)==0)&&bS ((c::r).getD j 0))) _ _ () (fun j u _ _=>by rw [CT,wG];cases isLet ((c::r).getD j 0)<;>cases bS ((c::r).getD j 0)<;>cases ((j:Nat):Int)==0<;>rfl),iP]
    have e:(List.range' 0 ((c::r).length-0)).all (fun j=>isLet ((c::r).getD j 0)||(!(((j:Nat):Int)==0)&&bS ((c::r).getD j 0)))=(isLet c&&r.all (fun b=>isLet b||bS b)):=by
     rw [show (c::r).length-0=r.length+1 by simp,List.range'_succ,List.all_cons];have e0:(isLet ((c::r).getD 0 0)||(!(((0:Nat):Int)==0)&&bS ((c::r).getD 0 0)))=isLet c:=by simp
     rw [e0];congr 1;rw [all_congr (q:=fun j=>(fun b=>isLet b||bS b) ((c::r).getD j 0)) _ _ (fun j h1 _=>by
      have:(((j:Nat):Int)==0)=false:=by simp;omega
      simp only [this,Bool.not_false,Bool.true_and])]
     have:=j1 (fun b=>isLet b||bS b) 0 (c::r) 1;simpa using this
    rw [e];simp only [Bool.true_and];cases isLet c&&r.all (fun b=>isLet b||bS b)<;>rfl
  ·rw [S5 (show (((c::r).length:Nat):Int)>30 by simp;omega)];simp only [cond_true,tt];rw [S4 h30];have:¬ r.length≤9:=by omega
   rw [S4 this];cases c==95<;>simp
theorem zu (s:aj) (c:UInt8):strings_HasPrefix s [c]=some (match s with | []=>false | x::_=>x==c):=by
 unfold strings_HasPrefix cE;cases s with
 | nil=>rfl
 | cons x l =>
  rw [S5 (by simp;omega)];simp only [cond_true];rw [aE (by simp)];simp
theorem Nf {r:aj} (h0:r≠[]) (h:r.all bS=true) (hl:r.length≤9):Lib.atoiAll r = .ok (o3 0 r:Int)∧o3 0 r<10000000000:=by
 cases r with
 | nil=>exact absurd rfl h0
 | cons c r =>
  have hc:bS c=true:=by simp only [List.all_cons,SY] at h;exact h.1
  have hc2:=hc;simp only [bS,SY,decide_eq_true_eq] at hc2;have hp:(10:Nat) ^ (c::r).length≤10 ^ 9:=Nat.pow_le_pow_right (by decide) hl;have hv:=Gm (c::r) 0 h (by
   rw [Nat.zero_add,Nat.one_mul];exact Nat.le_trans hp (by decide))
  have hb:∀ (l:aj) (a:Nat),l.all bS=true→o3 a l+1≤(a+1)*10 ^ l.length:=by
   intro l;induction l with
   | nil=>intro a _;simp [o3]
   | cons x l ih =>
    intro a hx;simp only [List.all_cons,SY,bS,decide_eq_true_eq] at hx;have:=ih (a*10+(x.toNat-48)) (by simpa [bS] using hx.2);have e:o3 a (x::l)=o3 (a*10+(x.toNat-48)) l:=rfl;rw [e];refine Nat.le_trans this ?_;rw [List.length_cons,Nat.pow_succ,Nat.mul_comm (10 ^ l.length) 10,← Nat.mul_assoc];exact Nat.mul_le_mul_right _ (by omega)
  have hlt:=hb (c::r) 0 h;rw [Nat.zero_add,Nat.one_mul] at hlt;have h9:(10:Nat) ^ 9=1000000000:=by decide
  rw [h9] at hp;refine ⟨?_,by omega⟩;rw [Lib.atoiAll_plain c r (by omega) (by omega)];have:Lib.parseMag (c::r) = .ok (o3 0 (c::r)):=by unfold Lib.parseMag;rw [if_neg (by simp)];exact hv
  rw [this];simp only [Lib.signless];rw [if_neg (by omega)]
theorem PH (x:UInt8):(decide ((x.toNat:Int)<97)||decide ((x.toNat:Int)>122)) = !isLet x:=by unfold isLet;rw [Bool.eq_iff_iff];simp;omega
theorem K9 (x:UInt8):(decide ((x.toNat:Int)<48)||decide ((x.toNat:Int)>57)) = !bS x:=by unfold bS;rw [Bool.eq_iff_iff];simp;omega
theorem wa (s:aj) (hs:s.length≤140737488355328):je s=some (tt s):=by
 unfold je;rw [zu];cases s with
 | nil=>rfl
 | cons c r =>
  simp only [S6,tt];have hr:r.length≤140737488355328:=by simp at hs;omega
  cases hc:c==95 with
  | true =>
   simp only [cond_true];rw [aE (by simp)];simp only [List.drop_succ_cons,List.drop_zero,th];rw [aE (by omega)];simp only [S6];by_cases h9:r.length≤9
   ·by_cases h1:1≤r.length
    ·rw [S5 h1,S5 h9];simp only [Bool.true_and];have hne:r≠[]:=by intro e;subst e;simp at h1
     have hhd:(r.getD 0 0==48)=decide (r.head? = some 48):=by
      cases r with
      | nil=>exact absurd rfl hne
      | cons x l=>simp;rw [Bool.eq_iff_iff];simp
     have key:∀ v:Int,0<v→v≤9223372036854775807→jd v=some (Lib.decDigits v.toNat)∨True:=fun _ _ _=>.inr trivial;by_cases hall:r.all bS=true
     ·obtain ⟨a1,a2⟩:=Nf hne hall h9;simp only [BH,a1,cond_true];by_cases h48:r.head? = some 48
      ·
       rw [hhd,S5 h48];simp only [Bool.not_true,Bool.false_and];by_cases hz:o3 0 r=0
       ·rw [hz];rfl
       ·rw [S5 (by omega:(o3 0 r:Int)>0),S5 (by simp;omega:(((c::r).length:Nat):Int)≤10)];simp only [Bool.true_and,cond_true,jd,Aa];have hlen:(Lib.itoa (o3 0 r:Int)).length≤21:=Lib.itoa_length_le _ (by omega) (by omega);rw [aE ⟨by omega,by omega,by omega⟩];simp only [S6,S9];rw [Lib.itoa_nonneg,beq_eq_false_iff_ne];intro e;exact (G6 (o3 0 r)).2.1 (by omega) (by rw [e];exact h48)
      ·obtain ⟨d1,d2⟩:=Pq r hall hne h48;rw [hhd,S4 h48,hall];simp only [Bool.not_false,Bool.true_and];rw [S5 (by omega:(o3 0 r:Int)>0),S5 (by simp;omega:(((c::r).length:Nat):Int)≤10)];simp only [Bool.true_and,cond_true,jd,Aa];have hlen:(Lib.itoa (o3 0 r:Int)).length≤21:=Lib.itoa_length_le _ (by omega) (by omega);rw [aE ⟨by omega,by omega,by omega⟩];simp only [S6,S9];rw [Lib.itoa_nonneg,d2];simp
     ·have hall:r.all bS=false:=by simpa using hall
      rw [hall];simp only [Bool.and_false];cases ha:Lib.atoiAll r with
      | ok v =>
       simp only [BH,ha,cond_true];by_cases hv:v>0
       ·rw [S5 hv,S5 (by simp;omega:(((c::r).length:Nat):Int)≤10)];simp only [Bool.true_and,cond_true,jd,Aa];have hvb:v≤9223372036854775807:=by
         cases r with
         | nil=>exact absurd rfl hne
         | cons x l =>
          unfold Lib.atoiAll at ha;simp only at ha;split at ha
          ·cases ha
          ·cases ha
          ·split at ha
           ·cases ha
           ·split at ha
            ·cases ha
            ·rename_i h1 h2;simp only [Lib.NumEnd.ok.injEq] at ha;rw [← ha];split
             ·omega
             ·rename_i h3;have:=h1;simp only [h3,not_false_eq_true,true_and] at this;omega
        have hlen:(Lib.itoa v).length≤21:=Lib.itoa_length_le _ (by omega) hvb;rw [aE ⟨by omega,hvb,by omega⟩];simp only [S6,S9];rw [beq_eq_false_iff_ne];intro e;have:(Lib.itoa v).all bS=true:=by unfold Lib.itoa;rw [if_neg (by omega)];exact (G6 _).1
        rw [e,hall] at this;cases this
       ·rw [S4 hv];rfl
      | range=>simp [BH,ha]
      | _=>simp [BH,ha]
    ·have:r=[]:=List.eq_nil_of_length_eq_zero (by omega);subst this;rfl
   ·rw [S4 h9,S4 (by simp;omega:¬ (((c::r).length:Nat):Int)≤10)];simp only [cond_false,Bool.false_and,Bool.and_false];cases (BH r).2<;>cases decide ((BH r).1>0)<;>rfl
  | false =>
   simp only [cond_false];rw [cO (fun j=>isLet ((c::r).getD j 0)||(!(((j:Nat):Int)==0)&&bS ((c::r).getD j 0))) _ _ () (fun j u _ _=>by rw [PH,Bool.or_assoc,K9];cases isLet ((c::r).getD j 0)<;>cases bS ((c::r).getD j 0)<;>cases ((j:Nat):Int)==0<;>rfl),iP]
   have e:(List.range' 0 ((c::r).length-0)).all (fun j=>isLet ((c::r).getD j 0)||(!(((j:Nat):Int)==0)&&bS ((c::r).getD j 0)))=(isLet c&&r.all (fun b=>isLet b||bS b)):=by
    rw [show (c::r).length-0=r.length+1 by simp,List.range'_succ,List.all_cons];have e0:(isLet ((c::r).getD 0 0)||(!(((0:Nat):Int)==0)&&bS ((c::r).getD 0 0)))=isLet c:=by simp
    rw [e0];congr 1;rw [all_congr (q:=fun j=>(fun b=>isLet b||bS b) ((c::r).getD j 0)) _ _ (fun j h1 _=>by
     have:(((j:Nat):Int)==0)=false:=by simp;omega
     simp only [this,Bool.not_false,Bool.true_and])]
    have:=j1 (fun b=>isLet b||bS b) 0 (c::r) 1;simpa using this
   rw [e];have e2:((c::r)==[])=false:=rfl;rw [e2];simp only [Bool.not_false,Bool.true_and];by_cases h30:r.length≤29
   ·rw [S5 h30,S5 (by simp;omega:(((c::r).length:Nat):Int)≤30)];cases isLet c&&r.all (fun b=>isLet b||bS b)<;>rfl
   ·rw [S4 h30,S4 (by simp;omega:¬ (((c::r).length:Nat):Int)≤30)];cases isLet c&&r.all (fun b=>isLet b||bS b)<;>rfl
def NN (n:Int):Bool:=decide (-1000000≤n)&&decide (n≤1000000)
theorem Af (n:Int):tn n=some (NN n):=by rfl
theorem wH (n:Int):oc n=some (NN n):=by rfl
def KR (l:Linear) (j:Nat):a8:=l.Terms.getD j ⟨[],0⟩
def q8 (l:Linear) (j:Nat):Bool:=tt (KR l j).Var&&(!((KR l j).C==0)&&(NN (KR l j).C&&(!decide (((j:Nat):Int)>0)||Op.bytesLess (KR l (j-1)).Var (KR l j).Var)))
def bg (l:Linear):Bool:=(List.range' 0 (l.Terms.length-0)).all (q8 l)&&(NN l.Const&&decide (l.Terms.length≤12))
theorem JG {j:Nat} (h:0<j) (h2:j≤9223372036854775807):bq (((j:Nat):Int)-1)=((j-1:Nat):Int):=by rw [fy (by unfold rL;omega)];omega
theorem PB {l:List a8} {n:Nat} (h:∀ t∈l,t.Var.length≤n) (j:Nat):(l.getD j ⟨[],0⟩).Var.length≤n:=by
 rw [SW];cases h1:l[j]? with
 | none=>simp
 | some x=>exact h x (List.mem_of_getElem? h1)
theorem iu (l:Linear) (h1:l.Terms.length≤140737488355328) (h2:∀ t∈l.Terms,t.Var.length≤140737488355328):cF l=some (bg l):=by
 unfold cF;rw [cO (q8 l) _ _ () (fun j u _ hj=>by
  rw [wa _ (PB h2 j),Af];simp only [q8,KR,S6];cases tt (l.Terms.getD j ⟨[],0⟩).Var
  ·rfl
  ·cases (l.Terms.getD j ⟨[],0⟩).C==0
   ·cases NN (l.Terms.getD j ⟨[],0⟩).C
    ·rfl
    ·by_cases hp:0<j
     ·rw [S5 (show ((j:Nat):Int)>0 by omega),JG hp (by omega)];rw [aE (by omega)];simp only [Int.toNat_natCast,cond_true,cond_false,Bool.not_true,Bool.false_or,Bool.true_and,Bool.not_false];cases Op.bytesLess (l.Terms.getD (j-1) ⟨[],0⟩).Var (l.Terms.getD j ⟨[],0⟩).Var<;>rfl
     ·rw [S4 (show ¬ ((j:Nat):Int)>0 by omega)];rfl
   ·rfl),iP,Af]
 unfold bg;cases (List.range' 0 (l.Terms.length-0)).all (q8 l)
 ·rfl
 ·cases NN l.Const
  ·rfl
  ·simp only [cond_true,S6,Bool.true_and,S9];rw [decide_eq_decide];omega
theorem dX (l:Linear):dW l=some (bg l):=by
 unfold dW;rw [wH];unfold bg;by_cases h12:l.Terms.length≤12
 ·rw [S4 (show ¬ ((l.Terms.length:Nat):Int)>12 by omega),S5 h12];rw [cO (q8 l) _ _ () (fun j u _ hj=>by
   rw [yB,wH];simp only [q8,KR,S6];cases tt (l.Terms.getD j ⟨[],0⟩).Var
   ·rfl
   ·cases (l.Terms.getD j ⟨[],0⟩).C==0
    ·cases NN (l.Terms.getD j ⟨[],0⟩).C
     ·rfl
     ·by_cases hp:0<j
      ·rw [S5 (show ((j:Nat):Int)>0 by omega),JG hp (by omega)];rw [aE (by omega)];simp only [Int.toNat_natCast,cond_true,cond_false,Bool.not_true,Bool.false_or,Bool.true_and,Bool.not_false];cases Op.bytesLess (l.Terms.getD (j-1) ⟨[],0⟩).Var (l.Terms.getD j ⟨[],0⟩).Var<;>rfl
      ·rw [S4 (show ¬ ((j:Nat):Int)>0 by omega)];rfl
    ·rfl),iP]
  cases (List.range' 0 (l.Terms.length-0)).all (q8 l)<;>cases NN l.Const<;>rfl
 ·rw [S5 (show ((l.Terms.length:Nat):Int)>12 by omega),S4 h12];cases (List.range' 0 (l.Terms.length-0)).all (q8 l)<;>cases NN l.Const<;>rfl
theorem G7 {a b:Nat}:decide (((a:Nat):Int)>(b:Int)) = !decide (a≤b):=by
 by_cases h:a≤b
 ·rw [S5 h,S4 (by omega)];rfl
 ·rw [S4 h,S5 (by omega)];rfl
theorem J4 {a b:Nat}:decide (((a:Nat):Int)≤(b:Int))=decide (a≤b):=by rw [decide_eq_decide];omega
theorem Is (l:Linear):Linear.mk l.Const l.Terms=l:=rfl
def xb (s:Shape):Bool:=s.Dims.all bg&&(decide (s.Dims.length≤6)&&(s.Row.isEmpty||tt s.Row))
theorem Lw (s:aj):(s==[])=s.isEmpty:=by cases s<;>rfl
theorem EC (s:Shape):rA s=some (xb s):=by
 unfold rA;rw [cO (fun j=>bg (s.Dims.getD j ⟨0,[]⟩)) _ _ () (fun j u _ _=>by rw [Is,dX];simp only [S6];cases bg (s.Dims.getD j ⟨0,[]⟩)<;>rfl),iP,Dj bg]
 unfold xb;rw [show (6:Int)=((6:Nat):Int) from rfl,J4,Lw,yB];cases s.Dims.all bg
 ·rfl
 ·cases decide (s.Dims.length≤6)
  ·rfl
  ·cases s.Row.isEmpty<;>rfl
def Dd (l:Linear):Prop:=l.Terms.length≤140737488355328∧∀ t∈l.Terms,t.Var.length≤140737488355328
def Sw (s:Shape):Prop:=s.Row.length≤140737488355328∧∀ l∈s.Dims,Dd l
theorem An {ls:List Linear} (h:∀ l∈ls,Dd l) (j:Nat):Dd (ls.getD j ⟨0,[]⟩):=by
 rw [SW];cases h1:ls[j]? with
 | none=>exact ⟨by simp,fun t ht=>by simp at ht⟩
 | some x=>exact h x (List.mem_of_getElem? h1)
theorem GZ (ls:List Linear) (h:∀ l∈ls,Dd l):cr ls=some (!ls.all bg):=by
 unfold cr eb;rw [DB (f:=fun j=>((j:Nat):Int)) (fun j=>(fun l=>!bg l) (ls.getD j ⟨0,[]⟩)) _ _ () (fun j u _ _=>by rw [Is];unfold sP;rw [iu _ (An h j).1 (An h j).2];simp only [S6];cases bg (ls.getD j ⟨0,[]⟩)<;>rfl)]
 have hf:=F2 (fun l=>!bg l) ⟨0,[]⟩ ls;have hn:=A3 (fun l=>!bg l) ls;have e:ls.any (fun l=>!bg l) = !ls.all bg:=by simp [List.any_eq_not_all_not]
 rw [e] at hn;generalize (List.range' 0 (ls.length-0)).find? (fun j=>(fun l=>!bg l) (ls.getD j ⟨0,[]⟩))=x at hf;cases x with
 | none =>
  simp only at hf;have h1:(!ls.all bg)=false:=hn.1 (by omega);rw [h1];rfl
 | some j =>
  simp only at hf;have h1:(!ls.all bg)=true:=by
   cases hb : !ls.all bg
   ·have:=hn.2 hb;omega
   ·rfl
  rw [h1];simp only [S6,Sh.aft];rw [S5 (by omega:((j:Nat):Int)≥0)]
theorem ER (s:Shape) (h:Sw s):lg s=some (xb s):=by unfold lg xb;rw [Lw,GZ _ h.2,wa _ h.1,show (6:Int)=((6:Nat):Int) from rfl,J4];cases s.Row.isEmpty<;>cases tt s.Row<;>cases decide (s.Dims.length≤6)<;>cases s.Dims.all bg<;>rfl
theorem It {α:Type} (d:α) {x y:List α} (hl:x.length=y.length) (h:∀ j,j<x.length→x.getD j d=y.getD j d):x=y:=by refine List.ext_getElem hl fun j h1 h2=>?_;have:=h j h1;simpa [SW,SX h1,SX h2] using this
theorem qi {a b:Nat}:(((a:Nat):Int)==((b:Nat):Int))=decide (a=b):=by rw [Bool.eq_iff_iff];simp only [beq_iff_eq,decide_eq_true_eq];omega
theorem Nw (x y:a8):((x.Var==y.Var)&&((x.C==y.C)&&true))=decide (x=y):=by cases x;cases y;rw [Bool.eq_iff_iff];simp
theorem GR:∀ l:aj,Op.bytesLess l l=false
 | []=>rfl
 | x::l=>by simp [Op.bytesLess,GR l]
theorem LN {body:Nat→Option (kr Nat Unit Int)} (m:Nat) (E:Nat→Prop) (hb:∀ j,(j<m∧E j∧body j=some (.go (j+1)))∨(j<m∧¬ E j∧∃ x,x≠0∧body j=some (.ret x))∨(m≤j∧body j=some (.brk ()))):∀ (N i:Nat),m<i+N→i≤m→(∀ j,j<i→E j) →
 (vq body N i=some (.brk ())∧∀ j,j<m→E j)∨(∃ x,x≠0∧vq body N i=some (.ret x)∧∃ j,j<m∧¬ E j)
 | 0,i,h,hi,he=>by omega
 | N+1,i,h,hi,he=>by
  rcases hb i with ⟨h1,h2,h3⟩ | ⟨h1,h2,x,h3,h4⟩ | ⟨h1,h2⟩
  ·simp only [vq,h3,S6,CZ];exact LN m E hb N (i+1) (by omega) (by omega) (fun j hj=>(Nat.lt_succ_iff_lt_or_eq.1 hj).elim (he j) (fun e=>e ▸ h2))
  ·exact .inr ⟨x,h3,by simp only [vq,h4,S6,CZ],i,h1,h2⟩
  ·exact .inl ⟨by simp only [vq,h2,S6,CZ],fun j hj=>he j (by omega)⟩
theorem wD (x y:Linear) (hx:x.Terms.length≤1000):gP x y=some (decide (x=y)):=by
 unfold gP sr;generalize hB:(fun s0:Nat=>_:Nat→Option (kr Nat Unit Int))=B;have key:=LN (body:=B) (min x.Terms.length y.Terms.length) (fun j=>x.Terms.getD j aG=y.Terms.getD j aG) (fun j=>by
  subst hB;simp only;by_cases hj:j<min x.Terms.length y.Terms.length
  ·rw [S5 (show ((j:Nat):Int)<((y.Terms.length:Nat):Int) by omega),S5 (show ((j:Nat):Int)<((x.Terms.length:Nat):Int) by omega),Nw];generalize x.Terms.getD j aG=a;generalize y.Terms.getD j aG=b;by_cases hab:a=b
   ·subst hab;refine .inl ⟨hj,rfl,?_⟩;rw [GR];simp
   ·refine .inr (.inl ⟨hj,hab,?_⟩);rw [S4 hab];cases (Op.bytesLess a.Var b.Var||((a.Var==b.Var)&&decide (a.C<b.C))) with
    | true=>exact ⟨-1,by decide,rfl⟩
    | false=>exact ⟨1,by decide,rfl⟩
  ·refine .inr (.inr ⟨by omega,?_⟩);have:(decide (((j:Nat):Int)<((x.Terms.length:Nat):Int))&&decide (((j:Nat):Int)<((y.Terms.length:Nat):Int)))=false:=by rw [Bool.and_eq_false_iff,decide_eq_false_iff_not,decide_eq_false_iff_not];omega
   rw [this];rfl) 4294967296 0 (by omega) (by omega) (fun j hj=>by omega)
 rcases key with ⟨e,ha⟩ | ⟨r,hr,e,j,j3,j4⟩
 ·rw [e];simp only [S6,Sh.aft];rw [qi];cases x with | mk a s=>cases y with | mk b t =>
  simp only at ha ⊢;by_cases hl:s.length=t.length
  ·have hst:s=t:=It aG hl fun j hj=>ha j (by omega);subst hst;rw [S4 (show ¬ ((s.length:Nat):Int)<((s.length:Nat):Int) by omega),S5 (rfl:s.length=s.length)];simp only [Bool.false_or,Bool.true_and];by_cases h1:a<b
   ·rw [S5 h1];have:¬ a=b:=by omega
    simp [this]
   ·rw [S4 h1];by_cases h2:a>b
    ·rw [S5 h2];have:¬ a=b:=by omega
     simp [this]
    ·rw [S4 h2];have:a=b:=by omega
     simp [this]
  ·rw [S4 hl];have hne:¬ (Linear.mk a s=Linear.mk b t):=fun e=>hl (by simp at e;rw [e.2]);rw [S4 hne];by_cases h1:s.length<t.length
   ·rw [S5 (show ((s.length:Nat):Int)<((t.length:Nat):Int) by omega)];rfl
   ·rw [S4 (show ¬ ((s.length:Nat):Int)<((t.length:Nat):Int) by omega),S5 (show ((s.length:Nat):Int)>((t.length:Nat):Int) by omega)];rfl
 ·rw [e];simp only [S6,Sh.aft];have hne:¬ (x=y):=fun e=>j4 (by rw [e]);rw [S4 hne];simpa using hr
theorem Jb (a b:Int):∃ r,lW a b=some r∧((r==0)=decide (a=b)):=by
 unfold lW;by_cases h1:a<b
 ·rw [S5 h1];exact ⟨-1,rfl,by rw [S4 (by omega)];rfl⟩
 ·rw [S4 h1];by_cases h2:a>b
  ·rw [S5 h2];exact ⟨1,rfl,by rw [S4 (by omega)];rfl⟩
  ·rw [S4 h2];exact ⟨0,rfl,by rw [S5 (by omega)];rfl⟩
theorem Qo:∀ {x y:aj},Op.bytesLess x y=false→Op.bytesLess y x=false→x=y
 | [],[],_,_=>rfl
 | [],_::_,h,_=>by cases h
 | _::_,[],_,h=>by cases h
 | a::x,b::y,h1,h2=>by
  simp only [Op.bytesLess] at h1 h2;by_cases h3:a<b
  ·simp [h3] at h1
  ·by_cases h4:b<a
   ·simp [h4] at h2
   ·have e:a=b:=UInt8.toNat_inj.1 (by have q1:¬ a.toNat<b.toNat:=h3;have q2:¬ b.toNat<a.toNat:=h4;omega);subst e;simp at h1 h2;rw [Qo h1 h2]
theorem AY (x y:aj):(AX x y==0)=decide (x=y):=by
 unfold AX;by_cases h1:Op.bytesLess x y=true
 ·rw [if_pos h1,S4 (fun e=>by rw [e,GR] at h1;cases h1)];rfl
 ·rw [if_neg h1];by_cases h2:Op.bytesLess y x=true
  ·rw [if_pos h2,S4 (fun e=>by rw [e,GR] at h2;cases h2)];rfl
  ·rw [if_neg h2,S5 (Qo (by simpa using h1) (by simpa using h2))];rfl
theorem Gx (x y:a8):∃ r,gA x y=some r∧((r==0)=decide (x=y)):=by
 cases x with | mk a s=>cases y with | mk b t =>
 unfold gA ru;simp only [S6];rw [AY];by_cases h:a=b
 ·rw [S5 h];obtain ⟨r,h1,h2⟩:=Jb s t;rw [h1];refine ⟨r,rfl,?_⟩;rw [h2,decide_eq_decide];simp [h]
 ·rw [S4 h];refine ⟨_,rfl,?_⟩;rw [AY,decide_eq_decide];simp [h]
theorem uS (x y:Linear):fK x y=some (decide (x=y)):=by
 unfold fK qm eJ;generalize hB:(fun (i0:Nat) (s0:Unit)=>_:Nat→Unit→Option (kr Unit Unit Int))=B;have key:∀ (k i:Nat),x.Terms.length=i+k→(∀ j,j<i→j<y.Terms.length∧x.Terms.getD j aG=y.Terms.getD j aG) →
  (bR B (fun _ _=>()) k i ()=some (.brk ())∧(∀ j,j<x.Terms.length→j<y.Terms.length∧x.Terms.getD j aG=y.Terms.getD j aG))∨(∃ r,r≠0∧bR B (fun _ _=>()) k i ()=some (.ret r)∧x.Terms≠y.Terms):=by
  intro k;induction k with
  | zero=>intro i h he;exact .inl ⟨rfl,fun j hj=>he j (by omega)⟩
  | succ k ih =>
   intro i h he;have e1:B i ()=(bif decide (((i:Nat):Int)≥((y.Terms.length:Nat):Int)) then some (.ret 1) else (gA (x.Terms.getD i aG) (y.Terms.getD i aG)).bind fun y0=>bif (y0==0) then some (.go ()) else some (.ret y0)):=by subst hB;rfl
   simp only [bR];rw [e1];by_cases hi:i<y.Terms.length
   ·rw [S4 (show ¬ ((i:Nat):Int)≥((y.Terms.length:Nat):Int) by omega)];obtain ⟨r,h1,h2⟩:=Gx (x.Terms.getD i aG) (y.Terms.getD i aG);rw [h1];simp only [cond_false,S6,h2];by_cases hq:x.Terms.getD i aG=y.Terms.getD i aG
    ·rw [S5 hq];exact ih (i+1) (by omega) (fun j hj=>(Nat.lt_succ_iff_lt_or_eq.1 hj).elim (he j) (fun e=>e ▸ ⟨hi,hq⟩))
    ·rw [S4 hq] at h2 ⊢;exact .inr ⟨r,by simpa using h2,rfl,fun e=>hq (by rw [e])⟩
   ·rw [S5 (show ((i:Nat):Int)≥((y.Terms.length:Nat):Int) by omega)];exact .inr ⟨1,by decide,rfl,fun e=>hi (by rw [← e];omega)⟩
 rcases key (x.Terms.length-0) 0 (by omega) (fun j hj=>by omega) with ⟨e,ha⟩ | ⟨r,hr,e,hn⟩
 ·rw [e];simp only [S6,Sh.aft];have hle:x.Terms.length≤y.Terms.length:=by
   cases hx:x.Terms.length with
   | zero=>omega
   | succ n=>have:=(ha n (by omega)).1;omega
  by_cases hl:x.Terms.length<y.Terms.length
  ·rw [S5 (show ((x.Terms.length:Nat):Int)<((y.Terms.length:Nat):Int) by omega),S4 (fun e=>by rw [e] at hl;omega)];rfl
  ·rw [S4 (show ¬ ((x.Terms.length:Nat):Int)<((y.Terms.length:Nat):Int) by omega)];have hT:x.Terms=y.Terms:=It aG (by omega) fun j hj=>(ha j hj).2;obtain ⟨r,h1,h2⟩:=Jb x.Const y.Const;simp only [cond_false,S6];rw [show ((0:Int)==0)=true from rfl,cond_true,h1];simp only [S6,h2,S9];rw [decide_eq_decide];cases x;cases y;simp only at hT;simp [hT]
 ·rw [e];simp only [S6,Sh.aft];have h0:(r==0)=false:=by simpa using hr
  rw [h0,S4 (fun e=>hn (by rw [e]))];simp only [cond_false,S6,h0]
def DF:aj→Bool
 | []=>false
 | c::r=>decide (r.length≤29)&&((decide (65≤c.toNat)&&decide (c.toNat≤90))&&r.all bS)
theorem Bp (s:aj):nG s=some (DF s):=by
 unfold nG;rw [cO (fun j=>bS (s.getD j 0)) _ _ () (fun j u _ _=>by rw [K9];cases bS (s.getD j 0)<;>rfl),iP,j1 bS 0 s 1];rw [aE (fun h=>by simp at h;omega),aE (fun h=>by simp at h;omega)];cases s with
 | nil=>rfl
 | cons c r =>
  simp only [List.drop_succ_cons,List.drop_zero,DF,List.getD_cons_zero];rw [S5 (by simp;omega:(((c::r).length:Nat):Int)≥1),show decide ((((c::r).length:Nat):Int)≤30)=decide (r.length≤29) by rw [decide_eq_decide];simp;omega,show decide ((c.toNat:Int)≥65)=decide (65≤c.toNat) by rw [decide_eq_decide];omega,show decide ((c.toNat:Int)≤90)=decide (c.toNat≤90) by rw [decide_eq_decide];omega];cases r.all bS<;>cases decide (r.length≤29)<;>cases decide (65≤c.toNat)<;>cases decide (c.toNat≤90)<;>rfl
theorem dropWhile_nil {α:Type} (p:α→Bool):∀ l:List α,(l.dropWhile p=[])↔l.all p=true
 | []=>by simp
 | x::l=>by
  simp only [List.dropWhile_cons,List.all_cons,SY];cases hp:p x
  ·simp
  ·simp [dropWhile_nil p l]
theorem vC {α:Type} (p:α→Bool):∀ (l:List α) {x:α} {r:List α},l.dropWhile p=x::r→p x=false
 | [],x,r,h=>by simp at h
 | y::l,x,r,h=>by
  simp only [List.dropWhile_cons] at h;cases hp:p y
  ·rw [hp] at h;simp at h;rw [← h.1];exact hp
  ·rw [hp] at h;simp at h;exact vC p l h
theorem O0 (l cs:aj):(Lib.trimS l cs=[])↔l.all cs.contains=true:=by
 unfold Lib.trimS Lib.trimLeftS Lib.trimRightS;rw [dropWhile_nil];constructor
 ·intro h;cases hd:l.reverse.dropWhile (cs.contains ·) with
  | nil =>
   have:=(dropWhile_nil (cs.contains ·) l.reverse).1 hd;simpa using this
  | cons x r =>
   have h1:=vC _ _ hd;rw [hd] at h;simp only [List.all_reverse,List.all_cons,SY] at h;have h2:=h.1;rw [h2] at h1;cases h1
 ·intro h;have:l.reverse.dropWhile (cs.contains ·)=[]:=(dropWhile_nil (cs.contains ·) l.reverse).2 (by simpa using h);rw [this];rfl
theorem Cy (b:UInt8):([48,49,50,51,52,53,54,55,56,57]:aj).contains b=bS b:=by
 rw [Bool.eq_iff_iff];simp only [List.contains_iff_mem,List.mem_cons,List.mem_nil_iff,or_false,bS,SY,decide_eq_true_eq,← UInt8.toNat_inj];have:(48:UInt8).toNat=48∧(49:UInt8).toNat=49∧(50:UInt8).toNat=50∧(51:UInt8).toNat=51∧(52:UInt8).toNat=52∧(53:UInt8).toNat=53∧(54:UInt8).toNat=54∧(55:UInt8).toNat=55∧(56:UInt8).toNat=56∧(57:UInt8).toNat=57:=by decide
 omega
theorem Bs (s:aj):nJ s=some (DF s):=by
 unfold nJ;rw [aE (fun h=>by simp at h;omega),aE (fun h=>by simp at h;omega)];cases s with
 | nil=>rfl
 | cons c r =>
  rw [aE (by simp)];simp only [List.drop_succ_cons,List.drop_zero,DF,List.getD_cons_zero,vZ];rw [aE (by decide)];have hc:(([48,49,50,51,52,53,54,55,56,57]:aj).contains)=bS:=funext Cy;have e:(Lib.trimS r [48,49,50,51,52,53,54,55,56,57]==[])=r.all bS:=by rw [Bool.eq_iff_iff,beq_iff_eq,O0,hc]
  simp only [S6,e];rw [S4 (by simp;omega:¬ (((c::r).length:Nat):Int)<1),show decide ((((c::r).length:Nat):Int)>30) = !decide (r.length≤29) by rw [← decide_not,decide_eq_decide];simp;omega,show decide ((c.toNat:Int)<65) = !decide (65≤c.toNat) by rw [← decide_not,decide_eq_decide];omega,show decide ((c.toNat:Int)>90) = !decide (c.toNat≤90) by rw [← decide_not,decide_eq_decide];omega];cases decide (r.length≤29)<;>cases decide (65≤c.toNat)<;>cases decide (c.toNat≤90)<;>rfl
def J6 (s:aj):Bool:=((s==[105,110,116])||(s==[98,111,111,108]))||DF s
def Bu (t:aY):Bool:=J6 t.Elem&&xb t.Shape
theorem EX (t:aY) (h:Sw t.Shape):hU t=some (Bu t):=by unfold hU Bu J6;rw [ER _ h,Bs];cases ((t.Elem==[105,110,116])||(t.Elem==[98,111,111,108]))<;>cases DF t.Elem<;>cases xb t.Shape<;>rfl
theorem ED (t:aY):rB t=some (Bu t):=by unfold rB zn Bu J6;rw [EC,Bp];cases ((t.Elem==[105,110,116])||(t.Elem==[98,111,111,108]))<;>cases DF t.Elem<;>cases xb t.Shape<;>rfl
def kh (t:aY):Bool:=(Bu t&&(t.Shape.Row==[]))&&((t.Elem==[105,110,116])||(t.Elem==[98,111,111,108]))
theorem Je (t:aY) (h:Sw t.Shape):kD t=some (kh t):=by unfold kD;rw [EX _ h];rfl
theorem FZ (t:aY):mm t=some (kh t):=by unfold mm;rw [ED];rfl
end Go.Proofs.YtpfoahpiaanlaaaGreatDoor
namespace Go.Sh
theorem Am {α:Type} [DecidableEq α]:∀ (l l':List α),l.Nodup→(∀ x∈l,x∈l')→l.length≤l'.length
 | [],l',_,_=>by simp
 | a::l,l',h,hs=>by
  rw [List.nodup_cons] at h;have ha:a∈l':=hs a (by simp);have ih:=Am l (l'.erase a) h.2 (fun x hx=>by have hne:x≠a:=fun e=>h.1 (e ▸ hx);exact (List.mem_erase_of_ne hne).2 (hs x (by simp [hx])))
  rw [List.length_erase_of_mem ha] at ih;have:0<l'.length:=List.length_pos_of_mem ha;simp only [List.length_cons];omega
theorem Qy {V σ ε β:Type} {m:List (aj×V)} {body:aj×V→σ→Option (kr σ ε β)} {K:σ→Prop} {J:β→Prop} (I:List Nat→σ→Prop) (g:σ→aj×V→σ)
 (hstep:∀ seen s i (h:i<m.length),seen.Nodup→i ∉ seen→(∀ j∈seen,j<m.length)→I seen s→body m[i] s=some (.go (g s m[i]))∧I (seen++[i]) (g s m[i]))
 (hend:∀ seen s,seen.Nodup→(∀ i,i<m.length→i∈seen)→(∀ i∈seen,i<m.length)→I seen s→K s) :
 ∀ (n:Nat) (seen:List Nat) (s:σ),seen.Nodup→(∀ i∈seen,i<m.length)→n+seen.length=m.length→I seen s→MR m body K J n seen s
 | 0,seen,s,h1,h2,h3,hI=>by
  have hall:∀ i,i<m.length→i∈seen:=by
   intro i hi;refine Classical.byContradiction fun hn=>?_;have:=Am (i::seen) (List.range m.length) (List.nodup_cons.2 ⟨hn,h1⟩) (fun x hx=>by
    rcases List.mem_cons.1 hx with rfl | hx
    ·simpa using hi
    ·simpa using h2 x hx)
   simp at this;omega
  exact ⟨hall,hend seen s h1 hall h2 hI⟩
 | n+1,seen,s,h1,h2,h3,hI=>by
  refine ⟨?_,fun i hi hn=>?_⟩
  ·refine Classical.byContradiction fun hn=>?_;have:=Am (List.range m.length) seen List.nodup_range (fun x hx=>Classical.byContradiction fun hx2=>hn ⟨x,by simpa using hx,hx2⟩);simp at this;omega
  ·obtain ⟨e1,e2⟩:=hstep seen s i hi h1 hn h2 hI;refine ⟨_,e1,?_⟩;have hnd:(seen++[i]).Nodup:=by
    rw [List.nodup_append];exact ⟨h1,by simp,fun a ha b hb=>by
     have:b=i:=by simpa using hb
     subst this;intro e;subst e;exact hn ha⟩
   exact Qy I g hstep hend n (seen++[i]) _ hnd (fun j hj=>by
    rcases List.mem_append.1 hj with hj | hj
    ·exact h2 j hj
    ·have:j=i:=by simpa using hj
     subst this;exact hi) (by simp;omega) e2
def Fq (x y:aj):Bool:=decide (x≤y)
theorem Ga (a b c:aj) (h1:Fq a b=true) (h2:Fq b c=true):Fq a c=true:=by simp only [Fq,decide_eq_true_eq] at *;exact List.le_trans h1 h2
theorem F9 (a b:aj):(Fq a b||Fq b a)=true:=by simp only [Fq,Bool.or_eq_true,decide_eq_true_eq];exact List.le_total a b
theorem IP (a b:aj) (h1:Fq a b=true) (h2:Fq b a=true):a=b:=by simp only [Fq,decide_eq_true_eq] at *;exact List.le_antisymm h1 h2
theorem Cp (l:List aj):(Go.Ab.sortS l).Pairwise (fun a b=>Fq a b=true):=Go.Ab.msort_pw Ga F9 l
theorem Gu (l:List aj):(Go.Ab.sortS l).Perm l:=Go.Ab.msort_perm l _
theorem LI {l r:List aj} (hs:r.Pairwise (fun a b=>Fq a b=true)) (hp:r.Perm l):Go.Ab.sortS l=r :=
 List.Perm.eq_of_pairwise (fun a b _ _=>IP a b) (Cp l) hs ((Gu l).trans hp.symm)
theorem KN {l r:List aj} (h:l.Perm r):Go.Ab.sortS l=Go.Ab.sortS r:=LI (Cp r) ((Gu r).trans h.symm)
def Ke (x:aj):List aj→List aj
 | []=>[x]
 | y::l=>bif Fq x y then x::y::l else y::Ke x l
def vh:List aj→List aj
 | []=>[]
 | x::l=>Ke x (vh l)
theorem A4 (x:aj):∀ l,(Ke x l).Perm (x::l)
 | []=>.refl _
 | y::l=>by
  simp only [Ke];cases Fq x y
  ·exact ((A4 x l).cons y).trans (.swap _ _ _)
  ·exact .refl _
theorem B9 (x:aj):∀ {l:List aj},l.Pairwise (fun a b=>Fq a b=true)→(Ke x l).Pairwise (fun a b=>Fq a b=true)
 | [],_=>by simp [Ke]
 | y::l,h=>by
  rw [List.pairwise_cons] at h;simp only [Ke];cases hxy:Fq x y
  ·simp only [cond_false,List.pairwise_cons];have hyx:Fq y x=true:=by have:=F9 x y;rw [hxy] at this;simpa using this
   refine ⟨fun a ha=>?_,B9 x h.2⟩;rcases List.mem_cons.1 ((A4 x l).mem_iff.1 ha) with rfl | ha
   ·exact hyx
   ·exact h.1 a ha
  ·simp only [cond_true,List.pairwise_cons];refine ⟨fun a ha=>?_,h⟩;rcases List.mem_cons.1 ha with rfl | ha
   ·exact hxy
   ·exact Ga _ _ _ hxy (h.1 a ha)
theorem kN:∀ l,(vh l).Perm l
 | []=>.refl _
 | x::l=>(A4 x _).trans ((kN l).cons x)
theorem uL:∀ l,(vh l).Pairwise (fun a b=>Fq a b=true)
 | []=>List.Pairwise.nil
 | x::l=>B9 x (uL l)
theorem OG (l:List aj):Go.Ab.sortS l=vh l:=LI (uL l) (kN l)
def Bg:List aj→Bool
 | []=>true
 | x::l=>!(l.any fun y=>y==x)&&Bg l
theorem Gi:∀ {l:List aj},Bg l=true→l.Nodup
 | [],_=>List.nodup_nil
 | x::l,h=>by simp only [Bg,SY,Bool.not_eq_true',List.any_eq_false,beq_iff_eq] at h;exact List.nodup_cons.2 ⟨fun hm=>h.1 x hm rfl,Gi h.2⟩
end Go.Sh
namespace Go.Proofs.YtpfoahpiaanlaaaGreatDoor
open Go.Ab Go.Sh
def cb (m:List (aj×Int)):List aj:=(m.filter fun e=>!(e.2==0)).map (·.1)
def DH (n:Int) (m:List (aj×Int)) (names:List aj):Linear×Int :=
 bif bg (Linear.mk n (names.map fun k=>a8.mk k (cI 0 k m))) then (Linear.mk n (names.map fun k=>a8.mk k (cI 0 k m)),0) else (Linear.mk 0 [],3)
def zX (m:List (aj×Int)):Bool:=Bg (m.map (·.1))&&(decide (m.length≤1000)&&m.all fun e=>decide (e.1.length≤140737488355328))
theorem OD (m:List (aj×Int)) (y:List aj) (hy:y.length≤1000000):(bR (σ:=(List a8)) (ε:=(List a8)) (ρ:=Empty) (fun i117 s116 =>
 bo ((s116.length+1)*24≤140737488355328)<|
 some (.go (s116++[(a8.mk (y.getD i117 []) (cI 0 (y.getD i117 []) m))]))
 ) (fun i117 s116=>s116) (y.length-0) 0 [])=some (.brk (y.map fun k=>a8.mk k (cI 0 k m))):=by
 obtain ⟨s',e1,e2,_⟩:=J3 (fin:=fun _ s=>s) (body:=fun i117 s116 =>
  bo ((s116.length+1)*24≤140737488355328)<|
  some (.go (s116++[(a8.mk (y.getD i117 []) (cI 0 (y.getD i117 []) m))]))) (ε:=List a8) (ρ:=Empty) (fun j s=>s++[(fun k=>a8.mk k (cI 0 k m)) (y.getD j [])]) (fun j s=>s.length=j) (y.length-0) 0 [] rfl (fun j s _ hj hI=>⟨by rw [aE (by omega)],by simp [hI]⟩)
 rw [e1,e2];have:=ze (fun (s:List a8) (k:aj)=>s++[(fun k=>a8.mk k (cI 0 k m)) k]) [] y 0 [];rw [this];have gen:∀ (ts:List aj) (s:List a8),ts.foldl (fun s k=>s++[(fun k=>a8.mk k (cI 0 k m)) k]) s=s++ts.map (fun k=>a8.mk k (cI 0 k m)):=by
  intro ts;induction ts with
  | nil=>intro s;simp
  | cons t ts ih=>intro s;simp [ih]
 rw [List.drop_zero,gen];rfl
theorem OU (n:Int) (m:List (aj×Int)) (hm:zX m=true) (s:List aj) (hp:s.Perm (cb m)) :
 ((qk s).bind fun y97 =>
 (bR (σ:=(List a8)) (ε:=(List a8)) (ρ:=Empty) (fun i117 s116 =>
  bo ((s116.length+1)*24≤140737488355328)<|
  some (.go (s116++[(a8.mk (y97.getD i117 []) (cI 0 (y97.getD i117 []) m))]))
 ) (fun i117 s116=>s116) (y97.length-0) 0 []).bind<|aftE fun u148 =>
 (cF (Linear.mk n u148)).bind fun y151 =>
 bif y151 then (
  some ((Linear.mk n u148),0)
 ) else (
  some ((Linear.mk 0 []),3)
 ))=some (DH n m (vh (cb m))):=by
 simp only [zX,SY,decide_eq_true_eq,Tc] at hm;obtain ⟨_,hl,hk⟩:=hm;have hlen:(cb m).length≤m.length:=by unfold cb;rw [S7];exact List.length_filter_le _ _
 have hs:s.length≤1000:=by rw [hp.length_eq];omega
 unfold qk;rw [aE (by omega)];simp only [S6];rw [KN hp,OG];have hsi:(vh (cb m)).length≤1000:=by rw [(kN _).length_eq];omega
 rw [OD m _ (by omega)];simp only [S6,aftE];rw [iu _ (by simp;omega) (fun t ht=>by obtain ⟨k,hk1,rfl⟩:=List.mem_map.1 ht;have hk2:=(kN _).mem_iff.1 hk1;obtain ⟨e,he,rfl⟩:=List.mem_map.1 hk2;exact hk e (List.mem_filter.1 he).1)]
 simp only [S6,DH];cases bg (Linear.mk n ((vh (cb m)).map fun k=>a8.mk k (cI 0 k m)))<;>rfl
theorem OT {β:Type} (m:List (aj×Int)) (hm:zX m=true) (k:List aj→Option β) (v:β) (hk:∀ s,s.Perm (cb m)→k s=some v) :
 Ep (σ:=(List aj)) (ε:=Empty) (β:=β) m (fun e164 s94 =>
 bif (e164.2==0) then (
  some (.go s94)
 ) else (
  bo ((s94.length+1)*16≤140737488355328)<|
  some (.go (s94++[e164.1]))
 )) [] k=some v:=by
 simp only [zX,SY,decide_eq_true_eq,Tc] at hm;obtain ⟨hnd,hl,_⟩:=hm;have hnd:=Gi hnd;have hinj:∀ i j (hi:i<m.length) (hj:j<m.length),m[i].1=m[j].1→i=j:=by
  intro i j hi hj e;have h1:(m.map (·.1))[i]'(by simpa using hi)=(m.map (·.1))[j]'(by simpa using hj):=by simpa using e
  exact (List.getElem_inj hnd).1 h1
 refine N3 (Qy (fun seen s=>s.Nodup∧s.length≤seen.length∧∀ x,x∈s↔∃ i,i∈seen∧∃ h:i<m.length,m[i].1=x∧m[i].2≠0) (fun s e=>bif e.2==0 then s else s++[e.1]) ?_ ?_ m.length [] [] List.nodup_nil (fun i hi=>by simp at hi) (by simp) ⟨List.nodup_nil,by simp,fun x=>by simp⟩)
 ·rintro seen s i hi hs1 hs2 hs3 ⟨i1,i2,i3⟩;have hsl:seen.length≤m.length:=by have:=Am seen (List.range m.length) hs1 (fun x hx=>by simpa using hs3 x hx);simpa using this
  cases hz:m[i].2==0 with
  | true =>
   have hz':m[i].2=0:=by simpa using hz
   refine ⟨rfl,i1,by simp;omega,fun x=>?_⟩;simp only [cond_true];rw [i3];constructor
   ·rintro ⟨j,h1,h2⟩;exact ⟨j,by simp [h1],h2⟩
   ·rintro ⟨j,h1,h2,h3,h4⟩;rcases List.mem_append.1 h1 with h1 | h1
    ·exact ⟨j,h1,h2,h3,h4⟩
    ·have:j=i:=by simpa using h1
     subst this;exact absurd hz' h4
  | false =>
   have hz':m[i].2≠0:=by simpa using hz
   simp only [cond_false];rw [aE (by omega)];refine ⟨rfl,?_,by simp;omega,fun x=>?_⟩
   ·rw [List.nodup_append];refine ⟨i1,by simp,fun a ha b hb=>?_⟩;have hb:b=m[i].1:=by simpa using hb
    subst hb;intro e;obtain ⟨j,h1,h2,h3,_⟩:=(i3 a).1 ha;exact hs2 (hinj j i h2 hi (h3.trans e) ▸ h1)
   ·rw [List.mem_append,i3];constructor
    ·rintro (⟨j,h1,h2⟩ | h)
     ·exact ⟨j,by simp [h1],h2⟩
     ·have h:x=m[i].1:=by simpa using h
      exact ⟨i,by simp,hi,h.symm,hz'⟩
    ·rintro ⟨j,h1,h2,h3,h4⟩;rcases List.mem_append.1 h1 with h1 | h1
     ·exact .inl ⟨j,h1,h2,h3,h4⟩
     ·have:j=i:=by simpa using h1
      subst this;exact .inr (by simp [h3])
 ·rintro seen s hs1 hall hlt ⟨i1,i2,i3⟩;refine hk s ?_;have hn2:(cb m).Nodup:=by unfold cb;exact (List.Sublist.map _ List.filter_sublist).nodup hnd
  refine (List.perm_ext_iff_of_nodup i1 hn2).2 fun x=>?_;rw [i3];unfold cb;simp only [List.mem_map,List.mem_filter,Bool.not_eq_true',beq_eq_false_iff_ne];constructor
  ·rintro ⟨j,_,h2,h3,h4⟩;exact ⟨m[j],⟨List.getElem_mem h2,h4⟩,h3⟩
  ·rintro ⟨e,⟨h1,h2⟩,h3⟩;obtain ⟨j,hj,rfl⟩:=List.getElem_of_mem h1;exact ⟨j,hall j hj,hj,h3,h2⟩
theorem yS (n:Int) (m:List (aj×Int)) (hm:zX m=true):du n m=some (DH n m (vh (cb m))):=by unfold du;exact OT m hm _ _ fun s hp=>OU n m hm s hp
end Go.Proofs.YtpfoahpiaanlaaaGreatDoor
namespace Go.Sh
section
variable {α σ ε ρ:Type}
def Ai (g:α→σ→kr σ ε ρ) (fin:σ→ε):List α→σ→Out ε ρ
 | [],s=>.brk (fin s)
 | x::l,s=>match g x s with | .go s'=>Ai g fin l s' | .brk e=>.brk e | .ret r=>.ret r
theorem Ip {body:Nat→σ→Option (kr σ ε ρ)} {fin:Nat→σ→ε} {f:σ→ε} (d:α) (l:List α) (g:α→σ→kr σ ε ρ) (I:Nat→σ→Prop) (hf:∀ i s,fin i s=f s) :
 ∀ (i:Nat) (s:σ),I i s→(∀ j s,i≤j→j<l.length→I j s→body j s=some (g (l.getD j d) s)∧∀ s',g (l.getD j d) s = .go s'→I (j+1) s') →
 bR body fin (l.length-i) i s=some (Ai g f (l.drop i) s):=by
 intro i s hI h;by_cases hi:i<l.length
 ·obtain ⟨k,hk⟩:∃ k,l.length-i=k+1:=⟨l.length-i-1,by omega⟩;obtain ⟨h1,h2⟩:=h i s (Nat.le_refl _) hi hI;have hx:l.getD i d=l[i]:=by simp [SW,SX hi]
  rw [hx] at h1 h2;rw [hk,List.drop_eq_getElem_cons hi];simp only [bR,h1,S6,Ai];cases hg:g l[i] s with
  | go s' =>
   have ih:=Ip d l g I hf (i+1) s' (h2 s' hg) (fun j s h1 h2=>h j s (by omega) h2);rw [show l.length-(i+1)=k by omega] at ih;exact ih
  | brk e=>rfl
  | ret r=>rfl
 ·rw [show l.length-i=0 by omega,List.drop_eq_nil_of_le (by omega)];simp [bR,Ai,hf]
 termination_by i=>l.length-i
theorem F1 {body:Nat→σ→Option (kr σ ε ρ)} {fin:Nat→σ→ε} {f:σ→ε} (d:α) (l:List α) (g:α→σ→kr σ ε ρ) (I:Nat→σ→Prop) (hf:∀ i s,fin i s=f s) (s:σ) (hI:I 0 s)
 (h:∀ j s,j<l.length→I j s→body j s=some (g (l.getD j d) s)∧∀ s',g (l.getD j d) s = .go s'→I (j+1) s') :
 bR body fin (l.length-0) 0 s=some (Ai g f l s):=by
 have:=Ip d l g I hf 0 s hI (fun j s _ h1 h2=>h j s h1 h2);simpa using this
end
end Go.Sh
namespace Go.Proofs.YtpfoahpiaanlaaaGreatDoor
open Go.Ab Go.Sh
def fY (f:aj→Int):List a8→Int
 | []=>0
 | t::ts=>t.C*f t.Var+fY f ts
theorem prod_bound {a b A B:Int} (h1 : -A≤a) (h2:a≤A) (h3 : -B≤b) (h4:b≤B) : -(A*B)≤a*b∧a*b≤A*B:=by
 have hA:0≤A:=by omega
 have hB:0≤B:=by omega
 have hn:(a*b).natAbs≤A.natAbs*B.natAbs:=by rw [Int.natAbs_mul];exact Nat.mul_le_mul (by omega) (by omega)
 have e:((A.natAbs*B.natAbs:Nat):Int)=A*B:=by rw [Int.natCast_mul];congr 1<;>omega
 omega
theorem EZ {l:Linear} (h:bg l=true):∀ t∈l.Terms,(-1000000≤t.C∧t.C≤1000000)∧tt t.Var=true:=by
 intro t ht;obtain ⟨j,hj,rfl⟩:=List.getElem_of_mem ht;simp only [bg,SY,Tc] at h;have:=h.1 j (by simpa using hj);have e:KR l j=l.Terms[j]:=by simp [KR,SW,SX hj]
 simp only [q8,e,SY,NN,decide_eq_true_eq] at this;exact ⟨this.2.2.1,this.1⟩
theorem JE {l:Linear} (h:bg l=true) : -1000000≤l.Const∧l.Const≤1000000:=by simp only [bg,SY,NN,decide_eq_true_eq] at h;exact h.2.1
theorem Es {s:aj} (h:tt s=true):s.length≤30:=by
 cases s with
 | nil=>simp
 | cons c r =>
  simp only [tt] at h;cases hc:c==95
  ·simp only [hc,cond_false,SY,decide_eq_true_eq] at h;simp;omega
  ·simp only [hc,cond_true,SY,decide_eq_true_eq] at h;simp;omega
theorem fj {l:Linear} (h:bg l=true):l.Terms.length≤12:=by unfold bg at h;simp only [SY,decide_eq_true_eq] at h;exact h.2.2
theorem nc {l:Linear} (h:bg l=true):Dd l :=
 ⟨by have:=fj h;omega,fun t ht=>by have:=Es (EZ h t ht).2;omega⟩
end Go.Proofs.YtpfoahpiaanlaaaGreatDoor
namespace Go.Sh
def xC (f:aj→Int):List (aj×Int)→Int
 | []=>0
 | (k,c)::m=>c*f k+xC f m
theorem I0 (f:aj→Int) (x:aj) (v:Int):∀ m:List (aj×Int),xC f (px x v m)=xC f m+(v-cI 0 x m)*f x
 | []=>by simp [px,cI,xC]
 | (k,u)::m=>by
  by_cases h:k=x
  ·subst h;simp only [px,cI,if_pos,xC];rw [Int.sub_mul];omega
  ·simp only [px,cI,if_neg h,xC];rw [I0 f x v m];omega
theorem Gf (x y:aj) (v:Int):∀ m:List (aj×Int),cI 0 y (px x v m)=if x=y then v else cI 0 y m
 | []=>by simp [px,cI]
 | (k,u)::m=>by
  by_cases h:k=x
  ·subst h;simp only [px,cI,if_pos];by_cases h2:k=y
   ·simp [h2]
   ·simp [h2]
  ·simp only [px,if_neg h,cI];rw [Gf x y v m];by_cases h2:k=y
   ·subst h2;simp [Ne.symm h]
   ·simp [h2]
theorem xi (x:aj) (v:Int):∀ m:List (aj×Int),(px x v m).map (·.1)=if x∈m.map (·.1) then m.map (·.1) else m.map (·.1)++[x]
 | []=>by simp [px]
 | (k,u)::m=>by
  by_cases h:k=x
  ·subst h;simp [px]
  ·simp only [px,if_neg h,List.map_cons,xi x v m,List.mem_cons,Ne.symm h,false_or];split<;>simp
structure Sm (B:Int) (K:Nat) (m:List (aj×Int)):Prop where
 bd:∀ x,-B≤cI 0 x m∧cI 0 x m≤B
 len:m.length≤K
 nd:(m.map (·.1)).Nodup
 key:∀ x∈m.map (·.1),x.length≤140737488355328
theorem Sm.nil:Sm 0 0 []:=⟨fun x=>by simp [cI],by simp,by simp,by simp⟩
theorem Sm.put {B:Int} {K:Nat} {m:List (aj×Int)} (h:Sm B K m) {x:aj} {v:Int} {B':Int} (hx:x.length≤140737488355328) (hB:B≤B') (h1 : -B'≤v) (h2:v≤B'):Sm B' (K+1) (px x v m):=by
 refine ⟨fun y=>?_,?_,?_,fun y hy=>?_⟩
 ·rw [Gf];split
  ·exact ⟨h1,h2⟩
  ·have:=h.bd y;omega
 ·have e:=congrArg List.length (xi x v m);have:=h.len;split at e<;>simp at e<;>omega
 ·rw [xi];split
  ·exact h.nd
  ·rename_i hn;rw [List.nodup_append];exact ⟨h.nd,by simp,fun a ha b hb=>by
    have:b=x:=by simpa using hb
    subst this;intro e;subst e;exact hn ha⟩
 ·rw [xi] at hy;split at hy
  ·exact h.key y hy
  ·rcases List.mem_append.1 hy with hy | hy
   ·exact h.key y hy
   ·have:y=x:=by simpa using hy
    subst this;exact hx
theorem Sm.mono {B B':Int} {K K':Nat} {m:List (aj×Int)} (h:Sm B K m) (h1:B≤B') (h2:K≤K'):Sm B' K' m :=
 ⟨fun x=>by have:=h.bd x;omega,by have:=h.len;omega,h.nd,h.key⟩
theorem Gj:∀ {l:List aj},l.Nodup→Bg l=true
 | [],_=>rfl
 | x::l,h=>by rw [List.nodup_cons] at h;simp only [Bg,SY,Bool.not_eq_true',List.any_eq_false,beq_iff_eq];exact ⟨fun y hy e=>h.1 (e ▸ hy),Gj h.2⟩
end Go.Sh
namespace Go.Proofs.YtpfoahpiaanlaaaGreatDoor
open Go.Ab Go.Sh
theorem Qd {B:Int} {K:Nat} {m:List (aj×Int)} (h:Sm B K m) (hK:K≤1000):zX m=true:=by simp only [zX,SY,decide_eq_true_eq,Tc];refine ⟨Gj h.nd,by have:=h.len;omega,fun e he=>h.key e.1 (List.mem_map.2 ⟨e,he,rfl⟩)⟩
def HV (k:Int) (t:a8) (m:List (aj×Int)):List (aj×Int):=px t.Var (bq ((cI 0 t.Var m)+(bq (k*t.C)))) m
def GB (l:Linear) (k:Int) (n:Int) (m:List (aj×Int)):Int×List (aj×Int):=(bq (n+bq (k*l.Const)),l.Terms.foldl (fun m t=>HV k t m) m)
theorem Ag (l:Linear) (k n:Int) (m:List (aj×Int)):jg l k n m=some (GB l k n m):=by
 unfold jg;obtain ⟨s',e1,e2,_⟩:=J3 (σ:=List (aj×Int)) (ε:=(Int×(List (aj×Int)))) (ρ:=(Int×(List (aj×Int)))) (fin:=fun _ s41=>((bq (n+(bq (k*l.Const)))),s41))
  (body:=fun i42 s41 =>
  some (.go (px ((l.Terms.getD i42 ⟨[],0⟩).Var) (bq ((cI 0 ((l.Terms.getD i42 ⟨[],0⟩).Var) s41)+(bq (k*((l.Terms.getD i42 ⟨[],0⟩).C))))) s41)))
  (fun j m=>HV k (l.Terms.getD j ⟨[],0⟩) m) (fun _ _=>True) (l.Terms.length-0) 0 m trivial (fun j s _ _ _=>⟨rfl,trivial⟩)
 rw [e1];simp only [S6,Sh.aft,GB,S9];rw [e2];have:=ze (fun (m:List (aj×Int)) (t:a8)=>HV k t m) ⟨[],0⟩ l.Terms 0 m;rw [this];rfl
theorem I2 (a b c:Int):a*b*c=a*(b*c):=Int.mul_assoc a b c
theorem DX (f:aj→Int) (k:Int) (hk : -1000000≤k∧k≤1000000):∀ (ts:List a8) (m:List (aj×Int)) (B:Int) (K:Nat),(∀ t∈ts,(-1000000≤t.C∧t.C≤1000000)∧t.Var.length≤140737488355328) →
 Sm B K m→0≤B→B+(ts.length:Int)*1000000000000≤9000000000000000000 →
 Sm (B+(ts.length:Int)*1000000000000) (K+ts.length) (ts.foldl (fun m t=>HV k t m) m)∧xC f (ts.foldl (fun m t=>HV k t m) m)=xC f m+k*fY f ts
 | [],m,B,K,_,hs,_,_=>⟨by simpa using hs,by simp [fY]⟩
 | t::ts,m,B,K,hC,hs,hB,hle=>by
  obtain ⟨⟨c1,c2⟩,hv⟩:=hC t (by simp);obtain ⟨b1,b2⟩:=prod_bound hk.1 hk.2 c1 c2;have hlen:(((t::ts).length:Nat):Int)=(ts.length:Int)+1:=by simp
  rw [hlen] at hle;have hle':B+((ts.length:Int)*1000000000000+1000000000000)≤9000000000000000000:=by rw [Int.add_mul] at hle;omega
  have hp:0≤(ts.length:Int)*1000000000000:=by omega
  obtain ⟨m1,m2⟩:=hs.bd t.Var;have e:HV k t m=px t.Var (cI 0 t.Var m+k*t.C) m:=by unfold HV;rw [fy (n:=k*t.C) (by unfold rL;omega),fy (by unfold rL;omega)]
  have hs1:=hs.put (v:=cI 0 t.Var m+k*t.C) (B':=B+1000000000000) hv (by omega) (by omega) (by omega);rw [← e] at hs1;obtain ⟨g1,g2⟩:=DX f k hk ts (HV k t m) (B+1000000000000) (K+1) (fun x hx=>hC x (by simp [hx])) hs1 (by omega) (by omega);rw [List.foldl_cons,hlen];refine ⟨?_,?_⟩
  ·have e1:B+1000000000000+(ts.length:Int)*1000000000000=B+((ts.length:Int)+1)*1000000000000:=by rw [Int.add_mul];omega
   have e2:K+1+ts.length=K+(t::ts).length:=by simp;omega
   rw [← e1,← e2];exact g1
  ·rw [g2,e,I0];simp only [fY];rw [Int.mul_add,show cI 0 t.Var m+k*t.C-cI 0 t.Var m=k*t.C by omega,I2];omega
theorem Mk (f:aj→Int) {a b:List a8} (h:a.Perm b):fY f a=fY f b:=by
 induction h with
 | nil=>rfl
 | cons x _ ih=>simp only [fY,ih]
 | swap x y l=>simp only [fY];omega
 | trans _ _ h1 h2=>exact h1.trans h2
theorem Mr {k x:aj} {u:Int} {m:List (aj×Int)} (h:k≠x):cI 0 x ((k,u)::m)=cI 0 x m:=by simp [cI,h]
theorem Mt (m:List (aj×Int)) {x:aj} (h:x∈cb m):x∈m.map (·.1):=by unfold cb at h;obtain ⟨e,he,rfl⟩:=List.mem_map.1 h;exact List.mem_map.2 ⟨e,(List.mem_filter.1 he).1,rfl⟩
theorem Gh (f:aj→Int):∀ m:List (aj×Int),(m.map (·.1)).Nodup→fY f ((cb m).map fun k=>a8.mk k (cI 0 k m))=xC f m
 | [],_=>rfl
 | (k,u)::m,h=>by
  rw [List.map_cons,List.nodup_cons] at h;have ih:=Gh f m h.2;have hskip:(cb m).map (fun x=>a8.mk x (cI 0 x ((k,u)::m)))=(cb m).map fun x=>a8.mk x (cI 0 x m):=by refine List.map_congr_left fun x hx=>?_;rw [Mr fun e=>h.1 (by subst e;exact Mt m hx)]
  by_cases hu:u=0
  ·subst hu;have e:cb ((k,(0:Int))::m)=cb m:=by simp [cb]
   rw [e,hskip,ih];simp [xC]
  ·have e:cb ((k,u)::m)=k::cb m:=by simp [cb,hu]
   rw [e,List.map_cons,hskip];simp only [fY,ih,xC];simp [cI]
def yt (v:aj) (c:Int) (t:a8) (s:Bool×List a8):Bool×List a8 :=
 let ins := !s.1 && !(Op.bytesLess t.Var v||t.Var==v)
 let out:=bif ins then s.2++[a8.mk v c] else s.2
 (bif t.Var==v then true else (s.1||ins),out++[a8.mk t.Var (bif t.Var==v then bq (t.C+c) else t.C)])
def nz (t:a8):Bool := !(t.C==0)
def yu (ts:List a8) (v:aj) (c:Int):List a8 :=
 let r:=ts.foldl (fun s t=>yt v c t s) (false,[])
 bif r.1 then r.2 else r.2++[a8.mk v c]
def tw (ts:List a8) (v:aj) (c:Int):List a8:=(yu ts v c).filter nz
theorem LA (v:aj) (c:Int):∀ (ts:List a8) (s:Bool×List a8),s.1=true→(ts.foldl (fun s t=>yt v c t s) s).1=true
 | [],s,h=>h
 | t::ts,s,h=>by rw [List.foldl_cons];refine LA v c ts _ ?_;unfold yt;simp only [h];cases t.Var==v<;>rfl
theorem Hu (v:aj) (c:Int):∀ (ts:List a8) (s:Bool×List a8),(ts.foldl (fun s t=>yt v c t s) s).2.length≤s.2.length+ts.length+(bif s.1 then 0 else (bif (ts.foldl (fun s t=>yt v c t s) s).1 then 1 else 0))
 | [],s=>by simp
 | t::ts,s=>by have ih:=Hu v c ts (yt v c t s);have hp:=LA v c ts (yt v c t s);rw [List.foldl_cons];generalize ts.foldl (fun s t=>yt v c t s) (yt v c t s)=r at ih hp ⊢;obtain ⟨s1,s2⟩:=s;unfold yt at ih hp;cases s1<;>cases h1:Op.bytesLess t.Var v<;>cases h2:t.Var==v<;>cases hr:r.1<;>simp [h1,h2,hr] at ih hp ⊢ <;> omega
theorem Gn (ts:List a8) (v:aj) (c:Int):(yu ts v c).length≤ts.length+1:=by
 have:=Hu v c ts (false,[]);unfold yu;simp only at this ⊢;cases hr:(ts.foldl (fun s t=>yt v c t s) (false,[])).1 with
 | true=>rw [hr] at this;simp at this ⊢;omega
 | false=>rw [hr] at this;simp at this ⊢;omega
theorem MB (ts:List a8) (v:aj) (c:Int):(tw ts v c).length≤ts.length+1:=Nat.le_trans (List.length_filter_le _ _) (Gn ts v c)
def G0 (s1:Int×Int×List a8):Option (kr (Int×Int×List a8) (Int×List a8) Empty) :=
 bif decide (s1.2.1<((s1.2.2.length:Nat):Int)) then (
  bo (0≤s1.2.1∧s1.2.1<(s1.2.2.length:Int))<|
  bo (s1.2.1.toNat<s1.2.2.length)<|
  ((
   bif (((s1.2.2.getD s1.2.1.toNat ⟨[],0⟩).C)==0) then (
    some (s1.1,s1.2.2)
   ) else (
    bo (0≤s1.1∧s1.1<(s1.2.2.length:Int))<|
    bo (s1.1.toNat<s1.2.2.length)<|
    some ((bq (s1.1+1)),(s1.2.2.set s1.1.toNat (a8.mk ((s1.2.2.getD s1.2.1.toNat ⟨[],0⟩).Var) ((s1.2.2.getD s1.2.1.toNat ⟨[],0⟩).C))))
   )
  ):Option (Int×(List a8))).bind fun v4 =>
  some (.go (v4.1,(bq (s1.2.1+1)),v4.2))
 ) else (
  some (.brk (s1.1,s1.2.2))
 )
theorem AZ (o:List a8) (ho:o.length≤140737488355328):∀ (n i k:Nat) (l:List a8) (N:Nat),i+n=o.length→n<N→l.length=o.length→k=((o.take i).filter nz).length→l.take k=(o.take i).filter nz→l.drop i=o.drop i→k≤i →
 ∃ l',vq G0 N ((k:Int),(i:Int),l)=some (.brk (((o.filter nz).length:Int),l'))∧l'.take (o.filter nz).length=o.filter nz∧l'.length=o.length
 | 0,i,k,l,N,h1,h2,h3,h4,h5,h6,h7=>by
  obtain ⟨N',rfl⟩:∃ j,N=j+1:=⟨N-1,by omega⟩;have hi:i=o.length:=by omega
  rw [hi,List.take_length] at h4 h5;refine ⟨l,?_,by rw [← h4];exact h5,h3⟩;simp only [vq,G0];rw [S4 (by omega),← h4];rfl
 | n+1,i,k,l,N,h1,h2,h3,h4,h5,h6,h7=>by
  obtain ⟨N',rfl⟩:∃ j,N=j+1:=⟨N-1,by omega⟩;have hio:i<o.length:=by omega
  have hil:i<l.length:=by omega
  have hget:l[i]=o[i]:=by
   have e1:=List.drop_eq_getElem_cons hil;have e2:=List.drop_eq_getElem_cons hio;rw [h6,e2] at e1;injection e1 with e1 _
   exact e1.symm
  have hD:l.getD i ⟨[],0⟩=o[i]:=by rw [SW,SX hil];exact hget
  have ht:o.take (i+1)=o.take i++[o[i]]:=by rw [List.take_add_one];simp [SX hio]
  have hdrop:l.drop (i+1)=o.drop (i+1):=by have:=congrArg (List.drop 1) h6;simpa [List.drop_drop,Nat.add_comm] using this
  simp only [vq];have hb:G0 ((k:Int),(i:Int),l)=some (.go (bif nz o[i] then (((k+1:Nat):Int),((i+1:Nat):Int),l.set k o[i]) else ((k:Int),((i+1:Nat):Int),l))):=by
   unfold G0;simp only;rw [S5 (by omega)];simp only [cond_true,Int.toNat_natCast];rw [aE ⟨by omega,by omega⟩,aE (by omega),hD,fy (n:=((i:Int)+1)) (by unfold rL;omega)];unfold nz;cases o[i].C==0 with
   | true=>rfl
   | false =>
    simp only [cond_false,Bool.not_false,cond_true];rw [aE ⟨by omega,by omega⟩,aE (by omega),fy (by unfold rL;omega)];rfl
  rw [hb];simp only [S6,CZ];cases hz:nz o[i] with
  | false =>
   simp only [cond_false];have hf:(o.take (i+1)).filter nz=(o.take i).filter nz:=by rw [ht,List.filter_append];simp [hz]
   exact AZ o ho n (i+1) k l N' (by omega) (by omega) h3 (by rw [hf];exact h4) (by rw [hf];exact h5) hdrop (by omega)
  | true =>
   simp only [cond_true];have hf:(o.take (i+1)).filter nz=(o.take i).filter nz++[o[i]]:=by rw [ht,List.filter_append];simp [hz]
   refine AZ o ho n (i+1) (k+1) (l.set k o[i]) N' (by omega) (by omega) (by simp [h3]) (by rw [hf];simp [h4]) ?_ ?_ (by omega)
   ·rw [hf,← h5];have hk:k<l.length:=by omega
    rw [List.take_add_one];simp [List.getElem?_set_self,hk,List.take_set_of_le]
   ·rw [List.drop_set_of_lt (by omega)];exact hdrop
theorem ID {α σ ε ρ:Type} (g:σ→α→σ):∀ (l:List α) (s:σ),Ai (ε:=σ) (ρ:=ρ) (fun x s=>kr.go (g s x)) (fun s=>s) l s = .brk (l.foldl g s)
 | [],s=>rfl
 | x::l,s=>by simp only [Ai];rw [ID (ε:=ε) g l];rfl
theorem PX (l:Linear) (v:aj) (c:Int) (h:l.Terms.length≤10000):uF l v c=some (Linear.mk l.Const (tw l.Terms v c)):=by
 unfold uF;rw [F1 (fin:=fun _ s=>(s.1,s.2)) (f:=fun s=>s) ⟨[],0⟩ l.Terms (fun t s=>kr.go (yt v c t s)) (fun j s=>s.2.length≤2*j) (fun _ _=>rfl) (false,[]) (by simp) (fun j s hj hI=>by
  generalize l.Terms.getD j ⟨[],0⟩=t;obtain ⟨s1,s2⟩:=s;simp only at hI;refine ⟨?_,fun s' e=>?_⟩
  ·unfold yt;simp only;cases s1 with
   | true =>
    simp only [Bool.not_true,Bool.false_and,cond_true,cond_false,S6];cases t.Var==v with
    | true =>
     simp only [cond_true,S6];rw [aE (by omega)]
    | false =>
     simp only [cond_false,S6];rw [aE (by omega)];rfl
   | false =>
    simp only [Bool.not_false,Bool.true_and,Bool.false_or];cases (!(Op.bytesLess t.Var v||t.Var==v)) with
    | true =>
     simp only [cond_true];rw [aE (by omega)];simp only [S6];cases t.Var==v with
     | true =>
      simp only [cond_true,S6];rw [aE (by simp;omega)]
     | false =>
      simp only [cond_false,S6];rw [aE (by simp;omega)]
    | false =>
     simp only [cond_false,S6];cases t.Var==v with
     | true =>
      simp only [cond_true,S6];rw [aE (by omega)]
     | false =>
      simp only [cond_false,S6];rw [aE (by omega)]
  ·injection e with e
   subst e;unfold yt;simp only;cases (!s1 && !(Op.bytesLess t.Var v||t.Var==v))<;>simp<;>omega)]
 rw [ID (α:=a8) (ε:=Bool×List a8) (fun s t=>yt v c t s)];simp only [S6,aftE];have hl:=Gn l.Terms v c;have hl2:=Hu v c l.Terms (false,[]);have hpl:((bif (l.Terms.foldl (fun s t=>yt v c t s) (false,[])).1 then some (l.Terms.foldl (fun s t=>yt v c t s) (false,[])).2 else bo (((l.Terms.foldl (fun s t=>yt v c t s) (false,[])).2.length+1)*24≤140737488355328)<|some ((l.Terms.foldl (fun s t=>yt v c t s) (false,[])).2++[a8.mk v c])):Option (List a8))=some (yu l.Terms v c):=by
  unfold yu;simp only;cases hr:(l.Terms.foldl (fun s t=>yt v c t s) (false,[])).1 with
  | true=>rfl
  | false =>
   rw [hr] at hl2;simp at hl2;simp only [cond_false];rw [aE (by omega)]
 refine (congrArg (fun o=>Option.bind o _) hpl).trans ?_;simp only [S6];obtain ⟨l',e1,e2,e3⟩:=AZ (yu l.Terms v c) (by omega) (yu l.Terms v c).length 0 0 (yu l.Terms v c) 4294967296 (by omega) (by omega) rfl (by simp) (by simp) rfl (by omega);have hfl:=List.length_filter_le nz (yu l.Terms v c);refine (congrArg (fun o:Option (Out (Int×List a8) Empty)=>Option.bind o _) e1).trans ?_;simp only [S6,aftE];rw [aE ⟨by omega,by omega⟩,Int.toNat_natCast,e2];rfl
def IV (l:Linear):Linear×Int:=bif bg l then (l,0) else (Linear.mk 0 [],3)
theorem Kh (l:Linear):iK l=some (IV l):=by unfold iK IV;rw [dX];simp only [S6];cases bg l<;>rfl
end Go.Proofs.YtpfoahpiaanlaaaGreatDoor
namespace Go.Sh
theorem AR:∀ x:aj,Op.bytesLess x x=false
 | []=>rfl
 | a::x=>by simp [Op.bytesLess,AR x]
theorem p7:∀ x y z:aj,Op.bytesLess x y=true→Op.bytesLess y z=true→Op.bytesLess x z=true
 | _,[],_,h,_=>by simp [Op.bytesLess] at h
 | _,_::_,[],_,h=>by simp [Op.bytesLess] at h
 | [],_::_,_::_,_,_=>rfl
 | a::x,b::y,c::z,h1,h2=>by
  simp only [Op.bytesLess,Bool.or_eq_true,SY,decide_eq_true_eq,beq_iff_eq] at h1 h2 ⊢;rcases h1 with h1 | ⟨rfl,h1⟩
  ·rcases h2 with h2 | ⟨rfl,h2⟩
   ·exact .inl (UInt8.lt_trans h1 h2)
   ·exact .inl h1
  ·rcases h2 with h2 | ⟨rfl,h2⟩
   ·exact .inl h2
   ·exact .inr ⟨rfl,p7 x y z h1 h2⟩
theorem K2:∀ x y:aj,x<y↔Op.bytesLess x y=true
 | x,[]=>by simp [Op.bytesLess]
 | [],b::y=>by simp [Op.bytesLess]
 | a::x,b::y=>by rw [List.cons_lt_cons_iff,K2 x y];simp only [Op.bytesLess,Bool.or_eq_true,SY,decide_eq_true_eq,beq_iff_eq]
theorem RN {x y:aj} (h:Op.bytesLess x y=true):Fq x y=true:=by simp only [Fq,decide_eq_true_eq];show ¬ y<x;rw [K2];intro h2;have:=p7 _ _ _ h h2;rw [AR] at this;cases this
end Go.Sh
namespace Go.Proofs.YtpfoahpiaanlaaaGreatDoor
open Go.Ab Go.Sh
def MV (ts:List a8):Prop:=ts.Pairwise (fun a b=>Op.bytesLess a.Var b.Var=true)
def Nz (ts:List a8):Prop:=∀ t∈ts,t.C≠0
def ind (v:aj) (x:aj):Int:=if x=v then 1 else 0
theorem qf (v:aj):∀ ts:List a8,(∀ t∈ts,t.Var≠v)→fY (ind v) ts=0
 | [],_=>rfl
 | t::ts,h=>by simp only [fY,ind,if_neg (h t (by simp)),Int.mul_zero,Int.zero_add];exact qf v ts fun x hx=>h x (by simp [hx])
theorem xN {x y:aj} (h:Op.bytesLess x y=true):x≠y:=fun e=>by rw [e,AR] at h;cases h
theorem GS (x y:aj):Op.bytesLess x y=true∨x=y∨Op.bytesLess y x=true:=by
 rcases Bool.eq_false_or_eq_true (Op.bytesLess x y) with h | h
 ·exact .inl h
 ·rcases Bool.eq_false_or_eq_true (Op.bytesLess y x) with h' | h'
  ·exact .inr (.inr h')
  ·refine .inr (.inl ?_);have h1:¬ x<y:=fun e=>by rw [K2,h] at e;cases e
   have h2:¬ y<x:=fun e=>by rw [K2,h'] at e;cases e
   exact List.le_antisymm (List.not_lt.1 h2) (List.not_lt.1 h1)
theorem IW:∀ a b:List a8,MV a→Nz a→MV b→Nz b→(∀ f,fY f a=fY f b)→a=b
 | [],[],_,_,_,_,_=>rfl
 | [],t::ts,_,_,h1,h2,h=>by
  have:=h (ind t.Var);simp only [fY] at this;rw [qf t.Var ts fun x hx=>Ne.symm (xN ((List.pairwise_cons.1 h1).1 x hx))] at this;simp only [ind,if_pos,Int.mul_one,Int.add_zero] at this;exact absurd this.symm (h2 t (by simp))
 | t::ts,[],h1,h2,_,_,h=>by
  have:=h (ind t.Var);simp only [fY] at this;rw [qf t.Var ts fun x hx=>Ne.symm (xN ((List.pairwise_cons.1 h1).1 x hx))] at this;simp only [ind,if_pos,Int.mul_one,Int.add_zero] at this;exact absurd this (h2 t (by simp))
 | t::ts,u::us,h1,h2,h3,h4,h=>by
  have ht:=List.pairwise_cons.1 h1;have hu:=List.pairwise_cons.1 h3;have et:fY (ind t.Var) ts=0:=qf t.Var ts fun x hx=>Ne.symm (xN (ht.1 x hx));have eu:fY (ind u.Var) us=0:=qf u.Var us fun x hx=>Ne.symm (xN (hu.1 x hx));have i1:=h (ind t.Var);have i2:=h (ind u.Var);simp only [fY] at i1 i2;rcases GS t.Var u.Var with hl | he | hl
  ·have z:fY (ind t.Var) us=0:=qf t.Var us fun x hx=>Ne.symm (xN (p7 _ _ _ hl (hu.1 x hx)));rw [et,z] at i1;simp only [ind,if_pos,if_neg (Ne.symm (xN hl)),Int.mul_one,Int.mul_zero,Int.add_zero] at i1;exact absurd i1 (h2 t (by simp))
  ·rw [et,he,eu] at i1;simp only [ind,if_pos,Int.mul_one,Int.add_zero] at i1;have e:t=u:=by obtain ⟨tv,tc⟩:=t;obtain ⟨uv,uc⟩:=u;simp only at he i1;rw [he,i1]
   subst e;rw [IW ts us ht.2 (fun x hx=>h2 x (by simp [hx])) hu.2 (fun x hx=>h4 x (by simp [hx])) fun f=>by have:=h f;simp only [fY] at this;omega]
  ·have z:fY (ind u.Var) ts=0:=qf u.Var ts fun x hx=>Ne.symm (xN (p7 _ _ _ hl (ht.1 x hx)));rw [eu,z] at i2;simp only [ind,if_pos,if_neg (Ne.symm (xN hl)),Int.mul_one,Int.mul_zero,Int.add_zero] at i2;exact absurd i2.symm (h4 u (by simp))
def tg (v:aj) (c:Int):List a8→List a8
 | []=>[a8.mk v c]
 | t::ts=>if t.Var=v then a8.mk v (t.C+c)::ts else bif Op.bytesLess t.Var v then t::tg v c ts else a8.mk v c::t::ts
theorem Ew (v:aj) (c:Int):∀ (ts o:List a8),(∀ t∈ts,t.Var≠v)→ts.foldl (fun s t=>yt v c t s) (true,o)=(true,o++ts)
 | [],o,_=>by simp
 | t::ts,o,h=>by
  have e:yt v c t (true,o)=(true,o++[t]):=by unfold yt;simp only [beq_eq_false_iff_ne.2 (h t (by simp)),Bool.not_true,Bool.false_and,cond_false,Bool.or_false]
  rw [List.foldl_cons,e,Ew v c ts _ fun x hx=>h x (by simp [hx])];simp
theorem Lz (v:aj) (c:Int):∀ (ts o:List a8),MV ts→(∀ t∈ts,bq (t.C+c)=t.C+c) →
 (bif (ts.foldl (fun s t=>yt v c t s) (false,o)).1 then (ts.foldl (fun s t=>yt v c t s) (false,o)).2 else (ts.foldl (fun s t=>yt v c t s) (false,o)).2++[a8.mk v c])=o++tg v c ts
 | [],o,_,_=>by simp [tg]
 | t::ts,o,hs,hw=>by
  have ht:=List.pairwise_cons.1 hs;rw [List.foldl_cons];by_cases hv:t.Var=v
  ·have e:yt v c t (false,o)=(true,o++[a8.mk v (t.C+c)]):=by unfold yt;simp only [hv,beq_self_eq_true,Bool.or_true,Bool.not_true,Bool.and_false,cond_false,cond_true,hw t (by simp)]
   rw [e,Ew v c ts _ fun x hx=>Ne.symm (xN (hv ▸ ht.1 x hx))];simp [tg,hv]
  ·cases hl:Op.bytesLess t.Var v with
   | true =>
    have e:yt v c t (false,o)=(false,o++[t]):=by unfold yt;simp only [beq_eq_false_iff_ne.2 hv,hl,Bool.true_or,Bool.not_true,Bool.and_false,cond_false,Bool.or_self]
    rw [e,Lz v c ts _ ht.2 fun x hx=>hw x (by simp [hx])];simp [tg,hv,hl]
   | false =>
    have hvl:Op.bytesLess v t.Var=true:=by
     rcases GS t.Var v with h | h | h
     ·rw [h] at hl;cases hl
     ·exact absurd h hv
     ·exact h
    have e:yt v c t (false,o)=(true,o++[a8.mk v c]++[t]):=by unfold yt;simp only [beq_eq_false_iff_ne.2 hv,hl,Bool.or_self,Bool.not_false,Bool.and_self,cond_false,cond_true,Bool.or_true]
    rw [e,Ew v c ts _ fun x hx=>Ne.symm (xN (p7 _ _ _ hvl (ht.1 x hx)))];simp [tg,hv,hl]
theorem MA {ts:List a8} (v:aj) (c:Int) (hs:MV ts) (hw:∀ t∈ts,bq (t.C+c)=t.C+c):tw ts v c=(tg v c ts).filter nz:=by have:=Lz v c ts [] hs hw;unfold tw yu;simp only;rw [this];simp
theorem IJ (f:aj→Int) (v:aj) (c:Int):∀ ts:List a8,fY f (tg v c ts)=fY f ts+c*f v
 | []=>by simp [tg,fY]
 | t::ts=>by
  unfold tg;by_cases hv:t.Var=v
  ·rw [if_pos hv];simp only [fY,hv];rw [Int.add_mul];omega
  ·rw [if_neg hv];cases Op.bytesLess t.Var v
   ·simp only [cond_false,fY];omega
   ·simp only [cond_true,fY,IJ f v c ts];omega
theorem D2 (v:aj) (c:Int):∀ (ts:List a8) (x:a8),x∈tg v c ts→x∈ts∨(x.Var=v∧(x.C=c∨∃ t∈ts,x.C=t.C+c))
 | [],x,h=>by
  have:x=a8.mk v c:=by simpa [tg] using h
  subst this;exact .inr ⟨rfl,.inl rfl⟩
 | t::ts,x,h=>by
  unfold tg at h;by_cases hv:t.Var=v
  ·rw [if_pos hv] at h;rcases List.mem_cons.1 h with rfl | h
   ·exact .inr ⟨rfl,.inr ⟨t,by simp,rfl⟩⟩
   ·exact .inl (by simp [h])
  ·rw [if_neg hv] at h;cases hl:Op.bytesLess t.Var v with
   | true =>
    rw [hl,cond_true] at h;rcases List.mem_cons.1 h with rfl | h
    ·exact .inl (by simp)
    ·rcases D2 v c ts x h with h | ⟨h1,h2⟩
     ·exact .inl (by simp [h])
     ·refine .inr ⟨h1,h2.imp id ?_⟩;rintro ⟨y,hy,e⟩;exact ⟨y,by simp [hy],e⟩
   | false =>
    rw [hl,cond_false] at h;rcases List.mem_cons.1 h with rfl | h
    ·exact .inr ⟨rfl,.inl rfl⟩
    ·exact .inl h
theorem II (v:aj) (c:Int):∀ ts:List a8,(tg v c ts).length≤ts.length+1
 | []=>by simp [tg]
 | t::ts=>by
  have:=II v c ts;unfold tg;by_cases hv:t.Var=v
  ·rw [if_pos hv];simp
  ·rw [if_neg hv];cases Op.bytesLess t.Var v
   ·simp
   ·simp only [cond_true,List.length_cons];omega
theorem IK (v:aj) (c:Int):∀ ts:List a8,MV ts→MV (tg v c ts)
 | [],_=>by simp [tg,MV]
 | t::ts,hs=>by
  have ht:=List.pairwise_cons.1 hs;unfold tg;by_cases hv:t.Var=v
  ·rw [if_pos hv];exact List.pairwise_cons.2 ⟨fun x hx=>by have:=ht.1 x hx;rw [hv] at this;exact this,ht.2⟩
  ·rw [if_neg hv];cases hl:Op.bytesLess t.Var v with
   | true =>
    rw [cond_true];refine List.pairwise_cons.2 ⟨fun x hx=>?_,IK v c ts ht.2⟩;rcases D2 v c ts x hx with h | ⟨h,_⟩
    ·exact ht.1 x h
    ·rw [h];exact hl
   | false =>
    have hvl:Op.bytesLess v t.Var=true:=by
     rcases GS t.Var v with h | h | h
     ·rw [h] at hl;cases hl
     ·exact absurd h hv
     ·exact h
    rw [cond_false];refine List.pairwise_cons.2 ⟨fun x hx=>?_,hs⟩;rcases List.mem_cons.1 hx with rfl | hx
    ·exact hvl
    ·exact p7 _ _ _ hvl (ht.1 x hx)
theorem Ks (f:aj→Int):∀ ts:List a8,fY f (ts.filter nz)=fY f ts
 | []=>rfl
 | t::ts=>by
  rw [List.filter_cons];cases h:nz t with
  | true=>simp only [if_pos,fY,Ks f ts]
  | false =>
   have h0:t.C=0:=by simpa [nz] using h
   simp only [Bool.false_eq_true,if_false,fY,Ks f ts,h0];omega
structure RB (B:Int) (K:Nat) (ts:List a8):Prop where
 srt:MV ts
 nz:Nz ts
 bd:∀ t∈ts,-B≤t.C∧t.C≤B
 len:ts.length≤K
theorem RB.nil:RB 0 0 []:=⟨List.Pairwise.nil,(fun t h=>by simp at h),(fun t h=>by simp at h),Nat.le_refl _⟩
theorem RB.mono {B B':Int} {K K':Nat} {ts:List a8} (h:RB B K ts) (h1:B≤B') (h2:K≤K'):RB B' K' ts :=
 ⟨h.srt,h.nz,fun t ht=>by have:=h.bd t ht;omega,Nat.le_trans h.len h2⟩
theorem RB.plus {B:Int} {K:Nat} {ts:List a8} (h:RB B K ts) (v:aj) {c A:Int} (hB:0≤B) (h1 : -A≤c) (h2:c≤A) (hle:B+A≤9000000000000000000) :
 RB (B+A) (K+1) (tw ts v c)∧∀ f,fY f (tw ts v c)=fY f ts+c*f v:=by
 have hw:∀ t∈ts,bq (t.C+c)=t.C+c:=fun t ht=>by have:=h.bd t ht;exact fy (by unfold rL;omega)
 rw [MA v c h.srt hw];refine ⟨⟨(IK v c ts h.srt).filter _,fun t ht=>?_,fun t ht=>?_,?_⟩,fun f=>?_⟩
 ·have:=(List.mem_filter.1 ht).2;simpa [YtpfoahpiaanlaaaGreatDoor.nz] using this
 ·rcases D2 v c ts t (List.mem_filter.1 ht).1 with h3 | ⟨_,h3 | ⟨u,hu,h3⟩⟩
  ·have:=h.bd t h3;omega
  ·omega
  ·have:=h.bd u hu;omega
 ·have:=List.length_filter_le Go.Proofs.YtpfoahpiaanlaaaGreatDoor.nz (tg v c ts);have:=II v c ts;have:=h.len;omega
 ·rw [Ks,IJ]
theorem N2 {m:List (aj×Int)}:(m.map (·.1)).Nodup→∀ {e:aj×Int},e∈m→cI 0 e.1 m=e.2:=by
 induction m with
 | nil=>intro _ e h;cases h
 | cons p m ih =>
  obtain ⟨k,u⟩:=p;intro h e he;rw [List.map_cons,List.nodup_cons] at h;rcases List.mem_cons.1 he with rfl | he
  ·simp [cI]
  ·have hne:k≠e.1:=fun e2=>h.1 (by rw [e2];exact List.mem_map.2 ⟨e,he,rfl⟩);simp only [cI,if_neg hne];exact ih h.2 he
def Hw (m:List (aj×Int)):List a8:=(vh (cb m)).map fun k=>a8.mk k (cI 0 k m)
theorem I3 {m:List (aj×Int)} (h:(m.map (·.1)).Nodup):(cb m).Nodup:=List.Nodup.sublist (List.Sublist.map _ List.filter_sublist) h
theorem P0 {m:List (aj×Int)} (h:(m.map (·.1)).Nodup):MV (Hw m)∧Nz (Hw m)∧∀ f,fY f (Hw m)=xC f m:=by
 refine ⟨?_,fun t ht=>?_,fun f=>?_⟩
 ·have h1:=uL (cb m);have h2:(vh (cb m)).Nodup:=(kN (cb m)).nodup_iff.2 (I3 h);unfold MV Hw;rw [List.pairwise_map];refine (h1.and h2).imp fun {a b} hab=>?_;rcases GS a b with hl | he | hl
  ·exact hl
  ·exact absurd he hab.2
  ·exact absurd (IP _ _ hab.1 (RN hl)) hab.2
 ·unfold Hw at ht;obtain ⟨k,hk,rfl⟩:=List.mem_map.1 ht;have hk:=(kN (cb m)).mem_iff.1 hk;unfold cb at hk;obtain ⟨e,he,rfl⟩:=List.mem_map.1 hk;obtain ⟨he1,he2⟩:=List.mem_filter.1 he;show cI 0 e.1 m≠0;rw [N2 h he1];simpa using he2
 ·unfold Hw;rw [Mk f ((kN (cb m)).map _),Gh f m h]
theorem J7 (n:Int) (m:List (aj×Int)):DH n m (vh (cb m))=IV (Linear.mk n (Hw m)):=rfl
theorem R8:∀ ts:List a8,fY (fun _=>0) ts=0
 | []=>rfl
 | t::ts=>by simp only [fY,R8 ts];omega
theorem Qw:∀ m:List (aj×Int),xC (fun _=>0) m=0
 | []=>rfl
 | (k,c)::m=>by simp only [xC,Qw m];omega
theorem Ou {n n':Int} {m:List (aj×Int)} {ts:List a8} (h:(m.map (·.1)).Nodup) (h1:MV ts) (h2:Nz ts) (hf:∀ f,n+xC f m=n'+fY f ts):IV (Linear.mk n (Hw m))=IV (Linear.mk n' ts):=by
 obtain ⟨r1,r2,r3⟩:=P0 h;have e:n=n':=by have:=hf (fun _=>0);rw [Qw,R8] at this;omega
 have e2:Hw m=ts:=IW _ _ r1 r2 h1 h2 fun f=>by have:=hf f;rw [r3 f];omega
 rw [e,e2]
def sW (n:Int) (ts:List a8) (x:Linear) (k:Int):Int×List a8:=(bq (n+bq (k*x.Const)),x.Terms.foldl (fun ts t=>tw ts t.Var (bq (k*t.C))) ts)
theorem JC (k:Int) (hk : -1000000≤k∧k≤1000000):∀ (xs:List a8) (ts:List a8) (B:Int) (K:Nat),(∀ t∈xs,-1000000≤t.C∧t.C≤1000000)→RB B K ts→0≤B→B+(xs.length:Int)*1000000000000≤9000000000000000000 →
 RB (B+(xs.length:Int)*1000000000000) (K+xs.length) (xs.foldl (fun ts t=>tw ts t.Var (bq (k*t.C))) ts)∧∀ f,fY f (xs.foldl (fun ts t=>tw ts t.Var (bq (k*t.C))) ts)=fY f ts+k*fY f xs
 | [],ts,B,K,_,h,_,_=>⟨by simpa using h,fun f=>by simp [fY]⟩
 | x::xs,ts,B,K,hC,h,hB,hle=>by
  obtain ⟨c1,c2⟩:=hC x (by simp);obtain ⟨b1,b2⟩:=prod_bound hk.1 hk.2 c1 c2;have hlen:(((x::xs).length:Nat):Int)=(xs.length:Int)+1:=by simp
  rw [hlen] at hle;have hle':B+((xs.length:Int)*1000000000000+1000000000000)≤9000000000000000000:=by rw [Int.add_mul] at hle;omega
  have hp:0≤(xs.length:Int)*1000000000000:=by omega
  have e:bq (k*x.C)=k*x.C:=fy (by unfold rL;omega);obtain ⟨p1,p2⟩:=h.plus x.Var (c:=k*x.C) (A:=1000000000000) hB (by omega) (by omega) (by omega);obtain ⟨g1,g2⟩:=JC k hk xs (tw ts x.Var (k*x.C)) (B+1000000000000) (K+1) (fun y hy=>hC y (by simp [hy])) p1 (by omega) (by omega);rw [List.foldl_cons,e,hlen];refine ⟨?_,fun f=>?_⟩
  ·have e1:B+1000000000000+(xs.length:Int)*1000000000000=B+((xs.length:Int)+1)*1000000000000:=by rw [Int.add_mul];omega
   have e2:K+1+xs.length=K+(x::xs).length:=by simp;omega
   rw [← e1,← e2];exact g1
  ·rw [g2 f,p2 f];simp only [fY];rw [Int.mul_add,I2];omega
theorem Ls {α σ ρ:Type} (g:α→σ→σ):∀ (l:List α) (s:σ),Ai (ε:=σ) (ρ:=ρ) (fun x s=>kr.go (g x s)) (fun s=>s) l s = .brk (l.foldl (fun s x=>g x s) s)
 | [],s=>rfl
 | x::l,s=>by simp only [Ai,List.foldl_cons];exact Ls g l (g x s)
theorem DW {α β γ:Type} (g:β→α→β) (a:γ):∀ (l:List α) (b:β),l.foldl (fun (s:γ×β) x=>(s.1,g s.2 x)) (a,b)=(a,l.foldl g b)
 | [],b=>rfl
 | x::l,b=>by simp only [List.foldl_cons];exact DW g a l (g b x)
theorem EA (l x:Linear) (k:Int) (h1:l.Terms.length≤1000) (h2:x.Terms.length≤1000):kX l x k=some (Linear.mk (sW l.Const l.Terms x k).1 (sW l.Const l.Terms x k).2):=by
 unfold kX;rw [aE (by omega)];rw [F1 (fin:=fun _ s=>(s.1,s.2)) (f:=fun s=>s) ⟨[],0⟩ x.Terms (fun t s=>kr.go (s.1,tw s.2 t.Var (bq (k*t.C)))) (fun j s=>s.2.length≤1000+j) (fun _ _=>rfl) _ (by simpa using h1) (fun j s hj hI=>⟨by
  rw [PX _ _ _ (by simp only;omega)];rfl,fun s' e=>by
  injection e with e
  subst e;have:=MB s.2 (x.Terms.getD j ⟨[],0⟩).Var (bq (k*(x.Terms.getD j ⟨[],0⟩).C));simp only;omega⟩)]
 rw [Ls (fun (t:a8) (s:Int×List a8)=>(s.1,tw s.2 t.Var (bq (k*t.C)))),DW (fun ts (t:a8)=>tw ts t.Var (bq (k*t.C)))];rfl
theorem pY {α:Type} {body:Nat→Unit→Option (kr Unit Unit Int)} (q:α→Bool) (d:α) (l:List α) (hb:∀ j,j<l.length→body j ()=some (bif q (l.getD j d) then .ret ((j:Nat):Int) else .go ())) :
 (((bR body (fun _ _=>()) (l.length-0) 0 ()).bind (Sh.aft fun _=>some (-1))).bind fun y=>some (decide (y≥0)))=some (l.any q):=by
 rw [DB (f:=fun j=>((j:Nat):Int)) (fun j=>q (l.getD j d)) _ _ () (fun j u _ hj=>by cases u;exact hb j (by omega))];have hf:=F2 q d l;have hn:=A3 q l;generalize (List.range' 0 (l.length-0)).find? (fun j=>q (l.getD j d))=x at hf;cases x with
 | none =>
  simp only at hf;rw [hn.1 (by omega)];rfl
 | some j =>
  simp only at hf;have h1:l.any q=true:=by
   cases hb:l.any q
   ·have:=hn.2 hb;omega
   ·rfl
  rw [h1];simp only [S6,Sh.aft];rw [S5 (by omega:((j:Nat):Int)≥0)]
theorem xd {α ρ:Type} {body:Nat→List α→Option (kr (List α) (List α) ρ)} (p:Nat→Bool) (f:Nat→α) (r:ρ) (n:Nat) (hb:∀ j s,j<n→s.length=j→body j s=some (bif p j then .go (s++[f j]) else .ret r)) :
 ∀ (k i:Nat) (s:List α),i+k=n→s.length=i→bR body (fun _ s=>s) k i s=some (bif (List.range' i k).all p then .brk (s++(List.range' i k).map f) else .ret r)
 | 0,i,s,h,hs=>by simp [bR]
 | k+1,i,s,h,hs=>by
  simp only [bR,hb i s (by omega) hs,S6,List.range'_succ,List.all_cons,List.map_cons];cases p i with
  | false=>rfl
  | true =>
   simp only [cond_true,CZ,Bool.true_and];rw [xd p f r n hb k (i+1) _ (by omega) (by simp [hs])];simp
theorem D3 (ls:List Linear) (h:∀ l∈ls,Dd l):fF ls=some (!ls.all bg):=by
 unfold fF dM eK;rw [pY (fun l=>!bg l) ai ls (fun j _=>by rw [Is];unfold qc;rw [iu _ (An h j).1 (An h j).2];simp only [S6];cases bg (ls.getD j ai)<;>rfl)]
 simp [List.any_eq_not_all_not]
def Sb (t:aY):Prop:=Sw t.Shape
theorem Qt (t:aY):aY.mk t.Elem (Shape.mk t.Shape.Row t.Shape.Dims)=t:=rfl
theorem xg {α:Type} {P:α→Prop} {d:α} {l:List α} (h:∀ x∈l,P x) (hd:P d) (j:Nat):P (l.getD j d):=by
 rw [SW];cases h1:l[j]? with
 | none=>exact hd
 | some x=>exact h x (List.mem_of_getElem? h1)
theorem RS:Sb ak:=⟨by decide,fun l h=>by cases h⟩
theorem O6 (ts:List aY) (h:∀ t∈ts,Sb t):bY ts=some (!ts.all kh):=by
 unfold bY eL;rw [pY (fun t=>!kh t) ak ts (fun j _=>by rw [Qt];unfold tW;rw [Je _ (xg h RS j)];simp only [S6];cases kh (ts.getD j ak)<;>rfl)]
 simp [List.any_eq_not_all_not]
def Bi (n:Nat) (v:Int):Bool:=decide (v<0)||decide (v≥((n:Nat):Int))
theorem Ri (vs:List Int) (ts:List aY):dh vs ts=some (vs.any (Bi ts.length)):=by
 unfold dh jw;exact pY (Bi ts.length) 0 vs (fun j _=>by unfold tX Bi;simp only [S6];cases (decide (vs.getD j 0<0)||decide (vs.getD j 0≥((ts.length:Nat):Int)))<;>rfl)
def Qm (F D:List Linear) (ax:List Int) (k:Nat):Bool :=
 !((decide (ax.getD k 0<0)||decide (ax.getD k 0≥((F.length:Nat):Int)))||(decide (((k:Nat):Int)>0)&&decide (ax.getD (bq (((k:Nat):Int)-1)).toNat 0≥ax.getD k 0)))&&decide (D.getD k ai=F.getD (ax.getD k 0).toNat ai)
def rO (ts:List aY) (x:Instr) (i:Nat):aY:=ts.getD (x.Args.getD i 0).toNat ak
def Kb (ts:List aY) (x:Instr) (i:Nat):Bool :=
 !decide ((((x.Axes.getD i []).length:Nat):Int)>(((rO ts x i).Shape.Dims.length:Nat):Int))&&(List.range' 0 ((x.Axes.getD i []).length-0)).all (Qm x.Frame (rO ts x i).Shape.Dims (x.Axes.getD i []))
def LF (ts:List aY) (x:Instr) (i:Nat):List Linear:=(rO ts x i).Shape.Dims.drop (x.Axes.getD i []).length
def K6 (ts:List aY) (x:Instr) (i:Nat):ag:=ag.mk (rO ts x i).Elem (LF ts x i)
def Il (ts:List aY) (x:Instr) (i:Nat):aY:=aY.mk (rO ts x i).Elem (Shape.mk [] (LF ts x i))
def Iw (ts:List aY) (x:Instr):Bool:=decide (x.Axes.length=x.Args.length)&&(List.range' 0 (x.Args.length-0)).all (Kb ts x)
theorem PY {k n:Nat} (hk:k<n) (hn:n≤9223372036854775807) (h:decide (((k:Nat):Int)>0)=true):0≤bq (((k:Nat):Int)-1)∧bq (((k:Nat):Int)-1)<((n:Nat):Int):=by have h:=S3 h;rw [fy (by unfold rL;omega)];omega
theorem GM {ts:List aY} {x:Instr} (h:x.Args.any (Bi ts.length)=false) {i:Nat} (hi:i<x.Args.length):0≤x.Args.getD i 0∧x.Args.getD i 0<((ts.length:Nat):Int):=by have h1:=List.any_eq_false.1 h (x.Args.getD i 0) (by rw [SW,SX hi];exact List.getElem_mem hi);unfold Bi at h1;simp only [Bool.or_eq_true,decide_eq_true_eq] at h1;omega
theorem KZ {ρ:Type} {body:Nat→Unit→Option (kr Unit Unit ρ)} {r:ρ} (F D:List Linear) (ax:List Int) (hb:∀ k,k<ax.length→body k ()=some (bif Qm F D ax k then .go () else .ret r)) :
 bR body (fun _ _=>()) (ax.length-0) 0 ()=some (bif (List.range' 0 (ax.length-0)).all (Qm F D ax) then .brk () else .ret r) :=
 cO (fin:=fun _ _=>()) (Qm F D ax) _ _ () (fun j u _ hj=>by cases u;exact hb j (by omega))
theorem K1 {ρ:Type} {r:ρ} (F D:List Linear) (ax:List Int) (E:Linear→Linear→Option Bool) (hE:∀ a∈D,∀ b,E a b=some (decide (a=b))) (hax:ax.length≤D.length) (hl:D.length≤1000) (k:Nat) (hk:k<ax.length) :
 (bo (((decide ((ax.getD k 0)<0)||decide ((ax.getD k 0)≥((F.length:Nat):Int)))=false→((decide (((k:Nat):Int)>0))=true→0≤(bq (((k:Nat):Int)-1))∧(bq (((k:Nat):Int)-1))<(ax.length:Int))))<|
  bif ((decide ((ax.getD k 0)<0)||decide ((ax.getD k 0)≥((F.length:Nat):Int)))||(decide (((k:Nat):Int)>0)&&decide ((ax.getD (bq (((k:Nat):Int)-1)).toNat 0)≥(ax.getD k 0)))) then (
   some (.ret r:kr Unit Unit ρ)
  ) else (
   bo (((decide (((k:Nat):Int)>0))=true→0≤(bq (((k:Nat):Int)-1))∧(bq (((k:Nat):Int)-1))<(ax.length:Int)))<|
   bo (k<D.length)<|
   (some (D.getD k ai)).bind fun y3 =>
   bo (0≤(ax.getD k 0)∧(ax.getD k 0)<(F.length:Int))<|
   (some (F.getD (ax.getD k 0).toNat ai)).bind fun y4 =>
   (E y3 y4).bind fun y5=>bif y5 then some (.go ()) else some (.ret r)))=some (bif Qm F D ax k then .go () else .ret r):=by
 have hp:=PY hk (by omega);rw [aE (fun _=>hp)];unfold Qm;cases hc:((decide ((ax.getD k 0)<0)||decide ((ax.getD k 0)≥((F.length:Nat):Int)))||(decide (((k:Nat):Int)>0)&&decide ((ax.getD (bq (((k:Nat):Int)-1)).toNat 0)≥(ax.getD k 0)))) with
 | true=>rfl
 | false =>
  simp only [Bool.or_eq_false_iff,decide_eq_false_iff_not] at hc;have hD:D.getD k ai∈D:=by rw [SW,SX (by omega)];exact List.getElem_mem _
  simp only [cond_false];rw [aE hp,aE (by omega),S6,aE (by omega),S6,hE _ hD];simp only [S6,Bool.not_false,Bool.true_and];cases decide (D.getD k ai=F.getD (ax.getD k 0).toNat ai)<;>rfl
theorem Hj (a b:Nat):(((a:Nat):Int) != ((b:Nat):Int)) = !decide (a=b):=by show (!(((a:Nat):Int)==((b:Nat):Int)))=_;rw [qi]
theorem Ns (ts:List aY) (x:Instr) (hF:∀ l∈x.Frame,Dd l) (hS:∀ l∈x.Sizes,Dd l) (h6:x.Args.length≤1000) (hD:∀ t∈ts,t.Shape.Dims.length≤1000) (hin:x.Args.any (Bi ts.length)=false) :
 pn ts x=some (bif (Iw ts x&&(decide (x.Frame.length≤6)&&(x.Frame.all bg&&x.Sizes.all bg))) then ((List.range' 0 (x.Args.length-0)).map (K6 ts x),true) else ([],false)):=by
 unfold pn Iw;rw [D3 _ hF,D3 _ hS,Hj,show (6:Int)=((6:Nat):Int) from rfl,G7];cases hA:decide (x.Axes.length=x.Args.length) with
 | false=>rfl
 | true =>
  have hA:=S3 hA;rw [xd (Kb ts x) (K6 ts x) (([]:List ag),false) x.Args.length (fun j s hj hs=>by
   have hi:=GM hin hj;rw [aE hi,S6,aE (by omega)];have hDj:(rO ts x j).Shape.Dims.length≤1000:=xg (P:=fun t:aY=>t.Shape.Dims.length≤1000) hD (by decide) _;unfold Kb K6 LF;rw [show ts.getD (x.Args.getD j 0).toNat ak=rO ts x j from rfl];by_cases hg:(((x.Axes.getD j []).length:Nat):Int)>(((rO ts x j).Shape.Dims.length:Nat):Int)
   ·rw [S5 hg];rfl
   ·rw [S4 hg];simp only [cond_false,Bool.not_false,Bool.true_and];rw [KZ x.Frame (rO ts x j).Shape.Dims (x.Axes.getD j []) (r:=kr.ret (([]:List ag),false)) (fun k hk=>K1 x.Frame (rO ts x j).Shape.Dims (x.Axes.getD j []) fK (fun a _ b=>uS a b) (by omega) hDj k hk)];cases (List.range' 0 ((x.Axes.getD j []).length-0)).all (Qm x.Frame (rO ts x j).Shape.Dims (x.Axes.getD j [])) with
    | false=>rfl
    | true =>
     simp only [cond_true,S6,Sh.aft];rw [aE (by omega),aE (by omega)]) (x.Args.length-0) 0 [] (by omega) rfl]
  cases decide (x.Frame.length≤6)<;>cases x.Frame.all bg<;>cases x.Sizes.all bg<;>cases (List.range' 0 (x.Args.length-0)).all (Kb ts x)<;>rfl
theorem MD (ts:List aY) (x:Instr) (hT:∀ t∈ts,∀ l∈t.Shape.Dims,l.Terms.length≤1000) (h6:x.Args.length≤1000) (hD:∀ t∈ts,t.Shape.Dims.length≤1000) (hin:x.Args.any (Bi ts.length)=false) :
 rF ts x=some (bif Iw ts x then ((List.range' 0 (x.Args.length-0)).map (Il ts x),true) else ([],false)):=by
 unfold rF Iw;rw [qi];cases hA:decide (x.Axes.length=x.Args.length) with
 | false=>rfl
 | true =>
  have hA:=S3 hA;rw [xd (Kb ts x) (Il ts x) (([]:List aY),false) x.Args.length (fun j s hj hs=>by
   have hi:=GM hin hj;rw [aE hi,S6,aE (by omega)];have hDj:(rO ts x j).Shape.Dims.length≤1000:=xg (P:=fun t:aY=>t.Shape.Dims.length≤1000) hD (by decide) _;have hTj:∀ l∈(rO ts x j).Shape.Dims,l.Terms.length≤1000:=xg (P:=fun t:aY=>∀ l∈t.Shape.Dims,l.Terms.length≤1000) hT (fun l h=>by cases h) _;unfold Kb Il LF;rw [show ts.getD (x.Args.getD j 0).toNat ak=rO ts x j from rfl];by_cases hg:(((x.Axes.getD j []).length:Nat):Int)>(((rO ts x j).Shape.Dims.length:Nat):Int)
   ·rw [S5 hg];rfl
   ·rw [S4 hg];simp only [cond_false,Bool.not_false,Bool.true_and];rw [KZ x.Frame (rO ts x j).Shape.Dims (x.Axes.getD j []) (r:=kr.ret (([]:List aY),false)) (fun k hk=>K1 x.Frame (rO ts x j).Shape.Dims (x.Axes.getD j []) gP (fun a ha b=>wD a b (hTj a ha)) (by omega) hDj k hk)];cases (List.range' 0 ((x.Axes.getD j []).length-0)).all (Qm x.Frame (rO ts x j).Shape.Dims (x.Axes.getD j [])) with
    | false=>rfl
    | true =>
     simp only [cond_true,S6,Sh.aft];rw [aE (by omega)];unfold dm;rw [S6,aE (by omega)]) (x.Args.length-0) 0 [] (by omega) rfl]
  cases (List.range' 0 (x.Args.length-0)).all (Kb ts x)<;>rfl
theorem KT {l:Linear} (h:bg l=true):(l.Terms.map (·.Var)).Pairwise (fun a b=>Op.bytesLess a b=true):=by
 have hadj:∀ j,0<j→(hj:j<l.Terms.length)→Op.bytesLess (l.Terms[j-1]'(by omega)).Var l.Terms[j].Var=true:=by
  intro j h0 hj;simp only [bg,SY,Tc] at h;have:=h.1 j (by simpa using hj);have e:KR l j=l.Terms[j]:=by simp [KR,SW,SX hj]
  have e':KR l (j-1)=l.Terms[j-1]'(by omega):=by simp [KR,SW,SX (show j-1<l.Terms.length by omega)]
  simp only [q8,e,e',SY,Bool.or_eq_true,Bool.not_eq_true',decide_eq_false_iff_not] at this;rcases this.2.2.2 with h | h
  ·omega
  ·exact h
 have hall:∀ (n i:Nat) (hi:i+n+1<l.Terms.length),Op.bytesLess (l.Terms[i]'(by omega)).Var l.Terms[i+n+1].Var=true:=by
  intro n;induction n with
  | zero=>intro i hi;exact hadj (i+1) (by omega) hi
  | succ n ih =>
   intro i hi;exact p7 _ _ _ (ih i (by omega)) (hadj (i+(n+1)+1) (by omega) hi)
 rw [List.pairwise_iff_getElem];intro i j hi hj hij;simp only [List.getElem_map];simp only [S7] at hi hj;have:=hall (j-i-1) i (by omega);have e:i+(j-i-1)+1=j:=by omega
 simp only [e] at this;exact this
theorem MU {l:Linear} (h:bg l=true):MV l.Terms:=by have:=KT h;rw [List.pairwise_map] at this;exact this
theorem O4 {l:Linear} (h:bg l=true):Nz l.Terms:=by
 intro t ht;obtain ⟨j,hj,rfl⟩:=List.getElem_of_mem ht;simp only [bg,SY,Tc] at h;have:=h.1 j (by simpa using hj);have e:KR l j=l.Terms[j]:=by simp [KR,SW,SX hj]
 simp only [q8,e,SY,Bool.not_eq_true',beq_eq_false_iff_ne] at this;exact this.2.1
def fV (a b:Linear) (k:Int):Linear×Int:=bif bg a&&bg b then IV (Linear.mk (sW a.Const a.Terms b k).1 (sW a.Const a.Terms b k).2) else (Linear.mk 0 [],1)
theorem Qg (a b:Linear) (k:Int) (hk : -1000000≤k∧k≤1000000) (ha:bg a=true) (hb:bg b=true) :
 du (GB b k (GB a 1 0 []).1 (GB a 1 0 []).2).1 (GB b k (GB a 1 0 []).1 (GB a 1 0 []).2).2=some (IV (Linear.mk (sW a.Const a.Terms b k).1 (sW a.Const a.Terms b k).2)):=by
 have hA:=EZ ha;have hB:=EZ hb;have kA:=JE ha;have kB:=JE hb;have lA:=fj ha;have lB:=fj hb;have nA:∀ t∈a.Terms,(-1000000≤t.C∧t.C≤1000000)∧t.Var.length≤140737488355328:=fun t ht=>⟨(hA t ht).1,Nat.le_trans (Es (hA t ht).2) (by decide)⟩;have nB:∀ t∈b.Terms,(-1000000≤t.C∧t.C≤1000000)∧t.Var.length≤140737488355328:=fun t ht=>⟨(hB t ht).1,Nat.le_trans (Es (hB t ht).2) (by decide)⟩;have s1:=fun f=>DX f 1 (by omega) a.Terms [] 0 0 nA Sm.nil (by omega) (by omega);have s2:=fun f=>DX f k hk b.Terms _ _ _ nB (s1 f).1 (by omega) (by omega);have r0:RB 1000000 12 a.Terms:=⟨MU ha,O4 ha,fun t ht=>(hA t ht).1,lA⟩;obtain ⟨r1,r2⟩:=JC k hk b.Terms a.Terms 1000000 12 (fun t ht=>(hB t ht).1) r0 (by omega) (by omega);have hm:=(s2 (fun _=>0)).1;have b1:=prod_bound hk.1 hk.2 kB.1 kB.2;unfold GB;simp only;rw [yS _ _ (Qd hm (by omega)),J7,Ou (n':=(sW a.Const a.Terms b k).1) hm.nd r1.srt r1.nz (fun f=>by rw [(s2 f).2,(s1 f).2,r2 f];unfold sW;simp only [xC];rw [fy (n:=1*a.Const) (by unfold rL;omega),fy (n:=0+1*a.Const) (by unfold rL;omega),fy (n:=k*b.Const) (by unfold rL;omega),fy (by unfold rL;omega),fy (by unfold rL;omega)];omega)]
 rfl
theorem DE (a b:Linear) (k:Int) (hk : -1000000≤k∧k≤1000000) (oa:Dd a) (ob:Dd b):jf a b k=some (fV a b k):=by
 unfold jf fV;rw [iu _ oa.1 oa.2,iu _ ob.1 ob.2];cases ha:bg a with
 | false=>rfl
 | true=>cases hb:bg b with
  | false=>rfl
  | true =>
   simp only [Bool.not_true,Bool.or_false,cond_false,S6,Ag,Bool.and_self,cond_true];rw [Qg a b k hk ha hb];rfl
theorem MY (a b:Linear) (oa:Dd a) (ob:Dd b):ql a b=some (fV a b 1):=by unfold ql;rw [DE a b 1 (by omega) oa ob];rfl
theorem QV (a b:Linear) (oa:Dd a) (ob:Dd b):uw a b=some (fV a b (-1)):=by unfold uw;rw [DE a b (-1) (by omega) oa ob];rfl
theorem LH (a b:Linear) (k:Int) (ha:bg a=true) (hb:bg b=true):((kX a b k).bind fun y=>(iK y).bind fun z=>some (z.1,z.2))=some (fV a b k):=by unfold fV;rw [EA a b k (by have:=fj ha;omega) (by have:=fj hb;omega),ha,hb];simp only [S6,Kh,Bool.and_self,cond_true]
theorem LC (a b:Linear):kW a b=some (fV a b 1):=by
 unfold kW;rw [dX,dX];cases ha:bg a with
 | false=>unfold fV;rw [ha];rfl
 | true=>cases hb:bg b with
  | false=>unfold fV;rw [ha,hb];rfl
  | true=>exact LH a b 1 ha hb
theorem Hv (a b:Linear):nn a b=some (fV a b (-1)):=by
 unfold nn;rw [dX,dX];cases ha:bg a with
 | false=>unfold fV;rw [ha];rfl
 | true=>cases hb:bg b with
  | false=>unfold fV;rw [ha,hb];rfl
  | true=>exact LH a b (-1) ha hb
theorem uN (a b:Linear) (k:Int):(fV a b k).1.Terms.length≤12∧bg (fV a b k).1=true:=by
 unfold fV IV;have z:bg (Linear.mk 0 [])=true:=by decide
 cases bg a&&bg b with
 | false=>exact ⟨Nat.zero_le _,z⟩
 | true =>
  simp only [cond_true];cases h:bg (Linear.mk (sW a.Const a.Terms b k).1 (sW a.Const a.Terms b k).2) with
  | false=>exact ⟨Nat.zero_le _,z⟩
  | true=>exact ⟨fj h,h⟩
abbrev tI:aj:=[105,110,116]
abbrev tB:aj:=[98,111,111,108]
abbrev tA:aj:=[65]
def CW:List (aj×List aj×aj):=[([97,100,100],[tI,tI],tI),([115,117,98],[tI,tI],tI),([109,117,108],[tI,tI],tI),([100,105,118],[tI,tI],tI),([109,111,100],[tI,tI],tI),([109,105,110],[tI,tI],tI),([109,97,120],[tI,tI],tI),([110,101,103],[tI],tI),([97,98,115],[tI],tI),([115,105,103,110],[tI],tI),([108,116],[tI,tI],tB),([108,101],[tI,tI],tB),([103,116],[tI,tI],tB),([103,101],[tI,tI],tB),([101,113],[tA,tA],tB),([110,101],[tA,tA],tB),([97,110,100],[tB,tB],tB),([111,114],[tB,tB],tB),([120,111,114],[tB,tB],tB),([110,111,116],[tB],tB),([115,101,108,101,99,116],[tB,tA,tA],tA),([116,111,105,110,116],[tB],tI)]
def ML:List aj:=[[99,111,110,115,116],[115,105,122,101],[105,111,116,97],[102,105,108,108],[116,97,107,101],[100,114,111,112],[119,105,110,100,111,119,115],[114,101,118,101,114,115,101],[97,112,112,101,110,100],[116,114,97,110,115,112,111,115,101],[100,105,97,103,111,110,97,108],[99,104,117,110,107],[105,110,100,101,120],[117,112,100,97,116,101],[112,97,99,107],[102,111,108,100],[115,99,97,110]]
theorem P9:CW.all (fun r=>(((fB r.1).any fun p=>p.2&&p.1.Scalar)&&decide (cS r.1=some (r.2.1,r.2.2,true)))&&((gE r.1).any fun p=>(p.2&&p.1.Scalar)&&(decide (p.1.Scheme.Params.map (·.Elem)=r.2.1)&&decide (p.1.Scheme.Result.Elem=r.2.2))))=true:=by kernel_rfl
noncomputable def Sr (n:Int) (m:List (aj×Int)):Option (Linear×Int):=bif zX m then some (DH n m (vh (cb m))) else du n m
theorem Qf:lZ=fun _ n m=>Sr n m:=by
 funext s n m;unfold Sr;cases h:zX m with
 | true=>exact yS n m h
 | false=>rfl
theorem Qe:ML.all (fun n=>((fB n).any fun p=>!(p.2&&p.1.Scalar))&&((gE n).any fun p=>!(p.2&&p.1.Scalar)))=true:=by
 delta fB mD rI w5 pt
 rw [Qf];kernel_rfl
def Kv:List aj:=CW.map (·.1)++ML
theorem P7:((iJ.any fun l=>l.all fun r=>(kF r.names).any fun L=>L.all fun n=>Kv.contains n)&&(eQ.any fun l=>l.all fun r=>(kF r.names).any fun L=>L.all fun n=>Kv.contains n))=true:=by kernel_rfl
theorem Le (x:aj) (hx:∀ n∈Kv,(x==n)=false) (rows:List bC) (h:(rows.all fun r=>(kF r.names).any fun L=>L.all fun n=>Kv.contains n)=true):tz rows x=some ([],false):=by
 unfold tz;rw [cO (r:=(([]:aj),false)) (fun _=>true) _ _ () (fun j u _ hj=>by
  have hm:rows.getD j iV∈rows:=by rw [SW,SX (by omega)];exact List.getElem_mem _
  have h1:=Tc.1 h _ hm;cases hL:kF (rows.getD j iV).names with
  | none=>rw [hL] at h1;cases h1
  | some L =>
   rw [hL] at h1;have h1:(L.all fun n=>Kv.contains n)=true:=h1;have hc:cH L x=some (L.any (x == ·)):=by unfold cH jY;exact pY (x == ·) [] L (fun j _=>by cases x==L.getD j []<;>rfl)
   have h2:L.any (x == ·)=false:=by rw [List.any_eq_false];intro n hn;have:=Tc.1 h1 n hn;rw [hx n (by simpa using this)];decide
   simp only [S6,hc,h2];rfl),iP]
 rw [show ((List.range' 0 (rows.length-0)).all fun _=>true)=true from Tc.2 (fun _ _=>rfl)];rfl
theorem Qb (x:aj) (hx:∀ n∈Kv,(x==n)=false):(∃ p,fB x=some (p,false))∧∃ p,gE x=some (p,false):=by
 constructor
 ·have h:=P7;rw [SY] at h;unfold fB;have h1:iJ=some (iJ.getD []):=by kernel_rfl
  have h2:eQ=some (eQ.getD []):=by kernel_rfl
  have e1:=Le x hx (iJ.getD []) (by have:=h.1;rw [h1] at this;exact this);have e2:=Le x hx (eQ.getD []) (by have:=h.2;rw [h2] at this;exact this);rw [h1,S6,e1,S6,h2];simp only [cond_false,S6,e2];simp (disch:=decide) only [hx,cond_false,S6];exact ⟨_,rfl⟩
 ·unfold gE uH nr dd jJ og;simp (disch:=decide) only [hx,cond_false,S6];exact ⟨_,rfl⟩
def kZ:List aj→List aj→aj→Option aj
 | p::ps,e::es,a=>bif p==tA then (bif e==(bif a==[] then e else a) then kZ ps es (bif a==[] then e else a) else none) else (bif e==p then kZ ps es a else none)
 | _,_,a=>some a
def jH (res:aj):Option aj→aj×Bool
 | some a=>(bif res==tA then a else res,true)
 | none=>([],false)
theorem or_eq (a e:aj):rU [a,e]=some (bif a==[] then e else a):=by
 cases a with
 | nil=>cases e<;>rfl
 | cons b a=>rfl
theorem ta {l:List aj} {i:Nat} (h:i<l.length):l.drop i=l.getD i []::l.drop (i+1):=by rw [List.drop_eq_getElem_cons h,SW,SX h];rfl
theorem getD_set_ne {l:List aj} {i j:Nat} {v:aj} (h:i≠j):(l.set i v).getD j []=l.getD j []:=by simp [SW,List.getElem?_set,h]
theorem IE {l:List aj} {i:Nat} {v:aj} (h:i<l.length):(l.set i v).getD i []=v:=by simp [SW,List.getElem?_set,h]
theorem MG (op:aj) (ps:List aj) (res:aj) (hT:cS op=some (ps,res,true)) (es:List aj) (he:∀ e∈es,e=tI∨e=tB) :
 cz op es=some (bif decide (es.length=ps.length) then jH res (kZ ps es []) else ([],false)):=by
 unfold cz;rw [hT];simp only [S6,Bool.not_true,Bool.false_or,Hj];cases hl:decide (es.length=ps.length) with
 | false=>rfl
 | true =>
  have hl:=S3 hl;simp only [Bool.not_true,cond_false,cond_true];generalize hB:(fun (i0:Nat) (s0:List aj×aj)=>_:Nat→List aj×aj→Option (kr (List aj×aj) aj (aj×Bool)))=B;have key:∀ (k i:Nat) (ts:List aj) (a:aj),i+k=es.length→ts.length=ps.length→(∀ j,i≤j→ts.getD j []=ps.getD j []) →
   bR B (fun _ s=>s.2) k i (ts,a)=some (match kZ (ps.drop i) (es.drop i) a with | some b=>.brk b | none=>.ret ([],false)):=by
   intro k;induction k with
   | zero =>
    intro i ts a h1 h2 h3;rw [List.drop_of_length_le (by omega),List.drop_of_length_le (by omega)];rfl
   | succ k ih =>
    intro i ts a h1 h2 h3;have hi:i<es.length:=by omega
    rw [ta hi,ta (l:=ps) (by omega)];have hm:es.getD i []∈es:=by rw [SW,SX hi];exact List.getElem_mem hi
    have h4:(!((es.getD i [])==tI) && !((es.getD i [])==tB))=false:=by rcases he _ hm with q | q<;>rw [q]<;>rfl
    simp only [bR];have e1:B i (ts,a)=((bif (ps.getD i []==tA) then some (ts.set i (bif a==[] then es.getD i [] else a),bif a==[] then es.getD i [] else a) else some (ts,a):Option (List aj×aj)).bind fun v0=>bo (i<v0.1.length)<|bif (es.getD i []==v0.1.getD i []) then some (.go (v0.1,v0.2)) else some (.ret ([],false))):=by subst hB;simp only [h4,cond_false];rw [aE (by omega),h3 i (Nat.le_refl _),or_eq];rfl
    rw [e1];simp only [kZ];cases ps.getD i []==tA with
    | true =>
     simp only [cond_true,S6];rw [aE (by simp;omega),IE (by omega)];cases es.getD i []==(bif a==[] then es.getD i [] else a) with
     | true=>exact ih (i+1) _ _ (by omega) (by simp [h2]) (fun j hj=>by rw [getD_set_ne (by omega)];exact h3 j (by omega))
     | false=>rfl
    | false =>
     simp only [cond_false,S6];rw [aE (by omega),h3 i (Nat.le_refl _)];cases es.getD i []==ps.getD i [] with
     | true=>exact ih (i+1) _ _ (by omega) h2 (fun j hj=>h3 j (by omega))
     | false=>rfl
  rw [key _ 0 ps [] (by omega) rfl (fun _ _=>rfl)];simp only [List.drop_zero];cases kZ ps es [] with
  | none=>rfl
  | some a =>
   simp only [S6,Sh.aft,jH];cases res==tA<;>rfl
def zN (cs:List aY):Bool:=cs.all fun c=>decide (c.Shape.Dims.length=0)
theorem KF (P:bP) (cs:List aY):∃ t ok,mx P cs=some (t,ok)∧ok=(zN cs&&(bif decide (cs.length=P.Scheme.Params.length) then jH P.Scheme.Result.Elem (kZ (P.Scheme.Params.map (·.Elem)) (cs.map (·.Elem)) []) else ([],false)).2) ∧
 (ok=true→t=aY.mk (bif decide (cs.length=P.Scheme.Params.length) then jH P.Scheme.Result.Elem (kZ (P.Scheme.Params.map (·.Elem)) (cs.map (·.Elem)) []) else ([],false)).1 (Shape.mk [] [])):=by
 unfold mx;rw [qi];cases hl:decide (cs.length=P.Scheme.Params.length) with
 | false=>exact ⟨_,_,rfl,by simp,fun h=>by cases h⟩
 | true =>
  have hl:=S3 hl;simp only [cond_true];generalize hB:(fun (i0:Nat) (s0:aj)=>_:Nat→aj→Option (kr aj aj (aY×Bool)))=B;have key:∀ (k i:Nat) (a:aj),i+k=cs.length →
   ∃ q,bR B (fun _ s=>s) k i a=some q∧((zN (cs.drop i)=true∧∃ b,kZ ((P.Scheme.Params.map (·.Elem)).drop i) ((cs.map (·.Elem)).drop i) a=some b∧q = .brk b)∨((zN (cs.drop i)=false∨kZ ((P.Scheme.Params.map (·.Elem)).drop i) ((cs.map (·.Elem)).drop i) a=none)∧q = .ret ((aY.mk [] (Shape.mk [] [])),false))):=by
   intro k;induction k with
   | zero =>
    intro i a h1;rw [List.drop_of_length_le (by omega),List.drop_of_length_le (by simp;omega),List.drop_of_length_le (by simp;omega)];exact ⟨_,rfl,.inl ⟨rfl,_,rfl,rfl⟩⟩
   | succ k ih =>
    intro i a h1;have hi:i<cs.length:=by omega
    have g1:((P.Scheme.Params.map (·.Elem)).getD i [])=(P.Scheme.Params.getD i ak).Elem:=by simp [SW,SX (show i<P.Scheme.Params.length by omega)]
    have g2:((cs.map (·.Elem)).getD i [])=(cs.getD i ak).Elem:=by simp [SW,SX hi]
    rw [ta (l:=P.Scheme.Params.map (·.Elem)) (by simp;omega),ta (l:=cs.map (·.Elem)) (by simp;omega),g1,g2];have g3:cs.drop i=cs.getD i ak::cs.drop (i+1):=by rw [List.drop_eq_getElem_cons hi,SW,SX hi];rfl
    rw [g3];simp only [bR];have e1:B i a=(((bif ((P.Scheme.Params.getD i ak).Elem==tA) then some ((bif a==[] then (cs.getD i ak).Elem else a),(bif a==[] then (cs.getD i ak).Elem else a)) else some (a,(P.Scheme.Params.getD i ak).Elem)):Option (aj×aj)).bind fun v1=>bif (decide ((((cs.getD i ak).Shape.Dims.length:Nat):Int)>0) || !((cs.getD i ak).Elem==v1.2)) then some (.ret ((aY.mk [] (Shape.mk [] [])),false)) else some (.go v1.1)):=by subst hB;simp only;rw [aE (by omega)];cases a==[]<;>rfl
    rw [e1];have g4:zN (cs.getD i ak::cs.drop (i+1))=(!decide ((((cs.getD i ak).Shape.Dims.length:Nat):Int)>0)&&zN (cs.drop (i+1))):=by show (decide ((cs.getD i ak).Shape.Dims.length=0)&&_)=_;congr 1;rw [← decide_not,decide_eq_decide];omega
    rw [g4];simp only [kZ];cases decide ((((cs.getD i ak).Shape.Dims.length:Nat):Int)>0) with
    | true =>
     refine ⟨_,by cases (P.Scheme.Params.getD i ak).Elem==tA<;>rfl,.inr ⟨.inl rfl,rfl⟩⟩
    | false =>
     simp only [Bool.false_or,Bool.not_false,Bool.true_and];cases (P.Scheme.Params.getD i ak).Elem==tA with
     | true =>
      simp only [cond_true,S6];cases (cs.getD i ak).Elem==(bif a==[] then (cs.getD i ak).Elem else a) with
      | true=>exact ih (i+1) _ (by omega)
      | false=>exact ⟨_,rfl,.inr ⟨.inr rfl,rfl⟩⟩
     | false =>
      simp only [cond_false,S6];cases (cs.getD i ak).Elem==(P.Scheme.Params.getD i ak).Elem with
      | true=>exact ih (i+1) _ (by omega)
      | false=>exact ⟨_,rfl,.inr ⟨.inr rfl,rfl⟩⟩
  obtain ⟨q,e,h⟩:=key (cs.length-0) 0 [] (by omega);rw [e];simp only [List.drop_zero] at h;rcases h with ⟨f,b,h1,rfl⟩ | ⟨h,rfl⟩
  ·rw [f,h1];simp only [S6,Sh.aft,jH,jn];cases P.Scheme.Result.Elem==tA<;>exact ⟨_,_,rfl,rfl,fun _=>rfl⟩
  ·refine ⟨_,_,rfl,?_,fun h=>by cases h⟩;rcases h with h | h
   ·rw [h];rfl
   ·rw [h];simp [jH]
def jZ (op:aj):List aj×aj×Bool:=match CW.find? (fun r=>op==r.1) with | some r=>(r.2.1,r.2.2,true) | none=>([],[],false)
theorem MP:CW.all (fun r=>decide (cS r.1=some (jZ r.1))&&decide (kY r.1=some (jZ r.1)))=true:=by kernel_rfl
theorem wZ (op:aj):(∃ r∈CW,op=r.1∧jZ op=(r.2.1,r.2.2,true))∨((∀ n∈CW.map (·.1),(op==n)=false)∧jZ op=([],[],false)):=by
 unfold jZ;cases h:CW.find? (fun r=>op==r.1) with
 | some r=>exact .inl ⟨r,List.mem_of_find?_eq_some h,by simpa using List.find?_some h,rfl⟩
 | none=>exact .inr ⟨fun n hn=>by obtain ⟨r,hr,rfl⟩:=List.mem_map.1 hn;simpa using List.find?_eq_none.1 h r hr,rfl⟩
theorem xa (op:aj):cS op=some (jZ op)∧kY op=some (jZ op):=by
 rcases wZ op with ⟨r,hr,rfl,_⟩ | ⟨hx,e⟩
 ·have:=Tc.1 MP r hr;simpa using this
 ·rw [e];have hy:∀ n∈CW.map (·.1),(n==op)=false:=fun n hn=>by rw [Bool.beq_comm];exact hx n hn
  constructor
  ·unfold cS tU;simp (disch:=decide) only [hy,cond_false,S6]
  ·unfold kY;simp (disch:=decide) only [hx,cond_false,S6]
def wY (op:aj) (es:List aj):aj×Bool:=bif (jZ op).2.2&&decide (es.length=(jZ op).1.length) then jH (jZ op).2.1 (kZ (jZ op).1 es []) else ([],false)
theorem Lb (op:aj) (es:List aj) (he:∀ e∈es,e=tI∨e=tB):cz op es=some (wY op es):=by
 rcases wZ op with ⟨r,hr,_,e⟩ | ⟨hx,e⟩
 ·rw [MG op r.2.1 r.2.2 (by rw [(xa op).1,e]) es he];unfold wY;rw [e];rfl
 ·unfold cz wY;rw [(xa op).1,e];rfl
theorem Ox (op:aj) (es:List aj) (he:∀ e∈es,e=tI∨e=tB):pM op es=some (wY op es):=by
 unfold pM wY;rw [(xa op).2];obtain ⟨ps,res,ok⟩:=jZ op;simp only [S6,Hj];cases ok with
 | false=>rfl
 | true =>
  rw [show decide (ps.length=es.length)=decide (es.length=ps.length) by rw [decide_eq_decide];omega];cases hl:decide (es.length=ps.length) with
  | false=>rfl
  | true =>
   have hl:=S3 hl;simp only [Bool.not_true,Bool.or_self,cond_false,Bool.and_self,cond_true];generalize hB:(fun (i0:Nat) (s0:aj)=>_:Nat→aj→Option (kr aj aj (aj×Bool)))=B;have key:∀ (k i:Nat) (a:aj),i+k=ps.length →
    bR B (fun _ s=>s) k i a=some (match kZ (ps.drop i) (es.drop i) a with | some b=>.brk b | none=>.ret ([],false)):=by
    intro k;induction k with
    | zero =>
     intro i a h1;rw [List.drop_of_length_le (by omega),List.drop_of_length_le (by omega)];rfl
    | succ k ih =>
     intro i a h1;have hi:i<es.length:=by omega
     rw [ta hi,ta (l:=ps) (by omega)];have hm:es.getD i []∈es:=by rw [SW,SX hi];exact List.getElem_mem hi
     have h4:(!((es.getD i [])==tI) && !((es.getD i [])==tB))=false:=by rcases he _ hm with q | q<;>rw [q]<;>rfl
     simp only [bR];have e1:B i a=((bif (ps.getD i []==tA) then (bif (!(a==[]) && !(a==es.getD i [])) then some (.ret (.ret ([],false))) else some (.brk (es.getD i []))) else (bif (ps.getD i []==es.getD i []) then some (.brk a) else some (.ret (.ret ([],false)))):Option (Out aj (kr aj aj (aj×Bool)))).bind (Sh.aft fun u0=>some (.go u0))):=by subst hB;simp only [h4,cond_false];rw [aE (by omega)]
     rw [e1];simp only [kZ];generalize ps.getD i []=p;generalize es.getD i []=e;cases p==tA with
     | true =>
      simp only [cond_true];cases ha:a==[] with
      | true=>simpa [Sh.aft,CZ] using ih (i+1) e (by omega)
      | false =>
       simp only [Bool.not_false,Bool.true_and,cond_false];by_cases hq:a=e
       ·subst hq;simpa [Sh.aft,CZ] using ih (i+1) a (by omega)
       ·have h5:(a==e)=false:=by simpa using hq
        have h6:(e==a)=false:=by simpa using Ne.symm hq
        rw [h5,h6];rfl
     | false =>
      simp only [cond_false];rw [show (p==e)=(e==p) from Bool.beq_comm ..];cases e==p with
      | true=>simpa [Sh.aft,CZ] using ih (i+1) a (by omega)
      | false=>rfl
   rw [key _ 0 [] (by omega)];simp only [List.drop_zero];cases kZ ps es [] with
   | none=>rfl
   | some a =>
    simp only [S6,Sh.aft,jH];cases res==tA<;>rfl
def M9:Nat→List (List aj)
 | 0=>[[]]
 | n+1=>(M9 n).flatMap fun l=>[tI::l,tB::l]
theorem IX:∀ (es:List aj),(∀ e∈es,e=tI∨e=tB)→es∈M9 es.length
 | [],_=>by simp [M9]
 | e::es,h=>by simp only [List.length_cons,M9,List.mem_flatMap];refine ⟨es,IX es fun x hx=>h x (.tail _ hx),?_⟩;rcases h e (.head _) with rfl | rfl<;>simp
theorem P5:CW.all (fun r=>(M9 r.2.1.length).all fun es=>!(jH r.2.2 (kZ r.2.1 es [])).2||((jH r.2.2 (kZ r.2.1 es [])).1==tI||(jH r.2.2 (kZ r.2.1 es [])).1==tB))=true:=by kernel_rfl
theorem P4 {op:aj} {es:List aj} (he:∀ e∈es,e=tI∨e=tB) (h:(wY op es).2=true):(wY op es).1=tI∨(wY op es).1=tB:=by
 rcases wZ op with ⟨r,hr,_,e⟩ | ⟨hx,e⟩
 ·unfold wY at h ⊢;rw [e] at h ⊢;cases hl:decide (es.length=r.2.1.length) with
  | false=>rw [hl] at h;cases h
  | true =>
   rw [hl] at h;have hl:=S3 hl;have h1:=Tc.1 (Tc.1 P5 r hr) es (hl ▸ IX es he);have h:(jH r.2.2 (kZ r.2.1 es [])).2=true:=h;rw [h] at h1;simpa using h1
 ·unfold wY at h;rw [e] at h;cases h
def ox:aj:=[99,111,110,115,116]
def oZ:aj:=[116,114,117,116,104]
def RC (n:Int):Bool:=decide (n≥(-2147483648))&&decide (n≤2147483647)
def RX (n:Int):Bool:=(n==0)||(n==1)
def iA (s:Step) (n:Int):Bool :=
 bif s.Op==ox then decide (s.Args.length=0)&&RC s.Num else bif s.Op==oZ then decide (s.Args.length=0)&&RX s.Num else
  ((jZ s.Op).2.2&&s.Args.all fun a=>decide (a≥0)&&decide (a<n))&&(s.Num==0)&&decide (s.Args.length=(jZ s.Op).1.length)
theorem IQ (n:Nat):(((n:Nat):Int)==0)=decide (n=0):=by rw [show (0:Int)=((0:Nat):Int) from rfl,qi]
theorem Ia (n:Int) (l:List Int):∀ (k i:Nat) (b:Bool),i+k=l.length→bR (σ:=Bool) (ε:=Bool) (ρ:=Empty) (fun i0 s0=>some (.go ((s0&&decide ((l.getD i0 0)≥0))&&decide ((l.getD i0 0)<n)))) (fun i0 s0=>s0) k i b=some (.brk (b&&(l.drop i).all fun a=>decide (a≥0)&&decide (a<n)))
 | 0,i,b,h=>by rw [List.drop_of_length_le (by omega)];simp [bR]
 | k+1,i,b,h=>by
  have hi:i<l.length:=by omega
  have e:l.drop i=l.getD i 0::l.drop (i+1):=by rw [List.drop_eq_getElem_cons hi,SW,SX hi];rfl
  simp only [bR,S6,CZ];rw [Ia n l k (i+1) _ (by omega),e,List.all_cons,Bool.and_assoc,Bool.and_assoc,Bool.and_assoc]
theorem MT (s:Step) (n:Int):pK s n=some (iA s n):=by
 unfold pK iA;rw [IQ];have v1:dT tI s.Num=some (RC s.Num):=rfl;have v2:dT tB s.Num=some (RX s.Num):=rfl;rw [v1,v2,(xa s.Op).1];rw [show (s.Op==[99,111,110,115,116])=(s.Op==ox) from rfl,show (s.Op==[116,114,117,116,104])=(s.Op==oZ) from rfl];cases s.Op==ox with
 | true=>cases decide (s.Args.length=0)<;>rfl
 | false =>
  cases s.Op==oZ with
  | true=>cases decide (s.Args.length=0)<;>rfl
  | false =>
   simp only [cond_false,S6];rw [Ia n s.Args _ 0 _ (by omega),qi];rfl
theorem O3 (code:List Step) (n:Nat) (hn:n≤20) (hc:code.length≤1000):py code n=some (bif decide (code.length≤60) && !decide (n+code.length=0) then (List.range' 0 (code.length-0)).all (fun j=>iA (code.getD j a6) ((n+j:Nat):Int)) else false):=by
 unfold py;rw [S4 (show ¬ ((n:Nat):Int)<0 by omega),S4 (show ¬ ((n:Nat):Int)>20 by omega),show (60:Int)=((60:Nat):Int) from rfl,G7,fy (by unfold rL;omega),show (((n:Nat):Int)+((code.length:Nat):Int)==0)=decide (n+code.length=0) by rw [← IQ];rfl];rw [cO (fun j=>iA (code.getD j a6) ((n+j:Nat):Int)) _ _ () (fun j u _ hj=>by rw [show Step.mk ((code.getD j a6).Op) ((code.getD j a6).Num) ((code.getD j a6).Args)=code.getD j a6 from rfl,MT,fy (by unfold rL;omega),show ((n:Nat):Int)+((j:Nat):Int)=((n+j:Nat):Int) by omega];cases iA (code.getD j a6) ((n+j:Nat):Int)<;>rfl),iP]
 cases decide (code.length≤60)<;>cases decide (n+code.length=0)<;>cases (List.range' 0 (code.length-0)).all (fun j=>iA (code.getD j a6) ((n+j:Nat):Int))<;>rfl
theorem MI (code:List Step) (n:Nat) (hn:n≤20) (hc:code.length≤1000):rD code n=some (bif decide (code.length≤60) && !decide (n+code.length=0) then (List.range' 0 (code.length-0)).all (fun j=>iA (code.getD j a6) ((n+j:Nat):Int)) else false):=by
 unfold rD;rw [S4 (show ¬ ((n:Nat):Int)<0 by omega),S4 (show ¬ ((n:Nat):Int)>20 by omega),show (60:Int)=((60:Nat):Int) from rfl,G7,IQ,IQ];rw [cO (fun j=>iA (code.getD j a6) ((n+j:Nat):Int)) _ _ () (fun j u _ hj=>by
  generalize code.getD j a6=s;rw [fy (by unfold rL;omega),show ((n:Nat):Int)+((j:Nat):Int)=((n+j:Nat):Int) by omega];unfold iA;have v1:fN tI s.Num=some (RC s.Num):=by unfold fN RC;rfl
  have v2:fN tB s.Num=some (RX s.Num):=rfl;rw [v1,v2,(xa s.Op).2];rw [show (s.Op==[99,111,110,115,116])=(s.Op==ox) from rfl,show (s.Op==[116,114,117,116,104])=(s.Op==oZ) from rfl,show (((s.Args.length:Nat):Int) != 0) = !decide (s.Args.length=0) by show (!(((s.Args.length:Nat):Int)==0))=_;rw [IQ]];cases s.Op==ox with
  | true=>cases decide (s.Args.length=0)<;>cases RC s.Num<;>rfl
  | false =>
   cases s.Op==oZ with
   | true=>cases decide (s.Args.length=0)<;>cases RX s.Num<;>rfl
   | false =>
    simp only [cond_false,S6,Hj,show (s.Num != 0) = !(s.Num==0) from rfl];rw [cO (r:=Out.ret (kr.ret false)) (fin:=fun _ _=>Out.brk ()) (fun k=>decide (s.Args.getD k 0≥0)&&decide (s.Args.getD k 0<((n+j:Nat):Int))) _ _ () (fun k u _ hk=>by rw [show decide (s.Args.getD k 0<0) = !decide (s.Args.getD k 0≥0) by rw [← decide_not,decide_eq_decide];omega,show decide (s.Args.getD k 0≥((n+j:Nat):Int)) = !decide (s.Args.getD k 0<((n+j:Nat):Int)) by rw [← decide_not,decide_eq_decide];omega];cases decide (s.Args.getD k 0≥0)<;>cases decide (s.Args.getD k 0<((n+j:Nat):Int))<;>rfl),Dj (fun a=>decide (a≥0)&&decide (a<((n+j:Nat):Int)))]
    cases (jZ s.Op).2.2<;>cases decide (s.Args.length=(jZ s.Op).1.length)<;>cases s.Num==0<;>cases s.Args.all (fun a=>decide (a≥0)&&decide (a<((n+j:Nat):Int)))<;>rfl),iP]
 rw [show (decide (n=0)&&decide (code.length=0))=decide (n+code.length=0) by rw [← Bool.decide_and,decide_eq_decide];omega];cases decide (code.length≤60)<;>cases decide (n+code.length=0)<;>cases (List.range' 0 (code.length-0)).all (fun j=>iA (code.getD j a6) ((n+j:Nat):Int))<;>rfl
def yr (vs:List aj) (at_:List Int):List aj:=at_.map fun a=>vs.getD a.toNat []
def stepT (s:Step) (vs:List aj):aj×Bool:=bif s.Op==ox then (tI,true) else bif s.Op==oZ then (tB,true) else wY s.Op (yr vs s.Args)
def runT:List Step→List aj→Option (List aj)
 | [],vs=>some vs
 | s::c,vs=>bif (stepT s vs).2 then runT c (vs++[(stepT s vs).1]) else none
def MX (vs:List aj):Prop:=∀ e∈vs,e=tI∨e=tB
theorem Ht {vs:List aj} (h:MX vs) {at_:List Int} (ha:∀ a∈at_,0≤a∧a<((vs.length:Nat):Int)):MX (yr vs at_):=by
 intro e he;obtain ⟨a,hm,rfl⟩:=List.mem_map.1 he;have:=ha a hm;have hl:a.toNat<vs.length:=by omega
 refine h _ ?_;rw [SW,SX hl];exact List.getElem_mem hl
theorem PV (vs:List aj) (at_:List Int) (ha:∀ a∈at_,0≤a∧a<((vs.length:Nat):Int)) (hl:at_.length≤1000):dc vs at_=some (yr vs at_):=by
 unfold dc;have key:∀ (k i:Nat) (s:List aj),i+k=at_.length→s.length=i→bR (σ:=(List aj)) (ε:=(List aj)) (ρ:=Empty) (fun i0 s0 =>
  bo (0≤(at_.getD i0 0)∧(at_.getD i0 0)<(vs.length:Int))<|
  bo ((s0.length+1)*16≤140737488355328)<|
  some (.go (s0++[(vs.getD (at_.getD i0 0).toNat [])]))) (fun i0 s0=>s0) k i s=some (.brk (s++yr vs (at_.drop i))):=by
  intro k;induction k with
  | zero=>intro i s h hs;rw [List.drop_of_length_le (by omega)];simp [bR,yr]
  | succ k ih =>
   intro i s h hs;have hi:i<at_.length:=by omega
   have e:at_.drop i=at_.getD i 0::at_.drop (i+1):=by rw [List.drop_eq_getElem_cons hi,SW,SX hi];rfl
   have hm:=ha (at_.getD i 0) (by rw [SW,SX hi];exact List.getElem_mem hi);simp only [bR];rw [aE hm,aE (by omega)];simp only [S6,CZ];rw [ih (i+1) _ (by omega) (by simp [hs]),e];simp [yr]
 rw [key _ 0 [] (by omega) rfl];simp [aftE]
theorem PW:eI=dc:=rfl
theorem LJ {s:Step} {vs:List aj} (ho:MX vs) (hs:iA s ((vs.length:Nat):Int)=true) (hq:(stepT s vs).2=true):MX (vs++[(stepT s vs).1]):=by
 intro x hx;rcases List.mem_append.1 hx with hx | hx
 ·exact ho x hx
 ·have hx:=List.mem_singleton.1 hx;subst hx;unfold stepT at hq ⊢;unfold iA at hs;cases h1:s.Op==ox with
  | true=>exact .inl rfl
  | false =>
   rw [h1] at hq hs;simp only [cond_false] at hq hs ⊢;cases h2:s.Op==oZ with
   | true=>exact .inr rfl
   | false =>
    rw [h2] at hq hs;simp only [cond_false,SY,Tc,decide_eq_true_eq] at hq hs ⊢;exact P4 (Ht ho fun a ha=>by have:=hs.1.1.2 a ha;omega) hq
theorem EP {ε ρ:Type} {body:Nat→List aj→Option (kr (List aj) ε ρ)} (f:List aj→ε) (r:ρ) (code:List Step) (n:Nat) (hv:∀ j,j<code.length→iA (code.getD j a6) ((n+j:Nat):Int)=true)
 (hb:∀ j vs,j<code.length→vs.length=n+j→MX vs→iA (code.getD j a6) ((vs.length:Nat):Int)=true→body j vs=some (bif (stepT (code.getD j a6) vs).2 then .go (vs++[(stepT (code.getD j a6) vs).1]) else .ret r)) :
 ∀ (k i:Nat) (vs:List aj),i+k=code.length→vs.length=n+i→MX vs→bR body (fun _ s=>f s) k i vs=some (match runT (code.drop i) vs with | some ws=>.brk (f ws) | none=>.ret r)
 | 0,i,vs,h,hl,ho=>by rw [List.drop_of_length_le (by omega)];rfl
 | k+1,i,vs,h,hl,ho=>by
  have hi:i<code.length:=by omega
  have e:code.drop i=code.getD i a6::code.drop (i+1):=by rw [List.drop_eq_getElem_cons hi,SW,SX hi];rfl
  have hs:=hv i hi;rw [← hl] at hs;have hb1:=hb i vs hi hl ho hs;simp only [bR];rw [hb1,e];simp only [S6,runT];cases hq:(stepT (code.getD i a6) vs).2 with
  | false=>rfl
  | true =>
   simp only [cond_true,CZ];exact EP f r code n hv hb k (i+1) _ (by omega) (by simp [hl];omega) (LJ ho hs hq)
def jR (code:List Step) (ts:List aj):aj×Bool :=
 bif (bif decide (code.length≤60) && !decide (ts.length+code.length=0) then (List.range' 0 (code.length-0)).all (fun j=>iA (code.getD j a6) ((ts.length+j:Nat):Int)) else false) then
  (match runT code ts with | some vs=>(vs.getD (vs.length-1) [],true) | none=>([],false)) else ([],false)
theorem Ie {s:Step} {m:Int} (h:iA s m=true) (h1:(s.Op==ox)=false) (h2:(s.Op==oZ)=false):s.Args.length≤3∧∀ a∈s.Args,0≤a∧a<m:=by
 unfold iA at h;rw [h1,h2] at h;simp only [cond_false,SY,Tc,decide_eq_true_eq] at h;refine ⟨?_,fun a ha=>by have:=h.1.1.2 a ha;omega⟩;rw [h.2];have tab:CW.all (fun r=>decide (r.2.1.length≤3))=true:=by kernel_rfl
 rcases wZ s.Op with ⟨r,hr,_,e⟩ | ⟨_,e⟩
 ·rw [e];simpa using Tc.1 tab r hr
 ·rw [e];exact Nat.zero_le _
theorem EN:∀ (code:List Step) (vs ws:List aj),runT code vs=some ws→ws.length=vs.length+code.length
 | [],vs,ws,h=>by cases h;simp
 | s::c,vs,ws,h=>by
  simp only [runT] at h;cases hq:(stepT s vs).2 with
  | false=>rw [hq] at h;cases h
  | true=>rw [hq] at h;have:=EN c _ ws h;simp at this ⊢;omega
theorem Lj {ws:List aj} (h:0<ws.length) (h2:ws.length≤1000000):(bo (0≤(bq (((ws.length:Nat):Int)-1))∧(bq (((ws.length:Nat):Int)-1))<(ws.length:Int))<|some ((ws.getD (bq (((ws.length:Nat):Int)-1)).toNat []),true))=some (ws.getD (ws.length-1) [],true):=by rw [fy (by unfold rL;omega),aE (by omega),show (((ws.length:Nat):Int)-1).toNat=ws.length-1 by omega]
theorem LM (code:List Step) (ts:List aj) (ho:MX ts) (hn:ts.length≤20) (hc:code.length≤1000):jk code ts=some (jR code ts):=by
 unfold jk jR;rw [O3 code ts.length hn hc,S6];cases hV:(bif decide (code.length≤60) && !decide (ts.length+code.length=0) then (List.range' 0 (code.length-0)).all (fun j=>iA (code.getD j a6) ((ts.length+j:Nat):Int)) else false) with
 | false=>rfl
 | true =>
  simp only [cond_true];have hV1:code.length≤60∧ts.length+code.length≠0∧∀ j,j<code.length→iA (code.getD j a6) ((ts.length+j:Nat):Int)=true:=by
   cases h:decide (code.length≤60) && !decide (ts.length+code.length=0) with
   | false=>rw [h] at hV;cases hV
   | true =>
    rw [h] at hV;simp only [SY,Bool.not_eq_true',decide_eq_true_eq,decide_eq_false_iff_not,cond_true,Tc] at h hV;exact ⟨h.1,h.2,fun j hj=>hV j (by simpa using hj)⟩
  obtain ⟨h60,h0,hS⟩:=hV1;rw [cO (r:=(([]:aj),false)) (fun _=>true) _ _ () (fun j u _ hj=>by
   have hm:ts.getD j []∈ts:=by rw [SW,SX (by omega)];exact List.getElem_mem _
   rcases ho _ hm with q | q<;>rw [q]<;>rfl),iP,show ((List.range' 0 (ts.length-0)).all fun _=>true)=true from Tc.2 (fun _ _=>rfl)]
  simp only [cond_true];have step:∀ j vs,j<code.length→vs.length=ts.length+j→MX vs→iA (code.getD j a6) ((vs.length:Nat):Int)=true →
   ((bif ((code.getD j a6).Op==[99,111,110,115,116]) then some ([105,110,116],true) else (bif ((code.getD j a6).Op==[116,114,117,116,104]) then some ([98,111,111,108],true) else ((dc vs ((code.getD j a6).Args)).bind fun y3=>(cz ((code.getD j a6).Op) y3).bind fun y4=>some (y4.1,y4.2)))):Option (aj×Bool))=some (stepT (code.getD j a6) vs):=by
   intro j vs hj hl hv hs;unfold stepT;rw [show ((code.getD j a6).Op==[99,111,110,115,116])=((code.getD j a6).Op==ox) from rfl,show ((code.getD j a6).Op==[116,114,117,116,104])=((code.getD j a6).Op==oZ) from rfl];cases h1:(code.getD j a6).Op==ox with
   | true=>rfl
   | false=>cases h2:(code.getD j a6).Op==oZ with
    | true=>rfl
    | false =>
     obtain ⟨a1,a2⟩:=Ie hs h1 h2;simp only [cond_false];rw [PV vs _ a2 (by omega),S6,Lb _ _ (Ht hv a2)];rfl
  have fin:∀ ws,runT code ts=some ws→(bo (0≤(bq (((ws.length:Nat):Int)-1))∧(bq (((ws.length:Nat):Int)-1))<(ws.length:Int))<|some ((ws.getD (bq (((ws.length:Nat):Int)-1)).toNat []),true))=some (ws.getD (ws.length-1) [],true):=fun ws h=>by have:=EN code ts ws h;exact Lj (by omega) (by omega)
  cases code with
  | nil =>
   exact fin ts rfl
  | cons s c =>
   rw [S5 (show (0:Int)<(((s::c).length:Nat):Int) by simp)];simp only [cond_true];have hs0:=hS 0 (by simp);have e0:=step 0 ts (by simp) rfl ho (by simpa using hs0);rw [e0];simp only [S6];have g0:(s::c).getD 0 a6=s:=rfl;rw [g0] at e0 ⊢;have hr:runT (s::c) ts=bif (stepT s ts).2 then runT c (ts++[(stepT s ts).1]) else none:=rfl
   have hgo:=EP (ρ:=Out (List aj) (aj×Bool)) (fun s:List aj=>(Out.brk s:Out (List aj) (aj×Bool))) (Out.ret (([]:aj),false)) (s::c) ts.length hS (body:=fun i1 s1 =>
    ((
     bif ((((s::c).getD i1 a6).Op)==[99,111,110,115,116]) then (
      some ([105,110,116],true)
     ) else (
      bif ((((s::c).getD i1 a6).Op)==[116,114,117,116,104]) then (
       some ([98,111,111,108],true)
      ) else (
       (eI s1 (((s::c).getD i1 a6).Args)).bind fun y3 =>
       (cz (((s::c).getD i1 a6).Op) y3).bind fun y4 =>
       some (y4.1,y4.2)
      )
     )
    ):Option (aj×Bool)).bind fun v1 =>
    bif v1.2 then (
     bo ((s1.length+1)*16≤140737488355328)<|
     some (.go (s1++[v1.1]))
    ) else (
     some (.ret (.ret ([],false)))
    )) (fun j vs hj hl hv hs=>by
    rw [PW,step j vs hj hl hv hs,S6];cases (stepT ((s::c).getD j a6) vs).2 with
    | false=>rfl
    | true=>simp only [cond_true];rw [aE (by omega)])
   cases hq:(stepT s ts).2 with
   | false =>
    rw [hr,hq];rfl
   | true =>
    have hr':runT (s::c) ts=runT c (ts++[(stepT s ts).1]):=by rw [hr,hq];rfl
    simp only [cond_true];rw [aE (by omega)];have h1:MX (ts++[(stepT s ts).1]):=LJ ho (by simpa using hs0) hq;rw [hgo ((s::c).length-1) 1 _ (by simp only [List.length_cons];omega) (by simp) h1];simp only [List.drop_succ_cons,List.drop_zero];rw [← hr'];cases hw:runT (s::c) ts with
    | none=>rfl
    | some ws =>
     simp only [S6,Sh.aft];exact fin ws hw
theorem JH (vs:List aj) (at_:List Int) (ha:∀ a∈at_,0≤a∧a<((vs.length:Nat):Int)) (hl:at_.length≤1000):∀ (k i N:Nat) (s:List aj),i+k=at_.length→k<N→s.length=i →
 vq (σ:=((List aj)×Int)) (ε:=(List aj)) (ρ:=Empty) (fun s2 =>
  bif decide (s2.2<((at_.length:Nat):Int)) then (
   bo (0≤s2.2∧s2.2<(at_.length:Int))<|
   bo (0≤(at_.getD s2.2.toNat 0)∧(at_.getD s2.2.toNat 0)<(vs.length:Int))<|
   bo ((at_.getD s2.2.toNat 0).toNat<vs.length)<|
   bo ((s2.1.length+1)*16≤140737488355328)<|
   some (.go ((s2.1++[(vs.getD ((at_.getD s2.2.toNat 0).toNat) [])]),(bq (s2.2+1))))
  ) else (
   some (.brk s2.1)
  )) N (s,((i:Nat):Int))=some (.brk (s++yr vs (at_.drop i)))
 | 0,i,N+1,s,h,hN,hs=>by
  simp only [vq];rw [S4 (show ¬ ((i:Nat):Int)<((at_.length:Nat):Int) by omega),List.drop_of_length_le (by omega)];simp [yr,CZ]
 | k+1,i,N+1,s,h,hN,hs=>by
  have hi:i<at_.length:=by omega
  have e:at_.drop i=at_.getD i 0::at_.drop (i+1):=by rw [List.drop_eq_getElem_cons hi,SW,SX hi];rfl
  have hm:=ha (at_.getD i 0) (by rw [SW,SX hi];exact List.getElem_mem hi);simp only [vq];rw [S5 (show ((i:Nat):Int)<((at_.length:Nat):Int) by omega)];simp only [cond_true,Int.toNat_natCast];rw [aE (by omega),aE hm,aE (by omega),aE (by omega),fy (by unfold rL;omega)];simp only [S6,CZ];have:=JH vs at_ ha hl k (i+1) N (s++[vs.getD (at_.getD i 0).toNat []]) (by omega) (by omega) (by simp [hs]);rw [show ((i:Nat):Int)+1=((i+1:Nat):Int) by omega];refine this.trans ?_;rw [e];simp [yr]
theorem Jp (code:List Step) (ts:List aj) (ho:MX ts) (hn:ts.length≤20) (hc:code.length≤1000):ik code ts=some (jR code ts):=by
 unfold ik jR;rw [MI code ts.length hn hc,S6];cases hV:(bif decide (code.length≤60) && !decide (ts.length+code.length=0) then (List.range' 0 (code.length-0)).all (fun j=>iA (code.getD j a6) ((ts.length+j:Nat):Int)) else false) with
 | false=>rfl
 | true =>
  simp only [cond_true];have hV1:code.length≤60∧ts.length+code.length≠0∧∀ j,j<code.length→iA (code.getD j a6) ((ts.length+j:Nat):Int)=true:=by
   cases h:decide (code.length≤60) && !decide (ts.length+code.length=0) with
   | false=>rw [h] at hV;cases hV
   | true =>
    rw [h] at hV;simp only [SY,Bool.not_eq_true',decide_eq_true_eq,decide_eq_false_iff_not,cond_true,Tc] at h hV;exact ⟨h.1,h.2,fun j hj=>hV j (by simpa using hj)⟩
  obtain ⟨h60,h0,hS⟩:=hV1;rw [xd (fun _=>true) (fun j=>ts.getD j []) (([]:aj),false) ts.length (fun j s hj hs=>by
   have hm:ts.getD j []∈ts:=by rw [SW,SX (by omega)];exact List.getElem_mem _
   have h4:(!((ts.getD j [])==[105,110,116]) && !((ts.getD j [])==[98,111,111,108]))=false:=by rcases ho _ hm with q | q<;>rw [q]<;>rfl
   rw [h4];simp only [cond_false,cond_true];rw [aE (by omega)]) (ts.length-0) 0 [] (by omega) rfl,show ((List.range' 0 (ts.length-0)).all fun _=>true)=true from Tc.2 (fun _ _=>rfl)]
  have hid:(List.range' 0 (ts.length-0)).map (fun j=>ts.getD j [])=ts:=by refine List.ext_getElem (by simp) fun j h1 h2=>?_;simp [SW,SX h2]
  rw [hid];simp only [cond_true,S6,Sh.aft,List.nil_append];rw [EP (fun s:List aj=>s) (([]:aj),false) code ts.length hS (fun j vs hj hl hv hs=>by
   unfold stepT;rw [show ((code.getD j a6).Op==[99,111,110,115,116])=((code.getD j a6).Op==ox) from rfl,show ((code.getD j a6).Op==[116,114,117,116,104])=((code.getD j a6).Op==oZ) from rfl];cases h1:(code.getD j a6).Op==ox with
   | true=>simp only [cond_true];rw [aE (by omega)];rfl
   | false=>cases h2:(code.getD j a6).Op==oZ with
    | true=>simp only [cond_true,cond_false];rw [aE (by omega)];rfl
    | false =>
     obtain ⟨a1,a2⟩:=Ie hs h1 h2;simp only [cond_false];have hp:=JH vs (code.getD j a6).Args a2 (by omega) (code.getD j a6).Args.length 0 4294967296 [] (by omega) (by omega) rfl;simp only [List.drop_zero,List.nil_append] at hp;refine (congrArg (fun o=>Option.bind (Option.bind o _) _) hp).trans ?_;simp only [S6,aftE];rw [Ox _ _ (Ht hv a2)];simp only [S6];cases (wY (code.getD j a6).Op (yr vs (code.getD j a6).Args)).2 with
     | false=>rfl
     | true=>simp only [cond_true];rw [aE (by omega)];rfl) (code.length-0) 0 ts (by omega) rfl ho]
  simp only [List.drop_zero];cases hw:runT code ts with
  | none=>rfl
  | some ws =>
   simp only [S6,Sh.aft];have:=EN code ts ws hw;have hl:=Lj (ws:=ws) (by omega) (by omega);rw [fy (by unfold rL;omega)] at hl ⊢;rw [aE (by omega),aE (by omega),show (((ws.length:Nat):Int)-1).toNat=ws.length-1 by omega]
theorem L9 {l:List Int} {i:Nat} (h:i<l.length):l.drop i=l.getD i 0::l.drop (i+1):=by rw [List.drop_eq_getElem_cons h,SW,SX h];rfl
def G8 (d:Int):Bool := !(decide (d<0)||decide (d>4096))
theorem Hr (l:List Int):∀ (k i:Nat) (b:Bool),i+k=l.length→bR (σ:=Bool) (ε:=Bool) (ρ:=(Int×Int)) (fun i0 s0 =>
 bif (decide ((l.getD i0 0)<0)||decide ((l.getD i0 0)>4096)) then (
  some (.ret (0,2))
 ) else (
  some (.go (s0||((l.getD i0 0)==0)))
 )) (fun i0 s0=>s0) k i b=some (bif (l.drop i).all G8 then .brk (b||(l.drop i).any ((0:Int) == ·)) else .ret (0,2))
 | 0,i,b,h=>by rw [List.drop_of_length_le (by omega)];simp [bR]
 | k+1,i,b,h=>by
  rw [L9 (by omega)];simp only [bR,List.all_cons,List.any_cons];cases hd:(decide ((l.getD i 0)<0)||decide ((l.getD i 0)>4096)) with
  | true =>
   have h9:G8 (l.getD i 0)=false:=by unfold G8;rw [hd];rfl
   rw [h9];rfl
  | false =>
   simp only [cond_false,S6,CZ];rw [Hr l k (i+1) _ (by omega)];simp only [G8,hd,Bool.not_false,Bool.true_and,Bool.or_assoc];rw [show (l.getD i 0==0)=((0:Int)==l.getD i 0) from Bool.beq_comm ..]
theorem size_eq (ds:List Int):fW ds=nq ds:=by
 unfold fW nq;cases decide (((ds.length:Nat):Int)>6) with
 | true=>rfl
 | false =>
  simp only [cond_false];rw [Hr ds (ds.length-0) 0 false (by omega),cO (fun j=>G8 (ds.getD j 0)) _ _ () (fun j u _ _=>by unfold G8;cases (decide ((ds.getD j 0)<0)||decide ((ds.getD j 0)>4096))<;>rfl),Dj G8];have hc:gr ds 0=some (ds.any ((0:Int) == ·)):=by unfold gr ny;exact pY ((0:Int) == ·) 0 ds (fun j _=>by cases (0:Int)==ds.getD j 0<;>rfl)
  rw [hc,List.drop_zero];cases ds.all G8 with
  | false=>rfl
  | true =>
   simp only [cond_true,S6,Sh.aft,Bool.false_or]
theorem DC {σ ε ρ:Type} {body:Nat→σ→Option (kr σ ε ρ)} {fin:Nat→σ→ε} (h:∀ j s,∃ v,body j s=some v):∀ (k i:Nat) (s:σ),∃ v,bR body fin k i s=some v
 | 0,i,s=>⟨_,rfl⟩
 | k+1,i,s=>by
  obtain ⟨v,hv⟩:=h i s;simp only [bR,hv,S6];cases v with
  | go s'=>exact DC h k (i+1) s'
  | brk e=>exact ⟨_,rfl⟩
  | ret r=>exact ⟨_,rfl⟩
theorem MK (ds:List Int):∃ v,nq ds=some v:=by
 unfold nq;cases decide (((ds.length:Nat):Int)>6) with
 | true=>exact ⟨_,rfl⟩
 | false =>
  simp only [cond_false];rw [Hr ds (ds.length-0) 0 false (by omega)];cases (ds.drop 0).all G8 with
  | false=>exact ⟨_,rfl⟩
  | true =>
   simp only [cond_true,S6,Sh.aft];cases (false||(ds.drop 0).any ((0:Int) == ·)) with
   | true=>exact ⟨_,rfl⟩
   | false =>
    simp only [cond_false];obtain ⟨v,hv⟩:=DC (σ:=Int) (ε:=Int) (ρ:=(Int×Int)) (body:=fun i1 s1 =>
     bif decide ((bq (s1*(ds.getD i1 0)))>4096) then (
      some (.ret (0,3))
     ) else (
      some (.go (bq (s1*(ds.getD i1 0))))
     )) (fin:=fun i1 s1=>s1) (fun j s=>by cases decide ((bq (s*(ds.getD j 0)))>4096)<;>exact ⟨_,rfl⟩) (ds.length-0) 0 1
    rw [hv];cases v<;>exact ⟨_,rfl⟩
def xV (t:aj) (n:Int):Bool:=bif t==tB then RX n else bif t==tI then RC n else false
theorem elemV (t:aj) (n:Int):dT t n=some (xV t n)∧fN t n=some (xV t n):=by
 unfold dT fN xV;by_cases h1:t=tI
 ·subst h1;exact ⟨rfl,rfl⟩
 ·have q1:(t==tI)=false:=by simpa using h1
  rw [show (t==[105,110,116])=false from q1];cases t==tB<;>exact ⟨rfl,rfl⟩
theorem Nt (l:List Int) (h:l.length≤1000000):cm l=some l:=by unfold cm;rw [aE (by omega)];exact Bf fun e=>by rw [e]
theorem Nc (a:Array) (h1:a.Dims.length≤1000000) (h2:a.Data.length≤1000000):∃ b,fE a=some b∧oe a=some b:=by
 unfold fE oe zD EF;cases (!(a.Elem==[105,110,116]) && !(a.Elem==[98,111,111,108])) with
 | true=>exact ⟨_,rfl,rfl⟩
 | false =>
  simp only [cond_false];rw [size_eq];obtain ⟨⟨n,e⟩,hv⟩:=MK a.Dims;rw [hv];simp only [S6];cases he:e==0 with
  | false=>exact ⟨_,rfl,rfl⟩
  | true =>
   simp only [cond_true];cases ((a.Data.length:Nat):Int)==n with
   | false=>exact ⟨_,rfl,rfl⟩
   | true =>
    simp only [cond_true];have hc:lH a.Elem a.Data=some (a.Data.all (xV a.Elem)):=by
     unfold lH fp il;rw [pY (fun n=>!xV a.Elem n) 0 a.Data (fun j _=>by unfold mT;rw [(elemV _ _).1];simp only [S6];cases xV a.Elem (a.Data.getD j 0)<;>rfl)]
     simp [List.any_eq_not_all_not]
    rw [hc,cO (r:=((Array.mk [] [] []),(2:Int))) (fun j=>xV a.Elem (a.Data.getD j 0)) _ _ () (fun j u _ _=>by rw [(elemV _ _).2];simp only [S6];cases xV a.Elem (a.Data.getD j 0)<;>rfl),Dj (xV a.Elem)]
    cases a.Data.all (xV a.Elem) with
    | false=>exact ⟨_,rfl,rfl⟩
    | true =>
     simp only [cond_true,S6,Sh.aft];rw [Nt _ h1,Nt _ h2];unfold uG;rw [aE (by omega),aE (by omega)];exact ⟨_,rfl,rfl⟩
theorem Q3 (l:List a8) (h:l.length≤1000000):dH l=some l:=by unfold dH;rw [aE (by omega)];exact Bf fun e=>by rw [e]
theorem copy_eq (ls:List Linear) (h:ls.length≤1000000) (hT:∀ l∈ls,l.Terms.length≤1000000):iD ls=some ls:=by
 unfold iD gG;rw [aE (by omega),Bf (fun e=>by rw [e]),S6];have key:∀ (k i N:Nat),i+k=ls.length→k<N→vq (σ:=((List Linear)×Int)) (ε:=(List Linear)) (ρ:=Empty) (fun s0 =>
  bif decide (s0.2<((ls.length:Nat):Int)) then (
   bo (0≤s0.2∧s0.2<(s0.1.length:Int))<|
   bo (s0.2.toNat<s0.1.length)<|
   (dH ((s0.1.getD s0.2.toNat ai).Terms)).bind fun y1 =>
   some (.go ((s0.1.set s0.2.toNat (Linear.mk ((s0.1.getD s0.2.toNat ai).Const) y1)),(bq (s0.2+1))))
  ) else (
   some (.brk s0.1)
  )) N (ls,((i:Nat):Int))=some (.brk ls):=by
  intro k;induction k with
  | zero =>
   intro i N h1 h2;obtain ⟨N,rfl⟩:∃ M,N=M+1:=⟨N-1,by omega⟩;simp only [vq];rw [S4 (show ¬ ((i:Nat):Int)<((ls.length:Nat):Int) by omega)];rfl
  | succ k ih =>
   intro i N h1 h2;obtain ⟨N,rfl⟩:∃ M,N=M+1:=⟨N-1,by omega⟩;simp only [vq];rw [S5 (show ((i:Nat):Int)<((ls.length:Nat):Int) by omega)];simp only [cond_true,Int.toNat_natCast];have hi:i<ls.length:=by omega
   have hg:ls.getD i ai=ls[i]:=by rw [SW,SX hi];rfl
   rw [aE (by omega),aE hi,Q3 _ (by rw [hg];exact hT _ (List.getElem_mem hi)),S6,fy (by unfold rL;omega),hg];have hs:ls.set i (Linear.mk ls[i].Const ls[i].Terms)=ls:=List.set_getElem_self hi;rw [hs];simp only [S6,CZ];rw [show ((i:Nat):Int)+1=((i+1:Nat):Int) by omega];exact ih (i+1) N (by omega) (by omega)
 refine (congrArg (fun o=>Option.bind o _) (key ls.length 0 4294967296 (by omega) (by omega))).trans ?_;rfl
def ET (op:aj):Bool:=(((((op==[115,105,122,101])||(op==[105,111,116,97]))||(op==[102,105,108,108]))||(op==[116,97,107,101]))||(op==[100,114,111,112]))||(op==[119,105,110,100,111,119,115])
def vE (x:Instr):Bool :=
 (((((decide (x.Sizes.length=(bif ET x.Op then 1 else 0))&&((((x.Array.Elem==[])&&decide (x.Array.Dims.length=0))&&decide (x.Array.Data.length=0))||(x.Op==[99,111,110,115,116])))&&((x.Num==0)||(x.Op==[99,104,117,110,107])))&&(decide (x.Fun.length=0)||((x.Op==[102,111,108,100])||(x.Op==[115,99,97,110]))))&&decide (x.Check≥0))&&((x.Check==0)||((x.Op==[105,110,100,101,120])||(x.Op==[117,112,100,97,116,101]))))
theorem Me (x:Instr):nQ x=some (vE x):=by
 unfold nQ vE;have e:(bif (x.Op==[115,105,122,101]) then some true else bif (x.Op==[105,111,116,97]) then some true else bif (x.Op==[102,105,108,108]) then some true else bif (x.Op==[116,97,107,101]) then some true else bif (x.Op==[100,114,111,112]) then some true else some (x.Op==[119,105,110,100,111,119,115]))=some (ET x.Op):=by unfold ET;cases x.Op==[115,105,122,101]<;>cases x.Op==[105,111,116,97]<;>cases x.Op==[102,105,108,108]<;>cases x.Op==[116,97,107,101]<;>cases x.Op==[100,114,111,112]<;>rfl
 rw [e,S6];have e2:(bif ET x.Op then some 1 else some 0:Option Nat)=some (bif ET x.Op then 1 else 0):=by cases ET x.Op<;>rfl
 rw [e2,S6,qi,IQ,IQ,IQ]
theorem KD (x:Instr) (h1:x.Array.Dims.length≤1000) (h2:x.Array.Data.length≤1000):pN x=some (vE x&&(decide (x.Frame.length≤6)&&(x.Frame.all bg&&x.Sizes.all bg))):=by
 unfold pN oh vE;rw [S6,show ((((((x.Op==[115,105,122,101])||(x.Op==[105,111,116,97]))||(x.Op==[102,105,108,108]))||(x.Op==[116,97,107,101]))||(x.Op==[100,114,111,112]))||(x.Op==[119,105,110,100,111,119,115]))=ET x.Op from rfl];rw [cO (r:=false) (fun j=>bg (x.Sizes.getD j ai)) _ _ () (fun j u _ _=>by
  rw [Is,dX,S6];cases bg (x.Sizes.getD j ai)<;>rfl),iP,Dj bg,
  cO (r:=false) (fun j=>bg (x.Frame.getD j ai)) _ _ () (fun j u _ _=>by
  rw [Is,dX,S6];cases bg (x.Frame.getD j ai)<;>rfl),iP,Dj bg]
 have q1:(!(ET x.Op==(((x.Sizes.length:Nat):Int)==1))||decide (((x.Sizes.length:Nat):Int)>1)) = !decide (x.Sizes.length=(bif ET x.Op then 1 else 0)):=by
  rw [show (1:Int)=((1:Nat):Int) from rfl,qi,G7];cases ET x.Op with
  | true =>
   by_cases h:x.Sizes.length=1
   ·simp [h]
   ·simp [h]
  | false =>
   by_cases h:x.Sizes.length=0
   ·simp [h]
   ·by_cases h3:x.Sizes.length=1
    ·simp [h3]
    ·simp only [cond_false];rw [S4 h,S4 h3,S4 (by omega)];rfl
 have q5:decide (((x.Fun.length:Nat):Int)>0) = !decide (x.Fun.length=0):=by rw [← decide_not,decide_eq_decide];omega
 have q6:decide ((bq (((x.Array.Dims.length:Nat):Int)+((x.Array.Data.length:Nat):Int)))>0) = !(decide (x.Array.Dims.length=0)&&decide (x.Array.Data.length=0)):=by rw [fy (by unfold rL;omega),← Bool.decide_and,← decide_not,decide_eq_decide];omega
 have q3:decide (x.Check<0) = !decide (x.Check≥0):=by rw [← decide_not,decide_eq_decide];omega
 rw [q1,q5,q6,q3,show (x.Num != 0) = !(x.Num==0) from rfl,show (x.Check != 0) = !(x.Check==0) from rfl,show (6:Int)=((6:Nat):Int) from rfl,J4];have B1:∀ c y:Bool,(bif c then some false else some y)=some (!c&&y):=by decide
 have B2:∀ c y:Bool,(bif c then some y else some false)=some (c&&y):=by decide
 simp only [B1,B2,Bool.not_or,Bool.not_and,Bool.not_not];exact congrArg some (by ac_rfl)
def dF (c:aY):ag:=ag.mk c.Elem c.Shape.Dims
def Fv (c:aY):Prop:=c.Shape.Row=[]∧c.Shape.Dims.length≤1000∧(∀ l∈c.Shape.Dims,bg l=true)∧(c.Elem=tI∨c.Elem=tB)
abbrev Rf:=Option (ag×(List Linear)×Bool)
abbrev Rr:=Option (aY×(List Linear)×Bool)
def dR (a:Rf) (b:Rr):Prop:=∃ f cs ok t cs',a=some (f,cs,ok)∧b=some (t,cs',ok)∧f.dims.length≤1000 ∧
 (ok=true→t=aY.mk f.elem (Shape.mk [] f.dims)∧cs=cs'∧(∀ l∈f.dims,Dd l)∧cs.length≤1000∧∀ l∈cs,l.Terms.length≤1000)
theorem dR.no {f:ag} {cs cs':List Linear} {t:aY} (h:f.dims.length≤1000):dR (some (f,cs,false)) (some (t,cs',false)):=⟨_,_,_,_,_,rfl,rfl,h,fun e=>by cases e⟩
theorem dR.of {f:ag} {t:aY} {ok:Bool} (h:f.dims.length≤1000) (hk:ok=true→t=aY.mk f.elem (Shape.mk [] f.dims)∧∀ l∈f.dims,bg l=true):dR (some (f,[],ok)) (some (t,[],ok)) :=
 ⟨_,_,_,_,_,rfl,rfl,h,fun e=>⟨(hk e).1,rfl,fun l hl=>nc ((hk e).2 l hl),by decide,fun l hl=>by cases hl⟩⟩
theorem wx (cs:List aY) (l:List Int):be cs l=some (decide (cs.length=l.length)&&(List.range' 0 (l.length-0)).all fun i=>((((cs.getD i ak).Shape.Dims.length:Nat):Int)==l.getD i 0)):=by
 unfold be;rw [qi];by_cases h:cs.length=l.length
 ·rw [S5 h,cO (r:=false) (fun i=>((((cs.getD i ak).Shape.Dims.length:Nat):Int)==l.getD i 0)) _ _ () (fun j u _ hj=>by rw [aE (by omega)];cases ((((cs.getD j ak).Shape.Dims.length:Nat):Int)==l.getD j 0)<;>rfl),cond_true,iP]
  cases (List.range' 0 (l.length-0)).all fun i=>((((cs.getD i ak).Shape.Dims.length:Nat):Int)==l.getD i 0)<;>rfl
 ·rw [S4 h];rfl
abbrev dl (c:aY):Int:=((c.Shape.Dims.length:Nat):Int)
theorem zm (a:aY) (n:Int):be [a] [n]=some (dl a==n):=by rw [wx];simp
theorem Kz (a b:aY) (n m:Int):be [a,b] [n,m]=some ((dl a==n)&&(dl b==m)):=by rw [wx];simp [List.range'_succ]
theorem Ro (a b c:aY) (n m k:Int):be [a,b,c] [n,m,k]=some ((dl a==n)&&((dl b==m)&&(dl c==k))):=by rw [wx];simp [List.range'_succ]
theorem dK (cs:List aY) (l:List Int) (h:cs.length≠l.length):be cs l=some false:=by rw [wx,S4 h];rfl
theorem R9 {b:Bool} (h:(!b)=true):b=false:=by cases b<;>first | rfl | cases h
theorem lz {n:aj} (h:n∈ML):(∃ p,fB n=some p∧(p.2&&p.1.Scalar)=false)∧∃ p,gE n=some p∧(p.2&&p.1.Scalar)=false:=by
 have h1:=Tc.1 Qe n h;rw [SY] at h1;constructor
 ·cases hp:fB n with
  | none=>rw [hp] at h1;cases h1.1
  | some p=>rw [hp] at h1;exact ⟨p,rfl,R9 h1.1⟩
 ·cases hp:gE n with
  | none=>rw [hp] at h1;cases h1.2
  | some p=>rw [hp] at h1;exact ⟨p,rfl,R9 h1.2⟩
def ra (n lo hi:Int) (g:Rf):Rf:=bif (decide (n<lo)||decide (n>hi)) then some ((ag.mk [] []),[],false) else g.bind fun y=>some (y.1,y.2.1,y.2.2)
theorem cg {n lo hi:Int} {g:Rf} (h:n<lo∨hi<n):ra n lo hi g=some ((ag.mk [] []),[],false):=by unfold ra;rw [show (decide (n<lo)||decide (n>hi))=true by simp;omega];rfl
theorem eR {n lo hi:Int} {g:Rf} (h:lo≤n∧n≤hi):ra n lo hi g=g:=by unfold ra;rw [show (decide (n<lo)||decide (n>hi))=false by simp;omega];cases g<;>rfl
theorem NF (x:Instr) (fs:List ag) (h:x.Op=[99,111,110,115,116]):aD x fs=ra ((fs.length:Nat):Int) 0 0 (fG x fs):=by obtain ⟨p,h1,h2⟩:=(lz (n:=[99,111,110,115,116]) (by decide)).1;unfold aD;rw [h,h1,S6,h2];kernel_rfl
theorem Pz (x:Instr) (fs:List ag) (h:x.Op=[115,105,122,101]):aD x fs=ra ((fs.length:Nat):Int) 0 0 (lN x fs):=by obtain ⟨p,h1,h2⟩:=(lz (n:=[115,105,122,101]) (by decide)).1;unfold aD;rw [h,h1,S6,h2];kernel_rfl
theorem Pw (x:Instr) (fs:List ag) (h:x.Op=[105,111,116,97]):aD x fs=ra ((fs.length:Nat):Int) 0 0 (iQ x fs):=by obtain ⟨p,h1,h2⟩:=(lz (n:=[105,111,116,97]) (by decide)).1;unfold aD;rw [h,h1,S6,h2];kernel_rfl
theorem Pu (x:Instr) (fs:List ag) (h:x.Op=[102,105,108,108]):aD x fs=ra ((fs.length:Nat):Int) 1 1 (fH x fs):=by obtain ⟨p,h1,h2⟩:=(lz (n:=[102,105,108,108]) (by decide)).1;unfold aD;rw [h,h1,S6,h2];kernel_rfl
theorem PA (x:Instr) (fs:List ag) (h:x.Op=[116,97,107,101]):aD x fs=ra ((fs.length:Nat):Int) 1 1 (kQ x fs):=by obtain ⟨p,h1,h2⟩:=(lz (n:=[116,97,107,101]) (by decide)).1;unfold aD;rw [h,h1,S6,h2];kernel_rfl
theorem Pt (x:Instr) (fs:List ag) (h:x.Op=[100,114,111,112]):aD x fs=ra ((fs.length:Nat):Int) 1 1 (iE x fs):=by obtain ⟨p,h1,h2⟩:=(lz (n:=[100,114,111,112]) (by decide)).1;unfold aD;rw [h,h1,S6,h2];kernel_rfl
theorem Ka (x:Instr) (fs:List ag) (h:x.Op=[119,105,110,100,111,119,115]):aD x fs=ra ((fs.length:Nat):Int) 1 1 (iF x fs):=by obtain ⟨p,h1,h2⟩:=(lz (n:=[119,105,110,100,111,119,115]) (by decide)).1;unfold aD;rw [h,h1,S6,h2];kernel_rfl
theorem J9 (x:Instr) (fs:List ag) (h:x.Op=[114,101,118,101,114,115,101]):aD x fs=ra ((fs.length:Nat):Int) 1 1 (rp x fs):=by obtain ⟨p,h1,h2⟩:=(lz (n:=[114,101,118,101,114,115,101]) (by decide)).1;unfold aD;rw [h,h1,S6,h2];kernel_rfl
theorem Mc (x:Instr) (fs:List ag) (h:x.Op=[97,112,112,101,110,100]):aD x fs=ra ((fs.length:Nat):Int) 2 2 (iG x fs):=by obtain ⟨p,h1,h2⟩:=(lz (n:=[97,112,112,101,110,100]) (by decide)).1;unfold aD;rw [h,h1,S6,h2];kernel_rfl
theorem G9 (x:Instr) (fs:List ag) (h:x.Op=[116,114,97,110,115,112,111,115,101]):aD x fs=ra ((fs.length:Nat):Int) 1 1 (j6 x fs):=by obtain ⟨p,h1,h2⟩:=(lz (n:=[116,114,97,110,115,112,111,115,101]) (by decide)).1;unfold aD;rw [h,h1,S6,h2];kernel_rfl
theorem Iu (x:Instr) (fs:List ag) (h:x.Op=[100,105,97,103,111,110,97,108]):aD x fs=ra ((fs.length:Nat):Int) 1 1 (iH x fs):=by obtain ⟨p,h1,h2⟩:=(lz (n:=[100,105,97,103,111,110,97,108]) (by decide)).1;unfold aD;rw [h,h1,S6,h2];kernel_rfl
theorem ND (x:Instr) (fs:List ag) (h:x.Op=[99,104,117,110,107]):aD x fs=ra ((fs.length:Nat):Int) 1 1 (ku x fs):=by obtain ⟨p,h1,h2⟩:=(lz (n:=[99,104,117,110,107]) (by decide)).1;unfold aD;rw [h,h1,S6,h2];kernel_rfl
theorem NG (x:Instr) (fs:List ag) (h:x.Op=[105,110,100,101,120]):aD x fs=ra ((fs.length:Nat):Int) 2 2 (j7 x fs):=by obtain ⟨p,h1,h2⟩:=(lz (n:=[105,110,100,101,120]) (by decide)).1;unfold aD;rw [h,h1,S6,h2];kernel_rfl
theorem Md (x:Instr) (fs:List ag) (h:x.Op=[117,112,100,97,116,101]):aD x fs=ra ((fs.length:Nat):Int) 3 3 (j8 x fs):=by obtain ⟨p,h1,h2⟩:=(lz (n:=[117,112,100,97,116,101]) (by decide)).1;unfold aD;rw [h,h1,S6,h2];kernel_rfl
theorem Px (x:Instr) (fs:List ag) (h:x.Op=[112,97,99,107]):aD x fs=ra ((fs.length:Nat):Int) 1 16 (j9 x fs):=by obtain ⟨p,h1,h2⟩:=(lz (n:=[112,97,99,107]) (by decide)).1;unfold aD;rw [h,h1,S6,h2];kernel_rfl
theorem Pv (x:Instr) (fs:List ag) (h:x.Op=[102,111,108,100]):aD x fs=ra ((fs.length:Nat):Int) 2 2 (eU x fs):=by obtain ⟨p,h1,h2⟩:=(lz (n:=[102,111,108,100]) (by decide)).1;unfold aD;rw [h,h1,S6,h2];kernel_rfl
theorem Py (x:Instr) (fs:List ag) (h:x.Op=[115,99,97,110]):aD x fs=ra ((fs.length:Nat):Int) 1 1 (eW x fs):=by obtain ⟨p,h1,h2⟩:=(lz (n:=[115,99,97,110]) (by decide)).1;unfold aD;rw [h,h1,S6,h2];kernel_rfl
def LB (g:Option (aY×Bool)):Rr:=g.bind fun y=>some (y.1,[],y.2)
theorem KB (x:Instr) (cs:List aY) (h:x.Op=[114,101,118,101,114,115,101]):aU x cs=LB ((be cs [1]).bind fun y=>bif y then (bo (0<cs.length)<|some ((aY.mk ((cs.getD 0 ak).Elem) (Shape.mk (((cs.getD 0 ak).Shape).Row) (((cs.getD 0 ak).Shape).Dims))),true)) else some ((aY.mk [] (Shape.mk [] [])),false)):=by obtain ⟨p,h1,h2⟩:=(lz (n:=[114,101,118,101,114,115,101]) (by decide)).2;unfold aU de;rw [h,h1,S6,h2];kernel_rfl
theorem ME (x:Instr) (cs:List aY) (h:x.Op=[97,112,112,101,110,100]):aU x cs=LB ((be cs [1,1]).bind fun y1=>((bif y1 then ((be cs [1,1]).bind fun y2=>bif y2 then (bo (0<cs.length)<|bo (1<cs.length)<|some (((cs.getD 0 ak).Elem)==((cs.getD 1 ak).Elem))) else some false) else some false):Option Bool).bind fun v0=>bif v0 then (bo (0<cs.length)<|bo (0<(((cs.getD 0 ak).Shape).Dims).length)<|(some ((((cs.getD 0 ak).Shape).Dims).getD 0 ai)).bind fun y3=>bo (1<cs.length)<|bo (0<(((cs.getD 1 ak).Shape).Dims).length)<|(some ((((cs.getD 1 ak).Shape).Dims).getD 0 ai)).bind fun y4=>(kW y3 y4).bind fun y5=>(dm ((cs.getD 0 ak).Elem) [y5.1]).bind fun y6=>some ((aY.mk ((cs.getD 0 ak).Elem) (Shape.mk [] [y5.1])),(y5.2==0))) else some ((aY.mk [] (Shape.mk [] [])),false)):=by obtain ⟨p,h1,h2⟩:=(lz (n:=[97,112,112,101,110,100]) (by decide)).2;unfold aU de;rw [h,h1,S6,h2];kernel_rfl
theorem Hx (x:Instr) (cs:List aY) (h:x.Op=[116,114,97,110,115,112,111,115,101]):aU x cs=LB ((be cs [2]).bind fun y=>bif y then (bo (0<cs.length)<|bo (1<(((cs.getD 0 ak).Shape).Dims).length)<|(some ((((cs.getD 0 ak).Shape).Dims).getD 1 ai)).bind fun y8=>bo (0<(((cs.getD 0 ak).Shape).Dims).length)<|(some ((((cs.getD 0 ak).Shape).Dims).getD 0 ai)).bind fun y9=>(dm ((cs.getD 0 ak).Elem) [y8,y9]).bind fun y10=>some ((aY.mk ((cs.getD 0 ak).Elem) (Shape.mk [] [y8,y9])),true)) else some ((aY.mk [] (Shape.mk [] [])),false)):=by obtain ⟨p,h1,h2⟩:=(lz (n:=[116,114,97,110,115,112,111,115,101]) (by decide)).2;unfold aU de;rw [h,h1,S6,h2];kernel_rfl
theorem Ji (x:Instr) (cs:List aY) (h:x.Op=[100,105,97,103,111,110,97,108]):aU x cs=LB ((be cs [2]).bind fun y11=>((bif y11 then ((be cs [2]).bind fun y12=>bif y12 then (bo (0<cs.length)<|bo (0<(((cs.getD 0 ak).Shape).Dims).length)<|(some ((((cs.getD 0 ak).Shape).Dims).getD 0 ai)).bind fun y13=>bo (1<(((cs.getD 0 ak).Shape).Dims).length)<|(some ((((cs.getD 0 ak).Shape).Dims).getD 1 ai)).bind fun y14=>(gP y13 y14).bind fun y15=>some y15) else some false) else some false):Option Bool).bind fun v1=>bif v1 then (bo (0<cs.length)<|bo (0<(((cs.getD 0 ak).Shape).Dims).length)<|(some ((((cs.getD 0 ak).Shape).Dims).getD 0 ai)).bind fun y16=>(dm ((cs.getD 0 ak).Elem) [y16]).bind fun y17=>some ((aY.mk ((cs.getD 0 ak).Elem) (Shape.mk [] [y16])),true)) else some ((aY.mk [] (Shape.mk [] [])),false)):=by obtain ⟨p,h1,h2⟩:=(lz (n:=[100,105,97,103,111,110,97,108]) (by decide)).2;unfold aU de;rw [h,h1,S6,h2];kernel_rfl
theorem Ov (x:Instr) (cs:List aY) (h:x.Op=[99,104,117,110,107]):aU x cs=LB ((be cs [1]).bind fun y18=>bif ((y18&&decide (x.Num≥1))&&decide (x.Num≤64)) then (bo (0<cs.length)<|bo (0<(((cs.getD 0 ak).Shape).Dims).length)<|(some ((((cs.getD 0 ak).Shape).Dims).getD 0 ai)).bind fun y19=>(eM y19 x.Num).bind fun y20=>(cU x.Num).bind fun y21=>(dm ((cs.getD 0 ak).Elem) [y20.1,y21]).bind fun y22=>some ((aY.mk ((cs.getD 0 ak).Elem) (Shape.mk [] [y20.1,y21])),y20.2)) else some ((aY.mk [] (Shape.mk [] [])),false)):=by obtain ⟨p,h1,h2⟩:=(lz (n:=[99,104,117,110,107]) (by decide)).2;unfold aU de;rw [h,h1,S6,h2];kernel_rfl
theorem Ow (x:Instr) (cs:List aY) (h:x.Op=[105,110,100,101,120]):aU x cs=LB ((be cs [1,0]).bind fun y23=>bo ((y23=true→1<cs.length))<|bif (y23&&(((cs.getD 1 ak).Elem)==[105,110,116])) then (bo (0<cs.length)<|(jn ((cs.getD 0 ak).Elem)).bind fun y24=>some ((aY.mk ((cs.getD 0 ak).Elem) (Shape.mk [] [])),true)) else some ((aY.mk [] (Shape.mk [] [])),false)):=by obtain ⟨p,h1,h2⟩:=(lz (n:=[105,110,100,101,120]) (by decide)).2;unfold aU de;rw [h,h1,S6,h2];kernel_rfl
theorem MF (x:Instr) (cs:List aY) (h:x.Op=[117,112,100,97,116,101]):aU x cs=LB ((be cs [1,0,0]).bind fun y25=>bo ((y25=true→1<cs.length))<|((bif (y25&&(((cs.getD 1 ak).Elem)==[105,110,116])) then ((be cs [1,0,0]).bind fun y26=>bo ((y26=true→1<cs.length))<|bif (y26&&true) then (bo (1<cs.length)<|bo (2<cs.length)<|bo (0<cs.length)<|some (((cs.getD 2 ak).Elem)==((cs.getD 0 ak).Elem))) else some false) else some false):Option Bool).bind fun v2=>bif v2 then (bo (0<cs.length)<|some ((aY.mk ((cs.getD 0 ak).Elem) (Shape.mk (((cs.getD 0 ak).Shape).Row) (((cs.getD 0 ak).Shape).Dims))),true)) else some ((aY.mk [] (Shape.mk [] [])),false)):=by obtain ⟨p,h1,h2⟩:=(lz (n:=[117,112,100,97,116,101]) (by decide)).2;unfold aU de;rw [h,h1,S6,h2];kernel_rfl
theorem P1 (x:Instr) (cs:List aY) (h:x.Op=[102,111,108,100]):aU x cs=LB ((be cs [0,1]).bind fun y27=>bif y27 then (bo (0<cs.length)<|bo (1<cs.length)<|(ik x.Fun [((cs.getD 0 ak).Elem),((cs.getD 1 ak).Elem)]).bind fun y28=>bif y28.2 then some ((aY.mk ((cs.getD 0 ak).Elem) (Shape.mk (((cs.getD 0 ak).Shape).Row) (((cs.getD 0 ak).Shape).Dims))),(y28.1==((cs.getD 0 ak).Elem))) else some ((aY.mk ((cs.getD 0 ak).Elem) (Shape.mk (((cs.getD 0 ak).Shape).Row) (((cs.getD 0 ak).Shape).Dims))),false)) else some ((aY.mk [] (Shape.mk [] [])),false)):=by obtain ⟨p,h1,h2⟩:=(lz (n:=[102,111,108,100]) (by decide)).2;unfold aU de;rw [h,h1,S6,h2];kernel_rfl
theorem P3 (x:Instr) (cs:List aY) (h:x.Op=[115,99,97,110]):aU x cs=LB ((be cs [1]).bind fun y29=>bif y29 then (bo (0<cs.length)<|(ik x.Fun [((cs.getD 0 ak).Elem),((cs.getD 0 ak).Elem)]).bind fun y30=>bif y30.2 then some ((aY.mk ((cs.getD 0 ak).Elem) (Shape.mk (((cs.getD 0 ak).Shape).Row) (((cs.getD 0 ak).Shape).Dims))),(y30.1==((cs.getD 0 ak).Elem))) else some ((aY.mk ((cs.getD 0 ak).Elem) (Shape.mk (((cs.getD 0 ak).Shape).Row) (((cs.getD 0 ak).Shape).Dims))),false)) else some ((aY.mk [] (Shape.mk [] [])),false)):=by obtain ⟨p,h1,h2⟩:=(lz (n:=[115,99,97,110]) (by decide)).2;unfold aU de;rw [h,h1,S6,h2];kernel_rfl
theorem P2 (x:Instr) (cs:List aY) (h:x.Op=[112,97,99,107]):aU x cs=LB (bif (decide (((cs.length:Nat):Int)≥1)&&decide (((cs.length:Nat):Int)≤16)) then ((bR (σ:=Unit) (ε:=Unit) (ρ:=(aY×Bool)) (fun i0 s0=>bif decide ((((((cs.getD i0 ak).Shape).Dims).length:Nat):Int)>0) then (some (.ret ((aY.mk [] (Shape.mk [] [])),false))) else (bo (0<cs.length)<|bif (((cs.getD i0 ak).Elem)==((cs.getD 0 ak).Elem)) then some (.go ()) else some (.ret ((aY.mk [] (Shape.mk [] [])),false)))) (fun i0 s0=>()) (cs.length-0) 0 ()).bind<|Sh.aft fun u0=>bo (0<cs.length)<|(cU ((cs.length:Nat):Int)).bind fun y31=>(dm ((cs.getD 0 ak).Elem) [y31]).bind fun y32=>some ((aY.mk ((cs.getD 0 ak).Elem) (Shape.mk [] [y31])),true)) else some ((aY.mk [] (Shape.mk [] [])),false)):=by obtain ⟨p,h1,h2⟩:=(lz (n:=[112,97,99,107]) (by decide)).2;unfold aU de;rw [h,h1,S6,h2];kernel_rfl
theorem kc {a:Rf} {b:Rr} {f:ag} {cs cs':List Linear} {t:aY} {ok:Bool} (h:dR (some (f,cs,ok)) (some (t,cs',ok))) (e1:a=some (f,cs,ok)) (e2:b=some (t,cs',ok)):dR a b:=by rw [e1,e2];exact h
abbrev zF:ag:=ag.mk [] []
abbrev zT:aY:=aY.mk [] (Shape.mk [] [])
theorem kn {a:Rf} {b:Rr} (f:ag) (t:aY) {cs:List Linear} (h:f.dims.length≤1000) (e1:a=some (f,cs,false)) (e2:b=some (t,[],false)):dR a b:=kc (dR.no h) e1 e2
theorem eE {a:Rf} {b:Rr} (e1:a=some (zF,[],false)) (e2:b=some (zT,[],false)):dR a b:=kn zF zT (by decide) e1 e2
theorem Qr {a:aY} {n:Nat}:(dl a==(n:Int))=decide (a.Shape.Dims.length=n):=qi
theorem Nx {a:aY} (h:(dl a==1)=true):∃ d,a.Shape.Dims=[d]:=by
 have h:decide (a.Shape.Dims.length=1)=true:=by rw [← Qr];exact h
 exact List.length_eq_one_iff.1 (S3 h)
theorem Qq {a:aY} (h:(dl a==2)=true):∃ d e,a.Shape.Dims=[d,e]:=by
 have h:decide (a.Shape.Dims.length=2)=true:=by rw [← Qr];exact h
 have h:=S3 h;match a.Shape.Dims,h with
 | [p,q],_=>exact ⟨p,q,rfl⟩
theorem tu {a:aY} {ds:List Linear} (h:Fv a) (hd:a.Shape.Dims=ds):a=aY.mk a.Elem (Shape.mk [] ds):=by cases a with | mk el s=>cases s with | mk ro di=>cases h.1;cases hd;rfl
section
variable {x:Instr} {cs:List aY}
theorem LP (h:x.Op=[114,101,118,101,114,115,101]) (hc:∀ c∈cs,Fv c):dR (aD x (cs.map dF)) (aU x cs):=by
 rw [J9 x _ h,KB x cs h];match cs,hc with
 | [],_=>exact eE (cg (by simp)) (by rw [dK _ _ (by simp)];rfl)
 | a::b::l,_=>exact eE (cg (by simp;omega)) (by rw [dK _ _ (by simp)];rfl)
 | [a],hc =>
  have ha:=hc a (by simp);rw [eR (by simp),zm];have e1:rp x ([a].map dF)=some (dF a,[],dl a==1):=by kernel_rfl
  cases hb:dl a==1 with
  | true=>rw [hb] at e1;exact kc (dR.of (t:=a) ha.2.1 fun _=>⟨tu ha rfl,ha.2.2.1⟩) e1 (by kernel_rfl)
  | false=>rw [hb] at e1;exact kn (dF a) zT ha.2.1 e1 (by kernel_rfl)
theorem HR (h:x.Op=[116,114,97,110,115,112,111,115,101]) (hc:∀ c∈cs,Fv c):dR (aD x (cs.map dF)) (aU x cs):=by
 rw [G9 x _ h,Hx x cs h];match cs,hc with
 | [],_=>exact eE (cg (by simp)) (by rw [dK _ _ (by simp)];rfl)
 | a::b::l,_=>exact eE (cg (by simp;omega)) (by rw [dK _ _ (by simp)];rfl)
 | [a],hc =>
  have ha:=hc a (by simp);rw [eR (by simp),zm];cases hb:dl a==2 with
  | true =>
   obtain ⟨p,q,hd⟩:=Qq hb;have v:∀ l∈[q,p],bg l=true:=fun l hl=>ha.2.2.1 l (by rw [hd];simp at hl ⊢;exact hl.symm);rw [tu ha hd];exact kc (dR.of (ok:=true) (f:=ag.mk a.Elem [q,p]) (t:=aY.mk a.Elem (Shape.mk [] [q,p])) (by simp) fun _=>⟨rfl,v⟩) (by kernel_rfl) (by kernel_rfl)
  | false =>
   have e1:j6 x ([a].map dF)=some ((ag.mk a.Elem []),[],false):=by unfold j6 kv;rw [show ((((([a].map dF).getD 0 ae).dims.length:Nat):Int)==2)=(dl a==2) from rfl,hb];kernel_rfl
   exact kn _ zT (by simp) e1 (by kernel_rfl)
theorem JL (h:x.Op=[100,105,97,103,111,110,97,108]) (hc:∀ c∈cs,Fv c):dR (aD x (cs.map dF)) (aU x cs):=by
 rw [Iu x _ h,Ji x cs h];match cs,hc with
 | [],_=>exact eE (cg (by simp)) (by rw [dK _ _ (by simp)];rfl)
 | a::b::l,_=>exact eE (cg (by simp;omega)) (by rw [dK _ _ (by simp)];rfl)
 | [a],hc =>
  have ha:=hc a (by simp);rw [eR (by simp),zm];cases hb:dl a==2 with
  | true =>
   obtain ⟨p,q,hd⟩:=Qq hb;have v:∀ l∈[p,q],bg l=true:=fun l hl=>ha.2.2.1 l (by rw [hd];exact hl);have vp:=v p (by simp);rw [tu ha hd];generalize a.Elem=el;have e1:iH x ([aY.mk el (Shape.mk [] [p,q])].map dF)=((fK p q).bind fun y2=>bif y2 then some ([p],true) else some ([],false)).bind fun y0=>some (ag.mk el y0.1,[],y0.2):=by kernel_rfl
   rw [uS] at e1;have e2:LB (((gP p q).bind fun y15=>some y15).bind fun v1=>bif v1 then some (aY.mk el (Shape.mk [] [p]),true) else some (zT,false))=(bif decide (p=q) then some (aY.mk el (Shape.mk [] [p]),[],true) else some (zT,[],false)):=by rw [wD p q (by have:=fj vp;omega)];cases decide (p=q)<;>rfl
   cases hq:decide (p=q) with
   | true =>
    rw [hq] at e1 e2;exact kc (dR.of (f:=ag.mk el [p]) (t:=aY.mk el (Shape.mk [] [p])) (by simp) fun _=>⟨rfl,fun l hl=>v l (by simp at hl ⊢;exact .inl hl)⟩) e1 (Eq.trans (by kernel_rfl) e2)
   | false =>
    rw [hq] at e1 e2;exact kn (ag.mk el []) zT (by simp) e1 (Eq.trans (by kernel_rfl) e2)
  | false =>
   have e1:iH x ([a].map dF)=some ((ag.mk a.Elem []),[],false):=by unfold iH kx;rw [show ((((([a].map dF).getD 0 ae).dims.length:Nat):Int)==2)=(dl a==2) from rfl,hb];kernel_rfl
   exact kn _ zT (by simp) e1 (by kernel_rfl)
theorem M1 (h:x.Op=[97,112,112,101,110,100]) (hc:∀ c∈cs,Fv c):dR (aD x (cs.map dF)) (aU x cs):=by
 rw [Mc x _ h,ME x cs h];match cs,hc with
 | [],_=>exact eE (cg (by simp)) (by rw [dK _ _ (by simp)];rfl)
 | [a],_=>exact eE (cg (by simp)) (by rw [dK _ _ (by simp)];rfl)
 | a::b::c::l,_=>exact eE (cg (by simp;omega)) (by rw [dK _ _ (by simp)];rfl)
 | [a,b],hc =>
  have ha:=hc a (by simp);have hb:=hc b (by simp);rw [eR (by simp),Kz];have z:Dd (Linear.mk 0 []):=⟨by simp,fun t ht=>by cases ht⟩;have cl:∀ c:aY,Fv c→∃ l ok,bK (dF c)=some (l,ok)∧Dd l∧ok=(dl c==1)∧(ok=true→c.Shape.Dims=[l]):=fun c hc=>by
   cases hq:dl c==1 with
   | true =>
    obtain ⟨d,hd⟩:=Nx hq;refine ⟨d,true,?_,nc (hc.2.2.1 d (by rw [hd];simp)),rfl,fun _=>hd⟩;rw [tu hc hd];kernel_rfl
   | false =>
    refine ⟨Linear.mk 0 [],false,?_,z,rfl,fun e=>by cases e⟩;unfold bK;rw [show ((((dF c).dims.length:Nat):Int)==1)=(dl c==1) from rfl,hq];rfl
  obtain ⟨la,oa,fa,ka,qa,da⟩:=cl a ha;obtain ⟨lb,ob,fb,kb,qb,db⟩:=cl b hb;have e1:iG x ([a,b].map dF)=some (ag.mk a.Elem [(fV la lb 1).1],[],((oa&&ob)&&((fV la lb 1).2==0))&&(a.Elem==b.Elem)):=by unfold iG lP;rw [show ag.mk ((([a,b].map dF).getD 0 ae).elem) ((([a,b].map dF).getD 0 ae).dims)=dF a from rfl,show ag.mk ((([a,b].map dF).getD 1 ae).elem) ((([a,b].map dF).getD 1 ae).dims)=dF b from rfl,fa,fb,aE (by simp),S6,aE (by simp),S6,MY la lb ka kb];kernel_rfl
  rw [← qa,← qb];cases oa with
  | false=>exact kn _ zT (by simp) e1 (by kernel_rfl)
  | true=>cases ob with
   | false=>exact kn _ zT (by simp) e1 (by kernel_rfl)
   | true =>
    have da:=da rfl;have db:=db rfl;have e2:LB (((some (a.Elem==b.Elem)).bind fun v0=>bif v0 then ((kW la lb).bind fun y5=>some ((aY.mk a.Elem (Shape.mk [] [y5.1])),(y5.2==0))) else some (zT,false)))=bif a.Elem==b.Elem then some ((aY.mk a.Elem (Shape.mk [] [(fV la lb 1).1])),[],((fV la lb 1).2==0)) else some (zT,[],false):=by rw [LC];cases a.Elem==b.Elem<;>rfl
    rw [tu ha da,tu hb db];have e1':iG x ([aY.mk a.Elem (Shape.mk [] [la]),aY.mk b.Elem (Shape.mk [] [lb])].map dF)=some (ag.mk a.Elem [(fV la lb 1).1],[],((fV la lb 1).2==0)&&(a.Elem==b.Elem)):=by rw [← tu ha da,← tu hb db,e1];rfl
    cases hq:a.Elem==b.Elem with
    | false =>
     exact kn (ag.mk a.Elem [(fV la lb 1).1]) zT (by simp) (e1'.trans (by rw [hq,Bool.and_false])) (Eq.trans (by kernel_rfl) (e2.trans (by rw [hq];rfl)))
    | true =>
     exact kc (dR.of (f:=ag.mk a.Elem [(fV la lb 1).1]) (t:=aY.mk a.Elem (Shape.mk [] [(fV la lb 1).1])) (ok:=(fV la lb 1).2==0) (by simp) fun _=>⟨rfl,fun l hl=>by rw [List.mem_singleton.1 hl];exact (uN la lb 1).2⟩) (e1'.trans (by rw [hq,Bool.and_true])) (Eq.trans (by kernel_rfl) (e2.trans (by rw [hq];rfl)))
end
theorem dR.ofL {f:ag} {t:aY} {ok:Bool} (h:f.dims.length≤1000) (hk:ok=true→t=aY.mk f.elem (Shape.mk [] f.dims)∧∀ l∈f.dims,Dd l):dR (some (f,[],ok)) (some (t,[],ok)) :=
 ⟨_,_,_,_,_,rfl,rfl,h,fun e=>⟨(hk e).1,rfl,(hk e).2,by decide,fun l hl=>by cases hl⟩⟩
def Qs (d:Linear) (n:Int) (j:Nat):Bool:=((d.Terms.getD j aG).C).tmod n==0
def RU (d:Linear) (n:Int) (j:Nat):a8:=a8.mk ((d.Terms.getD j aG).Var) (bq (((d.Terms.getD j aG).C).tdiv n))
theorem La {ρ:Type} (r:ρ) (d:Linear) (n:Int) (h:d.Terms.length≤1000):bR (σ:=(List a8)) (ε:=(List a8)) (ρ:=ρ) (fun i0 s0 =>
 bif ((((d.Terms.getD i0 aG).C).tmod n)==0) then (
  bo ((s0.length+1)*24≤140737488355328)<|
  some (.go (s0++[(a8.mk ((d.Terms.getD i0 aG).Var) (bq (((d.Terms.getD i0 aG).C).tdiv n)))]))
 ) else (
  some (.ret r)
 )) (fun i0 s0=>s0) (d.Terms.length-0) 0 []=some (bif (List.range' 0 (d.Terms.length-0)).all (Qs d n) then .brk ((List.range' 0 (d.Terms.length-0)).map (RU d n)) else .ret r):=by
 rw [xd (Qs d n) (RU d n) r d.Terms.length (fun j s hj hs=>by
  unfold Qs RU;cases ((((d.Terms.getD j aG).C).tmod n)==0) with
  | false=>rfl
  | true=>simp only [cond_true];rw [aE (by omega)]) _ 0 [] (by omega) rfl]
 rfl
section
variable {x:Instr} {cs:List aY}
theorem Pd (h:x.Op=[99,104,117,110,107]) (hc:∀ c∈cs,Fv c):dR (aD x (cs.map dF)) (aU x cs):=by
 rw [ND x _ h,Ov x cs h];match cs,hc with
 | [],_=>exact eE (cg (by simp)) (by rw [dK _ _ (by simp)];rfl)
 | a::b::l,_=>exact eE (cg (by simp;omega)) (by rw [dK _ _ (by simp)];rfl)
 | [a],hc =>
  have ha:=hc a (by simp);rw [eR (by simp),zm];cases hb:dl a==1 with
  | false =>
   refine eE ?_ rfl;unfold ku bK;rw [aE (by simp),show ((((ag.mk ((([a].map dF).getD 0 ae).elem) ((([a].map dF).getD 0 ae).dims)).dims.length:Nat):Int)==1)=(dl a==1) from rfl,hb];simp only [cond_false,S6,Bool.not_false,Bool.true_or];rw [aE (fun h=>by cases h)];rfl
  | true =>
   obtain ⟨d,hd⟩:=Nx hb;have vd:=ha.2.2.1 d (by rw [hd];simp);have ld:=fj vd;rw [tu ha hd];generalize a.Elem=el;by_cases hn:1≤x.Num∧x.Num≤64
   ·have e1:ku x ([aY.mk el (Shape.mk [] [d])].map dF)=bif (d.Const.tmod x.Num==0)&&(List.range' 0 (d.Terms.length-0)).all (Qs d x.Num) then some (ag.mk el [Linear.mk (bq (d.Const.tdiv x.Num)) ((List.range' 0 (d.Terms.length-0)).map (RU d x.Num)),Linear.mk x.Num []],[],true) else some (zF,[],false):=by
     unfold ku;rw [aE (by simp),show bK (ag.mk ((([aY.mk el (Shape.mk [] [d])].map dF).getD 0 ae).elem) ((([aY.mk el (Shape.mk [] [d])].map dF).getD 0 ae).dims))=some (d,true) by kernel_rfl,S6,aE (fun _=>by omega),S4 (show ¬ x.Num<1 by omega),S4 (show ¬ x.Num>64 by omega),show (d.Const.tmod x.Num != 0) = !(d.Const.tmod x.Num==0) from rfl];cases d.Const.tmod x.Num==0 with
     | false=>rfl
     | true =>
      simp only [Bool.not_true,Bool.or_self,cond_false,Bool.true_and];rw [aE (by omega)];refine (congrArg (fun o=>Option.bind o _) (La (zF,([]:List Linear),false) d x.Num (by omega))).trans ?_;cases (List.range' 0 (d.Terms.length-0)).all (Qs d x.Num)<;>kernel_rfl
    have e2:eM d x.Num=bif (d.Const.tmod x.Num==0)&&(List.range' 0 (d.Terms.length-0)).all (Qs d x.Num) then some (Linear.mk (bq (d.Const.tdiv x.Num)) ((List.range' 0 (d.Terms.length-0)).map (RU d x.Num)),true) else some (Linear.mk 0 [],false):=by
     unfold eM;rw [aE (by omega)];cases d.Const.tmod x.Num==0 with
     | false=>rfl
     | true =>
      simp only [cond_true,Bool.true_and];refine (congrArg (fun o=>Option.bind o _) (La ((Linear.mk 0 []),false) d x.Num (by omega))).trans ?_;cases (List.range' 0 (d.Terms.length-0)).all (Qs d x.Num)<;>rfl
    rw [S5 (show x.Num≥1 from hn.1),S5 hn.2];have e3:∀ y:Linear×Bool,eM d x.Num=some y→LB ((some true).bind fun y18=>bif ((y18&&true)&&true) then (bo (0<([aY.mk el (Shape.mk [] [d])]:List aY).length)<|bo (0<((([aY.mk el (Shape.mk [] [d])]:List aY).getD 0 ak).Shape.Dims).length)<|(some (((([aY.mk el (Shape.mk [] [d])]:List aY).getD 0 ak).Shape.Dims).getD 0 ai)).bind fun y19=>(eM y19 x.Num).bind fun y20=>(cU x.Num).bind fun y21=>(dm ((([aY.mk el (Shape.mk [] [d])]:List aY).getD 0 ak).Elem) [y20.1,y21]).bind fun y22=>some ((aY.mk ((([aY.mk el (Shape.mk [] [d])]:List aY).getD 0 ak).Elem) (Shape.mk [] [y20.1,y21])),y20.2)) else some ((aY.mk [] (Shape.mk [] [])),false))=some (aY.mk el (Shape.mk [] [y.1,Linear.mk x.Num []]),[],y.2):=fun y hy=>by
     have:LB ((eM d x.Num).bind fun y20=>some ((aY.mk el (Shape.mk [] [y20.1,Linear.mk x.Num []])),y20.2))=some (aY.mk el (Shape.mk [] [y.1,Linear.mk x.Num []]),[],y.2):=by rw [hy];rfl
     exact Eq.trans (by kernel_rfl) this
    cases hq:(d.Const.tmod x.Num==0)&&(List.range' 0 (d.Terms.length-0)).all (Qs d x.Num) with
    | false =>
     rw [hq] at e1 e2;exact kn zF _ (by decide) e1 (e3 _ e2)
    | true =>
     rw [hq] at e1 e2;refine kc (dR.ofL (by simp) fun _=>⟨rfl,fun l hl=>?_⟩) e1 (e3 _ e2);have od:=nc vd;simp only [List.mem_cons,List.mem_nil_iff,or_false] at hl;rcases hl with rfl | rfl
     ·refine ⟨by simp;omega,fun t ht=>?_⟩;obtain ⟨j,hj,rfl⟩:=List.mem_map.1 ht;exact xg (P:=fun t:a8=>t.Var.length≤140737488355328) od.2 (by decide) j
     ·exact ⟨by simp,fun t ht=>by cases ht⟩
   ·refine eE ?_ ?_
    ·unfold ku;have hb:(((!true||decide (x.Num<1))||decide (x.Num>64)))=true:=by simp;omega
     rw [aE (by simp),show bK (ag.mk ((([aY.mk el (Shape.mk [] [d])].map dF).getD 0 ae).elem) ((([aY.mk el (Shape.mk [] [d])].map dF).getD 0 ae).dims))=some (d,true) by kernel_rfl,S6,hb,aE (fun h=>by cases h)];rfl
    ·have:(decide (x.Num≥1)&&decide (x.Num≤64))=false:=by simp;omega
     simp only [S6,Bool.true_and,this,cond_false];rfl
theorem Pf (h:x.Op=[105,110,100,101,120]) (hc:∀ c∈cs,Fv c):dR (aD x (cs.map dF)) (aU x cs):=by
 rw [NG x _ h,Ow x cs h];match cs,hc with
 | [],_=>exact eE (cg (by simp)) (by rw [dK _ _ (by simp)];rfl)
 | [a],_=>exact eE (cg (by simp)) (by rw [dK _ _ (by simp)];rfl)
 | a::b::c::l,_=>exact eE (cg (by simp;omega)) (by rw [dK _ _ (by simp)];rfl)
 | [a,b],hc =>
  rw [eR (by simp),Kz];have e1:j7 x ([a,b].map dF)=some (ag.mk a.Elem [],[],(dl a==1)&&((dl b==0)&&(b.Elem==tI))):=by unfold j7 ky;rw [show ((((([a,b].map dF).getD 0 ae).dims.length:Nat):Int)==1)=(dl a==1) from rfl,aE (by simp),aE (fun _=>by simp)];cases dl a==1<;>kernel_rfl
  cases h1:dl a==1<;>cases h2:dl b==0<;>cases h3:b.Elem==tI<;>rw [h1,h2,h3] at e1;case true.true.true=>exact kc (dR.of (f:=ag.mk a.Elem []) (t:=aY.mk a.Elem (Shape.mk [] [])) (ok:=true) (by simp) fun _=>⟨rfl,fun l hl=>by cases hl⟩) e1 (by
   rw [show (([a,b].getD 1 ak).Elem==[105,110,116])=(b.Elem==tI) from rfl,h3];kernel_rfl)
  case true.true.false=>exact kn _ zT (by simp) e1 (by rw [show (([a,b].getD 1 ak).Elem==[105,110,116])=(b.Elem==tI) from rfl,h3];kernel_rfl)
  all_goals exact kn _ zT (by simp) e1 (by kernel_rfl)
theorem M3 (h:x.Op=[117,112,100,97,116,101]) (hc:∀ c∈cs,Fv c):dR (aD x (cs.map dF)) (aU x cs):=by
 rw [Md x _ h,MF x cs h];match cs,hc with
 | [],_=>exact eE (cg (by simp)) (by rw [dK _ _ (by simp)];rfl)
 | [a],_=>exact eE (cg (by simp)) (by rw [dK _ _ (by simp)];rfl)
 | [a,b],_=>exact eE (cg (by simp)) (by rw [dK _ _ (by simp)];rfl)
 | a::b::c::e::l,_=>exact eE (cg (by simp;omega)) (by rw [dK _ _ (by simp)];rfl)
 | [a,b,c],hc =>
  have ha:=hc a (by simp);rw [eR (by simp),Ro];have e1:j8 x ([a,b,c].map dF)=some (dF a,[],((dl a==1)&&((dl b==0)&&(b.Elem==tI)))&&((dl c==0)&&(c.Elem==a.Elem))):=by
   unfold j8 kz;rw [show ((((([a,b,c].map dF).getD 0 ae).dims.length:Nat):Int)==1)=(dl a==1) from rfl,aE (by simp),aE (fun _=>by simp)];cases dl a==1 with
   | false=>kernel_rfl
   | true =>
    have g:cD (ag.mk ((([a,b,c].map dF).getD 1 ae).elem) ((([a,b,c].map dF).getD 1 ae).dims)) [105,110,116]=some ((dl b==0)&&(b.Elem==tI)):=rfl;simp only [cond_true,g,S6,Bool.true_and];rw [aE (fun _=>by simp)];cases hz:((dl b==0)&&(b.Elem==tI)) with
    | true=>rfl
    | false=>rfl
  have t1:(([a,b,c].getD 1 ak).Elem==[105,110,116])=(b.Elem==tI):=rfl;have t2:(([a,b,c].getD 2 ak).Elem==([a,b,c].getD 0 ak).Elem)=(c.Elem==a.Elem):=rfl;rw [t1,t2];cases h1:dl a==1<;>cases h2:dl b==0<;>cases h4:dl c==0<;>cases h3:b.Elem==tI<;>cases h5:c.Elem==a.Elem<;>rw [h1,h2,h3,h4,h5] at e1;case true.true.true.true.true=>exact kc (dR.of (t:=a) ha.2.1 fun _=>⟨tu ha rfl,ha.2.2.1⟩) e1 (by kernel_rfl)
  all_goals exact kn (dF a) zT ha.2.1 e1 (by kernel_rfl)
theorem QP (h:x.Op=[102,111,108,100]) (hF:x.Fun.length≤1000) (hc:∀ c∈cs,Fv c):dR (aD x (cs.map dF)) (aU x cs):=by
 rw [Pv x _ h,P1 x cs h];match cs,hc with
 | [],_=>exact eE (cg (by simp)) (by rw [dK _ _ (by simp)];rfl)
 | [a],_=>exact eE (cg (by simp)) (by rw [dK _ _ (by simp)];rfl)
 | a::b::c::l,_=>exact eE (cg (by simp;omega)) (by rw [dK _ _ (by simp)];rfl)
 | [a,b],hc =>
  have ha:=hc a (by simp);have hb:=hc b (by simp);have ho:MX [a.Elem,b.Elem]:=fun e he=>by
   simp only [List.mem_cons,List.mem_nil_iff,or_false] at he;rcases he with rfl | rfl
   ·exact ha.2.2.2
   ·exact hb.2.2.2
  rw [eR (by simp),Kz,show ik x.Fun [([a,b].getD 0 ak).Elem,([a,b].getD 1 ak).Elem]=some (jR x.Fun [a.Elem,b.Elem]) from Jp _ _ ho (by simp) hF];have e1:eU x ([a,b].map dF)=some (dF a,[],((jR x.Fun [a.Elem,b.Elem]).2&&((dl a==0)&&(a.Elem==(jR x.Fun [a.Elem,b.Elem]).1)))&&(dl b==1)):=by unfold eU;rw [aE (by simp),aE (by simp),show jk x.Fun [((([a,b].map dF).getD 0 ae).elem),((([a,b].map dF).getD 1 ae).elem)]=some (jR x.Fun [a.Elem,b.Elem]) from LM _ _ ho (by simp) hF,S6,show cD (ag.mk ((([a,b].map dF).getD 0 ae).elem) ((([a,b].map dF).getD 0 ae).dims)) (jR x.Fun [a.Elem,b.Elem]).1=some ((dl a==0)&&(a.Elem==(jR x.Fun [a.Elem,b.Elem]).1)) from rfl];cases (jR x.Fun [a.Elem,b.Elem]).2<;>cases (dl a==0)&&(a.Elem==(jR x.Fun [a.Elem,b.Elem]).1)<;>kernel_rfl
  generalize jR x.Fun [a.Elem,b.Elem]=T at e1;obtain ⟨t,o⟩:=T;have t4:(t==([a,b].getD 0 ak).Elem)=(a.Elem==t):=Bool.beq_comm ..;simp only [S6] at e1 ⊢;rw [t4];cases h1:dl a==0<;>cases h2:dl b==1<;>cases o<;>cases h4:a.Elem==t<;>rw [h1,h2,h4] at e1;case true.true.true.true=>exact kc (dR.of (t:=a) ha.2.1 fun _=>⟨tu ha rfl,ha.2.2.1⟩) e1 (by kernel_rfl)
  case true.true.true.false=>exact kn (dF a) a ha.2.1 e1 (by kernel_rfl)
  case true.true.false.true=>exact kn (dF a) a ha.2.1 e1 (by kernel_rfl)
  case true.true.false.false=>exact kn (dF a) a ha.2.1 e1 (by kernel_rfl)
  all_goals exact kn (dF a) zT ha.2.1 e1 (by kernel_rfl)
end
theorem dR.ofC {f:ag} {t:aY} {cs:List Linear} {ok:Bool} (h:f.dims.length≤1000) (hk:ok=true→t=aY.mk f.elem (Shape.mk [] f.dims)∧(∀ l∈f.dims,bg l=true)∧cs.length≤1000∧∀ l∈cs,bg l=true):dR (some (f,cs,ok)) (some (t,cs,ok)) :=
 ⟨_,_,_,_,_,rfl,rfl,h,fun e=>⟨(hk e).1,rfl,fun l hl=>nc ((hk e).2.1 l hl),(hk e).2.2.1,fun l hl=>by have:=fj ((hk e).2.2.2 l hl);omega⟩⟩
theorem K8 {α ρ:Type} {body:Nat→List α→Option (kr (List α) (List α) ρ)} (f:Nat→α) (n:Nat) (hb:∀ j s,j<n→s.length=j→body j s=some (.go (s++[f j]))) :
 ∀ (k i:Nat) (s:List α),i+k=n→s.length=i→bR body (fun _ s=>s) k i s=some (.brk (s++(List.range' i k).map f))
 | 0,i,s,h,hs=>by simp [bR]
 | k+1,i,s,h,hs=>by simp only [bR,hb i s (by omega) hs,S6,CZ,List.range'_succ,List.map_cons];rw [K8 f n hb k (i+1) _ (by omega) (by simp [hs])];simp
theorem nv (n:Int):Dd (Linear.mk n []):=⟨by simp,fun t ht=>by cases ht⟩
section
variable {x:Instr} {cs:List aY}
theorem QS (h:x.Op=[115,99,97,110]) (hF:x.Fun.length≤1000) (hc:∀ c∈cs,Fv c):dR (aD x (cs.map dF)) (aU x cs):=by
 rw [Py x _ h,P3 x cs h];match cs,hc with
 | [],_=>exact eE (cg (by simp)) (by rw [dK _ _ (by simp)];rfl)
 | a::b::l,_=>exact eE (cg (by simp;omega)) (by rw [dK _ _ (by simp)];rfl)
 | [a],hc =>
  have ha:=hc a (by simp);have ho:MX [a.Elem,a.Elem]:=fun e he=>by simp only [List.mem_cons,List.mem_nil_iff,or_false,or_self] at he;rw [he];exact ha.2.2.2
  rw [eR (by simp),zm,show ik x.Fun [([a].getD 0 ak).Elem,([a].getD 0 ak).Elem]=some (jR x.Fun [a.Elem,a.Elem]) from Jp _ _ ho (by simp) hF];have e1:eW x ([a].map dF)=some (dF a,[],((jR x.Fun [a.Elem,a.Elem]).2&&((jR x.Fun [a.Elem,a.Elem]).1==a.Elem))&&(dl a==1)):=by unfold eW;rw [aE (by simp),show jk x.Fun [((([a].map dF).getD 0 ae).elem),((([a].map dF).getD 0 ae).elem)]=some (jR x.Fun [a.Elem,a.Elem]) from LM _ _ ho (by simp) hF,S6,show ((jR x.Fun [a.Elem,a.Elem]).1==(([a].map dF).getD 0 ae).elem)=((jR x.Fun [a.Elem,a.Elem]).1==a.Elem) from rfl];cases (jR x.Fun [a.Elem,a.Elem]).2<;>cases (jR x.Fun [a.Elem,a.Elem]).1==a.Elem<;>kernel_rfl
  generalize jR x.Fun [a.Elem,a.Elem]=T at e1;obtain ⟨t,o⟩:=T;simp only [S6] at e1 ⊢;rw [show (t==([a].getD 0 ak).Elem)=(t==a.Elem) from rfl];cases h2:dl a==1<;>cases o<;>cases h4:t==a.Elem<;>rw [h2,h4] at e1;case true.true.true=>exact kc (dR.of (t:=a) ha.2.1 fun _=>⟨tu ha rfl,ha.2.2.1⟩) e1 (by kernel_rfl)
  case true.true.false=>exact kn (dF a) a ha.2.1 e1 (by kernel_rfl)
  case true.false.true=>exact kn (dF a) a ha.2.1 e1 (by kernel_rfl)
  case true.false.false=>exact kn (dF a) a ha.2.1 e1 (by kernel_rfl)
  all_goals exact kn (dF a) zT ha.2.1 e1 (by kernel_rfl)
def QD (c0 c:aY):Bool:=decide (c.Shape.Dims.length=0)&&(c.Elem==c0.Elem)
theorem QR (h:x.Op=[112,97,99,107]) (hc:∀ c∈cs,Fv c):dR (aD x (cs.map dF)) (aU x cs):=by
 rw [Px x _ h,P2 x cs h];by_cases hn:1≤cs.length∧cs.length≤16
 ·rw [eR (by simp;omega),show (decide (((cs.length:Nat):Int)≥1)&&decide (((cs.length:Nat):Int)≤16))=true by simp;omega];obtain ⟨a,l,rfl⟩:∃ a l,cs=a::l:=by
   cases cs with
   | nil=>simp at hn
   | cons a l=>exact ⟨a,l,rfl⟩
  have e0:cP ((a::l).map dF) ((a::l).map dF)=some (!(a::l).all (QD a)):=by
   unfold cP fc;rw [pY (fun f:ag=>!(decide (f.dims.length=0)&&(f.elem==a.Elem))) ae ((a::l).map dF) (fun j _=>by unfold ja;rw [aE (by simp),show cD (ag.mk ((((a::l).map dF).getD j ae).elem) ((((a::l).map dF).getD j ae).dims)) ((((a::l).map dF).getD 0 ae).elem)=some ((((((((a::l).map dF).getD j ae).dims).length:Nat):Int)==((0:Nat):Int))&&(((((a::l).map dF).getD j ae).elem)==a.Elem)) from rfl,S6,qi,S6];cases decide ((((a::l).map dF).getD j ae).dims.length=0)&&((((a::l).map dF).getD j ae).elem==a.Elem)<;>rfl)]
   rw [List.any_map,List.any_eq_not_all_not];refine congrArg (fun b=>some (!b)) (congrArg (fun p=>(a::l).all p) (funext fun c=>?_));simp only [Function.comp,QD,dF,Bool.not_not];rfl
  have e1:j9 x ((a::l).map dF)=some (ag.mk a.Elem [Linear.mk (((a::l).length:Nat):Int) []],[],(a::l).all (QD a)):=by unfold j9 kC;rw [e0];simp only [kR,S6];rw [aE (by simp),Bool.not_not,S7];rfl
  have e2:bR (σ:=Unit) (ε:=Unit) (ρ:=(aY×Bool)) (fun i0 s0=>bif decide (((((((a::l).getD i0 ak).Shape).Dims).length:Nat):Int)>0) then (some (.ret ((aY.mk [] (Shape.mk [] [])),false))) else (bo (0<(a::l).length)<|bif ((((a::l).getD i0 ak).Elem)==(((a::l).getD 0 ak).Elem)) then some (.go ()) else some (.ret ((aY.mk [] (Shape.mk [] [])),false)))) (fun i0 s0=>()) ((a::l).length-0) 0 ()=some (bif (a::l).all (QD a) then .brk () else .ret (zT,false)):=by
   rw [cO (r:=(zT,false)) (fun j=>QD a ((a::l).getD j ak)) _ _ () (fun j u _ hj=>by
    rw [aE (by simp)];unfold QD;by_cases h0:((a::l).getD j ak).Shape.Dims.length=0
    ·rw [S4 (by omega),S5 h0];show _=some (bif (true&&(((a::l).getD j ak).Elem==a.Elem)) then _ else _);cases hq:(((a::l).getD j ak).Elem==a.Elem) with
     | true=>rw [show (((a::l).getD j ak).Elem==((a::l).getD 0 ak).Elem)=true from hq];rfl
     | false=>rw [show (((a::l).getD j ak).Elem==((a::l).getD 0 ak).Elem)=false from hq];rfl
    ·rw [S5 (by omega),S4 h0];rfl)]
   rw [Dj (QD a) ak (a::l)]
  rw [e2];cases hq:(a::l).all (QD a) with
  | false=>rw [hq] at e1;exact kn (ag.mk a.Elem [Linear.mk (((a::l).length:Nat):Int) []]) zT (by simp) e1 (by kernel_rfl)
  | true =>
   rw [hq] at e1;exact kc (dR.ofL (f:=ag.mk a.Elem [Linear.mk (((a::l).length:Nat):Int) []]) (t:=aY.mk a.Elem (Shape.mk [] [Linear.mk (((a::l).length:Nat):Int) []])) (by simp) fun _=>⟨rfl,fun l hl=>by rw [List.mem_singleton.1 hl];exact nv _⟩) e1 (by kernel_rfl)
 ·exact eE (cg (by simp;omega)) (by rw [show (decide (((cs.length:Nat):Int)≥1)&&decide (((cs.length:Nat):Int)≤16))=false by simp;omega];rfl)
theorem Bk (cs:List aY):be cs []=some (decide (cs.length=0)):=by rw [wx];simp
theorem QT (h:x.Op=[115,105,122,101]):dR (aD x (cs.map dF)) (aU x cs):=by
 have e2:aU x cs=(be cs []).bind fun y7=>some ((aY.mk [105,110,116] (Shape.mk [] [])),[],y7):=by obtain ⟨p,h1,h2⟩:=(lz (n:=[115,105,122,101]) (by decide)).2;unfold aU;rw [h,h1,S6,h2];kernel_rfl
 rw [Pz x _ h,e2,Bk];cases cs with
 | nil=>exact kc (dR.of (f:=ag.mk tI []) (t:=aY.mk tI (Shape.mk [] [])) (ok:=true) (by simp) fun _=>⟨rfl,fun l hl=>by cases hl⟩) (by rw [eR (by simp)];rfl) rfl
 | cons a l=>exact kn zF (aY.mk tI (Shape.mk [] [])) (by decide) (cg (by simp)) rfl
theorem Pe (h:x.Op=[99,111,110,115,116]) (h1:x.Array.Dims.length≤1000) (h2:x.Array.Data.length≤1000000):dR (aD x (cs.map dF)) (aU x cs):=by
 have e2:aU x cs=((bR (σ:=(List Linear)) (ε:=(List Linear)) (ρ:=Empty) (fun i0 s0 =>
  (cU (x.Array.Dims.getD i0 0)).bind fun y3 =>
  bo ((s0.length+1)*32≤140737488355328)<|
  some (.go (s0++[y3]))
  ) (fun i0 s0=>s0) (x.Array.Dims.length-0) 0 []).bind<|Sh.aftE fun u0 =>
  (be cs []).bind fun y4 =>
  bif y4 then (
   (oe x.Array).bind fun y5 =>
   some ((aY.mk x.Array.Elem (Shape.mk [] u0)),[],y5)
  ) else (
   some ((aY.mk x.Array.Elem (Shape.mk [] u0)),[],false)
  )):=by
  obtain ⟨p,h1,h2⟩:=(lz (n:=[99,111,110,115,116]) (by decide)).2;unfold aU;rw [h,h1,S6,h2];kernel_rfl
 obtain ⟨b,v1,v2⟩:=Nc x.Array (by omega) h2;have c1:∀ {body:Nat→List Linear→Option (kr (List Linear) (List Linear) Empty)},(∀ j s,j<x.Array.Dims.length→s.length=j→body j s=some (.go (s++[Linear.mk (x.Array.Dims.getD j 0) []])))→bR body (fun _ s=>s) (x.Array.Dims.length-0) 0 []=some (.brk ((List.range' 0 x.Array.Dims.length).map fun j=>Linear.mk (x.Array.Dims.getD j 0) [])):=fun hb=>by rw [K8 (fun j=>Linear.mk (x.Array.Dims.getD j 0) []) _ hb _ 0 [] (by omega) rfl];rfl
 rw [NF x _ h,e2,Bk,c1 (fun j s hj hs=>by unfold cU;simp only [S6];rw [aE (by omega)])];simp only [S6,Sh.aftE];rw [v2];cases cs with
 | cons a l=>exact kn zF (aY.mk x.Array.Elem (Shape.mk [] ((List.range' 0 x.Array.Dims.length).map fun j=>Linear.mk (x.Array.Dims.getD j 0) []))) (by decide) (cg (by simp)) rfl
 | nil =>
  have e1:fG x (([]:List aY).map dF)=some (ag.mk x.Array.Elem ((List.range' 0 x.Array.Dims.length).map fun j=>Linear.mk (x.Array.Dims.getD j 0) []),[],b):=by unfold fG;rw [c1 (fun j s hj hs=>by unfold kR;simp only [S6];rw [aE (by omega)])];simp only [S6,Sh.aftE];rw [v1];rfl
  refine kc (dR.ofL (ok:=b) (t:=aY.mk x.Array.Elem (Shape.mk [] ((List.range' 0 x.Array.Dims.length).map fun j=>Linear.mk (x.Array.Dims.getD j 0) []))) ?_ fun _=>⟨rfl,fun l hl=>?_⟩) (by rw [eR (by simp)];exact e1) rfl
  ·simp;exact h1
  ·obtain ⟨j,_,rfl⟩:=List.mem_map.1 hl;exact nv _
theorem Ax {n:aj} (hn:n∈ML):∃ p,gE n=some p∧(p.2&&p.1.Scalar)=false:=(lz hn).2
def Sx (g:Rr):Rr:=g.bind fun y=>some (y.1,y.2.1,y.2.2)
theorem QQ (h:x.Op=[105,111,116,97]) {s:Linear} (hs:x.Sizes=[s]) (vs:bg s=true):dR (aD x (cs.map dF)) (aU x cs):=by
 have e2:aU x cs=Sx ((be cs []).bind fun y0=>bif y0 then some (aY.mk tI (Shape.mk [] [s]),[s],true) else some (zT,[],false)):=by obtain ⟨p,h1,h2⟩:=Ax (n:=[105,111,116,97]) (by decide);unfold aU jq;rw [h,hs,h1,S6,h2];kernel_rfl
 rw [Pw x _ h,e2,Bk];cases cs with
 | nil=>exact kc (dR.ofC (f:=ag.mk tI [s]) (t:=aY.mk tI (Shape.mk [] [s])) (cs:=[s]) (ok:=true) (by simp) fun _=>⟨rfl,fun l hl=>by rw [List.mem_singleton.1 hl];exact vs,by simp,fun l hl=>by rw [List.mem_singleton.1 hl];exact vs⟩) (by rw [eR (by simp)];unfold iQ;rw [hs]) rfl
 | cons a l=>exact eE (cg (by simp)) rfl
theorem QO (h:x.Op=[102,105,108,108]) {s:Linear} (hs:x.Sizes=[s]) (vs:bg s=true) (hc:∀ c∈cs,Fv c):dR (aD x (cs.map dF)) (aU x cs):=by
 have e2:aU x cs=Sx ((be cs [0]).bind fun y0=>bif y0 then bo (0<cs.length) (some (aY.mk ((cs.getD 0 ak).Elem) (Shape.mk [] [s]),[s],true)) else some (zT,[],false)):=by obtain ⟨p,h1,h2⟩:=Ax (n:=[102,105,108,108]) (by decide);unfold aU jq;rw [h,hs,h1,S6,h2];kernel_rfl
 rw [Pu x _ h,e2];match cs,hc with
 | [],_=>exact eE (cg (by simp)) (by rw [dK _ _ (by simp)];rfl)
 | a::b::l,_=>exact eE (cg (by simp;omega)) (by rw [dK _ _ (by simp)];rfl)
 | [a],hc =>
  have e1:fH x ([a].map dF)=some (ag.mk a.Elem [s],[s],dl a==0):=by unfold fH;rw [hs];rfl
  rw [eR (by simp),zm];cases hb:dl a==0 with
  | false=>rw [hb] at e1;exact kn (ag.mk a.Elem [s]) zT (by simp) e1 rfl
  | true =>
   rw [hb] at e1;exact kc (dR.ofC (f:=ag.mk a.Elem [s]) (t:=aY.mk a.Elem (Shape.mk [] [s])) (cs:=[s]) (ok:=true) (by simp) fun _=>⟨rfl,fun l hl=>by rw [List.mem_singleton.1 hl];exact vs,by simp,fun l hl=>by rw [List.mem_singleton.1 hl];exact vs⟩) e1 rfl
theorem xn {s d:Linear} (vs:bg s=true) (vd:bg d=true):∀ l∈[s,d],bg l=true:=fun l hl=>by
 simp only [List.mem_cons,List.mem_nil_iff,or_false] at hl;rcases hl with rfl | rfl
 ·exact vs
 ·exact vd
theorem kept {g:Instr→List ag→Rf} {R:aj→Linear→Rr}
 (e2:aU x cs=Sx ((be cs [1]).bind fun y4=>bif !y4 then some (zT,[],false) else bo (0<cs.length)<|bo (0<(((cs.getD 0 ak).Shape).Dims).length)<|R ((cs.getD 0 ak).Elem) (((cs.getD 0 ak).Shape.Dims).getD 0 ai)))
 (e1:aD x (cs.map dF)=ra (((cs.map dF).length:Nat):Int) 1 1 (g x (cs.map dF)))
 (g0:∀ a:aY,(dl a==1)=false→g x ([a].map dF)=some (zF,[],false))
 (g1:∀ (el:aj) (d:Linear),bg d=true→dR (g x ([aY.mk el (Shape.mk [] [d])].map dF)) (Sx (R el d))) (hc:∀ c∈cs,Fv c):dR (aD x (cs.map dF)) (aU x cs):=by
 rw [e1,e2];match cs,hc with
 | [],_=>exact eE (cg (by simp)) (by rw [dK _ _ (by simp)];rfl)
 | a::b::l,_=>exact eE (cg (by simp;omega)) (by rw [dK _ _ (by simp)];rfl)
 | [a],hc =>
  rw [eR (by simp),zm];cases hb:dl a==1 with
  | false=>exact eE (g0 a hb) rfl
  | true =>
   obtain ⟨d,hd⟩:=Nx hb;have ha:=hc a (by simp);have:=g1 a.Elem d (ha.2.2.1 d (by rw [hd];simp));rw [tu ha hd];exact this
theorem NS {a:aY} (hb:(dl a==1)=false):bK (ag.mk ((([a].map dF).getD 0 ae).elem) ((([a].map dF).getD 0 ae).dims))=some (Linear.mk 0 [],false):=by unfold bK;rw [show ((((ag.mk ((([a].map dF).getD 0 ae).elem) ((([a].map dF).getD 0 ae).dims)).dims.length:Nat):Int)==1)=(dl a==1) from rfl,hb];rfl
theorem NT (el:aj) (d:Linear):bK (ag.mk ((([aY.mk el (Shape.mk [] [d])].map dF).getD 0 ae).elem) ((([aY.mk el (Shape.mk [] [d])].map dF).getD 0 ae).dims))=some (d,true):=by kernel_rfl
theorem EU {d s:Linear} (vd:bg d=true) (vs:bg s=true):ic d s=some ([s,(fV d s (-1)).1],(fV d s (-1)).1,(fV d s (-1)).2==0):=by unfold ic;rw [QV d s (nc vd) (nc vs)];rfl
theorem QU (h:x.Op=[116,97,107,101]) {s:Linear} (hs:x.Sizes=[s]) (vs:bg s=true) (hc:∀ c∈cs,Fv c):dR (aD x (cs.map dF)) (aU x cs):=by
 refine kept (R:=fun el d=>(nn d s).bind fun y6=>some (aY.mk el (Shape.mk [] [s]),[s,y6.1],(y6.2==0))) ?_ (PA x _ h) (fun a hb=>?_) (fun el d vd=>?_) hc
 ·obtain ⟨p,h1,h2⟩:=Ax (n:=[116,97,107,101]) (by decide);unfold aU jq;rw [h,hs,h1,S6,h2];kernel_rfl
 ·unfold kQ;rw [aE (by simp),NS hb];rfl
 ·have e1:kQ x ([aY.mk el (Shape.mk [] [d])].map dF)=some (ag.mk el [s],[s,(fV d s (-1)).1],((fV d s (-1)).2==0)&&true):=by unfold kQ;rw [aE (by simp),NT,hs];simp only [S6,cond_true];rw [aE (by simp),show ic d (Linear.mk (([s].getD 0 ai).Const) (([s].getD 0 ai).Terms))=_ from EU vd vs];kernel_rfl
  rw [Hv];rw [Bool.and_true] at e1;refine kc (dR.ofC (ok:=(fV d s (-1)).2==0) (by simp) fun _=>⟨rfl,fun l hl=>?_,by simp,xn vs (uN d s (-1)).2⟩) e1 rfl;rw [List.mem_singleton.1 hl];exact vs
theorem QN (h:x.Op=[100,114,111,112]) {s:Linear} (hs:x.Sizes=[s]) (vs:bg s=true) (hc:∀ c∈cs,Fv c):dR (aD x (cs.map dF)) (aU x cs):=by
 refine kept (R:=fun el d=>(nn d s).bind fun y6=>some (aY.mk el (Shape.mk [] [y6.1]),[s,y6.1],(y6.2==0))) ?_ (Pt x _ h) (fun a hb=>?_) (fun el d vd=>?_) hc
 ·obtain ⟨p,h1,h2⟩:=Ax (n:=[100,114,111,112]) (by decide);unfold aU jq;rw [h,hs,h1,S6,h2];kernel_rfl
 ·unfold iE;rw [aE (by simp),NS hb];rfl
 ·have e1:iE x ([aY.mk el (Shape.mk [] [d])].map dF)=some (ag.mk el [(fV d s (-1)).1],[s,(fV d s (-1)).1],((fV d s (-1)).2==0)&&true):=by unfold iE;rw [aE (by simp),NT,hs];simp only [S6,cond_true];rw [aE (by simp),show ic d (Linear.mk (([s].getD 0 ai).Const) (([s].getD 0 ai).Terms))=_ from EU vd vs];kernel_rfl
  rw [Hv];rw [Bool.and_true] at e1;refine kc (dR.ofC (ok:=(fV d s (-1)).2==0) (by simp) fun _=>⟨rfl,fun l hl=>?_,by simp,xn vs (uN d s (-1)).2⟩) e1 rfl;rw [List.mem_singleton.1 hl];exact (uN d s (-1)).2
theorem LR (h:x.Op=[119,105,110,100,111,119,115]) {s:Linear} (hs:x.Sizes=[s]) (vs:bg s=true) (hc:∀ c∈cs,Fv c):dR (aD x (cs.map dF)) (aU x cs):=by
 refine kept (R:=fun el d=>(nn d s).bind fun y6=>(cU 1).bind fun y9=>(kW y6.1 y9).bind fun y10=>bif (y6.2==0) then some (aY.mk el (Shape.mk [] [y10.1,s]),[s,y6.1],(y10.2==0)) else some (aY.mk el (Shape.mk [] [y10.1,s]),[s,y6.1],false)) ?_ (Ka x _ h) (fun a hb=>?_) (fun el d vd=>?_) hc
 ·obtain ⟨p,h1,h2⟩:=Ax (n:=[119,105,110,100,111,119,115]) (by decide);unfold aU jq;rw [h,hs,h1,S6,h2];kernel_rfl
 ·unfold iF;rw [aE (by simp),NS hb];rfl
 ·have od:=nc (uN d s (-1)).2;have e1:iF x ([aY.mk el (Shape.mk [] [d])].map dF)=some (ag.mk el [(fV (fV d s (-1)).1 (Linear.mk 1 []) 1).1,s],[s,(fV d s (-1)).1],((fV d s (-1)).2==0)&&((fV (fV d s (-1)).1 (Linear.mk 1 []) 1).2==0)):=by unfold iF;rw [aE (by simp),NT,hs];simp only [S6,cond_true];rw [aE (by simp),show ic d (Linear.mk (([s].getD 0 ai).Const) (([s].getD 0 ai).Terms))=_ from EU vd vs];simp only [S6];rw [show (Linear.mk (([s].getD 0 ai).Const) (([s].getD 0 ai).Terms))=s from rfl];unfold lO kR;simp only [S6];rw [MY _ _ od (nv 1)];kernel_rfl
  rw [Hv];simp only [cU,S6];rw [LC];simp only [S6];cases hq:(fV d s (-1)).2==0 with
  | false=>rw [hq,Bool.false_and] at e1;exact kc (dR.no (by simp)) e1 rfl
  | true =>
   rw [hq,Bool.true_and] at e1;refine kc (dR.ofC (ok:=(fV (fV d s (-1)).1 (Linear.mk 1 []) 1).2==0) (by simp) fun _=>⟨rfl,fun l hl=>?_,by simp,xn vs (uN d s (-1)).2⟩) e1 rfl;exact xn (uN _ _ 1).2 vs l hl
end
section
variable {x:Instr} {cs:List aY}
theorem IB {p:bP×Bool} (hp:fB x.Op=some p) (hs:(p.2&&p.1.Scalar)=true) (hl:cs.length≤1000) (hc:∀ c∈cs,Fv c) :
 aD x (cs.map dF)=bif zN cs then some (ag.mk (wY x.Op (cs.map (·.Elem))).1 [],[],(wY x.Op (cs.map (·.Elem))).2) else some (zF,[],false):=by
 unfold aD;rw [hp,S6,hs,cond_true];have e:=xd (body:=fun i0 s0 =>
  bif decide ((((((cs.map dF).getD i0 ae).dims).length:Nat):Int)>0) then (
   some (.ret ((ag.mk [] []),[],false))
  ) else (
   bo ((s0.length+1)*16≤140737488355328)<|
   some (.go (s0++[(((cs.map dF).getD i0 ae).elem)]))
  )) (ρ:=(ag×(List Linear)×Bool)) (fun j=>decide (((cs.map dF).getD j ae).dims.length=0)) (fun j=>((cs.map dF).getD j ae).elem) (zF,[],false) cs.length (fun j s hj h2=>by
  rw [aE (by omega)];by_cases h0:((cs.map dF).getD j ae).dims.length=0
  ·rw [S4 (by omega),S5 h0];rfl
  ·rw [S5 (by omega),S4 h0];rfl) cs.length 0 [] (by omega) rfl
 rw [show (cs.map dF).length-0=cs.length by simp,e];have a1:=Dj (fun f:ag=>decide (f.dims.length=0)) ae (cs.map dF);rw [show (cs.map dF).length-0=cs.length by simp,List.all_map] at a1;rw [a1,show (cs.all ((fun f:ag=>decide (f.dims.length=0)) ∘ dF))=zN cs from rfl];have m1:(List.range' 0 cs.length).map (fun j=>((cs.map dF).getD j ae).elem)=cs.map (·.Elem):=by
  refine List.ext_getElem (by simp) fun i h1 h2=>?_;have h3:i<cs.length:=by simpa using h2
  simp [SW,h3,dF]
 cases zN cs with
 | false=>rfl
 | true =>
  simp only [cond_true,S6,Sh.aft,List.nil_append];rw [m1,Lb x.Op (cs.map (·.Elem)) (fun e he=>by obtain ⟨c,hm,rfl⟩:=List.mem_map.1 he;exact (hc c hm).2.2.2)]
  rfl
theorem M2 (h:x.Op∈CW.map (·.1)) (hl:cs.length≤1000) (hc:∀ c∈cs,Fv c):dR (aD x (cs.map dF)) (aU x cs):=by
 rcases wZ x.Op with ⟨r,hr,he,ht⟩ | ⟨hx,_⟩
 ·have h1:=Tc.1 P9 r hr;rw [SY,SY,← he] at h1;obtain ⟨⟨h1,_⟩,h2⟩:=h1;obtain ⟨p,hp,hs⟩:∃ p,fB x.Op=some p∧(p.2&&p.1.Scalar)=true:=by
   cases hp:fB x.Op with
   | none=>rw [hp] at h1;cases h1
   | some p=>rw [hp] at h1;exact ⟨p,rfl,h1⟩
  obtain ⟨q,hq,hq2⟩:∃ q,gE x.Op=some q∧((q.2&&q.1.Scalar)&&(decide (q.1.Scheme.Params.map (·.Elem)=r.2.1)&&decide (q.1.Scheme.Result.Elem=r.2.2)))=true:=by
   cases hp:gE x.Op with
   | none=>rw [hp] at h2;cases h2
   | some p=>rw [hp] at h2;exact ⟨p,rfl,h2⟩
  obtain ⟨hqs,hPR⟩:=Bool.and_eq_true_iff.1 hq2;obtain ⟨hP,hR⟩:=Bool.and_eq_true_iff.1 hPR;have hP:=S3 hP;have hR:=S3 hR;rw [IB hp hs hl hc];have e2:aU x cs=(mx q.1 cs).bind fun y1=>some (y1.1,[],y1.2):=by unfold aU;rw [hq,S6,hqs,cond_true]
  obtain ⟨t,ok,h3,h4,h5⟩:=KF q.1 cs;rw [e2,h3];have hw:(bif decide (cs.length=q.1.Scheme.Params.length) then jH q.1.Scheme.Result.Elem (kZ (q.1.Scheme.Params.map (·.Elem)) (cs.map (·.Elem)) []) else ([],false))=wY x.Op (cs.map (·.Elem)):=by unfold wY;rw [ht,hP,hR,← hP,Bool.true_and,S7,S7]
  rw [hw] at h4 h5;cases hf:zN cs with
  | false =>
   rw [hf,Bool.false_and] at h4;exact kn zF t (by decide) rfl (by rw [h4];rfl)
  | true =>
   rw [hf,Bool.true_and] at h4;exact kc (dR.of (f:=ag.mk (wY x.Op (cs.map (·.Elem))).1 []) (t:=t) (ok:=ok) (by simp) fun hk=>⟨h5 hk,fun l hl=>by cases hl⟩) (by rw [h4];rfl) rfl
 ·obtain ⟨r,hr,e⟩:=List.mem_map.1 h;have:=hx x.Op h;rw [beq_self_eq_true] at this;cases this
theorem LQ (h:∀ n∈Kv,(x.Op==n)=false):dR (aD x (cs.map dF)) (aU x cs):=by
 obtain ⟨⟨p,hp⟩,q,hq⟩:=Qb x.Op h;have e1:aD x (cs.map dF)=some (zF,[],false):=by unfold aD bU;rw [hp];simp (disch:=decide) only [h,cond_false,S6,Bool.false_and];rfl
 have e2:aU x cs=some (zT,[],false):=by unfold aU oh de;rw [hq];simp (disch:=decide) only [h,cond_false,S6,Bool.false_and,Bool.or_self];rfl
 exact eE e1 e2
end
theorem RI {x:Instr} {cs:List aY} (hc:∀ c∈cs,Fv c) (hl:cs.length≤1000) (hF:x.Fun.length≤1000) (h1:x.Array.Dims.length≤1000) (h2:x.Array.Data.length≤1000) (hf:vE x=true) (hS:x.Sizes.all bg=true) :
 dR (aD x (cs.map dF)) (aU x cs):=by
 by_cases a:x.Op∈CW.map (·.1)
 ·exact M2 a hl hc
 by_cases b:x.Op∈ML
 ·have sz:ET x.Op=true→∃ s,x.Sizes=[s]∧bg s=true:=fun hb=>by unfold vE at hf;simp only [SY,decide_eq_true_eq] at hf;have hn:=hf.1.1.1.1.1;rw [hb] at hn;obtain ⟨s,hs⟩:=List.length_eq_one_iff.1 hn;exact ⟨s,hs,Tc.1 hS s (by rw [hs];simp)⟩
  simp only [ML,List.mem_cons,List.mem_nil_iff,or_false] at b;rcases b with h | h | h | h | h | h | h | h | h | h | h | h | h | h | h | h | h
  ·exact Pe h h1 (by omega)
  ·exact QT h
  ·obtain ⟨s,hs,vs⟩:=sz (by rw [h];decide);exact QQ h hs vs
  ·obtain ⟨s,hs,vs⟩:=sz (by rw [h];decide);exact QO h hs vs hc
  ·obtain ⟨s,hs,vs⟩:=sz (by rw [h];decide);exact QU h hs vs hc
  ·obtain ⟨s,hs,vs⟩:=sz (by rw [h];decide);exact QN h hs vs hc
  ·obtain ⟨s,hs,vs⟩:=sz (by rw [h];decide);exact LR h hs vs hc
  ·exact LP h hc
  ·exact M1 h hc
  ·exact HR h hc
  ·exact JL h hc
  ·exact Pd h hc
  ·exact Pf h hc
  ·exact M3 h hc
  ·exact QR h hc
  ·exact QP h hF hc
  ·exact QS h hF hc
 ·refine LQ fun n hn=>?_;rcases List.mem_append.1 hn with h | h
  ·exact beq_eq_false_iff_ne.2 fun e=>a (e ▸ h)
  ·exact beq_eq_false_iff_ne.2 fun e=>b (e ▸ h)
theorem AW {t:aY} (h:kh t=true):t.Shape.Row=[]∧(∀ l∈t.Shape.Dims,bg l=true)∧(t.Elem=tI∨t.Elem=tB):=by unfold kh Bu xb at h;simp only [SY,Bool.or_eq_true,beq_iff_eq] at h;exact ⟨h.1.2,Tc.1 h.1.1.2.1,h.2⟩
def SQ (r:aY×(List Linear)×Int):Prop:=(r.1.Shape.Dims.length≤2000∧∀ l∈r.1.Shape.Dims,l.Terms.length≤1000)∧(r.2.1.length≤1000∧∀ l∈r.2.1,l.Terms.length≤1000)
theorem zi (n:Int):SQ (zT,[],n):=⟨⟨by simp,fun l h=>by cases h⟩,by simp,fun l h=>by cases h⟩
theorem NO (ts:List aY) (x:Instr) (hT:∀ t∈ts,Sb t) (hD:∀ t∈ts,t.Shape.Dims.length≤1000) (h6:x.Args.length≤1000) (hL:x.Frame.length≤1000) (hFr:∀ l∈x.Frame,Dd l) (hSz:∀ l∈x.Sizes,Dd l)
 (hF:x.Fun.length≤1000) (h1:x.Array.Dims.length≤1000) (h2:x.Array.Data.length≤1000):∃ r,pk ts x=some r∧rE ts x=some r∧SQ r:=by
 unfold pk rE;rw [O6 ts hT,cO (r:=(zT,[],1)) (fun j=>kh (ts.getD j ak)) _ _ () (fun j u _ hj=>by rw [FZ,Qt];cases kh (ts.getD j ak)<;>rfl),Dj kh ak ts]
 cases hcl:ts.all kh with
 | false=>exact ⟨_,rfl,rfl,zi _⟩
 | true =>
  simp only [cond_true,S6,Sh.aft,Bool.not_true,cond_false];rw [Ri,cO (r:=(zT,[],9)) (fun j=>!Bi ts.length (x.Args.getD j 0)) _ _ () (fun j u _ hj=>by unfold Bi;cases (decide ((x.Args.getD j 0)<0)||decide ((x.Args.getD j 0)≥((ts.length:Nat):Int)))<;>rfl),Dj (fun v=>!Bi ts.length v) 0 x.Args]
  cases hin:x.Args.any (Bi ts.length) with
  | true =>
   rw [show (x.Args.all fun v=>!Bi ts.length v)=false by rw [← List.not_any_eq_all_not,hin];rfl];exact ⟨_,rfl,rfl,zi _⟩
  | false =>
   rw [show (x.Args.all fun v=>!Bi ts.length v)=true by rw [← List.not_any_eq_all_not,hin];rfl];simp only [cond_true,S6,Sh.aft,cond_false];have hcl:=Tc.1 hcl;rw [Ns ts x hFr hSz h6 hD hin,MD ts x (fun t ht l hl=>by have:=fj ((AW (hcl t ht)).2.1 l hl);omega) h6 hD hin,Me,KD x h1 h2];cases hf:Iw ts x with
   | false=>exact ⟨_,rfl,rfl,zi _⟩
   | true =>
    cases hv:(decide (x.Frame.length≤6)&&(x.Frame.all bg&&x.Sizes.all bg)) with
    | false=>cases vE x<;>exact ⟨_,rfl,rfl,zi _⟩
    | true =>
     cases hb:vE x with
     | false=>exact ⟨_,rfl,rfl,zi _⟩
     | true =>
      simp only [Bool.and_self,cond_true,Bool.not_true,cond_false,S6,Bool.or_self];have hv2:=Bool.and_eq_true_iff.1 (Bool.and_eq_true_iff.1 hv).2;have hc:∀ c∈(List.range' 0 (x.Args.length-0)).map (Il ts x),Fv c:=fun c hc=>by
       obtain ⟨j,hj,rfl⟩:=List.mem_map.1 hc;have hj:j<x.Args.length:=by rw [List.mem_range'_1] at hj;omega
       have hi:=GM hin hj;have ha:rO ts x j∈ts:=by unfold rO;rw [SW,SX (by omega)];exact List.getElem_mem _
       have hk:=AW (hcl _ ha);refine ⟨rfl,?_,fun l hl=>hk.2.1 l (List.mem_of_mem_drop hl),hk.2.2⟩;show ((rO ts x j).Shape.Dims.drop _).length≤1000;have:=hD _ ha;simp;omega
      have hR:=RI hc (by simp;omega) hF h1 h2 hb hv2.2;rw [List.map_map,show dF ∘ Il ts x=K6 ts x from rfl] at hR;obtain ⟨f,cs,ok,t,cs',e1,e2,hfl,hk⟩:=hR;rw [e1,e2];have hc2:jc [x.Frame,f.dims]=some (x.Frame++f.dims):=by unfold jc;rw [aE ⟨by simp;omega,by simp⟩];simp
      simp only [S6];rw [hc2];cases ok with
      | false=>exact ⟨_,rfl,rfl,zi _⟩
      | true =>
       obtain ⟨rfl,rfl,hd,hcl,hct⟩:=hk rfl;simp only [cond_true,Bool.not_true,cond_false,S6,Bool.false_or,List.nil_append];rw [aE (by omega),aE (by omega),FZ,Je _ ⟨by simp,fun l hl=>by
        rcases List.mem_append.1 hl with h | h
        ·exact hFr l h
        ·exact hd l h⟩]
       cases hq:kh (aY.mk f.elem (Shape.mk [] (x.Frame++f.dims))) with
       | false=>exact ⟨_,rfl,rfl,zi _⟩
       | true =>
        have hv:=(AW hq).2.1;have hv':∀ l∈x.Frame++f.dims,l.Terms.length≤1000:=fun l hl=>by have:=fj (hv l hl);omega
        unfold iY;simp only [S6,Bool.not_true,cond_false];rw [copy_eq _ (by simp;omega) (fun l hl=>by have:=hv' l hl;omega),S6,copy_eq _ (by omega) (fun l hl=>by have:=hct l hl;omega)];exact ⟨_,rfl,rfl,⟨by simp;omega,hv'⟩,hcl,hct⟩
theorem O5 {ρ:Type} {body:Int→Option (kr Int Unit ρ)} (n:Nat) (h1:∀ i:Nat,i<n→body ((i:Nat):Int)=some (.go (((i+1:Nat):Nat):Int))) (h2:body ((n:Nat):Int)=some (.brk ())):∀ (k i N:Nat),i+k=n→k<N→vq body N ((i:Nat):Int)=some (.brk ())
 | 0,i,N+1,h,_=>by
  obtain rfl:i=n:=by omega
  simp only [vq,h2,S6];rfl
 | k+1,i,N+1,h,hN=>by simp only [vq,h1 i (by omega),S6,CZ];exact O5 n h1 h2 k (i+1) N (by omega) (by omega)
theorem vg (l:List Linear) (h:∀ d∈l,d.Terms.length≤1000):gF l l=some true:=by
 unfold gF;rw [beq_self_eq_true,cond_true,cO (r:=false) (fun _=>true) _ _ () (fun j u _ hj=>by
  have hd:(l.getD j ai).Terms.length≤1000:=xg (P:=fun d:Linear=>d.Terms.length≤1000) h (by decide) j;rw [aE (by omega),beq_self_eq_true,beq_self_eq_true,cond_true,cond_true];rw [show ((0:Int))=((0:Nat):Int) from rfl,O5 (l.getD j ai).Terms.length (fun i hi=>by rw [S5 (by omega),cond_true,aE (by omega),S6,aE (by omega),S6,beq_self_eq_true,beq_self_eq_true];rw [fy (by unfold rL;omega)];rfl) (by rw [S4 (by omega)];rfl) (l.getD j ai).Terms.length 0 4294967296 (by omega) (by omega)]
  rfl)]
 rw [show ((List.range' 0 (l.length-0)).all fun _=>true)=true from Tc.2 (fun _ _=>rfl)];rfl
theorem HQ (l:List Linear) (h:∀ d∈l,d.Terms.length≤1000):jm (Flat.mk [] l [] [] []) (Flat.mk [] l [] [] [])=some true:=by unfold jm;rw [vg l h];kernel_rfl
theorem HP (t:aY) (h:∀ d∈t.Shape.Dims,d.Terms.length≤1000):jm (Flat.mk [] [] [t] [] []) (Flat.mk [] [] [t] [] [])=some true:=by
 have e:jo t t=some true:=by unfold jo;rw [beq_self_eq_true,beq_self_eq_true,vg _ h];rfl
 unfold jm;rw [cO (r:=false) (fun _=>true) _ _ () (fun j u _ hj=>by
  have:j=0:=by simp at hj;omega
  subst this;rw [aE (by simp)];rw [show jo (aY.mk (([t].getD 0 ak).Elem) (Shape.mk ((([t].getD 0 ak).Shape).Row) ((([t].getD 0 ak).Shape).Dims))) (aY.mk (([t].getD 0 ak).Elem) (Shape.mk ((([t].getD 0 ak).Shape).Row) ((([t].getD 0 ak).Shape).Dims)))=some true from e];rfl)]
 rfl
theorem Q8 {x:Instr} (h:pV (Flat.mk [] [] [] [x] [])=some true):x.Args.length≤6∧x.Frame.length≤8∧x.Fun.length≤8∧x.Array.Dims.length≤8∧x.Array.Data.length≤40:=by
 unfold pV at h;rw [cO (r:=false) (fun _=>!(((((((decide ((((x.Args).length:Nat):Int)>6)||decide ((((x.Axes).length:Nat):Int)>8))||decide ((((x.Frame).length:Nat):Int)>8))||decide ((((x.Sizes).length:Nat):Int)>3))||decide (((((x.Array).Data).length:Nat):Int)>40))||decide (((((x.Array).Dims).length:Nat):Int)>8))||decide ((((x.Fun).length:Nat):Int)>8))||decide ((((((x.Type_).Shape).Dims).length:Nat):Int)>10))) _ _ () (fun j u _ hj=>by
  have:j=0:=by simp at hj;omega
  subst this;show (bif (((((((decide ((((x.Args).length:Nat):Int)>6)||decide ((((x.Axes).length:Nat):Int)>8))||decide ((((x.Frame).length:Nat):Int)>8))||decide ((((x.Sizes).length:Nat):Int)>3))||decide (((((x.Array).Data).length:Nat):Int)>40))||decide (((((x.Array).Dims).length:Nat):Int)>8))||decide ((((x.Fun).length:Nat):Int)>8))||decide ((((((x.Type_).Shape).Dims).length:Nat):Int)>10)) then _ else _)=_;cases (((((((decide ((((x.Args).length:Nat):Int)>6)||decide ((((x.Axes).length:Nat):Int)>8))||decide ((((x.Frame).length:Nat):Int)>8))||decide ((((x.Sizes).length:Nat):Int)>3))||decide (((((x.Array).Data).length:Nat):Int)>40))||decide (((((x.Array).Dims).length:Nat):Int)>8))||decide ((((x.Fun).length:Nat):Int)>8))||decide ((((((x.Type_).Shape).Dims).length:Nat):Int)>10))<;>rfl)] at h
 simp only [List.length_cons,List.length_nil,Nat.zero_add,Nat.sub_zero,List.range'_one,List.all_cons,List.all_nil,Bool.and_true] at h;cases hq:(((((((decide ((((x.Args).length:Nat):Int)>6)||decide ((((x.Axes).length:Nat):Int)>8))||decide ((((x.Frame).length:Nat):Int)>8))||decide ((((x.Sizes).length:Nat):Int)>3))||decide (((((x.Array).Data).length:Nat):Int)>40))||decide (((((x.Array).Dims).length:Nat):Int)>8))||decide ((((x.Fun).length:Nat):Int)>8))||decide ((((((x.Type_).Shape).Dims).length:Nat):Int)>10)) with
 | true=>rw [hq] at h;cases h
 | false =>
  simp only [Bool.or_eq_false_iff,decide_eq_false_iff_not] at hq;omega
theorem NH (x:Instr):∃ b,pV (Flat.mk [] [] [] [x] [])=some b:=by
 unfold pV;obtain ⟨v,hv⟩:=DC (body:=fun i0 s0=>bif (((((((decide ((((([x].getD i0 az).Args).length:Nat):Int)>6)||decide ((((([x].getD i0 az).Axes).length:Nat):Int)>8))||decide ((((([x].getD i0 az).Frame).length:Nat):Int)>8))||decide ((((([x].getD i0 az).Sizes).length:Nat):Int)>3))||decide (((((([x].getD i0 az).Array).Data).length:Nat):Int)>40))||decide (((((([x].getD i0 az).Array).Dims).length:Nat):Int)>8))||decide ((((([x].getD i0 az).Fun).length:Nat):Int)>8))||decide ((((((([x].getD i0 az).Type_).Shape).Dims).length:Nat):Int)>10)) then (
  some (.ret false)
  ) else (
   some (.go ())
  )) (fin:=fun i0 s0=>()) (fun j s=>by cases (((((((decide ((((([x].getD j az).Args).length:Nat):Int)>6)||decide ((((([x].getD j az).Axes).length:Nat):Int)>8))||decide ((((([x].getD j az).Frame).length:Nat):Int)>8))||decide ((((([x].getD j az).Sizes).length:Nat):Int)>3))||decide (((((([x].getD j az).Array).Data).length:Nat):Int)>40))||decide (((((([x].getD j az).Array).Dims).length:Nat):Int)>8))||decide ((((([x].getD j az).Fun).length:Nat):Int)>8))||decide ((((((([x].getD j az).Type_).Shape).Dims).length:Nat):Int)>10))<;>exact ⟨_,rfl⟩) ([x].length-0) 0 ()
 simp only at hv ⊢;rw [hv];cases v<;>exact ⟨_,rfl⟩
theorem Ng:vX=some true:=by kernel_rfl
theorem Mj (ts:List aY) (x:Instr) (hT:∀ t∈ts,Sb t) (hFr:∀ l∈x.Frame,Dd l) (hSz:∀ l∈x.Sizes,Dd l):kj ts x=some true:=by
 unfold kj;rw [Ng];simp only [S6,cond_true];obtain ⟨b,hb⟩:=NH x;rw [hb];cases h6:decide (((ts.length:Nat):Int)>6) with
 | true=>rfl
 | false =>
  cases b with
  | false=>rfl
  | true =>
   simp only [cond_false,S6,Bool.not_true,Bool.or_self];rw [cO (r:=true) (fun j=>!decide (((((ts.getD j ak).Shape.Dims).length:Nat):Int)>8)) _ _ () (fun j u _ hj=>by cases decide (((((ts.getD j ak).Shape.Dims).length:Nat):Int)>8)<;>rfl),Dj (fun t:aY=>!decide (((t.Shape.Dims.length:Nat):Int)>8)) ak ts]
   cases hd:ts.all (fun t:aY=>!decide (((t.Shape.Dims.length:Nat):Int)>8)) with
   | false=>rfl
   | true =>
    have hd:=Tc.1 hd;have fw:=Q8 hb;obtain ⟨r,e1,e2,⟨ho,hot⟩,hc,hct⟩:=NO ts x hT (fun t ht=>by have:=hd t ht;simp at this;omega) (by omega) (by omega) hFr hSz (by omega) (by omega) (by omega);simp only [cond_true,S6,Sh.aft];rw [e1,e2];simp only [S6];rw [HQ _ hct,HP _ hot,bne_self_eq_false,bne_self_eq_false];rfl
end Go.Proofs.YtpfoahpiaanlaaaGreatDoor
