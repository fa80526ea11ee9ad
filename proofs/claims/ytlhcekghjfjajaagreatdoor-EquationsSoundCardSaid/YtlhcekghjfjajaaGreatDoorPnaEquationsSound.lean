/- Plain laws: what the walked functions compute answers as the statement says. -/
import Derived.Test.YtlhcekghjfjajaaGreatDoorWkcEquationsSound
import Derived.Lib.ItoaNum
import Derived.Lib.ItoaMem
import Derived.Lib.AtoiAll
import Derived.Lib.AtoiAllCases
import Derived.Lib.ItoaLen
import Derived.Lib.SlTrimSet
set_option linter.unusedSimpArgs false
set_option linter.unusedVariables false
namespace Go.Sh
open Go.Ab
section
variable {α σ ε ρ:Type}
theorem gX {body:Nat→Unit→Option (gj Unit ε ρ)} {fin:Nat→Unit→ε} {r:ρ} (p:Nat→Bool):∀ (k i:Nat) (u:Unit),(∀ j u,i≤j→j<i+k→body j u=some (bif p j then .go () else .ret r)) →
 dO body fin k i u=some (bif (List.range' i k).all p then .brk (fin (i+k) ()) else .ret r)
 | 0,i,u,h=>by simp [dO]
 | k+1,i,u,h=>by
  simp only [dO,h i u (Nat.le_refl _) (by omega),List.range'_succ,List.all_cons];cases hp:p i with
  | true =>
   simp only [cond_true,Option.bind_some,yO,Bool.true_and];rw [gX p k (i+1) () (fun j u h1 h2=>h j u (by omega) (by omega))];rw [show i+1+k=i+(k+1) by omega]
  | false=>simp [yO]
theorem qG {body:Nat→Unit→Option (gj Unit ε ρ)} {fin:Nat→Unit→ε} {f:Nat→ρ} (p:Nat→Bool):∀ (k i:Nat) (u:Unit),(∀ j u,i≤j→j<i+k→body j u=some (bif p j then .ret (f j) else .go ())) →
 dO body fin k i u=some (match (List.range' i k).find? p with | some j=>.ret (f j) | none=>.brk (fin (i+k) ()))
 | 0,i,u,h=>by simp [dO]
 | k+1,i,u,h=>by
  simp only [dO,h i u (Nat.le_refl _) (by omega),List.range'_succ,List.find?_cons];cases hp:p i with
  | false =>
   simp only [cond_false,Option.bind_some,yO];rw [qG p k (i+1) () (fun j u h1 h2=>h j u (by omega) (by omega))];rw [show i+1+k=i+(k+1) by omega]
  | true=>simp [yO]
theorem yp {body:Nat→σ→Option (gj σ ε ρ)} {fin:Nat→σ→ε} (g:Nat→σ→σ) (I:Nat→σ→Prop):∀ (k i:Nat) (s:σ),I i s→(∀ j s,i≤j→j<i+k→I j s→body j s=some (.go (g j s))∧I (j+1) (g j s)) →
 ∃ s',dO body fin k i s=some (.brk (fin (i+k) s'))∧s'=(List.range' i k).foldl (fun s j=>g j s) s∧I (i+k) s'
 | 0,i,s,hI,h=>⟨s,by simp [dO],by simp,hI⟩
 | k+1,i,s,hI,h=>by
  obtain ⟨h1,h2⟩:=h i s (Nat.le_refl _) (by omega) hI;obtain ⟨s',e1,e2,e3⟩:=yp g I k (i+1) (g i s) h2 (fun j s h1 h2=>h j s (by omega) (by omega));refine ⟨s',?_,?_,by rw [show i+(k+1)=i+1+k by omega];exact e3⟩
  ·simp only [dO,h1,Option.bind_some,yO];rw [e1,show i+1+k=i+(k+1) by omega]
  ·rw [e2,List.range'_succ];rfl
theorem jS (q:α→Bool) (d:α) (l:List α):∀ (i:Nat),(List.range' i (l.length-i)).all (fun j=>q (l.getD j d))=(l.drop i).all q:=by
 intro i;by_cases h:i<l.length
 ·obtain ⟨k,hk⟩:∃ k,l.length-i=k+1:=⟨l.length-i-1,by omega⟩;have ih:=jS q d l (i+1);rw [hk,List.range'_succ,List.all_cons,List.drop_eq_getElem_cons h,List.all_cons];rw [show l.length-(i+1)=k by omega] at ih;rw [ih];simp [Kb,Kc h]
 ·rw [show l.length-i=0 by omega,List.drop_eq_nil_of_le (by omega)];rfl
 termination_by i=>l.length-i
theorem Jc (q:α→Bool) (d:α) (l:List α):(List.range' 0 (l.length-0)).all (fun j=>q (l.getD j d))=l.all q:=by have:=jS q d l 0;simpa using this
theorem nQ {β:Type} (g:β→α→β) (d:α) (l:List α):∀ (i:Nat) (s:β),(List.range' i (l.length-i)).foldl (fun s j=>g s (l.getD j d)) s=(l.drop i).foldl g s:=by
 intro i s;by_cases h:i<l.length
 ·obtain ⟨k,hk⟩:∃ k,l.length-i=k+1:=⟨l.length-i-1,by omega⟩;have ih:=nQ g d l (i+1) (g s (l.getD i d));rw [hk,List.range'_succ,List.foldl_cons,List.drop_eq_getElem_cons h,List.foldl_cons];rw [show l.length-(i+1)=k by omega] at ih;rw [ih];simp [Kb,Kc h]
 ·rw [show l.length-i=0 by omega,List.drop_eq_nil_of_le (by omega)];rfl
 termination_by i=>l.length-i
def idxOf (p:α→Bool):List α→Int
 | [] => -1
 | x::l=>bif p x then 0 else (let r:=idxOf p l;bif r == -1 then -1 else r+1)
theorem qR (p:α→Bool):∀ l:List α,-1≤idxOf p l
 | []=>by simp [idxOf]
 | x::l=>by
  have:=qR p l;simp only [idxOf];cases p x
  ·cases h:idxOf p l == -1
   ·simp;omega
   ·simp
  ·simp
theorem pH (p:α→Bool):∀ l:List α,(idxOf p l<0)↔l.any p=false
 | []=>by simp [idxOf]
 | x::l=>by
  have h1:=qR p l;have h2:=pH p l;simp only [idxOf,List.any_cons];cases hp:p x
  ·cases h:idxOf p l == -1
   ·have:idxOf p l ≠ -1:=by simpa using h
    simp only [cond_false,Bool.false_or];rw [← h2];omega
   ·have:idxOf p l = -1:=by simpa using h
    simp only [cond_false,cond_true,Bool.false_or];rw [← h2];omega
  ·simp
theorem zL (p:α→Bool) (d:α) (l:List α):∀ (i:Nat),(match (List.range' i (l.length-i)).find? (fun j=>p (l.getD j d)) with | some j=>((j:Nat):Int) | none => -1)=(bif idxOf p (l.drop i) == -1 then -1 else idxOf p (l.drop i)+i):=by
 intro i;by_cases h:i<l.length
 ·obtain ⟨k,hk⟩:∃ k,l.length-i=k+1:=⟨l.length-i-1,by omega⟩;have ih:=zL p d l (i+1);rw [hk,List.range'_succ,List.find?_cons,List.drop_eq_getElem_cons h];rw [show l.length-(i+1)=k by omega] at ih;have e:l.getD i d=l[i]:=by simp [Kb,Kc h]
  rw [e];simp only [idxOf];cases hp:p l[i]
  ·simp only [cond_false];rw [ih];cases hq:idxOf p (l.drop (i+1)) == -1
   ·have h3:idxOf p (l.drop (i+1)) ≠ -1:=by simpa using hq
    have h4:=qR p (l.drop (i+1));simp only [cond_false];have:((idxOf p (l.drop (i+1))+1) == -1)=false:=by simp;omega
    rw [this];simp only [cond_false];omega
   ·simp
  ·simp
 ·rw [show l.length-i=0 by omega,List.drop_eq_nil_of_le (by omega)];rfl
 termination_by i=>l.length-i
theorem sd (p:α→Bool) (d:α) (l:List α):(match (List.range' 0 (l.length-0)).find? (fun j=>p (l.getD j d)) with | some j=>((j:Nat):Int) | none => -1)=idxOf p l:=by
 rw [zL p d l 0];simp only [List.drop_zero];cases h:idxOf p l == -1
 ·simp
 ·have:idxOf p l = -1:=by simpa using h
  simp [this]
end
def cq (b:UInt8):Bool:=decide (48≤b.toNat)&&decide (b.toNat≤57)
def jF (acc:Nat) (l:aw):Nat:=l.foldl (fun a c=>a*10+(c.toNat-48)) acc
theorem xn (acc:Nat) (l:aw) (c:UInt8):jF acc (l++[c])=jF acc l*10+(c.toNat-48):=by simp [jF]
theorem xJ:∀ (l:aw) (acc:Nat),l.all cq=true→(acc+1)*10 ^ l.length≤10 ^ 18→Lib.parseUint10 acc l = .ok (jF acc l)
 | [],acc,_,_=>rfl
 | c::l,acc,h,hb=>by
  simp only [List.all_cons,Kd,cq,decide_eq_true_eq] at h;obtain ⟨⟨h1,h2⟩,h3⟩:=h;have hp:1≤10 ^ l.length:=Nat.one_le_pow _ _ (by decide);have hb2:(acc*10+10)*10 ^ l.length≤10 ^ 18:=by
   have:(acc+1)*10 ^ (l.length+1)=(acc*10+10)*10 ^ l.length:=by rw [Nat.pow_succ];rw [show (acc*10+10)=(acc+1)*10 by omega,Nat.mul_assoc,Nat.mul_comm 10]
   rw [← this];simpa using hb
  have hb3:acc*10+10≤10 ^ 18:=Nat.le_trans (Nat.le_mul_of_pos_right _ hp) hb2;have e18:(10:Nat) ^ 18=1000000000000000000:=by decide
  rw [e18] at hb3;simp only [Lib.parseUint10];rw [if_pos ⟨h1,h2⟩,if_neg (by omega),if_neg (by omega)];rw [xJ l _ (by simpa [cq] using h3) (Nat.le_trans (Nat.mul_le_mul_right _ (by omega)) hb2)];rfl
theorem zN {c:UInt8} (h:cq c=true):UInt8.ofNat (48+(c.toNat-48))=c:=by simp only [cq,Kd,decide_eq_true_eq] at h;rw [show 48+(c.toNat-48)=c.toNat by omega];exact UInt8.ofNat_toNat
theorem Fi {α:Type} {P:List α→Prop} (h0:P []) (h1:∀ l c,P l→P (l++[c])) (l:List α):P l:=by
 have:∀ m:List α,P m.reverse:=by
  intro m;induction m with
  | nil=>exact h0
  | cons c m ih=>simpa using h1 _ c ih
 simpa using this l.reverse
theorem Hb (l:aw):l.all cq=true→l≠[]→l.head? ≠ some 48→1≤jF 0 l∧Lib.decDigits (jF 0 l)=l:=by
 refine Fi (P:=fun l=>l.all cq=true→l≠[]→l.head? ≠ some 48→1≤jF 0 l∧Lib.decDigits (jF 0 l)=l) ?_ ?_ l
 ·intro _ h;exact absurd rfl h
 ·intro l c ih h _ hh;rw [List.all_append,Kd] at h;have hc:cq c=true:=by simpa using h.2
  have hc':=hc;simp only [cq,Kd,decide_eq_true_eq] at hc';rw [xn];by_cases hl:l=[]
  ·subst hl;have hne:c≠48:=by simpa using hh
   have:c.toNat≠48:=fun e=>hne (by rw [← UInt8.toNat_inj];simpa using e);simp only [jF,List.foldl_nil,Nat.zero_mul,Nat.zero_add,List.nil_append];refine ⟨by omega,?_⟩;rw [Lib.decDigits_one (by omega),zN hc]
  ·have hh2:l.head? ≠ some 48:=by
    cases l with
    | nil=>exact absurd rfl hl
    | cons x l=>simpa using hh
   obtain ⟨i1,i2⟩:=ih h.1 hl hh2;refine ⟨by omega,?_⟩;rw [Lib.decDigits,dif_neg (by omega),show (jF 0 l*10+(c.toNat-48)) / 10=jF 0 l by omega,i2,show (jF 0 l*10+(c.toNat-48)) % 10=c.toNat-48 by omega,zN hc]
theorem rD (u:Nat):(Lib.decDigits u).all cq=true∧(1≤u→(Lib.decDigits u).head? ≠ some 48)∧Lib.decDigits u≠[]:=by
 have key:∀ i,i<10→cq (UInt8.ofNat (48+i))=true:=by decide
 have key2:∀ i,i<10→1≤i→UInt8.ofNat (48+i)≠48:=by decide
 by_cases h:u<10
 ·rw [Lib.decDigits_one h];exact ⟨by simp only [List.all_cons,List.all_nil,Bool.and_true];exact key u h,fun h1=>by simpa using key2 u h h1,by simp⟩
 ·have ih:=rD (u / 10);rw [Lib.decDigits,dif_neg h];refine ⟨by rw [List.all_append,ih.1];simp only [List.all_cons,List.all_nil,Bool.and_true,Bool.true_and];exact key (u % 10) (by omega),fun _ => ?_,by simp⟩;have:=ih.2.1 (by omega);cases hd:Lib.decDigits (u / 10) with
  | nil=>exact absurd hd ih.2.2
  | cons x l=>rw [hd] at this;simpa using this
 termination_by u
 decreasing_by omega
end Go.Sh
namespace Go.Proofs.YtlhcekghjfjajaaGreatDoor
open Go.Ab Go.Sh
theorem az {α:Type} {p:Prop} [Decidable p] {x:Option α} (h:p):bP p x=x:=if_pos h
theorem mf {ε β:Type} {b:Bool} {e:ε} {r:β} {f:ε→Option β}:(some (bif b then Out.brk e else Out.ret r:Out ε β)).bind (aft f)=bif b then f e else some r:=by cases b<;>rfl
theorem all_congr {p q:Nat→Bool}:∀ (k i:Nat),(∀ j,i≤j→j<i+k→p j=q j)→(List.range' i k).all p=(List.range' i k).all q
 | 0,i,_=>rfl
 | k+1,i,h=>by rw [List.range'_succ,List.all_cons,List.all_cons,h i (Nat.le_refl _) (by omega),all_congr k (i+1) (fun j h1 h2=>h j (by omega) (by omega))]
theorem ET (c k:UInt8) (n:Int) (hk:(k.toNat:Int)=n):((c.toNat:Int)==n)=(c==k):=by rw [Bool.eq_iff_iff];simp only [beq_iff_eq,← UInt8.toNat_inj];omega
theorem FZ {α:Type} (l:List α):(((l.length:Nat):Int)==0)=l.isEmpty:=by
 cases l with
 | nil=>rfl
 | cons x l=>simp;omega
def isLet (b:UInt8):Bool:=decide (97≤b.toNat)&&decide (b.toNat≤122)
theorem pr (x:UInt8):iB x=some (cq x):=by
 unfold iB cq;by_cases h:48≤x.toNat
 ·rw [Ki (show (x.toNat:Int)≥48 by omega),Ki h];simp only [cond_true,Bool.true_and,Kl];rw [decide_eq_decide];omega
 ·rw [Kh (show ¬ (x.toNat:Int)≥48 by omega),Kh h];rfl
theorem tF (x:UInt8):iL x=some (isLet x):=by
 unfold iL isLet;by_cases h:97≤x.toNat
 ·rw [Ki (show (x.toNat:Int)≥97 by omega),Ki h];simp only [cond_true,Bool.true_and,Kl];rw [decide_eq_decide];omega
 ·rw [Kh (show ¬ (x.toNat:Int)≥97 by omega),Kh h];rfl
def dP:aw→Bool
 | []=>false
 | c::r=>bif c==95 then (decide (1≤r.length)&&(decide (r.length≤9)&&(!(r.getD 0 0==48)&&r.all cq))) else (decide (r.length≤29)&&(isLet c&&r.all (fun b=>isLet b||cq b)))
theorem wX (s:aw):lM s=some (dP s):=by
 cases s with
 | nil=>rfl
 | cons c r =>
  unfold lM;have e1:((((c::r).length:Nat):Int)==0)=false:=by simp;omega
  rw [e1];simp only [cond_false];have e95:((((c::r).getD 0 0).toNat:Int)==95)=(c==95):=by rw [List.getD_cons_zero];exact ET c 95 95 rfl
  by_cases h30:r.length≤29
  ·rw [Kh (show ¬ (((c::r).length:Nat):Int)>30 by simp;omega)];simp only [cond_false];rw [az (by simp),e95];simp only [dP];cases hc:c==95 with
   | true =>
    simp only [cond_true];by_cases h1:1≤r.length
    ·rw [Kh (show ¬ (((c::r).length:Nat):Int)<2 by simp;omega),Ki h1];simp only [cond_false,Bool.true_and];by_cases h9:r.length≤9
     ·rw [Kh (show ¬ (((c::r).length:Nat):Int)>10 by simp;omega),Ki h9];simp only [cond_false,Bool.true_and];rw [az (by simp;omega)];have e48:((((c::r).getD 1 0).toNat:Int)==48)=(r.getD 0 0==48):=by rw [List.getD_cons_succ];exact ET _ 48 48 rfl
      rw [e48];cases hd:r.getD 0 0==48 with
      | true=>simp
      | false =>
       simp only [cond_false,Bool.not_false,Bool.true_and];rw [gX (fun j=>cq ((c::r).getD j 0)) _ _ () (fun j u _ _=>by rw [pr];cases cq ((c::r).getD j 0)<;>rfl),mf,jS cq 0 (c::r) 1];simp only [List.drop_succ_cons,List.drop_zero];cases r.all cq<;>rfl
     ·rw [Ki (show (((c::r).length:Nat):Int)>10 by simp;omega),Kh h9];simp
    ·rw [Ki (show (((c::r).length:Nat):Int)<2 by simp;omega),Kh h1];simp
   | false =>
    simp only [cond_false];rw [Ki h30];rw [gX (fun j=>isLet ((c::r).getD j 0)||(!(((j:Nat):Int)==0)&&cq ((c::r).getD j 0))) _ _ () (fun j u _ _=>by rw [tF,pr];cases isLet ((c::r).getD j 0)<;>cases cq ((c::r).getD j 0)<;>cases ((j:Nat):Int)==0<;>rfl),mf]
    have e:(List.range' 0 ((c::r).length-0)).all (fun j=>isLet ((c::r).getD j 0)||(!(((j:Nat):Int)==0)&&cq ((c::r).getD j 0)))=(isLet c&&r.all (fun b=>isLet b||cq b)):=by
     rw [show (c::r).length-0=r.length+1 by simp,List.range'_succ,List.all_cons];have e0:(isLet ((c::r).getD 0 0)||(!(((0:Nat):Int)==0)&&cq ((c::r).getD 0 0)))=isLet c:=by simp
     rw [e0];congr 1;rw [all_congr (q:=fun j=>(fun b=>isLet b||cq b) ((c::r).getD j 0)) _ _ (fun j h1 _=>by
      have:(((j:Nat):Int)==0)=false:=by simp;omega
      simp only [this,Bool.not_false,Bool.true_and])]
     have:=jS (fun b=>isLet b||cq b) 0 (c::r) 1;simpa using this
    rw [e];simp only [Bool.true_and];cases isLet c&&r.all (fun b=>isLet b||cq b)<;>rfl
  ·rw [Ki (show (((c::r).length:Nat):Int)>30 by simp;omega)];simp only [cond_true,dP];rw [Kh h30];have:¬ r.length≤9:=by omega
   rw [Kh this];cases c==95<;>simp
theorem ls (s:aw) (c:UInt8):de s [c]=some (match s with | []=>false | x::_=>x==c):=by
 unfold de cr;cases s with
 | nil=>rfl
 | cons x l =>
  rw [Ki (by simp;omega)];simp only [cond_true];rw [az (by simp)];simp
theorem wv {r:aw} (h0:r≠[]) (h:r.all cq=true) (hl:r.length≤9):Lib.atoiAll r = .ok (jF 0 r:Int)∧jF 0 r<10000000000:=by
 cases r with
 | nil=>exact absurd rfl h0
 | cons c r =>
  have hc:cq c=true:=by simp only [List.all_cons,Kd] at h;exact h.1
  have hc2:=hc;simp only [cq,Kd,decide_eq_true_eq] at hc2;have hp:(10:Nat) ^ (c::r).length≤10 ^ 9:=Nat.pow_le_pow_right (by decide) hl;have hv:=xJ (c::r) 0 h (by
   rw [Nat.zero_add,Nat.one_mul];exact Nat.le_trans hp (by decide))
  have hb:∀ (l:aw) (a:Nat),l.all cq=true→jF a l+1≤(a+1)*10 ^ l.length:=by
   intro l;induction l with
   | nil=>intro a _;simp [jF]
   | cons x l ih =>
    intro a hx;simp only [List.all_cons,Kd,cq,decide_eq_true_eq] at hx;have:=ih (a*10+(x.toNat-48)) (by simpa [cq] using hx.2);have e:jF a (x::l)=jF (a*10+(x.toNat-48)) l:=rfl;rw [e];refine Nat.le_trans this ?_;rw [List.length_cons,Nat.pow_succ,Nat.mul_comm (10 ^ l.length) 10,← Nat.mul_assoc];exact Nat.mul_le_mul_right _ (by omega)
  have hlt:=hb (c::r) 0 h;rw [Nat.zero_add,Nat.one_mul] at hlt;have h9:(10:Nat) ^ 9=1000000000:=by decide
  rw [h9] at hp;refine ⟨?_,by omega⟩;rw [Lib.atoiAll_plain c r (by omega) (by omega)];have:Lib.parseMag (c::r) = .ok (jF 0 (c::r)):=by unfold Lib.parseMag;rw [if_neg (by simp)];exact hv
  rw [this];simp only [Lib.signless];rw [if_neg (by omega)]
theorem va (s:aw) (hs:s.length≤1000000):jP s=some (dP s):=by
 unfold jP;rw [ls];cases s with
 | nil=>rfl
 | cons c r =>
  simp only [Option.bind_some,dP];have hr:r.length≤1000000:=by simp at hs;omega
  cases hc:c==95 with
  | true =>
   simp only [cond_true];rw [az (by simp)];simp only [List.drop_succ_cons,List.drop_zero,lC];rw [az (by omega)];simp only [Option.bind_some];by_cases h9:r.length≤9
   ·by_cases h1:1≤r.length
    ·rw [Ki h1,Ki h9];simp only [Bool.true_and];have hne:r≠[]:=by intro e;subst e;simp at h1
     have hhd:(r.getD 0 0==48)=decide (r.head? = some 48):=by
      cases r with
      | nil=>exact absurd rfl hne
      | cons x l=>simp;rw [Bool.eq_iff_iff];simp
     have key:∀ v:Int,0<v→v≤9223372036854775807→gJ v=some (Lib.decDigits v.toNat)∨True:=fun _ _ _=>.inr trivial;by_cases hall:r.all cq=true
     ·obtain ⟨a1,a2⟩:=wv hne hall h9;simp only [oc,a1,cond_true];by_cases h48:r.head? = some 48
      ·
       rw [hhd,Ki h48];simp only [Bool.not_true,Bool.false_and];by_cases hz:jF 0 r=0
       ·rw [hz];rfl
       ·rw [Ki (by omega:(jF 0 r:Int)>0),Ki (by simp;omega:(((c::r).length:Nat):Int)≤10)];simp only [cond_true,gJ];have hlen:(Lib.itoa (jF 0 r:Int)).length≤21:=Lib.itoa_length_le _ (by omega) (by omega);rw [az ⟨by omega,by omega,by omega⟩];simp only [Option.bind_some,Kl];rw [Lib.itoa_nonneg,beq_eq_false_iff_ne];intro e;exact (rD (jF 0 r)).2.1 (by omega) (by rw [e];exact h48)
      ·obtain ⟨d1,d2⟩:=Hb r hall hne h48;rw [hhd,Kh h48,hall];simp only [Bool.not_false,Bool.true_and];rw [Ki (by omega:(jF 0 r:Int)>0),Ki (by simp;omega:(((c::r).length:Nat):Int)≤10)];simp only [cond_true,gJ];have hlen:(Lib.itoa (jF 0 r:Int)).length≤21:=Lib.itoa_length_le _ (by omega) (by omega);rw [az ⟨by omega,by omega,by omega⟩];simp only [Option.bind_some,Kl];rw [Lib.itoa_nonneg,d2];simp
     ·have hall:r.all cq=false:=by simpa using hall
      rw [hall];simp only [Bool.and_false];cases ha:Lib.atoiAll r with
      | ok v =>
       simp only [oc,ha,cond_true];by_cases hv:v>0
       ·rw [Ki hv,Ki (by simp;omega:(((c::r).length:Nat):Int)≤10)];simp only [cond_true,gJ];have hvb:v≤9223372036854775807:=by
         cases r with
         | nil=>exact absurd rfl hne
         | cons x l =>
          unfold Lib.atoiAll at ha;simp only at ha;split at ha
          ·cases ha
          ·cases ha
          ·split at ha
           ·cases ha
           ·split at ha
            ·cases ha
            ·rename_i h1 h2;simp only [Lib.NumEnd.ok.injEq] at ha;rw [← ha];split
             ·omega
             ·rename_i h3;have:=h1;simp only [h3,not_false_eq_true,true_and] at this;omega
        have hlen:(Lib.itoa v).length≤21:=Lib.itoa_length_le _ (by omega) hvb;rw [az ⟨by omega,hvb,by omega⟩];simp only [Option.bind_some,Kl];rw [beq_eq_false_iff_ne];intro e;have:(Lib.itoa v).all cq=true:=by unfold Lib.itoa;rw [if_neg (by omega)];exact (rD _).1
        rw [e,hall] at this;cases this
       ·rw [Kh hv];rfl
      | range=>simp [oc,ha]
      | _=>simp [oc,ha]
    ·have:r=[]:=List.eq_nil_of_length_eq_zero (by omega);subst this;rfl
   ·rw [Kh h9,Kh (by simp;omega:¬ (((c::r).length:Nat):Int)≤10)];simp only [cond_false,Bool.false_and,Bool.and_false];cases (oc r).2<;>cases decide ((oc r).1>0)<;>rfl
  | false =>
   simp only [cond_false];rw [gX (fun j=>isLet ((c::r).getD j 0)||(!(((j:Nat):Int)==0)&&cq ((c::r).getD j 0))) _ _ () (fun j u _ _=>by
    simp only [isLet,cq];generalize (c::r).getD j 0=x;by_cases h1:(x.toNat:Int)<97
    ·rw [Ki h1,Kh (show ¬ 97≤x.toNat by omega)];simp only [cond_true,Bool.false_and,Bool.false_or];cases ((j:Nat):Int)==0
     ·simp only [cond_false,Bool.not_false,Bool.true_and];by_cases h2:(x.toNat:Int)<48
      ·rw [Ki h2,Kh (show ¬ 48≤x.toNat by omega)];rfl
      ·rw [Kh h2,Ki (show 48≤x.toNat by omega)];by_cases h3:(x.toNat:Int)>57
       ·rw [Ki h3,Kh (show ¬ x.toNat≤57 by omega)];rfl
       ·rw [Kh h3,Ki (show x.toNat≤57 by omega)];rfl
     ·rfl
    ·rw [Kh h1,Ki (show 97≤x.toNat by omega)];simp only [cond_false,Bool.true_and];by_cases h2:(x.toNat:Int)>122
     ·rw [Ki h2,Kh (show ¬ x.toNat≤122 by omega),Kh (show ¬ x.toNat≤57 by omega),Kh (show ¬ (x.toNat:Int)<48 by omega),Ki (show (x.toNat:Int)>57 by omega)];cases ((j:Nat):Int)==0<;>simp [Sh.aft]
     ·rw [Kh h2,Ki (show x.toNat≤122 by omega)];simp [Sh.aft]),mf]
   have e:(List.range' 0 ((c::r).length-0)).all (fun j=>isLet ((c::r).getD j 0)||(!(((j:Nat):Int)==0)&&cq ((c::r).getD j 0)))=(isLet c&&r.all (fun b=>isLet b||cq b)):=by
    rw [show (c::r).length-0=r.length+1 by simp,List.range'_succ,List.all_cons];have e0:(isLet ((c::r).getD 0 0)||(!(((0:Nat):Int)==0)&&cq ((c::r).getD 0 0)))=isLet c:=by simp
    rw [e0];congr 1;rw [all_congr (q:=fun j=>(fun b=>isLet b||cq b) ((c::r).getD j 0)) _ _ (fun j h1 _=>by
     have:(((j:Nat):Int)==0)=false:=by simp;omega
     simp only [this,Bool.not_false,Bool.true_and])]
    have:=jS (fun b=>isLet b||cq b) 0 (c::r) 1;simpa using this
   rw [e];have e2:((c::r)==[])=false:=rfl;rw [e2];simp only [cond_false];by_cases h30:r.length≤29
   ·rw [Ki h30,Ki (by simp;omega:(((c::r).length:Nat):Int)≤30)];cases isLet c&&r.all (fun b=>isLet b||cq b)<;>rfl
   ·rw [Kh h30,Kh (by simp;omega:¬ (((c::r).length:Nat):Int)≤30)];cases isLet c&&r.all (fun b=>isLet b||cq b)<;>rfl
def Bd (n:Int):Bool:=decide (-1000000≤n)&&decide (n≤1000000)
theorem qX (n:Int):kH n=some (Bd n):=by
 unfold kH Bd;by_cases h:n ≥ -1000000
 ·rw [Ki h];rfl
 ·rw [Kh h];rfl
theorem oP (n:Int):iC n=some (Bd n):=by
 unfold iC Bd;by_cases h:n ≥ -1000000
 ·rw [Ki h];rfl
 ·rw [Kh h];rfl
def wM (l:Linear) (j:Nat):ak:=l.Terms.getD j ⟨[],0⟩
def jD (l:Linear) (j:Nat):Bool:=dP (wM l j).Var&&(!((wM l j).C==0)&&(Bd (wM l j).C&&(!decide (((j:Nat):Int)>0)||Op.bytesLess (wM l (j-1)).Var (wM l j).Var)))
def au (l:Linear):Bool:=(List.range' 0 (l.Terms.length-0)).all (jD l)&&(Bd l.Const&&decide (l.Terms.length≤12))
theorem zm {j:Nat} (h:0<j) (h2:j≤9223372036854775807):aD (((j:Nat):Int)-1)=((j-1:Nat):Int):=by rw [kj (by unfold tI;omega)];omega
theorem Hj {l:List ak} {n:Nat} (h:∀ t∈l,t.Var.length≤n) (j:Nat):(l.getD j ⟨[],0⟩).Var.length≤n:=by
 rw [Kb];cases h1:l[j]? with
 | none=>simp
 | some x=>exact h x (List.mem_of_getElem? h1)
theorem dW (l:Linear) (h1:l.Terms.length≤1000000) (h2:∀ t∈l.Terms,t.Var.length≤1000000):bU l=some (au l):=by
 unfold bU;rw [gX (jD l) _ _ () (fun j u _ hj=>by
  rw [va _ (Hj h2 j),qX];simp only [jD,wM,Option.bind_some];cases dP (l.Terms.getD j ⟨[],0⟩).Var
  ·rfl
  ·cases (l.Terms.getD j ⟨[],0⟩).C==0
   ·cases Bd (l.Terms.getD j ⟨[],0⟩).C
    ·rfl
    ·by_cases hp:0<j
     ·rw [Ki (show ((j:Nat):Int)>0 by omega),zm hp (by omega)];rw [az (by omega)];simp only [Int.toNat_natCast,cond_true,cond_false,Bool.not_true,Bool.false_or,Bool.true_and,Bool.not_false];cases Op.bytesLess (l.Terms.getD (j-1) ⟨[],0⟩).Var (l.Terms.getD j ⟨[],0⟩).Var<;>rfl
     ·rw [Kh (show ¬ ((j:Nat):Int)>0 by omega)];rfl
   ·rfl),mf,qX]
 unfold au;cases (List.range' 0 (l.Terms.length-0)).all (jD l)
 ·rfl
 ·cases Bd l.Const
  ·rfl
  ·simp only [cond_true,Option.bind_some,Bool.true_and,Kl];rw [decide_eq_decide];omega
theorem je (l:Linear):dY l=some (au l):=by
 unfold dY;rw [oP];unfold au;by_cases h12:l.Terms.length≤12
 ·rw [Kh (show ¬ ((l.Terms.length:Nat):Int)>12 by omega),Ki h12];rw [gX (jD l) _ _ () (fun j u _ hj=>by
   rw [wX,oP];simp only [jD,wM,Option.bind_some];cases dP (l.Terms.getD j ⟨[],0⟩).Var
   ·rfl
   ·cases (l.Terms.getD j ⟨[],0⟩).C==0
    ·cases Bd (l.Terms.getD j ⟨[],0⟩).C
     ·rfl
     ·by_cases hp:0<j
      ·rw [Ki (show ((j:Nat):Int)>0 by omega),zm hp (by omega)];rw [az (by omega)];simp only [Int.toNat_natCast,cond_true,cond_false,Bool.not_true,Bool.false_or,Bool.true_and,Bool.not_false];cases Op.bytesLess (l.Terms.getD (j-1) ⟨[],0⟩).Var (l.Terms.getD j ⟨[],0⟩).Var<;>rfl
      ·rw [Kh (show ¬ ((j:Nat):Int)>0 by omega)];rfl
    ·rfl),mf]
  cases (List.range' 0 (l.Terms.length-0)).all (jD l)<;>cases Bd l.Const<;>rfl
 ·rw [Ki (show ((l.Terms.length:Nat):Int)>12 by omega),Kh h12];cases (List.range' 0 (l.Terms.length-0)).all (jD l)<;>cases Bd l.Const<;>rfl
theorem Ii {a b:Nat}:decide (((a:Nat):Int)>(b:Int)) = !decide (a≤b):=by
 by_cases h:a≤b
 ·rw [Ki h,Kh (by omega)];rfl
 ·rw [Kh h,Ki (by omega)];rfl
theorem Fs {a b:Nat}:decide (((a:Nat):Int)≤(b:Int))=decide (a≤b):=by rw [decide_eq_decide];omega
theorem pZ (l:Linear):Linear.mk l.Const l.Terms=l:=rfl
def FG (l:Linear):Prop:=l.Terms.length≤1000000∧∀ t∈l.Terms,t.Var.length≤1000000
def Ka (s:Shape):Prop:=s.Row.length≤1000000∧∀ l∈s.Dims,FG l
theorem xW {body:Nat→Unit→Option (gj Unit Unit Int)} {fin:Nat→Unit→Unit} (m:Nat) (E:Nat→Prop):∀ (k i:Nat) (u:Unit),(∀ j u,i≤j→j<i+k→(j<m∧E j∧body j u=some (.go ()))∨(j<m∧¬ E j∧∃ x,x≠0∧body j u=some (.ret x))∨(m≤j∧body j u=some (.brk ()))) →
 (dO body fin k i u=some (.brk ())∧∀ j,i≤j→j<i+k→j<m→E j)∨(∃ x,x≠0∧dO body fin k i u=some (.ret x)∧∃ j,i≤j∧j<i+k∧j<m∧¬ E j)
 | 0,i,u,h=>.inl ⟨rfl,fun j h1 h2=>by omega⟩
 | k+1,i,u,h=>by
  rcases h i u (Nat.le_refl _) (by omega) with ⟨h1,h2,h3⟩ | ⟨h1,h2,x,h3,h4⟩ | ⟨h1,h2⟩
  ·rcases xW m E k (i+1) () (fun j u h1 h2=>h j u (by omega) (by omega)) with ⟨e,ha⟩ | ⟨x,hx,e,j,j1,j2,j3,j4⟩
   ·refine .inl ⟨by simp only [dO,h3,Option.bind_some,yO];exact e,fun j j1 j2 j3 => ?_⟩;by_cases hj:j=i
    ·subst hj;exact h2
    ·exact ha j (by omega) (by omega) j3
   ·exact .inr ⟨x,hx,by simp only [dO,h3,Option.bind_some,yO];exact e,j,by omega,by omega,j3,j4⟩
  ·exact .inr ⟨x,h3,by simp only [dO,h4,Option.bind_some,yO],i,Nat.le_refl _,by omega,h1,h2⟩
  ·exact .inl ⟨by simp only [dO,h2,Option.bind_some,yO],fun j j1 j2 j3=>by omega⟩
theorem FY {α:Type} (d:α) {x y:List α} (hl:x.length=y.length) (h:∀ j,j<x.length→x.getD j d=y.getD j d):x=y:=by refine List.ext_getElem hl fun j h1 h2 => ?_;have:=h j h1;simpa [Kb,Kc h1,Kc h2] using this
theorem IC {a b:Nat}:(((a:Nat):Int)==((b:Nat):Int))=decide (a=b):=by rw [Bool.eq_iff_iff];simp only [beq_iff_eq,decide_eq_true_eq];omega
theorem E8 (x y:ak):((x.Var==y.Var)&&((x.C==y.C)&&true))=decide (x=y):=by cases x;cases y;rw [Bool.eq_iff_iff];simp
theorem v7 (x y:Linear):kb x y=some (decide (x=y)):=by
 unfold kb jJ;have key:=xW (fin:=fun _ _=>()) (body:=fun i147 s146 =>
  bif decide (((i147:Nat):Int)<((y.Terms.length:Nat):Int)) then (
   ((
    bif (Op.bytesLess ((x.Terms.getD i147 ⟨[],0⟩).Var) ((y.Terms.getD i147 ⟨[],0⟩).Var)) then (
     some (.ret (.ret (-1)))
    ) else (
     bif (((x.Terms.getD i147 ⟨[],0⟩).Var)==((y.Terms.getD i147 ⟨[],0⟩).Var)) then (
      bif decide (((x.Terms.getD i147 ⟨[],0⟩).C)<((y.Terms.getD i147 ⟨[],0⟩).C)) then (
       some (.ret (.ret (-1)))
      ) else (
       bif ((((x.Terms.getD i147 ⟨[],0⟩).Var)==((y.Terms.getD i147 ⟨[],0⟩).Var))&&((((x.Terms.getD i147 ⟨[],0⟩).C)==((y.Terms.getD i147 ⟨[],0⟩).C))&&true)) then (
        some (.brk ())
       ) else (
        some (.ret (.ret 1))
       )
      )
     ) else (
      bif ((((x.Terms.getD i147 ⟨[],0⟩).Var)==((y.Terms.getD i147 ⟨[],0⟩).Var))&&((((x.Terms.getD i147 ⟨[],0⟩).C)==((y.Terms.getD i147 ⟨[],0⟩).C))&&true)) then (
       some (.brk ())
      ) else (
       some (.ret (.ret 1))
      )
     )
    )
   ):Option (Out Unit (gj Unit Unit Int))).bind (Sh.aft fun u274 =>
    some (.go ())
   )
  ) else (
   some (.brk ())
  )) y.Terms.length (fun j=>x.Terms.getD j ⟨[],0⟩=y.Terms.getD j ⟨[],0⟩) (x.Terms.length-0) 0 () (fun j u _ _=>by
   by_cases hj:j<y.Terms.length
   ·rw [Ki (show ((j:Nat):Int)<((y.Terms.length:Nat):Int) by omega),E8];generalize x.Terms.getD j ⟨[],0⟩=a;generalize y.Terms.getD j ⟨[],0⟩=b;by_cases hab:a=b
    ·subst hab;refine .inl ⟨hj,rfl,?_⟩;have h1:Op.bytesLess a.Var a.Var=false:=by
      have:∀ l:aw,Op.bytesLess l l=false:=by
       intro l;induction l with
       | nil=>rfl
       | cons x l ih=>simp [Op.bytesLess,ih]
      exact this _
     rw [h1];simp [Sh.aft]
    ·refine .inr (.inl ⟨hj,hab,?_⟩);rw [Kh hab];cases Op.bytesLess a.Var b.Var with
     | true=>exact ⟨-1,by decide,rfl⟩
     | false =>
      cases hv:a.Var==b.Var with
      | true =>
       cases decide (a.C<b.C) with
       | true=>exact ⟨-1,by decide,rfl⟩
       | false=>exact ⟨1,by decide,rfl⟩
      | false=>exact ⟨1,by decide,rfl⟩
   ·rw [Kh (show ¬ ((j:Nat):Int)<((y.Terms.length:Nat):Int) by omega)];exact .inr (.inr ⟨by omega,rfl⟩))
 rcases key with ⟨e,ha⟩ | ⟨r,hr,e,j,_,j2,j3,j4⟩
 ·rw [e];simp only [Option.bind_some,Sh.aft];rw [IC];cases x with | mk a s=>cases y with | mk b t =>
  simp only at ha ⊢;by_cases hl:s.length=t.length
  ·have hst:s=t:=FY ⟨[],0⟩ hl fun j hj=>ha j (by omega) (by omega) (by omega);subst hst;rw [Kh (show ¬ ((s.length:Nat):Int)<((s.length:Nat):Int) by omega),Ki (rfl:s.length=s.length)];simp only [cond_true,cond_false];by_cases h1:a<b
   ·rw [Ki h1];have:¬ a=b:=by omega
    simp [this]
   ·rw [Kh h1];by_cases h2:a>b
    ·rw [Ki h2];have:¬ a=b:=by omega
     simp [this]
    ·rw [Kh h2];have:a=b:=by omega
     simp [this]
  ·rw [Kh hl];have hne:¬ (Linear.mk a s=Linear.mk b t):=fun e=>hl (by simp at e;rw [e.2]);rw [Kh hne];by_cases h1:s.length<t.length
   ·rw [Ki (show ((s.length:Nat):Int)<((t.length:Nat):Int) by omega)];rfl
   ·rw [Kh (show ¬ ((s.length:Nat):Int)<((t.length:Nat):Int) by omega),Ki (show ((s.length:Nat):Int)>((t.length:Nat):Int) by omega)];rfl
 ·rw [e];simp only [Option.bind_some,Sh.aft];have hne:¬ (x=y):=fun e=>j4 (by rw [e]);rw [Kh hne];simpa using hr
abbrev rB:Bind:=⟨0,[],⟨0,[]⟩,⟨[],[]⟩,[]⟩
theorem JO (b:Bind):Bind.mk b.Kind b.Var b.Dim b.Row b.Elem=b:=rfl
def kf (k:Int) (v:aw) (b:Bind):Bool:=b.Kind==k&&b.Var==v
theorem EI (l:List Bind) (p:Bind→Bool):∀ x:Option Nat,(match x with | some j=>((j:Nat):Int) | none => -1)=idxOf p l →
 ((some (match x with | some j=>Out.ret ((j:Nat):Int) | none=>Out.brk ()):Option (Out Unit Int)).bind (Sh.aft fun _=>some (-1)))=some (idxOf p l)
 | none,hx=>by rw [← hx];rfl
 | some j,hx=>by rw [← hx];rfl
def okB (b:Bind):Prop:=b.Var.length≤1000000∧FG b.Dim∧Ka b.Row
theorem F8 {l:List Bind} (h:∀ b∈l,okB b) (j:Nat):okB (l.getD j rB):=by
 rw [Kb];cases h1:l[j]? with
 | none=>exact ⟨by simp,⟨by simp,fun t ht=>by simp at ht⟩,⟨by simp,fun t ht=>by simp at ht⟩⟩
 | some x=>exact h x (List.mem_of_getElem? h1)
theorem uf (l:Linear) (h:l.Terms.length≤1000000):iJ l=some (l.Terms.map (·.Var)):=by
 unfold iJ;obtain ⟨s',e1,e2,_⟩:=yp (fin:=fun _ s=>s) (body:=fun i18 s17 =>
  bP ((s17.length+1)*16≤140737488355328) <|
  some (.go (s17++[((l.Terms.getD i18 ⟨[],0⟩).Var)]))) (ε:=List aw) (ρ:=Empty) (fun j s=>s++[(l.Terms.getD j ⟨[],0⟩).Var]) (fun j s=>s.length=j) (l.Terms.length-0) 0 [] rfl (fun j s _ hj hI=>by refine ⟨by rw [az (by omega)],by simp [hI]⟩)
 rw [e1];simp only [Option.bind_some,dI,Kl];rw [e2];have:=nQ (fun (s:List aw) (t:ak)=>s++[t.Var]) ⟨[],0⟩ l.Terms 0 [];rw [this];simp only [List.drop_zero];have gen:∀ (ts:List ak) (s:List aw),ts.foldl (fun s t=>s++[t.Var]) s=s++ts.map (·.Var):=by
  intro ts;induction ts with
  | nil=>intro s;simp
  | cons t ts ih=>intro s;simp [ih]
 rw [gen];rfl
theorem bE {l:Linear} (h:au l=true):l.Terms.length≤12:=by simp only [au,Kd,decide_eq_true_eq] at h;exact h.2.2
end Go.Proofs.YtlhcekghjfjajaaGreatDoor
namespace Go.Sh
theorem lG {α:Type} [DecidableEq α]:∀ (l l':List α),l.Nodup→(∀ x∈l,x∈l')→l.length≤l'.length
 | [],l',_,_=>by simp
 | a::l,l',h,hs=>by
  rw [List.nodup_cons] at h;have ha:a∈l':=hs a (by simp);have ih:=lG l (l'.erase a) h.2 (fun x hx=>by have hne:x≠a:=fun e=>h.1 (e ▸ hx);exact (List.mem_erase_of_ne hne).2 (hs x (by simp [hx])))
  rw [List.length_erase_of_mem ha] at ih;have:0<l'.length:=List.length_pos_of_mem ha;simp only [List.length_cons];omega
theorem HD {V σ ε β:Type} {m:List (aw×V)} {body:aw×V→σ→Option (gj σ ε β)} {K:σ→Prop} {J:β→Prop} (I:List Nat→σ→Prop) (g:σ→aw×V→σ)
 (hstep:∀ seen s i (h:i<m.length),seen.Nodup→i ∉ seen→(∀ j∈seen,j<m.length)→I seen s→body m[i] s=some (.go (g s m[i]))∧I (seen++[i]) (g s m[i]))
 (hend:∀ seen s,seen.Nodup→(∀ i,i<m.length→i∈seen)→(∀ i∈seen,i<m.length)→I seen s→K s) :
 ∀ (n:Nat) (seen:List Nat) (s:σ),seen.Nodup→(∀ i∈seen,i<m.length)→n+seen.length=m.length→I seen s→MR m body K J n seen s
 | 0,seen,s,h1,h2,h3,hI=>by
  have hall:∀ i,i<m.length→i∈seen:=by
   intro i hi;refine Classical.byContradiction fun hn => ?_;have:=lG (i::seen) (List.range m.length) (List.nodup_cons.2 ⟨hn,h1⟩) (fun x hx=>by
    rcases List.mem_cons.1 hx with rfl | hx
    ·simpa using hi
    ·simpa using h2 x hx)
   simp at this;omega
  exact ⟨hall,hend seen s h1 hall h2 hI⟩
 | n+1,seen,s,h1,h2,h3,hI=>by
  refine ⟨?_,fun i hi hn => ?_⟩
  ·refine Classical.byContradiction fun hn => ?_;have:=lG (List.range m.length) seen List.nodup_range (fun x hx=>Classical.byContradiction fun hx2=>hn ⟨x,by simpa using hx,hx2⟩);simp at this;omega
  ·obtain ⟨e1,e2⟩:=hstep seen s i hi h1 hn h2 hI;refine ⟨_,e1,?_⟩;have hnd:(seen++[i]).Nodup:=by
    rw [List.nodup_append];exact ⟨h1,by simp,fun a ha b hb=>by
     have:b=i:=by simpa using hb
     subst this;intro e;subst e;exact hn ha⟩
   exact HD I g hstep hend n (seen++[i]) _ hnd (fun j hj=>by
    rcases List.mem_append.1 hj with hj | hj
    ·exact h2 j hj
    ·have:j=i:=by simpa using hj
     subst this;exact hi) (by simp;omega) e2
def wH (x y:aw):Bool:=decide (x≤y)
theorem xA (a b c:aw) (h1:wH a b=true) (h2:wH b c=true):wH a c=true:=by simp only [wH,decide_eq_true_eq] at *;exact List.le_trans h1 h2
theorem xN (a b:aw):(wH a b||wH b a)=true:=by simp only [wH,Bool.or_eq_true,decide_eq_true_eq];exact List.le_total a b
theorem vP (a b:aw) (h1:wH a b=true) (h2:wH b a=true):a=b:=by simp only [wH,decide_eq_true_eq] at *;exact List.le_antisymm h1 h2
theorem pd (l:List aw):(Go.Ab.sortS l).Pairwise (fun a b=>wH a b=true):=List.pairwise_mergeSort xA xN l
theorem rY (l:List aw):(Go.Ab.sortS l).Perm l:=List.mergeSort_perm l _
theorem CK {l r:List aw} (hs:r.Pairwise (fun a b=>wH a b=true)) (hp:r.Perm l):Go.Ab.sortS l=r :=
 List.Perm.eq_of_pairwise (fun a b _ _=>vP a b) (pd l) hs ((rY l).trans hp.symm)
theorem vv {l r:List aw} (h:l.Perm r):Go.Ab.sortS l=Go.Ab.sortS r:=CK (pd r) ((rY r).trans h.symm)
def B7 (x:aw):List aw→List aw
 | []=>[x]
 | y::l=>bif wH x y then x::y::l else y::B7 x l
def j9:List aw→List aw
 | []=>[]
 | x::l=>B7 x (j9 l)
theorem sk (x:aw):∀ l,(B7 x l).Perm (x::l)
 | []=>.refl _
 | y::l=>by
  simp only [B7];cases wH x y
  ·exact ((sk x l).cons y).trans (.swap _ _ _)
  ·exact .refl _
theorem tq (x:aw):∀ {l:List aw},l.Pairwise (fun a b=>wH a b=true)→(B7 x l).Pairwise (fun a b=>wH a b=true)
 | [],_=>by simp [B7]
 | y::l,h=>by
  rw [List.pairwise_cons] at h;simp only [B7];cases hxy:wH x y
  ·simp only [cond_false,List.pairwise_cons];have hyx:wH y x=true:=by have:=xN x y;rw [hxy] at this;simpa using this
   refine ⟨fun a ha => ?_,tq x h.2⟩;rcases List.mem_cons.1 ((sk x l).mem_iff.1 ha) with rfl | ha
   ·exact hyx
   ·exact h.1 a ha
  ·simp only [cond_true,List.pairwise_cons];refine ⟨fun a ha => ?_,h⟩;rcases List.mem_cons.1 ha with rfl | ha
   ·exact hxy
   ·exact xA _ _ _ hxy (h.1 a ha)
theorem gq:∀ l,(j9 l).Perm l
 | []=>.refl _
 | x::l=>(sk x _).trans ((gq l).cons x)
theorem nF:∀ l,(j9 l).Pairwise (fun a b=>wH a b=true)
 | []=>List.Pairwise.nil
 | x::l=>tq x (nF l)
theorem zo (l:List aw):Go.Ab.sortS l=j9 l:=CK (nF l) (gq l)
def sF:List aw→Bool
 | []=>true
 | x::l => !(l.any fun y=>y==x)&&sF l
theorem xg:∀ {l:List aw},sF l=true→l.Nodup
 | [],_=>List.nodup_nil
 | x::l,h=>by simp only [sF,Kd,Bool.not_eq_true',List.any_eq_false,beq_iff_eq] at h;exact List.nodup_cons.2 ⟨fun hm=>h.1 x hm rfl,xg h.2⟩
end Go.Sh
namespace Go.Proofs.YtlhcekghjfjajaaGreatDoor
open Go.Ab Go.Sh
def bp (m:List (aw×Int)):List aw:=(m.filter fun e => !(e.2==0)).map (·.1)
def nZ (n:Int) (m:List (aw×Int)) (names:List aw):Linear×Int :=
 bif au (Linear.mk n (names.map fun k=>ak.mk k (bn 0 k m))) then (Linear.mk n (names.map fun k=>ak.mk k (bn 0 k m)),0) else (Linear.mk 0 [],3)
def vO (m:List (aw×Int)):Bool:=sF (m.map (·.1))&&(decide (m.length≤1000)&&m.all fun e=>decide (e.1.length≤1000000))
theorem FO (m:List (aw×Int)) (y:List aw) (hy:y.length≤1000000):(dO (σ:=(List ak)) (ε:=(List ak)) (ρ:=Empty) (fun i117 s116 =>
 bP ((s116.length+1)*24≤140737488355328) <|
 some (.go (s116++[(ak.mk (y.getD i117 []) (bn 0 (y.getD i117 []) m))]))
 ) (fun i117 s116=>s116) (y.length-0) 0 [])=some (.brk (y.map fun k=>ak.mk k (bn 0 k m))):=by
 obtain ⟨s',e1,e2,_⟩:=yp (fin:=fun _ s=>s) (body:=fun i117 s116 =>
  bP ((s116.length+1)*24≤140737488355328) <|
  some (.go (s116++[(ak.mk (y.getD i117 []) (bn 0 (y.getD i117 []) m))]))) (ε:=List ak) (ρ:=Empty) (fun j s=>s++[(fun k=>ak.mk k (bn 0 k m)) (y.getD j [])]) (fun j s=>s.length=j) (y.length-0) 0 [] rfl (fun j s _ hj hI=>⟨by rw [az (by omega)],by simp [hI]⟩)
 rw [e1,e2];have:=nQ (fun (s:List ak) (k:aw)=>s++[(fun k=>ak.mk k (bn 0 k m)) k]) [] y 0 [];rw [this];have gen:∀ (ts:List aw) (s:List ak),ts.foldl (fun s k=>s++[(fun k=>ak.mk k (bn 0 k m)) k]) s=s++ts.map (fun k=>ak.mk k (bn 0 k m)):=by
  intro ts;induction ts with
  | nil=>intro s;simp
  | cons t ts ih=>intro s;simp [ih]
 rw [List.drop_zero,gen];rfl
theorem Fb (n:Int) (m:List (aw×Int)) (hm:vO m=true) (s:List aw) (hp:s.Perm (bp m)) :
 ((ka s).bind fun y97 =>
 (dO (σ:=(List ak)) (ε:=(List ak)) (ρ:=Empty) (fun i117 s116 =>
  bP ((s116.length+1)*24≤140737488355328) <|
  some (.go (s116++[(ak.mk (y97.getD i117 []) (bn 0 (y97.getD i117 []) m))]))
 ) (fun i117 s116=>s116) (y97.length-0) 0 []).bind <| dI fun u148 =>
 (bU (Linear.mk n u148)).bind fun y151 =>
 bif y151 then (
  some ((Linear.mk n u148),0)
 ) else (
  some ((Linear.mk 0 []),3)
 ))=some (nZ n m (j9 (bp m))):=by
 simp only [vO,Kd,decide_eq_true_eq,Ko] at hm;obtain ⟨_,hl,hk⟩:=hm;have hlen:(bp m).length≤m.length:=by unfold bp;rw [Kj];exact List.length_filter_le _ _
 have hs:s.length≤1000:=by rw [hp.length_eq];omega
 unfold ka;rw [az (by omega)];simp only [Option.bind_some];rw [vv hp,zo];have hsi:(j9 (bp m)).length≤1000:=by rw [(gq _).length_eq];omega
 rw [FO m _ (by omega)];simp only [Option.bind_some,dI];rw [dW _ (by simp;omega) (fun t ht=>by obtain ⟨k,hk1,rfl⟩:=List.mem_map.1 ht;have hk2:=(gq _).mem_iff.1 hk1;obtain ⟨e,he,rfl⟩:=List.mem_map.1 hk2;exact hk e (List.mem_filter.1 he).1)]
 simp only [Option.bind_some,nZ];cases au (Linear.mk n ((j9 (bp m)).map fun k=>ak.mk k (bn 0 k m)))<;>rfl
theorem Gl {β:Type} (m:List (aw×Int)) (hm:vO m=true) (k:List aw→Option β) (v:β) (hk:∀ s,s.Perm (bp m)→k s=some v) :
 kP (σ:=(List aw)) (ε:=Empty) (β:=β) m (fun e164 s94 =>
 bif (e164.2==0) then (
  some (.go s94)
 ) else (
  bP ((s94.length+1)*16≤140737488355328) <|
  some (.go (s94++[e164.1]))
 )) [] k=some v:=by
 simp only [vO,Kd,decide_eq_true_eq,Ko] at hm;obtain ⟨hnd,hl,_⟩:=hm;have hnd:=xg hnd;have hinj:∀ i j (hi:i<m.length) (hj:j<m.length),m[i].1=m[j].1→i=j:=by
  intro i j hi hj e;have h1:(m.map (·.1))[i]'(by simpa using hi)=(m.map (·.1))[j]'(by simpa using hj):=by simpa using e
  exact (List.getElem_inj hnd).1 h1
 refine pb (HD (fun seen s=>s.Nodup∧s.length≤seen.length∧∀ x,x∈s↔∃ i,i∈seen∧∃ h:i<m.length,m[i].1=x∧m[i].2≠0) (fun s e=>bif e.2==0 then s else s++[e.1]) ?_ ?_ m.length [] [] List.nodup_nil (fun i hi=>by simp at hi) (by simp) ⟨List.nodup_nil,by simp,fun x=>by simp⟩)
 ·rintro seen s i hi hs1 hs2 hs3 ⟨i1,i2,i3⟩;have hsl:seen.length≤m.length:=by have:=lG seen (List.range m.length) hs1 (fun x hx=>by simpa using hs3 x hx);simpa using this
  cases hz:m[i].2==0 with
  | true =>
   have hz':m[i].2=0:=by simpa using hz
   refine ⟨rfl,i1,by simp;omega,fun x => ?_⟩;simp only [cond_true];rw [i3];constructor
   ·rintro ⟨j,h1,h2⟩;exact ⟨j,by simp [h1],h2⟩
   ·rintro ⟨j,h1,h2,h3,h4⟩;rcases List.mem_append.1 h1 with h1 | h1
    ·exact ⟨j,h1,h2,h3,h4⟩
    ·have:j=i:=by simpa using h1
     subst this;exact absurd hz' h4
  | false =>
   have hz':m[i].2≠0:=by simpa using hz
   simp only [cond_false];rw [az (by omega)];refine ⟨rfl,?_,by simp;omega,fun x => ?_⟩
   ·rw [List.nodup_append];refine ⟨i1,by simp,fun a ha b hb => ?_⟩;have hb:b=m[i].1:=by simpa using hb
    subst hb;intro e;obtain ⟨j,h1,h2,h3,_⟩:=(i3 a).1 ha;exact hs2 (hinj j i h2 hi (h3.trans e) ▸ h1)
   ·rw [List.mem_append,i3];constructor
    ·rintro (⟨j,h1,h2⟩ | h)
     ·exact ⟨j,by simp [h1],h2⟩
     ·have h:x=m[i].1:=by simpa using h
      exact ⟨i,by simp,hi,h.symm,hz'⟩
    ·rintro ⟨j,h1,h2,h3,h4⟩;rcases List.mem_append.1 h1 with h1 | h1
     ·exact .inl ⟨j,h1,h2,h3,h4⟩
     ·have:j=i:=by simpa using h1
      subst this;exact .inr (by simp [h3])
 ·rintro seen s hs1 hall hlt ⟨i1,i2,i3⟩;refine hk s ?_;have hn2:(bp m).Nodup:=by unfold bp;exact (List.Sublist.map _ List.filter_sublist).nodup hnd
  refine (List.perm_ext_iff_of_nodup i1 hn2).2 fun x => ?_;rw [i3];unfold bp;simp only [List.mem_map,List.mem_filter,Bool.not_eq_true',beq_eq_false_iff_ne];constructor
  ·rintro ⟨j,_,h2,h3,h4⟩;exact ⟨m[j],⟨List.getElem_mem h2,h4⟩,h3⟩
  ·rintro ⟨e,⟨h1,h2⟩,h3⟩;obtain ⟨j,hj,rfl⟩:=List.getElem_of_mem h1;exact ⟨j,hall j hj,hj,h3,h2⟩
theorem w7 (n:Int) (m:List (aw×Int)) (hm:vO m=true):dZ n m=some (nZ n m (j9 (bp m))):=by unfold dZ;exact Gl m hm _ _ fun s hp=>Fb n m hm s hp
end Go.Proofs.YtlhcekghjfjajaaGreatDoor
namespace Go.Sh
section
variable {α σ ε ρ:Type}
def dq (g:α→σ→gj σ ε ρ) (fin:σ→ε):List α→σ→Out ε ρ
 | [],s=>.brk (fin s)
 | x::l,s=>match g x s with | .go s'=>dq g fin l s' | .brk e=>.brk e | .ret r=>.ret r
theorem wh {body:Nat→σ→Option (gj σ ε ρ)} {fin:Nat→σ→ε} {f:σ→ε} (d:α) (l:List α) (g:α→σ→gj σ ε ρ) (I:Nat→σ→Prop) (hf:∀ i s,fin i s=f s) :
 ∀ (i:Nat) (s:σ),I i s→(∀ j s,i≤j→j<l.length→I j s→body j s=some (g (l.getD j d) s)∧∀ s',g (l.getD j d) s = .go s'→I (j+1) s') →
 dO body fin (l.length-i) i s=some (dq g f (l.drop i) s):=by
 intro i s hI h;by_cases hi:i<l.length
 ·obtain ⟨k,hk⟩:∃ k,l.length-i=k+1:=⟨l.length-i-1,by omega⟩;obtain ⟨h1,h2⟩:=h i s (Nat.le_refl _) hi hI;have hx:l.getD i d=l[i]:=by simp [Kb,Kc hi]
  rw [hx] at h1 h2;rw [hk,List.drop_eq_getElem_cons hi];simp only [dO,h1,Option.bind_some,dq];cases hg:g l[i] s with
  | go s' =>
   have ih:=wh d l g I hf (i+1) s' (h2 s' hg) (fun j s h1 h2=>h j s (by omega) h2);rw [show l.length-(i+1)=k by omega] at ih;exact ih
  | brk e=>rfl
  | ret r=>rfl
 ·rw [show l.length-i=0 by omega,List.drop_eq_nil_of_le (by omega)];simp [dO,dq,hf]
 termination_by i=>l.length-i
theorem dx {body:Nat→σ→Option (gj σ ε ρ)} {fin:Nat→σ→ε} {f:σ→ε} (d:α) (l:List α) (g:α→σ→gj σ ε ρ) (I:Nat→σ→Prop) (hf:∀ i s,fin i s=f s) (s:σ) (hI:I 0 s)
 (h:∀ j s,j<l.length→I j s→body j s=some (g (l.getD j d) s)∧∀ s',g (l.getD j d) s = .go s'→I (j+1) s') :
 dO body fin (l.length-0) 0 s=some (dq g f l s):=by
 have:=wh d l g I hf 0 s hI (fun j s _ h1 h2=>h j s h1 h2);simpa using this
theorem pz (p:α→Bool) (d:α):∀ l:List α,0≤idxOf p l→(idxOf p l).toNat<l.length∧p (l.getD (idxOf p l).toNat d)=true
 | [],h=>by simp [idxOf] at h
 | x::l,h=>by
  cases hp:p x with
  | true=>simp [idxOf,hp]
  | false =>
   have hge:=qR p l;simp only [idxOf,hp,cond_false] at h ⊢;by_cases hm:idxOf p l = -1
   ·rw [hm] at h;simp at h
   ·have e:(idxOf p l == -1)=false:=by simpa using hm
    rw [e,cond_false];obtain ⟨h1,h2⟩:=pz p d l (by omega);have e2:(idxOf p l+1).toNat=(idxOf p l).toNat+1:=by omega
    rw [e2];exact ⟨by simp;omega,by simpa using h2⟩
theorem Ga (p:α→Bool) (d:α) (l:List α):idxOf p l<(l.length:Int):=by
 by_cases h:0≤idxOf p l
 ·have:=(pz p d l h).1;omega
 ·omega
end
end Go.Sh
namespace Go.Proofs.YtlhcekghjfjajaaGreatDoor
open Go.Ab Go.Sh
def bW (f:aw→Int):List ak→Int
 | []=>0
 | t::ts=>t.C*f t.Var+bW f ts
def ln (f:aw→Int) (l:Linear):Int:=l.Const+bW f l.Terms
theorem prod_bound {a b A B:Int} (h1 : -A≤a) (h2:a≤A) (h3 : -B≤b) (h4:b≤B) : -(A*B)≤a*b∧a*b≤A*B:=by
 have hA:0≤A:=by omega
 have hB:0≤B:=by omega
 have hn:(a*b).natAbs≤A.natAbs*B.natAbs:=by rw [Int.natAbs_mul];exact Nat.mul_le_mul (by omega) (by omega)
 have e:((A.natAbs*B.natAbs:Nat):Int)=A*B:=by rw [Int.natCast_mul];congr 1<;>omega
 omega
theorem cA {l:Linear} (h:au l=true):∀ t∈l.Terms,(-1000000≤t.C∧t.C≤1000000)∧dP t.Var=true:=by
 intro t ht;obtain ⟨j,hj,rfl⟩:=List.getElem_of_mem ht;simp only [au,Kd,Ko] at h;have:=h.1 j (by simpa using hj);have e:wM l j=l.Terms[j]:=by simp [wM,Kb,Kc hj]
 simp only [jD,e,Kd,Bd,decide_eq_true_eq] at this;exact ⟨this.2.2.1,this.1⟩
theorem j6 {l:Linear} (h:au l=true) : -1000000≤l.Const∧l.Const≤1000000:=by simp only [au,Kd,Bd,decide_eq_true_eq] at h;exact h.2.1
theorem gW {s:aw} (h:dP s=true):s.length≤30:=by
 cases s with
 | nil=>simp
 | cons c r =>
  simp only [dP] at h;cases hc:c==95
  ·simp only [hc,cond_false,Kd,decide_eq_true_eq] at h;simp;omega
  ·simp only [hc,cond_true,Kd,decide_eq_true_eq] at h;simp;omega
theorem kG {l:Linear} (h:au l=true):FG l :=
 ⟨by have:=bE h;omega,fun t ht=>by have:=gW (cA h t ht).2;omega⟩
end Go.Proofs.YtlhcekghjfjajaaGreatDoor
namespace Go.Sh
def ky (f:aw→Int):List (aw×Int)→Int
 | []=>0
 | (k,c)::m=>c*f k+ky f m
theorem vH (f:aw→Int) (x:aw) (v:Int):∀ m:List (aw×Int),ky f (bI x v m)=ky f m+(v-bn 0 x m)*f x
 | []=>by simp [bI,bn,ky]
 | (k,u)::m=>by
  by_cases h:k=x
  ·subst h;simp only [bI,bn,if_pos,ky];rw [Int.sub_mul];omega
  ·simp only [bI,bn,if_neg h,ky];rw [vH f x v m];omega
theorem w9 (x y:aw) (v:Int):∀ m:List (aw×Int),bn 0 y (bI x v m)=if x=y then v else bn 0 y m
 | []=>by simp [bI,bn]
 | (k,u)::m=>by
  by_cases h:k=x
  ·subst h;simp only [bI,bn,if_pos];by_cases h2:k=y
   ·simp [h2]
   ·simp [h2]
  ·simp only [bI,if_neg h,bn];rw [w9 x y v m];by_cases h2:k=y
   ·subst h2;simp [Ne.symm h]
   ·simp [h2]
theorem jq (x:aw) (v:Int):∀ m:List (aw×Int),(bI x v m).map (·.1)=if x∈m.map (·.1) then m.map (·.1) else m.map (·.1)++[x]
 | []=>by simp [bI]
 | (k,u)::m=>by
  by_cases h:k=x
  ·subst h;simp [bI]
  ·simp only [bI,if_neg h,List.map_cons,jq x v m,List.mem_cons,Ne.symm h,false_or];split<;>simp
structure Sm (B:Int) (K:Nat) (m:List (aw×Int)):Prop where
 bd:∀ x,-B≤bn 0 x m∧bn 0 x m≤B
 len:m.length≤K
 nd:(m.map (·.1)).Nodup
 key:∀ x∈m.map (·.1),x.length≤1000000
theorem Sm.nil:Sm 0 0 []:=⟨fun x=>by simp [bn],by simp,by simp,by simp⟩
theorem Sm.put {B:Int} {K:Nat} {m:List (aw×Int)} (h:Sm B K m) {x:aw} {v:Int} {B':Int} (hx:x.length≤1000000) (hB:B≤B') (h1 : -B'≤v) (h2:v≤B'):Sm B' (K+1) (bI x v m):=by
 refine ⟨fun y => ?_,?_,?_,fun y hy => ?_⟩
 ·rw [w9];split
  ·exact ⟨h1,h2⟩
  ·have:=h.bd y;omega
 ·have e:=congrArg List.length (jq x v m);have:=h.len;split at e<;>simp at e<;>omega
 ·rw [jq];split
  ·exact h.nd
  ·rename_i hn;rw [List.nodup_append];exact ⟨h.nd,by simp,fun a ha b hb=>by
    have:b=x:=by simpa using hb
    subst this;intro e;subst e;exact hn ha⟩
 ·rw [jq] at hy;split at hy
  ·exact h.key y hy
  ·rcases List.mem_append.1 hy with hy | hy
   ·exact h.key y hy
   ·have:y=x:=by simpa using hy
    subst this;exact hx
theorem Sm.mono {B B':Int} {K K':Nat} {m:List (aw×Int)} (h:Sm B K m) (h1:B≤B') (h2:K≤K'):Sm B' K' m :=
 ⟨fun x=>by have:=h.bd x;omega,by have:=h.len;omega,h.nd,h.key⟩
theorem xt:∀ {l:List aw},l.Nodup→sF l=true
 | [],_=>rfl
 | x::l,h=>by rw [List.nodup_cons] at h;simp only [sF,Kd,Bool.not_eq_true',List.any_eq_false,beq_iff_eq];exact ⟨fun y hy e=>h.1 (e ▸ hy),xt h.2⟩
end Go.Sh
namespace Go.Proofs.YtlhcekghjfjajaaGreatDoor
open Go.Ab Go.Sh
theorem GH {B:Int} {K:Nat} {m:List (aw×Int)} (h:Sm B K m) (hK:K≤1000):vO m=true:=by simp only [vO,Kd,decide_eq_true_eq,Ko];refine ⟨xt h.nd,by have:=h.len;omega,fun e he=>h.key e.1 (List.mem_map.2 ⟨e,he,rfl⟩)⟩
def AF (k:Int) (t:ak) (m:List (aw×Int)):List (aw×Int):=bI t.Var (aD ((bn 0 t.Var m)+(aD (k*t.C)))) m
def Be (l:Linear) (k:Int) (n:Int) (m:List (aw×Int)):Int×List (aw×Int):=(aD (n+aD (k*l.Const)),l.Terms.foldl (fun m t=>AF k t m) m)
theorem ra (l:Linear) (k n:Int) (m:List (aw×Int)):gg l k n m=some (Be l k n m):=by
 unfold gg;obtain ⟨s',e1,e2,_⟩:=yp (σ:=List (aw×Int)) (ε:=(Int×(List (aw×Int)))) (ρ:=(Int×(List (aw×Int)))) (fin:=fun _ s41=>((aD (n+(aD (k*l.Const)))),s41))
  (body:=fun i42 s41 =>
  some (.go (bI ((l.Terms.getD i42 ⟨[],0⟩).Var) (aD ((bn 0 ((l.Terms.getD i42 ⟨[],0⟩).Var) s41)+(aD (k*((l.Terms.getD i42 ⟨[],0⟩).C))))) s41)))
  (fun j m=>AF k (l.Terms.getD j ⟨[],0⟩) m) (fun _ _=>True) (l.Terms.length-0) 0 m trivial (fun j s _ _ _=>⟨rfl,trivial⟩)
 rw [e1];simp only [Option.bind_some,Sh.aft,Be,Kl];rw [e2];have:=nQ (fun (m:List (aw×Int)) (t:ak)=>AF k t m) ⟨[],0⟩ l.Terms 0 m;rw [this];rfl
theorem zR (a b c:Int):a*b*c=a*(b*c):=Int.mul_assoc a b c
theorem zD (f:aw→Int) (k:Int) (hk : -1000000≤k∧k≤1000000):∀ (ts:List ak) (m:List (aw×Int)) (B:Int) (K:Nat),(∀ t∈ts,(-1000000≤t.C∧t.C≤1000000)∧t.Var.length≤1000000) →
 Sm B K m→0≤B→B+(ts.length:Int)*1000000000000≤9000000000000000000 →
 Sm (B+(ts.length:Int)*1000000000000) (K+ts.length) (ts.foldl (fun m t=>AF k t m) m)∧ky f (ts.foldl (fun m t=>AF k t m) m)=ky f m+k*bW f ts
 | [],m,B,K,_,hs,_,_=>⟨by simpa using hs,by simp [bW]⟩
 | t::ts,m,B,K,hC,hs,hB,hle=>by
  obtain ⟨⟨c1,c2⟩,hv⟩:=hC t (by simp);obtain ⟨b1,b2⟩:=prod_bound hk.1 hk.2 c1 c2;have hlen:(((t::ts).length:Nat):Int)=(ts.length:Int)+1:=by simp
  rw [hlen] at hle;have hle':B+((ts.length:Int)*1000000000000+1000000000000)≤9000000000000000000:=by rw [Int.add_mul] at hle;omega
  have hp:0≤(ts.length:Int)*1000000000000:=by omega
  obtain ⟨m1,m2⟩:=hs.bd t.Var;have e:AF k t m=bI t.Var (bn 0 t.Var m+k*t.C) m:=by unfold AF;rw [kj (n:=k*t.C) (by unfold tI;omega),kj (by unfold tI;omega)]
  have hs1:=hs.put (v:=bn 0 t.Var m+k*t.C) (B':=B+1000000000000) hv (by omega) (by omega) (by omega);rw [← e] at hs1;obtain ⟨g1,g2⟩:=zD f k hk ts (AF k t m) (B+1000000000000) (K+1) (fun x hx=>hC x (by simp [hx])) hs1 (by omega) (by omega);rw [List.foldl_cons,hlen];refine ⟨?_,?_⟩
  ·have e1:B+1000000000000+(ts.length:Int)*1000000000000=B+((ts.length:Int)+1)*1000000000000:=by rw [Int.add_mul];omega
   have e2:K+1+ts.length=K+(t::ts).length:=by simp;omega
   rw [← e1,← e2];exact g1
  ·rw [g2,e,vH];simp only [bW];rw [Int.mul_add,show bn 0 t.Var m+k*t.C-bn 0 t.Var m=k*t.C by omega,zR];omega
theorem sA (f:aw→Int) {a b:List ak} (h:a.Perm b):bW f a=bW f b:=by
 induction h with
 | nil=>rfl
 | cons x _ ih=>simp only [bW,ih]
 | swap x y l=>simp only [bW];omega
 | trans _ _ h1 h2=>exact h1.trans h2
theorem D4 {k x:aw} {u:Int} {m:List (aw×Int)} (h:k≠x):bn 0 x ((k,u)::m)=bn 0 x m:=by simp [bn,h]
theorem Eb (m:List (aw×Int)) {x:aw} (h:x∈bp m):x∈m.map (·.1):=by unfold bp at h;obtain ⟨e,he,rfl⟩:=List.mem_map.1 h;exact List.mem_map.2 ⟨e,(List.mem_filter.1 he).1,rfl⟩
theorem rS (f:aw→Int):∀ m:List (aw×Int),(m.map (·.1)).Nodup→bW f ((bp m).map fun k=>ak.mk k (bn 0 k m))=ky f m
 | [],_=>rfl
 | (k,u)::m,h=>by
  rw [List.map_cons,List.nodup_cons] at h;have ih:=rS f m h.2;have hskip:(bp m).map (fun x=>ak.mk x (bn 0 x ((k,u)::m)))=(bp m).map fun x=>ak.mk x (bn 0 x m):=by refine List.map_congr_left fun x hx => ?_;rw [D4 fun e=>h.1 (by subst e;exact Eb m hx)]
  by_cases hu:u=0
  ·subst hu;have e:bp ((k,(0:Int))::m)=bp m:=by simp [bp]
   rw [e,hskip,ih];simp [ky]
  ·have e:bp ((k,u)::m)=k::bp m:=by simp [bp,hu]
   rw [e,List.map_cons,hskip];simp only [bW,ih,ky];simp [bn]
theorem Er {n:Int} {m:List (aw×Int)} {B:Int} {K:Nat} (hs:Sm B K m) (f:aw→Int) (h:(nZ n m (j9 (bp m))).2=0):au (nZ n m (j9 (bp m))).1=true∧ln f (nZ n m (j9 (bp m))).1=n+ky f m:=by
 unfold nZ at h ⊢;cases hv:au (Linear.mk n ((j9 (bp m)).map fun k=>ak.mk k (bn 0 k m))) with
 | false=>rw [hv] at h;simp at h
 | true =>
  simp only [cond_true,ln];refine ⟨hv,?_⟩;rw [sA f ((gq (bp m)).map _),rS f m hs.nd]
def xb (bs:List Bind) (t:ak) (s:Int×List (aw×Int)):gj (Int×List (aw×Int)) (Int×List (aw×Int)) (Linear×Int) :=
 bif decide (idxOf (kf 1 t.Var) bs<0) then .go (s.1,bI t.Var (aD (bn 0 t.Var s.2+t.C)) s.2) else
 bif au (bs.getD (idxOf (kf 1 t.Var) bs).toNat rB).Dim then .go (Be (bs.getD (idxOf (kf 1 t.Var) bs).toNat rB).Dim t.C s.1 s.2) else .ret ((Linear.mk 0 []),1)
def sv (bs:List Bind) (f:aw→Int) (v:aw):Int:=bif decide (idxOf (kf 1 v) bs<0) then f v else ln f (bs.getD (idxOf (kf 1 v) bs).toNat rB).Dim
theorem D8 (bs:List Bind) (v:aw) (c:Int):cz bs v c=some (idxOf (kf 1 v) bs):=by
 unfold cz;rw [qG (f:=fun j=>((j:Nat):Int)) (fun j=>kf 1 v (bs.getD j rB)) _ _ () (fun j u _ _=>by
  unfold jf kf;simp only;cases (bs.getD j rB).Kind==1
  ·rfl
  ·cases (bs.getD j rB).Var==v<;>rfl)]
 exact EI bs (kf 1 v) _ (sd (kf 1 v) rB bs)
def DQ (o:Out (Int×List (aw×Int)) (Linear×Int)):Linear×Int:=match o with | .brk u=>nZ u.1 u.2 (j9 (bp u.2)) | .ret r=>r
def uj (bs:List Bind) (l:Linear):Linear×Int:=bif au l then DQ (dq (xb bs) (fun s=>s) l.Terms (l.Const,[])) else ((Linear.mk 0 []),1)
def St (j:Nat) (c:Int) (s:Int×List (aw×Int)):Prop:=Sm ((j:Int)*12000000000000) (12*j) s.2 ∧ -(1000000+(j:Int)*1000000000000)≤s.1∧s.1≤1000000+(j:Int)*1000000000000
theorem zO (bs:List Bind) (f:aw→Int) (t:ak) (c:Int) (j:Nat) (hj:j<12) (ht:(-1000000≤t.C∧t.C≤1000000)∧dP t.Var=true) (s s':Int×List (aw×Int)) (hs:St j c s) (h:xb bs t s = .go s') :
 St (j+1) c s'∧s'.1+ky f s'.2=s.1+ky f s.2+t.C*sv bs f t.Var:=by
 have hn:=gW ht.2;have ej:((j+1:Nat):Int)*12000000000000=(j:Int)*12000000000000+12000000000000:=by omega
 obtain ⟨h1,h2,h3⟩:=hs;unfold xb at h;by_cases h0:idxOf (kf 1 t.Var) bs<0
 ·rw [Ki h0,cond_true] at h;have e:s'=(s.1,bI t.Var (aD (bn 0 t.Var s.2+t.C)) s.2):=by injection h with h;exact h.symm
  obtain ⟨m1,m2⟩:=h1.bd t.Var;have hw:aD (bn 0 t.Var s.2+t.C)=bn 0 t.Var s.2+t.C:=kj (by unfold tI;omega);rw [hw] at e;subst e;refine ⟨⟨(h1.put (v:=bn 0 t.Var s.2+t.C) (B':=((j+1:Nat):Int)*12000000000000) (by omega) (by omega) (by omega) (by omega)).mono (Int.le_refl _) (by omega),by simp only;omega,by simp only;omega⟩,?_⟩;simp only;rw [vH,show bn 0 t.Var s.2+t.C-bn 0 t.Var s.2=t.C by omega];simp only [sv,Ki h0,cond_true];omega
 ·rw [Kh h0,cond_false] at h;generalize hD:(bs.getD (idxOf (kf 1 t.Var) bs).toNat rB).Dim=D at h;cases hv:au D with
  | false=>rw [hv,cond_false] at h;cases h
  | true =>
   rw [hv,cond_true] at h;have e:s'=Be D t.C s.1 s.2:=by injection h with h;exact h.symm
   subst e;obtain ⟨k1,k2⟩:=j6 hv;have hl:=bE hv;obtain ⟨b1,b2⟩:=prod_bound ht.1.1 ht.1.2 k1 k2;obtain ⟨g1,g2⟩:=zD f t.C ht.1 D.Terms s.2 ((j:Int)*12000000000000) (12*j) (fun x hx=>⟨(cA hv x hx).1,by have:=gW (cA hv x hx).2;omega⟩) h1 (by omega) (by omega);have hw:aD (s.1+aD (t.C*D.Const))=s.1+t.C*D.Const:=by rw [kj (n:=t.C*D.Const) (by unfold tI;omega),kj (by unfold tI;omega)]
   refine ⟨⟨g1.mono (by omega) (by omega),?_,?_⟩,?_⟩
   ·simp only [Be,hw];omega
   ·simp only [Be,hw];omega
   ·simp only [Be,hw,g2,sv,Kh h0,cond_false,hD,ln];rw [Int.mul_add];omega
theorem yX (bs:List Bind) (f:aw→Int) (c:Int) (ts:List ak):∀ (j:Nat) (s:Int×List (aw×Int)),j+ts.length≤12→(∀ t∈ts,(-1000000≤t.C∧t.C≤1000000)∧dP t.Var=true)→St j c s →
 (∃ u,dq (xb bs) (fun s=>s) ts s = .brk u∧St (j+ts.length) c u∧u.1+ky f u.2=s.1+ky f s.2+bW (sv bs f) ts)∨dq (xb bs) (fun s=>s) ts s = .ret ((Linear.mk 0 []),1):=by
 induction ts with
 | nil=>exact fun j s _ _ hs=>.inl ⟨s,rfl,hs,by simp [bW]⟩
 | cons t ts ih =>
  intro j s hj hC hs;have hj':j+1+ts.length≤12:=by simp at hj;omega
  have hret:∀ r,xb bs t s = .ret r→r=((Linear.mk 0 []),1):=by intro r hg;unfold xb at hg;cases h1:decide (idxOf (kf 1 t.Var) bs<0)<;>cases h2:au (bs.getD (idxOf (kf 1 t.Var) bs).toNat rB).Dim<;>rw [h1,h2] at hg<;>first | (injection hg with hg;exact hg.symm) | cases hg
  have hbrk:∀ e,xb bs t s ≠ .brk e:=by intro e hg;unfold xb at hg;cases h1:decide (idxOf (kf 1 t.Var) bs<0)<;>cases h2:au (bs.getD (idxOf (kf 1 t.Var) bs).toNat rB).Dim<;>rw [h1,h2] at hg<;>cases hg
  have hgo:=fun s'=>zO bs f t c j (by simp at hj;omega) (hC t (by simp)) s s';simp only [dq];generalize xb bs t s=R at hret hbrk hgo;cases R with
  | go s' =>
   obtain ⟨h1,h2⟩:=hgo s' hs rfl;rcases ih (j+1) s' hj' (fun x hx=>hC x (by simp [hx])) h1 with ⟨u,e1,e2,e3⟩ | e
   ·refine .inl ⟨u,e1,?_,?_⟩
    ·rw [show j+(t::ts).length=j+1+ts.length by simp;omega];exact e2
    ·rw [e3,h2];simp only [bW];omega
   ·exact .inr e
  | brk e=>exact absurd rfl (hbrk e)
  | ret r=>exact .inr (by rw [hret r rfl])
theorem JU (l:Linear) (h:au l=true):St 0 l.Const (l.Const,[]):=by obtain ⟨k1,k2⟩:=j6 h;exact ⟨Sm.nil,by simp only;omega,by simp only;omega⟩
theorem od (l:Linear) (bs:List Bind) (h:FG l) (hb:∀ b∈bs,okB b):gu l bs=some (uj bs l):=by
 unfold gu uj;rw [dW l h.1 h.2];simp only [Option.bind_some];cases hv:au l with
 | false=>rfl
 | true =>
  simp only [cond_true];rw [dx (fin:=fun _ s=>(s.1,s.2)) (f:=fun s=>s) ⟨[],0⟩ l.Terms (xb bs) (fun _ _=>True) (fun _ _=>rfl) (l.Const,[]) trivial (fun j s hj _=>⟨by
   rw [D8];simp only [Option.bind_some,xb];generalize ht:l.Terms.getD j ⟨[],0⟩=t;by_cases h0:idxOf (kf 1 t.Var) bs<0
   ·rw [Ki h0];rfl
   ·rw [Kh h0];simp only [cond_false];rw [az ⟨by omega,Ga _ rB _⟩];have hk:=F8 hb (idxOf (kf 1 t.Var) bs).toNat;rw [pZ,dW _ hk.2.1.1 hk.2.1.2];simp only [Option.bind_some];cases au (bs.getD (idxOf (kf 1 t.Var) bs).toNat rB).Dim with
    | false=>rfl
    | true=>simp only [cond_true];rw [ra];rfl,fun _ _=>trivial⟩)]
  rcases yX bs (fun _=>0) l.Const l.Terms 0 (l.Const,[]) (by have:=bE hv;omega) (cA hv) (JU l hv) with ⟨u,e1,e2,_⟩ | e
  ·rw [e1];simp only [Option.bind_some,Sh.aft,DQ];rw [w7 u.1 u.2 (GH e2.1 (by have:=bE hv;omega))];rfl
  ·rw [e];rfl
theorem Iv {bs:List Bind} {l:Linear} (h:(uj bs l).2=0) (f:aw→Int):au l=true∧au (uj bs l).1=true∧ln f (uj bs l).1=ln (sv bs f) l:=by
 cases hv:au l with
 | false=>unfold uj at h;rw [hv] at h;simp at h
 | true =>
  unfold uj at h ⊢;rw [hv,cond_true] at h ⊢;rcases yX bs f l.Const l.Terms 0 (l.Const,[]) (by have:=bE hv;omega) (cA hv) (JU l hv) with ⟨u,e1,e2,e3⟩ | e
  ·rw [e1] at h ⊢;simp only [DQ] at h ⊢;obtain ⟨g1,g2⟩:=Er e2.1 f h;refine ⟨by simp,g1,?_⟩;rw [g2,e3];simp only [ky,ln];omega
  ·rw [e] at h;simp [DQ] at h
theorem vZ {f g:aw→Int}:∀ (ts:List ak),(∀ t∈ts,f t.Var=g t.Var)→bW f ts=bW g ts
 | [],_=>rfl
 | t::ts,h=>by simp only [bW];rw [h t (by simp),vZ ts fun x hx=>h x (by simp [hx])]
end Go.Proofs.YtlhcekghjfjajaaGreatDoor
namespace Go.Sh
def dec (n:Nat):aw:=Lib.decDigits n
theorem sK {n:Nat} (h:n<10):dec n=[UInt8.ofNat (48+n)]:=by unfold dec;rw [Lib.decDigits,dif_pos h]
theorem CE {n:Nat} (h:¬ n<10):dec n=dec (n / 10)++[UInt8.ofNat (48+n % 10)]:=by unfold dec;rw [Lib.decDigits,dif_neg h]
theorem Iw (n:Nat):dec n≠[]:=(rD n).2.2
theorem zX {α σ ε ρ:Type} (g:σ→α→σ):∀ (l:List α) (s:σ),dq (ε:=σ) (ρ:=ρ) (fun x s=>gj.go (g s x)) (fun s=>s) l s = .brk (l.foldl g s)
 | [],s=>rfl
 | x::l,s=>by simp only [dq];rw [zX (ε:=ε) g l];rfl
end Go.Sh
namespace Go.Proofs.YtlhcekghjfjajaaGreatDoor
open Go.Ab Go.Sh
theorem E6 (n:Int):Lib.itoa n=(bif decide (n<0) then 45::dec n.natAbs else dec n.natAbs):=by
 unfold Lib.itoa;by_cases h:n<0
 ·rw [if_pos h,Ki h];rfl
 ·rw [if_neg h,Kh h];show Lib.decDigits n.toNat=Lib.decDigits n.natAbs;congr 1;omega
theorem bF {α:Type} (d:α) {l:List α} {j:Nat} (h:j<l.length):l.getD j d∈l:=by rw [Kb,Kc h];exact List.getElem_mem h
end Go.Proofs.YtlhcekghjfjajaaGreatDoor
namespace Go.Sh
structure Gm (K:Nat) (m:List (aw×Int)):Prop where
 len:m.length≤K
 nd:(m.map (·.1)).Nodup
 key:∀ x∈m.map (·.1),x.length≤1000000
theorem Gm.nil:Gm 0 []:=⟨by simp,by simp,by simp⟩
theorem Gm.put {K:Nat} {m:List (aw×Int)} (h:Gm K m) {x:aw} (v:Int) (hx:x.length≤1000000):Gm (K+1) (bI x v m):=by
 refine ⟨?_,?_,fun y hy => ?_⟩
 ·have e:=congrArg List.length (jq x v m);have:=h.len;split at e<;>simp at e<;>omega
 ·rw [jq];split
  ·exact h.nd
  ·rename_i hn;rw [List.nodup_append];exact ⟨h.nd,by simp,fun a ha b hb=>by
    have:b=x:=by simpa using hb
    subst this;intro e;subst e;exact hn ha⟩
 ·rw [jq] at hy;split at hy
  ·exact h.key y hy
  ·rcases List.mem_append.1 hy with hy | hy
   ·exact h.key y hy
   ·have:y=x:=by simpa using hy
    subst this;exact hx
theorem Gm.mono {K K':Nat} {m:List (aw×Int)} (h:Gm K m) (h1:K≤K'):Gm K' m:=⟨by have:=h.len;omega,h.nd,h.key⟩
end Go.Sh
namespace Go.Proofs.YtlhcekghjfjajaaGreatDoor
open Go.Ab Go.Sh
end Go.Proofs.YtlhcekghjfjajaaGreatDoor
namespace Go.Sh
theorem fG:∀ x:aw,Op.bytesLess x x=false
 | []=>rfl
 | a::x=>by simp [Op.bytesLess,fG x]
theorem dz:∀ x y z:aw,Op.bytesLess x y=true→Op.bytesLess y z=true→Op.bytesLess x z=true
 | _,[],_,h,_=>by simp [Op.bytesLess] at h
 | _,_::_,[],_,h=>by simp [Op.bytesLess] at h
 | [],_::_,_::_,_,_=>rfl
 | a::x,b::y,c::z,h1,h2=>by
  simp only [Op.bytesLess,Bool.or_eq_true,Kd,decide_eq_true_eq,beq_iff_eq] at h1 h2 ⊢;rcases h1 with h1 | ⟨rfl,h1⟩
  ·rcases h2 with h2 | ⟨rfl,h2⟩
   ·exact .inl (UInt8.lt_trans h1 h2)
   ·exact .inl h1
  ·rcases h2 with h2 | ⟨rfl,h2⟩
   ·exact .inl h2
   ·exact .inr ⟨rfl,dz x y z h1 h2⟩
theorem CS:∀ x y:aw,x<y↔Op.bytesLess x y=true
 | x,[]=>by simp [Op.bytesLess]
 | [],b::y=>by simp [Op.bytesLess]
 | a::x,b::y=>by rw [List.cons_lt_cons_iff,CS x y];simp only [Op.bytesLess,Bool.or_eq_true,Kd,decide_eq_true_eq,beq_iff_eq]
theorem HJ {x y:aw} (h:Op.bytesLess x y=true):wH x y=true:=by simp only [wH,decide_eq_true_eq];show ¬ y<x;rw [CS];intro h2;have:=dz _ _ _ h h2;rw [fG] at this;cases this
theorem qA:∀ (k a:Nat),a<10 ^ (k+1)→(dec a).length≤k+1
 | k,a,h=>by
  by_cases h10:a<10
  ·rw [sK h10];simp
  ·cases k with
   | zero=>simp at h;omega
   | succ k =>
    rw [CE h10];have hp:10 ^ (k+1+1)=10*10 ^ (k+1):=by rw [Nat.pow_succ];omega
    have:=qA k (a / 10) (by rw [hp] at h;omega);simp only [List.length_append,List.length_cons,List.length_nil];omega
theorem Gs (a:Nat):jF 0 (dec a)=a:=by
 induction a using Nat.strongRecOn with
 | _ a ih =>
  by_cases h:a<10
  ·rw [sK h];simp only [jF,List.foldl_cons,List.foldl_nil];rw [UInt8.toNat_ofNat_of_lt' (show _<256 by omega)];omega
  ·rw [CE h,xn,ih (a / 10) (by omega),UInt8.toNat_ofNat_of_lt' (show _<256 by omega)];omega
end Go.Sh
namespace Go.Proofs.YtlhcekghjfjajaaGreatDoor
open Go.Ab Go.Sh
theorem vb {l:Linear} (h:au l=true):(l.Terms.map (·.Var)).Pairwise (fun a b=>Op.bytesLess a b=true):=by
 have hadj:∀ j,0<j→(hj:j<l.Terms.length)→Op.bytesLess (l.Terms[j-1]'(by omega)).Var l.Terms[j].Var=true:=by
  intro j h0 hj;simp only [au,Kd,Ko] at h;have:=h.1 j (by simpa using hj);have e:wM l j=l.Terms[j]:=by simp [wM,Kb,Kc hj]
  have e':wM l (j-1)=l.Terms[j-1]'(by omega):=by simp [wM,Kb,Kc (show j-1<l.Terms.length by omega)]
  simp only [jD,e,e',Kd,Bool.or_eq_true,Bool.not_eq_true',decide_eq_false_iff_not] at this;rcases this.2.2.2 with h | h
  ·omega
  ·exact h
 have hall:∀ (n i:Nat) (hi:i+n+1<l.Terms.length),Op.bytesLess (l.Terms[i]'(by omega)).Var l.Terms[i+n+1].Var=true:=by
  intro n;induction n with
  | zero=>intro i hi;exact hadj (i+1) (by omega) hi
  | succ n ih =>
   intro i hi;exact dz _ _ _ (ih i (by omega)) (hadj (i+(n+1)+1) (by omega) hi)
 rw [List.pairwise_iff_getElem];intro i j hi hj hij;simp only [List.getElem_map];simp only [Kj] at hi hj;have:=hall (j-i-1) i (by omega);have e:i+(j-i-1)+1=j:=by omega
 simp only [e] at this;exact this
theorem zW {l:Linear} (h:au l=true):(l.Terms.map (·.Var)).Nodup:=(vb h).imp fun hab=>by intro e;rw [e,fG] at hab;cases hab
end Go.Proofs.YtlhcekghjfjajaaGreatDoor
namespace Go.Sh
def CO (x s:aw):Prop:=∃ p,x=p++s
def pos (x s:aw):Int:=((x.length-s.length:Nat):Int)
theorem CO.len {x s:aw} (h:CO x s):s.length≤x.length:=by obtain ⟨p,rfl⟩:=h;simp
theorem CO.drop {x s:aw} (h:CO x s):x.drop (x.length-s.length)=s:=by obtain ⟨p,rfl⟩:=h;simp
theorem CO.refl (x:aw):CO x x:=⟨[],rfl⟩
theorem CO.trans {x s r:aw} (h:CO x s) (h2:CO s r):CO x r:=by obtain ⟨p,rfl⟩:=h;obtain ⟨q,rfl⟩:=h2;exact ⟨p++q,by simp⟩
theorem CO.succ {x s:aw} {c:UInt8} (h:CO x (c::s)):pos x (c::s)+1=pos x s:=by have:=h.len;unfold pos;simp at this ⊢;omega
theorem CO.lt {x s:aw} {c:UInt8} (h:CO x (c::s)):0≤pos x (c::s)∧pos x (c::s)<(x.length:Int):=by have:=h.len;unfold pos;simp at this ⊢;omega
end Go.Sh
namespace Go.Proofs.YtlhcekghjfjajaaGreatDoor
open Go.Ab Go.Sh
def pS (v:aw) (c:Int) (t:ak) (s:Bool×List ak):Bool×List ak :=
 let ins := !s.1 && !(Op.bytesLess t.Var v||t.Var==v)
 let out:=bif ins then s.2++[ak.mk v c] else s.2
 (bif t.Var==v then true else (s.1||ins),out++[ak.mk t.Var (bif t.Var==v then aD (t.C+c) else t.C)])
def nz (t:ak):Bool := !(t.C==0)
def pW (ts:List ak) (v:aw) (c:Int):List ak :=
 let r:=ts.foldl (fun s t=>pS v c t s) (false,[])
 bif r.1 then r.2 else r.2++[ak.mk v c]
def lY (ts:List ak) (v:aw) (c:Int):List ak:=(pW ts v c).filter nz
theorem Dk (v:aw) (c:Int):∀ (ts:List ak) (s:Bool×List ak),s.1=true→(ts.foldl (fun s t=>pS v c t s) s).1=true
 | [],s,h=>h
 | t::ts,s,h=>by rw [List.foldl_cons];refine Dk v c ts _ ?_;unfold pS;simp only [h];cases t.Var==v<;>rfl
theorem yL (v:aw) (c:Int):∀ (ts:List ak) (s:Bool×List ak),(ts.foldl (fun s t=>pS v c t s) s).2.length≤s.2.length+ts.length+(bif s.1 then 0 else (bif (ts.foldl (fun s t=>pS v c t s) s).1 then 1 else 0))
 | [],s=>by simp
 | t::ts,s=>by have ih:=yL v c ts (pS v c t s);have hp:=Dk v c ts (pS v c t s);rw [List.foldl_cons];generalize ts.foldl (fun s t=>pS v c t s) (pS v c t s)=r at ih hp ⊢;obtain ⟨s1,s2⟩:=s;unfold pS at ih hp;cases s1<;>cases h1:Op.bytesLess t.Var v<;>cases h2:t.Var==v<;>cases hr:r.1<;>simp [h1,h2,hr] at ih hp ⊢ <;> omega
theorem xf (ts:List ak) (v:aw) (c:Int):(pW ts v c).length≤ts.length+1:=by
 have:=yL v c ts (false,[]);unfold pW;simp only at this ⊢;cases hr:(ts.foldl (fun s t=>pS v c t s) (false,[])).1 with
 | true=>rw [hr] at this;simp at this ⊢;omega
 | false=>rw [hr] at this;simp at this ⊢;omega
theorem xa (ts:List ak) (v:aw) (c:Int):(lY ts v c).length≤ts.length+1:=Nat.le_trans (List.length_filter_le _ _) (xf ts v c)
def yo (s1:Int×Int×List ak):Option (gj (Int×Int×List ak) (Int×List ak) Empty) :=
 bif decide (s1.2.1<((s1.2.2.length:Nat):Int)) then (
  bP (0≤s1.2.1∧s1.2.1<(s1.2.2.length:Int)) <|
  bP (s1.2.1.toNat<s1.2.2.length) <|
  ((
   bif (((s1.2.2.getD s1.2.1.toNat ⟨[],0⟩).C)==0) then (
    some (s1.1,s1.2.2)
   ) else (
    bP (0≤s1.1∧s1.1<(s1.2.2.length:Int)) <|
    bP (s1.1.toNat<s1.2.2.length) <|
    some ((aD (s1.1+1)),(s1.2.2.set s1.1.toNat (ak.mk ((s1.2.2.getD s1.2.1.toNat ⟨[],0⟩).Var) ((s1.2.2.getD s1.2.1.toNat ⟨[],0⟩).C))))
   )
  ):Option (Int×(List ak))).bind fun v4 =>
  some (.go (v4.1,(aD (s1.2.1+1)),v4.2))
 ) else (
  some (.brk (s1.1,s1.2.2))
 )
theorem sf (o:List ak) (ho:o.length≤1000000):∀ (n i k:Nat) (l:List ak) (N:Nat),i+n=o.length→n<N→l.length=o.length→k=((o.take i).filter nz).length→l.take k=(o.take i).filter nz→l.drop i=o.drop i→k≤i →
 ∃ l',mh yo N ((k:Int),(i:Int),l)=some (.brk (((o.filter nz).length:Int),l'))∧l'.take (o.filter nz).length=o.filter nz∧l'.length=o.length
 | 0,i,k,l,N,h1,h2,h3,h4,h5,h6,h7=>by
  obtain ⟨N',rfl⟩:∃ j,N=j+1:=⟨N-1,by omega⟩;have hi:i=o.length:=by omega
  rw [hi,List.take_length] at h4 h5;refine ⟨l,?_,by rw [← h4];exact h5,h3⟩;simp only [mh,yo];rw [Kh (by omega),← h4];rfl
 | n+1,i,k,l,N,h1,h2,h3,h4,h5,h6,h7=>by
  obtain ⟨N',rfl⟩:∃ j,N=j+1:=⟨N-1,by omega⟩;have hio:i<o.length:=by omega
  have hil:i<l.length:=by omega
  have hget:l[i]=o[i]:=by
   have e1:=List.drop_eq_getElem_cons hil;have e2:=List.drop_eq_getElem_cons hio;rw [h6,e2] at e1;injection e1 with e1 _
   exact e1.symm
  have hD:l.getD i ⟨[],0⟩=o[i]:=by rw [Kb,Kc hil];exact hget
  have ht:o.take (i+1)=o.take i++[o[i]]:=by rw [List.take_add_one];simp [Kc hio]
  have hdrop:l.drop (i+1)=o.drop (i+1):=by have:=congrArg (List.drop 1) h6;simpa [List.drop_drop,Nat.add_comm] using this
  simp only [mh];have hb:yo ((k:Int),(i:Int),l)=some (.go (bif nz o[i] then (((k+1:Nat):Int),((i+1:Nat):Int),l.set k o[i]) else ((k:Int),((i+1:Nat):Int),l))):=by
   unfold yo;simp only;rw [Ki (by omega)];simp only [cond_true,Int.toNat_natCast];rw [az ⟨by omega,by omega⟩,az (by omega),hD,kj (n:=((i:Int)+1)) (by unfold tI;omega)];unfold nz;cases o[i].C==0 with
   | true=>rfl
   | false =>
    simp only [cond_false,Bool.not_false,cond_true];rw [az ⟨by omega,by omega⟩,az (by omega),kj (by unfold tI;omega)];rfl
  rw [hb];simp only [Option.bind_some,yO];cases hz:nz o[i] with
  | false =>
   simp only [cond_false];have hf:(o.take (i+1)).filter nz=(o.take i).filter nz:=by rw [ht,List.filter_append];simp [hz]
   exact sf o ho n (i+1) k l N' (by omega) (by omega) h3 (by rw [hf];exact h4) (by rw [hf];exact h5) hdrop (by omega)
  | true =>
   simp only [cond_true];have hf:(o.take (i+1)).filter nz=(o.take i).filter nz++[o[i]]:=by rw [ht,List.filter_append];simp [hz]
   refine sf o ho n (i+1) (k+1) (l.set k o[i]) N' (by omega) (by omega) (by simp [h3]) (by rw [hf];simp [h4]) ?_ ?_ (by omega)
   ·rw [hf,← h5];have hk:k<l.length:=by omega
    rw [List.take_add_one];simp [List.getElem?_set_self,hk,List.take_set_of_le]
   ·rw [List.drop_set_of_lt (by omega)];exact hdrop
theorem Hd (l:Linear) (v:aw) (c:Int) (h:l.Terms.length≤10000):fW l v c=some (Linear.mk l.Const (lY l.Terms v c)):=by
 unfold fW;rw [dx (fin:=fun _ s=>(s.1,s.2)) (f:=fun s=>s) ⟨[],0⟩ l.Terms (fun t s=>gj.go (pS v c t s)) (fun j s=>s.2.length≤2*j) (fun _ _=>rfl) (false,[]) (by simp) (fun j s hj hI=>by
  generalize l.Terms.getD j ⟨[],0⟩=t;obtain ⟨s1,s2⟩:=s;simp only at hI;refine ⟨?_,fun s' e => ?_⟩
  ·unfold pS;simp only;cases s1 with
   | true =>
    simp only [cond_true,cond_false,Option.bind_some];cases t.Var==v with
    | true =>
     simp only [cond_true,Option.bind_some];rw [az (by omega)];rfl
    | false =>
     simp only [cond_false,Option.bind_some];rw [az (by omega)];rfl
   | false =>
    simp only [cond_false,Option.bind_some,Bool.not_false,Bool.true_and,Bool.false_or];cases (!(Op.bytesLess t.Var v||t.Var==v)) with
    | true =>
     simp only [cond_true];rw [az (by omega)];simp only [Option.bind_some];cases t.Var==v with
     | true =>
      simp only [cond_true,Option.bind_some];rw [az (by simp;omega)]
     | false =>
      simp only [cond_false,Option.bind_some];rw [az (by simp;omega)]
    | false =>
     simp only [cond_false,Option.bind_some];cases t.Var==v with
     | true =>
      simp only [cond_true,Option.bind_some];rw [az (by omega)]
     | false =>
      simp only [cond_false,Option.bind_some];rw [az (by omega)]
  ·injection e with e
   subst e;unfold pS;simp only;cases (!s1 && !(Op.bytesLess t.Var v||t.Var==v))<;>simp<;>omega)]
 rw [zX (α:=ak) (ε:=Bool×List ak) (fun s t=>pS v c t s)];simp only [Option.bind_some,dI];have hl:=xf l.Terms v c;have hl2:=yL v c l.Terms (false,[]);have hpl:((bif (l.Terms.foldl (fun s t=>pS v c t s) (false,[])).1 then some (l.Terms.foldl (fun s t=>pS v c t s) (false,[])).2 else bP (((l.Terms.foldl (fun s t=>pS v c t s) (false,[])).2.length+1)*24≤140737488355328) <| some ((l.Terms.foldl (fun s t=>pS v c t s) (false,[])).2++[ak.mk v c])):Option (List ak))=some (pW l.Terms v c):=by
  unfold pW;simp only;cases hr:(l.Terms.foldl (fun s t=>pS v c t s) (false,[])).1 with
  | true=>rfl
  | false =>
   rw [hr] at hl2;simp at hl2;simp only [cond_false];rw [az (by omega)]
 refine (congrArg (fun o=>Option.bind o _) hpl).trans ?_;simp only [Option.bind_some];obtain ⟨l',e1,e2,e3⟩:=sf (pW l.Terms v c) (by omega) (pW l.Terms v c).length 0 0 (pW l.Terms v c) 4294967296 (by omega) (by omega) rfl (by simp) (by simp) rfl (by omega);have hfl:=List.length_filter_le nz (pW l.Terms v c);refine (congrArg (fun o:Option (Out (Int×List ak) Empty)=>Option.bind o _) e1).trans ?_;simp only [Option.bind_some,dI];rw [az ⟨by omega,by omega⟩,Int.toNat_natCast,e2];rfl
def yt (l:Linear):Linear×Int:=bif au l then (l,0) else (Linear.mk 0 [],3)
theorem B6 (l:Linear):gK l=some (yt l):=by unfold gK yt;rw [je];simp only [Option.bind_some];cases au l<;>rfl
def Ek (ts:List ak):Prop:=ts.Pairwise (fun a b=>Op.bytesLess a.Var b.Var=true)
def Nz (ts:List ak):Prop:=∀ t∈ts,t.C≠0
def ind (v:aw) (x:aw):Int:=if x=v then 1 else 0
theorem kS (v:aw):∀ ts:List ak,(∀ t∈ts,t.Var≠v)→bW (ind v) ts=0
 | [],_=>rfl
 | t::ts,h=>by simp only [bW,ind,if_neg (h t (by simp)),Int.mul_zero,Int.zero_add];exact kS v ts fun x hx=>h x (by simp [hx])
theorem pU {x y:aw} (h:Op.bytesLess x y=true):x≠y:=fun e=>by rw [e,fG] at h;cases h
theorem kW (x y:aw):Op.bytesLess x y=true∨x=y∨Op.bytesLess y x=true:=by
 rcases Bool.eq_false_or_eq_true (Op.bytesLess x y) with h | h
 ·exact .inl h
 ·rcases Bool.eq_false_or_eq_true (Op.bytesLess y x) with h' | h'
  ·exact .inr (.inr h')
  ·refine .inr (.inl ?_);have h1:¬ x<y:=fun e=>by rw [CS,h] at e;cases e
   have h2:¬ y<x:=fun e=>by rw [CS,h'] at e;cases e
   exact List.le_antisymm (List.not_lt.1 h2) (List.not_lt.1 h1)
theorem vC:∀ a b:List ak,Ek a→Nz a→Ek b→Nz b→(∀ f,bW f a=bW f b)→a=b
 | [],[],_,_,_,_,_=>rfl
 | [],t::ts,_,_,h1,h2,h=>by
  have:=h (ind t.Var);simp only [bW] at this;rw [kS t.Var ts fun x hx=>Ne.symm (pU ((List.pairwise_cons.1 h1).1 x hx))] at this;simp only [ind,if_pos,Int.mul_one,Int.add_zero] at this;exact absurd this.symm (h2 t (by simp))
 | t::ts,[],h1,h2,_,_,h=>by
  have:=h (ind t.Var);simp only [bW] at this;rw [kS t.Var ts fun x hx=>Ne.symm (pU ((List.pairwise_cons.1 h1).1 x hx))] at this;simp only [ind,if_pos,Int.mul_one,Int.add_zero] at this;exact absurd this (h2 t (by simp))
 | t::ts,u::us,h1,h2,h3,h4,h=>by
  have ht:=List.pairwise_cons.1 h1;have hu:=List.pairwise_cons.1 h3;have et:bW (ind t.Var) ts=0:=kS t.Var ts fun x hx=>Ne.symm (pU (ht.1 x hx));have eu:bW (ind u.Var) us=0:=kS u.Var us fun x hx=>Ne.symm (pU (hu.1 x hx));have i1:=h (ind t.Var);have i2:=h (ind u.Var);simp only [bW] at i1 i2;rcases kW t.Var u.Var with hl | he | hl
  ·have z:bW (ind t.Var) us=0:=kS t.Var us fun x hx=>Ne.symm (pU (dz _ _ _ hl (hu.1 x hx)));rw [et,z] at i1;simp only [ind,if_pos,if_neg (Ne.symm (pU hl)),Int.mul_one,Int.mul_zero,Int.add_zero] at i1;exact absurd i1 (h2 t (by simp))
  ·rw [et,he,eu] at i1;simp only [ind,if_pos,Int.mul_one,Int.add_zero] at i1;have e:t=u:=by obtain ⟨tv,tc⟩:=t;obtain ⟨uv,uc⟩:=u;simp only at he i1;rw [he,i1]
   subst e;rw [vC ts us ht.2 (fun x hx=>h2 x (by simp [hx])) hu.2 (fun x hx=>h4 x (by simp [hx])) fun f=>by have:=h f;simp only [bW] at this;omega]
  ·have z:bW (ind u.Var) ts=0:=kS u.Var ts fun x hx=>Ne.symm (pU (dz _ _ _ hl (ht.1 x hx)));rw [eu,z] at i2;simp only [ind,if_pos,if_neg (Ne.symm (pU hl)),Int.mul_one,Int.mul_zero,Int.add_zero] at i2;exact absurd i2.symm (h4 u (by simp))
def nr (v:aw) (c:Int):List ak→List ak
 | []=>[ak.mk v c]
 | t::ts=>if t.Var=v then ak.mk v (t.C+c)::ts else bif Op.bytesLess t.Var v then t::nr v c ts else ak.mk v c::t::ts
theorem vL (v:aw) (c:Int):∀ (ts o:List ak),(∀ t∈ts,t.Var≠v)→ts.foldl (fun s t=>pS v c t s) (true,o)=(true,o++ts)
 | [],o,_=>by simp
 | t::ts,o,h=>by
  have e:pS v c t (true,o)=(true,o++[t]):=by unfold pS;simp only [beq_eq_false_iff_ne.2 (h t (by simp)),Bool.not_true,Bool.false_and,cond_false,Bool.or_false]
  rw [List.foldl_cons,e,vL v c ts _ fun x hx=>h x (by simp [hx])];simp
theorem CY (v:aw) (c:Int):∀ (ts o:List ak),Ek ts→(∀ t∈ts,aD (t.C+c)=t.C+c) →
 (bif (ts.foldl (fun s t=>pS v c t s) (false,o)).1 then (ts.foldl (fun s t=>pS v c t s) (false,o)).2 else (ts.foldl (fun s t=>pS v c t s) (false,o)).2++[ak.mk v c])=o++nr v c ts
 | [],o,_,_=>by simp [nr]
 | t::ts,o,hs,hw=>by
  have ht:=List.pairwise_cons.1 hs;rw [List.foldl_cons];by_cases hv:t.Var=v
  ·have e:pS v c t (false,o)=(true,o++[ak.mk v (t.C+c)]):=by unfold pS;simp only [hv,beq_self_eq_true,Bool.or_true,Bool.not_true,Bool.and_false,cond_false,cond_true,hw t (by simp)]
   rw [e,vL v c ts _ fun x hx=>Ne.symm (pU (hv ▸ ht.1 x hx))];simp [nr,hv]
  ·cases hl:Op.bytesLess t.Var v with
   | true =>
    have e:pS v c t (false,o)=(false,o++[t]):=by unfold pS;simp only [beq_eq_false_iff_ne.2 hv,hl,Bool.true_or,Bool.not_true,Bool.and_false,cond_false,Bool.or_self]
    rw [e,CY v c ts _ ht.2 fun x hx=>hw x (by simp [hx])];simp [nr,hv,hl]
   | false =>
    have hvl:Op.bytesLess v t.Var=true:=by
     rcases kW t.Var v with h | h | h
     ·rw [h] at hl;cases hl
     ·exact absurd h hv
     ·exact h
    have e:pS v c t (false,o)=(true,o++[ak.mk v c]++[t]):=by unfold pS;simp only [beq_eq_false_iff_ne.2 hv,hl,Bool.or_self,Bool.not_false,Bool.and_self,cond_false,cond_true,Bool.or_true]
    rw [e,vL v c ts _ fun x hx=>Ne.symm (pU (dz _ _ _ hvl (ht.1 x hx)))];simp [nr,hv,hl]
theorem DM {ts:List ak} (v:aw) (c:Int) (hs:Ek ts) (hw:∀ t∈ts,aD (t.C+c)=t.C+c):lY ts v c=(nr v c ts).filter nz:=by have:=CY v c ts [] hs hw;unfold lY pW;simp only;rw [this];simp
theorem Ae (f:aw→Int) (v:aw) (c:Int):∀ ts:List ak,bW f (nr v c ts)=bW f ts+c*f v
 | []=>by simp [nr,bW]
 | t::ts=>by
  unfold nr;by_cases hv:t.Var=v
  ·rw [if_pos hv];simp only [bW,hv];rw [Int.add_mul];omega
  ·rw [if_neg hv];cases Op.bytesLess t.Var v
   ·simp only [cond_false,bW];omega
   ·simp only [cond_true,bW,Ae f v c ts];omega
theorem vT (v:aw) (c:Int):∀ (ts:List ak) (x:ak),x∈nr v c ts→x∈ts∨(x.Var=v∧(x.C=c∨∃ t∈ts,x.C=t.C+c))
 | [],x,h=>by
  have:x=ak.mk v c:=by simpa [nr] using h
  subst this;exact .inr ⟨rfl,.inl rfl⟩
 | t::ts,x,h=>by
  unfold nr at h;by_cases hv:t.Var=v
  ·rw [if_pos hv] at h;rcases List.mem_cons.1 h with rfl | h
   ·exact .inr ⟨rfl,.inr ⟨t,by simp,rfl⟩⟩
   ·exact .inl (by simp [h])
  ·rw [if_neg hv] at h;cases hl:Op.bytesLess t.Var v with
   | true =>
    rw [hl,cond_true] at h;rcases List.mem_cons.1 h with rfl | h
    ·exact .inl (by simp)
    ·rcases vT v c ts x h with h | ⟨h1,h2⟩
     ·exact .inl (by simp [h])
     ·refine .inr ⟨h1,h2.imp id ?_⟩;rintro ⟨y,hy,e⟩;exact ⟨y,by simp [hy],e⟩
   | false =>
    rw [hl,cond_false] at h;rcases List.mem_cons.1 h with rfl | h
    ·exact .inr ⟨rfl,.inl rfl⟩
    ·exact .inl h
theorem Bb (v:aw) (c:Int):∀ ts:List ak,(nr v c ts).length≤ts.length+1
 | []=>by simp [nr]
 | t::ts=>by
  have:=Bb v c ts;unfold nr;by_cases hv:t.Var=v
  ·rw [if_pos hv];simp
  ·rw [if_neg hv];cases Op.bytesLess t.Var v
   ·simp
   ·simp only [cond_true,List.length_cons];omega
theorem Ac (v:aw) (c:Int):∀ ts:List ak,Ek ts→Ek (nr v c ts)
 | [],_=>by simp [nr,Ek]
 | t::ts,hs=>by
  have ht:=List.pairwise_cons.1 hs;unfold nr;by_cases hv:t.Var=v
  ·rw [if_pos hv];exact List.pairwise_cons.2 ⟨fun x hx=>by have:=ht.1 x hx;rw [hv] at this;exact this,ht.2⟩
  ·rw [if_neg hv];cases hl:Op.bytesLess t.Var v with
   | true =>
    rw [cond_true];refine List.pairwise_cons.2 ⟨fun x hx => ?_,Ac v c ts ht.2⟩;rcases vT v c ts x hx with h | ⟨h,_⟩
    ·exact ht.1 x h
    ·rw [h];exact hl
   | false =>
    have hvl:Op.bytesLess v t.Var=true:=by
     rcases kW t.Var v with h | h | h
     ·rw [h] at hl;cases hl
     ·exact absurd h hv
     ·exact h
    rw [cond_false];refine List.pairwise_cons.2 ⟨fun x hx => ?_,hs⟩;rcases List.mem_cons.1 hx with rfl | hx
    ·exact hvl
    ·exact dz _ _ _ hvl (ht.1 x hx)
theorem Bo (f:aw→Int):∀ ts:List ak,bW f (ts.filter nz)=bW f ts
 | []=>rfl
 | t::ts=>by
  rw [List.filter_cons];cases h:nz t with
  | true=>simp only [if_pos,bW,Bo f ts]
  | false =>
   have h0:t.C=0:=by simpa [nz] using h
   simp only [Bool.false_eq_true,if_false,bW,Bo f ts,h0];omega
structure RB (B:Int) (K:Nat) (ts:List ak):Prop where
 srt:Ek ts
 nz:Nz ts
 bd:∀ t∈ts,-B≤t.C∧t.C≤B
 len:ts.length≤K
theorem RB.nil:RB 0 0 []:=⟨List.Pairwise.nil,(fun t h=>by simp at h),(fun t h=>by simp at h),Nat.le_refl _⟩
theorem RB.mono {B B':Int} {K K':Nat} {ts:List ak} (h:RB B K ts) (h1:B≤B') (h2:K≤K'):RB B' K' ts :=
 ⟨h.srt,h.nz,fun t ht=>by have:=h.bd t ht;omega,Nat.le_trans h.len h2⟩
theorem RB.plus {B:Int} {K:Nat} {ts:List ak} (h:RB B K ts) (v:aw) {c A:Int} (hB:0≤B) (h1 : -A≤c) (h2:c≤A) (hle:B+A≤9000000000000000000) :
 RB (B+A) (K+1) (lY ts v c)∧∀ f,bW f (lY ts v c)=bW f ts+c*f v:=by
 have hw:∀ t∈ts,aD (t.C+c)=t.C+c:=fun t ht=>by have:=h.bd t ht;exact kj (by unfold tI;omega)
 rw [DM v c h.srt hw];refine ⟨⟨(Ac v c ts h.srt).filter _,fun t ht => ?_,fun t ht => ?_,?_⟩,fun f => ?_⟩
 ·have:=(List.mem_filter.1 ht).2;simpa [YtlhcekghjfjajaaGreatDoor.nz] using this
 ·rcases vT v c ts t (List.mem_filter.1 ht).1 with h3 | ⟨_,h3 | ⟨u,hu,h3⟩⟩
  ·have:=h.bd t h3;omega
  ·omega
  ·have:=h.bd u hu;omega
 ·have:=List.length_filter_le Go.Proofs.YtlhcekghjfjajaaGreatDoor.nz (nr v c ts);have:=Bb v c ts;have:=h.len;omega
 ·rw [Bo,Ae]
theorem Gd {m:List (aw×Int)}:(m.map (·.1)).Nodup→∀ {e:aw×Int},e∈m→bn 0 e.1 m=e.2:=by
 induction m with
 | nil=>intro _ e h;cases h
 | cons p m ih =>
  obtain ⟨k,u⟩:=p;intro h e he;rw [List.map_cons,List.nodup_cons] at h;rcases List.mem_cons.1 he with rfl | he
  ·simp [bn]
  ·have hne:k≠e.1:=fun e2=>h.1 (by rw [e2];exact List.mem_map.2 ⟨e,he,rfl⟩);simp only [bn,if_neg hne];exact ih h.2 he
def yN (m:List (aw×Int)):List ak:=(j9 (bp m)).map fun k=>ak.mk k (bn 0 k m)
theorem zi {m:List (aw×Int)} (h:(m.map (·.1)).Nodup):(bp m).Nodup:=List.Nodup.sublist (List.Sublist.map _ List.filter_sublist) h
theorem GW {m:List (aw×Int)} (h:(m.map (·.1)).Nodup):Ek (yN m)∧Nz (yN m)∧∀ f,bW f (yN m)=ky f m:=by
 refine ⟨?_,fun t ht => ?_,fun f => ?_⟩
 ·have h1:=nF (bp m);have h2:(j9 (bp m)).Nodup:=(gq (bp m)).nodup_iff.2 (zi h);unfold Ek yN;rw [List.pairwise_map];refine (h1.and h2).imp fun {a b} hab => ?_;rcases kW a b with hl | he | hl
  ·exact hl
  ·exact absurd he hab.2
  ·exact absurd (vP _ _ hab.1 (HJ hl)) hab.2
 ·unfold yN at ht;obtain ⟨k,hk,rfl⟩:=List.mem_map.1 ht;have hk:=(gq (bp m)).mem_iff.1 hk;unfold bp at hk;obtain ⟨e,he,rfl⟩:=List.mem_map.1 hk;obtain ⟨he1,he2⟩:=List.mem_filter.1 he;show bn 0 e.1 m≠0;rw [Gd h he1];simpa using he2
 ·unfold yN;rw [sA f ((gq (bp m)).map _),rS f m h]
theorem ve (n:Int) (m:List (aw×Int)):nZ n m (j9 (bp m))=yt (Linear.mk n (yN m)):=rfl
theorem xp {l:Linear} (h:au l=true):Ek l.Terms:=by have:=vb h;rw [List.pairwise_map] at this;exact this
theorem gf {l:Linear} (h:au l=true):Nz l.Terms:=by
 intro t ht;obtain ⟨j,hj,rfl⟩:=List.getElem_of_mem ht;simp only [au,Kd,Ko] at h;have:=h.1 j (by simpa using hj);have e:wM l j=l.Terms[j]:=by simp [wM,Kb,Kc hj]
 simp only [jD,e,Kd,Bool.not_eq_true',beq_eq_false_iff_ne] at this;exact this.2.1
theorem G3:∀ ts:List ak,bW (fun _=>0) ts=0
 | []=>rfl
 | t::ts=>by simp only [bW,G3 ts];omega
theorem HE:∀ m:List (aw×Int),ky (fun _=>0) m=0
 | []=>rfl
 | (k,c)::m=>by simp only [ky,HE m];omega
theorem Aw {n n':Int} {m:List (aw×Int)} {ts:List ak} (h:(m.map (·.1)).Nodup) (h1:Ek ts) (h2:Nz ts) (hf:∀ f,n+ky f m=n'+bW f ts):yt (Linear.mk n (yN m))=yt (Linear.mk n' ts):=by
 obtain ⟨r1,r2,r3⟩:=GW h;have e:n=n':=by have:=hf (fun _=>0);rw [HE,G3] at this;omega
 have e2:yN m=ts:=vC _ _ r1 r2 h1 h2 fun f=>by have:=hf f;rw [r3 f];omega
 rw [e,e2]
def mK (n:Int) (ts:List ak) (x:Linear) (k:Int):Int×List ak:=(aD (n+aD (k*x.Const)),x.Terms.foldl (fun ts t=>lY ts t.Var (aD (k*t.C))) ts)
theorem As (k:Int) (hk : -1000000≤k∧k≤1000000):∀ (xs:List ak) (ts:List ak) (B:Int) (K:Nat),(∀ t∈xs,-1000000≤t.C∧t.C≤1000000)→RB B K ts→0≤B→B+(xs.length:Int)*1000000000000≤9000000000000000000 →
 RB (B+(xs.length:Int)*1000000000000) (K+xs.length) (xs.foldl (fun ts t=>lY ts t.Var (aD (k*t.C))) ts)∧∀ f,bW f (xs.foldl (fun ts t=>lY ts t.Var (aD (k*t.C))) ts)=bW f ts+k*bW f xs
 | [],ts,B,K,_,h,_,_=>⟨by simpa using h,fun f=>by simp [bW]⟩
 | x::xs,ts,B,K,hC,h,hB,hle=>by
  obtain ⟨c1,c2⟩:=hC x (by simp);obtain ⟨b1,b2⟩:=prod_bound hk.1 hk.2 c1 c2;have hlen:(((x::xs).length:Nat):Int)=(xs.length:Int)+1:=by simp
  rw [hlen] at hle;have hle':B+((xs.length:Int)*1000000000000+1000000000000)≤9000000000000000000:=by rw [Int.add_mul] at hle;omega
  have hp:0≤(xs.length:Int)*1000000000000:=by omega
  have e:aD (k*x.C)=k*x.C:=kj (by unfold tI;omega);obtain ⟨p1,p2⟩:=h.plus x.Var (c:=k*x.C) (A:=1000000000000) hB (by omega) (by omega) (by omega);obtain ⟨g1,g2⟩:=As k hk xs (lY ts x.Var (k*x.C)) (B+1000000000000) (K+1) (fun y hy=>hC y (by simp [hy])) p1 (by omega) (by omega);rw [List.foldl_cons,e,hlen];refine ⟨?_,fun f => ?_⟩
  ·have e1:B+1000000000000+(xs.length:Int)*1000000000000=B+((xs.length:Int)+1)*1000000000000:=by rw [Int.add_mul];omega
   have e2:K+1+xs.length=K+(x::xs).length:=by simp;omega
   rw [← e1,← e2];exact g1
  ·rw [g2 f,p2 f];simp only [bW];rw [Int.mul_add,zR];omega
def Hc (bs:List Bind) (v:aw):Linear:=bif decide (idxOf (kf 1 v) bs<0) then Linear.mk 0 [ak.mk v 1] else (bs.getD (idxOf (kf 1 v) bs).toNat rB).Dim
def rG (bs:List Bind) (t:ak) (s:Int×List ak):gj (Int×List ak) (Int×List ak) (Linear×Int) :=
 bif au (Hc bs t.Var) then .go (mK s.1 s.2 (Hc bs t.Var) t.C) else .ret (Linear.mk 0 [],1)
theorem D3 {v:aw} (h:dP v=true):au (Linear.mk 0 [ak.mk v 1])=true:=by have e:wM (Linear.mk 0 [ak.mk v 1]) 0=ak.mk v 1:=rfl;unfold au;simp only [List.length_cons,List.length_nil];simp [jD,e,h,Bd]
def Rt (j:Nat) (s:Int×List ak):Prop:=RB ((j:Int)*12000000000000) (12*j) s.2 ∧ -(1000000+(j:Int)*1000000000000)≤s.1∧s.1≤1000000+(j:Int)*1000000000000
theorem GN (bs:List Bind) (t:ak) (j:Nat) (hj:j<12) (ht:(-1000000≤t.C∧t.C≤1000000)∧dP t.Var=true) (s s':Int×List ak) (hs:Rt j s) (h:rG bs t s = .go s') :
 Rt (j+1) s'∧∀ f,s'.1+bW f s'.2=s.1+bW f s.2+t.C*sv bs f t.Var:=by
 have ej:((j+1:Nat):Int)*12000000000000=(j:Int)*12000000000000+12000000000000:=by omega
 obtain ⟨h1,h2,h3⟩:=hs;have esv:∀ f,ln f (Hc bs t.Var)=sv bs f t.Var:=fun f=>by
  unfold Hc sv;cases decide (idxOf (kf 1 t.Var) bs<0)
  ·rfl
  ·simp [ln,bW]
 unfold rG at h;generalize Hc bs t.Var=D at h esv;cases hv:au D with
 | false=>rw [hv,cond_false] at h;cases h
 | true =>
  rw [hv,cond_true] at h;have e:s'=mK s.1 s.2 D t.C:=by injection h with h;exact h.symm
  subst e;obtain ⟨k1,k2⟩:=j6 hv;have hl:=bE hv;obtain ⟨b1,b2⟩:=prod_bound ht.1.1 ht.1.2 k1 k2;obtain ⟨g1,g2⟩:=As t.C ht.1 D.Terms s.2 ((j:Int)*12000000000000) (12*j) (fun x hx=>(cA hv x hx).1) h1 (by omega) (by omega);have hw:aD (s.1+aD (t.C*D.Const))=s.1+t.C*D.Const:=by rw [kj (n:=t.C*D.Const) (by unfold tI;omega),kj (by unfold tI;omega)]
  refine ⟨⟨g1.mono (by omega) (by omega),?_,?_⟩,fun f => ?_⟩
  ·simp only [mK,hw];omega
  ·simp only [mK,hw];omega
  ·simp only [mK,hw,g2 f];rw [← esv f];simp only [ln];rw [Int.mul_add];omega
theorem Eg (bs:List Bind) (c:Int) (ts:List ak):∀ (j:Nat) (s:Int×List (aw×Int)) (s':Int×List ak),j+ts.length≤12→(∀ t∈ts,(-1000000≤t.C∧t.C≤1000000)∧dP t.Var=true)→St j c s→Rt j s'→(∀ f,s.1+ky f s.2=s'.1+bW f s'.2) →
 (∃ u u',dq (xb bs) (fun s=>s) ts s = .brk u∧dq (rG bs) (fun s=>s) ts s' = .brk u'∧St (j+ts.length) c u∧Rt (j+ts.length) u'∧∀ f,u.1+ky f u.2=u'.1+bW f u'.2)∨(dq (xb bs) (fun s=>s) ts s = .ret (Linear.mk 0 [],1)∧dq (rG bs) (fun s=>s) ts s' = .ret (Linear.mk 0 [],1)):=by
 induction ts with
 | nil=>exact fun j s s' _ _ h1 h2 h3=>.inl ⟨s,s',rfl,rfl,h1,h2,h3⟩
 | cons t ts ih =>
  intro j s s' hj hC hs hs' hf;have hj':j+1+ts.length≤12:=by simp at hj;omega
  have ht:=hC t (by simp);have g1:=fun f u=>zO bs f t c j (by simp at hj;omega) ht s u hs;have g2:=fun u=>GN bs t j (by simp at hj;omega) ht s' u hs';have hcase:(∃ u u',xb bs t s = .go u∧rG bs t s' = .go u')∨(xb bs t s = .ret (Linear.mk 0 [],1)∧rG bs t s' = .ret (Linear.mk 0 [],1)):=by
   unfold xb rG Hc;cases h0:decide (idxOf (kf 1 t.Var) bs<0) with
   | true =>
    simp only [cond_true,D3 ht.2];exact .inl ⟨_,_,rfl,rfl⟩
   | false =>
    simp only [cond_false];cases au (bs.getD (idxOf (kf 1 t.Var) bs).toNat rB).Dim with
    | false=>exact .inr ⟨rfl,rfl⟩
    | true=>exact .inl ⟨_,_,rfl,rfl⟩
  simp only [dq];rcases hcase with ⟨u,u',e1,e2⟩ | ⟨e1,e2⟩
  ·rw [e1,e2];have k1:=fun f=>g1 f u e1;obtain ⟨k2,k3⟩:=g2 u' e2;rcases ih (j+1) u u' hj' (fun x hx=>hC x (by simp [hx])) (k1 (fun _=>0)).1 k2 (fun f=>by have:=(k1 f).2;have:=k3 f;have:=hf f;omega) with ⟨v,v',a1,a2,a3,a4,a5⟩ | ⟨a1,a2⟩
   ·refine .inl ⟨v,v',a1,a2,?_,?_,a5⟩
    ·rw [show j+(t::ts).length=j+1+ts.length by simp;omega];exact a3
    ·rw [show j+(t::ts).length=j+1+ts.length by simp;omega];exact a4
   ·exact .inr ⟨a1,a2⟩
  ·rw [e1,e2];exact .inr ⟨rfl,rfl⟩
def Is (o:Out (Int×List ak) (Linear×Int)):Linear×Int:=match o with | .brk u=>yt (Linear.mk u.1 u.2) | .ret r=>r
theorem Hg (bs:List Bind) (l:Linear) (h:au l=true):Is (dq (rG bs) (fun s=>s) l.Terms (l.Const,[]))=uj bs l∧(∀ u,dq (rG bs) (fun s=>s) l.Terms (l.Const,[]) = .brk u→u.2.length≤144):=by
 obtain ⟨k1,k2⟩:=j6 h;have hl:=bE h;have h0:Rt 0 (l.Const,[]):=⟨RB.nil,by simp only;omega,by simp only;omega⟩;unfold uj;rw [h,cond_true];rcases Eg bs l.Const l.Terms 0 (l.Const,[]) (l.Const,[]) (by omega) (cA h) (JU l h) h0 (fun f=>rfl) with ⟨u,u',e1,e2,e3,e4,e5⟩ | ⟨e1,e2⟩
 ·rw [e1,e2];refine ⟨?_,fun w hw => ?_⟩
  ·simp only [DQ,Is];rw [ve];exact (Aw e3.1.nd e4.1.srt e4.1.nz e5).symm
  ·injection hw with hw
   subst hw;have:=e4.1.len;omega
 ·rw [e1,e2];exact ⟨rfl,fun w hw=>by cases hw⟩
theorem Ef (bs:List Bind) (p:Bind→Bool):∀ x:Option Nat,(match x with | some j=>((j:Nat):Int) | none => -1)=idxOf p bs →
 ((some (match x with | some j=>Out.ret ((bs.getD j rB).Dim,true) | none=>Out.brk ()):Option (Out Unit (Linear×Bool))).bind (Sh.aft fun _=>some ((Linear.mk 0 []),false)))=some (bif decide (idxOf p bs<0) then ((Linear.mk 0 []),false) else ((bs.getD (idxOf p bs).toNat rB).Dim,true))
 | none,hx=>by rw [← hx];rfl
 | some j,hx=>by have hx:((j:Nat):Int)=idxOf p bs:=hx;rw [← hx,Kh (by omega)];rfl
theorem vr (bs:List Bind) (v:aw):jT bs v=some (bif decide (idxOf (kf 1 v) bs<0) then ((Linear.mk 0 []),false) else ((bs.getD (idxOf (kf 1 v) bs).toNat rB).Dim,true)):=by
 unfold jT;rw [qG (f:=fun j=>((bs.getD j rB).Dim,true)) (fun j=>kf 1 v (bs.getD j rB)) _ _ () (fun j u _ _=>by
  unfold kf;cases (bs.getD j rB).Kind==1
  ·rfl
  ·cases (bs.getD j rB).Var==v<;>rfl)]
 exact Ef bs (kf 1 v) _ (sd (kf 1 v) rB bs)
theorem yy (v:aw):jA v=some (Linear.mk 0 [ak.mk v 1]):=by unfold jA;rfl
theorem oR (k:Int):∀ (xs ts:List ak),(xs.foldl (fun ts t=>lY ts t.Var (aD (k*t.C))) ts).length≤ts.length+xs.length
 | [],ts=>by simp
 | x::xs,ts=>by have h1:=oR k xs (lY ts x.Var (aD (k*x.C)));have h2:=xa ts x.Var (aD (k*x.C));simp only [List.foldl_cons,List.length_cons];omega
theorem rz {α σ ρ:Type} (g:α→σ→σ):∀ (l:List α) (s:σ),dq (ε:=σ) (ρ:=ρ) (fun x s=>gj.go (g x s)) (fun s=>s) l s = .brk (l.foldl (fun s x=>g x s) s)
 | [],s=>rfl
 | x::l,s=>by simp only [dq,List.foldl_cons];exact rz g l (g x s)
theorem vI {α β γ:Type} (g:β→α→β) (a:γ):∀ (l:List α) (b:β),l.foldl (fun (s:γ×β) x=>(s.1,g s.2 x)) (a,b)=(a,l.foldl g b)
 | [],b=>rfl
 | x::l,b=>by simp only [List.foldl_cons];exact vI g a l (g b x)
theorem uq (l x:Linear) (k:Int) (h1:l.Terms.length≤1000) (h2:x.Terms.length≤1000):fg l x k=some (Linear.mk (mK l.Const l.Terms x k).1 (mK l.Const l.Terms x k).2):=by
 unfold fg;rw [az (by omega)];rw [dx (fin:=fun _ s=>(s.1,s.2)) (f:=fun s=>s) ⟨[],0⟩ x.Terms (fun t s=>gj.go (s.1,lY s.2 t.Var (aD (k*t.C)))) (fun j s=>s.2.length≤1000+j) (fun _ _=>rfl) _ (by simpa using h1) (fun j s hj hI=>⟨by
  rw [Hd _ _ _ (by simp only;omega)];rfl,fun s' e=>by
  injection e with e
  subst e;have:=xa s.2 (x.Terms.getD j ⟨[],0⟩).Var (aD (k*(x.Terms.getD j ⟨[],0⟩).C));simp only;omega⟩)]
 rw [rz (fun (t:ak) (s:Int×List ak)=>(s.1,lY s.2 t.Var (aD (k*t.C)))),vI (fun ts (t:ak)=>lY ts t.Var (aD (k*t.C)))];rfl
theorem BA (n:Int) (ts:List ak) (x:Linear) (k:Int):(mK n ts x k).2.length≤ts.length+x.Terms.length:=oR k x.Terms ts
theorem vt (l:Linear) (bs:List Bind):jW l bs=some (uj bs l):=by
 unfold jW;rw [je];simp only [Option.bind_some];cases hv:au l with
 | false=>unfold uj;rw [hv];rfl
 | true =>
  simp only [cond_true];have hl:=bE hv;rw [dx (fin:=fun _ s=>(s.1,s.2)) (f:=fun s=>s) ⟨[],0⟩ l.Terms (rG bs) (fun j s=>s.2.length≤12*j) (fun _ _=>rfl) (l.Const,[]) (by simp) (fun j s hj hI=>by
   rw [vr];generalize l.Terms.getD j ⟨[],0⟩=t;have hb:∀ (o:Option (gj (Int×List ak) (Int×List ak) (Linear×Int))),o=some (rG bs t s)→(o=some (rG bs t s)∧∀ s',rG bs t s = .go s'→s'.2.length≤12*(j+1)):=fun o ho=>⟨ho,fun s' e=>by
    unfold rG at e;cases hw:au (Hc bs t.Var) with
    | false=>rw [hw] at e;cases e
    | true =>
     rw [hw,cond_true] at e;injection e with e
     subst e;have:=BA s.1 s.2 (Hc bs t.Var) t.C;have:=bE hw;omega⟩
   refine hb _ ?_;have hlen:∀ D:Linear,au D=true→fg (Linear.mk s.1 s.2) D t.C=some (Linear.mk (mK s.1 s.2 D t.C).1 (mK s.1 s.2 D t.C).2):=fun D hD=>by have:=bE hD;exact uq _ D t.C (by simp only;omega) (by omega)
   simp only [Option.bind_some,rG,Hc];cases h0:decide (idxOf (kf 1 t.Var) bs<0) with
   | true =>
    simp only [cond_true,cond_false];rw [yy];simp only [Option.bind_some];rw [je];simp only [Option.bind_some];cases hw:au (Linear.mk 0 [ak.mk t.Var 1]) with
    | false=>rfl
    | true=>simp only [cond_true];rw [hlen _ hw];rfl
   | false =>
    simp only [cond_true,cond_false,Option.bind_some];generalize (bs.getD (idxOf (kf 1 t.Var) bs).toNat rB).Dim=D at *;rw [pZ,je];simp only [Option.bind_some];cases hw:au D with
    | false=>rfl
    | true=>simp only [cond_true];rw [hlen _ hw];rfl)]
  obtain ⟨h1,h2⟩:=Hg bs l hv;rw [← h1];generalize dq (rG bs) (fun s=>s) l.Terms (l.Const,[])=o;cases o with
  | ret r=>rfl
  | brk u =>
   simp only [Option.bind_some,Sh.aft,Is];rw [B6];rfl
theorem bR {n:Int} (h1 : -9223372036854775808≤n) (h2:n≤9223372036854775807):aD n=n:=by unfold aD IntKind.wrap IntKind.bits IntKind.signed;simp;omega
theorem tP {σ ε ρ:Type} {body:Nat→σ→Option (gj σ ε ρ)} {fin:Nat→σ→ε} (I:Nat→σ→Prop):∀ (k i:Nat) (s:σ),I i s→(∀ j s,i≤j→j<i+k→I j s→∃ s',body j s=some (.go s')∧I (j+1) s') →
 ∃ s',dO body fin k i s=some (.brk (fin (i+k) s'))∧I (i+k) s'
 | 0,i,s,hI,h=>⟨s,by simp [dO],hI⟩
 | k+1,i,s,hI,h=>by obtain ⟨s1,h1,h2⟩:=h i s (Nat.le_refl _) (by omega) hI;obtain ⟨s',e1,e3⟩:=tP I k (i+1) s1 h2 (fun j s h1 h2=>h j s (by omega) (by omega));refine ⟨s',?_,by rw [show i+(k+1)=i+1+k by omega];exact e3⟩;simp only [dO,h1,Option.bind_some,yO];rw [e1,show i+1+k=i+(k+1) by omega]
def ko (n:Int):Bool:=decide (-4611686018427387904≤n)&&decide (n≤4611686018427387904)
theorem ku {n:Int}:ko n=true ↔ -4611686018427387904≤n∧n≤4611686018427387904:=by simp [ko]
theorem fH (l:List Int):eM l=some (l.all ko):=by
 unfold eM;rw [gX (fun j=>ko (l.getD j 0)) _ _ () (fun j u _ _=>by
  generalize l.getD j 0=n;unfold ko;have e1:decide (n < -4611686018427387904) = !(decide (-4611686018427387904≤n)):=by rw [Bool.eq_iff_iff];simp
  have e2:decide (n>4611686018427387904) = !(decide (n≤4611686018427387904)):=by rw [Bool.eq_iff_iff];simp
  rw [e1,e2];cases decide (-4611686018427387904≤n)<;>cases decide (n≤4611686018427387904)<;>rfl),mf,Jc ko 0 l]
 cases l.all ko<;>rfl
theorem jH {a:Int} (h:ko a=true):cE a=some (a.natAbs:Int)∧a.natAbs≤4611686018427387904:=by
 rw [ku] at h;unfold cE;by_cases h0:a<0
 ·rw [Ki h0];simp only [cond_true,Kl];rw [bR (by omega) (by omega)];omega
 ·rw [Kh h0];simp only [cond_false,Kl];omega
theorem wrap_u64 {n:Int} (h0:0≤n) (h:n<18446744073709551616):IntKind.wrap .u64 n=n:=by unfold IntKind.wrap IntKind.bits IntKind.signed;simp;omega
theorem wrap_i64 {n:Int} (h0:0≤n) (h:n≤9223372036854775807):IntKind.wrap .i64 n=n:=bR (by omega) h
def mulR (a b:Int):Int×Int:=bif ko a&&(ko b&&ko (a*b)) then (a*b,0) else (0,2)
theorem xD (a b:Int):((decide (a<0)==decide (b<0))=true→a*b=((a.natAbs*b.natAbs:Nat):Int))∧((decide (a<0)==decide (b<0))=false→a*b = -((a.natAbs*b.natAbs:Nat):Int)):=by
 rcases Int.natAbs_eq a with ha | ha<;>rcases Int.natAbs_eq b with hb | hb;all_goals
  generalize a.natAbs=x at ha ⊢;generalize b.natAbs=y at hb ⊢;subst ha;subst hb
 ·refine ⟨fun _=>by push_cast;rfl,fun h => ?_⟩;rw [Kh (by omega),Kh (by omega)] at h;cases h
 ·constructor
  ·intro h;by_cases hy:y=0
   ·subst hy;simp
   ·rw [Kh (by omega),Ki (by omega)] at h;cases h
  ·intro _;rw [Int.mul_neg];push_cast;rfl
 ·constructor
  ·intro h;by_cases hx:x=0
   ·subst hx;simp
   ·rw [Ki (by omega),Kh (by omega)] at h;cases h
  ·intro _;rw [Int.neg_mul];push_cast;rfl
 ·constructor
  ·intro _;rw [Int.neg_mul_neg];push_cast;rfl
  ·intro h;by_cases hx:x=0
   ·subst hx;simp
   ·by_cases hy:y=0
    ·subst hy;simp
    ·rw [Ki (by omega),Ki (by omega)] at h;cases h
theorem cC {α β:Type} (x:α) (f:α→Option β):(some x).bind f=f x:=Eq.trans (Option.bind_some x f) rfl
theorem zv {x y:Int} (hx:0≤x∧x<18446744073709551616) (hy:0≤y∧y<18446744073709551616):kE x y=some (x*y / 18446744073709551616,x*y % 18446744073709551616):=if_pos ⟨hx,hy⟩
theorem lW (a b:Int):eA a b=some (mulR a b):=by
 unfold eA mulR;rw [fH];simp only [List.all_cons,List.all_nil,Bool.and_true,cC];cases ha:ko a with
 | false=>rfl
 | true =>
  cases hb:ko b with
  | false=>rfl
  | true =>
   obtain ⟨a1,a2⟩:=jH ha;obtain ⟨b1,b2⟩:=jH hb;simp only [Bool.true_and,cond_true];rw [a1,b1];simp only [cC];rw [wrap_u64 (by omega) (by omega),wrap_u64 (by omega) (by omega),zv ⟨by omega,by omega⟩ ⟨by omega,by omega⟩];obtain ⟨s1,s2⟩:=xD a b;have hP:((a.natAbs:Int)*(b.natAbs:Int))=((a.natAbs*b.natAbs:Nat):Int):=by push_cast;rfl
   rw [hP];generalize a.natAbs*b.natAbs=P at s1 s2 ⊢;generalize hhi:(P:Int) / 18446744073709551616=hi;generalize hlo:(P:Int) % 18446744073709551616=lo;simp only [cC];by_cases hbig:P≤4611686018427387904
   ·rw [Kh (show ¬ (hi>0) by omega),Kh (show ¬ (lo>4611686018427387904) by omega)];simp only [cond_false];have em:lo=P:=by omega
    rw [em,wrap_i64 (by omega) (by omega)];cases hs:(decide (a<0)==decide (b<0)) with
    | true =>
     rw [s1 hs];have:ko (P:Int)=true:=ku.2 ⟨by omega,by omega⟩;rw [this];rfl
    | false =>
     rw [s2 hs];have:ko (-(P:Int))=true:=ku.2 ⟨by omega,by omega⟩;rw [this,bR (by omega) (by omega),Int.zero_sub];rfl
   ·have hab:ko (a*b)=false:=by
     have:¬ (ko (a*b)=true):=by
      rw [ku];cases hs:(decide (a<0)==decide (b<0)) with
      | true=>rw [s1 hs];omega
      | false=>rw [s2 hs];omega
     simpa using this
    rw [hab];by_cases hq:hi>0
    ·rw [Ki hq];rfl
    ·rw [Kh hq,Ki (show lo>4611686018427387904 by omega)];rfl
def v3 (a b c:Int):Int:=a+b*18446744073709551616+c*340282366920938463463374607431768211456
def lm (x:Int):Prop:=0≤x∧x<18446744073709551616
theorem FL {x y c:Int} (hx:lm x) (hy:lm y) (hc:0≤c∧c≤1):dU x y c=some ((x+y+c) % 18446744073709551616,(x+y+c) / 18446744073709551616):=if_pos ⟨hx,hy,hc⟩
theorem uS {x y c:Int} (hx:lm x) (hy:lm y) (hc:0≤c∧c≤1):∃ r d,dU x y c=some (r,d)∧lm r∧(0≤d∧d≤1)∧r+d*18446744073709551616=x+y+c:=by refine ⟨_,_,FL hx hy hc,?_⟩;unfold lm at *;generalize hs:x+y+c=s;omega
theorem Fy {x y:Int} (hx:lm x) (hy:lm y):∃ hi lo,kE x y=some (hi,lo)∧lm lo∧lo+hi*18446744073709551616=x*y∧0≤hi:=by refine ⟨_,_,zv hx hy,?_⟩;have h0:0≤x*y:=Int.mul_nonneg hx.1 hy.1;unfold lm;generalize x*y=s at h0;omega
theorem Dv {x0 x1 x2 hi lo:Int} (h0:lm x0) (h1:lm x1) (h2:lm x2) (hh:lm hi) (hl:lm lo) (hs:v3 x0 x1 x2+lo+hi*18446744073709551616<6277101735386680763835789423207666416102355444464034512896) :
 ∃ r0 r1 r2 c0 c1 c2,dU x0 lo 0=some (r0,c0)∧dU x1 hi c0=some (r1,c1)∧dU x2 0 c1=some (r2,c2)∧lm r0∧lm r1∧lm r2∧v3 r0 r1 r2=v3 x0 x1 x2+lo+hi*18446744073709551616:=by
 obtain ⟨r0,c0,e0,l0,d0,s0⟩:=uS h0 hl (c:=0) (by omega);obtain ⟨r1,c1,e1,l1,d1,s1⟩:=uS h1 hh d0;obtain ⟨r2,c2,e2,l2,d2,s2⟩:=uS h2 (y:=0) (by unfold lm;omega) d1;refine ⟨r0,r1,r2,c0,c1,c2,e0,e1,e2,l0,l1,l2,?_⟩;unfold lm v3 at *;omega
theorem x8 {a b p0 p1 p2 n0 n1 n2 K:Int} (ha:ko a=true) (hb:ko b=true) (h0:lm p0) (h1:lm p1) (h2:lm p2) (g0:lm n0) (g1:lm n1) (g2:lm n2) (hK:v3 p0 p1 p2+v3 n0 n1 n2≤K) (hK2:K≤6277101735386680763835789423207666416102355444464034512896-21267647932558653966460912964485513216-1) :
 ∃ q0 q1 q2 m0 m1 m2,cQ a b p0 p1 p2 n0 n1 n2=some (q0,q1,q2,m0,m1,m2)∧lm q0∧lm q1∧lm q2∧lm m0∧lm m1∧lm m2∧v3 q0 q1 q2-v3 m0 m1 m2=v3 p0 p1 p2-v3 n0 n1 n2+a*b∧v3 q0 q1 q2+v3 m0 m1 m2≤K+21267647932558653966460912964485513216:=by
 obtain ⟨a1,a2⟩:=jH ha;obtain ⟨b1,b2⟩:=jH hb;obtain ⟨s1,s2⟩:=xD a b;obtain ⟨hi,lo,em,hlo,hsum,hhi⟩:=Fy (x:=(a.natAbs:Int)) (y:=(b.natAbs:Int)) (by unfold lm;omega) (by unfold lm;omega);have hP:((a.natAbs:Int)*(b.natAbs:Int))=((a.natAbs*b.natAbs:Nat):Int):=by push_cast;rfl
 have hPb:a.natAbs*b.natAbs≤21267647932558653966460912964485513216:=by have:=Nat.mul_le_mul a2 b2;exact this
 rw [hP] at hsum;have wa:=wrap_u64 (n:=(a.natAbs:Int)) (by omega) (by omega);have wb:=wrap_u64 (n:=(b.natAbs:Int)) (by omega) (by omega);have v0:0≤v3 p0 p1 p2:=by unfold lm v3 at *;omega
 have v1:0≤v3 n0 n1 n2:=by unfold lm v3 at *;omega
 generalize a.natAbs*b.natAbs=Pn at s1 s2 hsum hPb;have hhi2:lm hi:=by unfold lm at *;omega
 unfold cQ;cases hs:(decide (a<0)==decide (b<0)) with
 | true =>
  obtain ⟨r0,r1,r2,c0,c1,c2,e0,e1,e2,l0,l1,l2,hv⟩:=Dv h0 h1 h2 hhi2 hlo (by omega);refine ⟨r0,r1,r2,n0,n1,n2,?_,l0,l1,l2,g0,g1,g2,?_,?_⟩
  ·simp only [cond_true];rw [a1,b1];simp only [cC];rw [wa,wb,em];simp only [cC];rw [e0];simp only [cC];rw [e1];simp only [cC];rw [e2];simp only [cC]
  ·rw [hv,s1 hs];omega
  ·rw [hv];omega
 | false =>
  obtain ⟨r0,r1,r2,c0,c1,c2,e0,e1,e2,l0,l1,l2,hv⟩:=Dv g0 g1 g2 hhi2 hlo (by omega);refine ⟨p0,p1,p2,r0,r1,r2,?_,h0,h1,h2,l0,l1,l2,?_,?_⟩
  ·simp only [cond_false];rw [a1,b1];simp only [cC];rw [wa,wb,em];simp only [cC];rw [e0];simp only [cC];rw [e1];simp only [cC];rw [e2];simp only [cC]
  ·rw [hv,s2 hs];omega
  ·rw [hv];omega
theorem wF {x y c:Int} (hx:lm x) (hy:lm y) (hc:0≤c∧c≤1):∃ r d,kJ x y c=some (r,d)∧lm r∧(0≤d∧d≤1)∧r=x-y-c+d*18446744073709551616:=by have e:kJ x y c=some ((x-y-c) % 18446744073709551616,if x<y+c then 1 else 0):=if_pos ⟨hx,hy,hc⟩;refine ⟨_,_,e,?_⟩;unfold lm at *;generalize hs:x-y-c=s;split<;>omega
theorem uG {a0 a1 a2 b0 b1 b2:Int} (h0:lm a0) (h1:lm a1) (h2:lm a2) (g0:lm b0) (g1:lm b1) (g2:lm b2) :
 ∃ r0 r1 r2 k,cG (a0,a1,a2) (b0,b1,b2)=some ((r0,r1,r2),k)∧(v3 b0 b1 b2≤v3 a0 a1 a2→k=true∧lm r0∧lm r1∧lm r2∧v3 r0 r1 r2=v3 a0 a1 a2-v3 b0 b1 b2)∧(v3 a0 a1 a2<v3 b0 b1 b2→k=false):=by
 obtain ⟨r0,c0,e0,l0,d0,s0⟩:=wF h0 g0 (c:=0) (by omega);obtain ⟨r1,c1,e1,l1,d1,s1⟩:=wF h1 g1 d0;obtain ⟨r2,c2,e2,l2,d2,s2⟩:=wF h2 g2 d1;refine ⟨r0,r1,r2,c2==0,?_,fun h => ?_,fun h => ?_⟩
 ·unfold cG;rw [e0];simp only [cC];rw [e1];simp only [cC];rw [e2];simp only [cC]
 ·unfold lm v3 at *;refine ⟨?_,l0,l1,l2,by omega⟩;have:c2=0:=by omega
  rw [this];rfl
 ·unfold lm v3 at *;have:c2=1:=by omega
  rw [this];rfl
theorem uT (n:Int) (h:ko n=true):dT n=some (n,0):=by unfold dT;rw [fH];simp only [List.all_cons,List.all_nil,h,Bool.and_true,cC,cond_true]
def BP (S:Int):Int×Int:=bif ko S then (S,0) else (0,2)
theorem ng {S:Int} (h:S < -4611686018427387904∨4611686018427387904<S):BP S=(0,2):=by
 have:ko S=false:=by
  have:¬ ko S=true:=by rw [ku];omega
  simpa using this
 unfold BP;rw [this];rfl
theorem Dp {S:Int} (h:ko S=true):BP S=(S,0):=by unfold BP;rw [h];rfl
theorem uX {a0 a1 a2 b0 b1 b2:Int} (h0:lm a0) (h1:lm a1) (h2:lm a2) (g0:lm b0) (g1:lm b1) (g2:lm b2):cD a0 a1 a2 b0 b1 b2=some (BP (v3 a0 a1 a2-v3 b0 b1 b2)):=by
 obtain ⟨r0,r1,r2,k,e1,k1,k2⟩:=uG h0 h1 h2 g0 g1 g2;obtain ⟨t0,t1,t2,j,e2,j1,j2⟩:=uG g0 g1 g2 h0 h1 h2;unfold cD;rw [e1];simp only [cC];by_cases hge:v3 b0 b1 b2≤v3 a0 a1 a2
 ·obtain ⟨hk,l0,l1,l2,hv⟩:=k1 hge;rw [hk];simp only [cond_true];by_cases q1:r1>0
  ·rw [Ki q1,ng (by unfold lm v3 at *;omega)];rfl
  ·rw [Kh q1];simp only [cond_false];by_cases q2:r2>0
   ·rw [Ki q2,ng (by unfold lm v3 at *;omega)];rfl
   ·rw [Kh q2];simp only [cond_false];by_cases q0:r0>4611686018427387904
    ·rw [Ki q0,ng (by unfold lm v3 at *;omega)];rfl
    ·rw [Kh q0];simp only [cond_false];have e:r0=v3 a0 a1 a2-v3 b0 b1 b2:=by unfold lm v3 at *;omega
     have hin:ko r0=true:=ku.2 (by unfold lm at *;omega);rw [wrap_i64 l0.1 (by omega),Int.one_mul,bR (by unfold lm at *;omega) (by omega),uT r0 hin,← e,Dp hin];simp only [cC]
 ·rw [k2 (by omega)];simp only [cond_false];rw [e2];simp only [cC];obtain ⟨hj,l0,l1,l2,hv⟩:=j1 (by omega);rw [hj];simp only [cond_true];by_cases q1:t1>0
  ·rw [Ki q1,ng (by unfold lm v3 at *;omega)];rfl
  ·rw [Kh q1];simp only [cond_false];by_cases q2:t2>0
   ·rw [Ki q2,ng (by unfold lm v3 at *;omega)];rfl
   ·rw [Kh q2];simp only [cond_false];by_cases q0:t0>4611686018427387904
    ·rw [Ki q0,ng (by unfold lm v3 at *;omega)];rfl
    ·rw [Kh q0];simp only [cond_false];have e : -t0=v3 a0 a1 a2-v3 b0 b1 b2:=by unfold lm v3 at *;omega
     have hin:ko (-t0)=true:=ku.2 (by unfold lm at *;omega);rw [wrap_i64 l0.1 (by omega),show (-1)*t0 = -t0 by omega,bR (by omega) (by unfold lm at *;omega),uT (-t0) hin,← e,Dp hin];simp only [cC]
def I0 (f:Nat→Int):Nat→Int
 | 0=>0
 | j+1=>I0 f j+f j
def JN (a b:List Int) (i:Nat):Int:=a.getD i 0*b.getD i 0
def B2 (a b:List Int):Int×Int:=bif decide (a.length=b.length) then (bif decide (a.length≤10000) then (bif a.all ko&&b.all ko then BP (I0 (JN a b) a.length) else (0,2)) else (0,3)) else (0,1)
def xm (s:Int×Int×Int×Int×Int×Int):Prop:=lm s.1∧lm s.2.1∧lm s.2.2.1∧lm s.2.2.2.1∧lm s.2.2.2.2.1∧lm s.2.2.2.2.2
def JR (s:Int×Int×Int×Int×Int×Int):Int:=v3 s.1 s.2.1 s.2.2.1-v3 s.2.2.2.1 s.2.2.2.2.1 s.2.2.2.2.2
def J5 (s:Int×Int×Int×Int×Int×Int):Int:=v3 s.1 s.2.1 s.2.2.1+v3 s.2.2.2.1 s.2.2.2.2.1 s.2.2.2.2.2
theorem D0 {a b:Int} (ha:ko a=true) (hb:ko b=true) (s:Int×Int×Int×Int×Int×Int) (hl:xm s) (j:Nat) (hj:j<10000) (ht:J5 s≤(j:Int)*21267647932558653966460912964485513216) :
 ∃ s',cQ a b s.1 s.2.1 s.2.2.1 s.2.2.2.1 s.2.2.2.2.1 s.2.2.2.2.2=some s'∧xm s'∧JR s'=JR s+a*b∧J5 s'≤((j+1:Nat):Int)*21267647932558653966460912964485513216:=by
 obtain ⟨q0,q1,q2,m0,m1,m2,e,l0,l1,l2,l3,l4,l5,hd,hs⟩:=x8 (K:=(j:Int)*21267647932558653966460912964485513216) ha hb hl.1 hl.2.1 hl.2.2.1 hl.2.2.2.1 hl.2.2.2.2.1 hl.2.2.2.2.2 ht (by omega);refine ⟨(q0,q1,q2,m0,m1,m2),e,⟨l0,l1,l2,l3,l4,l5⟩,hd,?_⟩;show v3 q0 q1 q2+v3 m0 m1 m2≤_;omega
theorem AW (s:Int×Int×Int×Int×Int×Int) (hl:xm s):cD s.1 s.2.1 s.2.2.1 s.2.2.2.1 s.2.2.2.2.1 s.2.2.2.2.2=some (BP (JR s)) :=
 uX hl.1 hl.2.1 hl.2.2.1 hl.2.2.2.1 hl.2.2.2.2.1 hl.2.2.2.2.2
theorem FK {l:List Int} (h:l.all ko=true) {j:Nat} (hj:j<l.length):ko (l.getD j 0)=true:=by rw [Kb,Kc hj];exact Ko.1 h _ (List.getElem_mem hj)
theorem HV:xm (0,0,0,0,0,0):=by unfold xm lm;simp
theorem vi (a b:List Int):eh a b=some (B2 a b):=by
 unfold eh B2;by_cases hlen:a.length=b.length
 ·rw [Ki hlen,show ((((a.length:Nat):Int)==((b.length:Nat):Int)))=true by simp [hlen]];simp only [cond_true];by_cases h1:a.length≤10000
  ·rw [Ki h1,Kh (by omega)];simp only [cond_true,cond_false];rw [fH,fH];simp only [cC];cases ha:a.all ko with
   | false=>rfl
   | true =>
    cases hb:b.all ko with
    | false=>rfl
    | true =>
     simp only [cond_true,Bool.and_true];obtain ⟨s',e1,hI⟩:=tP (ρ:=Empty) (body:=fun i93 (s92:Int×Int×Int×Int×Int×Int)=>bP (i93<b.length) <| (cQ (a.getD i93 0) (b.getD i93 0) s92.1 s92.2.1 s92.2.2.1 s92.2.2.2.1 s92.2.2.2.2.1 s92.2.2.2.2.2).bind fun y122=>some (.go (y122.1,y122.2.1,y122.2.2.1,y122.2.2.2.1,y122.2.2.2.2.1,y122.2.2.2.2.2)))
      (fin:=fun i93 s92=>(s92.1,s92.2.1,s92.2.2.1,s92.2.2.2.1,s92.2.2.2.2.1,s92.2.2.2.2.2))
      (fun j s=>xm s∧JR s=I0 (JN a b) j∧J5 s≤(j:Int)*21267647932558653966460912964485513216) (a.length-0) 0 (0,0,0,0,0,0) ⟨HV,rfl,by decide⟩ (fun j s _ hj ⟨i1,i2,i3⟩=>by obtain ⟨s',e,l,d,t⟩:=D0 (FK ha (j:=j) (by omega)) (FK hb (j:=j) (by omega)) s i1 j (by omega) i3;refine ⟨s',?_,l,by rw [d,i2];rfl,t⟩;rw [az (by omega),e];rfl)
     rw [e1];show (cD s'.1 s'.2.1 s'.2.2.1 s'.2.2.2.1 s'.2.2.2.2.1 s'.2.2.2.2.2).bind _=_;rw [AW s' hI.1,hI.2.1,Nat.zero_add,Nat.sub_zero];rfl
  ·rw [Kh h1,Ki (by omega)];rfl
 ·rw [Kh hlen,show ((((a.length:Nat):Int)==((b.length:Nat):Int)))=false by rw [beq_eq_false_iff_ne];omega];rfl
def om (x:aw):List ak→Int
 | []=>0
 | t::ts=>if t.Var=x then t.C else om x ts
def cf (l:Linear) (x:aw):Int:=om x l.Terms
def zJ (ts:List ak):Prop:=(ts.map ak.Var).Nodup
def upd (f:aw→Int) (x:aw) (a:Int):aw→Int:=fun v=>if v=x then a else f v
theorem zu (f:aw→Int) (x:aw) (a:Int):upd f x a x=a:=if_pos rfl
theorem ba {f:aw→Int} {x v:aw} {a:Int} (h:v≠x):upd f x a v=f v:=if_neg h
theorem jU {x:aw}:∀ {ts:List ak},x ∉ ts.map ak.Var→om x ts=0
 | [],_=>rfl
 | t::ts,h=>by simp only [List.map_cons,List.mem_cons,not_or] at h;rw [om,if_neg (fun e=>h.1 e.symm),jU h.2]
theorem tT {x:aw}:∀ {ts:List ak},om x ts≠0→∃ t∈ts,t.Var=x∧t.C=om x ts
 | [],h=>absurd rfl h
 | t::ts,h=>by
  by_cases e:t.Var=x
  ·exact ⟨t,by simp,e,by rw [om,if_pos e]⟩
  ·rw [om,if_neg e] at h;obtain ⟨u,hu,h1,h2⟩:=tT h;exact ⟨u,by simp [hu],h1,by rw [om,if_neg e];exact h2⟩
theorem mW {t:ak}:∀ {ts:List ak},zJ ts→t∈ts→om t.Var ts=t.C
 | u::ts,hn,h=>by
  unfold zJ at hn;rw [List.map_cons,List.nodup_cons] at hn;rcases List.mem_cons.1 h with rfl | h
  ·rw [om,if_pos rfl]
  ·have:¬ u.Var=t.Var:=fun e=>hn.1 (by rw [e];exact List.mem_map.2 ⟨t,h,rfl⟩);rw [om,if_neg this];exact mW hn.2 h
theorem uI (f:aw→Int) (x:aw) (a:Int):∀ {ts:List ak},zJ ts→bW (upd f x a) ts=bW f ts+om x ts*(a-f x)
 | [],_=>by simp [bW,om]
 | t::ts,hn=>by
  unfold zJ at hn;rw [List.map_cons,List.nodup_cons] at hn;have ih:=uI f x a (ts:=ts) hn.2;simp only [bW,om];by_cases e:t.Var=x
  ·have h0:om x ts=0:=jU (by rw [← e];exact hn.1);rw [if_pos e,e,zu,ih,h0,Int.zero_mul,Int.mul_sub];omega
  ·rw [if_neg e,ba e,ih];omega
theorem fI {l:Linear} (h:au l=true):zJ l.Terms:=zW h
theorem ud (v:aw):∀ {ts:List ak},zJ ts→bW (ind v) ts=om v ts:=fun {ts} hn=>by
 have h:=uI (fun _=>0) v 1 hn;rw [G3] at h;have e:upd (fun _=>0) v 1=ind v:=by funext x;simp only [upd,ind]
 rw [e] at h;omega
theorem Dx (f:aw→Int) (x:aw) (a:Int) {l:Linear} (h:zJ l.Terms):ln (upd f x a) l=ln f l+cf l x*(a-f x):=by unfold ln cf;rw [uI f x a h];omega
theorem oY (l:Linear):ln (fun _=>0) l=l.Const:=by unfold ln;rw [G3];omega
theorem yV (v:aw) {l:Linear} (h:zJ l.Terms):ln (ind v) l=l.Const+cf l v:=by unfold ln cf;rw [ud v h]
theorem GV {a b:Linear} (ha:au a=true) (hb:au b=true) (h:∀ f,ln f a=ln f b):a=b:=by
 obtain ⟨n,ts⟩:=a;obtain ⟨m,us⟩:=b;have e:n=m:=by have:=h (fun _=>0);rw [oY,oY] at this;exact this
 have e2:ts=us:=vC _ _ (xp ha) (gf ha) (xp hb) (gf hb) fun f=>by have:=h f;unfold ln at this;simp only at this;omega
 rw [e,e2]
theorem A8 {bs:List Bind} (hb:∀ b∈bs,au b.Dim=true) (r:Linear×Int):∀ (ts:List ak) (s:Int×List (aw×Int)),dq (xb bs) (fun s=>s) ts s ≠ .ret r
 | [],s=>by simp [dq]
 | t::ts,s=>by
  have hg:∃ s',xb bs t s = .go s':=by
   unfold xb;cases h1:decide (idxOf (kf 1 t.Var) bs<0) with
   | true=>exact ⟨_,rfl⟩
   | false =>
    have hp:=pz (kf 1 t.Var) rB bs (by simpa using h1);have hm:bs.getD (idxOf (kf 1 t.Var) bs).toNat rB∈bs:=by rw [Kb,Kc hp.1];exact List.getElem_mem hp.1
    rw [hb _ hm];exact ⟨_,rfl⟩
  obtain ⟨s',e⟩:=hg;simp only [dq,e];exact A8 hb r ts s'
theorem Ie {bs:List Bind} {l:Linear} (hv:au l=true) (hb:∀ b∈bs,au b.Dim=true) {n:Int} {ts:List ak} (h1:Ek ts) (h2:Nz ts) (h:∀ f,ln (sv bs f) l=n+bW f ts):uj bs l=yt (Linear.mk n ts):=by
 unfold uj;rw [hv,cond_true];have hall:=fun f=>yX bs f l.Const l.Terms 0 (l.Const,[]) (by have:=bE hv;omega) (cA hv) (JU l hv);rcases hall (fun _=>0) with ⟨u,e1,e2,_⟩ | e
 ·rw [e1];simp only [DQ];rw [ve];refine Aw e2.1.nd h1 h2 fun f => ?_;rcases hall f with ⟨u',e1',_,e3'⟩ | e'
  ·rw [e1] at e1';injection e1' with e1'
   subst e1';rw [e3',← h f];simp only [ky,ln];omega
  ·rw [e'] at e1;cases e1
 ·exact absurd e (A8 hb _ _ _)
theorem B8 {l:Linear} (h:au l=true):yt l=(l,0):=by unfold yt;rw [h];rfl
theorem vQ:au (Linear.mk 0 [])=true:=by decide
theorem EM {bs:List Bind} {l:Linear} (hv:au l=true) (hb:∀ b∈bs,au b.Dim=true) (h:∀ f,ln (sv bs f) l=0):uj bs l=(Linear.mk 0 [],0) :=
 (Ie hv hb (n:=0) (ts:=[]) List.Pairwise.nil (fun t ht=>by simp at ht) (fun f=>by rw [h f];simp [bW])).trans (B8 vQ)
def one (x:aw) (l:Linear):Bind:=Bind.mk 1 x l (Shape.mk [] []) []
theorem IK (x:aw) (l:Linear) (f:aw→Int):sv [one x l] f=upd f x (ln f l):=by
 funext v;unfold sv upd;by_cases e:v=x
 ·subst e;simp [idxOf,kf,one]
 ·have e2:(x==v)=false:=by simpa using Ne.symm e
  simp [idxOf,kf,one,e,e2]
theorem yW {x:aw} {l q:Linear} (h:(uj [one x l] q).2=0) (f:aw→Int):au q=true∧au (uj [one x l] q).1=true∧ln f (uj [one x l] q).1=ln f q+cf q x*(ln f l-f x):=by obtain ⟨h1,h2,h3⟩:=Iv h f;refine ⟨h1,h2,?_⟩;rw [h3,IK,Dx f x _ (fI h1)]
theorem Iu {x:aw} {l q:Linear} (h:(uj [one x l] q).2=0) (hl:au l=true) (v:aw):cf (uj [one x l] q).1 v=cf q v+cf q x*(cf l v-ind v x):=by
 obtain ⟨h1,h2,h3⟩:=yW h (ind v);obtain ⟨_,_,h4⟩:=yW h (fun _=>0);rw [yV v (fI h2),yV v (fI h1),yV v (fI hl)] at h3;rw [oY,oY,oY] at h4;have e:cf q x*(l.Const+cf l v-ind v x)=cf q x*(l.Const-0)+cf q x*(cf l v-ind v x):=by rw [← Int.mul_add];congr 1;omega
 rw [e] at h3;omega
theorem CL (x:aw):∀ (ts:List ak),dq (σ:=Unit) (ε:=Unit) (ρ:=Int) (fun t s=>bif t.Var==x then .ret t.C else .go ()) (fun _=>()) ts ()=if x∈ts.map ak.Var then .ret (om x ts) else .brk ()
 | []=>rfl
 | t::ts=>by
  simp only [dq,List.map_cons,List.mem_cons];by_cases e:t.Var=x
  ·simp [e,om]
  ·have e2:(t.Var==x)=false:=by simpa using e
   rw [e2,cond_false];simp only;rw [CL x ts];have e3:¬ x=t.Var:=fun h=>e h.symm;simp [e3,om,e]
theorem jc (l:Linear) (x:aw):cK l x=some (cf l x):=by
 unfold cK;rw [dx ⟨[],0⟩ l.Terms (fun t s=>bif t.Var==x then .ret t.C else .go ()) (fun _ _=>True) (f:=fun _=>()) (fun _ _=>rfl) () trivial (fun j s hj _=>⟨by cases (l.Terms.getD j ⟨[],0⟩).Var==x<;>rfl,fun _ _=>trivial⟩),CL];simp only [Option.bind_some];by_cases h:x∈l.Terms.map ak.Var
 ·rw [if_pos h];rfl
 ·rw [if_neg h];show some 0=_;unfold cf;rw [jU h]
theorem wO (l:Linear) (x:aw):gh l x=some (cf l x):=by have h:=jc l x;unfold cK at h;unfold gh;exact h
def gB (s:Int×Int):Option (gj (Int×Int) Int Empty):=bif (s.2==0) then some (.brk s.1) else bP ((s.2:Int)≠0) <| some (.go (s.2,(s.1.tmod s.2)))
theorem yS (m:Int) (N:Nat):mh gB (N+1) (m,0)=some (.brk m):=rfl
theorem Dq (m n:Nat) (h:n≠0) (N:Nat):mh gB (N+1) ((m:Int),(n:Int))=mh gB N ((n:Int),((m % n:Nat):Int)):=by
 have h1:((n:Int)==0)=false:=by simp;omega
 have h2:(n:Int)≠0:=by omega
 simp only [mh,gB,h1,cond_false];rw [az h2,← Int.ofNat_tmod];rfl
theorem Bz:∀ (k m n N:Nat),n<2 ^ k→2*k+1≤N→mh gB N ((m:Int),(n:Int))=some (.brk ((Nat.gcd m n:Nat):Int))
 | 0,m,n,N,h1,h2=>by
  obtain ⟨N,rfl⟩:∃ j,N=j+1:=⟨N-1,by omega⟩;have:n=0:=by simpa using h1
  subst this;rw [Nat.gcd_zero_right];exact yS _ _
 | k+1,m,n,N,h1,h2=>by
  obtain ⟨N,rfl⟩:∃ j,N=j+2:=⟨N-2,by omega⟩;by_cases hn:n=0
  ·subst hn;rw [Nat.gcd_zero_right];exact yS _ _
  ·rw [Dq m n hn];by_cases hr:m % n=0
   ·rw [hr,show ((0:Nat):Int)=0 from rfl,yS,Nat.gcd_comm,Nat.gcd_rec n m,hr,Nat.gcd_zero_left]
   ·rw [Dq n (m % n) hr];have hlt:m % n<n:=Nat.mod_lt _ (Nat.pos_of_ne_zero hn);have hd:=Nat.div_add_mod n (m % n);have hlt2:n % (m % n)<m % n:=Nat.mod_lt _ (Nat.pos_of_ne_zero hr);have hq:1≤n / (m % n):=(Nat.le_div_iff_mul_le (Nat.pos_of_ne_zero hr)).2 (by omega);have hm:m % n≤(m % n)*(n / (m % n)):=Nat.le_mul_of_pos_right _ hq;rw [Nat.pow_succ] at h1;rw [Bz k (m % n) (n % (m % n)) N (by omega) (by omega)];rw [Nat.gcd_comm m n,Nat.gcd_rec n m,Nat.gcd_comm (m % n) n,Nat.gcd_comm n (m % n),Nat.gcd_comm (m % n) (n % (m % n)),← Nat.gcd_rec (m % n) n]
theorem wB {a b:Int} (ha:ko a=true) (hb:ko b=true):jZ a b=some ((Nat.gcd a.natAbs b.natAbs:Nat):Int):=by unfold jZ;rw [(jH ha).1,(jH hb).1];simp only [Option.bind_some];have h:=Bz 63 a.natAbs b.natAbs 4294967296 (by have:=(jH hb).2;omega) (by omega);refine (congrArg (fun o:Option (Out Int Empty)=>Option.bind o _) h).trans ?_;rfl
def lh (a b:Int):Int×Int:=bif ko a&&ko b then (bif a==0||b==0 then (0,0) else mulR ((a.natAbs / Nat.gcd a.natAbs b.natAbs:Nat):Int) (b.natAbs:Int)) else (0,2)
theorem vz (a b:Int):kc a b=some (lh a b):=by
 unfold kc lh;rw [fH];simp only [Option.bind_some,List.all_cons,List.all_nil,Bool.and_true];cases hab:ko a&&ko b with
 | false=>rfl
 | true =>
  simp only [Kd] at hab;simp only [cond_true];cases h1:a==0 with
  | true=>rfl
  | false =>
   cases h2:b==0 with
   | true=>rfl
   | false =>
    simp only [Bool.or_false,cond_false];rw [(jH hab.1).1,wB hab.1 hab.2,(jH hab.2).1];simp only [Option.bind_some];have ha0:a≠0:=by simpa using h1
    have hg:Nat.gcd a.natAbs b.natAbs≠0:=Nat.gcd_ne_zero_left (by omega);have hw:∀ z:Nat,z≤a.natAbs→aD (z:Int)=z:=fun z hz=>bR (by omega) (by have:=(jH hab.1).2;omega);rw [az (by omega),← Int.ofNat_tdiv,hw _ (Nat.div_le_self _ _),lW];rfl
def xG (ts:List ak) (a:Nat):Nat:=ts.foldl (fun a t=>Nat.gcd a t.C.natAbs) a
def cont (l:Linear):Nat:=xG l.Terms 0
theorem BV {c:Int} (h : -1000000≤c∧c≤1000000):(if (aD (0-c))>c then (aD (0-c)) else c)=((c.natAbs:Nat):Int):=by rw [bR (by omega) (by omega)];split<;>omega
theorem rb {l:Linear} (h:au l=true):fZ l=some ((cont l:Nat):Int):=by
 have hk:=kG h;unfold fZ;rw [dW l hk.1 hk.2,h];simp only [Option.bind_some,cond_true];have hC:=cA h;have hz:=gf h;have hl:=dx (ε:=Int) (ρ:=Empty) (f:=fun s=>s) (fin:=fun i0 s0=>s0) (⟨[],0⟩:ak) l.Terms (fun t s=>gj.go ((Nat.gcd s.natAbs t.C.natAbs:Nat):Int)) (fun j s=>∃ n:Nat,s=(n:Int)∧n≤1000000)
  (body:=fun i0 s0=>(mh (σ:=(Int×Int)) (ε:=Int) (ρ:=Empty) (fun s1 =>
   bif (s1.2==0) then (
    some (.brk s1.1)
   ) else (
    bP ((s1.2:Int)≠0) <|
    some (.go (s1.2,(s1.1.tmod s1.2)))
   )
   ) 4294967296 (s0,(if (aD (0-((l.Terms.getD i0 ⟨[],0⟩).C)))>((l.Terms.getD i0 ⟨[],0⟩).C) then (aD (0-((l.Terms.getD i0 ⟨[],0⟩).C))) else ((l.Terms.getD i0 ⟨[],0⟩).C)))).bind <| dI fun u0 =>
   some (.go u0)) (fun _ _=>rfl) 0 ⟨0,rfl,by omega⟩ (fun j s hj hI=>by
   obtain ⟨n,rfl,hn⟩:=hI;have hm:l.Terms.getD j ⟨[],0⟩∈l.Terms:=bF _ hj;have hc:=(hC _ hm).1;have h0:=hz _ hm;refine ⟨?_,fun s' hs' => ?_⟩
   ·rw [BV hc];have:=Bz 20 n (l.Terms.getD j ⟨[],0⟩).C.natAbs 4294967296 (by omega) (by omega);refine (congrArg (fun o:Option (Out Int Empty)=>Option.bind o _) this).trans ?_;rfl
   ·injection hs' with hs'
    have h1:(l.Terms.getD j ⟨[],0⟩).C.natAbs≠0:=by omega
    have h2:Nat.gcd n (l.Terms.getD j ⟨[],0⟩).C.natAbs≤(l.Terms.getD j ⟨[],0⟩).C.natAbs:=Nat.gcd_le_right _ (Nat.pos_of_ne_zero h1);exact ⟨_,hs'.symm,by simp only [Int.natAbs_natCast];omega⟩)
 refine (congrArg (fun o:Option (Out Int Empty)=>Option.bind o _) hl).trans ?_;have hf:∀ (ts:List ak) (n:Nat),dq (σ:=Int) (ε:=Int) (ρ:=Empty) (fun t s=>gj.go ((Nat.gcd s.natAbs t.C.natAbs:Nat):Int)) (fun s=>s) ts (n:Int) = .brk ((xG ts n:Nat):Int):=by
  intro ts;induction ts with
  | nil=>intro n;rfl
  | cons t ts ih=>intro n;simp only [dq];rw [Int.natAbs_natCast,ih];rfl
 have:=hf l.Terms 0;rw [show ((0:Nat):Int)=0 from rfl] at this;rw [this];rfl
theorem sH:∀ (ts:List ak) (a:Nat),xG ts a ∣ a∧∀ t∈ts,xG ts a ∣ t.C.natAbs
 | [],a=>⟨Nat.dvd_refl _,fun t h=>by simp at h⟩
 | t::ts,a=>by
  obtain ⟨h1,h2⟩:=sH ts (Nat.gcd a t.C.natAbs);refine ⟨Nat.dvd_trans h1 (Nat.gcd_dvd_left _ _),fun u hu => ?_⟩;rcases List.mem_cons.1 hu with rfl | hu
  ·exact Nat.dvd_trans h1 (Nat.gcd_dvd_right _ _)
  ·exact h2 u hu
theorem xq {d:Nat}:∀ (ts:List ak) (a:Nat),d ∣ a→(∀ t∈ts,d ∣ t.C.natAbs)→d ∣ xG ts a
 | [],a,h,_=>h
 | t::ts,a,h,ht=>xq ts _ (Nat.dvd_gcd h (ht t (by simp))) (fun u hu=>ht u (by simp [hu]))
theorem rX {l:Linear} (h:au l=true):cont l=0↔l.Terms=[]:=by
 constructor
 ·intro h0;cases hT:l.Terms with
  | nil=>rfl
  | cons t ts =>
   have h1:=(sH l.Terms 0).2 t (by rw [hT];simp);have h2:xG l.Terms 0=0:=h0;rw [h2] at h1;have:=gf h t (by rw [hT];simp);have:=Nat.eq_zero_of_zero_dvd h1;omega
 ·intro h0;unfold cont;rw [h0];rfl
def gV (n d:Int):Int:=bif (n.tmod d==0)||(decide (n.tmod d<0)==decide (d<0)) then n.tdiv d else n.tdiv d-1
theorem GB {n d:Int} (hd:d≠0):(n-d*gV n d).natAbs<d.natAbs∧(n-d*gV n d=0↔n.tmod d=0):=by
 have h1:=Int.mul_tdiv_add_tmod n d;have h2:(n.tmod d).natAbs<d.natAbs:=by rw [Int.natAbs_tmod];exact Nat.mod_lt _ (by omega)
 unfold gV;cases h3:n.tmod d==0 with
 | true =>
  have:n.tmod d=0:=by simpa using h3
  simp only [Bool.true_or,cond_true];omega
 | false =>
  have h3:n.tmod d≠0:=by simpa using h3
  cases h4:(decide (n.tmod d<0)==decide (d<0)) with
  | true=>simp only [Bool.false_or,cond_true];omega
  | false =>
   simp only [Bool.false_or,cond_false];rw [Int.mul_sub,Int.mul_one];have h5:(n.tmod d<0∧0<d)∨(0<n.tmod d∧d<0):=by
    by_cases e1:n.tmod d<0<;>by_cases e2:d<0
    ·rw [Ki e1,Ki e2] at h4;cases h4
    ·exact .inl ⟨e1,by omega⟩
    ·exact .inr ⟨by omega,e2⟩
    ·rw [Kh e1,Kh e2] at h4;cases h4
   omega
theorem GJ {n d:Int} (hd:d≠0) (hn : -1000000≤n∧n≤1000000) : -1000001≤gV n d∧gV n d≤1000001:=by have h:=Int.natAbs_tdiv_le_natAbs n d;unfold gV;cases (n.tmod d==0)||(decide (n.tmod d<0)==decide (d<0))<;>simp only [cond_true,cond_false]<;>omega
theorem vy {n d:Int} (hd:d≠0) (hn : -1000000≤n∧n≤1000000) (hdb : -1000000≤d∧d≤1000000):jO n d=some (gV n d,0):=by
 unfold jO fR;rw [fH];have hi:ko n=true:=ku.2 (by omega);have hi2:ko d=true:=ku.2 (by omega);have hz:(d==0)=false:=by simpa using hd
 simp only [Option.bind_some,List.all_cons,List.all_nil,Bool.and_true,hi,hi2,cond_true,hz,cond_false];unfold iR gV;have h:=Int.natAbs_tdiv_le_natAbs n d;have h2:(n.tmod d).natAbs<d.natAbs:=by rw [Int.natAbs_tmod];exact Nat.mod_lt _ (by omega)
 rw [az hd,bR (n:=n.tdiv d) (by omega) (by omega),bR (n:=n.tdiv d-1) (by omega) (by omega)];cases n.tmod d==0 with
 | true=>rfl
 | false=>cases (decide (n.tmod d<0)==decide (d<0))<;>rfl
theorem vK {K' V σ ε β:Type} {m:List (K'×V)} {body:K'×V→σ→Option (gj σ ε β)} {K:σ→Prop} {J:β→Prop} (I:List Nat→σ→Prop)
 (hstep:∀ seen s i (h:i<m.length),seen.Nodup→i ∉ seen→(∀ j∈seen,j<m.length)→I seen s→∃ s',body m[i] s=some (.go s')∧I (seen++[i]) s')
 (hend:∀ seen s,seen.Nodup→(∀ i,i<m.length→i∈seen)→(∀ i∈seen,i<m.length)→I seen s→K s) :
 ∀ (n:Nat) (seen:List Nat) (s:σ),seen.Nodup→(∀ i∈seen,i<m.length)→n+seen.length=m.length→I seen s→MR m body K J n seen s
 | 0,seen,s,h1,h2,h3,hI=>by
  have hall:∀ i,i<m.length→i∈seen:=by
   intro i hi;refine Classical.byContradiction fun hn => ?_;have:=lG (i::seen) (List.range m.length) (List.nodup_cons.2 ⟨hn,h1⟩) (fun x hx=>by
    rcases List.mem_cons.1 hx with rfl | hx
    ·simpa using hi
    ·simpa using h2 x hx)
   simp at this;omega
  exact ⟨hall,hend seen s h1 hall h2 hI⟩
 | n+1,seen,s,h1,h2,h3,hI=>by
  refine ⟨?_,fun i hi hn => ?_⟩
  ·refine Classical.byContradiction fun hn => ?_;have:=lG (List.range m.length) seen List.nodup_range (fun x hx=>Classical.byContradiction fun hx2=>hn ⟨x,by simpa using hx,hx2⟩);simp at this;omega
  ·obtain ⟨s',e1,e2⟩:=hstep seen s i hi h1 hn h2 hI;refine ⟨_,e1,?_⟩;have hnd:(seen++[i]).Nodup:=by
    rw [List.nodup_append];exact ⟨h1,by simp,fun a ha b hb=>by
     have:b=i:=by simpa using hb
     subst this;intro e;subst e;exact hn ha⟩
   exact vK I hstep hend n (seen++[i]) s' hnd (fun j hj=>by
    rcases List.mem_append.1 hj with h | h
    ·exact h2 j h
    ·have:j=i:=by simpa using h
     rw [this];exact hi) (by simp;omega) e2
theorem r5 {α:Type} (d:α) {m:List α} {seen:List Nat} (h1:seen.Nodup) (h2:∀ i,i<m.length→i∈seen) (h3:∀ i∈seen,i<m.length):(seen.map fun i=>m.getD i d).Perm m:=by have hp:seen.Perm (List.range m.length):=(List.perm_ext_iff_of_nodup h1 List.nodup_range).2 fun a=>⟨fun h=>by simpa using h3 a h,fun h=>h2 a (by simpa using h)⟩;refine (hp.map _).trans (List.Perm.of_eq ?_);refine List.ext_getElem (by simp) fun i hi h2 => ?_;simp only [List.getElem_map,List.getElem_range];rw [Kb,Kc h2];rfl
def nX (v:aw):Int:=match v with | []=>0 | x::r=>bif x==95 then (oc r).1 else 0
theorem ia (v:aw) (h:v.length≤1000000):dj v=some (nX v):=by
 unfold dj nX;rw [ls];cases v with
 | nil=>rfl
 | cons x r =>
  simp only [Option.bind_some];cases x==95 with
  | false=>rfl
  | true =>
   simp only [cond_true];rw [az (by simp)];unfold lC;rw [az (by simp at h ⊢;omega)];rfl
theorem AE {v:aw} (h:dP v=true):0≤nX v∧nX v<10000000000:=by
 unfold nX;cases v with
 | nil=>simp
 | cons c r =>
  simp only [dP] at h ⊢;cases hc:c==95 with
  | false=>simp
  | true =>
   rw [hc] at h;simp only [cond_true,Kd,decide_eq_true_eq,Bool.not_eq_true'] at h ⊢;have hne:r≠[]:=by intro e;rw [e] at h;simp at h
   obtain ⟨a,b⟩:=wv hne h.2.2.2 h.2.1;unfold oc;rw [a];simp only;omega
def jz (n:Nat):aw:=95::dec n
theorem pF {n:Nat} (h1:1≤n) (h2:n<1000000000):dP (jz n)=true∧nX (jz n)=n:=by
 have hd:=rD n;have hl:=qA 8 n (by omega);have hne:dec n≠[]:=Iw n;constructor
 ·show (decide (1≤(dec n).length)&&(decide ((dec n).length≤9)&&(!((dec n).getD 0 0==48)&&(dec n).all cq)))=true;simp only [Kd,decide_eq_true_eq,Bool.not_eq_true'];refine ⟨List.length_pos_iff.2 hne,hl,?_,hd.1⟩;have hh:=hd.2.1 h1;cases hx:dec n with
  | nil=>exact absurd hx hne
  | cons y z =>
   have:Lib.decDigits n=y::z:=hx;rw [this] at hh;simp at hh ⊢;exact hh
 ·show (oc (dec n)).1=_;unfold oc;rw [(wv hne hd.1 hl).1,Gs]
def my (l:List Linear):List (aw×Bool):=l.foldl (fun m q=>(q.Terms.map ak.Var).foldl (fun m v=>bI v true m) m) []
theorem Cq {V:Type} (x:aw) (v:V):∀ m:List (aw×V),(bI x v m).map (·.1)=if x∈m.map (·.1) then m.map (·.1) else m.map (·.1)++[x]
 | []=>by simp [bI]
 | (k,u)::m=>by
  have ih:=Cq x v m;by_cases h:k=x
  ·simp [bI,h]
  ·simp only [bI,if_neg h,List.map_cons,List.mem_cons,ih,Ne.symm h,false_or];split<;>simp [*]
theorem DX {V:Type} {x y:aw} {v:V} {m:List (aw×V)}:y∈(bI x v m).map (·.1)↔y=x∨y∈m.map (·.1):=by
 rw [Cq];by_cases h:x∈m.map (·.1)
 ·rw [if_pos h];exact ⟨.inr,fun h2=>by rcases h2 with rfl | h2;exact h;exact h2⟩
 ·rw [if_neg h,List.mem_append,List.mem_singleton];exact or_comm
theorem Gy {V:Type} {x:aw} {v:V} {m:List (aw×V)} (h:(m.map (·.1)).Nodup):((bI x v m).map (·.1)).Nodup:=by
 rw [Cq];by_cases hx:x∈m.map (·.1)
 ·rw [if_pos hx];exact h
 ·rw [if_neg hx,List.nodup_append];exact ⟨h,by simp,fun a ha b hb=>by
   have:b=x:=by simpa using hb
   rw [this];rintro rfl;exact hx ha⟩
theorem DB {V:Type} (x:aw) (v:V) (m:List (aw×V)):(bI x v m).length≤m.length+1:=by have:=congrArg List.length (Cq x v m);rw [Kj] at this;rw [this];split<;>simp
theorem wq:∀ (vs:List aw) (m:List (aw×Bool)),(m.map (·.1)).Nodup→((vs.foldl (fun m v=>bI v true m) m).map (·.1)).Nodup∧(vs.foldl (fun m v=>bI v true m) m).length≤m.length+vs.length ∧
 ∀ y,y∈(vs.foldl (fun m v=>bI v true m) m).map (·.1)↔y∈m.map (·.1)∨y∈vs
 | [],m,h=>⟨h,by simp,fun y=>by simp⟩
 | v::vs,m,h=>by
  obtain ⟨a,b,c⟩:=wq vs (bI v true m) (Gy h);refine ⟨a,?_,fun y => ?_⟩
  ·have:=DB v true m;simp only [List.foldl_cons,List.length_cons];omega
  ·simp only [List.foldl_cons];rw [c y,DX,List.mem_cons];constructor
   ·rintro ((h | h) | h)
    ·exact .inr (.inl h)
    ·exact .inl h
    ·exact .inr (.inr h)
   ·rintro (h | h | h)
    ·exact .inl (.inr h)
    ·exact .inl (.inl h)
    ·exact .inr h
theorem qz:∀ (l:List Linear) (m:List (aw×Bool)),(∀ q∈l,q.Terms.length≤12)→(m.map (·.1)).Nodup→((l.foldl (fun m q=>(q.Terms.map ak.Var).foldl (fun m v=>bI v true m) m) m).map (·.1)).Nodup∧(l.foldl (fun m q=>(q.Terms.map ak.Var).foldl (fun m v=>bI v true m) m) m).length≤m.length+12*l.length ∧
 ∀ y,y∈(l.foldl (fun m q=>(q.Terms.map ak.Var).foldl (fun m v=>bI v true m) m) m).map (·.1)↔y∈m.map (·.1)∨∃ q∈l,∃ t∈q.Terms,t.Var=y
 | [],m,_,h=>⟨h,by simp,fun y=>by simp⟩
 | q::l,m,hl,h=>by
  obtain ⟨a1,b1,c1⟩:=wq (q.Terms.map ak.Var) m h;obtain ⟨a,b,c⟩:=qz l _ (fun x hx=>hl x (by simp [hx])) a1;have:=hl q (by simp);rw [Kj] at b1;refine ⟨a,?_,fun y => ?_⟩
  ·simp only [List.foldl_cons,List.length_cons];omega
  ·simp only [List.foldl_cons];rw [c y,c1 y];constructor
   ·rintro ((h | h) | ⟨q',hq,h⟩)
    ·exact .inl h
    ·obtain ⟨t,ht,e⟩:=List.mem_map.1 h;exact .inr ⟨q,by simp,t,ht,e⟩
    ·exact .inr ⟨q',by simp [hq],h⟩
   ·rintro (h | ⟨q',hq,t,ht,e⟩)
    ·exact .inl (.inl h)
    ·rcases List.mem_cons.1 hq with rfl | hq
     ·exact .inl (.inr (List.mem_map.2 ⟨t,ht,e⟩))
     ·exact .inr ⟨q',hq,t,ht,e⟩
def fi (l:List Linear):List aw:=Go.Ab.sortS ((my l).map (·.1))
theorem FM {x y:aw} (h:wH x y=true) (hn:x≠y):Op.bytesLess x y=true:=by
 rcases kW x y with h2 | h2 | h2
 ·exact h2
 ·exact absurd h2 hn
 ·exact absurd (vP x y h (HJ h2)) hn
theorem nJ {l:List Linear} (hl:∀ q∈l,q.Terms.length≤12):(fi l).Pairwise (fun a b=>Op.bytesLess a b=true)∧(∀ y,y∈fi l↔∃ q∈l,∃ t∈q.Terms,t.Var=y)∧(fi l).length≤12*l.length:=by
 obtain ⟨a,b,c⟩:=qz l [] hl (by simp);have hp:=rY ((my l).map (·.1));refine ⟨?_,fun y => ?_,?_⟩
 ·have h1:=pd ((my l).map (·.1));have h2:(Go.Ab.sortS ((my l).map (·.1))).Nodup:=hp.nodup_iff.2 a;exact (List.Pairwise.and h1 h2).imp fun h=>FM h.1 h.2
 ·unfold fi;rw [hp.mem_iff];have:=c y;rw [List.map_nil] at this;exact this.trans ⟨fun h=>h.resolve_left (by simp),.inr⟩
 ·unfold fi;rw [hp.length_eq,Kj];have:(my l).length≤[].length+12*l.length:=b;simpa using this
theorem fj {l:List Linear} (hl:∀ q∈l,q.Terms.length≤12) (hn:l.length≤6000):bh l=some (fi l):=by
 unfold bh;have h1:=dx (ε:=List (aw×Bool)) (ρ:=Empty) (f:=fun s=>s) (fin:=fun i0 s0=>s0) (⟨0,[]⟩:Linear) l (fun q m=>gj.go ((q.Terms.map ak.Var).foldl (fun m v=>bI v true m) m)) (fun j s=>True)
  (body:=fun i0 s0 =>
  (iJ (Linear.mk ((l.getD i0 ⟨0,[]⟩).Const) ((l.getD i0 ⟨0,[]⟩).Terms))).bind fun y0 =>
  (dO (σ:=(List (aw×Bool))) (ε:=(List (aw×Bool))) (ρ:=Empty) (fun i1 s1 =>
   some (.go (bI (y0.getD i1 []) true s1))
  ) (fun i1 s1=>s1) (y0.length-0) 0 s0).bind <| dI fun u0 =>
  some (.go u0)) (fun _ _=>rfl) [] trivial (fun j s hj _=>⟨by
   have hm:l.getD j ⟨0,[]⟩∈l:=bF _ hj;rw [uf _ (by have:=hl _ hm;show (l.getD j ⟨0,[]⟩).Terms.length≤1000000;omega)];simp only [Option.bind_some];rw [dx (ε:=List (aw×Bool)) (ρ:=Empty) (f:=fun s=>s) (fin:=fun i0 s0=>s0) ([]:aw) ((l.getD j ⟨0,[]⟩).Terms.map ak.Var) (fun v m=>gj.go (bI v true m)) (fun j s=>True) (fun _ _=>rfl) s trivial (fun j s hj _=>⟨rfl,fun _ _=>trivial⟩)];rw [rz (fun v m=>bI v true m)];rfl,fun _ _=>trivial⟩)
 refine (congrArg (fun o:Option (Out (List (aw×Bool)) Empty)=>Option.bind o _) h1).trans ?_;rw [rz (fun (q:Linear) m=>(q.Terms.map ak.Var).foldl (fun m v=>bI v true m) m)];simp only [Option.bind_some,dI];obtain ⟨a,b,c⟩:=qz l [] hl (by simp);have hlen:(my l).length≤72000:=by have:(my l).length≤[].length+12*l.length:=b;simp at this;omega
 refine pb (vK (fun seen s=>s=seen.map fun i=>((my l).getD i ([],false)).1) (fun seen s i hi hnd hni hlt hI => ?_) (fun seen s hnd hall hlt hI => ?_) _ [] [] (by simp) (by simp) (by simp) rfl)
 ·have hsl:seen.length≤(my l).length:=by have:=lG seen (List.range (my l).length) hnd (fun x hx=>List.mem_range.2 (hlt x hx));simpa using this
  refine ⟨_,az (by rw [hI,Kj];omega),?_⟩;rw [List.map_append,hI];simp only [List.map_cons,List.map_nil];congr 2;rw [Kb,show (my l)[i]? = some (my l)[i] from Kc hi];rfl
 ·have hp:s.Perm ((my l).map (·.1)):=by
   rw [hI];have:=(r5 ([],false) hnd hall hlt).map (·.1)
   rwa [List.map_map] at this
  unfold ka;have:=hp.length_eq;rw [Kj] at this;rw [az (by omega)];simp only [Option.bind_some];exact congrArg some (vv hp)
def Gw (l:List Linear):Int:=(fi l).foldl (fun n v=>if nX v>n then nX v else n) 0
theorem CT:∀ (vs:List aw) (n:Int),n≤vs.foldl (fun n v=>if nX v>n then nX v else n) n∧(∀ v∈vs,nX v≤vs.foldl (fun n v=>if nX v>n then nX v else n) n)
 | [],n=>⟨Int.le_refl _,fun v h=>by simp at h⟩
 | v::vs,n=>by
  obtain ⟨a,b⟩:=CT vs (if nX v>n then nX v else n);simp only [List.foldl_cons];refine ⟨?_,fun u hu => ?_⟩
  ·split at a<;>rename_i h<;>simp only [h,if_true,if_false]<;>omega
  ·rcases List.mem_cons.1 hu with rfl | hu
   ·split at a<;>rename_i h<;>simp only [h,if_true,if_false]<;>omega
   ·exact b u hu
theorem dN {l:List Linear} (hl:∀ q∈l,au q=true) (hn:l.length≤6000):cn l=some (Gw l):=by
 have hl12:∀ q∈l,q.Terms.length≤12:=fun q hq=>bE (hl q hq);unfold cn;rw [fj hl12 hn];simp only [Option.bind_some];obtain ⟨_,hv,_⟩:=nJ hl12;rw [dx (ε:=Int) (ρ:=Empty) (f:=fun s=>s) (fin:=fun i0 s0=>s0) ([]:aw) (fi l) (fun v n=>gj.go (if nX v>n then nX v else n)) (fun j s=>True) (fun _ _=>rfl) 0 trivial (fun j s hj _=>⟨by
  have hm:(fi l).getD j []∈fi l:=bF _ hj;obtain ⟨q,hq,t,ht,e⟩:=(hv _).1 hm;have:=gW ((cA (hl q hq)) t ht).2;rw [ia _ (by rw [← e];omega)];rfl,fun _ _=>trivial⟩)]
 rw [rz (fun v n=>if nX v>n then nX v else n)];rfl
def xP (a b:ak):Int:=bif (a.C.natAbs:Int)==b.C.natAbs then (bif nX a.Var==nX b.Var then gR b.Var a.Var else nX b.Var-nX a.Var) else (a.C.natAbs:Int)-b.C.natAbs
theorem pL (a b:ak) (ha : -1000000≤a.C∧a.C≤1000000) (hb : -1000000≤b.C∧b.C≤1000000) (na:dP a.Var=true) (nb:dP b.Var=true):dy a b=some (xP a b):=by
 unfold dy xP;rw [BV ha,BV hb];cases ((a.C.natAbs:Int)==b.C.natAbs) with
 | true =>
  simp only [cond_true];rw [ia _ (by have:=gW na;omega),ia _ (by have:=gW nb;omega)];simp only [Option.bind_some];cases nX a.Var==nX b.Var with
  | true=>rfl
  | false =>
   have h1:=AE na;have h2:=AE nb;simp only [cond_false];rw [bR (by omega) (by omega)]
 | false =>
  simp only [cond_false];rw [bR (by omega) (by omega)]
theorem Hf {a b:ak} (h:xP a b<0):a.C.natAbs≤b.C.natAbs:=by
 unfold xP at h;cases e:((a.C.natAbs:Int)==b.C.natAbs) with
 | true=>have:=eq_of_beq e;omega
 | false=>rw [e] at h;simp only [cond_false] at h;omega
theorem Hl {a b:ak} (h:¬ xP a b<0):b.C.natAbs≤a.C.natAbs:=by
 unfold xP at h;cases e:((a.C.natAbs:Int)==b.C.natAbs) with
 | true=>have:=eq_of_beq e;omega
 | false=>rw [e] at h;simp only [cond_false] at h;omega
def vl (ts:List ak):ak:=(ts.drop 1).foldl (fun s t=>bif decide (xP t s<0) then t else s) (ts.getD 0 ⟨[],0⟩)
theorem yM:∀ (ts:List ak) (s:ak),(ts.foldl (fun s t=>bif decide (xP t s<0) then t else s) s=s∨ts.foldl (fun s t=>bif decide (xP t s<0) then t else s) s∈ts) ∧
 (ts.foldl (fun s t=>bif decide (xP t s<0) then t else s) s).C.natAbs≤s.C.natAbs∧∀ t∈ts,(ts.foldl (fun s t=>bif decide (xP t s<0) then t else s) s).C.natAbs≤t.C.natAbs
 | [],s=>⟨.inl rfl,Nat.le_refl _,fun t h=>by simp at h⟩
 | u::ts,s=>by
  simp only [List.foldl_cons];by_cases h:xP u s<0
  ·obtain ⟨a,b,c⟩:=yM ts u;rw [Ki h,cond_true];refine ⟨.inr ?_,Nat.le_trans b (Hf h),fun t ht => ?_⟩
   ·rcases a with a | a
    ·rw [a];simp
    ·exact List.mem_cons_of_mem _ a
   ·rcases List.mem_cons.1 ht with rfl | ht
    ·exact b
    ·exact c t ht
  ·obtain ⟨a,b,c⟩:=yM ts s;rw [Kh h,cond_false];refine ⟨a.imp id (List.mem_cons_of_mem _),b,fun t ht => ?_⟩;rcases List.mem_cons.1 ht with rfl | ht
   ·exact Nat.le_trans b (Hl h)
   ·exact c t ht
theorem IP {ts:List ak} (h:ts≠[]):vl ts∈ts∧∀ t∈ts,(vl ts).C.natAbs≤t.C.natAbs:=by
 cases ts with
 | nil=>exact absurd rfl h
 | cons u ts =>
  obtain ⟨a,b,c⟩:=yM ts u;refine ⟨?_,fun t ht => ?_⟩
  ·show ts.foldl (fun s t=>bif decide (xP t s<0) then t else s) u∈u::ts;rcases a with a | a
   ·rw [a];simp
   ·exact List.mem_cons_of_mem _ a
  ·rcases List.mem_cons.1 ht with rfl | ht
   ·exact b
   ·exact c t ht
theorem rF {q:Linear} (h:au q=true) (h0:q.Terms≠[]):fe q=some (vl q.Terms):=by
 unfold fe dd;have hlen:0<q.Terms.length:=List.length_pos_iff.2 h0;have hC:=cA h;rw [Kh (show ¬ (q.Terms.length:Int)<1 by omega)];simp only [cond_false];rw [az hlen];have hm0:q.Terms.getD 0 ⟨[],0⟩∈q.Terms:=bF _ hlen;have hc:=wh (ε:=aw×Int) (ρ:=Empty) (f:=fun s=>s) (fin:=fun i0 s0=>(s0.1,s0.2)) (⟨[],0⟩:ak) q.Terms (fun t s=>gj.go (bif decide (xP t ⟨s.1,s.2⟩<0) then (t.Var,t.C) else s)) (fun j s=>(-1000000≤s.2∧s.2≤1000000)∧dP s.1=true)
  (body:=fun i0 s0 =>
   (dy (ak.mk ((q.Terms.getD i0 ⟨[],0⟩).Var) ((q.Terms.getD i0 ⟨[],0⟩).C)) (ak.mk s0.1 s0.2)).bind fun y0 =>
   ((
    bif decide (y0<0) then (
     some (((q.Terms.getD i0 ⟨[],0⟩).Var),((q.Terms.getD i0 ⟨[],0⟩).C))
    ) else (
     some (s0.1,s0.2)
    )
   ):Option (aw×Int)).bind fun v0 =>
   some (.go (v0.1,v0.2))) (fun _ _=>rfl) 1 (((q.Terms.getD 0 ⟨[],0⟩).Var),((q.Terms.getD 0 ⟨[],0⟩).C)) (hC _ hm0) (fun j s hj1 hj hI=>by
   have hm:q.Terms.getD j ⟨[],0⟩∈q.Terms:=bF _ hj;obtain ⟨c1,c2⟩:=hC _ hm;refine ⟨?_,fun s' hs' => ?_⟩
   ·rw [pL (ak.mk ((q.Terms.getD j ⟨[],0⟩).Var) ((q.Terms.getD j ⟨[],0⟩).C)) (ak.mk s.1 s.2) c1 hI.1 c2 hI.2];simp only [Option.bind_some];cases decide (xP (q.Terms.getD j ⟨[],0⟩) ⟨s.1,s.2⟩<0)<;>rfl
   ·injection hs' with hs'
    subst hs';cases decide (xP (q.Terms.getD j ⟨[],0⟩) ⟨s.1,s.2⟩<0)
    ·exact hI
    ·exact ⟨c1,c2⟩)
 have hf:∀ (ts:List ak) (s:ak),dq (σ:=aw×Int) (ε:=aw×Int) (ρ:=Empty) (fun t s=>gj.go (bif decide (xP t ⟨s.1,s.2⟩<0) then (t.Var,t.C) else s)) (fun s=>s) ts (s.Var,s.C) =
  .brk ((ts.foldl (fun s t=>bif decide (xP t s<0) then t else s) s).Var,(ts.foldl (fun s t=>bif decide (xP t s<0) then t else s) s).C):=by
  intro ts;induction ts with
  | nil=>intro s;rfl
  | cons t ts ih =>
   intro s;simp only [dq,List.foldl_cons];cases decide (xP t s<0) with
   | true=>exact ih t
   | false=>exact ih s
 rw [hf (q.Terms.drop 1) (q.Terms.getD 0 ⟨[],0⟩)] at hc;refine (congrArg (fun o:Option (Out (aw×Int) Empty)=>Option.bind (Option.bind o _) _) hc).trans ?_;rfl
abbrev Ms:=List (Int×Int)
theorem vm {V:Type} (d:V) (x y:Int) (v:V):∀ m:List (Int×V),bn d y (bI x v m)=if y=x then v else bn d y m
 | []=>by
  by_cases h:y=x
  ·simp [bI,bn,h]
  ·simp [bI,bn,h,Ne.symm h]
 | (k,u)::m=>by
  have ih:=vm d x y v m;by_cases h:k=x
  ·subst h;by_cases h2:y=k
   ·simp [bI,bn,h2]
   ·simp [bI,bn,h2,Ne.symm h2]
  ·by_cases h2:k=y
   ·subst h2;simp [bI,bn,h]
   ·simp [bI,bn,h,h2,ih]
theorem sD {x y v:Int}:∀ {m:Ms},y∈(bI x v m).map (·.1)↔y=x∨y∈m.map (·.1)
 | []=>by simp [bI]
 | (k,u)::m=>by
  have ih:=sD (x:=x) (y:=y) (v:=v) (m:=m);by_cases h:k=x
  ·subst h;simp [bI]
  ·simp only [bI,if_neg h,List.map_cons,List.mem_cons,ih];exact or_left_comm
theorem zY {x v:Int}:∀ {m:Ms},(m.map (·.1)).Nodup→((bI x v m).map (·.1)).Nodup
 | [],_=>by simp [bI]
 | (k,u)::m,h=>by
  simp only [List.map_cons,List.nodup_cons] at h;by_cases e:k=x
  ·subst e;simp only [bI,if_true,List.map_cons,List.nodup_cons];exact h
  ·simp only [bI,if_neg e,List.map_cons,List.nodup_cons];refine ⟨fun hm => ?_,zY h.2⟩;rcases sD.1 hm with h2 | h2
   ·exact e h2
   ·exact h.1 h2
structure eB (m:Ms) (D:Int→Prop) (f:Int→Int):Prop where
 nd:(m.map (·.1)).Nodup
 ks:∀ y,y∈m.map (·.1)↔D y
 at_:∀ y,D y→bn 0 y m=f y
theorem eB.nil:eB [] (fun _=>False) (fun _=>0):=⟨by simp,fun y=>by simp,fun y h=>h.elim⟩
theorem eB.put {m:Ms} {D:Int→Prop} {f:Int→Int} (h:eB m D f) (x v:Int):eB (bI x v m) (fun y=>y=x∨D y) (fun y=>if y=x then v else f y):=by
 refine ⟨zY h.nd,fun y=>by rw [sD,h.ks],fun y hy => ?_⟩;rw [vm];by_cases e:y=x
 ·rw [if_pos e,if_pos e]
 ·rw [if_neg e,if_neg e];exact h.at_ y (hy.resolve_left e)
theorem eB.congr {m:Ms} {D D':Int→Prop} {f f':Int→Int} (h:eB m D f) (hD:∀ y,D y↔D' y) (hf:∀ y,D y→f y=f' y):eB m D' f' :=
 ⟨h.nd,fun y=>(h.ks y).trans (hD y),fun y hy=>(h.at_ y ((hD y).2 hy)).trans (hf y ((hD y).2 hy))⟩
theorem dv:∀ {m:Ms},(m.map (·.1)).Nodup→∀ {e:Int×Int},e∈m→bn 0 e.1 m=e.2
 | [],_,e,h=>by simp at h
 | (k,u)::m,hn,e,h=>by
  simp only [List.map_cons,List.nodup_cons] at hn;rcases List.mem_cons.1 h with rfl | h
  ·simp [bn]
  ·have:k≠e.1:=fun he=>hn.1 (by rw [he];exact List.mem_map.2 ⟨e,h,rfl⟩);rw [bn,if_neg this];exact dv hn.2 h
theorem vV {m:Ms} (h:(m.map (·.1)).Nodup):m.Nodup:=(List.pairwise_map.1 h).imp fun h e=>h (congrArg _ e)
theorem eB.perm {m m':Ms} {D:Int→Prop} {f:Int→Int} (h:eB m D f) (h':eB m' D f):m.Perm m':=by
 have key:∀ {a b:Ms},eB a D f→eB b D f→∀ e∈a,e∈b:=fun {a b} ha hb e he=>by
  have hk:D e.1:=(ha.ks _).1 (List.mem_map.2 ⟨e,he,rfl⟩);obtain ⟨e',he',e1⟩:=List.mem_map.1 ((hb.ks _).2 hk);have v1:=dv ha.nd he;have v2:=dv hb.nd he';rw [e1,hb.at_ _ hk] at v2;rw [ha.at_ _ hk] at v1;have:e=e':=by refine Prod.ext e1.symm ?_;rw [← v1,← v2]
  rw [this];exact he'
 exact (List.perm_ext_iff_of_nodup (vV h.nd) (vV h'.nd)).2 fun e=>⟨key h h' e,key h' h e⟩
theorem tA {V:Type} (p:Int×V):∀ {l:List (Int×V)},l.Pairwise (fun a b=>a.1≤b.1)→(B4 p l).Pairwise (fun a b=>a.1≤b.1)
 | [],_=>by simp [B4]
 | q::l,h=>by
  have h':=List.pairwise_cons.1 h;unfold B4;split
  ·rename_i hle;refine List.pairwise_cons.2 ⟨fun x hx => ?_,h⟩;rcases List.mem_cons.1 hx with rfl | hx
   ·exact hle
   ·exact Int.le_trans hle (h'.1 x hx)
  ·rename_i hle;refine List.pairwise_cons.2 ⟨fun x hx => ?_,tA p h'.2⟩;rcases List.mem_cons.1 ((rN p l).mem_iff.2 hx) with rfl | hx
   ·omega
   ·exact h'.1 x hx
theorem nG {V:Type}:∀ l:List (Int×V),(ksort l).Pairwise (fun a b=>a.1≤b.1)
 | []=>List.Pairwise.nil
 | p::l=>tA p (nG l)
theorem Ar {a b:Ms} (h:a.Perm b) (hn:(a.map (·.1)).Nodup):ksort a=ksort b:=by
 refine List.Perm.eq_of_pairwise (le:=fun a b=>a.1≤b.1) (fun x y hx hy h1 h2 => ?_) (nG a) (nG b) ((im a).symm.trans (h.trans (im b)));have e:x.1=y.1:=by omega
 have hx':x∈a:=(im a).mem_iff.2 hx;have hy':y∈a:=h.mem_iff.2 ((im b).mem_iff.2 hy);refine Prod.ext e ?_;rw [← dv hn hx',← dv hn hy',e]
theorem eB.ksort_eq {m m':Ms} {D D':Int→Prop} {f f':Int→Int} (h:eB m D f) (h':eB m' D' f') (hD:∀ y,D y↔D' y) (hf:∀ y,D y→f y=f' y):ksort m=ksort m' :=
 Ar (h.perm (h'.congr (fun y=>(hD y).symm) fun y hy=>(hf y ((hD y).2 hy)).symm)) h.nd
theorem eB.ksort {m:Ms} {D:Int→Prop} {f:Int→Int} (h:eB m D f):eB (ksort m) D f:=by have hp:=im m;refine ⟨(hp.map (·.1)).nodup_iff.1 h.nd,fun y=>by rw [← (hp.map (·.1)).mem_iff,h.ks],fun y hy => ?_⟩;obtain ⟨e,he,e1⟩:=List.mem_map.1 ((h.ks y).2 hy);rw [← e1,dv ((hp.map (·.1)).nodup_iff.1 h.nd) (hp.mem_iff.1 he),← dv h.nd he,e1,h.at_ y hy]
theorem eB.self {m:Ms} (h:(m.map (·.1)).Nodup):eB m (fun y=>y∈m.map (·.1)) (fun y=>bn 0 y m):=⟨h,fun y=>Iff.rfl,fun y _=>rfl⟩
abbrev Rw:=ab
theorem kO {α:Type} {l:List α} {i:Nat} {x d:α} (h:i<l.length):(l.set i x).getD i d=x:=by simp [Kb,h]
def ze (n e:Int):Bool:=e==0&&(decide (n ≥ -1099511627776)&&decide (n≤1099511627776))
theorem fk (n e:Int):bK n e=some (ze n e):=by
 unfold bK ze;cases e==0 with
 | false=>rfl
 | true=>cases decide (n≥(-1099511627776))<;>rfl
def EB (r:Rw) (own:Int) (y:Int):Int:=if y∈r.mults.map (·.1) then (mulR (bn 0 y r.mults) own).1 else 0
def Jh (r p:Rw) (own oth:Int) (y:Int):Int:=if y∈p.mults.map (·.1) then (B2 [1,oth] [EB r own y,bn 0 y p.mults]).1 else EB r own y
def IY (r p:Rw) (y:Int):Prop:=y∈r.mults.map (·.1)∨y∈p.mults.map (·.1)
def Eu (r:Rw) (own:Int) (e:Int×Int):Bool := !ze (mulR e.2 own).1 (mulR e.2 own).2
def E1 (r:Rw) (own oth:Int) (e:Int×Int):Bool := !ze (B2 [1,oth] [EB r own e.1,e.2]).1 (B2 [1,oth] [EB r own e.1,e.2]).2
def Jb (r p:Rw) (f:Int→Int):Ms:=ksort (r.mults.map (fun e=>(e.1,f e.1))++(p.mults.filter fun e=>decide (e.1 ∉ r.mults.map (·.1))).map fun e=>(e.1,f e.1))
theorem vB {y:Int}:∀ {a b:Ms},y ∉ a.map (·.1)→bn 0 y (a++b)=bn 0 y b
 | [],b,_=>rfl
 | (k,u)::a,b,h=>by simp only [List.map_cons,List.mem_cons,not_or] at h;rw [List.cons_append,bn,if_neg (fun e=>h.1 e.symm)];exact vB h.2
theorem r7 {f:Int→Int} {y:Int}:∀ {a:Ms},y∈a.map (·.1)→∀ b,bn 0 y (a.map (fun e=>(e.1,f e.1))++b)=f y
 | [],h,b=>by simp at h
 | (k,u)::a,h,b=>by
  simp only [List.map_cons,List.cons_append,bn];by_cases e:k=y
  ·rw [if_pos e,e]
  ·rw [if_neg e];exact r7 ((List.mem_cons.1 h).resolve_left fun h2=>e h2.symm) b
theorem A9 {r p:Rw} (hr:(r.mults.map (·.1)).Nodup) (hp:(p.mults.map (·.1)).Nodup) (f:Int→Int) :
 eB (r.mults.map (fun e=>(e.1,f e.1))++(p.mults.filter fun e=>decide (e.1 ∉ r.mults.map (·.1))).map fun e=>(e.1,f e.1)) (IY r p) f:=by
 refine ⟨?_,fun y => ?_,fun y hy => ?_⟩
 ·rw [List.map_append,List.map_map,List.map_map,List.nodup_append];refine ⟨hr,(List.Sublist.map _ List.filter_sublist).nodup hp,fun a ha b hb => ?_⟩;obtain ⟨e,he,e1⟩:=List.mem_map.1 hb;have he:=(List.mem_filter.1 he).2;rintro rfl;have e1:e.1=a:=e1;rw [e1] at he;exact (Kg he) ha
 ·rw [List.map_append,List.map_map,List.map_map,List.mem_append];constructor
  ·rintro (h | h)
   ·exact .inl h
   ·obtain ⟨e,he,e1⟩:=List.mem_map.1 h;exact .inr (List.mem_map.2 ⟨e,(List.mem_filter.1 he).1,e1⟩)
  ·rintro (h | h)
   ·exact .inl h
   ·by_cases h2:y∈r.mults.map (·.1)
    ·exact .inl h2
    ·obtain ⟨e,he,e1⟩:=List.mem_map.1 h;refine .inr (List.mem_map.2 ⟨e,List.mem_filter.2 ⟨he,Ki (by rw [show e.1=y from e1];exact h2)⟩,e1⟩)
 ·by_cases h2:y∈r.mults.map (·.1)
  ·exact r7 h2 _
  ·rw [vB (by rw [List.map_map];exact h2)];obtain ⟨e,he,e1⟩:=List.mem_map.1 (hy.resolve_left h2);have:=r7 (f:=f) (y:=y) (a:=p.mults.filter fun e=>decide (e.1 ∉ r.mults.map (·.1))) (List.mem_map.2 ⟨e,List.mem_filter.2 ⟨he,Ki (by rw [show e.1=y from e1];exact h2)⟩,e1⟩) []
   rwa [List.append_nil] at this
theorem C7 {r p:Rw} (hr:(r.mults.map (·.1)).Nodup) (hp:(p.mults.map (·.1)).Nodup) (f:Int→Int):eB (Jb r p f) (IY r p) f:=(A9 hr hp f).ksort
theorem eB.out {m:Ms} {D:Int→Prop} {f:Int→Int} (h:eB m D f) {y:Int} (hy:¬ D y):bn 0 y m=0:=by
 have hn:y ∉ m.map (·.1):=fun h2=>hy ((h.ks y).1 h2);have:=vB (b:=[]) hn
 rwa [List.append_nil] at this
theorem zS {α:Type} (d:α) {m:List α} {seen:List Nat} (p:α→Bool) (h1:seen.Nodup) (h2:∀ i,i<m.length→i∈seen) (h3:∀ i∈seen,i<m.length):(seen.any fun j=>p (m.getD j d))=m.any p:=by
 have:=(r5 d h1 h2 h3).any_eq (f:=p)
 rwa [List.any_map] at this
theorem nt {m:Ms} {seen:List Nat} (h1:seen.Nodup) (h2:∀ i,i<m.length→i∈seen) (h3:∀ i∈seen,i<m.length) (y:Int):y∈seen.map (fun j=>(m.getD j (0,0)).1)↔y∈m.map (·.1):=by
 have:=((r5 (0,0) h1 h2 h3).map (·.1)).mem_iff (a:=y)
 rwa [List.map_map] at this
theorem getD_at {α:Type} (d:α) {l:List α} {i:Nat} (h:i<l.length):l.getD i d=l[i]:=by rw [Kb,Kc h];rfl
def uB (r p:Rw) (k:Int):Rw :=
 bif r.lost||(p.lost || !ze (lh r.scale p.scale).1 (lh r.scale p.scale).2) then ab.mk r.q r.mults r.scale true
 else ab.mk r.q (Jb r p (Jh r p (aD ((lh r.scale p.scale).1.tdiv r.scale)) (aD ((aD (0-(aD ((lh r.scale p.scale).1.tdiv p.scale))))*k)))) (lh r.scale p.scale).1
  (r.mults.any (Eu r (aD ((lh r.scale p.scale).1.tdiv r.scale)))||p.mults.any (E1 r (aD ((lh r.scale p.scale).1.tdiv r.scale)) (aD ((aD (0-(aD ((lh r.scale p.scale).1.tdiv p.scale))))*k))))
def RL (rows:List Rw) (i:Nat) (r:Rw) (b:Bool):List Rw:=rows.set i (ab.mk r.q r.mults r.scale b)
theorem BU (rows:List Rw) (i:Nat) (r:Rw) (b:Bool):(RL rows i r b).length=rows.length:=by simp [RL]
theorem EY {rows:List Rw} {i:Nat} (hi:i<rows.length) (r:Rw) (b:Bool):(RL rows i r b).getD i (⟨⟨0,[]⟩,[],0,false⟩)=ab.mk r.q r.mults r.scale b:=kO hi
theorem uW (rows:List Rw) (i:Nat) (r:Rw) (b:Bool) (x:Rw):(RL rows i r b).set i x=rows.set i x:=by simp [RL]
theorem GX {rows:List Rw} {i:Nat} {p:Rw} {k:Int} (hi:i<rows.length) {r:Rw} (er:rows.getD i (⟨⟨0,[]⟩,[],0,false⟩)=r) (hr:(r.mults.map (·.1)).Nodup) (hp:(p.mults.map (·.1)).Nodup) (hs1:r.scale≠0) (hs2:p.scale≠0) :
 cV i p k rows=some (rows.set i (uB r p k)):=by
 unfold cV uB;rw [az hi,er,vz];simp only [Option.bind_some];generalize hown:aD ((lh r.scale p.scale).1.tdiv r.scale)=own;generalize hoth:aD ((aD (0-(aD ((lh r.scale p.scale).1.tdiv p.scale))))*k)=oth;generalize hsc:(lh r.scale p.scale).1=sc;generalize hse:(lh r.scale p.scale).2=se;cases hl:r.lost with
 | true=>rfl
 | false =>
  cases hl2:p.lost with
  | true=>rfl
  | false =>
   simp only [cond_false,Bool.false_or];rw [fk];simp only [Option.bind_some];cases hsm:ze sc se with
   | false=>rfl
   | true =>
    simp only [cond_true,Bool.not_true,cond_false];rw [az hs1,az hs2];have hrows:rows=RL rows i r false:=by
     have e2:rows[i]=r:=by rw [← getD_at (⟨⟨0,[]⟩,[],0,false⟩) hi];exact er
     unfold RL;have:ab.mk r.q r.mults r.scale false=rows[i]:=by rw [e2,← hl]
     rw [this,List.set_getElem_self]
    refine pb (vK (fun seen s=>s.1=RL rows i r (seen.any fun j=>Eu r own (r.mults.getD j (0,0)))∧eB s.2 (fun y=>y∈seen.map (fun j=>(r.mults.getD j (0,0)).1)) (EB r own)) (fun seen s i' hi' hnd hni hlt hI => ?_) (fun seen s hnd hall hlt hI => ?_) _ [] _ (by simp) (by simp) (by simp) ⟨hrows,?_⟩)
    ·obtain ⟨h1,h2⟩:=hI;have hm:r.mults[i']∈r.mults:=List.getElem_mem hi';have hg:r.mults.getD i' (0,0)=r.mults[i']:=getD_at _ hi';generalize he:r.mults[i']=e at hm hg ⊢;rw [lW];simp only [Option.bind_some];rw [h1,az (by rw [BU];exact hi),EY hi,uW];refine ⟨(RL rows i r ((seen++[i']).any fun j=>Eu r own (r.mults.getD j (0,0))),bI e.1 (mulR e.2 own).1 s.2),?_,rfl,?_⟩
     ·rw [List.any_append];simp only [List.any_cons,List.any_nil,Bool.or_false,hg];cases hb:seen.any fun j=>Eu r own (r.mults.getD j (0,0)) with
      | true=>rfl
      | false =>
       simp only [cond_false,Bool.false_or];rw [fk];simp only [Option.bind_some,uW];rfl
     ·refine (h2.put e.1 (mulR e.2 own).1).congr (fun y => ?_) fun y hy => ?_
      ·rw [List.map_append,List.mem_append];simp only [List.map_cons,List.map_nil,List.mem_singleton,hg];exact or_comm
      ·by_cases ey:y=e.1
       ·rw [if_pos ey,ey];unfold EB;rw [if_pos (List.mem_map.2 ⟨e,hm,rfl⟩),dv hr hm]
       ·rw [if_neg ey]
    ·obtain ⟨h1,h2⟩:=hI;rw [zS (0,0) (Eu r own) hnd hall hlt] at h1;have h2:eB s.2 (fun y=>y∈r.mults.map (·.1)) (EB r own):=h2.congr (fun y=>nt hnd hall hlt y) fun y _=>rfl;generalize hB:r.mults.any (Eu r own)=B at h1;refine pb (vK (fun seen t=>t.1=RL rows i r (B||seen.any fun j=>E1 r own oth (p.mults.getD j (0,0)))∧eB t.2 (fun y=>y∈r.mults.map (·.1)∨y∈seen.map (fun j=>(p.mults.getD j (0,0)).1)) (fun y=>if y∈seen.map (fun j=>(p.mults.getD j (0,0)).1) then Jh r p own oth y else EB r own y)) (fun seen t i' hi' hnd hni hlt hI => ?_) (fun seen t hnd hall hlt hI => ?_) _ [] _ (by simp) (by simp) (by simp) ⟨by simpa using h1,?_⟩)
     ·obtain ⟨g1,g2⟩:=hI;have hm:p.mults[i']∈p.mults:=List.getElem_mem hi';have hg:p.mults.getD i' (0,0)=p.mults[i']:=getD_at _ hi';have hns:p.mults[i'].1 ∉ seen.map (fun j=>(p.mults.getD j (0,0)).1):=fun hc=>by
       obtain ⟨j,hj,ej⟩:=List.mem_map.1 hc;have hjl:=hlt j hj;rw [getD_at _ hjl] at ej;have hpw:=List.pairwise_iff_getElem.1 (show (p.mults.map (·.1)).Pairwise (· ≠ ·) from hp);have hne:j≠i':=fun e=>hni (e ▸ hj);rcases Nat.lt_or_ge j i' with h | h
       ·exact hpw j i' (by simpa using hjl) (by simpa using hi') h (by simpa using ej)
       ·exact hpw i' j (by simpa using hi') (by simpa using hjl) (by omega) (by simpa using ej.symm)
      generalize he:p.mults[i']=e at hm hg hns ⊢;have hv:bn 0 e.1 t.2=EB r own e.1:=by
       by_cases hk:e.1∈r.mults.map (·.1)
       ·rw [g2.at_ _ (.inl hk),if_neg hns]
       ·rw [g2.out (fun h=>h.elim hk hns)];unfold EB;rw [if_neg hk]
      rw [hv,vi];simp only [Option.bind_some];rw [g1,az (by rw [BU];exact hi),EY hi,uW];refine ⟨(RL rows i r (B||(seen++[i']).any fun j=>E1 r own oth (p.mults.getD j (0,0))),bI e.1 (B2 [1,oth] [EB r own e.1,e.2]).1 t.2),?_,rfl,?_⟩
      ·rw [List.any_append];simp only [List.any_cons,List.any_nil,Bool.or_false,hg];cases hb:(B||seen.any fun j=>E1 r own oth (p.mults.getD j (0,0))) with
       | true =>
        rw [← Bool.or_assoc,hb];rfl
       | false =>
        simp only [cond_false];rw [← Bool.or_assoc,hb,Bool.false_or,fk];simp only [Option.bind_some,uW];rfl
      ·refine (g2.put e.1 (B2 [1,oth] [EB r own e.1,e.2]).1).congr (fun y => ?_) fun y hy => ?_
       ·rw [List.map_append,List.mem_append];simp only [List.map_cons,List.map_nil,List.mem_singleton,hg];constructor
        ·rintro (h | h | h)
         ·exact .inr (.inr h)
         ·exact .inl h
         ·exact .inr (.inl h)
        ·rintro (h | h | h)
         ·exact .inr (.inl h)
         ·exact .inr (.inr h)
         ·exact .inl h
       ·rw [List.map_append];simp only [List.map_cons,List.map_nil,List.mem_append,List.mem_singleton,hg];by_cases ey:y=e.1
        ·rw [if_pos ey,if_pos (.inr ey),ey];unfold Jh;rw [if_pos (List.mem_map.2 ⟨e,hm,rfl⟩),dv hp hm]
        ·rw [if_neg ey];by_cases h:y∈seen.map (fun j=>(p.mults.getD j (0,0)).1)
         ·rw [if_pos h,if_pos (.inl h)]
         ·rw [if_neg h,if_neg (fun h2=>h2.elim h ey)]
     ·obtain ⟨g1,g2⟩:=hI;rw [zS (0,0) (E1 r own oth) hnd hall hlt] at g1;have hk:ksort t.2=Jb r p (Jh r p own oth):=by
       refine g2.ksort_eq (A9 hr hp (Jh r p own oth)) (fun y => ?_) fun y hy => ?_
       ·unfold IY;rw [nt hnd hall hlt]
       ·by_cases h:y∈seen.map (fun j=>(p.mults.getD j (0,0)).1)
        ·rw [if_pos h]
        ·rw [if_neg h];unfold Jh;rw [if_neg (fun h2=>h ((nt hnd hall hlt y).2 h2))]
      rw [g1,az (by rw [BU];exact hi),EY hi,uW,az (by simpa using hi),hk,kO hi,List.set_set]
     ·refine h2.congr (fun y=>by simp) fun y _=>by simp
    ·exact ⟨by simp,fun y=>by simp,fun y hy=>by simp at hy⟩
theorem yc {α ρ:Type} (d:α) (ok:α→Bool) (g:α→α) (R:List α→ρ) {body:Int×List α→Option (gj (Int×List α) (List α) ρ)} (n:Nat) (I:α→Prop)
 (h:∀ (i:Nat) (l:List α),l.length=n→i<n→I (l.getD i d)→body ((i:Int),l)=some (bif ok (l.getD i d) then .go (((i+1:Nat):Int),l.set i (g (l.getD i d))) else .ret (R (l.set i (g (l.getD i d))))))
 (he:∀ l:List α,l.length=n→body ((n:Int),l)=some (.brk l)):∀ (k i N:Nat) (l:List α),i+k=n→k<N→l.length=n→(∀ x∈l.drop i,I x) →
 mh body N ((i:Int),l)=some (.brk (l.take i++(l.drop i).map g))∧(l.drop i).all ok=true∨(∃ l',mh body N ((i:Int),l)=some (.ret (R l')))∧(l.drop i).all ok=false
 | 0,i,N,l,h1,h2,h3,_=>by
  obtain ⟨N,rfl⟩:∃ j,N=j+1:=⟨N-1,by omega⟩;have hi:i=n:=by omega
  subst hi;left;rw [List.drop_of_length_le (by omega),List.take_of_length_le (by omega)];simp only [mh];rw [he l h3];simp [yO]
 | k+1,i,N,l,h1,h2,h3,hI=>by
  obtain ⟨N,rfl⟩:∃ j,N=j+1:=⟨N-1,by omega⟩;have hil:i<l.length:=by omega
  have hdrop:l.drop i=l[i]::l.drop (i+1):=List.drop_eq_getElem_cons hil;have hg:l.getD i d=l[i]:=getD_at d hil;have hIi:I (l.getD i d):=by rw [hg];exact hI _ (by rw [hdrop];exact List.mem_cons_self ..)
  have hb:=h i l h3 (by omega) hIi;simp only [mh];rw [hb,hg,hdrop];cases ho:ok l[i] with
  | false=>exact .inr ⟨⟨_,rfl⟩,by rw [List.all_cons,ho];rfl⟩
  | true =>
   simp only [cond_true,Option.bind_some,yO];have hd2:(l.set i (g l[i])).drop (i+1)=l.drop (i+1):=List.drop_set_of_lt (by omega);have ht2:(l.set i (g l[i])).take (i+1)=l.take i++[g l[i]]:=by rw [List.take_add_one,List.take_set_of_le (by omega)];simp [hil]
   have ih:=yc d ok g R n I h he k (i+1) N (l.set i (g l[i])) (by omega) (by omega) (by simpa using h3) (fun x hx=>by rw [hd2] at hx;exact hI x (by rw [hdrop];exact List.mem_cons_of_mem _ hx));rw [hd2,ht2] at ih;rcases ih with ⟨e1,e2⟩ | ⟨e1,e2⟩
   ·left;refine ⟨?_,by rw [List.all_cons,ho,e2];rfl⟩;rw [e1,List.map_cons,List.append_assoc];rfl
   ·right;exact ⟨e1,by rw [List.all_cons,ho,e2];rfl⟩
def wo (x:aw) (by_ l:Linear):Linear:=bif cf l x==0 then l else (uj [one x by_] l).1
def mb (x:aw) (by_ l:Linear):Bool:=cf l x==0||(uj [one x by_] l).2==0
theorem Da {x:aw} {by_:Linear} (hx:dP x=true) (hb:au by_=true):∀ b∈[one x by_],okB b:=fun b h=>by
 have:b=one x by_:=by simpa using h
 subst this;exact ⟨by have:=gW hx;show x.length≤1000000;omega,kG hb,by show ([]:aw).length≤1000000;simp,by intro l h;cases h⟩
abbrev wy:Bind:=⟨0,[],⟨0,[]⟩,⟨[],[]⟩,[]⟩
abbrev nB:Rw:=⟨⟨0,[]⟩,[],0,false⟩
theorem Fj {i:Nat} {bs:List Bind} {x:aw} {by_:Linear} (hi:i<bs.length) (hx:dP x=true) (hb:au by_=true) (hv:au (bs.getD i wy).Dim=true) :
 ct i bs x [one x by_]=some (mb x by_ (bs.getD i wy).Dim,bs.set i (Bind.mk (bs.getD i wy).Kind (bs.getD i wy).Var (wo x by_ (bs.getD i wy).Dim) (bs.getD i wy).Row (bs.getD i wy).Elem)):=by
 unfold ct mb wo;rw [az hi,jc];simp only [Option.bind_some];have hg:bs.getD i wy=bs[i]:=getD_at wy hi;cases h0:cf (bs.getD i wy).Dim x==0 with
 | true =>
  simp only [cond_true,Bool.true_or];rw [JO,hg,List.set_getElem_self]
 | false =>
  simp only [cond_false,Bool.false_or];rw [od _ _ (kG hv) (Da hx hb)];rfl
theorem Cg {i:Nat} {rows:List Rw} {x:aw} {by_:Linear} (hi:i<rows.length) (hx:dP x=true) (hb:au by_=true) (hv:au (rows.getD i nB).q=true) :
 bX i rows x [one x by_]=some (mb x by_ (rows.getD i nB).q,rows.set i (ab.mk (wo x by_ (rows.getD i nB).q) (rows.getD i nB).mults (rows.getD i nB).scale (rows.getD i nB).lost)):=by
 unfold bX mb wo;rw [az hi,jc];simp only [Option.bind_some];have hg:rows.getD i nB=rows[i]:=getD_at nB hi;cases h0:cf (rows.getD i nB).q x==0 with
 | true =>
  simp only [cond_true,Bool.true_or];rw [show ab.mk (rows.getD i nB).q (rows.getD i nB).mults (rows.getD i nB).scale (rows.getD i nB).lost=rows.getD i nB from rfl,hg,List.set_getElem_self]
 | false =>
  simp only [cond_false,Bool.false_or];rw [od _ _ (kG hv) (Da hx hb)];rfl
def jK (x:aw) (by_:Linear) (b:Bind):Bind:=Bind.mk b.Kind b.Var (wo x by_ b.Dim) b.Row b.Elem
def HP (x:aw) (by_:Linear) (r:Rw):Rw:=ab.mk (wo x by_ r.q) r.mults r.scale r.lost
def xx (x:aw) (by_:Linear) (i:Nat) (qs ds:List Linear):Bool:=au by_&&(ds.all (mb x by_)&&(qs.drop i).all (mb x by_))
theorem put_eq {x:aw} {by_:Linear} {i:Nat} {nx:Int} {rows:List Rw} {bs:List Bind} (hx:dP x=true) (hk:FG by_) (hi:i≤rows.length) (hl1:rows.length≤1000000) (hl2:bs.length≤2000000000)
 (hr:∀ r∈rows,au r.q=true) (hb:∀ b∈bs,au b.Dim=true) :
 (xx x by_ i (rows.map (·.q)) (bs.map (·.Dim))=true∧aZ x by_ (i:Int) nx rows bs=some (0,rows.take i++(rows.drop i).map (HP x by_),bs.map (jK x by_)++[one x by_])) ∨
 (xx x by_ i (rows.map (·.q)) (bs.map (·.Dim))=false∧∃ r' b',aZ x by_ (i:Int) nx rows bs=some (3,r',b')):=by
 unfold aZ xx;rw [dW by_ hk.1 hk.2];cases hv:au by_ with
 | false=>exact .inr ⟨rfl,_,_,rfl⟩
 | true =>
  simp only [Option.bind_some,cond_true,Bool.true_and];have h1:=yc (ρ:=Int×List Rw×List Bind) wy (fun b=>mb x by_ b.Dim) (jK x by_) (fun l=>(3,rows,l)) bs.length (fun b=>au b.Dim=true)
   (body:=fun s0 =>
   bif decide (s0.1<((bs.length:Nat):Int)) then (
    bP (0≤s0.1∧s0.1<(s0.2.length:Int)) <|
    (ct s0.1.toNat s0.2 x [(Bind.mk 1 x by_ (Shape.mk [] []) [])]).bind fun y1 =>
    bif y1.1 then (
     some (.go ((aD (s0.1+1)),y1.2))
    ) else (
     some (.ret (3,rows,y1.2))
    )
   ) else (
    some (.brk s0.2)
   )) (fun j l hl hj hIj=>by
    simp only;rw [Ki (by omega),cond_true,az ⟨by omega,by omega⟩,Int.toNat_natCast,show (Bind.mk 1 x by_ (Shape.mk [] []) [])=one x by_ from rfl,Fj (by omega) hx hv hIj];simp only [Option.bind_some];rw [bR (by omega) (by omega)];cases mb x by_ (l.getD j wy).Dim<;>rfl) (fun l hl=>by
    simp only;rw [Kh (by omega)];rfl) bs.length 0 4294967296 bs (by omega) (by omega) rfl (fun b h=>hb b (by simpa using h))
  rcases h1 with ⟨e1,a1⟩ | ⟨⟨l',e1⟩,a1⟩
  ·rw [List.drop_zero,List.take_zero,List.nil_append] at e1;rw [List.drop_zero] at a1;have a1':(bs.map (·.Dim)).all (mb x by_)=true:=by rw [List.all_map];exact a1
   rw [a1',Bool.true_and];have h2:=yc (ρ:=Int×List Rw×List Bind) nB (fun r=>mb x by_ r.q) (HP x by_) (fun l=>(3,l,bs.map (jK x by_))) rows.length (fun r=>au r.q=true)
    (body:=fun s1 =>
    bif decide (s1.1<((s1.2.length:Nat):Int)) then (
     bP (0≤s1.1∧s1.1<(s1.2.length:Int)) <|
     (bX s1.1.toNat s1.2 x [(Bind.mk 1 x by_ (Shape.mk [] []) [])]).bind fun y2 =>
     bif y2.1 then (
      some (.go ((aD (s1.1+1)),y2.2))
     ) else (
      some (.ret (3,y2.2,bs.map (jK x by_)))
     )
    ) else (
     some (.brk s1.2)
    )) (fun j l hl hj hIj=>by
     simp only;rw [Ki (by omega),cond_true,az ⟨by omega,by omega⟩,Int.toNat_natCast,show (Bind.mk 1 x by_ (Shape.mk [] []) [])=one x by_ from rfl,Cg (by omega) hx hv hIj];simp only [Option.bind_some];rw [bR (by omega) (by omega)];cases mb x by_ (l.getD j nB).q<;>rfl) (fun l hl=>by
     simp only;rw [hl,Kh (by omega)];rfl) (rows.length-i) i 4294967296 rows (by omega) (by omega) rfl (fun r h=>hr r (List.mem_of_mem_drop h))
   rcases h2 with ⟨e2,a2⟩ | ⟨⟨l',e2⟩,a2⟩
   ·left;refine ⟨by rw [← List.map_drop,List.all_map];exact a2,?_⟩;refine (congrArg (fun o:Option (Out (List Bind) (Int×List Rw×List Bind))=>Option.bind o _) e1).trans ?_;simp only [Option.bind_some,Sh.aft];refine (congrArg (fun o:Option (Out (List Rw) (Int×List Rw×List Bind))=>Option.bind o _) e2).trans ?_;simp only [Option.bind_some,Sh.aft];rw [az (by simp),az (by simp;omega)];rfl
   ·right;refine ⟨by rw [← List.map_drop,List.all_map];exact a2,l',bs.map (jK x by_),?_⟩;refine (congrArg (fun o:Option (Out (List Bind) (Int×List Rw×List Bind))=>Option.bind o _) e1).trans ?_;simp only [Option.bind_some,Sh.aft];refine (congrArg (fun o:Option (Out (List Rw) (Int×List Rw×List Bind))=>Option.bind o _) e2).trans ?_;rfl
  ·right;rw [List.drop_zero] at a1;have a1':(bs.map (·.Dim)).all (mb x by_)=false:=by rw [List.all_map];exact a1
   refine ⟨by rw [a1',Bool.false_and],rows,l',?_⟩;refine (congrArg (fun o:Option (Out (List Bind) (Int×List Rw×List Bind))=>Option.bind o _) e1).trans ?_;rfl
theorem CN {α ρ:Type} (d:α) (g:α→α) {body:Int×List α→Option (gj (Int×List α) (List α) ρ)} (n:Nat) (I:α→Prop)
 (h:∀ (i:Nat) (l:List α),l.length=n→i<n→I (l.getD i d)→body ((i:Int),l)=some (.go (((i+1:Nat):Int),l.set i (g (l.getD i d)))))
 (he:∀ l:List α,l.length=n→body ((n:Int),l)=some (.brk l)):∀ (k i N:Nat) (l:List α),i+k=n→k<N→l.length=n→(∀ x∈l.drop i,I x) →
 mh body N ((i:Int),l)=some (.brk (l.take i++(l.drop i).map g))
 | 0,i,N,l,h1,h2,h3,_=>by
  obtain ⟨N,rfl⟩:∃ j,N=j+1:=⟨N-1,by omega⟩;have hi:i=n:=by omega
  subst hi;rw [List.drop_of_length_le (by omega),List.take_of_length_le (by omega)];simp only [mh];rw [he l h3];simp [yO]
 | k+1,i,N,l,h1,h2,h3,hI=>by
  obtain ⟨N,rfl⟩:∃ j,N=j+1:=⟨N-1,by omega⟩;have hil:i<l.length:=by omega
  have hdrop:l.drop i=l[i]::l.drop (i+1):=List.drop_eq_getElem_cons hil;have hg:l.getD i d=l[i]:=getD_at d hil;have hIi:I (l.getD i d):=by rw [hg];exact hI _ (by rw [hdrop];exact List.mem_cons_self ..)
  have hb:=h i l h3 (by omega) hIi;simp only [mh];rw [hb,hg,hdrop];simp only [Option.bind_some,yO];have hd2:(l.set i (g l[i])).drop (i+1)=l.drop (i+1):=List.drop_set_of_lt (by omega);have ht2:(l.set i (g l[i])).take (i+1)=l.take i++[g l[i]]:=by rw [List.take_add_one,List.take_set_of_le (by omega)];simp [hil]
  have ih:=CN d g n I h he k (i+1) N (l.set i (g l[i])) (by omega) (by omega) (by simpa using h3) (fun x hx=>by rw [hd2] at hx;exact hI x (by rw [hdrop];exact List.mem_cons_of_mem _ hx));rw [hd2,ht2] at ih;rw [ih,List.map_cons,List.append_assoc];rfl
structure nq (n:Int) (r:Rw):Prop where
 v:au r.q=true
 nd:(r.mults.map (·.1)).Nodup
 sc:r.scale≠0
 ks:∀ y∈r.mults.map (·.1),0≤y∧y<n
theorem CV (r p:Rw) (k:Int):(uB r p k).q=r.q:=by unfold uB;cases r.lost||(p.lost || !ze (lh r.scale p.scale).1 (lh r.scale p.scale).2)<;>rfl
theorem ID {a b:Int} (ha:a≠0) (hb:b≠0) (h:ze (lh a b).1 (lh a b).2=true):(lh a b).1≠0:=by
 have h2:(lh a b).2=0:=by unfold ze at h;simp only [Kd] at h;exact eq_of_beq h.1
 clear h;unfold lh at h2 ⊢;cases hi:ko a&&ko b with
 | false=>rw [hi] at h2;simp at h2
 | true =>
  rw [hi] at h2;have e1:(a==0)=false:=by simpa using ha
  have e2:(b==0)=false:=by simpa using hb
  simp only [cond_true,e1,e2,Bool.or_false,cond_false] at h2 ⊢;unfold mulR at h2 ⊢;cases hj:ko (((a.natAbs / Nat.gcd a.natAbs b.natAbs:Nat)):Int)&&(ko (b.natAbs:Int)&&ko ((((a.natAbs / Nat.gcd a.natAbs b.natAbs:Nat)):Int)*(b.natAbs:Int))) with
  | false=>rw [hj] at h2;simp at h2
  | true =>
   simp only [cond_true];have hg:Nat.gcd a.natAbs b.natAbs≤a.natAbs:=Nat.gcd_le_left _ (by omega);have hg0:0<Nat.gcd a.natAbs b.natAbs:=Nat.pos_of_ne_zero (Nat.gcd_ne_zero_left (by omega));have h3:0<a.natAbs / Nat.gcd a.natAbs b.natAbs:=Nat.div_pos hg hg0;exact Int.mul_ne_zero (by omega) (by omega)
theorem Fw {n:Int} {r p:Rw} (hr:nq n r) (hp:nq n p) (k:Int):nq n (uB r p k):=by
 refine ⟨by rw [CV];exact hr.v,?_,?_,?_⟩<;>unfold uB<;>cases hc:r.lost||(p.lost || !ze (lh r.scale p.scale).1 (lh r.scale p.scale).2)
 ·exact (C7 hr.nd hp.nd _).nd
 ·exact hr.nd
 ·simp only [Bool.or_eq_false_iff,Bool.not_eq_false'] at hc;exact ID hr.sc hp.sc hc.2.2
 ·exact hr.sc
 ·intro y hy;rcases ((C7 hr.nd hp.nd _).ks y).1 hy with h | h
  ·exact hr.ks y h
  ·exact hp.ks y h
 ·exact hr.ks
theorem ox {α β ρ:Type} (c:α→Bool) (f:α→β):∀ (ts:List α) (acc:List β),dq (ε:=List β) (ρ:=ρ) (fun u s=>gj.go (bif c u then s else s++[f u])) (fun s=>s) ts acc = .brk (acc++(ts.filter fun u => !c u).map f)
 | [],acc=>by simp [dq]
 | u::ts,acc=>by
  simp only [dq];rw [ox c f ts];cases h:c u with
  | true=>simp [h]
  | false=>simp [h]
def GD (t:ak) (q:Linear):Linear:=Linear.mk (-t.C*q.Const) ((q.Terms.filter fun u => !(u.Var==t.Var)).map fun u=>ak.mk u.Var (-t.C*u.C))
def gU (t:ak) (p:Rw) (r:Rw):Rw:=bif cf r.q t.Var==0 then r else uB r p (cf r.q t.Var*t.C)
theorem Gu {l:Linear} (h:au l=true) (v:aw) : -1000000≤cf l v∧cf l v≤1000000:=by
 by_cases h0:cf l v=0
 ·omega
 ·obtain ⟨t,ht,_,e⟩:=tT (show om v l.Terms≠0 from h0);have:=(cA h t ht).1;have e:t.C=cf l v:=e;omega
theorem unit_eq {i:Nat} {t:ak} {nx:Int} {rows:List Rw} {bs:List Bind} (hi:i<rows.length) (hl:rows.length≤1000000) (hr:∀ r∈rows,nq rows.length r) (ht:t.C=1∨t.C = -1) :
 bq (i:Int) t nx rows bs=(aZ t.Var (GD t (rows.getD i nB).q) (i:Int) nx (rows.take (i+1)++(rows.drop (i+1)).map (gU t (rows.getD i nB))) bs).bind fun y=>some (y.1,y.2.1,y.2.2):=by
 unfold bq;have hp:=hr _ (bF nB hi);rw [az ⟨by omega,by omega⟩,Int.toNat_natCast,az hi];generalize hP:rows.getD i nB=p at hp;have hC:=cA hp.v;have hlen:=bE hp.v;have h1:=dx (ε:=List ak) (ρ:=Empty) (f:=fun s=>s) (fin:=fun i0 s0=>s0) (⟨[],0⟩:ak) p.q.Terms (fun u s=>gj.go (bif u.Var==t.Var then s else s++[ak.mk u.Var (-t.C*u.C)])) (fun j s=>s.length≤j)
  (body:=fun i0 s0=>((
   bif (((p.q.Terms).getD i0 ⟨[],0⟩).Var==t.Var) then (
    some s0
   ) else (
    bP ((s0.length+1)*24≤140737488355328) <|
    some (s0++[(ak.mk (((p.q.Terms).getD i0 ⟨[],0⟩).Var) (aD ((aD (0-t.C))*(((p.q.Terms).getD i0 ⟨[],0⟩).C))))])
   )
  ):Option (List ak)).bind fun v0 =>
  some (.go v0)) (fun _ _=>rfl) [] (Nat.zero_le _) (fun j s hj hI=>by
   have hm:p.q.Terms.getD j ⟨[],0⟩∈p.q.Terms:=bF _ hj;obtain ⟨c1,c2⟩:=hC _ hm;refine ⟨?_,fun s' hs' => ?_⟩
   ·cases (p.q.Terms.getD j ⟨[],0⟩).Var==t.Var with
    | true=>rfl
    | false =>
     simp only [cond_false];rw [az (by omega),bR (n:=0-t.C) (by omega) (by omega)];have e:(0-t.C)*(p.q.Terms.getD j ⟨[],0⟩).C = -t.C*(p.q.Terms.getD j ⟨[],0⟩).C:=by congr 1;omega
     rw [e,bR (by rcases ht with h | h<;>rw [h]<;>omega) (by rcases ht with h | h<;>rw [h]<;>omega)];rfl
   ·injection hs' with hs'
    subst hs';cases (p.q.Terms.getD j ⟨[],0⟩).Var==t.Var<;>simp<;>omega)
 refine (congrArg (fun o:Option (Out (List ak) Empty)=>Option.bind o _) h1).trans ?_;rw [ox (fun u:ak=>u.Var==t.Var)];simp only [Option.bind_some,dI,List.nil_append];have h2:=CN (ρ:=Empty) nB (gU t p) rows.length (nq rows.length)
  (body:=fun s1 =>
  bif decide (s1.1<((s1.2.length:Nat):Int)) then (
   bP (0≤s1.1∧s1.1<(s1.2.length:Int)) <|
   bP (s1.1.toNat<s1.2.length) <|
   (cK (Linear.mk (((s1.2.getD s1.1.toNat (⟨⟨0,[]⟩,[],0,false⟩)).q).Const) (((s1.2.getD s1.1.toNat (⟨⟨0,[]⟩,[],0,false⟩)).q).Terms)) t.Var).bind fun y0 =>
   ((
    bif (y0==0) then (
     some s1.2
    ) else (
     (cV s1.1.toNat (ab.mk (Linear.mk ((p.q).Const) ((p.q).Terms)) (p.mults) (p.scale) (p.lost)) (aD (y0*t.C)) s1.2).bind fun y1 =>
     some y1
    )
   ):Option (List ab)).bind fun v1 =>
   some (.go ((aD (s1.1+1)),v1))
  ) else (
   some (.brk s1.2)
  )) (fun j l hlj hj hIj=>by
   simp only;rw [Ki (by omega),cond_true,az ⟨by omega,by omega⟩,Int.toNat_natCast,az (by omega),jc];simp only [Option.bind_some];rw [bR (n:=(j:Int)+1) (by omega) (by omega)];unfold gU;have hIj':nq rows.length (l.getD j ⟨⟨0,[]⟩,[],0,false⟩):=hIj;generalize hR:l.getD j ⟨⟨0,[]⟩,[],0,false⟩=r at hIj';have hR':l.getD j nB=r:=hR;have hb:=Gu hIj'.v t.Var;rw [pZ];cases h0:cf r.q t.Var==0 with
   | true =>
    simp only [cond_true,Option.bind_some];have:r=l[j]:=by rw [← hR',getD_at nB (by omega)]
    rw [this,List.set_getElem_self];rfl
   | false =>
    simp only [cond_false];rw [bR (n:=cf r.q t.Var*t.C) (by rcases ht with h | h<;>rw [h]<;>omega) (by rcases ht with h | h<;>rw [h]<;>omega)];rw [GX (by omega) hR hIj'.nd hp.nd hIj'.sc hp.sc];rfl) (fun l hlj=>by
   simp only;rw [Kh (by omega)];rfl) (rows.length-(i+1)) (i+1) 4294967296 rows (by omega) (by omega) rfl (fun r h=>hr r (List.mem_of_mem_drop h))
 have e3:aD ((i:Int)+1)=((i+1:Nat):Int):=by rw [bR (by omega) (by omega)];omega
 rw [e3];refine (congrArg (fun o:Option (Out (List Rw) Empty)=>Option.bind o _) h2).trans ?_;simp only [Option.bind_some,dI];have e4:aD (aD (0-t.C)*p.q.Const) = -t.C*p.q.Const:=by
  have:=j6 hp.v;rw [bR (n:=0-t.C) (by omega) (by omega)];have e:(0-t.C)*p.q.Const = -t.C*p.q.Const:=by congr 1;omega
  rw [e,bR (by rcases ht with h | h<;>rw [h]<;>omega) (by rcases ht with h | h<;>rw [h]<;>omega)]
 rw [e4];rfl
def oD (t:ak) (n:Nat) (ts:List ak):List ak:=ak.mk (jz n) 1::(ts.filter fun u => !(u.Var==t.Var||gV u.C t.C==0)).map fun u=>ak.mk u.Var (-(gV u.C t.C))
def zj (ts:List ak):List ak:=gL (fun x y=>gR x.Var y.Var) ts
theorem nv (ts:List ak):(zj ts).Perm ts:=List.mergeSort_perm ts _
def CB (t:ak) (n:Nat) (q:Linear):Linear:=Linear.mk (-(gV q.Const t.C)) (zj (oD t n q.Terms))
theorem Fk (n:Nat):Lib.itoa (n:Int)=dec n:=by rw [E6,Kh (by omega),cond_false,Int.natAbs_natCast]
theorem ti {n:Int} {t:ak} (h0:t.C≠0) (hn : -1000000≤n∧n≤1000000) (ht : -1000000≤t.C∧t.C≤1000000):bB n t=some (-(gV n t.C)):=by unfold bB;rw [vy h0 hn ht];simp only [Option.bind_some];have:=GJ h0 hn;rw [bR (by omega) (by omega)];exact congrArg some (by omega)
theorem C4 {t:ak} {n:Nat} {ts:List ak} (hn:zJ ts) (hf:∀ u∈ts,u.Var≠jz n):zJ (oD t n ts):=by unfold zJ oD;rw [List.map_cons,List.nodup_cons,List.map_map];refine ⟨fun h => ?_,(List.Sublist.map _ List.filter_sublist).nodup hn⟩;obtain ⟨u,hu,e⟩:=List.mem_map.1 h;exact hf u (List.mem_filter.1 hu).1 e
theorem AL (t:ak) (n:Nat) (ts:List ak):(oD t n ts).length≤ts.length+1:=by unfold oD;rw [List.length_cons,Kj];have:=List.length_filter_le (fun u => !(u.Var==t.Var||gV u.C t.C==0)) ts;omega
theorem GG {t:ak} {n:Nat} {q:Linear} (h1:1≤n) (h2:n<1000000000) (hv:au q=true):FG (CB t n q):=by
 have hp:=nv (oD t n q.Terms);have hl:=bE hv;refine ⟨?_,fun u hu => ?_⟩
 ·show (zj (oD t n q.Terms)).length≤1000000;rw [hp.length_eq];have:=AL t n q.Terms;omega
 ·have hu:=hp.mem_iff.1 (show u∈zj (oD t n q.Terms) from hu);unfold oD at hu;rcases List.mem_cons.1 hu with rfl | hu
  ·have:=gW (pF h1 h2).1;show (jz n).length≤1000000;omega
  ·obtain ⟨x,hx,rfl⟩:=List.mem_map.1 hu;have:=gW ((cA hv x (List.mem_filter.1 hx).1).2);show x.Var.length≤1000000;omega
theorem G5 {t:ak} {q:Linear} (hv:au q=true):FG (GD t q):=by have hl:=bE hv;have h2:=List.length_filter_le (fun u:ak => !(u.Var==t.Var)) q.Terms;refine ⟨by show ((q.Terms.filter fun u => !(u.Var==t.Var)).map fun u=>ak.mk u.Var (-t.C*u.C)).length≤1000000;rw [Kj];omega,fun u hu => ?_⟩;obtain ⟨x,hx,rfl⟩:=List.mem_map.1 (show u∈(q.Terms.filter fun u => !(u.Var==t.Var)).map fun u=>ak.mk u.Var (-t.C*u.C) from hu);have:=gW ((cA hv x (List.mem_filter.1 hx).1).2);show x.Var.length≤1000000;omega
theorem El {i:Nat} {t:ak} {n:Nat} {rows:List Rw} {bs:List Bind} (hi:i<rows.length) (hv:au (rows.getD i nB).q=true) (h1:1≤n) (h2:n<1000000000) (h0:t.C≠0) (ht : -1000000≤t.C∧t.C≤1000000)
 (hf:∀ u∈(rows.getD i nB).q.Terms,u.Var≠jz n) :
 bL (i:Int) t (n:Int) rows bs=bif decide (n+1≥1000000000) then some (3,((n+1:Nat):Int),rows,bs) else
  (aZ t.Var (CB t n (rows.getD i nB).q) (i:Int) ((n+1:Nat):Int) rows bs).bind fun y=>some (y.1,((n+1:Nat):Int),y.2.1,y.2.2):=by
 unfold bL;rw [az ⟨Int.natCast_nonneg _,by omega⟩,Int.toNat_natCast,az hi];generalize hP:rows.getD i nB=p at hv hf;have hdl:=qA 8 n (by omega);unfold gJ;rw [Fk,az ⟨by omega,by omega,by omega⟩];simp only [Option.bind_some];rw [az (by simp;omega),bR (n:=(n:Int)+1) (by omega) (by omega)];have e1:(n:Int)+1=((n+1:Nat):Int):=by omega
 rw [e1];have e2:decide (((n+1:Nat):Int)≥1000000000)=decide (n+1≥1000000000):=by rw [decide_eq_decide];omega
 rw [e2];cases decide (n+1≥1000000000) with
 | true=>rfl
 | false =>
  simp only [cond_false];have hC:=cA hv;have hlen:=bE hv;rw [ti h0 (j6 hv) ht];simp only [Option.bind_some];have hl:=dx (ε:=List ak) (ρ:=Empty) (f:=fun s=>s) (fin:=fun i0 s0=>s0) (⟨[],0⟩:ak) p.q.Terms (fun u s=>gj.go (bif (u.Var==t.Var||gV u.C t.C==0) then s else s++[ak.mk u.Var (-(gV u.C t.C))])) (fun j s=>s.length≤j+1)
   (body:=fun i0 s0 =>
   (bB ((p.q.Terms.getD i0 ⟨[],0⟩).C) t).bind fun y2 =>
   ((
    bif ((p.q.Terms.getD i0 ⟨[],0⟩).Var==t.Var) then (
     some false
    ) else (
     some (y2 != 0)
    )
   ):Option Bool).bind fun v0 =>
   ((
    bif v0 then (
     bP ((s0.length+1)*24≤140737488355328) <|
     some (s0++[(ak.mk ((p.q.Terms.getD i0 ⟨[],0⟩).Var) y2)])
    ) else (
     some s0
    )
   ):Option (List ak)).bind fun v1 =>
   some (.go v1)) (fun _ _=>rfl) [(ak.mk ([95]++dec n) 1)] (by simp) (fun j s hj hI=>by
    have hm:p.q.Terms.getD j ⟨[],0⟩∈p.q.Terms:=bF _ hj;obtain ⟨c1,c2⟩:=hC _ hm;refine ⟨?_,fun s' hs' => ?_⟩
    ·rw [ti h0 c1 ht];simp only [Option.bind_some];cases (p.q.Terms.getD j ⟨[],0⟩).Var==t.Var with
     | true=>rfl
     | false =>
      simp only [cond_false,Option.bind_some,Bool.false_or];have e3:(-(gV (p.q.Terms.getD j ⟨[],0⟩).C t.C) != 0) = !(gV (p.q.Terms.getD j ⟨[],0⟩).C t.C==0):=by unfold bne;congr 1;rw [Bool.eq_iff_iff];simp
      rw [e3];cases gV (p.q.Terms.getD j ⟨[],0⟩).C t.C==0 with
      | true=>rfl
      | false =>
       simp only [Bool.not_false,cond_true];rw [az (by omega)];rfl
    ·injection hs' with hs'
     subst hs';cases (p.q.Terms.getD j ⟨[],0⟩).Var==t.Var||gV (p.q.Terms.getD j ⟨[],0⟩).C t.C==0<;>simp<;>omega)
  refine (congrArg (fun o:Option (Out (List ak) Empty)=>Option.bind o _) hl).trans ?_;rw [ox (fun u:ak=>u.Var==t.Var||gV u.C t.C==0)];simp only [Option.bind_some,dI];have e4:[ak.mk ([95]++dec n) 1]++(p.q.Terms.filter fun u => !(u.Var==t.Var||gV u.C t.C==0)).map (fun u=>ak.mk u.Var (-(gV u.C t.C)))=oD t n p.q.Terms:=rfl;rw [e4];unfold iy;have hrl:=AL t n p.q.Terms;rw [az ⟨by omega,C4 (fI hv) hf⟩];rfl
theorem BC {l:Linear} (h:au l=true) (c:Int) (f:Int→Int) (hc : -1000000≤c∧c≤1000000) (hf:∀ t∈l.Terms,f t.C≠0 ∧ -1000000≤f t.C∧f t.C≤1000000):au (Linear.mk c (l.Terms.map fun t=>ak.mk t.Var (f t.C)))=true:=by
 have hl:=bE h;have hat:∀ j,j<l.Terms.length→wM (Linear.mk c (l.Terms.map fun t=>ak.mk t.Var (f t.C))) j=ak.mk (wM l j).Var (f (wM l j).C):=fun j hj=>by unfold wM;rw [getD_at _ (by simpa using hj),getD_at _ hj];simp
 have h':=h;simp only [au,Kd,Ko,decide_eq_true_eq] at h' ⊢;refine ⟨fun j hj => ?_,by simp only [Bd,Kd,decide_eq_true_eq];exact hc,by simpa using hl⟩;have hj:j<l.Terms.length:=by simpa using hj
 have hp:=h'.1 j (by simpa using hj);have hm:wM l j∈l.Terms:=bF _ hj;obtain ⟨f1,f2⟩:=hf _ hm;simp only [jD,Kd] at hp ⊢;rw [hat j hj];refine ⟨hp.1,by simpa using f1,by simp only [Bd,Kd,decide_eq_true_eq];exact f2,?_⟩;cases j with
 | zero=>rfl
 | succ j =>
  have:=hp.2.2.2;rw [hat (j+1-1) (by omega)];exact this
def a8 (g:Int) (q:Linear):Linear:=Linear.mk (q.Const.tdiv g) (q.Terms.map fun t=>ak.mk t.Var (t.C.tdiv g))
theorem tdiv_le {a g:Int} (h : -1000000≤a∧a≤1000000) : -1000000≤a.tdiv g∧a.tdiv g≤1000000:=by have:=Int.natAbs_tdiv_le_natAbs a g;omega
theorem wE {q:Linear}:∀ t∈q.Terms,((cont q:Nat):Int) ∣ t.C:=fun t ht=>Int.natAbs_dvd_natAbs.1 (by rw [Int.natAbs_natCast];exact (sH q.Terms 0).2 t ht)
theorem ga {q:Linear} (h:au q=true):au (a8 (cont q) q)=true:=by refine BC h _ (fun c=>c.tdiv (cont q)) (tdiv_le (j6 h)) fun t ht=>⟨fun h0 => ?_,tdiv_le (cA h t ht).1⟩;have:=Int.mul_tdiv_cancel' (wE t ht);rw [h0,Int.mul_zero] at this;exact gf h t ht this.symm
def GM (n:Nat) (m:Ms):List Int:=(List.range n).map fun j:Nat=>bn 0 (j:Int) m
theorem Gz {β:Type} {n:Nat} {m:Ms} (hn:(m.map (·.1)).Nodup) (hk:∀ y∈m.map (·.1),0≤y∧y<(n:Int)) (k:List Int→Option β) (v:β) (hv:k (GM n m)=some v) :
 kP (σ:=(List Int)) (ε:=Empty) (β:=β) m (fun e0 s0 =>
  bP (0≤e0.1∧e0.1<(s0.length:Int)) <|
  bP (e0.1.toNat<s0.length) <|
  some (.go (s0.set e0.1.toNat e0.2))
  ) (List.replicate n 0) k=some v:=by
 refine pb (vK (fun seen s=>s=(List.range n).map fun j:Nat=>if (j:Int)∈seen.map (fun i=>(m.getD i (0,0)).1) then bn 0 (j:Int) m else 0) (fun seen s i hi hnd hni hlt hI => ?_) (fun seen s hnd hall hlt hI => ?_) _ [] _ (by simp) (by simp) (by simp) ?_)
 ·have hm:m[i]∈m:=List.getElem_mem hi;have hg:m.getD i (0,0)=m[i]:=getD_at _ hi;generalize he:m[i]=e at hm hg ⊢;have hb:=hk e.1 (List.mem_map.2 ⟨e,hm,rfl⟩);have hlen:s.length=n:=by rw [hI];simp
  refine ⟨_,by rw [az ⟨hb.1,by omega⟩,az (by omega)],?_⟩;rw [hI];refine List.ext_getElem (by simp) fun j h1 h2 => ?_;have hj:j<n:=by simpa using h2
  rw [List.getElem_set];simp only [List.getElem_map,List.getElem_range,List.map_append,List.map_cons,List.map_nil,List.mem_append,List.mem_singleton,hg];by_cases ej:e.1.toNat=j
  ·have:(j:Int)=e.1:=by omega
   rw [if_pos ej,this,if_pos (.inr rfl),dv hn hm]
  ·have:¬ (j:Int)=e.1:=by omega
   rw [if_neg ej];simp only [this,or_false]
 ·have:s=GM n m:=by
   rw [hI];unfold GM;refine List.map_congr_left fun j hj => ?_;by_cases h:(j:Int)∈m.map (·.1)
   ·rw [if_pos ((nt hnd hall hlt _).2 h)]
   ·rw [if_neg (fun h2=>h ((nt hnd hall hlt _).1 h2)),(eB.self hn).out h]
  rw [this];exact hv
 ·refine List.ext_getElem (by simp) fun j h1 h2=>by simp
def iQ (r:Rw):Rw:=bif ze (mulR r.scale (cont r.q)).1 (mulR r.scale (cont r.q)).2 then ab.mk (a8 (cont r.q) r.q) r.mults (mulR r.scale (cont r.q)).1 r.lost else ab.mk (a8 (cont r.q) r.q) r.mults 1 true
def Ag (n:Nat) (r:Rw):ah:=bif r.lost then ah.mk [] 0 else bif ze (mulR r.scale (cont r.q)).1 (mulR r.scale (cont r.q)).2 then ah.mk (GM n r.mults) (mulR r.scale (cont r.q)).1 else ah.mk [] 0
def Co (q:Linear):Bool:=cont q==0 || !(q.Const.tmod (cont q)==0)
set_option maxHeartbeats 2000000 in
theorem step_eq {i:Nat} {n:Int} {rows:List Rw} {bs:List Bind} (hi:i<rows.length) (hl:rows.length≤1000000) {r:Rw} (er:rows.getD i nB=r) (hr:nq rows.length r) :
 be (i:Int) n rows bs=bif Co r.q then some ((Ag rows.length r,9),n,rows,bs) else
  bif (vl (a8 (cont r.q) r.q).Terms).C==1||(vl (a8 (cont r.q) r.q).Terms).C == -1 then
   (bq (i:Int) (vl (a8 (cont r.q) r.q).Terms) n (rows.set i (iQ r)) bs).bind fun y=>some ((ah.mk [] 0,y.1),n,y.2.1,y.2.2)
  else (bL (i:Int) (vl (a8 (cont r.q) r.q).Terms) n (rows.set i (iQ r)) bs).bind fun y=>some ((ah.mk [] 0,y.1),y.2.1,y.2.2.1,y.2.2.2):=by
 unfold be Co;rw [az ⟨Int.natCast_nonneg _,by omega⟩,Int.toNat_natCast,az hi];have er':rows.getD i ⟨⟨0,[]⟩,[],0,false⟩=r:=er;simp only [er',pZ];rw [rb hr.v];simp only [Option.bind_some,lW,fk];have hrefuse:(bif r.lost then some ((ah.mk [] 0,(9:Int)),n,rows,bs) else bif ze (mulR r.scale (cont r.q)).1 (mulR r.scale (cont r.q)).2 then
  bP (8*rows.length≤140737488355328) <|
  kP (σ:=(List Int)) (ε:=Empty) (β:=((ah×Int)×Int×(List ab)×(List Bind))) r.mults (fun e0 s0 =>
   bP (0≤e0.1∧e0.1<(s0.length:Int)) <|
   bP (e0.1.toNat<s0.length) <|
   some (.go (s0.set e0.1.toNat e0.2))
  ) (List.replicate rows.length 0) (fun s0 =>
   some (((ah.mk s0 (mulR r.scale (cont r.q)).1),9),n,rows,bs)
  ) else some ((ah.mk [] 0,(9:Int)),n,rows,bs))=some ((Ag rows.length r,9),n,rows,bs):=by
  unfold Ag;cases r.lost with
  | true=>rfl
  | false =>
   simp only [cond_false];cases ze (mulR r.scale (cont r.q)).1 (mulR r.scale (cont r.q)).2 with
   | false=>rfl
   | true =>
    simp only [cond_true];rw [az (by omega)];exact Gz hr.nd hr.ks _ _ rfl
 by_cases h0:cont r.q=0
 ·have e1:(((cont r.q:Nat):Int)==0)=true:=by simp [h0]
  have e2:(cont r.q==0)=true:=by simp [h0]
  rw [e1,e2];simp only [cond_true,Bool.true_or];exact hrefuse
 ·have e1:(((cont r.q:Nat):Int)==0)=false:=by simp [h0]
  have e2:(cont r.q==0)=false:=by simp [h0]
  rw [e1,e2];simp only [cond_false,Bool.false_or];rw [az (by omega)];cases h1:r.q.Const.tmod (cont r.q)==0 with
  | false =>
   simp only [cond_false,Bool.not_false,cond_true];exact hrefuse
  | true =>
   simp only [cond_true,Bool.not_true,cond_false];have hC:=cA hr.v;have hlen:=bE hr.v;have hcl:=dx (ε:=List ak) (ρ:=Empty) (f:=fun s=>s) (fin:=fun i0 s0=>s0) (⟨[],0⟩:ak) r.q.Terms (fun u s=>gj.go (bif false then s else s++[ak.mk u.Var (u.C.tdiv (cont r.q))])) (fun j s=>s.length≤j)
    (body:=fun i0 s1 =>
    bP ((s1.length+1)*24≤140737488355328) <|
    some (.go (s1++[(ak.mk ((r.q.Terms.getD i0 ⟨[],0⟩).Var) (aD (((r.q.Terms.getD i0 ⟨[],0⟩).C).tdiv (cont r.q))))]))) (fun _ _=>rfl) [] (Nat.zero_le _) (fun j s hj hI=>by
     have hm:r.q.Terms.getD j ⟨[],0⟩∈r.q.Terms:=bF _ hj;have hb:=tdiv_le (g:=(cont r.q:Int)) (hC _ hm).1;refine ⟨?_,fun s' hs' => ?_⟩
     ·rw [az (by omega),bR (by omega) (by omega)];rfl
     ·injection hs' with hs'
      subst hs';simp;omega)
   rw [ox (fun _:ak=>false)] at hcl;have hfl:(r.q.Terms.filter fun _ => !false)=r.q.Terms:=List.filter_eq_self.2 fun _ _=>rfl;rw [hfl,List.nil_append] at hcl;refine (congrArg (fun o:Option (Out (List ak) Empty)=>Option.bind o _) hcl).trans ?_;simp only [Option.bind_some,dI];have hkc:=tdiv_le (g:=(cont r.q:Int)) (j6 hr.v);rw [bR (n:=r.q.Const.tdiv (cont r.q)) (by omega) (by omega)];have hq:Linear.mk (r.q.Const.tdiv (cont r.q)) (r.q.Terms.map fun u=>ak.mk u.Var (u.C.tdiv (cont r.q)))=a8 (cont r.q) r.q:=rfl;rw [hq];have hne:(a8 (cont r.q) r.q).Terms≠[]:=by
    intro h;have:r.q.Terms=[]:=by simpa [a8] using h
    exact h0 ((rX hr.v).2 this)
   simp only [rF (ga hr.v) hne,Option.bind_some,kO hi,List.set_set,List.length_set];unfold iQ;cases ze (mulR r.scale (cont r.q)).1 (mulR r.scale (cont r.q)).2 with
   | true =>
    simp only [cond_true];rw [az hi];cases (vl (a8 (cont r.q) r.q).Terms).C==1 with
    | true=>rfl
    | false=>cases (vl (a8 (cont r.q) r.q).Terms).C == -1<;>rfl
   | false =>
    simp only [cond_false];rw [az hi,az hi];cases (vl (a8 (cont r.q) r.q).Terms).C==1 with
    | true=>rfl
    | false=>cases (vl (a8 (cont r.q) r.q).Terms).C == -1<;>rfl
inductive Rs where
 | no
 | lim
 | ok (n:Nat) (qs:List Linear) (bs:List Bind)
abbrev dp:Linear:=⟨0,[]⟩
def vD (x:aw) (by_:Linear) (i n:Nat) (qs:List Linear) (bs:List Bind):Rs :=
 bif xx x by_ i qs (bs.map (·.Dim)) then .ok n (qs.take i++(qs.drop i).map (wo x by_)) (bs.map (jK x by_)++[one x by_]) else .lim
def jg (i n:Nat) (qs:List Linear) (bs:List Bind):Rs :=
 bif Co (qs.getD i dp) then .no else
 bif (vl (a8 (cont (qs.getD i dp)) (qs.getD i dp)).Terms).C==1||(vl (a8 (cont (qs.getD i dp)) (qs.getD i dp)).Terms).C == -1 then
  vD (vl (a8 (cont (qs.getD i dp)) (qs.getD i dp)).Terms).Var (GD (vl (a8 (cont (qs.getD i dp)) (qs.getD i dp)).Terms) (a8 (cont (qs.getD i dp)) (qs.getD i dp))) i n (qs.set i (a8 (cont (qs.getD i dp)) (qs.getD i dp))) bs
 else bif decide (n+1≥1000000000) then .lim else
  vD (vl (a8 (cont (qs.getD i dp)) (qs.getD i dp)).Terms).Var (CB (vl (a8 (cont (qs.getD i dp)) (qs.getD i dp)).Terms) n (a8 (cont (qs.getD i dp)) (qs.getD i dp))) i (n+1) (qs.set i (a8 (cont (qs.getD i dp)) (qs.getD i dp))) bs
theorem lB {x:aw} {by_ q:Linear} (hb:au by_=true) (hv:au q=true) (h:mb x by_ q=true) :
 au (wo x by_ q)=true∧(∀ f,ln f (wo x by_ q)=ln f q+cf q x*(ln f by_-f x))∧∀ v,cf (wo x by_ q) v=cf q v+cf q x*(cf by_ v-ind v x):=by
 unfold mb at h;unfold wo;cases h0:cf q x==0 with
 | true =>
  have:cf q x=0:=by simpa using h0
  simp only [cond_true,this,Int.zero_mul,Int.add_zero];exact ⟨hv,fun _=>trivial,fun _=>trivial⟩
 | false =>
  rw [h0,Bool.false_or] at h;have h2:(uj [one x by_] q).2=0:=by simpa using h
  simp only [cond_false];exact ⟨(yW h2 (fun _=>0)).2.1,fun f=>(yW h2 f).2.2,fun v=>Iu h2 hb v⟩
def zd (n:Int) (q:Linear):Prop:=∀ t∈q.Terms,nX t.Var<n
theorem EE {n:Int} {q:Linear} (h:zd n q) {v:aw} (h0:cf q v≠0):nX v<n:=by obtain ⟨t,ht,e,_⟩:=tT (show om v q.Terms≠0 from h0);rw [← e];exact h t ht
theorem Dr {n:Int} {x:aw} {by_ q:Linear} (hb:au by_=true) (hv:au q=true) (h:mb x by_ q=true) (h1:zd n q) (h2:zd n by_):zd n (wo x by_ q):=by
 obtain ⟨a,_,c⟩:=lB hb hv h;intro t ht;have e:=mW (fI a) ht;have hz:=gf a t ht;have e:cf (wo x by_ q) t.Var=t.C:=e;rw [c] at e;by_cases z1:cf q t.Var=0
 ·by_cases z2:cf by_ t.Var=0
  ·by_cases z3:t.Var=x
   ·subst z3;rw [z1,z2] at e;simp at e;omega
   ·have:ind t.Var x=0:=by unfold ind;rw [if_neg (fun e=>z3 e.symm)]
    rw [z1,z2,this] at e;simp at e;omega
  ·exact EE h2 z2
 ·exact EE h1 z1
theorem uQ {n m:Int} {q:Linear} (h:zd n q) (hm:n≤m):zd m q:=fun t ht=>by have:=h t ht;omega
theorem j7 {n:Int} {q:Linear} (h:zd n q):zd n (a8 (cont q) q):=by intro t ht;obtain ⟨u,hu,rfl⟩:=List.mem_map.1 (show t∈q.Terms.map fun t=>ak.mk t.Var (t.C.tdiv (cont q)) from ht);exact h u hu
theorem CP {n:Int} {t:ak} {q:Linear} (h:zd n q):zd n (GD t q):=by intro u hu;obtain ⟨x,hx,rfl⟩:=List.mem_map.1 (show u∈(q.Terms.filter fun u => !(u.Var==t.Var)).map fun u=>ak.mk u.Var (-t.C*u.C) from hu);exact h x (List.mem_filter.1 hx).1
theorem Di {n:Nat} {t:ak} {q:Linear} (h1:1≤n) (h2:n<1000000000) (h:zd n q):zd ((n+1:Nat):Int) (CB t n q):=by
 intro u hu;have hu:=(nv _).mem_iff.1 (show u∈zj (oD t n q.Terms) from hu);unfold oD at hu;rcases List.mem_cons.1 hu with rfl | hu
 ·show nX (jz n)<_;rw [(pF h1 h2).2];omega
 ·obtain ⟨x,hx,rfl⟩:=List.mem_map.1 hu;have:=h x (List.mem_filter.1 hx).1;show nX x.Var<_;omega
theorem HM {n:Nat} (h1:1≤n) (h2:n<1000000000) {q:Linear} (h:zd n q):∀ u∈q.Terms,u.Var≠jz n:=fun u hu e=>by have:=h u hu;rw [e,(pF h1 h2).2] at this;omega
structure kB (n:Nat) (qs:List Linear) (bs:List Bind):Prop where
 n1:1≤n
 n2:n<1000000000
 qv:∀ q∈qs,au q=true∧zd n q
 bv:∀ b∈bs,au b.Dim=true∧zd n b.Dim∧dP b.Var=true∧nX b.Var<n
structure wY (N:Int) (r:Rw):Prop where
 nd:(r.mults.map (·.1)).Nodup
 sc:r.scale≠0
 ks:∀ y∈r.mults.map (·.1),0≤y∧y<N
theorem wY.to {N:Int} {r:Rw} (h:wY N r) (hv:au r.q=true):nq N r:=⟨hv,h.nd,h.sc,h.ks⟩
theorem nq.to {N:Int} {r:Rw} (h:nq N r):wY N r:=⟨h.nd,h.sc,h.ks⟩
theorem BT {q:Linear} (hv:au q=true) (hc:cont q≠0):vl (a8 (cont q) q).Terms∈(a8 (cont q) q).Terms∧∀ t∈(a8 (cont q) q).Terms,(vl (a8 (cont q) q).Terms).C.natAbs≤t.C.natAbs:=by refine IP fun h=>hc ((rX hv).2 ?_);simpa [a8] using h
theorem qZ {q:Linear} (h:Co q=false):cont q≠0∧q.Const.tmod (cont q)=0:=by unfold Co at h;simp only [Bool.or_eq_false_iff,Bool.not_eq_false'] at h;exact ⟨by simpa using h.1,by simpa using h.2⟩
theorem yl {x:aw} {by_:Linear} {i n m:Nat} {qs:List Linear} {bs:List Bind} (h:kB n qs bs) (hnm:n≤m) (hm:m<1000000000) (hx:dP x=true) (hxf:nX x<m) (hb:zd m by_) {n':Nat} {qs':List Linear} {bs':List Bind} (e:vD x by_ i m qs bs = .ok n' qs' bs') :
 n'=m∧kB m qs' bs'∧qs'=qs.take i++(qs.drop i).map (wo x by_)∧bs'=bs.map (jK x by_)++[one x by_]∧au by_=true∧(∀ b∈bs,mb x by_ b.Dim=true)∧∀ q∈qs.drop i,mb x by_ q=true:=by
 unfold vD at e;cases ho:xx x by_ i qs (bs.map (·.Dim)) with
 | false=>rw [ho] at e;cases e
 | true =>
  rw [ho] at e;injection e with e1 e2 e3
  unfold xx at ho;simp only [Kd,Ko,List.mem_map,forall_exists_index,and_imp,forall_apply_eq_imp_iff₂] at ho;obtain ⟨hv,hB,hQ⟩:=ho;refine ⟨e1.symm,⟨by have:=h.n1;omega,hm,fun q hq => ?_,fun b hb' => ?_⟩,e2.symm,e3.symm,hv,hB,hQ⟩
  ·rw [← e2] at hq;rcases List.mem_append.1 hq with hq | hq
   ·obtain ⟨a,c⟩:=h.qv q (List.mem_of_mem_take hq);exact ⟨a,uQ c (by omega)⟩
   ·obtain ⟨q0,hq0,rfl⟩:=List.mem_map.1 hq;obtain ⟨a,c⟩:=h.qv q0 (List.mem_of_mem_drop hq0);exact ⟨(lB hv a (hQ q0 hq0)).1,Dr hv a (hQ q0 hq0) (uQ c (by omega)) hb⟩
  ·rw [← e3] at hb';rcases List.mem_append.1 hb' with hb' | hb'
   ·obtain ⟨b0,hb0,rfl⟩:=List.mem_map.1 hb';obtain ⟨a,c,d,f⟩:=h.bv b0 hb0;exact ⟨(lB hv a (hB b0 hb0)).1,Dr hv a (hB b0 hb0) (uQ c (by omega)) hb,d,by show nX b0.Var<_;omega⟩
   ·have:b=one x by_:=by simpa using hb'
    subst this;exact ⟨hv,hb,hx,hxf⟩
theorem xl {i n:Nat} {qs:List Linear} {bs:List Bind} (h:kB n qs bs) (hi:i<qs.length):kB n (qs.set i (a8 (cont (qs.getD i dp)) (qs.getD i dp))) bs:=by
 obtain ⟨a,c⟩:=h.qv _ (bF dp hi);refine ⟨h.n1,h.n2,fun q hq => ?_,h.bv⟩;rcases List.mem_or_eq_of_mem_set hq with hq | rfl
 ·exact h.qv q hq
 ·exact ⟨ga a,j7 c⟩
theorem Em (rows:List Rw) (i:Nat) (r:Rw):(rows.set i r).map (·.q)=(rows.map (·.q)).set i r.q:=by rw [List.map_set]
theorem sy (r:Rw):(iQ r).q=a8 (cont r.q) r.q:=by unfold iQ;cases ze (mulR r.scale (cont r.q)).1 (mulR r.scale (cont r.q)).2<;>rfl
theorem Dh {N:Int} {r:Rw} (h:nq N r) (hc:cont r.q≠0):nq N (iQ r):=by
 refine ⟨by rw [sy];exact ga h.v,?_,?_,?_⟩<;>unfold iQ<;>cases hs:ze (mulR r.scale (cont r.q)).1 (mulR r.scale (cont r.q)).2
 ·exact h.nd
 ·exact h.nd
 ·show (1:Int)≠0;omega
 ·show (mulR r.scale (cont r.q)).1≠0;unfold ze at hs;simp only [Kd] at hs;have h2:(mulR r.scale (cont r.q)).2=0:=eq_of_beq hs.1;clear hs;unfold mulR at h2 ⊢;cases hj:ko r.scale&&(ko (cont r.q:Int)&&ko (r.scale*(cont r.q:Int))) with
  | false=>rw [hj] at h2;simp at h2
  | true=>exact Int.mul_ne_zero h.sc (by omega)
 ·exact h.ks
 ·exact h.ks
theorem HF {x:aw} {by_:Linear} {i m:Nat} {rows:List Rw} {bs:List Bind} (hx:dP x=true) (hk:FG by_) (hi:i≤rows.length) (hl1:rows.length≤1000000) (hl2:bs.length≤2000000000)
 (hr:∀ r∈rows,nq rows.length r) (hb:∀ b∈bs,au b.Dim=true) (nx:Int) :
 (vD x by_ i m (rows.map (·.q)) bs = .lim∧∃ r' b',aZ x by_ (i:Int) nx rows bs=some (3,r',b')) ∨
 ∃ rows' bs',vD x by_ i m (rows.map (·.q)) bs = .ok m (rows'.map (·.q)) bs'∧aZ x by_ (i:Int) nx rows bs=some (0,rows',bs')∧rows'.length=rows.length∧∀ r∈rows',wY rows.length r:=by
 rcases put_eq (nx:=nx) hx hk hi hl1 hl2 (fun r h=>(hr r h).v) hb with ⟨h1,h2⟩ | ⟨h1,h2⟩
 ·right;refine ⟨_,_,?_,h2,?_,fun r h => ?_⟩
  ·unfold vD;rw [h1,cond_true,List.map_append,List.map_map,← List.map_take,← List.map_drop,List.map_map];rfl
  ·simp;omega
  ·rcases List.mem_append.1 h with h | h
   ·exact (hr r (List.mem_of_mem_take h)).to
   ·obtain ⟨r0,hr0,rfl⟩:=List.mem_map.1 h;have:=hr r0 (List.mem_of_mem_drop hr0);exact ⟨this.nd,this.sc,this.ks⟩
 ·left;exact ⟨by unfold vD;rw [h1];rfl,h2⟩
theorem J6 (t:ak) (p r:Rw):(gU t p r).q=r.q:=by
 unfold gU;cases cf r.q t.Var==0 with
 | true=>rfl
 | false=>exact CV r p _
theorem Jx {N:Int} {t:ak} {p r:Rw} (hp:nq N p) (hr:nq N r):nq N (gU t p r):=by
 unfold gU;cases cf r.q t.Var==0 with
 | true=>exact hr
 | false=>exact Fw hr hp _
theorem uK (rows:List Rw) (i:Nat):(rows.map (·.q)).getD i dp=(rows.getD i nB).q:=by rw [Kb,Kb,List.getElem?_map];cases rows[i]? <;> rfl
theorem Ja {i n:Nat} {rows:List Rw} {bs:List Bind} (hi:i<rows.length) (hl1:rows.length≤1000000) (hl2:bs.length≤2000000000) (h:kB n (rows.map (·.q)) bs) (hr:∀ r∈rows,wY rows.length r) :
 (jg i n (rows.map (·.q)) bs = .no∧be (i:Int) (n:Int) rows bs=some ((Ag rows.length (rows.getD i nB),9),(n:Int),rows,bs)) ∨
 (jg i n (rows.map (·.q)) bs = .lim∧∃ f n' r' b',be (i:Int) (n:Int) rows bs=some ((f,3),n',r',b')) ∨
 ∃ m rows' bs',jg i n (rows.map (·.q)) bs = .ok m (rows'.map (·.q)) bs'∧be (i:Int) (n:Int) rows bs=some ((ah.mk [] 0,0),(m:Int),rows',bs')∧rows'.length=rows.length∧∀ r∈rows',wY rows.length r:=by
 have hrw:∀ r∈rows,nq rows.length r:=fun r hm=>(hr r hm).to (h.qv r.q (List.mem_map.2 ⟨r,hm,rfl⟩)).1;have hri:=hrw _ (bF nB hi);have hfi:zd n (rows.getD i nB).q:=(h.qv _ (List.mem_map.2 ⟨_,bF nB hi,rfl⟩)).2;rw [step_eq hi hl1 rfl hri];unfold jg;rw [uK];generalize hP:rows.getD i nB=p at hri hfi ⊢;cases hno:Co p.q with
 | true=>exact .inl ⟨rfl,rfl⟩
 | false =>
  obtain ⟨hc,hd⟩:=qZ hno;simp only [cond_false];obtain ⟨tm,tmin⟩:=BT hri.v hc;have hnv:=ga hri.v;generalize hT:vl (a8 (cont p.q) p.q).Terms=t at tm tmin ⊢;have hbd:∀ b∈bs,au b.Dim=true:=fun b hb=>(h.bv b hb).1;have hrows1:∀ r∈rows.set i (iQ p),nq rows.length r:=fun r hm=>by
   rcases List.mem_or_eq_of_mem_set hm with hm | rfl
   ·exact hrw r hm
   ·exact Dh hri hc
  have hq1:(rows.map (·.q)).set i (a8 (cont p.q) p.q)=(rows.set i (iQ p)).map (·.q):=by rw [Em,sy]
  have hat:(rows.set i (iQ p)).getD i nB=iQ p:=kO hi;have hi1:i<(rows.set i (iQ p)).length:=by simpa using hi
  have hl:(rows.set i (iQ p)).length=rows.length:=by simp
  obtain ⟨tb,tn⟩:=cA hnv t tm;cases hu:t.C==1||t.C == -1 with
  | true =>
   have ht:t.C=1∨t.C = -1:=by simp only [Bool.or_eq_true,beq_iff_eq] at hu;exact hu
   simp only [cond_true];rw [unit_eq hi1 (by rw [hl];exact hl1) (fun r hm=>by rw [hl];exact hrows1 r hm) ht,hat,sy,hq1];have hmq:((rows.set i (iQ p)).take (i+1)++((rows.set i (iQ p)).drop (i+1)).map (gU t (iQ p))).map (·.q)=(rows.set i (iQ p)).map (·.q):=by rw [List.map_append,List.map_map];have:((fun x:Rw=>x.q) ∘ gU t (iQ p))=fun x=>x.q:=funext fun r=>J6 t (iQ p) r;rw [this,← List.map_append,List.take_append_drop]
   have hlq:((rows.set i (iQ p)).take (i+1)++((rows.set i (iQ p)).drop (i+1)).map (gU t (iQ p))).length=rows.length:=by simp;omega
   have hrq:∀ r∈(rows.set i (iQ p)).take (i+1)++((rows.set i (iQ p)).drop (i+1)).map (gU t (iQ p)),nq rows.length r:=fun r hm=>by
    rcases List.mem_append.1 hm with hm | hm
    ·exact hrows1 r (List.mem_of_mem_take hm)
    ·obtain ⟨r0,hr0,rfl⟩:=List.mem_map.1 hm;exact Jx (Dh hri hc) (hrows1 r0 (List.mem_of_mem_drop hr0))
   have hpu:=HF (i:=i) (m:=n) (nx:=(n:Int)) (bs:=bs) (rows:=(rows.set i (iQ p)).take (i+1)++((rows.set i (iQ p)).drop (i+1)).map (gU t (iQ p))) tn (G5 (t:=t) hnv) (by omega) (by omega) hl2 (fun r hm=>by rw [hlq];exact hrq r hm) hbd;rw [hmq,hlq] at hpu;rcases hpu with ⟨a,r',b',e⟩ | ⟨rows',bs',a,e,l,o⟩
   ·right;left;exact ⟨a,_,_,_,_,by rw [e];rfl⟩
   ·right;right;exact ⟨n,rows',bs',a,by rw [e];rfl,l,o⟩
  | false =>
   simp only [cond_false];have ht0:t.C≠0:=gf hnv t tm;rw [El hi1 (by rw [hat,sy];exact hnv) h.n1 h.n2 ht0 tb (by rw [hat,sy];exact HM h.n1 h.n2 (j7 hfi)),hat,sy,hq1];cases hlim:decide (n+1≥1000000000) with
   | true=>exact .inr (.inl ⟨rfl,_,_,_,_,rfl⟩)
   | false =>
    simp only [cond_false];have hpu:=HF (i:=i) (m:=n+1) (nx:=((n+1:Nat):Int)) (bs:=bs) (rows:=rows.set i (iQ p)) tn (GG (t:=t) h.n1 h.n2 hnv) (by omega) (by omega) hl2 (fun r hm=>by rw [hl];exact hrows1 r hm) hbd;rw [hl] at hpu;rcases hpu with ⟨a,r',b',e⟩ | ⟨rows',bs',a,e,l,o⟩
    ·right;left;exact ⟨a,_,_,_,_,by rw [e];rfl⟩
    ·right;right;exact ⟨n+1,rows',bs',a,by rw [e];rfl,l,o⟩
theorem xi (f:aw→Int) (x:aw) (a:Int):∀ {ts:List ak},zJ ts→bW f ((ts.filter fun u => !(u.Var==x)).map fun u=>ak.mk u.Var (a*u.C))=a*(bW f ts-om x ts*f x)
 | [],_=>by simp [bW,om]
 | t::ts,hn=>by
  unfold zJ at hn;rw [List.map_cons,List.nodup_cons] at hn;have ih:=xi f x a (ts:=ts) hn.2;by_cases e:t.Var=x
  ·have h0:om x ts=0:=jU (by rw [← e];exact hn.1);have e2:(!(t.Var==x))=false:=by simp [e]
   rw [List.filter_cons,e2];simp only [Bool.false_eq_true,if_false];rw [ih,h0];simp only [bW,om,e,if_true,Int.zero_mul,Int.sub_zero];congr 1;omega
  ·have e2:(!(t.Var==x))=true:=by simp [e]
   rw [List.filter_cons,e2];simp only [if_true,List.map_cons,bW,om,if_neg e];rw [ih,Int.mul_sub,Int.mul_sub,Int.mul_add,Int.mul_assoc];omega
theorem G4 (f:aw→Int) {t:ak} {q:Linear} (hq:au q=true) (hm:t∈q.Terms):ln f (GD t q) = -t.C*(ln f q-t.C*f t.Var):=by have h1:=xi f t.Var (-t.C) (fI hq);have h2:om t.Var q.Terms=t.C:=mW (fI hq) hm;show -t.C*q.Const+bW f ((q.Terms.filter fun u => !(u.Var==t.Var)).map fun u=>ak.mk u.Var (-t.C*u.C))=_;rw [h1,h2,← Int.mul_add];congr 1;unfold ln;omega
theorem FR {t:ak} {q:Linear} (hq:au q=true) (hm:t∈q.Terms) (ht:t.C=1∨t.C = -1) (hb:au (GD t q)=true) (hc:mb t.Var (GD t q) q=true):wo t.Var (GD t q) q=⟨0,[]⟩:=by
 obtain ⟨a,b,_⟩:=lB hb hq hc;refine GV a vQ fun f => ?_;have h2:cf q t.Var=t.C:=mW (fI hq) hm;rw [b f,G4 f hq hm,h2];have h0:ln f (⟨0,[]⟩:Linear)=0:=by simp [ln,bW]
 rw [h0];rcases ht with h | h<;>rw [h]<;>omega
theorem FB {a b:List ak} (h:a.Perm b) (ha:zJ a) (v:aw):om v a=om v b:=by have hb:zJ b:=(h.map ak.Var).nodup_iff.1 ha;rw [← ud v ha,← ud v hb,sA _ h]
theorem qk {p:ak→Bool} {g:Int→Int} {v:aw}:∀ {ts:List ak},zJ ts→∀ {u:ak},u∈ts→u.Var=v→om v ((ts.filter p).map fun u=>ak.mk u.Var (g u.C))=if p u=true then g u.C else 0
 | [],_,u,h,_=>by simp at h
 | t::ts,hn,u,h,e=>by
  unfold zJ at hn;rw [List.map_cons,List.nodup_cons] at hn;have hno:∀ (y:aw),y ∉ ts.map ak.Var→om y ((ts.filter p).map fun u=>ak.mk u.Var (g u.C))=0:=fun y hy=>jU (by
   rw [List.map_map];intro h;obtain ⟨z,hz,ez⟩:=List.mem_map.1 h;exact hy (List.mem_map.2 ⟨z,(List.mem_filter.1 hz).1,ez⟩))
  rcases List.mem_cons.1 h with rfl | h
  ·rw [List.filter_cons];cases hp:p u with
   | true=>simp only [if_true,List.map_cons,om,if_pos e]
   | false =>
    simp only [Bool.false_eq_true,if_false];exact hno v (by rw [← e];exact hn.1)
  ·have hne:¬ t.Var=v:=fun e2=>hn.1 (by rw [e2,← e];exact List.mem_map.2 ⟨u,h,rfl⟩);rw [List.filter_cons];cases hp:p t with
   | true =>
    simp only [if_true,List.map_cons,om,if_neg hne];exact qk hn.2 h e
   | false =>
    simp only [Bool.false_eq_true,if_false];exact qk hn.2 h e
theorem Im {t u:ak} {n:Nat} {q:Linear} (hq:au q=true) (hf:∀ u∈q.Terms,u.Var≠jz n) (hu:u∈q.Terms) (hne:u.Var≠t.Var):cf (CB t n q) u.Var = -(gV u.C t.C):=by
 show om u.Var (zj (oD t n q.Terms))=_;have hnd:=C4 (t:=t) (fI hq) hf;rw [FB (nv _) ((nv _).map ak.Var |>.nodup_iff.2 hnd)];unfold oD;rw [om,if_neg (fun e=>hf u hu e.symm)];rw [qk (p:=fun u => !(u.Var==t.Var||gV u.C t.C==0)) (g:=fun c => -(gV c t.C)) (fI hq) hu rfl];have e1:(u.Var==t.Var)=false:=by simpa using hne
 simp only [e1,Bool.false_or];cases h:gV u.C t.C==0 with
 | true =>
  have:gV u.C t.C=0:=by simpa using h
  simp [this]
 | false=>simp
theorem FN {q:Linear} (hv:au q=true) (hc:cont q≠0) {d:Nat} (h:∀ t∈(a8 (cont q) q).Terms,d ∣ t.C.natAbs):d=1:=by
 have h2:d*cont q ∣ cont q:=by
  refine xq q.Terms 0 (Nat.dvd_zero _) fun t ht => ?_;have:=h (ak.mk t.Var (t.C.tdiv (cont q))) (List.mem_map.2 ⟨t,ht,rfl⟩);have e:=Int.mul_tdiv_cancel' (wE t ht);have e2:t.C.natAbs=cont q*(t.C.tdiv (cont q)).natAbs:=by have:=congrArg Int.natAbs e;rw [Int.natAbs_mul,Int.natAbs_natCast] at this;exact this.symm
  rw [e2,Nat.mul_comm d];exact Nat.mul_dvd_mul_left _ this
 have h3:d*cont q≤1*cont q:=by rw [Nat.one_mul];exact Nat.le_of_dvd (by omega) h2
 have h4:d≤1:=Nat.le_of_mul_le_mul_right h3 (by omega);rcases Nat.eq_zero_or_pos d with h5 | h5
 ·subst h5;rw [Nat.zero_mul] at h2;exact absurd (Nat.eq_zero_of_zero_dvd h2) hc
 ·omega
theorem HU {q:Linear} (hv:au q=true) (hc:cont q≠0) {t:ak} (ht:t∈(a8 (cont q) q).Terms) (h1:¬ (t.C=1∨t.C = -1)):∃ u∈(a8 (cont q) q).Terms,u.C.tmod t.C≠0:=by
 refine Classical.byContradiction fun hn => ?_;have hall:∀ u∈(a8 (cont q) q).Terms,t.C.natAbs ∣ u.C.natAbs:=fun u hu=>by have h0:u.C.tmod t.C=0:=Classical.byContradiction fun h=>hn ⟨u,hu,h⟩;have:=congrArg Int.natAbs h0;rw [Int.natAbs_tmod] at this;exact Nat.dvd_of_mod_eq_zero this
 have:=FN hv hc hall;omega
def Pm (k:Nat) (q:Linear):Prop:=∃ t∈q.Terms,t.C.natAbs≤k
theorem G1 {t:ak} {n:Nat} {q:Linear} (hv:au q=true) (hc:cont q≠0) (hf:∀ u∈q.Terms,u.Var≠jz n) (ht:t∈(a8 (cont q) q).Terms) (h1:¬ (t.C=1∨t.C = -1)) (hb:au (CB t n (a8 (cont q) q))=true)
 (hcb:mb t.Var (CB t n (a8 (cont q) q)) (a8 (cont q) q)=true):∃ u∈(wo t.Var (CB t n (a8 (cont q) q)) (a8 (cont q) q)).Terms,u.C.natAbs<t.C.natAbs:=by
 have hnv:=ga hv;obtain ⟨a,_,c⟩:=lB hb hnv hcb;obtain ⟨u,hu,hr⟩:=HU hv hc ht h1;have ht0:t.C≠0:=gf hnv t ht;have hne:u.Var≠t.Var:=fun e=>by have e1:=mW (fI hnv) hu;have e2:=mW (fI hnv) ht;rw [e,e2] at e1;rw [← e1,Int.tmod_self] at hr;exact hr rfl
 have hf':∀ u∈(a8 (cont q) q).Terms,u.Var≠jz n:=fun u hu=>by obtain ⟨z,hz,rfl⟩:=List.mem_map.1 (show u∈q.Terms.map fun t=>ak.mk t.Var (t.C.tdiv (cont q)) from hu);exact hf z hz
 have hcf:=c u.Var;have e1:cf (a8 (cont q) q) u.Var=u.C:=mW (fI hnv) hu;have e2:cf (a8 (cont q) q) t.Var=t.C:=mW (fI hnv) ht;have e3:ind u.Var t.Var=0:=if_neg fun e=>hne e.symm;rw [e1,e2,Im hnv hf' hu hne,e3,Int.sub_zero,Int.mul_neg] at hcf;obtain ⟨d1,d2⟩:=GB (n:=u.C) ht0;have hnz:cf (wo t.Var (CB t n (a8 (cont q) q)) (a8 (cont q) q)) u.Var≠0:=fun h=>hr (d2.1 (by omega));obtain ⟨w,hw,_,ew⟩:=tT (show om u.Var (wo t.Var (CB t n (a8 (cont q) q)) (a8 (cont q) q)).Terms≠0 from hnz);refine ⟨w,hw,?_⟩;have ew:w.C=cf (wo t.Var (CB t n (a8 (cont q) q)) (a8 (cont q) q)) u.Var:=ew;rw [ew,hcf];have:u.C + -(t.C*gV u.C t.C)=u.C-t.C*gV u.C t.C:=by omega
 rw [this];exact d1
theorem xO {α:Type} (d:α) (l:List α) (g:α→α) {i:Nat} (hi:i<l.length):(l.take i++(l.drop i).map g).getD i d=g (l.getD i d):=by
 rw [Kb,List.getElem?_append_right (by simp;omega),getD_at d hi];have:i-(l.take i).length=0:=by simp;omega
 rw [this,List.drop_eq_getElem_cons hi];rfl
theorem re {i n:Nat} {qs:List Linear} {bs:List Bind} (h:kB n qs bs) (hi:i<qs.length) {m:Nat} {qs':List Linear} {bs':List Bind} (e:jg i n qs bs = .ok m qs' bs') :
 kB m qs' bs'∧qs'.length=qs.length∧bs'.length=bs.length+1∧((m=n∧qs'.getD i dp=⟨0,[]⟩)∨(m=n+1∧∀ k,Pm (k+1) (qs.getD i dp)→Pm k (qs'.getD i dp))):=by
 obtain ⟨qv,qf⟩:=h.qv _ (bF dp hi);unfold jg at e;generalize hQ:qs.getD i dp=q at qv qf e ⊢;cases hno:Co q with
 | true=>rw [hno] at e;cases e
 | false =>
  obtain ⟨hc,hd⟩:=qZ hno;rw [hno] at e;simp only [cond_false] at e;have hnv:=ga qv;obtain ⟨tm,tmin⟩:=BT qv hc;generalize hT:vl (a8 (cont q) q).Terms=t at tm tmin e;obtain ⟨tb,tn⟩:=cA hnv t tm;have hset:kB n (qs.set i (a8 (cont q) q)) bs:=by have:=xl h hi;rwa [hQ] at this
  have htf:nX t.Var<n:=j7 qf t tm;have hat:(qs.set i (a8 (cont q) q)).getD i dp=a8 (cont q) q:=kO hi;have hmem:a8 (cont q) q∈(qs.set i (a8 (cont q) q)).drop i:=by rw [List.drop_eq_getElem_cons (by simpa using hi)];simp
  cases hu:t.C==1||t.C == -1 with
  | true =>
   rw [hu] at e;simp only [cond_true] at e;have ht:t.C=1∨t.C = -1:=by simp only [Bool.or_eq_true,beq_iff_eq] at hu;exact hu
   obtain ⟨a1,a2,a3,a4,a5,a6,a7⟩:=yl hset (Nat.le_refl n) h.n2 tn htf (CP (j7 qf)) e;refine ⟨by rw [a1];exact a2,by rw [a3];simp;omega,by rw [a4];simp,.inl ⟨a1,?_⟩⟩;rw [a3,xO dp _ _ (by simpa using hi),hat];exact FR hnv tm ht a5 (a7 _ hmem)
  | false =>
   rw [hu] at e;simp only [cond_false] at e;have ht:¬ (t.C=1∨t.C = -1):=by simp only [Bool.or_eq_false_iff,beq_eq_false_iff_ne] at hu;exact fun h=>h.elim hu.1 hu.2
   cases hl:decide (n+1≥1000000000) with
   | true=>rw [hl] at e;cases e
   | false =>
    rw [hl] at e;simp only [cond_false] at e;have hl:=Kf hl;obtain ⟨a1,a2,a3,a4,a5,a6,a7⟩:=yl hset (Nat.le_succ n) (by omega) tn (by omega) (Di h.n1 h.n2 (j7 qf)) e;refine ⟨by rw [a1];exact a2,by rw [a3];simp;omega,by rw [a4];simp,.inr ⟨a1,fun k hk => ?_⟩⟩;rw [a3,xO dp _ _ (by simpa using hi),hat];obtain ⟨u,hu,hlt⟩:=G1 (n:=n) qv hc (HM h.n1 h.n2 qf) tm ht a5 (a7 _ hmem);obtain ⟨z,hz,hzk⟩:=hk;have h1:=tmin (ak.mk z.Var (z.C.tdiv (cont q))) (List.mem_map.2 ⟨z,hz,rfl⟩);have h2:=Int.natAbs_tdiv_le_natAbs z.C (cont q);simp only at h1;exact ⟨u,hu,by omega⟩
end Go.Proofs.YtlhcekghjfjajaaGreatDoor
