/- Plain laws: what the walked functions compute answers as the statement says. -/
import Derived.Test.YtadjhpbkknifeaaGreatDoorWkcPolyValues
import Derived.Lib.ItoaNum
import Derived.Lib.ItoaMem
import Derived.Lib.AtoiAll
import Derived.Lib.AtoiAllCases
import Derived.Lib.ItoaLen
import Derived.KernelRfl
set_option linter.unusedSimpArgs false
set_option linter.unusedVariables false
namespace Go.Sh
open Go.Ab
section
variable {α σ ε ρ:Type}
theorem fq {body:Nat→Unit→Option (eM Unit ε ρ)} {fin:Nat→Unit→ε} {r:ρ} (p:Nat→Bool):∀ (k i:Nat) (u:Unit),(∀ j u,i≤j→j<i+k→body j u=some (bif p j then .go () else .ret r)) →
 cV body fin k i u=some (bif (List.range' i k).all p then .brk (fin (i+k) ()) else .ret r)
 | 0,i,u,h=>by simp [cV]
 | k+1,i,u,h=>by
  simp only [cV,h i u (Nat.le_refl _) (by omega),List.range'_succ,List.all_cons];cases hp:p i with
  | true =>
   simp only [cond_true,Option.bind_some,oy,Bool.true_and];rw [fq p k (i+1) () (fun j u h1 h2=>h j u (by omega) (by omega))];rw [show i+1+k=i+(k+1) by omega]
  | false=>simp [oy]
theorem ot {body:Nat→Unit→Option (eM Unit ε ρ)} {fin:Nat→Unit→ε} {f:Nat→ρ} (p:Nat→Bool):∀ (k i:Nat) (u:Unit),(∀ j u,i≤j→j<i+k→body j u=some (bif p j then .ret (f j) else .go ())) →
 cV body fin k i u=some (match (List.range' i k).find? p with | some j=>.ret (f j) | none=>.brk (fin (i+k) ()))
 | 0,i,u,h=>by simp [cV]
 | k+1,i,u,h=>by
  simp only [cV,h i u (Nat.le_refl _) (by omega),List.range'_succ,List.find?_cons];cases hp:p i with
  | false =>
   simp only [cond_false,Option.bind_some,oy];rw [ot p k (i+1) () (fun j u h1 h2=>h j u (by omega) (by omega))];rw [show i+1+k=i+(k+1) by omega]
  | true=>simp [oy]
theorem je (q:α→Bool) (d:α) (l:List α):∀ (i:Nat),(List.range' i (l.length-i)).all (fun j=>q (l.getD j d))=(l.drop i).all q:=by
 intro i;by_cases h:i<l.length
 ·obtain ⟨k,hk⟩:∃ k,l.length-i=k+1:=⟨l.length-i-1,by omega⟩;have ih:=je q d l (i+1);rw [hk,List.range'_succ,List.all_cons,List.drop_eq_getElem_cons h,List.all_cons];rw [show l.length-(i+1)=k by omega] at ih;rw [ih];simp [KH,KI h]
 ·rw [show l.length-i=0 by omega,List.drop_eq_nil_of_le (by omega)];rfl
 termination_by i=>l.length-i
theorem Ey (q:α→Bool) (d:α) (l:List α):(List.range' 0 (l.length-0)).all (fun j=>q (l.getD j d))=l.all q:=by have:=je q d l 0;simpa using this
def idxOf (p:α→Bool):List α→Int
 | [] => -1
 | x::l=>bif p x then 0 else (let r:=idxOf p l;bif r == -1 then -1 else r+1)
theorem mw (p:α→Bool):∀ l:List α,-1≤idxOf p l
 | []=>by simp [idxOf]
 | x::l=>by
  have:=mw p l;simp only [idxOf];cases p x
  ·cases h:idxOf p l == -1
   ·simp;omega
   ·simp
  ·simp
theorem mz (p:α→Bool):∀ l:List α,(idxOf p l<0)↔l.any p=false
 | []=>by simp [idxOf]
 | x::l=>by
  have h1:=mw p l;have h2:=mz p l;simp only [idxOf,List.any_cons];cases hp:p x
  ·cases h:idxOf p l == -1
   ·have:idxOf p l ≠ -1:=by simpa using h
    simp only [cond_false,Bool.false_or];rw [← h2];omega
   ·have:idxOf p l = -1:=by simpa using h
    simp only [cond_false,cond_true,Bool.false_or];rw [← h2];omega
  ·simp
theorem AQ (p:α→Bool) (d:α) (l:List α):∀ (i:Nat),(match (List.range' i (l.length-i)).find? (fun j=>p (l.getD j d)) with | some j=>((j:Nat):Int) | none => -1)=(bif idxOf p (l.drop i) == -1 then -1 else idxOf p (l.drop i)+i):=by
 intro i;by_cases h:i<l.length
 ·obtain ⟨k,hk⟩:∃ k,l.length-i=k+1:=⟨l.length-i-1,by omega⟩;have ih:=AQ p d l (i+1);rw [hk,List.range'_succ,List.find?_cons,List.drop_eq_getElem_cons h];rw [show l.length-(i+1)=k by omega] at ih;have e:l.getD i d=l[i]:=by simp [KH,KI h]
  rw [e];simp only [idxOf];cases hp:p l[i]
  ·simp only [cond_false];rw [ih];cases hq:idxOf p (l.drop (i+1)) == -1
   ·have h3:idxOf p (l.drop (i+1)) ≠ -1:=by simpa using hq
    have h4:=mw p (l.drop (i+1));simp only [cond_false];have:((idxOf p (l.drop (i+1))+1) == -1)=false:=by simp;omega
    rw [this];simp only [cond_false];omega
   ·simp
  ·simp
 ·rw [show l.length-i=0 by omega,List.drop_eq_nil_of_le (by omega)];rfl
 termination_by i=>l.length-i
theorem mx (p:α→Bool) (d:α) (l:List α):(match (List.range' 0 (l.length-0)).find? (fun j=>p (l.getD j d)) with | some j=>((j:Nat):Int) | none => -1)=idxOf p l:=by
 rw [AQ p d l 0];simp only [List.drop_zero];cases h:idxOf p l == -1
 ·simp
 ·have:idxOf p l = -1:=by simpa using h
  simp [this]
end
def b5 (b:UInt8):Bool:=decide (48≤b.toNat)&&decide (b.toNat≤57)
def jE (acc:Nat) (l:ai):Nat:=l.foldl (fun a c=>a*10+(c.toNat-48)) acc
theorem DV (acc:Nat) (l:ai) (c:UInt8):jE acc (l++[c])=jE acc l*10+(c.toNat-48):=by simp [jE]
theorem xR:∀ (l:ai) (acc:Nat),l.all b5=true→(acc+1)*10 ^ l.length≤10 ^ 18→Lib.parseUint10 acc l = .ok (jE acc l)
 | [],acc,_,_=>rfl
 | c::l,acc,h,hb=>by
  simp only [List.all_cons,KJ,b5,decide_eq_true_eq] at h;obtain ⟨⟨h1,h2⟩,h3⟩:=h;have hp:1≤10 ^ l.length:=Nat.one_le_pow _ _ (by decide);have hb2:(acc*10+10)*10 ^ l.length≤10 ^ 18:=by
   have:(acc+1)*10 ^ (l.length+1)=(acc*10+10)*10 ^ l.length:=by rw [Nat.pow_succ];rw [show (acc*10+10)=(acc+1)*10 by omega,Nat.mul_assoc,Nat.mul_comm 10]
   rw [← this];simpa using hb
  have hb3:acc*10+10≤10 ^ 18:=Nat.le_trans (Nat.le_mul_of_pos_right _ hp) hb2;have e18:(10:Nat) ^ 18=1000000000000000000:=by decide
  rw [e18] at hb3;simp only [Lib.parseUint10];rw [if_pos ⟨h1,h2⟩,if_neg (by omega),if_neg (by omega)];rw [xR l _ (by simpa [b5] using h3) (Nat.le_trans (Nat.mul_le_mul_right _ (by omega)) hb2)];rfl
theorem Bb {c:UInt8} (h:b5 c=true):UInt8.ofNat (48+(c.toNat-48))=c:=by simp only [b5,KJ,decide_eq_true_eq] at h;rw [show 48+(c.toNat-48)=c.toNat by omega];exact UInt8.ofNat_toNat
theorem GL {α:Type} {P:List α→Prop} (h0:P []) (h1:∀ l c,P l→P (l++[c])) (l:List α):P l:=by
 have:∀ m:List α,P m.reverse:=by
  intro m;induction m with
  | nil=>exact h0
  | cons c m ih=>simpa using h1 _ c ih
 simpa using this l.reverse
theorem Hl (l:ai):l.all b5=true→l≠[]→l.head? ≠ some 48→1≤jE 0 l∧Lib.decDigits (jE 0 l)=l:=by
 refine GL (P:=fun l=>l.all b5=true→l≠[]→l.head? ≠ some 48→1≤jE 0 l∧Lib.decDigits (jE 0 l)=l) ?_ ?_ l
 ·intro _ h;exact absurd rfl h
 ·intro l c ih h _ hh;rw [List.all_append,KJ] at h;have hc:b5 c=true:=by simpa using h.2
  have hc':=hc;simp only [b5,KJ,decide_eq_true_eq] at hc';rw [DV];by_cases hl:l=[]
  ·subst hl;have hne:c≠48:=by simpa using hh
   have:c.toNat≠48:=fun e=>hne (by rw [← UInt8.toNat_inj];simpa using e);simp only [jE,List.foldl_nil,Nat.zero_mul,Nat.zero_add,List.nil_append];refine ⟨by omega,?_⟩;rw [Lib.decDigits_one (by omega),Bb hc]
  ·have hh2:l.head? ≠ some 48:=by
    cases l with
    | nil=>exact absurd rfl hl
    | cons x l=>simpa using hh
   obtain ⟨i1,i2⟩:=ih h.1 hl hh2;refine ⟨by omega,?_⟩;rw [Lib.decDigits,dif_neg (by omega),show (jE 0 l*10+(c.toNat-48)) / 10=jE 0 l by omega,i2,show (jE 0 l*10+(c.toNat-48)) % 10=c.toNat-48 by omega,Bb hc]
theorem x8 (u:Nat):(Lib.decDigits u).all b5=true∧(1≤u→(Lib.decDigits u).head? ≠ some 48)∧Lib.decDigits u≠[]:=by
 have key:∀ i,i<10→b5 (UInt8.ofNat (48+i))=true:=by decide
 have key2:∀ i,i<10→1≤i→UInt8.ofNat (48+i)≠48:=by decide
 by_cases h:u<10
 ·rw [Lib.decDigits_one h];exact ⟨by simp only [List.all_cons,List.all_nil,Bool.and_true];exact key u h,fun h1=>by simpa using key2 u h h1,by simp⟩
 ·have ih:=x8 (u / 10);rw [Lib.decDigits,dif_neg h];refine ⟨by rw [List.all_append,ih.1];simp only [List.all_cons,List.all_nil,Bool.and_true,Bool.true_and];exact key (u % 10) (by omega),fun _ => ?_,by simp⟩;have:=ih.2.1 (by omega);cases hd:Lib.decDigits (u / 10) with
  | nil=>exact absurd hd ih.2.2
  | cons x l=>rw [hd] at this;simpa using this
 termination_by u
 decreasing_by omega
end Go.Sh
namespace Go.Proofs.YtadjhpbkknifeaaGreatDoor
open Go.Ab Go.Sh
theorem aq {α:Type} {p:Prop} [Decidable p] {x:Option α} (h:p):bR p x=x:=if_pos h
theorem gn {ε β:Type} {b:Bool} {e:ε} {r:β} {f:ε→Option β}:(some (bif b then Out.brk e else Out.ret r:Out ε β)).bind (aft f)=bif b then f e else some r:=by cases b<;>rfl
theorem all_congr {p q:Nat→Bool}:∀ (k i:Nat),(∀ j,i≤j→j<i+k→p j=q j)→(List.range' i k).all p=(List.range' i k).all q
 | 0,i,_=>rfl
 | k+1,i,h=>by rw [List.range'_succ,List.all_cons,List.all_cons,h i (Nat.le_refl _) (by omega),all_congr k (i+1) (fun j h1 h2=>h j (by omega) (by omega))]
theorem F6 (c k:UInt8) (n:Int) (hk:(k.toNat:Int)=n):((c.toNat:Int)==n)=(c==k):=by rw [Bool.eq_iff_iff];simp only [beq_iff_eq,← UInt8.toNat_inj];omega
def isLet (b:UInt8):Bool:=decide (97≤b.toNat)&&decide (b.toNat≤122)
theorem nY (x:UInt8):gG x=some (b5 x):=by
 unfold gG b5;by_cases h:48≤x.toNat
 ·rw [KO (show (x.toNat:Int)≥48 by omega),KO h];simp only [cond_true,Bool.true_and,KR];rw [decide_eq_decide];omega
 ·rw [KN (show ¬ (x.toNat:Int)≥48 by omega),KN h];rfl
theorem tQ (x:UInt8):gW x=some (isLet x):=by
 unfold gW isLet;by_cases h:97≤x.toNat
 ·rw [KO (show (x.toNat:Int)≥97 by omega),KO h];simp only [cond_true,Bool.true_and,KR];rw [decide_eq_decide];omega
 ·rw [KN (show ¬ (x.toNat:Int)≥97 by omega),KN h];rfl
def cR:ai→Bool
 | []=>false
 | c::r=>bif c==95 then (decide (1≤r.length)&&(decide (r.length≤9)&&(!(r.getD 0 0==48)&&r.all b5))) else (decide (r.length≤29)&&(isLet c&&r.all (fun b=>isLet b||b5 b)))
theorem pP (s:ai):iw s=some (cR s):=by
 cases s with
 | nil=>rfl
 | cons c r =>
  unfold iw;have e1:((((c::r).length:Nat):Int)==0)=false:=by simp;omega
  rw [e1];simp only [cond_false];have e95:((((c::r).getD 0 0).toNat:Int)==95)=(c==95):=by rw [List.getD_cons_zero];exact F6 c 95 95 rfl
  by_cases h30:r.length≤29
  ·rw [KN (show ¬ (((c::r).length:Nat):Int)>30 by simp;omega)];simp only [cond_false];rw [aq (by simp),e95];simp only [cR];cases hc:c==95 with
   | true =>
    simp only [cond_true];by_cases h1:1≤r.length
    ·rw [KN (show ¬ (((c::r).length:Nat):Int)<2 by simp;omega),KO h1];simp only [cond_false,Bool.true_and];by_cases h9:r.length≤9
     ·rw [KN (show ¬ (((c::r).length:Nat):Int)>10 by simp;omega),KO h9];simp only [cond_false,Bool.true_and];rw [aq (by simp;omega)];have e48:((((c::r).getD 1 0).toNat:Int)==48)=(r.getD 0 0==48):=by rw [List.getD_cons_succ];exact F6 _ 48 48 rfl
      rw [e48];cases hd:r.getD 0 0==48 with
      | true=>simp
      | false =>
       simp only [cond_false,Bool.not_false,Bool.true_and];rw [fq (fun j=>b5 ((c::r).getD j 0)) _ _ () (fun j u _ _=>by rw [nY];cases b5 ((c::r).getD j 0)<;>rfl),gn,je b5 0 (c::r) 1];simp only [List.drop_succ_cons,List.drop_zero];cases r.all b5<;>rfl
     ·rw [KO (show (((c::r).length:Nat):Int)>10 by simp;omega),KN h9];simp
    ·rw [KO (show (((c::r).length:Nat):Int)<2 by simp;omega),KN h1];simp
   | false =>
    simp only [cond_false];rw [KO h30];rw [fq (fun j=>isLet ((c::r).getD j 0)||(!(((j:Nat):Int)==0)&&b5 ((c::r).getD j 0))) _ _ () (fun j u _ _=>by rw [tQ,nY];cases isLet ((c::r).getD j 0)<;>cases b5 ((c::r).getD j 0)<;>cases ((j:Nat):Int)==0<;>rfl),gn]
    have e:(List.range' 0 ((c::r).length-0)).all (fun j=>isLet ((c::r).getD j 0)||(!(((j:Nat):Int)==0)&&b5 ((c::r).getD j 0)))=(isLet c&&r.all (fun b=>isLet b||b5 b)):=by
     rw [show (c::r).length-0=r.length+1 by simp,List.range'_succ,List.all_cons];have e0:(isLet ((c::r).getD 0 0)||(!(((0:Nat):Int)==0)&&b5 ((c::r).getD 0 0)))=isLet c:=by simp
     rw [e0];congr 1;rw [all_congr (q:=fun j=>(fun b=>isLet b||b5 b) ((c::r).getD j 0)) _ _ (fun j h1 _=>by
      have:(((j:Nat):Int)==0)=false:=by simp;omega
      simp only [this,Bool.not_false,Bool.true_and])]
     have:=je (fun b=>isLet b||b5 b) 0 (c::r) 1;simpa using this
    rw [e];simp only [Bool.true_and];cases isLet c&&r.all (fun b=>isLet b||b5 b)<;>rfl
  ·rw [KO (show (((c::r).length:Nat):Int)>30 by simp;omega)];simp only [cond_true,cR];rw [KN h30];have:¬ r.length≤9:=by omega
   rw [KN this];cases c==95<;>simp
theorem qk (s:ai) (c:UInt8):dW s [c]=some (match s with | []=>false | x::_=>x==c):=by
 unfold dW b8;cases s with
 | nil=>rfl
 | cons x l =>
  rw [KO (by simp;omega)];simp only [cond_true];rw [aq (by simp)];simp
theorem E4 {r:ai} (h0:r≠[]) (h:r.all b5=true) (hl:r.length≤9):Lib.atoiAll r = .ok (jE 0 r:Int)∧jE 0 r<10000000000:=by
 cases r with
 | nil=>exact absurd rfl h0
 | cons c r =>
  have hc:b5 c=true:=by simp only [List.all_cons,KJ] at h;exact h.1
  have hc2:=hc;simp only [b5,KJ,decide_eq_true_eq] at hc2;have hp:(10:Nat) ^ (c::r).length≤10 ^ 9:=Nat.pow_le_pow_right (by decide) hl;have hv:=xR (c::r) 0 h (by
   rw [Nat.zero_add,Nat.one_mul];exact Nat.le_trans hp (by decide))
  have hb:∀ (l:ai) (a:Nat),l.all b5=true→jE a l+1≤(a+1)*10 ^ l.length:=by
   intro l;induction l with
   | nil=>intro a _;simp [jE]
   | cons x l ih =>
    intro a hx;simp only [List.all_cons,KJ,b5,decide_eq_true_eq] at hx;have:=ih (a*10+(x.toNat-48)) (by simpa [b5] using hx.2);have e:jE a (x::l)=jE (a*10+(x.toNat-48)) l:=rfl;rw [e];refine Nat.le_trans this ?_;rw [List.length_cons,Nat.pow_succ,Nat.mul_comm (10 ^ l.length) 10,← Nat.mul_assoc];exact Nat.mul_le_mul_right _ (by omega)
  have hlt:=hb (c::r) 0 h;rw [Nat.zero_add,Nat.one_mul] at hlt;have h9:(10:Nat) ^ 9=1000000000:=by decide
  rw [h9] at hp;refine ⟨?_,by omega⟩;rw [Lib.atoiAll_plain c r (by omega) (by omega)];have:Lib.parseMag (c::r) = .ok (jE 0 (c::r)):=by unfold Lib.parseMag;rw [if_neg (by simp)];exact hv
  rw [this];simp only [Lib.signless];rw [if_neg (by omega)]
theorem om (s:ai) (hs:s.length≤1000000):gH s=some (cR s):=by
 unfold gH;rw [qk];cases s with
 | nil=>rfl
 | cons c r =>
  simp only [Option.bind_some,cR];have hr:r.length≤1000000:=by simp at hs;omega
  cases hc:c==95 with
  | true =>
   simp only [cond_true];rw [aq (by simp)];simp only [List.drop_succ_cons,List.drop_zero,kD];rw [aq (by omega)];simp only [Option.bind_some];by_cases h9:r.length≤9
   ·by_cases h1:1≤r.length
    ·rw [KO h1,KO h9];simp only [Bool.true_and];have hne:r≠[]:=by intro e;subst e;simp at h1
     have hhd:(r.getD 0 0==48)=decide (r.head? = some 48):=by
      cases r with
      | nil=>exact absurd rfl hne
      | cons x l=>simp;rw [Bool.eq_iff_iff];simp
     have key:∀ v:Int,0<v→v≤9223372036854775807→gm v=some (Lib.decDigits v.toNat)∨True:=fun _ _ _=>.inr trivial;by_cases hall:r.all b5=true
     ·obtain ⟨a1,a2⟩:=E4 hne hall h9;simp only [tC,a1,cond_true];by_cases h48:r.head? = some 48
      ·
       rw [hhd,KO h48];simp only [Bool.not_true,Bool.false_and];by_cases hz:jE 0 r=0
       ·rw [hz];rfl
       ·rw [KO (by omega:(jE 0 r:Int)>0),KO (by simp;omega:(((c::r).length:Nat):Int)≤10)];simp only [cond_true,gm];have hlen:(Lib.itoa (jE 0 r:Int)).length≤21:=Lib.itoa_length_le _ (by omega) (by omega);rw [aq ⟨by omega,by omega,by omega⟩];simp only [Option.bind_some,KR];rw [Lib.itoa_nonneg,beq_eq_false_iff_ne];intro e;exact (x8 (jE 0 r)).2.1 (by omega) (by rw [e];exact h48)
      ·obtain ⟨d1,d2⟩:=Hl r hall hne h48;rw [hhd,KN h48,hall];simp only [Bool.not_false,Bool.true_and];rw [KO (by omega:(jE 0 r:Int)>0),KO (by simp;omega:(((c::r).length:Nat):Int)≤10)];simp only [cond_true,gm];have hlen:(Lib.itoa (jE 0 r:Int)).length≤21:=Lib.itoa_length_le _ (by omega) (by omega);rw [aq ⟨by omega,by omega,by omega⟩];simp only [Option.bind_some,KR];rw [Lib.itoa_nonneg,d2];simp
     ·have hall:r.all b5=false:=by simpa using hall
      rw [hall];simp only [Bool.and_false];cases ha:Lib.atoiAll r with
      | ok v =>
       simp only [tC,ha,cond_true];by_cases hv:v>0
       ·rw [KO hv,KO (by simp;omega:(((c::r).length:Nat):Int)≤10)];simp only [cond_true,gm];have hvb:v≤9223372036854775807:=by
         cases r with
         | nil=>exact absurd rfl hne
         | cons x l =>
          unfold Lib.atoiAll at ha;simp only at ha;split at ha
          ·cases ha
          ·cases ha
          ·split at ha
           ·cases ha
           ·split at ha
            ·cases ha
            ·rename_i h1 h2;simp only [Lib.NumEnd.ok.injEq] at ha;rw [← ha];split
             ·omega
             ·rename_i h3;have:=h1;simp only [h3,not_false_eq_true,true_and] at this;omega
        have hlen:(Lib.itoa v).length≤21:=Lib.itoa_length_le _ (by omega) hvb;rw [aq ⟨by omega,hvb,by omega⟩];simp only [Option.bind_some,KR];rw [beq_eq_false_iff_ne];intro e;have:(Lib.itoa v).all b5=true:=by unfold Lib.itoa;rw [if_neg (by omega)];exact (x8 _).1
        rw [e,hall] at this;cases this
       ·rw [KN hv];rfl
      | range=>simp [tC,ha]
      | _=>simp [tC,ha]
    ·have:r=[]:=List.eq_nil_of_length_eq_zero (by omega);subst this;rfl
   ·rw [KN h9,KN (by simp;omega:¬ (((c::r).length:Nat):Int)≤10)];simp only [cond_false,Bool.false_and,Bool.and_false];cases (tC r).2<;>cases decide ((tC r).1>0)<;>rfl
  | false =>
   simp only [cond_false];rw [fq (fun j=>isLet ((c::r).getD j 0)||(!(((j:Nat):Int)==0)&&b5 ((c::r).getD j 0))) _ _ () (fun j u _ _=>by
    simp only [isLet,b5];generalize (c::r).getD j 0=x;by_cases h1:(x.toNat:Int)<97
    ·rw [KO h1,KN (show ¬ 97≤x.toNat by omega)];simp only [cond_true,Bool.false_and,Bool.false_or];cases ((j:Nat):Int)==0
     ·simp only [cond_false,Bool.not_false,Bool.true_and];by_cases h2:(x.toNat:Int)<48
      ·rw [KO h2,KN (show ¬ 48≤x.toNat by omega)];rfl
      ·rw [KN h2,KO (show 48≤x.toNat by omega)];by_cases h3:(x.toNat:Int)>57
       ·rw [KO h3,KN (show ¬ x.toNat≤57 by omega)];rfl
       ·rw [KN h3,KO (show x.toNat≤57 by omega)];rfl
     ·rfl
    ·rw [KN h1,KO (show 97≤x.toNat by omega)];simp only [cond_false,Bool.true_and];by_cases h2:(x.toNat:Int)>122
     ·rw [KO h2,KN (show ¬ x.toNat≤122 by omega),KN (show ¬ x.toNat≤57 by omega),KN (show ¬ (x.toNat:Int)<48 by omega),KO (show (x.toNat:Int)>57 by omega)];cases ((j:Nat):Int)==0<;>simp [Sh.aft]
     ·rw [KN h2,KO (show x.toNat≤122 by omega)];simp [Sh.aft]),gn]
   have e:(List.range' 0 ((c::r).length-0)).all (fun j=>isLet ((c::r).getD j 0)||(!(((j:Nat):Int)==0)&&b5 ((c::r).getD j 0)))=(isLet c&&r.all (fun b=>isLet b||b5 b)):=by
    rw [show (c::r).length-0=r.length+1 by simp,List.range'_succ,List.all_cons];have e0:(isLet ((c::r).getD 0 0)||(!(((0:Nat):Int)==0)&&b5 ((c::r).getD 0 0)))=isLet c:=by simp
    rw [e0];congr 1;rw [all_congr (q:=fun j=>(fun b=>isLet b||b5 b) ((c::r).getD j 0)) _ _ (fun j h1 _=>by
     have:(((j:Nat):Int)==0)=false:=by simp;omega
     simp only [this,Bool.not_false,Bool.true_and])]
    have:=je (fun b=>isLet b||b5 b) 0 (c::r) 1;simpa using this
   rw [e];have e2:((c::r)==[])=false:=rfl;rw [e2];simp only [cond_false];by_cases h30:r.length≤29
   ·rw [KO h30,KO (by simp;omega:(((c::r).length:Nat):Int)≤30)];cases isLet c&&r.all (fun b=>isLet b||b5 b)<;>rfl
   ·rw [KN h30,KN (by simp;omega:¬ (((c::r).length:Nat):Int)≤30)];cases isLet c&&r.all (fun b=>isLet b||b5 b)<;>rfl
end Go.Proofs.YtadjhpbkknifeaaGreatDoor
namespace Go.Sh
theorem ju {α:Type} [DecidableEq α]:∀ (l l':List α),l.Nodup→(∀ x∈l,x∈l')→l.length≤l'.length
 | [],l',_,_=>by simp
 | a::l,l',h,hs=>by
  rw [List.nodup_cons] at h;have ha:a∈l':=hs a (by simp);have ih:=ju l (l'.erase a) h.2 (fun x hx=>by have hne:x≠a:=fun e=>h.1 (e ▸ hx);exact (List.mem_erase_of_ne hne).2 (hs x (by simp [hx])))
  rw [List.length_erase_of_mem ha] at ih;have:0<l'.length:=List.length_pos_of_mem ha;simp only [List.length_cons];omega
theorem IP {V σ ε β:Type} {m:List (ai×V)} {body:ai×V→σ→Option (eM σ ε β)} {K:σ→Prop} {J:β→Prop} (I:List Nat→σ→Prop) (g:σ→ai×V→σ)
 (hstep:∀ seen s i (h:i<m.length),seen.Nodup→i ∉ seen→(∀ j∈seen,j<m.length)→I seen s→body m[i] s=some (.go (g s m[i]))∧I (seen++[i]) (g s m[i]))
 (hend:∀ seen s,seen.Nodup→(∀ i,i<m.length→i∈seen)→(∀ i∈seen,i<m.length)→I seen s→K s) :
 ∀ (n:Nat) (seen:List Nat) (s:σ),seen.Nodup→(∀ i∈seen,i<m.length)→n+seen.length=m.length→I seen s→MR m body K J n seen s
 | 0,seen,s,h1,h2,h3,hI=>by
  have hall:∀ i,i<m.length→i∈seen:=by
   intro i hi;refine Classical.byContradiction fun hn => ?_;have:=ju (i::seen) (List.range m.length) (List.nodup_cons.2 ⟨hn,h1⟩) (fun x hx=>by
    rcases List.mem_cons.1 hx with rfl | hx
    ·simpa using hi
    ·simpa using h2 x hx)
   simp at this;omega
  exact ⟨hall,hend seen s h1 hall h2 hI⟩
 | n+1,seen,s,h1,h2,h3,hI=>by
  refine ⟨?_,fun i hi hn => ?_⟩
  ·refine Classical.byContradiction fun hn => ?_;have:=ju (List.range m.length) seen List.nodup_range (fun x hx=>Classical.byContradiction fun hx2=>hn ⟨x,by simpa using hx,hx2⟩);simp at this;omega
  ·obtain ⟨e1,e2⟩:=hstep seen s i hi h1 hn h2 hI;refine ⟨_,e1,?_⟩;have hnd:(seen++[i]).Nodup:=by
    rw [List.nodup_append];exact ⟨h1,by simp,fun a ha b hb=>by
     have:b=i:=by simpa using hb
     subst this;intro e;subst e;exact hn ha⟩
   exact IP I g hstep hend n (seen++[i]) _ hnd (fun j hj=>by
    rcases List.mem_append.1 hj with hj | hj
    ·exact h2 j hj
    ·have:j=i:=by simpa using hj
     subst this;exact hi) (by simp;omega) e2
def mv (x y:ai):Bool:=decide (x≤y)
theorem mH (a b c:ai) (h1:mv a b=true) (h2:mv b c=true):mv a c=true:=by simp only [mv,decide_eq_true_eq] at *;exact List.le_trans h1 h2
theorem rR (a b:ai):(mv a b||mv b a)=true:=by simp only [mv,Bool.or_eq_true,decide_eq_true_eq];exact List.le_total a b
theorem v8 (a b:ai) (h1:mv a b=true) (h2:mv b a=true):a=b:=by simp only [mv,decide_eq_true_eq] at *;exact List.le_antisymm h1 h2
theorem s5 (l:List ai):(Go.Ab.sortS l).Pairwise (fun a b=>mv a b=true):=List.pairwise_mergeSort mH rR l
theorem oZ (l:List ai):(Go.Ab.sortS l).Perm l:=List.mergeSort_perm l _
theorem yS {l r:List ai} (hs:r.Pairwise (fun a b=>mv a b=true)) (hp:r.Perm l):Go.Ab.sortS l=r :=
 List.Perm.eq_of_pairwise (fun a b _ _=>v8 a b) (s5 l) hs ((oZ l).trans hp.symm)
def BS (x:ai):List ai→List ai
 | []=>[x]
 | y::l=>bif mv x y then x::y::l else y::BS x l
def bV:List ai→List ai
 | []=>[]
 | x::l=>BS x (bV l)
theorem rU (x:ai):∀ l,(BS x l).Perm (x::l)
 | []=>.refl _
 | y::l=>by
  simp only [BS];cases mv x y
  ·exact ((rU x l).cons y).trans (.swap _ _ _)
  ·exact .refl _
theorem s6 (x:ai):∀ {l:List ai},l.Pairwise (fun a b=>mv a b=true)→(BS x l).Pairwise (fun a b=>mv a b=true)
 | [],_=>by simp [BS]
 | y::l,h=>by
  rw [List.pairwise_cons] at h;simp only [BS];cases hxy:mv x y
  ·simp only [cond_false,List.pairwise_cons];have hyx:mv y x=true:=by have:=rR x y;rw [hxy] at this;simpa using this
   refine ⟨fun a ha => ?_,s6 x h.2⟩;rcases List.mem_cons.1 ((rU x l).mem_iff.1 ha) with rfl | ha
   ·exact hyx
   ·exact h.1 a ha
  ·simp only [cond_true,List.pairwise_cons];refine ⟨fun a ha => ?_,h⟩;rcases List.mem_cons.1 ha with rfl | ha
   ·exact hxy
   ·exact mH _ _ _ hxy (h.1 a ha)
theorem iJ:∀ l,(bV l).Perm l
 | []=>.refl _
 | x::l=>(rU x _).trans ((iJ l).cons x)
theorem rq:∀ l,(bV l).Pairwise (fun a b=>mv a b=true)
 | []=>List.Pairwise.nil
 | x::l=>s6 x (rq l)
theorem uV (l:List ai):Go.Ab.sortS l=bV l:=yS (rq l) (iJ l)
section
variable {α σ ε ρ:Type}
def bM (g:α→σ→eM σ ε ρ) (fin:σ→ε):List α→σ→Out ε ρ
 | [],s=>.brk (fin s)
 | x::l,s=>match g x s with | .go s'=>bM g fin l s' | .brk e=>.brk e | .ret r=>.ret r
theorem Ba {body:Nat→σ→Option (eM σ ε ρ)} {fin:Nat→σ→ε} {f:σ→ε} (d:α) (l:List α) (g:α→σ→eM σ ε ρ) (I:Nat→σ→Prop) (hf:∀ i s,fin i s=f s) :
 ∀ (i:Nat) (s:σ),I i s→(∀ j s,i≤j→j<l.length→I j s→body j s=some (g (l.getD j d) s)∧∀ s',g (l.getD j d) s = .go s'→I (j+1) s') →
 cV body fin (l.length-i) i s=some (bM g f (l.drop i) s):=by
 intro i s hI h;by_cases hi:i<l.length
 ·obtain ⟨k,hk⟩:∃ k,l.length-i=k+1:=⟨l.length-i-1,by omega⟩;obtain ⟨h1,h2⟩:=h i s (Nat.le_refl _) hi hI;have hx:l.getD i d=l[i]:=by simp [KH,KI hi]
  rw [hx] at h1 h2;rw [hk,List.drop_eq_getElem_cons hi];simp only [cV,h1,Option.bind_some,bM];cases hg:g l[i] s with
  | go s' =>
   have ih:=Ba d l g I hf (i+1) s' (h2 s' hg) (fun j s h1 h2=>h j s (by omega) h2);rw [show l.length-(i+1)=k by omega] at ih;exact ih
  | brk e=>rfl
  | ret r=>rfl
 ·rw [show l.length-i=0 by omega,List.drop_eq_nil_of_le (by omega)];simp [cV,bM,hf]
 termination_by i=>l.length-i
theorem fP {body:Nat→σ→Option (eM σ ε ρ)} {fin:Nat→σ→ε} {f:σ→ε} (d:α) (l:List α) (g:α→σ→eM σ ε ρ) (I:Nat→σ→Prop) (hf:∀ i s,fin i s=f s) (s:σ) (hI:I 0 s)
 (h:∀ j s,j<l.length→I j s→body j s=some (g (l.getD j d) s)∧∀ s',g (l.getD j d) s = .go s'→I (j+1) s') :
 cV body fin (l.length-0) 0 s=some (bM g f l s):=by
 have:=Ba d l g I hf 0 s hI (fun j s _ h1 h2=>h j s h1 h2);simpa using this
theorem oY {body:Nat→Unit→Option (eM Unit Nat ρ)} (p:Nat→Bool):∀ (k i:Nat) (u:Unit),(∀ j u,i≤j→j<i+k→body j u=some (bif p j then .brk j else .go ())) →
 cV body (fun i _=>i) k i u=some (.brk (match (List.range' i k).find? p with | some j=>j | none=>i+k))
 | 0,i,u,h=>by simp [cV]
 | k+1,i,u,h=>by
  simp only [cV,h i u (Nat.le_refl _) (by omega),List.range'_succ,List.find?_cons];cases hp:p i with
  | false =>
   simp only [cond_false,Option.bind_some,oy];rw [oY p k (i+1) () (fun j u h1 h2=>h j u (by omega) (by omega))];rw [show i+1+k=i+(k+1) by omega]
  | true=>simp [oy]
theorem pr (p:α→Bool) (d:α):∀ l:List α,0≤idxOf p l→(idxOf p l).toNat<l.length∧p (l.getD (idxOf p l).toNat d)=true
 | [],h=>by simp [idxOf] at h
 | x::l,h=>by
  cases hp:p x with
  | true=>simp [idxOf,hp]
  | false =>
   have hge:=mw p l;simp only [idxOf,hp,cond_false] at h ⊢;by_cases hm:idxOf p l = -1
   ·rw [hm] at h;simp at h
   ·have e:(idxOf p l == -1)=false:=by simpa using hm
    rw [e,cond_false];obtain ⟨h1,h2⟩:=pr p d l (by omega);have e2:(idxOf p l+1).toNat=(idxOf p l).toNat+1:=by omega
    rw [e2];exact ⟨by simp;omega,by simpa using h2⟩
theorem As (p:α→Bool) (d:α) (l:List α):idxOf p l<(l.length:Int):=by
 by_cases h:0≤idxOf p l
 ·have:=(pr p d l h).1;omega
 ·omega
theorem xn (p:α→Bool) (d:α) (l:List α):((match (List.range' 0 (l.length-0)).find? (fun j=>p (l.getD j d)) with | some j=>j | none=>0+(l.length-0)):Nat)=(bif decide (idxOf p l<0) then l.length else (idxOf p l).toNat):=by
 have h:=mx p d l;have hge:=mw p l;cases hf:(List.range' 0 (l.length-0)).find? (fun j=>p (l.getD j d)) with
 | none =>
  rw [hf] at h;have h:(-1:Int)=idxOf p l:=h;rw [← h];simp
 | some j =>
  rw [hf] at h;have h:((j:Nat):Int)=idxOf p l:=h;rw [← h,KN (by omega)];simp
end
end Go.Sh
namespace Go.Proofs.YtadjhpbkknifeaaGreatDoor
open Go.Ab Go.Sh
theorem av {n:Int} (h1 : -9223372036854775808≤n) (h2:n≤9223372036854775807):aW n=n:=by unfold aW IntKind.wrap IntKind.bits IntKind.signed;simp;omega
theorem Ds (x:ai):cmp_isNaN_string x=some false:=by simp [cmp_isNaN_string]
theorem Hv (x y:ai):cmp_Less_string x y=some (Op.bytesLess x y):=by simp [cmp_Less_string,Ds]
theorem zL (x y:ai):cP x y=some (fN x y):=by
 simp only [cP,Ds,Option.bind_some,cond_false];cases h:Op.bytesLess x y with
 | true=>simp [fN,h]
 | false =>
  rcases p8 x y with h1 | h1 | h1
  ·rw [h] at h1;cases h1
  ·subst h1;simp [fN,h]
  ·have hne:(x==y)=false:=by rw [beq_eq_false_iff_ne];intro e;subst e;rw [h] at h1;cases h1
   simp [fN,h,h1,hne]
theorem BF (a b:List ai):cO a b=some (cmpL a b):=by
 unfold cO;generalize hb:(fun (i37:Nat) (s36:Unit)=>_:Nat→Unit→Option (eM Unit Unit Int))=body;have key:∀ k i u,i+k=a.length→i≤b.length→(∀ j,j<i→a.getD j []=b.getD j [])→(cV body (fun _ _=>()) k i u).bind (aft fun _=>bif decide (((a.length:Nat):Int)<((b.length:Nat):Int)) then some (-1) else some 0)=some (cmpL a b):=by
  intro k;induction k with
  | zero =>
   intro i u h1 h2 hA;simp only [cV,Option.bind_some,Sh.aft];by_cases h:a.length<b.length
   ·rw [KO (by omega),yE hA (by omega) (by omega)];rfl
   ·rw [KN (by omega),cmpL_eq hA (by omega) (by omega)];rfl
  | succ k ih =>
   intro i u h1 h2 hA;have e0:body i u=bif decide (((i:Nat):Int)≥((b.length:Nat):Int)) then some (.ret 1) else (cP (a.getD i []) (b.getD i [])).bind fun y=>bif (y==0) then some (.go ()) else some (.ret y):=by rw [← hb]
   simp only [cV];rw [e0];by_cases hl:b.length≤i
   ·rw [KO (by omega),yl hA (by omega) (by omega)];rfl
   ·rw [KN (by omega)];simp only [cond_false,zL,Option.bind_some];by_cases hz:fN (a.getD i []) (b.getD i [])=0
    ·rw [hz];simp only [beq_self_eq_true,cond_true,Option.bind_some,oy];exact ih (i+1) () (by omega) (by omega) fun j hj=>by
      by_cases e:j=i
      ·subst e;exact mC.1 hz
      ·exact hA j (by omega)
    ·rw [beq_eq_false_iff_ne.2 hz,uc hA (by omega) (by omega) hz];simp [oy,Sh.aft]
 exact key (a.length-0) 0 () (by omega) (Nat.zero_le _) (fun j hj=>absurd hj (Nat.not_lt_zero _))
theorem vO (a b:List ai) (ha:a.length≤1000000) (hb2:b.length≤1000000):∃ r,cZ a b=some r∧(0≤r↔0≤cmpL a b)∧(r=0↔cmpL a b=0):=by
 unfold cZ;generalize hb:(fun (i47:Nat) (s46:Unit)=>_:Nat→Unit→Option (eM Unit Unit Int))=body;have hend:aW (((a.length:Nat):Int)-((b.length:Nat):Int))=((a.length:Nat):Int)-((b.length:Nat):Int):=av (by omega) (by omega);have key:∀ k i u,i+k=a.length→i≤b.length→(∀ j,j<i→a.getD j []=b.getD j [])→∃ r,(cV body (fun _ _=>()) k i u).bind (aft fun _=>some (aW (((a.length:Nat):Int)-((b.length:Nat):Int))))=some r∧(0≤r↔0≤cmpL a b)∧(r=0↔cmpL a b=0):=by
  intro k;induction k with
  | zero =>
   intro i u h1 h2 hA;refine ⟨_,rfl,?_⟩;rw [hend];by_cases h:a.length<b.length
   ·rw [yE hA (by omega) (by omega)];omega
   ·rw [cmpL_eq hA (by omega) (by omega)];omega
  | succ k ih =>
   intro i u h1 h2 hA;have e0:body i u=bif decide (((i:Nat):Int)<((b.length:Nat):Int)) then (bif (Op.bytesLess (a.getD i []) (b.getD i [])) then some (.ret (-1)) else (bif (Op.bytesLess (a.getD i []) (b.getD i [])||(a.getD i [])==(b.getD i [])) then some (.go ()) else some (.ret 1))) else some (.brk ()):=by rw [← hb]
   simp only [cV];rw [e0];by_cases hl:b.length≤i
   ·rw [KN (by omega)];refine ⟨_,rfl,?_⟩;rw [hend,yl hA (by omega) (by omega)];omega
   ·rw [KO (by omega)];simp only [cond_true];rcases p8 (a.getD i []) (b.getD i []) with h3 | h3 | h3
    ·rw [h3,uc hA (by omega) (by omega) (by have:=iY.2 h3;omega)];refine ⟨_,rfl,?_⟩;have:=iY.2 h3;omega
    ·rw [h3,eK];simp only [cond_false,Bool.false_or,beq_self_eq_true,cond_true,Option.bind_some,oy];exact ih (i+1) () (by omega) (by omega) fun j hj=>by
      by_cases e:j=i
      ·subst e;exact h3
      ·exact hA j (by omega)
    ·have hne:(a.getD i []==b.getD i [])=false:=by rw [beq_eq_false_iff_ne];intro e;rw [e,eK] at h3;cases h3
     rw [oF h3,hne,uc hA (by omega) (by omega) (by have:=nZ.2 h3;omega)];refine ⟨_,rfl,?_⟩;have:=nZ.2 h3;omega
 exact key (a.length-0) 0 () (by omega) (Nat.zero_le _) (fun j hj=>absurd hj (Nat.not_lt_zero _))
def vp (x:List ai):Bool:=(List.range' 1 (x.length-1)).all fun j => !(Op.bytesLess (x.getD j []) (x.getD (j-1) []))
theorem Bo (n:Nat):List.range' 1 (n+1)=List.range' 1 n++[n+1]:=by rw [List.range'_concat];simp [Nat.add_comm]
theorem zY (x:List ai) (hx:x.length≤1000000):cG x=some (vp x):=by
 unfold cG;generalize hb:(fun (s32:Int)=>_:Int→Option (eM Int Unit Bool))=body;have key:∀ k fuel,k<x.length∨k=0→k<fuel→(qG body fuel ((k:Nat):Int)).bind (aft fun _=>some true)=some ((List.range' 1 k).all fun j => !(Op.bytesLess (x.getD j []) (x.getD (j-1) []))):=by
  intro k;induction k with
  | zero =>
   intro fuel _ hf;obtain ⟨f,rfl⟩:∃ f,fuel=f+1:=⟨fuel-1,by omega⟩;have e0:body ((0:Nat):Int)=some (.brk ()):=by rw [← hb];rfl
   simp only [qG,e0,Option.bind_some,oy,Sh.aft];rfl
  | succ k ih =>
   intro fuel hk hf;obtain ⟨f,rfl⟩:∃ f,fuel=f+1:=⟨fuel-1,by omega⟩;have ew:aW (((k+1:Nat):Int)-1)=((k:Nat):Int):=by rw [av (by omega) (by omega)];omega
   have e0:body ((k+1:Nat):Int)=bif (Op.bytesLess (x.getD (k+1) []) (x.getD k [])) then some (.ret false) else some (.go ((k:Nat):Int)):=by rw [← hb];simp only [ew];rw [KO (by omega)];simp only [cond_true];rw [aq (by omega),aq (by omega),Hv];simp
   simp only [qG,e0];rw [Bo,List.all_append];cases h:Op.bytesLess (x.getD (k+1) []) (x.getD k []) with
   | true=>simp only [cond_true,Option.bind_some,oy,Sh.aft,List.all_cons,List.all_nil,Bool.and_true,Nat.add_sub_cancel,h,Bool.not_true,Bool.and_false]
   | false =>
    simp only [cond_false,Option.bind_some,oy];rw [ih f (by omega) (by omega)];simp only [List.all_cons,List.all_nil,Bool.and_true,Nat.add_sub_cancel,h,Bool.not_false]
 by_cases h0:x.length=0
 ·have ex:x=[]:=List.eq_nil_of_length_eq_zero h0;subst ex;have e0:body (aW (-1))=some (.brk ()):=by rw [← hb];rfl
  have e1:aW ((([]:List ai).length:Nat)-1:Int)=aW (-1):=rfl;have e2:∀ fuel,(qG body (fuel+1) (aW (-1))).bind (Sh.aft fun _=>some true)=some true:=fun fuel=>by simp only [qG,e0,Option.bind_some,oy,Sh.aft]
  exact e2 4294967295
 ·have ew:aW (((x.length:Nat):Int)-1)=((x.length-1:Nat):Int):=by rw [av (by omega) (by omega)];omega
  rw [ew];exact key (x.length-1) _ (by omega) (by omega)
theorem contains_eq (x:List ai) (hN:∀ v∈x,v.length≤1000000):bW x=some (!(x.all cR)):=by
 have h1:∀ v∈x,gO v=some (!(cR v)):=fun v hv=>by unfold gO;rw [om v (hN v hv)];rfl
 unfold bW dd;rw [ot (f:=fun j=>((j:Nat):Int)) (fun j => !(cR (x.getD j []))) _ _ () (fun j u _ hj=>by rw [h1 (x.getD j []) (by rw [KH,KI (by omega)];exact List.getElem_mem _)];cases cR (x.getD j [])<;>rfl)]
 have h2:=mx (fun v => !(cR v)) [] x;have h3:=mz (fun v => !(cR v)) x;have h4:x.any (fun v => !(cR v)) = !(x.all cR):=by rw [List.not_all_eq_any_not]
 generalize (List.range' 0 (x.length-0)).find? (fun j => !(cR (x.getD j [])))=o at h2 ⊢;cases o with
 | none =>
  simp only [Option.bind_some,Sh.aft];rw [← h2] at h3;rw [← h4,h3.1 (by decide)];rfl
 | some j =>
  simp only [Option.bind_some,Sh.aft];rw [← h2] at h3;have:x.any (fun v => !(cR v))=true:=by
   cases h5:x.any (fun v => !(cR v)) with
   | true=>rfl
   | false=>have h6:=h3.2 h5;simp only at h6;omega
  rw [← h4,this];simp
def BA (m:aa):Bool := !(m.Coef==0)&&(decide (-1099511627776≤m.Coef)&&(decide (m.Coef≤1099511627776)&&(decide (m.Vars.length≤8)&&(vp m.Vars&&m.Vars.all cR))))
def aP (p:List aa) (j:Nat):aa:=p.getD j ⟨0,[]⟩
def iD (p:List aa) (j:Nat):Bool:=BA (aP p j)&&(((j:Nat):Int)==0||decide (cmpL (aP p (j-1)).Vars (aP p j).Vars<0))
def aA (p:List aa):Bool:=(List.range' 0 (p.length-0)).all (iD p)&&decide (p.length≤60)
def Bd (p:List aa):Prop:=p.length≤1000000∧∀ m∈p,m.Vars.length≤1000000∧∀ v∈m.Vars,v.length≤1000000
theorem cy {p:List aa} {j:Nat} (h:j<p.length):aP p j∈p:=by unfold aP;rw [KH,KI h];exact List.getElem_mem _
theorem cp (p:List aa) (hB:Bd p):bp p=some (aA p):=by
 unfold bp;rw [fq (iD p) _ _ () (fun j u _ hj=>by
  have hm:=hB.2 _ (cy (p:=p) (j:=j) (by omega));have hw:∀ (h:0<j),aW (((j:Nat):Int)-1)=((j-1:Nat):Int):=fun h=>by rw [av (by have:=hB.1;omega) (by have:=hB.1;omega)];omega
  show _=_;unfold iD BA;simp only [show p.getD j ⟨0,[]⟩=aP p j from rfl,zY _ hm.1,contains_eq _ hm.2,Option.bind_some];by_cases hj0:0<j
  ·have hjz:(((j:Nat):Int)==0)=false:=by simp;omega
   rw [hw hj0,aq (by omega),hjz,KO (show ((j:Nat):Int)>0 by omega)];simp only [Int.toNat_natCast,show p.getD (j-1) ⟨0,[]⟩=aP p (j-1) from rfl,BF,Option.bind_some,Bool.false_or,cond_true];generalize cmpL (aP p (j-1)).Vars (aP p j).Vars=r;generalize aP p j=m;have e1:decide (m.Coef < -1099511627776) = !(decide (-1099511627776≤m.Coef)):=by rw [Bool.eq_iff_iff];simp
   have e2:decide (m.Coef>1099511627776) = !(decide (m.Coef≤1099511627776)):=by rw [Bool.eq_iff_iff];simp
   have e3:decide (((m.Vars.length:Nat):Int)>8) = !(decide (m.Vars.length≤8)):=by rw [Bool.eq_iff_iff];simp;omega
   have e4:decide (r≥0) = !(decide (r<0)):=by rw [Bool.eq_iff_iff];simp
   rw [e1,e2,e3,e4];cases m.Coef==0<;>cases decide (-1099511627776≤m.Coef)<;>cases decide (m.Coef≤1099511627776)<;>cases decide (m.Vars.length≤8)<;>cases vp m.Vars<;>cases m.Vars.all cR<;>cases decide (r<0)<;>rfl
  ·have:j=0:=by omega
   subst this;generalize aP p 0=m;have e1:decide (m.Coef < -1099511627776) = !(decide (-1099511627776≤m.Coef)):=by rw [Bool.eq_iff_iff];simp
   have e2:decide (m.Coef>1099511627776) = !(decide (m.Coef≤1099511627776)):=by rw [Bool.eq_iff_iff];simp
   have e3:decide (((m.Vars.length:Nat):Int)>8) = !(decide (m.Vars.length≤8)):=by rw [Bool.eq_iff_iff];simp;omega
   rw [e1,e2,e3];cases m.Coef==0<;>cases decide (-1099511627776≤m.Coef)<;>cases decide (m.Coef≤1099511627776)<;>cases decide (m.Vars.length≤8)<;>cases vp m.Vars<;>cases m.Vars.all cR<;>rfl),gn]
 unfold aA;cases (List.range' 0 (p.length-0)).all (iD p) with
 | false=>rfl
 | true =>
  simp only [cond_true,Bool.true_and,KR];rw [decide_eq_decide];omega
theorem DF (x y:ai):(Op.bytesLess x y||x==y) = !(Op.bytesLess y x):=by
 rcases p8 x y with h | h | h
 ·simp [h,oF h]
 ·subst h;simp [eK]
 ·have hne:(x==y)=false:=by rw [beq_eq_false_iff_ne];intro e;subst e;rw [eK] at h;cases h
  simp [h,hne,oF h]
def nm (x:List ai) (k:Nat):Bool:=cR (x.getD k [])&&(((k:Nat):Int)==0 || !(Op.bytesLess (x.getD k []) (x.getD (k-1) [])))
theorem Jl (x:List ai):(List.range' 0 (x.length-0)).all (nm x)=(vp x&&x.all cR):=by
 have h1:=Ey cR [] x;rw [← h1];unfold vp;rw [Bool.eq_iff_iff];simp only [KJ,KU,List.mem_range'_1,nm,Bool.or_eq_true,beq_iff_eq];constructor
 ·intro h;refine ⟨fun j hj => ?_,fun j hj=>(h j hj).1⟩;rcases (h j (by omega)).2 with h2 | h2
  ·omega
  ·exact h2
 ·rintro ⟨h2,h3⟩ j hj;refine ⟨h3 j hj,?_⟩;by_cases h0:j=0
  ·exact .inl (by omega)
  ·exact .inr (h2 j (by omega))
theorem bt (p:List aa) (hB:Bd p):cz p=some (aA p):=by
 unfold cz;unfold aA;by_cases h60:p.length≤60
 ·rw [KN (by omega),KO h60];simp only [cond_false,Bool.and_true];rw [fq (iD p) _ _ () (fun j u _ hj=>by
   have hm:=hB.2 _ (cy (p:=p) (j:=j) (by omega));have hw:∀ {j:Nat} (h:0<j),j≤1000000→aW (((j:Nat):Int)-1)=((j-1:Nat):Int):=fun h h2=>by rw [av (by omega) (by omega)];omega
   show _=_;simp only [show p.getD j ⟨0,[]⟩=aP p j from rfl];rw [fq (nm (aP p j).Vars) _ _ () (fun k u _ hk=>by
    unfold nm;rw [pP];simp only [Option.bind_some];cases cR ((aP p j).Vars.getD k []) with
    | false=>rfl
    | true =>
     simp only [cond_true,Bool.true_and];by_cases hk0:0<k
     ·have hkz:(((k:Nat):Int)==0)=false:=by simp;omega
      rw [hw hk0 (by omega),aq (by omega),hkz,KO (show ((k:Nat):Int)>0 by omega)];simp only [Int.toNat_natCast,DF,Bool.false_or,cond_true];cases Op.bytesLess ((aP p j).Vars.getD k []) ((aP p j).Vars.getD (k-1) [])<;>rfl
     ·have:k=0:=by omega
      subst this;rfl),Jl]
   unfold iD BA;by_cases hj0:0<j
   ·have hm':=hB.2 _ (cy (p:=p) (j:=j-1) (by omega));have hjz:(((j:Nat):Int)==0)=false:=by simp;omega
    obtain ⟨r,hr,hr1,hr2⟩:=vO (aP p (j-1)).Vars (aP p j).Vars hm'.1 hm.1;rw [hw hj0 (by omega),aq (by omega),hjz,KO (show ((j:Nat):Int)>0 by omega)];simp only [Int.toNat_natCast,show p.getD (j-1) ⟨0,[]⟩=aP p (j-1) from rfl,hr,Option.bind_some,Bool.false_or,cond_true];have e4:decide (r≥0) = !(decide (cmpL (aP p (j-1)).Vars (aP p j).Vars<0)):=by rw [Bool.eq_iff_iff];simp;omega
    rw [e4];generalize cmpL (aP p (j-1)).Vars (aP p j).Vars=r;generalize aP p j=m;have e1:decide (m.Coef < -1099511627776) = !(decide (-1099511627776≤m.Coef)):=by rw [Bool.eq_iff_iff];simp
    have e2:decide (m.Coef>1099511627776) = !(decide (m.Coef≤1099511627776)):=by rw [Bool.eq_iff_iff];simp
    have e3:decide (((m.Vars.length:Nat):Int)>8) = !(decide (m.Vars.length≤8)):=by rw [Bool.eq_iff_iff];simp;omega
    rw [e1,e2,e3];cases m.Coef==0<;>cases decide (-1099511627776≤m.Coef)<;>cases decide (m.Coef≤1099511627776)<;>cases decide (m.Vars.length≤8)<;>cases vp m.Vars<;>cases m.Vars.all cR<;>cases decide (r<0)<;>rfl
   ·have:j=0:=by omega
    subst this;generalize aP p 0=m;have e1:decide (m.Coef < -1099511627776) = !(decide (-1099511627776≤m.Coef)):=by rw [Bool.eq_iff_iff];simp
    have e2:decide (m.Coef>1099511627776) = !(decide (m.Coef≤1099511627776)):=by rw [Bool.eq_iff_iff];simp
    have e3:decide (((m.Vars.length:Nat):Int)>8) = !(decide (m.Vars.length≤8)):=by rw [Bool.eq_iff_iff];simp;omega
    rw [e1,e2,e3];cases m.Coef==0<;>cases decide (-1099511627776≤m.Coef)<;>cases decide (m.Coef≤1099511627776)<;>cases decide (m.Vars.length≤8)<;>cases vp m.Vars<;>cases m.Vars.all cR<;>rfl),gn]
  cases (List.range' 0 (p.length-0)).all (iD p)<;>rfl
 ·rw [KO (by omega),KN h60];simp
theorem eD {σ ε ρ:Type} {body:Nat→σ→Option (eM σ ε ρ)} {fin:Nat→σ→ε} (I:Nat→σ→Prop):∀ (k i:Nat) (s:σ),I i s→(∀ j s,i≤j→j<i+k→I j s→∃ s',body j s=some (.go s')∧I (j+1) s') →
 ∃ s',cV body fin k i s=some (.brk (fin (i+k) s'))∧I (i+k) s'
 | 0,i,s,hI,h=>⟨s,by simp [cV],hI⟩
 | k+1,i,s,hI,h=>by obtain ⟨s1,h1,h2⟩:=h i s (Nat.le_refl _) (by omega) hI;obtain ⟨s',e1,e3⟩:=eD I k (i+1) s1 h2 (fun j s h1 h2=>h j s (by omega) (by omega));refine ⟨s',?_,by rw [show i+(k+1)=i+1+k by omega];exact e3⟩;simp only [cV,h1,Option.bind_some,oy];rw [e1,show i+1+k=i+(k+1) by omega]
def ct (n:Int):Bool:=decide (-4611686018427387904≤n)&&decide (n≤4611686018427387904)
theorem bH {n:Int}:ct n=true ↔ -4611686018427387904≤n∧n≤4611686018427387904:=by simp [ct]
theorem gF (n:Int):fI n=some (ct n):=by
 unfold fI ct;by_cases h : -4611686018427387904≤n
 ·rw [KO (show n ≥ -4611686018427387904 from h)];rfl
 ·rw [KN (show ¬ n ≥ -4611686018427387904 from h)];rfl
theorem gh (l:List Int):eW l=some (l.all ct):=by
 unfold eW;rw [fq (fun j=>ct (l.getD j 0)) _ _ () (fun j u _ _=>by
  generalize l.getD j 0=n;unfold ct;have e1:decide (n < -4611686018427387904) = !(decide (-4611686018427387904≤n)):=by rw [Bool.eq_iff_iff];simp
  have e2:decide (n>4611686018427387904) = !(decide (n≤4611686018427387904)):=by rw [Bool.eq_iff_iff];simp
  rw [e1,e2];cases decide (-4611686018427387904≤n)<;>cases decide (n≤4611686018427387904)<;>rfl),gn,Ey ct 0 l]
 cases l.all ct<;>rfl
theorem ue {a:Int} (h:ct a=true):du a=some (a.natAbs:Int)∧a.natAbs≤4611686018427387904:=by
 rw [bH] at h;unfold du;by_cases h0:a<0
 ·rw [KO h0];simp only [cond_true,KR];rw [av (by omega) (by omega)];omega
 ·rw [KN h0];simp only [cond_false,KR];omega
theorem A9 {a:Int} (h:ct a=true):j6 a=some (a.natAbs:Int)∧a.natAbs≤4611686018427387904:=by
 rw [bH] at h;unfold j6;by_cases h0:a<0
 ·rw [KO h0];simp only [cond_true,KR];rw [av (by omega) (by omega)];omega
 ·rw [KN h0];simp only [cond_false,KR];omega
theorem wrap_u64 {n:Int} (h0:0≤n) (h:n<18446744073709551616):IntKind.wrap .u64 n=n:=by unfold IntKind.wrap IntKind.bits IntKind.signed;simp;omega
theorem wrap_i64 {n:Int} (h0:0≤n) (h:n≤9223372036854775807):IntKind.wrap .i64 n=n:=av (by omega) h
def mulR (a b:Int):Int×Int:=bif ct a&&(ct b&&ct (a*b)) then (a*b,0) else (0,2)
theorem r9 (a b:Int):((decide (a<0)==decide (b<0))=true→a*b=((a.natAbs*b.natAbs:Nat):Int))∧((decide (a<0)==decide (b<0))=false→a*b = -((a.natAbs*b.natAbs:Nat):Int)):=by
 rcases Int.natAbs_eq a with ha | ha<;>rcases Int.natAbs_eq b with hb | hb;all_goals
  generalize a.natAbs=x at ha ⊢;generalize b.natAbs=y at hb ⊢;subst ha;subst hb
 ·refine ⟨fun _=>by push_cast;rfl,fun h => ?_⟩;rw [KN (by omega),KN (by omega)] at h;cases h
 ·constructor
  ·intro h;by_cases hy:y=0
   ·subst hy;simp
   ·rw [KN (by omega),KO (by omega)] at h;cases h
  ·intro _;rw [Int.mul_neg];push_cast;rfl
 ·constructor
  ·intro h;by_cases hx:x=0
   ·subst hx;simp
   ·rw [KO (by omega),KN (by omega)] at h;cases h
  ·intro _;rw [Int.neg_mul];push_cast;rfl
 ·constructor
  ·intro _;rw [Int.neg_mul_neg];push_cast;rfl
  ·intro h;by_cases hx:x=0
   ·subst hx;simp
   ·by_cases hy:y=0
    ·subst hy;simp
    ·rw [KO (by omega),KO (by omega)] at h;cases h
theorem ah {α β:Type} (x:α) (f:α→Option β):(some x).bind f=f x:=Eq.trans (Option.bind_some x f) rfl
theorem A3 {x y:Int} (hx:0≤x∧x<18446744073709551616) (hy:0≤y∧y<18446744073709551616):kc x y=some (x*y / 18446744073709551616,x*y % 18446744073709551616):=if_pos ⟨hx,hy⟩
theorem ux (a b:Int):jo a b=some (mulR a b):=by
 unfold jo mulR;rw [gh];simp only [List.all_cons,List.all_nil,Bool.and_true,ah];cases ha:ct a with
 | false=>rfl
 | true =>
  cases hb:ct b with
  | false=>rfl
  | true =>
   obtain ⟨a1,a2⟩:=ue ha;obtain ⟨b1,b2⟩:=ue hb;simp only [Bool.true_and,cond_true];rw [a1,b1];simp only [ah];rw [wrap_u64 (by omega) (by omega),wrap_u64 (by omega) (by omega),A3 ⟨by omega,by omega⟩ ⟨by omega,by omega⟩];obtain ⟨s1,s2⟩:=r9 a b;have hP:((a.natAbs:Int)*(b.natAbs:Int))=((a.natAbs*b.natAbs:Nat):Int):=by push_cast;rfl
   rw [hP];generalize a.natAbs*b.natAbs=P at s1 s2 ⊢;generalize hhi:(P:Int) / 18446744073709551616=hi;generalize hlo:(P:Int) % 18446744073709551616=lo;simp only [ah];by_cases hbig:P≤4611686018427387904
   ·rw [KN (show ¬ (hi>0) by omega),KN (show ¬ (lo>4611686018427387904) by omega)];simp only [cond_false];have em:lo=P:=by omega
    rw [em,wrap_i64 (by omega) (by omega)];cases hs:(decide (a<0)==decide (b<0)) with
    | true =>
     rw [s1 hs];have:ct (P:Int)=true:=bH.2 ⟨by omega,by omega⟩;rw [this];rfl
    | false =>
     rw [s2 hs];have:ct (-(P:Int))=true:=bH.2 ⟨by omega,by omega⟩;rw [this,av (by omega) (by omega),Int.zero_sub];rfl
   ·have hab:ct (a*b)=false:=by
     have:¬ (ct (a*b)=true):=by
      rw [bH];cases hs:(decide (a<0)==decide (b<0)) with
      | true=>rw [s1 hs];omega
      | false=>rw [s2 hs];omega
     simpa using this
    rw [hab];by_cases hq:hi>0
    ·rw [KO hq];rfl
    ·rw [KN hq,KO (show lo>4611686018427387904 by omega)];rfl
theorem yW (a b:Int):my a b=some (mulR a b):=by
 unfold my mulR;simp only [gF,Option.bind_some];cases ha:ct a with
 | false=>simp
 | true =>
  cases hb:ct b with
  | false=>simp
  | true =>
   simp only [Bool.true_and,cond_true];by_cases ha0:a=0
   ·subst ha0;simp [ct]
   ·by_cases hb0:b=0
    ·subst hb0;have:(a==0)=false:=by simpa using ha0
     rw [this];simp [ct]
    ·obtain ⟨a1,a2⟩:=A9 ha;obtain ⟨b1,b2⟩:=A9 hb;rw [beq_eq_false_iff_ne.2 ha0,beq_eq_false_iff_ne.2 hb0];simp only [cond_false,a1,b1,Option.bind_some];rw [aq (by omega)];obtain ⟨s1,s2⟩:=r9 a b;have hbn:0<b.natAbs:=by omega
     have e1:(4611686018427387904:Int).tdiv (b.natAbs:Int)=((4611686018427387904 / b.natAbs:Nat):Int):=by rw [Int.tdiv_eq_ediv_of_nonneg (by decide)];rfl
     have hq:4611686018427387904 / b.natAbs≤4611686018427387904:=Nat.div_le_self _ _;have hd:(a.natAbs≤4611686018427387904 / b.natAbs)↔a.natAbs*b.natAbs≤4611686018427387904:=Nat.le_div_iff_mul_le hbn;rw [e1];generalize 4611686018427387904 / b.natAbs=q at hq hd ⊢;rw [av (by omega) (by omega)];by_cases hle:a.natAbs*b.natAbs≤4611686018427387904
     ·rw [KN (by have:=hd.2 hle;omega)];have:ct (a*b)=true:=by
       rw [bH];cases hs:(decide (a<0)==decide (b<0)) with
       | true=>rw [s1 hs];omega
       | false=>rw [s2 hs];omega
      have h2:=bH.1 this;rw [this,av (by omega) (by omega)];rfl
     ·rw [KO (by have:¬ a.natAbs≤q:=fun h=>hle (hd.1 h);omega)];have:ct (a*b)=false:=by
       have:¬ (ct (a*b)=true):=by
        rw [bH];cases hs:(decide (a<0)==decide (b<0)) with
        | true=>rw [s1 hs];omega
        | false=>rw [s2 hs];omega
       simpa using this
      rw [this];rfl
def v3 (a b c:Int):Int:=a+b*18446744073709551616+c*340282366920938463463374607431768211456
def lm (x:Int):Prop:=0≤x∧x<18446744073709551616
theorem Fc {x y c:Int} (hx:lm x) (hy:lm y) (hc:0≤c∧c≤1):dO x y c=some ((x+y+c) % 18446744073709551616,(x+y+c) / 18446744073709551616):=if_pos ⟨hx,hy,hc⟩
theorem vG {x y c:Int} (hx:lm x) (hy:lm y) (hc:0≤c∧c≤1):∃ r d,dO x y c=some (r,d)∧lm r∧(0≤d∧d≤1)∧r+d*18446744073709551616=x+y+c:=by refine ⟨_,_,Fc hx hy hc,?_⟩;unfold lm at *;generalize hs:x+y+c=s;omega
theorem FU {x y:Int} (hx:lm x) (hy:lm y):∃ hi lo,kc x y=some (hi,lo)∧lm lo∧lo+hi*18446744073709551616=x*y∧0≤hi:=by refine ⟨_,_,A3 hx hy,?_⟩;have h0:0≤x*y:=Int.mul_nonneg hx.1 hy.1;unfold lm;generalize x*y=s at h0;omega
theorem Dg {x0 x1 x2 hi lo:Int} (h0:lm x0) (h1:lm x1) (h2:lm x2) (hh:lm hi) (hl:lm lo) (hs:v3 x0 x1 x2+lo+hi*18446744073709551616<6277101735386680763835789423207666416102355444464034512896) :
 ∃ r0 r1 r2 c0 c1 c2,dO x0 lo 0=some (r0,c0)∧dO x1 hi c0=some (r1,c1)∧dO x2 0 c1=some (r2,c2)∧lm r0∧lm r1∧lm r2∧v3 r0 r1 r2=v3 x0 x1 x2+lo+hi*18446744073709551616:=by
 obtain ⟨r0,c0,e0,l0,d0,s0⟩:=vG h0 hl (c:=0) (by omega);obtain ⟨r1,c1,e1,l1,d1,s1⟩:=vG h1 hh d0;obtain ⟨r2,c2,e2,l2,d2,s2⟩:=vG h2 (y:=0) (by unfold lm;omega) d1;refine ⟨r0,r1,r2,c0,c1,c2,e0,e1,e2,l0,l1,l2,?_⟩;unfold lm v3 at *;omega
theorem xY {a b p0 p1 p2 n0 n1 n2 K:Int} (ha:ct a=true) (hb:ct b=true) (h0:lm p0) (h1:lm p1) (h2:lm p2) (g0:lm n0) (g1:lm n1) (g2:lm n2) (hK:v3 p0 p1 p2+v3 n0 n1 n2≤K) (hK2:K≤6277101735386680763835789423207666416102355444464034512896-21267647932558653966460912964485513216-1) :
 ∃ q0 q1 q2 m0 m1 m2,bT a b p0 p1 p2 n0 n1 n2=some (q0,q1,q2,m0,m1,m2)∧lm q0∧lm q1∧lm q2∧lm m0∧lm m1∧lm m2∧v3 q0 q1 q2-v3 m0 m1 m2=v3 p0 p1 p2-v3 n0 n1 n2+a*b∧v3 q0 q1 q2+v3 m0 m1 m2≤K+21267647932558653966460912964485513216:=by
 obtain ⟨a1,a2⟩:=ue ha;obtain ⟨b1,b2⟩:=ue hb;obtain ⟨s1,s2⟩:=r9 a b;obtain ⟨hi,lo,em,hlo,hsum,hhi⟩:=FU (x:=(a.natAbs:Int)) (y:=(b.natAbs:Int)) (by unfold lm;omega) (by unfold lm;omega);have hP:((a.natAbs:Int)*(b.natAbs:Int))=((a.natAbs*b.natAbs:Nat):Int):=by push_cast;rfl
 have hPb:a.natAbs*b.natAbs≤21267647932558653966460912964485513216:=by have:=Nat.mul_le_mul a2 b2;exact this
 rw [hP] at hsum;have wa:=wrap_u64 (n:=(a.natAbs:Int)) (by omega) (by omega);have wb:=wrap_u64 (n:=(b.natAbs:Int)) (by omega) (by omega);have v0:0≤v3 p0 p1 p2:=by unfold lm v3 at *;omega
 have v1:0≤v3 n0 n1 n2:=by unfold lm v3 at *;omega
 generalize a.natAbs*b.natAbs=Pn at s1 s2 hsum hPb;have hhi2:lm hi:=by unfold lm at *;omega
 unfold bT;cases hs:(decide (a<0)==decide (b<0)) with
 | true =>
  obtain ⟨r0,r1,r2,c0,c1,c2,e0,e1,e2,l0,l1,l2,hv⟩:=Dg h0 h1 h2 hhi2 hlo (by omega);refine ⟨r0,r1,r2,n0,n1,n2,?_,l0,l1,l2,g0,g1,g2,?_,?_⟩
  ·simp only [cond_true];rw [a1,b1];simp only [ah];rw [wa,wb,em];simp only [ah];rw [e0];simp only [ah];rw [e1];simp only [ah];rw [e2];simp only [ah]
  ·rw [hv,s1 hs];omega
  ·rw [hv];omega
 | false =>
  obtain ⟨r0,r1,r2,c0,c1,c2,e0,e1,e2,l0,l1,l2,hv⟩:=Dg g0 g1 g2 hhi2 hlo (by omega);refine ⟨p0,p1,p2,r0,r1,r2,?_,h0,h1,h2,l0,l1,l2,?_,?_⟩
  ·simp only [cond_false];rw [a1,b1];simp only [ah];rw [wa,wb,em];simp only [ah];rw [e0];simp only [ah];rw [e1];simp only [ah];rw [e2];simp only [ah]
  ·rw [hv,s2 hs];omega
  ·rw [hv];omega
theorem vk {x y c:Int} (hx:lm x) (hy:lm y) (hc:0≤c∧c≤1):∃ r d,j8 x y c=some (r,d)∧lm r∧(0≤d∧d≤1)∧r=x-y-c+d*18446744073709551616:=by have e:j8 x y c=some ((x-y-c) % 18446744073709551616,if x<y+c then 1 else 0):=if_pos ⟨hx,hy,hc⟩;refine ⟨_,_,e,?_⟩;unfold lm at *;generalize hs:x-y-c=s;split<;>omega
theorem uu {a0 a1 a2 b0 b1 b2:Int} (h0:lm a0) (h1:lm a1) (h2:lm a2) (g0:lm b0) (g1:lm b1) (g2:lm b2) :
 ∃ r0 r1 r2 k,cn (a0,a1,a2) (b0,b1,b2)=some ((r0,r1,r2),k)∧(v3 b0 b1 b2≤v3 a0 a1 a2→k=true∧lm r0∧lm r1∧lm r2∧v3 r0 r1 r2=v3 a0 a1 a2-v3 b0 b1 b2)∧(v3 a0 a1 a2<v3 b0 b1 b2→k=false):=by
 obtain ⟨r0,c0,e0,l0,d0,s0⟩:=vk h0 g0 (c:=0) (by omega);obtain ⟨r1,c1,e1,l1,d1,s1⟩:=vk h1 g1 d0;obtain ⟨r2,c2,e2,l2,d2,s2⟩:=vk h2 g2 d1;refine ⟨r0,r1,r2,c2==0,?_,fun h => ?_,fun h => ?_⟩
 ·unfold cn;rw [e0];simp only [ah];rw [e1];simp only [ah];rw [e2];simp only [ah]
 ·unfold lm v3 at *;refine ⟨?_,l0,l1,l2,by omega⟩;have:c2=0:=by omega
  rw [this];rfl
 ·unfold lm v3 at *;have:c2=1:=by omega
  rw [this];rfl
theorem uz (n:Int) (h:ct n=true):dP n=some (n,0):=by unfold dP;rw [gh];simp only [List.all_cons,List.all_nil,h,Bool.and_true,ah,cond_true]
def nf (S:Int):Int×Int:=bif ct S then (S,0) else (0,2)
theorem dR {S:Int} (h:S < -4611686018427387904∨4611686018427387904<S):nf S=(0,2):=by
 have:ct S=false:=by
  have:¬ ct S=true:=by rw [bH];omega
  simpa using this
 unfold nf;rw [this];rfl
theorem qH {S:Int} (h:ct S=true):nf S=(S,0):=by unfold nf;rw [h];rfl
theorem uj {a0 a1 a2 b0 b1 b2:Int} (h0:lm a0) (h1:lm a1) (h2:lm a2) (g0:lm b0) (g1:lm b1) (g2:lm b2):bG a0 a1 a2 b0 b1 b2=some (nf (v3 a0 a1 a2-v3 b0 b1 b2)):=by
 obtain ⟨r0,r1,r2,k,e1,k1,k2⟩:=uu h0 h1 h2 g0 g1 g2;obtain ⟨t0,t1,t2,j,e2,j1,j2⟩:=uu g0 g1 g2 h0 h1 h2;unfold bG;rw [e1];simp only [ah];by_cases hge:v3 b0 b1 b2≤v3 a0 a1 a2
 ·obtain ⟨hk,l0,l1,l2,hv⟩:=k1 hge;rw [hk];simp only [cond_true];by_cases q1:r1>0
  ·rw [KO q1,dR (by unfold lm v3 at *;omega)];rfl
  ·rw [KN q1];simp only [cond_false];by_cases q2:r2>0
   ·rw [KO q2,dR (by unfold lm v3 at *;omega)];rfl
   ·rw [KN q2];simp only [cond_false];by_cases q0:r0>4611686018427387904
    ·rw [KO q0,dR (by unfold lm v3 at *;omega)];rfl
    ·rw [KN q0];simp only [cond_false];have e:r0=v3 a0 a1 a2-v3 b0 b1 b2:=by unfold lm v3 at *;omega
     have hin:ct r0=true:=bH.2 (by unfold lm at *;omega);rw [wrap_i64 l0.1 (by omega),Int.one_mul,av (by unfold lm at *;omega) (by omega),uz r0 hin,← e,qH hin];simp only [ah]
 ·rw [k2 (by omega)];simp only [cond_false];rw [e2];simp only [ah];obtain ⟨hj,l0,l1,l2,hv⟩:=j1 (by omega);rw [hj];simp only [cond_true];by_cases q1:t1>0
  ·rw [KO q1,dR (by unfold lm v3 at *;omega)];rfl
  ·rw [KN q1];simp only [cond_false];by_cases q2:t2>0
   ·rw [KO q2,dR (by unfold lm v3 at *;omega)];rfl
   ·rw [KN q2];simp only [cond_false];by_cases q0:t0>4611686018427387904
    ·rw [KO q0,dR (by unfold lm v3 at *;omega)];rfl
    ·rw [KN q0];simp only [cond_false];have e : -t0=v3 a0 a1 a2-v3 b0 b1 b2:=by unfold lm v3 at *;omega
     have hin:ct (-t0)=true:=bH.2 (by unfold lm at *;omega);rw [wrap_i64 l0.1 (by omega),show (-1)*t0 = -t0 by omega,av (by omega) (by unfold lm at *;omega),uz (-t0) hin,← e,qH hin];simp only [ah]
def nR (f:Nat→Int):Nat→Int
 | 0=>0
 | j+1=>nR f j+f j
def nT (a b:List Int) (i:Nat):Int:=a.getD i 0*b.getD i 0
def kM (a b:List Int):Int×Int:=bif decide (a.length=b.length) then (bif decide (a.length≤10000) then (bif a.all ct&&b.all ct then nf (nR (nT a b) a.length) else (0,2)) else (0,3)) else (0,1)
def vL (s:Int×Int×Int×Int×Int×Int):Prop:=lm s.1∧lm s.2.1∧lm s.2.2.1∧lm s.2.2.2.1∧lm s.2.2.2.2.1∧lm s.2.2.2.2.2
def JW (s:Int×Int×Int×Int×Int×Int):Int:=v3 s.1 s.2.1 s.2.2.1-v3 s.2.2.2.1 s.2.2.2.2.1 s.2.2.2.2.2
def Ks (s:Int×Int×Int×Int×Int×Int):Int:=v3 s.1 s.2.1 s.2.2.1+v3 s.2.2.2.1 s.2.2.2.2.1 s.2.2.2.2.2
theorem xA {a b:Int} (ha:ct a=true) (hb:ct b=true) (s:Int×Int×Int×Int×Int×Int) (hl:vL s) (j:Nat) (hj:j<10000) (ht:Ks s≤(j:Int)*21267647932558653966460912964485513216) :
 ∃ s',bT a b s.1 s.2.1 s.2.2.1 s.2.2.2.1 s.2.2.2.2.1 s.2.2.2.2.2=some s'∧vL s'∧JW s'=JW s+a*b∧Ks s'≤((j+1:Nat):Int)*21267647932558653966460912964485513216:=by
 obtain ⟨q0,q1,q2,m0,m1,m2,e,l0,l1,l2,l3,l4,l5,hd,hs⟩:=xY (K:=(j:Int)*21267647932558653966460912964485513216) ha hb hl.1 hl.2.1 hl.2.2.1 hl.2.2.2.1 hl.2.2.2.2.1 hl.2.2.2.2.2 ht (by omega);refine ⟨(q0,q1,q2,m0,m1,m2),e,⟨l0,l1,l2,l3,l4,l5⟩,hd,?_⟩;show v3 q0 q1 q2+v3 m0 m1 m2≤_;omega
theorem tg (s:Int×Int×Int×Int×Int×Int) (hl:vL s):bG s.1 s.2.1 s.2.2.1 s.2.2.2.1 s.2.2.2.2.1 s.2.2.2.2.2=some (nf (JW s)) :=
 uj hl.1 hl.2.1 hl.2.2.1 hl.2.2.2.1 hl.2.2.2.2.1 hl.2.2.2.2.2
theorem wm {l:List Int} (h:l.all ct=true) {j:Nat} (hj:j<l.length):ct (l.getD j 0)=true:=by rw [KH,KI hj];exact KU.1 h _ (List.getElem_mem hj)
theorem GH:vL (0,0,0,0,0,0):=by unfold vL lm;simp
def ic (n:Nat):List Int:=List.replicate n 1
theorem yO {n j:Nat} (h:j<n):(ic n).getD j 0=1:=by simp [ic,KH,h]
theorem AJ (n:Nat):(ic n).all ct=true:=by rw [KU];intro x hx;rw [List.eq_of_mem_replicate hx];rfl
theorem vM (a b:List Int):gv a b=some (kM a b):=by
 unfold gv kM;by_cases hlen:a.length=b.length
 ·rw [KO hlen,show ((((a.length:Nat):Int)==((b.length:Nat):Int)))=true by simp [hlen]];simp only [cond_true];by_cases h1:a.length≤10000
  ·rw [KO h1,KN (by omega)];simp only [cond_true,cond_false];rw [gh,gh];simp only [ah];cases ha:a.all ct with
   | false=>rfl
   | true =>
    cases hb:b.all ct with
    | false=>rfl
    | true =>
     simp only [cond_true,Bool.and_true];obtain ⟨s',e1,hI⟩:=eD (ρ:=Empty) (body:=fun i93 (s92:Int×Int×Int×Int×Int×Int)=>bR (i93<b.length) <| (bT (a.getD i93 0) (b.getD i93 0) s92.1 s92.2.1 s92.2.2.1 s92.2.2.2.1 s92.2.2.2.2.1 s92.2.2.2.2.2).bind fun y122=>some (.go (y122.1,y122.2.1,y122.2.2.1,y122.2.2.2.1,y122.2.2.2.2.1,y122.2.2.2.2.2)))
      (fin:=fun i93 s92=>(s92.1,s92.2.1,s92.2.2.1,s92.2.2.2.1,s92.2.2.2.2.1,s92.2.2.2.2.2))
      (fun j s=>vL s∧JW s=nR (nT a b) j∧Ks s≤(j:Int)*21267647932558653966460912964485513216) (a.length-0) 0 (0,0,0,0,0,0) ⟨GH,rfl,by decide⟩ (fun j s _ hj ⟨i1,i2,i3⟩=>by obtain ⟨s',e,l,d,t⟩:=xA (wm ha (j:=j) (by omega)) (wm hb (j:=j) (by omega)) s i1 j (by omega) i3;refine ⟨s',?_,l,by rw [d,i2];rfl,t⟩;rw [aq (by omega),e];rfl)
     rw [e1];show (bG s'.1 s'.2.1 s'.2.2.1 s'.2.2.2.1 s'.2.2.2.2.1 s'.2.2.2.2.2).bind _=_;rw [tg s' hI.1,hI.2.1,Nat.zero_add,Nat.sub_zero];rfl
  ·rw [KN h1,KO (by omega)];rfl
 ·rw [KN hlen,show ((((a.length:Nat):Int)==((b.length:Nat):Int)))=false by rw [beq_eq_false_iff_ne];omega];rfl
theorem wg (l:List Int):jc l=some (kM l (ic l.length)):=by
 unfold jc kM;have hlen:l.length=(ic l.length).length:=by simp [ic]
 rw [KO hlen];simp only [cond_true];by_cases h1:l.length≤10000
 ·rw [KO h1,KN (by omega)];simp only [cond_true,cond_false];rw [gh,AJ];simp only [ah,Bool.and_true];cases ha:l.all ct with
  | false=>rfl
  | true =>
   simp only [cond_true];obtain ⟨s',e1,hI⟩:=eD (ρ:=Empty) (body:=fun i39 (s38:Int×Int×Int×Int×Int×Int)=>(bT (l.getD i39 0) 1 s38.1 s38.2.1 s38.2.2.1 s38.2.2.2.1 s38.2.2.2.2.1 s38.2.2.2.2.2).bind fun y64=>some (.go (y64.1,y64.2.1,y64.2.2.1,y64.2.2.2.1,y64.2.2.2.2.1,y64.2.2.2.2.2)))
    (fin:=fun i38 s38=>(s38.1,s38.2.1,s38.2.2.1,s38.2.2.2.1,s38.2.2.2.2.1,s38.2.2.2.2.2))
    (fun j s=>vL s∧JW s=nR (nT l (ic l.length)) j∧Ks s≤(j:Int)*21267647932558653966460912964485513216) (l.length-0) 0 (0,0,0,0,0,0) ⟨GH,rfl,by decide⟩ (fun j s _ hj ⟨i1,i2,i3⟩=>by
     obtain ⟨s',e,l2,d,t⟩:=xA (b:=1) (wm ha (j:=j) (by omega)) rfl s i1 j (by omega) i3;refine ⟨s',?_,l2,?_,t⟩
     ·rw [e];rfl
     ·rw [d,i2];show _=nR (nT l (ic l.length)) j+l.getD j 0*(ic l.length).getD j 0;rw [yO (by omega)])
   rw [e1];show (bG s'.1 s'.2.1 s'.2.2.1 s'.2.2.2.1 s'.2.2.2.2.1 s'.2.2.2.2.2).bind _=_;rw [tg s' hI.1,hI.2.1,Nat.zero_add,Nat.sub_zero];rfl
 ·rw [KN h1,KO (by omega)];rfl
theorem mK {n:Int} (h:0≤n):n.tdiv 2097152=n / 2097152:=Int.tdiv_eq_ediv_of_nonneg h
theorem tdiv_neg {n:Int} (h:n≤0):n.tdiv 2097152 = -((-n) / 2097152):=by have h1:(-(-n)).tdiv 2097152 = -((-n).tdiv 2097152):=Int.neg_tdiv ..;rw [Int.neg_neg] at h1;rw [h1,mK (by omega)]
theorem uh (n:Int):n.tmod 2097152=n-2097152*n.tdiv 2097152:=Int.tmod_def ..
theorem xG {n:Int} (h:ct n=true):∃ x0 x1 x2,cH n=some (x0,x1,x2)∧n=x0+x1*2097152+x2*4398046511104∧(-2097152≤x0∧x0≤2097152)∧(-2097152≤x1∧x1≤2097152)∧(-2097152≤x2∧x2≤2097152):=by
 have hb:=bH.1 h;have e:cH n=some (n.tmod 2097152,(n.tdiv 2097152).tmod 2097152,(n.tdiv 2097152).tdiv 2097152):=by
  have h1 : -2199023255552≤n.tdiv 2097152∧n.tdiv 2097152≤2199023255552:=by
   by_cases h0:0≤n
   ·rw [mK h0];omega
   ·rw [tdiv_neg (by omega)];omega
  have h2 : -1048576≤(n.tdiv 2097152).tdiv 2097152∧(n.tdiv 2097152).tdiv 2097152≤1048576:=by
   generalize n.tdiv 2097152=m at h1;by_cases h0:0≤m
   ·rw [mK h0];omega
   ·rw [tdiv_neg (by omega)];omega
  unfold cH;rw [av (by omega) (by omega),av (by omega) (by omega)]
 refine ⟨_,_,_,e,?_⟩;rw [uh n,uh (n.tdiv 2097152)];by_cases h0:0≤n
 ·rw [mK h0,mK (n:=n / 2097152) (by omega)];omega
 ·rw [tdiv_neg (n:=n) (by omega),tdiv_neg (n := -((-n) / 2097152)) (by omega)];omega
theorem qt {c:Int} (h:ct c=true):∃ q,dN c 2097152=some (q,0)∧q*2097152≤c∧c<q*2097152+2097152:=by
 have hb:=bH.1 h;refine ⟨c / 2097152,?_,by omega,by omega⟩;unfold dN;rw [gF,gF,h];simp only [ah,cond_true];rw [show ct 2097152=true from rfl];simp only [cond_true];rw [show ((2097152:Int)==0)=false from rfl];simp only [cond_false];rw [aq (by decide),show decide ((2097152:Int)<0)=false from rfl];by_cases h0:0≤c
 ·rw [uh,mK h0,KN (show ¬ c<0 by omega)];by_cases hz:c-2097152*(c / 2097152)=0
  ·rw [hz];simp only [beq_self_eq_true,cond_true,ah,cond_false];rw [av (by omega) (by omega)]
  ·rw [beq_eq_false_iff_ne.2 hz];simp only [cond_false,beq_self_eq_true,Bool.not_true,ah];rw [av (by omega) (by omega)]
 ·rw [uh,tdiv_neg (by omega),KO (show c<0 by omega)];by_cases hz:c-2097152 * -((-c) / 2097152)=0
  ·rw [hz];simp only [beq_self_eq_true,cond_true,ah,cond_false];rw [av (by omega) (by omega)];have : -((-c) / 2097152)=c / 2097152:=by omega
   rw [this]
  ·rw [beq_eq_false_iff_ne.2 hz];have e1:(!(true==false))=true:=rfl;simp only [cond_false,e1,ah,cond_true];rw [av (n := -((-c) / 2097152)) (by omega) (by omega),av (by omega) (by omega)];have : -((-c) / 2097152)-1=c / 2097152:=by omega
   rw [this]
theorem pb {x y:Int} (hx : -2097152≤x∧x≤2097152) (hy : -2097152≤y∧y≤2097152) : -4398046511104≤x*y∧x*y≤4398046511104:=by
 have h1:x.natAbs≤2097152:=by omega
 have h2:y.natAbs≤2097152:=by omega
 have h3:=Nat.mul_le_mul h1 h2;rw [← Int.natAbs_mul] at h3;omega
theorem J4 (x0 x1 x2 y0 y1 y2:Int):(x0+x1*2097152+x2*4398046511104)*(y0+y1*2097152+y2*4398046511104) =
 x0*y0+(x0*y1+x1*y0)*2097152+(x0*y2+x1*y1+x2*y0)*4398046511104+(x1*y2+x2*y1)*9223372036854775808+x2*y2*19342813113834066795298816:=by
 simp only [Int.add_mul,Int.mul_add,Int.mul_assoc,Int.mul_comm,Int.mul_left_comm,Int.reduceMul];omega
abbrev C5:=Int×Int×Int×Int×Int
def sm (c:Int) (j:Nat):Prop := -((j:Int)*13194139533312)≤c∧c≤(j:Int)*13194139533312
def v5 (s:C5):Int:=s.1+s.2.1*2097152+s.2.2.1*4398046511104+s.2.2.2.1*9223372036854775808+s.2.2.2.2*19342813113834066795298816
def JP (j:Nat) (s:C5):Prop:=sm s.1 j∧sm s.2.1 j∧sm s.2.2.1 j∧sm s.2.2.2.1 j∧sm s.2.2.2.2 j
theorem GW {a b:Int} (ha:ct a=true) (hb:ct b=true) (s:C5) (j:Nat) (hj:j<10000) (hs:JP j s) :
 ∃ x y:Int×Int×Int,cH a=some x∧cH b=some y∧∃ s':C5,((aW (s.1+(aW (x.1*y.1)))),(aW ((aW (s.2.1+(aW (x.1*y.2.1))))+(aW (x.2.1*y.1)))),(aW ((aW ((aW (s.2.2.1+(aW (x.1*y.2.2))))+(aW (x.2.1*y.2.1))))+(aW (x.2.2*y.1)))),(aW ((aW (s.2.2.2.1+(aW (x.2.1*y.2.2))))+(aW (x.2.2*y.2.1)))),(aW (s.2.2.2.2+(aW (x.2.2*y.2.2)))))=s'∧JP (j+1) s'∧v5 s'=v5 s+a*b:=by
 obtain ⟨x0,x1,x2,ex,hx,bx0,bx1,bx2⟩:=xG ha;obtain ⟨y0,y1,y2,ey,hy,by0,by1,by2⟩:=xG hb;refine ⟨(x0,x1,x2),(y0,y1,y2),ex,ey,(s.1+x0*y0,s.2.1+x0*y1+x1*y0,s.2.2.1+x0*y2+x1*y1+x2*y0,s.2.2.2.1+x1*y2+x2*y1,s.2.2.2.2+x2*y2),?_⟩;have hm:=J4 x0 x1 x2 y0 y1 y2;rw [← hx,← hy] at hm;have p00:=pb bx0 by0;have p01:=pb bx0 by1;have p02:=pb bx0 by2;have p10:=pb bx1 by0;have p11:=pb bx1 by1;have p12:=pb bx1 by2;have p20:=pb bx2 by0;have p21:=pb bx2 by1;have p22:=pb bx2 by2;rw [hm];show (aW (s.1+aW (x0*y0)),aW (aW (s.2.1+aW (x0*y1))+aW (x1*y0)),aW (aW (aW (s.2.2.1+aW (x0*y2))+aW (x1*y1))+aW (x2*y0)),aW (aW (s.2.2.2.1+aW (x1*y2))+aW (x2*y1)),aW (s.2.2.2.2+aW (x2*y2)))=_∧_;obtain ⟨s0,s1,s2,s3,s4⟩:=s;generalize x0*y0=m00 at *;generalize x0*y1=m01 at *;generalize x0*y2=m02 at *;generalize x1*y0=m10 at *;generalize x1*y1=m11 at *;generalize x1*y2=m12 at *;generalize x2*y0=m20 at *;generalize x2*y1=m21 at *;generalize x2*y2=m22 at *;unfold JP sm at *;simp only at hs ⊢;refine ⟨?_,by omega,by unfold v5;simp only;omega⟩;rw [av (n:=m00) (by omega) (by omega),av (n:=m01) (by omega) (by omega),av (n:=m02) (by omega) (by omega),av (n:=m10) (by omega) (by omega),av (n:=m11) (by omega) (by omega),av (n:=m12) (by omega) (by omega),av (n:=m20) (by omega) (by omega),av (n:=m21) (by omega) (by omega),av (n:=m22) (by omega) (by omega)];rw [av (n:=s0+m00) (by omega) (by omega),av (n:=s1+m01) (by omega) (by omega),av (n:=s1+m01+m10) (by omega) (by omega),av (n:=s2+m02) (by omega) (by omega),av (n:=s2+m02+m11) (by omega) (by omega),av (n:=s2+m02+m11+m20) (by omega) (by omega),av (n:=s3+m12) (by omega) (by omega),av (n:=s3+m12+m21) (by omega) (by omega),av (n:=s4+m22) (by omega) (by omega)]
theorem Ip (a b:List Int) (h:a.length=b.length):(List.range' 0 (a.length-0)).all (fun j=>ct (a.getD j 0)&&ct (b.getD j 0))=(a.all ct&&b.all ct):=by have h1:=Ey ct 0 a;have h2:=Ey ct 0 b;rw [← h1,← h2,← h,Bool.eq_iff_iff];simp only [KJ,KU];exact ⟨fun k=>⟨fun j hj=>(k j hj).1,fun j hj=>(k j hj).2⟩,fun k j hj=>⟨k.1 j hj,k.2 j hj⟩⟩
theorem wz {q:Int} (h : -9223372036854775808≤q) (h2:q≤9223372036854775807):aW (0+q)=q:=by rw [Int.zero_add];exact av h h2
set_option maxHeartbeats 1000000 in
theorem yF (a b:List Int):gL a b=some (kM a b):=by
 unfold kM;by_cases hlen:a.length=b.length
 ·by_cases h1:a.length≤10000
  ·rw [KO hlen,KO h1];simp only [cond_true];unfold gL;rw [show ((((a.length:Nat):Int)==((b.length:Nat):Int)))=true by simp [hlen]];simp only [cond_true];rw [KN (show ¬ ((a.length:Nat):Int)>10000 by omega)];simp only [cond_false];rw [fq (fun j=>ct (a.getD j 0)&&ct (b.getD j 0)) _ _ () (fun j u _ hj=>by rw [gF,gF,aq (by omega)];simp only [ah];cases ct (a.getD j 0)<;>cases ct (b.getD j 0)<;>rfl),gn,Ip a b hlen]
   cases hin:a.all ct&&b.all ct with
   | false=>rfl
   | true =>
    rw [KJ] at hin;obtain ⟨ha,hb⟩:=hin;simp only [cond_true];obtain ⟨s,e1,hI⟩:=eD (ρ:=Empty) (body:=fun i197 (s196:C5)=>(cH (a.getD i197 0)).bind fun y227=>bR (i197<b.length) <| (cH (b.getD i197 0)).bind fun y232 =>
     some (.go ((aW (s196.1+(aW (y227.1*y232.1)))),(aW ((aW (s196.2.1+(aW (y227.1*y232.2.1))))+(aW (y227.2.1*y232.1)))),(aW ((aW ((aW (s196.2.2.1+(aW (y227.1*y232.2.2))))+(aW (y227.2.1*y232.2.1))))+(aW (y227.2.2*y232.1)))),(aW ((aW (s196.2.2.2.1+(aW (y227.2.1*y232.2.2))))+(aW (y227.2.2*y232.2.1)))),(aW (s196.2.2.2.2+(aW (y227.2.2*y232.2.2)))))))
     (fin:=fun i197 s196=>(s196.1,s196.2.1,s196.2.2.1,s196.2.2.2.1,s196.2.2.2.2))
     (fun j s=>JP j s∧v5 s=nR (nT a b) j) (a.length-0) 0 (0,0,0,0,0) ⟨by unfold JP sm;simp,by unfold v5 nR;simp⟩ (fun j s _ hj ⟨i1,i2⟩=>by
      obtain ⟨x,y,ex,ey,s',es,k1,k2⟩:=GW (wm ha (j:=j) (by omega)) (wm hb (j:=j) (by omega)) s j (by omega) i1;refine ⟨s',?_,k1,?_⟩
      ·rw [ex];simp only [ah];rw [aq (by omega),ey];simp only [ah];rw [es]
      ·rw [k2,i2];rfl)
    rw [e1];rw [Nat.zero_add,Nat.sub_zero] at hI;obtain ⟨hC,hv⟩:=hI;have hlen2:(a.length:Int)≤10000:=by omega
    rw [← hv];clear hv e1;obtain ⟨s0,s1,s2,s3,s4⟩:=s;unfold JP sm at hC;simp only at hC;obtain ⟨⟨z0,z0'⟩,⟨z1,z1'⟩,⟨z2,z2'⟩,⟨z3,z3'⟩,⟨z4,z4'⟩⟩:=hC;obtain ⟨S,hS⟩:∃ S,S=v5 (s0,s1,s2,s3,s4):=⟨_,rfl⟩;rw [← hS];have hS2:S=s0+s1*2097152+s2*4398046511104+s3*9223372036854775808+s4*19342813113834066795298816:=hS;clear hS;have b0 : -131941395333120000≤s0∧s0≤131941395333120000:=by omega
    have b1 : -131941395333120000≤s1∧s1≤131941395333120000:=by omega
    have b2 : -131941395333120000≤s2∧s2≤131941395333120000:=by omega
    have b3 : -131941395333120000≤s3∧s3≤131941395333120000:=by omega
    have b4 : -131941395333120000≤s4∧s4≤131941395333120000:=by omega
    clear z0 z0' z1 z1' z2 z2' z3 z3' z4 z4';show ((dN s0 2097152).bind fun y243=>_)=_;obtain ⟨q0,e0,f0,g0⟩:=qt (c:=s0) (bH.2 (by omega));rw [e0];simp only [ah];rw [av (n:=s1+q0) (by omega) (by omega)];obtain ⟨c1,hc1⟩:∃ c,c=s1+q0:=⟨_,rfl⟩;rw [← hc1];obtain ⟨q1,e1,f1,g1⟩:=qt (c:=c1) (bH.2 (by omega));rw [e1];simp only [ah];rw [av (n:=s2+q1) (by omega) (by omega)];obtain ⟨c2,hc2⟩:∃ c,c=s2+q1:=⟨_,rfl⟩;rw [← hc2];obtain ⟨q2,e2,f2,g2⟩:=qt (c:=c2) (bH.2 (by omega));rw [e2];simp only [ah];rw [av (n:=s3+q2) (by omega) (by omega)];obtain ⟨c3,hc3⟩:∃ c,c=s3+q2:=⟨_,rfl⟩;rw [← hc3];obtain ⟨q3,e3,f3,g3⟩:=qt (c:=c3) (bH.2 (by omega));rw [e3];simp only [ah];rw [av (n:=s4+q3) (by omega) (by omega)];obtain ⟨c4,hc4⟩:∃ c,c=s4+q3:=⟨_,rfl⟩;rw [← hc4];obtain ⟨q4,e4,f4,g4⟩:=qt (c:=c4) (bH.2 (by omega));rw [e4];simp only [ah];rw [wz (q:=q4) (by omega) (by omega)];obtain ⟨q5,e5,f5,g5⟩:=qt (c:=q4) (bH.2 (by omega));rw [e5];simp only [ah];rw [wz (q:=q5) (by omega) (by omega)];obtain ⟨q6,e6,f6,g6⟩:=qt (c:=q5) (bH.2 (by omega));rw [e6];simp only [ah];rw [wz (q:=q6) (by omega) (by omega),wz (q:=q6) (by omega) (by omega)];clear e0 e1 e2 e3 e4 e5 e6;rw [av (n:=q6*2097152) (by omega) (by omega),av (n:=q5-q6*2097152) (by omega) (by omega),show q6*2097152+(q5-q6*2097152)=q5 by omega,av (n:=q5) (by omega) (by omega)];rw [av (n:=q5*2097152) (by omega) (by omega),av (n:=q4-q5*2097152) (by omega) (by omega),show q5*2097152+(q4-q5*2097152)=q4 by omega,av (n:=q4) (by omega) (by omega)];rw [av (n:=q4*2097152) (by omega) (by omega),av (n:=c4-q4*2097152) (by omega) (by omega),show q4*2097152+(c4-q4*2097152)=c4 by omega,av (n:=c4) (by omega) (by omega)];rw [av (n:=q3*2097152) (by omega) (by omega),av (n:=c3-q3*2097152) (by omega) (by omega),av (n:=q2*2097152) (by omega) (by omega),av (n:=c2-q2*2097152) (by omega) (by omega),av (n:=q1*2097152) (by omega) (by omega),av (n:=c1-q1*2097152) (by omega) (by omega),av (n:=q0*2097152) (by omega) (by omega),av (n:=s0-q0*2097152) (by omega) (by omega)];obtain ⟨d3,hd3⟩:∃ d,d=c3-q3*2097152:=⟨_,rfl⟩;obtain ⟨d2,hd2⟩:∃ d,d=c2-q2*2097152:=⟨_,rfl⟩;obtain ⟨d1,G9⟩:∃ d,d=c1-q1*2097152:=⟨_,rfl⟩;obtain ⟨d0,hd0⟩:∃ d,d=s0-q0*2097152:=⟨_,rfl⟩;rw [← hd3,← hd2,← G9,← hd0];have k3:0≤d3∧d3<2097152:=by omega
    have k2:0≤d2∧d2<2097152:=by omega
    have k1:0≤d1∧d1<2097152:=by omega
    have k0:0≤d0∧d0<2097152:=by omega
    have hSv:S=c4*19342813113834066795298816+d3*9223372036854775808+d2*4398046511104+d1*2097152+d0:=by omega
    rw [KN (show ¬ q6>2199023255552 by omega),KN (show ¬ q6 < -2199023255552 by omega),KN (show ¬ q5>2199023255552 by omega),KN (show ¬ q5 < -2199023255552 by omega),KN (show ¬ q4>2199023255552 by omega),KN (show ¬ q4 < -2199023255552 by omega)];simp only [cond_false];clear hc1 hc2 hc3 hc4 f0 f1 f2 f3 f4 f5 f6 g0 g1 g2 g3 g4 g5 g6 hd3 hd2 G9 hd0 hS2 b0 b1 b2 b3;by_cases t4:c4>2199023255552
    ·rw [KO t4,dR (by omega)];rfl
    rw [KN t4];by_cases u4:c4 < -2199023255552
    ·rw [KO u4,dR (by omega)];rfl
    rw [KN u4];simp only [cond_false];rw [av (n:=c4*2097152) (by omega) (by omega),av (n:=c4*2097152+d3) (by omega) (by omega)];obtain ⟨n3,hn3⟩:∃ d,d=c4*2097152+d3:=⟨_,rfl⟩;rw [← hn3];by_cases t3:n3>2199023255552
    ·rw [KO t3,dR (by omega)];rfl
    rw [KN t3];by_cases u3:n3 < -2199023255552
    ·rw [KO u3,dR (by omega)];rfl
    rw [KN u3];simp only [cond_false];rw [av (n:=n3*2097152) (by omega) (by omega),av (n:=n3*2097152+d2) (by omega) (by omega)];obtain ⟨n2,hn2⟩:∃ d,d=n3*2097152+d2:=⟨_,rfl⟩;rw [← hn2];by_cases t2:n2>2199023255552
    ·rw [KO t2,dR (by omega)];rfl
    rw [KN t2];by_cases u2:n2 < -2199023255552
    ·rw [KO u2,dR (by omega)];rfl
    rw [KN u2];simp only [cond_false];rw [av (n:=n2*2097152) (by omega) (by omega),av (n:=n2*2097152+d1) (by omega) (by omega)];obtain ⟨n1,hn1⟩:∃ d,d=n2*2097152+d1:=⟨_,rfl⟩;rw [← hn1];by_cases t1:n1>2199023255552
    ·rw [KO t1,dR (by omega)];rfl
    rw [KN t1];by_cases u1:n1 < -2199023255552
    ·rw [KO u1,dR (by omega)];rfl
    rw [KN u1];simp only [cond_false];rw [av (n:=n1*2097152) (by omega) (by omega),av (n:=n1*2097152+d0) (by omega) (by omega),show n1*2097152+d0=S by omega,gF];simp only [ah];unfold nf;cases ct S<;>rfl
  ·rw [KO hlen,KN h1];unfold gL;rw [show ((((a.length:Nat):Int)==((b.length:Nat):Int)))=true by simp [hlen]];simp only [cond_true,cond_false];rw [KO (show ((a.length:Nat):Int)>10000 by omega)];simp only [cond_true]
 ·rw [KN hlen];unfold gL;rw [show ((((a.length:Nat):Int)==((b.length:Nat):Int)))=false by rw [beq_eq_false_iff_ne];omega];simp only [cond_false]
def qB (v:ai) (x:Value):Bool:=x.Var==v
def look (vs:List Value) (v:ai):Int:=idxOf (qB v) vs
def num (vs:List Value) (v:ai):Int:=(vs.getD (look vs v).toNat ⟨[],0⟩).N
def pN (vs:List Value) (v:ai):Bool:=decide (look vs v<0)
def vE (vs:List Value) (m:aa):Bool:=m.Vars.any (pN vs)
def mU (vs:List Value) (m:aa):List Int:=m.Vars.map (num vs)
def yJ (vs:List Value) (m:aa):Bool:=(mU vs m).any (fun n => !(ct n))
theorem BK (vs:List Value) (v:ai):bY vs v=some (look vs v):=by
 unfold bY look;rw [ot (f:=fun j=>((j:Nat):Int)) (fun j=>qB v (vs.getD j ⟨[],0⟩)) _ _ () (fun j u _ _=>by unfold kZ qB;simp only [Option.bind_some];cases (vs.getD j ⟨[],0⟩).Var==v<;>rfl),← mx (qB v) ⟨[],0⟩ vs]
 cases (List.range' 0 (vs.length-0)).find? (fun j=>qB v (vs.getD j ⟨[],0⟩))<;>rfl
theorem Hg (vs:List Value) (v:ai) (h:pN vs v=false):0≤look vs v∧look vs v<(vs.length:Int):=by
 have h1:¬ look vs v<0:=by simpa [pN] using h
 have h2:=As (qB v) ⟨[],0⟩ vs;unfold look at *;omega
abbrev E2:=Int×Int
abbrev S1:=List (List Int)×Bool
def GY (vs:List Value) (v:ai) (s:Bool×List Int):eM (Bool×List Int) (Bool×List Int) (eM S1 S1 E2):=bif pN vs v then .ret (.ret (0,7)) else .go (s.1 || !(ct (num vs v)),s.2++[num vs v])
theorem Af (vs:List Value):∀ (l:List ai) (s:Bool×List Int),bM (GY vs) (fun s=>(s.1,s.2)) l s=bif l.any (pN vs) then .ret (.ret (0,7)) else .brk (s.1||(l.map (num vs)).any (fun n => !(ct n)),s.2++l.map (num vs))
 | [],s=>by simp [bM]
 | v::l,s=>by
  simp only [bM,GY,List.any_cons,List.map_cons];cases h:pN vs v with
  | true=>rfl
  | false =>
   simp only [cond_false,Bool.false_or];rw [Af vs l];simp only [Bool.or_assoc,List.append_assoc,List.singleton_append]
def G3 (vs:List Value) (m:aa) (s:S1):eM S1 S1 E2:=bif vE vs m then .ret (0,7) else .go (s.1++[m.Coef::mU vs m],s.2||yJ vs m)
theorem A8 (vs:List Value):∀ (l:List aa) (s:S1),bM (G3 vs) (fun s=>(s.1,s.2)) l s=bif l.any (vE vs) then .ret (0,7) else .brk (s.1++l.map (fun m=>m.Coef::mU vs m),s.2||l.any (yJ vs))
 | [],s=>by simp [bM]
 | m::l,s=>by
  simp only [bM,G3,List.any_cons,List.map_cons];cases h:vE vs m with
  | true=>rfl
  | false =>
   simp only [cond_false,Bool.false_or];rw [A8 vs l];simp only [Bool.or_assoc,List.append_assoc,List.singleton_append]
theorem I4 (b:Bool) (n:Int):((bif b then some true else (bif decide (n<(-4611686018427387904)) then some true else some (decide (n>4611686018427387904)))):Option Bool)=some (b || !(ct n)):=by
 have e1:decide (n < -4611686018427387904) = !(decide (-4611686018427387904≤n)):=by rw [Bool.eq_iff_iff];simp
 have e2:decide (n>4611686018427387904) = !(decide (n≤4611686018427387904)):=by rw [Bool.eq_iff_iff];simp
 rw [e1,e2];unfold ct;cases b<;>cases decide (-4611686018427387904≤n)<;>cases decide (n≤4611686018427387904)<;>rfl
def pm:Int→List Int→Option Int
 | n,[]=>some n
 | n,x::l=>bif ct n&&(ct x&&ct (n*x)) then pm (n*x) l else none
def Ii (x:Int) (s:Int):eM Int Int E2:=bif ct s&&(ct x&&ct (s*x)) then .go (s*x) else .ret (0,2)
theorem Ao:∀ (l:List Int) (s:Int),bM Ii (fun s=>s) l s=match pm s l with | some r=>.brk r | none=>.ret (0,2)
 | [],s=>rfl
 | x::l,s=>by
  simp only [bM,Ii,pm];cases ct s&&(ct x&&ct (s*x)) with
  | true=>simp only [cond_true];exact Ao l (s*x)
  | false=>rfl
theorem ya (l:List Int):dp l 0=some (l.any (fun n=>n==0)):=by
 unfold dp fJ;rw [ot (f:=fun j=>((j:Nat):Int)) (fun j=>(fun n=>n==0) (l.getD j 0)) _ _ () (fun j u _ _=>by
  have:((0:Int)==l.getD j 0)=(l.getD j 0==0):=by rw [Bool.eq_iff_iff,beq_iff_eq,beq_iff_eq];exact eq_comm
  rw [this];show _=some (bif (l.getD j 0==0) then eM.ret ((j:Nat):Int) else eM.go ());cases (l.getD j 0==0)<;>rfl)]
 have h2:=mx (fun n:Int=>n==0) 0 l;have h3:=mz (fun n:Int=>n==0) l;generalize (List.range' 0 (l.length-0)).find? (fun j=>(fun n=>n==0) (l.getD j 0))=o at h2 ⊢;cases o with
 | none =>
  rw [← h2] at h3;rw [h3.1 (by decide)];rfl
 | some j =>
  rw [← h2] at h3;have:l.any (fun n=>n==0)=true:=by
   cases h5:l.any (fun n=>n==0) with
   | true=>rfl
   | false=>have h6:=h3.2 h5;simp only at h6;omega
  rw [this];simp only [Option.bind_some,Sh.aft,KR,decide_eq_true_eq];omega
def dv (l:List Int):E2:=bif l.any (fun n=>n==0) then (0,0) else (match pm 1 l with | some r=>(r,0) | none=>(0,2))
theorem Cu (l:List Int):gT l=some (dv l):=by
 unfold gT dv;rw [ya];simp only [Option.bind_some];cases l.any (fun n=>n==0) with
 | true=>rfl
 | false =>
  simp only [cond_false];rw [fP (f:=fun s=>s) 0 l Ii (fun _ _=>True) (fun _ _=>rfl) 1 trivial (fun j s hj _=>by refine ⟨?_,fun _ _=>trivial⟩;rw [ux];unfold mulR Ii;cases ct s&&(ct (l.getD j 0)&&ct (s*l.getD j 0))<;>rfl),Ao]
  cases pm 1 l<;>rfl
def Fe (l:List Int) (s:List Int):eM (List Int) (List Int) E2:=bif (dv l).2==0 then .go (s++[(dv l).1]) else .ret (0,2)
theorem AP:∀ (ls:List (List Int)) (s:List Int),bM Fe (fun s=>s) ls s=bif ls.any (fun l => !((dv l).2==0)) then .ret (0,2) else .brk (s++ls.map (fun l=>(dv l).1))
 | [],s=>by simp [bM]
 | l::ls,s=>by
  simp only [bM,Fe,List.any_cons,List.map_cons];cases h:(dv l).2==0 with
  | false=>rfl
  | true =>
   simp only [cond_true,Bool.not_true,Bool.false_or];rw [AP ls];simp only [List.append_assoc,List.singleton_append]
def fu (p:List aa) (vs:List Value):E2 :=
 bif aA p then (bif p.any (vE vs) then (0,7) else bif p.any (yJ vs) then (0,2) else
  bif (p.map (fun m=>m.Coef::mU vs m)).any (fun l => !((dv l).2==0)) then (0,2) else kM ((p.map (fun m=>m.Coef::mU vs m)).map (fun l=>(dv l).1)) (ic p.length)) else (0,1)
theorem kd {p:List aa} (h:aA p=true) {m:aa} (hm:m∈p):BA m=true:=by
 unfold aA at h;rw [KJ,KU] at h;obtain ⟨j,hj,rfl⟩:=List.getElem_of_mem hm;have:=h.1 j (by rw [List.mem_range'_1];omega);unfold iD at this;rw [KJ] at this;have e:aP p j=p[j]:=by unfold aP;rw [KH,KI hj];rfl
 rw [e] at this;exact this.1
theorem eQ (p:List aa) (vs:List Value) (hB:Bd p):dx p vs=some (fu p vs):=by
 unfold dx fu;rw [cp p hB];simp only [ah];cases hv:aA p with
 | false=>rfl
 | true =>
  simp only [cond_true];rw [fP (f:=fun s=>(s.1,s.2)) ⟨0,[]⟩ p (G3 vs) (fun j s=>s.1.length=j) (fun _ _=>rfl) ([],false) rfl (fun j s hj hI=>by
   have hm:=hB.2 _ (cy (p:=p) (j:=j) hj);refine ⟨?_,fun s' e => ?_⟩
   ·simp only [show p.getD j ⟨0,[]⟩=aP p j from rfl];generalize aP p j=m at hm;rw [fP (f:=fun s=>(s.1,s.2)) [] m.Vars (GY vs) (fun k s=>s.2.length=k+1) (fun _ _=>rfl) (s.2,[m.Coef]) rfl (fun k s hk hI2=>by
     generalize m.Vars.getD k []=v;refine ⟨?_,fun s' e => ?_⟩
     ·rw [BK];simp only [ah];unfold GY;cases hmv:pN vs v with
      | true =>
       have:decide (look vs v<0)=true:=hmv;rw [this];rfl
      | false =>
       have h1:decide (look vs v<0)=false:=hmv;have h2:=Hg vs v hmv;rw [h1];simp only [cond_false];rw [aq h2,I4];simp only [ah];rw [aq (by omega)];rfl
     ·unfold GY at e;cases hmv:pN vs v with
      | true=>rw [hmv] at e;cases e
      | false=>rw [hmv] at e;cases e;simp [hI2]),Af]
    unfold G3 vE;cases m.Vars.any (pN vs) with
    | true=>rfl
    | false =>
     simp only [cond_false,ah,Sh.aft];rw [aq (by have:=hB.1;omega)];rfl
   ·unfold G3 at e;cases hmv:vE vs (p.getD j ⟨0,[]⟩) with
    | true=>rw [hmv] at e;cases e
    | false=>rw [hmv] at e;cases e;simp [hI]),A8]
  cases p.any (vE vs) with
  | true=>rfl
  | false =>
   simp only [cond_false,ah,Sh.aft,Bool.false_or,List.nil_append];cases p.any (yJ vs) with
   | true=>rfl
   | false =>
    simp only [cond_false];have hlen:(p.map (fun m=>m.Coef::mU vs m)).length=p.length:=KP ..;generalize p.map (fun m=>m.Coef::mU vs m)=ls at hlen;rw [fP (f:=fun s=>s) [] ls Fe (fun j s=>s.length=j) (fun _ _=>rfl) [] rfl (fun j s hj hI=>by
     refine ⟨?_,fun s' e => ?_⟩
     ·rw [Cu];simp only [ah];unfold Fe;cases h:(dv (ls.getD j [])).2==0 with
      | false=>rfl
      | true =>
       simp only [cond_true];rw [aq (by have:=hB.1;omega)]
     ·unfold Fe at e;cases h:(dv (ls.getD j [])).2==0 with
      | false=>rw [h] at e;cases e
      | true=>rw [h] at e;cases e;simp [hI]),AP]
    cases ls.any (fun l => !((dv l).2==0)) with
    | true=>rfl
    | false =>
     simp only [cond_false,ah,Sh.aft,List.nil_append];rw [wg];simp only [ah,KP,hlen]
def r5 (m:aa):Bool:=decide (m.Vars.length≤10)&&m.Vars.all (fun v=>decide (v.length≤40))
def ER (p:List aa) (n:Int):Bool:=p.all r5&&decide ((p.length:Int)≤n)
theorem yL (p:List aa) (n:Int):kb p n=some (ER p n):=by
 unfold kb ER;rw [fq (fun j=>r5 (p.getD j ⟨0,[]⟩)) _ _ () (fun j u _ _=>by
  generalize p.getD j ⟨0,[]⟩=m;unfold r5;by_cases h10:m.Vars.length≤10
  ·rw [KN (show ¬ ((m.Vars.length:Nat):Int)>10 by omega),KO h10];simp only [cond_false,Bool.true_and];generalize hbd:(fun (s241:Int)=>_:Int→Option (eM Int Unit (eM Unit Unit Bool)))=body;have key:∀ (rest:List ai) (k fuel:Nat),m.Vars.drop k=rest→k+rest.length=m.Vars.length→rest.length<fuel→qG body fuel ((k:Nat):Int)=some (bif rest.all (fun v=>decide (v.length≤40)) then .brk () else .ret (.ret false)):=by
    intro rest;induction rest with
    | nil =>
     intro k fuel h1 h2 h3;obtain ⟨f,rfl⟩:∃ f,fuel=f+1:=⟨fuel-1,by simp at h3;omega⟩;have e0:body ((k:Nat):Int)=some (.brk ()):=by rw [← hbd];simp only;rw [KN (by simp at h2;omega)];rfl
     simp only [qG,e0,ah,oy];rfl
    | cons v rest ih =>
     intro k fuel h1 h2 h3;obtain ⟨f,rfl⟩:∃ f,fuel=f+1:=⟨fuel-1,by simp at h3;omega⟩;have hk:k<m.Vars.length:=by simp at h2;omega
     have h4:=drop_cons hk;rw [h1] at h4;have hv1:m.Vars.getD k []=v:=(List.cons.inj h4).1.symm;have hv2:m.Vars.drop (k+1)=rest:=(List.cons.inj h4).2.symm;have hw:aW (((k:Nat):Int)+1)=((k+1:Nat):Int):=by rw [av (by omega) (by omega)];omega
     have e0:body ((k:Nat):Int)=some (bif decide (v.length≤40) then .go ((k+1:Nat):Int) else .ret (.ret false)):=by
      rw [← hbd];simp only;rw [KO (by omega)];simp only [cond_true];rw [aq (by omega),Int.toNat_natCast,hv1,hw];by_cases hv:v.length≤40
      ·rw [KO hv,KN (by omega)];rfl
      ·rw [KN hv,KO (by omega)];rfl
     simp only [qG,e0,ah,List.all_cons];cases decide (v.length≤40) with
     | false=>rfl
     | true =>
      simp only [cond_true,Bool.true_and,oy];exact ih (k+1) f hv2 (by simp at h2;omega) (by simp at h3;omega)
   have hk0:qG body 4294967296 0=_:=key m.Vars 0 4294967296 (by rw [List.drop_zero]) (by omega) (by omega);rw [hk0];cases m.Vars.all (fun v=>decide (v.length≤40))<;>rfl
  ·rw [KO (show ((m.Vars.length:Nat):Int)>10 by omega),KN h10];rfl),gn,Ey r5 ⟨0,[]⟩ p]
 cases p.all r5<;>rfl
theorem GZ {p:List aa} {n:Int} (h:ER p n=true) (hn:n≤1000):Bd p:=by unfold ER at h;rw [KJ,KU,decide_eq_true_eq] at h;refine ⟨by omega,fun m hm => ?_⟩;have:=h.1 m hm;unfold r5 at this;rw [KJ,KU,decide_eq_true_eq] at this;exact ⟨by omega,fun v hv=>by have:=this.2 v hv;simp only [decide_eq_true_eq] at this;omega⟩
end Go.Proofs.YtadjhpbkknifeaaGreatDoor
namespace Go.Sh
theorem GJ {V σ ε β:Type} {m:List (ai×V)} {body:ai×V→σ→Option (eM σ ε β)} {K:σ→Prop} {J:β→Prop} (I:List Nat→σ→Prop) (ok:ai×V→Bool) (g:σ→ai×V→σ) (x:β) (hJ:J x)
 (hstep:∀ seen s i (h:i<m.length),seen.Nodup→i ∉ seen→(∀ j∈seen,j<m.length)→I seen s→body m[i] s=some (bif ok m[i] then .go (g s m[i]) else .ret x)∧I (seen++[i]) (g s m[i]))
 (hbad:∃ i,∃ h:i<m.length,ok m[i]=false) :
 ∀ (n:Nat) (seen:List Nat) (s:σ),seen.Nodup→(∀ i∈seen,i<m.length)→(∀ i∈seen,∀ h:i<m.length,ok m[i]=true)→n+seen.length=m.length→I seen s→MR m body K J n seen s
 | 0,seen,s,h1,h2,h4,h3,hI=>by
  obtain ⟨i,hi,hb⟩:=hbad;have hin:i∈seen:=by
   refine Classical.byContradiction fun hn => ?_;have:=ju (i::seen) (List.range m.length) (List.nodup_cons.2 ⟨hn,h1⟩) (fun x hx=>by
    rcases List.mem_cons.1 hx with rfl | hx
    ·simpa using hi
    ·simpa using h2 x hx)
   simp at this;omega
  rw [h4 i hin hi] at hb;cases hb
 | n+1,seen,s,h1,h2,h4,h3,hI=>by
  refine ⟨?_,fun i hi hn => ?_⟩
  ·refine Classical.byContradiction fun hn => ?_;have:=ju (List.range m.length) seen List.nodup_range (fun x hx=>Classical.byContradiction fun hx2=>hn ⟨x,by simpa using hx,hx2⟩);simp at this;omega
  ·obtain ⟨e1,e2⟩:=hstep seen s i hi h1 hn h2 hI;refine ⟨_,e1,?_⟩;cases hok:ok m[i] with
   | false=>exact hJ
   | true =>
    have hnd:(seen++[i]).Nodup:=by
     rw [List.nodup_append];exact ⟨h1,by simp,fun a ha b hb=>by
      have:b=i:=by simpa using hb
      subst this;intro e;subst e;exact hn ha⟩
    exact GJ I ok g x hJ hstep hbad n (seen++[i]) _ hnd (fun j hj=>by
     rcases List.mem_append.1 hj with hj | hj
     ·exact h2 j hj
     ·have:j=i:=by simpa using hj
      subst this;exact hi) (fun j hj h=>by
     rcases List.mem_append.1 hj with hj | hj
     ·exact h4 j hj h
     ·have:j=i:=by simpa using hj
      subst this;exact hok) (by simp;omega) e2
theorem Ck {seen:List Nat} {n:Nat} (h1:seen.Nodup) (h2:∀ i,i<n→i∈seen) (h3:∀ i∈seen,i<n):seen.Perm (List.range n) :=
 (List.perm_ext_iff_of_nodup h1 List.nodup_range).2 fun a=>⟨fun h=>List.mem_range.2 (h3 a h),fun h=>h2 a (List.mem_range.1 h)⟩
end Go.Sh
namespace Go.Proofs.YtadjhpbkknifeaaGreatDoor
open Go.Ab Go.Sh Go.Sort
section
variable {α:Type} (key:α→List ai)
def BC (x:α):List α→List α
 | []=>[x]
 | y::l=>bif decide (cmpL (key y) (key x)<0) then y::BC x l else x::y::l
def fG:List α→List α
 | []=>[]
 | x::l=>BC key x (fG l)
def wE (a b:α):Prop:=cmpL (key a) (key b)<0
theorem r8 (x:α):∀ l,(BC key x l).Perm (x::l)
 | []=>List.Perm.refl _
 | y::l=>by
  unfold BC;cases decide (cmpL (key y) (key x)<0) with
  | true=>exact ((r8 x l).cons y).trans (List.Perm.swap x y l)
  | false=>exact List.Perm.refl _
theorem da:∀ l,(fG key l).Perm l
 | []=>List.Perm.refl _
 | x::l=>(r8 key x _).trans ((da l).cons x)
theorem tG (x:α):∀ {l:List α},l.Pairwise (wE key)→(∀ y∈l,key y≠key x)→(BC key x l).Pairwise (wE key)
 | [],_,_=>by simp [BC]
 | y::l,h,hne=>by
  unfold BC;rw [List.pairwise_cons] at h;by_cases hlt:cmpL (key y) (key x)<0
  ·rw [KO hlt];simp only [cond_true];rw [List.pairwise_cons];refine ⟨fun z hz => ?_,tG x h.2 fun z hz=>hne z (by simp [hz])⟩;rcases List.mem_cons.1 ((r8 key x l).mem_iff.1 hz) with rfl | hz
   ·exact hlt
   ·exact h.1 z hz
  ·rw [KN hlt];simp only [cond_false];have hxy:wE key x y:=by have h0:cmpL (key y) (key x)≠0:=fun e=>hne y (by simp) (fX e);exact fQ.2 (by omega)
   rw [List.pairwise_cons];refine ⟨fun z hz => ?_,List.pairwise_cons.2 h⟩;rcases List.mem_cons.1 hz with rfl | hz
   ·exact hxy
   ·exact fF hxy (h.1 z hz)
theorem gi:∀ {l:List α},(l.map key).Nodup→(fG key l).Pairwise (wE key)
 | [],_=>by simp [fG]
 | x::l,h=>by rw [List.map_cons,List.nodup_cons] at h;refine tG key x (gi h.2) fun y hy e=>h.1 ?_;rw [← e];exact List.mem_map.2 ⟨y,(da key l).mem_iff.1 hy,rfl⟩
theorem EU {a b:α} (h1:wE key a b) (h2:wE key b a):a=b:=by have:=fF h1 h2;rw [gJ] at this;omega
theorem qA {a b:List α} (h1:a.Pairwise (wE key)) (h2:b.Pairwise (wE key)) (h:a.Perm b):a=b :=
 List.Perm.eq_of_pairwise (fun _ _ _ _=>EU key) h1 h2 h
theorem Fi {l:List α} (h:(l.map key).Nodup):jU (fun x y=>cmpL (key x) (key y)) l=fG key l:=by
 refine qA key ?_ (gi key h) ((List.mergeSort_perm l _).trans (da key l).symm);have hsw:=rp zZ key;have h1:(jU (fun x y=>cmpL (key x) (key y)) l).Pairwise (fun a b => !(ltOf (fun x y=>cmpL (key x) (key y)) b a)):=by
  refine List.pairwise_mergeSort (fun a b c hab hbc => ?_) (fun a b => ?_) l
  ·simp only [Bool.not_eq_true'] at *;exact hsw.ntrans _ _ _ hbc hab
  ·cases h2:ltOf (fun x y=>cmpL (key x) (key y)) b a with
   | false=>rfl
   | true =>
    cases h3:ltOf (fun x y=>cmpL (key x) (key y)) a b with
    | false=>rfl
    | true=>have:=hsw.trans _ _ _ h2 h3;rw [hsw.irrefl] at this;cases this
 have hnd:((jU (fun x y=>cmpL (key x) (key y)) l).map key).Nodup:=((List.mergeSort_perm l _).map key).nodup_iff.2 h;have h2:(jU (fun x y=>cmpL (key x) (key y)) l).Pairwise (fun a b=>key a≠key b):=List.pairwise_map.1 hnd;refine (h1.and h2).imp fun {a b} ⟨k1,k2⟩ => ?_;have k3:¬ cmpL (key b) (key a)<0:=by simpa [ltOf] using k1
 have k4:cmpL (key b) (key a)≠0:=fun e=>k2 (fX e).symm;exact fQ.2 (by omega)
theorem yK {a b:List α} (h:a.Perm b) (hb:(b.map key).Nodup):fG key a=fG key b :=
 qA key (gi key ((h.map key).nodup_iff.2 hb)) (gi key hb) ((da key a).trans (h.trans (da key b).symm))
end
abbrev MV:=List (ai×List ai)
abbrev MI:=List (ai×List Int)
def yV (x1 x2:MI) (e:ai×List ai):Int×Int:=kM (dy [] e.1 x1) (dy [] e.1 x2)
def mq (x1 x2:MI) (e:ai×List ai):Bool:=(yV x1 x2 e).2==0
def jl (x1 x2:MI) (e:ai×List ai):List aa:=bif (yV x1 x2 e).1==0 then [] else [⟨(yV x1 x2 e).1,e.2⟩]
def nS (x0:MV) (x1 x2:MI):List aa:=(x0.map (jl x1 x2)).flatten
def Gm (x0:MV) (x1 x2:MI):List aa×Int :=
 bif x0.all (mq x1 x2) then (bif aA (fG aa.Vars (nS x0 x1 x2)) then (fG aa.Vars (nS x0 x1 x2),0) else ([],3)) else ([],3)
theorem qy {x1 x2:MI} {e:ai×List ai} {m:aa} (h:m∈jl x1 x2 e):m.Vars=e.2:=by
 unfold jl at h;cases hz:(yV x1 x2 e).1==0 with
 | true=>rw [hz] at h;cases h
 | false=>rw [hz] at h;simp only [cond_false,List.mem_singleton] at h;rw [h]
theorem xQ (x1 x2:MI) (e:ai×List ai):(jl x1 x2 e).length≤1:=by unfold jl;cases (yV x1 x2 e).1==0<;>simp
theorem xB (x1 x2:MI):∀ (x0:MV),(x0.map (·.2)).Nodup→((nS x0 x1 x2).map aa.Vars).Nodup
 | [],_=>by simp [nS]
 | e::x0,h=>by
  rw [List.map_cons,List.nodup_cons] at h;have ih:=xB x1 x2 x0 h.2;unfold nS at *;rw [List.map_cons,List.flatten_cons,List.map_append,List.nodup_append];refine ⟨?_,ih,?_⟩
  ·unfold jl;cases (yV x1 x2 e).1==0<;>simp
  ·rintro a ha b hb rfl;obtain ⟨m,hm,rfl⟩:=List.mem_map.1 ha;obtain ⟨m',hm',e2⟩:=List.mem_map.1 hb;obtain ⟨l,hl,hml⟩:=List.mem_flatten.1 hm';obtain ⟨e',he',rfl⟩:=List.mem_map.1 hl;rw [qy hm,qy hml] at e2;exact h.1 (List.mem_map.2 ⟨e',he',e2⟩)
theorem vR (x1 x2:MI):∀ (x0:MV),(nS x0 x1 x2).length≤x0.length
 | []=>by simp [nS]
 | e::x0=>by have ih:=vR x1 x2 x0;have h1:=xQ x1 x2 e;unfold nS at *;rw [List.map_cons,List.flatten_cons,List.length_append,List.length_cons];omega
def EZ (x0:MV) (i:Nat):ai×List ai:=x0.getD i ([],[])
theorem EC (x0:MV):(List.range x0.length).map (EZ x0)=x0:=by refine List.ext_getElem (by simp) fun i h1 h2=>by simp [EZ,KH,h2]
theorem Fg {x0:MV} {i:Nat} (h:i<x0.length):EZ x0 i=x0[i]:=by simp [EZ,KH,h]
theorem sS (x0:MV) (x1 x2:MI) (h1:(x0.map (·.2)).Nodup) (hn:x0.length≤1000000) (hb:∀ e∈x0,e.2.length≤1000000∧∀ v∈e.2,v.length≤1000000):cr x0 x1 x2=some (Gm x0 x1 x2):=by
 unfold cr Gm;have hbody:∀ (e:ai×List ai) (s:List aa),s.length≤1000000→((gv (dy [] e.1 x1) (dy [] e.1 x2)).bind fun y109=>bif (y109.2==0) then (bif (y109.1==0) then (some (.go s):Option (eM (List aa) Empty (List aa×Int))) else (bR ((s.length+1)*32≤140737488355328) <| some (.go (s++[(aa.mk y109.1 e.2)])))) else (some (.ret ([],3))))=some (bif mq x1 x2 e then .go (s++jl x1 x2 e) else .ret ([],3)):=fun e s hs=>by
  rw [vM];simp only [ah];unfold mq jl yV;generalize kM (dy [] e.1 x1) (dy [] e.1 x2)=c;cases c.2==0 with
  | false=>rfl
  | true =>
   cases c.1==0 with
   | true=>simp
   | false =>
    simp only [cond_true,cond_false];rw [aq (by omega)]
 have hIlen:∀ (seen:List Nat),seen.Nodup→(∀ j∈seen,j<x0.length)→((seen.map fun i=>jl x1 x2 (EZ x0 i)).flatten).length≤1000000:=fun seen k1 k2=>by
  have h3:=ju seen (List.range x0.length) k1 (fun x hx=>List.mem_range.2 (k2 x hx));rw [List.length_range] at h3;have h4:∀ l:List Nat,((l.map fun i=>jl x1 x2 (EZ x0 i)).flatten).length≤l.length:=by
   intro l;induction l with
   | nil=>simp
   | cons a l ih =>
    have:=xQ x1 x2 (EZ x0 a);rw [List.map_cons,List.flatten_cons,List.length_append,List.length_cons];omega
  have:=h4 seen;omega
 cases hall:x0.all (mq x1 x2) with
 | true =>
  simp only [cond_true];have hok:∀ i (h:i<x0.length),mq x1 x2 x0[i]=true:=fun i h=>KU.1 hall _ (List.getElem_mem h);refine Aw (IP (fun seen s=>s=(seen.map fun i=>jl x1 x2 (EZ x0 i)).flatten) (fun s e=>s++jl x1 x2 e) (fun seen s i h k1 k2 k3 hI => ?_) (fun seen s k1 k2 k3 hI => ?_) x0.length [] [] List.nodup_nil (fun i hi=>by cases hi) (by simp) rfl)
  ·refine ⟨?_,?_⟩
   ·rw [hbody _ _ (by rw [hI];exact hIlen seen k1 k3),hok i h];rfl
   ·rw [hI,List.map_append,List.flatten_append];simp [Fg h]
  ·have hp:=((Ck k1 k2 k3).map fun i=>jl x1 x2 (EZ x0 i)).flatten;rw [← hI] at hp;have e1:((List.range x0.length).map fun i=>jl x1 x2 (EZ x0 i)).flatten=nS x0 x1 x2:=by
    unfold nS;conv=>rhs;rw [← EC x0]
    rw [List.map_map];rfl
   rw [e1] at hp;have hk:=xB x1 x2 x0 h1;have hs:ka (fun x=>x.Vars) s=some (fG aa.Vars (nS x0 x1 x2)):=by have hnd:=(hp.map aa.Vars).nodup_iff.2 hk;have hlen:=hp.length_eq;have hl2:=vR x1 x2 x0;unfold ka;rw [aq ⟨by omega,hnd⟩];exact congrArg some ((Fi aa.Vars hnd).trans (yK aa.Vars hp hk))
   show ((ka (fun x=>x.Vars) s).bind fun y91=>(bp y91).bind fun y94=>bif y94 then some (y91,0) else some ([],3))=_;rw [hs];simp only [ah];have hBd:Bd (fG aa.Vars (nS x0 x1 x2)):=by
    refine ⟨?_,fun m hm => ?_⟩
    ·have:=(da aa.Vars (nS x0 x1 x2)).length_eq;have hl2:=vR x1 x2 x0;omega
    ·have hm:=(da aa.Vars (nS x0 x1 x2)).mem_iff.1 hm;unfold nS at hm;obtain ⟨l,hl,hml⟩:=List.mem_flatten.1 hm;obtain ⟨e',he',rfl⟩:=List.mem_map.1 hl;rw [qy hml];exact hb e' he'
   rw [cp _ hBd];simp only [ah];cases aA (fG aa.Vars (nS x0 x1 x2))<;>rfl
 | false =>
  have hbad:∃ i,∃ h:i<x0.length,mq x1 x2 x0[i]=false:=by
   have:¬ (x0.all (mq x1 x2)=true):=by rw [hall];simp
   rw [KU] at this;refine Classical.byContradiction fun hn=>this fun e he => ?_;obtain ⟨i,hi,rfl⟩:=List.getElem_of_mem he;cases hq:mq x1 x2 x0[i] with
   | true=>rfl
   | false=>exact absurd ⟨i,hi,hq⟩ hn
  rw [cond_false];refine Aw (GJ (J:=fun x=>x=(([],3):List aa×Int)) (fun seen s=>s=(seen.map fun i=>jl x1 x2 (EZ x0 i)).flatten) (mq x1 x2) (fun s e=>s++jl x1 x2 e) ([],3) rfl (fun seen s i h k1 k2 k3 hI => ?_) hbad x0.length [] [] List.nodup_nil (fun i hi=>by cases hi) (fun i hi=>by cases hi) (by simp) rfl);refine ⟨hbody _ _ (by rw [hI];exact hIlen seen k1 k3),?_⟩;rw [hI,List.map_append,List.flatten_append];simp [Fg h]
end Go.Proofs.YtadjhpbkknifeaaGreatDoor
namespace Go.Sh
open Go.Ab
section
variable {V:Type}
theorem oq (d:V) (x y:ai) (v:V):∀ m:List (ai×V),dy d y (dn x v m)=if x=y then v else dy d y m
 | []=>by simp [dn,dy]
 | (k,u)::m=>by
  by_cases h:k=x
  ·subst h;simp only [dn,dy,if_pos];by_cases h2:k=y
   ·simp [h2]
   ·simp [h2]
  ·simp only [dn,if_neg h,dy];rw [oq d x y v m];by_cases h2:k=y
   ·subst h2;simp [Ne.symm h]
   ·simp [h2]
theorem vb (x:ai) (v:V):∀ m:List (ai×V),(dn x v m).map (·.1)=if x∈m.map (·.1) then m.map (·.1) else m.map (·.1)++[x]
 | []=>by simp [dn]
 | (k,u)::m=>by
  by_cases h:k=x
  ·subst h;simp [dn]
  ·simp only [dn,if_neg h,List.map_cons,vb x v m,List.mem_cons,Ne.symm h,false_or];split<;>simp
theorem D9 {x:ai} {v:V} {m:List (ai×V)} (h:(m.map (·.1)).Nodup):((dn x v m).map (·.1)).Nodup:=by
 rw [vb];split
 ·exact h
 ·rename_i hx;rw [List.nodup_append];refine ⟨h,by simp,fun a ha b hb => ?_⟩;have:b=x:=by simpa using hb
  subst this;intro e;subst e;exact hx ha
theorem zn (x:ai) (v:V) (m:List (ai×V)):(dn x v m).length≤m.length+1:=by have:=congrArg List.length (vb x v m);rw [KP] at this;rw [this];split<;>simp
theorem Dd {x:ai} {v:V} {e:ai×V}:∀ {m:List (ai×V)},e∈dn x v m→e=(x,v)∨e∈m
 | [],h=>by simp [dn] at h;exact .inl h
 | (k,u)::m,h=>by
  by_cases hk:k=x
  ·simp only [dn,if_pos hk,List.mem_cons] at h;rcases h with h | h
   ·exact .inl h
   ·exact .inr (by simp [h])
  ·simp only [dn,if_neg hk,List.mem_cons] at h;rcases h with h | h
   ·exact .inr (by simp [h])
   ·rcases Dd h with h | h
    ·exact .inl h
    ·exact .inr (by simp [h])
theorem yY (x:ai) (v:V):∀ m:List (ai×V),(x,v)∈dn x v m
 | []=>by simp [dn]
 | (k,u)::m=>by
  by_cases hk:k=x
  ·simp [dn,hk]
  ·simp only [dn,if_neg hk,List.mem_cons];exact .inr (yY x v m)
theorem Dy {x:ai} {v:V} {e:ai×V} (hne:e.1≠x):∀ {m:List (ai×V)},e∈m→e∈dn x v m
 | [],h=>by cases h
 | (k,u)::m,h=>by
  by_cases hk:k=x
  ·simp only [dn,if_pos hk,List.mem_cons] at h ⊢;rcases h with h | h
   ·exact absurd (by rw [h];exact hk) hne
   ·exact .inr h
  ·simp only [dn,if_neg hk,List.mem_cons] at h ⊢;rcases h with h | h
   ·exact .inl h
   ·exact .inr (Dy hne h)
end
def jn:List ai→ai
 | []=>[]
 | [x]=>x
 | x::y::l=>x++42::jn (y::l)
theorem Dp:∀ l:List ai,Lib.join l [42]=jn l
 | []=>rfl
 | [x]=>by simp [jn,Lib.join,List.intercalate]
 | x::y::l=>by have ih:=Dp (y::l);simp only [jn,← ih];simp [Lib.join,List.intercalate,List.intersperse]
def Kn (v:ai):Prop:=v≠[]∧(42:UInt8) ∉ v
theorem CO:∀ {x y r s:ai},(42:UInt8) ∉ x→(42:UInt8) ∉ y→x++42::r=y++42::s→x=y∧r=s
 | [],[],r,s,_,_,h=>by simpa using h
 | [],b::y,r,s,_,hy,h=>by
  simp only [List.nil_append,List.cons_append,List.cons.injEq] at h;exact absurd (by rw [h.1];simp) hy
 | a::x,[],r,s,hx,_,h=>by
  simp only [List.nil_append,List.cons_append,List.cons.injEq] at h;exact absurd (by rw [← h.1];simp) hx
 | a::x,b::y,r,s,hx,hy,h=>by simp only [List.cons_append,List.cons.injEq] at h;obtain ⟨e1,e2⟩:=CO (fun k=>hx (by simp [k])) (fun k=>hy (by simp [k])) h.2;exact ⟨by rw [h.1,e1],e2⟩
theorem Aa {x y r:ai} (hy:(42:UInt8) ∉ y) (h:x++42::r=y):False:=hy (by rw [← h];simp)
theorem G0:∀ {l m:List ai},(∀ v∈l,Kn v)→(∀ v∈m,Kn v)→jn l=jn m→l=m
 | [],[],_,_,_=>rfl
 | [],[y],_,hm,h=>absurd h.symm (hm y (by simp)).1
 | [],y::z::m,_,_,h=>by
  have:([]:ai)=y++42::jn (z::m):=h;exact absurd (congrArg List.length this) (by simp)
 | [x],[],hl,_,h=>absurd h (hl x (by simp)).1
 | x::y::l,[],_,_,h=>by
  have:x++42::jn (y::l)=([]:ai):=h;exact absurd (congrArg List.length this) (by simp)
 | [x],[y],_,_,h=>by rw [show x=y from h]
 | [x],y::z::m,hl,_,h=>(Aa (hl x (by simp)).2 (show y++42::jn (z::m)=x from h.symm)).elim
 | x::y::l,[z],_,hm,h=>(Aa (hm z (by simp)).2 (show x++42::jn (y::l)=z from h)).elim
 | x::y::l,z::w::m,hl,hm,h=>by obtain ⟨e1,e2⟩:=CO (hl x (by simp)).2 (hm z (by simp)).2 (show x++42::jn (y::l)=z++42::jn (w::m) from h);rw [e1,G0 (fun v hv=>hl v (by simp [hv])) (fun v hv=>hm v (by simp [hv])) e2]
theorem G4:∀ {l:List ai} {k:Nat},(∀ v∈l,v.length≤k)→(jn l).length≤l.length*(k+1)
 | [],k,_=>by simp [jn]
 | [x],k,h=>by have:=h x (by simp);simp [jn];omega
 | x::y::l,k,h=>by
  have h1:=h x (by simp);have ih:=G4 (l:=y::l) (k:=k) (fun v hv=>h v (by simp [hv]));have e:(jn (x::y::l)).length=x.length+(jn (y::l)).length+1:=by simp [jn];omega
  rw [e,List.length_cons,Nat.add_mul];omega
end Go.Sh
namespace Go.Proofs.YtadjhpbkknifeaaGreatDoor
open Go.Ab Go.Sh Go.Sort
def kU (xs:List ai):Option (List ai):=bR (xs.length*16≤140737488355328) <| some (bV xs)
theorem xz:gE=kU:=funext fun xs=>by unfold gE kU;rw [uV]
def BI (x0:(List ai)) (x1:Int) (x2:Int) (x3:MV) (x4:MI) (x5:MI):Option (MV×MI×MI) :=
 (jw x0).bind fun y18 =>
 (kU y18).bind fun y21 =>
 (jq y21 [42]).bind fun y24 =>
 bR (((dy [] y24 x4).length+[x1].length)*8≤140737488355328) <|
 bR (((dy [] y24 x5).length+[x2].length)*8≤140737488355328) <|
 bR (x4.length+1<1000000) <|
 bR (x5.length+1<1000000) <|
 some ((dn y24 y21 x3),(dn y24 ((dy [] y24 x4)++[x1]) x4),(dn y24 ((dy [] y24 x5)++[x2]) x5))
theorem GU:b7=BI:=by funext x0 x1 x2 x3 x4 x5;unfold b7 BI;rw [xz]
def DK (x0:Linear):Option (MV×MI×MI) :=
 (eS x0).bind fun y1=>bif y1 then (
  (BI [] x0.Const 1 [] [] []).bind fun y11 =>
  (cV (σ:=(MI×MI×MV)) (ε:=(MI×MI×MV)) (ρ:=Empty) (fun i37 s36 =>
   (BI [((x0.Terms.getD i37 ⟨[],0⟩).Var)] ((x0.Terms.getD i37 ⟨[],0⟩).C) 1 s36.2.2 s36.1 s36.2.1).bind fun y62 =>
   some (.go (y62.2.1,y62.2.2,y62.1))
  ) (fun i37 s36=>(s36.1,s36.2.1,s36.2.2)) (x0.Terms.length-0) 0 (y11.2.1,y11.2.2,y11.1)).bind <| dJ fun u70 =>
  some (u70.2.2,u70.1,u70.2.1)) else none
def Dz (x0:MV):Prop:=(x0.map (·.2)).Nodup∧x0.length≤1000000∧∀ e∈x0,e.2.length≤1000000∧∀ v∈e.2,v.length≤1000000
theorem GF {x0:Linear} {M:MV×MI×MI} (h:DK x0=some M) (hg:Dz M.1):dT x0=some (Gm M.1 M.2.1 M.2.2):=by
 unfold DK at h;unfold dT;rw [GU];cases h1:eS x0 with
 | none=>rw [h1] at h;cases h
 | some b =>
  rw [h1] at h;cases b with
  | false=>cases h
  | true =>
   simp only [Option.bind_some,cond_true] at h ⊢;rw [show cX=some ([],[],[]) from rfl];simp only [Option.bind_some];cases h2:BI [] x0.Const 1 [] [] [] with
   | none=>rw [h2] at h;cases h
   | some y =>
    rw [h2] at h;simp only [Option.bind_some] at h ⊢;generalize cV (σ:=(MI×MI×MV)) (ε:=(MI×MI×MV)) (ρ:=Empty) (fun i37 s36 =>
     (BI [((x0.Terms.getD i37 ⟨[],0⟩).Var)] ((x0.Terms.getD i37 ⟨[],0⟩).C) 1 s36.2.2 s36.1 s36.2.1).bind fun y62 =>
     some (.go (y62.2.1,y62.2.2,y62.1))
    ) (fun i37 s36=>(s36.1,s36.2.1,s36.2.2)) (x0.Terms.length-0) 0 (y.2.1,y.2.2,y.1)=o at h ⊢
    cases o with
    | none=>cases h
    | some o =>
     cases o with
     | ret e=>cases e
     | brk u =>
      have h:some (u.2.2,u.1,u.2.1)=some M:=h;cases h;show ((cr u.2.2 u.1 u.2.1).bind fun y73=>some (y73.1,y73.2))=_;rw [sS _ _ _ hg.1 hg.2.1 hg.2.2];rfl
def GX (x0:aa) (x1:aa) (x2:MV) (x3:MI) (x4:MI):Option (MV×MI×MI) :=
 (gC [x0.Vars,x1.Vars]).bind fun y7=>(BI y7 x0.Coef x1.Coef x2 x3 x4).bind fun y10=>some (y10.1,y10.2.1,y10.2.2)
def vI (x0:(List aa)) (x1:(List aa)) (x2:MV) (x3:MI) (x4:MI):Option (MV×MI×MI) :=
 (cV (σ:=(MV×MI×MI)) (ε:=(MV×MI×MI)) (ρ:=(MV×MI×MI)) (fun i303 s302 =>
  (cV (σ:=(MV×MI×MI)) (ε:=(MV×MI×MI)) (ρ:=Empty) (fun i341 s340 =>
   (GX (aa.mk ((x0.getD i303 ⟨0,[]⟩).Coef) ((x0.getD i303 ⟨0,[]⟩).Vars)) (aa.mk ((x1.getD i341 ⟨0,[]⟩).Coef) ((x1.getD i341 ⟨0,[]⟩).Vars)) s340.1 s340.2.1 s340.2.2).bind fun y366 =>
   some (.go (y366.1,y366.2.1,y366.2.2))
  ) (fun i341 s340=>(s340.1,s340.2.1,s340.2.2)) (x1.length-0) 0 (s302.1,s302.2.1,s302.2.2)).bind <| dJ fun u374 =>
  some (.go (u374.1,u374.2.1,u374.2.2))
 ) (fun i303 s302=>(s302.1,s302.2.1,s302.2.2)) (x0.length-0) 0 (x2,x3,x4)).bind <| Sh.aft some
theorem Fh:bq=vI:=by
 have h:ep=GX:=by funext x0 x1 x2 x3 x4;unfold ep GX;rw [GU]
 funext x0 x1 x2 x3 x4;unfold bq vI;rw [h]
theorem De {a b:List aa} {M:MV×MI×MI} (h:vI a b [] [] []=some M) (hg:Dz M.1):fc a b=some (Gm M.1 M.2.1 M.2.2):=by unfold fc;rw [show cX=some ([],[],[]) from rfl];simp only [Option.bind_some];rw [Fh,h];simp only [Option.bind_some];rw [sS _ _ _ hg.1 hg.2.1 hg.2.2];rfl
def Jk:Linear:=Linear.mk (-1) [Coef.mk [110] 1]
def Jw:Linear:=Linear.mk 1 [Coef.mk [110] 1]
theorem I0:DK Jk=some ([([],[]),([110],[[110]])],[([],[-1]),([110],[1])],[([],[1]),([110],[1])]):=by kernel_rfl
theorem JM:DK Jw=some ([([],[]),([110],[[110]])],[([],[1]),([110],[1])],[([],[1]),([110],[1])]):=by kernel_rfl
theorem F0:Dz [([],[]),([110],[[110]])]:=⟨by decide,by decide,by decide⟩
theorem KF:dT Jk=some ([⟨-1,[]⟩,⟨1,[[110]]⟩],0):=by rw [GF I0 F0];kernel_rfl
theorem KE:dT Jw=some ([⟨1,[]⟩,⟨1,[[110]]⟩],0):=by rw [GF JM F0];kernel_rfl
theorem Iv:vI [⟨1,[]⟩] [⟨-1,[]⟩,⟨1,[[110]]⟩] [] [] []=some ([([],[]),([110],[[110]])],[([],[1]),([110],[1])],[([],[-1]),([110],[1])]):=by kernel_rfl
theorem Kt:fc [⟨1,[]⟩] [⟨-1,[]⟩,⟨1,[[110]]⟩]=some ([⟨-1,[]⟩,⟨1,[[110]]⟩],0):=by rw [De Iv F0];kernel_rfl
theorem HX:vI [⟨-1,[]⟩,⟨1,[[110]]⟩] [⟨1,[]⟩,⟨1,[[110]]⟩] [] [] []=some ([([],[]),([110],[[110]]),([110,42,110],[[110],[110]])],[([],[-1]),([110],[-1,1]),([110,42,110],[1])],[([],[1]),([110],[1,1]),([110,42,110],[1])]):=by kernel_rfl
theorem Kh:Dz [([],[]),([110],[[110]]),([110,42,110],[[110],[110]])]:=⟨by decide,by decide,by decide⟩
theorem Kw:fc [⟨-1,[]⟩,⟨1,[[110]]⟩] [⟨1,[]⟩,⟨1,[[110]]⟩]=some ([⟨-1,[]⟩,⟨1,[[110],[110]]⟩],0):=by rw [De HX Kh];kernel_rfl
theorem Cg:gX [Jk,Jw]=some ([⟨-1,[]⟩,⟨1,[[110],[110]]⟩],0):=by unfold gX;simp only [List.length_cons,List.length_nil,Nat.zero_add,Nat.sub_zero,Nat.reduceAdd,cV,List.getD_cons_zero,List.getD_cons_succ];rw [show (Linear.mk Jk.Const Jk.Terms)=Jk from rfl,show (Linear.mk Jw.Const Jw.Terms)=Jw from rfl,KF,KE];simp only [Option.bind_some,oy,Sh.aft,beq_self_eq_true,cond_true,List.nil_append];rw [aq (by decide)];simp only [Option.bind_some,oy,Sh.aft,beq_self_eq_true,cond_true,List.nil_append,List.cons_append];rw [aq (by decide)];simp only [Option.bind_some,oy,Sh.aft,List.length_cons,List.length_nil,Nat.zero_add,Nat.sub_zero,Nat.reduceAdd,cV,List.getD_cons_zero,List.getD_cons_succ,Kt,beq_self_eq_true,cond_true];rw [Kw];simp only [Option.bind_some,oy,Sh.aft,beq_self_eq_true,cond_true]
theorem GV:nb [50,42,109,42,110,94,50]=some ([⟨2,[[109],[110],[110]]⟩],0):=by kernel_rfl
theorem Ht:dx [⟨2,[[109],[110],[110]]⟩] [(Value.mk [109] 3),(Value.mk [110] (-1))]=some (6,0):=by kernel_rfl
theorem GI:ke [⟨-1,[]⟩,⟨1,[[110],[110]]⟩]=some [45,49,43,110,94,50]:=by kernel_rfl
theorem FM:bp [⟨2,[[109],[110],[110]]⟩]=some true:=by kernel_rfl
theorem Ee:kX [⟨2,[[109],[110],[110]]⟩]=some 3:=by kernel_rfl
theorem rP:jb=some true:=by unfold jb;rw [show [(Linear.mk (-1) [(Coef.mk [110] 1)]),(Linear.mk 1 [(Coef.mk [110] 1)])]=[Jk,Jw] from rfl,Cg,GV];simp only [Option.bind_some];rw [Ht];simp only [Option.bind_some];rw [GI,FM,Ee];rfl
abbrev jA:=List ai×Int×Int
def aK:List jA→List ai→Int
 | [],_=>0
 | c::L,V=>(if c.1=V then c.2.1*c.2.2 else 0)+aK L V
theorem il:∀ (L M:List jA) (V:List ai),aK (L++M) V=aK L V+aK M V
 | [],M,V=>by simp [aK]
 | c::L,M,V=>by simp only [List.cons_append,aK,il L M V];omega
def oA (L:List jA) (V:List ai):List Int:=(L.filter fun c=>decide (c.1=V)).map fun c=>c.2.1
def qC (L:List jA) (V:List ai):List Int:=(L.filter fun c=>decide (c.1=V)).map fun c=>c.2.2
theorem sj (f:Nat→Int):∀ n,nR f (n+1)=f 0+nR (fun i=>f (i+1)) n
 | 0=>by simp [nR]
 | n+1=>by have:=sj f n;rw [show nR f (n+1+1)=nR f (n+1)+f (n+1) from rfl,this];rw [show nR (fun i=>f (i+1)) (n+1)=nR (fun i=>f (i+1)) n+f (n+1) from rfl];omega
theorem rW:∀ (L:List jA) (V:List ai),nR (nT (oA L V) (qC L V)) (oA L V).length=aK L V
 | [],V=>rfl
 | c::L,V=>by
  have ih:=rW L V;by_cases h:c.1=V
  ·have e1:oA (c::L) V=c.2.1::oA L V:=by simp [oA,h]
   have e2:qC (c::L) V=c.2.2::qC L V:=by simp [qC,h]
   rw [e1,e2,List.length_cons,sj];have e3:(fun i=>nT (c.2.1::oA L V) (c.2.2::qC L V) (i+1))=nT (oA L V) (qC L V):=by funext i;simp [nT]
   rw [e3,ih];simp [aK,h,nT]
  ·have e1:oA (c::L) V=oA L V:=by simp [oA,h]
   have e2:qC (c::L) V=qC L V:=by simp [qC,h]
   rw [e1,e2,ih];simp [aK,h]
theorem sE {L:List jA} {V:List ai} (h:aK L V≠0):∃ c∈L,c.1=V:=by
 induction L with
 | nil=>exact absurd rfl h
 | cons c L ih =>
  by_cases hc:c.1=V
  ·exact ⟨c,by simp,hc⟩
  ·have:aK L V≠0:=by simpa [aK,hc] using h
   obtain ⟨c',h1,h2⟩:=ih this;exact ⟨c',by simp [h1],h2⟩
def DB (V:List ai):Prop:=V.length≤1000∧∀ v∈V,Kn v∧v.length≤1000
def CI (c:jA):Prop:=DB c.1∧ct c.2.1=true∧ct c.2.2=true
structure im (L:List jA) (x3:MV) (x4 x5:MI):Prop where
 e1:∀ e∈x3,e.1=jn e.2∧∃ c∈L,c.1=e.2
 e2:∀ c∈L,(jn c.1,c.1)∈x3
 nd:(x3.map (·.1)).Nodup
 ma:∀ V,DB V→dy [] (jn V) x4=oA L V
 mb:∀ V,DB V→dy [] (jn V) x5=qC L V
 l3:x3.length≤L.length
 l4:x4.length≤L.length
 l5:x5.length≤L.length
theorem im.nil:im [] [] [] []:=⟨fun e he=>(by cases he),fun c hc=>(by cases hc),by simp,fun V _=>rfl,fun V _=>rfl,by simp,by simp,by simp⟩
theorem BN {V W:List ai} (hV:DB V) (hW:DB W) (h:jn V=jn W):V=W:=G0 (fun v hv=>(hV.2 v hv).1) (fun v hv=>(hW.2 v hv).1) h
theorem qY (L:List jA) (V:List ai):(oA L V).length≤L.length:=by unfold oA;rw [KP];exact List.length_filter_le _ _
theorem tT (L:List jA) (V:List ai):(qC L V).length=(oA L V).length:=by unfold oA qC;rw [KP,KP]
theorem vV {V:List ai} (h:DB V):DB (bV V):=⟨by rw [(iJ V).length_eq];exact h.1,fun v hv=>h.2 v ((iJ V).mem_iff.1 hv)⟩
theorem tU {L:List jA} {x3:MV} {x4 x5:MI} (h:im L x3 x4 x5) (hL:∀ c∈L,CI c) (hn:L.length≤900000) {V0:List ai} {a b:Int} (hV:DB V0) :
 ∃ y,b7 V0 a b x3 x4 x5=some y∧im (L++[(bV V0,a,b)]) y.1 y.2.1 y.2.2:=by
 have hS:=vV hV;refine ⟨(dn (jn (bV V0)) (bV V0) x3,dn (jn (bV V0)) (oA L (bV V0)++[a]) x4,dn (jn (bV V0)) (qC L (bV V0)++[b]) x5),?_,?_⟩
 ·unfold b7;have e1:jw V0=some V0:=rfl;have e2:gE V0=some (bV V0):=by rw [xz];unfold kU;rw [aq (by have:=hV.1;omega)]
  have e3:jq (bV V0) [42]=some (jn (bV V0)):=by unfold jq;rw [Dp];have h1:=G4 (l:=bV V0) (k:=1000) (fun v hv=>(hS.2 v hv).2);have h2:=hS.1;have h3:(bV V0).length*(1000+1)≤1000*1001:=Nat.mul_le_mul_right _ h2;rw [aq ⟨by omega,by omega⟩]
  rw [e1];simp only [ah];rw [e2];simp only [ah];rw [e3];simp only [ah];rw [h.ma _ hS,h.mb _ hS];have l1:=qY L (bV V0);have l2:=tT L (bV V0);have l4:=h.l4;have l5:=h.l5;rw [aq (by simp;omega),aq (by simp;omega),aq (by omega),aq (by omega)]
 ·refine ⟨fun e he => ?_,fun c hc => ?_,D9 h.nd,fun V hV2 => ?_,fun V hV2 => ?_,?_,?_,?_⟩
  ·rcases Dd he with rfl | he
   ·exact ⟨rfl,(bV V0,a,b),by simp,rfl⟩
   ·obtain ⟨k1,c,k2,k3⟩:=h.e1 e he;exact ⟨k1,c,by simp [k2],k3⟩
  ·rcases List.mem_append.1 hc with hc | hc
   ·by_cases hj:jn c.1=jn (bV V0)
    ·have:=BN (hL c hc).1 hS hj;rw [this];exact yY _ _ _
    ·exact Dy hj (h.e2 c hc)
   ·have:c=(bV V0,a,b):=by simpa using hc
    rw [this];exact yY _ _ _
  ·show dy [] (jn V) (dn (jn (bV V0)) (oA L (bV V0)++[a]) x4)=_;rw [oq];by_cases hj:jn (bV V0)=jn V
   ·rw [if_pos hj];have:=BN hS hV2 hj;subst this;simp [oA]
   ·rw [if_neg hj,h.ma V hV2];have:¬ bV V0=V:=fun e=>hj (by rw [e]);simp [oA,this]
  ·show dy [] (jn V) (dn (jn (bV V0)) (qC L (bV V0)++[b]) x5)=_;rw [oq];by_cases hj:jn (bV V0)=jn V
   ·rw [if_pos hj];have:=BN hS hV2 hj;subst this;simp [qC]
   ·rw [if_neg hj,h.mb V hV2];have:¬ bV V0=V:=fun e=>hj (by rw [e]);simp [qC,this]
  ·have:=zn (jn (bV V0)) (bV V0) x3;have:=h.l3;simp;omega
  ·have:=zn (jn (bV V0)) (oA L (bV V0)++[a]) x4;have:=h.l4;simp;omega
  ·have:=zn (jn (bV V0)) (qC L (bV V0)++[b]) x5;have:=h.l5;simp;omega
structure bK (f:List ai→Int) (p:List aa):Prop where
 st:p.Pairwise (wE aa.Vars)
 mem:∀ m,m∈p↔(m.Coef≠0∧m.Coef=f m.Vars)
theorem pd {p:List aa} (h:p.Pairwise (wE aa.Vars)):p.Nodup:=h.imp fun {a b} hab e=>by subst e;unfold wE at hab;rw [gJ] at hab;omega
theorem bK.uniq {f:List ai→Int} {p q:List aa} (hp:bK f p) (hq:bK f q):p=q :=
 qA aa.Vars hp.st hq.st ((List.perm_ext_iff_of_nodup (pd hp.st) (pd hq.st)).2 fun m=>by rw [hp.mem,hq.mem])
def limited (p:List aa):List aa×Int:=bif aA p then (p,0) else ([],3)
def lr (L:List jA) (x3:MV):List aa:=(x3.map fun e=>bif aK L e.2==0 then [] else [aa.mk (aK L e.2) e.2]).flatten
theorem qX {L:List jA} {x3:MV} {m:aa}:m∈lr L x3↔∃ e∈x3,aK L e.2≠0∧m=⟨aK L e.2,e.2⟩:=by
 unfold lr;rw [List.mem_flatten];constructor
 ·rintro ⟨l,hl,hm⟩;obtain ⟨e,he,rfl⟩:=List.mem_map.1 hl;cases hz:aK L e.2==0 with
  | true=>rw [hz] at hm;cases hm
  | false =>
   rw [hz] at hm;simp only [cond_false,List.mem_singleton] at hm;exact ⟨e,he,by simpa using hz,hm⟩
 ·rintro ⟨e,he,hz,rfl⟩;refine ⟨_,List.mem_map.2 ⟨e,he,rfl⟩,?_⟩;have:(aK L e.2==0)=false:=by simpa using hz
  rw [this];simp
theorem xN (L:List jA):∀ (x3:MV),(x3.map (·.2)).Nodup→((lr L x3).map aa.Vars).Nodup
 | [],_=>by simp [lr]
 | e::x3,h=>by
  rw [List.map_cons,List.nodup_cons] at h;have ih:=xN L x3 h.2;have e0:lr L (e::x3)=(bif aK L e.2==0 then [] else [aa.mk (aK L e.2) e.2])++lr L x3:=rfl;rw [e0,List.map_append,List.nodup_append];refine ⟨?_,ih,?_⟩
  ·cases aK L e.2==0<;>simp
  ·rintro a ha b hb rfl;have ha2:a=e.2:=by
    cases hz:aK L e.2==0 with
    | true=>rw [hz] at ha;cases ha
    | false=>rw [hz] at ha;simpa using ha
   obtain ⟨m,hm,e2⟩:=List.mem_map.1 hb;obtain ⟨e',he',_,rfl⟩:=qX.1 hm;exact h.1 (List.mem_map.2 ⟨e',he',by rw [← ha2,← e2]⟩)
theorem uo:∀ {x3:MV},(∀ e∈x3,e.1=jn e.2)→(x3.map (·.1)).Nodup→(x3.map (·.2)).Nodup
 | [],_,_=>by simp
 | e::x3,h,hn=>by rw [List.map_cons,List.nodup_cons] at hn ⊢;refine ⟨fun hm=>hn.1 ?_,uo (fun e' he=>h e' (by simp [he])) hn.2⟩;obtain ⟨e',he',e2⟩:=List.mem_map.1 hm;exact List.mem_map.2 ⟨e',he',by rw [h e' (by simp [he']),e2,h e (by simp)]⟩
theorem qp {L:List jA} {x3:MV} {x4 x5:MI} (h:im L x3 x4 x5) (hL:∀ c∈L,CI c) (hn:L.length≤10000) :
 ∃ p,bK (aK L) p∧Bd p∧cr x3 x4 x5=some (limited p):=by
 have hv2:=uo (fun e he=>(h.e1 e he).1) h.nd;have hok:∀ e∈x3,DB e.2:=fun e he=>by obtain ⟨_,c,hc,e2⟩:=h.e1 e he;rw [← e2];exact (hL c hc).1
 have hent:∀ e∈x3,yV x4 x5 e=nf (aK L e.2):=fun e he=>by
  unfold yV;rw [(h.e1 e he).1,h.ma _ (hok e he),h.mb _ (hok e he)];unfold kM;have ha:(oA L e.2).all ct=true:=by rw [KU];intro n hn2;obtain ⟨c,hc,rfl⟩:=List.mem_map.1 hn2;exact (hL c (List.mem_filter.1 hc).1).2.1
  have hb:(qC L e.2).all ct=true:=by rw [KU];intro n hn2;obtain ⟨c,hc,rfl⟩:=List.mem_map.1 hn2;exact (hL c (List.mem_filter.1 hc).1).2.2
  rw [KO (tT L e.2).symm,KO (show (oA L e.2).length≤10000 by have:=qY L e.2;omega),ha,hb,rW];rfl
 have hkeys:=xN L x3 hv2;have hcan:bK (aK L) (fG aa.Vars (lr L x3)):=by
  refine ⟨gi _ hkeys,fun m => ?_⟩;rw [(da aa.Vars (lr L x3)).mem_iff,qX];constructor
  ·rintro ⟨e,he,hz,rfl⟩;exact ⟨hz,rfl⟩
  ·rintro ⟨hz,he⟩;rw [he] at hz;obtain ⟨c,hc,e2⟩:=sE hz;refine ⟨_,h.e2 c hc,by rw [e2];exact hz,?_⟩;show m=⟨aK L c.1,c.1⟩;rw [e2,← he]
 have hBd:Bd (fG aa.Vars (lr L x3)):=by
  refine ⟨?_,fun m hm => ?_⟩
  ·rw [(da aa.Vars (lr L x3)).length_eq];have:∀ x:MV,(lr L x).length≤x.length:=by
    intro x;induction x with
    | nil=>simp [lr]
    | cons e x ih =>
     have e0:lr L (e::x)=(bif aK L e.2==0 then [] else [aa.mk (aK L e.2) e.2])++lr L x:=rfl;rw [e0,List.length_append,List.length_cons];cases aK L e.2==0<;>simp<;>omega
   have h1:=this x3;have h2:=h.l3;omega
  ·obtain ⟨e,he,_,rfl⟩:=qX.1 ((da aa.Vars (lr L x3)).mem_iff.1 hm);have:=hok e he;exact ⟨by have:=this.1;show e.2.length≤1000000;omega,fun v hv=>by have:=(this.2 v hv).2;omega⟩
 refine ⟨_,hcan,hBd,?_⟩;rw [sS x3 x4 x5 hv2 (by have:=h.l3;omega) (fun e he=>by have:=hok e he;exact ⟨by have:=this.1;omega,fun v hv=>by have:=(this.2 v hv).2;omega⟩)]
 unfold Gm;cases hall:x3.all (mq x4 x5) with
 | true =>
  have hin:∀ e∈x3,ct (aK L e.2)=true:=fun e he=>by
   have h1:=KU.1 hall e he;unfold mq at h1;rw [hent e he] at h1;unfold nf at h1;cases hq:ct (aK L e.2) with
   | true=>rfl
   | false=>rw [hq] at h1;simp at h1
  have e1:nS x3 x4 x5=lr L x3:=by unfold nS lr;congr 1;refine List.map_congr_left fun e he => ?_;unfold jl;rw [hent e he,qH (hin e he)]
  rw [e1];rfl
 | false =>
  have hbad:∃ e∈x3,ct (aK L e.2)=false:=by
   have:¬ (x3.all (mq x4 x5)=true):=by rw [hall];simp
   rw [KU] at this;refine Classical.byContradiction fun hn2=>this fun e he => ?_;cases hq:ct (aK L e.2) with
   | true=>unfold mq;rw [hent e he,qH hq];rfl
   | false=>exact absurd ⟨e,he,hq⟩ hn2
  obtain ⟨e,he,hq⟩:=hbad;have hnv:aA (fG aa.Vars (lr L x3))=false:=by
   cases hv:aA (fG aa.Vars (lr L x3)) with
   | false=>rfl
   | true =>
    have hz:aK L e.2≠0:=by intro e0;rw [e0] at hq;cases hq
    have hm:(⟨aK L e.2,e.2⟩:aa)∈fG aa.Vars (lr L x3):=(da aa.Vars (lr L x3)).mem_iff.2 (qX.2 ⟨e,he,hz,rfl⟩);have:=kd hv hm;unfold BA at this;simp only [KJ,decide_eq_true_eq] at this;have h2:ct (aK L e.2)=true:=bH.2 (by omega);rw [h2] at hq;cases hq
  unfold limited;rw [hnv];rfl
def pw (m:aa):Prop:=(m.Vars.length≤400∧∀ v∈m.Vars,Kn v∧v.length≤1000)∧ct m.Coef=true
def JQ (p:List aa):Prop:=p.length≤60∧∀ m∈p,pw m
theorem Jp {l:ai} (h:l.all b5=true):(42:UInt8) ∉ l:=fun hm=>by have:=KU.1 h _ hm;revert this;decide
theorem zT {v:ai} (h:cR v=true):Kn v∧v.length≤30:=by
 cases v with
 | nil=>cases h
 | cons c r =>
  simp only [cR] at h;cases hc:c==95 with
  | true =>
   rw [hc] at h;simp only [cond_true,KJ,decide_eq_true_eq] at h;have hc':c=95:=by simpa using hc
   refine ⟨⟨by simp,?_⟩,by simp;omega⟩;rw [hc',List.mem_cons,not_or];exact ⟨by decide,Jp h.2.2.2⟩
  | false =>
   rw [hc] at h;simp only [cond_false,KJ,decide_eq_true_eq] at h;refine ⟨⟨by simp,?_⟩,by simp;omega⟩;rw [List.mem_cons,not_or];refine ⟨fun e => ?_,fun hm => ?_⟩
   ·have:=h.2.1;rw [← e] at this;revert this;decide
   ·have:=KU.1 h.2.2 _ hm;revert this;decide
theorem de {p:List aa} (h:aA p=true):JQ p:=by
 refine ⟨?_,fun m hm => ?_⟩
 ·unfold aA at h;rw [KJ,decide_eq_true_eq] at h;exact h.2
 ·have:=kd h hm;unfold BA at this;simp only [KJ,decide_eq_true_eq] at this;obtain ⟨_,h1,h2,h3,_,h5⟩:=this;refine ⟨⟨by omega,fun v hv => ?_⟩,bH.2 (by omega)⟩;have:=zT (KU.1 h5 v hv);exact ⟨this.1,by omega⟩
theorem oB (l:List aa) (i:Nat) (h:i<l.length):l.take (i+1)=l.take i++[aP l i]:=by unfold aP;rw [List.take_add_one,KH,KI h];rfl
def tJ (m n:aa):jA:=(bV (m.Vars++n.Vars),m.Coef,n.Coef)
def jW (a b:List aa):List jA:=(a.map fun m=>b.map (tJ m)).flatten
theorem Dk {m n:aa} (hm:pw m) (hn:pw n):DB (m.Vars++n.Vars):=by
 refine ⟨by rw [List.length_append];have:=hm.1.1;have:=hn.1.1;omega,fun v hv => ?_⟩;rcases List.mem_append.1 hv with h | h
 ·exact hm.1.2 v h
 ·exact hn.1.2 v h
theorem ua {m n:aa} (hm:pw m) (hn:pw n):CI (tJ m n):=⟨vV (Dk hm hn),hm.2,hn.2⟩
theorem uq (a b:List aa):(jW a b).length=a.length*b.length:=by
 induction a with
 | nil=>simp [jW]
 | cons m a ih =>
  have e:jW (m::a) b=b.map (tJ m)++jW a b:=rfl;rw [e,List.length_append,KP,ih,List.length_cons,Nat.add_mul];omega
theorem zg {a b:List aa} (ha:∀ m∈a,pw m) (hb:∀ m∈b,pw m):∀ c∈jW a b,CI c:=fun c hc=>by obtain ⟨l,hl,hcl⟩:=List.mem_flatten.1 hc;obtain ⟨m,hm,rfl⟩:=List.mem_map.1 hl;obtain ⟨n,hn,rfl⟩:=List.mem_map.1 hcl;exact ua (ha m hm) (hb n hn)
theorem xw (a:List aa) (m:aa) (b:List aa):jW (a++[m]) b=jW a b++b.map (tJ m):=by unfold jW;rw [List.map_append,List.flatten_append];simp
theorem FQ {L:List jA} {s:MV×MI×MI} (h:im L s.1 s.2.1 s.2.2) (hL:∀ c∈L,CI c) (hn:L.length≤900000) {m n:aa} (hm:pw m) (hn2:pw n) :
 ∃ y,ep m n s.1 s.2.1 s.2.2=some y∧im (L++[tJ m n]) y.1 y.2.1 y.2.2:=by
 obtain ⟨y,e,hs⟩:=tU (a:=m.Coef) (b:=n.Coef) h hL hn (Dk hm hn2);refine ⟨y,?_,hs⟩;unfold ep;have e1:gC [m.Vars,n.Vars]=some (m.Vars++n.Vars):=by unfold gC;have:=hm.1.1;have:=hn2.1.1;rw [aq ⟨by simp;omega,by simp⟩];simp
 rw [e1];simp only [ah];rw [e];rfl
theorem D7 {L:List jA} {s:MV×MI×MI} (h:im L s.1 s.2.1 s.2.2) (hL:∀ c∈L,CI c) {a b:List aa} (ha:JQ a) (hb:JQ b) (hn:L.length≤800000) :
 ∃ y,bq a b s.1 s.2.1 s.2.2=some y∧im (L++jW a b) y.1 y.2.1 y.2.2:=by
 unfold bq;have hta:∀ j,∀ m∈a.take j,pw m:=fun j m hm=>ha.2 m (List.mem_of_mem_take hm);have hlen:∀ j,(jW (a.take j) b).length≤3600:=fun j=>by
  rw [uq,List.length_take];have h1:min j a.length≤60:=by have:=ha.1;omega
  exact Nat.le_trans (Nat.mul_le_mul h1 hb.1) (by decide)
 obtain ⟨s',e,hI⟩:=eD (ρ:=MV×MI×MI) (σ:=MV×MI×MI) (ε:=MV×MI×MI) (body:=fun i303 s302 =>
  (cV (σ:=MV×MI×MI) (ε:=MV×MI×MI) (ρ:=Empty) (fun i341 s340 =>
   (ep (aa.mk ((a.getD i303 ⟨0,[]⟩).Coef) ((a.getD i303 ⟨0,[]⟩).Vars)) (aa.mk ((b.getD i341 ⟨0,[]⟩).Coef) ((b.getD i341 ⟨0,[]⟩).Vars)) s340.1 s340.2.1 s340.2.2).bind fun y366 =>
   some (.go (y366.1,y366.2.1,y366.2.2))
  ) (fun i341 s340=>(s340.1,s340.2.1,s340.2.2)) (b.length-0) 0 (s302.1,s302.2.1,s302.2.2)).bind <| dJ fun u374 =>
  some (.go (u374.1,u374.2.1,u374.2.2))) (fin:=fun i303 s302=>(s302.1,s302.2.1,s302.2.2))
  (fun j s=>im (L++jW (a.take j) b) s.1 s.2.1 s.2.2) (a.length-0) 0 (s.1,s.2.1,s.2.2) (by simpa [jW] using h) (fun j s _ hj hI=>by
   obtain ⟨s2,e2,hI2⟩:=eD (ρ:=Empty) (σ:=MV×MI×MI) (ε:=MV×MI×MI) (body:=fun i341 s340 =>
    (ep (aa.mk ((a.getD j ⟨0,[]⟩).Coef) ((a.getD j ⟨0,[]⟩).Vars)) (aa.mk ((b.getD i341 ⟨0,[]⟩).Coef) ((b.getD i341 ⟨0,[]⟩).Vars)) s340.1 s340.2.1 s340.2.2).bind fun y366 =>
    some (.go (y366.1,y366.2.1,y366.2.2))) (fin:=fun i341 s340=>(s340.1,s340.2.1,s340.2.2))
    (fun k s=>im (L++jW (a.take j) b++(b.take k).map (tJ (aP a j))) s.1 s.2.1 s.2.2) (b.length-0) 0 (s.1,s.2.1,s.2.2) (by simpa using hI) (fun k s _ hk hI3=>by
     have hLL:∀ c∈L++jW (a.take j) b++(b.take k).map (tJ (aP a j)),CI c:=fun c hc=>by
      rcases List.mem_append.1 hc with hc | hc
      ·rcases List.mem_append.1 hc with hc | hc
       ·exact hL c hc
       ·exact zg (hta j) hb.2 c hc
      ·obtain ⟨n,hn3,rfl⟩:=List.mem_map.1 hc;exact ua (ha.2 _ (cy (by omega))) (hb.2 n (List.mem_of_mem_take hn3))
     obtain ⟨y,e3,hs⟩:=FQ (m:=aP a j) (n:=aP b k) hI3 hLL (by
      have h1:=hlen j;have h2:=hb.1;simp only [List.length_append,KP,List.length_take];omega) (ha.2 _ (cy (by omega))) (hb.2 _ (cy (by omega)))
     refine ⟨(y.1,y.2.1,y.2.2),?_,?_⟩
     ·show (ep (aP a j) (aP b k) s.1 s.2.1 s.2.2).bind _=_;rw [e3];rfl
     ·rw [oB b k (by omega),List.map_append,← List.append_assoc];exact hs)
   refine ⟨(s2.1,s2.2.1,s2.2.2),?_,?_⟩
   ·rw [e2];rfl
   ·rw [Nat.zero_add,Nat.sub_zero,List.take_length] at hI2;rw [oB a j (by omega),xw,← List.append_assoc];exact hI2)
 refine ⟨s',?_,?_⟩
 ·rw [e];rfl
 ·rw [Nat.zero_add,Nat.sub_zero,List.take_length] at hI;exact hI
theorem tu {a b:List aa} (ha:JQ a) (hb:JQ b):∃ p,bK (aK (jW a b)) p∧Bd p∧fc a b=some (limited p):=by
 obtain ⟨y,e,hs⟩:=D7 (s:=([],[],[])) im.nil (fun c hc=>(by cases hc)) ha hb (by simp);rw [List.nil_append] at hs;obtain ⟨p,h1,h2,h3⟩:=qp hs (zg ha.2 hb.2) (by
  rw [uq];exact Nat.le_trans (Nat.mul_le_mul ha.1 hb.1) (by decide))
 refine ⟨p,h1,h2,?_⟩;unfold fc;rw [show cX=some ([],[],[]) from rfl];simp only [ah];rw [show bq a b [] [] []=some y from e];simp only [ah];rw [h3];rfl
theorem kY {a b:List aa} (ha:Bd a) (hb:Bd b):(aA a=true→aA b=true→∃ p,bK (aK (jW a b)) p∧Bd p∧gQ a b=some (limited p))∧(aA a=false∨aA b=false→gQ a b=some ([],1)):=by
 unfold gQ;rw [cp a ha,cp b hb];refine ⟨fun h1 h2 => ?_,fun h => ?_⟩
 ·obtain ⟨p,k1,k2,k3⟩:=tu (de h1) (de h2);refine ⟨p,k1,k2,?_⟩;rw [h1,h2];simp only [ah,cond_true];rw [k3];rfl
 ·cases hv:aA a with
  | false=>rfl
  | true =>
   rcases h with h | h
   ·rw [hv] at h;cases h
   ·rw [h];rfl
theorem Cs {p:List aa} (h:aA p=true) {j:Nat} (hj:j<p.length):iD p j=true:=by unfold aA at h;rw [KJ,KU] at h;exact h.1 j (by rw [List.mem_range'_1];omega)
theorem pn {p:List aa} {j:Nat} (hj:j<p.length):aP p j=p[j]:=by unfold aP;rw [KH,KI hj];rfl
theorem GG {p:List aa} (h:aA p=true):p.Pairwise (wE aa.Vars):=by
 have key:∀ j i,i<j→j<p.length→cmpL (aP p i).Vars (aP p j).Vars<0:=by
  intro j;induction j with
  | zero=>intro i h1;omega
  | succ j ih =>
   intro i h1 h2;have hs:=Cs h h2;unfold iD at hs;simp only [KJ,Bool.or_eq_true,beq_iff_eq,decide_eq_true_eq,Nat.add_sub_cancel] at hs;have hadj:cmpL (aP p j).Vars (aP p (j+1)).Vars<0:=by
    rcases hs.2 with h3 | h3
    ·omega
    ·exact h3
   by_cases e:i=j
   ·subst e;exact hadj
   ·exact fF (ih i (by omega) (by omega)) hadj
 rw [List.pairwise_iff_getElem];intro i j hi hj hij;have:=key j i hij hj
 rwa [pn hi,pn hj] at this
theorem G5 {V:List ai} (h:vp V=true):V.Pairwise (fun a b=>mv a b=true):=by
 have key:∀ j i,i<j→j<V.length→mv (V.getD i []) (V.getD j [])=true:=by
  intro j;induction j with
  | zero=>intro i h1;omega
  | succ j ih =>
   intro i h1 h2;unfold vp at h;have hs:=KU.1 h (j+1) (by rw [List.mem_range'_1];omega);have hadj:mv (V.getD j []) (V.getD (j+1) [])=true:=by simp only [mv,decide_eq_true_eq];rw [← List.not_lt,pz];simpa [KH] using hs
   by_cases e:i=j
   ·subst e;exact hadj
   ·exact mH _ _ _ (ih i (by omega) (by omega)) hadj
 rw [List.pairwise_iff_getElem];intro i j hi hj hij;have:=key j i hij hj;simpa [KH,KI hi,KI hj] using this
theorem sd {p:List aa} (h:aA p=true) {m:aa} (hm:m∈p):m.Vars.Pairwise (fun a b=>mv a b=true):=by have:=kd h hm;unfold BA at this;simp only [KJ] at this;exact G5 this.2.2.2.2.1
theorem rT {p:List aa} (h:aA p=true) {m:aa} (hm:m∈p):m.Vars.length≤8∧m.Coef≠0:=by have:=kd h hm;unfold BA at this;simp only [KJ,decide_eq_true_eq,Bool.not_eq_true',beq_eq_false_iff_ne] at this;exact ⟨this.2.2.2.1,this.1⟩
theorem IH {p:List aa} (h:p.Pairwise (wE aa.Vars)) {m n:aa} (hm:m∈p) (hn:n∈p) (e:m.Vars=n.Vars):m=n:=by
 obtain ⟨i,hi,rfl⟩:=List.getElem_of_mem hm;obtain ⟨j,hj,rfl⟩:=List.getElem_of_mem hn;rw [List.pairwise_iff_getElem] at h;have no:∀ {i j:Nat} (hi:i<p.length) (hj:j<p.length),i<j→p[i].Vars=p[j].Vars→False:=fun hi hj hij e=>by have:=h _ _ hi hj hij;unfold wE at this;rw [e,gJ] at this;omega
 rcases Nat.lt_trichotomy i j with h1 | h1 | h1
 ·exact (no hi hj h1 e).elim
 ·subst h1;rfl
 ·exact (no hj hi h1 e.symm).elim
theorem kr {V:List ai}:∀ {L:List jA},(∀ c∈L,c.1≠V)→aK L V=0
 | [],_=>rfl
 | c::L,h=>by simp only [aK,if_neg (h c (by simp)),kr (L:=L) fun c' hc=>h c' (by simp [hc])];rfl
def sf (k:Int) (m:aa):jA:=(bV m.Vars,m.Coef,k)
theorem C6 {m:aa} (hm:pw m):DB m.Vars:=⟨by have:=hm.1.1;omega,hm.1.2⟩
theorem yr {k:Int} {m:aa} (hm:pw m) (hk:ct k=true):CI (sf k m):=⟨vV (C6 hm),hm.2,hk⟩
theorem p7 {L:List jA} {s:MV×MI×MI} (h:im L s.1 s.2.1 s.2.2) (hL:∀ c∈L,CI c) {a:List aa} {k:Int} (ha:JQ a) (hk:ct k=true) (hn:L.length≤800000) :
 ∃ y,eH a [k] s.1 s.2.1 s.2.2=some y∧im (L++a.map (sf k)) y.1 y.2.1 y.2.2:=by
 unfold eH;obtain ⟨s',e,hI⟩:=eD (ρ:=MV×MI×MI) (σ:=MV×MI×MI) (ε:=MV×MI×MI) (body:=fun i303 s302 =>
  (cV (σ:=MV×MI×MI) (ε:=MV×MI×MI) (ρ:=Empty) (fun i341 s340 =>
   (eJ (aa.mk ((a.getD i303 ⟨0,[]⟩).Coef) ((a.getD i303 ⟨0,[]⟩).Vars)) ([k].getD i341 0) s340.1 s340.2.1 s340.2.2).bind fun y366 =>
   some (.go (y366.1,y366.2.1,y366.2.2))
  ) (fun i341 s340=>(s340.1,s340.2.1,s340.2.2)) ([k].length-0) 0 (s302.1,s302.2.1,s302.2.2)).bind <| dJ fun u374 =>
  some (.go (u374.1,u374.2.1,u374.2.2))) (fin:=fun i303 s302=>(s302.1,s302.2.1,s302.2.2))
  (fun j s=>im (L++(a.take j).map (sf k)) s.1 s.2.1 s.2.2) (a.length-0) 0 (s.1,s.2.1,s.2.2) (by simpa using h) (fun j s _ hj hI=>by
   have hLL:∀ c∈L++(a.take j).map (sf k),CI c:=fun c hc=>by
    rcases List.mem_append.1 hc with hc | hc
    ·exact hL c hc
    ·obtain ⟨n,hn3,rfl⟩:=List.mem_map.1 hc;exact yr (ha.2 n (List.mem_of_mem_take hn3)) hk
   obtain ⟨y,e3,hs⟩:=tU (a:=(aP a j).Coef) (b:=k) hI hLL (by
    have h2:=ha.1;simp only [List.length_append,KP,List.length_take];omega) (C6 (ha.2 _ (cy (p:=a) (j:=j) (by omega))))
   refine ⟨(y.1,y.2.1,y.2.2),?_,?_⟩
   ·have e5:eJ (aa.mk ((a.getD j ⟨0,[]⟩).Coef) ((a.getD j ⟨0,[]⟩).Vars)) ([k].getD 0 0) s.1 s.2.1 s.2.2=some y:=by unfold eJ;rw [show b7 (aa.mk ((a.getD j ⟨0,[]⟩).Coef) ((a.getD j ⟨0,[]⟩).Vars)).Vars (aa.mk ((a.getD j ⟨0,[]⟩).Coef) ((a.getD j ⟨0,[]⟩).Vars)).Coef ([k].getD 0 0) s.1 s.2.1 s.2.2=some y from e3];rfl
    simp only [List.length_cons,List.length_nil,Nat.zero_add,Nat.sub_zero,cV];rw [e5];rfl
   ·rw [oB a j (by omega),List.map_append,← List.append_assoc];exact hs)
 refine ⟨s',?_,?_⟩
 ·rw [e];rfl
 ·rw [Nat.zero_add,Nat.sub_zero,List.take_length] at hI;exact hI
theorem oH {a b:List aa} (ha:Bd a) (hb:Bd b) (hva:aA a=true) (hvb:aA b=true):∃ p,bK (aK (a.map (sf 1)++b.map (sf 1))) p∧Bd p∧fD a b=some (limited p):=by
 have oa:=de hva;have ob:=de hvb;have h1:ct 1=true:=rfl;have ok1:∀ c∈a.map (sf 1),CI c:=fun c hc=>by obtain ⟨n,hn,rfl⟩:=List.mem_map.1 hc;exact yr (oa.2 n hn) h1
 have ok2:∀ c∈b.map (sf 1),CI c:=fun c hc=>by obtain ⟨n,hn,rfl⟩:=List.mem_map.1 hc;exact yr (ob.2 n hn) h1
 obtain ⟨y,e,hs⟩:=p7 (s:=([],[],[])) im.nil (fun c hc=>(by cases hc)) oa h1 (by simp);rw [List.nil_append] at hs;obtain ⟨z,e2,hs2⟩:=p7 hs ok1 ob h1 (by rw [KP];have:=oa.1;omega);obtain ⟨p,k1,k2,k3⟩:=qp hs2 (fun c hc=>by
  rcases List.mem_append.1 hc with hc | hc
  ·exact ok1 c hc
  ·exact ok2 c hc) (by
  have:=oa.1;have:=ob.1;simp only [List.length_append,KP];omega)
 refine ⟨p,k1,k2,?_⟩;unfold fD fL;rw [show cX=some ([],[],[]) from rfl];simp only [ah];have ec:cV (σ:=MV×MI×MI) (ε:=MV×MI×MI) (ρ:=List aa×Int) (fun i45 s44 =>
  (bp ([a,b].getD i45 [])).bind fun y79 =>
  bif y79 then (
   bR (i45≤(i45+1)∧(i45+1)≤([1,1]:List Int).length) <|
   (eH ([a,b].getD i45 []) ((([1,1]:List Int).drop i45).take ((i45+1)-i45)) s44.1 s44.2.1 s44.2.2).bind fun y92 =>
   some (.go (y92.1,y92.2.1,y92.2.2))
  ) else (
   some (.ret ([],1))
  )
 ) (fun i45 s44=>(s44.1,s44.2.1,s44.2.2)) (([a,b]:List (List aa)).length-0) 0 ([],[],[])=some (.brk z):=by show (((bp a).bind fun y79=>_).bind _)=_;rw [cp a ha,hva];simp only [ah,cond_true];rw [aq (by simp)];rw [show (([1,1]:List Int).drop 0).take (0+1-0)=[1] from rfl,show [a,b].getD 0 []=a from rfl,e];simp only [ah,oy];show (((bp b).bind fun y79=>_).bind _)=_;rw [cp b hb,hvb];simp only [ah,cond_true];rw [aq (by simp)];rw [show (([1,1]:List Int).drop (0+1)).take (0+1+1-(0+1))=[1] from rfl,show [a,b].getD (0+1) []=b from rfl,e2];rfl
 rw [ec];simp only [ah,Sh.aft];rw [k3];rfl
def iG (g:List ai→Int):List jA→Int
 | []=>0
 | c::L=>c.2.1*c.2.2*g c.1+iG g L
def dj (g:List ai→Int):List aa→Int
 | []=>0
 | m::p=>m.Coef*g m.Vars+dj g p
theorem jf (g:List ai→Int):∀ L M,iG g (L++M)=iG g L+iG g M
 | [],M=>by simp [iG]
 | c::L,M=>by simp only [List.cons_append,iG,jf g L M];omega
theorem uG (g:List ai→Int) (V:List ai):∀ M,iG g M=aK M V*g V+iG g (M.filter fun c=>decide (c.1≠V))
 | []=>by simp [iG,aK]
 | c::M=>by
  have ih:=uG g V M;by_cases h:c.1=V
  ·have e:((c::M).filter fun c=>decide (c.1≠V))=M.filter fun c=>decide (c.1≠V):=by simp [h]
   rw [e];simp only [iG,aK,ih,h,if_true,Int.add_mul];omega
  ·have e:((c::M).filter fun c=>decide (c.1≠V))=c::M.filter fun c=>decide (c.1≠V):=by simp [h]
   rw [e];simp only [iG,aK,if_neg h,ih,Int.zero_add];omega
theorem qD (V W:List ai):∀ M,aK (M.filter fun c=>decide (c.1≠V)) W=if W=V then 0 else aK M W
 | []=>by simp [aK]
 | c::M=>by
  have ih:=qD V W M;by_cases h:c.1=V
  ·have e:((c::M).filter fun c=>decide (c.1≠V))=M.filter fun c=>decide (c.1≠V):=by simp [h]
   rw [e,ih];by_cases hw:W=V
   ·rw [if_pos hw,if_pos hw]
   ·have:¬ c.1=W:=fun k=>hw (by rw [← k,h]);rw [if_neg hw,if_neg hw];simp [aK,this]
  ·have e:((c::M).filter fun c=>decide (c.1≠V))=c::M.filter fun c=>decide (c.1≠V):=by simp [h]
   rw [e];simp only [aK,ih];by_cases hw:W=V
   ·have:¬ c.1=W:=fun k=>h (by rw [k,hw]);rw [if_pos hw,if_pos hw,if_neg this];rfl
   ·rw [if_neg hw,if_neg hw]
theorem xj (g:List ai→Int):∀ (n:Nat) (M:List jA),M.length≤n→(∀ V,aK M V=0)→iG g M=0
 | _,[],_,_=>rfl
 | 0,c::M,h,_=>by simp at h
 | n+1,c::M,h,hz=>by
  rw [uG g c.1 (c::M),hz,Int.zero_mul,Int.zero_add];refine xj g n _ ?_ fun V => ?_
  ·have e:((c::M).filter fun x=>decide (x.1≠c.1))=M.filter fun x=>decide (x.1≠c.1):=by simp
   rw [e];have:=List.length_filter_le (fun x:jA=>decide (x.1≠c.1)) M;simp only [List.length_cons] at h;omega
  ·rw [qD];split
   ·rfl
   ·exact hz V
def fH (k:Int) (m:aa):jA:=(m.Vars,m.Coef,k)
theorem AM (g:List ai→Int) (k:Int):∀ p:List aa,iG g (p.map (fH k))=k*dj g p
 | []=>by simp [iG,dj]
 | m::p=>by simp only [List.map_cons,iG,dj,AM g k p,fH,Int.mul_add,Int.mul_comm,Int.mul_left_comm]
theorem He {f:List ai→Int} {p:List aa} (h:bK f p) (k:Int) (V:List ai):aK (p.map (fH k)) V=f V*k:=by
 by_cases hz:f V=0
 ·rw [hz,Int.zero_mul];refine kr fun c hc e => ?_;obtain ⟨m,hm,rfl⟩:=List.mem_map.1 hc;have h2:=(h.mem m).1 hm;have e:m.Vars=V:=e;rw [e,hz] at h2;exact h2.1 h2.2
 ·have hm:(⟨f V,V⟩:aa)∈p:=(h.mem _).2 ⟨hz,rfl⟩;have hu:∀ n∈p,n.Vars=V→n=⟨f V,V⟩:=fun n hn e=>IH h.st hn hm e;have hnd:=pd h.st;obtain ⟨s,t,rfl⟩:=List.append_of_mem hm;have z:∀ l:List aa,(∀ n∈l,n∈s++⟨f V,V⟩::t∧n≠⟨f V,V⟩)→aK (l.map (fH k)) V=0:=fun l hl=>kr fun c hc e=>by obtain ⟨m,hm,rfl⟩:=List.mem_map.1 hc;exact (hl m hm).2 (hu m (hl m hm).1 e)
  rw [List.nodup_append] at hnd;rw [List.map_append,List.map_cons,il,z s (fun n hn=>⟨by simp [hn],fun e=>hnd.2.2 n hn _ (by simp) e⟩)];have e2:aK (fH k ⟨f V,V⟩::t.map (fH k)) V=f V*k+aK (t.map (fH k)) V:=by simp [aK,fH]
  rw [e2,z t (fun n hn=>⟨by simp [hn],fun e=>(List.nodup_cons.1 hnd.2.1).1 (by rw [← e];exact hn)⟩)];omega
theorem sq {L:List jA} {p:List aa} (h:bK (aK L) p) (g:List ai→Int):dj g p=iG g L:=by
 have hz:=xj g _ (L++p.map (fH (-1))) (Nat.le_refl _) fun V=>by rw [il,He h];omega
 rw [jf,AM] at hz;omega
theorem CB {p:List aa} (h:aA p=true):bK (aK (p.map (fH 1))) p:=by
 have hst:=GG h;refine ⟨hst,fun m => ?_⟩;have one:∀ {m:aa},m∈p→aK (p.map (fH 1)) m.Vars=m.Coef:=fun {m} hm=>by
  have hu:∀ n∈p,n.Vars=m.Vars→n=m:=fun n hn e=>IH hst hn hm e;have hnd:=pd hst;obtain ⟨s,t,rfl⟩:=List.append_of_mem hm;have z:∀ l:List aa,(∀ n∈l,n∈s++m::t∧n≠m)→aK (l.map (fH 1)) m.Vars=0:=fun l hl=>kr fun c hc e=>by obtain ⟨n,hn,rfl⟩:=List.mem_map.1 hc;exact (hl n hn).2 (hu n (hl n hn).1 e)
  rw [List.nodup_append] at hnd;rw [List.map_append,List.map_cons,il,z s (fun n hn=>⟨by simp [hn],fun e=>hnd.2.2 n hn _ (by simp) e⟩)];have e2:aK (fH 1 m::t.map (fH 1)) m.Vars=m.Coef+aK (t.map (fH 1)) m.Vars:=by simp [aK,fH]
  rw [e2,z t (fun n hn=>⟨by simp [hn],fun e=>(List.nodup_cons.1 hnd.2.1).1 (by rw [← e];exact hn)⟩)];omega
 constructor
 ·intro hm;exact ⟨(rT h hm).2,(one hm).symm⟩
 ·rintro ⟨h0,h1⟩;have h2:aK (p.map (fH 1)) m.Vars≠0:=by rw [← h1];exact h0
  obtain ⟨c,hc,e⟩:=sE h2;obtain ⟨n,hn,rfl⟩:=List.mem_map.1 hc;have e:n.Vars=m.Vars:=e;have h3:=one hn;rw [e,← h1] at h3;have:n=m:=by cases n;cases m;simp only at e h3;rw [e,h3]
  rw [← this];exact hn
theorem um (g:List ai→Int) (k:Int):∀ p,dj (fun U=>k*g U) p=k*dj g p
 | []=>by simp [dj]
 | m::p=>by simp only [dj,um g k p,Int.mul_add,Int.mul_left_comm]
theorem qi {f g:List ai→Int}:∀ {p:List aa},(∀ m∈p,f m.Vars=g m.Vars)→dj f p=dj g p
 | [],_=>rfl
 | m::p,h=>by have ih:dj f p=dj g p:=qi fun n hn=>h n (by simp [hn]);simp only [dj,h m (by simp),ih]
theorem DH (g:List ai→Int) (m:aa):∀ b:List aa,iG g (b.map (tJ m))=m.Coef*dj (fun U=>g (bV (m.Vars++U))) b
 | []=>by simp [iG,dj]
 | n::b=>by simp only [List.map_cons,iG,dj,DH g m b,tJ,Int.mul_add,Int.mul_assoc]
theorem zt (g:List ai→Int) (b:List aa):∀ a:List aa,iG g (jW a b)=dj (fun W=>dj (fun U=>g (bV (W++U))) b) a
 | []=>rfl
 | m::a=>by have e:jW (m::a) b=b.map (tJ m)++jW a b:=rfl;rw [e,jf,DH,zt g b a];rfl
theorem zb {p:List aa} (h:aA p=true):∀ m∈p,bV m.Vars=m.Vars:=fun m hm=>by rw [← uV];exact yS (sd h hm) (List.Perm.refl _)
theorem xV {p:List aa} (h:(limited p).2=0):aA p=true∧limited p=(p,0):=by
 unfold limited at *;cases hv:aA p with
 | false=>rw [hv] at h;cases h
 | true=>exact ⟨rfl,rfl⟩
def jS (m:aa):List aa→List aa
 | []=>[m]
 | x::r=>if 0<cmpL x.Vars m.Vars then m::x::r else if cmpL x.Vars m.Vars=0 then (if x.Coef+m.Coef=0 then r else ⟨x.Coef+m.Coef,x.Vars⟩::r) else x::jS m r
def kg (p:List aa) (m:aa):List aa:=if m.Coef=0 then p else jS m p
theorem sw (m:aa):∀ p,(jS m p).length≤p.length+1
 | []=>by simp [jS]
 | x::r=>by
  unfold jS;have:=sw m r;split
  ·simp
  ·split
   ·split<;>simp;omega
   ·simp;omega
theorem pq (p:List aa) (m:aa):(kg p m).length≤p.length+1:=by
 unfold kg;split
 ·omega
 ·exact sw m p
theorem xy {m n:aa}:∀ {p:List aa},n∈jS m p→n.Vars=m.Vars∨∃ x∈p,x.Vars=n.Vars
 | [],h=>by simp [jS] at h;exact .inl (by rw [h])
 | x::r,h=>by
  unfold jS at h;split at h
  ·rcases List.mem_cons.1 h with rfl | h
   ·exact .inl rfl
   ·exact .inr ⟨n,h,rfl⟩
  ·split at h
   ·split at h
    ·exact .inr ⟨n,by simp [h],rfl⟩
    ·rcases List.mem_cons.1 h with rfl | h
     ·exact .inr ⟨x,by simp,rfl⟩
     ·exact .inr ⟨n,by simp [h],rfl⟩
   ·rcases List.mem_cons.1 h with rfl | h
    ·exact .inr ⟨n,by simp,rfl⟩
    ·rcases xy h with h | ⟨y,hy,e⟩
     ·exact .inl h
     ·exact .inr ⟨y,by simp [hy],e⟩
theorem q8 {m:aa}:∀ {p:List aa},p.Pairwise (wE aa.Vars)→(jS m p).Pairwise (wE aa.Vars)
 | [],_=>by simp [jS]
 | x::r,h=>by
  have h2:=List.pairwise_cons.1 h;unfold jS;split
  ·rename_i hgt;have hmx:wE aa.Vars m x:=fQ.2 hgt;refine List.pairwise_cons.2 ⟨fun z hz => ?_,h⟩;rcases List.mem_cons.1 hz with rfl | hz
   ·exact hmx
   ·exact fF hmx (h2.1 z hz)
  ·split
   ·split
    ·exact h2.2
    ·exact List.pairwise_cons.2 ⟨fun z hz=>h2.1 z hz,h2.2⟩
   ·rename_i hgt heq;refine List.pairwise_cons.2 ⟨fun z hz => ?_,q8 h2.2⟩;show cmpL x.Vars z.Vars<0;rcases xy hz with e | ⟨y,hy,e⟩
    ·rw [e];omega
    ·rw [← e];exact h2.1 y hy
theorem xM {m:aa} (hm:m.Coef≠0) {c:Int}:∀ {p:List aa},p.Pairwise (wE aa.Vars)→(∀ x∈p,x.Coef≠0)→(∀ x∈p,x.Vars=m.Vars→x.Coef=c)→((∀ x∈p,x.Vars≠m.Vars)→c=0) →
 ∀ n,n∈jS m p↔(n.Vars≠m.Vars∧n∈p)∨(n.Vars=m.Vars∧n.Coef=c+m.Coef∧n.Coef≠0)
 | [],_,_,_,h4,n=>by
  have hc:c=0:=h4 fun x hx=>by cases hx
  subst hc;obtain ⟨k,V⟩:=n;obtain ⟨k',V'⟩:=m;simp only [jS,List.mem_singleton,aa.mk.injEq,List.not_mem_nil,and_false,false_or];simp only at hm;constructor
  ·rintro ⟨rfl,rfl⟩;exact ⟨rfl,by omega,hm⟩
  ·rintro ⟨rfl,h,_⟩;exact ⟨by omega,rfl⟩
 | x::r,h,h2,h3,h4,n=>by
  have hp:=List.pairwise_cons.1 h;have hself:cmpL m.Vars m.Vars=0:=gJ _;unfold jS;split
  ·rename_i hgt;have hmx:wE aa.Vars m x:=fQ.2 hgt;have hne:∀ y∈x::r,y.Vars≠m.Vars:=fun y hy e=>by
    have h5:wE aa.Vars m y:=by
     rcases List.mem_cons.1 hy with rfl | hy
     ·exact hmx
     ·exact fF hmx (hp.1 y hy)
    have h5:cmpL m.Vars y.Vars<0:=h5;rw [e,hself] at h5;omega
   have hc:c=0:=h4 hne;subst hc;rw [List.mem_cons];constructor
   ·rintro (rfl | hn)
    ·exact .inr ⟨rfl,by omega,hm⟩
    ·exact .inl ⟨hne n hn,hn⟩
   ·rintro (⟨_,hn⟩ | ⟨e1,e2,_⟩)
    ·exact .inr hn
    ·refine .inl ?_;obtain ⟨k,V⟩:=n;obtain ⟨k',V'⟩:=m;simp only at e1 e2;rw [e1,e2,Int.zero_add]
  ·split
   ·rename_i hgt heq;have exm:=fX heq;have hc:x.Coef=c:=h3 x (by simp) exm;have hne:∀ y∈r,y.Vars≠m.Vars:=fun y hy e=>by have h5:cmpL x.Vars y.Vars<0:=hp.1 y hy;rw [e,exm,hself] at h5;omega
    split
    ·rename_i hz;constructor
     ·intro hn;exact .inl ⟨hne n hn,by simp [hn]⟩
     ·rintro (⟨e1,hn⟩ | ⟨e1,e2,e3⟩)
      ·rcases List.mem_cons.1 hn with rfl | hn
       ·exact absurd exm e1
       ·exact hn
      ·exfalso;omega
    ·rename_i hz;rw [List.mem_cons];constructor
     ·rintro (rfl | hn)
      ·exact .inr ⟨exm,by simp only;omega,hz⟩
      ·exact .inl ⟨hne n hn,by simp [hn]⟩
     ·rintro (⟨e1,hn⟩ | ⟨e1,e2,e3⟩)
      ·rcases List.mem_cons.1 hn with rfl | hn
       ·exact absurd exm e1
       ·exact .inr hn
      ·refine .inl ?_;obtain ⟨k,V⟩:=n;simp only at e1 e2;rw [e1,e2,exm,hc]
   ·rename_i hgt heq;have hxm:x.Vars≠m.Vars:=fun e=>heq (by rw [e];exact hself);have ih:=xM hm hp.2 (fun y hy=>h2 y (by simp [hy])) (fun y hy=>h3 y (by simp [hy])) (fun hA=>h4 fun y hy=>by
     rcases List.mem_cons.1 hy with rfl | hy
     ·exact hxm
     ·exact hA y hy) n
    rw [List.mem_cons,ih,List.mem_cons];constructor
    ·rintro (rfl | ⟨e1,hn⟩ | e1)
     ·exact .inl ⟨hxm,.inl rfl⟩
     ·exact .inl ⟨e1,.inr hn⟩
     ·exact .inr e1
    ·rintro (⟨e1,rfl | hn⟩ | e1)
     ·exact .inl rfl
     ·exact .inr (.inl ⟨e1,hn⟩)
     ·exact .inr (.inr e1)
theorem EN (V:List ai) (c:jA):aK [c] V=if c.1=V then c.2.1*c.2.2 else 0:=by unfold aK;simp [aK]
theorem ng {L:List jA} {p:List aa} (h:bK (aK L) p) {m:aa} {a b:Int} (e:m.Coef=a*b):bK (aK (L++[(m.Vars,a,b)])) (kg p m):=by
 have hco:∀ V,aK (L++[(m.Vars,a,b)]) V=aK L V+if m.Vars=V then m.Coef else 0:=fun V=>by rw [il,EN];simp only [e]
 unfold kg;by_cases hz:m.Coef=0
 ·rw [if_pos hz];refine ⟨h.st,fun n => ?_⟩;rw [h.mem,hco,hz];simp
 ·rw [if_neg hz];refine ⟨q8 h.st,fun n => ?_⟩;rw [xM hz (c:=aK L m.Vars) h.st (fun x hx=>((h.mem x).1 hx).1) (fun x hx ex=>by rw [((h.mem x).1 hx).2,ex]) (fun hA => ?_) n,h.mem,hco]
  ·constructor
   ·rintro (⟨e1,e2,e3⟩ | ⟨e1,e2,e3⟩)
    ·rw [if_neg (Ne.symm e1)];exact ⟨e2,by omega⟩
    ·rw [if_pos e1.symm,e1];exact ⟨e3,e2⟩
   ·rintro ⟨e2,e3⟩;by_cases e1:n.Vars=m.Vars
    ·rw [if_pos e1.symm,e1] at e3;exact .inr ⟨e1,e3,e2⟩
    ·rw [if_neg (Ne.symm e1)] at e3;exact .inl ⟨e1,e2,by omega⟩
  ·apply Classical.byContradiction;intro hc;exact hA ⟨aK L m.Vars,m.Vars⟩ ((h.mem _).2 ⟨hc,rfl⟩) rfl
def zq (m x:aa) (s:List aa×Bool):List aa×Bool :=
 if s.2=true then (if x.Coef=0 then s.1 else s.1++[x],true)
 else if 0<cmpL x.Vars m.Vars then (if x.Coef=0 then s.1++[m] else s.1++[m]++[x],true)
 else if cmpL x.Vars m.Vars=0 then (if aW (x.Coef+m.Coef)=0 then s.1 else s.1++[⟨aW (x.Coef+m.Coef),x.Vars⟩],true)
 else (if x.Coef=0 then s.1 else s.1++[x],false)
theorem Im (m x:aa) (s:List aa×Bool):(zq m x s).1.length≤s.1.length+2:=by
 unfold zq;repeat' split
 all_goals simp
theorem mu {m:aa}:∀ {p:List aa},(∀ x∈p,x.Coef≠0)→∀ out,bM (ρ:=Empty) (fun x s=>.go (zq m x s)) (fun s=>s) p (out,true) = .brk (out++p,true)
 | [],_,out=>by simp [bM]
 | x::r,h,out=>by
  have hx:=h x (by simp);have e:zq m x (out,true)=(out++[x],true):=by unfold zq;rw [if_pos rfl,if_neg hx]
  simp only [bM,e];rw [mu (fun y hy=>h y (by simp [hy]))];simp
def Kr (m:aa) (s:List aa×Bool):List aa:=if s.2=true then s.1 else s.1++[m]
theorem xt {m:aa}:∀ {p:List aa},(∀ x∈p,x.Coef≠0)→(∀ x∈p,x.Vars=m.Vars→aW (x.Coef+m.Coef)=x.Coef+m.Coef)→∀ out,∃ s,bM (ρ:=Empty) (fun x s=>.go (zq m x s)) (fun s=>s) p (out,false) = .brk s∧Kr m s=out++jS m p
 | [],_,_,out=>⟨(out,false),rfl,rfl⟩
 | x::r,h,hw,out=>by
  have hx:=h x (by simp);have hr:∀ y∈r,y.Coef≠0:=fun y hy=>h y (by simp [hy]);unfold jS;by_cases h1:0<cmpL x.Vars m.Vars
  ·have e:zq m x (out,false)=(out++[m]++[x],true):=by unfold zq;rw [if_neg (by simp),if_pos h1,if_neg hx]
   rw [if_pos h1];simp only [bM,e];exact ⟨_,mu hr _,by simp [Kr]⟩
  ·by_cases h2:cmpL x.Vars m.Vars=0
   ·have hw1:=hw x (by simp) (fX h2);rw [if_neg h1,if_pos h2];by_cases h3:x.Coef+m.Coef=0
    ·have e:zq m x (out,false)=(out,true):=by unfold zq;rw [if_neg (by simp),if_neg h1,if_pos h2,hw1,if_pos h3]
     simp only [bM,e];exact ⟨_,mu hr _,by rw [if_pos h3];simp [Kr]⟩
    ·have e:zq m x (out,false)=(out++[⟨x.Coef+m.Coef,x.Vars⟩],true):=by unfold zq;rw [if_neg (by simp),if_neg h1,if_pos h2,hw1,if_neg h3]
     simp only [bM,e];exact ⟨_,mu hr _,by rw [if_neg h3];simp [Kr]⟩
   ·have e:zq m x (out,false)=(out++[x],false):=by unfold zq;rw [if_neg (by simp),if_neg h1,if_neg h2,if_neg hx]
    rw [if_neg h1,if_neg h2];simp only [bM,e];obtain ⟨s,h3,h4⟩:=xt hr (fun y hy=>hw y (by simp [hy])) (out++[x]);exact ⟨s,h3,by rw [h4];simp⟩
theorem iV {p:List aa} {m:aa} (hB:Bd p) (hm:m.Vars.length≤1000000) (h0:∀ x∈p,x.Coef≠0) (hw:∀ x∈p,x.Vars=m.Vars→aW (x.Coef+m.Coef)=x.Coef+m.Coef):bX p m=some (kg p m):=by
 unfold bX;have hbody:∀ (j:Nat) (s:List aa×Bool),j<p.length→s.1.length≤2*j →
  ((cZ ((p.getD j ⟨0,[]⟩).Vars) m.Vars).bind fun y183 =>
  ((
   bif s.2 then (
    some (true,false)
   ) else (
    some (false,decide (y183>0))
   )
  ):Option (Bool×Bool)).bind fun v186 =>
  ((
   bif v186.2 then (
    bR ((s.1.length+1)*32≤140737488355328) <|
    some ((s.1++[m]),true)
   ) else (
    some (s.1,v186.1)
   )
  ):Option ((List aa)×Bool)).bind fun v199 =>
  ((
   bif v199.2 then (
    some (true,false)
   ) else (
    some (false,(y183==0))
   )
  ):Option (Bool×Bool)).bind fun v210 =>
  ((
   bif v210.2 then (
    some (true,(aW (((p.getD j ⟨0,[]⟩).Coef)+m.Coef)))
   ) else (
    some (v210.1,((p.getD j ⟨0,[]⟩).Coef))
   )
  ):Option (Bool×Int)).bind fun v219 =>
  ((
   bif (v219.2==0) then (
    some v199.1
   ) else (
    bR ((v199.1.length+1)*32≤140737488355328) <|
    some (v199.1++[(aa.mk v219.2 ((p.getD j ⟨0,[]⟩).Vars))])
   )
  ):Option (List aa)).bind fun v232 =>
  (some (.go (v232,v219.1)):Option (eM (List aa×Bool) (List aa×Bool) Empty)))=some (.go (zq m (p.getD j ⟨0,[]⟩) s)):=by
  intro j s hj hI;have hpl:=hB.1;have hxm:=hB.2 _ (cy (p:=p) (j:=j) hj);obtain ⟨r,e,k1,k2⟩:=vO (aP p j).Vars m.Vars hxm.1 hm;rw [show p.getD j ⟨0,[]⟩=aP p j from rfl,e];generalize aP p j=x at k1 k2 ⊢;obtain ⟨out,put⟩:=s;have hI:out.length≤2*j:=hI;obtain ⟨c,V⟩:=x;have hz:(c==0)=decide (c=0):=rfl;cases put with
  | true =>
   simp only [ah,cond_true,cond_false];unfold zq;rw [if_pos rfl];by_cases h:c=0
   ·rw [beq_iff_eq.2 h,if_pos h];rfl
   ·rw [beq_eq_false_iff_ne.2 h,if_neg h,cond_false,aq (by omega)];rfl
  | false =>
   simp only [ah,cond_false];unfold zq;rw [if_neg (by simp)];simp only at k1 k2;by_cases h1:0<cmpL V m.Vars
   ·rw [KO (show r>0 by omega),if_pos h1];simp only [cond_true];rw [aq (by omega)];simp only [ah,cond_true,cond_false];by_cases h:c=0
    ·rw [beq_iff_eq.2 h,if_pos h];rfl
    ·rw [beq_eq_false_iff_ne.2 h,if_neg h,cond_false,aq (by simp;omega)];rfl
   ·rw [KN (show ¬ r>0 by omega),if_neg h1];simp only [ah,cond_false];by_cases h2:cmpL V m.Vars=0
    ·rw [beq_iff_eq.2 (k2.2 h2),if_pos h2];simp only [ah,cond_true];by_cases h:aW (c+m.Coef)=0
     ·rw [beq_iff_eq.2 h,if_pos h];rfl
     ·rw [beq_eq_false_iff_ne.2 h,if_neg h,cond_false,aq (by omega)];rfl
    ·rw [beq_eq_false_iff_ne.2 (fun e=>h2 (k2.1 e)),if_neg h2];simp only [ah,cond_false];by_cases h:c=0
     ·rw [beq_iff_eq.2 h,if_pos h];rfl
     ·rw [beq_eq_false_iff_ne.2 h,if_neg h,cond_false,aq (by omega)];rfl
 rw [fP (f:=fun s=>s) ⟨0,[]⟩ p (fun x s=>.go (zq m x s)) (fun j s=>s.1.length≤2*j) (fun i s=>rfl) ([],(m.Coef==0)) (by simp) (fun j s hj hI=>⟨hbody j s hj hI,fun s' hs=>by cases hs;have:=Im m (p.getD j ⟨0,[]⟩) s;omega⟩)]
 unfold kg;by_cases hz:m.Coef=0
 ·rw [beq_iff_eq.2 hz,if_pos hz,mu h0];rfl
 ·rw [beq_eq_false_iff_ne.2 hz,if_neg hz];obtain ⟨s,h1,h2⟩:=xt h0 hw [];rw [h1];show (bif s.2 then some s.1 else bR ((s.1.length+1)*32≤140737488355328) <| some (s.1++[m]))=_;unfold Kr at h2;rw [List.nil_append] at h2;cases h3:s.2 with
  | true=>rw [h3,if_pos rfl] at h2;rw [← h2];rfl
  | false =>
   rw [h3,if_neg (by simp)] at h2;have h4:=sw m p;rw [← h2] at h4 ⊢;have:=hB.1;simp only [List.length_append,List.length_singleton] at h4;rw [cond_false,aq (by omega)]
end Go.Proofs.YtadjhpbkknifeaaGreatDoor
namespace Go.Sh
open Go.Ab
def A1 (x y:ai):Prop:=Op.bytesLess x y=true
theorem xk {a:List ai} (h:a.Pairwise A1):a.Nodup:=h.imp fun {x y} hxy e=>by subst e;unfold A1 at hxy;rw [eK] at hxy;cases hxy
theorem Bf {a b:List ai} (ha:a.Pairwise A1) (hb:b.Pairwise A1) (h:∀ v,v∈a↔v∈b):a=b :=
 List.Perm.eq_of_pairwise (fun x y _ _ h1 h2=>by have h3:=oF h1;unfold A1 at h2;rw [h2] at h3;cases h3) ha hb ((List.perm_ext_iff_of_nodup (xk ha) (xk hb)).2 h)
def px (v:ai):List ai→List ai
 | []=>[v]
 | x::r=>if Op.bytesLess x v=true then x::px v r else if x=v then x::r else v::x::r
theorem vX (v y:ai):∀ l,y∈px v l↔y=v∨y∈l
 | []=>by simp [px]
 | x::r=>by
  unfold px;split
  ·rw [List.mem_cons,vX v y r,List.mem_cons];constructor
   ·rintro (h | h | h)
    ·exact .inr (.inl h)
    ·exact .inl h
    ·exact .inr (.inr h)
   ·rintro (h | h | h)
    ·exact .inr (.inl h)
    ·exact .inl h
    ·exact .inr (.inr h)
  ·split
   ·rename_i e;constructor
    ·exact .inr
    ·rintro (h | h)
     ·rw [h,e];simp
     ·exact h
   ·simp
theorem sY {v:ai}:∀ {l:List ai},l.Pairwise A1→(px v l).Pairwise A1
 | [],_=>by simp [px]
 | x::r,h=>by
  have h2:=List.pairwise_cons.1 h;unfold px;split
  ·rename_i hx;refine List.pairwise_cons.2 ⟨fun y hy => ?_,sY h2.2⟩;rcases (vX v y r).1 hy with rfl | hy
   ·exact hx
   ·exact h2.1 y hy
  ·split
   ·exact h
   ·rename_i h3 h4;have hvx:A1 v x:=by
     rcases p8 v x with h5 | h5 | h5
     ·exact h5
     ·exact absurd h5.symm h4
     ·exact absurd h5 h3
    refine List.pairwise_cons.2 ⟨fun y hy => ?_,h⟩;rcases List.mem_cons.1 hy with rfl | hy
    ·exact hvx
    ·exact qJ hvx (h2.1 y hy)
theorem zG (v:ai):∀ l,(px v l).length≤l.length+1
 | []=>by simp [px]
 | x::r=>by
  have:=zG v r;unfold px;split
  ·simp;omega
  ·split<;>simp
theorem uw (v:ai):∀ (l:List ai) (u:Nat),(∀ i,i<u→Op.bytesLess (l.getD i []) v=true)→u≤l.length→(u<l.length→Op.bytesLess (l.getD u []) v=false) →
 px v l=if u<l.length∧l.getD u []=v then l else l.take u++[v]++l.drop u
 | [],u,_,hu,_=>by
  have:u=0:=by simpa using hu
  subst this;simp [px]
 | x::r,0,_,_,h=>by
  have h0:=h (by simp);simp only [List.getD_cons_zero] at h0;unfold px;rw [if_neg (by rw [h0];simp)];by_cases e:x=v
  ·rw [if_pos e,if_pos ⟨by simp,by simpa using e⟩]
  ·rw [if_neg e,if_neg (fun h=>e (by simpa using h.2))];rfl
 | x::r,u+1,h1,hu,h=>by have h0:=h1 0 (by omega);simp only [List.getD_cons_zero] at h0;unfold px;rw [if_pos h0,uw v r u (fun i hi=>by have:=h1 (i+1) (by omega);simpa using this) (by simpa using hu) (fun hl=>by have:=h (by simpa using hl);simpa using this)];simp only [List.length_cons,List.getD_cons_succ,Nat.add_lt_add_iff_right,List.take_succ_cons,List.drop_succ_cons,List.cons_append];split<;>rfl
theorem Cf {xs:List ai} {x:ai} (h:x∈xs):x∈Lib.compact xs:=by
 have key:∀ j,j<xs.length→xs.toArray[j]! ∈ Lib.compact xs:=by
  intro j;induction j with
  | zero =>
   intro hj;unfold Lib.compact Lib.compactUpTo;exact List.mem_map.2 ⟨0,List.mem_filter.2 ⟨List.mem_range.2 hj,by simp [Lib.keeps]⟩,rfl⟩
  | succ j ih =>
   intro hj;cases hk:Lib.keeps xs.toArray (j+1) with
   | true =>
    unfold Lib.compact Lib.compactUpTo;exact List.mem_map.2 ⟨j+1,List.mem_filter.2 ⟨List.mem_range.2 hj,hk⟩,rfl⟩
   | false =>
    unfold Lib.keeps at hk;simp only [decide_eq_false_iff_not,not_or,Nat.add_sub_cancel,Decidable.not_not,ne_eq] at hk;rw [hk.2];exact ih (by omega)
 obtain ⟨j,hj,rfl⟩:=List.getElem_of_mem h;have:=key j hj;rw [getElem!_pos xs.toArray j (by simpa using hj)] at this;simpa using this
theorem wu {xs:List ai} (h:xs.Pairwise (fun a b=>mv a b=true)):(Lib.compact xs).Pairwise A1:=by
 unfold Lib.compact Lib.compactUpTo;rw [List.pairwise_map];have hg:∀ j,j<xs.length→xs.toArray[j]! = xs.getD j []:=fun j hj=>by rw [getElem!_pos xs.toArray j (by simpa using hj),KH,KI hj];simp
 refine List.Pairwise.imp_of_mem (R:=(· < ·)) (fun {i j} hi hj hij => ?_) (List.Pairwise.filter _ List.pairwise_lt_range);obtain ⟨hi1,_⟩:=List.mem_filter.1 hi;obtain ⟨hj1,hj2⟩:=List.mem_filter.1 hj;have hi1:=List.mem_range.1 hi1;have hj1:=List.mem_range.1 hj1;unfold Lib.keeps at hj2;simp only [decide_eq_true_eq] at hj2;have hne:=hj2.resolve_left (by omega);rw [hg i hi1];rw [hg j hj1] at hne ⊢;rw [hg (j-1) (by omega)] at hne;have le:∀ i j,i≤j→j<xs.length→mv (xs.getD i []) (xs.getD j [])=true:=fun i j hij hj=>by
  by_cases e:i=j
  ·subst e;simp [mv,List.le_refl]
  ·have:=List.pairwise_iff_getElem.1 h i j (by omega) hj (by omega);simpa [KH,KI hj,KI (show i<xs.length by omega)] using this
 have h1:=le i (j-1) (by omega) (by omega);have h2:=le (j-1) j (by omega) hj1;have h3:=mH _ _ _ h1 h2;show A1 (xs.getD i []) (xs.getD j []);rcases p8 (xs.getD i []) (xs.getD j []) with h4 | h4 | h4
 ·exact h4
 ·exfalso;rw [h4] at h1;exact hne (v8 _ _ h2 h1).symm
 ·exfalso;have h5:mv (xs.getD j []) (xs.getD i [])=true:=by unfold mv;rw [decide_eq_true_eq];exact List.le_of_lt ((pz _ _).2 h4)
  have e:=v8 _ _ h3 h5;rw [e] at h4;rw [eK] at h4;cases h4
end Go.Sh
namespace Go.Proofs.YtadjhpbkknifeaaGreatDoor
open Go.Ab Go.Sh Go.Sort
def varsOf (p:List aa):List ai:=(p.map aa.Vars).flatten
theorem va {p:List aa} {k:Nat} (h:∀ m∈p,m.Vars.length≤k):(varsOf p).length≤p.length*k:=by
 induction p with
 | nil=>simp [varsOf]
 | cons m p ih =>
  have:=ih fun n hn=>h n (by simp [hn]);have h1:=h m (by simp);unfold varsOf at this ⊢;rw [List.map_cons,List.flatten_cons,List.length_append,List.length_cons,Nat.add_mul,Nat.one_mul];omega
theorem rz {p:List aa} (hB:Bd p):∃ r,gD p=some r∧(aA p=false→r=[])∧(aA p=true→r.Pairwise A1∧∀ v,v∈r↔v∈varsOf p):=by
 unfold gD;rw [cp p hB];cases hv:aA p with
 | false=>exact ⟨[],rfl,fun _=>rfl,fun h=>by cases h⟩
 | true =>
  have o:=de hv;have h8:∀ m∈p,m.Vars.length≤8:=fun m hm=>(rT hv hm).1;have ho:=o.1;simp only [ah,cond_true];obtain ⟨s,e,hI⟩:=eD (ρ:=Empty) (σ:=List ai) (ε:=List ai) (body:=fun i27 s26 =>
   bR ((s26.length+((p.getD i27 ⟨0,[]⟩).Vars).length)*16≤140737488355328) <|
   some (.go (s26++((p.getD i27 ⟨0,[]⟩).Vars)))) (fin:=fun i27 s26=>s26)
   (fun j s=>s=varsOf (p.take j)) (p.length-0) 0 [] rfl (fun j s _ hj hI=>by
    have hjp:j<p.length:=by omega
    have hm:=cy (p:=p) (j:=j) hjp;have h1:=h8 _ hm;have h2:=va (p:=p.take j) (k:=8) fun m hm=>h8 m (List.mem_of_mem_take hm);rw [List.length_take] at h2;subst hI;refine ⟨varsOf (p.take j)++(aP p j).Vars,?_,?_⟩
    ·rw [show p.getD j ⟨0,[]⟩=aP p j from rfl,aq (by omega)]
    ·rw [oB p j hjp];unfold varsOf;simp)
  rw [Nat.zero_add,Nat.sub_zero,List.take_length] at hI;subst hI;have h2:=va (p:=p) (k:=8) h8;rw [e];refine ⟨Lib.compact (sortS (varsOf p)),?_,(fun h=>by cases h),fun _=>⟨wu (s5 _),fun v => ?_⟩⟩
  ·simp only [ah,dJ];unfold oc;rw [aq (by omega)];simp only [ah];unfold jr;rw [aq (by rw [(oZ _).length_eq];omega)];rfl
  ·constructor
   ·intro h;exact (oZ _).mem_iff.1 (s8 h)
   ·intro h;exact Cf ((oZ _).mem_iff.2 h)
theorem HW {l:List ai} (V:List ai) {k:Nat} (hk:k<V.length):∃ u,cV (σ:=Unit) (ε:=Nat) (ρ:=Empty) (fun i2484 s2483 =>
 bR (0≤((k:Nat):Int)∧((k:Nat):Int)<(V.length:Int)) <|
 bif (Op.bytesLess (l.getD i2484 []) (V.getD ((k:Nat):Int).toNat [])) then (
  some (.go ())
 ) else (
  some (.brk i2484)
 )
 ) (fun i2484 s2483=>i2484) (l.length-0) 0 ()=some (.brk u)∧u≤l.length∧(∀ i,i<u→Op.bytesLess (l.getD i []) (V.getD k [])=true)∧(u<l.length→Op.bytesLess (l.getD u []) (V.getD k [])=false):=by
 have hp:=oY (ρ:=Empty) (body:=fun i2484 s2483 =>
  bR (0≤((k:Nat):Int)∧((k:Nat):Int)<(V.length:Int)) <|
  bif (Op.bytesLess (l.getD i2484 []) (V.getD ((k:Nat):Int).toNat [])) then (
   some (.go ())
  ) else (
   some (.brk i2484)
  )) (fun j => !(Op.bytesLess (l.getD j []) (V.getD k []))) (l.length-0) 0 () (fun j u _ hj=>by
  rw [aq (by omega),Int.toNat_natCast];cases Op.bytesLess (l.getD j []) (V.getD k [])<;>rfl)
 refine ⟨_,hp,?_⟩;cases hf:(List.range' 0 (l.length-0)).find? (fun j => !(Op.bytesLess (l.getD j []) (V.getD k []))) with
 | none =>
  rw [List.find?_eq_none] at hf;refine ⟨by simp,fun i hi => ?_,fun h=>by simp at h⟩;have:=hf i (by simp only [List.mem_range'_1];simp at hi;omega);simpa using this
 | some j =>
  obtain ⟨h1,xs1,xs2,h2,h3⟩:=List.find?_eq_some_iff_append.1 hf;have hjm:j∈List.range' 0 (l.length-0):=by rw [h2];simp
  have hjl:j<l.length:=by simp only [List.mem_range'_1] at hjm;omega
  refine ⟨by show j≤_;omega,fun i hi => ?_,fun _=>by simpa using h1⟩;have hi:i<j:=hi;have hias:i∈xs1:=by
   have him:i∈xs1++j::xs2:=by rw [← h2];simp only [List.mem_range'_1];omega
   rcases List.mem_append.1 him with h | h
   ·exact h
   ·exfalso;have hs:(xs1++j::xs2).Pairwise (· < ·):=by rw [← h2];exact List.pairwise_lt_range'
    rw [List.pairwise_append] at hs;rcases List.mem_cons.1 h with rfl | h
    ·omega
    ·have:=(List.pairwise_cons.1 hs.2.1).1 i h;omega
  simpa using h3 i hias
theorem o7 {p:List aa} (h:aA p=true) {m:aa} (hm:m∈p) : -1099511627776≤m.Coef∧m.Coef≤1099511627776:=by have:=kd h hm;unfold BA at this;simp only [KJ,decide_eq_true_eq,Bool.not_eq_true',beq_eq_false_iff_ne] at this;exact ⟨this.2.1,this.2.2.1⟩
theorem iH {p:List aa} (hB:Bd p):cU p=some (limited p):=by unfold cU limited;rw [bt p hB];cases aA p<;>rfl
theorem Hy {f:List ai→Int} {p:List aa} (h:bK f p) {V:List ai} (hb:f V < -1099511627776∨1099511627776<f V):limited p=([],3):=by
 unfold limited;cases hv:aA p with
 | false=>rfl
 | true =>
  exfalso;have hm:(⟨f V,V⟩:aa)∈p:=(h.mem _).2 ⟨by show f V≠0;omega,rfl⟩;have:=o7 hv hm;simp only at this;omega
theorem oU {B:Int} (V:List ai):∀ {L:List jA},0≤B→(∀ c∈L,-B≤c.2.1*c.2.2∧c.2.1*c.2.2≤B) → -((L.length:Int)*B)≤aK L V∧aK L V≤(L.length:Int)*B
 | [],_,_=>by simp [aK]
 | c::L,h0,h=>by
  have ih:=oU V (L:=L) h0 fun c hc=>h c (by simp [hc]);have hc:=h c (by simp);have e:(((c::L).length:Nat):Int)*B=(L.length:Int)*B+B:=by rw [List.length_cons,Int.natCast_add,Int.add_mul];simp
  rw [e];generalize (L.length:Int)*B=X at ih ⊢;unfold aK;split<;>omega
theorem j5 {L:List jA} {p:List aa} (h:bK (aK L) p) {m:aa} (hm:m∈p):∃ c∈L,c.1=m.Vars:=by have:=(h.mem m).1 hm;exact sE (by rw [← this.2];exact this.1)
def Kp (V:List ai):Prop:=V.length≤1000000∧∀ v∈V,v.length≤1000000
theorem mB {L:List jA} {p:List aa} (h:bK (aK L) p) (hl:p.length≤1000000) (hL:∀ c∈L,Kp c.1):Bd p:=⟨hl,fun m hm=>by obtain ⟨c,hc,e⟩:=j5 h hm;have:=hL c hc;rw [e] at this;exact this⟩
theorem vx {m:aa} (h:pw m):Kp m.Vars:=⟨by have:=h.1.1;omega,fun v hv=>by have:=(h.1.2 v hv).2;omega⟩
theorem FP {a b:List aa} {k:Int} (hk:k=1∨k = -1) (hva:aA a=true) (hvb:aA b=true):∃ p,bK (aK (a.map (fH 1)++b.map (fH k))) p∧Bd p∧jm a b k=some p:=by
 have oa:=de hva;have ob:=de hvb;have ha60:=oa.1;have hb60:=ob.1;have hbd:∀ c∈a.map (fH 1)++b.map (fH k),Kp c.1:=fun c hc=>by
  rcases List.mem_append.1 hc with hc | hc
  ·obtain ⟨n,hn,rfl⟩:=List.mem_map.1 hc;exact vx (oa.2 n hn)
  ·obtain ⟨n,hn,rfl⟩:=List.mem_map.1 hc;exact vx (ob.2 n hn)
 have hsmall:∀ c∈a.map (fH 1)++b.map (fH k),-1099511627776≤c.2.1*c.2.2∧c.2.1*c.2.2≤1099511627776:=fun c hc=>by
  rcases List.mem_append.1 hc with hc | hc
  ·obtain ⟨n,hn,rfl⟩:=List.mem_map.1 hc;have:=o7 hva hn;show -1099511627776≤n.Coef*1∧n.Coef*1≤1099511627776;omega
  ·obtain ⟨n,hn,rfl⟩:=List.mem_map.1 hc;have:=o7 hvb hn;show -1099511627776≤n.Coef*k∧n.Coef*k≤1099511627776;rcases hk with rfl | rfl<;>omega
 unfold jm;rw [aq (by omega)];have hsub:∀ j,∀ c∈a.map (fH 1)++(b.take j).map (fH k),c∈a.map (fH 1)++b.map (fH k):=fun j c hc=>by
  rcases List.mem_append.1 hc with hc | hc
  ·exact List.mem_append.2 (.inl hc)
  ·obtain ⟨n,hn,rfl⟩:=List.mem_map.1 hc;exact List.mem_append.2 (.inr (List.mem_map.2 ⟨n,List.mem_of_mem_take hn,rfl⟩))
 obtain ⟨s',e,hI⟩:=eD (ρ:=Empty) (σ:=List aa) (ε:=List aa) (body:=fun i24 s23 =>
  (bX s23 (aa.mk (aW (k*((b.getD i24 ⟨0,[]⟩).Coef))) ((b.getD i24 ⟨0,[]⟩).Vars))).bind fun y49 =>
  some (.go y49)) (fin:=fun i24 s23=>s23)
  (fun j s=>bK (aK (a.map (fH 1)++(b.take j).map (fH k))) s∧s.length≤60+j) (b.length-0) 0 a (by
   simp only [List.take_zero,List.map_nil,List.append_nil];exact ⟨CB hva,by omega⟩) (fun j s _ hj ⟨hI,hl⟩=>by
   have hjb:j<b.length:=by omega
   have hm:=cy (p:=b) (j:=j) hjb;have hc:=o7 hvb hm;have hkc:aW (k*(aP b j).Coef)=(aP b j).Coef*k:=by
    rcases hk with rfl | rfl
    ·rw [av (by omega) (by omega)];omega
    ·rw [av (by omega) (by omega)];omega
   have e1:bX s ⟨aW (k*(aP b j).Coef),(aP b j).Vars⟩=some (kg s ⟨aW (k*(aP b j).Coef),(aP b j).Vars⟩):=by
    refine iV (mB hI (by omega) fun c hc=>hbd c (hsub j c hc)) (vx (ob.2 _ hm)).1 (fun x hx=>((hI.mem x).1 hx).1) fun x hx _ => ?_;have h1:=((hI.mem x).1 hx).2;have h2:=oU (B:=1099511627776) x.Vars (by omega) (fun c hc=>hsmall c (hsub j c hc));have hlen:(a.map (fH 1)++(b.take j).map (fH k)).length≤120:=by simp only [List.length_append,KP,List.length_take];omega
    rw [← h1] at h2;simp only [hkc];generalize (a.map (fH 1)++(b.take j).map (fH k)).length=len at h2 hlen;rcases hk with rfl | rfl
    ·exact av (by omega) (by omega)
    ·exact av (by omega) (by omega)
   refine ⟨kg s ⟨aW (k*(aP b j).Coef),(aP b j).Vars⟩,?_,?_,?_⟩
   ·show (bX s ⟨aW (k*(aP b j).Coef),(aP b j).Vars⟩).bind _=_;rw [e1];rfl
   ·rw [oB b j hjb,List.map_append,← List.append_assoc];have:=ng hI (m:=⟨aW (k*(aP b j).Coef),(aP b j).Vars⟩) (a:=(aP b j).Coef) (b:=k) hkc;exact this
   ·have:=pq s ⟨aW (k*(aP b j).Coef),(aP b j).Vars⟩;omega)
 rw [Nat.zero_add,Nat.sub_zero,List.take_length] at hI;refine ⟨s',hI.1,mB hI.1 (by have:=hI.2;omega) hbd,?_⟩;rw [e];rfl
theorem GR {a:List aa} (h:aA a=true) (k:Int):a.map (sf k)=a.map (fH k) :=
 List.map_congr_left fun m hm=>by unfold sf fH;rw [zb h m hm]
theorem rB {a b:List aa} {k:Int} (ha:Bd a) (hb:Bd b) (h:aA a=false∨aA b=false):fL [a,b] [1,k]=some ([],1):=by
 unfold fL;rw [show cX=some ([],[],[]) from rfl];simp only [ah];cases hva:aA a with
 | false =>
  show (((bp a).bind fun y79=>_).bind _).bind _=_;rw [cp a ha,hva];rfl
 | true =>
  have hvb:aA b=false:=by
   rcases h with h | h
   ·rw [hva] at h;cases h
   ·exact h
  have oa:=de hva;obtain ⟨y,e,hs⟩:=p7 (k:=1) (s:=([],[],[])) im.nil (fun c hc=>(by cases hc)) oa rfl (by simp);show (((bp a).bind fun y79=>_).bind _).bind _=_;rw [cp a ha,hva];simp only [ah,cond_true];rw [aq (by simp)];rw [show (([1,k]:List Int).drop 0).take (0+1-0)=[1] from rfl,show [a,b].getD 0 []=a from rfl,e];simp only [ah,oy];show (((bp b).bind fun y79=>_).bind _).bind _=_;rw [cp b hb,hvb];rfl
theorem Ge {a b:List aa} (ha:Bd a) (hb:Bd b):∃ r,fD a b=some r∧gB a b=some r:=by
 cases hva:aA a with
 | false =>
  refine ⟨([],1),?_,?_⟩
  ·unfold fD;rw [rB ha hb (.inl hva)];rfl
  ·unfold gB;rw [bt a ha,hva];rfl
 | true =>
  cases hvb:aA b with
  | false =>
   refine ⟨([],1),?_,?_⟩
   ·unfold fD;rw [rB ha hb (.inr hvb)];rfl
   ·unfold gB;rw [bt a ha,hva,bt b hb,hvb];rfl
  | true =>
   obtain ⟨p,h1,_,h2⟩:=oH ha hb hva hvb;obtain ⟨q,h3,h4,h5⟩:=FP (.inl rfl) hva hvb;rw [GR hva,GR hvb] at h1;have:=bK.uniq h1 h3;subst this;refine ⟨limited p,h2,?_⟩;unfold gB;rw [bt a ha,hva,bt b hb,hvb];simp only [ah,cond_true];rw [h5];simp only [ah];rw [iH h4];rfl
end Go.Proofs.YtadjhpbkknifeaaGreatDoor
namespace Go.Sh
theorem zO {σ ε ρ:Type} {body:Nat→σ→Option (eM σ ε ρ)} {fin:Nat→σ→ε} (I:Nat→σ→Prop) (r:ρ) (Bad:Prop):∀ (k i:Nat) (s:σ),I i s →
 (∀ j s,i≤j→j<i+k→I j s→(∃ s',body j s=some (.go s')∧I (j+1) s')∨(body j s=some (.ret r)∧Bad)) →
 (∃ s',cV body fin k i s=some (.brk (fin (i+k) s'))∧I (i+k) s')∨(cV body fin k i s=some (.ret r)∧Bad)
 | 0,i,s,hI,h=>.inl ⟨s,by simp [cV],hI⟩
 | k+1,i,s,hI,h=>by
  rcases h i s (Nat.le_refl _) (by omega) hI with ⟨s1,h1,h2⟩ | ⟨h1,h2⟩
  ·rcases zO I r Bad k (i+1) s1 h2 (fun j s h1 h2=>h j s (by omega) (by omega)) with ⟨s',e1,e3⟩ | ⟨e1,e2⟩
   ·refine .inl ⟨s',?_,by rw [show i+(k+1)=i+1+k by omega];exact e3⟩;simp only [cV,h1,Option.bind_some,oy];rw [e1,show i+1+k=i+(k+1) by omega]
   ·refine .inr ⟨?_,e2⟩;simp only [cV,h1,Option.bind_some,oy];exact e1
  ·exact .inr ⟨by simp [cV,h1,oy],h2⟩
end Go.Sh
namespace Go.Proofs.YtadjhpbkknifeaaGreatDoor
open Go.Ab Go.Sh
def BB (n:Int):Bool:=decide (-1000000≤n)&&decide (n≤1000000)
theorem rN (n:Int):j9 n=some (BB n):=by
 unfold j9 BB;by_cases h:n ≥ -1000000
 ·rw [KO h];rfl
 ·rw [KN h];rfl
theorem oG (n:Int):gI n=some (BB n):=by
 unfold gI BB;by_cases h:n ≥ -1000000
 ·rw [KO h];rfl
 ·rw [KN h];rfl
def mr (l:Linear) (j:Nat):Coef:=l.Terms.getD j ⟨[],0⟩
def iW (l:Linear) (j:Nat):Bool:=cR (mr l j).Var&&(!((mr l j).C==0)&&(BB (mr l j).C&&(!decide (((j:Nat):Int)>0)||Op.bytesLess (mr l (j-1)).Var (mr l j).Var)))
def bU (l:Linear):Bool:=(List.range' 0 (l.Terms.length-0)).all (iW l)&&(BB l.Const&&decide (l.Terms.length≤12))
theorem zI {j:Nat} (h:0<j) (h2:j≤9223372036854775807):aW (((j:Nat):Int)-1)=((j-1:Nat):Int):=by rw [yP (by unfold wV;omega)];omega
theorem HR {l:List Coef} {n:Nat} (h:∀ t∈l,t.Var.length≤n) (j:Nat):(l.getD j ⟨[],0⟩).Var.length≤n:=by
 rw [KH];cases h1:l[j]? with
 | none=>simp
 | some x=>exact h x (List.mem_of_getElem? h1)
theorem nO (l:Linear) (h1:l.Terms.length≤1000000) (h2:∀ t∈l.Terms,t.Var.length≤1000000):eS l=some (bU l):=by
 unfold eS;rw [fq (iW l) _ _ () (fun j u _ hj=>by
  rw [om _ (HR h2 j),rN];simp only [iW,mr,Option.bind_some];cases cR (l.Terms.getD j ⟨[],0⟩).Var
  ·rfl
  ·cases (l.Terms.getD j ⟨[],0⟩).C==0
   ·cases BB (l.Terms.getD j ⟨[],0⟩).C
    ·rfl
    ·by_cases hp:0<j
     ·rw [KO (show ((j:Nat):Int)>0 by omega),zI hp (by omega)];rw [aq (by omega)];simp only [Int.toNat_natCast,cond_true,cond_false,Bool.not_true,Bool.false_or,Bool.true_and,Bool.not_false];cases Op.bytesLess (l.Terms.getD (j-1) ⟨[],0⟩).Var (l.Terms.getD j ⟨[],0⟩).Var<;>rfl
     ·rw [KN (show ¬ ((j:Nat):Int)>0 by omega)];rfl
   ·rfl),gn,rN]
 unfold bU;cases (List.range' 0 (l.Terms.length-0)).all (iW l)
 ·rfl
 ·cases BB l.Const
  ·rfl
  ·simp only [cond_true,Option.bind_some,Bool.true_and,KR];rw [decide_eq_decide];omega
theorem gZ (l:Linear):fA l=some (bU l):=by
 unfold fA;rw [oG];unfold bU;by_cases h12:l.Terms.length≤12
 ·rw [KN (show ¬ ((l.Terms.length:Nat):Int)>12 by omega),KO h12];rw [fq (iW l) _ _ () (fun j u _ hj=>by
   rw [pP,oG];simp only [iW,mr,Option.bind_some];cases cR (l.Terms.getD j ⟨[],0⟩).Var
   ·rfl
   ·cases (l.Terms.getD j ⟨[],0⟩).C==0
    ·cases BB (l.Terms.getD j ⟨[],0⟩).C
     ·rfl
     ·by_cases hp:0<j
      ·rw [KO (show ((j:Nat):Int)>0 by omega),zI hp (by omega)];rw [aq (by omega)];simp only [Int.toNat_natCast,cond_true,cond_false,Bool.not_true,Bool.false_or,Bool.true_and,Bool.not_false];cases Op.bytesLess (l.Terms.getD (j-1) ⟨[],0⟩).Var (l.Terms.getD j ⟨[],0⟩).Var<;>rfl
      ·rw [KN (show ¬ ((j:Nat):Int)>0 by omega)];rfl
    ·rfl),gn]
  cases (List.range' 0 (l.Terms.length-0)).all (iW l)<;>cases BB l.Const<;>rfl
 ·rw [KO (show ((l.Terms.length:Nat):Int)>12 by omega),KN h12];cases (List.range' 0 (l.Terms.length-0)).all (iW l)<;>cases BB l.Const<;>rfl
def KG (l:Linear):Prop:=l.Terms.length≤1000000∧∀ t∈l.Terms,t.Var.length≤1000000
open Go.Sort
theorem wH {p:List aa} (hB:Bd p):∃ r,fE p=some r∧(aA p=false→r=[])∧(aA p=true→r.Pairwise A1∧∀ v,v∈r↔v∈varsOf p):=by
 unfold fE;rw [bt p hB];cases hv:aA p with
 | false=>exact ⟨[],rfl,fun _=>rfl,fun h=>by cases h⟩
 | true =>
  have o:=de hv;have h8:∀ m∈p,m.Vars.length≤8:=fun m hm=>(rT hv hm).1;have ho:=o.1;simp only [ah,cond_true];obtain ⟨s,e,hI⟩:=eD (ρ:=Empty) (σ:=List ai) (ε:=List ai) (body:=fun i1241 s1240 =>
   (qG (σ:=((List ai)×Int)) (ε:=(List ai)) (ρ:=Empty) (fun s2292 =>
    bif decide (s2292.2<((((p.getD i1241 ⟨0,[]⟩).Vars).length:Nat):Int)) then (
     (cV (σ:=Unit) (ε:=Nat) (ρ:=Empty) (fun i2484 s2483 =>
      bR (0≤s2292.2∧s2292.2<(((p.getD i1241 ⟨0,[]⟩).Vars).length:Int)) <|
      bif (Op.bytesLess (s2292.1.getD i2484 []) (((p.getD i1241 ⟨0,[]⟩).Vars).getD s2292.2.toNat [])) then (
       some (.go ())
      ) else (
       some (.brk i2484)
      )
     ) (fun i2484 s2483=>i2484) (s2292.1.length-0) 0 ()).bind <| dJ fun u2531 =>
     ((
      bif (((u2531:Nat):Int)==((s2292.1.length:Nat):Int)) then (
       some true
      ) else (
       bR (u2531<s2292.1.length) <|
       bR (0≤s2292.2∧s2292.2<(((p.getD i1241 ⟨0,[]⟩).Vars).length:Int)) <|
       some (!((s2292.1.getD u2531 [])==(((p.getD i1241 ⟨0,[]⟩).Vars).getD s2292.2.toNat [])))
      )
     ):Option Bool).bind fun v2542 =>
     ((
      bif v2542 then (
       bR (u2531≤s2292.1.length) <|
       bR ((0+(s2292.1.take u2531).length)*16≤140737488355328) <|
       bR (0≤s2292.2∧s2292.2<(((p.getD i1241 ⟨0,[]⟩).Vars).length:Int)) <|
       bR (((s2292.1.take u2531).length+[(((p.getD i1241 ⟨0,[]⟩).Vars).getD s2292.2.toNat [])].length)*16≤140737488355328) <|
       bR ((((s2292.1.take u2531)++[(((p.getD i1241 ⟨0,[]⟩).Vars).getD s2292.2.toNat [])]).length+(s2292.1.drop u2531).length)*16≤140737488355328) <|
       some (((s2292.1.take u2531)++[(((p.getD i1241 ⟨0,[]⟩).Vars).getD s2292.2.toNat [])])++(s2292.1.drop u2531))
      ) else (
       some s2292.1
      )
     ):Option (List ai)).bind fun v2575 =>
     some (.go (v2575,(aW (s2292.2+1))))
    ) else (
     some (.brk s2292.1)
    )
   ) 4294967296 (s1240,0)).bind <| dJ fun u2597 =>
   some (.go u2597)) (fin:=fun i1241 s1240=>s1240)
   (fun j s=>s.Pairwise A1∧s.length≤8*j∧∀ v,v∈s↔v∈varsOf (p.take j)) (p.length-0) 0 [] ⟨by simp,by simp,fun v=>by simp [varsOf]⟩ (fun j s _ hj ⟨hI1,hI2,hI3⟩=>by
    have hjp:j<p.length:=by omega
    have hm:=cy (p:=p) (j:=j) hjp;rw [show p.getD j ⟨0,[]⟩=aP p j from rfl];have h1:=h8 _ hm;generalize hV:(aP p j).Vars=V at h1;generalize hbd:(fun (s2292:List ai×Int)=>_:List ai×Int→Option (eM (List ai×Int) (List ai) Empty))=body;have e0:∀ (k:Nat) (l:List ai),l.length≤8*j+k→k<V.length→body (l,((k:Nat):Int))=some (.go (px (V.getD k []) l,((k+1:Nat):Int))):=by
     intro k l hl hk;rw [← hbd];simp only;have w1:aW (((k:Nat):Int)+1)=((k+1:Nat):Int):=by rw [av (by omega) (by omega)];omega
     obtain ⟨u,e1,u1,u2,u3⟩:=HW (l:=l) V hk;rw [KO (show ((k:Nat):Int)<((V.length:Nat):Int) by omega),w1];simp only [cond_true];rw [e1];simp only [ah,dJ,Int.toNat_natCast];rw [uw (V.getD k []) l u u2 u1 u3];by_cases hu:u=l.length
     ·rw [beq_iff_eq.2 (show ((u:Nat):Int)=((l.length:Nat):Int) by omega),if_neg (by omega)];simp only [cond_true,ah];rw [aq (by omega),aq (by rw [List.length_take];omega),aq (by omega),aq (by rw [List.length_take];simp;omega),aq (by simp;omega)];rfl
     ·have hlt:u<l.length:=by omega
      rw [beq_eq_false_iff_ne.2 (show ((u:Nat):Int)≠((l.length:Nat):Int) by omega)];simp only [cond_false];rw [aq hlt,aq (by omega)];simp only [ah];by_cases hc:l.getD u []=V.getD k []
      ·rw [if_pos ⟨hlt,hc⟩,beq_iff_eq.2 hc];rfl
      ·rw [if_neg (fun h=>hc h.2),beq_eq_false_iff_ne.2 hc];simp only [Bool.not_false,cond_true];rw [aq (by omega),aq (by rw [List.length_take];omega),aq (by omega),aq (by rw [List.length_take];simp;omega),aq (by simp;omega)];rfl
    have eN:∀ (l:List ai),body (l,((V.length:Nat):Int))=some (.brk l):=by intro l;rw [← hbd];simp only;rw [KN (by omega)];rfl
    have key:∀ (n k fuel:Nat) (l:List ai),k+n=V.length→n<fuel→l.length≤8*j+k→l.Pairwise A1→∃ l',qG body fuel (l,((k:Nat):Int))=some (.brk l')∧l'.Pairwise A1∧l'.length≤l.length+n∧∀ v,v∈l'↔v∈l∨v∈V.drop k:=by
     intro n;induction n with
     | zero =>
      intro k fuel l hk hf hl hs;obtain ⟨f,rfl⟩:∃ f,fuel=f+1:=⟨fuel-1,by omega⟩;have ek:k=V.length:=by omega
      subst ek;refine ⟨l,?_,hs,by omega,fun v=>by simp⟩;simp only [qG,eN,ah,oy]
     | succ n ih =>
      intro k fuel l hk hf hl hs;obtain ⟨f,rfl⟩:∃ f,fuel=f+1:=⟨fuel-1,by omega⟩;have hlen:=zG (V.getD k []) l;obtain ⟨l',k1,k2,k3,k4⟩:=ih (k+1) f (px (V.getD k []) l) (by omega) (by omega) (by omega) (sY hs);refine ⟨l',?_,k2,by omega,fun v => ?_⟩
      ·simp only [qG,e0 k l hl (by omega),ah,oy];exact k1
      ·rw [k4,vX,drop_cons (show k<V.length by omega),List.mem_cons];constructor
       ·rintro ((h | h) | h)
        ·exact .inr (.inl h)
        ·exact .inl h
        ·exact .inr (.inr h)
       ·rintro (h | h | h)
        ·exact .inl (.inr h)
        ·exact .inl (.inl h)
        ·exact .inr h
    obtain ⟨l',k1,k2,k3,k4⟩:=key V.length 0 4294967296 s (by omega) (by omega) (by omega) hI1;refine ⟨l',?_,k2,by omega,fun v => ?_⟩
    ·show (qG body 4294967296 (s,((0:Nat):Int))).bind _=_;rw [k1];rfl
    ·rw [k4,List.drop_zero,hI3,oB p j hjp];unfold varsOf;rw [List.map_append,List.flatten_append,List.mem_append];simp [hV])
  rw [Nat.zero_add,Nat.sub_zero,List.take_length] at hI;refine ⟨s,?_,(fun h=>by cases h),fun _=>⟨hI.1,hI.2.2⟩⟩;rw [e];rfl
theorem D4 {p:List aa} (hB:Bd p):∃ r,gD p=some r∧fE p=some r:=by
 obtain ⟨r1,e1,f1,g1⟩:=rz hB;obtain ⟨r2,e2,f2,g2⟩:=wH hB;refine ⟨r1,e1,?_⟩;rw [e2];cases hv:aA p with
 | false=>rw [f1 hv,f2 hv]
 | true =>
  obtain ⟨a1,a2⟩:=g1 hv;obtain ⟨b1,b2⟩:=g2 hv;rw [Bf a1 b1 fun v=>by rw [a2,b2]]
theorem yG {l:Linear} {n:Int} (h:fO l n=some true):l.Terms.length≤n∧∀ t∈l.Terms,t.Var.length≤40:=by
 unfold fO at h;rw [fq (r:=false) (fun j=>decide ((l.Terms.getD j ⟨[],0⟩).Var.length≤40)) _ _ () (fun j u _ hj=>by
  by_cases hc:(l.Terms.getD j ⟨[],0⟩).Var.length≤40
  ·rw [KN (by omega),KO hc];rfl
  ·rw [KO (by omega),KN hc];rfl),gn] at h
 rw [Ey (fun t:Coef=>decide (t.Var.length≤40)) ⟨[],0⟩ l.Terms] at h;cases hc:l.Terms.all (fun t:Coef=>decide (t.Var.length≤40)) with
 | false=>rw [hc] at h;simp at h
 | true =>
  rw [hc] at h;simp only [cond_true,KR,decide_eq_true_eq] at h;refine ⟨h,fun t ht => ?_⟩;have:=KU.1 hc t ht;simpa using this
theorem vB (l:Linear) (n:Int):∃ b,fO l n=some b:=by
 unfold fO;rw [fq (r:=false) (fun j=>decide ((l.Terms.getD j ⟨[],0⟩).Var.length≤40)) _ _ () (fun j u _ hj=>by
  by_cases hc:(l.Terms.getD j ⟨[],0⟩).Var.length≤40
  ·rw [KN (by omega),KO hc];rfl
  ·rw [KO (by omega),KN hc];rfl),gn]
 cases (List.range' 0 (l.Terms.length-0)).all (fun j=>decide ((l.Terms.getD j ⟨[],0⟩).Var.length≤40)) with
 | false=>exact ⟨_,rfl⟩
 | true=>exact ⟨_,rfl⟩
theorem CG:bK (aK []) []:=⟨by simp,fun m=>by simp [aK]⟩
theorem pZ:Bd []:=⟨by simp,fun m hm=>by cases hm⟩
theorem xe {l:Linear} (h:bU l=true):l.Terms.length≤12∧(-1000000≤l.Const∧l.Const≤1000000)∧∀ j,j<l.Terms.length→cR (mr l j).Var=true∧(mr l j).C≠0∧(-1000000≤(mr l j).C∧(mr l j).C≤1000000)∧(0<j→Op.bytesLess (mr l (j-1)).Var (mr l j).Var=true):=by
 unfold bU at h;simp only [KJ,decide_eq_true_eq] at h;obtain ⟨h1,h2,h3⟩:=h;have h2 : -1000000≤l.Const∧l.Const≤1000000:=by simpa [BB] using h2
 refine ⟨h3,h2,fun j hj => ?_⟩;have:=KU.1 h1 j (by simp only [List.mem_range'_1];omega);unfold iW BB at this;simp only [KJ,decide_eq_true_eq,Bool.not_eq_true',beq_eq_false_iff_ne,Bool.or_eq_true,decide_eq_false_iff_not] at this;obtain ⟨g1,g2,g3,g4⟩:=this;exact ⟨g1,g2,g3,fun h0=>g4.resolve_left (by omega)⟩
theorem JB {l:Linear} (h:bU l=true):∀ j i,i<j→j<l.Terms.length→Op.bytesLess (mr l i).Var (mr l j).Var=true:=by
 obtain ⟨_,_,h3⟩:=xe h;intro j;induction j with
 | zero=>intro i hi;omega
 | succ j ih =>
  intro i hi hj;have h4:=(h3 (j+1) hj).2.2.2 (by omega);rw [Nat.add_sub_cancel] at h4;by_cases e:i=j
  ·rw [e];exact h4
  ·exact qJ (ih i (by omega) (by omega)) h4
theorem IQ (l:Linear) (j:Nat) (h:j<l.Terms.length):l.Terms.take (j+1)=l.Terms.take j++[mr l j]:=by rw [List.take_add_one,KI h];simp [mr,KH,KI h]
def E5 (t:Coef):jA:=([t.Var],t.C,1)
theorem CU {v:ai} (h:cR v=true):DB [v]:=⟨by simp,fun w hw=>by
 have:w=v:=by simpa using hw
 subst this;have:=zT h;exact ⟨this.1,by have:=this.2;omega⟩⟩
theorem AK {l:Linear} (h1:l.Terms.length≤1000000) (h2:∀ t∈l.Terms,t.Var.length≤1000000) (hv:bU l=true):∃ p,bK (aK (([([],l.Const,1)]:List jA)++l.Terms.map E5)) p∧Bd p∧dT l=some (limited p)∧jk l=some (limited p):=by
 unfold dT jk;rw [nO l h1 h2,gZ l,hv];obtain ⟨v1,v2,v3⟩:=xe hv;simp only [ah,cond_true];rw [show cX=some ([],[],[]) from rfl];simp only [ah];have h0:DB []:=⟨by simp,fun v hv=>by cases hv⟩;have hinC:ct l.Const=true:=bH.2 (by omega);obtain ⟨y,e,hs2⟩:=tU (a:=l.Const) (b:=1) im.nil (fun c hc=>(by cases hc)) (by simp) h0;rw [List.nil_append] at hs2;rw [e];simp only [ah];have hokc:∀ j,∀ c∈([([],l.Const,1)]:List jA)++(l.Terms.take j).map E5,CI c:=fun j c hc=>by
  rcases List.mem_append.1 hc with hc | hc
  ·have:c=([],l.Const,1):=by simpa using hc
   rw [this];exact ⟨h0,hinC,rfl⟩
  ·obtain ⟨t,ht,rfl⟩:=List.mem_map.1 hc;obtain ⟨i,hi,rfl⟩:=List.getElem_of_mem (List.mem_of_mem_take ht);have h5:=v3 i hi;have e5:mr l i=l.Terms[i]:=by simp [mr,KH,KI hi]
   rw [e5] at h5;exact ⟨CU h5.1,bH.2 (by have:=h5.2.2.1;show _≤l.Terms[i].C∧l.Terms[i].C≤_;omega),rfl⟩
 obtain ⟨s,e2,hI⟩:=eD (ρ:=Empty) (σ:=MI×MI×MV) (ε:=MI×MI×MV) (body:=fun i37 s36 =>
  (b7 [((l.Terms.getD i37 ⟨[],0⟩).Var)] ((l.Terms.getD i37 ⟨[],0⟩).C) 1 s36.2.2 s36.1 s36.2.1).bind fun y62 =>
  some (.go (y62.2.1,y62.2.2,y62.1))) (fin:=fun i37 s36=>(s36.1,s36.2.1,s36.2.2))
  (fun j s=>im (([([],l.Const,1)]:List jA)++(l.Terms.take j).map E5) s.2.2 s.1 s.2.1) (l.Terms.length-0) 0 (y.2.1,y.2.2,y.1) (by rw [List.take_zero,List.map_nil,List.append_nil];exact hs2) (fun j s _ hj hI=>by
   have hjl:j<l.Terms.length:=by omega
   have h5:=v3 j hjl;obtain ⟨z,e3,hz⟩:=tU (a:=(mr l j).C) (b:=1) hI (hokc j) (by simp only [List.length_append,KP,List.length_take,List.length_singleton];omega) (CU h5.1);refine ⟨(z.2.1,z.2.2,z.1),?_,?_⟩
   ·show (b7 [(mr l j).Var] (mr l j).C 1 s.2.2 s.1 s.2.1).bind _=_;rw [e3];rfl
   ·rw [IQ l j hjl,List.map_append,← List.append_assoc];exact hz)
 rw [Nat.zero_add,Nat.sub_zero,List.take_length] at hI;rw [e2];simp only [ah,dJ];have hokA:=hokc l.Terms.length;rw [List.take_length] at hokA;obtain ⟨p,k1,k2,k3⟩:=qp hI hokA (by simp only [List.length_append,KP,List.length_singleton];omega);rw [k3];refine ⟨p,k1,k2,rfl,?_⟩;have hc0:bK (aK [([],l.Const,1)]) (kg [] ⟨l.Const,[]⟩):=by have:=ng CG (m:=⟨l.Const,[]⟩) (a:=l.Const) (b:=1) (by simp);simpa using this
 have hl0:(kg [] ⟨l.Const,[]⟩).length≤1:=by have:=pq [] ⟨l.Const,[]⟩;simpa using this
 have hbdc:∀ j,∀ c∈([([],l.Const,1)]:List jA)++(l.Terms.take j).map E5,Kp c.1:=fun j c hc=>by have:=(hokc j c hc).1;exact ⟨by have:=this.1;omega,fun v hv=>by have:=(this.2 v hv).2;omega⟩
 rw [iV pZ (by simp) (fun x hx=>by cases hx) (fun x hx=>by cases hx)];simp only [ah];obtain ⟨q,e4,hQ,hql⟩:=eD (ρ:=Empty) (σ:=List aa) (ε:=List aa) (body:=fun i32 s31 =>
  (bX s31 (aa.mk ((l.Terms.getD i32 ⟨[],0⟩).C) [((l.Terms.getD i32 ⟨[],0⟩).Var)])).bind fun y57 =>
  some (.go y57)) (fin:=fun i32 s31=>s31)
  (fun j s=>bK (aK (([([],l.Const,1)]:List jA)++(l.Terms.take j).map E5)) s∧s.length≤1+j) (l.Terms.length-0) 0 (kg [] ⟨l.Const,[]⟩) (by
   simp only [List.take_zero,List.map_nil,List.append_nil];exact ⟨hc0,by omega⟩) (fun j s _ hj ⟨hI,hl⟩=>by
   have hjl:j<l.Terms.length:=by omega
   have h5:=v3 j hjl;have e1:bX s ⟨(mr l j).C,[(mr l j).Var]⟩=some (kg s ⟨(mr l j).C,[(mr l j).Var]⟩):=by
    refine iV (mB hI (by omega) (hbdc j)) (by simp) (fun x hx=>((hI.mem x).1 hx).1) fun x hx ex => ?_;exfalso;obtain ⟨c,hc,e⟩:=j5 hI hx;have ex:x.Vars=[(mr l j).Var]:=ex;rw [ex] at e;rcases List.mem_append.1 hc with hc | hc
    ·have:c=([],l.Const,1):=by simpa using hc
     rw [this] at e;cases e
    ·obtain ⟨t,ht,rfl⟩:=List.mem_map.1 hc;obtain ⟨i,hi,rfl⟩:=List.getElem_of_mem ht;rw [List.getElem_take] at e;have hi2:i<j:=by simp at hi;omega
     have hlt:=JB hv j i hi2 hjl;have e5:mr l i=l.Terms[i]'(by omega):=by simp [mr,KH,KI (show i<l.Terms.length by omega)]
     have e6:(l.Terms[i]'(by omega)).Var=(mr l j).Var:=(List.cons.inj e).1;rw [e5,e6,eK] at hlt;cases hlt
   refine ⟨kg s ⟨(mr l j).C,[(mr l j).Var]⟩,?_,?_,?_⟩
   ·show (bX s ⟨(mr l j).C,[(mr l j).Var]⟩).bind _=_;rw [e1];rfl
   ·rw [IQ l j hjl,List.map_append,← List.append_assoc];exact ng hI (m:=⟨(mr l j).C,[(mr l j).Var]⟩) (a:=(mr l j).C) (b:=1) (by simp)
   ·have:=pq s ⟨(mr l j).C,[(mr l j).Var]⟩;omega)
 rw [Nat.zero_add,Nat.sub_zero,List.take_length] at hQ;rw [Nat.zero_add,Nat.sub_zero] at hql;rw [e4];have hB2:=hbdc l.Terms.length;rw [List.take_length] at hB2;show (cU q).bind _=_;rw [iH (mB hQ (by omega) hB2),bK.uniq k1 hQ];rfl
theorem JI (x y:ai):(Op.bytesLess x y||x==y)=mv x y:=by
 rw [DF];unfold mv;cases h:Op.bytesLess y x with
 | true =>
  have:=(pz y x).2 h;simp [List.not_le.2 this]
 | false =>
  have:¬ y<x:=fun e=>by rw [(pz y x).1 e] at h;cases h
  simp [List.not_lt.1 this]
theorem ud {α:Type} {l:List α} {i:Nat} (h:l.length≤i):l.drop i=[]:=List.drop_eq_nil_of_le h
theorem wT {A B:List ai} (hA:A.Pairwise (fun a b=>mv a b=true)) (hB:B.Pairwise (fun a b=>mv a b=true)) (h1:A.length≤1000) (h2:B.length≤1000):iQ A B=some (bV (A++B)):=by
 have hm:List.merge A B mv=bV (A++B):=by rw [← uV];exact (yS (List.pairwise_merge mH rR A B hA hB) (List.merge_perm_append mv)).symm
 unfold iQ;generalize hb:(fun (s186:(List ai)×Int×Int)=>_:(List ai)×Int×Int→Option (eM ((List ai)×Int×Int) (List ai) Empty))=body;have e0:∀ (out:List ai) (i k:Nat),i≤A.length→k≤B.length→out.length≤i+k→body (out,((i:Nat):Int),((k:Nat):Int))=some (if i<A.length∧(k<B.length→mv (A.getD i []) (B.getD k [])=true) then .go (out++[A.getD i []],((i+1:Nat):Int),((k:Nat):Int)) else if k<B.length then .go (out++[B.getD k []],((i:Nat):Int),((k+1:Nat):Int)) else .brk out):=by
  intro out i k hi hk hl;rw [← hb];have w1:aW (((i:Nat):Int)+1)=((i+1:Nat):Int):=by rw [av (by omega) (by omega)];omega
  have w2:aW (((k:Nat):Int)+1)=((k+1:Nat):Int):=by rw [av (by omega) (by omega)];omega
  simp only [w1,w2,Int.toNat_natCast,JI];by_cases ci:i<A.length
  ·rw [KO (show ((i:Nat):Int)<((A.length:Nat):Int) by omega)];simp only [cond_true,ah,Sh.aft];by_cases ck:k<B.length
   ·rw [beq_eq_false_iff_ne.2 (show ((k:Nat):Int)≠((B.length:Nat):Int) by omega)];simp only [cond_false];rw [aq (by omega),aq (by omega)];simp only [ah];cases hl:mv (A.getD i []) (B.getD k []) with
    | true =>
     rw [if_pos ⟨ci,fun _=>rfl⟩];simp only [cond_true];rw [aq (by omega),aq (by omega)]
    | false =>
     rw [if_neg (fun h=>by have:=h.2 ck;cases this),if_pos ck];simp only [cond_false];rw [aq (by omega),aq (by omega)]
   ·rw [beq_iff_eq.2 (show ((k:Nat):Int)=((B.length:Nat):Int) by omega)];simp only [cond_true,ah];rw [if_pos ⟨ci,fun h=>absurd h ck⟩,aq (by omega),aq (by omega)]
  ·rw [KN (show ¬ ((i:Nat):Int)<((A.length:Nat):Int) by omega),if_neg (fun h=>ci h.1)];simp only [cond_false];by_cases ck:k<B.length
   ·rw [KO (show ((k:Nat):Int)<((B.length:Nat):Int) by omega),if_pos ck];simp only [cond_true,ah,Sh.aft];rw [beq_eq_false_iff_ne.2 (show ((k:Nat):Int)≠((B.length:Nat):Int) by omega)];simp only [cond_false,ah];rw [aq (by omega),aq (by omega)]
   ·rw [KN (show ¬ ((k:Nat):Int)<((B.length:Nat):Int) by omega),if_neg ck];rfl
 have key:∀ (n i k fuel:Nat) (out:List ai),i≤A.length→k≤B.length→(A.length-i)+(B.length-k)=n→out.length≤i+k→n<fuel→qG body fuel (out,((i:Nat):Int),((k:Nat):Int))=some (.brk (out++List.merge (A.drop i) (B.drop k) mv)):=by
  intro n;induction n with
  | zero =>
   intro i k fuel out hi hk hn hl hf;obtain ⟨f,rfl⟩:∃ f,fuel=f+1:=⟨fuel-1,by omega⟩;simp only [qG,e0 out i k hi hk hl];rw [if_neg (by omega),if_neg (by omega),ud (l:=A) (by omega),ud (l:=B) (by omega)];simp [oy]
  | succ n ih =>
   intro i k fuel out hi hk hn hl hf;obtain ⟨f,rfl⟩:∃ f,fuel=f+1:=⟨fuel-1,by omega⟩;simp only [qG,e0 out i k hi hk hl];by_cases ci:i<A.length
   ·have dA:=drop_cons ci;by_cases ck:k<B.length
    ·have dB:=drop_cons ck;by_cases hc:mv (A.getD i []) (B.getD k [])=true
     ·rw [if_pos ⟨ci,fun _=>hc⟩];simp only [ah,oy];rw [ih (i+1) k f _ (by omega) hk (by omega) (by simp;omega) (by omega),dA,dB,List.cons_merge_cons,if_pos hc];simp
     ·rw [if_neg (fun h=>hc (h.2 ck)),if_pos ck];simp only [ah,oy];rw [ih i (k+1) f _ hi (by omega) (by omega) (by simp;omega) (by omega),dA,dB,List.cons_merge_cons,if_neg hc];simp
    ·rw [if_pos ⟨ci,fun h=>absurd h ck⟩];simp only [ah,oy];rw [ih (i+1) k f _ (by omega) hk (by omega) (by simp;omega) (by omega),dA,ud (l:=B) (by omega)];simp
   ·have ck:k<B.length:=by omega
    have dB:=drop_cons ck;rw [if_neg (fun h=>ci h.1),if_pos ck];simp only [ah,oy];rw [ih i (k+1) f _ hi (by omega) (by omega) (by simp;omega) (by omega),dB,ud (l:=A) (by omega)];simp
 have:=key (A.length+B.length) 0 0 4294967296 [] (Nat.zero_le _) (Nat.zero_le _) (by omega) (Nat.zero_le _) (by omega);rw [show ((([]:List ai),0,0):(List ai)×Int×Int)=([],((0:Nat):Int),((0:Nat):Int)) from rfl,this];rw [List.drop_zero,List.drop_zero,hm];rfl
theorem rh (L:List jA) (c:jA) (V:List ai):oA (L++[c]) V=oA L V++(if c.1=V then [c.2.1] else [])∧qC (L++[c]) V=qC L V++(if c.1=V then [c.2.2] else []):=by
 unfold oA qC;rw [List.filter_append,List.map_append,List.map_append];by_cases h:c.1=V
 ·simp [h]
 ·simp [h]
theorem E7 {α:Type} {l:List α} (hn:l.Nodup) {i j:Nat} (hi:i<l.length) (hj:j<l.length) (e:l[i]=l[j]):i=j:=by
 have hp:=List.pairwise_iff_getElem.1 hn;rcases Nat.lt_trichotomy i j with h | h | h
 ·exact absurd e (hp i j hi hj h)
 ·exact h
 ·exact absurd e.symm (hp j i hj hi h)
theorem pH {α β:Type} {l:List α} (hn:l.Nodup) {n:Nat} (h:n<l.length) (f g:α→β) (hg:∀ W∈l,W≠l[n]→g W=f W):(l.map f).set n (g l[n])=l.map g:=by
 refine List.ext_getElem (by simp) fun i h1 h2 => ?_;have hi:i<l.length:=by simpa using h2
 rw [List.getElem_set,List.getElem_map];by_cases e:n=i
 ·subst e;simp
 ·rw [if_neg e,List.getElem_map];exact (hg _ (List.getElem_mem hi) (fun h3=>e (E7 hn hi h h3).symm)).symm
abbrev S3:=(List (List ai))×(List (List Int))×(List (List Int))
structure G8 (L:List jA) (s:S3):Prop where
 nd:s.1.Nodup
 al:∀ c∈L,c.1∈s.1
 sr:∀ V∈s.1,∃ c∈L,c.1=V
 ls:s.2.2=s.1.map (oA L)
 rs:s.2.1=s.1.map (qC L)
 ln:s.1.length≤L.length
theorem G8.nil:G8 [] ([],[],[]):=⟨by simp,fun c hc=>(by cases hc),fun V hV=>(by cases hV),rfl,rfl,Nat.le_refl _⟩
def grown (s:S3) (V:List ai):S3:=if V∈s.1 then s else (s.1++[V],s.2.1++[[]],s.2.2++[[]])
theorem Bk {L:List jA} {s:S3} (h:G8 L s) (V:List ai):(grown s V).1.Nodup∧V∈(grown s V).1∧(∀ c∈L,c.1∈(grown s V).1)∧(∀ W∈(grown s V).1,W=V∨∃ c∈L,c.1=W)∧(grown s V).2.2=(grown s V).1.map (oA L)∧(grown s V).2.1=(grown s V).1.map (qC L)∧(grown s V).1.length≤L.length+1:=by
 unfold grown;by_cases hV:V∈s.1
 ·rw [if_pos hV];exact ⟨h.nd,hV,h.al,fun W hW=>.inr (h.sr W hW),h.ls,h.rs,by have:=h.ln;omega⟩
 ·rw [if_neg hV];have hno:∀ c∈L,c.1≠V:=fun c hc e=>hV (by rw [← e];exact h.al c hc);have ea:oA L V=[]:=by unfold oA;rw [List.filter_eq_nil_iff.2 (fun c hc=>by simp [hno c hc])];rfl
  have eb:qC L V=[]:=by unfold qC;rw [List.filter_eq_nil_iff.2 (fun c hc=>by simp [hno c hc])];rfl
  refine ⟨?_,by simp,fun c hc=>by simp [h.al c hc],fun W hW => ?_,by simp [h.ls,ea],by simp [h.rs,eb],by simp;exact h.ln⟩
  ·rw [List.nodup_append];refine ⟨h.nd,by simp,fun a ha b hb e => ?_⟩;have:b=V:=by simpa using hb
   rw [e,this] at ha;exact hV ha
  ·rcases List.mem_append.1 hW with hW | hW
   ·exact .inr (h.sr W hW)
   ·exact .inl (by simpa using hW)
theorem Jh {L:List jA} {s:S3} (h:G8 L s) {V:List ai} {n:Nat} (a b:Int) (hn:n<(grown s V).1.length) (hV:(grown s V).1[n]=V) :
 G8 (L++[(V,a,b)]) ((grown s V).1,(grown s V).2.1.set n ((grown s V).2.1.getD n []++[b]),(grown s V).2.2.set n ((grown s V).2.2.getD n []++[a])):=by
 obtain ⟨g1,g2,g3,g4,g5,g6,g7⟩:=Bk h V;generalize grown s V=t at *;have gl:∀ (f:List ai→List Int),(t.1.map f).getD n []=f V:=fun f=>by simp [KH,KI hn,hV]
 refine ⟨g1,fun c hc => ?_,fun W hW => ?_,?_,?_,by simpa using g7⟩
 ·rcases List.mem_append.1 hc with hc | hc
  ·exact g3 c hc
  ·have:c=(V,a,b):=by simpa using hc
   rw [this];exact g2
 ·rcases g4 W hW with rfl | ⟨c,hc,e⟩
  ·exact ⟨(W,a,b),by simp,rfl⟩
  ·exact ⟨c,by simp [hc],e⟩
 ·show t.2.2.set n _=_;rw [g5,gl];have:=pH g1 hn (oA L) (oA (L++[(V,a,b)])) (fun W _ hne=>by rw [(rh L (V,a,b) W).1,if_neg (fun e=>hne (by rw [hV];exact e.symm))];simp)
  rw [hV,(rh L (V,a,b) V).1,if_pos rfl] at this;exact this
 ·show t.2.1.set n _=_;rw [g6,gl];have:=pH g1 hn (qC L) (qC (L++[(V,a,b)])) (fun W _ hne=>by rw [(rh L (V,a,b) W).2,if_neg (fun e=>hne (by rw [hV];exact e.symm))];simp)
  rw [hV,(rh L (V,a,b) V).2,if_pos rfl] at this;exact this
theorem DS {ls:List (List ai)} {V:List ai} (hl:∀ W∈ls,W.length≤1000000) (hV:V.length≤1000000):∃ u,cV (σ:=Unit) (ε:=Nat) (ρ:=Empty) (fun i2026 s2025 =>
 (cZ (ls.getD i2026 []) V).bind fun y2062 =>
 bif (y2062==0) then (
  some (.brk i2026)
 ) else (
  some (.go ())
 )
 ) (fun i2026 s2025=>i2026) (ls.length-0) 0 ()=some (.brk u)∧((V∈ls∧∃ h:u<ls.length,ls[u]=V)∨(V ∉ ls∧u=ls.length)):=by
 have hp:=oY (ρ:=Empty) (body:=fun i2026 s2025 =>
  (cZ (ls.getD i2026 []) V).bind fun y2062 =>
  bif (y2062==0) then (
   some (.brk i2026)
  ) else (
   some (.go ())
  )) (fun j=>decide (cmpL (ls.getD j []) V=0)) (ls.length-0) 0 () (fun j u _ hj=>by
  have hm:ls.getD j []∈ls:=by rw [KH,KI (by omega)];exact List.getElem_mem _
  obtain ⟨r,e,k1,k2⟩:=vO (ls.getD j []) V (hl _ hm) hV;simp only [e,ah];by_cases h:cmpL (ls.getD j []) V=0
  ·rw [beq_iff_eq.2 (k2.2 h),KO h];rfl
  ·rw [beq_eq_false_iff_ne.2 (fun e=>h (k2.1 e)),KN h];rfl)
 rw [xn (fun W:List ai=>decide (cmpL W V=0)) [] ls] at hp;refine ⟨_,hp,?_⟩;have h3:=mz (fun W:List ai=>decide (cmpL W V=0)) ls;by_cases hn:idxOf (fun W:List ai=>decide (cmpL W V=0)) ls<0
 ·right;rw [KO hn];refine ⟨fun hm => ?_,rfl⟩;have h4:=h3.1 hn;rw [List.any_eq_false] at h4;exact h4 V hm (by simp [gJ])
 ·left;rw [KN hn];simp only [cond_false];obtain ⟨h5,h6⟩:=pr (fun W:List ai=>decide (cmpL W V=0)) [] ls (by omega);have h7:ls[(idxOf (fun W:List ai=>decide (cmpL W V=0)) ls).toNat]=V:=by rw [KH,KI h5] at h6;simp only [Option.getD_some,decide_eq_true_eq] at h6;exact fX h6
  exact ⟨by rw [← h7];exact List.getElem_mem _,h5,h7⟩
def Ad (m:aa) (b:List aa) (i1834:Nat) (s1833:S3):Option (eM S3 S3 Empty) :=
 (iQ m.Vars ((b.getD i1834 ⟨0,[]⟩).Vars)).bind fun y1981 =>
 (cV (σ:=Unit) (ε:=Nat) (ρ:=Empty) (fun i2026 s2025 =>
  (cZ (s1833.1.getD i2026 []) y1981).bind fun y2062 =>
  bif (y2062==0) then (
   some (.brk i2026)
  ) else (
   some (.go ())
  )
 ) (fun i2026 s2025=>i2026) (s1833.1.length-0) 0 ()).bind <| dJ fun u2076 =>
 ((
  bif (((u2076:Nat):Int)==((s1833.1.length:Nat):Int)) then (
   bR ((s1833.1.length+1)*24≤140737488355328) <|
   bR ((s1833.2.2.length+1)*24≤140737488355328∧s1833.2.2.length<1000000) <|
   bR ((s1833.2.1.length+1)*24≤140737488355328∧s1833.2.1.length<1000000) <|
   some ((s1833.1++[y1981]),(s1833.2.1++[[]]),(s1833.2.2++[[]]))
  ) else (
   some (s1833.1,s1833.2.1,s1833.2.2)
  )
 ):Option S3).bind fun v2091 =>
 bR (u2076<v2091.2.2.length) <|
 bR (((v2091.2.2.getD u2076 []).length+[(m.Coef)].length)*8≤140737488355328) <|
 bR (u2076<v2091.2.1.length) <|
 bR (((v2091.2.1.getD u2076 []).length+[((b.getD i1834 ⟨0,[]⟩).Coef)].length)*8≤140737488355328) <|
 some (.go (v2091.1,(v2091.2.1.set u2076 ((v2091.2.1.getD u2076 [])++[((b.getD i1834 ⟨0,[]⟩).Coef)])),(v2091.2.2.set u2076 ((v2091.2.2.getD u2076 [])++[m.Coef]))))
theorem D1 {L:List jA} {s:S3} (h:G8 L s) (hL:∀ c∈L,CI c) (hn:L.length≤10000) {m:aa} {b:List aa} {j:Nat} (hj:j<b.length) (hm:pw m) (hms:m.Vars.Pairwise (fun a b=>mv a b=true)) (hb:pw (aP b j)) (hbs:(aP b j).Vars.Pairwise (fun a b=>mv a b=true)) :
 ∃ s',Ad m b j s=some (.go s')∧G8 (L++[tJ m (aP b j)]) s':=by
 unfold Ad;rw [show b.getD j ⟨0,[]⟩=aP b j from rfl,wT hms hbs (by have:=hm.1.1;omega) (by have:=hb.1.1;omega)];simp only [ah];have hok:=ua hm hb;generalize hV:bV (m.Vars++(aP b j).Vars)=V;have hVl:V.length≤1000:=by rw [← hV];exact hok.1.1
 obtain ⟨u,e,hu⟩:=DS (ls:=s.1) (V:=V) (fun W hW=>by obtain ⟨c,hc,e⟩:=h.sr W hW;rw [← e];have:=(hL c hc).1.1;omega) (by omega)
 rw [e];simp only [ah,dJ];have hl1:s.2.2.length=s.1.length:=by rw [h.ls,KP]
 have hl2:s.2.1.length=s.1.length:=by rw [h.rs,KP]
 have hln:=h.ln;have hgr:((
  bif (((u:Nat):Int)==((s.1.length:Nat):Int)) then (
   bR ((s.1.length+1)*24≤140737488355328) <|
   bR ((s.2.2.length+1)*24≤140737488355328∧s.2.2.length<1000000) <|
   bR ((s.2.1.length+1)*24≤140737488355328∧s.2.1.length<1000000) <|
   some ((s.1++[V]),(s.2.1++[[]]),(s.2.2++[[]]))
  ) else (
   some (s.1,s.2.1,s.2.2)
  )
 ):Option S3)=some (grown s V)∧∃ h:u<(grown s V).1.length,(grown s V).1[u]=V:=by
  unfold grown;rcases hu with ⟨hm,hlt,hv⟩ | ⟨hm,rfl⟩
  ·rw [beq_eq_false_iff_ne.2 (show ((u:Nat):Int)≠((s.1.length:Nat):Int) by omega)];simp only [if_pos hm];exact ⟨rfl,hlt,hv⟩
  ·rw [beq_iff_eq.2 rfl];simp only [if_neg hm,cond_true];rw [aq (by omega),aq (by omega),aq (by omega)];exact ⟨rfl,by simp,by simp⟩
 obtain ⟨hg1,hg2,hg3⟩:=hgr;rw [hg1];simp only [ah];obtain ⟨q1,q2,q3,q4,q5,q6,q7⟩:=Bk h V;have r1:(grown s V).2.2.length=(grown s V).1.length:=by rw [q5,KP]
 have r2:(grown s V).2.1.length=(grown s V).1.length:=by rw [q6,KP]
 have r3:((grown s V).2.2.getD u []).length≤10000:=by rw [q5];simp only [KH,List.getElem?_map,KI hg2,Option.map_some,Option.getD_some];have:=qY L (grown s V).1[u];omega
 have r4:((grown s V).2.1.getD u []).length≤10000:=by rw [q6];simp only [KH,List.getElem?_map,KI hg2,Option.map_some,Option.getD_some];rw [tT];have:=qY L (grown s V).1[u];omega
 rw [aq (by omega),aq (by rw [List.length_singleton];omega),aq (by omega),aq (by rw [List.length_singleton];omega)];refine ⟨_,rfl,?_⟩;have:=Jh h (V:=V) m.Coef (aP b j).Coef hg2 hg3;rw [← hV] at this ⊢;exact this
theorem Aq {L:List jA} {ls:List (List ai)} (hn:ls.Nodup) (V:List ai):aK (ls.map fun W=>(W,aK L W,(1:Int))) V=if V∈ls then aK L V else 0:=by
 induction ls with
 | nil=>rfl
 | cons W ls ih =>
  rw [List.nodup_cons] at hn;rw [List.map_cons];show (if W=V then aK L W*1 else 0)+aK (ls.map fun W=>(W,aK L W,(1:Int))) V=_;rw [ih hn.2];by_cases h:W=V
  ·subst h;rw [if_pos rfl,if_neg hn.1,if_pos (by simp)];simp
  ·rw [if_neg h];by_cases h2:V∈ls
   ·rw [if_pos h2,if_pos (by simp [h2])];omega
   ·rw [if_neg h2,if_neg (by simp [h2,Ne.symm h])];rfl
theorem bK.congr {f g:List ai→Int} {p:List aa} (h:bK f p) (e:∀ V,f V=g V):bK g p:=⟨h.st,fun m=>by rw [h.mem,e]⟩
theorem Fl {a b:List aa} (ha:Bd a) (hb:Bd b):∃ r,gQ a b=some r∧iF a b=some r:=by
 obtain ⟨hgood,hbad⟩:=kY ha hb;cases hva:aA a with
 | false =>
  refine ⟨([],1),hbad (.inl hva),?_⟩;unfold iF;rw [bt a ha,hva];rfl
 | true =>
  cases hvb:aA b with
  | false =>
   refine ⟨([],1),hbad (.inr hvb),?_⟩;unfold iF;rw [bt a ha,hva,bt b hb,hvb];rfl
  | true =>
   obtain ⟨p,h1,hBp,h2⟩:=hgood hva hvb;refine ⟨limited p,h2,?_⟩;have oa:=de hva;have ob:=de hvb;have ha60:=oa.1;have hb60:=ob.1;have hcl:∀ i,(jW (a.take i) b).length≤3600:=fun i=>by rw [uq,List.length_take];exact Nat.le_trans (Nat.mul_le_mul (show min i a.length≤60 by omega) hb60) (by decide)
   have hbok:∀ m∈b,pw m:=ob.2;have hok:∀ i,∀ c∈jW (a.take i) b,CI c:=fun i=>zg (fun m hm=>oa.2 m (List.mem_of_mem_take hm)) hbok;unfold iF;rw [bt a ha,hva,bt b hb,hvb];simp only [ah,cond_true];obtain ⟨s,e,hI⟩:=eD (ρ:=Empty) (σ:=S3) (ε:=S3) (body:=fun i1006 s1005 =>
    (cV (σ:=S3) (ε:=S3) (ρ:=Empty) (fun i1834 s1833=>Ad (aP a i1006) b i1834 s1833) (fun i1834 s1833=>(s1833.1,s1833.2.1,s1833.2.2)) (b.length-0) 0 (s1005.1,s1005.2.1,s1005.2.2)).bind <| dJ fun u2119 =>
    some (.go (u2119.1,u2119.2.1,u2119.2.2))) (fin:=fun i1006 s1005=>(s1005.1,s1005.2.1,s1005.2.2))
    (fun i s=>G8 (jW (a.take i) b) s) (a.length-0) 0 ([],[],[]) G8.nil (fun i s _ hi hI=>by
    have hia:i<a.length:=by omega
    have hmm:=cy (p:=a) (j:=i) hia;obtain ⟨s2,e2,hI2⟩:=eD (ρ:=Empty) (σ:=S3) (ε:=S3) (body:=fun i1834 s1833=>Ad (aP a i) b i1834 s1833) (fin:=fun i1834 s1833=>(s1833.1,s1833.2.1,s1833.2.2))
     (fun j s=>G8 (jW (a.take i) b++(b.take j).map (tJ (aP a i))) s) (b.length-0) 0 (s.1,s.2.1,s.2.2) (by simpa using hI) (fun j s _ hj hI=>by
      have hjb:j<b.length:=by omega
      have hmb:=cy (p:=b) (j:=j) hjb;have hc:=hcl i;obtain ⟨s3,k1,k2⟩:=D1 hI (fun c hc=>by
       rcases List.mem_append.1 hc with hc | hc
       ·exact hok i c hc
       ·obtain ⟨n,hn,rfl⟩:=List.mem_map.1 hc;exact ua (oa.2 _ hmm) (ob.2 n (List.mem_of_mem_take hn))) (by
       simp only [List.length_append,KP,List.length_take];omega) hjb (oa.2 _ hmm) (sd hva hmm) (ob.2 _ hmb) (sd hvb hmb)
      refine ⟨s3,k1,?_⟩;rw [oB b j hjb,List.map_append,← List.append_assoc];exact k2)
    rw [Nat.zero_add,Nat.sub_zero,List.take_length] at hI2;refine ⟨(s2.1,s2.2.1,s2.2.2),?_,?_⟩
    ·rw [e2];rfl
    ·rw [oB a i hia,xw];exact hI2)
   rw [Nat.zero_add,Nat.sub_zero,List.take_length] at hI;have hc2:=hcl a.length;have hokL:=hok a.length;rw [List.take_length] at hc2 hokL;show ((cV (σ:=S3) (ε:=S3) (ρ:=Empty) (fun i1006 s1005 =>
    (cV (σ:=S3) (ε:=S3) (ρ:=Empty) (fun i1834 s1833=>Ad (aP a i1006) b i1834 s1833) (fun i1834 s1833=>(s1833.1,s1833.2.1,s1833.2.2)) (b.length-0) 0 (s1005.1,s1005.2.1,s1005.2.2)).bind <| dJ fun u2119 =>
    some (.go (u2119.1,u2119.2.1,u2119.2.2))) (fun i1006 s1005=>(s1005.1,s1005.2.1,s1005.2.2)) (a.length-0) 0 ([],[],[])).bind _)=_
   rw [e];generalize hL:jW a b=L at *;simp only [ah,dJ];have hll:=hI.ln;have hVok:∀ V∈s.1,DB V:=fun V hV=>by obtain ⟨c,hc,e⟩:=hI.sr V hV;rw [← e];exact (hokL c hc).1
   have hdot:∀ V,kM (oA L V) (qC L V)=nf (aK L V):=fun V=>by
    unfold kM;have ha2:(oA L V).all ct=true:=by rw [KU];intro n hn2;obtain ⟨c,hc,rfl⟩:=List.mem_map.1 hn2;exact (hokL c (List.mem_filter.1 hc).1).2.1
    have hb2:(qC L V).all ct=true:=by rw [KU];intro n hn2;obtain ⟨c,hc,rfl⟩:=List.mem_map.1 hn2;exact (hokL c (List.mem_filter.1 hc).1).2.2
    rw [KO (tT L V).symm,KO (show (oA L V).length≤10000 by have:=qY L V;omega),ha2,hb2,rW];rfl
   have hbdl:∀ j,∀ c∈(s.1.take j).map (fun W=>(W,aK L W,(1:Int))),Kp c.1:=fun j c hc=>by obtain ⟨W,hW,rfl⟩:=List.mem_map.1 hc;have:=hVok W (List.mem_of_mem_take hW);exact ⟨by have:=this.1;show W.length≤_;omega,fun v hv=>by have:=(this.2 v hv).2;omega⟩
   rcases zO (σ:=List aa) (ε:=List aa) (ρ:=List aa×Int) (body:=fun i2173 s2172 =>
    bR (i2173<s.2.2.length) <|
    bR (i2173<s.2.1.length) <|
    (gL (s.2.2.getD i2173 []) (s.2.1.getD i2173 [])).bind fun y2213 =>
    bif (y2213.2==0) then (
     (bX s2172 (aa.mk y2213.1 (s.1.getD i2173 []))).bind fun y2220 =>
     some (.go y2220)
    ) else (
     some (.ret ([],3))
    )) (fin:=fun i2173 s2172=>s2172)
    (fun j q=>bK (aK ((s.1.take j).map fun W=>(W,aK L W,(1:Int)))) q∧q.length≤j) ([],3) (∃ V,ct (aK L V)=false) (s.1.length-0) 0 [] ⟨⟨by simp,fun m=>by simp [aK]⟩,Nat.le_refl _⟩ (fun j q _ hj ⟨hQ,hql⟩=>by
    have hjs:j<s.1.length:=by omega
    have g1:s.2.2.getD j []=oA L s.1[j]:=by rw [hI.ls];simp [KH,KI hjs]
    have g2:s.2.1.getD j []=qC L s.1[j]:=by rw [hI.rs];simp [KH,KI hjs]
    have g3:s.1.getD j []=s.1[j]:=by simp [KH,KI hjs]
    simp only [g1,g2,g3];rw [aq (by rw [hI.ls,KP];exact hjs),aq (by rw [hI.rs,KP];exact hjs),yF,hdot];simp only [ah];have hVm:s.1[j]∈s.1:=List.getElem_mem hjs;cases hin:ct (aK L s.1[j]) with
    | false =>
     right;have:nf (aK L s.1[j])=(0,2):=by unfold nf;rw [hin];rfl
     rw [this];exact ⟨rfl,_,hin⟩
    | true =>
     left;rw [qH hin];have e1:bX q ⟨aK L s.1[j],s.1[j]⟩=some (kg q ⟨aK L s.1[j],s.1[j]⟩):=by
      refine iV (mB hQ (by omega) (hbdl j)) (by have:=(hVok _ hVm).1;show s.1[j].length≤_;omega) (fun x hx=>((hQ.mem x).1 hx).1) fun x hx ex => ?_;exfalso;obtain ⟨c,hc,e⟩:=j5 hQ hx;obtain ⟨W,hW,rfl⟩:=List.mem_map.1 hc;have e:W=x.Vars:=e;have ex:x.Vars=s.1[j]:=ex;obtain ⟨i,hi,rfl⟩:=List.getElem_of_mem hW;rw [List.getElem_take] at e;have hi2:i<j:=by simp at hi;omega
      have:=E7 hI.nd (by omega) hjs (e.trans ex);omega
     refine ⟨kg q ⟨aK L s.1[j],s.1[j]⟩,?_,?_,?_⟩
     ·show (bX q ⟨aK L s.1[j],s.1[j]⟩).bind _=_;rw [e1];rfl
     ·rw [List.take_add_one,KI hjs,Option.toList_some,List.map_append];exact ng hQ (m:=⟨aK L s.1[j],s.1[j]⟩) (a:=aK L s.1[j]) (b:=1) (by simp)
     ·have:=pq q ⟨aK L s.1[j],s.1[j]⟩;omega) with ⟨q,e3,hQ,hql⟩ | ⟨e3,V,hV⟩
   ·rw [e3];rw [Nat.zero_add,Nat.sub_zero,List.take_length] at hQ;rw [Nat.zero_add,Nat.sub_zero] at hql;show (cU q).bind _=_;have hB2:=hbdl s.1.length;rw [List.take_length] at hB2;rw [iH (mB hQ (by omega) hB2)];have hQ2:bK (aK L) q:=hQ.congr fun V=>by
     rw [Aq hI.nd];by_cases hV:V∈s.1
     ·rw [if_pos hV]
     ·rw [if_neg hV,kr (fun c hc e=>hV (by rw [← e];exact hI.al c hc))]
    rw [bK.uniq h1 hQ2];rfl
   ·rw [e3];show some (([],3):List aa×Int)=some (limited p);rw [Hy h1 (V:=V)];have:¬ ct (aK L V)=true:=by rw [hV];simp
    rw [bH] at this;omega
end Go.Proofs.YtadjhpbkknifeaaGreatDoor
