/- Plain laws: what the walked functions compute answers as the statement says. -/
import Derived.Test.YtjfpcjnopbfekaaGreatDoorWkbPolySums
import Derived.Lib.ItoaNum
import Derived.Lib.ItoaMem
import Derived.Lib.AtoiAll
import Derived.Lib.AtoiAllCases
import Derived.Lib.ItoaLen
import Derived.KernelRfl
set_option linter.unusedSimpArgs false
set_option linter.unusedVariables false
/- PLAIN LAWS, of no program: loops as searches through lists; numerals. -/
namespace Go.Sh
open Go.Ab
section
variable {α σ ε ρ:Type}
theorem cnt_all {body:Nat→Unit→Option (Stp Unit ε ρ)} {fin:Nat→Unit→ε} {r:ρ} (p:Nat→Bool):∀ (k i:Nat) (u:Unit),(∀ j u,i≤j→j<i+k→body j u=some (bif p j then .go () else .ret r)) →
 cnt body fin k i u=some (bif (List.range' i k).all p then .brk (fin (i+k) ()) else .ret r)
 | 0,i,u,h=>by simp [cnt]
 | k+1,i,u,h=>by
  simp only [cnt,h i u (Nat.le_refl _) (by omega),List.range'_succ,List.all_cons]
  cases hp:p i with
  | true =>
   simp only [cond_true,Option.bind_some,stp,Bool.true_and]
   rw [cnt_all p k (i+1) () (fun j u h1 h2=>h j u (by omega) (by omega))]
   rw [show i+1+k=i+(k+1) by omega]
  | false=>simp [stp]
theorem cnt_find {body:Nat→Unit→Option (Stp Unit ε ρ)} {fin:Nat→Unit→ε} {f:Nat→ρ} (p:Nat→Bool):∀ (k i:Nat) (u:Unit),(∀ j u,i≤j→j<i+k→body j u=some (bif p j then .ret (f j) else .go ())) →
 cnt body fin k i u=some (match (List.range' i k).find? p with | some j=>.ret (f j) | none=>.brk (fin (i+k) ()))
 | 0,i,u,h=>by simp [cnt]
 | k+1,i,u,h=>by
  simp only [cnt,h i u (Nat.le_refl _) (by omega),List.range'_succ,List.find?_cons]
  cases hp:p i with
  | false =>
   simp only [cond_false,Option.bind_some,stp]
   rw [cnt_find p k (i+1) () (fun j u h1 h2=>h j u (by omega) (by omega))]
   rw [show i+1+k=i+(k+1) by omega]
  | true=>simp [stp]
theorem all_getD (q:α→Bool) (d:α) (l:List α):∀ (i:Nat),(List.range' i (l.length-i)).all (fun j=>q (l.getD j d))=(l.drop i).all q:=by
 intro i
 by_cases h:i<l.length
 ·obtain ⟨k,hk⟩:∃ k,l.length-i=k+1:=⟨l.length-i-1,by omega⟩
  have ih:=all_getD q d l (i+1)
  rw [hk,List.range'_succ,List.all_cons,List.drop_eq_getElem_cons h,List.all_cons]
  rw [show l.length-(i+1)=k by omega] at ih
  rw [ih]
  simp [List.getD_eq_getElem?_getD,List.getElem?_eq_getElem h]
 ·rw [show l.length-i=0 by omega,List.drop_eq_nil_of_le (by omega)];rfl
 termination_by i=>l.length-i
theorem all0 (q:α→Bool) (d:α) (l:List α):(List.range' 0 (l.length-0)).all (fun j=>q (l.getD j d))=l.all q:=by
 have:=all_getD q d l 0
 simpa using this
def idxOf (p:α→Bool):List α→Int
 | [] => -1
 | x::l=>bif p x then 0 else (let r:=idxOf p l;bif r == -1 then -1 else r+1)
theorem idxOf_ge (p:α→Bool):∀ l:List α,-1≤idxOf p l
 | []=>by simp [idxOf]
 | x::l=>by
  have:=idxOf_ge p l
  simp only [idxOf]
  cases p x
  ·cases h:idxOf p l == -1
   ·simp;omega
   ·simp
  ·simp
theorem idxOf_neg (p:α→Bool):∀ l:List α,(idxOf p l<0)↔l.any p=false
 | []=>by simp [idxOf]
 | x::l=>by
  have h1:=idxOf_ge p l
  have h2:=idxOf_neg p l
  simp only [idxOf,List.any_cons]
  cases hp:p x
  ·cases h:idxOf p l == -1
   ·have:idxOf p l ≠ -1:=by simpa using h
    simp only [cond_false,Bool.false_or]
    rw [← h2];omega
   ·have:idxOf p l = -1:=by simpa using h
    simp only [cond_false,cond_true,Bool.false_or]
    rw [← h2];omega
  ·simp
theorem find_idx (p:α→Bool) (d:α) (l:List α):∀ (i:Nat),(match (List.range' i (l.length-i)).find? (fun j=>p (l.getD j d)) with | some j=>((j:Nat):Int) | none => -1)=(bif idxOf p (l.drop i) == -1 then -1 else idxOf p (l.drop i)+i):=by
 intro i
 by_cases h:i<l.length
 ·obtain ⟨k,hk⟩:∃ k,l.length-i=k+1:=⟨l.length-i-1,by omega⟩
  have ih:=find_idx p d l (i+1)
  rw [hk,List.range'_succ,List.find?_cons,List.drop_eq_getElem_cons h]
  rw [show l.length-(i+1)=k by omega] at ih
  have e:l.getD i d=l[i]:=by simp [List.getD_eq_getElem?_getD,List.getElem?_eq_getElem h]
  rw [e]
  simp only [idxOf]
  cases hp:p l[i]
  ·simp only [cond_false]
   rw [ih]
   cases hq:idxOf p (l.drop (i+1)) == -1
   ·have h3:idxOf p (l.drop (i+1)) ≠ -1:=by simpa using hq
    have h4:=idxOf_ge p (l.drop (i+1))
    simp only [cond_false]
    have:((idxOf p (l.drop (i+1))+1) == -1)=false:=by simp;omega
    rw [this];simp only [cond_false]
    omega
   ·simp
  ·simp
 ·rw [show l.length-i=0 by omega,List.drop_eq_nil_of_le (by omega)];rfl
 termination_by i=>l.length-i
theorem find_idx0 (p:α→Bool) (d:α) (l:List α):(match (List.range' 0 (l.length-0)).find? (fun j=>p (l.getD j d)) with | some j=>((j:Nat):Int) | none => -1)=idxOf p l:=by
 rw [find_idx p d l 0]
 simp only [List.drop_zero]
 cases h:idxOf p l == -1
 ·simp
 ·have:idxOf p l = -1:=by simpa using h
  simp [this]
end
/-! ### numerals -/
def isDig (b:UInt8):Bool:=decide (48≤b.toNat)&&decide (b.toNat≤57)
def valD (acc:Nat) (l:Str):Nat:=l.foldl (fun a c=>a*10+(c.toNat-48)) acc
theorem valD_snoc (acc:Nat) (l:Str) (c:UInt8):valD acc (l++[c])=valD acc l*10+(c.toNat-48):=by simp [valD]
theorem parse_val:∀ (l:Str) (acc:Nat),l.all isDig=true→(acc+1)*10 ^ l.length≤10 ^ 18→Lib.parseUint10 acc l = .ok (valD acc l)
 | [],acc,_,_=>rfl
 | c::l,acc,h,hb=>by
  simp only [List.all_cons,Bool.and_eq_true,isDig,decide_eq_true_eq] at h
  obtain ⟨⟨h1,h2⟩,h3⟩:=h
  have hp:1≤10 ^ l.length:=Nat.one_le_pow _ _ (by decide)
  have hb2:(acc*10+10)*10 ^ l.length≤10 ^ 18:=by
   have:(acc+1)*10 ^ (l.length+1)=(acc*10+10)*10 ^ l.length:=by rw [Nat.pow_succ];rw [show (acc*10+10)=(acc+1)*10 by omega,Nat.mul_assoc,Nat.mul_comm 10]
   rw [← this];simpa using hb
  have hb3:acc*10+10≤10 ^ 18:=Nat.le_trans (Nat.le_mul_of_pos_right _ hp) hb2
  have e18:(10:Nat) ^ 18=1000000000000000000:=by decide
  rw [e18] at hb3
  simp only [Lib.parseUint10]
  rw [if_pos ⟨h1,h2⟩,if_neg (by omega),if_neg (by omega)]
  rw [parse_val l _ (by simpa [isDig] using h3) (Nat.le_trans (Nat.mul_le_mul_right _ (by omega)) hb2)]
  rfl
theorem dig_back {c:UInt8} (h:isDig c=true):UInt8.ofNat (48+(c.toNat-48))=c:=by
 simp only [isDig,Bool.and_eq_true,decide_eq_true_eq] at h
 rw [show 48+(c.toNat-48)=c.toNat by omega]
 exact UInt8.ofNat_toNat
theorem snoc_rec {α:Type} {P:List α→Prop} (h0:P []) (h1:∀ l c,P l→P (l++[c])) (l:List α):P l:=by
 have:∀ m:List α,P m.reverse:=by
  intro m
  induction m with
  | nil=>exact h0
  | cons c m ih=>simpa using h1 _ c ih
 simpa using this l.reverse
theorem dec_val (l:Str):l.all isDig=true→l≠[]→l.head? ≠ some 48→1≤valD 0 l∧Lib.decDigits (valD 0 l)=l:=by
 refine snoc_rec (P:=fun l=>l.all isDig=true→l≠[]→l.head? ≠ some 48→1≤valD 0 l∧Lib.decDigits (valD 0 l)=l) ?_ ?_ l
 ·intro _ h;exact absurd rfl h
 ·intro l c ih h _ hh
  rw [List.all_append,Bool.and_eq_true] at h
  have hc:isDig c=true:=by simpa using h.2
  have hc':=hc
  simp only [isDig,Bool.and_eq_true,decide_eq_true_eq] at hc'
  rw [valD_snoc]
  by_cases hl:l=[]
  ·subst hl
   have hne:c≠48:=by simpa using hh
   have:c.toNat≠48:=fun e=>hne (by rw [← UInt8.toNat_inj];simpa using e)
   simp only [valD,List.foldl_nil,Nat.zero_mul,Nat.zero_add,List.nil_append]
   refine ⟨by omega,?_⟩
   rw [Lib.decDigits_one (by omega),dig_back hc]
  ·have hh2:l.head? ≠ some 48:=by
    cases l with
    | nil=>exact absurd rfl hl
    | cons x l=>simpa using hh
   obtain ⟨i1,i2⟩:=ih h.1 hl hh2
   refine ⟨by omega,?_⟩
   rw [Lib.decDigits,dif_neg (by omega),show (valD 0 l*10+(c.toNat-48)) / 10=valD 0 l by omega,i2,show (valD 0 l*10+(c.toNat-48)) % 10=c.toNat-48 by omega,dig_back hc]
theorem dec_dig (u:Nat):(Lib.decDigits u).all isDig=true∧(1≤u→(Lib.decDigits u).head? ≠ some 48)∧Lib.decDigits u≠[]:=by
 have key:∀ i,i<10→isDig (UInt8.ofNat (48+i))=true:=by decide
 have key2:∀ i,i<10→1≤i→UInt8.ofNat (48+i)≠48:=by decide
 by_cases h:u<10
 ·rw [Lib.decDigits_one h]
  exact ⟨by simp only [List.all_cons,List.all_nil,Bool.and_true];exact key u h,fun h1=>by simpa using key2 u h h1,by simp⟩
 ·have ih:=dec_dig (u / 10)
  rw [Lib.decDigits,dif_neg h]
  refine ⟨by rw [List.all_append,ih.1];simp only [List.all_cons,List.all_nil,Bool.and_true,Bool.true_and];exact key (u % 10) (by omega),fun _ => ?_,by simp⟩
  have:=ih.2.1 (by omega)
  cases hd:Lib.decDigits (u / 10) with
  | nil=>exact absurd hd ih.2.2
  | cons x l=>rw [hd] at this;simpa using this
 termination_by u
 decreasing_by omega
end Go.Sh
/- PLAIN LAWS of layer 5: names. -/
namespace Go.Proofs.YtjfpcjnopbfekaaGreatDoor
open Go.Ab Go.Sh
theorem grd_pos {α:Type} {p:Prop} [Decidable p] {x:Option α} (h:p):grd p x=x:=if_pos h
theorem aft_bif {ε β:Type} {b:Bool} {e:ε} {r:β} {f:ε→Option β}:(some (bif b then Out.brk e else Out.ret r:Out ε β)).bind (aft f)=bif b then f e else some r:=by cases b<;>rfl
theorem all_congr {p q:Nat→Bool}:∀ (k i:Nat),(∀ j,i≤j→j<i+k→p j=q j)→(List.range' i k).all p=(List.range' i k).all q
 | 0,i,_=>rfl
 | k+1,i,h=>by
  rw [List.range'_succ,List.all_cons,List.all_cons,h i (Nat.le_refl _) (by omega),all_congr k (i+1) (fun j h1 h2=>h j (by omega) (by omega))]
theorem u8_beq (c k:UInt8) (n:Int) (hk:(k.toNat:Int)=n):((c.toNat:Int)==n)=(c==k):=by
 rw [Bool.eq_iff_iff]
 simp only [beq_iff_eq,← UInt8.toNat_inj]
 omega
def isLet (b:UInt8):Bool:=decide (97≤b.toNat)&&decide (b.toNat≤122)
theorem ref04_digit_eq (x:UInt8):ref04_digit x=some (isDig x):=by
 unfold ref04_digit isDig
 by_cases h:48≤x.toNat
 ·rw [decide_eq_true (show (x.toNat:Int)≥48 by omega),decide_eq_true h]
  simp only [cond_true,Bool.true_and,Option.some.injEq]
  rw [decide_eq_decide];omega
 ·rw [decide_eq_false (show ¬ (x.toNat:Int)≥48 by omega),decide_eq_false h];rfl
theorem ref04_letter_eq (x:UInt8):ref04_letter x=some (isLet x):=by
 unfold ref04_letter isLet
 by_cases h:97≤x.toNat
 ·rw [decide_eq_true (show (x.toNat:Int)≥97 by omega),decide_eq_true h]
  simp only [cond_true,Bool.true_and,Option.some.injEq]
  rw [decide_eq_decide];omega
 ·rw [decide_eq_false (show ¬ (x.toNat:Int)≥97 by omega),decide_eq_false h];rfl
def nameS:Str→Bool
 | []=>false
 | c::r=>bif c==95 then (decide (1≤r.length)&&(decide (r.length≤9)&&(!(r.getD 0 0==48)&&r.all isDig))) else (decide (r.length≤29)&&(isLet c&&r.all (fun b=>isLet b||isDig b)))
theorem ref04_Name_eq (s:Str):ref04_Name s=some (nameS s):=by
 cases s with
 | nil=>rfl
 | cons c r =>
  unfold ref04_Name
  have e1:((((c::r).length:Nat):Int)==0)=false:=by simp;omega
  rw [e1]
  simp only [cond_false]
  have e95:((((c::r).getD 0 0).toNat:Int)==95)=(c==95):=by rw [List.getD_cons_zero];exact u8_beq c 95 95 rfl
  by_cases h30:r.length≤29
  ·rw [decide_eq_false (show ¬ (((c::r).length:Nat):Int)>30 by simp;omega)]
   simp only [cond_false]
   rw [grd_pos (by simp),e95]
   simp only [nameS]
   cases hc:c==95 with
   | true =>
    simp only [cond_true]
    by_cases h1:1≤r.length
    ·rw [decide_eq_false (show ¬ (((c::r).length:Nat):Int)<2 by simp;omega),decide_eq_true h1]
     simp only [cond_false,Bool.true_and]
     by_cases h9:r.length≤9
     ·rw [decide_eq_false (show ¬ (((c::r).length:Nat):Int)>10 by simp;omega),decide_eq_true h9]
      simp only [cond_false,Bool.true_and]
      rw [grd_pos (by simp;omega)]
      have e48:((((c::r).getD 1 0).toNat:Int)==48)=(r.getD 0 0==48):=by rw [List.getD_cons_succ];exact u8_beq _ 48 48 rfl
      rw [e48]
      cases hd:r.getD 0 0==48 with
      | true=>simp
      | false =>
       simp only [cond_false,Bool.not_false,Bool.true_and]
       rw [cnt_all (fun j=>isDig ((c::r).getD j 0)) _ _ () (fun j u _ _=>by rw [ref04_digit_eq];cases isDig ((c::r).getD j 0)<;>rfl),aft_bif,all_getD isDig 0 (c::r) 1]
       simp only [List.drop_succ_cons,List.drop_zero]
       cases r.all isDig<;>rfl
     ·rw [decide_eq_true (show (((c::r).length:Nat):Int)>10 by simp;omega),decide_eq_false h9];simp
    ·rw [decide_eq_true (show (((c::r).length:Nat):Int)<2 by simp;omega),decide_eq_false h1];simp
   | false =>
    simp only [cond_false]
    rw [decide_eq_true h30]
    rw [cnt_all (fun j=>isLet ((c::r).getD j 0)||(!(((j:Nat):Int)==0)&&isDig ((c::r).getD j 0))) _ _ () (fun j u _ _=>by
     rw [ref04_letter_eq,ref04_digit_eq]
     cases isLet ((c::r).getD j 0)<;>cases isDig ((c::r).getD j 0)<;>cases ((j:Nat):Int)==0<;>rfl),aft_bif]
    have e:(List.range' 0 ((c::r).length-0)).all (fun j=>isLet ((c::r).getD j 0)||(!(((j:Nat):Int)==0)&&isDig ((c::r).getD j 0)))=(isLet c&&r.all (fun b=>isLet b||isDig b)):=by
     rw [show (c::r).length-0=r.length+1 by simp,List.range'_succ,List.all_cons]
     have e0:(isLet ((c::r).getD 0 0)||(!(((0:Nat):Int)==0)&&isDig ((c::r).getD 0 0)))=isLet c:=by simp
     rw [e0]
     congr 1
     rw [all_congr (q:=fun j=>(fun b=>isLet b||isDig b) ((c::r).getD j 0)) _ _ (fun j h1 _=>by
      have:(((j:Nat):Int)==0)=false:=by simp;omega
      simp only [this,Bool.not_false,Bool.true_and])]
     have:=all_getD (fun b=>isLet b||isDig b) 0 (c::r) 1
     simpa using this
    rw [e]
    simp only [Bool.true_and]
    cases isLet c&&r.all (fun b=>isLet b||isDig b)<;>rfl
  ·rw [decide_eq_true (show (((c::r).length:Nat):Int)>30 by simp;omega)]
   simp only [cond_true,nameS]
   rw [decide_eq_false h30]
   have:¬ r.length≤9:=by omega
   rw [decide_eq_false this]
   cases c==95<;>simp
theorem strings_HasPrefix1 (s:Str) (c:UInt8):strings_HasPrefix s [c]=some (match s with | []=>false | x::_=>x==c):=by
 unfold strings_HasPrefix internal_stringslite_HasPrefix
 cases s with
 | nil=>rfl
 | cons x l =>
  rw [decide_eq_true (by simp;omega)]
  simp only [cond_true]
  rw [grd_pos (by simp)]
  simp
theorem atoi_dig {r:Str} (h0:r≠[]) (h:r.all isDig=true) (hl:r.length≤9):Lib.atoiAll r = .ok (valD 0 r:Int)∧valD 0 r<10000000000:=by
 cases r with
 | nil=>exact absurd rfl h0
 | cons c r =>
  have hc:isDig c=true:=by simp only [List.all_cons,Bool.and_eq_true] at h;exact h.1
  have hc2:=hc
  simp only [isDig,Bool.and_eq_true,decide_eq_true_eq] at hc2
  have hp:(10:Nat) ^ (c::r).length≤10 ^ 9:=Nat.pow_le_pow_right (by decide) hl
  have hv:=parse_val (c::r) 0 h (by
   rw [Nat.zero_add,Nat.one_mul]
   exact Nat.le_trans hp (by decide))
  have hb:∀ (l:Str) (a:Nat),l.all isDig=true→valD a l+1≤(a+1)*10 ^ l.length:=by
   intro l
   induction l with
   | nil=>intro a _;simp [valD]
   | cons x l ih =>
    intro a hx
    simp only [List.all_cons,Bool.and_eq_true,isDig,decide_eq_true_eq] at hx
    have:=ih (a*10+(x.toNat-48)) (by simpa [isDig] using hx.2)
    have e:valD a (x::l)=valD (a*10+(x.toNat-48)) l:=rfl
    rw [e]
    refine Nat.le_trans this ?_
    rw [List.length_cons,Nat.pow_succ,Nat.mul_comm (10 ^ l.length) 10,← Nat.mul_assoc]
    exact Nat.mul_le_mul_right _ (by omega)
  have hlt:=hb (c::r) 0 h
  rw [Nat.zero_add,Nat.one_mul] at hlt
  have h9:(10:Nat) ^ 9=1000000000:=by decide
  rw [h9] at hp
  refine ⟨?_,by omega⟩
  rw [Lib.atoiAll_plain c r (by omega) (by omega)]
  have:Lib.parseMag (c::r) = .ok (valD 0 (c::r)):=by unfold Lib.parseMag;rw [if_neg (by simp)];exact hv
  rw [this]
  simp only [Lib.signless]
  rw [if_neg (by omega)]
theorem linear_Name_eq (s:Str) (hs:s.length≤1000000):linear_Name s=some (nameS s):=by
 unfold linear_Name
 rw [strings_HasPrefix1]
 cases s with
 | nil=>rfl
 | cons c r =>
  simp only [Option.bind_some,nameS]
  have hr:r.length≤1000000:=by simp at hs;omega
  cases hc:c==95 with
  | true =>
   simp only [cond_true]
   rw [grd_pos (by simp)]
   simp only [List.drop_succ_cons,List.drop_zero,lib_Atoi]
   rw [grd_pos (by omega)]
   simp only [Option.bind_some]
   by_cases h9:r.length≤9
   ·by_cases h1:1≤r.length
    ·rw [decide_eq_true h1,decide_eq_true h9]
     simp only [Bool.true_and]
     have hne:r≠[]:=by intro e;subst e;simp at h1
     have hhd:(r.getD 0 0==48)=decide (r.head? = some 48):=by
      cases r with
      | nil=>exact absurd rfl hne
      | cons x l=>simp;rw [Bool.eq_iff_iff];simp
     -- the answer of the program: is it its numeral?
     have key:∀ v:Int,0<v→v≤9223372036854775807→lib_Itoa v=some (Lib.decDigits v.toNat)∨True:=fun _ _ _=>.inr trivial
     by_cases hall:r.all isDig=true
     ·obtain ⟨a1,a2⟩:=atoi_dig hne hall h9
      simp only [atoiR,a1,cond_true]
      by_cases h48:r.head? = some 48
      ·-- a leading zero: another numeral
       rw [hhd,decide_eq_true h48]
       simp only [Bool.not_true,Bool.false_and]
       by_cases hz:valD 0 r=0
       ·rw [hz];rfl
       ·rw [decide_eq_true (by omega:(valD 0 r:Int)>0),decide_eq_true (by simp;omega:(((c::r).length:Nat):Int)≤10)]
        simp only [cond_true,lib_Itoa]
        have hlen:(Lib.itoa (valD 0 r:Int)).length≤21:=Lib.itoa_length_le _ (by omega) (by omega)
        rw [grd_pos ⟨by omega,by omega,by omega⟩]
        simp only [Option.bind_some,Option.some.injEq]
        rw [Lib.itoa_nonneg,beq_eq_false_iff_ne]
        intro e
        exact (dec_dig (valD 0 r)).2.1 (by omega) (by rw [e];exact h48)
      ·obtain ⟨d1,d2⟩:=dec_val r hall hne h48
       rw [hhd,decide_eq_false h48,hall]
       simp only [Bool.not_false,Bool.true_and]
       rw [decide_eq_true (by omega:(valD 0 r:Int)>0),decide_eq_true (by simp;omega:(((c::r).length:Nat):Int)≤10)]
       simp only [cond_true,lib_Itoa]
       have hlen:(Lib.itoa (valD 0 r:Int)).length≤21:=Lib.itoa_length_le _ (by omega) (by omega)
       rw [grd_pos ⟨by omega,by omega,by omega⟩]
       simp only [Option.bind_some,Option.some.injEq]
       rw [Lib.itoa_nonneg,d2];simp
     ·have hall:r.all isDig=false:=by simpa using hall
      rw [hall]
      simp only [Bool.and_false]
      cases ha:Lib.atoiAll r with
      | ok v =>
       simp only [atoiR,ha,cond_true]
       by_cases hv:v>0
       ·rw [decide_eq_true hv,decide_eq_true (by simp;omega:(((c::r).length:Nat):Int)≤10)]
        simp only [cond_true,lib_Itoa]
        have hvb:v≤9223372036854775807:=by
         cases r with
         | nil=>exact absurd rfl hne
         | cons x l =>
          unfold Lib.atoiAll at ha
          simp only at ha
          split at ha
          ·cases ha
          ·cases ha
          ·split at ha
           ·cases ha
           ·split at ha
            ·cases ha
            ·rename_i h1 h2
             simp only [Lib.NumEnd.ok.injEq] at ha
             rw [← ha]
             split
             ·omega
             ·rename_i h3
              have:=h1
              simp only [h3,not_false_eq_true,true_and] at this
              omega
        have hlen:(Lib.itoa v).length≤21:=Lib.itoa_length_le _ (by omega) hvb
        rw [grd_pos ⟨by omega,hvb,by omega⟩]
        simp only [Option.bind_some,Option.some.injEq]
        rw [beq_eq_false_iff_ne]
        intro e
        have:(Lib.itoa v).all isDig=true:=by
         unfold Lib.itoa
         rw [if_neg (by omega)];exact (dec_dig _).1
        rw [e,hall] at this;cases this
       ·rw [decide_eq_false hv];rfl
      | range=>simp [atoiR,ha]
      | _=>simp [atoiR,ha]
    ·have:r=[]:=List.eq_nil_of_length_eq_zero (by omega)
     subst this
     rfl
   ·rw [decide_eq_false h9,decide_eq_false (by simp;omega:¬ (((c::r).length:Nat):Int)≤10)]
    simp only [cond_false,Bool.false_and,Bool.and_false]
    cases (atoiR r).2<;>cases decide ((atoiR r).1>0)<;>rfl
  | false =>
   simp only [cond_false]
   rw [cnt_all (fun j=>isLet ((c::r).getD j 0)||(!(((j:Nat):Int)==0)&&isDig ((c::r).getD j 0))) _ _ () (fun j u _ _=>by
    simp only [isLet,isDig]
    generalize (c::r).getD j 0=x
    by_cases h1:(x.toNat:Int)<97
    ·rw [decide_eq_true h1,decide_eq_false (show ¬ 97≤x.toNat by omega)]
     simp only [cond_true,Bool.false_and,Bool.false_or]
     cases ((j:Nat):Int)==0
     ·simp only [cond_false,Bool.not_false,Bool.true_and]
      by_cases h2:(x.toNat:Int)<48
      ·rw [decide_eq_true h2,decide_eq_false (show ¬ 48≤x.toNat by omega)];rfl
      ·rw [decide_eq_false h2,decide_eq_true (show 48≤x.toNat by omega)]
       by_cases h3:(x.toNat:Int)>57
       ·rw [decide_eq_true h3,decide_eq_false (show ¬ x.toNat≤57 by omega)];rfl
       ·rw [decide_eq_false h3,decide_eq_true (show x.toNat≤57 by omega)];rfl
     ·rfl
    ·rw [decide_eq_false h1,decide_eq_true (show 97≤x.toNat by omega)]
     simp only [cond_false,Bool.true_and]
     by_cases h2:(x.toNat:Int)>122
     ·rw [decide_eq_true h2,decide_eq_false (show ¬ x.toNat≤122 by omega),decide_eq_false (show ¬ x.toNat≤57 by omega),decide_eq_false (show ¬ (x.toNat:Int)<48 by omega),decide_eq_true (show (x.toNat:Int)>57 by omega)]
      cases ((j:Nat):Int)==0<;>simp [Sh.aft]
     ·rw [decide_eq_false h2,decide_eq_true (show x.toNat≤122 by omega)];simp [Sh.aft]),aft_bif]
   have e:(List.range' 0 ((c::r).length-0)).all (fun j=>isLet ((c::r).getD j 0)||(!(((j:Nat):Int)==0)&&isDig ((c::r).getD j 0)))=(isLet c&&r.all (fun b=>isLet b||isDig b)):=by
    rw [show (c::r).length-0=r.length+1 by simp,List.range'_succ,List.all_cons]
    have e0:(isLet ((c::r).getD 0 0)||(!(((0:Nat):Int)==0)&&isDig ((c::r).getD 0 0)))=isLet c:=by simp
    rw [e0]
    congr 1
    rw [all_congr (q:=fun j=>(fun b=>isLet b||isDig b) ((c::r).getD j 0)) _ _ (fun j h1 _=>by
     have:(((j:Nat):Int)==0)=false:=by simp;omega
     simp only [this,Bool.not_false,Bool.true_and])]
    have:=all_getD (fun b=>isLet b||isDig b) 0 (c::r) 1
    simpa using this
   rw [e]
   have e2:((c::r)==[])=false:=rfl
   rw [e2]
   simp only [cond_false]
   by_cases h30:r.length≤29
   ·rw [decide_eq_true h30,decide_eq_true (by simp;omega:(((c::r).length:Nat):Int)≤30)]
    cases isLet c&&r.all (fun b=>isLet b||isDig b)<;>rfl
   ·rw [decide_eq_false h30,decide_eq_false (by simp;omega:¬ (((c::r).length:Nat):Int)≤30)]
    cases isLet c&&r.all (fun b=>isLet b||isDig b)<;>rfl
end Go.Proofs.YtjfpcjnopbfekaaGreatDoor
/- PLAIN LAWS, of no program: maps in any order; loops over lists. -/
namespace Go.Sh
theorem nodup_le {α:Type} [DecidableEq α]:∀ (l l':List α),l.Nodup→(∀ x∈l,x∈l')→l.length≤l'.length
 | [],l',_,_=>by simp
 | a::l,l',h,hs=>by
  rw [List.nodup_cons] at h
  have ha:a∈l':=hs a (by simp)
  have ih:=nodup_le l (l'.erase a) h.2 (fun x hx=>by
   have hne:x≠a:=fun e=>h.1 (e ▸ hx)
   exact (List.mem_erase_of_ne hne).2 (hs x (by simp [hx])))
  rw [List.length_erase_of_mem ha] at ih
  have:0<l'.length:=List.length_pos_of_mem ha
  simp only [List.length_cons];omega
theorem mr_go {V σ ε β:Type} {m:List (Str×V)} {body:Str×V→σ→Option (Stp σ ε β)} {K:σ→Prop} {J:β→Prop} (I:List Nat→σ→Prop) (g:σ→Str×V→σ)
 (hstep:∀ seen s i (h:i<m.length),seen.Nodup→i ∉ seen→(∀ j∈seen,j<m.length)→I seen s→body m[i] s=some (.go (g s m[i]))∧I (seen++[i]) (g s m[i]))
 (hend:∀ seen s,seen.Nodup→(∀ i,i<m.length→i∈seen)→(∀ i∈seen,i<m.length)→I seen s→K s) :
 ∀ (n:Nat) (seen:List Nat) (s:σ),seen.Nodup→(∀ i∈seen,i<m.length)→n+seen.length=m.length→I seen s→MR m body K J n seen s
 | 0,seen,s,h1,h2,h3,hI=>by
  have hall:∀ i,i<m.length→i∈seen:=by
   intro i hi
   refine Classical.byContradiction fun hn => ?_
   have:=nodup_le (i::seen) (List.range m.length) (List.nodup_cons.2 ⟨hn,h1⟩) (fun x hx=>by
    rcases List.mem_cons.1 hx with rfl | hx
    ·simpa using hi
    ·simpa using h2 x hx)
   simp at this;omega
  exact ⟨hall,hend seen s h1 hall h2 hI⟩
 | n+1,seen,s,h1,h2,h3,hI=>by
  refine ⟨?_,fun i hi hn => ?_⟩
  ·refine Classical.byContradiction fun hn => ?_
   have:=nodup_le (List.range m.length) seen List.nodup_range (fun x hx=>Classical.byContradiction fun hx2=>hn ⟨x,by simpa using hx,hx2⟩)
   simp at this;omega
  ·obtain ⟨e1,e2⟩:=hstep seen s i hi h1 hn h2 hI
   refine ⟨_,e1,?_⟩
   have hnd:(seen++[i]).Nodup:=by
    rw [List.nodup_append]
    exact ⟨h1,by simp,fun a ha b hb=>by
     have:b=i:=by simpa using hb
     subst this;intro e;subst e;exact hn ha⟩
   exact mr_go I g hstep hend n (seen++[i]) _ hnd (fun j hj=>by
    rcases List.mem_append.1 hj with hj | hj
    ·exact h2 j hj
    ·have:j=i:=by simpa using hj
     subst this;exact hi) (by simp;omega) e2
def leS (x y:Str):Bool:=decide (x≤y)
theorem leS_trans (a b c:Str) (h1:leS a b=true) (h2:leS b c=true):leS a c=true:=by
 simp only [leS,decide_eq_true_eq] at *;exact List.le_trans h1 h2
theorem leS_total (a b:Str):(leS a b||leS b a)=true:=by
 simp only [leS,Bool.or_eq_true,decide_eq_true_eq];exact List.le_total a b
theorem leS_anti (a b:Str) (h1:leS a b=true) (h2:leS b a=true):a=b:=by
 simp only [leS,decide_eq_true_eq] at *;exact List.le_antisymm h1 h2
theorem sort_sorted (l:List Str):(Go.Ab.sortS l).Pairwise (fun a b=>leS a b=true):=List.pairwise_mergeSort leS_trans leS_total l
theorem sort_perm (l:List Str):(Go.Ab.sortS l).Perm l:=List.mergeSort_perm l _
theorem sort_eq {l r:List Str} (hs:r.Pairwise (fun a b=>leS a b=true)) (hp:r.Perm l):Go.Ab.sortS l=r :=
 List.Perm.eq_of_pairwise (fun a b _ _=>leS_anti a b) (sort_sorted l) hs ((sort_perm l).trans hp.symm)
def insS (x:Str):List Str→List Str
 | []=>[x]
 | y::l=>bif leS x y then x::y::l else y::insS x l
def sortI:List Str→List Str
 | []=>[]
 | x::l=>insS x (sortI l)
theorem insS_perm (x:Str):∀ l,(insS x l).Perm (x::l)
 | []=>.refl _
 | y::l=>by
  simp only [insS]
  cases leS x y
  ·exact ((insS_perm x l).cons y).trans (.swap _ _ _)
  ·exact .refl _
theorem insS_sorted (x:Str):∀ {l:List Str},l.Pairwise (fun a b=>leS a b=true)→(insS x l).Pairwise (fun a b=>leS a b=true)
 | [],_=>by simp [insS]
 | y::l,h=>by
  rw [List.pairwise_cons] at h
  simp only [insS]
  cases hxy:leS x y
  ·simp only [cond_false,List.pairwise_cons]
   have hyx:leS y x=true:=by
    have:=leS_total x y
    rw [hxy] at this;simpa using this
   refine ⟨fun a ha => ?_,insS_sorted x h.2⟩
   rcases List.mem_cons.1 ((insS_perm x l).mem_iff.1 ha) with rfl | ha
   ·exact hyx
   ·exact h.1 a ha
  ·simp only [cond_true,List.pairwise_cons]
   refine ⟨fun a ha => ?_,h⟩
   rcases List.mem_cons.1 ha with rfl | ha
   ·exact hxy
   ·exact leS_trans _ _ _ hxy (h.1 a ha)
theorem sortI_perm:∀ l,(sortI l).Perm l
 | []=>.refl _
 | x::l=>(insS_perm x _).trans ((sortI_perm l).cons x)
theorem sortI_sorted:∀ l,(sortI l).Pairwise (fun a b=>leS a b=true)
 | []=>List.Pairwise.nil
 | x::l=>insS_sorted x (sortI_sorted l)
theorem sortS_eq (l:List Str):Go.Ab.sortS l=sortI l:=sort_eq (sortI_sorted l) (sortI_perm l)
end Go.Sh
namespace Go.Sh
section
variable {α σ ε ρ:Type}
def loopL (g:α→σ→Stp σ ε ρ) (fin:σ→ε):List α→σ→Out ε ρ
 | [],s=>.brk (fin s)
 | x::l,s=>match g x s with | .go s'=>loopL g fin l s' | .brk e=>.brk e | .ret r=>.ret r
theorem cnt_list {body:Nat→σ→Option (Stp σ ε ρ)} {fin:Nat→σ→ε} {f:σ→ε} (d:α) (l:List α) (g:α→σ→Stp σ ε ρ) (I:Nat→σ→Prop) (hf:∀ i s,fin i s=f s) :
 ∀ (i:Nat) (s:σ),I i s→(∀ j s,i≤j→j<l.length→I j s→body j s=some (g (l.getD j d) s)∧∀ s',g (l.getD j d) s = .go s'→I (j+1) s') →
 cnt body fin (l.length-i) i s=some (loopL g f (l.drop i) s):=by
 intro i s hI h
 by_cases hi:i<l.length
 ·obtain ⟨k,hk⟩:∃ k,l.length-i=k+1:=⟨l.length-i-1,by omega⟩
  obtain ⟨h1,h2⟩:=h i s (Nat.le_refl _) hi hI
  have hx:l.getD i d=l[i]:=by simp [List.getD_eq_getElem?_getD,List.getElem?_eq_getElem hi]
  rw [hx] at h1 h2
  rw [hk,List.drop_eq_getElem_cons hi]
  simp only [cnt,h1,Option.bind_some,loopL]
  cases hg:g l[i] s with
  | go s' =>
   have ih:=cnt_list d l g I hf (i+1) s' (h2 s' hg) (fun j s h1 h2=>h j s (by omega) h2)
   rw [show l.length-(i+1)=k by omega] at ih
   exact ih
  | brk e=>rfl
  | ret r=>rfl
 ·rw [show l.length-i=0 by omega,List.drop_eq_nil_of_le (by omega)]
  simp [cnt,loopL,hf]
 termination_by i=>l.length-i
theorem cnt_list0 {body:Nat→σ→Option (Stp σ ε ρ)} {fin:Nat→σ→ε} {f:σ→ε} (d:α) (l:List α) (g:α→σ→Stp σ ε ρ) (I:Nat→σ→Prop) (hf:∀ i s,fin i s=f s) (s:σ) (hI:I 0 s)
 (h:∀ j s,j<l.length→I j s→body j s=some (g (l.getD j d) s)∧∀ s',g (l.getD j d) s = .go s'→I (j+1) s') :
 cnt body fin (l.length-0) 0 s=some (loopL g f l s):=by
 have:=cnt_list d l g I hf 0 s hI (fun j s _ h1 h2=>h j s h1 h2)
 simpa using this
theorem cnt_place {body:Nat→Unit→Option (Stp Unit Nat ρ)} (p:Nat→Bool):∀ (k i:Nat) (u:Unit),(∀ j u,i≤j→j<i+k→body j u=some (bif p j then .brk j else .go ())) →
 cnt body (fun i _=>i) k i u=some (.brk (match (List.range' i k).find? p with | some j=>j | none=>i+k))
 | 0,i,u,h=>by simp [cnt]
 | k+1,i,u,h=>by
  simp only [cnt,h i u (Nat.le_refl _) (by omega),List.range'_succ,List.find?_cons]
  cases hp:p i with
  | false =>
   simp only [cond_false,Option.bind_some,stp]
   rw [cnt_place p k (i+1) () (fun j u h1 h2=>h j u (by omega) (by omega))]
   rw [show i+1+k=i+(k+1) by omega]
  | true=>simp [stp]
theorem idxOf_pos (p:α→Bool) (d:α):∀ l:List α,0≤idxOf p l→(idxOf p l).toNat<l.length∧p (l.getD (idxOf p l).toNat d)=true
 | [],h=>by simp [idxOf] at h
 | x::l,h=>by
  cases hp:p x with
  | true=>simp [idxOf,hp]
  | false =>
   have hge:=idxOf_ge p l
   simp only [idxOf,hp,cond_false] at h ⊢
   by_cases hm:idxOf p l = -1
   ·rw [hm] at h;simp at h
   ·have e:(idxOf p l == -1)=false:=by simpa using hm
    rw [e,cond_false]
    obtain ⟨h1,h2⟩:=idxOf_pos p d l (by omega)
    have e2:(idxOf p l+1).toNat=(idxOf p l).toNat+1:=by omega
    rw [e2]
    exact ⟨by simp;omega,by simpa using h2⟩
theorem place_idx (p:α→Bool) (d:α) (l:List α):((match (List.range' 0 (l.length-0)).find? (fun j=>p (l.getD j d)) with | some j=>j | none=>0+(l.length-0)):Nat)=(bif decide (idxOf p l<0) then l.length else (idxOf p l).toNat):=by
 have h:=find_idx0 p d l
 have hge:=idxOf_ge p l
 cases hf:(List.range' 0 (l.length-0)).find? (fun j=>p (l.getD j d)) with
 | none =>
  rw [hf] at h
  have h:(-1:Int)=idxOf p l:=h
  rw [← h];simp
 | some j =>
  rw [hf] at h
  have h:((j:Nat):Int)=idxOf p l:=h
  rw [← h,decide_eq_false (by omega)];simp
end
end Go.Sh
/- PLAIN LAWS of layer 5: what a valid polynomial is. -/
namespace Go.Proofs.YtjfpcjnopbfekaaGreatDoor
open Go.Ab Go.Sh
theorem w64_same {n:Int} (h1 : -9223372036854775808≤n) (h2:n≤9223372036854775807):w64 n=n:=by unfold w64 IntKind.wrap IntKind.bits IntKind.signed;simp;omega
theorem isNaN_f (x:Str):cmp_isNaN_string x=some false:=by simp [cmp_isNaN_string]
theorem less_eq (x y:Str):cmp_Less_string x y=some (Op.bytesLess x y):=by simp [cmp_Less_string,isNaN_f]
theorem compare1_eq (x y:Str):cmp_Compare_string x y=some (cmpS x y):=by
 simp only [cmp_Compare_string,isNaN_f,Option.bind_some,cond_false]
 cases h:Op.bytesLess x y with
 | true=>simp [cmpS,h]
 | false =>
  rcases cb_tri x y with h1 | h1 | h1
  ·rw [h] at h1;cases h1
  ·subst h1;simp [cmpS,h]
  ·have hne:(x==y)=false:=by
    rw [beq_eq_false_iff_ne];intro e;subst e;rw [h] at h1;cases h1
   simp [cmpS,h,h1,hne]
theorem compare_eq (a b:List Str):slices_Compare_string a b=some (cmpL a b):=by
 unfold slices_Compare_string
 generalize hb:(fun (i37:Nat) (s36:Unit)=>_:Nat→Unit→Option (Stp Unit Unit Int))=body
 have key:∀ k i u,i+k=a.length→i≤b.length→(∀ j,j<i→a.getD j []=b.getD j [])→(cnt body (fun _ _=>()) k i u).bind (aft fun _=>bif decide (((a.length:Nat):Int)<((b.length:Nat):Int)) then some (-1) else some 0)=some (cmpL a b):=by
  intro k
  induction k with
  | zero =>
   intro i u h1 h2 hA
   simp only [cnt,Option.bind_some,Sh.aft]
   by_cases h:a.length<b.length
   ·rw [decide_eq_true (by omega),cmpL_lt hA (by omega) (by omega)];rfl
   ·rw [decide_eq_false (by omega),cmpL_eq hA (by omega) (by omega)];rfl
  | succ k ih =>
   intro i u h1 h2 hA
   have e0:body i u=bif decide (((i:Nat):Int)≥((b.length:Nat):Int)) then some (.ret 1) else (cmp_Compare_string (a.getD i []) (b.getD i [])).bind fun y=>bif (y==0) then some (.go ()) else some (.ret y):=by rw [← hb]
   simp only [cnt]
   rw [e0]
   by_cases hl:b.length≤i
   ·rw [decide_eq_true (by omega),cmpL_gt hA (by omega) (by omega)];rfl
   ·rw [decide_eq_false (by omega)]
    simp only [cond_false,compare1_eq,Option.bind_some]
    by_cases hz:cmpS (a.getD i []) (b.getD i [])=0
    ·rw [hz]
     simp only [beq_self_eq_true,cond_true,Option.bind_some,stp]
     exact ih (i+1) () (by omega) (by omega) fun j hj=>by
      by_cases e:j=i
      ·subst e;exact cmpS_zero.1 hz
      ·exact hA j (by omega)
    ·rw [beq_eq_false_iff_ne.2 hz,cmpL_at hA (by omega) (by omega) hz]
     simp [stp,Sh.aft]
 exact key (a.length-0) 0 () (by omega) (Nat.zero_le _) (fun j hj=>absurd hj (Nat.not_lt_zero _))
theorem order_eq (a b:List Str) (ha:a.length≤1000000) (hb2:b.length≤1000000):∃ r,ref05_order a b=some r∧(0≤r↔0≤cmpL a b)∧(r=0↔cmpL a b=0):=by
 unfold ref05_order
 generalize hb:(fun (i47:Nat) (s46:Unit)=>_:Nat→Unit→Option (Stp Unit Unit Int))=body
 have hend:w64 (((a.length:Nat):Int)-((b.length:Nat):Int))=((a.length:Nat):Int)-((b.length:Nat):Int):=w64_same (by omega) (by omega)
 have key:∀ k i u,i+k=a.length→i≤b.length→(∀ j,j<i→a.getD j []=b.getD j [])→∃ r,(cnt body (fun _ _=>()) k i u).bind (aft fun _=>some (w64 (((a.length:Nat):Int)-((b.length:Nat):Int))))=some r∧(0≤r↔0≤cmpL a b)∧(r=0↔cmpL a b=0):=by
  intro k
  induction k with
  | zero =>
   intro i u h1 h2 hA
   refine ⟨_,rfl,?_⟩
   rw [hend]
   by_cases h:a.length<b.length
   ·rw [cmpL_lt hA (by omega) (by omega)];omega
   ·rw [cmpL_eq hA (by omega) (by omega)];omega
  | succ k ih =>
   intro i u h1 h2 hA
   have e0:body i u=bif decide (((i:Nat):Int)<((b.length:Nat):Int)) then (bif (Op.bytesLess (a.getD i []) (b.getD i [])) then some (.ret (-1)) else (bif (Op.bytesLess (a.getD i []) (b.getD i [])||(a.getD i [])==(b.getD i [])) then some (.go ()) else some (.ret 1))) else some (.brk ()):=by rw [← hb]
   simp only [cnt]
   rw [e0]
   by_cases hl:b.length≤i
   ·rw [decide_eq_false (by omega)]
    refine ⟨_,rfl,?_⟩
    rw [hend,cmpL_gt hA (by omega) (by omega)];omega
   ·rw [decide_eq_true (by omega)]
    simp only [cond_true]
    rcases cb_tri (a.getD i []) (b.getD i []) with h3 | h3 | h3
    ·rw [h3,cmpL_at hA (by omega) (by omega) (by have:=cmpS_neg.2 h3;omega)]
     refine ⟨_,rfl,?_⟩
     have:=cmpS_neg.2 h3;omega
    ·rw [h3,cb_irrefl]
     simp only [cond_false,Bool.false_or,beq_self_eq_true,cond_true,Option.bind_some,stp]
     exact ih (i+1) () (by omega) (by omega) fun j hj=>by
      by_cases e:j=i
      ·subst e;exact h3
      ·exact hA j (by omega)
    ·have hne:(a.getD i []==b.getD i [])=false:=by
      rw [beq_eq_false_iff_ne];intro e;rw [e,cb_irrefl] at h3;cases h3
     rw [cb_asymm h3,hne,cmpL_at hA (by omega) (by omega) (by have:=cmpS_pos.2 h3;omega)]
     refine ⟨_,rfl,?_⟩
     have:=cmpS_pos.2 h3;omega
 exact key (a.length-0) 0 () (by omega) (Nat.zero_le _) (fun j hj=>absurd hj (Nat.not_lt_zero _))
def srtB (x:List Str):Bool:=(List.range' 1 (x.length-1)).all fun j => !(Op.bytesLess (x.getD j []) (x.getD (j-1) []))
theorem range'_last (n:Nat):List.range' 1 (n+1)=List.range' 1 n++[n+1]:=by
 rw [List.range'_concat];simp [Nat.add_comm]
theorem isSorted_eq (x:List Str) (hx:x.length≤1000000):slices_IsSorted_string x=some (srtB x):=by
 unfold slices_IsSorted_string
 generalize hb:(fun (s32:Int)=>_:Int→Option (Stp Int Unit Bool))=body
 have key:∀ k fuel,k<x.length∨k=0→k<fuel→(whl body fuel ((k:Nat):Int)).bind (aft fun _=>some true)=some ((List.range' 1 k).all fun j => !(Op.bytesLess (x.getD j []) (x.getD (j-1) []))):=by
  intro k
  induction k with
  | zero =>
   intro fuel _ hf
   obtain ⟨f,rfl⟩:∃ f,fuel=f+1:=⟨fuel-1,by omega⟩
   have e0:body ((0:Nat):Int)=some (.brk ()):=by rw [← hb];rfl
   simp only [whl,e0,Option.bind_some,stp,Sh.aft];rfl
  | succ k ih =>
   intro fuel hk hf
   obtain ⟨f,rfl⟩:∃ f,fuel=f+1:=⟨fuel-1,by omega⟩
   have ew:w64 (((k+1:Nat):Int)-1)=((k:Nat):Int):=by rw [w64_same (by omega) (by omega)];omega
   have e0:body ((k+1:Nat):Int)=bif (Op.bytesLess (x.getD (k+1) []) (x.getD k [])) then some (.ret false) else some (.go ((k:Nat):Int)):=by
    rw [← hb]
    simp only [ew]
    rw [decide_eq_true (by omega)]
    simp only [cond_true]
    rw [grd_pos (by omega),grd_pos (by omega),less_eq]
    simp
   simp only [whl,e0]
   rw [range'_last,List.all_append]
   cases h:Op.bytesLess (x.getD (k+1) []) (x.getD k []) with
   | true=>simp only [cond_true,Option.bind_some,stp,Sh.aft,List.all_cons,List.all_nil,Bool.and_true,Nat.add_sub_cancel,h,Bool.not_true,Bool.and_false]
   | false =>
    simp only [cond_false,Option.bind_some,stp]
    rw [ih f (by omega) (by omega)]
    simp only [List.all_cons,List.all_nil,Bool.and_true,Nat.add_sub_cancel,h,Bool.not_false]
 by_cases h0:x.length=0
 ·have ex:x=[]:=List.eq_nil_of_length_eq_zero h0
  subst ex
  have e0:body (w64 (-1))=some (.brk ()):=by rw [← hb];rfl
  have e1:w64 ((([]:List Str).length:Nat)-1:Int)=w64 (-1):=rfl
  have e2:∀ fuel,(whl body (fuel+1) (w64 (-1))).bind (Sh.aft fun _=>some true)=some true:=fun fuel=>by simp only [whl,e0,Option.bind_some,stp,Sh.aft]
  exact e2 4294967295
 ·have ew:w64 (((x.length:Nat):Int)-1)=((x.length-1:Nat):Int):=by rw [w64_same (by omega) (by omega)];omega
  rw [ew]
  exact key (x.length-1) _ (by omega) (by omega)
theorem contains_eq (x:List Str) (hN:∀ v∈x,v.length≤1000000):slices_ContainsFunc_string x=some (!(x.all nameS)):=by
 have h1:∀ v∈x,poly_Valid_1 v=some (!(nameS v)):=fun v hv=>by unfold poly_Valid_1;rw [linear_Name_eq v (hN v hv)];rfl
 unfold slices_ContainsFunc_string slices_IndexFunc_string
 rw [cnt_find (f:=fun j=>((j:Nat):Int)) (fun j => !(nameS (x.getD j []))) _ _ () (fun j u _ hj=>by
  rw [h1 (x.getD j []) (by rw [List.getD_eq_getElem?_getD,List.getElem?_eq_getElem (by omega)];exact List.getElem_mem _)]
  cases nameS (x.getD j [])<;>rfl)]
 have h2:=find_idx0 (fun v => !(nameS v)) [] x
 have h3:=idxOf_neg (fun v => !(nameS v)) x
 have h4:x.any (fun v => !(nameS v)) = !(x.all nameS):=by
  rw [List.not_all_eq_any_not]
 generalize (List.range' 0 (x.length-0)).find? (fun j => !(nameS (x.getD j [])))=o at h2 ⊢
 cases o with
 | none =>
  simp only [Option.bind_some,Sh.aft]
  rw [← h2] at h3
  rw [← h4,h3.1 (by decide)];rfl
 | some j =>
  simp only [Option.bind_some,Sh.aft]
  rw [← h2] at h3
  have:x.any (fun v => !(nameS v))=true:=by
   cases h5:x.any (fun v => !(nameS v)) with
   | true=>rfl
   | false=>have h6:=h3.2 h5;simp only at h6;omega
  rw [← h4,this]
  simp
def okM (m:Monomial):Bool := !(m.Coef==0)&&(decide (-1099511627776≤m.Coef)&&(decide (m.Coef≤1099511627776)&&(decide (m.Vars.length≤8)&&(srtB m.Vars&&m.Vars.all nameS))))
def monoAt (p:List Monomial) (j:Nat):Monomial:=p.getD j ⟨0,[]⟩
def stepOk (p:List Monomial) (j:Nat):Bool:=okM (monoAt p j)&&(((j:Nat):Int)==0||decide (cmpL (monoAt p (j-1)).Vars (monoAt p j).Vars<0))
def validP (p:List Monomial):Bool:=(List.range' 0 (p.length-0)).all (stepOk p)&&decide (p.length≤60)
def Bd (p:List Monomial):Prop:=p.length≤1000000∧∀ m∈p,m.Vars.length≤1000000∧∀ v∈m.Vars,v.length≤1000000
theorem monoAt_mem {p:List Monomial} {j:Nat} (h:j<p.length):monoAt p j∈p:=by
 unfold monoAt;rw [List.getD_eq_getElem?_getD,List.getElem?_eq_getElem h];exact List.getElem_mem _
theorem poly_Valid_eq (p:List Monomial) (hB:Bd p):poly_Valid p=some (validP p):=by
 unfold poly_Valid
 rw [cnt_all (stepOk p) _ _ () (fun j u _ hj=>by
  have hm:=hB.2 _ (monoAt_mem (p:=p) (j:=j) (by omega))
  have hw:∀ (h:0<j),w64 (((j:Nat):Int)-1)=((j-1:Nat):Int):=fun h=>by rw [w64_same (by have:=hB.1;omega) (by have:=hB.1;omega)];omega
  show _=_
  unfold stepOk okM
  simp only [show p.getD j ⟨0,[]⟩=monoAt p j from rfl,isSorted_eq _ hm.1,contains_eq _ hm.2,Option.bind_some]
  by_cases hj0:0<j
  ·have hjz:(((j:Nat):Int)==0)=false:=by simp;omega
   rw [hw hj0,grd_pos (by omega),hjz,decide_eq_true (show ((j:Nat):Int)>0 by omega)]
   simp only [Int.toNat_natCast,show p.getD (j-1) ⟨0,[]⟩=monoAt p (j-1) from rfl,compare_eq,Option.bind_some,Bool.false_or,cond_true]
   generalize cmpL (monoAt p (j-1)).Vars (monoAt p j).Vars=r
   generalize monoAt p j=m
   have e1:decide (m.Coef < -1099511627776) = !(decide (-1099511627776≤m.Coef)):=by rw [Bool.eq_iff_iff];simp
   have e2:decide (m.Coef>1099511627776) = !(decide (m.Coef≤1099511627776)):=by rw [Bool.eq_iff_iff];simp
   have e3:decide (((m.Vars.length:Nat):Int)>8) = !(decide (m.Vars.length≤8)):=by rw [Bool.eq_iff_iff];simp;omega
   have e4:decide (r≥0) = !(decide (r<0)):=by rw [Bool.eq_iff_iff];simp
   rw [e1,e2,e3,e4]
   cases m.Coef==0<;>cases decide (-1099511627776≤m.Coef)<;>cases decide (m.Coef≤1099511627776)<;>cases decide (m.Vars.length≤8)<;>cases srtB m.Vars<;>cases m.Vars.all nameS<;>cases decide (r<0)<;>rfl
  ·have:j=0:=by omega
   subst this
   generalize monoAt p 0=m
   have e1:decide (m.Coef < -1099511627776) = !(decide (-1099511627776≤m.Coef)):=by rw [Bool.eq_iff_iff];simp
   have e2:decide (m.Coef>1099511627776) = !(decide (m.Coef≤1099511627776)):=by rw [Bool.eq_iff_iff];simp
   have e3:decide (((m.Vars.length:Nat):Int)>8) = !(decide (m.Vars.length≤8)):=by rw [Bool.eq_iff_iff];simp;omega
   rw [e1,e2,e3]
   cases m.Coef==0<;>cases decide (-1099511627776≤m.Coef)<;>cases decide (m.Coef≤1099511627776)<;>cases decide (m.Vars.length≤8)<;>cases srtB m.Vars<;>cases m.Vars.all nameS<;>rfl),aft_bif]
 unfold validP
 cases (List.range' 0 (p.length-0)).all (stepOk p) with
 | false=>rfl
 | true =>
  simp only [cond_true,Bool.true_and,Option.some.injEq]
  rw [decide_eq_decide];omega
end Go.Proofs.YtjfpcjnopbfekaaGreatDoor
/- PLAIN LAWS of layer 5: the specification says just as much of a valid polynomial. -/
namespace Go.Proofs.YtjfpcjnopbfekaaGreatDoor
open Go.Ab Go.Sh
theorem le_flip (x y:Str):(Op.bytesLess x y||x==y) = !(Op.bytesLess y x):=by
 rcases cb_tri x y with h | h | h
 ·simp [h,cb_asymm h]
 ·subst h;simp [cb_irrefl]
 ·have hne:(x==y)=false:=by rw [beq_eq_false_iff_ne];intro e;subst e;rw [cb_irrefl] at h;cases h
  simp [h,hne,cb_asymm h]
def nm (x:List Str) (k:Nat):Bool:=nameS (x.getD k [])&&(((k:Nat):Int)==0 || !(Op.bytesLess (x.getD k []) (x.getD (k-1) [])))
theorem nm_all (x:List Str):(List.range' 0 (x.length-0)).all (nm x)=(srtB x&&x.all nameS):=by
 have h1:=all0 nameS [] x
 rw [← h1]
 unfold srtB
 rw [Bool.eq_iff_iff]
 simp only [Bool.and_eq_true,List.all_eq_true,List.mem_range'_1,nm,Bool.or_eq_true,beq_iff_eq]
 constructor
 ·intro h
  refine ⟨fun j hj => ?_,fun j hj=>(h j hj).1⟩
  rcases (h j (by omega)).2 with h2 | h2
  ·omega
  ·exact h2
 ·rintro ⟨h2,h3⟩ j hj
  refine ⟨h3 j hj,?_⟩
  by_cases h0:j=0
  ·exact .inl (by omega)
  ·exact .inr (h2 j (by omega))
theorem ref05_Valid_eq (p:List Monomial) (hB:Bd p):ref05_Valid p=some (validP p):=by
 unfold ref05_Valid
 unfold validP
 by_cases h60:p.length≤60
 ·rw [decide_eq_false (by omega),decide_eq_true h60]
  simp only [cond_false,Bool.and_true]
  rw [cnt_all (stepOk p) _ _ () (fun j u _ hj=>by
   have hm:=hB.2 _ (monoAt_mem (p:=p) (j:=j) (by omega))
   have hw:∀ {j:Nat} (h:0<j),j≤1000000→w64 (((j:Nat):Int)-1)=((j-1:Nat):Int):=fun h h2=>by rw [w64_same (by omega) (by omega)];omega
   show _=_
   simp only [show p.getD j ⟨0,[]⟩=monoAt p j from rfl]
   rw [cnt_all (nm (monoAt p j).Vars) _ _ () (fun k u _ hk=>by
    unfold nm
    rw [ref04_Name_eq]
    simp only [Option.bind_some]
    cases nameS ((monoAt p j).Vars.getD k []) with
    | false=>rfl
    | true =>
     simp only [cond_true,Bool.true_and]
     by_cases hk0:0<k
     ·have hkz:(((k:Nat):Int)==0)=false:=by simp;omega
      rw [hw hk0 (by omega),grd_pos (by omega),hkz,decide_eq_true (show ((k:Nat):Int)>0 by omega)]
      simp only [Int.toNat_natCast,le_flip,Bool.false_or,cond_true]
      cases Op.bytesLess ((monoAt p j).Vars.getD k []) ((monoAt p j).Vars.getD (k-1) [])<;>rfl
     ·have:k=0:=by omega
      subst this
      rfl),nm_all]
   unfold stepOk okM
   by_cases hj0:0<j
   ·have hm':=hB.2 _ (monoAt_mem (p:=p) (j:=j-1) (by omega))
    have hjz:(((j:Nat):Int)==0)=false:=by simp;omega
    obtain ⟨r,hr,hr1,hr2⟩:=order_eq (monoAt p (j-1)).Vars (monoAt p j).Vars hm'.1 hm.1
    rw [hw hj0 (by omega),grd_pos (by omega),hjz,decide_eq_true (show ((j:Nat):Int)>0 by omega)]
    simp only [Int.toNat_natCast,show p.getD (j-1) ⟨0,[]⟩=monoAt p (j-1) from rfl,hr,Option.bind_some,Bool.false_or,cond_true]
    have e4:decide (r≥0) = !(decide (cmpL (monoAt p (j-1)).Vars (monoAt p j).Vars<0)):=by rw [Bool.eq_iff_iff];simp;omega
    rw [e4]
    generalize cmpL (monoAt p (j-1)).Vars (monoAt p j).Vars=r
    generalize monoAt p j=m
    have e1:decide (m.Coef < -1099511627776) = !(decide (-1099511627776≤m.Coef)):=by rw [Bool.eq_iff_iff];simp
    have e2:decide (m.Coef>1099511627776) = !(decide (m.Coef≤1099511627776)):=by rw [Bool.eq_iff_iff];simp
    have e3:decide (((m.Vars.length:Nat):Int)>8) = !(decide (m.Vars.length≤8)):=by rw [Bool.eq_iff_iff];simp;omega
    rw [e1,e2,e3]
    cases m.Coef==0<;>cases decide (-1099511627776≤m.Coef)<;>cases decide (m.Coef≤1099511627776)<;>cases decide (m.Vars.length≤8)<;>cases srtB m.Vars<;>cases m.Vars.all nameS<;>cases decide (r<0)<;>rfl
   ·have:j=0:=by omega
    subst this
    generalize monoAt p 0=m
    have e1:decide (m.Coef < -1099511627776) = !(decide (-1099511627776≤m.Coef)):=by rw [Bool.eq_iff_iff];simp
    have e2:decide (m.Coef>1099511627776) = !(decide (m.Coef≤1099511627776)):=by rw [Bool.eq_iff_iff];simp
    have e3:decide (((m.Vars.length:Nat):Int)>8) = !(decide (m.Vars.length≤8)):=by rw [Bool.eq_iff_iff];simp;omega
    rw [e1,e2,e3]
    cases m.Coef==0<;>cases decide (-1099511627776≤m.Coef)<;>cases decide (m.Coef≤1099511627776)<;>cases decide (m.Vars.length≤8)<;>cases srtB m.Vars<;>cases m.Vars.all nameS<;>rfl),aft_bif]
  cases (List.range' 0 (p.length-0)).all (stepOk p)<;>rfl
 ·rw [decide_eq_true (by omega),decide_eq_false h60]
  simp
end Go.Proofs.YtjfpcjnopbfekaaGreatDoor
/- PLAIN LAWS of layer 3: products and sums are exact, or there is an error. -/
namespace Go.Proofs.YtjfpcjnopbfekaaGreatDoor
open Go.Ab Go.Sh
theorem cnt_inv {σ ε ρ:Type} {body:Nat→σ→Option (Stp σ ε ρ)} {fin:Nat→σ→ε} (I:Nat→σ→Prop):∀ (k i:Nat) (s:σ),I i s→(∀ j s,i≤j→j<i+k→I j s→∃ s',body j s=some (.go s')∧I (j+1) s') →
 ∃ s',cnt body fin k i s=some (.brk (fin (i+k) s'))∧I (i+k) s'
 | 0,i,s,hI,h=>⟨s,by simp [cnt],hI⟩
 | k+1,i,s,hI,h=>by
  obtain ⟨s1,h1,h2⟩:=h i s (Nat.le_refl _) (by omega) hI
  obtain ⟨s',e1,e3⟩:=cnt_inv I k (i+1) s1 h2 (fun j s h1 h2=>h j s (by omega) (by omega))
  refine ⟨s',?_,by rw [show i+(k+1)=i+1+k by omega];exact e3⟩
  simp only [cnt,h1,Option.bind_some,stp]
  rw [e1,show i+1+k=i+(k+1) by omega]
def inB (n:Int):Bool:=decide (-4611686018427387904≤n)&&decide (n≤4611686018427387904)
theorem inB_iff {n:Int}:inB n=true ↔ -4611686018427387904≤n∧n≤4611686018427387904:=by simp [inB]
theorem ref03_In_eq (n:Int):ref03_In n=some (inB n):=by
 unfold ref03_In inB
 by_cases h : -4611686018427387904≤n
 ·rw [decide_eq_true (show n ≥ -4611686018427387904 from h)];rfl
 ·rw [decide_eq_false (show ¬ n ≥ -4611686018427387904 from h)];rfl
theorem intmath_in_eq (l:List Int):intmath_in l=some (l.all inB):=by
 unfold intmath_in
 rw [cnt_all (fun j=>inB (l.getD j 0)) _ _ () (fun j u _ _=>by
  generalize l.getD j 0=n
  unfold inB
  have e1:decide (n < -4611686018427387904) = !(decide (-4611686018427387904≤n)):=by rw [Bool.eq_iff_iff];simp
  have e2:decide (n>4611686018427387904) = !(decide (n≤4611686018427387904)):=by rw [Bool.eq_iff_iff];simp
  rw [e1,e2]
  cases decide (-4611686018427387904≤n)<;>cases decide (n≤4611686018427387904)<;>rfl),aft_bif,all0 inB 0 l]
 cases l.all inB<;>rfl
theorem abs_nat {a:Int} (h:inB a=true):intmath_abs a=some (a.natAbs:Int)∧a.natAbs≤4611686018427387904:=by
 rw [inB_iff] at h
 unfold intmath_abs
 by_cases h0:a<0
 ·rw [decide_eq_true h0]
  simp only [cond_true,Option.some.injEq]
  rw [w64_same (by omega) (by omega)];omega
 ·rw [decide_eq_false h0]
  simp only [cond_false,Option.some.injEq];omega
theorem abs_natR {a:Int} (h:inB a=true):ref03_abs a=some (a.natAbs:Int)∧a.natAbs≤4611686018427387904:=by
 rw [inB_iff] at h
 unfold ref03_abs
 by_cases h0:a<0
 ·rw [decide_eq_true h0]
  simp only [cond_true,Option.some.injEq]
  rw [w64_same (by omega) (by omega)];omega
 ·rw [decide_eq_false h0]
  simp only [cond_false,Option.some.injEq];omega
theorem wrap_u64 {n:Int} (h0:0≤n) (h:n<18446744073709551616):IntKind.wrap .u64 n=n:=by
 unfold IntKind.wrap IntKind.bits IntKind.signed;simp;omega
theorem wrap_i64 {n:Int} (h0:0≤n) (h:n≤9223372036854775807):IntKind.wrap .i64 n=n:=w64_same (by omega) h
def mulR (a b:Int):Int×Int:=bif inB a&&(inB b&&inB (a*b)) then (a*b,0) else (0,2)
theorem prod_sign (a b:Int):((decide (a<0)==decide (b<0))=true→a*b=((a.natAbs*b.natAbs:Nat):Int))∧((decide (a<0)==decide (b<0))=false→a*b = -((a.natAbs*b.natAbs:Nat):Int)):=by
 rcases Int.natAbs_eq a with ha | ha<;>rcases Int.natAbs_eq b with hb | hb
 all_goals
  generalize a.natAbs=x at ha ⊢
  generalize b.natAbs=y at hb ⊢
  subst ha;subst hb
 ·refine ⟨fun _=>by push_cast;rfl,fun h => ?_⟩
  rw [decide_eq_false (by omega),decide_eq_false (by omega)] at h;cases h
 ·constructor
  ·intro h
   by_cases hy:y=0
   ·subst hy;simp
   ·rw [decide_eq_false (by omega),decide_eq_true (by omega)] at h;cases h
  ·intro _;rw [Int.mul_neg];push_cast;rfl
 ·constructor
  ·intro h
   by_cases hx:x=0
   ·subst hx;simp
   ·rw [decide_eq_true (by omega),decide_eq_false (by omega)] at h;cases h
  ·intro _;rw [Int.neg_mul];push_cast;rfl
 ·constructor
  ·intro _;rw [Int.neg_mul_neg];push_cast;rfl
  ·intro h
   by_cases hx:x=0
   ·subst hx;simp
   ·by_cases hy:y=0
    ·subst hy;simp
    ·rw [decide_eq_true (by omega),decide_eq_true (by omega)] at h;cases h
theorem bnd_some {α β:Type} (x:α) (f:α→Option β):(some x).bind f=f x:=Eq.trans (Option.bind_some x f) rfl
theorem mul64_eq {x y:Int} (hx:0≤x∧x<18446744073709551616) (hy:0≤y∧y<18446744073709551616):lib_Mul64 x y=some (x*y / 18446744073709551616,x*y % 18446744073709551616):=if_pos ⟨hx,hy⟩
theorem ref03_Mul_eq (a b:Int):ref03_Mul a b=some (mulR a b):=by
 unfold ref03_Mul mulR
 simp only [ref03_In_eq,Option.bind_some]
 cases ha:inB a with
 | false=>simp
 | true =>
  cases hb:inB b with
  | false=>simp
  | true =>
   simp only [Bool.true_and,cond_true]
   by_cases ha0:a=0
   ·subst ha0;simp [inB]
   ·by_cases hb0:b=0
    ·subst hb0
     have:(a==0)=false:=by simpa using ha0
     rw [this];simp [inB]
    ·obtain ⟨a1,a2⟩:=abs_natR ha
     obtain ⟨b1,b2⟩:=abs_natR hb
     rw [beq_eq_false_iff_ne.2 ha0,beq_eq_false_iff_ne.2 hb0]
     simp only [cond_false,a1,b1,Option.bind_some]
     rw [grd_pos (by omega)]
     obtain ⟨s1,s2⟩:=prod_sign a b
     have hbn:0<b.natAbs:=by omega
     have e1:(4611686018427387904:Int).tdiv (b.natAbs:Int)=((4611686018427387904 / b.natAbs:Nat):Int):=by
      rw [Int.tdiv_eq_ediv_of_nonneg (by decide)];rfl
     have hq:4611686018427387904 / b.natAbs≤4611686018427387904:=Nat.div_le_self _ _
     have hd:(a.natAbs≤4611686018427387904 / b.natAbs)↔a.natAbs*b.natAbs≤4611686018427387904:=Nat.le_div_iff_mul_le hbn
     rw [e1]
     generalize 4611686018427387904 / b.natAbs=q at hq hd ⊢
     rw [w64_same (by omega) (by omega)]
     by_cases hle:a.natAbs*b.natAbs≤4611686018427387904
     ·rw [decide_eq_false (by have:=hd.2 hle;omega)]
      have:inB (a*b)=true:=by
       rw [inB_iff]
       cases hs:(decide (a<0)==decide (b<0)) with
       | true=>rw [s1 hs];omega
       | false=>rw [s2 hs];omega
      have h2:=inB_iff.1 this
      rw [this,w64_same (by omega) (by omega)];rfl
     ·rw [decide_eq_true (by have:¬ a.natAbs≤q:=fun h=>hle (hd.1 h);omega)]
      have:inB (a*b)=false:=by
       have:¬ (inB (a*b)=true):=by
        rw [inB_iff]
        cases hs:(decide (a<0)==decide (b<0)) with
        | true=>rw [s1 hs];omega
        | false=>rw [s2 hs];omega
       simpa using this
      rw [this];rfl
end Go.Proofs.YtjfpcjnopbfekaaGreatDoor
/- PLAIN LAWS of layer 3: the long sums of the program are exact. -/
namespace Go.Proofs.YtjfpcjnopbfekaaGreatDoor
open Go.Ab Go.Sh
def v3 (a b c:Int):Int:=a+b*18446744073709551616+c*340282366920938463463374607431768211456
def lm (x:Int):Prop:=0≤x∧x<18446744073709551616
theorem add64_eq {x y c:Int} (hx:lm x) (hy:lm y) (hc:0≤c∧c≤1):lib_Add64 x y c=some ((x+y+c) % 18446744073709551616,(x+y+c) / 18446744073709551616):=if_pos ⟨hx,hy,hc⟩
theorem add64_ex {x y c:Int} (hx:lm x) (hy:lm y) (hc:0≤c∧c≤1):∃ r d,lib_Add64 x y c=some (r,d)∧lm r∧(0≤d∧d≤1)∧r+d*18446744073709551616=x+y+c:=by
 refine ⟨_,_,add64_eq hx hy hc,?_⟩
 unfold lm at *
 generalize hs:x+y+c=s
 omega
theorem mul64_ex {x y:Int} (hx:lm x) (hy:lm y):∃ hi lo,lib_Mul64 x y=some (hi,lo)∧lm lo∧lo+hi*18446744073709551616=x*y∧0≤hi:=by
 refine ⟨_,_,mul64_eq hx hy,?_⟩
 have h0:0≤x*y:=Int.mul_nonneg hx.1 hy.1
 unfold lm
 generalize x*y=s at h0
 omega
theorem add3_ex {x0 x1 x2 hi lo:Int} (h0:lm x0) (h1:lm x1) (h2:lm x2) (hh:lm hi) (hl:lm lo) (hs:v3 x0 x1 x2+lo+hi*18446744073709551616<6277101735386680763835789423207666416102355444464034512896) :
 ∃ r0 r1 r2 c0 c1 c2,lib_Add64 x0 lo 0=some (r0,c0)∧lib_Add64 x1 hi c0=some (r1,c1)∧lib_Add64 x2 0 c1=some (r2,c2)∧lm r0∧lm r1∧lm r2∧v3 r0 r1 r2=v3 x0 x1 x2+lo+hi*18446744073709551616:=by
 obtain ⟨r0,c0,e0,l0,d0,s0⟩:=add64_ex h0 hl (c:=0) (by omega)
 obtain ⟨r1,c1,e1,l1,d1,s1⟩:=add64_ex h1 hh d0
 obtain ⟨r2,c2,e2,l2,d2,s2⟩:=add64_ex h2 (y:=0) (by unfold lm;omega) d1
 refine ⟨r0,r1,r2,c0,c1,c2,e0,e1,e2,l0,l1,l2,?_⟩
 unfold lm v3 at *
 omega
theorem total_add_eq {a b p0 p1 p2 n0 n1 n2 K:Int} (ha:inB a=true) (hb:inB b=true) (h0:lm p0) (h1:lm p1) (h2:lm p2) (g0:lm n0) (g1:lm n1) (g2:lm n2) (hK:v3 p0 p1 p2+v3 n0 n1 n2≤K) (hK2:K≤6277101735386680763835789423207666416102355444464034512896-21267647932558653966460912964485513216-1) :
 ∃ q0 q1 q2 m0 m1 m2,intmath_total_add a b p0 p1 p2 n0 n1 n2=some (q0,q1,q2,m0,m1,m2)∧lm q0∧lm q1∧lm q2∧lm m0∧lm m1∧lm m2∧v3 q0 q1 q2-v3 m0 m1 m2=v3 p0 p1 p2-v3 n0 n1 n2+a*b∧v3 q0 q1 q2+v3 m0 m1 m2≤K+21267647932558653966460912964485513216:=by
 obtain ⟨a1,a2⟩:=abs_nat ha
 obtain ⟨b1,b2⟩:=abs_nat hb
 obtain ⟨s1,s2⟩:=prod_sign a b
 obtain ⟨hi,lo,em,hlo,hsum,hhi⟩:=mul64_ex (x:=(a.natAbs:Int)) (y:=(b.natAbs:Int)) (by unfold lm;omega) (by unfold lm;omega)
 have hP:((a.natAbs:Int)*(b.natAbs:Int))=((a.natAbs*b.natAbs:Nat):Int):=by push_cast;rfl
 have hPb:a.natAbs*b.natAbs≤21267647932558653966460912964485513216:=by
  have:=Nat.mul_le_mul a2 b2
  exact this
 rw [hP] at hsum
 have wa:=wrap_u64 (n:=(a.natAbs:Int)) (by omega) (by omega)
 have wb:=wrap_u64 (n:=(b.natAbs:Int)) (by omega) (by omega)
 have v0:0≤v3 p0 p1 p2:=by unfold lm v3 at *;omega
 have v1:0≤v3 n0 n1 n2:=by unfold lm v3 at *;omega
 generalize a.natAbs*b.natAbs=Pn at s1 s2 hsum hPb
 have hhi2:lm hi:=by unfold lm at *;omega
 unfold intmath_total_add
 cases hs:(decide (a<0)==decide (b<0)) with
 | true =>
  obtain ⟨r0,r1,r2,c0,c1,c2,e0,e1,e2,l0,l1,l2,hv⟩:=add3_ex h0 h1 h2 hhi2 hlo (by omega)
  refine ⟨r0,r1,r2,n0,n1,n2,?_,l0,l1,l2,g0,g1,g2,?_,?_⟩
  ·simp only [cond_true]
   rw [a1,b1]
   simp only [bnd_some]
   rw [wa,wb,em]
   simp only [bnd_some]
   rw [e0]
   simp only [bnd_some]
   rw [e1]
   simp only [bnd_some]
   rw [e2]
   simp only [bnd_some]
  ·rw [hv,s1 hs];omega
  ·rw [hv];omega
 | false =>
  obtain ⟨r0,r1,r2,c0,c1,c2,e0,e1,e2,l0,l1,l2,hv⟩:=add3_ex g0 g1 g2 hhi2 hlo (by omega)
  refine ⟨p0,p1,p2,r0,r1,r2,?_,h0,h1,h2,l0,l1,l2,?_,?_⟩
  ·simp only [cond_false]
   rw [a1,b1]
   simp only [bnd_some]
   rw [wa,wb,em]
   simp only [bnd_some]
   rw [e0]
   simp only [bnd_some]
   rw [e1]
   simp only [bnd_some]
   rw [e2]
   simp only [bnd_some]
  ·rw [hv,s2 hs];omega
  ·rw [hv];omega
theorem sub64_ex {x y c:Int} (hx:lm x) (hy:lm y) (hc:0≤c∧c≤1):∃ r d,lib_Sub64 x y c=some (r,d)∧lm r∧(0≤d∧d≤1)∧r=x-y-c+d*18446744073709551616:=by
 have e:lib_Sub64 x y c=some ((x-y-c) % 18446744073709551616,if x<y+c then 1 else 0):=if_pos ⟨hx,hy,hc⟩
 refine ⟨_,_,e,?_⟩
 unfold lm at *
 generalize hs:x-y-c=s
 split<;>omega
theorem value_1_eq {a0 a1 a2 b0 b1 b2:Int} (h0:lm a0) (h1:lm a1) (h2:lm a2) (g0:lm b0) (g1:lm b1) (g2:lm b2) :
 ∃ r0 r1 r2 k,intmath_total_value_1 (a0,a1,a2) (b0,b1,b2)=some ((r0,r1,r2),k)∧(v3 b0 b1 b2≤v3 a0 a1 a2→k=true∧lm r0∧lm r1∧lm r2∧v3 r0 r1 r2=v3 a0 a1 a2-v3 b0 b1 b2)∧(v3 a0 a1 a2<v3 b0 b1 b2→k=false):=by
 obtain ⟨r0,c0,e0,l0,d0,s0⟩:=sub64_ex h0 g0 (c:=0) (by omega)
 obtain ⟨r1,c1,e1,l1,d1,s1⟩:=sub64_ex h1 g1 d0
 obtain ⟨r2,c2,e2,l2,d2,s2⟩:=sub64_ex h2 g2 d1
 refine ⟨r0,r1,r2,c2==0,?_,fun h => ?_,fun h => ?_⟩
 ·unfold intmath_total_value_1
  rw [e0]
  simp only [bnd_some]
  rw [e1]
  simp only [bnd_some]
  rw [e2]
  simp only [bnd_some]
 ·unfold lm v3 at *
  refine ⟨?_,l0,l1,l2,by omega⟩
  have:c2=0:=by omega
  rw [this];rfl
 ·unfold lm v3 at *
  have:c2=1:=by omega
  rw [this];rfl
theorem checked_eq (n:Int) (h:inB n=true):intmath_checked n=some (n,0):=by
 unfold intmath_checked
 rw [intmath_in_eq]
 simp only [List.all_cons,List.all_nil,h,Bool.and_true,bnd_some,cond_true]
def sumE (S:Int):Int×Int:=bif inB S then (S,0) else (0,2)
theorem sumE_out {S:Int} (h:S < -4611686018427387904∨4611686018427387904<S):sumE S=(0,2):=by
 have:inB S=false:=by
  have:¬ inB S=true:=by rw [inB_iff];omega
  simpa using this
 unfold sumE;rw [this];rfl
theorem sumE_in {S:Int} (h:inB S=true):sumE S=(S,0):=by unfold sumE;rw [h];rfl
theorem total_value_eq {a0 a1 a2 b0 b1 b2:Int} (h0:lm a0) (h1:lm a1) (h2:lm a2) (g0:lm b0) (g1:lm b1) (g2:lm b2):intmath_total_value a0 a1 a2 b0 b1 b2=some (sumE (v3 a0 a1 a2-v3 b0 b1 b2)):=by
 obtain ⟨r0,r1,r2,k,e1,k1,k2⟩:=value_1_eq h0 h1 h2 g0 g1 g2
 obtain ⟨t0,t1,t2,j,e2,j1,j2⟩:=value_1_eq g0 g1 g2 h0 h1 h2
 unfold intmath_total_value
 rw [e1]
 simp only [bnd_some]
 by_cases hge:v3 b0 b1 b2≤v3 a0 a1 a2
 ·obtain ⟨hk,l0,l1,l2,hv⟩:=k1 hge
  rw [hk]
  simp only [cond_true]
  by_cases q1:r1>0
  ·rw [decide_eq_true q1,sumE_out (by unfold lm v3 at *;omega)];rfl
  ·rw [decide_eq_false q1]
   simp only [cond_false]
   by_cases q2:r2>0
   ·rw [decide_eq_true q2,sumE_out (by unfold lm v3 at *;omega)];rfl
   ·rw [decide_eq_false q2]
    simp only [cond_false]
    by_cases q0:r0>4611686018427387904
    ·rw [decide_eq_true q0,sumE_out (by unfold lm v3 at *;omega)];rfl
    ·rw [decide_eq_false q0]
     simp only [cond_false]
     have e:r0=v3 a0 a1 a2-v3 b0 b1 b2:=by unfold lm v3 at *;omega
     have hin:inB r0=true:=inB_iff.2 (by unfold lm at *;omega)
     rw [wrap_i64 l0.1 (by omega),Int.one_mul,w64_same (by unfold lm at *;omega) (by omega),checked_eq r0 hin,← e,sumE_in hin]
     simp only [bnd_some]
 ·rw [k2 (by omega)]
  simp only [cond_false]
  rw [e2]
  simp only [bnd_some]
  obtain ⟨hj,l0,l1,l2,hv⟩:=j1 (by omega)
  rw [hj]
  simp only [cond_true]
  by_cases q1:t1>0
  ·rw [decide_eq_true q1,sumE_out (by unfold lm v3 at *;omega)];rfl
  ·rw [decide_eq_false q1]
   simp only [cond_false]
   by_cases q2:t2>0
   ·rw [decide_eq_true q2,sumE_out (by unfold lm v3 at *;omega)];rfl
   ·rw [decide_eq_false q2]
    simp only [cond_false]
    by_cases q0:t0>4611686018427387904
    ·rw [decide_eq_true q0,sumE_out (by unfold lm v3 at *;omega)];rfl
    ·rw [decide_eq_false q0]
     simp only [cond_false]
     have e : -t0=v3 a0 a1 a2-v3 b0 b1 b2:=by unfold lm v3 at *;omega
     have hin:inB (-t0)=true:=inB_iff.2 (by unfold lm at *;omega)
     rw [wrap_i64 l0.1 (by omega),show (-1)*t0 = -t0 by omega,w64_same (by omega) (by unfold lm at *;omega),checked_eq (-t0) hin,← e,sumE_in hin]
     simp only [bnd_some]
end Go.Proofs.YtjfpcjnopbfekaaGreatDoor
/- PLAIN LAWS of layer 3: Sum and Dot. -/
namespace Go.Proofs.YtjfpcjnopbfekaaGreatDoor
open Go.Ab Go.Sh
def sumF (f:Nat→Int):Nat→Int
 | 0=>0
 | j+1=>sumF f j+f j
def dotF (a b:List Int) (i:Nat):Int:=a.getD i 0*b.getD i 0
def dotR (a b:List Int):Int×Int:=bif decide (a.length=b.length) then (bif decide (a.length≤10000) then (bif a.all inB&&b.all inB then sumE (sumF (dotF a b) a.length) else (0,2)) else (0,3)) else (0,1)
def limbs (s:Int×Int×Int×Int×Int×Int):Prop:=lm s.1∧lm s.2.1∧lm s.2.2.1∧lm s.2.2.2.1∧lm s.2.2.2.2.1∧lm s.2.2.2.2.2
def dif (s:Int×Int×Int×Int×Int×Int):Int:=v3 s.1 s.2.1 s.2.2.1-v3 s.2.2.2.1 s.2.2.2.2.1 s.2.2.2.2.2
def tot (s:Int×Int×Int×Int×Int×Int):Int:=v3 s.1 s.2.1 s.2.2.1+v3 s.2.2.2.1 s.2.2.2.2.1 s.2.2.2.2.2
theorem add_state {a b:Int} (ha:inB a=true) (hb:inB b=true) (s:Int×Int×Int×Int×Int×Int) (hl:limbs s) (j:Nat) (hj:j<10000) (ht:tot s≤(j:Int)*21267647932558653966460912964485513216) :
 ∃ s',intmath_total_add a b s.1 s.2.1 s.2.2.1 s.2.2.2.1 s.2.2.2.2.1 s.2.2.2.2.2=some s'∧limbs s'∧dif s'=dif s+a*b∧tot s'≤((j+1:Nat):Int)*21267647932558653966460912964485513216:=by
 obtain ⟨q0,q1,q2,m0,m1,m2,e,l0,l1,l2,l3,l4,l5,hd,hs⟩:=total_add_eq (K:=(j:Int)*21267647932558653966460912964485513216) ha hb hl.1 hl.2.1 hl.2.2.1 hl.2.2.2.1 hl.2.2.2.2.1 hl.2.2.2.2.2 ht (by omega)
 refine ⟨(q0,q1,q2,m0,m1,m2),e,⟨l0,l1,l2,l3,l4,l5⟩,hd,?_⟩
 show v3 q0 q1 q2+v3 m0 m1 m2≤_
 omega
theorem value_state (s:Int×Int×Int×Int×Int×Int) (hl:limbs s):intmath_total_value s.1 s.2.1 s.2.2.1 s.2.2.2.1 s.2.2.2.2.1 s.2.2.2.2.2=some (sumE (dif s)) :=
 total_value_eq hl.1 hl.2.1 hl.2.2.1 hl.2.2.2.1 hl.2.2.2.2.1 hl.2.2.2.2.2
theorem all_at {l:List Int} (h:l.all inB=true) {j:Nat} (hj:j<l.length):inB (l.getD j 0)=true:=by
 rw [List.getD_eq_getElem?_getD,List.getElem?_eq_getElem hj]
 exact List.all_eq_true.1 h _ (List.getElem_mem hj)
theorem limbs0:limbs (0,0,0,0,0,0):=by unfold limbs lm;simp
theorem intmath_Dot_eq (a b:List Int):intmath_Dot a b=some (dotR a b):=by
 unfold intmath_Dot dotR
 by_cases hlen:a.length=b.length
 ·rw [decide_eq_true hlen,show ((((a.length:Nat):Int)==((b.length:Nat):Int)))=true by simp [hlen]]
  simp only [cond_true]
  by_cases h1:a.length≤10000
  ·rw [decide_eq_true h1,decide_eq_false (by omega)]
   simp only [cond_true,cond_false]
   rw [intmath_in_eq,intmath_in_eq]
   simp only [bnd_some]
   cases ha:a.all inB with
   | false=>rfl
   | true =>
    cases hb:b.all inB with
    | false=>rfl
    | true =>
     simp only [cond_true,Bool.and_true]
     obtain ⟨s',e1,hI⟩:=cnt_inv (ρ:=Empty) (body:=fun i93 (s92:Int×Int×Int×Int×Int×Int)=>grd (i93<b.length) <| (intmath_total_add (a.getD i93 0) (b.getD i93 0) s92.1 s92.2.1 s92.2.2.1 s92.2.2.2.1 s92.2.2.2.2.1 s92.2.2.2.2.2).bind fun y122=>some (.go (y122.1,y122.2.1,y122.2.2.1,y122.2.2.2.1,y122.2.2.2.2.1,y122.2.2.2.2.2)))
      (fin:=fun i93 s92=>(s92.1,s92.2.1,s92.2.2.1,s92.2.2.2.1,s92.2.2.2.2.1,s92.2.2.2.2.2))
      (fun j s=>limbs s∧dif s=sumF (dotF a b) j∧tot s≤(j:Int)*21267647932558653966460912964485513216) (a.length-0) 0 (0,0,0,0,0,0) ⟨limbs0,rfl,by decide⟩ (fun j s _ hj ⟨i1,i2,i3⟩=>by
       obtain ⟨s',e,l,d,t⟩:=add_state (all_at ha (j:=j) (by omega)) (all_at hb (j:=j) (by omega)) s i1 j (by omega) i3
       refine ⟨s',?_,l,by rw [d,i2];rfl,t⟩
       rw [grd_pos (by omega),e];rfl)
     rw [e1]
     show (intmath_total_value s'.1 s'.2.1 s'.2.2.1 s'.2.2.2.1 s'.2.2.2.2.1 s'.2.2.2.2.2).bind _=_
     rw [value_state s' hI.1,hI.2.1,Nat.zero_add,Nat.sub_zero];rfl
  ·rw [decide_eq_false h1,decide_eq_true (by omega)];rfl
 ·rw [decide_eq_false hlen,show ((((a.length:Nat):Int)==((b.length:Nat):Int)))=false by rw [beq_eq_false_iff_ne];omega];rfl
end Go.Proofs.YtjfpcjnopbfekaaGreatDoor
/- PLAIN LAWS of layer 3: the specification's sums of products are exact too. -/
namespace Go.Proofs.YtjfpcjnopbfekaaGreatDoor
open Go.Ab Go.Sh
theorem tdiv_pos {n:Int} (h:0≤n):n.tdiv 2097152=n / 2097152:=Int.tdiv_eq_ediv_of_nonneg h
theorem tdiv_neg {n:Int} (h:n≤0):n.tdiv 2097152 = -((-n) / 2097152):=by
 have h1:(-(-n)).tdiv 2097152 = -((-n).tdiv 2097152):=Int.neg_tdiv ..
 rw [Int.neg_neg] at h1
 rw [h1,tdiv_pos (by omega)]
theorem tmod_eq (n:Int):n.tmod 2097152=n-2097152*n.tdiv 2097152:=Int.tmod_def ..
theorem digits_ex {n:Int} (h:inB n=true):∃ x0 x1 x2,ref03_digits n=some (x0,x1,x2)∧n=x0+x1*2097152+x2*4398046511104∧(-2097152≤x0∧x0≤2097152)∧(-2097152≤x1∧x1≤2097152)∧(-2097152≤x2∧x2≤2097152):=by
 have hb:=inB_iff.1 h
 have e:ref03_digits n=some (n.tmod 2097152,(n.tdiv 2097152).tmod 2097152,(n.tdiv 2097152).tdiv 2097152):=by
  have h1 : -2199023255552≤n.tdiv 2097152∧n.tdiv 2097152≤2199023255552:=by
   by_cases h0:0≤n
   ·rw [tdiv_pos h0];omega
   ·rw [tdiv_neg (by omega)];omega
  have h2 : -1048576≤(n.tdiv 2097152).tdiv 2097152∧(n.tdiv 2097152).tdiv 2097152≤1048576:=by
   generalize n.tdiv 2097152=m at h1
   by_cases h0:0≤m
   ·rw [tdiv_pos h0];omega
   ·rw [tdiv_neg (by omega)];omega
  unfold ref03_digits
  rw [w64_same (by omega) (by omega),w64_same (by omega) (by omega)]
 refine ⟨_,_,_,e,?_⟩
 rw [tmod_eq n,tmod_eq (n.tdiv 2097152)]
 by_cases h0:0≤n
 ·rw [tdiv_pos h0,tdiv_pos (n:=n / 2097152) (by omega)];omega
 ·rw [tdiv_neg (n:=n) (by omega),tdiv_neg (n := -((-n) / 2097152)) (by omega)];omega
theorem Div_ex {c:Int} (h:inB c=true):∃ q,ref03_Div c 2097152=some (q,0)∧q*2097152≤c∧c<q*2097152+2097152:=by
 have hb:=inB_iff.1 h
 refine ⟨c / 2097152,?_,by omega,by omega⟩
 unfold ref03_Div
 rw [ref03_In_eq,ref03_In_eq,h]
 simp only [bnd_some,cond_true]
 rw [show inB 2097152=true from rfl]
 simp only [cond_true]
 rw [show ((2097152:Int)==0)=false from rfl]
 simp only [cond_false]
 rw [grd_pos (by decide),show decide ((2097152:Int)<0)=false from rfl]
 by_cases h0:0≤c
 ·rw [tmod_eq,tdiv_pos h0,decide_eq_false (show ¬ c<0 by omega)]
  by_cases hz:c-2097152*(c / 2097152)=0
  ·rw [hz]
   simp only [beq_self_eq_true,cond_true,bnd_some,cond_false]
   rw [w64_same (by omega) (by omega)]
  ·rw [beq_eq_false_iff_ne.2 hz]
   simp only [cond_false,beq_self_eq_true,Bool.not_true,bnd_some]
   rw [w64_same (by omega) (by omega)]
 ·rw [tmod_eq,tdiv_neg (by omega),decide_eq_true (show c<0 by omega)]
  by_cases hz:c-2097152 * -((-c) / 2097152)=0
  ·rw [hz]
   simp only [beq_self_eq_true,cond_true,bnd_some,cond_false]
   rw [w64_same (by omega) (by omega)]
   have : -((-c) / 2097152)=c / 2097152:=by omega
   rw [this]
  ·rw [beq_eq_false_iff_ne.2 hz]
   have e1:(!(true==false))=true:=rfl
   simp only [cond_false,e1,bnd_some,cond_true]
   rw [w64_same (n := -((-c) / 2097152)) (by omega) (by omega),w64_same (by omega) (by omega)]
   have : -((-c) / 2097152)-1=c / 2097152:=by omega
   rw [this]
theorem pb {x y:Int} (hx : -2097152≤x∧x≤2097152) (hy : -2097152≤y∧y≤2097152) : -4398046511104≤x*y∧x*y≤4398046511104:=by
 have h1:x.natAbs≤2097152:=by omega
 have h2:y.natAbs≤2097152:=by omega
 have h3:=Nat.mul_le_mul h1 h2
 rw [← Int.natAbs_mul] at h3
 omega
theorem mul33 (x0 x1 x2 y0 y1 y2:Int):(x0+x1*2097152+x2*4398046511104)*(y0+y1*2097152+y2*4398046511104) =
 x0*y0+(x0*y1+x1*y0)*2097152+(x0*y2+x1*y1+x2*y0)*4398046511104+(x1*y2+x2*y1)*9223372036854775808+x2*y2*19342813113834066795298816:=by
 simp only [Int.add_mul,Int.mul_add,Int.mul_assoc,Int.mul_comm,Int.mul_left_comm,Int.reduceMul]
 omega
abbrev C5:=Int×Int×Int×Int×Int
def sm (c:Int) (j:Nat):Prop := -((j:Int)*13194139533312)≤c∧c≤(j:Int)*13194139533312
def v5 (s:C5):Int:=s.1+s.2.1*2097152+s.2.2.1*4398046511104+s.2.2.2.1*9223372036854775808+s.2.2.2.2*19342813113834066795298816
def okC (j:Nat) (s:C5):Prop:=sm s.1 j∧sm s.2.1 j∧sm s.2.2.1 j∧sm s.2.2.2.1 j∧sm s.2.2.2.2 j
theorem dig_step {a b:Int} (ha:inB a=true) (hb:inB b=true) (s:C5) (j:Nat) (hj:j<10000) (hs:okC j s) :
 ∃ x y:Int×Int×Int,ref03_digits a=some x∧ref03_digits b=some y∧∃ s':C5,((w64 (s.1+(w64 (x.1*y.1)))),(w64 ((w64 (s.2.1+(w64 (x.1*y.2.1))))+(w64 (x.2.1*y.1)))),(w64 ((w64 ((w64 (s.2.2.1+(w64 (x.1*y.2.2))))+(w64 (x.2.1*y.2.1))))+(w64 (x.2.2*y.1)))),(w64 ((w64 (s.2.2.2.1+(w64 (x.2.1*y.2.2))))+(w64 (x.2.2*y.2.1)))),(w64 (s.2.2.2.2+(w64 (x.2.2*y.2.2)))))=s'∧okC (j+1) s'∧v5 s'=v5 s+a*b:=by
 obtain ⟨x0,x1,x2,ex,hx,bx0,bx1,bx2⟩:=digits_ex ha
 obtain ⟨y0,y1,y2,ey,hy,by0,by1,by2⟩:=digits_ex hb
 refine ⟨(x0,x1,x2),(y0,y1,y2),ex,ey,(s.1+x0*y0,s.2.1+x0*y1+x1*y0,s.2.2.1+x0*y2+x1*y1+x2*y0,s.2.2.2.1+x1*y2+x2*y1,s.2.2.2.2+x2*y2),?_⟩
 have hm:=mul33 x0 x1 x2 y0 y1 y2
 rw [← hx,← hy] at hm
 have p00:=pb bx0 by0;have p01:=pb bx0 by1;have p02:=pb bx0 by2
 have p10:=pb bx1 by0;have p11:=pb bx1 by1;have p12:=pb bx1 by2
 have p20:=pb bx2 by0;have p21:=pb bx2 by1;have p22:=pb bx2 by2
 rw [hm]
 show (w64 (s.1+w64 (x0*y0)),w64 (w64 (s.2.1+w64 (x0*y1))+w64 (x1*y0)),w64 (w64 (w64 (s.2.2.1+w64 (x0*y2))+w64 (x1*y1))+w64 (x2*y0)),w64 (w64 (s.2.2.2.1+w64 (x1*y2))+w64 (x2*y1)),w64 (s.2.2.2.2+w64 (x2*y2)))=_∧_
 obtain ⟨s0,s1,s2,s3,s4⟩:=s
 generalize x0*y0=m00 at *;generalize x0*y1=m01 at *;generalize x0*y2=m02 at *
 generalize x1*y0=m10 at *;generalize x1*y1=m11 at *;generalize x1*y2=m12 at *
 generalize x2*y0=m20 at *;generalize x2*y1=m21 at *;generalize x2*y2=m22 at *
 unfold okC sm at *
 simp only at hs ⊢
 refine ⟨?_,by omega,by unfold v5;simp only;omega⟩
 rw [w64_same (n:=m00) (by omega) (by omega),w64_same (n:=m01) (by omega) (by omega),w64_same (n:=m02) (by omega) (by omega),w64_same (n:=m10) (by omega) (by omega),w64_same (n:=m11) (by omega) (by omega),w64_same (n:=m12) (by omega) (by omega),w64_same (n:=m20) (by omega) (by omega),w64_same (n:=m21) (by omega) (by omega),w64_same (n:=m22) (by omega) (by omega)]
 rw [w64_same (n:=s0+m00) (by omega) (by omega),w64_same (n:=s1+m01) (by omega) (by omega),w64_same (n:=s1+m01+m10) (by omega) (by omega),w64_same (n:=s2+m02) (by omega) (by omega),w64_same (n:=s2+m02+m11) (by omega) (by omega),w64_same (n:=s2+m02+m11+m20) (by omega) (by omega),w64_same (n:=s3+m12) (by omega) (by omega),w64_same (n:=s3+m12+m21) (by omega) (by omega),w64_same (n:=s4+m22) (by omega) (by omega)]
end Go.Proofs.YtjfpcjnopbfekaaGreatDoor
/- PLAIN LAWS of layer 3: the specification's Dot. -/
namespace Go.Proofs.YtjfpcjnopbfekaaGreatDoor
open Go.Ab Go.Sh
theorem all_two (a b:List Int) (h:a.length=b.length):(List.range' 0 (a.length-0)).all (fun j=>inB (a.getD j 0)&&inB (b.getD j 0))=(a.all inB&&b.all inB):=by
 have h1:=all0 inB 0 a
 have h2:=all0 inB 0 b
 rw [← h1,← h2,← h,Bool.eq_iff_iff]
 simp only [Bool.and_eq_true,List.all_eq_true]
 exact ⟨fun k=>⟨fun j hj=>(k j hj).1,fun j hj=>(k j hj).2⟩,fun k j hj=>⟨k.1 j hj,k.2 j hj⟩⟩
theorem wz {q:Int} (h : -9223372036854775808≤q) (h2:q≤9223372036854775807):w64 (0+q)=q:=by rw [Int.zero_add];exact w64_same h h2
set_option maxHeartbeats 1000000 in
theorem ref03_Dot_eq (a b:List Int):ref03_Dot a b=some (dotR a b):=by
 unfold dotR
 by_cases hlen:a.length=b.length
 ·by_cases h1:a.length≤10000
  ·rw [decide_eq_true hlen,decide_eq_true h1]
   simp only [cond_true]
   unfold ref03_Dot
   rw [show ((((a.length:Nat):Int)==((b.length:Nat):Int)))=true by simp [hlen]]
   simp only [cond_true]
   rw [decide_eq_false (show ¬ ((a.length:Nat):Int)>10000 by omega)]
   simp only [cond_false]
   rw [cnt_all (fun j=>inB (a.getD j 0)&&inB (b.getD j 0)) _ _ () (fun j u _ hj=>by
    rw [ref03_In_eq,ref03_In_eq,grd_pos (by omega)]
    simp only [bnd_some]
    cases inB (a.getD j 0)<;>cases inB (b.getD j 0)<;>rfl),aft_bif,all_two a b hlen]
   cases hin:a.all inB&&b.all inB with
   | false=>rfl
   | true =>
    rw [Bool.and_eq_true] at hin
    obtain ⟨ha,hb⟩:=hin
    simp only [cond_true]
    obtain ⟨s,e1,hI⟩:=cnt_inv (ρ:=Empty) (body:=fun i197 (s196:C5)=>(ref03_digits (a.getD i197 0)).bind fun y227=>grd (i197<b.length) <| (ref03_digits (b.getD i197 0)).bind fun y232 =>
     some (.go ((w64 (s196.1+(w64 (y227.1*y232.1)))),(w64 ((w64 (s196.2.1+(w64 (y227.1*y232.2.1))))+(w64 (y227.2.1*y232.1)))),(w64 ((w64 ((w64 (s196.2.2.1+(w64 (y227.1*y232.2.2))))+(w64 (y227.2.1*y232.2.1))))+(w64 (y227.2.2*y232.1)))),(w64 ((w64 (s196.2.2.2.1+(w64 (y227.2.1*y232.2.2))))+(w64 (y227.2.2*y232.2.1)))),(w64 (s196.2.2.2.2+(w64 (y227.2.2*y232.2.2)))))))
     (fin:=fun i197 s196=>(s196.1,s196.2.1,s196.2.2.1,s196.2.2.2.1,s196.2.2.2.2))
     (fun j s=>okC j s∧v5 s=sumF (dotF a b) j) (a.length-0) 0 (0,0,0,0,0) ⟨by unfold okC sm;simp,by unfold v5 sumF;simp⟩ (fun j s _ hj ⟨i1,i2⟩=>by
      obtain ⟨x,y,ex,ey,s',es,k1,k2⟩:=dig_step (all_at ha (j:=j) (by omega)) (all_at hb (j:=j) (by omega)) s j (by omega) i1
      refine ⟨s',?_,k1,?_⟩
      ·rw [ex]
       simp only [bnd_some]
       rw [grd_pos (by omega),ey]
       simp only [bnd_some]
       rw [es]
      ·rw [k2,i2];rfl)
    rw [e1]
    rw [Nat.zero_add,Nat.sub_zero] at hI
    obtain ⟨hC,hv⟩:=hI
    have hlen2:(a.length:Int)≤10000:=by omega
    rw [← hv]
    clear hv e1
    obtain ⟨s0,s1,s2,s3,s4⟩:=s
    unfold okC sm at hC
    simp only at hC
    obtain ⟨⟨z0,z0'⟩,⟨z1,z1'⟩,⟨z2,z2'⟩,⟨z3,z3'⟩,⟨z4,z4'⟩⟩:=hC
    obtain ⟨S,hS⟩:∃ S,S=v5 (s0,s1,s2,s3,s4):=⟨_,rfl⟩
    rw [← hS]
    have hS2:S=s0+s1*2097152+s2*4398046511104+s3*9223372036854775808+s4*19342813113834066795298816:=hS
    clear hS
    have b0 : -131941395333120000≤s0∧s0≤131941395333120000:=by omega
    have b1 : -131941395333120000≤s1∧s1≤131941395333120000:=by omega
    have b2 : -131941395333120000≤s2∧s2≤131941395333120000:=by omega
    have b3 : -131941395333120000≤s3∧s3≤131941395333120000:=by omega
    have b4 : -131941395333120000≤s4∧s4≤131941395333120000:=by omega
    clear z0 z0' z1 z1' z2 z2' z3 z3' z4 z4'
    show ((ref03_Div s0 2097152).bind fun y243=>_)=_
    obtain ⟨q0,e0,f0,g0⟩:=Div_ex (c:=s0) (inB_iff.2 (by omega))
    rw [e0]
    simp only [bnd_some]
    rw [w64_same (n:=s1+q0) (by omega) (by omega)]
    obtain ⟨c1,hc1⟩:∃ c,c=s1+q0:=⟨_,rfl⟩
    rw [← hc1]
    obtain ⟨q1,e1,f1,g1⟩:=Div_ex (c:=c1) (inB_iff.2 (by omega))
    rw [e1]
    simp only [bnd_some]
    rw [w64_same (n:=s2+q1) (by omega) (by omega)]
    obtain ⟨c2,hc2⟩:∃ c,c=s2+q1:=⟨_,rfl⟩
    rw [← hc2]
    obtain ⟨q2,e2,f2,g2⟩:=Div_ex (c:=c2) (inB_iff.2 (by omega))
    rw [e2]
    simp only [bnd_some]
    rw [w64_same (n:=s3+q2) (by omega) (by omega)]
    obtain ⟨c3,hc3⟩:∃ c,c=s3+q2:=⟨_,rfl⟩
    rw [← hc3]
    obtain ⟨q3,e3,f3,g3⟩:=Div_ex (c:=c3) (inB_iff.2 (by omega))
    rw [e3]
    simp only [bnd_some]
    rw [w64_same (n:=s4+q3) (by omega) (by omega)]
    obtain ⟨c4,hc4⟩:∃ c,c=s4+q3:=⟨_,rfl⟩
    rw [← hc4]
    obtain ⟨q4,e4,f4,g4⟩:=Div_ex (c:=c4) (inB_iff.2 (by omega))
    rw [e4]
    simp only [bnd_some]
    rw [wz (q:=q4) (by omega) (by omega)]
    obtain ⟨q5,e5,f5,g5⟩:=Div_ex (c:=q4) (inB_iff.2 (by omega))
    rw [e5]
    simp only [bnd_some]
    rw [wz (q:=q5) (by omega) (by omega)]
    obtain ⟨q6,e6,f6,g6⟩:=Div_ex (c:=q5) (inB_iff.2 (by omega))
    rw [e6]
    simp only [bnd_some]
    rw [wz (q:=q6) (by omega) (by omega),wz (q:=q6) (by omega) (by omega)]
    clear e0 e1 e2 e3 e4 e5 e6
    rw [w64_same (n:=q6*2097152) (by omega) (by omega),w64_same (n:=q5-q6*2097152) (by omega) (by omega),show q6*2097152+(q5-q6*2097152)=q5 by omega,w64_same (n:=q5) (by omega) (by omega)]
    rw [w64_same (n:=q5*2097152) (by omega) (by omega),w64_same (n:=q4-q5*2097152) (by omega) (by omega),show q5*2097152+(q4-q5*2097152)=q4 by omega,w64_same (n:=q4) (by omega) (by omega)]
    rw [w64_same (n:=q4*2097152) (by omega) (by omega),w64_same (n:=c4-q4*2097152) (by omega) (by omega),show q4*2097152+(c4-q4*2097152)=c4 by omega,w64_same (n:=c4) (by omega) (by omega)]
    rw [w64_same (n:=q3*2097152) (by omega) (by omega),w64_same (n:=c3-q3*2097152) (by omega) (by omega),w64_same (n:=q2*2097152) (by omega) (by omega),w64_same (n:=c2-q2*2097152) (by omega) (by omega),w64_same (n:=q1*2097152) (by omega) (by omega),w64_same (n:=c1-q1*2097152) (by omega) (by omega),w64_same (n:=q0*2097152) (by omega) (by omega),w64_same (n:=s0-q0*2097152) (by omega) (by omega)]
    obtain ⟨d3,hd3⟩:∃ d,d=c3-q3*2097152:=⟨_,rfl⟩
    obtain ⟨d2,hd2⟩:∃ d,d=c2-q2*2097152:=⟨_,rfl⟩
    obtain ⟨d1,hd1⟩:∃ d,d=c1-q1*2097152:=⟨_,rfl⟩
    obtain ⟨d0,hd0⟩:∃ d,d=s0-q0*2097152:=⟨_,rfl⟩
    rw [← hd3,← hd2,← hd1,← hd0]
    have k3:0≤d3∧d3<2097152:=by omega
    have k2:0≤d2∧d2<2097152:=by omega
    have k1:0≤d1∧d1<2097152:=by omega
    have k0:0≤d0∧d0<2097152:=by omega
    have hSv:S=c4*19342813113834066795298816+d3*9223372036854775808+d2*4398046511104+d1*2097152+d0:=by omega
    rw [decide_eq_false (show ¬ q6>2199023255552 by omega),decide_eq_false (show ¬ q6 < -2199023255552 by omega),decide_eq_false (show ¬ q5>2199023255552 by omega),decide_eq_false (show ¬ q5 < -2199023255552 by omega),decide_eq_false (show ¬ q4>2199023255552 by omega),decide_eq_false (show ¬ q4 < -2199023255552 by omega)]
    simp only [cond_false]
    clear hc1 hc2 hc3 hc4 f0 f1 f2 f3 f4 f5 f6 g0 g1 g2 g3 g4 g5 g6 hd3 hd2 hd1 hd0 hS2 b0 b1 b2 b3
    by_cases t4:c4>2199023255552
    ·rw [decide_eq_true t4,sumE_out (by omega)];rfl
    rw [decide_eq_false t4]
    by_cases u4:c4 < -2199023255552
    ·rw [decide_eq_true u4,sumE_out (by omega)];rfl
    rw [decide_eq_false u4]
    simp only [cond_false]
    rw [w64_same (n:=c4*2097152) (by omega) (by omega),w64_same (n:=c4*2097152+d3) (by omega) (by omega)]
    obtain ⟨n3,hn3⟩:∃ d,d=c4*2097152+d3:=⟨_,rfl⟩
    rw [← hn3]
    by_cases t3:n3>2199023255552
    ·rw [decide_eq_true t3,sumE_out (by omega)];rfl
    rw [decide_eq_false t3]
    by_cases u3:n3 < -2199023255552
    ·rw [decide_eq_true u3,sumE_out (by omega)];rfl
    rw [decide_eq_false u3]
    simp only [cond_false]
    rw [w64_same (n:=n3*2097152) (by omega) (by omega),w64_same (n:=n3*2097152+d2) (by omega) (by omega)]
    obtain ⟨n2,hn2⟩:∃ d,d=n3*2097152+d2:=⟨_,rfl⟩
    rw [← hn2]
    by_cases t2:n2>2199023255552
    ·rw [decide_eq_true t2,sumE_out (by omega)];rfl
    rw [decide_eq_false t2]
    by_cases u2:n2 < -2199023255552
    ·rw [decide_eq_true u2,sumE_out (by omega)];rfl
    rw [decide_eq_false u2]
    simp only [cond_false]
    rw [w64_same (n:=n2*2097152) (by omega) (by omega),w64_same (n:=n2*2097152+d1) (by omega) (by omega)]
    obtain ⟨n1,hn1⟩:∃ d,d=n2*2097152+d1:=⟨_,rfl⟩
    rw [← hn1]
    by_cases t1:n1>2199023255552
    ·rw [decide_eq_true t1,sumE_out (by omega)];rfl
    rw [decide_eq_false t1]
    by_cases u1:n1 < -2199023255552
    ·rw [decide_eq_true u1,sumE_out (by omega)];rfl
    rw [decide_eq_false u1]
    simp only [cond_false]
    rw [w64_same (n:=n1*2097152) (by omega) (by omega),w64_same (n:=n1*2097152+d0) (by omega) (by omega),show n1*2097152+d0=S by omega,ref03_In_eq]
    simp only [bnd_some]
    unfold sumE
    cases inB S<;>rfl
  ·rw [decide_eq_true hlen,decide_eq_false h1]
   unfold ref03_Dot
   rw [show ((((a.length:Nat):Int)==((b.length:Nat):Int)))=true by simp [hlen]]
   simp only [cond_true,cond_false]
   rw [decide_eq_true (show ((a.length:Nat):Int)>10000 by omega)]
   simp only [cond_true]
 ·rw [decide_eq_false hlen]
  unfold ref03_Dot
  rw [show ((((a.length:Nat):Int)==((b.length:Nat):Int)))=false by rw [beq_eq_false_iff_ne];omega]
  simp only [cond_false]
end Go.Proofs.YtjfpcjnopbfekaaGreatDoor
/- PLAIN LAWS of layer 5: the value of a polynomial. -/
namespace Go.Proofs.YtjfpcjnopbfekaaGreatDoor
open Go.Ab Go.Sh
def isV (v:Str) (x:Value):Bool:=x.Var==v
def look (vs:List Value) (v:Str):Int:=idxOf (isV v) vs
abbrev S1:=List (List Int)×Bool
theorem valid_coef {p:List Monomial} (h:validP p=true) {m:Monomial} (hm:m∈p):okM m=true:=by
 unfold validP at h
 rw [Bool.and_eq_true,List.all_eq_true] at h
 obtain ⟨j,hj,rfl⟩:=List.getElem_of_mem hm
 have:=h.1 j (by rw [List.mem_range'_1];omega)
 unfold stepOk at this
 rw [Bool.and_eq_true] at this
 have e:monoAt p j=p[j]:=by unfold monoAt;rw [List.getD_eq_getElem?_getD,List.getElem?_eq_getElem hj];rfl
 rw [e] at this
 exact this.1
end Go.Proofs.YtjfpcjnopbfekaaGreatDoor
/- PLAIN LAWS of layer 5: the specification gives the same value. -/
/- PLAIN LAWS of layer 5: Eval, the program against the specification. -/
/- PLAIN LAWS of layer 5: how much the guards leave. -/
namespace Go.Proofs.YtjfpcjnopbfekaaGreatDoor
open Go.Ab Go.Sh
def shortM (m:Monomial):Bool:=decide (m.Vars.length≤10)&&m.Vars.all (fun v=>decide (v.length≤40))
def fewP (p:List Monomial) (n:Int):Bool:=p.all shortM&&decide ((p.length:Int)≤n)
theorem ref05_Few_eq (p:List Monomial) (n:Int):ref05_Few p n=some (fewP p n):=by
 unfold ref05_Few fewP
 rw [cnt_all (fun j=>shortM (p.getD j ⟨0,[]⟩)) _ _ () (fun j u _ _=>by
  generalize p.getD j ⟨0,[]⟩=m
  unfold shortM
  by_cases h10:m.Vars.length≤10
  ·rw [decide_eq_false (show ¬ ((m.Vars.length:Nat):Int)>10 by omega),decide_eq_true h10]
   simp only [cond_false,Bool.true_and]
   generalize hbd:(fun (s241:Int)=>_:Int→Option (Stp Int Unit (Stp Unit Unit Bool)))=body
   have key:∀ (rest:List Str) (k fuel:Nat),m.Vars.drop k=rest→k+rest.length=m.Vars.length→rest.length<fuel→whl body fuel ((k:Nat):Int)=some (bif rest.all (fun v=>decide (v.length≤40)) then .brk () else .ret (.ret false)):=by
    intro rest
    induction rest with
    | nil =>
     intro k fuel h1 h2 h3
     obtain ⟨f,rfl⟩:∃ f,fuel=f+1:=⟨fuel-1,by simp at h3;omega⟩
     have e0:body ((k:Nat):Int)=some (.brk ()):=by
      rw [← hbd]
      simp only
      rw [decide_eq_false (by simp at h2;omega)];rfl
     simp only [whl,e0,bnd_some,stp]
     rfl
    | cons v rest ih =>
     intro k fuel h1 h2 h3
     obtain ⟨f,rfl⟩:∃ f,fuel=f+1:=⟨fuel-1,by simp at h3;omega⟩
     have hk:k<m.Vars.length:=by simp at h2;omega
     have h4:=drop_cons hk
     rw [h1] at h4
     have hv1:m.Vars.getD k []=v:=(List.cons.inj h4).1.symm
     have hv2:m.Vars.drop (k+1)=rest:=(List.cons.inj h4).2.symm
     have hw:w64 (((k:Nat):Int)+1)=((k+1:Nat):Int):=by rw [w64_same (by omega) (by omega)];omega
     have e0:body ((k:Nat):Int)=some (bif decide (v.length≤40) then .go ((k+1:Nat):Int) else .ret (.ret false)):=by
      rw [← hbd]
      simp only
      rw [decide_eq_true (by omega)]
      simp only [cond_true]
      rw [grd_pos (by omega),Int.toNat_natCast,hv1,hw]
      by_cases hv:v.length≤40
      ·rw [decide_eq_true hv,decide_eq_false (by omega)];rfl
      ·rw [decide_eq_false hv,decide_eq_true (by omega)];rfl
     simp only [whl,e0,bnd_some,List.all_cons]
     cases decide (v.length≤40) with
     | false=>rfl
     | true =>
      simp only [cond_true,Bool.true_and,stp]
      exact ih (k+1) f hv2 (by simp at h2;omega) (by simp at h3;omega)
   have hk0:whl body 4294967296 0=_:=key m.Vars 0 4294967296 (by rw [List.drop_zero]) (by omega) (by omega)
   rw [hk0]
   cases m.Vars.all (fun v=>decide (v.length≤40))<;>rfl
  ·rw [decide_eq_true (show ((m.Vars.length:Nat):Int)>10 by omega),decide_eq_false h10];rfl),aft_bif,all0 shortM ⟨0,[]⟩ p]
 cases p.all shortM<;>rfl
theorem few_Bd {p:List Monomial} {n:Int} (h:fewP p n=true) (hn:n≤1000):Bd p:=by
 unfold fewP at h
 rw [Bool.and_eq_true,List.all_eq_true,decide_eq_true_eq] at h
 refine ⟨by omega,fun m hm => ?_⟩
 have:=h.1 m hm
 unfold shortM at this
 rw [Bool.and_eq_true,List.all_eq_true,decide_eq_true_eq] at this
 exact ⟨by omega,fun v hv=>by have:=this.2 v hv;simp only [decide_eq_true_eq] at this;omega⟩
end Go.Proofs.YtjfpcjnopbfekaaGreatDoor
/- PLAIN LAWS of layer 5: what a collected sum gives, in whatever order its entries come. -/
namespace Go.Sh
theorem mr_err {V σ ε β:Type} {m:List (Str×V)} {body:Str×V→σ→Option (Stp σ ε β)} {K:σ→Prop} {J:β→Prop} (I:List Nat→σ→Prop) (ok:Str×V→Bool) (g:σ→Str×V→σ) (x:β) (hJ:J x)
 (hstep:∀ seen s i (h:i<m.length),seen.Nodup→i ∉ seen→(∀ j∈seen,j<m.length)→I seen s→body m[i] s=some (bif ok m[i] then .go (g s m[i]) else .ret x)∧I (seen++[i]) (g s m[i]))
 (hbad:∃ i,∃ h:i<m.length,ok m[i]=false) :
 ∀ (n:Nat) (seen:List Nat) (s:σ),seen.Nodup→(∀ i∈seen,i<m.length)→(∀ i∈seen,∀ h:i<m.length,ok m[i]=true)→n+seen.length=m.length→I seen s→MR m body K J n seen s
 | 0,seen,s,h1,h2,h4,h3,hI=>by
  obtain ⟨i,hi,hb⟩:=hbad
  have hin:i∈seen:=by
   refine Classical.byContradiction fun hn => ?_
   have:=nodup_le (i::seen) (List.range m.length) (List.nodup_cons.2 ⟨hn,h1⟩) (fun x hx=>by
    rcases List.mem_cons.1 hx with rfl | hx
    ·simpa using hi
    ·simpa using h2 x hx)
   simp at this;omega
  rw [h4 i hin hi] at hb
  cases hb
 | n+1,seen,s,h1,h2,h4,h3,hI=>by
  refine ⟨?_,fun i hi hn => ?_⟩
  ·refine Classical.byContradiction fun hn => ?_
   have:=nodup_le (List.range m.length) seen List.nodup_range (fun x hx=>Classical.byContradiction fun hx2=>hn ⟨x,by simpa using hx,hx2⟩)
   simp at this;omega
  ·obtain ⟨e1,e2⟩:=hstep seen s i hi h1 hn h2 hI
   refine ⟨_,e1,?_⟩
   cases hok:ok m[i] with
   | false=>exact hJ
   | true =>
    have hnd:(seen++[i]).Nodup:=by
     rw [List.nodup_append]
     exact ⟨h1,by simp,fun a ha b hb=>by
      have:b=i:=by simpa using hb
      subst this;intro e;subst e;exact hn ha⟩
    exact mr_err I ok g x hJ hstep hbad n (seen++[i]) _ hnd (fun j hj=>by
     rcases List.mem_append.1 hj with hj | hj
     ·exact h2 j hj
     ·have:j=i:=by simpa using hj
      subst this;exact hi) (fun j hj h=>by
     rcases List.mem_append.1 hj with hj | hj
     ·exact h4 j hj h
     ·have:j=i:=by simpa using hj
      subst this;exact hok) (by simp;omega) e2
theorem perm_range {seen:List Nat} {n:Nat} (h1:seen.Nodup) (h2:∀ i,i<n→i∈seen) (h3:∀ i∈seen,i<n):seen.Perm (List.range n) :=
 (List.perm_ext_iff_of_nodup h1 List.nodup_range).2 fun a=>⟨fun h=>List.mem_range.2 (h3 a h),fun h=>h2 a (List.mem_range.1 h)⟩
end Go.Sh
namespace Go.Proofs.YtjfpcjnopbfekaaGreatDoor
open Go.Ab Go.Sh Go.Sort
/-! ### sorting by keys that differ -/
section
variable {α:Type} (key:α→List Str)
def insM (x:α):List α→List α
 | []=>[x]
 | y::l=>bif decide (cmpL (key y) (key x)<0) then y::insM x l else x::y::l
def sortMI:List α→List α
 | []=>[]
 | x::l=>insM key x (sortMI l)
def ltM (a b:α):Prop:=cmpL (key a) (key b)<0
theorem insM_perm (x:α):∀ l,(insM key x l).Perm (x::l)
 | []=>List.Perm.refl _
 | y::l=>by
  unfold insM
  cases decide (cmpL (key y) (key x)<0) with
  | true=>exact ((insM_perm x l).cons y).trans (List.Perm.swap x y l)
  | false=>exact List.Perm.refl _
theorem sortMI_perm:∀ l,(sortMI key l).Perm l
 | []=>List.Perm.refl _
 | x::l=>(insM_perm key x _).trans ((sortMI_perm l).cons x)
theorem insM_sorted (x:α):∀ {l:List α},l.Pairwise (ltM key)→(∀ y∈l,key y≠key x)→(insM key x l).Pairwise (ltM key)
 | [],_,_=>by simp [insM]
 | y::l,h,hne=>by
  unfold insM
  rw [List.pairwise_cons] at h
  by_cases hlt:cmpL (key y) (key x)<0
  ·rw [decide_eq_true hlt]
   simp only [cond_true]
   rw [List.pairwise_cons]
   refine ⟨fun z hz => ?_,insM_sorted x h.2 fun z hz=>hne z (by simp [hz])⟩
   rcases List.mem_cons.1 ((insM_perm key x l).mem_iff.1 hz) with rfl | hz
   ·exact hlt
   ·exact h.1 z hz
  ·rw [decide_eq_false hlt]
   simp only [cond_false]
   have hxy:ltM key x y:=by
    have h0:cmpL (key y) (key x)≠0:=fun e=>hne y (by simp) (cmpL_zero e)
    exact cmpL_anti.2 (by omega)
   rw [List.pairwise_cons]
   refine ⟨fun z hz => ?_,List.pairwise_cons.2 h⟩
   rcases List.mem_cons.1 hz with rfl | hz
   ·exact hxy
   ·exact cmpL_trans hxy (h.1 z hz)
theorem sortMI_sorted:∀ {l:List α},(l.map key).Nodup→(sortMI key l).Pairwise (ltM key)
 | [],_=>by simp [sortMI]
 | x::l,h=>by
  rw [List.map_cons,List.nodup_cons] at h
  refine insM_sorted key x (sortMI_sorted h.2) fun y hy e=>h.1 ?_
  rw [← e]
  exact List.mem_map.2 ⟨y,(sortMI_perm key l).mem_iff.1 hy,rfl⟩
theorem ltM_asymm {a b:α} (h1:ltM key a b) (h2:ltM key b a):a=b:=by
 have:=cmpL_trans h1 h2
 rw [cmpL_self] at this
 omega
theorem sortM_uniq {a b:List α} (h1:a.Pairwise (ltM key)) (h2:b.Pairwise (ltM key)) (h:a.Perm b):a=b :=
 List.Perm.eq_of_pairwise (fun _ _ _ _=>ltM_asymm key) h1 h2 h
theorem sortF_eq {l:List α} (h:(l.map key).Nodup):sortF (fun x y=>cmpL (key x) (key y)) l=sortMI key l:=by
 refine sortM_uniq key ?_ (sortMI_sorted key h) ((List.mergeSort_perm l _).trans (sortMI_perm key l).symm)
 have hsw:=swo_pull cmpL_swo key
 have h1:(sortF (fun x y=>cmpL (key x) (key y)) l).Pairwise (fun a b => !(ltOf (fun x y=>cmpL (key x) (key y)) b a)):=by
  refine List.pairwise_mergeSort (fun a b c hab hbc => ?_) (fun a b => ?_) l
  ·simp only [Bool.not_eq_true'] at *
   exact hsw.ntrans _ _ _ hbc hab
  ·cases h2:ltOf (fun x y=>cmpL (key x) (key y)) b a with
   | false=>rfl
   | true =>
    cases h3:ltOf (fun x y=>cmpL (key x) (key y)) a b with
    | false=>rfl
    | true=>have:=hsw.trans _ _ _ h2 h3;rw [hsw.irrefl] at this;cases this
 have hnd:((sortF (fun x y=>cmpL (key x) (key y)) l).map key).Nodup:=((List.mergeSort_perm l _).map key).nodup_iff.2 h
 have h2:(sortF (fun x y=>cmpL (key x) (key y)) l).Pairwise (fun a b=>key a≠key b):=List.pairwise_map.1 hnd
 refine (h1.and h2).imp fun {a b} ⟨k1,k2⟩ => ?_
 have k3:¬ cmpL (key b) (key a)<0:=by simpa [ltOf] using k1
 have k4:cmpL (key b) (key a)≠0:=fun e=>k2 (cmpL_zero e).symm
 exact cmpL_anti.2 (by omega)
theorem sortMI_congr {a b:List α} (h:a.Perm b) (hb:(b.map key).Nodup):sortMI key a=sortMI key b :=
 sortM_uniq key (sortMI_sorted key ((h.map key).nodup_iff.2 hb)) (sortMI_sorted key hb) ((sortMI_perm key a).trans (h.trans (sortMI_perm key b).symm))
end
/-! ### the result of a sum -/
abbrev MV:=List (Str×List Str)
abbrev MI:=List (Str×List Int)
def entC (x1 x2:MI) (e:Str×List Str):Int×Int:=dotR (mget [] e.1 x1) (mget [] e.1 x2)
def entOk (x1 x2:MI) (e:Str×List Str):Bool:=(entC x1 x2 e).2==0
def mono1 (x1 x2:MI) (e:Str×List Str):List Monomial:=bif (entC x1 x2 e).1==0 then [] else [⟨(entC x1 x2 e).1,e.2⟩]
def outL (x0:MV) (x1 x2:MI):List Monomial:=(x0.map (mono1 x1 x2)).flatten
def resT (x0:MV) (x1 x2:MI):List Monomial×Int :=
 bif x0.all (entOk x1 x2) then (bif validP (sortMI Monomial.Vars (outL x0 x1 x2)) then (sortMI Monomial.Vars (outL x0 x1 x2),0) else ([],3)) else ([],3)
theorem mono1_vars {x1 x2:MI} {e:Str×List Str} {m:Monomial} (h:m∈mono1 x1 x2 e):m.Vars=e.2:=by
 unfold mono1 at h
 cases hz:(entC x1 x2 e).1==0 with
 | true=>rw [hz] at h;cases h
 | false=>rw [hz] at h;simp only [cond_false,List.mem_singleton] at h;rw [h]
theorem mono1_len (x1 x2:MI) (e:Str×List Str):(mono1 x1 x2 e).length≤1:=by
 unfold mono1
 cases (entC x1 x2 e).1==0<;>simp
theorem outL_keys (x1 x2:MI):∀ (x0:MV),(x0.map (·.2)).Nodup→((outL x0 x1 x2).map Monomial.Vars).Nodup
 | [],_=>by simp [outL]
 | e::x0,h=>by
  rw [List.map_cons,List.nodup_cons] at h
  have ih:=outL_keys x1 x2 x0 h.2
  unfold outL at *
  rw [List.map_cons,List.flatten_cons,List.map_append,List.nodup_append]
  refine ⟨?_,ih,?_⟩
  ·unfold mono1
   cases (entC x1 x2 e).1==0<;>simp
  ·rintro a ha b hb rfl
   obtain ⟨m,hm,rfl⟩:=List.mem_map.1 ha
   obtain ⟨m',hm',e2⟩:=List.mem_map.1 hb
   obtain ⟨l,hl,hml⟩:=List.mem_flatten.1 hm'
   obtain ⟨e',he',rfl⟩:=List.mem_map.1 hl
   rw [mono1_vars hm,mono1_vars hml] at e2
   exact h.1 (List.mem_map.2 ⟨e',he',e2⟩)
theorem outL_len (x1 x2:MI):∀ (x0:MV),(outL x0 x1 x2).length≤x0.length
 | []=>by simp [outL]
 | e::x0=>by
  have ih:=outL_len x1 x2 x0
  have h1:=mono1_len x1 x2 e
  unfold outL at *
  rw [List.map_cons,List.flatten_cons,List.length_append,List.length_cons]
  omega
def at0 (x0:MV) (i:Nat):Str×List Str:=x0.getD i ([],[])
theorem range_map (x0:MV):(List.range x0.length).map (at0 x0)=x0:=by
 refine List.ext_getElem (by simp) fun i h1 h2=>by simp [at0,List.getD_eq_getElem?_getD,h2]
theorem at0_eq {x0:MV} {i:Nat} (h:i<x0.length):at0 x0 i=x0[i]:=by simp [at0,List.getD_eq_getElem?_getD,h]
theorem result_eq (x0:MV) (x1 x2:MI) (h1:(x0.map (·.2)).Nodup) (hn:x0.length≤1000000) (hb:∀ e∈x0,e.2.length≤1000000∧∀ v∈e.2,v.length≤1000000):poly_sum_result x0 x1 x2=some (resT x0 x1 x2):=by
 unfold poly_sum_result resT
 have hbody:∀ (e:Str×List Str) (s:List Monomial),s.length≤1000000→((intmath_Dot (mget [] e.1 x1) (mget [] e.1 x2)).bind fun y109=>bif (y109.2==0) then (bif (y109.1==0) then (some (.go s):Option (Stp (List Monomial) Empty (List Monomial×Int))) else (grd ((s.length+1)*32≤140737488355328) <| some (.go (s++[(Monomial.mk y109.1 e.2)])))) else (some (.ret ([],3))))=some (bif entOk x1 x2 e then .go (s++mono1 x1 x2 e) else .ret ([],3)):=fun e s hs=>by
  rw [intmath_Dot_eq]
  simp only [bnd_some]
  unfold entOk mono1 entC
  generalize dotR (mget [] e.1 x1) (mget [] e.1 x2)=c
  cases c.2==0 with
  | false=>rfl
  | true =>
   cases c.1==0 with
   | true=>simp
   | false =>
    simp only [cond_true,cond_false]
    rw [grd_pos (by omega)]
 have hIlen:∀ (seen:List Nat),seen.Nodup→(∀ j∈seen,j<x0.length)→((seen.map fun i=>mono1 x1 x2 (at0 x0 i)).flatten).length≤1000000:=fun seen k1 k2=>by
  have h3:=nodup_le seen (List.range x0.length) k1 (fun x hx=>List.mem_range.2 (k2 x hx))
  rw [List.length_range] at h3
  have h4:∀ l:List Nat,((l.map fun i=>mono1 x1 x2 (at0 x0 i)).flatten).length≤l.length:=by
   intro l
   induction l with
   | nil=>simp
   | cons a l ih =>
    have:=mono1_len x1 x2 (at0 x0 a)
    rw [List.map_cons,List.flatten_cons,List.length_append,List.length_cons];omega
  have:=h4 seen
  omega
 cases hall:x0.all (entOk x1 x2) with
 | true =>
  simp only [cond_true]
  have hok:∀ i (h:i<x0.length),entOk x1 x2 x0[i]=true:=fun i h=>List.all_eq_true.1 hall _ (List.getElem_mem h)
  refine mrngK_eq (mr_go (fun seen s=>s=(seen.map fun i=>mono1 x1 x2 (at0 x0 i)).flatten) (fun s e=>s++mono1 x1 x2 e) (fun seen s i h k1 k2 k3 hI => ?_) (fun seen s k1 k2 k3 hI => ?_) x0.length [] [] List.nodup_nil (fun i hi=>by cases hi) (by simp) rfl)
  ·refine ⟨?_,?_⟩
   ·rw [hbody _ _ (by rw [hI];exact hIlen seen k1 k3),hok i h];rfl
   ·rw [hI,List.map_append,List.flatten_append];simp [at0_eq h]
  ·have hp:=((perm_range k1 k2 k3).map fun i=>mono1 x1 x2 (at0 x0 i)).flatten
   rw [← hI] at hp
   have e1:((List.range x0.length).map fun i=>mono1 x1 x2 (at0 x0 i)).flatten=outL x0 x1 x2:=by
    unfold outL
    conv=>rhs;rw [← range_map x0]
    rw [List.map_map];rfl
   rw [e1] at hp
   have hk:=outL_keys x1 x2 x0 h1
   have hs:lib_SortM (fun x=>x.Vars) s=some (sortMI Monomial.Vars (outL x0 x1 x2)):=by
    have hnd:=(hp.map Monomial.Vars).nodup_iff.2 hk
    have hlen:=hp.length_eq
    have hl2:=outL_len x1 x2 x0
    unfold lib_SortM
    rw [grd_pos ⟨by omega,hnd⟩]
    exact congrArg some ((sortF_eq Monomial.Vars hnd).trans (sortMI_congr Monomial.Vars hp hk))
   show ((lib_SortM (fun x=>x.Vars) s).bind fun y91=>(poly_Valid y91).bind fun y94=>bif y94 then some (y91,0) else some ([],3))=_
   rw [hs]
   simp only [bnd_some]
   have hBd:Bd (sortMI Monomial.Vars (outL x0 x1 x2)):=by
    refine ⟨?_,fun m hm => ?_⟩
    ·have:=(sortMI_perm Monomial.Vars (outL x0 x1 x2)).length_eq
     have hl2:=outL_len x1 x2 x0
     omega
    ·have hm:=(sortMI_perm Monomial.Vars (outL x0 x1 x2)).mem_iff.1 hm
     unfold outL at hm
     obtain ⟨l,hl,hml⟩:=List.mem_flatten.1 hm
     obtain ⟨e',he',rfl⟩:=List.mem_map.1 hl
     rw [mono1_vars hml]
     exact hb e' he'
   rw [poly_Valid_eq _ hBd]
   simp only [bnd_some]
   cases validP (sortMI Monomial.Vars (outL x0 x1 x2))<;>rfl
 | false =>
  have hbad:∃ i,∃ h:i<x0.length,entOk x1 x2 x0[i]=false:=by
   have:¬ (x0.all (entOk x1 x2)=true):=by rw [hall];simp
   rw [List.all_eq_true] at this
   refine Classical.byContradiction fun hn=>this fun e he => ?_
   obtain ⟨i,hi,rfl⟩:=List.getElem_of_mem he
   cases hq:entOk x1 x2 x0[i] with
   | true=>rfl
   | false=>exact absurd ⟨i,hi,hq⟩ hn
  rw [cond_false]
  refine mrngK_eq (mr_err (J:=fun x=>x=(([],3):List Monomial×Int)) (fun seen s=>s=(seen.map fun i=>mono1 x1 x2 (at0 x0 i)).flatten) (entOk x1 x2) (fun s e=>s++mono1 x1 x2 e) ([],3) rfl (fun seen s i h k1 k2 k3 hI => ?_) hbad x0.length [] [] List.nodup_nil (fun i hi=>by cases hi) (fun i hi=>by cases hi) (by simp) rfl)
  refine ⟨hbody _ _ (by rw [hI];exact hIlen seen k1 k3),?_⟩
  rw [hI,List.map_append,List.flatten_append];simp [at0_eq h]
end Go.Proofs.YtjfpcjnopbfekaaGreatDoor
/- PLAIN LAWS, of no program: maps of whatever values; texts that are joined. -/
namespace Go.Sh
open Go.Ab
section
variable {V:Type}
theorem mget_put (d:V) (x y:Str) (v:V):∀ m:List (Str×V),mget d y (mput x v m)=if x=y then v else mget d y m
 | []=>by simp [mput,mget]
 | (k,u)::m=>by
  by_cases h:k=x
  ·subst h
   simp only [mput,mget,if_pos]
   by_cases h2:k=y
   ·simp [h2]
   ·simp [h2]
  ·simp only [mput,if_neg h,mget]
   rw [mget_put d x y v m]
   by_cases h2:k=y
   ·subst h2;simp [Ne.symm h]
   ·simp [h2]
theorem put_keys (x:Str) (v:V):∀ m:List (Str×V),(mput x v m).map (·.1)=if x∈m.map (·.1) then m.map (·.1) else m.map (·.1)++[x]
 | []=>by simp [mput]
 | (k,u)::m=>by
  by_cases h:k=x
  ·subst h;simp [mput]
  ·simp only [mput,if_neg h,List.map_cons,put_keys x v m,List.mem_cons,Ne.symm h,false_or]
   split<;>simp
theorem put_nodup {x:Str} {v:V} {m:List (Str×V)} (h:(m.map (·.1)).Nodup):((mput x v m).map (·.1)).Nodup:=by
 rw [put_keys]
 split
 ·exact h
 ·rename_i hx
  rw [List.nodup_append]
  refine ⟨h,by simp,fun a ha b hb => ?_⟩
  have:b=x:=by simpa using hb
  subst this
  intro e;subst e;exact hx ha
theorem put_len (x:Str) (v:V) (m:List (Str×V)):(mput x v m).length≤m.length+1:=by
 have:=congrArg List.length (put_keys x v m)
 rw [List.length_map] at this
 rw [this]
 split<;>simp
theorem mem_put {x:Str} {v:V} {e:Str×V}:∀ {m:List (Str×V)},e∈mput x v m→e=(x,v)∨e∈m
 | [],h=>by simp [mput] at h;exact .inl h
 | (k,u)::m,h=>by
  by_cases hk:k=x
  ·simp only [mput,if_pos hk,List.mem_cons] at h
   rcases h with h | h
   ·exact .inl h
   ·exact .inr (by simp [h])
  ·simp only [mput,if_neg hk,List.mem_cons] at h
   rcases h with h | h
   ·exact .inr (by simp [h])
   ·rcases mem_put h with h | h
    ·exact .inl h
    ·exact .inr (by simp [h])
theorem put_mem (x:Str) (v:V):∀ m:List (Str×V),(x,v)∈mput x v m
 | []=>by simp [mput]
 | (k,u)::m=>by
  by_cases hk:k=x
  ·simp [mput,hk]
  ·simp only [mput,if_neg hk,List.mem_cons];exact .inr (put_mem x v m)
theorem put_old {x:Str} {v:V} {e:Str×V} (hne:e.1≠x):∀ {m:List (Str×V)},e∈m→e∈mput x v m
 | [],h=>by cases h
 | (k,u)::m,h=>by
  by_cases hk:k=x
  ·simp only [mput,if_pos hk,List.mem_cons] at h ⊢
   rcases h with h | h
   ·exact absurd (by rw [h];exact hk) hne
   ·exact .inr h
  ·simp only [mput,if_neg hk,List.mem_cons] at h ⊢
   rcases h with h | h
   ·exact .inl h
   ·exact .inr (put_old hne h)
end
/-! ### joined by stars -/
def jn:List Str→Str
 | []=>[]
 | [x]=>x
 | x::y::l=>x++42::jn (y::l)
theorem jn_join:∀ l:List Str,Lib.join l [42]=jn l
 | []=>rfl
 | [x]=>by simp [jn,Lib.join,List.intercalate]
 | x::y::l=>by
  have ih:=jn_join (y::l)
  simp only [jn,← ih]
  simp [Lib.join,List.intercalate,List.intersperse]
def nos (v:Str):Prop:=v≠[]∧(42:UInt8) ∉ v
theorem split42:∀ {x y r s:Str},(42:UInt8) ∉ x→(42:UInt8) ∉ y→x++42::r=y++42::s→x=y∧r=s
 | [],[],r,s,_,_,h=>by simpa using h
 | [],b::y,r,s,_,hy,h=>by
  simp only [List.nil_append,List.cons_append,List.cons.injEq] at h
  exact absurd (by rw [h.1];simp) hy
 | a::x,[],r,s,hx,_,h=>by
  simp only [List.nil_append,List.cons_append,List.cons.injEq] at h
  exact absurd (by rw [← h.1];simp) hx
 | a::x,b::y,r,s,hx,hy,h=>by
  simp only [List.cons_append,List.cons.injEq] at h
  obtain ⟨e1,e2⟩:=split42 (fun k=>hx (by simp [k])) (fun k=>hy (by simp [k])) h.2
  exact ⟨by rw [h.1,e1],e2⟩
theorem no_split {x y r:Str} (hy:(42:UInt8) ∉ y) (h:x++42::r=y):False:=hy (by rw [← h];simp)
theorem jn_inj:∀ {l m:List Str},(∀ v∈l,nos v)→(∀ v∈m,nos v)→jn l=jn m→l=m
 | [],[],_,_,_=>rfl
 | [],[y],_,hm,h=>absurd h.symm (hm y (by simp)).1
 | [],y::z::m,_,_,h=>by
  have:([]:Str)=y++42::jn (z::m):=h
  exact absurd (congrArg List.length this) (by simp)
 | [x],[],hl,_,h=>absurd h (hl x (by simp)).1
 | x::y::l,[],_,_,h=>by
  have:x++42::jn (y::l)=([]:Str):=h
  exact absurd (congrArg List.length this) (by simp)
 | [x],[y],_,_,h=>by rw [show x=y from h]
 | [x],y::z::m,hl,_,h=>(no_split (hl x (by simp)).2 (show y++42::jn (z::m)=x from h.symm)).elim
 | x::y::l,[z],_,hm,h=>(no_split (hm z (by simp)).2 (show x++42::jn (y::l)=z from h)).elim
 | x::y::l,z::w::m,hl,hm,h=>by
  obtain ⟨e1,e2⟩:=split42 (hl x (by simp)).2 (hm z (by simp)).2 (show x++42::jn (y::l)=z++42::jn (w::m) from h)
  rw [e1,jn_inj (fun v hv=>hl v (by simp [hv])) (fun v hv=>hm v (by simp [hv])) e2]
theorem jn_len:∀ {l:List Str} {k:Nat},(∀ v∈l,v.length≤k)→(jn l).length≤l.length*(k+1)
 | [],k,_=>by simp [jn]
 | [x],k,h=>by have:=h x (by simp);simp [jn];omega
 | x::y::l,k,h=>by
  have h1:=h x (by simp)
  have ih:=jn_len (l:=y::l) (k:=k) (fun v hv=>h v (by simp [hv]))
  have e:(jn (x::y::l)).length=x.length+(jn (y::l)).length+1:=by simp [jn];omega
  rw [e,List.length_cons,Nat.add_mul]
  omega
end Go.Sh
/- PLAIN LAWS of layer 5: the examples of the document. -/
namespace Go.Proofs.YtjfpcjnopbfekaaGreatDoor
open Go.Ab Go.Sh Go.Sort
def lib_SortedT (xs:List Str):Option (List Str):=grd (xs.length*16≤140737488355328) <| some (sortI xs)
theorem sorted_tw:lib_SortedS=lib_SortedT:=funext fun xs=>by unfold lib_SortedS lib_SortedT;rw [sortS_eq]
def addT (x0:(List Str)) (x1:Int) (x2:Int) (x3:MV) (x4:MI) (x5:MI):Option (MV×MI×MI) :=
 (lib_ValuesS x0).bind fun y18 =>
 (lib_SortedT y18).bind fun y21 =>
 (lib_Join y21 [42]).bind fun y24 =>
 grd (((mget [] y24 x4).length+[x1].length)*8≤140737488355328) <|
 grd (((mget [] y24 x5).length+[x2].length)*8≤140737488355328) <|
 grd (x4.length+1<1000000) <|
 grd (x5.length+1<1000000) <|
 some ((mput y24 y21 x3),(mput y24 ((mget [] y24 x4)++[x1]) x4),(mput y24 ((mget [] y24 x5)++[x2]) x5))
theorem add_tw:poly_sum_add=addT:=by
 funext x0 x1 x2 x3 x4 x5
 unfold poly_sum_add addT
 rw [sorted_tw]
def preOf (x0:Linear):Option (MV×MI×MI) :=
 (linear_Valid x0).bind fun y1=>bif y1 then (
  (addT [] x0.Const 1 [] [] []).bind fun y11 =>
  (cnt (σ:=(MI×MI×MV)) (ε:=(MI×MI×MV)) (ρ:=Empty) (fun i37 s36 =>
   (addT [((x0.Terms.getD i37 ⟨[],0⟩).Var)] ((x0.Terms.getD i37 ⟨[],0⟩).C) 1 s36.2.2 s36.1 s36.2.1).bind fun y62 =>
   some (.go (y62.2.1,y62.2.2,y62.1))
  ) (fun i37 s36=>(s36.1,s36.2.1,s36.2.2)) (x0.Terms.length-0) 0 (y11.2.1,y11.2.2,y11.1)).bind <| aftE fun u70 =>
  some (u70.2.2,u70.1,u70.2.1)) else none
def goodM (x0:MV):Prop:=(x0.map (·.2)).Nodup∧x0.length≤1000000∧∀ e∈x0,e.2.length≤1000000∧∀ v∈e.2,v.length≤1000000
theorem Of_run {x0:Linear} {M:MV×MI×MI} (h:preOf x0=some M) (hg:goodM M.1):poly_Of x0=some (resT M.1 M.2.1 M.2.2):=by
 unfold preOf at h
 unfold poly_Of
 rw [add_tw]
 cases h1:linear_Valid x0 with
 | none=>rw [h1] at h;cases h
 | some b =>
  rw [h1] at h
  cases b with
  | false=>cases h
  | true =>
   simp only [Option.bind_some,cond_true] at h ⊢
   rw [show poly_newSum=some ([],[],[]) from rfl]
   simp only [Option.bind_some]
   cases h2:addT [] x0.Const 1 [] [] [] with
   | none=>rw [h2] at h;cases h
   | some y =>
    rw [h2] at h
    simp only [Option.bind_some] at h ⊢
    generalize cnt (σ:=(MI×MI×MV)) (ε:=(MI×MI×MV)) (ρ:=Empty) (fun i37 s36 =>
     (addT [((x0.Terms.getD i37 ⟨[],0⟩).Var)] ((x0.Terms.getD i37 ⟨[],0⟩).C) 1 s36.2.2 s36.1 s36.2.1).bind fun y62 =>
     some (.go (y62.2.1,y62.2.2,y62.1))
    ) (fun i37 s36=>(s36.1,s36.2.1,s36.2.2)) (x0.Terms.length-0) 0 (y.2.1,y.2.2,y.1)=o at h ⊢
    cases o with
    | none=>cases h
    | some o =>
     cases o with
     | ret e=>cases e
     | brk u =>
      have h:some (u.2.2,u.1,u.2.1)=some M:=h
      cases h
      show ((poly_sum_result u.2.2 u.1 u.2.1).bind fun y73=>some (y73.1,y73.2))=_
      rw [result_eq _ _ _ hg.1 hg.2.1 hg.2.2];rfl
def mulT1 (x0:Monomial) (x1:Monomial) (x2:MV) (x3:MI) (x4:MI):Option (MV×MI×MI) :=
 (lib_ConcatS [x0.Vars,x1.Vars]).bind fun y7=>(addT y7 x0.Coef x1.Coef x2 x3 x4).bind fun y10=>some (y10.1,y10.2.1,y10.2.2)
def pairsT (x0:(List Monomial)) (x1:(List Monomial)) (x2:MV) (x3:MI) (x4:MI):Option (MV×MI×MI) :=
 (cnt (σ:=(MV×MI×MI)) (ε:=(MV×MI×MI)) (ρ:=(MV×MI×MI)) (fun i303 s302 =>
  (cnt (σ:=(MV×MI×MI)) (ε:=(MV×MI×MI)) (ρ:=Empty) (fun i341 s340 =>
   (mulT1 (Monomial.mk ((x0.getD i303 ⟨0,[]⟩).Coef) ((x0.getD i303 ⟨0,[]⟩).Vars)) (Monomial.mk ((x1.getD i341 ⟨0,[]⟩).Coef) ((x1.getD i341 ⟨0,[]⟩).Vars)) s340.1 s340.2.1 s340.2.2).bind fun y366 =>
   some (.go (y366.1,y366.2.1,y366.2.2))
  ) (fun i341 s340=>(s340.1,s340.2.1,s340.2.2)) (x1.length-0) 0 (s302.1,s302.2.1,s302.2.2)).bind <| aftE fun u374 =>
  some (.go (u374.1,u374.2.1,u374.2.2))
 ) (fun i303 s302=>(s302.1,s302.2.1,s302.2.2)) (x0.length-0) 0 (x2,x3,x4)).bind <| Sh.aft some
theorem pairs_tw:poly_pairs_api_Monomial=pairsT:=by
 have h:poly_mul_1=mulT1:=by
  funext x0 x1 x2 x3 x4
  unfold poly_mul_1 mulT1
  rw [add_tw]
 funext x0 x1 x2 x3 x4
 unfold poly_pairs_api_Monomial pairsT
 rw [h]
theorem mul_run {a b:List Monomial} {M:MV×MI×MI} (h:pairsT a b [] [] []=some M) (hg:goodM M.1):poly_mul a b=some (resT M.1 M.2.1 M.2.2):=by
 unfold poly_mul
 rw [show poly_newSum=some ([],[],[]) from rfl]
 simp only [Option.bind_some]
 rw [pairs_tw,h]
 simp only [Option.bind_some]
 rw [result_eq _ _ _ hg.1 hg.2.1 hg.2.2];rfl
def exN:Linear:=Linear.mk (-1) [Coef.mk [110] 1]
def exP:Linear:=Linear.mk 1 [Coef.mk [110] 1]
theorem ex_ofN:preOf exN=some ([([],[]),([110],[[110]])],[([],[-1]),([110],[1])],[([],[1]),([110],[1])]):=by kernel_rfl
theorem ex_ofP:preOf exP=some ([([],[]),([110],[[110]])],[([],[1]),([110],[1])],[([],[1]),([110],[1])]):=by kernel_rfl
theorem good2:goodM [([],[]),([110],[[110]])]:=⟨by decide,by decide,by decide⟩
theorem ofN:poly_Of exN=some ([⟨-1,[]⟩,⟨1,[[110]]⟩],0):=by rw [Of_run ex_ofN good2];kernel_rfl
theorem ofP:poly_Of exP=some ([⟨1,[]⟩,⟨1,[[110]]⟩],0):=by rw [Of_run ex_ofP good2];kernel_rfl
theorem ex_mul1:pairsT [⟨1,[]⟩] [⟨-1,[]⟩,⟨1,[[110]]⟩] [] [] []=some ([([],[]),([110],[[110]])],[([],[1]),([110],[1])],[([],[-1]),([110],[1])]):=by kernel_rfl
theorem mul1:poly_mul [⟨1,[]⟩] [⟨-1,[]⟩,⟨1,[[110]]⟩]=some ([⟨-1,[]⟩,⟨1,[[110]]⟩],0):=by rw [mul_run ex_mul1 good2];kernel_rfl
theorem ex_mul2:pairsT [⟨-1,[]⟩,⟨1,[[110]]⟩] [⟨1,[]⟩,⟨1,[[110]]⟩] [] [] []=some ([([],[]),([110],[[110]]),([110,42,110],[[110],[110]])],[([],[-1]),([110],[-1,1]),([110,42,110],[1])],[([],[1]),([110],[1,1]),([110,42,110],[1])]):=by kernel_rfl
theorem good3:goodM [([],[]),([110],[[110]]),([110,42,110],[[110],[110]])]:=⟨by decide,by decide,by decide⟩
theorem mul2:poly_mul [⟨-1,[]⟩,⟨1,[[110]]⟩] [⟨1,[]⟩,⟨1,[[110]]⟩]=some ([⟨-1,[]⟩,⟨1,[[110],[110]]⟩],0):=by rw [mul_run ex_mul2 good3];kernel_rfl
theorem ex_Product:poly_Product [exN,exP]=some ([⟨-1,[]⟩,⟨1,[[110],[110]]⟩],0):=by
 unfold poly_Product
 simp only [List.length_cons,List.length_nil,Nat.zero_add,Nat.sub_zero,Nat.reduceAdd,cnt,List.getD_cons_zero,List.getD_cons_succ]
 rw [show (Linear.mk exN.Const exN.Terms)=exN from rfl,show (Linear.mk exP.Const exP.Terms)=exP from rfl,ofN,ofP]
 simp only [Option.bind_some,stp,Sh.aft,beq_self_eq_true,cond_true,List.nil_append]
 rw [grd_pos (by decide)]
 simp only [Option.bind_some,stp,Sh.aft,beq_self_eq_true,cond_true,List.nil_append,List.cons_append]
 rw [grd_pos (by decide)]
 simp only [Option.bind_some,stp,Sh.aft,List.length_cons,List.length_nil,Nat.zero_add,Nat.sub_zero,Nat.reduceAdd,cnt,List.getD_cons_zero,List.getD_cons_succ,mul1,beq_self_eq_true,cond_true]
 rw [mul2]
 simp only [Option.bind_some,stp,Sh.aft,beq_self_eq_true,cond_true]
theorem ex_Parse:poly_Parse [50,42,109,42,110,94,50]=some ([⟨2,[[109],[110],[110]]⟩],0):=by kernel_rfl
theorem ex_Eval:poly_Eval [⟨2,[[109],[110],[110]]⟩] [(Value.mk [109] 3),(Value.mk [110] (-1))]=some (6,0):=by kernel_rfl
theorem ex_Print:poly_Print [⟨-1,[]⟩,⟨1,[[110],[110]]⟩]=some [45,49,43,110,94,50]:=by kernel_rfl
theorem ex_Valid:poly_Valid [⟨2,[[109],[110],[110]]⟩]=some true:=by kernel_rfl
theorem ex_Degree:poly_Degree [⟨2,[[109],[110],[110]]⟩]=some 3:=by kernel_rfl
theorem law05_awake_true:law05_awake=some true:=by
 unfold law05_awake
 rw [show [(Linear.mk (-1) [(Coef.mk [110] 1)]),(Linear.mk 1 [(Coef.mk [110] 1)])]=[exN,exP] from rfl,ex_Product,ex_Parse]
 simp only [Option.bind_some]
 rw [ex_Eval]
 simp only [Option.bind_some]
 rw [ex_Print,ex_Valid,ex_Degree]
 rfl
end Go.Proofs.YtjfpcjnopbfekaaGreatDoor
/- PLAIN LAWS of layer 5: what is collected is the canonical form of a sum. -/
namespace Go.Proofs.YtjfpcjnopbfekaaGreatDoor
open Go.Ab Go.Sh Go.Sort
abbrev Ctr:=List Str×Int×Int
def coefL:List Ctr→List Str→Int
 | [],_=>0
 | c::L,V=>(if c.1=V then c.2.1*c.2.2 else 0)+coefL L V
theorem coefL_append:∀ (L M:List Ctr) (V:List Str),coefL (L++M) V=coefL L V+coefL M V
 | [],M,V=>by simp [coefL]
 | c::L,M,V=>by simp only [List.cons_append,coefL,coefL_append L M V];omega
def asL (L:List Ctr) (V:List Str):List Int:=(L.filter fun c=>decide (c.1=V)).map fun c=>c.2.1
def bsL (L:List Ctr) (V:List Str):List Int:=(L.filter fun c=>decide (c.1=V)).map fun c=>c.2.2
theorem sumF_cons (f:Nat→Int):∀ n,sumF f (n+1)=f 0+sumF (fun i=>f (i+1)) n
 | 0=>by simp [sumF]
 | n+1=>by
  have:=sumF_cons f n
  rw [show sumF f (n+1+1)=sumF f (n+1)+f (n+1) from rfl,this]
  rw [show sumF (fun i=>f (i+1)) (n+1)=sumF (fun i=>f (i+1)) n+f (n+1) from rfl]
  omega
theorem coefL_dot:∀ (L:List Ctr) (V:List Str),sumF (dotF (asL L V) (bsL L V)) (asL L V).length=coefL L V
 | [],V=>rfl
 | c::L,V=>by
  have ih:=coefL_dot L V
  by_cases h:c.1=V
  ·have e1:asL (c::L) V=c.2.1::asL L V:=by simp [asL,h]
   have e2:bsL (c::L) V=c.2.2::bsL L V:=by simp [bsL,h]
   rw [e1,e2,List.length_cons,sumF_cons]
   have e3:(fun i=>dotF (c.2.1::asL L V) (c.2.2::bsL L V) (i+1))=dotF (asL L V) (bsL L V):=by
    funext i;simp [dotF]
   rw [e3,ih]
   simp [coefL,h,dotF]
  ·have e1:asL (c::L) V=asL L V:=by simp [asL,h]
   have e2:bsL (c::L) V=bsL L V:=by simp [bsL,h]
   rw [e1,e2,ih]
   simp [coefL,h]
theorem coefL_mem {L:List Ctr} {V:List Str} (h:coefL L V≠0):∃ c∈L,c.1=V:=by
 induction L with
 | nil=>exact absurd rfl h
 | cons c L ih =>
  by_cases hc:c.1=V
  ·exact ⟨c,by simp,hc⟩
  ·have:coefL L V≠0:=by simpa [coefL,hc] using h
   obtain ⟨c',h1,h2⟩:=ih this
   exact ⟨c',by simp [h1],h2⟩
def okV (V:List Str):Prop:=V.length≤1000∧∀ v∈V,nos v∧v.length≤1000
def okT (c:Ctr):Prop:=okV c.1∧inB c.2.1=true∧inB c.2.2=true
structure SumSt (L:List Ctr) (x3:MV) (x4 x5:MI):Prop where
 e1:∀ e∈x3,e.1=jn e.2∧∃ c∈L,c.1=e.2
 e2:∀ c∈L,(jn c.1,c.1)∈x3
 nd:(x3.map (·.1)).Nodup
 ma:∀ V,okV V→mget [] (jn V) x4=asL L V
 mb:∀ V,okV V→mget [] (jn V) x5=bsL L V
 l3:x3.length≤L.length
 l4:x4.length≤L.length
 l5:x5.length≤L.length
theorem SumSt.nil:SumSt [] [] [] []:=⟨fun e he=>(by cases he),fun c hc=>(by cases hc),by simp,fun V _=>rfl,fun V _=>rfl,by simp,by simp,by simp⟩
theorem okV_jn {V W:List Str} (hV:okV V) (hW:okV W) (h:jn V=jn W):V=W:=jn_inj (fun v hv=>(hV.2 v hv).1) (fun v hv=>(hW.2 v hv).1) h
theorem asL_len (L:List Ctr) (V:List Str):(asL L V).length≤L.length:=by unfold asL;rw [List.length_map];exact List.length_filter_le _ _
theorem bsL_len (L:List Ctr) (V:List Str):(bsL L V).length=(asL L V).length:=by unfold asL bsL;rw [List.length_map,List.length_map]
theorem sortI_ok {V:List Str} (h:okV V):okV (sortI V):=⟨by rw [(sortI_perm V).length_eq];exact h.1,fun v hv=>h.2 v ((sortI_perm V).mem_iff.1 hv)⟩
theorem add_ctr {L:List Ctr} {x3:MV} {x4 x5:MI} (h:SumSt L x3 x4 x5) (hL:∀ c∈L,okT c) (hn:L.length≤900000) {V0:List Str} {a b:Int} (hV:okV V0) :
 ∃ y,poly_sum_add V0 a b x3 x4 x5=some y∧SumSt (L++[(sortI V0,a,b)]) y.1 y.2.1 y.2.2:=by
 have hS:=sortI_ok hV
 refine ⟨(mput (jn (sortI V0)) (sortI V0) x3,mput (jn (sortI V0)) (asL L (sortI V0)++[a]) x4,mput (jn (sortI V0)) (bsL L (sortI V0)++[b]) x5),?_,?_⟩
 ·unfold poly_sum_add
  have e1:lib_ValuesS V0=some V0:=rfl
  have e2:lib_SortedS V0=some (sortI V0):=by rw [sorted_tw];unfold lib_SortedT;rw [grd_pos (by have:=hV.1;omega)]
  have e3:lib_Join (sortI V0) [42]=some (jn (sortI V0)):=by
   unfold lib_Join
   rw [jn_join]
   have h1:=jn_len (l:=sortI V0) (k:=1000) (fun v hv=>(hS.2 v hv).2)
   have h2:=hS.1
   have h3:(sortI V0).length*(1000+1)≤1000*1001:=Nat.mul_le_mul_right _ h2
   rw [grd_pos ⟨by omega,by omega⟩]
  rw [e1]
  simp only [bnd_some]
  rw [e2]
  simp only [bnd_some]
  rw [e3]
  simp only [bnd_some]
  rw [h.ma _ hS,h.mb _ hS]
  have l1:=asL_len L (sortI V0)
  have l2:=bsL_len L (sortI V0)
  have l4:=h.l4
  have l5:=h.l5
  rw [grd_pos (by simp;omega),grd_pos (by simp;omega),grd_pos (by omega),grd_pos (by omega)]
 ·refine ⟨fun e he => ?_,fun c hc => ?_,put_nodup h.nd,fun V hV2 => ?_,fun V hV2 => ?_,?_,?_,?_⟩
  ·rcases mem_put he with rfl | he
   ·exact ⟨rfl,(sortI V0,a,b),by simp,rfl⟩
   ·obtain ⟨k1,c,k2,k3⟩:=h.e1 e he
    exact ⟨k1,c,by simp [k2],k3⟩
  ·rcases List.mem_append.1 hc with hc | hc
   ·by_cases hj:jn c.1=jn (sortI V0)
    ·have:=okV_jn (hL c hc).1 hS hj
     rw [this];exact put_mem _ _ _
    ·exact put_old hj (h.e2 c hc)
   ·have:c=(sortI V0,a,b):=by simpa using hc
    rw [this];exact put_mem _ _ _
  ·show mget [] (jn V) (mput (jn (sortI V0)) (asL L (sortI V0)++[a]) x4)=_
   rw [mget_put]
   by_cases hj:jn (sortI V0)=jn V
   ·rw [if_pos hj]
    have:=okV_jn hS hV2 hj
    subst this
    simp [asL]
   ·rw [if_neg hj,h.ma V hV2]
    have:¬ sortI V0=V:=fun e=>hj (by rw [e])
    simp [asL,this]
  ·show mget [] (jn V) (mput (jn (sortI V0)) (bsL L (sortI V0)++[b]) x5)=_
   rw [mget_put]
   by_cases hj:jn (sortI V0)=jn V
   ·rw [if_pos hj]
    have:=okV_jn hS hV2 hj
    subst this
    simp [bsL]
   ·rw [if_neg hj,h.mb V hV2]
    have:¬ sortI V0=V:=fun e=>hj (by rw [e])
    simp [bsL,this]
  ·have:=put_len (jn (sortI V0)) (sortI V0) x3;have:=h.l3;simp;omega
  ·have:=put_len (jn (sortI V0)) (asL L (sortI V0)++[a]) x4;have:=h.l4;simp;omega
  ·have:=put_len (jn (sortI V0)) (bsL L (sortI V0)++[b]) x5;have:=h.l5;simp;omega
/-! ### the canonical form -/
structure IsCanon (f:List Str→Int) (p:List Monomial):Prop where
 st:p.Pairwise (ltM Monomial.Vars)
 mem:∀ m,m∈p↔(m.Coef≠0∧m.Coef=f m.Vars)
theorem ltM_nodup {p:List Monomial} (h:p.Pairwise (ltM Monomial.Vars)):p.Nodup:=h.imp fun {a b} hab e=>by
 subst e
 unfold ltM at hab
 rw [cmpL_self] at hab
 omega
theorem IsCanon.uniq {f:List Str→Int} {p q:List Monomial} (hp:IsCanon f p) (hq:IsCanon f q):p=q :=
 sortM_uniq Monomial.Vars hp.st hq.st ((List.perm_ext_iff_of_nodup (ltM_nodup hp.st) (ltM_nodup hq.st)).2 fun m=>by rw [hp.mem,hq.mem])
def limited (p:List Monomial):List Monomial×Int:=bif validP p then (p,0) else ([],3)
def outE (L:List Ctr) (x3:MV):List Monomial:=(x3.map fun e=>bif coefL L e.2==0 then [] else [Monomial.mk (coefL L e.2) e.2]).flatten
theorem outE_mem {L:List Ctr} {x3:MV} {m:Monomial}:m∈outE L x3↔∃ e∈x3,coefL L e.2≠0∧m=⟨coefL L e.2,e.2⟩:=by
 unfold outE
 rw [List.mem_flatten]
 constructor
 ·rintro ⟨l,hl,hm⟩
  obtain ⟨e,he,rfl⟩:=List.mem_map.1 hl
  cases hz:coefL L e.2==0 with
  | true=>rw [hz] at hm;cases hm
  | false =>
   rw [hz] at hm
   simp only [cond_false,List.mem_singleton] at hm
   exact ⟨e,he,by simpa using hz,hm⟩
 ·rintro ⟨e,he,hz,rfl⟩
  refine ⟨_,List.mem_map.2 ⟨e,he,rfl⟩,?_⟩
  have:(coefL L e.2==0)=false:=by simpa using hz
  rw [this];simp
theorem outE_keys (L:List Ctr):∀ (x3:MV),(x3.map (·.2)).Nodup→((outE L x3).map Monomial.Vars).Nodup
 | [],_=>by simp [outE]
 | e::x3,h=>by
  rw [List.map_cons,List.nodup_cons] at h
  have ih:=outE_keys L x3 h.2
  have e0:outE L (e::x3)=(bif coefL L e.2==0 then [] else [Monomial.mk (coefL L e.2) e.2])++outE L x3:=rfl
  rw [e0,List.map_append,List.nodup_append]
  refine ⟨?_,ih,?_⟩
  ·cases coefL L e.2==0<;>simp
  ·rintro a ha b hb rfl
   have ha2:a=e.2:=by
    cases hz:coefL L e.2==0 with
    | true=>rw [hz] at ha;cases ha
    | false=>rw [hz] at ha;simpa using ha
   obtain ⟨m,hm,e2⟩:=List.mem_map.1 hb
   obtain ⟨e',he',_,rfl⟩:=outE_mem.1 hm
   exact h.1 (List.mem_map.2 ⟨e',he',by rw [← ha2,← e2]⟩)
theorem vals_nodup:∀ {x3:MV},(∀ e∈x3,e.1=jn e.2)→(x3.map (·.1)).Nodup→(x3.map (·.2)).Nodup
 | [],_,_=>by simp
 | e::x3,h,hn=>by
  rw [List.map_cons,List.nodup_cons] at hn ⊢
  refine ⟨fun hm=>hn.1 ?_,vals_nodup (fun e' he=>h e' (by simp [he])) hn.2⟩
  obtain ⟨e',he',e2⟩:=List.mem_map.1 hm
  exact List.mem_map.2 ⟨e',he',by rw [h e' (by simp [he']),e2,h e (by simp)]⟩
theorem result_ctr {L:List Ctr} {x3:MV} {x4 x5:MI} (h:SumSt L x3 x4 x5) (hL:∀ c∈L,okT c) (hn:L.length≤10000) :
 ∃ p,IsCanon (coefL L) p∧Bd p∧poly_sum_result x3 x4 x5=some (limited p):=by
 have hv2:=vals_nodup (fun e he=>(h.e1 e he).1) h.nd
 have hok:∀ e∈x3,okV e.2:=fun e he=>by
  obtain ⟨_,c,hc,e2⟩:=h.e1 e he
  rw [← e2];exact (hL c hc).1
 have hent:∀ e∈x3,entC x4 x5 e=sumE (coefL L e.2):=fun e he=>by
  unfold entC
  rw [(h.e1 e he).1,h.ma _ (hok e he),h.mb _ (hok e he)]
  unfold dotR
  have ha:(asL L e.2).all inB=true:=by
   rw [List.all_eq_true]
   intro n hn2
   obtain ⟨c,hc,rfl⟩:=List.mem_map.1 hn2
   exact (hL c (List.mem_filter.1 hc).1).2.1
  have hb:(bsL L e.2).all inB=true:=by
   rw [List.all_eq_true]
   intro n hn2
   obtain ⟨c,hc,rfl⟩:=List.mem_map.1 hn2
   exact (hL c (List.mem_filter.1 hc).1).2.2
  rw [decide_eq_true (bsL_len L e.2).symm,decide_eq_true (show (asL L e.2).length≤10000 by have:=asL_len L e.2;omega),ha,hb,coefL_dot];rfl
 have hkeys:=outE_keys L x3 hv2
 have hcan:IsCanon (coefL L) (sortMI Monomial.Vars (outE L x3)):=by
  refine ⟨sortMI_sorted _ hkeys,fun m => ?_⟩
  rw [(sortMI_perm Monomial.Vars (outE L x3)).mem_iff,outE_mem]
  constructor
  ·rintro ⟨e,he,hz,rfl⟩;exact ⟨hz,rfl⟩
  ·rintro ⟨hz,he⟩
   rw [he] at hz
   obtain ⟨c,hc,e2⟩:=coefL_mem hz
   refine ⟨_,h.e2 c hc,by rw [e2];exact hz,?_⟩
   show m=⟨coefL L c.1,c.1⟩
   rw [e2,← he]
 have hBd:Bd (sortMI Monomial.Vars (outE L x3)):=by
  refine ⟨?_,fun m hm => ?_⟩
  ·rw [(sortMI_perm Monomial.Vars (outE L x3)).length_eq]
   have:∀ x:MV,(outE L x).length≤x.length:=by
    intro x
    induction x with
    | nil=>simp [outE]
    | cons e x ih =>
     have e0:outE L (e::x)=(bif coefL L e.2==0 then [] else [Monomial.mk (coefL L e.2) e.2])++outE L x:=rfl
     rw [e0,List.length_append,List.length_cons]
     cases coefL L e.2==0<;>simp<;>omega
   have h1:=this x3
   have h2:=h.l3
   omega
  ·obtain ⟨e,he,_,rfl⟩:=outE_mem.1 ((sortMI_perm Monomial.Vars (outE L x3)).mem_iff.1 hm)
   have:=hok e he
   exact ⟨by have:=this.1;show e.2.length≤1000000;omega,fun v hv=>by have:=(this.2 v hv).2;omega⟩
 refine ⟨_,hcan,hBd,?_⟩
 rw [result_eq x3 x4 x5 hv2 (by have:=h.l3;omega) (fun e he=>by
  have:=hok e he
  exact ⟨by have:=this.1;omega,fun v hv=>by have:=(this.2 v hv).2;omega⟩)]
 unfold resT
 cases hall:x3.all (entOk x4 x5) with
 | true =>
  have hin:∀ e∈x3,inB (coefL L e.2)=true:=fun e he=>by
   have h1:=List.all_eq_true.1 hall e he
   unfold entOk at h1
   rw [hent e he] at h1
   unfold sumE at h1
   cases hq:inB (coefL L e.2) with
   | true=>rfl
   | false=>rw [hq] at h1;simp at h1
  have e1:outL x3 x4 x5=outE L x3:=by
   unfold outL outE
   congr 1
   refine List.map_congr_left fun e he => ?_
   unfold mono1
   rw [hent e he,sumE_in (hin e he)]
  rw [e1];rfl
 | false =>
  have hbad:∃ e∈x3,inB (coefL L e.2)=false:=by
   have:¬ (x3.all (entOk x4 x5)=true):=by rw [hall];simp
   rw [List.all_eq_true] at this
   refine Classical.byContradiction fun hn2=>this fun e he => ?_
   cases hq:inB (coefL L e.2) with
   | true=>unfold entOk;rw [hent e he,sumE_in hq];rfl
   | false=>exact absurd ⟨e,he,hq⟩ hn2
  obtain ⟨e,he,hq⟩:=hbad
  have hnv:validP (sortMI Monomial.Vars (outE L x3))=false:=by
   cases hv:validP (sortMI Monomial.Vars (outE L x3)) with
   | false=>rfl
   | true =>
    have hz:coefL L e.2≠0:=by
     intro e0;rw [e0] at hq;cases hq
    have hm:(⟨coefL L e.2,e.2⟩:Monomial)∈sortMI Monomial.Vars (outE L x3):=(sortMI_perm Monomial.Vars (outE L x3)).mem_iff.2 (outE_mem.2 ⟨e,he,hz,rfl⟩)
    have:=valid_coef hv hm
    unfold okM at this
    simp only [Bool.and_eq_true,decide_eq_true_eq] at this
    have h2:inB (coefL L e.2)=true:=inB_iff.2 (by omega)
    rw [h2] at hq;cases hq
  unfold limited
  rw [hnv];rfl
end Go.Proofs.YtjfpcjnopbfekaaGreatDoor
/- PLAIN LAWS of layer 5: products and sums of polynomials are canonical forms. -/
namespace Go.Proofs.YtjfpcjnopbfekaaGreatDoor
open Go.Ab Go.Sh Go.Sort
def okMo (m:Monomial):Prop:=(m.Vars.length≤400∧∀ v∈m.Vars,nos v∧v.length≤1000)∧inB m.Coef=true
def okP (p:List Monomial):Prop:=p.length≤60∧∀ m∈p,okMo m
theorem dig_no {l:Str} (h:l.all isDig=true):(42:UInt8) ∉ l:=fun hm=>by
 have:=List.all_eq_true.1 h _ hm
 revert this;decide
theorem name_nos {v:Str} (h:nameS v=true):nos v∧v.length≤30:=by
 cases v with
 | nil=>cases h
 | cons c r =>
  simp only [nameS] at h
  cases hc:c==95 with
  | true =>
   rw [hc] at h
   simp only [cond_true,Bool.and_eq_true,decide_eq_true_eq] at h
   have hc':c=95:=by simpa using hc
   refine ⟨⟨by simp,?_⟩,by simp;omega⟩
   rw [hc',List.mem_cons,not_or]
   exact ⟨by decide,dig_no h.2.2.2⟩
  | false =>
   rw [hc] at h
   simp only [cond_false,Bool.and_eq_true,decide_eq_true_eq] at h
   refine ⟨⟨by simp,?_⟩,by simp;omega⟩
   rw [List.mem_cons,not_or]
   refine ⟨fun e => ?_,fun hm => ?_⟩
   ·have:=h.2.1
    rw [← e] at this
    revert this;decide
   ·have:=List.all_eq_true.1 h.2.2 _ hm
    revert this;decide
theorem valid_okP {p:List Monomial} (h:validP p=true):okP p:=by
 refine ⟨?_,fun m hm => ?_⟩
 ·unfold validP at h
  rw [Bool.and_eq_true,decide_eq_true_eq] at h
  exact h.2
 ·have:=valid_coef h hm
  unfold okM at this
  simp only [Bool.and_eq_true,decide_eq_true_eq] at this
  obtain ⟨_,h1,h2,h3,_,h5⟩:=this
  refine ⟨⟨by omega,fun v hv => ?_⟩,inB_iff.2 (by omega)⟩
  have:=name_nos (List.all_eq_true.1 h5 v hv)
  exact ⟨this.1,by omega⟩
theorem take1M (l:List Monomial) (i:Nat) (h:i<l.length):l.take (i+1)=l.take i++[monoAt l i]:=by
 unfold monoAt
 rw [List.take_add_one,List.getD_eq_getElem?_getD,List.getElem?_eq_getElem h];rfl
def ctr2 (m n:Monomial):Ctr:=(sortI (m.Vars++n.Vars),m.Coef,n.Coef)
def ctrs (a b:List Monomial):List Ctr:=(a.map fun m=>b.map (ctr2 m)).flatten
theorem app_okV {m n:Monomial} (hm:okMo m) (hn:okMo n):okV (m.Vars++n.Vars):=by
 refine ⟨by rw [List.length_append];have:=hm.1.1;have:=hn.1.1;omega,fun v hv => ?_⟩
 rcases List.mem_append.1 hv with h | h
 ·exact hm.1.2 v h
 ·exact hn.1.2 v h
theorem ctr2_ok {m n:Monomial} (hm:okMo m) (hn:okMo n):okT (ctr2 m n):=⟨sortI_ok (app_okV hm hn),hm.2,hn.2⟩
theorem ctrs_len (a b:List Monomial):(ctrs a b).length=a.length*b.length:=by
 induction a with
 | nil=>simp [ctrs]
 | cons m a ih =>
  have e:ctrs (m::a) b=b.map (ctr2 m)++ctrs a b:=rfl
  rw [e,List.length_append,List.length_map,ih,List.length_cons,Nat.add_mul];omega
theorem ctrs_ok {a b:List Monomial} (ha:∀ m∈a,okMo m) (hb:∀ m∈b,okMo m):∀ c∈ctrs a b,okT c:=fun c hc=>by
 obtain ⟨l,hl,hcl⟩:=List.mem_flatten.1 hc
 obtain ⟨m,hm,rfl⟩:=List.mem_map.1 hl
 obtain ⟨n,hn,rfl⟩:=List.mem_map.1 hcl
 exact ctr2_ok (ha m hm) (hb n hn)
theorem ctrs_snoc (a:List Monomial) (m:Monomial) (b:List Monomial):ctrs (a++[m]) b=ctrs a b++b.map (ctr2 m):=by
 unfold ctrs;rw [List.map_append,List.flatten_append];simp
theorem mul1_run {L:List Ctr} {s:MV×MI×MI} (h:SumSt L s.1 s.2.1 s.2.2) (hL:∀ c∈L,okT c) (hn:L.length≤900000) {m n:Monomial} (hm:okMo m) (hn2:okMo n) :
 ∃ y,poly_mul_1 m n s.1 s.2.1 s.2.2=some y∧SumSt (L++[ctr2 m n]) y.1 y.2.1 y.2.2:=by
 obtain ⟨y,e,hs⟩:=add_ctr (a:=m.Coef) (b:=n.Coef) h hL hn (app_okV hm hn2)
 refine ⟨y,?_,hs⟩
 unfold poly_mul_1
 have e1:lib_ConcatS [m.Vars,n.Vars]=some (m.Vars++n.Vars):=by
  unfold lib_ConcatS
  have:=hm.1.1;have:=hn2.1.1
  rw [grd_pos ⟨by simp;omega,by simp⟩];simp
 rw [e1]
 simp only [bnd_some]
 rw [e];rfl
theorem pairs_run {L:List Ctr} {s:MV×MI×MI} (h:SumSt L s.1 s.2.1 s.2.2) (hL:∀ c∈L,okT c) {a b:List Monomial} (ha:okP a) (hb:okP b) (hn:L.length≤800000) :
 ∃ y,poly_pairs_api_Monomial a b s.1 s.2.1 s.2.2=some y∧SumSt (L++ctrs a b) y.1 y.2.1 y.2.2:=by
 unfold poly_pairs_api_Monomial
 have hta:∀ j,∀ m∈a.take j,okMo m:=fun j m hm=>ha.2 m (List.mem_of_mem_take hm)
 have hlen:∀ j,(ctrs (a.take j) b).length≤3600:=fun j=>by
  rw [ctrs_len,List.length_take]
  have h1:min j a.length≤60:=by have:=ha.1;omega
  exact Nat.le_trans (Nat.mul_le_mul h1 hb.1) (by decide)
 obtain ⟨s',e,hI⟩:=cnt_inv (ρ:=MV×MI×MI) (σ:=MV×MI×MI) (ε:=MV×MI×MI) (body:=fun i303 s302 =>
  (cnt (σ:=MV×MI×MI) (ε:=MV×MI×MI) (ρ:=Empty) (fun i341 s340 =>
   (poly_mul_1 (Monomial.mk ((a.getD i303 ⟨0,[]⟩).Coef) ((a.getD i303 ⟨0,[]⟩).Vars)) (Monomial.mk ((b.getD i341 ⟨0,[]⟩).Coef) ((b.getD i341 ⟨0,[]⟩).Vars)) s340.1 s340.2.1 s340.2.2).bind fun y366 =>
   some (.go (y366.1,y366.2.1,y366.2.2))
  ) (fun i341 s340=>(s340.1,s340.2.1,s340.2.2)) (b.length-0) 0 (s302.1,s302.2.1,s302.2.2)).bind <| aftE fun u374 =>
  some (.go (u374.1,u374.2.1,u374.2.2))) (fin:=fun i303 s302=>(s302.1,s302.2.1,s302.2.2))
  (fun j s=>SumSt (L++ctrs (a.take j) b) s.1 s.2.1 s.2.2) (a.length-0) 0 (s.1,s.2.1,s.2.2) (by simpa [ctrs] using h) (fun j s _ hj hI=>by
   obtain ⟨s2,e2,hI2⟩:=cnt_inv (ρ:=Empty) (σ:=MV×MI×MI) (ε:=MV×MI×MI) (body:=fun i341 s340 =>
    (poly_mul_1 (Monomial.mk ((a.getD j ⟨0,[]⟩).Coef) ((a.getD j ⟨0,[]⟩).Vars)) (Monomial.mk ((b.getD i341 ⟨0,[]⟩).Coef) ((b.getD i341 ⟨0,[]⟩).Vars)) s340.1 s340.2.1 s340.2.2).bind fun y366 =>
    some (.go (y366.1,y366.2.1,y366.2.2))) (fin:=fun i341 s340=>(s340.1,s340.2.1,s340.2.2))
    (fun k s=>SumSt (L++ctrs (a.take j) b++(b.take k).map (ctr2 (monoAt a j))) s.1 s.2.1 s.2.2) (b.length-0) 0 (s.1,s.2.1,s.2.2) (by simpa using hI) (fun k s _ hk hI3=>by
     have hLL:∀ c∈L++ctrs (a.take j) b++(b.take k).map (ctr2 (monoAt a j)),okT c:=fun c hc=>by
      rcases List.mem_append.1 hc with hc | hc
      ·rcases List.mem_append.1 hc with hc | hc
       ·exact hL c hc
       ·exact ctrs_ok (hta j) hb.2 c hc
      ·obtain ⟨n,hn3,rfl⟩:=List.mem_map.1 hc
       exact ctr2_ok (ha.2 _ (monoAt_mem (by omega))) (hb.2 n (List.mem_of_mem_take hn3))
     obtain ⟨y,e3,hs⟩:=mul1_run (m:=monoAt a j) (n:=monoAt b k) hI3 hLL (by
      have h1:=hlen j
      have h2:=hb.1
      simp only [List.length_append,List.length_map,List.length_take];omega) (ha.2 _ (monoAt_mem (by omega))) (hb.2 _ (monoAt_mem (by omega)))
     refine ⟨(y.1,y.2.1,y.2.2),?_,?_⟩
     ·show (poly_mul_1 (monoAt a j) (monoAt b k) s.1 s.2.1 s.2.2).bind _=_
      rw [e3];rfl
     ·rw [take1M b k (by omega),List.map_append,← List.append_assoc]
      exact hs)
   refine ⟨(s2.1,s2.2.1,s2.2.2),?_,?_⟩
   ·rw [e2];rfl
   ·rw [Nat.zero_add,Nat.sub_zero,List.take_length] at hI2
    rw [take1M a j (by omega),ctrs_snoc,← List.append_assoc]
    exact hI2)
 refine ⟨s',?_,?_⟩
 ·rw [e];rfl
 ·rw [Nat.zero_add,Nat.sub_zero,List.take_length] at hI
  exact hI
theorem poly_mul_eq {a b:List Monomial} (ha:okP a) (hb:okP b):∃ p,IsCanon (coefL (ctrs a b)) p∧Bd p∧poly_mul a b=some (limited p):=by
 obtain ⟨y,e,hs⟩:=pairs_run (s:=([],[],[])) SumSt.nil (fun c hc=>(by cases hc)) ha hb (by simp)
 rw [List.nil_append] at hs
 obtain ⟨p,h1,h2,h3⟩:=result_ctr hs (ctrs_ok ha.2 hb.2) (by
  rw [ctrs_len]
  exact Nat.le_trans (Nat.mul_le_mul ha.1 hb.1) (by decide))
 refine ⟨p,h1,h2,?_⟩
 unfold poly_mul
 rw [show poly_newSum=some ([],[],[]) from rfl]
 simp only [bnd_some]
 rw [show poly_pairs_api_Monomial a b [] [] []=some y from e]
 simp only [bnd_some]
 rw [h3];rfl
theorem poly_Mul_eq {a b:List Monomial} (ha:Bd a) (hb:Bd b):(validP a=true→validP b=true→∃ p,IsCanon (coefL (ctrs a b)) p∧Bd p∧poly_Mul a b=some (limited p))∧(validP a=false∨validP b=false→poly_Mul a b=some ([],1)):=by
 unfold poly_Mul
 rw [poly_Valid_eq a ha,poly_Valid_eq b hb]
 refine ⟨fun h1 h2 => ?_,fun h => ?_⟩
 ·obtain ⟨p,k1,k2,k3⟩:=poly_mul_eq (valid_okP h1) (valid_okP h2)
  refine ⟨p,k1,k2,?_⟩
  rw [h1,h2]
  simp only [bnd_some,cond_true]
  rw [k3];rfl
 ·cases hv:validP a with
  | false=>rfl
  | true =>
   rcases h with h | h
   ·rw [hv] at h;cases h
   ·rw [h];rfl
end Go.Proofs.YtjfpcjnopbfekaaGreatDoor
/- PLAIN LAWS of layer 5: the degree of a product. -/
namespace Go.Proofs.YtjfpcjnopbfekaaGreatDoor
open Go.Ab Go.Sh Go.Sort
theorem valid_step {p:List Monomial} (h:validP p=true) {j:Nat} (hj:j<p.length):stepOk p j=true:=by
 unfold validP at h
 rw [Bool.and_eq_true,List.all_eq_true] at h
 exact h.1 j (by rw [List.mem_range'_1];omega)
theorem monoAt_eq {p:List Monomial} {j:Nat} (hj:j<p.length):monoAt p j=p[j]:=by unfold monoAt;rw [List.getD_eq_getElem?_getD,List.getElem?_eq_getElem hj];rfl
theorem valid_st {p:List Monomial} (h:validP p=true):p.Pairwise (ltM Monomial.Vars):=by
 have key:∀ j i,i<j→j<p.length→cmpL (monoAt p i).Vars (monoAt p j).Vars<0:=by
  intro j
  induction j with
  | zero=>intro i h1;omega
  | succ j ih =>
   intro i h1 h2
   have hs:=valid_step h h2
   unfold stepOk at hs
   simp only [Bool.and_eq_true,Bool.or_eq_true,beq_iff_eq,decide_eq_true_eq,Nat.add_sub_cancel] at hs
   have hadj:cmpL (monoAt p j).Vars (monoAt p (j+1)).Vars<0:=by
    rcases hs.2 with h3 | h3
    ·omega
    ·exact h3
   by_cases e:i=j
   ·subst e;exact hadj
   ·exact cmpL_trans (ih i (by omega) (by omega)) hadj
 rw [List.pairwise_iff_getElem]
 intro i j hi hj hij
 have:=key j i hij hj
 rwa [monoAt_eq hi,monoAt_eq hj] at this
theorem srt_pair {V:List Str} (h:srtB V=true):V.Pairwise (fun a b=>leS a b=true):=by
 have key:∀ j i,i<j→j<V.length→leS (V.getD i []) (V.getD j [])=true:=by
  intro j
  induction j with
  | zero=>intro i h1;omega
  | succ j ih =>
   intro i h1 h2
   unfold srtB at h
   have hs:=List.all_eq_true.1 h (j+1) (by rw [List.mem_range'_1];omega)
   have hadj:leS (V.getD j []) (V.getD (j+1) [])=true:=by
    simp only [leS,decide_eq_true_eq]
    rw [← List.not_lt,cb_lt]
    simpa [List.getD_eq_getElem?_getD] using hs
   by_cases e:i=j
   ·subst e;exact hadj
   ·exact leS_trans _ _ _ (ih i (by omega) (by omega)) hadj
 rw [List.pairwise_iff_getElem]
 intro i j hi hj hij
 have:=key j i hij hj
 simpa [List.getD_eq_getElem?_getD,List.getElem?_eq_getElem hi,List.getElem?_eq_getElem hj] using this
theorem valid_srt {p:List Monomial} (h:validP p=true) {m:Monomial} (hm:m∈p):m.Vars.Pairwise (fun a b=>leS a b=true):=by
 have:=valid_coef h hm
 unfold okM at this
 simp only [Bool.and_eq_true] at this
 exact srt_pair this.2.2.2.2.1
theorem valid_len {p:List Monomial} (h:validP p=true) {m:Monomial} (hm:m∈p):m.Vars.length≤8∧m.Coef≠0:=by
 have:=valid_coef h hm
 unfold okM at this
 simp only [Bool.and_eq_true,decide_eq_true_eq,Bool.not_eq_true',beq_eq_false_iff_ne] at this
 exact ⟨this.2.2.2.1,this.1⟩
theorem uniqV {p:List Monomial} (h:p.Pairwise (ltM Monomial.Vars)) {m n:Monomial} (hm:m∈p) (hn:n∈p) (e:m.Vars=n.Vars):m=n:=by
 obtain ⟨i,hi,rfl⟩:=List.getElem_of_mem hm
 obtain ⟨j,hj,rfl⟩:=List.getElem_of_mem hn
 rw [List.pairwise_iff_getElem] at h
 have no:∀ {i j:Nat} (hi:i<p.length) (hj:j<p.length),i<j→p[i].Vars=p[j].Vars→False:=fun hi hj hij e=>by
  have:=h _ _ hi hj hij
  unfold ltM at this
  rw [e,cmpL_self] at this
  omega
 rcases Nat.lt_trichotomy i j with h1 | h1 | h1
 ·exact (no hi hj h1 e).elim
 ·subst h1;rfl
 ·exact (no hj hi h1 e.symm).elim
/-! ### weights -/
theorem coefL_zero {V:List Str}:∀ {L:List Ctr},(∀ c∈L,c.1≠V)→coefL L V=0
 | [],_=>rfl
 | c::L,h=>by
  simp only [coefL,if_neg (h c (by simp)),coefL_zero (L:=L) fun c' hc=>h c' (by simp [hc])]
  rfl
/-! ### degrees -/
end Go.Proofs.YtjfpcjnopbfekaaGreatDoor
/- PLAIN LAW: the degree of a product is the sum of the degrees. -/
namespace Go.Proofs.YtjfpcjnopbfekaaGreatDoor
open Go.Ab Go.Sh Go.Sort
theorem canon_nil {p:List Monomial} {f:List Str→Int} (h:IsCanon f p) (hf:∀ V,f V=0):p=[]:=by
 cases p with
 | nil=>rfl
 | cons m p =>
  have:=(h.mem m).1 (by simp)
  rw [hf] at this
  exact absurd this.2 this.1
end Go.Proofs.YtjfpcjnopbfekaaGreatDoor
/- PLAIN LAWS of layer 5: sums of polynomials, numbers, equality. -/
namespace Go.Proofs.YtjfpcjnopbfekaaGreatDoor
open Go.Ab Go.Sh Go.Sort
def ctr1 (k:Int) (m:Monomial):Ctr:=(sortI m.Vars,m.Coef,k)
theorem one_okV {m:Monomial} (hm:okMo m):okV m.Vars:=⟨by have:=hm.1.1;omega,hm.1.2⟩
theorem ctr1_ok {k:Int} {m:Monomial} (hm:okMo m) (hk:inB k=true):okT (ctr1 k m):=⟨sortI_ok (one_okV hm),hm.2,hk⟩
theorem pairs1_run {L:List Ctr} {s:MV×MI×MI} (h:SumSt L s.1 s.2.1 s.2.2) (hL:∀ c∈L,okT c) {a:List Monomial} {k:Int} (ha:okP a) (hk:inB k=true) (hn:L.length≤800000) :
 ∃ y,poly_pairs_int a [k] s.1 s.2.1 s.2.2=some y∧SumSt (L++a.map (ctr1 k)) y.1 y.2.1 y.2.2:=by
 unfold poly_pairs_int
 obtain ⟨s',e,hI⟩:=cnt_inv (ρ:=MV×MI×MI) (σ:=MV×MI×MI) (ε:=MV×MI×MI) (body:=fun i303 s302 =>
  (cnt (σ:=MV×MI×MI) (ε:=MV×MI×MI) (ρ:=Empty) (fun i341 s340 =>
   (poly_combine_1 (Monomial.mk ((a.getD i303 ⟨0,[]⟩).Coef) ((a.getD i303 ⟨0,[]⟩).Vars)) ([k].getD i341 0) s340.1 s340.2.1 s340.2.2).bind fun y366 =>
   some (.go (y366.1,y366.2.1,y366.2.2))
  ) (fun i341 s340=>(s340.1,s340.2.1,s340.2.2)) ([k].length-0) 0 (s302.1,s302.2.1,s302.2.2)).bind <| aftE fun u374 =>
  some (.go (u374.1,u374.2.1,u374.2.2))) (fin:=fun i303 s302=>(s302.1,s302.2.1,s302.2.2))
  (fun j s=>SumSt (L++(a.take j).map (ctr1 k)) s.1 s.2.1 s.2.2) (a.length-0) 0 (s.1,s.2.1,s.2.2) (by simpa using h) (fun j s _ hj hI=>by
   have hLL:∀ c∈L++(a.take j).map (ctr1 k),okT c:=fun c hc=>by
    rcases List.mem_append.1 hc with hc | hc
    ·exact hL c hc
    ·obtain ⟨n,hn3,rfl⟩:=List.mem_map.1 hc
     exact ctr1_ok (ha.2 n (List.mem_of_mem_take hn3)) hk
   obtain ⟨y,e3,hs⟩:=add_ctr (a:=(monoAt a j).Coef) (b:=k) hI hLL (by
    have h2:=ha.1
    simp only [List.length_append,List.length_map,List.length_take];omega) (one_okV (ha.2 _ (monoAt_mem (p:=a) (j:=j) (by omega))))
   refine ⟨(y.1,y.2.1,y.2.2),?_,?_⟩
   ·have e5:poly_combine_1 (Monomial.mk ((a.getD j ⟨0,[]⟩).Coef) ((a.getD j ⟨0,[]⟩).Vars)) ([k].getD 0 0) s.1 s.2.1 s.2.2=some y:=by
     unfold poly_combine_1
     rw [show poly_sum_add (Monomial.mk ((a.getD j ⟨0,[]⟩).Coef) ((a.getD j ⟨0,[]⟩).Vars)).Vars (Monomial.mk ((a.getD j ⟨0,[]⟩).Coef) ((a.getD j ⟨0,[]⟩).Vars)).Coef ([k].getD 0 0) s.1 s.2.1 s.2.2=some y from e3];rfl
    simp only [List.length_cons,List.length_nil,Nat.zero_add,Nat.sub_zero,cnt]
    rw [e5];rfl
   ·rw [take1M a j (by omega),List.map_append,← List.append_assoc]
    exact hs)
 refine ⟨s',?_,?_⟩
 ·rw [e];rfl
 ·rw [Nat.zero_add,Nat.sub_zero,List.take_length] at hI
  exact hI
theorem poly_Add_eq {a b:List Monomial} (ha:Bd a) (hb:Bd b) (hva:validP a=true) (hvb:validP b=true):∃ p,IsCanon (coefL (a.map (ctr1 1)++b.map (ctr1 1))) p∧Bd p∧poly_Add a b=some (limited p):=by
 have oa:=valid_okP hva
 have ob:=valid_okP hvb
 have h1:inB 1=true:=rfl
 have ok1:∀ c∈a.map (ctr1 1),okT c:=fun c hc=>by obtain ⟨n,hn,rfl⟩:=List.mem_map.1 hc;exact ctr1_ok (oa.2 n hn) h1
 have ok2:∀ c∈b.map (ctr1 1),okT c:=fun c hc=>by obtain ⟨n,hn,rfl⟩:=List.mem_map.1 hc;exact ctr1_ok (ob.2 n hn) h1
 obtain ⟨y,e,hs⟩:=pairs1_run (s:=([],[],[])) SumSt.nil (fun c hc=>(by cases hc)) oa h1 (by simp)
 rw [List.nil_append] at hs
 obtain ⟨z,e2,hs2⟩:=pairs1_run hs ok1 ob h1 (by rw [List.length_map];have:=oa.1;omega)
 obtain ⟨p,k1,k2,k3⟩:=result_ctr hs2 (fun c hc=>by
  rcases List.mem_append.1 hc with hc | hc
  ·exact ok1 c hc
  ·exact ok2 c hc) (by
  have:=oa.1;have:=ob.1
  simp only [List.length_append,List.length_map];omega)
 refine ⟨p,k1,k2,?_⟩
 unfold poly_Add poly_combine
 rw [show poly_newSum=some ([],[],[]) from rfl]
 simp only [bnd_some]
 have ec:cnt (σ:=MV×MI×MI) (ε:=MV×MI×MI) (ρ:=List Monomial×Int) (fun i45 s44 =>
  (poly_Valid ([a,b].getD i45 [])).bind fun y79 =>
  bif y79 then (
   grd (i45≤(i45+1)∧(i45+1)≤([1,1]:List Int).length) <|
   (poly_pairs_int ([a,b].getD i45 []) ((([1,1]:List Int).drop i45).take ((i45+1)-i45)) s44.1 s44.2.1 s44.2.2).bind fun y92 =>
   some (.go (y92.1,y92.2.1,y92.2.2))
  ) else (
   some (.ret ([],1))
  )
 ) (fun i45 s44=>(s44.1,s44.2.1,s44.2.2)) (([a,b]:List (List Monomial)).length-0) 0 ([],[],[])=some (.brk z):=by
  show (((poly_Valid a).bind fun y79=>_).bind _)=_
  rw [poly_Valid_eq a ha,hva]
  simp only [bnd_some,cond_true]
  rw [grd_pos (by simp)]
  rw [show (([1,1]:List Int).drop 0).take (0+1-0)=[1] from rfl,show [a,b].getD 0 []=a from rfl,e]
  simp only [bnd_some,stp]
  show (((poly_Valid b).bind fun y79=>_).bind _)=_
  rw [poly_Valid_eq b hb,hvb]
  simp only [bnd_some,cond_true]
  rw [grd_pos (by simp)]
  rw [show (([1,1]:List Int).drop (0+1)).take (0+1+1-(0+1))=[1] from rfl,show [a,b].getD (0+1) []=b from rfl,e2]
  rfl
 rw [ec]
 simp only [bnd_some,Sh.aft]
 rw [k3];rfl
theorem sameTexts_self (V:List Str):ref01_SameTexts V V=some true:=by
 unfold ref01_SameTexts
 rw [show ((((V.length:Nat):Int)==((V.length:Nat):Int)))=true by simp]
 simp only [cond_true]
 rw [cnt_all (r:=false) (fun _=>true) _ _ () (fun j u _ hj=>by
  rw [grd_pos (by omega)]
  simp)]
 have:(List.range' 0 (V.length-0)).all (fun _=>true)=true:=by simp
 rw [this];rfl
theorem equal_self (p:List Monomial):ref05_Equal p p=some true:=by
 unfold ref05_Equal
 rw [show ((((p.length:Nat):Int)==((p.length:Nat):Int)))=true by simp]
 simp only [cond_true]
 rw [cnt_all (r:=false) (fun _=>true) _ _ () (fun j u _ hj=>by
  rw [grd_pos (by omega),sameTexts_self]
  simp)]
 have:(List.range' 0 (p.length-0)).all (fun _=>true)=true:=by simp
 rw [this];rfl
end Go.Proofs.YtjfpcjnopbfekaaGreatDoor
/- PLAIN LAWS of layer 5: polynomials are linear functionals; the laws of a ring. -/
namespace Go.Proofs.YtjfpcjnopbfekaaGreatDoor
open Go.Ab Go.Sh Go.Sort
def ctrP (k:Int) (m:Monomial):Ctr:=(m.Vars,m.Coef,k)
theorem coef_of {f:List Str→Int} {p:List Monomial} (h:IsCanon f p) (k:Int) (V:List Str):coefL (p.map (ctrP k)) V=f V*k:=by
 by_cases hz:f V=0
 ·rw [hz,Int.zero_mul]
  refine coefL_zero fun c hc e => ?_
  obtain ⟨m,hm,rfl⟩:=List.mem_map.1 hc
  have h2:=(h.mem m).1 hm
  have e:m.Vars=V:=e
  rw [e,hz] at h2
  exact h2.1 h2.2
 ·have hm:(⟨f V,V⟩:Monomial)∈p:=(h.mem _).2 ⟨hz,rfl⟩
  have hu:∀ n∈p,n.Vars=V→n=⟨f V,V⟩:=fun n hn e=>uniqV h.st hn hm e
  have hnd:=ltM_nodup h.st
  obtain ⟨s,t,rfl⟩:=List.append_of_mem hm
  have z:∀ l:List Monomial,(∀ n∈l,n∈s++⟨f V,V⟩::t∧n≠⟨f V,V⟩)→coefL (l.map (ctrP k)) V=0:=fun l hl=>coefL_zero fun c hc e=>by
   obtain ⟨m,hm,rfl⟩:=List.mem_map.1 hc
   exact (hl m hm).2 (hu m (hl m hm).1 e)
  rw [List.nodup_append] at hnd
  rw [List.map_append,List.map_cons,coefL_append,z s (fun n hn=>⟨by simp [hn],fun e=>hnd.2.2 n hn _ (by simp) e⟩)]
  have e2:coefL (ctrP k ⟨f V,V⟩::t.map (ctrP k)) V=f V*k+coefL (t.map (ctrP k)) V:=by simp [coefL,ctrP]
  rw [e2,z t (fun n hn=>⟨by simp [hn],fun e=>(List.nodup_cons.1 hnd.2.1).1 (by rw [← e];exact hn)⟩)]
  omega
theorem canon_self {p:List Monomial} (h:validP p=true):IsCanon (coefL (p.map (ctrP 1))) p:=by
 have hst:=valid_st h
 refine ⟨hst,fun m => ?_⟩
 have one:∀ {m:Monomial},m∈p→coefL (p.map (ctrP 1)) m.Vars=m.Coef:=fun {m} hm=>by
  have hu:∀ n∈p,n.Vars=m.Vars→n=m:=fun n hn e=>uniqV hst hn hm e
  have hnd:=ltM_nodup hst
  obtain ⟨s,t,rfl⟩:=List.append_of_mem hm
  have z:∀ l:List Monomial,(∀ n∈l,n∈s++m::t∧n≠m)→coefL (l.map (ctrP 1)) m.Vars=0:=fun l hl=>coefL_zero fun c hc e=>by
   obtain ⟨n,hn,rfl⟩:=List.mem_map.1 hc
   exact (hl n hn).2 (hu n (hl n hn).1 e)
  rw [List.nodup_append] at hnd
  rw [List.map_append,List.map_cons,coefL_append,z s (fun n hn=>⟨by simp [hn],fun e=>hnd.2.2 n hn _ (by simp) e⟩)]
  have e2:coefL (ctrP 1 m::t.map (ctrP 1)) m.Vars=m.Coef+coefL (t.map (ctrP 1)) m.Vars:=by simp [coefL,ctrP]
  rw [e2,z t (fun n hn=>⟨by simp [hn],fun e=>(List.nodup_cons.1 hnd.2.1).1 (by rw [← e];exact hn)⟩)]
  omega
 constructor
 ·intro hm;exact ⟨(valid_len h hm).2,(one hm).symm⟩
 ·rintro ⟨h0,h1⟩
  have h2:coefL (p.map (ctrP 1)) m.Vars≠0:=by rw [← h1];exact h0
  obtain ⟨c,hc,e⟩:=coefL_mem h2
  obtain ⟨n,hn,rfl⟩:=List.mem_map.1 hc
  have e:n.Vars=m.Vars:=e
  have h3:=one hn
  rw [e,← h1] at h3
  have:n=m:=by cases n;cases m;simp only at e h3;rw [e,h3]
  rw [← this];exact hn
/-! ### products -/
theorem valid_sorted {p:List Monomial} (h:validP p=true):∀ m∈p,sortI m.Vars=m.Vars:=fun m hm=>by
 rw [← sortS_eq]
 exact sort_eq (valid_srt h hm) (List.Perm.refl _)
end Go.Proofs.YtjfpcjnopbfekaaGreatDoor
/- PLAIN LAW: polynomials make a ring. -/
/- PLAIN LAWS of layer 5: a monomial is put where it belongs. -/
namespace Go.Proofs.YtjfpcjnopbfekaaGreatDoor
open Go.Ab Go.Sh Go.Sort
def plusI (m:Monomial):List Monomial→List Monomial
 | []=>[m]
 | x::r=>if 0<cmpL x.Vars m.Vars then m::x::r else if cmpL x.Vars m.Vars=0 then (if x.Coef+m.Coef=0 then r else ⟨x.Coef+m.Coef,x.Vars⟩::r) else x::plusI m r
def plusM (p:List Monomial) (m:Monomial):List Monomial:=if m.Coef=0 then p else plusI m p
theorem plusI_len (m:Monomial):∀ p,(plusI m p).length≤p.length+1
 | []=>by simp [plusI]
 | x::r=>by
  unfold plusI
  have:=plusI_len m r
  split
  ·simp
  ·split
   ·split<;>simp;omega
   ·simp;omega
theorem plusM_len (p:List Monomial) (m:Monomial):(plusM p m).length≤p.length+1:=by
 unfold plusM
 split
 ·omega
 ·exact plusI_len m p
theorem plusI_key {m n:Monomial}:∀ {p:List Monomial},n∈plusI m p→n.Vars=m.Vars∨∃ x∈p,x.Vars=n.Vars
 | [],h=>by simp [plusI] at h;exact .inl (by rw [h])
 | x::r,h=>by
  unfold plusI at h
  split at h
  ·rcases List.mem_cons.1 h with rfl | h
   ·exact .inl rfl
   ·exact .inr ⟨n,h,rfl⟩
  ·split at h
   ·split at h
    ·exact .inr ⟨n,by simp [h],rfl⟩
    ·rcases List.mem_cons.1 h with rfl | h
     ·exact .inr ⟨x,by simp,rfl⟩
     ·exact .inr ⟨n,by simp [h],rfl⟩
   ·rcases List.mem_cons.1 h with rfl | h
    ·exact .inr ⟨n,by simp,rfl⟩
    ·rcases plusI_key h with h | ⟨y,hy,e⟩
     ·exact .inl h
     ·exact .inr ⟨y,by simp [hy],e⟩
theorem plusI_sorted {m:Monomial}:∀ {p:List Monomial},p.Pairwise (ltM Monomial.Vars)→(plusI m p).Pairwise (ltM Monomial.Vars)
 | [],_=>by simp [plusI]
 | x::r,h=>by
  have h2:=List.pairwise_cons.1 h
  unfold plusI
  split
  ·rename_i hgt
   have hmx:ltM Monomial.Vars m x:=cmpL_anti.2 hgt
   refine List.pairwise_cons.2 ⟨fun z hz => ?_,h⟩
   rcases List.mem_cons.1 hz with rfl | hz
   ·exact hmx
   ·exact cmpL_trans hmx (h2.1 z hz)
  ·split
   ·split
    ·exact h2.2
    ·exact List.pairwise_cons.2 ⟨fun z hz=>h2.1 z hz,h2.2⟩
   ·rename_i hgt heq
    refine List.pairwise_cons.2 ⟨fun z hz => ?_,plusI_sorted h2.2⟩
    show cmpL x.Vars z.Vars<0
    rcases plusI_key hz with e | ⟨y,hy,e⟩
    ·rw [e];omega
    ·rw [← e];exact h2.1 y hy
theorem plusI_mem {m:Monomial} (hm:m.Coef≠0) {c:Int}:∀ {p:List Monomial},p.Pairwise (ltM Monomial.Vars)→(∀ x∈p,x.Coef≠0)→(∀ x∈p,x.Vars=m.Vars→x.Coef=c)→((∀ x∈p,x.Vars≠m.Vars)→c=0) →
 ∀ n,n∈plusI m p↔(n.Vars≠m.Vars∧n∈p)∨(n.Vars=m.Vars∧n.Coef=c+m.Coef∧n.Coef≠0)
 | [],_,_,_,h4,n=>by
  have hc:c=0:=h4 fun x hx=>by cases hx
  subst hc
  obtain ⟨k,V⟩:=n
  obtain ⟨k',V'⟩:=m
  simp only [plusI,List.mem_singleton,Monomial.mk.injEq,List.not_mem_nil,and_false,false_or]
  simp only at hm
  constructor
  ·rintro ⟨rfl,rfl⟩;exact ⟨rfl,by omega,hm⟩
  ·rintro ⟨rfl,h,_⟩;exact ⟨by omega,rfl⟩
 | x::r,h,h2,h3,h4,n=>by
  have hp:=List.pairwise_cons.1 h
  have hself:cmpL m.Vars m.Vars=0:=cmpL_self _
  unfold plusI
  split
  ·rename_i hgt
   have hmx:ltM Monomial.Vars m x:=cmpL_anti.2 hgt
   have hne:∀ y∈x::r,y.Vars≠m.Vars:=fun y hy e=>by
    have h5:ltM Monomial.Vars m y:=by
     rcases List.mem_cons.1 hy with rfl | hy
     ·exact hmx
     ·exact cmpL_trans hmx (hp.1 y hy)
    have h5:cmpL m.Vars y.Vars<0:=h5
    rw [e,hself] at h5
    omega
   have hc:c=0:=h4 hne
   subst hc
   rw [List.mem_cons]
   constructor
   ·rintro (rfl | hn)
    ·exact .inr ⟨rfl,by omega,hm⟩
    ·exact .inl ⟨hne n hn,hn⟩
   ·rintro (⟨_,hn⟩ | ⟨e1,e2,_⟩)
    ·exact .inr hn
    ·refine .inl ?_
     obtain ⟨k,V⟩:=n
     obtain ⟨k',V'⟩:=m
     simp only at e1 e2
     rw [e1,e2,Int.zero_add]
  ·split
   ·rename_i hgt heq
    have exm:=cmpL_zero heq
    have hc:x.Coef=c:=h3 x (by simp) exm
    have hne:∀ y∈r,y.Vars≠m.Vars:=fun y hy e=>by
     have h5:cmpL x.Vars y.Vars<0:=hp.1 y hy
     rw [e,exm,hself] at h5
     omega
    split
    ·rename_i hz
     constructor
     ·intro hn;exact .inl ⟨hne n hn,by simp [hn]⟩
     ·rintro (⟨e1,hn⟩ | ⟨e1,e2,e3⟩)
      ·rcases List.mem_cons.1 hn with rfl | hn
       ·exact absurd exm e1
       ·exact hn
      ·exfalso;omega
    ·rename_i hz
     rw [List.mem_cons]
     constructor
     ·rintro (rfl | hn)
      ·exact .inr ⟨exm,by simp only;omega,hz⟩
      ·exact .inl ⟨hne n hn,by simp [hn]⟩
     ·rintro (⟨e1,hn⟩ | ⟨e1,e2,e3⟩)
      ·rcases List.mem_cons.1 hn with rfl | hn
       ·exact absurd exm e1
       ·exact .inr hn
      ·refine .inl ?_
       obtain ⟨k,V⟩:=n
       simp only at e1 e2
       rw [e1,e2,exm,hc]
   ·rename_i hgt heq
    have hxm:x.Vars≠m.Vars:=fun e=>heq (by rw [e];exact hself)
    have ih:=plusI_mem hm hp.2 (fun y hy=>h2 y (by simp [hy])) (fun y hy=>h3 y (by simp [hy])) (fun hA=>h4 fun y hy=>by
     rcases List.mem_cons.1 hy with rfl | hy
     ·exact hxm
     ·exact hA y hy) n
    rw [List.mem_cons,ih,List.mem_cons]
    constructor
    ·rintro (rfl | ⟨e1,hn⟩ | e1)
     ·exact .inl ⟨hxm,.inl rfl⟩
     ·exact .inl ⟨e1,.inr hn⟩
     ·exact .inr e1
    ·rintro (⟨e1,rfl | hn⟩ | e1)
     ·exact .inl rfl
     ·exact .inr (.inl ⟨e1,hn⟩)
     ·exact .inr (.inr e1)
theorem coefL_one (V:List Str) (c:Ctr):coefL [c] V=if c.1=V then c.2.1*c.2.2 else 0:=by
 unfold coefL
 simp [coefL]
theorem plus_canon {L:List Ctr} {p:List Monomial} (h:IsCanon (coefL L) p) {m:Monomial} {a b:Int} (e:m.Coef=a*b):IsCanon (coefL (L++[(m.Vars,a,b)])) (plusM p m):=by
 have hco:∀ V,coefL (L++[(m.Vars,a,b)]) V=coefL L V+if m.Vars=V then m.Coef else 0:=fun V=>by
  rw [coefL_append,coefL_one];simp only [e]
 unfold plusM
 by_cases hz:m.Coef=0
 ·rw [if_pos hz]
  refine ⟨h.st,fun n => ?_⟩
  rw [h.mem,hco,hz]
  simp
 ·rw [if_neg hz]
  refine ⟨plusI_sorted h.st,fun n => ?_⟩
  rw [plusI_mem hz (c:=coefL L m.Vars) h.st (fun x hx=>((h.mem x).1 hx).1) (fun x hx ex=>by rw [((h.mem x).1 hx).2,ex]) (fun hA => ?_) n,h.mem,hco]
  ·constructor
   ·rintro (⟨e1,e2,e3⟩ | ⟨e1,e2,e3⟩)
    ·rw [if_neg (Ne.symm e1)];exact ⟨e2,by omega⟩
    ·rw [if_pos e1.symm,e1];exact ⟨e3,e2⟩
   ·rintro ⟨e2,e3⟩
    by_cases e1:n.Vars=m.Vars
    ·rw [if_pos e1.symm,e1] at e3;exact .inr ⟨e1,e3,e2⟩
    ·rw [if_neg (Ne.symm e1)] at e3;exact .inl ⟨e1,e2,by omega⟩
  ·apply Classical.byContradiction
   intro hc
   exact hA ⟨coefL L m.Vars,m.Vars⟩ ((h.mem _).2 ⟨hc,rfl⟩) rfl
end Go.Proofs.YtjfpcjnopbfekaaGreatDoor
/- PLAIN LAWS of layer 5: the specification puts monomials where they belong. -/
namespace Go.Proofs.YtjfpcjnopbfekaaGreatDoor
open Go.Ab Go.Sh Go.Sort
def plS (m x:Monomial) (s:List Monomial×Bool):List Monomial×Bool :=
 if s.2=true then (if x.Coef=0 then s.1 else s.1++[x],true)
 else if 0<cmpL x.Vars m.Vars then (if x.Coef=0 then s.1++[m] else s.1++[m]++[x],true)
 else if cmpL x.Vars m.Vars=0 then (if w64 (x.Coef+m.Coef)=0 then s.1 else s.1++[⟨w64 (x.Coef+m.Coef),x.Vars⟩],true)
 else (if x.Coef=0 then s.1 else s.1++[x],false)
theorem plS_len (m x:Monomial) (s:List Monomial×Bool):(plS m x s).1.length≤s.1.length+2:=by
 unfold plS
 repeat' split
 all_goals simp
theorem plus_done {m:Monomial}:∀ {p:List Monomial},(∀ x∈p,x.Coef≠0)→∀ out,loopL (ρ:=Empty) (fun x s=>.go (plS m x s)) (fun s=>s) p (out,true) = .brk (out++p,true)
 | [],_,out=>by simp [loopL]
 | x::r,h,out=>by
  have hx:=h x (by simp)
  have e:plS m x (out,true)=(out++[x],true):=by unfold plS;rw [if_pos rfl,if_neg hx]
  simp only [loopL,e]
  rw [plus_done (fun y hy=>h y (by simp [hy]))]
  simp
def plE (m:Monomial) (s:List Monomial×Bool):List Monomial:=if s.2=true then s.1 else s.1++[m]
theorem plus_loop {m:Monomial}:∀ {p:List Monomial},(∀ x∈p,x.Coef≠0)→(∀ x∈p,x.Vars=m.Vars→w64 (x.Coef+m.Coef)=x.Coef+m.Coef)→∀ out,∃ s,loopL (ρ:=Empty) (fun x s=>.go (plS m x s)) (fun s=>s) p (out,false) = .brk s∧plE m s=out++plusI m p
 | [],_,_,out=>⟨(out,false),rfl,rfl⟩
 | x::r,h,hw,out=>by
  have hx:=h x (by simp)
  have hr:∀ y∈r,y.Coef≠0:=fun y hy=>h y (by simp [hy])
  unfold plusI
  by_cases h1:0<cmpL x.Vars m.Vars
  ·have e:plS m x (out,false)=(out++[m]++[x],true):=by unfold plS;rw [if_neg (by simp),if_pos h1,if_neg hx]
   rw [if_pos h1]
   simp only [loopL,e]
   exact ⟨_,plus_done hr _,by simp [plE]⟩
  ·by_cases h2:cmpL x.Vars m.Vars=0
   ·have hw1:=hw x (by simp) (cmpL_zero h2)
    rw [if_neg h1,if_pos h2]
    by_cases h3:x.Coef+m.Coef=0
    ·have e:plS m x (out,false)=(out,true):=by unfold plS;rw [if_neg (by simp),if_neg h1,if_pos h2,hw1,if_pos h3]
     simp only [loopL,e]
     exact ⟨_,plus_done hr _,by rw [if_pos h3];simp [plE]⟩
    ·have e:plS m x (out,false)=(out++[⟨x.Coef+m.Coef,x.Vars⟩],true):=by unfold plS;rw [if_neg (by simp),if_neg h1,if_pos h2,hw1,if_neg h3]
     simp only [loopL,e]
     exact ⟨_,plus_done hr _,by rw [if_neg h3];simp [plE]⟩
   ·have e:plS m x (out,false)=(out++[x],false):=by unfold plS;rw [if_neg (by simp),if_neg h1,if_neg h2,if_neg hx]
    rw [if_neg h1,if_neg h2]
    simp only [loopL,e]
    obtain ⟨s,h3,h4⟩:=plus_loop hr (fun y hy=>hw y (by simp [hy])) (out++[x])
    exact ⟨s,h3,by rw [h4];simp⟩
theorem ref05_plus_eq {p:List Monomial} {m:Monomial} (hB:Bd p) (hm:m.Vars.length≤1000000) (h0:∀ x∈p,x.Coef≠0) (hw:∀ x∈p,x.Vars=m.Vars→w64 (x.Coef+m.Coef)=x.Coef+m.Coef):ref05_plus p m=some (plusM p m):=by
 unfold ref05_plus
 have hbody:∀ (j:Nat) (s:List Monomial×Bool),j<p.length→s.1.length≤2*j → 
  ((ref05_order ((p.getD j ⟨0,[]⟩).Vars) m.Vars).bind fun y183 =>
  ((
   bif s.2 then (
    some (true,false)
   ) else (
    some (false,decide (y183>0))
   )
  ):Option (Bool×Bool)).bind fun v186 =>
  ((
   bif v186.2 then (
    grd ((s.1.length+1)*32≤140737488355328) <|
    some ((s.1++[m]),true)
   ) else (
    some (s.1,v186.1)
   )
  ):Option ((List Monomial)×Bool)).bind fun v199 =>
  ((
   bif v199.2 then (
    some (true,false)
   ) else (
    some (false,(y183==0))
   )
  ):Option (Bool×Bool)).bind fun v210 =>
  ((
   bif v210.2 then (
    some (true,(w64 (((p.getD j ⟨0,[]⟩).Coef)+m.Coef)))
   ) else (
    some (v210.1,((p.getD j ⟨0,[]⟩).Coef))
   )
  ):Option (Bool×Int)).bind fun v219 =>
  ((
   bif (v219.2==0) then (
    some v199.1
   ) else (
    grd ((v199.1.length+1)*32≤140737488355328) <|
    some (v199.1++[(Monomial.mk v219.2 ((p.getD j ⟨0,[]⟩).Vars))])
   )
  ):Option (List Monomial)).bind fun v232 =>
  (some (.go (v232,v219.1)):Option (Stp (List Monomial×Bool) (List Monomial×Bool) Empty)))=some (.go (plS m (p.getD j ⟨0,[]⟩) s)):=by
  intro j s hj hI
  have hpl:=hB.1
  have hxm:=hB.2 _ (monoAt_mem (p:=p) (j:=j) hj)
  obtain ⟨r,e,k1,k2⟩:=order_eq (monoAt p j).Vars m.Vars hxm.1 hm
  rw [show p.getD j ⟨0,[]⟩=monoAt p j from rfl,e]
  generalize monoAt p j=x at k1 k2 ⊢
  obtain ⟨out,put⟩:=s
  have hI:out.length≤2*j:=hI
  obtain ⟨c,V⟩:=x
  have hz:(c==0)=decide (c=0):=rfl
  cases put with
  | true =>
   simp only [bnd_some,cond_true,cond_false]
   unfold plS
   rw [if_pos rfl]
   by_cases h:c=0
   ·rw [beq_iff_eq.2 h,if_pos h];rfl
   ·rw [beq_eq_false_iff_ne.2 h,if_neg h,cond_false,grd_pos (by omega)];rfl
  | false =>
   simp only [bnd_some,cond_false]
   unfold plS
   rw [if_neg (by simp)]
   simp only at k1 k2
   by_cases h1:0<cmpL V m.Vars
   ·rw [decide_eq_true (show r>0 by omega),if_pos h1]
    simp only [cond_true]
    rw [grd_pos (by omega)]
    simp only [bnd_some,cond_true,cond_false]
    by_cases h:c=0
    ·rw [beq_iff_eq.2 h,if_pos h];rfl
    ·rw [beq_eq_false_iff_ne.2 h,if_neg h,cond_false,grd_pos (by simp;omega)];rfl
   ·rw [decide_eq_false (show ¬ r>0 by omega),if_neg h1]
    simp only [bnd_some,cond_false]
    by_cases h2:cmpL V m.Vars=0
    ·rw [beq_iff_eq.2 (k2.2 h2),if_pos h2]
     simp only [bnd_some,cond_true]
     by_cases h:w64 (c+m.Coef)=0
     ·rw [beq_iff_eq.2 h,if_pos h];rfl
     ·rw [beq_eq_false_iff_ne.2 h,if_neg h,cond_false,grd_pos (by omega)];rfl
    ·rw [beq_eq_false_iff_ne.2 (fun e=>h2 (k2.1 e)),if_neg h2]
     simp only [bnd_some,cond_false]
     by_cases h:c=0
     ·rw [beq_iff_eq.2 h,if_pos h];rfl
     ·rw [beq_eq_false_iff_ne.2 h,if_neg h,cond_false,grd_pos (by omega)];rfl
 rw [cnt_list0 (f:=fun s=>s) ⟨0,[]⟩ p (fun x s=>.go (plS m x s)) (fun j s=>s.1.length≤2*j) (fun i s=>rfl) ([],(m.Coef==0)) (by simp) (fun j s hj hI=>⟨hbody j s hj hI,fun s' hs=>by
  cases hs
  have:=plS_len m (p.getD j ⟨0,[]⟩) s
  omega⟩)]
 unfold plusM
 by_cases hz:m.Coef=0
 ·rw [beq_iff_eq.2 hz,if_pos hz,plus_done h0];rfl
 ·rw [beq_eq_false_iff_ne.2 hz,if_neg hz]
  obtain ⟨s,h1,h2⟩:=plus_loop h0 hw []
  rw [h1]
  show (bif s.2 then some s.1 else grd ((s.1.length+1)*32≤140737488355328) <| some (s.1++[m]))=_
  unfold plE at h2
  rw [List.nil_append] at h2
  cases h3:s.2 with
  | true=>rw [h3,if_pos rfl] at h2;rw [← h2];rfl
  | false =>
   rw [h3,if_neg (by simp)] at h2
   have h4:=plusI_len m p
   rw [← h2] at h4 ⊢
   have:=hB.1
   simp only [List.length_append,List.length_singleton] at h4
   rw [cond_false,grd_pos (by omega)]
end Go.Proofs.YtjfpcjnopbfekaaGreatDoor
/- PLAIN LAWS of layer 5: sums, differences and multiples are canonical forms, in the specification too. -/
namespace Go.Proofs.YtjfpcjnopbfekaaGreatDoor
open Go.Ab Go.Sh Go.Sort
theorem valid_c40 {p:List Monomial} (h:validP p=true) {m:Monomial} (hm:m∈p) : -1099511627776≤m.Coef∧m.Coef≤1099511627776:=by
 have:=valid_coef h hm
 unfold okM at this
 simp only [Bool.and_eq_true,decide_eq_true_eq,Bool.not_eq_true',beq_eq_false_iff_ne] at this
 exact ⟨this.2.1,this.2.2.1⟩
theorem ref05_limited_eq {p:List Monomial} (hB:Bd p):ref05_limited p=some (limited p):=by
 unfold ref05_limited limited
 rw [ref05_Valid_eq p hB]
 cases validP p<;>rfl
theorem lim_big {f:List Str→Int} {p:List Monomial} (h:IsCanon f p) {V:List Str} (hb:f V < -1099511627776∨1099511627776<f V):limited p=([],3):=by
 unfold limited
 cases hv:validP p with
 | false=>rfl
 | true =>
  exfalso
  have hm:(⟨f V,V⟩:Monomial)∈p:=(h.mem _).2 ⟨by show f V≠0;omega,rfl⟩
  have:=valid_c40 hv hm
  simp only at this
  omega
theorem coefL_bound {B:Int} (V:List Str):∀ {L:List Ctr},0≤B→(∀ c∈L,-B≤c.2.1*c.2.2∧c.2.1*c.2.2≤B) → -((L.length:Int)*B)≤coefL L V∧coefL L V≤(L.length:Int)*B
 | [],_,_=>by simp [coefL]
 | c::L,h0,h=>by
  have ih:=coefL_bound V (L:=L) h0 fun c hc=>h c (by simp [hc])
  have hc:=h c (by simp)
  have e:(((c::L).length:Nat):Int)*B=(L.length:Int)*B+B:=by
   rw [List.length_cons,Int.natCast_add,Int.add_mul];simp
  rw [e]
  generalize (L.length:Int)*B=X at ih ⊢
  unfold coefL
  split<;>omega
theorem canon_src {L:List Ctr} {p:List Monomial} (h:IsCanon (coefL L) p) {m:Monomial} (hm:m∈p):∃ c∈L,c.1=m.Vars:=by
 have:=(h.mem m).1 hm
 exact coefL_mem (by rw [← this.2];exact this.1)
def bdV (V:List Str):Prop:=V.length≤1000000∧∀ v∈V,v.length≤1000000
theorem canon_Bd {L:List Ctr} {p:List Monomial} (h:IsCanon (coefL L) p) (hl:p.length≤1000000) (hL:∀ c∈L,bdV c.1):Bd p:=⟨hl,fun m hm=>by
 obtain ⟨c,hc,e⟩:=canon_src h hm
 have:=hL c hc
 rw [e] at this
 exact this⟩
theorem okMo_bdV {m:Monomial} (h:okMo m):bdV m.Vars:=⟨by have:=h.1.1;omega,fun v hv=>by have:=(h.1.2 v hv).2;omega⟩
theorem times_eq {a b:List Monomial} {k:Int} (hk:k=1∨k = -1) (hva:validP a=true) (hvb:validP b=true):∃ p,IsCanon (coefL (a.map (ctrP 1)++b.map (ctrP k))) p∧Bd p∧ref05_times a b k=some p:=by
 have oa:=valid_okP hva
 have ob:=valid_okP hvb
 have ha60:=oa.1
 have hb60:=ob.1
 have hbd:∀ c∈a.map (ctrP 1)++b.map (ctrP k),bdV c.1:=fun c hc=>by
  rcases List.mem_append.1 hc with hc | hc
  ·obtain ⟨n,hn,rfl⟩:=List.mem_map.1 hc;exact okMo_bdV (oa.2 n hn)
  ·obtain ⟨n,hn,rfl⟩:=List.mem_map.1 hc;exact okMo_bdV (ob.2 n hn)
 have hsmall:∀ c∈a.map (ctrP 1)++b.map (ctrP k),-1099511627776≤c.2.1*c.2.2∧c.2.1*c.2.2≤1099511627776:=fun c hc=>by
  rcases List.mem_append.1 hc with hc | hc
  ·obtain ⟨n,hn,rfl⟩:=List.mem_map.1 hc
   have:=valid_c40 hva hn
   show -1099511627776≤n.Coef*1∧n.Coef*1≤1099511627776
   omega
  ·obtain ⟨n,hn,rfl⟩:=List.mem_map.1 hc
   have:=valid_c40 hvb hn
   show -1099511627776≤n.Coef*k∧n.Coef*k≤1099511627776
   rcases hk with rfl | rfl<;>omega
 unfold ref05_times
 rw [grd_pos (by omega)]
 have hsub:∀ j,∀ c∈a.map (ctrP 1)++(b.take j).map (ctrP k),c∈a.map (ctrP 1)++b.map (ctrP k):=fun j c hc=>by
  rcases List.mem_append.1 hc with hc | hc
  ·exact List.mem_append.2 (.inl hc)
  ·obtain ⟨n,hn,rfl⟩:=List.mem_map.1 hc
   exact List.mem_append.2 (.inr (List.mem_map.2 ⟨n,List.mem_of_mem_take hn,rfl⟩))
 obtain ⟨s',e,hI⟩:=cnt_inv (ρ:=Empty) (σ:=List Monomial) (ε:=List Monomial) (body:=fun i24 s23 =>
  (ref05_plus s23 (Monomial.mk (w64 (k*((b.getD i24 ⟨0,[]⟩).Coef))) ((b.getD i24 ⟨0,[]⟩).Vars))).bind fun y49 =>
  some (.go y49)) (fin:=fun i24 s23=>s23)
  (fun j s=>IsCanon (coefL (a.map (ctrP 1)++(b.take j).map (ctrP k))) s∧s.length≤60+j) (b.length-0) 0 a (by
   simp only [List.take_zero,List.map_nil,List.append_nil]
   exact ⟨canon_self hva,by omega⟩) (fun j s _ hj ⟨hI,hl⟩=>by
   have hjb:j<b.length:=by omega
   have hm:=monoAt_mem (p:=b) (j:=j) hjb
   have hc:=valid_c40 hvb hm
   have hkc:w64 (k*(monoAt b j).Coef)=(monoAt b j).Coef*k:=by
    rcases hk with rfl | rfl
    ·rw [w64_same (by omega) (by omega)];omega
    ·rw [w64_same (by omega) (by omega)];omega
   have e1:ref05_plus s ⟨w64 (k*(monoAt b j).Coef),(monoAt b j).Vars⟩=some (plusM s ⟨w64 (k*(monoAt b j).Coef),(monoAt b j).Vars⟩):=by
    refine ref05_plus_eq (canon_Bd hI (by omega) fun c hc=>hbd c (hsub j c hc)) (okMo_bdV (ob.2 _ hm)).1 (fun x hx=>((hI.mem x).1 hx).1) fun x hx _ => ?_
    have h1:=((hI.mem x).1 hx).2
    have h2:=coefL_bound (B:=1099511627776) x.Vars (by omega) (fun c hc=>hsmall c (hsub j c hc))
    have hlen:(a.map (ctrP 1)++(b.take j).map (ctrP k)).length≤120:=by
     simp only [List.length_append,List.length_map,List.length_take];omega
    rw [← h1] at h2
    simp only [hkc]
    generalize (a.map (ctrP 1)++(b.take j).map (ctrP k)).length=len at h2 hlen
    rcases hk with rfl | rfl
    ·exact w64_same (by omega) (by omega)
    ·exact w64_same (by omega) (by omega)
   refine ⟨plusM s ⟨w64 (k*(monoAt b j).Coef),(monoAt b j).Vars⟩,?_,?_,?_⟩
   ·show (ref05_plus s ⟨w64 (k*(monoAt b j).Coef),(monoAt b j).Vars⟩).bind _=_
    rw [e1];rfl
   ·rw [take1M b j hjb,List.map_append,← List.append_assoc]
    have:=plus_canon hI (m:=⟨w64 (k*(monoAt b j).Coef),(monoAt b j).Vars⟩) (a:=(monoAt b j).Coef) (b:=k) hkc
    exact this
   ·have:=plusM_len s ⟨w64 (k*(monoAt b j).Coef),(monoAt b j).Vars⟩
    omega)
 rw [Nat.zero_add,Nat.sub_zero,List.take_length] at hI
 refine ⟨s',hI.1,canon_Bd hI.1 (by have:=hI.2;omega) hbd,?_⟩
 rw [e];rfl
theorem ctr1_P {a:List Monomial} (h:validP a=true) (k:Int):a.map (ctr1 k)=a.map (ctrP k) :=
 List.map_congr_left fun m hm=>by unfold ctr1 ctrP;rw [valid_sorted h m hm]
theorem poly_Sub_eq {a b:List Monomial} (ha:Bd a) (hb:Bd b) (hva:validP a=true) (hvb:validP b=true):∃ p,IsCanon (coefL (a.map (ctr1 1)++b.map (ctr1 (-1)))) p∧Bd p∧poly_Sub a b=some (limited p):=by
 have oa:=valid_okP hva
 have ob:=valid_okP hvb
 have h1:inB 1=true:=rfl
 have h2:inB (-1)=true:=rfl
 have ok1:∀ c∈a.map (ctr1 1),okT c:=fun c hc=>by obtain ⟨n,hn,rfl⟩:=List.mem_map.1 hc;exact ctr1_ok (oa.2 n hn) h1
 have ok2:∀ c∈b.map (ctr1 (-1)),okT c:=fun c hc=>by obtain ⟨n,hn,rfl⟩:=List.mem_map.1 hc;exact ctr1_ok (ob.2 n hn) h2
 obtain ⟨y,e,hs⟩:=pairs1_run (s:=([],[],[])) SumSt.nil (fun c hc=>(by cases hc)) oa h1 (by simp)
 rw [List.nil_append] at hs
 obtain ⟨z,e2,hs2⟩:=pairs1_run hs ok1 ob h2 (by rw [List.length_map];have:=oa.1;omega)
 obtain ⟨p,k1,k2,k3⟩:=result_ctr hs2 (fun c hc=>by
  rcases List.mem_append.1 hc with hc | hc
  ·exact ok1 c hc
  ·exact ok2 c hc) (by
  have:=oa.1;have:=ob.1
  simp only [List.length_append,List.length_map];omega)
 refine ⟨p,k1,k2,?_⟩
 unfold poly_Sub poly_combine
 rw [show poly_newSum=some ([],[],[]) from rfl]
 simp only [bnd_some]
 have ec:cnt (σ:=MV×MI×MI) (ε:=MV×MI×MI) (ρ:=List Monomial×Int) (fun i45 s44 =>
  (poly_Valid ([a,b].getD i45 [])).bind fun y79 =>
  bif y79 then (
   grd (i45≤(i45+1)∧(i45+1)≤([1,(-1)]:List Int).length) <|
   (poly_pairs_int ([a,b].getD i45 []) ((([1,(-1)]:List Int).drop i45).take ((i45+1)-i45)) s44.1 s44.2.1 s44.2.2).bind fun y92 =>
   some (.go (y92.1,y92.2.1,y92.2.2))
  ) else (
   some (.ret ([],1))
  )
 ) (fun i45 s44=>(s44.1,s44.2.1,s44.2.2)) (([a,b]:List (List Monomial)).length-0) 0 ([],[],[])=some (.brk z):=by
  show (((poly_Valid a).bind fun y79=>_).bind _)=_
  rw [poly_Valid_eq a ha,hva]
  simp only [bnd_some,cond_true]
  rw [grd_pos (by simp)]
  rw [show (([1,(-1)]:List Int).drop 0).take (0+1-0)=[1] from rfl,show [a,b].getD 0 []=a from rfl,e]
  simp only [bnd_some,stp]
  show (((poly_Valid b).bind fun y79=>_).bind _)=_
  rw [poly_Valid_eq b hb,hvb]
  simp only [bnd_some,cond_true]
  rw [grd_pos (by simp)]
  rw [show (([1,(-1)]:List Int).drop (0+1)).take (0+1+1-(0+1))=[(-1)] from rfl,show [a,b].getD (0+1) []=b from rfl,e2]
  rfl
 rw [ec]
 simp only [bnd_some,Sh.aft]
 rw [k3];rfl
theorem combine2_bad {a b:List Monomial} {k:Int} (ha:Bd a) (hb:Bd b) (h:validP a=false∨validP b=false):poly_combine [a,b] [1,k]=some ([],1):=by
 unfold poly_combine
 rw [show poly_newSum=some ([],[],[]) from rfl]
 simp only [bnd_some]
 cases hva:validP a with
 | false =>
  show (((poly_Valid a).bind fun y79=>_).bind _).bind _=_
  rw [poly_Valid_eq a ha,hva];rfl
 | true =>
  have hvb:validP b=false:=by
   rcases h with h | h
   ·rw [hva] at h;cases h
   ·exact h
  have oa:=valid_okP hva
  obtain ⟨y,e,hs⟩:=pairs1_run (k:=1) (s:=([],[],[])) SumSt.nil (fun c hc=>(by cases hc)) oa rfl (by simp)
  show (((poly_Valid a).bind fun y79=>_).bind _).bind _=_
  rw [poly_Valid_eq a ha,hva]
  simp only [bnd_some,cond_true]
  rw [grd_pos (by simp)]
  rw [show (([1,k]:List Int).drop 0).take (0+1-0)=[1] from rfl,show [a,b].getD 0 []=a from rfl,e]
  simp only [bnd_some,stp]
  show (((poly_Valid b).bind fun y79=>_).bind _).bind _=_
  rw [poly_Valid_eq b hb,hvb];rfl
theorem sums_add {a b:List Monomial} (ha:Bd a) (hb:Bd b):∃ r,poly_Add a b=some r∧ref05_Add a b=some r:=by
 cases hva:validP a with
 | false =>
  refine ⟨([],1),?_,?_⟩
  ·unfold poly_Add;rw [combine2_bad ha hb (.inl hva)];rfl
  ·unfold ref05_Add;rw [ref05_Valid_eq a ha,hva];rfl
 | true =>
  cases hvb:validP b with
  | false =>
   refine ⟨([],1),?_,?_⟩
   ·unfold poly_Add;rw [combine2_bad ha hb (.inr hvb)];rfl
   ·unfold ref05_Add;rw [ref05_Valid_eq a ha,hva,ref05_Valid_eq b hb,hvb];rfl
  | true =>
   obtain ⟨p,h1,_,h2⟩:=poly_Add_eq ha hb hva hvb
   obtain ⟨q,h3,h4,h5⟩:=times_eq (.inl rfl) hva hvb
   rw [ctr1_P hva,ctr1_P hvb] at h1
   have:=IsCanon.uniq h1 h3
   subst this
   refine ⟨limited p,h2,?_⟩
   unfold ref05_Add
   rw [ref05_Valid_eq a ha,hva,ref05_Valid_eq b hb,hvb]
   simp only [bnd_some,cond_true]
   rw [h5]
   simp only [bnd_some]
   rw [ref05_limited_eq h4];rfl
theorem sums_sub {a b:List Monomial} (ha:Bd a) (hb:Bd b):∃ r,poly_Sub a b=some r∧ref05_Sub a b=some r:=by
 cases hva:validP a with
 | false =>
  refine ⟨([],1),?_,?_⟩
  ·unfold poly_Sub;rw [combine2_bad ha hb (.inl hva)];rfl
  ·unfold ref05_Sub;rw [ref05_Valid_eq a ha,hva];rfl
 | true =>
  cases hvb:validP b with
  | false =>
   refine ⟨([],1),?_,?_⟩
   ·unfold poly_Sub;rw [combine2_bad ha hb (.inr hvb)];rfl
   ·unfold ref05_Sub;rw [ref05_Valid_eq a ha,hva,ref05_Valid_eq b hb,hvb];rfl
  | true =>
   obtain ⟨p,h1,_,h2⟩:=poly_Sub_eq ha hb hva hvb
   obtain ⟨q,h3,h4,h5⟩:=times_eq (.inr rfl) hva hvb
   rw [ctr1_P hva,ctr1_P hvb] at h1
   have:=IsCanon.uniq h1 h3
   subst this
   refine ⟨limited p,h2,?_⟩
   unfold ref05_Sub
   rw [ref05_Valid_eq a ha,hva,ref05_Valid_eq b hb,hvb]
   simp only [bnd_some,cond_true]
   rw [h5]
   simp only [bnd_some]
   rw [ref05_limited_eq h4];rfl
end Go.Proofs.YtjfpcjnopbfekaaGreatDoor
/- PLAIN LAWS of layer 5: multiples. -/
namespace Go.Sh
theorem cnt_stop {σ ε ρ:Type} {body:Nat→σ→Option (Stp σ ε ρ)} {fin:Nat→σ→ε} (I:Nat→σ→Prop) (r:ρ) (Bad:Prop):∀ (k i:Nat) (s:σ),I i s →
 (∀ j s,i≤j→j<i+k→I j s→(∃ s',body j s=some (.go s')∧I (j+1) s')∨(body j s=some (.ret r)∧Bad)) →
 (∃ s',cnt body fin k i s=some (.brk (fin (i+k) s'))∧I (i+k) s')∨(cnt body fin k i s=some (.ret r)∧Bad)
 | 0,i,s,hI,h=>.inl ⟨s,by simp [cnt],hI⟩
 | k+1,i,s,hI,h=>by
  rcases h i s (Nat.le_refl _) (by omega) hI with ⟨s1,h1,h2⟩ | ⟨h1,h2⟩
  ·rcases cnt_stop I r Bad k (i+1) s1 h2 (fun j s h1 h2=>h j s (by omega) (by omega)) with ⟨s',e1,e3⟩ | ⟨e1,e2⟩
   ·refine .inl ⟨s',?_,by rw [show i+(k+1)=i+1+k by omega];exact e3⟩
    simp only [cnt,h1,Option.bind_some,stp]
    rw [e1,show i+1+k=i+(k+1) by omega]
   ·refine .inr ⟨?_,e2⟩
    simp only [cnt,h1,Option.bind_some,stp]
    exact e1
  ·exact .inr ⟨by simp [cnt,h1,stp],h2⟩
end Go.Sh
namespace Go.Proofs.YtjfpcjnopbfekaaGreatDoor
open Go.Ab Go.Sh Go.Sort
def clampK (k:Int):Int:=if (if 1099511627777<k then 1099511627777 else k)>(-1099511627777) then (if 1099511627777<k then 1099511627777 else k) else (-1099511627777)
theorem clampK_in (k:Int):inB (clampK k)=true:=by
 rw [inB_iff];unfold clampK
 repeat' split
 all_goals omega
theorem clampK_same {k:Int} (h : -1099511627777≤k∧k≤1099511627777):clampK k=k:=by
 unfold clampK
 repeat' split
 all_goals omega
theorem clampK_out {k:Int} (h:¬ (-1099511627777≤k∧k≤1099511627777)):clampK k=1099511627777∨clampK k = -1099511627777:=by
 unfold clampK
 repeat' split
 all_goals omega
theorem poly_Scale_eq {a:List Monomial} (ha:Bd a) (hva:validP a=true) (k:Int):∃ p,IsCanon (coefL (a.map (ctr1 (clampK k)))) p∧Bd p∧poly_Scale a k=some (limited p):=by
 have oa:=valid_okP hva
 have h1:=clampK_in k
 have ok1:∀ c∈a.map (ctr1 (clampK k)),okT c:=fun c hc=>by obtain ⟨n,hn,rfl⟩:=List.mem_map.1 hc;exact ctr1_ok (oa.2 n hn) h1
 obtain ⟨y,e,hs⟩:=pairs1_run (s:=([],[],[])) SumSt.nil (fun c hc=>(by cases hc)) oa h1 (by simp)
 rw [List.nil_append] at hs
 obtain ⟨p,k1,k2,k3⟩:=result_ctr hs ok1 (by have:=oa.1;rw [List.length_map];omega)
 refine ⟨p,k1,k2,?_⟩
 unfold poly_Scale
 show (poly_combine [a] [clampK k]).bind _=_
 unfold poly_combine
 rw [show poly_newSum=some ([],[],[]) from rfl]
 simp only [bnd_some]
 show ((((poly_Valid a).bind fun y79=>_).bind _).bind _).bind _=_
 rw [poly_Valid_eq a ha,hva]
 simp only [bnd_some,cond_true]
 rw [grd_pos (by simp)]
 rw [show (([clampK k]:List Int).drop 0).take (0+1-0)=[clampK k] from rfl,show [a].getD 0 []=a from rfl,e]
 simp only [bnd_some,stp]
 show ((poly_sum_result y.1 y.2.1 y.2.2).bind fun y103=>some (y103.1,y103.2)).bind _=_
 rw [k3];rfl
theorem poly_Scale_bad {a:List Monomial} (ha:Bd a) (hva:validP a=false) (k:Int):poly_Scale a k=some ([],1):=by
 unfold poly_Scale poly_combine
 rw [show poly_newSum=some ([],[],[]) from rfl]
 simp only [bnd_some]
 show ((((poly_Valid a).bind fun y79=>_).bind _).bind _).bind _=_
 rw [poly_Valid_eq a ha,hva];rfl
theorem coef_k {a:List Monomial} (hva:validP a=true) {m:Monomial} (hm:m∈a) (k:Int):coefL (a.map (ctrP k)) m.Vars=m.Coef*k:=by
 have h:=canon_self hva
 rw [coef_of h k m.Vars,← ((h.mem m).1 hm).2]
theorem mul_far {c k:Int} (hc:c≠0) (hk:1099511627777≤k∨k ≤ -1099511627777):c*k < -1099511627776∨1099511627776<c*k:=by
 have h1:(1099511627777:Int)≤(c*k).natAbs:=by
  rw [Int.natAbs_mul]
  have h2:1≤c.natAbs:=by omega
  have h3:1099511627777≤k.natAbs:=by omega
  have:=Nat.mul_le_mul h2 h3
  omega
 omega
theorem scale_same {a:List Monomial} (ha:Bd a) (k:Int):∃ r,poly_Scale a k=some r∧ref05_Scale a k=some r:=by
 cases hva:validP a with
 | false =>
  refine ⟨([],1),poly_Scale_bad ha hva k,?_⟩
  unfold ref05_Scale
  rw [ref05_Valid_eq a ha,hva];rfl
 | true =>
  have oa:=valid_okP hva
  have ha60:=oa.1
  obtain ⟨p,h1,hBp,h2⟩:=poly_Scale_eq ha hva k
  rw [ctr1_P hva] at h1
  refine ⟨limited p,h2,?_⟩
  unfold ref05_Scale
  rw [ref05_Valid_eq a ha,hva]
  simp only [bnd_some,cond_true]
  cases a with
  | nil =>
   have:p=[]:=canon_nil h1 fun V=>rfl
   subst this
   rfl
  | cons m0 r0 =>
   generalize ha0:(m0::r0:List Monomial)=a at *
   have hm0:m0∈a:=by rw [← ha0];simp
   have hlen:(((a.length:Nat):Int)==0)=false:=by rw [← ha0];simp;omega
   rw [hlen]
   simp only [cond_false]
   have hst:=valid_st hva
   have hsub:∀ j,∀ c∈(a.take j).map (ctrP k),bdV c.1:=fun j c hc=>by
    obtain ⟨n,hn,rfl⟩:=List.mem_map.1 hc
    exact okMo_bdV (oa.2 n (List.mem_of_mem_take hn))
   rcases cnt_stop (σ:=List Monomial) (ε:=List Monomial) (ρ:=List Monomial×Int) (body:=fun i48 s47 =>
    (ref03_Mul ((a.getD i48 ⟨0,[]⟩).Coef) k).bind fun y80 =>
    bif (y80.2==0) then (
     (ref05_plus s47 (Monomial.mk y80.1 ((a.getD i48 ⟨0,[]⟩).Vars))).bind fun y87 =>
     some (.go y87)
    ) else (
     some (.ret ([],3))
    )) (fin:=fun i48 s47=>s47)
    (fun j s=>IsCanon (coefL ((a.take j).map (ctrP k))) s∧s.length≤j) ([],3) (∃ m∈a,¬ (inB k=true∧inB (m.Coef*k)=true)) (a.length-0) 0 [] ⟨⟨by simp,fun m=>by simp [coefL]⟩,Nat.le_refl _⟩ (fun j s _ hj ⟨hI,hl⟩=>by
     have hjb:j<a.length:=by omega
     have hm:=monoAt_mem (p:=a) (j:=j) hjb
     have hcB:=(oa.2 _ hm).2
     have hmul:ref03_Mul ((a.getD j ⟨0,[]⟩).Coef) k=some (mulR (monoAt a j).Coef k):=ref03_Mul_eq _ _
     by_cases hok:inB k=true∧inB ((monoAt a j).Coef*k)=true
     ·left
      have hr:mulR (monoAt a j).Coef k=((monoAt a j).Coef*k,0):=by
       unfold mulR;rw [hcB,hok.1,hok.2];rfl
      have e1:ref05_plus s ⟨(monoAt a j).Coef*k,(monoAt a j).Vars⟩=some (plusM s ⟨(monoAt a j).Coef*k,(monoAt a j).Vars⟩):=by
       refine ref05_plus_eq (canon_Bd hI (by omega) (hsub j)) (okMo_bdV (oa.2 _ hm)).1 (fun x hx=>((hI.mem x).1 hx).1) fun x hx ex => ?_
       exfalso
       obtain ⟨c,hc,e⟩:=canon_src hI hx
       obtain ⟨n,hn,rfl⟩:=List.mem_map.1 hc
       have e:n.Vars=x.Vars:=e
       have ex:x.Vars=(monoAt a j).Vars:=ex
       obtain ⟨i,hi,rfl⟩:=List.getElem_of_mem hn
       rw [List.getElem_take] at e
       have hi2:i<j:=by simp at hi;omega
       have:=List.pairwise_iff_getElem.1 hst i j (by omega) hjb hi2
       rw [← monoAt_eq hjb] at this
       unfold ltM at this
       rw [e,ex,cmpL_self] at this
       omega
      refine ⟨plusM s ⟨(monoAt a j).Coef*k,(monoAt a j).Vars⟩,?_,?_,?_⟩
      ·simp only [hmul,bnd_some,hr]
       show (ref05_plus s ⟨(monoAt a j).Coef*k,(monoAt a j).Vars⟩).bind _=_
       rw [e1];rfl
      ·rw [take1M a j hjb,List.map_append]
       exact plus_canon hI (m:=⟨(monoAt a j).Coef*k,(monoAt a j).Vars⟩) (a:=(monoAt a j).Coef) (b:=k) rfl
      ·have:=plusM_len s ⟨(monoAt a j).Coef*k,(monoAt a j).Vars⟩
       omega
     ·right
      refine ⟨?_,_,hm,hok⟩
      have hr:(mulR (monoAt a j).Coef k).2=2:=by
       unfold mulR
       rw [hcB]
       cases hk1:inB k with
       | false=>rfl
       | true =>
        cases hk2:inB ((monoAt a j).Coef*k) with
        | false=>rfl
        | true=>exact absurd ⟨hk1,hk2⟩ hok
      simp only [hmul,bnd_some]
      rw [hr];rfl) with ⟨s',e,hI,hl⟩ | ⟨e,m,hm,hbad⟩
   ·rw [e]
    rw [Nat.zero_add,Nat.sub_zero,List.take_length] at hI
    rw [Nat.zero_add,Nat.sub_zero] at hl
    show (ref05_limited s').bind _=_
    rw [ref05_limited_eq (canon_Bd hI (by omega) (fun c hc=>by have:=hsub a.length;rw [List.take_length] at this;exact this c hc))]
    by_cases hk : -1099511627777≤k∧k≤1099511627777
    ·rw [clampK_same hk] at h1
     rw [IsCanon.uniq h1 hI];rfl
    ·have hc0:=(valid_len hva hm0).2
     have e1:=lim_big h1 (V:=m0.Vars) (by
      rw [coef_k hva hm0]
      exact mul_far hc0 (by rcases clampK_out hk with h | h<;>omega))
     have e2:=lim_big hI (V:=m0.Vars) (by
      rw [coef_k hva hm0]
      exact mul_far hc0 (by omega))
     rw [e1,e2];rfl
   ·rw [e]
    show some (([],3):List Monomial×Int)=some (limited p)
    have hc0:=(valid_len hva hm).2
    rw [lim_big h1 (V:=m.Vars)]
    rw [coef_k hva hm]
    by_cases hk : -1099511627777≤k∧k≤1099511627777
    ·rw [clampK_same hk]
     have hkB:inB k=true:=inB_iff.2 (by omega)
     have h9:¬ inB (m.Coef*k)=true:=fun h=>hbad ⟨hkB,h⟩
     rw [inB_iff] at h9
     omega
    ·exact mul_far hc0 (by rcases clampK_out hk with h | h<;>omega)
end Go.Proofs.YtjfpcjnopbfekaaGreatDoor
/- PLAIN LAWS of layer 5: the specification's products. -/
namespace Go.Proofs.YtjfpcjnopbfekaaGreatDoor
open Go.Ab Go.Sh Go.Sort
theorem leS_eq (x y:Str):(Op.bytesLess x y||x==y)=leS x y:=by
 rw [le_flip]
 unfold leS
 cases h:Op.bytesLess y x with
 | true =>
  have:=(cb_lt y x).2 h
  simp [List.not_le.2 this]
 | false =>
  have:¬ y<x:=fun e=>by rw [(cb_lt y x).1 e] at h;cases h
  simp [List.not_lt.1 this]
theorem drop_ge {α:Type} {l:List α} {i:Nat} (h:l.length≤i):l.drop i=[]:=List.drop_eq_nil_of_le h
theorem ref05_join_eq {A B:List Str} (hA:A.Pairwise (fun a b=>leS a b=true)) (hB:B.Pairwise (fun a b=>leS a b=true)) (h1:A.length≤1000) (h2:B.length≤1000):ref05_join A B=some (sortI (A++B)):=by
 have hm:List.merge A B leS=sortI (A++B):=by
  rw [← sortS_eq]
  exact (sort_eq (List.pairwise_merge leS_trans leS_total A B hA hB) (List.merge_perm_append leS)).symm
 unfold ref05_join
 generalize hb:(fun (s186:(List Str)×Int×Int)=>_:(List Str)×Int×Int→Option (Stp ((List Str)×Int×Int) (List Str) Empty))=body
 have e0:∀ (out:List Str) (i k:Nat),i≤A.length→k≤B.length→out.length≤i+k→body (out,((i:Nat):Int),((k:Nat):Int))=some (if i<A.length∧(k<B.length→leS (A.getD i []) (B.getD k [])=true) then .go (out++[A.getD i []],((i+1:Nat):Int),((k:Nat):Int)) else if k<B.length then .go (out++[B.getD k []],((i:Nat):Int),((k+1:Nat):Int)) else .brk out):=by
  intro out i k hi hk hl
  rw [← hb]
  have w1:w64 (((i:Nat):Int)+1)=((i+1:Nat):Int):=by rw [w64_same (by omega) (by omega)];omega
  have w2:w64 (((k:Nat):Int)+1)=((k+1:Nat):Int):=by rw [w64_same (by omega) (by omega)];omega
  simp only [w1,w2,Int.toNat_natCast,leS_eq]
  by_cases ci:i<A.length
  ·rw [decide_eq_true (show ((i:Nat):Int)<((A.length:Nat):Int) by omega)]
   simp only [cond_true,bnd_some,Sh.aft]
   by_cases ck:k<B.length
   ·rw [beq_eq_false_iff_ne.2 (show ((k:Nat):Int)≠((B.length:Nat):Int) by omega)]
    simp only [cond_false]
    rw [grd_pos (by omega),grd_pos (by omega)]
    simp only [bnd_some]
    cases hl:leS (A.getD i []) (B.getD k []) with
    | true =>
     rw [if_pos ⟨ci,fun _=>rfl⟩]
     simp only [cond_true]
     rw [grd_pos (by omega),grd_pos (by omega)]
    | false =>
     rw [if_neg (fun h=>by have:=h.2 ck;cases this),if_pos ck]
     simp only [cond_false]
     rw [grd_pos (by omega),grd_pos (by omega)]
   ·rw [beq_iff_eq.2 (show ((k:Nat):Int)=((B.length:Nat):Int) by omega)]
    simp only [cond_true,bnd_some]
    rw [if_pos ⟨ci,fun h=>absurd h ck⟩,grd_pos (by omega),grd_pos (by omega)]
  ·rw [decide_eq_false (show ¬ ((i:Nat):Int)<((A.length:Nat):Int) by omega),if_neg (fun h=>ci h.1)]
   simp only [cond_false]
   by_cases ck:k<B.length
   ·rw [decide_eq_true (show ((k:Nat):Int)<((B.length:Nat):Int) by omega),if_pos ck]
    simp only [cond_true,bnd_some,Sh.aft]
    rw [beq_eq_false_iff_ne.2 (show ((k:Nat):Int)≠((B.length:Nat):Int) by omega)]
    simp only [cond_false,bnd_some]
    rw [grd_pos (by omega),grd_pos (by omega)]
   ·rw [decide_eq_false (show ¬ ((k:Nat):Int)<((B.length:Nat):Int) by omega),if_neg ck]
    rfl
 have key:∀ (n i k fuel:Nat) (out:List Str),i≤A.length→k≤B.length→(A.length-i)+(B.length-k)=n→out.length≤i+k→n<fuel→whl body fuel (out,((i:Nat):Int),((k:Nat):Int))=some (.brk (out++List.merge (A.drop i) (B.drop k) leS)):=by
  intro n
  induction n with
  | zero =>
   intro i k fuel out hi hk hn hl hf
   obtain ⟨f,rfl⟩:∃ f,fuel=f+1:=⟨fuel-1,by omega⟩
   simp only [whl,e0 out i k hi hk hl]
   rw [if_neg (by omega),if_neg (by omega),drop_ge (l:=A) (by omega),drop_ge (l:=B) (by omega)]
   simp [stp]
  | succ n ih =>
   intro i k fuel out hi hk hn hl hf
   obtain ⟨f,rfl⟩:∃ f,fuel=f+1:=⟨fuel-1,by omega⟩
   simp only [whl,e0 out i k hi hk hl]
   by_cases ci:i<A.length
   ·have dA:=drop_cons ci
    by_cases ck:k<B.length
    ·have dB:=drop_cons ck
     by_cases hc:leS (A.getD i []) (B.getD k [])=true
     ·rw [if_pos ⟨ci,fun _=>hc⟩]
      simp only [bnd_some,stp]
      rw [ih (i+1) k f _ (by omega) hk (by omega) (by simp;omega) (by omega),dA,dB,List.cons_merge_cons,if_pos hc]
      simp
     ·rw [if_neg (fun h=>hc (h.2 ck)),if_pos ck]
      simp only [bnd_some,stp]
      rw [ih i (k+1) f _ hi (by omega) (by omega) (by simp;omega) (by omega),dA,dB,List.cons_merge_cons,if_neg hc]
      simp
    ·rw [if_pos ⟨ci,fun h=>absurd h ck⟩]
     simp only [bnd_some,stp]
     rw [ih (i+1) k f _ (by omega) hk (by omega) (by simp;omega) (by omega),dA,drop_ge (l:=B) (by omega)]
     simp
   ·have ck:k<B.length:=by omega
    have dB:=drop_cons ck
    rw [if_neg (fun h=>ci h.1),if_pos ck]
    simp only [bnd_some,stp]
    rw [ih i (k+1) f _ hi (by omega) (by omega) (by simp;omega) (by omega),dB,drop_ge (l:=A) (by omega)]
    simp
 have:=key (A.length+B.length) 0 0 4294967296 [] (Nat.zero_le _) (Nat.zero_le _) (by omega) (Nat.zero_le _) (by omega)
 rw [show ((([]:List Str),0,0):(List Str)×Int×Int)=([],((0:Nat):Int),((0:Nat):Int)) from rfl,this]
 rw [List.drop_zero,List.drop_zero,hm]
 rfl
/-! ### the lists of factors -/
theorem asL_snoc (L:List Ctr) (c:Ctr) (V:List Str):asL (L++[c]) V=asL L V++(if c.1=V then [c.2.1] else [])∧bsL (L++[c]) V=bsL L V++(if c.1=V then [c.2.2] else []):=by
 unfold asL bsL
 rw [List.filter_append,List.map_append,List.map_append]
 by_cases h:c.1=V
 ·simp [h]
 ·simp [h]
theorem nd_inj {α:Type} {l:List α} (hn:l.Nodup) {i j:Nat} (hi:i<l.length) (hj:j<l.length) (e:l[i]=l[j]):i=j:=by
 have hp:=List.pairwise_iff_getElem.1 hn
 rcases Nat.lt_trichotomy i j with h | h | h
 ·exact absurd e (hp i j hi hj h)
 ·exact h
 ·exact absurd e.symm (hp j i hj hi h)
theorem map_set_nodup {α β:Type} {l:List α} (hn:l.Nodup) {n:Nat} (h:n<l.length) (f g:α→β) (hg:∀ W∈l,W≠l[n]→g W=f W):(l.map f).set n (g l[n])=l.map g:=by
 refine List.ext_getElem (by simp) fun i h1 h2 => ?_
 have hi:i<l.length:=by simpa using h2
 rw [List.getElem_set,List.getElem_map]
 by_cases e:n=i
 ·subst e;simp
 ·rw [if_neg e,List.getElem_map]
  exact (hg _ (List.getElem_mem hi) (fun h3=>e (nd_inj hn hi h h3).symm)).symm
abbrev S3:=(List (List Str))×(List (List Int))×(List (List Int))
structure MSt (L:List Ctr) (s:S3):Prop where
 nd:s.1.Nodup
 al:∀ c∈L,c.1∈s.1
 sr:∀ V∈s.1,∃ c∈L,c.1=V
 ls:s.2.2=s.1.map (asL L)
 rs:s.2.1=s.1.map (bsL L)
 ln:s.1.length≤L.length
theorem MSt.nil:MSt [] ([],[],[]):=⟨by simp,fun c hc=>(by cases hc),fun V hV=>(by cases hV),rfl,rfl,Nat.le_refl _⟩
def grown (s:S3) (V:List Str):S3:=if V∈s.1 then s else (s.1++[V],s.2.1++[[]],s.2.2++[[]])
theorem grown_st {L:List Ctr} {s:S3} (h:MSt L s) (V:List Str):(grown s V).1.Nodup∧V∈(grown s V).1∧(∀ c∈L,c.1∈(grown s V).1)∧(∀ W∈(grown s V).1,W=V∨∃ c∈L,c.1=W)∧(grown s V).2.2=(grown s V).1.map (asL L)∧(grown s V).2.1=(grown s V).1.map (bsL L)∧(grown s V).1.length≤L.length+1:=by
 unfold grown
 by_cases hV:V∈s.1
 ·rw [if_pos hV]
  exact ⟨h.nd,hV,h.al,fun W hW=>.inr (h.sr W hW),h.ls,h.rs,by have:=h.ln;omega⟩
 ·rw [if_neg hV]
  have hno:∀ c∈L,c.1≠V:=fun c hc e=>hV (by rw [← e];exact h.al c hc)
  have ea:asL L V=[]:=by
   unfold asL
   rw [List.filter_eq_nil_iff.2 (fun c hc=>by simp [hno c hc])];rfl
  have eb:bsL L V=[]:=by
   unfold bsL
   rw [List.filter_eq_nil_iff.2 (fun c hc=>by simp [hno c hc])];rfl
  refine ⟨?_,by simp,fun c hc=>by simp [h.al c hc],fun W hW => ?_,by simp [h.ls,ea],by simp [h.rs,eb],by simp;exact h.ln⟩
  ·rw [List.nodup_append]
   refine ⟨h.nd,by simp,fun a ha b hb e => ?_⟩
   have:b=V:=by simpa using hb
   rw [e,this] at ha;exact hV ha
  ·rcases List.mem_append.1 hW with hW | hW
   ·exact .inr (h.sr W hW)
   ·exact .inl (by simpa using hW)
theorem put_st {L:List Ctr} {s:S3} (h:MSt L s) {V:List Str} {n:Nat} (a b:Int) (hn:n<(grown s V).1.length) (hV:(grown s V).1[n]=V) :
 MSt (L++[(V,a,b)]) ((grown s V).1,(grown s V).2.1.set n ((grown s V).2.1.getD n []++[b]),(grown s V).2.2.set n ((grown s V).2.2.getD n []++[a])):=by
 obtain ⟨g1,g2,g3,g4,g5,g6,g7⟩:=grown_st h V
 generalize grown s V=t at *
 have gl:∀ (f:List Str→List Int),(t.1.map f).getD n []=f V:=fun f=>by
  simp [List.getD_eq_getElem?_getD,List.getElem?_eq_getElem hn,hV]
 refine ⟨g1,fun c hc => ?_,fun W hW => ?_,?_,?_,by simpa using g7⟩
 ·rcases List.mem_append.1 hc with hc | hc
  ·exact g3 c hc
  ·have:c=(V,a,b):=by simpa using hc
   rw [this];exact g2
 ·rcases g4 W hW with rfl | ⟨c,hc,e⟩
  ·exact ⟨(W,a,b),by simp,rfl⟩
  ·exact ⟨c,by simp [hc],e⟩
 ·show t.2.2.set n _=_
  rw [g5,gl]
  have:=map_set_nodup g1 hn (asL L) (asL (L++[(V,a,b)])) (fun W _ hne=>by
   rw [(asL_snoc L (V,a,b) W).1,if_neg (fun e=>hne (by rw [hV];exact e.symm))];simp)
  rw [hV,(asL_snoc L (V,a,b) V).1,if_pos rfl] at this
  exact this
 ·show t.2.1.set n _=_
  rw [g6,gl]
  have:=map_set_nodup g1 hn (bsL L) (bsL (L++[(V,a,b)])) (fun W _ hne=>by
   rw [(asL_snoc L (V,a,b) W).2,if_neg (fun e=>hne (by rw [hV];exact e.symm))];simp)
  rw [hV,(asL_snoc L (V,a,b) V).2,if_pos rfl] at this
  exact this
end Go.Proofs.YtjfpcjnopbfekaaGreatDoor
/- PLAIN LAWS of layer 5: the specification's Mul is that of the program. -/
namespace Go.Proofs.YtjfpcjnopbfekaaGreatDoor
open Go.Ab Go.Sh Go.Sort
theorem search_eq {ls:List (List Str)} {V:List Str} (hl:∀ W∈ls,W.length≤1000000) (hV:V.length≤1000000):∃ u,cnt (σ:=Unit) (ε:=Nat) (ρ:=Empty) (fun i2026 s2025 =>
 (ref05_order (ls.getD i2026 []) V).bind fun y2062 =>
 bif (y2062==0) then (
  some (.brk i2026)
 ) else (
  some (.go ())
 )
 ) (fun i2026 s2025=>i2026) (ls.length-0) 0 ()=some (.brk u)∧((V∈ls∧∃ h:u<ls.length,ls[u]=V)∨(V ∉ ls∧u=ls.length)):=by
 have hp:=cnt_place (ρ:=Empty) (body:=fun i2026 s2025 =>
  (ref05_order (ls.getD i2026 []) V).bind fun y2062 =>
  bif (y2062==0) then (
   some (.brk i2026)
  ) else (
   some (.go ())
  )) (fun j=>decide (cmpL (ls.getD j []) V=0)) (ls.length-0) 0 () (fun j u _ hj=>by
  have hm:ls.getD j []∈ls:=by
   rw [List.getD_eq_getElem?_getD,List.getElem?_eq_getElem (by omega)];exact List.getElem_mem _
  obtain ⟨r,e,k1,k2⟩:=order_eq (ls.getD j []) V (hl _ hm) hV
  simp only [e,bnd_some]
  by_cases h:cmpL (ls.getD j []) V=0
  ·rw [beq_iff_eq.2 (k2.2 h),decide_eq_true h];rfl
  ·rw [beq_eq_false_iff_ne.2 (fun e=>h (k2.1 e)),decide_eq_false h];rfl)
 rw [place_idx (fun W:List Str=>decide (cmpL W V=0)) [] ls] at hp
 refine ⟨_,hp,?_⟩
 have h3:=idxOf_neg (fun W:List Str=>decide (cmpL W V=0)) ls
 by_cases hn:idxOf (fun W:List Str=>decide (cmpL W V=0)) ls<0
 ·right
  rw [decide_eq_true hn]
  refine ⟨fun hm => ?_,rfl⟩
  have h4:=h3.1 hn
  rw [List.any_eq_false] at h4
  exact h4 V hm (by simp [cmpL_self])
 ·left
  rw [decide_eq_false hn]
  simp only [cond_false]
  obtain ⟨h5,h6⟩:=idxOf_pos (fun W:List Str=>decide (cmpL W V=0)) [] ls (by omega)
  have h7:ls[(idxOf (fun W:List Str=>decide (cmpL W V=0)) ls).toNat]=V:=by
   rw [List.getD_eq_getElem?_getD,List.getElem?_eq_getElem h5] at h6
   simp only [Option.getD_some,decide_eq_true_eq] at h6
   exact cmpL_zero h6
  exact ⟨by rw [← h7];exact List.getElem_mem _,h5,h7⟩
def mulIn (m:Monomial) (b:List Monomial) (i1834:Nat) (s1833:S3):Option (Stp S3 S3 Empty) :=
 (ref05_join m.Vars ((b.getD i1834 ⟨0,[]⟩).Vars)).bind fun y1981 =>
 (cnt (σ:=Unit) (ε:=Nat) (ρ:=Empty) (fun i2026 s2025 =>
  (ref05_order (s1833.1.getD i2026 []) y1981).bind fun y2062 =>
  bif (y2062==0) then (
   some (.brk i2026)
  ) else (
   some (.go ())
  )
 ) (fun i2026 s2025=>i2026) (s1833.1.length-0) 0 ()).bind <| aftE fun u2076 =>
 ((
  bif (((u2076:Nat):Int)==((s1833.1.length:Nat):Int)) then (
   grd ((s1833.1.length+1)*24≤140737488355328) <|
   grd ((s1833.2.2.length+1)*24≤140737488355328∧s1833.2.2.length<1000000) <|
   grd ((s1833.2.1.length+1)*24≤140737488355328∧s1833.2.1.length<1000000) <|
   some ((s1833.1++[y1981]),(s1833.2.1++[[]]),(s1833.2.2++[[]]))
  ) else (
   some (s1833.1,s1833.2.1,s1833.2.2)
  )
 ):Option S3).bind fun v2091 =>
 grd (u2076<v2091.2.2.length) <|
 grd (((v2091.2.2.getD u2076 []).length+[(m.Coef)].length)*8≤140737488355328) <|
 grd (u2076<v2091.2.1.length) <|
 grd (((v2091.2.1.getD u2076 []).length+[((b.getD i1834 ⟨0,[]⟩).Coef)].length)*8≤140737488355328) <|
 some (.go (v2091.1,(v2091.2.1.set u2076 ((v2091.2.1.getD u2076 [])++[((b.getD i1834 ⟨0,[]⟩).Coef)])),(v2091.2.2.set u2076 ((v2091.2.2.getD u2076 [])++[m.Coef]))))
theorem mulIn_run {L:List Ctr} {s:S3} (h:MSt L s) (hL:∀ c∈L,okT c) (hn:L.length≤10000) {m:Monomial} {b:List Monomial} {j:Nat} (hj:j<b.length) (hm:okMo m) (hms:m.Vars.Pairwise (fun a b=>leS a b=true)) (hb:okMo (monoAt b j)) (hbs:(monoAt b j).Vars.Pairwise (fun a b=>leS a b=true)) :
 ∃ s',mulIn m b j s=some (.go s')∧MSt (L++[ctr2 m (monoAt b j)]) s':=by
 unfold mulIn
 rw [show b.getD j ⟨0,[]⟩=monoAt b j from rfl,ref05_join_eq hms hbs (by have:=hm.1.1;omega) (by have:=hb.1.1;omega)]
 simp only [bnd_some]
 have hok:=ctr2_ok hm hb
 generalize hV:sortI (m.Vars++(monoAt b j).Vars)=V
 have hVl:V.length≤1000:=by rw [← hV];exact hok.1.1
 obtain ⟨u,e,hu⟩:=search_eq (ls:=s.1) (V:=V) (fun W hW=>by
  obtain ⟨c,hc,e⟩:=h.sr W hW
  rw [← e];have:=(hL c hc).1.1;omega) (by omega)
 rw [e]
 simp only [bnd_some,aftE]
 have hl1:s.2.2.length=s.1.length:=by rw [h.ls,List.length_map]
 have hl2:s.2.1.length=s.1.length:=by rw [h.rs,List.length_map]
 have hln:=h.ln
 have hgr:((
  bif (((u:Nat):Int)==((s.1.length:Nat):Int)) then (
   grd ((s.1.length+1)*24≤140737488355328) <|
   grd ((s.2.2.length+1)*24≤140737488355328∧s.2.2.length<1000000) <|
   grd ((s.2.1.length+1)*24≤140737488355328∧s.2.1.length<1000000) <|
   some ((s.1++[V]),(s.2.1++[[]]),(s.2.2++[[]]))
  ) else (
   some (s.1,s.2.1,s.2.2)
  )
 ):Option S3)=some (grown s V)∧∃ h:u<(grown s V).1.length,(grown s V).1[u]=V:=by
  unfold grown
  rcases hu with ⟨hm,hlt,hv⟩ | ⟨hm,rfl⟩
  ·rw [beq_eq_false_iff_ne.2 (show ((u:Nat):Int)≠((s.1.length:Nat):Int) by omega)]
   simp only [if_pos hm]
   exact ⟨rfl,hlt,hv⟩
  ·rw [beq_iff_eq.2 rfl]
   simp only [if_neg hm,cond_true]
   rw [grd_pos (by omega),grd_pos (by omega),grd_pos (by omega)]
   exact ⟨rfl,by simp,by simp⟩
 obtain ⟨hg1,hg2,hg3⟩:=hgr
 rw [hg1]
 simp only [bnd_some]
 obtain ⟨q1,q2,q3,q4,q5,q6,q7⟩:=grown_st h V
 have r1:(grown s V).2.2.length=(grown s V).1.length:=by rw [q5,List.length_map]
 have r2:(grown s V).2.1.length=(grown s V).1.length:=by rw [q6,List.length_map]
 have r3:((grown s V).2.2.getD u []).length≤10000:=by
  rw [q5]
  simp only [List.getD_eq_getElem?_getD,List.getElem?_map,List.getElem?_eq_getElem hg2,Option.map_some,Option.getD_some]
  have:=asL_len L (grown s V).1[u];omega
 have r4:((grown s V).2.1.getD u []).length≤10000:=by
  rw [q6]
  simp only [List.getD_eq_getElem?_getD,List.getElem?_map,List.getElem?_eq_getElem hg2,Option.map_some,Option.getD_some]
  rw [bsL_len]
  have:=asL_len L (grown s V).1[u];omega
 rw [grd_pos (by omega),grd_pos (by rw [List.length_singleton];omega),grd_pos (by omega),grd_pos (by rw [List.length_singleton];omega)]
 refine ⟨_,rfl,?_⟩
 have:=put_st h (V:=V) m.Coef (monoAt b j).Coef hg2 hg3
 rw [← hV] at this ⊢
 exact this
theorem coefL_lists {L:List Ctr} {ls:List (List Str)} (hn:ls.Nodup) (V:List Str):coefL (ls.map fun W=>(W,coefL L W,(1:Int))) V=if V∈ls then coefL L V else 0:=by
 induction ls with
 | nil=>rfl
 | cons W ls ih =>
  rw [List.nodup_cons] at hn
  rw [List.map_cons]
  show (if W=V then coefL L W*1 else 0)+coefL (ls.map fun W=>(W,coefL L W,(1:Int))) V=_
  rw [ih hn.2]
  by_cases h:W=V
  ·subst h
   rw [if_pos rfl,if_neg hn.1,if_pos (by simp)]
   simp
  ·rw [if_neg h]
   by_cases h2:V∈ls
   ·rw [if_pos h2,if_pos (by simp [h2])];omega
   ·rw [if_neg h2,if_neg (by simp [h2,Ne.symm h])];rfl
theorem IsCanon.congr {f g:List Str→Int} {p:List Monomial} (h:IsCanon f p) (e:∀ V,f V=g V):IsCanon g p:=⟨h.st,fun m=>by rw [h.mem,e]⟩
theorem mul_same {a b:List Monomial} (ha:Bd a) (hb:Bd b):∃ r,poly_Mul a b=some r∧ref05_Mul a b=some r:=by
 obtain ⟨hgood,hbad⟩:=poly_Mul_eq ha hb
 cases hva:validP a with
 | false =>
  refine ⟨([],1),hbad (.inl hva),?_⟩
  unfold ref05_Mul;rw [ref05_Valid_eq a ha,hva];rfl
 | true =>
  cases hvb:validP b with
  | false =>
   refine ⟨([],1),hbad (.inr hvb),?_⟩
   unfold ref05_Mul;rw [ref05_Valid_eq a ha,hva,ref05_Valid_eq b hb,hvb];rfl
  | true =>
   obtain ⟨p,h1,hBp,h2⟩:=hgood hva hvb
   refine ⟨limited p,h2,?_⟩
   have oa:=valid_okP hva
   have ob:=valid_okP hvb
   have ha60:=oa.1
   have hb60:=ob.1
   have hcl:∀ i,(ctrs (a.take i) b).length≤3600:=fun i=>by
    rw [ctrs_len,List.length_take]
    exact Nat.le_trans (Nat.mul_le_mul (show min i a.length≤60 by omega) hb60) (by decide)
   have hbok:∀ m∈b,okMo m:=ob.2
   have hok:∀ i,∀ c∈ctrs (a.take i) b,okT c:=fun i=>ctrs_ok (fun m hm=>oa.2 m (List.mem_of_mem_take hm)) hbok
   unfold ref05_Mul
   rw [ref05_Valid_eq a ha,hva,ref05_Valid_eq b hb,hvb]
   simp only [bnd_some,cond_true]
   obtain ⟨s,e,hI⟩:=cnt_inv (ρ:=Empty) (σ:=S3) (ε:=S3) (body:=fun i1006 s1005 =>
    (cnt (σ:=S3) (ε:=S3) (ρ:=Empty) (fun i1834 s1833=>mulIn (monoAt a i1006) b i1834 s1833) (fun i1834 s1833=>(s1833.1,s1833.2.1,s1833.2.2)) (b.length-0) 0 (s1005.1,s1005.2.1,s1005.2.2)).bind <| aftE fun u2119 =>
    some (.go (u2119.1,u2119.2.1,u2119.2.2))) (fin:=fun i1006 s1005=>(s1005.1,s1005.2.1,s1005.2.2))
    (fun i s=>MSt (ctrs (a.take i) b) s) (a.length-0) 0 ([],[],[]) MSt.nil (fun i s _ hi hI=>by
    have hia:i<a.length:=by omega
    have hmm:=monoAt_mem (p:=a) (j:=i) hia
    obtain ⟨s2,e2,hI2⟩:=cnt_inv (ρ:=Empty) (σ:=S3) (ε:=S3) (body:=fun i1834 s1833=>mulIn (monoAt a i) b i1834 s1833) (fin:=fun i1834 s1833=>(s1833.1,s1833.2.1,s1833.2.2))
     (fun j s=>MSt (ctrs (a.take i) b++(b.take j).map (ctr2 (monoAt a i))) s) (b.length-0) 0 (s.1,s.2.1,s.2.2) (by simpa using hI) (fun j s _ hj hI=>by
      have hjb:j<b.length:=by omega
      have hmb:=monoAt_mem (p:=b) (j:=j) hjb
      have hc:=hcl i
      obtain ⟨s3,k1,k2⟩:=mulIn_run hI (fun c hc=>by
       rcases List.mem_append.1 hc with hc | hc
       ·exact hok i c hc
       ·obtain ⟨n,hn,rfl⟩:=List.mem_map.1 hc
        exact ctr2_ok (oa.2 _ hmm) (ob.2 n (List.mem_of_mem_take hn))) (by
       simp only [List.length_append,List.length_map,List.length_take];omega) hjb (oa.2 _ hmm) (valid_srt hva hmm) (ob.2 _ hmb) (valid_srt hvb hmb)
      refine ⟨s3,k1,?_⟩
      rw [take1M b j hjb,List.map_append,← List.append_assoc]
      exact k2)
    rw [Nat.zero_add,Nat.sub_zero,List.take_length] at hI2
    refine ⟨(s2.1,s2.2.1,s2.2.2),?_,?_⟩
    ·rw [e2];rfl
    ·rw [take1M a i hia,ctrs_snoc]
     exact hI2)
   rw [Nat.zero_add,Nat.sub_zero,List.take_length] at hI
   have hc2:=hcl a.length
   have hokL:=hok a.length
   rw [List.take_length] at hc2 hokL
   show ((cnt (σ:=S3) (ε:=S3) (ρ:=Empty) (fun i1006 s1005 =>
    (cnt (σ:=S3) (ε:=S3) (ρ:=Empty) (fun i1834 s1833=>mulIn (monoAt a i1006) b i1834 s1833) (fun i1834 s1833=>(s1833.1,s1833.2.1,s1833.2.2)) (b.length-0) 0 (s1005.1,s1005.2.1,s1005.2.2)).bind <| aftE fun u2119 =>
    some (.go (u2119.1,u2119.2.1,u2119.2.2))) (fun i1006 s1005=>(s1005.1,s1005.2.1,s1005.2.2)) (a.length-0) 0 ([],[],[])).bind _)=_
   rw [e]
   generalize hL:ctrs a b=L at *
   simp only [bnd_some,aftE]
   have hll:=hI.ln
   have hVok:∀ V∈s.1,okV V:=fun V hV=>by
    obtain ⟨c,hc,e⟩:=hI.sr V hV
    rw [← e];exact (hokL c hc).1
   have hdot:∀ V,dotR (asL L V) (bsL L V)=sumE (coefL L V):=fun V=>by
    unfold dotR
    have ha2:(asL L V).all inB=true:=by
     rw [List.all_eq_true]
     intro n hn2
     obtain ⟨c,hc,rfl⟩:=List.mem_map.1 hn2
     exact (hokL c (List.mem_filter.1 hc).1).2.1
    have hb2:(bsL L V).all inB=true:=by
     rw [List.all_eq_true]
     intro n hn2
     obtain ⟨c,hc,rfl⟩:=List.mem_map.1 hn2
     exact (hokL c (List.mem_filter.1 hc).1).2.2
    rw [decide_eq_true (bsL_len L V).symm,decide_eq_true (show (asL L V).length≤10000 by have:=asL_len L V;omega),ha2,hb2,coefL_dot];rfl
   have hbdl:∀ j,∀ c∈(s.1.take j).map (fun W=>(W,coefL L W,(1:Int))),bdV c.1:=fun j c hc=>by
    obtain ⟨W,hW,rfl⟩:=List.mem_map.1 hc
    have:=hVok W (List.mem_of_mem_take hW)
    exact ⟨by have:=this.1;show W.length≤_;omega,fun v hv=>by have:=(this.2 v hv).2;omega⟩
   rcases cnt_stop (σ:=List Monomial) (ε:=List Monomial) (ρ:=List Monomial×Int) (body:=fun i2173 s2172 =>
    grd (i2173<s.2.2.length) <|
    grd (i2173<s.2.1.length) <|
    (ref03_Dot (s.2.2.getD i2173 []) (s.2.1.getD i2173 [])).bind fun y2213 =>
    bif (y2213.2==0) then (
     (ref05_plus s2172 (Monomial.mk y2213.1 (s.1.getD i2173 []))).bind fun y2220 =>
     some (.go y2220)
    ) else (
     some (.ret ([],3))
    )) (fin:=fun i2173 s2172=>s2172)
    (fun j q=>IsCanon (coefL ((s.1.take j).map fun W=>(W,coefL L W,(1:Int)))) q∧q.length≤j) ([],3) (∃ V,inB (coefL L V)=false) (s.1.length-0) 0 [] ⟨⟨by simp,fun m=>by simp [coefL]⟩,Nat.le_refl _⟩ (fun j q _ hj ⟨hQ,hql⟩=>by
    have hjs:j<s.1.length:=by omega
    have g1:s.2.2.getD j []=asL L s.1[j]:=by
     rw [hI.ls];simp [List.getD_eq_getElem?_getD,List.getElem?_eq_getElem hjs]
    have g2:s.2.1.getD j []=bsL L s.1[j]:=by
     rw [hI.rs];simp [List.getD_eq_getElem?_getD,List.getElem?_eq_getElem hjs]
    have g3:s.1.getD j []=s.1[j]:=by simp [List.getD_eq_getElem?_getD,List.getElem?_eq_getElem hjs]
    simp only [g1,g2,g3]
    rw [grd_pos (by rw [hI.ls,List.length_map];exact hjs),grd_pos (by rw [hI.rs,List.length_map];exact hjs),ref03_Dot_eq,hdot]
    simp only [bnd_some]
    have hVm:s.1[j]∈s.1:=List.getElem_mem hjs
    cases hin:inB (coefL L s.1[j]) with
    | false =>
     right
     have:sumE (coefL L s.1[j])=(0,2):=by unfold sumE;rw [hin];rfl
     rw [this]
     exact ⟨rfl,_,hin⟩
    | true =>
     left
     rw [sumE_in hin]
     have e1:ref05_plus q ⟨coefL L s.1[j],s.1[j]⟩=some (plusM q ⟨coefL L s.1[j],s.1[j]⟩):=by
      refine ref05_plus_eq (canon_Bd hQ (by omega) (hbdl j)) (by have:=(hVok _ hVm).1;show s.1[j].length≤_;omega) (fun x hx=>((hQ.mem x).1 hx).1) fun x hx ex => ?_
      exfalso
      obtain ⟨c,hc,e⟩:=canon_src hQ hx
      obtain ⟨W,hW,rfl⟩:=List.mem_map.1 hc
      have e:W=x.Vars:=e
      have ex:x.Vars=s.1[j]:=ex
      obtain ⟨i,hi,rfl⟩:=List.getElem_of_mem hW
      rw [List.getElem_take] at e
      have hi2:i<j:=by simp at hi;omega
      have:=nd_inj hI.nd (by omega) hjs (e.trans ex)
      omega
     refine ⟨plusM q ⟨coefL L s.1[j],s.1[j]⟩,?_,?_,?_⟩
     ·show (ref05_plus q ⟨coefL L s.1[j],s.1[j]⟩).bind _=_
      rw [e1];rfl
     ·rw [List.take_add_one,List.getElem?_eq_getElem hjs,Option.toList_some,List.map_append]
      exact plus_canon hQ (m:=⟨coefL L s.1[j],s.1[j]⟩) (a:=coefL L s.1[j]) (b:=1) (by simp)
     ·have:=plusM_len q ⟨coefL L s.1[j],s.1[j]⟩
      omega) with ⟨q,e3,hQ,hql⟩ | ⟨e3,V,hV⟩
   ·rw [e3]
    rw [Nat.zero_add,Nat.sub_zero,List.take_length] at hQ
    rw [Nat.zero_add,Nat.sub_zero] at hql
    show (ref05_limited q).bind _=_
    have hB2:=hbdl s.1.length
    rw [List.take_length] at hB2
    rw [ref05_limited_eq (canon_Bd hQ (by omega) hB2)]
    have hQ2:IsCanon (coefL L) q:=hQ.congr fun V=>by
     rw [coefL_lists hI.nd]
     by_cases hV:V∈s.1
     ·rw [if_pos hV]
     ·rw [if_neg hV,coefL_zero (fun c hc e=>hV (by rw [← e];exact hI.al c hc))]
    rw [IsCanon.uniq h1 hQ2];rfl
   ·rw [e3]
    show some (([],3):List Monomial×Int)=some (limited p)
    rw [lim_big h1 (V:=V)]
    have:¬ inB (coefL L V)=true:=by rw [hV];simp
    rw [inB_iff] at this
    omega
theorem polySums_law (x0 x1:List Monomial) (x2:Int):law05_PolySums x0 x1 x2=some true:=by
 unfold law05_PolySums law05_few
 rw [law05_awake_true]
 simp only [bnd_some,cond_true,ref05_Few_eq]
 cases h0:fewP x0 8 with
 | false=>rfl
 | true =>
  simp only [cond_true,bnd_some]
  cases h1:fewP x1 8 with
  | false=>rfl
  | true =>
   simp only [cond_true]
   have B0:=few_Bd h0 (by omega)
   have B1:=few_Bd h1 (by omega)
   obtain ⟨r1,e1,f1⟩:=sums_add B0 B1
   obtain ⟨r2,e2,f2⟩:=sums_sub B0 B1
   obtain ⟨r3,e3,f3⟩:=scale_same B0 x2
   obtain ⟨r4,e4,f4⟩:=mul_same B0 B1
   simp only [e1,f1,e2,f2,e3,f3,e4,f4,bnd_some,equal_self,cond_true,beq_self_eq_true]
end Go.Proofs.YtjfpcjnopbfekaaGreatDoor
