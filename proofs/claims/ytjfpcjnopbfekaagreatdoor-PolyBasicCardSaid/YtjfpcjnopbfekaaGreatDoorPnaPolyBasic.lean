/- Plain laws: what the walked functions compute answers as the statement says. -/
import Derived.Test.YtjfpcjnopbfekaaGreatDoorWkbPolyBasic
import Derived.Lib.ItoaNum
import Derived.Lib.ItoaMem
import Derived.Lib.AtoiAll
import Derived.Lib.AtoiAllCases
import Derived.Lib.ItoaLen
import Derived.KernelRfl
set_option linter.unusedSimpArgs false
set_option linter.unusedVariables false
/- PLAIN LAWS, of no program: loops as searches through lists; numerals. -/
namespace Go.Sh
open Go.Ab
section
variable {α σ ε ρ:Type}
theorem cnt_all {body:Nat→Unit→Option (Stp Unit ε ρ)} {fin:Nat→Unit→ε} {r:ρ} (p:Nat→Bool):∀ (k i:Nat) (u:Unit),(∀ j u,i≤j→j<i+k→body j u=some (bif p j then .go () else .ret r)) →
 cnt body fin k i u=some (bif (List.range' i k).all p then .brk (fin (i+k) ()) else .ret r)
 | 0,i,u,h=>by simp [cnt]
 | k+1,i,u,h=>by
  simp only [cnt,h i u (Nat.le_refl _) (by omega),List.range'_succ,List.all_cons]
  cases hp:p i with
  | true =>
   simp only [cond_true,Option.bind_some,stp,Bool.true_and]
   rw [cnt_all p k (i+1) () (fun j u h1 h2=>h j u (by omega) (by omega))]
   rw [show i+1+k=i+(k+1) by omega]
  | false=>simp [stp]
theorem cnt_find {body:Nat→Unit→Option (Stp Unit ε ρ)} {fin:Nat→Unit→ε} {f:Nat→ρ} (p:Nat→Bool):∀ (k i:Nat) (u:Unit),(∀ j u,i≤j→j<i+k→body j u=some (bif p j then .ret (f j) else .go ())) →
 cnt body fin k i u=some (match (List.range' i k).find? p with | some j=>.ret (f j) | none=>.brk (fin (i+k) ()))
 | 0,i,u,h=>by simp [cnt]
 | k+1,i,u,h=>by
  simp only [cnt,h i u (Nat.le_refl _) (by omega),List.range'_succ,List.find?_cons]
  cases hp:p i with
  | false =>
   simp only [cond_false,Option.bind_some,stp]
   rw [cnt_find p k (i+1) () (fun j u h1 h2=>h j u (by omega) (by omega))]
   rw [show i+1+k=i+(k+1) by omega]
  | true=>simp [stp]
theorem all_getD (q:α→Bool) (d:α) (l:List α):∀ (i:Nat),(List.range' i (l.length-i)).all (fun j=>q (l.getD j d))=(l.drop i).all q:=by
 intro i
 by_cases h:i<l.length
 ·obtain ⟨k,hk⟩:∃ k,l.length-i=k+1:=⟨l.length-i-1,by omega⟩
  have ih:=all_getD q d l (i+1)
  rw [hk,List.range'_succ,List.all_cons,List.drop_eq_getElem_cons h,List.all_cons]
  rw [show l.length-(i+1)=k by omega] at ih
  rw [ih]
  simp [List.getD_eq_getElem?_getD,List.getElem?_eq_getElem h]
 ·rw [show l.length-i=0 by omega,List.drop_eq_nil_of_le (by omega)];rfl
 termination_by i=>l.length-i
theorem all0 (q:α→Bool) (d:α) (l:List α):(List.range' 0 (l.length-0)).all (fun j=>q (l.getD j d))=l.all q:=by
 have:=all_getD q d l 0
 simpa using this
def idxOf (p:α→Bool):List α→Int
 | [] => -1
 | x::l=>bif p x then 0 else (let r:=idxOf p l;bif r == -1 then -1 else r+1)
theorem idxOf_ge (p:α→Bool):∀ l:List α,-1≤idxOf p l
 | []=>by simp [idxOf]
 | x::l=>by
  have:=idxOf_ge p l
  simp only [idxOf]
  cases p x
  ·cases h:idxOf p l == -1
   ·simp;omega
   ·simp
  ·simp
theorem idxOf_neg (p:α→Bool):∀ l:List α,(idxOf p l<0)↔l.any p=false
 | []=>by simp [idxOf]
 | x::l=>by
  have h1:=idxOf_ge p l
  have h2:=idxOf_neg p l
  simp only [idxOf,List.any_cons]
  cases hp:p x
  ·cases h:idxOf p l == -1
   ·have:idxOf p l ≠ -1:=by simpa using h
    simp only [cond_false,Bool.false_or]
    rw [← h2];omega
   ·have:idxOf p l = -1:=by simpa using h
    simp only [cond_false,cond_true,Bool.false_or]
    rw [← h2];omega
  ·simp
theorem find_idx (p:α→Bool) (d:α) (l:List α):∀ (i:Nat),(match (List.range' i (l.length-i)).find? (fun j=>p (l.getD j d)) with | some j=>((j:Nat):Int) | none => -1)=(bif idxOf p (l.drop i) == -1 then -1 else idxOf p (l.drop i)+i):=by
 intro i
 by_cases h:i<l.length
 ·obtain ⟨k,hk⟩:∃ k,l.length-i=k+1:=⟨l.length-i-1,by omega⟩
  have ih:=find_idx p d l (i+1)
  rw [hk,List.range'_succ,List.find?_cons,List.drop_eq_getElem_cons h]
  rw [show l.length-(i+1)=k by omega] at ih
  have e:l.getD i d=l[i]:=by simp [List.getD_eq_getElem?_getD,List.getElem?_eq_getElem h]
  rw [e]
  simp only [idxOf]
  cases hp:p l[i]
  ·simp only [cond_false]
   rw [ih]
   cases hq:idxOf p (l.drop (i+1)) == -1
   ·have h3:idxOf p (l.drop (i+1)) ≠ -1:=by simpa using hq
    have h4:=idxOf_ge p (l.drop (i+1))
    simp only [cond_false]
    have:((idxOf p (l.drop (i+1))+1) == -1)=false:=by simp;omega
    rw [this];simp only [cond_false]
    omega
   ·simp
  ·simp
 ·rw [show l.length-i=0 by omega,List.drop_eq_nil_of_le (by omega)];rfl
 termination_by i=>l.length-i
theorem find_idx0 (p:α→Bool) (d:α) (l:List α):(match (List.range' 0 (l.length-0)).find? (fun j=>p (l.getD j d)) with | some j=>((j:Nat):Int) | none => -1)=idxOf p l:=by
 rw [find_idx p d l 0]
 simp only [List.drop_zero]
 cases h:idxOf p l == -1
 ·simp
 ·have:idxOf p l = -1:=by simpa using h
  simp [this]
end
/-! ### numerals -/
def isDig (b:UInt8):Bool:=decide (48≤b.toNat)&&decide (b.toNat≤57)
def valD (acc:Nat) (l:Str):Nat:=l.foldl (fun a c=>a*10+(c.toNat-48)) acc
theorem valD_snoc (acc:Nat) (l:Str) (c:UInt8):valD acc (l++[c])=valD acc l*10+(c.toNat-48):=by simp [valD]
theorem parse_val:∀ (l:Str) (acc:Nat),l.all isDig=true→(acc+1)*10 ^ l.length≤10 ^ 18→Lib.parseUint10 acc l = .ok (valD acc l)
 | [],acc,_,_=>rfl
 | c::l,acc,h,hb=>by
  simp only [List.all_cons,Bool.and_eq_true,isDig,decide_eq_true_eq] at h
  obtain ⟨⟨h1,h2⟩,h3⟩:=h
  have hp:1≤10 ^ l.length:=Nat.one_le_pow _ _ (by decide)
  have hb2:(acc*10+10)*10 ^ l.length≤10 ^ 18:=by
   have:(acc+1)*10 ^ (l.length+1)=(acc*10+10)*10 ^ l.length:=by rw [Nat.pow_succ];rw [show (acc*10+10)=(acc+1)*10 by omega,Nat.mul_assoc,Nat.mul_comm 10]
   rw [← this];simpa using hb
  have hb3:acc*10+10≤10 ^ 18:=Nat.le_trans (Nat.le_mul_of_pos_right _ hp) hb2
  have e18:(10:Nat) ^ 18=1000000000000000000:=by decide
  rw [e18] at hb3
  simp only [Lib.parseUint10]
  rw [if_pos ⟨h1,h2⟩,if_neg (by omega),if_neg (by omega)]
  rw [parse_val l _ (by simpa [isDig] using h3) (Nat.le_trans (Nat.mul_le_mul_right _ (by omega)) hb2)]
  rfl
theorem dig_back {c:UInt8} (h:isDig c=true):UInt8.ofNat (48+(c.toNat-48))=c:=by
 simp only [isDig,Bool.and_eq_true,decide_eq_true_eq] at h
 rw [show 48+(c.toNat-48)=c.toNat by omega]
 exact UInt8.ofNat_toNat
theorem snoc_rec {α:Type} {P:List α→Prop} (h0:P []) (h1:∀ l c,P l→P (l++[c])) (l:List α):P l:=by
 have:∀ m:List α,P m.reverse:=by
  intro m
  induction m with
  | nil=>exact h0
  | cons c m ih=>simpa using h1 _ c ih
 simpa using this l.reverse
theorem dec_val (l:Str):l.all isDig=true→l≠[]→l.head? ≠ some 48→1≤valD 0 l∧Lib.decDigits (valD 0 l)=l:=by
 refine snoc_rec (P:=fun l=>l.all isDig=true→l≠[]→l.head? ≠ some 48→1≤valD 0 l∧Lib.decDigits (valD 0 l)=l) ?_ ?_ l
 ·intro _ h;exact absurd rfl h
 ·intro l c ih h _ hh
  rw [List.all_append,Bool.and_eq_true] at h
  have hc:isDig c=true:=by simpa using h.2
  have hc':=hc
  simp only [isDig,Bool.and_eq_true,decide_eq_true_eq] at hc'
  rw [valD_snoc]
  by_cases hl:l=[]
  ·subst hl
   have hne:c≠48:=by simpa using hh
   have:c.toNat≠48:=fun e=>hne (by rw [← UInt8.toNat_inj];simpa using e)
   simp only [valD,List.foldl_nil,Nat.zero_mul,Nat.zero_add,List.nil_append]
   refine ⟨by omega,?_⟩
   rw [Lib.decDigits_one (by omega),dig_back hc]
  ·have hh2:l.head? ≠ some 48:=by
    cases l with
    | nil=>exact absurd rfl hl
    | cons x l=>simpa using hh
   obtain ⟨i1,i2⟩:=ih h.1 hl hh2
   refine ⟨by omega,?_⟩
   rw [Lib.decDigits,dif_neg (by omega),show (valD 0 l*10+(c.toNat-48)) / 10=valD 0 l by omega,i2,show (valD 0 l*10+(c.toNat-48)) % 10=c.toNat-48 by omega,dig_back hc]
theorem dec_dig (u:Nat):(Lib.decDigits u).all isDig=true∧(1≤u→(Lib.decDigits u).head? ≠ some 48)∧Lib.decDigits u≠[]:=by
 have key:∀ i,i<10→isDig (UInt8.ofNat (48+i))=true:=by decide
 have key2:∀ i,i<10→1≤i→UInt8.ofNat (48+i)≠48:=by decide
 by_cases h:u<10
 ·rw [Lib.decDigits_one h]
  exact ⟨by simp only [List.all_cons,List.all_nil,Bool.and_true];exact key u h,fun h1=>by simpa using key2 u h h1,by simp⟩
 ·have ih:=dec_dig (u / 10)
  rw [Lib.decDigits,dif_neg h]
  refine ⟨by rw [List.all_append,ih.1];simp only [List.all_cons,List.all_nil,Bool.and_true,Bool.true_and];exact key (u % 10) (by omega),fun _ => ?_,by simp⟩
  have:=ih.2.1 (by omega)
  cases hd:Lib.decDigits (u / 10) with
  | nil=>exact absurd hd ih.2.2
  | cons x l=>rw [hd] at this;simpa using this
 termination_by u
 decreasing_by omega
end Go.Sh
/- PLAIN LAWS of layer 5: names. -/
namespace Go.Proofs.YtjfpcjnopbfekaaGreatDoor
open Go.Ab Go.Sh
theorem grd_pos {α:Type} {p:Prop} [Decidable p] {x:Option α} (h:p):grd p x=x:=if_pos h
theorem aft_bif {ε β:Type} {b:Bool} {e:ε} {r:β} {f:ε→Option β}:(some (bif b then Out.brk e else Out.ret r:Out ε β)).bind (aft f)=bif b then f e else some r:=by cases b<;>rfl
theorem all_congr {p q:Nat→Bool}:∀ (k i:Nat),(∀ j,i≤j→j<i+k→p j=q j)→(List.range' i k).all p=(List.range' i k).all q
 | 0,i,_=>rfl
 | k+1,i,h=>by
  rw [List.range'_succ,List.all_cons,List.all_cons,h i (Nat.le_refl _) (by omega),all_congr k (i+1) (fun j h1 h2=>h j (by omega) (by omega))]
theorem u8_beq (c k:UInt8) (n:Int) (hk:(k.toNat:Int)=n):((c.toNat:Int)==n)=(c==k):=by
 rw [Bool.eq_iff_iff]
 simp only [beq_iff_eq,← UInt8.toNat_inj]
 omega
def isLet (b:UInt8):Bool:=decide (97≤b.toNat)&&decide (b.toNat≤122)
theorem ref04_digit_eq (x:UInt8):ref04_digit x=some (isDig x):=by
 unfold ref04_digit isDig
 by_cases h:48≤x.toNat
 ·rw [decide_eq_true (show (x.toNat:Int)≥48 by omega),decide_eq_true h]
  simp only [cond_true,Bool.true_and,Option.some.injEq]
  rw [decide_eq_decide];omega
 ·rw [decide_eq_false (show ¬ (x.toNat:Int)≥48 by omega),decide_eq_false h];rfl
theorem ref04_letter_eq (x:UInt8):ref04_letter x=some (isLet x):=by
 unfold ref04_letter isLet
 by_cases h:97≤x.toNat
 ·rw [decide_eq_true (show (x.toNat:Int)≥97 by omega),decide_eq_true h]
  simp only [cond_true,Bool.true_and,Option.some.injEq]
  rw [decide_eq_decide];omega
 ·rw [decide_eq_false (show ¬ (x.toNat:Int)≥97 by omega),decide_eq_false h];rfl
def nameS:Str→Bool
 | []=>false
 | c::r=>bif c==95 then (decide (1≤r.length)&&(decide (r.length≤9)&&(!(r.getD 0 0==48)&&r.all isDig))) else (decide (r.length≤29)&&(isLet c&&r.all (fun b=>isLet b||isDig b)))
theorem ref04_Name_eq (s:Str):ref04_Name s=some (nameS s):=by
 cases s with
 | nil=>rfl
 | cons c r =>
  unfold ref04_Name
  have e1:((((c::r).length:Nat):Int)==0)=false:=by simp;omega
  rw [e1]
  simp only [cond_false]
  have e95:((((c::r).getD 0 0).toNat:Int)==95)=(c==95):=by rw [List.getD_cons_zero];exact u8_beq c 95 95 rfl
  by_cases h30:r.length≤29
  ·rw [decide_eq_false (show ¬ (((c::r).length:Nat):Int)>30 by simp;omega)]
   simp only [cond_false]
   rw [grd_pos (by simp),e95]
   simp only [nameS]
   cases hc:c==95 with
   | true =>
    simp only [cond_true]
    by_cases h1:1≤r.length
    ·rw [decide_eq_false (show ¬ (((c::r).length:Nat):Int)<2 by simp;omega),decide_eq_true h1]
     simp only [cond_false,Bool.true_and]
     by_cases h9:r.length≤9
     ·rw [decide_eq_false (show ¬ (((c::r).length:Nat):Int)>10 by simp;omega),decide_eq_true h9]
      simp only [cond_false,Bool.true_and]
      rw [grd_pos (by simp;omega)]
      have e48:((((c::r).getD 1 0).toNat:Int)==48)=(r.getD 0 0==48):=by rw [List.getD_cons_succ];exact u8_beq _ 48 48 rfl
      rw [e48]
      cases hd:r.getD 0 0==48 with
      | true=>simp
      | false =>
       simp only [cond_false,Bool.not_false,Bool.true_and]
       rw [cnt_all (fun j=>isDig ((c::r).getD j 0)) _ _ () (fun j u _ _=>by rw [ref04_digit_eq];cases isDig ((c::r).getD j 0)<;>rfl),aft_bif,all_getD isDig 0 (c::r) 1]
       simp only [List.drop_succ_cons,List.drop_zero]
       cases r.all isDig<;>rfl
     ·rw [decide_eq_true (show (((c::r).length:Nat):Int)>10 by simp;omega),decide_eq_false h9];simp
    ·rw [decide_eq_true (show (((c::r).length:Nat):Int)<2 by simp;omega),decide_eq_false h1];simp
   | false =>
    simp only [cond_false]
    rw [decide_eq_true h30]
    rw [cnt_all (fun j=>isLet ((c::r).getD j 0)||(!(((j:Nat):Int)==0)&&isDig ((c::r).getD j 0))) _ _ () (fun j u _ _=>by
     rw [ref04_letter_eq,ref04_digit_eq]
     cases isLet ((c::r).getD j 0)<;>cases isDig ((c::r).getD j 0)<;>cases ((j:Nat):Int)==0<;>rfl),aft_bif]
    have e:(List.range' 0 ((c::r).length-0)).all (fun j=>isLet ((c::r).getD j 0)||(!(((j:Nat):Int)==0)&&isDig ((c::r).getD j 0)))=(isLet c&&r.all (fun b=>isLet b||isDig b)):=by
     rw [show (c::r).length-0=r.length+1 by simp,List.range'_succ,List.all_cons]
     have e0:(isLet ((c::r).getD 0 0)||(!(((0:Nat):Int)==0)&&isDig ((c::r).getD 0 0)))=isLet c:=by simp
     rw [e0]
     congr 1
     rw [all_congr (q:=fun j=>(fun b=>isLet b||isDig b) ((c::r).getD j 0)) _ _ (fun j h1 _=>by
      have:(((j:Nat):Int)==0)=false:=by simp;omega
      simp only [this,Bool.not_false,Bool.true_and])]
     have:=all_getD (fun b=>isLet b||isDig b) 0 (c::r) 1
     simpa using this
    rw [e]
    simp only [Bool.true_and]
    cases isLet c&&r.all (fun b=>isLet b||isDig b)<;>rfl
  ·rw [decide_eq_true (show (((c::r).length:Nat):Int)>30 by simp;omega)]
   simp only [cond_true,nameS]
   rw [decide_eq_false h30]
   have:¬ r.length≤9:=by omega
   rw [decide_eq_false this]
   cases c==95<;>simp
theorem strings_HasPrefix1 (s:Str) (c:UInt8):strings_HasPrefix s [c]=some (match s with | []=>false | x::_=>x==c):=by
 unfold strings_HasPrefix internal_stringslite_HasPrefix
 cases s with
 | nil=>rfl
 | cons x l =>
  rw [decide_eq_true (by simp;omega)]
  simp only [cond_true]
  rw [grd_pos (by simp)]
  simp
theorem atoi_dig {r:Str} (h0:r≠[]) (h:r.all isDig=true) (hl:r.length≤9):Lib.atoiAll r = .ok (valD 0 r:Int)∧valD 0 r<10000000000:=by
 cases r with
 | nil=>exact absurd rfl h0
 | cons c r =>
  have hc:isDig c=true:=by simp only [List.all_cons,Bool.and_eq_true] at h;exact h.1
  have hc2:=hc
  simp only [isDig,Bool.and_eq_true,decide_eq_true_eq] at hc2
  have hp:(10:Nat) ^ (c::r).length≤10 ^ 9:=Nat.pow_le_pow_right (by decide) hl
  have hv:=parse_val (c::r) 0 h (by
   rw [Nat.zero_add,Nat.one_mul]
   exact Nat.le_trans hp (by decide))
  have hb:∀ (l:Str) (a:Nat),l.all isDig=true→valD a l+1≤(a+1)*10 ^ l.length:=by
   intro l
   induction l with
   | nil=>intro a _;simp [valD]
   | cons x l ih =>
    intro a hx
    simp only [List.all_cons,Bool.and_eq_true,isDig,decide_eq_true_eq] at hx
    have:=ih (a*10+(x.toNat-48)) (by simpa [isDig] using hx.2)
    have e:valD a (x::l)=valD (a*10+(x.toNat-48)) l:=rfl
    rw [e]
    refine Nat.le_trans this ?_
    rw [List.length_cons,Nat.pow_succ,Nat.mul_comm (10 ^ l.length) 10,← Nat.mul_assoc]
    exact Nat.mul_le_mul_right _ (by omega)
  have hlt:=hb (c::r) 0 h
  rw [Nat.zero_add,Nat.one_mul] at hlt
  have h9:(10:Nat) ^ 9=1000000000:=by decide
  rw [h9] at hp
  refine ⟨?_,by omega⟩
  rw [Lib.atoiAll_plain c r (by omega) (by omega)]
  have:Lib.parseMag (c::r) = .ok (valD 0 (c::r)):=by unfold Lib.parseMag;rw [if_neg (by simp)];exact hv
  rw [this]
  simp only [Lib.signless]
  rw [if_neg (by omega)]
theorem linear_Name_eq (s:Str) (hs:s.length≤1000000):linear_Name s=some (nameS s):=by
 unfold linear_Name
 rw [strings_HasPrefix1]
 cases s with
 | nil=>rfl
 | cons c r =>
  simp only [Option.bind_some,nameS]
  have hr:r.length≤1000000:=by simp at hs;omega
  cases hc:c==95 with
  | true =>
   simp only [cond_true]
   rw [grd_pos (by simp)]
   simp only [List.drop_succ_cons,List.drop_zero,lib_Atoi]
   rw [grd_pos (by omega)]
   simp only [Option.bind_some]
   by_cases h9:r.length≤9
   ·by_cases h1:1≤r.length
    ·rw [decide_eq_true h1,decide_eq_true h9]
     simp only [Bool.true_and]
     have hne:r≠[]:=by intro e;subst e;simp at h1
     have hhd:(r.getD 0 0==48)=decide (r.head? = some 48):=by
      cases r with
      | nil=>exact absurd rfl hne
      | cons x l=>simp;rw [Bool.eq_iff_iff];simp
     -- the answer of the program: is it its numeral?
     have key:∀ v:Int,0<v→v≤9223372036854775807→lib_Itoa v=some (Lib.decDigits v.toNat)∨True:=fun _ _ _=>.inr trivial
     by_cases hall:r.all isDig=true
     ·obtain ⟨a1,a2⟩:=atoi_dig hne hall h9
      simp only [atoiR,a1,cond_true]
      by_cases h48:r.head? = some 48
      ·-- a leading zero: another numeral
       rw [hhd,decide_eq_true h48]
       simp only [Bool.not_true,Bool.false_and]
       by_cases hz:valD 0 r=0
       ·rw [hz];rfl
       ·rw [decide_eq_true (by omega:(valD 0 r:Int)>0),decide_eq_true (by simp;omega:(((c::r).length:Nat):Int)≤10)]
        simp only [cond_true,lib_Itoa]
        have hlen:(Lib.itoa (valD 0 r:Int)).length≤21:=Lib.itoa_length_le _ (by omega) (by omega)
        rw [grd_pos ⟨by omega,by omega,by omega⟩]
        simp only [Option.bind_some,Option.some.injEq]
        rw [Lib.itoa_nonneg,beq_eq_false_iff_ne]
        intro e
        exact (dec_dig (valD 0 r)).2.1 (by omega) (by rw [e];exact h48)
      ·obtain ⟨d1,d2⟩:=dec_val r hall hne h48
       rw [hhd,decide_eq_false h48,hall]
       simp only [Bool.not_false,Bool.true_and]
       rw [decide_eq_true (by omega:(valD 0 r:Int)>0),decide_eq_true (by simp;omega:(((c::r).length:Nat):Int)≤10)]
       simp only [cond_true,lib_Itoa]
       have hlen:(Lib.itoa (valD 0 r:Int)).length≤21:=Lib.itoa_length_le _ (by omega) (by omega)
       rw [grd_pos ⟨by omega,by omega,by omega⟩]
       simp only [Option.bind_some,Option.some.injEq]
       rw [Lib.itoa_nonneg,d2];simp
     ·have hall:r.all isDig=false:=by simpa using hall
      rw [hall]
      simp only [Bool.and_false]
      cases ha:Lib.atoiAll r with
      | ok v =>
       simp only [atoiR,ha,cond_true]
       by_cases hv:v>0
       ·rw [decide_eq_true hv,decide_eq_true (by simp;omega:(((c::r).length:Nat):Int)≤10)]
        simp only [cond_true,lib_Itoa]
        have hvb:v≤9223372036854775807:=by
         cases r with
         | nil=>exact absurd rfl hne
         | cons x l =>
          unfold Lib.atoiAll at ha
          simp only at ha
          split at ha
          ·cases ha
          ·cases ha
          ·split at ha
           ·cases ha
           ·split at ha
            ·cases ha
            ·rename_i h1 h2
             simp only [Lib.NumEnd.ok.injEq] at ha
             rw [← ha]
             split
             ·omega
             ·rename_i h3
              have:=h1
              simp only [h3,not_false_eq_true,true_and] at this
              omega
        have hlen:(Lib.itoa v).length≤21:=Lib.itoa_length_le _ (by omega) hvb
        rw [grd_pos ⟨by omega,hvb,by omega⟩]
        simp only [Option.bind_some,Option.some.injEq]
        rw [beq_eq_false_iff_ne]
        intro e
        have:(Lib.itoa v).all isDig=true:=by
         unfold Lib.itoa
         rw [if_neg (by omega)];exact (dec_dig _).1
        rw [e,hall] at this;cases this
       ·rw [decide_eq_false hv];rfl
      | range=>simp [atoiR,ha]
      | _=>simp [atoiR,ha]
    ·have:r=[]:=List.eq_nil_of_length_eq_zero (by omega)
     subst this
     rfl
   ·rw [decide_eq_false h9,decide_eq_false (by simp;omega:¬ (((c::r).length:Nat):Int)≤10)]
    simp only [cond_false,Bool.false_and,Bool.and_false]
    cases (atoiR r).2<;>cases decide ((atoiR r).1>0)<;>rfl
  | false =>
   simp only [cond_false]
   rw [cnt_all (fun j=>isLet ((c::r).getD j 0)||(!(((j:Nat):Int)==0)&&isDig ((c::r).getD j 0))) _ _ () (fun j u _ _=>by
    simp only [isLet,isDig]
    generalize (c::r).getD j 0=x
    by_cases h1:(x.toNat:Int)<97
    ·rw [decide_eq_true h1,decide_eq_false (show ¬ 97≤x.toNat by omega)]
     simp only [cond_true,Bool.false_and,Bool.false_or]
     cases ((j:Nat):Int)==0
     ·simp only [cond_false,Bool.not_false,Bool.true_and]
      by_cases h2:(x.toNat:Int)<48
      ·rw [decide_eq_true h2,decide_eq_false (show ¬ 48≤x.toNat by omega)];rfl
      ·rw [decide_eq_false h2,decide_eq_true (show 48≤x.toNat by omega)]
       by_cases h3:(x.toNat:Int)>57
       ·rw [decide_eq_true h3,decide_eq_false (show ¬ x.toNat≤57 by omega)];rfl
       ·rw [decide_eq_false h3,decide_eq_true (show x.toNat≤57 by omega)];rfl
     ·rfl
    ·rw [decide_eq_false h1,decide_eq_true (show 97≤x.toNat by omega)]
     simp only [cond_false,Bool.true_and]
     by_cases h2:(x.toNat:Int)>122
     ·rw [decide_eq_true h2,decide_eq_false (show ¬ x.toNat≤122 by omega),decide_eq_false (show ¬ x.toNat≤57 by omega),decide_eq_false (show ¬ (x.toNat:Int)<48 by omega),decide_eq_true (show (x.toNat:Int)>57 by omega)]
      cases ((j:Nat):Int)==0<;>simp [Sh.aft]
     ·rw [decide_eq_false h2,decide_eq_true (show x.toNat≤122 by omega)];simp [Sh.aft]),aft_bif]
   have e:(List.range' 0 ((c::r).length-0)).all (fun j=>isLet ((c::r).getD j 0)||(!(((j:Nat):Int)==0)&&isDig ((c::r).getD j 0)))=(isLet c&&r.all (fun b=>isLet b||isDig b)):=by
    rw [show (c::r).length-0=r.length+1 by simp,List.range'_succ,List.all_cons]
    have e0:(isLet ((c::r).getD 0 0)||(!(((0:Nat):Int)==0)&&isDig ((c::r).getD 0 0)))=isLet c:=by simp
    rw [e0]
    congr 1
    rw [all_congr (q:=fun j=>(fun b=>isLet b||isDig b) ((c::r).getD j 0)) _ _ (fun j h1 _=>by
     have:(((j:Nat):Int)==0)=false:=by simp;omega
     simp only [this,Bool.not_false,Bool.true_and])]
    have:=all_getD (fun b=>isLet b||isDig b) 0 (c::r) 1
    simpa using this
   rw [e]
   have e2:((c::r)==[])=false:=rfl
   rw [e2]
   simp only [cond_false]
   by_cases h30:r.length≤29
   ·rw [decide_eq_true h30,decide_eq_true (by simp;omega:(((c::r).length:Nat):Int)≤30)]
    cases isLet c&&r.all (fun b=>isLet b||isDig b)<;>rfl
   ·rw [decide_eq_false h30,decide_eq_false (by simp;omega:¬ (((c::r).length:Nat):Int)≤30)]
    cases isLet c&&r.all (fun b=>isLet b||isDig b)<;>rfl
end Go.Proofs.YtjfpcjnopbfekaaGreatDoor
/- PLAIN LAWS, of no program: maps in any order; loops over lists. -/
namespace Go.Sh
theorem nodup_le {α:Type} [DecidableEq α]:∀ (l l':List α),l.Nodup→(∀ x∈l,x∈l')→l.length≤l'.length
 | [],l',_,_=>by simp
 | a::l,l',h,hs=>by
  rw [List.nodup_cons] at h
  have ha:a∈l':=hs a (by simp)
  have ih:=nodup_le l (l'.erase a) h.2 (fun x hx=>by
   have hne:x≠a:=fun e=>h.1 (e ▸ hx)
   exact (List.mem_erase_of_ne hne).2 (hs x (by simp [hx])))
  rw [List.length_erase_of_mem ha] at ih
  have:0<l'.length:=List.length_pos_of_mem ha
  simp only [List.length_cons];omega
theorem mr_go {V σ ε β:Type} {m:List (Str×V)} {body:Str×V→σ→Option (Stp σ ε β)} {K:σ→Prop} {J:β→Prop} (I:List Nat→σ→Prop) (g:σ→Str×V→σ)
 (hstep:∀ seen s i (h:i<m.length),seen.Nodup→i ∉ seen→(∀ j∈seen,j<m.length)→I seen s→body m[i] s=some (.go (g s m[i]))∧I (seen++[i]) (g s m[i]))
 (hend:∀ seen s,seen.Nodup→(∀ i,i<m.length→i∈seen)→(∀ i∈seen,i<m.length)→I seen s→K s) :
 ∀ (n:Nat) (seen:List Nat) (s:σ),seen.Nodup→(∀ i∈seen,i<m.length)→n+seen.length=m.length→I seen s→MR m body K J n seen s
 | 0,seen,s,h1,h2,h3,hI=>by
  have hall:∀ i,i<m.length→i∈seen:=by
   intro i hi
   refine Classical.byContradiction fun hn => ?_
   have:=nodup_le (i::seen) (List.range m.length) (List.nodup_cons.2 ⟨hn,h1⟩) (fun x hx=>by
    rcases List.mem_cons.1 hx with rfl | hx
    ·simpa using hi
    ·simpa using h2 x hx)
   simp at this;omega
  exact ⟨hall,hend seen s h1 hall h2 hI⟩
 | n+1,seen,s,h1,h2,h3,hI=>by
  refine ⟨?_,fun i hi hn => ?_⟩
  ·refine Classical.byContradiction fun hn => ?_
   have:=nodup_le (List.range m.length) seen List.nodup_range (fun x hx=>Classical.byContradiction fun hx2=>hn ⟨x,by simpa using hx,hx2⟩)
   simp at this;omega
  ·obtain ⟨e1,e2⟩:=hstep seen s i hi h1 hn h2 hI
   refine ⟨_,e1,?_⟩
   have hnd:(seen++[i]).Nodup:=by
    rw [List.nodup_append]
    exact ⟨h1,by simp,fun a ha b hb=>by
     have:b=i:=by simpa using hb
     subst this;intro e;subst e;exact hn ha⟩
   exact mr_go I g hstep hend n (seen++[i]) _ hnd (fun j hj=>by
    rcases List.mem_append.1 hj with hj | hj
    ·exact h2 j hj
    ·have:j=i:=by simpa using hj
     subst this;exact hi) (by simp;omega) e2
def leS (x y:Str):Bool:=decide (x≤y)
theorem leS_trans (a b c:Str) (h1:leS a b=true) (h2:leS b c=true):leS a c=true:=by
 simp only [leS,decide_eq_true_eq] at *;exact List.le_trans h1 h2
theorem leS_total (a b:Str):(leS a b||leS b a)=true:=by
 simp only [leS,Bool.or_eq_true,decide_eq_true_eq];exact List.le_total a b
theorem leS_anti (a b:Str) (h1:leS a b=true) (h2:leS b a=true):a=b:=by
 simp only [leS,decide_eq_true_eq] at *;exact List.le_antisymm h1 h2
theorem sort_sorted (l:List Str):(Go.Ab.sortS l).Pairwise (fun a b=>leS a b=true):=List.pairwise_mergeSort leS_trans leS_total l
theorem sort_perm (l:List Str):(Go.Ab.sortS l).Perm l:=List.mergeSort_perm l _
theorem sort_eq {l r:List Str} (hs:r.Pairwise (fun a b=>leS a b=true)) (hp:r.Perm l):Go.Ab.sortS l=r :=
 List.Perm.eq_of_pairwise (fun a b _ _=>leS_anti a b) (sort_sorted l) hs ((sort_perm l).trans hp.symm)
def insS (x:Str):List Str→List Str
 | []=>[x]
 | y::l=>bif leS x y then x::y::l else y::insS x l
def sortI:List Str→List Str
 | []=>[]
 | x::l=>insS x (sortI l)
theorem insS_perm (x:Str):∀ l,(insS x l).Perm (x::l)
 | []=>.refl _
 | y::l=>by
  simp only [insS]
  cases leS x y
  ·exact ((insS_perm x l).cons y).trans (.swap _ _ _)
  ·exact .refl _
theorem insS_sorted (x:Str):∀ {l:List Str},l.Pairwise (fun a b=>leS a b=true)→(insS x l).Pairwise (fun a b=>leS a b=true)
 | [],_=>by simp [insS]
 | y::l,h=>by
  rw [List.pairwise_cons] at h
  simp only [insS]
  cases hxy:leS x y
  ·simp only [cond_false,List.pairwise_cons]
   have hyx:leS y x=true:=by
    have:=leS_total x y
    rw [hxy] at this;simpa using this
   refine ⟨fun a ha => ?_,insS_sorted x h.2⟩
   rcases List.mem_cons.1 ((insS_perm x l).mem_iff.1 ha) with rfl | ha
   ·exact hyx
   ·exact h.1 a ha
  ·simp only [cond_true,List.pairwise_cons]
   refine ⟨fun a ha => ?_,h⟩
   rcases List.mem_cons.1 ha with rfl | ha
   ·exact hxy
   ·exact leS_trans _ _ _ hxy (h.1 a ha)
theorem sortI_perm:∀ l,(sortI l).Perm l
 | []=>.refl _
 | x::l=>(insS_perm x _).trans ((sortI_perm l).cons x)
theorem sortI_sorted:∀ l,(sortI l).Pairwise (fun a b=>leS a b=true)
 | []=>List.Pairwise.nil
 | x::l=>insS_sorted x (sortI_sorted l)
theorem sortS_eq (l:List Str):Go.Ab.sortS l=sortI l:=sort_eq (sortI_sorted l) (sortI_perm l)
end Go.Sh
namespace Go.Sh
section
variable {α σ ε ρ:Type}
def loopL (g:α→σ→Stp σ ε ρ) (fin:σ→ε):List α→σ→Out ε ρ
 | [],s=>.brk (fin s)
 | x::l,s=>match g x s with | .go s'=>loopL g fin l s' | .brk e=>.brk e | .ret r=>.ret r
theorem cnt_list {body:Nat→σ→Option (Stp σ ε ρ)} {fin:Nat→σ→ε} {f:σ→ε} (d:α) (l:List α) (g:α→σ→Stp σ ε ρ) (I:Nat→σ→Prop) (hf:∀ i s,fin i s=f s) :
 ∀ (i:Nat) (s:σ),I i s→(∀ j s,i≤j→j<l.length→I j s→body j s=some (g (l.getD j d) s)∧∀ s',g (l.getD j d) s = .go s'→I (j+1) s') →
 cnt body fin (l.length-i) i s=some (loopL g f (l.drop i) s):=by
 intro i s hI h
 by_cases hi:i<l.length
 ·obtain ⟨k,hk⟩:∃ k,l.length-i=k+1:=⟨l.length-i-1,by omega⟩
  obtain ⟨h1,h2⟩:=h i s (Nat.le_refl _) hi hI
  have hx:l.getD i d=l[i]:=by simp [List.getD_eq_getElem?_getD,List.getElem?_eq_getElem hi]
  rw [hx] at h1 h2
  rw [hk,List.drop_eq_getElem_cons hi]
  simp only [cnt,h1,Option.bind_some,loopL]
  cases hg:g l[i] s with
  | go s' =>
   have ih:=cnt_list d l g I hf (i+1) s' (h2 s' hg) (fun j s h1 h2=>h j s (by omega) h2)
   rw [show l.length-(i+1)=k by omega] at ih
   exact ih
  | brk e=>rfl
  | ret r=>rfl
 ·rw [show l.length-i=0 by omega,List.drop_eq_nil_of_le (by omega)]
  simp [cnt,loopL,hf]
 termination_by i=>l.length-i
theorem cnt_list0 {body:Nat→σ→Option (Stp σ ε ρ)} {fin:Nat→σ→ε} {f:σ→ε} (d:α) (l:List α) (g:α→σ→Stp σ ε ρ) (I:Nat→σ→Prop) (hf:∀ i s,fin i s=f s) (s:σ) (hI:I 0 s)
 (h:∀ j s,j<l.length→I j s→body j s=some (g (l.getD j d) s)∧∀ s',g (l.getD j d) s = .go s'→I (j+1) s') :
 cnt body fin (l.length-0) 0 s=some (loopL g f l s):=by
 have:=cnt_list d l g I hf 0 s hI (fun j s _ h1 h2=>h j s h1 h2)
 simpa using this
theorem cnt_place {body:Nat→Unit→Option (Stp Unit Nat ρ)} (p:Nat→Bool):∀ (k i:Nat) (u:Unit),(∀ j u,i≤j→j<i+k→body j u=some (bif p j then .brk j else .go ())) →
 cnt body (fun i _=>i) k i u=some (.brk (match (List.range' i k).find? p with | some j=>j | none=>i+k))
 | 0,i,u,h=>by simp [cnt]
 | k+1,i,u,h=>by
  simp only [cnt,h i u (Nat.le_refl _) (by omega),List.range'_succ,List.find?_cons]
  cases hp:p i with
  | false =>
   simp only [cond_false,Option.bind_some,stp]
   rw [cnt_place p k (i+1) () (fun j u h1 h2=>h j u (by omega) (by omega))]
   rw [show i+1+k=i+(k+1) by omega]
  | true=>simp [stp]
end
end Go.Sh
/- PLAIN LAWS of layer 5: what a valid polynomial is. -/
namespace Go.Proofs.YtjfpcjnopbfekaaGreatDoor
open Go.Ab Go.Sh
theorem w64_same {n:Int} (h1 : -9223372036854775808≤n) (h2:n≤9223372036854775807):w64 n=n:=by unfold w64 IntKind.wrap IntKind.bits IntKind.signed;simp;omega
theorem isNaN_f (x:Str):cmp_isNaN_string x=some false:=by simp [cmp_isNaN_string]
theorem less_eq (x y:Str):cmp_Less_string x y=some (Op.bytesLess x y):=by simp [cmp_Less_string,isNaN_f]
theorem compare1_eq (x y:Str):cmp_Compare_string x y=some (cmpS x y):=by
 simp only [cmp_Compare_string,isNaN_f,Option.bind_some,cond_false]
 cases h:Op.bytesLess x y with
 | true=>simp [cmpS,h]
 | false =>
  rcases cb_tri x y with h1 | h1 | h1
  ·rw [h] at h1;cases h1
  ·subst h1;simp [cmpS,h]
  ·have hne:(x==y)=false:=by
    rw [beq_eq_false_iff_ne];intro e;subst e;rw [h] at h1;cases h1
   simp [cmpS,h,h1,hne]
theorem compare_eq (a b:List Str):slices_Compare_string a b=some (cmpL a b):=by
 unfold slices_Compare_string
 generalize hb:(fun (i37:Nat) (s36:Unit)=>_:Nat→Unit→Option (Stp Unit Unit Int))=body
 have key:∀ k i u,i+k=a.length→i≤b.length→(∀ j,j<i→a.getD j []=b.getD j [])→(cnt body (fun _ _=>()) k i u).bind (aft fun _=>bif decide (((a.length:Nat):Int)<((b.length:Nat):Int)) then some (-1) else some 0)=some (cmpL a b):=by
  intro k
  induction k with
  | zero =>
   intro i u h1 h2 hA
   simp only [cnt,Option.bind_some,Sh.aft]
   by_cases h:a.length<b.length
   ·rw [decide_eq_true (by omega),cmpL_lt hA (by omega) (by omega)];rfl
   ·rw [decide_eq_false (by omega),cmpL_eq hA (by omega) (by omega)];rfl
  | succ k ih =>
   intro i u h1 h2 hA
   have e0:body i u=bif decide (((i:Nat):Int)≥((b.length:Nat):Int)) then some (.ret 1) else (cmp_Compare_string (a.getD i []) (b.getD i [])).bind fun y=>bif (y==0) then some (.go ()) else some (.ret y):=by rw [← hb]
   simp only [cnt]
   rw [e0]
   by_cases hl:b.length≤i
   ·rw [decide_eq_true (by omega),cmpL_gt hA (by omega) (by omega)];rfl
   ·rw [decide_eq_false (by omega)]
    simp only [cond_false,compare1_eq,Option.bind_some]
    by_cases hz:cmpS (a.getD i []) (b.getD i [])=0
    ·rw [hz]
     simp only [beq_self_eq_true,cond_true,Option.bind_some,stp]
     exact ih (i+1) () (by omega) (by omega) fun j hj=>by
      by_cases e:j=i
      ·subst e;exact cmpS_zero.1 hz
      ·exact hA j (by omega)
    ·rw [beq_eq_false_iff_ne.2 hz,cmpL_at hA (by omega) (by omega) hz]
     simp [stp,Sh.aft]
 exact key (a.length-0) 0 () (by omega) (Nat.zero_le _) (fun j hj=>absurd hj (Nat.not_lt_zero _))
theorem order_eq (a b:List Str) (ha:a.length≤1000000) (hb2:b.length≤1000000):∃ r,ref05_order a b=some r∧(0≤r↔0≤cmpL a b)∧(r=0↔cmpL a b=0):=by
 unfold ref05_order
 generalize hb:(fun (i47:Nat) (s46:Unit)=>_:Nat→Unit→Option (Stp Unit Unit Int))=body
 have hend:w64 (((a.length:Nat):Int)-((b.length:Nat):Int))=((a.length:Nat):Int)-((b.length:Nat):Int):=w64_same (by omega) (by omega)
 have key:∀ k i u,i+k=a.length→i≤b.length→(∀ j,j<i→a.getD j []=b.getD j [])→∃ r,(cnt body (fun _ _=>()) k i u).bind (aft fun _=>some (w64 (((a.length:Nat):Int)-((b.length:Nat):Int))))=some r∧(0≤r↔0≤cmpL a b)∧(r=0↔cmpL a b=0):=by
  intro k
  induction k with
  | zero =>
   intro i u h1 h2 hA
   refine ⟨_,rfl,?_⟩
   rw [hend]
   by_cases h:a.length<b.length
   ·rw [cmpL_lt hA (by omega) (by omega)];omega
   ·rw [cmpL_eq hA (by omega) (by omega)];omega
  | succ k ih =>
   intro i u h1 h2 hA
   have e0:body i u=bif decide (((i:Nat):Int)<((b.length:Nat):Int)) then (bif (Op.bytesLess (a.getD i []) (b.getD i [])) then some (.ret (-1)) else (bif (Op.bytesLess (a.getD i []) (b.getD i [])||(a.getD i [])==(b.getD i [])) then some (.go ()) else some (.ret 1))) else some (.brk ()):=by rw [← hb]
   simp only [cnt]
   rw [e0]
   by_cases hl:b.length≤i
   ·rw [decide_eq_false (by omega)]
    refine ⟨_,rfl,?_⟩
    rw [hend,cmpL_gt hA (by omega) (by omega)];omega
   ·rw [decide_eq_true (by omega)]
    simp only [cond_true]
    rcases cb_tri (a.getD i []) (b.getD i []) with h3 | h3 | h3
    ·rw [h3,cmpL_at hA (by omega) (by omega) (by have:=cmpS_neg.2 h3;omega)]
     refine ⟨_,rfl,?_⟩
     have:=cmpS_neg.2 h3;omega
    ·rw [h3,cb_irrefl]
     simp only [cond_false,Bool.false_or,beq_self_eq_true,cond_true,Option.bind_some,stp]
     exact ih (i+1) () (by omega) (by omega) fun j hj=>by
      by_cases e:j=i
      ·subst e;exact h3
      ·exact hA j (by omega)
    ·have hne:(a.getD i []==b.getD i [])=false:=by
      rw [beq_eq_false_iff_ne];intro e;rw [e,cb_irrefl] at h3;cases h3
     rw [cb_asymm h3,hne,cmpL_at hA (by omega) (by omega) (by have:=cmpS_pos.2 h3;omega)]
     refine ⟨_,rfl,?_⟩
     have:=cmpS_pos.2 h3;omega
 exact key (a.length-0) 0 () (by omega) (Nat.zero_le _) (fun j hj=>absurd hj (Nat.not_lt_zero _))
def srtB (x:List Str):Bool:=(List.range' 1 (x.length-1)).all fun j => !(Op.bytesLess (x.getD j []) (x.getD (j-1) []))
theorem range'_last (n:Nat):List.range' 1 (n+1)=List.range' 1 n++[n+1]:=by
 rw [List.range'_concat];simp [Nat.add_comm]
theorem isSorted_eq (x:List Str) (hx:x.length≤1000000):slices_IsSorted_string x=some (srtB x):=by
 unfold slices_IsSorted_string
 generalize hb:(fun (s32:Int)=>_:Int→Option (Stp Int Unit Bool))=body
 have key:∀ k fuel,k<x.length∨k=0→k<fuel→(whl body fuel ((k:Nat):Int)).bind (aft fun _=>some true)=some ((List.range' 1 k).all fun j => !(Op.bytesLess (x.getD j []) (x.getD (j-1) []))):=by
  intro k
  induction k with
  | zero =>
   intro fuel _ hf
   obtain ⟨f,rfl⟩:∃ f,fuel=f+1:=⟨fuel-1,by omega⟩
   have e0:body ((0:Nat):Int)=some (.brk ()):=by rw [← hb];rfl
   simp only [whl,e0,Option.bind_some,stp,Sh.aft];rfl
  | succ k ih =>
   intro fuel hk hf
   obtain ⟨f,rfl⟩:∃ f,fuel=f+1:=⟨fuel-1,by omega⟩
   have ew:w64 (((k+1:Nat):Int)-1)=((k:Nat):Int):=by rw [w64_same (by omega) (by omega)];omega
   have e0:body ((k+1:Nat):Int)=bif (Op.bytesLess (x.getD (k+1) []) (x.getD k [])) then some (.ret false) else some (.go ((k:Nat):Int)):=by
    rw [← hb]
    simp only [ew]
    rw [decide_eq_true (by omega)]
    simp only [cond_true]
    rw [grd_pos (by omega),grd_pos (by omega),less_eq]
    simp
   simp only [whl,e0]
   rw [range'_last,List.all_append]
   cases h:Op.bytesLess (x.getD (k+1) []) (x.getD k []) with
   | true=>simp only [cond_true,Option.bind_some,stp,Sh.aft,List.all_cons,List.all_nil,Bool.and_true,Nat.add_sub_cancel,h,Bool.not_true,Bool.and_false]
   | false =>
    simp only [cond_false,Option.bind_some,stp]
    rw [ih f (by omega) (by omega)]
    simp only [List.all_cons,List.all_nil,Bool.and_true,Nat.add_sub_cancel,h,Bool.not_false]
 by_cases h0:x.length=0
 ·have ex:x=[]:=List.eq_nil_of_length_eq_zero h0
  subst ex
  have e0:body (w64 (-1))=some (.brk ()):=by rw [← hb];rfl
  have e1:w64 ((([]:List Str).length:Nat)-1:Int)=w64 (-1):=rfl
  have e2:∀ fuel,(whl body (fuel+1) (w64 (-1))).bind (Sh.aft fun _=>some true)=some true:=fun fuel=>by simp only [whl,e0,Option.bind_some,stp,Sh.aft]
  exact e2 4294967295
 ·have ew:w64 (((x.length:Nat):Int)-1)=((x.length-1:Nat):Int):=by rw [w64_same (by omega) (by omega)];omega
  rw [ew]
  exact key (x.length-1) _ (by omega) (by omega)
theorem contains_eq (x:List Str) (hN:∀ v∈x,v.length≤1000000):slices_ContainsFunc_string x=some (!(x.all nameS)):=by
 have h1:∀ v∈x,poly_Valid_1 v=some (!(nameS v)):=fun v hv=>by unfold poly_Valid_1;rw [linear_Name_eq v (hN v hv)];rfl
 unfold slices_ContainsFunc_string slices_IndexFunc_string
 rw [cnt_find (f:=fun j=>((j:Nat):Int)) (fun j => !(nameS (x.getD j []))) _ _ () (fun j u _ hj=>by
  rw [h1 (x.getD j []) (by rw [List.getD_eq_getElem?_getD,List.getElem?_eq_getElem (by omega)];exact List.getElem_mem _)]
  cases nameS (x.getD j [])<;>rfl)]
 have h2:=find_idx0 (fun v => !(nameS v)) [] x
 have h3:=idxOf_neg (fun v => !(nameS v)) x
 have h4:x.any (fun v => !(nameS v)) = !(x.all nameS):=by
  rw [List.not_all_eq_any_not]
 generalize (List.range' 0 (x.length-0)).find? (fun j => !(nameS (x.getD j [])))=o at h2 ⊢
 cases o with
 | none =>
  simp only [Option.bind_some,Sh.aft]
  rw [← h2] at h3
  rw [← h4,h3.1 (by decide)];rfl
 | some j =>
  simp only [Option.bind_some,Sh.aft]
  rw [← h2] at h3
  have:x.any (fun v => !(nameS v))=true:=by
   cases h5:x.any (fun v => !(nameS v)) with
   | true=>rfl
   | false=>have h6:=h3.2 h5;simp only at h6;omega
  rw [← h4,this]
  simp
def okM (m:Monomial):Bool := !(m.Coef==0)&&(decide (-1099511627776≤m.Coef)&&(decide (m.Coef≤1099511627776)&&(decide (m.Vars.length≤8)&&(srtB m.Vars&&m.Vars.all nameS))))
def monoAt (p:List Monomial) (j:Nat):Monomial:=p.getD j ⟨0,[]⟩
def stepOk (p:List Monomial) (j:Nat):Bool:=okM (monoAt p j)&&(((j:Nat):Int)==0||decide (cmpL (monoAt p (j-1)).Vars (monoAt p j).Vars<0))
def validP (p:List Monomial):Bool:=(List.range' 0 (p.length-0)).all (stepOk p)&&decide (p.length≤60)
def Bd (p:List Monomial):Prop:=p.length≤1000000∧∀ m∈p,m.Vars.length≤1000000∧∀ v∈m.Vars,v.length≤1000000
theorem monoAt_mem {p:List Monomial} {j:Nat} (h:j<p.length):monoAt p j∈p:=by
 unfold monoAt;rw [List.getD_eq_getElem?_getD,List.getElem?_eq_getElem h];exact List.getElem_mem _
theorem poly_Valid_eq (p:List Monomial) (hB:Bd p):poly_Valid p=some (validP p):=by
 unfold poly_Valid
 rw [cnt_all (stepOk p) _ _ () (fun j u _ hj=>by
  have hm:=hB.2 _ (monoAt_mem (p:=p) (j:=j) (by omega))
  have hw:∀ (h:0<j),w64 (((j:Nat):Int)-1)=((j-1:Nat):Int):=fun h=>by rw [w64_same (by have:=hB.1;omega) (by have:=hB.1;omega)];omega
  show _=_
  unfold stepOk okM
  simp only [show p.getD j ⟨0,[]⟩=monoAt p j from rfl,isSorted_eq _ hm.1,contains_eq _ hm.2,Option.bind_some]
  by_cases hj0:0<j
  ·have hjz:(((j:Nat):Int)==0)=false:=by simp;omega
   rw [hw hj0,grd_pos (by omega),hjz,decide_eq_true (show ((j:Nat):Int)>0 by omega)]
   simp only [Int.toNat_natCast,show p.getD (j-1) ⟨0,[]⟩=monoAt p (j-1) from rfl,compare_eq,Option.bind_some,Bool.false_or,cond_true]
   generalize cmpL (monoAt p (j-1)).Vars (monoAt p j).Vars=r
   generalize monoAt p j=m
   have e1:decide (m.Coef < -1099511627776) = !(decide (-1099511627776≤m.Coef)):=by rw [Bool.eq_iff_iff];simp
   have e2:decide (m.Coef>1099511627776) = !(decide (m.Coef≤1099511627776)):=by rw [Bool.eq_iff_iff];simp
   have e3:decide (((m.Vars.length:Nat):Int)>8) = !(decide (m.Vars.length≤8)):=by rw [Bool.eq_iff_iff];simp;omega
   have e4:decide (r≥0) = !(decide (r<0)):=by rw [Bool.eq_iff_iff];simp
   rw [e1,e2,e3,e4]
   cases m.Coef==0<;>cases decide (-1099511627776≤m.Coef)<;>cases decide (m.Coef≤1099511627776)<;>cases decide (m.Vars.length≤8)<;>cases srtB m.Vars<;>cases m.Vars.all nameS<;>cases decide (r<0)<;>rfl
  ·have:j=0:=by omega
   subst this
   generalize monoAt p 0=m
   have e1:decide (m.Coef < -1099511627776) = !(decide (-1099511627776≤m.Coef)):=by rw [Bool.eq_iff_iff];simp
   have e2:decide (m.Coef>1099511627776) = !(decide (m.Coef≤1099511627776)):=by rw [Bool.eq_iff_iff];simp
   have e3:decide (((m.Vars.length:Nat):Int)>8) = !(decide (m.Vars.length≤8)):=by rw [Bool.eq_iff_iff];simp;omega
   rw [e1,e2,e3]
   cases m.Coef==0<;>cases decide (-1099511627776≤m.Coef)<;>cases decide (m.Coef≤1099511627776)<;>cases decide (m.Vars.length≤8)<;>cases srtB m.Vars<;>cases m.Vars.all nameS<;>rfl),aft_bif]
 unfold validP
 cases (List.range' 0 (p.length-0)).all (stepOk p) with
 | false=>rfl
 | true =>
  simp only [cond_true,Bool.true_and,Option.some.injEq]
  rw [decide_eq_decide];omega
end Go.Proofs.YtjfpcjnopbfekaaGreatDoor
/- PLAIN LAWS of layer 5: the specification says just as much of a valid polynomial. -/
namespace Go.Proofs.YtjfpcjnopbfekaaGreatDoor
open Go.Ab Go.Sh
theorem le_flip (x y:Str):(Op.bytesLess x y||x==y) = !(Op.bytesLess y x):=by
 rcases cb_tri x y with h | h | h
 ·simp [h,cb_asymm h]
 ·subst h;simp [cb_irrefl]
 ·have hne:(x==y)=false:=by rw [beq_eq_false_iff_ne];intro e;subst e;rw [cb_irrefl] at h;cases h
  simp [h,hne,cb_asymm h]
def nm (x:List Str) (k:Nat):Bool:=nameS (x.getD k [])&&(((k:Nat):Int)==0 || !(Op.bytesLess (x.getD k []) (x.getD (k-1) [])))
theorem nm_all (x:List Str):(List.range' 0 (x.length-0)).all (nm x)=(srtB x&&x.all nameS):=by
 have h1:=all0 nameS [] x
 rw [← h1]
 unfold srtB
 rw [Bool.eq_iff_iff]
 simp only [Bool.and_eq_true,List.all_eq_true,List.mem_range'_1,nm,Bool.or_eq_true,beq_iff_eq]
 constructor
 ·intro h
  refine ⟨fun j hj => ?_,fun j hj=>(h j hj).1⟩
  rcases (h j (by omega)).2 with h2 | h2
  ·omega
  ·exact h2
 ·rintro ⟨h2,h3⟩ j hj
  refine ⟨h3 j hj,?_⟩
  by_cases h0:j=0
  ·exact .inl (by omega)
  ·exact .inr (h2 j (by omega))
theorem ref05_Valid_eq (p:List Monomial) (hB:Bd p):ref05_Valid p=some (validP p):=by
 unfold ref05_Valid
 unfold validP
 by_cases h60:p.length≤60
 ·rw [decide_eq_false (by omega),decide_eq_true h60]
  simp only [cond_false,Bool.and_true]
  rw [cnt_all (stepOk p) _ _ () (fun j u _ hj=>by
   have hm:=hB.2 _ (monoAt_mem (p:=p) (j:=j) (by omega))
   have hw:∀ {j:Nat} (h:0<j),j≤1000000→w64 (((j:Nat):Int)-1)=((j-1:Nat):Int):=fun h h2=>by rw [w64_same (by omega) (by omega)];omega
   show _=_
   simp only [show p.getD j ⟨0,[]⟩=monoAt p j from rfl]
   rw [cnt_all (nm (monoAt p j).Vars) _ _ () (fun k u _ hk=>by
    unfold nm
    rw [ref04_Name_eq]
    simp only [Option.bind_some]
    cases nameS ((monoAt p j).Vars.getD k []) with
    | false=>rfl
    | true =>
     simp only [cond_true,Bool.true_and]
     by_cases hk0:0<k
     ·have hkz:(((k:Nat):Int)==0)=false:=by simp;omega
      rw [hw hk0 (by omega),grd_pos (by omega),hkz,decide_eq_true (show ((k:Nat):Int)>0 by omega)]
      simp only [Int.toNat_natCast,le_flip,Bool.false_or,cond_true]
      cases Op.bytesLess ((monoAt p j).Vars.getD k []) ((monoAt p j).Vars.getD (k-1) [])<;>rfl
     ·have:k=0:=by omega
      subst this
      rfl),nm_all]
   unfold stepOk okM
   by_cases hj0:0<j
   ·have hm':=hB.2 _ (monoAt_mem (p:=p) (j:=j-1) (by omega))
    have hjz:(((j:Nat):Int)==0)=false:=by simp;omega
    obtain ⟨r,hr,hr1,hr2⟩:=order_eq (monoAt p (j-1)).Vars (monoAt p j).Vars hm'.1 hm.1
    rw [hw hj0 (by omega),grd_pos (by omega),hjz,decide_eq_true (show ((j:Nat):Int)>0 by omega)]
    simp only [Int.toNat_natCast,show p.getD (j-1) ⟨0,[]⟩=monoAt p (j-1) from rfl,hr,Option.bind_some,Bool.false_or,cond_true]
    have e4:decide (r≥0) = !(decide (cmpL (monoAt p (j-1)).Vars (monoAt p j).Vars<0)):=by rw [Bool.eq_iff_iff];simp;omega
    rw [e4]
    generalize cmpL (monoAt p (j-1)).Vars (monoAt p j).Vars=r
    generalize monoAt p j=m
    have e1:decide (m.Coef < -1099511627776) = !(decide (-1099511627776≤m.Coef)):=by rw [Bool.eq_iff_iff];simp
    have e2:decide (m.Coef>1099511627776) = !(decide (m.Coef≤1099511627776)):=by rw [Bool.eq_iff_iff];simp
    have e3:decide (((m.Vars.length:Nat):Int)>8) = !(decide (m.Vars.length≤8)):=by rw [Bool.eq_iff_iff];simp;omega
    rw [e1,e2,e3]
    cases m.Coef==0<;>cases decide (-1099511627776≤m.Coef)<;>cases decide (m.Coef≤1099511627776)<;>cases decide (m.Vars.length≤8)<;>cases srtB m.Vars<;>cases m.Vars.all nameS<;>cases decide (r<0)<;>rfl
   ·have:j=0:=by omega
    subst this
    generalize monoAt p 0=m
    have e1:decide (m.Coef < -1099511627776) = !(decide (-1099511627776≤m.Coef)):=by rw [Bool.eq_iff_iff];simp
    have e2:decide (m.Coef>1099511627776) = !(decide (m.Coef≤1099511627776)):=by rw [Bool.eq_iff_iff];simp
    have e3:decide (((m.Vars.length:Nat):Int)>8) = !(decide (m.Vars.length≤8)):=by rw [Bool.eq_iff_iff];simp;omega
    rw [e1,e2,e3]
    cases m.Coef==0<;>cases decide (-1099511627776≤m.Coef)<;>cases decide (m.Coef≤1099511627776)<;>cases decide (m.Vars.length≤8)<;>cases srtB m.Vars<;>cases m.Vars.all nameS<;>rfl),aft_bif]
  cases (List.range' 0 (p.length-0)).all (stepOk p)<;>rfl
 ·rw [decide_eq_true (by omega),decide_eq_false h60]
  simp
end Go.Proofs.YtjfpcjnopbfekaaGreatDoor
/- PLAIN LAWS of layer 3: products and sums are exact, or there is an error. -/
namespace Go.Proofs.YtjfpcjnopbfekaaGreatDoor
open Go.Ab Go.Sh
theorem cnt_inv {σ ε ρ:Type} {body:Nat→σ→Option (Stp σ ε ρ)} {fin:Nat→σ→ε} (I:Nat→σ→Prop):∀ (k i:Nat) (s:σ),I i s→(∀ j s,i≤j→j<i+k→I j s→∃ s',body j s=some (.go s')∧I (j+1) s') →
 ∃ s',cnt body fin k i s=some (.brk (fin (i+k) s'))∧I (i+k) s'
 | 0,i,s,hI,h=>⟨s,by simp [cnt],hI⟩
 | k+1,i,s,hI,h=>by
  obtain ⟨s1,h1,h2⟩:=h i s (Nat.le_refl _) (by omega) hI
  obtain ⟨s',e1,e3⟩:=cnt_inv I k (i+1) s1 h2 (fun j s h1 h2=>h j s (by omega) (by omega))
  refine ⟨s',?_,by rw [show i+(k+1)=i+1+k by omega];exact e3⟩
  simp only [cnt,h1,Option.bind_some,stp]
  rw [e1,show i+1+k=i+(k+1) by omega]
def inB (n:Int):Bool:=decide (-4611686018427387904≤n)&&decide (n≤4611686018427387904)
theorem inB_iff {n:Int}:inB n=true ↔ -4611686018427387904≤n∧n≤4611686018427387904:=by simp [inB]
theorem intmath_in_eq (l:List Int):intmath_in l=some (l.all inB):=by
 unfold intmath_in
 rw [cnt_all (fun j=>inB (l.getD j 0)) _ _ () (fun j u _ _=>by
  generalize l.getD j 0=n
  unfold inB
  have e1:decide (n < -4611686018427387904) = !(decide (-4611686018427387904≤n)):=by rw [Bool.eq_iff_iff];simp
  have e2:decide (n>4611686018427387904) = !(decide (n≤4611686018427387904)):=by rw [Bool.eq_iff_iff];simp
  rw [e1,e2]
  cases decide (-4611686018427387904≤n)<;>cases decide (n≤4611686018427387904)<;>rfl),aft_bif,all0 inB 0 l]
 cases l.all inB<;>rfl
theorem abs_nat {a:Int} (h:inB a=true):intmath_abs a=some (a.natAbs:Int)∧a.natAbs≤4611686018427387904:=by
 rw [inB_iff] at h
 unfold intmath_abs
 by_cases h0:a<0
 ·rw [decide_eq_true h0]
  simp only [cond_true,Option.some.injEq]
  rw [w64_same (by omega) (by omega)];omega
 ·rw [decide_eq_false h0]
  simp only [cond_false,Option.some.injEq];omega
theorem wrap_u64 {n:Int} (h0:0≤n) (h:n<18446744073709551616):IntKind.wrap .u64 n=n:=by
 unfold IntKind.wrap IntKind.bits IntKind.signed;simp;omega
theorem wrap_i64 {n:Int} (h0:0≤n) (h:n≤9223372036854775807):IntKind.wrap .i64 n=n:=w64_same (by omega) h
theorem prod_sign (a b:Int):((decide (a<0)==decide (b<0))=true→a*b=((a.natAbs*b.natAbs:Nat):Int))∧((decide (a<0)==decide (b<0))=false→a*b = -((a.natAbs*b.natAbs:Nat):Int)):=by
 rcases Int.natAbs_eq a with ha | ha<;>rcases Int.natAbs_eq b with hb | hb
 all_goals
  generalize a.natAbs=x at ha ⊢
  generalize b.natAbs=y at hb ⊢
  subst ha;subst hb
 ·refine ⟨fun _=>by push_cast;rfl,fun h => ?_⟩
  rw [decide_eq_false (by omega),decide_eq_false (by omega)] at h;cases h
 ·constructor
  ·intro h
   by_cases hy:y=0
   ·subst hy;simp
   ·rw [decide_eq_false (by omega),decide_eq_true (by omega)] at h;cases h
  ·intro _;rw [Int.mul_neg];push_cast;rfl
 ·constructor
  ·intro h
   by_cases hx:x=0
   ·subst hx;simp
   ·rw [decide_eq_true (by omega),decide_eq_false (by omega)] at h;cases h
  ·intro _;rw [Int.neg_mul];push_cast;rfl
 ·constructor
  ·intro _;rw [Int.neg_mul_neg];push_cast;rfl
  ·intro h
   by_cases hx:x=0
   ·subst hx;simp
   ·by_cases hy:y=0
    ·subst hy;simp
    ·rw [decide_eq_true (by omega),decide_eq_true (by omega)] at h;cases h
theorem bnd_some {α β:Type} (x:α) (f:α→Option β):(some x).bind f=f x:=Eq.trans (Option.bind_some x f) rfl
theorem mul64_eq {x y:Int} (hx:0≤x∧x<18446744073709551616) (hy:0≤y∧y<18446744073709551616):lib_Mul64 x y=some (x*y / 18446744073709551616,x*y % 18446744073709551616):=if_pos ⟨hx,hy⟩
end Go.Proofs.YtjfpcjnopbfekaaGreatDoor
/- PLAIN LAWS of layer 3: the long sums of the program are exact. -/
namespace Go.Proofs.YtjfpcjnopbfekaaGreatDoor
open Go.Ab Go.Sh
def v3 (a b c:Int):Int:=a+b*18446744073709551616+c*340282366920938463463374607431768211456
def lm (x:Int):Prop:=0≤x∧x<18446744073709551616
theorem add64_eq {x y c:Int} (hx:lm x) (hy:lm y) (hc:0≤c∧c≤1):lib_Add64 x y c=some ((x+y+c) % 18446744073709551616,(x+y+c) / 18446744073709551616):=if_pos ⟨hx,hy,hc⟩
theorem add64_ex {x y c:Int} (hx:lm x) (hy:lm y) (hc:0≤c∧c≤1):∃ r d,lib_Add64 x y c=some (r,d)∧lm r∧(0≤d∧d≤1)∧r+d*18446744073709551616=x+y+c:=by
 refine ⟨_,_,add64_eq hx hy hc,?_⟩
 unfold lm at *
 generalize hs:x+y+c=s
 omega
theorem mul64_ex {x y:Int} (hx:lm x) (hy:lm y):∃ hi lo,lib_Mul64 x y=some (hi,lo)∧lm lo∧lo+hi*18446744073709551616=x*y∧0≤hi:=by
 refine ⟨_,_,mul64_eq hx hy,?_⟩
 have h0:0≤x*y:=Int.mul_nonneg hx.1 hy.1
 unfold lm
 generalize x*y=s at h0
 omega
theorem add3_ex {x0 x1 x2 hi lo:Int} (h0:lm x0) (h1:lm x1) (h2:lm x2) (hh:lm hi) (hl:lm lo) (hs:v3 x0 x1 x2+lo+hi*18446744073709551616<6277101735386680763835789423207666416102355444464034512896) :
 ∃ r0 r1 r2 c0 c1 c2,lib_Add64 x0 lo 0=some (r0,c0)∧lib_Add64 x1 hi c0=some (r1,c1)∧lib_Add64 x2 0 c1=some (r2,c2)∧lm r0∧lm r1∧lm r2∧v3 r0 r1 r2=v3 x0 x1 x2+lo+hi*18446744073709551616:=by
 obtain ⟨r0,c0,e0,l0,d0,s0⟩:=add64_ex h0 hl (c:=0) (by omega)
 obtain ⟨r1,c1,e1,l1,d1,s1⟩:=add64_ex h1 hh d0
 obtain ⟨r2,c2,e2,l2,d2,s2⟩:=add64_ex h2 (y:=0) (by unfold lm;omega) d1
 refine ⟨r0,r1,r2,c0,c1,c2,e0,e1,e2,l0,l1,l2,?_⟩
 unfold lm v3 at *
 omega
theorem total_add_eq {a b p0 p1 p2 n0 n1 n2 K:Int} (ha:inB a=true) (hb:inB b=true) (h0:lm p0) (h1:lm p1) (h2:lm p2) (g0:lm n0) (g1:lm n1) (g2:lm n2) (hK:v3 p0 p1 p2+v3 n0 n1 n2≤K) (hK2:K≤6277101735386680763835789423207666416102355444464034512896-21267647932558653966460912964485513216-1) :
 ∃ q0 q1 q2 m0 m1 m2,intmath_total_add a b p0 p1 p2 n0 n1 n2=some (q0,q1,q2,m0,m1,m2)∧lm q0∧lm q1∧lm q2∧lm m0∧lm m1∧lm m2∧v3 q0 q1 q2-v3 m0 m1 m2=v3 p0 p1 p2-v3 n0 n1 n2+a*b∧v3 q0 q1 q2+v3 m0 m1 m2≤K+21267647932558653966460912964485513216:=by
 obtain ⟨a1,a2⟩:=abs_nat ha
 obtain ⟨b1,b2⟩:=abs_nat hb
 obtain ⟨s1,s2⟩:=prod_sign a b
 obtain ⟨hi,lo,em,hlo,hsum,hhi⟩:=mul64_ex (x:=(a.natAbs:Int)) (y:=(b.natAbs:Int)) (by unfold lm;omega) (by unfold lm;omega)
 have hP:((a.natAbs:Int)*(b.natAbs:Int))=((a.natAbs*b.natAbs:Nat):Int):=by push_cast;rfl
 have hPb:a.natAbs*b.natAbs≤21267647932558653966460912964485513216:=by
  have:=Nat.mul_le_mul a2 b2
  exact this
 rw [hP] at hsum
 have wa:=wrap_u64 (n:=(a.natAbs:Int)) (by omega) (by omega)
 have wb:=wrap_u64 (n:=(b.natAbs:Int)) (by omega) (by omega)
 have v0:0≤v3 p0 p1 p2:=by unfold lm v3 at *;omega
 have v1:0≤v3 n0 n1 n2:=by unfold lm v3 at *;omega
 generalize a.natAbs*b.natAbs=Pn at s1 s2 hsum hPb
 have hhi2:lm hi:=by unfold lm at *;omega
 unfold intmath_total_add
 cases hs:(decide (a<0)==decide (b<0)) with
 | true =>
  obtain ⟨r0,r1,r2,c0,c1,c2,e0,e1,e2,l0,l1,l2,hv⟩:=add3_ex h0 h1 h2 hhi2 hlo (by omega)
  refine ⟨r0,r1,r2,n0,n1,n2,?_,l0,l1,l2,g0,g1,g2,?_,?_⟩
  ·simp only [cond_true]
   rw [a1,b1]
   simp only [bnd_some]
   rw [wa,wb,em]
   simp only [bnd_some]
   rw [e0]
   simp only [bnd_some]
   rw [e1]
   simp only [bnd_some]
   rw [e2]
   simp only [bnd_some]
  ·rw [hv,s1 hs];omega
  ·rw [hv];omega
 | false =>
  obtain ⟨r0,r1,r2,c0,c1,c2,e0,e1,e2,l0,l1,l2,hv⟩:=add3_ex g0 g1 g2 hhi2 hlo (by omega)
  refine ⟨p0,p1,p2,r0,r1,r2,?_,h0,h1,h2,l0,l1,l2,?_,?_⟩
  ·simp only [cond_false]
   rw [a1,b1]
   simp only [bnd_some]
   rw [wa,wb,em]
   simp only [bnd_some]
   rw [e0]
   simp only [bnd_some]
   rw [e1]
   simp only [bnd_some]
   rw [e2]
   simp only [bnd_some]
  ·rw [hv,s2 hs];omega
  ·rw [hv];omega
theorem sub64_ex {x y c:Int} (hx:lm x) (hy:lm y) (hc:0≤c∧c≤1):∃ r d,lib_Sub64 x y c=some (r,d)∧lm r∧(0≤d∧d≤1)∧r=x-y-c+d*18446744073709551616:=by
 have e:lib_Sub64 x y c=some ((x-y-c) % 18446744073709551616,if x<y+c then 1 else 0):=if_pos ⟨hx,hy,hc⟩
 refine ⟨_,_,e,?_⟩
 unfold lm at *
 generalize hs:x-y-c=s
 split<;>omega
theorem value_1_eq {a0 a1 a2 b0 b1 b2:Int} (h0:lm a0) (h1:lm a1) (h2:lm a2) (g0:lm b0) (g1:lm b1) (g2:lm b2) :
 ∃ r0 r1 r2 k,intmath_total_value_1 (a0,a1,a2) (b0,b1,b2)=some ((r0,r1,r2),k)∧(v3 b0 b1 b2≤v3 a0 a1 a2→k=true∧lm r0∧lm r1∧lm r2∧v3 r0 r1 r2=v3 a0 a1 a2-v3 b0 b1 b2)∧(v3 a0 a1 a2<v3 b0 b1 b2→k=false):=by
 obtain ⟨r0,c0,e0,l0,d0,s0⟩:=sub64_ex h0 g0 (c:=0) (by omega)
 obtain ⟨r1,c1,e1,l1,d1,s1⟩:=sub64_ex h1 g1 d0
 obtain ⟨r2,c2,e2,l2,d2,s2⟩:=sub64_ex h2 g2 d1
 refine ⟨r0,r1,r2,c2==0,?_,fun h => ?_,fun h => ?_⟩
 ·unfold intmath_total_value_1
  rw [e0]
  simp only [bnd_some]
  rw [e1]
  simp only [bnd_some]
  rw [e2]
  simp only [bnd_some]
 ·unfold lm v3 at *
  refine ⟨?_,l0,l1,l2,by omega⟩
  have:c2=0:=by omega
  rw [this];rfl
 ·unfold lm v3 at *
  have:c2=1:=by omega
  rw [this];rfl
theorem checked_eq (n:Int) (h:inB n=true):intmath_checked n=some (n,0):=by
 unfold intmath_checked
 rw [intmath_in_eq]
 simp only [List.all_cons,List.all_nil,h,Bool.and_true,bnd_some,cond_true]
def sumE (S:Int):Int×Int:=bif inB S then (S,0) else (0,2)
theorem sumE_out {S:Int} (h:S < -4611686018427387904∨4611686018427387904<S):sumE S=(0,2):=by
 have:inB S=false:=by
  have:¬ inB S=true:=by rw [inB_iff];omega
  simpa using this
 unfold sumE;rw [this];rfl
theorem sumE_in {S:Int} (h:inB S=true):sumE S=(S,0):=by unfold sumE;rw [h];rfl
theorem total_value_eq {a0 a1 a2 b0 b1 b2:Int} (h0:lm a0) (h1:lm a1) (h2:lm a2) (g0:lm b0) (g1:lm b1) (g2:lm b2):intmath_total_value a0 a1 a2 b0 b1 b2=some (sumE (v3 a0 a1 a2-v3 b0 b1 b2)):=by
 obtain ⟨r0,r1,r2,k,e1,k1,k2⟩:=value_1_eq h0 h1 h2 g0 g1 g2
 obtain ⟨t0,t1,t2,j,e2,j1,j2⟩:=value_1_eq g0 g1 g2 h0 h1 h2
 unfold intmath_total_value
 rw [e1]
 simp only [bnd_some]
 by_cases hge:v3 b0 b1 b2≤v3 a0 a1 a2
 ·obtain ⟨hk,l0,l1,l2,hv⟩:=k1 hge
  rw [hk]
  simp only [cond_true]
  by_cases q1:r1>0
  ·rw [decide_eq_true q1,sumE_out (by unfold lm v3 at *;omega)];rfl
  ·rw [decide_eq_false q1]
   simp only [cond_false]
   by_cases q2:r2>0
   ·rw [decide_eq_true q2,sumE_out (by unfold lm v3 at *;omega)];rfl
   ·rw [decide_eq_false q2]
    simp only [cond_false]
    by_cases q0:r0>4611686018427387904
    ·rw [decide_eq_true q0,sumE_out (by unfold lm v3 at *;omega)];rfl
    ·rw [decide_eq_false q0]
     simp only [cond_false]
     have e:r0=v3 a0 a1 a2-v3 b0 b1 b2:=by unfold lm v3 at *;omega
     have hin:inB r0=true:=inB_iff.2 (by unfold lm at *;omega)
     rw [wrap_i64 l0.1 (by omega),Int.one_mul,w64_same (by unfold lm at *;omega) (by omega),checked_eq r0 hin,← e,sumE_in hin]
     simp only [bnd_some]
 ·rw [k2 (by omega)]
  simp only [cond_false]
  rw [e2]
  simp only [bnd_some]
  obtain ⟨hj,l0,l1,l2,hv⟩:=j1 (by omega)
  rw [hj]
  simp only [cond_true]
  by_cases q1:t1>0
  ·rw [decide_eq_true q1,sumE_out (by unfold lm v3 at *;omega)];rfl
  ·rw [decide_eq_false q1]
   simp only [cond_false]
   by_cases q2:t2>0
   ·rw [decide_eq_true q2,sumE_out (by unfold lm v3 at *;omega)];rfl
   ·rw [decide_eq_false q2]
    simp only [cond_false]
    by_cases q0:t0>4611686018427387904
    ·rw [decide_eq_true q0,sumE_out (by unfold lm v3 at *;omega)];rfl
    ·rw [decide_eq_false q0]
     simp only [cond_false]
     have e : -t0=v3 a0 a1 a2-v3 b0 b1 b2:=by unfold lm v3 at *;omega
     have hin:inB (-t0)=true:=inB_iff.2 (by unfold lm at *;omega)
     rw [wrap_i64 l0.1 (by omega),show (-1)*t0 = -t0 by omega,w64_same (by omega) (by unfold lm at *;omega),checked_eq (-t0) hin,← e,sumE_in hin]
     simp only [bnd_some]
end Go.Proofs.YtjfpcjnopbfekaaGreatDoor
/- PLAIN LAWS of layer 3: Sum and Dot. -/
namespace Go.Proofs.YtjfpcjnopbfekaaGreatDoor
open Go.Ab Go.Sh
def sumF (f:Nat→Int):Nat→Int
 | 0=>0
 | j+1=>sumF f j+f j
def dotF (a b:List Int) (i:Nat):Int:=a.getD i 0*b.getD i 0
def dotR (a b:List Int):Int×Int:=bif decide (a.length=b.length) then (bif decide (a.length≤10000) then (bif a.all inB&&b.all inB then sumE (sumF (dotF a b) a.length) else (0,2)) else (0,3)) else (0,1)
def limbs (s:Int×Int×Int×Int×Int×Int):Prop:=lm s.1∧lm s.2.1∧lm s.2.2.1∧lm s.2.2.2.1∧lm s.2.2.2.2.1∧lm s.2.2.2.2.2
def dif (s:Int×Int×Int×Int×Int×Int):Int:=v3 s.1 s.2.1 s.2.2.1-v3 s.2.2.2.1 s.2.2.2.2.1 s.2.2.2.2.2
def tot (s:Int×Int×Int×Int×Int×Int):Int:=v3 s.1 s.2.1 s.2.2.1+v3 s.2.2.2.1 s.2.2.2.2.1 s.2.2.2.2.2
theorem add_state {a b:Int} (ha:inB a=true) (hb:inB b=true) (s:Int×Int×Int×Int×Int×Int) (hl:limbs s) (j:Nat) (hj:j<10000) (ht:tot s≤(j:Int)*21267647932558653966460912964485513216) :
 ∃ s',intmath_total_add a b s.1 s.2.1 s.2.2.1 s.2.2.2.1 s.2.2.2.2.1 s.2.2.2.2.2=some s'∧limbs s'∧dif s'=dif s+a*b∧tot s'≤((j+1:Nat):Int)*21267647932558653966460912964485513216:=by
 obtain ⟨q0,q1,q2,m0,m1,m2,e,l0,l1,l2,l3,l4,l5,hd,hs⟩:=total_add_eq (K:=(j:Int)*21267647932558653966460912964485513216) ha hb hl.1 hl.2.1 hl.2.2.1 hl.2.2.2.1 hl.2.2.2.2.1 hl.2.2.2.2.2 ht (by omega)
 refine ⟨(q0,q1,q2,m0,m1,m2),e,⟨l0,l1,l2,l3,l4,l5⟩,hd,?_⟩
 show v3 q0 q1 q2+v3 m0 m1 m2≤_
 omega
theorem value_state (s:Int×Int×Int×Int×Int×Int) (hl:limbs s):intmath_total_value s.1 s.2.1 s.2.2.1 s.2.2.2.1 s.2.2.2.2.1 s.2.2.2.2.2=some (sumE (dif s)) :=
 total_value_eq hl.1 hl.2.1 hl.2.2.1 hl.2.2.2.1 hl.2.2.2.2.1 hl.2.2.2.2.2
theorem all_at {l:List Int} (h:l.all inB=true) {j:Nat} (hj:j<l.length):inB (l.getD j 0)=true:=by
 rw [List.getD_eq_getElem?_getD,List.getElem?_eq_getElem hj]
 exact List.all_eq_true.1 h _ (List.getElem_mem hj)
theorem limbs0:limbs (0,0,0,0,0,0):=by unfold limbs lm;simp
theorem intmath_Dot_eq (a b:List Int):intmath_Dot a b=some (dotR a b):=by
 unfold intmath_Dot dotR
 by_cases hlen:a.length=b.length
 ·rw [decide_eq_true hlen,show ((((a.length:Nat):Int)==((b.length:Nat):Int)))=true by simp [hlen]]
  simp only [cond_true]
  by_cases h1:a.length≤10000
  ·rw [decide_eq_true h1,decide_eq_false (by omega)]
   simp only [cond_true,cond_false]
   rw [intmath_in_eq,intmath_in_eq]
   simp only [bnd_some]
   cases ha:a.all inB with
   | false=>rfl
   | true =>
    cases hb:b.all inB with
    | false=>rfl
    | true =>
     simp only [cond_true,Bool.and_true]
     obtain ⟨s',e1,hI⟩:=cnt_inv (ρ:=Empty) (body:=fun i93 (s92:Int×Int×Int×Int×Int×Int)=>grd (i93<b.length) <| (intmath_total_add (a.getD i93 0) (b.getD i93 0) s92.1 s92.2.1 s92.2.2.1 s92.2.2.2.1 s92.2.2.2.2.1 s92.2.2.2.2.2).bind fun y122=>some (.go (y122.1,y122.2.1,y122.2.2.1,y122.2.2.2.1,y122.2.2.2.2.1,y122.2.2.2.2.2)))
      (fin:=fun i93 s92=>(s92.1,s92.2.1,s92.2.2.1,s92.2.2.2.1,s92.2.2.2.2.1,s92.2.2.2.2.2))
      (fun j s=>limbs s∧dif s=sumF (dotF a b) j∧tot s≤(j:Int)*21267647932558653966460912964485513216) (a.length-0) 0 (0,0,0,0,0,0) ⟨limbs0,rfl,by decide⟩ (fun j s _ hj ⟨i1,i2,i3⟩=>by
       obtain ⟨s',e,l,d,t⟩:=add_state (all_at ha (j:=j) (by omega)) (all_at hb (j:=j) (by omega)) s i1 j (by omega) i3
       refine ⟨s',?_,l,by rw [d,i2];rfl,t⟩
       rw [grd_pos (by omega),e];rfl)
     rw [e1]
     show (intmath_total_value s'.1 s'.2.1 s'.2.2.1 s'.2.2.2.1 s'.2.2.2.2.1 s'.2.2.2.2.2).bind _=_
     rw [value_state s' hI.1,hI.2.1,Nat.zero_add,Nat.sub_zero];rfl
  ·rw [decide_eq_false h1,decide_eq_true (by omega)];rfl
 ·rw [decide_eq_false hlen,show ((((a.length:Nat):Int)==((b.length:Nat):Int)))=false by rw [beq_eq_false_iff_ne];omega];rfl
end Go.Proofs.YtjfpcjnopbfekaaGreatDoor
/- PLAIN LAWS of layer 3: the specification's sums of products are exact too. -/
namespace Go.Proofs.YtjfpcjnopbfekaaGreatDoor
open Go.Ab Go.Sh
abbrev C5:=Int×Int×Int×Int×Int
def sm (c:Int) (j:Nat):Prop := -((j:Int)*13194139533312)≤c∧c≤(j:Int)*13194139533312
def v5 (s:C5):Int:=s.1+s.2.1*2097152+s.2.2.1*4398046511104+s.2.2.2.1*9223372036854775808+s.2.2.2.2*19342813113834066795298816
end Go.Proofs.YtjfpcjnopbfekaaGreatDoor
/- PLAIN LAWS of layer 3: the specification's Dot. -/
/- PLAIN LAWS of layer 5: the value of a polynomial. -/
namespace Go.Proofs.YtjfpcjnopbfekaaGreatDoor
open Go.Ab Go.Sh
def isV (v:Str) (x:Value):Bool:=x.Var==v
def look (vs:List Value) (v:Str):Int:=idxOf (isV v) vs
abbrev S1:=List (List Int)×Bool
theorem valid_coef {p:List Monomial} (h:validP p=true) {m:Monomial} (hm:m∈p):okM m=true:=by
 unfold validP at h
 rw [Bool.and_eq_true,List.all_eq_true] at h
 obtain ⟨j,hj,rfl⟩:=List.getElem_of_mem hm
 have:=h.1 j (by rw [List.mem_range'_1];omega)
 unfold stepOk at this
 rw [Bool.and_eq_true] at this
 have e:monoAt p j=p[j]:=by unfold monoAt;rw [List.getD_eq_getElem?_getD,List.getElem?_eq_getElem hj];rfl
 rw [e] at this
 exact this.1
end Go.Proofs.YtjfpcjnopbfekaaGreatDoor
/- PLAIN LAWS of layer 5: the specification gives the same value. -/
/- PLAIN LAWS of layer 5: Eval, the program against the specification. -/
/- PLAIN LAWS of layer 5: how much the guards leave. -/
namespace Go.Proofs.YtjfpcjnopbfekaaGreatDoor
open Go.Ab Go.Sh
def shortM (m:Monomial):Bool:=decide (m.Vars.length≤10)&&m.Vars.all (fun v=>decide (v.length≤40))
def fewP (p:List Monomial) (n:Int):Bool:=p.all shortM&&decide ((p.length:Int)≤n)
theorem ref05_Few_eq (p:List Monomial) (n:Int):ref05_Few p n=some (fewP p n):=by
 unfold ref05_Few fewP
 rw [cnt_all (fun j=>shortM (p.getD j ⟨0,[]⟩)) _ _ () (fun j u _ _=>by
  generalize p.getD j ⟨0,[]⟩=m
  unfold shortM
  by_cases h10:m.Vars.length≤10
  ·rw [decide_eq_false (show ¬ ((m.Vars.length:Nat):Int)>10 by omega),decide_eq_true h10]
   simp only [cond_false,Bool.true_and]
   generalize hbd:(fun (s241:Int)=>_:Int→Option (Stp Int Unit (Stp Unit Unit Bool)))=body
   have key:∀ (rest:List Str) (k fuel:Nat),m.Vars.drop k=rest→k+rest.length=m.Vars.length→rest.length<fuel→whl body fuel ((k:Nat):Int)=some (bif rest.all (fun v=>decide (v.length≤40)) then .brk () else .ret (.ret false)):=by
    intro rest
    induction rest with
    | nil =>
     intro k fuel h1 h2 h3
     obtain ⟨f,rfl⟩:∃ f,fuel=f+1:=⟨fuel-1,by simp at h3;omega⟩
     have e0:body ((k:Nat):Int)=some (.brk ()):=by
      rw [← hbd]
      simp only
      rw [decide_eq_false (by simp at h2;omega)];rfl
     simp only [whl,e0,bnd_some,stp]
     rfl
    | cons v rest ih =>
     intro k fuel h1 h2 h3
     obtain ⟨f,rfl⟩:∃ f,fuel=f+1:=⟨fuel-1,by simp at h3;omega⟩
     have hk:k<m.Vars.length:=by simp at h2;omega
     have h4:=drop_cons hk
     rw [h1] at h4
     have hv1:m.Vars.getD k []=v:=(List.cons.inj h4).1.symm
     have hv2:m.Vars.drop (k+1)=rest:=(List.cons.inj h4).2.symm
     have hw:w64 (((k:Nat):Int)+1)=((k+1:Nat):Int):=by rw [w64_same (by omega) (by omega)];omega
     have e0:body ((k:Nat):Int)=some (bif decide (v.length≤40) then .go ((k+1:Nat):Int) else .ret (.ret false)):=by
      rw [← hbd]
      simp only
      rw [decide_eq_true (by omega)]
      simp only [cond_true]
      rw [grd_pos (by omega),Int.toNat_natCast,hv1,hw]
      by_cases hv:v.length≤40
      ·rw [decide_eq_true hv,decide_eq_false (by omega)];rfl
      ·rw [decide_eq_false hv,decide_eq_true (by omega)];rfl
     simp only [whl,e0,bnd_some,List.all_cons]
     cases decide (v.length≤40) with
     | false=>rfl
     | true =>
      simp only [cond_true,Bool.true_and,stp]
      exact ih (k+1) f hv2 (by simp at h2;omega) (by simp at h3;omega)
   have hk0:whl body 4294967296 0=_:=key m.Vars 0 4294967296 (by rw [List.drop_zero]) (by omega) (by omega)
   rw [hk0]
   cases m.Vars.all (fun v=>decide (v.length≤40))<;>rfl
  ·rw [decide_eq_true (show ((m.Vars.length:Nat):Int)>10 by omega),decide_eq_false h10];rfl),aft_bif,all0 shortM ⟨0,[]⟩ p]
 cases p.all shortM<;>rfl
theorem few_Bd {p:List Monomial} {n:Int} (h:fewP p n=true) (hn:n≤1000):Bd p:=by
 unfold fewP at h
 rw [Bool.and_eq_true,List.all_eq_true,decide_eq_true_eq] at h
 refine ⟨by omega,fun m hm => ?_⟩
 have:=h.1 m hm
 unfold shortM at this
 rw [Bool.and_eq_true,List.all_eq_true,decide_eq_true_eq] at this
 exact ⟨by omega,fun v hv=>by have:=this.2 v hv;simp only [decide_eq_true_eq] at this;omega⟩
end Go.Proofs.YtjfpcjnopbfekaaGreatDoor
/- PLAIN LAWS of layer 5: what a collected sum gives, in whatever order its entries come. -/
namespace Go.Sh
theorem mr_err {V σ ε β:Type} {m:List (Str×V)} {body:Str×V→σ→Option (Stp σ ε β)} {K:σ→Prop} {J:β→Prop} (I:List Nat→σ→Prop) (ok:Str×V→Bool) (g:σ→Str×V→σ) (x:β) (hJ:J x)
 (hstep:∀ seen s i (h:i<m.length),seen.Nodup→i ∉ seen→(∀ j∈seen,j<m.length)→I seen s→body m[i] s=some (bif ok m[i] then .go (g s m[i]) else .ret x)∧I (seen++[i]) (g s m[i]))
 (hbad:∃ i,∃ h:i<m.length,ok m[i]=false) :
 ∀ (n:Nat) (seen:List Nat) (s:σ),seen.Nodup→(∀ i∈seen,i<m.length)→(∀ i∈seen,∀ h:i<m.length,ok m[i]=true)→n+seen.length=m.length→I seen s→MR m body K J n seen s
 | 0,seen,s,h1,h2,h4,h3,hI=>by
  obtain ⟨i,hi,hb⟩:=hbad
  have hin:i∈seen:=by
   refine Classical.byContradiction fun hn => ?_
   have:=nodup_le (i::seen) (List.range m.length) (List.nodup_cons.2 ⟨hn,h1⟩) (fun x hx=>by
    rcases List.mem_cons.1 hx with rfl | hx
    ·simpa using hi
    ·simpa using h2 x hx)
   simp at this;omega
  rw [h4 i hin hi] at hb
  cases hb
 | n+1,seen,s,h1,h2,h4,h3,hI=>by
  refine ⟨?_,fun i hi hn => ?_⟩
  ·refine Classical.byContradiction fun hn => ?_
   have:=nodup_le (List.range m.length) seen List.nodup_range (fun x hx=>Classical.byContradiction fun hx2=>hn ⟨x,by simpa using hx,hx2⟩)
   simp at this;omega
  ·obtain ⟨e1,e2⟩:=hstep seen s i hi h1 hn h2 hI
   refine ⟨_,e1,?_⟩
   cases hok:ok m[i] with
   | false=>exact hJ
   | true =>
    have hnd:(seen++[i]).Nodup:=by
     rw [List.nodup_append]
     exact ⟨h1,by simp,fun a ha b hb=>by
      have:b=i:=by simpa using hb
      subst this;intro e;subst e;exact hn ha⟩
    exact mr_err I ok g x hJ hstep hbad n (seen++[i]) _ hnd (fun j hj=>by
     rcases List.mem_append.1 hj with hj | hj
     ·exact h2 j hj
     ·have:j=i:=by simpa using hj
      subst this;exact hi) (fun j hj h=>by
     rcases List.mem_append.1 hj with hj | hj
     ·exact h4 j hj h
     ·have:j=i:=by simpa using hj
      subst this;exact hok) (by simp;omega) e2
theorem perm_range {seen:List Nat} {n:Nat} (h1:seen.Nodup) (h2:∀ i,i<n→i∈seen) (h3:∀ i∈seen,i<n):seen.Perm (List.range n) :=
 (List.perm_ext_iff_of_nodup h1 List.nodup_range).2 fun a=>⟨fun h=>List.mem_range.2 (h3 a h),fun h=>h2 a (List.mem_range.1 h)⟩
end Go.Sh
namespace Go.Proofs.YtjfpcjnopbfekaaGreatDoor
open Go.Ab Go.Sh Go.Sort
/-! ### sorting by keys that differ -/
section
variable {α:Type} (key:α→List Str)
def insM (x:α):List α→List α
 | []=>[x]
 | y::l=>bif decide (cmpL (key y) (key x)<0) then y::insM x l else x::y::l
def sortMI:List α→List α
 | []=>[]
 | x::l=>insM key x (sortMI l)
def ltM (a b:α):Prop:=cmpL (key a) (key b)<0
theorem insM_perm (x:α):∀ l,(insM key x l).Perm (x::l)
 | []=>List.Perm.refl _
 | y::l=>by
  unfold insM
  cases decide (cmpL (key y) (key x)<0) with
  | true=>exact ((insM_perm x l).cons y).trans (List.Perm.swap x y l)
  | false=>exact List.Perm.refl _
theorem sortMI_perm:∀ l,(sortMI key l).Perm l
 | []=>List.Perm.refl _
 | x::l=>(insM_perm key x _).trans ((sortMI_perm l).cons x)
theorem insM_sorted (x:α):∀ {l:List α},l.Pairwise (ltM key)→(∀ y∈l,key y≠key x)→(insM key x l).Pairwise (ltM key)
 | [],_,_=>by simp [insM]
 | y::l,h,hne=>by
  unfold insM
  rw [List.pairwise_cons] at h
  by_cases hlt:cmpL (key y) (key x)<0
  ·rw [decide_eq_true hlt]
   simp only [cond_true]
   rw [List.pairwise_cons]
   refine ⟨fun z hz => ?_,insM_sorted x h.2 fun z hz=>hne z (by simp [hz])⟩
   rcases List.mem_cons.1 ((insM_perm key x l).mem_iff.1 hz) with rfl | hz
   ·exact hlt
   ·exact h.1 z hz
  ·rw [decide_eq_false hlt]
   simp only [cond_false]
   have hxy:ltM key x y:=by
    have h0:cmpL (key y) (key x)≠0:=fun e=>hne y (by simp) (cmpL_zero e)
    exact cmpL_anti.2 (by omega)
   rw [List.pairwise_cons]
   refine ⟨fun z hz => ?_,List.pairwise_cons.2 h⟩
   rcases List.mem_cons.1 hz with rfl | hz
   ·exact hxy
   ·exact cmpL_trans hxy (h.1 z hz)
theorem sortMI_sorted:∀ {l:List α},(l.map key).Nodup→(sortMI key l).Pairwise (ltM key)
 | [],_=>by simp [sortMI]
 | x::l,h=>by
  rw [List.map_cons,List.nodup_cons] at h
  refine insM_sorted key x (sortMI_sorted h.2) fun y hy e=>h.1 ?_
  rw [← e]
  exact List.mem_map.2 ⟨y,(sortMI_perm key l).mem_iff.1 hy,rfl⟩
theorem ltM_asymm {a b:α} (h1:ltM key a b) (h2:ltM key b a):a=b:=by
 have:=cmpL_trans h1 h2
 rw [cmpL_self] at this
 omega
theorem sortM_uniq {a b:List α} (h1:a.Pairwise (ltM key)) (h2:b.Pairwise (ltM key)) (h:a.Perm b):a=b :=
 List.Perm.eq_of_pairwise (fun _ _ _ _=>ltM_asymm key) h1 h2 h
theorem sortF_eq {l:List α} (h:(l.map key).Nodup):sortF (fun x y=>cmpL (key x) (key y)) l=sortMI key l:=by
 refine sortM_uniq key ?_ (sortMI_sorted key h) ((List.mergeSort_perm l _).trans (sortMI_perm key l).symm)
 have hsw:=swo_pull cmpL_swo key
 have h1:(sortF (fun x y=>cmpL (key x) (key y)) l).Pairwise (fun a b => !(ltOf (fun x y=>cmpL (key x) (key y)) b a)):=by
  refine List.pairwise_mergeSort (fun a b c hab hbc => ?_) (fun a b => ?_) l
  ·simp only [Bool.not_eq_true'] at *
   exact hsw.ntrans _ _ _ hbc hab
  ·cases h2:ltOf (fun x y=>cmpL (key x) (key y)) b a with
   | false=>rfl
   | true =>
    cases h3:ltOf (fun x y=>cmpL (key x) (key y)) a b with
    | false=>rfl
    | true=>have:=hsw.trans _ _ _ h2 h3;rw [hsw.irrefl] at this;cases this
 have hnd:((sortF (fun x y=>cmpL (key x) (key y)) l).map key).Nodup:=((List.mergeSort_perm l _).map key).nodup_iff.2 h
 have h2:(sortF (fun x y=>cmpL (key x) (key y)) l).Pairwise (fun a b=>key a≠key b):=List.pairwise_map.1 hnd
 refine (h1.and h2).imp fun {a b} ⟨k1,k2⟩ => ?_
 have k3:¬ cmpL (key b) (key a)<0:=by simpa [ltOf] using k1
 have k4:cmpL (key b) (key a)≠0:=fun e=>k2 (cmpL_zero e).symm
 exact cmpL_anti.2 (by omega)
theorem sortMI_congr {a b:List α} (h:a.Perm b) (hb:(b.map key).Nodup):sortMI key a=sortMI key b :=
 sortM_uniq key (sortMI_sorted key ((h.map key).nodup_iff.2 hb)) (sortMI_sorted key hb) ((sortMI_perm key a).trans (h.trans (sortMI_perm key b).symm))
end
/-! ### the result of a sum -/
abbrev MV:=List (Str×List Str)
abbrev MI:=List (Str×List Int)
def entC (x1 x2:MI) (e:Str×List Str):Int×Int:=dotR (mget [] e.1 x1) (mget [] e.1 x2)
def entOk (x1 x2:MI) (e:Str×List Str):Bool:=(entC x1 x2 e).2==0
def mono1 (x1 x2:MI) (e:Str×List Str):List Monomial:=bif (entC x1 x2 e).1==0 then [] else [⟨(entC x1 x2 e).1,e.2⟩]
def outL (x0:MV) (x1 x2:MI):List Monomial:=(x0.map (mono1 x1 x2)).flatten
def resT (x0:MV) (x1 x2:MI):List Monomial×Int :=
 bif x0.all (entOk x1 x2) then (bif validP (sortMI Monomial.Vars (outL x0 x1 x2)) then (sortMI Monomial.Vars (outL x0 x1 x2),0) else ([],3)) else ([],3)
theorem mono1_vars {x1 x2:MI} {e:Str×List Str} {m:Monomial} (h:m∈mono1 x1 x2 e):m.Vars=e.2:=by
 unfold mono1 at h
 cases hz:(entC x1 x2 e).1==0 with
 | true=>rw [hz] at h;cases h
 | false=>rw [hz] at h;simp only [cond_false,List.mem_singleton] at h;rw [h]
theorem mono1_len (x1 x2:MI) (e:Str×List Str):(mono1 x1 x2 e).length≤1:=by
 unfold mono1
 cases (entC x1 x2 e).1==0<;>simp
theorem outL_keys (x1 x2:MI):∀ (x0:MV),(x0.map (·.2)).Nodup→((outL x0 x1 x2).map Monomial.Vars).Nodup
 | [],_=>by simp [outL]
 | e::x0,h=>by
  rw [List.map_cons,List.nodup_cons] at h
  have ih:=outL_keys x1 x2 x0 h.2
  unfold outL at *
  rw [List.map_cons,List.flatten_cons,List.map_append,List.nodup_append]
  refine ⟨?_,ih,?_⟩
  ·unfold mono1
   cases (entC x1 x2 e).1==0<;>simp
  ·rintro a ha b hb rfl
   obtain ⟨m,hm,rfl⟩:=List.mem_map.1 ha
   obtain ⟨m',hm',e2⟩:=List.mem_map.1 hb
   obtain ⟨l,hl,hml⟩:=List.mem_flatten.1 hm'
   obtain ⟨e',he',rfl⟩:=List.mem_map.1 hl
   rw [mono1_vars hm,mono1_vars hml] at e2
   exact h.1 (List.mem_map.2 ⟨e',he',e2⟩)
theorem outL_len (x1 x2:MI):∀ (x0:MV),(outL x0 x1 x2).length≤x0.length
 | []=>by simp [outL]
 | e::x0=>by
  have ih:=outL_len x1 x2 x0
  have h1:=mono1_len x1 x2 e
  unfold outL at *
  rw [List.map_cons,List.flatten_cons,List.length_append,List.length_cons]
  omega
def at0 (x0:MV) (i:Nat):Str×List Str:=x0.getD i ([],[])
theorem range_map (x0:MV):(List.range x0.length).map (at0 x0)=x0:=by
 refine List.ext_getElem (by simp) fun i h1 h2=>by simp [at0,List.getD_eq_getElem?_getD,h2]
theorem at0_eq {x0:MV} {i:Nat} (h:i<x0.length):at0 x0 i=x0[i]:=by simp [at0,List.getD_eq_getElem?_getD,h]
theorem result_eq (x0:MV) (x1 x2:MI) (h1:(x0.map (·.2)).Nodup) (hn:x0.length≤1000000) (hb:∀ e∈x0,e.2.length≤1000000∧∀ v∈e.2,v.length≤1000000):poly_sum_result x0 x1 x2=some (resT x0 x1 x2):=by
 unfold poly_sum_result resT
 have hbody:∀ (e:Str×List Str) (s:List Monomial),s.length≤1000000→((intmath_Dot (mget [] e.1 x1) (mget [] e.1 x2)).bind fun y109=>bif (y109.2==0) then (bif (y109.1==0) then (some (.go s):Option (Stp (List Monomial) Empty (List Monomial×Int))) else (grd ((s.length+1)*32≤140737488355328) <| some (.go (s++[(Monomial.mk y109.1 e.2)])))) else (some (.ret ([],3))))=some (bif entOk x1 x2 e then .go (s++mono1 x1 x2 e) else .ret ([],3)):=fun e s hs=>by
  rw [intmath_Dot_eq]
  simp only [bnd_some]
  unfold entOk mono1 entC
  generalize dotR (mget [] e.1 x1) (mget [] e.1 x2)=c
  cases c.2==0 with
  | false=>rfl
  | true =>
   cases c.1==0 with
   | true=>simp
   | false =>
    simp only [cond_true,cond_false]
    rw [grd_pos (by omega)]
 have hIlen:∀ (seen:List Nat),seen.Nodup→(∀ j∈seen,j<x0.length)→((seen.map fun i=>mono1 x1 x2 (at0 x0 i)).flatten).length≤1000000:=fun seen k1 k2=>by
  have h3:=nodup_le seen (List.range x0.length) k1 (fun x hx=>List.mem_range.2 (k2 x hx))
  rw [List.length_range] at h3
  have h4:∀ l:List Nat,((l.map fun i=>mono1 x1 x2 (at0 x0 i)).flatten).length≤l.length:=by
   intro l
   induction l with
   | nil=>simp
   | cons a l ih =>
    have:=mono1_len x1 x2 (at0 x0 a)
    rw [List.map_cons,List.flatten_cons,List.length_append,List.length_cons];omega
  have:=h4 seen
  omega
 cases hall:x0.all (entOk x1 x2) with
 | true =>
  simp only [cond_true]
  have hok:∀ i (h:i<x0.length),entOk x1 x2 x0[i]=true:=fun i h=>List.all_eq_true.1 hall _ (List.getElem_mem h)
  refine mrngK_eq (mr_go (fun seen s=>s=(seen.map fun i=>mono1 x1 x2 (at0 x0 i)).flatten) (fun s e=>s++mono1 x1 x2 e) (fun seen s i h k1 k2 k3 hI => ?_) (fun seen s k1 k2 k3 hI => ?_) x0.length [] [] List.nodup_nil (fun i hi=>by cases hi) (by simp) rfl)
  ·refine ⟨?_,?_⟩
   ·rw [hbody _ _ (by rw [hI];exact hIlen seen k1 k3),hok i h];rfl
   ·rw [hI,List.map_append,List.flatten_append];simp [at0_eq h]
  ·have hp:=((perm_range k1 k2 k3).map fun i=>mono1 x1 x2 (at0 x0 i)).flatten
   rw [← hI] at hp
   have e1:((List.range x0.length).map fun i=>mono1 x1 x2 (at0 x0 i)).flatten=outL x0 x1 x2:=by
    unfold outL
    conv=>rhs;rw [← range_map x0]
    rw [List.map_map];rfl
   rw [e1] at hp
   have hk:=outL_keys x1 x2 x0 h1
   have hs:lib_SortM (fun x=>x.Vars) s=some (sortMI Monomial.Vars (outL x0 x1 x2)):=by
    have hnd:=(hp.map Monomial.Vars).nodup_iff.2 hk
    have hlen:=hp.length_eq
    have hl2:=outL_len x1 x2 x0
    unfold lib_SortM
    rw [grd_pos ⟨by omega,hnd⟩]
    exact congrArg some ((sortF_eq Monomial.Vars hnd).trans (sortMI_congr Monomial.Vars hp hk))
   show ((lib_SortM (fun x=>x.Vars) s).bind fun y91=>(poly_Valid y91).bind fun y94=>bif y94 then some (y91,0) else some ([],3))=_
   rw [hs]
   simp only [bnd_some]
   have hBd:Bd (sortMI Monomial.Vars (outL x0 x1 x2)):=by
    refine ⟨?_,fun m hm => ?_⟩
    ·have:=(sortMI_perm Monomial.Vars (outL x0 x1 x2)).length_eq
     have hl2:=outL_len x1 x2 x0
     omega
    ·have hm:=(sortMI_perm Monomial.Vars (outL x0 x1 x2)).mem_iff.1 hm
     unfold outL at hm
     obtain ⟨l,hl,hml⟩:=List.mem_flatten.1 hm
     obtain ⟨e',he',rfl⟩:=List.mem_map.1 hl
     rw [mono1_vars hml]
     exact hb e' he'
   rw [poly_Valid_eq _ hBd]
   simp only [bnd_some]
   cases validP (sortMI Monomial.Vars (outL x0 x1 x2))<;>rfl
 | false =>
  have hbad:∃ i,∃ h:i<x0.length,entOk x1 x2 x0[i]=false:=by
   have:¬ (x0.all (entOk x1 x2)=true):=by rw [hall];simp
   rw [List.all_eq_true] at this
   refine Classical.byContradiction fun hn=>this fun e he => ?_
   obtain ⟨i,hi,rfl⟩:=List.getElem_of_mem he
   cases hq:entOk x1 x2 x0[i] with
   | true=>rfl
   | false=>exact absurd ⟨i,hi,hq⟩ hn
  rw [cond_false]
  refine mrngK_eq (mr_err (J:=fun x=>x=(([],3):List Monomial×Int)) (fun seen s=>s=(seen.map fun i=>mono1 x1 x2 (at0 x0 i)).flatten) (entOk x1 x2) (fun s e=>s++mono1 x1 x2 e) ([],3) rfl (fun seen s i h k1 k2 k3 hI => ?_) hbad x0.length [] [] List.nodup_nil (fun i hi=>by cases hi) (fun i hi=>by cases hi) (by simp) rfl)
  refine ⟨hbody _ _ (by rw [hI];exact hIlen seen k1 k3),?_⟩
  rw [hI,List.map_append,List.flatten_append];simp [at0_eq h]
end Go.Proofs.YtjfpcjnopbfekaaGreatDoor
/- PLAIN LAWS, of no program: maps of whatever values; texts that are joined. -/
namespace Go.Sh
open Go.Ab
section
variable {V:Type}
theorem mget_put (d:V) (x y:Str) (v:V):∀ m:List (Str×V),mget d y (mput x v m)=if x=y then v else mget d y m
 | []=>by simp [mput,mget]
 | (k,u)::m=>by
  by_cases h:k=x
  ·subst h
   simp only [mput,mget,if_pos]
   by_cases h2:k=y
   ·simp [h2]
   ·simp [h2]
  ·simp only [mput,if_neg h,mget]
   rw [mget_put d x y v m]
   by_cases h2:k=y
   ·subst h2;simp [Ne.symm h]
   ·simp [h2]
theorem put_keys (x:Str) (v:V):∀ m:List (Str×V),(mput x v m).map (·.1)=if x∈m.map (·.1) then m.map (·.1) else m.map (·.1)++[x]
 | []=>by simp [mput]
 | (k,u)::m=>by
  by_cases h:k=x
  ·subst h;simp [mput]
  ·simp only [mput,if_neg h,List.map_cons,put_keys x v m,List.mem_cons,Ne.symm h,false_or]
   split<;>simp
theorem put_nodup {x:Str} {v:V} {m:List (Str×V)} (h:(m.map (·.1)).Nodup):((mput x v m).map (·.1)).Nodup:=by
 rw [put_keys]
 split
 ·exact h
 ·rename_i hx
  rw [List.nodup_append]
  refine ⟨h,by simp,fun a ha b hb => ?_⟩
  have:b=x:=by simpa using hb
  subst this
  intro e;subst e;exact hx ha
theorem put_len (x:Str) (v:V) (m:List (Str×V)):(mput x v m).length≤m.length+1:=by
 have:=congrArg List.length (put_keys x v m)
 rw [List.length_map] at this
 rw [this]
 split<;>simp
theorem mem_put {x:Str} {v:V} {e:Str×V}:∀ {m:List (Str×V)},e∈mput x v m→e=(x,v)∨e∈m
 | [],h=>by simp [mput] at h;exact .inl h
 | (k,u)::m,h=>by
  by_cases hk:k=x
  ·simp only [mput,if_pos hk,List.mem_cons] at h
   rcases h with h | h
   ·exact .inl h
   ·exact .inr (by simp [h])
  ·simp only [mput,if_neg hk,List.mem_cons] at h
   rcases h with h | h
   ·exact .inr (by simp [h])
   ·rcases mem_put h with h | h
    ·exact .inl h
    ·exact .inr (by simp [h])
theorem put_mem (x:Str) (v:V):∀ m:List (Str×V),(x,v)∈mput x v m
 | []=>by simp [mput]
 | (k,u)::m=>by
  by_cases hk:k=x
  ·simp [mput,hk]
  ·simp only [mput,if_neg hk,List.mem_cons];exact .inr (put_mem x v m)
theorem put_old {x:Str} {v:V} {e:Str×V} (hne:e.1≠x):∀ {m:List (Str×V)},e∈m→e∈mput x v m
 | [],h=>by cases h
 | (k,u)::m,h=>by
  by_cases hk:k=x
  ·simp only [mput,if_pos hk,List.mem_cons] at h ⊢
   rcases h with h | h
   ·exact absurd (by rw [h];exact hk) hne
   ·exact .inr h
  ·simp only [mput,if_neg hk,List.mem_cons] at h ⊢
   rcases h with h | h
   ·exact .inl h
   ·exact .inr (put_old hne h)
end
/-! ### joined by stars -/
def jn:List Str→Str
 | []=>[]
 | [x]=>x
 | x::y::l=>x++42::jn (y::l)
theorem jn_join:∀ l:List Str,Lib.join l [42]=jn l
 | []=>rfl
 | [x]=>by simp [jn,Lib.join,List.intercalate]
 | x::y::l=>by
  have ih:=jn_join (y::l)
  simp only [jn,← ih]
  simp [Lib.join,List.intercalate,List.intersperse]
def nos (v:Str):Prop:=v≠[]∧(42:UInt8) ∉ v
theorem split42:∀ {x y r s:Str},(42:UInt8) ∉ x→(42:UInt8) ∉ y→x++42::r=y++42::s→x=y∧r=s
 | [],[],r,s,_,_,h=>by simpa using h
 | [],b::y,r,s,_,hy,h=>by
  simp only [List.nil_append,List.cons_append,List.cons.injEq] at h
  exact absurd (by rw [h.1];simp) hy
 | a::x,[],r,s,hx,_,h=>by
  simp only [List.nil_append,List.cons_append,List.cons.injEq] at h
  exact absurd (by rw [← h.1];simp) hx
 | a::x,b::y,r,s,hx,hy,h=>by
  simp only [List.cons_append,List.cons.injEq] at h
  obtain ⟨e1,e2⟩:=split42 (fun k=>hx (by simp [k])) (fun k=>hy (by simp [k])) h.2
  exact ⟨by rw [h.1,e1],e2⟩
theorem no_split {x y r:Str} (hy:(42:UInt8) ∉ y) (h:x++42::r=y):False:=hy (by rw [← h];simp)
theorem jn_inj:∀ {l m:List Str},(∀ v∈l,nos v)→(∀ v∈m,nos v)→jn l=jn m→l=m
 | [],[],_,_,_=>rfl
 | [],[y],_,hm,h=>absurd h.symm (hm y (by simp)).1
 | [],y::z::m,_,_,h=>by
  have:([]:Str)=y++42::jn (z::m):=h
  exact absurd (congrArg List.length this) (by simp)
 | [x],[],hl,_,h=>absurd h (hl x (by simp)).1
 | x::y::l,[],_,_,h=>by
  have:x++42::jn (y::l)=([]:Str):=h
  exact absurd (congrArg List.length this) (by simp)
 | [x],[y],_,_,h=>by rw [show x=y from h]
 | [x],y::z::m,hl,_,h=>(no_split (hl x (by simp)).2 (show y++42::jn (z::m)=x from h.symm)).elim
 | x::y::l,[z],_,hm,h=>(no_split (hm z (by simp)).2 (show x++42::jn (y::l)=z from h)).elim
 | x::y::l,z::w::m,hl,hm,h=>by
  obtain ⟨e1,e2⟩:=split42 (hl x (by simp)).2 (hm z (by simp)).2 (show x++42::jn (y::l)=z++42::jn (w::m) from h)
  rw [e1,jn_inj (fun v hv=>hl v (by simp [hv])) (fun v hv=>hm v (by simp [hv])) e2]
theorem jn_len:∀ {l:List Str} {k:Nat},(∀ v∈l,v.length≤k)→(jn l).length≤l.length*(k+1)
 | [],k,_=>by simp [jn]
 | [x],k,h=>by have:=h x (by simp);simp [jn];omega
 | x::y::l,k,h=>by
  have h1:=h x (by simp)
  have ih:=jn_len (l:=y::l) (k:=k) (fun v hv=>h v (by simp [hv]))
  have e:(jn (x::y::l)).length=x.length+(jn (y::l)).length+1:=by simp [jn];omega
  rw [e,List.length_cons,Nat.add_mul]
  omega
end Go.Sh
/- PLAIN LAWS of layer 5: the examples of the document. -/
namespace Go.Proofs.YtjfpcjnopbfekaaGreatDoor
open Go.Ab Go.Sh Go.Sort
def lib_SortedT (xs:List Str):Option (List Str):=grd (xs.length*16≤140737488355328) <| some (sortI xs)
theorem sorted_tw:lib_SortedS=lib_SortedT:=funext fun xs=>by unfold lib_SortedS lib_SortedT;rw [sortS_eq]
def addT (x0:(List Str)) (x1:Int) (x2:Int) (x3:MV) (x4:MI) (x5:MI):Option (MV×MI×MI) :=
 (lib_ValuesS x0).bind fun y18 =>
 (lib_SortedT y18).bind fun y21 =>
 (lib_Join y21 [42]).bind fun y24 =>
 grd (((mget [] y24 x4).length+[x1].length)*8≤140737488355328) <|
 grd (((mget [] y24 x5).length+[x2].length)*8≤140737488355328) <|
 grd (x4.length+1<1000000) <|
 grd (x5.length+1<1000000) <|
 some ((mput y24 y21 x3),(mput y24 ((mget [] y24 x4)++[x1]) x4),(mput y24 ((mget [] y24 x5)++[x2]) x5))
theorem add_tw:poly_sum_add=addT:=by
 funext x0 x1 x2 x3 x4 x5
 unfold poly_sum_add addT
 rw [sorted_tw]
def preOf (x0:Linear):Option (MV×MI×MI) :=
 (linear_Valid x0).bind fun y1=>bif y1 then (
  (addT [] x0.Const 1 [] [] []).bind fun y11 =>
  (cnt (σ:=(MI×MI×MV)) (ε:=(MI×MI×MV)) (ρ:=Empty) (fun i37 s36 =>
   (addT [((x0.Terms.getD i37 ⟨[],0⟩).Var)] ((x0.Terms.getD i37 ⟨[],0⟩).C) 1 s36.2.2 s36.1 s36.2.1).bind fun y62 =>
   some (.go (y62.2.1,y62.2.2,y62.1))
  ) (fun i37 s36=>(s36.1,s36.2.1,s36.2.2)) (x0.Terms.length-0) 0 (y11.2.1,y11.2.2,y11.1)).bind <| aftE fun u70 =>
  some (u70.2.2,u70.1,u70.2.1)) else none
def goodM (x0:MV):Prop:=(x0.map (·.2)).Nodup∧x0.length≤1000000∧∀ e∈x0,e.2.length≤1000000∧∀ v∈e.2,v.length≤1000000
theorem Of_run {x0:Linear} {M:MV×MI×MI} (h:preOf x0=some M) (hg:goodM M.1):poly_Of x0=some (resT M.1 M.2.1 M.2.2):=by
 unfold preOf at h
 unfold poly_Of
 rw [add_tw]
 cases h1:linear_Valid x0 with
 | none=>rw [h1] at h;cases h
 | some b =>
  rw [h1] at h
  cases b with
  | false=>cases h
  | true =>
   simp only [Option.bind_some,cond_true] at h ⊢
   rw [show poly_newSum=some ([],[],[]) from rfl]
   simp only [Option.bind_some]
   cases h2:addT [] x0.Const 1 [] [] [] with
   | none=>rw [h2] at h;cases h
   | some y =>
    rw [h2] at h
    simp only [Option.bind_some] at h ⊢
    generalize cnt (σ:=(MI×MI×MV)) (ε:=(MI×MI×MV)) (ρ:=Empty) (fun i37 s36 =>
     (addT [((x0.Terms.getD i37 ⟨[],0⟩).Var)] ((x0.Terms.getD i37 ⟨[],0⟩).C) 1 s36.2.2 s36.1 s36.2.1).bind fun y62 =>
     some (.go (y62.2.1,y62.2.2,y62.1))
    ) (fun i37 s36=>(s36.1,s36.2.1,s36.2.2)) (x0.Terms.length-0) 0 (y.2.1,y.2.2,y.1)=o at h ⊢
    cases o with
    | none=>cases h
    | some o =>
     cases o with
     | ret e=>cases e
     | brk u =>
      have h:some (u.2.2,u.1,u.2.1)=some M:=h
      cases h
      show ((poly_sum_result u.2.2 u.1 u.2.1).bind fun y73=>some (y73.1,y73.2))=_
      rw [result_eq _ _ _ hg.1 hg.2.1 hg.2.2];rfl
def mulT1 (x0:Monomial) (x1:Monomial) (x2:MV) (x3:MI) (x4:MI):Option (MV×MI×MI) :=
 (lib_ConcatS [x0.Vars,x1.Vars]).bind fun y7=>(addT y7 x0.Coef x1.Coef x2 x3 x4).bind fun y10=>some (y10.1,y10.2.1,y10.2.2)
def pairsT (x0:(List Monomial)) (x1:(List Monomial)) (x2:MV) (x3:MI) (x4:MI):Option (MV×MI×MI) :=
 (cnt (σ:=(MV×MI×MI)) (ε:=(MV×MI×MI)) (ρ:=(MV×MI×MI)) (fun i303 s302 =>
  (cnt (σ:=(MV×MI×MI)) (ε:=(MV×MI×MI)) (ρ:=Empty) (fun i341 s340 =>
   (mulT1 (Monomial.mk ((x0.getD i303 ⟨0,[]⟩).Coef) ((x0.getD i303 ⟨0,[]⟩).Vars)) (Monomial.mk ((x1.getD i341 ⟨0,[]⟩).Coef) ((x1.getD i341 ⟨0,[]⟩).Vars)) s340.1 s340.2.1 s340.2.2).bind fun y366 =>
   some (.go (y366.1,y366.2.1,y366.2.2))
  ) (fun i341 s340=>(s340.1,s340.2.1,s340.2.2)) (x1.length-0) 0 (s302.1,s302.2.1,s302.2.2)).bind <| aftE fun u374 =>
  some (.go (u374.1,u374.2.1,u374.2.2))
 ) (fun i303 s302=>(s302.1,s302.2.1,s302.2.2)) (x0.length-0) 0 (x2,x3,x4)).bind <| Sh.aft some
theorem pairs_tw:poly_pairs_api_Monomial=pairsT:=by
 have h:poly_mul_1=mulT1:=by
  funext x0 x1 x2 x3 x4
  unfold poly_mul_1 mulT1
  rw [add_tw]
 funext x0 x1 x2 x3 x4
 unfold poly_pairs_api_Monomial pairsT
 rw [h]
theorem mul_run {a b:List Monomial} {M:MV×MI×MI} (h:pairsT a b [] [] []=some M) (hg:goodM M.1):poly_mul a b=some (resT M.1 M.2.1 M.2.2):=by
 unfold poly_mul
 rw [show poly_newSum=some ([],[],[]) from rfl]
 simp only [Option.bind_some]
 rw [pairs_tw,h]
 simp only [Option.bind_some]
 rw [result_eq _ _ _ hg.1 hg.2.1 hg.2.2];rfl
def exN:Linear:=Linear.mk (-1) [Coef.mk [110] 1]
def exP:Linear:=Linear.mk 1 [Coef.mk [110] 1]
theorem ex_ofN:preOf exN=some ([([],[]),([110],[[110]])],[([],[-1]),([110],[1])],[([],[1]),([110],[1])]):=by kernel_rfl
theorem ex_ofP:preOf exP=some ([([],[]),([110],[[110]])],[([],[1]),([110],[1])],[([],[1]),([110],[1])]):=by kernel_rfl
theorem good2:goodM [([],[]),([110],[[110]])]:=⟨by decide,by decide,by decide⟩
theorem ofN:poly_Of exN=some ([⟨-1,[]⟩,⟨1,[[110]]⟩],0):=by rw [Of_run ex_ofN good2];kernel_rfl
theorem ofP:poly_Of exP=some ([⟨1,[]⟩,⟨1,[[110]]⟩],0):=by rw [Of_run ex_ofP good2];kernel_rfl
theorem ex_mul1:pairsT [⟨1,[]⟩] [⟨-1,[]⟩,⟨1,[[110]]⟩] [] [] []=some ([([],[]),([110],[[110]])],[([],[1]),([110],[1])],[([],[-1]),([110],[1])]):=by kernel_rfl
theorem mul1:poly_mul [⟨1,[]⟩] [⟨-1,[]⟩,⟨1,[[110]]⟩]=some ([⟨-1,[]⟩,⟨1,[[110]]⟩],0):=by rw [mul_run ex_mul1 good2];kernel_rfl
theorem ex_mul2:pairsT [⟨-1,[]⟩,⟨1,[[110]]⟩] [⟨1,[]⟩,⟨1,[[110]]⟩] [] [] []=some ([([],[]),([110],[[110]]),([110,42,110],[[110],[110]])],[([],[-1]),([110],[-1,1]),([110,42,110],[1])],[([],[1]),([110],[1,1]),([110,42,110],[1])]):=by kernel_rfl
theorem good3:goodM [([],[]),([110],[[110]]),([110,42,110],[[110],[110]])]:=⟨by decide,by decide,by decide⟩
theorem mul2:poly_mul [⟨-1,[]⟩,⟨1,[[110]]⟩] [⟨1,[]⟩,⟨1,[[110]]⟩]=some ([⟨-1,[]⟩,⟨1,[[110],[110]]⟩],0):=by rw [mul_run ex_mul2 good3];kernel_rfl
theorem ex_Product:poly_Product [exN,exP]=some ([⟨-1,[]⟩,⟨1,[[110],[110]]⟩],0):=by
 unfold poly_Product
 simp only [List.length_cons,List.length_nil,Nat.zero_add,Nat.sub_zero,Nat.reduceAdd,cnt,List.getD_cons_zero,List.getD_cons_succ]
 rw [show (Linear.mk exN.Const exN.Terms)=exN from rfl,show (Linear.mk exP.Const exP.Terms)=exP from rfl,ofN,ofP]
 simp only [Option.bind_some,stp,Sh.aft,beq_self_eq_true,cond_true,List.nil_append]
 rw [grd_pos (by decide)]
 simp only [Option.bind_some,stp,Sh.aft,beq_self_eq_true,cond_true,List.nil_append,List.cons_append]
 rw [grd_pos (by decide)]
 simp only [Option.bind_some,stp,Sh.aft,List.length_cons,List.length_nil,Nat.zero_add,Nat.sub_zero,Nat.reduceAdd,cnt,List.getD_cons_zero,List.getD_cons_succ,mul1,beq_self_eq_true,cond_true]
 rw [mul2]
 simp only [Option.bind_some,stp,Sh.aft,beq_self_eq_true,cond_true]
theorem ex_Parse:poly_Parse [50,42,109,42,110,94,50]=some ([⟨2,[[109],[110],[110]]⟩],0):=by kernel_rfl
theorem ex_Eval:poly_Eval [⟨2,[[109],[110],[110]]⟩] [(Value.mk [109] 3),(Value.mk [110] (-1))]=some (6,0):=by kernel_rfl
theorem ex_Print:poly_Print [⟨-1,[]⟩,⟨1,[[110],[110]]⟩]=some [45,49,43,110,94,50]:=by kernel_rfl
theorem ex_Valid:poly_Valid [⟨2,[[109],[110],[110]]⟩]=some true:=by kernel_rfl
theorem ex_Degree:poly_Degree [⟨2,[[109],[110],[110]]⟩]=some 3:=by kernel_rfl
theorem law05_awake_true:law05_awake=some true:=by
 unfold law05_awake
 rw [show [(Linear.mk (-1) [(Coef.mk [110] 1)]),(Linear.mk 1 [(Coef.mk [110] 1)])]=[exN,exP] from rfl,ex_Product,ex_Parse]
 simp only [Option.bind_some]
 rw [ex_Eval]
 simp only [Option.bind_some]
 rw [ex_Print,ex_Valid,ex_Degree]
 rfl
end Go.Proofs.YtjfpcjnopbfekaaGreatDoor
/- PLAIN LAWS of layer 5: what is collected is the canonical form of a sum. -/
namespace Go.Proofs.YtjfpcjnopbfekaaGreatDoor
open Go.Ab Go.Sh Go.Sort
abbrev Ctr:=List Str×Int×Int
def coefL:List Ctr→List Str→Int
 | [],_=>0
 | c::L,V=>(if c.1=V then c.2.1*c.2.2 else 0)+coefL L V
theorem coefL_append:∀ (L M:List Ctr) (V:List Str),coefL (L++M) V=coefL L V+coefL M V
 | [],M,V=>by simp [coefL]
 | c::L,M,V=>by simp only [List.cons_append,coefL,coefL_append L M V];omega
def asL (L:List Ctr) (V:List Str):List Int:=(L.filter fun c=>decide (c.1=V)).map fun c=>c.2.1
def bsL (L:List Ctr) (V:List Str):List Int:=(L.filter fun c=>decide (c.1=V)).map fun c=>c.2.2
theorem sumF_cons (f:Nat→Int):∀ n,sumF f (n+1)=f 0+sumF (fun i=>f (i+1)) n
 | 0=>by simp [sumF]
 | n+1=>by
  have:=sumF_cons f n
  rw [show sumF f (n+1+1)=sumF f (n+1)+f (n+1) from rfl,this]
  rw [show sumF (fun i=>f (i+1)) (n+1)=sumF (fun i=>f (i+1)) n+f (n+1) from rfl]
  omega
theorem coefL_dot:∀ (L:List Ctr) (V:List Str),sumF (dotF (asL L V) (bsL L V)) (asL L V).length=coefL L V
 | [],V=>rfl
 | c::L,V=>by
  have ih:=coefL_dot L V
  by_cases h:c.1=V
  ·have e1:asL (c::L) V=c.2.1::asL L V:=by simp [asL,h]
   have e2:bsL (c::L) V=c.2.2::bsL L V:=by simp [bsL,h]
   rw [e1,e2,List.length_cons,sumF_cons]
   have e3:(fun i=>dotF (c.2.1::asL L V) (c.2.2::bsL L V) (i+1))=dotF (asL L V) (bsL L V):=by
    funext i;simp [dotF]
   rw [e3,ih]
   simp [coefL,h,dotF]
  ·have e1:asL (c::L) V=asL L V:=by simp [asL,h]
   have e2:bsL (c::L) V=bsL L V:=by simp [bsL,h]
   rw [e1,e2,ih]
   simp [coefL,h]
theorem coefL_mem {L:List Ctr} {V:List Str} (h:coefL L V≠0):∃ c∈L,c.1=V:=by
 induction L with
 | nil=>exact absurd rfl h
 | cons c L ih =>
  by_cases hc:c.1=V
  ·exact ⟨c,by simp,hc⟩
  ·have:coefL L V≠0:=by simpa [coefL,hc] using h
   obtain ⟨c',h1,h2⟩:=ih this
   exact ⟨c',by simp [h1],h2⟩
def okV (V:List Str):Prop:=V.length≤1000∧∀ v∈V,nos v∧v.length≤1000
def okT (c:Ctr):Prop:=okV c.1∧inB c.2.1=true∧inB c.2.2=true
structure SumSt (L:List Ctr) (x3:MV) (x4 x5:MI):Prop where
 e1:∀ e∈x3,e.1=jn e.2∧∃ c∈L,c.1=e.2
 e2:∀ c∈L,(jn c.1,c.1)∈x3
 nd:(x3.map (·.1)).Nodup
 ma:∀ V,okV V→mget [] (jn V) x4=asL L V
 mb:∀ V,okV V→mget [] (jn V) x5=bsL L V
 l3:x3.length≤L.length
 l4:x4.length≤L.length
 l5:x5.length≤L.length
theorem SumSt.nil:SumSt [] [] [] []:=⟨fun e he=>(by cases he),fun c hc=>(by cases hc),by simp,fun V _=>rfl,fun V _=>rfl,by simp,by simp,by simp⟩
theorem okV_jn {V W:List Str} (hV:okV V) (hW:okV W) (h:jn V=jn W):V=W:=jn_inj (fun v hv=>(hV.2 v hv).1) (fun v hv=>(hW.2 v hv).1) h
theorem asL_len (L:List Ctr) (V:List Str):(asL L V).length≤L.length:=by unfold asL;rw [List.length_map];exact List.length_filter_le _ _
theorem bsL_len (L:List Ctr) (V:List Str):(bsL L V).length=(asL L V).length:=by unfold asL bsL;rw [List.length_map,List.length_map]
theorem sortI_ok {V:List Str} (h:okV V):okV (sortI V):=⟨by rw [(sortI_perm V).length_eq];exact h.1,fun v hv=>h.2 v ((sortI_perm V).mem_iff.1 hv)⟩
theorem add_ctr {L:List Ctr} {x3:MV} {x4 x5:MI} (h:SumSt L x3 x4 x5) (hL:∀ c∈L,okT c) (hn:L.length≤900000) {V0:List Str} {a b:Int} (hV:okV V0) :
 ∃ y,poly_sum_add V0 a b x3 x4 x5=some y∧SumSt (L++[(sortI V0,a,b)]) y.1 y.2.1 y.2.2:=by
 have hS:=sortI_ok hV
 refine ⟨(mput (jn (sortI V0)) (sortI V0) x3,mput (jn (sortI V0)) (asL L (sortI V0)++[a]) x4,mput (jn (sortI V0)) (bsL L (sortI V0)++[b]) x5),?_,?_⟩
 ·unfold poly_sum_add
  have e1:lib_ValuesS V0=some V0:=rfl
  have e2:lib_SortedS V0=some (sortI V0):=by rw [sorted_tw];unfold lib_SortedT;rw [grd_pos (by have:=hV.1;omega)]
  have e3:lib_Join (sortI V0) [42]=some (jn (sortI V0)):=by
   unfold lib_Join
   rw [jn_join]
   have h1:=jn_len (l:=sortI V0) (k:=1000) (fun v hv=>(hS.2 v hv).2)
   have h2:=hS.1
   have h3:(sortI V0).length*(1000+1)≤1000*1001:=Nat.mul_le_mul_right _ h2
   rw [grd_pos ⟨by omega,by omega⟩]
  rw [e1]
  simp only [bnd_some]
  rw [e2]
  simp only [bnd_some]
  rw [e3]
  simp only [bnd_some]
  rw [h.ma _ hS,h.mb _ hS]
  have l1:=asL_len L (sortI V0)
  have l2:=bsL_len L (sortI V0)
  have l4:=h.l4
  have l5:=h.l5
  rw [grd_pos (by simp;omega),grd_pos (by simp;omega),grd_pos (by omega),grd_pos (by omega)]
 ·refine ⟨fun e he => ?_,fun c hc => ?_,put_nodup h.nd,fun V hV2 => ?_,fun V hV2 => ?_,?_,?_,?_⟩
  ·rcases mem_put he with rfl | he
   ·exact ⟨rfl,(sortI V0,a,b),by simp,rfl⟩
   ·obtain ⟨k1,c,k2,k3⟩:=h.e1 e he
    exact ⟨k1,c,by simp [k2],k3⟩
  ·rcases List.mem_append.1 hc with hc | hc
   ·by_cases hj:jn c.1=jn (sortI V0)
    ·have:=okV_jn (hL c hc).1 hS hj
     rw [this];exact put_mem _ _ _
    ·exact put_old hj (h.e2 c hc)
   ·have:c=(sortI V0,a,b):=by simpa using hc
    rw [this];exact put_mem _ _ _
  ·show mget [] (jn V) (mput (jn (sortI V0)) (asL L (sortI V0)++[a]) x4)=_
   rw [mget_put]
   by_cases hj:jn (sortI V0)=jn V
   ·rw [if_pos hj]
    have:=okV_jn hS hV2 hj
    subst this
    simp [asL]
   ·rw [if_neg hj,h.ma V hV2]
    have:¬ sortI V0=V:=fun e=>hj (by rw [e])
    simp [asL,this]
  ·show mget [] (jn V) (mput (jn (sortI V0)) (bsL L (sortI V0)++[b]) x5)=_
   rw [mget_put]
   by_cases hj:jn (sortI V0)=jn V
   ·rw [if_pos hj]
    have:=okV_jn hS hV2 hj
    subst this
    simp [bsL]
   ·rw [if_neg hj,h.mb V hV2]
    have:¬ sortI V0=V:=fun e=>hj (by rw [e])
    simp [bsL,this]
  ·have:=put_len (jn (sortI V0)) (sortI V0) x3;have:=h.l3;simp;omega
  ·have:=put_len (jn (sortI V0)) (asL L (sortI V0)++[a]) x4;have:=h.l4;simp;omega
  ·have:=put_len (jn (sortI V0)) (bsL L (sortI V0)++[b]) x5;have:=h.l5;simp;omega
/-! ### the canonical form -/
structure IsCanon (f:List Str→Int) (p:List Monomial):Prop where
 st:p.Pairwise (ltM Monomial.Vars)
 mem:∀ m,m∈p↔(m.Coef≠0∧m.Coef=f m.Vars)
theorem ltM_nodup {p:List Monomial} (h:p.Pairwise (ltM Monomial.Vars)):p.Nodup:=h.imp fun {a b} hab e=>by
 subst e
 unfold ltM at hab
 rw [cmpL_self] at hab
 omega
theorem IsCanon.uniq {f:List Str→Int} {p q:List Monomial} (hp:IsCanon f p) (hq:IsCanon f q):p=q :=
 sortM_uniq Monomial.Vars hp.st hq.st ((List.perm_ext_iff_of_nodup (ltM_nodup hp.st) (ltM_nodup hq.st)).2 fun m=>by rw [hp.mem,hq.mem])
def limited (p:List Monomial):List Monomial×Int:=bif validP p then (p,0) else ([],3)
def outE (L:List Ctr) (x3:MV):List Monomial:=(x3.map fun e=>bif coefL L e.2==0 then [] else [Monomial.mk (coefL L e.2) e.2]).flatten
theorem outE_mem {L:List Ctr} {x3:MV} {m:Monomial}:m∈outE L x3↔∃ e∈x3,coefL L e.2≠0∧m=⟨coefL L e.2,e.2⟩:=by
 unfold outE
 rw [List.mem_flatten]
 constructor
 ·rintro ⟨l,hl,hm⟩
  obtain ⟨e,he,rfl⟩:=List.mem_map.1 hl
  cases hz:coefL L e.2==0 with
  | true=>rw [hz] at hm;cases hm
  | false =>
   rw [hz] at hm
   simp only [cond_false,List.mem_singleton] at hm
   exact ⟨e,he,by simpa using hz,hm⟩
 ·rintro ⟨e,he,hz,rfl⟩
  refine ⟨_,List.mem_map.2 ⟨e,he,rfl⟩,?_⟩
  have:(coefL L e.2==0)=false:=by simpa using hz
  rw [this];simp
theorem outE_keys (L:List Ctr):∀ (x3:MV),(x3.map (·.2)).Nodup→((outE L x3).map Monomial.Vars).Nodup
 | [],_=>by simp [outE]
 | e::x3,h=>by
  rw [List.map_cons,List.nodup_cons] at h
  have ih:=outE_keys L x3 h.2
  have e0:outE L (e::x3)=(bif coefL L e.2==0 then [] else [Monomial.mk (coefL L e.2) e.2])++outE L x3:=rfl
  rw [e0,List.map_append,List.nodup_append]
  refine ⟨?_,ih,?_⟩
  ·cases coefL L e.2==0<;>simp
  ·rintro a ha b hb rfl
   have ha2:a=e.2:=by
    cases hz:coefL L e.2==0 with
    | true=>rw [hz] at ha;cases ha
    | false=>rw [hz] at ha;simpa using ha
   obtain ⟨m,hm,e2⟩:=List.mem_map.1 hb
   obtain ⟨e',he',_,rfl⟩:=outE_mem.1 hm
   exact h.1 (List.mem_map.2 ⟨e',he',by rw [← ha2,← e2]⟩)
theorem vals_nodup:∀ {x3:MV},(∀ e∈x3,e.1=jn e.2)→(x3.map (·.1)).Nodup→(x3.map (·.2)).Nodup
 | [],_,_=>by simp
 | e::x3,h,hn=>by
  rw [List.map_cons,List.nodup_cons] at hn ⊢
  refine ⟨fun hm=>hn.1 ?_,vals_nodup (fun e' he=>h e' (by simp [he])) hn.2⟩
  obtain ⟨e',he',e2⟩:=List.mem_map.1 hm
  exact List.mem_map.2 ⟨e',he',by rw [h e' (by simp [he']),e2,h e (by simp)]⟩
theorem result_ctr {L:List Ctr} {x3:MV} {x4 x5:MI} (h:SumSt L x3 x4 x5) (hL:∀ c∈L,okT c) (hn:L.length≤10000) :
 ∃ p,IsCanon (coefL L) p∧Bd p∧poly_sum_result x3 x4 x5=some (limited p):=by
 have hv2:=vals_nodup (fun e he=>(h.e1 e he).1) h.nd
 have hok:∀ e∈x3,okV e.2:=fun e he=>by
  obtain ⟨_,c,hc,e2⟩:=h.e1 e he
  rw [← e2];exact (hL c hc).1
 have hent:∀ e∈x3,entC x4 x5 e=sumE (coefL L e.2):=fun e he=>by
  unfold entC
  rw [(h.e1 e he).1,h.ma _ (hok e he),h.mb _ (hok e he)]
  unfold dotR
  have ha:(asL L e.2).all inB=true:=by
   rw [List.all_eq_true]
   intro n hn2
   obtain ⟨c,hc,rfl⟩:=List.mem_map.1 hn2
   exact (hL c (List.mem_filter.1 hc).1).2.1
  have hb:(bsL L e.2).all inB=true:=by
   rw [List.all_eq_true]
   intro n hn2
   obtain ⟨c,hc,rfl⟩:=List.mem_map.1 hn2
   exact (hL c (List.mem_filter.1 hc).1).2.2
  rw [decide_eq_true (bsL_len L e.2).symm,decide_eq_true (show (asL L e.2).length≤10000 by have:=asL_len L e.2;omega),ha,hb,coefL_dot];rfl
 have hkeys:=outE_keys L x3 hv2
 have hcan:IsCanon (coefL L) (sortMI Monomial.Vars (outE L x3)):=by
  refine ⟨sortMI_sorted _ hkeys,fun m => ?_⟩
  rw [(sortMI_perm Monomial.Vars (outE L x3)).mem_iff,outE_mem]
  constructor
  ·rintro ⟨e,he,hz,rfl⟩;exact ⟨hz,rfl⟩
  ·rintro ⟨hz,he⟩
   rw [he] at hz
   obtain ⟨c,hc,e2⟩:=coefL_mem hz
   refine ⟨_,h.e2 c hc,by rw [e2];exact hz,?_⟩
   show m=⟨coefL L c.1,c.1⟩
   rw [e2,← he]
 have hBd:Bd (sortMI Monomial.Vars (outE L x3)):=by
  refine ⟨?_,fun m hm => ?_⟩
  ·rw [(sortMI_perm Monomial.Vars (outE L x3)).length_eq]
   have:∀ x:MV,(outE L x).length≤x.length:=by
    intro x
    induction x with
    | nil=>simp [outE]
    | cons e x ih =>
     have e0:outE L (e::x)=(bif coefL L e.2==0 then [] else [Monomial.mk (coefL L e.2) e.2])++outE L x:=rfl
     rw [e0,List.length_append,List.length_cons]
     cases coefL L e.2==0<;>simp<;>omega
   have h1:=this x3
   have h2:=h.l3
   omega
  ·obtain ⟨e,he,_,rfl⟩:=outE_mem.1 ((sortMI_perm Monomial.Vars (outE L x3)).mem_iff.1 hm)
   have:=hok e he
   exact ⟨by have:=this.1;show e.2.length≤1000000;omega,fun v hv=>by have:=(this.2 v hv).2;omega⟩
 refine ⟨_,hcan,hBd,?_⟩
 rw [result_eq x3 x4 x5 hv2 (by have:=h.l3;omega) (fun e he=>by
  have:=hok e he
  exact ⟨by have:=this.1;omega,fun v hv=>by have:=(this.2 v hv).2;omega⟩)]
 unfold resT
 cases hall:x3.all (entOk x4 x5) with
 | true =>
  have hin:∀ e∈x3,inB (coefL L e.2)=true:=fun e he=>by
   have h1:=List.all_eq_true.1 hall e he
   unfold entOk at h1
   rw [hent e he] at h1
   unfold sumE at h1
   cases hq:inB (coefL L e.2) with
   | true=>rfl
   | false=>rw [hq] at h1;simp at h1
  have e1:outL x3 x4 x5=outE L x3:=by
   unfold outL outE
   congr 1
   refine List.map_congr_left fun e he => ?_
   unfold mono1
   rw [hent e he,sumE_in (hin e he)]
  rw [e1];rfl
 | false =>
  have hbad:∃ e∈x3,inB (coefL L e.2)=false:=by
   have:¬ (x3.all (entOk x4 x5)=true):=by rw [hall];simp
   rw [List.all_eq_true] at this
   refine Classical.byContradiction fun hn2=>this fun e he => ?_
   cases hq:inB (coefL L e.2) with
   | true=>unfold entOk;rw [hent e he,sumE_in hq];rfl
   | false=>exact absurd ⟨e,he,hq⟩ hn2
  obtain ⟨e,he,hq⟩:=hbad
  have hnv:validP (sortMI Monomial.Vars (outE L x3))=false:=by
   cases hv:validP (sortMI Monomial.Vars (outE L x3)) with
   | false=>rfl
   | true =>
    have hz:coefL L e.2≠0:=by
     intro e0;rw [e0] at hq;cases hq
    have hm:(⟨coefL L e.2,e.2⟩:Monomial)∈sortMI Monomial.Vars (outE L x3):=(sortMI_perm Monomial.Vars (outE L x3)).mem_iff.2 (outE_mem.2 ⟨e,he,hz,rfl⟩)
    have:=valid_coef hv hm
    unfold okM at this
    simp only [Bool.and_eq_true,decide_eq_true_eq] at this
    have h2:inB (coefL L e.2)=true:=inB_iff.2 (by omega)
    rw [h2] at hq;cases hq
  unfold limited
  rw [hnv];rfl
end Go.Proofs.YtjfpcjnopbfekaaGreatDoor
/- PLAIN LAWS of layer 5: products and sums of polynomials are canonical forms. -/
namespace Go.Proofs.YtjfpcjnopbfekaaGreatDoor
open Go.Ab Go.Sh Go.Sort
def okMo (m:Monomial):Prop:=(m.Vars.length≤400∧∀ v∈m.Vars,nos v∧v.length≤1000)∧inB m.Coef=true
def okP (p:List Monomial):Prop:=p.length≤60∧∀ m∈p,okMo m
theorem dig_no {l:Str} (h:l.all isDig=true):(42:UInt8) ∉ l:=fun hm=>by
 have:=List.all_eq_true.1 h _ hm
 revert this;decide
theorem name_nos {v:Str} (h:nameS v=true):nos v∧v.length≤30:=by
 cases v with
 | nil=>cases h
 | cons c r =>
  simp only [nameS] at h
  cases hc:c==95 with
  | true =>
   rw [hc] at h
   simp only [cond_true,Bool.and_eq_true,decide_eq_true_eq] at h
   have hc':c=95:=by simpa using hc
   refine ⟨⟨by simp,?_⟩,by simp;omega⟩
   rw [hc',List.mem_cons,not_or]
   exact ⟨by decide,dig_no h.2.2.2⟩
  | false =>
   rw [hc] at h
   simp only [cond_false,Bool.and_eq_true,decide_eq_true_eq] at h
   refine ⟨⟨by simp,?_⟩,by simp;omega⟩
   rw [List.mem_cons,not_or]
   refine ⟨fun e => ?_,fun hm => ?_⟩
   ·have:=h.2.1
    rw [← e] at this
    revert this;decide
   ·have:=List.all_eq_true.1 h.2.2 _ hm
    revert this;decide
theorem valid_okP {p:List Monomial} (h:validP p=true):okP p:=by
 refine ⟨?_,fun m hm => ?_⟩
 ·unfold validP at h
  rw [Bool.and_eq_true,decide_eq_true_eq] at h
  exact h.2
 ·have:=valid_coef h hm
  unfold okM at this
  simp only [Bool.and_eq_true,decide_eq_true_eq] at this
  obtain ⟨_,h1,h2,h3,_,h5⟩:=this
  refine ⟨⟨by omega,fun v hv => ?_⟩,inB_iff.2 (by omega)⟩
  have:=name_nos (List.all_eq_true.1 h5 v hv)
  exact ⟨this.1,by omega⟩
theorem take1M (l:List Monomial) (i:Nat) (h:i<l.length):l.take (i+1)=l.take i++[monoAt l i]:=by
 unfold monoAt
 rw [List.take_add_one,List.getD_eq_getElem?_getD,List.getElem?_eq_getElem h];rfl
end Go.Proofs.YtjfpcjnopbfekaaGreatDoor
/- PLAIN LAWS of layer 5: the degree of a product. -/
namespace Go.Proofs.YtjfpcjnopbfekaaGreatDoor
open Go.Ab Go.Sh Go.Sort
theorem valid_len {p:List Monomial} (h:validP p=true) {m:Monomial} (hm:m∈p):m.Vars.length≤8∧m.Coef≠0:=by
 have:=valid_coef h hm
 unfold okM at this
 simp only [Bool.and_eq_true,decide_eq_true_eq,Bool.not_eq_true',beq_eq_false_iff_ne] at this
 exact ⟨this.2.2.2.1,this.1⟩
/-! ### weights -/
/-! ### degrees -/
def isDeg (p:List Monomial) (d:Nat):Prop:=(∀ m∈p,m.Vars.length≤d)∧(d=0∨∃ m∈p,m.Vars.length=d)
theorem isDeg_uniq {p:List Monomial} {d e:Nat} (h1:isDeg p d) (h2:isDeg p e):d=e:=by
 have a:∀ {d e},isDeg p d→isDeg p e→d≤e:=fun {d e} h1 h2=>by
  rcases h1.2 with h | ⟨m,hm,h⟩
  ·omega
  ·rw [← h];exact h2.1 m hm
 exact Nat.le_antisymm (a h1 h2) (a h2 h1)
theorem poly_Degree_eq {p:List Monomial} (hB:Bd p) (hv:validP p=true):∃ d:Nat,poly_Degree p=some ((d:Nat):Int)∧isDeg p d:=by
 unfold poly_Degree
 obtain ⟨s,e,d,hI1,hI2⟩:=cnt_inv (ρ:=Empty) (σ:=Int) (ε:=Int) (body:=fun i16 s15 =>
  some (.go (if ((((p.getD i16 ⟨0,[]⟩).Vars).length:Nat):Int)>s15 then ((((p.getD i16 ⟨0,[]⟩).Vars).length:Nat):Int) else s15))) (fin:=fun i16 s15=>s15)
  (fun j s=>∃ d:Nat,s=((d:Nat):Int)∧isDeg (p.take j) d) (p.length-0) 0 0 ⟨0,rfl,by simp [isDeg]⟩ (fun j s _ hj ⟨d,h1,h2⟩=>by
   refine ⟨_,rfl,?_⟩
   rw [take1M p j (by omega)]
   show ∃ d:Nat,(if (((monoAt p j).Vars.length:Nat):Int)>s then (((monoAt p j).Vars.length:Nat):Int) else s)=_∧_
   subst h1
   by_cases hgt:d<(monoAt p j).Vars.length
   ·rw [if_pos (by omega)]
    refine ⟨_,rfl,fun m hm => ?_,.inr ⟨_,by simp,rfl⟩⟩
    rcases List.mem_append.1 hm with hm | hm
    ·have:=h2.1 m hm;omega
    ·have:m=monoAt p j:=by simpa using hm
     rw [this];exact Nat.le_refl _
   ·rw [if_neg (by omega)]
    refine ⟨d,rfl,fun m hm => ?_,?_⟩
    ·rcases List.mem_append.1 hm with hm | hm
     ·exact h2.1 m hm
     ·have:m=monoAt p j:=by simpa using hm
      rw [this];omega
    ·rcases h2.2 with h | ⟨m,hm,h⟩
     ·exact .inl h
     ·exact .inr ⟨m,by simp [hm],h⟩)
 refine ⟨d,?_,by rw [Nat.zero_add,Nat.sub_zero,List.take_length] at hI2;exact hI2⟩
 rw [e]
 show ((poly_Valid p).bind fun y46=>bif y46 then some s else some 0)=_
 rw [poly_Valid_eq p hB,hv,hI1];rfl
end Go.Proofs.YtjfpcjnopbfekaaGreatDoor
/- PLAIN LAW: the degree of a product is the sum of the degrees. -/
/- PLAIN LAWS of layer 5: sums of polynomials, numbers, equality. -/
namespace Go.Proofs.YtjfpcjnopbfekaaGreatDoor
open Go.Ab Go.Sh Go.Sort
theorem sameTexts_self (V:List Str):ref01_SameTexts V V=some true:=by
 unfold ref01_SameTexts
 rw [show ((((V.length:Nat):Int)==((V.length:Nat):Int)))=true by simp]
 simp only [cond_true]
 rw [cnt_all (r:=false) (fun _=>true) _ _ () (fun j u _ hj=>by
  rw [grd_pos (by omega)]
  simp)]
 have:(List.range' 0 (V.length-0)).all (fun _=>true)=true:=by simp
 rw [this];rfl
theorem equal_self (p:List Monomial):ref05_Equal p p=some true:=by
 unfold ref05_Equal
 rw [show ((((p.length:Nat):Int)==((p.length:Nat):Int)))=true by simp]
 simp only [cond_true]
 rw [cnt_all (r:=false) (fun _=>true) _ _ () (fun j u _ hj=>by
  rw [grd_pos (by omega),sameTexts_self]
  simp)]
 have:(List.range' 0 (p.length-0)).all (fun _=>true)=true:=by simp
 rw [this];rfl
end Go.Proofs.YtjfpcjnopbfekaaGreatDoor
/- PLAIN LAWS of layer 5: polynomials are linear functionals; the laws of a ring. -/
namespace Go.Proofs.YtjfpcjnopbfekaaGreatDoor
open Go.Ab Go.Sh Go.Sort
/-! ### products -/
end Go.Proofs.YtjfpcjnopbfekaaGreatDoor
/- PLAIN LAW: polynomials make a ring. -/
/- PLAIN LAWS of layer 5: a monomial is put where it belongs. -/
namespace Go.Proofs.YtjfpcjnopbfekaaGreatDoor
open Go.Ab Go.Sh Go.Sort
def plusI (m:Monomial):List Monomial→List Monomial
 | []=>[m]
 | x::r=>if 0<cmpL x.Vars m.Vars then m::x::r else if cmpL x.Vars m.Vars=0 then (if x.Coef+m.Coef=0 then r else ⟨x.Coef+m.Coef,x.Vars⟩::r) else x::plusI m r
def plusM (p:List Monomial) (m:Monomial):List Monomial:=if m.Coef=0 then p else plusI m p
theorem plusI_len (m:Monomial):∀ p,(plusI m p).length≤p.length+1
 | []=>by simp [plusI]
 | x::r=>by
  unfold plusI
  have:=plusI_len m r
  split
  ·simp
  ·split
   ·split<;>simp;omega
   ·simp;omega
theorem plusM_len (p:List Monomial) (m:Monomial):(plusM p m).length≤p.length+1:=by
 unfold plusM
 split
 ·omega
 ·exact plusI_len m p
theorem plusI_key {m n:Monomial}:∀ {p:List Monomial},n∈plusI m p→n.Vars=m.Vars∨∃ x∈p,x.Vars=n.Vars
 | [],h=>by simp [plusI] at h;exact .inl (by rw [h])
 | x::r,h=>by
  unfold plusI at h
  split at h
  ·rcases List.mem_cons.1 h with rfl | h
   ·exact .inl rfl
   ·exact .inr ⟨n,h,rfl⟩
  ·split at h
   ·split at h
    ·exact .inr ⟨n,by simp [h],rfl⟩
    ·rcases List.mem_cons.1 h with rfl | h
     ·exact .inr ⟨x,by simp,rfl⟩
     ·exact .inr ⟨n,by simp [h],rfl⟩
   ·rcases List.mem_cons.1 h with rfl | h
    ·exact .inr ⟨n,by simp,rfl⟩
    ·rcases plusI_key h with h | ⟨y,hy,e⟩
     ·exact .inl h
     ·exact .inr ⟨y,by simp [hy],e⟩
theorem plusI_sorted {m:Monomial}:∀ {p:List Monomial},p.Pairwise (ltM Monomial.Vars)→(plusI m p).Pairwise (ltM Monomial.Vars)
 | [],_=>by simp [plusI]
 | x::r,h=>by
  have h2:=List.pairwise_cons.1 h
  unfold plusI
  split
  ·rename_i hgt
   have hmx:ltM Monomial.Vars m x:=cmpL_anti.2 hgt
   refine List.pairwise_cons.2 ⟨fun z hz => ?_,h⟩
   rcases List.mem_cons.1 hz with rfl | hz
   ·exact hmx
   ·exact cmpL_trans hmx (h2.1 z hz)
  ·split
   ·split
    ·exact h2.2
    ·exact List.pairwise_cons.2 ⟨fun z hz=>h2.1 z hz,h2.2⟩
   ·rename_i hgt heq
    refine List.pairwise_cons.2 ⟨fun z hz => ?_,plusI_sorted h2.2⟩
    show cmpL x.Vars z.Vars<0
    rcases plusI_key hz with e | ⟨y,hy,e⟩
    ·rw [e];omega
    ·rw [← e];exact h2.1 y hy
theorem plusI_mem {m:Monomial} (hm:m.Coef≠0) {c:Int}:∀ {p:List Monomial},p.Pairwise (ltM Monomial.Vars)→(∀ x∈p,x.Coef≠0)→(∀ x∈p,x.Vars=m.Vars→x.Coef=c)→((∀ x∈p,x.Vars≠m.Vars)→c=0) →
 ∀ n,n∈plusI m p↔(n.Vars≠m.Vars∧n∈p)∨(n.Vars=m.Vars∧n.Coef=c+m.Coef∧n.Coef≠0)
 | [],_,_,_,h4,n=>by
  have hc:c=0:=h4 fun x hx=>by cases hx
  subst hc
  obtain ⟨k,V⟩:=n
  obtain ⟨k',V'⟩:=m
  simp only [plusI,List.mem_singleton,Monomial.mk.injEq,List.not_mem_nil,and_false,false_or]
  simp only at hm
  constructor
  ·rintro ⟨rfl,rfl⟩;exact ⟨rfl,by omega,hm⟩
  ·rintro ⟨rfl,h,_⟩;exact ⟨by omega,rfl⟩
 | x::r,h,h2,h3,h4,n=>by
  have hp:=List.pairwise_cons.1 h
  have hself:cmpL m.Vars m.Vars=0:=cmpL_self _
  unfold plusI
  split
  ·rename_i hgt
   have hmx:ltM Monomial.Vars m x:=cmpL_anti.2 hgt
   have hne:∀ y∈x::r,y.Vars≠m.Vars:=fun y hy e=>by
    have h5:ltM Monomial.Vars m y:=by
     rcases List.mem_cons.1 hy with rfl | hy
     ·exact hmx
     ·exact cmpL_trans hmx (hp.1 y hy)
    have h5:cmpL m.Vars y.Vars<0:=h5
    rw [e,hself] at h5
    omega
   have hc:c=0:=h4 hne
   subst hc
   rw [List.mem_cons]
   constructor
   ·rintro (rfl | hn)
    ·exact .inr ⟨rfl,by omega,hm⟩
    ·exact .inl ⟨hne n hn,hn⟩
   ·rintro (⟨_,hn⟩ | ⟨e1,e2,_⟩)
    ·exact .inr hn
    ·refine .inl ?_
     obtain ⟨k,V⟩:=n
     obtain ⟨k',V'⟩:=m
     simp only at e1 e2
     rw [e1,e2,Int.zero_add]
  ·split
   ·rename_i hgt heq
    have exm:=cmpL_zero heq
    have hc:x.Coef=c:=h3 x (by simp) exm
    have hne:∀ y∈r,y.Vars≠m.Vars:=fun y hy e=>by
     have h5:cmpL x.Vars y.Vars<0:=hp.1 y hy
     rw [e,exm,hself] at h5
     omega
    split
    ·rename_i hz
     constructor
     ·intro hn;exact .inl ⟨hne n hn,by simp [hn]⟩
     ·rintro (⟨e1,hn⟩ | ⟨e1,e2,e3⟩)
      ·rcases List.mem_cons.1 hn with rfl | hn
       ·exact absurd exm e1
       ·exact hn
      ·exfalso;omega
    ·rename_i hz
     rw [List.mem_cons]
     constructor
     ·rintro (rfl | hn)
      ·exact .inr ⟨exm,by simp only;omega,hz⟩
      ·exact .inl ⟨hne n hn,by simp [hn]⟩
     ·rintro (⟨e1,hn⟩ | ⟨e1,e2,e3⟩)
      ·rcases List.mem_cons.1 hn with rfl | hn
       ·exact absurd exm e1
       ·exact .inr hn
      ·refine .inl ?_
       obtain ⟨k,V⟩:=n
       simp only at e1 e2
       rw [e1,e2,exm,hc]
   ·rename_i hgt heq
    have hxm:x.Vars≠m.Vars:=fun e=>heq (by rw [e];exact hself)
    have ih:=plusI_mem hm hp.2 (fun y hy=>h2 y (by simp [hy])) (fun y hy=>h3 y (by simp [hy])) (fun hA=>h4 fun y hy=>by
     rcases List.mem_cons.1 hy with rfl | hy
     ·exact hxm
     ·exact hA y hy) n
    rw [List.mem_cons,ih,List.mem_cons]
    constructor
    ·rintro (rfl | ⟨e1,hn⟩ | e1)
     ·exact .inl ⟨hxm,.inl rfl⟩
     ·exact .inl ⟨e1,.inr hn⟩
     ·exact .inr e1
    ·rintro (⟨e1,rfl | hn⟩ | e1)
     ·exact .inl rfl
     ·exact .inr (.inl ⟨e1,hn⟩)
     ·exact .inr (.inr e1)
theorem coefL_one (V:List Str) (c:Ctr):coefL [c] V=if c.1=V then c.2.1*c.2.2 else 0:=by
 unfold coefL
 simp [coefL]
theorem plus_canon {L:List Ctr} {p:List Monomial} (h:IsCanon (coefL L) p) {m:Monomial} {a b:Int} (e:m.Coef=a*b):IsCanon (coefL (L++[(m.Vars,a,b)])) (plusM p m):=by
 have hco:∀ V,coefL (L++[(m.Vars,a,b)]) V=coefL L V+if m.Vars=V then m.Coef else 0:=fun V=>by
  rw [coefL_append,coefL_one];simp only [e]
 unfold plusM
 by_cases hz:m.Coef=0
 ·rw [if_pos hz]
  refine ⟨h.st,fun n => ?_⟩
  rw [h.mem,hco,hz]
  simp
 ·rw [if_neg hz]
  refine ⟨plusI_sorted h.st,fun n => ?_⟩
  rw [plusI_mem hz (c:=coefL L m.Vars) h.st (fun x hx=>((h.mem x).1 hx).1) (fun x hx ex=>by rw [((h.mem x).1 hx).2,ex]) (fun hA => ?_) n,h.mem,hco]
  ·constructor
   ·rintro (⟨e1,e2,e3⟩ | ⟨e1,e2,e3⟩)
    ·rw [if_neg (Ne.symm e1)];exact ⟨e2,by omega⟩
    ·rw [if_pos e1.symm,e1];exact ⟨e3,e2⟩
   ·rintro ⟨e2,e3⟩
    by_cases e1:n.Vars=m.Vars
    ·rw [if_pos e1.symm,e1] at e3;exact .inr ⟨e1,e3,e2⟩
    ·rw [if_neg (Ne.symm e1)] at e3;exact .inl ⟨e1,e2,by omega⟩
  ·apply Classical.byContradiction
   intro hc
   exact hA ⟨coefL L m.Vars,m.Vars⟩ ((h.mem _).2 ⟨hc,rfl⟩) rfl
end Go.Proofs.YtjfpcjnopbfekaaGreatDoor
/- PLAIN LAWS of layer 5: the specification puts monomials where they belong. -/
namespace Go.Proofs.YtjfpcjnopbfekaaGreatDoor
open Go.Ab Go.Sh Go.Sort
def plS (m x:Monomial) (s:List Monomial×Bool):List Monomial×Bool :=
 if s.2=true then (if x.Coef=0 then s.1 else s.1++[x],true)
 else if 0<cmpL x.Vars m.Vars then (if x.Coef=0 then s.1++[m] else s.1++[m]++[x],true)
 else if cmpL x.Vars m.Vars=0 then (if w64 (x.Coef+m.Coef)=0 then s.1 else s.1++[⟨w64 (x.Coef+m.Coef),x.Vars⟩],true)
 else (if x.Coef=0 then s.1 else s.1++[x],false)
theorem plS_len (m x:Monomial) (s:List Monomial×Bool):(plS m x s).1.length≤s.1.length+2:=by
 unfold plS
 repeat' split
 all_goals simp
theorem plus_done {m:Monomial}:∀ {p:List Monomial},(∀ x∈p,x.Coef≠0)→∀ out,loopL (ρ:=Empty) (fun x s=>.go (plS m x s)) (fun s=>s) p (out,true) = .brk (out++p,true)
 | [],_,out=>by simp [loopL]
 | x::r,h,out=>by
  have hx:=h x (by simp)
  have e:plS m x (out,true)=(out++[x],true):=by unfold plS;rw [if_pos rfl,if_neg hx]
  simp only [loopL,e]
  rw [plus_done (fun y hy=>h y (by simp [hy]))]
  simp
def plE (m:Monomial) (s:List Monomial×Bool):List Monomial:=if s.2=true then s.1 else s.1++[m]
theorem plus_loop {m:Monomial}:∀ {p:List Monomial},(∀ x∈p,x.Coef≠0)→(∀ x∈p,x.Vars=m.Vars→w64 (x.Coef+m.Coef)=x.Coef+m.Coef)→∀ out,∃ s,loopL (ρ:=Empty) (fun x s=>.go (plS m x s)) (fun s=>s) p (out,false) = .brk s∧plE m s=out++plusI m p
 | [],_,_,out=>⟨(out,false),rfl,rfl⟩
 | x::r,h,hw,out=>by
  have hx:=h x (by simp)
  have hr:∀ y∈r,y.Coef≠0:=fun y hy=>h y (by simp [hy])
  unfold plusI
  by_cases h1:0<cmpL x.Vars m.Vars
  ·have e:plS m x (out,false)=(out++[m]++[x],true):=by unfold plS;rw [if_neg (by simp),if_pos h1,if_neg hx]
   rw [if_pos h1]
   simp only [loopL,e]
   exact ⟨_,plus_done hr _,by simp [plE]⟩
  ·by_cases h2:cmpL x.Vars m.Vars=0
   ·have hw1:=hw x (by simp) (cmpL_zero h2)
    rw [if_neg h1,if_pos h2]
    by_cases h3:x.Coef+m.Coef=0
    ·have e:plS m x (out,false)=(out,true):=by unfold plS;rw [if_neg (by simp),if_neg h1,if_pos h2,hw1,if_pos h3]
     simp only [loopL,e]
     exact ⟨_,plus_done hr _,by rw [if_pos h3];simp [plE]⟩
    ·have e:plS m x (out,false)=(out++[⟨x.Coef+m.Coef,x.Vars⟩],true):=by unfold plS;rw [if_neg (by simp),if_neg h1,if_pos h2,hw1,if_neg h3]
     simp only [loopL,e]
     exact ⟨_,plus_done hr _,by rw [if_neg h3];simp [plE]⟩
   ·have e:plS m x (out,false)=(out++[x],false):=by unfold plS;rw [if_neg (by simp),if_neg h1,if_neg h2,if_neg hx]
    rw [if_neg h1,if_neg h2]
    simp only [loopL,e]
    obtain ⟨s,h3,h4⟩:=plus_loop hr (fun y hy=>hw y (by simp [hy])) (out++[x])
    exact ⟨s,h3,by rw [h4];simp⟩
theorem ref05_plus_eq {p:List Monomial} {m:Monomial} (hB:Bd p) (hm:m.Vars.length≤1000000) (h0:∀ x∈p,x.Coef≠0) (hw:∀ x∈p,x.Vars=m.Vars→w64 (x.Coef+m.Coef)=x.Coef+m.Coef):ref05_plus p m=some (plusM p m):=by
 unfold ref05_plus
 have hbody:∀ (j:Nat) (s:List Monomial×Bool),j<p.length→s.1.length≤2*j → 
  ((ref05_order ((p.getD j ⟨0,[]⟩).Vars) m.Vars).bind fun y183 =>
  ((
   bif s.2 then (
    some (true,false)
   ) else (
    some (false,decide (y183>0))
   )
  ):Option (Bool×Bool)).bind fun v186 =>
  ((
   bif v186.2 then (
    grd ((s.1.length+1)*32≤140737488355328) <|
    some ((s.1++[m]),true)
   ) else (
    some (s.1,v186.1)
   )
  ):Option ((List Monomial)×Bool)).bind fun v199 =>
  ((
   bif v199.2 then (
    some (true,false)
   ) else (
    some (false,(y183==0))
   )
  ):Option (Bool×Bool)).bind fun v210 =>
  ((
   bif v210.2 then (
    some (true,(w64 (((p.getD j ⟨0,[]⟩).Coef)+m.Coef)))
   ) else (
    some (v210.1,((p.getD j ⟨0,[]⟩).Coef))
   )
  ):Option (Bool×Int)).bind fun v219 =>
  ((
   bif (v219.2==0) then (
    some v199.1
   ) else (
    grd ((v199.1.length+1)*32≤140737488355328) <|
    some (v199.1++[(Monomial.mk v219.2 ((p.getD j ⟨0,[]⟩).Vars))])
   )
  ):Option (List Monomial)).bind fun v232 =>
  (some (.go (v232,v219.1)):Option (Stp (List Monomial×Bool) (List Monomial×Bool) Empty)))=some (.go (plS m (p.getD j ⟨0,[]⟩) s)):=by
  intro j s hj hI
  have hpl:=hB.1
  have hxm:=hB.2 _ (monoAt_mem (p:=p) (j:=j) hj)
  obtain ⟨r,e,k1,k2⟩:=order_eq (monoAt p j).Vars m.Vars hxm.1 hm
  rw [show p.getD j ⟨0,[]⟩=monoAt p j from rfl,e]
  generalize monoAt p j=x at k1 k2 ⊢
  obtain ⟨out,put⟩:=s
  have hI:out.length≤2*j:=hI
  obtain ⟨c,V⟩:=x
  have hz:(c==0)=decide (c=0):=rfl
  cases put with
  | true =>
   simp only [bnd_some,cond_true,cond_false]
   unfold plS
   rw [if_pos rfl]
   by_cases h:c=0
   ·rw [beq_iff_eq.2 h,if_pos h];rfl
   ·rw [beq_eq_false_iff_ne.2 h,if_neg h,cond_false,grd_pos (by omega)];rfl
  | false =>
   simp only [bnd_some,cond_false]
   unfold plS
   rw [if_neg (by simp)]
   simp only at k1 k2
   by_cases h1:0<cmpL V m.Vars
   ·rw [decide_eq_true (show r>0 by omega),if_pos h1]
    simp only [cond_true]
    rw [grd_pos (by omega)]
    simp only [bnd_some,cond_true,cond_false]
    by_cases h:c=0
    ·rw [beq_iff_eq.2 h,if_pos h];rfl
    ·rw [beq_eq_false_iff_ne.2 h,if_neg h,cond_false,grd_pos (by simp;omega)];rfl
   ·rw [decide_eq_false (show ¬ r>0 by omega),if_neg h1]
    simp only [bnd_some,cond_false]
    by_cases h2:cmpL V m.Vars=0
    ·rw [beq_iff_eq.2 (k2.2 h2),if_pos h2]
     simp only [bnd_some,cond_true]
     by_cases h:w64 (c+m.Coef)=0
     ·rw [beq_iff_eq.2 h,if_pos h];rfl
     ·rw [beq_eq_false_iff_ne.2 h,if_neg h,cond_false,grd_pos (by omega)];rfl
    ·rw [beq_eq_false_iff_ne.2 (fun e=>h2 (k2.1 e)),if_neg h2]
     simp only [bnd_some,cond_false]
     by_cases h:c=0
     ·rw [beq_iff_eq.2 h,if_pos h];rfl
     ·rw [beq_eq_false_iff_ne.2 h,if_neg h,cond_false,grd_pos (by omega)];rfl
 rw [cnt_list0 (f:=fun s=>s) ⟨0,[]⟩ p (fun x s=>.go (plS m x s)) (fun j s=>s.1.length≤2*j) (fun i s=>rfl) ([],(m.Coef==0)) (by simp) (fun j s hj hI=>⟨hbody j s hj hI,fun s' hs=>by
  cases hs
  have:=plS_len m (p.getD j ⟨0,[]⟩) s
  omega⟩)]
 unfold plusM
 by_cases hz:m.Coef=0
 ·rw [beq_iff_eq.2 hz,if_pos hz,plus_done h0];rfl
 ·rw [beq_eq_false_iff_ne.2 hz,if_neg hz]
  obtain ⟨s,h1,h2⟩:=plus_loop h0 hw []
  rw [h1]
  show (bif s.2 then some s.1 else grd ((s.1.length+1)*32≤140737488355328) <| some (s.1++[m]))=_
  unfold plE at h2
  rw [List.nil_append] at h2
  cases h3:s.2 with
  | true=>rw [h3,if_pos rfl] at h2;rw [← h2];rfl
  | false =>
   rw [h3,if_neg (by simp)] at h2
   have h4:=plusI_len m p
   rw [← h2] at h4 ⊢
   have:=hB.1
   simp only [List.length_append,List.length_singleton] at h4
   rw [cond_false,grd_pos (by omega)]
end Go.Proofs.YtjfpcjnopbfekaaGreatDoor
/- PLAIN LAWS of layer 5: the variables of a polynomial, equality, the degree. -/
namespace Go.Sh
open Go.Ab
def ltS (x y:Str):Prop:=Op.bytesLess x y=true
theorem ltS_nodup {a:List Str} (h:a.Pairwise ltS):a.Nodup:=h.imp fun {x y} hxy e=>by
 subst e
 unfold ltS at hxy
 rw [cb_irrefl] at hxy
 cases hxy
theorem strict_uniq {a b:List Str} (ha:a.Pairwise ltS) (hb:b.Pairwise ltS) (h:∀ v,v∈a↔v∈b):a=b :=
 List.Perm.eq_of_pairwise (fun x y _ _ h1 h2=>by
  have h3:=cb_asymm h1
  unfold ltS at h2
  rw [h2] at h3;cases h3) ha hb ((List.perm_ext_iff_of_nodup (ltS_nodup ha) (ltS_nodup hb)).2 h)
def insV (v:Str):List Str→List Str
 | []=>[v]
 | x::r=>if Op.bytesLess x v=true then x::insV v r else if x=v then x::r else v::x::r
theorem insV_mem (v y:Str):∀ l,y∈insV v l↔y=v∨y∈l
 | []=>by simp [insV]
 | x::r=>by
  unfold insV
  split
  ·rw [List.mem_cons,insV_mem v y r,List.mem_cons]
   constructor
   ·rintro (h | h | h)
    ·exact .inr (.inl h)
    ·exact .inl h
    ·exact .inr (.inr h)
   ·rintro (h | h | h)
    ·exact .inr (.inl h)
    ·exact .inl h
    ·exact .inr (.inr h)
  ·split
   ·rename_i e
    constructor
    ·exact .inr
    ·rintro (h | h)
     ·rw [h,e];simp
     ·exact h
   ·simp
theorem insV_strict {v:Str}:∀ {l:List Str},l.Pairwise ltS→(insV v l).Pairwise ltS
 | [],_=>by simp [insV]
 | x::r,h=>by
  have h2:=List.pairwise_cons.1 h
  unfold insV
  split
  ·rename_i hx
   refine List.pairwise_cons.2 ⟨fun y hy => ?_,insV_strict h2.2⟩
   rcases (insV_mem v y r).1 hy with rfl | hy
   ·exact hx
   ·exact h2.1 y hy
  ·split
   ·exact h
   ·rename_i h3 h4
    have hvx:ltS v x:=by
     rcases cb_tri v x with h5 | h5 | h5
     ·exact h5
     ·exact absurd h5.symm h4
     ·exact absurd h5 h3
    refine List.pairwise_cons.2 ⟨fun y hy => ?_,h⟩
    rcases List.mem_cons.1 hy with rfl | hy
    ·exact hvx
    ·exact cb_trans hvx (h2.1 y hy)
theorem insV_len (v:Str):∀ l,(insV v l).length≤l.length+1
 | []=>by simp [insV]
 | x::r=>by
  have:=insV_len v r
  unfold insV
  split
  ·simp;omega
  ·split<;>simp
theorem insV_place (v:Str):∀ (l:List Str) (u:Nat),(∀ i,i<u→Op.bytesLess (l.getD i []) v=true)→u≤l.length→(u<l.length→Op.bytesLess (l.getD u []) v=false) →
 insV v l=if u<l.length∧l.getD u []=v then l else l.take u++[v]++l.drop u
 | [],u,_,hu,_=>by
  have:u=0:=by simpa using hu
  subst this
  simp [insV]
 | x::r,0,_,_,h=>by
  have h0:=h (by simp)
  simp only [List.getD_cons_zero] at h0
  unfold insV
  rw [if_neg (by rw [h0];simp)]
  by_cases e:x=v
  ·rw [if_pos e,if_pos ⟨by simp,by simpa using e⟩]
  ·rw [if_neg e,if_neg (fun h=>e (by simpa using h.2))];rfl
 | x::r,u+1,h1,hu,h=>by
  have h0:=h1 0 (by omega)
  simp only [List.getD_cons_zero] at h0
  unfold insV
  rw [if_pos h0,insV_place v r u (fun i hi=>by have:=h1 (i+1) (by omega);simpa using this) (by simpa using hu) (fun hl=>by have:=h (by simpa using hl);simpa using this)]
  simp only [List.length_cons,List.getD_cons_succ,Nat.add_lt_add_iff_right,List.take_succ_cons,List.drop_succ_cons,List.cons_append]
  split<;>rfl
theorem compact_in {xs:List Str} {x:Str} (h:x∈xs):x∈Lib.compact xs:=by
 have key:∀ j,j<xs.length→xs.toArray[j]! ∈ Lib.compact xs:=by
  intro j
  induction j with
  | zero =>
   intro hj
   unfold Lib.compact Lib.compactUpTo
   exact List.mem_map.2 ⟨0,List.mem_filter.2 ⟨List.mem_range.2 hj,by simp [Lib.keeps]⟩,rfl⟩
  | succ j ih =>
   intro hj
   cases hk:Lib.keeps xs.toArray (j+1) with
   | true =>
    unfold Lib.compact Lib.compactUpTo
    exact List.mem_map.2 ⟨j+1,List.mem_filter.2 ⟨List.mem_range.2 hj,hk⟩,rfl⟩
   | false =>
    unfold Lib.keeps at hk
    simp only [decide_eq_false_iff_not,not_or,Nat.add_sub_cancel,Decidable.not_not,ne_eq] at hk
    rw [hk.2]
    exact ih (by omega)
 obtain ⟨j,hj,rfl⟩:=List.getElem_of_mem h
 have:=key j hj
 rw [getElem!_pos xs.toArray j (by simpa using hj)] at this
 simpa using this
theorem compact_strict {xs:List Str} (h:xs.Pairwise (fun a b=>leS a b=true)):(Lib.compact xs).Pairwise ltS:=by
 unfold Lib.compact Lib.compactUpTo
 rw [List.pairwise_map]
 have hg:∀ j,j<xs.length→xs.toArray[j]! = xs.getD j []:=fun j hj=>by
  rw [getElem!_pos xs.toArray j (by simpa using hj),List.getD_eq_getElem?_getD,List.getElem?_eq_getElem hj];simp
 refine List.Pairwise.imp_of_mem (R:=(· < ·)) (fun {i j} hi hj hij => ?_) (List.Pairwise.filter _ List.pairwise_lt_range)
 obtain ⟨hi1,_⟩:=List.mem_filter.1 hi
 obtain ⟨hj1,hj2⟩:=List.mem_filter.1 hj
 have hi1:=List.mem_range.1 hi1
 have hj1:=List.mem_range.1 hj1
 unfold Lib.keeps at hj2
 simp only [decide_eq_true_eq] at hj2
 have hne:=hj2.resolve_left (by omega)
 rw [hg i hi1]
 rw [hg j hj1] at hne ⊢
 rw [hg (j-1) (by omega)] at hne
 have le:∀ i j,i≤j→j<xs.length→leS (xs.getD i []) (xs.getD j [])=true:=fun i j hij hj=>by
  by_cases e:i=j
  ·subst e;simp [leS,List.le_refl]
  ·have:=List.pairwise_iff_getElem.1 h i j (by omega) hj (by omega)
   simpa [List.getD_eq_getElem?_getD,List.getElem?_eq_getElem hj,List.getElem?_eq_getElem (show i<xs.length by omega)] using this
 have h1:=le i (j-1) (by omega) (by omega)
 have h2:=le (j-1) j (by omega) hj1
 have h3:=leS_trans _ _ _ h1 h2
 show ltS (xs.getD i []) (xs.getD j [])
 rcases cb_tri (xs.getD i []) (xs.getD j []) with h4 | h4 | h4
 ·exact h4
 ·exfalso
  rw [h4] at h1
  exact hne (leS_anti _ _ h2 h1).symm
 ·exfalso
  have h5:leS (xs.getD j []) (xs.getD i [])=true:=by
   unfold leS
   rw [decide_eq_true_eq]
   exact List.le_of_lt ((cb_lt _ _).2 h4)
  have e:=leS_anti _ _ h3 h5
  rw [e] at h4
  rw [cb_irrefl] at h4;cases h4
end Go.Sh
namespace Go.Proofs.YtjfpcjnopbfekaaGreatDoor
open Go.Ab Go.Sh Go.Sort
def varsOf (p:List Monomial):List Str:=(p.map Monomial.Vars).flatten
theorem varsOf_len {p:List Monomial} {k:Nat} (h:∀ m∈p,m.Vars.length≤k):(varsOf p).length≤p.length*k:=by
 induction p with
 | nil=>simp [varsOf]
 | cons m p ih =>
  have:=ih fun n hn=>h n (by simp [hn])
  have h1:=h m (by simp)
  unfold varsOf at this ⊢
  rw [List.map_cons,List.flatten_cons,List.length_append,List.length_cons,Nat.add_mul,Nat.one_mul]
  omega
theorem poly_Vars_eq {p:List Monomial} (hB:Bd p):∃ r,poly_Vars p=some r∧(validP p=false→r=[])∧(validP p=true→r.Pairwise ltS∧∀ v,v∈r↔v∈varsOf p):=by
 unfold poly_Vars
 rw [poly_Valid_eq p hB]
 cases hv:validP p with
 | false=>exact ⟨[],rfl,fun _=>rfl,fun h=>by cases h⟩
 | true =>
  have o:=valid_okP hv
  have h8:∀ m∈p,m.Vars.length≤8:=fun m hm=>(valid_len hv hm).1
  have ho:=o.1
  simp only [bnd_some,cond_true]
  obtain ⟨s,e,hI⟩:=cnt_inv (ρ:=Empty) (σ:=List Str) (ε:=List Str) (body:=fun i27 s26 =>
   grd ((s26.length+((p.getD i27 ⟨0,[]⟩).Vars).length)*16≤140737488355328) <|
   some (.go (s26++((p.getD i27 ⟨0,[]⟩).Vars)))) (fin:=fun i27 s26=>s26)
   (fun j s=>s=varsOf (p.take j)) (p.length-0) 0 [] rfl (fun j s _ hj hI=>by
    have hjp:j<p.length:=by omega
    have hm:=monoAt_mem (p:=p) (j:=j) hjp
    have h1:=h8 _ hm
    have h2:=varsOf_len (p:=p.take j) (k:=8) fun m hm=>h8 m (List.mem_of_mem_take hm)
    rw [List.length_take] at h2
    subst hI
    refine ⟨varsOf (p.take j)++(monoAt p j).Vars,?_,?_⟩
    ·rw [show p.getD j ⟨0,[]⟩=monoAt p j from rfl,grd_pos (by omega)]
    ·rw [take1M p j hjp];unfold varsOf;simp)
  rw [Nat.zero_add,Nat.sub_zero,List.take_length] at hI
  subst hI
  have h2:=varsOf_len (p:=p) (k:=8) h8
  rw [e]
  refine ⟨Lib.compact (sortS (varsOf p)),?_,(fun h=>by cases h),fun _=>⟨compact_strict (sort_sorted _),fun v => ?_⟩⟩
  ·simp only [bnd_some,aftE]
   unfold lib_Sort
   rw [grd_pos (by omega)]
   simp only [bnd_some]
   unfold lib_Compact
   rw [grd_pos (by rw [(sort_perm _).length_eq];omega)]
   rfl
  ·constructor
   ·intro h;exact (sort_perm _).mem_iff.1 (compact_mem h)
   ·intro h;exact compact_in ((sort_perm _).mem_iff.2 h)
theorem vsearch {l:List Str} (V:List Str) {k:Nat} (hk:k<V.length):∃ u,cnt (σ:=Unit) (ε:=Nat) (ρ:=Empty) (fun i2484 s2483 =>
 grd (0≤((k:Nat):Int)∧((k:Nat):Int)<(V.length:Int)) <|
 bif (Op.bytesLess (l.getD i2484 []) (V.getD ((k:Nat):Int).toNat [])) then (
  some (.go ())
 ) else (
  some (.brk i2484)
 )
 ) (fun i2484 s2483=>i2484) (l.length-0) 0 ()=some (.brk u)∧u≤l.length∧(∀ i,i<u→Op.bytesLess (l.getD i []) (V.getD k [])=true)∧(u<l.length→Op.bytesLess (l.getD u []) (V.getD k [])=false):=by
 have hp:=cnt_place (ρ:=Empty) (body:=fun i2484 s2483 =>
  grd (0≤((k:Nat):Int)∧((k:Nat):Int)<(V.length:Int)) <|
  bif (Op.bytesLess (l.getD i2484 []) (V.getD ((k:Nat):Int).toNat [])) then (
   some (.go ())
  ) else (
   some (.brk i2484)
  )) (fun j => !(Op.bytesLess (l.getD j []) (V.getD k []))) (l.length-0) 0 () (fun j u _ hj=>by
  rw [grd_pos (by omega),Int.toNat_natCast]
  cases Op.bytesLess (l.getD j []) (V.getD k [])<;>rfl)
 refine ⟨_,hp,?_⟩
 cases hf:(List.range' 0 (l.length-0)).find? (fun j => !(Op.bytesLess (l.getD j []) (V.getD k []))) with
 | none =>
  rw [List.find?_eq_none] at hf
  refine ⟨by simp,fun i hi => ?_,fun h=>by simp at h⟩
  have:=hf i (by simp only [List.mem_range'_1];simp at hi;omega)
  simpa using this
 | some j =>
  obtain ⟨h1,xs1,xs2,h2,h3⟩:=List.find?_eq_some_iff_append.1 hf
  have hjm:j∈List.range' 0 (l.length-0):=by rw [h2];simp
  have hjl:j<l.length:=by simp only [List.mem_range'_1] at hjm;omega
  refine ⟨by show j≤_;omega,fun i hi => ?_,fun _=>by simpa using h1⟩
  have hi:i<j:=hi
  have hias:i∈xs1:=by
   have him:i∈xs1++j::xs2:=by rw [← h2];simp only [List.mem_range'_1];omega
   rcases List.mem_append.1 him with h | h
   ·exact h
   ·exfalso
    have hs:(xs1++j::xs2).Pairwise (· < ·):=by rw [← h2];exact List.pairwise_lt_range'
    rw [List.pairwise_append] at hs
    rcases List.mem_cons.1 h with rfl | h
    ·omega
    ·have:=(List.pairwise_cons.1 hs.2.1).1 i h;omega
  simpa using h3 i hias
end Go.Proofs.YtjfpcjnopbfekaaGreatDoor
/- PLAIN LAWS of layer 5: sums, differences and multiples are canonical forms, in the specification too. -/
namespace Go.Proofs.YtjfpcjnopbfekaaGreatDoor
open Go.Ab Go.Sh Go.Sort
theorem valid_c40 {p:List Monomial} (h:validP p=true) {m:Monomial} (hm:m∈p) : -1099511627776≤m.Coef∧m.Coef≤1099511627776:=by
 have:=valid_coef h hm
 unfold okM at this
 simp only [Bool.and_eq_true,decide_eq_true_eq,Bool.not_eq_true',beq_eq_false_iff_ne] at this
 exact ⟨this.2.1,this.2.2.1⟩
theorem ref05_limited_eq {p:List Monomial} (hB:Bd p):ref05_limited p=some (limited p):=by
 unfold ref05_limited limited
 rw [ref05_Valid_eq p hB]
 cases validP p<;>rfl
theorem lim_big {f:List Str→Int} {p:List Monomial} (h:IsCanon f p) {V:List Str} (hb:f V < -1099511627776∨1099511627776<f V):limited p=([],3):=by
 unfold limited
 cases hv:validP p with
 | false=>rfl
 | true =>
  exfalso
  have hm:(⟨f V,V⟩:Monomial)∈p:=(h.mem _).2 ⟨by show f V≠0;omega,rfl⟩
  have:=valid_c40 hv hm
  simp only at this
  omega
theorem canon_src {L:List Ctr} {p:List Monomial} (h:IsCanon (coefL L) p) {m:Monomial} (hm:m∈p):∃ c∈L,c.1=m.Vars:=by
 have:=(h.mem m).1 hm
 exact coefL_mem (by rw [← this.2];exact this.1)
def bdV (V:List Str):Prop:=V.length≤1000000∧∀ v∈V,v.length≤1000000
theorem canon_Bd {L:List Ctr} {p:List Monomial} (h:IsCanon (coefL L) p) (hl:p.length≤1000000) (hL:∀ c∈L,bdV c.1):Bd p:=⟨hl,fun m hm=>by
 obtain ⟨c,hc,e⟩:=canon_src h hm
 have:=hL c hc
 rw [e] at this
 exact this⟩
end Go.Proofs.YtjfpcjnopbfekaaGreatDoor
/- PLAIN LAWS of layer 5: multiples. -/
/- PLAIN LAWS: validity. -/
namespace Go.Proofs.YtjfpcjnopbfekaaGreatDoor
open Go.Ab Go.Sh
def inS (n:Int):Bool:=decide (-1000000≤n)&&decide (n≤1000000)
theorem linear_in_eq (n:Int):linear_in n=some (inS n):=by
 unfold linear_in inS
 by_cases h:n ≥ -1000000
 ·rw [decide_eq_true h];rfl
 ·rw [decide_eq_false h];rfl
theorem ref04_small_eq (n:Int):ref04_small n=some (inS n):=by
 unfold ref04_small inS
 by_cases h:n ≥ -1000000
 ·rw [decide_eq_true h];rfl
 ·rw [decide_eq_false h];rfl
def tAt (l:Linear) (j:Nat):Coef:=l.Terms.getD j ⟨[],0⟩
def validPq (l:Linear) (j:Nat):Bool:=nameS (tAt l j).Var&&(!((tAt l j).C==0)&&(inS (tAt l j).C&&(!decide (((j:Nat):Int)>0)||Op.bytesLess (tAt l (j-1)).Var (tAt l j).Var)))
def validL (l:Linear):Bool:=(List.range' 0 (l.Terms.length-0)).all (validPq l)&&(inS l.Const&&decide (l.Terms.length≤12))
theorem w64_pred {j:Nat} (h:0<j) (h2:j≤9223372036854775807):w64 (((j:Nat):Int)-1)=((j-1:Nat):Int):=by
 rw [w64_id (by unfold I64;omega)];omega
theorem getD_le {l:List Coef} {n:Nat} (h:∀ t∈l,t.Var.length≤n) (j:Nat):(l.getD j ⟨[],0⟩).Var.length≤n:=by
 rw [List.getD_eq_getElem?_getD]
 cases h1:l[j]? with
 | none=>simp
 | some x=>exact h x (List.mem_of_getElem? h1)
theorem linear_Valid_eq (l:Linear) (h1:l.Terms.length≤1000000) (h2:∀ t∈l.Terms,t.Var.length≤1000000):linear_Valid l=some (validL l):=by
 unfold linear_Valid
 rw [cnt_all (validPq l) _ _ () (fun j u _ hj=>by
  rw [linear_Name_eq _ (getD_le h2 j),linear_in_eq]
  simp only [validPq,tAt,Option.bind_some]
  cases nameS (l.Terms.getD j ⟨[],0⟩).Var
  ·rfl
  ·cases (l.Terms.getD j ⟨[],0⟩).C==0
   ·cases inS (l.Terms.getD j ⟨[],0⟩).C
    ·rfl
    ·by_cases hp:0<j
     ·rw [decide_eq_true (show ((j:Nat):Int)>0 by omega),w64_pred hp (by omega)]
      rw [grd_pos (by omega)]
      simp only [Int.toNat_natCast,cond_true,cond_false,Bool.not_true,Bool.false_or,Bool.true_and,Bool.not_false]
      cases Op.bytesLess (l.Terms.getD (j-1) ⟨[],0⟩).Var (l.Terms.getD j ⟨[],0⟩).Var<;>rfl
     ·rw [decide_eq_false (show ¬ ((j:Nat):Int)>0 by omega)];rfl
   ·rfl),aft_bif,linear_in_eq]
 unfold validL
 cases (List.range' 0 (l.Terms.length-0)).all (validPq l)
 ·rfl
 ·cases inS l.Const
  ·rfl
  ·simp only [cond_true,Option.bind_some,Bool.true_and,Option.some.injEq]
   rw [decide_eq_decide];omega
theorem ref04_Valid_eq (l:Linear):ref04_Valid l=some (validL l):=by
 unfold ref04_Valid
 rw [ref04_small_eq]
 unfold validL
 by_cases h12:l.Terms.length≤12
 ·rw [decide_eq_false (show ¬ ((l.Terms.length:Nat):Int)>12 by omega),decide_eq_true h12]
  rw [cnt_all (validPq l) _ _ () (fun j u _ hj=>by
   rw [ref04_Name_eq,ref04_small_eq]
   simp only [validPq,tAt,Option.bind_some]
   cases nameS (l.Terms.getD j ⟨[],0⟩).Var
   ·rfl
   ·cases (l.Terms.getD j ⟨[],0⟩).C==0
    ·cases inS (l.Terms.getD j ⟨[],0⟩).C
     ·rfl
     ·by_cases hp:0<j
      ·rw [decide_eq_true (show ((j:Nat):Int)>0 by omega),w64_pred hp (by omega)]
       rw [grd_pos (by omega)]
       simp only [Int.toNat_natCast,cond_true,cond_false,Bool.not_true,Bool.false_or,Bool.true_and,Bool.not_false]
       cases Op.bytesLess (l.Terms.getD (j-1) ⟨[],0⟩).Var (l.Terms.getD j ⟨[],0⟩).Var<;>rfl
      ·rw [decide_eq_false (show ¬ ((j:Nat):Int)>0 by omega)];rfl
    ·rfl),aft_bif]
  cases (List.range' 0 (l.Terms.length-0)).all (validPq l)<;>cases inS l.Const<;>rfl
 ·rw [decide_eq_true (show ((l.Terms.length:Nat):Int)>12 by omega),decide_eq_false h12]
  cases (List.range' 0 (l.Terms.length-0)).all (validPq l)<;>cases inS l.Const<;>rfl
/-! ### what is small -/
/-! ### shapes -/
end Go.Proofs.YtjfpcjnopbfekaaGreatDoor
/- PLAIN LAW of layer 5: PolyBasic. -/
namespace Go.Proofs.YtjfpcjnopbfekaaGreatDoor
open Go.Ab Go.Sh Go.Sort
/-! ### the variables, in the specification -/
theorem ref05_Vars_eq {p:List Monomial} (hB:Bd p):∃ r,ref05_Vars p=some r∧(validP p=false→r=[])∧(validP p=true→r.Pairwise ltS∧∀ v,v∈r↔v∈varsOf p):=by
 unfold ref05_Vars
 rw [ref05_Valid_eq p hB]
 cases hv:validP p with
 | false=>exact ⟨[],rfl,fun _=>rfl,fun h=>by cases h⟩
 | true =>
  have o:=valid_okP hv
  have h8:∀ m∈p,m.Vars.length≤8:=fun m hm=>(valid_len hv hm).1
  have ho:=o.1
  simp only [bnd_some,cond_true]
  obtain ⟨s,e,hI⟩:=cnt_inv (ρ:=Empty) (σ:=List Str) (ε:=List Str) (body:=fun i1241 s1240 =>
   (whl (σ:=((List Str)×Int)) (ε:=(List Str)) (ρ:=Empty) (fun s2292 =>
    bif decide (s2292.2<((((p.getD i1241 ⟨0,[]⟩).Vars).length:Nat):Int)) then (
     (cnt (σ:=Unit) (ε:=Nat) (ρ:=Empty) (fun i2484 s2483 =>
      grd (0≤s2292.2∧s2292.2<(((p.getD i1241 ⟨0,[]⟩).Vars).length:Int)) <|
      bif (Op.bytesLess (s2292.1.getD i2484 []) (((p.getD i1241 ⟨0,[]⟩).Vars).getD s2292.2.toNat [])) then (
       some (.go ())
      ) else (
       some (.brk i2484)
      )
     ) (fun i2484 s2483=>i2484) (s2292.1.length-0) 0 ()).bind <| aftE fun u2531 =>
     ((
      bif (((u2531:Nat):Int)==((s2292.1.length:Nat):Int)) then (
       some true
      ) else (
       grd (u2531<s2292.1.length) <|
       grd (0≤s2292.2∧s2292.2<(((p.getD i1241 ⟨0,[]⟩).Vars).length:Int)) <|
       some (!((s2292.1.getD u2531 [])==(((p.getD i1241 ⟨0,[]⟩).Vars).getD s2292.2.toNat [])))
      )
     ):Option Bool).bind fun v2542 =>
     ((
      bif v2542 then (
       grd (u2531≤s2292.1.length) <|
       grd ((0+(s2292.1.take u2531).length)*16≤140737488355328) <|
       grd (0≤s2292.2∧s2292.2<(((p.getD i1241 ⟨0,[]⟩).Vars).length:Int)) <|
       grd (((s2292.1.take u2531).length+[(((p.getD i1241 ⟨0,[]⟩).Vars).getD s2292.2.toNat [])].length)*16≤140737488355328) <|
       grd ((((s2292.1.take u2531)++[(((p.getD i1241 ⟨0,[]⟩).Vars).getD s2292.2.toNat [])]).length+(s2292.1.drop u2531).length)*16≤140737488355328) <|
       some (((s2292.1.take u2531)++[(((p.getD i1241 ⟨0,[]⟩).Vars).getD s2292.2.toNat [])])++(s2292.1.drop u2531))
      ) else (
       some s2292.1
      )
     ):Option (List Str)).bind fun v2575 =>
     some (.go (v2575,(w64 (s2292.2+1))))
    ) else (
     some (.brk s2292.1)
    )
   ) 4294967296 (s1240,0)).bind <| aftE fun u2597 =>
   some (.go u2597)) (fin:=fun i1241 s1240=>s1240)
   (fun j s=>s.Pairwise ltS∧s.length≤8*j∧∀ v,v∈s↔v∈varsOf (p.take j)) (p.length-0) 0 [] ⟨by simp,by simp,fun v=>by simp [varsOf]⟩ (fun j s _ hj ⟨hI1,hI2,hI3⟩=>by
    have hjp:j<p.length:=by omega
    have hm:=monoAt_mem (p:=p) (j:=j) hjp
    rw [show p.getD j ⟨0,[]⟩=monoAt p j from rfl]
    have h1:=h8 _ hm
    generalize hV:(monoAt p j).Vars=V at h1
    generalize hbd:(fun (s2292:List Str×Int)=>_:List Str×Int→Option (Stp (List Str×Int) (List Str) Empty))=body
    have e0:∀ (k:Nat) (l:List Str),l.length≤8*j+k→k<V.length→body (l,((k:Nat):Int))=some (.go (insV (V.getD k []) l,((k+1:Nat):Int))):=by
     intro k l hl hk
     rw [← hbd]
     simp only
     have w1:w64 (((k:Nat):Int)+1)=((k+1:Nat):Int):=by rw [w64_same (by omega) (by omega)];omega
     obtain ⟨u,e1,u1,u2,u3⟩:=vsearch (l:=l) V hk
     rw [decide_eq_true (show ((k:Nat):Int)<((V.length:Nat):Int) by omega),w1]
     simp only [cond_true]
     rw [e1]
     simp only [bnd_some,aftE,Int.toNat_natCast]
     rw [insV_place (V.getD k []) l u u2 u1 u3]
     by_cases hu:u=l.length
     ·rw [beq_iff_eq.2 (show ((u:Nat):Int)=((l.length:Nat):Int) by omega),if_neg (by omega)]
      simp only [cond_true,bnd_some]
      rw [grd_pos (by omega),grd_pos (by rw [List.length_take];omega),grd_pos (by omega),grd_pos (by rw [List.length_take];simp;omega),grd_pos (by simp;omega)]
      rfl
     ·have hlt:u<l.length:=by omega
      rw [beq_eq_false_iff_ne.2 (show ((u:Nat):Int)≠((l.length:Nat):Int) by omega)]
      simp only [cond_false]
      rw [grd_pos hlt,grd_pos (by omega)]
      simp only [bnd_some]
      by_cases hc:l.getD u []=V.getD k []
      ·rw [if_pos ⟨hlt,hc⟩,beq_iff_eq.2 hc];rfl
      ·rw [if_neg (fun h=>hc h.2),beq_eq_false_iff_ne.2 hc]
       simp only [Bool.not_false,cond_true]
       rw [grd_pos (by omega),grd_pos (by rw [List.length_take];omega),grd_pos (by omega),grd_pos (by rw [List.length_take];simp;omega),grd_pos (by simp;omega)]
       rfl
    have eN:∀ (l:List Str),body (l,((V.length:Nat):Int))=some (.brk l):=by
     intro l
     rw [← hbd]
     simp only
     rw [decide_eq_false (by omega)];rfl
    have key:∀ (n k fuel:Nat) (l:List Str),k+n=V.length→n<fuel→l.length≤8*j+k→l.Pairwise ltS→∃ l',whl body fuel (l,((k:Nat):Int))=some (.brk l')∧l'.Pairwise ltS∧l'.length≤l.length+n∧∀ v,v∈l'↔v∈l∨v∈V.drop k:=by
     intro n
     induction n with
     | zero =>
      intro k fuel l hk hf hl hs
      obtain ⟨f,rfl⟩:∃ f,fuel=f+1:=⟨fuel-1,by omega⟩
      have ek:k=V.length:=by omega
      subst ek
      refine ⟨l,?_,hs,by omega,fun v=>by simp⟩
      simp only [whl,eN,bnd_some,stp]
     | succ n ih =>
      intro k fuel l hk hf hl hs
      obtain ⟨f,rfl⟩:∃ f,fuel=f+1:=⟨fuel-1,by omega⟩
      have hlen:=insV_len (V.getD k []) l
      obtain ⟨l',k1,k2,k3,k4⟩:=ih (k+1) f (insV (V.getD k []) l) (by omega) (by omega) (by omega) (insV_strict hs)
      refine ⟨l',?_,k2,by omega,fun v => ?_⟩
      ·simp only [whl,e0 k l hl (by omega),bnd_some,stp]
       exact k1
      ·rw [k4,insV_mem,drop_cons (show k<V.length by omega),List.mem_cons]
       constructor
       ·rintro ((h | h) | h)
        ·exact .inr (.inl h)
        ·exact .inl h
        ·exact .inr (.inr h)
       ·rintro (h | h | h)
        ·exact .inl (.inr h)
        ·exact .inl (.inl h)
        ·exact .inr h
    obtain ⟨l',k1,k2,k3,k4⟩:=key V.length 0 4294967296 s (by omega) (by omega) (by omega) hI1
    refine ⟨l',?_,k2,by omega,fun v => ?_⟩
    ·show (whl body 4294967296 (s,((0:Nat):Int))).bind _=_
     rw [k1];rfl
    ·rw [k4,List.drop_zero,hI3,take1M p j hjp]
     unfold varsOf
     rw [List.map_append,List.flatten_append,List.mem_append]
     simp [hV])
  rw [Nat.zero_add,Nat.sub_zero,List.take_length] at hI
  refine ⟨s,?_,(fun h=>by cases h),fun _=>⟨hI.1,hI.2.2⟩⟩
  rw [e];rfl
theorem vars_same {p:List Monomial} (hB:Bd p):∃ r,poly_Vars p=some r∧ref05_Vars p=some r:=by
 obtain ⟨r1,e1,f1,g1⟩:=poly_Vars_eq hB
 obtain ⟨r2,e2,f2,g2⟩:=ref05_Vars_eq hB
 refine ⟨r1,e1,?_⟩
 rw [e2]
 cases hv:validP p with
 | false=>rw [f1 hv,f2 hv]
 | true =>
  obtain ⟨a1,a2⟩:=g1 hv
  obtain ⟨b1,b2⟩:=g2 hv
  rw [strict_uniq a1 b1 fun v=>by rw [a2,b2]]
/-! ### the degree -/
theorem ref05_Degree_eq {p:List Monomial} (hB:Bd p):(validP p=false→ref05_Degree p=some 0)∧(validP p=true→∃ d:Nat,ref05_Degree p=some ((d:Nat):Int)∧isDeg p d):=by
 unfold ref05_Degree
 rw [ref05_Valid_eq p hB]
 refine ⟨fun hv => ?_,fun hv => ?_⟩
 ·rw [hv]
  cases p with
  | nil=>rfl
  | cons m r=>rfl
 ·rw [hv]
  obtain ⟨s,e,d,hI1,hI2⟩:=cnt_inv (ρ:=Empty) (σ:=Int) (ε:=Int) (body:=fun i44 s43 =>
   (some true).bind fun y80 =>
   bif y80 then (
    some (.go (if ((((p.getD i44 ⟨0,[]⟩).Vars).length:Nat):Int)>s43 then ((((p.getD i44 ⟨0,[]⟩).Vars).length:Nat):Int) else s43))
   ) else (
    some (.brk s43)
   )) (fin:=fun i44 s43=>s43)
   (fun j s=>∃ d:Nat,s=((d:Nat):Int)∧isDeg (p.take j) d) (p.length-0) 0 0 ⟨0,rfl,by simp [isDeg]⟩ (fun j s _ hj ⟨d,h1,h2⟩=>by
    refine ⟨_,rfl,?_⟩
    rw [take1M p j (by omega)]
    show ∃ d:Nat,(if (((monoAt p j).Vars.length:Nat):Int)>s then (((monoAt p j).Vars.length:Nat):Int) else s)=_∧_
    subst h1
    by_cases hgt:d<(monoAt p j).Vars.length
    ·rw [if_pos (by omega)]
     refine ⟨_,rfl,fun m hm => ?_,.inr ⟨_,by simp,rfl⟩⟩
     rcases List.mem_append.1 hm with hm | hm
     ·have:=h2.1 m hm;omega
     ·have:m=monoAt p j:=by simpa using hm
      rw [this];exact Nat.le_refl _
    ·rw [if_neg (by omega)]
     refine ⟨d,rfl,fun m hm => ?_,?_⟩
     ·rcases List.mem_append.1 hm with hm | hm
      ·exact h2.1 m hm
      ·have:m=monoAt p j:=by simpa using hm
       rw [this];omega
     ·rcases h2.2 with h | ⟨m,hm,h⟩
      ·exact .inl h
      ·exact .inr ⟨m,by simp [hm],h⟩)
  refine ⟨d,?_,by rw [Nat.zero_add,Nat.sub_zero,List.take_length] at hI2;exact hI2⟩
  rw [e,hI1];rfl
theorem poly_Degree_bad {p:List Monomial} (hB:Bd p) (hv:validP p=false):poly_Degree p=some 0:=by
 unfold poly_Degree
 obtain ⟨s,e,_⟩:=cnt_inv (ρ:=Empty) (σ:=Int) (ε:=Int) (body:=fun i16 s15 =>
  some (.go (if ((((p.getD i16 ⟨0,[]⟩).Vars).length:Nat):Int)>s15 then ((((p.getD i16 ⟨0,[]⟩).Vars).length:Nat):Int) else s15))) (fin:=fun i16 s15=>s15)
  (fun _ _=>True) (p.length-0) 0 0 trivial (fun j s _ hj _=>⟨_,rfl,trivial⟩)
 rw [e]
 show ((poly_Valid p).bind fun y46=>bif y46 then some s else some 0)=_
 rw [poly_Valid_eq p hB,hv];rfl
theorem degree_same {p:List Monomial} (hB:Bd p):∃ d,poly_Degree p=some d∧ref05_Degree p=some d:=by
 cases hv:validP p with
 | false=>exact ⟨0,poly_Degree_bad hB hv,(ref05_Degree_eq hB).1 hv⟩
 | true =>
  obtain ⟨d,e1,h1⟩:=poly_Degree_eq hB hv
  obtain ⟨d2,e2,h2⟩:=(ref05_Degree_eq hB).2 hv
  exact ⟨d,e1,by rw [e2,isDeg_uniq h2 h1]⟩
/-! ### equality -/
theorem ext_all {α:Type} [DecidableEq α] (d:α) (a b:List α) (h:a.length=b.length):(List.range' 0 (a.length-0)).all (fun j=>decide (a.getD j d=b.getD j d))=true↔a=b:=by
 rw [List.all_eq_true]
 constructor
 ·intro hA
  refine List.ext_getElem h fun i h1 h2 => ?_
  have:=hA i (by simp only [List.mem_range'_1];omega)
  simpa [List.getD_eq_getElem?_getD,List.getElem?_eq_getElem h1,List.getElem?_eq_getElem h2] using this
 ·rintro rfl j _
  simp
theorem texts_eq_run (a b:List Str) (r:Option Bool) (hr:r=(bif (((a.length:Nat):Int)==((b.length:Nat):Int)) then (
 (cnt (σ:=Unit) (ε:=Unit) (ρ:=Bool) (fun i31 s30 =>
  grd (i31<b.length) <|
  bif ((a.getD i31 [])==(b.getD i31 [])) then (
   some (.go ())
  ) else (
   some (.ret false)
  )
 ) (fun i31 s30=>()) (a.length-0) 0 ()).bind <| aft fun u74 =>
 some true
 ) else (
  some false
 ))):r=some (decide (a=b)):=by
 rw [hr]
 by_cases hl:a.length=b.length
 ·rw [beq_iff_eq.2 (show ((a.length:Nat):Int)=((b.length:Nat):Int) by omega)]
  simp only [cond_true]
  rw [cnt_all (r:=false) (fun j=>decide (a.getD j []=b.getD j [])) _ _ () (fun j u _ hj=>by
   rw [grd_pos (by omega)]
   by_cases h:a.getD j []=b.getD j []
   ·rw [beq_iff_eq.2 h,decide_eq_true h];rfl
   ·rw [beq_eq_false_iff_ne.2 h,decide_eq_false h];rfl),aft_bif]
  have h9:=ext_all [] a b hl
  cases hc:(List.range' 0 (a.length-0)).all (fun j=>decide (a.getD j []=b.getD j [])) with
  | true=>rw [decide_eq_true (h9.1 hc)];rfl
  | false=>rw [decide_eq_false (fun e=>by rw [h9.2 e] at hc;cases hc)];rfl
 ·rw [beq_eq_false_iff_ne.2 (show ((a.length:Nat):Int)≠((b.length:Nat):Int) by omega),decide_eq_false (fun e=>hl (by rw [e]))];rfl
theorem slices_EqualS (a b:List Str):slices_Equal_string a b=some (decide (a=b)):=texts_eq_run a b _ (by unfold slices_Equal_string;rfl)
theorem sameTexts_eq (a b:List Str):ref01_SameTexts a b=some (decide (a=b)):=texts_eq_run a b _ (by unfold ref01_SameTexts;rfl)
theorem mono_eta (m:Monomial):Monomial.mk m.Coef m.Vars=m:=rfl
theorem mono_eqd (x y:Monomial):(bif (x.Coef==y.Coef) then some (decide (x.Vars=y.Vars)) else some false)=some (decide (x=y)):=by
 obtain ⟨c,V⟩:=x
 obtain ⟨d,W⟩:=y
 by_cases h1:c=d
 ·by_cases h2:V=W
  ·simp [h1,h2]
  ·simp [h1,h2]
 ·rw [beq_eq_false_iff_ne.2 h1,decide_eq_false (fun e=>h1 (Monomial.mk.inj e).1)];rfl
theorem poly_Equal_eq (a b:List Monomial):poly_Equal a b=some (decide (a=b)):=by
 unfold poly_Equal slices_EqualFunc_api_Monomial
 have h1:∀ x y:Monomial,poly_Equal_1 x y=some (decide (x=y)):=fun x y=>by
  unfold poly_Equal_1
  rw [slices_EqualS]
  exact mono_eqd x y
 by_cases hl:a.length=b.length
 ·rw [beq_iff_eq.2 (show ((a.length:Nat):Int)=((b.length:Nat):Int) by omega)]
  simp only [cond_true]
  rw [cnt_all (r:=false) (fun j=>decide (a.getD j ⟨0,[]⟩=b.getD j ⟨0,[]⟩)) _ _ () (fun j u _ hj=>by
   rw [grd_pos (by omega)]
   simp only [mono_eta,h1,bnd_some]
   cases decide (a.getD j ⟨0,[]⟩=b.getD j ⟨0,[]⟩)<;>rfl),aft_bif]
  have h9:=ext_all ⟨0,[]⟩ a b hl
  cases hc:(List.range' 0 (a.length-0)).all (fun j=>decide (a.getD j ⟨0,[]⟩=b.getD j ⟨0,[]⟩)) with
  | true=>rw [decide_eq_true (h9.1 hc)];rfl
  | false=>rw [decide_eq_false (fun e=>by rw [h9.2 e] at hc;cases hc)];rfl
 ·rw [beq_eq_false_iff_ne.2 (show ((a.length:Nat):Int)≠((b.length:Nat):Int) by omega),decide_eq_false (fun e=>hl (by rw [e]))];rfl
theorem ref05_Equal_eq (a b:List Monomial):ref05_Equal a b=some (decide (a=b)):=by
 unfold ref05_Equal
 by_cases hl:a.length=b.length
 ·rw [beq_iff_eq.2 (show ((a.length:Nat):Int)=((b.length:Nat):Int) by omega)]
  simp only [cond_true]
  rw [cnt_all (r:=false) (fun j=>decide (a.getD j ⟨0,[]⟩=b.getD j ⟨0,[]⟩)) _ _ () (fun j u _ hj=>by
   rw [grd_pos (by omega)]
   have h:=mono_eqd (a.getD j ⟨0,[]⟩) (b.getD j ⟨0,[]⟩)
   simp only [sameTexts_eq,bnd_some]
   cases hc:((a.getD j ⟨0,[]⟩).Coef==(b.getD j ⟨0,[]⟩).Coef) with
   | false=>rw [hc] at h;rw [← Option.some.inj h];rfl
   | true =>
    rw [hc] at h
    simp only [cond_true] at h
    simp only [cond_true]
    rw [Option.some.inj h]
    cases decide (a.getD j ⟨0,[]⟩=b.getD j ⟨0,[]⟩)<;>rfl),aft_bif]
  have h9:=ext_all ⟨0,[]⟩ a b hl
  cases hc:(List.range' 0 (a.length-0)).all (fun j=>decide (a.getD j ⟨0,[]⟩=b.getD j ⟨0,[]⟩)) with
  | true=>rw [decide_eq_true (h9.1 hc)];rfl
  | false=>rw [decide_eq_false (fun e=>by rw [h9.2 e] at hc;cases hc)];rfl
 ·rw [beq_eq_false_iff_ne.2 (show ((a.length:Nat):Int)≠((b.length:Nat):Int) by omega),decide_eq_false (fun e=>hl (by rw [e]))];rfl
end Go.Proofs.YtjfpcjnopbfekaaGreatDoor
/- PLAIN LAW: polynomials, their basic functions. -/
namespace Go.Proofs.YtjfpcjnopbfekaaGreatDoor
open Go.Ab Go.Sh Go.Sort
theorem ref04_Few_le {l:Linear} {n:Int} (h:ref04_Few l n=some true):l.Terms.length≤n∧∀ t∈l.Terms,t.Var.length≤40:=by
 unfold ref04_Few at h
 rw [cnt_all (r:=false) (fun j=>decide ((l.Terms.getD j ⟨[],0⟩).Var.length≤40)) _ _ () (fun j u _ hj=>by
  by_cases hc:(l.Terms.getD j ⟨[],0⟩).Var.length≤40
  ·rw [decide_eq_false (by omega),decide_eq_true hc];rfl
  ·rw [decide_eq_true (by omega),decide_eq_false hc];rfl),aft_bif] at h
 rw [all0 (fun t:Coef=>decide (t.Var.length≤40)) ⟨[],0⟩ l.Terms] at h
 cases hc:l.Terms.all (fun t:Coef=>decide (t.Var.length≤40)) with
 | false=>rw [hc] at h;simp at h
 | true =>
  rw [hc] at h
  simp only [cond_true,Option.some.injEq,decide_eq_true_eq] at h
  refine ⟨h,fun t ht => ?_⟩
  have:=List.all_eq_true.1 hc t ht
  simpa using this
theorem ref04_Few_some (l:Linear) (n:Int):∃ b,ref04_Few l n=some b:=by
 unfold ref04_Few
 rw [cnt_all (r:=false) (fun j=>decide ((l.Terms.getD j ⟨[],0⟩).Var.length≤40)) _ _ () (fun j u _ hj=>by
  by_cases hc:(l.Terms.getD j ⟨[],0⟩).Var.length≤40
  ·rw [decide_eq_false (by omega),decide_eq_true hc];rfl
  ·rw [decide_eq_true (by omega),decide_eq_false hc];rfl),aft_bif]
 cases (List.range' 0 (l.Terms.length-0)).all (fun j=>decide ((l.Terms.getD j ⟨[],0⟩).Var.length≤40)) with
 | false=>exact ⟨_,rfl⟩
 | true=>exact ⟨_,rfl⟩
theorem canon_nil0:IsCanon (coefL []) []:=⟨by simp,fun m=>by simp [coefL]⟩
theorem Bd_nil:Bd []:=⟨by simp,fun m hm=>by cases hm⟩
/-! ### numbers -/
theorem number_same (n:Int):∃ r,poly_Number n=some r∧ref05_Number n=some r:=by
 have hc:IsCanon (coefL [([],n,1)]) (plusM [] ⟨n,[]⟩):=by
  have:=plus_canon canon_nil0 (m:=⟨n,[]⟩) (a:=n) (b:=1) (by simp)
  simpa using this
 have hB:Bd (plusM [] ⟨n,[]⟩):=canon_Bd hc (by have:=plusM_len [] ⟨n,[]⟩;simp at this;omega) (fun c hc=>by
  have:c=([],n,1):=by simpa using hc
  rw [this];exact ⟨by simp,fun v hv=>by cases hv⟩)
 have href:ref05_Number n=some (limited (plusM [] ⟨n,[]⟩)):=by
  unfold ref05_Number
  rw [ref05_plus_eq Bd_nil (by simp) (fun x hx=>by cases hx) (fun x hx=>by cases hx)]
  simp only [bnd_some]
  rw [ref05_limited_eq hB];rfl
 rw [href]
 by_cases hs:n < -1099511627776∨1099511627776<n
 ·refine ⟨([],3),?_,?_⟩
  ·unfold poly_Number
   rw [show poly_newSum=some ([],[],[]) from rfl]
   simp only [bnd_some]
   rcases hs with hs | hs
   ·rw [decide_eq_true (show n<(-1099511627776) by omega)];rfl
   ·rw [decide_eq_false (show ¬ n<(-1099511627776) by omega),decide_eq_true (show n>1099511627776 by omega)];rfl
  ·rw [lim_big hc (V:=[])]
   rw [coefL_one]
   simpa using hs
 ·have hin:inB n=true:=inB_iff.2 (by omega)
  have h0:okV []:=⟨by simp,fun v hv=>by cases hv⟩
  obtain ⟨y,e,hs2⟩:=add_ctr (a:=n) (b:=1) SumSt.nil (fun c hc=>(by cases hc)) (by simp) h0
  rw [List.nil_append] at hs2
  obtain ⟨p,k1,_,k3⟩:=result_ctr hs2 (fun c hc=>by
   have:c=(sortI [],n,1):=by simpa using hc
   rw [this];exact ⟨h0,hin,rfl⟩) (by simp)
  refine ⟨limited p,?_,by rw [IsCanon.uniq k1 hc]⟩
  unfold poly_Number
  rw [show poly_newSum=some ([],[],[]) from rfl]
  simp only [bnd_some]
  rw [decide_eq_false (by omega),decide_eq_false (by omega)]
  simp only [cond_false]
  rw [e]
  simp only [bnd_some]
  rw [k3];rfl
/-! ### linear expressions -/
theorem validL_at {l:Linear} (h:validL l=true):l.Terms.length≤12∧(-1000000≤l.Const∧l.Const≤1000000)∧∀ j,j<l.Terms.length→nameS (tAt l j).Var=true∧(tAt l j).C≠0∧(-1000000≤(tAt l j).C∧(tAt l j).C≤1000000)∧(0<j→Op.bytesLess (tAt l (j-1)).Var (tAt l j).Var=true):=by
 unfold validL at h
 simp only [Bool.and_eq_true,decide_eq_true_eq] at h
 obtain ⟨h1,h2,h3⟩:=h
 have h2 : -1000000≤l.Const∧l.Const≤1000000:=by simpa [inS] using h2
 refine ⟨h3,h2,fun j hj => ?_⟩
 have:=List.all_eq_true.1 h1 j (by simp only [List.mem_range'_1];omega)
 unfold validPq inS at this
 simp only [Bool.and_eq_true,decide_eq_true_eq,Bool.not_eq_true',beq_eq_false_iff_ne,Bool.or_eq_true,decide_eq_false_iff_not] at this
 obtain ⟨g1,g2,g3,g4⟩:=this
 exact ⟨g1,g2,g3,fun h0=>g4.resolve_left (by omega)⟩
theorem tAt_lt {l:Linear} (h:validL l=true):∀ j i,i<j→j<l.Terms.length→Op.bytesLess (tAt l i).Var (tAt l j).Var=true:=by
 obtain ⟨_,_,h3⟩:=validL_at h
 intro j
 induction j with
 | zero=>intro i hi;omega
 | succ j ih =>
  intro i hi hj
  have h4:=(h3 (j+1) hj).2.2.2 (by omega)
  rw [Nat.add_sub_cancel] at h4
  by_cases e:i=j
  ·rw [e];exact h4
  ·exact cb_trans (ih i (by omega) (by omega)) h4
theorem takeT (l:Linear) (j:Nat) (h:j<l.Terms.length):l.Terms.take (j+1)=l.Terms.take j++[tAt l j]:=by
 rw [List.take_add_one,List.getElem?_eq_getElem h]
 simp [tAt,List.getD_eq_getElem?_getD,List.getElem?_eq_getElem h]
def ofC (t:Coef):Ctr:=([t.Var],t.C,1)
theorem var_okV {v:Str} (h:nameS v=true):okV [v]:=⟨by simp,fun w hw=>by
 have:w=v:=by simpa using hw
 subst this
 have:=name_nos h
 exact ⟨this.1,by have:=this.2;omega⟩⟩
theorem of_canon {l:Linear} (h1:l.Terms.length≤1000000) (h2:∀ t∈l.Terms,t.Var.length≤1000000) (hv:validL l=true):∃ p,IsCanon (coefL (([([],l.Const,1)]:List Ctr)++l.Terms.map ofC)) p∧Bd p∧poly_Of l=some (limited p)∧ref05_Of l=some (limited p):=by
 unfold poly_Of ref05_Of
 rw [linear_Valid_eq l h1 h2,ref04_Valid_eq l,hv]
 obtain ⟨v1,v2,v3⟩:=validL_at hv
 simp only [bnd_some,cond_true]
 rw [show poly_newSum=some ([],[],[]) from rfl]
 simp only [bnd_some]
 have h0:okV []:=⟨by simp,fun v hv=>by cases hv⟩
 have hinC:inB l.Const=true:=inB_iff.2 (by omega)
 obtain ⟨y,e,hs2⟩:=add_ctr (a:=l.Const) (b:=1) SumSt.nil (fun c hc=>(by cases hc)) (by simp) h0
 rw [List.nil_append] at hs2
 rw [e]
 simp only [bnd_some]
 have hokc:∀ j,∀ c∈([([],l.Const,1)]:List Ctr)++(l.Terms.take j).map ofC,okT c:=fun j c hc=>by
  rcases List.mem_append.1 hc with hc | hc
  ·have:c=([],l.Const,1):=by simpa using hc
   rw [this];exact ⟨h0,hinC,rfl⟩
  ·obtain ⟨t,ht,rfl⟩:=List.mem_map.1 hc
   obtain ⟨i,hi,rfl⟩:=List.getElem_of_mem (List.mem_of_mem_take ht)
   have h5:=v3 i hi
   have e5:tAt l i=l.Terms[i]:=by simp [tAt,List.getD_eq_getElem?_getD,List.getElem?_eq_getElem hi]
   rw [e5] at h5
   exact ⟨var_okV h5.1,inB_iff.2 (by have:=h5.2.2.1;show _≤l.Terms[i].C∧l.Terms[i].C≤_;omega),rfl⟩
 obtain ⟨s,e2,hI⟩:=cnt_inv (ρ:=Empty) (σ:=MI×MI×MV) (ε:=MI×MI×MV) (body:=fun i37 s36 =>
  (poly_sum_add [((l.Terms.getD i37 ⟨[],0⟩).Var)] ((l.Terms.getD i37 ⟨[],0⟩).C) 1 s36.2.2 s36.1 s36.2.1).bind fun y62 =>
  some (.go (y62.2.1,y62.2.2,y62.1))) (fin:=fun i37 s36=>(s36.1,s36.2.1,s36.2.2))
  (fun j s=>SumSt (([([],l.Const,1)]:List Ctr)++(l.Terms.take j).map ofC) s.2.2 s.1 s.2.1) (l.Terms.length-0) 0 (y.2.1,y.2.2,y.1) (by rw [List.take_zero,List.map_nil,List.append_nil];exact hs2) (fun j s _ hj hI=>by
   have hjl:j<l.Terms.length:=by omega
   have h5:=v3 j hjl
   obtain ⟨z,e3,hz⟩:=add_ctr (a:=(tAt l j).C) (b:=1) hI (hokc j) (by simp only [List.length_append,List.length_map,List.length_take,List.length_singleton];omega) (var_okV h5.1)
   refine ⟨(z.2.1,z.2.2,z.1),?_,?_⟩
   ·show (poly_sum_add [(tAt l j).Var] (tAt l j).C 1 s.2.2 s.1 s.2.1).bind _=_
    rw [e3];rfl
   ·rw [takeT l j hjl,List.map_append,← List.append_assoc]
    exact hz)
 rw [Nat.zero_add,Nat.sub_zero,List.take_length] at hI
 rw [e2]
 simp only [bnd_some,aftE]
 have hokA:=hokc l.Terms.length
 rw [List.take_length] at hokA
 obtain ⟨p,k1,k2,k3⟩:=result_ctr hI hokA (by simp only [List.length_append,List.length_map,List.length_singleton];omega)
 rw [k3]
 refine ⟨p,k1,k2,rfl,?_⟩
 have hc0:IsCanon (coefL [([],l.Const,1)]) (plusM [] ⟨l.Const,[]⟩):=by
  have:=plus_canon canon_nil0 (m:=⟨l.Const,[]⟩) (a:=l.Const) (b:=1) (by simp)
  simpa using this
 have hl0:(plusM [] ⟨l.Const,[]⟩).length≤1:=by have:=plusM_len [] ⟨l.Const,[]⟩;simpa using this
 have hbdc:∀ j,∀ c∈([([],l.Const,1)]:List Ctr)++(l.Terms.take j).map ofC,bdV c.1:=fun j c hc=>by
  have:=(hokc j c hc).1
  exact ⟨by have:=this.1;omega,fun v hv=>by have:=(this.2 v hv).2;omega⟩
 rw [ref05_plus_eq Bd_nil (by simp) (fun x hx=>by cases hx) (fun x hx=>by cases hx)]
 simp only [bnd_some]
 obtain ⟨q,e4,hQ,hql⟩:=cnt_inv (ρ:=Empty) (σ:=List Monomial) (ε:=List Monomial) (body:=fun i32 s31 =>
  (ref05_plus s31 (Monomial.mk ((l.Terms.getD i32 ⟨[],0⟩).C) [((l.Terms.getD i32 ⟨[],0⟩).Var)])).bind fun y57 =>
  some (.go y57)) (fin:=fun i32 s31=>s31)
  (fun j s=>IsCanon (coefL (([([],l.Const,1)]:List Ctr)++(l.Terms.take j).map ofC)) s∧s.length≤1+j) (l.Terms.length-0) 0 (plusM [] ⟨l.Const,[]⟩) (by
   simp only [List.take_zero,List.map_nil,List.append_nil]
   exact ⟨hc0,by omega⟩) (fun j s _ hj ⟨hI,hl⟩=>by
   have hjl:j<l.Terms.length:=by omega
   have h5:=v3 j hjl
   have e1:ref05_plus s ⟨(tAt l j).C,[(tAt l j).Var]⟩=some (plusM s ⟨(tAt l j).C,[(tAt l j).Var]⟩):=by
    refine ref05_plus_eq (canon_Bd hI (by omega) (hbdc j)) (by simp) (fun x hx=>((hI.mem x).1 hx).1) fun x hx ex => ?_
    exfalso
    obtain ⟨c,hc,e⟩:=canon_src hI hx
    have ex:x.Vars=[(tAt l j).Var]:=ex
    rw [ex] at e
    rcases List.mem_append.1 hc with hc | hc
    ·have:c=([],l.Const,1):=by simpa using hc
     rw [this] at e;cases e
    ·obtain ⟨t,ht,rfl⟩:=List.mem_map.1 hc
     obtain ⟨i,hi,rfl⟩:=List.getElem_of_mem ht
     rw [List.getElem_take] at e
     have hi2:i<j:=by simp at hi;omega
     have hlt:=tAt_lt hv j i hi2 hjl
     have e5:tAt l i=l.Terms[i]'(by omega):=by simp [tAt,List.getD_eq_getElem?_getD,List.getElem?_eq_getElem (show i<l.Terms.length by omega)]
     have e6:(l.Terms[i]'(by omega)).Var=(tAt l j).Var:=(List.cons.inj e).1
     rw [e5,e6,cb_irrefl] at hlt
     cases hlt
   refine ⟨plusM s ⟨(tAt l j).C,[(tAt l j).Var]⟩,?_,?_,?_⟩
   ·show (ref05_plus s ⟨(tAt l j).C,[(tAt l j).Var]⟩).bind _=_
    rw [e1];rfl
   ·rw [takeT l j hjl,List.map_append,← List.append_assoc]
    exact plus_canon hI (m:=⟨(tAt l j).C,[(tAt l j).Var]⟩) (a:=(tAt l j).C) (b:=1) (by simp)
   ·have:=plusM_len s ⟨(tAt l j).C,[(tAt l j).Var]⟩
    omega)
 rw [Nat.zero_add,Nat.sub_zero,List.take_length] at hQ
 rw [Nat.zero_add,Nat.sub_zero] at hql
 rw [e4]
 have hB2:=hbdc l.Terms.length
 rw [List.take_length] at hB2
 show (ref05_limited q).bind _=_
 rw [ref05_limited_eq (canon_Bd hQ (by omega) hB2),IsCanon.uniq k1 hQ];rfl
theorem of_same {l:Linear} (h1:l.Terms.length≤1000000) (h2:∀ t∈l.Terms,t.Var.length≤1000000):∃ r,poly_Of l=some r∧ref05_Of l=some r:=by
 cases hv:validL l with
 | false =>
  refine ⟨([],1),?_,?_⟩
  ·unfold poly_Of;rw [linear_Valid_eq l h1 h2,hv];rfl
  ·unfold ref05_Of;rw [ref04_Valid_eq l,hv];rfl
 | true =>
  obtain ⟨p,_,_,k3,k4⟩:=of_canon h1 h2 hv
  exact ⟨_,k3,k4⟩
theorem polyBasic_law (x0 x1:List Monomial) (x2:Linear):law05_PolyBasic x0 x1 x2=some true:=by
 unfold law05_PolyBasic law05_few
 rw [law05_awake_true]
 simp only [bnd_some,cond_true,ref05_Few_eq]
 cases h0:fewP x0 8 with
 | false=>rfl
 | true =>
  simp only [cond_true,bnd_some]
  cases h1:fewP x1 8 with
  | false=>rfl
  | true =>
   simp only [cond_true]
   obtain ⟨b,hb⟩:=ref04_Few_some x2 14
   cases b with
   | false=>rw [hb];rfl
   | true =>
    obtain ⟨f1,f2⟩:=ref04_Few_le hb
    rw [hb]
    simp only [bnd_some,cond_true]
    have B0:=few_Bd h0 (by omega)
    obtain ⟨r1,e1,g1⟩:=of_same (l:=x2) (by omega) (fun t ht=>by have:=f2 t ht;omega)
    obtain ⟨r2,e2,g2⟩:=number_same x2.Const
    obtain ⟨r3,e3,g3⟩:=vars_same B0
    obtain ⟨r4,e4,g4⟩:=degree_same B0
    rw [e1,g1]
    simp only [bnd_some]
    rw [e2,g2]
    simp only [bnd_some]
    rw [poly_Valid_eq x0 B0,ref05_Valid_eq x0 B0]
    simp only [bnd_some,beq_self_eq_true,cond_true]
    rw [e3,g3]
    simp only [bnd_some]
    rw [sameTexts_self]
    simp only [bnd_some,cond_true]
    rw [e4,g4]
    simp only [bnd_some,beq_self_eq_true,cond_true]
    rw [poly_Equal_eq,ref05_Equal_eq]
    simp only [bnd_some,beq_self_eq_true,cond_true,equal_self]
end Go.Proofs.YtjfpcjnopbfekaaGreatDoor
