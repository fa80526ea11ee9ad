/- Plain laws: what the walked functions compute answers as the statement says. -/
import Derived.Test.YtjfpcjnopbfekaaGreatDoorWkbPolyText
import Derived.Lib.ItoaNum
import Derived.Lib.ItoaMem
import Derived.Lib.AtoiAll
import Derived.Lib.AtoiAllCases
import Derived.Lib.ItoaLen
import Derived.KernelRfl
import Derived.Lib.CountLaws
import Derived.Lib.SplitLaws
set_option linter.unusedSimpArgs false
set_option linter.unusedVariables false
/- PLAIN LAWS, of no program: loops as searches through lists; numerals. -/
namespace Go.Sh
open Go.Ab
section
variable {α σ ε ρ:Type}
theorem cnt_all {body:Nat→Unit→Option (Stp Unit ε ρ)} {fin:Nat→Unit→ε} {r:ρ} (p:Nat→Bool):∀ (k i:Nat) (u:Unit),(∀ j u,i≤j→j<i+k→body j u=some (bif p j then .go () else .ret r)) →
 cnt body fin k i u=some (bif (List.range' i k).all p then .brk (fin (i+k) ()) else .ret r)
 | 0,i,u,h=>by simp [cnt]
 | k+1,i,u,h=>by
  simp only [cnt,h i u (Nat.le_refl _) (by omega),List.range'_succ,List.all_cons]
  cases hp:p i with
  | true =>
   simp only [cond_true,Option.bind_some,stp,Bool.true_and]
   rw [cnt_all p k (i+1) () (fun j u h1 h2=>h j u (by omega) (by omega))]
   rw [show i+1+k=i+(k+1) by omega]
  | false=>simp [stp]
theorem cnt_find {body:Nat→Unit→Option (Stp Unit ε ρ)} {fin:Nat→Unit→ε} {f:Nat→ρ} (p:Nat→Bool):∀ (k i:Nat) (u:Unit),(∀ j u,i≤j→j<i+k→body j u=some (bif p j then .ret (f j) else .go ())) →
 cnt body fin k i u=some (match (List.range' i k).find? p with | some j=>.ret (f j) | none=>.brk (fin (i+k) ()))
 | 0,i,u,h=>by simp [cnt]
 | k+1,i,u,h=>by
  simp only [cnt,h i u (Nat.le_refl _) (by omega),List.range'_succ,List.find?_cons]
  cases hp:p i with
  | false =>
   simp only [cond_false,Option.bind_some,stp]
   rw [cnt_find p k (i+1) () (fun j u h1 h2=>h j u (by omega) (by omega))]
   rw [show i+1+k=i+(k+1) by omega]
  | true=>simp [stp]
theorem all_getD (q:α→Bool) (d:α) (l:List α):∀ (i:Nat),(List.range' i (l.length-i)).all (fun j=>q (l.getD j d))=(l.drop i).all q:=by
 intro i
 by_cases h:i<l.length
 ·obtain ⟨k,hk⟩:∃ k,l.length-i=k+1:=⟨l.length-i-1,by omega⟩
  have ih:=all_getD q d l (i+1)
  rw [hk,List.range'_succ,List.all_cons,List.drop_eq_getElem_cons h,List.all_cons]
  rw [show l.length-(i+1)=k by omega] at ih
  rw [ih]
  simp [List.getD_eq_getElem?_getD,List.getElem?_eq_getElem h]
 ·rw [show l.length-i=0 by omega,List.drop_eq_nil_of_le (by omega)];rfl
 termination_by i=>l.length-i
theorem all0 (q:α→Bool) (d:α) (l:List α):(List.range' 0 (l.length-0)).all (fun j=>q (l.getD j d))=l.all q:=by
 have:=all_getD q d l 0
 simpa using this
def idxOf (p:α→Bool):List α→Int
 | [] => -1
 | x::l=>bif p x then 0 else (let r:=idxOf p l;bif r == -1 then -1 else r+1)
theorem idxOf_ge (p:α→Bool):∀ l:List α,-1≤idxOf p l
 | []=>by simp [idxOf]
 | x::l=>by
  have:=idxOf_ge p l
  simp only [idxOf]
  cases p x
  ·cases h:idxOf p l == -1
   ·simp;omega
   ·simp
  ·simp
theorem idxOf_neg (p:α→Bool):∀ l:List α,(idxOf p l<0)↔l.any p=false
 | []=>by simp [idxOf]
 | x::l=>by
  have h1:=idxOf_ge p l
  have h2:=idxOf_neg p l
  simp only [idxOf,List.any_cons]
  cases hp:p x
  ·cases h:idxOf p l == -1
   ·have:idxOf p l ≠ -1:=by simpa using h
    simp only [cond_false,Bool.false_or]
    rw [← h2];omega
   ·have:idxOf p l = -1:=by simpa using h
    simp only [cond_false,cond_true,Bool.false_or]
    rw [← h2];omega
  ·simp
theorem find_idx (p:α→Bool) (d:α) (l:List α):∀ (i:Nat),(match (List.range' i (l.length-i)).find? (fun j=>p (l.getD j d)) with | some j=>((j:Nat):Int) | none => -1)=(bif idxOf p (l.drop i) == -1 then -1 else idxOf p (l.drop i)+i):=by
 intro i
 by_cases h:i<l.length
 ·obtain ⟨k,hk⟩:∃ k,l.length-i=k+1:=⟨l.length-i-1,by omega⟩
  have ih:=find_idx p d l (i+1)
  rw [hk,List.range'_succ,List.find?_cons,List.drop_eq_getElem_cons h]
  rw [show l.length-(i+1)=k by omega] at ih
  have e:l.getD i d=l[i]:=by simp [List.getD_eq_getElem?_getD,List.getElem?_eq_getElem h]
  rw [e]
  simp only [idxOf]
  cases hp:p l[i]
  ·simp only [cond_false]
   rw [ih]
   cases hq:idxOf p (l.drop (i+1)) == -1
   ·have h3:idxOf p (l.drop (i+1)) ≠ -1:=by simpa using hq
    have h4:=idxOf_ge p (l.drop (i+1))
    simp only [cond_false]
    have:((idxOf p (l.drop (i+1))+1) == -1)=false:=by simp;omega
    rw [this];simp only [cond_false]
    omega
   ·simp
  ·simp
 ·rw [show l.length-i=0 by omega,List.drop_eq_nil_of_le (by omega)];rfl
 termination_by i=>l.length-i
theorem find_idx0 (p:α→Bool) (d:α) (l:List α):(match (List.range' 0 (l.length-0)).find? (fun j=>p (l.getD j d)) with | some j=>((j:Nat):Int) | none => -1)=idxOf p l:=by
 rw [find_idx p d l 0]
 simp only [List.drop_zero]
 cases h:idxOf p l == -1
 ·simp
 ·have:idxOf p l = -1:=by simpa using h
  simp [this]
end
/-! ### numerals -/
def isDig (b:UInt8):Bool:=decide (48≤b.toNat)&&decide (b.toNat≤57)
def valD (acc:Nat) (l:Str):Nat:=l.foldl (fun a c=>a*10+(c.toNat-48)) acc
theorem valD_snoc (acc:Nat) (l:Str) (c:UInt8):valD acc (l++[c])=valD acc l*10+(c.toNat-48):=by simp [valD]
theorem parse_val:∀ (l:Str) (acc:Nat),l.all isDig=true→(acc+1)*10 ^ l.length≤10 ^ 18→Lib.parseUint10 acc l = .ok (valD acc l)
 | [],acc,_,_=>rfl
 | c::l,acc,h,hb=>by
  simp only [List.all_cons,Bool.and_eq_true,isDig,decide_eq_true_eq] at h
  obtain ⟨⟨h1,h2⟩,h3⟩:=h
  have hp:1≤10 ^ l.length:=Nat.one_le_pow _ _ (by decide)
  have hb2:(acc*10+10)*10 ^ l.length≤10 ^ 18:=by
   have:(acc+1)*10 ^ (l.length+1)=(acc*10+10)*10 ^ l.length:=by rw [Nat.pow_succ];rw [show (acc*10+10)=(acc+1)*10 by omega,Nat.mul_assoc,Nat.mul_comm 10]
   rw [← this];simpa using hb
  have hb3:acc*10+10≤10 ^ 18:=Nat.le_trans (Nat.le_mul_of_pos_right _ hp) hb2
  have e18:(10:Nat) ^ 18=1000000000000000000:=by decide
  rw [e18] at hb3
  simp only [Lib.parseUint10]
  rw [if_pos ⟨h1,h2⟩,if_neg (by omega),if_neg (by omega)]
  rw [parse_val l _ (by simpa [isDig] using h3) (Nat.le_trans (Nat.mul_le_mul_right _ (by omega)) hb2)]
  rfl
theorem dig_back {c:UInt8} (h:isDig c=true):UInt8.ofNat (48+(c.toNat-48))=c:=by
 simp only [isDig,Bool.and_eq_true,decide_eq_true_eq] at h
 rw [show 48+(c.toNat-48)=c.toNat by omega]
 exact UInt8.ofNat_toNat
theorem snoc_rec {α:Type} {P:List α→Prop} (h0:P []) (h1:∀ l c,P l→P (l++[c])) (l:List α):P l:=by
 have:∀ m:List α,P m.reverse:=by
  intro m
  induction m with
  | nil=>exact h0
  | cons c m ih=>simpa using h1 _ c ih
 simpa using this l.reverse
theorem dec_val (l:Str):l.all isDig=true→l≠[]→l.head? ≠ some 48→1≤valD 0 l∧Lib.decDigits (valD 0 l)=l:=by
 refine snoc_rec (P:=fun l=>l.all isDig=true→l≠[]→l.head? ≠ some 48→1≤valD 0 l∧Lib.decDigits (valD 0 l)=l) ?_ ?_ l
 ·intro _ h;exact absurd rfl h
 ·intro l c ih h _ hh
  rw [List.all_append,Bool.and_eq_true] at h
  have hc:isDig c=true:=by simpa using h.2
  have hc':=hc
  simp only [isDig,Bool.and_eq_true,decide_eq_true_eq] at hc'
  rw [valD_snoc]
  by_cases hl:l=[]
  ·subst hl
   have hne:c≠48:=by simpa using hh
   have:c.toNat≠48:=fun e=>hne (by rw [← UInt8.toNat_inj];simpa using e)
   simp only [valD,List.foldl_nil,Nat.zero_mul,Nat.zero_add,List.nil_append]
   refine ⟨by omega,?_⟩
   rw [Lib.decDigits_one (by omega),dig_back hc]
  ·have hh2:l.head? ≠ some 48:=by
    cases l with
    | nil=>exact absurd rfl hl
    | cons x l=>simpa using hh
   obtain ⟨i1,i2⟩:=ih h.1 hl hh2
   refine ⟨by omega,?_⟩
   rw [Lib.decDigits,dif_neg (by omega),show (valD 0 l*10+(c.toNat-48)) / 10=valD 0 l by omega,i2,show (valD 0 l*10+(c.toNat-48)) % 10=c.toNat-48 by omega,dig_back hc]
theorem dec_dig (u:Nat):(Lib.decDigits u).all isDig=true∧(1≤u→(Lib.decDigits u).head? ≠ some 48)∧Lib.decDigits u≠[]:=by
 have key:∀ i,i<10→isDig (UInt8.ofNat (48+i))=true:=by decide
 have key2:∀ i,i<10→1≤i→UInt8.ofNat (48+i)≠48:=by decide
 by_cases h:u<10
 ·rw [Lib.decDigits_one h]
  exact ⟨by simp only [List.all_cons,List.all_nil,Bool.and_true];exact key u h,fun h1=>by simpa using key2 u h h1,by simp⟩
 ·have ih:=dec_dig (u / 10)
  rw [Lib.decDigits,dif_neg h]
  refine ⟨by rw [List.all_append,ih.1];simp only [List.all_cons,List.all_nil,Bool.and_true,Bool.true_and];exact key (u % 10) (by omega),fun _ => ?_,by simp⟩
  have:=ih.2.1 (by omega)
  cases hd:Lib.decDigits (u / 10) with
  | nil=>exact absurd hd ih.2.2
  | cons x l=>rw [hd] at this;simpa using this
 termination_by u
 decreasing_by omega
end Go.Sh
/- PLAIN LAWS of layer 5: names. -/
namespace Go.Proofs.YtjfpcjnopbfekaaGreatDoor
open Go.Ab Go.Sh
theorem grd_pos {α:Type} {p:Prop} [Decidable p] {x:Option α} (h:p):grd p x=x:=if_pos h
theorem aft_bif {ε β:Type} {b:Bool} {e:ε} {r:β} {f:ε→Option β}:(some (bif b then Out.brk e else Out.ret r:Out ε β)).bind (aft f)=bif b then f e else some r:=by cases b<;>rfl
theorem all_congr {p q:Nat→Bool}:∀ (k i:Nat),(∀ j,i≤j→j<i+k→p j=q j)→(List.range' i k).all p=(List.range' i k).all q
 | 0,i,_=>rfl
 | k+1,i,h=>by
  rw [List.range'_succ,List.all_cons,List.all_cons,h i (Nat.le_refl _) (by omega),all_congr k (i+1) (fun j h1 h2=>h j (by omega) (by omega))]
theorem u8_beq (c k:UInt8) (n:Int) (hk:(k.toNat:Int)=n):((c.toNat:Int)==n)=(c==k):=by
 rw [Bool.eq_iff_iff]
 simp only [beq_iff_eq,← UInt8.toNat_inj]
 omega
theorem len_beq0 {α:Type} (l:List α):(((l.length:Nat):Int)==0)=l.isEmpty:=by
 cases l with
 | nil=>rfl
 | cons x l=>simp;omega
def isLet (b:UInt8):Bool:=decide (97≤b.toNat)&&decide (b.toNat≤122)
theorem ref04_digit_eq (x:UInt8):ref04_digit x=some (isDig x):=by
 unfold ref04_digit isDig
 by_cases h:48≤x.toNat
 ·rw [decide_eq_true (show (x.toNat:Int)≥48 by omega),decide_eq_true h]
  simp only [cond_true,Bool.true_and,Option.some.injEq]
  rw [decide_eq_decide];omega
 ·rw [decide_eq_false (show ¬ (x.toNat:Int)≥48 by omega),decide_eq_false h];rfl
theorem ref04_letter_eq (x:UInt8):ref04_letter x=some (isLet x):=by
 unfold ref04_letter isLet
 by_cases h:97≤x.toNat
 ·rw [decide_eq_true (show (x.toNat:Int)≥97 by omega),decide_eq_true h]
  simp only [cond_true,Bool.true_and,Option.some.injEq]
  rw [decide_eq_decide];omega
 ·rw [decide_eq_false (show ¬ (x.toNat:Int)≥97 by omega),decide_eq_false h];rfl
def nameS:Str→Bool
 | []=>false
 | c::r=>bif c==95 then (decide (1≤r.length)&&(decide (r.length≤9)&&(!(r.getD 0 0==48)&&r.all isDig))) else (decide (r.length≤29)&&(isLet c&&r.all (fun b=>isLet b||isDig b)))
theorem ref04_Name_eq (s:Str):ref04_Name s=some (nameS s):=by
 cases s with
 | nil=>rfl
 | cons c r =>
  unfold ref04_Name
  have e1:((((c::r).length:Nat):Int)==0)=false:=by simp;omega
  rw [e1]
  simp only [cond_false]
  have e95:((((c::r).getD 0 0).toNat:Int)==95)=(c==95):=by rw [List.getD_cons_zero];exact u8_beq c 95 95 rfl
  by_cases h30:r.length≤29
  ·rw [decide_eq_false (show ¬ (((c::r).length:Nat):Int)>30 by simp;omega)]
   simp only [cond_false]
   rw [grd_pos (by simp),e95]
   simp only [nameS]
   cases hc:c==95 with
   | true =>
    simp only [cond_true]
    by_cases h1:1≤r.length
    ·rw [decide_eq_false (show ¬ (((c::r).length:Nat):Int)<2 by simp;omega),decide_eq_true h1]
     simp only [cond_false,Bool.true_and]
     by_cases h9:r.length≤9
     ·rw [decide_eq_false (show ¬ (((c::r).length:Nat):Int)>10 by simp;omega),decide_eq_true h9]
      simp only [cond_false,Bool.true_and]
      rw [grd_pos (by simp;omega)]
      have e48:((((c::r).getD 1 0).toNat:Int)==48)=(r.getD 0 0==48):=by rw [List.getD_cons_succ];exact u8_beq _ 48 48 rfl
      rw [e48]
      cases hd:r.getD 0 0==48 with
      | true=>simp
      | false =>
       simp only [cond_false,Bool.not_false,Bool.true_and]
       rw [cnt_all (fun j=>isDig ((c::r).getD j 0)) _ _ () (fun j u _ _=>by rw [ref04_digit_eq];cases isDig ((c::r).getD j 0)<;>rfl),aft_bif,all_getD isDig 0 (c::r) 1]
       simp only [List.drop_succ_cons,List.drop_zero]
       cases r.all isDig<;>rfl
     ·rw [decide_eq_true (show (((c::r).length:Nat):Int)>10 by simp;omega),decide_eq_false h9];simp
    ·rw [decide_eq_true (show (((c::r).length:Nat):Int)<2 by simp;omega),decide_eq_false h1];simp
   | false =>
    simp only [cond_false]
    rw [decide_eq_true h30]
    rw [cnt_all (fun j=>isLet ((c::r).getD j 0)||(!(((j:Nat):Int)==0)&&isDig ((c::r).getD j 0))) _ _ () (fun j u _ _=>by
     rw [ref04_letter_eq,ref04_digit_eq]
     cases isLet ((c::r).getD j 0)<;>cases isDig ((c::r).getD j 0)<;>cases ((j:Nat):Int)==0<;>rfl),aft_bif]
    have e:(List.range' 0 ((c::r).length-0)).all (fun j=>isLet ((c::r).getD j 0)||(!(((j:Nat):Int)==0)&&isDig ((c::r).getD j 0)))=(isLet c&&r.all (fun b=>isLet b||isDig b)):=by
     rw [show (c::r).length-0=r.length+1 by simp,List.range'_succ,List.all_cons]
     have e0:(isLet ((c::r).getD 0 0)||(!(((0:Nat):Int)==0)&&isDig ((c::r).getD 0 0)))=isLet c:=by simp
     rw [e0]
     congr 1
     rw [all_congr (q:=fun j=>(fun b=>isLet b||isDig b) ((c::r).getD j 0)) _ _ (fun j h1 _=>by
      have:(((j:Nat):Int)==0)=false:=by simp;omega
      simp only [this,Bool.not_false,Bool.true_and])]
     have:=all_getD (fun b=>isLet b||isDig b) 0 (c::r) 1
     simpa using this
    rw [e]
    simp only [Bool.true_and]
    cases isLet c&&r.all (fun b=>isLet b||isDig b)<;>rfl
  ·rw [decide_eq_true (show (((c::r).length:Nat):Int)>30 by simp;omega)]
   simp only [cond_true,nameS]
   rw [decide_eq_false h30]
   have:¬ r.length≤9:=by omega
   rw [decide_eq_false this]
   cases c==95<;>simp
theorem strings_HasPrefix1 (s:Str) (c:UInt8):strings_HasPrefix s [c]=some (match s with | []=>false | x::_=>x==c):=by
 unfold strings_HasPrefix internal_stringslite_HasPrefix
 cases s with
 | nil=>rfl
 | cons x l =>
  rw [decide_eq_true (by simp;omega)]
  simp only [cond_true]
  rw [grd_pos (by simp)]
  simp
theorem atoi_dig {r:Str} (h0:r≠[]) (h:r.all isDig=true) (hl:r.length≤9):Lib.atoiAll r = .ok (valD 0 r:Int)∧valD 0 r<10000000000:=by
 cases r with
 | nil=>exact absurd rfl h0
 | cons c r =>
  have hc:isDig c=true:=by simp only [List.all_cons,Bool.and_eq_true] at h;exact h.1
  have hc2:=hc
  simp only [isDig,Bool.and_eq_true,decide_eq_true_eq] at hc2
  have hp:(10:Nat) ^ (c::r).length≤10 ^ 9:=Nat.pow_le_pow_right (by decide) hl
  have hv:=parse_val (c::r) 0 h (by
   rw [Nat.zero_add,Nat.one_mul]
   exact Nat.le_trans hp (by decide))
  have hb:∀ (l:Str) (a:Nat),l.all isDig=true→valD a l+1≤(a+1)*10 ^ l.length:=by
   intro l
   induction l with
   | nil=>intro a _;simp [valD]
   | cons x l ih =>
    intro a hx
    simp only [List.all_cons,Bool.and_eq_true,isDig,decide_eq_true_eq] at hx
    have:=ih (a*10+(x.toNat-48)) (by simpa [isDig] using hx.2)
    have e:valD a (x::l)=valD (a*10+(x.toNat-48)) l:=rfl
    rw [e]
    refine Nat.le_trans this ?_
    rw [List.length_cons,Nat.pow_succ,Nat.mul_comm (10 ^ l.length) 10,← Nat.mul_assoc]
    exact Nat.mul_le_mul_right _ (by omega)
  have hlt:=hb (c::r) 0 h
  rw [Nat.zero_add,Nat.one_mul] at hlt
  have h9:(10:Nat) ^ 9=1000000000:=by decide
  rw [h9] at hp
  refine ⟨?_,by omega⟩
  rw [Lib.atoiAll_plain c r (by omega) (by omega)]
  have:Lib.parseMag (c::r) = .ok (valD 0 (c::r)):=by unfold Lib.parseMag;rw [if_neg (by simp)];exact hv
  rw [this]
  simp only [Lib.signless]
  rw [if_neg (by omega)]
theorem linear_Name_eq (s:Str) (hs:s.length≤1000000):linear_Name s=some (nameS s):=by
 unfold linear_Name
 rw [strings_HasPrefix1]
 cases s with
 | nil=>rfl
 | cons c r =>
  simp only [Option.bind_some,nameS]
  have hr:r.length≤1000000:=by simp at hs;omega
  cases hc:c==95 with
  | true =>
   simp only [cond_true]
   rw [grd_pos (by simp)]
   simp only [List.drop_succ_cons,List.drop_zero,lib_Atoi]
   rw [grd_pos (by omega)]
   simp only [Option.bind_some]
   by_cases h9:r.length≤9
   ·by_cases h1:1≤r.length
    ·rw [decide_eq_true h1,decide_eq_true h9]
     simp only [Bool.true_and]
     have hne:r≠[]:=by intro e;subst e;simp at h1
     have hhd:(r.getD 0 0==48)=decide (r.head? = some 48):=by
      cases r with
      | nil=>exact absurd rfl hne
      | cons x l=>simp;rw [Bool.eq_iff_iff];simp
     -- the answer of the program: is it its numeral?
     have key:∀ v:Int,0<v→v≤9223372036854775807→lib_Itoa v=some (Lib.decDigits v.toNat)∨True:=fun _ _ _=>.inr trivial
     by_cases hall:r.all isDig=true
     ·obtain ⟨a1,a2⟩:=atoi_dig hne hall h9
      simp only [atoiR,a1,cond_true]
      by_cases h48:r.head? = some 48
      ·-- a leading zero: another numeral
       rw [hhd,decide_eq_true h48]
       simp only [Bool.not_true,Bool.false_and]
       by_cases hz:valD 0 r=0
       ·rw [hz];rfl
       ·rw [decide_eq_true (by omega:(valD 0 r:Int)>0),decide_eq_true (by simp;omega:(((c::r).length:Nat):Int)≤10)]
        simp only [cond_true,lib_Itoa]
        have hlen:(Lib.itoa (valD 0 r:Int)).length≤21:=Lib.itoa_length_le _ (by omega) (by omega)
        rw [grd_pos ⟨by omega,by omega,by omega⟩]
        simp only [Option.bind_some,Option.some.injEq]
        rw [Lib.itoa_nonneg,beq_eq_false_iff_ne]
        intro e
        exact (dec_dig (valD 0 r)).2.1 (by omega) (by rw [e];exact h48)
      ·obtain ⟨d1,d2⟩:=dec_val r hall hne h48
       rw [hhd,decide_eq_false h48,hall]
       simp only [Bool.not_false,Bool.true_and]
       rw [decide_eq_true (by omega:(valD 0 r:Int)>0),decide_eq_true (by simp;omega:(((c::r).length:Nat):Int)≤10)]
       simp only [cond_true,lib_Itoa]
       have hlen:(Lib.itoa (valD 0 r:Int)).length≤21:=Lib.itoa_length_le _ (by omega) (by omega)
       rw [grd_pos ⟨by omega,by omega,by omega⟩]
       simp only [Option.bind_some,Option.some.injEq]
       rw [Lib.itoa_nonneg,d2];simp
     ·have hall:r.all isDig=false:=by simpa using hall
      rw [hall]
      simp only [Bool.and_false]
      cases ha:Lib.atoiAll r with
      | ok v =>
       simp only [atoiR,ha,cond_true]
       by_cases hv:v>0
       ·rw [decide_eq_true hv,decide_eq_true (by simp;omega:(((c::r).length:Nat):Int)≤10)]
        simp only [cond_true,lib_Itoa]
        have hvb:v≤9223372036854775807:=by
         cases r with
         | nil=>exact absurd rfl hne
         | cons x l =>
          unfold Lib.atoiAll at ha
          simp only at ha
          split at ha
          ·cases ha
          ·cases ha
          ·split at ha
           ·cases ha
           ·split at ha
            ·cases ha
            ·rename_i h1 h2
             simp only [Lib.NumEnd.ok.injEq] at ha
             rw [← ha]
             split
             ·omega
             ·rename_i h3
              have:=h1
              simp only [h3,not_false_eq_true,true_and] at this
              omega
        have hlen:(Lib.itoa v).length≤21:=Lib.itoa_length_le _ (by omega) hvb
        rw [grd_pos ⟨by omega,hvb,by omega⟩]
        simp only [Option.bind_some,Option.some.injEq]
        rw [beq_eq_false_iff_ne]
        intro e
        have:(Lib.itoa v).all isDig=true:=by
         unfold Lib.itoa
         rw [if_neg (by omega)];exact (dec_dig _).1
        rw [e,hall] at this;cases this
       ·rw [decide_eq_false hv];rfl
      | range=>simp [atoiR,ha]
      | _=>simp [atoiR,ha]
    ·have:r=[]:=List.eq_nil_of_length_eq_zero (by omega)
     subst this
     rfl
   ·rw [decide_eq_false h9,decide_eq_false (by simp;omega:¬ (((c::r).length:Nat):Int)≤10)]
    simp only [cond_false,Bool.false_and,Bool.and_false]
    cases (atoiR r).2<;>cases decide ((atoiR r).1>0)<;>rfl
  | false =>
   simp only [cond_false]
   rw [cnt_all (fun j=>isLet ((c::r).getD j 0)||(!(((j:Nat):Int)==0)&&isDig ((c::r).getD j 0))) _ _ () (fun j u _ _=>by
    simp only [isLet,isDig]
    generalize (c::r).getD j 0=x
    by_cases h1:(x.toNat:Int)<97
    ·rw [decide_eq_true h1,decide_eq_false (show ¬ 97≤x.toNat by omega)]
     simp only [cond_true,Bool.false_and,Bool.false_or]
     cases ((j:Nat):Int)==0
     ·simp only [cond_false,Bool.not_false,Bool.true_and]
      by_cases h2:(x.toNat:Int)<48
      ·rw [decide_eq_true h2,decide_eq_false (show ¬ 48≤x.toNat by omega)];rfl
      ·rw [decide_eq_false h2,decide_eq_true (show 48≤x.toNat by omega)]
       by_cases h3:(x.toNat:Int)>57
       ·rw [decide_eq_true h3,decide_eq_false (show ¬ x.toNat≤57 by omega)];rfl
       ·rw [decide_eq_false h3,decide_eq_true (show x.toNat≤57 by omega)];rfl
     ·rfl
    ·rw [decide_eq_false h1,decide_eq_true (show 97≤x.toNat by omega)]
     simp only [cond_false,Bool.true_and]
     by_cases h2:(x.toNat:Int)>122
     ·rw [decide_eq_true h2,decide_eq_false (show ¬ x.toNat≤122 by omega),decide_eq_false (show ¬ x.toNat≤57 by omega),decide_eq_false (show ¬ (x.toNat:Int)<48 by omega),decide_eq_true (show (x.toNat:Int)>57 by omega)]
      cases ((j:Nat):Int)==0<;>simp [Sh.aft]
     ·rw [decide_eq_false h2,decide_eq_true (show x.toNat≤122 by omega)];simp [Sh.aft]),aft_bif]
   have e:(List.range' 0 ((c::r).length-0)).all (fun j=>isLet ((c::r).getD j 0)||(!(((j:Nat):Int)==0)&&isDig ((c::r).getD j 0)))=(isLet c&&r.all (fun b=>isLet b||isDig b)):=by
    rw [show (c::r).length-0=r.length+1 by simp,List.range'_succ,List.all_cons]
    have e0:(isLet ((c::r).getD 0 0)||(!(((0:Nat):Int)==0)&&isDig ((c::r).getD 0 0)))=isLet c:=by simp
    rw [e0]
    congr 1
    rw [all_congr (q:=fun j=>(fun b=>isLet b||isDig b) ((c::r).getD j 0)) _ _ (fun j h1 _=>by
     have:(((j:Nat):Int)==0)=false:=by simp;omega
     simp only [this,Bool.not_false,Bool.true_and])]
    have:=all_getD (fun b=>isLet b||isDig b) 0 (c::r) 1
    simpa using this
   rw [e]
   have e2:((c::r)==[])=false:=rfl
   rw [e2]
   simp only [cond_false]
   by_cases h30:r.length≤29
   ·rw [decide_eq_true h30,decide_eq_true (by simp;omega:(((c::r).length:Nat):Int)≤30)]
    cases isLet c&&r.all (fun b=>isLet b||isDig b)<;>rfl
   ·rw [decide_eq_false h30,decide_eq_false (by simp;omega:¬ (((c::r).length:Nat):Int)≤30)]
    cases isLet c&&r.all (fun b=>isLet b||isDig b)<;>rfl
end Go.Proofs.YtjfpcjnopbfekaaGreatDoor
/- PLAIN LAWS, of no program: maps in any order; loops over lists. -/
namespace Go.Sh
theorem nodup_le {α:Type} [DecidableEq α]:∀ (l l':List α),l.Nodup→(∀ x∈l,x∈l')→l.length≤l'.length
 | [],l',_,_=>by simp
 | a::l,l',h,hs=>by
  rw [List.nodup_cons] at h
  have ha:a∈l':=hs a (by simp)
  have ih:=nodup_le l (l'.erase a) h.2 (fun x hx=>by
   have hne:x≠a:=fun e=>h.1 (e ▸ hx)
   exact (List.mem_erase_of_ne hne).2 (hs x (by simp [hx])))
  rw [List.length_erase_of_mem ha] at ih
  have:0<l'.length:=List.length_pos_of_mem ha
  simp only [List.length_cons];omega
theorem mr_go {V σ ε β:Type} {m:List (Str×V)} {body:Str×V→σ→Option (Stp σ ε β)} {K:σ→Prop} {J:β→Prop} (I:List Nat→σ→Prop) (g:σ→Str×V→σ)
 (hstep:∀ seen s i (h:i<m.length),seen.Nodup→i ∉ seen→(∀ j∈seen,j<m.length)→I seen s→body m[i] s=some (.go (g s m[i]))∧I (seen++[i]) (g s m[i]))
 (hend:∀ seen s,seen.Nodup→(∀ i,i<m.length→i∈seen)→(∀ i∈seen,i<m.length)→I seen s→K s) :
 ∀ (n:Nat) (seen:List Nat) (s:σ),seen.Nodup→(∀ i∈seen,i<m.length)→n+seen.length=m.length→I seen s→MR m body K J n seen s
 | 0,seen,s,h1,h2,h3,hI=>by
  have hall:∀ i,i<m.length→i∈seen:=by
   intro i hi
   refine Classical.byContradiction fun hn => ?_
   have:=nodup_le (i::seen) (List.range m.length) (List.nodup_cons.2 ⟨hn,h1⟩) (fun x hx=>by
    rcases List.mem_cons.1 hx with rfl | hx
    ·simpa using hi
    ·simpa using h2 x hx)
   simp at this;omega
  exact ⟨hall,hend seen s h1 hall h2 hI⟩
 | n+1,seen,s,h1,h2,h3,hI=>by
  refine ⟨?_,fun i hi hn => ?_⟩
  ·refine Classical.byContradiction fun hn => ?_
   have:=nodup_le (List.range m.length) seen List.nodup_range (fun x hx=>Classical.byContradiction fun hx2=>hn ⟨x,by simpa using hx,hx2⟩)
   simp at this;omega
  ·obtain ⟨e1,e2⟩:=hstep seen s i hi h1 hn h2 hI
   refine ⟨_,e1,?_⟩
   have hnd:(seen++[i]).Nodup:=by
    rw [List.nodup_append]
    exact ⟨h1,by simp,fun a ha b hb=>by
     have:b=i:=by simpa using hb
     subst this;intro e;subst e;exact hn ha⟩
   exact mr_go I g hstep hend n (seen++[i]) _ hnd (fun j hj=>by
    rcases List.mem_append.1 hj with hj | hj
    ·exact h2 j hj
    ·have:j=i:=by simpa using hj
     subst this;exact hi) (by simp;omega) e2
def leS (x y:Str):Bool:=decide (x≤y)
theorem leS_trans (a b c:Str) (h1:leS a b=true) (h2:leS b c=true):leS a c=true:=by
 simp only [leS,decide_eq_true_eq] at *;exact List.le_trans h1 h2
theorem leS_total (a b:Str):(leS a b||leS b a)=true:=by
 simp only [leS,Bool.or_eq_true,decide_eq_true_eq];exact List.le_total a b
theorem leS_anti (a b:Str) (h1:leS a b=true) (h2:leS b a=true):a=b:=by
 simp only [leS,decide_eq_true_eq] at *;exact List.le_antisymm h1 h2
theorem sort_sorted (l:List Str):(Go.Ab.sortS l).Pairwise (fun a b=>leS a b=true):=List.pairwise_mergeSort leS_trans leS_total l
theorem sort_perm (l:List Str):(Go.Ab.sortS l).Perm l:=List.mergeSort_perm l _
theorem sort_eq {l r:List Str} (hs:r.Pairwise (fun a b=>leS a b=true)) (hp:r.Perm l):Go.Ab.sortS l=r :=
 List.Perm.eq_of_pairwise (fun a b _ _=>leS_anti a b) (sort_sorted l) hs ((sort_perm l).trans hp.symm)
def insS (x:Str):List Str→List Str
 | []=>[x]
 | y::l=>bif leS x y then x::y::l else y::insS x l
def sortI:List Str→List Str
 | []=>[]
 | x::l=>insS x (sortI l)
theorem insS_perm (x:Str):∀ l,(insS x l).Perm (x::l)
 | []=>.refl _
 | y::l=>by
  simp only [insS]
  cases leS x y
  ·exact ((insS_perm x l).cons y).trans (.swap _ _ _)
  ·exact .refl _
theorem insS_sorted (x:Str):∀ {l:List Str},l.Pairwise (fun a b=>leS a b=true)→(insS x l).Pairwise (fun a b=>leS a b=true)
 | [],_=>by simp [insS]
 | y::l,h=>by
  rw [List.pairwise_cons] at h
  simp only [insS]
  cases hxy:leS x y
  ·simp only [cond_false,List.pairwise_cons]
   have hyx:leS y x=true:=by
    have:=leS_total x y
    rw [hxy] at this;simpa using this
   refine ⟨fun a ha => ?_,insS_sorted x h.2⟩
   rcases List.mem_cons.1 ((insS_perm x l).mem_iff.1 ha) with rfl | ha
   ·exact hyx
   ·exact h.1 a ha
  ·simp only [cond_true,List.pairwise_cons]
   refine ⟨fun a ha => ?_,h⟩
   rcases List.mem_cons.1 ha with rfl | ha
   ·exact hxy
   ·exact leS_trans _ _ _ hxy (h.1 a ha)
theorem sortI_perm:∀ l,(sortI l).Perm l
 | []=>.refl _
 | x::l=>(insS_perm x _).trans ((sortI_perm l).cons x)
theorem sortI_sorted:∀ l,(sortI l).Pairwise (fun a b=>leS a b=true)
 | []=>List.Pairwise.nil
 | x::l=>insS_sorted x (sortI_sorted l)
theorem sortS_eq (l:List Str):Go.Ab.sortS l=sortI l:=sort_eq (sortI_sorted l) (sortI_perm l)
end Go.Sh
namespace Go.Sh
section
variable {α σ ε ρ:Type}
def loopL (g:α→σ→Stp σ ε ρ) (fin:σ→ε):List α→σ→Out ε ρ
 | [],s=>.brk (fin s)
 | x::l,s=>match g x s with | .go s'=>loopL g fin l s' | .brk e=>.brk e | .ret r=>.ret r
theorem cnt_list {body:Nat→σ→Option (Stp σ ε ρ)} {fin:Nat→σ→ε} {f:σ→ε} (d:α) (l:List α) (g:α→σ→Stp σ ε ρ) (I:Nat→σ→Prop) (hf:∀ i s,fin i s=f s) :
 ∀ (i:Nat) (s:σ),I i s→(∀ j s,i≤j→j<l.length→I j s→body j s=some (g (l.getD j d) s)∧∀ s',g (l.getD j d) s = .go s'→I (j+1) s') →
 cnt body fin (l.length-i) i s=some (loopL g f (l.drop i) s):=by
 intro i s hI h
 by_cases hi:i<l.length
 ·obtain ⟨k,hk⟩:∃ k,l.length-i=k+1:=⟨l.length-i-1,by omega⟩
  obtain ⟨h1,h2⟩:=h i s (Nat.le_refl _) hi hI
  have hx:l.getD i d=l[i]:=by simp [List.getD_eq_getElem?_getD,List.getElem?_eq_getElem hi]
  rw [hx] at h1 h2
  rw [hk,List.drop_eq_getElem_cons hi]
  simp only [cnt,h1,Option.bind_some,loopL]
  cases hg:g l[i] s with
  | go s' =>
   have ih:=cnt_list d l g I hf (i+1) s' (h2 s' hg) (fun j s h1 h2=>h j s (by omega) h2)
   rw [show l.length-(i+1)=k by omega] at ih
   exact ih
  | brk e=>rfl
  | ret r=>rfl
 ·rw [show l.length-i=0 by omega,List.drop_eq_nil_of_le (by omega)]
  simp [cnt,loopL,hf]
 termination_by i=>l.length-i
theorem cnt_list0 {body:Nat→σ→Option (Stp σ ε ρ)} {fin:Nat→σ→ε} {f:σ→ε} (d:α) (l:List α) (g:α→σ→Stp σ ε ρ) (I:Nat→σ→Prop) (hf:∀ i s,fin i s=f s) (s:σ) (hI:I 0 s)
 (h:∀ j s,j<l.length→I j s→body j s=some (g (l.getD j d) s)∧∀ s',g (l.getD j d) s = .go s'→I (j+1) s') :
 cnt body fin (l.length-0) 0 s=some (loopL g f l s):=by
 have:=cnt_list d l g I hf 0 s hI (fun j s _ h1 h2=>h j s h1 h2)
 simpa using this
theorem cnt_place {body:Nat→Unit→Option (Stp Unit Nat ρ)} (p:Nat→Bool):∀ (k i:Nat) (u:Unit),(∀ j u,i≤j→j<i+k→body j u=some (bif p j then .brk j else .go ())) →
 cnt body (fun i _=>i) k i u=some (.brk (match (List.range' i k).find? p with | some j=>j | none=>i+k))
 | 0,i,u,h=>by simp [cnt]
 | k+1,i,u,h=>by
  simp only [cnt,h i u (Nat.le_refl _) (by omega),List.range'_succ,List.find?_cons]
  cases hp:p i with
  | false =>
   simp only [cond_false,Option.bind_some,stp]
   rw [cnt_place p k (i+1) () (fun j u h1 h2=>h j u (by omega) (by omega))]
   rw [show i+1+k=i+(k+1) by omega]
  | true=>simp [stp]
end
end Go.Sh
/- PLAIN LAWS of layer 5: what a valid polynomial is. -/
namespace Go.Proofs.YtjfpcjnopbfekaaGreatDoor
open Go.Ab Go.Sh
theorem w64_same {n:Int} (h1 : -9223372036854775808≤n) (h2:n≤9223372036854775807):w64 n=n:=by unfold w64 IntKind.wrap IntKind.bits IntKind.signed;simp;omega
theorem isNaN_f (x:Str):cmp_isNaN_string x=some false:=by simp [cmp_isNaN_string]
theorem less_eq (x y:Str):cmp_Less_string x y=some (Op.bytesLess x y):=by simp [cmp_Less_string,isNaN_f]
theorem compare1_eq (x y:Str):cmp_Compare_string x y=some (cmpS x y):=by
 simp only [cmp_Compare_string,isNaN_f,Option.bind_some,cond_false]
 cases h:Op.bytesLess x y with
 | true=>simp [cmpS,h]
 | false =>
  rcases cb_tri x y with h1 | h1 | h1
  ·rw [h] at h1;cases h1
  ·subst h1;simp [cmpS,h]
  ·have hne:(x==y)=false:=by
    rw [beq_eq_false_iff_ne];intro e;subst e;rw [h] at h1;cases h1
   simp [cmpS,h,h1,hne]
theorem compare_eq (a b:List Str):slices_Compare_string a b=some (cmpL a b):=by
 unfold slices_Compare_string
 generalize hb:(fun (i37:Nat) (s36:Unit)=>_:Nat→Unit→Option (Stp Unit Unit Int))=body
 have key:∀ k i u,i+k=a.length→i≤b.length→(∀ j,j<i→a.getD j []=b.getD j [])→(cnt body (fun _ _=>()) k i u).bind (aft fun _=>bif decide (((a.length:Nat):Int)<((b.length:Nat):Int)) then some (-1) else some 0)=some (cmpL a b):=by
  intro k
  induction k with
  | zero =>
   intro i u h1 h2 hA
   simp only [cnt,Option.bind_some,Sh.aft]
   by_cases h:a.length<b.length
   ·rw [decide_eq_true (by omega),cmpL_lt hA (by omega) (by omega)];rfl
   ·rw [decide_eq_false (by omega),cmpL_eq hA (by omega) (by omega)];rfl
  | succ k ih =>
   intro i u h1 h2 hA
   have e0:body i u=bif decide (((i:Nat):Int)≥((b.length:Nat):Int)) then some (.ret 1) else (cmp_Compare_string (a.getD i []) (b.getD i [])).bind fun y=>bif (y==0) then some (.go ()) else some (.ret y):=by rw [← hb]
   simp only [cnt]
   rw [e0]
   by_cases hl:b.length≤i
   ·rw [decide_eq_true (by omega),cmpL_gt hA (by omega) (by omega)];rfl
   ·rw [decide_eq_false (by omega)]
    simp only [cond_false,compare1_eq,Option.bind_some]
    by_cases hz:cmpS (a.getD i []) (b.getD i [])=0
    ·rw [hz]
     simp only [beq_self_eq_true,cond_true,Option.bind_some,stp]
     exact ih (i+1) () (by omega) (by omega) fun j hj=>by
      by_cases e:j=i
      ·subst e;exact cmpS_zero.1 hz
      ·exact hA j (by omega)
    ·rw [beq_eq_false_iff_ne.2 hz,cmpL_at hA (by omega) (by omega) hz]
     simp [stp,Sh.aft]
 exact key (a.length-0) 0 () (by omega) (Nat.zero_le _) (fun j hj=>absurd hj (Nat.not_lt_zero _))
theorem order_eq (a b:List Str) (ha:a.length≤1000000) (hb2:b.length≤1000000):∃ r,ref05_order a b=some r∧(0≤r↔0≤cmpL a b)∧(r=0↔cmpL a b=0):=by
 unfold ref05_order
 generalize hb:(fun (i47:Nat) (s46:Unit)=>_:Nat→Unit→Option (Stp Unit Unit Int))=body
 have hend:w64 (((a.length:Nat):Int)-((b.length:Nat):Int))=((a.length:Nat):Int)-((b.length:Nat):Int):=w64_same (by omega) (by omega)
 have key:∀ k i u,i+k=a.length→i≤b.length→(∀ j,j<i→a.getD j []=b.getD j [])→∃ r,(cnt body (fun _ _=>()) k i u).bind (aft fun _=>some (w64 (((a.length:Nat):Int)-((b.length:Nat):Int))))=some r∧(0≤r↔0≤cmpL a b)∧(r=0↔cmpL a b=0):=by
  intro k
  induction k with
  | zero =>
   intro i u h1 h2 hA
   refine ⟨_,rfl,?_⟩
   rw [hend]
   by_cases h:a.length<b.length
   ·rw [cmpL_lt hA (by omega) (by omega)];omega
   ·rw [cmpL_eq hA (by omega) (by omega)];omega
  | succ k ih =>
   intro i u h1 h2 hA
   have e0:body i u=bif decide (((i:Nat):Int)<((b.length:Nat):Int)) then (bif (Op.bytesLess (a.getD i []) (b.getD i [])) then some (.ret (-1)) else (bif (Op.bytesLess (a.getD i []) (b.getD i [])||(a.getD i [])==(b.getD i [])) then some (.go ()) else some (.ret 1))) else some (.brk ()):=by rw [← hb]
   simp only [cnt]
   rw [e0]
   by_cases hl:b.length≤i
   ·rw [decide_eq_false (by omega)]
    refine ⟨_,rfl,?_⟩
    rw [hend,cmpL_gt hA (by omega) (by omega)];omega
   ·rw [decide_eq_true (by omega)]
    simp only [cond_true]
    rcases cb_tri (a.getD i []) (b.getD i []) with h3 | h3 | h3
    ·rw [h3,cmpL_at hA (by omega) (by omega) (by have:=cmpS_neg.2 h3;omega)]
     refine ⟨_,rfl,?_⟩
     have:=cmpS_neg.2 h3;omega
    ·rw [h3,cb_irrefl]
     simp only [cond_false,Bool.false_or,beq_self_eq_true,cond_true,Option.bind_some,stp]
     exact ih (i+1) () (by omega) (by omega) fun j hj=>by
      by_cases e:j=i
      ·subst e;exact h3
      ·exact hA j (by omega)
    ·have hne:(a.getD i []==b.getD i [])=false:=by
      rw [beq_eq_false_iff_ne];intro e;rw [e,cb_irrefl] at h3;cases h3
     rw [cb_asymm h3,hne,cmpL_at hA (by omega) (by omega) (by have:=cmpS_pos.2 h3;omega)]
     refine ⟨_,rfl,?_⟩
     have:=cmpS_pos.2 h3;omega
 exact key (a.length-0) 0 () (by omega) (Nat.zero_le _) (fun j hj=>absurd hj (Nat.not_lt_zero _))
def srtB (x:List Str):Bool:=(List.range' 1 (x.length-1)).all fun j => !(Op.bytesLess (x.getD j []) (x.getD (j-1) []))
theorem range'_last (n:Nat):List.range' 1 (n+1)=List.range' 1 n++[n+1]:=by
 rw [List.range'_concat];simp [Nat.add_comm]
theorem isSorted_eq (x:List Str) (hx:x.length≤1000000):slices_IsSorted_string x=some (srtB x):=by
 unfold slices_IsSorted_string
 generalize hb:(fun (s32:Int)=>_:Int→Option (Stp Int Unit Bool))=body
 have key:∀ k fuel,k<x.length∨k=0→k<fuel→(whl body fuel ((k:Nat):Int)).bind (aft fun _=>some true)=some ((List.range' 1 k).all fun j => !(Op.bytesLess (x.getD j []) (x.getD (j-1) []))):=by
  intro k
  induction k with
  | zero =>
   intro fuel _ hf
   obtain ⟨f,rfl⟩:∃ f,fuel=f+1:=⟨fuel-1,by omega⟩
   have e0:body ((0:Nat):Int)=some (.brk ()):=by rw [← hb];rfl
   simp only [whl,e0,Option.bind_some,stp,Sh.aft];rfl
  | succ k ih =>
   intro fuel hk hf
   obtain ⟨f,rfl⟩:∃ f,fuel=f+1:=⟨fuel-1,by omega⟩
   have ew:w64 (((k+1:Nat):Int)-1)=((k:Nat):Int):=by rw [w64_same (by omega) (by omega)];omega
   have e0:body ((k+1:Nat):Int)=bif (Op.bytesLess (x.getD (k+1) []) (x.getD k [])) then some (.ret false) else some (.go ((k:Nat):Int)):=by
    rw [← hb]
    simp only [ew]
    rw [decide_eq_true (by omega)]
    simp only [cond_true]
    rw [grd_pos (by omega),grd_pos (by omega),less_eq]
    simp
   simp only [whl,e0]
   rw [range'_last,List.all_append]
   cases h:Op.bytesLess (x.getD (k+1) []) (x.getD k []) with
   | true=>simp only [cond_true,Option.bind_some,stp,Sh.aft,List.all_cons,List.all_nil,Bool.and_true,Nat.add_sub_cancel,h,Bool.not_true,Bool.and_false]
   | false =>
    simp only [cond_false,Option.bind_some,stp]
    rw [ih f (by omega) (by omega)]
    simp only [List.all_cons,List.all_nil,Bool.and_true,Nat.add_sub_cancel,h,Bool.not_false]
 by_cases h0:x.length=0
 ·have ex:x=[]:=List.eq_nil_of_length_eq_zero h0
  subst ex
  have e0:body (w64 (-1))=some (.brk ()):=by rw [← hb];rfl
  have e1:w64 ((([]:List Str).length:Nat)-1:Int)=w64 (-1):=rfl
  have e2:∀ fuel,(whl body (fuel+1) (w64 (-1))).bind (Sh.aft fun _=>some true)=some true:=fun fuel=>by simp only [whl,e0,Option.bind_some,stp,Sh.aft]
  exact e2 4294967295
 ·have ew:w64 (((x.length:Nat):Int)-1)=((x.length-1:Nat):Int):=by rw [w64_same (by omega) (by omega)];omega
  rw [ew]
  exact key (x.length-1) _ (by omega) (by omega)
theorem contains_eq (x:List Str) (hN:∀ v∈x,v.length≤1000000):slices_ContainsFunc_string x=some (!(x.all nameS)):=by
 have h1:∀ v∈x,poly_Valid_1 v=some (!(nameS v)):=fun v hv=>by unfold poly_Valid_1;rw [linear_Name_eq v (hN v hv)];rfl
 unfold slices_ContainsFunc_string slices_IndexFunc_string
 rw [cnt_find (f:=fun j=>((j:Nat):Int)) (fun j => !(nameS (x.getD j []))) _ _ () (fun j u _ hj=>by
  rw [h1 (x.getD j []) (by rw [List.getD_eq_getElem?_getD,List.getElem?_eq_getElem (by omega)];exact List.getElem_mem _)]
  cases nameS (x.getD j [])<;>rfl)]
 have h2:=find_idx0 (fun v => !(nameS v)) [] x
 have h3:=idxOf_neg (fun v => !(nameS v)) x
 have h4:x.any (fun v => !(nameS v)) = !(x.all nameS):=by
  rw [List.not_all_eq_any_not]
 generalize (List.range' 0 (x.length-0)).find? (fun j => !(nameS (x.getD j [])))=o at h2 ⊢
 cases o with
 | none =>
  simp only [Option.bind_some,Sh.aft]
  rw [← h2] at h3
  rw [← h4,h3.1 (by decide)];rfl
 | some j =>
  simp only [Option.bind_some,Sh.aft]
  rw [← h2] at h3
  have:x.any (fun v => !(nameS v))=true:=by
   cases h5:x.any (fun v => !(nameS v)) with
   | true=>rfl
   | false=>have h6:=h3.2 h5;simp only at h6;omega
  rw [← h4,this]
  simp
def okM (m:Monomial):Bool := !(m.Coef==0)&&(decide (-1099511627776≤m.Coef)&&(decide (m.Coef≤1099511627776)&&(decide (m.Vars.length≤8)&&(srtB m.Vars&&m.Vars.all nameS))))
def monoAt (p:List Monomial) (j:Nat):Monomial:=p.getD j ⟨0,[]⟩
def stepOk (p:List Monomial) (j:Nat):Bool:=okM (monoAt p j)&&(((j:Nat):Int)==0||decide (cmpL (monoAt p (j-1)).Vars (monoAt p j).Vars<0))
def validP (p:List Monomial):Bool:=(List.range' 0 (p.length-0)).all (stepOk p)&&decide (p.length≤60)
def Bd (p:List Monomial):Prop:=p.length≤1000000∧∀ m∈p,m.Vars.length≤1000000∧∀ v∈m.Vars,v.length≤1000000
theorem monoAt_mem {p:List Monomial} {j:Nat} (h:j<p.length):monoAt p j∈p:=by
 unfold monoAt;rw [List.getD_eq_getElem?_getD,List.getElem?_eq_getElem h];exact List.getElem_mem _
theorem poly_Valid_eq (p:List Monomial) (hB:Bd p):poly_Valid p=some (validP p):=by
 unfold poly_Valid
 rw [cnt_all (stepOk p) _ _ () (fun j u _ hj=>by
  have hm:=hB.2 _ (monoAt_mem (p:=p) (j:=j) (by omega))
  have hw:∀ (h:0<j),w64 (((j:Nat):Int)-1)=((j-1:Nat):Int):=fun h=>by rw [w64_same (by have:=hB.1;omega) (by have:=hB.1;omega)];omega
  show _=_
  unfold stepOk okM
  simp only [show p.getD j ⟨0,[]⟩=monoAt p j from rfl,isSorted_eq _ hm.1,contains_eq _ hm.2,Option.bind_some]
  by_cases hj0:0<j
  ·have hjz:(((j:Nat):Int)==0)=false:=by simp;omega
   rw [hw hj0,grd_pos (by omega),hjz,decide_eq_true (show ((j:Nat):Int)>0 by omega)]
   simp only [Int.toNat_natCast,show p.getD (j-1) ⟨0,[]⟩=monoAt p (j-1) from rfl,compare_eq,Option.bind_some,Bool.false_or,cond_true]
   generalize cmpL (monoAt p (j-1)).Vars (monoAt p j).Vars=r
   generalize monoAt p j=m
   have e1:decide (m.Coef < -1099511627776) = !(decide (-1099511627776≤m.Coef)):=by rw [Bool.eq_iff_iff];simp
   have e2:decide (m.Coef>1099511627776) = !(decide (m.Coef≤1099511627776)):=by rw [Bool.eq_iff_iff];simp
   have e3:decide (((m.Vars.length:Nat):Int)>8) = !(decide (m.Vars.length≤8)):=by rw [Bool.eq_iff_iff];simp;omega
   have e4:decide (r≥0) = !(decide (r<0)):=by rw [Bool.eq_iff_iff];simp
   rw [e1,e2,e3,e4]
   cases m.Coef==0<;>cases decide (-1099511627776≤m.Coef)<;>cases decide (m.Coef≤1099511627776)<;>cases decide (m.Vars.length≤8)<;>cases srtB m.Vars<;>cases m.Vars.all nameS<;>cases decide (r<0)<;>rfl
  ·have:j=0:=by omega
   subst this
   generalize monoAt p 0=m
   have e1:decide (m.Coef < -1099511627776) = !(decide (-1099511627776≤m.Coef)):=by rw [Bool.eq_iff_iff];simp
   have e2:decide (m.Coef>1099511627776) = !(decide (m.Coef≤1099511627776)):=by rw [Bool.eq_iff_iff];simp
   have e3:decide (((m.Vars.length:Nat):Int)>8) = !(decide (m.Vars.length≤8)):=by rw [Bool.eq_iff_iff];simp;omega
   rw [e1,e2,e3]
   cases m.Coef==0<;>cases decide (-1099511627776≤m.Coef)<;>cases decide (m.Coef≤1099511627776)<;>cases decide (m.Vars.length≤8)<;>cases srtB m.Vars<;>cases m.Vars.all nameS<;>rfl),aft_bif]
 unfold validP
 cases (List.range' 0 (p.length-0)).all (stepOk p) with
 | false=>rfl
 | true =>
  simp only [cond_true,Bool.true_and,Option.some.injEq]
  rw [decide_eq_decide];omega
end Go.Proofs.YtjfpcjnopbfekaaGreatDoor
/- PLAIN LAWS of layer 5: the specification says just as much of a valid polynomial. -/
namespace Go.Proofs.YtjfpcjnopbfekaaGreatDoor
open Go.Ab Go.Sh
theorem le_flip (x y:Str):(Op.bytesLess x y||x==y) = !(Op.bytesLess y x):=by
 rcases cb_tri x y with h | h | h
 ·simp [h,cb_asymm h]
 ·subst h;simp [cb_irrefl]
 ·have hne:(x==y)=false:=by rw [beq_eq_false_iff_ne];intro e;subst e;rw [cb_irrefl] at h;cases h
  simp [h,hne,cb_asymm h]
def nm (x:List Str) (k:Nat):Bool:=nameS (x.getD k [])&&(((k:Nat):Int)==0 || !(Op.bytesLess (x.getD k []) (x.getD (k-1) [])))
theorem nm_all (x:List Str):(List.range' 0 (x.length-0)).all (nm x)=(srtB x&&x.all nameS):=by
 have h1:=all0 nameS [] x
 rw [← h1]
 unfold srtB
 rw [Bool.eq_iff_iff]
 simp only [Bool.and_eq_true,List.all_eq_true,List.mem_range'_1,nm,Bool.or_eq_true,beq_iff_eq]
 constructor
 ·intro h
  refine ⟨fun j hj => ?_,fun j hj=>(h j hj).1⟩
  rcases (h j (by omega)).2 with h2 | h2
  ·omega
  ·exact h2
 ·rintro ⟨h2,h3⟩ j hj
  refine ⟨h3 j hj,?_⟩
  by_cases h0:j=0
  ·exact .inl (by omega)
  ·exact .inr (h2 j (by omega))
theorem ref05_Valid_eq (p:List Monomial) (hB:Bd p):ref05_Valid p=some (validP p):=by
 unfold ref05_Valid
 unfold validP
 by_cases h60:p.length≤60
 ·rw [decide_eq_false (by omega),decide_eq_true h60]
  simp only [cond_false,Bool.and_true]
  rw [cnt_all (stepOk p) _ _ () (fun j u _ hj=>by
   have hm:=hB.2 _ (monoAt_mem (p:=p) (j:=j) (by omega))
   have hw:∀ {j:Nat} (h:0<j),j≤1000000→w64 (((j:Nat):Int)-1)=((j-1:Nat):Int):=fun h h2=>by rw [w64_same (by omega) (by omega)];omega
   show _=_
   simp only [show p.getD j ⟨0,[]⟩=monoAt p j from rfl]
   rw [cnt_all (nm (monoAt p j).Vars) _ _ () (fun k u _ hk=>by
    unfold nm
    rw [ref04_Name_eq]
    simp only [Option.bind_some]
    cases nameS ((monoAt p j).Vars.getD k []) with
    | false=>rfl
    | true =>
     simp only [cond_true,Bool.true_and]
     by_cases hk0:0<k
     ·have hkz:(((k:Nat):Int)==0)=false:=by simp;omega
      rw [hw hk0 (by omega),grd_pos (by omega),hkz,decide_eq_true (show ((k:Nat):Int)>0 by omega)]
      simp only [Int.toNat_natCast,le_flip,Bool.false_or,cond_true]
      cases Op.bytesLess ((monoAt p j).Vars.getD k []) ((monoAt p j).Vars.getD (k-1) [])<;>rfl
     ·have:k=0:=by omega
      subst this
      rfl),nm_all]
   unfold stepOk okM
   by_cases hj0:0<j
   ·have hm':=hB.2 _ (monoAt_mem (p:=p) (j:=j-1) (by omega))
    have hjz:(((j:Nat):Int)==0)=false:=by simp;omega
    obtain ⟨r,hr,hr1,hr2⟩:=order_eq (monoAt p (j-1)).Vars (monoAt p j).Vars hm'.1 hm.1
    rw [hw hj0 (by omega),grd_pos (by omega),hjz,decide_eq_true (show ((j:Nat):Int)>0 by omega)]
    simp only [Int.toNat_natCast,show p.getD (j-1) ⟨0,[]⟩=monoAt p (j-1) from rfl,hr,Option.bind_some,Bool.false_or,cond_true]
    have e4:decide (r≥0) = !(decide (cmpL (monoAt p (j-1)).Vars (monoAt p j).Vars<0)):=by rw [Bool.eq_iff_iff];simp;omega
    rw [e4]
    generalize cmpL (monoAt p (j-1)).Vars (monoAt p j).Vars=r
    generalize monoAt p j=m
    have e1:decide (m.Coef < -1099511627776) = !(decide (-1099511627776≤m.Coef)):=by rw [Bool.eq_iff_iff];simp
    have e2:decide (m.Coef>1099511627776) = !(decide (m.Coef≤1099511627776)):=by rw [Bool.eq_iff_iff];simp
    have e3:decide (((m.Vars.length:Nat):Int)>8) = !(decide (m.Vars.length≤8)):=by rw [Bool.eq_iff_iff];simp;omega
    rw [e1,e2,e3]
    cases m.Coef==0<;>cases decide (-1099511627776≤m.Coef)<;>cases decide (m.Coef≤1099511627776)<;>cases decide (m.Vars.length≤8)<;>cases srtB m.Vars<;>cases m.Vars.all nameS<;>cases decide (r<0)<;>rfl
   ·have:j=0:=by omega
    subst this
    generalize monoAt p 0=m
    have e1:decide (m.Coef < -1099511627776) = !(decide (-1099511627776≤m.Coef)):=by rw [Bool.eq_iff_iff];simp
    have e2:decide (m.Coef>1099511627776) = !(decide (m.Coef≤1099511627776)):=by rw [Bool.eq_iff_iff];simp
    have e3:decide (((m.Vars.length:Nat):Int)>8) = !(decide (m.Vars.length≤8)):=by rw [Bool.eq_iff_iff];simp;omega
    rw [e1,e2,e3]
    cases m.Coef==0<;>cases decide (-1099511627776≤m.Coef)<;>cases decide (m.Coef≤1099511627776)<;>cases decide (m.Vars.length≤8)<;>cases srtB m.Vars<;>cases m.Vars.all nameS<;>rfl),aft_bif]
  cases (List.range' 0 (p.length-0)).all (stepOk p)<;>rfl
 ·rw [decide_eq_true (by omega),decide_eq_false h60]
  simp
end Go.Proofs.YtjfpcjnopbfekaaGreatDoor
/- PLAIN LAWS of layer 3: products and sums are exact, or there is an error. -/
namespace Go.Proofs.YtjfpcjnopbfekaaGreatDoor
open Go.Ab Go.Sh
theorem cnt_inv {σ ε ρ:Type} {body:Nat→σ→Option (Stp σ ε ρ)} {fin:Nat→σ→ε} (I:Nat→σ→Prop):∀ (k i:Nat) (s:σ),I i s→(∀ j s,i≤j→j<i+k→I j s→∃ s',body j s=some (.go s')∧I (j+1) s') →
 ∃ s',cnt body fin k i s=some (.brk (fin (i+k) s'))∧I (i+k) s'
 | 0,i,s,hI,h=>⟨s,by simp [cnt],hI⟩
 | k+1,i,s,hI,h=>by
  obtain ⟨s1,h1,h2⟩:=h i s (Nat.le_refl _) (by omega) hI
  obtain ⟨s',e1,e3⟩:=cnt_inv I k (i+1) s1 h2 (fun j s h1 h2=>h j s (by omega) (by omega))
  refine ⟨s',?_,by rw [show i+(k+1)=i+1+k by omega];exact e3⟩
  simp only [cnt,h1,Option.bind_some,stp]
  rw [e1,show i+1+k=i+(k+1) by omega]
def inB (n:Int):Bool:=decide (-4611686018427387904≤n)&&decide (n≤4611686018427387904)
theorem inB_iff {n:Int}:inB n=true ↔ -4611686018427387904≤n∧n≤4611686018427387904:=by simp [inB]
theorem intmath_in_eq (l:List Int):intmath_in l=some (l.all inB):=by
 unfold intmath_in
 rw [cnt_all (fun j=>inB (l.getD j 0)) _ _ () (fun j u _ _=>by
  generalize l.getD j 0=n
  unfold inB
  have e1:decide (n < -4611686018427387904) = !(decide (-4611686018427387904≤n)):=by rw [Bool.eq_iff_iff];simp
  have e2:decide (n>4611686018427387904) = !(decide (n≤4611686018427387904)):=by rw [Bool.eq_iff_iff];simp
  rw [e1,e2]
  cases decide (-4611686018427387904≤n)<;>cases decide (n≤4611686018427387904)<;>rfl),aft_bif,all0 inB 0 l]
 cases l.all inB<;>rfl
theorem abs_nat {a:Int} (h:inB a=true):intmath_abs a=some (a.natAbs:Int)∧a.natAbs≤4611686018427387904:=by
 rw [inB_iff] at h
 unfold intmath_abs
 by_cases h0:a<0
 ·rw [decide_eq_true h0]
  simp only [cond_true,Option.some.injEq]
  rw [w64_same (by omega) (by omega)];omega
 ·rw [decide_eq_false h0]
  simp only [cond_false,Option.some.injEq];omega
theorem wrap_u64 {n:Int} (h0:0≤n) (h:n<18446744073709551616):IntKind.wrap .u64 n=n:=by
 unfold IntKind.wrap IntKind.bits IntKind.signed;simp;omega
theorem wrap_i64 {n:Int} (h0:0≤n) (h:n≤9223372036854775807):IntKind.wrap .i64 n=n:=w64_same (by omega) h
theorem prod_sign (a b:Int):((decide (a<0)==decide (b<0))=true→a*b=((a.natAbs*b.natAbs:Nat):Int))∧((decide (a<0)==decide (b<0))=false→a*b = -((a.natAbs*b.natAbs:Nat):Int)):=by
 rcases Int.natAbs_eq a with ha | ha<;>rcases Int.natAbs_eq b with hb | hb
 all_goals
  generalize a.natAbs=x at ha ⊢
  generalize b.natAbs=y at hb ⊢
  subst ha;subst hb
 ·refine ⟨fun _=>by push_cast;rfl,fun h => ?_⟩
  rw [decide_eq_false (by omega),decide_eq_false (by omega)] at h;cases h
 ·constructor
  ·intro h
   by_cases hy:y=0
   ·subst hy;simp
   ·rw [decide_eq_false (by omega),decide_eq_true (by omega)] at h;cases h
  ·intro _;rw [Int.mul_neg];push_cast;rfl
 ·constructor
  ·intro h
   by_cases hx:x=0
   ·subst hx;simp
   ·rw [decide_eq_true (by omega),decide_eq_false (by omega)] at h;cases h
  ·intro _;rw [Int.neg_mul];push_cast;rfl
 ·constructor
  ·intro _;rw [Int.neg_mul_neg];push_cast;rfl
  ·intro h
   by_cases hx:x=0
   ·subst hx;simp
   ·by_cases hy:y=0
    ·subst hy;simp
    ·rw [decide_eq_true (by omega),decide_eq_true (by omega)] at h;cases h
theorem bnd_some {α β:Type} (x:α) (f:α→Option β):(some x).bind f=f x:=Eq.trans (Option.bind_some x f) rfl
theorem mul64_eq {x y:Int} (hx:0≤x∧x<18446744073709551616) (hy:0≤y∧y<18446744073709551616):lib_Mul64 x y=some (x*y / 18446744073709551616,x*y % 18446744073709551616):=if_pos ⟨hx,hy⟩
end Go.Proofs.YtjfpcjnopbfekaaGreatDoor
/- PLAIN LAWS of layer 3: the long sums of the program are exact. -/
namespace Go.Proofs.YtjfpcjnopbfekaaGreatDoor
open Go.Ab Go.Sh
def v3 (a b c:Int):Int:=a+b*18446744073709551616+c*340282366920938463463374607431768211456
def lm (x:Int):Prop:=0≤x∧x<18446744073709551616
theorem add64_eq {x y c:Int} (hx:lm x) (hy:lm y) (hc:0≤c∧c≤1):lib_Add64 x y c=some ((x+y+c) % 18446744073709551616,(x+y+c) / 18446744073709551616):=if_pos ⟨hx,hy,hc⟩
theorem add64_ex {x y c:Int} (hx:lm x) (hy:lm y) (hc:0≤c∧c≤1):∃ r d,lib_Add64 x y c=some (r,d)∧lm r∧(0≤d∧d≤1)∧r+d*18446744073709551616=x+y+c:=by
 refine ⟨_,_,add64_eq hx hy hc,?_⟩
 unfold lm at *
 generalize hs:x+y+c=s
 omega
theorem mul64_ex {x y:Int} (hx:lm x) (hy:lm y):∃ hi lo,lib_Mul64 x y=some (hi,lo)∧lm lo∧lo+hi*18446744073709551616=x*y∧0≤hi:=by
 refine ⟨_,_,mul64_eq hx hy,?_⟩
 have h0:0≤x*y:=Int.mul_nonneg hx.1 hy.1
 unfold lm
 generalize x*y=s at h0
 omega
theorem add3_ex {x0 x1 x2 hi lo:Int} (h0:lm x0) (h1:lm x1) (h2:lm x2) (hh:lm hi) (hl:lm lo) (hs:v3 x0 x1 x2+lo+hi*18446744073709551616<6277101735386680763835789423207666416102355444464034512896) :
 ∃ r0 r1 r2 c0 c1 c2,lib_Add64 x0 lo 0=some (r0,c0)∧lib_Add64 x1 hi c0=some (r1,c1)∧lib_Add64 x2 0 c1=some (r2,c2)∧lm r0∧lm r1∧lm r2∧v3 r0 r1 r2=v3 x0 x1 x2+lo+hi*18446744073709551616:=by
 obtain ⟨r0,c0,e0,l0,d0,s0⟩:=add64_ex h0 hl (c:=0) (by omega)
 obtain ⟨r1,c1,e1,l1,d1,s1⟩:=add64_ex h1 hh d0
 obtain ⟨r2,c2,e2,l2,d2,s2⟩:=add64_ex h2 (y:=0) (by unfold lm;omega) d1
 refine ⟨r0,r1,r2,c0,c1,c2,e0,e1,e2,l0,l1,l2,?_⟩
 unfold lm v3 at *
 omega
theorem total_add_eq {a b p0 p1 p2 n0 n1 n2 K:Int} (ha:inB a=true) (hb:inB b=true) (h0:lm p0) (h1:lm p1) (h2:lm p2) (g0:lm n0) (g1:lm n1) (g2:lm n2) (hK:v3 p0 p1 p2+v3 n0 n1 n2≤K) (hK2:K≤6277101735386680763835789423207666416102355444464034512896-21267647932558653966460912964485513216-1) :
 ∃ q0 q1 q2 m0 m1 m2,intmath_total_add a b p0 p1 p2 n0 n1 n2=some (q0,q1,q2,m0,m1,m2)∧lm q0∧lm q1∧lm q2∧lm m0∧lm m1∧lm m2∧v3 q0 q1 q2-v3 m0 m1 m2=v3 p0 p1 p2-v3 n0 n1 n2+a*b∧v3 q0 q1 q2+v3 m0 m1 m2≤K+21267647932558653966460912964485513216:=by
 obtain ⟨a1,a2⟩:=abs_nat ha
 obtain ⟨b1,b2⟩:=abs_nat hb
 obtain ⟨s1,s2⟩:=prod_sign a b
 obtain ⟨hi,lo,em,hlo,hsum,hhi⟩:=mul64_ex (x:=(a.natAbs:Int)) (y:=(b.natAbs:Int)) (by unfold lm;omega) (by unfold lm;omega)
 have hP:((a.natAbs:Int)*(b.natAbs:Int))=((a.natAbs*b.natAbs:Nat):Int):=by push_cast;rfl
 have hPb:a.natAbs*b.natAbs≤21267647932558653966460912964485513216:=by
  have:=Nat.mul_le_mul a2 b2
  exact this
 rw [hP] at hsum
 have wa:=wrap_u64 (n:=(a.natAbs:Int)) (by omega) (by omega)
 have wb:=wrap_u64 (n:=(b.natAbs:Int)) (by omega) (by omega)
 have v0:0≤v3 p0 p1 p2:=by unfold lm v3 at *;omega
 have v1:0≤v3 n0 n1 n2:=by unfold lm v3 at *;omega
 generalize a.natAbs*b.natAbs=Pn at s1 s2 hsum hPb
 have hhi2:lm hi:=by unfold lm at *;omega
 unfold intmath_total_add
 cases hs:(decide (a<0)==decide (b<0)) with
 | true =>
  obtain ⟨r0,r1,r2,c0,c1,c2,e0,e1,e2,l0,l1,l2,hv⟩:=add3_ex h0 h1 h2 hhi2 hlo (by omega)
  refine ⟨r0,r1,r2,n0,n1,n2,?_,l0,l1,l2,g0,g1,g2,?_,?_⟩
  ·simp only [cond_true]
   rw [a1,b1]
   simp only [bnd_some]
   rw [wa,wb,em]
   simp only [bnd_some]
   rw [e0]
   simp only [bnd_some]
   rw [e1]
   simp only [bnd_some]
   rw [e2]
   simp only [bnd_some]
  ·rw [hv,s1 hs];omega
  ·rw [hv];omega
 | false =>
  obtain ⟨r0,r1,r2,c0,c1,c2,e0,e1,e2,l0,l1,l2,hv⟩:=add3_ex g0 g1 g2 hhi2 hlo (by omega)
  refine ⟨p0,p1,p2,r0,r1,r2,?_,h0,h1,h2,l0,l1,l2,?_,?_⟩
  ·simp only [cond_false]
   rw [a1,b1]
   simp only [bnd_some]
   rw [wa,wb,em]
   simp only [bnd_some]
   rw [e0]
   simp only [bnd_some]
   rw [e1]
   simp only [bnd_some]
   rw [e2]
   simp only [bnd_some]
  ·rw [hv,s2 hs];omega
  ·rw [hv];omega
theorem sub64_ex {x y c:Int} (hx:lm x) (hy:lm y) (hc:0≤c∧c≤1):∃ r d,lib_Sub64 x y c=some (r,d)∧lm r∧(0≤d∧d≤1)∧r=x-y-c+d*18446744073709551616:=by
 have e:lib_Sub64 x y c=some ((x-y-c) % 18446744073709551616,if x<y+c then 1 else 0):=if_pos ⟨hx,hy,hc⟩
 refine ⟨_,_,e,?_⟩
 unfold lm at *
 generalize hs:x-y-c=s
 split<;>omega
theorem value_1_eq {a0 a1 a2 b0 b1 b2:Int} (h0:lm a0) (h1:lm a1) (h2:lm a2) (g0:lm b0) (g1:lm b1) (g2:lm b2) :
 ∃ r0 r1 r2 k,intmath_total_value_1 (a0,a1,a2) (b0,b1,b2)=some ((r0,r1,r2),k)∧(v3 b0 b1 b2≤v3 a0 a1 a2→k=true∧lm r0∧lm r1∧lm r2∧v3 r0 r1 r2=v3 a0 a1 a2-v3 b0 b1 b2)∧(v3 a0 a1 a2<v3 b0 b1 b2→k=false):=by
 obtain ⟨r0,c0,e0,l0,d0,s0⟩:=sub64_ex h0 g0 (c:=0) (by omega)
 obtain ⟨r1,c1,e1,l1,d1,s1⟩:=sub64_ex h1 g1 d0
 obtain ⟨r2,c2,e2,l2,d2,s2⟩:=sub64_ex h2 g2 d1
 refine ⟨r0,r1,r2,c2==0,?_,fun h => ?_,fun h => ?_⟩
 ·unfold intmath_total_value_1
  rw [e0]
  simp only [bnd_some]
  rw [e1]
  simp only [bnd_some]
  rw [e2]
  simp only [bnd_some]
 ·unfold lm v3 at *
  refine ⟨?_,l0,l1,l2,by omega⟩
  have:c2=0:=by omega
  rw [this];rfl
 ·unfold lm v3 at *
  have:c2=1:=by omega
  rw [this];rfl
theorem checked_eq (n:Int) (h:inB n=true):intmath_checked n=some (n,0):=by
 unfold intmath_checked
 rw [intmath_in_eq]
 simp only [List.all_cons,List.all_nil,h,Bool.and_true,bnd_some,cond_true]
def sumE (S:Int):Int×Int:=bif inB S then (S,0) else (0,2)
theorem sumE_out {S:Int} (h:S < -4611686018427387904∨4611686018427387904<S):sumE S=(0,2):=by
 have:inB S=false:=by
  have:¬ inB S=true:=by rw [inB_iff];omega
  simpa using this
 unfold sumE;rw [this];rfl
theorem sumE_in {S:Int} (h:inB S=true):sumE S=(S,0):=by unfold sumE;rw [h];rfl
theorem total_value_eq {a0 a1 a2 b0 b1 b2:Int} (h0:lm a0) (h1:lm a1) (h2:lm a2) (g0:lm b0) (g1:lm b1) (g2:lm b2):intmath_total_value a0 a1 a2 b0 b1 b2=some (sumE (v3 a0 a1 a2-v3 b0 b1 b2)):=by
 obtain ⟨r0,r1,r2,k,e1,k1,k2⟩:=value_1_eq h0 h1 h2 g0 g1 g2
 obtain ⟨t0,t1,t2,j,e2,j1,j2⟩:=value_1_eq g0 g1 g2 h0 h1 h2
 unfold intmath_total_value
 rw [e1]
 simp only [bnd_some]
 by_cases hge:v3 b0 b1 b2≤v3 a0 a1 a2
 ·obtain ⟨hk,l0,l1,l2,hv⟩:=k1 hge
  rw [hk]
  simp only [cond_true]
  by_cases q1:r1>0
  ·rw [decide_eq_true q1,sumE_out (by unfold lm v3 at *;omega)];rfl
  ·rw [decide_eq_false q1]
   simp only [cond_false]
   by_cases q2:r2>0
   ·rw [decide_eq_true q2,sumE_out (by unfold lm v3 at *;omega)];rfl
   ·rw [decide_eq_false q2]
    simp only [cond_false]
    by_cases q0:r0>4611686018427387904
    ·rw [decide_eq_true q0,sumE_out (by unfold lm v3 at *;omega)];rfl
    ·rw [decide_eq_false q0]
     simp only [cond_false]
     have e:r0=v3 a0 a1 a2-v3 b0 b1 b2:=by unfold lm v3 at *;omega
     have hin:inB r0=true:=inB_iff.2 (by unfold lm at *;omega)
     rw [wrap_i64 l0.1 (by omega),Int.one_mul,w64_same (by unfold lm at *;omega) (by omega),checked_eq r0 hin,← e,sumE_in hin]
     simp only [bnd_some]
 ·rw [k2 (by omega)]
  simp only [cond_false]
  rw [e2]
  simp only [bnd_some]
  obtain ⟨hj,l0,l1,l2,hv⟩:=j1 (by omega)
  rw [hj]
  simp only [cond_true]
  by_cases q1:t1>0
  ·rw [decide_eq_true q1,sumE_out (by unfold lm v3 at *;omega)];rfl
  ·rw [decide_eq_false q1]
   simp only [cond_false]
   by_cases q2:t2>0
   ·rw [decide_eq_true q2,sumE_out (by unfold lm v3 at *;omega)];rfl
   ·rw [decide_eq_false q2]
    simp only [cond_false]
    by_cases q0:t0>4611686018427387904
    ·rw [decide_eq_true q0,sumE_out (by unfold lm v3 at *;omega)];rfl
    ·rw [decide_eq_false q0]
     simp only [cond_false]
     have e : -t0=v3 a0 a1 a2-v3 b0 b1 b2:=by unfold lm v3 at *;omega
     have hin:inB (-t0)=true:=inB_iff.2 (by unfold lm at *;omega)
     rw [wrap_i64 l0.1 (by omega),show (-1)*t0 = -t0 by omega,w64_same (by omega) (by unfold lm at *;omega),checked_eq (-t0) hin,← e,sumE_in hin]
     simp only [bnd_some]
end Go.Proofs.YtjfpcjnopbfekaaGreatDoor
/- PLAIN LAWS of layer 3: Sum and Dot. -/
namespace Go.Proofs.YtjfpcjnopbfekaaGreatDoor
open Go.Ab Go.Sh
def sumF (f:Nat→Int):Nat→Int
 | 0=>0
 | j+1=>sumF f j+f j
def dotF (a b:List Int) (i:Nat):Int:=a.getD i 0*b.getD i 0
def dotR (a b:List Int):Int×Int:=bif decide (a.length=b.length) then (bif decide (a.length≤10000) then (bif a.all inB&&b.all inB then sumE (sumF (dotF a b) a.length) else (0,2)) else (0,3)) else (0,1)
def limbs (s:Int×Int×Int×Int×Int×Int):Prop:=lm s.1∧lm s.2.1∧lm s.2.2.1∧lm s.2.2.2.1∧lm s.2.2.2.2.1∧lm s.2.2.2.2.2
def dif (s:Int×Int×Int×Int×Int×Int):Int:=v3 s.1 s.2.1 s.2.2.1-v3 s.2.2.2.1 s.2.2.2.2.1 s.2.2.2.2.2
def tot (s:Int×Int×Int×Int×Int×Int):Int:=v3 s.1 s.2.1 s.2.2.1+v3 s.2.2.2.1 s.2.2.2.2.1 s.2.2.2.2.2
theorem add_state {a b:Int} (ha:inB a=true) (hb:inB b=true) (s:Int×Int×Int×Int×Int×Int) (hl:limbs s) (j:Nat) (hj:j<10000) (ht:tot s≤(j:Int)*21267647932558653966460912964485513216) :
 ∃ s',intmath_total_add a b s.1 s.2.1 s.2.2.1 s.2.2.2.1 s.2.2.2.2.1 s.2.2.2.2.2=some s'∧limbs s'∧dif s'=dif s+a*b∧tot s'≤((j+1:Nat):Int)*21267647932558653966460912964485513216:=by
 obtain ⟨q0,q1,q2,m0,m1,m2,e,l0,l1,l2,l3,l4,l5,hd,hs⟩:=total_add_eq (K:=(j:Int)*21267647932558653966460912964485513216) ha hb hl.1 hl.2.1 hl.2.2.1 hl.2.2.2.1 hl.2.2.2.2.1 hl.2.2.2.2.2 ht (by omega)
 refine ⟨(q0,q1,q2,m0,m1,m2),e,⟨l0,l1,l2,l3,l4,l5⟩,hd,?_⟩
 show v3 q0 q1 q2+v3 m0 m1 m2≤_
 omega
theorem value_state (s:Int×Int×Int×Int×Int×Int) (hl:limbs s):intmath_total_value s.1 s.2.1 s.2.2.1 s.2.2.2.1 s.2.2.2.2.1 s.2.2.2.2.2=some (sumE (dif s)) :=
 total_value_eq hl.1 hl.2.1 hl.2.2.1 hl.2.2.2.1 hl.2.2.2.2.1 hl.2.2.2.2.2
theorem all_at {l:List Int} (h:l.all inB=true) {j:Nat} (hj:j<l.length):inB (l.getD j 0)=true:=by
 rw [List.getD_eq_getElem?_getD,List.getElem?_eq_getElem hj]
 exact List.all_eq_true.1 h _ (List.getElem_mem hj)
theorem limbs0:limbs (0,0,0,0,0,0):=by unfold limbs lm;simp
theorem intmath_Dot_eq (a b:List Int):intmath_Dot a b=some (dotR a b):=by
 unfold intmath_Dot dotR
 by_cases hlen:a.length=b.length
 ·rw [decide_eq_true hlen,show ((((a.length:Nat):Int)==((b.length:Nat):Int)))=true by simp [hlen]]
  simp only [cond_true]
  by_cases h1:a.length≤10000
  ·rw [decide_eq_true h1,decide_eq_false (by omega)]
   simp only [cond_true,cond_false]
   rw [intmath_in_eq,intmath_in_eq]
   simp only [bnd_some]
   cases ha:a.all inB with
   | false=>rfl
   | true =>
    cases hb:b.all inB with
    | false=>rfl
    | true =>
     simp only [cond_true,Bool.and_true]
     obtain ⟨s',e1,hI⟩:=cnt_inv (ρ:=Empty) (body:=fun i93 (s92:Int×Int×Int×Int×Int×Int)=>grd (i93<b.length) <| (intmath_total_add (a.getD i93 0) (b.getD i93 0) s92.1 s92.2.1 s92.2.2.1 s92.2.2.2.1 s92.2.2.2.2.1 s92.2.2.2.2.2).bind fun y122=>some (.go (y122.1,y122.2.1,y122.2.2.1,y122.2.2.2.1,y122.2.2.2.2.1,y122.2.2.2.2.2)))
      (fin:=fun i93 s92=>(s92.1,s92.2.1,s92.2.2.1,s92.2.2.2.1,s92.2.2.2.2.1,s92.2.2.2.2.2))
      (fun j s=>limbs s∧dif s=sumF (dotF a b) j∧tot s≤(j:Int)*21267647932558653966460912964485513216) (a.length-0) 0 (0,0,0,0,0,0) ⟨limbs0,rfl,by decide⟩ (fun j s _ hj ⟨i1,i2,i3⟩=>by
       obtain ⟨s',e,l,d,t⟩:=add_state (all_at ha (j:=j) (by omega)) (all_at hb (j:=j) (by omega)) s i1 j (by omega) i3
       refine ⟨s',?_,l,by rw [d,i2];rfl,t⟩
       rw [grd_pos (by omega),e];rfl)
     rw [e1]
     show (intmath_total_value s'.1 s'.2.1 s'.2.2.1 s'.2.2.2.1 s'.2.2.2.2.1 s'.2.2.2.2.2).bind _=_
     rw [value_state s' hI.1,hI.2.1,Nat.zero_add,Nat.sub_zero];rfl
  ·rw [decide_eq_false h1,decide_eq_true (by omega)];rfl
 ·rw [decide_eq_false hlen,show ((((a.length:Nat):Int)==((b.length:Nat):Int)))=false by rw [beq_eq_false_iff_ne];omega];rfl
end Go.Proofs.YtjfpcjnopbfekaaGreatDoor
/- PLAIN LAWS of layer 3: the specification's sums of products are exact too. -/
namespace Go.Proofs.YtjfpcjnopbfekaaGreatDoor
open Go.Ab Go.Sh
abbrev C5:=Int×Int×Int×Int×Int
def sm (c:Int) (j:Nat):Prop := -((j:Int)*13194139533312)≤c∧c≤(j:Int)*13194139533312
def v5 (s:C5):Int:=s.1+s.2.1*2097152+s.2.2.1*4398046511104+s.2.2.2.1*9223372036854775808+s.2.2.2.2*19342813113834066795298816
end Go.Proofs.YtjfpcjnopbfekaaGreatDoor
/- PLAIN LAWS of layer 3: the specification's Dot. -/
/- PLAIN LAWS of layer 5: the value of a polynomial. -/
namespace Go.Proofs.YtjfpcjnopbfekaaGreatDoor
open Go.Ab Go.Sh
def isV (v:Str) (x:Value):Bool:=x.Var==v
def look (vs:List Value) (v:Str):Int:=idxOf (isV v) vs
abbrev S1:=List (List Int)×Bool
theorem valid_coef {p:List Monomial} (h:validP p=true) {m:Monomial} (hm:m∈p):okM m=true:=by
 unfold validP at h
 rw [Bool.and_eq_true,List.all_eq_true] at h
 obtain ⟨j,hj,rfl⟩:=List.getElem_of_mem hm
 have:=h.1 j (by rw [List.mem_range'_1];omega)
 unfold stepOk at this
 rw [Bool.and_eq_true] at this
 have e:monoAt p j=p[j]:=by unfold monoAt;rw [List.getD_eq_getElem?_getD,List.getElem?_eq_getElem hj];rfl
 rw [e] at this
 exact this.1
end Go.Proofs.YtjfpcjnopbfekaaGreatDoor
/- PLAIN LAWS of layer 5: the specification gives the same value. -/
/- PLAIN LAWS of layer 5: Eval, the program against the specification. -/
/- PLAIN LAWS of layer 5: how much the guards leave. -/
namespace Go.Proofs.YtjfpcjnopbfekaaGreatDoor
open Go.Ab Go.Sh
def shortM (m:Monomial):Bool:=decide (m.Vars.length≤10)&&m.Vars.all (fun v=>decide (v.length≤40))
def fewP (p:List Monomial) (n:Int):Bool:=p.all shortM&&decide ((p.length:Int)≤n)
theorem ref05_Few_eq (p:List Monomial) (n:Int):ref05_Few p n=some (fewP p n):=by
 unfold ref05_Few fewP
 rw [cnt_all (fun j=>shortM (p.getD j ⟨0,[]⟩)) _ _ () (fun j u _ _=>by
  generalize p.getD j ⟨0,[]⟩=m
  unfold shortM
  by_cases h10:m.Vars.length≤10
  ·rw [decide_eq_false (show ¬ ((m.Vars.length:Nat):Int)>10 by omega),decide_eq_true h10]
   simp only [cond_false,Bool.true_and]
   generalize hbd:(fun (s241:Int)=>_:Int→Option (Stp Int Unit (Stp Unit Unit Bool)))=body
   have key:∀ (rest:List Str) (k fuel:Nat),m.Vars.drop k=rest→k+rest.length=m.Vars.length→rest.length<fuel→whl body fuel ((k:Nat):Int)=some (bif rest.all (fun v=>decide (v.length≤40)) then .brk () else .ret (.ret false)):=by
    intro rest
    induction rest with
    | nil =>
     intro k fuel h1 h2 h3
     obtain ⟨f,rfl⟩:∃ f,fuel=f+1:=⟨fuel-1,by simp at h3;omega⟩
     have e0:body ((k:Nat):Int)=some (.brk ()):=by
      rw [← hbd]
      simp only
      rw [decide_eq_false (by simp at h2;omega)];rfl
     simp only [whl,e0,bnd_some,stp]
     rfl
    | cons v rest ih =>
     intro k fuel h1 h2 h3
     obtain ⟨f,rfl⟩:∃ f,fuel=f+1:=⟨fuel-1,by simp at h3;omega⟩
     have hk:k<m.Vars.length:=by simp at h2;omega
     have h4:=drop_cons hk
     rw [h1] at h4
     have hv1:m.Vars.getD k []=v:=(List.cons.inj h4).1.symm
     have hv2:m.Vars.drop (k+1)=rest:=(List.cons.inj h4).2.symm
     have hw:w64 (((k:Nat):Int)+1)=((k+1:Nat):Int):=by rw [w64_same (by omega) (by omega)];omega
     have e0:body ((k:Nat):Int)=some (bif decide (v.length≤40) then .go ((k+1:Nat):Int) else .ret (.ret false)):=by
      rw [← hbd]
      simp only
      rw [decide_eq_true (by omega)]
      simp only [cond_true]
      rw [grd_pos (by omega),Int.toNat_natCast,hv1,hw]
      by_cases hv:v.length≤40
      ·rw [decide_eq_true hv,decide_eq_false (by omega)];rfl
      ·rw [decide_eq_false hv,decide_eq_true (by omega)];rfl
     simp only [whl,e0,bnd_some,List.all_cons]
     cases decide (v.length≤40) with
     | false=>rfl
     | true =>
      simp only [cond_true,Bool.true_and,stp]
      exact ih (k+1) f hv2 (by simp at h2;omega) (by simp at h3;omega)
   have hk0:whl body 4294967296 0=_:=key m.Vars 0 4294967296 (by rw [List.drop_zero]) (by omega) (by omega)
   rw [hk0]
   cases m.Vars.all (fun v=>decide (v.length≤40))<;>rfl
  ·rw [decide_eq_true (show ((m.Vars.length:Nat):Int)>10 by omega),decide_eq_false h10];rfl),aft_bif,all0 shortM ⟨0,[]⟩ p]
 cases p.all shortM<;>rfl
theorem few_Bd {p:List Monomial} {n:Int} (h:fewP p n=true) (hn:n≤1000):Bd p:=by
 unfold fewP at h
 rw [Bool.and_eq_true,List.all_eq_true,decide_eq_true_eq] at h
 refine ⟨by omega,fun m hm => ?_⟩
 have:=h.1 m hm
 unfold shortM at this
 rw [Bool.and_eq_true,List.all_eq_true,decide_eq_true_eq] at this
 exact ⟨by omega,fun v hv=>by have:=this.2 v hv;simp only [decide_eq_true_eq] at this;omega⟩
end Go.Proofs.YtjfpcjnopbfekaaGreatDoor
/- PLAIN LAWS of layer 5: what a collected sum gives, in whatever order its entries come. -/
namespace Go.Sh
theorem mr_err {V σ ε β:Type} {m:List (Str×V)} {body:Str×V→σ→Option (Stp σ ε β)} {K:σ→Prop} {J:β→Prop} (I:List Nat→σ→Prop) (ok:Str×V→Bool) (g:σ→Str×V→σ) (x:β) (hJ:J x)
 (hstep:∀ seen s i (h:i<m.length),seen.Nodup→i ∉ seen→(∀ j∈seen,j<m.length)→I seen s→body m[i] s=some (bif ok m[i] then .go (g s m[i]) else .ret x)∧I (seen++[i]) (g s m[i]))
 (hbad:∃ i,∃ h:i<m.length,ok m[i]=false) :
 ∀ (n:Nat) (seen:List Nat) (s:σ),seen.Nodup→(∀ i∈seen,i<m.length)→(∀ i∈seen,∀ h:i<m.length,ok m[i]=true)→n+seen.length=m.length→I seen s→MR m body K J n seen s
 | 0,seen,s,h1,h2,h4,h3,hI=>by
  obtain ⟨i,hi,hb⟩:=hbad
  have hin:i∈seen:=by
   refine Classical.byContradiction fun hn => ?_
   have:=nodup_le (i::seen) (List.range m.length) (List.nodup_cons.2 ⟨hn,h1⟩) (fun x hx=>by
    rcases List.mem_cons.1 hx with rfl | hx
    ·simpa using hi
    ·simpa using h2 x hx)
   simp at this;omega
  rw [h4 i hin hi] at hb
  cases hb
 | n+1,seen,s,h1,h2,h4,h3,hI=>by
  refine ⟨?_,fun i hi hn => ?_⟩
  ·refine Classical.byContradiction fun hn => ?_
   have:=nodup_le (List.range m.length) seen List.nodup_range (fun x hx=>Classical.byContradiction fun hx2=>hn ⟨x,by simpa using hx,hx2⟩)
   simp at this;omega
  ·obtain ⟨e1,e2⟩:=hstep seen s i hi h1 hn h2 hI
   refine ⟨_,e1,?_⟩
   cases hok:ok m[i] with
   | false=>exact hJ
   | true =>
    have hnd:(seen++[i]).Nodup:=by
     rw [List.nodup_append]
     exact ⟨h1,by simp,fun a ha b hb=>by
      have:b=i:=by simpa using hb
      subst this;intro e;subst e;exact hn ha⟩
    exact mr_err I ok g x hJ hstep hbad n (seen++[i]) _ hnd (fun j hj=>by
     rcases List.mem_append.1 hj with hj | hj
     ·exact h2 j hj
     ·have:j=i:=by simpa using hj
      subst this;exact hi) (fun j hj h=>by
     rcases List.mem_append.1 hj with hj | hj
     ·exact h4 j hj h
     ·have:j=i:=by simpa using hj
      subst this;exact hok) (by simp;omega) e2
theorem perm_range {seen:List Nat} {n:Nat} (h1:seen.Nodup) (h2:∀ i,i<n→i∈seen) (h3:∀ i∈seen,i<n):seen.Perm (List.range n) :=
 (List.perm_ext_iff_of_nodup h1 List.nodup_range).2 fun a=>⟨fun h=>List.mem_range.2 (h3 a h),fun h=>h2 a (List.mem_range.1 h)⟩
end Go.Sh
namespace Go.Proofs.YtjfpcjnopbfekaaGreatDoor
open Go.Ab Go.Sh Go.Sort
/-! ### sorting by keys that differ -/
section
variable {α:Type} (key:α→List Str)
def insM (x:α):List α→List α
 | []=>[x]
 | y::l=>bif decide (cmpL (key y) (key x)<0) then y::insM x l else x::y::l
def sortMI:List α→List α
 | []=>[]
 | x::l=>insM key x (sortMI l)
def ltM (a b:α):Prop:=cmpL (key a) (key b)<0
theorem insM_perm (x:α):∀ l,(insM key x l).Perm (x::l)
 | []=>List.Perm.refl _
 | y::l=>by
  unfold insM
  cases decide (cmpL (key y) (key x)<0) with
  | true=>exact ((insM_perm x l).cons y).trans (List.Perm.swap x y l)
  | false=>exact List.Perm.refl _
theorem sortMI_perm:∀ l,(sortMI key l).Perm l
 | []=>List.Perm.refl _
 | x::l=>(insM_perm key x _).trans ((sortMI_perm l).cons x)
theorem insM_sorted (x:α):∀ {l:List α},l.Pairwise (ltM key)→(∀ y∈l,key y≠key x)→(insM key x l).Pairwise (ltM key)
 | [],_,_=>by simp [insM]
 | y::l,h,hne=>by
  unfold insM
  rw [List.pairwise_cons] at h
  by_cases hlt:cmpL (key y) (key x)<0
  ·rw [decide_eq_true hlt]
   simp only [cond_true]
   rw [List.pairwise_cons]
   refine ⟨fun z hz => ?_,insM_sorted x h.2 fun z hz=>hne z (by simp [hz])⟩
   rcases List.mem_cons.1 ((insM_perm key x l).mem_iff.1 hz) with rfl | hz
   ·exact hlt
   ·exact h.1 z hz
  ·rw [decide_eq_false hlt]
   simp only [cond_false]
   have hxy:ltM key x y:=by
    have h0:cmpL (key y) (key x)≠0:=fun e=>hne y (by simp) (cmpL_zero e)
    exact cmpL_anti.2 (by omega)
   rw [List.pairwise_cons]
   refine ⟨fun z hz => ?_,List.pairwise_cons.2 h⟩
   rcases List.mem_cons.1 hz with rfl | hz
   ·exact hxy
   ·exact cmpL_trans hxy (h.1 z hz)
theorem sortMI_sorted:∀ {l:List α},(l.map key).Nodup→(sortMI key l).Pairwise (ltM key)
 | [],_=>by simp [sortMI]
 | x::l,h=>by
  rw [List.map_cons,List.nodup_cons] at h
  refine insM_sorted key x (sortMI_sorted h.2) fun y hy e=>h.1 ?_
  rw [← e]
  exact List.mem_map.2 ⟨y,(sortMI_perm key l).mem_iff.1 hy,rfl⟩
theorem ltM_asymm {a b:α} (h1:ltM key a b) (h2:ltM key b a):a=b:=by
 have:=cmpL_trans h1 h2
 rw [cmpL_self] at this
 omega
theorem sortM_uniq {a b:List α} (h1:a.Pairwise (ltM key)) (h2:b.Pairwise (ltM key)) (h:a.Perm b):a=b :=
 List.Perm.eq_of_pairwise (fun _ _ _ _=>ltM_asymm key) h1 h2 h
theorem sortF_eq {l:List α} (h:(l.map key).Nodup):sortF (fun x y=>cmpL (key x) (key y)) l=sortMI key l:=by
 refine sortM_uniq key ?_ (sortMI_sorted key h) ((List.mergeSort_perm l _).trans (sortMI_perm key l).symm)
 have hsw:=swo_pull cmpL_swo key
 have h1:(sortF (fun x y=>cmpL (key x) (key y)) l).Pairwise (fun a b => !(ltOf (fun x y=>cmpL (key x) (key y)) b a)):=by
  refine List.pairwise_mergeSort (fun a b c hab hbc => ?_) (fun a b => ?_) l
  ·simp only [Bool.not_eq_true'] at *
   exact hsw.ntrans _ _ _ hbc hab
  ·cases h2:ltOf (fun x y=>cmpL (key x) (key y)) b a with
   | false=>rfl
   | true =>
    cases h3:ltOf (fun x y=>cmpL (key x) (key y)) a b with
    | false=>rfl
    | true=>have:=hsw.trans _ _ _ h2 h3;rw [hsw.irrefl] at this;cases this
 have hnd:((sortF (fun x y=>cmpL (key x) (key y)) l).map key).Nodup:=((List.mergeSort_perm l _).map key).nodup_iff.2 h
 have h2:(sortF (fun x y=>cmpL (key x) (key y)) l).Pairwise (fun a b=>key a≠key b):=List.pairwise_map.1 hnd
 refine (h1.and h2).imp fun {a b} ⟨k1,k2⟩ => ?_
 have k3:¬ cmpL (key b) (key a)<0:=by simpa [ltOf] using k1
 have k4:cmpL (key b) (key a)≠0:=fun e=>k2 (cmpL_zero e).symm
 exact cmpL_anti.2 (by omega)
theorem sortMI_congr {a b:List α} (h:a.Perm b) (hb:(b.map key).Nodup):sortMI key a=sortMI key b :=
 sortM_uniq key (sortMI_sorted key ((h.map key).nodup_iff.2 hb)) (sortMI_sorted key hb) ((sortMI_perm key a).trans (h.trans (sortMI_perm key b).symm))
end
/-! ### the result of a sum -/
abbrev MV:=List (Str×List Str)
abbrev MI:=List (Str×List Int)
def entC (x1 x2:MI) (e:Str×List Str):Int×Int:=dotR (mget [] e.1 x1) (mget [] e.1 x2)
def entOk (x1 x2:MI) (e:Str×List Str):Bool:=(entC x1 x2 e).2==0
def mono1 (x1 x2:MI) (e:Str×List Str):List Monomial:=bif (entC x1 x2 e).1==0 then [] else [⟨(entC x1 x2 e).1,e.2⟩]
def outL (x0:MV) (x1 x2:MI):List Monomial:=(x0.map (mono1 x1 x2)).flatten
def resT (x0:MV) (x1 x2:MI):List Monomial×Int :=
 bif x0.all (entOk x1 x2) then (bif validP (sortMI Monomial.Vars (outL x0 x1 x2)) then (sortMI Monomial.Vars (outL x0 x1 x2),0) else ([],3)) else ([],3)
theorem mono1_vars {x1 x2:MI} {e:Str×List Str} {m:Monomial} (h:m∈mono1 x1 x2 e):m.Vars=e.2:=by
 unfold mono1 at h
 cases hz:(entC x1 x2 e).1==0 with
 | true=>rw [hz] at h;cases h
 | false=>rw [hz] at h;simp only [cond_false,List.mem_singleton] at h;rw [h]
theorem mono1_len (x1 x2:MI) (e:Str×List Str):(mono1 x1 x2 e).length≤1:=by
 unfold mono1
 cases (entC x1 x2 e).1==0<;>simp
theorem outL_keys (x1 x2:MI):∀ (x0:MV),(x0.map (·.2)).Nodup→((outL x0 x1 x2).map Monomial.Vars).Nodup
 | [],_=>by simp [outL]
 | e::x0,h=>by
  rw [List.map_cons,List.nodup_cons] at h
  have ih:=outL_keys x1 x2 x0 h.2
  unfold outL at *
  rw [List.map_cons,List.flatten_cons,List.map_append,List.nodup_append]
  refine ⟨?_,ih,?_⟩
  ·unfold mono1
   cases (entC x1 x2 e).1==0<;>simp
  ·rintro a ha b hb rfl
   obtain ⟨m,hm,rfl⟩:=List.mem_map.1 ha
   obtain ⟨m',hm',e2⟩:=List.mem_map.1 hb
   obtain ⟨l,hl,hml⟩:=List.mem_flatten.1 hm'
   obtain ⟨e',he',rfl⟩:=List.mem_map.1 hl
   rw [mono1_vars hm,mono1_vars hml] at e2
   exact h.1 (List.mem_map.2 ⟨e',he',e2⟩)
theorem outL_len (x1 x2:MI):∀ (x0:MV),(outL x0 x1 x2).length≤x0.length
 | []=>by simp [outL]
 | e::x0=>by
  have ih:=outL_len x1 x2 x0
  have h1:=mono1_len x1 x2 e
  unfold outL at *
  rw [List.map_cons,List.flatten_cons,List.length_append,List.length_cons]
  omega
def at0 (x0:MV) (i:Nat):Str×List Str:=x0.getD i ([],[])
theorem range_map (x0:MV):(List.range x0.length).map (at0 x0)=x0:=by
 refine List.ext_getElem (by simp) fun i h1 h2=>by simp [at0,List.getD_eq_getElem?_getD,h2]
theorem at0_eq {x0:MV} {i:Nat} (h:i<x0.length):at0 x0 i=x0[i]:=by simp [at0,List.getD_eq_getElem?_getD,h]
theorem result_eq (x0:MV) (x1 x2:MI) (h1:(x0.map (·.2)).Nodup) (hn:x0.length≤1000000) (hb:∀ e∈x0,e.2.length≤1000000∧∀ v∈e.2,v.length≤1000000):poly_sum_result x0 x1 x2=some (resT x0 x1 x2):=by
 unfold poly_sum_result resT
 have hbody:∀ (e:Str×List Str) (s:List Monomial),s.length≤1000000→((intmath_Dot (mget [] e.1 x1) (mget [] e.1 x2)).bind fun y109=>bif (y109.2==0) then (bif (y109.1==0) then (some (.go s):Option (Stp (List Monomial) Empty (List Monomial×Int))) else (grd ((s.length+1)*32≤140737488355328) <| some (.go (s++[(Monomial.mk y109.1 e.2)])))) else (some (.ret ([],3))))=some (bif entOk x1 x2 e then .go (s++mono1 x1 x2 e) else .ret ([],3)):=fun e s hs=>by
  rw [intmath_Dot_eq]
  simp only [bnd_some]
  unfold entOk mono1 entC
  generalize dotR (mget [] e.1 x1) (mget [] e.1 x2)=c
  cases c.2==0 with
  | false=>rfl
  | true =>
   cases c.1==0 with
   | true=>simp
   | false =>
    simp only [cond_true,cond_false]
    rw [grd_pos (by omega)]
 have hIlen:∀ (seen:List Nat),seen.Nodup→(∀ j∈seen,j<x0.length)→((seen.map fun i=>mono1 x1 x2 (at0 x0 i)).flatten).length≤1000000:=fun seen k1 k2=>by
  have h3:=nodup_le seen (List.range x0.length) k1 (fun x hx=>List.mem_range.2 (k2 x hx))
  rw [List.length_range] at h3
  have h4:∀ l:List Nat,((l.map fun i=>mono1 x1 x2 (at0 x0 i)).flatten).length≤l.length:=by
   intro l
   induction l with
   | nil=>simp
   | cons a l ih =>
    have:=mono1_len x1 x2 (at0 x0 a)
    rw [List.map_cons,List.flatten_cons,List.length_append,List.length_cons];omega
  have:=h4 seen
  omega
 cases hall:x0.all (entOk x1 x2) with
 | true =>
  simp only [cond_true]
  have hok:∀ i (h:i<x0.length),entOk x1 x2 x0[i]=true:=fun i h=>List.all_eq_true.1 hall _ (List.getElem_mem h)
  refine mrngK_eq (mr_go (fun seen s=>s=(seen.map fun i=>mono1 x1 x2 (at0 x0 i)).flatten) (fun s e=>s++mono1 x1 x2 e) (fun seen s i h k1 k2 k3 hI => ?_) (fun seen s k1 k2 k3 hI => ?_) x0.length [] [] List.nodup_nil (fun i hi=>by cases hi) (by simp) rfl)
  ·refine ⟨?_,?_⟩
   ·rw [hbody _ _ (by rw [hI];exact hIlen seen k1 k3),hok i h];rfl
   ·rw [hI,List.map_append,List.flatten_append];simp [at0_eq h]
  ·have hp:=((perm_range k1 k2 k3).map fun i=>mono1 x1 x2 (at0 x0 i)).flatten
   rw [← hI] at hp
   have e1:((List.range x0.length).map fun i=>mono1 x1 x2 (at0 x0 i)).flatten=outL x0 x1 x2:=by
    unfold outL
    conv=>rhs;rw [← range_map x0]
    rw [List.map_map];rfl
   rw [e1] at hp
   have hk:=outL_keys x1 x2 x0 h1
   have hs:lib_SortM (fun x=>x.Vars) s=some (sortMI Monomial.Vars (outL x0 x1 x2)):=by
    have hnd:=(hp.map Monomial.Vars).nodup_iff.2 hk
    have hlen:=hp.length_eq
    have hl2:=outL_len x1 x2 x0
    unfold lib_SortM
    rw [grd_pos ⟨by omega,hnd⟩]
    exact congrArg some ((sortF_eq Monomial.Vars hnd).trans (sortMI_congr Monomial.Vars hp hk))
   show ((lib_SortM (fun x=>x.Vars) s).bind fun y91=>(poly_Valid y91).bind fun y94=>bif y94 then some (y91,0) else some ([],3))=_
   rw [hs]
   simp only [bnd_some]
   have hBd:Bd (sortMI Monomial.Vars (outL x0 x1 x2)):=by
    refine ⟨?_,fun m hm => ?_⟩
    ·have:=(sortMI_perm Monomial.Vars (outL x0 x1 x2)).length_eq
     have hl2:=outL_len x1 x2 x0
     omega
    ·have hm:=(sortMI_perm Monomial.Vars (outL x0 x1 x2)).mem_iff.1 hm
     unfold outL at hm
     obtain ⟨l,hl,hml⟩:=List.mem_flatten.1 hm
     obtain ⟨e',he',rfl⟩:=List.mem_map.1 hl
     rw [mono1_vars hml]
     exact hb e' he'
   rw [poly_Valid_eq _ hBd]
   simp only [bnd_some]
   cases validP (sortMI Monomial.Vars (outL x0 x1 x2))<;>rfl
 | false =>
  have hbad:∃ i,∃ h:i<x0.length,entOk x1 x2 x0[i]=false:=by
   have:¬ (x0.all (entOk x1 x2)=true):=by rw [hall];simp
   rw [List.all_eq_true] at this
   refine Classical.byContradiction fun hn=>this fun e he => ?_
   obtain ⟨i,hi,rfl⟩:=List.getElem_of_mem he
   cases hq:entOk x1 x2 x0[i] with
   | true=>rfl
   | false=>exact absurd ⟨i,hi,hq⟩ hn
  rw [cond_false]
  refine mrngK_eq (mr_err (J:=fun x=>x=(([],3):List Monomial×Int)) (fun seen s=>s=(seen.map fun i=>mono1 x1 x2 (at0 x0 i)).flatten) (entOk x1 x2) (fun s e=>s++mono1 x1 x2 e) ([],3) rfl (fun seen s i h k1 k2 k3 hI => ?_) hbad x0.length [] [] List.nodup_nil (fun i hi=>by cases hi) (fun i hi=>by cases hi) (by simp) rfl)
  refine ⟨hbody _ _ (by rw [hI];exact hIlen seen k1 k3),?_⟩
  rw [hI,List.map_append,List.flatten_append];simp [at0_eq h]
end Go.Proofs.YtjfpcjnopbfekaaGreatDoor
/- PLAIN LAWS, of no program: maps of whatever values; texts that are joined. -/
namespace Go.Sh
open Go.Ab
/-! ### joined by stars -/
def jn:List Str→Str
 | []=>[]
 | [x]=>x
 | x::y::l=>x++42::jn (y::l)
theorem jn_join:∀ l:List Str,Lib.join l [42]=jn l
 | []=>rfl
 | [x]=>by simp [jn,Lib.join,List.intercalate]
 | x::y::l=>by
  have ih:=jn_join (y::l)
  simp only [jn,← ih]
  simp [Lib.join,List.intercalate,List.intersperse]
def nos (v:Str):Prop:=v≠[]∧(42:UInt8) ∉ v
end Go.Sh
/- PLAIN LAWS of layer 5: the examples of the document. -/
namespace Go.Proofs.YtjfpcjnopbfekaaGreatDoor
open Go.Ab Go.Sh Go.Sort
def lib_SortedT (xs:List Str):Option (List Str):=grd (xs.length*16≤140737488355328) <| some (sortI xs)
theorem sorted_tw:lib_SortedS=lib_SortedT:=funext fun xs=>by unfold lib_SortedS lib_SortedT;rw [sortS_eq]
def addT (x0:(List Str)) (x1:Int) (x2:Int) (x3:MV) (x4:MI) (x5:MI):Option (MV×MI×MI) :=
 (lib_ValuesS x0).bind fun y18 =>
 (lib_SortedT y18).bind fun y21 =>
 (lib_Join y21 [42]).bind fun y24 =>
 grd (((mget [] y24 x4).length+[x1].length)*8≤140737488355328) <|
 grd (((mget [] y24 x5).length+[x2].length)*8≤140737488355328) <|
 grd (x4.length+1<1000000) <|
 grd (x5.length+1<1000000) <|
 some ((mput y24 y21 x3),(mput y24 ((mget [] y24 x4)++[x1]) x4),(mput y24 ((mget [] y24 x5)++[x2]) x5))
theorem add_tw:poly_sum_add=addT:=by
 funext x0 x1 x2 x3 x4 x5
 unfold poly_sum_add addT
 rw [sorted_tw]
def preOf (x0:Linear):Option (MV×MI×MI) :=
 (linear_Valid x0).bind fun y1=>bif y1 then (
  (addT [] x0.Const 1 [] [] []).bind fun y11 =>
  (cnt (σ:=(MI×MI×MV)) (ε:=(MI×MI×MV)) (ρ:=Empty) (fun i37 s36 =>
   (addT [((x0.Terms.getD i37 ⟨[],0⟩).Var)] ((x0.Terms.getD i37 ⟨[],0⟩).C) 1 s36.2.2 s36.1 s36.2.1).bind fun y62 =>
   some (.go (y62.2.1,y62.2.2,y62.1))
  ) (fun i37 s36=>(s36.1,s36.2.1,s36.2.2)) (x0.Terms.length-0) 0 (y11.2.1,y11.2.2,y11.1)).bind <| aftE fun u70 =>
  some (u70.2.2,u70.1,u70.2.1)) else none
def goodM (x0:MV):Prop:=(x0.map (·.2)).Nodup∧x0.length≤1000000∧∀ e∈x0,e.2.length≤1000000∧∀ v∈e.2,v.length≤1000000
theorem Of_run {x0:Linear} {M:MV×MI×MI} (h:preOf x0=some M) (hg:goodM M.1):poly_Of x0=some (resT M.1 M.2.1 M.2.2):=by
 unfold preOf at h
 unfold poly_Of
 rw [add_tw]
 cases h1:linear_Valid x0 with
 | none=>rw [h1] at h;cases h
 | some b =>
  rw [h1] at h
  cases b with
  | false=>cases h
  | true =>
   simp only [Option.bind_some,cond_true] at h ⊢
   rw [show poly_newSum=some ([],[],[]) from rfl]
   simp only [Option.bind_some]
   cases h2:addT [] x0.Const 1 [] [] [] with
   | none=>rw [h2] at h;cases h
   | some y =>
    rw [h2] at h
    simp only [Option.bind_some] at h ⊢
    generalize cnt (σ:=(MI×MI×MV)) (ε:=(MI×MI×MV)) (ρ:=Empty) (fun i37 s36 =>
     (addT [((x0.Terms.getD i37 ⟨[],0⟩).Var)] ((x0.Terms.getD i37 ⟨[],0⟩).C) 1 s36.2.2 s36.1 s36.2.1).bind fun y62 =>
     some (.go (y62.2.1,y62.2.2,y62.1))
    ) (fun i37 s36=>(s36.1,s36.2.1,s36.2.2)) (x0.Terms.length-0) 0 (y.2.1,y.2.2,y.1)=o at h ⊢
    cases o with
    | none=>cases h
    | some o =>
     cases o with
     | ret e=>cases e
     | brk u =>
      have h:some (u.2.2,u.1,u.2.1)=some M:=h
      cases h
      show ((poly_sum_result u.2.2 u.1 u.2.1).bind fun y73=>some (y73.1,y73.2))=_
      rw [result_eq _ _ _ hg.1 hg.2.1 hg.2.2];rfl
def mulT1 (x0:Monomial) (x1:Monomial) (x2:MV) (x3:MI) (x4:MI):Option (MV×MI×MI) :=
 (lib_ConcatS [x0.Vars,x1.Vars]).bind fun y7=>(addT y7 x0.Coef x1.Coef x2 x3 x4).bind fun y10=>some (y10.1,y10.2.1,y10.2.2)
def pairsT (x0:(List Monomial)) (x1:(List Monomial)) (x2:MV) (x3:MI) (x4:MI):Option (MV×MI×MI) :=
 (cnt (σ:=(MV×MI×MI)) (ε:=(MV×MI×MI)) (ρ:=(MV×MI×MI)) (fun i303 s302 =>
  (cnt (σ:=(MV×MI×MI)) (ε:=(MV×MI×MI)) (ρ:=Empty) (fun i341 s340 =>
   (mulT1 (Monomial.mk ((x0.getD i303 ⟨0,[]⟩).Coef) ((x0.getD i303 ⟨0,[]⟩).Vars)) (Monomial.mk ((x1.getD i341 ⟨0,[]⟩).Coef) ((x1.getD i341 ⟨0,[]⟩).Vars)) s340.1 s340.2.1 s340.2.2).bind fun y366 =>
   some (.go (y366.1,y366.2.1,y366.2.2))
  ) (fun i341 s340=>(s340.1,s340.2.1,s340.2.2)) (x1.length-0) 0 (s302.1,s302.2.1,s302.2.2)).bind <| aftE fun u374 =>
  some (.go (u374.1,u374.2.1,u374.2.2))
 ) (fun i303 s302=>(s302.1,s302.2.1,s302.2.2)) (x0.length-0) 0 (x2,x3,x4)).bind <| Sh.aft some
theorem pairs_tw:poly_pairs_api_Monomial=pairsT:=by
 have h:poly_mul_1=mulT1:=by
  funext x0 x1 x2 x3 x4
  unfold poly_mul_1 mulT1
  rw [add_tw]
 funext x0 x1 x2 x3 x4
 unfold poly_pairs_api_Monomial pairsT
 rw [h]
theorem mul_run {a b:List Monomial} {M:MV×MI×MI} (h:pairsT a b [] [] []=some M) (hg:goodM M.1):poly_mul a b=some (resT M.1 M.2.1 M.2.2):=by
 unfold poly_mul
 rw [show poly_newSum=some ([],[],[]) from rfl]
 simp only [Option.bind_some]
 rw [pairs_tw,h]
 simp only [Option.bind_some]
 rw [result_eq _ _ _ hg.1 hg.2.1 hg.2.2];rfl
def exN:Linear:=Linear.mk (-1) [Coef.mk [110] 1]
def exP:Linear:=Linear.mk 1 [Coef.mk [110] 1]
theorem ex_ofN:preOf exN=some ([([],[]),([110],[[110]])],[([],[-1]),([110],[1])],[([],[1]),([110],[1])]):=by kernel_rfl
theorem ex_ofP:preOf exP=some ([([],[]),([110],[[110]])],[([],[1]),([110],[1])],[([],[1]),([110],[1])]):=by kernel_rfl
theorem good2:goodM [([],[]),([110],[[110]])]:=⟨by decide,by decide,by decide⟩
theorem ofN:poly_Of exN=some ([⟨-1,[]⟩,⟨1,[[110]]⟩],0):=by rw [Of_run ex_ofN good2];kernel_rfl
theorem ofP:poly_Of exP=some ([⟨1,[]⟩,⟨1,[[110]]⟩],0):=by rw [Of_run ex_ofP good2];kernel_rfl
theorem ex_mul1:pairsT [⟨1,[]⟩] [⟨-1,[]⟩,⟨1,[[110]]⟩] [] [] []=some ([([],[]),([110],[[110]])],[([],[1]),([110],[1])],[([],[-1]),([110],[1])]):=by kernel_rfl
theorem mul1:poly_mul [⟨1,[]⟩] [⟨-1,[]⟩,⟨1,[[110]]⟩]=some ([⟨-1,[]⟩,⟨1,[[110]]⟩],0):=by rw [mul_run ex_mul1 good2];kernel_rfl
theorem ex_mul2:pairsT [⟨-1,[]⟩,⟨1,[[110]]⟩] [⟨1,[]⟩,⟨1,[[110]]⟩] [] [] []=some ([([],[]),([110],[[110]]),([110,42,110],[[110],[110]])],[([],[-1]),([110],[-1,1]),([110,42,110],[1])],[([],[1]),([110],[1,1]),([110,42,110],[1])]):=by kernel_rfl
theorem good3:goodM [([],[]),([110],[[110]]),([110,42,110],[[110],[110]])]:=⟨by decide,by decide,by decide⟩
theorem mul2:poly_mul [⟨-1,[]⟩,⟨1,[[110]]⟩] [⟨1,[]⟩,⟨1,[[110]]⟩]=some ([⟨-1,[]⟩,⟨1,[[110],[110]]⟩],0):=by rw [mul_run ex_mul2 good3];kernel_rfl
theorem ex_Product:poly_Product [exN,exP]=some ([⟨-1,[]⟩,⟨1,[[110],[110]]⟩],0):=by
 unfold poly_Product
 simp only [List.length_cons,List.length_nil,Nat.zero_add,Nat.sub_zero,Nat.reduceAdd,cnt,List.getD_cons_zero,List.getD_cons_succ]
 rw [show (Linear.mk exN.Const exN.Terms)=exN from rfl,show (Linear.mk exP.Const exP.Terms)=exP from rfl,ofN,ofP]
 simp only [Option.bind_some,stp,Sh.aft,beq_self_eq_true,cond_true,List.nil_append]
 rw [grd_pos (by decide)]
 simp only [Option.bind_some,stp,Sh.aft,beq_self_eq_true,cond_true,List.nil_append,List.cons_append]
 rw [grd_pos (by decide)]
 simp only [Option.bind_some,stp,Sh.aft,List.length_cons,List.length_nil,Nat.zero_add,Nat.sub_zero,Nat.reduceAdd,cnt,List.getD_cons_zero,List.getD_cons_succ,mul1,beq_self_eq_true,cond_true]
 rw [mul2]
 simp only [Option.bind_some,stp,Sh.aft,beq_self_eq_true,cond_true]
theorem ex_Parse:poly_Parse [50,42,109,42,110,94,50]=some ([⟨2,[[109],[110],[110]]⟩],0):=by kernel_rfl
theorem ex_Eval:poly_Eval [⟨2,[[109],[110],[110]]⟩] [(Value.mk [109] 3),(Value.mk [110] (-1))]=some (6,0):=by kernel_rfl
theorem ex_Print:poly_Print [⟨-1,[]⟩,⟨1,[[110],[110]]⟩]=some [45,49,43,110,94,50]:=by kernel_rfl
theorem ex_Valid:poly_Valid [⟨2,[[109],[110],[110]]⟩]=some true:=by kernel_rfl
theorem ex_Degree:poly_Degree [⟨2,[[109],[110],[110]]⟩]=some 3:=by kernel_rfl
theorem law05_awake_true:law05_awake=some true:=by
 unfold law05_awake
 rw [show [(Linear.mk (-1) [(Coef.mk [110] 1)]),(Linear.mk 1 [(Coef.mk [110] 1)])]=[exN,exP] from rfl,ex_Product,ex_Parse]
 simp only [Option.bind_some]
 rw [ex_Eval]
 simp only [Option.bind_some]
 rw [ex_Print,ex_Valid,ex_Degree]
 rfl
end Go.Proofs.YtjfpcjnopbfekaaGreatDoor
/- PLAIN LAWS of layer 5: what is collected is the canonical form of a sum. -/
namespace Go.Proofs.YtjfpcjnopbfekaaGreatDoor
open Go.Ab Go.Sh Go.Sort
abbrev Ctr:=List Str×Int×Int
def asL (L:List Ctr) (V:List Str):List Int:=(L.filter fun c=>decide (c.1=V)).map fun c=>c.2.1
def bsL (L:List Ctr) (V:List Str):List Int:=(L.filter fun c=>decide (c.1=V)).map fun c=>c.2.2
def okV (V:List Str):Prop:=V.length≤1000∧∀ v∈V,nos v∧v.length≤1000
structure SumSt (L:List Ctr) (x3:MV) (x4 x5:MI):Prop where
 e1:∀ e∈x3,e.1=jn e.2∧∃ c∈L,c.1=e.2
 e2:∀ c∈L,(jn c.1,c.1)∈x3
 nd:(x3.map (·.1)).Nodup
 ma:∀ V,okV V→mget [] (jn V) x4=asL L V
 mb:∀ V,okV V→mget [] (jn V) x5=bsL L V
 l3:x3.length≤L.length
 l4:x4.length≤L.length
 l5:x5.length≤L.length
theorem SumSt.nil:SumSt [] [] [] []:=⟨fun e he=>(by cases he),fun c hc=>(by cases hc),by simp,fun V _=>rfl,fun V _=>rfl,by simp,by simp,by simp⟩
/-! ### the canonical form -/
structure IsCanon (f:List Str→Int) (p:List Monomial):Prop where
 st:p.Pairwise (ltM Monomial.Vars)
 mem:∀ m,m∈p↔(m.Coef≠0∧m.Coef=f m.Vars)
theorem ltM_nodup {p:List Monomial} (h:p.Pairwise (ltM Monomial.Vars)):p.Nodup:=h.imp fun {a b} hab e=>by
 subst e
 unfold ltM at hab
 rw [cmpL_self] at hab
 omega
theorem IsCanon.uniq {f:List Str→Int} {p q:List Monomial} (hp:IsCanon f p) (hq:IsCanon f q):p=q :=
 sortM_uniq Monomial.Vars hp.st hq.st ((List.perm_ext_iff_of_nodup (ltM_nodup hp.st) (ltM_nodup hq.st)).2 fun m=>by rw [hp.mem,hq.mem])
end Go.Proofs.YtjfpcjnopbfekaaGreatDoor
/- PLAIN LAWS of layer 5: products and sums of polynomials are canonical forms. -/
namespace Go.Proofs.YtjfpcjnopbfekaaGreatDoor
open Go.Ab Go.Sh Go.Sort
def okMo (m:Monomial):Prop:=(m.Vars.length≤400∧∀ v∈m.Vars,nos v∧v.length≤1000)∧inB m.Coef=true
def okP (p:List Monomial):Prop:=p.length≤60∧∀ m∈p,okMo m
theorem dig_no {l:Str} (h:l.all isDig=true):(42:UInt8) ∉ l:=fun hm=>by
 have:=List.all_eq_true.1 h _ hm
 revert this;decide
theorem name_nos {v:Str} (h:nameS v=true):nos v∧v.length≤30:=by
 cases v with
 | nil=>cases h
 | cons c r =>
  simp only [nameS] at h
  cases hc:c==95 with
  | true =>
   rw [hc] at h
   simp only [cond_true,Bool.and_eq_true,decide_eq_true_eq] at h
   have hc':c=95:=by simpa using hc
   refine ⟨⟨by simp,?_⟩,by simp;omega⟩
   rw [hc',List.mem_cons,not_or]
   exact ⟨by decide,dig_no h.2.2.2⟩
  | false =>
   rw [hc] at h
   simp only [cond_false,Bool.and_eq_true,decide_eq_true_eq] at h
   refine ⟨⟨by simp,?_⟩,by simp;omega⟩
   rw [List.mem_cons,not_or]
   refine ⟨fun e => ?_,fun hm => ?_⟩
   ·have:=h.2.1
    rw [← e] at this
    revert this;decide
   ·have:=List.all_eq_true.1 h.2.2 _ hm
    revert this;decide
theorem valid_okP {p:List Monomial} (h:validP p=true):okP p:=by
 refine ⟨?_,fun m hm => ?_⟩
 ·unfold validP at h
  rw [Bool.and_eq_true,decide_eq_true_eq] at h
  exact h.2
 ·have:=valid_coef h hm
  unfold okM at this
  simp only [Bool.and_eq_true,decide_eq_true_eq] at this
  obtain ⟨_,h1,h2,h3,_,h5⟩:=this
  refine ⟨⟨by omega,fun v hv => ?_⟩,inB_iff.2 (by omega)⟩
  have:=name_nos (List.all_eq_true.1 h5 v hv)
  exact ⟨this.1,by omega⟩
end Go.Proofs.YtjfpcjnopbfekaaGreatDoor
/- PLAIN LAWS of layer 5: the text of a polynomial. -/
namespace Go.Sh
def dec (n:Nat):Str:=Lib.decDigits n
theorem dec_small {n:Nat} (h:n<10):dec n=[UInt8.ofNat (48+n)]:=by unfold dec;rw [Lib.decDigits,dif_pos h]
theorem dec_big {n:Nat} (h:¬ n<10):dec n=dec (n / 10)++[UInt8.ofNat (48+n % 10)]:=by unfold dec;rw [Lib.decDigits,dif_neg h]
theorem dec_len (n:Nat) (h:n<10000000000000):(dec n).length≤21:=by
 have:=Lib.itoa_length_le (n:Int) (by omega) (by omega)
 rw [Lib.itoa_nonneg] at this;exact this
theorem dec_ne (n:Nat):dec n≠[]:=(dec_dig n).2.2
theorem foldl_go {α σ ε ρ:Type} (g:σ→α→σ):∀ (l:List α) (s:σ),loopL (ε:=σ) (ρ:=ρ) (fun x s=>Stp.go (g s x)) (fun s=>s) l s = .brk (l.foldl g s)
 | [],s=>rfl
 | x::l,s=>by simp only [loopL];rw [foldl_go (ε:=ε) g l];rfl
theorem place_eq {α:Type} (p:α→Bool) (d:α):∀ (l:List α) (i:Nat),((match (List.range' i (l.length-i)).find? (fun j=>p (l.getD j d)) with | some j=>j | none=>i+(l.length-i)):Nat)=(bif decide (i≤l.length) then i+((l.drop i).takeWhile (fun x => !p x)).length else i):=by
 intro l i
 by_cases h:i<l.length
 ·obtain ⟨k,hk⟩:∃ k,l.length-i=k+1:=⟨l.length-i-1,by omega⟩
  have ih:=place_eq p d l (i+1)
  rw [show l.length-(i+1)=k by omega,decide_eq_true (show i+1≤l.length by omega),cond_true] at ih
  rw [hk,List.range'_succ,List.find?_cons,List.drop_eq_getElem_cons h,decide_eq_true (by omega),cond_true]
  have hx:l.getD i d=l[i]:=by simp [List.getD_eq_getElem?_getD,List.getElem?_eq_getElem h]
  rw [hx,List.takeWhile_cons]
  cases hp:p l[i] with
  | true=>simp
  | false =>
   simp only [Bool.not_false,if_true,List.length_cons]
   rw [show i+(k+1)=i+1+k by omega,ih];omega
 ·rw [show l.length-i=0 by omega]
  simp only [List.range'_zero,List.find?_nil,Nat.add_zero]
  by_cases h2:i≤l.length
  ·rw [decide_eq_true h2,cond_true,List.drop_eq_nil_of_le (by omega)];simp
  ·rw [decide_eq_false h2,cond_false]
 termination_by l i=>l.length-i
theorem take_takeWhile {α:Type} (p:α→Bool):∀ l:List α,l.take (l.takeWhile p).length=l.takeWhile p
 | []=>rfl
 | x::l=>by
  rw [List.takeWhile_cons]
  cases p x
  ·rfl
  ·simp only [if_true,List.length_cons,List.take_succ_cons];rw [take_takeWhile p l]
theorem drop_takeWhile {α:Type} (p:α→Bool):∀ l:List α,l.drop (l.takeWhile p).length=l.dropWhile p
 | []=>rfl
 | x::l=>by
  rw [List.takeWhile_cons,List.dropWhile_cons]
  cases p x
  ·rfl
  ·simp only [if_true,List.length_cons,List.drop_succ_cons];exact drop_takeWhile p l
theorem takeWhile_le {α:Type} (p:α→Bool) (l:List α):(l.takeWhile p).length≤l.length:=(List.takeWhile_sublist p).length_le
theorem dropWhile_le' {α:Type} (p:α→Bool) (l:List α):(l.dropWhile p).length≤l.length:=(List.dropWhile_sublist p).length_le
theorem takeWhile_all {α:Type} (p:α→Bool):∀ (a b:List α),a.all p=true→(∀ x,b.head? = some x→p x=false)→(a++b).takeWhile p=a∧(a++b).dropWhile p=b
 | [],[],_,_=>⟨rfl,rfl⟩
 | [],x::b,_,h=>by simp [List.takeWhile_cons,List.dropWhile_cons,h x rfl]
 | x::a,b,h,h2=>by
  simp only [List.all_cons,Bool.and_eq_true] at h
  obtain ⟨e1,e2⟩:=takeWhile_all p a b h.2 h2
  simp only [List.cons_append,List.takeWhile_cons,List.dropWhile_cons,h.1,if_true,e1,e2]
  exact ⟨trivial,trivial⟩
theorem dec_len_le:∀ (k a:Nat),a<10 ^ (k+1)→(dec a).length≤k+1
 | k,a,h=>by
  by_cases h10:a<10
  ·rw [dec_small h10];simp
  ·cases k with
   | zero=>simp at h;omega
   | succ k =>
    rw [dec_big h10]
    have hp:10 ^ (k+1+1)=10*10 ^ (k+1):=by rw [Nat.pow_succ];omega
    have:=dec_len_le k (a / 10) (by rw [hp] at h;omega)
    simp only [List.length_append,List.length_cons,List.length_nil];omega
theorem dec_valD (a:Nat):valD 0 (dec a)=a:=by
 induction a using Nat.strongRecOn with
 | _ a ih =>
  by_cases h:a<10
  ·rw [dec_small h]
   simp only [valD,List.foldl_cons,List.foldl_nil]
   rw [UInt8.toNat_ofNat_of_lt' (show _<256 by omega)];omega
  ·rw [dec_big h,valD_snoc,ih (a / 10) (by omega),UInt8.toNat_ofNat_of_lt' (show _<256 by omega)];omega
theorem isEmpty_false {α:Type} {s:List α} (h:s≠[]):s.isEmpty=false:=by
 cases s with
 | nil=>exact absurd rfl h
 | cons=>rfl
end Go.Sh
namespace Go.Proofs.YtjfpcjnopbfekaaGreatDoor
open Go.Ab Go.Sh
def runs:List Str→List (Str×Nat)
 | []=>[]
 | v::V=>(v,1+(V.takeWhile (· == v)).length)::runs (V.dropWhile (· == v))
termination_by V=>V.length
decreasing_by
 have:=dropWhile_le' (· == v) V
 simp only [List.length_cons];omega
def rt (e:Str×Nat):Str:=e.1++(bif decide (1<e.2) then 94::dec e.2 else [])
def numP (c:Nat) (V:List Str):List Str:=bif (c==1 && !V.isEmpty) then [] else [dec c]
def monoP (c:Nat) (V:List Str):List Str:=numP c V++(runs V).map rt
def monoT (c:Nat) (V:List Str):Str:=jn (monoP c V)
theorem runs_len:∀ (n:Nat) (V:List Str),V.length≤n→(runs V).length≤V.length∧∀ e∈runs V,e.1∈V∧1≤e.2∧e.2≤V.length
 | _,[],_=>by rw [runs];exact ⟨by simp,fun e he=>by cases he⟩
 | 0,v::V,h=>by simp at h
 | n+1,v::V,h=>by
  have h1:=dropWhile_le' (· == v) V
  have h2:=takeWhile_le (· == v) V
  simp only [List.length_cons] at h
  obtain ⟨h3,h4⟩:=runs_len n (V.dropWhile (· == v)) (by omega)
  rw [runs]
  refine ⟨by simp only [List.length_cons];omega,fun e he => ?_⟩
  rcases List.mem_cons.1 he with rfl | he
  ·exact ⟨by simp,by simp only;omega,by simp only [List.length_cons];omega⟩
  ·obtain ⟨k1,k2,k3⟩:=h4 e he
   refine ⟨List.mem_cons_of_mem _ ((List.dropWhile_sublist _).subset k1),k2,?_⟩
   simp only [List.length_cons];omega
theorem runs_ne {V:List Str} (h:V≠[]):runs V≠[]:=by
 cases V with
 | nil=>exact absurd rfl h
 | cons v V=>rw [runs];simp
theorem lib_Itoa_nat (n:Nat) (h:n<10000000000000):lib_Itoa (n:Int)=some (dec n):=by
 unfold lib_Itoa
 have:=dec_len n h
 rw [Lib.itoa_nonneg]
 have e:Lib.decDigits n=dec n:=rfl
 rw [e,grd_pos (by refine ⟨by omega,by omega,by omega⟩)]
theorem rt_len {e:Str×Nat} {k:Nat} (h1:e.1.length≤k) (h2:e.2≤1000):(rt e).length≤k+22:=by
 unfold rt
 have:=dec_len e.2 (by omega)
 cases decide (1<e.2)<;>simp<;>omega
theorem run_place (V:List Str) (k:Nat) (hk:k<V.length):(cnt (σ:=Unit) (ε:=Nat) (ρ:=Empty) (fun i350 s349 =>
 bif ((V.getD i350 [])==(V.getD k [])) then (
  some (.go ())
 ) else (
  some (.brk i350)
 )
 ) (fun i350 s349=>i350) (V.length-k) k ())=some (.brk (k+(1+((V.drop (k+1)).takeWhile (· == V.getD k [])).length))):=by
 rw [cnt_place (fun j => !((V.getD j [])==(V.getD k []))) (V.length-k) k () (fun j u _ _=>by cases (V.getD j [])==(V.getD k [])<;>rfl)]
 refine congrArg (fun x=>some (Out.brk x)) ((place_eq (fun x => !(x==V.getD k [])) [] V k).trans ?_)
 rw [decide_eq_true (by omega),cond_true,List.drop_eq_getElem_cons hk,List.takeWhile_cons]
 have hx:V.getD k []=V[k]:=by simp [List.getD_eq_getElem?_getD,List.getElem?_eq_getElem hk]
 have hs:(V[k]==V.getD k [])=true:=by rw [hx];exact beq_self_eq_true _
 simp only [Bool.not_not,hs,if_true,List.length_cons]
 omega
theorem drop_runs (V:List Str) (k:Nat) (hk:k<V.length):runs (V.drop k)=(V.getD k [],1+((V.drop (k+1)).takeWhile (· == V.getD k [])).length)::runs (V.drop (k+(1+((V.drop (k+1)).takeWhile (· == V.getD k [])).length))):=by
 have hx:V.getD k []=V[k]:=by simp [List.getD_eq_getElem?_getD,List.getElem?_eq_getElem hk]
 rw [List.drop_eq_getElem_cons hk,runs,← hx]
 congr 2
 have e:=drop_takeWhile (· == V.getD k []) (V.drop (k+1))
 rw [List.drop_drop] at e
 rw [← e]
 congr 1;omega
theorem mono_loop (V:List Str) (hV:V.length≤100) (hv:∀ v∈V,v.length≤1000):∀ (n k N:Nat) (acc:List Str),V.length-k≤n→n<N→k≤V.length→acc.length≤k+1 →
 (whl (σ:=((List Str)×Nat)) (ε:=(List Str)) (ρ:=Empty) (fun s216 =>
 bif decide (((s216.2:Nat):Int)<((V.length:Nat):Int)) then (
  (cnt (σ:=Unit) (ε:=Nat) (ρ:=Empty) (fun i350 s349 =>
   bif ((V.getD i350 [])==(V.getD s216.2 [])) then (
    some (.go ())
   ) else (
    some (.brk i350)
   )
  ) (fun i350 s349=>i350) (V.length-s216.2) s216.2 ()).bind <| aftE fun u391 =>
  ((
   bif decide ((w64 (((u391:Nat):Int)-((s216.2:Nat):Int)))>1) then (
    (lib_Itoa (w64 (((u391:Nat):Int)-((s216.2:Nat):Int)))).bind fun y415 =>
    grd ([94].length+y415.length≤9223372036854775807) <|
    grd ((V.getD s216.2 []).length+([94]++y415).length≤9223372036854775807) <|
    some ((V.getD s216.2 [])++([94]++y415))
   ) else (
    some (V.getD s216.2 [])
   )
  ):Option Str).bind fun v408 =>
  grd ((s216.1.length+1)*16≤140737488355328) <|
  some (.go ((s216.1++[v408]),u391))
 ) else (
  some (.brk s216.1)
 )
 ) N (acc,k))=some (.brk (acc++(runs (V.drop k)).map rt)):=by
 intro n
 induction n with
 | zero =>
  intro k N acc h1 h2 h3 h4
  obtain ⟨M,rfl⟩:∃ M,N=M+1:=⟨N-1,by omega⟩
  simp only [whl]
  rw [decide_eq_false (by omega),List.drop_eq_nil_of_le (by omega),runs]
  simp only [cond_false,bnd_some,stp,List.map_nil,List.append_nil]
 | succ n ih =>
  intro k N acc h1 h2 h3 h4
  obtain ⟨M,rfl⟩:∃ M,N=M+1:=⟨N-1,by omega⟩
  by_cases hk:k<V.length
  ·have hr:=drop_runs V k hk
   have hp:=run_place V k hk
   have hle:=takeWhile_le (· == V.getD k []) (V.drop (k+1))
   rw [List.length_drop] at hle
   have hvk:(V.getD k []).length≤1000:=by
    have:V.getD k []=V[k]:=by simp [List.getD_eq_getElem?_getD,List.getElem?_eq_getElem hk]
    rw [this];exact hv _ (List.getElem_mem _)
   generalize ((V.drop (k+1)).takeWhile (· == V.getD k [])).length=q at hr hp hle
   have ih2:=ih (k+(1+q)) M (acc++[rt (V.getD k [],1+q)]) (by omega) (by omega) (by omega) (by simp;omega)
   have hw:w64 (((k+(1+q):Nat):Int)-((k:Nat):Int))=((1+q:Nat):Int):=by rw [w64_same (by omega) (by omega)];omega
   have hd:=dec_len (1+q) (by omega)
   simp only [whl]
   rw [decide_eq_true (by omega)]
   simp only [cond_true]
   rw [hp]
   simp only [bnd_some,aftE]
   rw [hw,hr,List.map_cons]
   have hpart:((
    bif decide (((1+q:Nat):Int)>1) then (
     (lib_Itoa ((1+q:Nat):Int)).bind fun y415 =>
     grd ([94].length+y415.length≤9223372036854775807) <|
     grd ((V.getD k []).length+([94]++y415).length≤9223372036854775807) <|
     some ((V.getD k [])++([94]++y415))
    ) else (
     some (V.getD k [])
    )
   ):Option Str)=some (rt (V.getD k [],1+q)):=by
    unfold rt
    by_cases h1q:1<1+q
    ·rw [decide_eq_true (show ((1+q:Nat):Int)>1 by omega),decide_eq_true h1q,lib_Itoa_nat _ (by omega)]
     simp only [cond_true,bnd_some]
     rw [grd_pos (by simp only [List.length_cons,List.length_nil];omega),grd_pos (by simp only [List.length_append,List.length_cons,List.length_nil];omega)]
     rfl
    ·rw [decide_eq_false (show ¬ ((1+q:Nat):Int)>1 by omega),decide_eq_false h1q]
     simp
   rw [hpart]
   simp only [bnd_some]
   rw [grd_pos (by omega)]
   refine ih2.trans ?_
   simp
  ·simp only [whl]
   rw [decide_eq_false (by omega),List.drop_eq_nil_of_le (by omega),runs]
   simp only [cond_false,bnd_some,stp,List.map_nil,List.append_nil]
theorem jn_len2:∀ {l:List Str} {k:Nat},(∀ v∈l,v.length≤k)→(jn l).length≤l.length*(k+1)
 | [],_,_=>by simp [jn]
 | [x],k,h=>by
  have:=h x (by simp)
  simp only [jn,List.length_cons,List.length_nil];omega
 | x::y::l,k,h=>by
  have ih:=jn_len2 (l:=y::l) (k:=k) (fun v hv=>h v (by simp at hv ⊢;exact .inr hv))
  have:=h x (by simp)
  simp only [jn,List.length_append,List.length_cons] at ih ⊢
  have e:(l.length+1+1)*(k+1)=(l.length+1)*(k+1)+(k+1):=by rw [Nat.add_mul (l.length+1) 1];omega
  omega
theorem monoP_len {c:Nat} {V:List Str} (hc:c<10000000000000) (hV:V.length≤100) (hv:∀ v∈V,v.length≤1000):(monoP c V).length≤V.length+1∧∀ p∈monoP c V,p.length≤1022:=by
 obtain ⟨h1,h2⟩:=runs_len V.length V (Nat.le_refl _)
 have hd:=dec_len c hc
 unfold monoP numP
 constructor
 ·rw [List.length_append,List.length_map]
  cases (c==1 && !V.isEmpty)<;>simp<;>omega
 ·intro p hp
  rcases List.mem_append.1 hp with hp | hp
  ·cases hb:(c==1 && !V.isEmpty)<;>rw [hb] at hp
   ·have:p=dec c:=by simpa using hp
    rw [this];omega
   ·cases hp
  ·obtain ⟨e,he,rfl⟩:=List.mem_map.1 hp
   obtain ⟨k1,k2,k3⟩:=h2 e he
   exact rt_len (hv _ k1) (by omega)
theorem monoT_len {c:Nat} {V:List Str} (hc:c<10000000000000) (hV:V.length≤100) (hv:∀ v∈V,v.length≤1000):(monoT c V).length≤110000:=by
 obtain ⟨h1,h2⟩:=monoP_len hc hV hv
 have:=jn_len2 h2
 unfold monoT
 have:(monoP c V).length*1023≤101*1023:=Nat.mul_le_mul_right _ (by omega)
 omega
theorem poly_monomial_eq (m:Monomial) (hc:m.Coef.natAbs≤1099511627776) (hV:m.Vars.length≤100) (hv:∀ v∈m.Vars,v.length≤1000):poly_monomial m=some (monoT m.Coef.natAbs m.Vars):=by
 obtain ⟨C,V⟩:=m
 simp only at hc hV hv ⊢
 unfold poly_monomial
 simp only
 have e:(if (w64 (0-C))>C then (w64 (0-C)) else C)=((C.natAbs:Nat):Int):=by
  rw [w64_same (by omega) (by omega)]
  split<;>omega
 rw [e]
 generalize C.natAbs=c at hc
 have h1:((bif (((c:Nat):Int)==1) then (some (((V.length:Nat):Int)==0)) else (some true)):Option Bool)=some (!(c==1 && !V.isEmpty)):=by
  rw [len_beq0]
  have:(((c:Nat):Int)==1)=(c==1):=by
   rw [Bool.eq_iff_iff,beq_iff_eq,beq_iff_eq];omega
  rw [this]
  cases c==1<;>simp
 rw [h1]
 simp only [bnd_some]
 have h2:((
  bif !(c==1 && !V.isEmpty) then (
   (lib_Itoa ((c:Nat):Int)).bind fun y23 =>
   some [y23]
  ) else (
   some []
  )
 ):Option (List Str))=some (numP c V):=by
  unfold numP
  cases (c==1 && !V.isEmpty)
  ·simp only [Bool.not_false,cond_true,cond_false]
   rw [lib_Itoa_nat c (by omega)];rfl
  ·rfl
 rw [h2]
 simp only [bnd_some]
 rw [mono_loop V hV hv V.length 0 4294967296 (numP c V) (by omega) (by omega) (by omega) (by unfold numP;cases (c==1 && !V.isEmpty)<;>simp)]
 simp only [bnd_some,aftE,List.drop_zero]
 have hl:=monoT_len (c:=c) (by omega) hV hv
 have hl2:=(monoP_len (c:=c) (by omega) hV hv).1
 unfold lib_Join
 have em:numP c V++(runs V).map rt=monoP c V:=rfl
 rw [em,jn_join,grd_pos (show (jn (monoP c V)).length≤140737488355328∧(monoP c V).length≤140737488355328 from ⟨by unfold monoT at hl;omega,by omega⟩)]
 rfl
end Go.Proofs.YtjfpcjnopbfekaaGreatDoor
/- PLAIN LAWS of layer 5: the degree of a product. -/
namespace Go.Proofs.YtjfpcjnopbfekaaGreatDoor
open Go.Ab Go.Sh Go.Sort
theorem valid_step {p:List Monomial} (h:validP p=true) {j:Nat} (hj:j<p.length):stepOk p j=true:=by
 unfold validP at h
 rw [Bool.and_eq_true,List.all_eq_true] at h
 exact h.1 j (by rw [List.mem_range'_1];omega)
theorem monoAt_eq {p:List Monomial} {j:Nat} (hj:j<p.length):monoAt p j=p[j]:=by unfold monoAt;rw [List.getD_eq_getElem?_getD,List.getElem?_eq_getElem hj];rfl
/-! ### weights -/
/-! ### degrees -/
end Go.Proofs.YtjfpcjnopbfekaaGreatDoor
/- PLAIN LAWS of layer 5: both print the same text. -/
namespace Go.Proofs.YtjfpcjnopbfekaaGreatDoor
open Go.Ab Go.Sh
theorem itoa_dig (u:Nat) (h:u<10):(([48,49,50,51,52,53,54,55,56,57].drop u).take (u+1-u):Str)=[UInt8.ofNat (48+u)]:=by
 match u,h with
 | 0,_=>rfl
 | 1,_=>rfl
 | 2,_=>rfl
 | 3,_=>rfl
 | 4,_=>rfl
 | 5,_=>rfl
 | 6,_=>rfl
 | 7,_=>rfl
 | 8,_=>rfl
 | 9,_=>rfl
theorem ref04_Itoa_nat:∀ (f u:Nat),u<10 ^ (f+1)→u<10000000000000→ref04_Itoa (f+1) (u:Int)=some (dec u)
 | f,u,h,hu=>by
  show ref04_Itoa_b (ref04_Itoa f) (u:Int)=_
  unfold ref04_Itoa_b
  rw [decide_eq_false (by omega),cond_false]
  by_cases h10:u<10
  ·rw [decide_eq_true (by omega),cond_true,w64_id (by unfold I64;omega),dec_small h10]
   rw [grd_pos (by refine ⟨by omega,by omega,?_⟩;simp;omega)]
   have e1:((u:Int)).toNat=u:=by omega
   have e2:((u:Int)+1).toNat=u+1:=by omega
   rw [e1,e2,itoa_dig u h10]
  ·rw [decide_eq_false (by omega),cond_false]
   have e1:(u:Int).tdiv 10=((u / 10:Nat):Int):=by rw [Int.tdiv_eq_ediv_of_nonneg (by omega)];omega
   have e2:(u:Int).tmod 10=((u % 10:Nat):Int):=by rw [Int.tmod_eq_emod_of_nonneg (by omega)];omega
   rw [e1,e2,w64_id (by unfold I64;omega)]
   obtain ⟨f',rfl⟩:∃ f',f=f'+1:=by
    cases f with
    | zero=>simp at h;omega
    | succ f'=>exact ⟨f',rfl⟩
   have hp:10 ^ (f'+1+1)=10*10 ^ (f'+1):=by rw [Nat.pow_succ];omega
   rw [ref04_Itoa_nat f' (u / 10) (by rw [hp] at h;omega) (by omega)]
   rw [ref04_Itoa_nat f' (u % 10) (by
    have:10 ^ 1≤10 ^ (f'+1):=Nat.pow_le_pow_right (by decide) (by omega)
    omega) (by omega)]
   simp only [Option.bind_some]
   have l1:=dec_len (u / 10) (by omega)
   have l2:=dec_len (u % 10) (by omega)
   rw [grd_pos (by omega),dec_big h10,dec_small (Nat.mod_lt _ (by decide))]
def sgP (first:Bool) (C:Int):Str:=bif decide (C<0) then [45] else bif first then [] else [43]
def monoS (first:Bool) (m:Monomial):Str:=sgP first m.Coef++monoT m.Coef.natAbs m.Vars
def polyS:Bool→List Monomial→Str
 | _,[]=>[]
 | f,m::p=>monoS f m++polyS false p
def prt (p:List Monomial):Str:=bif p.isEmpty then [48] else polyS true p
theorem jn_ne {l:List Str} (h:∀ v∈l,v≠[]) (hl:l≠[]):jn l≠[]:=by
 match l,hl with
 | [x],_=>exact h x (by simp)
 | x::y::l,_=>simp [jn,h x (by simp)]
theorem name_ne {s:Str} (h:nameS s=true):s≠[]:=by
 intro e;subst e;cases h
theorem monoP_ne {c:Nat} {V:List Str} (hv:∀ v∈V,v≠[]):(∀ p∈monoP c V,p≠[])∧monoP c V≠[]:=by
 constructor
 ·intro p hp
  unfold monoP numP at hp
  rcases List.mem_append.1 hp with hp | hp
  ·cases hb:(c==1 && !V.isEmpty)<;>rw [hb] at hp
   ·have:p=dec c:=by simpa using hp
    rw [this];exact dec_ne c
   ·cases hp
  ·obtain ⟨e,he,rfl⟩:=List.mem_map.1 hp
   have:=hv _ ((runs_len V.length V (Nat.le_refl _)).2 e he).1
   unfold rt;simp [this]
 ·unfold monoP numP
  cases hb:(c==1 && !V.isEmpty) with
  | false=>simp
  | true =>
   have:V≠[]:=by intro e;subst e;simp at hb
   simp [runs_ne this]
theorem monoT_ne {c:Nat} {V:List Str} (hv:∀ v∈V,v≠[]):monoT c V≠[]:=jn_ne (monoP_ne hv).1 (monoP_ne hv).2
theorem valid_okM {p:List Monomial} (h:validP p=true) {m:Monomial} (hm:m∈p):okM m=true:=by
 obtain ⟨j,hj,rfl⟩:=List.mem_iff_getElem.1 hm
 have:=valid_step h hj
 unfold stepOk at this
 rw [monoAt_eq hj] at this
 simp only [Bool.and_eq_true] at this
 exact this.1
theorem okM_of {m:Monomial} (h:okM m=true):(m.Coef.natAbs≤1099511627776∧m.Coef≠0)∧m.Vars.length≤8∧∀ v∈m.Vars,nameS v=true∧v.length≤30:=by
 simp only [okM,Bool.and_eq_true,decide_eq_true_eq,Bool.not_eq_true',beq_eq_false_iff_ne] at h
 refine ⟨⟨by omega,h.1⟩,h.2.2.2.1,fun v hv => ?_⟩
 have:=List.all_eq_true.1 h.2.2.2.2.2 v hv
 exact ⟨this,(name_nos this).2⟩
theorem fold_polyS:∀ (p:List Monomial) (s:Str),(∀ m∈p,okM m=true)→p.foldl (fun s m=>s++monoS s.isEmpty m) s=s++polyS s.isEmpty p
 | [],s,_=>by simp [polyS]
 | m::p,s,h=>by
  rw [List.foldl_cons,fold_polyS p _ (fun x hx=>h x (by simp [hx]))]
  have hne:(s++monoS s.isEmpty m).isEmpty=false:=by
   have:=monoT_ne (c:=m.Coef.natAbs) (V:=m.Vars) (fun v hv=>name_ne ((okM_of (h m (by simp))).2.2 v hv).1)
   refine isEmpty_false ?_
   unfold monoS;simp [this]
  rw [hne]
  simp only [polyS,List.append_assoc]
theorem monoS_len {f:Bool} {m:Monomial} (h:okM m=true):(monoS f m).length≤110001:=by
 obtain ⟨h1,h2,h3⟩:=okM_of h
 have:=monoT_len (c:=m.Coef.natAbs) (V:=m.Vars) (by omega) (by omega) (fun v hv=>by have:=(h3 v hv).2;omega)
 unfold monoS sgP
 rw [List.length_append]
 cases decide (m.Coef<0)<;>cases f<;>simp<;>omega
theorem mem_getD {α:Type} (d:α) {l:List α} {j:Nat} (h:j<l.length):l.getD j d∈l:=by
 rw [List.getD_eq_getElem?_getD,List.getElem?_eq_getElem h];exact List.getElem_mem _
theorem nil_beq {α:Type} [BEq α] [LawfulBEq α] (s:List α):(s==[])=s.isEmpty:=by cases s<;>rfl
theorem poly_Print_eq (p:List Monomial) (hB:Bd p):poly_Print p=some (bif validP p then prt p else []):=by
 unfold poly_Print
 rw [poly_Valid_eq p hB]
 simp only [bnd_some]
 cases hv:validP p with
 | false=>rfl
 | true =>
  simp only [cond_true]
  have h60:=(valid_okP hv).1
  have hok:∀ m∈p,okM m=true:=fun m hm=>valid_okM hv hm
  rw [cnt_list0 (fin:=fun _ s=>s) (f:=fun s=>s) ⟨0,[]⟩ p (fun m s=>Stp.go (s++monoS s.isEmpty m)) (fun j s=>s.length≤110001*j) (fun _ _=>rfl) [] (by simp) (fun j s hj hI=>by
   have hm:=hok _ (mem_getD ⟨0,[]⟩ hj)
   obtain ⟨h1,h2,h3⟩:=okM_of hm
   have hlen:=monoS_len (f:=s.isEmpty) hm
   have hpm:=poly_monomial_eq (p.getD j ⟨0,[]⟩) h1.1 (by omega) (fun v hv=>by have:=(h3 v hv).2;omega)
   generalize p.getD j ⟨0,[]⟩=m at hm h1 h2 h3 hlen hpm ⊢
   have hs:s.length≤110001*60:=Nat.le_trans hI (Nat.mul_le_mul_left _ (by omega))
   refine ⟨?_,fun s' e => ?_⟩
   ·have e1:((
     bif decide (m.Coef<0) then (
      grd (s.length+[45].length≤9223372036854775807) <|
      some (s++[45])
     ) else (
      bif (s==[]) then (
       some s
      ) else (
       grd (s.length+[43].length≤9223372036854775807) <|
       some (s++[43])
      )
     )
    ):Option Str)=some (s++sgP s.isEmpty m.Coef):=by
     rw [grd_pos (by simp only [List.length_cons,List.length_nil];omega),grd_pos (by simp only [List.length_cons,List.length_nil];omega),nil_beq]
     unfold sgP
     cases decide (m.Coef<0)
     ·cases s.isEmpty<;>simp
     ·simp
    rw [e1]
    simp only [bnd_some]
    rw [hpm]
    simp only [bnd_some]
    unfold monoS at hlen ⊢
    rw [grd_pos (by simp only [List.length_append] at hlen ⊢;omega),List.append_assoc]
   ·injection e with e
    subst e
    rw [List.length_append];omega)]
  rw [foldl_go (ε:=Str) (fun s m=>s++monoS s.isEmpty m),fold_polyS p [] hok]
  simp only [bnd_some,aftE,List.nil_append,List.isEmpty_nil]
  rw [nil_beq]
  unfold prt
  cases p with
  | nil=>rfl
  | cons m p =>
   have:=monoT_ne (c:=m.Coef.natAbs) (V:=m.Vars) (fun v hv=>name_ne ((okM_of (hok m (by simp))).2.2 v hv).1)
   have e:(polyS true (m::p)).isEmpty=false:=isEmpty_false (by simp [polyS,monoS,this])
   rw [e];rfl
/-! ### the reference -/
def starJ (s x:Str):Str:=(bif s.isEmpty then s else s++[42])++x
theorem jn_snoc (x:Str):∀ (l:List Str),(∀ v∈l,v≠[])→jn (l++[x])=starJ (jn l) x
 | [],_=>rfl
 | [y],h=>by
  have:=isEmpty_false (h y (by simp))
  simp [jn,starJ,this]
 | y::z::l,h=>by
  have ih:=jn_snoc x (z::l) (fun v hv=>h v (by simp at hv ⊢;exact .inr hv))
  have hne:=jn_ne (l:=z::l) (fun v hv=>h v (by simp at hv ⊢;exact .inr hv)) (by simp)
  have e1:jn (y::z::l++[x])=y++42::jn (z::l++[x]):=rfl
  rw [e1,ih]
  unfold starJ
  have e2:(jn (y::z::l)).isEmpty=false:=isEmpty_false (jn_ne h (by simp))
  rw [e2,isEmpty_false hne]
  simp [jn]
theorem fold_starJ:∀ (l P:List Str),(∀ v∈P,v≠[])→(∀ v∈l,v≠[])→l.foldl starJ (jn P)=jn (P++l)
 | [],P,_,_=>by simp
 | x::l,P,hP,h=>by
  rw [List.foldl_cons,← jn_snoc x P hP,fold_starJ l (P++[x]) (fun v hv=>by
   rcases List.mem_append.1 hv with hv | hv
   ·exact hP v hv
   ·exact h v (by simp at hv;simp [hv])) (fun v hv=>h v (by simp [hv]))]
  simp
theorem ref_place (V:List Str) (hV:V.length≤100) (k:Nat) (hk:k<V.length):∀ (n i N:Nat),V.length-i≤n→n<N→i≤V.length →
 (whl (σ:=Int) (ε:=Int) (ρ:=Empty) (fun s2112 =>
  bif decide (s2112<((V.length:Nat):Int)) then (
   grd (0≤s2112∧s2112<(V.length:Int)) <|
   grd (0≤((k:Nat):Int)∧((k:Nat):Int)<(V.length:Int)) <|
   bif ((V.getD s2112.toNat [])==(V.getD ((k:Nat):Int).toNat [])) then (
    some (.go (w64 (s2112+1)))
   ) else (
    some (.brk s2112)
   )
  ) else (
   some (.brk s2112)
  )
  ) N ((i:Nat):Int))=some (.brk ((i+((V.drop i).takeWhile (· == V.getD k [])).length:Nat):Int)):=by
 intro n
 induction n with
 | zero =>
  intro i N h1 h2 h3
  obtain ⟨M,rfl⟩:∃ M,N=M+1:=⟨N-1,by omega⟩
  simp only [whl]
  rw [decide_eq_false (by omega),List.drop_eq_nil_of_le (by omega)]
  simp only [cond_false,bnd_some,stp,List.takeWhile_nil,List.length_nil,Nat.add_zero]
 | succ n ih =>
  intro i N h1 h2 h3
  obtain ⟨M,rfl⟩:∃ M,N=M+1:=⟨N-1,by omega⟩
  by_cases hi:i<V.length
  ·simp only [whl]
   rw [decide_eq_true (by omega),cond_true,grd_pos (by omega),grd_pos (by omega),List.drop_eq_getElem_cons hi,List.takeWhile_cons,Int.toNat_natCast,Int.toNat_natCast]
   have hx:V.getD i []=V[i]:=by simp [List.getD_eq_getElem?_getD,List.getElem?_eq_getElem hi]
   rw [hx]
   cases hc:V[i]==V.getD k [] with
   | true =>
    simp only [cond_true,bnd_some,stp,if_true]
    rw [w64_same (by omega) (by omega)]
    have:=ih (i+1) M (by omega) (by omega) (by omega)
    rw [show ((i+1:Nat):Int)=((i:Nat):Int)+1 by omega] at this
    refine this.trans ?_
    simp only [List.length_cons]
    congr 2;omega
   | false=>simp [stp]
  ·simp only [whl]
   rw [decide_eq_false (by omega),List.drop_eq_nil_of_le (by omega)]
   simp only [cond_false,bnd_some,stp,List.takeWhile_nil,List.length_nil,Nat.add_zero]
end Go.Proofs.YtjfpcjnopbfekaaGreatDoor
/- PLAIN LAWS of layer 5: the reference's text. -/
namespace Go.Proofs.YtjfpcjnopbfekaaGreatDoor
open Go.Ab Go.Sh
theorem whl_s {σ ε ρ:Type} {body:σ→Option (Stp σ ε ρ)} (M:Nat) (s:σ):whl body (M+1) s=(body s).bind (stp (whl body M)):=rfl
theorem ref04_Itoa_dec (u:Nat) (h:u<10000000000000):ref04_Itoa 64 (u:Int)=some (dec u):=by
 rw [show (64:Nat)=63+1 from rfl]
 exact ref04_Itoa_nat 63 u (by
  have:10 ^ 14≤10 ^ (63+1):=Nat.pow_le_pow_right (by decide) (by decide)
  omega) h
theorem ref_runs (V:List Str) (hV:V.length≤100) (hv:∀ v∈V,v.length≤1000):∀ (n k N:Nat) (s:Str),V.length-k≤n→n<N→k≤V.length→s.length≤2000*(k+1) →
 (whl (σ:=(Str×Int)) (ε:=Str) (ρ:=Empty) (fun s1952 =>
  bif decide (s1952.2<((V.length:Nat):Int)) then (
   (whl (σ:=Int) (ε:=Int) (ρ:=Empty) (fun s2112 =>
    bif decide (s2112<((V.length:Nat):Int)) then (
     grd (0≤s2112∧s2112<(V.length:Int)) <|
     grd (0≤s1952.2∧s1952.2<(V.length:Int)) <|
     bif ((V.getD s2112.toNat [])==(V.getD s1952.2.toNat [])) then (
      some (.go (w64 (s2112+1)))
     ) else (
      some (.brk s2112)
     )
    ) else (
     some (.brk s2112)
    )
   ) 4294967296 s1952.2).bind <| aftE fun u2166 =>
   ((
    bif (s1952.1==[]) then (
     some s1952.1
    ) else (
     grd (s1952.1.length+[42].length≤9223372036854775807) <|
     some (s1952.1++[42])
    )
   ):Option Str).bind fun v2173 =>
   grd (0≤s1952.2∧s1952.2<(V.length:Int)) <|
   grd (v2173.length+(V.getD s1952.2.toNat []).length≤9223372036854775807) <|
   ((
    bif decide ((w64 (u2166-s1952.2))>1) then (
     (ref04_Itoa 64 (w64 (u2166-s1952.2))).bind fun y2209 =>
     grd ([94].length+y2209.length≤9223372036854775807) <|
     grd ((v2173++(V.getD s1952.2.toNat [])).length+([94]++y2209).length≤9223372036854775807) <|
     some ((v2173++(V.getD s1952.2.toNat []))++([94]++y2209))
    ) else (
     some (v2173++(V.getD s1952.2.toNat []))
    )
   ):Option Str).bind fun v2202 =>
   some (.go (v2202,u2166))
  ) else (
   some (.brk s1952.1)
  )
  ) N (s,((k:Nat):Int)))=some (.brk (((runs (V.drop k)).map rt).foldl starJ s)):=by
 intro n
 induction n with
 | zero =>
  intro k N s h1 h2 h3 h4
  obtain ⟨M,rfl⟩:∃ M,N=M+1:=⟨N-1,by omega⟩
  rw [whl_s]
  simp only []
  rw [decide_eq_false (by omega),List.drop_eq_nil_of_le (by omega),runs]
  simp only [cond_false,bnd_some,stp,List.map_nil,List.foldl_nil]
 | succ n ih =>
  intro k N s h1 h2 h3 h4
  obtain ⟨M,rfl⟩:∃ M,N=M+1:=⟨N-1,by omega⟩
  by_cases hk:k<V.length
  ·have hr:=drop_runs V k hk
   have hp:=ref_place V hV k hk (V.length-k) k 4294967296 (by omega) (by omega) (by omega)
   have hx:V.getD k []=V[k]:=by simp [List.getD_eq_getElem?_getD,List.getElem?_eq_getElem hk]
   have hle:=takeWhile_le (· == V.getD k []) (V.drop (k+1))
   rw [List.length_drop] at hle
   have hvk:(V.getD k []).length≤1000:=by rw [hx];exact hv _ (List.getElem_mem _)
   have et:((V.drop k).takeWhile (· == V.getD k [])).length=1+((V.drop (k+1)).takeWhile (· == V.getD k [])).length:=by
    rw [List.drop_eq_getElem_cons hk,List.takeWhile_cons]
    have hs:(V[k]==V.getD k [])=true:=by rw [hx];exact beq_self_eq_true _
    simp only [hs,if_true,List.length_cons];omega
   rw [et] at hp
   generalize ((V.drop (k+1)).takeWhile (· == V.getD k [])).length=q at hr hp hle
   have hd:=dec_len (1+q) (by omega)
   have hrl:=rt_len (e:=(V.getD k [],1+q)) (k:=1000) hvk (by simp only;omega)
   have hsl:(starJ s (rt (V.getD k [],1+q))).length≤s.length+1023:=by
    unfold starJ
    cases s.isEmpty<;>simp only [cond_true,cond_false,List.length_append,List.length_cons,List.length_nil]<;>omega
   have ih2:=ih (k+(1+q)) M (starJ s (rt (V.getD k [],1+q))) (by omega) (by omega) (by omega) (by omega)
   have hw:w64 (((k+(1+q):Nat):Int)-((k:Nat):Int))=((1+q:Nat):Int):=by rw [w64_same (by omega) (by omega)];omega
   rw [whl_s]
   simp only []
   rw [decide_eq_true (by omega)]
   simp only [cond_true]
   rw [hp]
   simp only [bnd_some,aftE]
   rw [hw,hr,List.map_cons,List.foldl_cons,Int.toNat_natCast]
   have e1:((
    bif (s==[]) then (
     some s
    ) else (
     grd (s.length+[42].length≤9223372036854775807) <|
     some (s++[42])
    )
    ):Option Str)=some (bif s.isEmpty then s else s++[42]):=by
    rw [grd_pos (by simp only [List.length_cons,List.length_nil];omega),nil_beq]
    cases s.isEmpty<;>rfl
   have l1:(bif s.isEmpty then s else s++[42]).length≤s.length+1:=by cases s.isEmpty<;>simp
   rw [e1]
   simp only [bnd_some]
   rw [grd_pos (by omega),grd_pos (by omega)]
   have hpart:((
    bif decide (((1+q:Nat):Int)>1) then (
     (ref04_Itoa 64 ((1+q:Nat):Int)).bind fun y2209 =>
     grd ([94].length+y2209.length≤9223372036854775807) <|
     grd (((bif s.isEmpty then s else s++[42])++(V.getD k [])).length+([94]++y2209).length≤9223372036854775807) <|
     some (((bif s.isEmpty then s else s++[42])++(V.getD k []))++([94]++y2209))
    ) else (
     some ((bif s.isEmpty then s else s++[42])++(V.getD k []))
    )
    ):Option Str)=some (starJ s (rt (V.getD k [],1+q))):=by
    unfold rt starJ
    by_cases h1q:1<1+q
    ·rw [decide_eq_true (show ((1+q:Nat):Int)>1 by omega),decide_eq_true h1q,ref04_Itoa_dec _ (by omega)]
     simp only [cond_true,bnd_some]
     rw [grd_pos (by simp only [List.length_cons,List.length_nil];omega),grd_pos (by simp only [List.length_append,List.length_cons,List.length_nil];omega),List.append_assoc]
     rfl
    ·rw [decide_eq_false (show ¬ ((1+q:Nat):Int)>1 by omega),decide_eq_false h1q]
     simp
   rw [hpart]
   simp only [bnd_some,stp]
   exact ih2
  ·rw [whl_s]
   simp only []
   rw [decide_eq_false (by omega),List.drop_eq_nil_of_le (by omega),runs]
   simp only [cond_false,bnd_some,stp,List.map_nil,List.foldl_nil]
theorem ref05_Print_eq (p:List Monomial) (hB:Bd p):ref05_Print p=some (bif validP p then prt p else []):=by
 unfold ref05_Print
 rw [ref05_Valid_eq p hB]
 simp only [bnd_some]
 cases hv:validP p with
 | false=>rfl
 | true =>
  simp only [cond_true]
  have h60:=(valid_okP hv).1
  have hok:∀ m∈p,okM m=true:=fun m hm=>valid_okM hv hm
  have hne:∀ m∈p,∀ f,monoS f m≠[]:=fun m hm f=>by
   have:=monoT_ne (c:=m.Coef.natAbs) (V:=m.Vars) (fun v hv=>name_ne ((okM_of (hok m hm)).2.2 v hv).1)
   unfold monoS;simp [this]
  rw [len_beq0]
  cases hp:p.isEmpty with
  | true=>unfold prt;rw [hp];rfl
  | false =>
  simp only [cond_false]
  rw [cnt_list0 (fin:=fun _ s=>s) (f:=fun s=>s) ⟨0,[]⟩ p (fun m s=>Stp.go (s++monoS s.isEmpty m)) (fun j s=>s.length≤110001*j∧(j=0↔s.isEmpty=true)) (fun _ _=>rfl) [] (by simp) (fun j s hj hI=>by
   have hmm:=mem_getD ⟨0,[]⟩ hj
   have hm:=hok _ hmm
   have hnem:=hne _ hmm s.isEmpty
   obtain ⟨h1,h2,h3⟩:=okM_of hm
   have hlen:=monoS_len (f:=s.isEmpty) hm
   generalize p.getD j ⟨0,[]⟩=m at hm h1 h2 h3 hlen hnem ⊢
   have hs:s.length≤110001*60:=Nat.le_trans hI.1 (Nat.mul_le_mul_left _ (by omega))
   refine ⟨?_,fun s' e => ?_⟩
   ·have e1:((
     bif decide (m.Coef<0) then (
      grd (s.length+[45].length≤9223372036854775807) <|
      some ((s++[45]),(w64 (0-m.Coef)))
     ) else (
      bif decide (((j:Nat):Int)>0) then (
       grd (s.length+[43].length≤9223372036854775807) <|
       some ((s++[43]),m.Coef)
      ) else (
       some (s,m.Coef)
      )
     )
    ):Option (Str×Int))=some (s++sgP s.isEmpty m.Coef,((m.Coef.natAbs:Nat):Int)):=by
     rw [grd_pos (by simp only [List.length_cons,List.length_nil];omega),grd_pos (by simp only [List.length_cons,List.length_nil];omega)]
     unfold sgP
     by_cases hneg:m.Coef<0
     ·rw [decide_eq_true hneg,w64_same (by omega) (by omega),show (0:Int)-m.Coef=((m.Coef.natAbs:Nat):Int) by omega];rfl
     ·rw [decide_eq_false hneg,show ((m.Coef.natAbs:Nat):Int)=m.Coef by omega]
      by_cases hj0:j=0
      ·rw [hI.2.1 hj0,decide_eq_false (by omega)];simp
      ·have:s.isEmpty=false:=by
        cases h:s.isEmpty with
        | false=>rfl
        | true=>exact absurd (hI.2.2 h) hj0
       rw [this,decide_eq_true (by omega)];simp
    rw [e1]
    simp only [bnd_some]
    have hcz:1≤m.Coef.natAbs:=by omega
    have hca:=h1.1
    have e2:((bif decide (((m.Coef.natAbs:Nat):Int)>1) then (some true) else (some (((m.Vars.length:Nat):Int)==0))):Option Bool)=some (!(m.Coef.natAbs==1 && !m.Vars.isEmpty)):=by
     rw [len_beq0]
     by_cases h1c:m.Coef.natAbs=1
     ·rw [h1c];simp
     ·rw [decide_eq_true (by omega),show (m.Coef.natAbs==1)=false by rw [beq_eq_false_iff_ne];exact h1c];rfl
    rw [e2]
    simp only [bnd_some]
    have e3:((
     bif !(m.Coef.natAbs==1 && !m.Vars.isEmpty) then (
      (ref04_Itoa 64 ((m.Coef.natAbs:Nat):Int)).bind fun y1708 =>
      some y1708
     ) else (
      some []
     )
    ):Option Str)=some (jn (numP m.Coef.natAbs m.Vars)):=by
     unfold numP
     cases (m.Coef.natAbs==1 && !m.Vars.isEmpty)
     ·simp only [Bool.not_false,cond_true,cond_false]
      rw [ref04_Itoa_dec _ (by omega)];rfl
     ·rfl
    rw [e3]
    simp only [bnd_some]
    have hl3:(jn (numP m.Coef.natAbs m.Vars)).length≤21:=by
     unfold numP
     have:=dec_len m.Coef.natAbs (by omega)
     cases (m.Coef.natAbs==1 && !m.Vars.isEmpty)
     ·exact this
     ·simp [jn]
    have:=ref_runs m.Vars (by omega) (fun v hv=>by have:=(h3 v hv).2;omega) m.Vars.length 0 4294967296 (jn (numP m.Coef.natAbs m.Vars)) (by omega) (by omega) (by omega) (by omega)
    rw [show (((0:Nat):Nat):Int)=0 from rfl] at this
    rw [this]
    simp only [bnd_some,aftE,List.drop_zero]
    have hPn:∀ v∈numP m.Coef.natAbs m.Vars,v≠[]:=fun v hv=>(monoP_ne (c:=m.Coef.natAbs) (V:=m.Vars) (fun v hv=>name_ne (h3 v hv).1)).1 v (by unfold monoP;exact List.mem_append.2 (.inl hv))
    have hRn:∀ v∈(runs m.Vars).map rt,v≠[]:=fun v hv=>(monoP_ne (c:=m.Coef.natAbs) (V:=m.Vars) (fun v hv=>name_ne (h3 v hv).1)).1 v (by unfold monoP;exact List.mem_append.2 (.inr hv))
    rw [fold_starJ _ _ hPn hRn]
    have em:jn (numP m.Coef.natAbs m.Vars++(runs m.Vars).map rt)=monoT m.Coef.natAbs m.Vars:=rfl
    rw [em]
    unfold monoS at hlen ⊢
    rw [grd_pos (by simp only [List.length_append] at hlen ⊢;omega),List.append_assoc]
   ·injection e with e
    subst e
    have e2:(s++monoS s.isEmpty m).isEmpty=false:=isEmpty_false (by simp [hnem])
    refine ⟨by rw [List.length_append];have:=hI.1;omega,?_⟩
    rw [e2]
    constructor
    ·intro h;omega
    ·intro h;cases h)]
  rw [foldl_go (ε:=Str) (fun s m=>s++monoS s.isEmpty m),fold_polyS p [] hok]
  simp only [bnd_some,aftE,List.nil_append,List.isEmpty_nil]
  unfold prt
  rw [hp];rfl
end Go.Proofs.YtjfpcjnopbfekaaGreatDoor
/- PLAIN LAWS of layer 5: how the program reads a monomial. -/
namespace Go.Sh
theorem splitK_len (sep:Str):∀ (k:Nat) (s:Str),(Lib.splitK sep 0 k s).length≤k+1∧∀ p∈Lib.splitK sep 0 k s,p.length≤s.length
 | 0,s=>by simp [Lib.splitK]
 | k+1,s=>by
  unfold Lib.splitK
  split
  ·simp
  ·have ih:=splitK_len sep k (s.drop ((Lib.index s sep).toNat+sep.length))
   refine ⟨by simp;omega,fun p hp => ?_⟩
   rcases List.mem_cons.1 hp with rfl | hp
   ·simp;omega
   ·have:=ih.2 p hp
    rw [List.length_drop] at this;omega
theorem idx1_hit (k:UInt8):∀ (p rest:Str),(∀ c∈p,c≠k)→Lib.index (p++(k::rest)) [k]=(p.length:Int)
 | [],rest,_=>by simp [Lib.index,List.isPrefixOf]
 | c::p,rest,h=>by
  have ih:=idx1_hit k p rest (fun x hx=>h x (by simp [hx]))
  have hc:=h c (by simp)
  have e:([k]:Str).isPrefixOf (c::(p++(k::rest)))=false:=by
   simp only [List.isPrefixOf,Bool.and_eq_false_iff,beq_eq_false_iff_ne]
   exact .inl (Ne.symm hc)
  rw [List.cons_append,Lib.index,if_neg (by rw [e];simp),ih]
  have:(((p.length:Nat):Int) == -1)=false:=by rw [beq_eq_false_iff_ne];omega
  rw [if_neg (by rw [this];simp)]
  simp
theorem idx1_miss (k:UInt8):∀ (p:Str),(∀ c∈p,c≠k)→Lib.index p [k] = -1
 | [],_=>by simp [Lib.index]
 | c::p,h=>by
  have ih:=idx1_miss k p (fun x hx=>h x (by simp [hx]))
  have hc:=h c (by simp)
  have e:([k]:Str).isPrefixOf (c::p)=false:=by
   simp only [List.isPrefixOf,Bool.and_eq_false_iff,beq_eq_false_iff_ne]
   exact .inl (Ne.symm hc)
  rw [Lib.index,if_neg (by rw [e];simp),ih];rfl
end Go.Sh
namespace Go.Proofs.YtjfpcjnopbfekaaGreatDoor
open Go.Ab Go.Sh
theorem isLet_ne {c:UInt8} (h:isLet c=true):c≠32∧c≠42∧c≠43∧c≠94∧c≠45∧c≠46∧isDig c=false:=by
 simp only [isLet,Bool.and_eq_true,decide_eq_true_eq] at h
 refine ⟨?_,?_,?_,?_,?_,?_,?_⟩
 iterate 6 · intro e;subst e;simp at h
 simp only [isDig,Bool.and_eq_false_iff,decide_eq_false_iff_not];omega
theorem isDig_ne {c:UInt8} (h:isDig c=true):c≠32∧c≠42∧c≠43∧c≠94∧c≠45∧c≠46:=by
 simp only [isDig,Bool.and_eq_true,decide_eq_true_eq] at h
 refine ⟨?_,?_,?_,?_,?_,?_⟩
 all_goals (intro e;subst e;simp at h)
theorem count_jn:∀ (r:List Str) (x:Str),(∀ p∈x::r,∀ c∈p,c≠42)→Lib.count (jn (x::r)) [42]=r.length
 | [],x,h=>Lib.count_miss (idx1_miss 42 x (h x (by simp)))
 | y::r,x,h=>by
  have hj:jn (x::y::r)=x++42::jn (y::r):=rfl
  rw [hj]
  have:=Lib.count_hit (by simp) (idx1_hit 42 x (jn (y::r)) (h x (by simp)))
  rw [this]
  have e:(x++(42::jn (y::r))).drop (x.length+([42]:Str).length)=jn (y::r):=by
   rw [← List.drop_drop,List.drop_left];rfl
  rw [e,count_jn r y (fun p hp=>h p (by simp at hp ⊢;exact .inr hp))]
  simp;omega
theorem split_jn:∀ (r:List Str) (x:Str),(∀ p∈x::r,∀ c∈p,c≠42)→Lib.splitK [42] 0 r.length (jn (x::r))=x::r
 | [],x,_=>rfl
 | y::r,x,h=>by
  have hj:jn (x::y::r)=x++42::jn (y::r):=rfl
  rw [hj,List.length_cons,Lib.splitK,idx1_hit 42 x _ (h x (by simp))]
  have:(((x.length:Nat):Int) == -1)=false:=by rw [beq_eq_false_iff_ne];omega
  rw [if_neg (by rw [this];simp)]
  have e:(x++(42::jn (y::r))).drop (((x.length:Nat):Int).toNat+([42]:Str).length)=jn (y::r):=by
   rw [Int.toNat_natCast,← List.drop_drop,List.drop_left];rfl
  rw [e,split_jn r y (fun p hp=>h p (by simp at hp ⊢;exact .inr hp))]
  simp
def splitStar (s:Str):List Str:=Lib.splitK [42] 0 (Lib.countB ⟨s.toArray⟩ ⟨([42]:Str).toArray⟩) s
theorem lib_Split_star (s:Str) (hs:s.length≤1000000):lib_Split s [42]=some (splitStar s):=by
 unfold lib_Split
 rw [grd_pos ⟨by omega,by simp⟩];rfl
theorem splitStar_jn {x:Str} {r:List Str} (h:∀ p∈x::r,∀ c∈p,c≠42):splitStar (jn (x::r))=x::r:=by
 unfold splitStar
 have:Lib.countB ⟨(jn (x::r)).toArray⟩ ⟨([42]:Str).toArray⟩=r.length:=by
  show Lib.count (jn (x::r)).toArray.toList (([42]:Str).toArray.toList)=_
  have:=count_jn r x h
  simpa using this
 rw [this,split_jn r x h]
theorem countFrom_le (sub:Str):∀ (f:Nat) (s:Str),Lib.countFrom sub f s≤f
 | 0,_=>Nat.le_refl _
 | f+1,s=>by
  rw [Lib.countFrom]
  split
  ·omega
  ·have:=countFrom_le sub f (s.drop ((Lib.index s sub).toNat+sub.length));omega
theorem splitStar_len (s:Str):(splitStar s).length≤s.length+2∧∀ p∈splitStar s,p.length≤s.length:=by
 obtain ⟨h1,h2⟩:=splitK_len [42] (Lib.countB ⟨s.toArray⟩ ⟨([42]:Str).toArray⟩) s
 refine ⟨?_,h2⟩
 have h3:Lib.countB ⟨s.toArray⟩ ⟨([42]:Str).toArray⟩≤s.length+1:=by
  show Lib.count s.toArray.toList _≤_
  unfold Lib.count
  exact Nat.le_trans (countFrom_le _ _ _) (by simp)
 unfold splitStar
 omega
/-! ### parts -/
def pmStep (j:Nat) (P:Str) (s:Int×List Str):Stp (Int×List Str) (Int×List Str) (Monomial×Bool) :=
 bif (atoiR P).2&&(((j:Nat):Int)==0) then .go ((atoiR P).1,s.2)
 else bif (Lib.cut P [94]).2.2 then
  (bif (atoiR (Lib.cut P [94]).2.1).2&&(!decide ((atoiR (Lib.cut P [94]).2.1).1<2) && !decide ((atoiR (Lib.cut P [94]).2.1).1>8)) then .go (s.1,s.2++List.replicate (atoiR (Lib.cut P [94]).2.1).1.toNat (Lib.cut P [94]).1) else .ret (⟨s.1,s.2⟩,false))
 else .go (s.1,s.2++List.replicate 1 (Lib.cut P [94]).1)
theorem rep_loop (x:Str) (a n:Int) (hn:n≤1000):∀ (k N:Nat) (i:Int) (vs:List Str),0≤i→i+(k:Int)=n→k<N→vs.length+k≤8000000 →
 (whl (σ:=(Int×(List Str))) (ε:=(Out (Int×(List Str)) (Stp (Int×(List Str)) (Int×(List Str)) (Monomial×Bool)))) (ρ:=(Out (Int×(List Str)) (Stp (Int×(List Str)) (Int×(List Str)) (Monomial×Bool)))) (fun s1571 =>
  bif decide (s1571.1<n) then (
   grd ((s1571.2.length+1)*16≤140737488355328) <|
   some (.go ((w64 (s1571.1+1)),(s1571.2++[x])))
  ) else (
   some (.brk (.brk (a,s1571.2)))
  )
  ) N (i,vs))=some (.brk (.brk (a,vs++List.replicate k x)))
 | 0,N,i,vs,h0,h1,h2,h3=>by
  obtain ⟨M,rfl⟩:∃ M,N=M+1:=⟨N-1,by omega⟩
  rw [whl_s]
  simp only []
  rw [decide_eq_false (by omega)]
  simp [stp]
 | k+1,N,i,vs,h0,h1,h2,h3=>by
  obtain ⟨M,rfl⟩:∃ M,N=M+1:=⟨N-1,by omega⟩
  have ih:=rep_loop x a n hn k M (i+1) (vs++[x]) (by omega) (by omega) (by omega) (by simp;omega)
  rw [whl_s]
  simp only []
  rw [decide_eq_true (by omega),cond_true,grd_pos (by omega),w64_same (by omega) (by omega)]
  simp only [bnd_some,stp]
  rw [ih,List.append_assoc];rfl
def pmBody (y1:List Str) (i698:Nat) (s697:Int×List Str):Option (Stp (Int×List Str) (Int×List Str) (Monomial×Bool)) :=
 (lib_Atoi (y1.getD i698 [])).bind fun y1137 =>
 ((
  ((
   bif y1137.2 then (
    bif (((i698:Nat):Int)==0) then (
     some (.ret (.brk (y1137.1,s697.2)))
    ) else (
     some (.brk ())
    )
   ) else (
    some (.brk ())
   )
  ):Option (Out Unit (Out (Int×(List Str)) (Stp (Int×(List Str)) (Int×(List Str)) (Monomial×Bool))))).bind (aft fun u1415 =>
   (lib_Cut (y1.getD i698 []) [94]).bind fun y1430 =>
   ((
    bif y1430.2.2 then (
     (lib_Atoi y1430.2.1).bind fun y1495 =>
     bif y1495.2 then (
      bif decide (y1495.1<2) then (
       some (.ret (.ret (.ret ((Monomial.mk s697.1 s697.2),false))))
      ) else (
       bif decide (y1495.1>8) then (
        some (.ret (.ret (.ret ((Monomial.mk s697.1 s697.2),false))))
       ) else (
        some (.brk y1495.1)
       )
      )
     ) else (
      some (.ret (.ret (.ret ((Monomial.mk s697.1 s697.2),false))))
     )
    ) else (
     some (.brk 1)
    )
   ):Option (Out Int (Out (Int×(List Str)) (Stp (Int×(List Str)) (Int×(List Str)) (Monomial×Bool))))).bind (aft fun u1490 =>
    (whl (σ:=(Int×(List Str))) (ε:=(Out (Int×(List Str)) (Stp (Int×(List Str)) (Int×(List Str)) (Monomial×Bool)))) (ρ:=(Out (Int×(List Str)) (Stp (Int×(List Str)) (Int×(List Str)) (Monomial×Bool)))) (fun s1571 =>
     bif decide (s1571.1<u1490) then (
      grd ((s1571.2.length+1)*16≤140737488355328) <|
      some (.go ((w64 (s1571.1+1)),(s1571.2++[y1430.1])))
     ) else (
      some (.brk (.brk (s697.1,s1571.2)))
     )
    ) 4294967296 (0,s697.2)).bind <| aft some
   )
  )
 ):Option (Out (Int×(List Str)) (Stp (Int×(List Str)) (Int×(List Str)) (Monomial×Bool)))).bind (aft fun u1403 =>
  some (.go (u1403.1,u1403.2))
 )
theorem parse_b (x:Str):poly_parseMonomial x=(lib_Split x [42]).bind fun y1=>(cnt (pmBody y1) (fun i698 s697=>(s697.1,s697.2)) (y1.length-0) 0 (1,[])).bind <| Sh.aft fun u1599=>some ((Monomial.mk u1599.1 u1599.2),true):=rfl
theorem cut_len (P:Str) (k:UInt8):(Lib.cut P [k]).1.length≤P.length∧(Lib.cut P [k]).2.1.length≤P.length:=cut_le P [k]
theorem pmBody_eq (y1:List Str) (j:Nat) (s:Int×List Str) (hP:(y1.getD j []).length≤1000000) (hs:s.2.length≤7000000):pmBody y1 j s=some (pmStep j (y1.getD j []) s):=by
 unfold pmBody
 generalize y1.getD j []=P at hP
 obtain ⟨c1,c2⟩:=cut_len P 94
 unfold lib_Atoi lib_Cut
 rw [grd_pos (by omega),grd_pos (by omega)]
 simp only [bnd_some]
 rw [grd_pos (show (Lib.cut P [94]).2.1.length≤281474976710656 by omega)]
 simp only [bnd_some]
 unfold pmStep
 have tail:∀ n:Int,1≤n→n≤8→((whl (σ:=(Int×(List Str))) (ε:=(Out (Int×(List Str)) (Stp (Int×(List Str)) (Int×(List Str)) (Monomial×Bool)))) (ρ:=(Out (Int×(List Str)) (Stp (Int×(List Str)) (Int×(List Str)) (Monomial×Bool)))) (fun s1571 =>
  bif decide (s1571.1<n) then (
   grd ((s1571.2.length+1)*16≤140737488355328) <|
   some (.go ((w64 (s1571.1+1)),(s1571.2++[(Lib.cut P [94]).1])))
  ) else (
   some (.brk (.brk (s.1,s1571.2)))
  )
  ) 4294967296 (0,s.2)).bind <| Sh.aft some)=some (.brk (s.1,s.2++List.replicate n.toNat (Lib.cut P [94]).1)):=fun n h1 h2=>by
  rw [rep_loop _ s.1 n (by omega) n.toNat 4294967296 0 s.2 (by omega) (by omega) (by omega) (by omega)];rfl
 cases ha:(atoiR P).2 with
 | true =>
  cases hj:(((j:Nat):Int)==0) with
  | true=>rfl
  | false =>
   simp only [cond_true,cond_false,bnd_some,Sh.aft,Bool.and_false]
   cases hc:(Lib.cut P [94]).2.2 with
   | false =>
    simp only [cond_false,bnd_some,Sh.aft]
    rw [tail 1 (by omega) (by omega)];rfl
   | true =>
    simp only [cond_true]
    generalize hb:atoiR (Lib.cut P [94]).2.1=b
    cases hb2:b.2 with
    | false=>rfl
    | true =>
     by_cases h1:b.1<2
     ·rw [decide_eq_true h1];rfl
     ·by_cases h2:b.1>8
      ·rw [decide_eq_false h1,decide_eq_true h2];rfl
      ·rw [decide_eq_false h1,decide_eq_false h2]
       simp only [cond_true,cond_false,bnd_some,Sh.aft,Bool.not_false,Bool.and_true]
       rw [tail b.1 (by omega) (by omega)];rfl
 | false =>
  simp only [cond_true,cond_false,bnd_some,Sh.aft,Bool.false_and]
  cases hc:(Lib.cut P [94]).2.2 with
  | false =>
   simp only [cond_false,bnd_some,Sh.aft]
   rw [tail 1 (by omega) (by omega)];rfl
  | true =>
   simp only [cond_true]
   generalize hb:atoiR (Lib.cut P [94]).2.1=b
   cases hb2:b.2 with
   | false=>rfl
   | true =>
    by_cases h1:b.1<2
    ·rw [decide_eq_true h1];rfl
    ·by_cases h2:b.1>8
     ·rw [decide_eq_false h1,decide_eq_true h2];rfl
     ·rw [decide_eq_false h1,decide_eq_false h2]
      simp only [cond_true,cond_false,bnd_some,Sh.aft,Bool.not_false,Bool.and_true]
      rw [tail b.1 (by omega) (by omega)];rfl
def pmL:Nat→List Str→(Int×List Str)→Monomial×Bool
 | _,[],s=>(⟨s.1,s.2⟩,true)
 | j,P::l,s=>match pmStep j P s with
  | .go s'=>pmL (j+1) l s'
  | .brk s'=>(⟨s'.1,s'.2⟩,true)
  | .ret r=>r
theorem pmStep_go {j:Nat} {P:Str} {s s':Int×List Str} (h:pmStep j P s = .go s'):s'.2.length≤s.2.length+8∧∀ v∈s'.2,v∈s.2∨v.length≤P.length:=by
 obtain ⟨c1,c2⟩:=cut_len P 94
 unfold pmStep at h
 revert h
 cases ((atoiR P).2&&(((j:Nat):Int)==0)) with
 | true =>
  intro h
  have h:(Stp.go ((atoiR P).1,s.2):Stp (Int×List Str) (Int×List Str) (Monomial×Bool)) = .go s':=h
  injection h with h
  subst h
  exact ⟨by simp only;omega,fun v hv=>.inl hv⟩
 | false =>
  cases (Lib.cut P [94]).2.2 with
  | false =>
   intro h
   have h:(Stp.go (s.1,s.2++List.replicate 1 (Lib.cut P [94]).1):Stp (Int×List Str) (Int×List Str) (Monomial×Bool)) = .go s':=h
   injection h with h
   subst h
   refine ⟨by simp,fun v hv => ?_⟩
   rcases List.mem_append.1 hv with hv | hv
   ·exact .inl hv
   ·rw [(List.mem_replicate.1 hv).2];exact .inr c1
  | true =>
   simp only [cond_false,cond_true]
   generalize atoiR (Lib.cut P [94]).2.1=b
   cases hg:(b.2&&(!decide (b.1<2) && !decide (b.1>8))) with
   | false=>intro h;cases h
   | true =>
    intro h
    simp only [Bool.and_eq_true,Bool.not_eq_true',decide_eq_false_iff_not] at hg
    have h:(Stp.go (s.1,s.2++List.replicate b.1.toNat (Lib.cut P [94]).1):Stp (Int×List Str) (Int×List Str) (Monomial×Bool)) = .go s':=h
    injection h with h
    subst h
    refine ⟨by simp;omega,fun v hv => ?_⟩
    rcases List.mem_append.1 hv with hv | hv
    ·exact .inl hv
    ·rw [(List.mem_replicate.1 hv).2];exact .inr c1
theorem pm_cnt (y1:List Str) (hy:y1.length≤100000) (hP:∀ p∈y1,p.length≤1000000):∀ (n j:Nat) (s:Int×List Str),y1.length-j=n→s.2.length≤8*j→j≤y1.length →
 ((cnt (pmBody y1) (fun i698 s697=>(s697.1,s697.2)) n j s).bind <| Sh.aft fun u1599=>some ((Monomial.mk u1599.1 u1599.2),true))=some (pmL j (y1.drop j) s)
 | 0,j,s,h1,h2,h3=>by
  rw [List.drop_eq_nil_of_le (by omega)];rfl
 | n+1,j,s,h1,h2,h3=>by
  have hj:j<y1.length:=by omega
  have hx:y1.getD j []=y1[j]:=by simp [List.getD_eq_getElem?_getD,List.getElem?_eq_getElem hj]
  have hb:=pmBody_eq y1 j s (by rw [hx];exact hP _ (List.getElem_mem _)) (by omega)
  rw [hx] at hb
  rw [List.drop_eq_getElem_cons hj]
  simp only [cnt,hb,bnd_some,pmL]
  cases hs:pmStep j y1[j] s with
  | go s' =>
   have:=(pmStep_go hs).1
   exact pm_cnt y1 hy hP n (j+1) s' (by omega) (by omega) (by omega)
  | brk s'=>rfl
  | ret r=>rfl
theorem pmStep_ret {j:Nat} {P:Str} {s:Int×List Str} {r:Monomial×Bool} (h:pmStep j P s = .ret r):r.1.Vars=s.2:=by
 unfold pmStep at h
 revert h
 cases ((atoiR P).2&&(((j:Nat):Int)==0)) with
 | true=>intro h;cases h
 | false =>
  cases (Lib.cut P [94]).2.2 with
  | false=>intro h;cases h
  | true =>
   simp only [cond_false,cond_true]
   generalize atoiR (Lib.cut P [94]).2.1=b
   cases (b.2&&(!decide (b.1<2) && !decide (b.1>8))) with
   | true=>intro h;cases h
   | false =>
    intro h
    have h:(Stp.ret (⟨s.1,s.2⟩,false):Stp (Int×List Str) (Int×List Str) (Monomial×Bool)) = .ret r:=h
    injection h with h
    subst h;rfl
theorem pmStep_brk {j:Nat} {P:Str} {s s':Int×List Str} (h:pmStep j P s = .brk s'):False:=by
 unfold pmStep at h
 revert h
 cases ((atoiR P).2&&(((j:Nat):Int)==0)) with
 | true=>intro h;cases h
 | false =>
  cases (Lib.cut P [94]).2.2 with
  | false=>intro h;cases h
  | true =>
   simp only [cond_false,cond_true]
   cases ((atoiR (Lib.cut P [94]).2.1).2&&(!decide ((atoiR (Lib.cut P [94]).2.1).1<2) && !decide ((atoiR (Lib.cut P [94]).2.1).1>8)))<;>(intro h;cases h)
theorem pmL_bd (K:Nat):∀ (l:List Str) (j:Nat) (s:Int×List Str),(∀ P∈l,P.length≤K)→(∀ v∈s.2,v.length≤K)→(pmL j l s).1.Vars.length≤s.2.length+8*l.length∧∀ v∈(pmL j l s).1.Vars,v.length≤K
 | [],j,s,_,h2=>⟨by simp [pmL],h2⟩
 | P::l,j,s,h1,h2=>by
  simp only [pmL]
  cases hs:pmStep j P s with
  | go s' =>
   obtain ⟨a1,a2⟩:=pmStep_go hs
   obtain ⟨b1,b2⟩:=pmL_bd K l (j+1) s' (fun Q hQ=>h1 Q (by simp [hQ])) (fun v hv=>by
    rcases a2 v hv with h | h
    ·exact h2 v h
    ·exact Nat.le_trans h (h1 P (by simp)))
   exact ⟨by simp only [List.length_cons];omega,b2⟩
  | brk s'=>exact (pmStep_brk hs).elim
  | ret r =>
   have:=pmStep_ret hs
   simp only
   rw [this]
   exact ⟨by omega,h2⟩
def pmono (s:Str):Monomial×Bool:=pmL 0 (splitStar s) (1,[])
theorem poly_parseMonomial_eq (s:Str) (hs:s.length≤90000):poly_parseMonomial s=some (pmono s)∧(pmono s).1.Vars.length≤8*(s.length+2)∧∀ v∈(pmono s).1.Vars,v.length≤s.length:=by
 obtain ⟨h1,h2⟩:=splitStar_len s
 obtain ⟨b1,b2⟩:=pmL_bd s.length (splitStar s) 0 (1,[]) h2 (by simp)
 refine ⟨?_,Nat.le_trans b1 (by simp only [List.length_nil];omega),b2⟩
 rw [parse_b,lib_Split_star s (by omega)]
 simp only [bnd_some]
 rw [pm_cnt (splitStar s) (by omega) (fun p hp=>by have:=h2 p hp;omega) _ 0 (1,[]) rfl (by simp) (by omega)]
 rfl
end Go.Proofs.YtjfpcjnopbfekaaGreatDoor
/- PLAIN LAWS of layer 5: the program reads the monomials that it prints. -/
namespace Go.Proofs.YtjfpcjnopbfekaaGreatDoor
open Go.Ab Go.Sh
def isNm (b:UInt8):Bool:=isLet b||(isDig b||b==95)
theorem name_chr {v:Str} (h:nameS v=true):∃ c r,v=c::r∧isDig c=false∧v.all isNm=true:=by
 cases v with
 | nil=>cases h
 | cons c r =>
  simp only [nameS] at h
  cases hc:c==95 with
  | true =>
   have hc':c=95:=by simpa using hc
   subst hc'
   simp only [hc,cond_true,Bool.and_eq_true] at h
   refine ⟨_,_,rfl,by decide,?_⟩
   rw [List.all_cons,Bool.and_eq_true]
   exact ⟨by decide,List.all_eq_true.2 fun x hx=>by
    have:=List.all_eq_true.1 h.2.2.2 x hx
    simp [isNm,this]⟩
  | false =>
   simp only [hc,cond_false,Bool.and_eq_true] at h
   have hl:=isLet_ne h.2.1
   refine ⟨_,_,rfl,hl.2.2.2.2.2.2,?_⟩
   rw [List.all_cons,Bool.and_eq_true]
   exact ⟨by simp [isNm,h.2.1],List.all_eq_true.2 fun x hx=>by
    have:=List.all_eq_true.1 h.2.2 x hx
    simp only [Bool.or_eq_true] at this
    rcases this with h | h<;>simp [isNm,h]⟩
theorem isNm_ne {c:UInt8} (h:isNm c=true):c≠42∧c≠43∧c≠45∧c≠94:=by
 unfold isNm at h
 simp only [Bool.or_eq_true,beq_iff_eq] at h
 rcases h with h | h | h
 ·have:=isLet_ne h;exact ⟨this.2.1,this.2.2.1,this.2.2.2.2.1,this.2.2.2.1⟩
 ·have:=isDig_ne h;exact ⟨this.2.1,this.2.2.1,this.2.2.2.2.1,this.2.2.2.1⟩
 ·subst h;decide
theorem dec_nm (n:Nat):(dec n).all isNm=true:=List.all_eq_true.2 fun x hx=>by
 have:=List.all_eq_true.1 (show (dec n).all isDig=true from (dec_dig n).1) x hx
 simp [isNm,this]
theorem name_no94 {v:Str} (h:nameS v=true):∀ c∈v,c≠94:=fun c hc=>by
 obtain ⟨_,_,_,_,ha⟩:=name_chr h
 exact (isNm_ne (List.all_eq_true.1 ha c hc)).2.2.2
theorem dec_cons (n:Nat):∃ c r,dec n=c::r∧isDig c=true:=by
 have h:=(dec_dig n).1
 cases hd:dec n with
 | nil=>exact absurd hd (dec_ne n)
 | cons c r =>
  have h:(dec n).all isDig=true:=h
  rw [hd] at h
  simp only [List.all_cons,Bool.and_eq_true] at h
  exact ⟨c,r,rfl,h.1⟩
theorem atoi_dec (n:Nat) (h:n<10000000000000):atoiR (dec n)=((n:Int),true):=by
 have hl:(dec n).length≤13:=dec_len_le 12 n (by omega)
 have hv:=parse_val (dec n) 0 (dec_dig n).1 (by
  have:10 ^ (dec n).length≤10 ^ 13:=Nat.pow_le_pow_right (by decide) hl
  omega)
 rw [dec_valD] at hv
 obtain ⟨c,r,e,hc⟩:=dec_cons n
 simp only [isDig,Bool.and_eq_true,decide_eq_true_eq] at hc
 rw [e] at hv ⊢
 unfold atoiR
 rw [Lib.atoiAll_plain c r (by omega) (by omega)]
 have:Lib.parseMag (c::r) = .ok n:=by unfold Lib.parseMag;rw [if_neg (by simp)];exact hv
 rw [this]
 simp only [Lib.signless]
 rw [if_neg (by omega)]
theorem atoi_bad {c:UInt8} {r:Str} (h:isDig c=false) (h43:c≠43) (h45:c≠45):(atoiR (c::r)).2=false:=by
 unfold atoiR
 rw [Lib.atoiAll_plain c r (fun e=>h43 (UInt8.toNat_inj.1 e)) (fun e=>h45 (UInt8.toNat_inj.1 e))]
 have:Lib.parseMag (c::r) = .syntax:=by
  unfold Lib.parseMag
  rw [if_neg (by simp)]
  simp only [Lib.parseUint10]
  rw [if_neg (by
   simp only [isDig,Bool.and_eq_false_iff,decide_eq_false_iff_not] at h
   omega)]
 rw [this];rfl
theorem pm_run (j:Nat) (s:Int×List Str) {v:Str} {n:Nat} (hv:nameS v=true) (h1:1≤n) (h8:n≤8):pmStep j (rt (v,n)) s = .go (s.1,s.2++List.replicate n v):=by
 obtain ⟨c,r,e,hd,ha⟩:=name_chr hv
 have hc:=isNm_ne (List.all_eq_true.1 ha c (by rw [e];simp))
 have hbad:∀ t,(atoiR (v++t)).2=false:=fun t=>by
  rw [e];exact atoi_bad hd hc.2.1 hc.2.2.1
 by_cases hn:1<n
 ·have hrt:rt (v,n)=v++94::dec n:=by unfold rt;simp only;rw [decide_eq_true hn];rfl
  have hi:=idx1_hit 94 v (dec n) (name_no94 hv)
  have hcut:Lib.cut (v++94::dec n) [94]=(v,dec n,true):=by
   unfold Lib.cut
   rw [hi,if_pos (by omega),Int.toNat_natCast,List.take_left]
   have:(v++94::dec n).drop (v.length+([94]:Str).length)=dec n:=by
    rw [← List.drop_drop,List.drop_left];rfl
   rw [this]
  rw [hrt]
  unfold pmStep
  have e1:decide (((n:Nat):Int)<2)=false:=decide_eq_false (by omega)
  have e2:decide (((n:Nat):Int)>8)=false:=decide_eq_false (by omega)
  simp only [hbad,hcut,atoi_dec n (by omega),Bool.false_and,cond_false,cond_true,e1,e2,Bool.not_false,Bool.and_true,Int.toNat_natCast]
 ·obtain rfl:n=1:=by omega
  have hrt:rt (v,1)=v:=by unfold rt;simp
  have hi:=idx1_miss 94 v (name_no94 hv)
  have hcut:Lib.cut v [94]=(v,[],false):=by
   unfold Lib.cut
   rw [hi,if_neg (by omega)]
  have hb:=hbad []
  rw [List.append_nil] at hb
  rw [hrt]
  unfold pmStep
  simp only [hb,hcut,Bool.false_and,cond_false]
theorem pm_runs:∀ (L:List (Str×Nat)) (j:Nat) (s:Int×List Str),(∀ e∈L,nameS e.1=true∧1≤e.2∧e.2≤8)→pmL j (L.map rt) s=(⟨s.1,s.2++(L.map fun e=>List.replicate e.2 e.1).flatten⟩,true)
 | [],j,s,_=>by simp [pmL]
 | e::L,j,s,h=>by
  obtain ⟨h1,h2,h3⟩:=h e (by simp)
  have:=pm_run j s h1 h2 h3
  simp only [List.map_cons,pmL]
  rw [show rt e=rt (e.1,e.2) from rfl,this]
  simp only
  rw [pm_runs L (j+1) _ (fun x hx=>h x (by simp [hx]))]
  simp
theorem takeWhile_rep (v:Str):∀ V:List Str,V.takeWhile (· == v)=List.replicate (V.takeWhile (· == v)).length v
 | []=>rfl
 | x::V=>by
  rw [List.takeWhile_cons]
  cases hx:x==v with
  | false=>rfl
  | true =>
   have:x=v:=by simpa using hx
   subst this
   simp only [if_true,List.length_cons,List.replicate_succ]
   rw [← takeWhile_rep x V]
theorem unruns:∀ (n:Nat) (V:List Str),V.length≤n→((runs V).map fun e=>List.replicate e.2 e.1).flatten=V
 | _,[],_=>by rw [runs];rfl
 | 0,v::V,h=>by simp at h
 | n+1,v::V,h=>by
  have h1:=dropWhile_le' (· == v) V
  simp only [List.length_cons] at h
  have ih:=unruns n (V.dropWhile (· == v)) (by omega)
  rw [runs]
  simp only [List.map_cons,List.flatten_cons,ih]
  rw [Nat.add_comm,List.replicate_succ,← takeWhile_rep,List.cons_append,List.takeWhile_append_dropWhile]
theorem jn_chr {l:List Str} {x:UInt8} (h:x∈jn l):x=42∨∃ p∈l,x∈p:=by
 match l with
 | []=>cases h
 | [y]=>exact .inr ⟨y,by simp,h⟩
 | y::z::l =>
  rcases List.mem_append.1 (show x∈y++42::jn (z::l) from h) with h | h
  ·exact .inr ⟨y,by simp,h⟩
  ·rcases List.mem_cons.1 h with h | h
   ·exact .inl h
   ·rcases jn_chr h with h | ⟨p,h1,h2⟩
    ·exact .inl h
    ·exact .inr ⟨p,by simp at h1 ⊢;exact .inr h1,h2⟩
theorem part_chr {c:Nat} {V:List Str} (hv:∀ v∈V,nameS v=true) {p:Str} (hp:p∈monoP c V):(∀ x∈p,x≠42∧x≠43∧x≠45)∧∃ x r,p=x::r:=by
 unfold monoP numP at hp
 rcases List.mem_append.1 hp with hp | hp
 ·cases hb:(c==1 && !V.isEmpty)<;>rw [hb] at hp
  ·have:p=dec c:=by simpa using hp
   rw [this]
   obtain ⟨x,r,e,_⟩:=dec_cons c
   exact ⟨fun x hx=>by have:=isNm_ne (List.all_eq_true.1 (dec_nm c) x hx);exact ⟨this.1,this.2.1,this.2.2.1⟩,x,r,e⟩
  ·cases hp
 ·obtain ⟨e,he,rfl⟩:=List.mem_map.1 hp
  have hn:=hv _ ((runs_len V.length V (Nat.le_refl _)).2 e he).1
  obtain ⟨c,r,e1,_,ha⟩:=name_chr hn
  refine ⟨fun x hx => ?_,by unfold rt;rw [e1];exact ⟨_,_,rfl⟩⟩
  unfold rt at hx
  rcases List.mem_append.1 hx with hx | hx
  ·have:=isNm_ne (List.all_eq_true.1 ha x hx);exact ⟨this.1,this.2.1,this.2.2.1⟩
  ·cases hb:decide (1<e.2)<;>rw [hb] at hx
   ·cases hx
   ·rcases List.mem_cons.1 hx with rfl | hx
    ·decide
    ·have:=isNm_ne (List.all_eq_true.1 (dec_nm e.2) x hx);exact ⟨this.1,this.2.1,this.2.2.1⟩
theorem monoT_chr {c:Nat} {V:List Str} (hv:∀ v∈V,nameS v=true):∀ x∈monoT c V,x≠43∧x≠45:=fun x hx=>by
 rcases jn_chr hx with rfl | ⟨p,h1,h2⟩
 ·decide
 ·exact ((part_chr hv h1).1 x h2).2
theorem pmono_T {c:Nat} {V:List Str} (hc:c<10000000000000) (hV:V.length≤8) (hv:∀ v∈V,nameS v=true):pmono (monoT c V)=(⟨(c:Int),V⟩,true):=by
 have hne:=(monoP_ne (c:=c) (V:=V) (fun v h=>name_ne (hv v h))).2
 have hs:splitStar (monoT c V)=monoP c V:=by
  unfold monoT
  cases hp:monoP c V with
  | nil=>exact absurd hp hne
  | cons x r=>exact splitStar_jn (fun p h c hc=>((part_chr hv (by rw [hp];exact h)).1 c hc).1)
 unfold pmono
 rw [hs]
 have hr:∀ e∈runs V,nameS e.1=true∧1≤e.2∧e.2≤8:=fun e he=>by
  obtain ⟨h1,h2,h3⟩:=(runs_len V.length V (Nat.le_refl _)).2 e he
  exact ⟨hv _ h1,h2,by omega⟩
 unfold monoP numP
 cases hb:(c==1 && !V.isEmpty) with
 | true =>
  simp only [cond_true,List.nil_append]
  rw [pm_runs (runs V) 0 (1,[]) hr,unruns V.length V (Nat.le_refl _)]
  simp only [Bool.and_eq_true,beq_iff_eq] at hb
  rw [hb.1];rfl
 | false =>
  simp only [cond_false,List.cons_append,List.nil_append,pmL]
  have:pmStep 0 (dec c) (1,[]) = .go ((c:Int),[]):=by
   unfold pmStep
   rw [atoi_dec c hc];rfl
  rw [this]
  simp only
  rw [pm_runs (runs V) 1 ((c:Int),[]) hr,unruns V.length V (Nat.le_refl _)]
  rfl
theorem monoT_len8 {m:Monomial} (h:okM m=true):(monoT m.Coef.natAbs m.Vars).length≤500:=by
 obtain ⟨h1,h2,h3⟩:=okM_of h
 obtain ⟨r1,r2⟩:=runs_len m.Vars.length m.Vars (Nat.le_refl _)
 have hd:=dec_len m.Coef.natAbs (by omega)
 have hp:∀ p∈monoP m.Coef.natAbs m.Vars,p.length≤52:=fun p hp=>by
  unfold monoP numP at hp
  rcases List.mem_append.1 hp with hp | hp
  ·cases hb:(m.Coef.natAbs==1 && !m.Vars.isEmpty)<;>rw [hb] at hp
   ·have:p=dec m.Coef.natAbs:=by simpa using hp
    rw [this];omega
   ·cases hp
  ·obtain ⟨e,he,rfl⟩:=List.mem_map.1 hp
   obtain ⟨k1,k2,k3⟩:=r2 e he
   exact rt_len (k:=30) (h3 _ k1).2 (by omega)
 have hl:(monoP m.Coef.natAbs m.Vars).length≤9:=by
  unfold monoP numP
  rw [List.length_append,List.length_map]
  cases (m.Coef.natAbs==1 && !m.Vars.isEmpty)<;>simp<;>omega
 have:=jn_len2 hp
 unfold monoT
 have:(monoP m.Coef.natAbs m.Vars).length*53≤9*53:=Nat.mul_le_mul_right _ hl
 omega
end Go.Proofs.YtjfpcjnopbfekaaGreatDoor
/- PLAIN LAWS of layer 5: how the program reads. -/
namespace Go.Proofs.YtjfpcjnopbfekaaGreatDoor
open Go.Ab Go.Sh
def ns (c:UInt8):Bool := !(c==43||c==45)
theorem index_ns:∀ s:Str,(bif decide (Lib.indexAny s [43,45]<0) then ((s.length:Nat):Int) else Lib.indexAny s [43,45])=(((s.takeWhile ns).length:Nat):Int)
 | []=>rfl
 | c::s=>by
  have ih:=index_ns s
  have hge:=Lib.indexAny_ge [43,45] s
  have hc:([43,45]:Str).contains c = !(ns c):=by
   unfold ns
   simp only [List.contains_cons,List.contains_nil,Bool.or_false,Bool.not_not]
  rw [Lib.indexAny,hc,List.takeWhile_cons]
  cases hn:ns c with
  | false=>simp
  | true =>
   simp only [Bool.not_true,Bool.false_eq_true,if_false,if_true,List.length_cons]
   by_cases hm:Lib.indexAny s [43,45] = -1
   ·rw [hm] at ih ⊢
    simp only [beq_self_eq_true,if_true]
    have h1:decide ((-1:Int)<0)=true:=by decide
    rw [h1] at ih ⊢
    simp only [cond_true] at ih ⊢
    omega
   ·have hb:(Lib.indexAny s [43,45] == -1)=false:=beq_eq_false_iff_ne.2 hm
    rw [hb]
    simp only [Bool.false_eq_true,if_false]
    rw [decide_eq_false (by omega)] at ih ⊢
    simp only [cond_false] at ih ⊢
    omega
def sg1 (c:UInt8):Int:=bif c==45 then -1 else 1
def tl1 (c:UInt8) (r:Str):Str:=bif (c==45||c==43) then r else c::r
def ppBody (x0:Str) (s133:(List Monomial)×Str):Option (Stp ((List Monomial)×Str) (List Monomial) ((List Monomial)×Int)) :=
 bif (s133.2==[]) then (
  some (.brk s133.1)
 ) else (
  bif (x0==[48]) then (
   some (.brk s133.1)
  ) else (
   grd (0<s133.2.length) <|
   ((
    bif (((s133.2.getD 0 0).toNat:Int)==45) then (
     some (-1)
    ) else (
     some 1
    )
   ):Option Int).bind fun v230 =>
   ((
    bif (((s133.2.getD 0 0).toNat:Int)==45) then (
     some true
    ) else (
     some (((s133.2.getD 0 0).toNat:Int)==43)
    )
   ):Option Bool).bind fun v239 =>
   ((
    bif v239 then (
     grd (1≤s133.2.length) <|
     some (s133.2.drop 1)
    ) else (
     some s133.2
    )
   ):Option Str).bind fun v252 =>
   (lib_IndexAny v252 [43,45]).bind fun y263 =>
   ((
    bif decide (y263<0) then (
     some ((v252.length:Nat):Int)
    ) else (
     some y263
    )
   ):Option Int).bind fun v266 =>
   grd (0≤v266∧v266≤(v252.length:Int)) <|
   (poly_parseMonomial (v252.take v266.toNat)).bind fun y277 =>
   bif y277.2 then (
    bif decide (((s133.1.length:Nat):Int)>60) then (
     some (.ret ([],6))
    ) else (
     grd ((s133.1.length+1)*32≤140737488355328) <|
     some (.go ((s133.1++[(Monomial.mk (w64 (y277.1.Coef*v230)) y277.1.Vars)]),(v252.drop v266.toNat)))
    )
   ) else (
    some (.ret ([],6))
   )
  )
 )
def ppEnd (x0:Str) (u303:List Monomial):Option ((List Monomial)×Int) :=
 (poly_Valid u303).bind fun y306 =>
 bif y306 then (
  (poly_Print u303).bind fun y320 =>
  bif (y320==x0) then (
   some (u303,0)
  ) else (
   some ([],6)
  )
 ) else (
  some ([],6)
 )
theorem poly_Parse_b (x:Str):poly_Parse x=(whl (ppBody x) 4294967296 ([],x)).bind (Sh.aft (ppEnd x)):=rfl
def ppStep (acc:List Monomial) (c:UInt8) (r:Str):Stp ((List Monomial)×Str) (List Monomial) ((List Monomial)×Int) :=
 bif (pmono ((tl1 c r).takeWhile ns)).2 then (bif decide (acc.length>60) then .ret ([],6) else .go (acc++[⟨w64 ((pmono ((tl1 c r).takeWhile ns)).1.Coef*sg1 c),(pmono ((tl1 c r).takeWhile ns)).1.Vars⟩],(tl1 c r).dropWhile ns)) else .ret ([],6)
theorem ppBody_nil (x:Str) (acc:List Monomial):ppBody x (acc,[])=some (.brk acc):=rfl
theorem ppBody_cons {x:Str} (hx:x≠[48]) (acc:List Monomial) (c:UInt8) (r:Str) (hr:r.length≤4000000) (ht:((tl1 c r).takeWhile ns).length≤90000) (ha:acc.length≤1000):ppBody x (acc,c::r)=some (ppStep acc c r):=by
 unfold ppBody
 simp only
 rw [show ((c::r)==[])=false from rfl,show (x==[48])=false from beq_eq_false_iff_ne.2 hx,cond_false,cond_false,grd_pos (by simp),List.getD_cons_zero,u8_beq c 45 45 rfl,u8_beq c 43 43 rfl]
 have e1:((bif c==45 then (some (-1)) else (some 1)):Option Int)=some (sg1 c):=by unfold sg1;cases c==45<;>rfl
 have e2:((bif c==45 then (some true) else (some (c==43))):Option Bool)=some (c==45||c==43):=by cases c==45<;>rfl
 rw [e1,e2]
 simp only [bnd_some]
 have e3:((bif (c==45||c==43) then (grd (1≤(c::r).length) <| some ((c::r).drop 1)) else (some (c::r))):Option Str)=some (tl1 c r):=by
  rw [grd_pos (by simp)]
  unfold tl1
  cases (c==45||c==43)<;>rfl
 rw [e3]
 simp only [bnd_some]
 have hl:(tl1 c r).length≤r.length+1:=by unfold tl1;cases (c==45||c==43)<;>simp
 unfold ppStep
 generalize tl1 c r=t at hl ht ⊢
 unfold lib_IndexAny
 rw [grd_pos ⟨by omega,by decide,by decide,by decide⟩]
 simp only [bnd_some]
 have e4:((bif decide (Lib.indexAny t [43,45]<0) then (some ((t.length:Nat):Int)) else (some (Lib.indexAny t [43,45]))):Option Int)=some (((t.takeWhile ns).length:Nat):Int):=by
  rw [← index_ns t]
  cases decide (Lib.indexAny t [43,45]<0)<;>rfl
 rw [e4]
 simp only [bnd_some]
 have hle:=takeWhile_le ns t
 rw [grd_pos (by omega),Int.toNat_natCast,take_takeWhile,drop_takeWhile,(poly_parseMonomial_eq _ ht).1]
 simp only [bnd_some]
 cases (pmono (t.takeWhile ns)).2 with
 | false=>rfl
 | true =>
  simp only [cond_true]
  by_cases h60:acc.length>60
  ·rw [decide_eq_true (show ((acc.length:Nat):Int)>60 by omega),decide_eq_true h60];rfl
  ·rw [decide_eq_false (show ¬ ((acc.length:Nat):Int)>60 by omega),decide_eq_false h60,cond_false,grd_pos (by omega)];rfl
def okA (K:Nat) (p:List Monomial):Prop:=p.length≤61∧∀ m∈p,m.Vars.length≤8*(K+2)∧∀ v∈m.Vars,v.length≤K
theorem okA_Bd {K:Nat} (hK:K≤90000) {p:List Monomial} (h:okA K p):Bd p:=⟨by have:=h.1;omega,fun m hm=>by
 obtain ⟨h1,h2⟩:=h.2 m hm
 exact ⟨by omega,fun v hv=>by have:=h2 v hv;omega⟩⟩
theorem tl1_len (c:UInt8) (r:Str):(tl1 c r).length≤r.length+1:=by unfold tl1;cases (c==45||c==43)<;>simp
theorem tl1_drop (c:UInt8) (r:Str):((tl1 c r).dropWhile ns).length<r.length+1:=by
 unfold tl1
 cases h:(c==45||c==43) with
 | true=>have:=dropWhile_le' ns r;simp only [cond_true];omega
 | false =>
  have hn:ns c=true:=by unfold ns;rw [Bool.or_comm,h];rfl
  simp only [cond_false,List.dropWhile_cons,hn,if_true]
  have:=dropWhile_le' ns r
  omega
theorem pp_total {x:Str} (hx:x≠[48]) (K:Nat) (hK:K≤90000):∀ (n:Nat) (s:Str) (acc:List Monomial) (N:Nat),s.length≤n→n<N→n≤K→okA K acc →
 (∃ u,whl (ppBody x) N (acc,s)=some (.brk u)∧okA K u)∨whl (ppBody x) N (acc,s)=some (.ret ([],6)):=by
 intro n
 induction n with
 | zero =>
  intro s acc N h1 h2 h3 hA
  obtain ⟨M,rfl⟩:∃ M,N=M+1:=⟨N-1,by omega⟩
  have:s=[]:=List.eq_nil_of_length_eq_zero (by omega)
  subst this
  exact .inl ⟨acc,by rw [whl_s,ppBody_nil];rfl,hA⟩
 | succ n ih =>
  intro s acc N h1 h2 h3 hA
  obtain ⟨M,rfl⟩:∃ M,N=M+1:=⟨N-1,by omega⟩
  cases s with
  | nil=>exact .inl ⟨acc,by rw [whl_s,ppBody_nil];rfl,hA⟩
  | cons c r =>
   simp only [List.length_cons] at h1
   have hl:=tl1_len c r
   have hd:=tl1_drop c r
   have ht:=takeWhile_le ns (tl1 c r)
   have ha:=hA.1
   rw [whl_s,ppBody_cons hx acc c r (by omega) (by omega) (by omega)]
   obtain ⟨_,m1,m2⟩:=poly_parseMonomial_eq ((tl1 c r).takeWhile ns) (by omega)
   simp only [bnd_some]
   unfold ppStep
   cases hp:(pmono ((tl1 c r).takeWhile ns)).2 with
   | false=>exact .inr rfl
   | true =>
    by_cases h60:acc.length>60
    ·rw [decide_eq_true h60];exact .inr rfl
    ·rw [decide_eq_false h60]
     simp only [cond_true,cond_false,stp]
     refine ih _ _ M (by omega) (by omega) (by omega) ⟨by rw [List.length_append];simp only [List.length_cons,List.length_nil];omega,fun m hm => ?_⟩
     rcases List.mem_append.1 hm with hm | hm
     ·exact hA.2 m hm
     ·have:m=⟨w64 ((pmono ((tl1 c r).takeWhile ns)).1.Coef*sg1 c),(pmono ((tl1 c r).takeWhile ns)).1.Vars⟩:=by simpa using hm
      subst this
      exact ⟨by simp only;omega,fun v hv=>by have:=m2 v hv;omega⟩
def goodR (x:Str) (r:(List Monomial)×Int):Prop:=r=([],6)∨(r.2=0∧validP r.1=true∧prt r.1=x)
theorem ppEnd_good {K:Nat} (hK:K≤90000) (x:Str) {u:List Monomial} (hu:okA K u):∃ r,ppEnd x u=some r∧goodR x r:=by
 have hB:=okA_Bd hK hu
 unfold ppEnd
 rw [poly_Valid_eq u hB,poly_Print_eq u hB]
 simp only [bnd_some]
 cases hv:validP u with
 | false=>exact ⟨_,rfl,.inl rfl⟩
 | true =>
  simp only [cond_true]
  cases he:prt u==x with
  | false=>exact ⟨_,rfl,.inl rfl⟩
  | true=>exact ⟨_,rfl,.inr ⟨rfl,hv,by simpa using he⟩⟩
theorem okA_nil (K:Nat):okA K []:=⟨by simp,fun m hm=>by cases hm⟩
theorem poly_Parse_total (x:Str) (hx:x.length≤80000):∃ r,poly_Parse x=some r∧goodR x r:=by
 rw [poly_Parse_b]
 by_cases h48:x=[48]
 ·subst h48
  have:whl (ppBody [48]) 4294967296 ([],[48])=some (.brk []):=by
   rw [show (4294967296:Nat)=4294967295+1 from rfl,whl_s];rfl
  rw [this]
  simp only [bnd_some,Sh.aft]
  exact ppEnd_good (K:=0) (by omega) [48] (okA_nil 0)
 ·rcases pp_total h48 80000 (by omega) x.length x [] 4294967296 (Nat.le_refl _) (by omega) hx (okA_nil _) with ⟨u,h,hu⟩ | h
  ·rw [h]
   simp only [bnd_some,Sh.aft]
   exact ppEnd_good (K:=80000) (by omega) x hu
  ·rw [h]
   exact ⟨_,rfl,.inl rfl⟩
/-! ### what is printed -/
theorem rest_ns (p:List Monomial):∀ x,(polyS false p).head? = some x→ns x=false:=fun x hx=>by
 cases p with
 | nil=>cases hx
 | cons m p =>
  simp only [polyS,monoS,sgP] at hx
  cases hc:decide (m.Coef<0)<;>rw [hc] at hx<;>simp at hx<;>subst hx<;>rfl
theorem monoT_ns {m:Monomial} (h:okM m=true) (p:List Monomial):(monoT m.Coef.natAbs m.Vars++polyS false p).takeWhile ns=monoT m.Coef.natAbs m.Vars∧(monoT m.Coef.natAbs m.Vars++polyS false p).dropWhile ns=polyS false p :=
 takeWhile_all ns _ _ (List.all_eq_true.2 fun x hx=>by
  obtain ⟨h1,h2⟩:=monoT_chr (fun v hv=>((okM_of h).2.2 v hv).1) x hx
  simp [ns,h1,h2]) (rest_ns p)
theorem monoT_cons {m:Monomial} (h:okM m=true):∃ c r,monoT m.Coef.natAbs m.Vars=c::r∧c≠43∧c≠45:=by
 have hn:=monoT_ne (c:=m.Coef.natAbs) (V:=m.Vars) (fun v hv=>name_ne ((okM_of h).2.2 v hv).1)
 cases ht:monoT m.Coef.natAbs m.Vars with
 | nil=>exact absurd ht hn
 | cons c r=>exact ⟨c,r,rfl,monoT_chr (fun v hv=>((okM_of h).2.2 v hv).1) c (by rw [ht];simp)⟩
theorem mono_head (f:Bool) {m:Monomial} (h:okM m=true) (rest:Str):∃ c r,monoS f m++rest=c::r∧tl1 c r=monoT m.Coef.natAbs m.Vars++rest∧((m.Coef.natAbs:Nat):Int)*sg1 c=m.Coef:=by
 obtain ⟨y,z,e,h1,h2⟩:=monoT_cons h
 have h0:=(okM_of h).1.2
 unfold monoS sgP
 by_cases hn:m.Coef<0
 ·rw [decide_eq_true hn]
  refine ⟨45,monoT m.Coef.natAbs m.Vars++rest,rfl,rfl,?_⟩
  show _*(-1:Int)=_
  omega
 ·rw [decide_eq_false hn]
  cases f with
  | false =>
   refine ⟨43,monoT m.Coef.natAbs m.Vars++rest,rfl,rfl,?_⟩
   show _*(1:Int)=_
   omega
  | true =>
   refine ⟨y,z++rest,by rw [e];rfl,?_,?_⟩
   ·unfold tl1
    rw [show (y==45)=false from beq_eq_false_iff_ne.2 h2,show (y==43)=false from beq_eq_false_iff_ne.2 h1,e];rfl
   ·unfold sg1
    rw [show (y==45)=false from beq_eq_false_iff_ne.2 h2]
    show _*(1:Int)=_
    omega
theorem polyS_len:∀ (f:Bool) (p:List Monomial),(∀ m∈p,okM m=true)→(polyS f p).length≤501*p.length
 | _,[],_=>by simp [polyS]
 | f,m::p,h=>by
  have ih:=polyS_len false p (fun x hx=>h x (by simp [hx]))
  have h1:=monoT_len8 (h m (by simp))
  simp only [polyS,monoS,sgP,List.length_append,List.length_cons]
  have:((bif decide (m.Coef<0) then [45] else bif f then [] else [43]):Str).length≤1:=by cases decide (m.Coef<0)<;>cases f<;>simp
  omega
theorem pp_rt {x:Str} (hx:x≠[48]):∀ (p:List Monomial) (f:Bool) (acc:List Monomial) (N:Nat),(∀ m∈p,okM m=true)→acc.length+p.length≤60→p.length<N →
 whl (ppBody x) N (acc,polyS f p)=some (.brk (acc++p))
 | [],f,acc,N,_,_,h3=>by
  obtain ⟨M,rfl⟩:∃ M,N=M+1:=⟨N-1,by omega⟩
  rw [show polyS f []=[] by simp [polyS],whl_s,ppBody_nil]
  simp [stp]
 | m::p,f,acc,N,h1,h2,h3=>by
  obtain ⟨M,rfl⟩:∃ M,N=M+1:=⟨N-1,by omega⟩
  simp only [List.length_cons] at h2 h3
  have hm:=h1 m (by simp)
  obtain ⟨c,r,e1,e2,e3⟩:=mono_head f hm (polyS false p)
  obtain ⟨t1,t2⟩:=monoT_ns hm p
  have hl8:=monoT_len8 hm
  have hpl:=polyS_len false p (fun x hx=>h1 x (by simp [hx]))
  have hlen:r.length+1≤501+(polyS false p).length:=by
   have:=congrArg List.length e1
   simp only [List.length_append,List.length_cons,monoS,sgP] at this
   have h01:((bif decide (m.Coef<0) then [45] else bif f then [] else [43]):Str).length≤1:=by cases decide (m.Coef<0)<;>cases f<;>simp
   omega
  have hpm:=pmono_T (c:=m.Coef.natAbs) (V:=m.Vars) (by have:=(okM_of hm).1.1;omega) (okM_of hm).2.1 (fun v hv=>((okM_of hm).2.2 v hv).1)
  have ih:=pp_rt hx p false (acc++[m]) M (fun x hx=>h1 x (by simp [hx])) (by simp;omega) (by omega)
  rw [whl_s,show polyS f (m::p)=monoS f m++polyS false p from rfl,e1,ppBody_cons hx acc c r (by omega) (by rw [e2,t1];omega) (by omega)]
  simp only [bnd_some]
  unfold ppStep
  rw [e2,t1,t2,hpm,decide_eq_false (by omega)]
  simp only [cond_true,cond_false,stp]
  rw [e3,w64_same (by have:=(okM_of hm).1.1;omega) (by have:=(okM_of hm).1.1;omega),ih]
  simp
theorem prt_48 {p:List Monomial} (h:∀ m∈p,okM m=true) (hp:p≠[]):prt p≠[48]:=by
 cases p with
 | nil=>exact absurd rfl hp
 | cons m p =>
  intro e
  unfold prt at e
  simp only [List.isEmpty_cons,cond_false] at e
  obtain ⟨c,r,e1,e2,e3⟩:=mono_head true (h m (by simp)) (polyS false p)
  rw [show polyS true (m::p)=monoS true m++polyS false p from rfl,e1] at e
  injection e with e4 e5
  subst e4 e5
  have hT:=pmono_T (c:=m.Coef.natAbs) (V:=m.Vars) (by have:=(okM_of (h m (by simp))).1.1;omega) (okM_of (h m (by simp))).2.1 (fun v hv=>((okM_of (h m (by simp))).2.2 v hv).1)
  obtain ⟨y,z,h5,_,_⟩:=monoT_cons (h m (by simp))
  have e6:monoT m.Coef.natAbs m.Vars=[48]:=by
   have e2:([48]:Str)=monoT m.Coef.natAbs m.Vars++polyS false p:=e2
   rw [h5,List.cons_append] at e2
   injection e2 with a b
   have hz:z=[]:=by
    cases z with
    | nil=>rfl
    | cons q w=>simp at b
   rw [h5,hz,a]
  rw [e6] at hT
  have:pmono [48]=(⟨0,[]⟩,true):=by decide
  rw [this] at hT
  have h7:(0:Int)=((m.Coef.natAbs:Nat):Int):=congrArg (fun q:Monomial×Bool=>q.1.Coef) hT
  have:=(okM_of (h m (by simp))).1.2
  omega
theorem poly_Parse_print {p:List Monomial} (hv:validP p=true) (hB:Bd p):poly_Parse (prt p)=some (p,0):=by
 have hok:∀ m∈p,okM m=true:=fun m hm=>valid_okM hv hm
 have h60:=(valid_okP hv).1
 rw [poly_Parse_b]
 have hend:ppEnd (prt p) p=some (p,0):=by
  unfold ppEnd
  rw [poly_Valid_eq p hB,poly_Print_eq p hB,hv]
  simp only [bnd_some,cond_true]
  rw [beq_self_eq_true];rfl
 by_cases hp:p=[]
 ·subst hp
  have:whl (ppBody (prt [])) 4294967296 ([],prt [])=some (.brk []):=by
   rw [show (4294967296:Nat)=4294967295+1 from rfl,whl_s];rfl
  rw [this]
  exact hend
 ·have h48:=prt_48 hok hp
  have e:prt p=polyS true p:=by unfold prt;rw [isEmpty_false hp];rfl
  have:=pp_rt h48 p true [] 4294967296 hok (by simp;omega) (by omega)
  rw [← e] at this
  rw [this]
  exact hend
end Go.Proofs.YtjfpcjnopbfekaaGreatDoor
/- PLAIN LAWS of layer 5: how the reference reads a monomial. -/
namespace Go.Sh
def Sfx (x s:Str):Prop:=∃ p,x=p++s
def pos (x s:Str):Int:=((x.length-s.length:Nat):Int)
theorem Sfx.len {x s:Str} (h:Sfx x s):s.length≤x.length:=by obtain ⟨p,rfl⟩:=h;simp
theorem Sfx.drop {x s:Str} (h:Sfx x s):x.drop (x.length-s.length)=s:=by
 obtain ⟨p,rfl⟩:=h
 simp
theorem Sfx.tail {x s:Str} {c:UInt8} (h:Sfx x (c::s)):Sfx x s:=by obtain ⟨p,rfl⟩:=h;exact ⟨p++[c],by simp⟩
theorem Sfx.refl (x:Str):Sfx x x:=⟨[],rfl⟩
theorem Sfx.trans {x s r:Str} (h:Sfx x s) (h2:Sfx s r):Sfx x r:=by
 obtain ⟨p,rfl⟩:=h
 obtain ⟨q,rfl⟩:=h2
 exact ⟨p++q,by simp⟩
theorem Sfx.get {x s:Str} {c:UInt8} (h:Sfx x (c::s)):x.getD (pos x (c::s)).toNat 0=c:=by
 have e:=h.drop
 have hl:=h.len
 unfold pos
 rw [Int.toNat_natCast,List.getD_eq_getElem?_getD]
 have:(x.drop (x.length-(c::s).length))[0]? = some c:=by rw [e];rfl
 rw [List.getElem?_drop,Nat.add_zero] at this
 rw [this];rfl
theorem Sfx.succ {x s:Str} {c:UInt8} (h:Sfx x (c::s)):pos x (c::s)+1=pos x s:=by
 have:=h.len
 unfold pos
 simp at this ⊢;omega
theorem Sfx.lt {x s:Str} {c:UInt8} (h:Sfx x (c::s)):0≤pos x (c::s)∧pos x (c::s)<(x.length:Int):=by
 have:=h.len
 unfold pos
 simp at this ⊢;omega
theorem pos_nil (x:Str):pos x []=(x.length:Int):=by simp [pos]
theorem pos_bd (x s:Str):0≤pos x s∧pos x s≤(x.length:Int):=by unfold pos;omega
end Go.Sh
namespace Go.Proofs.YtjfpcjnopbfekaaGreatDoor
open Go.Ab Go.Sh
def dg:Nat→Str→Int→Int×Str
 | 0,s,n=>(n,s)
 | _+1,[],n=>(n,[])
 | k+1,c::r,n=>bif isDig c then dg k r (w64 (w64 (10*n)+(((c-48)).toNat:Int))) else (n,c::r)
theorem dg_sfx:∀ (k:Nat) (s:Str) (n:Int),Sfx s (dg k s n).2
 | 0,s,n=>Sfx.refl s
 | k+1,[],n=>Sfx.refl _
 | k+1,c::r,n=>by
  unfold dg
  cases isDig c with
  | false=>exact Sfx.refl _
  | true =>
   obtain ⟨p,hp⟩:=dg_sfx k r (w64 (w64 (10*n)+(((c-48)).toNat:Int)))
   exact ⟨c::p,by rw [cond_true,List.cons_append,← hp]⟩
def numQ (s:Str):Int×Str:=bif (dg 14 s 0).2.length==s.length then (-1,s) else dg 14 s 0
theorem numQ_sfx (s:Str):Sfx s (numQ s).2:=by
 unfold numQ
 cases (dg 14 s 0).2.length==s.length with
 | true=>exact Sfx.refl s
 | false=>exact dg_sfx 14 s 0
theorem numQ_lt {s:Str} (h:0≤(numQ s).1):(numQ s).2.length<s.length:=by
 have hs:=(dg_sfx 14 s 0).len
 unfold numQ at h ⊢
 cases he:(dg 14 s 0).2.length==s.length with
 | true=>rw [he] at h;exact absurd h (show ¬ (0:Int) ≤ -1 by decide)
 | false =>
  rw [beq_eq_false_iff_ne] at he
  simp only [cond_false];omega
theorem sfx_eq {x s t:Str} (h1:Sfx x s) (h2:Sfx x t) (h:s.length=t.length):s=t:=by rw [← h1.drop,← h2.drop,h]
theorem pos_inj {x s t:Str} (h1:Sfx x s) (h2:Sfx x t):pos x s=pos x t↔s.length=t.length:=by
 have:=h1.len
 have:=h2.len
 unfold pos;omega
theorem num_loop (x:Str) (hx:x.length≤1000000) (s0:Str) (h0:Sfx x s0):∀ (k:Nat) (s:Str) (n:Int) (N:Nat),Sfx x s→s.length+(14-k)=s0.length→k≤14→s.length<N →
 (whl (σ:=(Int×Int)) (ε:=(Int×Int)) (ρ:=Empty) (fun s91 =>
  bif decide (s91.1<((x.length:Nat):Int)) then (
   grd (0≤s91.1∧s91.1<(x.length:Int)) <|
   bif decide (((x.getD s91.1.toNat 0).toNat:Int)≥48) then (
    bif decide (((x.getD s91.1.toNat 0).toNat:Int)≤57) then (
     bif decide ((w64 (s91.1-(pos x s0)))<14) then (
      some (.go ((w64 (s91.1+1)),(w64 ((w64 (10*s91.2))+(((x.getD s91.1.toNat 0-48)).toNat:Int)))))
     ) else (
      some (.brk (s91.1,s91.2))
     )
    ) else (
     some (.brk (s91.1,s91.2))
    )
   ) else (
    some (.brk (s91.1,s91.2))
   )
  ) else (
   some (.brk (s91.1,s91.2))
  )
 ) N (pos x s,n))=some (.brk (pos x (dg k s n).2,(dg k s n).1))
 | k,[],n,N,hs,h1,h2,h3=>by
  obtain ⟨M,rfl⟩:∃ M,N=M+1:=⟨N-1,by omega⟩
  rw [whl_s]
  try simp only []
  rw [decide_eq_false (by rw [pos_nil];omega)]
  cases k<;>rfl
 | 0,c::r,n,N,hs,h1,h2,h3=>by
  obtain ⟨M,rfl⟩:∃ M,N=M+1:=⟨N-1,by omega⟩
  have hlt:=hs.lt
  have hl:=hs.len
  have hl0:=h0.len
  rw [whl_s]
  try simp only []
  rw [decide_eq_true hlt.2,cond_true,grd_pos hlt]
  have hp:w64 (pos x (c::r)-pos x s0)=14:=by
   rw [w64_same (by have:=pos_bd x s0;omega) (by have:=pos_bd x s0;omega)]
   unfold pos;omega
  rw [hp,show decide ((14:Int)<14)=false from rfl]
  cases decide (((x.getD (pos x (c::r)).toNat 0).toNat:Int)≥48)<;>cases decide (((x.getD (pos x (c::r)).toNat 0).toNat:Int)≤57)<;>rfl
 | k+1,c::r,n,N,hs,h1,h2,h3=>by
  obtain ⟨M,rfl⟩:∃ M,N=M+1:=⟨N-1,by omega⟩
  have hlt:=hs.lt
  have hl:=hs.len
  have hl0:=h0.len
  simp only [List.length_cons] at h1 h3 hl
  have ih:=num_loop x hx s0 h0 k r (w64 (w64 (10*n)+(((c-48)).toNat:Int))) M hs.tail (by omega) (by omega) (by omega)
  have hp:w64 (pos x (c::r)-pos x s0)<14:=by
   rw [w64_same (by have:=pos_bd x s0;omega) (by have:=pos_bd x s0;omega)]
   unfold pos;simp only [List.length_cons];omega
  rw [whl_s]
  try simp only []
  rw [decide_eq_true hlt.2,cond_true,grd_pos hlt,hs.get,decide_eq_true hp,w64_same (n:=pos x (c::r)+1) (by omega) (by omega),hs.succ]
  unfold dg
  have hd:isDig c=(decide (((c.toNat:Nat):Int)≥48)&&decide (((c.toNat:Nat):Int)≤57)):=by
   unfold isDig
   congr 1<;>(rw [decide_eq_decide];omega)
  rw [hd]
  cases decide (((c.toNat:Nat):Int)≥48) with
  | false=>rfl
  | true =>
   cases decide (((c.toNat:Nat):Int)≤57) with
   | false=>rfl
   | true =>
    simp only [cond_true,Bool.and_self,bnd_some,stp]
    exact ih
theorem number_eq (x:Str) (hx:x.length≤1000000) (s:Str) (hs:Sfx x s):ref05_number x (pos x s)=some ((numQ s).1,pos x (numQ s).2):=by
 unfold ref05_number
 have hl:=hs.len
 have hsf:=dg_sfx 14 s 0
 rw [num_loop x hx s hs 14 s 0 4294967296 hs (by omega) (by omega) (by omega)]
 simp only [bnd_some,aftE]
 have hb:(pos x (dg 14 s 0).2==pos x s)=((dg 14 s 0).2.length==s.length):=by
  rw [Bool.eq_iff_iff,beq_iff_eq,beq_iff_eq]
  exact pos_inj (hs.trans hsf) hs
 rw [hb]
 unfold numQ
 cases he:(dg 14 s 0).2.length==s.length with
 | true =>
  have:(dg 14 s 0).2=s:=sfx_eq hsf (Sfx.refl s) (by simpa using he)
  rw [this];rfl
 | false=>rfl
/-! ### a monomial -/
def nst (c:UInt8):Bool := !(c==42||(c==94||(c==43||c==45)))
def powQ (s2:Str):Int×Str:=bif s2.head? == some 94 then numQ (s2.drop 1) else (1,s2)
def midQ (b:Bool) (s:Str) (coef:Int) (vs:List Str):Option (Str×Int×List Str) :=
 bif b&&decide ((numQ s).1≥0) then some ((numQ s).2,(numQ s).1,vs)
 else bif (decide ((powQ (s.dropWhile nst)).1<1)||(decide ((powQ (s.dropWhile nst)).1>8) || !nameS (s.takeWhile nst))) then none
 else some ((powQ (s.dropWhile nst)).2,coef,vs++List.replicate (powQ (s.dropWhile nst)).1.toNat (s.takeWhile nst))
theorem nst_loop (x:Str) (hx:x.length≤1000000):∀ (s:Str) (N:Nat),Sfx x s→s.length<N →
 (whl (σ:=Int) (ε:=Int) (ρ:=Empty) (fun s3008 =>
  bif decide (s3008<((x.length:Nat):Int)) then (
   grd (0≤s3008∧s3008<(x.length:Int)) <|
   bif (((x.getD s3008.toNat 0).toNat:Int)==42) then (
    some (.brk s3008)
   ) else (
    bif (((x.getD s3008.toNat 0).toNat:Int)==94) then (
     some (.brk s3008)
    ) else (
     bif (((x.getD s3008.toNat 0).toNat:Int)==43) then (
      some (.brk s3008)
     ) else (
      bif (((x.getD s3008.toNat 0).toNat:Int)==45) then (
       some (.brk s3008)
      ) else (
       some (.go (w64 (s3008+1)))
      )
     )
    )
   )
  ) else (
   some (.brk s3008)
  )
  ) N (pos x s))=some (.brk (pos x (s.dropWhile nst)))
 | [],N,hs,h=>by
  obtain ⟨M,rfl⟩:∃ M,N=M+1:=⟨N-1,by omega⟩
  rw [whl_s]
  try simp only []
  rw [decide_eq_false (by rw [pos_nil];omega)]
  rfl
 | c::r,N,hs,h=>by
  obtain ⟨M,rfl⟩:∃ M,N=M+1:=⟨N-1,by omega⟩
  have hlt:=hs.lt
  have ih:=nst_loop x hx r M hs.tail (by simp at h;omega)
  rw [whl_s]
  try simp only []
  rw [decide_eq_true hlt.2,cond_true,grd_pos hlt,hs.get,u8_beq c 42 42 rfl,u8_beq c 94 94 rfl,u8_beq c 43 43 rfl,u8_beq c 45 45 rfl,w64_same (by omega) (by omega),hs.succ,List.dropWhile_cons]
  unfold nst
  cases c==42 with
  | true=>rfl
  | false =>
   cases c==94 with
   | true=>rfl
   | false =>
    cases c==43 with
    | true=>rfl
    | false =>
     cases c==45 with
     | true=>rfl
     | false=>exact ih
theorem rep_down (v:Str) (q cf:Int):∀ (k N:Nat) (vs:List Str),k<N→vs.length+k≤8000000 →
 (whl (σ:=(Int×(List Str))) (ε:=(Out (Int×Int×(List Str)) (Stp (Int×Bool×Int×(List Str)) (Monomial×Int×Bool) (Monomial×Int×Bool)))) (ρ:=(Out (Int×Int×(List Str)) (Stp (Int×Bool×Int×(List Str)) (Monomial×Int×Bool) (Monomial×Int×Bool)))) (fun s3249 =>
  bif decide (s3249.1>0) then (
   grd ((s3249.2.length+1)*16≤140737488355328) <|
   some (.go ((w64 (s3249.1-1)),(s3249.2++[v])))
  ) else (
   some (.brk (.brk (q,cf,s3249.2)))
  )
  ) N (((k:Nat):Int),vs))=some (.brk (.brk (q,cf,vs++List.replicate k v)))
 | 0,N,vs,h,h2=>by
  obtain ⟨M,rfl⟩:∃ M,N=M+1:=⟨N-1,by omega⟩
  rw [whl_s]
  try simp only []
  rw [decide_eq_false (by omega)]
  simp [stp]
 | k+1,N,vs,h,h2=>by
  obtain ⟨M,rfl⟩:∃ M,N=M+1:=⟨N-1,by omega⟩
  have ih:=rep_down v q cf k M (vs++[v]) (by omega) (by simp;omega)
  rw [whl_s]
  try simp only []
  rw [decide_eq_true (by omega),cond_true,grd_pos (by omega),w64_same (by omega) (by omega),show (((k+1:Nat):Int)-1)=((k:Nat):Int) by omega]
  simp only [bnd_some,stp]
  rw [ih,List.append_assoc];rfl
end Go.Proofs.YtjfpcjnopbfekaaGreatDoor
/- PLAIN LAWS of layer 5: a round of the reference's reading. -/
namespace Go.Proofs.YtjfpcjnopbfekaaGreatDoor
open Go.Ab Go.Sh
theorem slice_eq (x s r t:Str) (hs:Sfx x s) (e:s=t++r):0≤pos x s∧pos x s≤pos x r∧pos x r≤(x.length:Int)∧((x.drop (pos x s).toNat).take ((pos x r).toNat-(pos x s).toNat))=t:=by
 have h1:=hs.len
 have hl:s.length=t.length+r.length:=by rw [e];simp
 unfold pos
 refine ⟨by omega,by omega,by omega,?_⟩
 rw [Int.toNat_natCast,Int.toNat_natCast,hs.drop,e]
 have:x.length-r.length-(x.length-(t++r).length)=t.length:=by simp only [List.length_append];omega
 rw [this];simp
def rmBody (x0:Str) (s2154:Int×Bool×Int×List Str):Option (Stp (Int×Bool×Int×(List Str)) (Monomial×Int×Bool) (Monomial×Int×Bool)) :=
 (ref05_number x0 s2154.1).bind fun y2162 =>
 ((
  bif s2154.2.1 then (
   some (true,decide (y2162.1≥0))
  ) else (
   some (false,false)
  )
 ):Option (Bool×Bool)).bind fun v2165 =>
 ((
  bif v2165.2 then (
   some (.brk (y2162.2,y2162.1,s2154.2.2.2))
  ) else (
   (whl (σ:=Int) (ε:=Int) (ρ:=Empty) (fun s3008 =>
    bif decide (s3008<((x0.length:Nat):Int)) then (
     grd (0≤s3008∧s3008<(x0.length:Int)) <|
     bif (((x0.getD s3008.toNat 0).toNat:Int)==42) then (
      some (.brk s3008)
     ) else (
      bif (((x0.getD s3008.toNat 0).toNat:Int)==94) then (
       some (.brk s3008)
      ) else (
       bif (((x0.getD s3008.toNat 0).toNat:Int)==43) then (
        some (.brk s3008)
       ) else (
        bif (((x0.getD s3008.toNat 0).toNat:Int)==45) then (
         some (.brk s3008)
        ) else (
         some (.go (w64 (s3008+1)))
        )
       )
      )
     )
    ) else (
     some (.brk s3008)
    )
   ) 4294967296 s2154.1).bind <| aftE fun u3156 =>
   grd (0≤s2154.1∧s2154.1≤u3156∧u3156≤(x0.length:Int)) <|
   ((
    bif decide (u3156<((x0.length:Nat):Int)) then (
     grd (0≤u3156∧u3156<(x0.length:Int)) <|
     some (((x0.getD u3156.toNat 0).toNat:Int)==94)
    ) else (
     some false
    )
   ):Option Bool).bind fun v3165 =>
   ((
    bif v3165 then (
     (ref05_number x0 (w64 (u3156+1))).bind fun y3189 =>
     some (y3189.2,y3189.1)
    ) else (
     some (u3156,1)
    )
   ):Option (Int×Int)).bind fun v3182 =>
   ((
    bif decide (v3182.2<1) then (
     some true
    ) else (
     bif decide (v3182.2>8) then (
      some true
     ) else (
      (ref04_Name ((x0.drop s2154.1.toNat).take (u3156.toNat-s2154.1.toNat))).bind fun y3221 =>
      some (!y3221)
     )
    )
   ):Option Bool).bind fun v3208 =>
   bif v3208 then (
    some (.ret (.ret ((Monomial.mk s2154.2.2.1 s2154.2.2.2),v3182.1,false)))
   ) else (
    (whl (σ:=(Int×(List Str))) (ε:=(Out (Int×Int×(List Str)) (Stp (Int×Bool×Int×(List Str)) (Monomial×Int×Bool) (Monomial×Int×Bool)))) (ρ:=(Out (Int×Int×(List Str)) (Stp (Int×Bool×Int×(List Str)) (Monomial×Int×Bool) (Monomial×Int×Bool)))) (fun s3249 =>
     bif decide (s3249.1>0) then (
      grd ((s3249.2.length+1)*16≤140737488355328) <|
      some (.go ((w64 (s3249.1-1)),(s3249.2++[((x0.drop s2154.1.toNat).take (u3156.toNat-s2154.1.toNat))])))
     ) else (
      some (.brk (.brk (v3182.1,s2154.2.2.1,s3249.2)))
     )
    ) 4294967296 (v3182.2,s2154.2.2.2)).bind <| aft some
   )
  )
 ):Option (Out (Int×Int×(List Str)) (Stp (Int×Bool×Int×(List Str)) (Monomial×Int×Bool) (Monomial×Int×Bool)))).bind (aft fun u2873 =>
  ((
   bif (u2873.1==((x0.length:Nat):Int)) then (
    some true
   ) else (
    grd (0≤u2873.1∧u2873.1<(x0.length:Int)) <|
    some (((x0.getD u2873.1.toNat 0).toNat:Int) != 42)
   )
  ):Option Bool).bind fun v3273 =>
  bif v3273 then (
   some (.ret ((Monomial.mk u2873.2.1 u2873.2.2),u2873.1,true))
  ) else (
   some (.go ((w64 (u2873.1+1)),false,u2873.2.1,u2873.2.2))
  )
 )
theorem ref05_monomial_b (x:Str) (x1:Int):ref05_monomial x x1=(whl (rmBody x) 4294967296 (x1,true,1,[])).bind (Sh.aft some):=rfl
def tailS (x:Str) (s:Str) (cf:Int) (vs:List Str):Stp (Int×Bool×Int×(List Str)) (Monomial×Int×Bool) (Monomial×Int×Bool) :=
 match s with
 | []=>.ret (⟨cf,vs⟩,pos x [],true)
 | y::t=>bif y==42 then .go (pos x t,false,cf,vs) else .ret (⟨cf,vs⟩,pos x (y::t),true)
theorem tail_eq (x:Str) (hx:x.length≤1000000) (s:Str) (hs:Sfx x s) (cf:Int) (vs:List Str):(((
 bif (pos x s==((x.length:Nat):Int)) then (
  some true
 ) else (
  grd (0≤pos x s∧pos x s<(x.length:Int)) <|
  some (((x.getD (pos x s).toNat 0).toNat:Int) != 42)
 )
 ):Option Bool).bind fun v3273 =>
 bif v3273 then (
  some (.ret ((Monomial.mk cf vs),pos x s,true))
 ) else (
  some (.go ((w64 (pos x s+1)),false,cf,vs))
 ))=some (tailS x s cf vs):=by
 cases s with
 | nil =>
  rw [pos_nil,beq_self_eq_true]
  simp only [cond_true,bnd_some,tailS,pos_nil]
 | cons y t =>
  have hlt:=hs.lt
  rw [show (pos x (y::t)==((x.length:Nat):Int))=false from beq_eq_false_iff_ne.2 (by omega),cond_false,grd_pos hlt,hs.get,w64_same (by omega) (by omega),hs.succ]
  have:(((y.toNat:Nat):Int) != 42) = !(y==42):=by
   have:=u8_beq y 42 42 rfl
   unfold bne
   rw [this]
  rw [this]
  simp only [bnd_some,tailS]
  cases y==42<;>rfl
theorem pow_eq (x:Str) (hx:x.length≤1000000) (s:Str) (hs:Sfx x s):(((
 bif decide (pos x s<((x.length:Nat):Int)) then (
  grd (0≤pos x s∧pos x s<(x.length:Int)) <|
  some (((x.getD (pos x s).toNat 0).toNat:Int)==94)
 ) else (
  some false
 )
 ):Option Bool).bind fun v3165 =>
 ((
  bif v3165 then (
   (ref05_number x (w64 (pos x s+1))).bind fun y3189 =>
   some (y3189.2,y3189.1)
  ) else (
   some (pos x s,1)
  )
 ):Option (Int×Int)))=some (pos x (powQ s).2,(powQ s).1):=by
 cases s with
 | nil =>
  rw [decide_eq_false (by rw [pos_nil];omega)];rfl
 | cons y t =>
  have hlt:=hs.lt
  rw [decide_eq_true hlt.2,cond_true,grd_pos hlt,hs.get,u8_beq y 94 94 rfl,w64_same (by omega) (by omega),hs.succ,number_eq x hx t hs.tail]
  simp only [bnd_some]
  unfold powQ
  have:((y::t).head? == some 94)=(y==94):=rfl
  rw [this]
  cases y==94<;>rfl
theorem powQ_sfx (s:Str):Sfx s (powQ s).2:=by
 unfold powQ
 cases s.head? == some 94 with
 | true=>exact Sfx.trans ⟨s.take 1,(List.take_append_drop 1 s).symm⟩ (numQ_sfx (s.drop 1))
 | false=>exact Sfx.refl s
theorem midQ_sfx {b:Bool} {s:Str} {cf:Int} {vs:List Str} {r:Str×Int×List Str} (h:midQ b s cf vs=some r):Sfx s r.1∧r.1.length<s.length∧r.2.2.length≤vs.length+8∧∀ v∈r.2.2,v∈vs∨v.length≤s.length:=by
 unfold midQ at h
 cases hb:(b&&decide ((numQ s).1≥0)) with
 | true =>
  rw [hb,cond_true] at h
  injection h with h
  subst h
  simp only [Bool.and_eq_true,decide_eq_true_eq] at hb
  exact ⟨numQ_sfx s,numQ_lt hb.2,by simp only;omega,fun v hv=>.inl hv⟩
 | false =>
  rw [hb,cond_false] at h
  cases hg:(decide ((powQ (s.dropWhile nst)).1<1)||(decide ((powQ (s.dropWhile nst)).1>8) || !nameS (s.takeWhile nst))) with
  | true=>rw [hg] at h;cases h
  | false =>
   rw [hg,cond_false] at h
   injection h with h
   subst h
   simp only [Bool.or_eq_false_iff,decide_eq_false_iff_not,Bool.not_eq_false'] at hg
   have hsf:Sfx s (s.dropWhile nst):=⟨s.takeWhile nst,(List.takeWhile_append_dropWhile).symm⟩
   have hp:=powQ_sfx (s.dropWhile nst)
   have hpl:=hp.len
   have hne:=name_ne hg.2.2
   have hsum:=congrArg List.length (List.takeWhile_append_dropWhile (p:=nst) (l:=s))
   rw [List.length_append] at hsum
   have:0<(s.takeWhile nst).length:=List.length_pos_iff.2 hne
   have ht:=takeWhile_le nst s
   refine ⟨hsf.trans hp,by simp only;omega,by simp;omega,fun v hv => ?_⟩
   rcases List.mem_append.1 hv with hv | hv
   ·exact .inl hv
   ·rw [(List.mem_replicate.1 hv).2];exact .inr ht
theorem rmBody_eq (x:Str) (hx:x.length≤1000000) (s:Str) (hs:Sfx x s) (b:Bool) (cf:Int) (vs:List Str) (hv:vs.length≤7000000) :
 ∃ q,rmBody x (pos x s,b,cf,vs)=some (match midQ b s cf vs with | none=>.ret (⟨cf,vs⟩,q,false) | some r=>tailS x r.1 r.2.1 r.2.2):=by
 have hsf:Sfx s (s.dropWhile nst):=⟨s.takeWhile nst,(List.takeWhile_append_dropWhile).symm⟩
 refine ⟨pos x (powQ (s.dropWhile nst)).2,?_⟩
 unfold rmBody
 simp only
 rw [number_eq x hx s hs]
 simp only [bnd_some]
 have e1:((bif b then (some (true,decide ((numQ s).1≥0))) else (some (false,false))):Option (Bool×Bool))=some (b,b&&decide ((numQ s).1≥0)):=by cases b<;>rfl
 rw [e1]
 simp only [bnd_some]
 cases hm:midQ b s cf vs with
 | none =>
  unfold midQ at hm
  cases hb:(b&&decide ((numQ s).1≥0)) with
  | true=>rw [hb] at hm;cases hm
  | false =>
   rw [hb,cond_false] at hm
   cases hg:(decide ((powQ (s.dropWhile nst)).1<1)||(decide ((powQ (s.dropWhile nst)).1>8) || !nameS (s.takeWhile nst))) with
   | false=>rw [hg] at hm;cases hm
   | true =>
    obtain ⟨s1,s2,s3,s4⟩:=slice_eq x s (s.dropWhile nst) (s.takeWhile nst) hs (List.takeWhile_append_dropWhile).symm
    have hp:=pow_eq x hx (s.dropWhile nst) (hs.trans hsf)
    rw [nst_loop x hx s 4294967296 hs (by have:=hs.len;omega)]
    simp only [cond_false,bnd_some,aftE]
    rw [grd_pos ⟨s1,s2,s3⟩,s4,← Option.bind_assoc,hp,ref04_Name_eq]
    simp only [bnd_some]
    have e2:((bif decide ((powQ (s.dropWhile nst)).1<1) then (some true) else (bif decide ((powQ (s.dropWhile nst)).1>8) then (some true) else (some (!nameS (s.takeWhile nst))))):Option Bool)=some true:=by
     revert hg
     cases decide ((powQ (s.dropWhile nst)).1<1)<;>cases decide ((powQ (s.dropWhile nst)).1>8)<;>cases nameS (s.takeWhile nst)<;>simp
    rw [e2];rfl
 | some r =>
  unfold midQ at hm
  cases hb:(b&&decide ((numQ s).1≥0)) with
  | true =>
   rw [hb,cond_true] at hm
   injection hm with hm
   subst hm
   simp only [cond_true,bnd_some,Sh.aft]
   exact tail_eq x hx (numQ s).2 (hs.trans (numQ_sfx s)) (numQ s).1 vs
  | false =>
   rw [hb,cond_false] at hm
   cases hg:(decide ((powQ (s.dropWhile nst)).1<1)||(decide ((powQ (s.dropWhile nst)).1>8) || !nameS (s.takeWhile nst))) with
   | true=>rw [hg] at hm;cases hm
   | false =>
    rw [hg,cond_false] at hm
    injection hm with hm
    subst hm
    obtain ⟨s1,s2,s3,s4⟩:=slice_eq x s (s.dropWhile nst) (s.takeWhile nst) hs (List.takeWhile_append_dropWhile).symm
    have hp:=pow_eq x hx (s.dropWhile nst) (hs.trans hsf)
    rw [nst_loop x hx s 4294967296 hs (by have:=hs.len;omega)]
    simp only [cond_false,bnd_some,aftE]
    rw [grd_pos ⟨s1,s2,s3⟩,s4,← Option.bind_assoc,hp,ref04_Name_eq]
    simp only [bnd_some]
    have hg2:=hg
    simp only [Bool.or_eq_false_iff,decide_eq_false_iff_not,Bool.not_eq_false'] at hg2
    have e2:((bif decide ((powQ (s.dropWhile nst)).1<1) then (some true) else (bif decide ((powQ (s.dropWhile nst)).1>8) then (some true) else (some (!nameS (s.takeWhile nst))))):Option Bool)=some false:=by
     rw [decide_eq_false hg2.1,decide_eq_false hg2.2.1,hg2.2.2];rfl
    rw [e2]
    simp only [bnd_some,cond_false]
    have hr:=rep_down (s.takeWhile nst) (pos x (powQ (s.dropWhile nst)).2) cf (powQ (s.dropWhile nst)).1.toNat 4294967296 vs (by omega) (by omega)
    rw [show (((powQ (s.dropWhile nst)).1.toNat:Nat):Int)=(powQ (s.dropWhile nst)).1 by omega] at hr
    rw [hr]
    simp only [bnd_some,Sh.aft]
    exact tail_eq x hx (powQ (s.dropWhile nst)).2 (hs.trans (hsf.trans (powQ_sfx _))) cf _
end Go.Proofs.YtjfpcjnopbfekaaGreatDoor
/- PLAIN LAWS of layer 5: the reference reads any monomial, and what is printed. -/
namespace Go.Proofs.YtjfpcjnopbfekaaGreatDoor
open Go.Ab Go.Sh
theorem rm_total (x:Str) (hx:x.length≤100000) (K:Nat):∀ (n:Nat) (s:Str) (b:Bool) (cf:Int) (vs:List Str) (N:Nat),s.length≤n→n<N→s.length≤K→Sfx x s→vs.length+8*s.length≤6000000→(∀ v∈vs,v.length≤K) →
 ∃ m q d,whl (rmBody x) N (pos x s,b,cf,vs)=some (.ret (m,q,d))∧m.Vars.length≤vs.length+8*s.length∧(∀ v∈m.Vars,v.length≤K)∧(d=true→∃ s',Sfx s s'∧s'.length<s.length∧q=pos x s'):=by
 intro n
 induction n with
 | zero =>
  intro s b cf vs N h1 h2 hK hs hv hvk
  obtain ⟨M,rfl⟩:∃ M,N=M+1:=⟨N-1,by omega⟩
  obtain ⟨q,hq⟩:=rmBody_eq x (by omega) s hs b cf vs (by omega)
  rw [whl_s,hq]
  simp only [bnd_some]
  cases hm:midQ b s cf vs with
  | none=>exact ⟨⟨cf,vs⟩,q,false,rfl,by simp only;omega,hvk,fun h=>by cases h⟩
  | some r=>have:=(midQ_sfx hm).2.1;omega
 | succ n ih =>
  intro s b cf vs N h1 h2 hK hs hv hvk
  obtain ⟨M,rfl⟩:∃ M,N=M+1:=⟨N-1,by omega⟩
  obtain ⟨q,hq⟩:=rmBody_eq x (by omega) s hs b cf vs (by omega)
  rw [whl_s,hq]
  simp only [bnd_some]
  cases hm:midQ b s cf vs with
  | none=>exact ⟨⟨cf,vs⟩,q,false,rfl,by simp only;omega,hvk,fun h=>by cases h⟩
  | some r =>
   obtain ⟨m1,m2,m3,m4⟩:=midQ_sfx hm
   have hk2:∀ v∈r.2.2,v.length≤K:=fun v hv=>by
    rcases m4 v hv with h | h
    ·exact hvk v h
    ·omega
   simp only
   unfold tailS
   cases hr:r.1 with
   | nil=>exact ⟨⟨r.2.1,r.2.2⟩,pos x [],true,rfl,by simp only;omega,hk2,fun _=>⟨[],by rw [← hr];exact m1,by rw [hr] at m2;exact m2,rfl⟩⟩
   | cons y t =>
    simp only
    rw [hr] at m1 m2
    simp only [List.length_cons] at m2
    cases hy:y==42 with
    | false=>exact ⟨⟨r.2.1,r.2.2⟩,pos x (y::t),true,rfl,by simp only;omega,hk2,fun _=>⟨y::t,m1,by simp only [List.length_cons];omega,rfl⟩⟩
    | true =>
     obtain ⟨m,q',d,i1,i2,i3,i4⟩:=ih t false r.2.1 r.2.2 M (by omega) (by omega) (by omega) (hs.trans m1).tail (by omega) hk2
     refine ⟨m,q',d,i1,by omega,i3,fun hd => ?_⟩
     obtain ⟨s',j1,j2,j3⟩:=i4 hd
     exact ⟨s',m1.tail.trans j1,by omega,j3⟩
theorem monomial_total (x:Str) (hx:x.length≤100000) (s:Str) (hs:Sfx x s):∃ m q d,ref05_monomial x (pos x s)=some (m,q,d)∧m.Vars.length≤8*s.length∧(∀ v∈m.Vars,v.length≤s.length)∧(d=true→∃ s',Sfx s s'∧s'.length<s.length∧q=pos x s'):=by
 have hl:=hs.len
 obtain ⟨m,q,d,h1,h2,h3,h4⟩:=rm_total x hx s.length s.length s true 1 [] 4294967296 (Nat.le_refl _) (by omega) (Nat.le_refl _) hs (by simp only [List.length_nil];omega) (by simp)
 refine ⟨m,q,d,by rw [ref05_monomial_b,h1];rfl,by simpa using h2,h3,h4⟩
/-! ### what is printed -/
theorem dg_dec (rest:Str) (hr:∀ x,rest.head? = some x→isDig x=false):∀ (d:Str) (k n:Nat),d.all isDig=true→d.length≤k→(n+1)*10 ^ d.length≤10 ^ 18→dg k (d++rest) (n:Int)=(((valD n d:Nat):Int),rest)
 | [],k,n,_,_,_=>by
  rw [List.nil_append]
  cases k with
  | zero=>rfl
  | succ k =>
   cases rest with
   | nil=>rfl
   | cons y t=>simp only [dg,hr y rfl,cond_false];rfl
 | c::d,k,n,h,hk,hb=>by
  obtain ⟨k,rfl⟩:∃ k',k=k'+1:=⟨k-1,by simp at hk;omega⟩
  simp only [List.all_cons,Bool.and_eq_true] at h
  have hcd:=h.1
  have hc:=h.1
  simp only [isDig,Bool.and_eq_true,decide_eq_true_eq] at hc
  have hp:1≤10 ^ d.length:=Nat.one_le_pow _ _ (by decide)
  rw [List.length_cons,Nat.pow_succ,Nat.mul_comm (10 ^ d.length) 10,← Nat.mul_assoc] at hb
  have hb1:(n+1)*10≤10 ^ 18:=Nat.le_trans (Nat.le_mul_of_pos_right _ hp) hb
  have hsub:(c-48).toNat=c.toNat-48:=UInt8.toNat_sub_of_le c 48 (by rw [UInt8.le_iff_toNat_le];exact hc.1)
  have e:w64 (w64 (10*(n:Int))+((c-48).toNat:Int))=((n*10+(c.toNat-48):Nat):Int):=by
   rw [w64_same (n:=10*(n:Int)) (by omega) (by omega),w64_same (by omega) (by omega),hsub];omega
  simp only [List.cons_append,dg,hcd,cond_true]
  rw [e,dg_dec rest hr d k (n*10+(c.toNat-48)) h.2 (by simp at hk;omega) (Nat.le_trans (Nat.mul_le_mul_right _ (by omega)) hb)]
  rfl
theorem numQ_dec (n:Nat) (h:n<10000000000000) (rest:Str) (hr:∀ x,rest.head? = some x→isDig x=false):numQ (dec n++rest)=((n:Int),rest):=by
 have hl:(dec n).length≤13:=dec_len_le 12 n (by omega)
 have:=dg_dec rest hr (dec n) 14 0 (dec_dig n).1 (by omega) (by
  have:10 ^ (dec n).length≤10 ^ 13:=Nat.pow_le_pow_right (by decide) hl
  omega)
 rw [dec_valD] at this
 have this:dg 14 (dec n++rest) 0=((n:Int),rest):=this
 have h0:0<(dec n).length:=List.length_pos_iff.2 (dec_ne n)
 unfold numQ
 rw [this,beq_eq_false_iff_ne.2 (by rw [List.length_append];simp only;omega)]
 rfl
theorem numQ_no {s:Str} (h:∀ x,s.head? = some x→isDig x=false):numQ s=(-1,s):=by
 unfold numQ
 cases s with
 | nil=>rfl
 | cons c r =>
  have:dg 14 (c::r) 0=(0,c::r):=by simp only [dg,h c rfl,cond_false]
  rw [this]
  simp
def Bh (T:Str):Prop:=∀ x,T.head? = some x→x=42∨x=43∨x=45
theorem Bh.dig {T:Str} (h:Bh T):∀ x,T.head? = some x→isDig x=false:=fun x hx=>by
 rcases h x hx with rfl | rfl | rfl<;>decide
theorem Bh.nst {T:Str} (h:Bh T):∀ x,T.head? = some x→nst x=false:=fun x hx=>by
 rcases h x hx with rfl | rfl | rfl<;>decide
theorem mid_run (b:Bool) {v:Str} {n:Nat} (hv:nameS v=true) (h1:1≤n) (h8:n≤8) {T:Str} (hT:Bh T) (cf:Int) (vs:List Str):midQ b (rt (v,n)++T) cf vs=some (T,cf,vs++List.replicate n v):=by
 obtain ⟨c,r,e,hd,ha⟩:=name_chr hv
 have hnum:∀ t,numQ (v++t)=(-1,v++t):=fun t=>numQ_no fun x hx=>by
  rw [e] at hx
  have:c=x:=by simpa using hx
  rw [← this];exact hd
 have hall:v.all nst=true:=List.all_eq_true.2 fun x hx=>by
  have:=isNm_ne (List.all_eq_true.1 ha x hx)
  simp [nst,this.1,this.2.1,this.2.2.1,this.2.2.2]
 by_cases hn:1<n
 ·have hrt:rt (v,n)=v++94::dec n:=by unfold rt;simp only;rw [decide_eq_true hn];rfl
  rw [hrt,List.append_assoc]
  obtain ⟨t1,t2⟩:=takeWhile_all nst v (94::dec n++T) hall (fun x hx=>by
   have:(94:UInt8)=x:=by simpa using hx
   subst this;decide)
  have hp:powQ (94::dec n++T)=((n:Int),T):=by
   unfold powQ
   rw [show ((94::dec n++T).head? == some 94)=true from rfl]
   exact numQ_dec n (by omega) T hT.dig
  unfold midQ
  rw [hnum,show (b&&decide ((-1:Int)≥0))=false by cases b<;>rfl,cond_false,t1,t2,hp,hv,decide_eq_false (by omega),decide_eq_false (by omega)]
  simp
 ·obtain rfl:n=1:=by omega
  have hrt:rt (v,1)=v:=by unfold rt;simp
  rw [hrt]
  obtain ⟨t1,t2⟩:=takeWhile_all nst v T hall hT.nst
  have hp:powQ T=(1,T):=by
   unfold powQ
   have:(T.head? == some 94)=false:=by
    rw [beq_eq_false_iff_ne]
    intro h
    rcases hT 94 h with h | h | h<;>exact absurd h (by decide)
   rw [this];rfl
  unfold midQ
  rw [hnum,show (b&&decide ((-1:Int)≥0))=false by cases b<;>rfl,cond_false,t1,t2,hp,hv]
  simp
theorem mid_num (c:Nat) (h:c<10000000000000) {T:Str} (hT:Bh T) (cf:Int) (vs:List Str):midQ true (dec c++T) cf vs=some (T,(c:Int),vs):=by
 unfold midQ
 rw [numQ_dec c h T hT.dig]
 simp
def flatR (L:List (Str×Nat)):List Str:=(L.map fun e=>List.replicate e.2 e.1).flatten
theorem tail_rest (x:Str) {rest:Str} (hr:∀ y,rest.head? = some y→y=43∨y=45) (cf:Int) (vs:List Str):tailS x rest cf vs = .ret (⟨cf,vs⟩,pos x rest,true):=by
 cases rest with
 | nil=>rfl
 | cons y t =>
  unfold tailS
  have:(y==42)=false:=by
   rw [beq_eq_false_iff_ne]
   rcases hr y rfl with rfl | rfl<;>decide
  simp only [this,cond_false]
theorem rm_runs (x:Str) (hx:x.length≤1000000) {rest:Str} (hr:∀ y,rest.head? = some y→y=43∨y=45):∀ (L:List (Str×Nat)) (e:Str×Nat) (N:Nat) (b:Bool) (cf:Int) (vs:List Str),(∀ d∈e::L,nameS d.1=true∧1≤d.2∧d.2≤8)→Sfx x (jn ((e::L).map rt)++rest)→L.length+1<N→vs.length+8*L.length≤1000 →
 whl (rmBody x) N (pos x (jn ((e::L).map rt)++rest),b,cf,vs)=some (.ret (⟨cf,vs++flatR (e::L)⟩,pos x rest,true))
 | [],e,N,b,cf,vs,h,hs,hN,hv=>by
  obtain ⟨M,rfl⟩:∃ M,N=M+1:=⟨N-1,by omega⟩
  obtain ⟨h1,h2,h3⟩:=h e (by simp)
  obtain ⟨q,hq⟩:=rmBody_eq x hx _ hs b cf vs (by omega)
  have hm:=mid_run b h1 h2 h3 (T:=rest) (fun y hy=>.inr (hr y hy)) cf vs
  have e0:jn (([e]:List (Str×Nat)).map rt)++rest=rt (e.1,e.2)++rest:=rfl
  rw [e0] at hq ⊢
  rw [whl_s,hq,hm]
  simp only [bnd_some]
  rw [tail_rest x hr]
  simp [stp,flatR]
 | e2::L,e,N,b,cf,vs,h,hs,hN,hv=>by
  obtain ⟨M,rfl⟩:∃ M,N=M+1:=⟨N-1,by omega⟩
  simp only [List.length_cons] at hN hv
  obtain ⟨h1,h2,h3⟩:=h e (by simp)
  obtain ⟨q,hq⟩:=rmBody_eq x hx _ hs b cf vs (by omega)
  have e0:jn ((e::e2::L).map rt)++rest=rt (e.1,e.2)++(42::(jn ((e2::L).map rt)++rest)):=by
   show (rt e++42::jn ((e2::L).map rt))++rest=_
   rw [List.append_assoc];rfl
  have hm:=mid_run b h1 h2 h3 (T:=42::(jn ((e2::L).map rt)++rest)) (fun y hy=>by
   have:(42:UInt8)=y:=by simpa using hy
   exact .inl this.symm) cf vs
  rw [e0] at hq hs ⊢
  have hs2:Sfx x (jn ((e2::L).map rt)++rest):=(hs.trans ⟨rt (e.1,e.2),rfl⟩).tail
  rw [whl_s,hq,hm]
  simp only [bnd_some,tailS,beq_self_eq_true,cond_true,stp]
  rw [rm_runs x hx hr L e2 M false cf (vs++List.replicate e.2 e.1) (fun d hd=>h d (by simp at hd ⊢;exact .inr hd)) hs2 (by omega) (by simp;omega)]
  simp [flatR]
theorem monomial_T (x:Str) (hx:x.length≤1000000) {rest:Str} (hr:∀ y,rest.head? = some y→y=43∨y=45) {c:Nat} {V:List Str} (hc:c<10000000000000) (hV:V.length≤8) (hv:∀ v∈V,nameS v=true) (hs:Sfx x (monoT c V++rest)) :
 ref05_monomial x (pos x (monoT c V++rest))=some (⟨(c:Int),V⟩,pos x rest,true):=by
 have hr8:∀ e∈runs V,nameS e.1=true∧1≤e.2∧e.2≤8:=fun e he=>by
  obtain ⟨h1,h2,h3⟩:=(runs_len V.length V (Nat.le_refl _)).2 e he
  exact ⟨hv _ h1,h2,by omega⟩
 have hrl:=(runs_len V.length V (Nat.le_refl _)).1
 have hun:flatR (runs V)=V:=unruns V.length V (Nat.le_refl _)
 rw [ref05_monomial_b]
 unfold monoT monoP numP at hs ⊢
 cases hb:(c==1 && !V.isEmpty) with
 | true =>
  rw [hb] at hs
  simp only [cond_true,List.nil_append] at hs ⊢
  simp only [Bool.and_eq_true,beq_iff_eq,Bool.not_eq_true'] at hb
  cases hL:runs V with
  | nil =>
   have:V≠[]:=by intro e;subst e;simp at hb
   exact absurd hL (runs_ne this)
  | cons e L =>
   rw [hL] at hs hr8 hrl hun
   simp only [List.length_cons] at hrl
   rw [rm_runs x hx hr L e 4294967296 true 1 [] hr8 hs (by omega) (by simp only [List.length_nil];omega)]
   simp only [bnd_some,Sh.aft,List.nil_append]
   rw [hun,hb.1];rfl
 | false =>
  rw [hb] at hs
  simp only [cond_false] at hs ⊢
  cases hL:runs V with
  | nil =>
   have hVn:V=[]:=by
    cases V with
    | nil=>rfl
    | cons v V=>rw [runs] at hL;cases hL
   rw [hL] at hs
   have e0:jn ([dec c]++([]:List (Str×Nat)).map rt)++rest=dec c++rest:=rfl
   rw [e0] at hs ⊢
   obtain ⟨q,hq⟩:=rmBody_eq x hx _ hs true 1 [] (by simp)
   have hm:=mid_num c hc (T:=rest) (fun y hy=>.inr (hr y hy)) 1 []
   rw [show (4294967296:Nat)=4294967295+1 from rfl,whl_s,hq,hm]
   simp only [bnd_some]
   rw [tail_rest x hr,hVn];rfl
  | cons e L =>
   rw [hL] at hs hr8 hrl hun
   simp only [List.length_cons] at hrl
   have e0:jn ([dec c]++(e::L).map rt)++rest=dec c++(42::(jn ((e::L).map rt)++rest)):=by
    show (dec c++42::jn ((e::L).map rt))++rest=_
    rw [List.append_assoc];rfl
   rw [e0] at hs ⊢
   obtain ⟨q,hq⟩:=rmBody_eq x hx _ hs true 1 [] (by simp)
   have hm:=mid_num c hc (T:=42::(jn ((e::L).map rt)++rest)) (fun y hy=>by
    have:(42:UInt8)=y:=by simpa using hy
    exact .inl this.symm) 1 []
   have hs2:Sfx x (jn ((e::L).map rt)++rest):=(hs.trans ⟨dec c,rfl⟩).tail
   rw [show (4294967296:Nat)=4294967295+1 from rfl,whl_s,hq,hm]
   simp only [bnd_some,tailS,beq_self_eq_true,cond_true,stp]
   rw [rm_runs x hx hr L e 4294967295 false (c:Int) [] hr8 hs2 (by omega) (by simp only [List.length_nil];omega)]
   simp only [bnd_some,Sh.aft,List.nil_append]
   rw [hun]
end Go.Proofs.YtjfpcjnopbfekaaGreatDoor
/- PLAIN LAW: the degree of a product is the sum of the degrees. -/
/- PLAIN LAWS of layer 5: sums of polynomials, numbers, equality. -/
namespace Go.Proofs.YtjfpcjnopbfekaaGreatDoor
open Go.Ab Go.Sh Go.Sort
theorem sameTexts_self (V:List Str):ref01_SameTexts V V=some true:=by
 unfold ref01_SameTexts
 rw [show ((((V.length:Nat):Int)==((V.length:Nat):Int)))=true by simp]
 simp only [cond_true]
 rw [cnt_all (r:=false) (fun _=>true) _ _ () (fun j u _ hj=>by
  rw [grd_pos (by omega)]
  simp)]
 have:(List.range' 0 (V.length-0)).all (fun _=>true)=true:=by simp
 rw [this];rfl
theorem equal_self (p:List Monomial):ref05_Equal p p=some true:=by
 unfold ref05_Equal
 rw [show ((((p.length:Nat):Int)==((p.length:Nat):Int)))=true by simp]
 simp only [cond_true]
 rw [cnt_all (r:=false) (fun _=>true) _ _ () (fun j u _ hj=>by
  rw [grd_pos (by omega),sameTexts_self]
  simp)]
 have:(List.range' 0 (p.length-0)).all (fun _=>true)=true:=by simp
 rw [this];rfl
end Go.Proofs.YtjfpcjnopbfekaaGreatDoor
/- PLAIN LAW of layer 5: texts of polynomials. -/
namespace Go.Proofs.YtjfpcjnopbfekaaGreatDoor
open Go.Ab Go.Sh
def rpBody (x0:Str) (s83:(List Monomial)×Int):Option (Stp ((List Monomial)×Int) (List Monomial) ((List Monomial)×Int)) :=
 bif decide (s83.2<((x0.length:Nat):Int)) then (
  grd (0≤s83.2∧s83.2<(x0.length:Int)) <|
  ((
   bif (((x0.getD s83.2.toNat 0).toNat:Int)==45) then (
    some ((w64 (s83.2+1)),(-1))
   ) else (
    bif (((x0.getD s83.2.toNat 0).toNat:Int)==43) then (
     some ((w64 (s83.2+1)),1)
    ) else (
     some (s83.2,1)
    )
   )
  ):Option (Int×Int)).bind fun v152 =>
  (ref05_monomial x0 v152.1).bind fun y166 =>
  bif y166.2.2 then (
   bif decide (((s83.1.length:Nat):Int)>60) then (
    some (.ret ([],6))
   ) else (
    bif ((w64 (y166.1.Coef*v152.2))==0) then (
     some (.go (s83.1,y166.2.1))
    ) else (
     grd ((s83.1.length+1)*32≤140737488355328) <|
     some (.go ((s83.1++[(Monomial.mk (w64 (y166.1.Coef*v152.2)) y166.1.Vars)]),y166.2.1))
    )
   )
  ) else (
   some (.ret ([],6))
  )
 ) else (
  some (.brk s83.1)
 )
def rpEnd (x0:Str) (u199:List Monomial):Option ((List Monomial)×Int) :=
 bif (x0==[]) then (
  some ([],6)
 ) else (
  (ref05_Print u199).bind fun y214 =>
  bif (y214==x0) then (
   some (u199,0)
  ) else (
   some ([],6)
  )
 )
theorem ref05_Parse_b (x:Str):ref05_Parse x=(whl (rpBody x) 4294967296 ([],0)).bind (Sh.aft (rpEnd x)):=rfl
theorem rp_nil (x:Str) (acc:List Monomial):rpBody x (acc,pos x [])=some (.brk acc):=by
 unfold rpBody
 simp only
 rw [decide_eq_false (by rw [pos_nil];omega)];rfl
def rpStep (acc:List Monomial) (c:UInt8) (m:Monomial×Int×Bool):Stp ((List Monomial)×Int) (List Monomial) ((List Monomial)×Int) :=
 bif m.2.2 then (bif decide (acc.length>60) then .ret ([],6) else bif w64 (m.1.Coef*sg1 c)==0 then .go (acc,m.2.1) else .go (acc++[⟨w64 (m.1.Coef*sg1 c),m.1.Vars⟩],m.2.1)) else .ret ([],6)
theorem tl1_sfx {x:Str} {c:UInt8} {r:Str} (h:Sfx x (c::r)):Sfx x (tl1 c r):=by
 unfold tl1
 cases (c==45||c==43) with
 | true=>exact h.tail
 | false=>exact h
theorem rp_cons (x:Str) (hx:x.length≤1000000) (acc:List Monomial) (ha:acc.length≤1000) (c:UInt8) (r:Str) (hs:Sfx x (c::r)) {m:Monomial×Int×Bool} (hm:ref05_monomial x (pos x (tl1 c r))=some m) :
 rpBody x (acc,pos x (c::r))=some (rpStep acc c m):=by
 have hlt:=hs.lt
 unfold rpBody
 simp only
 rw [decide_eq_true hlt.2,cond_true,grd_pos hlt,hs.get,u8_beq c 45 45 rfl,u8_beq c 43 43 rfl,w64_same (by omega) (by omega),hs.succ]
 have e1:((bif c==45 then (some (pos x r,(-1))) else (bif c==43 then (some (pos x r,1)) else (some (pos x (c::r),1)))):Option (Int×Int))=some (pos x (tl1 c r),sg1 c):=by
  unfold tl1 sg1
  cases c==45<;>cases c==43<;>rfl
 rw [e1]
 simp only [bnd_some]
 rw [hm]
 simp only [bnd_some]
 unfold rpStep
 cases m.2.2 with
 | false=>rfl
 | true =>
  simp only [cond_true]
  by_cases h60:acc.length>60
  ·rw [decide_eq_true (show ((acc.length:Nat):Int)>60 by omega),decide_eq_true h60];rfl
  ·rw [decide_eq_false (show ¬ ((acc.length:Nat):Int)>60 by omega),decide_eq_false h60,grd_pos (by omega)]
   cases w64 (m.1.Coef*sg1 c)==0<;>rfl
theorem rp_total (x:Str) (hx:x.length≤80000):∀ (n:Nat) (s:Str) (acc:List Monomial) (N:Nat),s.length≤n→n<N→Sfx x s→okA 80001 acc →
 (∃ u,whl (rpBody x) N (acc,pos x s)=some (.brk u)∧okA 80001 u)∨whl (rpBody x) N (acc,pos x s)=some (.ret ([],6)):=by
 intro n
 induction n with
 | zero =>
  intro s acc N h1 h2 hs hA
  obtain ⟨M,rfl⟩:∃ M,N=M+1:=⟨N-1,by omega⟩
  have:s=[]:=List.eq_nil_of_length_eq_zero (by omega)
  subst this
  exact .inl ⟨acc,by rw [whl_s,rp_nil];rfl,hA⟩
 | succ n ih =>
  intro s acc N h1 h2 hs hA
  obtain ⟨M,rfl⟩:∃ M,N=M+1:=⟨N-1,by omega⟩
  cases s with
  | nil=>exact .inl ⟨acc,by rw [whl_s,rp_nil];rfl,hA⟩
  | cons c r =>
   have hsl:=hs.len
   simp only [List.length_cons] at h1 hsl
   have hl:=tl1_len c r
   have ha:=hA.1
   have hts:=tl1_sfx hs
   obtain ⟨m,q,d,e1,e2,e3,e4⟩:=monomial_total x (by omega) (tl1 c r) hts
   rw [whl_s,rp_cons x (by omega) acc (by omega) c r hs e1]
   simp only [bnd_some]
   unfold rpStep
   simp only
   cases d with
   | false=>exact .inr rfl
   | true =>
    obtain ⟨s',j1,j2,rfl⟩:=e4 rfl
    by_cases h60:acc.length>60
    ·rw [decide_eq_true h60];exact .inr rfl
    ·rw [decide_eq_false h60]
     simp only [cond_true,cond_false]
     cases w64 (m.Coef*sg1 c)==0 with
     | true=>exact ih s' acc M (by omega) (by omega) (hts.trans j1) hA
     | false =>
      refine ih s' _ M (by omega) (by omega) (hts.trans j1) ⟨by rw [List.length_append];simp only [List.length_cons,List.length_nil];omega,fun y hy => ?_⟩
      rcases List.mem_append.1 hy with hy | hy
      ·exact hA.2 y hy
      ·have:y=⟨w64 (m.Coef*sg1 c),m.Vars⟩:=by simpa using hy
       subst this
       exact ⟨by simp only;omega,fun v hv=>by have:=e3 v hv;omega⟩
theorem rpEnd_good (x:Str) {u:List Monomial} (hu:okA 80001 u):∃ r,rpEnd x u=some r∧goodR x r:=by
 have hB:=okA_Bd (K:=80001) (by omega) hu
 unfold rpEnd
 rw [ref05_Print_eq u hB,nil_beq]
 simp only [bnd_some]
 cases hn:x.isEmpty with
 | true=>exact ⟨_,rfl,.inl rfl⟩
 | false =>
  simp only [cond_false]
  cases hv:validP u with
  | false =>
   simp only [cond_false]
   have:(([]:Str)==x)=false:=by
    rw [beq_eq_false_iff_ne]
    intro e;subst e;cases hn
   rw [this]
   exact ⟨_,rfl,.inl rfl⟩
  | true =>
   simp only [cond_true]
   cases he:prt u==x with
   | false=>exact ⟨_,rfl,.inl rfl⟩
   | true=>exact ⟨_,rfl,.inr ⟨rfl,hv,by simpa using he⟩⟩
theorem ref05_Parse_total (x:Str) (hx:x.length≤80000):∃ r,ref05_Parse x=some r∧goodR x r:=by
 rw [ref05_Parse_b]
 have h0:pos x x=0:=by unfold pos;simp
 have:=rp_total x hx x.length x [] 4294967296 (Nat.le_refl _) (by omega) (Sfx.refl x) (okA_nil _)
 rw [h0] at this
 rcases this with ⟨u,h,hu⟩ | h
 ·rw [h]
  simp only [bnd_some,Sh.aft]
  exact rpEnd_good x hu
 ·rw [h]
  exact ⟨_,rfl,.inl rfl⟩
theorem rest_hd (p:List Monomial):∀ x,(polyS false p).head? = some x→x=43∨x=45:=fun x hx=>by
 have:=rest_ns p x hx
 unfold ns at this
 simp only [Bool.not_eq_false',Bool.or_eq_true,beq_iff_eq] at this
 exact this
theorem rp_rt (x:Str) (hx:x.length≤1000000):∀ (p:List Monomial) (f:Bool) (acc:List Monomial) (N:Nat),(∀ m∈p,okM m=true)→acc.length+p.length≤60→p.length<N→Sfx x (polyS f p) →
 whl (rpBody x) N (acc,pos x (polyS f p))=some (.brk (acc++p))
 | [],f,acc,N,_,_,h3,_=>by
  obtain ⟨M,rfl⟩:∃ M,N=M+1:=⟨N-1,by omega⟩
  rw [show polyS f []=[] by simp [polyS],whl_s,rp_nil]
  simp [stp]
 | m::p,f,acc,N,h1,h2,h3,hs=>by
  obtain ⟨M,rfl⟩:∃ M,N=M+1:=⟨N-1,by omega⟩
  simp only [List.length_cons] at h2 h3
  have hm:=h1 m (by simp)
  have hok:=okM_of hm
  obtain ⟨c,r,e1,e2,e3⟩:=mono_head f hm (polyS false p)
  have e0:polyS f (m::p)=c::r:=e1
  rw [e0] at hs ⊢
  have hts:=tl1_sfx hs
  have hmm:=monomial_T x hx (rest_hd p) (c:=m.Coef.natAbs) (V:=m.Vars) (by have:=hok.1.1;omega) hok.2.1 (fun v hv=>(hok.2.2 v hv).1) (by rw [← e2];exact hts)
  rw [← e2] at hmm
  have hs3:Sfx x (polyS false p):=by
   rw [e2] at hts
   exact hts.trans ⟨_,rfl⟩
  have ih:=rp_rt x hx p false (acc++[m]) M (fun y hy=>h1 y (by simp [hy])) (by simp;omega) (by omega) hs3
  rw [whl_s,rp_cons x hx acc (by omega) c r hs hmm]
  simp only [bnd_some]
  unfold rpStep
  simp only
  rw [e3,w64_same (by have:=hok.1.1;omega) (by have:=hok.1.1;omega),decide_eq_false (by omega),beq_eq_false_iff_ne.2 hok.1.2]
  simp only [cond_true,cond_false,stp]
  rw [ih]
  simp
theorem mono0:monoT 0 []=[48]:=by
 unfold monoT monoP numP
 rw [runs,dec_small (by decide)];rfl
theorem ref05_Parse_print {p:List Monomial} (hv:validP p=true) (hB:Bd p):ref05_Parse (prt p)=some (p,0):=by
 have hok:∀ m∈p,okM m=true:=fun m hm=>valid_okM hv hm
 have h60:=(valid_okP hv).1
 rw [ref05_Parse_b]
 have hne:(prt p).isEmpty=false:=by
  unfold prt
  cases p with
  | nil=>rfl
  | cons m p =>
   obtain ⟨c,r,e1,_,_⟩:=mono_head true (hok m (by simp)) (polyS false p)
   have:polyS true (m::p)=c::r:=e1
   simp only [List.isEmpty_cons,cond_false,this]
 have hend:rpEnd (prt p) p=some (p,0):=by
  unfold rpEnd
  rw [ref05_Print_eq p hB,nil_beq,hne,hv]
  simp only [bnd_some,cond_true,cond_false]
  rw [beq_self_eq_true];rfl
 have h0:∀ x:Str,pos x x=0:=fun x=>by unfold pos;simp
 by_cases hp:p=[]
 ·subst hp
  have hm:=monomial_T [48] (by decide) (rest:=[]) (fun y hy=>by cases hy) (c:=0) (V:=[]) (by decide) (by decide) (by simp) (by
   rw [mono0];exact Sfx.refl _)
  have e48:monoT 0 []++[]=tl1 48 []:=by rw [mono0];rfl
  rw [e48] at hm
  have hb:=rp_cons [48] (by decide) [] (by simp) 48 [] (Sfx.refl _) hm
  have hg:rpStep [] 48 (⟨((0:Nat):Int),[]⟩,pos [48] [],true) = .go ([],pos [48] []):=rfl
  have e0:prt []=[48]:=rfl
  rw [e0] at hend ⊢
  rw [show (4294967296:Nat)=4294967294+1+1 from rfl,whl_s,show (([],0):List Monomial×Int)=([],pos [48] [48]) from rfl,hb,hg]
  simp only [bnd_some,stp]
  rw [whl_s,rp_nil]
  exact hend
 ·have e:prt p=polyS true p:=by unfold prt;rw [isEmpty_false hp];rfl
  have hl:=polyS_len true p hok
  rw [← e] at hl
  have:=rp_rt (prt p) (by omega) p true [] 4294967296 hok (by simp;omega) (by omega) (by rw [← e];exact Sfx.refl _)
  rw [← e,h0] at this
  rw [this]
  exact hend
theorem both_read (x:Str) (hx:x.length≤80000):∃ r,poly_Parse x=some r∧ref05_Parse x=some r∧goodR x r:=by
 obtain ⟨r,h1,h2⟩:=poly_Parse_total x hx
 obtain ⟨t,h3,h4⟩:=ref05_Parse_total x hx
 have vb:∀ {p:List Monomial},validP p=true→Bd p:=fun {p} hv=>⟨by have:=(valid_okP hv).1;omega,fun m hm=>by
  have:=okM_of (valid_okM hv hm)
  exact ⟨by omega,fun v hv=>by have:=(this.2.2 v hv).2;omega⟩⟩
 rcases h2 with h2 | h2
 ·rcases h4 with h4 | h4
  ·exact ⟨r,h1,by rw [h3,h4,h2],.inl h2⟩
  ·have:=poly_Parse_print h4.2.1 (vb h4.2.1)
   rw [h4.2.2,h1] at this
   rw [h2] at this
   have:=congrArg (fun q:Option (List Monomial×Int)=>q.map (·.2)) this
   exact absurd this (by simp)
 ·have:=ref05_Parse_print h2.2.1 (vb h2.2.1)
  rw [h2.2.2] at this
  exact ⟨r,h1,by rw [this,← h2.1],.inr h2⟩
theorem polyText_law (x0:List Monomial) (x1:Str):law05_PolyText x0 x1=some true:=by
 unfold law05_PolyText
 rw [law05_awake_true]
 simp only [bnd_some,cond_true]
 rw [ref05_Few_eq]
 simp only [bnd_some]
 cases hf:fewP x0 8 with
 | false=>rfl
 | true =>
  have hB:=few_Bd hf (by decide)
  simp only [cond_true]
  by_cases hl:x1.length>100
  ·rw [decide_eq_true (by omega)];rfl
  ·rw [decide_eq_false (by omega),cond_false,poly_Print_eq x0 hB,ref05_Print_eq x0 hB]
   simp only [bnd_some]
   rw [beq_self_eq_true,cond_true,ref05_Valid_eq x0 hB]
   obtain ⟨r,h1,h2,h3⟩:=both_read x1 (by omega)
   have hrest:((poly_Parse x1).bind fun y90 =>
    (ref05_Parse x1).bind fun y93 =>
    (ref05_Equal y90.1 y93.1).bind fun y96 =>
    bif y96 then (
     bif (y90.2==y93.2) then (
      bif (y90.2==0) then (
       (poly_Print y90.1).bind fun y132 =>
       some (y132==x1)
      ) else (
       some true
      )
     ) else (
      some false
     )
    ) else (
     some false
    ))=some true:=by
    rw [h1,h2]
    simp only [bnd_some]
    rw [equal_self]
    simp only [bnd_some,cond_true,beq_self_eq_true]
    rcases h3 with rfl | ⟨e1,e2,e3⟩
    ·rfl
    ·have hBr:Bd r.1:=⟨by have:=(valid_okP e2).1;omega,fun m hm=>by
      have:=okM_of (valid_okM e2 hm)
      exact ⟨by omega,fun v hv=>by have:=(this.2.2 v hv).2;omega⟩⟩
     rw [e1,poly_Print_eq r.1 hBr,e2]
     simp only [beq_self_eq_true,cond_true,bnd_some]
     rw [e3,beq_self_eq_true]
   cases hv:validP x0 with
   | false =>
    simp only [cond_false]
    obtain ⟨q,g1,_⟩:=poly_Parse_total [] (by simp)
    rw [g1]
    simp only [bnd_some,cond_false,Sh.aft]
    exact hrest
   | true =>
    simp only [cond_true]
    rw [poly_Parse_print hv hB]
    simp only [bnd_some,cond_true,beq_self_eq_true]
    rw [equal_self]
    simp only [bnd_some,cond_true,Sh.aft]
    exact hrest
end Go.Proofs.YtjfpcjnopbfekaaGreatDoor
