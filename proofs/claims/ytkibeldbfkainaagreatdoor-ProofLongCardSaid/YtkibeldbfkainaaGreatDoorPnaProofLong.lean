/- Plain laws: what the walked functions compute answers as the statement says. -/
import Derived.Test.YtkibeldbfkainaaGreatDoorWkbProofLong
import Derived.Lib.ItoaNum
import Derived.Lib.ItoaMem
import Derived.Lib.AtoiAll
import Derived.Lib.CountLaws
import Derived.Lib.SplitLaws
import Derived.Lib.ItoaLen
import Derived.Lib.AtoiAllCases
import Derived.KernelRfl
set_option linter.unusedSimpArgs false
set_option linter.unusedVariables false
namespace Go.Sh
open Go.Ab
section
variable {α σ ε ρ:Type}
theorem cO {body:Nat→Unit→Option (kr Unit ε ρ)} {fin:Nat→Unit→ε} {r:ρ} (p:Nat→Bool):∀ (k i:Nat) (u:Unit),(∀ j u,i≤j→j<i+k→body j u=some (bif p j then .go () else .ret r)) →
 bR body fin k i u=some (bif (List.range' i k).all p then .brk (fin (i+k) ()) else .ret r)
 | 0,i,u,h=>by simp [bR]
 | k+1,i,u,h=>by
  simp only [bR,h i u (Nat.le_refl _) (by omega),List.range'_succ,List.all_cons];cases hp:p i with
  | true =>
   simp only [cond_true,S6,CZ,Bool.true_and];rw [cO p k (i+1) () (fun j u h1 h2=>h j u (by omega) (by omega))];rw [show i+1+k=i+(k+1) by omega]
  | false=>simp [CZ]
theorem j1 (q:α→Bool) (d:α) (l:List α):∀ (i:Nat),(List.range' i (l.length-i)).all (fun j=>q (l.getD j d))=(l.drop i).all q:=by
 intro i;by_cases h:i<l.length
 ·obtain ⟨k,hk⟩:∃ k,l.length-i=k+1:=⟨l.length-i-1,by omega⟩;have ih:=j1 q d l (i+1);rw [hk,List.range'_succ,List.all_cons,List.drop_eq_getElem_cons h,List.all_cons];rw [show l.length-(i+1)=k by omega] at ih;rw [ih];simp [SW,SX h]
 ·rw [show l.length-i=0 by omega,List.drop_eq_nil_of_le (by omega)];rfl
 termination_by i=>l.length-i
end
def bS (b:UInt8):Bool:=decide (48≤b.toNat)&&decide (b.toNat≤57)
def o3 (acc:Nat) (l:aj):Nat:=l.foldl (fun a c=>a*10+(c.toNat-48)) acc
theorem MS (acc:Nat) (l:aj) (c:UInt8):o3 acc (l++[c])=o3 acc l*10+(c.toNat-48):=by simp [o3]
theorem Gm:∀ (l:aj) (acc:Nat),l.all bS=true→(acc+1)*10 ^ l.length≤10 ^ 18→Lib.parseUint10 acc l = .ok (o3 acc l)
 | [],acc,_,_=>rfl
 | c::l,acc,h,hb=>by
  simp only [List.all_cons,SY,bS,decide_eq_true_eq] at h;obtain ⟨⟨h1,h2⟩,h3⟩:=h;have hp:1≤10 ^ l.length:=Nat.one_le_pow _ _ (by decide);have hb2:(acc*10+10)*10 ^ l.length≤10 ^ 18:=by
   have:(acc+1)*10 ^ (l.length+1)=(acc*10+10)*10 ^ l.length:=by rw [Nat.pow_succ];rw [show (acc*10+10)=(acc+1)*10 by omega,Nat.mul_assoc,Nat.mul_comm 10]
   rw [← this];simpa using hb
  have hb3:acc*10+10≤10 ^ 18:=Nat.le_trans (Nat.le_mul_of_pos_right _ hp) hb2;have e18:(10:Nat) ^ 18=1000000000000000000:=by decide
  rw [e18] at hb3;simp only [Lib.parseUint10];rw [if_pos ⟨h1,h2⟩,if_neg (by omega),if_neg (by omega)];rw [Gm l _ (by simpa [bS] using h3) (Nat.le_trans (Nat.mul_le_mul_right _ (by omega)) hb2)];rfl
theorem Iq {c:UInt8} (h:bS c=true):UInt8.ofNat (48+(c.toNat-48))=c:=by simp only [bS,SY,decide_eq_true_eq] at h;rw [show 48+(c.toNat-48)=c.toNat by omega];exact UInt8.ofNat_toNat
theorem OE {α:Type} {P:List α→Prop} (h0:P []) (h1:∀ l c,P l→P (l++[c])) (l:List α):P l:=by
 have:∀ m:List α,P m.reverse:=by
  intro m;induction m with
  | nil=>exact h0
  | cons c m ih=>simpa using h1 _ c ih
 simpa using this l.reverse
theorem Pq (l:aj):l.all bS=true→l≠[]→l.head? ≠ some 48→1≤o3 0 l∧Lib.decDigits (o3 0 l)=l:=by
 refine OE (P:=fun l=>l.all bS=true→l≠[]→l.head? ≠ some 48→1≤o3 0 l∧Lib.decDigits (o3 0 l)=l) ?_ ?_ l
 ·intro _ h;exact absurd rfl h
 ·intro l c ih h _ hh;rw [List.all_append,SY] at h;have hc:bS c=true:=by simpa using h.2
  have hc':=hc;simp only [bS,SY,decide_eq_true_eq] at hc';rw [MS];by_cases hl:l=[]
  ·subst hl;have hne:c≠48:=by simpa using hh
   have:c.toNat≠48:=fun e=>hne (by rw [← UInt8.toNat_inj];simpa using e);simp only [o3,List.foldl_nil,Nat.zero_mul,Nat.zero_add,List.nil_append];refine ⟨by omega,?_⟩;rw [Lib.decDigits_one (by omega),Iq hc]
  ·have hh2:l.head? ≠ some 48:=by
    cases l with
    | nil=>exact absurd rfl hl
    | cons x l=>simpa using hh
   obtain ⟨i1,i2⟩:=ih h.1 hl hh2;refine ⟨by omega,?_⟩;rw [Lib.decDigits,dif_neg (by omega),show (o3 0 l*10+(c.toNat-48)) / 10=o3 0 l by omega,i2,show (o3 0 l*10+(c.toNat-48)) % 10=c.toNat-48 by omega,Iq hc]
theorem G6 (u:Nat):(Lib.decDigits u).all bS=true∧(1≤u→(Lib.decDigits u).head? ≠ some 48)∧Lib.decDigits u≠[]:=by
 have key:∀ i,i<10→bS (UInt8.ofNat (48+i))=true:=by decide
 have key2:∀ i,i<10→1≤i→UInt8.ofNat (48+i)≠48:=by decide
 by_cases h:u<10
 ·rw [Lib.decDigits_one h];exact ⟨by simp only [List.all_cons,List.all_nil,Bool.and_true];exact key u h,fun h1=>by simpa using key2 u h h1,by simp⟩
 ·have ih:=G6 (u / 10);rw [Lib.decDigits,dif_neg h];refine ⟨by rw [List.all_append,ih.1];simp only [List.all_cons,List.all_nil,Bool.and_true,Bool.true_and];exact key (u % 10) (by omega),fun _=>?_,by simp⟩;have:=ih.2.1 (by omega);cases hd:Lib.decDigits (u / 10) with
  | nil=>exact absurd hd ih.2.2
  | cons x l=>rw [hd] at this;simpa using this
 termination_by u
 decreasing_by omega
theorem aE {α:Type} {p:Prop} [Decidable p] {x:Option α} (h:p):bo p x=x:=if_pos h
theorem Vy {α:Type} (d:α) {l:List α} {i:Nat} (h:i<l.length):l.getD i d=l[i]:=by rw [SW,SX h];rfl
theorem Vb {α:Type} (d:α) {l:List α} {i:Nat} (h:i<l.length):l.getD i d∈l:=by rw [Vy d h];exact List.getElem_mem h
theorem VR {σ ε ρ:Type} {body:Nat→σ→Option (kr σ ε ρ)} {fin:Nat→σ→ε} (I:Nat→σ→Prop):∀ (k i:Nat) (s:σ),I i s→(∀ j s,i≤j→j<i+k→I j s→∃ s',body j s=some (.go s')∧I (j+1) s') →
 ∃ s',bR body fin k i s=some (.brk (fin (i+k) s'))∧I (i+k) s'
 | 0,i,s,hI,h=>⟨s,by simp [bR],hI⟩
 | k+1,i,s,hI,h=>by obtain ⟨s1,h1,h2⟩:=h i s (Nat.le_refl _) (by omega) hI;obtain ⟨s',e1,e3⟩:=VR I k (i+1) s1 h2 (fun j s h1 h2=>h j s (by omega) (by omega));refine ⟨s',?_,by rw [show i+(k+1)=i+1+k by omega];exact e3⟩;simp only [bR,h1,S6,CZ];rw [e1,show i+1+k=i+(k+1) by omega]
def wd:aj→aj→List aj
 | cur,[]=>[cur]
 | cur,c::s=>if c=32 then cur::wd [] s else wd (cur++[c]) s
def jn:List aj→aj
 | []=>[]
 | [x]=>x
 | x::y::r=>x++32::jn (y::r)
theorem Wo:∀ (s cur:aj),wd cur s≠[]
 | [],cur=>by simp [wd]
 | c::s,cur=>by
  unfold wd;split
  ·simp
  ·exact Wo s _
theorem Wt (x:aj) {l:List aj} (h:l≠[]):jn (x::l)=x++32::jn l:=by
 cases l with
 | nil=>exact absurd rfl h
 | cons y r=>rfl
theorem Wn:∀ (s cur:aj),jn (wd cur s)=cur++s
 | [],cur=>by simp [wd,jn]
 | c::s,cur=>by
  unfold wd;by_cases e:c=32
  ·rw [if_pos e,Wt _ (Wo s []),Wn s [],e];rfl
  ·rw [if_neg e,Wn s];simp
theorem Wp:∀ (s cur:aj),(∀ c∈cur,c≠32)→∀ p∈wd cur s,∀ c∈p,c≠32
 | [],cur,h,p,hp,c,hc=>by
  have:p=cur:=by simpa [wd] using hp
  subst this;exact h c hc
 | x::s,cur,h,p,hp,c,hc=>by
  unfold wd at hp;by_cases e:x=32
  ·rw [if_pos e] at hp;rcases List.mem_cons.1 hp with rfl | hp
   ·exact h c hc
   ·exact Wp s [] (by simp) p hp c hc
  ·rw [if_neg e] at hp;refine Wp s _ (fun y hy=>?_) p hp c hc;rcases List.mem_append.1 hy with hy | hy
   ·exact h y hy
   ·have:y=x:=by simpa using hy
    rw [this];exact e
theorem Uw (k:UInt8):∀ (p rest:aj),(∀ c∈p,c≠k)→Lib.index (p++(k::rest)) [k]=(p.length:Int)
 | [],rest,_=>by simp [Lib.index,List.isPrefixOf]
 | c::p,rest,h=>by
  have ih:=Uw k p rest (fun x hx=>h x (by simp [hx]));have hc:=h c (by simp);have e:([k]:aj).isPrefixOf (c::(p++(k::rest)))=false:=by simp only [List.isPrefixOf,Bool.and_eq_false_iff,beq_eq_false_iff_ne];exact .inl (Ne.symm hc)
  rw [List.cons_append,Lib.index,if_neg (by rw [e];simp),ih];have:(((p.length:Nat):Int) == -1)=false:=by rw [beq_eq_false_iff_ne];omega
  rw [if_neg (by rw [this];simp)];simp
theorem U1 (k:UInt8):∀ (p:aj),(∀ c∈p,c≠k)→Lib.index p [k] = -1
 | [],_=>by simp [Lib.index]
 | c::p,h=>by
  have ih:=U1 k p (fun x hx=>h x (by simp [hx]));have hc:=h c (by simp);have e:([k]:aj).isPrefixOf (c::p)=false:=by simp only [List.isPrefixOf,Bool.and_eq_false_iff,beq_eq_false_iff_ne];exact .inl (Ne.symm hc)
  rw [Lib.index,if_neg (by rw [e];simp),ih];rfl
theorem Vu:∀ (r:List aj) (x:aj),(∀ p∈x::r,∀ c∈p,c≠32)→Lib.count (jn (x::r)) [32]=r.length
 | [],x,h=>Lib.count_miss (U1 32 x (h x (by simp)))
 | y::r,x,h=>by
  have hj:jn (x::y::r)=x++32::jn (y::r):=rfl;rw [hj];have:=Lib.count_hit (by simp) (Uw 32 x (jn (y::r)) (h x (by simp)));rw [this];have e:(x++(32::jn (y::r))).drop (x.length+([32]:aj).length)=jn (y::r):=by rw [← List.drop_drop,List.drop_left];rfl
  rw [e,Vu r y (fun p hp=>h p (by simp at hp ⊢;exact .inr hp))];simp;omega
theorem VE:∀ (r:List aj) (x:aj),(∀ p∈x::r,∀ c∈p,c≠32)→Lib.splitK [32] 0 r.length (jn (x::r))=x::r
 | [],x,_=>rfl
 | y::r,x,h=>by
  have hj:jn (x::y::r)=x++32::jn (y::r):=rfl;rw [hj,List.length_cons,Lib.splitK,Uw 32 x _ (h x (by simp))];have:(((x.length:Nat):Int) == -1)=false:=by rw [beq_eq_false_iff_ne];omega
  rw [if_neg (by rw [this];simp)];have e:(x++(32::jn (y::r))).drop (((x.length:Nat):Int).toNat+([32]:aj).length)=jn (y::r):=by rw [Int.toNat_natCast,← List.drop_drop,List.drop_left];rfl
  rw [e,VE r y (fun p hp=>h p (by simp at hp ⊢;exact .inr hp))];simp
theorem Vd (s:aj) (hs:s.length≤1000000):ti s [32]=some (wd [] s):=by
 unfold ti;rw [aE ⟨by omega,by simp⟩];have hj:=Wn s [];rw [List.nil_append] at hj;have hn:=Wp s [] (by simp);obtain ⟨x,r,e⟩:=List.exists_cons_of_ne_nil (Wo s []);rw [e] at hj hn ⊢;have hc:Lib.countB ⟨s.toArray⟩ ⟨([32]:aj).toArray⟩=r.length:=by show Lib.count s.toArray.toList (([32]:aj).toArray.toList)=_;have:=Vu r x hn;rw [hj] at this;simpa using this
 rw [hc];congr 1;have:=VE r x hn
 rwa [hj] at this
theorem VO:∀ (s cur:aj),∀ p∈wd cur s,p.length≤cur.length+s.length
 | [],cur,p,hp=>by
  have:p=cur:=by simpa [wd] using hp
  subst this;simp
 | c::s,cur,p,hp=>by
  unfold wd at hp;by_cases e:c=32
  ·rw [if_pos e] at hp;rcases List.mem_cons.1 hp with rfl | hp
   ·simp
   ·have:=VO s [] p hp;simp at this ⊢;omega
  ·rw [if_neg e] at hp;have:=VO s _ p hp;simp at this ⊢;omega
theorem V9 (a:Nat) (c:UInt8) (l:aj):o3 a (c::l)=o3 (a*10+(c.toNat-48)) l:=by unfold o3;rw [List.foldl_cons]
theorem VX (l:aj):∀ a:Nat,l.all bS=true→o3 a l+1≤(a+1)*10 ^ l.length:=by
 induction l with
 | nil=>intro a _;simp [o3]
 | cons x l ih =>
  intro a hx;simp only [List.all_cons,SY,bS,decide_eq_true_eq] at hx;have:=ih (a*10+(x.toNat-48)) (by simpa [bS] using hx.2);rw [V9,List.length_cons,Nat.pow_succ];generalize 10 ^ l.length=p at this ⊢;refine Nat.le_trans this ?_;rw [← Nat.mul_assoc,Nat.mul_right_comm];exact Nat.mul_le_mul_right p (by omega)
def canon (s:aj):Bool:=s.all bS&&(!s.isEmpty&&(s==[48] || !(s.head? == some 48)))
theorem UY {s:aj} (h:canon s=true):Lib.decDigits (o3 0 s)=s:=by
 unfold canon at h;simp only [SY,Bool.or_eq_true,Bool.not_eq_true',beq_iff_eq,List.isEmpty_eq_false_iff,beq_eq_false_iff_ne] at h;obtain ⟨h1,h2,h3⟩:=h;rcases h3 with rfl | h3
 ·rw [Lib.decDigits];rfl
 ·exact (Pq s h1 h2 h3).2
def dec (n:Nat):aj:=Lib.decDigits n
theorem HS {n:Nat} (h:n<10):dec n=[UInt8.ofNat (48+n)]:=by unfold dec;rw [Lib.decDigits,dif_pos h]
theorem Up {n:Nat} (h:¬ n<10):dec n=dec (n / 10)++[UInt8.ofNat (48+n % 10)]:=by unfold dec;rw [Lib.decDigits,dif_neg h]
theorem cy:∀ (k a:Nat),a<10 ^ (k+1)→(dec a).length≤k+1
 | k,a,h=>by
  by_cases h10:a<10
  ·rw [HS h10];simp
  ·cases k with
   | zero=>simp at h;omega
   | succ k =>
    rw [Up h10];have hp:10 ^ (k+1+1)=10*10 ^ (k+1):=by rw [Nat.pow_succ];omega
    have:=cy k (a / 10) (by rw [hp] at h;omega);simp only [List.length_append,List.length_cons,List.length_nil];omega
theorem Vv (a:Nat):o3 0 (dec a)=a:=by
 induction a using Nat.strongRecOn with
 | _ a ih =>
  by_cases h:a<10
  ·rw [HS h];simp only [o3,List.foldl_cons,List.foldl_nil];rw [UInt8.toNat_ofNat_of_lt' (show _<256 by omega)];omega
  ·rw [Up h,MS,ih (a / 10) (by omega),UInt8.toNat_ofNat_of_lt' (show _<256 by omega)];omega
theorem U0 (n:Nat):canon (dec n)=true:=by
 obtain ⟨h1,h2,h3⟩:=G6 n;unfold canon dec;simp only [SY,Bool.or_eq_true,Bool.not_eq_true',beq_iff_eq,List.isEmpty_eq_false_iff,beq_eq_false_iff_ne];refine ⟨h1,h3,?_⟩;by_cases h0:n=0
 ·left;subst h0;rw [Lib.decDigits];rfl
 ·right;exact h2 (by omega)
theorem We {s:aj} (h0:s≠[]) (h:s.all bS=true):∃ c r,s=c::r∧bS c=true:=by
 cases s with
 | nil=>exact absurd rfl h0
 | cons c r =>
  simp only [List.all_cons,SY] at h;exact ⟨c,r,rfl,h.1⟩
theorem Wc {s:aj} (h:canon s=true) (hl:s.length≤9):BH s=(((o3 0 s:Nat):Int),true):=by
 unfold canon at h;simp only [SY,Bool.not_eq_true',List.isEmpty_eq_false_iff] at h;have hv:=Gm s 0 h.1 (by
  have:10 ^ s.length≤10 ^ 9:=Nat.pow_le_pow_right (by decide) hl;omega)
 obtain ⟨c,r,e,hc⟩:=We h.2.1 h.1;simp only [bS,SY,decide_eq_true_eq] at hc;rw [e] at hv ⊢;unfold BH;rw [Lib.atoiAll_plain c r (by omega) (by omega)];have:Lib.parseMag (c::r) = .ok (o3 0 (c::r)):=by unfold Lib.parseMag;rw [if_neg (by simp)];exact hv
 rw [this];simp only [Lib.signless];have h9:=VX (c::r) 0 (by rw [← e];exact h.1);have h10:10 ^ (c::r).length≤10 ^ 9:=Nat.pow_le_pow_right (by decide) (by rw [← e];exact hl);rw [if_neg (by omega)]
def kc (s:aj):Option Nat:=bif canon s&&decide (s.length≤7)&&decide (o3 0 s≤1000000) then some (o3 0 s) else none
theorem VA {n:Nat} (h:n≤1000000):kc (dec n)=some n:=by unfold kc;have hl:=cy 6 n (by omega);rw [U0,Vv,S5 hl,S5 h];rfl
theorem Ub {s:aj} {n:Nat} (h:kc s=some n):s=dec n∧n≤1000000:=by
 unfold kc at h;cases hb:canon s&&decide (s.length≤7)&&decide (o3 0 s≤1000000) with
 | false=>rw [hb] at h;cases h
 | true =>
  rw [hb] at h;simp only [SY,decide_eq_true_eq] at hb;injection h with h
  subst h;exact ⟨(UY hb.1.1).symm,hb.2⟩
end Go.Sh
namespace Go.Proofs.YtkibeldbfkainaaGreatDoor
open Go.Ab Go.Sh
theorem l7 {n:Int} (h1 : -9223372036854775808≤n) (h2:n≤9223372036854775807):bq n=n:=by unfold bq IntKind.wrap IntKind.bits IntKind.signed;simp;omega
def UN (n:Int):aj×Bool:=bif decide (n<1)||decide (n>15) then ([],false) else (e7.getD (n-1).toNat [],true)
theorem Tl (n:Int):lA n=some (UN n):=rfl
theorem B2 (n:Int):eu n=some (UN n):=by
 unfold eu UN;show (bif (decide (n<1)||decide (n>((e7.length:Nat):Int))) then some ([],false) else
  bo (0≤(bq (n-1))∧(bq (n-1))<(e7.length:Int))<|some (e7.getD (bq (n-1)).toNat [],true))=_
 rw [show ((e7.length:Nat):Int)=15 from rfl];by_cases h1:n<1
 ·rw [S5 h1];rfl
 ·by_cases h2:n>15
  ·rw [S5 h2,Bool.or_true];rfl
  ·rw [S4 h1,S4 h2,l7 (by omega) (by omega),Bool.or_false,cond_false,cond_false,aE ⟨by omega,by omega⟩]
theorem Wz (d:Nat) (h:d<10):UInt8.ofNat (IntKind.wrap .u8 (bq (48+(d:Int)))).toNat=UInt8.ofNat (48+d):=by
 have:d=0∨d=1∨d=2∨d=3∨d=4∨d=5∨d=6∨d=7∨d=8∨d=9:=by omega
 rcases this with rfl | rfl | rfl | rfl | rfl | rfl | rfl | rfl | rfl | rfl<;>rfl
theorem U2:∀ (k N n:Nat) (s:aj),n<10 ^ k→k<N→n<10 ^ 19→s.length+k≤1000 →
 vq (σ:=(Int×aj)) (ε:=aj) (ρ:=Empty) (fun s0 =>
 bif decide (s0.1>0) then (
  bo ([(UInt8.ofNat (IntKind.wrap .u8 (bq (48+(s0.1.tmod 10)))).toNat)].length+s0.2.length≤9223372036854775807)<|
  some (.go ((bq (s0.1.tdiv 10)),([(UInt8.ofNat (IntKind.wrap .u8 (bq (48+(s0.1.tmod 10)))).toNat)]++s0.2)))
 ) else (
  some (.brk s0.2)
 )) N ((n:Int),s)=some (.brk ((if n=0 then [] else dec n)++s))
 | _,0,_,_,_,h,_,_=>by omega
 | k,N+1,n,s,hn,hk,h19,hs=>by
  simp only [vq];by_cases h0:n=0
  ·subst h0;rw [S4 (by omega)];rfl
  ·cases k with
   | zero=>simp at hn;omega
   | succ k =>
    rw [S5 (by omega)];simp only [cond_true];have e1:((n:Int).tmod 10)=((n % 10:Nat):Int):=by rw [show (10:Int)=((10:Nat):Int) from rfl,← Int.ofNat_tmod]
    have e2:bq ((n:Int).tdiv 10)=((n / 10:Nat):Int):=by rw [show (10:Int)=((10:Nat):Int) from rfl,← Int.ofNat_tdiv];exact l7 (by omega) (by omega)
    rw [aE (by simp;omega),e1,Wz _ (by omega),e2];simp only [S6,CZ];rw [Nat.pow_succ] at hn;rw [U2 k N (n / 10) _ (by omega) (by omega) (by omega) (by simp;omega),if_neg h0];by_cases h10:n<10
    ·rw [if_pos (by omega),HS h10,show n % 10=n by omega];rfl
    ·rw [if_neg (by omega),Up h10];simp
theorem TL (n:Nat) (h:n<10 ^ 19):hQ (n:Int)=some (dec n):=by
 unfold hQ;have e1:((n:Int).tmod 10)=((n % 10:Nat):Int):=by rw [show (10:Int)=((10:Nat):Int) from rfl,← Int.ofNat_tmod]
 have e2:bq ((n:Int).tdiv 10)=((n / 10:Nat):Int):=by rw [show (10:Int)=((10:Nat):Int) from rfl,← Int.ofNat_tdiv];exact l7 (by omega) (by omega)
 rw [e1,Wz _ (by omega),e2];have hl:=U2 19 4294967296 (n / 10) [UInt8.ofNat (48+n % 10)] (by omega) (by omega) (by omega) (by simp);refine (congrArg (fun o:Option (Out aj Empty)=>Option.bind o _) hl).trans ?_;simp only [S6,fb];by_cases h10:n<10
 ·rw [if_pos (by omega),HS h10,show n % 10=n by omega];rfl
 ·rw [if_neg (by omega),Up h10]
theorem be (n:Nat) (h:n≤9223372036854775807):jd (n:Int)=some (dec n):=by
 unfold jd;have hl:=cy 18 n (by omega);have e:Lh (n:Int)=dec n:=by
  unfold Lh;by_cases h10:n<10
  ·rw [S5 (by omega),S5 (by omega),HS h10];rfl
  ·rw [S4 (show ¬ (n:Int)<10 by omega),Bool.and_false,cond_false,Lib.itoa_nonneg];rfl
 rw [e,aE ⟨by omega,by omega,by omega⟩]
theorem VQ (c:UInt8) (s:aj) (pre:List aj) (cur:aj):pre++wd cur (c::s)=if c=32 then (pre++[cur])++wd [] s else pre++wd (cur++[c]) s:=by
 rw [wd];split
 ·simp
 ·rfl
theorem UH (s:aj) (hs:s.length≤1000000):ay s=some (wd [] s):=by
 unfold ay;obtain ⟨s',e1,pre,cur,e2,e3,_⟩:=VR (ε:=List aj) (ρ:=Empty) (fin:=fun i0 s0=>s0) (fun j (l:List aj)=>∃ pre cur,l=pre++[cur]∧pre++wd cur (s.drop j)=wd [] s∧pre.length≤j∧cur.length≤j)
  (body:=fun i0 s0 =>
  ((
   bif (((s.getD i0 0).toNat:Int)==32) then (
    bo ((s0.length+1)*16≤140737488355328)<|
    some (s0++[[]])
   ) else (
    bo (0≤(bq (((s0.length:Nat):Int)-1))∧(bq (((s0.length:Nat):Int)-1))<(s0.length:Int))<|
    bo ((bq (((s0.length:Nat):Int)-1)).toNat<s0.length)<|
    bo (i0≤(i0+1)∧(i0+1)≤s.length)<|
    bo ((s0.getD ((bq (((s0.length:Nat):Int)-1)).toNat) []).length+((s.drop i0).take ((i0+1)-i0)).length≤9223372036854775807)<|
    some (s0.set ((bq (((s0.length:Nat):Int)-1)).toNat) ((s0.getD ((bq (((s0.length:Nat):Int)-1)).toNat) [])++((s.drop i0).take ((i0+1)-i0))))
   )
  ):Option (List aj)).bind fun v0 =>
  some (.go v0)) (s.length-0) 0 ([[]]:List aj) ⟨[],[],rfl,by simp,by simp,by simp⟩ (fun j l _ hj ⟨pre,cur,e,hw,hp,hc⟩=>by
   have hj:j<s.length:=by omega
   rw [List.drop_eq_getElem_cons hj,VQ] at hw;have hg:s.getD j 0=s[j]:=Vy 0 hj;rw [hg];have hu:(((s[j]).toNat:Int)==32)=decide (s[j]=32):=by rw [Bool.eq_iff_iff,beq_iff_eq,decide_eq_true_eq,← UInt8.toNat_inj];rw [show (32:UInt8).toNat=32 from rfl];omega
   rw [hu,e];have hlen:(pre++[cur]).length=pre.length+1:=by simp
   by_cases h32:s[j]=32
   ·rw [S5 h32];simp only [cond_true];rw [aE (by rw [hlen];omega)];rw [if_pos h32] at hw;exact ⟨_,rfl,pre++[cur],[],rfl,hw,by rw [hlen];omega,by simp⟩
   ·rw [S4 h32];simp only [cond_false];rw [if_neg h32] at hw;have hw1:bq (((((pre++[cur]).length:Nat)):Int)-1)=(pre.length:Int):=by rw [hlen,l7 (by omega) (by omega)];omega
    rw [hw1,Int.toNat_natCast,aE ⟨by omega,by rw [hlen];omega⟩,aE (by rw [hlen];omega),aE ⟨by omega,by omega⟩];have hgc:(pre++[cur]).getD pre.length []=cur:=by simp [SW]
    have htk:(s.drop j).take ((j+1)-j)=[s[j]]:=by rw [List.drop_eq_getElem_cons hj,show j+1-j=1 by omega];rfl
    rw [hgc,htk,aE (by simp;omega)];refine ⟨_,rfl,pre,cur++[s[j]],by simp,hw,by omega,by simp;omega⟩)
 refine (congrArg (fun o:Option (Out (List aj) Empty)=>Option.bind o _) e1).trans ?_;simp only [S6,fb];rw [List.drop_of_length_le (by omega)] at e3;rw [e2,← e3];rfl
theorem Vt {σ ε ρ:Type} {body:Nat→σ→Option (kr σ ε ρ)} {fin:Nat→σ→ε} (I:Nat→σ→Prop) (p:Nat→Bool) (r:Nat→ρ):∀ (k i:Nat) (s:σ),I i s →
 (∀ j s,i≤j→j<i+k→I j s→(p j=true→∃ s',body j s=some (.go s')∧I (j+1) s')∧(p j=false→body j s=some (.ret (r j)))) →
 ((∀ j,i≤j→j<i+k→p j=true)∧∃ s',bR body fin k i s=some (.brk (fin (i+k) s'))∧I (i+k) s') ∨
 ∃ j,i≤j∧j<i+k∧p j=false∧(∀ m,i≤m→m<j→p m=true)∧bR body fin k i s=some (.ret (r j))
 | 0,i,s,hI,h=>.inl ⟨fun j h1 h2=>by omega,s,by simp [bR],hI⟩
 | k+1,i,s,hI,h=>by
  obtain ⟨h1,h2⟩:=h i s (Nat.le_refl _) (by omega) hI;cases hp:p i with
  | false=>exact .inr ⟨i,Nat.le_refl _,by omega,hp,fun m h3 h4=>by omega,by simp only [bR,h2 hp,S6,CZ]⟩
  | true =>
   obtain ⟨s1,e1,I1⟩:=h1 hp;have e:bR body fin (k+1) i s=bR body fin k (i+1) s1:=by simp only [bR,e1,S6,CZ]
   rw [e];rcases Vt I p r k (i+1) s1 I1 (fun j s h1 h2=>h j s (by omega) (by omega)) with ⟨a,s',b,c⟩ | ⟨j,a,b,c,d,f⟩
   ·refine .inl ⟨fun j h3 h4=>?_,s',by rw [b,show i+1+k=i+(k+1) by omega],by rw [show i+(k+1)=i+1+k by omega];exact c⟩;by_cases e:j=i
    ·rw [e];exact hp
    ·exact a j (by omega) (by omega)
   ·refine .inr ⟨j,by omega,by omega,c,fun m h3 h4=>?_,f⟩;by_cases e:m=i
    ·rw [e];exact hp
    ·exact d m (by omega) h4
theorem U6 {s:aj} {j:Nat} (h:j<s.length):s.take (j+1)=s.take j++[s.getD j 0]:=by rw [Vy 0 h,List.take_add_one,SX h];rfl
theorem MR {s:aj} {n:Nat} (h:kc s=some n):s.all bS=true∧s.length≤7∧o3 0 s=n∧n≤1000000∧canon s=true:=by obtain ⟨e,hn⟩:=Ub h;have hl:=cy 6 n (by omega);subst e;exact ⟨(G6 n).1,hl,Vv n,hn,U0 n⟩
theorem Wv {s:aj} (h1:s.all bS=true) (h2:s≠[]) (h3:s=[48]∨s.head? ≠ some 48) (h4:o3 0 s≤1000000):kc s=some (o3 0 s):=by
 have hc:canon s=true:=by unfold canon;simp only [SY,Bool.or_eq_true,Bool.not_eq_true',beq_iff_eq,List.isEmpty_eq_false_iff,beq_eq_false_iff_ne];exact ⟨h1,h2,h3⟩
 have e:=UY hc;have:kc (dec (o3 0 s))=some (o3 0 s):=VA h4;rw [show dec (o3 0 s)=s from e] at this;exact this
theorem Ws (x:UInt8):(decide ((x.toNat:Int)<48)||decide ((x.toNat:Int)>57)) = !bS x:=by unfold bS;rw [Bool.eq_iff_iff];simp;omega
def Vo (s:aj) (o:Option (Int×Bool)):Prop:=∃ n b,o=some (n,b)∧b=(kc s).isSome∧∀ k,kc s=some k→n=(k:Int)
theorem Uo (s:aj) (hs:s.length≤1000000):Vo s (e9 s):=by
 unfold e9;have hb:=Vt (ε:=Int) (ρ:=Int×Bool) (fin:=fun i0 s0=>s0) (fun j (n:Int)=>n=((o3 0 (s.take j):Nat):Int)∧(s.take j).all bS=true∧j≤8) (fun j=>bS (s.getD j 0)&&decide (j≤7)) (fun _=>((0:Int),false))
  (body:=fun i0 s0 =>
  bif ((decide (((s.getD i0 0).toNat:Int)<48)||decide (((s.getD i0 0).toNat:Int)>57))||decide (((i0:Nat):Int)>7)) then (
   some (.ret (0,false))
  ) else (
   some (.go (bq ((bq (10*s0))+(((s.getD i0 0-48)).toNat:Int))))
  )) (s.length-0) 0 0 ⟨by simp [o3],by simp,by omega⟩ (fun j n _ hj ⟨e,hd,h8⟩=>by
   have hj:j<s.length:=by omega
   rw [Ws];constructor
   ·intro hp;simp only [SY,decide_eq_true_eq] at hp;rw [hp.1,S4 (by omega)];simp only [Bool.not_true,Bool.or_false,cond_false];have hc:=hp.1;simp only [bS,SY,decide_eq_true_eq] at hc;have hv:=VX (s.take j) 0 hd;have hlen:(s.take j).length=j:=by rw [List.length_take];omega
    rw [hlen] at hv;have hp10:10 ^ j≤10 ^ 7:=Nat.pow_le_pow_right (by decide) hp.2;have hsub:(s.getD j 0-48).toNat=(s.getD j 0).toNat-48:=UInt8.toNat_sub_of_le _ 48 (by rw [UInt8.le_iff_toNat_le];exact hc.1);refine ⟨_,rfl,?_,?_,by omega⟩
    ·rw [U6 hj,MS,hsub,e,l7 (n:=10*_) (by omega) (by omega),l7 (by omega) (by omega)];omega
    ·rw [U6 hj,List.all_append,hd,List.all_cons,hp.1];rfl
   ·intro hp;have:(!bS (s.getD j 0)||decide (((j:Nat):Int)>7))=true:=by
     cases h:bS (s.getD j 0) with
     | false=>rfl
     | true =>
      rw [h] at hp;have:¬ j≤7:=by simpa using hp
      simp;omega
    rw [this];rfl)
 rcases hb with ⟨hall,s',e1,e2,e3,e4⟩ | ⟨j,_,hj,hp,_,e1⟩
 ·refine (congrArg (fun o=>Vo s (Option.bind o _)) e1).mpr ?_;simp only [S6,Sh.aft];have htk:s.take (0+(s.length-0))=s:=List.take_of_length_le (by omega);rw [htk] at e2 e3;rw [aE (by
   intro h1 _;have:s≠[]:=by simpa using h1
   exact List.length_pos_iff.2 this)]
  refine ⟨_,_,rfl,?_,fun k hk=>by rw [e2,(MR hk).2.2.1]⟩;have h0:(s.getD 0 0).toNat≠48↔s=[]∨s.head? ≠ some 48:=by
   cases s with
   | nil=>simp
   | cons c r=>simp [← UInt8.toNat_inj]
  cases hn:kc s with
  | some k =>
   obtain ⟨f1,f2,f3,f4,f5⟩:=MR hn;unfold canon at f5;simp only [SY,Bool.or_eq_true,Bool.not_eq_true',beq_iff_eq,List.isEmpty_eq_false_iff,beq_eq_false_iff_ne] at f5;have a1:(s==[])=false:=by rw [beq_eq_false_iff_ne];exact f5.2.1
   rw [a1,e2,f3,S5 (by omega)];simp only [Bool.not_false,Bool.true_and,Bool.and_true,Option.isSome_some];rcases f5.2.2 with h | h
   ·rw [h];rfl
   ·have:(((s.getD 0 0).toNat:Int) != 48)=true:=by rw [bne_iff_ne];have:=h0.2 (.inr h);omega
    rw [this,Bool.or_true]
  | none =>
   simp only [Option.isSome_none];rw [Bool.eq_false_iff];intro h;simp only [SY,Bool.not_eq_true',Bool.or_eq_true,decide_eq_true_eq,beq_iff_eq,beq_eq_false_iff_ne,bne_iff_ne] at h;obtain ⟨⟨h1,h2⟩,h3⟩:=h;have:=Wv e3 h1 (by
    rcases h2 with h2 | h2
    ·exact .inl h2
    ·right;rcases h0.1 (by omega) with h | h
     ·exact absurd h h1
     ·exact h) (by omega)
   rw [this] at hn;cases hn
 ·refine (congrArg (fun o=>Vo s (Option.bind o _)) e1).mpr ?_;simp only [S6,Sh.aft];have hn:kc s=none:=by
   cases hn:kc s with
   | none=>rfl
   | some k =>
    obtain ⟨f1,f2,_⟩:=MR hn;have hj:j<s.length:=by omega
    have:=Tc.1 f1 _ (Vb 0 hj);rw [this,S5 (show j≤7 by omega)] at hp;cases hp
  exact ⟨_,_,rfl,by rw [hn];rfl,fun k hk=>by rw [hn] at hk;cases hk⟩
theorem Uk (s:aj) (hs:s.length≤1000000):Vo s (e8 s):=by
 unfold e8 th;rw [aE (by omega)];simp only [S6];have hk:∀ k,kc s=some k→BH s=((k:Int),true):=fun k hk=>by obtain ⟨f1,f2,f3,f4,f5⟩:=MR hk;rw [Wc f5 (by omega),f3]
 cases hb:(BH s).2 with
 | false =>
  simp only [cond_false];have hn:kc s=none:=by
   cases hn:kc s with
   | none=>rfl
   | some k=>rw [hk k hn] at hb;cases hb
  exact ⟨_,_,rfl,by rw [hn];rfl,fun k hk=>by rw [hn] at hk;cases hk⟩
 | true =>
  simp only [cond_true];generalize hv:(BH s).1=v;by_cases hr:0≤v∧v≤1000000
  ·obtain ⟨n,rfl⟩:=Int.eq_ofNat_of_zero_le hr.1;rw [S5 (show ((n:Nat):Int)≥0 by omega),S5 (show ((n:Nat):Int)≤1000000 by omega)];simp only [Bool.and_self,cond_true];rw [be n (by omega)];simp only [S6,Bool.true_and];by_cases he:dec n=s
   ·have hn:kc s=some n:=by rw [← he];exact VA (by omega)
    exact ⟨_,_,rfl,by rw [hn,he];simp,fun k hk=>by rw [hn] at hk;injection hk with hk;rw [hk]⟩
   ·have hn:kc s=none:=by
     cases hn:kc s with
     | none=>rfl
     | some k =>
      have h1:=hk k hn;rw [h1] at hv;have h2:k=n:=by simp only at hv;omega
      rw [h2] at hn;exact absurd (Ub hn).1.symm he
    exact ⟨_,_,rfl,by rw [hn];simpa using he,fun k hk=>by rw [hn] at hk;cases hk⟩
  ·have hn:kc s=none:=by
    cases hn:kc s with
    | none=>rfl
    | some k =>
     have h1:=hk k hn;rw [h1] at hv;have:=(Ub hn).2;simp only at hv;omega
   have hc:(decide (v≥0)&&decide (v≤1000000))=false:=by rw [Bool.and_eq_false_iff,decide_eq_false_iff_not,decide_eq_false_iff_not];omega
   rw [hc];exact ⟨_,_,rfl,by rw [hn];rfl,fun k hk=>by rw [hn] at hk;cases hk⟩
def VV (f:Int→Option (aj×Bool)) (y0:List aj) (s0:Int×Int):Option (kr (Int×Int) Int Empty) :=
 bif decide (s0.1≤15) then (
  (f s0.1).bind fun y1 =>
  bo (0<y0.length)<|
  ((
   bif (y1.1==(y0.getD 0 [])) then (
    some s0.1
   ) else (
    some s0.2
   )
  ):Option Int).bind fun v0 =>
  some (.go ((bq (s0.1+1)),v0))
 ) else (
  some (.brk s0.2)
 )
def VT (w:aj) (v:Int) (k:Nat):Int:=if (UN (k:Int)).1=w then (k:Int) else v
def zT (w:aj):Int:=(List.range' 1 15).foldl (VT w) 0
theorem Uf {f:Int→Option (aj×Bool)} (hf:∀ n,f n=some (UN n)) {y0:List aj} (h0:0<y0.length):∀ (d k N:Nat) (v:Int),k+d=16→d<N→vq (VV f y0) N ((k:Int),v)=some (.brk ((List.range' k d).foldl (VT (y0.getD 0 [])) v))
 | 0,k,N,v,hk,hN=>by
  obtain ⟨N,rfl⟩:∃ j,N=j+1:=⟨N-1,by omega⟩;simp only [vq,VV];rw [S4 (by omega)];rfl
 | d+1,k,N,v,hk,hN=>by
  obtain ⟨N,rfl⟩:∃ j,N=j+1:=⟨N-1,by omega⟩;simp only [vq,VV];rw [S5 (by omega),cond_true,hf];simp only [S6];rw [aE h0,l7 (by omega) (by omega),show (k:Int)+1=((k+1:Nat):Int) by omega];have e:((bif ((UN (k:Int)).1==y0.getD 0 []) then some (k:Int) else some v):Option Int)=some (VT (y0.getD 0 []) v k):=by
   unfold VT;by_cases h:(UN (k:Int)).1=y0.getD 0 []
   ·rw [if_pos h,beq_iff_eq.2 h];rfl
   ·rw [if_neg h,beq_eq_false_iff_ne.2 h];rfl
  rw [e];simp only [S6,CZ];rw [Uf hf h0 d (k+1) N _ (by omega) (by omega),List.range'_succ];rfl
def VS (f:Int→Option (aj×Bool)) (g:aj→Option (Int×Bool)) (y0:List aj):Option (Rewrite×Bool) :=
 bif (decide (((y0.length:Nat):Int)<2)||decide (((y0.length:Nat):Int)>3)) then (
  some ((Rewrite.mk 0 0 0),false)
 ) else (
  (vq (σ:=(Int×Int)) (ε:=Int) (ρ:=Empty) (VV f y0) 4294967296 (1,0)).bind<|fb fun u0 =>
  bo (1<y0.length)<|
  (g (y0.getD 1 [])).bind fun y2 =>
  ((
   bif (((y0.length:Nat):Int)==3) then (
    bo (2<y0.length)<|
    (g (y0.getD 2 [])).bind fun y3 =>
    some (((y2.2&&y3.2)&&decide (y3.1>0)),y3.1)
   ) else (
    some (y2.2,0)
   )
  ):Option (Bool×Int)).bind fun v1 =>
  some ((Rewrite.mk u0 y2.1 v1.2),(v1.1&&decide (u0>0)))
 )
def TG (s:aj):Option Rewrite :=
 match wd [] s with
 | [a,b]=>match kc b with
  | some n=>if 0<zT a then some (Rewrite.mk (zT a) n 0) else none
  | none=>none
 | [a,b,c]=>match kc b,kc c with
  | some n,some m=>if 0<m∧0<zT a then some (Rewrite.mk (zT a) n m) else none
  | _,_=>none
 | _=>none
def Us (s:aj) (o:Option (Rewrite×Bool)):Prop:=∃ r b,o=some (r,b)∧b=(TG s).isSome∧∀ x,TG s=some x→r=x
theorem Vz {f:Int→Option (aj×Bool)} {g:aj→Option (Int×Bool)} (hf:∀ n,f n=some (UN n)) {s:aj} (hs:s.length≤1000000) (hg:∀ x,x.length≤1000000→Vo x (g x)):Us s (VS f g (wd [] s)):=by
 have hl:∀ p∈wd [] s,p.length≤1000000:=fun p hp=>by have:=VO s [] p hp;simp at this;omega
 unfold VS Us TG;generalize wd [] s=y0 at *;have bad:¬ (y0.length=2∨y0.length=3)→(decide (((y0.length:Nat):Int)<2)||decide (((y0.length:Nat):Int)>3))=true:=fun h=>by rw [Bool.or_eq_true,decide_eq_true_eq,decide_eq_true_eq];omega
 have good:(y0.length=2∨y0.length=3)→(decide (((y0.length:Nat):Int)<2)||decide (((y0.length:Nat):Int)>3))=false:=fun h=>by rw [Bool.or_eq_false_iff,decide_eq_false_iff_not,decide_eq_false_iff_not];omega
 match y0,hl,bad,good with
 | [],_,bad,_=>rw [bad (by simp)];exact ⟨_,_,rfl,rfl,fun x h=>by cases h⟩
 | [a],_,bad,_=>rw [bad (by simp)];exact ⟨_,_,rfl,rfl,fun x h=>by cases h⟩
 | a::b::c::d::l,_,bad,_=>rw [bad (by simp)];exact ⟨_,_,rfl,rfl,fun x h=>by cases h⟩
 | [a,b],hl,_,good =>
  rw [good (by simp)];simp only [cond_false];have hw:=Uf hf (y0:=[a,b]) (by simp) 15 1 4294967296 0 rfl (by omega);rw [show (((1:Nat):Int),(0:Int))=(1,0) from rfl] at hw;rw [hw];simp only [S6,fb];rw [aE (by simp)];obtain ⟨n,bb,e,hb,hn⟩:=hg b (hl b (by simp));show ∃ r b_1,((g b).bind _)=_∧_;rw [e];simp only [S6];refine ⟨_,_,rfl,?_,fun x hx=>?_⟩
  ·show (bb&&decide (zT a>0))=_;rw [hb];cases kc b with
   | none=>rfl
   | some k =>
    by_cases h:0<zT a
    ·simp [h]
    ·simp [h]
  ·show Rewrite.mk (zT a) n 0=x;cases hk:kc b with
   | none=>rw [hk] at hx;cases hx
   | some k =>
    rw [hk] at hx;simp only at hx;split at hx
    ·injection hx with hx
     rw [← hx,hn k hk]
    ·cases hx
 | [a,b,c],hl,_,good =>
  rw [good (by simp)];simp only [cond_false];have hw:=Uf hf (y0:=[a,b,c]) (by simp) 15 1 4294967296 0 rfl (by omega);rw [show (((1:Nat):Int),(0:Int))=(1,0) from rfl] at hw;rw [hw];simp only [S6,fb];rw [aE (by simp)];obtain ⟨n,bb,e,hb,hn⟩:=hg b (hl b (by simp));obtain ⟨m,cc,e2,hc,hm⟩:=hg c (hl c (by simp));show ∃ r b_1,((g b).bind fun y2=>((bo (2<[a,b,c].length)<|(g c).bind fun y3=>some (((y2.2&&y3.2)&&decide (y3.1>0)),y3.1)):Option (Bool×Int)).bind _)=_∧_;rw [e];simp only [S6];rw [aE (by simp),e2];simp only [S6];refine ⟨_,_,rfl,?_,fun x hx=>?_⟩
  ·show (((bb&&cc)&&decide (m>0))&&decide (zT a>0))=_;rw [hb,hc];cases hk:kc b with
   | none=>rfl
   | some k =>
    cases hj:kc c with
    | none=>simp
    | some j =>
     rw [hm j hj];by_cases h:0<zT a<;>by_cases h2:0<j<;>simp [h,h2]
  ·show Rewrite.mk (zT a) n m=x;cases hk:kc b with
   | none=>rw [hk] at hx;cases hx
   | some k =>
    cases hj:kc c with
    | none=>rw [hk,hj] at hx;cases hx
    | some j =>
     rw [hk,hj] at hx;simp only at hx;split at hx
     ·injection hx with hx
      rw [← hx,hn k hk,hm j hj]
     ·cases hx
theorem UA (s:aj) (hs:s.length≤1000000):Us s (ka s):=by
 have e:ka s=VS lA e8 (wd [] s):=by unfold ka;rw [Vd s hs];rfl
 rw [e];exact Vz Tl hs Uk
theorem UU (s:aj) (hs:s.length≤1000000):Us s (la s):=by
 have e:la s=VS eu e9 (wd [] s):=by unfold la;rw [UH s hs];rfl
 rw [e];exact Vz B2 hs Uo
def UX (l:List aj):Nat:=(l.takeWhile fun s=>(TG s).isSome).length
def Vf (l:List aj):(List Rewrite)×Int×Int:=match l.mapM TG with
 | some x=>(x,(l.length:Int),0)
 | none=>([],(UX l:Int),6)
theorem Uc {g:aj→Option (Rewrite×Bool)} (l:List aj) (hg:∀ s∈l,Us s (g s)) (hl:l.length≤1000):∀ (k i:Nat) (a:List Rewrite),i+k=l.length→a.length≤i →
 bR (σ:=(List Rewrite)) (ε:=(List Rewrite)) (ρ:=((List Rewrite)×Int×Int)) (fun i0 s0 =>
  (g (l.getD i0 [])).bind fun y0 =>
  bif y0.2 then (
   bo ((s0.length+1)*24≤140737488355328)<|
   some (.go (s0++[y0.1]))
  ) else (
   some (.ret ([],((i0:Nat):Int),6))
  )
 ) (fun i0 s0=>s0) k i a=some (match (l.drop i).mapM TG with | some x=>.brk (a++x) | none=>.ret ([],((i+UX (l.drop i):Nat):Int),6))
 | 0,i,a,hk,ha=>by
  rw [List.drop_of_length_le (by omega)];simp [bR]
 | k+1,i,a,hk,ha=>by
  have hi:i<l.length:=by omega
  obtain ⟨r,b,e,hb,hr⟩:=hg _ (Vb [] hi);rw [List.drop_eq_getElem_cons hi,← Vy [] hi];simp only [bR];rw [e];simp only [S6,List.mapM_cons];cases hx:TG (l.getD i []) with
  | none =>
   rw [hx] at hb;rw [hb];unfold UX;rw [List.takeWhile_cons,hx];rfl
  | some x =>
   rw [hx] at hb;rw [hb,hr x hx];simp only [Option.isSome_some,cond_true];rw [aE (by omega)];simp only [S6,CZ];rw [Uc l hg hl k (i+1) (a++[x]) (by omega) (by simp;omega)];have hbd:i+UX (l.getD i []::l.drop (i+1))=i+1+UX (l.drop (i+1)):=by unfold UX;rw [List.takeWhile_cons,hx];simp;omega
   rw [hbd];cases (l.drop (i+1)).mapM TG with
   | none=>rfl
   | some z=>simp
theorem Uy (l:List aj) (hl:l.length≤1000) (hs:∀ s∈l,s.length≤1000000):lB l=some (Vf l):=by
 unfold lB;rw [S4 (by omega),cond_false];have h:=Uc (g:=ka) l (fun s h=>UA s (hs s h)) hl (l.length-0) 0 [] (by omega) (by simp);refine (congrArg (fun o:Option (Out (List Rewrite) ((List Rewrite)×Int×Int))=>Option.bind o _) h).trans ?_;rw [List.drop_zero];unfold Vf;cases l.mapM TG with
 | none=>simp [Sh.aft]
 | some x=>simp [Sh.aft]
theorem UE (l:List aj) (hl:l.length≤1000) (hs:∀ s∈l,s.length≤1000000):ah l=some (Vf l):=by
 unfold ah;rw [S4 (by omega),cond_false];have h:=Uc (g:=la) l (fun s h=>UU s (hs s h)) hl (l.length-0) 0 [] (by omega) (by simp);refine (congrArg (fun o:Option (Out (List Rewrite) ((List Rewrite)×Int×Int))=>Option.bind o _) h).trans ?_;rw [List.drop_zero];unfold Vf;cases l.mapM TG with
 | none=>simp [Sh.aft]
 | some x=>simp [Sh.aft]
theorem VI:Tk=some true:=by kernel_rfl
def RB (r:Rewrite):Prop:=r.At≤9223372036854775807∧r.Arg≤9223372036854775807
def aU (r:Rewrite):Option aj:=if (UN r.Rule).2=true∧0≤r.At∧0≤r.Arg then some ((UN r.Rule).1++32::(dec r.At.toNat++(if 0<r.Arg then 32::dec r.Arg.toNat else []))) else none
def TZ (p:List Rewrite):(List aj)×Int:=match p.mapM aU with
 | some l=>(l,0)
 | none=>([],1)
theorem WC {n:Int} (h:(UN n).2=true):1≤n∧n≤15:=by
 unfold UN at h;cases hb:decide (n<1)||decide (n>15) with
 | true=>rw [hb] at h;cases h
 | false =>
  rw [Bool.or_eq_false_iff,decide_eq_false_iff_not,decide_eq_false_iff_not] at hb;omega
theorem Ve {n:Int} (h:(UN n).2=true):(UN n).1.length≤10∧(∀ c∈(UN n).1,c≠32)∧zT (UN n).1=n:=by
 obtain ⟨h1,h2⟩:=WC h;have h3:n=1∨n=2∨n=3∨n=4∨n=5∨n=6∨n=7∨n=8∨n=9∨n=10∨n=11∨n=12∨n=13∨n=14∨n=15:=by omega
 have hd:∀ l:aj,(l.all fun c=>!(c==32))=true→∀ c∈l,c≠32:=fun l hl c hc=>by have:=Tc.1 hl c hc;simpa using this
 rcases h3 with rfl | rfl | rfl | rfl | rfl | rfl | rfl | rfl | rfl | rfl | rfl | rfl | rfl | rfl | rfl;all_goals exact ⟨by decide,hd _ (by decide),by decide⟩
theorem VY {r:Rewrite} {s:aj} (hr:RB r) (h:aU r=some s):s.length≤60:=by
 unfold aU at h;split at h
 ·rename_i hc;injection h with h
  have h1:=(Ve hc.1).1;have h2:=cy 18 r.At.toNat (by have:=hr.1;omega);have h3:=cy 18 r.Arg.toNat (by have:=hr.2;omega);rw [← h];split<;>simp<;>omega
 ·cases h
theorem Ud {body:Nat→List aj→Option (kr (List aj) (List aj) ((List aj)×Int))} (p:List Rewrite) (hb:∀ j s,j<p.length→s.length≤j→body j s=some (match aU (p.getD j ⟨0,0,0⟩) with | some x=>.go (s++[x]) | none=>.ret ([],1))):∀ (k i:Nat) (a:List aj),i+k=p.length→a.length≤i →
 bR (ε:=(List aj)) body (fun i0 s0=>s0) k i a=some (match (p.drop i).mapM aU with | some x=>.brk (a++x) | none=>.ret ([],1))
 | 0,i,a,hk,ha=>by
  rw [List.drop_of_length_le (by omega)];simp [bR]
 | k+1,i,a,hk,ha=>by
  have hi:i<p.length:=by omega
  rw [List.drop_eq_getElem_cons hi,← Vy (⟨0,0,0⟩:Rewrite) hi];simp only [bR];rw [hb i a hi ha];simp only [S6,List.mapM_cons];cases hx:aU (p.getD i ⟨0,0,0⟩) with
  | none=>rfl
  | some x =>
   simp only [S6,CZ];rw [Ud p hb k (i+1) (a++[x]) (by omega) (by simp;omega)];cases (p.drop (i+1)).mapM aU with
   | none=>rfl
   | some z=>simp
theorem Wd {r:Rewrite}:((!(UN r.Rule).2||decide (r.At<0))||decide (r.Arg<0)) = !decide ((UN r.Rule).2=true∧0≤r.At∧0≤r.Arg):=by rw [Bool.eq_iff_iff];simp only [Bool.or_eq_true,Bool.not_eq_true',decide_eq_true_eq,decide_eq_false_iff_not];cases (UN r.Rule).2<;>simp<;>omega
theorem Uz (p:List Rewrite) (hp:p.length≤1000) (hr:∀ r∈p,RB r):cV p=some (TZ p):=by
 unfold cV;rw [S4 (by omega),cond_false];have h:=Ud (body:=fun i0 s0 =>
  (lA ((p.getD i0 ⟨0,0,0⟩).Rule)).bind fun y0 =>
  bif ((!y0.2||decide (((p.getD i0 ⟨0,0,0⟩).At)<0))||decide (((p.getD i0 ⟨0,0,0⟩).Arg)<0)) then (
   some (.ret ([],1))
  ) else (
   bo (y0.1.length+[32].length≤9223372036854775807)<|
   (jd ((p.getD i0 ⟨0,0,0⟩).At)).bind fun y1 =>
   bo ((y0.1++[32]).length+y1.length≤9223372036854775807)<|
   ((
    bif decide (((p.getD i0 ⟨0,0,0⟩).Arg)>0) then (
     (jd ((p.getD i0 ⟨0,0,0⟩).Arg)).bind fun y2 =>
     bo ([32].length+y2.length≤9223372036854775807)<|
     bo (((y0.1++[32])++y1).length+([32]++y2).length≤9223372036854775807)<|
     some (((y0.1++[32])++y1)++([32]++y2))
    ) else (
     some ((y0.1++[32])++y1)
    )
   ):Option aj).bind fun v0 =>
   bo ((s0.length+1)*16≤140737488355328)<|
   some (.go (s0++[v0]))
  )) p (fun j s hj hs=>by
   have hrb:=hr _ (Vb (⟨0,0,0⟩:Rewrite) hj);generalize p.getD j ⟨0,0,0⟩=r at hrb;rw [Tl];simp only [S6];rw [Wd];unfold aU;by_cases hc:(UN r.Rule).2=true∧0≤r.At∧0≤r.Arg
   ·rw [S5 hc,if_pos hc];have hn:=(Ve hc.1).1;obtain ⟨a,ha⟩:=Int.eq_ofNat_of_zero_le hc.2.1;obtain ⟨b,hb⟩:=Int.eq_ofNat_of_zero_le hc.2.2;have h1:=hrb.1;have h2:=hrb.2;have l1:=cy 18 a (by omega);have l2:=cy 18 b (by omega);rw [ha,hb,be a (by omega),be b (by omega)];simp only [Bool.not_true,cond_false,S6,Int.toNat_natCast];rw [aE (by simp;omega),aE (by simp;omega)];by_cases h0:((b:Nat):Int)>0
    ·rw [S5 h0,if_pos h0];simp only [cond_true];rw [aE (by simp;omega),aE (by simp;omega)];simp only [S6];rw [aE (by omega)];simp
    ·rw [S4 h0,if_neg h0];simp only [cond_false,S6];rw [aE (by omega)];simp
   ·rw [S4 hc,if_neg hc];rfl) (p.length-0) 0 [] (by omega) (by simp)
 refine (congrArg (fun o:Option (Out (List aj) ((List aj)×Int))=>Option.bind o _) h).trans ?_;rw [List.drop_zero];unfold TZ;cases p.mapM aU with
 | none=>rfl
 | some x=>rfl
theorem UF (p:List Rewrite) (hp:p.length≤1000) (hr:∀ r∈p,RB r):ez p=some (TZ p):=by
 unfold ez;rw [S4 (by omega),cond_false];have h:=Ud (body:=fun i0 s0 =>
  (eu ((p.getD i0 ⟨0,0,0⟩).Rule)).bind fun y0 =>
  bif ((!y0.2||decide (((p.getD i0 ⟨0,0,0⟩).At)<0))||decide (((p.getD i0 ⟨0,0,0⟩).Arg)<0)) then (
   some (.ret ([],1))
  ) else (
   (hQ ((p.getD i0 ⟨0,0,0⟩).At)).bind fun y1 =>
   bo ([32].length+y1.length≤9223372036854775807)<|
   bo (y0.1.length+([32]++y1).length≤9223372036854775807)<|
   ((
    bif decide (((p.getD i0 ⟨0,0,0⟩).Arg)>0) then (
     (hQ ((p.getD i0 ⟨0,0,0⟩).Arg)).bind fun y2 =>
     bo ([32].length+y2.length≤9223372036854775807)<|
     bo ((y0.1++([32]++y1)).length+([32]++y2).length≤9223372036854775807)<|
     some ((y0.1++([32]++y1))++([32]++y2))
    ) else (
     some (y0.1++([32]++y1))
    )
   ):Option aj).bind fun v0 =>
   bo ((s0.length+1)*16≤140737488355328)<|
   some (.go (s0++[v0]))
  )) p (fun j s hj hs=>by
   have hrb:=hr _ (Vb (⟨0,0,0⟩:Rewrite) hj);generalize p.getD j ⟨0,0,0⟩=r at hrb;rw [B2];simp only [S6];rw [Wd];unfold aU;by_cases hc:(UN r.Rule).2=true∧0≤r.At∧0≤r.Arg
   ·rw [S5 hc,if_pos hc];have hn:=(Ve hc.1).1;obtain ⟨a,ha⟩:=Int.eq_ofNat_of_zero_le hc.2.1;obtain ⟨b,hb⟩:=Int.eq_ofNat_of_zero_le hc.2.2;have h1:=hrb.1;have h2:=hrb.2;have l1:=cy 18 a (by omega);have l2:=cy 18 b (by omega);rw [ha,hb,TL a (by omega),TL b (by omega)];simp only [Bool.not_true,cond_false,S6,Int.toNat_natCast];rw [aE (by simp;omega),aE (by simp;omega)];by_cases h0:((b:Nat):Int)>0
    ·rw [S5 h0,if_pos h0];simp only [cond_true];rw [aE (by simp;omega),aE (by simp;omega)];simp only [S6];rw [aE (by omega)];simp
    ·rw [S4 h0,if_neg h0];simp only [cond_false,S6];rw [aE (by omega)];simp
   ·rw [S4 hc,if_neg hc];rfl) (p.length-0) 0 [] (by omega) (by simp)
 refine (congrArg (fun o:Option (Out (List aj) ((List aj)×Int))=>Option.bind o _) h).trans ?_;rw [List.drop_zero];unfold TZ;cases p.mapM aU with
 | none=>rfl
 | some x=>rfl
theorem Ux {α β:Type} {f:α→Option β} {a:α} {l:List α} {y:List β} (h:(a::l).mapM f=some y):∃ b m,f a=some b∧l.mapM f=some m∧y=b::m:=by
 rw [List.mapM_cons] at h;cases hf:f a with
 | none=>rw [hf] at h;cases h
 | some b =>
  cases hl:l.mapM f with
  | none=>rw [hf,hl] at h;cases h
  | some m=>rw [hf,hl] at h;injection h with h;exact ⟨b,m,rfl,rfl,h.symm⟩
theorem U5:∀ {p:List Rewrite} {l:List aj},p.mapM aU=some l→(∀ r∈p,RB r)→l.length=p.length∧∀ s∈l,s.length≤1000000
 | [],l,h,_=>by
  have:l=[]:=by simpa using h.symm
  subst this;simp
 | r::p,l,h,hr=>by
  obtain ⟨b,m,e1,e2,rfl⟩:=Ux h;obtain ⟨a1,a2⟩:=U5 e2 fun x hx=>hr x (by simp [hx]);have:=VY (hr r (by simp)) e1;refine ⟨by simp [a1],fun s hs=>?_⟩;rcases List.mem_cons.1 hs with rfl | hs
  ·omega
  ·exact a2 s hs
theorem VZ (p:List Rewrite):uv p p=some true:=by
 unfold uv;rw [beq_self_eq_true,cond_true];rw [cO (r:=false) (fun j=>true) _ _ () (fun j u _ hj=>by rw [aE (by omega),beq_self_eq_true,beq_self_eq_true,beq_self_eq_true];rfl)]
 rw [show (List.range' 0 (p.length-0)).all (fun _=>true)=true from by simp];rfl
theorem VN (l:List aj):hH l l=some true:=by
 unfold hH;rw [beq_self_eq_true,cond_true];rw [cO (r:=false) (fun j=>true) _ _ () (fun j u _ hj=>by rw [aE (by omega),beq_self_eq_true];rfl)]
 rw [show (List.range' 0 (l.length-0)).all (fun _=>true)=true from by simp];rfl
def F0:Flat:=Flat.mk [] [] [(aY.mk [105,110,116] (Shape.mk [] []))] [] [0]
def FE:Flat:=Flat.mk [] [] [] [] []
theorem U3 (x:Rewrite) (K:Nat) (hK:K≤1010):∀ (d i N:Nat),i+d=K→d<N→vq (σ:=((List Rewrite)×Int)) (ε:=(List Rewrite)) (ρ:=Empty) (fun s0 =>
 bif decide (s0.2<(K:Int)) then (
  bo ((s0.1.length+1)*24≤140737488355328)<|
  some (.go ((s0.1++[x]),(bq (s0.2+1))))
 ) else (
  some (.brk s0.1)
 )
 ) N (List.replicate i x,(i:Int))=some (.brk (List.replicate K x))
 | d,i,0,_,h=>by omega
 | 0,i,N+1,h,_=>by
  have e:i=K:=by omega
  subst e;simp only [vq];rw [S4 (by omega)];rfl
 | d+1,i,N+1,h,hN=>by
  simp only [vq];rw [S5 (by omega)];simp only [cond_true,List.length_replicate];rw [aE (by omega)];simp only [S6,CZ];have e:bq ((i:Int)+1)=((i+1:Nat):Int):=by rw [l7 (by omega) (by omega)];rfl
  rw [e,← List.replicate_succ'];exact U3 x K hK d (i+1) N (by omega) (by omega)
theorem vf:k8 F0=some (0,0):=by kernel_rfl
theorem vr:z8 F0=some (0,0):=by kernel_rfl
theorem WH:((
 bif (z7 F0).isSome then (
  (z7 F0).bind fun y0 =>
  some y0.2.2.2.2.2.2.2.2.2.2.2.2.2.2.2.2.2.2.2.2.2.2.2
 ) else (
  (bt F0).bind fun y1 =>
  some y1
 )
 ):Option Bool)=some true:=by kernel_rfl
theorem Wg (b:Bool) (n:Int):((!b||decide (n<0))||decide (n≥((F0.Code.length:Nat):Int)))=true:=by rw [Bool.or_eq_true,Bool.or_eq_true,decide_eq_true_eq,decide_eq_true_eq];have:F0.Code.length=0:=rfl;omega
theorem UJ (r:Rewrite):Bc F0 r=some (FE,9):=by unfold Bc;rw [WH];simp only [S6,cond_true,Tl];rw [Wg];rfl
theorem UD (r:Rewrite):l5 F0 r=some (FE,9):=by unfold l5 Ue;rw [vr,B2];simp only [S6];rw [Wg];rfl
def Ur (k:Nat):Flat×Int×Int:=if k=0 then (F0,0,0) else if k≤1000 then (FE,0,9) else (FE,0,3)
theorem UB (l:List Rewrite):ek F0 l=some (if l.length≤1000 then 0 else 3):=by
 unfold ek;rw [vf];simp only [S6];by_cases h:l.length≤1000
 ·rw [S4 (by omega),if_pos h];rfl
 ·rw [S5 (by omega),if_neg h];rfl
theorem Uj (x:Rewrite) (k:Nat):kn F0 (List.replicate k x)=some (Ur k):=by
 unfold kn;have e:(Flat.mk F0.Vars F0.Where F0.Inputs F0.Code F0.Results)=F0:=rfl;rw [e];unfold Ur;cases k with
 | zero =>
  have h:kb F0 (List.replicate 0 x)=some ([F0],0,0):=by rw [List.replicate_zero];unfold kb;rw [UB];rfl
  rw [h];rfl
 | succ k =>
  rw [if_neg (by omega)];by_cases h:k+1≤1000
  ·have h2:kb F0 (List.replicate (k+1) x)=some ([],0,9):=by show (ek F0 (x::List.replicate k x)).bind _=_;rw [UB,if_pos (by simpa using h)];simp only [S6];rw [UJ];rfl
   rw [h2,if_pos h];rfl
  ·have h2:kb F0 (List.replicate (k+1) x)=some ([],0,3):=by show (ek F0 (x::List.replicate k x)).bind _=_;rw [UB,if_neg (by simpa using h)];rfl
   rw [h2,if_neg h];rfl
theorem Un (x:Rewrite) (k:Nat):nB F0 (List.replicate k x)=some (Ur k):=by
 unfold nB;rw [vr];simp only [S6,List.length_replicate];unfold Ur;by_cases h:k≤1000
 ·rw [S4 (by omega),if_pos h];cases k with
  | zero=>rfl
  | succ k =>
   rw [if_neg (by omega)];show Option.bind (bR _ _ (k+1) 0 _) _=_;simp only [bR];have e:∀ r:Rewrite,l5 (Flat.mk F0.Vars F0.Where F0.Inputs F0.Code F0.Results) r=some (FE,9):=UD;rw [e];rfl
 ·rw [S5 (by omega),if_neg h,if_neg (by omega)];rfl
theorem VL (p:List Rewrite) (h:1000<p.length):cV p=some ([],3):=by unfold cV;rw [S5 (by omega)];rfl
theorem UI (p:List Rewrite) (h:1000<p.length):ez p=some ([],3):=by unfold ez;rw [S5 (by omega)];rfl
theorem VK:∀ {p:List Rewrite},(∀ r∈p,RB r)→p.length≤1000→(TZ p).1.length≤1000∧∀ s∈(TZ p).1,s.length≤1000000:=by
 intro p hr hp;unfold TZ;cases hm:p.mapM aU with
 | none=>simp
 | some l =>
  obtain ⟨h1,h2⟩:=U5 hm hr;exact ⟨by show l.length≤1000;omega,h2⟩
theorem UO (x:Rewrite) (n:Int) (hx:RB x) (h0:0≤n) (h1:n<65536):fw x n=some true:=by
 unfold fw;rw [VI];simp only [S6,cond_true];have hw:IntKind.wrap .i64 n=n:=by unfold IntKind.wrap IntKind.bits IntKind.signed;simp;omega
 obtain ⟨m,rfl⟩:=Int.eq_ofNat_of_zero_le h0;have hk:(IntKind.wrap .i64 (m:Int)).tmod 1011=((m % 1011:Nat):Int):=by rw [hw];rfl
 rw [hk];have hK:m % 1011≤1010:=by omega
 generalize m % 1011=K at hK;refine (congrArg (fun o:Option (Out (List Rewrite) Empty)=>Option.bind o _) (U3 x K hK K 0 4294967296 (by omega) (by omega))).trans ?_;simp only [S6,fb];have e:(Flat.mk [] [] [(aY.mk [105,110,116] (Shape.mk [] []))] [] [0])=F0:=rfl;rw [e,Uj,Un];simp only [S6];have hp:∃ l e,cV (List.replicate K x)=some (l,e)∧ez (List.replicate K x)=some (l,e)∧l.length≤1000∧∀ s∈l,s.length≤1000000:=by
  have hr:∀ r∈List.replicate K x,RB r:=fun r hr=>by rw [List.eq_of_mem_replicate hr];exact hx
  by_cases h:K≤1000
  ·have hl:(List.replicate K x).length≤1000:=by simpa using h
   obtain ⟨a,b⟩:=VK hr hl;exact ⟨_,_,Uz _ hl hr,UF _ hl hr,a,b⟩
  ·have hl:1000<(List.replicate K x).length:=by simp;omega
   exact ⟨_,_,VL _ hl,UI _ hl,by simp,by simp⟩
 obtain ⟨l,e,p1,p2,p3,p4⟩:=hp;rw [p1,p2];simp only [S6];rw [Uy l p3 p4,UE l p3 p4];simp only [S6,beq_self_eq_true,Bool.and_self,cond_true,VN,VZ]
end Go.Proofs.YtkibeldbfkainaaGreatDoor
