/- Plain laws: what the walked functions compute answers as the statement says. -/
import Derived.Test.YtgdjadenmognaaaGreatDoorWkaProofTexts
import Derived.Lib.ItoaNum
import Derived.Lib.ItoaMem
import Derived.Lib.AtoiAll
import Derived.Lib.CountLaws
import Derived.Lib.SplitLaws
import Derived.Lib.ItoaLen
import Derived.Lib.AtoiAllCases
import Derived.KernelRfl
set_option linter.unusedSimpArgs false
set_option linter.unusedVariables false
namespace Go.Sh
open Go.Ab
section
variable {α σ ε ρ:Type}
theorem cO {body:Nat→Unit→Option (kr Unit ε ρ)} {fin:Nat→Unit→ε} {r:ρ} (p:Nat→Bool):∀ (k i:Nat) (u:Unit),(∀ j u,i≤j→j<i+k→body j u=some (bif p j then .go () else .ret r)) →
 bR body fin k i u=some (bif (List.range' i k).all p then .brk (fin (i+k) ()) else .ret r)
 | 0,i,u,h=>by simp [bR]
 | k+1,i,u,h=>by
  simp only [bR,h i u (Nat.le_refl _) (by omega),List.range'_succ,List.all_cons];cases hp:p i with
  | true =>
   simp only [cond_true,S6,CZ,Bool.true_and];rw [cO p k (i+1) () (fun j u h1 h2=>h j u (by omega) (by omega))];rw [show i+1+k=i+(k+1) by omega]
  | false=>simp [CZ]
theorem j1 (q:α→Bool) (d:α) (l:List α):∀ (i:Nat),(List.range' i (l.length-i)).all (fun j=>q (l.getD j d))=(l.drop i).all q:=by
 intro i;by_cases h:i<l.length
 ·obtain ⟨k,hk⟩:∃ k,l.length-i=k+1:=⟨l.length-i-1,by omega⟩;have ih:=j1 q d l (i+1);rw [hk,List.range'_succ,List.all_cons,List.drop_eq_getElem_cons h,List.all_cons];rw [show l.length-(i+1)=k by omega] at ih;rw [ih];simp [SW,SX h]
 ·rw [show l.length-i=0 by omega,List.drop_eq_nil_of_le (by omega)];rfl
 termination_by i=>l.length-i
theorem Dj (q:α→Bool) (d:α) (l:List α):(List.range' 0 (l.length-0)).all (fun j=>q (l.getD j d))=l.all q:=by have:=j1 q d l 0;simpa using this
end
def bS (b:UInt8):Bool:=decide (48≤b.toNat)&&decide (b.toNat≤57)
def o3 (acc:Nat) (l:aj):Nat:=l.foldl (fun a c=>a*10+(c.toNat-48)) acc
theorem MS (acc:Nat) (l:aj) (c:UInt8):o3 acc (l++[c])=o3 acc l*10+(c.toNat-48):=by simp [o3]
theorem Gm:∀ (l:aj) (acc:Nat),l.all bS=true→(acc+1)*10 ^ l.length≤10 ^ 18→Lib.parseUint10 acc l = .ok (o3 acc l)
 | [],acc,_,_=>rfl
 | c::l,acc,h,hb=>by
  simp only [List.all_cons,SY,bS,decide_eq_true_eq] at h;obtain ⟨⟨h1,h2⟩,h3⟩:=h;have hp:1≤10 ^ l.length:=Nat.one_le_pow _ _ (by decide);have hb2:(acc*10+10)*10 ^ l.length≤10 ^ 18:=by
   have:(acc+1)*10 ^ (l.length+1)=(acc*10+10)*10 ^ l.length:=by rw [Nat.pow_succ];rw [show (acc*10+10)=(acc+1)*10 by omega,Nat.mul_assoc,Nat.mul_comm 10]
   rw [← this];simpa using hb
  have hb3:acc*10+10≤10 ^ 18:=Nat.le_trans (Nat.le_mul_of_pos_right _ hp) hb2;have e18:(10:Nat) ^ 18=1000000000000000000:=by decide
  rw [e18] at hb3;simp only [Lib.parseUint10];rw [if_pos ⟨h1,h2⟩,if_neg (by omega),if_neg (by omega)];rw [Gm l _ (by simpa [bS] using h3) (Nat.le_trans (Nat.mul_le_mul_right _ (by omega)) hb2)];rfl
theorem Iq {c:UInt8} (h:bS c=true):UInt8.ofNat (48+(c.toNat-48))=c:=by simp only [bS,SY,decide_eq_true_eq] at h;rw [show 48+(c.toNat-48)=c.toNat by omega];exact UInt8.ofNat_toNat
theorem OE {α:Type} {P:List α→Prop} (h0:P []) (h1:∀ l c,P l→P (l++[c])) (l:List α):P l:=by
 have:∀ m:List α,P m.reverse:=by
  intro m;induction m with
  | nil=>exact h0
  | cons c m ih=>simpa using h1 _ c ih
 simpa using this l.reverse
theorem Pq (l:aj):l.all bS=true→l≠[]→l.head? ≠ some 48→1≤o3 0 l∧Lib.decDigits (o3 0 l)=l:=by
 refine OE (P:=fun l=>l.all bS=true→l≠[]→l.head? ≠ some 48→1≤o3 0 l∧Lib.decDigits (o3 0 l)=l) ?_ ?_ l
 ·intro _ h;exact absurd rfl h
 ·intro l c ih h _ hh;rw [List.all_append,SY] at h;have hc:bS c=true:=by simpa using h.2
  have hc':=hc;simp only [bS,SY,decide_eq_true_eq] at hc';rw [MS];by_cases hl:l=[]
  ·subst hl;have hne:c≠48:=by simpa using hh
   have:c.toNat≠48:=fun e=>hne (by rw [← UInt8.toNat_inj];simpa using e);simp only [o3,List.foldl_nil,Nat.zero_mul,Nat.zero_add,List.nil_append];refine ⟨by omega,?_⟩;rw [Lib.decDigits_one (by omega),Iq hc]
  ·have hh2:l.head? ≠ some 48:=by
    cases l with
    | nil=>exact absurd rfl hl
    | cons x l=>simpa using hh
   obtain ⟨i1,i2⟩:=ih h.1 hl hh2;refine ⟨by omega,?_⟩;rw [Lib.decDigits,dif_neg (by omega),show (o3 0 l*10+(c.toNat-48)) / 10=o3 0 l by omega,i2,show (o3 0 l*10+(c.toNat-48)) % 10=c.toNat-48 by omega,Iq hc]
theorem G6 (u:Nat):(Lib.decDigits u).all bS=true∧(1≤u→(Lib.decDigits u).head? ≠ some 48)∧Lib.decDigits u≠[]:=by
 have key:∀ i,i<10→bS (UInt8.ofNat (48+i))=true:=by decide
 have key2:∀ i,i<10→1≤i→UInt8.ofNat (48+i)≠48:=by decide
 by_cases h:u<10
 ·rw [Lib.decDigits_one h];exact ⟨by simp only [List.all_cons,List.all_nil,Bool.and_true];exact key u h,fun h1=>by simpa using key2 u h h1,by simp⟩
 ·have ih:=G6 (u / 10);rw [Lib.decDigits,dif_neg h];refine ⟨by rw [List.all_append,ih.1];simp only [List.all_cons,List.all_nil,Bool.and_true,Bool.true_and];exact key (u % 10) (by omega),fun _=>?_,by simp⟩;have:=ih.2.1 (by omega);cases hd:Lib.decDigits (u / 10) with
  | nil=>exact absurd hd ih.2.2
  | cons x l=>rw [hd] at this;simpa using this
 termination_by u
 decreasing_by omega
theorem aE {α:Type} {p:Prop} [Decidable p] {x:Option α} (h:p):bo p x=x:=if_pos h
theorem Ue {α:Type} (d:α) {l:List α} {i:Nat} (h:i<l.length):l.getD i d=l[i]:=by rw [SW,SX h];rfl
theorem Uq {α:Type} (d:α) {l:List α} {i:Nat} (h:i<l.length):l.getD i d∈l:=by rw [Ue d h];exact List.getElem_mem h
theorem U0 {σ ε ρ:Type} {body:Nat→σ→Option (kr σ ε ρ)} {fin:Nat→σ→ε} (I:Nat→σ→Prop):∀ (k i:Nat) (s:σ),I i s→(∀ j s,i≤j→j<i+k→I j s→∃ s',body j s=some (.go s')∧I (j+1) s') →
 ∃ s',bR body fin k i s=some (.brk (fin (i+k) s'))∧I (i+k) s'
 | 0,i,s,hI,h=>⟨s,by simp [bR],hI⟩
 | k+1,i,s,hI,h=>by obtain ⟨s1,h1,h2⟩:=h i s (Nat.le_refl _) (by omega) hI;obtain ⟨s',e1,e3⟩:=U0 I k (i+1) s1 h2 (fun j s h1 h2=>h j s (by omega) (by omega));refine ⟨s',?_,by rw [show i+(k+1)=i+1+k by omega];exact e3⟩;simp only [bR,h1,S6,CZ];rw [e1,show i+1+k=i+(k+1) by omega]
def wd:aj→aj→List aj
 | cur,[]=>[cur]
 | cur,c::s=>if c=32 then cur::wd [] s else wd (cur++[c]) s
def jn:List aj→aj
 | []=>[]
 | [x]=>x
 | x::y::r=>x++32::jn (y::r)
theorem Vt:∀ (s cur:aj),wd cur s≠[]
 | [],cur=>by simp [wd]
 | c::s,cur=>by
  unfold wd;split
  ·simp
  ·exact Vt s _
theorem Vx (x:aj) {l:List aj} (h:l≠[]):jn (x::l)=x++32::jn l:=by
 cases l with
 | nil=>exact absurd rfl h
 | cons y r=>rfl
theorem U5:∀ (s cur:aj),jn (wd cur s)=cur++s
 | [],cur=>by simp [wd,jn]
 | c::s,cur=>by
  unfold wd;by_cases e:c=32
  ·rw [if_pos e,Vx _ (Vt s []),U5 s [],e];rfl
  ·rw [if_neg e,U5 s];simp
theorem Vu:∀ (s cur:aj),(∀ c∈cur,c≠32)→∀ p∈wd cur s,∀ c∈p,c≠32
 | [],cur,h,p,hp,c,hc=>by
  have:p=cur:=by simpa [wd] using hp
  subst this;exact h c hc
 | x::s,cur,h,p,hp,c,hc=>by
  unfold wd at hp;by_cases e:x=32
  ·rw [if_pos e] at hp;rcases List.mem_cons.1 hp with rfl | hp
   ·exact h c hc
   ·exact Vu s [] (by simp) p hp c hc
  ·rw [if_neg e] at hp;refine Vu s _ (fun y hy=>?_) p hp c hc;rcases List.mem_append.1 hy with hy | hy
   ·exact h y hy
   ·have:y=x:=by simpa using hy
    rw [this];exact e
theorem UW:∀ (x cur rest:aj),(∀ c∈x,c≠32)→wd cur (x++rest)=wd (cur++x) rest
 | [],cur,rest,_=>by simp
 | c::x,cur,rest,h=>by rw [List.cons_append];have hc:¬ c=32:=h c (by simp);rw [wd,if_neg hc,UW x _ rest fun y hy=>h y (by simp [hy])];simp
theorem Vv:∀ (r:List aj) (x:aj),(∀ p∈x::r,∀ c∈p,c≠32)→wd [] (jn (x::r))=x::r
 | [],x,h=>by
  have:=UW x [] [] (h x (by simp));rw [List.append_nil] at this;show wd [] x=[x];rw [this];simp [wd]
 | y::r,x,h=>by show wd [] (x++32::jn (y::r))=_;rw [UW x [] _ (h x (by simp)),wd,if_pos rfl,Vv r y fun p hp=>h p (by simp at hp ⊢;exact .inr hp)];simp
theorem TT (k:UInt8):∀ (p rest:aj),(∀ c∈p,c≠k)→Lib.index (p++(k::rest)) [k]=(p.length:Int)
 | [],rest,_=>by simp [Lib.index,List.isPrefixOf]
 | c::p,rest,h=>by
  have ih:=TT k p rest (fun x hx=>h x (by simp [hx]));have hc:=h c (by simp);have e:([k]:aj).isPrefixOf (c::(p++(k::rest)))=false:=by simp only [List.isPrefixOf,Bool.and_eq_false_iff,beq_eq_false_iff_ne];exact .inl (Ne.symm hc)
  rw [List.cons_append,Lib.index,if_neg (by rw [e];simp),ih];have:(((p.length:Nat):Int) == -1)=false:=by rw [beq_eq_false_iff_ne];omega
  rw [if_neg (by rw [this];simp)];simp
theorem Uf (k:UInt8):∀ (p:aj),(∀ c∈p,c≠k)→Lib.index p [k] = -1
 | [],_=>by simp [Lib.index]
 | c::p,h=>by
  have ih:=Uf k p (fun x hx=>h x (by simp [hx]));have hc:=h c (by simp);have e:([k]:aj).isPrefixOf (c::p)=false:=by simp only [List.isPrefixOf,Bool.and_eq_false_iff,beq_eq_false_iff_ne];exact .inl (Ne.symm hc)
  rw [Lib.index,if_neg (by rw [e];simp),ih];rfl
theorem UF:∀ (r:List aj) (x:aj),(∀ p∈x::r,∀ c∈p,c≠32)→Lib.count (jn (x::r)) [32]=r.length
 | [],x,h=>Lib.count_miss (Uf 32 x (h x (by simp)))
 | y::r,x,h=>by
  have hj:jn (x::y::r)=x++32::jn (y::r):=rfl;rw [hj];have:=Lib.count_hit (by simp) (TT 32 x (jn (y::r)) (h x (by simp)));rw [this];have e:(x++(32::jn (y::r))).drop (x.length+([32]:aj).length)=jn (y::r):=by rw [← List.drop_drop,List.drop_left];rfl
  rw [e,UF r y (fun p hp=>h p (by simp at hp ⊢;exact .inr hp))];simp;omega
theorem UM:∀ (r:List aj) (x:aj),(∀ p∈x::r,∀ c∈p,c≠32)→Lib.splitK [32] 0 r.length (jn (x::r))=x::r
 | [],x,_=>rfl
 | y::r,x,h=>by
  have hj:jn (x::y::r)=x++32::jn (y::r):=rfl;rw [hj,List.length_cons,Lib.splitK,TT 32 x _ (h x (by simp))];have:(((x.length:Nat):Int) == -1)=false:=by rw [beq_eq_false_iff_ne];omega
  rw [if_neg (by rw [this];simp)];have e:(x++(32::jn (y::r))).drop (((x.length:Nat):Int).toNat+([32]:aj).length)=jn (y::r):=by rw [Int.toNat_natCast,← List.drop_drop,List.drop_left];rfl
  rw [e,UM r y (fun p hp=>h p (by simp at hp ⊢;exact .inr hp))];simp
theorem Us (s:aj) (hs:s.length≤1000000):ti s [32]=some (wd [] s):=by
 unfold ti;rw [aE ⟨by omega,by simp⟩];have hj:=U5 s [];rw [List.nil_append] at hj;have hn:=Vu s [] (by simp);obtain ⟨x,r,e⟩:=List.exists_cons_of_ne_nil (Vt s []);rw [e] at hj hn ⊢;have hc:Lib.countB ⟨s.toArray⟩ ⟨([32]:aj).toArray⟩=r.length:=by show Lib.count s.toArray.toList (([32]:aj).toArray.toList)=_;have:=UF r x hn;rw [hj] at this;simpa using this
 rw [hc];congr 1;have:=UM r x hn
 rwa [hj] at this
theorem UX:∀ (s cur:aj),∀ p∈wd cur s,p.length≤cur.length+s.length
 | [],cur,p,hp=>by
  have:p=cur:=by simpa [wd] using hp
  subst this;simp
 | c::s,cur,p,hp=>by
  unfold wd at hp;by_cases e:c=32
  ·rw [if_pos e] at hp;rcases List.mem_cons.1 hp with rfl | hp
   ·simp
   ·have:=UX s [] p hp;simp at this ⊢;omega
  ·rw [if_neg e] at hp;have:=UX s _ p hp;simp at this ⊢;omega
theorem Va (a:Nat) (c:UInt8) (l:aj):o3 a (c::l)=o3 (a*10+(c.toNat-48)) l:=by unfold o3;rw [List.foldl_cons]
theorem U4 (l:aj):∀ a:Nat,l.all bS=true→o3 a l+1≤(a+1)*10 ^ l.length:=by
 induction l with
 | nil=>intro a _;simp [o3]
 | cons x l ih =>
  intro a hx;simp only [List.all_cons,SY,bS,decide_eq_true_eq] at hx;have:=ih (a*10+(x.toNat-48)) (by simpa [bS] using hx.2);rw [Va,List.length_cons,Nat.pow_succ];generalize 10 ^ l.length=p at this ⊢;refine Nat.le_trans this ?_;rw [← Nat.mul_assoc,Nat.mul_right_comm];exact Nat.mul_le_mul_right p (by omega)
def canon (s:aj):Bool:=s.all bS&&(!s.isEmpty&&(s==[48] || !(s.head? == some 48)))
theorem Uc {s:aj} (h:canon s=true):Lib.decDigits (o3 0 s)=s:=by
 unfold canon at h;simp only [SY,Bool.or_eq_true,Bool.not_eq_true',beq_iff_eq,List.isEmpty_eq_false_iff,beq_eq_false_iff_ne] at h;obtain ⟨h1,h2,h3⟩:=h;rcases h3 with rfl | h3
 ·rw [Lib.decDigits];rfl
 ·exact (Pq s h1 h2 h3).2
def dec (n:Nat):aj:=Lib.decDigits n
theorem vp {n:Nat} (h:n<10):dec n=[UInt8.ofNat (48+n)]:=by unfold dec;rw [Lib.decDigits,dif_pos h]
theorem TN {n:Nat} (h:¬ n<10):dec n=dec (n / 10)++[UInt8.ofNat (48+n % 10)]:=by unfold dec;rw [Lib.decDigits,dif_neg h]
theorem cV:∀ (k a:Nat),a<10 ^ (k+1)→(dec a).length≤k+1
 | k,a,h=>by
  by_cases h10:a<10
  ·rw [vp h10];simp
  ·cases k with
   | zero=>simp at h;omega
   | succ k =>
    rw [TN h10];have hp:10 ^ (k+1+1)=10*10 ^ (k+1):=by rw [Nat.pow_succ];omega
    have:=cV k (a / 10) (by rw [hp] at h;omega);simp only [List.length_append,List.length_cons,List.length_nil];omega
theorem UG (a:Nat):o3 0 (dec a)=a:=by
 induction a using Nat.strongRecOn with
 | _ a ih =>
  by_cases h:a<10
  ·rw [vp h];simp only [o3,List.foldl_cons,List.foldl_nil];rw [UInt8.toNat_ofNat_of_lt' (show _<256 by omega)];omega
  ·rw [TN h,MS,ih (a / 10) (by omega),UInt8.toNat_ofNat_of_lt' (show _<256 by omega)];omega
theorem Ud (n:Nat):canon (dec n)=true:=by
 obtain ⟨h1,h2,h3⟩:=G6 n;unfold canon dec;simp only [SY,Bool.or_eq_true,Bool.not_eq_true',beq_iff_eq,List.isEmpty_eq_false_iff,beq_eq_false_iff_ne];refine ⟨h1,h3,?_⟩;by_cases h0:n=0
 ·left;subst h0;rw [Lib.decDigits];rfl
 ·right;exact h2 (by omega)
theorem US (n:Nat):∀ c∈dec n,c≠32:=fun c hc=>by have h:=Tc.1 (G6 n).1 c hc;intro e;rw [e] at h;exact absurd h (by decide)
theorem Ve {s:aj} (h0:s≠[]) (h:s.all bS=true):∃ c r,s=c::r∧bS c=true:=by
 cases s with
 | nil=>exact absurd rfl h0
 | cons c r =>
  simp only [List.all_cons,SY] at h;exact ⟨c,r,rfl,h.1⟩
theorem Vc {s:aj} (h:canon s=true) (hl:s.length≤9):BH s=(((o3 0 s:Nat):Int),true):=by
 unfold canon at h;simp only [SY,Bool.not_eq_true',List.isEmpty_eq_false_iff] at h;have hv:=Gm s 0 h.1 (by
  have:10 ^ s.length≤10 ^ 9:=Nat.pow_le_pow_right (by decide) hl;omega)
 obtain ⟨c,r,e,hc⟩:=Ve h.2.1 h.1;simp only [bS,SY,decide_eq_true_eq] at hc;rw [e] at hv ⊢;unfold BH;rw [Lib.atoiAll_plain c r (by omega) (by omega)];have:Lib.parseMag (c::r) = .ok (o3 0 (c::r)):=by unfold Lib.parseMag;rw [if_neg (by simp)];exact hv
 rw [this];simp only [Lib.signless];have h9:=U4 (c::r) 0 (by rw [← e];exact h.1);have h10:10 ^ (c::r).length≤10 ^ 9:=Nat.pow_le_pow_right (by decide) (by rw [← e];exact hl);rw [if_neg (by omega)]
def hO (s:aj):Option Nat:=bif canon s&&decide (s.length≤7)&&decide (o3 0 s≤1000000) then some (o3 0 s) else none
theorem HI {n:Nat} (h:n≤1000000):hO (dec n)=some n:=by unfold hO;have hl:=cV 6 n (by omega);rw [Ud,UG,S5 hl,S5 h];rfl
theorem l9 {s:aj} {n:Nat} (h:hO s=some n):s=dec n∧n≤1000000:=by
 unfold hO at h;cases hb:canon s&&decide (s.length≤7)&&decide (o3 0 s≤1000000) with
 | false=>rw [hb] at h;cases h
 | true =>
  rw [hb] at h;simp only [SY,decide_eq_true_eq] at hb;injection h with h
  subst h;exact ⟨(Uc hb.1.1).symm,hb.2⟩
end Go.Sh
namespace Go.Proofs.YtgdjadenmognaaaGreatDoor
open Go.Ab Go.Sh
theorem tv {n:Int} (h1 : -9223372036854775808≤n) (h2:n≤9223372036854775807):bq n=n:=by unfold bq IntKind.wrap IntKind.bits IntKind.signed;simp;omega
def Tq (n:Int):aj×Bool:=bif decide (n<1)||decide (n>15) then ([],false) else (e7.getD (n-1).toNat [],true)
theorem TH (n:Int):la n=some (Tq n):=rfl
theorem Tj (n:Int):ka n=some (Tq n):=by
 unfold ka Tq;show (bif (decide (n<1)||decide (n>((e7.length:Nat):Int))) then some ([],false) else
  bo (0≤(bq (n-1))∧(bq (n-1))<(e7.length:Int))<|some (e7.getD (bq (n-1)).toNat [],true))=_
 rw [show ((e7.length:Nat):Int)=15 from rfl];by_cases h1:n<1
 ·rw [S5 h1];rfl
 ·by_cases h2:n>15
  ·rw [S5 h2,Bool.or_true];rfl
  ·rw [S4 h1,S4 h2,tv (by omega) (by omega),Bool.or_false,cond_false,cond_false,aE ⟨by omega,by omega⟩]
theorem VB (d:Nat) (h:d<10):UInt8.ofNat (IntKind.wrap .u8 (bq (48+(d:Int)))).toNat=UInt8.ofNat (48+d):=by
 have:d=0∨d=1∨d=2∨d=3∨d=4∨d=5∨d=6∨d=7∨d=8∨d=9:=by omega
 rcases this with rfl | rfl | rfl | rfl | rfl | rfl | rfl | rfl | rfl | rfl<;>rfl
theorem Ug:∀ (k N n:Nat) (s:aj),n<10 ^ k→k<N→n<10 ^ 19→s.length+k≤1000 →
 vq (σ:=(Int×aj)) (ε:=aj) (ρ:=Empty) (fun s0 =>
 bif decide (s0.1>0) then (
  bo ([(UInt8.ofNat (IntKind.wrap .u8 (bq (48+(s0.1.tmod 10)))).toNat)].length+s0.2.length≤9223372036854775807)<|
  some (.go ((bq (s0.1.tdiv 10)),([(UInt8.ofNat (IntKind.wrap .u8 (bq (48+(s0.1.tmod 10)))).toNat)]++s0.2)))
 ) else (
  some (.brk s0.2)
 )) N ((n:Int),s)=some (.brk ((if n=0 then [] else dec n)++s))
 | _,0,_,_,_,h,_,_=>by omega
 | k,N+1,n,s,hn,hk,h19,hs=>by
  simp only [vq];by_cases h0:n=0
  ·subst h0;rw [S4 (by omega)];rfl
  ·cases k with
   | zero=>simp at hn;omega
   | succ k =>
    rw [S5 (by omega)];simp only [cond_true];have e1:((n:Int).tmod 10)=((n % 10:Nat):Int):=by rw [show (10:Int)=((10:Nat):Int) from rfl,← Int.ofNat_tmod]
    have e2:bq ((n:Int).tdiv 10)=((n / 10:Nat):Int):=by rw [show (10:Int)=((10:Nat):Int) from rfl,← Int.ofNat_tdiv];exact tv (by omega) (by omega)
    rw [aE (by simp;omega),e1,VB _ (by omega),e2];simp only [S6,CZ];rw [Nat.pow_succ] at hn;rw [Ug k N (n / 10) _ (by omega) (by omega) (by omega) (by simp;omega),if_neg h0];by_cases h10:n<10
    ·rw [if_pos (by omega),vp h10,show n % 10=n by omega];rfl
    ·rw [if_neg (by omega),TN h10];simp
theorem Ti (n:Nat) (h:n<10 ^ 19):j4 (n:Int)=some (dec n):=by
 unfold j4;have e1:((n:Int).tmod 10)=((n % 10:Nat):Int):=by rw [show (10:Int)=((10:Nat):Int) from rfl,← Int.ofNat_tmod]
 have e2:bq ((n:Int).tdiv 10)=((n / 10:Nat):Int):=by rw [show (10:Int)=((10:Nat):Int) from rfl,← Int.ofNat_tdiv];exact tv (by omega) (by omega)
 rw [e1,VB _ (by omega),e2];have hl:=Ug 19 4294967296 (n / 10) [UInt8.ofNat (48+n % 10)] (by omega) (by omega) (by omega) (by simp);refine (congrArg (fun o:Option (Out aj Empty)=>Option.bind o _) hl).trans ?_;simp only [S6,l5];by_cases h10:n<10
 ·rw [if_pos (by omega),vp h10,show n % 10=n by omega];rfl
 ·rw [if_neg (by omega),TN h10]
theorem z6 (n:Nat) (h:n≤9223372036854775807):jd (n:Int)=some (dec n):=by
 unfold jd;have hl:=cV 18 n (by omega);have e:Lh (n:Int)=dec n:=by
  unfold Lh;by_cases h10:n<10
  ·rw [S5 (by omega),S5 (by omega),vp h10];rfl
  ·rw [S4 (show ¬ (n:Int)<10 by omega),Bool.and_false,cond_false,Lib.itoa_nonneg];rfl
 rw [e,aE ⟨by omega,by omega,by omega⟩]
theorem UY (c:UInt8) (s:aj) (pre:List aj) (cur:aj):pre++wd cur (c::s)=if c=32 then (pre++[cur])++wd [] s else pre++wd (cur++[c]) s:=by
 rw [wd];split
 ·simp
 ·rfl
theorem T0 (s:aj) (hs:s.length≤1000000):tI s=some (wd [] s):=by
 unfold tI;obtain ⟨s',e1,pre,cur,e2,e3,_⟩:=U0 (ε:=List aj) (ρ:=Empty) (fin:=fun i0 s0=>s0) (fun j (l:List aj)=>∃ pre cur,l=pre++[cur]∧pre++wd cur (s.drop j)=wd [] s∧pre.length≤j∧cur.length≤j)
  (body:=fun i0 s0 =>
  ((
   bif (((s.getD i0 0).toNat:Int)==32) then (
    bo ((s0.length+1)*16≤140737488355328)<|
    some (s0++[[]])
   ) else (
    bo (0≤(bq (((s0.length:Nat):Int)-1))∧(bq (((s0.length:Nat):Int)-1))<(s0.length:Int))<|
    bo ((bq (((s0.length:Nat):Int)-1)).toNat<s0.length)<|
    bo (i0≤(i0+1)∧(i0+1)≤s.length)<|
    bo ((s0.getD ((bq (((s0.length:Nat):Int)-1)).toNat) []).length+((s.drop i0).take ((i0+1)-i0)).length≤9223372036854775807)<|
    some (s0.set ((bq (((s0.length:Nat):Int)-1)).toNat) ((s0.getD ((bq (((s0.length:Nat):Int)-1)).toNat) [])++((s.drop i0).take ((i0+1)-i0))))
   )
  ):Option (List aj)).bind fun v0 =>
  some (.go v0)) (s.length-0) 0 ([[]]:List aj) ⟨[],[],rfl,by simp,by simp,by simp⟩ (fun j l _ hj ⟨pre,cur,e,hw,hp,hc⟩=>by
   have hj:j<s.length:=by omega
   rw [List.drop_eq_getElem_cons hj,UY] at hw;have hg:s.getD j 0=s[j]:=Ue 0 hj;rw [hg];have hu:(((s[j]).toNat:Int)==32)=decide (s[j]=32):=by rw [Bool.eq_iff_iff,beq_iff_eq,decide_eq_true_eq,← UInt8.toNat_inj];rw [show (32:UInt8).toNat=32 from rfl];omega
   rw [hu,e];have hlen:(pre++[cur]).length=pre.length+1:=by simp
   by_cases h32:s[j]=32
   ·rw [S5 h32];simp only [cond_true];rw [aE (by rw [hlen];omega)];rw [if_pos h32] at hw;exact ⟨_,rfl,pre++[cur],[],rfl,hw,by rw [hlen];omega,by simp⟩
   ·rw [S4 h32];simp only [cond_false];rw [if_neg h32] at hw;have hw1:bq (((((pre++[cur]).length:Nat)):Int)-1)=(pre.length:Int):=by rw [hlen,tv (by omega) (by omega)];omega
    rw [hw1,Int.toNat_natCast,aE ⟨by omega,by rw [hlen];omega⟩,aE (by rw [hlen];omega),aE ⟨by omega,by omega⟩];have hgc:(pre++[cur]).getD pre.length []=cur:=by simp [SW]
    have htk:(s.drop j).take ((j+1)-j)=[s[j]]:=by rw [List.drop_eq_getElem_cons hj,show j+1-j=1 by omega];rfl
    rw [hgc,htk,aE (by simp;omega)];refine ⟨_,rfl,pre,cur++[s[j]],by simp,hw,by omega,by simp;omega⟩)
 refine (congrArg (fun o:Option (Out (List aj) Empty)=>Option.bind o _) e1).trans ?_;simp only [S6,l5];rw [List.drop_of_length_le (by omega)] at e3;rw [e2,← e3];rfl
theorem UE {σ ε ρ:Type} {body:Nat→σ→Option (kr σ ε ρ)} {fin:Nat→σ→ε} (I:Nat→σ→Prop) (p:Nat→Bool) (r:Nat→ρ):∀ (k i:Nat) (s:σ),I i s →
 (∀ j s,i≤j→j<i+k→I j s→(p j=true→∃ s',body j s=some (.go s')∧I (j+1) s')∧(p j=false→body j s=some (.ret (r j)))) →
 ((∀ j,i≤j→j<i+k→p j=true)∧∃ s',bR body fin k i s=some (.brk (fin (i+k) s'))∧I (i+k) s') ∨
 ∃ j,i≤j∧j<i+k∧p j=false∧(∀ m,i≤m→m<j→p m=true)∧bR body fin k i s=some (.ret (r j))
 | 0,i,s,hI,h=>.inl ⟨fun j h1 h2=>by omega,s,by simp [bR],hI⟩
 | k+1,i,s,hI,h=>by
  obtain ⟨h1,h2⟩:=h i s (Nat.le_refl _) (by omega) hI;cases hp:p i with
  | false=>exact .inr ⟨i,Nat.le_refl _,by omega,hp,fun m h3 h4=>by omega,by simp only [bR,h2 hp,S6,CZ]⟩
  | true =>
   obtain ⟨s1,e1,I1⟩:=h1 hp;have e:bR body fin (k+1) i s=bR body fin k (i+1) s1:=by simp only [bR,e1,S6,CZ]
   rw [e];rcases UE I p r k (i+1) s1 I1 (fun j s h1 h2=>h j s (by omega) (by omega)) with ⟨a,s',b,c⟩ | ⟨j,a,b,c,d,f⟩
   ·refine .inl ⟨fun j h3 h4=>?_,s',by rw [b,show i+1+k=i+(k+1) by omega],by rw [show i+(k+1)=i+1+k by omega];exact c⟩;by_cases e:j=i
    ·rw [e];exact hp
    ·exact a j (by omega) (by omega)
   ·refine .inr ⟨j,by omega,by omega,c,fun m h3 h4=>?_,f⟩;by_cases e:m=i
    ·rw [e];exact hp
    ·exact d m (by omega) h4
theorem Ul {s:aj} {j:Nat} (h:j<s.length):s.take (j+1)=s.take j++[s.getD j 0]:=by rw [Ue 0 h,List.take_add_one,SX h];rfl
theorem z7 {s:aj} {n:Nat} (h:hO s=some n):s.all bS=true∧s.length≤7∧o3 0 s=n∧n≤1000000∧canon s=true:=by obtain ⟨e,hn⟩:=l9 h;have hl:=cV 6 n (by omega);subst e;exact ⟨(G6 n).1,hl,UG n,hn,Ud n⟩
theorem Vz {s:aj} (h1:s.all bS=true) (h2:s≠[]) (h3:s=[48]∨s.head? ≠ some 48) (h4:o3 0 s≤1000000):hO s=some (o3 0 s):=by
 have hc:canon s=true:=by unfold canon;simp only [SY,Bool.or_eq_true,Bool.not_eq_true',beq_iff_eq,List.isEmpty_eq_false_iff,beq_eq_false_iff_ne];exact ⟨h1,h2,h3⟩
 have e:=Uc hc;have:hO (dec (o3 0 s))=some (o3 0 s):=HI h4;rw [show dec (o3 0 s)=s from e] at this;exact this
theorem Vw (x:UInt8):(decide ((x.toNat:Int)<48)||decide ((x.toNat:Int)>57)) = !bS x:=by unfold bS;rw [Bool.eq_iff_iff];simp;omega
def UA (s:aj) (o:Option (Int×Bool)):Prop:=∃ n b,o=some (n,b)∧b=(hO s).isSome∧∀ k,hO s=some k→n=(k:Int)
theorem TM (s:aj) (hs:s.length≤1000000):UA s (fa s):=by
 unfold fa;have hb:=UE (ε:=Int) (ρ:=Int×Bool) (fin:=fun i0 s0=>s0) (fun j (n:Int)=>n=((o3 0 (s.take j):Nat):Int)∧(s.take j).all bS=true∧j≤8) (fun j=>bS (s.getD j 0)&&decide (j≤7)) (fun _=>((0:Int),false))
  (body:=fun i0 s0 =>
  bif ((decide (((s.getD i0 0).toNat:Int)<48)||decide (((s.getD i0 0).toNat:Int)>57))||decide (((i0:Nat):Int)>7)) then (
   some (.ret (0,false))
  ) else (
   some (.go (bq ((bq (10*s0))+(((s.getD i0 0-48)).toNat:Int))))
  )) (s.length-0) 0 0 ⟨by simp [o3],by simp,by omega⟩ (fun j n _ hj ⟨e,hd,h8⟩=>by
   have hj:j<s.length:=by omega
   rw [Vw];constructor
   ·intro hp;simp only [SY,decide_eq_true_eq] at hp;rw [hp.1,S4 (by omega)];simp only [Bool.not_true,Bool.or_false,cond_false];have hc:=hp.1;simp only [bS,SY,decide_eq_true_eq] at hc;have hv:=U4 (s.take j) 0 hd;have hlen:(s.take j).length=j:=by rw [List.length_take];omega
    rw [hlen] at hv;have hp10:10 ^ j≤10 ^ 7:=Nat.pow_le_pow_right (by decide) hp.2;have hsub:(s.getD j 0-48).toNat=(s.getD j 0).toNat-48:=UInt8.toNat_sub_of_le _ 48 (by rw [UInt8.le_iff_toNat_le];exact hc.1);refine ⟨_,rfl,?_,?_,by omega⟩
    ·rw [Ul hj,MS,hsub,e,tv (n:=10*_) (by omega) (by omega),tv (by omega) (by omega)];omega
    ·rw [Ul hj,List.all_append,hd,List.all_cons,hp.1];rfl
   ·intro hp;have:(!bS (s.getD j 0)||decide (((j:Nat):Int)>7))=true:=by
     cases h:bS (s.getD j 0) with
     | false=>rfl
     | true =>
      rw [h] at hp;have:¬ j≤7:=by simpa using hp
      simp;omega
    rw [this];rfl)
 rcases hb with ⟨hall,s',e1,e2,e3,e4⟩ | ⟨j,_,hj,hp,_,e1⟩
 ·refine (congrArg (fun o=>UA s (Option.bind o _)) e1).mpr ?_;simp only [S6,Sh.aft];have htk:s.take (0+(s.length-0))=s:=List.take_of_length_le (by omega);rw [htk] at e2 e3;rw [aE (by
   intro h1 _;have:s≠[]:=by simpa using h1
   exact List.length_pos_iff.2 this)]
  refine ⟨_,_,rfl,?_,fun k hk=>by rw [e2,(z7 hk).2.2.1]⟩;have h0:(s.getD 0 0).toNat≠48↔s=[]∨s.head? ≠ some 48:=by
   cases s with
   | nil=>simp
   | cons c r=>simp [← UInt8.toNat_inj]
  cases hn:hO s with
  | some k =>
   obtain ⟨f1,f2,f3,f4,f5⟩:=z7 hn;unfold canon at f5;simp only [SY,Bool.or_eq_true,Bool.not_eq_true',beq_iff_eq,List.isEmpty_eq_false_iff,beq_eq_false_iff_ne] at f5;have a1:(s==[])=false:=by rw [beq_eq_false_iff_ne];exact f5.2.1
   rw [a1,e2,f3,S5 (by omega)];simp only [Bool.not_false,Bool.true_and,Bool.and_true,Option.isSome_some];rcases f5.2.2 with h | h
   ·rw [h];rfl
   ·have:(((s.getD 0 0).toNat:Int) != 48)=true:=by rw [bne_iff_ne];have:=h0.2 (.inr h);omega
    rw [this,Bool.or_true]
  | none =>
   simp only [Option.isSome_none];rw [Bool.eq_false_iff];intro h;simp only [SY,Bool.not_eq_true',Bool.or_eq_true,decide_eq_true_eq,beq_iff_eq,beq_eq_false_iff_ne,bne_iff_ne] at h;obtain ⟨⟨h1,h2⟩,h3⟩:=h;have:=Vz e3 h1 (by
    rcases h2 with h2 | h2
    ·exact .inl h2
    ·right;rcases h0.1 (by omega) with h | h
     ·exact absurd h h1
     ·exact h) (by omega)
   rw [this] at hn;cases hn
 ·refine (congrArg (fun o=>UA s (Option.bind o _)) e1).mpr ?_;simp only [S6,Sh.aft];have hn:hO s=none:=by
   cases hn:hO s with
   | none=>rfl
   | some k =>
    obtain ⟨f1,f2,_⟩:=z7 hn;have hj:j<s.length:=by omega
    have:=Tc.1 f1 _ (Uq 0 hj);rw [this,S5 (show j≤7 by omega)] at hp;cases hp
  exact ⟨_,_,rfl,by rw [hn];rfl,fun k hk=>by rw [hn] at hk;cases hk⟩
theorem TL (s:aj) (hs:s.length≤1000000):UA s (e9 s):=by
 unfold e9 th;rw [aE (by omega)];simp only [S6];have hk:∀ k,hO s=some k→BH s=((k:Int),true):=fun k hk=>by obtain ⟨f1,f2,f3,f4,f5⟩:=z7 hk;rw [Vc f5 (by omega),f3]
 cases hb:(BH s).2 with
 | false =>
  simp only [cond_false];have hn:hO s=none:=by
   cases hn:hO s with
   | none=>rfl
   | some k=>rw [hk k hn] at hb;cases hb
  exact ⟨_,_,rfl,by rw [hn];rfl,fun k hk=>by rw [hn] at hk;cases hk⟩
 | true =>
  simp only [cond_true];generalize hv:(BH s).1=v;by_cases hr:0≤v∧v≤1000000
  ·obtain ⟨n,rfl⟩:=Int.eq_ofNat_of_zero_le hr.1;rw [S5 (show ((n:Nat):Int)≥0 by omega),S5 (show ((n:Nat):Int)≤1000000 by omega)];simp only [Bool.and_self,cond_true];rw [z6 n (by omega)];simp only [S6,Bool.true_and];by_cases he:dec n=s
   ·have hn:hO s=some n:=by rw [← he];exact HI (by omega)
    exact ⟨_,_,rfl,by rw [hn,he];simp,fun k hk=>by rw [hn] at hk;injection hk with hk;rw [hk]⟩
   ·have hn:hO s=none:=by
     cases hn:hO s with
     | none=>rfl
     | some k =>
      have h1:=hk k hn;rw [h1] at hv;have h2:k=n:=by simp only at hv;omega
      rw [h2] at hn;exact absurd (l9 hn).1.symm he
    exact ⟨_,_,rfl,by rw [hn];simpa using he,fun k hk=>by rw [hn] at hk;cases hk⟩
  ·have hn:hO s=none:=by
    cases hn:hO s with
    | none=>rfl
    | some k =>
     have h1:=hk k hn;rw [h1] at hv;have:=(l9 hn).2;simp only at hv;omega
   have hc:(decide (v≥0)&&decide (v≤1000000))=false:=by rw [Bool.and_eq_false_iff,decide_eq_false_iff_not,decide_eq_false_iff_not];omega
   rw [hc];exact ⟨_,_,rfl,by rw [hn];rfl,fun k hk=>by rw [hn] at hk;cases hk⟩
def U3 (f:Int→Option (aj×Bool)) (y0:List aj) (s0:Int×Int):Option (kr (Int×Int) Int Empty) :=
 bif decide (s0.1≤15) then (
  (f s0.1).bind fun y1 =>
  bo (0<y0.length)<|
  ((
   bif (y1.1==(y0.getD 0 [])) then (
    some s0.1
   ) else (
    some s0.2
   )
  ):Option Int).bind fun v0 =>
  some (.go ((bq (s0.1+1)),v0))
 ) else (
  some (.brk s0.2)
 )
def Tv (w:aj) (v:Int) (k:Nat):Int:=if (Tq (k:Int)).1=w then (k:Int) else v
def db (w:aj):Int:=(List.range' 1 15).foldl (Tv w) 0
theorem TD {f:Int→Option (aj×Bool)} (hf:∀ n,f n=some (Tq n)) {y0:List aj} (h0:0<y0.length):∀ (d k N:Nat) (v:Int),k+d=16→d<N→vq (U3 f y0) N ((k:Int),v)=some (.brk ((List.range' k d).foldl (Tv (y0.getD 0 [])) v))
 | 0,k,N,v,hk,hN=>by
  obtain ⟨N,rfl⟩:∃ j,N=j+1:=⟨N-1,by omega⟩;simp only [vq,U3];rw [S4 (by omega)];rfl
 | d+1,k,N,v,hk,hN=>by
  obtain ⟨N,rfl⟩:∃ j,N=j+1:=⟨N-1,by omega⟩;simp only [vq,U3];rw [S5 (by omega),cond_true,hf];simp only [S6];rw [aE h0,tv (by omega) (by omega),show (k:Int)+1=((k+1:Nat):Int) by omega];have e:((bif ((Tq (k:Int)).1==y0.getD 0 []) then some (k:Int) else some v):Option Int)=some (Tv (y0.getD 0 []) v k):=by
   unfold Tv;by_cases h:(Tq (k:Int)).1=y0.getD 0 []
   ·rw [if_pos h,beq_iff_eq.2 h];rfl
   ·rw [if_neg h,beq_eq_false_iff_ne.2 h];rfl
  rw [e];simp only [S6,CZ];rw [TD hf h0 d (k+1) N _ (by omega) (by omega),List.range'_succ];rfl
def U1 (f:Int→Option (aj×Bool)) (g:aj→Option (Int×Bool)) (y0:List aj):Option (Rewrite×Bool) :=
 bif (decide (((y0.length:Nat):Int)<2)||decide (((y0.length:Nat):Int)>3)) then (
  some ((Rewrite.mk 0 0 0),false)
 ) else (
  (vq (σ:=(Int×Int)) (ε:=Int) (ρ:=Empty) (U3 f y0) 4294967296 (1,0)).bind<|l5 fun u0 =>
  bo (1<y0.length)<|
  (g (y0.getD 1 [])).bind fun y2 =>
  ((
   bif (((y0.length:Nat):Int)==3) then (
    bo (2<y0.length)<|
    (g (y0.getD 2 [])).bind fun y3 =>
    some (((y2.2&&y3.2)&&decide (y3.1>0)),y3.1)
   ) else (
    some (y2.2,0)
   )
  ):Option (Bool×Int)).bind fun v1 =>
  some ((Rewrite.mk u0 y2.1 v1.2),(v1.1&&decide (u0>0)))
 )
def ld (s:aj):Option Rewrite :=
 match wd [] s with
 | [a,b]=>match hO b with
  | some n=>if 0<db a then some (Rewrite.mk (db a) n 0) else none
  | none=>none
 | [a,b,c]=>match hO b,hO c with
  | some n,some m=>if 0<m∧0<db a then some (Rewrite.mk (db a) n m) else none
  | _,_=>none
 | _=>none
def TP (s:aj) (o:Option (Rewrite×Bool)):Prop:=∃ r b,o=some (r,b)∧b=(ld s).isSome∧∀ x,ld s=some x→r=x
theorem UJ {f:Int→Option (aj×Bool)} {g:aj→Option (Int×Bool)} (hf:∀ n,f n=some (Tq n)) {s:aj} (hs:s.length≤1000000) (hg:∀ x,x.length≤1000000→UA x (g x)):TP s (U1 f g (wd [] s)):=by
 have hl:∀ p∈wd [] s,p.length≤1000000:=fun p hp=>by have:=UX s [] p hp;simp at this;omega
 unfold U1 TP ld;generalize wd [] s=y0 at *;have bad:¬ (y0.length=2∨y0.length=3)→(decide (((y0.length:Nat):Int)<2)||decide (((y0.length:Nat):Int)>3))=true:=fun h=>by rw [Bool.or_eq_true,decide_eq_true_eq,decide_eq_true_eq];omega
 have good:(y0.length=2∨y0.length=3)→(decide (((y0.length:Nat):Int)<2)||decide (((y0.length:Nat):Int)>3))=false:=fun h=>by rw [Bool.or_eq_false_iff,decide_eq_false_iff_not,decide_eq_false_iff_not];omega
 match y0,hl,bad,good with
 | [],_,bad,_=>rw [bad (by simp)];exact ⟨_,_,rfl,rfl,fun x h=>by cases h⟩
 | [a],_,bad,_=>rw [bad (by simp)];exact ⟨_,_,rfl,rfl,fun x h=>by cases h⟩
 | a::b::c::d::l,_,bad,_=>rw [bad (by simp)];exact ⟨_,_,rfl,rfl,fun x h=>by cases h⟩
 | [a,b],hl,_,good =>
  rw [good (by simp)];simp only [cond_false];have hw:=TD hf (y0:=[a,b]) (by simp) 15 1 4294967296 0 rfl (by omega);rw [show (((1:Nat):Int),(0:Int))=(1,0) from rfl] at hw;rw [hw];simp only [S6,l5];rw [aE (by simp)];obtain ⟨n,bb,e,hb,hn⟩:=hg b (hl b (by simp));show ∃ r b_1,((g b).bind _)=_∧_;rw [e];simp only [S6];refine ⟨_,_,rfl,?_,fun x hx=>?_⟩
  ·show (bb&&decide (db a>0))=_;rw [hb];cases hO b with
   | none=>rfl
   | some k =>
    by_cases h:0<db a
    ·simp [h]
    ·simp [h]
  ·show Rewrite.mk (db a) n 0=x;cases hk:hO b with
   | none=>rw [hk] at hx;cases hx
   | some k =>
    rw [hk] at hx;simp only at hx;split at hx
    ·injection hx with hx
     rw [← hx,hn k hk]
    ·cases hx
 | [a,b,c],hl,_,good =>
  rw [good (by simp)];simp only [cond_false];have hw:=TD hf (y0:=[a,b,c]) (by simp) 15 1 4294967296 0 rfl (by omega);rw [show (((1:Nat):Int),(0:Int))=(1,0) from rfl] at hw;rw [hw];simp only [S6,l5];rw [aE (by simp)];obtain ⟨n,bb,e,hb,hn⟩:=hg b (hl b (by simp));obtain ⟨m,cc,e2,hc,hm⟩:=hg c (hl c (by simp));show ∃ r b_1,((g b).bind fun y2=>((bo (2<[a,b,c].length)<|(g c).bind fun y3=>some (((y2.2&&y3.2)&&decide (y3.1>0)),y3.1)):Option (Bool×Int)).bind _)=_∧_;rw [e];simp only [S6];rw [aE (by simp),e2];simp only [S6];refine ⟨_,_,rfl,?_,fun x hx=>?_⟩
  ·show (((bb&&cc)&&decide (m>0))&&decide (db a>0))=_;rw [hb,hc];cases hk:hO b with
   | none=>rfl
   | some k =>
    cases hj:hO c with
    | none=>simp
    | some j =>
     rw [hm j hj];by_cases h:0<db a<;>by_cases h2:0<j<;>simp [h,h2]
  ·show Rewrite.mk (db a) n m=x;cases hk:hO b with
   | none=>rw [hk] at hx;cases hx
   | some k =>
    cases hj:hO c with
    | none=>rw [hk,hj] at hx;cases hx
    | some j =>
     rw [hk,hj] at hx;simp only at hx;split at hx
     ·injection hx with hx
      rw [← hx,hn k hk,hm j hj]
     ·cases hx
theorem TX (s:aj) (hs:s.length≤1000000):TP s (kA s):=by
 have e:kA s=U1 la e9 (wd [] s):=by unfold kA;rw [Us s hs];rfl
 rw [e];exact UJ TH hs TL
theorem T9 (s:aj) (hs:s.length≤1000000):TP s (k8 s):=by
 have e:k8 s=U1 ka fa (wd [] s):=by unfold k8;rw [T0 s hs];rfl
 rw [e];exact UJ Tj hs TM
def Ub (l:List aj):Nat:=(l.takeWhile fun s=>(ld s).isSome).length
def HS (l:List aj):(List Rewrite)×Int×Int:=match l.mapM ld with
 | some x=>(x,(l.length:Int),0)
 | none=>([],(Ub l:Int),6)
theorem TB {g:aj→Option (Rewrite×Bool)} (l:List aj) (hg:∀ s∈l,TP s (g s)) (hl:l.length≤1000):∀ (k i:Nat) (a:List Rewrite),i+k=l.length→a.length≤i →
 bR (σ:=(List Rewrite)) (ε:=(List Rewrite)) (ρ:=((List Rewrite)×Int×Int)) (fun i0 s0 =>
  (g (l.getD i0 [])).bind fun y0 =>
  bif y0.2 then (
   bo ((s0.length+1)*24≤140737488355328)<|
   some (.go (s0++[y0.1]))
  ) else (
   some (.ret ([],((i0:Nat):Int),6))
  )
 ) (fun i0 s0=>s0) k i a=some (match (l.drop i).mapM ld with | some x=>.brk (a++x) | none=>.ret ([],((i+Ub (l.drop i):Nat):Int),6))
 | 0,i,a,hk,ha=>by
  rw [List.drop_of_length_le (by omega)];simp [bR]
 | k+1,i,a,hk,ha=>by
  have hi:i<l.length:=by omega
  obtain ⟨r,b,e,hb,hr⟩:=hg _ (Uq [] hi);rw [List.drop_eq_getElem_cons hi,← Ue [] hi];simp only [bR];rw [e];simp only [S6,List.mapM_cons];cases hx:ld (l.getD i []) with
  | none =>
   rw [hx] at hb;rw [hb];unfold Ub;rw [List.takeWhile_cons,hx];rfl
  | some x =>
   rw [hx] at hb;rw [hb,hr x hx];simp only [Option.isSome_some,cond_true];rw [aE (by omega)];simp only [S6,CZ];rw [TB l hg hl k (i+1) (a++[x]) (by omega) (by simp;omega)];have hbd:i+Ub (l.getD i []::l.drop (i+1))=i+1+Ub (l.drop (i+1)):=by unfold Ub;rw [List.takeWhile_cons,hx];simp;omega
   rw [hbd];cases (l.drop (i+1)).mapM ld with
   | none=>rfl
   | some z=>simp
theorem nz (l:List aj) (hl:l.length≤1000) (hs:∀ s∈l,s.length≤1000000):eu l=some (HS l):=by
 unfold eu;rw [S4 (by omega),cond_false];have h:=TB (g:=kA) l (fun s h=>TX s (hs s h)) hl (l.length-0) 0 [] (by omega) (by simp);refine (congrArg (fun o:Option (Out (List Rewrite) ((List Rewrite)×Int×Int))=>Option.bind o _) h).trans ?_;rw [List.drop_zero];unfold HS;cases l.mapM ld with
 | none=>simp [Sh.aft]
 | some x=>simp [Sh.aft]
theorem TY (l:List aj) (hl:l.length≤1000) (hs:∀ s∈l,s.length≤1000000):tA l=some (HS l):=by
 unfold tA;rw [S4 (by omega),cond_false];have h:=TB (g:=k8) l (fun s h=>T9 s (hs s h)) hl (l.length-0) 0 [] (by omega) (by simp);refine (congrArg (fun o:Option (Out (List Rewrite) ((List Rewrite)×Int×Int))=>Option.bind o _) h).trans ?_;rw [List.drop_zero];unfold HS;cases l.mapM ld with
 | none=>simp [Sh.aft]
 | some x=>simp [Sh.aft]
theorem UP:FN=some true:=by kernel_rfl
def RB (r:Rewrite):Prop:=r.At≤9223372036854775807∧r.Arg≤9223372036854775807
def kn (r:Rewrite):Option aj:=if (Tq r.Rule).2=true∧0≤r.At∧0≤r.Arg then some ((Tq r.Rule).1++32::(dec r.At.toNat++(if 0<r.Arg then 32::dec r.Arg.toNat else []))) else none
def z8 (p:List Rewrite):(List aj)×Int:=match p.mapM kn with
 | some l=>(l,0)
 | none=>([],1)
theorem Vk {n:Int} (h:(Tq n).2=true):1≤n∧n≤15:=by
 unfold Tq at h;cases hb:decide (n<1)||decide (n>15) with
 | true=>rw [hb] at h;cases h
 | false =>
  rw [Bool.or_eq_false_iff,decide_eq_false_iff_not,decide_eq_false_iff_not] at hb;omega
theorem TO {n:Int} (h:(Tq n).2=true):(Tq n).1.length≤10∧(∀ c∈(Tq n).1,c≠32)∧db (Tq n).1=n:=by
 obtain ⟨h1,h2⟩:=Vk h;have h3:n=1∨n=2∨n=3∨n=4∨n=5∨n=6∨n=7∨n=8∨n=9∨n=10∨n=11∨n=12∨n=13∨n=14∨n=15:=by omega
 have hd:∀ l:aj,(l.all fun c=>!(c==32))=true→∀ c∈l,c≠32:=fun l hl c hc=>by have:=Tc.1 hl c hc;simpa using this
 rcases h3 with rfl | rfl | rfl | rfl | rfl | rfl | rfl | rfl | rfl | rfl | rfl | rfl | rfl | rfl | rfl;all_goals exact ⟨by decide,hd _ (by decide),by decide⟩
theorem T1 {w:aj} (h:0<db w):Tq (db w)=(w,true)∧1≤db w∧db w≤15:=by
 have key:∀ (d k:Nat) (v:Int),1≤k→k+d≤16→(v=0∨(1≤v∧v≤15∧(Tq v).1=w))→((List.range' k d).foldl (Tv w) v=0∨(1≤(List.range' k d).foldl (Tv w) v∧(List.range' k d).foldl (Tv w) v≤15∧(Tq ((List.range' k d).foldl (Tv w) v)).1=w)):=by
  intro d;induction d with
  | zero=>intro k v _ _ hv;exact hv
  | succ d ih =>
   intro k v h1 h2 hv;rw [List.range'_succ,List.foldl_cons];refine ih (k+1) _ (by omega) (by omega) ?_;unfold Tv;split
   ·rename_i he;exact .inr ⟨by omega,by omega,he⟩
   ·exact hv
 rcases key 15 1 0 (by omega) (by omega) (.inl rfl) with h1 | ⟨h1,h2,h3⟩
 ·have:db w=0:=h1;omega
 ·refine ⟨?_,h1,h2⟩;refine Prod.ext h3 ?_;show (Tq (db w)).2=true;have h1:1≤db w:=h1;have h2:db w≤15:=h2;unfold Tq;rw [S4 (by omega),S4 (by omega)];rfl
theorem U6 {r:Rewrite} {s:aj} (hr:RB r) (h:kn r=some s):s.length≤60:=by
 unfold kn at h;split at h
 ·rename_i hc;injection h with h
  have h1:=(TO hc.1).1;have h2:=cV 18 r.At.toNat (by have:=hr.1;omega);have h3:=cV 18 r.Arg.toNat (by have:=hr.2;omega);rw [← h];split<;>simp<;>omega
 ·cases h
theorem TC {body:Nat→List aj→Option (kr (List aj) (List aj) ((List aj)×Int))} (p:List Rewrite) (hb:∀ j s,j<p.length→s.length≤j→body j s=some (match kn (p.getD j ⟨0,0,0⟩) with | some x=>.go (s++[x]) | none=>.ret ([],1))):∀ (k i:Nat) (a:List aj),i+k=p.length→a.length≤i →
 bR (ε:=(List aj)) body (fun i0 s0=>s0) k i a=some (match (p.drop i).mapM kn with | some x=>.brk (a++x) | none=>.ret ([],1))
 | 0,i,a,hk,ha=>by
  rw [List.drop_of_length_le (by omega)];simp [bR]
 | k+1,i,a,hk,ha=>by
  have hi:i<p.length:=by omega
  rw [List.drop_eq_getElem_cons hi,← Ue (⟨0,0,0⟩:Rewrite) hi];simp only [bR];rw [hb i a hi ha];simp only [S6,List.mapM_cons];cases hx:kn (p.getD i ⟨0,0,0⟩) with
  | none=>rfl
  | some x =>
   simp only [S6,CZ];rw [TC p hb k (i+1) (a++[x]) (by omega) (by simp;omega)];cases (p.drop (i+1)).mapM kn with
   | none=>rfl
   | some z=>simp
theorem Vd {r:Rewrite}:((!(Tq r.Rule).2||decide (r.At<0))||decide (r.Arg<0)) = !decide ((Tq r.Rule).2=true∧0≤r.At∧0≤r.Arg):=by rw [Bool.eq_iff_iff];simp only [Bool.or_eq_true,Bool.not_eq_true',decide_eq_true_eq,decide_eq_false_iff_not];cases (Tq r.Rule).2<;>simp<;>omega
theorem nV (p:List Rewrite) (hp:p.length≤1000) (hr:∀ r∈p,RB r):ez p=some (z8 p):=by
 unfold ez;rw [S4 (by omega),cond_false];have h:=TC (body:=fun i0 s0 =>
  (la ((p.getD i0 ⟨0,0,0⟩).Rule)).bind fun y0 =>
  bif ((!y0.2||decide (((p.getD i0 ⟨0,0,0⟩).At)<0))||decide (((p.getD i0 ⟨0,0,0⟩).Arg)<0)) then (
   some (.ret ([],1))
  ) else (
   bo (y0.1.length+[32].length≤9223372036854775807)<|
   (jd ((p.getD i0 ⟨0,0,0⟩).At)).bind fun y1 =>
   bo ((y0.1++[32]).length+y1.length≤9223372036854775807)<|
   ((
    bif decide (((p.getD i0 ⟨0,0,0⟩).Arg)>0) then (
     (jd ((p.getD i0 ⟨0,0,0⟩).Arg)).bind fun y2 =>
     bo ([32].length+y2.length≤9223372036854775807)<|
     bo (((y0.1++[32])++y1).length+([32]++y2).length≤9223372036854775807)<|
     some (((y0.1++[32])++y1)++([32]++y2))
    ) else (
     some ((y0.1++[32])++y1)
    )
   ):Option aj).bind fun v0 =>
   bo ((s0.length+1)*16≤140737488355328)<|
   some (.go (s0++[v0]))
  )) p (fun j s hj hs=>by
   have hrb:=hr _ (Uq (⟨0,0,0⟩:Rewrite) hj);generalize p.getD j ⟨0,0,0⟩=r at hrb;rw [TH];simp only [S6];rw [Vd];unfold kn;by_cases hc:(Tq r.Rule).2=true∧0≤r.At∧0≤r.Arg
   ·rw [S5 hc,if_pos hc];have hn:=(TO hc.1).1;obtain ⟨a,ha⟩:=Int.eq_ofNat_of_zero_le hc.2.1;obtain ⟨b,hb⟩:=Int.eq_ofNat_of_zero_le hc.2.2;have h1:=hrb.1;have h2:=hrb.2;have l1:=cV 18 a (by omega);have l2:=cV 18 b (by omega);rw [ha,hb,z6 a (by omega),z6 b (by omega)];simp only [Bool.not_true,cond_false,S6,Int.toNat_natCast];rw [aE (by simp;omega),aE (by simp;omega)];by_cases h0:((b:Nat):Int)>0
    ·rw [S5 h0,if_pos h0];simp only [cond_true];rw [aE (by simp;omega),aE (by simp;omega)];simp only [S6];rw [aE (by omega)];simp
    ·rw [S4 h0,if_neg h0];simp only [cond_false,S6];rw [aE (by omega)];simp
   ·rw [S4 hc,if_neg hc];rfl) (p.length-0) 0 [] (by omega) (by simp)
 refine (congrArg (fun o:Option (Out (List aj) ((List aj)×Int))=>Option.bind o _) h).trans ?_;rw [List.drop_zero];unfold z8;cases p.mapM kn with
 | none=>rfl
 | some x=>rfl
theorem TZ (p:List Rewrite) (hp:p.length≤1000) (hr:∀ r∈p,RB r):tB p=some (z8 p):=by
 unfold tB;rw [S4 (by omega),cond_false];have h:=TC (body:=fun i0 s0 =>
  (ka ((p.getD i0 ⟨0,0,0⟩).Rule)).bind fun y0 =>
  bif ((!y0.2||decide (((p.getD i0 ⟨0,0,0⟩).At)<0))||decide (((p.getD i0 ⟨0,0,0⟩).Arg)<0)) then (
   some (.ret ([],1))
  ) else (
   (j4 ((p.getD i0 ⟨0,0,0⟩).At)).bind fun y1 =>
   bo ([32].length+y1.length≤9223372036854775807)<|
   bo (y0.1.length+([32]++y1).length≤9223372036854775807)<|
   ((
    bif decide (((p.getD i0 ⟨0,0,0⟩).Arg)>0) then (
     (j4 ((p.getD i0 ⟨0,0,0⟩).Arg)).bind fun y2 =>
     bo ([32].length+y2.length≤9223372036854775807)<|
     bo ((y0.1++([32]++y1)).length+([32]++y2).length≤9223372036854775807)<|
     some ((y0.1++([32]++y1))++([32]++y2))
    ) else (
     some (y0.1++([32]++y1))
    )
   ):Option aj).bind fun v0 =>
   bo ((s0.length+1)*16≤140737488355328)<|
   some (.go (s0++[v0]))
  )) p (fun j s hj hs=>by
   have hrb:=hr _ (Uq (⟨0,0,0⟩:Rewrite) hj);generalize p.getD j ⟨0,0,0⟩=r at hrb;rw [Tj];simp only [S6];rw [Vd];unfold kn;by_cases hc:(Tq r.Rule).2=true∧0≤r.At∧0≤r.Arg
   ·rw [S5 hc,if_pos hc];have hn:=(TO hc.1).1;obtain ⟨a,ha⟩:=Int.eq_ofNat_of_zero_le hc.2.1;obtain ⟨b,hb⟩:=Int.eq_ofNat_of_zero_le hc.2.2;have h1:=hrb.1;have h2:=hrb.2;have l1:=cV 18 a (by omega);have l2:=cV 18 b (by omega);rw [ha,hb,Ti a (by omega),Ti b (by omega)];simp only [Bool.not_true,cond_false,S6,Int.toNat_natCast];rw [aE (by simp;omega),aE (by simp;omega)];by_cases h0:((b:Nat):Int)>0
    ·rw [S5 h0,if_pos h0];simp only [cond_true];rw [aE (by simp;omega),aE (by simp;omega)];simp only [S6];rw [aE (by omega)];simp
    ·rw [S4 h0,if_neg h0];simp only [cond_false,S6];rw [aE (by omega)];simp
   ·rw [S4 hc,if_neg hc];rfl) (p.length-0) 0 [] (by omega) (by simp)
 refine (congrArg (fun o:Option (Out (List aj) ((List aj)×Int))=>Option.bind o _) h).trans ?_;rw [List.drop_zero];unfold z8;cases p.mapM kn with
 | none=>rfl
 | some x=>rfl
theorem U7 {r:Rewrite} {s:aj} (h:kn r=some s) (h1:r.At≤1000000) (h2:r.Arg≤1000000):ld s=some r:=by
 unfold kn at h;split at h
 ·rename_i hc;injection h with h
  obtain ⟨a,ha⟩:=Int.eq_ofNat_of_zero_le hc.2.1;obtain ⟨b,hb⟩:=Int.eq_ofNat_of_zero_le hc.2.2;obtain ⟨_,n2,n3⟩:=TO hc.1;obtain ⟨n4,_⟩:=Vk hc.1;obtain ⟨ru,at_,ar⟩:=r;simp only at *;subst ha;subst hb;rw [Int.toNat_natCast,Int.toNat_natCast] at h;unfold ld;by_cases h0:0<((b:Nat):Int)
  ·rw [if_pos h0] at h;have e:wd [] s=[(Tq ru).1,dec a,dec b]:=by
    rw [← h];exact Vv [dec a,dec b] (Tq ru).1 (fun p hp=>by
     simp only [List.mem_cons,List.not_mem_nil,or_false] at hp;rcases hp with rfl | rfl | rfl
     ·exact n2
     ·exact US a
     ·exact US b)
   rw [e];simp only [HI (show a≤1000000 by omega),HI (show b≤1000000 by omega),n3];rw [if_pos ⟨by omega,by omega⟩]
  ·rw [if_neg h0] at h;have e:wd [] s=[(Tq ru).1,dec a]:=by
    rw [← h,List.append_nil];exact Vv [dec a] (Tq ru).1 (fun p hp=>by
     simp only [List.mem_cons,List.not_mem_nil,or_false] at hp;rcases hp with rfl | rfl
     ·exact n2
     ·exact US a)
   rw [e];simp only [HI (show a≤1000000 by omega),n3];rw [if_pos (by omega),show ((b:Nat):Int)=0 by omega]
 ·cases h
theorem Vi {r:Rewrite} {s:aj} (h:ld s=some r):kn r=some s∧r.At≤1000000∧r.Arg≤1000000:=by
 have hj:=U5 s [];rw [List.nil_append] at hj;unfold ld at h;split at h
 ·rename_i a b e;rw [e] at hj;cases hb:hO b with
  | none=>rw [hb] at h;cases h
  | some n =>
   rw [hb] at h;simp only at h;split at h
   ·rename_i h0;injection h with h
    obtain ⟨r1,r2,r3⟩:=T1 h0;obtain ⟨e1,e2⟩:=l9 hb;subst h;refine ⟨?_,by simp only;omega,by simp only;omega⟩;unfold kn;rw [r1];simp only [Int.toNat_natCast,true_and];rw [if_pos ⟨by omega,by omega⟩,if_neg (by omega),← hj,e1,List.append_nil];rfl
   ·cases h
 ·rename_i a b c e;rw [e] at hj;cases hb:hO b with
  | none=>rw [hb] at h;cases h
  | some n =>
   cases hc:hO c with
   | none=>rw [hb,hc] at h;cases h
   | some m =>
    rw [hb,hc] at h;simp only at h;split at h
    ·rename_i h0;injection h with h
     obtain ⟨r1,r2,r3⟩:=T1 h0.2;obtain ⟨e1,e2⟩:=l9 hb;obtain ⟨e3,e4⟩:=l9 hc;subst h;refine ⟨?_,by simp only;omega,by simp only;omega⟩;unfold kn;rw [r1];simp only [Int.toNat_natCast,true_and];rw [if_pos ⟨by omega,by omega⟩,if_pos (by omega),← hj,e1,e3];rfl
    ·cases h
 ·cases h
theorem nf {α β:Type} {f:α→Option β} {a:α} {l:List α} {y:List β} (h:(a::l).mapM f=some y):∃ b m,f a=some b∧l.mapM f=some m∧y=b::m:=by
 rw [List.mapM_cons] at h;cases hf:f a with
 | none=>rw [hf] at h;cases h
 | some b =>
  cases hl:l.mapM f with
  | none=>rw [hf,hl] at h;cases h
  | some m=>rw [hf,hl] at h;injection h with h;exact ⟨b,m,rfl,rfl,h.symm⟩
theorem TU:∀ {p:List Rewrite} {l:List aj},p.mapM kn=some l→(∀ r∈p,r.At≤1000000∧r.Arg≤1000000)→l.mapM ld=some p
 | [],l,h,_=>by
  have:l=[]:=by simpa using h.symm
  subst this;rfl
 | r::p,l,h,hr=>by obtain ⟨b,m,e1,e2,rfl⟩:=nf h;obtain ⟨a1,a2⟩:=hr r (by simp);rw [List.mapM_cons,U7 e1 a1 a2,TU e2 fun x hx=>hr x (by simp [hx])];rfl
theorem Ui:∀ {l:List aj} {x:List Rewrite},l.mapM ld=some x→x.mapM kn=some l∧x.length=l.length∧∀ r∈x,r.At≤1000000∧r.Arg≤1000000
 | [],x,h=>by
  have:x=[]:=by simpa using h.symm
  subst this;exact ⟨rfl,rfl,by simp⟩
 | s::l,x,h=>by
  obtain ⟨b,m,e1,e2,rfl⟩:=nf h;obtain ⟨a1,a2⟩:=Vi e1;obtain ⟨c1,c2,c3⟩:=Ui e2;refine ⟨by rw [List.mapM_cons,a1,c1];rfl,by simp [c2],fun r hr=>?_⟩;rcases List.mem_cons.1 hr with rfl | hr
  ·exact a2
  ·exact c3 r hr
theorem Uj:∀ {p:List Rewrite} {l:List aj},p.mapM kn=some l→(∀ r∈p,RB r)→l.length=p.length∧∀ s∈l,s.length≤1000000
 | [],l,h,_=>by
  have:l=[]:=by simpa using h.symm
  subst this;simp
 | r::p,l,h,hr=>by
  obtain ⟨b,m,e1,e2,rfl⟩:=nf h;obtain ⟨a1,a2⟩:=Uj e2 fun x hx=>hr x (by simp [hx]);have:=U6 (hr r (by simp)) e1;refine ⟨by simp [a1],fun s hs=>?_⟩;rcases List.mem_cons.1 hs with rfl | hs
  ·omega
  ·exact a2 s hs
theorem Uk (p:List Rewrite):kb p p=some true:=by
 unfold kb;rw [beq_self_eq_true,cond_true];rw [cO (r:=false) (fun j=>true) _ _ () (fun j u _ hj=>by rw [aE (by omega),beq_self_eq_true,beq_self_eq_true,beq_self_eq_true];rfl)]
 rw [show (List.range' 0 (p.length-0)).all (fun _=>true)=true from by simp];rfl
theorem T2 (l:List aj):b9 l l=some true:=by
 unfold b9;rw [beq_self_eq_true,cond_true];rw [cO (r:=false) (fun j=>true) _ _ () (fun j u _ hj=>by rw [aE (by omega),beq_self_eq_true];rfl)]
 rw [show (List.range' 0 (l.length-0)).all (fun _=>true)=true from by simp];rfl
def Um (r:Rewrite):Bool:=decide (r.At>1000000)||decide (r.Arg>1000000)
theorem Un (p:List Rewrite):∀ (k i:Nat) (e:Int),i+k=p.length→bR (σ:=Int) (ε:=Int) (ρ:=Empty) (fun i1 s1 =>
 ((
  bif (decide (((p.getD i1 ⟨0,0,0⟩).At)>1000000)||decide (((p.getD i1 ⟨0,0,0⟩).Arg)>1000000)) then (
   some 1
  ) else (
   some s1
  )
 ):Option Int).bind fun v0 =>
 some (.go v0)
 ) (fun i1 s1=>s1) k i e=some (.brk (bif (p.drop i).any Um then 1 else e))
 | 0,i,e,h=>by
  rw [List.drop_of_length_le (by omega)];simp [bR]
 | k+1,i,e,h=>by
  have hi:i<p.length:=by omega
  rw [List.drop_eq_getElem_cons hi,← Ue (⟨0,0,0⟩:Rewrite) hi];simp only [bR,List.any_cons];generalize p.getD i ⟨0,0,0⟩=r;have e0:(decide (r.At>1000000)||decide (r.Arg>1000000))=Um r:=rfl;rw [e0];cases Um r with
  | true =>
   simp only [cond_true,S6,CZ];rw [Un p k (i+1) 1 (by omega)];cases (p.drop (i+1)).any Um<;>rfl
  | false =>
   simp only [cond_false,S6,CZ,Bool.false_or];exact Un p k (i+1) e (by omega)
theorem TV (p:List Rewrite) (l:List aj) (hr:∀ r∈p,RB r):e8 p l=some true:=by
 unfold e8;rw [UP];simp only [S6,cond_true];by_cases hl:p.length>10∨l.length>10
 ·have e:(decide (((p.length:Nat):Int)>10)||decide (((l.length:Nat):Int)>10))=true:=by rw [Bool.or_eq_true,decide_eq_true_eq,decide_eq_true_eq];omega
  rw [e];rfl
 have e:(decide (((p.length:Nat):Int)>10)||decide (((l.length:Nat):Int)>10))=false:=by rw [Bool.or_eq_false_iff,decide_eq_false_iff_not,decide_eq_false_iff_not];omega
 rw [e,cond_false];rw [cO (r:=true) (fun j=>!decide ((((l.getD j []).length:Nat):Int)>40)) _ _ () (fun j u _ hj=>by cases decide ((((l.getD j []).length:Nat):Int)>40)<;>rfl)]
 rw [Dj (fun s:aj=>!decide (((s.length:Nat):Int)>40)) [] l];simp only [S6];cases hall:l.all fun s=>!decide (((s.length:Nat):Int)>40) with
 | false=>rfl
 | true =>
 have hs:∀ s∈l,s.length≤1000000:=fun s h=>by have:=Tc.1 hall s h;simp at this;omega
 simp only [cond_true,Sh.aft];rw [nV p (by omega) hr,TZ p (by omega) hr,nz l (by omega) hs,TY l (by omega) hs];simp only [S6];rw [T2];simp only [S6,bne_self_eq_false,Bool.not_true,Bool.or_false,cond_false];rw [Uk];simp only [S6,Bool.not_true,Bool.or_false,cond_false];have hb:=Un p (p.length-0) 0 (z8 p).2 (by omega);rw [List.drop_zero] at hb;refine (congrArg (fun o:Option (Out Int Empty)=>Option.bind o _) hb).trans ?_;simp only [S6,l5];have hP:∃ a b,eu (z8 p).1=some (a,b)∧((bif p.any Um then 1 else (z8 p).2)=(0:Int)→b.2=0∧a=p):=by
  unfold z8;cases hm:p.mapM kn with
  | none=>exact ⟨_,_,nz [] (by simp) (by simp),fun h=>by cases hx:p.any Um<;>rw [hx] at h<;>cases h⟩
  | some x =>
   obtain ⟨c1,c2⟩:=Uj hm hr;refine ⟨_,_,nz x (by omega) c2,fun h=>?_⟩;cases hx:p.any Um with
   | true=>rw [hx] at h;cases h
   | false =>
    have hb:=TU hm fun r hr=>by have:=List.any_eq_false.1 hx r hr;unfold Um at this;simp at this;omega
    rw [hb];exact ⟨rfl,rfl⟩
 have hQ:∃ a b,ez (HS l).1=some (a,b)∧((HS l).2.2=0→b=0∧a=l):=by
  unfold HS;cases hm:l.mapM ld with
  | none=>exact ⟨_,_,nV [] (by simp) (by simp),fun h=>by cases h⟩
  | some x =>
   obtain ⟨c1,c2,c3⟩:=Ui hm;refine ⟨_,_,nV x (by omega) (fun r hr=>by have:=c3 r hr;unfold RB;omega),fun h=>?_⟩;rw [c1];exact ⟨rfl,rfl⟩
 obtain ⟨a,b,e1,h1⟩:=hP;obtain ⟨c,d,e2,h2⟩:=hQ;rw [e1,e2];simp only [S6];generalize (bif p.any Um then 1 else (z8 p).2:Int)=u at h1;generalize (HS l).2.2=v at h2;have k1:∃ y,(bif (u != 0) then some false else (bif (b.2==0) then kb a p else some false))=some y∧((u != 0)||((b.2==0)&&y))=true:=by
  by_cases hu:u=0
  ·obtain ⟨g1,g2⟩:=h1 hu;rw [hu,g1,g2];exact ⟨true,Uk p,rfl⟩
  ·rw [bne_iff_ne.2 hu];exact ⟨false,rfl,rfl⟩
 obtain ⟨y,q1,q2⟩:=k1;rw [q1];simp only [S6];rw [q2];simp only [cond_true];have k2:∃ z,(bif (v != 0) then some false else (bif (d==0) then b9 c l else some false))=some z∧((v != 0)||((d==0)&&z))=true:=by
  by_cases hv:v=0
  ·obtain ⟨g1,g2⟩:=h2 hv;rw [hv,g1,g2];exact ⟨true,T2 l,rfl⟩
  ·rw [bne_iff_ne.2 hv];exact ⟨false,rfl,rfl⟩
 obtain ⟨z,q3,q4⟩:=k2;rw [q3];simp only [S6];rw [q4];rfl
end Go.Proofs.YtgdjadenmognaaaGreatDoor
