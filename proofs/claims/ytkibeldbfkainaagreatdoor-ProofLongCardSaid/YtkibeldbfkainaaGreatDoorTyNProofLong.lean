/- The tie's parts. -/
import Derived.KernelRfl
import Derived.LaidLaws
namespace Go.Proofs.YtkibeldbfkainaaGreatDoor
open Go
def codeP:MemPlace→Option Nat
 | .cell b o=>bif Nat.blt o 4096 then some (b*4096+o) else none
 | .map _=>none
def nodB:List MemPlace→Nat→Bool
 | [],_=>true
 | p::ps,acc=>match codeP p with
  | some k=>!(Nat.testBit acc k)&&nodB ps (acc ||| (1 <<< k))
  | none=>false
theorem codeP_inj {p q:MemPlace} {k:Nat} (hp:codeP p=some k) (hq:codeP q=some k):p=q:=by
 cases p with
 | map b=>cases hp
 | cell b o=>cases q with
  | map b=>cases hq
  | cell c u =>
   change (bif Nat.blt o 4096 then some (b*4096+o) else none)=some k at hp;change (bif Nat.blt u 4096 then some (c*4096+u) else none)=some k at hq;cases h1:Nat.blt o 4096<;>rw [h1] at hp
   ·cases hp
   cases h2:Nat.blt u 4096<;>rw [h2] at hq
   ·cases hq
   rw [Nat.blt_eq] at h1 h2;simp only [cond_true,Option.some.injEq] at hp hq;have:b=c:=by omega
   subst this;rw [show o=u by omega]
theorem nodB_spec:∀ (l:List MemPlace) (acc:Nat),nodB l acc=true→l.Nodup∧∀ p∈l,∀ k,codeP p=some k→Nat.testBit acc k=false
 | [],_,_=>⟨List.nodup_nil,fun p hp=>by cases hp⟩
 | p::ps,acc,h=>by
  unfold nodB at h;cases hk:codeP p with
  | none=>rw [hk] at h;cases h
  | some k =>
   rw [hk] at h;simp only [Bool.and_eq_true,Bool.not_eq_true'] at h;obtain ⟨h1,h2⟩:=nodB_spec ps _ h.2;refine ⟨List.nodup_cons.2 ⟨fun hm=>?_,h1⟩,fun q hq j hj=>?_⟩
   ·have:=h2 p hm k hk;rw [Nat.testBit_or,Nat.one_shiftLeft,Nat.testBit_two_pow_self,Bool.or_true] at this;cases this
   ·rcases List.mem_cons.1 hq with e | hq
    ·rw [e,hk] at hj;cases hj;exact h.1
    ·have:=h2 q hq j hj;rw [Nat.testBit_or,Bool.or_eq_false_iff] at this;exact this.1
theorem nod_map {α:Type} {o:Option (α×List MemPlace)} (h:o.map (fun x=>nodB x.2 0)=some true):o.map (fun x=>decide x.2.Nodup)=some true:=by
 cases o with
 | none=>cases h
 | some x =>
  have h:nodB x.2 0=true:=by simpa using h
  simp [(nodB_spec x.2 0 h).1]
end Go.Proofs.YtkibeldbfkainaaGreatDoor
