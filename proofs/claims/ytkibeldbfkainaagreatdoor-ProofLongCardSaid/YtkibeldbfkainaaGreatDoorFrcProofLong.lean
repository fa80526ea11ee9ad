/- The frame for walks: states without addresses, the rules by which code is walked, and contracts of library functions. -/
import Derived.Test.YtkibeldbfkainaaGreatDoorFrbProofLong
import Derived.LoopN
import Derived.Shelf.Strconv.Itoa3
import Derived.Shelf.Strconv.ErrVarAll
import Derived.Shelf.Strings.OnBuilder
import Derived.Shelf.Strings.Split
import Derived.Shelf.Strings.SlTrimAscii
import Derived.Lib.SplitLaws
import Derived.Shelf.Sort.Plain
import Derived.Shelf.Slices.In.SortNone
import Derived.Shelf.SlSortCmp.Insertion
import Derived.Shelf.LaysM
import Derived.Shelf.LaysC
import Derived.Shelf.Small.Strs
import Derived.Shelf.Strconv.AtoiAll
import Derived.Shelf.Strings.Search1
import Derived.Shelf.Strings.Trim
import Derived.Shelf.Small.Wraps
import Derived.Ground.NamesProg
import Derived.Ground.Names2Prog
import Derived.Ground.SlsfProg
import Derived.Test.YtkibeldbfkainaaGreatDoorProg
import Derived.KernelRfl
import Derived.Lib.Walk
import Derived.Lib.SliceRun
import Derived.RangeFuncBox
import Derived.RangeFuncLeaves
import Derived.RangeFuncNested
import Derived.RangeFuncBound
import Derived.RangeFuncCalls
import Derived.Shelf.Abstract
import Derived.Shelf.RegionOpen
import Derived.WalkKit
import Derived.OwnWalkIn
import Derived.TacticsInMore
import Derived.LoopNIn
import Derived.LoopIn
import Derived.Maps.AppendAt
import Derived.RegionTactic
set_option linter.unusedSimpArgs false
set_option linter.unusedVariables false
namespace Go.Ab
open Go.RowKit Go.Sh
inductive Fr where
 | seq (c:Code)
 | blk (id:Nat)
 | bar (S:AS)
 | rnd (n:Nat) (y:Code)
def RT (P:Program) (n:Nat) (y:Code) (Q:Exit→AS→Prop) (s:AS):Prop:=∀ (c:Cx P) a w β κ,Rel c s a w β κ→Code.rounds P y (lift c Q) n a w
theorem Cm {P:Program} {y:Code} {Q Q':Exit→Act→World→Prop} (h:∀ e a w,Q e a w→Q' e a w):∀ (n:Nat) a w,Code.rounds P y Q n a w→Code.rounds P y Q' n a w
 | 0,_,_,hr=>hr.elim
 | n+1,a,w,hr=>Code.wp_mono (fun e a w q=>by
  cases e with
  | normal=>exact Cm h n a w q
  | _=>exact h _ _ _ q) hr
theorem RT.succ {P:Program} {n:Nat} {y:Code} {Q:Exit→AS→Prop} {s:AS} (h:eA P y (RF (RT P n y Q) Q) s):RT P (n+1) y Q s:=fun c a w β κ r =>
 Code.wp_mono (fun e a w q=>by
  obtain ⟨s',β',κ',q,r'⟩:=q;cases e with
  | normal=>exact (show RT P n y Q s' from q) c a w β' κ' r'
  | _=>exact ⟨s',β',κ',q,r'⟩) (h c a w β κ r)
theorem RT.loop {P:Program} {n:Nat} {y:Code} {Q:Exit→AS→Prop} {s:AS} (h:RT P n y Q s):eA P (.loop y) Q s:=fun c a w β κ r=>wp_loop_rounds n (h c a w β κ r)
theorem RT.lift {P:Program} {n:Nat} {y:Code} {Q Q':Exit→AS→Prop} {s:AS} (h:RT P n y Q s) (hq:∀ (c:Cx P) e a w,lift c Q e a w→lift c Q' e a w):RT P n y Q' s:=fun c a w β κ r=>Cm (fun e a w=>hq c e a w) n a w (h c a w β κ r)
def bZ (P:Program):List Fr→(Exit→AS→Prop)→Exit→AS→Prop
 | [],Q=>Q
 | .seq c::fs,Q=>RF (eA P c (bZ P fs Q)) (bZ P fs Q)
 | .blk id::fs,Q=>blk id (bZ P fs Q)
 | .bar S::fs,Q=>RF (fun s=>Cv s S) (bZ P fs Q)
 | .rnd n y::fs,Q=>RF (RT P n y (bZ P fs Q)) (bZ P fs Q)
def Fy:List Fr→Option Code×List Fr
 | .seq c::fs=>(some c,fs)
 | .blk _::fs=>Fy fs
 | .bar S::fs=>(none,.bar S::fs)
 | .rnd (n+1) y::fs=>(some y,.rnd n y::fs)
 | .rnd 0 y::fs=>(none,.rnd 0 y::fs)
 | []=>(none,[])
def Jf (id:Nat):List Fr→Option (List Fr)
 | .seq _::fs=>Jf id fs
 | .blk j::fs=>bif Nat.beq id j then some fs else Jf id fs
 | .bar _::fs=>Jf id fs
 | .rnd _ _::fs=>Jf id fs
 | []=>none
inductive Sg where
 | rg (n:Nat) (d1 d2:List q9)
 | cv (cs:List Cd)
 | un
 | eqT (t:Nat) (v:AV)
 | fo (k:Nat) (es:List (Key×AV))
inductive LO where
 | at (c:Code) (fs:List Fr) (s:AS)
 | nrm (fs:List Fr) (s:AS)
 | ret (s:AS)
def Rt (P:Program) (ops:Array Oper) (dr:Bool) (k:Nat) (d1 d2:List q9) (s:AS):Option (List Prop×AS×List Oper) :=bif dr then Rs P ops.toList k d1 d2 s else VM P ops.toList.toArray ops.toList d2 s
def path (P:Program):Nat→List Sg→Code→List Fr→AS→Option (List Prop×LO)
 | 0,_,c,fs,s=>some ([],.at c fs s)
 | n+1,.cv cs::sg,c,fs,s=>match conv cs s with
  | some s'=>path P n sg c fs s'
  | none=>none
 | n+1,.fo k es::sg,c,fs,s=>match s.frzO k es with
  | some (p,s')=>(match path P n sg c fs s' with
   | some (ps,lf)=>some (p::ps,lf)
   | none=>none)
  | none=>none
 | n+1,.eqT t v::sg,c,fs,s=>match path P n sg c fs ⟨s.n,ins t v s.t,s.h⟩ with
  | some (ps,lf)=>some ((lk .any s.t t=v)::ps,lf)
  | none=>none
 | n+1,.un::sg,.loop y,fs,s=>path P n sg y (.rnd 63 y::fs) s
 | n+1,sg,.seq x y,fs,s=>path P n sg x (.seq y::fs) s
 | n+1,sg,.skip,fs,s=>match Fy fs with
  | (some c,fs')=>path P n sg c fs' s
  | (none,fs')=>some ([],.nrm fs' s)
 | n+1,.rg k d1 d2::sg,.region _ ops dr,fs,s=>match Rt P ops dr k d1 d2 s with
  | some (ps,s',[])=>match Fy fs with
   | (some c,fs')=>match path P n sg c fs' s' with
    | some (qs,lf)=>some (ps++qs,lf)
    | none=>none
   | (none,fs')=>some (ps,.nrm fs' s')
  | _=>none
 | n+1,sg,.cond x y z,fs,s=>match s.op x with
  | .bool true=>path P n sg y fs s
  | .bool false=>path P n sg z fs s
  | _=>none
 | n+1,sg,.block id y,fs,s=>path P n sg y (.blk id::fs) s
 | n+1,sg,.exit id,fs,s=>match Jf id fs with
  | some fs1=>match Fy fs1 with
   | (some c,fs')=>path P n sg c fs' s
   | (none,fs')=>some ([],.nrm fs' s)
  | none=>none
 | _+1,_,.ret,_,s=>some ([],.ret s)
 | _+1,_,.loop y,fs,s=>some ([],.at (.loop y) fs s)
 | _+1,_,_,_,_=>none
section
variable {P:Program} {Q:Exit→AS→Prop}
theorem A7:∀ {fs:List Fr} {s:AS},(∀ c fs',Fy fs=(some c,fs')→eA P c (bZ P fs' Q) s)→(∀ fs',Fy fs=(none,fs')→bZ P fs' Q .normal s)→bZ P fs Q .normal s
 | [],s,_,h=>h _ rfl
 | .seq c::fs,s,h,_=>h _ _ rfl
 | .blk id::fs,s,h,h2=>A7 (fs:=fs) h h2
 | .bar S::fs,s,_,h=>h _ rfl
 | .rnd (n+1) y::fs,s,h,_=>RT.succ (h _ _ rfl)
 | .rnd 0 y::fs,s,_,h=>h _ rfl
theorem D5 {id:Nat}:∀ {fs fs1:List Fr} {s:AS},Jf id fs=some fs1→bZ P fs1 Q .normal s→bZ P fs Q (.exit id) s
 | [],_,s,h,_=>by cases h
 | .seq c::fs,_,s,h,h2=>D5 (fs:=fs) h h2
 | .bar S::fs,_,s,h,h2=>D5 (fs:=fs) h h2
 | .rnd n y::fs,_,s,h,h2=>D5 (fs:=fs) h h2
 | .blk j::fs,fs1,s,h,h2=>by
  simp only [Jf] at h;simp only [bZ,blk];cases e:Nat.beq id j with
  | true=>rw [e] at h;cases h;exact h2
  | false=>rw [e] at h;exact D5 (fs:=fs) h h2
theorem D8:∀ {fs:List Fr} {s:AS},Q .ret s→bZ P fs Q .ret s
 | [],_,h=>h
 | .seq _::fs,_,h=>D8 (fs:=fs) h
 | .blk _::fs,_,h=>D8 (fs:=fs) h
 | .bar _::fs,_,h=>D8 (fs:=fs) h
 | .rnd _ _::fs,_,h=>D8 (fs:=fs) h
def QM (P:Program) (Q:Exit→AS→Prop):LO→Prop
 | .at c fs s=>eA P c (bZ P fs Q) s
 | .nrm fs s=>bZ P fs Q .normal s
 | .ret s=>Q .ret s
theorem EM (hm:P.follows .mixedOrders=true) {id k:Nat} {ops:Array Oper} {dr:Bool} {d1 d2:List q9} {s s':AS} {ps:List Prop} {Q':Exit→AS→Prop} (h:Rt P ops dr k d1 d2 s=some (ps,s',[])) (hp:cQ ps) (hq:Q' .normal s'):eA P (.region id ops dr) Q' s:=by
 have e:ops=ops.toList.toArray:=by simp
 unfold Rt at h;cases dr with
 | true =>
  simp only [cond_true] at h;rw [e];first
  | exact MN hm k d1 d2 h hp hq
 | false =>
  simp only [cond_false] at h;have h':=Qi (id:=id) d2 h hp hq;rw [← e] at h';exact h'
theorem cW (hm:P.follows .mixedOrders=true):∀ (n:Nat) {sg:List Sg} {c:Code} {fs:List Fr} {s:AS} {ps:List Prop} {lf:LO},path P n sg c fs s=some (ps,lf)→cQ ps→QM P Q lf→eA P c (bZ P fs Q) s
 | 0,sg,c,fs,s,ps,lf,h,_,hl=>by simp only [path] at h;cases h;exact hl
 | n+1,sg,c,fs,s,ps,lf,h,hp,hl=>by
  unfold path at h;split at h
  ·rename_i e;cases e
  ·rename_i n' cs sg' c' fs' s' e;cases e;split at h
   ·rename_i s2 hc;exact (ep _ hc).tri (cW hm n h hp hl)
   ·cases h
  ·rename_i n' k es sg' c' fs' s' e;cases e;split at h
   ·rename_i p s2 hf;split at h
    ·rename_i ps1 lf1 hpath;cases h;obtain ⟨p1,p2⟩:=cQ.cons.1 hp;have ht:=cW hm n hpath p2 hl;exact fun c a w β κ r=>ht c a w β κ (r.frzO hf p1)
    ·cases h
   ·cases h
  ·rename_i n' t v sg' c' fs' s' e;cases e;split at h
   ·rename_i ps1 lf1 hpath;cases h;obtain ⟨p1,p2⟩:=cQ.cons.1 hp;have ht:=cW hm n hpath p2 hl;exact fun c a w β κ r=>ht c a w β κ (r.same (kq.symm' (OB p1)))
   ·cases h
  ·rename_i n' sg' y fs' s' e;cases e;exact RT.loop (RT.succ (n:=63) (cW hm n h hp hl))
  ·rename_i n' e _ _ _;cases e;exact LL (cW hm n h hp hl)
  ·rename_i n' e _ _ _;cases e;refine OX (A7 (fun c fs' e=>?_) (fun fs' e=>?_))
   ·rw [e] at h;exact cW hm n h hp hl
   ·rw [e] at h;cases h;exact hl
  ·rename_i n' k d1 d2 sg' id ops dr fs0 s0 e;cases e;split at h
   ·rename_i ps1 s1 hr;split at h
    ·rename_i c1 fs1 e1;split at h
     ·rename_i qs lf1 hpath;cases h;obtain ⟨p1,p2⟩:=cQ.append.1 hp;refine EM hm hr p1 (A7 (fun c2 fs2 e2=>?_) (fun fs2 e2=>?_))
      ·rw [e1] at e2;cases e2;exact cW hm n hpath p2 hl
      ·rw [e1] at e2;cases e2
     ·cases h
    ·rename_i fs1 e1;cases h;refine EM hm hr hp (A7 (fun c2 fs2 e2=>?_) (fun fs2 e2=>?_))
     ·rw [e1] at e2;cases e2
     ·rw [e1] at e2;cases e2;exact hl
   ·cases h
  ·rename_i n' x y z fs0 s0 e _ _ _;cases e;split at h
   ·rename_i hb;exact OY hb (cW hm n h hp hl)
   ·rename_i hb;exact MO hb (cW hm n h hp hl)
   ·cases h
  ·rename_i n' e _ _ _;cases e;exact MM (cW hm n h hp hl)
  ·rename_i n' e _ _ _;cases e;split at h
   ·rename_i fs1 he;refine OW (D5 he (A7 (fun c fs' e=>?_) (fun fs' e=>?_)))
    ·rw [e] at h;exact cW hm n h hp hl
    ·rw [e] at h;cases h;exact hl
   ·cases h
  ·rename_i n' e _ _ _;cases e;cases h;exact Qh (D8 hl)
  ·rename_i n' e _ _ _ _;cases e;cases h;exact hl
  ·cases h
end
def dead:AS:=⟨0,[(0,.dslice [[]])],[]⟩
theorem G3 {P:Program} {c:Cx P} {a:Act} {w:World} {β:Nat→Nat} {κ:Nat→Nat×Nat} (r:Rel c dead a w β κ):False:=by
 have h:=r.tm 0;simp only [dead,lk,Nat.beq_refl,cond_true] at h;generalize a.tmps.getD 0 undef=V at h;cases h with
 | d h =>
  cases h with
  | dslice _ b o cap sz cv h1 h2 h0 h3 h4 h5 h6 =>
   have:=h4 0 (by simp);simp at this;omega
section
variable {P:Program} {Q Q':Exit→AS→Prop} {c:Code} {fs:List Fr} {s:AS}
theorem eA.lift {cd:Code} (h:eA P cd Q s) (hq:∀ (c:Cx P) e a w,lift c Q e a w→lift c Q' e a w):eA P cd Q' s:=fun c a w β κ r=>wp_mono (h c a w β κ r) fun e a w q=>hq c e a w q
def On (cs:List Cd):Option (List Prop×LO)→Option (List Prop×AS×AS)
 | some (ps,.nrm (.bar S::_) s)=>match conv cs s with
  | some s'=>some (ps,s',S)
  | none=>none
 | _=>none
theorem n8 (hm:P.follows .mixedOrders=true) (n:Nat) (sg:List Sg) (cs:List Cd) (S:AS) {ps:List Prop} (hp:cQ ps) (h:On cs (path P n sg c fs s)=some (ps,S,S)):eA P c (bZ P fs Q) s:=by
 unfold On at h;split at h
 ·rename_i ps' S' fs' s' hpath;split at h
  ·rename_i s2 hc;simp only [S9,Prod.mk.injEq] at h;obtain ⟨rfl,rfl,rfl⟩:=h;exact cW hm n hpath hp (ep cs hc)
  ·cases h
 ·cases h
def P6 (P:Program) (rs:List ResultVar) (v:AV) (h1:List (Nat×AO)):Exit→AS→Prop
 | .ret,s=>∃ s2 ks,Cv s s2∧Dn P s2 rs=some v∧sel ks s2.h=h1
 | .normal,s=>∃ s2 ks,Cv s s2∧Dn P s2 rs=some v∧sel ks s2.h=h1
 | _,_=>False
def PT (P:Program) (rs:List ResultVar) (cs:List Cd) (ks:List Nat) (ps:List Prop) (s:AS):Option (List Prop×AV×List (Nat×AO)) :=
 match conv cs s with
 | some s2=>match Dn P s2 rs with
  | some v=>some (ps,v,sel ks s2.h)
  | none=>none
 | none=>none
def Rk (P:Program) (rs:List ResultVar) (cs:List Cd) (ks:List Nat):Option (List Prop×LO)→Option (List Prop×AV×List (Nat×AO))
 | some (ps,.nrm [] s)=>PT P rs cs ks ps s
 | some (ps,.ret s)=>PT P rs cs ks ps s
 | _=>none
theorem Gl {rs:List ResultVar} {cs:List Cd} {ks:List Nat} {ps ps':List Prop} {v:AV} {h1:List (Nat×AO)} (h:PT P rs cs ks ps s=some (ps',v,h1)):ps=ps'∧∃ s2 ks,Cv s s2∧Dn P s2 rs=some v∧sel ks s2.h=h1:=by
 unfold PT at h;split at h
 ·rename_i s2 hc;split at h
  ·rename_i v' hv;simp only [S9,Prod.mk.injEq] at h;obtain ⟨rfl,rfl,rfl⟩:=h;exact ⟨rfl,s2,ks,ep cs hc,hv,rfl⟩
  ·cases h
 ·cases h
theorem Jd (hm:P.follows .mixedOrders=true) (n:Nat) (sg:List Sg) (cs:List Cd) (ks:List Nat) {rs:List ResultVar} {v:AV} {h1:List (Nat×AO)} {ps:List Prop} (hp:cQ ps) (h:Rk P rs cs ks (path P n sg c fs s)=some (ps,v,h1)):eA P c (bZ P fs (P6 P rs v h1)) s:=by
 unfold Rk at h;split at h
 ·rename_i ps' s' hpath;obtain ⟨rfl,h2⟩:=Gl h;exact cW hm n hpath hp h2
 ·rename_i ps' s' hpath;obtain ⟨rfl,h2⟩:=Gl h;exact cW hm n hpath hp h2
 ·cases h
def kH:Nat→List Bool→Code→List Fr→Code×List Fr
 | 0,_,c,fs=>(c,fs)
 | n+1,bs,.seq x y,fs=>kH n bs x (.seq y::fs)
 | n+1,bs,.skip,fs=>match Fy fs with
  | (some c,fs')=>kH n bs c fs'
  | (none,fs')=>(.skip,fs')
 | n+1,bs,.region _ _ _,fs=>match Fy fs with
  | (some c,fs')=>kH n bs c fs'
  | (none,fs')=>(.skip,fs')
 | n+1,b::bs,.cond _ y z,fs=>kH n bs (bif b then y else z) fs
 | n+1,bs,.block id y,fs=>kH n bs y (.blk id::fs)
 | n+1,bs,.loop y,fs=>kH n bs y (.rnd 63 y::fs)
 | n+1,bs,.exit id,fs=>match Jf id fs with
  | some fs1=>match Fy fs1 with
   | (some c,fs')=>kH n bs c fs'
   | (none,fs')=>(.skip,fs')
  | none=>(.skip,fs)
 | _+1,_,c,fs=>(c,fs)
def QC (cs:List Cd):Option (List Prop×LO)→Option (List Prop×Code×List Fr×AS)
 | some (ps,.at c fs s)=>match conv cs s with
  | some s'=>some (ps,c,fs,s')
  | none=>none
 | _=>none
theorem Jc (hm:P.follows .mixedOrders=true) (n:Nat) (sg:List Sg) (cs:List Cd) (m:Nat) (bs:List Bool) (S:AS) {ps:List Prop} (hp:cQ ps) (h:QC cs (path P n sg c fs s)=some (ps,(kH m bs c fs).1,(kH m bs c fs).2,S))
 (ht:eA P (kH m bs c fs).1 (bZ P (kH m bs c fs).2 Q) S):eA P c (bZ P fs Q) s:=by
 unfold QC at h;split at h
 ·rename_i ps' c' fs' s' hpath;split at h
  ·rename_i s2 hc;simp only [S9,Prod.mk.injEq] at h;obtain ⟨rfl,h1,h2,rfl⟩:=h;refine cW hm n hpath hp ?_;rw [← h1,← h2] at ht;exact (ep cs hc).tri ht
  ·cases h
 ·cases h
def Ig:Nat→AS→List Fr→List Fr
 | _,_,[]=>[]
 | 0,S,_::fs=>.bar S::fs
 | k+1,S,f::fs=>f::Ig k S fs
def DD:Nat→List Fr→Code
 | 0,.seq y::_=>y
 | k+1,_::fs=>DD k fs
 | _,_=>.skip
def zZ:Nat→List Fr→Bool
 | 0,.seq _::_=>true
 | k+1,_::fs=>zZ k fs
 | _,_=>false
theorem Mi:∀ (f:Fr) {Q Q':Exit→AS→Prop} {fs fs':List Fr},(∀ (c:Cx P) e a w,lift c (bZ P fs Q) e a w→lift c (bZ P fs' Q') e a w)→∀ (c:Cx P) e a w,lift c (bZ P (f::fs) Q) e a w→lift c (bZ P (f::fs') Q') e a w:=by
 intro f Q Q' fs fs' h c e a w ⟨s,β,κ,hs,r⟩;cases f with
 | seq y =>
  cases e with
  | normal=>exact ⟨s,β,κ,eA.lift (hs:eA P y (bZ P fs Q) s) h,r⟩
  | _ =>
   obtain ⟨s',β',κ',hs',r'⟩:=h c _ a w ⟨s,β,κ,hs,r⟩;exact ⟨s',β',κ',hs',r'⟩
 | rnd n y =>
  cases e with
  | normal=>exact ⟨s,β,κ,RT.lift (hs:RT P n y (bZ P fs Q) s) h,r⟩
  | _ =>
   obtain ⟨s',β',κ',hs',r'⟩:=h c _ a w ⟨s,β,κ,hs,r⟩;exact ⟨s',β',κ',hs',r'⟩
 | bar S =>
  cases e with
  | normal=>exact ⟨s,β,κ,hs,r⟩
  | _ =>
   obtain ⟨s',β',κ',hs',r'⟩:=h c _ a w ⟨s,β,κ,hs,r⟩;exact ⟨s',β',κ',hs',r'⟩
 | blk id =>
  cases e with
  | exit j =>
   simp only [bZ,blk] at hs;cases hb:Nat.beq j id with
   | true =>
    rw [hb] at hs;obtain ⟨s',β',κ',hs',r'⟩:=h c _ a w ⟨s,β,κ,hs,r⟩;refine ⟨s',β',κ',?_,r'⟩;simp only [bZ,blk,hb];exact hs'
   | false =>
    rw [hb] at hs;obtain ⟨s',β',κ',hs',r'⟩:=h c _ a w ⟨s,β,κ,hs,r⟩;refine ⟨s',β',κ',?_,r'⟩;simp only [bZ,blk,hb];exact hs'
  | _ =>
   obtain ⟨s',β',κ',hs',r'⟩:=h c _ a w ⟨s,β,κ,hs,r⟩;exact ⟨s',β',κ',hs',r'⟩
theorem A6:∀ (k:Nat) {fs:List Fr} {S:AS},zZ k fs=true→(S=dead∨eA P (DD k fs) (bZ P (fs.drop (k+1)) Q) S)→∀ (c:Cx P) e a w,lift c (bZ P (Ig k S fs) Q) e a w→lift c (bZ P fs Q) e a w
 | 0,[],S,h,_=>by cases h
 | _+1,[],S,h,_=>by cases h
 | 0,f::fs,S,h,h2=>by
  intro c e a w ⟨s,β,κ,hs,r⟩;cases f with
  | seq y =>
   cases e with
   | normal =>
    obtain ⟨β',κ',r'⟩:=(hs:Cv s S) _ c a w β κ r;rcases h2 with h2 | h2
    ·subst h2;exact (G3 r').elim
    ·exact ⟨S,β',κ',h2,r'⟩
   | _=>exact ⟨s,β,κ,hs,r⟩
  | blk id=>cases h
  | bar S=>cases h
  | rnd n y=>cases h
 | k+1,f::fs,S,h,h2=>Mi f (A6 k (fs:=fs) h h2)
theorem bQ (k:Nat) (S:AS) (hk:zZ k fs=true) (h1:eA P c (bZ P (Ig k S fs) Q) s) (h2:eA P (DD k fs) (bZ P (fs.drop (k+1)) Q) S):eA P c (bZ P fs Q) s :=
 h1.lift (A6 k hk (.inr h2))
def RM {ε ρ:Type} (S:ε→AS):Out ε ρ→AS
 | .brk e=>S e
 | .ret _=>dead
theorem PU {ε ρ:Type} (k:Nat) (S:ε→AS) (R:Out ε ρ) (hk:zZ k fs=true) (h1:eA P c (bZ P (Ig k (RM S R) fs) Q) s) (h2:∀ e,R = .brk e→eA P (DD k fs) (bZ P (fs.drop (k+1)) Q) (S e)):eA P c (bZ P fs Q) s :=
 h1.lift (A6 k hk (by cases R with | brk e=>exact .inr (h2 e rfl) | ret x=>exact .inl rfl))
def n7:Code→Code
 | .loop y=>y
 | _=>.skip
def A5:Code→Bool
 | .loop _=>true
 | _=>false
theorem rq (h:A5 c=true):c = .loop (n7 c):=by cases c<;>first | rfl | (cases h;done)
theorem Steps.tail {m m1 m2:Machine} (h:step P m = .next m1) (hs:Steps P m m2) (hne:m≠m2):Steps P m1 m2:=by
 obtain ⟨n,hn⟩:=hs;cases n with
 | zero=>simp only [runN] at hn;exact absurd (by injection hn) hne
 | succ n=>simp only [runN,h] at hn;exact ⟨n,hn⟩
def SJ {σ ε ρ:Type} (S:σ→AS):kr σ ε ρ→AS
 | .go x=>S x
 | _=>dead
theorem Bd {ι:Type} {y:Code} (S:ι→AS) (φ:ι→Prop) (μ:ι→Nat) (i₀:ι) (h₀:φ i₀)
 (round:∀ i,φ i→∃ T,(T=dead∨∃ j,φ j∧μ j<μ i∧T=S j)∧eA P y (bZ P (.bar T::fs) Q) (S i)):eA P (.loop y) (bZ P fs Q) (S i₀):=fun c a w β κ r=>by
 refine wp_loop_ghost (fun n a w=>∃ i β κ,φ i∧μ i=n∧Rel c (S i) a w β κ) (μ i₀) ⟨i₀,β,κ,h₀,rfl,r⟩ ?_;rintro n a w ⟨i,β,κ,hi,rfl,r⟩;obtain ⟨T,hT,ht⟩:=round i hi;refine wp_mono (ht c a w β κ r) fun e a' w' ⟨s',β',κ',q,r'⟩=>?_;cases e with
 | normal =>
  obtain ⟨β2,κ2,r2⟩:=(q:Cv s' T) _ c a' w' β' κ' r';rcases hT with rfl | ⟨j,hj,hlt,rfl⟩
  ·exact (G3 r2).elim
  ·exact ⟨μ j,hlt,j,β2,κ2,hj,rfl,r2⟩
 | exit id=>exact ⟨s',β',κ',q,r'⟩
 | goto l=>exact ⟨s',β',κ',q,r'⟩
 | ret=>exact ⟨s',β',κ',q,r'⟩
 | panic ch=>exact ⟨s',β',κ',q,r'⟩
 | outgrown=>exact ⟨s',β',κ',q,r'⟩
theorem Se {σ ε ρ:Type} {body:Nat→σ→Option (kr σ ε ρ)} {fin:Nat→σ→ε} {N i0:Nat} {st0:σ} {R:Out ε ρ} (S:Nat→σ→AS) (hc:A5 c=true) (H:bR body fin (N-i0) i0 st0=some R)
 (zero:∀ i st,N≤i→R = .brk (fin i st)→eA P (n7 c) (bZ P (.bar dead::fs) Q) (S i st))
 (succ:∀ i st,i<N→∀ q,body i st=some q→Cf q R→eA P (n7 c) (bZ P (.bar (SJ (S (i+1)) q)::fs) Q) (S i st)):eA P c (bZ P fs Q) (S i0 st0):=by
 rw [rq hc];refine Bd (ι:=Nat×σ) (fun x=>S x.1 x.2) (fun x=>bR body fin (N-x.1) x.1 x.2=some R) (fun x=>N-x.1) (i0,st0) H ?_;rintro ⟨i,st⟩ hi;by_cases hN:N≤i
 ·rw [show N-i=0 by omega] at hi;simp only [bR,S9] at hi;exact ⟨dead,.inl rfl,zero i st hN hi.symm⟩
 ·have e:N-i=(N-(i+1))+1:=by omega
  have hi:bR body fin (N-i) i st=some R:=hi;rw [e] at hi;simp only [bR] at hi;refine aq hi fun q hq hK=>?_;cases q with
  | go st'=>exact ⟨S (i+1) st',.inr ⟨(i+1,st'),hK,by show N-(i+1)<N-i;omega,rfl⟩,succ i st (by omega) _ hq trivial⟩
  | brk e=>exact ⟨dead,.inl rfl,succ i st (by omega) _ hq (Tb hK).symm⟩
  | ret e=>exact ⟨dead,.inl rfl,succ i st (by omega) _ hq (Tb hK).symm⟩
theorem o6 {σ ε ρ:Type} {body:σ→Option (kr σ ε ρ)} {n:Nat} {st0:σ} {R:Out ε ρ} (S:σ→AS) (hc:A5 c=true) (H:vq body n st0=some R)
 (succ:∀ st,∀ q,body st=some q→Cf q R→eA P (n7 c) (bZ P (.bar (SJ S q)::fs) Q) (S st)):eA P c (bZ P fs Q) (S st0):=by
 rw [rq hc];refine Bd (ι:=Nat×σ) (fun x=>S x.2) (fun x=>vq body x.1 x.2=some R) (fun x=>x.1) (n,st0) H ?_;rintro ⟨k,st⟩ hi;cases k with
 | zero=>cases hi
 | succ k =>
  have hi:(body st).bind (CZ (vq body k))=some R:=hi;refine aq hi fun q hq hK=>?_;cases q with
  | go st'=>exact ⟨S st',.inr ⟨(k,st'),hK,Nat.lt_succ_self k,rfl⟩,succ st _ hq trivial⟩
  | brk e=>exact ⟨dead,.inl rfl,succ st _ hq (Tb hK).symm⟩
  | ret e=>exact ⟨dead,.inl rfl,succ st _ hq (Tb hK).symm⟩
theorem JO {f:FuncId} {fn:Func} {args:List AV} {h h1:List (Nat×AO)} {v:AV} (hf:P.funcs[f]? = some fn) (n:Nat) (rs:List ResultVar) (hok:(zY fn&&Nat.beq fn.ntmps n&&Nat.ble args.length n)=true) (hrs:fn.results.toList=rs)
 (ht:eA P (Ds fn) (bZ P [] (P6 P rs v h1)) ⟨n,sV args 0,h⟩):bH P f args h (fun r h'=>r=v∧h'=h1):=by
 refine RJ hf n rs hok hrs (ht.lift fun c e a w ⟨s,β,κ,q,r⟩=>?_);have key:(∃ s2 ks,Cv s s2∧Dn P s2 rs=some v∧sel ks s2.h=h1)→∃ s β κ,(∃ v' ks,Dn P s rs=some v'∧v'=v∧sel ks s.h=h1)∧Rel c s a w β κ:=by rintro ⟨s2,ks,hcv,h2,h3⟩;obtain ⟨β',κ',r'⟩:=hcv _ c a w β κ r;exact ⟨s2,β',κ',⟨v,ks,h2,rfl,h3⟩,r'⟩
 cases e with
 | normal=>exact key q
 | ret=>exact key q
 | exit id=>exact q.elim
 | goto l=>exact q.elim
 | panic ch=>exact q.elim
 | outgrown=>exact q.elim
end
end Go.Ab
namespace Go.Sh
abbrev aj:=List UInt8
def fb {ε β:Type} (f:ε→Option β):Out ε Empty→Option β
 | .brk e=>f e
theorem br {ε β:Type} {f:ε→Option β} {e:ε} {v:β} (h:aft f (.brk e)=some v):f e=some v:=h
theorem aW {ε β:Type} {f:ε→Option β} {x v:β} (h:aft f (.ret x)=some v):some x=some v:=h
theorem a7 {ε β:Type} {f:ε→Option β} {e:ε} {v:β} (h:fb f (.brk e)=some v):f e=some v:=h
theorem kl {σ ε ρ:Type} {e:ε} {R:Out ε ρ} (h:Cf (.brk e:kr σ ε ρ) R):R = .brk e:=h
theorem aV {σ ε ρ:Type} {x:ρ} {R:Out ε ρ} (h:Cf (.ret x:kr σ ε ρ) R):R = .ret x:=h
def cI {K V:Type} [DecidableEq K] (d:V) (x:K):List (K×V)→V
 | []=>d
 | (k,n)::m=>if k=x then n else cI d x m
end Go.Sh
namespace Go.Ab
open Go.RowKit Go.Sh
theorem nK (l:List UInt8) (a:Nat):AV.str ((l.drop a).take (l.length-a)) = .str (l.drop a):=by congr 1;exact List.take_of_length_le (by simp)
theorem xm (l:List UInt8) (b:Nat):AV.str ((l.drop 0).take (b-0)) = .str (l.take b):=by simp
theorem qX {α:Type} (c:α→List AV) (l:List α) (b:Nat):AV.dslice (((l.map c).drop 0).take (b-0)) = .dslice ((l.take b).map c):=by simp [List.map_take]
theorem M0 {α:Type} {c:α→List AV} {sz:Nat} (h:∀ x,(c x).length=sz∧(c x).all (fun v=>v.one&&v.fl)=true) (l:List α):EL sz (l.map c):=by intro y hy;obtain ⟨x,_,rfl⟩:=List.mem_map.1 hy;refine ⟨(h x).1,fun v hv=>?_⟩;have:=Tc.1 (h x).2 v hv;simpa [SY] using this
theorem iU {α:Type} {c:α→List AV} {sz:Nat} (h:∀ x,(c x).length=sz∧(c x).all (fun v=>v.one&&v.fl)=true) (xs ys:List α) (by_:Nat) (hb:0<by_) (hc:(xs.length+ys.length)*by_≤140737488355328) :
 cQ [EL sz (ys.map c),((xs.map c).length+(ys.map c).length)*by_≤140737488355328,(xs.map c).length+(ys.map c).length≤9223372036854775807]:=by
 refine ⟨M0 h ys,by simpa using hc,?_⟩;have:xs.length+ys.length≤(xs.length+ys.length)*by_:=Nat.le_mul_of_pos_right _ hb;show (xs.map c).length+(ys.map c).length≤_;simp only [S7];omega
theorem ow {α:Type} (e sz:Nat) (c:α→List AV) (xs ys:List α):AO.row e sz (xs.map c++ys.map c) = .row e sz ((xs++ys).map c):=by rw [List.map_append]
theorem Ib {α:Type} (e sz:Nat) (c:α→List AV) (ys:List α):AO.row e sz (([]:List α).map c++ys.map c) = .row e sz (ys.map c):=rfl
theorem wrap_u8 (x:UInt8):IntKind.wrap .i64 (x.toNat:Int)=(x.toNat:Int):=wrap64 ⟨by omega,by have:=x.toNat_lt;omega⟩
theorem WD (x y:UInt8):AV.int .u8 (IntKind.wrap .u8 ((x.toNat:Int)-(y.toNat:Int))) = .int .u8 ((x-y).toNat:Int):=by congr 1;simp only [IntKind.wrap,IntKind.signed,IntKind.bits,Bool.false_and,Bool.false_eq_true,if_false,UInt8.toNat_sub];have h1:=x.toNat_lt;have h2:=y.toNat_lt;omega
def Fa (t:TypeId) (ok:Bool):AV:=bif ok then .nilI else .iface t .any
def NI:List AV→AV
 | v::_=>v
 | []=>.any
class MapKey (K:Type) where
 k:K→Key
 inj:∀ a b,k a=k b→a=b
 kd:Nat
 kind:∀ a,(k a).kind=kd
instance:MapKey aj:=⟨Key.s,fun _ _ h=>by injection h,0,fun _=>rfl⟩
instance:MapKey Int:=⟨Key.i,fun _ _ h=>by injection h,1,fun _=>rfl⟩
def uA {K V:Type} [MapKey K] (c:V→List AV) (p:K×V):Key×AV:=(MapKey.k p.1,NI (c p.2))
section
variable {P:Program} {Q:Exit→AS→Prop} {s:AS}
def Qv (s:AS) (k i:Nat):List Prop:=match lk .gone s.h k with
 | .cells _ cs=>bif Nat.blt i cs.length then IU (cs.getD i .any) else []
 | _=>[]
theorem gv {cd:Code} (k i:Nat) {ps:List Prop} (h:Qv s k i=ps) (ht:cQ ps→eA P cd Q s):eA P cd Q s:=fun c a w β κ r=>by
 refine ht ?_ c a w β κ r;subst h;unfold Qv;split
 ·rename_i e cs he;cases hb:Nat.blt i cs.length with
  | false=>trivial
  | true =>
   have:=r.hp.ob k;rw [he] at this;obtain ⟨cur,_,_,h3⟩:=this;exact A9 (h3 i (by simpa [Nat.blt_eq] using hb))
 ·trivial
def Oy (s:AS) (k:Nat):Option Nat:=match lk .gone s.h k with
 | .row _ _ xs=>some xs.length
 | _=>none
theorem LK {cd:Code} (k:Nat) {n:Nat} (h:Oy s k=some n) (ht:n≤9223372036854775807→eA P cd Q s):eA P cd Q s:=fun c a w β κ r=>by
 refine ht ?_ c a w β κ r;unfold Oy at h;split at h
 ·rename_i e sz xs he;cases h;have:=r.hp.ob k;rw [he] at this;by_cases hx:xs=[]
  ·subst hx;simp
  ·obtain ⟨cur,_,_,h3,h4,_⟩:=this.2 hx;exact Nat.le_trans h3 h4
 ·cases h
end
theorem bp.is' {P:Program} {f:FuncId} {args:List AV} {v:AV} (h:bp P f args v):bH P f args [] fun r _=>r=v:=bp.is h
theorem Gr {α:Type} {f:α→List AV} {l:List α} {n:Nat} (sz j m:Nat) (hn:n<l.length) (hj:j+m≤sz):n*sz+j=n*sz+j∧n<(l.map f).length∧j+m≤sz:=⟨rfl,by simpa using hn,hj⟩
theorem kU {α:Type} {f:α→List AV} {l:List α} {n:Nat} (d:α) (h:n<l.length):(l.map f).getD n []=f (l.getD n d):=by simp [SW,SX h]
theorem Pa {α:Type} {f:α→List AV} {l:List α} {n:Nat} (d:α) (j:Nat) (h:n<l.length):((l.map f).getD n []).getD j .any=(f (l.getD n d)).getD j .any:=by rw [kU d h]
theorem Sp {α:Type} {f:α→List AV} (e sz:Nat) (l:List α) (n:Nat) (d x:α) (j:Nat) (vs:List AV) (h:n<l.length) (hx:fh (f (l.getD n d)) j vs=f x):AO.row e sz ((l.map f).set n (fh ((l.map f).getD n []) j vs)) = .row e sz ((l.set n x).map f):=by rw [kU d h,hx,List.map_set]
open Go.Proofs
theorem tP {P:Program} {f:FuncId} {args:List AV} {v:AV} (hfl:AV.flL args=true)
 (h:∀ (w:World) (X:Nat→Prop) (vs:List Value),vs.length=args.length→(∀ b,X b→b<w.heap.size)→(∀ i,i<args.length→D w X (args.getD i .any) (vs.getD i undef))→GP P w→Calls P f vs.toArray w fun e w'=>∃ V,e = .returned V∧Below w.heap.size w w'∧D w' X v V):bp P f args v:=by
 intro c vs hl hr hg;have hX:∀ b,c.XX [] c.β b→c.X b:=fun b hb=>hb.resolve_right fun ⟨k,hk,_⟩=>l6 hk;refine (h c.W c.X vs hl c.hX (fun i hi=>((hg i hi).toD (iX hi hfl)).mono (fun _ _ _=>rfl) (fun b hb _ hb'=>hb (.inl hb'))) (c.gp _ (dG.refl _ _))).mono fun e w' ⟨V,e1,hb,hd⟩=>?_;have hk:dG c.K c.W w':=⟨hb.os,hb.tape,hb.output,hb.size,fun b hb2=>hb.block b (c.hK b hb2)⟩;exact ⟨V,v,[],c.β,c.κ,e1,⟨rfl,rfl⟩,(eN.nil (hk)),.d (hd.mono (fun _ _ _=>rfl) (fun b hb2 _ hb3=>hb2 (hX b hb3)))⟩
section
variable {P:Program} {ρ:Go.Shelf.Ren}
theorem D.str_inv {w:World} {X:Nat→Prop} {s:List UInt8} {V:Value} (h:D w X (.str s) V):V = .string ⟨s.toArray⟩∧s.length≤maxLen:=by cases h;exact ⟨rfl,by assumption⟩
theorem D.int_inv {w:World} {X:Nat→Prop} {k:IntKind} {n:Int} {V:Value} (h:D w X (.int k n) V):V = .int k n:=by cases h;rfl
theorem Sz {vs:List Value} (h:vs.length=1):vs=[vs.getD 0 undef]:=by
 match vs,h with
 | [v],_=>rfl
theorem QI {vs:List Value} (h:vs.length=2):vs=[vs.getD 0 undef,vs.getD 1 undef]:=by
 match vs,h with
 | [v,u],_=>rfl
theorem VJ (w:World) (k:Nat) (os:Array Obj):Below w.heap.size w (Go.Sort.grow (w.drewN k) os):=by refine ⟨rfl,rfl,rfl,by simp [Go.Sort.grow,World.drewN],fun b hb=>?_⟩;simp [Go.Sort.grow,World.drewN,Array.getElem?_append,hb]
def Lh (n:Int):aj:=bif decide (0≤n)&&decide (n<10) then [UInt8.ofNat (48+n.toNat)] else Lib.itoa n
theorem Aa:Lh=Lib.itoa:=by
 funext n;unfold Lh;by_cases h:0≤n∧n<10
 ·rw [S5 h.1,S5 h.2];obtain ⟨k,rfl⟩:∃ k:Nat,n=(k:Int):=⟨n.toNat,by omega⟩;rw [Lib.itoa_nonneg,Lib.decDigits,dif_pos (by omega)];rfl
 ·by_cases h1:0≤n
  ·rw [S4 (show ¬ n<10 from fun h2=>h ⟨h1,h2⟩),Bool.and_false];rfl
  ·rw [S4 h1];rfl
def jd (n:Int):Option aj:=bo (-9223372036854775808≤n∧n≤9223372036854775807∧(Lh n).length≤9223372036854775807)<|some (Lh n)
theorem M6 (L:LaysM.n171 P ρ) (hg:P.globalNamed "internal/strconv.uint64pow10" ≠ none) (n:Int) (r:aj) (H:jd n=some r):bp P (ρ.f 171) [.int .i64 n] (.str r):=by unfold jd at H;rw [Aa] at H;refine ao H fun hn H=>?_;refine bA H fun e=>?_;subst e;refine tP rfl fun w X vs hl _ hd gp=>?_;have h0:=(hd 0 (by simp)).int_inv;rw [Sz (vs:=vs) (by simpa using hl),h0];refine (Any.strconv_Itoa L n hn.1 hn.2.1 w (gp.pow10 hg)).mono fun e w' ⟨e1,k,os,e2⟩=>?_;exact ⟨_,e1,by rw [e2];exact VJ w k os,.str _ hn.2.2⟩
def BH (s:aj):Int×Bool:=match Lib.atoiAll s with | .ok v=>(v,true) | .range=>(Lib.atoiSat s,false) | _=>(0,false)
def th (s:aj):Option (Int×Bool):=bo (s.length≤281474976710656)<|some (BH s)
theorem IF (w:World) (a:Addr) (n b:Nat) (h:b≠a.block):(w.freeze a n).heap[b]? = w.heap[b]? := by
 unfold World.freeze;split
 ·rfl
 ·simp [Array.getElem?_modify,Ne.symm h]
theorem Ih (w:World) (e:TypeId) (s:ByteArray):Below w.heap.size w (Lib.bytesWorld w e s):=by
 unfold Lib.bytesWorld;have h1:Below w.heap.size w (w.drew.alloc (.cells (Lib.bytesCells w e s) e)):=(Below.refl _ w).drew.alloc (Nat.le_refl _) _;have hsz:((w.drew.alloc (.cells (Lib.bytesCells w e s) e)).freeze ⟨w.heap.size,(Lib.bytesCells w e s).size,none⟩ 1).heap.size=(w.drew.alloc (.cells (Lib.bytesCells w e s) e)).heap.size:=by
  unfold World.freeze;split
  ·rfl
  ·simp
 have hf:∀ (w:World) (a:Addr) (n:Nat),(w.freeze a n).os=w.os∧(w.freeze a n).tape=w.tape∧(w.freeze a n).output=w.output:=by intro w a n;unfold World.freeze;split<;>exact ⟨rfl,rfl,rfl⟩
 obtain ⟨f1,f2,f3⟩:=hf (w.drew.alloc (.cells (Lib.bytesCells w e s) e)) ⟨w.heap.size,(Lib.bytesCells w e s).size,none⟩ 1;exact ⟨f1.trans h1.os,f2.trans h1.tape,f3.trans h1.output,by rw [hsz];exact h1.size,fun b hb=>(IF _ _ _ _ (by show b≠w.heap.size;omega)).trans (h1.block b hb)⟩
theorem D.pair {w:World} {X:Nat→Prop} {a b:AV} {A B:Value} (ha:D w X a A) (hb:D w X b B):D w X (.tup [a,b]) (.tuple #[A,B]) :=
 .tup _ _ rfl fun i hi=>by
  match i,hi with
  | 0,_=>exact ha
  | 1,_=>exact hb
theorem M5 (L:LaysC.n172 P ρ) (hg1:P.globalNamed "strconv.ErrSyntax" ≠ none) (hg2:P.globalNamed "strconv.ErrRange" ≠ none) (s:aj) (r:Int×Bool) (H:th s=some r):bp P (ρ.f 172) [.str s] (.tup [.int .i64 r.1,Fa (ρ.t 168) r.2]):=by
 unfold th at H;refine ao H fun hn H=>?_;refine bA H fun e=>?_;subst e;refine tP rfl fun w X vs hl _ hd gp=>?_;have h0:=(hd 0 (by simp)).str_inv.1;rw [Sz (vs:=vs) (by simpa using hl),h0];have hsz:ByteArray.size ⟨s.toArray⟩=s.length:=by simp [ByteArray.size]
 unfold BH;cases hr:Lib.atoiAll s with
 | ok v =>
  refine (Any.strconv_Atoi_ok L ⟨s.toArray⟩ (by rw [hsz];omega) v (by simpa using hr) w).mono fun e w' ⟨e1,e2⟩=>?_;refine ⟨_,e1,?_,.pair (.int _ _) .nilI⟩;rcases e2 with rfl | ⟨t,rfl⟩
  ·exact .refl _ _
  ·exact Ih _ _ _
 | range =>
  obtain ⟨tp,p,hv⟩:=gp.rng hg2;refine (Any.strconv_Atoi_range_var L ⟨s.toArray⟩ (by rw [hsz];exact hn) (by simpa using hr) tp p w hv).mono fun e w' ⟨N,e1,_,_,e2⟩=>?_;refine ⟨_,e1,e2,.pair ?_ (.iface _ _ _ (.any _))⟩;simp only [List.toList_toArray];exact .int _ _
 | _ =>
  obtain ⟨tp,p,hv⟩:=gp.syn hg1;refine (Any.strconv_Atoi_syntax_var L ⟨s.toArray⟩ (by rw [hsz];exact hn) (by simpa using hr) tp p w hv).mono fun e w' ⟨N,e1,_,_,e2⟩=>?_;exact ⟨_,e1,e2,.pair (.int _ _) (.iface _ _ _ (.any _))⟩
def lE (x:aj):List AV:=[.str x]
theorem Gv (sep:List UInt8) (save:Nat):∀ (k:Nat) (s x:List UInt8),x∈Lib.splitK sep save k s→x.length≤s.length
 | 0,s,x,h=>by simp only [Lib.splitK,List.mem_singleton] at h;rw [h];exact Nat.le_refl _
 | k+1,s,x,h=>by
  simp only [Lib.splitK] at h;split at h
  ·simp only [List.mem_singleton] at h;rw [h];exact Nat.le_refl _
  ·rcases List.mem_cons.1 h with h | h
   ·rw [h];simp only [List.length_take];omega
   ·have:=Gv sep save k _ x h;simp only [List.length_drop] at this;omega
def ti (s sep:aj):Option (List aj):=bo (s.length<4294967281∧1≤sep.length)<|some (Lib.splitK sep 0 (Lib.countB ⟨s.toArray⟩ ⟨sep.toArray⟩) s)
theorem LU (L:Lays.n146 P ρ) (hi9:(P.info? (ρ.t 9)).map (fun i=>(i.zero,i.size,i.bytes))=some (some (.string ByteArray.empty),1,16)) (hg:P.globalNamed "internal/bytealg.MaxLen" = some (ρ.g 1)) (s sep:aj) (r:List aj) (H:ti s sep=some r):bp P (ρ.f 146) [.str s,.str sep] (.dslice (r.map lE)):=by
 unfold ti at H;refine ao H fun hn H=>?_;refine bA H fun e=>?_;subst e;refine tP rfl fun w X vs hl hX hd gp=>?_;have h0:=(hd 0 (by simp)).str_inv;have h1:=(hd 1 (by simp)).str_inv;rw [QI (vs:=vs) (by simpa using hl),h0.1,h1.1];obtain ⟨m,hm⟩:=gp.len _ hg;have sz:∀ l:List UInt8,ByteArray.size ⟨l.toArray⟩=l.length:=fun l=>by simp [ByteArray.size]
 refine (Any.strings_Split L hi9 ⟨s.toArray⟩ ⟨sep.toArray⟩ m w (by rw [sz];exact hn.1) hm (by rw [sz];exact hn.2)).mono fun e w' ⟨e1,e2⟩=>?_;refine ⟨_,e1,by rw [e2];exact (Below.refl _ w).alloc (Nat.le_refl _) _,?_⟩;have hBl:((Lib.splitB ⟨sep.toArray⟩ 0 (Lib.countB ⟨s.toArray⟩ ⟨sep.toArray⟩) ⟨s.toArray⟩).map (·.data.toList))=Lib.splitK sep 0 (Lib.countB ⟨s.toArray⟩ ⟨sep.toArray⟩) s:=by rw [Lib.splitB_data]
 have hlen:(Lib.splitB ⟨sep.toArray⟩ 0 (Lib.countB ⟨s.toArray⟩ ⟨sep.toArray⟩) ⟨s.toArray⟩).length=Lib.countB ⟨s.toArray⟩ ⟨sep.toArray⟩+1:=Lib.splitB_all _ (by rw [sz];exact hn.2) 0 _ _ rfl;generalize Lib.splitB ⟨sep.toArray⟩ 0 (Lib.countB ⟨s.toArray⟩ ⟨sep.toArray⟩) ⟨s.toArray⟩=B at hBl hlen e2;generalize hr:Lib.splitK sep 0 (Lib.countB ⟨s.toArray⟩ ⟨sep.toArray⟩) s=r at hBl;have hle:∀ x∈r,x.length≤maxLen:=fun x hx=>Nat.le_trans (Gv sep 0 _ s x (by rw [hr];exact hx)) h0.2;have hrl:r.length=Lib.countB ⟨s.toArray⟩ ⟨sep.toArray⟩+1:=by rw [← hBl,S7,hlen]
 have hbig:r.length≤maxLen:=by rw [hrl];have:=Lib.countB_le ⟨sep.toArray⟩ (by rw [sz];exact hn.2) _ ⟨s.toArray⟩ (Nat.le_refl _);rw [sz] at this;exact Nat.le_trans (Nat.succ_le_succ this) (Nat.le_trans (show s.length+1≤4294967282 by omega) (by decide))
 have hml:(r.map lE).length=Lib.countB ⟨s.toArray⟩ ⟨sep.toArray⟩+1:=by rw [S7,hrl]
 have hcell:∀ i,i<r.length→w'.cell? ⟨w.heap.size,0+i,none⟩=some (.string ⟨(r.getD i []).toArray⟩):=by
  intro i hi;have hheap:w'.heap[w.heap.size]? = some (.cells (B.map Value.string).toArray (ρ.t 9) (0,0)):=by rw [e2];exact Array.getElem?_push_size
  have h2:=ca (w:=w') (b:=w.heap.size) (i:=i) hheap (by rw [List.size_toArray,S7,hlen];omega);rw [Nat.zero_add,h2];have hBi:i<B.length:=by omega
  have:r.getD i []=(B[i]'hBi).data.toList:=by rw [← hBl];simp [SW,SX hBi]
  rw [this];simp [SZ,SX hBi]
 rw [← hml];refine .dslice _ w.heap.size 0 _ 1 (fun i _=>.string ⟨(r.getD i []).toArray⟩) (Nat.le_refl _) (by rw [S7];exact hbig) (by omega) (fun hx=>Nat.lt_irrefl _ (hX _ hx)) (fun i hi=>?_) (fun i j hi hj=>?_) (fun i j hi hj=>?_)
 ·rw [S7] at hi;simp [SW,SX hi,lE]
 ·rw [S7] at hi;have:=hcell i hi;rw [show 0+(i*1+j)=0+i by omega];exact this
 ·rw [S7] at hi;have e3:(r.map lE).getD i []=lE (r.getD i []):=by simp [SW,SX hi]
  obtain rfl:j=0:=by omega
  rw [e3];refine .str _ (hle _ ?_);rw [SW,SX hi];exact List.getElem_mem hi
theorem tT {α:Type} (p:α→Bool):∀ l:List α,(l.dropWhile p).length≤l.length
 | []=>by simp
 | x::l=>by
  rw [List.dropWhile_cons];split
  ·have:=tT p l;simp;omega
  ·simp
theorem OZ (s cut:List UInt8):(Lib.trimS s cut).length≤s.length:=by unfold Lib.trimS Lib.trimLeftS Lib.trimRightS;refine Nat.le_trans (tT _ _) ?_;rw [List.length_reverse];refine Nat.le_trans (tT _ _) ?_;rw [List.length_reverse];exact Nat.le_refl _
def vZ (s cut:aj):Option aj:=bo (cut.length<4294967281∧cut.all (fun b=>decide (b.toNat<128))=true)<|some (Lib.trimS s cut)
theorem M8 (L:Lays.n160 P ρ) (hv116:∀ w,(zeroValue (ρ.t 116)).run P w = .ok (.agg (Array.replicate 256 (.bool false))) w) (hi116:(P.info? (ρ.t 116)).map (·.size)=some 256) (s cut:aj) (r:aj) (H:vZ s cut=some r):bp P (ρ.f 160) [.str s,.str cut] (.str r):=by
 unfold vZ at H;refine ao H fun hn H=>?_;refine bA H fun e=>?_;subst e;refine tP rfl fun w X vs hl hX hd gp=>?_;have h0:=(hd 0 (by simp)).str_inv;have h1:=(hd 1 (by simp)).str_inv;rw [QI (vs:=vs) (by simpa using hl),h0.1,h1.1];have sz:∀ l:List UInt8,ByteArray.size ⟨l.toArray⟩=l.length:=fun l=>by simp [ByteArray.size]
 have hm:maxLen=9223372036854775807:=by decide
 refine (Any.strings_Trim_ascii L hv116 hi116 ⟨s.toArray⟩ ⟨cut.toArray⟩ w (by rw [sz];have:=h0.2;omega) (by rw [sz];exact hn.1) (fun j b hb=>by have:=Tc.1 hn.2 b (List.mem_of_getElem? (by simpa using hb));exact S3 this)).mono fun e w' ⟨e1,e2⟩=>?_
 refine ⟨_,e1,e2,.str _ ?_⟩;refine Nat.le_trans ?_ h0.2;exact OZ s cut
end
end Go.Ab
namespace Go.Sh
open Go.Sort Go.Proofs
def AX (x y:aj):Int:=if Op.bytesLess x y=true then -1 else if Op.bytesLess y x=true then 1 else 0
end Go.Sh
namespace Go.Proofs
open Go.Shelf
def Tryz.laysM171_ren:Go.Shelf.Ren:=⟨fun | 171=>17 | 243=>26 | 246=>40 | 283=>79 | 284=>80 | 285=>81 | 286=>82 | 129=>161 | 317=>160 | 318=>162 | 319=>163 | 320=>164 | 337=>233 | 338=>234 | n=>n,fun | 3=>3 | 9=>9 | 2=>2 | 4=>4 | 171=>127 | 0=>0 | 53=>128 | 37=>67 | 5=>5 | 173=>131 | 212=>211 | 51=>212 | 20=>20 | 213=>213 | 46=>214 | 232=>322 | 233=>323 | n=>n,fun | 17=>0 | 18=>4 | 19=>5 | n=>n⟩
theorem Tryz.laysM171:Go.Proofs.LaysM.n171 Tryz.prog Tryz.laysM171_ren:={
 mixed:=by kernel_rfl
 f129:=Tryz.func161.trans (congrArg some (by kernel_rfl))
 f171:=Tryz.func17.trans (congrArg some (by kernel_rfl))
 f243:=Tryz.func26.trans (congrArg some (by kernel_rfl))
 f246:=Tryz.func40.trans (congrArg some (by kernel_rfl))
 f283:=Tryz.func79.trans (congrArg some (by kernel_rfl))
 f284:=Tryz.func80.trans (congrArg some (by kernel_rfl))
 f285:=Tryz.func81.trans (congrArg some (by kernel_rfl))
 f286:=Tryz.func82.trans (congrArg some (by kernel_rfl))
 f317:=Tryz.func160.trans (congrArg some (by kernel_rfl))
 f318:=Tryz.func162.trans (congrArg some (by kernel_rfl))
 f319:=Tryz.func163.trans (congrArg some (by kernel_rfl))
 f320:=Tryz.func164.trans (congrArg some (by kernel_rfl))
 f337:=Tryz.func233.trans (congrArg some (by kernel_rfl))
 f338:=Tryz.func234.trans (congrArg some (by kernel_rfl))
 t0:=Tryz.underlying0
 a0:=Tryz.isAgg0
 z0:=Tryz.sizeOf0
 v0:=Tryz.zeroValue0
 t2:=Tryz.underlying2
 a2:=Tryz.isAgg2
 z2:=Tryz.sizeOf2
 v2:=Tryz.zeroValue2
 t3:=Tryz.underlying3
 a3:=Tryz.isAgg3
 z3:=Tryz.sizeOf3
 v3:=Tryz.zeroValue3
 t4:=Tryz.underlying4
 a4:=Tryz.isAgg4
 z4:=Tryz.sizeOf4
 v4:=Tryz.zeroValue4
 t5:=Tryz.underlying5
 a5:=Tryz.isAgg5
 z5:=Tryz.sizeOf5
 v5:=Tryz.zeroValue5
 t9:=Tryz.underlying9
 a9:=Tryz.isAgg9
 z9:=Tryz.sizeOf9
 v9:=Tryz.zeroValue9
 t20:=Tryz.underlying20
 a20:=Tryz.isAgg20
 z20:=Tryz.sizeOf20
 v20:=Tryz.zeroValue20
 t37:=Tryz.underlying67
 a37:=Tryz.isAgg67
 z37:=Tryz.sizeOf67
 v37:=Tryz.zeroValue67
 t46:=Tryz.underlying214
 a46:=Tryz.isAgg214
 z46:=Tryz.sizeOf214
 v46:=Tryz.zeroValue214
 t51:=Tryz.underlying212
 a51:=Tryz.isAgg212
 z51:=Tryz.sizeOf212
 v51:=Tryz.zeroValue212
 t53:=Tryz.underlying128
 a53:=Tryz.isAgg128
 z53:=Tryz.sizeOf128
 v53:=Tryz.zeroValue128
 t171:=Tryz.underlying127
 a171:=Tryz.isAgg127
 z171:=Tryz.sizeOf127
 v171:=Tryz.zeroValue127
 t173:=Tryz.underlying131
 a173:=Tryz.isAgg131
 z173:=Tryz.sizeOf131
 v173:=Tryz.zeroValue131
 t212:=Tryz.underlying211
 a212:=Tryz.isAgg211
 z212:=Tryz.sizeOf211
 v212:=Tryz.zeroValue211
 t213:=Tryz.underlying213
 a213:=Tryz.isAgg213
 z213:=Tryz.sizeOf213
 t232:=Tryz.underlying322
 a232:=Tryz.isAgg322
 z232:=Tryz.sizeOf322
 v232:=Tryz.zeroValue322
 t233:=Tryz.underlying323
 a233:=Tryz.isAgg323
 z233:=Tryz.sizeOf323
 v233:=Tryz.zeroValue323
 g17:=by kernel_rfl
 g18:=by kernel_rfl
 g19:=by kernel_rfl
 i0:=by kernel_rfl
 i2:=by kernel_rfl
 i3:=by kernel_rfl
 i4:=by kernel_rfl
 i5:=by kernel_rfl
 i9:=by kernel_rfl
 i20:=by kernel_rfl
 i37:=by kernel_rfl
 i46:=by kernel_rfl
 i51:=by kernel_rfl
 i53:=by kernel_rfl
 i171:=by kernel_rfl
 i173:=by kernel_rfl
 i212:=by kernel_rfl
 i232:=by kernel_rfl
 i233:=by kernel_rfl
 m17:=by kernel_rfl
 m18:=by kernel_rfl
 m19:=by kernel_rfl }
def Tryz.laysC172_ren:Go.Shelf.Ren:=⟨fun | 172=>42 | 244=>86 | 245=>87 | 247=>169 | 279=>170 | 280=>171 | 281=>172 | 282=>173 | 287=>240 | 316=>241 | 171=>17 | 205=>242 | 321=>337 | 322=>338 | 243=>26 | 246=>40 | 283=>79 | 284=>80 | 285=>81 | 286=>82 | 129=>161 | 317=>160 | 318=>162 | 319=>163 | 320=>164 | 337=>233 | 338=>234 | n=>n,fun | 9=>9 | 3=>3 | 75=>93 | 76=>94 | 4=>4 | 5=>5 | 167=>220 | 37=>67 | 0=>0 | 85=>221 | 2=>2 | 168=>223 | 53=>128 | 175=>269 | 46=>214 | 210=>273 | 127=>331 | 145=>334 | 143=>332 | 21=>21 | 171=>127 | 173=>131 | 212=>211 | 51=>212 | 20=>20 | 213=>213 | 232=>322 | 233=>323 | 80=>451 | n=>n,fun | 15=>2 | 16=>3 | 17=>0 | 18=>4 | 19=>5 | n=>n⟩
theorem Tryz.laysC172:Go.Proofs.LaysC.n172 Tryz.prog Tryz.laysC172_ren:={
 mixed:=by kernel_rfl
 f129:=Tryz.func161.trans (congrArg some (by kernel_rfl))
 f171:=Tryz.func17.trans (congrArg some (by kernel_rfl))
 f172:=Tryz.func42.trans (congrArg some (by kernel_rfl))
 f205:=Tryz.func242.trans (congrArg some (by kernel_rfl))
 f243:=Tryz.func26.trans (congrArg some (by kernel_rfl))
 f244:=Tryz.func86.trans (congrArg some (by kernel_rfl))
 f245:=Tryz.func87.trans (congrArg some (by kernel_rfl))
 f246:=Tryz.func40.trans (congrArg some (by kernel_rfl))
 f247:=Tryz.func169.trans (congrArg some (by kernel_rfl))
 f279:=Tryz.func170.trans (congrArg some (by kernel_rfl))
 f280:=Tryz.func171.trans (congrArg some (by kernel_rfl))
 f281:=Tryz.func172.trans (congrArg some (by kernel_rfl))
 f282:=Tryz.func173.trans (congrArg some (by kernel_rfl))
 f283:=Tryz.func79.trans (congrArg some (by kernel_rfl))
 f284:=Tryz.func80.trans (congrArg some (by kernel_rfl))
 f285:=Tryz.func81.trans (congrArg some (by kernel_rfl))
 f286:=Tryz.func82.trans (congrArg some (by kernel_rfl))
 f287:=Tryz.func240.trans (congrArg some (by kernel_rfl))
 f316:=Tryz.func241.trans (congrArg some (by kernel_rfl))
 f317:=Tryz.func160.trans (congrArg some (by kernel_rfl))
 f318:=Tryz.func162.trans (congrArg some (by kernel_rfl))
 f319:=Tryz.func163.trans (congrArg some (by kernel_rfl))
 f320:=Tryz.func164.trans (congrArg some (by kernel_rfl))
 f321:=Tryz.func337.trans (congrArg some (by kernel_rfl))
 f322:=Tryz.func338.trans (congrArg some (by kernel_rfl))
 f337:=Tryz.func233.trans (congrArg some (by kernel_rfl))
 f338:=Tryz.func234.trans (congrArg some (by kernel_rfl))
 t0:=Tryz.underlying0
 a0:=Tryz.isAgg0
 z0:=Tryz.sizeOf0
 v0:=Tryz.zeroValue0
 t2:=Tryz.underlying2
 a2:=Tryz.isAgg2
 z2:=Tryz.sizeOf2
 v2:=Tryz.zeroValue2
 t3:=Tryz.underlying3
 a3:=Tryz.isAgg3
 z3:=Tryz.sizeOf3
 v3:=Tryz.zeroValue3
 t4:=Tryz.underlying4
 a4:=Tryz.isAgg4
 z4:=Tryz.sizeOf4
 v4:=Tryz.zeroValue4
 t5:=Tryz.underlying5
 a5:=Tryz.isAgg5
 z5:=Tryz.sizeOf5
 v5:=Tryz.zeroValue5
 t9:=Tryz.underlying9
 a9:=Tryz.isAgg9
 z9:=Tryz.sizeOf9
 v9:=Tryz.zeroValue9
 t20:=Tryz.underlying20
 a20:=Tryz.isAgg20
 z20:=Tryz.sizeOf20
 v20:=Tryz.zeroValue20
 t21:=Tryz.underlying21
 a21:=Tryz.isAgg21
 z21:=Tryz.sizeOf21
 v21:=Tryz.zeroValue21
 t37:=Tryz.underlying67
 a37:=Tryz.isAgg67
 z37:=Tryz.sizeOf67
 v37:=Tryz.zeroValue67
 t46:=Tryz.underlying214
 a46:=Tryz.isAgg214
 z46:=Tryz.sizeOf214
 v46:=Tryz.zeroValue214
 t51:=Tryz.underlying212
 a51:=Tryz.isAgg212
 z51:=Tryz.sizeOf212
 v51:=Tryz.zeroValue212
 t53:=Tryz.underlying128
 a53:=Tryz.isAgg128
 z53:=Tryz.sizeOf128
 v53:=Tryz.zeroValue128
 t75:=Tryz.underlying93
 a75:=Tryz.isAgg93
 z75:=Tryz.sizeOf93
 v75:=Tryz.zeroValue93
 t76:=Tryz.underlying94
 a76:=Tryz.isAgg94
 z76:=Tryz.sizeOf94
 v76:=Tryz.zeroValue94
 t85:=Tryz.underlying221
 a85:=Tryz.isAgg221
 z85:=Tryz.sizeOf221
 v85:=Tryz.zeroValue221
 t127:=Tryz.underlying331
 a127:=Tryz.isAgg331
 z127:=Tryz.sizeOf331
 v127:=Tryz.zeroValue331
 t143:=Tryz.underlying332
 a143:=Tryz.isAgg332
 z143:=Tryz.sizeOf332
 v143:=Tryz.zeroValue332
 t145:=Tryz.underlying334
 a145:=Tryz.isAgg334
 z145:=Tryz.sizeOf334
 v145:=Tryz.zeroValue334
 t167:=Tryz.underlying220
 a167:=Tryz.isAgg220
 z167:=Tryz.sizeOf220
 v167:=Tryz.zeroValue220
 t168:=Tryz.underlying223
 a168:=Tryz.isAgg223
 z168:=Tryz.sizeOf223
 v168:=Tryz.zeroValue223
 t171:=Tryz.underlying127
 a171:=Tryz.isAgg127
 z171:=Tryz.sizeOf127
 v171:=Tryz.zeroValue127
 t173:=Tryz.underlying131
 a173:=Tryz.isAgg131
 z173:=Tryz.sizeOf131
 v173:=Tryz.zeroValue131
 t175:=Tryz.underlying269
 a175:=Tryz.isAgg269
 z175:=Tryz.sizeOf269
 v175:=Tryz.zeroValue269
 t210:=Tryz.underlying273
 a210:=Tryz.isAgg273
 z210:=Tryz.sizeOf273
 v210:=Tryz.zeroValue273
 t212:=Tryz.underlying211
 a212:=Tryz.isAgg211
 z212:=Tryz.sizeOf211
 v212:=Tryz.zeroValue211
 t213:=Tryz.underlying213
 a213:=Tryz.isAgg213
 z213:=Tryz.sizeOf213
 t232:=Tryz.underlying322
 a232:=Tryz.isAgg322
 z232:=Tryz.sizeOf322
 v232:=Tryz.zeroValue322
 t233:=Tryz.underlying323
 a233:=Tryz.isAgg323
 z233:=Tryz.sizeOf323
 v233:=Tryz.zeroValue323
 g15:=by kernel_rfl
 g16:=by kernel_rfl
 g17:=by kernel_rfl
 g18:=by kernel_rfl
 g19:=by kernel_rfl
 t80:=Tryz.underlying451
 a80:=Tryz.isAgg451
 z80:=Tryz.sizeOf451
 v80:=Tryz.zeroValue451
 i0:=by kernel_rfl
 i2:=by kernel_rfl
 i3:=by kernel_rfl
 i4:=by kernel_rfl
 i5:=by kernel_rfl
 i9:=by kernel_rfl
 i20:=by kernel_rfl
 i21:=by kernel_rfl
 i37:=by kernel_rfl
 i46:=by kernel_rfl
 i51:=by kernel_rfl
 i53:=by kernel_rfl
 i75:=by kernel_rfl
 i76:=by kernel_rfl
 i80:=by kernel_rfl
 i85:=by kernel_rfl
 i127:=by kernel_rfl
 i143:=by kernel_rfl
 i145:=by kernel_rfl
 i167:=by kernel_rfl
 i168:=by kernel_rfl
 i171:=by kernel_rfl
 i173:=by kernel_rfl
 i175:=by kernel_rfl
 i210:=by kernel_rfl
 i212:=by kernel_rfl
 i232:=by kernel_rfl
 i233:=by kernel_rfl
 m15:=by kernel_rfl
 m16:=by kernel_rfl
 m17:=by kernel_rfl
 m18:=by kernel_rfl
 m19:=by kernel_rfl
 c0:=by kernel_rfl
 c2:=by kernel_rfl
 c3:=by kernel_rfl
 c4:=by kernel_rfl
 c5:=by kernel_rfl
 c9:=by kernel_rfl
 c20:=by kernel_rfl
 c21:=by kernel_rfl
 c37:=by kernel_rfl
 c46:=by kernel_rfl
 c51:=by kernel_rfl
 c53:=by kernel_rfl
 c75:=by kernel_rfl
 c76:=by kernel_rfl
 c80:=by kernel_rfl
 c85:=by kernel_rfl
 c127:=by kernel_rfl
 c143:=by kernel_rfl
 c145:=by kernel_rfl
 c167:=by kernel_rfl
 c168:=by kernel_rfl
 c171:=by kernel_rfl
 c173:=by kernel_rfl
 c175:=by kernel_rfl
 c210:=by kernel_rfl
 c212:=by kernel_rfl
 c213:=by kernel_rfl
 c232:=by kernel_rfl
 c233:=by kernel_rfl }
def Tryz.lays160_ren:Go.Shelf.Ren:=⟨fun | 160=>339 | 232=>386 | 231=>385 | 227=>387 | 234=>389 | 233=>388 | 236=>391 | 235=>390 | 228=>429 | 271=>431 | 151=>430 | 197=>166 | 120=>470 | 152=>469 | 260=>235 | 137=>397 | 119=>494 | 224=>238 | 225=>237 | 217=>236 | 266=>335 | n=>n,fun | 9=>9 | 4=>4 | 3=>3 | 5=>5 | 117=>380 | 116=>379 | 0=>0 | 124=>383 | 21=>21 | 105=>217 | 46=>214 | 119=>324 | 139=>327 | 138=>326 | n=>n,fun | 3=>6 | 4=>7 | n=>n⟩
theorem Tryz.lays160:Go.Proofs.Lays.n160 Tryz.prog Tryz.lays160_ren:={
 mixed:=by kernel_rfl
 f119:=Tryz.func494.trans (congrArg some (by kernel_rfl))
 f120:=Tryz.func470.trans (congrArg some (by kernel_rfl))
 f137:=Tryz.func397.trans (congrArg some (by kernel_rfl))
 f151:=Tryz.func430.trans (congrArg some (by kernel_rfl))
 f152:=Tryz.func469.trans (congrArg some (by kernel_rfl))
 f160:=Tryz.func339.trans (congrArg some (by kernel_rfl))
 f197:=Tryz.func166.trans (congrArg some (by kernel_rfl))
 f217:=Tryz.func236.trans (congrArg some (by kernel_rfl))
 f224:=Tryz.func238.trans (congrArg some (by kernel_rfl))
 f225:=Tryz.func237.trans (congrArg some (by kernel_rfl))
 f227:=Tryz.func387.trans (congrArg some (by kernel_rfl))
 f228:=Tryz.func429.trans (congrArg some (by kernel_rfl))
 f231:=Tryz.func385.trans (congrArg some (by kernel_rfl))
 f232:=Tryz.func386.trans (congrArg some (by kernel_rfl))
 f233:=Tryz.func388.trans (congrArg some (by kernel_rfl))
 f234:=Tryz.func389.trans (congrArg some (by kernel_rfl))
 f235:=Tryz.func390.trans (congrArg some (by kernel_rfl))
 f236:=Tryz.func391.trans (congrArg some (by kernel_rfl))
 f260:=Tryz.func235.trans (congrArg some (by kernel_rfl))
 f266:=Tryz.func335.trans (congrArg some (by kernel_rfl))
 f271:=Tryz.func431.trans (congrArg some (by kernel_rfl))
 t0:=Tryz.underlying0
 a0:=Tryz.isAgg0
 z0:=Tryz.sizeOf0
 v0:=Tryz.zeroValue0
 t3:=Tryz.underlying3
 a3:=Tryz.isAgg3
 z3:=Tryz.sizeOf3
 v3:=Tryz.zeroValue3
 t4:=Tryz.underlying4
 a4:=Tryz.isAgg4
 z4:=Tryz.sizeOf4
 v4:=Tryz.zeroValue4
 t5:=Tryz.underlying5
 a5:=Tryz.isAgg5
 z5:=Tryz.sizeOf5
 v5:=Tryz.zeroValue5
 t9:=Tryz.underlying9
 a9:=Tryz.isAgg9
 z9:=Tryz.sizeOf9
 v9:=Tryz.zeroValue9
 t21:=Tryz.underlying21
 a21:=Tryz.isAgg21
 z21:=Tryz.sizeOf21
 v21:=Tryz.zeroValue21
 t46:=Tryz.underlying214
 a46:=Tryz.isAgg214
 z46:=Tryz.sizeOf214
 v46:=Tryz.zeroValue214
 t105:=Tryz.underlying217
 a105:=Tryz.isAgg217
 z105:=Tryz.sizeOf217
 v105:=Tryz.zeroValue217
 t116:=Tryz.underlying379
 a116:=Tryz.isAgg379
 z116:=Tryz.sizeOf379
 t117:=Tryz.underlying380
 a117:=Tryz.isAgg380
 z117:=Tryz.sizeOf380
 v117:=Tryz.zeroValue380
 t119:=Tryz.underlying324
 a119:=Tryz.isAgg324
 z119:=Tryz.sizeOf324
 t124:=Tryz.underlying383
 a124:=Tryz.isAgg383
 z124:=Tryz.sizeOf383
 v124:=Tryz.zeroValue383
 t138:=Tryz.underlying326
 a138:=Tryz.isAgg326
 z138:=Tryz.sizeOf326
 v138:=Tryz.zeroValue326
 t139:=Tryz.underlying327
 a139:=Tryz.isAgg327
 z139:=Tryz.sizeOf327
 v139:=Tryz.zeroValue327
 g3:=by kernel_rfl
 g4:=by kernel_rfl }
def Tryz.lays106_ren:Go.Shelf.Ren:=⟨fun | 106=>343 | 213=>392 | 265=>432 | n=>n,fun | 9=>9 | 3=>3 | n=>n,fun | n=>n⟩
theorem Tryz.lays106:Go.Proofs.Lays.n106 Tryz.prog Tryz.lays106_ren:={
 mixed:=by kernel_rfl
 f106:=Tryz.func343.trans (congrArg some (by kernel_rfl))
 f213:=Tryz.func392.trans (congrArg some (by kernel_rfl))
 f265:=Tryz.func432.trans (congrArg some (by kernel_rfl))
 t3:=Tryz.underlying3
 a3:=Tryz.isAgg3
 z3:=Tryz.sizeOf3
 v3:=Tryz.zeroValue3
 t9:=Tryz.underlying9
 a9:=Tryz.isAgg9
 z9:=Tryz.sizeOf9
 v9:=Tryz.zeroValue9 }
def Tryz.lays146_ren:Go.Shelf.Ren:=⟨fun | 146=>27 | 221=>41 | 268=>83 | 138=>84 | 143=>85 | 195=>165 | 197=>166 | 218=>167 | 219=>168 | 260=>235 | 217=>236 | 225=>237 | 224=>238 | 267=>239 | 266=>335 | 314=>336 | n=>n,fun | 9=>9 | 31=>33 | 3=>3 | 4=>4 | 0=>0 | 105=>217 | 21=>21 | 5=>5 | 46=>214 | 119=>324 | 139=>327 | 138=>326 | 146=>328 | 51=>212 | n=>n,fun | 1=>1 | 3=>6 | 4=>7 | n=>n⟩
theorem Tryz.lays146:Go.Proofs.Lays.n146 Tryz.prog Tryz.lays146_ren:={
 mixed:=by kernel_rfl
 f138:=Tryz.func84.trans (congrArg some (by kernel_rfl))
 f143:=Tryz.func85.trans (congrArg some (by kernel_rfl))
 f146:=Tryz.func27.trans (congrArg some (by kernel_rfl))
 f195:=Tryz.func165.trans (congrArg some (by kernel_rfl))
 f197:=Tryz.func166.trans (congrArg some (by kernel_rfl))
 f217:=Tryz.func236.trans (congrArg some (by kernel_rfl))
 f218:=Tryz.func167.trans (congrArg some (by kernel_rfl))
 f219:=Tryz.func168.trans (congrArg some (by kernel_rfl))
 f221:=Tryz.func41.trans (congrArg some (by kernel_rfl))
 f224:=Tryz.func238.trans (congrArg some (by kernel_rfl))
 f225:=Tryz.func237.trans (congrArg some (by kernel_rfl))
 f260:=Tryz.func235.trans (congrArg some (by kernel_rfl))
 f266:=Tryz.func335.trans (congrArg some (by kernel_rfl))
 f267:=Tryz.func239.trans (congrArg some (by kernel_rfl))
 f268:=Tryz.func83.trans (congrArg some (by kernel_rfl))
 f314:=Tryz.func336.trans (congrArg some (by kernel_rfl))
 t0:=Tryz.underlying0
 a0:=Tryz.isAgg0
 z0:=Tryz.sizeOf0
 v0:=Tryz.zeroValue0
 t3:=Tryz.underlying3
 a3:=Tryz.isAgg3
 z3:=Tryz.sizeOf3
 v3:=Tryz.zeroValue3
 t4:=Tryz.underlying4
 a4:=Tryz.isAgg4
 z4:=Tryz.sizeOf4
 v4:=Tryz.zeroValue4
 t5:=Tryz.underlying5
 a5:=Tryz.isAgg5
 z5:=Tryz.sizeOf5
 v5:=Tryz.zeroValue5
 t9:=Tryz.underlying9
 a9:=Tryz.isAgg9
 z9:=Tryz.sizeOf9
 v9:=Tryz.zeroValue9
 t21:=Tryz.underlying21
 a21:=Tryz.isAgg21
 z21:=Tryz.sizeOf21
 v21:=Tryz.zeroValue21
 t31:=Tryz.underlying33
 a31:=Tryz.isAgg33
 z31:=Tryz.sizeOf33
 v31:=Tryz.zeroValue33
 t46:=Tryz.underlying214
 a46:=Tryz.isAgg214
 z46:=Tryz.sizeOf214
 v46:=Tryz.zeroValue214
 t51:=Tryz.underlying212
 a51:=Tryz.isAgg212
 z51:=Tryz.sizeOf212
 v51:=Tryz.zeroValue212
 t105:=Tryz.underlying217
 a105:=Tryz.isAgg217
 z105:=Tryz.sizeOf217
 v105:=Tryz.zeroValue217
 t119:=Tryz.underlying324
 a119:=Tryz.isAgg324
 z119:=Tryz.sizeOf324
 t138:=Tryz.underlying326
 a138:=Tryz.isAgg326
 z138:=Tryz.sizeOf326
 v138:=Tryz.zeroValue326
 t139:=Tryz.underlying327
 a139:=Tryz.isAgg327
 z139:=Tryz.sizeOf327
 v139:=Tryz.zeroValue327
 t146:=Tryz.underlying328
 a146:=Tryz.isAgg328
 z146:=Tryz.sizeOf328
 v146:=Tryz.zeroValue328
 g1:=by kernel_rfl
 g3:=by kernel_rfl
 g4:=by kernel_rfl }
end Go.Proofs
namespace Go.Proofs.YtkibeldbfkainaaGreatDoor
open Go.RowKit Go.Ab Go.Sh Go.Proofs Go.Shelf
theorem Tryz.mo:Tryz.prog.follows .mixedOrders=true:=by kernel_rfl
theorem named {s:String} (h:(Tryz.prog.globalNamed s).isSome=true):Tryz.prog.globalNamed s≠none:=fun e=>by rw [e] at h;cases h
theorem ur (n:Int) (r:aj) (H:jd n=some r):bp Tryz.prog 17 [.int .i64 n] (.str r):=M6 Tryz.laysM171 (named (by kernel_rfl)) n r H
theorem Eb (s:aj) (r:Int×Bool) (H:th s=some r):bp Tryz.prog 42 [.str s] (.tup [.int .i64 r.1,Fa 223 r.2]):=M5 Tryz.laysC172 (named (by kernel_rfl)) (named (by kernel_rfl)) s r H
theorem Ca (s sep:aj) (r:List aj) (H:ti s sep=some r):bp Tryz.prog 27 [.str s,.str sep] (.dslice (r.map lE)):=LU Tryz.lays146 (by kernel_rfl) (by kernel_rfl) s sep r H
def e7:List aj:=[[100,101,97,100],[99,111,109,109,111,110],[99,111,110,115,116,97,110,116],[110,101,117,116,114,97,108],[97,98,115,111,114,98,105,110,103],[105,100,101,109,112,111,116,101,110,116],[111,114,100,101,114],[97,115,115,111,99,105,97,116,101],[100,111,117,98,108,101],[116,97,107,101],[100,114,111,112],[119,104,111,108,101],[116,104,114,111,117,103,104],[102,105,108,108],[99,104,111,105,99,101]]
def lA (n:Int):Option (aj×Bool):=some (bif decide (n<1)||decide (n>15) then ([],false) else (e7.getD (n-1).toNat [],true))
theorem WI (n:Int):AV.dslice [[AV.int .u8 (IntKind.u8.wrap n)]] = .dslice ([UInt8.ofNat (IntKind.u8.wrap n).toNat].map zG):=by
 have h:0≤IntKind.u8.wrap n∧IntKind.u8.wrap n<256:=by
  have e:IntKind.u8.wrap n=n % 256:=by simp [IntKind.wrap,IntKind.bits,IntKind.signed]
  omega
 have h2:((UInt8.ofNat (IntKind.u8.wrap n).toNat).toNat:Int)=IntKind.u8.wrap n:=by rw [UInt8.toNat_ofNat'];omega
 simp only [List.map_cons,List.map_nil,zG,h2]
theorem Kg (s cut:aj) (r:aj) (H:vZ s cut=some r):bp Tryz.prog 339 [.str s,.str cut] (.str r):=M8 Tryz.lays160 (fun w=>om (show zeroOf Tryz.prog 379=some (.agg (_root_.Array.replicate 256 (.bool false))) from by kernel_rfl)) (by kernel_rfl) s cut r H
theorem K7:∀ x y:aj,Lib.compareBytes x y=AX x y
 | [],[]=>rfl
 | [],_::_=>rfl
 | _::_,[]=>rfl
 | a::x,b::y=>by
  have ih:=K7 x y;simp only [Lib.compareBytes,AX,Op.bytesLess] at ih ⊢;by_cases h1:a<b
  ·simp [h1]
  ·by_cases h2:b<a
   ·have:(a==b)=false:=by
     cases h:a==b with
     | false=>rfl
     | true=>exact absurd (eq_of_beq h ▸ h2) (UInt8.lt_irrefl _)
    simp [h1,h2,this]
   ·have e:a=b:=by apply UInt8.toNat_inj.1;have q1:¬ a.toNat<b.toNat:=h1;have q2:¬ b.toNat<a.toNat:=h2;omega
    subst e;simp [h1,ih]
theorem L7 (x y:aj) (w:World):Calls Tryz.prog 343 #[.string ⟨x.toArray⟩,.string ⟨y.toArray⟩] w fun e w'=>e = .returned (.int .i64 (AX x y))∧w'=w:=by
 have h:=Any.strings_Compare Tryz.lays106 ⟨x.toArray⟩ ⟨y.toArray⟩ w
 rwa [K7] at h
def ru (x y:aj):Option Int:=some (AX x y)
theorem yn (x y:aj) (r:Int) (H:ru x y=some r):bp Tryz.prog 343 [.str x,.str y] (.int .i64 r):=by unfold ru at H;refine bA H fun e=>?_;subst e;refine tP rfl fun w X vs hl hX hd _=>?_;have d0:=(show D w X (.str x) (vs.getD 0 undef) from hd 0 (by simp)).str_inv;have d1:=(show D w X (.str y) (vs.getD 1 undef) from hd 1 (by simp)).str_inv;rw [QI (vs:=vs) (by simpa using hl),d0.1,d1.1];exact (L7 x y w).mono fun e w' ⟨a,b⟩=>by subst b;exact ⟨_,a,.refl _ _,.int _ _⟩
def U4 (n:Int):Go.Value:=.tuple #[.string ⟨(bif decide (n<1)||decide (n>15) then [] else e7.getD (n-1).toNat []:aj).toArray⟩,.bool !(decide (n<1)||decide (n>15))]
theorem Wf (n:Int) (h:n<1∨15<n) (w:World):Calls Tryz.prog 16 #[.int .i64 n] w fun e w'=>e = .returned (U4 n)∧Below w.heap.size w w':=by
 have e0:U4 n = .tuple #[.string ⟨#[]⟩,.bool false]:=by unfold U4;rw [show (decide (n<1)||decide (n>15))=true by rw [Bool.or_eq_true,decide_eq_true_eq,decide_eq_true_eq];omega];rfl
 rw [e0]
 go_enter Tryz.func16,Tryz.ntmps16
 go_wp2
 all_goals first
  | (exfalso;omega)
  | (go_ret2;exact ⟨rfl,(Below.refl _ w).alloc (Nat.le_refl _) _⟩)
set_option maxHeartbeats 2000000 in
theorem Wu (n:Int) (h:1≤n∧n≤15) (w:World):Calls Tryz.prog 16 #[.int .i64 n] w fun e w'=>e = .returned (U4 n)∧Below w.heap.size w w':=by
 have h3:n=1∨n=2∨n=3∨n=4∨n=5∨n=6∨n=7∨n=8∨n=9∨n=10∨n=11∨n=12∨n=13∨n=14∨n=15:=by omega
 clear h;rcases h3 with rfl | rfl | rfl | rfl | rfl | rfl | rfl | rfl | rfl | rfl | rfl | rfl | rfl | rfl | rfl;all_goals
  go_enter Tryz.func16,Tryz.ntmps16
  go_wp2
  go_ret2
  exact ⟨rfl,(Below.refl _ w).alloc (Nat.le_refl _) _⟩
theorem Es:∀ x∈e7,x.length≤maxLen:=by
 have h:(e7.all fun x=>decide (x.length≤maxLen))=true:=by decide
 intro x hx;exact S3 (Tc.1 h x hx)
theorem TY (n:Int) (r:aj×Bool) (H:lA n=some r):bp Tryz.prog 16 [.int .i64 n] (.tup [.str r.1,.bool r.2]):=by
 unfold lA at H;refine bA H fun eR=>?_;refine tP rfl fun w X vs hl _ hd gp=>?_;have h0:=(hd 0 (by simp)).int_inv;rw [Sz (vs:=vs) (by simpa using hl),h0];have hc:Calls Tryz.prog 16 #[.int .i64 n] w fun e w'=>e = .returned (U4 n)∧Below w.heap.size w w':=by
  by_cases h:1≤n∧n≤15
  ·exact Wu n h w
  ·exact Wf n (by omega) w
 refine hc.mono fun e w' ⟨e1,e2⟩=>⟨_,e1,e2,?_⟩;subst eR;unfold U4;have hx:(bif decide (n<1)||decide (n>15) then ([]:aj) else e7.getD (n-1).toNat []).length≤maxLen:=by
  cases (decide (n<1)||decide (n>15)) with
  | true=>exact Nat.zero_le _
  | false =>
   show (e7.getD (n-1).toNat []).length≤maxLen;by_cases h:(n-1).toNat<e7.length
   ·exact Es _ (by rw [SW,SX h];exact List.getElem_mem _)
   ·rw [SW,List.getElem?_eq_none (by omega)];exact Nat.zero_le _
 generalize (decide (n<1)||decide (n>15))=b at hx ⊢;refine .tup _ _ rfl fun i hi=>?_;match i,hi with
 | 0,_ =>
  have e3:(bif b then (([]:aj),false) else (e7.getD (n-1).toNat [],true)).1=bif b then [] else e7.getD (n-1).toNat []:=by cases b<;>rfl
  show D w' X (.str (bif b then (([]:aj),false) else (e7.getD (n-1).toNat [],true)).1) _;rw [e3];exact .str _ hx
 | 1,_ =>
  have e3:(bif b then (([]:aj),false) else (e7.getD (n-1).toNat [],true)).2 = !b:=by cases b<;>rfl
  show D w' X (.bool (bif b then (([]:aj),false) else (e7.getD (n-1).toNat [],true)).2) _;rw [e3];exact .bool _
end Go.Proofs.YtkibeldbfkainaaGreatDoor
namespace Go.Ab
open Go.RowKit Go.Sh
theorem bH.es {P:Program} {f:FuncId} {args:List AV} {h0:List (Nat×AO)} {Q:AV→List (Nat×AO)→Prop} (i:Nat) (h:bH P f (args.set i (.dslice [])) h0 Q) (hi:args.getD i .any = .eslice):bH P f args h0 Q :=
 fun c vs hl hr hg=>h c vs (by simpa using hl) hr fun j hj=>by
  have hj':j<args.length:=by simpa using hj
  by_cases e:j=i
  ·subst e;have h1:=hg j hj';rw [hi] at h1;obtain ⟨ad,e1⟩:=h1.eslice_inv;rw [e1];have h2:(args.set j (.dslice [])).getD j .any = .dslice []:=by simp [SW,hj']
   rw [h2];exact .d (.dnil _ _ (Nat.zero_le _))
  ·have h2:(args.set i (.dslice [])).getD j .any=args.getD j .any:=by simp [SW,List.getElem?_set,Ne.symm e]
   rw [h2];exact hg j hj'
theorem hT {α:Type} {b:Bool} {x z:Option α} {y:α} (h:b=true) (H:(bif b then x else z)=some y):x=some y:=by rw [h] at H;exact H
theorem hF {α:Type} {b:Bool} {x z:Option α} {y:α} (h:b=false) (H:(bif b then z else x)=some y):x=some y:=by rw [h] at H;exact H
theorem rN {a b:Bool} (h:(a&&b)=true):a=true:=by cases a<;>first | rfl | exact h
theorem yX {a b:Bool} (h:(a&&b)=true):b=true:=by cases a<;>first | exact h | cases h
theorem kB {a b:Bool} (h:(a||b)=false):a=false:=by cases a<;>first | rfl | exact h
theorem rz {a b:Bool} (h:(a||b)=false):b=false:=by cases a<;>first | exact h | cases h
theorem Mu {b:Bool} (h:(!b)=false):b=true:=by cases b<;>first | rfl | cases h
end Go.Ab
namespace Go.Sh
open Classical in
noncomputable def Lx {α γ:Type} (l:List α) (a b:Option (List γ)):Option (List γ):=if l=[]→a=b then b else none
noncomputable def Hq {α γ:Type} (l:List α) (a b:Option (List γ)):Option (List γ) :=
 match l with
 | []=>match a with
  | some []=>match b with
   | some []=>some []
   | b=>Lx l (some []) b
  | a=>Lx l a b
 | _::_=>b
theorem N7 {α γ:Type} (l:List α) (a b:Option (List γ)):Hq l a b=Lx l a b:=by
 match l,a,b with
 | [],some [],some []=>exact (if_pos (c:=([]:List α)=[]→some ([]:List γ)=some []) fun _=>rfl).symm
 | [],some [],some (_::_)=>rfl
 | [],some [],none=>rfl
 | [],some (_::_),_=>rfl
 | [],none,_=>rfl
 | _::_,_,_=>exact (if_pos fun h=>nomatch h).symm
theorem Be {α γ:Type} {l:List α} {a b:Option (List γ)} {v:List γ} {G:Prop} (H:Hq l a b=some v) (k:(l=[]→a=some v)→b=some v→G):G:=by
 rw [N7] at H;unfold Lx at H;split at H
 ·rename_i h;exact k (fun e=>by rw [h e];exact H) H
 ·cases H
end Go.Sh
namespace Go.Ab
open Go.RowKit Go.Sh
section
variable {P:Program} {Q:Exit→AS→Prop} {c:Code} {fs:List Fr} {s:AS}
def N5 (s:AS):AV→Option (List (List AV))
 | .dslice l=>some l
 | .eslice=>some []
 | .rslice k=>match lk .gone s.h k with | .row _ _ xs=>some xs | _=>none
 | _=>none
theorem Et {c:Cx P} {a:Act} {w:World} {β:Nat→Nat} {κ:Nat→Nat×Nat} (r:Rel c s a w β κ) {v:AV} {V:Value} {l:List (List AV)} (hG:G w (c.XX s.h β) β κ v V) (h:N5 s v=some l) :
 ∃ ad n cp,V = .slice ad n cp∧(ad.isNone=true→l=[]):=by
 unfold N5 at h;split at h
 ·cases h;cases hG with
  | d hd =>
   cases hd with
   | dnil a cap _=>exact ⟨a,0,cap,rfl,fun _=>rfl⟩
   | dslice _ b o cap sz cv=>exact ⟨_,_,_,rfl,fun h=>by cases h⟩
 ·cases h;obtain ⟨a,e⟩:=hG.eslice_inv;exact ⟨a,0,0,e,fun _=>rfl⟩
 ·rename_i k;split at h
  ·rename_i e sz xs hk;cases h;rcases hG.rslice_inv with ⟨_,e1⟩ | ⟨h0,ad,rfl⟩
   ·exact ⟨_,_,_,e1,fun h=>by cases h⟩
   ·refine ⟨ad,0,0,rfl,fun _=>?_⟩;have ho:=r.hp.ob k;rw [hk] at ho;exact List.eq_nil_of_length_eq_zero (by rw [← ho.1];exact h0)
  ·cases h
 ·cases h
def nb (q b:Bool):Bool:=bif q then b else !b
def Kf:Operand→Bool
 | .const (.slice none _ _)=>true
 | _=>false
theorem IL {x:Operand} (h:Kf x=true) (a:Act):∃ n c,a.eval x = .slice none n c:=by
 unfold Kf at h;split at h
 ·exact ⟨_,_,rfl⟩
 ·cases h
def N6 (P:Program) (s:AS):Op→Option (List (List AV)×Bool)
 | .binOp op t x y _=>bif Kf y&&(KS P t).isSome then (match N5 s (s.op x),op with
  | some l,.eql=>some (l,true)
  | some l,.neq=>some (l,false)
  | _,_=>none) else none
 | _=>none
theorem Og {ops:Array Oper} {o:Oper} (hg:gd ops s o=some true) {l:List (List AV)} {q:Bool} (h:N6 P s o.op=some (l,q)) {k:Nat} (hd:o.dst=some k) (hk:k<s.n) :
 nL P ops o s (fun s'=>∃ b,(b=true→l=[])∧s'=⟨s.n,ins k (.bool (nb q b)) s.t,s.h⟩):=fun c a w β κ r K Q hK=>by
 rw [pq r hg];simp only [if_true];unfold N6 at h;split at h;case h_2=>cases h
 rename_i op t x y u hop;obtain ⟨hc,h⟩:=Go.Ab.bif_some h;rw [SY] at hc;obtain ⟨hy,ht⟩:=hc;obtain ⟨e,ht⟩:=Option.isSome_iff_exists.1 ht;obtain ⟨n',c',ey⟩:=IL hy a;have hput:∀ b,AS.put s o.dst (.bool b)=some ⟨s.n,ins k (.bool b) s.t,s.h⟩:=fun b=>by rw [hd];simp only [AS.put,show Nat.blt k s.n=true by simpa [Nat.blt_eq] using hk,cond_true]
 have key:∀ ad,(ad.isNone=true→l=[])→∀ b,b=nb q (Option.isNone (α:=Addr) ad)→(execOp a.eval o).run P w = .ok (.value (.bool b)) w→o.wp P a w K Q:=fun ad hl b hb hr=>by unfold Oper.wp;rw [hr];subst hb;exact hK ⟨s.n,ins k (.bool (nb q ad.isNone)) s.t,s.h⟩ _ w β κ ⟨_,hl,rfl⟩ (cC r (.d (.bool _)) (hput _))
 split at h
 ·cases h;obtain ⟨ad,n,cp,e1,hl2⟩:=Et (l:=l) r (r.op x) (by assumption);refine key ad hl2 ad.isNone rfl ?_;simp only [execOp,hop,e1,ey];simp [eqGuard,go_sem,Go.Lib.run_eql_slice_nil w t e ad n cp n' c' (eD ht)]
 ·cases h;obtain ⟨ad,n,cp,e1,hl2⟩:=Et (l:=l) r (r.op x) (by assumption);refine key ad hl2 (!ad.isNone) rfl ?_;simp only [execOp,hop,e1,ey];have:(binOp .neq t (.slice ad n cp) (.slice none n' c')).run P w = .ok (.bool (!ad.isNone)) w:=by simp only [binOp];simp [Op.equal,Op.maxDepth,Go.Lib.run_equalIn_slice_nil w 9999 t e ad n cp n' c' (eD ht)]
  simp [eqGuard,go_sem,this]
 ·cases h
def Sd (P:Program) (ds:List q9) (fs:List Fr) (s:AS):Code→Option (List Prop×List (List AV)×Nat×Bool×AS×Code×List Fr)
 | .region _ ops false=>match VM P ops.toList.toArray ops.toList ds s with
  | some (ps,s',[o])=>bif Fp true (gd ops.toList.toArray s' o) then (match N6 P s' o.op,o.dst,Fy fs with
   | some (l,q),some k,(some c1,fs1)=>bif Nat.blt k s'.n then some (ps,l,k,q,s',c1,fs1) else none
   | _,_,_=>none) else none
  | _=>none
 | _=>none
theorem xj (ds:List q9) {ps:List Prop} {l:List (List AV)} {k:Nat} {q:Bool} {S:AS} (hp:cQ ps) (h:Sd P ds fs s c=some (ps,l,k,q,S,(kH 1 [] c fs).1,(kH 1 [] c fs).2))
 (ht:∀ b:Bool,(b=true→l=[])→eA P (kH 1 [] c fs).1 (bZ P (kH 1 [] c fs).2 Q) ⟨S.n,ins k (.bool (nb q b)) S.t,S.h⟩):eA P c (bZ P fs Q) s:=by
 unfold Sd at h;split at h;case h_2=>cases h
 rename_i id ops;split at h;case h_2=>cases h
 rename_i ps' s' o hr;obtain ⟨hg,h⟩:=Go.Ab.bif_some h;split at h;case h_2=>cases h
 rename_i l' q' k' c1 fs1 hn hd hpop;obtain ⟨hk,h⟩:=Go.Ab.bif_some h;simp only [S9,Prod.mk.injEq] at h;obtain ⟨rfl,rfl,rfl,rfl,rfl,h1,h2⟩:=h;rw [← h1,← h2] at ht;have e:ops=ops.toList.toArray:=by simp
 rw [e];refine zw (nt ds hr hp (D9 ((Og (cA hg) hn hd (by simpa [Nat.blt_eq] using hk)).mono fun s2 ⟨b,hb,e2⟩=>IM ?_)));subst e2;refine A7 (fun c2 fs2 e3=>?_) (fun fs2 e3=>?_)
 ·rw [hpop] at e3;cases e3;exact ht b hb
 ·rw [hpop] at e3;cases e3
def Eu:Code→Option (Oper×List Oper×Code)
 | .loop (.seq (.region _ ops false) y)=>match ops.toList with
  | o::rest=>some (o,rest,y)
  | []=>none
 | _=>none
end
section
variable {P:Program}
def AV.vwT (h:List (Nat×AO)):AV→AV
 | .tup cs=>.tup (cs.map (AV.vw1 h))
 | v=>AV.vw h v
theorem G.vwT {c:Cx P} {h:List (Nat×AO)} {w:World} {β:Nat→Nat} {κ:Nat→Nat×Nat} (r:eN c h w β κ) {v:AV} {V:Value} (hg:G w (c.XX h β) β κ v V):D w c.X (AV.vwT h v) V:=by
 unfold AV.vwT;split
 ·obtain ⟨vs,rfl,hl,hgs⟩:=hg.tup_inv;refine .tup _ _ (by simpa using hl) fun i hi=>?_;have e:∀ cs:List AV,(cs.map (AV.vw1 h)).getD i .any=AV.vw1 h (cs.getD i .any):=fun cs=>getD_map (AV.vw1 h) cs i .any .any rfl;rw [e];exact (hgs i (by simpa using hi)).vw1 r
 ·exact hg.vw r
theorem bH.frz {f:FuncId} {args:List AV} {h0 h1:List (Nat×AO)} {v u:AV} (h:bH P f args h0 fun r h'=>r=v∧h'=h1) (hu:AV.vwT h1 v=u):bH P f args h0 fun r h'=>r=u∧h'=[]:=by subst hu;intro c vs hl hr hg;refine (h c vs hl hr hg).mono fun e w' ⟨V,v',h',β',κ',e1,⟨e2,e3⟩,hr',hG⟩=>?_;subst e2;subst e3;refine ⟨V,_,[],β',κ',e1,⟨rfl,rfl⟩,eN.nilA hr'.kp hr'.fix,.d ((hG.vwT hr').mono (fun _ _ _=>rfl) fun b hb _ hb2=>hb (hb2.resolve_right fun ⟨_,h,_⟩=>l6 h))⟩
end
section
variable {P:Program} {Q:Exit→AS→Prop} {c:Code} {fs:List Fr} {s:AS}
def SU:Oper×List Oper×Code:=(⟨none,.panic (.const .nilIface),0, "", #[],none⟩,[],.skip)
def nx (c:Code):Oper×List Oper×Code:=(Eu c).getD SU
end
open Go.Proofs
theorem FW {w w':World} (h:dG (fun b=>b<w.heap.size) w w'):Below w.heap.size w w':=⟨h.os,h.tape,h.output,h.size,h.block⟩
theorem GC {P:Program} {f:FuncId} {args:List AV} {v:AV} (H:bp P f args v) (hv:v.fl=true) (w:World) (X:Nat→Prop) (hX:∀ b,X b→b<w.heap.size) (gp:∀ w',Below w.heap.size w w'→GP P w') (vs:List Value) (hl:vs.length=args.length)
 (hd:∀ i,i<args.length→D w X (args.getD i .any) (vs.getD i undef)):Calls P f vs.toArray w fun e w'=>∃ V,e = .returned V∧Below w.heap.size w w'∧D w' X v V:=by
 refine (H ⟨fun b=>b<w.heap.size,X,w,fun _=>0,fun _=>(0,0),fun b h=>h,hX,fun w' hk=>gp w' (FW hk)⟩ vs hl (eN.nil (dG.refl _ _)) fun i hi=>.d ((hd i hi).mono (fun _ _ _=>rfl) (fun b hb _ hb'=>hb (hb'.resolve_right (fun ⟨_,h,_⟩=>l6 h))))).mono ?_;rintro e w' ⟨V,v',h',β',κ',e1,⟨rfl,rfl⟩,hr,hG⟩;exact ⟨V,e1,FW hr.kp,(hG.toD hv).mono (fun _ _ _=>rfl) (fun b hb _ hb'=>hb (.inl hb'))⟩
theorem Pg {P:Program} {f:FuncId} {args:List AV} {v:AV} (hfl:AV.flL args=true)
 (h:∀ (w:World) (X:Nat→Prop) (vs:List Value),vs.length=args.length→(∀ b,X b→b<w.heap.size)→(∀ i,i<args.length→D w X (args.getD i .any) (vs.getD i undef))→(∀ w',Below w.heap.size w w'→GP P w')→Calls P f vs.toArray w fun e w'=>∃ V,e = .returned V∧Below w.heap.size w w'∧D w' X v V):bp P f args v:=by
 intro c vs hl hr hg;have hX:∀ b,c.XX [] c.β b→c.X b:=fun b hb=>hb.resolve_right fun ⟨k,hk,_⟩=>l6 hk;refine (h c.W c.X vs hl c.hX (fun i hi=>((hg i hi).toD (iX hi hfl)).mono (fun _ _ _=>rfl) (fun b hb _ hb'=>hb (.inl hb'))) (fun w' hb=>c.gp _ ⟨hb.os,hb.tape,hb.output,hb.size,fun b hb2=>hb.block b (c.hK b hb2)⟩)).mono fun e w' ⟨V,e1,hb,hd⟩=>?_;have hk:dG c.K c.W w':=⟨hb.os,hb.tape,hb.output,hb.size,fun b hb2=>hb.block b (c.hK b hb2)⟩;exact ⟨V,v,[],c.β,c.κ,e1,⟨rfl,rfl⟩,(eN.nil (hk)),.d (hd.mono (fun _ _ _=>rfl) (fun b hb2 _ hb3=>hb2 (hX b hb3)))⟩
theorem Jq {P:Program} {w:World} (base:Nat) (t ty e:TypeId) (i:TypeInfo) (z:Value) (size bytes:Nat) (ht:P.underlying t=some (.slice e)) (hi:P.info? e=some i) (hz:i.zero=some z)
 (hsize:i.size=size) (hby:i.bytes=bytes) (hzs:z.cells.size=size) (hsz:0<size)
 (v:Value) (n:Nat) (xs:List Value) (hown:w.ownsRow base e size v n xs)
 (a:Addr) (m c:Nat) (news:List Value) (hl:news.length=m*size) (hnews:∀ j u,news[j]? = some u→w.cell? (a.add j)=some u) (h1:∀ u∈news,u.oneCell'=true) (hm:0<m)
 (h63:n+m≤maxLen) (hbytes:(n+m)*bytes≤140737488355328) (hbase:base≤w.heap.size) :
 ∃ v' w',(Builtin.append_ #[t,t] ty #[v,.slice (some a) m c]).run P w = .ok v' w'∧w'.ownsRow base e size v' (n+m) (xs++news)∧w.grownBy w' v.ownBlock ∧
  ∀ g,v'.ownBlock=some g→v.ownBlock=some g∨w.heap.size≤g:=by
 obtain ⟨v',w',hr,h2,h3,_⟩:=run_append_own (P:=P) w base t ty e i z size bytes ht hi hz hsize hby hzs hsz v n xs hown a m c news hl hnews h1 h63 hbytes hbase;refine ⟨v',w',hr,h2,h3,fun g hg=>?_⟩;have hsmall:n+m≤9223372036854775807:=by simp only [maxLen] at h63;omega
 rcases hown.2 with ⟨rfl,rfl⟩ | ⟨b,cap,cur,rfl,hbg,hb,hnc,hcm,hcs,htake⟩
 ·have hx:xs=[]:=List.eq_nil_of_length_eq_zero (by simpa using hown.1);subst hx;obtain ⟨v2,w2,hr2,k2,_,_⟩:=run_append_own (P:=P) w w.heap.size t ty e i z size bytes ht hi hz hsize hby hzs hsz (.slice none 0 0) 0 [] (World.ownsRow_nil w _ e size) a m c news hl hnews h1 h63 hbytes (Nat.le_refl _);rw [hr] at hr2;cases hr2;rcases k2.2 with ⟨rfl,h0⟩ | ⟨b,cap,cur,rfl,hbg,_⟩
  ·omega
  ·cases hg;exact .inr hbg
 ·subst hsize;by_cases hroom:n+m≤cap
  ·have hr2:=run_append_room (P:=P) w t ty e i ht hi b n cap cur hb a m c news hl hnews h1 hroom (by rw [hl,hcs,← Nat.add_mul];exact Nat.mul_le_mul_right _ hroom);rw [hr] at hr2;cases hr2;exact .inl hg
  ·have holds:∀ j u,xs[j]? = some u→w.cell? ((⟨b,0,none⟩:Addr).add j)=some u:=hown.cells (g:=b) rfl;have hr2:=run_append_grow (P:=P) w t ty e i z ht hi hz ⟨b,0,none⟩ n cap xs hown.1 holds a m c news hl hnews (by omega) (by omega) (growslice_fits (by omega) (by rw [hby];exact hbytes));rw [hr] at hr2;cases hr2;cases hg;exact .inr (Nat.le_refl _)
theorem Bx {F:Fence} {n:Nat} {P:Program} (w:World) {ops:Array Oper} {rest:List Oper} {o:Oper} {a:Act} {Q:Exit→Act→World→Prop}
 (hg:o.guard=none) (s x:Operand) (t:TypeId) (hop:o.op=Op.call { callee:=Callee.builtin Builtin.append,args := #[s,x],argTypes := #[t,t] })
 (base:Nat) (e:TypeId) (i:TypeInfo) (z:Value) (size bytes:Nat) (h1:P.underlying t=some (.slice e)) (h2:P.info? e=some i) (h3:i.zero=some z) (h4:i.size=size) (h5:i.bytes=bytes) (h6:z.cells.size=size) (h7:0<size)
 (v:Value) (k:Nat) (xs:List Value) (hs:a.eval s=v) (hown:w.ownsRow base e size v k xs) (ad:Addr) (m c:Nat) (news:List Value) (hx:a.eval x = .slice (some ad) m c) (hn:news.length=m*size)
 (hc:∀ j u,news[j]? = some u→w.cell? (ad.add j)=some u) (h1c:∀ u∈news,u.oneCell'=true) (hm:0<m) (b1:k+m≤maxLen) (b2:(k+m)*bytes≤140737488355328) (b3:base≤w.heap.size)
 (hK:∀ v' w',w'.ownsRow base e size v' (k+m) (xs++news)→w.grownBy w' v.ownBlock→(∀ g,v'.ownBlock=some g→v.ownBlock=some g∨w.heap.size≤g)→wpListIn F n P ops Q rest (a.put o.dst v') w') :
 wpListIn F n P ops Q (o::rest) a w:=by
 refine wpListIn_plain hg fun K hK'=>?_;obtain ⟨v',w',hrun,r1,r2,r3⟩:=Jq (P:=P) (w:=w) base t o.type e i z size bytes h1 h2 h3 h4 h5 h6 h7 v k xs hown ad m c news hn hc h1c hm b1 b2 b3;unfold Oper.wpIn;refine ⟨by simp [Oper.about,hop,resolve,Target.leads,Sem.run_pure],?_⟩;rw [Oper.semAt_plain F _ _ (by rw [hop];intro c hc';cases hc')];simp [execOp,hop,resolve,invoke,builtin,hs,hx,hrun,Result.andThen];exact hK' _ _ (hK v' w' r1 r2 r3)
theorem Ss {P:Program} {m:Nat} {g:Operand} {ps:Array Tmp} {assign body:Code} {Q:Exit→Act→World→Prop} {a:Act} {w:World} {gf:Nat} {lb:Array Value} (hg:a.eval g = .func (.func gf) #[] lb)
 (eg:∀ args w,(callFunc gf args).run P w = .ok (.enter gf args) w)
 (h:∀ r:Loop,r.state = .ready→r.pending=none→r.tmps=a.tmps→r.params=ps→r.assign=assign→r.body=body→CallsIn Fence.wide (m-1) P gf (#[.func (.yield (w.heap.size+1)) #[] #[]]++lb) ((w.alloc (.deferred (some []))).alloc (.loop r)) fun e W =>
  (∃ v,e = .returned v)∧W.heap[w.heap.size+1]? = some (.loop r)∧∀ o,Q .normal { a with defers:={ target:=.collected w.heap.size,args := #[] }::a.defers } (W.putObj (w.heap.size+1) o)) :
 (Code.rangeFunc g ps assign body).wpIn Fence.wide m P Q a w:=by
 refine wpIn_rangeFunc fun fn _=>?_;obtain ⟨W1,hW1⟩:∃ W1,(w.alloc (.deferred (some []))).alloc (.loop { state:=.ready,pending:=none,fn:=fn,tmps:=a.tmps,params:=ps,assign:=assign,body:=body,defers:=w.heap.size })=W1:=⟨_,rfl⟩;have hE:=run_enterLoop_outer (P:=P) (w:=w) fn a.tmps ps assign body;have hC:=h { state:=.ready,pending:=none,fn:=fn,tmps:=a.tmps,params:=ps,assign:=assign,body:=body,defers:=w.heap.size } rfl rfl rfl rfl rfl rfl;rw [hW1] at hE hC;refine ⟨w.heap.size+1,[{ target:=.collected w.heap.size,args := #[] }],W1,{ target:=.fn (.func gf) lb,args := #[.func (.yield (w.heap.size+1)) #[] #[]] },W1,gf,#[.func (.yield (w.heap.size+1)) #[] #[]]++lb,W1,hE,?_,?_,?_,?_,?_⟩
 ·simp only [resolve,hg];simp [go_sem]
 ·exact fun _ _=>trivial
 ·simp [invoke,go_sem,eg]
 ·intro h;cases h
 ·refine hC.mono ?_;rintro e W ⟨⟨v,rfl⟩,hl,hq⟩;have hr:=run_endLoop (P:=P) hl (by simp);exact ⟨none,_,hr,hq _⟩
theorem O7 {P:Program} {m l:Nat} {r:Loop} {args tm:Array Value} {ps:Array Tmp} {asg bd:Code} {W:World} {R:World→Prop} (hl:W.heap[l]? = some (.loop r)) (hr:r.state = .ready) (hp:r.pending=none)
 (h3:r.tmps=tm) (h4:r.params=ps) (h5:r.assign=asg) (h6:r.body=bd) (hs:args.size=ps.size)
 (h:asg.wpIn (Fence.wide.inRound l) m P (Exit.then (fun a1 w1=>w1.heap[l]? = some (.loop r)∧bd.wpIn (Fence.wide.inRound l) m P (fun e _ W3=>e = .normal∧W3.heap[l]? = some (.loop { r with state:=.busy })∧R (W3.putObj l (.loop r))) a1 (w1.putObj l (.loop { r with state:=.busy }))) (fun _ _ _=>False))
  { tmps:=(ps.zip args).foldl (fun tmps (t,a)=>tmps.setIfInBounds t a) tm,defers:=[] } W) :
 YieldAt Fence.wide m P l args W fun e W'=>e = .returned (.bool true)∧R W':=by
 subst h3 h4 h5 h6;refine ⟨_,_,_,_,run_yield hl hs,roundIn_of_wpIn trivial (wpIn_mono h ?_)⟩;rintro e a1 w1 hp1;cases e with
 | normal =>
  obtain ⟨hl1,hb⟩:=hp1;refine ⟨_,run_beginRound hl1 hr,wpIn_mono hb ?_⟩;rintro e a3 W3 ⟨rfl,hl3,hR⟩;refine ⟨_,_,run_endRound none hl3,?_⟩;refine ⟨by simp,?_⟩;have e5:(Obj.loop { ({ r with state:=.busy }:Loop) with state:=if (none:Option Code).isNone then .ready else .done,pending:=none }) = .loop r:=by cases r;simp at hr hp ⊢;exact ⟨hr.symm,hp.symm⟩
  rw [e5];exact hR
 | _=>exact hp1.elim
end Go.Ab
namespace Go.Proofs.YtkibeldbfkainaaGreatDoor
open Go.RowKit Go.Ab Go.Sh Go.Shelf Go.Proofs
theorem WE {P:Program} {m id:Nat} {g:Operand} {ps:_root_.Array Tmp} {assign body:Code} {Q:Exit→Act→World→Prop} {a:Act} {w:World} {gf:Nat} {lb:_root_.Array Go.Value} (hg:a.eval g = .func (.func gf) #[] lb)
 (eg:∀ args w,(callFunc gf args).run P w = .ok (.enter gf args) w)
 (h:∀ r:Loop,r.state = .ready→r.pending=none→r.tmps=a.tmps→r.params=ps→r.assign=assign→r.body=body→CallsIn Fence.wide (m-1) P gf (#[.func (.yield (w.heap.size+1)) #[] #[]]++lb) ((w.alloc (.deferred (some []))).alloc (.loop r)) fun e W =>
  (∃ v,e = .returned v)∧W.heap[w.heap.size+1]? = some (.loop { r with state:=.done,pending:=some (.exit id) })∧∀ o,Q (.exit id) { a with defers:={ target:=.collected w.heap.size,args := #[] }::a.defers } (W.putObj (w.heap.size+1) o)) :
 (Code.rangeFunc g ps assign body).wpIn Fence.wide m P Q a w:=by
 refine wpIn_rangeFunc fun fn _=>?_;obtain ⟨W1,hW1⟩:∃ W1,(w.alloc (.deferred (some []))).alloc (.loop { state:=.ready,pending:=none,fn:=fn,tmps:=a.tmps,params:=ps,assign:=assign,body:=body,defers:=w.heap.size })=W1:=⟨_,rfl⟩;have hE:=run_enterLoop_outer (P:=P) (w:=w) fn a.tmps ps assign body;have hC:=h { state:=.ready,pending:=none,fn:=fn,tmps:=a.tmps,params:=ps,assign:=assign,body:=body,defers:=w.heap.size } rfl rfl rfl rfl rfl rfl;rw [hW1] at hE hC;refine ⟨w.heap.size+1,[{ target:=.collected w.heap.size,args := #[] }],W1,{ target:=.fn (.func gf) lb,args := #[.func (.yield (w.heap.size+1)) #[] #[]] },W1,gf,#[.func (.yield (w.heap.size+1)) #[] #[]]++lb,W1,hE,?_,?_,?_,?_,?_⟩
 ·simp only [resolve,hg];simp [go_sem]
 ·exact fun _ _=>trivial
 ·simp [invoke,go_sem,eg]
 ·intro h;cases h
 ·refine hC.mono ?_;rintro e W ⟨⟨v,rfl⟩,hl,hq⟩;have hr:=run_endLoop (P:=P) hl (by simp);exact ⟨some (.exit id),_,hr,wpIn_exit (hq _)⟩
theorem Wb {P:Program} {m l id:Nat} {r:Loop} {args tm:_root_.Array Go.Value} {ps:_root_.Array Tmp} {asg bd:Code} {W:World} {R:World→Prop} (hl:W.heap[l]? = some (.loop r)) (hr:r.state = .ready)
 (h3:r.tmps=tm) (h4:r.params=ps) (h5:r.assign=asg) (h6:r.body=bd) (hs:args.size=ps.size)
 (h:asg.wpIn (Fence.wide.inRound l) m P (Exit.then (fun a1 w1=>w1.heap[l]? = some (.loop r)∧bd.wpIn (Fence.wide.inRound l) m P (fun e _ W3=>e = .exit id∧W3.heap[l]? = some (.loop { r with state:=.busy })∧R (W3.putObj l (.loop { r with state:=.done,pending:=some (.exit id) }))) a1 (w1.putObj l (.loop { r with state:=.busy }))) (fun _ _ _=>False))
  { tmps:=(ps.zip args).foldl (fun tmps (t,a)=>tmps.setIfInBounds t a) tm,defers:=[] } W) :
 YieldAt Fence.wide m P l args W fun e W'=>e = .returned (.bool false)∧R W':=by
 subst h3 h4 h5 h6;refine ⟨_,_,_,_,run_yield hl hs,roundIn_of_wpIn trivial (wpIn_mono h ?_)⟩;rintro e a1 w1 hp1;cases e with
 | normal =>
  obtain ⟨hl1,hb⟩:=hp1;refine ⟨_,run_beginRound hl1 hr,wpIn_mono hb ?_⟩;rintro e a3 W3 ⟨rfl,hl3,hR⟩;exact ⟨_,_,run_endRound (some (.exit id)) hl3,by simp,hR⟩
 | _=>exact hp1.elim
attribute [local go_sem] Oper.semAt_some
set_option maxHeartbeats 1000000 in
theorem U8 (m:Nat) (c0 c1 c2 c3 c4:Go.Value) (a:Option Addr) (n c:Nat) (w:World) :
 CallsIn Fence.wide m Tryz.prog 23 #[.agg #[c0,c1,c2,c3,c4],.slice a n c] w fun e w'=>e = .returned (.func (.func 32) #[] #[.pointer (some ⟨w.heap.size,0,none⟩),.pointer (some ⟨w.heap.size+1,0,none⟩)])∧w'=(w.alloc (.cells #[c0,c1,c2,c3,c4] 36)).alloc (.cells #[.slice a n c] 37):=by
 refine callsIn_of_wp Tryz.func23 rfl trivial ?_ rfl;simp only [Tryz.ntmps23,List.size_toArray,List.length_cons,List.length_nil,Nat.reduceAdd,Nat.reduceSub,Array.replicate_succ,Array.replicate_zero,List.push_toArray,List.append_toArray,List.nil_append,List.cons_append]
 gi_wp2
 go_ret
 exact ⟨rfl,rfl⟩
attribute [local go_sem] Oper.semAt_some
theorem Wl {w:World} {X:Nat→Prop} {a b:AV} {V:Go.Value} (h:D w X (.tup [a,b]) V):∃ x y,V = .tuple #[x,y]∧D w X a x∧D w X b y:=by
 cases h with
 | tup cs vs hl hd =>
  obtain ⟨l⟩:=vs;match l,hl,hd with
  | [x,y],_,hd=>exact ⟨x,y,rfl,hd 0 (by simp),hd 1 (by simp)⟩
theorem PL {w:World} {X:Nat→Prop} {k:IntKind} {n:Int} {V:Go.Value} (h:D w X (.int k n) V):V = .int k n:=by cases h;rfl
theorem oa {w:World} {X:Nat→Prop} {xs:List (List AV)} {V:Go.Value} (h:D w X (.dslice xs) V):∃ a n c,V = .slice a n c:=by
 cases h with
 | dnil a c _=>exact ⟨_,_,_,rfl⟩
 | dslice _ b o c sz cv=>exact ⟨_,_,_,rfl⟩
def Vc (V:Go.Value):Prop:=∃ a0 n0 k0 a1 n1 k1 a2 n2 k2 a3 n3 k3 a4 n4 k4,V = .agg #[.slice a0 n0 k0,.slice a1 n1 k1,.slice a2 n2 k2,.slice a3 n3 k3,.slice a4 n4 k4]
theorem T9 {w:World} {X:Nat→Prop} {x0 x1 x2 x3 x4:List (List AV)} {V:Go.Value} (h:D w X (.agg [.dslice x0,.dslice x1,.dslice x2,.dslice x3,.dslice x4]) V):Vc V:=by
 cases h with
 | agg cs vs hlen hd =>
  obtain ⟨l⟩:=vs;match l,hlen with
  | [a,b,c,d,e],_ =>
   obtain ⟨a0,n0,k0,e0⟩:=oa (show D w X (.dslice x0) a from hd 0 (by simp));obtain ⟨a1,n1,k1,e1⟩:=oa (show D w X (.dslice x1) b from hd 1 (by simp));obtain ⟨a2,n2,k2,e2⟩:=oa (show D w X (.dslice x2) c from hd 2 (by simp));obtain ⟨a3,n3,k3,e3⟩:=oa (show D w X (.dslice x3) d from hd 3 (by simp));obtain ⟨a4,n4,k4,e4⟩:=oa (show D w X (.dslice x4) e from hd 4 (by simp));subst e0 e1 e2 e3 e4;exact ⟨_,_,_,_,_,_,_,_,_,_,_,_,_,_,_,rfl⟩
set_option maxRecDepth 100000 in
set_option maxHeartbeats 4000000 in
theorem Wk (fl rw y:List AV) (e1:Int) (he:e1≠0) (hyo:∀ {W X V},D W X (.agg y) V→Vc V) (hyf:AV.fl (.tup [.agg y,.int .i64 e1])=true)
 (HA:bp Tryz.prog 33 [.agg fl,.agg rw] (.tup [.agg y,.int .i64 e1]))
 (l b0 m:Nat) (c0 c1 c2 c3 c4:Go.Value) (i0 i1 i2:Int) (pb po n c:Nat) (hn:0<n) (W:World) (J1 J2:World→Prop)
 (h0:W.cell? ⟨b0,0,none⟩=some c0) (h1:W.cell? ⟨b0,1,none⟩=some c1) (h2:W.cell? ⟨b0,2,none⟩=some c2) (h3:W.cell? ⟨b0,3,none⟩=some c3) (h4:W.cell? ⟨b0,4,none⟩=some c4)
 (hY:YieldAt Fence.wide (m-1) Tryz.prog l #[.agg #[c0,c1,c2,c3,c4],.int .i64 0] W fun e W1=>e = .returned (.bool true)∧J1 W1)
 (hJ:∀ W1,J1 W1→(W1.cell? ⟨b0,0,none⟩=some c0∧W1.cell? ⟨b0,1,none⟩=some c1∧W1.cell? ⟨b0,2,none⟩=some c2∧W1.cell? ⟨b0,3,none⟩=some c3∧W1.cell? ⟨b0,4,none⟩=some c4) ∧
  W1.cell? ⟨b0+1,0,none⟩=some (.slice (some ⟨pb,po,none⟩) n c)∧(W1.cell? ⟨pb,po,none⟩=some (.int .i64 i0)∧W1.cell? ⟨pb,po+1,none⟩=some (.int .i64 i1)∧W1.cell? ⟨pb,po+2,none⟩=some (.int .i64 i2)) ∧
  (∀ w',Below W1.heap.size W1 w'→GP Tryz.prog w')∧∃ X:Nat→Prop,(∀ b,X b→b<W1.heap.size)∧D W1 X (.agg fl) (.agg #[c0,c1,c2,c3,c4])∧D W1 X (.agg rw) (.agg #[.int .i64 i0,.int .i64 i1,.int .i64 i2]) ∧
  ∀ V W2,Below W1.heap.size W1 W2→Vc V→YieldAt Fence.wide (m-1) Tryz.prog l #[V,.int .i64 e1] W2 fun e W3=>e = .returned (.bool false)∧J2 W3) :
 CallsIn Fence.wide m Tryz.prog 32 #[.func (.yield l) #[] #[],.pointer (some ⟨b0,0,none⟩),.pointer (some ⟨b0+1,0,none⟩)] W fun e W'=>(∃ v,e = .returned v)∧J2 W':=by
 refine callsIn_of_wp Tryz.func32 rfl trivial ?_ rfl;simp only [Tryz.ntmps32,List.size_toArray,List.length_cons,List.length_nil,Nat.reduceAdd,Nat.reduceSub,Array.replicate_succ,Array.replicate_zero,List.push_toArray,List.append_toArray,List.nil_append,List.cons_append];obtain ⟨fn,tmps,assign,body,hyr,hR⟩:=hY
 gi_wp2
 refine ⟨(fun h=>by cases h),?_⟩;refine hR.mono ?_;rintro e W1 ⟨rfl,hJ1⟩;obtain ⟨⟨g0,g1,g2,g3,g4⟩,gp,⟨q0,q1,q2⟩,hgp,X,hX,dF,dR,hY2⟩:=hJ W1 hJ1;clear hJ hJ1 hyr hR h0 h1 h2 h3 h4
 gi_wp2
 gi_loopw [14] (fun p wr=>p = .int .i64 0∧wr=W1) (fun p wr=>0)
 case atStart=>exact ⟨rfl,rfl⟩
 case round =>
  obtain ⟨rfl,rfl⟩:=hrel;have hlt:decide ((0:Int)<(n:Int))=true:=by simp;omega
  obtain ⟨w2,hw2⟩:∃ w2,wr.alloc (Obj.cells #[Value.int .i64 i0,Value.int .i64 i1,Value.int .i64 i2] 23)=w2:=⟨_,rfl⟩;have hB2:Below wr.heap.size wr w2:=by rw [← hw2];exact (Below.refl _ wr).alloc (Nat.le_refl _) _
  have g0':w2.cell? ⟨b0,0,none⟩=some c0:=(hB2.cell (p:=⟨b0,0,none⟩) (World.block_lt_of_cell? wr _ g0)).trans g0;have g1':w2.cell? ⟨b0,1,none⟩=some c1:=(hB2.cell (p:=⟨b0,1,none⟩) (World.block_lt_of_cell? wr _ g1)).trans g1;have g2':w2.cell? ⟨b0,2,none⟩=some c2:=(hB2.cell (p:=⟨b0,2,none⟩) (World.block_lt_of_cell? wr _ g2)).trans g2;have g3':w2.cell? ⟨b0,3,none⟩=some c3:=(hB2.cell (p:=⟨b0,3,none⟩) (World.block_lt_of_cell? wr _ g3)).trans g3;have g4':w2.cell? ⟨b0,4,none⟩=some c4:=(hB2.cell (p:=⟨b0,4,none⟩) (World.block_lt_of_cell? wr _ g4)).trans g4;have hs2:w2.heap.size=wr.heap.size+1:=by rw [← hw2,World.size_alloc]
  have x2:w2.heap[wr.heap.size]? = some (.cells #[Value.int .i64 i0,Value.int .i64 i1,Value.int .i64 i2] 23 (0,0)):=by rw [← hw2];exact World.alloc_heap_new wr _
  have t0:w2.cell? ⟨wr.heap.size,0,none⟩=some (.int .i64 i0):=by simp [World.cell?,x2]
  have t1:w2.cell? ⟨wr.heap.size,1,none⟩=some (.int .i64 i1):=by simp [World.cell?,x2]
  have t2:w2.cell? ⟨wr.heap.size,2,none⟩=some (.int .i64 i2):=by simp [World.cell?,x2]
  have HW2:Hid (wr.alloc (Obj.cells #[Value.int .i64 i0,Value.int .i64 i1,Value.int .i64 i2] 23)=w2):=hw2;clear hw2
  gi_wp2_with (rw [HW2.out])
  refine ⟨trivial,(fun h=>by cases h),?_⟩;have hds:∀ i,i<[AV.agg fl,AV.agg rw].length→D w2 X ([AV.agg fl,AV.agg rw].getD i .any) ([Value.agg #[c0,c1,c2,c3,c4],Value.agg #[Value.int .i64 i0,Value.int .i64 i1,Value.int .i64 i2]].getD i undef):=fun i hi=>by
   match i,hi with
   | 0,_=>exact dF.mono (fun b _ hl=>hB2.block b hl) (fun b hb _=>hb)
   | 1,_=>exact dR.mono (fun b _ hl=>hB2.block b hl) (fun b hb _=>hb)
  refine (callsIn_wide.2 (GC HA hyf w2 X (fun b hb=>Nat.lt_of_lt_of_le (hX b hb) hB2.size) (fun w' hw'=>hgp w' (hB2.trans (hw'.mono hB2.size))) [Value.agg #[c0,c1,c2,c3,c4],Value.agg #[Value.int .i64 i0,Value.int .i64 i1,Value.int .i64 i2]] rfl hds)).mono ?_;rintro e w3 ⟨V,rfl,hb3,hd3⟩;obtain ⟨V2,y2,rfl,hV,hy2⟩:=Wl hd3;cases PL hy2;have hFl:=hyo hV;obtain ⟨a0,n0,k0,a1,n1,k1,a2,n2,k2,a3,n3,k3,a4,n4,k4,rfl⟩:=hFl;have hB3:Below wr.heap.size wr w3:=hB2.trans (hb3.mono hB2.size);obtain ⟨fn2,tmps2,assign2,body2,hyr2,hR2⟩:=hY2 (.agg #[.slice a0 n0 k0,.slice a1 n1 k1,.slice a2 n2 k2,.slice a3 n3 k3,.slice a4 n4 k4]) (w3.alloc (.cells #[.slice a0 n0 k0,.slice a1 n1 k1,.slice a2 n2 k2,.slice a3 n3 k3,.slice a4 n4 k4] 36)) (hB3.alloc hB3.size _) ⟨_,_,_,_,_,_,_,_,_,_,_,_,_,_,_,rfl⟩;clear hY2 dF dR hgp hd3 hV hds g0 g1 g2 g3 g4 q0 q1 q2 gp g0' g1' g2' g3' g4' t0 t1 t2 HW2 x2
  gi_wp2
  refine ⟨(fun h=>by cases h),?_⟩;refine hR2.mono ?_;rintro e w4 ⟨rfl,hJ4⟩
  gi_wp2
  exact ⟨rfl,_,results_none rfl _ _ _,⟨_,rfl⟩,hJ4⟩
attribute [local go_sem] Oper.semAt_some
def Uq (Q:Exit→Act→World→Prop):Exit→Act→World→Prop
 | .normal,a,w=>Q .normal a w
 | .ret,a,w=>Q .ret a w
 | _,_,_=>False
theorem T0 {F:Fence} {n:Nat} {P:Program} {c:Code} {Q:Exit→Act→World→Prop} {a:Act} {w:World} (h:c.wpIn F n P (Uq Q) a w):(Code.scope c).wpIn F n P Q a w:=by
 intro b k cs hro hb hr;have h0:(lone (b.atR a (.code (.scope c)::k)) cs w).fenced P F:=fenced_calm hb hr rfl;have hs:step P (lone (b.atR a (.code (.scope c)::k)) cs w) = .next (lone (b.atR a (.code c :: .inScope c::k)) cs w):=step_lone_go (by simp [stepG,stepG.exec,Frame.atR])
 obtain ⟨e,a₁,w₁,hq,harr⟩:=h b (.inScope c::k) cs hro hb hr;have hs2:step P (lone (b.atR a₁ (.inScope c::k)) cs w₁) = .next (lone (b.atR a₁ k) cs w₁):=step_lone_go (by simp [stepG,stepG.exec,Frame.atR])
 cases e with
 | normal=>exact ⟨.normal,a₁,w₁,hq,.head h0 hs (StepsIn.trans harr (.one (fenced_calm hb hr rfl) hs2))⟩
 | ret=>exact ⟨.ret,a₁,w₁,hq,.of_steps (.one h0 hs) harr⟩
 | _=>exact hq.elim
theorem Wj {w:World} {X:Nat→Prop} {p:List (List AV)} {V:Go.Value} {i0 i1 i2:Int} (h:D w X (.dslice p) V) (hp:0<p.length) (h0:p.getD 0 []=[.int .i64 i0,.int .i64 i1,.int .i64 i2]) :
 ∃ b o c,V = .slice (some ⟨b,o,none⟩) p.length c∧¬ X b∧b<w.heap.size∧w.cell? ⟨b,o,none⟩=some (.int .i64 i0)∧w.cell? ⟨b,o+1,none⟩=some (.int .i64 i1)∧w.cell? ⟨b,o+2,none⟩=some (.int .i64 i2):=by
 cases h with
 | dnil a c _=>cases hp
 | dslice _ b o c sz cv h1 h2 h3 h4 h5 h6 h7 =>
  have hs:sz=3:=by have:=h5 0 hp;rw [h0] at this;simpa using this.symm
  subst hs;have q:∀ j,j<3→w.cell? ⟨b,o+j,none⟩=some (cv 0 j):=fun j hj=>by have:=h6 0 j hp hj;simpa using this
  have d:∀ j,j<3→D w X ((p.getD 0 []).getD j .any) (cv 0 j):=fun j hj=>h7 0 j hp hj;rw [h0] at d;have e0:=PL (show D w X (.int .i64 i0) (cv 0 0) from d 0 (by decide));have e1:=PL (show D w X (.int .i64 i1) (cv 0 1) from d 1 (by decide));have e2:=PL (show D w X (.int .i64 i2) (cv 0 2) from d 2 (by decide));have q0:=q 0 (by decide);have q1:=q 1 (by decide);have q2:=q 2 (by decide);rw [e0] at q0;rw [e1] at q1;rw [e2] at q2;exact ⟨b,o,c,rfl,h4,World.block_lt_of_cell? w _ q0,q0,q1,q2⟩
structure Wq (w0:World) (s0 b1:Nat) (c0 c1 c2 c3 c4 pv lv ev:Go.Value) (st:Loop) (W:World):Prop where
 lx:W.heap[s0+1]? = some (.cells #[lv] 48 (0,0))
 ex:W.heap[s0+1+1]? = some (.cells #[ev] 38 (0,0))
 fx:W.heap[b1]? = some (.cells #[c0,c1,c2,c3,c4] 36 (0,0))
 px:W.heap[b1+1]? = some (.cells #[pv] 37 (0,0))
 dx:W.heap[b1+2]? = some (.deferred (some []))
 rx:W.heap[b1+3]? = some (.loop st)
 bl:Below w0.heap.size w0 W
theorem Wq.below {w0:World} {s0 b1:Nat} {c0 c1 c2 c3 c4 pv lv ev:Go.Value} {st:Loop} {W W':World} (h:Wq w0 s0 b1 c0 c1 c2 c3 c4 pv lv ev st W) (hB:Below W.heap.size W W'):Wq w0 s0 b1 c0 c1 c2 c3 c4 pv lv ev st W':=by have lt:∀ {b:Nat} {o:Obj},W.heap[b]? = some o→b<W.heap.size:=fun h=>(Array.getElem?_eq_some_iff.1 h).1;exact ⟨(hB.block _ (lt h.lx)).trans h.lx,(hB.block _ (lt h.ex)).trans h.ex,(hB.block _ (lt h.fx)).trans h.fx,(hB.block _ (lt h.px)).trans h.px,(hB.block _ (lt h.dx)).trans h.dx,(hB.block _ (lt h.rx)).trans h.rx,h.bl.trans (hB.mono h.bl.size)⟩
theorem U7 (w:World) (a b c d e:Go.Value) (t:TypeId):∀ j u,[a,b,c,d,e][j]? = some u→(w.alloc (.cells #[a,b,c,d,e] t)).cell? ((⟨w.heap.size,0,none⟩:Addr).add j)=some u:=by
 intro j u h;have hx:=World.alloc_heap_new w (.cells #[a,b,c,d,e] t);have hj:(⟨w.heap.size,0,none⟩:Addr).add j=⟨w.heap.size,j,none⟩:=by simp only [Addr.add,Nat.zero_add];split<;>simp_all
 rw [hj];clear hj;generalize w.alloc (.cells #[a,b,c,d,e] t)=W at hx ⊢;match j,h with
 | 0,h=>cases h;simp [World.cell?,hx]
 | 1,h=>cases h;simp [World.cell?,hx]
 | 2,h=>cases h;simp [World.cell?,hx]
 | 3,h=>cases h;simp [World.cell?,hx]
 | 4,h=>cases h;simp [World.cell?,hx]
 | j+5,h=>simp at h
theorem VH:(Tryz.prog.info? 36).map (fun i=>(i.zero,i.size,i.bytes))=some (some (.agg #[.slice none 0 0,.slice none 0 0,.slice none 0 0,.slice none 0 0,.slice none 0 0]),5,120):=by kernel_rfl
set_option maxRecDepth 100000 in
set_option maxHeartbeats 4000000 in
theorem Wm (x0 x1 x2 x3 x4 p:List (List AV)) (y:List AV) (i0 i1 i2 e1:Int) (he:e1≠0) (hfl:AV.flL [.agg [.dslice x0,.dslice x1,.dslice x2,.dslice x3,.dslice x4],.dslice p]=true) (hp:0<p.length) (hp0:p.getD 0 []=[.int .i64 i0,.int .i64 i1,.int .i64 i2])
 (hyo:∀ {W X V},D W X (.agg y) V→Vc V) (hyf:AV.fl (.tup [.agg y,.int .i64 e1])=true)
 (HR:bp Tryz.prog 22 [.agg [.dslice x0,.dslice x1,.dslice x2,.dslice x3,.dslice x4],.dslice p] (.int .i64 0))
 (HA:bp Tryz.prog 33 [.agg [.dslice x0,.dslice x1,.dslice x2,.dslice x3,.dslice x4],.agg [.int .i64 i0,.int .i64 i1,.int .i64 i2]] (.tup [.agg y,.int .i64 e1])) :
 bp Tryz.prog 13 [.agg [.dslice x0,.dslice x1,.dslice x2,.dslice x3,.dslice x4],.dslice p] (.tup [.dslice [],.int .i64 0,.int .i64 e1]):=by
 refine Pg hfl fun w X vs hl hX hd gp=>?_;obtain ⟨VF,VP,rfl⟩:∃ VF VP,vs=[VF,VP]:=by
  match vs,hl with
  | [a,b],_=>exact ⟨a,b,rfl⟩
 have dF:D w X (.agg [.dslice x0,.dslice x1,.dslice x2,.dslice x3,.dslice x4]) VF:=hd 0 (by simp);have dP:D w X (.dslice p) VP:=hd 1 (by simp);obtain ⟨a0,n0,k0,a1,n1,k1,a2,n2,k2,a3,n3,k3,a4,n4,k4,rfl⟩:=T9 dF;obtain ⟨pb,po,pc,rfl,hpX,hpl,q0,q1,q2⟩:=Wj dP hp hp0;obtain ⟨N,hN⟩:∃ N,p.length=N:=⟨_,rfl⟩;rw [hN] at hd dP ⊢;have hN0:0<N:=by omega
 obtain ⟨iF,hi,hz0,hz1,hz2⟩:=info_parts VH;suffices key:∀ m:Nat,CallsIn Fence.wide m Tryz.prog 13 #[.agg #[.slice a0 n0 k0,.slice a1 n1 k1,.slice a2 n2 k2,.slice a3 n3 k3,.slice a4 n4 k4],.slice (some ⟨pb,po,none⟩) N pc] w _ from callsIn_wide.1 (key 0)
 intro m;refine callsIn_of_wp_marks Tryz.func13 rfl trivial ?_ rfl;simp only [Tryz.ntmps13,List.size_toArray,List.length_cons,List.length_nil,Nat.reduceAdd,Nat.reduceSub,Array.replicate_succ,Array.replicate_zero,List.push_toArray,List.append_toArray,List.nil_append,List.cons_append]
 gi_wp2
 refine T0 ?_
 gi_wp2
 obtain ⟨wA,hwA⟩:∃ wA,((w.alloc (Obj.cells #[.slice a0 n0 k0,.slice a1 n1 k1,.slice a2 n2 k2,.slice a3 n3 k3,.slice a4 n4 k4] 36)).alloc (Obj.cells #[.slice none 0 0] 48)).alloc (Obj.cells #[.int .i64 0] 38)=wA:=⟨_,rfl⟩;obtain ⟨s0,hs0⟩:∃ s0,s0=w.heap.size:=⟨_,rfl⟩;have BA:Below w.heap.size w wA:=by rw [← hwA];exact (((Below.refl _ w).alloc (Nat.le_refl _) _).alloc (by simp) _).alloc (by simp;omega) _
 have sA:wA.heap.size=s0+1+1+1:=by rw [← hwA,World.size_alloc,World.size_alloc,World.size_alloc,hs0]
 have xA0:wA.heap[s0]? = some (.cells #[.slice a0 n0 k0,.slice a1 n1 k1,.slice a2 n2 k2,.slice a3 n3 k3,.slice a4 n4 k4] 36 (0,0)):=by rw [← hwA,hs0];exact (Below.heap_alloc _ _ _ (by simp;omega)).trans ((Below.heap_alloc _ _ _ (by simp)).trans (World.alloc_heap_new w _))
 have xA1:wA.heap[s0+1]? = some (.cells #[.slice none 0 0] 48 (0,0)):=by rw [← hwA,hs0];refine (Below.heap_alloc _ _ _ (by simp)).trans ?_;have:=World.alloc_heap_new (w.alloc (Obj.cells #[.slice a0 n0 k0,.slice a1 n1 k1,.slice a2 n2 k2,.slice a3 n3 k3,.slice a4 n4 k4] 36)) (Obj.cells #[.slice none 0 0] 48);rwa [World.size_alloc] at this
 have xA2:wA.heap[s0+1+1]? = some (.cells #[.int .i64 0] 38 (0,0)):=by rw [← hwA,hs0];have:=World.alloc_heap_new ((w.alloc (Obj.cells #[.slice a0 n0 k0,.slice a1 n1 k1,.slice a2 n2 k2,.slice a3 n3 k3,.slice a4 n4 k4] 36)).alloc (Obj.cells #[.slice none 0 0] 48)) (Obj.cells #[.int .i64 0] 38);rwa [World.size_alloc,World.size_alloc] at this
 rw [hwA,← hs0];clear hwA;refine ⟨trivial,(fun h=>by cases h),?_⟩;refine (callsIn_wide.2 (GC HR rfl wA X (fun b hb=>Nat.lt_of_lt_of_le (hX b hb) BA.size) (fun w' hw'=>gp w' (BA.trans (hw'.mono BA.size))) [.agg #[.slice a0 n0 k0,.slice a1 n1 k1,.slice a2 n2 k2,.slice a3 n3 k3,.slice a4 n4 k4],.slice (some ⟨pb,po,none⟩) N pc] rfl (fun i hi=>(hd i hi).mono (fun b _ hl=>BA.block b hl) (fun b hb _=>hb)))).mono ?_;rintro e wB ⟨V,rfl,hbB,hdB⟩;cases PL hdB;have BB:Below w.heap.size w wB:=BA.trans (hbB.mono BA.size);have xB0:=(hbB.block _ (by omega)).trans xA0;have xB1:=(hbB.block _ (by omega)).trans xA1;have xB2:=(hbB.block _ (by omega)).trans xA2;have zB:=hbB.size;have y0:wB.cell? ⟨s0,0,none⟩=some (.slice a0 n0 k0):=by simp [World.cell?,xB0]
 have y1:wB.cell? ⟨s0,1,none⟩=some (.slice a1 n1 k1):=by simp [World.cell?,xB0]
 have y2:wB.cell? ⟨s0,2,none⟩=some (.slice a2 n2 k2):=by simp [World.cell?,xB0]
 have y3:wB.cell? ⟨s0,3,none⟩=some (.slice a3 n3 k3):=by simp [World.cell?,xB0]
 have y4:wB.cell? ⟨s0,4,none⟩=some (.slice a4 n4 k4):=by simp [World.cell?,xB0]
 have hws:w.heap.size≤s0:=by omega
 clear xA0 xA1 xA2 hbB hdB hd hs0
 gi_wp2
 refine wpIn_label ?_
 gi_wp2
 refine ⟨trivial,(fun h=>by cases h),?_⟩;refine (U8 _ _ _ _ _ _ _ _ _ _).mono ?_;rintro e wC ⟨rfl,rfl⟩
 gi_wp2
 clear y0 y1 y2 y3 y4;obtain ⟨b1,hb1⟩:∃ b1,b1=wB.heap.size:=⟨_,rfl⟩;obtain ⟨w3,hw3⟩:∃ w3,(wB.alloc (Obj.cells #[.slice a0 n0 k0,.slice a1 n1 k1,.slice a2 n2 k2,.slice a3 n3 k3,.slice a4 n4 k4] 36)).alloc (Obj.cells #[.slice (some ⟨pb,po,none⟩) N pc] 37)=w3:=⟨_,rfl⟩;have s3:w3.heap.size=b1+2:=by rw [← hw3,World.size_alloc,World.size_alloc,hb1]
 have BC:Below wB.heap.size wB w3:=by rw [← hw3];exact ((Below.refl _ wB).alloc (Nat.le_refl _) _).alloc (by simp) _
 have z0:w3.heap[b1]? = some (.cells #[.slice a0 n0 k0,.slice a1 n1 k1,.slice a2 n2 k2,.slice a3 n3 k3,.slice a4 n4 k4] 36 (0,0)):=by rw [← hw3,hb1];exact (Below.heap_alloc _ _ _ (by simp)).trans (World.alloc_heap_new wB _)
 have z1:w3.heap[b1+1]? = some (.cells #[.slice (some ⟨pb,po,none⟩) N pc] 37 (0,0)):=by rw [← hw3,hb1];have:=World.alloc_heap_new (wB.alloc (Obj.cells #[.slice a0 n0 k0,.slice a1 n1 k1,.slice a2 n2 k2,.slice a3 n3 k3,.slice a4 n4 k4] 36)) (Obj.cells #[.slice (some ⟨pb,po,none⟩) N pc] 37);rwa [World.size_alloc] at this
 have z2:=(BC.block _ (by omega)).trans xB1;have z3:=(BC.block _ (by omega)).trans xB2;have B3:Below w.heap.size w w3:=BB.trans (BC.mono BB.size);rw [hw3,← hb1];have hsb:s0+1+1<b1:=by omega
 clear hw3 hb1 xB0 xB1 xB2 BC;refine WE (id:=0) (gf:=32) (lb := #[.pointer (some ⟨b1,0,none⟩),.pointer (some ⟨b1+1,0,none⟩)]) rfl (enters_of Tryz.func32 (by kernel_rfl) rfl) fun r hr1 hr2 hr3 hr4 hr5 hr6=>?_;obtain ⟨W1,hW1⟩:∃ W1,(w3.alloc (.deferred (some []))).alloc (.loop r)=W1:=⟨_,rfl⟩;have l1:W1.heap[b1+3]? = some (.loop r):=by rw [← hW1];have:=World.alloc_heap_new (w3.alloc (.deferred (some []))) (.loop r);rwa [World.size_alloc,s3] at this
 have l2:W1.heap[b1+2]? = some (.deferred (some [])):=by
  rw [← hW1];have:=World.alloc_heap_new w3 (.deferred (some []));rw [s3] at this
  exact (Below.heap_alloc _ _ _ (by simp;omega)).trans this
 have B4:Below w3.heap.size w3 W1:=by rw [← hW1];exact ((Below.refl _ w3).alloc (Nat.le_refl _) _).alloc (by simp) _
 have J0:Wq w s0 b1 (.slice a0 n0 k0) (.slice a1 n1 k1) (.slice a2 n2 k2) (.slice a3 n3 k3) (.slice a4 n4 k4) (.slice (some ⟨pb,po,none⟩) N pc) (.slice none 0 0) (.int .i64 0) r W1 :=
  ⟨(B4.block _ (by omega)).trans z2,(B4.block _ (by omega)).trans z3,(B4.block _ (by omega)).trans z0,(B4.block _ (by omega)).trans z1,l2,l1,B3.trans (B4.mono B3.size)⟩
 rw [hW1,s3];clear hW1 l1 l2 B4 z0 z1 z2 z3 B3 s3 BB zB sA BA;have hY:YieldAt Fence.wide (m-1-1) Tryz.prog (b1+3) #[.agg #[.slice a0 n0 k0,.slice a1 n1 k1,.slice a2 n2 k2,.slice a3 n3 k3,.slice a4 n4 k4],.int .i64 0] W1 fun e W'=>e = .returned (.bool true)∧∃ g cap,Wq w s0 b1 (.slice a0 n0 k0) (.slice a1 n1 k1) (.slice a2 n2 k2) (.slice a3 n3 k3) (.slice a4 n4 k4) (.slice (some ⟨pb,po,none⟩) N pc) (.slice (some ⟨g,0,none⟩) 1 cap) (.int .i64 0) r W':=by
  refine O7 (r:=r) J0.rx hr1 hr2 hr3 hr4 hr5 hr6 rfl ?_;clear hr1 hr2 hr3 hr4 hr5 hr6 HA HR hyo dF dP q0 q1 q2
  gi_wp2
  obtain ⟨WA,hWA⟩:∃ WA,W1.alloc (Obj.cells #[.slice a0 n0 k0,.slice a1 n1 k1,.slice a2 n2 k2,.slice a3 n3 k3,.slice a4 n4 k4] 36)=WA:=⟨_,rfl⟩;have zA:WA.heap.size=W1.heap.size+1:=by rw [← hWA,World.size_alloc]
  have JA:=J0.below (by rw [← hWA];exact (Below.refl _ W1).alloc (Nat.le_refl _) (Obj.cells #[.slice a0 n0 k0,.slice a1 n1 k1,.slice a2 n2 k2,.slice a3 n3 k3,.slice a4 n4 k4] 36):Below W1.heap.size W1 WA);have xA:WA.heap[W1.heap.size]? = some (.cells #[.slice a0 n0 k0,.slice a1 n1 k1,.slice a2 n2 k2,.slice a3 n3 k3,.slice a4 n4 k4] 36 (0,0)):=by rw [← hWA];exact World.alloc_heap_new W1 _
  rw [hWA];refine ⟨JA.rx,?_⟩;have ltA:b1+3<W1.heap.size:=(Array.getElem?_eq_some_iff.1 J0.rx).1;obtain ⟨W2,hW2⟩:∃ W2,WA.putObj (b1+3) (.loop { r with state:=.busy })=W2:=⟨_,rfl⟩;have z2:W2.heap.size=WA.heap.size:=by rw [← hW2,World.putObj_size]
  have o2:∀ b,b≠b1+3→W2.heap[b]? = WA.heap[b]? := fun b hb=>by rw [← hW2];exact World.putObj_heap_other hb
  obtain ⟨v0,hv0⟩:∃ v0:Go.Value,v0 = .slice none 0 0:=⟨_,rfl⟩;have hvo:v0.ownBlock=none:=by rw [hv0];rfl
  have bX:Boxed W2 (s0+1) 48 v0:=by rw [hv0];exact (o2 _ (by omega)).trans JA.lx
  have c2:=bX.cell;have xq:=(o2 _ (by omega)).trans xA;have t0:W2.cell? ⟨W1.heap.size,0,none⟩=some (.slice a0 n0 k0):=by simp [World.cell?,xq]
  have t1:W2.cell? ⟨W1.heap.size,1,none⟩=some (.slice a1 n1 k1):=by simp [World.cell?,xq]
  have t2:W2.cell? ⟨W1.heap.size,2,none⟩=some (.slice a2 n2 k2):=by simp [World.cell?,xq]
  have t3:W2.cell? ⟨W1.heap.size,3,none⟩=some (.slice a3 n3 k3):=by simp [World.cell?,xq]
  have t4:W2.cell? ⟨W1.heap.size,4,none⟩=some (.slice a4 n4 k4):=by simp [World.cell?,xq]
  have rw2:W2.ownsRow w.heap.size 36 5 v0 0 []:=by rw [hv0];exact World.ownsRow_nil _ _ _ _
  have HW2:Hid (WA.putObj (b1+3) (.loop { r with state:=.busy })=W2):=hW2;have hW2s:w.heap.size≤W2.heap.size:=by omega
  have hne:some (s0+1)≠v0.ownBlock:=by rw [hvo];simp
  have hk1:0+1≤maxLen:=by simp only [maxLen];omega
  have ht:Tryz.prog.underlying 48=some (.slice 36):=by kernel_rfl
  have HZ:Hid (W2.heap.size=W1.heap.size+1∧WA.heap.size=W1.heap.size+1):=⟨z2.trans zA,zA⟩;clear hW2 o2 hWA xq xA hv0 z2 zA;rw [HW2.out]
  gi_wp2_with (gi_at_builtin;go_loud (refine Bx _ rfl _ _ 48 rfl w.heap.size 36 iF (.agg #[.slice none 0 0,.slice none 0 0,.slice none 0 0,.slice none 0 0,.slice none 0 0]) 5 120 ht hi hz0 hz1 hz2 rfl (by decide) _ _ _ rfl (rw2.alloc _) ⟨W2.heap.size,0,none⟩ 1 1 [.slice a0 n0 k0,.slice a1 n1 k1,.slice a2 n2 k2,.slice a3 n3 k3,.slice a4 n4 k4] rfl rfl (U7 _ _ _ _ _ _ _) (by simp [Value.oneCell']) (by decide) hk1 (by omega) (by simp;omega) ?_;intro v' w4 hown hgrow hnew;have hgrow:World.grownBy _ w4 v0.ownBlock:=hgrow;obtain ⟨g',cap',rfl⟩:=ownsRow_succ hown;have hv1:=(bX.alloc _).kept hgrow hne;have hc1:=hv1.cell;have hf1:=hv1.frozen))
  clear hnew c2 hc1 hf1 t0 t1 t2 t3 t4;obtain ⟨W7,hW7⟩:∃ W7,w4.setCell ⟨s0+1,0,none⟩ (.slice (some ⟨g',0,none⟩) 1 cap')=W7:=⟨_,rfl⟩;have G1:=grownBy_putObj' WA (b1+3) (.loop { r with state:=.busy });rw [HW2.out] at G1;have G2:=World.grownBy_alloc W2 (Obj.cells #[.slice a0 n0 k0,.slice a1 n1 k1,.slice a2 n2 k2,.slice a3 n3 k3,.slice a4 n4 k4] 36) none;have G4:=grownBy_setCell' w4 (s0+1) (.slice (some ⟨g',0,none⟩) 1 cap');rw [hW7] at G4;have G5:=grownBy_putObj' W7 (b1+3) (.loop r);obtain ⟨zz1,zz2⟩:=HZ.out;have q1:=G1.size;have q2:=G2.size;have q3:=hgrow.size;have q4:=G4.size;have q5:=G5.size;have hv2:Boxed W7 (s0+1) 48 (.slice (some ⟨g',0,none⟩) 1 cap'):=by rw [← hW7];exact hv1.set _
  have y2:W2.heap[b1+3]? = some (.loop { r with state:=.busy }):=by rw [← HW2.out];exact World.putObj_heap_same (by omega)
  have y7:W7.heap[b1+3]? = some (.loop { r with state:=.busy }):=(G4.block _ (by omega) (by simp;omega)).trans ((hgrow.block _ (by omega) (by rw [hvo];simp)).trans ((G2.block _ (by omega) (by simp)).trans y2));have keep:∀ b,b<WA.heap.size→b≠b1+3→b≠s0+1→(W7.putObj (b1+3) (.loop r)).heap[b]? = WA.heap[b]? := fun b hb h1 h2 =>
   (G5.block b (by omega) (by simpa using h1)).trans ((G4.block b (by omega) (by simpa using h2)).trans ((hgrow.block b (by omega) (by rw [hvo];simp)).trans ((G2.block b (by omega) (by simp)).trans (G1.block b (by omega) (by simpa using h1)))))
  have lt:∀ {b:Nat} {o:Obj},WA.heap[b]? = some o→b<WA.heap.size:=fun h=>(Array.getElem?_eq_some_iff.1 h).1;rw [hW7];refine ⟨y7,g',cap',(World.putObj_heap_other (by omega)).trans hv2,(keep _ (lt JA.ex) (by omega) (by omega)).trans JA.ex,(keep _ (lt JA.fx) (by omega) (by omega)).trans JA.fx,(keep _ (lt JA.px) (by omega) (by omega)).trans JA.px,(keep _ (lt JA.dx) (by omega) (by omega)).trans JA.dx,World.putObj_heap_same (by omega),?_⟩;exact ⟨G5.os.trans (G4.os.trans (hgrow.os.trans (G2.os.trans (G1.os.trans JA.bl.os)))),G5.tape.trans (G4.tape.trans (hgrow.tape.trans (G2.tape.trans (G1.tape.trans JA.bl.tape)))),G5.output.trans (G4.output.trans (hgrow.output.trans (G2.output.trans (G1.output.trans JA.bl.output)))),by have:=JA.bl.size;omega,
   fun b hb=>(keep b (Nat.lt_of_lt_of_le hb JA.bl.size) (by omega) (by omega)).trans (JA.bl.block b hb)⟩
 have hJ0:=J0;have hcl:∀ {W:World} {b:Nat},W.heap[b]? = some (.cells #[.slice a0 n0 k0,.slice a1 n1 k1,.slice a2 n2 k2,.slice a3 n3 k3,.slice a4 n4 k4] 36 (0,0))→W.cell? ⟨b,0,none⟩=some (.slice a0 n0 k0)∧W.cell? ⟨b,1,none⟩=some (.slice a1 n1 k1)∧W.cell? ⟨b,2,none⟩=some (.slice a2 n2 k2)∧W.cell? ⟨b,3,none⟩=some (.slice a3 n3 k3)∧W.cell? ⟨b,4,none⟩=some (.slice a4 n4 k4):=fun h=>by simp [World.cell?,h]
 obtain ⟨g0,g1,g2,g3,g4⟩:=hcl J0.fx;refine (Wk _ _ y e1 he hyo hyf HA (b1+3) b1 (m-1) _ _ _ _ _ i0 i1 i2 pb po N pc hN0 W1 (fun W=>∃ g cap,Wq w s0 b1 (.slice a0 n0 k0) (.slice a1 n1 k1) (.slice a2 n2 k2) (.slice a3 n3 k3) (.slice a4 n4 k4) (.slice (some ⟨pb,po,none⟩) N pc) (.slice (some ⟨g,0,none⟩) 1 cap) (.int .i64 0) r W) (fun W=>∃ g cap,Wq w s0 b1 (.slice a0 n0 k0) (.slice a1 n1 k1) (.slice a2 n2 k2) (.slice a3 n3 k3) (.slice a4 n4 k4) (.slice (some ⟨pb,po,none⟩) N pc) (.slice (some ⟨g,0,none⟩) 1 cap) (.int .i64 e1) { r with state:=.done,pending:=some (.exit 0) } W) g0 g1 g2 g3 g4 hY ?_).mono ?_
 ·rintro Wa ⟨g,cap,Ja⟩;refine ⟨hcl Ja.fx,by simp [World.cell?,Ja.px],?_,fun w' hw'=>gp w' (Ja.bl.trans (hw'.mono Ja.bl.size)),X,fun b hb=>Nat.lt_of_lt_of_le (hX b hb) Ja.bl.size,dF.mono (fun b _ hl=>Ja.bl.block b hl) (fun b hb _=>hb),?_,?_⟩
  ·exact ⟨(Ja.bl.cell (p:=⟨pb,po,none⟩) (World.block_lt_of_cell? w _ q0)).trans q0,(Ja.bl.cell (p:=⟨pb,po+1,none⟩) (World.block_lt_of_cell? w _ q1)).trans q1,(Ja.bl.cell (p:=⟨pb,po+2,none⟩) (World.block_lt_of_cell? w _ q2)).trans q2⟩
  ·refine .agg _ _ rfl fun i hi=>?_;match i,hi with
   | 0,_=>exact .int _ _
   | 1,_=>exact .int _ _
   | 2,_=>exact .int _ _
  ·rintro V W2 hB ⟨u0,m0,v0,u1,m1,v1,u2,m2,v2,u3,m3,v3,u4,m4,v4,rfl⟩;have Jb:=Ja.below hB;refine Wb (id:=0) Jb.rx hr1 hr3 hr4 hr5 hr6 rfl ?_;clear hr1 hr2 hr3 hr4 hr5 hr6 HA HR hyo dF dP q0 q1 q2 hcl hY
   gi_wp2
   obtain ⟨WA,hWA⟩:∃ WA,W2.alloc (Obj.cells #[.slice u0 m0 v0,.slice u1 m1 v1,.slice u2 m2 v2,.slice u3 m3 v3,.slice u4 m4 v4] 36)=WA:=⟨_,rfl⟩;have JA:=Jb.below (by rw [← hWA];exact (Below.refl _ W2).alloc (Nat.le_refl _) (Obj.cells #[.slice u0 m0 v0,.slice u1 m1 v1,.slice u2 m2 v2,.slice u3 m3 v3,.slice u4 m4 v4] 36):Below W2.heap.size W2 WA);rw [hWA];refine ⟨JA.rx,?_⟩;obtain ⟨W3,hW3⟩:∃ W3,WA.putObj (b1+3) (.loop { r with state:=.busy })=W3:=⟨_,rfl⟩;have bX:Boxed W3 (s0+1+1) 38 (.int .i64 0):=by rw [← hW3];exact (World.putObj_heap_other (by omega)).trans JA.ex
   have c2:=bX.cell;have f2:=bX.frozen;have HW3:Hid (WA.putObj (b1+3) (.loop { r with state:=.busy })=W3):=hW3;clear hW3 hWA;rw [HW3.out]
   gi_wp2
   clear c2 f2;obtain ⟨W7,hW7⟩:∃ W7,W3.setCell ⟨s0+1+1,0,none⟩ (.int .i64 e1)=W7:=⟨_,rfl⟩;have G1:=grownBy_putObj' WA (b1+3) (.loop { r with state:=.busy });rw [HW3.out] at G1;have G4:=grownBy_setCell' W3 (s0+1+1) (.int .i64 e1);rw [hW7] at G4;have G5:=grownBy_putObj' W7 (b1+3) (.loop { r with state:=.done,pending:=some (.exit 0) });have q1:=G1.size;have q4:=G4.size;have q5:=G5.size;have lt:∀ {b:Nat} {o:Obj},WA.heap[b]? = some o→b<WA.heap.size:=fun h=>(Array.getElem?_eq_some_iff.1 h).1;have ltr:=lt JA.rx;have hv2:Boxed W7 (s0+1+1) 38 (.int .i64 e1):=by rw [← hW7];exact bX.set _
   have y2:W3.heap[b1+3]? = some (.loop { r with state:=.busy }):=by rw [← HW3.out];exact World.putObj_heap_same (by omega)
   have y7:W7.heap[b1+3]? = some (.loop { r with state:=.busy }):=(G4.block _ (by omega) (by simp;omega)).trans y2;have keep:∀ b,b<WA.heap.size→b≠b1+3→b≠s0+1+1→(W7.putObj (b1+3) (.loop { r with state:=.done,pending:=some (.exit 0) })).heap[b]? = WA.heap[b]? := fun b hb h1 h2 =>
    (G5.block b (by omega) (by simpa using h1)).trans ((G4.block b (by omega) (by simpa using h2)).trans (G1.block b (by omega) (by simpa using h1)))
   rw [hW7];refine ⟨y7,g,cap,(keep _ (lt JA.lx) (by omega) (by omega)).trans JA.lx,(World.putObj_heap_other (by omega)).trans hv2,(keep _ (lt JA.fx) (by omega) (by omega)).trans JA.fx,(keep _ (lt JA.px) (by omega) (by omega)).trans JA.px,(keep _ (lt JA.dx) (by omega) (by omega)).trans JA.dx,World.putObj_heap_same (by omega),?_⟩;exact ⟨G5.os.trans (G4.os.trans (G1.os.trans JA.bl.os)),G5.tape.trans (G4.tape.trans (G1.tape.trans JA.bl.tape)),G5.output.trans (G4.output.trans (G1.output.trans JA.bl.output)),by have:=JA.bl.size;omega,
    fun b hb=>(keep b (Nat.lt_of_lt_of_le hb JA.bl.size) (by omega) (by omega)).trans (JA.bl.block b hb)⟩
 ·rintro e W ⟨⟨v,rfl⟩,g,cap,h⟩;refine ⟨⟨v,rfl⟩,h.rx,fun o=>?_⟩;clear hr1 hr2 hr3 hr4 hr5 hr6 hY hcl HA HR hyo dF dP q0 q1 q2 g0 g1 g2 g3 g4 hJ0 J0;obtain ⟨W5,hW5⟩:∃ W5,W.putObj (b1+2+1) o=W5:=⟨_,rfl⟩;rw [hW5];have ltr:b1+3<W.heap.size:=(Array.getElem?_eq_some_iff.1 h.rx).1;have o5:∀ b,b≠b1+3→W5.heap[b]? = W.heap[b]? := fun b hb=>by rw [← hW5];exact World.putObj_heap_other hb
  have s5:W5.heap.size=W.heap.size:=by rw [← hW5,World.putObj_size]
  have hl6:Boxed W5 (s0+1) 48 (.slice (some ⟨g,0,none⟩) 1 cap):=(o5 _ (by omega)).trans h.lx;have he6:Boxed W5 (s0+1+1) 38 (.int .i64 e1):=(o5 _ (by omega)).trans h.ex;have hd6:W5.heap[b1+2]? = some (.deferred (some [])):=(o5 _ (by omega)).trans h.dx;have cl6:=hl6.cell;have fl6:=hl6.frozen;have ce6:=he6.cell;have fe6:=he6.frozen;have B5:Below w.heap.size w W5:=by rw [← hW5];exact h.bl.trans (belowK_b (w:=w) (Nat.le_refl _) W _ _ _ (by omega) h.rx rfl (by rfl))
  clear hW5 o5 s5;simp only [Exit.inBlock,Exit.then,if_true,beq_self_eq_true]
  gi_wp2
  refine wpIn_wide.2 ?_;clear h;have HB5:Hid (Below w.heap.size w W5):=B5;have HL:Hid (Boxed W5 (s0+1) 48 (.slice (some ⟨g,0,none⟩) 1 cap)):=hl6;have HE:Hid (Boxed W5 (s0+1+1) 38 (.int .i64 e1)):=he6;have HD:Hid (W5.heap[b1+2]? = some (.deferred (some []))):=hd6;clear hl6 he6 hd6 B5
  go_region
  obtain ⟨W6,hW6⟩:∃ W6,((W5.setCell ⟨s0+1,0,none⟩ (.slice none 0 0)).setCell ⟨s0+1+1,0,none⟩ (.int .i64 e1)).drew=W6:=⟨_,rfl⟩;have n1:Boxed (W5.setCell ⟨s0+1,0,none⟩ (.slice none 0 0)) (s0+1) 48 (.slice none 0 0):=HL.out.set _;have k1:=grownBy_setCell' W5 (s0+1) (.slice none 0 0);have k2:=grownBy_setCell' (W5.setCell ⟨s0+1,0,none⟩ (.slice none 0 0)) (s0+1+1) (.int .i64 e1);have e6:W6.heap=((W5.setCell ⟨s0+1,0,none⟩ (.slice none 0 0)).setCell ⟨s0+1+1,0,none⟩ (.int .i64 e1)).heap:=by rw [← hW6];rfl
  have n2:W6.heap[s0+1]? = some (.cells #[.slice none 0 0] 48 (0,0)):=by rw [e6];exact n1.kept k2 (by simp)
  have n3:W6.heap[s0+1+1]? = some (.cells #[.int .i64 e1] 38 (0,0)):=by rw [e6];exact (HE.out.kept k1 (by simp)).set _
  have zd:b1+2<W5.heap.size:=(Array.getElem?_eq_some_iff.1 HD.out).1;have hd6:W6.heap[b1+2]? = some (.deferred (some [])):=by rw [e6];exact (k2.block _ (Nat.lt_of_lt_of_le zd k1.size) (by simp;omega)).trans ((k1.block _ zd (by simp;omega)).trans HD.out)
  have B6:Below w.heap.size w W6:=by
   have hb:=HB5.out;refine ⟨?_,?_,?_,?_,fun b hb2=>?_⟩
   ·rw [← hW6];exact k2.os.trans (k1.os.trans hb.os)
   ·rw [← hW6];exact k2.tape.trans (k1.tape.trans hb.tape)
   ·rw [← hW6];exact k2.output.trans (k1.output.trans hb.output)
   ·rw [e6];exact Nat.le_trans hb.size (Nat.le_trans k1.size k2.size)
   ·have hz:=Nat.lt_of_lt_of_le hb2 hb.size;rw [e6];exact (k2.block b (Nat.lt_of_lt_of_le hz k1.size) (by simp;omega)).trans ((k1.block b hz (by simp;omega)).trans (hb.block b hb2))
  rw [hW6];clear hW6 e6 n1 k1 k2 HB5 HL HE HD cl6 fl6 ce6 fe6;have B7:Below w.heap.size w (W6.putObj (b1+2) (.deferred none)):=B6.trans (belowK_b (w:=w) (Nat.le_refl _) W6 _ _ _ (by omega) hd6 rfl (by rfl));have m2:=(World.putObj_heap_other (w:=W6) (o:=.deferred none) (show s0+1≠b1+2 by omega)).trans n2;have m3:=(World.putObj_heap_other (w:=W6) (o:=.deferred none) (show s0+1+1≠b1+2 by omega)).trans n3;obtain ⟨W7,hW7⟩:∃ W7,W6.putObj (b1+2) (.deferred none)=W7:=⟨_,rfl⟩;have HT:=run_takeDeferred (P:=Tryz.prog) hd6;rw [hW7] at HT B7 m2 m3;have HH:Hid ((Instr.takeDeferred (b1+2)).run Tryz.prog W6 = .ok [] W7):=HT;clear hW7 HT hd6 n2 n3 B6;have u2:W7.cell? ⟨s0+1,0,none⟩=some (.slice none 0 0):=by simp [World.cell?,m2]
  have u3:W7.cell? ⟨s0+1+1,0,none⟩=some (.int .i64 e1):=by simp [World.cell?,m3]
  gi_wp2
  simp only [Uq];refine ⟨by simp,.inl ⟨_,_,rfl,HH.out,?_⟩⟩;refine ⟨.tuple #[.slice none 0 0,.int .i64 0,.int .i64 e1],by simp [results,Tryz.f13,go_sem,u2,u3],_,rfl,B7,.tup _ _ rfl fun i hi=>?_⟩;match i,hi with
  | 0,_=>exact .dnil none 0 (by decide)
  | 1,_=>exact .int _ _
  | 2,_=>exact .int _ _
attribute [local go_sem] Oper.semAt_some
set_option maxRecDepth 100000 in
set_option maxHeartbeats 4000000 in
theorem VW (x0 x1 x2 x3 x4 p:List (List AV)) (e0:Int) (he:e0≠0) (hfl:AV.flL [.agg [.dslice x0,.dslice x1,.dslice x2,.dslice x3,.dslice x4],.dslice p]=true)
 (HR:bp Tryz.prog 22 [.agg [.dslice x0,.dslice x1,.dslice x2,.dslice x3,.dslice x4],.dslice p] (.int .i64 e0)) :
 bp Tryz.prog 13 [.agg [.dslice x0,.dslice x1,.dslice x2,.dslice x3,.dslice x4],.dslice p] (.tup [.dslice [],.int .i64 0,.int .i64 e0]):=by
 refine Pg hfl fun w X vs hl hX hd gp=>?_;obtain ⟨VF,VP,rfl⟩:∃ VF VP,vs=[VF,VP]:=by
  match vs,hl with
  | [a,b],_=>exact ⟨a,b,rfl⟩
 have dF:D w X (.agg [.dslice x0,.dslice x1,.dslice x2,.dslice x3,.dslice x4]) VF:=hd 0 (by simp);have dP:D w X (.dslice p) VP:=hd 1 (by simp);obtain ⟨a0,n0,k0,a1,n1,k1,a2,n2,k2,a3,n3,k3,a4,n4,k4,rfl⟩:=T9 dF;obtain ⟨pa,pn,pc,rfl⟩:=oa dP;suffices key:∀ m:Nat,CallsIn Fence.wide m Tryz.prog 13 #[.agg #[.slice a0 n0 k0,.slice a1 n1 k1,.slice a2 n2 k2,.slice a3 n3 k3,.slice a4 n4 k4],.slice pa pn pc] w _ from callsIn_wide.1 (key 0)
 intro m;refine callsIn_of_wp_marks Tryz.func13 rfl trivial ?_ rfl;simp only [Tryz.ntmps13,List.size_toArray,List.length_cons,List.length_nil,Nat.reduceAdd,Nat.reduceSub,Array.replicate_succ,Array.replicate_zero,List.push_toArray,List.append_toArray,List.nil_append,List.cons_append]
 gi_wp2
 refine T0 ?_
 gi_wp2
 obtain ⟨wA,hwA⟩:∃ wA,((w.alloc (Obj.cells #[.slice a0 n0 k0,.slice a1 n1 k1,.slice a2 n2 k2,.slice a3 n3 k3,.slice a4 n4 k4] 36)).alloc (Obj.cells #[.slice none 0 0] 48)).alloc (Obj.cells #[.int .i64 0] 38)=wA:=⟨_,rfl⟩;obtain ⟨s0,hs0⟩:∃ s0,s0=w.heap.size:=⟨_,rfl⟩;have BA:Below w.heap.size w wA:=by rw [← hwA];exact (((Below.refl _ w).alloc (Nat.le_refl _) _).alloc (by simp) _).alloc (by simp;omega) _
 have sA:wA.heap.size=s0+1+1+1:=by rw [← hwA,World.size_alloc,World.size_alloc,World.size_alloc,hs0]
 have xA0:wA.heap[s0]? = some (.cells #[.slice a0 n0 k0,.slice a1 n1 k1,.slice a2 n2 k2,.slice a3 n3 k3,.slice a4 n4 k4] 36 (0,0)):=by rw [← hwA,hs0];exact (Below.heap_alloc _ _ _ (by simp;omega)).trans ((Below.heap_alloc _ _ _ (by simp)).trans (World.alloc_heap_new w _))
 have xA1:wA.heap[s0+1]? = some (.cells #[.slice none 0 0] 48 (0,0)):=by rw [← hwA,hs0];refine (Below.heap_alloc _ _ _ (by simp)).trans ?_;have:=World.alloc_heap_new (w.alloc (Obj.cells #[.slice a0 n0 k0,.slice a1 n1 k1,.slice a2 n2 k2,.slice a3 n3 k3,.slice a4 n4 k4] 36)) (Obj.cells #[.slice none 0 0] 48);rwa [World.size_alloc] at this
 have xA2:wA.heap[s0+1+1]? = some (.cells #[.int .i64 0] 38 (0,0)):=by rw [← hwA,hs0];have:=World.alloc_heap_new ((w.alloc (Obj.cells #[.slice a0 n0 k0,.slice a1 n1 k1,.slice a2 n2 k2,.slice a3 n3 k3,.slice a4 n4 k4] 36)).alloc (Obj.cells #[.slice none 0 0] 48)) (Obj.cells #[.int .i64 0] 38);rwa [World.size_alloc,World.size_alloc] at this
 rw [hwA,← hs0];clear hwA;refine ⟨trivial,(fun h=>by cases h),?_⟩;refine (callsIn_wide.2 (GC HR rfl wA X (fun b hb=>Nat.lt_of_lt_of_le (hX b hb) BA.size) (fun w' hw'=>gp w' (BA.trans (hw'.mono BA.size))) [.agg #[.slice a0 n0 k0,.slice a1 n1 k1,.slice a2 n2 k2,.slice a3 n3 k3,.slice a4 n4 k4],.slice pa pn pc] rfl (fun i hi=>(hd i hi).mono (fun b _ hl=>BA.block b hl) (fun b hb _=>hb)))).mono ?_;rintro e wB ⟨V,rfl,hbB,hdB⟩;cases PL hdB;have BB:Below w.heap.size w wB:=BA.trans (hbB.mono BA.size);have xB1:=(hbB.block _ (by omega)).trans xA1;have xB2:=(hbB.block _ (by omega)).trans xA2;have b1:Boxed wB (s0+1) 48 (.slice none 0 0):=xB1;have b2:Boxed wB (s0+1+1) 38 (.int .i64 0):=xB2;have c1:=b1.cell;have f1:=b1.frozen;have c2:=b2.cell;have f2:=b2.frozen;have hws:w.heap.size≤s0:=by omega
 have HB:Hid (Below w.heap.size w wB∧Boxed wB (s0+1) 48 (.slice none 0 0)∧Boxed wB (s0+1+1) 38 (.int .i64 0)):=⟨BB,b1,b2⟩;clear xA0 xA1 xA2 hbB hdB hd hs0 xB1 xB2 b1 b2 BB BA
 gi_wp2
 obtain ⟨hb,hl6,he6⟩:=HB.out;have k1:=grownBy_setCell' wB (s0+1) (.slice none 0 0);have k2:=grownBy_setCell' (wB.setCell ⟨s0+1,0,none⟩ (.slice none 0 0)) (s0+1+1) (.int .i64 e0);have u2:=(((hl6.set (.slice none 0 0)).kept k2 (by simp)):Boxed _ (s0+1) 48 (.slice none 0 0)).cell;have u3:=(((he6.kept k1 (by simp)).set (.int .i64 e0)):Boxed _ (s0+1+1) 38 (.int .i64 e0)).cell;obtain ⟨W6,hW6⟩:∃ W6,(wB.setCell ⟨s0+1,0,none⟩ (.slice none 0 0)).setCell ⟨s0+1+1,0,none⟩ (.int .i64 e0)=W6:=⟨_,rfl⟩;rw [hW6] at k2 u2 u3 ⊢;have B6:Below w.heap.size w W6:=⟨k2.os.trans (k1.os.trans hb.os),k2.tape.trans (k1.tape.trans hb.tape),k2.output.trans (k1.output.trans hb.output),Nat.le_trans hb.size (Nat.le_trans k1.size k2.size),fun b hb2=>by have hz:=Nat.lt_of_lt_of_le hb2 hb.size;exact (k2.block b (Nat.lt_of_lt_of_le hz k1.size) (by simp;omega)).trans ((k1.block b hz (by simp;omega)).trans (hb.block b hb2))⟩
 simp only [Uq];refine ⟨.tuple #[.slice none 0 0,.int .i64 0,.int .i64 e0],by simp [results,Tryz.f13,go_sem,u2,u3],_,rfl,B6,.tup _ _ rfl fun i hi=>?_⟩;match i,hi with
 | 0,_=>exact .dnil none 0 (by decide)
 | 1,_=>exact .int _ _
 | 2,_=>exact .int _ _
attribute [local go_sem] Oper.semAt_some
theorem Wx {w:World} {X:Nat→Prop} {V:Go.Value} (h:D w X (.dslice []) V):∃ a c,V = .slice a 0 c:=by
 generalize hL:([]:List (List AV))=L at h;cases h with
 | dnil a c _=>exact ⟨_,_,rfl⟩
 | dslice _ b o c sz cv h1 h2 h3=>subst hL;exact ⟨_,_,rfl⟩
set_option maxRecDepth 100000 in
set_option maxHeartbeats 4000000 in
theorem V7 (l b0 m:Nat) (c0 c1 c2 c3 c4:Go.Value) (pa:Option Addr) (c:Nat) (W:World) (J1:World→Prop)
 (h0:W.cell? ⟨b0,0,none⟩=some c0) (h1:W.cell? ⟨b0,1,none⟩=some c1) (h2:W.cell? ⟨b0,2,none⟩=some c2) (h3:W.cell? ⟨b0,3,none⟩=some c3) (h4:W.cell? ⟨b0,4,none⟩=some c4)
 (hY:YieldAt Fence.wide (m-1) Tryz.prog l #[.agg #[c0,c1,c2,c3,c4],.int .i64 0] W fun e W1=>e = .returned (.bool true)∧J1 W1)
 (hJ:∀ W1,J1 W1→W1.cell? ⟨b0+1,0,none⟩=some (.slice pa 0 c)) :
 CallsIn Fence.wide m Tryz.prog 32 #[.func (.yield l) #[] #[],.pointer (some ⟨b0,0,none⟩),.pointer (some ⟨b0+1,0,none⟩)] W fun e W'=>(∃ v,e = .returned v)∧J1 W':=by
 refine callsIn_of_wp Tryz.func32 rfl trivial ?_ rfl;simp only [Tryz.ntmps32,List.size_toArray,List.length_cons,List.length_nil,Nat.reduceAdd,Nat.reduceSub,Array.replicate_succ,Array.replicate_zero,List.push_toArray,List.append_toArray,List.nil_append,List.cons_append];obtain ⟨fn,tmps,assign,body,hyr,hR⟩:=hY
 gi_wp2
 refine ⟨(fun h=>by cases h),?_⟩;refine hR.mono ?_;rintro e W1 ⟨rfl,hJ1⟩;have gp:=hJ W1 hJ1;clear hJ hyr hR h0 h1 h2 h3 h4
 gi_wp2
 gi_loopw [14] (fun p wr=>p = .int .i64 0∧wr=W1) (fun p wr=>0)
 case atStart=>exact ⟨rfl,rfl⟩
 case round =>
  obtain ⟨rfl,rfl⟩:=hrel
  gi_wp2
  go_end0
  exact ⟨⟨_,rfl⟩,hJ1⟩
set_option maxRecDepth 100000 in
set_option maxHeartbeats 4000000 in
theorem V8 (x0 x1 x2 x3 x4:List (List AV)) (hfl:AV.flL [.agg [.dslice x0,.dslice x1,.dslice x2,.dslice x3,.dslice x4],.dslice []]=true)
 (HR:bp Tryz.prog 22 [.agg [.dslice x0,.dslice x1,.dslice x2,.dslice x3,.dslice x4],.dslice []] (.int .i64 0)) :
 bp Tryz.prog 13 [.agg [.dslice x0,.dslice x1,.dslice x2,.dslice x3,.dslice x4],.dslice []] (.tup [.dslice [[.dslice x0,.dslice x1,.dslice x2,.dslice x3,.dslice x4]],.int .i64 0,.int .i64 0]):=by
 refine Pg hfl fun w X vs hl hX hd gp=>?_;obtain ⟨VF,VP,rfl⟩:∃ VF VP,vs=[VF,VP]:=by
  match vs,hl with
  | [a,b],_=>exact ⟨a,b,rfl⟩
 have dF:D w X (.agg [.dslice x0,.dslice x1,.dslice x2,.dslice x3,.dslice x4]) VF:=hd 0 (by simp);have dP:D w X (.dslice []) VP:=hd 1 (by simp);obtain ⟨a0,n0,k0,a1,n1,k1,a2,n2,k2,a3,n3,k3,a4,n4,k4,rfl⟩:=T9 dF;obtain ⟨pa,pc,rfl⟩:=Wx dP;obtain ⟨iF,hi,hz0,hz1,hz2⟩:=info_parts VH;suffices key:∀ m:Nat,CallsIn Fence.wide m Tryz.prog 13 #[.agg #[.slice a0 n0 k0,.slice a1 n1 k1,.slice a2 n2 k2,.slice a3 n3 k3,.slice a4 n4 k4],.slice pa 0 pc] w _ from callsIn_wide.1 (key 0)
 intro m;refine callsIn_of_wp_marks Tryz.func13 rfl trivial ?_ rfl;simp only [Tryz.ntmps13,List.size_toArray,List.length_cons,List.length_nil,Nat.reduceAdd,Nat.reduceSub,Array.replicate_succ,Array.replicate_zero,List.push_toArray,List.append_toArray,List.nil_append,List.cons_append]
 gi_wp2
 refine T0 ?_
 gi_wp2
 obtain ⟨wA,hwA⟩:∃ wA,((w.alloc (Obj.cells #[.slice a0 n0 k0,.slice a1 n1 k1,.slice a2 n2 k2,.slice a3 n3 k3,.slice a4 n4 k4] 36)).alloc (Obj.cells #[.slice none 0 0] 48)).alloc (Obj.cells #[.int .i64 0] 38)=wA:=⟨_,rfl⟩;obtain ⟨s0,hs0⟩:∃ s0,s0=w.heap.size:=⟨_,rfl⟩;have BA:Below w.heap.size w wA:=by rw [← hwA];exact (((Below.refl _ w).alloc (Nat.le_refl _) _).alloc (by simp) _).alloc (by simp;omega) _
 have sA:wA.heap.size=s0+1+1+1:=by rw [← hwA,World.size_alloc,World.size_alloc,World.size_alloc,hs0]
 have xA0:wA.heap[s0]? = some (.cells #[.slice a0 n0 k0,.slice a1 n1 k1,.slice a2 n2 k2,.slice a3 n3 k3,.slice a4 n4 k4] 36 (0,0)):=by rw [← hwA,hs0];exact (Below.heap_alloc _ _ _ (by simp;omega)).trans ((Below.heap_alloc _ _ _ (by simp)).trans (World.alloc_heap_new w _))
 have xA1:wA.heap[s0+1]? = some (.cells #[.slice none 0 0] 48 (0,0)):=by rw [← hwA,hs0];refine (Below.heap_alloc _ _ _ (by simp)).trans ?_;have:=World.alloc_heap_new (w.alloc (Obj.cells #[.slice a0 n0 k0,.slice a1 n1 k1,.slice a2 n2 k2,.slice a3 n3 k3,.slice a4 n4 k4] 36)) (Obj.cells #[.slice none 0 0] 48);rwa [World.size_alloc] at this
 have xA2:wA.heap[s0+1+1]? = some (.cells #[.int .i64 0] 38 (0,0)):=by rw [← hwA,hs0];have:=World.alloc_heap_new ((w.alloc (Obj.cells #[.slice a0 n0 k0,.slice a1 n1 k1,.slice a2 n2 k2,.slice a3 n3 k3,.slice a4 n4 k4] 36)).alloc (Obj.cells #[.slice none 0 0] 48)) (Obj.cells #[.int .i64 0] 38);rwa [World.size_alloc,World.size_alloc] at this
 rw [hwA,← hs0];clear hwA;refine ⟨trivial,(fun h=>by cases h),?_⟩;refine (callsIn_wide.2 (GC HR rfl wA X (fun b hb=>Nat.lt_of_lt_of_le (hX b hb) BA.size) (fun w' hw'=>gp w' (BA.trans (hw'.mono BA.size))) [.agg #[.slice a0 n0 k0,.slice a1 n1 k1,.slice a2 n2 k2,.slice a3 n3 k3,.slice a4 n4 k4],.slice pa 0 pc] rfl (fun i hi=>(hd i hi).mono (fun b _ hl=>BA.block b hl) (fun b hb _=>hb)))).mono ?_;rintro e wB ⟨V,rfl,hbB,hdB⟩;cases PL hdB;have BB:Below w.heap.size w wB:=BA.trans (hbB.mono BA.size);have xB0:=(hbB.block _ (by omega)).trans xA0;have xB1:=(hbB.block _ (by omega)).trans xA1;have xB2:=(hbB.block _ (by omega)).trans xA2;have zB:=hbB.size;have y0:wB.cell? ⟨s0,0,none⟩=some (.slice a0 n0 k0):=by simp [World.cell?,xB0]
 have y1:wB.cell? ⟨s0,1,none⟩=some (.slice a1 n1 k1):=by simp [World.cell?,xB0]
 have y2:wB.cell? ⟨s0,2,none⟩=some (.slice a2 n2 k2):=by simp [World.cell?,xB0]
 have y3:wB.cell? ⟨s0,3,none⟩=some (.slice a3 n3 k3):=by simp [World.cell?,xB0]
 have y4:wB.cell? ⟨s0,4,none⟩=some (.slice a4 n4 k4):=by simp [World.cell?,xB0]
 have hws:w.heap.size≤s0:=by omega
 clear xA0 xA1 xA2 hbB hdB hd hs0
 gi_wp2
 refine wpIn_label ?_
 gi_wp2
 refine ⟨trivial,(fun h=>by cases h),?_⟩;refine (U8 _ _ _ _ _ _ _ _ _ _).mono ?_;rintro e wC ⟨rfl,rfl⟩
 gi_wp2
 clear y0 y1 y2 y3 y4;obtain ⟨b1,hb1⟩:∃ b1,b1=wB.heap.size:=⟨_,rfl⟩;obtain ⟨w3,hw3⟩:∃ w3,(wB.alloc (Obj.cells #[.slice a0 n0 k0,.slice a1 n1 k1,.slice a2 n2 k2,.slice a3 n3 k3,.slice a4 n4 k4] 36)).alloc (Obj.cells #[.slice pa 0 pc] 37)=w3:=⟨_,rfl⟩;have s3:w3.heap.size=b1+2:=by rw [← hw3,World.size_alloc,World.size_alloc,hb1]
 have BC:Below wB.heap.size wB w3:=by rw [← hw3];exact ((Below.refl _ wB).alloc (Nat.le_refl _) _).alloc (by simp) _
 have z0:w3.heap[b1]? = some (.cells #[.slice a0 n0 k0,.slice a1 n1 k1,.slice a2 n2 k2,.slice a3 n3 k3,.slice a4 n4 k4] 36 (0,0)):=by rw [← hw3,hb1];exact (Below.heap_alloc _ _ _ (by simp)).trans (World.alloc_heap_new wB _)
 have z1:w3.heap[b1+1]? = some (.cells #[.slice pa 0 pc] 37 (0,0)):=by rw [← hw3,hb1];have:=World.alloc_heap_new (wB.alloc (Obj.cells #[.slice a0 n0 k0,.slice a1 n1 k1,.slice a2 n2 k2,.slice a3 n3 k3,.slice a4 n4 k4] 36)) (Obj.cells #[.slice pa 0 pc] 37);rwa [World.size_alloc] at this
 have z2:=(BC.block _ (by omega)).trans xB1;have z3:=(BC.block _ (by omega)).trans xB2;have B3:Below w.heap.size w w3:=BB.trans (BC.mono BB.size);rw [hw3,← hb1];have hsb:s0+1+1<b1:=by omega
 clear hw3 hb1 xB0 xB1 xB2 BC;refine Ss (gf:=32) (lb := #[.pointer (some ⟨b1,0,none⟩),.pointer (some ⟨b1+1,0,none⟩)]) rfl (enters_of Tryz.func32 (by kernel_rfl) rfl) fun r hr1 hr2 hr3 hr4 hr5 hr6=>?_;obtain ⟨W1,hW1⟩:∃ W1,(w3.alloc (.deferred (some []))).alloc (.loop r)=W1:=⟨_,rfl⟩;have l1:W1.heap[b1+3]? = some (.loop r):=by rw [← hW1];have:=World.alloc_heap_new (w3.alloc (.deferred (some []))) (.loop r);rwa [World.size_alloc,s3] at this
 have l2:W1.heap[b1+2]? = some (.deferred (some [])):=by
  rw [← hW1];have:=World.alloc_heap_new w3 (.deferred (some []));rw [s3] at this
  exact (Below.heap_alloc _ _ _ (by simp;omega)).trans this
 have B4:Below w3.heap.size w3 W1:=by rw [← hW1];exact ((Below.refl _ w3).alloc (Nat.le_refl _) _).alloc (by simp) _
 have J0:Wq w s0 b1 (.slice a0 n0 k0) (.slice a1 n1 k1) (.slice a2 n2 k2) (.slice a3 n3 k3) (.slice a4 n4 k4) (.slice pa 0 pc) (.slice none 0 0) (.int .i64 0) r W1 :=
  ⟨(B4.block _ (by omega)).trans z2,(B4.block _ (by omega)).trans z3,(B4.block _ (by omega)).trans z0,(B4.block _ (by omega)).trans z1,l2,l1,B3.trans (B4.mono B3.size)⟩
 rw [hW1,s3];clear hW1 l1 l2 B4 z0 z1 z2 z3 B3 s3 BB zB sA BA;have hY:YieldAt Fence.wide (m-1-1) Tryz.prog (b1+3) #[.agg #[.slice a0 n0 k0,.slice a1 n1 k1,.slice a2 n2 k2,.slice a3 n3 k3,.slice a4 n4 k4],.int .i64 0] W1 fun e W'=>e = .returned (.bool true)∧∃ g cap,(W'.ownsRow w.heap.size 36 5 (.slice (some ⟨g,0,none⟩) 1 cap) 1 [.slice a0 n0 k0,.slice a1 n1 k1,.slice a2 n2 k2,.slice a3 n3 k3,.slice a4 n4 k4])∧Wq w s0 b1 (.slice a0 n0 k0) (.slice a1 n1 k1) (.slice a2 n2 k2) (.slice a3 n3 k3) (.slice a4 n4 k4) (.slice pa 0 pc) (.slice (some ⟨g,0,none⟩) 1 cap) (.int .i64 0) r W':=by
  refine O7 (r:=r) J0.rx hr1 hr2 hr3 hr4 hr5 hr6 rfl ?_;clear hr1 hr2 hr3 hr4 hr5 hr6 HR dF dP
  gi_wp2
  obtain ⟨WA,hWA⟩:∃ WA,W1.alloc (Obj.cells #[.slice a0 n0 k0,.slice a1 n1 k1,.slice a2 n2 k2,.slice a3 n3 k3,.slice a4 n4 k4] 36)=WA:=⟨_,rfl⟩;have zA:WA.heap.size=W1.heap.size+1:=by rw [← hWA,World.size_alloc]
  have JA:=J0.below (by rw [← hWA];exact (Below.refl _ W1).alloc (Nat.le_refl _) (Obj.cells #[.slice a0 n0 k0,.slice a1 n1 k1,.slice a2 n2 k2,.slice a3 n3 k3,.slice a4 n4 k4] 36):Below W1.heap.size W1 WA);have xA:WA.heap[W1.heap.size]? = some (.cells #[.slice a0 n0 k0,.slice a1 n1 k1,.slice a2 n2 k2,.slice a3 n3 k3,.slice a4 n4 k4] 36 (0,0)):=by rw [← hWA];exact World.alloc_heap_new W1 _
  rw [hWA];refine ⟨JA.rx,?_⟩;have ltA:b1+3<W1.heap.size:=(Array.getElem?_eq_some_iff.1 J0.rx).1;obtain ⟨W2,hW2⟩:∃ W2,WA.putObj (b1+3) (.loop { r with state:=.busy })=W2:=⟨_,rfl⟩;have z2:W2.heap.size=WA.heap.size:=by rw [← hW2,World.putObj_size]
  have o2:∀ b,b≠b1+3→W2.heap[b]? = WA.heap[b]? := fun b hb=>by rw [← hW2];exact World.putObj_heap_other hb
  obtain ⟨v0,hv0⟩:∃ v0:Go.Value,v0 = .slice none 0 0:=⟨_,rfl⟩;have hvo:v0.ownBlock=none:=by rw [hv0];rfl
  have bX:Boxed W2 (s0+1) 48 v0:=by rw [hv0];exact (o2 _ (by omega)).trans JA.lx
  have c2:=bX.cell;have xq:=(o2 _ (by omega)).trans xA;have t0:W2.cell? ⟨W1.heap.size,0,none⟩=some (.slice a0 n0 k0):=by simp [World.cell?,xq]
  have t1:W2.cell? ⟨W1.heap.size,1,none⟩=some (.slice a1 n1 k1):=by simp [World.cell?,xq]
  have t2:W2.cell? ⟨W1.heap.size,2,none⟩=some (.slice a2 n2 k2):=by simp [World.cell?,xq]
  have t3:W2.cell? ⟨W1.heap.size,3,none⟩=some (.slice a3 n3 k3):=by simp [World.cell?,xq]
  have t4:W2.cell? ⟨W1.heap.size,4,none⟩=some (.slice a4 n4 k4):=by simp [World.cell?,xq]
  have rw2:W2.ownsRow w.heap.size 36 5 v0 0 []:=by rw [hv0];exact World.ownsRow_nil _ _ _ _
  have HW2:Hid (WA.putObj (b1+3) (.loop { r with state:=.busy })=W2):=hW2;have hW2s:w.heap.size≤W2.heap.size:=by omega
  have hne:some (s0+1)≠v0.ownBlock:=by rw [hvo];simp
  have hk1:0+1≤maxLen:=by simp only [maxLen];omega
  have ht:Tryz.prog.underlying 48=some (.slice 36):=by kernel_rfl
  have HZ:Hid (W2.heap.size=W1.heap.size+1∧WA.heap.size=W1.heap.size+1):=⟨z2.trans zA,zA⟩;clear hW2 o2 hWA xq xA hv0 z2 zA;rw [HW2.out]
  gi_wp2_with (gi_at_builtin;go_loud (refine Bx _ rfl _ _ 48 rfl w.heap.size 36 iF (.agg #[.slice none 0 0,.slice none 0 0,.slice none 0 0,.slice none 0 0,.slice none 0 0]) 5 120 ht hi hz0 hz1 hz2 rfl (by decide) _ _ _ rfl (rw2.alloc _) ⟨W2.heap.size,0,none⟩ 1 1 [.slice a0 n0 k0,.slice a1 n1 k1,.slice a2 n2 k2,.slice a3 n3 k3,.slice a4 n4 k4] rfl rfl (U7 _ _ _ _ _ _ _) (by simp [Value.oneCell']) (by decide) hk1 (by omega) (by simp;omega) ?_;intro v' w4 hown hgrow hnew;have hgrow:World.grownBy _ w4 v0.ownBlock:=hgrow;obtain ⟨g',cap',rfl⟩:=ownsRow_succ hown;have hv1:=(bX.alloc _).kept hgrow hne;have hc1:=hv1.cell;have hf1:=hv1.frozen))
  clear hnew c2 hc1 hf1 t0 t1 t2 t3 t4;obtain ⟨W7,hW7⟩:∃ W7,w4.setCell ⟨s0+1,0,none⟩ (.slice (some ⟨g',0,none⟩) 1 cap')=W7:=⟨_,rfl⟩;have G1:=grownBy_putObj' WA (b1+3) (.loop { r with state:=.busy });rw [HW2.out] at G1;have G2:=World.grownBy_alloc W2 (Obj.cells #[.slice a0 n0 k0,.slice a1 n1 k1,.slice a2 n2 k2,.slice a3 n3 k3,.slice a4 n4 k4] 36) none;have G4:=grownBy_setCell' w4 (s0+1) (.slice (some ⟨g',0,none⟩) 1 cap');rw [hW7] at G4;have G5:=grownBy_putObj' W7 (b1+3) (.loop r);obtain ⟨zz1,zz2⟩:=HZ.out;have q1:=G1.size;have q2:=G2.size;have q3:=hgrow.size;have q4:=G4.size;have q5:=G5.size;have hv2:Boxed W7 (s0+1) 48 (.slice (some ⟨g',0,none⟩) 1 cap'):=by rw [← hW7];exact hv1.set _
  have y2:W2.heap[b1+3]? = some (.loop { r with state:=.busy }):=by rw [← HW2.out];exact World.putObj_heap_same (by omega)
  have y7:W7.heap[b1+3]? = some (.loop { r with state:=.busy }):=(G4.block _ (by omega) (by simp;omega)).trans ((hgrow.block _ (by omega) (by rw [hvo];simp)).trans ((G2.block _ (by omega) (by simp)).trans y2));have keep:∀ b,b<WA.heap.size→b≠b1+3→b≠s0+1→(W7.putObj (b1+3) (.loop r)).heap[b]? = WA.heap[b]? := fun b hb h1 h2 =>
   (G5.block b (by omega) (by simpa using h1)).trans ((G4.block b (by omega) (by simpa using h2)).trans ((hgrow.block b (by omega) (by rw [hvo];simp)).trans ((G2.block b (by omega) (by simp)).trans (G1.block b (by omega) (by simpa using h1)))))
  have lt:∀ {b:Nat} {o:Obj},WA.heap[b]? = some o→b<WA.heap.size:=fun h=>(Array.getElem?_eq_some_iff.1 h).1;rw [hW7];have r7:W7.ownsRow w.heap.size 36 5 (.slice (some ⟨g',0,none⟩) 1 cap') 1 [.slice a0 n0 k0,.slice a1 n1 k1,.slice a2 n2 k2,.slice a3 n3 k3,.slice a4 n4 k4]:=hown.kept G4 (.inr (hv1.not_row (by decide) hown).symm);refine ⟨y7,g',cap',ownsRow_putObj r7 _ y7 rfl,(World.putObj_heap_other (by omega)).trans hv2,(keep _ (lt JA.ex) (by omega) (by omega)).trans JA.ex,(keep _ (lt JA.fx) (by omega) (by omega)).trans JA.fx,(keep _ (lt JA.px) (by omega) (by omega)).trans JA.px,(keep _ (lt JA.dx) (by omega) (by omega)).trans JA.dx,World.putObj_heap_same (by omega),?_⟩;exact ⟨G5.os.trans (G4.os.trans (hgrow.os.trans (G2.os.trans (G1.os.trans JA.bl.os)))),G5.tape.trans (G4.tape.trans (hgrow.tape.trans (G2.tape.trans (G1.tape.trans JA.bl.tape)))),G5.output.trans (G4.output.trans (hgrow.output.trans (G2.output.trans (G1.output.trans JA.bl.output)))),by have:=JA.bl.size;omega,
   fun b hb=>(keep b (Nat.lt_of_lt_of_le hb JA.bl.size) (by omega) (by omega)).trans (JA.bl.block b hb)⟩
 have hcl:∀ {W:World} {b:Nat},W.heap[b]? = some (.cells #[.slice a0 n0 k0,.slice a1 n1 k1,.slice a2 n2 k2,.slice a3 n3 k3,.slice a4 n4 k4] 36 (0,0))→W.cell? ⟨b,0,none⟩=some (.slice a0 n0 k0)∧W.cell? ⟨b,1,none⟩=some (.slice a1 n1 k1)∧W.cell? ⟨b,2,none⟩=some (.slice a2 n2 k2)∧W.cell? ⟨b,3,none⟩=some (.slice a3 n3 k3)∧W.cell? ⟨b,4,none⟩=some (.slice a4 n4 k4):=fun h=>by simp [World.cell?,h]
 obtain ⟨g0,g1,g2,g3,g4⟩:=hcl J0.fx;refine (V7 (b1+3) b1 (m-1) _ _ _ _ _ pa pc W1 (fun W=>∃ g cap,(W.ownsRow w.heap.size 36 5 (.slice (some ⟨g,0,none⟩) 1 cap) 1 [.slice a0 n0 k0,.slice a1 n1 k1,.slice a2 n2 k2,.slice a3 n3 k3,.slice a4 n4 k4])∧Wq w s0 b1 (.slice a0 n0 k0) (.slice a1 n1 k1) (.slice a2 n2 k2) (.slice a3 n3 k3) (.slice a4 n4 k4) (.slice pa 0 pc) (.slice (some ⟨g,0,none⟩) 1 cap) (.int .i64 0) r W) g0 g1 g2 g3 g4 hY (fun Wa ⟨g,cap,hrow,Ja⟩=>by simp [World.cell?,Ja.px])).mono ?_;rintro e W ⟨⟨v,rfl⟩,g,cap,hrow,h⟩;refine ⟨⟨v,rfl⟩,h.rx,fun o=>?_⟩;clear hr1 hr2 hr3 hr4 hr5 hr6 hY hcl HR g0 g1 g2 g3 g4 J0;obtain ⟨W5,hW5⟩:∃ W5,W.putObj (b1+2+1) o=W5:=⟨_,rfl⟩;rw [hW5];have ltr:b1+3<W.heap.size:=(Array.getElem?_eq_some_iff.1 h.rx).1;have o5:∀ b,b≠b1+3→W5.heap[b]? = W.heap[b]? := fun b hb=>by rw [← hW5];exact World.putObj_heap_other hb
 have hl6:Boxed W5 (s0+1) 48 (.slice (some ⟨g,0,none⟩) 1 cap):=(o5 _ (by omega)).trans h.lx;have he6:Boxed W5 (s0+1+1) 38 (.int .i64 0):=(o5 _ (by omega)).trans h.ex;have hd6:W5.heap[b1+2]? = some (.deferred (some [])):=(o5 _ (by omega)).trans h.dx;have cl6:=hl6.cell;have fl6:=hl6.frozen;have ce6:=he6.cell;have fe6:=he6.frozen;have B5:Below w.heap.size w W5:=by rw [← hW5];exact h.bl.trans (belowK_b (w:=w) (Nat.le_refl _) W _ _ _ (by omega) h.rx rfl (by rfl))
 have rw5:W5.ownsRow w.heap.size 36 5 (.slice (some ⟨g,0,none⟩) 1 cap) 1 [.slice a0 n0 k0,.slice a1 n1 k1,.slice a2 n2 k2,.slice a3 n3 k3,.slice a4 n4 k4]:=by rw [← hW5];exact ownsRow_putObj hrow _ h.rx rfl
 have HH:Hid ((Below w.heap.size w W5∧Boxed W5 (s0+1) 48 (.slice (some ⟨g,0,none⟩) 1 cap))∧Boxed W5 (s0+1+1) 38 (.int .i64 0)∧W5.heap[b1+2]? = some (.deferred (some []))∧W5.ownsRow w.heap.size 36 5 (.slice (some ⟨g,0,none⟩) 1 cap) 1 [.slice a0 n0 k0,.slice a1 n1 k1,.slice a2 n2 k2,.slice a3 n3 k3,.slice a4 n4 k4]):=⟨⟨B5,hl6⟩,he6,hd6,rw5⟩;have HdF:Hid (D w X (.agg [.dslice x0,.dslice x1,.dslice x2,.dslice x3,.dslice x4]) (.agg #[.slice a0 n0 k0,.slice a1 n1 k1,.slice a2 n2 k2,.slice a3 n3 k3,.slice a4 n4 k4])):=dF;clear hW5 o5 hrow h hl6 he6 hd6 B5 rw5 dF dP
 gi_wp2
 obtain ⟨⟨hb,hl6⟩,he6,hd5,rw5⟩:=HH.out;have k1:=grownBy_setCell' W5 (s0+1) (.slice (some ⟨g,0,none⟩) 1 cap);have k2:=grownBy_setCell' (W5.setCell ⟨s0+1,0,none⟩ (.slice (some ⟨g,0,none⟩) 1 cap)) (s0+1+1) (.int .i64 0);have n1:=hl6.set (.slice (some ⟨g,0,none⟩) 1 cap);have n2:=he6.kept k1 (by simp);have v2:=n1.kept k2 (by simp);have v3:=n2.set (.int .i64 0);have rw6:=rw5.kept k1 (.inr (hl6.not_row (by decide) rw5).symm);have rw7:=rw6.kept k2 (.inr (n2.not_row (by decide) rw6).symm);have zd:b1+2<W5.heap.size:=(Array.getElem?_eq_some_iff.1 hd5).1;have hd6:=(k2.block _ (Nat.lt_of_lt_of_le zd k1.size) (by simp;omega)).trans ((k1.block _ zd (by simp;omega)).trans hd5);obtain ⟨W6,hW6⟩:∃ W6,(W5.setCell ⟨s0+1,0,none⟩ (.slice (some ⟨g,0,none⟩) 1 cap)).setCell ⟨s0+1+1,0,none⟩ (.int .i64 0)=W6:=⟨_,rfl⟩;rw [hW6] at k2 v2 v3 rw7 hd6 ⊢;have B6:Below w.heap.size w W6:=⟨k2.os.trans (k1.os.trans hb.os),k2.tape.trans (k1.tape.trans hb.tape),k2.output.trans (k1.output.trans hb.output),Nat.le_trans hb.size (Nat.le_trans k1.size k2.size),fun b hb2=>by have hz:=Nat.lt_of_lt_of_le hb2 hb.size;exact (k2.block b (Nat.lt_of_lt_of_le hz k1.size) (by simp;omega)).trans ((k1.block b hz (by simp;omega)).trans (hb.block b hb2))⟩
 clear hW6 HH hb hl6 he6 hd5 rw5 k1 k2 n1 n2 rw6;have B7:Below w.heap.size w (W6.putObj (b1+2) (.deferred none)):=B6.trans (belowK_b (w:=w) (Nat.le_refl _) W6 _ _ _ (by omega) hd6 rfl (by rfl));have m2:Boxed (W6.putObj (b1+2) (.deferred none)) (s0+1) 48 (.slice (some ⟨g,0,none⟩) 1 cap):=(World.putObj_heap_other (by omega)).trans v2;have m3:Boxed (W6.putObj (b1+2) (.deferred none)) (s0+1+1) 38 (.int .i64 0):=(World.putObj_heap_other (by omega)).trans v3;have rw8:=ownsRow_putObj rw7 (.deferred none) hd6 rfl;have HT:=run_takeDeferred (P:=Tryz.prog) hd6;have u2:=m2.cell;have u3:=m3.cell;simp only [Uq];refine ⟨by simp,.inl ⟨_,_,rfl,HT,?_⟩⟩;generalize W6.putObj (b1+2) (.deferred none)=W7 at B7 m2 m3 rw8 HT u2 u3 ⊢;refine ⟨.tuple #[(.slice (some ⟨g,0,none⟩) 1 cap),.int .i64 0,.int .i64 0],by simp [results,Tryz.f13,go_sem,u2,u3],_,rfl,B7,.tup _ _ rfl fun i hi=>?_⟩;match i,hi with
 | 1,_=>exact .int _ _
 | 2,_=>exact .int _ _
 | 0,_ =>
  show D W7 X (.dslice [[.dslice x0,.dslice x1,.dslice x2,.dslice x3,.dslice x4]]) (.slice (some ⟨g,0,none⟩) 1 cap);have dj:∀ j,j<5→D W7 X ([.dslice x0,.dslice x1,.dslice x2,.dslice x3,.dslice x4].getD j .any:AV) ([.slice a0 n0 k0,.slice a1 n1 k1,.slice a2 n2 k2,.slice a3 n3 k3,.slice a4 n4 k4].getD j undef):=fun j hj=>by
   cases HdF.out with
   | agg cs vs hlen hdd =>
    have q:=(hdd j hj).mono (X':=X) (w':=W7) (fun b _ hl=>B7.block b hl) (fun b hb _=>hb);match j,hj,q with
    | 0,_,q=>exact q
    | 1,_,q=>exact q
    | 2,_,q=>exact q
    | 3,_,q=>exact q
    | 4,_,q=>exact q
  rcases rw8.2 with ⟨e,_⟩ | ⟨g',cap',cur,e,hg,hb,hnc,hcm,hcs,htake⟩
  ·cases e
  ·cases e;have hgx:¬ X g:=fun hx=>by have:=hX g hx;omega
   exact D.dslice (w:=W7) (X:=X) [[.dslice x0,.dslice x1,.dslice x2,.dslice x3,.dslice x4]] g 0 cap 5 (fun _ j=>[.slice a0 n0 k0,.slice a1 n1 k1,.slice a2 n2 k2,.slice a3 n3 k3,.slice a4 n4 k4].getD j undef) hnc hcm (by decide) hgx (fun i hi=>by
    obtain rfl:i=0:=by simpa using hi
    rfl) (fun i j hi hj=>by
    obtain rfl:i=0:=by simpa using hi
    have:=rw8.cells (g:=g) rfl j ([.slice a0 n0 k0,.slice a1 n1 k1,.slice a2 n2 k2,.slice a3 n3 k3,.slice a4 n4 k4].getD j undef) (by
     match j,hj with
     | 0,_=>rfl
     | 1,_=>rfl
     | 2,_=>rfl
     | 3,_=>rfl
     | 4,_=>rfl)
    have e:(⟨g,0,none⟩:Addr).add j=⟨g,0+(0*5+j),none⟩:=by simp only [Addr.add,Nat.zero_mul,Nat.zero_add];split<;>simp_all
    rwa [e] at this) (fun i j hi hj=>by
    obtain rfl:i=0:=by simpa using hi
    exact dj j hj)
end Go.Proofs.YtkibeldbfkainaaGreatDoor
