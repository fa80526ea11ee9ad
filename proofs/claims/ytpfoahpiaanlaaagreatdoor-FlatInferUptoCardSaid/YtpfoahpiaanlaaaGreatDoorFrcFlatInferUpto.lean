/- The frame for walks: states without addresses, the rules by which code is walked, and contracts of library functions. -/
import Derived.Test.YtpfoahpiaanlaaaGreatDoorFrbFlatInferUpto
import Derived.LoopN
import Derived.Shelf.Strconv.Itoa3
import Derived.Shelf.Strconv.ErrVarAll
import Derived.Shelf.Strings.OnBuilder
import Derived.Shelf.Strings.Split
import Derived.Shelf.Strings.SlTrimAscii
import Derived.Lib.SplitLaws
import Derived.Shelf.Sort.Plain
import Derived.Shelf.Slices.In.SortNone
import Derived.Lib.SliceRun
import Derived.Shelf.SlSortCmp.Insertion
import Derived.Shelf.SlGeneric
import Derived.Shelf.Lays8
import Derived.Shelf.LaysM
import Derived.Shelf.LaysC
import Derived.Shelf.Strings.Builder1
import Derived.Shelf.Strings.Builder2
import Derived.Shelf.Strings.Trim
import Derived.Shelf.Small.Utf8
import Derived.Shelf.Small.Strs
import Derived.Shelf.Strconv.AtoiAll
import Derived.Shelf.Strings.Search1
import Derived.Shelf.Strings.Cut
import Derived.Shelf.Strings.Shaped
import Derived.Shelf.Strings.SplitShaped
import Derived.Shelf.Strings.Fields
import Derived.Shelf.Small.Wraps
import Derived.Shelf.Spec.SearchS
import Derived.Ground.NamesProg
import Derived.Ground.Names2Prog
import Derived.Ground.SlsfProg
import Derived.Test.YtpfoahpiaanlaaaGreatDoorProg
import Derived.KernelRfl
import Derived.Lib.FieldsLaws
import Derived.Shelf.Spec.SlicesGrow
import Derived.RangeFuncBox
import Derived.RangeFuncLeaves
import Derived.RangeFuncNested
import Derived.RangeFuncBound
import Derived.RangeFuncCalls
import Derived.Shelf.Abstract
import Derived.Shelf.RegionOpen
import Derived.WalkKit
import Derived.OwnWalkIn
import Derived.TacticsInMore
import Derived.LoopNIn
import Derived.LoopIn
import Derived.Maps.AppendAt
set_option linter.unusedSimpArgs false
set_option linter.unusedVariables false
namespace Go.Ab
open Go.RowKit
inductive q9 where
 | v
 | e (v:AV)
 | s
 | c (fl:Bool) (v:AV)
 | b
 | l (v:AV)
 | m
 | ap
 | fz (k:Nat)
 | cq (v:AV)
 | cy (e:TypeId) (sz:Nat) (xs:List (List AV))
 | fm (k:Nat)
 | fo (k:Nat) (es:List (Key×AV))
 | en (i:Nat) (v:AV)
 | mk (N:Nat)
 | lt
 | er (t k:Nat) (e:TypeId) (sz:Nat)
 | w
 | we (v:AV)
 | cf (fl:Bool) (v:AV)
 | cw (fl:Bool) (pl:List (Nat×List (Nat×Nat))) (v:AV)
 | wk (t:Nat) (p:List (Nat×Nat))
 | rwH (k:Nat) (ob:AO)
 | rl (n j:Nat) (v:AV)
 | rs (n j:Nat)
 | apx (zs:List (List AV))
 | apg
 | hM (ps ds:List (Nat×Nat)) (v:AV) (h1:List (Nat×AO))
 | hN (v:AV) (h1:List (Nat×AO))
 | hR (ps:List (Nat×Nat)) (d:Nat) (v:AV) (h1:List (Nat×AO))
 | gb (c:Bool) (n:Nat) (ds:List q9)
def cQ:List Prop→Prop
 | []=>True
 | [p]=>p
 | p::ps=>p∧cQ ps
theorem cQ.cons {p:Prop} {ps:List Prop}:cQ (p::ps)↔p∧cQ ps:=by
 cases ps with
 | nil=>simp [cQ]
 | cons q qs=>rfl
theorem cQ.mem {ps:List Prop} (h:cQ ps):∀ p∈ps,p:=by
 induction ps with
 | nil=>intro p hp;cases hp
 | cons q qs ih =>
  obtain ⟨h1,h2⟩:=cQ.cons.1 h;intro p hp;rcases List.mem_cons.1 hp with rfl | hp
  ·exact h1
  ·exact ih h2 p hp
theorem cQ.append {ps qs:List Prop}:cQ (ps++qs)↔cQ ps∧cQ qs:=by
 induction ps with
 | nil=>simp [cQ]
 | cons p ps ih=>rw [List.cons_append,cQ.cons,cQ.cons,ih,and_assoc]
def asks:Op→Bool
 | .unOp _ _ _=>true
 | .binOp op _ _ _ _=>match op with | .add | .sub | .mul | .quo | .rem=>true | _=>false
 | .slice _ _ _ _ _=>true
 | .index _ _ _=>true
 | .indexAddr _ _ _=>true
 | .call _=>true
 | .convert _ _ _=>true
 | _=>false
def Nd:Op→Bool
 | .binOp .quo _ _ _ _=>true
 | .index _ _ _=>true
 | _=>false
def PZ (op:Op) (p:Prop):List Prop:=if Nd op then [p] else []
def Sy (op:Op) (p:Prop):List Prop:=if asks op then [p] else []
section
variable {P:Program} {ops:Array Oper} {o:Oper} {s s':AS}
theorem CJ {p q:Prop} {u v:AV} (hq:q) (h:some (q,u)=some (p,v)):p:=by cases h;exact hq
theorem Mg {op:BinOp} {k:IntKind} {a b:Int} {p:Prop} {v:AV} (ha:(match op with | .add | .sub | .mul | .quo | .rem=>true | _=>false)=false) (h:D0 op k a b=some (p,v)):p:=by cases op<;>simp only [D0,reduceCtorEq] at h ha<;>first | exact CJ trivial h | cases h
theorem MJ {op:BinOp} {a b:List UInt8} {p:Prop} {v:AV} (ha:(match op with | .add | .sub | .mul | .quo | .rem=>true | _=>false)=false) (h:KL op a b=some (p,v)):p:=by cases op<;>simp only [KL,reduceCtorEq] at h ha<;>first | exact CJ trivial h | cases h
theorem LS {op:BinOp} {t:TypeId} {x y:Operand} {p:Prop} {v:AV} (ha:(match op with | .add | .sub | .mul | .quo | .rem=>true | _=>false)=false) (h:HT P s op t x y=some (p,v)):p:=by
 unfold HT at h;split at h
 ·split at h
  ·exact Mg ha h
  ·cases h
 ·exact MJ ha h
 ·split at h
  ·split at h<;>first | exact CJ trivial h | cases h
  ·cases h
 ·split at h
  ·split at h<;>first | exact CJ trivial h | cases h
  ·cases h
 ·split at h
  ·split at h<;>first | exact CJ trivial h | cases h
  ·cases h
 ·cases h
theorem LZ {op:Op} {p:Prop} {v:AV} (ha:asks op=false) (h:j5 P s op=some (p,v)):p:=by
 unfold j5 at h;split at h;case h_9=>exact LS ha h
 all_goals first
  | exact CJ trivial h
  | (cases ha;done)
  | ((repeat' split at h)<;>first | exact CJ trivial h | (cases h;done))
theorem Jh {op:Op} {p:Prop} {v:AV} (h:j5 P s op=some (p,v)) (hp:cQ (Sy op p)):p:=by
 unfold Sy at hp;cases ha:asks op with
 | true=>rw [ha] at hp;exact hp
 | false=>exact LZ ha h
theorem Nh {op:Op} {p:Prop} {v:AV} (ha:Nd op=false) (h:KY P s op=some (p,v)):p:=by
 unfold KY at h;split at h
 ·split at h
  ·repeat' split at h
   all_goals first | exact CJ trivial h | cases h
  ·split at h
   ·exact CJ trivial h
   ·exact CJ trivial h
   ·exact CJ trivial h
   ·cases ha
   ·cases h
  ·cases h
 ·split at h
  ·exact CJ trivial h
  ·cases h
 ·cases ha
 ·cases h
theorem Gp {op:Op} {p:Prop} {v:AV} (h:KY P s op=some (p,v)) (hp:cQ (PZ op p)):p:=by
 unfold PZ at hp;cases ha:Nd op with
 | true=>rw [ha] at hp;exact hp
 | false=>exact Nh ha h
def N8 (s:AS) (dst:Option Tmp):Bool:=match dst with | none=>true | some t=>Nat.blt t s.n
theorem cK {dst:Option Tmp} (h:N8 s dst=true) (v:AV):s.put dst v=some ((dw.put dst v).app s):=by
 cases dst with
 | none=>rfl
 | some t=>simp only [N8] at h;simp only [AS.put,h];rfl
def Dv (fl:Bool) (s:AS) (ar:Array Operand) (caps:List AV):Option (List AV) :=if fl then (if AV.flL (s.args ar caps) then some (s.args ar caps) else none) else some ((s.args ar caps).map (AV.vw s.h))
def QF (P:Program) (s:AS) (op:Op) (fl:Bool) (v:AV):Option (List Prop) :=
 match op with
 | .call ⟨.value x,ar,_⟩=>match s.op x with
  | .fn f caps=>match Dv fl s ar caps with
   | some args=>bif Ev fl v then some [Go.Proofs.Enters P f,bH P f args [] fun r _=>r=v] else none
   | none=>none
  | _=>none
 | _=>none
def OI (P:Program) (s:AS) (op:Op) (fl:Bool) (v:AV):Option (List Prop) :=
 match op with
 | .call ⟨.value x,ar,_⟩=>match s.op x with
  | .fn f caps=>match Dv fl s ar caps with
   | some args=>some [Go.Proofs.Enters P f,bH P f args [] (fun r _=>r=v),Ev fl v=true]
   | none=>none
  | _=>none
 | _=>none
def OJ (P:Program) (s:AS) (op:Op) (fl:Bool) (pl:List (Nat×List (Nat×Nat))) (v:AV):Option (List Prop) :=
 match op with
 | .call ⟨.value x,ar,_⟩=>match s.op x with
  | .fn f caps=>match Dv fl s ar caps with
   | some args=>bif Ev fl v then some [Go.Proofs.Enters P f,bH P f (Bw pl args) [] fun r _=>r=v] else none
   | none=>none
  | _=>none
 | _=>none
def OK (P:Program) (s:AS) (op:Op) (e:TypeId) (sz:Nat) (xs:List (List AV)):Option (List Prop) :=
 match op with
 | .call ⟨.value x,ar,_⟩=>match s.op x with
  | .fn f caps=>some [Go.Proofs.Enters P f,bH P f ((s.args ar caps).map (AV.vw s.h)) [] (fun r h=>r = .rslice 0∧h=[(0,.row e sz xs)]),∀ x∈xs,x.all AV.sc1=true]
  | _=>none
 | _=>none
def iA (P:Program) (s:AS):Op→Option AV
 | .build t ps=>Dh P t (s.parts ps)
 | .buildSlice t len ps=>dy P t len (s.parts ps)
 | _=>none
def OR (P:Program) (s:AS) (n j:Nat):Op→Option (Prop×AV)
 | .load t x=>Cl P s t (s.op x) n j
 | _=>none
def KQ (P:Program) (s:AS) (dst:Option Tmp) (n j:Nat):Op→Option (Prop×AS)
 | .store t x y=>match dst with | none=>HB P s t (s.op x) (s.op y) n j | some _=>none
 | _=>none
theorem HM {n j:Nat} {p:Prop} (hg:gd ops s o=some true) (h:KQ P s o.dst n j o.op=some (p,s')) (hp:p):nL P ops o s (· = s'):=by
 unfold KQ at h;split at h
 ·rename_i t x y hop;split at h
  ·rename_i hd;exact My hg hop hd h hp
  ·cases h
 ·cases h
def QG (P:Program) (s:AS):Op→Option (List Prop×AV)
 | .lookup t m x false=>match BC P s t (s.op m) (s.op x) with
  | some v=>some ([],v)
  | none=>match Dk P t (s.op m) (s.op x) with
   | some (p,v)=>some ([p],v)
   | none=>none
 | .lookup t m x true=>match vv P s t (s.op m) (s.op x) with
  | some v=>some ([],v)
  | none=>match zC P t (s.op m) (s.op x) with
   | some (p,v)=>some ([p],v)
   | none=>none
 | _=>none
def Fp (b:Bool):Option Bool→Bool
 | some c=>c==b
 | none=>false
theorem cA {b:Bool} {x:Option Bool} (h:Fp b x=true):x=some b:=by
 cases x with
 | none=>cases h
 | some c=>simp only [Fp,beq_iff_eq] at h;rw [h]
def Ju (P:Program) (ops:Array Oper) (s:AS) (o:Oper) (d:q9):Option (List Prop×AV) :=
 bif N8 s o.dst then (match d with
 | .s=>bif Fp false (gd ops s o) then some ([],.tup []) else none
 | .v=>bif Fp true (gd ops s o) then (match j5 P s o.op with | some (p,v)=>some (Sy o.op p,v) | none=>none) else none
 | .e v'=>bif Fp true (gd ops s o) then (match j5 P s o.op with | some (p,v)=>some (Sy o.op p++[v=v'],v') | none=>none) else none
 | .c fl v=>bif Fp true (gd ops s o) then (match QF P s o.op fl v with | some ps=>some (ps,v) | none=>none) else none
 | .cf fl v=>bif Fp true (gd ops s o) then (match OI P s o.op fl v with | some ps=>some (ps,v) | none=>none) else none
 | .cy e sz xs=>bif Fp true (gd ops s o) then (match OK P s o.op e sz xs with | some ps=>some (ps,.dslice xs) | none=>none) else none
 | .b=>bif Fp true (gd ops s o) then (match iA P s o.op with | some v=>some ([],v) | none=>none) else none
 | .l v'=>bif Fp true (gd ops s o) then (match QG P s o.op with | some (ps,v)=>some (ps++[v=v'],v') | none=>none) else none
 | .rl n j v'=>bif Fp true (gd ops s o) then (match OR P s n j o.op with | some (p,v)=>some ([p,v=v'],v') | none=>none) else none
 | .w=>bif Fp true (gd ops s o) then (match KY P s o.op with | some (p,v)=>some (PZ o.op p,v) | none=>none) else none
 | .we v'=>bif Fp true (gd ops s o) then (match KY P s o.op with | some (p,v)=>some (PZ o.op p++[v=v'],v') | none=>none) else none
 | .cw fl pl v=>bif Fp true (gd ops s o) then (match OJ P s o.op fl pl v with | some ps=>some (ps,v) | none=>none) else none
 | _=>none) else none
theorem bif_some {α:Type} {b:Bool} {x:Option α} {y:α} (h:(bif b then x else none)=some y):b=true∧x=some y:=by
 cases b with
 | true=>exact ⟨rfl,h⟩
 | false=>cases h
theorem Cq {d:q9} {ps:List Prop} {v:AV} (h:Ju P ops s o d=some (ps,v)) (hp:cQ ps):Loc P ops o s (.put o.dst v):=by
 unfold Ju at h;obtain ⟨hd,h⟩:=bif_some h;cases d;case s =>
  obtain ⟨hg,h⟩:=bif_some h;cases h;exact NW (cA hg) (cK hd _)
 case v =>
  obtain ⟨hg,h⟩:=bif_some h;split at h
  ·rename_i p v' hv;cases h;exact Lr (cA hg) hv (Jh hv hp) (cK hd _)
  ·cases h
 case e v0 =>
  obtain ⟨hg,h⟩:=bif_some h;split at h
  ·rename_i p v' hv;cases h;obtain ⟨h1,h2⟩:=cQ.append.1 hp;have h3:v'=v:=h2;subst h3;exact Lr (cA hg) hv (Jh hv h1) (cK hd _)
  ·cases h
 case c fl v0 =>
  obtain ⟨hg,h⟩:=bif_some h;split at h
  ·rename_i ps' hs;simp only [S9,Prod.mk.injEq] at h;obtain ⟨h1,h2⟩:=h;subst h1;subst h2;unfold QF at hs;split at hs
   ·rename_i x ar tys hop;split at hs
    ·rename_i f caps hx;split at hs
     ·rename_i args ha;obtain ⟨hr,hs⟩:=bif_some hs;cases hs;exact Ei hp.1 (cA hg) hop hx _ ha hp.2 hr (cK hd _)
     ·cases hs
    ·cases hs
   ·cases hs
  ·cases h
 case cf fl v0 =>
  obtain ⟨hg,h⟩:=bif_some h;split at h
  ·rename_i ps' hs;simp only [S9,Prod.mk.injEq] at h;obtain ⟨h1,h2⟩:=h;subst h1;subst h2;unfold OI at hs;split at hs
   ·rename_i x ar tys hop;split at hs
    ·rename_i f caps hx;split at hs
     ·rename_i args ha;cases hs;exact Ei hp.1 (cA hg) hop hx _ ha hp.2.1 hp.2.2 (cK hd _)
     ·cases hs
    ·cases hs
   ·cases hs
  ·cases h
 case cy e0 sz0 xs0 =>
  obtain ⟨hg,h⟩:=bif_some h;split at h
  ·rename_i ps' hs;simp only [S9,Prod.mk.injEq] at h;obtain ⟨h1,h2⟩:=h;subst h1;subst h2;unfold OK at hs;split at hs
   ·rename_i x ar tys hop;split at hs
    ·rename_i f caps hx;cases hs;exact Mn hp.1 (cA hg) hop hx hp.2.2 hp.2.1 (cK hd _)
    ·cases hs
   ·cases hs
  ·cases h
 case rl n j v0 =>
  obtain ⟨hg,h⟩:=bif_some h;split at h
  ·rename_i p v' hv;cases h;obtain ⟨h1,h2⟩:=hp;have h3:v'=v:=h2;subst h3;unfold OR at hv;split at hv
   ·rename_i t x hop;exact Mq (cA hg) hop hv h1 (cK hd _)
   ·cases hv
  ·cases h
 case w =>
  obtain ⟨hg,h⟩:=bif_some h;split at h
  ·rename_i p v' hv;cases h;exact NX (cA hg) hv (Gp hv hp) (cK hd _)
  ·cases h
 case we v0 =>
  obtain ⟨hg,h⟩:=bif_some h;split at h
  ·rename_i p v' hv;cases h;obtain ⟨h1,h2⟩:=cQ.append.1 hp;have h3:v'=v:=h2;subst h3;exact NX (cA hg) hv (Gp hv h1) (cK hd _)
  ·cases h
 case cw fl pl v0 =>
  obtain ⟨hg,h⟩:=bif_some h;split at h
  ·rename_i ps' hs;simp only [S9,Prod.mk.injEq] at h;obtain ⟨h1,h2⟩:=h;subst h1;subst h2;unfold OJ at hs;split at hs
   ·rename_i x ar tys hop;split at hs
    ·rename_i f caps hx;split at hs
     ·rename_i args ha;obtain ⟨hr,hs⟩:=bif_some hs;cases hs;exact Ei hp.1 (cA hg) hop hx _ ha hp.2.wk hr (cK hd _)
     ·cases hs
    ·cases hs
   ·cases hs
  ·cases h
 case b =>
  obtain ⟨hg,h⟩:=bif_some h;split at h
  ·rename_i v' hs;cases h;unfold iA at hs;split at hs
   ·rename_i t parts hop;exact Ml (cA hg) hop hs (cK hd _)
   ·rename_i t len parts hop;exact Eh (cA hg) hop hs (cK hd _)
   ·cases hs
  ·cases h
 case l v0 =>
  obtain ⟨hg,h⟩:=bif_some h;split at h
  ·rename_i qs v' hs;cases h;unfold QG at hs;split at hs
   ·rename_i t m x hop;obtain ⟨hq,h3⟩:=cQ.append.1 hp;have h3:v'=v:=h3;subst h3;split at hs
    ·rename_i h4;cases hs;exact NV (cA hg) hop h4 (cK hd _)
    ·split at hs
     ·rename_i h5;cases hs;exact Mp (cA hg) hop h5 hq (cK hd _)
     ·cases hs
   ·rename_i t m x hop;obtain ⟨hq,h3⟩:=cQ.append.1 hp;have h3:v'=v:=h3;subst h3;split at hs
    ·rename_i h4;cases hs;exact Mo (cA hg) hop h4 (cK hd _)
    ·split at hs
     ·rename_i h5;cases hs;exact Kj (cA hg) hop h5 hq (cK hd _)
     ·cases hs
   ·cases hs
  ·cases h
 all_goals cases h
def HJ (P:Program) (s:AS) (dst:Option Tmp) (v:AV) (h1:List (Nat×AO)):Op→Option (List Prop×dw)
 | .call ⟨.value x,ar,_⟩=>match s.op x,dst with
  | .fn f caps,some k=>bif AV.flL (s.args ar caps)&&(Nat.blt k s.n&&Nat.blt k 1000) && !(lk .gone h1 0).isR then some ([Go.Proofs.Enters P f,bH P f (s.args ar caps) [] fun r h=>r=v∧h=h1],⟨[(k,AV.ren [(0,k)] v)],[(k,AO.ren [(0,k)] (lk .gone h1 0))],[k],[]⟩) else none
  | _,_=>none
 | _=>none
theorem FP {v:AV} {h1:List (Nat×AO)} {ps:List Prop} {e:dw} (hg:gd ops s o=some true) (h:HJ P s o.dst v h1 o.op=some (ps,e)) (hp:cQ ps):Loc P ops o s e:=by
 unfold HJ at h;split at h
 ·rename_i x ar tys hop;split at h
  ·rename_i f caps k hx hd;obtain ⟨hc,h⟩:=bif_some h;rw [SY,SY] at hc;cases h;exact Mm hp.1 hg hop hx hc.1.1 hd hc.1.2 (by simpa using hc.2) hp.2
  ·cases h
 ·cases h
def OS (P:Program) (ops:Array Oper) (s:AS) (o:Oper) (d:q9):Option (List Prop×dw) :=
 match d with
 | .m=>bif Fp true (gd ops s o) then (match OL P s o.dst o.op with | some e=>some ([],e) | none=>none) else none
 | .apx zs=>bif Fp true (gd ops s o) then OH P s o.dst zs o.op else none
 | .lt=>bif Fp true (gd ops s o) then QX P s o.dst o.op else none
 | .hN v h1=>bif Fp true (gd ops s o) then HJ P s o.dst v h1 o.op else none
 | d=>match Ju P ops s o d with
  | some (p,v)=>some (p,.put o.dst v)
  | none=>none
theorem JA {d:q9} {ps:List Prop} {e:dw} (h:OS P ops s o d=some (ps,e)) (hp:cQ ps):Loc P ops o s e:=by
 have hE:(match Ju P ops s o d with | some (p,v)=>some (p,dw.put o.dst v) | none=>none)=some (ps,e)→Loc P ops o s e:=fun h=>by
  split at h
  ·rename_i p v hv;cases h;exact Cq hv hp
  ·cases h
 unfold OS at h;cases d;case m =>
  obtain ⟨hg,h⟩:=bif_some h;split at h
  ·rename_i e' he;cases h;exact Jv (cA hg) he
  ·cases h
 case apx=>obtain ⟨hg,h⟩:=bif_some h;exact Jt (cA hg) h hp.mem
 case lt=>obtain ⟨hg,h⟩:=bif_some h;exact JS (cA hg) h
 case hN=>obtain ⟨hg,h⟩:=bif_some h;exact FP (cA hg) h hp
 all_goals exact hE h
def apps:List dw→AS→AS
 | [],s=>s
 | e::es,s=>apps es (e.app s)
theorem BG:∀ (es fs:List dw) (s:AS),apps (es++fs) s=apps fs (apps es s)
 | [],_,_=>rfl
 | e::es,fs,s=>BG es fs (e.app s)
theorem lG.append:∀ {os:List Oper} {es:List dw} {s s1:AS} {os2:List Oper} {es2:List dw} {s2:AS},lG P ops os es s s1→lG P ops os2 es2 s1 s2→lG P ops (os++os2) (es++es2) s s2
 | [],[],_,_,_,_,_,h,h2=>by cases h;exact h2
 | [],_::_,_,_,_,_,_,h,_=>h.elim
 | _::_,[],_,_,_,_,_,h,_=>h.elim
 | _::_,_::_,_,_,_,_,_,h,h2=>⟨h.1,lG.append h.2 h2⟩
theorem xJ.same {s1 s2 s':AS} (e:kq s1 s2) (h:xJ ops o s2 s'):xJ ops o s1 s':=⟨h.n.trans e.n,fun t ht=>(h.t t ht).trans (e.t t),fun hm x hx k hk=>(h.h hm x hx k (by
 have:s2.op x=s1.op x:=by cases x with | tmp t=>exact e.t t | _=>rfl
 rw [this];exact hk)).trans (e.h k)⟩
theorem Loc.same {s1 s2:AS} {e:dw} (h:Loc P ops o s1 e) (q:kq s1 s2):Loc P ops o s2 e:=fun s' ha hf hx=>h s' (ha.same q) hf hx
theorem kq.app {s1 s2:AS} (q:kq s1 s2) (e:dw):kq (e.app s1) (e.app s2):=⟨q.n,fun i=>by simp only [dw.app,gq,q.t],fun k=>by simp only [dw.app,gq,q.h]⟩
theorem lG.same:∀ {os:List Oper} {es:List dw} {s1 s2 x:AS},lG P ops os es s1 x→kq s1 s2→lG P ops os es s2 (apps es s2)
 | [],[],_,_,_,_,_=>rfl
 | [],_::_,_,_,_,h,_=>h.elim
 | _::_,[],_,_,_,h,_=>h.elim
 | _::_,e::_,_,_,_,h,q=>⟨h.1.same q,lG.same h.2 (q.app e)⟩
def Qa (s:AS) (t:Nat) (b:Bool):AS:=⟨s.n,ins t (.bool b) s.t,s.h⟩
def Sv (pol b:Bool):AV→AV→AV
 | .bool x,.bool y=>.bool (bif pol then (bif b then x else y) else (bif b then y else x))
 | v,w=>bif pol then (bif b then v else w) else (bif b then w else v)
theorem N1 (pol:Bool) (v w:AV):Sv pol pol v w=v∧Sv pol (!pol) v w=w:=by unfold Sv;split<;>cases pol<;>exact ⟨rfl,rfl⟩
def Su (pol b:Bool):List dw→List dw→Option (List dw)
 | [],[]=>some []
 | ⟨[(t,v)],[],[],[]⟩::es,⟨[(u,w)],[],[],[]⟩::fs=>bif Nat.beq t u then (match Su pol b es fs with | some r=>some (⟨[(t,Sv pol b v w)],[],[],[]⟩::r) | none=>none) else none
 | _,_=>none
theorem N0 {pol b:Bool}:∀ {es fs r:List dw},Su pol b es fs=some r→(b=pol→r=es)∧(b = !pol→r=fs)∧∀ e∈r,e.fr=[]∧e.ex=[]
 | [],[],r,h=>by cases h;exact ⟨fun _=>rfl,fun _=>rfl,fun e he=>by cases he⟩
 | ⟨[(t,v)],[],[],[]⟩::es,⟨[(u,w)],[],[],[]⟩::fs,r,h=>by
  unfold Su at h;have h9:=bif_some h;clear h;obtain ⟨ht,h⟩:=h9;have ht:=Nat.eq_of_beq_eq_true ht;subst ht;split at h
  ·rename_i r' hr;cases h;obtain ⟨h1,h2,h3⟩:=N0 hr;refine ⟨fun q=>?_,fun q=>?_,fun e he=>?_⟩
   ·rw [h1 q,q,(N1 pol v w).1]
   ·rw [h2 q,q,(N1 pol v w).2]
   ·rcases List.mem_cons.1 he with rfl | he
    ·exact ⟨rfl,rfl⟩
    ·exact h3 e he
  ·cases h
def QE:List Oper→List q9
 | []=>[]
 | [_]=>[.v]
 | _::os=>.s::QE os
def impl (c pol b:Bool) (ps:List Prop):List Prop:=bif c then [b=pol→cQ ps] else ps
def QZ (ops:Array Oper) (s:AS) (o:Oper):Option (Nat×Bool×Bool):=match o.guard with
 | some (j,pol)=>(match (match ops[j]? with | some x=>x.dst | none=>none) with
  | some t=>(match lk .any s.t t with | .bool b=>some (t,pol,b) | _=>none)
  | none=>none)
 | none=>none
theorem L2 {t:Nat} {pol b:Bool} (h:QZ ops s o=some (t,pol,b)):lk .any s.t t = .bool b:=by
 unfold QZ at h;split at h
 ·split at h
  ·split at h
   ·rename_i hb;cases h;exact hb
   ·cases h
  ·cases h
 ·cases h
def Ph (c:Bool) (ops:Array Oper) (run:List Oper→List q9→AS→Option (List Prop×List dw)) (ds:List q9) (s:AS):List Oper→Option (List Prop×List dw)
 | []=>none
 | o::os=>match QZ ops s o with
  | some (t,pol,b)=>(match run (o::os) ds (Qa s t pol),run (o::os) (QE (o::os)) (Qa s t (!pol)) with
   | some (ps,es),some ([],fs)=>(match Su pol b es fs with | some r=>some (impl c pol b ps,r) | none=>none)
   | _,_=>none)
  | none=>none
def M4 (P:Program) (ops:Array Oper) (run:List Oper→List q9→AS→Option (List Prop×List dw)):Prop:=∀ {os:List Oper} {ds:List q9} {s:AS} {ps:List Prop} {es:List dw},run os ds s=some (ps,es)→cQ ps→lG P ops os es s (apps es s)
theorem Gs {t:Nat} {b:Bool} (h:lk .any s.t t = .bool b):kq (Qa s t b) s:=⟨rfl,fun i=>by
 unfold Qa;rw [bB];split
 ·rename_i q;rw [q,h]
 ·rfl,fun _=>rfl⟩
theorem Dr {run:List Oper→List q9→AS→Option (List Prop×List dw)} (hr:M4 P ops run) {os:List Oper} {ds:List q9} {ps:List Prop} {es:List dw} {c:Bool} (h:Ph c ops run ds s os=some (ps,es)) (hp:cQ ps):lG P ops os es s (apps es s)∧∀ e∈es,e.fr=[]∧e.ex=[]:=by
 cases os with
 | nil=>cases h
 | cons o os =>
  simp only [Ph] at h;split at h
  ·rename_i t pol b hg;split at h
   ·rename_i ps1 es1 fs1 h1 h2;split at h
    ·rename_i r hm;simp only [S9,Prod.mk.injEq] at h;obtain ⟨q1,q2⟩:=h;subst q1;subst q2;obtain ⟨m1,m2,m3⟩:=N0 hm;refine ⟨?_,m3⟩;have hb:=L2 hg;by_cases hq:b=pol
     ·rw [m1 hq];rw [hq] at hb;refine (hr h1 ?_).same (Gs hb);cases c with
      | false=>exact hp
      | true=>exact hp hq
     ·have hq:b = !pol:=by cases b<;>cases pol<;>first | rfl | exact absurd rfl hq
      rw [m2 hq];rw [hq] at hb;exact (hr h2 trivial).same (Gs hb)
    ·cases h
   ·cases h
  ·cases h
def KH (P:Program) (ops:Array Oper) (run:List Oper→List q9→AS→Option (List Prop×List dw)):List q9→List Oper→AS→Option (List Prop×List dw)
 | [],[],_=>some ([],[])
 | .gb c n d1::ds,os,s=>match Ph c ops run d1 s (os.take n) with
  | some (p,e)=>(match KH P ops run ds (os.drop n) (apps e s) with
   | some (ps,es)=>some (p++ps,e++es)
   | none=>none)
  | none=>none
 | d::ds,o::os,s=>match OS P ops s o d with
  | some (p,e)=>(match KH P ops run ds os (e.app s) with
   | some (ps,es)=>some (p++ps,e::es)
   | none=>none)
  | none=>none
 | _,_,_=>none
theorem zp {run:List Oper→List q9→AS→Option (List Prop×List dw)} (hr:M4 P ops run):∀ {ds:List q9} {os:List Oper} {s:AS} {ps:List Prop} {es:List dw},KH P ops run ds os s=some (ps,es)→cQ ps→lG P ops os es s (apps es s)
 | [],[],s,ps,es,h,hp=>by simp only [KH] at h;cases h;rfl
 | [],_::_,s,ps,es,h,hp=>by simp only [KH] at h;cases h
 | d::ds,os,s,ps,es,h,hp=>by
  unfold KH at h;split at h
  ·rename_i ho;cases ho
  ·rename_i c n d1 ds' os' s' hd;cases hd;split at h
   ·rename_i p e hb;split at h
    ·rename_i ps' es' h2;simp only [S9,Prod.mk.injEq] at h;obtain ⟨q1,q2⟩:=h;subst q1;subst q2;obtain ⟨p1,p2⟩:=cQ.append.1 hp;have c1:=(Dr hr hb p1).1;have c2:=zp hr h2 p2;rw [BG];have c3:=c1.append c2;rw [List.take_append_drop] at c3;exact c3
    ·cases h
   ·cases h
  ·rename_i d' ds' o' os' s' hn hd;cases hd;split at h
   ·rename_i p e hv;split at h
    ·rename_i ps' es' h2;simp only [S9,Prod.mk.injEq] at h;obtain ⟨q1,q2⟩:=h;subst q1;subst q2;obtain ⟨p1,p2⟩:=cQ.append.1 hp;exact ⟨JA hv p1,zp hr h2 p2⟩
    ·cases h
   ·cases h
  ·cases h
def runK (P:Program) (ops:Array Oper):Nat→List Oper→List q9→AS→Option (List Prop×List dw)
 | 0,_,_,_=>none
 | k+1,os,ds,s=>KH P ops (runK P ops k) ds os s
theorem zq:∀ (k:Nat),M4 P ops (runK P ops k)
 | 0=>fun h _=>by cases h
 | k+1=>fun h hp=>zp (zq k) h hp
def Sq (P:Program) (ops:Array Oper) (os:List Oper) (ds:List q9) (s:AS):Option (List Prop×List dw):=runK P ops 5 os ds s
theorem KG {os:List Oper} {ds:List q9} {s:AS} {ps:List Prop} {es:List dw} (h:Sq P ops os ds s=some (ps,es)) (hp:cQ ps):lG P ops os es s (apps es s):=zq 5 h hp
theorem Loc.op {e:dw} (h:Loc P ops o s e) (hf:e.fr=[]) (hx:e.ex=[]):nL P ops o s (fun s''=>kq (e.app s) s'') :=
 h s ⟨rfl,fun _ _=>rfl,fun _ _ _ _ _=>rfl⟩ (fun k hk=>by rw [hf] at hk;cases hk) (fun p hp=>by rw [hx] at hp;cases hp)
def OM (P:Program) (s:AS) (dst:Option Tmp):Op→Option AS
 | .box t x=>match dst with | some k=>Gz s t (s.op x) k | none=>none
 | .alloc t=>match dst,zeroOf P t with | some k,some z=>Gz s t (AV.of z) k | _,_=>none
 | .store t x y=>match dst with | none=>AP P s t (s.op x) (s.op y) | some _=>none
 | .makeMap t none=>match dst with | some k=>Dl P s t k | none=>none
 | .mapUpdate t m x y=>match dst with | none=>FU P s t (s.op m) (s.op x) (s.op y) | some _=>none
 | .insert t m x y=>match dst with | none=>FU P s t (s.op m) (s.op x) (s.op y) | some _=>none
 | .range t m=>match dst with
  | some k=>match JU P s t (s.op m) k with
   | some s'=>some s'
   | none=>GL P s t (s.op m) k
  | none=>none
 | .next it false=>match JT s (s.op it) with
  | some v=>s.put dst v
  | none=>none
 | op=>match Bt P s op with | some v=>s.put dst v | none=>none
theorem Jw (hg:gd ops s o=some true) (h:OM P s o.dst o.op=some s'):nL P ops o s (· = s'):=by
 unfold OM at h;split at h
 ·rename_i t x hop;split at h
  ·rename_i k hd;exact N9 hg hop hd h
  ·cases h
 ·rename_i t hop;split at h
  ·rename_i k z hd hz;exact I8 hg hop hd hz h
  ·cases h
 ·rename_i t x y hop;split at h
  ·rename_i hd;exact Ja hg hop hd h
  ·cases h
 ·rename_i t hop;split at h
  ·rename_i k hd;exact Ku hg hop hd h
  ·cases h
 ·rename_i t m x y hop;split at h
  ·rename_i hd;exact PQ hg hop hd h
  ·cases h
 ·rename_i t m x y hop;split at h
  ·rename_i hd;exact PO hg hop hd h
  ·cases h
 ·rename_i t m hop;split at h
  ·rename_i k hd;split at h
   ·rename_i h2;cases h;exact Ol hg hop hd h2
   ·exact Mx hg hop hd h
  ·cases h
 ·rename_i it hop;split at h
  ·rename_i v hv;exact Oj hg hop hv h
  ·cases h
 ·split at h
  ·exact Ij hg (by assumption) h
  ·cases h
def HL (P:Program) (s:AS) (dst:Option Tmp) (ps:List (Nat×Nat)) (d:Nat) (v:AV) (h1:List (Nat×AO)) (f:FuncId) (args0:List AV):Option (List Prop×AS) :=
 bif uo ps&&(ps.all fun p=>Nat.ble 1000 p.2&&(Nat.blt p.2 1000000&&Nat.blt p.1 1000000))&&(rk ps d).isNone&&Nat.blt d 1000&&(s.noR||(ps.isEmpty && !(lk .gone h1 0).isR)) then (match AS.put ⟨s.n,vl d s.t,nN ps d h1 s.h⟩ dst (AV.ren ((0,d)::swp ps) v) with
  | some s'=>some ([Go.Proofs.Enters P f,bH P f (args0.map (AV.ren ps)) (hand ps s.h) fun r h'=>r=v∧h'=h1],s')
  | none=>none) else none
def OQ (P:Program) (s:AS) (dst:Option Tmp) (ps:List (Nat×Nat)) (d:Nat) (v:AV) (h1:List (Nat×AO)):Op→Option (List Prop×AS)
 | .call ⟨.value x,ar,_⟩=>match s.op x with
  | .fn f caps=>HL P s dst ps d v h1 f (s.args ar caps)
  | .bm f k off=>HL P s dst ps d v h1 f (AV.hptr k off::s.args ar [])
  | _=>none
 | _=>none
theorem Jz {ps:List (Nat×Nat)} {d:Nat} {v:AV} {h1:List (Nat×AO)} {qs:List Prop} (hg:gd ops s o=some true) (h:OQ P s o.dst ps d v h1 o.op=some (qs,s')) (hp:cQ qs):nL P ops o s (· = s'):=by
 have key:∀ {f:FuncId} {args0:List AV} {x:Operand} {ar:Array Operand} {tys:Array TypeId},o.op = .call ⟨.value x,ar,tys⟩→(Go.Proofs.Enters P f→∀ (c:Cx P) a w β κ,Rel c s a w β κ→∃ vs:Array Value,(execOp a.eval o).run P w = .ok (.enter f vs) w∧vs.size=args0.length∧∀ i,i<args0.length→G w (c.XX s.h β) β κ (args0.getD i .any) (vs.toList.getD i undef))→HL P s o.dst ps d v h1 f args0=some (qs,s')→nL P ops o s (· = s'):=by
  intro f args0 x ar tys hop hx h;unfold HL at h;obtain ⟨hc0,h2⟩:=bif_some h;rw [SY] at hc0;obtain ⟨hc,hor⟩:=hc0;have hor:s.noR=true∨(ps=[]∧∀ v2 h',(v2=v∧h'=h1)→(lk .gone h' 0).isR=false):=by rw [Bool.or_eq_true,SY] at hor;refine hor.imp id fun h=>⟨by simpa using h.1,fun v2 h' e=>?_⟩;rw [e.2];simpa using h.2
  split at h2
  ·rename_i s2 hs;simp only [S9,Prod.mk.injEq] at h2;obtain ⟨h3,h4⟩:=h2;subst h3;subst h4;exact I9 hp.1 hg hop (hx hp.1) ps d hc hor rfl rfl hp.2 fun r h' hr=>by obtain ⟨rfl,rfl⟩:=hr;exact ⟨_,hs,rfl⟩
  ·cases h2
 unfold OQ at h;split at h
 ·rename_i x ar tys hop;split at h
  ·rename_i f caps hx;exact key hop (fun he=>GU he hop hx) h
  ·rename_i f k off hx;exact key hop (fun he=>K3 he hop hx) h
  ·cases h
 ·cases h
def HG (P:Program) (s:AS) (dst:Option Tmp) (ps ds:List (Nat×Nat)) (v:AV) (h1:List (Nat×AO)) (f:FuncId) (args0:List AV):Option (List Prop×AS) :=
 bif (uo ps&&(ps.all fun p=>Nat.ble 1000 p.2&&(Nat.blt p.2 1000000&&Nat.blt p.1 1000000))&&uo ds&&ds.all fun p=>(rk ps p.2).isNone&&(Nat.blt p.1 1000&&Nat.blt p.2 1000))&&(s.noR||(ps.isEmpty&&h1.all fun p=>!p.2.isR)) then (match AS.put ⟨s.n,Mz ds s.t,p6 ps ds h1 s.h⟩ dst (AV.ren (ds++swp ps) v) with
  | some s'=>some ([Go.Proofs.Enters P f,bH P f (args0.map (AV.ren ps)) (hand ps s.h) fun r h'=>r=v∧h'=h1],s')
  | none=>none) else none
def KO (P:Program) (s:AS) (dst:Option Tmp) (ps ds:List (Nat×Nat)) (v:AV) (h1:List (Nat×AO)):Op→Option (List Prop×AS)
 | .call ⟨.value x,ar,_⟩=>match s.op x with
  | .fn f caps=>HG P s dst ps ds v h1 f (s.args ar caps)
  | .bm f k off=>HG P s dst ps ds v h1 f (AV.hptr k off::s.args ar [])
  | _=>none
 | _=>none
theorem HH {ps ds:List (Nat×Nat)} {v:AV} {h1:List (Nat×AO)} {qs:List Prop} (hg:gd ops s o=some true) (h:KO P s o.dst ps ds v h1 o.op=some (qs,s')) (hp:cQ qs):nL P ops o s (· = s'):=by
 have key:∀ {f:FuncId} {args0:List AV} {x:Operand} {ar:Array Operand} {tys:Array TypeId},o.op = .call ⟨.value x,ar,tys⟩→(Go.Proofs.Enters P f→∀ (c:Cx P) a w β κ,Rel c s a w β κ→∃ vs:Array Value,(execOp a.eval o).run P w = .ok (.enter f vs) w∧vs.size=args0.length∧∀ i,i<args0.length→G w (c.XX s.h β) β κ (args0.getD i .any) (vs.toList.getD i undef))→HG P s o.dst ps ds v h1 f args0=some (qs,s')→nL P ops o s (· = s'):=by
  intro f args0 x ar tys hop hx h;unfold HG at h;obtain ⟨hc0,h2⟩:=bif_some h;rw [SY] at hc0;obtain ⟨hc,hor⟩:=hc0;have hor:s.noR=true∨(ps=[]∧∀ v2 h',(v2=v∧h'=h1)→∀ j,(lk .gone h' j).isR=false):=by rw [Bool.or_eq_true,SY] at hor;refine hor.imp id fun h=>⟨by simpa using h.1,fun v2 h' e j=>?_⟩;rw [e.2];have:=C9 (p:=fun o:AO=>!o.isR) (d:=AO.gone) rfl h.2 j;simpa using this
  split at h2
  ·rename_i s2 hs;simp only [S9,Prod.mk.injEq] at h2;obtain ⟨h3,h4⟩:=h2;subst h3;subst h4;exact Oc hp.1 hg hop (hx hp.1) ps ds hc hor rfl rfl hp.2 fun r h' hr=>by obtain ⟨rfl,rfl⟩:=hr;exact ⟨_,hs,rfl⟩
  ·cases h2
 unfold KO at h;split at h
 ·rename_i x ar tys hop;split at h
  ·rename_i f caps hx;exact key hop (fun he=>GU he hop hx) h
  ·rename_i f k off hx;exact key hop (fun he=>K3 he hop hx) h
  ·cases h
 ·cases h
def rowAt (s:AS):AV→Option (Nat×List (List AV))
 | .rslice k=>match lk .gone s.h k with | .row _ _ xs=>some (k,xs) | _=>none
 | _=>none
def St:AV→Option (List (List AV))
 | .dslice ys=>some ys
 | .eslice=>some []
 | _=>none
def Sl (s:AS) (x:AV):Option TypeId:=match x with | .rslice k=>(match lk .gone s.h k with | .row e _ _=>some e | _=>none) | _=>none
def Sn (s:AS) (x:AV):Option Nat:=match x with | .rslice k=>(match lk .gone s.h k with | .row _ e _=>some e | _=>none) | _=>none
def RR:AV→Option (List (List AV))
 | .cslice xs=>some xs
 | _=>none
theorem L8 {v:AV} {xs:List (List AV)} (h:RR v=some xs):v = .cslice xs:=by cases v<;>first | (cases h;rfl) | cases h
def OP (P:Program) (s:AS) (k':Nat) (t:TypeId) (xs:List (List AV)) (y:Operand):Option (List Prop×AS) :=
 match jS P t,s.op y with
 | some (e,sz,by_),.dslice (y0::ys)=>(match s.grow k' k' e sz (xs++y0::ys) with
  | some s'=>some ([EL sz (xs++y0::ys),(xs.length+(y0::ys).length)*by_≤140737488355328,xs.length+(y0::ys).length≤9223372036854775807],s')
  | none=>none)
 | _,_=>none
def OO (P:Program) (s:AS) (dst:Option Tmp):Op→Option (List Prop×AS)
 | .call ⟨.builtin .append,ar,tys⟩=>match ar.toList,tys.toList,dst with
  | [x,y],[t,t'],some k'=>if t=t' then (match RR (s.op x) with | some xs=>OP P s k' t xs y | none=>match jS P t,rowAt s (s.op x),St (s.op y) with
   | some (e,sz,by_),some (k,xs),some ys=>if Sl s (s.op x)=some e∧Sn s (s.op x)=some sz then (match s.grow k k' e sz (xs++ys) with
    | some s'=>some ([EL sz ys,(xs.length+ys.length)*by_≤140737488355328,xs.length+ys.length≤9223372036854775807],s')
    | none=>none) else none
   | _,_,_=>none) else none
  | _,_,_=>none
 | .buildSlice t len ps=>match dst,jS P t,dy P t len (s.parts ps) with
  | some k',some (e,sz,_),some (.dslice xs)=>(match s.grow k' k' e sz xs with | some s'=>some ([],s') | none=>none)
  | _,_,_=>none
 | _=>none
theorem Jy {ps:List Prop} (hg:gd ops s o=some true) (h:OO P s o.dst o.op=some (ps,s')) (hp:cQ ps):nL P ops o s (· = s'):=by
 unfold OO at h;split at h
 ·rename_i ar tys hop;split at h
  ·rename_i x y t t' k' har hty hd;split at h;case isFalse=>cases h
   rename_i ht;subst ht;have e1:ar = #[x,y]:=by rw [← Array.toList_inj];exact har
   have e2:tys = #[t,t]:=by rw [← Array.toList_inj];exact hty
   subst e1;subst e2;split at h
   ·rename_i xs hcs;have hx:=L8 hcs;unfold OP at h;split at h
    ·rename_i e sz by_ y0 ys he hy;split at h
     ·rename_i s2 hs;cases h;exact Kt hg hop hd he hx hy hp.1 (by simp) hp.2.1 hp.2.2 hs
     ·cases h
    ·cases h
   split at h
   ·rename_i e sz by_ k xs ys he hx hy;split at h;case isFalse=>cases h
    rename_i hm;split at h
    ·rename_i s2 hs;cases h;have hx':s.op x = .rslice k∧lk .gone s.h k = .row e sz xs:=by
      unfold rowAt at hx;split at hx
      ·rename_i k2 hk2;split at hx
       ·rename_i e3 sz3 xs3 h3;cases hx;simp only [hk2,Sl,Sn,h3,S9] at hm;obtain ⟨e4,e5⟩:=hm;subst e4;subst e5;exact ⟨hk2,h3⟩
       ·cases hx
      ·cases hx
     have hy':s.op y = .dslice ys∨(s.op y = .eslice∧ys=[]):=by
      unfold St at hy;split at hy
      ·cases hy;exact .inl (by assumption)
      ·cases hy;exact .inr ⟨by assumption,rfl⟩
      ·cases hy
     exact Bh hg hop hd he (.inr hx') hy' hp.1 hp.2.1 hp.2.2 hs
    ·cases h
   ·cases h
  ·cases h
 ·rename_i t len ps hop;split at h
  ·rename_i k' e2 sz by_ xs hd he hv;split at h
   ·rename_i s2 hs;cases h;exact Ce hg hop hd he hv (.inl rfl) hs
   ·cases h
  ·cases h
 ·cases h
def stepG (P:Program) (s:AS) (dst:Option Tmp):Op→Option (List Prop×AS)
 | .call ⟨.builtin .append,ar,tys⟩=>match ar.toList,tys.toList,dst with
  | [x,y],[t,t'],some k'=>if t=t' then (match jS P t,s.op x,s.op y with
   | some (e,sz,by_),.gslice k,.dslice []=>(match s.put dst (.gslice k) with | some s'=>some ([],s') | none=>none)
   | some (e,sz,by_),.gslice k,.dslice (y0::ys)=>(match lk .gone s.h k with
    | .room e' sz'=>if e'=e∧sz'=sz then (match s.grow k k' e sz (y0::ys) with
     | some s'=>some ([EL sz (y0::ys),(y0::ys).length*by_≤140737488355328,(y0::ys).length≤9223372036854775807],s')
     | none=>none) else none
    | _=>none)
   | _,_,_=>none) else none
  | _,_,_=>none
 | _=>none
theorem Te {ps:List Prop} (hg:gd ops s o=some true) (h:stepG P s o.dst o.op=some (ps,s')) (hp:cQ ps):nL P ops o s (· = s'):=by
 unfold stepG at h;split at h
 ·rename_i ar tys hop;split at h
  ·rename_i x y t t' k' har hty hd;split at h;case isFalse=>cases h
   rename_i ht;subst ht;have e1:ar = #[x,y]:=by rw [← Array.toList_inj];exact har
   have e2:tys = #[t,t]:=by rw [← Array.toList_inj];exact hty
   subst e1;subst e2;split at h
   ·rename_i e sz by_ k he hx hy;split at h
    ·rename_i s2 hs;cases h;exact Td hg hop he hx hy hs
    ·cases h
   ·rename_i e sz by_ k y0 ys he hx hy;split at h
    ·rename_i e' sz' hk;split at h;case isFalse=>cases h
     rename_i hm;obtain ⟨rfl,rfl⟩:=hm;split at h
     ·rename_i s2 hs;cases h;exact Tf hg hop hd he hx hk hy (by simp) hp.1 hp.2.1 hp.2.2 hs
     ·cases h
    ·cases h
   ·cases h
  ·cases h
 ·cases h
def ON (s:AS) (dst:Option Tmp) (i:Nat) (v':AV):Op→Option (List Prop×AS)
 | .entry it=>match s.op it with
  | .hptr k 0=>match lk .gone s.h k with
   | .iter es sn=>match s.put dst v' with
    | some s'=>some ([sn.getLast? = some i,AV.tup [(es.getD i default).1.av,(es.getD i default).2]=v'],s')
    | none=>none
   | _=>none
  | _=>none
 | _=>none
theorem Jx {i:Nat} {v':AV} {ps:List Prop} (hg:gd ops s o=some true) (h:ON s o.dst i v' o.op=some (ps,s')) (hp:cQ ps):nL P ops o s (· = s'):=by
 unfold ON at h;split at h
 ·rename_i it hop;split at h
  ·rename_i k hi;split at h
   ·rename_i es sn hk;split at h
    ·rename_i s2 hs;cases h;obtain ⟨h1,h2⟩:=hp;have h2:AV.tup [(es.getD i default).1.av,(es.getD i default).2]=v':=h2;subst h2;exact Of hg hop hi hk h1 hs
    ·cases h
   ·cases h
  ·cases h
 ·cases h
theorem SH {rest:List Oper} {Q:Exit→AS→Prop} {k:Nat} {es':List (Key×AV)} {p:Prop} (h:s.frzO k es'=some (p,s')) (hp:p) (ht:jD P ops rest Q s'):jD P ops rest Q s:=fun c a w β κ r=>ht c a w β κ (r.frzO h hp)
theorem jD.same {rest:List Oper} {Q:Exit→AS→Prop} (h:jD P ops rest Q s) (e:kq s' s):jD P ops rest Q s':=fun c a w β κ r=>h c a w β κ (r.same e)
theorem SF {rest:List Oper} {Q:Exit→AS→Prop} {t k:Nat} {e:TypeId} {sz:Nat} (h:s.erow t k e sz=some s') (ht:jD P ops rest Q s'):jD P ops rest Q s:=fun c a w β κ r=>by obtain ⟨κ',r'⟩:=r.erow h;exact ht c a w β κ' r'
theorem SG {rest:List Oper} {Q:Exit→AS→Prop} {k:Nat} {p:Prop} (h:s.frzM k=some (p,s')) (hp:p) (ht:jD P ops rest Q s'):jD P ops rest Q s:=fun c a w β κ r=>ht c a w β κ (r.frzM h hp)
theorem OB {t:Nat} {v:AV} (h:lk .any s.t t=v):kq ⟨s.n,ins t v s.t,s.h⟩ s:=⟨rfl,fun i=>by
 show lk .any s.t i=lk .any (ins t v s.t) i;rw [bB];split
 ·rename_i e;rw [e];exact h
 ·rfl,fun _=>rfl⟩
theorem OA {k:Nat} {ob:AO} (h:lk .gone s.h k=ob):kq ⟨s.n,s.t,ins k ob s.h⟩ s:=⟨rfl,fun _=>rfl,fun i=>by
 show lk .gone s.h i=lk .gone (ins k ob s.h) i;rw [bB];split
 ·rename_i e;rw [e];exact h
 ·rfl⟩
theorem R6 {rest:List Oper} {Q:Exit→AS→Prop} {k:Nat} {ob:AO} (h:lk .gone s.h k=ob) (ht:jD P ops rest Q ⟨s.n,s.t,ins k ob s.h⟩):jD P ops rest Q s :=
 fun c a w β κ r=>ht c a w β κ (r.same (kq.symm' (OA h)))
theorem SI {rest:List Oper} {Q:Exit→AS→Prop} (t:Nat) (p:List (Nat×Nat)) (ht:jD P ops rest Q (s.wkT t p)):jD P ops rest Q s:=fun c a w β κ r=>by exact ht c a w β κ (r.wkT t p)
def Sf (s:AS):q9→Option (List Prop×AS)
 | .fz k=>(s.frz k).map fun s'=>([],s')
 | .fm k=>(s.frzM k).map fun r=>([r.1],r.2)
 | .fo k es=>(s.frzO k es).map fun r=>([r.1],r.2)
 | .er t k e sz=>(s.erow t k e sz).map fun s'=>([],s')
 | .wk t p=>some ([],s.wkT t p)
 | .rwH k ob=>some ([lk .gone s.h k=ob],⟨s.n,s.t,ins k ob s.h⟩)
 | _=>none
theorem Rb {α:Type} {x:Option α} {r:List Prop×α} (h:(x.map fun s'=>(([]:List Prop),s'))=some r):x=some r.2:=by
 cases x with
 | none=>cases h
 | some a=>cases h;rfl
theorem Rc {x:Option (Prop×AS)} {r:List Prop×AS} (h:(x.map fun r=>([r.1],r.2))=some r) (hp:cQ r.1):∃ p,x=some (p,r.2)∧p:=by
 cases x with
 | none=>cases h
 | some a=>cases h;exact ⟨a.1,rfl,hp⟩
theorem Ky {d:q9} {r:List Prop×AS} (h:Sf s d=some r) (hp:cQ r.1) {rest:List Oper} {Q:Exit→AS→Prop} (ht:jD P ops rest Q r.2):jD P ops rest Q s:=by
 cases d;case fz k=>exact R5 k (Rb h) ht
 case fm k=>obtain ⟨p,e,hp⟩:=Rc h hp;exact SG e hp ht
 case fo k es=>obtain ⟨p,e,hp⟩:=Rc h hp;exact SH e hp ht
 case er=>exact SF (Rb h) ht
 case wk t p=>cases h;exact SI t p ht
 case rwH k ob=>cases h;exact R6 hp ht
 all_goals cases h
def KP (P:Program) (s:AS) (dst:Option Tmp) (v:AV):Op→Option (List Prop×AS)
 | .call ⟨.value x,ar,_⟩=>match s.op x with
  | .fn f caps=>bif AV.sc v then (match s.put dst v with
   | some s'=>some ([Go.Proofs.Enters P f,bH P f ((ar.toList.map fun y=>AV.vwd s.h (s.op y))++caps.map (AV.vwd1 s.h)) [] fun r _=>r=v],s')
   | none=>none) else none
  | _=>none
 | _=>none
theorem HK {v:AV} {ps:List Prop} (hg:gd ops s o=some true) (h:KP P s o.dst v o.op=some (ps,s')) (hp:cQ ps):nL P ops o s (· = s'):=by
 unfold KP at h;split at h
 ·rename_i x ar tys hop;split at h
  ·rename_i f caps hx;obtain ⟨hok,h⟩:=bif_some h;split at h
   ·rename_i s2 hs;cases h;exact Od hp.1 hg hop hx hok hp.2 hs
   ·cases h
  ·cases h
 ·cases h
def SL (P:Program) (ops:Array Oper) (s:AS) (o:Oper) (d:q9):Option (List Prop×AS) :=
 bif Fp true (gd ops s o) then (match d with
 | .m=>(OM P s o.dst o.op).map fun s'=>([],s')
 | .rs n j=>(KQ P s o.dst n j o.op).map fun r=>([r.1],r.2)
 | .ap=>OO P s o.dst o.op
 | .cq v=>KP P s o.dst v o.op
 | .apg=>stepG P s o.dst o.op
 | .mk N=>Na P s o.dst N o.op
 | .en i v=>ON s o.dst i v o.op
 | .hR qs d v h1=>OQ P s o.dst qs d v h1 o.op
 | .hM qs qd v h1=>KO P s o.dst qs qd v h1 o.op
 | _=>none) else none
theorem Mv {d:q9} {r:List Prop×AS} (h:SL P ops s o d=some r) (hp:cQ r.1):nL P ops o s (· = r.2):=by
 unfold SL at h;obtain ⟨hg,h⟩:=bif_some h;have hg:=cA hg;cases d;case m=>exact Jw hg (Rb h)
 case rs n j=>obtain ⟨p,e,hp⟩:=Rc h hp;exact HM hg e hp
 case ap=>exact Jy hg h hp
 case cq v=>exact HK hg h hp
 case apg=>exact Te hg h hp
 case mk N=>exact HZ hg h (cQ.mem hp)
 case en i v=>exact Jx hg h hp
 case hR qs d v h1=>exact Jz hg h hp
 case hM qs qd v h1=>exact HH hg h hp
 all_goals cases h
def Q7 (P:Program) (ops:Array Oper) (s:AS) (os:List Oper) (d:q9):Option (List Prop×AS×List Oper) :=
 match d,os with
 | _,_=>none
theorem J8 {d:q9} {os:List Oper} {r:List Prop×AS×List Oper} (h:Q7 P ops s os d=some r) (hp:cQ r.1) {Q:Exit→AS→Prop} (ht:jD P ops r.2.2 Q r.2.1):jD P ops os Q s:=by
 unfold Q7 at h;first
 | (cases h;done)
theorem Li {Q:Exit→AS→Prop} {rest:List Oper}:∀ {os:List Oper} {es:List dw} {s s1:AS},lG P ops os es s s1→(∀ e∈es,e.fr=[]∧e.ex=[])→jD P ops rest Q s1→jD P ops (os++rest) Q s
 | [],[],_,_,h,_,ht=>by cases h;exact ht
 | [],_::_,_,_,h,_,_=>h.elim
 | _::_,[],_,_,h,_,_=>h.elim
 | o::os,e::es,s,s1,h,he,ht=>D9 ((h.1.op (he e (.head _)).1 (he e (.head _)).2).mono fun _ q=>(Li h.2 (fun e' m=>he e' (.tail _ m)) ht).same q.symm')
def AS.fg (ts:List Nat) (s:AS):AS:=⟨s.n,s.t.filter (fun p=>!ts.any (Nat.beq p.1)),s.h⟩
theorem Qx {α:Type} (d:α) (p:Nat→Bool) (i:Nat):∀ (l:List (Nat×α)),lk d (l.filter fun x=>p x.1) i=lk d l i∨lk d (l.filter fun x=>p x.1) i=d
 | []=>.inl rfl
 | (j,u)::l=>by
  have ih:=Qx d p i l;rw [List.filter_cons];cases hp:p j with
  | true =>
   simp only [if_true,lk];cases Nat.beq i j with
   | true=>exact .inl rfl
   | false=>exact ih
  | false =>
   simp only [Bool.false_eq_true,if_false,lk];cases hb:Nat.beq i j with
   | true =>
    refine .inr ?_;have e:=Nat.eq_of_beq_eq_true hb;subst e;clear ih;induction l with
    | nil=>rfl
    | cons q l ih2 =>
     obtain ⟨j',u'⟩:=q;rw [List.filter_cons];cases hp':p j' with
     | true =>
      simp only [if_true,lk];cases hb':Nat.beq i j' with
      | true=>rw [Nat.eq_of_beq_eq_true hb',hp'] at hp;cases hp
      | false=>exact ih2
     | false=>simp only [Bool.false_eq_true,if_false];exact ih2
   | false=>exact ih
theorem Rel.fg {c:Cx P} {a:Act} {w:World} {β:Nat→Nat} {κ:Nat→Nat×Nat} (r:Rel c s a w β κ) (ts:List Nat):Rel c (s.fg ts) a w β κ:=by
 refine ⟨r.df,r.sz,fun i=>?_,r.hp⟩;rcases Qx AV.any (fun j=>!ts.any (Nat.beq j)) i s.t with e | e
 ·show G w _ β κ (lk .any (s.t.filter _) i) _;rw [e];exact r.tm i
 ·show G w _ β κ (lk .any (s.t.filter _) i) _;rw [e];exact .d (.any _)
theorem RZ {Q:Exit→AS→Prop} {rest:List Oper} (ts:List Nat) (ht:jD P ops rest Q (s.fg ts)):jD P ops rest Q s:=fun c a w β κ r=>ht c a w β κ (r.fg ts)
def Pj:List Oper→List Nat
 | []=>[]
 | [_]=>[]
 | o::os=>match o.dst with | some t=>t::Pj os | none=>Pj os
def SB:List q9→List Oper→List Nat
 | [],_=>[]
 | .gb _ n _::ds,os=>Pj (os.take n)++SB ds (os.drop n)
 | _::ds,os=>SB ds os.tail
def SC (P:Program) (ops:Array Oper) (s:AS) (os:List Oper):q9→Option (List Prop×AS×List Oper)
 | .gb c n ds=>(match Ph c ops (runK P ops 4) ds s (os.take n) with | some (p,es)=>some (p,(apps es s).fg (Pj (os.take n)),os.drop n) | none=>none)
 | _=>none
theorem Mf {d:q9} {os:List Oper} {r:List Prop×AS×List Oper} (h:SC P ops s os d=some r) (hp:cQ r.1) {Q:Exit→AS→Prop} (ht:jD P ops r.2.2 Q r.2.1):jD P ops os Q s:=by
 unfold SC at h;split at h
 ·rename_i c n ds;split at h
  ·rename_i p es hb;cases h;obtain ⟨h1,h2⟩:=Dr (zq 4) hb hp;have h3:=Li h1 h2 (RZ _ ht)
   rwa [List.take_append_drop] at h3
  ·cases h
 ·cases h
def Q6 (P:Program) (ops:Array Oper) (s:AS) (os:List Oper) (d:q9):Option (List Prop×AS×List Oper) :=
 match Sf s d with
 | some (p,s')=>some (p,s',os)
 | none=>match Q7 P ops s os d with
  | some r=>some r
  | none=>match SC P ops s os d with
   | some r=>some r
   | none=>match os with
    | o::os'=>(match SL P ops s o d with
     | some (p,s')=>some (p,s',os')
     | none=>(Ju P ops s o d).map fun r=>(r.1,(dw.put o.dst r.2).app s,os'))
    | []=>none
theorem J5 {d:q9} {os:List Oper} {r:List Prop×AS×List Oper} (h:Q6 P ops s os d=some r) (hp:cQ r.1) {Q:Exit→AS→Prop} (ht:jD P ops r.2.2 Q r.2.1):jD P ops os Q s:=by
 unfold Q6 at h;split at h
 ·rename_i p s' he;cases h;exact Ky he hp ht
 ·split at h
  ·rename_i r' he;cases h;exact J8 he hp ht
  ·split at h
   ·rename_i r' he;cases h;exact Mf he hp ht
   cases os with
   | nil=>cases h
   | cons o os' =>
    simp only at h;split at h
    ·rename_i p s' he;cases h;exact D9 ((Mv he hp).mono fun s3 e=>by subst e;exact ht)
    ·obtain ⟨x,hx,rfl⟩:=Option.map_eq_some_iff.1 h;refine D9 (((Cq (v:=x.2) hx hp).op rfl rfl).mono fun s3 e=>?_);exact fun c a w β κ r=>ht c a w β κ (r.same e.symm')
def HD (P:Program) (ops:Array Oper):List Oper→List q9→AS→Option (List Prop×AS×List Oper)
 | os,[],s=>some ([],s,os)
 | os,d::ds,s=>match Q6 P ops s os d with
  | some (p,s',os')=>(match HD P ops os' ds s' with | some (ps,r)=>some (p++ps,r) | none=>none)
  | none=>none
theorem nt {Q:Exit→AS→Prop}:∀ (ds:List q9) {os:List Oper} {s:AS} {ps:List Prop} {s':AS} {os':List Oper},HD P ops os ds s=some (ps,s',os')→cQ ps→jD P ops os' Q s'→jD P ops os Q s
 | [],os,s,ps,s',os',h,hp,ht=>by cases h;exact ht
 | d::ds,os,s,ps,s',os',h,hp,ht=>by
  unfold HD at h;split at h
  ·rename_i p s2 os2 he;split at h
   ·rename_i ps' r hr;cases h;obtain ⟨h1,h2⟩:=cQ.append.1 hp;exact J5 he h1 (nt ds hr h2 ht)
   ·cases h
  ·cases h
end
section
variable {P:Program} {Q:Exit→AS→Prop} {s s':AS} {l:List Oper} {id:Nat}
theorem Qi (ds:List q9) {ps:List Prop} (h:HD P l.toArray l ds s=some (ps,s',[])) (hp:cQ ps) (hq:Q .normal s'):eA P (.region id l.toArray false) Q s :=
 zw (nt ds h hp (IM hq))
def Rs (P:Program) (l:List Oper) (n:Nat) (d1 d2:List q9) (s:AS):Option (List Prop×AS×List Oper) :=
 match Sq P l.toArray (l.take n) d1 s with
 | some (ps,es)=>bif NA l n es s&&Qu (DA l []) es s&&Qz (DA l []) es s then (match HD P l.toArray (l.drop n) d2 ((apps es s).fg (SB d1 l)) with
  | some (qs,r)=>some (ps++qs,r)
  | none=>none) else none
 | none=>none
theorem MN (hm:P.follows .mixedOrders=true) (n:Nat) (d1 d2:List q9) {ps:List Prop} (h:Rs P l n d1 d2 s=some (ps,s',[])) (hp:cQ ps) (hq:Q .normal s'):eA P (.region id l.toArray true) Q s:=by
 unfold Rs at h;split at h
 ·rename_i ps1 es he;obtain ⟨hc,h2⟩:=bif_some h;split at h2
  ·rename_i qs r hr;simp only [S9,Prod.mk.injEq] at h2;obtain ⟨h3,h4⟩:=h2;subst h3;subst h4;obtain ⟨p1,p2⟩:=cQ.append.1 hp;exact OV hm n es hc (KG he p1) (RZ _ (nt d2 hr p2 (IM hq)))
  ·cases h2
 ·cases h
def Ds (f:Func):Code:=match f.body with | some c=>c | none=>.skip
def zY (f:Func):Bool:=match f.body with | some _=>true | none=>false
theorem Ii {f:Func} (h:zY f=true):f.body=some (Ds f):=by
 unfold zY at h;unfold Ds;split at h
 ·rename_i c e;rw [e]
 ·cases h
theorem RJ {f:FuncId} {fn:Func} {args:List AV} {h:List (Nat×AO)} {Post:AV→List (Nat×AO)→Prop} (hf:P.funcs[f]? = some fn) (n:Nat) (rs:List ResultVar) (hok:(zY fn&&Nat.beq fn.ntmps n&&Nat.ble args.length n)=true) (hrs:fn.results.toList=rs)
 (ht:eA P (Ds fn) (Sj P rs Post) ⟨n,sV args 0,h⟩):bH P f args h Post:=by
 simp only [SY,Nat.beq_eq,Nat.ble_eq] at hok;exact HU hf (Ii hok.1.1) n hok.1.2 rs hrs hok.2 ht
end
section
variable {P:Program} {Q:Exit→AS→Prop} {s s':AS} {l:List Oper} {id:Nat}
def AS.only (s:AS) (ts hs:List Nat):AS:=⟨s.n,sel ts s.t,sel hs s.h⟩
theorem all_nil:cQ []:=trivial
theorem all_cons {p:Prop} {ps:List Prop} (h:p) (h2:cQ ps):cQ (p::ps):=cQ.cons.2 ⟨h,h2⟩
theorem aJ {ps qs:List Prop} (h:cQ ps) (h2:cQ qs):cQ (ps++qs):=cQ.append.2 ⟨h,h2⟩
theorem bp.eq {f:FuncId} {args:List AV} {v v':AV} (h:bp P f args v) (e:v=v'):bH P f args [] fun r _=>r=v':=bH.mono h fun _ _ hr=>hr.1.trans e
theorem bp.is {f:FuncId} {args:List AV} {v:AV} (h:bp P f args v):bH P f args [] fun r _=>r=v:=bH.mono h fun _ _ hr=>hr.1
theorem ix {α:Type} {f:α→List AV} {l:List α} {n:Nat} {sz:Nat} (d:α) (hf:∀ x,(f x).length=sz) (h0:0<sz) (h:n<l.length) :
 cQ [((0:Int)≤(n:Int)∧(n:Int)<((l.map f).length:Int))∧(((l.map f).getD (n:Int).toNat []).length=sz∧0<sz),AV.dptr ((l.map f).getD (n:Int).toNat []) = .dptr (f (l.getD n d))]:=by
 have e:(l.map f).getD (n:Int).toNat []=f (l.getD n d):=by simp [SW,SX h]
 refine ⟨⟨⟨by omega,by simpa using h⟩,?_,h0⟩,?_⟩
 ·rw [e];exact hf _
 ·rw [e];rfl
theorem D4 {α:Type} {f:α→List AV} {l:List α} {n:Int} {sz:Nat} (d:α) (hf:∀ x,(f x).length=sz) (h0:0<sz) (h:0≤n∧n<l.length) :
 cQ [((0:Int)≤n∧n<((l.map f).length:Int))∧(((l.map f).getD n.toNat []).length=sz∧0<sz),AV.dptr ((l.map f).getD n.toNat []) = .dptr (f (l.getD n.toNat d))]:=by
 have hn:n.toNat<l.length:=by omega
 have e:(l.map f).getD n.toNat []=f (l.getD n.toNat d):=by simp [SW,SX hn]
 refine ⟨⟨⟨h.1,by simpa using h.2⟩,?_,h0⟩,?_⟩
 ·rw [e];exact hf _
 ·rw [e];rfl
theorem vj {α:Type} (f:α→List AV) (l:List α):AV.int .i64 ((l.map f).length:Nat) = .int .i64 (l.length:Nat):=by rw [S7]
def IU:AV→List Prop
 | .str l=>[l.length≤9223372036854775807]
 | .dslice xs=>[xs.length≤9223372036854775807]
 | _=>[]
def Lk:List AV→List Prop
 | []=>[]
 | c::cs=>IU c++Lk cs
def lens:AV→List Prop
 | .agg cs=>Lk cs
 | .tup cs=>Lk cs
 | v=>IU v
theorem A9 {w:World} {X:Nat→Prop} {β:Nat→Nat} {κ:Nat→Nat×Nat} {v:AV} {V:Value} (h:G w X β κ v V):cQ (IU v):=by
 unfold IU;split
 ·exact h.str_len
 ·obtain ⟨_,_,_,_,h1,h2⟩:=h.dslice_inv;exact Nat.le_trans h1 h2
 ·trivial
theorem Ba {w:World} {X:Nat→Prop} {β:Nat→Nat} {κ:Nat→Nat×Nat}:∀ {cs:List AV} {vs:Nat→Value},(∀ i,i<cs.length→G w X β κ (cs.getD i .any) (vs i))→cQ (Lk cs)
 | [],_,_=>trivial
 | c::cs,vs,h=>cQ.append.2 ⟨A9 (h 0 (by simp)),Ba (vs:=fun i=>vs (i+1)) fun i hi=>by simpa using h (i+1) (by simpa using hi)⟩
theorem NR {w:World} {X:Nat→Prop} {β:Nat→Nat} {κ:Nat→Nat×Nat} {v:AV} {V:Value} (h:G w X β κ v V):cQ (lens v):=by
 unfold lens;split
 ·obtain ⟨vs,_,_,hg⟩:=h.agg_inv;exact Ba hg
 ·obtain ⟨vs,_,_,hg⟩:=h.tup_inv;exact Ba hg
 ·exact A9 h
theorem zv {cd:Code} (t:Nat) {ps:List Prop} (h:lens (lk .any s.t t)=ps) (ht:cQ ps→eA P cd Q s):eA P cd Q s:=fun c a w β κ r =>
 ht (h ▸ NR (r.tm t)) c a w β κ r
end
def Cv (s s':AS):Prop:=∀ (P:Program) (c:Cx P) (a:Act) (w:World) (β:Nat→Nat) (κ:Nat→Nat×Nat),Rel c s a w β κ→∃ β' κ',Rel c s' a w β' κ'
theorem Cv.refl (s:AS):Cv s s:=fun _ _ _ _ β κ r=>⟨β,κ,r⟩
theorem Cv.trans {s s' s'':AS} (h:Cv s s') (h':Cv s' s''):Cv s s'':=fun P c a w β κ r=>by obtain ⟨β',κ',r'⟩:=h _ c a w β κ r;exact h' _ c a w β' κ' r'
theorem Cv.only (s:AS) (ts hs:List Nat):Cv s (s.only ts hs):=fun _ _ _ _ β κ r=>⟨β,κ,r.sel ts hs⟩
theorem Cv.frz {s s':AS} {k:Nat} (h:s.frz k=some s'):Cv s s':=fun _ _ _ _ β κ r=>⟨β,κ,r.frz h⟩
theorem Cv.frzC {s s':AS} {k:Nat} (h:s.frzC k=some s'):Cv s s':=fun _ _ _ _ β κ r=>⟨β,κ,r.frzC h⟩
theorem Cv.frzM {s s':AS} {k:Nat} {p:Prop} (h:s.frzM k=some (p,s')) (hp:p):Cv s s':=fun _ _ _ _ β κ r=>⟨β,κ,r.frzM h hp⟩
theorem Cv.erow {s s':AS} {t k:Nat} {e:TypeId} {sz:Nat} (h:s.erow t k e sz=some s'):Cv s s':=fun _ _ _ _ β κ r=>by obtain ⟨κ',r'⟩:=r.erow h;exact ⟨β,κ',r'⟩
theorem Cv.tri {P:Program} {cd:Code} {Q:Exit→AS→Prop} {s s':AS} (h:Cv s s') (ht:eA P cd Q s'):eA P cd Q s:=fun c a w β κ r=>by obtain ⟨β',κ',r'⟩:=h _ c a w β κ r;exact ht c a w β' κ' r'
theorem Cv.wkT (s:AS) (t:Nat) (p:List (Nat×Nat)):Cv s (s.wkT t p):=fun _ _ _ _ β κ r=>⟨β,κ,r.wkT t p⟩
def AO.wk (i:Nat) (p:List (Nat×Nat)):AO→AO
 | .cells e cs=>.cells e (dV (AV.wk p) i cs)
 | o=>o
def AS.wkH (s:AS) (k i:Nat) (p:List (Nat×Nat)):AS:=⟨s.n,s.t,s.h.map fun q=>(q.1,bif Nat.beq q.1 k then AO.wk i p q.2 else q.2)⟩
theorem NU {α:Type} (d:α) (f:α→α) (hd:f d=d) (k:Nat) (l:List (Nat×α)) (i:Nat):lk d (l.map fun q=>(q.1,bif Nat.beq q.1 k then f q.2 else q.2)) i=if i=k then f (lk d l i) else lk d l i:=by
 induction l with
 | nil=>simp [lk,hd]
 | cons p l ih =>
  obtain ⟨j,u⟩:=p;simp only [List.map_cons,lk];by_cases h:i=j
  ·subst h;rw [Nat.beq_refl];simp only [cond_true];by_cases h2:i=k
   ·subst h2;simp
   ·rw [dz h2,if_neg h2];rfl
  ·rw [dz h];simp only [cond_false];exact ih
theorem Hn (s:AS) (k i:Nat) (p:List (Nat×Nat)) (j:Nat):lk .gone (s.wkH k i p).h j=if j=k then AO.wk i p (lk .gone s.h j) else lk .gone s.h j:=NU .gone (AO.wk i p) rfl k s.h j
theorem AO.live_wk (i:Nat) (p:List (Nat×Nat)) (o:AO):(AO.wk i p o).live=o.live:=by cases o<;>rfl
theorem AO.inn_wk (i:Nat) (p:List (Nat×Nat)) (o:AO) (j:Nat):(AO.wk i p o).inn j=o.inn j:=by cases o<;>rfl
theorem AO.gone_wk {i:Nat} {p:List (Nat×Nat)} {o:AO} (h:AO.wk i p o ≠ .gone):o ≠ .gone:=fun e=>h (by rw [e];rfl)
theorem Cv.wkH (s:AS) (k i:Nat) (p:List (Nat×Nat)):Cv s (s.wkH k i p):=fun P c a w β κ r=>by
 have hlive:∀ j,(lk .gone (s.wkH k i p).h j).live=(lk .gone s.h j).live:=fun j=>by
  rw [Hn];split
  ·rw [AO.live_wk]
  ·rfl
 have hinn:∀ j l,(lk .gone (s.wkH k i p).h j).inn l=(lk .gone s.h j).inn l:=fun j l=>by
  rw [Hn];split
  ·rw [AO.inn_wk]
  ·rfl
 have hlv:∀ j,lv (s.wkH k i p).h j=lv s.h j:=fun j=>by simp only [lv,hlive,hinn]
 have hown:own (s.wkH k i p).h β=own s.h β:=by funext b;simp only [own,hlv]
 have hX:c.XX (s.wkH k i p).h β=c.XX s.h β:=by funext b;simp [Cx.XX,hown]
 refine ⟨β,κ,r.df,r.sz,fun j=>?_,⟨fun j=>?_,fun a b ha hb e=>r.hp.inj a b (by rw [hlv] at ha;exact ha) (by rw [hlv] at hb;exact hb) e,r.hp.kp,fun j hj=>r.hp.nk j (by rw [hlv] at hj;exact hj),fun j hj=>r.hp.nx j (by rw [hlv] at hj;exact hj),r.hp.fix,fun j hj=>?_⟩⟩
 ·rw [hX];exact r.tm j
 ·rw [hX,Hn];have h:=r.hp.ob j;split
  ·generalize lk .gone s.h j=o at h;cases o with
   | cells e cs =>
    obtain ⟨cur,h1,h2,h3⟩:=h;exact ⟨cur,h1,by rw [bG];exact h2,fun l hl=>fA (R:=fun x=>G w (c.XX s.h β) β κ x (cur.getD l undef)) (fun x hx=>hx.wk p) i cs l (h3 l (by rw [bG] at hl;exact hl))⟩
   | _=>exact h
  ·exact h
 ·rw [Hn] at hj;split at hj
  ·exact r.hp.sg j (AO.gone_wk hj)
  ·exact r.hp.sg j hj
def RW (ps:List (Nat×Nat)):Bool:=ps.all fun p=>bif Nat.beq p.1 p.2 then Nat.blt p.2 1000000 else Nat.blt p.2 1000
def AS.ren (s:AS) (ps:List (Nat×Nat)):AS:=⟨s.n,s.t.map fun q=>(q.1,AV.ren ps q.2),hand ps s.h⟩
theorem Cv.ren (s:AS) (ps:List (Nat×Nat)) (hps:(uo ps&&RW ps)=true):Cv s (s.ren ps):=fun P c a w β κ r=>by
 simp only [SY] at hps;obtain ⟨hinj,hid⟩:=hps;have hbig:∀ {k j},rk ps k=some j→j<1000000∧(1000≤j→k=j):=fun {k j} h=>by
  have:=Tc.1 hid _ (uJ h);cases e:Nat.beq k j with
  | true =>
   simp only [e,cond_true,Nat.blt_eq] at this;exact ⟨this,fun _=>ef.1 e⟩
  | false =>
   simp only [e,cond_false,Nat.blt_eq] at this;exact ⟨by omega,fun hj=>by omega⟩
 let τ:Nat→Nat→Prop:=fun n n'=>rk ps n=some n'∨∃ k j i,rk ps k=some j∧i<1000000∧n=gk k i∧n'=gk j i
 let β':Nat→Nat:=CO (fun j=>match rk (swp ps) j with | some k=>β k | none=>β j) (fun j i=>match rk (swp ps) j with | some k=>β (gk k i) | none=>β (gk j i))
 let κ':Nat→Nat×Nat:=CO (fun j=>match rk (swp ps) j with | some k=>κ k | none=>κ j) (fun j i=>match rk (swp ps) j with | some k=>κ (gk k i) | none=>κ (gk j i))
 have hβ:∀ k j,rk ps k=some j→β' j=β k∧κ' j=κ k:=by intro k j h;have h2:=(cL hinj).2 h;have h3:=(hbig h).1;exact ⟨by simp only [β',gC h3,h2],by simp only [κ',gC h3,h2]⟩
 have hβv:∀ k j,rk ps k=some j→∀ i,i<1000000→β' (gk j i)=β (gk k i)∧κ' (gk j i)=κ (gk k i):=by intro k j h i hi;have h2:=(cL hinj).2 h;exact ⟨by simp only [β',eH hi,h2],by simp only [κ',eH hi,h2]⟩
 have hlk:∀ j,lk .gone (hand ps s.h) j=match rk (swp ps) j with | some k=>AO.ren ps (lk .gone s.h k) | none=>.gone:=fun j=>Da hinj j
 have hlvh:∀ n',lv (hand ps s.h) n'→∃ n,((rk ps n=some n'∧n<1000000)∨∃ k j i,rk ps k=some j∧i<1000000∧n=gk k i∧n'=gk j i)∧lv s.h n∧β' n'=β n:=by
  rintro n' (h1 | ⟨m,i,rfl,h1⟩)
  ·rw [hlk] at h1;cases e:rk (swp ps) n' with
   | none=>rw [e] at h1;exact h1.elim
   | some k =>
    rw [e] at h1;have e2:=(cL hinj).1 e;have h2:=qw.1 h1;exact ⟨k,.inl ⟨e2,r.hp.sm k h2⟩,.inl h2,(hβ _ _ e2).1⟩
  ·rw [hlk] at h1;cases e:rk (swp ps) m with
   | none=>rw [e] at h1;exact h1.elim
   | some k =>
    rw [e] at h1;have e2:=(cL hinj).1 e;have hi:=(AO.inn_isR h1).1;exact ⟨gk k i,.inr ⟨k,m,i,e2,hi,rfl,rfl⟩,eZ (uq.1 h1),(hβv _ _ e2 i hi).1⟩
 have hown:∀ b,own (hand ps s.h) β' b→own s.h β b:=by rintro b ⟨j,h1,h2⟩;obtain ⟨k,_,h3,h4⟩:=hlvh j h1;exact ⟨k,h3,by rw [← h4];exact h2⟩
 have hX:∀ b,¬ c.XX s.h β b→b<w.heap.size→¬ c.XX (hand ps s.h) β' b:=fun b hb _ hb'=>hb (hb'.imp id (hown b));refine ⟨β',κ',r.df,r.sz,fun i=>?_,⟨fun j=>?_,fun i j hi hj e=>?_,r.hp.kp,fun j hj=>?_,fun j hj=>?_,fun j hj hj6=>?_,fun j hj=>?_⟩⟩
 ·show G w (c.XX (hand ps s.h) β') β' κ' (lk .any (s.t.map fun q=>(q.1,AV.ren ps q.2)) i) _;rw [Ef .any (AV.ren ps) rfl];exact (r.tm i).ren hβ hX
 ·show HO w (c.XX (hand ps s.h) β') β' κ' j (lk .gone (hand ps s.h) j);rw [hlk];cases e:rk (swp ps) j with
  | none=>trivial
  | some k =>
   have e2:=(cL hinj).1 e;exact (r.hp.ob k).ren hβ hX (hβ _ _ e2) (fun i hi _=>hβv _ _ e2 i hi)
 ·obtain ⟨k1,a1,a2,a3⟩:=hlvh i hi;obtain ⟨k2,b1,b2,b3⟩:=hlvh j hj;have:k1=k2:=r.hp.inj k1 k2 a2 b2 (by rw [← a3,← b3];exact e);subst this;rcases a1 with ⟨h,h'⟩ | ⟨k,l,i,h,hii,rfl,rfl⟩<;>rcases b1 with ⟨g,g'⟩ | ⟨k2,l2,i2,g,hi2,ee,rfl⟩
  ·rw [h] at g;exact Tb g
  ·have:=iR k2 i2;omega
  ·have:=iR k i;omega
  ·obtain ⟨rfl,rfl⟩:=vV hii hi2 ee;rw [h] at g;rw [Tb g]
 ·obtain ⟨k,_,a2,a3⟩:=hlvh j hj;rw [a3];exact r.hp.nk k a2
 ·obtain ⟨k,_,a2,a3⟩:=hlvh j hj;rw [a3];exact r.hp.nx k a2
 ·have hf:=r.hp.fix j hj hj6;have e1:β' j=(match rk (swp ps) j with | some k=>β k | none=>β j):=gC hj6;have e2:κ' j=(match rk (swp ps) j with | some k=>κ k | none=>κ j):=gC hj6;rw [e1,e2];cases e:rk (swp ps) j with
  | none=>exact hf
  | some k =>
   have:=(hbig ((cL hinj).1 e)).2 hj;subst this;exact hf
 ·have hj:lk .gone (hand ps s.h) j ≠ .gone:=hj;rw [hlk] at hj;cases e:rk (swp ps) j with
  | none=>rw [e] at hj;exact absurd rfl hj
  | some k=>exact (hbig ((cL hinj).1 e)).1
def AS.erowH (s:AS) (k i k':Nat) (e:TypeId) (sz:Nat):Option AS :=
 match lk .gone (lu k' s.h) k with
 | .cells e2 cs=>match cs.getD i .any with
  | .eslice=>bif Nat.blt k' 1000 && !Nat.beq k k' then some ⟨s.n,vl k' s.t,ins k' (.row e sz []) (ins k (.cells e2 (dV (fun _=>.rslice k') i cs)) (lu k' s.h))⟩ else none
  | _=>none
 | _=>none
theorem IZ {α:Type} (f:α→α) (d:α):∀ (i:Nat) (l:List α) (j:Nat),(dV f i l).getD j d=if j=i∧i<l.length then f (l.getD j d) else l.getD j d
 | _,[],j=>by simp [dV]
 | 0,x::xs,0=>by simp [dV]
 | 0,x::xs,j+1=>by simp [dV]
 | i+1,x::xs,0=>by simp [dV]
 | i+1,x::xs,j+1=>by have:=IZ f d i xs j;simpa [dV] using this
theorem Cv.erowH {s s':AS} {k i k':Nat} {e:TypeId} {sz:Nat} (h:s.erowH k i k' e sz=some s'):Cv s s':=fun P c a w β κ r=>by
 unfold AS.erowH at h;split at h
 ·rename_i e2 cs hk;split at h
  ·rename_i hi;obtain ⟨hc,h⟩:=bif_some h;cases h;rw [SY] at hc;have hk':k'<1000:=by simpa [Nat.blt_eq] using hc.1
   have hkk:k≠k':=fun e=>by have:=hc.2;rw [e,Nat.beq_refl] at this;cases this
   have r':=r.pg k';let h2:=ins k' (AO.row e sz []) (ins k (.cells e2 (dV (fun _=>.rslice k') i cs)) (lu k' s.h))
   have hl:∀ j,lk AO.gone h2 j=if j=k' then .row e sz [] else if j=k then .cells e2 (dV (fun _=>.rslice k') i cs) else lk .gone (lu k' s.h) j:=fun j=>by show lk AO.gone (ins k' _ _) j=_;rw [bB,bB]
   have hk6:k'<1000000:=by omega
   have hlive:∀ {j},lv h2 j→lv (lu k' s.h) j:=by
    intro j hl2;rcases iO (o:=.row e sz []) hk6 (fun _ h=>h) hl2 with ⟨_,h0⟩ | ⟨_,hl2⟩
    ·exact absurd rfl h0
    ·exact (Ak (by rw [hk];exact Iff.rfl) (fun i=>by rw [hk];exact Iff.rfl) j).1 hl2
   have hX:∀ b,¬ c.XX (lu k' s.h) β b→b<w.heap.size→¬ c.XX h2 β b:=by
    rintro b hb _ (hx | ⟨j,hl,hj⟩)
    ·exact hb (.inl hx)
    ·exact hb (.inr ⟨j,hlive hl,hj⟩)
   have hT:∀ {v:AV} {V:Value},G w (c.XX (lu k' s.h) β) β κ v V→AV.men k' v=false→G w (c.XX h2 β) β (upd κ k' (0,0)) v V:=fun hg hm =>
    hg.mono (w':=w) (fun _ _ _=>rfl) hX (fun j hj=>.updκ hk6 (fun e=>by rw [e,hm] at hj;cases hj))
   refine ⟨β,upd κ k' (0,0),r.df,r.sz,fun i=>?_,⟨fun j=>?_,fun i j hi hj e=>r'.hp.inj i j (hlive hi) (hlive hj) e,r.hp.kp,fun j hj=>r'.hp.nk j (hlive hj),fun j hj=>r'.hp.nx j (hlive hj),fun j hj hj6=>?_,fun j hj=>?_⟩⟩
   ·exact hT (r'.tm i) (by show AV.men k' (lk .any (vl k' s.t) i)=false;rw [jT,AV.men_pg])
   ·show HO w (c.XX h2 β) β (upd κ k' (0,0)) j (lk AO.gone h2 j);rw [hl];by_cases ej:j=k'
    ·rw [if_pos ej,ej];exact ⟨by rw [bh];rfl,fun h=>absurd rfl h⟩
    ·rw [if_neg ej];by_cases ej2:j=k
     ·rw [if_pos ej2,ej2];have ho:=r'.hp.ob k;have hmen:AO.men k' (lk .gone (lu k' s.h) k)=false:=by rw [ij];exact AO.men_pg k' _
      rw [hk] at ho hmen;obtain ⟨cur,g1,g2,g3⟩:=ho;refine ⟨cur,g1,by rw [bG];exact g2,fun l hl2=>?_⟩;rw [bG] at hl2;rw [IZ];have g4:=g3 l hl2;have hm2:AV.men k' (cs.getD l .any)=false:=by
       cases hb:AV.men k' (cs.getD l .any) with
       | false=>rfl
       | true=>have:=cZ hl2 hb;rw [show AV.menL k' cs=false from hmen] at this;cases this
      by_cases el:l=i∧i<cs.length
      ·rw [if_pos el];rw [el.1,hi] at g4;obtain ⟨ad,e1⟩:=g4.eslice_inv;rw [el.1,e1];exact .rslice0 k' ad (by rw [bh])
      ·rw [if_neg el];exact hT g4 hm2
     ·rw [if_neg ej2];exact (r'.hp.ob j).mono (w':=w) (fun _ _ _=>rfl) hX (fun i hi=>.updκ hk6 (fun e=>by rw [e] at hi;have:AO.men k' (lk .gone (lu k' s.h) j)=true:=hi;rw [ij,AO.men_pg] at this;cases this)) (.updκ hk6 ej) (fun _=>rfl) (fun _ _=>rfl)
   ·have:j≠k':=by omega
    rw [cM κ this];exact r.hp.fix j hj hj6
   ·have hj:lk AO.gone h2 j ≠ .gone:=hj;rw [hl] at hj;by_cases ej:j=k'
    ·omega
    ·rw [if_neg ej] at hj;by_cases ej2:j=k
     ·rw [ej2];exact r'.hp.sm k (by show (lk .gone (lu k' s.h) k).live;rw [hk];trivial)
     ·rw [if_neg ej2] at hj;exact r'.hp.sg j hj
  ·cases h
 ·cases h
inductive Cd where
 | only (ts hs:List Nat)
 | fz (k:Nat)
 | er (t k:Nat) (e:TypeId) (sz:Nat)
 | wk (t:Nat) (p:List (Nat×Nat))
 | wkH (k i:Nat) (p:List (Nat×Nat))
 | ren (ps:List (Nat×Nat))
 | erH (k i k':Nat) (e:TypeId) (sz:Nat)
 | fzC (k:Nat)
def conv:List Cd→AS→Option AS
 | [],s=>some s
 | .only ts hs::cs,s=>conv cs (s.only ts hs)
 | .fz k::cs,s=>match s.frz k with | some s'=>conv cs s' | none=>none
 | .fzC k::cs,s=>match s.frzC k with | some s'=>conv cs s' | none=>none
 | .er t k e sz::cs,s=>match s.erow t k e sz with | some s'=>conv cs s' | none=>none
 | .wk t p::cs,s=>conv cs (s.wkT t p)
 | .wkH k i p::cs,s=>conv cs (s.wkH k i p)
 | .erH k i k' e sz::cs,s=>match s.erowH k i k' e sz with | some s'=>conv cs s' | none=>none
 | .ren ps::cs,s=>bif uo ps&&RW ps then conv cs (s.ren ps) else none
theorem ep:∀ (cs:List Cd) {s s':AS},conv cs s=some s'→Cv s s'
 | [],s,s',h=>by cases h;exact .refl _
 | .only ts hs::cs,s,s',h=>(Cv.only s ts hs).trans (ep cs h)
 | .fz k::cs,s,s',h=>by
  simp only [conv] at h;split at h
  ·rename_i h1;exact (Cv.frz h1).trans (ep cs h)
  ·cases h
 | .fzC k::cs,s,s',h=>by
  simp only [conv] at h;split at h
  ·rename_i h1;exact (Cv.frzC h1).trans (ep cs h)
  ·cases h
 | .er t k e sz::cs,s,s',h=>by
  simp only [conv] at h;split at h
  ·rename_i h1;exact (Cv.erow h1).trans (ep cs h)
  ·cases h
 | .wk t p::cs,s,s',h=>(Cv.wkT s t p).trans (ep cs h)
 | .wkH k i p::cs,s,s',h=>(Cv.wkH s k i p).trans (ep cs h)
 | .erH k i k' e sz::cs,s,s',h=>by
  simp only [conv] at h;split at h
  ·rename_i h1;exact (Cv.erowH h1).trans (ep cs h)
  ·cases h
 | .ren ps::cs,s,s',h=>by obtain ⟨h1,h2⟩:=bif_some h;exact (Cv.ren s ps h1).trans (ep cs h2)
end Go.Ab
namespace Go.Sh
inductive kr (σ ε ρ:Type) where
 | go (s:σ)
 | brk (e:ε)
 | ret (r:ρ)
inductive Out (ε ρ:Type) where
 | brk (e:ε)
 | ret (r:ρ)
section
variable {α β σ ε ρ:Type}
def CZ (k:σ→Option (Out ε ρ)):kr σ ε ρ→Option (Out ε ρ)
 | .go s=>k s
 | .brk e=>some (.brk e)
 | .ret r=>some (.ret r)
def bR (body:Nat→σ→Option (kr σ ε ρ)) (fin:Nat→σ→ε):Nat→Nat→σ→Option (Out ε ρ)
 | 0,i,s=>some (.brk (fin i s))
 | k+1,i,s=>(body i s).bind (CZ (bR body fin k (i+1)))
def vq (body:σ→Option (kr σ ε ρ)):Nat→σ→Option (Out ε ρ)
 | 0,_=>none
 | n+1,s=>(body s).bind (CZ (vq body n))
def aft (f:ε→Option β):Out ε β→Option β
 | .brk e=>f e
 | .ret r=>some r
def bo (p:Prop) [Decidable p] (x:Option α):Option α:=if p then x else none
def Cf:kr σ ε ρ→Out ε ρ→Prop
 | .go _,_=>True
 | .brk e,r=>r = .brk e
 | .ret x,r=>r = .ret x
theorem aq {m:Option α} {f:α→Option β} {v:β} {G:Prop} (H:m.bind f=some v) (k:∀ y,m=some y→f y=some v→G):G:=by
 cases m with
 | none=>cases H
 | some y=>exact k y rfl H
theorem bj {b:Bool} {x y:Option α} {v:α} {G:Prop} (H:(bif b then x else y)=some v) (t:b=true→x=some v→G) (f:b=false→y=some v→G):G:=by
 cases b with
 | true=>exact t rfl H
 | false=>exact f rfl H
theorem ao {p:Prop} [Decidable p] {x:Option α} {v:α} {G:Prop} (H:bo p x=some v) (k:p→x=some v→G):G:=by
 unfold bo at H;split at H
 ·exact k (by assumption) H
 ·cases H
theorem bA {x y:α} {G:Prop} (H:some x=some y) (k:x=y→G):G:=k (Tb H)
end
end Go.Sh
namespace Go.Ab
open Go.RowKit Go.Sh
inductive Fr where
 | seq (c:Code)
 | blk (id:Nat)
 | bar (S:AS)
 | rnd (n:Nat) (y:Code)
def RT (P:Program) (n:Nat) (y:Code) (Q:Exit→AS→Prop) (s:AS):Prop:=∀ (c:Cx P) a w β κ,Rel c s a w β κ→Code.rounds P y (lift c Q) n a w
theorem Cm {P:Program} {y:Code} {Q Q':Exit→Act→World→Prop} (h:∀ e a w,Q e a w→Q' e a w):∀ (n:Nat) a w,Code.rounds P y Q n a w→Code.rounds P y Q' n a w
 | 0,_,_,hr=>hr.elim
 | n+1,a,w,hr=>Code.wp_mono (fun e a w q=>by
  cases e with
  | normal=>exact Cm h n a w q
  | _=>exact h _ _ _ q) hr
theorem RT.succ {P:Program} {n:Nat} {y:Code} {Q:Exit→AS→Prop} {s:AS} (h:eA P y (RF (RT P n y Q) Q) s):RT P (n+1) y Q s:=fun c a w β κ r =>
 Code.wp_mono (fun e a w q=>by
  obtain ⟨s',β',κ',q,r'⟩:=q;cases e with
  | normal=>exact (show RT P n y Q s' from q) c a w β' κ' r'
  | _=>exact ⟨s',β',κ',q,r'⟩) (h c a w β κ r)
theorem RT.loop {P:Program} {n:Nat} {y:Code} {Q:Exit→AS→Prop} {s:AS} (h:RT P n y Q s):eA P (.loop y) Q s:=fun c a w β κ r=>wp_loop_rounds n (h c a w β κ r)
theorem RT.lift {P:Program} {n:Nat} {y:Code} {Q Q':Exit→AS→Prop} {s:AS} (h:RT P n y Q s) (hq:∀ (c:Cx P) e a w,lift c Q e a w→lift c Q' e a w):RT P n y Q' s:=fun c a w β κ r=>Cm (fun e a w=>hq c e a w) n a w (h c a w β κ r)
def bZ (P:Program):List Fr→(Exit→AS→Prop)→Exit→AS→Prop
 | [],Q=>Q
 | .seq c::fs,Q=>RF (eA P c (bZ P fs Q)) (bZ P fs Q)
 | .blk id::fs,Q=>blk id (bZ P fs Q)
 | .bar S::fs,Q=>RF (fun s=>Cv s S) (bZ P fs Q)
 | .rnd n y::fs,Q=>RF (RT P n y (bZ P fs Q)) (bZ P fs Q)
def Fy:List Fr→Option Code×List Fr
 | .seq c::fs=>(some c,fs)
 | .blk _::fs=>Fy fs
 | .bar S::fs=>(none,.bar S::fs)
 | .rnd (n+1) y::fs=>(some y,.rnd n y::fs)
 | .rnd 0 y::fs=>(none,.rnd 0 y::fs)
 | []=>(none,[])
def Jf (id:Nat):List Fr→Option (List Fr)
 | .seq _::fs=>Jf id fs
 | .blk j::fs=>bif Nat.beq id j then some fs else Jf id fs
 | .bar _::fs=>Jf id fs
 | .rnd _ _::fs=>Jf id fs
 | []=>none
inductive Sg where
 | rg (n:Nat) (d1 d2:List q9)
 | cv (cs:List Cd)
 | un
 | eqT (t:Nat) (v:AV)
 | fo (k:Nat) (es:List (Key×AV))
inductive LO where
 | at (c:Code) (fs:List Fr) (s:AS)
 | nrm (fs:List Fr) (s:AS)
 | ret (s:AS)
def Rt (P:Program) (ops:Array Oper) (dr:Bool) (k:Nat) (d1 d2:List q9) (s:AS):Option (List Prop×AS×List Oper) :=bif dr then Rs P ops.toList k d1 d2 s else HD P ops.toList.toArray ops.toList d2 s
def path (P:Program):Nat→List Sg→Code→List Fr→AS→Option (List Prop×LO)
 | 0,_,c,fs,s=>some ([],.at c fs s)
 | n+1,.cv cs::sg,c,fs,s=>match conv cs s with
  | some s'=>path P n sg c fs s'
  | none=>none
 | n+1,.fo k es::sg,c,fs,s=>match s.frzO k es with
  | some (p,s')=>(match path P n sg c fs s' with
   | some (ps,lf)=>some (p::ps,lf)
   | none=>none)
  | none=>none
 | n+1,.eqT t v::sg,c,fs,s=>match path P n sg c fs ⟨s.n,ins t v s.t,s.h⟩ with
  | some (ps,lf)=>some ((lk .any s.t t=v)::ps,lf)
  | none=>none
 | n+1,.un::sg,.loop y,fs,s=>path P n sg y (.rnd 63 y::fs) s
 | n+1,sg,.seq x y,fs,s=>path P n sg x (.seq y::fs) s
 | n+1,sg,.skip,fs,s=>match Fy fs with
  | (some c,fs')=>path P n sg c fs' s
  | (none,fs')=>some ([],.nrm fs' s)
 | n+1,.rg k d1 d2::sg,.region _ ops dr,fs,s=>match Rt P ops dr k d1 d2 s with
  | some (ps,s',[])=>match Fy fs with
   | (some c,fs')=>match path P n sg c fs' s' with
    | some (qs,lf)=>some (ps++qs,lf)
    | none=>none
   | (none,fs')=>some (ps,.nrm fs' s')
  | _=>none
 | n+1,sg,.cond x y z,fs,s=>match s.op x with
  | .bool true=>path P n sg y fs s
  | .bool false=>path P n sg z fs s
  | _=>none
 | n+1,sg,.block id y,fs,s=>path P n sg y (.blk id::fs) s
 | n+1,sg,.exit id,fs,s=>match Jf id fs with
  | some fs1=>match Fy fs1 with
   | (some c,fs')=>path P n sg c fs' s
   | (none,fs')=>some ([],.nrm fs' s)
  | none=>none
 | _+1,_,.ret,_,s=>some ([],.ret s)
 | _+1,_,.loop y,fs,s=>some ([],.at (.loop y) fs s)
 | _+1,_,_,_,_=>none
section
variable {P:Program} {Q:Exit→AS→Prop}
theorem A7:∀ {fs:List Fr} {s:AS},(∀ c fs',Fy fs=(some c,fs')→eA P c (bZ P fs' Q) s)→(∀ fs',Fy fs=(none,fs')→bZ P fs' Q .normal s)→bZ P fs Q .normal s
 | [],s,_,h=>h _ rfl
 | .seq c::fs,s,h,_=>h _ _ rfl
 | .blk id::fs,s,h,h2=>A7 (fs:=fs) h h2
 | .bar S::fs,s,_,h=>h _ rfl
 | .rnd (n+1) y::fs,s,h,_=>RT.succ (h _ _ rfl)
 | .rnd 0 y::fs,s,_,h=>h _ rfl
theorem D5 {id:Nat}:∀ {fs fs1:List Fr} {s:AS},Jf id fs=some fs1→bZ P fs1 Q .normal s→bZ P fs Q (.exit id) s
 | [],_,s,h,_=>by cases h
 | .seq c::fs,_,s,h,h2=>D5 (fs:=fs) h h2
 | .bar S::fs,_,s,h,h2=>D5 (fs:=fs) h h2
 | .rnd n y::fs,_,s,h,h2=>D5 (fs:=fs) h h2
 | .blk j::fs,fs1,s,h,h2=>by
  simp only [Jf] at h;simp only [bZ,blk];cases e:Nat.beq id j with
  | true=>rw [e] at h;cases h;exact h2
  | false=>rw [e] at h;exact D5 (fs:=fs) h h2
theorem D8:∀ {fs:List Fr} {s:AS},Q .ret s→bZ P fs Q .ret s
 | [],_,h=>h
 | .seq _::fs,_,h=>D8 (fs:=fs) h
 | .blk _::fs,_,h=>D8 (fs:=fs) h
 | .bar _::fs,_,h=>D8 (fs:=fs) h
 | .rnd _ _::fs,_,h=>D8 (fs:=fs) h
def QM (P:Program) (Q:Exit→AS→Prop):LO→Prop
 | .at c fs s=>eA P c (bZ P fs Q) s
 | .nrm fs s=>bZ P fs Q .normal s
 | .ret s=>Q .ret s
theorem EM (hm:P.follows .mixedOrders=true) {id k:Nat} {ops:Array Oper} {dr:Bool} {d1 d2:List q9} {s s':AS} {ps:List Prop} {Q':Exit→AS→Prop} (h:Rt P ops dr k d1 d2 s=some (ps,s',[])) (hp:cQ ps) (hq:Q' .normal s'):eA P (.region id ops dr) Q' s:=by
 have e:ops=ops.toList.toArray:=by simp
 unfold Rt at h;cases dr with
 | true =>
  simp only [cond_true] at h;rw [e];first
  | exact MN hm k d1 d2 h hp hq
 | false =>
  simp only [cond_false] at h;have h':=Qi (id:=id) d2 h hp hq;rw [← e] at h';exact h'
theorem cW (hm:P.follows .mixedOrders=true):∀ (n:Nat) {sg:List Sg} {c:Code} {fs:List Fr} {s:AS} {ps:List Prop} {lf:LO},path P n sg c fs s=some (ps,lf)→cQ ps→QM P Q lf→eA P c (bZ P fs Q) s
 | 0,sg,c,fs,s,ps,lf,h,_,hl=>by simp only [path] at h;cases h;exact hl
 | n+1,sg,c,fs,s,ps,lf,h,hp,hl=>by
  unfold path at h;split at h
  ·rename_i e;cases e
  ·rename_i n' cs sg' c' fs' s' e;cases e;split at h
   ·rename_i s2 hc;exact (ep _ hc).tri (cW hm n h hp hl)
   ·cases h
  ·rename_i n' k es sg' c' fs' s' e;cases e;split at h
   ·rename_i p s2 hf;split at h
    ·rename_i ps1 lf1 hpath;cases h;obtain ⟨p1,p2⟩:=cQ.cons.1 hp;have ht:=cW hm n hpath p2 hl;exact fun c a w β κ r=>ht c a w β κ (r.frzO hf p1)
    ·cases h
   ·cases h
  ·rename_i n' t v sg' c' fs' s' e;cases e;split at h
   ·rename_i ps1 lf1 hpath;cases h;obtain ⟨p1,p2⟩:=cQ.cons.1 hp;have ht:=cW hm n hpath p2 hl;exact fun c a w β κ r=>ht c a w β κ (r.same (kq.symm' (OB p1)))
   ·cases h
  ·rename_i n' sg' y fs' s' e;cases e;exact RT.loop (RT.succ (n:=63) (cW hm n h hp hl))
  ·rename_i n' e _ _ _;cases e;exact LL (cW hm n h hp hl)
  ·rename_i n' e _ _ _;cases e;refine OX (A7 (fun c fs' e=>?_) (fun fs' e=>?_))
   ·rw [e] at h;exact cW hm n h hp hl
   ·rw [e] at h;cases h;exact hl
  ·rename_i n' k d1 d2 sg' id ops dr fs0 s0 e;cases e;split at h
   ·rename_i ps1 s1 hr;split at h
    ·rename_i c1 fs1 e1;split at h
     ·rename_i qs lf1 hpath;cases h;obtain ⟨p1,p2⟩:=cQ.append.1 hp;refine EM hm hr p1 (A7 (fun c2 fs2 e2=>?_) (fun fs2 e2=>?_))
      ·rw [e1] at e2;cases e2;exact cW hm n hpath p2 hl
      ·rw [e1] at e2;cases e2
     ·cases h
    ·rename_i fs1 e1;cases h;refine EM hm hr hp (A7 (fun c2 fs2 e2=>?_) (fun fs2 e2=>?_))
     ·rw [e1] at e2;cases e2
     ·rw [e1] at e2;cases e2;exact hl
   ·cases h
  ·rename_i n' x y z fs0 s0 e _ _ _;cases e;split at h
   ·rename_i hb;exact OY hb (cW hm n h hp hl)
   ·rename_i hb;exact MO hb (cW hm n h hp hl)
   ·cases h
  ·rename_i n' e _ _ _;cases e;exact MM (cW hm n h hp hl)
  ·rename_i n' e _ _ _;cases e;split at h
   ·rename_i fs1 he;refine OW (D5 he (A7 (fun c fs' e=>?_) (fun fs' e=>?_)))
    ·rw [e] at h;exact cW hm n h hp hl
    ·rw [e] at h;cases h;exact hl
   ·cases h
  ·rename_i n' e _ _ _;cases e;cases h;exact Qh (D8 hl)
  ·rename_i n' e _ _ _ _;cases e;cases h;exact hl
  ·cases h
end
def dead:AS:=⟨0,[(0,.dslice [[]])],[]⟩
theorem G3 {P:Program} {c:Cx P} {a:Act} {w:World} {β:Nat→Nat} {κ:Nat→Nat×Nat} (r:Rel c dead a w β κ):False:=by
 have h:=r.tm 0;simp only [dead,lk,Nat.beq_refl,cond_true] at h;generalize a.tmps.getD 0 undef=V at h;cases h with
 | d h =>
  cases h with
  | dslice _ b o cap sz cv h1 h2 h0 h3 h4 h5 h6 =>
   have:=h4 0 (by simp);simp at this;omega
section
variable {P:Program} {Q Q':Exit→AS→Prop} {c:Code} {fs:List Fr} {s:AS}
theorem eA.lift {cd:Code} (h:eA P cd Q s) (hq:∀ (c:Cx P) e a w,lift c Q e a w→lift c Q' e a w):eA P cd Q' s:=fun c a w β κ r=>wp_mono (h c a w β κ r) fun e a w q=>hq c e a w q
def On (cs:List Cd):Option (List Prop×LO)→Option (List Prop×AS×AS)
 | some (ps,.nrm (.bar S::_) s)=>match conv cs s with
  | some s'=>some (ps,s',S)
  | none=>none
 | _=>none
theorem n8 (hm:P.follows .mixedOrders=true) (n:Nat) (sg:List Sg) (cs:List Cd) (S:AS) {ps:List Prop} (hp:cQ ps) (h:On cs (path P n sg c fs s)=some (ps,S,S)):eA P c (bZ P fs Q) s:=by
 unfold On at h;split at h
 ·rename_i ps' S' fs' s' hpath;split at h
  ·rename_i s2 hc;simp only [S9,Prod.mk.injEq] at h;obtain ⟨rfl,rfl,rfl⟩:=h;exact cW hm n hpath hp (ep cs hc)
  ·cases h
 ·cases h
def P6 (P:Program) (rs:List ResultVar) (v:AV) (h1:List (Nat×AO)):Exit→AS→Prop
 | .ret,s=>∃ s2 ks,Cv s s2∧Dn P s2 rs=some v∧sel ks s2.h=h1
 | .normal,s=>∃ s2 ks,Cv s s2∧Dn P s2 rs=some v∧sel ks s2.h=h1
 | _,_=>False
def PT (P:Program) (rs:List ResultVar) (cs:List Cd) (ks:List Nat) (ps:List Prop) (s:AS):Option (List Prop×AV×List (Nat×AO)) :=
 match conv cs s with
 | some s2=>match Dn P s2 rs with
  | some v=>some (ps,v,sel ks s2.h)
  | none=>none
 | none=>none
def Rk (P:Program) (rs:List ResultVar) (cs:List Cd) (ks:List Nat):Option (List Prop×LO)→Option (List Prop×AV×List (Nat×AO))
 | some (ps,.nrm [] s)=>PT P rs cs ks ps s
 | some (ps,.ret s)=>PT P rs cs ks ps s
 | _=>none
theorem Gl {rs:List ResultVar} {cs:List Cd} {ks:List Nat} {ps ps':List Prop} {v:AV} {h1:List (Nat×AO)} (h:PT P rs cs ks ps s=some (ps',v,h1)):ps=ps'∧∃ s2 ks,Cv s s2∧Dn P s2 rs=some v∧sel ks s2.h=h1:=by
 unfold PT at h;split at h
 ·rename_i s2 hc;split at h
  ·rename_i v' hv;simp only [S9,Prod.mk.injEq] at h;obtain ⟨rfl,rfl,rfl⟩:=h;exact ⟨rfl,s2,ks,ep cs hc,hv,rfl⟩
  ·cases h
 ·cases h
theorem Jd (hm:P.follows .mixedOrders=true) (n:Nat) (sg:List Sg) (cs:List Cd) (ks:List Nat) {rs:List ResultVar} {v:AV} {h1:List (Nat×AO)} {ps:List Prop} (hp:cQ ps) (h:Rk P rs cs ks (path P n sg c fs s)=some (ps,v,h1)):eA P c (bZ P fs (P6 P rs v h1)) s:=by
 unfold Rk at h;split at h
 ·rename_i ps' s' hpath;obtain ⟨rfl,h2⟩:=Gl h;exact cW hm n hpath hp h2
 ·rename_i ps' s' hpath;obtain ⟨rfl,h2⟩:=Gl h;exact cW hm n hpath hp h2
 ·cases h
def kH:Nat→List Bool→Code→List Fr→Code×List Fr
 | 0,_,c,fs=>(c,fs)
 | n+1,bs,.seq x y,fs=>kH n bs x (.seq y::fs)
 | n+1,bs,.skip,fs=>match Fy fs with
  | (some c,fs')=>kH n bs c fs'
  | (none,fs')=>(.skip,fs')
 | n+1,bs,.region _ _ _,fs=>match Fy fs with
  | (some c,fs')=>kH n bs c fs'
  | (none,fs')=>(.skip,fs')
 | n+1,b::bs,.cond _ y z,fs=>kH n bs (bif b then y else z) fs
 | n+1,bs,.block id y,fs=>kH n bs y (.blk id::fs)
 | n+1,bs,.loop y,fs=>kH n bs y (.rnd 63 y::fs)
 | n+1,bs,.exit id,fs=>match Jf id fs with
  | some fs1=>match Fy fs1 with
   | (some c,fs')=>kH n bs c fs'
   | (none,fs')=>(.skip,fs')
  | none=>(.skip,fs)
 | _+1,_,c,fs=>(c,fs)
def QC (cs:List Cd):Option (List Prop×LO)→Option (List Prop×Code×List Fr×AS)
 | some (ps,.at c fs s)=>match conv cs s with
  | some s'=>some (ps,c,fs,s')
  | none=>none
 | _=>none
theorem Jc (hm:P.follows .mixedOrders=true) (n:Nat) (sg:List Sg) (cs:List Cd) (m:Nat) (bs:List Bool) (S:AS) {ps:List Prop} (hp:cQ ps) (h:QC cs (path P n sg c fs s)=some (ps,(kH m bs c fs).1,(kH m bs c fs).2,S))
 (ht:eA P (kH m bs c fs).1 (bZ P (kH m bs c fs).2 Q) S):eA P c (bZ P fs Q) s:=by
 unfold QC at h;split at h
 ·rename_i ps' c' fs' s' hpath;split at h
  ·rename_i s2 hc;simp only [S9,Prod.mk.injEq] at h;obtain ⟨rfl,h1,h2,rfl⟩:=h;refine cW hm n hpath hp ?_;rw [← h1,← h2] at ht;exact (ep cs hc).tri ht
  ·cases h
 ·cases h
def Ig:Nat→AS→List Fr→List Fr
 | _,_,[]=>[]
 | 0,S,_::fs=>.bar S::fs
 | k+1,S,f::fs=>f::Ig k S fs
def DD:Nat→List Fr→Code
 | 0,.seq y::_=>y
 | k+1,_::fs=>DD k fs
 | _,_=>.skip
def zZ:Nat→List Fr→Bool
 | 0,.seq _::_=>true
 | k+1,_::fs=>zZ k fs
 | _,_=>false
theorem Mi:∀ (f:Fr) {Q Q':Exit→AS→Prop} {fs fs':List Fr},(∀ (c:Cx P) e a w,lift c (bZ P fs Q) e a w→lift c (bZ P fs' Q') e a w)→∀ (c:Cx P) e a w,lift c (bZ P (f::fs) Q) e a w→lift c (bZ P (f::fs') Q') e a w:=by
 intro f Q Q' fs fs' h c e a w ⟨s,β,κ,hs,r⟩;cases f with
 | seq y =>
  cases e with
  | normal=>exact ⟨s,β,κ,eA.lift (hs:eA P y (bZ P fs Q) s) h,r⟩
  | _ =>
   obtain ⟨s',β',κ',hs',r'⟩:=h c _ a w ⟨s,β,κ,hs,r⟩;exact ⟨s',β',κ',hs',r'⟩
 | rnd n y =>
  cases e with
  | normal=>exact ⟨s,β,κ,RT.lift (hs:RT P n y (bZ P fs Q) s) h,r⟩
  | _ =>
   obtain ⟨s',β',κ',hs',r'⟩:=h c _ a w ⟨s,β,κ,hs,r⟩;exact ⟨s',β',κ',hs',r'⟩
 | bar S =>
  cases e with
  | normal=>exact ⟨s,β,κ,hs,r⟩
  | _ =>
   obtain ⟨s',β',κ',hs',r'⟩:=h c _ a w ⟨s,β,κ,hs,r⟩;exact ⟨s',β',κ',hs',r'⟩
 | blk id =>
  cases e with
  | exit j =>
   simp only [bZ,blk] at hs;cases hb:Nat.beq j id with
   | true =>
    rw [hb] at hs;obtain ⟨s',β',κ',hs',r'⟩:=h c _ a w ⟨s,β,κ,hs,r⟩;refine ⟨s',β',κ',?_,r'⟩;simp only [bZ,blk,hb];exact hs'
   | false =>
    rw [hb] at hs;obtain ⟨s',β',κ',hs',r'⟩:=h c _ a w ⟨s,β,κ,hs,r⟩;refine ⟨s',β',κ',?_,r'⟩;simp only [bZ,blk,hb];exact hs'
  | _ =>
   obtain ⟨s',β',κ',hs',r'⟩:=h c _ a w ⟨s,β,κ,hs,r⟩;exact ⟨s',β',κ',hs',r'⟩
theorem A6:∀ (k:Nat) {fs:List Fr} {S:AS},zZ k fs=true→(S=dead∨eA P (DD k fs) (bZ P (fs.drop (k+1)) Q) S)→∀ (c:Cx P) e a w,lift c (bZ P (Ig k S fs) Q) e a w→lift c (bZ P fs Q) e a w
 | 0,[],S,h,_=>by cases h
 | _+1,[],S,h,_=>by cases h
 | 0,f::fs,S,h,h2=>by
  intro c e a w ⟨s,β,κ,hs,r⟩;cases f with
  | seq y =>
   cases e with
   | normal =>
    obtain ⟨β',κ',r'⟩:=(hs:Cv s S) _ c a w β κ r;rcases h2 with h2 | h2
    ·subst h2;exact (G3 r').elim
    ·exact ⟨S,β',κ',h2,r'⟩
   | _=>exact ⟨s,β,κ,hs,r⟩
  | blk id=>cases h
  | bar S=>cases h
  | rnd n y=>cases h
 | k+1,f::fs,S,h,h2=>Mi f (A6 k (fs:=fs) h h2)
theorem bQ (k:Nat) (S:AS) (hk:zZ k fs=true) (h1:eA P c (bZ P (Ig k S fs) Q) s) (h2:eA P (DD k fs) (bZ P (fs.drop (k+1)) Q) S):eA P c (bZ P fs Q) s :=
 h1.lift (A6 k hk (.inr h2))
def RM {ε ρ:Type} (S:ε→AS):Out ε ρ→AS
 | .brk e=>S e
 | .ret _=>dead
theorem PU {ε ρ:Type} (k:Nat) (S:ε→AS) (R:Out ε ρ) (hk:zZ k fs=true) (h1:eA P c (bZ P (Ig k (RM S R) fs) Q) s) (h2:∀ e,R = .brk e→eA P (DD k fs) (bZ P (fs.drop (k+1)) Q) (S e)):eA P c (bZ P fs Q) s :=
 h1.lift (A6 k hk (by cases R with | brk e=>exact .inr (h2 e rfl) | ret x=>exact .inl rfl))
def n7:Code→Code
 | .loop y=>y
 | _=>.skip
def A5:Code→Bool
 | .loop _=>true
 | _=>false
theorem rq (h:A5 c=true):c = .loop (n7 c):=by cases c<;>first | rfl | (cases h;done)
theorem Steps.tail {m m1 m2:Machine} (h:step P m = .next m1) (hs:Steps P m m2) (hne:m≠m2):Steps P m1 m2:=by
 obtain ⟨n,hn⟩:=hs;cases n with
 | zero=>simp only [runN] at hn;exact absurd (by injection hn) hne
 | succ n=>simp only [runN,h] at hn;exact ⟨n,hn⟩
theorem zc {id:Nat}:∀ {k k':List Item},exitTo id k=some k'→k'.length≤k.length
 | [],_,h=>by simp [exitTo] at h
 | x::k,k',h=>by
  unfold exitTo at h;split at h
  ·rename_i e;cases e;split at h
   ·cases h;simp
   ·exact Nat.le_trans (zc h) (Nat.le_succ _)
  ·rename_i e;cases e;exact Nat.le_trans (zc h) (Nat.le_succ _)
  ·rename_i e;cases e
theorem Db {f f':Frame} {cs:List Frame} {w w':World} (h:f≠f'):lone f cs w≠lone f' cs w':=by intro e;simp only [lone,Machine.mk.injEq,Array.mk.injEq,List.cons.injEq,Goroutine.mk.injEq,and_true,true_and] at e;exact h e.2
theorem Qj {y:Code} {Q:Exit→Act→World→Prop} (hQ:∀ l a w,¬ Q (.goto l) a w) (hO:∀ a w,¬ Q .outgrown a w) {a:Act} {w:World} (h:y.wp P (Exit.then (fun a w=>(Code.loop y).wp P Q a w) Q) a w):(Code.loop y).wp P Q a w:=by
 intro b k cs;obtain ⟨e,a₁,w₁,hq,harr⟩:=h b (.inLoop y::k) cs;cases e with
 | normal =>
  obtain ⟨e₂,a₂,w₂,hq₂,harr₂⟩:=(show (Code.loop y).wp P Q a₁ w₁ from hq) b k cs;have hst:step P (lone (b.at a₁ (.code (.loop y)::k)) cs w₁) = .next (lone (b.at a₁ (.code y :: .inLoop y::k)) cs w₁):=step_loop
  refine ⟨e₂,a₂,w₂,hq₂,.of_steps (.head step_loop (Steps.trans harr (.one step_inLoop))) ?_⟩;cases e₂ with
  | normal=>exact Steps.tail hst harr₂ (Db fun e=>by have:=congrArg (fun f=>f.todo.length) e;simp [Frame.at] at this)
  | exit id=>exact fun k' hk=>Steps.tail hst (harr₂ k' hk) (Db fun e=>by have:=congrArg (fun f=>f.todo.length) e;have:=zc hk;simp [Frame.at] at *;omega)
  | goto l=>exact absurd hq₂ (hQ _ _ _)
  | ret=>obtain ⟨todo,hs⟩:=harr₂;exact ⟨todo,Steps.tail hst hs (Db fun e=>by have:=congrArg (fun f=>f.mode) e;simp [Frame.at] at this)⟩
  | panic ch=>obtain ⟨todo,hs⟩:=harr₂;exact ⟨todo,Steps.tail hst hs (Db fun e=>by have:=congrArg (fun f=>f.mode) e;simp [Frame.at] at this)⟩
  | outgrown=>exact absurd hq₂ (hO _ _)
 | exit id=>exact ⟨_,a₁,w₁,hq,.of_steps (.one step_loop) (.pass (x:=.inLoop y) rfl (fun _ _=>.inl (by simp)) harr)⟩
 | goto l=>exact ⟨_,a₁,w₁,hq,.of_steps (.one step_loop) (.pass (x:=.inLoop y) rfl (fun _ _=>.inl (by simp)) harr)⟩
 | ret=>exact ⟨_,a₁,w₁,hq,.of_steps (.one step_loop) (.pass (x:=.inLoop y) rfl (fun _ _=>.inl (by simp)) harr)⟩
 | panic ch=>exact ⟨_,a₁,w₁,hq,.of_steps (.one step_loop) (.pass (x:=.inLoop y) rfl (fun _ _=>.inl (by simp)) harr)⟩
 | outgrown=>exact ⟨_,a₁,w₁,hq,.of_steps (b:=b) (k:=k) (cs:=cs) (e:=.outgrown) (.one step_loop) (.pass (x:=.inLoop y) rfl (fun _ _=>.inl (by simp)) harr)⟩
theorem D6 {l:Nat}:∀ {fs:List Fr} {s:AS},bZ P fs Q (.goto l) s→Q (.goto l) s
 | [],_,h=>h
 | .seq _::fs,_,h=>D6 (fs:=fs) h
 | .blk _::fs,_,h=>D6 (fs:=fs) h
 | .bar _::fs,_,h=>D6 (fs:=fs) h
 | .rnd _ _::fs,_,h=>D6 (fs:=fs) h
theorem D7:∀ {fs:List Fr} {s:AS},bZ P fs Q .outgrown s→Q .outgrown s
 | [],_,h=>h
 | .seq _::fs,_,h=>D7 (fs:=fs) h
 | .blk _::fs,_,h=>D7 (fs:=fs) h
 | .bar _::fs,_,h=>D7 (fs:=fs) h
 | .rnd _ _::fs,_,h=>D7 (fs:=fs) h
theorem Rm (hQ:∀ l s,¬ Q (.goto l) s) (hO:∀ s,¬ Q .outgrown s) (hc:A5 c=true) (h:eA P (n7 c) (bZ P (.seq c::fs) Q) s):eA P c (bZ P fs Q) s:=by
 rw [rq hc] at h ⊢;intro cx a w β κ r;refine Qj (fun l a w ⟨s',β',κ',q,_⟩=>hQ l s' (D6 q)) (fun a w ⟨s',β',κ',q,_⟩=>hO s' (D7 q)) ?_;refine wp_mono (h cx a w β κ r) fun e a' w' ⟨s',β',κ',q,r'⟩=>?_;cases e with
 | normal=>exact (show eA P _ (bZ P fs Q) s' from q) cx a' w' β' κ' r'
 | exit id=>exact ⟨s',β',κ',q,r'⟩
 | goto l=>exact ⟨s',β',κ',q,r'⟩
 | ret=>exact ⟨s',β',κ',q,r'⟩
 | panic ch=>exact ⟨s',β',κ',q,r'⟩
 | outgrown=>exact ⟨s',β',κ',q,r'⟩
def SJ {σ ε ρ:Type} (S:σ→AS):kr σ ε ρ→AS
 | .go x=>S x
 | _=>dead
theorem Bd {ι:Type} {y:Code} (S:ι→AS) (φ:ι→Prop) (μ:ι→Nat) (i₀:ι) (h₀:φ i₀)
 (round:∀ i,φ i→∃ T,(T=dead∨∃ j,φ j∧μ j<μ i∧T=S j)∧eA P y (bZ P (.bar T::fs) Q) (S i)):eA P (.loop y) (bZ P fs Q) (S i₀):=fun c a w β κ r=>by
 refine wp_loop_ghost (fun n a w=>∃ i β κ,φ i∧μ i=n∧Rel c (S i) a w β κ) (μ i₀) ⟨i₀,β,κ,h₀,rfl,r⟩ ?_;rintro n a w ⟨i,β,κ,hi,rfl,r⟩;obtain ⟨T,hT,ht⟩:=round i hi;refine wp_mono (ht c a w β κ r) fun e a' w' ⟨s',β',κ',q,r'⟩=>?_;cases e with
 | normal =>
  obtain ⟨β2,κ2,r2⟩:=(q:Cv s' T) _ c a' w' β' κ' r';rcases hT with rfl | ⟨j,hj,hlt,rfl⟩
  ·exact (G3 r2).elim
  ·exact ⟨μ j,hlt,j,β2,κ2,hj,rfl,r2⟩
 | exit id=>exact ⟨s',β',κ',q,r'⟩
 | goto l=>exact ⟨s',β',κ',q,r'⟩
 | ret=>exact ⟨s',β',κ',q,r'⟩
 | panic ch=>exact ⟨s',β',κ',q,r'⟩
 | outgrown=>exact ⟨s',β',κ',q,r'⟩
theorem Se {σ ε ρ:Type} {body:Nat→σ→Option (kr σ ε ρ)} {fin:Nat→σ→ε} {N i0:Nat} {st0:σ} {R:Out ε ρ} (S:Nat→σ→AS) (hc:A5 c=true) (H:bR body fin (N-i0) i0 st0=some R)
 (zero:∀ i st,N≤i→R = .brk (fin i st)→eA P (n7 c) (bZ P (.bar dead::fs) Q) (S i st))
 (succ:∀ i st,i<N→∀ q,body i st=some q→Cf q R→eA P (n7 c) (bZ P (.bar (SJ (S (i+1)) q)::fs) Q) (S i st)):eA P c (bZ P fs Q) (S i0 st0):=by
 rw [rq hc];refine Bd (ι:=Nat×σ) (fun x=>S x.1 x.2) (fun x=>bR body fin (N-x.1) x.1 x.2=some R) (fun x=>N-x.1) (i0,st0) H ?_;rintro ⟨i,st⟩ hi;by_cases hN:N≤i
 ·rw [show N-i=0 by omega] at hi;simp only [bR,S9] at hi;exact ⟨dead,.inl rfl,zero i st hN hi.symm⟩
 ·have e:N-i=(N-(i+1))+1:=by omega
  have hi:bR body fin (N-i) i st=some R:=hi;rw [e] at hi;simp only [bR] at hi;refine aq hi fun q hq hK=>?_;cases q with
  | go st'=>exact ⟨S (i+1) st',.inr ⟨(i+1,st'),hK,by show N-(i+1)<N-i;omega,rfl⟩,succ i st (by omega) _ hq trivial⟩
  | brk e=>exact ⟨dead,.inl rfl,succ i st (by omega) _ hq (Tb hK).symm⟩
  | ret e=>exact ⟨dead,.inl rfl,succ i st (by omega) _ hq (Tb hK).symm⟩
theorem o6 {σ ε ρ:Type} {body:σ→Option (kr σ ε ρ)} {n:Nat} {st0:σ} {R:Out ε ρ} (S:σ→AS) (hc:A5 c=true) (H:vq body n st0=some R)
 (succ:∀ st,∀ q,body st=some q→Cf q R→eA P (n7 c) (bZ P (.bar (SJ S q)::fs) Q) (S st)):eA P c (bZ P fs Q) (S st0):=by
 rw [rq hc];refine Bd (ι:=Nat×σ) (fun x=>S x.2) (fun x=>vq body x.1 x.2=some R) (fun x=>x.1) (n,st0) H ?_;rintro ⟨k,st⟩ hi;cases k with
 | zero=>cases hi
 | succ k =>
  have hi:(body st).bind (CZ (vq body k))=some R:=hi;refine aq hi fun q hq hK=>?_;cases q with
  | go st'=>exact ⟨S st',.inr ⟨(k,st'),hK,Nat.lt_succ_self k,rfl⟩,succ st _ hq trivial⟩
  | brk e=>exact ⟨dead,.inl rfl,succ st _ hq (Tb hK).symm⟩
  | ret e=>exact ⟨dead,.inl rfl,succ st _ hq (Tb hK).symm⟩
theorem JO {f:FuncId} {fn:Func} {args:List AV} {h h1:List (Nat×AO)} {v:AV} (hf:P.funcs[f]? = some fn) (n:Nat) (rs:List ResultVar) (hok:(zY fn&&Nat.beq fn.ntmps n&&Nat.ble args.length n)=true) (hrs:fn.results.toList=rs)
 (ht:eA P (Ds fn) (bZ P [] (P6 P rs v h1)) ⟨n,sV args 0,h⟩):bH P f args h (fun r h'=>r=v∧h'=h1):=by
 refine RJ hf n rs hok hrs (ht.lift fun c e a w ⟨s,β,κ,q,r⟩=>?_);have key:(∃ s2 ks,Cv s s2∧Dn P s2 rs=some v∧sel ks s2.h=h1)→∃ s β κ,(∃ v' ks,Dn P s rs=some v'∧v'=v∧sel ks s.h=h1)∧Rel c s a w β κ:=by rintro ⟨s2,ks,hcv,h2,h3⟩;obtain ⟨β',κ',r'⟩:=hcv _ c a w β κ r;exact ⟨s2,β',κ',⟨v,ks,h2,rfl,h3⟩,r'⟩
 cases e with
 | normal=>exact key q
 | ret=>exact key q
 | exit id=>exact q.elim
 | goto l=>exact q.elim
 | panic ch=>exact q.elim
 | outgrown=>exact q.elim
end
end Go.Ab
namespace Go.Sh
abbrev aj:=List UInt8
def aftE {ε β:Type} (f:ε→Option β):Out ε Empty→Option β
 | .brk e=>f e
theorem br {ε β:Type} {f:ε→Option β} {e:ε} {v:β} (h:aft f (.brk e)=some v):f e=some v:=h
theorem aW {ε β:Type} {f:ε→Option β} {x v:β} (h:aft f (.ret x)=some v):some x=some v:=h
theorem a7 {ε β:Type} {f:ε→Option β} {e:ε} {v:β} (h:aftE f (.brk e)=some v):f e=some v:=h
theorem kl {σ ε ρ:Type} {e:ε} {R:Out ε ρ} (h:Cf (.brk e:kr σ ε ρ) R):R = .brk e:=h
theorem bb {σ ε ρ:Type} {x:ρ} {R:Out ε ρ} (h:Cf (.ret x:kr σ ε ρ) R):R = .ret x:=h
def cI {K V:Type} [DecidableEq K] (d:V) (x:K):List (K×V)→V
 | []=>d
 | (k,n)::m=>if k=x then n else cI d x m
def px {K V:Type} [DecidableEq K] (x:K) (n:V):List (K×V)→List (K×V)
 | []=>[(x,n)]
 | (k,u)::m=>if k=x then (x,n)::m else (k,u)::px x n m
end Go.Sh
namespace Go.Ab
open Go.RowKit Go.Sh
theorem nK (l:List UInt8) (a:Nat):AV.str ((l.drop a).take (l.length-a)) = .str (l.drop a):=by congr 1;exact List.take_of_length_le (by simp)
theorem xm (l:List UInt8) (b:Nat):AV.str ((l.drop 0).take (b-0)) = .str (l.take b):=by simp
theorem AA {α:Type} (c:α→List AV) (l:List α) (a:Nat):AV.dslice (((l.map c).drop a).take ((l.map c).length-a)) = .dslice ((l.drop a).map c):=by congr 1;rw [List.take_of_length_le (by simp),List.map_drop]
theorem qX {α:Type} (c:α→List AV) (l:List α) (b:Nat):AV.dslice (((l.map c).drop 0).take (b-0)) = .dslice ((l.take b).map c):=by simp [List.map_take]
theorem Qc {α:Type} (c:α→List AV) (l:List α) (a b:Nat):AV.dslice (((l.map c).drop a).take (b-a)) = .dslice (((l.drop a).take (b-a)).map c):=by simp [List.map_take,List.map_drop]
theorem M0 {α:Type} {c:α→List AV} {sz:Nat} (h:∀ x,(c x).length=sz∧(c x).all (fun v=>v.one&&v.fl)=true) (l:List α):EL sz (l.map c):=by intro y hy;obtain ⟨x,_,rfl⟩:=List.mem_map.1 hy;refine ⟨(h x).1,fun v hv=>?_⟩;have:=Tc.1 (h x).2 v hv;simpa [SY] using this
theorem iU {α:Type} {c:α→List AV} {sz:Nat} (h:∀ x,(c x).length=sz∧(c x).all (fun v=>v.one&&v.fl)=true) (xs ys:List α) (by_:Nat) (hb:0<by_) (hc:(xs.length+ys.length)*by_≤140737488355328) :
 cQ [EL sz (ys.map c),((xs.map c).length+(ys.map c).length)*by_≤140737488355328,(xs.map c).length+(ys.map c).length≤9223372036854775807]:=by
 refine ⟨M0 h ys,by simpa using hc,?_⟩;have:xs.length+ys.length≤(xs.length+ys.length)*by_:=Nat.le_mul_of_pos_right _ hb;show (xs.map c).length+(ys.map c).length≤_;simp only [S7];omega
theorem SR {α:Type} {c:α→List AV} {sz:Nat} (h:∀ x,(c x).length=sz∧(c x).all (fun v=>v.one&&v.fl)=true) (xs ys:List α) (by_:Nat) (hb:0<by_) (hc:(xs.length+ys.length)*by_≤140737488355328) :
 cQ [EL sz (xs.map c++ys.map c),((xs.map c).length+(ys.map c).length)*by_≤140737488355328,(xs.map c).length+(ys.map c).length≤9223372036854775807]:=by
 obtain ⟨_,h2,h3⟩:=iU h xs ys by_ hb hc;refine ⟨?_,h2,h3⟩;rw [← List.map_append];exact M0 h _
theorem ow {α:Type} (e sz:Nat) (c:α→List AV) (xs ys:List α):AO.row e sz (xs.map c++ys.map c) = .row e sz ((xs++ys).map c):=by rw [List.map_append]
theorem Ib {α:Type} (e sz:Nat) (c:α→List AV) (ys:List α):AO.row e sz (([]:List α).map c++ys.map c) = .row e sz (ys.map c):=rfl
theorem SO {α:Type} {c:α→List AV} {sz:Nat} (h:∀ x,(c x).length=sz∧(c x).all (fun v=>v.one&&v.fl)=true) (ys:List α) (by_:Nat) (hb:0<by_) (hc:ys.length*by_≤140737488355328) :
 cQ [EL sz (ys.map c),(ys.map c).length*by_≤140737488355328,(ys.map c).length≤9223372036854775807]:=by
 refine ⟨M0 h ys,by simpa using hc,?_⟩;have:ys.length≤ys.length*by_:=Nat.le_mul_of_pos_right _ hb;show (ys.map c).length≤_;simp only [S7];omega
theorem wrap_u8 (x:UInt8):IntKind.wrap .i64 (x.toNat:Int)=(x.toNat:Int):=wrap64 ⟨by omega,by have:=x.toNat_lt;omega⟩
def Fa (t:TypeId) (ok:Bool):AV:=bif ok then .nilI else .iface t .any
def NI:List AV→AV
 | v::_=>v
 | []=>.any
class MapKey (K:Type) where
 k:K→Key
 inj:∀ a b,k a=k b→a=b
 kd:Nat
 kind:∀ a,(k a).kind=kd
instance:MapKey aj:=⟨Key.s,fun _ _ h=>by injection h,0,fun _=>rfl⟩
instance:MapKey Int:=⟨Key.i,fun _ _ h=>by injection h,1,fun _=>rfl⟩
def uA {K V:Type} [MapKey K] (c:V→List AV) (p:K×V):Key×AV:=(MapKey.k p.1,NI (c p.2))
abbrev dD {V:Type} (c:V→List AV) (p:aj×V):Key×AV:=uA c p
theorem Ge {K V:Type} [MapKey K] (c:V→List AV) (x:K) (m:List (K×V)):∀ p∈m.map (uA c),p.1.kind=(MapKey.k x).kind:=fun p hp=>by obtain ⟨q,_,rfl⟩:=List.mem_map.1 hp;exact (MapKey.kind q.1).trans (MapKey.kind x).symm
theorem sY {K V:Type} [MapKey K] [DecidableEq K] {c:V→List AV} (x:K) (d:V):∀ (m:List (K×V)),rM (MapKey.k x) (NI (c d)) (m.map (uA c))=NI (c (cI d x m))
 | []=>rfl
 | (k,n)::m=>by
  simp only [List.map_cons,uA,rM,cI];by_cases h:k=x
  ·rw [if_pos h,if_pos (by rw [h])]
  ·rw [if_neg h,if_neg fun e=>h (MapKey.inj _ _ e)];exact sY x d m
theorem AL {K V:Type} [MapKey K] [DecidableEq K] {c:V→List AV} (x:K) (n:V):∀ (m:List (K×V)),Dm (MapKey.k x) (NI (c n)) (m.map (uA c))=(px x n m).map (uA c)
 | []=>rfl
 | (k,u)::m=>by
  simp only [List.map_cons,uA,Dm,px];by_cases h:k=x
  ·rw [if_pos h,if_pos (by rw [h])];rfl
  ·rw [if_neg h,if_neg fun e=>h (MapKey.inj _ _ e),List.map_cons];exact congrArg _ (AL x n m)
section
variable {P:Program} {Q:Exit→AS→Prop} {s:AS}
def Qv (s:AS) (k i:Nat):List Prop:=match lk .gone s.h k with
 | .cells _ cs=>bif Nat.blt i cs.length then IU (cs.getD i .any) else []
 | _=>[]
theorem gv {cd:Code} (k i:Nat) {ps:List Prop} (h:Qv s k i=ps) (ht:cQ ps→eA P cd Q s):eA P cd Q s:=fun c a w β κ r=>by
 refine ht ?_ c a w β κ r;subst h;unfold Qv;split
 ·rename_i e cs he;cases hb:Nat.blt i cs.length with
  | false=>trivial
  | true =>
   have:=r.hp.ob k;rw [he] at this;obtain ⟨cur,_,_,h3⟩:=this;exact A9 (h3 i (by simpa [Nat.blt_eq] using hb))
 ·trivial
def Oy (s:AS) (k:Nat):Option Nat:=match lk .gone s.h k with
 | .row _ _ xs=>some xs.length
 | _=>none
theorem LK {cd:Code} (k:Nat) {n:Nat} (h:Oy s k=some n) (ht:n≤9223372036854775807→eA P cd Q s):eA P cd Q s:=fun c a w β κ r=>by
 refine ht ?_ c a w β κ r;unfold Oy at h;split at h
 ·rename_i e sz xs he;cases h;have:=r.hp.ob k;rw [he] at this;by_cases hx:xs=[]
  ·subst hx;simp
  ·obtain ⟨cur,_,_,h3,h4,_⟩:=this.2 hx;exact Nat.le_trans h3 h4
 ·cases h
end
theorem bp.is' {P:Program} {f:FuncId} {args:List AV} {v:AV} (h:bp P f args v):bH P f args [] fun r _=>r=v:=bp.is h
theorem Gr {α:Type} {f:α→List AV} {l:List α} {n:Nat} (sz j m:Nat) (hn:n<l.length) (hj:j+m≤sz):n*sz+j=n*sz+j∧n<(l.map f).length∧j+m≤sz:=⟨rfl,by simpa using hn,hj⟩
theorem kU {α:Type} {f:α→List AV} {l:List α} {n:Nat} (d:α) (h:n<l.length):(l.map f).getD n []=f (l.getD n d):=by simp [SW,SX h]
theorem Pa {α:Type} {f:α→List AV} {l:List α} {n:Nat} (d:α) (j:Nat) (h:n<l.length):((l.map f).getD n []).getD j .any=(f (l.getD n d)).getD j .any:=by rw [kU d h]
theorem Sk {α:Type} {f:α→List AV} {l:List α} {n:Nat} (d:α) (j m:Nat) (h:n<l.length):AV.agg ((((l.map f).getD n []).drop j).take m) = .agg (((f (l.getD n d)).drop j).take m):=by rw [kU d h]
theorem Sp {α:Type} {f:α→List AV} (e sz:Nat) (l:List α) (n:Nat) (d x:α) (j:Nat) (vs:List AV) (h:n<l.length) (hx:fh (f (l.getD n d)) j vs=f x):AO.row e sz ((l.map f).set n (fh ((l.map f).getD n []) j vs)) = .row e sz ((l.set n x).map f):=by rw [kU d h,hx,List.map_set]
theorem QY {α:Type} {c:α→List AV} {sz:Nat} (h:∀ x,(c x).length=sz∧(c x).all (fun v=>v.one&&v.fl)=true) (xs ys:List α) (by_:Nat) (hb:0<by_) (hc:(xs.length+ys.length)*by_≤140737488355328) {zs:List (List AV)} (hz:xs.map c++ys.map c=zs) :
 cQ [EL sz (ys.map c),((xs.map c).length+(ys.map c).length)*by_≤140737488355328,(xs.map c).length+(ys.map c).length≤9223372036854775807,xs.map c++ys.map c=zs]:=by
 obtain ⟨h1,h2,h3⟩:=iU h xs ys by_ hb hc;exact ⟨h1,h2,h3,hz⟩
open Go.Proofs
theorem tP {P:Program} {f:FuncId} {args:List AV} {v:AV} (hfl:AV.flL args=true)
 (h:∀ (w:World) (X:Nat→Prop) (vs:List Value),vs.length=args.length→(∀ b,X b→b<w.heap.size)→(∀ i,i<args.length→D w X (args.getD i .any) (vs.getD i undef))→GP P w→Calls P f vs.toArray w fun e w'=>∃ V,e = .returned V∧Below w.heap.size w w'∧D w' X v V):bp P f args v:=by
 intro c vs hl hr hg;have hX:∀ b,c.XX [] c.β b→c.X b:=fun b hb=>hb.resolve_right fun ⟨k,hk,_⟩=>l6 hk;refine (h c.W c.X vs hl c.hX (fun i hi=>((hg i hi).toD (iX hi hfl)).mono (fun _ _ _=>rfl) (fun b hb _ hb'=>hb (.inl hb'))) (c.gp _ (dG.refl _ _))).mono fun e w' ⟨V,e1,hb,hd⟩=>?_;have hk:dG c.K c.W w':=⟨hb.os,hb.tape,hb.output,hb.size,fun b hb2=>hb.block b (c.hK b hb2)⟩;exact ⟨V,v,[],c.β,c.κ,e1,⟨rfl,rfl⟩,(eN.nil (hk)),.d (hd.mono (fun _ _ _=>rfl) (fun b hb2 _ hb3=>hb2 (hX b hb3)))⟩
section
variable {P:Program} {ρ:Go.Shelf.Ren}
theorem D.str_inv {w:World} {X:Nat→Prop} {s:List UInt8} {V:Value} (h:D w X (.str s) V):V = .string ⟨s.toArray⟩∧s.length≤maxLen:=by cases h;exact ⟨rfl,by assumption⟩
theorem D.int_inv {w:World} {X:Nat→Prop} {k:IntKind} {n:Int} {V:Value} (h:D w X (.int k n) V):V = .int k n:=by cases h;rfl
theorem Sz {vs:List Value} (h:vs.length=1):vs=[vs.getD 0 undef]:=by
 match vs,h with
 | [v],_=>rfl
theorem QI {vs:List Value} (h:vs.length=2):vs=[vs.getD 0 undef,vs.getD 1 undef]:=by
 match vs,h with
 | [v,u],_=>rfl
theorem J1 (w:World) (k:Nat) (os:Array Obj):Below w.heap.size w (Go.Sort.grow (w.drewN k) os):=by refine ⟨rfl,rfl,rfl,by simp [Go.Sort.grow,World.drewN],fun b hb=>?_⟩;simp [Go.Sort.grow,World.drewN,Array.getElem?_append,hb]
def Lh (n:Int):aj:=bif decide (0≤n)&&decide (n<10) then [UInt8.ofNat (48+n.toNat)] else Lib.itoa n
theorem Aa:Lh=Lib.itoa:=by
 funext n;unfold Lh;by_cases h:0≤n∧n<10
 ·rw [S5 h.1,S5 h.2];obtain ⟨k,rfl⟩:∃ k:Nat,n=(k:Int):=⟨n.toNat,by omega⟩;rw [Lib.itoa_nonneg,Lib.decDigits,dif_pos (by omega)];rfl
 ·by_cases h1:0≤n
  ·rw [S4 (show ¬ n<10 from fun h2=>h ⟨h1,h2⟩),Bool.and_false];rfl
  ·rw [S4 h1];rfl
def jd (n:Int):Option aj:=bo (-9223372036854775808≤n∧n≤9223372036854775807∧(Lh n).length≤9223372036854775807)<|some (Lh n)
theorem M6 (L:LaysM.n171 P ρ) (hg:P.globalNamed "internal/strconv.uint64pow10" ≠ none) (n:Int) (r:aj) (H:jd n=some r):bp P (ρ.f 171) [.int .i64 n] (.str r):=by unfold jd at H;rw [Aa] at H;refine ao H fun hn H=>?_;refine bA H fun e=>?_;subst e;refine tP rfl fun w X vs hl _ hd gp=>?_;have h0:=(hd 0 (by simp)).int_inv;rw [Sz (vs:=vs) (by simpa using hl),h0];refine (Any.strconv_Itoa L n hn.1 hn.2.1 w (gp.pow10 hg)).mono fun e w' ⟨e1,k,os,e2⟩=>?_;exact ⟨_,e1,by rw [e2];exact J1 w k os,.str _ hn.2.2⟩
def BH (s:aj):Int×Bool:=match Lib.atoiAll s with | .ok v=>(v,true) | .range=>(Lib.atoiSat s,false) | _=>(0,false)
def th (s:aj):Option (Int×Bool):=bo (s.length≤281474976710656)<|some (BH s)
theorem IF (w:World) (a:Addr) (n b:Nat) (h:b≠a.block):(w.freeze a n).heap[b]? = w.heap[b]? := by
 unfold World.freeze;split
 ·rfl
 ·simp [Array.getElem?_modify,Ne.symm h]
theorem Ih (w:World) (e:TypeId) (s:ByteArray):Below w.heap.size w (Lib.bytesWorld w e s):=by
 unfold Lib.bytesWorld;have h1:Below w.heap.size w (w.drew.alloc (.cells (Lib.bytesCells w e s) e)):=(Below.refl _ w).drew.alloc (Nat.le_refl _) _;have hsz:((w.drew.alloc (.cells (Lib.bytesCells w e s) e)).freeze ⟨w.heap.size,(Lib.bytesCells w e s).size,none⟩ 1).heap.size=(w.drew.alloc (.cells (Lib.bytesCells w e s) e)).heap.size:=by
  unfold World.freeze;split
  ·rfl
  ·simp
 have hf:∀ (w:World) (a:Addr) (n:Nat),(w.freeze a n).os=w.os∧(w.freeze a n).tape=w.tape∧(w.freeze a n).output=w.output:=by intro w a n;unfold World.freeze;split<;>exact ⟨rfl,rfl,rfl⟩
 obtain ⟨f1,f2,f3⟩:=hf (w.drew.alloc (.cells (Lib.bytesCells w e s) e)) ⟨w.heap.size,(Lib.bytesCells w e s).size,none⟩ 1;exact ⟨f1.trans h1.os,f2.trans h1.tape,f3.trans h1.output,by rw [hsz];exact h1.size,fun b hb=>(IF _ _ _ _ (by show b≠w.heap.size;omega)).trans (h1.block b hb)⟩
theorem D.pair {w:World} {X:Nat→Prop} {a b:AV} {A B:Value} (ha:D w X a A) (hb:D w X b B):D w X (.tup [a,b]) (.tuple #[A,B]) :=
 .tup _ _ rfl fun i hi=>by
  match i,hi with
  | 0,_=>exact ha
  | 1,_=>exact hb
theorem M5 (L:LaysC.n172 P ρ) (hg1:P.globalNamed "strconv.ErrSyntax" ≠ none) (hg2:P.globalNamed "strconv.ErrRange" ≠ none) (s:aj) (r:Int×Bool) (H:th s=some r):bp P (ρ.f 172) [.str s] (.tup [.int .i64 r.1,Fa (ρ.t 168) r.2]):=by
 unfold th at H;refine ao H fun hn H=>?_;refine bA H fun e=>?_;subst e;refine tP rfl fun w X vs hl _ hd gp=>?_;have h0:=(hd 0 (by simp)).str_inv.1;rw [Sz (vs:=vs) (by simpa using hl),h0];have hsz:ByteArray.size ⟨s.toArray⟩=s.length:=by simp [ByteArray.size]
 unfold BH;cases hr:Lib.atoiAll s with
 | ok v =>
  refine (Any.strconv_Atoi_ok L ⟨s.toArray⟩ (by rw [hsz];omega) v (by simpa using hr) w).mono fun e w' ⟨e1,e2⟩=>?_;refine ⟨_,e1,?_,.pair (.int _ _) .nilI⟩;rcases e2 with rfl | ⟨t,rfl⟩
  ·exact .refl _ _
  ·exact Ih _ _ _
 | range =>
  obtain ⟨tp,p,hv⟩:=gp.rng hg2;refine (Any.strconv_Atoi_range_var L ⟨s.toArray⟩ (by rw [hsz];exact hn) (by simpa using hr) tp p w hv).mono fun e w' ⟨N,e1,_,_,e2⟩=>?_;refine ⟨_,e1,e2,.pair ?_ (.iface _ _ _ (.any _))⟩;simp only [List.toList_toArray];exact .int _ _
 | _ =>
  obtain ⟨tp,p,hv⟩:=gp.syn hg1;refine (Any.strconv_Atoi_syntax_var L ⟨s.toArray⟩ (by rw [hsz];exact hn) (by simpa using hr) tp p w hv).mono fun e w' ⟨N,e1,_,_,e2⟩=>?_;exact ⟨_,e1,e2,.pair (.int _ _) (.iface _ _ _ (.any _))⟩
def nT (xs:List aj) (sep:aj):Option aj:=bo ((Lib.join xs sep).length≤140737488355328∧xs.length≤140737488355328)<|some (Lib.join xs sep)
def lE (x:aj):List AV:=[.str x]
theorem M7 (L:Lays.n156 P ρ) (E:Builder.Extra P ρ) (xs:List aj) (sep:aj) (r:aj) (H:nT xs sep=some r):bp P (ρ.f 156) [.dslice (xs.map lE),.str sep] (.str r):=by
 unfold nT at H;refine ao H fun hn H=>?_;refine bA H fun e=>?_;subst e;refine tP rfl fun w X vs hl hX hd gp=>?_;have h0:=hd 0 (by simp);have h1:=(hd 1 (by simp)).str_inv.1;rw [QI (vs:=vs) (by simpa using hl),h1];simp only [List.getD_cons_zero] at h0;generalize vs.getD 0 undef=V at h0;have hmap:∀ ys:List aj,(ys.map fun y=>(⟨y.toArray⟩:ByteArray)).map (·.data.toList)=ys:=fun ys=>by simp [List.map_map,Function.comp_def]
 by_cases hx:xs=[]
 ·subst hx;have:∃ a c,V = .slice a 0 c:=by
   have h0:D w X (.dslice []) V:=h0;generalize hL:([]:List (List AV))=L at h0;cases h0 with
   | dnil a c _=>exact ⟨a,c,rfl⟩
   | dslice _ b o c sz cv h1 h2 h3=>subst hL;exact ⟨_,_,rfl⟩
  obtain ⟨a,c,rfl⟩:=this;refine (Any.strings_Join_none L E a c ⟨sep.toArray⟩ w).mono fun e w' ⟨e1,e2⟩=>?_;exact ⟨_,e1,by rw [e2];exact .refl _ _,.str [] (Nat.zero_le _)⟩
 ·have hne:0<xs.length:=List.length_pos_iff.2 hx;generalize hL:xs.map lE=L at h0;cases h0 with
  | dnil a c hc=>simp at hL;exact absurd hL hx
  | dslice _ b o c sz cv q1 q2 q0 q3 q4 q5 q6 =>
   subst hL;have hsz1:sz=1:=by
    have:=q4 0 (by simpa using hne);rw [← this];obtain ⟨x,ys,rfl⟩:∃ x ys,xs=x::ys:=by
     cases xs with
     | nil=>simp at hne
     | cons x ys=>exact ⟨x,ys,rfl⟩
    rfl
   subst hsz1;have hcell:∀ j,j<xs.length→w.cell? ⟨b,o+j,none⟩=some (.string ⟨(xs.getD j []).toArray⟩)∧(xs.getD j []).length≤maxLen:=by
    intro j hj;have a1:=q5 j 0 (by simpa using hj) (by omega);have a2:=q6 j 0 (by simpa using hj) (by omega);have e1:(xs.map lE).getD j []=lE (xs.getD j []):=by simp [SW,SX hj]
    rw [e1] at a2;have a3:=(show D w X (.str (xs.getD j [])) (cv j 0) from a2).str_inv;rw [show o+(j*1+0)=o+j by omega,a3.1] at a1;exact ⟨a1,a3.2⟩
   have hb:b<w.heap.size:=World.block_lt_of_cell? w _ (hcell 0 hne).1;have:=Any.strings_Join L E b o c (xs.map fun y=>(⟨y.toArray⟩:ByteArray)) ⟨sep.toArray⟩ w (fun j x hj=>by simp only [List.getElem?_map,Option.map_eq_some_iff] at hj;obtain ⟨y,hy,rfl⟩:=hj;have hlt:j<xs.length:=(S8.1 hy).1;have:=(hcell j hlt).1;rw [SW,hy] at this;exact this) hb (by simpa using hn.2) (by simpa using q1) (by rw [hmap];exact hn.1)
   rw [hmap] at this;simp only [S7] at this ⊢;refine this.mono fun e w' ⟨e1,e2⟩=>?_;exact ⟨_,e1,e2,.str _ (Nat.le_trans hn.1 (by decide))⟩
theorem Gv (sep:List UInt8) (save:Nat):∀ (k:Nat) (s x:List UInt8),x∈Lib.splitK sep save k s→x.length≤s.length
 | 0,s,x,h=>by simp only [Lib.splitK,List.mem_singleton] at h;rw [h];exact Nat.le_refl _
 | k+1,s,x,h=>by
  simp only [Lib.splitK] at h;split at h
  ·simp only [List.mem_singleton] at h;rw [h];exact Nat.le_refl _
  ·rcases List.mem_cons.1 h with h | h
   ·rw [h];simp only [List.length_take];omega
   ·have:=Gv sep save k _ x h;simp only [List.length_drop] at this;omega
def ti (s sep:aj):Option (List aj):=bo (s.length<4294967281∧1≤sep.length)<|some (Lib.splitK sep 0 (Lib.countB ⟨s.toArray⟩ ⟨sep.toArray⟩) s)
theorem LU (L:Lays.n146 P ρ) (hi9:(P.info? (ρ.t 9)).map (fun i=>(i.zero,i.size,i.bytes))=some (some (.string ByteArray.empty),1,16)) (hg:P.globalNamed "internal/bytealg.MaxLen" = some (ρ.g 1)) (s sep:aj) (r:List aj) (H:ti s sep=some r):bp P (ρ.f 146) [.str s,.str sep] (.dslice (r.map lE)):=by
 unfold ti at H;refine ao H fun hn H=>?_;refine bA H fun e=>?_;subst e;refine tP rfl fun w X vs hl hX hd gp=>?_;have h0:=(hd 0 (by simp)).str_inv;have h1:=(hd 1 (by simp)).str_inv;rw [QI (vs:=vs) (by simpa using hl),h0.1,h1.1];obtain ⟨m,hm⟩:=gp.len _ hg;have sz:∀ l:List UInt8,ByteArray.size ⟨l.toArray⟩=l.length:=fun l=>by simp [ByteArray.size]
 refine (Any.strings_Split L hi9 ⟨s.toArray⟩ ⟨sep.toArray⟩ m w (by rw [sz];exact hn.1) hm (by rw [sz];exact hn.2)).mono fun e w' ⟨e1,e2⟩=>?_;refine ⟨_,e1,by rw [e2];exact (Below.refl _ w).alloc (Nat.le_refl _) _,?_⟩;have hBl:((Lib.splitB ⟨sep.toArray⟩ 0 (Lib.countB ⟨s.toArray⟩ ⟨sep.toArray⟩) ⟨s.toArray⟩).map (·.data.toList))=Lib.splitK sep 0 (Lib.countB ⟨s.toArray⟩ ⟨sep.toArray⟩) s:=by rw [Lib.splitB_data]
 have hlen:(Lib.splitB ⟨sep.toArray⟩ 0 (Lib.countB ⟨s.toArray⟩ ⟨sep.toArray⟩) ⟨s.toArray⟩).length=Lib.countB ⟨s.toArray⟩ ⟨sep.toArray⟩+1:=Lib.splitB_all _ (by rw [sz];exact hn.2) 0 _ _ rfl;generalize Lib.splitB ⟨sep.toArray⟩ 0 (Lib.countB ⟨s.toArray⟩ ⟨sep.toArray⟩) ⟨s.toArray⟩=B at hBl hlen e2;generalize hr:Lib.splitK sep 0 (Lib.countB ⟨s.toArray⟩ ⟨sep.toArray⟩) s=r at hBl;have hle:∀ x∈r,x.length≤maxLen:=fun x hx=>Nat.le_trans (Gv sep 0 _ s x (by rw [hr];exact hx)) h0.2;have hrl:r.length=Lib.countB ⟨s.toArray⟩ ⟨sep.toArray⟩+1:=by rw [← hBl,S7,hlen]
 have hbig:r.length≤maxLen:=by rw [hrl];have:=Lib.countB_le ⟨sep.toArray⟩ (by rw [sz];exact hn.2) _ ⟨s.toArray⟩ (Nat.le_refl _);rw [sz] at this;exact Nat.le_trans (Nat.succ_le_succ this) (Nat.le_trans (show s.length+1≤4294967282 by omega) (by decide))
 have hml:(r.map lE).length=Lib.countB ⟨s.toArray⟩ ⟨sep.toArray⟩+1:=by rw [S7,hrl]
 have hcell:∀ i,i<r.length→w'.cell? ⟨w.heap.size,0+i,none⟩=some (.string ⟨(r.getD i []).toArray⟩):=by
  intro i hi;have hheap:w'.heap[w.heap.size]? = some (.cells (B.map Value.string).toArray (ρ.t 9) (0,0)):=by rw [e2];exact Array.getElem?_push_size
  have h2:=ca (w:=w') (b:=w.heap.size) (i:=i) hheap (by rw [List.size_toArray,S7,hlen];omega);rw [Nat.zero_add,h2];have hBi:i<B.length:=by omega
  have:r.getD i []=(B[i]'hBi).data.toList:=by rw [← hBl];simp [SW,SX hBi]
  rw [this];simp [SZ,SX hBi]
 rw [← hml];refine .dslice _ w.heap.size 0 _ 1 (fun i _=>.string ⟨(r.getD i []).toArray⟩) (Nat.le_refl _) (by rw [S7];exact hbig) (by omega) (fun hx=>Nat.lt_irrefl _ (hX _ hx)) (fun i hi=>?_) (fun i j hi hj=>?_) (fun i j hi hj=>?_)
 ·rw [S7] at hi;simp [SW,SX hi,lE]
 ·rw [S7] at hi;have:=hcell i hi;rw [show 0+(i*1+j)=0+i by omega];exact this
 ·rw [S7] at hi;have e3:(r.map lE).getD i []=lE (r.getD i []):=by simp [SW,SX hi]
  obtain rfl:j=0:=by omega
  rw [e3];refine .str _ (hle _ ?_);rw [SW,SX hi];exact List.getElem_mem hi
theorem tT {α:Type} (p:α→Bool):∀ l:List α,(l.dropWhile p).length≤l.length
 | []=>by simp
 | x::l=>by
  rw [List.dropWhile_cons];split
  ·have:=tT p l;simp;omega
  ·simp
theorem OZ (s cut:List UInt8):(Lib.trimS s cut).length≤s.length:=by unfold Lib.trimS Lib.trimLeftS Lib.trimRightS;refine Nat.le_trans (tT _ _) ?_;rw [List.length_reverse];refine Nat.le_trans (tT _ _) ?_;rw [List.length_reverse];exact Nat.le_refl _
def vZ (s cut:aj):Option aj:=bo (cut.length<4294967281∧cut.all (fun b=>decide (b.toNat<128))=true)<|some (Lib.trimS s cut)
theorem M8 (L:Lays.n160 P ρ) (hv116:∀ w,(zeroValue (ρ.t 116)).run P w = .ok (.agg (Array.replicate 256 (.bool false))) w) (hi116:(P.info? (ρ.t 116)).map (·.size)=some 256) (s cut:aj) (r:aj) (H:vZ s cut=some r):bp P (ρ.f 160) [.str s,.str cut] (.str r):=by
 unfold vZ at H;refine ao H fun hn H=>?_;refine bA H fun e=>?_;subst e;refine tP rfl fun w X vs hl hX hd gp=>?_;have h0:=(hd 0 (by simp)).str_inv;have h1:=(hd 1 (by simp)).str_inv;rw [QI (vs:=vs) (by simpa using hl),h0.1,h1.1];have sz:∀ l:List UInt8,ByteArray.size ⟨l.toArray⟩=l.length:=fun l=>by simp [ByteArray.size]
 have hm:maxLen=9223372036854775807:=by decide
 refine (Any.strings_Trim_ascii L hv116 hi116 ⟨s.toArray⟩ ⟨cut.toArray⟩ w (by rw [sz];have:=h0.2;omega) (by rw [sz];exact hn.1) (fun j b hb=>by have:=Tc.1 hn.2 b (List.mem_of_getElem? (by simpa using hb));exact S3 this)).mono fun e w' ⟨e1,e2⟩=>?_
 refine ⟨_,e1,e2,.str _ ?_⟩;refine Nat.le_trans ?_ h0.2;exact OZ s cut
end
end Go.Ab
namespace Go.Sh
open Classical in
noncomputable def Lx {α γ:Type} (l:List α) (a b:Option (List γ)):Option (List γ):=if l=[]→a=b then b else none
noncomputable def Hq {α γ:Type} (l:List α) (a b:Option (List γ)):Option (List γ) :=
 match l with
 | []=>match a with
  | some []=>match b with
   | some []=>some []
   | b=>Lx l (some []) b
  | a=>Lx l a b
 | _::_=>b
theorem N7 {α γ:Type} (l:List α) (a b:Option (List γ)):Hq l a b=Lx l a b:=by
 match l,a,b with
 | [],some [],some []=>exact (if_pos (c:=([]:List α)=[]→some ([]:List γ)=some []) fun _=>rfl).symm
 | [],some [],some (_::_)=>rfl
 | [],some [],none=>rfl
 | [],some (_::_),_=>rfl
 | [],none,_=>rfl
 | _::_,_,_=>exact (if_pos fun h=>nomatch h).symm
theorem Be {α γ:Type} {l:List α} {a b:Option (List γ)} {v:List γ} {G:Prop} (H:Hq l a b=some v) (k:(l=[]→a=some v)→b=some v→G):G:=by
 rw [N7] at H;unfold Lx at H;split at H
 ·rename_i h;exact k (fun e=>by rw [h e];exact H) H
 ·cases H
theorem Bf {α γ:Type} {l:List α} {a b:Option (List γ)} (h:l=[]→a=b):Hq l a b=b:=by rw [N7];exact if_pos h
section
variable {K V σ ε β:Type}
def MR (m:List (K×V)) (body:K×V→σ→Option (kr σ ε β)) (C:σ→Prop) (J:β→Prop):Nat→List Nat→σ→Prop
 | 0,seen,s=>(∀ i,i<m.length→i∈seen)∧C s
 | n+1,seen,s=>(∃ i,i<m.length∧i ∉ seen)∧∀ i (h:i<m.length),i ∉ seen→∃ q,body m[i] s=some q∧match q with
  | .go s'=>MR m body C J n (seen++[i]) s'
  | .brk _=>False
  | .ret x=>J x
theorem MR.uniq {m:List (K×V)} {body:K×V→σ→Option (kr σ ε β)} {k:σ→Option β} {v v':β}:∀ {n:Nat} {seen:List Nat} {s:σ},MR m body (fun s=>k s=some v) (· = v) n seen s→MR m body (fun s=>k s=some v') (· = v') n seen s→v=v'
 | 0,_,_,h,h'=>Tb (h.2.symm.trans h'.2)
 | n+1,seen,s,h,h'=>by
  obtain ⟨⟨i,hi,hn⟩,h⟩:=h;obtain ⟨q,hq,h1⟩:=h i hi hn;obtain ⟨q',hq',h2⟩:=h'.2 i hi hn;rw [hq] at hq';cases hq';cases q with
  | go s'=>exact MR.uniq h1 h2
  | brk e=>exact h1.elim
  | ret x=>exact h1.symm.trans h2
open Classical in
noncomputable def I1 (m:List (K×V)) (body:K×V→σ→Option (kr σ ε β)) (s:σ) (k:σ→Option β):Option β :=if h:∃ v,MR m body (fun s=>k s=some v) (· = v) m.length [] s then some h.choose else none
theorem Ko {m:List (K×V)} {body:K×V→σ→Option (kr σ ε β)} {s:σ} {k:σ→Option β} {v:β} (H:I1 m body s k=some v):MR m body (fun s=>k s=some v) (· = v) m.length [] s:=by
 unfold I1 at H;split at H
 ·rename_i h;cases H;exact h.choose_spec
 ·cases H
theorem N4 {m:List (K×V)} {body:K×V→σ→Option (kr σ ε β)} {s:σ} {k:σ→Option β} {v:β} (h:MR m body (fun s=>k s=some v) (· = v) m.length [] s):I1 m body s k=some v:=by have h':∃ v,MR m body (fun s=>k s=some v) (· = v) m.length [] s:=⟨v,h⟩;unfold I1;rw [dif_pos h'];exact congrArg some (MR.uniq h'.choose_spec h)
noncomputable def Ep (m:List (K×V)) (body:K×V→σ→Option (kr σ ε β)) (s:σ) (k:σ→Option β):Option β :=
 match m with
 | []=>k s
 | [e]=>match body e s with
  | some (.go s')=>k s'
  | some (.ret x)=>some x
  | _=>none
 | e::e'::m=>I1 (e::e'::m) body s k
theorem Kn {m:List (K×V)} {body:K×V→σ→Option (kr σ ε β)} {s:σ} {k:σ→Option β} {v:β} (H:Ep m body s k=some v):MR m body (fun s=>k s=some v) (· = v) m.length [] s:=by
 match m,H with
 | [],H=>exact ⟨fun i h=>absurd h (Nat.not_lt_zero i),H⟩
 | [e],H =>
  refine ⟨⟨0,Nat.one_pos,List.not_mem_nil⟩,fun i h _=>?_⟩;have hi:i=0:=Nat.lt_one_iff.1 h;subst hi;have H:(match body e s with | some (.go s')=>k s' | some (.ret x)=>some x | _=>none)=some v:=H;show ∃ q,body e s=some q∧_;cases hb:body e s with
  | none=>rw [hb] at H;cases H
  | some q =>
   rw [hb] at H;refine ⟨q,rfl,?_⟩;cases q with
   | go s' =>
    refine ⟨fun i h=>?_,H⟩;have h0:i=0:=Nat.lt_one_iff.1 h;subst h0;exact List.mem_singleton.2 rfl
   | brk x=>cases H
   | ret x=>exact Tb H
 | e::e'::m,H=>exact Ko H
theorem N3 {m:List (K×V)} {body:K×V→σ→Option (kr σ ε β)} {s:σ} {k:σ→Option β} {v:β} (h:MR m body (fun s=>k s=some v) (· = v) m.length [] s):Ep m body s k=some v:=by
 match m,h with
 | [],h=>exact h.2
 | [e],h =>
  obtain ⟨q,hb,hq⟩:=h.2 0 Nat.one_pos List.not_mem_nil;have hb:body e s=some q:=hb;show (match body e s with | some (.go s')=>k s' | some (.ret x)=>some x | _=>none)=some v;rw [hb];cases q with
  | go s'=>exact hq.2
  | brk x=>exact hq.elim
  | ret x=>exact congrArg some hq
 | e::e'::m,h=>exact N4 h
end
end Go.Sh
namespace Go.Ab
open Go.RowKit Go.Sh
section
variable {P:Program} {Q:Exit→AS→Prop} {c:Code} {fs:List Fr} {s:AS}
def N5 (s:AS):AV→Option (List (List AV))
 | .dslice l=>some l
 | .eslice=>some []
 | .rslice k=>match lk .gone s.h k with | .row _ _ xs=>some xs | _=>none
 | _=>none
theorem Et {c:Cx P} {a:Act} {w:World} {β:Nat→Nat} {κ:Nat→Nat×Nat} (r:Rel c s a w β κ) {v:AV} {V:Value} {l:List (List AV)} (hG:G w (c.XX s.h β) β κ v V) (h:N5 s v=some l) :
 ∃ ad n cp,V = .slice ad n cp∧(ad.isNone=true→l=[]):=by
 unfold N5 at h;split at h
 ·cases h;cases hG with
  | d hd =>
   cases hd with
   | dnil a cap _=>exact ⟨a,0,cap,rfl,fun _=>rfl⟩
   | dslice _ b o cap sz cv=>exact ⟨_,_,_,rfl,fun h=>by cases h⟩
 ·cases h;obtain ⟨a,e⟩:=hG.eslice_inv;exact ⟨a,0,0,e,fun _=>rfl⟩
 ·rename_i k;split at h
  ·rename_i e sz xs hk;cases h;rcases hG.rslice_inv with ⟨_,e1⟩ | ⟨h0,ad,rfl⟩
   ·exact ⟨_,_,_,e1,fun h=>by cases h⟩
   ·refine ⟨ad,0,0,rfl,fun _=>?_⟩;have ho:=r.hp.ob k;rw [hk] at ho;exact List.eq_nil_of_length_eq_zero (by rw [← ho.1];exact h0)
  ·cases h
 ·cases h
def nb (q b:Bool):Bool:=bif q then b else !b
def Kf:Operand→Bool
 | .const (.slice none _ _)=>true
 | _=>false
theorem IL {x:Operand} (h:Kf x=true) (a:Act):∃ n c,a.eval x = .slice none n c:=by
 unfold Kf at h;split at h
 ·exact ⟨_,_,rfl⟩
 ·cases h
def N6 (P:Program) (s:AS):Op→Option (List (List AV)×Bool)
 | .binOp op t x y _=>bif Kf y&&(KS P t).isSome then (match N5 s (s.op x),op with
  | some l,.eql=>some (l,true)
  | some l,.neq=>some (l,false)
  | _,_=>none) else none
 | _=>none
theorem Og {ops:Array Oper} {o:Oper} (hg:gd ops s o=some true) {l:List (List AV)} {q:Bool} (h:N6 P s o.op=some (l,q)) {k:Nat} (hd:o.dst=some k) (hk:k<s.n) :
 nL P ops o s (fun s'=>∃ b,(b=true→l=[])∧s'=⟨s.n,ins k (.bool (nb q b)) s.t,s.h⟩):=fun c a w β κ r K Q hK=>by
 rw [pq r hg];simp only [if_true];unfold N6 at h;split at h;case h_2=>cases h
 rename_i op t x y u hop;obtain ⟨hc,h⟩:=Go.Ab.bif_some h;rw [SY] at hc;obtain ⟨hy,ht⟩:=hc;obtain ⟨e,ht⟩:=Option.isSome_iff_exists.1 ht;obtain ⟨n',c',ey⟩:=IL hy a;have hput:∀ b,AS.put s o.dst (.bool b)=some ⟨s.n,ins k (.bool b) s.t,s.h⟩:=fun b=>by rw [hd];simp only [AS.put,show Nat.blt k s.n=true by simpa [Nat.blt_eq] using hk,cond_true]
 have key:∀ ad,(ad.isNone=true→l=[])→∀ b,b=nb q (Option.isNone (α:=Addr) ad)→(execOp a.eval o).run P w = .ok (.value (.bool b)) w→o.wp P a w K Q:=fun ad hl b hb hr=>by unfold Oper.wp;rw [hr];subst hb;exact hK ⟨s.n,ins k (.bool (nb q ad.isNone)) s.t,s.h⟩ _ w β κ ⟨_,hl,rfl⟩ (cC r (.d (.bool _)) (hput _))
 split at h
 ·cases h;obtain ⟨ad,n,cp,e1,hl2⟩:=Et (l:=l) r (r.op x) (by assumption);refine key ad hl2 ad.isNone rfl ?_;simp only [execOp,hop,e1,ey];simp [eqGuard,go_sem,Go.Lib.run_eql_slice_nil w t e ad n cp n' c' (eD ht)]
 ·cases h;obtain ⟨ad,n,cp,e1,hl2⟩:=Et (l:=l) r (r.op x) (by assumption);refine key ad hl2 (!ad.isNone) rfl ?_;simp only [execOp,hop,e1,ey];have:(binOp .neq t (.slice ad n cp) (.slice none n' c')).run P w = .ok (.bool (!ad.isNone)) w:=by simp only [binOp];simp [Op.equal,Op.maxDepth,Go.Lib.run_equalIn_slice_nil w 9999 t e ad n cp n' c' (eD ht)]
  simp [eqGuard,go_sem,this]
 ·cases h
def Sd (P:Program) (ds:List q9) (fs:List Fr) (s:AS):Code→Option (List Prop×List (List AV)×Nat×Bool×AS×Code×List Fr)
 | .region _ ops false=>match HD P ops.toList.toArray ops.toList ds s with
  | some (ps,s',[o])=>bif Fp true (gd ops.toList.toArray s' o) then (match N6 P s' o.op,o.dst,Fy fs with
   | some (l,q),some k,(some c1,fs1)=>bif Nat.blt k s'.n then some (ps,l,k,q,s',c1,fs1) else none
   | _,_,_=>none) else none
  | _=>none
 | _=>none
theorem xj (ds:List q9) {ps:List Prop} {l:List (List AV)} {k:Nat} {q:Bool} {S:AS} (hp:cQ ps) (h:Sd P ds fs s c=some (ps,l,k,q,S,(kH 1 [] c fs).1,(kH 1 [] c fs).2))
 (ht:∀ b:Bool,(b=true→l=[])→eA P (kH 1 [] c fs).1 (bZ P (kH 1 [] c fs).2 Q) ⟨S.n,ins k (.bool (nb q b)) S.t,S.h⟩):eA P c (bZ P fs Q) s:=by
 unfold Sd at h;split at h;case h_2=>cases h
 rename_i id ops;split at h;case h_2=>cases h
 rename_i ps' s' o hr;obtain ⟨hg,h⟩:=Go.Ab.bif_some h;split at h;case h_2=>cases h
 rename_i l' q' k' c1 fs1 hn hd hpop;obtain ⟨hk,h⟩:=Go.Ab.bif_some h;simp only [S9,Prod.mk.injEq] at h;obtain ⟨rfl,rfl,rfl,rfl,rfl,h1,h2⟩:=h;rw [← h1,← h2] at ht;have e:ops=ops.toList.toArray:=by simp
 rw [e];refine zw (nt ds hr hp (D9 ((Og (cA hg) hn hd (by simpa [Nat.blt_eq] using hk)).mono fun s2 ⟨b,hb,e2⟩=>IM ?_)));subst e2;refine A7 (fun c2 fs2 e3=>?_) (fun fs2 e3=>?_)
 ·rw [hpop] at e3;cases e3;exact ht b hb
 ·rw [hpop] at e3;cases e3
theorem Kk {ι:Type} {y:Code} (S:ι→AS) (φ:ι→Prop) (μ:ι→Nat) (i₀:ι) (h₀:φ i₀)
 (round:∀ i,φ i→eA P y (RF (fun s=>Cv s dead∨∃ j,φ j∧μ j<μ i∧Cv s (S j)) (bZ P fs Q)) (S i)):eA P (.loop y) (bZ P fs Q) (S i₀):=fun c a w β κ r=>by
 refine wp_loop_ghost (fun n a w=>∃ i β κ,φ i∧μ i=n∧Rel c (S i) a w β κ) (μ i₀) ⟨i₀,β,κ,h₀,rfl,r⟩ ?_;rintro n a w ⟨i,β,κ,hi,rfl,r⟩;refine wp_mono (round i hi c a w β κ r) fun e a' w' ⟨s',β',κ',q,r'⟩=>?_;cases e with
 | normal =>
  rcases (q:Cv s' dead∨∃ j,φ j∧μ j<μ i∧Cv s' (S j)) with hd | ⟨j,hj,hlt,hcv⟩
  ·obtain ⟨β2,κ2,r2⟩:=hd _ c a' w' β' κ' r';exact (G3 r2).elim
  ·obtain ⟨β2,κ2,r2⟩:=hcv _ c a' w' β' κ' r';exact ⟨μ j,hlt,j,β2,κ2,hj,rfl,r2⟩
 | exit id=>exact ⟨s',β',κ',q,r'⟩
 | goto l=>exact ⟨s',β',κ',q,r'⟩
 | ret=>exact ⟨s',β',κ',q,r'⟩
 | panic ch=>exact ⟨s',β',κ',q,r'⟩
 | outgrown=>exact ⟨s',β',κ',q,r'⟩
def Eu:Code→Option (Oper×List Oper×Code)
 | .loop (.seq (.region _ ops false) y)=>match ops.toList with
  | o::rest=>some (o,rest,y)
  | []=>none
 | _=>none
theorem I7 {o:Oper} {rest:List Oper} {y:Code} (h:Eu c=some (o,rest,y)):∃ id,c = .loop (.seq (.region id (o::rest).toArray false) y):=by
 unfold Eu at h;split at h
 ·rename_i id ops y';split at h
  ·rename_i o' rest' e;cases h;refine ⟨id,?_⟩;rw [← e]
  ·cases h
 ·cases h
def PG (ops:Array Oper) (s:AS) (o:Oper) (k:Nat):Bool:=Fp true (gd ops s o)&&(match o.op with
 | .next it false=>(match s.op it with | .hptr k' 0=>Nat.beq k' k | _=>false)
 | _=>false)
theorem Mh {ops:Array Oper} {o:Oper} {k:Nat} (h:PG ops s o k=true):gd ops s o=some true∧∃ it,o.op = .next it false∧s.op it = .hptr k 0:=by
 unfold PG at h;rw [SY] at h;refine ⟨cA h.1,?_⟩;have h:=h.2;split at h
 ·rename_i it e;refine ⟨it,e,?_⟩;split at h
  ·rename_i k' e2;rw [ef.1 h] at e2;exact e2
  ·cases h
 ·cases h
def Gk (P:Program) (ops:Array Oper) (rest:List Oper) (ds:List q9) (dst:Option Tmp) (v:AV) (s:AS):Option (List Prop×AS):=match s.put dst v with
 | some s'=>match HD P ops rest ds s' with
  | some (ps,s2,[])=>some (ps,s2)
  | _=>none
 | none=>none
def SP {K V:Type} [MapKey K] (c:V→List AV) (e:K×V):AV:=.tup [.bool true,(MapKey.k e.1).av,NI (c e.2)]
def Sa {σ ε ρ:Type} (S:σ→AS):kr σ ε ρ→AS
 | .go x=>S x
 | _=>dead
theorem Gd {K V:Type} [MapKey K] {cc:V→List AV} {m:List (K×V)} {i:Nat} (h:i<m.length):(m.map (uA cc)).getD i default=uA cc m[i]:=by simp [SW,SX h]
theorem Rl {K V σ ε β:Type} [MapKey K] {cc:V→List AV} {m:List (K×V)} {body:K×V→σ→Option (kr σ ε β)} {k:σ→Option β} {st0:σ} {v:β} (kk:Nat) (S:List Nat→σ→AS) {o:Oper} {rest:List Oper} {y:Code} (hc:Eu c=some (o,rest,y))
 (H:Ep m body st0 k=some v) (ds:List q9)
 (hn:∀ seen st,PG (o::rest).toArray (S seen st) o kk=true∧lk .gone (S seen st).h kk = .iter (m.map (uA cc)) seen)
 (S0:List Nat→σ→AS) (h0:∀ seen st,Gk P (o::rest).toArray rest ds o.dst (.tup [.bool false]) (S seen st)=some ([],S0 seen st))
 (S1:List Nat→σ→Nat→K×V→AS) (h1:∀ seen st i e,Gk P (o::rest).toArray rest ds o.dst (SP cc e) ⟨(S seen st).n,(S seen st).t,ins kk (.iter (m.map (uA cc)) (seen++[i])) (S seen st).h⟩=some ([],S1 seen st i e))
 (done:∀ seen st,k st=some v→eA P y (bZ P (.bar dead::fs) Q) (S0 seen st))
 (step:∀ seen st i e,(∃ h:i<m.length,m[i]=e)→∀ q,body e st=some q→Cf q (.ret v)→eA P y (bZ P (.bar (Sa (S (seen++[i])) q)::fs) Q) (S1 seen st i e)):eA P c (bZ P fs Q) (S [] st0):=by
 obtain ⟨id,rfl⟩:=I7 hc;refine Kk (ι:=Nat×List Nat×σ) (fun x=>S x.2.1 x.2.2) (fun x=>MR m body (fun s=>k s=some v) (· = v) x.1 x.2.1 x.2.2) (fun x=>x.1) (m.length,[],st0) (Kn H) ?_;rintro ⟨n,seen,st⟩ hi;have hi:MR m body (fun s=>k s=some v) (· = v) n seen st:=hi;obtain ⟨hnx,hlk⟩:=hn seen st;obtain ⟨hg,it,hop,hit⟩:=Mh hnx;refine LL ?_;have h0':=h0 seen st;unfold Gk at h0';split at h0';case h_2=>cases h0'
 rename_i s0 hs0;split at h0';case h_2=>cases h0'
 rename_i ps0 s02 hr0;simp only [S9,Prod.mk.injEq] at h0';obtain ⟨rfl,e0⟩:=h0';have h1':∀ i (hi:i<m.length),∃ s1,AS.put ⟨(S seen st).n,(S seen st).t,ins kk (.iter (m.map (uA cc)) (seen++[i])) (S seen st).h⟩ o.dst (.tup [.bool true,((m.map (uA cc)).getD i default).1.av,((m.map (uA cc)).getD i default).2])=some s1∧HD P (o::rest).toArray rest ds s1=some ([],S1 seen st i m[i],[]):=by
  intro i hi;have h:=h1 seen st i m[i];unfold Gk at h;rw [Gd hi];split at h;case h_2=>cases h
  rename_i s1 hs1;split at h;case h_2=>cases h
  rename_i ps1 s12 hr1;simp only [S9,Prod.mk.injEq] at h;obtain ⟨rfl,rfl⟩:=h;exact ⟨s1,hs1,hr1⟩
 refine zw (D9 (PR hg hop hit hlk (fun hall=>⟨s0,hs0,nt ds hr0 trivial (IM ?_)⟩) (fun i hi2 hns=>?_)))
 ·
  have hall:∀ i,i<m.length→i∈seen:=fun i hi=>hall i (by simpa using hi);cases n with
  | succ n =>
   obtain ⟨⟨i,hi2,hns⟩,_⟩:=hi;exact absurd (hall i hi2) hns
  | zero =>
   rw [e0];refine eA.mono (done seen st hi.2) fun e s hq=>?_;cases e with
   | normal=>exact .inl hq
   | _=>exact hq
 ·have hi2:i<m.length:=by simpa using hi2
  obtain ⟨s1,hs1,hr1⟩:=h1' i hi2;refine ⟨s1,hs1,nt ds hr1 trivial (IM ?_)⟩;cases n with
  | zero=>exact absurd (hi.1 i hi2) hns
  | succ n =>
   obtain ⟨_,hi⟩:=hi;obtain ⟨q,hq,hK⟩:=hi i hi2 hns;have ho:Cf q (.ret v):=by
    cases q with
    | go s'=>trivial
    | brk e=>exact hK.elim
    | ret x=>exact congrArg Out.ret hK.symm
   refine eA.mono (step seen st i m[i] ⟨hi2,rfl⟩ q hq ho) fun e s hs=>?_;cases e with
   | normal =>
    cases q with
    | go s'=>exact .inr ⟨(n,seen++[i],s'),hK,Nat.lt_succ_self n,hs⟩
    | brk e=>exact .inl hs
    | ret x=>exact .inl hs
   | _=>exact hs
theorem xl (seen:List Nat) (i:Nat):(seen++[i]).getLast? = some i:=by simp
theorem Lc {K V:Type} [MapKey K] {cc:V→List AV} {m:List (K×V)} {i:Nat} {e:K×V} (h:∃ h:i<m.length,m[i]=e):AV.tup [((m.map (uA cc)).getD i default).1.av,((m.map (uA cc)).getD i default).2] = .tup [(MapKey.k e.1).av,NI (cc e.2)]:=by obtain ⟨hi,rfl⟩:=h;rw [Gd hi];rfl
end
theorem Ra {l:List AV} (h:l.all (fun v=>v.one&&v.fl)=true):AV.fl (NI l)=true:=by
 cases l with
 | nil=>rfl
 | cons v l=>simp only [List.all_cons,SY] at h;exact h.1.2
theorem Lu {K V:Type} [MapKey K] {c:V→List AV} {sz:Nat} (h:∀ x,(c x).length=sz∧(c x).all (fun v=>v.one&&v.fl)=true) (m:List (K×V)):RG (m.map (uA c)):=by intro p hp;obtain ⟨x,_,rfl⟩:=List.mem_map.1 hp;exact Ra (h x.2).2
section
variable {P:Program}
def AV.vwT (h:List (Nat×AO)):AV→AV
 | .tup cs=>.tup (cs.map (AV.vw1 h))
 | v=>AV.vw h v
theorem G.vwT {c:Cx P} {h:List (Nat×AO)} {w:World} {β:Nat→Nat} {κ:Nat→Nat×Nat} (r:eN c h w β κ) {v:AV} {V:Value} (hg:G w (c.XX h β) β κ v V):D w c.X (AV.vwT h v) V:=by
 unfold AV.vwT;split
 ·obtain ⟨vs,rfl,hl,hgs⟩:=hg.tup_inv;refine .tup _ _ (by simpa using hl) fun i hi=>?_;have e:∀ cs:List AV,(cs.map (AV.vw1 h)).getD i .any=AV.vw1 h (cs.getD i .any):=fun cs=>getD_map (AV.vw1 h) cs i .any .any rfl;rw [e];exact (hgs i (by simpa using hi)).vw1 r
 ·exact hg.vw r
theorem bH.frz {f:FuncId} {args:List AV} {h0 h1:List (Nat×AO)} {v u:AV} (h:bH P f args h0 fun r h'=>r=v∧h'=h1) (hu:AV.vwT h1 v=u):bH P f args h0 fun r h'=>r=u∧h'=[]:=by subst hu;intro c vs hl hr hg;refine (h c vs hl hr hg).mono fun e w' ⟨V,v',h',β',κ',e1,⟨e2,e3⟩,hr',hG⟩=>?_;subst e2;subst e3;refine ⟨V,_,[],β',κ',e1,⟨rfl,rfl⟩,eN.nilA hr'.kp hr'.fix,.d ((hG.vwT hr').mono (fun _ _ _=>rfl) fun b hb _ hb2=>hb (hb2.resolve_right fun ⟨_,h,_⟩=>l6 h))⟩
end
section
variable {P:Program} {Q:Exit→AS→Prop} {c:Code} {fs:List Fr} {s:AS}
def SU:Oper×List Oper×Code:=(⟨none,.panic (.const .nilIface),0, "", #[],none⟩,[],.skip)
def nx (c:Code):Oper×List Oper×Code:=(Eu c).getD SU
theorem Ly {K V σ ε β:Type} [MapKey K] {cc:V→List AV} {m:List (K×V)} {body:K×V→σ→Option (kr σ ε β)} {k:σ→Option β} {st0:σ} {v:β} (kk:Nat) (S:List Nat→σ→AS) (hc:(Eu c).isSome=true)
 (H:Ep m body st0 k=some v) (ds:List q9)
 (hn:∀ seen st,PG ((nx c).1::(nx c).2.1).toArray (S seen st) (nx c).1 kk=true∧lk .gone (S seen st).h kk = .iter (m.map (uA cc)) seen)
 (S0:List Nat→σ→AS) (h0:∀ seen st,Gk P ((nx c).1::(nx c).2.1).toArray (nx c).2.1 ds (nx c).1.dst (.tup [.bool false]) (S seen st)=some ([],S0 seen st))
 (S1:List Nat→σ→Nat→K×V→AS) (h1:∀ seen st i e,Gk P ((nx c).1::(nx c).2.1).toArray (nx c).2.1 ds (nx c).1.dst (SP cc e) ⟨(S seen st).n,(S seen st).t,ins kk (.iter (m.map (uA cc)) (seen++[i])) (S seen st).h⟩=some ([],S1 seen st i e))
 (done:∀ seen st,k st=some v→eA P (nx c).2.2 (bZ P (.bar dead::fs) Q) (S0 seen st))
 (step:∀ seen st i e,(∃ h:i<m.length,m[i]=e)→∀ q,body e st=some q→Cf q (.ret v)→eA P (nx c).2.2 (bZ P (.bar (Sa (S (seen++[i])) q)::fs) Q) (S1 seen st i e)):eA P c (bZ P fs Q) (S [] st0):=by
 obtain ⟨x,hx⟩:=Option.isSome_iff_exists.1 hc;have e:nx c=x:=by unfold nx;rw [hx];rfl
 refine Rl (o:=(nx c).1) (rest:=(nx c).2.1) (y:=(nx c).2.2) kk S (by rw [e,hx]) H ds hn S0 h0 S1 h1 done step
end
theorem QW (l:List aj) (i:Nat) (h:i<l.length):(l.map AV.str).getD i .any = .str (l.getD i []):=by simp [SW,SX h]
open Go.Proofs Go.Sort
section
variable {P:Program} {ρ:Go.Shelf.Ren}
def Si {α:Type} (le:α→α→Bool):List α→Bool
 | []=>true
 | x::l=>l.all (le x)&&Si le l
theorem Ot {α:Type} {le:α→α→Bool}:∀ {l:List α},Si le l=true→l.Pairwise (fun a b=>le a b=true)
 | [],_=>.nil
 | x::l,h=>by unfold Si at h;simp only [SY,Tc] at h;exact .cons h.1 (Ot h.2)
def Gg {α:Type} (xs:List α) (le:α→α→Bool):List α:=bif Si le xs then xs else xs.mergeSort le
theorem Er {α:Type} (xs:List α) (le:α→α→Bool):Gg xs le=xs.mergeSort le:=by
 unfold Gg;cases h:Si le xs with
 | false=>rfl
 | true=>exact (List.mergeSort_of_pairwise (Ot h)).symm
theorem msort_perm {α:Type} (xs:List α) (le:α→α→Bool):(Gg xs le).Perm xs:=Er xs le ▸ List.mergeSort_perm xs le
theorem Ms {α:Type} (xs:List α) (le:α→α→Bool):(Gg xs le).length=xs.length:=(msort_perm xs le).length_eq
theorem msort_pw {α:Type} {le:α→α→Bool} (h1:∀ a b c,le a b=true→le b c=true→le a c=true) (h2:∀ a b,(le a b||le b a)=true) (xs:List α):(Gg xs le).Pairwise (fun a b=>le a b=true):=Er xs le ▸ List.pairwise_mergeSort h1 h2 xs
def sortS (xs:List aj):List aj:=Gg xs fun x y=>decide (x≤y)
def qk (xs:List aj):Option (List aj):=bo (xs.length<4611686018427387904)<|some (sortS xs)
theorem JP (L:Lays.n190 P ρ) (xs r:List aj) (H:qk xs=some r) :
 bH P (ρ.f 190) [.rslice 1000] [(1000,.row (ρ.t 9) 1 (xs.map lE))] (fun v h=>v = .tup []∧h=[(1000,.row (ρ.t 9) 1 (r.map lE))]):=by
 unfold qk at H;refine ao H fun hn H=>?_;refine bA H fun e=>?_;subst e;have hlen:(sortS xs).length=xs.length:=Ms ..;intro c vs hl hr hg;have hv:vs=[vs.getD 0 undef]:=Sz (by simpa using hl);have h0:G c.W (c.XX [(1000,.row (ρ.t 9) 1 (xs.map lE))] c.β) c.β c.κ (.rslice 1000) (vs.getD 0 undef):=hg 0 (by simp);have ho:HO c.W (c.XX [(1000,.row (ρ.t 9) 1 (xs.map lE))] c.β) c.β c.κ 1000 (.row (ρ.t 9) 1 (xs.map lE)):=hr.ob 1000;have hk2:(c.κ 1000).2=xs.length:=by simpa using ho.1
 have hlk:∀ (ys:List aj) k,lk AO.gone [(1000,AO.row (ρ.t 9) 1 (ys.map lE))] k=if k=1000 then .row (ρ.t 9) 1 (ys.map lE) else .gone:=by
  intro ys k;simp only [lk];by_cases e:k=1000
  ·subst e;simp
  ·rw [dz e];simp [e]
 have hlive:∀ (ys:List aj) k,lv [(1000,AO.row (ρ.t 9) 1 (ys.map lE))] k→k=1000∧ys≠[]:=by
  rintro ys k (h | ⟨m,i,_,h⟩)
  ·rw [hlk] at h;by_cases e:k=1000
   ·subst e;rw [if_pos rfl] at h;exact ⟨rfl,fun e=>by subst e;exact h rfl⟩
   ·rw [if_neg e] at h;exact h.elim
  ·rw [hlk] at h;by_cases e:m=1000
   ·rw [if_pos e] at h;exact h.elim
   ·rw [if_neg e] at h;exact h.elim
 rcases h0.rslice_inv with ⟨hpos,hV⟩ | ⟨hz,ad,hV⟩
 ·
  have hne:xs≠[]:=by intro e;subst e;rw [hk2] at hpos;simp at hpos
  obtain ⟨cur,h1,h2,h3,h4,h5,h6,h7⟩:=ho.2 (by simpa using hne);simp only [S7,Nat.mul_one] at h2 h3 h6 h7;have hcur:∀ j (hj:j<xs.length),cur.getD j undef=encStr xs[j]∧xs[j].length≤maxLen:=by
   intro j hj;have:=h7 j 0 hj (by omega);rw [Nat.add_zero,kU (d:=([]:aj)) hj] at this;have e1:(lE (xs.getD j [])).getD 0 .any = .str xs[j]:=by show AV.str (xs.getD j [])=_;rw [SW,SX hj];rfl
   rw [e1] at this;have:=this.str_inv;exact ⟨this.1,this.2⟩
  have hsz:c.β 1000<c.W.heap.size:=(Array.getElem?_eq_some_iff.1 h1).1;have hH:Holds encStr c.W (c.β 1000) 0 xs.toArray:=by
   intro j hj;have hj:j<xs.length:=by simpa using hj
   rw [Nat.zero_add];refine ⟨?_,?_⟩
   ·rw [ca h1 (by omega),(hcur j hj).1];simp [hj]
   ·simp [World.frozen?,h1]
  rw [hv,hV,hk2];refine (Any.slices_Sort_string L (c.β 1000) 0 (c.κ 1000).1 xs c.W hH hsz hn).mono fun e w' ⟨e1,n,os,e2⟩=>?_;have hsortE:(xs.mergeSort fun x y=>decide (x≤y))=sortS xs:=(Er ..).symm;rw [hsortE] at e2;subst e2;let cur':=putCells encStr 0 (sortS xs).toArray cur
  have hblk:(grow (putRow encStr (Sort.ahead c.W n) (c.β 1000) 0 (sortS xs).toArray) os).heap[c.β 1000]? = some (.cells cur' (ρ.t 9) (0,0)):=by simp only [grow,putRow,mapBlock,Sort.ahead];rw [Array.getElem?_append_left (by simpa using hsz),Array.getElem?_modify,if_pos rfl,h1];rfl
  have hoth:∀ b,b≠c.β 1000→b<c.W.heap.size→(grow (putRow encStr (Sort.ahead c.W n) (c.β 1000) 0 (sortS xs).toArray) os).heap[b]? = c.W.heap[b]? := by intro b hb hlt;simp only [grow,putRow,mapBlock,Sort.ahead];rw [Array.getElem?_append_left (by simpa using hlt),Array.getElem?_modify,if_neg (Ne.symm hb)]
  have hcs:cur'.size=cur.size:=by simp [cur',putCells]
  have hnK:¬ c.K (c.β 1000):=hr.nk 1000 (.inl (by rw [hlk,if_pos rfl];simpa [AO.live] using hne));refine ⟨_,.tup [],[(1000,.row (ρ.t 9) 1 ((sortS xs).map lE))],c.β,c.κ,e1,⟨rfl,rfl⟩,⟨fun k=>?_,fun i j hi hj _=>?_,⟨rfl,rfl,rfl,?_,fun b hb=>hoth b (fun e=>hnK (e ▸ hb)) (c.hK b hb)⟩,fun k hk=>?_,fun k hk=>?_,fun k hk _=>⟨rfl,rfl⟩,fun k hk=>?_⟩,.d (.tup _ _ rfl (fun i hi=>by simp at hi))⟩
  ·rw [hlk];by_cases ek:k=1000
   ·subst ek;rw [if_pos rfl];refine ⟨by simp [hk2,hlen],fun _=>⟨cur',hblk,by rw [hcs,h2];simp,by simpa [hlen] using h3,h4,by omega,fun i hi=>?_,fun i j hi hj=>?_⟩⟩
    ·have hi:i<(sortS xs).length:=by simpa using hi
     rw [kU (d:=([]:aj)) hi];rfl
    ·have hi:i<(sortS xs).length:=by simpa using hi
     have ej:j=0:=by omega
     subst ej;rw [Nat.mul_one,Nat.add_zero,kU (d:=([]:aj)) hi];have e1:(lE ((sortS xs).getD i [])).getD 0 .any = .str (sortS xs)[i]:=by show AV.str ((sortS xs).getD i [])=_;rw [SW,SX hi];rfl
     have e2:cur'.getD i undef=encStr (sortS xs)[i]:=by
      have hic:i<cur.size:=by omega
      simp [cur',putCells,SZ,hic,hi]
     rw [e1,e2];refine .str _ ?_;have hm:(sortS xs)[i]∈xs:=(msort_perm ..).mem_iff.1 (List.getElem_mem hi);obtain ⟨j,hj,e3⟩:=List.getElem_of_mem hm;rw [← e3];exact (hcur j hj).2
   ·rw [if_neg ek];trivial
  ·rw [(hlive _ _ hi).1,(hlive _ _ hj).1]
  ·simp [grow,Sort.ahead]
  ·obtain ⟨rfl,_⟩:=hlive _ _ hk;exact hnK
  ·obtain ⟨rfl,_⟩:=hlive _ _ hk;exact hr.nx 1000 (.inl (by rw [hlk,if_pos rfl];simpa [AO.live] using hne))
  ·rw [hlk] at hk;by_cases ek:k=1000
   ·omega
   ·rw [if_neg ek] at hk;exact absurd rfl hk
 ·
  have hx:xs=[]:=List.eq_nil_of_length_eq_zero (by omega);subst hx;rw [hv,hV];refine (Any.slices_Sort_string_none L ad 0 c.W).mono fun e w' ⟨e1,e2⟩=>?_;subst e2;exact ⟨_,.tup [],[(1000,.row (ρ.t 9) 1 (([]:List aj).map lE))],c.β,c.κ,e1,⟨rfl,rfl⟩,hr,.d (.tup _ _ rfl (fun i hi=>by simp at hi))⟩
end
end Go.Ab
namespace Go.Sh
open Go.Sort Go.Proofs
theorem AU:∀ x:aj,Op.bytesLess x x=false
 | []=>rfl
 | a::x=>by simp [Op.bytesLess,AU x]
theorem FY:∀ x y:aj,x<y↔Op.bytesLess x y=true
 | x,[]=>by simp [Op.bytesLess]
 | [],b::y=>by simp [Op.bytesLess]
 | a::x,b::y=>by rw [List.cons_lt_cons_iff,FY x y];simp only [Op.bytesLess,Bool.or_eq_true,SY,decide_eq_true_eq,beq_iff_eq]
theorem Nr {x y z:aj} (h1:Op.bytesLess x y=true) (h2:Op.bytesLess y z=true):Op.bytesLess x z=true :=
 (FY x z).1 (List.lt_trans ((FY x y).2 h1) ((FY y z).2 h2))
theorem Nq {x y:aj} (h:Op.bytesLess x y=true):Op.bytesLess y x=false:=by
 cases h2:Op.bytesLess y x with
 | false=>rfl
 | true=>have:=Nr h h2;rw [AU] at this;cases this
theorem Q2 (x y:aj):Op.bytesLess x y=true∨x=y∨Op.bytesLess y x=true:=by
 rcases Bool.eq_false_or_eq_true (Op.bytesLess x y) with h | h
 ·exact .inl h
 ·rcases Bool.eq_false_or_eq_true (Op.bytesLess y x) with h' | h'
  ·exact .inr (.inr h')
  ·refine .inr (.inl ?_);have h1:¬ x<y:=fun e=>by rw [FY,h] at e;cases e
   have h2:¬ y<x:=fun e=>by rw [FY,h'] at e;cases e
   exact List.le_antisymm (List.not_lt.1 h2) (List.not_lt.1 h1)
def AX (x y:aj):Int:=if Op.bytesLess x y=true then -1 else if Op.bytesLess y x=true then 1 else 0
theorem L6 (x:aj):AX x x=0:=by simp [AX,AU]
theorem Nu {x y:aj}:AX x y<0↔Op.bytesLess x y=true:=by
 unfold AX;repeat' split
 all_goals simp_all
theorem Nv {x y:aj}:0<AX x y↔Op.bytesLess y x=true:=by
 unfold AX;split
 ·rename_i h;simp [Nq h]
 ·split<;>simp_all
theorem AY {x y:aj}:AX x y=0↔x=y:=by
 constructor
 ·intro h;rcases Q2 x y with h1 | h1 | h1
  ·have:=Nu.2 h1;omega
  ·exact h1
  ·have:=Nv.2 h1;omega
 ·rintro rfl;exact L6 x
end Go.Sh
namespace Go.Proofs
open Go.Shelf
def Tryz.lays156_ren:Go.Shelf.Ren:=⟨fun | 156=>45 | 165=>97 | 166=>98 | 169=>99 | 240=>175 | 241=>176 | 276=>249 | 277=>250 | n=>n,fun | 31=>38 | 9=>9 | 3=>3 | 4=>4 | 0=>0 | 20=>20 | 72=>150 | 76=>154 | 70=>147 | 37=>148 | 75=>153 | 127=>216 | 164=>287 | 5=>5 | 80=>156 | n=>n,fun | n=>n⟩
theorem Tryz.lays156:Go.Proofs.Lays.n156 Tryz.prog Tryz.lays156_ren:={
 mixed:=by kernel_rfl
 f156:=Tryz.func45.trans (congrArg some (by kernel_rfl))
 f165:=Tryz.func97.trans (congrArg some (by kernel_rfl))
 f166:=Tryz.func98.trans (congrArg some (by kernel_rfl))
 f169:=Tryz.func99.trans (congrArg some (by kernel_rfl))
 f240:=Tryz.func175.trans (congrArg some (by kernel_rfl))
 f241:=Tryz.func176.trans (congrArg some (by kernel_rfl))
 f276:=Tryz.func249.trans (congrArg some (by kernel_rfl))
 f277:=Tryz.func250.trans (congrArg some (by kernel_rfl))
 t0:=Tryz.underlying0
 a0:=Tryz.isAgg0
 z0:=Tryz.sizeOf0
 v0:=Tryz.zeroValue0
 t3:=Tryz.underlying3
 a3:=Tryz.isAgg3
 z3:=Tryz.sizeOf3
 v3:=Tryz.zeroValue3
 t4:=Tryz.underlying4
 a4:=Tryz.isAgg4
 z4:=Tryz.sizeOf4
 v4:=Tryz.zeroValue4
 t9:=Tryz.underlying9
 a9:=Tryz.isAgg9
 z9:=Tryz.sizeOf9
 v9:=Tryz.zeroValue9
 t20:=Tryz.underlying20
 a20:=Tryz.isAgg20
 z20:=Tryz.sizeOf20
 v20:=Tryz.zeroValue20
 t31:=Tryz.underlying38
 a31:=Tryz.isAgg38
 z31:=Tryz.sizeOf38
 v31:=Tryz.zeroValue38
 t37:=Tryz.underlying148
 a37:=Tryz.isAgg148
 z37:=Tryz.sizeOf148
 v37:=Tryz.zeroValue148
 t70:=Tryz.underlying147
 a70:=Tryz.isAgg147
 z70:=Tryz.sizeOf147
 v70:=Tryz.zeroValue147
 t72:=Tryz.underlying150
 a72:=Tryz.isAgg150
 z72:=Tryz.sizeOf150
 v72:=Tryz.zeroValue150
 t75:=Tryz.underlying153
 a75:=Tryz.isAgg153
 z75:=Tryz.sizeOf153
 v75:=Tryz.zeroValue153
 t76:=Tryz.underlying154
 a76:=Tryz.isAgg154
 z76:=Tryz.sizeOf154
 v76:=Tryz.zeroValue154
 t127:=Tryz.underlying216
 a127:=Tryz.isAgg216
 z127:=Tryz.sizeOf216
 v127:=Tryz.zeroValue216
 t164:=Tryz.underlying287
 a164:=Tryz.isAgg287
 z164:=Tryz.sizeOf287
 v164:=Tryz.zeroValue287 }
theorem Tryz.Builder_Extra_156:Builder.Extra Tryz.prog Tryz.lays156_ren:={
 sizeBuilder:=by kernel_rfl
 liesBuilder:=by kernel_rfl
 t5:=Tryz.underlying5
 a5:=Tryz.isAgg5
 z5:=Tryz.sizeOf5
 v5:=Tryz.zeroValue5
 infoByte:=by kernel_rfl
 cellsByte:=by kernel_rfl
 sizeByte:=by kernel_rfl
 neB5:=by decide }
def Tryz.lays160_ren:Go.Shelf.Ren:=⟨fun | 160=>200 | 232=>278 | 231=>277 | 227=>279 | 234=>281 | 233=>280 | 236=>283 | 235=>282 | 228=>328 | 271=>331 | 151=>330 | 197=>329 | 120=>383 | 152=>382 | 260=>381 | 137=>289 | 119=>402 | 224=>387 | 225=>386 | 217=>335 | 266=>389 | n=>n,fun | 9=>9 | 4=>4 | 3=>3 | 5=>5 | 117=>309 | 116=>308 | 0=>0 | 124=>312 | 21=>21 | 105=>363 | 46=>180 | 119=>313 | 139=>412 | 138=>411 | n=>n,fun | 3=>8 | 4=>9 | n=>n⟩
theorem Tryz.lays160:Go.Proofs.Lays.n160 Tryz.prog Tryz.lays160_ren:={
 mixed:=by kernel_rfl
 f119:=Tryz.func402.trans (congrArg some (by kernel_rfl))
 f120:=Tryz.func383.trans (congrArg some (by kernel_rfl))
 f137:=Tryz.func289.trans (congrArg some (by kernel_rfl))
 f151:=Tryz.func330.trans (congrArg some (by kernel_rfl))
 f152:=Tryz.func382.trans (congrArg some (by kernel_rfl))
 f160:=Tryz.func200.trans (congrArg some (by kernel_rfl))
 f197:=Tryz.func329.trans (congrArg some (by kernel_rfl))
 f217:=Tryz.func335.trans (congrArg some (by kernel_rfl))
 f224:=Tryz.func387.trans (congrArg some (by kernel_rfl))
 f225:=Tryz.func386.trans (congrArg some (by kernel_rfl))
 f227:=Tryz.func279.trans (congrArg some (by kernel_rfl))
 f228:=Tryz.func328.trans (congrArg some (by kernel_rfl))
 f231:=Tryz.func277.trans (congrArg some (by kernel_rfl))
 f232:=Tryz.func278.trans (congrArg some (by kernel_rfl))
 f233:=Tryz.func280.trans (congrArg some (by kernel_rfl))
 f234:=Tryz.func281.trans (congrArg some (by kernel_rfl))
 f235:=Tryz.func282.trans (congrArg some (by kernel_rfl))
 f236:=Tryz.func283.trans (congrArg some (by kernel_rfl))
 f260:=Tryz.func381.trans (congrArg some (by kernel_rfl))
 f266:=Tryz.func389.trans (congrArg some (by kernel_rfl))
 f271:=Tryz.func331.trans (congrArg some (by kernel_rfl))
 t0:=Tryz.underlying0
 a0:=Tryz.isAgg0
 z0:=Tryz.sizeOf0
 v0:=Tryz.zeroValue0
 t3:=Tryz.underlying3
 a3:=Tryz.isAgg3
 z3:=Tryz.sizeOf3
 v3:=Tryz.zeroValue3
 t4:=Tryz.underlying4
 a4:=Tryz.isAgg4
 z4:=Tryz.sizeOf4
 v4:=Tryz.zeroValue4
 t5:=Tryz.underlying5
 a5:=Tryz.isAgg5
 z5:=Tryz.sizeOf5
 v5:=Tryz.zeroValue5
 t9:=Tryz.underlying9
 a9:=Tryz.isAgg9
 z9:=Tryz.sizeOf9
 v9:=Tryz.zeroValue9
 t21:=Tryz.underlying21
 a21:=Tryz.isAgg21
 z21:=Tryz.sizeOf21
 v21:=Tryz.zeroValue21
 t46:=Tryz.underlying180
 a46:=Tryz.isAgg180
 z46:=Tryz.sizeOf180
 v46:=Tryz.zeroValue180
 t105:=Tryz.underlying363
 a105:=Tryz.isAgg363
 z105:=Tryz.sizeOf363
 v105:=Tryz.zeroValue363
 t116:=Tryz.underlying308
 a116:=Tryz.isAgg308
 z116:=Tryz.sizeOf308
 t117:=Tryz.underlying309
 a117:=Tryz.isAgg309
 z117:=Tryz.sizeOf309
 v117:=Tryz.zeroValue309
 t119:=Tryz.underlying313
 a119:=Tryz.isAgg313
 z119:=Tryz.sizeOf313
 t124:=Tryz.underlying312
 a124:=Tryz.isAgg312
 z124:=Tryz.sizeOf312
 v124:=Tryz.zeroValue312
 t138:=Tryz.underlying411
 a138:=Tryz.isAgg411
 z138:=Tryz.sizeOf411
 v138:=Tryz.zeroValue411
 t139:=Tryz.underlying412
 a139:=Tryz.isAgg412
 z139:=Tryz.sizeOf412
 v139:=Tryz.zeroValue412
 g3:=by kernel_rfl
 g4:=by kernel_rfl }
def Tryz.laysM171_ren:Go.Shelf.Ren:=⟨fun | 171=>44 | 243=>96 | 246=>174 | 283=>245 | 284=>246 | 285=>247 | 286=>248 | 129=>199 | 317=>310 | 318=>311 | 319=>312 | 320=>313 | 337=>353 | 338=>354 | n=>n,fun | 3=>3 | 9=>9 | 2=>2 | 4=>4 | 171=>283 | 0=>0 | 53=>242 | 37=>148 | 5=>5 | 173=>285 | 212=>343 | 51=>240 | 20=>20 | 213=>344 | 46=>180 | 232=>407 | 233=>408 | n=>n,fun | 17=>1 | 18=>6 | 19=>7 | n=>n⟩
theorem Tryz.laysM171:Go.Proofs.LaysM.n171 Tryz.prog Tryz.laysM171_ren:={
 mixed:=by kernel_rfl
 f129:=Tryz.func199.trans (congrArg some (by kernel_rfl))
 f171:=Tryz.func44.trans (congrArg some (by kernel_rfl))
 f243:=Tryz.func96.trans (congrArg some (by kernel_rfl))
 f246:=Tryz.func174.trans (congrArg some (by kernel_rfl))
 f283:=Tryz.func245.trans (congrArg some (by kernel_rfl))
 f284:=Tryz.func246.trans (congrArg some (by kernel_rfl))
 f285:=Tryz.func247.trans (congrArg some (by kernel_rfl))
 f286:=Tryz.func248.trans (congrArg some (by kernel_rfl))
 f317:=Tryz.func310.trans (congrArg some (by kernel_rfl))
 f318:=Tryz.func311.trans (congrArg some (by kernel_rfl))
 f319:=Tryz.func312.trans (congrArg some (by kernel_rfl))
 f320:=Tryz.func313.trans (congrArg some (by kernel_rfl))
 f337:=Tryz.func353.trans (congrArg some (by kernel_rfl))
 f338:=Tryz.func354.trans (congrArg some (by kernel_rfl))
 t0:=Tryz.underlying0
 a0:=Tryz.isAgg0
 z0:=Tryz.sizeOf0
 v0:=Tryz.zeroValue0
 t2:=Tryz.underlying2
 a2:=Tryz.isAgg2
 z2:=Tryz.sizeOf2
 v2:=Tryz.zeroValue2
 t3:=Tryz.underlying3
 a3:=Tryz.isAgg3
 z3:=Tryz.sizeOf3
 v3:=Tryz.zeroValue3
 t4:=Tryz.underlying4
 a4:=Tryz.isAgg4
 z4:=Tryz.sizeOf4
 v4:=Tryz.zeroValue4
 t5:=Tryz.underlying5
 a5:=Tryz.isAgg5
 z5:=Tryz.sizeOf5
 v5:=Tryz.zeroValue5
 t9:=Tryz.underlying9
 a9:=Tryz.isAgg9
 z9:=Tryz.sizeOf9
 v9:=Tryz.zeroValue9
 t20:=Tryz.underlying20
 a20:=Tryz.isAgg20
 z20:=Tryz.sizeOf20
 v20:=Tryz.zeroValue20
 t37:=Tryz.underlying148
 a37:=Tryz.isAgg148
 z37:=Tryz.sizeOf148
 v37:=Tryz.zeroValue148
 t46:=Tryz.underlying180
 a46:=Tryz.isAgg180
 z46:=Tryz.sizeOf180
 v46:=Tryz.zeroValue180
 t51:=Tryz.underlying240
 a51:=Tryz.isAgg240
 z51:=Tryz.sizeOf240
 v51:=Tryz.zeroValue240
 t53:=Tryz.underlying242
 a53:=Tryz.isAgg242
 z53:=Tryz.sizeOf242
 v53:=Tryz.zeroValue242
 t171:=Tryz.underlying283
 a171:=Tryz.isAgg283
 z171:=Tryz.sizeOf283
 v171:=Tryz.zeroValue283
 t173:=Tryz.underlying285
 a173:=Tryz.isAgg285
 z173:=Tryz.sizeOf285
 v173:=Tryz.zeroValue285
 t212:=Tryz.underlying343
 a212:=Tryz.isAgg343
 z212:=Tryz.sizeOf343
 v212:=Tryz.zeroValue343
 t213:=Tryz.underlying344
 a213:=Tryz.isAgg344
 z213:=Tryz.sizeOf344
 t232:=Tryz.underlying407
 a232:=Tryz.isAgg407
 z232:=Tryz.sizeOf407
 v232:=Tryz.zeroValue407
 t233:=Tryz.underlying408
 a233:=Tryz.isAgg408
 z233:=Tryz.sizeOf408
 v233:=Tryz.zeroValue408
 g17:=by kernel_rfl
 g18:=by kernel_rfl
 g19:=by kernel_rfl
 i0:=by kernel_rfl
 i2:=by kernel_rfl
 i3:=by kernel_rfl
 i4:=by kernel_rfl
 i5:=by kernel_rfl
 i9:=by kernel_rfl
 i20:=by kernel_rfl
 i37:=by kernel_rfl
 i46:=by kernel_rfl
 i51:=by kernel_rfl
 i53:=by kernel_rfl
 i171:=by kernel_rfl
 i173:=by kernel_rfl
 i212:=by kernel_rfl
 i232:=by kernel_rfl
 i233:=by kernel_rfl
 m17:=by kernel_rfl
 m18:=by kernel_rfl
 m19:=by kernel_rfl }
def Tryz.laysC172_ren:Go.Shelf.Ren:=⟨fun | 172=>168 | 244=>241 | 245=>242 | 247=>305 | 279=>306 | 280=>307 | 281=>308 | 282=>309 | 287=>350 | 316=>351 | 171=>44 | 205=>352 | 321=>396 | 322=>397 | 243=>96 | 246=>174 | 283=>245 | 284=>246 | 285=>247 | 286=>248 | 129=>199 | 317=>310 | 318=>311 | 319=>312 | 320=>313 | 337=>353 | 338=>354 | n=>n,fun | 9=>9 | 3=>3 | 75=>153 | 76=>154 | 4=>4 | 5=>5 | 167=>335 | 37=>148 | 0=>0 | 85=>336 | 2=>2 | 168=>338 | 53=>242 | 175=>377 | 46=>180 | 210=>381 | 127=>216 | 145=>406 | 143=>404 | 21=>21 | 171=>283 | 173=>285 | 212=>343 | 51=>240 | 20=>20 | 213=>344 | 232=>407 | 233=>408 | 80=>156 | n=>n,fun | 15=>4 | 16=>5 | 17=>1 | 18=>6 | 19=>7 | n=>n⟩
theorem Tryz.laysC172:Go.Proofs.LaysC.n172 Tryz.prog Tryz.laysC172_ren:={
 mixed:=by kernel_rfl
 f129:=Tryz.func199.trans (congrArg some (by kernel_rfl))
 f171:=Tryz.func44.trans (congrArg some (by kernel_rfl))
 f172:=Tryz.func168.trans (congrArg some (by kernel_rfl))
 f205:=Tryz.func352.trans (congrArg some (by kernel_rfl))
 f243:=Tryz.func96.trans (congrArg some (by kernel_rfl))
 f244:=Tryz.func241.trans (congrArg some (by kernel_rfl))
 f245:=Tryz.func242.trans (congrArg some (by kernel_rfl))
 f246:=Tryz.func174.trans (congrArg some (by kernel_rfl))
 f247:=Tryz.func305.trans (congrArg some (by kernel_rfl))
 f279:=Tryz.func306.trans (congrArg some (by kernel_rfl))
 f280:=Tryz.func307.trans (congrArg some (by kernel_rfl))
 f281:=Tryz.func308.trans (congrArg some (by kernel_rfl))
 f282:=Tryz.func309.trans (congrArg some (by kernel_rfl))
 f283:=Tryz.func245.trans (congrArg some (by kernel_rfl))
 f284:=Tryz.func246.trans (congrArg some (by kernel_rfl))
 f285:=Tryz.func247.trans (congrArg some (by kernel_rfl))
 f286:=Tryz.func248.trans (congrArg some (by kernel_rfl))
 f287:=Tryz.func350.trans (congrArg some (by kernel_rfl))
 f316:=Tryz.func351.trans (congrArg some (by kernel_rfl))
 f317:=Tryz.func310.trans (congrArg some (by kernel_rfl))
 f318:=Tryz.func311.trans (congrArg some (by kernel_rfl))
 f319:=Tryz.func312.trans (congrArg some (by kernel_rfl))
 f320:=Tryz.func313.trans (congrArg some (by kernel_rfl))
 f321:=Tryz.func396.trans (congrArg some (by kernel_rfl))
 f322:=Tryz.func397.trans (congrArg some (by kernel_rfl))
 f337:=Tryz.func353.trans (congrArg some (by kernel_rfl))
 f338:=Tryz.func354.trans (congrArg some (by kernel_rfl))
 t0:=Tryz.underlying0
 a0:=Tryz.isAgg0
 z0:=Tryz.sizeOf0
 v0:=Tryz.zeroValue0
 t2:=Tryz.underlying2
 a2:=Tryz.isAgg2
 z2:=Tryz.sizeOf2
 v2:=Tryz.zeroValue2
 t3:=Tryz.underlying3
 a3:=Tryz.isAgg3
 z3:=Tryz.sizeOf3
 v3:=Tryz.zeroValue3
 t4:=Tryz.underlying4
 a4:=Tryz.isAgg4
 z4:=Tryz.sizeOf4
 v4:=Tryz.zeroValue4
 t5:=Tryz.underlying5
 a5:=Tryz.isAgg5
 z5:=Tryz.sizeOf5
 v5:=Tryz.zeroValue5
 t9:=Tryz.underlying9
 a9:=Tryz.isAgg9
 z9:=Tryz.sizeOf9
 v9:=Tryz.zeroValue9
 t20:=Tryz.underlying20
 a20:=Tryz.isAgg20
 z20:=Tryz.sizeOf20
 v20:=Tryz.zeroValue20
 t21:=Tryz.underlying21
 a21:=Tryz.isAgg21
 z21:=Tryz.sizeOf21
 v21:=Tryz.zeroValue21
 t37:=Tryz.underlying148
 a37:=Tryz.isAgg148
 z37:=Tryz.sizeOf148
 v37:=Tryz.zeroValue148
 t46:=Tryz.underlying180
 a46:=Tryz.isAgg180
 z46:=Tryz.sizeOf180
 v46:=Tryz.zeroValue180
 t51:=Tryz.underlying240
 a51:=Tryz.isAgg240
 z51:=Tryz.sizeOf240
 v51:=Tryz.zeroValue240
 t53:=Tryz.underlying242
 a53:=Tryz.isAgg242
 z53:=Tryz.sizeOf242
 v53:=Tryz.zeroValue242
 t75:=Tryz.underlying153
 a75:=Tryz.isAgg153
 z75:=Tryz.sizeOf153
 v75:=Tryz.zeroValue153
 t76:=Tryz.underlying154
 a76:=Tryz.isAgg154
 z76:=Tryz.sizeOf154
 v76:=Tryz.zeroValue154
 t85:=Tryz.underlying336
 a85:=Tryz.isAgg336
 z85:=Tryz.sizeOf336
 v85:=Tryz.zeroValue336
 t127:=Tryz.underlying216
 a127:=Tryz.isAgg216
 z127:=Tryz.sizeOf216
 v127:=Tryz.zeroValue216
 t143:=Tryz.underlying404
 a143:=Tryz.isAgg404
 z143:=Tryz.sizeOf404
 v143:=Tryz.zeroValue404
 t145:=Tryz.underlying406
 a145:=Tryz.isAgg406
 z145:=Tryz.sizeOf406
 v145:=Tryz.zeroValue406
 t167:=Tryz.underlying335
 a167:=Tryz.isAgg335
 z167:=Tryz.sizeOf335
 v167:=Tryz.zeroValue335
 t168:=Tryz.underlying338
 a168:=Tryz.isAgg338
 z168:=Tryz.sizeOf338
 v168:=Tryz.zeroValue338
 t171:=Tryz.underlying283
 a171:=Tryz.isAgg283
 z171:=Tryz.sizeOf283
 v171:=Tryz.zeroValue283
 t173:=Tryz.underlying285
 a173:=Tryz.isAgg285
 z173:=Tryz.sizeOf285
 v173:=Tryz.zeroValue285
 t175:=Tryz.underlying377
 a175:=Tryz.isAgg377
 z175:=Tryz.sizeOf377
 v175:=Tryz.zeroValue377
 t210:=Tryz.underlying381
 a210:=Tryz.isAgg381
 z210:=Tryz.sizeOf381
 v210:=Tryz.zeroValue381
 t212:=Tryz.underlying343
 a212:=Tryz.isAgg343
 z212:=Tryz.sizeOf343
 v212:=Tryz.zeroValue343
 t213:=Tryz.underlying344
 a213:=Tryz.isAgg344
 z213:=Tryz.sizeOf344
 t232:=Tryz.underlying407
 a232:=Tryz.isAgg407
 z232:=Tryz.sizeOf407
 v232:=Tryz.zeroValue407
 t233:=Tryz.underlying408
 a233:=Tryz.isAgg408
 z233:=Tryz.sizeOf408
 v233:=Tryz.zeroValue408
 g15:=by kernel_rfl
 g16:=by kernel_rfl
 g17:=by kernel_rfl
 g18:=by kernel_rfl
 g19:=by kernel_rfl
 t80:=Tryz.underlying156
 a80:=Tryz.isAgg156
 z80:=Tryz.sizeOf156
 v80:=Tryz.zeroValue156
 i0:=by kernel_rfl
 i2:=by kernel_rfl
 i3:=by kernel_rfl
 i4:=by kernel_rfl
 i5:=by kernel_rfl
 i9:=by kernel_rfl
 i20:=by kernel_rfl
 i21:=by kernel_rfl
 i37:=by kernel_rfl
 i46:=by kernel_rfl
 i51:=by kernel_rfl
 i53:=by kernel_rfl
 i75:=by kernel_rfl
 i76:=by kernel_rfl
 i80:=by kernel_rfl
 i85:=by kernel_rfl
 i127:=by kernel_rfl
 i143:=by kernel_rfl
 i145:=by kernel_rfl
 i167:=by kernel_rfl
 i168:=by kernel_rfl
 i171:=by kernel_rfl
 i173:=by kernel_rfl
 i175:=by kernel_rfl
 i210:=by kernel_rfl
 i212:=by kernel_rfl
 i232:=by kernel_rfl
 i233:=by kernel_rfl
 m15:=by kernel_rfl
 m16:=by kernel_rfl
 m17:=by kernel_rfl
 m18:=by kernel_rfl
 m19:=by kernel_rfl
 c0:=by kernel_rfl
 c2:=by kernel_rfl
 c3:=by kernel_rfl
 c4:=by kernel_rfl
 c5:=by kernel_rfl
 c9:=by kernel_rfl
 c20:=by kernel_rfl
 c21:=by kernel_rfl
 c37:=by kernel_rfl
 c46:=by kernel_rfl
 c51:=by kernel_rfl
 c53:=by kernel_rfl
 c75:=by kernel_rfl
 c76:=by kernel_rfl
 c80:=by kernel_rfl
 c85:=by kernel_rfl
 c127:=by kernel_rfl
 c143:=by kernel_rfl
 c145:=by kernel_rfl
 c167:=by kernel_rfl
 c168:=by kernel_rfl
 c171:=by kernel_rfl
 c173:=by kernel_rfl
 c175:=by kernel_rfl
 c210:=by kernel_rfl
 c212:=by kernel_rfl
 c213:=by kernel_rfl
 c232:=by kernel_rfl
 c233:=by kernel_rfl }
def Tryz.lays190_ren:Go.Shelf.Ren:=⟨fun | 190=>345 | 125=>113 | 258=>394 | 128=>198 | 129=>199 | 302=>405 | 303=>406 | 304=>407 | 305=>408 | 306=>409 | 307=>410 | 308=>411 | 309=>412 | 310=>413 | 333=>415 | 329=>272 | 330=>273 | 334=>416 | 335=>417 | 336=>418 | 344=>419 | n=>n,fun | 31=>38 | 9=>9 | 3=>3 | 46=>180 | 0=>0 | 51=>240 | 53=>242 | 4=>4 | 183=>233 | 182=>232 | 131=>142 | 5=>5 | 218=>300 | 222=>304 | 228=>361 | 229=>121 | n=>n,fun | n=>n⟩
theorem Tryz.lays190:Go.Proofs.Lays.n190 Tryz.prog Tryz.lays190_ren:={
 mixed:=by kernel_rfl
 f125:=Tryz.func113.trans (congrArg some (by kernel_rfl))
 f128:=Tryz.func198.trans (congrArg some (by kernel_rfl))
 f129:=Tryz.func199.trans (congrArg some (by kernel_rfl))
 f190:=Tryz.func345.trans (congrArg some (by kernel_rfl))
 f258:=Tryz.func394.trans (congrArg some (by kernel_rfl))
 f302:=Tryz.func405.trans (congrArg some (by kernel_rfl))
 f303:=Tryz.func406.trans (congrArg some (by kernel_rfl))
 f304:=Tryz.func407.trans (congrArg some (by kernel_rfl))
 f305:=Tryz.func408.trans (congrArg some (by kernel_rfl))
 f306:=Tryz.func409.trans (congrArg some (by kernel_rfl))
 f307:=Tryz.func410.trans (congrArg some (by kernel_rfl))
 f308:=Tryz.func411.trans (congrArg some (by kernel_rfl))
 f309:=Tryz.func412.trans (congrArg some (by kernel_rfl))
 f310:=Tryz.func413.trans (congrArg some (by kernel_rfl))
 f329:=Tryz.func272.trans (congrArg some (by kernel_rfl))
 f330:=Tryz.func273.trans (congrArg some (by kernel_rfl))
 f333:=Tryz.func415.trans (congrArg some (by kernel_rfl))
 f334:=Tryz.func416.trans (congrArg some (by kernel_rfl))
 f335:=Tryz.func417.trans (congrArg some (by kernel_rfl))
 f336:=Tryz.func418.trans (congrArg some (by kernel_rfl))
 f344:=Tryz.func419.trans (congrArg some (by kernel_rfl))
 t0:=Tryz.underlying0
 a0:=Tryz.isAgg0
 z0:=Tryz.sizeOf0
 v0:=Tryz.zeroValue0
 t3:=Tryz.underlying3
 a3:=Tryz.isAgg3
 z3:=Tryz.sizeOf3
 v3:=Tryz.zeroValue3
 t4:=Tryz.underlying4
 a4:=Tryz.isAgg4
 z4:=Tryz.sizeOf4
 v4:=Tryz.zeroValue4
 t5:=Tryz.underlying5
 a5:=Tryz.isAgg5
 z5:=Tryz.sizeOf5
 v5:=Tryz.zeroValue5
 t9:=Tryz.underlying9
 a9:=Tryz.isAgg9
 z9:=Tryz.sizeOf9
 v9:=Tryz.zeroValue9
 t31:=Tryz.underlying38
 a31:=Tryz.isAgg38
 z31:=Tryz.sizeOf38
 v31:=Tryz.zeroValue38
 t46:=Tryz.underlying180
 a46:=Tryz.isAgg180
 z46:=Tryz.sizeOf180
 v46:=Tryz.zeroValue180
 t51:=Tryz.underlying240
 a51:=Tryz.isAgg240
 z51:=Tryz.sizeOf240
 v51:=Tryz.zeroValue240
 t53:=Tryz.underlying242
 a53:=Tryz.isAgg242
 z53:=Tryz.sizeOf242
 v53:=Tryz.zeroValue242
 t131:=Tryz.underlying142
 a131:=Tryz.isAgg142
 z131:=Tryz.sizeOf142
 v131:=Tryz.zeroValue142
 t182:=Tryz.underlying232
 a182:=Tryz.isAgg232
 z182:=Tryz.sizeOf232
 v182:=Tryz.zeroValue232
 t183:=Tryz.underlying233
 a183:=Tryz.isAgg233
 z183:=Tryz.sizeOf233
 v183:=Tryz.zeroValue233
 t218:=Tryz.underlying300
 a218:=Tryz.isAgg300
 z218:=Tryz.sizeOf300
 v218:=Tryz.zeroValue300
 t222:=Tryz.underlying304
 a222:=Tryz.isAgg304
 z222:=Tryz.sizeOf304
 v222:=Tryz.zeroValue304
 t228:=Tryz.underlying361
 a228:=Tryz.isAgg361
 z228:=Tryz.sizeOf361
 v228:=Tryz.zeroValue361
 t229:=Tryz.underlying121
 a229:=Tryz.isAgg121
 z229:=Tryz.sizeOf121
 v229:=Tryz.zeroValue121 }
def Tryz.lays146_ren:Go.Shelf.Ren:=⟨fun | 146=>212 | 221=>291 | 268=>337 | 138=>338 | 143=>339 | 195=>391 | 197=>329 | 218=>392 | 219=>334 | 260=>381 | 217=>335 | 225=>386 | 224=>387 | 267=>388 | 266=>389 | 314=>403 | n=>n,fun | 9=>9 | 31=>38 | 3=>3 | 4=>4 | 0=>0 | 105=>363 | 21=>21 | 5=>5 | 46=>180 | 119=>313 | 139=>412 | 138=>411 | 146=>415 | 51=>240 | n=>n,fun | 1=>2 | 3=>8 | 4=>9 | n=>n⟩
theorem Tryz.lays146:Go.Proofs.Lays.n146 Tryz.prog Tryz.lays146_ren:={
 mixed:=by kernel_rfl
 f138:=Tryz.func338.trans (congrArg some (by kernel_rfl))
 f143:=Tryz.func339.trans (congrArg some (by kernel_rfl))
 f146:=Tryz.func212.trans (congrArg some (by kernel_rfl))
 f195:=Tryz.func391.trans (congrArg some (by kernel_rfl))
 f197:=Tryz.func329.trans (congrArg some (by kernel_rfl))
 f217:=Tryz.func335.trans (congrArg some (by kernel_rfl))
 f218:=Tryz.func392.trans (congrArg some (by kernel_rfl))
 f219:=Tryz.func334.trans (congrArg some (by kernel_rfl))
 f221:=Tryz.func291.trans (congrArg some (by kernel_rfl))
 f224:=Tryz.func387.trans (congrArg some (by kernel_rfl))
 f225:=Tryz.func386.trans (congrArg some (by kernel_rfl))
 f260:=Tryz.func381.trans (congrArg some (by kernel_rfl))
 f266:=Tryz.func389.trans (congrArg some (by kernel_rfl))
 f267:=Tryz.func388.trans (congrArg some (by kernel_rfl))
 f268:=Tryz.func337.trans (congrArg some (by kernel_rfl))
 f314:=Tryz.func403.trans (congrArg some (by kernel_rfl))
 t0:=Tryz.underlying0
 a0:=Tryz.isAgg0
 z0:=Tryz.sizeOf0
 v0:=Tryz.zeroValue0
 t3:=Tryz.underlying3
 a3:=Tryz.isAgg3
 z3:=Tryz.sizeOf3
 v3:=Tryz.zeroValue3
 t4:=Tryz.underlying4
 a4:=Tryz.isAgg4
 z4:=Tryz.sizeOf4
 v4:=Tryz.zeroValue4
 t5:=Tryz.underlying5
 a5:=Tryz.isAgg5
 z5:=Tryz.sizeOf5
 v5:=Tryz.zeroValue5
 t9:=Tryz.underlying9
 a9:=Tryz.isAgg9
 z9:=Tryz.sizeOf9
 v9:=Tryz.zeroValue9
 t21:=Tryz.underlying21
 a21:=Tryz.isAgg21
 z21:=Tryz.sizeOf21
 v21:=Tryz.zeroValue21
 t31:=Tryz.underlying38
 a31:=Tryz.isAgg38
 z31:=Tryz.sizeOf38
 v31:=Tryz.zeroValue38
 t46:=Tryz.underlying180
 a46:=Tryz.isAgg180
 z46:=Tryz.sizeOf180
 v46:=Tryz.zeroValue180
 t51:=Tryz.underlying240
 a51:=Tryz.isAgg240
 z51:=Tryz.sizeOf240
 v51:=Tryz.zeroValue240
 t105:=Tryz.underlying363
 a105:=Tryz.isAgg363
 z105:=Tryz.sizeOf363
 v105:=Tryz.zeroValue363
 t119:=Tryz.underlying313
 a119:=Tryz.isAgg313
 z119:=Tryz.sizeOf313
 t138:=Tryz.underlying411
 a138:=Tryz.isAgg411
 z138:=Tryz.sizeOf411
 v138:=Tryz.zeroValue411
 t139:=Tryz.underlying412
 a139:=Tryz.isAgg412
 z139:=Tryz.sizeOf412
 v139:=Tryz.zeroValue412
 t146:=Tryz.underlying415
 a146:=Tryz.isAgg415
 z146:=Tryz.sizeOf415
 v146:=Tryz.zeroValue415
 g1:=by kernel_rfl
 g3:=by kernel_rfl
 g4:=by kernel_rfl }
def Tryz.lays145_ren:Go.Shelf.Ren:=⟨fun | 145=>208 | 220=>287 | 219=>334 | 217=>335 | 225=>386 | 224=>387 | 267=>388 | 266=>389 | 314=>403 | n=>n,fun | 9=>9 | 4=>4 | 59=>251 | 3=>3 | 5=>5 | 46=>180 | 146=>415 | 51=>240 | n=>n,fun | 1=>2 | n=>n⟩
theorem Tryz.lays145:Go.Proofs.Lays.n145 Tryz.prog Tryz.lays145_ren:={
 mixed:=by kernel_rfl
 f145:=Tryz.func208.trans (congrArg some (by kernel_rfl))
 f217:=Tryz.func335.trans (congrArg some (by kernel_rfl))
 f219:=Tryz.func334.trans (congrArg some (by kernel_rfl))
 f220:=Tryz.func287.trans (congrArg some (by kernel_rfl))
 f224:=Tryz.func387.trans (congrArg some (by kernel_rfl))
 f225:=Tryz.func386.trans (congrArg some (by kernel_rfl))
 f266:=Tryz.func389.trans (congrArg some (by kernel_rfl))
 f267:=Tryz.func388.trans (congrArg some (by kernel_rfl))
 f314:=Tryz.func403.trans (congrArg some (by kernel_rfl))
 t3:=Tryz.underlying3
 a3:=Tryz.isAgg3
 z3:=Tryz.sizeOf3
 v3:=Tryz.zeroValue3
 t4:=Tryz.underlying4
 a4:=Tryz.isAgg4
 z4:=Tryz.sizeOf4
 v4:=Tryz.zeroValue4
 t5:=Tryz.underlying5
 a5:=Tryz.isAgg5
 z5:=Tryz.sizeOf5
 v5:=Tryz.zeroValue5
 t9:=Tryz.underlying9
 a9:=Tryz.isAgg9
 z9:=Tryz.sizeOf9
 v9:=Tryz.zeroValue9
 t46:=Tryz.underlying180
 a46:=Tryz.isAgg180
 z46:=Tryz.sizeOf180
 v46:=Tryz.zeroValue180
 t51:=Tryz.underlying240
 a51:=Tryz.isAgg240
 z51:=Tryz.sizeOf240
 v51:=Tryz.zeroValue240
 t59:=Tryz.underlying251
 a59:=Tryz.isAgg251
 z59:=Tryz.sizeOf251
 v59:=Tryz.zeroValue251
 t146:=Tryz.underlying415
 a146:=Tryz.isAgg415
 z146:=Tryz.sizeOf415
 v146:=Tryz.zeroValue415
 g1:=by kernel_rfl }
def Tryz.lays157_ren:Go.Shelf.Ren:=⟨fun | 157=>207 | 229=>285 | 199=>286 | 261=>333 | 311=>384 | 312=>385 | n=>n,fun | 9=>9 | 31=>38 | 3=>3 | 5=>5 | 4=>4 | 119=>313 | 0=>0 | 40=>315 | 152=>366 | 21=>21 | 154=>368 | 51=>240 | 141=>370 | 196=>392 | 193=>389 | 198=>395 | 49=>393 | 194=>390 | 201=>398 | 226=>413 | 46=>180 | 227=>414 | n=>n,fun | 0=>0 | 6=>3 | n=>n⟩
theorem Tryz.lays157:Go.Proofs.Lays.n157 Tryz.prog Tryz.lays157_ren:={
 mixed:=by kernel_rfl
 f157:=Tryz.func207.trans (congrArg some (by kernel_rfl))
 f199:=Tryz.func286.trans (congrArg some (by kernel_rfl))
 f229:=Tryz.func285.trans (congrArg some (by kernel_rfl))
 f261:=Tryz.func333.trans (congrArg some (by kernel_rfl))
 f311:=Tryz.func384.trans (congrArg some (by kernel_rfl))
 f312:=Tryz.func385.trans (congrArg some (by kernel_rfl))
 t0:=Tryz.underlying0
 a0:=Tryz.isAgg0
 z0:=Tryz.sizeOf0
 v0:=Tryz.zeroValue0
 t3:=Tryz.underlying3
 a3:=Tryz.isAgg3
 z3:=Tryz.sizeOf3
 v3:=Tryz.zeroValue3
 t4:=Tryz.underlying4
 a4:=Tryz.isAgg4
 z4:=Tryz.sizeOf4
 v4:=Tryz.zeroValue4
 t5:=Tryz.underlying5
 a5:=Tryz.isAgg5
 z5:=Tryz.sizeOf5
 v5:=Tryz.zeroValue5
 t9:=Tryz.underlying9
 a9:=Tryz.isAgg9
 z9:=Tryz.sizeOf9
 v9:=Tryz.zeroValue9
 t21:=Tryz.underlying21
 a21:=Tryz.isAgg21
 z21:=Tryz.sizeOf21
 v21:=Tryz.zeroValue21
 t31:=Tryz.underlying38
 a31:=Tryz.isAgg38
 z31:=Tryz.sizeOf38
 v31:=Tryz.zeroValue38
 t40:=Tryz.underlying315
 a40:=Tryz.isAgg315
 z40:=Tryz.sizeOf315
 v40:=Tryz.zeroValue315
 t46:=Tryz.underlying180
 a46:=Tryz.isAgg180
 z46:=Tryz.sizeOf180
 v46:=Tryz.zeroValue180
 t49:=Tryz.underlying393
 a49:=Tryz.isAgg393
 z49:=Tryz.sizeOf393
 v49:=Tryz.zeroValue393
 t51:=Tryz.underlying240
 a51:=Tryz.isAgg240
 z51:=Tryz.sizeOf240
 v51:=Tryz.zeroValue240
 t119:=Tryz.underlying313
 a119:=Tryz.isAgg313
 z119:=Tryz.sizeOf313
 t141:=Tryz.underlying370
 a141:=Tryz.isAgg370
 z141:=Tryz.sizeOf370
 v141:=Tryz.zeroValue370
 t152:=Tryz.underlying366
 a152:=Tryz.isAgg366
 z152:=Tryz.sizeOf366
 v152:=Tryz.zeroValue366
 t154:=Tryz.underlying368
 a154:=Tryz.isAgg368
 z154:=Tryz.sizeOf368
 v154:=Tryz.zeroValue368
 t193:=Tryz.underlying389
 a193:=Tryz.isAgg389
 z193:=Tryz.sizeOf389
 v193:=Tryz.zeroValue389
 t194:=Tryz.underlying390
 a194:=Tryz.isAgg390
 z194:=Tryz.sizeOf390
 v194:=Tryz.zeroValue390
 t196:=Tryz.underlying392
 a196:=Tryz.isAgg392
 z196:=Tryz.sizeOf392
 v196:=Tryz.zeroValue392
 t198:=Tryz.underlying395
 a198:=Tryz.isAgg395
 z198:=Tryz.sizeOf395
 v198:=Tryz.zeroValue395
 t201:=Tryz.underlying398
 a201:=Tryz.isAgg398
 z201:=Tryz.sizeOf398
 v201:=Tryz.zeroValue398
 t226:=Tryz.underlying413
 a226:=Tryz.isAgg413
 z226:=Tryz.sizeOf413
 v226:=Tryz.zeroValue413
 t227:=Tryz.underlying414
 a227:=Tryz.isAgg414
 z227:=Tryz.sizeOf414
 v227:=Tryz.zeroValue414
 g0:=by kernel_rfl
 g6:=by kernel_rfl }
def Tryz.lays106_ren:Go.Shelf.Ren:=⟨fun | 106=>205 | 213=>284 | 265=>332 | n=>n,fun | 9=>9 | 3=>3 | n=>n,fun | n=>n⟩
theorem Tryz.lays106:Go.Proofs.Lays.n106 Tryz.prog Tryz.lays106_ren:={
 mixed:=by kernel_rfl
 f106:=Tryz.func205.trans (congrArg some (by kernel_rfl))
 f213:=Tryz.func284.trans (congrArg some (by kernel_rfl))
 f265:=Tryz.func332.trans (congrArg some (by kernel_rfl))
 t3:=Tryz.underlying3
 a3:=Tryz.isAgg3
 z3:=Tryz.sizeOf3
 v3:=Tryz.zeroValue3
 t9:=Tryz.underlying9
 a9:=Tryz.isAgg9
 z9:=Tryz.sizeOf9
 v9:=Tryz.zeroValue9 }
def Tryz.lays217_ren:Go.Shelf.Ren:=⟨fun | 217=>335 | 266=>389 | n=>n,fun | 9=>9 | 5=>5 | 3=>3 | n=>n,fun | n=>n⟩
theorem Tryz.lays217:Go.Proofs.Lays.n217 Tryz.prog Tryz.lays217_ren:={
 mixed:=by kernel_rfl
 f217:=Tryz.func335.trans (congrArg some (by kernel_rfl))
 f266:=Tryz.func389.trans (congrArg some (by kernel_rfl))
 t3:=Tryz.underlying3
 a3:=Tryz.isAgg3
 z3:=Tryz.sizeOf3
 v3:=Tryz.zeroValue3
 t5:=Tryz.underlying5
 a5:=Tryz.isAgg5
 z5:=Tryz.sizeOf5
 v5:=Tryz.zeroValue5
 t9:=Tryz.underlying9
 a9:=Tryz.isAgg9
 z9:=Tryz.sizeOf9
 v9:=Tryz.zeroValue9 }
def Tryz.lays8_270_ren:Go.Shelf.Ren:=⟨fun | 4=>270 | n=>n,fun | 22=>23 | 25=>3 | 3=>3 | 4=>4 | 9=>9 | 20=>20 | 0=>0 | n=>n,fun | n=>n⟩
theorem Tryz.lays8_270:Go.Proofs.Lays8.n4 Tryz.prog Tryz.lays8_270_ren:={
 mixed:=by kernel_rfl
 f4:=⟨Tryz.f270.name,by decide,Tryz.func270.trans (congrArg some (by kernel_rfl))⟩
 t0:=Tryz.underlying0
 a0:=Tryz.isAgg0
 z0:=Tryz.sizeOf0
 v0:=Tryz.zeroValue0
 t3:=Tryz.underlying3
 a3:=Tryz.isAgg3
 z3:=Tryz.sizeOf3
 v3:=Tryz.zeroValue3
 t4:=Tryz.underlying4
 a4:=Tryz.isAgg4
 z4:=Tryz.sizeOf4
 v4:=Tryz.zeroValue4
 t9:=Tryz.underlying9
 a9:=Tryz.isAgg9
 z9:=Tryz.sizeOf9
 v9:=Tryz.zeroValue9
 t20:=Tryz.underlying20
 a20:=Tryz.isAgg20
 z20:=Tryz.sizeOf20
 v20:=Tryz.zeroValue20
 t22:=Tryz.underlying23
 a22:=Tryz.isAgg23
 z22:=Tryz.sizeOf23
 v22:=Tryz.zeroValue23 }
def Tryz.lays8_68_ren:Go.Shelf.Ren:=⟨fun | 4=>68 | n=>n,fun | 22=>24 | 25=>73 | 3=>3 | 4=>4 | 9=>9 | 20=>20 | 0=>0 | n=>n,fun | n=>n⟩
theorem Tryz.lays8_68:Go.Proofs.Lays8.n4 Tryz.prog Tryz.lays8_68_ren:={
 mixed:=by kernel_rfl
 f4:=⟨Tryz.f68.name,by decide,Tryz.func68.trans (congrArg some (by kernel_rfl))⟩
 t0:=Tryz.underlying0
 a0:=Tryz.isAgg0
 z0:=Tryz.sizeOf0
 v0:=Tryz.zeroValue0
 t3:=Tryz.underlying3
 a3:=Tryz.isAgg3
 z3:=Tryz.sizeOf3
 v3:=Tryz.zeroValue3
 t4:=Tryz.underlying4
 a4:=Tryz.isAgg4
 z4:=Tryz.sizeOf4
 v4:=Tryz.zeroValue4
 t9:=Tryz.underlying9
 a9:=Tryz.isAgg9
 z9:=Tryz.sizeOf9
 v9:=Tryz.zeroValue9
 t20:=Tryz.underlying20
 a20:=Tryz.isAgg20
 z20:=Tryz.sizeOf20
 v20:=Tryz.zeroValue20
 t22:=Tryz.underlying24
 a22:=Tryz.isAgg24
 z22:=Tryz.sizeOf24
 v22:=Tryz.zeroValue24 }
end Go.Proofs
namespace Go.Proofs.YtpfoahpiaanlaaaGreatDoor
open Go.RowKit Go.Ab Go.Sh Go.Proofs Go.Shelf
theorem Tryz.mo:Tryz.prog.follows .mixedOrders=true:=by kernel_rfl
theorem named {s:String} (h:(Tryz.prog.globalNamed s).isSome=true):Tryz.prog.globalNamed s≠none:=fun e=>by rw [e] at h;cases h
theorem ur (n:Int) (r:aj) (H:jd n=some r):bp Tryz.prog 44 [.int .i64 n] (.str r):=M6 Tryz.laysM171 (named (by kernel_rfl)) n r H
theorem Eb (s:aj) (r:Int×Bool) (H:th s=some r):bp Tryz.prog 168 [.str s] (.tup [.int .i64 r.1,Fa 338 r.2]):=M5 Tryz.laysC172 (named (by kernel_rfl)) (named (by kernel_rfl)) s r H
theorem qj (xs:List aj) (sep:aj) (r:aj) (H:nT xs sep=some r):bp Tryz.prog 45 [.dslice (xs.map lE),.str sep] (.str r):=M7 Tryz.lays156 Tryz.Builder_Extra_156 xs sep r H
theorem Ca (s sep:aj) (r:List aj) (H:ti s sep=some r):bp Tryz.prog 212 [.str s,.str sep] (.dslice (r.map lE)):=LU Tryz.lays146 (by kernel_rfl) (by kernel_rfl) s sep r H
theorem Kg (s cut:aj) (r:aj) (H:vZ s cut=some r):bp Tryz.prog 200 [.str s,.str cut] (.str r):=M8 Tryz.lays160 (fun w=>om (show zeroOf Tryz.prog 308=some (.agg (Array.replicate 256 (.bool false))) from by kernel_rfl)) (by kernel_rfl) s cut r H
theorem Ec (xs r:List aj) (H:qk xs=some r):bH Tryz.prog 345 [.rslice 1000] [(1000,.row 9 1 (xs.map lE))] (fun v h=>v = .tup []∧h=[(1000,.row 9 1 (r.map lE))]):=JP Tryz.lays190 xs r H
def Hk (s sep:aj):Option (aj×aj×Bool):=bo (s.length<4294967281)<|some (Lib.cut s sep)
theorem Q4 (s sep:aj):(Lib.cut s sep).1.length≤s.length∧(Lib.cut s sep).2.1.length≤s.length:=by
 unfold Lib.cut;repeat' split
 all_goals simp
 all_goals omega
theorem D.triple {w:World} {X:Nat→Prop} {a b c:AV} {A B C:Value} (ha:D w X a A) (hb:D w X b B) (hc:D w X c C):D w X (.tup [a,b,c]) (.tuple #[A,B,C]) :=
 .tup _ _ rfl fun i hi=>by
  match i,hi with
  | 0,_=>exact ha
  | 1,_=>exact hb
  | 2,_=>exact hc
theorem Gb (s sep:aj) (r:aj×aj×Bool) (H:Hk s sep=some r):bp Tryz.prog 208 [.str s,.str sep] (.tup [.str r.1,.str r.2.1,.bool r.2.2]):=by refine ao H fun g H=>?_;refine bA H fun e=>?_;subst e;refine tP rfl fun w Z vs hl _ hd gp=>?_;have h0:=(hd 0 (by simp)).str_inv;have h1:=(hd 1 (by simp)).str_inv;rw [QI (vs:=vs) (by simpa using hl),h0.1,h1.1];obtain ⟨m,hm⟩:=gp.len _ (show Tryz.prog.globalNamed "internal/bytealg.MaxLen" = some (Tryz.lays145_ren.g 1) by kernel_rfl);refine (Any.strings_Cut Tryz.lays145 ⟨s.toArray⟩ ⟨sep.toArray⟩ m w (by simpa [ByteArray.size] using g) hm).mono fun e w' ⟨e1,n,e2⟩=>?_;obtain ⟨l1,l2⟩:=Q4 s sep;refine ⟨_,e1,by rw [e2];exact ⟨rfl,rfl,rfl,Nat.le_refl _,fun _ _=>rfl⟩,?_⟩;simp only [List.toList_toArray];exact D.triple (.str _ (Nat.le_trans l1 h0.2)) (.str _ (Nat.le_trans l2 h0.2)) (.bool _)
theorem K7:∀ x y:aj,Lib.compareBytes x y=AX x y
 | [],[]=>rfl
 | [],_::_=>rfl
 | _::_,[]=>rfl
 | a::x,b::y=>by
  have ih:=K7 x y;simp only [Lib.compareBytes,AX,Op.bytesLess] at ih ⊢;by_cases h1:a<b
  ·simp [h1]
  ·by_cases h2:b<a
   ·have:(a==b)=false:=by
     cases h:a==b with
     | false=>rfl
     | true=>exact absurd (eq_of_beq h ▸ h2) (UInt8.lt_irrefl _)
    simp [h1,h2,this]
   ·have e:a=b:=by apply UInt8.toNat_inj.1;have q1:¬ a.toNat<b.toNat:=h1;have q2:¬ b.toNat<a.toNat:=h2;omega
    subst e;simp [h1,ih]
theorem L7 (x y:aj) (w:World):Calls Tryz.prog 205 #[.string ⟨x.toArray⟩,.string ⟨y.toArray⟩] w fun e w'=>e = .returned (.int .i64 (AX x y))∧w'=w:=by
 have h:=Any.strings_Compare Tryz.lays106 ⟨x.toArray⟩ ⟨y.toArray⟩ w
 rwa [K7] at h
def ru (x y:aj):Option Int:=some (AX x y)
theorem yn (x y:aj) (r:Int) (H:ru x y=some r):bp Tryz.prog 205 [.str x,.str y] (.int .i64 r):=by unfold ru at H;refine bA H fun e=>?_;subst e;refine tP rfl fun w X vs hl hX hd _=>?_;have d0:=(show D w X (.str x) (vs.getD 0 undef) from hd 0 (by simp)).str_inv;have d1:=(show D w X (.str y) (vs.getD 1 undef) from hd 1 (by simp)).str_inv;rw [QI (vs:=vs) (by simpa using hl),d0.1,d1.1];exact (L7 x y w).mono fun e w' ⟨a,b⟩=>by subst b;exact ⟨_,a,.refl _ _,.int _ _⟩
def PE (x:aj) (b:UInt8):Int:=match x.findIdx? (· == b) with | some i=>(i:Int) | none=>-1
theorem Lf (b:UInt8):∀ x:aj,Lib.indexByte x b=PE x b
 | []=>rfl
 | a::x=>by
  have ih:=Lf b x;simp only [Lib.indexByte];rw [ih];unfold PE;rw [List.findIdx?_cons];cases h:a==b with
  | true=>rfl
  | false =>
   cases hx:x.findIdx? (· == b) with
   | none=>rfl
   | some i =>
    simp only [Option.map_some];rw [if_neg (by simp),if_neg (by simp only [beq_iff_eq];omega)];simp
def sj (x:aj) (b:UInt8):Option Int:=some (PE x b)
theorem CK (x:aj) (b:UInt8) (r:Int) (H:sj x b=some r):bp Tryz.prog 335 [.str x,.int .u8 b.toNat] (.int .i64 r):=by
 unfold sj at H;refine bA H fun e=>?_;subst e;refine tP rfl fun w X vs hl hX hd _=>?_;have d0:=(show D w X (.str x) (vs.getD 0 undef) from hd 0 (by simp)).str_inv;have d1:=(show D w X (.int .u8 b.toNat) (vs.getD 1 undef) from hd 1 (by simp)).int_inv;rw [QI (vs:=vs) (by simpa using hl),d0.1,d1];have h:=Any.stringslite_IndexByte Tryz.lays217 ⟨x.toArray⟩ b.toNat w;have e2:((b.toNat:Int)).toNat.toUInt8=b:=by simp
 rw [e2] at h;have e3:Lib.indexByte (⟨x.toArray⟩:ByteArray).data.toList b=PE x b:=Lf b x;rw [e3] at h;exact h.mono fun e w' ⟨a,c⟩=>by subst c;exact ⟨_,a,.refl _ _,.int _ _⟩
theorem tV:∀ (s cur:aj),(∀ x∈Lib.fieldsGo cur s,x.length≤cur.length+s.length)∧(Lib.fieldsGo cur s).length≤s.length+1
 | [],cur=>by
  unfold Lib.fieldsGo;split<;>simp
 | b::s,cur=>by
  unfold Lib.fieldsGo;have h0:=tV s [];have h1:=tV s (cur++[b]);simp only [List.length_append,List.length_cons,List.length_nil] at h0 h1 ⊢;repeat' split
  all_goals refine ⟨fun x hx=>?_,?_⟩
  all_goals first
   | (rcases List.mem_cons.1 hx with rfl | hx<;>first | omega | (have:=h0.1 x hx;omega))
   | (have:=h0.1 x hx;omega)
   | (have:=h1.1 x hx;omega)
   | (simp only [List.length_cons];omega)
   | omega
def kF (s:aj):Option (List aj):=bo (s.length<4294967281∧s.all (fun b=>decide (b.toNat<128))=true)<|some (Lib.fields s)
theorem Hl (s:aj) (r:List aj) (H:kF s=some r):bp Tryz.prog 207 [.str s] (.dslice (r.map lE)):=by
 unfold kF at H;refine ao H fun hn H=>?_;refine bA H fun e=>?_;subst e;refine tP rfl fun w X vs hl hX hd gp=>?_;have h0:=(hd 0 (by simp)).str_inv;have v1:vs=[vs.getD 0 undef]:=by
  match vs,hl with
  | [a],_=>rfl
 rw [v1,h0.1];have sz:∀ l:List UInt8,ByteArray.size ⟨l.toArray⟩=l.length:=fun l=>by simp [ByteArray.size]
 refine (Any.strings_Fields Tryz.lays157 (by kernel_rfl) (by kernel_rfl) ⟨s.toArray⟩ w (by rw [sz];exact hn.1) (fun j b hb=>?_) (gp.asp (named (by kernel_rfl)))).mono fun e w' ⟨e1,e2⟩=>?_
 ·have:=Tc.1 hn.2 b (List.mem_of_getElem? hb);simpa using this
 refine ⟨_,e1,by rw [e2];exact (Below.refl _ w).alloc (Nat.le_refl _) _,?_⟩;obtain ⟨l1,l2⟩:=tV s [];simp only [List.length_nil,Nat.zero_add] at l1;have hle:∀ x∈Lib.fields s,x.length≤maxLen:=fun x hx=>Nat.le_trans (l1 x hx) h0.2;have hbig:(Lib.fields s).length≤maxLen:=Nat.le_trans l2 (Nat.le_trans (show s.length+1≤4294967282 by omega) (by decide));have e3:(⟨s.toArray⟩:ByteArray).data.toList=s:=by simp
 rw [e3] at e2 ⊢;generalize Lib.fields s=r at hle hbig e2;have hcell:∀ i,i<r.length→w'.cell? ⟨w.heap.size,0+i,none⟩=some (.string ⟨(r.getD i []).toArray⟩):=by
  intro i hi;have hheap:w'.heap[w.heap.size]? = some (.cells (r.map fun l=>Value.string ⟨l.toArray⟩).toArray (Tryz.lays157_ren.t 9) (0,0)):=by rw [e2];exact Array.getElem?_push_size
  have h2:=ca (w:=w') (b:=w.heap.size) (i:=i) hheap (by rw [List.size_toArray,S7];omega);rw [Nat.zero_add,h2];simp [SZ,SX hi,SW]
 have hml:(r.map lE).length=r.length:=S7 ..;rw [← hml];refine .dslice _ w.heap.size 0 _ 1 (fun i _=>.string ⟨(r.getD i []).toArray⟩) (Nat.le_refl _) (by rw [S7];exact hbig) (by omega) (fun hx=>Nat.lt_irrefl _ (hX _ hx)) (fun i hi=>?_) (fun i j hi hj=>?_) (fun i j hi hj=>?_)
 ·rw [S7] at hi;simp [SW,SX hi,lE]
 ·rw [S7] at hi;have:=hcell i hi;rw [show 0+(i*1+j)=0+i by omega];exact this
 ·rw [S7] at hi;have e3:(r.map lE).getD i []=lE (r.getD i []):=by simp [SW,SX hi]
  obtain rfl:j=0:=by omega
  rw [e3];refine .str _ (hle _ ?_);rw [SW,SX hi];exact List.getElem_mem hi
end Go.Proofs.YtpfoahpiaanlaaaGreatDoor
namespace Go.Ab
open Go.RowKit Go.Sh Go.Proofs
section
variable {P:Program} {ρ:Go.Shelf.Ren}
theorem G.intQ_inv {w:World} {X:Nat→Prop} {β:Nat→Nat} {κ:Nat→Nat×Nat} {k:IntKind} {n:Int} {V:Value} (h:G w X β κ (.int k n) V):V = .int k n:=by
 cases h with
 | d h=>exact h.int_inv
theorem Bz (L:Lays8.n4 P ρ):bH P (ρ.f 4) [.eslice,.int .i64 0] [] (fun r _=>r = .eslice):=by intro c vs hl hr hg;have h0:G c.W (c.XX [] c.β) c.β c.κ .eslice (vs.getD 0 undef):=hg 0 (by simp);have h1:G c.W (c.XX [] c.β) c.β c.κ (.int .i64 0) (vs.getD 1 undef):=hg 1 (by simp);obtain ⟨ad,e0⟩:=h0.eslice_inv;rw [QI (vs:=vs) (by simpa using hl),e0,h1.intQ_inv];refine (Any8.slices_Grow_room L ad 0 0 0 c.W (Nat.le_refl _) (by omega) (by omega) (by omega)).mono fun e w' ⟨e2,e3⟩=>?_;subst e3;exact ⟨_,.eslice,[],c.β,c.κ,e2,rfl,hr,.d (.eslice _)⟩
theorem Di (L:Lays8.n4 P ρ) {sz by_:Nat} (he:jS P (ρ.t 22)=some (ρ.t 25,sz,by_)) (n:Nat) (h0:0<n) (hb:n*by_≤140737488355328) (h63:n≤4611686018427387904) :
 bH P (ρ.f 4) [.eslice,.int .i64 (n:Int)] [] (fun v h=>v = .gslice 0∧h=[(0,.room (ρ.t 25) sz)]):=by
 obtain ⟨hu,i,z,hi,hz,rfl,rfl,hzs,hsz⟩:=nP he;intro c vs hl hr hg;have g0:G c.W (c.XX [] c.β) c.β c.κ .eslice (vs.getD 0 undef):=hg 0 (by simp);have g1:G c.W (c.XX [] c.β) c.β c.κ (.int .i64 (n:Int)) (vs.getD 1 undef):=hg 1 (by simp);obtain ⟨ad,e0⟩:=g0.eslice_inv;rw [QI (vs:=vs) (by simpa using hl),e0,g1.intQ_inv];refine (Any8.slices_Grow_grow L i z hi hz hsz ad 0 0 n [] c.W (Nat.le_refl _) (by omega) (by simpa using hb) (by omega) (by simp) (fun _=>rfl) (fun a _ j v hj=>by simp at hj)).mono fun e w' ⟨e2,e3⟩=>?_;obtain ⟨C,hC⟩:∃ C,C=grownCap c.W (0+n) 0 (ρ.t 25):=⟨_,rfl⟩;have hCn:0+n≤C:=by rw [hC];exact grownCap_ge c.W _ _ _
 have hCm:C≤maxLen:=by rw [hC];exact grownCap_le_maxLen c.W _ _ _ (by unfold maxLen;omega)
 rw [← hC] at e2 e3;obtain ⟨arr,harr⟩:∃ arr,arr=(([]:List Value).toArray++Builtin.zeroCells z.cells (0+n-0)++Builtin.zeroCells z.cells (C-(0+n))):=⟨_,rfl⟩;rw [← harr] at e3;have hasz:arr.size=C*i.size:=by rw [harr];simp only [Array.size_append,List.size_toArray,List.length_nil,size_zeroCells,hzs,Nat.zero_add,Nat.sub_zero,← Nat.add_mul];congr 1;omega
 subst e3;have hr':=hr.drew;have hnew:(c.W.drew.alloc (.cells arr (ρ.t 25))).heap[c.W.heap.size]? = some (.cells arr (ρ.t 25) (0,0)):=nS c.W.drew _;obtain ⟨r1,_⟩:=hr'.anew (w':=c.W.drew.alloc (.cells arr (ρ.t 25))) (k:=0) (by decide) (fun j _=>rfl) c.W.heap.size (C,0) (Nat.le_refl _) (fun b hb2=>ir c.W.drew _ hb2) (fJ _ c.W.drew _ c.hK) (o:=.room (ρ.t 25) i.size)
  ⟨arr,by rw [bh];exact hnew,by rw [bh];exact hasz,by rw [bh];exact hCm,hsz⟩
 refine ⟨_,.gslice 0,[(0,.room (ρ.t 25) i.size)],upd c.β 0 c.W.heap.size,upd c.κ 0 (C,0),e2,⟨rfl,rfl⟩,r1,?_⟩;have:=G.gslice (w:=c.W.drew.alloc (.cells arr (ρ.t 25))) (X:=c.XX [(0,.room (ρ.t 25) i.size)] (upd c.β 0 c.W.heap.size)) (β:=upd c.β 0 c.W.heap.size) (κ:=upd c.κ 0 (C,0)) 0;rw [bh,bh] at this;exact this
end
section
variable {P:Program} {Q:Exit→AS→Prop} {c:Code} {fs:List Fr}
theorem xk {ι:Type} (S:ι→AS) (hc:A5 c=true) (φ:ι→Prop) (μ:ι→Nat) (i₀:ι) (h₀:φ i₀)
 (round:∀ i,φ i→∃ T,(T=dead∨∃ j,φ j∧μ j<μ i∧T=S j)∧eA P (n7 c) (bZ P (.bar T::fs) Q) (S i)):eA P c (bZ P fs Q) (S i₀):=by
 rw [rq hc];exact Bd S φ μ i₀ h₀ round
end
def pj {α:Type} (c:α→List AV) (x:List α):List AV:=[.dslice (x.map c)]
theorem QH {α:Type} (d:α):∀ (l:List α) (i:Nat),i<l.length→l.take (i+1)=l.take i++[l.getD i d]
 | [],i,h=>by simp at h
 | x::l,0,_=>rfl
 | x::l,i+1,h=>by rw [List.take_succ_cons,QH d l i (by simpa using h),List.take_succ_cons];rfl
theorem F6 {α:Type} (ls:List (List α)) (i:Nat) (h:i<ls.length):(ls.take (i+1)).flatten=(ls.take i).flatten++ls.getD i []:=by rw [QH [] ls i h];simp
theorem Ld {α:Type} (ls:List (List α)) (i:Nat):(ls.take i).flatten.length≤ls.flatten.length:=by
 have:ls.flatten=(ls.take i).flatten++(ls.drop i).flatten:=by rw [← List.flatten_append,List.take_append_drop]
 rw [this,List.length_append];omega
end Go.Ab
namespace Go.Proofs.YtpfoahpiaanlaaaGreatDoor
open Go.RowKit Go.Ab Go.Sh Go.Proofs
def jc {α:Type} (ls:List (List α)):Option (List α):=bo (ls.flatten.length*32≤140737488355328∧ls.length≤1000000)<|some ls.flatten
section
variable {α:Type} (c:α→List AV) (ls:List (List α))
def s8:AV:=.dslice (ls.map (pj c))
def C5 (t i:Nat):AS:=⟨36,[(0,s8 c ls),(2,.eslice),(3,.int .i64 ((t:Nat):Int)),(9,s8 c ls),(10,.int .i64 ((ls.length:Nat):Int)),(11,.int .i64 ((i:Nat):Int))],[]⟩
def K5 (t:Nat):AS:=⟨36,[(0,s8 c ls),(2,.eslice),(3,.int .i64 ((t:Nat):Int))],[]⟩
def za (a:List α) (i:Nat):AS:=⟨36,[(2,.eslice),(6,.rslice 33),(25,s8 c ls),(26,.int .i64 ((ls.length:Nat):Int)),(27,.int .i64 ((i:Nat):Int))],[(33,.row 73 2 (a.map c))]⟩
def Np (i:Nat):AS:=⟨36,[(2,.eslice),(6,.gslice 24),(25,s8 c ls),(26,.int .i64 ((ls.length:Nat):Int)),(27,.int .i64 ((i:Nat):Int))],[(24,.room 73 2)]⟩
def GW (a:List α) (i:Nat):AS:=match a with
 | []=>Np c ls i
 | x::xs=>za c ls (x::xs) i
def C4 (a:List α):AS:=⟨36,[(2,.eslice),(6,.rslice 33)],[(33,.row 73 2 (a.map c))]⟩
theorem si (hc:∀ x,(c x).length=2∧(c x).all (fun v=>v.one&&v.fl)=true) (r:List α) (H:jc ls=some r):bp Tryz.prog 22 [s8 c ls] (.dslice (r.map c)):=by
 unfold jc at H;refine ao H fun hn H=>?_;obtain ⟨hb,hN⟩:=hn;refine bA H fun e=>?_;subst e;have hle:∀ i,(ls.take i).flatten.length≤ls.flatten.length:=Ld ls;have hstep:∀ i,i<ls.length→(ls.take (i+1)).flatten=(ls.take i).flatten++ls.getD i []:=F6 ls;have hall:(ls.take ls.length).flatten=ls.flatten:=by rw [List.take_length]
 have hix:∀ i,i<ls.length→cQ [((0:Int)≤(i:Int)∧(i:Int)<((ls.map (pj c)).length:Int))∧(((ls.map (pj c)).getD (i:Int).toNat []).length=1∧0<1),AV.dptr ((ls.map (pj c)).getD (i:Int).toNat []) = .dptr (pj c (ls.getD i []))]:=fun i hi=>ix (f:=pj c) (l:=ls) (n:=i) [] (fun _=>rfl) (by decide) hi;have i64:∀ i,i<ls.length→rL (((i:Nat):Int)+1):=fun i hi=>by unfold rL;omega
 have c0:∀ i,i<ls.length→AV.bool (decide (((i:Nat):Int)<((ls.length:Nat):Int))) = .bool true:=fun i hi=>congrArg AV.bool (S5 (by omega));have c1:AV.bool (decide (((ls.length:Nat):Int)<((ls.length:Nat):Int))) = .bool false:=congrArg AV.bool (S4 (by omega));have hcap:∀ (a:List α) i,i<ls.length→a=(ls.take i).flatten→(a.length+(ls.getD i []).length)*32≤140737488355328:=fun a i hi ha=>by have h2:=hle (i+1);rw [hstep i hi,List.length_append,← ha] at h2;exact Nat.le_trans (Nat.mul_le_mul_right _ h2) hb
 refine JO Tryz.func22 36 [.tmp 2] (by kernel_rfl) (by kernel_rfl) ?_;refine Jc Tryz.mo 8 [.rg 0 [] [.v],.rg 0 [] [.v],.rg 0 [] [.v,.e (.int .i64 ((ls.length:Nat):Int)),.v]] [.only [0,2,3,9,10,11] []] 8 [] (C5 c ls 0 0) (all_cons trivial (all_cons (vj (pj c) ls) all_nil)) (by kernel_rfl) ?_;refine bQ 1 (K5 c ls ls.flatten.length) (by kernel_rfl) ?_ ?_
 ·refine xk (ι:=Nat×Nat) (fun x=>C5 c ls x.2 x.1) (by kernel_rfl) (fun x=>x.1≤ls.length∧x.2=(ls.take x.1).flatten.length) (fun x=>ls.length-x.1) (0,0) ⟨Nat.zero_le _,by simp⟩ ?_;rintro ⟨i,t⟩ ⟨hi,ht⟩;simp only at hi ht;by_cases hN:i=ls.length
  ·subst hN;rw [hall] at ht;subst ht;exact ⟨dead,.inl rfl,n8 Tryz.mo 5 [.rg 0 [] [.e (.bool false)]] [.only [0,2,3] []] (K5 c ls ls.flatten.length) (all_cons c1 all_nil) (by kernel_rfl)⟩
  ·have hlt:i<ls.length:=by omega
   have ht2:t+(ls.getD i []).length=(ls.take (i+1)).flatten.length:=by rw [hstep i hlt,List.length_append,ht]
   have hle2:=hle (i+1);have c2:decide ((((t+(ls.getD i []).length:Nat)):Int)<0)=false:=S4 (by omega);refine ⟨C5 c ls (t+(ls.getD i []).length) (i+1),.inr ⟨(i+1,t+(ls.getD i []).length),⟨hlt,ht2⟩,by show ls.length-(i+1)<ls.length-i;omega,rfl⟩,?_⟩;exact n8 Tryz.mo 16 [.rg 0 [] [.e (.bool true)],.rg 0 [] [.e (.dptr (pj c (ls.getD i []))),.v,.v],.rg 0 [] [.v,.v,.e (.int .i64 (((ls.getD i []).length:Nat):Int)),.e (.int .i64 ((t+(ls.getD i []).length:Nat):Int)),.v],.rg 0 [] [.v,.e (.bool false)],.rg 0 [] [.v,.v]] [.only [0,2,3,9,10,11] []] (C5 c ls (t+(ls.getD i []).length) (i+1))
    (all_cons (c0 i hlt) (aJ (hix i hlt) (all_cons trivial (all_cons (vj c (ls.getD i [])) (all_cons (show rL (((t:Nat):Int)+(((ls.getD i []).length:Nat):Int)) from by unfold rL;omega) (all_cons (congrArg (AV.int .i64) (Int.natCast_add t (ls.getD i []).length).symm) (all_cons (congrArg (AV.bool) c2) (all_cons (i64 i hlt) all_nil)))))))) (by kernel_rfl)
 ·by_cases h0:ls.flatten.length=0
  ·
   rw [h0];refine Jc Tryz.mo 8 [.rg 0 [] [.v,.c true .eslice,.v],.rg 0 [] [.v,.e (.int .i64 ((ls.length:Nat):Int)),.v]] [.er 6 33 73 2,.only [2,6,25,26,27] [33]] 6 [] (za c ls [] 0) (all_cons Tryz.call68 (all_cons (Bz Tryz.lays8_68) (all_cons trivial (all_cons (vj (pj c) ls) all_nil)))) (by kernel_rfl) ?_;refine bQ 1 (C4 c ls.flatten) (by kernel_rfl) ?_ ?_
   ·refine xk (ι:=Nat×List α) (fun x=>za c ls x.2 x.1) (by kernel_rfl) (fun x=>x.1≤ls.length∧x.2=(ls.take x.1).flatten) (fun x=>ls.length-x.1) (0,[]) ⟨Nat.zero_le _,by simp⟩ ?_;rintro ⟨i,a⟩ ⟨hi,ha⟩;simp only at hi ha;by_cases hN:i=ls.length
    ·subst hN;rw [hall] at ha;subst ha;exact ⟨dead,.inl rfl,n8 Tryz.mo 5 [.rg 0 [] [.e (.bool false)]] [.only [2,6] [33]] (C4 c ls.flatten) (all_cons c1 all_nil) (by kernel_rfl)⟩
    ·have hlt:i<ls.length:=by omega
     refine ⟨za c ls (a++ls.getD i []) (i+1),.inr ⟨(i+1,a++ls.getD i []),⟨hlt,by simp only [hstep i hlt,← ha]⟩,by show ls.length-(i+1)<ls.length-i;omega,rfl⟩,?_⟩;exact n8 Tryz.mo 16 [.rg 0 [] [.e (.bool true)],.rg 0 [] [.e (.dptr (pj c (ls.getD i []))),.v,.v],.rg 0 [] [.v,.v,.ap,.rwH 33 (.row 73 2 ((a++ls.getD i []).map c)),.v],.rg 0 [] [.v,.v]] [.only [2,6,25,26,27] [33]] (za c ls (a++ls.getD i []) (i+1))
      (all_cons (c0 i hlt) (aJ (hix i hlt) (aJ (iU (c:=c) hc a (ls.getD i []) 32 (by decide) (hcap a i hlt ha)) (all_cons (ow 73 2 c a (ls.getD i [])) (all_cons (i64 i hlt) all_nil))))) (by kernel_rfl)
   ·exact Jd Tryz.mo 3 [.rg 0 [] [.v,.v]] [.fz 33] [] all_nil (by kernel_rfl)
  ·have hgrow:=Di Tryz.lays8_68 (sz:=2) (by_:=32) (by kernel_rfl) ls.flatten.length (by omega) hb (by omega);refine Jc Tryz.mo 8 [.rg 0 [] [.v,.hR [] 24 (.gslice 0) [(0,.room 73 2)],.v],.rg 0 [] [.v,.e (.int .i64 ((ls.length:Nat):Int)),.v]] [.only [2,6,25,26,27] [24]] 6 [] (GW c ls [] 0) (all_cons Tryz.call68 (all_cons hgrow (all_cons trivial (all_cons (vj (pj c) ls) all_nil)))) (by kernel_rfl) ?_;refine bQ 1 (C4 c ls.flatten) (by kernel_rfl) ?_ ?_
   ·refine xk (ι:=Nat×List α) (fun x=>GW c ls x.2 x.1) (by kernel_rfl) (fun x=>x.1≤ls.length∧x.2=(ls.take x.1).flatten) (fun x=>ls.length-x.1) (0,[]) ⟨Nat.zero_le _,by simp⟩ ?_;rintro ⟨i,a⟩ ⟨hi,ha⟩;simp only at hi ha;by_cases hN:i=ls.length
    ·subst hN;rw [hall] at ha;cases a with
     | nil=>rw [← ha] at h0;exact absurd rfl h0
     | cons a0 al =>
      rw [← ha];exact ⟨dead,.inl rfl,n8 Tryz.mo 5 [.rg 0 [] [.e (.bool false)]] [.only [2,6] [33]] (C4 c (a0::al)) (all_cons c1 all_nil) (by kernel_rfl)⟩
    ·have hlt:i<ls.length:=by omega
     refine ⟨GW c ls (a++ls.getD i []) (i+1),.inr ⟨(i+1,a++ls.getD i []),⟨hlt,by simp only [hstep i hlt,← ha]⟩,by show ls.length-(i+1)<ls.length-i;omega,rfl⟩,?_⟩;have hk:=hcap a i hlt ha;have hx:=hix i hlt;cases a with
     | nil =>
      generalize ls.getD i []=y at hk hx;cases y with
      | nil =>
       exact n8 Tryz.mo 16 [.rg 0 [] [.e (.bool true)],.rg 0 [] [.e (.dptr [.dslice []]),.v,.v],.rg 0 [] [.v,.v,.apg,.v],.rg 0 [] [.v,.v]] [.only [2,6,25,26,27] [24]] (Np c ls (i+1))
        (all_cons (c0 i hlt) (aJ hx (all_cons (i64 i hlt) all_nil))) (by kernel_rfl)
      | cons y0 ys =>
       exact n8 Tryz.mo 16 [.rg 0 [] [.e (.bool true)],.rg 0 [] [.e (.dptr [.dslice (c y0::ys.map c)]),.v,.v],.rg 0 [] [.v,.v,.apg,.v],.rg 0 [] [.v,.v]] [.only [2,6,25,26,27] [33]] (za c ls (y0::ys) (i+1))
        (all_cons (c0 i hlt) (aJ hx (aJ (SO (c:=c) hc (y0::ys) 32 (by decide) (by simpa using hk)) (all_cons (i64 i hlt) all_nil)))) (by kernel_rfl)
     | cons a0 al =>
      exact n8 Tryz.mo 16 [.rg 0 [] [.e (.bool true)],.rg 0 [] [.e (.dptr (pj c (ls.getD i []))),.v,.v],.rg 0 [] [.v,.v,.ap,.rwH 33 (.row 73 2 (((a0::al)++ls.getD i []).map c)),.v],.rg 0 [] [.v,.v]] [.only [2,6,25,26,27] [33]] (za c ls ((a0::al)++ls.getD i []) (i+1))
       (all_cons (c0 i hlt) (aJ hx (aJ (iU (c:=c) hc (a0::al) (ls.getD i []) 32 (by decide) hk) (all_cons (ow 73 2 c (a0::al) (ls.getD i [])) (all_cons (i64 i hlt) all_nil))))) (by kernel_rfl)
   ·exact Jd Tryz.mo 3 [.rg 0 [] [.v,.v]] [.fz 33] [] all_nil (by kernel_rfl)
end
def vY {α:Type} (ls:List (List α)):Option (List α):=bo (ls.flatten.length*8≤140737488355328∧ls.length≤1000000)<|some ls.flatten
section
variable {α:Type} (c:α→List AV) (ls:List (List α))
def s7:AV:=.dslice (ls.map (pj c))
def C3 (t i:Nat):AS:=⟨36,[(0,s7 c ls),(2,.eslice),(3,.int .i64 ((t:Nat):Int)),(9,s7 c ls),(10,.int .i64 ((ls.length:Nat):Int)),(11,.int .i64 ((i:Nat):Int))],[]⟩
def K4 (t:Nat):AS:=⟨36,[(0,s7 c ls),(2,.eslice),(3,.int .i64 ((t:Nat):Int))],[]⟩
def yZ (a:List α) (i:Nat):AS:=⟨36,[(2,.eslice),(6,.rslice 33),(25,s7 c ls),(26,.int .i64 ((ls.length:Nat):Int)),(27,.int .i64 ((i:Nat):Int))],[(33,.row 3 1 (a.map c))]⟩
def Nn (i:Nat):AS:=⟨36,[(2,.eslice),(6,.gslice 24),(25,s7 c ls),(26,.int .i64 ((ls.length:Nat):Int)),(27,.int .i64 ((i:Nat):Int))],[(24,.room 3 1)]⟩
def GV (a:List α) (i:Nat):AS:=match a with
 | []=>Nn c ls i
 | x::xs=>yZ c ls (x::xs) i
def C2 (a:List α):AS:=⟨36,[(2,.eslice),(6,.rslice 33)],[(33,.row 3 1 (a.map c))]⟩
theorem Fs (hc:∀ x,(c x).length=1∧(c x).all (fun v=>v.one&&v.fl)=true) (r:List α) (H:vY ls=some r):bp Tryz.prog 187 [s7 c ls] (.dslice (r.map c)):=by
 unfold vY at H;refine ao H fun hn H=>?_;obtain ⟨hb,hN⟩:=hn;refine bA H fun e=>?_;subst e;have hle:∀ i,(ls.take i).flatten.length≤ls.flatten.length:=Ld ls;have hstep:∀ i,i<ls.length→(ls.take (i+1)).flatten=(ls.take i).flatten++ls.getD i []:=F6 ls;have hall:(ls.take ls.length).flatten=ls.flatten:=by rw [List.take_length]
 have hix:∀ i,i<ls.length→cQ [((0:Int)≤(i:Int)∧(i:Int)<((ls.map (pj c)).length:Int))∧(((ls.map (pj c)).getD (i:Int).toNat []).length=1∧0<1),AV.dptr ((ls.map (pj c)).getD (i:Int).toNat []) = .dptr (pj c (ls.getD i []))]:=fun i hi=>ix (f:=pj c) (l:=ls) (n:=i) [] (fun _=>rfl) (by decide) hi;have i64:∀ i,i<ls.length→rL (((i:Nat):Int)+1):=fun i hi=>by unfold rL;omega
 have c0:∀ i,i<ls.length→AV.bool (decide (((i:Nat):Int)<((ls.length:Nat):Int))) = .bool true:=fun i hi=>congrArg AV.bool (S5 (by omega));have c1:AV.bool (decide (((ls.length:Nat):Int)<((ls.length:Nat):Int))) = .bool false:=congrArg AV.bool (S4 (by omega));have hcap:∀ (a:List α) i,i<ls.length→a=(ls.take i).flatten→(a.length+(ls.getD i []).length)*8≤140737488355328:=fun a i hi ha=>by have h2:=hle (i+1);rw [hstep i hi,List.length_append,← ha] at h2;exact Nat.le_trans (Nat.mul_le_mul_right _ h2) hb
 refine JO Tryz.func187 36 [.tmp 2] (by kernel_rfl) (by kernel_rfl) ?_;refine Jc Tryz.mo 8 [.rg 0 [] [.v],.rg 0 [] [.v],.rg 0 [] [.v,.e (.int .i64 ((ls.length:Nat):Int)),.v]] [.only [0,2,3,9,10,11] []] 8 [] (C3 c ls 0 0) (all_cons trivial (all_cons (vj (pj c) ls) all_nil)) (by kernel_rfl) ?_;refine bQ 1 (K4 c ls ls.flatten.length) (by kernel_rfl) ?_ ?_
 ·refine xk (ι:=Nat×Nat) (fun x=>C3 c ls x.2 x.1) (by kernel_rfl) (fun x=>x.1≤ls.length∧x.2=(ls.take x.1).flatten.length) (fun x=>ls.length-x.1) (0,0) ⟨Nat.zero_le _,by simp⟩ ?_;rintro ⟨i,t⟩ ⟨hi,ht⟩;simp only at hi ht;by_cases hN:i=ls.length
  ·subst hN;rw [hall] at ht;subst ht;exact ⟨dead,.inl rfl,n8 Tryz.mo 5 [.rg 0 [] [.e (.bool false)]] [.only [0,2,3] []] (K4 c ls ls.flatten.length) (all_cons c1 all_nil) (by kernel_rfl)⟩
  ·have hlt:i<ls.length:=by omega
   have ht2:t+(ls.getD i []).length=(ls.take (i+1)).flatten.length:=by rw [hstep i hlt,List.length_append,ht]
   have hle2:=hle (i+1);have c2:decide ((((t+(ls.getD i []).length:Nat)):Int)<0)=false:=S4 (by omega);refine ⟨C3 c ls (t+(ls.getD i []).length) (i+1),.inr ⟨(i+1,t+(ls.getD i []).length),⟨hlt,ht2⟩,by show ls.length-(i+1)<ls.length-i;omega,rfl⟩,?_⟩;exact n8 Tryz.mo 16 [.rg 0 [] [.e (.bool true)],.rg 0 [] [.e (.dptr (pj c (ls.getD i []))),.v,.v],.rg 0 [] [.v,.v,.e (.int .i64 (((ls.getD i []).length:Nat):Int)),.e (.int .i64 ((t+(ls.getD i []).length:Nat):Int)),.v],.rg 0 [] [.v,.e (.bool false)],.rg 0 [] [.v,.v]] [.only [0,2,3,9,10,11] []] (C3 c ls (t+(ls.getD i []).length) (i+1))
    (all_cons (c0 i hlt) (aJ (hix i hlt) (all_cons trivial (all_cons (vj c (ls.getD i [])) (all_cons (show rL (((t:Nat):Int)+(((ls.getD i []).length:Nat):Int)) from by unfold rL;omega) (all_cons (congrArg (AV.int .i64) (Int.natCast_add t (ls.getD i []).length).symm) (all_cons (congrArg (AV.bool) c2) (all_cons (i64 i hlt) all_nil)))))))) (by kernel_rfl)
 ·by_cases h0:ls.flatten.length=0
  ·
   rw [h0];refine Jc Tryz.mo 8 [.rg 0 [] [.v,.c true .eslice,.v],.rg 0 [] [.v,.e (.int .i64 ((ls.length:Nat):Int)),.v]] [.er 6 33 3 1,.only [2,6,25,26,27] [33]] 6 [] (yZ c ls [] 0) (all_cons Tryz.call270 (all_cons (Bz Tryz.lays8_270) (all_cons trivial (all_cons (vj (pj c) ls) all_nil)))) (by kernel_rfl) ?_;refine bQ 1 (C2 c ls.flatten) (by kernel_rfl) ?_ ?_
   ·refine xk (ι:=Nat×List α) (fun x=>yZ c ls x.2 x.1) (by kernel_rfl) (fun x=>x.1≤ls.length∧x.2=(ls.take x.1).flatten) (fun x=>ls.length-x.1) (0,[]) ⟨Nat.zero_le _,by simp⟩ ?_;rintro ⟨i,a⟩ ⟨hi,ha⟩;simp only at hi ha;by_cases hN:i=ls.length
    ·subst hN;rw [hall] at ha;subst ha;exact ⟨dead,.inl rfl,n8 Tryz.mo 5 [.rg 0 [] [.e (.bool false)]] [.only [2,6] [33]] (C2 c ls.flatten) (all_cons c1 all_nil) (by kernel_rfl)⟩
    ·have hlt:i<ls.length:=by omega
     refine ⟨yZ c ls (a++ls.getD i []) (i+1),.inr ⟨(i+1,a++ls.getD i []),⟨hlt,by simp only [hstep i hlt,← ha]⟩,by show ls.length-(i+1)<ls.length-i;omega,rfl⟩,?_⟩;exact n8 Tryz.mo 16 [.rg 0 [] [.e (.bool true)],.rg 0 [] [.e (.dptr (pj c (ls.getD i []))),.v,.v],.rg 0 [] [.v,.v,.ap,.rwH 33 (.row 3 1 ((a++ls.getD i []).map c)),.v],.rg 0 [] [.v,.v]] [.only [2,6,25,26,27] [33]] (yZ c ls (a++ls.getD i []) (i+1))
      (all_cons (c0 i hlt) (aJ (hix i hlt) (aJ (iU (c:=c) hc a (ls.getD i []) 8 (by decide) (hcap a i hlt ha)) (all_cons (ow 3 1 c a (ls.getD i [])) (all_cons (i64 i hlt) all_nil))))) (by kernel_rfl)
   ·exact Jd Tryz.mo 3 [.rg 0 [] [.v,.v]] [.fz 33] [] all_nil (by kernel_rfl)
  ·have hgrow:=Di Tryz.lays8_270 (sz:=1) (by_:=8) (by kernel_rfl) ls.flatten.length (by omega) hb (by omega);refine Jc Tryz.mo 8 [.rg 0 [] [.v,.hR [] 24 (.gslice 0) [(0,.room 3 1)],.v],.rg 0 [] [.v,.e (.int .i64 ((ls.length:Nat):Int)),.v]] [.only [2,6,25,26,27] [24]] 6 [] (GV c ls [] 0) (all_cons Tryz.call270 (all_cons hgrow (all_cons trivial (all_cons (vj (pj c) ls) all_nil)))) (by kernel_rfl) ?_;refine bQ 1 (C2 c ls.flatten) (by kernel_rfl) ?_ ?_
   ·refine xk (ι:=Nat×List α) (fun x=>GV c ls x.2 x.1) (by kernel_rfl) (fun x=>x.1≤ls.length∧x.2=(ls.take x.1).flatten) (fun x=>ls.length-x.1) (0,[]) ⟨Nat.zero_le _,by simp⟩ ?_;rintro ⟨i,a⟩ ⟨hi,ha⟩;simp only at hi ha;by_cases hN:i=ls.length
    ·subst hN;rw [hall] at ha;cases a with
     | nil=>rw [← ha] at h0;exact absurd rfl h0
     | cons a0 al =>
      rw [← ha];exact ⟨dead,.inl rfl,n8 Tryz.mo 5 [.rg 0 [] [.e (.bool false)]] [.only [2,6] [33]] (C2 c (a0::al)) (all_cons c1 all_nil) (by kernel_rfl)⟩
    ·have hlt:i<ls.length:=by omega
     refine ⟨GV c ls (a++ls.getD i []) (i+1),.inr ⟨(i+1,a++ls.getD i []),⟨hlt,by simp only [hstep i hlt,← ha]⟩,by show ls.length-(i+1)<ls.length-i;omega,rfl⟩,?_⟩;have hk:=hcap a i hlt ha;have hx:=hix i hlt;cases a with
     | nil =>
      generalize ls.getD i []=y at hk hx;cases y with
      | nil =>
       exact n8 Tryz.mo 16 [.rg 0 [] [.e (.bool true)],.rg 0 [] [.e (.dptr [.dslice []]),.v,.v],.rg 0 [] [.v,.v,.apg,.v],.rg 0 [] [.v,.v]] [.only [2,6,25,26,27] [24]] (Nn c ls (i+1))
        (all_cons (c0 i hlt) (aJ hx (all_cons (i64 i hlt) all_nil))) (by kernel_rfl)
      | cons y0 ys =>
       exact n8 Tryz.mo 16 [.rg 0 [] [.e (.bool true)],.rg 0 [] [.e (.dptr [.dslice (c y0::ys.map c)]),.v,.v],.rg 0 [] [.v,.v,.apg,.v],.rg 0 [] [.v,.v]] [.only [2,6,25,26,27] [33]] (yZ c ls (y0::ys) (i+1))
        (all_cons (c0 i hlt) (aJ hx (aJ (SO (c:=c) hc (y0::ys) 8 (by decide) (by simpa using hk)) (all_cons (i64 i hlt) all_nil)))) (by kernel_rfl)
     | cons a0 al =>
      exact n8 Tryz.mo 16 [.rg 0 [] [.e (.bool true)],.rg 0 [] [.e (.dptr (pj c (ls.getD i []))),.v,.v],.rg 0 [] [.v,.v,.ap,.rwH 33 (.row 3 1 (((a0::al)++ls.getD i []).map c)),.v],.rg 0 [] [.v,.v]] [.only [2,6,25,26,27] [33]] (yZ c ls ((a0::al)++ls.getD i []) (i+1))
       (all_cons (c0 i hlt) (aJ hx (aJ (iU (c:=c) hc (a0::al) (ls.getD i []) 8 (by decide) hk) (all_cons (ow 3 1 c (a0::al) (ls.getD i [])) (all_cons (i64 i hlt) all_nil))))) (by kernel_rfl)
   ·exact Jd Tryz.mo 3 [.rg 0 [] [.v,.v]] [.fz 33] [] all_nil (by kernel_rfl)
end
end Go.Proofs.YtpfoahpiaanlaaaGreatDoor
namespace Go.Ab
open Go.RowKit Go.Sh
theorem bH.es {P:Program} {f:FuncId} {args:List AV} {h0:List (Nat×AO)} {Q:AV→List (Nat×AO)→Prop} (i:Nat) (h:bH P f (args.set i (.dslice [])) h0 Q) (hi:args.getD i .any = .eslice):bH P f args h0 Q :=
 fun c vs hl hr hg=>h c vs (by simpa using hl) hr fun j hj=>by
  have hj':j<args.length:=by simpa using hj
  by_cases e:j=i
  ·subst e;have h1:=hg j hj';rw [hi] at h1;obtain ⟨ad,e1⟩:=h1.eslice_inv;rw [e1];have h2:(args.set j (.dslice [])).getD j .any = .dslice []:=by simp [SW,hj']
   rw [h2];exact .d (.dnil _ _ (Nat.zero_le _))
  ·have h2:(args.set i (.dslice [])).getD j .any=args.getD j .any:=by simp [SW,List.getElem?_set,Ne.symm e]
   rw [h2];exact hg j hj'
theorem hT {α:Type} {b:Bool} {x z:Option α} {y:α} (h:b=true) (H:(bif b then x else z)=some y):x=some y:=by rw [h] at H;exact H
theorem hF {α:Type} {b:Bool} {x z:Option α} {y:α} (h:b=false) (H:(bif b then z else x)=some y):x=some y:=by rw [h] at H;exact H
theorem rN {a b:Bool} (h:(a&&b)=true):a=true:=by cases a<;>first | rfl | exact h
theorem yX {a b:Bool} (h:(a&&b)=true):b=true:=by cases a<;>first | exact h | cases h
theorem ev {a b:Bool} (h:(a||b)=false):a=false:=by cases a<;>first | rfl | exact h
theorem rz {a b:Bool} (h:(a||b)=false):b=false:=by cases a<;>first | exact h | cases h
theorem Mu {b:Bool} (h:(!b)=false):b=true:=by cases b<;>first | rfl | cases h
open Go.Proofs
theorem FW {w w':World} (h:dG (fun b=>b<w.heap.size) w w'):Below w.heap.size w w':=⟨h.os,h.tape,h.output,h.size,h.block⟩
theorem GC {P:Program} {f:FuncId} {args:List AV} {v:AV} (H:bp P f args v) (hv:v.fl=true) (w:World) (X:Nat→Prop) (hX:∀ b,X b→b<w.heap.size) (gp:∀ w',Below w.heap.size w w'→GP P w') (vs:List Value) (hl:vs.length=args.length)
 (hd:∀ i,i<args.length→D w X (args.getD i .any) (vs.getD i undef)):Calls P f vs.toArray w fun e w'=>∃ V,e = .returned V∧Below w.heap.size w w'∧D w' X v V:=by
 refine (H ⟨fun b=>b<w.heap.size,X,w,fun _=>0,fun _=>(0,0),fun b h=>h,hX,fun w' hk=>gp w' (FW hk)⟩ vs hl (eN.nil (dG.refl _ _)) fun i hi=>.d ((hd i hi).mono (fun _ _ _=>rfl) (fun b hb _ hb'=>hb (hb'.resolve_right (fun ⟨_,h,_⟩=>l6 h))))).mono ?_;rintro e w' ⟨V,v',h',β',κ',e1,⟨rfl,rfl⟩,hr,hG⟩;exact ⟨V,e1,FW hr.kp,(hG.toD hv).mono (fun _ _ _=>rfl) (fun b hb _ hb'=>hb (.inl hb'))⟩
theorem Pg {P:Program} {f:FuncId} {args:List AV} {v:AV} (hfl:AV.flL args=true)
 (h:∀ (w:World) (X:Nat→Prop) (vs:List Value),vs.length=args.length→(∀ b,X b→b<w.heap.size)→(∀ i,i<args.length→D w X (args.getD i .any) (vs.getD i undef))→(∀ w',Below w.heap.size w w'→GP P w')→Calls P f vs.toArray w fun e w'=>∃ V,e = .returned V∧Below w.heap.size w w'∧D w' X v V):bp P f args v:=by
 intro c vs hl hr hg;have hX:∀ b,c.XX [] c.β b→c.X b:=fun b hb=>hb.resolve_right fun ⟨k,hk,_⟩=>l6 hk;refine (h c.W c.X vs hl c.hX (fun i hi=>((hg i hi).toD (iX hi hfl)).mono (fun _ _ _=>rfl) (fun b hb _ hb'=>hb (.inl hb'))) (fun w' hb=>c.gp _ ⟨hb.os,hb.tape,hb.output,hb.size,fun b hb2=>hb.block b (c.hK b hb2)⟩)).mono fun e w' ⟨V,e1,hb,hd⟩=>?_;have hk:dG c.K c.W w':=⟨hb.os,hb.tape,hb.output,hb.size,fun b hb2=>hb.block b (c.hK b hb2)⟩;exact ⟨V,v,[],c.β,c.κ,e1,⟨rfl,rfl⟩,(eN.nil (hk)),.d (hd.mono (fun _ _ _=>rfl) (fun b hb2 _ hb3=>hb2 (hX b hb3)))⟩
theorem Jq {P:Program} {w:World} (base:Nat) (t ty e:TypeId) (i:TypeInfo) (z:Value) (size bytes:Nat) (ht:P.underlying t=some (.slice e)) (hi:P.info? e=some i) (hz:i.zero=some z)
 (hsize:i.size=size) (hby:i.bytes=bytes) (hzs:z.cells.size=size) (hsz:0<size)
 (v:Value) (n:Nat) (xs:List Value) (hown:w.ownsRow base e size v n xs)
 (a:Addr) (m c:Nat) (news:List Value) (hl:news.length=m*size) (hnews:∀ j u,news[j]? = some u→w.cell? (a.add j)=some u) (h1:∀ u∈news,u.oneCell'=true) (hm:0<m)
 (h63:n+m≤maxLen) (hbytes:(n+m)*bytes≤140737488355328) (hbase:base≤w.heap.size) :
 ∃ v' w',(Builtin.append_ #[t,t] ty #[v,.slice (some a) m c]).run P w = .ok v' w'∧w'.ownsRow base e size v' (n+m) (xs++news)∧w.grownBy w' v.ownBlock ∧
  ∀ g,v'.ownBlock=some g→v.ownBlock=some g∨w.heap.size≤g:=by
 obtain ⟨v',w',hr,h2,h3,_⟩:=run_append_own (P:=P) w base t ty e i z size bytes ht hi hz hsize hby hzs hsz v n xs hown a m c news hl hnews h1 h63 hbytes hbase;refine ⟨v',w',hr,h2,h3,fun g hg=>?_⟩;have hsmall:n+m≤9223372036854775807:=by simp only [maxLen] at h63;omega
 rcases hown.2 with ⟨rfl,rfl⟩ | ⟨b,cap,cur,rfl,hbg,hb,hnc,hcm,hcs,htake⟩
 ·have hx:xs=[]:=List.eq_nil_of_length_eq_zero (by simpa using hown.1);subst hx;obtain ⟨v2,w2,hr2,k2,_,_⟩:=run_append_own (P:=P) w w.heap.size t ty e i z size bytes ht hi hz hsize hby hzs hsz (.slice none 0 0) 0 [] (World.ownsRow_nil w _ e size) a m c news hl hnews h1 h63 hbytes (Nat.le_refl _);rw [hr] at hr2;cases hr2;rcases k2.2 with ⟨rfl,h0⟩ | ⟨b,cap,cur,rfl,hbg,_⟩
  ·omega
  ·cases hg;exact .inr hbg
 ·subst hsize;by_cases hroom:n+m≤cap
  ·have hr2:=run_append_room (P:=P) w t ty e i ht hi b n cap cur hb a m c news hl hnews h1 hroom (by rw [hl,hcs,← Nat.add_mul];exact Nat.mul_le_mul_right _ hroom);rw [hr] at hr2;cases hr2;exact .inl hg
  ·have holds:∀ j u,xs[j]? = some u→w.cell? ((⟨b,0,none⟩:Addr).add j)=some u:=hown.cells (g:=b) rfl;have hr2:=run_append_grow (P:=P) w t ty e i z ht hi hz ⟨b,0,none⟩ n cap xs hown.1 holds a m c news hl hnews (by omega) (by omega) (growslice_fits (by omega) (by rw [hby];exact hbytes));rw [hr] at hr2;cases hr2;cases hg;exact .inr (Nat.le_refl _)
theorem Bx {F:Fence} {n:Nat} {P:Program} (w:World) {ops:Array Oper} {rest:List Oper} {o:Oper} {a:Act} {Q:Exit→Act→World→Prop}
 (hg:o.guard=none) (s x:Operand) (t:TypeId) (hop:o.op=Op.call { callee:=Callee.builtin Builtin.append,args := #[s,x],argTypes := #[t,t] })
 (base:Nat) (e:TypeId) (i:TypeInfo) (z:Value) (size bytes:Nat) (h1:P.underlying t=some (.slice e)) (h2:P.info? e=some i) (h3:i.zero=some z) (h4:i.size=size) (h5:i.bytes=bytes) (h6:z.cells.size=size) (h7:0<size)
 (v:Value) (k:Nat) (xs:List Value) (hs:a.eval s=v) (hown:w.ownsRow base e size v k xs) (ad:Addr) (m c:Nat) (news:List Value) (hx:a.eval x = .slice (some ad) m c) (hn:news.length=m*size)
 (hc:∀ j u,news[j]? = some u→w.cell? (ad.add j)=some u) (h1c:∀ u∈news,u.oneCell'=true) (hm:0<m) (b1:k+m≤maxLen) (b2:(k+m)*bytes≤140737488355328) (b3:base≤w.heap.size)
 (hK:∀ v' w',w'.ownsRow base e size v' (k+m) (xs++news)→w.grownBy w' v.ownBlock→(∀ g,v'.ownBlock=some g→v.ownBlock=some g∨w.heap.size≤g)→wpListIn F n P ops Q rest (a.put o.dst v') w') :
 wpListIn F n P ops Q (o::rest) a w:=by
 refine wpListIn_plain hg fun K hK'=>?_;obtain ⟨v',w',hrun,r1,r2,r3⟩:=Jq (P:=P) (w:=w) base t o.type e i z size bytes h1 h2 h3 h4 h5 h6 h7 v k xs hown ad m c news hn hc h1c hm b1 b2 b3;unfold Oper.wpIn;refine ⟨by simp [Oper.about,hop,resolve,Target.leads,Sem.run_pure],?_⟩;rw [Oper.semAt_plain F _ _ (by rw [hop];intro c hc';cases hc')];simp [execOp,hop,resolve,invoke,builtin,hs,hx,hrun,Result.andThen];exact hK' _ _ (hK v' w' r1 r2 r3)
theorem Ss {P:Program} {m:Nat} {g:Operand} {ps:Array Tmp} {assign body:Code} {Q:Exit→Act→World→Prop} {a:Act} {w:World} {gf:Nat} {lb:Array Value} (hg:a.eval g = .func (.func gf) #[] lb)
 (eg:∀ args w,(callFunc gf args).run P w = .ok (.enter gf args) w)
 (h:∀ r:Loop,r.state = .ready→r.pending=none→r.tmps=a.tmps→r.params=ps→r.assign=assign→r.body=body→CallsIn Fence.wide (m-1) P gf (#[.func (.yield (w.heap.size+1)) #[] #[]]++lb) ((w.alloc (.deferred (some []))).alloc (.loop r)) fun e W =>
  (∃ v,e = .returned v)∧W.heap[w.heap.size+1]? = some (.loop r)∧∀ o,Q .normal { a with defers:={ target:=.collected w.heap.size,args := #[] }::a.defers } (W.putObj (w.heap.size+1) o)) :
 (Code.rangeFunc g ps assign body).wpIn Fence.wide m P Q a w:=by
 refine wpIn_rangeFunc fun fn _=>?_;obtain ⟨W1,hW1⟩:∃ W1,(w.alloc (.deferred (some []))).alloc (.loop { state:=.ready,pending:=none,fn:=fn,tmps:=a.tmps,params:=ps,assign:=assign,body:=body,defers:=w.heap.size })=W1:=⟨_,rfl⟩;have hE:=run_enterLoop_outer (P:=P) (w:=w) fn a.tmps ps assign body;have hC:=h { state:=.ready,pending:=none,fn:=fn,tmps:=a.tmps,params:=ps,assign:=assign,body:=body,defers:=w.heap.size } rfl rfl rfl rfl rfl rfl;rw [hW1] at hE hC;refine ⟨w.heap.size+1,[{ target:=.collected w.heap.size,args := #[] }],W1,{ target:=.fn (.func gf) lb,args := #[.func (.yield (w.heap.size+1)) #[] #[]] },W1,gf,#[.func (.yield (w.heap.size+1)) #[] #[]]++lb,W1,hE,?_,?_,?_,?_,?_⟩
 ·simp only [resolve,hg];simp [go_sem]
 ·exact fun _ _=>trivial
 ·simp [invoke,go_sem,eg]
 ·intro h;cases h
 ·refine hC.mono ?_;rintro e W ⟨⟨v,rfl⟩,hl,hq⟩;have hr:=run_endLoop (P:=P) hl (by simp);exact ⟨none,_,hr,hq _⟩
theorem O7 {P:Program} {m l:Nat} {r:Loop} {args tm:Array Value} {ps:Array Tmp} {asg bd:Code} {W:World} {R:World→Prop} (hl:W.heap[l]? = some (.loop r)) (hr:r.state = .ready) (hp:r.pending=none)
 (h3:r.tmps=tm) (h4:r.params=ps) (h5:r.assign=asg) (h6:r.body=bd) (hs:args.size=ps.size)
 (h:asg.wpIn (Fence.wide.inRound l) m P (Exit.then (fun a1 w1=>w1.heap[l]? = some (.loop r)∧bd.wpIn (Fence.wide.inRound l) m P (fun e _ W3=>e = .normal∧W3.heap[l]? = some (.loop { r with state:=.busy })∧R (W3.putObj l (.loop r))) a1 (w1.putObj l (.loop { r with state:=.busy }))) (fun _ _ _=>False))
  { tmps:=(ps.zip args).foldl (fun tmps (t,a)=>tmps.setIfInBounds t a) tm,defers:=[] } W) :
 YieldAt Fence.wide m P l args W fun e W'=>e = .returned (.bool true)∧R W':=by
 subst h3 h4 h5 h6;refine ⟨_,_,_,_,run_yield hl hs,roundIn_of_wpIn trivial (wpIn_mono h ?_)⟩;rintro e a1 w1 hp1;cases e with
 | normal =>
  obtain ⟨hl1,hb⟩:=hp1;refine ⟨_,run_beginRound hl1 hr,wpIn_mono hb ?_⟩;rintro e a3 W3 ⟨rfl,hl3,hR⟩;refine ⟨_,_,run_endRound none hl3,?_⟩;refine ⟨by simp,?_⟩;have e5:(Obj.loop { ({ r with state:=.busy }:Loop) with state:=if (none:Option Code).isNone then .ready else .done,pending:=none }) = .loop r:=by cases r;simp at hr hp ⊢;exact ⟨hr.symm,hp.symm⟩
  rw [e5];exact hR
 | _=>exact hp1.elim
end Go.Ab
namespace Go.Proofs.YtpfoahpiaanlaaaGreatDoor
open Go.RowKit Go.Ab Go.Sh Go.Shelf Go.Proofs
attribute [local go_sem] Oper.semAt_some
theorem Rv {w:World} {X:Nat→Prop} {a b:AV} {V:Value} (h:D w X (.tup [a,b]) V):∃ x y,V = .tuple #[x,y]∧D w X a x∧D w X b y:=by
 cases h with
 | tup cs vs hl hd =>
  obtain ⟨l⟩:=vs;match l,hl,hd with
  | [x,y],_,hd=>exact ⟨x,y,rfl,hd 0 (by simp),hd 1 (by simp)⟩
theorem vW {w:World} {X:Nat→Prop} {k:IntKind} {n:Int} {V:Value} (h:D w X (.int k n) V):V = .int k n:=by cases h;rfl
set_option maxRecDepth 100000 in
set_option maxHeartbeats 2000000 in
theorem NL (fr:List (List AV)) (N:Nat) (hN:N≤1000) (e0:Int) (ix:Nat→List (List AV)) (er:Nat→Int)
 (HS:bp Tryz.prog 53 [.dslice fr] (.tup [.int .i64 ((N:Nat):Int),.int .i64 e0]))
 (HI:∀ k,k<N→bp Tryz.prog 269 [.dslice fr,.int .i64 ((k:Nat):Int)] (.tup [.dslice (ix k),.int .i64 (er k)]))
 (hfl:∀ k,AV.fl (.dslice (ix k))=true)
 (l bf m:Nat) (Vf:Value) (J:Nat→World→Prop)
 (hJb:∀ k W W',J k W→Below W.heap.size W W'→J k W')
 (hJ:∀ k W,J k W→W.cell? ⟨bf,0,none⟩=some Vf∧(∀ w',Below W.heap.size W w'→GP Tryz.prog w')∧∃ X:Nat→Prop,(∀ b,X b→b<W.heap.size)∧D W X (.dslice fr) Vf ∧
  (∀ V W',k<N→Below W.heap.size W W'→D W' X (.dslice (ix k)) V→YieldAt Fence.wide (m-1) Tryz.prog l #[V] W' fun e W''=>e = .returned (.bool true)∧J (k+1) W''))
 (W:World) (h0:J 0 W) :
 CallsIn Fence.wide m Tryz.prog 268 #[.func (.yield l) #[] #[],.pointer (some ⟨bf,0,none⟩)] W fun e W'=>(∃ v,e = .returned v)∧J N W':=by
 refine callsIn_of_wp Tryz.func268 rfl trivial ?_ rfl;simp only [Tryz.ntmps268,List.size_toArray,List.length_cons,List.length_nil,Nat.reduceAdd,Nat.reduceSub,Array.replicate_succ,Array.replicate_zero,List.push_toArray,List.append_toArray,List.nil_append,List.cons_append];obtain ⟨c0,g0,X0,hX0,d0,_⟩:=hJ 0 W h0;have NI:∀ i,i<[AV.dslice fr].length→D W X0 ([AV.dslice fr].getD i .any) ([Vf].getD i undef):=fun i hi=>by
  obtain rfl:i=0:=by simpa using hi
  exact d0
 gi_wp2
 refine ⟨trivial,(fun h=>by cases h),?_⟩;refine (callsIn_wide.2 (GC HS (by rfl) W X0 hX0 g0 [Vf] rfl NI)).mono ?_;rintro e w' ⟨V,rfl,hb,hd⟩;obtain ⟨x,y,rfl,hx,hy⟩:=Rv hd;cases vW hx;cases vW hy
 gi_wp2
 gi_loopw [14] (fun p wr=>∃ k:Nat,p = .int .i64 ((k:Nat):Int)∧k≤N∧J k wr) (fun p wr=>N-(intOf p).toNat)
 case atStart=>exact ⟨0,rfl,by omega,hJb 0 _ _ h0 hb⟩
 case round =>
  obtain ⟨k,rfl,hk,hJs⟩:=hrel;by_cases hkN:k<N
  ·obtain ⟨c1,g1,X1,hX1,d1,hY⟩:=hJ k wr hJs;have hd2:∀ i,i<[AV.dslice fr,AV.int .i64 ((k:Nat):Int)].length→D wr X1 ([AV.dslice fr,AV.int .i64 ((k:Nat):Int)].getD i .any) ([Vf,Value.int .i64 ((k:Nat):Int)].getD i undef):=fun i hi=>by
    match i,hi with
    | 0,_=>exact d1
    | 1,_=>exact .int _ _
   have hlt:decide (((k:Nat):Int)<((N:Nat):Int))=true:=by simp;omega
   gi_wp2
   refine ⟨trivial,(fun h=>by cases h),?_⟩;refine (callsIn_wide.2 (GC (HI k hkN) (by simp [AV.fl,AV.flL,hfl]) wr X1 hX1 g1 [Vf,Value.int .i64 ((k:Nat):Int)] rfl hd2)).mono ?_;rintro e w2 ⟨V2,rfl,hb2,hd3⟩;obtain ⟨x2,y2,rfl,hx2,hy2⟩:=Rv hd3;cases vW hy2;obtain ⟨fn,tmps,assign,body,hyr,hR⟩:=hY x2 w2 hkN hb2 hx2
   gi_wp2
   refine ⟨(fun h=>by cases h),?_⟩;refine hR.mono ?_;rintro e w3 ⟨rfl,hJ3⟩
   gi_wp2
   go_roundw
   case rel=>exact ⟨k+1,by simp,by omega,hJ3⟩
   case measure=>simp only [intOf];omega
  ·have hlt:decide (((k:Nat):Int)<((N:Nat):Int))=false:=by simp;omega
   gi_wp2
   go_end0
   exact ⟨⟨_,rfl⟩,by rw [show N=k by omega];exact hJs⟩
set_option maxHeartbeats 1000000 in
theorem PF (m:Nat) (a:Option Addr) (n c:Nat) (w:World) :
 CallsIn Fence.wide m Tryz.prog 184 #[.slice a n c] w fun e w'=>e = .returned (.func (.func 268) #[] #[.pointer (some ⟨w.heap.size,0,none⟩)])∧w'=w.alloc (.cells #[.slice a n c] 23):=by
 refine callsIn_of_wp Tryz.func184 rfl trivial ?_ rfl;simp only [Tryz.ntmps184,List.size_toArray,List.length_cons,List.length_nil,Nat.reduceAdd,Nat.reduceSub,Array.replicate_succ,Array.replicate_zero,List.push_toArray,List.append_toArray,List.nil_append,List.cons_append]
 gi_wp2
 go_ret
 exact ⟨rfl,rfl⟩
theorem Gt {w:World} {X:Nat→Prop} {xs:List (List AV)} {V:Value} (h:D w X (.dslice xs) V):∃ a n c,V = .slice a n c:=by
 cases h with
 | dnil a c _=>exact ⟨_,_,_,rfl⟩
 | dslice _ b o c sz cv=>exact ⟨_,_,_,rfl⟩
theorem NK:(Tryz.prog.info? 23).map (fun i=>(i.zero,i.size,i.bytes))=some (some (.slice none 0 0),1,24):=by kernel_rfl
def XX (X:Nat→Prop) (b0:Nat) (v:Value) (b:Nat):Prop:=X b∨(b0≤b∧b≤b0+3)∨v.ownBlock=some b
structure zz (w0:World) (X:Nat→Prop) (b0:Nat) (F:Value) (fr:List (List AV)) (ix:Nat→List (List AV)) (rec:Loop) (k:Nat) (W:World) (v:Value) (hs:List Value):Prop where
 bx:W.heap[b0]? = some (.cells #[v] 25 (0,0))
 fx:W.heap[b0+1]? = some (.cells #[F] 23 (0,0))
 dx:W.heap[b0+2]? = some (.deferred (some []))
 lx:W.heap[b0+3]? = some (.loop rec)
 row:W.ownsRow w0.heap.size 23 1 v k hs
 far:∀ g,v.ownBlock=some g→b0+3<g
 fd:D W (XX X b0 v) (.dslice fr) F
 el:∀ i,i<k→D W (XX X b0 v) (.dslice (ix i)) (hs.getD i undef)
 bl:Below w0.heap.size w0 W
section
variable {w0 W:World} {X:Nat→Prop} {b0:Nat} {F:Value} {fr:List (List AV)} {ix:Nat→List (List AV)} {rec:Loop} {k:Nat} {v:Value} {hs:List Value}
theorem zz.lt (h:zz w0 X b0 F fr ix rec k W v hs):b0+3<W.heap.size:=(Array.getElem?_eq_some_iff.1 h.lx).1
theorem zz.own (h:zz w0 X b0 F fr ix rec k W v hs) {g:Nat} (hg:v.ownBlock=some g):g<W.heap.size:=by
 rcases h.row.2 with ⟨rfl,_⟩ | ⟨g',cap,cur,rfl,_,hb,_⟩
 ·cases hg
 ·cases hg;exact (Array.getElem?_eq_some_iff.1 hb).1
theorem zz.hX (h:zz w0 X b0 F fr ix rec k W v hs) (hX:∀ b,X b→b<w0.heap.size) (b:Nat) (hb:XX X b0 v b):b<W.heap.size:=by
 rcases hb with hb | hb | hb
 ·exact Nat.lt_of_lt_of_le (hX b hb) h.bl.size
 ·exact Nat.lt_of_le_of_lt hb.2 h.lt
 ·exact h.own hb
theorem zz.next (h:zz w0 X b0 F fr ix rec k W v hs) {W4:World} {v' V:Value} (hb:w0.heap.size≤b0) (h1:W4.os=W.os) (h2:W4.tape=W.tape) (h3:W4.output=W.output) (hs4:W.heap.size≤W4.heap.size)
 (hk:∀ b,b<W.heap.size→b≠b0→b≠b0+3→v.ownBlock≠some b→W4.heap[b]? = W.heap[b]?) (bx:W4.heap[b0]? = some (.cells #[v'] 25 (0,0))) (lx:W4.heap[b0+3]? = some (.loop rec))
 (row:W4.ownsRow w0.heap.size 23 1 v' (k+1) (hs++[V])) (hn:∀ g,v'.ownBlock=some g→v.ownBlock=some g∨W.heap.size≤g) (hV:D W (XX X b0 v) (.dslice (ix k)) V):zz w0 X b0 F fr ix rec (k+1) W4 v' (hs++[V]):=by
 have hlt:=h.lt;have nf:∀ j,j≤3→v.ownBlock≠some (b0+j):=fun j hj e=>by have:=h.far _ e;omega
 have mn:∀ {d:AV} {U:Value},D W (XX X b0 v) d U→D W4 (XX X b0 v') d U:=fun hd=>hd.mono (fun b hb hl=>hk b hl (fun e=>hb (.inr (.inl (by omega)))) (fun e=>hb (.inr (.inl (by omega)))) (fun e=>hb (.inr (.inr e)))) (fun b hb hl hb'=>by
  rcases hb' with h5 | h5 | h5
  ·exact hb (.inl h5)
  ·exact hb (.inr (.inl h5))
  ·rcases hn b h5 with h6 | h6
   ·exact hb (.inr (.inr h6))
   ·omega)
 have hl:hs.length=k:=by simpa using h.row.1
 refine ⟨bx,(hk _ (by omega) (by omega) (by omega) (nf 1 (by omega))).trans h.fx,(hk _ (by omega) (by omega) (by omega) (nf 2 (by omega))).trans h.dx,lx,row,fun g hg=>?_,mn h.fd,fun i hi=>?_,?_⟩
 ·rcases hn g hg with h6 | h6
  ·exact h.far g h6
  ·omega
 ·by_cases hik:i<k
  ·rw [show (hs++[V]).getD i undef=hs.getD i undef by simp [SW,List.getElem?_append_left (by omega:i<hs.length)]];exact mn (h.el i hik)
  ·obtain rfl:i=k:=by omega
   rw [show (hs++[V]).getD i undef=V by simp [SW,← hl]];exact mn hV
 ·refine ⟨h1.trans h.bl.os,h2.trans h.bl.tape,h3.trans h.bl.output,Nat.le_trans h.bl.size hs4,fun b hb5=>(hk b (Nat.lt_of_lt_of_le hb5 h.bl.size) (by omega) (by omega) (fun e=>?_)).trans (h.bl.block b hb5)⟩;have:=h.far b e;omega
theorem zz.below (h:zz w0 X b0 F fr ix rec k W v hs) {W4:World} (hB:Below W.heap.size W W4):zz w0 X b0 F fr ix rec k W4 v hs:=by
 have hlt:=h.lt;have mn:∀ {d:AV} {U:Value},D W (XX X b0 v) d U→D W4 (XX X b0 v) d U:=fun hd=>hd.mono (fun b _ hl=>hB.block b hl) (fun b hb _=>hb);refine ⟨(hB.block _ (by omega)).trans h.bx,(hB.block _ (by omega)).trans h.fx,(hB.block _ (by omega)).trans h.dx,(hB.block _ (by omega)).trans h.lx,⟨h.row.1,?_⟩,h.far,mn h.fd,fun i hi=>mn (h.el i hi),h.bl.trans (hB.mono h.bl.size)⟩;rcases h.row.2 with h0 | ⟨g',cap,cur,e,h5,hb,h6⟩
 ·exact .inl h0
 ·exact .inr ⟨g',cap,cur,e,h5,(hB.block _ (Array.getElem?_eq_some_iff.1 hb).1).trans hb,h6⟩
end
set_option maxRecDepth 100000 in
set_option maxHeartbeats 2000000 in
theorem NM (fr:List (List AV)) (hfr:AV.fl (.dslice fr)=true) (N:Nat) (hN:N≤1000) (ix:Nat→List (List AV)) (er:Nat→Int)
 (HS:bp Tryz.prog 53 [.dslice fr] (.tup [.int .i64 ((N:Nat):Int),.int .i64 0]))
 (HI:∀ k,k<N→bp Tryz.prog 269 [.dslice fr,.int .i64 ((k:Nat):Int)] (.tup [.dslice (ix k),.int .i64 (er k)]))
 (hfl:∀ k,AV.fl (.dslice (ix k))=true):bp Tryz.prog 107 [.dslice fr] (.tup [.dslice ((List.range' 0 N).map fun k=>[AV.dslice (ix k)]),.int .i64 0]):=by
 refine Pg (by simp [AV.flL,hfr]) fun w X vs hl hX hd gp=>?_;obtain ⟨Vf,rfl⟩:∃ Vf,vs=[Vf]:=List.length_eq_one_iff.1 (by simpa using hl);have hd0:D w X (.dslice fr) Vf:=hd 0 (by simp);obtain ⟨a,n,c,rfl⟩:=Gt hd0;obtain ⟨i0,hi,hz0,hz1,hz2⟩:=info_parts NK;suffices key:∀ m:Nat,CallsIn Fence.wide m Tryz.prog 107 #[.slice a n c] w _ from callsIn_wide.1 (key 0)
 intro m;refine callsIn_of_wp_marks Tryz.func107 rfl trivial ?_ rfl;simp only [Tryz.ntmps107,List.size_toArray,List.length_cons,List.length_nil,Nat.reduceAdd,Nat.reduceSub,Array.replicate_succ,Array.replicate_zero,List.push_toArray,List.append_toArray,List.nil_append,List.cons_append]
 gi_wp2
 refine ⟨trivial,(fun h=>by cases h),?_⟩;refine (callsIn_wide.2 (GC HS (by rfl) w X hX gp [.slice a n c] rfl hd)).mono ?_;rintro e w1 ⟨V,rfl,hb1,NI⟩;obtain ⟨x,y,rfl,hx,hy⟩:=Rv NI;cases vW hx;cases vW hy
 gi_wp2
 refine ⟨trivial,(fun h=>by cases h),?_⟩;refine (PF _ a n c _).mono ?_;rintro e w2 ⟨rfl,rfl⟩
 gi_wp2
 obtain ⟨b0,hb0⟩:∃ b0,b0=w1.heap.size:=⟨_,rfl⟩;rw [← hb0];have hsz:=hb1.size;obtain ⟨w3,hw3⟩:∃ w3,(w1.alloc (Obj.cells #[Value.slice none 0 0] 25)).alloc (Obj.cells #[Value.slice a n c] 23)=w3:=⟨_,rfl⟩;have s3:w3.heap.size=b0+2:=by rw [← hw3,World.size_alloc,World.size_alloc,hb0]
 have x0:w3.heap[b0]? = some (.cells #[Value.slice none 0 0] 25 (0,0)):=by rw [← hw3,hb0];exact (Below.heap_alloc _ _ _ (by simp)).trans (World.alloc_heap_new w1 _)
 have x1:w3.heap[b0+1]? = some (.cells #[Value.slice a n c] 23 (0,0)):=by rw [← hw3,hb0];have:=World.alloc_heap_new (w1.alloc (Obj.cells #[Value.slice none 0 0] 25)) (Obj.cells #[Value.slice a n c] 23);rwa [World.size_alloc] at this
 have B3:Below w.heap.size w w3:=by rw [← hw3];exact (hb1.alloc (by omega) _).alloc (by simp;omega) _
 have d3:D w3 X (.dslice fr) (.slice a n c):=hd0.mono (fun b _ hl=>B3.block b hl) (fun b hb _=>hb);rw [hw3];have hwb:w.heap.size≤b0:=by omega
 clear hb0 hw3;refine Ss (gf:=268) (lb := #[.pointer (some ⟨b0+1,0,none⟩)]) rfl (enters_of Tryz.func268 (by kernel_rfl) rfl) fun r hr1 hr2 hr3 hr4 hr5 hr6=>?_;obtain ⟨W1,hW1⟩:∃ W1,(w3.alloc (.deferred (some []))).alloc (.loop r)=W1:=⟨_,rfl⟩;have l1:W1.heap[b0+3]? = some (.loop r):=by rw [← hW1];have:=World.alloc_heap_new (w3.alloc (.deferred (some []))) (.loop r);rwa [World.size_alloc,s3] at this
 have l2:W1.heap[b0+2]? = some (.deferred (some [])):=by
  rw [← hW1];have:=World.alloc_heap_new w3 (.deferred (some []));rw [s3] at this
  exact (Below.heap_alloc _ _ _ (by simp;omega)).trans this
 have B4:Below w3.heap.size w3 W1:=by rw [← hW1];exact ((Below.refl _ w3).alloc (Nat.le_refl _) _).alloc (by simp) _
 have B5:Below w.heap.size w W1:=B3.trans (B4.mono B3.size);have d1:D W1 X (.dslice fr) (.slice a n c):=hd0.mono (fun b _ hl=>B5.block b hl) (fun b hb _=>hb);have J0:zz w X b0 (.slice a n c) fr ix r 0 W1 (.slice none 0 0) [] :=
  ⟨(B4.block _ (by omega)).trans x0,(B4.block _ (by omega)).trans x1,l2,l1,World.ownsRow_nil _ _ _ _,(fun g hg=>by cases hg),
   hd0.mono (fun b _ hl=>B5.block b hl) (fun b hb hl hb'=>by
    rcases hb' with h | h | h
    ·exact hb h
    ·omega
    ·cases h),(fun i hi=>by omega),B5⟩
 rw [hW1,s3];refine (NL fr N hN 0 ix er HS HI hfl (b0+3) (b0+1) (m-1) (.slice a n c) (fun k W=>∃ v hs,zz w X b0 (.slice a n c) fr ix r k W v hs) (fun k W W' ⟨v,hs,h⟩ hB=>⟨v,hs,h.below hB⟩) (fun k W ⟨v,hs,h⟩=>?_) W1 ⟨_,_,J0⟩).mono ?_
 ·refine ⟨by simp [World.cell?,h.fx],fun w' hw'=>gp w' (h.bl.trans (hw'.mono h.bl.size)),XX X b0 v,h.hX hX,h.fd,fun V W' hk hB hV=>?_⟩;have h':=h.below hB;obtain ⟨aV,nV,cV,rfl⟩:=Gt hV;refine O7 (r:=r) h'.lx hr1 hr2 hr3 hr4 hr5 hr6 rfl ?_;clear hr1 hr2 hr3 hr4 hr5 hr6 hW1 s3;have lt':=h'.lt;obtain ⟨W2,hW2⟩:∃ W2,W'.putObj (b0+3) (.loop { r with state:=.busy })=W2:=⟨_,rfl⟩;have z2:W2.heap.size=W'.heap.size:=by rw [← hW2,World.putObj_size]
  have o2:∀ b,b≠b0+3→W2.heap[b]? = W'.heap[b]? := fun b hb=>by rw [← hW2];exact World.putObj_heap_other hb
  have y2:W2.heap[b0+3]? = some (.loop { r with state:=.busy }):=by rw [← hW2];exact World.putObj_heap_same lt'
  have bX:Boxed W2 b0 25 v:=(o2 b0 (by omega)).trans h'.bx;have rw2:W2.ownsRow w.heap.size 23 1 v k hs:=by rw [← hW2];exact ownsRow_putObj h'.row _ h'.lx rfl
  have c2:=bX.cell;have HW2:Hid (W'.putObj (b0+3) (.loop { r with state:=.busy })=W2):=hW2;have hW2s:w.heap.size≤W2.heap.size:=by rw [z2];exact h'.bl.size
  clear hW2 z2 o2 y2
  gi_wp2
  rw [HW2.out];refine ⟨h'.lx,?_⟩;have hk1:k+1≤maxLen:=by simp only [maxLen];omega
  have ht:Tryz.prog.underlying 25=some (.slice 23):=by kernel_rfl
  gi_wp2_with (gi_at_builtin;refine Bx _ rfl _ _ 25 rfl w.heap.size 23 i0 (.slice none 0 0) 1 24 ht hi hz0 hz1 hz2 rfl (by decide) _ _ _ rfl (rw2.alloc _) ⟨W2.heap.size,0,none⟩ 1 1 [.slice aV nV cV] rfl rfl (cell_one_new _ _ _) (by simp [Value.oneCell']) (by decide) hk1 (by omega) (by simp;omega) ?_;intro v' w4 hown hgrow hnew;obtain ⟨g',cap',rfl⟩:=ownsRow_succ hown;have hv1:=(bX.alloc _).kept hgrow (bX.not_row (by decide) rw2);have hc1:=hv1.cell;have hf1:=hv1.frozen)
  obtain ⟨W7,hW7⟩:∃ W7,w4.setCell ⟨b0,0,none⟩ (Value.slice (some ⟨g',0,none⟩) (k+1) cap')=W7:=⟨_,rfl⟩;have G1:=grownBy_putObj' W' (b0+3) (.loop { r with state:=.busy });rw [HW2.out] at G1;have G2:=World.grownBy_alloc W2 (Obj.cells #[Value.slice aV nV cV] 23) none;have G4:=grownBy_setCell' w4 b0 (Value.slice (some ⟨g',0,none⟩) (k+1) cap');rw [hW7] at G4;have G5:=grownBy_putObj' W7 (b0+3) (.loop r);have q1:=G1.size;have q2:=G2.size;have q3:=hgrow.size;have q4:=G4.size;have q5:=G5.size;have hv2:Boxed W7 b0 25 (Value.slice (some ⟨g',0,none⟩) (k+1) cap'):=by rw [← hW7];exact hv1.set _
  have r7:W7.ownsRow w.heap.size 23 1 (Value.slice (some ⟨g',0,none⟩) (k+1) cap') (k+1) (hs++[.slice aV nV cV]):=hown.kept G4 (.inr (hv1.not_row (by decide) hown).symm);have y2:W2.heap[b0+3]? = some (.loop { r with state:=.busy }):=by rw [← HW2.out];exact World.putObj_heap_same lt'
  have nf:some (b0+3)≠v.ownBlock:=fun e=>by have:=h'.far _ e.symm;omega
  have y7:W7.heap[b0+3]? = some (.loop { r with state:=.busy }):=(G4.block _ (by omega) (by simp)).trans ((hgrow.block _ (by omega) nf).trans ((G2.block _ (by omega) (by simp)).trans y2));rw [hW7];refine ⟨y7,_,_,h'.next (V:=.slice aV nV cV) hwb (G5.os.trans (G4.os.trans (hgrow.os.trans (G2.os.trans G1.os)))) (G5.tape.trans (G4.tape.trans (hgrow.tape.trans (G2.tape.trans G1.tape)))) (G5.output.trans (G4.output.trans (hgrow.output.trans (G2.output.trans G1.output)))) (by omega)
   (fun b hb h1 h2 h3=>(G5.block b (by omega) (by simpa using h2)).trans ((G4.block b (by omega) (by simpa using h1)).trans ((hgrow.block b (by omega) (Ne.symm h3)).trans ((G2.block b (by omega) (by simp)).trans (G1.block b (by omega) (by simpa using h2))))))
   ((World.putObj_heap_other (by omega)).trans hv2) (World.putObj_heap_same (by omega)) (ownsRow_putObj r7 _ y7 rfl) (fun g hg=>(hnew g hg).imp id (fun h5=>by simp at h5;omega)) hV⟩
 ·rintro e W ⟨⟨v,rfl⟩,⟨u,hs,h⟩⟩;refine ⟨⟨v,rfl⟩,h.lx,fun o=>?_⟩;clear hr1 hr2 hr3 hr4 hr5 hr6 hW1 s3;obtain ⟨W5,hW5⟩:∃ W5,W.putObj (b0+2+1) o=W5:=⟨_,rfl⟩;rw [hW5];have o5:∀ b,b≠b0+3→W5.heap[b]? = W.heap[b]? := fun b hb=>by rw [← hW5];exact World.putObj_heap_other hb
  have hb6:Boxed W5 b0 25 u:=(o5 _ (by omega)).trans h.bx;have hc6:=hb6.cell;have hd6:W5.heap[b0+2]? = some (.deferred (some [])):=(o5 _ (by omega)).trans h.dx;have y5:W5.heap[b0+3]? = some o:=by rw [← hW5];exact World.putObj_heap_same h.lt
  have rw5:W5.ownsRow w.heap.size 23 1 u N hs:=by rw [← hW5];exact ownsRow_putObj h.row _ h.lx rfl
  have B5':Below w.heap.size w W5:=by rw [← hW5];exact h.bl.trans (belowK_b (w:=w) (Nat.le_refl _) W _ _ _ (by omega) h.lx rfl (by rfl))
  have rw6:=ownsRow_putObj rw5 (.deferred none) hd6 rfl;have B6:Below w.heap.size w (W5.putObj (b0+2) (.deferred none)):=B5'.trans (belowK_b (w:=w) (Nat.le_refl _) W5 _ _ _ (by omega) hd6 rfl (by rfl));have el:∀ i,i<N→D (W5.putObj (b0+2) (.deferred none)) X (.dslice (ix i)) (hs.getD i undef):=fun i hi=>(h.el i hi).mono (fun b hb hl=>by have h1:b≠b0+3:=fun e=>hb (.inr (.inl (by omega)));have h2:b≠b0+2:=fun e=>hb (.inr (.inl (by omega)));exact (World.putObj_heap_other h2).trans (o5 b h1)) (fun b hb _ hb'=>hb (.inl hb'))
  clear hW5 o5 y5
  gi_wp2
  refine ⟨by simp,.inl ⟨_,_,rfl,run_takeDeferred hd6,?_⟩⟩;refine ⟨.tuple #[u,.int .i64 0],by simp [results,Tryz.f107,go_sem],_,rfl,B6,.tup _ _ rfl fun i hi=>?_⟩;match i,hi with
  | 1,_=>exact .int _ _
  | 0,_ =>
   show D _ X (.dslice ((List.range' 0 N).map fun k=>[AV.dslice (ix k)])) u;rcases rw6.2 with ⟨rfl,rfl⟩ | ⟨g,cap,cur,rfl,hg,hb,hnc,hcm,hcs,htake⟩
   ·exact .dnil none 0 (by decide)
   ·have hl:hs.length=N:=by simpa using rw6.1
    have hlen:((List.range' 0 N).map fun k=>[AV.dslice (ix k)]).length=N:=by simp
    have hx:∀ i,i<N→((List.range' 0 N).map fun k=>[AV.dslice (ix k)]).getD i []=[AV.dslice (ix i)]:=fun i hi=>by simp [SW,hi]
    have hgx:¬ X g:=fun hx=>by have:=hX g hx;omega
    have:=D.dslice (w:=W5.putObj (b0+2) (.deferred none)) (X:=X) ((List.range' 0 N).map fun k=>[AV.dslice (ix k)]) g 0 cap 1 (fun i _=>hs.getD i undef) (by omega) hcm (by decide) hgx (fun i hi=>by rw [hx i (by omega)];rfl) (fun i j hi hj=>by
     obtain rfl:j=0:=by omega
     have:=rw6.cells (g:=g) rfl i (hs.getD i undef) (by rw [SW,SX (by omega)];rfl);have e:(⟨g,0,none⟩:Addr).add i=⟨g,0+(i*1+0),none⟩:=by simp only [Addr.add,Nat.mul_one,Nat.add_zero,Nat.zero_add];split<;>simp_all
     rwa [e] at this) (fun i j hi hj=>by
     obtain rfl:j=0:=by omega
     rw [hx i (by omega)];exact el i (by omega))
    rwa [hlen] at this
end Go.Proofs.YtpfoahpiaanlaaaGreatDoor
