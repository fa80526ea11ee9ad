/- The frame for walks: states without addresses, the rules by which code is walked, and contracts of library functions. -/
import Derived.Test.YtlhcekghjfjajaaGreatDoorFrbEquationsRefutes
import Derived.LoopN
import Derived.Shelf.Strconv.Itoa3
import Derived.Shelf.Strconv.ErrVarAll
import Derived.Shelf.Strings.OnBuilder
import Derived.Shelf.Strings.Split
import Derived.Shelf.Strings.SlTrimAscii
import Derived.Lib.SplitLaws
import Derived.Shelf.Sort.Plain
import Derived.Shelf.Slices.In.SortNone
import Derived.Lib.SliceRun
import Derived.Shelf.SlGeneric
import Derived.Shelf.Lays8
import Derived.Shelf.Strings.Builder1
import Derived.Shelf.Strings.Builder2
import Derived.Shelf.Strings.Trim
import Derived.Shelf.Small.Utf8
import Derived.Shelf.Small.Bits
import Derived.Shelf.Small.Strs
import Derived.Shelf.Utf8.RuneCount
import Derived.Shelf.Strconv.Atoi
import Derived.Shelf.Strconv.Itoa0
import Derived.Shelf.Strconv.Itoa1
import Derived.Shelf.LaysM
import Derived.Shelf.Strconv.Itoa2
import Derived.Shelf.Strconv.AtoiErrFast
import Derived.Shelf.Strconv.ParseIntEmpty
import Derived.Shelf.Strconv.AtoiFail
import Derived.Shelf.Strconv.Clone
import Derived.Shelf.Strconv.SyntaxError
import Derived.Shelf.LaysC
import Derived.Shelf.Strconv.ToError
import Derived.Shelf.Strconv.Lower
import Derived.Shelf.Strconv.ParseUint10
import Derived.Shelf.Strconv.ParseUint10Empty
import Derived.Shelf.Strconv.ParseUint10Any
import Derived.Shelf.Strconv.ParseInt10
import Derived.Shelf.Strconv.AtoiLong
import Derived.Shelf.Strconv.AtoiInnerAll
import Derived.Shelf.Strconv.RangeError
import Derived.Shelf.Strconv.ToErrorRange
import Derived.Shelf.Strconv.AtoiAll
import Derived.Shelf.Strings.Search1
import Derived.Shelf.Strings.Search2
import Derived.Shelf.Strings.Search3
import Derived.Shelf.Strings.Cut
import Derived.Shelf.Strings.Count
import Derived.Shelf.Strings.Shaped
import Derived.Shelf.Strings.SplitShaped
import Derived.Shelf.Unicode.Decode
import Derived.Shelf.Strings.Runes
import Derived.Shelf.Strings.RuneCount
import Derived.Shelf.Strings.IndexAny
import Derived.Shelf.Strings.AsciiSet
import Derived.Shelf.Strings.IndexAnyAll
import Derived.Shelf.Strings.Explode
import Derived.Shelf.Bits.Mul64
import Derived.Shelf.Unicode.DecodeSlow
import Derived.Shelf.Unicode.DecodeAny
import Derived.Shelf.Unicode.DecodeLast
import Derived.Shelf.Slices.CompactS
import Derived.Shelf.Slices.Cells
import Derived.Test.YtlhcekghjfjajaaGreatDoorProg
import Derived.KernelRfl
import Derived.Shelf.SlSortCmp.Insertion
import Derived.Shelf.SlSortCmp.NoneTotal
import Derived.Shelf.Spec.SearchS
import Derived.Shelf.SlLaysF0
import Derived.Ground.NamesProg
import Derived.Ground.Names2Prog
import Derived.Ground.SlsfProg
import Derived.Sort.AssemblyPlain
import Derived.Shelf.SlSortCmp.KitK
import Derived.Laws.Cover1
import Derived.Deep.LoopGhost
import Derived.Laws.RangeAny
import Derived.WalkMore
import Derived.Shelf.RegionOpenPlain
import Derived.Below
import Derived.Laws.Runes
import Derived.Shelf.Spec.BitsCarry
set_option linter.unusedSimpArgs false
set_option linter.unusedVariables false
namespace Go.Ab
open Go.RowKit
inductive sA where
 | v
 | e (v:AV)
 | s
 | c (fl:Bool) (v:AV)
 | b
 | l (v:AV)
 | m
 | ap
 | fz (k:Nat)
 | fm (k:Nat)
 | fo (k:Nat) (es:List (Key×AV))
 | en (i:Nat) (v:AV)
 | mk (N:Nat)
 | mm
 | ezr (k:Nat)
 | lt
 | mi (es:List (Key×AV))
 | er (t k:Nat) (e:TypeId) (sz:Nat)
 | w
 | we (v:AV)
 | cf (fl:Bool) (v:AV)
 | cw (fl:Bool) (pl:List (Nat×List (Nat×Nat))) (v:AV)
 | wk (t:Nat) (p:List (Nat×Nat))
 | rwT (t:Nat) (v:AV)
 | rwH (k:Nat) (ob:AO)
 | rl (n j:Nat) (v:AV)
 | rs (n j:Nat)
 | apx (zs:List (List AV))
 | xc (v:AV)
 | hM (ps ds:List (Nat×Nat)) (v:AV) (h1:List (Nat×AO))
 | hR (ps:List (Nat×Nat)) (d:Nat) (v:AV) (h1:List (Nat×AO))
def cI:List Prop→Prop
 | []=>True
 | [p]=>p
 | p::ps=>p∧cI ps
theorem cI.cons {p:Prop} {ps:List Prop}:cI (p::ps)↔p∧cI ps:=by
 cases ps with
 | nil=>simp [cI]
 | cons q qs=>rfl
theorem cI.mem {ps:List Prop} (h:cI ps):∀ p∈ps,p:=by
 induction ps with
 | nil=>intro p hp;cases hp
 | cons q qs ih =>
  obtain ⟨h1,h2⟩:=cI.cons.1 h;intro p hp;rcases List.mem_cons.1 hp with rfl | hp
  ·exact h1
  ·exact ih h2 p hp
theorem cI.append {ps qs:List Prop}:cI (ps++qs)↔cI ps∧cI qs:=by
 induction ps with
 | nil=>simp [cI]
 | cons p ps ih=>rw [List.cons_append,cI.cons,cI.cons,ih,and_assoc]
def asks:Op→Bool
 | .unOp _ _ _=>true
 | .binOp op _ _ _ _=>match op with | .add | .sub | .mul | .quo | .rem=>true | _=>false
 | .slice _ _ _ _ _=>true
 | .index _ _ _=>true
 | .indexAddr _ _ _=>true
 | .call _=>true
 | .convert _ _ _=>true
 | _=>false
def Hi:Op→Bool
 | .binOp .quo _ _ _ _=>true
 | .index _ _ _=>true
 | _=>false
def HU (op:Op) (p:Prop):List Prop:=if Hi op then [p] else []
def K6 (op:Op) (p:Prop):List Prop:=if asks op then [p] else []
section
variable {P:Program} {ops:Array Oper} {o:Oper} {s s':AS}
theorem uh {p q:Prop} {u v:AV} (hq:q) (h:some (q,u)=some (p,v)):p:=by cases h;exact hq
theorem DY {op:BinOp} {k:IntKind} {a b:Int} {p:Prop} {v:AV} (ha:(match op with | .add | .sub | .mul | .quo | .rem=>true | _=>false)=false) (h:wC op k a b=some (p,v)):p:=by cases op<;>simp only [wC,reduceCtorEq] at h ha<;>first | exact uh trivial h | cases h
theorem EV {op:BinOp} {a b:List UInt8} {p:Prop} {v:AV} (ha:(match op with | .add | .sub | .mul | .quo | .rem=>true | _=>false)=false) (h:Ce op a b=some (p,v)):p:=by cases op<;>simp only [Ce,reduceCtorEq] at h ha<;>first | exact uh trivial h | cases h
theorem EF {op:BinOp} {t:TypeId} {x y:Operand} {p:Prop} {v:AV} (ha:(match op with | .add | .sub | .mul | .quo | .rem=>true | _=>false)=false) (h:Bg P s op t x y=some (p,v)):p:=by
 unfold Bg at h;split at h
 ·split at h
  ·exact DY ha h
  ·cases h
 ·exact EV ha h
 ·split at h
  ·split at h<;>first | exact uh trivial h | cases h
  ·cases h
 ·split at h
  ·split at h<;>first | exact uh trivial h | cases h
  ·cases h
 ·split at h
  ·split at h<;>first | exact uh trivial h | cases h
  ·cases h
 ·cases h
theorem D9 {op:Op} {p:Prop} {v:AV} (ha:asks op=false) (h:iB P s op=some (p,v)):p:=by
 unfold iB at h;split at h;case h_9=>exact EF ha h
 all_goals first
  | exact uh trivial h
  | (cases ha;done)
  | ((repeat' split at h)<;>first | exact uh trivial h | (cases h;done))
theorem Au {op:Op} {p:Prop} {v:AV} (h:iB P s op=some (p,v)) (hp:cI (K6 op p)):p:=by
 unfold K6 at hp;cases ha:asks op with
 | true=>rw [ha] at hp;exact hp
 | false=>exact D9 ha h
theorem GB {op:Op} {p:Prop} {v:AV} (ha:Hi op=false) (h:Dr P s op=some (p,v)):p:=by
 unfold Dr at h;split at h
 ·split at h
  ·repeat' split at h
   all_goals first | exact uh trivial h | cases h
  ·split at h
   ·exact uh trivial h
   ·exact uh trivial h
   ·exact uh trivial h
   ·cases ha
   ·cases h
  ·cases h
 ·split at h
  ·exact uh trivial h
  ·cases h
 ·cases ha
 ·cases h
theorem xq {op:Op} {p:Prop} {v:AV} (h:Dr P s op=some (p,v)) (hp:cI (HU op p)):p:=by
 unfold HU at hp;cases ha:Hi op with
 | true=>rw [ha] at hp;exact hp
 | false=>exact GB ha h
def GX (s:AS) (dst:Option Tmp):Bool:=match dst with | none=>true | some t=>Nat.blt t s.n
theorem cP {dst:Option Tmp} (h:GX s dst=true) (v:AV):s.put dst v=some ((eD.put dst v).app s):=by
 cases dst with
 | none=>rfl
 | some t=>simp only [GX] at h;simp only [AS.put,h];rfl
def vA (fl:Bool) (s:AS) (ar:Array Operand) (caps:List AV):Option (List AV) :=
 if fl then (if AV.flL (s.args ar caps) then some (s.args ar caps) else none) else some ((s.args ar caps).map (AV.vw s.h))
def uM (P:Program) (s:AS) (op:Op) (fl:Bool) (v:AV):Option (List Prop) :=
 match op with
 | .call ⟨.value x,ar,_⟩=>match s.op x with
  | .fn f caps=>match vA fl s ar caps with
   | some args=>bif wD fl v then some [Go.Proofs.Enters P f,bY P f args [] fun r _=>r=v] else none
   | none=>none
  | _=>none
 | _=>none
def F6 (P:Program) (s:AS) (op:Op) (fl:Bool) (v:AV):Option (List Prop) :=
 match op with
 | .call ⟨.value x,ar,_⟩=>match s.op x with
  | .fn f caps=>match vA fl s ar caps with
   | some args=>some [Go.Proofs.Enters P f,bY P f args [] (fun r _=>r=v),wD fl v=true]
   | none=>none
  | _=>none
 | _=>none
def E9 (P:Program) (s:AS) (op:Op) (fl:Bool) (pl:List (Nat×List (Nat×Nat))) (v:AV):Option (List Prop) :=
 match op with
 | .call ⟨.value x,ar,_⟩=>match s.op x with
  | .fn f caps=>match vA fl s ar caps with
   | some args=>bif wD fl v then some [Go.Proofs.Enters P f,bY P f (sC pl args) [] fun r _=>r=v] else none
   | none=>none
  | _=>none
 | _=>none
def I9 (P:Program) (s:AS):Op→Option AV
 | .build t ps=>va P t (s.parts ps)
 | .buildSlice t len ps=>dj P t len (s.parts ps)
 | _=>none
def Gg (P:Program) (s:AS) (n j:Nat):Op→Option (Prop×AV)
 | .load t x=>tR P s t (s.op x) n j
 | _=>none
def BH (P:Program) (s:AS) (dst:Option Tmp) (n j:Nat):Op→Option (Prop×AS)
 | .store t x y=>match dst with | none=>zf P s t (s.op x) (s.op y) n j | some _=>none
 | _=>none
theorem yI {n j:Nat} {p:Prop} (hg:gd ops s o=some true) (h:BH P s o.dst n j o.op=some (p,s')) (hp:p):mA P ops o s (· = s'):=by
 unfold BH at h;split at h
 ·rename_i t x y hop;split at h
  ·rename_i hd;exact DU hg hop hd h hp
  ·cases h
 ·cases h
def IY (P:Program) (s:AS):Op→Option (List Prop×AV)
 | .lookup t m x false=>match tL P s t (s.op m) (s.op x) with
  | some v=>some ([],v)
  | none=>match wv P t (s.op m) (s.op x) with
   | some (p,v)=>some ([p],v)
   | none=>none
 | .lookup t m x true=>match qi P s t (s.op m) (s.op x) with
  | some v=>some ([],v)
  | none=>none
 | _=>none
def xa (b:Bool):Option Bool→Bool
 | some c=>c==b
 | none=>false
theorem cr {b:Bool} {x:Option Bool} (h:xa b x=true):x=some b:=by
 cases x with
 | none=>cases h
 | some c=>simp only [xa,beq_iff_eq] at h;rw [h]
def zI (P:Program) (ops:Array Oper) (s:AS) (o:Oper) (d:sA):Option (List Prop×AV) :=
 bif GX s o.dst then (match d with
 | .s=>bif xa false (gd ops s o) then some ([],.tup []) else none
 | .v=>bif xa true (gd ops s o) then (match iB P s o.op with | some (p,v)=>some (K6 o.op p,v) | none=>none) else none
 | .e v'=>bif xa true (gd ops s o) then (match iB P s o.op with | some (p,v)=>some (K6 o.op p++[v=v'],v') | none=>none) else none
 | .c fl v=>bif xa true (gd ops s o) then (match uM P s o.op fl v with | some ps=>some (ps,v) | none=>none) else none
 | .cf fl v=>bif xa true (gd ops s o) then (match F6 P s o.op fl v with | some ps=>some (ps,v) | none=>none) else none
 | .xc v=>bif xa true (gd ops s o) then (match Gj P s o.op v with | some ps=>some (ps,v) | none=>none) else none
 | .b=>bif xa true (gd ops s o) then (match I9 P s o.op with | some v=>some ([],v) | none=>none) else none
 | .l v'=>bif xa true (gd ops s o) then (match IY P s o.op with | some (ps,v)=>some (ps++[v=v'],v') | none=>none) else none
 | .rl n j v'=>bif xa true (gd ops s o) then (match Gg P s n j o.op with | some (p,v)=>some ([p,v=v'],v') | none=>none) else none
 | .w=>bif xa true (gd ops s o) then (match Dr P s o.op with | some (p,v)=>some (HU o.op p,v) | none=>none) else none
 | .we v'=>bif xa true (gd ops s o) then (match Dr P s o.op with | some (p,v)=>some (HU o.op p++[v=v'],v') | none=>none) else none
 | .cw fl pl v=>bif xa true (gd ops s o) then (match E9 P s o.op fl pl v with | some ps=>some (ps,v) | none=>none) else none
 | _=>none) else none
theorem bO {α:Type} {b:Bool} {x:Option α} {y:α} (h:(bif b then x else none)=some y):b=true∧x=some y:=by
 cases b with
 | true=>exact ⟨rfl,h⟩
 | false=>cases h
theorem tV {d:sA} {ps:List Prop} {v:AV} (h:zI P ops s o d=some (ps,v)) (hp:cI ps):Loc P ops o s (.put o.dst v):=by
 unfold zI at h;obtain ⟨hd,h⟩:=bO h;cases d;case s =>
  obtain ⟨hg,h⟩:=bO h;cases h;exact FF (cr hg) (cP hd _)
 case v =>
  obtain ⟨hg,h⟩:=bO h;split at h
  ·rename_i p v' hv;cases h;exact DA (cr hg) hv (Au hv hp) (cP hd _)
  ·cases h
 case e v0 =>
  obtain ⟨hg,h⟩:=bO h;split at h
  ·rename_i p v' hv;cases h;obtain ⟨h1,h2⟩:=cI.append.1 hp;have h3:v'=v:=h2;subst h3;exact DA (cr hg) hv (Au hv h1) (cP hd _)
  ·cases h
 case c fl v0 =>
  obtain ⟨hg,h⟩:=bO h;split at h
  ·rename_i ps' hs;simp only [LK,Prod.mk.injEq] at h;obtain ⟨h1,h2⟩:=h;subst h1;subst h2;unfold uM at hs;split at hs
   ·rename_i x ar tys hop;split at hs
    ·rename_i f caps hx;split at hs
     ·rename_i args ha;obtain ⟨hr,hs⟩:=bO hs;cases hs;exact wB hp.1 (cr hg) hop hx _ ha hp.2 hr (cP hd _)
     ·cases hs
    ·cases hs
   ·cases hs
  ·cases h
 case cf fl v0 =>
  obtain ⟨hg,h⟩:=bO h;split at h
  ·rename_i ps' hs;simp only [LK,Prod.mk.injEq] at h;obtain ⟨h1,h2⟩:=h;subst h1;subst h2;unfold F6 at hs;split at hs
   ·rename_i x ar tys hop;split at hs
    ·rename_i f caps hx;split at hs
     ·rename_i args ha;cases hs;exact wB hp.1 (cr hg) hop hx _ ha hp.2.1 hp.2.2 (cP hd _)
     ·cases hs
    ·cases hs
   ·cases hs
  ·cases h
 case xc v0 =>
  obtain ⟨hg,h⟩:=bO h;split at h
  ·rename_i ps' hs;simp only [LK,Prod.mk.injEq] at h;obtain ⟨h1,h2⟩:=h;subst h1;subst h2;unfold Gj at hs;split at hs
   ·rename_i x ar tys hop;split at hs
    ·rename_i f cs hx;split at hs
     ·rename_i vs us hv hu;cases hs;exact JK (cr hg) hop hx hv hu hp (cP hd _)
     ·cases hs
    ·cases hs
   ·cases hs
  ·cases h
 case rl n j v0 =>
  obtain ⟨hg,h⟩:=bO h;split at h
  ·rename_i p v' hv;cases h;obtain ⟨h1,h2⟩:=hp;have h3:v'=v:=h2;subst h3;unfold Gg at hv;split at hv
   ·rename_i t x hop;exact Ex (cr hg) hop hv h1 (cP hd _)
   ·cases hv
  ·cases h
 case w =>
  obtain ⟨hg,h⟩:=bO h;split at h
  ·rename_i p v' hv;cases h;exact Gn (cr hg) hv (xq hv hp) (cP hd _)
  ·cases h
 case we v0 =>
  obtain ⟨hg,h⟩:=bO h;split at h
  ·rename_i p v' hv;cases h;obtain ⟨h1,h2⟩:=cI.append.1 hp;have h3:v'=v:=h2;subst h3;exact Gn (cr hg) hv (xq hv h1) (cP hd _)
  ·cases h
 case cw fl pl v0 =>
  obtain ⟨hg,h⟩:=bO h;split at h
  ·rename_i ps' hs;simp only [LK,Prod.mk.injEq] at h;obtain ⟨h1,h2⟩:=h;subst h1;subst h2;unfold E9 at hs;split at hs
   ·rename_i x ar tys hop;split at hs
    ·rename_i f caps hx;split at hs
     ·rename_i args ha;obtain ⟨hr,hs⟩:=bO hs;cases hs;exact wB hp.1 (cr hg) hop hx _ ha hp.2.wk hr (cP hd _)
     ·cases hs
    ·cases hs
   ·cases hs
  ·cases h
 case b =>
  obtain ⟨hg,h⟩:=bO h;split at h
  ·rename_i v' hs;cases h;unfold I9 at hs;split at hs
   ·rename_i t parts hop;exact D5 (cr hg) hop hs (cP hd _)
   ·rename_i t len parts hop;exact wR (cr hg) hop hs (cP hd _)
   ·cases hs
  ·cases h
 case l v0 =>
  obtain ⟨hg,h⟩:=bO h;split at h
  ·rename_i qs v' hs;cases h;unfold IY at hs;split at hs
   ·rename_i t m x hop;obtain ⟨hq,h3⟩:=cI.append.1 hp;have h3:v'=v:=h3;subst h3;split at hs
    ·rename_i h4;cases hs;exact FO (cr hg) hop h4 (cP hd _)
    ·split at hs
     ·rename_i h5;cases hs;exact Ec (cr hg) hop h5 hq (cP hd _)
     ·cases hs
   ·rename_i t m x hop;obtain ⟨hq,h3⟩:=cI.append.1 hp;have h3:v'=v:=h3;subst h3;split at hs
    ·rename_i h4;cases hs;exact EO (cr hg) hop h4 (cP hd _)
    ·cases hs
   ·cases hs
  ·cases h
 all_goals cases h
def Hb (P:Program) (ops:Array Oper) (s:AS) (o:Oper) (d:sA):Option (List Prop×eD) :=
 match d with
 | .m=>bif xa true (gd ops s o) then (match Fq P s o.dst o.op with | some e=>some ([],e) | none=>none) else none
 | .apx zs=>bif xa true (gd ops s o) then Gr P s o.dst zs o.op else none
 | .mm=>bif xa true (gd ops s o) then Jh P s o.dst o.op else none
 | .mi es=>bif xa true (gd ops s o) then Fw P s o.dst es o.op else none
 | .lt=>bif xa true (gd ops s o) then JZ P s o.dst o.op else none
 | d=>match zI P ops s o d with
  | some (p,v)=>some (p,.put o.dst v)
  | none=>none
theorem z8 {d:sA} {ps:List Prop} {e:eD} (h:Hb P ops s o d=some (ps,e)) (hp:cI ps):Loc P ops o s e:=by
 have hE:(match zI P ops s o d with | some (p,v)=>some (p,eD.put o.dst v) | none=>none)=some (ps,e)→Loc P ops o s e:=fun h=>by
  split at h
  ·rename_i p v hv;cases h;exact tV hv hp
  ·cases h
 unfold Hb at h;cases d;case m =>
  obtain ⟨hg,h⟩:=bO h;split at h
  ·rename_i e' he;cases h;exact zv (cr hg) he
  ·cases h
 case apx=>obtain ⟨hg,h⟩:=bO h;exact zQ (cr hg) h hp.mem
 case mm=>obtain ⟨hg,h⟩:=bO h;exact BN (cr hg) h
 case mi=>obtain ⟨hg,h⟩:=bO h;exact Aq (cr hg) h hp.mem
 case lt=>obtain ⟨hg,h⟩:=bO h;exact Cm (cr hg) h
 all_goals exact hE h
def BU (P:Program) (ops:Array Oper):List Oper→List sA→AS→Option (List Prop×List eD)
 | [],[],_=>some ([],[])
 | o::os,d::ds,s=>match Hb P ops s o d with
  | some (p,e)=>match BU P ops os ds (e.app s) with
   | some (ps,es)=>some (p++ps,e::es)
   | none=>none
  | none=>none
 | _,_,_=>none
def apps:List eD→AS→AS
 | [],s=>s
 | e::es,s=>apps es (e.app s)
theorem wq:∀ {os:List Oper} {ds:List sA} {s:AS} {ps:List Prop} {es:List eD},BU P ops os ds s=some (ps,es)→cI ps→xY P ops os es s (apps es s)
 | [],[],s,ps,es,h,hp=>by simp only [BU] at h;cases h;rfl
 | [],_::_,s,ps,es,h,hp=>by simp only [BU] at h;cases h
 | _::_,[],s,ps,es,h,hp=>by simp only [BU] at h;cases h
 | o::os,d::ds,s,ps,es,h,hp=>by
  simp only [BU] at h;split at h
  ·rename_i p e hv;split at h
   ·rename_i ps' es' hr;cases h;obtain ⟨h1,h2⟩:=cI.append.1 hp;exact ⟨z8 hv h1,wq hr h2⟩
   ·cases h
  ·cases h
theorem Loc.op {e:eD} (h:Loc P ops o s e) (hf:e.fr=[]) (hx:e.ex=[]):mA P ops o s (fun s''=>kL (e.app s) s'') :=
 h s ⟨rfl,fun _ _=>rfl,fun _ _ _ _ _=>rfl⟩ (fun k hk=>by rw [hf] at hk;cases hk) (fun p hp=>by rw [hx] at hp;cases hp)
def FG (P:Program) (s:AS) (dst:Option Tmp):Op→Option AS
 | .box t x=>match dst with | some k=>yA s t (s.op x) k | none=>none
 | .alloc t=>match dst,zeroOf P t with | some k,some z=>yA s t (AV.of z) k | _,_=>none
 | .store t x y=>match dst with | none=>ta P s t (s.op x) (s.op y) | some _=>none
 | .makeMap t none=>match dst with | some k=>pn P s t k | none=>none
 | .mapUpdate t m x y=>match dst with | none=>o7 P s t (s.op m) (s.op x) (s.op y) | some _=>none
 | .insert t m x y=>match dst with | none=>o7 P s t (s.op m) (s.op x) (s.op y) | some _=>none
 | .range t m=>match dst with
  | some k=>match Ca P s t (s.op m) k with
   | some s'=>some s'
   | none=>yG P s t (s.op m) k
  | none=>none
 | .next it false=>match BB s (s.op it) with
  | some v=>s.put dst v
  | none=>none
 | op=>match tq P s op with | some v=>s.put dst v | none=>none
theorem zM (hg:gd ops s o=some true) (h:FG P s o.dst o.op=some s'):mA P ops o s (· = s'):=by
 unfold FG at h;split at h
 ·rename_i t x hop;split at h
  ·rename_i k hd;exact FE hg hop hd h
  ·cases h
 ·rename_i t hop;split at h
  ·rename_i k z hd hz;exact zD hg hop hd hz h
  ·cases h
 ·rename_i t x y hop;split at h
  ·rename_i hd;exact zX hg hop hd h
  ·cases h
 ·rename_i t hop;split at h
  ·rename_i k hd;exact vc hg hop hd h
  ·cases h
 ·rename_i t m x y hop;split at h
  ·rename_i hd;exact Hw hg hop hd h
  ·cases h
 ·rename_i t m x y hop;split at h
  ·rename_i hd;exact HD hg hop hd h
  ·cases h
 ·rename_i t m hop;split at h
  ·rename_i k hd;split at h
   ·rename_i h2;cases h;exact FB hg hop hd h2
   ·exact EP hg hop hd h
  ·cases h
 ·rename_i it hop;split at h
  ·rename_i v hv;exact G7 hg hop hv h
  ·cases h
 ·split at h
  ·exact z7 hg (by assumption) h
  ·cases h
def yT (P:Program) (s:AS) (dst:Option Tmp) (ps:List (Nat×Nat)) (d:Nat) (v:AV) (h1:List (Nat×AO)) (f:FuncId) (args0:List AV):Option (List Prop×AS) :=
 bif oU ps&&(ps.all fun p=>Nat.ble 1000 p.2&&(Nat.blt p.2 1000000&&Nat.blt p.1 1000000))&&(rk ps d).isNone&&Nat.blt d 1000&&(s.noR||(ps.isEmpty && !(lk .gone h1 0).isR)) then (match AS.put ⟨s.n,nH d s.t,lY ps d h1 s.h⟩ dst (AV.ren ((0,d)::swp ps) v) with
  | some s'=>some ([Go.Proofs.Enters P f,bY P f (args0.map (AV.ren ps)) (hand ps s.h) fun r h'=>r=v∧h'=h1],s')
  | none=>none) else none
def FV (P:Program) (s:AS) (dst:Option Tmp) (ps:List (Nat×Nat)) (d:Nat) (v:AV) (h1:List (Nat×AO)):Op→Option (List Prop×AS)
 | .call ⟨.value x,ar,_⟩=>match s.op x with
  | .fn f caps=>yT P s dst ps d v h1 f (s.args ar caps)
  | .bm f k off=>yT P s dst ps d v h1 f (AV.hptr k off::s.args ar [])
  | _=>none
 | _=>none
theorem Ar {ps:List (Nat×Nat)} {d:Nat} {v:AV} {h1:List (Nat×AO)} {qs:List Prop} (hg:gd ops s o=some true) (h:FV P s o.dst ps d v h1 o.op=some (qs,s')) (hp:cI qs):mA P ops o s (· = s'):=by
 have key:∀ {f:FuncId} {args0:List AV} {x:Operand} {ar:Array Operand} {tys:Array TypeId},o.op = .call ⟨.value x,ar,tys⟩→(Go.Proofs.Enters P f→∀ (c:Cx P) a w β κ,Rel c s a w β κ→∃ vs:Array Value,(execOp a.eval o).run P w = .ok (.enter f vs) w∧vs.size=args0.length∧∀ i,i<args0.length→G w (c.XX s.h β) β κ (args0.getD i .any) (vs.toList.getD i undef))→yT P s o.dst ps d v h1 f args0=some (qs,s')→mA P ops o s (· = s'):=by
  intro f args0 x ar tys hop hx h;unfold yT at h;obtain ⟨hc0,h2⟩:=bO h;rw [LB] at hc0;obtain ⟨hc,hor⟩:=hc0;have hor:s.noR=true∨(ps=[]∧∀ v2 h',(v2=v∧h'=h1)→(lk .gone h' 0).isR=false):=by rw [Bool.or_eq_true,LB] at hor;refine hor.imp id fun h=>⟨by simpa using h.1,fun v2 h' e => ?_⟩;rw [e.2];simpa using h.2
  split at h2
  ·rename_i s2 hs;simp only [LK,Prod.mk.injEq] at h2;obtain ⟨h3,h4⟩:=h2;subst h3;subst h4;exact G3 hp.1 hg hop (hx hp.1) ps d hc hor rfl rfl hp.2 fun r h' hr=>by obtain ⟨rfl,rfl⟩:=hr;exact ⟨_,hs,rfl⟩
  ·cases h2
 unfold FV at h;split at h
 ·rename_i x ar tys hop;split at h
  ·rename_i f caps hx;exact key hop (fun he=>CJ he hop hx) h
  ·rename_i f k off hx;exact key hop (fun he=>DR he hop hx) h
  ·cases h
 ·cases h
def yO (P:Program) (s:AS) (dst:Option Tmp) (ps ds:List (Nat×Nat)) (v:AV) (h1:List (Nat×AO)) (f:FuncId) (args0:List AV):Option (List Prop×AS) :=
 bif (oU ps&&(ps.all fun p=>Nat.ble 1000 p.2&&(Nat.blt p.2 1000000&&Nat.blt p.1 1000000))&&oU ds&&ds.all fun p=>(rk ps p.2).isNone&&(Nat.blt p.1 1000&&Nat.blt p.2 1000))&&(s.noR||(ps.isEmpty&&h1.all fun p => !p.2.isR)) then (match AS.put ⟨s.n,Eo ds s.t,lr ps ds h1 s.h⟩ dst (AV.ren (ds++swp ps) v) with
  | some s'=>some ([Go.Proofs.Enters P f,bY P f (args0.map (AV.ren ps)) (hand ps s.h) fun r h'=>r=v∧h'=h1],s')
  | none=>none) else none
def B0 (P:Program) (s:AS) (dst:Option Tmp) (ps ds:List (Nat×Nat)) (v:AV) (h1:List (Nat×AO)):Op→Option (List Prop×AS)
 | .call ⟨.value x,ar,_⟩=>match s.op x with
  | .fn f caps=>yO P s dst ps ds v h1 f (s.args ar caps)
  | .bm f k off=>yO P s dst ps ds v h1 f (AV.hptr k off::s.args ar [])
  | _=>none
 | _=>none
theorem yF {ps ds:List (Nat×Nat)} {v:AV} {h1:List (Nat×AO)} {qs:List Prop} (hg:gd ops s o=some true) (h:B0 P s o.dst ps ds v h1 o.op=some (qs,s')) (hp:cI qs):mA P ops o s (· = s'):=by
 have key:∀ {f:FuncId} {args0:List AV} {x:Operand} {ar:Array Operand} {tys:Array TypeId},o.op = .call ⟨.value x,ar,tys⟩→(Go.Proofs.Enters P f→∀ (c:Cx P) a w β κ,Rel c s a w β κ→∃ vs:Array Value,(execOp a.eval o).run P w = .ok (.enter f vs) w∧vs.size=args0.length∧∀ i,i<args0.length→G w (c.XX s.h β) β κ (args0.getD i .any) (vs.toList.getD i undef))→yO P s o.dst ps ds v h1 f args0=some (qs,s')→mA P ops o s (· = s'):=by
  intro f args0 x ar tys hop hx h;unfold yO at h;obtain ⟨hc0,h2⟩:=bO h;rw [LB] at hc0;obtain ⟨hc,hor⟩:=hc0;have hor:s.noR=true∨(ps=[]∧∀ v2 h',(v2=v∧h'=h1)→∀ j,(lk .gone h' j).isR=false):=by rw [Bool.or_eq_true,LB] at hor;refine hor.imp id fun h=>⟨by simpa using h.1,fun v2 h' e j => ?_⟩;rw [e.2];have:=uq (p:=fun o:AO => !o.isR) (d:=AO.gone) rfl h.2 j;simpa using this
  split at h2
  ·rename_i s2 hs;simp only [LK,Prod.mk.injEq] at h2;obtain ⟨h3,h4⟩:=h2;subst h3;subst h4;exact Gu hp.1 hg hop (hx hp.1) ps ds hc hor rfl rfl hp.2 fun r h' hr=>by obtain ⟨rfl,rfl⟩:=hr;exact ⟨_,hs,rfl⟩
  ·cases h2
 unfold B0 at h;split at h
 ·rename_i x ar tys hop;split at h
  ·rename_i f caps hx;exact key hop (fun he=>CJ he hop hx) h
  ·rename_i f k off hx;exact key hop (fun he=>DR he hop hx) h
  ·cases h
 ·cases h
def rowAt (s:AS):AV→Option (Nat×List (List AV))
 | .rslice k=>match lk .gone s.h k with | .row _ _ xs=>some (k,xs) | _=>none
 | _=>none
def KX:AV→Option (List (List AV))
 | .dslice ys=>some ys
 | .eslice=>some []
 | _=>none
def K3 (s:AS) (x:AV):Option TypeId:=match x with | .rslice k=>(match lk .gone s.h k with | .row e _ _=>some e | _=>none) | _=>none
def KC (s:AS) (x:AV):Option Nat:=match x with | .rslice k=>(match lk .gone s.h k with | .row _ e _=>some e | _=>none) | _=>none
def FX (P:Program) (s:AS) (dst:Option Tmp):Op→Option (List Prop×AS)
 | .call ⟨.builtin .append,ar,tys⟩=>match ar.toList,tys.toList,dst with
  | [x,y],[t,t'],some k'=>if t=t' then (match iZ P t,rowAt s (s.op x),KX (s.op y) with
   | some (e,sz,by_),some (k,xs),some ys=>if K3 s (s.op x)=some e∧KC s (s.op x)=some sz then (match s.grow k k' e sz (xs++ys) with
    | some s'=>some ([EL sz ys,(xs.length+ys.length)*by_≤140737488355328,xs.length+ys.length≤9223372036854775807],s')
    | none=>none) else none
   | _,_,_=>none) else none
  | _,_,_=>none
 | .buildSlice t len ps=>match dst,iZ P t,dj P t len (s.parts ps) with
  | some k',some (e,sz,_),some (.dslice xs)=>(match s.grow k' k' e sz xs with | some s'=>some ([],s') | none=>none)
  | _,_,_=>none
 | _=>none
theorem Bj {ps:List Prop} (hg:gd ops s o=some true) (h:FX P s o.dst o.op=some (ps,s')) (hp:cI ps):mA P ops o s (· = s'):=by
 unfold FX at h;split at h
 ·rename_i ar tys hop;split at h
  ·rename_i x y t t' k' har hty hd;split at h;case isFalse=>cases h
   rename_i ht;subst ht;have e1:ar = #[x,y]:=by rw [← Array.toList_inj];exact har
   have e2:tys = #[t,t]:=by rw [← Array.toList_inj];exact hty
   subst e1;subst e2;split at h
   ·rename_i e sz by_ k xs ys he hx hy;split at h;case isFalse=>cases h
    rename_i hm;split at h
    ·rename_i s2 hs;cases h;have hx':s.op x = .rslice k∧lk .gone s.h k = .row e sz xs:=by
      unfold rowAt at hx;split at hx
      ·rename_i k2 hk2;split at hx
       ·rename_i e3 sz3 xs3 h3;cases hx;simp only [hk2,K3,KC,h3,LK] at hm;obtain ⟨e4,e5⟩:=hm;subst e4;subst e5;exact ⟨hk2,h3⟩
       ·cases hx
      ·cases hx
     have hy':s.op y = .dslice ys∨(s.op y = .eslice∧ys=[]):=by
      unfold KX at hy;split at hy
      ·cases hy;exact .inl (by assumption)
      ·cases hy;exact .inr ⟨by assumption,rfl⟩
      ·cases hy
     exact tu hg hop hd he (.inr hx') hy' hp.1 hp.2.1 hp.2.2 hs
    ·cases h
   ·cases h
  ·cases h
 ·rename_i t len ps hop;split at h
  ·rename_i k' e2 sz by_ xs hd he hv;split at h
   ·rename_i s2 hs;cases h;exact tK hg hop hd he hv (.inl rfl) hs
   ·cases h
  ·cases h
 ·cases h
def GD (s:AS) (dst:Option Tmp) (i:Nat) (v':AV):Op→Option (List Prop×AS)
 | .entry it=>match s.op it with
  | .hptr k 0=>match lk .gone s.h k with
   | .iter es sn=>match s.put dst v' with
    | some s'=>some ([sn.getLast? = some i,AV.tup [(es.getD i default).1.av,(es.getD i default).2]=v'],s')
    | none=>none
   | _=>none
  | _=>none
 | _=>none
theorem Ax {i:Nat} {v':AV} {ps:List Prop} (hg:gd ops s o=some true) (h:GD s o.dst i v' o.op=some (ps,s')) (hp:cI ps):mA P ops o s (· = s'):=by
 unfold GD at h;split at h
 ·rename_i it hop;split at h
  ·rename_i k hi;split at h
   ·rename_i es sn hk;split at h
    ·rename_i s2 hs;cases h;obtain ⟨h1,h2⟩:=hp;have h2:AV.tup [(es.getD i default).1.av,(es.getD i default).2]=v':=h2;subst h2;exact FZ hg hop hi hk h1 hs
    ·cases h
   ·cases h
  ·cases h
 ·cases h
theorem KL {rest:List Oper} {Q:Exit→AS→Prop} {k:Nat} (h:s.ezR k=some s') (ht:ic P ops rest Q s'):ic P ops rest Q s:=fun c a w β κ r=>ht c a w β κ (r.ezR h)
theorem Lg {rest:List Oper} {Q:Exit→AS→Prop} {k:Nat} {es':List (Key×AV)} {p:Prop} (h:s.frzO k es'=some (p,s')) (hp:p) (ht:ic P ops rest Q s'):ic P ops rest Q s:=fun c a w β κ r=>ht c a w β κ (r.frzO h hp)
theorem ic.same {rest:List Oper} {Q:Exit→AS→Prop} (h:ic P ops rest Q s) (e:kL s' s):ic P ops rest Q s':=fun c a w β κ r=>h c a w β κ (r.same e)
theorem Li {rest:List Oper} {Q:Exit→AS→Prop} {t k:Nat} {e:TypeId} {sz:Nat} (h:s.erow t k e sz=some s') (ht:ic P ops rest Q s'):ic P ops rest Q s:=fun c a w β κ r=>by obtain ⟨κ',r'⟩:=r.erow h;exact ht c a w β κ' r'
theorem Lb {rest:List Oper} {Q:Exit→AS→Prop} {k:Nat} {p:Prop} (h:s.frzM k=some (p,s')) (hp:p) (ht:ic P ops rest Q s'):ic P ops rest Q s:=fun c a w β κ r=>ht c a w β κ (r.frzM h hp)
theorem zq {t:Nat} {v:AV} (h:lk .any s.t t=v):kL ⟨s.n,ins t v s.t,s.h⟩ s:=⟨rfl,fun i=>by
 show lk .any s.t i=lk .any (ins t v s.t) i;rw [be];split
 ·rename_i e;rw [e];exact h
 ·rfl,fun _=>rfl⟩
theorem Fo {k:Nat} {ob:AO} (h:lk .gone s.h k=ob):kL ⟨s.n,s.t,ins k ob s.h⟩ s:=⟨rfl,fun _=>rfl,fun i=>by
 show lk .gone s.h i=lk .gone (ins k ob s.h) i;rw [be];split
 ·rename_i e;rw [e];exact h
 ·rfl⟩
theorem Kx {rest:List Oper} {Q:Exit→AS→Prop} {t:Nat} {v:AV} (h:lk .any s.t t=v) (ht:ic P ops rest Q ⟨s.n,ins t v s.t,s.h⟩):ic P ops rest Q s :=
 fun c a w β κ r=>ht c a w β κ (r.same (kL.symm' (zq h)))
theorem KR {rest:List Oper} {Q:Exit→AS→Prop} {k:Nat} {ob:AO} (h:lk .gone s.h k=ob) (ht:ic P ops rest Q ⟨s.n,s.t,ins k ob s.h⟩):ic P ops rest Q s :=
 fun c a w β κ r=>ht c a w β κ (r.same (kL.symm' (Fo h)))
theorem Lj {rest:List Oper} {Q:Exit→AS→Prop} (t:Nat) (p:List (Nat×Nat)) (ht:ic P ops rest Q (s.wkT t p)):ic P ops rest Q s:=fun c a w β κ r=>by exact ht c a w β κ (r.wkT t p)
def KS (s:AS):sA→Option (List Prop×AS)
 | .fz k=>(s.frz k).map fun s'=>([],s')
 | .ezr k=>(s.ezR k).map fun s'=>([],s')
 | .fm k=>(s.frzM k).map fun r=>([r.1],r.2)
 | .fo k es=>(s.frzO k es).map fun r=>([r.1],r.2)
 | .er t k e sz=>(s.erow t k e sz).map fun s'=>([],s')
 | .wk t p=>some ([],s.wkT t p)
 | .rwT t v=>some ([lk .any s.t t=v],⟨s.n,ins t v s.t,s.h⟩)
 | .rwH k ob=>some ([lk .gone s.h k=ob],⟨s.n,s.t,ins k ob s.h⟩)
 | _=>none
theorem Ij {α:Type} {x:Option α} {r:List Prop×α} (h:(x.map fun s'=>(([]:List Prop),s'))=some r):x=some r.2:=by
 cases x with
 | none=>cases h
 | some a=>cases h;rfl
theorem Kb {x:Option (Prop×AS)} {r:List Prop×AS} (h:(x.map fun r=>([r.1],r.2))=some r) (hp:cI r.1):∃ p,x=some (p,r.2)∧p:=by
 cases x with
 | none=>cases h
 | some a=>cases h;exact ⟨a.1,rfl,hp⟩
theorem CF {d:sA} {r:List Prop×AS} (h:KS s d=some r) (hp:cI r.1) {rest:List Oper} {Q:Exit→AS→Prop} (ht:ic P ops rest Q r.2):ic P ops rest Q s:=by
 cases d;case fz k=>exact KK k (Ij h) ht
 case ezr k=>exact KL (Ij h) ht
 case fm k=>obtain ⟨p,e,hp⟩:=Kb h hp;exact Lb e hp ht
 case fo k es=>obtain ⟨p,e,hp⟩:=Kb h hp;exact Lg e hp ht
 case er=>exact Li (Ij h) ht
 case wk t p=>cases h;exact Lj t p ht
 case rwT t v=>cases h;exact Kx hp ht
 case rwH k ob=>cases h;exact KR hp ht
 all_goals cases h
def Lh (P:Program) (ops:Array Oper) (s:AS) (o:Oper) (d:sA):Option (List Prop×AS) :=
 bif xa true (gd ops s o) then (match d with
 | .m=>(FG P s o.dst o.op).map fun s'=>([],s')
 | .rs n j=>(BH P s o.dst n j o.op).map fun r=>([r.1],r.2)
 | .ap=>FX P s o.dst o.op
 | .mk N=>Gb P s o.dst N o.op
 | .en i v=>GD s o.dst i v o.op
 | .hR qs d v h1=>FV P s o.dst qs d v h1 o.op
 | .hM qs qd v h1=>B0 P s o.dst qs qd v h1 o.op
 | _=>none) else none
theorem Et {d:sA} {r:List Prop×AS} (h:Lh P ops s o d=some r) (hp:cI r.1):mA P ops o s (· = r.2):=by
 unfold Lh at h;obtain ⟨hg,h⟩:=bO h;have hg:=cr hg;cases d;case m=>exact zM hg (Ij h)
 case rs n j=>obtain ⟨p,e,hp⟩:=Kb h hp;exact yI hg e hp
 case ap=>exact Bj hg h hp
 case mk N=>exact Bc hg h (cI.mem hp)
 case en i v=>exact Ax hg h hp
 case hR qs d v h1=>exact Ar hg h hp
 case hM qs qd v h1=>exact yF hg h hp
 all_goals cases h
def Jf (P:Program) (ops:Array Oper) (s:AS) (os:List Oper) (d:sA):Option (List Prop×AS×List Oper) :=
 match d,os with
 | _,_=>none
theorem Cl {d:sA} {os:List Oper} {r:List Prop×AS×List Oper} (h:Jf P ops s os d=some r) (hp:cI r.1) {Q:Exit→AS→Prop} (ht:ic P ops r.2.2 Q r.2.1):ic P ops os Q s:=by
 unfold Jf at h;first
 | (cases h;done)
def J6 (P:Program) (ops:Array Oper) (s:AS) (os:List Oper) (d:sA):Option (List Prop×AS×List Oper) :=
 match KS s d with
 | some (p,s')=>some (p,s',os)
 | none=>match Jf P ops s os d with
  | some r=>some r
  | none=>match os with
   | o::os'=>(match Lh P ops s o d with
    | some (p,s')=>some (p,s',os')
    | none=>(zI P ops s o d).map fun r=>(r.1,(eD.put o.dst r.2).app s,os'))
   | []=>none
theorem BT {d:sA} {os:List Oper} {r:List Prop×AS×List Oper} (h:J6 P ops s os d=some r) (hp:cI r.1) {Q:Exit→AS→Prop} (ht:ic P ops r.2.2 Q r.2.1):ic P ops os Q s:=by
 unfold J6 at h;split at h
 ·rename_i p s' he;cases h;exact CF he hp ht
 ·split at h
  ·rename_i r' he;cases h;exact Cl he hp ht
  ·cases os with
   | nil=>cases h
   | cons o os' =>
    simp only at h;split at h
    ·rename_i p s' he;cases h;exact Cb ((Et he hp).mono fun s3 e=>by subst e;exact ht)
    ·obtain ⟨x,hx,rfl⟩:=Option.map_eq_some_iff.1 h;refine Cb (((tV (v:=x.2) hx hp).op rfl rfl).mono fun s3 e => ?_);exact fun c a w β κ r=>ht c a w β κ (r.same e.symm')
def AQ (P:Program) (ops:Array Oper):List Oper→List sA→AS→Option (List Prop×AS×List Oper)
 | os,[],s=>some ([],s,os)
 | os,d::ds,s=>match J6 P ops s os d with
  | some (p,s',os')=>(match AQ P ops os' ds s' with | some (ps,r)=>some (p++ps,r) | none=>none)
  | none=>none
theorem k8 {Q:Exit→AS→Prop}:∀ (ds:List sA) {os:List Oper} {s:AS} {ps:List Prop} {s':AS} {os':List Oper},AQ P ops os ds s=some (ps,s',os')→cI ps→ic P ops os' Q s'→ic P ops os Q s
 | [],os,s,ps,s',os',h,hp,ht=>by cases h;exact ht
 | d::ds,os,s,ps,s',os',h,hp,ht=>by
  unfold AQ at h;split at h
  ·rename_i p s2 os2 he;split at h
   ·rename_i ps' r hr;cases h;obtain ⟨h1,h2⟩:=cI.append.1 hp;exact BT he h1 (k8 ds hr h2 ht)
   ·cases h
  ·cases h
end
section
variable {P:Program} {Q:Exit→AS→Prop} {s s':AS} {l:List Oper} {id:Nat}
theorem Ik (ds:List sA) {ps:List Prop} (h:AQ P l.toArray l ds s=some (ps,s',[])) (hp:cI ps) (hq:Q .normal s'):eU P (.region id l.toArray false) Q s :=
 vY (k8 ds h hp (DD hq))
def Ji (P:Program) (l:List Oper) (n:Nat) (d1 d2:List sA) (s:AS):Option (List Prop×AS×List Oper) :=
 match BU P l.toArray (l.take n) d1 s with
 | some (ps,es)=>bif GN l n es s&&IM (v8 l []) es s&&IZ (v8 l []) es s then (match AQ P l.toArray (l.drop n) d2 (apps es s) with
  | some (qs,r)=>some (ps++qs,r)
  | none=>none) else none
 | none=>none
theorem D0 (hm:P.follows .mixedOrders=true) (n:Nat) (d1 d2:List sA) {ps:List Prop} (h:Ji P l n d1 d2 s=some (ps,s',[])) (hp:cI ps) (hq:Q .normal s'):eU P (.region id l.toArray true) Q s:=by
 unfold Ji at h;split at h
 ·rename_i ps1 es he;obtain ⟨hc,h2⟩:=bO h;split at h2
  ·rename_i qs r hr;simp only [LK,Prod.mk.injEq] at h2;obtain ⟨h3,h4⟩:=h2;subst h3;subst h4;obtain ⟨p1,p2⟩:=cI.append.1 hp;exact Gz hm n es hc (wq he p1) (k8 d2 hr p2 (DD hq))
  ·cases h2
 ·cases h
def vd (f:Func):Code:=match f.body with | some c=>c | none=>.skip
def r5 (f:Func):Bool:=match f.body with | some _=>true | none=>false
theorem Aa {f:Func} (h:r5 f=true):f.body=some (vd f):=by
 unfold r5 at h;unfold vd;split at h
 ·rename_i c e;rw [e]
 ·cases h
theorem KG {f:FuncId} {fn:Func} {args:List AV} {h:List (Nat×AO)} {Post:AV→List (Nat×AO)→Prop} (hf:P.funcs[f]? = some fn) (n:Nat) (rs:List ResultVar) (hok:(r5 fn&&Nat.beq fn.ntmps n&&Nat.ble args.length n)=true) (hrs:fn.results.toList=rs)
 (ht:eU P (vd fn) (KP P rs Post) ⟨n,nf args 0,h⟩):bY P f args h Post:=by
 simp only [LB,Nat.beq_eq,Nat.ble_eq] at hok;exact A9 hf (Aa hok.1.1) n hok.1.2 rs hrs hok.2 ht
end
section
variable {P:Program} {Q:Exit→AS→Prop} {s s':AS} {l:List Oper} {id:Nat}
def AS.only (s:AS) (ts hs:List Nat):AS:=⟨s.n,sel ts s.t,sel hs s.h⟩
theorem all_nil:cI []:=trivial
theorem all_cons {p:Prop} {ps:List Prop} (h:p) (h2:cI ps):cI (p::ps):=cI.cons.2 ⟨h,h2⟩
theorem b9 {ps qs:List Prop} (h:cI ps) (h2:cI qs):cI (ps++qs):=cI.append.2 ⟨h,h2⟩
theorem bQ.eq {f:FuncId} {args:List AV} {v v':AV} (h:bQ P f args v) (e:v=v'):bY P f args [] fun r _=>r=v':=bY.mono h fun _ _ hr=>hr.1.trans e
theorem bQ.is {f:FuncId} {args:List AV} {v:AV} (h:bQ P f args v):bY P f args [] fun r _=>r=v:=bY.mono h fun _ _ hr=>hr.1
theorem ix {α:Type} {f:α→List AV} {l:List α} {n:Nat} {sz:Nat} (d:α) (hf:∀ x,(f x).length=sz) (h0:0<sz) (h:n<l.length) :
 cI [((0:Int)≤(n:Int)∧(n:Int)<((l.map f).length:Int))∧(((l.map f).getD (n:Int).toNat []).length=sz∧0<sz),AV.dptr ((l.map f).getD (n:Int).toNat []) = .dptr (f (l.getD n d))]:=by
 have e:(l.map f).getD (n:Int).toNat []=f (l.getD n d):=by simp [Lz,LA h]
 refine ⟨⟨⟨by omega,by simpa using h⟩,?_,h0⟩,?_⟩
 ·rw [e];exact hf _
 ·rw [e];rfl
theorem Kj {α:Type} {f:α→List AV} {l:List α} {n:Int} {sz:Nat} (d:α) (hf:∀ x,(f x).length=sz) (h0:0<sz) (h:0≤n∧n<l.length) :
 cI [((0:Int)≤n∧n<((l.map f).length:Int))∧(((l.map f).getD n.toNat []).length=sz∧0<sz),AV.dptr ((l.map f).getD n.toNat []) = .dptr (f (l.getD n.toNat d))]:=by
 have hn:n.toNat<l.length:=by omega
 have e:(l.map f).getD n.toNat []=f (l.getD n.toNat d):=by simp [Lz,LA hn]
 refine ⟨⟨⟨h.1,by simpa using h.2⟩,?_,h0⟩,?_⟩
 ·rw [e];exact hf _
 ·rw [e];rfl
theorem aP {α:Type} (f:α→List AV) (l:List α):AV.int .i64 ((l.map f).length:Nat) = .int .i64 (l.length:Nat):=by rw [LI]
def zi:AV→List Prop
 | .str l=>[l.length≤9223372036854775807]
 | .dslice xs=>[xs.length≤9223372036854775807]
 | _=>[]
def DO:List AV→List Prop
 | []=>[]
 | c::cs=>zi c++DO cs
def lens:AV→List Prop
 | .agg cs=>DO cs
 | .tup cs=>DO cs
 | v=>zi v
theorem sB {w:World} {X:Nat→Prop} {β:Nat→Nat} {κ:Nat→Nat×Nat} {v:AV} {V:Value} (h:G w X β κ v V):cI (zi v):=by
 unfold zi;split
 ·exact h.str_len
 ·obtain ⟨_,_,_,_,h1,h2⟩:=h.dslice_inv;exact Nat.le_trans h1 h2
 ·trivial
theorem sT {w:World} {X:Nat→Prop} {β:Nat→Nat} {κ:Nat→Nat×Nat}:∀ {cs:List AV} {vs:Nat→Value},(∀ i,i<cs.length→G w X β κ (cs.getD i .any) (vs i))→cI (DO cs)
 | [],_,_=>trivial
 | c::cs,vs,h=>cI.append.2 ⟨sB (h 0 (by simp)),sT (vs:=fun i=>vs (i+1)) fun i hi=>by simpa using h (i+1) (by simpa using hi)⟩
theorem Hh {w:World} {X:Nat→Prop} {β:Nat→Nat} {κ:Nat→Nat×Nat} {v:AV} {V:Value} (h:G w X β κ v V):cI (lens v):=by
 unfold lens;split
 ·obtain ⟨vs,_,_,hg⟩:=h.agg_inv;exact sT hg
 ·obtain ⟨vs,_,_,hg⟩:=h.tup_inv;exact sT hg
 ·exact sB h
theorem bV {cd:Code} (t:Nat) {ps:List Prop} (h:lens (lk .any s.t t)=ps) (ht:cI ps→eU P cd Q s):eU P cd Q s:=fun c a w β κ r =>
 ht (h ▸ Hh (r.tm t)) c a w β κ r
end
def Cv (s s':AS):Prop:=∀ (P:Program) (c:Cx P) (a:Act) (w:World) (β:Nat→Nat) (κ:Nat→Nat×Nat),Rel c s a w β κ→∃ β' κ',Rel c s' a w β' κ'
theorem Cv.refl (s:AS):Cv s s:=fun _ _ _ _ β κ r=>⟨β,κ,r⟩
theorem Cv.trans {s s' s'':AS} (h:Cv s s') (h':Cv s' s''):Cv s s'':=fun P c a w β κ r=>by obtain ⟨β',κ',r'⟩:=h _ c a w β κ r;exact h' _ c a w β' κ' r'
theorem Cv.only (s:AS) (ts hs:List Nat):Cv s (s.only ts hs):=fun _ _ _ _ β κ r=>⟨β,κ,r.sel ts hs⟩
theorem Cv.frz {s s':AS} {k:Nat} (h:s.frz k=some s'):Cv s s':=fun _ _ _ _ β κ r=>⟨β,κ,r.frz h⟩
theorem Cv.frzM {s s':AS} {k:Nat} {p:Prop} (h:s.frzM k=some (p,s')) (hp:p):Cv s s':=fun _ _ _ _ β κ r=>⟨β,κ,r.frzM h hp⟩
theorem Cv.erow {s s':AS} {t k:Nat} {e:TypeId} {sz:Nat} (h:s.erow t k e sz=some s'):Cv s s':=fun _ _ _ _ β κ r=>by obtain ⟨κ',r'⟩:=r.erow h;exact ⟨β,κ',r'⟩
theorem Cv.tri {P:Program} {cd:Code} {Q:Exit→AS→Prop} {s s':AS} (h:Cv s s') (ht:eU P cd Q s'):eU P cd Q s:=fun c a w β κ r=>by obtain ⟨β',κ',r'⟩:=h _ c a w β κ r;exact ht c a w β' κ' r'
theorem Cv.wkT (s:AS) (t:Nat) (p:List (Nat×Nat)):Cv s (s.wkT t p):=fun _ _ _ _ β κ r=>⟨β,κ,r.wkT t p⟩
def AO.wk (i:Nat) (p:List (Nat×Nat)):AO→AO
 | .cells e cs=>.cells e (dz (AV.wk p) i cs)
 | o=>o
def AS.wkH (s:AS) (k i:Nat) (p:List (Nat×Nat)):AS:=⟨s.n,s.t,s.h.map fun q=>(q.1,bif Nat.beq q.1 k then AO.wk i p q.2 else q.2)⟩
theorem Ga {α:Type} (d:α) (f:α→α) (hd:f d=d) (k:Nat) (l:List (Nat×α)) (i:Nat):lk d (l.map fun q=>(q.1,bif Nat.beq q.1 k then f q.2 else q.2)) i=if i=k then f (lk d l i) else lk d l i:=by
 induction l with
 | nil=>simp [lk,hd]
 | cons p l ih =>
  obtain ⟨j,u⟩:=p;simp only [List.map_cons,lk];by_cases h:i=j
  ·subst h;rw [Nat.beq_refl];simp only [cond_true];by_cases h2:i=k
   ·subst h2;simp
   ·rw [dm h2,if_neg h2];rfl
  ·rw [dm h];simp only [cond_false];exact ih
theorem yY (s:AS) (k i:Nat) (p:List (Nat×Nat)) (j:Nat):lk .gone (s.wkH k i p).h j=if j=k then AO.wk i p (lk .gone s.h j) else lk .gone s.h j:=Ga .gone (AO.wk i p) rfl k s.h j
theorem AO.live_wk (i:Nat) (p:List (Nat×Nat)) (o:AO):(AO.wk i p o).live=o.live:=by cases o<;>rfl
theorem AO.inn_wk (i:Nat) (p:List (Nat×Nat)) (o:AO) (j:Nat):(AO.wk i p o).inn j=o.inn j:=by cases o<;>rfl
theorem AO.gone_wk {i:Nat} {p:List (Nat×Nat)} {o:AO} (h:AO.wk i p o ≠ .gone):o ≠ .gone:=fun e=>h (by rw [e];rfl)
theorem Cv.wkH (s:AS) (k i:Nat) (p:List (Nat×Nat)):Cv s (s.wkH k i p):=fun P c a w β κ r=>by
 have hlive:∀ j,(lk .gone (s.wkH k i p).h j).live=(lk .gone s.h j).live:=fun j=>by
  rw [yY];split
  ·rw [AO.live_wk]
  ·rfl
 have hinn:∀ j l,(lk .gone (s.wkH k i p).h j).inn l=(lk .gone s.h j).inn l:=fun j l=>by
  rw [yY];split
  ·rw [AO.inn_wk]
  ·rfl
 have hlv:∀ j,lv (s.wkH k i p).h j=lv s.h j:=fun j=>by simp only [lv,hlive,hinn]
 have hown:own (s.wkH k i p).h β=own s.h β:=by funext b;simp only [own,hlv]
 have hX:c.XX (s.wkH k i p).h β=c.XX s.h β:=by funext b;simp [Cx.XX,hown]
 refine ⟨β,κ,r.df,r.sz,fun j => ?_,⟨fun j => ?_,fun a b ha hb e=>r.hp.inj a b (by rw [hlv] at ha;exact ha) (by rw [hlv] at hb;exact hb) e,r.hp.kp,fun j hj=>r.hp.nk j (by rw [hlv] at hj;exact hj),fun j hj=>r.hp.nx j (by rw [hlv] at hj;exact hj),r.hp.fix,fun j hj => ?_⟩⟩
 ·rw [hX];exact r.tm j
 ·rw [hX,yY];have h:=r.hp.ob j;split
  ·generalize lk .gone s.h j=o at h;cases o with
   | cells e cs =>
    obtain ⟨cur,h1,h2,h3⟩:=h;exact ⟨cur,h1,by rw [bp];exact h2,fun l hl=>eG (R:=fun x=>G w (c.XX s.h β) β κ x (cur.getD l undef)) (fun x hx=>hx.wk p) i cs l (h3 l (by rw [bp] at hl;exact hl))⟩
   | _=>exact h
  ·exact h
 ·rw [yY] at hj;split at hj
  ·exact r.hp.sg j (AO.gone_wk hj)
  ·exact r.hp.sg j hj
def KU (ps:List (Nat×Nat)):Bool:=ps.all fun p=>bif Nat.beq p.1 p.2 then Nat.blt p.2 1000000 else Nat.blt p.2 1000
def AS.ren (s:AS) (ps:List (Nat×Nat)):AS:=⟨s.n,s.t.map fun q=>(q.1,AV.ren ps q.2),hand ps s.h⟩
theorem Cv.ren (s:AS) (ps:List (Nat×Nat)) (hps:(oU ps&&KU ps)=true):Cv s (s.ren ps):=fun P c a w β κ r=>by
 simp only [LB] at hps;obtain ⟨hinj,hid⟩:=hps;have hbig:∀ {k j},rk ps k=some j→j<1000000∧(1000≤j→k=j):=fun {k j} h=>by
  have:=LN.1 hid _ (ou h);cases e:Nat.beq k j with
  | true =>
   simp only [e,cond_true,Nat.blt_eq] at this;exact ⟨this,fun _=>dO.1 e⟩
  | false =>
   simp only [e,cond_false,Nat.blt_eq] at this;exact ⟨by omega,fun hj=>by omega⟩
 let τ:Nat→Nat→Prop:=fun n n'=>rk ps n=some n'∨∃ k j i,rk ps k=some j∧i<1000000∧n=gk k i∧n'=gk j i
 let β':Nat→Nat:=uk (fun j=>match rk (swp ps) j with | some k=>β k | none=>β j) (fun j i=>match rk (swp ps) j with | some k=>β (gk k i) | none=>β (gk j i))
 let κ':Nat→Nat×Nat:=uk (fun j=>match rk (swp ps) j with | some k=>κ k | none=>κ j) (fun j i=>match rk (swp ps) j with | some k=>κ (gk k i) | none=>κ (gk j i))
 have hβ:∀ k j,rk ps k=some j→β' j=β k∧κ' j=κ k:=by intro k j h;have h2:=(cE hinj).2 h;have h3:=(hbig h).1;exact ⟨by simp only [β',fk h3,h2],by simp only [κ',fk h3,h2]⟩
 have hβv:∀ k j,rk ps k=some j→∀ i,i<1000000→β' (gk j i)=β (gk k i)∧κ' (gk j i)=κ (gk k i):=by intro k j h i hi;have h2:=(cE hinj).2 h;exact ⟨by simp only [β',dJ hi,h2],by simp only [κ',dJ hi,h2]⟩
 have hlk:∀ j,lk .gone (hand ps s.h) j=match rk (swp ps) j with | some k=>AO.ren ps (lk .gone s.h k) | none=>.gone:=fun j=>uo hinj j
 have hlvh:∀ n',lv (hand ps s.h) n'→∃ n,((rk ps n=some n'∧n<1000000)∨∃ k j i,rk ps k=some j∧i<1000000∧n=gk k i∧n'=gk j i)∧lv s.h n∧β' n'=β n:=by
  rintro n' (h1 | ⟨m,i,rfl,h1⟩)
  ·rw [hlk] at h1;cases e:rk (swp ps) n' with
   | none=>rw [e] at h1;exact h1.elim
   | some k =>
    rw [e] at h1;have e2:=(cE hinj).1 e;have h2:=lN.1 h1;exact ⟨k,.inl ⟨e2,r.hp.sm k h2⟩,.inl h2,(hβ _ _ e2).1⟩
  ·rw [hlk] at h1;cases e:rk (swp ps) m with
   | none=>rw [e] at h1;exact h1.elim
   | some k =>
    rw [e] at h1;have e2:=(cE hinj).1 e;have hi:=(AO.inn_isR h1).1;exact ⟨gk k i,.inr ⟨k,m,i,e2,hi,rfl,rfl⟩,cV (oA.1 h1),(hβv _ _ e2 i hi).1⟩
 have hown:∀ b,own (hand ps s.h) β' b→own s.h β b:=by rintro b ⟨j,h1,h2⟩;obtain ⟨k,_,h3,h4⟩:=hlvh j h1;exact ⟨k,h3,by rw [← h4];exact h2⟩
 have hX:∀ b,¬ c.XX s.h β b→b<w.heap.size→¬ c.XX (hand ps s.h) β' b:=fun b hb _ hb'=>hb (hb'.imp id (hown b));refine ⟨β',κ',r.df,r.sz,fun i => ?_,⟨fun j => ?_,fun i j hi hj e => ?_,r.hp.kp,fun j hj => ?_,fun j hj => ?_,fun j hj hj6 => ?_,fun j hj => ?_⟩⟩
 ·show G w (c.XX (hand ps s.h) β') β' κ' (lk .any (s.t.map fun q=>(q.1,AV.ren ps q.2)) i) _;rw [rf .any (AV.ren ps) rfl];exact (r.tm i).ren hβ hX
 ·show HO w (c.XX (hand ps s.h) β') β' κ' j (lk .gone (hand ps s.h) j);rw [hlk];cases e:rk (swp ps) j with
  | none=>trivial
  | some k =>
   have e2:=(cE hinj).1 e;exact (r.hp.ob k).ren hβ hX (hβ _ _ e2) (fun i hi _=>hβv _ _ e2 i hi)
 ·obtain ⟨k1,a1,a2,a3⟩:=hlvh i hi;obtain ⟨k2,b1,b2,b3⟩:=hlvh j hj;have:k1=k2:=r.hp.inj k1 k2 a2 b2 (by rw [← a3,← b3];exact e);subst this;rcases a1 with ⟨h,h'⟩ | ⟨k,l,i,h,hii,rfl,rfl⟩<;>rcases b1 with ⟨g,g'⟩ | ⟨k2,l2,i2,g,hi2,ee,rfl⟩
  ·rw [h] at g;exact LM g
  ·have:=dN k2 i2;omega
  ·have:=dN k i;omega
  ·obtain ⟨rfl,rfl⟩:=jy hii hi2 ee;rw [h] at g;rw [LM g]
 ·obtain ⟨k,_,a2,a3⟩:=hlvh j hj;rw [a3];exact r.hp.nk k a2
 ·obtain ⟨k,_,a2,a3⟩:=hlvh j hj;rw [a3];exact r.hp.nx k a2
 ·have hf:=r.hp.fix j hj hj6;have e1:β' j=(match rk (swp ps) j with | some k=>β k | none=>β j):=fk hj6;have e2:κ' j=(match rk (swp ps) j with | some k=>κ k | none=>κ j):=fk hj6;rw [e1,e2];cases e:rk (swp ps) j with
  | none=>exact hf
  | some k =>
   have:=(hbig ((cE hinj).1 e)).2 hj;subst this;exact hf
 ·have hj:lk .gone (hand ps s.h) j ≠ .gone:=hj;rw [hlk] at hj;cases e:rk (swp ps) j with
  | none=>rw [e] at hj;exact absurd rfl hj
  | some k=>exact (hbig ((cE hinj).1 e)).1
def AS.erowH (s:AS) (k i k':Nat) (e:TypeId) (sz:Nat):Option AS :=
 match lk .gone (fZ k' s.h) k with
 | .cells e2 cs=>match cs.getD i .any with
  | .eslice=>bif Nat.blt k' 1000 && !Nat.beq k k' then some ⟨s.n,nH k' s.t,ins k' (.row e sz []) (ins k (.cells e2 (dz (fun _=>.rslice k') i cs)) (fZ k' s.h))⟩ else none
  | _=>none
 | _=>none
theorem zk {α:Type} (f:α→α) (d:α):∀ (i:Nat) (l:List α) (j:Nat),(dz f i l).getD j d=if j=i∧i<l.length then f (l.getD j d) else l.getD j d
 | _,[],j=>by simp [dz]
 | 0,x::xs,0=>by simp [dz]
 | 0,x::xs,j+1=>by simp [dz]
 | i+1,x::xs,0=>by simp [dz]
 | i+1,x::xs,j+1=>by have:=zk f d i xs j;simpa [dz] using this
theorem Cv.erowH {s s':AS} {k i k':Nat} {e:TypeId} {sz:Nat} (h:s.erowH k i k' e sz=some s'):Cv s s':=fun P c a w β κ r=>by
 unfold AS.erowH at h;split at h
 ·rename_i e2 cs hk;split at h
  ·rename_i hi;obtain ⟨hc,h⟩:=bO h;cases h;rw [LB] at hc;have hk':k'<1000:=by simpa [Nat.blt_eq] using hc.1
   have hkk:k≠k':=fun e=>by have:=hc.2;rw [e,Nat.beq_refl] at this;cases this
   have r':=r.pg k';let h2:=ins k' (AO.row e sz []) (ins k (.cells e2 (dz (fun _=>.rslice k') i cs)) (fZ k' s.h))
   have hl:∀ j,lk AO.gone h2 j=if j=k' then .row e sz [] else if j=k then .cells e2 (dz (fun _=>.rslice k') i cs) else lk .gone (fZ k' s.h) j:=fun j=>by show lk AO.gone (ins k' _ _) j=_;rw [be,be]
   have hk6:k'<1000000:=by omega
   have hlive:∀ {j},lv h2 j→lv (fZ k' s.h) j:=by
    intro j hl2;rcases fV (o:=.row e sz []) hk6 (fun _ h=>h) hl2 with ⟨_,h0⟩ | ⟨_,hl2⟩
    ·exact absurd rfl h0
    ·exact (sq (by rw [hk];exact Iff.rfl) (fun i=>by rw [hk];exact Iff.rfl) j).1 hl2
   have hX:∀ b,¬ c.XX (fZ k' s.h) β b→b<w.heap.size→¬ c.XX h2 β b:=by
    rintro b hb _ (hx | ⟨j,hl,hj⟩)
    ·exact hb (.inl hx)
    ·exact hb (.inr ⟨j,hlive hl,hj⟩)
   have hT:∀ {v:AV} {V:Value},G w (c.XX (fZ k' s.h) β) β κ v V→AV.men k' v=false→G w (c.XX h2 β) β (upd κ k' (0,0)) v V:=fun hg hm =>
    hg.mono (w':=w) (fun _ _ _=>rfl) hX (fun j hj=>.updκ hk6 (fun e=>by rw [e,hm] at hj;cases hj))
   refine ⟨β,upd κ k' (0,0),r.df,r.sz,fun i => ?_,⟨fun j => ?_,fun i j hi hj e=>r'.hp.inj i j (hlive hi) (hlive hj) e,r.hp.kp,fun j hj=>r'.hp.nk j (hlive hj),fun j hj=>r'.hp.nx j (hlive hj),fun j hj hj6 => ?_,fun j hj => ?_⟩⟩
   ·exact hT (r'.tm i) (by show AV.men k' (lk .any (nH k' s.t) i)=false;rw [fQ,AV.men_pg])
   ·show HO w (c.XX h2 β) β (upd κ k' (0,0)) j (lk AO.gone h2 j);rw [hl];by_cases ej:j=k'
    ·rw [if_pos ej,ej];exact ⟨by rw [aD];rfl,fun h=>absurd rfl h⟩
    ·rw [if_neg ej];by_cases ej2:j=k
     ·rw [if_pos ej2,ej2];have ho:=r'.hp.ob k;have hmen:AO.men k' (lk .gone (fZ k' s.h) k)=false:=by rw [fc];exact AO.men_pg k' _
      rw [hk] at ho hmen;obtain ⟨cur,g1,g2,g3⟩:=ho;refine ⟨cur,g1,by rw [bp];exact g2,fun l hl2 => ?_⟩;rw [bp] at hl2;rw [zk];have g4:=g3 l hl2;have hm2:AV.men k' (cs.getD l .any)=false:=by
       cases hb:AV.men k' (cs.getD l .any) with
       | false=>rfl
       | true=>have:=dh hl2 hb;rw [show AV.menL k' cs=false from hmen] at this;cases this
      by_cases el:l=i∧i<cs.length
      ·rw [if_pos el];rw [el.1,hi] at g4;obtain ⟨ad,e1⟩:=g4.eslice_inv;rw [el.1,e1];exact .rslice0 k' ad (by rw [aD])
      ·rw [if_neg el];exact hT g4 hm2
     ·rw [if_neg ej2];exact (r'.hp.ob j).mono (w':=w) (fun _ _ _=>rfl) hX (fun i hi=>.updκ hk6 (fun e=>by rw [e] at hi;have:AO.men k' (lk .gone (fZ k' s.h) j)=true:=hi;rw [fc,AO.men_pg] at this;cases this)) (.updκ hk6 ej) (fun _=>rfl) (fun _ _=>rfl)
   ·have:j≠k':=by omega
    rw [bA κ this];exact r.hp.fix j hj hj6
   ·have hj:lk AO.gone h2 j ≠ .gone:=hj;rw [hl] at hj;by_cases ej:j=k'
    ·omega
    ·rw [if_neg ej] at hj;by_cases ej2:j=k
     ·rw [ej2];exact r'.hp.sm k (by show (lk .gone (fZ k' s.h) k).live;rw [hk];trivial)
     ·rw [if_neg ej2] at hj;exact r'.hp.sg j hj
  ·cases h
 ·cases h
inductive Cd where
 | only (ts hs:List Nat)
 | fz (k:Nat)
 | er (t k:Nat) (e:TypeId) (sz:Nat)
 | wk (t:Nat) (p:List (Nat×Nat))
 | wkH (k i:Nat) (p:List (Nat×Nat))
 | ren (ps:List (Nat×Nat))
 | erH (k i k':Nat) (e:TypeId) (sz:Nat)
def conv:List Cd→AS→Option AS
 | [],s=>some s
 | .only ts hs::cs,s=>conv cs (s.only ts hs)
 | .fz k::cs,s=>match s.frz k with | some s'=>conv cs s' | none=>none
 | .er t k e sz::cs,s=>match s.erow t k e sz with | some s'=>conv cs s' | none=>none
 | .wk t p::cs,s=>conv cs (s.wkT t p)
 | .wkH k i p::cs,s=>conv cs (s.wkH k i p)
 | .erH k i k' e sz::cs,s=>match s.erowH k i k' e sz with | some s'=>conv cs s' | none=>none
 | .ren ps::cs,s=>bif oU ps&&KU ps then conv cs (s.ren ps) else none
theorem dZ:∀ (cs:List Cd) {s s':AS},conv cs s=some s'→Cv s s'
 | [],s,s',h=>by cases h;exact .refl _
 | .only ts hs::cs,s,s',h=>(Cv.only s ts hs).trans (dZ cs h)
 | .fz k::cs,s,s',h=>by
  simp only [conv] at h;split at h
  ·rename_i h1;exact (Cv.frz h1).trans (dZ cs h)
  ·cases h
 | .er t k e sz::cs,s,s',h=>by
  simp only [conv] at h;split at h
  ·rename_i h1;exact (Cv.erow h1).trans (dZ cs h)
  ·cases h
 | .wk t p::cs,s,s',h=>(Cv.wkT s t p).trans (dZ cs h)
 | .wkH k i p::cs,s,s',h=>(Cv.wkH s k i p).trans (dZ cs h)
 | .erH k i k' e sz::cs,s,s',h=>by
  simp only [conv] at h;split at h
  ·rename_i h1;exact (Cv.erowH h1).trans (dZ cs h)
  ·cases h
 | .ren ps::cs,s,s',h=>by obtain ⟨h1,h2⟩:=bO h;exact (Cv.ren s ps h1).trans (dZ cs h2)
end Go.Ab
namespace Go.Sh
inductive gC (σ ε ρ:Type) where
 | go (s:σ)
 | brk (e:ε)
 | ret (r:ρ)
inductive Out (ε ρ:Type) where
 | brk (e:ε)
 | ret (r:ρ)
section
variable {α β σ ε ρ:Type}
def zg (k:σ→Option (Out ε ρ)):gC σ ε ρ→Option (Out ε ρ)
 | .go s=>k s
 | .brk e=>some (.brk e)
 | .ret r=>some (.ret r)
def eH (body:Nat→σ→Option (gC σ ε ρ)) (fin:Nat→σ→ε):Nat→Nat→σ→Option (Out ε ρ)
 | 0,i,s=>some (.brk (fin i s))
 | k+1,i,s=>(body i s).bind (zg (eH body fin k (i+1)))
def kz (body:σ→Option (gC σ ε ρ)):Nat→σ→Option (Out ε ρ)
 | 0,_=>none
 | n+1,s=>(body s).bind (zg (kz body n))
def aft (f:ε→Option β):Out ε β→Option β
 | .brk e=>f e
 | .ret r=>some r
def bM (p:Prop) [Decidable p] (x:Option α):Option α:=if p then x else none
def tP:gC σ ε ρ→Out ε ρ→Prop
 | .go _,_=>True
 | .brk e,r=>r = .brk e
 | .ret x,r=>r = .ret x
theorem aQ {m:Option α} {f:α→Option β} {v:β} {G:Prop} (H:m.bind f=some v) (k:∀ y,m=some y→f y=some v→G):G:=by
 cases m with
 | none=>cases H
 | some y=>exact k y rfl H
theorem aZ {b:Bool} {x y:Option α} {v:α} {G:Prop} (H:(bif b then x else y)=some v) (t:b=true→x=some v→G) (f:b=false→y=some v→G):G:=by
 cases b with
 | true=>exact t rfl H
 | false=>exact f rfl H
theorem aK {p:Prop} [Decidable p] {x:Option α} {v:α} {G:Prop} (H:bM p x=some v) (k:p→x=some v→G):G:=by
 unfold bM at H;split at H
 ·exact k (by assumption) H
 ·cases H
theorem cR {x y:α} {G:Prop} (H:some x=some y) (k:x=y→G):G:=k (LM H)
end
end Go.Sh
namespace Go.Ab
open Go.RowKit Go.Sh
inductive Fr where
 | seq (c:Code)
 | blk (id:Nat)
 | bar (S:AS)
 | rnd (n:Nat) (y:Code)
def RT (P:Program) (n:Nat) (y:Code) (Q:Exit→AS→Prop) (s:AS):Prop:=∀ (c:Cx P) a w β κ,Rel c s a w β κ→Code.rounds P y (lift c Q) n a w
theorem tZ {P:Program} {y:Code} {Q Q':Exit→Act→World→Prop} (h:∀ e a w,Q e a w→Q' e a w):∀ (n:Nat) a w,Code.rounds P y Q n a w→Code.rounds P y Q' n a w
 | 0,_,_,hr=>hr.elim
 | n+1,a,w,hr=>Code.wp_mono (fun e a w q=>by
  cases e with
  | normal=>exact tZ h n a w q
  | _=>exact h _ _ _ q) hr
theorem RT.succ {P:Program} {n:Nat} {y:Code} {Q:Exit→AS→Prop} {s:AS} (h:eU P y (Kk (RT P n y Q) Q) s):RT P (n+1) y Q s:=fun c a w β κ r =>
 Code.wp_mono (fun e a w q=>by
  obtain ⟨s',β',κ',q,r'⟩:=q;cases e with
  | normal=>exact (show RT P n y Q s' from q) c a w β' κ' r'
  | _=>exact ⟨s',β',κ',q,r'⟩) (h c a w β κ r)
theorem RT.loop {P:Program} {n:Nat} {y:Code} {Q:Exit→AS→Prop} {s:AS} (h:RT P n y Q s):eU P (.loop y) Q s:=fun c a w β κ r=>wp_loop_rounds n (h c a w β κ r)
theorem RT.lift {P:Program} {n:Nat} {y:Code} {Q Q':Exit→AS→Prop} {s:AS} (h:RT P n y Q s) (hq:∀ (c:Cx P) e a w,lift c Q e a w→lift c Q' e a w):RT P n y Q' s:=fun c a w β κ r=>tZ (fun e a w=>hq c e a w) n a w (h c a w β κ r)
def cC (P:Program):List Fr→(Exit→AS→Prop)→Exit→AS→Prop
 | [],Q=>Q
 | .seq c::fs,Q=>Kk (eU P c (cC P fs Q)) (cC P fs Q)
 | .blk id::fs,Q=>blk id (cC P fs Q)
 | .bar S::fs,Q=>Kk (fun s=>Cv s S) (cC P fs Q)
 | .rnd n y::fs,Q=>Kk (RT P n y (cC P fs Q)) (cC P fs Q)
def zd:List Fr→Option Code×List Fr
 | .seq c::fs=>(some c,fs)
 | .blk _::fs=>zd fs
 | .bar S::fs=>(none,.bar S::fs)
 | .rnd (n+1) y::fs=>(some y,.rnd n y::fs)
 | .rnd 0 y::fs=>(none,.rnd 0 y::fs)
 | []=>(none,[])
def AY (id:Nat):List Fr→Option (List Fr)
 | .seq _::fs=>AY id fs
 | .blk j::fs=>bif Nat.beq id j then some fs else AY id fs
 | .bar _::fs=>AY id fs
 | .rnd _ _::fs=>AY id fs
 | []=>none
inductive Sg where
 | rg (n:Nat) (d1 d2:List sA)
 | cv (cs:List Cd)
 | un
 | eqT (t:Nat) (v:AV)
 | fo (k:Nat) (es:List (Key×AV))
inductive D4 where
 | at (c:Code) (fs:List Fr) (s:AS)
 | nrm (fs:List Fr) (s:AS)
 | ret (s:AS)
def JA (P:Program) (ops:Array Oper) (dr:Bool) (k:Nat) (d1 d2:List sA) (s:AS):Option (List Prop×AS×List Oper) :=
 bif dr then Ji P ops.toList k d1 d2 s else AQ P ops.toList.toArray ops.toList d2 s
def path (P:Program):Nat→List Sg→Code→List Fr→AS→Option (List Prop×D4)
 | 0,_,c,fs,s=>some ([],.at c fs s)
 | n+1,.cv cs::sg,c,fs,s=>match conv cs s with
  | some s'=>path P n sg c fs s'
  | none=>none
 | n+1,.fo k es::sg,c,fs,s=>match s.frzO k es with
  | some (p,s')=>(match path P n sg c fs s' with
   | some (ps,lf)=>some (p::ps,lf)
   | none=>none)
  | none=>none
 | n+1,.eqT t v::sg,c,fs,s=>match path P n sg c fs ⟨s.n,ins t v s.t,s.h⟩ with
  | some (ps,lf)=>some ((lk .any s.t t=v)::ps,lf)
  | none=>none
 | n+1,.un::sg,.loop y,fs,s=>path P n sg y (.rnd 63 y::fs) s
 | n+1,sg,.seq x y,fs,s=>path P n sg x (.seq y::fs) s
 | n+1,sg,.skip,fs,s=>match zd fs with
  | (some c,fs')=>path P n sg c fs' s
  | (none,fs')=>some ([],.nrm fs' s)
 | n+1,.rg k d1 d2::sg,.region _ ops dr,fs,s=>match JA P ops dr k d1 d2 s with
  | some (ps,s',[])=>match zd fs with
   | (some c,fs')=>match path P n sg c fs' s' with
    | some (qs,lf)=>some (ps++qs,lf)
    | none=>none
   | (none,fs')=>some (ps,.nrm fs' s')
  | _=>none
 | n+1,sg,.cond x y z,fs,s=>match s.op x with
  | .bool true=>path P n sg y fs s
  | .bool false=>path P n sg z fs s
  | _=>none
 | n+1,sg,.block id y,fs,s=>path P n sg y (.blk id::fs) s
 | n+1,sg,.exit id,fs,s=>match AY id fs with
  | some fs1=>match zd fs1 with
   | (some c,fs')=>path P n sg c fs' s
   | (none,fs')=>some ([],.nrm fs' s)
  | none=>none
 | _+1,_,.ret,_,s=>some ([],.ret s)
 | _+1,_,.loop y,fs,s=>some ([],.at (.loop y) fs s)
 | _+1,_,_,_,_=>none
section
variable {P:Program} {Q:Exit→AS→Prop}
theorem vK:∀ {fs:List Fr} {s:AS},(∀ c fs',zd fs=(some c,fs')→eU P c (cC P fs' Q) s)→(∀ fs',zd fs=(none,fs')→cC P fs' Q .normal s)→cC P fs Q .normal s
 | [],s,_,h=>h _ rfl
 | .seq c::fs,s,h,_=>h _ _ rfl
 | .blk id::fs,s,h,h2=>vK (fs:=fs) h h2
 | .bar S::fs,s,_,h=>h _ rfl
 | .rnd (n+1) y::fs,s,h,_=>RT.succ (h _ _ rfl)
 | .rnd 0 y::fs,s,_,h=>h _ rfl
theorem wc {id:Nat}:∀ {fs fs1:List Fr} {s:AS},AY id fs=some fs1→cC P fs1 Q .normal s→cC P fs Q (.exit id) s
 | [],_,s,h,_=>by cases h
 | .seq c::fs,_,s,h,h2=>wc (fs:=fs) h h2
 | .bar S::fs,_,s,h,h2=>wc (fs:=fs) h h2
 | .rnd n y::fs,_,s,h,h2=>wc (fs:=fs) h h2
 | .blk j::fs,fs1,s,h,h2=>by
  simp only [AY] at h;simp only [cC,blk];cases e:Nat.beq id j with
  | true=>rw [e] at h;cases h;exact h2
  | false=>rw [e] at h;exact wc (fs:=fs) h h2
theorem uI:∀ {fs:List Fr} {s:AS},Q .ret s→cC P fs Q .ret s
 | [],_,h=>h
 | .seq _::fs,_,h=>uI (fs:=fs) h
 | .blk _::fs,_,h=>uI (fs:=fs) h
 | .bar _::fs,_,h=>uI (fs:=fs) h
 | .rnd _ _::fs,_,h=>uI (fs:=fs) h
def Jp (P:Program) (Q:Exit→AS→Prop):D4→Prop
 | .at c fs s=>eU P c (cC P fs Q) s
 | .nrm fs s=>cC P fs Q .normal s
 | .ret s=>Q .ret s
theorem vX (hm:P.follows .mixedOrders=true) {id k:Nat} {ops:Array Oper} {dr:Bool} {d1 d2:List sA} {s s':AS} {ps:List Prop} {Q':Exit→AS→Prop} (h:JA P ops dr k d1 d2 s=some (ps,s',[])) (hp:cI ps) (hq:Q' .normal s'):eU P (.region id ops dr) Q' s:=by
 have e:ops=ops.toList.toArray:=by simp
 unfold JA at h;cases dr with
 | true =>
  simp only [cond_true] at h;rw [e];first
  | exact D0 hm k d1 d2 h hp hq
 | false =>
  simp only [cond_false] at h;have h':=Ik (id:=id) d2 h hp hq;rw [← e] at h';exact h'
theorem cQ (hm:P.follows .mixedOrders=true):∀ (n:Nat) {sg:List Sg} {c:Code} {fs:List Fr} {s:AS} {ps:List Prop} {lf:D4},path P n sg c fs s=some (ps,lf)→cI ps→Jp P Q lf→eU P c (cC P fs Q) s
 | 0,sg,c,fs,s,ps,lf,h,_,hl=>by simp only [path] at h;cases h;exact hl
 | n+1,sg,c,fs,s,ps,lf,h,hp,hl=>by
  unfold path at h;split at h
  ·rename_i e;cases e
  ·rename_i n' cs sg' c' fs' s' e;cases e;split at h
   ·rename_i s2 hc;exact (dZ _ hc).tri (cQ hm n h hp hl)
   ·cases h
  ·rename_i n' k es sg' c' fs' s' e;cases e;split at h
   ·rename_i p s2 hf;split at h
    ·rename_i ps1 lf1 hpath;cases h;obtain ⟨p1,p2⟩:=cI.cons.1 hp;have ht:=cQ hm n hpath p2 hl;exact fun c a w β κ r=>ht c a w β κ (r.frzO hf p1)
    ·cases h
   ·cases h
  ·rename_i n' t v sg' c' fs' s' e;cases e;split at h
   ·rename_i ps1 lf1 hpath;cases h;obtain ⟨p1,p2⟩:=cI.cons.1 hp;have ht:=cQ hm n hpath p2 hl;exact fun c a w β κ r=>ht c a w β κ (r.same (kL.symm' (zq p1)))
   ·cases h
  ·rename_i n' sg' y fs' s' e;cases e;exact RT.loop (RT.succ (n:=63) (cQ hm n h hp hl))
  ·rename_i n' e _ _ _;cases e;exact DI (cQ hm n h hp hl)
  ·rename_i n' e _ _ _;cases e;refine GW (vK (fun c fs' e => ?_) (fun fs' e => ?_))
   ·rw [e] at h;exact cQ hm n h hp hl
   ·rw [e] at h;cases h;exact hl
  ·rename_i n' k d1 d2 sg' id ops dr fs0 s0 e;cases e;split at h
   ·rename_i ps1 s1 hr;split at h
    ·rename_i c1 fs1 e1;split at h
     ·rename_i qs lf1 hpath;cases h;obtain ⟨p1,p2⟩:=cI.append.1 hp;refine vX hm hr p1 (vK (fun c2 fs2 e2 => ?_) (fun fs2 e2 => ?_))
      ·rw [e1] at e2;cases e2;exact cQ hm n hpath p2 hl
      ·rw [e1] at e2;cases e2
     ·cases h
    ·rename_i fs1 e1;cases h;refine vX hm hr hp (vK (fun c2 fs2 e2 => ?_) (fun fs2 e2 => ?_))
     ·rw [e1] at e2;cases e2
     ·rw [e1] at e2;cases e2;exact hl
   ·cases h
  ·rename_i n' x y z fs0 s0 e _ _ _;cases e;split at h
   ·rename_i hb;exact F4 hb (cQ hm n h hp hl)
   ·rename_i hb;exact Ej hb (cQ hm n h hp hl)
   ·cases h
  ·rename_i n' e _ _ _;cases e;exact Eh (cQ hm n h hp hl)
  ·rename_i n' e _ _ _;cases e;split at h
   ·rename_i fs1 he;refine FA (wc he (vK (fun c fs' e => ?_) (fun fs' e => ?_)))
    ·rw [e] at h;exact cQ hm n h hp hl
    ·rw [e] at h;cases h;exact hl
   ·cases h
  ·rename_i n' e _ _ _;cases e;cases h;exact Im (uI hl)
  ·rename_i n' e _ _ _ _;cases e;cases h;exact hl
  ·cases h
end
def dead:AS:=⟨0,[(0,.dslice [[]])],[]⟩
theorem zb {P:Program} {c:Cx P} {a:Act} {w:World} {β:Nat→Nat} {κ:Nat→Nat×Nat} (r:Rel c dead a w β κ):False:=by
 have h:=r.tm 0;simp only [dead,lk,Nat.beq_refl,cond_true] at h;generalize a.tmps.getD 0 undef=V at h;cases h with
 | d h =>
  cases h with
  | dslice _ b o cap sz cv h1 h2 h0 h3 h4 h5 h6 =>
   have:=h4 0 (by simp);simp at this;omega
section
variable {P:Program} {Q Q':Exit→AS→Prop} {c:Code} {fs:List Fr} {s:AS}
theorem eU.lift {cd:Code} (h:eU P cd Q s) (hq:∀ (c:Cx P) e a w,lift c Q e a w→lift c Q' e a w):eU P cd Q' s:=fun c a w β κ r=>wp_mono (h c a w β κ r) fun e a w q=>hq c e a w q
def JJ (cs:List Cd):Option (List Prop×D4)→Option (List Prop×AS×AS)
 | some (ps,.nrm (.bar S::_) s)=>match conv cs s with
  | some s'=>some (ps,s',S)
  | none=>none
 | _=>none
theorem KV (hm:P.follows .mixedOrders=true) (n:Nat) (sg:List Sg) (cs:List Cd) (S:AS) {ps:List Prop} (hp:cI ps) (h:JJ cs (path P n sg c fs s)=some (ps,S,S)):eU P c (cC P fs Q) s:=by
 unfold JJ at h;split at h
 ·rename_i ps' S' fs' s' hpath;split at h
  ·rename_i s2 hc;simp only [LK,Prod.mk.injEq] at h;obtain ⟨rfl,rfl,rfl⟩:=h;exact cQ hm n hpath hp (dZ cs hc)
  ·cases h
 ·cases h
def HM (P:Program) (rs:List ResultVar) (v:AV) (h1:List (Nat×AO)):Exit→AS→Prop
 | .ret,s=>∃ s2 ks,Cv s s2∧wu P s2 rs=some v∧sel ks s2.h=h1
 | .normal,s=>∃ s2 ks,Cv s s2∧wu P s2 rs=some v∧sel ks s2.h=h1
 | _,_=>False
def HF (P:Program) (rs:List ResultVar) (cs:List Cd) (ks:List Nat) (ps:List Prop) (s:AS):Option (List Prop×AV×List (Nat×AO)) :=
 match conv cs s with
 | some s2=>match wu P s2 rs with
  | some v=>some (ps,v,sel ks s2.h)
  | none=>none
 | none=>none
def Je (P:Program) (rs:List ResultVar) (cs:List Cd) (ks:List Nat):Option (List Prop×D4)→Option (List Prop×AV×List (Nat×AO))
 | some (ps,.nrm [] s)=>HF P rs cs ks ps s
 | some (ps,.ret s)=>HF P rs cs ks ps s
 | _=>none
theorem xG {rs:List ResultVar} {cs:List Cd} {ks:List Nat} {ps ps':List Prop} {v:AV} {h1:List (Nat×AO)} (h:HF P rs cs ks ps s=some (ps',v,h1)):ps=ps'∧∃ s2 ks,Cv s s2∧wu P s2 rs=some v∧sel ks s2.h=h1:=by
 unfold HF at h;split at h
 ·rename_i s2 hc;split at h
  ·rename_i v' hv;simp only [LK,Prod.mk.injEq] at h;obtain ⟨rfl,rfl,rfl⟩:=h;exact ⟨rfl,s2,ks,dZ cs hc,hv,rfl⟩
  ·cases h
 ·cases h
theorem KW (hm:P.follows .mixedOrders=true) (n:Nat) (sg:List Sg) (cs:List Cd) (ks:List Nat) {rs:List ResultVar} {v:AV} {h1:List (Nat×AO)} {ps:List Prop} (hp:cI ps) (h:Je P rs cs ks (path P n sg c fs s)=some (ps,v,h1)):eU P c (cC P fs (HM P rs v h1)) s:=by
 unfold Je at h;split at h
 ·rename_i ps' s' hpath;obtain ⟨rfl,h2⟩:=xG h;exact cQ hm n hpath hp h2
 ·rename_i ps' s' hpath;obtain ⟨rfl,h2⟩:=xG h;exact cQ hm n hpath hp h2
 ·cases h
def oq:Nat→List Bool→Code→List Fr→Code×List Fr
 | 0,_,c,fs=>(c,fs)
 | n+1,bs,.seq x y,fs=>oq n bs x (.seq y::fs)
 | n+1,bs,.skip,fs=>match zd fs with
  | (some c,fs')=>oq n bs c fs'
  | (none,fs')=>(.skip,fs')
 | n+1,bs,.region _ _ _,fs=>match zd fs with
  | (some c,fs')=>oq n bs c fs'
  | (none,fs')=>(.skip,fs')
 | n+1,b::bs,.cond _ y z,fs=>oq n bs (bif b then y else z) fs
 | n+1,bs,.block id y,fs=>oq n bs y (.blk id::fs)
 | n+1,bs,.loop y,fs=>oq n bs y (.rnd 63 y::fs)
 | n+1,bs,.exit id,fs=>match AY id fs with
  | some fs1=>match zd fs1 with
   | (some c,fs')=>oq n bs c fs'
   | (none,fs')=>(.skip,fs')
  | none=>(.skip,fs)
 | _+1,_,c,fs=>(c,fs)
def Kf (cs:List Cd):Option (List Prop×D4)→Option (List Prop×Code×List Fr×AS)
 | some (ps,.at c fs s)=>match conv cs s with
  | some s'=>some (ps,c,fs,s')
  | none=>none
 | _=>none
theorem Ks (hm:P.follows .mixedOrders=true) (n:Nat) (sg:List Sg) (cs:List Cd) (m:Nat) (bs:List Bool) (S:AS) {ps:List Prop} (hp:cI ps) (h:Kf cs (path P n sg c fs s)=some (ps,(oq m bs c fs).1,(oq m bs c fs).2,S))
 (ht:eU P (oq m bs c fs).1 (cC P (oq m bs c fs).2 Q) S):eU P c (cC P fs Q) s:=by
 unfold Kf at h;split at h
 ·rename_i ps' c' fs' s' hpath;split at h
  ·rename_i s2 hc;simp only [LK,Prod.mk.injEq] at h;obtain ⟨rfl,h1,h2,rfl⟩:=h;refine cQ hm n hpath hp ?_;rw [← h1,← h2] at ht;exact (dZ cs hc).tri ht
  ·cases h
 ·cases h
def zF:Nat→AS→List Fr→List Fr
 | _,_,[]=>[]
 | 0,S,_::fs=>.bar S::fs
 | k+1,S,f::fs=>f::zF k S fs
def wx:Nat→List Fr→Code
 | 0,.seq y::_=>y
 | k+1,_::fs=>wx k fs
 | _,_=>.skip
def rY:Nat→List Fr→Bool
 | 0,.seq _::_=>true
 | k+1,_::fs=>rY k fs
 | _,_=>false
theorem D1:∀ (f:Fr) {Q Q':Exit→AS→Prop} {fs fs':List Fr},(∀ (c:Cx P) e a w,lift c (cC P fs Q) e a w→lift c (cC P fs' Q') e a w)→∀ (c:Cx P) e a w,lift c (cC P (f::fs) Q) e a w→lift c (cC P (f::fs') Q') e a w:=by
 intro f Q Q' fs fs' h c e a w ⟨s,β,κ,hs,r⟩;cases f with
 | seq y =>
  cases e with
  | normal=>exact ⟨s,β,κ,eU.lift (hs:eU P y (cC P fs Q) s) h,r⟩
  | _ =>
   obtain ⟨s',β',κ',hs',r'⟩:=h c _ a w ⟨s,β,κ,hs,r⟩;exact ⟨s',β',κ',hs',r'⟩
 | rnd n y =>
  cases e with
  | normal=>exact ⟨s,β,κ,RT.lift (hs:RT P n y (cC P fs Q) s) h,r⟩
  | _ =>
   obtain ⟨s',β',κ',hs',r'⟩:=h c _ a w ⟨s,β,κ,hs,r⟩;exact ⟨s',β',κ',hs',r'⟩
 | bar S =>
  cases e with
  | normal=>exact ⟨s,β,κ,hs,r⟩
  | _ =>
   obtain ⟨s',β',κ',hs',r'⟩:=h c _ a w ⟨s,β,κ,hs,r⟩;exact ⟨s',β',κ',hs',r'⟩
 | blk id =>
  cases e with
  | exit j =>
   simp only [cC,blk] at hs;cases hb:Nat.beq j id with
   | true =>
    rw [hb] at hs;obtain ⟨s',β',κ',hs',r'⟩:=h c _ a w ⟨s,β,κ,hs,r⟩;refine ⟨s',β',κ',?_,r'⟩;simp only [cC,blk,hb];exact hs'
   | false =>
    rw [hb] at hs;obtain ⟨s',β',κ',hs',r'⟩:=h c _ a w ⟨s,β,κ,hs,r⟩;refine ⟨s',β',κ',?_,r'⟩;simp only [cC,blk,hb];exact hs'
  | _ =>
   obtain ⟨s',β',κ',hs',r'⟩:=h c _ a w ⟨s,β,κ,hs,r⟩;exact ⟨s',β',κ',hs',r'⟩
theorem sS:∀ (k:Nat) {fs:List Fr} {S:AS},rY k fs=true→(S=dead∨eU P (wx k fs) (cC P (fs.drop (k+1)) Q) S)→∀ (c:Cx P) e a w,lift c (cC P (zF k S fs) Q) e a w→lift c (cC P fs Q) e a w
 | 0,[],S,h,_=>by cases h
 | _+1,[],S,h,_=>by cases h
 | 0,f::fs,S,h,h2=>by
  intro c e a w ⟨s,β,κ,hs,r⟩;cases f with
  | seq y =>
   cases e with
   | normal =>
    obtain ⟨β',κ',r'⟩:=(hs:Cv s S) _ c a w β κ r;rcases h2 with h2 | h2
    ·subst h2;exact (zb r').elim
    ·exact ⟨S,β',κ',h2,r'⟩
   | _=>exact ⟨s,β,κ,hs,r⟩
  | blk id=>cases h
  | bar S=>cases h
  | rnd n y=>cases h
 | k+1,f::fs,S,h,h2=>D1 f (sS k (fs:=fs) h h2)
theorem eR (k:Nat) (S:AS) (hk:rY k fs=true) (h1:eU P c (cC P (zF k S fs) Q) s) (h2:eU P (wx k fs) (cC P (fs.drop (k+1)) Q) S):eU P c (cC P fs Q) s :=
 h1.lift (sS k hk (.inr h2))
def KD {ε ρ:Type} (S:ε→AS):Out ε ρ→AS
 | .brk e=>S e
 | .ret _=>dead
theorem Ix {ε ρ:Type} (k:Nat) (S:ε→AS) (R:Out ε ρ) (hk:rY k fs=true) (h1:eU P c (cC P (zF k (KD S R) fs) Q) s) (h2:∀ e,R = .brk e→eU P (wx k fs) (cC P (fs.drop (k+1)) Q) (S e)):eU P c (cC P fs Q) s :=
 h1.lift (sS k hk (by cases R with | brk e=>exact .inr (h2 e rfl) | ret x=>exact .inl rfl))
def nW:Code→Code
 | .loop y=>y
 | _=>.skip
def yp:Code→Bool
 | .loop _=>true
 | _=>false
theorem tN (h:yp c=true):c = .loop (nW c):=by cases c<;>first | rfl | (cases h;done)
def Lf {σ ε ρ:Type} (S:σ→AS):gC σ ε ρ→AS
 | .go x=>S x
 | _=>dead
theorem xx {ι:Type} {y:Code} (S:ι→AS) (φ:ι→Prop) (μ:ι→Nat) (i₀:ι) (h₀:φ i₀)
 (round:∀ i,φ i→∃ T,(T=dead∨∃ j,φ j∧μ j<μ i∧T=S j)∧eU P y (cC P (.bar T::fs) Q) (S i)):eU P (.loop y) (cC P fs Q) (S i₀):=fun c a w β κ r=>by
 refine wp_loop_ghost (fun n a w=>∃ i β κ,φ i∧μ i=n∧Rel c (S i) a w β κ) (μ i₀) ⟨i₀,β,κ,h₀,rfl,r⟩ ?_;rintro n a w ⟨i,β,κ,hi,rfl,r⟩;obtain ⟨T,hT,ht⟩:=round i hi;refine wp_mono (ht c a w β κ r) fun e a' w' ⟨s',β',κ',q,r'⟩ => ?_;cases e with
 | normal =>
  obtain ⟨β2,κ2,r2⟩:=(q:Cv s' T) _ c a' w' β' κ' r';rcases hT with rfl | ⟨j,hj,hlt,rfl⟩
  ·exact (zb r2).elim
  ·exact ⟨μ j,hlt,j,β2,κ2,hj,rfl,r2⟩
 | exit id=>exact ⟨s',β',κ',q,r'⟩
 | goto l=>exact ⟨s',β',κ',q,r'⟩
 | ret=>exact ⟨s',β',κ',q,r'⟩
 | panic ch=>exact ⟨s',β',κ',q,r'⟩
 | outgrown=>exact ⟨s',β',κ',q,r'⟩
theorem KH {σ ε ρ:Type} {body:Nat→σ→Option (gC σ ε ρ)} {fin:Nat→σ→ε} {N i0:Nat} {st0:σ} {R:Out ε ρ} (S:Nat→σ→AS) (hc:yp c=true) (H:eH body fin (N-i0) i0 st0=some R)
 (zero:∀ i st,N≤i→R = .brk (fin i st)→eU P (nW c) (cC P (.bar dead::fs) Q) (S i st))
 (succ:∀ i st,i<N→∀ q,body i st=some q→tP q R→eU P (nW c) (cC P (.bar (Lf (S (i+1)) q)::fs) Q) (S i st)):eU P c (cC P fs Q) (S i0 st0):=by
 rw [tN hc];refine xx (ι:=Nat×σ) (fun x=>S x.1 x.2) (fun x=>eH body fin (N-x.1) x.1 x.2=some R) (fun x=>N-x.1) (i0,st0) H ?_;rintro ⟨i,st⟩ hi;by_cases hN:N≤i
 ·rw [show N-i=0 by omega] at hi;simp only [eH,LK] at hi;exact ⟨dead,.inl rfl,zero i st hN hi.symm⟩
 ·have e:N-i=(N-(i+1))+1:=by omega
  have hi:eH body fin (N-i) i st=some R:=hi;rw [e] at hi;simp only [eH] at hi;refine aQ hi fun q hq hK => ?_;cases q with
  | go st'=>exact ⟨S (i+1) st',.inr ⟨(i+1,st'),hK,by show N-(i+1)<N-i;omega,rfl⟩,succ i st (by omega) _ hq trivial⟩
  | brk e=>exact ⟨dead,.inl rfl,succ i st (by omega) _ hq (LM hK).symm⟩
  | ret e=>exact ⟨dead,.inl rfl,succ i st (by omega) _ hq (LM hK).symm⟩
theorem qU {σ ε ρ:Type} {body:σ→Option (gC σ ε ρ)} {n:Nat} {st0:σ} {R:Out ε ρ} (S:σ→AS) (hc:yp c=true) (H:kz body n st0=some R)
 (succ:∀ st,∀ q,body st=some q→tP q R→eU P (nW c) (cC P (.bar (Lf S q)::fs) Q) (S st)):eU P c (cC P fs Q) (S st0):=by
 rw [tN hc];refine xx (ι:=Nat×σ) (fun x=>S x.2) (fun x=>kz body x.1 x.2=some R) (fun x=>x.1) (n,st0) H ?_;rintro ⟨k,st⟩ hi;cases k with
 | zero=>cases hi
 | succ k =>
  have hi:(body st).bind (zg (kz body k))=some R:=hi;refine aQ hi fun q hq hK => ?_;cases q with
  | go st'=>exact ⟨S st',.inr ⟨(k,st'),hK,Nat.lt_succ_self k,rfl⟩,succ st _ hq trivial⟩
  | brk e=>exact ⟨dead,.inl rfl,succ st _ hq (LM hK).symm⟩
  | ret e=>exact ⟨dead,.inl rfl,succ st _ hq (LM hK).symm⟩
theorem JE {f:FuncId} {fn:Func} {args:List AV} {h h1:List (Nat×AO)} {v:AV} (hf:P.funcs[f]? = some fn) (n:Nat) (rs:List ResultVar) (hok:(r5 fn&&Nat.beq fn.ntmps n&&Nat.ble args.length n)=true) (hrs:fn.results.toList=rs)
 (ht:eU P (vd fn) (cC P [] (HM P rs v h1)) ⟨n,nf args 0,h⟩):bY P f args h (fun r h'=>r=v∧h'=h1):=by
 refine KG hf n rs hok hrs (ht.lift fun c e a w ⟨s,β,κ,q,r⟩ => ?_);have key:(∃ s2 ks,Cv s s2∧wu P s2 rs=some v∧sel ks s2.h=h1)→∃ s β κ,(∃ v' ks,wu P s rs=some v'∧v'=v∧sel ks s.h=h1)∧Rel c s a w β κ:=by rintro ⟨s2,ks,hcv,h2,h3⟩;obtain ⟨β',κ',r'⟩:=hcv _ c a w β κ r;exact ⟨s2,β',κ',⟨v,ks,h2,rfl,h3⟩,r'⟩
 cases e with
 | normal=>exact key q
 | ret=>exact key q
 | exit id=>exact q.elim
 | goto l=>exact q.elim
 | panic ch=>exact q.elim
 | outgrown=>exact q.elim
end
end Go.Ab
namespace Go.Sh
abbrev au:=List UInt8
def dI {ε β:Type} (f:ε→Option β):Out ε Empty→Option β
 | .brk e=>f e
theorem bq {ε β:Type} {f:ε→Option β} {e:ε} {v:β} (h:aft f (.brk e)=some v):f e=some v:=h
theorem aJ {ε β:Type} {f:ε→Option β} {x v:β} (h:aft f (.ret x)=some v):some x=some v:=h
theorem bG {ε β:Type} {f:ε→Option β} {e:ε} {v:β} (h:dI f (.brk e)=some v):f e=some v:=h
theorem iU {σ ε ρ:Type} {e:ε} {R:Out ε ρ} (h:tP (.brk e:gC σ ε ρ) R):R = .brk e:=h
theorem aS {σ ε ρ:Type} {x:ρ} {R:Out ε ρ} (h:tP (.ret x:gC σ ε ρ) R):R = .ret x:=h
def ba {K V:Type} [DecidableEq K] (d:V) (x:K):List (K×V)→V
 | []=>d
 | (k,n)::m=>if k=x then n else ba d x m
def bI {K V:Type} [DecidableEq K] (x:K) (n:V):List (K×V)→List (K×V)
 | []=>[(x,n)]
 | (k,u)::m=>if k=x then (x,n)::m else (k,u)::bI x n m
end Go.Sh
namespace Go.Ab
open Go.RowKit Go.Sh
theorem ym (l:List UInt8) (a:Nat):AV.str ((l.drop a).take (l.length-a)) = .str (l.drop a):=by congr 1;exact List.take_of_length_le (by simp)
theorem HN (l:List UInt8) (b:Nat):AV.str ((l.drop 0).take (b-0)) = .str (l.take b):=by simp
theorem GL {α:Type} (c:α→List AV) (l:List α) (b:Nat):AV.dslice (((l.map c).drop 0).take (b-0)) = .dslice ((l.take b).map c):=by simp [List.map_take]
theorem Ko {α:Type} {c:α→List AV} {sz:Nat} (h:∀ x,(c x).length=sz∧(c x).all (fun v=>v.one&&v.fl)=true) (l:List α):EL sz (l.map c):=by intro y hy;obtain ⟨x,_,rfl⟩:=List.mem_map.1 hy;refine ⟨(h x).1,fun v hv => ?_⟩;have:=LN.1 (h x).2 v hv;simpa [LB] using this
theorem yf {α:Type} {c:α→List AV} {sz:Nat} (h:∀ x,(c x).length=sz∧(c x).all (fun v=>v.one&&v.fl)=true) (xs ys:List α) (by_:Nat) (hb:0<by_) (hc:(xs.length+ys.length)*by_≤140737488355328) :
 cI [EL sz (ys.map c),((xs.map c).length+(ys.map c).length)*by_≤140737488355328,(xs.map c).length+(ys.map c).length≤9223372036854775807]:=by
 refine ⟨Ko h ys,by simpa using hc,?_⟩;have:xs.length+ys.length≤(xs.length+ys.length)*by_:=Nat.le_mul_of_pos_right _ hb;show (xs.map c).length+(ys.map c).length≤_;simp only [LI];omega
theorem Bn {α:Type} (e sz:Nat) (c:α→List AV) (xs ys:List α):AO.row e sz (xs.map c++ys.map c) = .row e sz ((xs++ys).map c):=by rw [List.map_append]
theorem KT {α:Type} (e sz:Nat) (c:α→List AV) (ys:List α):AO.row e sz (([]:List α).map c++ys.map c) = .row e sz (ys.map c):=rfl
def xh (t:TypeId) (ok:Bool):AV:=bif ok then .nilI else .iface t .any
def Hn:List AV→AV
 | v::_=>v
 | []=>.any
class MapKey (K:Type) where
 k:K→Key
 inj:∀ a b,k a=k b→a=b
 kd:Nat
 kind:∀ a,(k a).kind=kd
instance:MapKey au:=⟨Key.s,fun _ _ h=>by injection h,0,fun _=>rfl⟩
instance:MapKey Int:=⟨Key.i,fun _ _ h=>by injection h,1,fun _=>rfl⟩
def nX {K V:Type} [MapKey K] (c:V→List AV) (p:K×V):Key×AV:=(MapKey.k p.1,Hn (c p.2))
abbrev j3 {V:Type} (c:V→List AV) (p:au×V):Key×AV:=nX c p
abbrev dL {V:Type} (c:V→List AV) (p:Int×V):Key×AV:=nX c p
theorem EI {K V:Type} [MapKey K] (c:V→List AV) (x:K) (m:List (K×V)):∀ p∈m.map (nX c),p.1.kind=(MapKey.k x).kind:=fun p hp=>by obtain ⟨q,_,rfl⟩:=List.mem_map.1 hp;exact (MapKey.kind q.1).trans (MapKey.kind x).symm
theorem nT {K V:Type} [MapKey K] [DecidableEq K] {c:V→List AV} (x:K) (d:V):∀ (m:List (K×V)),vh (MapKey.k x) (Hn (c d)) (m.map (nX c))=Hn (c (ba d x m))
 | []=>rfl
 | (k,n)::m=>by
  simp only [List.map_cons,nX,vh,ba];by_cases h:k=x
  ·rw [if_pos h,if_pos (by rw [h])]
  ·rw [if_neg h,if_neg fun e=>h (MapKey.inj _ _ e)];exact nT x d m
theorem jP {K V:Type} [MapKey K] [DecidableEq K] {c:V→List AV} (x:K) (n:V):∀ (m:List (K×V)),ky (MapKey.k x) (Hn (c n)) (m.map (nX c))=(bI x n m).map (nX c)
 | []=>rfl
 | (k,u)::m=>by
  simp only [List.map_cons,nX,ky,bI];by_cases h:k=x
  ·rw [if_pos h,if_pos (by rw [h])];rfl
  ·rw [if_neg h,if_neg fun e=>h (MapKey.inj _ _ e),List.map_cons];exact congrArg _ (jP x n m)
def B6 {V:Type} (p:Int×V):List (Int×V)→List (Int×V)
 | []=>[p]
 | q::l=>if p.1≤q.1 then p::q::l else q::B6 p l
def ksort {V:Type}:List (Int×V)→List (Int×V)
 | []=>[]
 | p::l=>B6 p (ksort l)
theorem th {V:Type} (p:Int×V):∀ l:List (Int×V),(p::l).Perm (B6 p l)
 | []=>.refl _
 | q::l=>by
  unfold B6;split
  ·exact .refl _
  ·exact (List.Perm.swap q p l).trans ((th p l).cons q)
theorem iz {V:Type}:∀ l:List (Int×V),l.Perm (ksort l)
 | []=>.refl _
 | p::l=>((iz l).cons p).trans (th p (ksort l))
theorem xV {V:Type} (c:V→List AV) (l:List (Int×V)):(l.map (dL c)).Perm ((ksort l).map (dL c)):=(iz l).map _
section
variable {P:Program} {Q:Exit→AS→Prop} {s:AS}
def IX (s:AS) (k i:Nat):List Prop:=match lk .gone s.h k with
 | .cells _ cs=>bif Nat.blt i cs.length then zi (cs.getD i .any) else []
 | _=>[]
theorem mJ {cd:Code} (k i:Nat) {ps:List Prop} (h:IX s k i=ps) (ht:cI ps→eU P cd Q s):eU P cd Q s:=fun c a w β κ r=>by
 refine ht ?_ c a w β κ r;subst h;unfold IX;split
 ·rename_i e cs he;cases hb:Nat.blt i cs.length with
  | false=>trivial
  | true =>
   have:=r.hp.ob k;rw [he] at this;obtain ⟨cur,_,_,h3⟩:=this;exact sB (h3 i (by simpa [Nat.blt_eq] using hb))
 ·trivial
def GH (s:AS) (k:Nat):Option Nat:=match lk .gone s.h k with
 | .row _ _ xs=>some xs.length
 | _=>none
theorem uB {cd:Code} (k:Nat) {n:Nat} (h:GH s k=some n) (ht:n≤9223372036854775807→eU P cd Q s):eU P cd Q s:=fun c a w β κ r=>by
 refine ht ?_ c a w β κ r;unfold GH at h;split at h
 ·rename_i e sz xs he;cases h;have:=r.hp.ob k;rw [he] at this;by_cases hx:xs=[]
  ·subst hx;simp
  ·obtain ⟨cur,_,_,h3,h4,_⟩:=this.2 hx;exact Nat.le_trans h3 h4
 ·cases h
end
theorem bQ.is' {P:Program} {f:FuncId} {args:List AV} {v:AV} (h:bQ P f args v):bY P f args [] fun r _=>r=v:=bQ.is h
theorem iS {α:Type} {f:α→List AV} {l:List α} {n:Nat} (sz j m:Nat) (hn:n<l.length) (hj:j+m≤sz):n*sz+j=n*sz+j∧n<(l.map f).length∧j+m≤sz:=⟨rfl,by simpa using hn,hj⟩
theorem eM {α:Type} {f:α→List AV} {l:List α} {n:Nat} (d:α) (h:n<l.length):(l.map f).getD n []=f (l.getD n d):=by simp [Lz,LA h]
theorem tJ {α:Type} {f:α→List AV} {l:List α} {n:Nat} (d:α) (j:Nat) (h:n<l.length):((l.map f).getD n []).getD j .any=(f (l.getD n d)).getD j .any:=by rw [eM d h]
theorem E2 {α:Type} {f:α→List AV} {l:List α} {n:Nat} (d:α) (j m:Nat) (h:n<l.length):AV.agg ((((l.map f).getD n []).drop j).take m) = .agg (((f (l.getD n d)).drop j).take m):=by rw [eM d h]
theorem uE {α:Type} {f:α→List AV} (e sz:Nat) (l:List α) (n:Nat) (d x:α) (j:Nat) (vs:List AV) (h:n<l.length) (hx:ep (f (l.getD n d)) j vs=f x):AO.row e sz ((l.map f).set n (ep ((l.map f).getD n []) j vs)) = .row e sz ((l.set n x).map f):=by rw [eM d h,hx,List.map_set]
theorem Jn {α:Type} {c:α→List AV} {sz:Nat} (h:∀ x,(c x).length=sz∧(c x).all (fun v=>v.one&&v.fl)=true) (xs ys:List α) (by_:Nat) (hb:0<by_) (hc:(xs.length+ys.length)*by_≤140737488355328) {zs:List (List AV)} (hz:xs.map c++ys.map c=zs) :
 cI [EL sz (ys.map c),((xs.map c).length+(ys.map c).length)*by_≤140737488355328,(xs.map c).length+(ys.map c).length≤9223372036854775807,xs.map c++ys.map c=zs]:=by
 obtain ⟨h1,h2,h3⟩:=yf h xs ys by_ hb hc;exact ⟨h1,h2,h3,hz⟩
open Go.Proofs
theorem vN {P:Program} {f:FuncId} {args:List AV} {v:AV} (hfl:AV.flL args=true)
 (h:∀ (w:World) (X:Nat→Prop) (vs:List Value),vs.length=args.length→(∀ b,X b→b<w.heap.size)→(∀ i,i<args.length→D w X (args.getD i .any) (vs.getD i undef))→GP P w→Calls P f vs.toArray w fun e w'=>∃ V,e = .returned V∧Below w.heap.size w w'∧D w' X v V):bQ P f args v:=by
 intro c vs hl hr hg;have hX:∀ b,c.XX [] c.β b→c.X b:=fun b hb=>hb.resolve_right fun ⟨k,hk,_⟩=>mT hk;refine (h c.W c.X vs hl c.hX (fun i hi=>((hg i hi).toD (jc hi hfl)).mono (fun _ _ _=>rfl) (fun b hb _ hb'=>hb (.inl hb'))) (c.gp _ (dy.refl _ _))).mono fun e w' ⟨V,e1,hb,hd⟩ => ?_;have hk:dy c.K c.W w':=⟨hb.os,hb.tape,hb.output,hb.size,fun b hb2=>hb.block b (c.hK b hb2)⟩;exact ⟨V,v,[],c.β,c.κ,e1,⟨rfl,rfl⟩,(fy.nil (hk)),.d (hd.mono (fun _ _ _=>rfl) (fun b hb2 _ hb3=>hb2 (hX b hb3)))⟩
section
variable {P:Program} {ρ:Go.Shelf.Ren}
theorem D.str_inv {w:World} {X:Nat→Prop} {s:List UInt8} {V:Value} (h:D w X (.str s) V):V = .string ⟨s.toArray⟩∧s.length≤maxLen:=by cases h;exact ⟨rfl,by assumption⟩
theorem D.int_inv {w:World} {X:Nat→Prop} {k:IntKind} {n:Int} {V:Value} (h:D w X (.int k n) V):V = .int k n:=by cases h;rfl
theorem K7 {vs:List Value} (h:vs.length=1):vs=[vs.getD 0 undef]:=by
 match vs,h with
 | [v],_=>rfl
theorem KQ {vs:List Value} (h:vs.length=2):vs=[vs.getD 0 undef,vs.getD 1 undef]:=by
 match vs,h with
 | [v,u],_=>rfl
theorem BL (w:World) (k:Nat) (os:Array Obj):Below w.heap.size w (Go.Sort.grow (w.drewN k) os):=by refine ⟨rfl,rfl,rfl,by simp [Go.Sort.grow,World.drewN],fun b hb => ?_⟩;simp [Go.Sort.grow,World.drewN,Array.getElem?_append,hb]
def DM (n:Int):au:=bif decide (0≤n)&&decide (n<10) then [UInt8.ofNat (48+n.toNat)] else Lib.itoa n
theorem pV:DM=Lib.itoa:=by
 funext n;unfold DM;by_cases h:0≤n∧n<10
 ·rw [LH h.1,LH h.2];obtain ⟨k,rfl⟩:∃ k:Nat,n=(k:Int):=⟨n.toNat,by omega⟩;rw [Lib.itoa_nonneg,Lib.decDigits,dif_pos (by omega)];rfl
 ·by_cases h1:0≤n
  ·rw [LG (show ¬ n<10 from fun h2=>h ⟨h1,h2⟩),Bool.and_false];rfl
  ·rw [LG h1];rfl
def gS (n:Int):Option au:=bM (-9223372036854775808≤n∧n≤9223372036854775807∧(DM n).length≤9223372036854775807) <| some (DM n)
theorem Gk (L:LaysM.n171 P ρ) (hg:P.globalNamed "internal/strconv.uint64pow10" ≠ none) (n:Int) (r:au) (H:gS n=some r):bQ P (ρ.f 171) [.int .i64 n] (.str r):=by unfold gS at H;rw [pV] at H;refine aK H fun hn H => ?_;refine cR H fun e => ?_;subst e;refine vN rfl fun w X vs hl _ hd gp => ?_;have h0:=(hd 0 (by simp)).int_inv;rw [K7 (vs:=vs) (by simpa using hl),h0];refine (Any.strconv_Itoa L n hn.1 hn.2.1 w (gp.pow10 hg)).mono fun e w' ⟨e1,k,os,e2⟩ => ?_;exact ⟨_,e1,by rw [e2];exact BL w k os,.str _ hn.2.2⟩
def oO (s:au):Int×Bool:=match Lib.atoiAll s with | .ok v=>(v,true) | .range=>(Lib.atoiSat s,false) | _=>(0,false)
def lg (s:au):Option (Int×Bool):=bM (s.length≤281474976710656) <| some (oO s)
theorem zR (w:World) (a:Addr) (n b:Nat) (h:b≠a.block):(w.freeze a n).heap[b]? = w.heap[b]? := by
 unfold World.freeze;split
 ·rfl
 ·simp [Array.getElem?_modify,Ne.symm h]
theorem zP (w:World) (e:TypeId) (s:ByteArray):Below w.heap.size w (Lib.bytesWorld w e s):=by
 unfold Lib.bytesWorld;have h1:Below w.heap.size w (w.drew.alloc (.cells (Lib.bytesCells w e s) e)):=(Below.refl _ w).drew.alloc (Nat.le_refl _) _;have hsz:((w.drew.alloc (.cells (Lib.bytesCells w e s) e)).freeze ⟨w.heap.size,(Lib.bytesCells w e s).size,none⟩ 1).heap.size=(w.drew.alloc (.cells (Lib.bytesCells w e s) e)).heap.size:=by
  unfold World.freeze;split
  ·rfl
  ·simp
 have hf:∀ (w:World) (a:Addr) (n:Nat),(w.freeze a n).os=w.os∧(w.freeze a n).tape=w.tape∧(w.freeze a n).output=w.output:=by intro w a n;unfold World.freeze;split<;>exact ⟨rfl,rfl,rfl⟩
 obtain ⟨f1,f2,f3⟩:=hf (w.drew.alloc (.cells (Lib.bytesCells w e s) e)) ⟨w.heap.size,(Lib.bytesCells w e s).size,none⟩ 1;exact ⟨f1.trans h1.os,f2.trans h1.tape,f3.trans h1.output,by rw [hsz];exact h1.size,fun b hb=>(zR _ _ _ _ (by show b≠w.heap.size;omega)).trans (h1.block b hb)⟩
theorem D.pair {w:World} {X:Nat→Prop} {a b:AV} {A B:Value} (ha:D w X a A) (hb:D w X b B):D w X (.tup [a,b]) (.tuple #[A,B]) :=
 .tup _ _ rfl fun i hi=>by
  match i,hi with
  | 0,_=>exact ha
  | 1,_=>exact hb
theorem GM (L:LaysC.n172 P ρ) (hg1:P.globalNamed "strconv.ErrSyntax" ≠ none) (hg2:P.globalNamed "strconv.ErrRange" ≠ none) (s:au) (r:Int×Bool) (H:lg s=some r):bQ P (ρ.f 172) [.str s] (.tup [.int .i64 r.1,xh (ρ.t 168) r.2]):=by
 unfold lg at H;refine aK H fun hn H => ?_;refine cR H fun e => ?_;subst e;refine vN rfl fun w X vs hl _ hd gp => ?_;have h0:=(hd 0 (by simp)).str_inv.1;rw [K7 (vs:=vs) (by simpa using hl),h0];have hsz:ByteArray.size ⟨s.toArray⟩=s.length:=by simp [ByteArray.size]
 unfold oO;cases hr:Lib.atoiAll s with
 | ok v =>
  refine (Any.strconv_Atoi_ok L ⟨s.toArray⟩ (by rw [hsz];omega) v (by simpa using hr) w).mono fun e w' ⟨e1,e2⟩ => ?_;refine ⟨_,e1,?_,.pair (.int _ _) .nilI⟩;rcases e2 with rfl | ⟨t,rfl⟩
  ·exact .refl _ _
  ·exact zP _ _ _
 | range =>
  obtain ⟨tp,p,hv⟩:=gp.rng hg2;refine (Any.strconv_Atoi_range_var L ⟨s.toArray⟩ (by rw [hsz];exact hn) (by simpa using hr) tp p w hv).mono fun e w' ⟨N,e1,_,_,e2⟩ => ?_;refine ⟨_,e1,e2,.pair ?_ (.iface _ _ _ (.any _))⟩;simp only [List.toList_toArray];exact .int _ _
 | _ =>
  obtain ⟨tp,p,hv⟩:=gp.syn hg1;refine (Any.strconv_Atoi_syntax_var L ⟨s.toArray⟩ (by rw [hsz];exact hn) (by simpa using hr) tp p w hv).mono fun e w' ⟨N,e1,_,_,e2⟩ => ?_;exact ⟨_,e1,e2,.pair (.int _ _) (.iface _ _ _ (.any _))⟩
def mZ (x:au):List AV:=[.str x]
end
end Go.Ab
namespace Go.Sh
open Classical in
section
variable {K V σ ε β:Type}
def MR (m:List (K×V)) (body:K×V→σ→Option (gC σ ε β)) (C:σ→Prop) (J:β→Prop):Nat→List Nat→σ→Prop
 | 0,seen,s=>(∀ i,i<m.length→i∈seen)∧C s
 | n+1,seen,s=>(∃ i,i<m.length∧i ∉ seen)∧∀ i (h:i<m.length),i ∉ seen→∃ q,body m[i] s=some q∧match q with
  | .go s'=>MR m body C J n (seen++[i]) s'
  | .brk _=>False
  | .ret x=>J x
theorem MR.uniq {m:List (K×V)} {body:K×V→σ→Option (gC σ ε β)} {k:σ→Option β} {v v':β}:∀ {n:Nat} {seen:List Nat} {s:σ},MR m body (fun s=>k s=some v) (· = v) n seen s→MR m body (fun s=>k s=some v') (· = v') n seen s→v=v'
 | 0,_,_,h,h'=>LM (h.2.symm.trans h'.2)
 | n+1,seen,s,h,h'=>by
  obtain ⟨⟨i,hi,hn⟩,h⟩:=h;obtain ⟨q,hq,h1⟩:=h i hi hn;obtain ⟨q',hq',h2⟩:=h'.2 i hi hn;rw [hq] at hq';cases hq';cases q with
  | go s'=>exact MR.uniq h1 h2
  | brk e=>exact h1.elim
  | ret x=>exact h1.symm.trans h2
open Classical in
noncomputable def zC (m:List (K×V)) (body:K×V→σ→Option (gC σ ε β)) (s:σ) (k:σ→Option β):Option β :=
 if h:∃ v,MR m body (fun s=>k s=some v) (· = v) m.length [] s then some h.choose else none
theorem Bw {m:List (K×V)} {body:K×V→σ→Option (gC σ ε β)} {s:σ} {k:σ→Option β} {v:β} (H:zC m body s k=some v):MR m body (fun s=>k s=some v) (· = v) m.length [] s:=by
 unfold zC at H;split at H
 ·rename_i h;cases H;exact h.choose_spec
 ·cases H
theorem GO {m:List (K×V)} {body:K×V→σ→Option (gC σ ε β)} {s:σ} {k:σ→Option β} {v:β} (h:MR m body (fun s=>k s=some v) (· = v) m.length [] s):zC m body s k=some v:=by have h':∃ v,MR m body (fun s=>k s=some v) (· = v) m.length [] s:=⟨v,h⟩;unfold zC;rw [dif_pos h'];exact congrArg some (MR.uniq h'.choose_spec h)
noncomputable def nY (m:List (K×V)) (body:K×V→σ→Option (gC σ ε β)) (s:σ) (k:σ→Option β):Option β :=
 match m with
 | []=>k s
 | [e]=>match body e s with
  | some (.go s')=>k s'
  | some (.ret x)=>some x
  | _=>none
 | e::e'::m=>zC (e::e'::m) body s k
theorem CC {m:List (K×V)} {body:K×V→σ→Option (gC σ ε β)} {s:σ} {k:σ→Option β} {v:β} (H:nY m body s k=some v):MR m body (fun s=>k s=some v) (· = v) m.length [] s:=by
 match m,H with
 | [],H=>exact ⟨fun i h=>absurd h (Nat.not_lt_zero i),H⟩
 | [e],H =>
  refine ⟨⟨0,Nat.one_pos,List.not_mem_nil⟩,fun i h _ => ?_⟩;have hi:i=0:=Nat.lt_one_iff.1 h;subst hi;have H:(match body e s with | some (.go s')=>k s' | some (.ret x)=>some x | _=>none)=some v:=H;show ∃ q,body e s=some q∧_;cases hb:body e s with
  | none=>rw [hb] at H;cases H
  | some q =>
   rw [hb] at H;refine ⟨q,rfl,?_⟩;cases q with
   | go s' =>
    refine ⟨fun i h => ?_,H⟩;have h0:i=0:=Nat.lt_one_iff.1 h;subst h0;exact List.mem_singleton.2 rfl
   | brk x=>cases H
   | ret x=>exact LM H
 | e::e'::m,H=>exact Bw H
theorem pF {m:List (K×V)} {body:K×V→σ→Option (gC σ ε β)} {s:σ} {k:σ→Option β} {v:β} (h:MR m body (fun s=>k s=some v) (· = v) m.length [] s):nY m body s k=some v:=by
 match m,h with
 | [],h=>exact h.2
 | [e],h =>
  obtain ⟨q,hb,hq⟩:=h.2 0 Nat.one_pos List.not_mem_nil;have hb:body e s=some q:=hb;show (match body e s with | some (.go s')=>k s' | some (.ret x)=>some x | _=>none)=some v;rw [hb];cases q with
  | go s'=>exact hq.2
  | brk x=>exact hq.elim
  | ret x=>exact congrArg some hq
 | e::e'::m,h=>exact GO h
end
end Go.Sh
namespace Go.Ab
open Go.RowKit Go.Sh
section
variable {P:Program} {Q:Exit→AS→Prop} {c:Code} {fs:List Fr} {s:AS}
def nb (q b:Bool):Bool:=bif q then b else !b
theorem Cf {ι:Type} {y:Code} (S:ι→AS) (φ:ι→Prop) (μ:ι→Nat) (i₀:ι) (h₀:φ i₀)
 (round:∀ i,φ i→eU P y (Kk (fun s=>Cv s dead∨∃ j,φ j∧μ j<μ i∧Cv s (S j)) (cC P fs Q)) (S i)):eU P (.loop y) (cC P fs Q) (S i₀):=fun c a w β κ r=>by
 refine wp_loop_ghost (fun n a w=>∃ i β κ,φ i∧μ i=n∧Rel c (S i) a w β κ) (μ i₀) ⟨i₀,β,κ,h₀,rfl,r⟩ ?_;rintro n a w ⟨i,β,κ,hi,rfl,r⟩;refine wp_mono (round i hi c a w β κ r) fun e a' w' ⟨s',β',κ',q,r'⟩ => ?_;cases e with
 | normal =>
  rcases (q:Cv s' dead∨∃ j,φ j∧μ j<μ i∧Cv s' (S j)) with hd | ⟨j,hj,hlt,hcv⟩
  ·obtain ⟨β2,κ2,r2⟩:=hd _ c a' w' β' κ' r';exact (zb r2).elim
  ·obtain ⟨β2,κ2,r2⟩:=hcv _ c a' w' β' κ' r';exact ⟨μ j,hlt,j,β2,κ2,hj,rfl,r2⟩
 | exit id=>exact ⟨s',β',κ',q,r'⟩
 | goto l=>exact ⟨s',β',κ',q,r'⟩
 | ret=>exact ⟨s',β',κ',q,r'⟩
 | panic ch=>exact ⟨s',β',κ',q,r'⟩
 | outgrown=>exact ⟨s',β',κ',q,r'⟩
def vj:Code→Option (Oper×List Oper×Code)
 | .loop (.seq (.region _ ops false) y)=>match ops.toList with
  | o::rest=>some (o,rest,y)
  | []=>none
 | _=>none
theorem zG {o:Oper} {rest:List Oper} {y:Code} (h:vj c=some (o,rest,y)):∃ id,c = .loop (.seq (.region id (o::rest).toArray false) y):=by
 unfold vj at h;split at h
 ·rename_i id ops y';split at h
  ·rename_i o' rest' e;cases h;refine ⟨id,?_⟩;rw [← e]
  ·cases h
 ·cases h
def HW (ops:Array Oper) (s:AS) (o:Oper) (k:Nat):Bool:=xa true (gd ops s o)&&(match o.op with
 | .next it false=>(match s.op it with | .hptr k' 0=>Nat.beq k' k | _=>false)
 | _=>false)
theorem Eu {ops:Array Oper} {o:Oper} {k:Nat} (h:HW ops s o k=true):gd ops s o=some true∧∃ it,o.op = .next it false∧s.op it = .hptr k 0:=by
 unfold HW at h;rw [LB] at h;refine ⟨cr h.1,?_⟩;have h:=h.2;split at h
 ·rename_i it e;refine ⟨it,e,?_⟩;split at h
  ·rename_i k' e2;rw [dO.1 h] at e2;exact e2
  ·cases h
 ·cases h
def xn (P:Program) (ops:Array Oper) (rest:List Oper) (ds:List sA) (dst:Option Tmp) (v:AV) (s:AS):Option (List Prop×AS):=match s.put dst v with
 | some s'=>match AQ P ops rest ds s' with
  | some (ps,s2,[])=>some (ps,s2)
  | _=>none
 | none=>none
def Ln {K V:Type} [MapKey K] (c:V→List AV) (e:K×V):AV:=.tup [.bool true,(MapKey.k e.1).av,Hn (c e.2)]
def Kp {σ ε ρ:Type} (S:σ→AS):gC σ ε ρ→AS
 | .go x=>S x
 | _=>dead
theorem xo {K V:Type} [MapKey K] {cc:V→List AV} {m:List (K×V)} {i:Nat} (h:i<m.length):(m.map (nX cc)).getD i default=nX cc m[i]:=by simp [Lz,LA h]
theorem JQ {K V σ ε β:Type} [MapKey K] {cc:V→List AV} {m:List (K×V)} {body:K×V→σ→Option (gC σ ε β)} {k:σ→Option β} {st0:σ} {v:β} (kk:Nat) (S:List Nat→σ→AS) {o:Oper} {rest:List Oper} {y:Code} (hc:vj c=some (o,rest,y))
 (H:nY m body st0 k=some v) (ds:List sA)
 (hn:∀ seen st,HW (o::rest).toArray (S seen st) o kk=true∧lk .gone (S seen st).h kk = .iter (m.map (nX cc)) seen)
 (S0:List Nat→σ→AS) (h0:∀ seen st,xn P (o::rest).toArray rest ds o.dst (.tup [.bool false]) (S seen st)=some ([],S0 seen st))
 (S1:List Nat→σ→Nat→K×V→AS) (h1:∀ seen st i e,xn P (o::rest).toArray rest ds o.dst (Ln cc e) ⟨(S seen st).n,(S seen st).t,ins kk (.iter (m.map (nX cc)) (seen++[i])) (S seen st).h⟩=some ([],S1 seen st i e))
 (done:∀ seen st,k st=some v→eU P y (cC P (.bar dead::fs) Q) (S0 seen st))
 (step:∀ seen st i e,(∃ h:i<m.length,m[i]=e)→∀ q,body e st=some q→tP q (.ret v)→eU P y (cC P (.bar (Kp (S (seen++[i])) q)::fs) Q) (S1 seen st i e)):eU P c (cC P fs Q) (S [] st0):=by
 obtain ⟨id,rfl⟩:=zG hc;refine Cf (ι:=Nat×List Nat×σ) (fun x=>S x.2.1 x.2.2) (fun x=>MR m body (fun s=>k s=some v) (· = v) x.1 x.2.1 x.2.2) (fun x=>x.1) (m.length,[],st0) (CC H) ?_;rintro ⟨n,seen,st⟩ hi;have hi:MR m body (fun s=>k s=some v) (· = v) n seen st:=hi;obtain ⟨hnx,hlk⟩:=hn seen st;obtain ⟨hg,it,hop,hit⟩:=Eu hnx;refine DI ?_;have h0':=h0 seen st;unfold xn at h0';split at h0';case h_2=>cases h0'
 rename_i s0 hs0;split at h0';case h_2=>cases h0'
 rename_i ps0 s02 hr0;simp only [LK,Prod.mk.injEq] at h0';obtain ⟨rfl,e0⟩:=h0';have h1':∀ i (hi:i<m.length),∃ s1,AS.put ⟨(S seen st).n,(S seen st).t,ins kk (.iter (m.map (nX cc)) (seen++[i])) (S seen st).h⟩ o.dst (.tup [.bool true,((m.map (nX cc)).getD i default).1.av,((m.map (nX cc)).getD i default).2])=some s1∧AQ P (o::rest).toArray rest ds s1=some ([],S1 seen st i m[i],[]):=by
  intro i hi;have h:=h1 seen st i m[i];unfold xn at h;rw [xo hi];split at h;case h_2=>cases h
  rename_i s1 hs1;split at h;case h_2=>cases h
  rename_i ps1 s12 hr1;simp only [LK,Prod.mk.injEq] at h;obtain ⟨rfl,rfl⟩:=h;exact ⟨s1,hs1,hr1⟩
 refine vY (Cb (Iq hg hop hit hlk (fun hall=>⟨s0,hs0,k8 ds hr0 trivial (DD ?_)⟩) (fun i hi2 hns => ?_)))
 ·
  have hall:∀ i,i<m.length→i∈seen:=fun i hi=>hall i (by simpa using hi);cases n with
  | succ n =>
   obtain ⟨⟨i,hi2,hns⟩,_⟩:=hi;exact absurd (hall i hi2) hns
  | zero =>
   rw [e0];refine eU.mono (done seen st hi.2) fun e s hq => ?_;cases e with
   | normal=>exact .inl hq
   | _=>exact hq
 ·have hi2:i<m.length:=by simpa using hi2
  obtain ⟨s1,hs1,hr1⟩:=h1' i hi2;refine ⟨s1,hs1,k8 ds hr1 trivial (DD ?_)⟩;cases n with
  | zero=>exact absurd (hi.1 i hi2) hns
  | succ n =>
   obtain ⟨_,hi⟩:=hi;obtain ⟨q,hq,hK⟩:=hi i hi2 hns;have ho:tP q (.ret v):=by
    cases q with
    | go s'=>trivial
    | brk e=>exact hK.elim
    | ret x=>exact congrArg Out.ret hK.symm
   refine eU.mono (step seen st i m[i] ⟨hi2,rfl⟩ q hq ho) fun e s hs => ?_;cases e with
   | normal =>
    cases q with
    | go s'=>exact .inr ⟨(n,seen++[i],s'),hK,Nat.lt_succ_self n,hs⟩
    | brk e=>exact .inl hs
    | ret x=>exact .inl hs
   | _=>exact hs
theorem jO (seen:List Nat) (i:Nat):(seen++[i]).getLast? = some i:=by simp
theorem wg {K V:Type} [MapKey K] {cc:V→List AV} {m:List (K×V)} {i:Nat} {e:K×V} (h:∃ h:i<m.length,m[i]=e):AV.tup [((m.map (nX cc)).getD i default).1.av,((m.map (nX cc)).getD i default).2] = .tup [(MapKey.k e.1).av,Hn (cc e.2)]:=by obtain ⟨hi,rfl⟩:=h;rw [xo hi];rfl
end
theorem Kc {l:List AV} (h:l.all (fun v=>v.one&&v.fl)=true):AV.fl (Hn l)=true:=by
 cases l with
 | nil=>rfl
 | cons v l=>simp only [List.all_cons,LB] at h;exact h.1.2
theorem uy {K V:Type} [MapKey K] {c:V→List AV} {sz:Nat} (h:∀ x,(c x).length=sz∧(c x).all (fun v=>v.one&&v.fl)=true) (m:List (K×V)):Kg (m.map (nX c)):=by intro p hp;obtain ⟨x,_,rfl⟩:=List.mem_map.1 hp;exact Kc (h x.2).2
theorem La {V:Type} {c:V→List AV} {sz:Nat} (h:∀ x,(c x).length=sz∧(c x).all (fun v=>v.one&&v.fl)=true) (x:Int) (v:V) (m:List (Int×V)):Kg (ky (.i x) (Hn (c v)) (m.map (dL c)))∧(ky (.i x) (Hn (c v)) (m.map (dL c))).Perm ((ksort (bI x v m)).map (dL c)):=by have e:ky (.i x) (Hn (c v)) (m.map (dL c))=(bI x v m).map (dL c):=jP x v m;rw [e];exact ⟨uy h _,xV c _⟩
section
variable {P:Program}
def AV.vwT (h:List (Nat×AO)):AV→AV
 | .tup cs=>.tup (cs.map (AV.vw1 h))
 | v=>AV.vw h v
theorem G.vwT {c:Cx P} {h:List (Nat×AO)} {w:World} {β:Nat→Nat} {κ:Nat→Nat×Nat} (r:fy c h w β κ) {v:AV} {V:Value} (hg:G w (c.XX h β) β κ v V):D w c.X (AV.vwT h v) V:=by
 unfold AV.vwT;split
 ·obtain ⟨vs,rfl,hl,hgs⟩:=hg.tup_inv;refine .tup _ _ (by simpa using hl) fun i hi => ?_;have e:∀ cs:List AV,(cs.map (AV.vw1 h)).getD i .any=AV.vw1 h (cs.getD i .any):=fun cs=>getD_map (AV.vw1 h) cs i .any .any rfl;rw [e];exact (hgs i (by simpa using hi)).vw1 r
 ·exact hg.vw r
theorem bY.frz {f:FuncId} {args:List AV} {h0 h1:List (Nat×AO)} {v u:AV} (h:bY P f args h0 fun r h'=>r=v∧h'=h1) (hu:AV.vwT h1 v=u):bY P f args h0 fun r h'=>r=u∧h'=[]:=by subst hu;intro c vs hl hr hg;refine (h c vs hl hr hg).mono fun e w' ⟨V,v',h',β',κ',e1,⟨e2,e3⟩,hr',hG⟩ => ?_;subst e2;subst e3;refine ⟨V,_,[],β',κ',e1,⟨rfl,rfl⟩,fy.nilA hr'.kp hr'.fix,.d ((hG.vwT hr').mono (fun _ _ _=>rfl) fun b hb _ hb2=>hb (hb2.resolve_right fun ⟨_,h,_⟩=>mT h))⟩
end
section
variable {P:Program} {Q:Exit→AS→Prop} {c:Code} {fs:List Fr} {s:AS}
def Lp:Oper×List Oper×Code:=(⟨none,.panic (.const .nilIface),0, "", #[],none⟩,[],.skip)
def nx (c:Code):Oper×List Oper×Code:=(vj c).getD Lp
theorem qq {K V σ ε β:Type} [MapKey K] {cc:V→List AV} {m:List (K×V)} {body:K×V→σ→Option (gC σ ε β)} {k:σ→Option β} {st0:σ} {v:β} (kk:Nat) (S:List Nat→σ→AS) (hc:(vj c).isSome=true)
 (H:nY m body st0 k=some v) (ds:List sA)
 (hn:∀ seen st,HW ((nx c).1::(nx c).2.1).toArray (S seen st) (nx c).1 kk=true∧lk .gone (S seen st).h kk = .iter (m.map (nX cc)) seen)
 (S0:List Nat→σ→AS) (h0:∀ seen st,xn P ((nx c).1::(nx c).2.1).toArray (nx c).2.1 ds (nx c).1.dst (.tup [.bool false]) (S seen st)=some ([],S0 seen st))
 (S1:List Nat→σ→Nat→K×V→AS) (h1:∀ seen st i e,xn P ((nx c).1::(nx c).2.1).toArray (nx c).2.1 ds (nx c).1.dst (Ln cc e) ⟨(S seen st).n,(S seen st).t,ins kk (.iter (m.map (nX cc)) (seen++[i])) (S seen st).h⟩=some ([],S1 seen st i e))
 (done:∀ seen st,k st=some v→eU P (nx c).2.2 (cC P (.bar dead::fs) Q) (S0 seen st))
 (step:∀ seen st i e,(∃ h:i<m.length,m[i]=e)→∀ q,body e st=some q→tP q (.ret v)→eU P (nx c).2.2 (cC P (.bar (Kp (S (seen++[i])) q)::fs) Q) (S1 seen st i e)):eU P c (cC P fs Q) (S [] st0):=by
 obtain ⟨x,hx⟩:=Option.isSome_iff_exists.1 hc;have e:nx c=x:=by unfold nx;rw [hx];rfl
 refine JQ (o:=(nx c).1) (rest:=(nx c).2.1) (y:=(nx c).2.2) kk S (by rw [e,hx]) H ds hn S0 h0 S1 h1 done step
end
open Go.Proofs Go.Sort
section
variable {P:Program} {ρ:Go.Shelf.Ren}
def Kq {α:Type} (le:α→α→Bool):List α→Bool
 | []=>true
 | x::l=>l.all (le x)&&Kq le l
theorem Fu {α:Type} {le:α→α→Bool}:∀ {l:List α},Kq le l=true→l.Pairwise (fun a b=>le a b=true)
 | [],_=>.nil
 | x::l,h=>by unfold Kq at h;simp only [LB,LN] at h;exact .cons h.1 (Fu h.2)
def wo {α:Type} (xs:List α) (le:α→α→Bool):List α:=bif Kq le xs then xs else xs.mergeSort le
theorem rR {α:Type} (xs:List α) (le:α→α→Bool):wo xs le=xs.mergeSort le:=by
 unfold wo;cases h:Kq le xs with
 | false=>rfl
 | true=>exact (List.mergeSort_of_pairwise (Fu h)).symm
theorem msort_perm {α:Type} (xs:List α) (le:α→α→Bool):(wo xs le).Perm xs:=rR xs le ▸ List.mergeSort_perm xs le
theorem xL {α:Type} (xs:List α) (le:α→α→Bool):(wo xs le).length=xs.length:=(msort_perm xs le).length_eq
theorem msort_pw {α:Type} {le:α→α→Bool} (h1:∀ a b c,le a b=true→le b c=true→le a c=true) (h2:∀ a b,(le a b||le b a)=true) (xs:List α):(wo xs le).Pairwise (fun a b=>le a b=true):=rR xs le ▸ List.pairwise_mergeSort h1 h2 xs
def sortS (xs:List au):List au:=wo xs fun x y=>decide (x≤y)
def jZ (xs:List au):Option (List au):=bM (xs.length<4611686018427387904) <| some (sortS xs)
theorem Bu (L:Lays.n190 P ρ) (xs r:List au) (H:jZ xs=some r) :
 bY P (ρ.f 190) [.rslice 1000] [(1000,.row (ρ.t 9) 1 (xs.map mZ))] (fun v h=>v = .tup []∧h=[(1000,.row (ρ.t 9) 1 (r.map mZ))]):=by
 unfold jZ at H;refine aK H fun hn H => ?_;refine cR H fun e => ?_;subst e;have hlen:(sortS xs).length=xs.length:=xL ..;intro c vs hl hr hg;have hv:vs=[vs.getD 0 undef]:=K7 (by simpa using hl);have h0:G c.W (c.XX [(1000,.row (ρ.t 9) 1 (xs.map mZ))] c.β) c.β c.κ (.rslice 1000) (vs.getD 0 undef):=hg 0 (by simp);have ho:HO c.W (c.XX [(1000,.row (ρ.t 9) 1 (xs.map mZ))] c.β) c.β c.κ 1000 (.row (ρ.t 9) 1 (xs.map mZ)):=hr.ob 1000;have hk2:(c.κ 1000).2=xs.length:=by simpa using ho.1
 have hlk:∀ (ys:List au) k,lk AO.gone [(1000,AO.row (ρ.t 9) 1 (ys.map mZ))] k=if k=1000 then .row (ρ.t 9) 1 (ys.map mZ) else .gone:=by
  intro ys k;simp only [lk];by_cases e:k=1000
  ·subst e;simp
  ·rw [dm e];simp [e]
 have hlive:∀ (ys:List au) k,lv [(1000,AO.row (ρ.t 9) 1 (ys.map mZ))] k→k=1000∧ys≠[]:=by
  rintro ys k (h | ⟨m,i,_,h⟩)
  ·rw [hlk] at h;by_cases e:k=1000
   ·subst e;rw [if_pos rfl] at h;exact ⟨rfl,fun e=>by subst e;exact h rfl⟩
   ·rw [if_neg e] at h;exact h.elim
  ·rw [hlk] at h;by_cases e:m=1000
   ·rw [if_pos e] at h;exact h.elim
   ·rw [if_neg e] at h;exact h.elim
 rcases h0.rslice_inv with ⟨hpos,hV⟩ | ⟨hz,ad,hV⟩
 ·
  have hne:xs≠[]:=by intro e;subst e;rw [hk2] at hpos;simp at hpos
  obtain ⟨cur,h1,h2,h3,h4,h5,h6,h7⟩:=ho.2 (by simpa using hne);simp only [LI,Nat.mul_one] at h2 h3 h6 h7;have hcur:∀ j (hj:j<xs.length),cur.getD j undef=encStr xs[j]∧xs[j].length≤maxLen:=by
   intro j hj;have:=h7 j 0 hj (by omega);rw [Nat.add_zero,eM (d:=([]:au)) hj] at this;have e1:(mZ (xs.getD j [])).getD 0 .any = .str xs[j]:=by show AV.str (xs.getD j [])=_;rw [Lz,LA hj];rfl
   rw [e1] at this;have:=this.str_inv;exact ⟨this.1,this.2⟩
  have hsz:c.β 1000<c.W.heap.size:=(Array.getElem?_eq_some_iff.1 h1).1;have hH:Holds encStr c.W (c.β 1000) 0 xs.toArray:=by
   intro j hj;have hj:j<xs.length:=by simpa using hj
   rw [Nat.zero_add];refine ⟨?_,?_⟩
   ·rw [cW h1 (by omega),(hcur j hj).1];simp [hj]
   ·simp [World.frozen?,h1]
  rw [hv,hV,hk2];refine (Any.slices_Sort_string L (c.β 1000) 0 (c.κ 1000).1 xs c.W hH hsz hn).mono fun e w' ⟨e1,n,os,e2⟩ => ?_;have hsortE:(xs.mergeSort fun x y=>decide (x≤y))=sortS xs:=(rR ..).symm;rw [hsortE] at e2;subst e2;let cur':=putCells encStr 0 (sortS xs).toArray cur
  have hblk:(grow (putRow encStr (Sort.ahead c.W n) (c.β 1000) 0 (sortS xs).toArray) os).heap[c.β 1000]? = some (.cells cur' (ρ.t 9) (0,0)):=by simp only [grow,putRow,mapBlock,Sort.ahead];rw [Array.getElem?_append_left (by simpa using hsz),Array.getElem?_modify,if_pos rfl,h1];rfl
  have hoth:∀ b,b≠c.β 1000→b<c.W.heap.size→(grow (putRow encStr (Sort.ahead c.W n) (c.β 1000) 0 (sortS xs).toArray) os).heap[b]? = c.W.heap[b]? := by intro b hb hlt;simp only [grow,putRow,mapBlock,Sort.ahead];rw [Array.getElem?_append_left (by simpa using hlt),Array.getElem?_modify,if_neg (Ne.symm hb)]
  have hcs:cur'.size=cur.size:=by simp [cur',putCells]
  have hnK:¬ c.K (c.β 1000):=hr.nk 1000 (.inl (by rw [hlk,if_pos rfl];simpa [AO.live] using hne));refine ⟨_,.tup [],[(1000,.row (ρ.t 9) 1 ((sortS xs).map mZ))],c.β,c.κ,e1,⟨rfl,rfl⟩,⟨fun k => ?_,fun i j hi hj _ => ?_,⟨rfl,rfl,rfl,?_,fun b hb=>hoth b (fun e=>hnK (e ▸ hb)) (c.hK b hb)⟩,fun k hk => ?_,fun k hk => ?_,fun k hk _=>⟨rfl,rfl⟩,fun k hk => ?_⟩,.d (.tup _ _ rfl (fun i hi=>by simp at hi))⟩
  ·rw [hlk];by_cases ek:k=1000
   ·subst ek;rw [if_pos rfl];refine ⟨by simp [hk2,hlen],fun _=>⟨cur',hblk,by rw [hcs,h2];simp,by simpa [hlen] using h3,h4,by omega,fun i hi => ?_,fun i j hi hj => ?_⟩⟩
    ·have hi:i<(sortS xs).length:=by simpa using hi
     rw [eM (d:=([]:au)) hi];rfl
    ·have hi:i<(sortS xs).length:=by simpa using hi
     have ej:j=0:=by omega
     subst ej;rw [Nat.mul_one,Nat.add_zero,eM (d:=([]:au)) hi];have e1:(mZ ((sortS xs).getD i [])).getD 0 .any = .str (sortS xs)[i]:=by show AV.str ((sortS xs).getD i [])=_;rw [Lz,LA hi];rfl
     have e2:cur'.getD i undef=encStr (sortS xs)[i]:=by
      have hic:i<cur.size:=by omega
      simp [cur',putCells,LC,hic,hi]
     rw [e1,e2];refine .str _ ?_;have hm:(sortS xs)[i]∈xs:=(msort_perm ..).mem_iff.1 (List.getElem_mem hi);obtain ⟨j,hj,e3⟩:=List.getElem_of_mem hm;rw [← e3];exact (hcur j hj).2
   ·rw [if_neg ek];trivial
  ·rw [(hlive _ _ hi).1,(hlive _ _ hj).1]
  ·simp [grow,Sort.ahead]
  ·obtain ⟨rfl,_⟩:=hlive _ _ hk;exact hnK
  ·obtain ⟨rfl,_⟩:=hlive _ _ hk;exact hr.nx 1000 (.inl (by rw [hlk,if_pos rfl];simpa [AO.live] using hne))
  ·rw [hlk] at hk;by_cases ek:k=1000
   ·omega
   ·rw [if_neg ek] at hk;exact absurd rfl hk
 ·
  have hx:xs=[]:=List.eq_nil_of_length_eq_zero (by omega);subst hx;rw [hv,hV];refine (Any.slices_Sort_string_none L ad 0 c.W).mono fun e w' ⟨e1,e2⟩ => ?_;subst e2;exact ⟨_,.tup [],[(1000,.row (ρ.t 9) 1 (([]:List au).map mZ))],c.β,c.κ,e1,⟨rfl,rfl⟩,hr,.d (.tup _ _ rfl (fun i hi=>by simp at hi))⟩
end
end Go.Ab
namespace Go.Proofs
open Go.Shelf
def Tryz.laysM171_ren:Go.Shelf.Ren:=⟨fun | 171=>94 | 243=>126 | 246=>153 | 283=>174 | 284=>175 | 285=>176 | 286=>177 | 129=>112 | 317=>184 | 318=>185 | 319=>186 | 320=>187 | 337=>189 | 338=>190 | n=>n,fun | 3=>3 | 9=>9 | 2=>2 | 4=>4 | 171=>217 | 0=>0 | 53=>130 | 37=>168 | 5=>5 | 173=>219 | 212=>231 | 51=>159 | 20=>20 | 213=>232 | 46=>119 | 232=>234 | 233=>235 | n=>n,fun | 17=>3 | 18=>4 | 19=>5 | n=>n⟩
theorem Tryz.laysM171:Go.Proofs.LaysM.n171 Tryz.prog Tryz.laysM171_ren:={
 mixed:=by kernel_rfl
 f129:=Tryz.func112.trans (congrArg some (by kernel_rfl))
 f171:=Tryz.func94.trans (congrArg some (by kernel_rfl))
 f243:=Tryz.func126.trans (congrArg some (by kernel_rfl))
 f246:=Tryz.func153.trans (congrArg some (by kernel_rfl))
 f283:=Tryz.func174.trans (congrArg some (by kernel_rfl))
 f284:=Tryz.func175.trans (congrArg some (by kernel_rfl))
 f285:=Tryz.func176.trans (congrArg some (by kernel_rfl))
 f286:=Tryz.func177.trans (congrArg some (by kernel_rfl))
 f317:=Tryz.func184.trans (congrArg some (by kernel_rfl))
 f318:=Tryz.func185.trans (congrArg some (by kernel_rfl))
 f319:=Tryz.func186.trans (congrArg some (by kernel_rfl))
 f320:=Tryz.func187.trans (congrArg some (by kernel_rfl))
 f337:=Tryz.func189.trans (congrArg some (by kernel_rfl))
 f338:=Tryz.func190.trans (congrArg some (by kernel_rfl))
 t0:=Tryz.underlying0
 a0:=Tryz.isAgg0
 z0:=Tryz.sizeOf0
 v0:=Tryz.zeroValue0
 t2:=Tryz.underlying2
 a2:=Tryz.isAgg2
 z2:=Tryz.sizeOf2
 v2:=Tryz.zeroValue2
 t3:=Tryz.underlying3
 a3:=Tryz.isAgg3
 z3:=Tryz.sizeOf3
 v3:=Tryz.zeroValue3
 t4:=Tryz.underlying4
 a4:=Tryz.isAgg4
 z4:=Tryz.sizeOf4
 v4:=Tryz.zeroValue4
 t5:=Tryz.underlying5
 a5:=Tryz.isAgg5
 z5:=Tryz.sizeOf5
 v5:=Tryz.zeroValue5
 t9:=Tryz.underlying9
 a9:=Tryz.isAgg9
 z9:=Tryz.sizeOf9
 v9:=Tryz.zeroValue9
 t20:=Tryz.underlying20
 a20:=Tryz.isAgg20
 z20:=Tryz.sizeOf20
 v20:=Tryz.zeroValue20
 t37:=Tryz.underlying168
 a37:=Tryz.isAgg168
 z37:=Tryz.sizeOf168
 v37:=Tryz.zeroValue168
 t46:=Tryz.underlying119
 a46:=Tryz.isAgg119
 z46:=Tryz.sizeOf119
 v46:=Tryz.zeroValue119
 t51:=Tryz.underlying159
 a51:=Tryz.isAgg159
 z51:=Tryz.sizeOf159
 v51:=Tryz.zeroValue159
 t53:=Tryz.underlying130
 a53:=Tryz.isAgg130
 z53:=Tryz.sizeOf130
 v53:=Tryz.zeroValue130
 t171:=Tryz.underlying217
 a171:=Tryz.isAgg217
 z171:=Tryz.sizeOf217
 v171:=Tryz.zeroValue217
 t173:=Tryz.underlying219
 a173:=Tryz.isAgg219
 z173:=Tryz.sizeOf219
 v173:=Tryz.zeroValue219
 t212:=Tryz.underlying231
 a212:=Tryz.isAgg231
 z212:=Tryz.sizeOf231
 v212:=Tryz.zeroValue231
 t213:=Tryz.underlying232
 a213:=Tryz.isAgg232
 z213:=Tryz.sizeOf232
 t232:=Tryz.underlying234
 a232:=Tryz.isAgg234
 z232:=Tryz.sizeOf234
 v232:=Tryz.zeroValue234
 t233:=Tryz.underlying235
 a233:=Tryz.isAgg235
 z233:=Tryz.sizeOf235
 v233:=Tryz.zeroValue235
 g17:=by kernel_rfl
 g18:=by kernel_rfl
 g19:=by kernel_rfl
 i0:=by kernel_rfl
 i2:=by kernel_rfl
 i3:=by kernel_rfl
 i4:=by kernel_rfl
 i5:=by kernel_rfl
 i9:=by kernel_rfl
 i20:=by kernel_rfl
 i37:=by kernel_rfl
 i46:=by kernel_rfl
 i51:=by kernel_rfl
 i53:=by kernel_rfl
 i171:=by kernel_rfl
 i173:=by kernel_rfl
 i212:=by kernel_rfl
 i232:=by kernel_rfl
 i233:=by kernel_rfl
 m17:=by kernel_rfl
 m18:=by kernel_rfl
 m19:=by kernel_rfl }
def Tryz.laysC172_ren:Go.Shelf.Ren:=⟨fun | 172=>89 | 244=>124 | 245=>125 | 247=>148 | 279=>149 | 280=>150 | 281=>151 | 282=>152 | 287=>171 | 316=>172 | 171=>94 | 205=>173 | 321=>182 | 322=>183 | 243=>126 | 246=>153 | 283=>174 | 284=>175 | 285=>176 | 286=>177 | 129=>112 | 317=>184 | 318=>185 | 319=>186 | 320=>187 | 337=>189 | 338=>190 | n=>n,fun | 9=>9 | 3=>3 | 75=>140 | 76=>141 | 4=>4 | 5=>5 | 167=>187 | 37=>168 | 0=>0 | 85=>188 | 2=>2 | 168=>190 | 53=>130 | 175=>211 | 46=>119 | 210=>215 | 127=>226 | 145=>229 | 143=>227 | 21=>21 | 171=>217 | 173=>219 | 212=>231 | 51=>159 | 20=>20 | 213=>232 | 232=>234 | 233=>235 | 80=>236 | n=>n,fun | 15=>1 | 16=>2 | 17=>3 | 18=>4 | 19=>5 | n=>n⟩
theorem Tryz.laysC172:Go.Proofs.LaysC.n172 Tryz.prog Tryz.laysC172_ren:={
 mixed:=by kernel_rfl
 f129:=Tryz.func112.trans (congrArg some (by kernel_rfl))
 f171:=Tryz.func94.trans (congrArg some (by kernel_rfl))
 f172:=Tryz.func89.trans (congrArg some (by kernel_rfl))
 f205:=Tryz.func173.trans (congrArg some (by kernel_rfl))
 f243:=Tryz.func126.trans (congrArg some (by kernel_rfl))
 f244:=Tryz.func124.trans (congrArg some (by kernel_rfl))
 f245:=Tryz.func125.trans (congrArg some (by kernel_rfl))
 f246:=Tryz.func153.trans (congrArg some (by kernel_rfl))
 f247:=Tryz.func148.trans (congrArg some (by kernel_rfl))
 f279:=Tryz.func149.trans (congrArg some (by kernel_rfl))
 f280:=Tryz.func150.trans (congrArg some (by kernel_rfl))
 f281:=Tryz.func151.trans (congrArg some (by kernel_rfl))
 f282:=Tryz.func152.trans (congrArg some (by kernel_rfl))
 f283:=Tryz.func174.trans (congrArg some (by kernel_rfl))
 f284:=Tryz.func175.trans (congrArg some (by kernel_rfl))
 f285:=Tryz.func176.trans (congrArg some (by kernel_rfl))
 f286:=Tryz.func177.trans (congrArg some (by kernel_rfl))
 f287:=Tryz.func171.trans (congrArg some (by kernel_rfl))
 f316:=Tryz.func172.trans (congrArg some (by kernel_rfl))
 f317:=Tryz.func184.trans (congrArg some (by kernel_rfl))
 f318:=Tryz.func185.trans (congrArg some (by kernel_rfl))
 f319:=Tryz.func186.trans (congrArg some (by kernel_rfl))
 f320:=Tryz.func187.trans (congrArg some (by kernel_rfl))
 f321:=Tryz.func182.trans (congrArg some (by kernel_rfl))
 f322:=Tryz.func183.trans (congrArg some (by kernel_rfl))
 f337:=Tryz.func189.trans (congrArg some (by kernel_rfl))
 f338:=Tryz.func190.trans (congrArg some (by kernel_rfl))
 t0:=Tryz.underlying0
 a0:=Tryz.isAgg0
 z0:=Tryz.sizeOf0
 v0:=Tryz.zeroValue0
 t2:=Tryz.underlying2
 a2:=Tryz.isAgg2
 z2:=Tryz.sizeOf2
 v2:=Tryz.zeroValue2
 t3:=Tryz.underlying3
 a3:=Tryz.isAgg3
 z3:=Tryz.sizeOf3
 v3:=Tryz.zeroValue3
 t4:=Tryz.underlying4
 a4:=Tryz.isAgg4
 z4:=Tryz.sizeOf4
 v4:=Tryz.zeroValue4
 t5:=Tryz.underlying5
 a5:=Tryz.isAgg5
 z5:=Tryz.sizeOf5
 v5:=Tryz.zeroValue5
 t9:=Tryz.underlying9
 a9:=Tryz.isAgg9
 z9:=Tryz.sizeOf9
 v9:=Tryz.zeroValue9
 t20:=Tryz.underlying20
 a20:=Tryz.isAgg20
 z20:=Tryz.sizeOf20
 v20:=Tryz.zeroValue20
 t21:=Tryz.underlying21
 a21:=Tryz.isAgg21
 z21:=Tryz.sizeOf21
 v21:=Tryz.zeroValue21
 t37:=Tryz.underlying168
 a37:=Tryz.isAgg168
 z37:=Tryz.sizeOf168
 v37:=Tryz.zeroValue168
 t46:=Tryz.underlying119
 a46:=Tryz.isAgg119
 z46:=Tryz.sizeOf119
 v46:=Tryz.zeroValue119
 t51:=Tryz.underlying159
 a51:=Tryz.isAgg159
 z51:=Tryz.sizeOf159
 v51:=Tryz.zeroValue159
 t53:=Tryz.underlying130
 a53:=Tryz.isAgg130
 z53:=Tryz.sizeOf130
 v53:=Tryz.zeroValue130
 t75:=Tryz.underlying140
 a75:=Tryz.isAgg140
 z75:=Tryz.sizeOf140
 v75:=Tryz.zeroValue140
 t76:=Tryz.underlying141
 a76:=Tryz.isAgg141
 z76:=Tryz.sizeOf141
 v76:=Tryz.zeroValue141
 t85:=Tryz.underlying188
 a85:=Tryz.isAgg188
 z85:=Tryz.sizeOf188
 v85:=Tryz.zeroValue188
 t127:=Tryz.underlying226
 a127:=Tryz.isAgg226
 z127:=Tryz.sizeOf226
 v127:=Tryz.zeroValue226
 t143:=Tryz.underlying227
 a143:=Tryz.isAgg227
 z143:=Tryz.sizeOf227
 v143:=Tryz.zeroValue227
 t145:=Tryz.underlying229
 a145:=Tryz.isAgg229
 z145:=Tryz.sizeOf229
 v145:=Tryz.zeroValue229
 t167:=Tryz.underlying187
 a167:=Tryz.isAgg187
 z167:=Tryz.sizeOf187
 v167:=Tryz.zeroValue187
 t168:=Tryz.underlying190
 a168:=Tryz.isAgg190
 z168:=Tryz.sizeOf190
 v168:=Tryz.zeroValue190
 t171:=Tryz.underlying217
 a171:=Tryz.isAgg217
 z171:=Tryz.sizeOf217
 v171:=Tryz.zeroValue217
 t173:=Tryz.underlying219
 a173:=Tryz.isAgg219
 z173:=Tryz.sizeOf219
 v173:=Tryz.zeroValue219
 t175:=Tryz.underlying211
 a175:=Tryz.isAgg211
 z175:=Tryz.sizeOf211
 v175:=Tryz.zeroValue211
 t210:=Tryz.underlying215
 a210:=Tryz.isAgg215
 z210:=Tryz.sizeOf215
 v210:=Tryz.zeroValue215
 t212:=Tryz.underlying231
 a212:=Tryz.isAgg231
 z212:=Tryz.sizeOf231
 v212:=Tryz.zeroValue231
 t213:=Tryz.underlying232
 a213:=Tryz.isAgg232
 z213:=Tryz.sizeOf232
 t232:=Tryz.underlying234
 a232:=Tryz.isAgg234
 z232:=Tryz.sizeOf234
 v232:=Tryz.zeroValue234
 t233:=Tryz.underlying235
 a233:=Tryz.isAgg235
 z233:=Tryz.sizeOf235
 v233:=Tryz.zeroValue235
 g15:=by kernel_rfl
 g16:=by kernel_rfl
 g17:=by kernel_rfl
 g18:=by kernel_rfl
 g19:=by kernel_rfl
 t80:=Tryz.underlying236
 a80:=Tryz.isAgg236
 z80:=Tryz.sizeOf236
 v80:=Tryz.zeroValue236
 i0:=by kernel_rfl
 i2:=by kernel_rfl
 i3:=by kernel_rfl
 i4:=by kernel_rfl
 i5:=by kernel_rfl
 i9:=by kernel_rfl
 i20:=by kernel_rfl
 i21:=by kernel_rfl
 i37:=by kernel_rfl
 i46:=by kernel_rfl
 i51:=by kernel_rfl
 i53:=by kernel_rfl
 i75:=by kernel_rfl
 i76:=by kernel_rfl
 i80:=by kernel_rfl
 i85:=by kernel_rfl
 i127:=by kernel_rfl
 i143:=by kernel_rfl
 i145:=by kernel_rfl
 i167:=by kernel_rfl
 i168:=by kernel_rfl
 i171:=by kernel_rfl
 i173:=by kernel_rfl
 i175:=by kernel_rfl
 i210:=by kernel_rfl
 i212:=by kernel_rfl
 i232:=by kernel_rfl
 i233:=by kernel_rfl
 m15:=by kernel_rfl
 m16:=by kernel_rfl
 m17:=by kernel_rfl
 m18:=by kernel_rfl
 m19:=by kernel_rfl
 c0:=by kernel_rfl
 c2:=by kernel_rfl
 c3:=by kernel_rfl
 c4:=by kernel_rfl
 c5:=by kernel_rfl
 c9:=by kernel_rfl
 c20:=by kernel_rfl
 c21:=by kernel_rfl
 c37:=by kernel_rfl
 c46:=by kernel_rfl
 c51:=by kernel_rfl
 c53:=by kernel_rfl
 c75:=by kernel_rfl
 c76:=by kernel_rfl
 c80:=by kernel_rfl
 c85:=by kernel_rfl
 c127:=by kernel_rfl
 c143:=by kernel_rfl
 c145:=by kernel_rfl
 c167:=by kernel_rfl
 c168:=by kernel_rfl
 c171:=by kernel_rfl
 c173:=by kernel_rfl
 c175:=by kernel_rfl
 c210:=by kernel_rfl
 c212:=by kernel_rfl
 c213:=by kernel_rfl
 c232:=by kernel_rfl
 c233:=by kernel_rfl }
def Tryz.lays190_ren:Go.Shelf.Ren:=⟨fun | 190=>63 | 125=>67 | 258=>101 | 128=>111 | 129=>112 | 302=>133 | 303=>134 | 304=>135 | 305=>136 | 306=>137 | 307=>138 | 308=>64 | 309=>139 | 310=>140 | 333=>167 | 329=>142 | 330=>143 | 334=>168 | 335=>169 | 336=>102 | 344=>181 | n=>n,fun | 31=>80 | 9=>9 | 3=>3 | 46=>119 | 0=>0 | 51=>159 | 53=>130 | 4=>4 | 183=>153 | 182=>152 | 131=>82 | 5=>5 | 218=>181 | 222=>185 | 228=>209 | 229=>171 | n=>n,fun | n=>n⟩
theorem Tryz.lays190:Go.Proofs.Lays.n190 Tryz.prog Tryz.lays190_ren:={
 mixed:=by kernel_rfl
 f125:=Tryz.func67.trans (congrArg some (by kernel_rfl))
 f128:=Tryz.func111.trans (congrArg some (by kernel_rfl))
 f129:=Tryz.func112.trans (congrArg some (by kernel_rfl))
 f190:=Tryz.func63.trans (congrArg some (by kernel_rfl))
 f258:=Tryz.func101.trans (congrArg some (by kernel_rfl))
 f302:=Tryz.func133.trans (congrArg some (by kernel_rfl))
 f303:=Tryz.func134.trans (congrArg some (by kernel_rfl))
 f304:=Tryz.func135.trans (congrArg some (by kernel_rfl))
 f305:=Tryz.func136.trans (congrArg some (by kernel_rfl))
 f306:=Tryz.func137.trans (congrArg some (by kernel_rfl))
 f307:=Tryz.func138.trans (congrArg some (by kernel_rfl))
 f308:=Tryz.func64.trans (congrArg some (by kernel_rfl))
 f309:=Tryz.func139.trans (congrArg some (by kernel_rfl))
 f310:=Tryz.func140.trans (congrArg some (by kernel_rfl))
 f329:=Tryz.func142.trans (congrArg some (by kernel_rfl))
 f330:=Tryz.func143.trans (congrArg some (by kernel_rfl))
 f333:=Tryz.func167.trans (congrArg some (by kernel_rfl))
 f334:=Tryz.func168.trans (congrArg some (by kernel_rfl))
 f335:=Tryz.func169.trans (congrArg some (by kernel_rfl))
 f336:=Tryz.func102.trans (congrArg some (by kernel_rfl))
 f344:=Tryz.func181.trans (congrArg some (by kernel_rfl))
 t0:=Tryz.underlying0
 a0:=Tryz.isAgg0
 z0:=Tryz.sizeOf0
 v0:=Tryz.zeroValue0
 t3:=Tryz.underlying3
 a3:=Tryz.isAgg3
 z3:=Tryz.sizeOf3
 v3:=Tryz.zeroValue3
 t4:=Tryz.underlying4
 a4:=Tryz.isAgg4
 z4:=Tryz.sizeOf4
 v4:=Tryz.zeroValue4
 t5:=Tryz.underlying5
 a5:=Tryz.isAgg5
 z5:=Tryz.sizeOf5
 v5:=Tryz.zeroValue5
 t9:=Tryz.underlying9
 a9:=Tryz.isAgg9
 z9:=Tryz.sizeOf9
 v9:=Tryz.zeroValue9
 t31:=Tryz.underlying80
 a31:=Tryz.isAgg80
 z31:=Tryz.sizeOf80
 v31:=Tryz.zeroValue80
 t46:=Tryz.underlying119
 a46:=Tryz.isAgg119
 z46:=Tryz.sizeOf119
 v46:=Tryz.zeroValue119
 t51:=Tryz.underlying159
 a51:=Tryz.isAgg159
 z51:=Tryz.sizeOf159
 v51:=Tryz.zeroValue159
 t53:=Tryz.underlying130
 a53:=Tryz.isAgg130
 z53:=Tryz.sizeOf130
 v53:=Tryz.zeroValue130
 t131:=Tryz.underlying82
 a131:=Tryz.isAgg82
 z131:=Tryz.sizeOf82
 v131:=Tryz.zeroValue82
 t182:=Tryz.underlying152
 a182:=Tryz.isAgg152
 z182:=Tryz.sizeOf152
 v182:=Tryz.zeroValue152
 t183:=Tryz.underlying153
 a183:=Tryz.isAgg153
 z183:=Tryz.sizeOf153
 v183:=Tryz.zeroValue153
 t218:=Tryz.underlying181
 a218:=Tryz.isAgg181
 z218:=Tryz.sizeOf181
 v218:=Tryz.zeroValue181
 t222:=Tryz.underlying185
 a222:=Tryz.isAgg185
 z222:=Tryz.sizeOf185
 v222:=Tryz.zeroValue185
 t228:=Tryz.underlying209
 a228:=Tryz.isAgg209
 z228:=Tryz.sizeOf209
 v228:=Tryz.zeroValue209
 t229:=Tryz.underlying171
 a229:=Tryz.isAgg171
 z229:=Tryz.sizeOf171
 v229:=Tryz.zeroValue171 }
end Go.Proofs
namespace Go.Proofs.YtlhcekghjfjajaaGreatDoor
open Go.RowKit Go.Ab Go.Sh Go.Proofs
theorem Tryz.mo:Tryz.prog.follows .mixedOrders=true:=by kernel_rfl
theorem named {s:String} (h:(Tryz.prog.globalNamed s).isSome=true):Tryz.prog.globalNamed s≠none:=fun e=>by rw [e] at h;cases h
theorem vG (n:Int) (r:au) (H:gS n=some r):bQ Tryz.prog 94 [.int .i64 n] (.str r):=Gk Tryz.laysM171 (named (by kernel_rfl)) n r H
theorem v7 (s:au) (r:Int×Bool) (H:lg s=some r):bQ Tryz.prog 89 [.str s] (.tup [.int .i64 r.1,xh (Tryz.laysC172_ren.t 168) r.2]):=GM Tryz.laysC172 (named (by kernel_rfl)) (named (by kernel_rfl)) s r H
theorem vW (xs r:List au) (H:jZ xs=some r):bY Tryz.prog 63 [.rslice 1000] [(1000,.row 9 1 (xs.map mZ))] (fun v h=>v = .tup []∧h=[(1000,.row 9 1 (r.map mZ))]):=Bu Tryz.lays190 xs r H
end Go.Proofs.YtlhcekghjfjajaaGreatDoor
namespace Go.Sh
open Go.Sort Go.Proofs
theorem xv:∀ x:au,Op.bytesLess x x=false
 | []=>rfl
 | a::x=>by simp [Op.bytesLess,xv x]
theorem xM:∀ x y:au,x<y↔Op.bytesLess x y=true
 | x,[]=>by simp [Op.bytesLess]
 | [],b::y=>by simp [Op.bytesLess]
 | a::x,b::y=>by rw [List.cons_lt_cons_iff,xM x y];simp only [Op.bytesLess,Bool.or_eq_true,LB,decide_eq_true_eq,beq_iff_eq]
theorem An {x y z:au} (h1:Op.bytesLess x y=true) (h2:Op.bytesLess y z=true):Op.bytesLess x z=true :=
 (xM x z).1 (List.lt_trans ((xM x y).2 h1) ((xM y z).2 h2))
theorem FD (x y:au):Op.bytesLess x y=true∨x=y∨Op.bytesLess y x=true:=by
 rcases Bool.eq_false_or_eq_true (Op.bytesLess x y) with h | h
 ·exact .inl h
 ·rcases Bool.eq_false_or_eq_true (Op.bytesLess y x) with h' | h'
  ·exact .inr (.inr h')
  ·refine .inr (.inl ?_);have h1:¬ x<y:=fun e=>by rw [xM,h] at e;cases e
   have h2:¬ y<x:=fun e=>by rw [xM,h'] at e;cases e
   exact List.le_antisymm (List.not_lt.1 h2) (List.not_lt.1 h1)
def iT (x y:au):Int:=if Op.bytesLess x y=true then -1 else if Op.bytesLess y x=true then 1 else 0
theorem vT {x y:au}:iT x y<0↔Op.bytesLess x y=true:=by
 unfold iT;repeat' split
 all_goals simp_all
end Go.Sh
namespace Go.Ab
open Go.RowKit Go.Sh Go.Proofs Go.Sort Go.Shelf
section
variable {P:Program} {α:Type}
def iJ (cf:α→α→Int) (xs:List α):List α:=wo xs fun x y => !(ltOf cf y x)
theorem Ev (cf:α→α→Int) (xs:List α):(iJ cf xs).length=xs.length:=xL ..
theorem rJ {β:Type} {cf:α→α→Int} (h:SWO (ltOf cf)) (f:β→α):SWO (ltOf fun x y=>cf (f x) (f y)) where
 irrefl x:=h.irrefl (f x)
 trans x y z:=h.trans (f x) (f y) (f z)
 ntrans x y z:=h.ntrans (f x) (f y) (f z)
theorem Du (enc:α→List Value) (k:Nat) (w:World) (blk off m:Nat) (dk:Array α) (os:Array Obj) {b:Nat} (hb:b≠blk) (hlt:b<w.heap.size) [Inhabited α]:(sortWorldK enc k w blk off m dk os).heap[b]? = w.heap[b]? := by simp only [sortWorldK,grow,putRowK,putRow,mapBlock,Sort.ahead];rw [Array.getElem?_append_left (by simpa using hlt),Array.getElem?_modify,if_neg (Ne.symm hb)]
theorem Jx (enc:α→List Value) (k:Nat) (w:World) (blk off m:Nat) (dk:Array α) (os:Array Obj) {cur:Array Value} {e:TypeId} (h:w.heap[blk]? = some (.cells cur e (0,0))) [Inhabited α] :
 (sortWorldK enc k w blk off m dk os).heap[blk]? = some (.cells (putCells id off (flatK enc k dk) cur) e (0,0)):=by
 have hlt:blk<w.heap.size:=(Array.getElem?_eq_some_iff.1 h).1;simp only [sortWorldK,grow,putRowK,putRow,mapBlock,Sort.ahead];rw [Array.getElem?_append_left (by simpa using hlt),Array.getElem?_modify,if_pos rfl,h];rfl
theorem oD (e:TypeId) (sz:Nat) (zs:List (List AV)) (k:Nat):lk AO.gone [(1000,AO.row e sz zs)] k=if k=1000 then .row e sz zs else .gone:=by
 simp only [lk];by_cases e:k=1000
 ·subst e;simp
 ·rw [dm e];simp [e]
theorem nJ {e:TypeId} {sz:Nat} {zs:List (List AV)} {k:Nat} (h:lv [(1000,AO.row e sz zs)] k):k=1000∧zs≠[]:=by
 rcases h with h | ⟨m,i,_,h⟩
 ·rw [oD] at h;by_cases e:k=1000
  ·subst e;rw [if_pos rfl] at h;exact ⟨rfl,h⟩
  ·rw [if_neg e] at h;exact h.elim
 ·rw [oD] at h;by_cases e:m=1000
  ·rw [if_pos e] at h;exact h.elim
  ·rw [if_neg e] at h;exact h.elim
set_option maxHeartbeats 1000000 in
theorem tQ {f:FuncId} {et:TypeId} {sz:Nat} (c:α→List AV) (hc:∀ x,(c x).length=sz) (h1c:∀ x,∀ v∈c x,v.one=true) (cf:α→α→Int) (hO:SWO (ltOf cf))
 (g:FuncId)
 (hS:∀ {β:Type} [Inhabited β] (enc:β→List Value),(∀ x,(enc x).length=sz)→(∀ x,∀ v∈enc x,v.oneCell'=true)→∀ (cf:β→β→Int),SWO (ltOf cf)→∀ (blk cap:Nat) (d:Array β) (w:World),CmpLays P g #[] enc sz cf blk 0 d.size w→HoldsK enc sz w blk 0 d→blk<w.heap.size→d.size<4611686018427387904 →
  Calls P f #[.slice (some ⟨blk,0,none⟩) d.size cap,.func (.func g) #[] #[]] w fun e w'=>e = .returned (.tuple #[])∧∃ d' n os,PermIn 0 d.size d d'∧SortedIn (ltOf cf) 0 d.size d'∧w'=sortWorldK enc sz w blk 0 n d' os)
 (hS0:∀ (ad:Option Addr) (w:World),Calls P f #[.slice ad 0 0,.func (.func g) #[] #[]] w fun e w'=>e = .returned (.tuple #[])∧w'=w)
 (hgc:∀ (W:World) (X:Nat→Prop) (x y:α) (A B:Array Value),D W X (.agg (c x)) (.agg A)→D W X (.agg (c y)) (.agg B)→Calls P g #[.agg A,.agg B] W fun e w'=>e = .returned (.int .i64 (cf x y))∧∃ q os',w'=grow (W.drewN q) os')
 (xs:List α) (hn:xs.length<4611686018427387904) (hnd:∀ i j (hi:i<xs.length) (hj:j<xs.length),ltOf cf xs[i] xs[j]=false→ltOf cf xs[j] xs[i]=false→i=j) :
 bY P f [.rslice 1000,.fn g []] [(1000,.row et sz (xs.map c))] (fun v h=>v = .tup []∧h=[(1000,.row et sz ((iJ cf xs).map c))]):=by
 have hlen:(iJ cf xs).length=xs.length:=Ev cf xs;intro cx vs hl hr hg;have hv:vs=[vs.getD 0 undef,vs.getD 1 undef]:=KQ (by simpa using hl);have h0:G cx.W (cx.XX [(1000,.row et sz (xs.map c))] cx.β) cx.β cx.κ (.rslice 1000) (vs.getD 0 undef):=hg 0 (by simp);have h9:G cx.W (cx.XX [(1000,.row et sz (xs.map c))] cx.β) cx.β cx.κ (.fn g []) (vs.getD 1 undef):=hg 1 (by simp);obtain ⟨Vs,eV,hVl,_⟩:=h9.fn_inv;have eVs:Vs = #[]:=Array.size_eq_zero_iff.1 (by simpa using hVl.symm);subst eVs;have ho:HO cx.W (cx.XX [(1000,.row et sz (xs.map c))] cx.β) cx.β cx.κ 1000 (.row et sz (xs.map c)):=hr.ob 1000;have hk2:(cx.κ 1000).2=xs.length:=by simpa using ho.1
 rw [hv,eV];rcases h0.rslice_inv with ⟨hpos,hV⟩ | ⟨hz,ad,hV⟩
 ·have hne:xs≠[]:=by intro e;subst e;rw [hk2] at hpos;simp at hpos
  have hpos:0<xs.length:=List.length_pos_iff.2 hne;obtain ⟨cur,q1,q2,q3,q4,q5,q6,q7⟩:=ho.2 (by simpa using hne);simp only [LI] at q3 q7;have hblk:cx.β 1000<cx.W.heap.size:=(Array.getElem?_eq_some_iff.1 q1).1;have hcs:xs.length*sz≤cur.size:=by rw [q2];exact Nat.mul_le_mul_right _ q3
  have hXb:cx.XX [(1000,.row et sz (xs.map c))] cx.β (cx.β 1000):=.inr ⟨1000,.inl (by rw [oD,if_pos rfl];simpa [AO.live] using hne),rfl⟩
  letI:Inhabited (Fin xs.length):=⟨⟨0,hpos⟩⟩
  obtain ⟨enc,henc⟩:∃ enc:Fin xs.length→List Value,enc=fun i=>(List.range sz).map fun j=>cur.getD (i.1*sz+j) undef:=⟨_,rfl⟩;have hk:∀ x,(enc x).length=sz:=fun x=>by rw [henc];simp
  have hget:∀ x j,j<sz→(enc x)[j]! = cur.getD (x.1*sz+j) undef:=fun x j hj=>by rw [henc];simp [hj]
  have hgetD:∀ x j,j<sz→(enc x).getD j undef=cur.getD (x.1*sz+j) undef:=fun x j hj=>by rw [henc];simp [Lz,hj]
  have hq7:∀ (x:Fin xs.length) j,j<sz→D cx.W (cx.XX [(1000,.row et sz (xs.map c))] cx.β) ((c xs[x.1]).getD j .any) ((enc x).getD j undef):=fun x j hj=>by
   have:=q7 x.1 j x.2 hj;rw [eM (d:=xs[x.1]) x.2] at this;rw [hgetD x j hj];have e:xs.getD x.1 xs[x.1]=xs[x.1]:=by simp [Lz]
   rwa [e] at this
  obtain ⟨d,hd⟩:∃ d:Array (Fin xs.length),d=(List.finRange xs.length).toArray:=⟨_,rfl⟩;have hds:d.size=xs.length:=by rw [hd];simp
  have hdg:∀ i (h:i<xs.length),d[i]! = ⟨i,h⟩:=fun i h=>by rw [hd];simp [h]
  have hflat:∀ (dk:Array (Fin xs.length)) i j,i<dk.size→j<sz→(flatK enc sz dk)[i*sz+j]! = cur.getD (dk[i]!.1*sz+j) undef:=fun dk i j hi hj=>by
   have h2:(i+1)*sz≤dk.size*sz:=Nat.mul_le_mul_right _ hi;rw [Nat.add_mul] at h2;rw [get_flatK _ _ _ _ (by omega)];have e1:(i*sz+j) / sz=i:=by rw [Nat.mul_comm,Nat.mul_add_div q5,Nat.div_eq_of_lt hj];rfl
   have e2:(i*sz+j) % sz=j:=by rw [Nat.mul_comm,Nat.mul_add_mod,Nat.mod_eq_of_lt hj]
   rw [e1,e2,hget _ _ hj]
  have hH:HoldsK enc sz cx.W (cx.β 1000) 0 d:=by intro t ht;rw [size_flatK,hds] at ht;have h2:=Nat.div_add_mod t sz;have hj:t % sz<sz:=Nat.mod_lt _ q5;have hi:t / sz<xs.length:=Nat.div_lt_of_lt_mul (by rw [Nat.mul_comm];exact ht);refine ⟨?_,by simp [World.frozen?,q1]⟩;rw [Nat.zero_add,cW q1 (by omega)];have:=hflat d (t / sz) (t % sz) (by rw [hds];exact hi) hj;rw [hdg _ hi,show t / sz*sz+t % sz=t by rw [Nat.mul_comm];exact h2] at this;rw [this];rfl
  have hone:∀ x,∀ v∈enc x,v.oneCell'=true:=fun x v hv=>by
   obtain ⟨j,hj,e⟩:=List.getElem_of_mem hv;have hj':j<sz:=by rw [hk] at hj;exact hj
   have:=hq7 x j hj';have e2:(enc x).getD j undef=v:=by rw [Lz,LA hj,e];rfl
   rw [e2] at this;refine this.one (h1c xs[x.1] _ ?_);rw [Lz,LA (by rw [hc];exact hj')];exact List.getElem_mem _
  have hmono:∀ m dk os {v:AV} {V:Value},D cx.W (cx.XX [(1000,.row et sz (xs.map c))] cx.β) v V→D (sortWorldK enc sz cx.W (cx.β 1000) 0 m dk os) (cx.XX [(1000,.row et sz (xs.map c))] cx.β) v V:=fun m dk os v V h =>
   h.mono (fun b hb hlt=>Du enc sz cx.W (cx.β 1000) 0 m dk os (fun e=>hb (e ▸ hXb)) hlt) (fun b hb _=>hb)
  have hcmp:CmpLays P g #[] enc sz (fun i j=>cf xs[i.1] xs[j.1]) (cx.β 1000) 0 d.size cx.W:=by
   intro m os dk _ x y;rw [Array.append_empty];refine hgc _ (cx.XX [(1000,.row et sz (xs.map c))] cx.β) _ _ _ _ ?_ ?_
   ·refine .agg _ _ (by simp [hc,hk]) fun j hj=>hmono m dk os ?_;rw [hc] at hj;simpa [LC,Lz] using hq7 x j hj
   ·refine .agg _ _ (by simp [hc,hk]) fun j hj=>hmono m dk os ?_;rw [hc] at hj;simpa [LC,Lz] using hq7 y j hj
  have hkey:=hS enc hk hone (fun i j=>cf xs[i.1] xs[j.1]) (rJ hO fun i:Fin xs.length=>xs[i.1]) (cx.β 1000) (cx.κ 1000).1 d cx.W hcmp hH hblk (by omega);have hT:∀ x y:Fin xs.length,ltOf (fun i j:Fin xs.length=>cf xs[i.1] xs[j.1]) x y=false→ltOf (fun i j:Fin xs.length=>cf xs[i.1] xs[j.1]) y x=false→x=y:=fun x y h h'=>Fin.ext (hnd x.1 y.1 x.2 y.2 h h');rw [hds] at hkey;rw [hV,hk2];refine hkey.mono fun e w' ⟨e1,d',n',os,hp,hs,e2⟩ => ?_;have hu:=sorted_unique_holds (rJ hO fun i:Fin xs.length=>xs[i.1]) hT d d' (by rw [hds];exact hp) (by rw [hds];exact hs);obtain ⟨ds,hds0⟩:∃ ds,ds=d'.toList:=⟨_,rfl⟩;have e3:d'=ds.toArray:=by rw [hds0]
  rw [e3] at e2;have hds2:ds=d.toList.mergeSort fun x y => !(ltOf (fun i j:Fin xs.length=>cf xs[i.1] xs[j.1])) y x:=by rw [hds0];exact hu
  have hdl:ds.length=xs.length:=by rw [hds2,List.length_mergeSort,Array.length_toList,hds]
  have hmap:ds.map (fun i:Fin xs.length=>xs[i.1]'i.2)=iJ cf xs:=by have hm:=List.map_mergeSort (r:=fun x y => !(ltOf (fun i j:Fin xs.length=>cf (xs[i.1]'i.2) (xs[j.1]'j.2)) y x)) (s:=fun x y => !(ltOf cf y x)) (f:=fun i:Fin xs.length=>xs[i.1]'i.2) (l:=d.toList) (fun a _ b _=>rfl);rw [hds2,hm];unfold iJ;rw [rR];congr 1;rw [hd];refine List.ext_getElem (by simp) fun i h1 h2=>by simp
  subst e2;have hblk2:=Jx enc sz cx.W (cx.β 1000) 0 n' ds.toArray os q1;obtain ⟨cur',hcur'⟩:∃ cur',cur'=putCells id 0 (flatK enc sz ds.toArray) cur:=⟨_,rfl⟩;rw [← hcur'] at hblk2;have hcs':cur'.size=cur.size:=by rw [hcur'];simp [putCells]
  have hnK:¬ cx.K (cx.β 1000):=hr.nk 1000 (.inl (by rw [oD,if_pos rfl];simpa [AO.live] using hne));have hX2:∀ b,¬ cx.XX [(1000,.row et sz (xs.map c))] cx.β b→¬ cx.XX [(1000,.row et sz ((iJ cf xs).map c))] cx.β b:=by
   rintro b hb (hx | ⟨k,hk,rfl⟩)
   ·exact hb (.inl hx)
   ·obtain ⟨rfl,_⟩:=nJ hk;exact hb hXb
  refine ⟨_,.tup [],[(1000,.row et sz ((iJ cf xs).map c))],cx.β,cx.κ,e1,⟨rfl,rfl⟩,⟨fun k => ?_,fun i j hi hj _ => ?_,⟨rfl,rfl,rfl,?_,fun b hb=>Du enc sz cx.W (cx.β 1000) 0 n' ds.toArray os (fun e=>hnK (e ▸ hb)) (cx.hK b hb)⟩,fun k hk => ?_,fun k hk => ?_,fun k hk _=>⟨rfl,rfl⟩,fun k hk => ?_⟩,.d (.tup _ _ rfl (fun i hi=>by simp at hi))⟩
  ·rw [oD];by_cases ek:k=1000
   ·subst ek;rw [if_pos rfl];refine ⟨by simp [hk2,hlen],fun _=>⟨cur',hblk2,by rw [hcs',q2],by simpa [hlen] using q3,q4,q5,fun i hi => ?_,fun i j hi hj => ?_⟩⟩
    ·have hi:i<(iJ cf xs).length:=by simpa using hi
     rw [eM (d:=xs[0]) hi,hc]
    ·have hi:i<(iJ cf xs).length:=by simpa using hi
     rw [eM (d:=xs[0]) hi];have hi':i<ds.length:=by omega
     have e3:(iJ cf xs).getD i xs[0]=xs[ds[i].1]:=by rw [Lz,← hmap];simp [hi']
     have e4:cur'.getD (i*sz+j) undef=cur.getD (ds[i].1*sz+j) undef:=by
      have h2:(i+1)*sz≤xs.length*sz:=Nat.mul_le_mul_right _ (by omega);rw [Nat.add_mul] at h2;have hlt:i*sz+j<cur.size:=by omega
      have h3:=hflat ds.toArray i j (by simpa using hi') hj;have h4:(ds.toArray[i]! : Fin xs.length)=ds[i]:=by simp [hi']
      rw [h4] at h3;rw [← h3,hcur'];simp [putCells,LC,hlt,hdl];omega
     rw [e3,e4,← hgetD _ _ hj];exact (hmono n' ds.toArray os (hq7 ds[i] j hj)).mono (fun _ _ _=>rfl) fun b hb _=>hX2 b hb
   ·rw [if_neg ek];trivial
  ·rw [(nJ hi).1,(nJ hj).1]
  ·simp [sortWorldK,putRowK,putRow,mapBlock,grow,Sort.ahead]
  ·obtain ⟨rfl,_⟩:=nJ hk;exact hnK
  ·obtain ⟨rfl,_⟩:=nJ hk;exact hr.nx 1000 (.inl (by rw [oD,if_pos rfl];simpa [AO.live] using hne))
  ·rw [oD] at hk;by_cases ek:k=1000
   ·omega
   ·rw [if_neg ek] at hk;exact absurd rfl hk
 ·have hx:xs=[]:=List.eq_nil_of_length_eq_zero (by omega);subst hx;rw [hV];refine (hS0 ad cx.W).mono fun e w' ⟨e1,e2⟩ => ?_;subst e2;exact ⟨_,.tup [],[(1000,.row et sz (([]:List α).map c))],cx.β,cx.κ,e1,⟨rfl,rfl⟩,hr,.d (.tup _ _ rfl (fun i hi=>by simp at hi))⟩
end
end Go.Ab
namespace Go.Proofs
open Go.Shelf
def Tryz.lays106_ren:Go.Shelf.Ren:=⟨fun | 106=>35 | 213=>68 | 265=>113 | n=>n,fun | 9=>9 | 3=>3 | n=>n,fun | n=>n⟩
theorem Tryz.lays106:Go.Proofs.Lays.n106 Tryz.prog Tryz.lays106_ren:={
 mixed:=by kernel_rfl
 f106:=Tryz.func35.trans (congrArg some (by kernel_rfl))
 f213:=Tryz.func68.trans (congrArg some (by kernel_rfl))
 f265:=Tryz.func113.trans (congrArg some (by kernel_rfl))
 t3:=Tryz.underlying3
 a3:=Tryz.isAgg3
 z3:=Tryz.sizeOf3
 v3:=Tryz.zeroValue3
 t9:=Tryz.underlying9
 a9:=Tryz.isAgg9
 z9:=Tryz.sizeOf9
 v9:=Tryz.zeroValue9 }
def Tryz.lays2_26_ren:Go.Shelf.Ren:=⟨fun | 26=>32 | 33=>64 | 34=>65 | 38=>102 | n=>n,fun | 24=>80 | 9=>9 | 3=>3 | 4=>4 | 40=>119 | 0=>0 | n=>n,fun | n=>n⟩
theorem Tryz.lays2_26:Go.Proofs.Lays2.n26 Tryz.prog Tryz.lays2_26_ren:={
 mixed:=by kernel_rfl
 f26:=Tryz.func32.trans (congrArg some (by kernel_rfl))
 f33:=Tryz.func64.trans (congrArg some (by kernel_rfl))
 f34:=Tryz.func65.trans (congrArg some (by kernel_rfl))
 f38:=Tryz.func102.trans (congrArg some (by kernel_rfl))
 t0:=Tryz.underlying0
 a0:=Tryz.isAgg0
 z0:=Tryz.sizeOf0
 v0:=Tryz.zeroValue0
 t3:=Tryz.underlying3
 a3:=Tryz.isAgg3
 z3:=Tryz.sizeOf3
 v3:=Tryz.zeroValue3
 t4:=Tryz.underlying4
 a4:=Tryz.isAgg4
 z4:=Tryz.sizeOf4
 v4:=Tryz.zeroValue4
 t9:=Tryz.underlying9
 a9:=Tryz.isAgg9
 z9:=Tryz.sizeOf9
 v9:=Tryz.zeroValue9
 t24:=Tryz.underlying80
 a24:=Tryz.isAgg80
 z24:=Tryz.sizeOf80
 v24:=Tryz.zeroValue80
 t40:=Tryz.underlying119
 a40:=Tryz.isAgg119
 z40:=Tryz.sizeOf119
 v40:=Tryz.zeroValue119 }
def Tryz.lays125_ren:Go.Shelf.Ren:=⟨fun | 125=>67 | 128=>111 | 129=>112 | n=>n,fun | 46=>119 | 3=>3 | 51=>159 | 53=>130 | 4=>4 | 5=>5 | 9=>9 | n=>n,fun | n=>n⟩
theorem Tryz.lays125:Go.Proofs.Lays.n125 Tryz.prog Tryz.lays125_ren:={
 mixed:=by kernel_rfl
 f125:=Tryz.func67.trans (congrArg some (by kernel_rfl))
 f128:=Tryz.func111.trans (congrArg some (by kernel_rfl))
 f129:=Tryz.func112.trans (congrArg some (by kernel_rfl))
 t3:=Tryz.underlying3
 a3:=Tryz.isAgg3
 z3:=Tryz.sizeOf3
 v3:=Tryz.zeroValue3
 t4:=Tryz.underlying4
 a4:=Tryz.isAgg4
 z4:=Tryz.sizeOf4
 v4:=Tryz.zeroValue4
 t5:=Tryz.underlying5
 a5:=Tryz.isAgg5
 z5:=Tryz.sizeOf5
 v5:=Tryz.zeroValue5
 t9:=Tryz.underlying9
 a9:=Tryz.isAgg9
 z9:=Tryz.sizeOf9
 v9:=Tryz.zeroValue9
 t46:=Tryz.underlying119
 a46:=Tryz.isAgg119
 z46:=Tryz.sizeOf119
 v46:=Tryz.zeroValue119
 t51:=Tryz.underlying159
 a51:=Tryz.isAgg159
 z51:=Tryz.sizeOf159
 v51:=Tryz.zeroValue159
 t53:=Tryz.underlying130
 a53:=Tryz.isAgg130
 z53:=Tryz.sizeOf130
 v53:=Tryz.zeroValue130 }
def Tryz.pdqB_ren:Go.Shelf.Ren:=⟨fun | 14=>66 | 20=>103 | 21=>104 | 22=>105 | 23=>106 | 24=>107 | 25=>108 | 26=>109 | 27=>110 | 46=>141 | 47=>142 | 48=>143 | 49=>144 | 50=>145 | 15=>67 | 57=>170 | 28=>111 | 29=>112 | n=>n,fun | 24=>41 | 22=>25 | 3=>3 | 25=>86 | 4=>4 | 0=>0 | 46=>153 | 45=>152 | 50=>82 | 66=>181 | 39=>119 | 55=>130 | 70=>185 | 76=>209 | 77=>171 | 53=>159 | 5=>5 | 9=>9 | n=>n,fun | n=>n⟩
theorem Tryz.pdqB:Go.Proofs.SlLaysF0.n14 Tryz.prog Tryz.pdqB_ren:={
 mixed:=by kernel_rfl
 f14:=⟨Tryz.f66.name,by decide,Tryz.func66.trans (congrArg some (by kernel_rfl))⟩
 f15:=Tryz.func67.trans (congrArg some (by kernel_rfl))
 f20:=⟨Tryz.f103.name,by decide,Tryz.func103.trans (congrArg some (by kernel_rfl))⟩
 f21:=⟨Tryz.f104.name,by decide,Tryz.func104.trans (congrArg some (by kernel_rfl))⟩
 f22:=⟨Tryz.f105.name,by decide,Tryz.func105.trans (congrArg some (by kernel_rfl))⟩
 f23:=⟨Tryz.f106.name,by decide,Tryz.func106.trans (congrArg some (by kernel_rfl))⟩
 f24:=⟨Tryz.f107.name,by decide,Tryz.func107.trans (congrArg some (by kernel_rfl))⟩
 f25:=⟨Tryz.f108.name,by decide,Tryz.func108.trans (congrArg some (by kernel_rfl))⟩
 f26:=⟨Tryz.f109.name,by decide,Tryz.func109.trans (congrArg some (by kernel_rfl))⟩
 f27:=⟨Tryz.f110.name,by decide,Tryz.func110.trans (congrArg some (by kernel_rfl))⟩
 f28:=Tryz.func111.trans (congrArg some (by kernel_rfl))
 f29:=Tryz.func112.trans (congrArg some (by kernel_rfl))
 f46:=⟨Tryz.f141.name,by decide,Tryz.func141.trans (congrArg some (by kernel_rfl))⟩
 f47:=Tryz.func142.trans (congrArg some (by kernel_rfl))
 f48:=Tryz.func143.trans (congrArg some (by kernel_rfl))
 f49:=⟨Tryz.f144.name,by decide,Tryz.func144.trans (congrArg some (by kernel_rfl))⟩
 f50:=⟨Tryz.f145.name,by decide,Tryz.func145.trans (congrArg some (by kernel_rfl))⟩
 f57:=⟨Tryz.f170.name,by decide,Tryz.func170.trans (congrArg some (by kernel_rfl))⟩
 t0:=Tryz.underlying0
 a0:=Tryz.isAgg0
 z0:=Tryz.sizeOf0
 v0:=Tryz.zeroValue0
 t3:=Tryz.underlying3
 a3:=Tryz.isAgg3
 z3:=Tryz.sizeOf3
 v3:=Tryz.zeroValue3
 t4:=Tryz.underlying4
 a4:=Tryz.isAgg4
 z4:=Tryz.sizeOf4
 v4:=Tryz.zeroValue4
 t5:=Tryz.underlying5
 a5:=Tryz.isAgg5
 z5:=Tryz.sizeOf5
 v5:=Tryz.zeroValue5
 t9:=Tryz.underlying9
 a9:=Tryz.isAgg9
 z9:=Tryz.sizeOf9
 v9:=Tryz.zeroValue9
 t22:=Tryz.underlying25
 a22:=Tryz.isAgg25
 z22:=Tryz.sizeOf25
 v22:=Tryz.zeroValue25
 t25:=Tryz.underlying86
 a25:=Tryz.isAgg86
 z25:=Tryz.sizeOf86
 v25:=Tryz.zeroValue86
 t39:=Tryz.underlying119
 a39:=Tryz.isAgg119
 z39:=Tryz.sizeOf119
 v39:=Tryz.zeroValue119
 t45:=Tryz.underlying152
 a45:=Tryz.isAgg152
 z45:=Tryz.sizeOf152
 v45:=Tryz.zeroValue152
 t46:=Tryz.underlying153
 a46:=Tryz.isAgg153
 z46:=Tryz.sizeOf153
 v46:=Tryz.zeroValue153
 t50:=Tryz.underlying82
 a50:=Tryz.isAgg82
 z50:=Tryz.sizeOf82
 v50:=Tryz.zeroValue82
 t53:=Tryz.underlying159
 a53:=Tryz.isAgg159
 z53:=Tryz.sizeOf159
 v53:=Tryz.zeroValue159
 t55:=Tryz.underlying130
 a55:=Tryz.isAgg130
 z55:=Tryz.sizeOf130
 v55:=Tryz.zeroValue130
 t66:=Tryz.underlying181
 a66:=Tryz.isAgg181
 z66:=Tryz.sizeOf181
 v66:=Tryz.zeroValue181
 t70:=Tryz.underlying185
 a70:=Tryz.isAgg185
 z70:=Tryz.sizeOf185
 v70:=Tryz.zeroValue185
 t76:=Tryz.underlying209
 a76:=Tryz.isAgg209
 z76:=Tryz.sizeOf209
 v76:=Tryz.zeroValue209
 t77:=Tryz.underlying171
 a77:=Tryz.isAgg171
 z77:=Tryz.sizeOf171
 v77:=Tryz.zeroValue171 }
def Tryz.pdqC_ren:Go.Shelf.Ren:=⟨fun | 14=>129 | 20=>154 | 21=>155 | 22=>156 | 23=>157 | 24=>158 | 25=>159 | 26=>160 | 27=>161 | 46=>178 | 47=>142 | 48=>143 | 49=>179 | 50=>180 | 15=>67 | 57=>188 | 28=>111 | 29=>112 | n=>n,fun | 24=>88 | 22=>32 | 3=>3 | 25=>147 | 4=>4 | 0=>0 | 46=>153 | 45=>152 | 50=>82 | 66=>181 | 39=>119 | 55=>130 | 70=>185 | 76=>209 | 77=>171 | 53=>159 | 5=>5 | 9=>9 | n=>n,fun | n=>n⟩
theorem Tryz.pdqC:Go.Proofs.SlLaysF0.n14 Tryz.prog Tryz.pdqC_ren:={
 mixed:=by kernel_rfl
 f14:=⟨Tryz.f129.name,by decide,Tryz.func129.trans (congrArg some (by kernel_rfl))⟩
 f15:=Tryz.func67.trans (congrArg some (by kernel_rfl))
 f20:=⟨Tryz.f154.name,by decide,Tryz.func154.trans (congrArg some (by kernel_rfl))⟩
 f21:=⟨Tryz.f155.name,by decide,Tryz.func155.trans (congrArg some (by kernel_rfl))⟩
 f22:=⟨Tryz.f156.name,by decide,Tryz.func156.trans (congrArg some (by kernel_rfl))⟩
 f23:=⟨Tryz.f157.name,by decide,Tryz.func157.trans (congrArg some (by kernel_rfl))⟩
 f24:=⟨Tryz.f158.name,by decide,Tryz.func158.trans (congrArg some (by kernel_rfl))⟩
 f25:=⟨Tryz.f159.name,by decide,Tryz.func159.trans (congrArg some (by kernel_rfl))⟩
 f26:=⟨Tryz.f160.name,by decide,Tryz.func160.trans (congrArg some (by kernel_rfl))⟩
 f27:=⟨Tryz.f161.name,by decide,Tryz.func161.trans (congrArg some (by kernel_rfl))⟩
 f28:=Tryz.func111.trans (congrArg some (by kernel_rfl))
 f29:=Tryz.func112.trans (congrArg some (by kernel_rfl))
 f46:=⟨Tryz.f178.name,by decide,Tryz.func178.trans (congrArg some (by kernel_rfl))⟩
 f47:=Tryz.func142.trans (congrArg some (by kernel_rfl))
 f48:=Tryz.func143.trans (congrArg some (by kernel_rfl))
 f49:=⟨Tryz.f179.name,by decide,Tryz.func179.trans (congrArg some (by kernel_rfl))⟩
 f50:=⟨Tryz.f180.name,by decide,Tryz.func180.trans (congrArg some (by kernel_rfl))⟩
 f57:=⟨Tryz.f188.name,by decide,Tryz.func188.trans (congrArg some (by kernel_rfl))⟩
 t0:=Tryz.underlying0
 a0:=Tryz.isAgg0
 z0:=Tryz.sizeOf0
 v0:=Tryz.zeroValue0
 t3:=Tryz.underlying3
 a3:=Tryz.isAgg3
 z3:=Tryz.sizeOf3
 v3:=Tryz.zeroValue3
 t4:=Tryz.underlying4
 a4:=Tryz.isAgg4
 z4:=Tryz.sizeOf4
 v4:=Tryz.zeroValue4
 t5:=Tryz.underlying5
 a5:=Tryz.isAgg5
 z5:=Tryz.sizeOf5
 v5:=Tryz.zeroValue5
 t9:=Tryz.underlying9
 a9:=Tryz.isAgg9
 z9:=Tryz.sizeOf9
 v9:=Tryz.zeroValue9
 t22:=Tryz.underlying32
 a22:=Tryz.isAgg32
 z22:=Tryz.sizeOf32
 v22:=Tryz.zeroValue32
 t25:=Tryz.underlying147
 a25:=Tryz.isAgg147
 z25:=Tryz.sizeOf147
 v25:=Tryz.zeroValue147
 t39:=Tryz.underlying119
 a39:=Tryz.isAgg119
 z39:=Tryz.sizeOf119
 v39:=Tryz.zeroValue119
 t45:=Tryz.underlying152
 a45:=Tryz.isAgg152
 z45:=Tryz.sizeOf152
 v45:=Tryz.zeroValue152
 t46:=Tryz.underlying153
 a46:=Tryz.isAgg153
 z46:=Tryz.sizeOf153
 v46:=Tryz.zeroValue153
 t50:=Tryz.underlying82
 a50:=Tryz.isAgg82
 z50:=Tryz.sizeOf82
 v50:=Tryz.zeroValue82
 t53:=Tryz.underlying159
 a53:=Tryz.isAgg159
 z53:=Tryz.sizeOf159
 v53:=Tryz.zeroValue159
 t55:=Tryz.underlying130
 a55:=Tryz.isAgg130
 z55:=Tryz.sizeOf130
 v55:=Tryz.zeroValue130
 t66:=Tryz.underlying181
 a66:=Tryz.isAgg181
 z66:=Tryz.sizeOf181
 v66:=Tryz.zeroValue181
 t70:=Tryz.underlying185
 a70:=Tryz.isAgg185
 z70:=Tryz.sizeOf185
 v70:=Tryz.zeroValue185
 t76:=Tryz.underlying209
 a76:=Tryz.isAgg209
 z76:=Tryz.sizeOf209
 v76:=Tryz.zeroValue209
 t77:=Tryz.underlying171
 a77:=Tryz.isAgg171
 z77:=Tryz.sizeOf171
 v77:=Tryz.zeroValue171 }
end Go.Proofs
namespace Go.Proofs.YtlhcekghjfjajaaGreatDoor
open Go.RowKit Go.Ab Go.Sh Go.Proofs Go.Shelf Go.Sort
theorem Dv:∀ x y:au,Lib.compareBytes x y=iT x y
 | [],[]=>rfl
 | [],_::_=>rfl
 | _::_,[]=>rfl
 | a::x,b::y=>by
  have ih:=Dv x y;simp only [Lib.compareBytes,iT,Op.bytesLess] at ih ⊢;by_cases h1:a<b
  ·simp [h1]
  ·by_cases h2:b<a
   ·have:(a==b)=false:=by
     cases h:a==b with
     | false=>rfl
     | true=>exact absurd (eq_of_beq h ▸ h2) (UInt8.lt_irrefl _)
    simp [h1,h2,this]
   ·have e:a=b:=by apply UInt8.toNat_inj.1;have q1:¬ a.toNat<b.toNat:=h1;have q2:¬ b.toNat<a.toNat:=h2;omega
    subst e;simp [h1,ih]
theorem sD (x y:au) (w:World):Calls Tryz.prog 35 #[.string ⟨x.toArray⟩,.string ⟨y.toArray⟩] w fun e w'=>e = .returned (.int .i64 (iT x y))∧w'=w:=by
 have h:=Any.strings_Compare Tryz.lays106 ⟨x.toArray⟩ ⟨y.toArray⟩ w
 rwa [Dv] at h
def o6 (x y:au):Option Int:=some (iT x y)
theorem wV (x y:au) (r:Int) (H:o6 x y=some r):bQ Tryz.prog 35 [.str x,.str y] (.int .i64 r):=by unfold o6 at H;refine cR H fun e => ?_;subst e;refine vN rfl fun w X vs hl hX hd _ => ?_;have d0:=(show D w X (.str x) (vs.getD 0 undef) from hd 0 (by simp)).str_inv;have d1:=(show D w X (.str y) (vs.getD 1 undef) from hd 1 (by simp)).str_inv;rw [KQ (vs:=vs) (by simpa using hl),d0.1,d1.1];exact (sD x y w).mono fun e w' ⟨a,b⟩=>by subst b;exact ⟨_,a,.refl _ _,.int _ _⟩
def pK (xs:List au) (x:au):Nat:=Lib.bsGo (fun t=>Op.bytesLess (xs.getD t []) x) xs.length 0 xs.length
def fE (xs:List au) (x:au):Option (Int×Bool):=bM (xs.length<4611686018427387904) <| some ((pK xs x:Int),decide (pK xs x<xs.length)&&(xs.getD (pK xs x) []==x))
theorem Ac (w:World) (k:Nat):Below w.heap.size w (w.drewN k):=⟨rfl,rfl,rfl,Nat.le_refl _,fun b hb=>rfl⟩
def J0 (w:World) (p:Option Addr) (xs:List au):Prop:=∀ k,k<xs.length→∃ b o,p=some ⟨b,o,none⟩∧w.cell? ⟨b,o+k,none⟩=some (.string ⟨(xs.getD k []).toArray⟩)
theorem D.texts {w:World} {X:Nat→Prop} {ks:List au} {V:Value} (h:D w X (.dslice (ks.map mZ)) V):∃ p cap,V = .slice p ks.length cap∧J0 w p ks∧ks.length≤9223372036854775807∧(∀ k,k<ks.length→(ks.getD k []).length≤maxLen):=by
 by_cases hx:ks=[]
 ·subst hx;generalize hL:([]:List au).map mZ=L at h;cases h with
  | dnil a c hc=>exact ⟨a,c,rfl,fun k hk=>absurd hk (Nat.not_lt_zero _),Nat.zero_le _,fun k hk=>absurd hk (Nat.not_lt_zero _)⟩
  | dslice _ b o c sz cv h1 h2 h3=>subst hL;exact ⟨_,_,rfl,fun k hk=>absurd hk (Nat.not_lt_zero _),Nat.zero_le _,fun k hk=>absurd hk (Nat.not_lt_zero _)⟩
 ·have hne:0<ks.length:=List.length_pos_iff.2 hx;generalize hL:ks.map mZ=L at h;cases h with
  | dnil a c hc=>simp at hL;exact absurd hL hx
  | dslice _ b o c sz cv q1 q2 q0 q3 q4 q5 q6 =>
   subst hL;have hsz1:sz=1:=by
    have:=q4 0 (by simpa using hne);rw [← this];obtain ⟨x,ys,rfl⟩:∃ x ys,ks=x::ys:=by
     cases ks with
     | nil=>simp at hne
     | cons x ys=>exact ⟨x,ys,rfl⟩
    rfl
   subst hsz1;have hcell:∀ j,j<ks.length→w.cell? ⟨b,o+j,none⟩=some (.string ⟨(ks.getD j []).toArray⟩)∧(ks.getD j []).length≤maxLen:=by
    intro j hj;have a1:=q5 j 0 (by simpa using hj) (by omega);have a2:=q6 j 0 (by simpa using hj) (by omega);have e1:(ks.map mZ).getD j []=mZ (ks.getD j []):=by simp [Lz,LA hj]
    rw [e1] at a2;have a3:=(show D w X (.str (ks.getD j [])) (cv j 0) from a2).str_inv;rw [show o+(j*1+0)=o+j by omega,a3.1] at a1;exact ⟨a1,a3.2⟩
   have hm:maxLen=9223372036854775807:=by decide
   rw [LI] at q1;refine ⟨some ⟨b,o,none⟩,c,by rw [LI],fun k hk=>⟨b,o,rfl,(hcell k hk).1⟩,by omega,fun k hk=>(hcell k hk).2⟩
theorem Kv (x y:au):((⟨x.toArray⟩:ByteArray)=⟨y.toArray⟩)↔x=y:=by
 constructor
 ·intro h;have:=congrArg ByteArray.data h;simpa using this
 ·rintro rfl;rfl
theorem qQ (xs:List au) (x:au) (r:Int×Bool) (H:fE xs x=some r):bQ Tryz.prog 32 [.dslice (xs.map mZ),.str x] (.tup [.int .i64 r.1,.bool r.2]):=by
 unfold fE at H;refine aK H fun hn H => ?_;refine cR H fun e => ?_;subst e;refine vN rfl fun w X vs hl hX hd _ => ?_;have d0:D w X (.dslice (xs.map mZ)) (vs.getD 0 undef):=hd 0 (by simp);have d1:=(show D w X (.str x) (vs.getD 1 undef) from hd 1 (by simp)).str_inv;obtain ⟨p,cap,e1,e2,e3,e4⟩:=D.texts d0;rw [KQ (vs:=vs) (by simpa using hl),d1.1,e1];have key:∀ (b:Bool) (n:Nat),D w X (.tup [.int .i64 (n:Int),.bool b]) (.tuple #[.int .i64 (n:Int),.bool b]):=fun b n=>by
  refine .tup _ _ rfl fun j hj => ?_;match j,hj with
  | 0,_=>exact .int _ _
  | 1,_=>exact .bool _
  | (k+2),hj=>simp at hj;omega
 by_cases hx:xs=[]
 ·subst hx;exact (Any2.slices_BinarySearch_string_empty Tryz.lays2_26 p cap ⟨x.toArray⟩ w).mono fun e w' ⟨a,b⟩=>by subst b;exact ⟨_,a,.refl _ _,key false 0⟩
 ·have hne:0<xs.length:=List.length_pos_iff.2 hx;obtain ⟨b,o,rfl,_⟩:=e2 0 hne;have hc:∀ j,j<xs.length→w.cell? ⟨b,o+j,none⟩=some (.string ⟨(xs.getD j []).toArray⟩):=fun j hj=>by obtain ⟨b',o',h1,h2⟩:=e2 j hj;cases h1;exact h2
  refine (Any2.slices_BinarySearch_string Tryz.lays2_26 b o xs.length cap (fun j=>⟨(xs.getD j []).toArray⟩) ⟨x.toArray⟩ w hn hc).mono fun e w' ⟨a,q,h⟩ => ?_;subst h;refine ⟨_,a,Ac w q,?_⟩;have hb:=key (decide (pK xs x<xs.length)&&(xs.getD (pK xs x) []==x)) (pK xs x);have e5:(decide (pK xs x<xs.length∧(⟨(xs.getD (pK xs x) []).toArray⟩:ByteArray)=⟨x.toArray⟩))=(decide (pK xs x<xs.length)&&(xs.getD (pK xs x) []==x)):=by rw [Bool.eq_iff_iff];simp only [decide_eq_true_eq,LB,beq_iff_eq,Kv]
  simp only [toList_mk];show D (w.drewN q) X _ (.tuple #[.int .i64 (pK xs x:Nat),.bool (decide (pK xs x<xs.length∧(⟨(xs.getD (pK xs x) []).toArray⟩:ByteArray)=⟨x.toArray⟩))]);rw [e5];exact D.mono (w:=w) (w':=w.drewN q) (fun b _ hb=>rfl) (fun b hb _=>hb) hb
set_option maxHeartbeats 2000000 in
set_option maxRecDepth 100000 in
theorem CA {β:Type} [Inhabited β] (enc:β→List Value) (hk:∀ x,(enc x).length=7) (h1:∀ x,∀ v∈enc x,v.oneCell'=true) (cf:β→β→Int) (hO:SWO (ltOf cf)) (blk cap:Nat) (d:Array β) (w:World)
 (hcmp:CmpLays Tryz.prog 34 #[] enc 7 cf blk 0 d.size w) (hH:HoldsK enc 7 w blk 0 d) (hblk:blk<w.heap.size) (hsz:d.size<4611686018427387904) :
 Calls Tryz.prog 33 #[.slice (some ⟨blk,0,none⟩) d.size cap,.func (.func 34) #[] #[]] w fun e w'=>e = .returned (.tuple #[])∧∃ d' n os,PermIn 0 d.size d d'∧SortedIn (ltOf cf) 0 d.size d'∧w'=sortWorldK enc 7 w blk 0 n d' os:=by
 have aE:∀ w,(isAgg 41).run Tryz.prog w = .ok true w:=fun w=>Go.Ab.run_isAgg (by kernel_rfl);have zE:∀ w,(Go.sizeOf 41).run Tryz.prog w = .ok 7 w:=fun w=>Go.Ab.run_sizeOf (by kernel_rfl);have eg:∀ args w,(callFunc 34 args).run Tryz.prog w = .ok (.enter 34 args) w:=enters_of Tryz.func34 (by kernel_rfl) rfl;have hlim:Lib.bitLen d.size<4611686018427387904:=Nat.lt_of_le_of_lt (Lib.bitLen_le d.size 62 (by omega) (by omega)) (by omega);have hp:=AnyQ.pdqsortCmpFunc_all Tryz.pdqB 7 aE zE enc cf 34 #[] hO blk 0 cap d w eg hcmp ⟨hk,h1,hH,hblk⟩ (d.size+1) 0 d.size (Lib.bitLen d.size) d w (by omega) rfl (SWK.start hH) (Nat.zero_le _) (Nat.le_refl _) hsz hlim (Or.inl rfl);change Calls Tryz.prog 66 _ _ _ at hp;have hl:Calls Tryz.prog 67 #[.int .u64 (d.size:Int)] w fun e w'=>e = .returned (.int .i64 (Lib.bitLen d.size:Nat))∧w'=w:=by
  have h:=Any.bits_Len Tryz.lays125 (d.size:Int) w (by omega) (by omega)
  rwa [Int.toNat_natCast] at h
 have wr:IntKind.u64.wrap (d.size:Int)=d.size:=by simp [IntKind.wrap,IntKind.bits,IntKind.signed];omega
 have hsrt:=pdq_sorts (ltOf cf) hO d 0 d.size (Lib.bitLen d.size) true true (Nat.zero_le _) (Nat.le_refl _) (Or.inl rfl);generalize pdq (ltOf cf) d 0 d.size (Lib.bitLen d.size) true true=d' at hp hsrt;clear hH hcmp hk h1
 go_enter Tryz.func33,Tryz.ntmps33
 go_wp2_with (first | (go_at_call 67;refine hl.mono ?_;rintro e w' ⟨rfl,rfl⟩) | (go_at_call 66;refine hp.mono ?_;rintro e w' ⟨rfl,n,os,rfl⟩))
 go_end0
 exact ⟨rfl,d',n,os,hsrt.1,hsrt.2,rfl⟩
set_option maxHeartbeats 2000000 in
theorem um (p:Option Addr) (w:World):Calls Tryz.prog 33 #[.slice p 0 0,.func (.func 34) #[] #[]] w fun e w'=>e = .returned (.tuple #[])∧w'=w:=by
 have hp:=fun lim W=>AnyF.pdqsortCmpFunc_none Tryz.pdqB p 0 lim (.func (.func 34) #[] #[]) W;change ∀ lim W,Calls Tryz.prog 66 _ _ _ at hp;have hl:∀ W,Calls Tryz.prog 67 #[.int .u64 0] W fun e w'=>e = .returned (.int .i64 (Lib.bitLen 0:Nat))∧w'=W:=fun W=>Any.bits_Len Tryz.lays125 0 W (by omega) (by omega)
 go_enter Tryz.func33,Tryz.ntmps33
 go_wp2_with (first | (go_at_call 67;refine (hl _).mono ?_;rintro e w' ⟨rfl,rfl⟩) | (go_at_call 66;refine (hp _ _).mono ?_;rintro e w' ⟨rfl,rfl⟩))
 go_end0
 exact ⟨rfl,rfl⟩
set_option maxHeartbeats 2000000 in
set_option maxRecDepth 100000 in
theorem Bp {β:Type} [Inhabited β] (enc:β→List Value) (hk:∀ x,(enc x).length=2) (h1:∀ x,∀ v∈enc x,v.oneCell'=true) (cf:β→β→Int) (hO:SWO (ltOf cf)) (blk cap:Nat) (d:Array β) (w:World)
 (hcmp:CmpLays Tryz.prog 98 #[] enc 2 cf blk 0 d.size w) (hH:HoldsK enc 2 w blk 0 d) (hblk:blk<w.heap.size) (hsz:d.size<4611686018427387904) :
 Calls Tryz.prog 97 #[.slice (some ⟨blk,0,none⟩) d.size cap,.func (.func 98) #[] #[]] w fun e w'=>e = .returned (.tuple #[])∧∃ d' n os,PermIn 0 d.size d d'∧SortedIn (ltOf cf) 0 d.size d'∧w'=sortWorldK enc 2 w blk 0 n d' os:=by
 have aE:∀ w,(isAgg 88).run Tryz.prog w = .ok true w:=fun w=>Go.Ab.run_isAgg (by kernel_rfl);have zE:∀ w,(Go.sizeOf 88).run Tryz.prog w = .ok 2 w:=fun w=>Go.Ab.run_sizeOf (by kernel_rfl);have eg:∀ args w,(callFunc 98 args).run Tryz.prog w = .ok (.enter 98 args) w:=enters_of Tryz.func98 (by kernel_rfl) rfl;have hlim:Lib.bitLen d.size<4611686018427387904:=Nat.lt_of_le_of_lt (Lib.bitLen_le d.size 62 (by omega) (by omega)) (by omega);have hp:=AnyQ.pdqsortCmpFunc_all Tryz.pdqC 2 aE zE enc cf 98 #[] hO blk 0 cap d w eg hcmp ⟨hk,h1,hH,hblk⟩ (d.size+1) 0 d.size (Lib.bitLen d.size) d w (by omega) rfl (SWK.start hH) (Nat.zero_le _) (Nat.le_refl _) hsz hlim (Or.inl rfl);change Calls Tryz.prog 129 _ _ _ at hp;have hl:Calls Tryz.prog 67 #[.int .u64 (d.size:Int)] w fun e w'=>e = .returned (.int .i64 (Lib.bitLen d.size:Nat))∧w'=w:=by
  have h:=Any.bits_Len Tryz.lays125 (d.size:Int) w (by omega) (by omega)
  rwa [Int.toNat_natCast] at h
 have wr:IntKind.u64.wrap (d.size:Int)=d.size:=by simp [IntKind.wrap,IntKind.bits,IntKind.signed];omega
 have hsrt:=pdq_sorts (ltOf cf) hO d 0 d.size (Lib.bitLen d.size) true true (Nat.zero_le _) (Nat.le_refl _) (Or.inl rfl);generalize pdq (ltOf cf) d 0 d.size (Lib.bitLen d.size) true true=d' at hp hsrt;clear hH hcmp hk h1
 go_enter Tryz.func97,Tryz.ntmps97
 go_wp2_with (first | (go_at_call 67;refine hl.mono ?_;rintro e w' ⟨rfl,rfl⟩) | (go_at_call 129;refine hp.mono ?_;rintro e w' ⟨rfl,n,os,rfl⟩))
 go_end0
 exact ⟨rfl,d',n,os,hsrt.1,hsrt.2,rfl⟩
set_option maxHeartbeats 2000000 in
theorem ug (p:Option Addr) (w:World):Calls Tryz.prog 97 #[.slice p 0 0,.func (.func 98) #[] #[]] w fun e w'=>e = .returned (.tuple #[])∧w'=w:=by
 have hp:=fun lim W=>AnyF.pdqsortCmpFunc_none Tryz.pdqC p 0 lim (.func (.func 98) #[] #[]) W;change ∀ lim W,Calls Tryz.prog 129 _ _ _ at hp;have hl:∀ W,Calls Tryz.prog 67 #[.int .u64 0] W fun e w'=>e = .returned (.int .i64 (Lib.bitLen 0:Nat))∧w'=W:=fun W=>Any.bits_Len Tryz.lays125 0 W (by omega) (by omega)
 go_enter Tryz.func97,Tryz.ntmps97
 go_wp2_with (first | (go_at_call 67;refine (hl _).mono ?_;rintro e w' ⟨rfl,rfl⟩) | (go_at_call 129;refine (hp _ _).mono ?_;rintro e w' ⟨rfl,rfl⟩))
 go_end0
 exact ⟨rfl,rfl⟩
set_option maxHeartbeats 1000000 in
theorem Ez (a0 a2 a3 a4 a5 a6 b0 b2 b3 b4 b5 b6:Value) (x y:au) (W:World) :
 Calls Tryz.prog 34 #[.agg #[a0,.string ⟨x.toArray⟩,a2,a3,a4,a5,a6],.agg #[b0,.string ⟨y.toArray⟩,b2,b3,b4,b5,b6]] W fun e w'=>e = .returned (.int .i64 (iT x y))∧∃ q os',w'=grow (W.drewN q) os':=by
 have hcon:=fun W=>sD x y W;generalize iT x y=r at hcon ⊢;generalize (⟨x.toArray⟩:ByteArray)=bx at hcon ⊢;generalize (⟨y.toArray⟩:ByteArray)=bz at hcon ⊢
 go_enter Tryz.func34,Tryz.ntmps34
 go_wp2_with (go_at_call 35;refine (hcon _).mono ?_;rintro e w' ⟨rfl,rfl⟩)
 go_ret
 exact ⟨rfl,0,_,by rw [alloc_eq_grow,alloc_eq_grow,grow_grow];rfl⟩
set_option maxHeartbeats 1000000 in
theorem DX (a1 b1:Value) (x y:au) (W:World) :
 Calls Tryz.prog 98 #[.agg #[.string ⟨x.toArray⟩,a1],.agg #[.string ⟨y.toArray⟩,b1]] W fun e w'=>e = .returned (.int .i64 (iT x y))∧∃ q os',w'=grow (W.drewN q) os':=by
 have hcon:=fun W=>sD x y W;generalize iT x y=r at hcon ⊢;generalize (⟨x.toArray⟩:ByteArray)=bx at hcon ⊢;generalize (⟨y.toArray⟩:ByteArray)=bz at hcon ⊢
 go_enter Tryz.func98,Tryz.ntmps98
 go_wp2_with (go_at_call 35;refine (hcon _).mono ?_;rintro e w' ⟨rfl,rfl⟩)
 go_ret
 exact ⟨rfl,0,_,by rw [alloc_eq_grow,alloc_eq_grow,grow_grow];rfl⟩
theorem AR:SWO (ltOf iT):=by
 have hb:∀ x y,ltOf iT x y=Op.bytesLess x y:=fun x y=>by rw [Bool.eq_iff_iff];simp only [ltOf,decide_eq_true_eq,vT]
 refine ⟨fun x => ?_,fun x y z h1 h2 => ?_,fun x y z h1 h2 => ?_⟩<;>simp only [hb] at *
 ·exact xv x
 ·exact An h1 h2
 ·rcases FD x y with h | h | h
  ·rw [h] at h1;cases h1
  ·subst h;exact h2
  ·cases hz:Op.bytesLess x z with
   | false=>rfl
   | true=>rw [An h hz] at h2;cases h2
def iR {α:Type} (key:α→au) (xs:List α):Option (List α):=bM (xs.length<4611686018427387904∧(xs.map key).Nodup) <| some (iJ (fun x y=>iT (key x) (key y)) xs)
theorem wQ {α:Type} (key:α→au) (xs:List α) (hnd:(xs.map key).Nodup) (i j:Nat) (hi:i<xs.length) (hj:j<xs.length) (h1:ltOf (fun x y=>iT (key x) (key y)) xs[i] xs[j]=false) (h2:ltOf (fun x y=>iT (key x) (key y)) xs[j] xs[i]=false):i=j:=by
 have hb:∀ x y,ltOf (fun x y=>iT (key x) (key y)) x y=Op.bytesLess (key x) (key y):=fun x y=>by rw [Bool.eq_iff_iff];simp only [ltOf,decide_eq_true_eq,vT]
 rw [hb] at h1 h2;have e:key xs[i]=key xs[j]:=by
  rcases FD (key xs[i]) (key xs[j]) with h | h | h
  ·rw [h] at h1;cases h1
  ·exact h
  ·rw [h] at h2;cases h2
 have hp:=List.pairwise_iff_getElem.1 hnd;rcases Nat.lt_trichotomy i j with h | h | h
 ·exact absurd (by rw [List.getElem_map,List.getElem_map];exact e) (hp i j (by simpa using hi) (by simpa using hj) h)
 ·exact h
 ·exact absurd (by rw [List.getElem_map,List.getElem_map];exact e.symm) (hp j i (by simpa using hj) (by simpa using hi) h)
theorem zJ {α:Type} (c:α→List AV) (key:α→au) (c0 c2 c3 c4 c5 c6:α→AV) (h1c:∀ x,(c x).all AV.one=true) (hc:∀ x,c x=[c0 x,.str (key x),c2 x,c3 x,c4 x,c5 x,c6 x]) (xs r:List α) (H:iR key xs=some r) :
 bY Tryz.prog 33 [.rslice 1000,.fn 34 []] [(1000,.row 41 7 (xs.map c))] (fun v h=>v = .tup []∧h=[(1000,.row 41 7 (r.map c))]):=by
 unfold iR at H;refine aK H fun hn H => ?_;refine cR H fun e => ?_;subst e;refine tQ c (fun x=>by rw [hc];rfl) (fun x v hv=>LN.1 (h1c x) v hv) (fun x y=>iT (key x) (key y)) (rJ AR key) 34
  (fun enc hk h1 cf hO blk cap d w=>CA enc hk h1 cf hO blk cap d w) um (fun W X x y A B hA hB => ?_) xs hn.1 (fun i j hi hj=>wQ key xs hn.2 i j hi hj)
 have key2:∀ {z:α} {A:Array Value},D W X (.agg (c z)) (.agg A)→∃ a0 a2 a3 a4 a5 a6,A = #[a0,.string ⟨(key z).toArray⟩,a2,a3,a4,a5,a6]:=by
  intro z A h;rw [hc] at h;generalize hL:[c0 z,AV.str (key z),c2 z,c3 z,c4 z,c5 z,c6 z]=L at h;cases h with
  | agg cs vs hl hd =>
   subst hL;have d1:=(show D W X (.str (key z)) (A.getD 1 undef) from hd 1 (by simp)).str_inv;have hs:A.size=7:=by simpa using hl.symm
   refine ⟨A.getD 0 undef,A.getD 2 undef,A.getD 3 undef,A.getD 4 undef,A.getD 5 undef,A.getD 6 undef,?_⟩;refine Array.ext (by simp [hs]) fun i hi h2 => ?_;match i,hi with
   | 0,_=>simp [LC,hs]
   | 1,_=>simpa [LC,hs] using d1.1
   | 2,_=>simp [LC,hs]
   | 3,_=>simp [LC,hs]
   | 4,_=>simp [LC,hs]
   | 5,_=>simp [LC,hs]
   | 6,_=>simp [LC,hs]
   | (n+7),hi=>omega
 obtain ⟨a0,a2,a3,a4,a5,a6,rfl⟩:=key2 hA;obtain ⟨b0,b2,b3,b4,b5,b6,rfl⟩:=key2 hB;exact Ez _ _ _ _ _ _ _ _ _ _ _ _ (key x) (key y) W
theorem zm {α:Type} (c:α→List AV) (key:α→au) (c1:α→AV) (h1c:∀ x,(c x).all AV.one=true) (hc:∀ x,c x=[.str (key x),c1 x]) (xs r:List α) (H:iR key xs=some r) :
 bY Tryz.prog 97 [.rslice 1000,.fn 98 []] [(1000,.row 88 2 (xs.map c))] (fun v h=>v = .tup []∧h=[(1000,.row 88 2 (r.map c))]):=by
 unfold iR at H;refine aK H fun hn H => ?_;refine cR H fun e => ?_;subst e;refine tQ c (fun x=>by rw [hc];rfl) (fun x v hv=>LN.1 (h1c x) v hv) (fun x y=>iT (key x) (key y)) (rJ AR key) 98
  (fun enc hk h1 cf hO blk cap d w=>Bp enc hk h1 cf hO blk cap d w) ug (fun W X x y A B hA hB => ?_) xs hn.1 (fun i j hi hj=>wQ key xs hn.2 i j hi hj)
 have key2:∀ {z:α} {A:Array Value},D W X (.agg (c z)) (.agg A)→∃ a1,A = #[.string ⟨(key z).toArray⟩,a1]:=by
  intro z A h;rw [hc] at h;generalize hL:[AV.str (key z),c1 z]=L at h;cases h with
  | agg cs vs hl hd =>
   subst hL;have d1:=(show D W X (.str (key z)) (A.getD 0 undef) from hd 0 (by simp)).str_inv;have hs:A.size=2:=by simpa using hl.symm
   refine ⟨A.getD 1 undef,?_⟩;refine Array.ext (by simp [hs]) fun i hi h2 => ?_;match i,hi with
   | 0,_=>simpa [LC,hs] using d1.1
   | 1,_=>simp [LC,hs]
   | (n+2),hi=>omega
 obtain ⟨a1,rfl⟩:=key2 hA;obtain ⟨b1,rfl⟩:=key2 hB;exact DX _ _ (key x) (key y) W
end Go.Proofs.YtlhcekghjfjajaaGreatDoor
namespace Go.Proofs
open Go.Shelf
def Tryz.lays264_ren:Go.Shelf.Ren:=⟨fun | 264=>90 | n=>n,fun | 53=>130 | 46=>119 | n=>n,fun | n=>n⟩
theorem Tryz.lays264:Go.Proofs.Lays.n264 Tryz.prog Tryz.lays264_ren:={
 mixed:=by kernel_rfl
 f264:=Tryz.func90.trans (congrArg some (by kernel_rfl))
 t46:=Tryz.underlying119
 a46:=Tryz.isAgg119
 z46:=Tryz.sizeOf119
 v46:=Tryz.zeroValue119
 t53:=Tryz.underlying130
 a53:=Tryz.isAgg130
 z53:=Tryz.sizeOf130
 v53:=Tryz.zeroValue130 }
end Go.Proofs
namespace Go.Proofs.YtlhcekghjfjajaaGreatDoor
open Go.RowKit Go.Ab Go.Sh Go.Proofs
def eF (x y c:Int):Option (Int×Int):=bM ((0≤x∧x<18446744073709551616)∧(0≤y∧y<18446744073709551616)∧0≤c∧c≤1) <| some ((x+y+c) % 18446744073709551616,(x+y+c) / 18446744073709551616)
def kO (x y c:Int):Option (Int×Int):=bM ((0≤x∧x<18446744073709551616)∧(0≤y∧y<18446744073709551616)∧0≤c∧c≤1) <| some ((x-y-c) % 18446744073709551616,if x<y+c then 1 else 0)
def kU (x y:Int):Option (Int×Int):=bM ((0≤x∧x<18446744073709551616)∧(0≤y∧y<18446744073709551616)) <| some (x*y / 18446744073709551616,x*y % 18446744073709551616)
theorem iN (x y c:Int) (r:Int×Int) (H:eF x y c=some r) (w:World):(callFunc 119 [.int .u64 x,.int .u64 y,.int .u64 c].toArray).run Tryz.prog w = .ok (.value (.tuple [.int .u64 r.1,.int .u64 r.2].toArray)) w:=by refine aK H fun g H => ?_;refine cR H fun e => ?_;subst e;obtain ⟨⟨a1,a2⟩,⟨b1,b2⟩,c1,c2⟩:=g;obtain ⟨X,rfl⟩:=Int.eq_ofNat_of_zero_le a1;obtain ⟨Y,rfl⟩:=Int.eq_ofNat_of_zero_le b1;obtain ⟨C,rfl⟩:=Int.eq_ofNat_of_zero_le c1;show (callFunc 119 #[.int .u64 X,.int .u64 Y,.int .u64 C]).run Tryz.prog w=_;rw [run_callFunc_extern Tryz.func119 (by kernel_rfl) (by kernel_rfl) (by kernel_rfl) (e:=add64Entry) (by kernel_rfl),run_add64 X Y C (by omega) (by omega) (by omega) (by omega)];rfl
theorem pL (x y c:Int) (r:Int×Int) (H:kO x y c=some r) (w:World):(callFunc 121 [.int .u64 x,.int .u64 y,.int .u64 c].toArray).run Tryz.prog w = .ok (.value (.tuple [.int .u64 r.1,.int .u64 r.2].toArray)) w:=by
 refine aK H fun g H => ?_;refine cR H fun e => ?_;subst e;obtain ⟨⟨a1,a2⟩,⟨b1,b2⟩,c1,c2⟩:=g;obtain ⟨X,rfl⟩:=Int.eq_ofNat_of_zero_le a1;obtain ⟨Y,rfl⟩:=Int.eq_ofNat_of_zero_le b1;obtain ⟨C,rfl⟩:=Int.eq_ofNat_of_zero_le c1;show (callFunc 121 #[.int .u64 X,.int .u64 Y,.int .u64 C]).run Tryz.prog w=_;rw [run_callFunc_extern Tryz.func121 (by kernel_rfl) (by kernel_rfl) (by kernel_rfl) (e:=sub64Entry) (by kernel_rfl),run_sub64 X Y C (by omega)];simp only [Result.andThen];have e1:(((X+18446744073709551616-Y-C) % 18446744073709551616:Nat):Int)=((X:Int)-Y-C) % 18446744073709551616:=by omega
 have e2:((if X<Y+C then 1 else 0:Nat):Int)=if (X:Int)<Y+C then 1 else 0:=by
  by_cases h:X<Y+C
  ·rw [if_pos h,if_pos (by omega)];rfl
  ·rw [if_neg h,if_neg (by omega)];rfl
 rw [e1,e2]
theorem pk (x y:Int) (r:Int×Int) (H:kU x y=some r):bQ Tryz.prog 90 [.int .u64 x,.int .u64 y] (.tup [.int .u64 r.1,.int .u64 r.2]):=by refine aK H fun g H => ?_;refine cR H fun e => ?_;subst e;obtain ⟨⟨a1,a2⟩,b1,b2⟩:=g;obtain ⟨X,rfl⟩:=Int.eq_ofNat_of_zero_le a1;obtain ⟨Y,rfl⟩:=Int.eq_ofNat_of_zero_le b1;refine vN rfl fun w Z vs hl _ hd gp => ?_;have h0:=(hd 0 (by simp)).int_inv;have h1:=(hd 1 (by simp)).int_inv;rw [KQ (vs:=vs) (by simpa using hl),h0,h1];refine (Any.bits_Mul64 Tryz.lays264 X Y (by omega) (by omega) w).mono fun e w' ⟨e1,e2⟩ => ?_;exact ⟨_,e1,by rw [e2];exact .refl _ _,.pair (.int _ _) (.int _ _)⟩
end Go.Proofs.YtlhcekghjfjajaaGreatDoor
namespace Go.Ab
open Go.RowKit Go.Sh
theorem bY.es {P:Program} {f:FuncId} {args:List AV} {h0:List (Nat×AO)} {Q:AV→List (Nat×AO)→Prop} (i:Nat) (h:bY P f (args.set i (.dslice [])) h0 Q) (hi:args.getD i .any = .eslice):bY P f args h0 Q :=
 fun c vs hl hr hg=>h c vs (by simpa using hl) hr fun j hj=>by
  have hj':j<args.length:=by simpa using hj
  by_cases e:j=i
  ·subst e;have h1:=hg j hj';rw [hi] at h1;obtain ⟨ad,e1⟩:=h1.eslice_inv;rw [e1];have h2:(args.set j (.dslice [])).getD j .any = .dslice []:=by simp [Lz,hj']
   rw [h2];exact .d (.dnil _ _ (Nat.zero_le _))
  ·have h2:(args.set i (.dslice [])).getD j .any=args.getD j .any:=by simp [Lz,List.getElem?_set,Ne.symm e]
   rw [h2];exact hg j hj'
end Go.Ab
