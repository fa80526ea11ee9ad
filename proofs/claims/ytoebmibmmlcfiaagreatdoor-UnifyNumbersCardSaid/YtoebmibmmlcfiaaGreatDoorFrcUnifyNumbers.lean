/- The frame for walks: states without addresses, the rules by which code is walked, and contracts of library functions. -/
import Derived.Test.YtoebmibmmlcfiaaGreatDoorFrbUnifyNumbers
import Derived.LoopN
import Derived.Shelf.Strconv.Itoa3
import Derived.Shelf.Strconv.ErrVarAll
import Derived.Shelf.Strings.OnBuilder
import Derived.Shelf.Strings.Split
import Derived.Shelf.Strings.SlTrimAscii
import Derived.Lib.SplitLaws
import Derived.Shelf.Sort.Plain
import Derived.Shelf.Slices.In.SortNone
import Derived.Lib.SliceRun
import Derived.Shelf.SlGeneric
import Derived.Shelf.Lays8
import Derived.Shelf.Strings.Builder1
import Derived.Shelf.Strings.Builder2
import Derived.Shelf.Strings.Trim
import Derived.Shelf.Small.Utf8
import Derived.Shelf.Small.Bits
import Derived.Shelf.Small.Strs
import Derived.Shelf.Utf8.RuneCount
import Derived.Shelf.Strconv.Atoi
import Derived.Shelf.Strconv.Itoa0
import Derived.Shelf.Strconv.Itoa1
import Derived.Shelf.LaysM
import Derived.Shelf.Strconv.Itoa2
import Derived.Shelf.Strconv.AtoiErrFast
import Derived.Shelf.Strconv.ParseIntEmpty
import Derived.Shelf.Strconv.AtoiFail
import Derived.Shelf.Strconv.Clone
import Derived.Shelf.Strconv.SyntaxError
import Derived.Shelf.LaysC
import Derived.Shelf.Strconv.ToError
import Derived.Shelf.Strconv.Lower
import Derived.Shelf.Strconv.ParseUint10
import Derived.Shelf.Strconv.ParseUint10Empty
import Derived.Shelf.Strconv.ParseUint10Any
import Derived.Shelf.Strconv.ParseInt10
import Derived.Shelf.Strconv.AtoiLong
import Derived.Shelf.Strconv.AtoiInnerAll
import Derived.Shelf.Strconv.RangeError
import Derived.Shelf.Strconv.ToErrorRange
import Derived.Shelf.Strconv.AtoiAll
import Derived.Shelf.Strings.Search1
import Derived.Shelf.Strings.Search2
import Derived.Shelf.Strings.Search3
import Derived.Shelf.Strings.Cut
import Derived.Shelf.Strings.Count
import Derived.Shelf.Strings.Shaped
import Derived.Shelf.Strings.SplitShaped
import Derived.Shelf.Unicode.Decode
import Derived.Shelf.Strings.Runes
import Derived.Shelf.Strings.RuneCount
import Derived.Shelf.Strings.IndexAny
import Derived.Shelf.Strings.AsciiSet
import Derived.Shelf.Strings.IndexAnyAll
import Derived.Shelf.Strings.Explode
import Derived.Shelf.Bits.Mul64
import Derived.Shelf.Unicode.DecodeSlow
import Derived.Shelf.Unicode.DecodeAny
import Derived.Shelf.Unicode.DecodeLast
import Derived.Shelf.Slices.CompactS
import Derived.Shelf.Slices.Cells
import Derived.Test.YtoebmibmmlcfiaaGreatDoorProg
import Derived.KernelRfl
import Derived.Shelf.SlSortCmp.Insertion
import Derived.Shelf.SlSortCmp.NoneTotal
import Derived.Shelf.Spec.SearchS
import Derived.Shelf.SlLaysF0
import Derived.Ground.NamesProg
import Derived.Ground.Names2Prog
import Derived.Ground.SlsfProg
import Derived.Sort.AssemblyPlain
import Derived.Shelf.SlSortCmp.KitK
import Derived.Laws.Cover1
import Derived.Deep.LoopGhost
import Derived.Shelf.Spec.SlicesGrow
import Derived.Shelf.Small.Wraps
import Derived.StillTailTactics
import Derived.Laws.RangeAny
import Derived.WalkMore
import Derived.Shelf.RegionOpenPlain
import Derived.Below
import Derived.Laws.Runes
import Derived.Shelf.Spec.BitsCarry
set_option linter.unusedSimpArgs false
set_option linter.unusedVariables false
namespace Go.Ab
open Go.RowKit
inductive tj where
 | v
 | e (v:AV)
 | s
 | c (fl:Bool) (v:AV)
 | b
 | l (v:AV)
 | m
 | ap
 | fz (k:Nat)
 | fm (k:Nat)
 | fo (k:Nat) (es:List (Key×AV))
 | en (i:Nat) (v:AV)
 | mk (N:Nat)
 | mm
 | lt
 | mi (es:List (Key×AV))
 | er (t k:Nat) (e:TypeId) (sz:Nat)
 | w
 | we (v:AV)
 | cf (fl:Bool) (v:AV)
 | wk (t:Nat) (p:List (Nat×Nat))
 | rwH (k:Nat) (ob:AO)
 | rl (n j:Nat) (v:AV)
 | rs (n j:Nat)
 | apx (zs:List (List AV))
 | apg
 | xc (v:AV)
 | hM (ps ds:List (Nat×Nat)) (v:AV) (h1:List (Nat×AO))
 | hN (v:AV) (h1:List (Nat×AO))
 | hR (ps:List (Nat×Nat)) (d:Nat) (v:AV) (h1:List (Nat×AO))
def cq:List Prop→Prop
 | []=>True
 | [p]=>p
 | p::ps=>p∧cq ps
theorem cq.cons {p:Prop} {ps:List Prop}:cq (p::ps)↔p∧cq ps:=by
 cases ps with
 | nil=>simp [cq]
 | cons q qs=>rfl
theorem cq.mem {ps:List Prop} (h:cq ps):∀ p∈ps,p:=by
 induction ps with
 | nil=>intro p hp;cases hp
 | cons q qs ih =>
  obtain ⟨h1,h2⟩:=cq.cons.1 h;intro p hp;rcases List.mem_cons.1 hp with rfl | hp
  ·exact h1
  ·exact ih h2 p hp
theorem cq.append {ps qs:List Prop}:cq (ps++qs)↔cq ps∧cq qs:=by
 induction ps with
 | nil=>simp [cq]
 | cons p ps ih=>rw [List.cons_append,cq.cons,cq.cons,ih,and_assoc]
def asks:Op→Bool
 | .unOp _ _ _=>true
 | .binOp op _ _ _ _=>match op with | .add | .sub | .mul | .quo | .rem=>true | _=>false
 | .slice _ _ _ _ _=>true
 | .index _ _ _=>true
 | .indexAddr _ _ _=>true
 | .call _=>true
 | .convert _ _ _=>true
 | _=>false
def Gy:Op→Bool
 | .binOp .quo _ _ _ _=>true
 | .index _ _ _=>true
 | _=>false
def Ja (op:Op) (p:Prop):List Prop:=if Gy op then [p] else []
def LW (op:Op) (p:Prop):List Prop:=if asks op then [p] else []
section
variable {P:Program} {ops:Array Oper} {o:Oper} {s s':AS}
theorem vq {p q:Prop} {u v:AV} (hq:q) (h:some (q,u)=some (p,v)):p:=by cases h;exact hq
theorem E8 {op:BinOp} {k:IntKind} {a b:Int} {p:Prop} {v:AV} (ha:(match op with | .add | .sub | .mul | .quo | .rem=>true | _=>false)=false) (h:xG op k a b=some (p,v)):p:=by cases op<;>simp only [xG,reduceCtorEq] at h ha<;>first | exact vq trivial h | cases h
theorem FD {op:BinOp} {a b:List UInt8} {p:Prop} {v:AV} (ha:(match op with | .add | .sub | .mul | .quo | .rem=>true | _=>false)=false) (h:CW op a b=some (p,v)):p:=by cases op<;>simp only [CW,reduceCtorEq] at h ha<;>first | exact vq trivial h | cases h
theorem Fs {op:BinOp} {t:TypeId} {x y:Operand} {p:Prop} {v:AV} (ha:(match op with | .add | .sub | .mul | .quo | .rem=>true | _=>false)=false) (h:A2 P s op t x y=some (p,v)):p:=by
 unfold A2 at h;split at h
 ·split at h
  ·exact E8 ha h
  ·cases h
 ·exact FD ha h
 ·split at h
  ·split at h<;>first | exact vq trivial h | cases h
  ·cases h
 ·split at h
  ·split at h<;>first | exact vq trivial h | cases h
  ·cases h
 ·split at h
  ·split at h<;>first | exact vq trivial h | cases h
  ·cases h
 ·cases h
theorem FQ {op:Op} {p:Prop} {v:AV} (ha:asks op=false) (h:jn P s op=some (p,v)):p:=by
 unfold jn at h;split at h;case h_9=>exact Fs ha h
 all_goals first
  | exact vq trivial h
  | (cases ha;done)
  | ((repeat' split at h)<;>first | exact vq trivial h | (cases h;done))
theorem B4 {op:Op} {p:Prop} {v:AV} (h:jn P s op=some (p,v)) (hp:cq (LW op p)):p:=by
 unfold LW at hp;cases ha:asks op with
 | true=>rw [ha] at hp;exact hp
 | false=>exact FQ ha h
theorem G2 {op:Op} {p:Prop} {v:AV} (ha:Gy op=false) (h:Ei P s op=some (p,v)):p:=by
 unfold Ei at h;split at h
 ·split at h
  ·repeat' split at h
   all_goals first | exact vq trivial h | cases h
  ·split at h
   ·exact vq trivial h
   ·exact vq trivial h
   ·exact vq trivial h
   ·cases ha
   ·cases h
  ·cases h
 ·split at h
  ·exact vq trivial h
  ·cases h
 ·cases ha
 ·cases h
theorem zq {op:Op} {p:Prop} {v:AV} (h:Ei P s op=some (p,v)) (hp:cq (Ja op p)):p:=by
 unfold Ja at hp;cases ha:Gy op with
 | true=>rw [ha] at hp;exact hp
 | false=>exact G2 ha h
def GC (s:AS) (dst:Option Tmp):Bool:=match dst with | none=>true | some t=>Nat.blt t s.n
theorem dd {dst:Option Tmp} (h:GC s dst=true) (v:AV):s.put dst v=some ((eI.put dst v).app s):=by
 cases dst with
 | none=>rfl
 | some t=>simp only [GC] at h;simp only [AS.put,h];rfl
def A9 (fl:Bool) (s:AS) (ar:Array Operand) (caps:List AV):Option (List AV) :=
 if fl then (if AV.flL (s.args ar caps) then some (s.args ar caps) else none) else some ((s.args ar caps).map (AV.vw s.h))
def JR (P:Program) (s:AS) (op:Op) (fl:Bool) (v:AV):Option (List Prop) :=
 match op with
 | .call ⟨.value x,ar,_⟩=>match s.op x with
  | .fn f caps=>match A9 fl s ar caps with
   | some args=>bif xg fl v then some [Go.Proofs.Enters P f,bg P f args [] fun r _=>r=v] else none
   | none=>none
  | _=>none
 | _=>none
def HW (P:Program) (s:AS) (op:Op) (fl:Bool) (v:AV):Option (List Prop) :=
 match op with
 | .call ⟨.value x,ar,_⟩=>match s.op x with
  | .fn f caps=>match A9 fl s ar caps with
   | some args=>some [Go.Proofs.Enters P f,bg P f args [] (fun r _=>r=v),xg fl v=true]
   | none=>none
  | _=>none
 | _=>none
def J8 (P:Program) (s:AS):Op→Option AV
 | .build t ps=>xN P t (s.parts ps)
 | .buildSlice t len ps=>dn P t len (s.parts ps)
 | _=>none
def Gj (P:Program) (s:AS) (n j:Nat):Op→Option (Prop×AV)
 | .load t x=>vk P s t (s.op x) n j
 | _=>none
def CI (P:Program) (s:AS) (dst:Option Tmp) (n j:Nat):Op→Option (Prop×AS)
 | .store t x y=>match dst with | none=>zL P s t (s.op x) (s.op y) n j | some _=>none
 | _=>none
theorem zU {n j:Nat} {p:Prop} (hg:gd ops s o=some true) (h:CI P s o.dst n j o.op=some (p,s')) (hp:p):lX P ops o s (· = s'):=by
 unfold CI at h;split at h
 ·rename_i t x y hop;split at h
  ·rename_i hd;exact Fo hg hop hd h hp
  ·cases h
 ·cases h
def JV (P:Program) (s:AS):Op→Option (List Prop×AV)
 | .lookup t m x false=>match vn P s t (s.op m) (s.op x) with
  | some v=>some ([],v)
  | none=>match wx P t (s.op m) (s.op x) with
   | some (p,v)=>some ([p],v)
   | none=>none
 | .lookup t m x true=>match qO P s t (s.op m) (s.op x) with
  | some v=>some ([],v)
  | none=>none
 | _=>none
def yb (b:Bool):Option Bool→Bool
 | some c=>c==b
 | none=>false
theorem cm {b:Bool} {x:Option Bool} (h:yb b x=true):x=some b:=by
 cases x with
 | none=>cases h
 | some c=>simp only [yb,beq_iff_eq] at h;rw [h]
def B7 (P:Program) (ops:Array Oper) (s:AS) (o:Oper) (d:tj):Option (List Prop×AV) :=
 bif GC s o.dst then (match d with
 | .s=>bif yb false (gd ops s o) then some ([],.tup []) else none
 | .v=>bif yb true (gd ops s o) then (match jn P s o.op with | some (p,v)=>some (LW o.op p,v) | none=>none) else none
 | .e v'=>bif yb true (gd ops s o) then (match jn P s o.op with | some (p,v)=>some (LW o.op p++[v=v'],v') | none=>none) else none
 | .c fl v=>bif yb true (gd ops s o) then (match JR P s o.op fl v with | some ps=>some (ps,v) | none=>none) else none
 | .cf fl v=>bif yb true (gd ops s o) then (match HW P s o.op fl v with | some ps=>some (ps,v) | none=>none) else none
 | .xc v=>bif yb true (gd ops s o) then (match Iu P s o.op v with | some ps=>some (ps,v) | none=>none) else none
 | .b=>bif yb true (gd ops s o) then (match J8 P s o.op with | some v=>some ([],v) | none=>none) else none
 | .l v'=>bif yb true (gd ops s o) then (match JV P s o.op with | some (ps,v)=>some (ps++[v=v'],v') | none=>none) else none
 | .rl n j v'=>bif yb true (gd ops s o) then (match Gj P s n j o.op with | some (p,v)=>some ([p,v=v'],v') | none=>none) else none
 | .w=>bif yb true (gd ops s o) then (match Ei P s o.op with | some (p,v)=>some (Ja o.op p,v) | none=>none) else none
 | .we v'=>bif yb true (gd ops s o) then (match Ei P s o.op with | some (p,v)=>some (Ja o.op p++[v=v'],v') | none=>none) else none
 | _=>none) else none
theorem bif_some {α:Type} {b:Bool} {x:Option α} {y:α} (h:(bif b then x else none)=some y):b=true∧x=some y:=by
 cases b with
 | true=>exact ⟨rfl,h⟩
 | false=>cases h
theorem vf {d:tj} {ps:List Prop} {v:AV} (h:B7 P ops s o d=some (ps,v)) (hp:cq ps):Loc P ops o s (.put o.dst v):=by
 unfold B7 at h;obtain ⟨hd,h⟩:=bif_some h;cases d;case s =>
  obtain ⟨hg,h⟩:=bif_some h;cases h;exact Iy (cm hg) (dd hd _)
 case v =>
  obtain ⟨hg,h⟩:=bif_some h;split at h
  ·rename_i p v' hv;cases h;exact Ef (cm hg) hv (B4 hv hp) (dd hd _)
  ·cases h
 case e v0 =>
  obtain ⟨hg,h⟩:=bif_some h;split at h
  ·rename_i p v' hv;cases h;obtain ⟨h1,h2⟩:=cq.append.1 hp;have h3:v'=v:=h2;subst h3;exact Ef (cm hg) hv (B4 hv h1) (dd hd _)
  ·cases h
 case c fl v0 =>
  obtain ⟨hg,h⟩:=bif_some h;split at h
  ·rename_i ps' hs;simp only [Mv,Prod.mk.injEq] at h;obtain ⟨h1,h2⟩:=h;subst h1;subst h2;unfold JR at hs;split at hs
   ·rename_i x ar tys hop;split at hs
    ·rename_i f caps hx;split at hs
     ·rename_i args ha;obtain ⟨hr,hs⟩:=bif_some hs;cases hs;exact BR hp.1 (cm hg) hop hx _ ha hp.2 hr (dd hd _)
     ·cases hs
    ·cases hs
   ·cases hs
  ·cases h
 case cf fl v0 =>
  obtain ⟨hg,h⟩:=bif_some h;split at h
  ·rename_i ps' hs;simp only [Mv,Prod.mk.injEq] at h;obtain ⟨h1,h2⟩:=h;subst h1;subst h2;unfold HW at hs;split at hs
   ·rename_i x ar tys hop;split at hs
    ·rename_i f caps hx;split at hs
     ·rename_i args ha;cases hs;exact BR hp.1 (cm hg) hop hx _ ha hp.2.1 hp.2.2 (dd hd _)
     ·cases hs
    ·cases hs
   ·cases hs
  ·cases h
 case xc v0 =>
  obtain ⟨hg,h⟩:=bif_some h;split at h
  ·rename_i ps' hs;simp only [Mv,Prod.mk.injEq] at h;obtain ⟨h1,h2⟩:=h;subst h1;subst h2;unfold Iu at hs;split at hs
   ·rename_i x ar tys hop;split at hs
    ·rename_i f cs hx;split at hs
     ·rename_i vs us hv hu;cases hs;exact KI (cm hg) hop hx hv hu hp (dd hd _)
     ·cases hs
    ·cases hs
   ·cases hs
  ·cases h
 case rl n j v0 =>
  obtain ⟨hg,h⟩:=bif_some h;split at h
  ·rename_i p v' hv;cases h;obtain ⟨h1,h2⟩:=hp;have h3:v'=v:=h2;subst h3;unfold Gj at hv;split at hv
   ·rename_i t x hop;exact FL (cm hg) hop hv h1 (dd hd _)
   ·cases hv
  ·cases h
 case w =>
  obtain ⟨hg,h⟩:=bif_some h;split at h
  ·rename_i p v' hv;cases h;exact G3 (cm hg) hv (zq hv hp) (dd hd _)
  ·cases h
 case we v0 =>
  obtain ⟨hg,h⟩:=bif_some h;split at h
  ·rename_i p v' hv;cases h;obtain ⟨h1,h2⟩:=cq.append.1 hp;have h3:v'=v:=h2;subst h3;exact G3 (cm hg) hv (zq hv h1) (dd hd _)
  ·cases h
 case b =>
  obtain ⟨hg,h⟩:=bif_some h;split at h
  ·rename_i v' hs;cases h;unfold J8 at hs;split at hs
   ·rename_i t parts hop;exact Fg (cm hg) hop hs (dd hd _)
   ·rename_i t len parts hop;exact xt (cm hg) hop hs (dd hd _)
   ·cases hs
  ·cases h
 case l v0 =>
  obtain ⟨hg,h⟩:=bif_some h;split at h
  ·rename_i qs v' hs;cases h;unfold JV at hs;split at hs
   ·rename_i t m x hop;obtain ⟨hq,h3⟩:=cq.append.1 hp;have h3:v'=v:=h3;subst h3;split at hs
    ·rename_i h4;cases hs;exact Iv (cm hg) hop h4 (dd hd _)
    ·split at hs
     ·rename_i h5;cases hs;exact FX (cm hg) hop h5 hq (dd hd _)
     ·cases hs
   ·rename_i t m x hop;obtain ⟨hq,h3⟩:=cq.append.1 hp;have h3:v'=v:=h3;subst h3;split at hs
    ·rename_i h4;cases hs;exact E6 (cm hg) hop h4 (dd hd _)
    ·cases hs
   ·cases hs
  ·cases h
 all_goals cases h
def Aq (P:Program) (s:AS) (dst:Option Tmp) (v:AV) (h1:List (Nat×AO)):Op→Option (List Prop×eI)
 | .call ⟨.value x,ar,_⟩=>match s.op x,dst with
  | .fn f caps,some k=>bif AV.flL (s.args ar caps)&&(Nat.blt k s.n&&Nat.blt k 1000) && !(lk .gone h1 0).isR then some ([Go.Proofs.Enters P f,bg P f (s.args ar caps) [] fun r h=>r=v∧h=h1],⟨[(k,AV.ren [(0,k)] v)],[(k,AO.ren [(0,k)] (lk .gone h1 0))],[k],[]⟩) else none
  | _,_=>none
 | _=>none
theorem yF {v:AV} {h1:List (Nat×AO)} {ps:List Prop} {e:eI} (hg:gd ops s o=some true) (h:Aq P s o.dst v h1 o.op=some (ps,e)) (hp:cq ps):Loc P ops o s e:=by
 unfold Aq at h;split at h
 ·rename_i x ar tys hop;split at h
  ·rename_i f caps k hx hd;obtain ⟨hc,h⟩:=bif_some h;rw [Mm,Mm] at hc;cases h;exact FT hp.1 hg hop hx hc.1.1 hd hc.1.2 (by simpa using hc.2) hp.2
  ·cases h
 ·cases h
def G1 (P:Program) (ops:Array Oper) (s:AS) (o:Oper) (d:tj):Option (List Prop×eI) :=
 match d with
 | .m=>bif yb true (gd ops s o) then (match Ii P s o.dst o.op with | some e=>some ([],e) | none=>none) else none
 | .apx zs=>bif yb true (gd ops s o) then G0 P s o.dst zs o.op else none
 | .mm=>bif yb true (gd ops s o) then KN P s o.dst o.op else none
 | .mi es=>bif yb true (gd ops s o) then HR P s o.dst es o.op else none
 | .lt=>bif yb true (gd ops s o) then Kr P s o.dst o.op else none
 | .hN v h1=>bif yb true (gd ops s o) then Aq P s o.dst v h1 o.op else none
 | d=>match B7 P ops s o d with
  | some (p,v)=>some (p,.put o.dst v)
  | none=>none
theorem AM {d:tj} {ps:List Prop} {e:eI} (h:G1 P ops s o d=some (ps,e)) (hp:cq ps):Loc P ops o s e:=by
 have hE:(match B7 P ops s o d with | some (p,v)=>some (p,eI.put o.dst v) | none=>none)=some (ps,e)→Loc P ops o s e:=fun h=>by
  split at h
  ·rename_i p v hv;cases h;exact vf hv hp
  ·cases h
 unfold G1 at h;cases d;case m =>
  obtain ⟨hg,h⟩:=bif_some h;split at h
  ·rename_i e' he;cases h;exact Be (cm hg) he
  ·cases h
 case apx=>obtain ⟨hg,h⟩:=bif_some h;exact Cf (cm hg) h hp.mem
 case mm=>obtain ⟨hg,h⟩:=bif_some h;exact DF (cm hg) h
 case mi=>obtain ⟨hg,h⟩:=bif_some h;exact Cb (cm hg) h hp.mem
 case lt=>obtain ⟨hg,h⟩:=bif_some h;exact CJ (cm hg) h
 case hN=>obtain ⟨hg,h⟩:=bif_some h;exact yF (cm hg) h hp
 all_goals exact hE h
def Da (P:Program) (ops:Array Oper):List Oper→List tj→AS→Option (List Prop×List eI)
 | [],[],_=>some ([],[])
 | o::os,d::ds,s=>match G1 P ops s o d with
  | some (p,e)=>match Da P ops os ds (e.app s) with
   | some (ps,es)=>some (p++ps,e::es)
   | none=>none
  | none=>none
 | _,_,_=>none
def apps:List eI→AS→AS
 | [],s=>s
 | e::es,s=>apps es (e.app s)
theorem w8:∀ {os:List Oper} {ds:List tj} {s:AS} {ps:List Prop} {es:List eI},Da P ops os ds s=some (ps,es)→cq ps→zv P ops os es s (apps es s)
 | [],[],s,ps,es,h,hp=>by simp only [Da] at h;cases h;rfl
 | [],_::_,s,ps,es,h,hp=>by simp only [Da] at h;cases h
 | _::_,[],s,ps,es,h,hp=>by simp only [Da] at h;cases h
 | o::os,d::ds,s,ps,es,h,hp=>by
  simp only [Da] at h;split at h
  ·rename_i p e hv;split at h
   ·rename_i ps' es' hr;cases h;obtain ⟨h1,h2⟩:=cq.append.1 hp;exact ⟨AM hv h1,w8 hr h2⟩
   ·cases h
  ·cases h
theorem Loc.op {e:eI} (h:Loc P ops o s e) (hf:e.fr=[]) (hx:e.ex=[]):lX P ops o s (fun s''=>mv (e.app s) s'') :=
 h s ⟨rfl,fun _ _=>rfl,fun _ _ _ _ _=>rfl⟩ (fun k hk=>by rw [hf] at hk;cases hk) (fun p hp=>by rw [hx] at hp;cases hp)
def GQ (P:Program) (s:AS) (dst:Option Tmp):Op→Option AS
 | .box t x=>match dst with | some k=>Ag s t (s.op x) k | none=>none
 | .alloc t=>match dst,zeroOf P t with | some k,some z=>Ag s t (AV.of z) k | _,_=>none
 | .store t x y=>match dst with | none=>uG P s t (s.op x) (s.op y) | some _=>none
 | .makeMap t none=>match dst with | some k=>qN P s t k | none=>none
 | .mapUpdate t m x y=>match dst with | none=>qH P s t (s.op m) (s.op x) (s.op y) | some _=>none
 | .insert t m x y=>match dst with | none=>qH P s t (s.op m) (s.op x) (s.op y) | some _=>none
 | .range t m=>match dst with
  | some k=>match CA P s t (s.op m) k with
   | some s'=>some s'
   | none=>Av P s t (s.op m) k
  | none=>none
 | .next it false=>match Du s (s.op it) with
  | some v=>s.put dst v
  | none=>none
 | op=>match uq P s op with | some v=>s.put dst v | none=>none
theorem AZ (hg:gd ops s o=some true) (h:GQ P s o.dst o.op=some s'):lX P ops o s (· = s'):=by
 unfold GQ at h;split at h
 ·rename_i t x hop;split at h
  ·rename_i k hd;exact G5 hg hop hd h
  ·cases h
 ·rename_i t hop;split at h
  ·rename_i k z hd hz;exact BM hg hop hd hz h
  ·cases h
 ·rename_i t x y hop;split at h
  ·rename_i hd;exact A0 hg hop hd h
  ·cases h
 ·rename_i t hop;split at h
  ·rename_i k hd;exact xl hg hop hd h
  ·cases h
 ·rename_i t m x y hop;split at h
  ·rename_i hd;exact JA hg hop hd h
  ·cases h
 ·rename_i t m x y hop;split at h
  ·rename_i hd;exact I8 hg hop hd h
  ·cases h
 ·rename_i t m hop;split at h
  ·rename_i k hd;split at h
   ·rename_i h2;cases h;exact Hd hg hop hd h2
   ·exact FC hg hop hd h
  ·cases h
 ·rename_i it hop;split at h
  ·rename_i v hv;exact HJ hg hop hv h
  ·cases h
 ·split at h
  ·exact Bs hg (by assumption) h
  ·cases h
def Ar (P:Program) (s:AS) (dst:Option Tmp) (ps:List (Nat×Nat)) (d:Nat) (v:AV) (h1:List (Nat×AO)) (f:FuncId) (args0:List AV):Option (List Prop×AS) :=
 bif pQ ps&&(ps.all fun p=>Nat.ble 1000 p.2&&(Nat.blt p.2 1000000&&Nat.blt p.1 1000000))&&(rk ps d).isNone&&Nat.blt d 1000&&(s.noR||(ps.isEmpty && !(lk .gone h1 0).isR)) then (match AS.put ⟨s.n,og d s.t,ll ps d h1 s.h⟩ dst (AV.ren ((0,d)::swp ps) v) with
  | some s'=>some ([Go.Proofs.Enters P f,bg P f (args0.map (AV.ren ps)) (hand ps s.h) fun r h'=>r=v∧h'=h1],s')
  | none=>none) else none
def Hq (P:Program) (s:AS) (dst:Option Tmp) (ps:List (Nat×Nat)) (d:Nat) (v:AV) (h1:List (Nat×AO)):Op→Option (List Prop×AS)
 | .call ⟨.value x,ar,_⟩=>match s.op x with
  | .fn f caps=>Ar P s dst ps d v h1 f (s.args ar caps)
  | .bm f k off=>Ar P s dst ps d v h1 f (AV.hptr k off::s.args ar [])
  | _=>none
 | _=>none
theorem BX {ps:List (Nat×Nat)} {d:Nat} {v:AV} {h1:List (Nat×AO)} {qs:List Prop} (hg:gd ops s o=some true) (h:Hq P s o.dst ps d v h1 o.op=some (qs,s')) (hp:cq qs):lX P ops o s (· = s'):=by
 have key:∀ {f:FuncId} {args0:List AV} {x:Operand} {ar:Array Operand} {tys:Array TypeId},o.op = .call ⟨.value x,ar,tys⟩→(Go.Proofs.Enters P f→∀ (c:Cx P) a w β κ,Rel c s a w β κ→∃ vs:Array Value,(execOp a.eval o).run P w = .ok (.enter f vs) w∧vs.size=args0.length∧∀ i,i<args0.length→G w (c.XX s.h β) β κ (args0.getD i .any) (vs.toList.getD i undef))→Ar P s o.dst ps d v h1 f args0=some (qs,s')→lX P ops o s (· = s'):=by
  intro f args0 x ar tys hop hx h;unfold Ar at h;obtain ⟨hc0,h2⟩:=bif_some h;rw [Mm] at hc0;obtain ⟨hc,hor⟩:=hc0;have hor:s.noR=true∨(ps=[]∧∀ v2 h',(v2=v∧h'=h1)→(lk .gone h' 0).isR=false):=by rw [Bool.or_eq_true,Mm] at hor;refine hor.imp id fun h=>⟨by simpa using h.1,fun v2 h' e => ?_⟩;rw [e.2];simpa using h.2
  split at h2
  ·rename_i s2 hs;simp only [Mv,Prod.mk.injEq] at h2;obtain ⟨h3,h4⟩:=h2;subst h3;subst h4;exact BV hp.1 hg hop (hx hp.1) ps d hc hor rfl rfl hp.2 fun r h' hr=>by obtain ⟨rfl,rfl⟩:=hr;exact ⟨_,hs,rfl⟩
  ·cases h2
 unfold Hq at h;split at h
 ·rename_i x ar tys hop;split at h
  ·rename_i f caps hx;exact key hop (fun he=>Af he hop hx) h
  ·rename_i f k off hx;exact key hop (fun he=>D2 he hop hx) h
  ·cases h
 ·cases h
def AF (P:Program) (s:AS) (dst:Option Tmp) (ps ds:List (Nat×Nat)) (v:AV) (h1:List (Nat×AO)) (f:FuncId) (args0:List AV):Option (List Prop×AS) :=
 bif (pQ ps&&(ps.all fun p=>Nat.ble 1000 p.2&&(Nat.blt p.2 1000000&&Nat.blt p.1 1000000))&&pQ ds&&ds.all fun p=>(rk ps p.2).isNone&&(Nat.blt p.1 1000&&Nat.blt p.2 1000))&&(s.noR||(ps.isEmpty&&h1.all fun p => !p.2.isR)) then (match AS.put ⟨s.n,FV ds s.t,mR ps ds h1 s.h⟩ dst (AV.ren (ds++swp ps) v) with
  | some s'=>some ([Go.Proofs.Enters P f,bg P f (args0.map (AV.ren ps)) (hand ps s.h) fun r h'=>r=v∧h'=h1],s')
  | none=>none) else none
def Dn (P:Program) (s:AS) (dst:Option Tmp) (ps ds:List (Nat×Nat)) (v:AV) (h1:List (Nat×AO)):Op→Option (List Prop×AS)
 | .call ⟨.value x,ar,_⟩=>match s.op x with
  | .fn f caps=>AF P s dst ps ds v h1 f (s.args ar caps)
  | .bm f k off=>AF P s dst ps ds v h1 f (AV.hptr k off::s.args ar [])
  | _=>none
 | _=>none
theorem Al {ps ds:List (Nat×Nat)} {v:AV} {h1:List (Nat×AO)} {qs:List Prop} (hg:gd ops s o=some true) (h:Dn P s o.dst ps ds v h1 o.op=some (qs,s')) (hp:cq qs):lX P ops o s (· = s'):=by
 have key:∀ {f:FuncId} {args0:List AV} {x:Operand} {ar:Array Operand} {tys:Array TypeId},o.op = .call ⟨.value x,ar,tys⟩→(Go.Proofs.Enters P f→∀ (c:Cx P) a w β κ,Rel c s a w β κ→∃ vs:Array Value,(execOp a.eval o).run P w = .ok (.enter f vs) w∧vs.size=args0.length∧∀ i,i<args0.length→G w (c.XX s.h β) β κ (args0.getD i .any) (vs.toList.getD i undef))→AF P s o.dst ps ds v h1 f args0=some (qs,s')→lX P ops o s (· = s'):=by
  intro f args0 x ar tys hop hx h;unfold AF at h;obtain ⟨hc0,h2⟩:=bif_some h;rw [Mm] at hc0;obtain ⟨hc,hor⟩:=hc0;have hor:s.noR=true∨(ps=[]∧∀ v2 h',(v2=v∧h'=h1)→∀ j,(lk .gone h' j).isR=false):=by rw [Bool.or_eq_true,Mm] at hor;refine hor.imp id fun h=>⟨by simpa using h.1,fun v2 h' e j => ?_⟩;rw [e.2];have:=vM (p:=fun o:AO => !o.isR) (d:=AO.gone) rfl h.2 j;simpa using this
  split at h2
  ·rename_i s2 hs;simp only [Mv,Prod.mk.injEq] at h2;obtain ⟨h3,h4⟩:=h2;subst h3;subst h4;exact Im hp.1 hg hop (hx hp.1) ps ds hc hor rfl rfl hp.2 fun r h' hr=>by obtain ⟨rfl,rfl⟩:=hr;exact ⟨_,hs,rfl⟩
  ·cases h2
 unfold Dn at h;split at h
 ·rename_i x ar tys hop;split at h
  ·rename_i f caps hx;exact key hop (fun he=>Af he hop hx) h
  ·rename_i f k off hx;exact key hop (fun he=>D2 he hop hx) h
  ·cases h
 ·cases h
def rowAt (s:AS):AV→Option (Nat×List (List AV))
 | .rslice k=>match lk .gone s.h k with | .row _ _ xs=>some (k,xs) | _=>none
 | _=>none
def Lv:AV→Option (List (List AV))
 | .dslice ys=>some ys
 | .eslice=>some []
 | _=>none
def Ly (s:AS) (x:AV):Option TypeId:=match x with | .rslice k=>(match lk .gone s.h k with | .row e _ _=>some e | _=>none) | _=>none
def Lr (s:AS) (x:AV):Option Nat:=match x with | .rslice k=>(match lk .gone s.h k with | .row _ e _=>some e | _=>none) | _=>none
def GO (P:Program) (s:AS) (dst:Option Tmp):Op→Option (List Prop×AS)
 | .call ⟨.builtin .append,ar,tys⟩=>match ar.toList,tys.toList,dst with
  | [x,y],[t,t'],some k'=>if t=t' then (match gN P t,rowAt s (s.op x),Lv (s.op y) with
   | some (e,sz,by_),some (k,xs),some ys=>if Ly s (s.op x)=some e∧Lr s (s.op x)=some sz then (match s.grow k k' e sz (xs++ys) with
    | some s'=>some ([EL sz ys,(xs.length+ys.length)*by_≤140737488355328,xs.length+ys.length≤9223372036854775807],s')
    | none=>none) else none
   | _,_,_=>none) else none
  | _,_,_=>none
 | .buildSlice t len ps=>match dst,gN P t,dn P t len (s.parts ps) with
  | some k',some (e,sz,_),some (.dslice xs)=>(match s.grow k' k' e sz xs with | some s'=>some ([],s') | none=>none)
  | _,_,_=>none
 | _=>none
theorem A4 {ps:List Prop} (hg:gd ops s o=some true) (h:GO P s o.dst o.op=some (ps,s')) (hp:cq ps):lX P ops o s (· = s'):=by
 unfold GO at h;split at h
 ·rename_i ar tys hop;split at h
  ·rename_i x y t t' k' har hty hd;split at h;case isFalse=>cases h
   rename_i ht;subst ht;have e1:ar = #[x,y]:=by rw [← Array.toList_inj];exact har
   have e2:tys = #[t,t]:=by rw [← Array.toList_inj];exact hty
   subst e1;subst e2;split at h
   ·rename_i e sz by_ k xs ys he hx hy;split at h;case isFalse=>cases h
    rename_i hm;split at h
    ·rename_i s2 hs;cases h;have hx':s.op x = .rslice k∧lk .gone s.h k = .row e sz xs:=by
      unfold rowAt at hx;split at hx
      ·rename_i k2 hk2;split at hx
       ·rename_i e3 sz3 xs3 h3;cases hx;simp only [hk2,Ly,Lr,h3,Mv] at hm;obtain ⟨e4,e5⟩:=hm;subst e4;subst e5;exact ⟨hk2,h3⟩
       ·cases hx
      ·cases hx
     have hy':s.op y = .dslice ys∨(s.op y = .eslice∧ys=[]):=by
      unfold Lv at hy;split at hy
      ·cases hy;exact .inl (by assumption)
      ·cases hy;exact .inr ⟨by assumption,rfl⟩
      ·cases hy
     exact uC hg hop hd he (.inr hx') hy' hp.1 hp.2.1 hp.2.2 hs
    ·cases h
   ·cases h
  ·cases h
 ·rename_i t len ps hop;split at h
  ·rename_i k' e2 sz by_ xs hd he hv;split at h
   ·rename_i s2 hs;cases h;exact vg hg hop hd he hv (.inl rfl) hs
   ·cases h
  ·cases h
 ·cases h
def stepG (P:Program) (s:AS) (dst:Option Tmp):Op→Option (List Prop×AS)
 | .call ⟨.builtin .append,ar,tys⟩=>match ar.toList,tys.toList,dst with
  | [x,y],[t,t'],some k'=>if t=t' then (match gN P t,s.op x,s.op y with
   | some (e,sz,by_),.gslice k,.dslice []=>(match s.put dst (.gslice k) with | some s'=>some ([],s') | none=>none)
   | some (e,sz,by_),.gslice k,.dslice (y0::ys)=>(match lk .gone s.h k with
    | .room e' sz'=>if e'=e∧sz'=sz then (match s.grow k k' e sz (y0::ys) with
     | some s'=>some ([EL sz (y0::ys),(y0::ys).length*by_≤140737488355328,(y0::ys).length≤9223372036854775807],s')
     | none=>none) else none
    | _=>none)
   | _,_,_=>none) else none
  | _,_,_=>none
 | _=>none
theorem Bx {ps:List Prop} (hg:gd ops s o=some true) (h:stepG P s o.dst o.op=some (ps,s')) (hp:cq ps):lX P ops o s (· = s'):=by
 unfold stepG at h;split at h
 ·rename_i ar tys hop;split at h
  ·rename_i x y t t' k' har hty hd;split at h;case isFalse=>cases h
   rename_i ht;subst ht;have e1:ar = #[x,y]:=by rw [← Array.toList_inj];exact har
   have e2:tys = #[t,t]:=by rw [← Array.toList_inj];exact hty
   subst e1;subst e2;split at h
   ·rename_i e sz by_ k he hx hy;split at h
    ·rename_i s2 hs;cases h;exact AW hg hop he hx hy hs
    ·cases h
   ·rename_i e sz by_ k y0 ys he hx hy;split at h
    ·rename_i e' sz' hk;split at h;case isFalse=>cases h
     rename_i hm;obtain ⟨rfl,rfl⟩:=hm;split at h
     ·rename_i s2 hs;cases h;exact CG hg hop hd he hx hk hy (by simp) hp.1 hp.2.1 hp.2.2 hs
     ·cases h
    ·cases h
   ·cases h
  ·cases h
 ·cases h
def GL (s:AS) (dst:Option Tmp) (i:Nat) (v':AV):Op→Option (List Prop×AS)
 | .entry it=>match s.op it with
  | .hptr k 0=>match lk .gone s.h k with
   | .iter es sn=>match s.put dst v' with
    | some s'=>some ([sn.getLast? = some i,AV.tup [(es.getD i default).1.av,(es.getD i default).2]=v'],s')
    | none=>none
   | _=>none
  | _=>none
 | _=>none
theorem B9 {i:Nat} {v':AV} {ps:List Prop} (hg:gd ops s o=some true) (h:GL s o.dst i v' o.op=some (ps,s')) (hp:cq ps):lX P ops o s (· = s'):=by
 unfold GL at h;split at h
 ·rename_i it hop;split at h
  ·rename_i k hi;split at h
   ·rename_i es sn hk;split at h
    ·rename_i s2 hs;cases h;obtain ⟨h1,h2⟩:=hp;have h2:AV.tup [(es.getD i default).1.av,(es.getD i default).2]=v':=h2;subst h2;exact Gw hg hop hi hk h1 hs
    ·cases h
   ·cases h
  ·cases h
 ·cases h
theorem Mc {rest:List Oper} {Q:Exit→AS→Prop} {k:Nat} {es':List (Key×AV)} {p:Prop} (h:s.frzO k es'=some (p,s')) (hp:p) (ht:km P ops rest Q s'):km P ops rest Q s:=fun c a w β κ r=>ht c a w β κ (r.frzO h hp)
theorem km.same {rest:List Oper} {Q:Exit→AS→Prop} (h:km P ops rest Q s) (e:mv s' s):km P ops rest Q s':=fun c a w β κ r=>h c a w β κ (r.same e)
theorem Mb {rest:List Oper} {Q:Exit→AS→Prop} {t k:Nat} {e:TypeId} {sz:Nat} (h:s.erow t k e sz=some s') (ht:km P ops rest Q s'):km P ops rest Q s:=fun c a w β κ r=>by obtain ⟨κ',r'⟩:=r.erow h;exact ht c a w β κ' r'
theorem L5 {rest:List Oper} {Q:Exit→AS→Prop} {k:Nat} {p:Prop} (h:s.frzM k=some (p,s')) (hp:p) (ht:km P ops rest Q s'):km P ops rest Q s:=fun c a w β κ r=>ht c a w β κ (r.frzM h hp)
theorem Ig {t:Nat} {v:AV} (h:lk .any s.t t=v):mv ⟨s.n,ins t v s.t,s.h⟩ s:=⟨rfl,fun i=>by
 show lk .any s.t i=lk .any (ins t v s.t) i;rw [bf];split
 ·rename_i e;rw [e];exact h
 ·rfl,fun _=>rfl⟩
theorem GX {k:Nat} {ob:AO} (h:lk .gone s.h k=ob):mv ⟨s.n,s.t,ins k ob s.h⟩ s:=⟨rfl,fun _=>rfl,fun i=>by
 show lk .gone s.h i=lk .gone (ins k ob s.h) i;rw [bf];split
 ·rename_i e;rw [e];exact h
 ·rfl⟩
theorem LI {rest:List Oper} {Q:Exit→AS→Prop} {k:Nat} {ob:AO} (h:lk .gone s.h k=ob) (ht:km P ops rest Q ⟨s.n,s.t,ins k ob s.h⟩):km P ops rest Q s :=
 fun c a w β κ r=>ht c a w β κ (r.same (mv.symm' (GX h)))
theorem LY {rest:List Oper} {Q:Exit→AS→Prop} (t:Nat) (p:List (Nat×Nat)) (ht:km P ops rest Q (s.wkT t p)):km P ops rest Q s:=fun c a w β κ r=>by exact ht c a w β κ (r.wkT t p)
def LP (s:AS):tj→Option (List Prop×AS)
 | .fz k=>(s.frz k).map fun s'=>([],s')
 | .fm k=>(s.frzM k).map fun r=>([r.1],r.2)
 | .fo k es=>(s.frzO k es).map fun r=>([r.1],r.2)
 | .er t k e sz=>(s.erow t k e sz).map fun s'=>([],s')
 | .wk t p=>some ([],s.wkT t p)
 | .rwH k ob=>some ([lk .gone s.h k=ob],⟨s.n,s.t,ins k ob s.h⟩)
 | _=>none
theorem Ks {α:Type} {x:Option α} {r:List Prop×α} (h:(x.map fun s'=>(([]:List Prop),s'))=some r):x=some r.2:=by
 cases x with
 | none=>cases h
 | some a=>cases h;rfl
theorem Kj {x:Option (Prop×AS)} {r:List Prop×AS} (h:(x.map fun r=>([r.1],r.2))=some r) (hp:cq r.1):∃ p,x=some (p,r.2)∧p:=by
 cases x with
 | none=>cases h
 | some a=>cases h;exact ⟨a.1,rfl,hp⟩
theorem DN {d:tj} {r:List Prop×AS} (h:LP s d=some r) (hp:cq r.1) {rest:List Oper} {Q:Exit→AS→Prop} (ht:km P ops rest Q r.2):km P ops rest Q s:=by
 cases d;case fz k=>exact Ln k (Ks h) ht
 case fm k=>obtain ⟨p,e,hp⟩:=Kj h hp;exact L5 e hp ht
 case fo k es=>obtain ⟨p,e,hp⟩:=Kj h hp;exact Mc e hp ht
 case er=>exact Mb (Ks h) ht
 case wk t p=>cases h;exact LY t p ht
 case rwH k ob=>cases h;exact LI hp ht
 all_goals cases h
def L9 (P:Program) (ops:Array Oper) (s:AS) (o:Oper) (d:tj):Option (List Prop×AS) :=
 bif yb true (gd ops s o) then (match d with
 | .m=>(GQ P s o.dst o.op).map fun s'=>([],s')
 | .rs n j=>(CI P s o.dst n j o.op).map fun r=>([r.1],r.2)
 | .ap=>GO P s o.dst o.op
 | .apg=>stepG P s o.dst o.op
 | .mk N=>GN P s o.dst N o.op
 | .en i v=>GL s o.dst i v o.op
 | .hR qs d v h1=>Hq P s o.dst qs d v h1 o.op
 | .hM qs qd v h1=>Dn P s o.dst qs qd v h1 o.op
 | _=>none) else none
theorem Fq {d:tj} {r:List Prop×AS} (h:L9 P ops s o d=some r) (hp:cq r.1):lX P ops o s (· = r.2):=by
 unfold L9 at h;obtain ⟨hg,h⟩:=bif_some h;have hg:=cm hg;cases d;case m=>exact AZ hg (Ks h)
 case rs n j=>obtain ⟨p,e,hp⟩:=Kj h hp;exact zU hg e hp
 case ap=>exact A4 hg h hp
 case apg=>exact Bx hg h hp
 case mk N=>exact BK hg h (cq.mem hp)
 case en i v=>exact B9 hg h hp
 case hR qs d v h1=>exact BX hg h hp
 case hM qs qd v h1=>exact Al hg h hp
 all_goals cases h
def K9 (P:Program) (ops:Array Oper) (s:AS) (os:List Oper) (d:tj):Option (List Prop×AS×List Oper) :=
 match d,os with
 | _,_=>none
theorem Dj {d:tj} {os:List Oper} {r:List Prop×AS×List Oper} (h:K9 P ops s os d=some r) (hp:cq r.1) {Q:Exit→AS→Prop} (ht:km P ops r.2.2 Q r.2.1):km P ops os Q s:=by
 unfold K9 at h;first
 | (cases h;done)
def K7 (P:Program) (ops:Array Oper) (s:AS) (os:List Oper) (d:tj):Option (List Prop×AS×List Oper) :=
 match LP s d with
 | some (p,s')=>some (p,s',os)
 | none=>match K9 P ops s os d with
  | some r=>some r
  | none=>match os with
   | o::os'=>(match L9 P ops s o d with
    | some (p,s')=>some (p,s',os')
    | none=>(B7 P ops s o d).map fun r=>(r.1,(eI.put o.dst r.2).app s,os'))
   | []=>none
theorem CQ {d:tj} {os:List Oper} {r:List Prop×AS×List Oper} (h:K7 P ops s os d=some r) (hp:cq r.1) {Q:Exit→AS→Prop} (ht:km P ops r.2.2 Q r.2.1):km P ops os Q s:=by
 unfold K7 at h;split at h
 ·rename_i p s' he;cases h;exact DN he hp ht
 ·split at h
  ·rename_i r' he;cases h;exact Dj he hp ht
  ·cases os with
   | nil=>cases h
   | cons o os' =>
    simp only at h;split at h
    ·rename_i p s' he;cases h;exact zz ((Fq he hp).mono fun s3 e=>by subst e;exact ht)
    ·obtain ⟨x,hx,rfl⟩:=Option.map_eq_some_iff.1 h;refine zz (((vf (v:=x.2) hx hp).op rfl rfl).mono fun s3 e => ?_);exact fun c a w β κ r=>ht c a w β κ (r.same e.symm')
def z6 (P:Program) (ops:Array Oper):List Oper→List tj→AS→Option (List Prop×AS×List Oper)
 | os,[],s=>some ([],s,os)
 | os,d::ds,s=>match K7 P ops s os d with
  | some (p,s',os')=>(match z6 P ops os' ds s' with | some (ps,r)=>some (p++ps,r) | none=>none)
  | none=>none
theorem kH {Q:Exit→AS→Prop}:∀ (ds:List tj) {os:List Oper} {s:AS} {ps:List Prop} {s':AS} {os':List Oper},z6 P ops os ds s=some (ps,s',os')→cq ps→km P ops os' Q s'→km P ops os Q s
 | [],os,s,ps,s',os',h,hp,ht=>by cases h;exact ht
 | d::ds,os,s,ps,s',os',h,hp,ht=>by
  unfold z6 at h;split at h
  ·rename_i p s2 os2 he;split at h
   ·rename_i ps' r hr;cases h;obtain ⟨h1,h2⟩:=cq.append.1 hp;exact CQ he h1 (kH ds hr h2 ht)
   ·cases h
  ·cases h
end
section
variable {P:Program} {Q:Exit→AS→Prop} {s s':AS} {l:List Oper} {id:Nat}
theorem I5 (ds:List tj) {ps:List Prop} (h:z6 P l.toArray l ds s=some (ps,s',[])) (hp:cq ps) (hq:Q .normal s'):eS P (.region id l.toArray false) Q s :=
 sW (kH ds h hp (Bl hq))
def KO (P:Program) (l:List Oper) (n:Nat) (d1 d2:List tj) (s:AS):Option (List Prop×AS×List Oper) :=
 match Da P l.toArray (l.take n) d1 s with
 | some (ps,es)=>bif Hk l n es s&&J1 (wV l []) es s&&JT (wV l []) es s then (match z6 P l.toArray (l.drop n) d2 (apps es s) with
  | some (qs,r)=>some (ps++qs,r)
  | none=>none) else none
 | none=>none
theorem FP (hm:P.follows .mixedOrders=true) (n:Nat) (d1 d2:List tj) {ps:List Prop} (h:KO P l n d1 d2 s=some (ps,s',[])) (hp:cq ps) (hq:Q .normal s'):eS P (.region id l.toArray true) Q s:=by
 unfold KO at h;split at h
 ·rename_i ps1 es he;obtain ⟨hc,h2⟩:=bif_some h;split at h2
  ·rename_i qs r hr;simp only [Mv,Prod.mk.injEq] at h2;obtain ⟨h3,h4⟩:=h2;subst h3;subst h4;obtain ⟨p1,p2⟩:=cq.append.1 hp;exact Ha hm n es hc (w8 he p1) (kH d2 hr p2 (Bl hq))
  ·cases h2
 ·cases h
def xM (f:Func):Code:=match f.body with | some c=>c | none=>.skip
def tA (f:Func):Bool:=match f.body with | some _=>true | none=>false
theorem B6 {f:Func} (h:tA f=true):f.body=some (xM f):=by
 unfold tA at h;unfold xM;split at h
 ·rename_i c e;rw [e]
 ·cases h
theorem LO {f:FuncId} {fn:Func} {args:List AV} {h:List (Nat×AO)} {Post:AV→List (Nat×AO)→Prop} (hf:P.funcs[f]? = some fn) (n:Nat) (rs:List ResultVar) (hok:(tA fn&&Nat.beq fn.ntmps n&&Nat.ble args.length n)=true) (hrs:fn.results.toList=rs)
 (ht:eS P (xM fn) (Lq P rs Post) ⟨n,oL args 0,h⟩):bg P f args h Post:=by
 simp only [Mm,Nat.beq_eq,Nat.ble_eq] at hok;exact AU hf (B6 hok.1.1) n hok.1.2 rs hrs hok.2 ht
end
section
variable {P:Program} {Q:Exit→AS→Prop} {s s':AS} {l:List Oper} {id:Nat}
def AS.only (s:AS) (ts hs:List Nat):AS:=⟨s.n,sel ts s.t,sel hs s.h⟩
theorem all_nil:cq []:=trivial
theorem all_cons {p:Prop} {ps:List Prop} (h:p) (h2:cq ps):cq (p::ps):=cq.cons.2 ⟨h,h2⟩
theorem a8 {ps qs:List Prop} (h:cq ps) (h2:cq qs):cq (ps++qs):=cq.append.2 ⟨h,h2⟩
theorem br.eq {f:FuncId} {args:List AV} {v v':AV} (h:br P f args v) (e:v=v'):bg P f args [] fun r _=>r=v':=bg.mono h fun _ _ hr=>hr.1.trans e
theorem br.is {f:FuncId} {args:List AV} {v:AV} (h:br P f args v):bg P f args [] fun r _=>r=v:=bg.mono h fun _ _ hr=>hr.1
theorem ix {α:Type} {f:α→List AV} {l:List α} {n:Nat} {sz:Nat} (d:α) (hf:∀ x,(f x).length=sz) (h0:0<sz) (h:n<l.length) :
 cq [((0:Int)≤(n:Int)∧(n:Int)<((l.map f).length:Int))∧(((l.map f).getD (n:Int).toNat []).length=sz∧0<sz),AV.dptr ((l.map f).getD (n:Int).toNat []) = .dptr (f (l.getD n d))]:=by
 have e:(l.map f).getD (n:Int).toNat []=f (l.getD n d):=by simp [Mk,Ml h]
 refine ⟨⟨⟨by omega,by simpa using h⟩,?_,h0⟩,?_⟩
 ·rw [e];exact hf _
 ·rw [e];rfl
theorem Jd {α:Type} {f:α→List AV} {l:List α} {n:Int} {sz:Nat} (d:α) (hf:∀ x,(f x).length=sz) (h0:0<sz) (h:0≤n∧n<l.length) :
 cq [((0:Int)≤n∧n<((l.map f).length:Int))∧(((l.map f).getD n.toNat []).length=sz∧0<sz),AV.dptr ((l.map f).getD n.toNat []) = .dptr (f (l.getD n.toNat d))]:=by
 have hn:n.toNat<l.length:=by omega
 have e:(l.map f).getD n.toNat []=f (l.getD n.toNat d):=by simp [Mk,Ml hn]
 refine ⟨⟨⟨h.1,by simpa using h.2⟩,?_,h0⟩,?_⟩
 ·rw [e];exact hf _
 ·rw [e];rfl
theorem bo {α:Type} (f:α→List AV) (l:List α):AV.int .i64 ((l.map f).length:Nat) = .int .i64 (l.length:Nat):=by rw [Mt]
def BO:AV→List Prop
 | .str l=>[l.length≤9223372036854775807]
 | .dslice xs=>[xs.length≤9223372036854775807]
 | _=>[]
def DP:List AV→List Prop
 | []=>[]
 | c::cs=>BO c++DP cs
def lens:AV→List Prop
 | .agg cs=>DP cs
 | .tup cs=>DP cs
 | v=>BO v
theorem tY {w:World} {X:Nat→Prop} {β:Nat→Nat} {κ:Nat→Nat×Nat} {v:AV} {V:Value} (h:G w X β κ v V):cq (BO v):=by
 unfold BO;split
 ·exact h.str_len
 ·obtain ⟨_,_,_,_,h1,h2⟩:=h.dslice_inv;exact Nat.le_trans h1 h2
 ·trivial
theorem ug {w:World} {X:Nat→Prop} {β:Nat→Nat} {κ:Nat→Nat×Nat}:∀ {cs:List AV} {vs:Nat→Value},(∀ i,i<cs.length→G w X β κ (cs.getD i .any) (vs i))→cq (DP cs)
 | [],_,_=>trivial
 | c::cs,vs,h=>cq.append.2 ⟨tY (h 0 (by simp)),ug (vs:=fun i=>vs (i+1)) fun i hi=>by simpa using h (i+1) (by simpa using hi)⟩
theorem Gd {w:World} {X:Nat→Prop} {β:Nat→Nat} {κ:Nat→Nat×Nat} {v:AV} {V:Value} (h:G w X β κ v V):cq (lens v):=by
 unfold lens;split
 ·obtain ⟨vs,_,_,hg⟩:=h.agg_inv;exact ug hg
 ·obtain ⟨vs,_,_,hg⟩:=h.tup_inv;exact ug hg
 ·exact tY h
theorem bK {cd:Code} (t:Nat) {ps:List Prop} (h:lens (lk .any s.t t)=ps) (ht:cq ps→eS P cd Q s):eS P cd Q s:=fun c a w β κ r =>
 ht (h ▸ Gd (r.tm t)) c a w β κ r
end
def Cv (s s':AS):Prop:=∀ (P:Program) (c:Cx P) (a:Act) (w:World) (β:Nat→Nat) (κ:Nat→Nat×Nat),Rel c s a w β κ→∃ β' κ',Rel c s' a w β' κ'
theorem Cv.refl (s:AS):Cv s s:=fun _ _ _ _ β κ r=>⟨β,κ,r⟩
theorem Cv.trans {s s' s'':AS} (h:Cv s s') (h':Cv s' s''):Cv s s'':=fun P c a w β κ r=>by obtain ⟨β',κ',r'⟩:=h _ c a w β κ r;exact h' _ c a w β' κ' r'
theorem Cv.only (s:AS) (ts hs:List Nat):Cv s (s.only ts hs):=fun _ _ _ _ β κ r=>⟨β,κ,r.sel ts hs⟩
theorem Cv.frz {s s':AS} {k:Nat} (h:s.frz k=some s'):Cv s s':=fun _ _ _ _ β κ r=>⟨β,κ,r.frz h⟩
theorem Cv.frzM {s s':AS} {k:Nat} {p:Prop} (h:s.frzM k=some (p,s')) (hp:p):Cv s s':=fun _ _ _ _ β κ r=>⟨β,κ,r.frzM h hp⟩
theorem Cv.erow {s s':AS} {t k:Nat} {e:TypeId} {sz:Nat} (h:s.erow t k e sz=some s'):Cv s s':=fun _ _ _ _ β κ r=>by obtain ⟨κ',r'⟩:=r.erow h;exact ⟨β,κ',r'⟩
theorem Cv.tri {P:Program} {cd:Code} {Q:Exit→AS→Prop} {s s':AS} (h:Cv s s') (ht:eS P cd Q s'):eS P cd Q s:=fun c a w β κ r=>by obtain ⟨β',κ',r'⟩:=h _ c a w β κ r;exact ht c a w β' κ' r'
theorem Cv.wkT (s:AS) (t:Nat) (p:List (Nat×Nat)):Cv s (s.wkT t p):=fun _ _ _ _ β κ r=>⟨β,κ,r.wkT t p⟩
def AO.wk (i:Nat) (p:List (Nat×Nat)):AO→AO
 | .cells e cs=>.cells e (dE (AV.wk p) i cs)
 | o=>o
def AS.wkH (s:AS) (k i:Nat) (p:List (Nat×Nat)):AS:=⟨s.n,s.t,s.h.map fun q=>(q.1,bif Nat.beq q.1 k then AO.wk i p q.2 else q.2)⟩
theorem Hv {α:Type} (d:α) (f:α→α) (hd:f d=d) (k:Nat) (l:List (Nat×α)) (i:Nat):lk d (l.map fun q=>(q.1,bif Nat.beq q.1 k then f q.2 else q.2)) i=if i=k then f (lk d l i) else lk d l i:=by
 induction l with
 | nil=>simp [lk,hd]
 | cons p l ih =>
  obtain ⟨j,u⟩:=p;simp only [List.map_cons,lk];by_cases h:i=j
  ·subst h;rw [Nat.beq_refl];simp only [cond_true];by_cases h2:i=k
   ·subst h2;simp
   ·rw [cW h2,if_neg h2];rfl
  ·rw [cW h];simp only [cond_false];exact ih
theorem zC (s:AS) (k i:Nat) (p:List (Nat×Nat)) (j:Nat):lk .gone (s.wkH k i p).h j=if j=k then AO.wk i p (lk .gone s.h j) else lk .gone s.h j:=Hv .gone (AO.wk i p) rfl k s.h j
theorem AO.live_wk (i:Nat) (p:List (Nat×Nat)) (o:AO):(AO.wk i p o).live=o.live:=by cases o<;>rfl
theorem AO.inn_wk (i:Nat) (p:List (Nat×Nat)) (o:AO) (j:Nat):(AO.wk i p o).inn j=o.inn j:=by cases o<;>rfl
theorem AO.gone_wk {i:Nat} {p:List (Nat×Nat)} {o:AO} (h:AO.wk i p o ≠ .gone):o ≠ .gone:=fun e=>h (by rw [e];rfl)
theorem Cv.wkH (s:AS) (k i:Nat) (p:List (Nat×Nat)):Cv s (s.wkH k i p):=fun P c a w β κ r=>by
 have hlive:∀ j,(lk .gone (s.wkH k i p).h j).live=(lk .gone s.h j).live:=fun j=>by
  rw [zC];split
  ·rw [AO.live_wk]
  ·rfl
 have hinn:∀ j l,(lk .gone (s.wkH k i p).h j).inn l=(lk .gone s.h j).inn l:=fun j l=>by
  rw [zC];split
  ·rw [AO.inn_wk]
  ·rfl
 have hlv:∀ j,lv (s.wkH k i p).h j=lv s.h j:=fun j=>by simp only [lv,hlive,hinn]
 have hown:own (s.wkH k i p).h β=own s.h β:=by funext b;simp only [own,hlv]
 have hX:c.XX (s.wkH k i p).h β=c.XX s.h β:=by funext b;simp [Cx.XX,hown]
 refine ⟨β,κ,r.df,r.sz,fun j => ?_,⟨fun j => ?_,fun a b ha hb e=>r.hp.inj a b (by rw [hlv] at ha;exact ha) (by rw [hlv] at hb;exact hb) e,r.hp.kp,fun j hj=>r.hp.nk j (by rw [hlv] at hj;exact hj),fun j hj=>r.hp.nx j (by rw [hlv] at hj;exact hj),r.hp.fix,fun j hj => ?_⟩⟩
 ·rw [hX];exact r.tm j
 ·rw [hX,zC];have h:=r.hp.ob j;split
  ·generalize lk .gone s.h j=o at h;cases o with
   | cells e cs =>
    obtain ⟨cur,h1,h2,h3⟩:=h;exact ⟨cur,h1,by rw [bA];exact h2,fun l hl=>eW (R:=fun x=>G w (c.XX s.h β) β κ x (cur.getD l undef)) (fun x hx=>hx.wk p) i cs l (h3 l (by rw [bA] at hl;exact hl))⟩
   | _=>exact h
  ·exact h
 ·rw [zC] at hj;split at hj
  ·exact r.hp.sg j (AO.gone_wk hj)
  ·exact r.hp.sg j hj
def LB (ps:List (Nat×Nat)):Bool:=ps.all fun p=>bif Nat.beq p.1 p.2 then Nat.blt p.2 1000000 else Nat.blt p.2 1000
def AS.ren (s:AS) (ps:List (Nat×Nat)):AS:=⟨s.n,s.t.map fun q=>(q.1,AV.ren ps q.2),hand ps s.h⟩
theorem Cv.ren (s:AS) (ps:List (Nat×Nat)) (hps:(pQ ps&&LB ps)=true):Cv s (s.ren ps):=fun P c a w β κ r=>by
 simp only [Mm] at hps;obtain ⟨hinj,hid⟩:=hps;have hbig:∀ {k j},rk ps k=some j→j<1000000∧(1000≤j→k=j):=fun {k j} h=>by
  have:=My.1 hid _ (pL h);cases e:Nat.beq k j with
  | true =>
   simp only [e,cond_true,Nat.blt_eq] at this;exact ⟨this,fun _=>dW.1 e⟩
  | false =>
   simp only [e,cond_false,Nat.blt_eq] at this;exact ⟨by omega,fun hj=>by omega⟩
 let τ:Nat→Nat→Prop:=fun n n'=>rk ps n=some n'∨∃ k j i,rk ps k=some j∧i<1000000∧n=gk k i∧n'=gk j i
 let β':Nat→Nat:=vI (fun j=>match rk (swp ps) j with | some k=>β k | none=>β j) (fun j i=>match rk (swp ps) j with | some k=>β (gk k i) | none=>β (gk j i))
 let κ':Nat→Nat×Nat:=vI (fun j=>match rk (swp ps) j with | some k=>κ k | none=>κ j) (fun j i=>match rk (swp ps) j with | some k=>κ (gk k i) | none=>κ (gk j i))
 have hβ:∀ k j,rk ps k=some j→β' j=β k∧κ' j=κ k:=by intro k j h;have h2:=(cD hinj).2 h;have h3:=(hbig h).1;exact ⟨by simp only [β',fR h3,h2],by simp only [κ',fR h3,h2]⟩
 have hβv:∀ k j,rk ps k=some j→∀ i,i<1000000→β' (gk j i)=β (gk k i)∧κ' (gk j i)=κ (gk k i):=by intro k j h i hi;have h2:=(cD hinj).2 h;exact ⟨by simp only [β',dQ hi,h2],by simp only [κ',dQ hi,h2]⟩
 have hlk:∀ j,lk .gone (hand ps s.h) j=match rk (swp ps) j with | some k=>AO.ren ps (lk .gone s.h k) | none=>.gone:=fun j=>vS hinj j
 have hlvh:∀ n',lv (hand ps s.h) n'→∃ n,((rk ps n=some n'∧n<1000000)∨∃ k j i,rk ps k=some j∧i<1000000∧n=gk k i∧n'=gk j i)∧lv s.h n∧β' n'=β n:=by
  rintro n' (h1 | ⟨m,i,rfl,h1⟩)
  ·rw [hlk] at h1;cases e:rk (swp ps) n' with
   | none=>rw [e] at h1;exact h1.elim
   | some k =>
    rw [e] at h1;have e2:=(cD hinj).1 e;have h2:=mP.1 h1;exact ⟨k,.inl ⟨e2,r.hp.sm k h2⟩,.inl h2,(hβ _ _ e2).1⟩
  ·rw [hlk] at h1;cases e:rk (swp ps) m with
   | none=>rw [e] at h1;exact h1.elim
   | some k =>
    rw [e] at h1;have e2:=(cD hinj).1 e;have hi:=(AO.inn_isR h1).1;exact ⟨gk k i,.inr ⟨k,m,i,e2,hi,rfl,rfl⟩,cV (pK.1 h1),(hβv _ _ e2 i hi).1⟩
 have hown:∀ b,own (hand ps s.h) β' b→own s.h β b:=by rintro b ⟨j,h1,h2⟩;obtain ⟨k,_,h3,h4⟩:=hlvh j h1;exact ⟨k,h3,by rw [← h4];exact h2⟩
 have hX:∀ b,¬ c.XX s.h β b→b<w.heap.size→¬ c.XX (hand ps s.h) β' b:=fun b hb _ hb'=>hb (hb'.imp id (hown b));refine ⟨β',κ',r.df,r.sz,fun i => ?_,⟨fun j => ?_,fun i j hi hj e => ?_,r.hp.kp,fun j hj => ?_,fun j hj => ?_,fun j hj hj6 => ?_,fun j hj => ?_⟩⟩
 ·show G w (c.XX (hand ps s.h) β') β' κ' (lk .any (s.t.map fun q=>(q.1,AV.ren ps q.2)) i) _;rw [sR .any (AV.ren ps) rfl];exact (r.tm i).ren hβ hX
 ·show HO w (c.XX (hand ps s.h) β') β' κ' j (lk .gone (hand ps s.h) j);rw [hlk];cases e:rk (swp ps) j with
  | none=>trivial
  | some k =>
   have e2:=(cD hinj).1 e;exact (r.hp.ob k).ren hβ hX (hβ _ _ e2) (fun i hi _=>hβv _ _ e2 i hi)
 ·obtain ⟨k1,a1,a2,a3⟩:=hlvh i hi;obtain ⟨k2,b1,b2,b3⟩:=hlvh j hj;have:k1=k2:=r.hp.inj k1 k2 a2 b2 (by rw [← a3,← b3];exact e);subst this;rcases a1 with ⟨h,h'⟩ | ⟨k,l,i,h,hii,rfl,rfl⟩<;>rcases b1 with ⟨g,g'⟩ | ⟨k2,l2,i2,g,hi2,ee,rfl⟩
  ·rw [h] at g;exact Mx g
  ·have:=dV k2 i2;omega
  ·have:=dV k i;omega
  ·obtain ⟨rfl,rfl⟩:=jX hii hi2 ee;rw [h] at g;rw [Mx g]
 ·obtain ⟨k,_,a2,a3⟩:=hlvh j hj;rw [a3];exact r.hp.nk k a2
 ·obtain ⟨k,_,a2,a3⟩:=hlvh j hj;rw [a3];exact r.hp.nx k a2
 ·have hf:=r.hp.fix j hj hj6;have e1:β' j=(match rk (swp ps) j with | some k=>β k | none=>β j):=fR hj6;have e2:κ' j=(match rk (swp ps) j with | some k=>κ k | none=>κ j):=fR hj6;rw [e1,e2];cases e:rk (swp ps) j with
  | none=>exact hf
  | some k =>
   have:=(hbig ((cD hinj).1 e)).2 hj;subst this;exact hf
 ·have hj:lk .gone (hand ps s.h) j ≠ .gone:=hj;rw [hlk] at hj;cases e:rk (swp ps) j with
  | none=>rw [e] at hj;exact absurd rfl hj
  | some k=>exact (hbig ((cD hinj).1 e)).1
def AS.erowH (s:AS) (k i k':Nat) (e:TypeId) (sz:Nat):Option AS :=
 match lk .gone (gM k' s.h) k with
 | .cells e2 cs=>match cs.getD i .any with
  | .eslice=>bif Nat.blt k' 1000 && !Nat.beq k k' then some ⟨s.n,og k' s.t,ins k' (.row e sz []) (ins k (.cells e2 (dE (fun _=>.rslice k') i cs)) (gM k' s.h))⟩ else none
  | _=>none
 | _=>none
theorem BN {α:Type} (f:α→α) (d:α):∀ (i:Nat) (l:List α) (j:Nat),(dE f i l).getD j d=if j=i∧i<l.length then f (l.getD j d) else l.getD j d
 | _,[],j=>by simp [dE]
 | 0,x::xs,0=>by simp [dE]
 | 0,x::xs,j+1=>by simp [dE]
 | i+1,x::xs,0=>by simp [dE]
 | i+1,x::xs,j+1=>by have:=BN f d i xs j;simpa [dE] using this
theorem Cv.erowH {s s':AS} {k i k':Nat} {e:TypeId} {sz:Nat} (h:s.erowH k i k' e sz=some s'):Cv s s':=fun P c a w β κ r=>by
 unfold AS.erowH at h;split at h
 ·rename_i e2 cs hk;split at h
  ·rename_i hi;obtain ⟨hc,h⟩:=bif_some h;cases h;rw [Mm] at hc;have hk':k'<1000:=by simpa [Nat.blt_eq] using hc.1
   have hkk:k≠k':=fun e=>by have:=hc.2;rw [e,Nat.beq_refl] at this;cases this
   have r':=r.pg k';let h2:=ins k' (AO.row e sz []) (ins k (.cells e2 (dE (fun _=>.rslice k') i cs)) (gM k' s.h))
   have hl:∀ j,lk AO.gone h2 j=if j=k' then .row e sz [] else if j=k then .cells e2 (dE (fun _=>.rslice k') i cs) else lk .gone (gM k' s.h) j:=fun j=>by show lk AO.gone (ins k' _ _) j=_;rw [bf,bf]
   have hk6:k'<1000000:=by omega
   have hlive:∀ {j},lv h2 j→lv (gM k' s.h) j:=by
    intro j hl2;rcases gH (o:=.row e sz []) hk6 (fun _ h=>h) hl2 with ⟨_,h0⟩ | ⟨_,hl2⟩
    ·exact absurd rfl h0
    ·exact (tt (by rw [hk];exact Iff.rfl) (fun i=>by rw [hk];exact Iff.rfl) j).1 hl2
   have hX:∀ b,¬ c.XX (gM k' s.h) β b→b<w.heap.size→¬ c.XX h2 β b:=by
    rintro b hb _ (hx | ⟨j,hl,hj⟩)
    ·exact hb (.inl hx)
    ·exact hb (.inr ⟨j,hlive hl,hj⟩)
   have hT:∀ {v:AV} {V:Value},G w (c.XX (gM k' s.h) β) β κ v V→AV.men k' v=false→G w (c.XX h2 β) β (upd κ k' (0,0)) v V:=fun hg hm =>
    hg.mono (w':=w) (fun _ _ _=>rfl) hX (fun j hj=>.updκ hk6 (fun e=>by rw [e,hm] at hj;cases hj))
   refine ⟨β,upd κ k' (0,0),r.df,r.sz,fun i => ?_,⟨fun j => ?_,fun i j hi hj e=>r'.hp.inj i j (hlive hi) (hlive hj) e,r.hp.kp,fun j hj=>r'.hp.nk j (hlive hj),fun j hj=>r'.hp.nx j (hlive hj),fun j hj hj6 => ?_,fun j hj => ?_⟩⟩
   ·exact hT (r'.tm i) (by show AV.men k' (lk .any (og k' s.t) i)=false;rw [gn,AV.men_pg])
   ·show HO w (c.XX h2 β) β (upd κ k' (0,0)) j (lk AO.gone h2 j);rw [hl];by_cases ej:j=k'
    ·rw [if_pos ej,ej];exact ⟨by rw [aA];rfl,fun h=>absurd rfl h⟩
    ·rw [if_neg ej];by_cases ej2:j=k
     ·rw [if_pos ej2,ej2];have ho:=r'.hp.ob k;have hmen:AO.men k' (lk .gone (gM k' s.h) k)=false:=by rw [eQ];exact AO.men_pg k' _
      rw [hk] at ho hmen;obtain ⟨cur,g1,g2,g3⟩:=ho;refine ⟨cur,g1,by rw [bA];exact g2,fun l hl2 => ?_⟩;rw [bA] at hl2;rw [BN];have g4:=g3 l hl2;have hm2:AV.men k' (cs.getD l .any)=false:=by
       cases hb:AV.men k' (cs.getD l .any) with
       | false=>rfl
       | true=>have:=di hl2 hb;rw [show AV.menL k' cs=false from hmen] at this;cases this
      by_cases el:l=i∧i<cs.length
      ·rw [if_pos el];rw [el.1,hi] at g4;obtain ⟨ad,e1⟩:=g4.eslice_inv;rw [el.1,e1];exact .rslice0 k' ad (by rw [aA])
      ·rw [if_neg el];exact hT g4 hm2
     ·rw [if_neg ej2];exact (r'.hp.ob j).mono (w':=w) (fun _ _ _=>rfl) hX (fun i hi=>.updκ hk6 (fun e=>by rw [e] at hi;have:AO.men k' (lk .gone (gM k' s.h) j)=true:=hi;rw [eQ,AO.men_pg] at this;cases this)) (.updκ hk6 ej) (fun _=>rfl) (fun _ _=>rfl)
   ·have:j≠k':=by omega
    rw [bM κ this];exact r.hp.fix j hj hj6
   ·have hj:lk AO.gone h2 j ≠ .gone:=hj;rw [hl] at hj;by_cases ej:j=k'
    ·omega
    ·rw [if_neg ej] at hj;by_cases ej2:j=k
     ·rw [ej2];exact r'.hp.sm k (by show (lk .gone (gM k' s.h) k).live;rw [hk];trivial)
     ·rw [if_neg ej2] at hj;exact r'.hp.sg j hj
  ·cases h
 ·cases h
inductive Cd where
 | only (ts hs:List Nat)
 | fz (k:Nat)
 | er (t k:Nat) (e:TypeId) (sz:Nat)
 | wk (t:Nat) (p:List (Nat×Nat))
 | wkH (k i:Nat) (p:List (Nat×Nat))
 | ren (ps:List (Nat×Nat))
 | erH (k i k':Nat) (e:TypeId) (sz:Nat)
def conv:List Cd→AS→Option AS
 | [],s=>some s
 | .only ts hs::cs,s=>conv cs (s.only ts hs)
 | .fz k::cs,s=>match s.frz k with | some s'=>conv cs s' | none=>none
 | .er t k e sz::cs,s=>match s.erow t k e sz with | some s'=>conv cs s' | none=>none
 | .wk t p::cs,s=>conv cs (s.wkT t p)
 | .wkH k i p::cs,s=>conv cs (s.wkH k i p)
 | .erH k i k' e sz::cs,s=>match s.erowH k i k' e sz with | some s'=>conv cs s' | none=>none
 | .ren ps::cs,s=>bif pQ ps&&LB ps then conv cs (s.ren ps) else none
theorem eJ:∀ (cs:List Cd) {s s':AS},conv cs s=some s'→Cv s s'
 | [],s,s',h=>by cases h;exact .refl _
 | .only ts hs::cs,s,s',h=>(Cv.only s ts hs).trans (eJ cs h)
 | .fz k::cs,s,s',h=>by
  simp only [conv] at h;split at h
  ·rename_i h1;exact (Cv.frz h1).trans (eJ cs h)
  ·cases h
 | .er t k e sz::cs,s,s',h=>by
  simp only [conv] at h;split at h
  ·rename_i h1;exact (Cv.erow h1).trans (eJ cs h)
  ·cases h
 | .wk t p::cs,s,s',h=>(Cv.wkT s t p).trans (eJ cs h)
 | .wkH k i p::cs,s,s',h=>(Cv.wkH s k i p).trans (eJ cs h)
 | .erH k i k' e sz::cs,s,s',h=>by
  simp only [conv] at h;split at h
  ·rename_i h1;exact (Cv.erowH h1).trans (eJ cs h)
  ·cases h
 | .ren ps::cs,s,s',h=>by obtain ⟨h1,h2⟩:=bif_some h;exact (Cv.ren s ps h1).trans (eJ cs h2)
end Go.Ab
namespace Go.Sh
inductive fE (σ ε ρ:Type) where
 | go (s:σ)
 | brk (e:ε)
 | ret (r:ρ)
inductive Out (ε ρ:Type) where
 | brk (e:ε)
 | ret (r:ρ)
section
variable {α β σ ε ρ:Type}
def AK (k:σ→Option (Out ε ρ)):fE σ ε ρ→Option (Out ε ρ)
 | .go s=>k s
 | .brk e=>some (.brk e)
 | .ret r=>some (.ret r)
def fA (body:Nat→σ→Option (fE σ ε ρ)) (fin:Nat→σ→ε):Nat→Nat→σ→Option (Out ε ρ)
 | 0,i,s=>some (.brk (fin i s))
 | k+1,i,s=>(body i s).bind (AK (fA body fin k (i+1)))
def oa (body:σ→Option (fE σ ε ρ)):Nat→σ→Option (Out ε ρ)
 | 0,_=>none
 | n+1,s=>(body s).bind (AK (oa body n))
def aft (f:ε→Option β):Out ε β→Option β
 | .brk e=>f e
 | .ret r=>some r
def bX (p:Prop) [Decidable p] (x:Option α):Option α:=if p then x else none
def uY:fE σ ε ρ→Out ε ρ→Prop
 | .go _,_=>True
 | .brk e,r=>r = .brk e
 | .ret x,r=>r = .ret x
theorem aL {m:Option α} {f:α→Option β} {v:β} {G:Prop} (H:m.bind f=some v) (k:∀ y,m=some y→f y=some v→G):G:=by
 cases m with
 | none=>cases H
 | some y=>exact k y rfl H
theorem aU {b:Bool} {x y:Option α} {v:α} {G:Prop} (H:(bif b then x else y)=some v) (t:b=true→x=some v→G) (f:b=false→y=some v→G):G:=by
 cases b with
 | true=>exact t rfl H
 | false=>exact f rfl H
theorem aP {p:Prop} [Decidable p] {x:Option α} {v:α} {G:Prop} (H:bX p x=some v) (k:p→x=some v→G):G:=by
 unfold bX at H;split at H
 ·exact k (by assumption) H
 ·cases H
theorem bc {x y:α} {G:Prop} (H:some x=some y) (k:x=y→G):G:=k (Mx H)
end
end Go.Sh
namespace Go.Ab
open Go.RowKit Go.Sh
inductive Fr where
 | seq (c:Code)
 | blk (id:Nat)
 | bar (S:AS)
 | rnd (n:Nat) (y:Code)
def RT (P:Program) (n:Nat) (y:Code) (Q:Exit→AS→Prop) (s:AS):Prop:=∀ (c:Cx P) a w β κ,Rel c s a w β κ→Code.rounds P y (lift c Q) n a w
theorem ve {P:Program} {y:Code} {Q Q':Exit→Act→World→Prop} (h:∀ e a w,Q e a w→Q' e a w):∀ (n:Nat) a w,Code.rounds P y Q n a w→Code.rounds P y Q' n a w
 | 0,_,_,hr=>hr.elim
 | n+1,a,w,hr=>Code.wp_mono (fun e a w q=>by
  cases e with
  | normal=>exact ve h n a w q
  | _=>exact h _ _ _ q) hr
theorem RT.succ {P:Program} {n:Nat} {y:Code} {Q:Exit→AS→Prop} {s:AS} (h:eS P y (Lh (RT P n y Q) Q) s):RT P (n+1) y Q s:=fun c a w β κ r =>
 Code.wp_mono (fun e a w q=>by
  obtain ⟨s',β',κ',q,r'⟩:=q;cases e with
  | normal=>exact (show RT P n y Q s' from q) c a w β' κ' r'
  | _=>exact ⟨s',β',κ',q,r'⟩) (h c a w β κ r)
theorem RT.loop {P:Program} {n:Nat} {y:Code} {Q:Exit→AS→Prop} {s:AS} (h:RT P n y Q s):eS P (.loop y) Q s:=fun c a w β κ r=>wp_loop_rounds n (h c a w β κ r)
theorem RT.lift {P:Program} {n:Nat} {y:Code} {Q Q':Exit→AS→Prop} {s:AS} (h:RT P n y Q s) (hq:∀ (c:Cx P) e a w,lift c Q e a w→lift c Q' e a w):RT P n y Q' s:=fun c a w β κ r=>ve (fun e a w=>hq c e a w) n a w (h c a w β κ r)
def cg (P:Program):List Fr→(Exit→AS→Prop)→Exit→AS→Prop
 | [],Q=>Q
 | .seq c::fs,Q=>Lh (eS P c (cg P fs Q)) (cg P fs Q)
 | .blk id::fs,Q=>blk id (cg P fs Q)
 | .bar S::fs,Q=>Lh (fun s=>Cv s S) (cg P fs Q)
 | .rnd n y::fs,Q=>Lh (RT P n y (cg P fs Q)) (cg P fs Q)
def yG:List Fr→Option Code×List Fr
 | .seq c::fs=>(some c,fs)
 | .blk _::fs=>yG fs
 | .bar S::fs=>(none,.bar S::fs)
 | .rnd (n+1) y::fs=>(some y,.rnd n y::fs)
 | .rnd 0 y::fs=>(none,.rnd 0 y::fs)
 | []=>(none,[])
def BP (id:Nat):List Fr→Option (List Fr)
 | .seq _::fs=>BP id fs
 | .blk j::fs=>bif Nat.beq id j then some fs else BP id fs
 | .bar _::fs=>BP id fs
 | .rnd _ _::fs=>BP id fs
 | []=>none
inductive Sg where
 | rg (n:Nat) (d1 d2:List tj)
 | cv (cs:List Cd)
 | un
 | eqT (t:Nat) (v:AV)
 | fo (k:Nat) (es:List (Key×AV))
inductive Fx where
 | at (c:Code) (fs:List Fr) (s:AS)
 | nrm (fs:List Fr) (s:AS)
 | ret (s:AS)
def K1 (P:Program) (ops:Array Oper) (dr:Bool) (k:Nat) (d1 d2:List tj) (s:AS):Option (List Prop×AS×List Oper) :=
 bif dr then KO P ops.toList k d1 d2 s else z6 P ops.toList.toArray ops.toList d2 s
def path (P:Program):Nat→List Sg→Code→List Fr→AS→Option (List Prop×Fx)
 | 0,_,c,fs,s=>some ([],.at c fs s)
 | n+1,.cv cs::sg,c,fs,s=>match conv cs s with
  | some s'=>path P n sg c fs s'
  | none=>none
 | n+1,.fo k es::sg,c,fs,s=>match s.frzO k es with
  | some (p,s')=>(match path P n sg c fs s' with
   | some (ps,lf)=>some (p::ps,lf)
   | none=>none)
  | none=>none
 | n+1,.eqT t v::sg,c,fs,s=>match path P n sg c fs ⟨s.n,ins t v s.t,s.h⟩ with
  | some (ps,lf)=>some ((lk .any s.t t=v)::ps,lf)
  | none=>none
 | n+1,.un::sg,.loop y,fs,s=>path P n sg y (.rnd 63 y::fs) s
 | n+1,sg,.seq x y,fs,s=>path P n sg x (.seq y::fs) s
 | n+1,sg,.skip,fs,s=>match yG fs with
  | (some c,fs')=>path P n sg c fs' s
  | (none,fs')=>some ([],.nrm fs' s)
 | n+1,.rg k d1 d2::sg,.region _ ops dr,fs,s=>match K1 P ops dr k d1 d2 s with
  | some (ps,s',[])=>match yG fs with
   | (some c,fs')=>match path P n sg c fs' s' with
    | some (qs,lf)=>some (ps++qs,lf)
    | none=>none
   | (none,fs')=>some (ps,.nrm fs' s')
  | _=>none
 | n+1,sg,.cond x y z,fs,s=>match s.op x with
  | .bool true=>path P n sg y fs s
  | .bool false=>path P n sg z fs s
  | _=>none
 | n+1,sg,.block id y,fs,s=>path P n sg y (.blk id::fs) s
 | n+1,sg,.exit id,fs,s=>match BP id fs with
  | some fs1=>match yG fs1 with
   | (some c,fs')=>path P n sg c fs' s
   | (none,fs')=>some ([],.nrm fs' s)
  | none=>none
 | _+1,_,.ret,_,s=>some ([],.ret s)
 | _+1,_,.loop y,fs,s=>some ([],.at (.loop y) fs s)
 | _+1,_,_,_,_=>none
section
variable {P:Program} {Q:Exit→AS→Prop}
theorem uz:∀ {fs:List Fr} {s:AS},(∀ c fs',yG fs=(some c,fs')→eS P c (cg P fs' Q) s)→(∀ fs',yG fs=(none,fs')→cg P fs' Q .normal s)→cg P fs Q .normal s
 | [],s,_,h=>h _ rfl
 | .seq c::fs,s,h,_=>h _ _ rfl
 | .blk id::fs,s,h,h2=>uz (fs:=fs) h h2
 | .bar S::fs,s,_,h=>h _ rfl
 | .rnd (n+1) y::fs,s,h,_=>RT.succ (h _ _ rfl)
 | .rnd 0 y::fs,s,_,h=>h _ rfl
theorem wR {id:Nat}:∀ {fs fs1:List Fr} {s:AS},BP id fs=some fs1→cg P fs1 Q .normal s→cg P fs Q (.exit id) s
 | [],_,s,h,_=>by cases h
 | .seq c::fs,_,s,h,h2=>wR (fs:=fs) h h2
 | .bar S::fs,_,s,h,h2=>wR (fs:=fs) h h2
 | .rnd n y::fs,_,s,h,h2=>wR (fs:=fs) h h2
 | .blk j::fs,fs1,s,h,h2=>by
  simp only [BP] at h;simp only [cg,blk];cases e:Nat.beq id j with
  | true=>rw [e] at h;cases h;exact h2
  | false=>rw [e] at h;exact wR (fs:=fs) h h2
theorem xz:∀ {fs:List Fr} {s:AS},Q .ret s→cg P fs Q .ret s
 | [],_,h=>h
 | .seq _::fs,_,h=>xz (fs:=fs) h
 | .blk _::fs,_,h=>xz (fs:=fs) h
 | .bar _::fs,_,h=>xz (fs:=fs) h
 | .rnd _ _::fs,_,h=>xz (fs:=fs) h
def KB (P:Program) (Q:Exit→AS→Prop):Fx→Prop
 | .at c fs s=>eS P c (cg P fs Q) s
 | .nrm fs s=>cg P fs Q .normal s
 | .ret s=>Q .ret s
theorem w7 (hm:P.follows .mixedOrders=true) {id k:Nat} {ops:Array Oper} {dr:Bool} {d1 d2:List tj} {s s':AS} {ps:List Prop} {Q':Exit→AS→Prop} (h:K1 P ops dr k d1 d2 s=some (ps,s',[])) (hp:cq ps) (hq:Q' .normal s'):eS P (.region id ops dr) Q' s:=by
 have e:ops=ops.toList.toArray:=by simp
 unfold K1 at h;cases dr with
 | true =>
  simp only [cond_true] at h;rw [e];first
  | exact FP hm k d1 d2 h hp hq
 | false =>
  simp only [cond_false] at h;have h':=I5 (id:=id) d2 h hp hq;rw [← e] at h';exact h'
theorem cO (hm:P.follows .mixedOrders=true):∀ (n:Nat) {sg:List Sg} {c:Code} {fs:List Fr} {s:AS} {ps:List Prop} {lf:Fx},path P n sg c fs s=some (ps,lf)→cq ps→KB P Q lf→eS P c (cg P fs Q) s
 | 0,sg,c,fs,s,ps,lf,h,_,hl=>by simp only [path] at h;cases h;exact hl
 | n+1,sg,c,fs,s,ps,lf,h,hp,hl=>by
  unfold path at h;split at h
  ·rename_i e;cases e
  ·rename_i n' cs sg' c' fs' s' e;cases e;split at h
   ·rename_i s2 hc;exact (eJ _ hc).tri (cO hm n h hp hl)
   ·cases h
  ·rename_i n' k es sg' c' fs' s' e;cases e;split at h
   ·rename_i p s2 hf;split at h
    ·rename_i ps1 lf1 hpath;cases h;obtain ⟨p1,p2⟩:=cq.cons.1 hp;have ht:=cO hm n hpath p2 hl;exact fun c a w β κ r=>ht c a w β κ (r.frzO hf p1)
    ·cases h
   ·cases h
  ·rename_i n' t v sg' c' fs' s' e;cases e;split at h
   ·rename_i ps1 lf1 hpath;cases h;obtain ⟨p1,p2⟩:=cq.cons.1 hp;have ht:=cO hm n hpath p2 hl;exact fun c a w β κ r=>ht c a w β κ (r.same (mv.symm' (Ig p1)))
   ·cases h
  ·rename_i n' sg' y fs' s' e;cases e;exact RT.loop (RT.succ (n:=63) (cO hm n h hp hl))
  ·rename_i n' e _ _ _;cases e;exact D3 (cO hm n h hp hl)
  ·rename_i n' e _ _ _;cases e;refine HD (uz (fun c fs' e => ?_) (fun fs' e => ?_))
   ·rw [e] at h;exact cO hm n h hp hl
   ·rw [e] at h;cases h;exact hl
  ·rename_i n' k d1 d2 sg' id ops dr fs0 s0 e;cases e;split at h
   ·rename_i ps1 s1 hr;split at h
    ·rename_i c1 fs1 e1;split at h
     ·rename_i qs lf1 hpath;cases h;obtain ⟨p1,p2⟩:=cq.append.1 hp;refine w7 hm hr p1 (uz (fun c2 fs2 e2 => ?_) (fun fs2 e2 => ?_))
      ·rw [e1] at e2;cases e2;exact cO hm n hpath p2 hl
      ·rw [e1] at e2;cases e2
     ·cases h
    ·rename_i fs1 e1;cases h;refine w7 hm hr hp (uz (fun c2 fs2 e2 => ?_) (fun fs2 e2 => ?_))
     ·rw [e1] at e2;cases e2
     ·rw [e1] at e2;cases e2;exact hl
   ·cases h
  ·rename_i n' x y z fs0 s0 e _ _ _;cases e;split at h
   ·rename_i hb;exact Ih hb (cO hm n h hp hl)
   ·rename_i hb;exact Ft hb (cO hm n h hp hl)
   ·cases h
  ·rename_i n' e _ _ _;cases e;exact E3 (cO hm n h hp hl)
  ·rename_i n' e _ _ _;cases e;split at h
   ·rename_i fs1 he;refine Ho (wR he (uz (fun c fs' e => ?_) (fun fs' e => ?_)))
    ·rw [e] at h;exact cO hm n h hp hl
    ·rw [e] at h;cases h;exact hl
   ·cases h
  ·rename_i n' e _ _ _;cases e;cases h;exact IZ (xz hl)
  ·rename_i n' e _ _ _ _;cases e;cases h;exact hl
  ·cases h
end
def dead:AS:=⟨0,[(0,.dslice [[]])],[]⟩
theorem zx {P:Program} {c:Cx P} {a:Act} {w:World} {β:Nat→Nat} {κ:Nat→Nat×Nat} (r:Rel c dead a w β κ):False:=by
 have h:=r.tm 0;simp only [dead,lk,Nat.beq_refl,cond_true] at h;generalize a.tmps.getD 0 undef=V at h;cases h with
 | d h =>
  cases h with
  | dslice _ b o cap sz cv h1 h2 h0 h3 h4 h5 h6 =>
   have:=h4 0 (by simp);simp at this;omega
section
variable {P:Program} {Q Q':Exit→AS→Prop} {c:Code} {fs:List Fr} {s:AS}
theorem eS.lift {cd:Code} (h:eS P cd Q s) (hq:∀ (c:Cx P) e a w,lift c Q e a w→lift c Q' e a w):eS P cd Q' s:=fun c a w β κ r=>wp_mono (h c a w β κ r) fun e a w q=>hq c e a w q
def KA (cs:List Cd):Option (List Prop×Fx)→Option (List Prop×AS×AS)
 | some (ps,.nrm (.bar S::_) s)=>match conv cs s with
  | some s'=>some (ps,s',S)
  | none=>none
 | _=>none
theorem tJ (hm:P.follows .mixedOrders=true) (n:Nat) (sg:List Sg) (cs:List Cd) (S:AS) {ps:List Prop} (hp:cq ps) (h:KA cs (path P n sg c fs s)=some (ps,S,S)):eS P c (cg P fs Q) s:=by
 unfold KA at h;split at h
 ·rename_i ps' S' fs' s' hpath;split at h
  ·rename_i s2 hc;simp only [Mv,Prod.mk.injEq] at h;obtain ⟨rfl,rfl,rfl⟩:=h;exact cO hm n hpath hp (eJ cs hc)
  ·cases h
 ·cases h
def Jv (P:Program) (rs:List ResultVar) (v:AV) (h1:List (Nat×AO)):Exit→AS→Prop
 | .ret,s=>∃ s2 ks,Cv s s2∧xp P s2 rs=some v∧sel ks s2.h=h1
 | .normal,s=>∃ s2 ks,Cv s s2∧xp P s2 rs=some v∧sel ks s2.h=h1
 | _,_=>False
def Jx (P:Program) (rs:List ResultVar) (cs:List Cd) (ks:List Nat) (ps:List Prop) (s:AS):Option (List Prop×AV×List (Nat×AO)) :=
 match conv cs s with
 | some s2=>match xp P s2 rs with
  | some v=>some (ps,v,sel ks s2.h)
  | none=>none
 | none=>none
def K8 (P:Program) (rs:List ResultVar) (cs:List Cd) (ks:List Nat):Option (List Prop×Fx)→Option (List Prop×AV×List (Nat×AO))
 | some (ps,.nrm [] s)=>Jx P rs cs ks ps s
 | some (ps,.ret s)=>Jx P rs cs ks ps s
 | _=>none
theorem zo {rs:List ResultVar} {cs:List Cd} {ks:List Nat} {ps ps':List Prop} {v:AV} {h1:List (Nat×AO)} (h:Jx P rs cs ks ps s=some (ps',v,h1)):ps=ps'∧∃ s2 ks,Cv s s2∧xp P s2 rs=some v∧sel ks s2.h=h1:=by
 unfold Jx at h;split at h
 ·rename_i s2 hc;split at h
  ·rename_i v' hv;simp only [Mv,Prod.mk.injEq] at h;obtain ⟨rfl,rfl,rfl⟩:=h;exact ⟨rfl,s2,ks,eJ cs hc,hv,rfl⟩
  ·cases h
 ·cases h
theorem Il (hm:P.follows .mixedOrders=true) (n:Nat) (sg:List Sg) (cs:List Cd) (ks:List Nat) {rs:List ResultVar} {v:AV} {h1:List (Nat×AO)} {ps:List Prop} (hp:cq ps) (h:K8 P rs cs ks (path P n sg c fs s)=some (ps,v,h1)):eS P c (cg P fs (Jv P rs v h1)) s:=by
 unfold K8 at h;split at h
 ·rename_i ps' s' hpath;obtain ⟨rfl,h2⟩:=zo h;exact cO hm n hpath hp h2
 ·rename_i ps' s' hpath;obtain ⟨rfl,h2⟩:=zo h;exact cO hm n hpath hp h2
 ·cases h
def np:Nat→List Bool→Code→List Fr→Code×List Fr
 | 0,_,c,fs=>(c,fs)
 | n+1,bs,.seq x y,fs=>np n bs x (.seq y::fs)
 | n+1,bs,.skip,fs=>match yG fs with
  | (some c,fs')=>np n bs c fs'
  | (none,fs')=>(.skip,fs')
 | n+1,bs,.region _ _ _,fs=>match yG fs with
  | (some c,fs')=>np n bs c fs'
  | (none,fs')=>(.skip,fs')
 | n+1,b::bs,.cond _ y z,fs=>np n bs (bif b then y else z) fs
 | n+1,bs,.block id y,fs=>np n bs y (.blk id::fs)
 | n+1,bs,.loop y,fs=>np n bs y (.rnd 63 y::fs)
 | n+1,bs,.exit id,fs=>match BP id fs with
  | some fs1=>match yG fs1 with
   | (some c,fs')=>np n bs c fs'
   | (none,fs')=>(.skip,fs')
  | none=>(.skip,fs)
 | _+1,_,c,fs=>(c,fs)
def Le (cs:List Cd):Option (List Prop×Fx)→Option (List Prop×Code×List Fr×AS)
 | some (ps,.at c fs s)=>match conv cs s with
  | some s'=>some (ps,c,fs,s')
  | none=>none
 | _=>none
theorem He (hm:P.follows .mixedOrders=true) (n:Nat) (sg:List Sg) (cs:List Cd) (m:Nat) (bs:List Bool) (S:AS) {ps:List Prop} (hp:cq ps) (h:Le cs (path P n sg c fs s)=some (ps,(np m bs c fs).1,(np m bs c fs).2,S))
 (ht:eS P (np m bs c fs).1 (cg P (np m bs c fs).2 Q) S):eS P c (cg P fs Q) s:=by
 unfold Le at h;split at h
 ·rename_i ps' c' fs' s' hpath;split at h
  ·rename_i s2 hc;simp only [Mv,Prod.mk.injEq] at h;obtain ⟨rfl,h1,h2,rfl⟩:=h;refine cO hm n hpath hp ?_;rw [← h1,← h2] at ht;exact (eJ cs hc).tri ht
  ·cases h
 ·cases h
def Cs:Nat→AS→List Fr→List Fr
 | _,_,[]=>[]
 | 0,S,_::fs=>.bar S::fs
 | k+1,S,f::fs=>f::Cs k S fs
def xD:Nat→List Fr→Code
 | 0,.seq y::_=>y
 | k+1,_::fs=>xD k fs
 | _,_=>.skip
def tz:Nat→List Fr→Bool
 | 0,.seq _::_=>true
 | k+1,_::fs=>tz k fs
 | _,_=>false
theorem EV:∀ (f:Fr) {Q Q':Exit→AS→Prop} {fs fs':List Fr},(∀ (c:Cx P) e a w,lift c (cg P fs Q) e a w→lift c (cg P fs' Q') e a w)→∀ (c:Cx P) e a w,lift c (cg P (f::fs) Q) e a w→lift c (cg P (f::fs') Q') e a w:=by
 intro f Q Q' fs fs' h c e a w ⟨s,β,κ,hs,r⟩;cases f with
 | seq y =>
  cases e with
  | normal=>exact ⟨s,β,κ,eS.lift (hs:eS P y (cg P fs Q) s) h,r⟩
  | _ =>
   obtain ⟨s',β',κ',hs',r'⟩:=h c _ a w ⟨s,β,κ,hs,r⟩;exact ⟨s',β',κ',hs',r'⟩
 | rnd n y =>
  cases e with
  | normal=>exact ⟨s,β,κ,RT.lift (hs:RT P n y (cg P fs Q) s) h,r⟩
  | _ =>
   obtain ⟨s',β',κ',hs',r'⟩:=h c _ a w ⟨s,β,κ,hs,r⟩;exact ⟨s',β',κ',hs',r'⟩
 | bar S =>
  cases e with
  | normal=>exact ⟨s,β,κ,hs,r⟩
  | _ =>
   obtain ⟨s',β',κ',hs',r'⟩:=h c _ a w ⟨s,β,κ,hs,r⟩;exact ⟨s',β',κ',hs',r'⟩
 | blk id =>
  cases e with
  | exit j =>
   simp only [cg,blk] at hs;cases hb:Nat.beq j id with
   | true =>
    rw [hb] at hs;obtain ⟨s',β',κ',hs',r'⟩:=h c _ a w ⟨s,β,κ,hs,r⟩;refine ⟨s',β',κ',?_,r'⟩;simp only [cg,blk,hb];exact hs'
   | false =>
    rw [hb] at hs;obtain ⟨s',β',κ',hs',r'⟩:=h c _ a w ⟨s,β,κ,hs,r⟩;refine ⟨s',β',κ',?_,r'⟩;simp only [cg,blk,hb];exact hs'
  | _ =>
   obtain ⟨s',β',κ',hs',r'⟩:=h c _ a w ⟨s,β,κ,hs,r⟩;exact ⟨s',β',κ',hs',r'⟩
theorem uj:∀ (k:Nat) {fs:List Fr} {S:AS},tz k fs=true→(S=dead∨eS P (xD k fs) (cg P (fs.drop (k+1)) Q) S)→∀ (c:Cx P) e a w,lift c (cg P (Cs k S fs) Q) e a w→lift c (cg P fs Q) e a w
 | 0,[],S,h,_=>by cases h
 | _+1,[],S,h,_=>by cases h
 | 0,f::fs,S,h,h2=>by
  intro c e a w ⟨s,β,κ,hs,r⟩;cases f with
  | seq y =>
   cases e with
   | normal =>
    obtain ⟨β',κ',r'⟩:=(hs:Cv s S) _ c a w β κ r;rcases h2 with h2 | h2
    ·subst h2;exact (zx r').elim
    ·exact ⟨S,β',κ',h2,r'⟩
   | _=>exact ⟨s,β,κ,hs,r⟩
  | blk id=>cases h
  | bar S=>cases h
  | rnd n y=>cases h
 | k+1,f::fs,S,h,h2=>EV f (uj k (fs:=fs) h h2)
theorem cC (k:Nat) (S:AS) (hk:tz k fs=true) (h1:eS P c (cg P (Cs k S fs) Q) s) (h2:eS P (xD k fs) (cg P (fs.drop (k+1)) Q) S):eS P c (cg P fs Q) s :=
 h1.lift (uj k hk (.inr h2))
def LQ {ε ρ:Type} (S:ε→AS):Out ε ρ→AS
 | .brk e=>S e
 | .ret _=>dead
theorem Jn {ε ρ:Type} (k:Nat) (S:ε→AS) (R:Out ε ρ) (hk:tz k fs=true) (h1:eS P c (cg P (Cs k (LQ S R) fs) Q) s) (h2:∀ e,R = .brk e→eS P (xD k fs) (cg P (fs.drop (k+1)) Q) (S e)):eS P c (cg P fs Q) s :=
 h1.lift (uj k hk (by cases R with | brk e=>exact .inr (h2 e rfl) | ret x=>exact .inl rfl))
def nX:Code→Code
 | .loop y=>y
 | _=>.skip
def xX:Code→Bool
 | .loop _=>true
 | _=>false
theorem qW (h:xX c=true):c = .loop (nX c):=by cases c<;>first | rfl | (cases h;done)
def Ma {σ ε ρ:Type} (S:σ→AS):fE σ ε ρ→AS
 | .go x=>S x
 | _=>dead
theorem uP {ι:Type} {y:Code} (S:ι→AS) (φ:ι→Prop) (μ:ι→Nat) (i₀:ι) (h₀:φ i₀)
 (round:∀ i,φ i→∃ T,(T=dead∨∃ j,φ j∧μ j<μ i∧T=S j)∧eS P y (cg P (.bar T::fs) Q) (S i)):eS P (.loop y) (cg P fs Q) (S i₀):=fun c a w β κ r=>by
 refine wp_loop_ghost (fun n a w=>∃ i β κ,φ i∧μ i=n∧Rel c (S i) a w β κ) (μ i₀) ⟨i₀,β,κ,h₀,rfl,r⟩ ?_;rintro n a w ⟨i,β,κ,hi,rfl,r⟩;obtain ⟨T,hT,ht⟩:=round i hi;refine wp_mono (ht c a w β κ r) fun e a' w' ⟨s',β',κ',q,r'⟩ => ?_;cases e with
 | normal =>
  obtain ⟨β2,κ2,r2⟩:=(q:Cv s' T) _ c a' w' β' κ' r';rcases hT with rfl | ⟨j,hj,hlt,rfl⟩
  ·exact (zx r2).elim
  ·exact ⟨μ j,hlt,j,β2,κ2,hj,rfl,r2⟩
 | exit id=>exact ⟨s',β',κ',q,r'⟩
 | goto l=>exact ⟨s',β',κ',q,r'⟩
 | ret=>exact ⟨s',β',κ',q,r'⟩
 | panic ch=>exact ⟨s',β',κ',q,r'⟩
 | outgrown=>exact ⟨s',β',κ',q,r'⟩
theorem LL {σ ε ρ:Type} {body:Nat→σ→Option (fE σ ε ρ)} {fin:Nat→σ→ε} {N i0:Nat} {st0:σ} {R:Out ε ρ} (S:Nat→σ→AS) (hc:xX c=true) (H:fA body fin (N-i0) i0 st0=some R)
 (zero:∀ i st,N≤i→R = .brk (fin i st)→eS P (nX c) (cg P (.bar dead::fs) Q) (S i st))
 (succ:∀ i st,i<N→∀ q,body i st=some q→uY q R→eS P (nX c) (cg P (.bar (Ma (S (i+1)) q)::fs) Q) (S i st)):eS P c (cg P fs Q) (S i0 st0):=by
 rw [qW hc];refine uP (ι:=Nat×σ) (fun x=>S x.1 x.2) (fun x=>fA body fin (N-x.1) x.1 x.2=some R) (fun x=>N-x.1) (i0,st0) H ?_;rintro ⟨i,st⟩ hi;by_cases hN:N≤i
 ·rw [show N-i=0 by omega] at hi;simp only [fA,Mv] at hi;exact ⟨dead,.inl rfl,zero i st hN hi.symm⟩
 ·have e:N-i=(N-(i+1))+1:=by omega
  have hi:fA body fin (N-i) i st=some R:=hi;rw [e] at hi;simp only [fA] at hi;refine aL hi fun q hq hK => ?_;cases q with
  | go st'=>exact ⟨S (i+1) st',.inr ⟨(i+1,st'),hK,by show N-(i+1)<N-i;omega,rfl⟩,succ i st (by omega) _ hq trivial⟩
  | brk e=>exact ⟨dead,.inl rfl,succ i st (by omega) _ hq (Mx hK).symm⟩
  | ret e=>exact ⟨dead,.inl rfl,succ i st (by omega) _ hq (Mx hK).symm⟩
theorem qL {σ ε ρ:Type} {body:σ→Option (fE σ ε ρ)} {n:Nat} {st0:σ} {R:Out ε ρ} (S:σ→AS) (hc:xX c=true) (H:oa body n st0=some R)
 (succ:∀ st,∀ q,body st=some q→uY q R→eS P (nX c) (cg P (.bar (Ma S q)::fs) Q) (S st)):eS P c (cg P fs Q) (S st0):=by
 rw [qW hc];refine uP (ι:=Nat×σ) (fun x=>S x.2) (fun x=>oa body x.1 x.2=some R) (fun x=>x.1) (n,st0) H ?_;rintro ⟨k,st⟩ hi;cases k with
 | zero=>cases hi
 | succ k =>
  have hi:(body st).bind (AK (oa body k))=some R:=hi;refine aL hi fun q hq hK => ?_;cases q with
  | go st'=>exact ⟨S st',.inr ⟨(k,st'),hK,Nat.lt_succ_self k,rfl⟩,succ st _ hq trivial⟩
  | brk e=>exact ⟨dead,.inl rfl,succ st _ hq (Mx hK).symm⟩
  | ret e=>exact ⟨dead,.inl rfl,succ st _ hq (Mx hK).symm⟩
theorem Gn {f:FuncId} {fn:Func} {args:List AV} {h h1:List (Nat×AO)} {v:AV} (hf:P.funcs[f]? = some fn) (n:Nat) (rs:List ResultVar) (hok:(tA fn&&Nat.beq fn.ntmps n&&Nat.ble args.length n)=true) (hrs:fn.results.toList=rs)
 (ht:eS P (xM fn) (cg P [] (Jv P rs v h1)) ⟨n,oL args 0,h⟩):bg P f args h (fun r h'=>r=v∧h'=h1):=by
 refine LO hf n rs hok hrs (ht.lift fun c e a w ⟨s,β,κ,q,r⟩ => ?_);have key:(∃ s2 ks,Cv s s2∧xp P s2 rs=some v∧sel ks s2.h=h1)→∃ s β κ,(∃ v' ks,xp P s rs=some v'∧v'=v∧sel ks s.h=h1)∧Rel c s a w β κ:=by rintro ⟨s2,ks,hcv,h2,h3⟩;obtain ⟨β',κ',r'⟩:=hcv _ c a w β κ r;exact ⟨s2,β',κ',⟨v,ks,h2,rfl,h3⟩,r'⟩
 cases e with
 | normal=>exact key q
 | ret=>exact key q
 | exit id=>exact q.elim
 | goto l=>exact q.elim
 | panic ch=>exact q.elim
 | outgrown=>exact q.elim
end
end Go.Ab
namespace Go.Sh
abbrev ak:=List UInt8
def dL {ε β:Type} (f:ε→Option β):Out ε Empty→Option β
 | .brk e=>f e
theorem bB {ε β:Type} {f:ε→Option β} {e:ε} {v:β} (h:aft f (.brk e)=some v):f e=some v:=h
theorem aR {ε β:Type} {f:ε→Option β} {x v:β} (h:aft f (.ret x)=some v):some x=some v:=h
theorem bu {ε β:Type} {f:ε→Option β} {e:ε} {v:β} (h:dL f (.brk e)=some v):f e=some v:=h
theorem ja {σ ε ρ:Type} {e:ε} {R:Out ε ρ} (h:uY (.brk e:fE σ ε ρ) R):R = .brk e:=h
theorem ba {σ ε ρ:Type} {x:ρ} {R:Out ε ρ} (h:uY (.ret x:fE σ ε ρ) R):R = .ret x:=h
def be {K V:Type} [DecidableEq K] (d:V) (x:K):List (K×V)→V
 | []=>d
 | (k,n)::m=>if k=x then n else be d x m
def bH {K V:Type} [DecidableEq K] (x:K) (n:V):List (K×V)→List (K×V)
 | []=>[(x,n)]
 | (k,u)::m=>if k=x then (x,n)::m else (k,u)::bH x n m
def xJ {K V:Type} [DecidableEq K] (x:K):List (K×V)→Bool
 | []=>false
 | (k,_)::m=>if k=x then true else xJ x m
end Go.Sh
namespace Go.Ab
open Go.RowKit Go.Sh
theorem kR (l:List UInt8) (a:Nat):AV.str ((l.drop a).take (l.length-a)) = .str (l.drop a):=by congr 1;exact List.take_of_length_le (by simp)
theorem sf (l:List UInt8) (b:Nat):AV.str ((l.drop 0).take (b-0)) = .str (l.take b):=by simp
theorem wQ {α:Type} (c:α→List AV) (l:List α) (b:Nat):AV.dslice (((l.map c).drop 0).take (b-0)) = .dslice ((l.take b).map c):=by simp [List.map_take]
theorem Ke {α:Type} {c:α→List AV} {sz:Nat} (h:∀ x,(c x).length=sz∧(c x).all (fun v=>v.one&&v.fl)=true) (l:List α):EL sz (l.map c):=by intro y hy;obtain ⟨x,_,rfl⟩:=List.mem_map.1 hy;refine ⟨(h x).1,fun v hv => ?_⟩;have:=My.1 (h x).2 v hv;simpa [Mm] using this
theorem tg {α:Type} {c:α→List AV} {sz:Nat} (h:∀ x,(c x).length=sz∧(c x).all (fun v=>v.one&&v.fl)=true) (xs ys:List α) (by_:Nat) (hb:0<by_) (hc:(xs.length+ys.length)*by_≤140737488355328) :
 cq [EL sz (ys.map c),((xs.map c).length+(ys.map c).length)*by_≤140737488355328,(xs.map c).length+(ys.map c).length≤9223372036854775807]:=by
 refine ⟨Ke h ys,by simpa using hc,?_⟩;have:xs.length+ys.length≤(xs.length+ys.length)*by_:=Nat.le_mul_of_pos_right _ hb;show (xs.map c).length+(ys.map c).length≤_;simp only [Mt];omega
theorem vQ {α:Type} (e sz:Nat) (c:α→List AV) (xs ys:List α):AO.row e sz (xs.map c++ys.map c) = .row e sz ((xs++ys).map c):=by rw [List.map_append]
theorem Fv {α:Type} (e sz:Nat) (c:α→List AV) (ys:List α):AO.row e sz (([]:List α).map c++ys.map c) = .row e sz (ys.map c):=rfl
theorem Mj {α:Type} {c:α→List AV} {sz:Nat} (h:∀ x,(c x).length=sz∧(c x).all (fun v=>v.one&&v.fl)=true) (ys:List α) (by_:Nat) (hb:0<by_) (hc:ys.length*by_≤140737488355328) :
 cq [EL sz (ys.map c),(ys.map c).length*by_≤140737488355328,(ys.map c).length≤9223372036854775807]:=by
 refine ⟨Ke h ys,by simpa using hc,?_⟩;have:ys.length≤ys.length*by_:=Nat.le_mul_of_pos_right _ hb;show (ys.map c).length≤_;simp only [Mt];omega
theorem wrap_u8 (x:UInt8):IntKind.wrap .i64 (x.toNat:Int)=(x.toNat:Int):=wrap64 ⟨by omega,by have:=x.toNat_lt;omega⟩
theorem KY (x y:UInt8):AV.int .u8 (IntKind.wrap .u8 ((x.toNat:Int)-(y.toNat:Int))) = .int .u8 ((x-y).toNat:Int):=by congr 1;simp only [IntKind.wrap,IntKind.signed,IntKind.bits,Bool.false_and,Bool.false_eq_true,if_false,UInt8.toNat_sub];have h1:=x.toNat_lt;have h2:=y.toNat_lt;omega
def ua (t:TypeId) (ok:Bool):AV:=bif ok then .nilI else .iface t .any
def F5:List AV→AV
 | v::_=>v
 | []=>.any
def iY {V:Type} (c:V→List AV) (x:V):List AV:=[.agg (c x)]
class MapKey (K:Type) where
 k:K→Key
 inj:∀ a b,k a=k b→a=b
 kd:Nat
 kind:∀ a,(k a).kind=kd
instance:MapKey ak:=⟨Key.s,fun _ _ h=>by injection h,0,fun _=>rfl⟩
instance:MapKey Int:=⟨Key.i,fun _ _ h=>by injection h,1,fun _=>rfl⟩
def lV {K V:Type} [MapKey K] (c:V→List AV) (p:K×V):Key×AV:=(MapKey.k p.1,F5 (c p.2))
abbrev aQ {V:Type} (c:V→List AV) (p:ak×V):Key×AV:=lV c p
abbrev dR {V:Type} (c:V→List AV) (p:Int×V):Key×AV:=lV c p
theorem yM {K V:Type} [MapKey K] (c:V→List AV) (x:K) (m:List (K×V)):∀ p∈m.map (lV c),p.1.kind=(MapKey.k x).kind:=fun p hp=>by obtain ⟨q,_,rfl⟩:=List.mem_map.1 hp;exact (MapKey.kind q.1).trans (MapKey.kind x).symm
theorem jy {K V:Type} [MapKey K] [DecidableEq K] {c:V→List AV} (x:K) (d:V):∀ (m:List (K×V)),vL (MapKey.k x) (F5 (c d)) (m.map (lV c))=F5 (c (be d x m))
 | []=>rfl
 | (k,n)::m=>by
  simp only [List.map_cons,lV,vL,be];by_cases h:k=x
  ·rw [if_pos h,if_pos (by rw [h])]
  ·rw [if_neg h,if_neg fun e=>h (MapKey.inj _ _ e)];exact jy x d m
theorem yN {K V:Type} [MapKey K] [DecidableEq K] {c:V→List AV} (x:K):∀ (m:List (K×V)),yl (MapKey.k x) (m.map (lV c))=xJ x m
 | []=>rfl
 | (k,n)::m=>by
  simp only [List.map_cons,lV,yl,xJ];by_cases h:k=x
  ·rw [if_pos h,if_pos (by rw [h])]
  ·rw [if_neg h,if_neg fun e=>h (MapKey.inj _ _ e)];exact yN x m
theorem rf {K V:Type} [MapKey K] [DecidableEq K] {c:V→List AV} (x:K) (d:V) (m:List (K×V)):AV.tup [vL (MapKey.k x) (F5 (c d)) (m.map (lV c)),.bool (yl (MapKey.k x) (m.map (lV c)))] = .tup [F5 (c (be d x m)),.bool (xJ x m)]:=by rw [jy,yN]
theorem fJ {K V:Type} [MapKey K] [DecidableEq K] {c:V→List AV} (x:K) (n:V):∀ (m:List (K×V)),lK (MapKey.k x) (F5 (c n)) (m.map (lV c))=(bH x n m).map (lV c)
 | []=>rfl
 | (k,u)::m=>by
  simp only [List.map_cons,lV,lK,bH];by_cases h:k=x
  ·rw [if_pos h,if_pos (by rw [h])];rfl
  ·rw [if_neg h,if_neg fun e=>h (MapKey.inj _ _ e),List.map_cons];exact congrArg _ (fJ x n m)
def CM {V:Type} (p:Int×V):List (Int×V)→List (Int×V)
 | []=>[p]
 | q::l=>if p.1≤q.1 then p::q::l else q::CM p l
def ksort {V:Type}:List (Int×V)→List (Int×V)
 | []=>[]
 | p::l=>CM p (ksort l)
theorem ui {V:Type} (p:Int×V):∀ l:List (Int×V),(p::l).Perm (CM p l)
 | []=>.refl _
 | q::l=>by
  unfold CM;split
  ·exact .refl _
  ·exact (List.Perm.swap q p l).trans ((ui p l).cons q)
theorem jk {V:Type}:∀ l:List (Int×V),l.Perm (ksort l)
 | []=>.refl _
 | p::l=>((jk l).cons p).trans (ui p (ksort l))
theorem yU {V:Type} (c:V→List AV) (l:List (Int×V)):(l.map (dR c)).Perm ((ksort l).map (dR c)):=(jk l).map _
section
variable {P:Program} {Q:Exit→AS→Prop} {s:AS}
def Kb (s:AS) (k i:Nat):List Prop:=match lk .gone s.h k with
 | .cells _ cs=>bif Nat.blt i cs.length then BO (cs.getD i .any) else []
 | _=>[]
theorem wg {cd:Code} (k i:Nat) {ps:List Prop} (h:Kb s k i=ps) (ht:cq ps→eS P cd Q s):eS P cd Q s:=fun c a w β κ r=>by
 refine ht ?_ c a w β κ r;subst h;unfold Kb;split
 ·rename_i e cs he;cases hb:Nat.blt i cs.length with
  | false=>trivial
  | true =>
   have:=r.hp.ob k;rw [he] at this;obtain ⟨cur,_,_,h3⟩:=this;exact tY (h3 i (by simpa [Nat.blt_eq] using hb))
 ·trivial
def HV (s:AS) (k:Nat):Option Nat:=match lk .gone s.h k with
 | .row _ _ xs=>some xs.length
 | _=>none
theorem wh {cd:Code} (k:Nat) {n:Nat} (h:HV s k=some n) (ht:n≤9223372036854775807→eS P cd Q s):eS P cd Q s:=fun c a w β κ r=>by
 refine ht ?_ c a w β κ r;unfold HV at h;split at h
 ·rename_i e sz xs he;cases h;have:=r.hp.ob k;rw [he] at this;by_cases hx:xs=[]
  ·subst hx;simp
  ·obtain ⟨cur,_,_,h3,h4,_⟩:=this.2 hx;exact Nat.le_trans h3 h4
 ·cases h
end
theorem br.is' {P:Program} {f:FuncId} {args:List AV} {v:AV} (h:br P f args v):bg P f args [] fun r _=>r=v:=br.is h
theorem lA {α:Type} {f:α→List AV} {l:List α} {n:Nat} (sz j m:Nat) (hn:n<l.length) (hj:j+m≤sz):n*sz+j=n*sz+j∧n<(l.map f).length∧j+m≤sz:=⟨rfl,by simpa using hn,hj⟩
theorem fj {α:Type} {f:α→List AV} {l:List α} {n:Nat} (d:α) (h:n<l.length):(l.map f).getD n []=f (l.getD n d):=by simp [Mk,Ml h]
theorem vR {α:Type} {f:α→List AV} {l:List α} {n:Nat} (d:α) (j:Nat) (h:n<l.length):((l.map f).getD n []).getD j .any=(f (l.getD n d)).getD j .any:=by rw [fj d h]
theorem Gx {α:Type} {f:α→List AV} {l:List α} {n:Nat} (d:α) (j m:Nat) (h:n<l.length):AV.agg ((((l.map f).getD n []).drop j).take m) = .agg (((f (l.getD n d)).drop j).take m):=by rw [fj d h]
theorem AH {α:Type} {f:α→List AV} (e sz:Nat) (l:List α) (n:Nat) (d x:α) (j:Nat) (vs:List AV) (h:n<l.length) (hx:eC (f (l.getD n d)) j vs=f x):AO.row e sz ((l.map f).set n (eC ((l.map f).getD n []) j vs)) = .row e sz ((l.set n x).map f):=by rw [fj d h,hx,List.map_set]
theorem Ku {α:Type} {c:α→List AV} {sz:Nat} (h:∀ x,(c x).length=sz∧(c x).all (fun v=>v.one&&v.fl)=true) (xs ys:List α) (by_:Nat) (hb:0<by_) (hc:(xs.length+ys.length)*by_≤140737488355328) {zs:List (List AV)} (hz:xs.map c++ys.map c=zs) :
 cq [EL sz (ys.map c),((xs.map c).length+(ys.map c).length)*by_≤140737488355328,(xs.map c).length+(ys.map c).length≤9223372036854775807,xs.map c++ys.map c=zs]:=by
 obtain ⟨h1,h2,h3⟩:=tg h xs ys by_ hb hc;exact ⟨h1,h2,h3,hz⟩
open Go.Proofs
theorem py {P:Program} {f:FuncId} {args:List AV} {v:AV} (hfl:AV.flL args=true)
 (h:∀ (w:World) (X:Nat→Prop) (vs:List Value),vs.length=args.length→(∀ b,X b→b<w.heap.size)→(∀ i,i<args.length→D w X (args.getD i .any) (vs.getD i undef))→GP P w→Calls P f vs.toArray w fun e w'=>∃ V,e = .returned V∧Below w.heap.size w w'∧D w' X v V):br P f args v:=by
 intro c vs hl hr hg;have hX:∀ b,c.XX [] c.β b→c.X b:=fun b hb=>hb.resolve_right fun ⟨k,hk,_⟩=>oG hk;refine (h c.W c.X vs hl c.hX (fun i hi=>((hg i hi).toD (ka hi hfl)).mono (fun _ _ _=>rfl) (fun b hb _ hb'=>hb (.inl hb'))) (c.gp _ (dK.refl _ _))).mono fun e w' ⟨V,e1,hb,hd⟩ => ?_;have hk:dK c.K c.W w':=⟨hb.os,hb.tape,hb.output,hb.size,fun b hb2=>hb.block b (c.hK b hb2)⟩;exact ⟨V,v,[],c.β,c.κ,e1,⟨rfl,rfl⟩,(fV.nil (hk)),.d (hd.mono (fun _ _ _=>rfl) (fun b hb2 _ hb3=>hb2 (hX b hb3)))⟩
section
variable {P:Program} {ρ:Go.Shelf.Ren}
theorem D.str_inv {w:World} {X:Nat→Prop} {s:List UInt8} {V:Value} (h:D w X (.str s) V):V = .string ⟨s.toArray⟩∧s.length≤maxLen:=by cases h;exact ⟨rfl,by assumption⟩
theorem D.int_inv {w:World} {X:Nat→Prop} {k:IntKind} {n:Int} {V:Value} (h:D w X (.int k n) V):V = .int k n:=by cases h;rfl
theorem L7 {vs:List Value} (h:vs.length=1):vs=[vs.getD 0 undef]:=by
 match vs,h with
 | [v],_=>rfl
theorem IJ {vs:List Value} (h:vs.length=2):vs=[vs.getD 0 undef,vs.getD 1 undef]:=by
 match vs,h with
 | [v,u],_=>rfl
theorem C7 (w:World) (k:Nat) (os:Array Obj):Below w.heap.size w (Go.Sort.grow (w.drewN k) os):=by refine ⟨rfl,rfl,rfl,by simp [Go.Sort.grow,World.drewN],fun b hb => ?_⟩;simp [Go.Sort.grow,World.drewN,Array.getElem?_append,hb]
def D4 (n:Int):ak:=bif decide (0≤n)&&decide (n<10) then [UInt8.ofNat (48+n.toNat)] else Lib.itoa n
theorem rB:D4=Lib.itoa:=by
 funext n;unfold D4;by_cases h:0≤n∧n<10
 ·rw [Mr h.1,Mr h.2];obtain ⟨k,rfl⟩:∃ k:Nat,n=(k:Int):=⟨n.toNat,by omega⟩;rw [Lib.itoa_nonneg,Lib.decDigits,dif_pos (by omega)];rfl
 ·by_cases h1:0≤n
  ·rw [Mq (show ¬ n<10 from fun h2=>h ⟨h1,h2⟩),Bool.and_false];rfl
  ·rw [Mq h1];rfl
def iw (n:Int):Option ak:=bX (-9223372036854775808≤n∧n≤9223372036854775807∧(D4 n).length≤9223372036854775807) <| some (D4 n)
theorem IC (L:LaysM.n171 P ρ) (hg:P.globalNamed "internal/strconv.uint64pow10" ≠ none) (n:Int) (r:ak) (H:iw n=some r):br P (ρ.f 171) [.int .i64 n] (.str r):=by unfold iw at H;rw [rB] at H;refine aP H fun hn H => ?_;refine bc H fun e => ?_;subst e;refine py rfl fun w X vs hl _ hd gp => ?_;have h0:=(hd 0 (by simp)).int_inv;rw [L7 (vs:=vs) (by simpa using hl),h0];refine (Any.strconv_Itoa L n hn.1 hn.2.1 w (gp.pow10 hg)).mono fun e w' ⟨e1,k,os,e2⟩ => ?_;exact ⟨_,e1,by rw [e2];exact C7 w k os,.str _ hn.2.2⟩
def qn (s:ak):Int×Bool:=match Lib.atoiAll s with | .ok v=>(v,true) | .range=>(Lib.atoiSat s,false) | _=>(0,false)
def lr (s:ak):Option (Int×Bool):=bX (s.length≤281474976710656) <| some (qn s)
theorem BD (w:World) (a:Addr) (n b:Nat) (h:b≠a.block):(w.freeze a n).heap[b]? = w.heap[b]? := by
 unfold World.freeze;split
 ·rfl
 ·simp [Array.getElem?_modify,Ne.symm h]
theorem Cm (w:World) (e:TypeId) (s:ByteArray):Below w.heap.size w (Lib.bytesWorld w e s):=by
 unfold Lib.bytesWorld;have h1:Below w.heap.size w (w.drew.alloc (.cells (Lib.bytesCells w e s) e)):=(Below.refl _ w).drew.alloc (Nat.le_refl _) _;have hsz:((w.drew.alloc (.cells (Lib.bytesCells w e s) e)).freeze ⟨w.heap.size,(Lib.bytesCells w e s).size,none⟩ 1).heap.size=(w.drew.alloc (.cells (Lib.bytesCells w e s) e)).heap.size:=by
  unfold World.freeze;split
  ·rfl
  ·simp
 have hf:∀ (w:World) (a:Addr) (n:Nat),(w.freeze a n).os=w.os∧(w.freeze a n).tape=w.tape∧(w.freeze a n).output=w.output:=by intro w a n;unfold World.freeze;split<;>exact ⟨rfl,rfl,rfl⟩
 obtain ⟨f1,f2,f3⟩:=hf (w.drew.alloc (.cells (Lib.bytesCells w e s) e)) ⟨w.heap.size,(Lib.bytesCells w e s).size,none⟩ 1;exact ⟨f1.trans h1.os,f2.trans h1.tape,f3.trans h1.output,by rw [hsz];exact h1.size,fun b hb=>(BD _ _ _ _ (by show b≠w.heap.size;omega)).trans (h1.block b hb)⟩
theorem D.pair {w:World} {X:Nat→Prop} {a b:AV} {A B:Value} (ha:D w X a A) (hb:D w X b B):D w X (.tup [a,b]) (.tuple #[A,B]) :=
 .tup _ _ rfl fun i hi=>by
  match i,hi with
  | 0,_=>exact ha
  | 1,_=>exact hb
theorem Gg (L:LaysC.n172 P ρ) (hg1:P.globalNamed "strconv.ErrSyntax" ≠ none) (hg2:P.globalNamed "strconv.ErrRange" ≠ none) (s:ak) (r:Int×Bool) (H:lr s=some r):br P (ρ.f 172) [.str s] (.tup [.int .i64 r.1,ua (ρ.t 168) r.2]):=by
 unfold lr at H;refine aP H fun hn H => ?_;refine bc H fun e => ?_;subst e;refine py rfl fun w X vs hl _ hd gp => ?_;have h0:=(hd 0 (by simp)).str_inv.1;rw [L7 (vs:=vs) (by simpa using hl),h0];have hsz:ByteArray.size ⟨s.toArray⟩=s.length:=by simp [ByteArray.size]
 unfold qn;cases hr:Lib.atoiAll s with
 | ok v =>
  refine (Any.strconv_Atoi_ok L ⟨s.toArray⟩ (by rw [hsz];omega) v (by simpa using hr) w).mono fun e w' ⟨e1,e2⟩ => ?_;refine ⟨_,e1,?_,.pair (.int _ _) .nilI⟩;rcases e2 with rfl | ⟨t,rfl⟩
  ·exact .refl _ _
  ·exact Cm _ _ _
 | range =>
  obtain ⟨tp,p,hv⟩:=gp.rng hg2;refine (Any.strconv_Atoi_range_var L ⟨s.toArray⟩ (by rw [hsz];exact hn) (by simpa using hr) tp p w hv).mono fun e w' ⟨N,e1,_,_,e2⟩ => ?_;refine ⟨_,e1,e2,.pair ?_ (.iface _ _ _ (.any _))⟩;simp only [List.toList_toArray];exact .int _ _
 | _ =>
  obtain ⟨tp,p,hv⟩:=gp.syn hg1;refine (Any.strconv_Atoi_syntax_var L ⟨s.toArray⟩ (by rw [hsz];exact hn) (by simpa using hr) tp p w hv).mono fun e w' ⟨N,e1,_,_,e2⟩ => ?_;exact ⟨_,e1,e2,.pair (.int _ _) (.iface _ _ _ (.any _))⟩
def tH (xs:List ak) (sep:ak):Option ak:=bX ((Lib.join xs sep).length≤140737488355328∧xs.length≤140737488355328) <| some (Lib.join xs sep)
def iU (x:ak):List AV:=[.str x]
theorem HS (L:Lays.n156 P ρ) (E:Builder.Extra P ρ) (xs:List ak) (sep:ak) (r:ak) (H:tH xs sep=some r):br P (ρ.f 156) [.dslice (xs.map iU),.str sep] (.str r):=by
 unfold tH at H;refine aP H fun hn H => ?_;refine bc H fun e => ?_;subst e;refine py rfl fun w X vs hl hX hd gp => ?_;have h0:=hd 0 (by simp);have h1:=(hd 1 (by simp)).str_inv.1;rw [IJ (vs:=vs) (by simpa using hl),h1];simp only [List.getD_cons_zero] at h0;generalize vs.getD 0 undef=V at h0;have hmap:∀ ys:List ak,(ys.map fun y=>(⟨y.toArray⟩:ByteArray)).map (·.data.toList)=ys:=fun ys=>by simp [List.map_map,Function.comp_def]
 by_cases hx:xs=[]
 ·subst hx;have:∃ a c,V = .slice a 0 c:=by
   have h0:D w X (.dslice []) V:=h0;generalize hL:([]:List (List AV))=L at h0;cases h0 with
   | dnil a c _=>exact ⟨a,c,rfl⟩
   | dslice _ b o c sz cv h1 h2 h3=>subst hL;exact ⟨_,_,rfl⟩
  obtain ⟨a,c,rfl⟩:=this;refine (Any.strings_Join_none L E a c ⟨sep.toArray⟩ w).mono fun e w' ⟨e1,e2⟩ => ?_;exact ⟨_,e1,by rw [e2];exact .refl _ _,.str [] (Nat.zero_le _)⟩
 ·have hne:0<xs.length:=List.length_pos_iff.2 hx;generalize hL:xs.map iU=L at h0;cases h0 with
  | dnil a c hc=>simp at hL;exact absurd hL hx
  | dslice _ b o c sz cv q1 q2 q0 q3 q4 q5 q6 =>
   subst hL;have hsz1:sz=1:=by
    have:=q4 0 (by simpa using hne);rw [← this];obtain ⟨x,ys,rfl⟩:∃ x ys,xs=x::ys:=by
     cases xs with
     | nil=>simp at hne
     | cons x ys=>exact ⟨x,ys,rfl⟩
    rfl
   subst hsz1;have hcell:∀ j,j<xs.length→w.cell? ⟨b,o+j,none⟩=some (.string ⟨(xs.getD j []).toArray⟩)∧(xs.getD j []).length≤maxLen:=by
    intro j hj;have a1:=q5 j 0 (by simpa using hj) (by omega);have a2:=q6 j 0 (by simpa using hj) (by omega);have e1:(xs.map iU).getD j []=iU (xs.getD j []):=by simp [Mk,Ml hj]
    rw [e1] at a2;have a3:=(show D w X (.str (xs.getD j [])) (cv j 0) from a2).str_inv;rw [show o+(j*1+0)=o+j by omega,a3.1] at a1;exact ⟨a1,a3.2⟩
   have hb:b<w.heap.size:=World.block_lt_of_cell? w _ (hcell 0 hne).1;have:=Any.strings_Join L E b o c (xs.map fun y=>(⟨y.toArray⟩:ByteArray)) ⟨sep.toArray⟩ w (fun j x hj=>by simp only [List.getElem?_map,Option.map_eq_some_iff] at hj;obtain ⟨y,hy,rfl⟩:=hj;have hlt:j<xs.length:=(Mu.1 hy).1;have:=(hcell j hlt).1;rw [Mk,hy] at this;exact this) hb (by simpa using hn.2) (by simpa using q1) (by rw [hmap];exact hn.1)
   rw [hmap] at this;simp only [Mt] at this ⊢;refine this.mono fun e w' ⟨e1,e2⟩ => ?_;exact ⟨_,e1,e2,.str _ (Nat.le_trans hn.1 (by decide))⟩
theorem zb (sep:List UInt8) (save:Nat):∀ (k:Nat) (s x:List UInt8),x∈Lib.splitK sep save k s→x.length≤s.length
 | 0,s,x,h=>by simp only [Lib.splitK,List.mem_singleton] at h;rw [h];exact Nat.le_refl _
 | k+1,s,x,h=>by
  simp only [Lib.splitK] at h;split at h
  ·simp only [List.mem_singleton] at h;rw [h];exact Nat.le_refl _
  ·rcases List.mem_cons.1 h with h | h
   ·rw [h];simp only [List.length_take];omega
   ·have:=zb sep save k _ x h;simp only [List.length_drop] at this;omega
def rZ (s sep:ak):Option (List ak):=bX (s.length<4294967281∧1≤sep.length) <| some (Lib.splitK sep 0 (Lib.countB ⟨s.toArray⟩ ⟨sep.toArray⟩) s)
theorem Fy (L:Lays.n146 P ρ) (hi9:(P.info? (ρ.t 9)).map (fun i=>(i.zero,i.size,i.bytes))=some (some (.string ByteArray.empty),1,16)) (hg:P.globalNamed "internal/bytealg.MaxLen" = some (ρ.g 1)) (s sep:ak) (r:List ak) (H:rZ s sep=some r):br P (ρ.f 146) [.str s,.str sep] (.dslice (r.map iU)):=by
 unfold rZ at H;refine aP H fun hn H => ?_;refine bc H fun e => ?_;subst e;refine py rfl fun w X vs hl hX hd gp => ?_;have h0:=(hd 0 (by simp)).str_inv;have h1:=(hd 1 (by simp)).str_inv;rw [IJ (vs:=vs) (by simpa using hl),h0.1,h1.1];obtain ⟨m,hm⟩:=gp.len _ hg;have sz:∀ l:List UInt8,ByteArray.size ⟨l.toArray⟩=l.length:=fun l=>by simp [ByteArray.size]
 refine (Any.strings_Split L hi9 ⟨s.toArray⟩ ⟨sep.toArray⟩ m w (by rw [sz];exact hn.1) hm (by rw [sz];exact hn.2)).mono fun e w' ⟨e1,e2⟩ => ?_;refine ⟨_,e1,by rw [e2];exact (Below.refl _ w).alloc (Nat.le_refl _) _,?_⟩;have hBl:((Lib.splitB ⟨sep.toArray⟩ 0 (Lib.countB ⟨s.toArray⟩ ⟨sep.toArray⟩) ⟨s.toArray⟩).map (·.data.toList))=Lib.splitK sep 0 (Lib.countB ⟨s.toArray⟩ ⟨sep.toArray⟩) s:=by rw [Lib.splitB_data]
 have hlen:(Lib.splitB ⟨sep.toArray⟩ 0 (Lib.countB ⟨s.toArray⟩ ⟨sep.toArray⟩) ⟨s.toArray⟩).length=Lib.countB ⟨s.toArray⟩ ⟨sep.toArray⟩+1:=Lib.splitB_all _ (by rw [sz];exact hn.2) 0 _ _ rfl;generalize Lib.splitB ⟨sep.toArray⟩ 0 (Lib.countB ⟨s.toArray⟩ ⟨sep.toArray⟩) ⟨s.toArray⟩=B at hBl hlen e2;generalize hr:Lib.splitK sep 0 (Lib.countB ⟨s.toArray⟩ ⟨sep.toArray⟩) s=r at hBl;have hle:∀ x∈r,x.length≤maxLen:=fun x hx=>Nat.le_trans (zb sep 0 _ s x (by rw [hr];exact hx)) h0.2;have hrl:r.length=Lib.countB ⟨s.toArray⟩ ⟨sep.toArray⟩+1:=by rw [← hBl,Mt,hlen]
 have hbig:r.length≤maxLen:=by rw [hrl];have:=Lib.countB_le ⟨sep.toArray⟩ (by rw [sz];exact hn.2) _ ⟨s.toArray⟩ (Nat.le_refl _);rw [sz] at this;exact Nat.le_trans (Nat.succ_le_succ this) (Nat.le_trans (show s.length+1≤4294967282 by omega) (by decide))
 have hml:(r.map iU).length=Lib.countB ⟨s.toArray⟩ ⟨sep.toArray⟩+1:=by rw [Mt,hrl]
 have hcell:∀ i,i<r.length→w'.cell? ⟨w.heap.size,0+i,none⟩=some (.string ⟨(r.getD i []).toArray⟩):=by
  intro i hi;have hheap:w'.heap[w.heap.size]? = some (.cells (B.map Value.string).toArray (ρ.t 9) (0,0)):=by rw [e2];exact Array.getElem?_push_size
  have h2:=cJ (w:=w') (b:=w.heap.size) (i:=i) hheap (by rw [List.size_toArray,Mt,hlen];omega);rw [Nat.zero_add,h2];have hBi:i<B.length:=by omega
  have:r.getD i []=(B[i]'hBi).data.toList:=by rw [← hBl];simp [Mk,Ml hBi]
  rw [this];simp [Mn,Ml hBi]
 rw [← hml];refine .dslice _ w.heap.size 0 _ 1 (fun i _=>.string ⟨(r.getD i []).toArray⟩) (Nat.le_refl _) (by rw [Mt];exact hbig) (by omega) (fun hx=>Nat.lt_irrefl _ (hX _ hx)) (fun i hi => ?_) (fun i j hi hj => ?_) (fun i j hi hj => ?_)
 ·rw [Mt] at hi;simp [Mk,Ml hi,iU]
 ·rw [Mt] at hi;have:=hcell i hi;rw [show 0+(i*1+j)=0+i by omega];exact this
 ·rw [Mt] at hi;have e3:(r.map iU).getD i []=iU (r.getD i []):=by simp [Mk,Ml hi]
  obtain rfl:j=0:=by omega
  rw [e3];refine .str _ (hle _ ?_);rw [Mk,Ml hi];exact List.getElem_mem hi
theorem pU {α:Type} (p:α→Bool):∀ l:List α,(l.dropWhile p).length≤l.length
 | []=>by simp
 | x::l=>by
  rw [List.dropWhile_cons];split
  ·have:=pU p l;simp;omega
  ·simp
theorem Ik (s cut:List UInt8):(Lib.trimS s cut).length≤s.length:=by unfold Lib.trimS Lib.trimLeftS Lib.trimRightS;refine Nat.le_trans (pU _ _) ?_;rw [List.length_reverse];refine Nat.le_trans (pU _ _) ?_;rw [List.length_reverse];exact Nat.le_refl _
def qx (s cut:ak):Option ak:=bX (cut.length<4294967281∧cut.all (fun b=>decide (b.toNat<128))=true) <| some (Lib.trimS s cut)
theorem Gu (L:Lays.n160 P ρ) (hv116:∀ w,(zeroValue (ρ.t 116)).run P w = .ok (.agg (Array.replicate 256 (.bool false))) w) (hi116:(P.info? (ρ.t 116)).map (·.size)=some 256) (s cut:ak) (r:ak) (H:qx s cut=some r):br P (ρ.f 160) [.str s,.str cut] (.str r):=by
 unfold qx at H;refine aP H fun hn H => ?_;refine bc H fun e => ?_;subst e;refine py rfl fun w X vs hl hX hd gp => ?_;have h0:=(hd 0 (by simp)).str_inv;have h1:=(hd 1 (by simp)).str_inv;rw [IJ (vs:=vs) (by simpa using hl),h0.1,h1.1];have sz:∀ l:List UInt8,ByteArray.size ⟨l.toArray⟩=l.length:=fun l=>by simp [ByteArray.size]
 have hm:maxLen=9223372036854775807:=by decide
 refine (Any.strings_Trim_ascii L hv116 hi116 ⟨s.toArray⟩ ⟨cut.toArray⟩ w (by rw [sz];have:=h0.2;omega) (by rw [sz];exact hn.1) (fun j b hb=>by have:=My.1 hn.2 b (List.mem_of_getElem? (by simpa using hb));exact Mp this)).mono fun e w' ⟨e1,e2⟩ => ?_
 refine ⟨_,e1,e2,.str _ ?_⟩;refine Nat.le_trans ?_ h0.2;exact Ik s cut
end
end Go.Ab
namespace Go.Sh
open Classical in
noncomputable def Ez {α γ:Type} (l:List α) (a b:Option (List γ)):Option (List γ):=if l=[]→a=b then b else none
noncomputable def F0 {α γ:Type} (l:List α) (a b:Option (List γ)):Option (List γ) :=
 match l with
 | []=>match a with
  | some []=>match b with
   | some []=>some []
   | b=>Ez l (some []) b
  | a=>Ez l a b
 | _::_=>b
theorem F8 {α γ:Type} (l:List α) (a b:Option (List γ)):F0 l a b=Ez l a b:=by
 match l,a,b with
 | [],some [],some []=>exact (if_pos (c:=([]:List α)=[]→some ([]:List γ)=some []) fun _=>rfl).symm
 | [],some [],some (_::_)=>rfl
 | [],some [],none=>rfl
 | [],some (_::_),_=>rfl
 | [],none,_=>rfl
 | _::_,_,_=>exact (if_pos fun h=>nomatch h).symm
theorem Dp {α γ:Type} {l:List α} {a b:Option (List γ)} {v:List γ} {G:Prop} (H:F0 l a b=some v) (k:(l=[]→a=some v)→b=some v→G):G:=by
 rw [F8] at H;unfold Ez at H;split at H
 ·rename_i h;exact k (fun e=>by rw [h e];exact H) H
 ·cases H
theorem FF {α γ:Type} {l:List α} {a b:Option (List γ)} (h:l=[]→a=b):F0 l a b=b:=by rw [F8];exact if_pos h
section
variable {K V σ ε β:Type}
def MR (m:List (K×V)) (body:K×V→σ→Option (fE σ ε β)) (C:σ→Prop) (J:β→Prop):Nat→List Nat→σ→Prop
 | 0,seen,s=>(∀ i,i<m.length→i∈seen)∧C s
 | n+1,seen,s=>(∃ i,i<m.length∧i ∉ seen)∧∀ i (h:i<m.length),i ∉ seen→∃ q,body m[i] s=some q∧match q with
  | .go s'=>MR m body C J n (seen++[i]) s'
  | .brk _=>False
  | .ret x=>J x
theorem MR.uniq {m:List (K×V)} {body:K×V→σ→Option (fE σ ε β)} {k:σ→Option β} {v v':β}:∀ {n:Nat} {seen:List Nat} {s:σ},MR m body (fun s=>k s=some v) (· = v) n seen s→MR m body (fun s=>k s=some v') (· = v') n seen s→v=v'
 | 0,_,_,h,h'=>Mx (h.2.symm.trans h'.2)
 | n+1,seen,s,h,h'=>by
  obtain ⟨⟨i,hi,hn⟩,h⟩:=h;obtain ⟨q,hq,h1⟩:=h i hi hn;obtain ⟨q',hq',h2⟩:=h'.2 i hi hn;rw [hq] at hq';cases hq';cases q with
  | go s'=>exact MR.uniq h1 h2
  | brk e=>exact h1.elim
  | ret x=>exact h1.symm.trans h2
open Classical in
noncomputable def Bd (m:List (K×V)) (body:K×V→σ→Option (fE σ ε β)) (s:σ) (k:σ→Option β):Option β :=
 if h:∃ v,MR m body (fun s=>k s=some v) (· = v) m.length [] s then some h.choose else none
theorem DC {m:List (K×V)} {body:K×V→σ→Option (fE σ ε β)} {s:σ} {k:σ→Option β} {v:β} (H:Bd m body s k=some v):MR m body (fun s=>k s=some v) (· = v) m.length [] s:=by
 unfold Bd at H;split at H
 ·rename_i h;cases H;exact h.choose_spec
 ·cases H
theorem Ga {m:List (K×V)} {body:K×V→σ→Option (fE σ ε β)} {s:σ} {k:σ→Option β} {v:β} (h:MR m body (fun s=>k s=some v) (· = v) m.length [] s):Bd m body s k=some v:=by have h':∃ v,MR m body (fun s=>k s=some v) (· = v) m.length [] s:=⟨v,h⟩;unfold Bd;rw [dif_pos h'];exact congrArg some (MR.uniq h'.choose_spec h)
noncomputable def lg (m:List (K×V)) (body:K×V→σ→Option (fE σ ε β)) (s:σ) (k:σ→Option β):Option β :=
 match m with
 | []=>k s
 | [e]=>match body e s with
  | some (.go s')=>k s'
  | some (.ret x)=>some x
  | _=>none
 | e::e'::m=>Bd (e::e'::m) body s k
theorem CF {m:List (K×V)} {body:K×V→σ→Option (fE σ ε β)} {s:σ} {k:σ→Option β} {v:β} (H:lg m body s k=some v):MR m body (fun s=>k s=some v) (· = v) m.length [] s:=by
 match m,H with
 | [],H=>exact ⟨fun i h=>absurd h (Nat.not_lt_zero i),H⟩
 | [e],H =>
  refine ⟨⟨0,Nat.one_pos,List.not_mem_nil⟩,fun i h _ => ?_⟩;have hi:i=0:=Nat.lt_one_iff.1 h;subst hi;have H:(match body e s with | some (.go s')=>k s' | some (.ret x)=>some x | _=>none)=some v:=H;show ∃ q,body e s=some q∧_;cases hb:body e s with
  | none=>rw [hb] at H;cases H
  | some q =>
   rw [hb] at H;refine ⟨q,rfl,?_⟩;cases q with
   | go s' =>
    refine ⟨fun i h => ?_,H⟩;have h0:i=0:=Nat.lt_one_iff.1 h;subst h0;exact List.mem_singleton.2 rfl
   | brk x=>cases H
   | ret x=>exact Mx H
 | e::e'::m,H=>exact DC H
theorem rL {m:List (K×V)} {body:K×V→σ→Option (fE σ ε β)} {s:σ} {k:σ→Option β} {v:β} (h:MR m body (fun s=>k s=some v) (· = v) m.length [] s):lg m body s k=some v:=by
 match m,h with
 | [],h=>exact h.2
 | [e],h =>
  obtain ⟨q,hb,hq⟩:=h.2 0 Nat.one_pos List.not_mem_nil;have hb:body e s=some q:=hb;show (match body e s with | some (.go s')=>k s' | some (.ret x)=>some x | _=>none)=some v;rw [hb];cases q with
  | go s'=>exact hq.2
  | brk x=>exact hq.elim
  | ret x=>exact congrArg some hq
 | e::e'::m,h=>exact Ga h
end
end Go.Sh
namespace Go.Ab
open Go.RowKit Go.Sh
section
variable {P:Program} {Q:Exit→AS→Prop} {c:Code} {fs:List Fr} {s:AS}
def HG (s:AS):AV→Option (List (List AV))
 | .dslice l=>some l
 | .eslice=>some []
 | .rslice k=>match lk .gone s.h k with | .row _ _ xs=>some xs | _=>none
 | _=>none
theorem w6 {c:Cx P} {a:Act} {w:World} {β:Nat→Nat} {κ:Nat→Nat×Nat} (r:Rel c s a w β κ) {v:AV} {V:Value} {l:List (List AV)} (hG:G w (c.XX s.h β) β κ v V) (h:HG s v=some l) :
 ∃ ad n cp,V = .slice ad n cp∧(ad.isNone=true→l=[]):=by
 unfold HG at h;split at h
 ·cases h;cases hG with
  | d hd =>
   cases hd with
   | dnil a cap _=>exact ⟨a,0,cap,rfl,fun _=>rfl⟩
   | dslice _ b o cap sz cv=>exact ⟨_,_,_,rfl,fun h=>by cases h⟩
 ·cases h;obtain ⟨a,e⟩:=hG.eslice_inv;exact ⟨a,0,0,e,fun _=>rfl⟩
 ·rename_i k;split at h
  ·rename_i e sz xs hk;cases h;rcases hG.rslice_inv with ⟨_,e1⟩ | ⟨h0,ad,rfl⟩
   ·exact ⟨_,_,_,e1,fun h=>by cases h⟩
   ·refine ⟨ad,0,0,rfl,fun _ => ?_⟩;have ho:=r.hp.ob k;rw [hk] at ho;exact List.eq_nil_of_length_eq_zero (by rw [← ho.1];exact h0)
  ·cases h
 ·cases h
def nb (q b:Bool):Bool:=bif q then b else !b
def CR:Operand→Bool
 | .const (.slice none _ _)=>true
 | _=>false
theorem BG {x:Operand} (h:CR x=true) (a:Act):∃ n c,a.eval x = .slice none n c:=by
 unfold CR at h;split at h
 ·exact ⟨_,_,rfl⟩
 ·cases h
def Ht (P:Program) (s:AS):Op→Option (List (List AV)×Bool)
 | .binOp op t x y _=>bif CR y&&(Fw P t).isSome then (match HG s (s.op x),op with
  | some l,.eql=>some (l,true)
  | some l,.neq=>some (l,false)
  | _,_=>none) else none
 | _=>none
theorem HT {ops:Array Oper} {o:Oper} (hg:gd ops s o=some true) {l:List (List AV)} {q:Bool} (h:Ht P s o.op=some (l,q)) {k:Nat} (hd:o.dst=some k) (hk:k<s.n) :
 lX P ops o s (fun s'=>∃ b,(b=true→l=[])∧s'=⟨s.n,ins k (.bool (nb q b)) s.t,s.h⟩):=fun c a w β κ r K Q hK=>by
 rw [ow r hg];simp only [if_true];unfold Ht at h;split at h;case h_2=>cases h
 rename_i op t x y u hop;obtain ⟨hc,h⟩:=Go.Ab.bif_some h;rw [Mm] at hc;obtain ⟨hy,ht⟩:=hc;obtain ⟨e,ht⟩:=Option.isSome_iff_exists.1 ht;obtain ⟨n',c',ey⟩:=BG hy a;have hput:∀ b,AS.put s o.dst (.bool b)=some ⟨s.n,ins k (.bool b) s.t,s.h⟩:=fun b=>by rw [hd];simp only [AS.put,show Nat.blt k s.n=true by simpa [Nat.blt_eq] using hk,cond_true]
 have key:∀ ad,(ad.isNone=true→l=[])→∀ b,b=nb q (Option.isNone (α:=Addr) ad)→(execOp a.eval o).run P w = .ok (.value (.bool b)) w→o.wp P a w K Q:=fun ad hl b hb hr=>by unfold Oper.wp;rw [hr];subst hb;exact hK ⟨s.n,ins k (.bool (nb q ad.isNone)) s.t,s.h⟩ _ w β κ ⟨_,hl,rfl⟩ (cH r (.d (.bool _)) (hput _))
 split at h
 ·cases h;obtain ⟨ad,n,cp,e1,hl2⟩:=w6 (l:=l) r (r.op x) (by assumption);refine key ad hl2 ad.isNone rfl ?_;simp only [execOp,hop,e1,ey];simp [eqGuard,go_sem,Go.Lib.run_eql_slice_nil w t e ad n cp n' c' (ff ht)]
 ·cases h;obtain ⟨ad,n,cp,e1,hl2⟩:=w6 (l:=l) r (r.op x) (by assumption);refine key ad hl2 (!ad.isNone) rfl ?_;simp only [execOp,hop,e1,ey];have:(binOp .neq t (.slice ad n cp) (.slice none n' c')).run P w = .ok (.bool (!ad.isNone)) w:=by simp only [binOp];simp [Op.equal,Op.maxDepth,Go.Lib.run_equalIn_slice_nil w 9999 t e ad n cp n' c' (ff ht)]
  simp [eqGuard,go_sem,this]
 ·cases h
def LR (P:Program) (ds:List tj) (fs:List Fr) (s:AS):Code→Option (List Prop×List (List AV)×Nat×Bool×AS×Code×List Fr)
 | .region _ ops false=>match z6 P ops.toList.toArray ops.toList ds s with
  | some (ps,s',[o])=>bif yb true (gd ops.toList.toArray s' o) then (match Ht P s' o.op,o.dst,yG fs with
   | some (l,q),some k,(some c1,fs1)=>bif Nat.blt k s'.n then some (ps,l,k,q,s',c1,fs1) else none
   | _,_,_=>none) else none
  | _=>none
 | _=>none
theorem zQ (ds:List tj) {ps:List Prop} {l:List (List AV)} {k:Nat} {q:Bool} {S:AS} (hp:cq ps) (h:LR P ds fs s c=some (ps,l,k,q,S,(np 1 [] c fs).1,(np 1 [] c fs).2))
 (ht:∀ b:Bool,(b=true→l=[])→eS P (np 1 [] c fs).1 (cg P (np 1 [] c fs).2 Q) ⟨S.n,ins k (.bool (nb q b)) S.t,S.h⟩):eS P c (cg P fs Q) s:=by
 unfold LR at h;split at h;case h_2=>cases h
 rename_i id ops;split at h;case h_2=>cases h
 rename_i ps' s' o hr;obtain ⟨hg,h⟩:=Go.Ab.bif_some h;split at h;case h_2=>cases h
 rename_i l' q' k' c1 fs1 hn hd hpop;obtain ⟨hk,h⟩:=Go.Ab.bif_some h;simp only [Mv,Prod.mk.injEq] at h;obtain ⟨rfl,rfl,rfl,rfl,rfl,h1,h2⟩:=h;rw [← h1,← h2] at ht;have e:ops=ops.toList.toArray:=by simp
 rw [e];refine sW (kH ds hr hp (zz ((HT (cm hg) hn hd (by simpa [Nat.blt_eq] using hk)).mono fun s2 ⟨b,hb,e2⟩=>Bl ?_)));subst e2;refine uz (fun c2 fs2 e3 => ?_) (fun fs2 e3 => ?_)
 ·rw [hpop] at e3;cases e3;exact ht b hb
 ·rw [hpop] at e3;cases e3
theorem C4 {ι:Type} {y:Code} (S:ι→AS) (φ:ι→Prop) (μ:ι→Nat) (i₀:ι) (h₀:φ i₀)
 (round:∀ i,φ i→eS P y (Lh (fun s=>Cv s dead∨∃ j,φ j∧μ j<μ i∧Cv s (S j)) (cg P fs Q)) (S i)):eS P (.loop y) (cg P fs Q) (S i₀):=fun c a w β κ r=>by
 refine wp_loop_ghost (fun n a w=>∃ i β κ,φ i∧μ i=n∧Rel c (S i) a w β κ) (μ i₀) ⟨i₀,β,κ,h₀,rfl,r⟩ ?_;rintro n a w ⟨i,β,κ,hi,rfl,r⟩;refine wp_mono (round i hi c a w β κ r) fun e a' w' ⟨s',β',κ',q,r'⟩ => ?_;cases e with
 | normal =>
  rcases (q:Cv s' dead∨∃ j,φ j∧μ j<μ i∧Cv s' (S j)) with hd | ⟨j,hj,hlt,hcv⟩
  ·obtain ⟨β2,κ2,r2⟩:=hd _ c a' w' β' κ' r';exact (zx r2).elim
  ·obtain ⟨β2,κ2,r2⟩:=hcv _ c a' w' β' κ' r';exact ⟨μ j,hlt,j,β2,κ2,hj,rfl,r2⟩
 | exit id=>exact ⟨s',β',κ',q,r'⟩
 | goto l=>exact ⟨s',β',κ',q,r'⟩
 | ret=>exact ⟨s',β',κ',q,r'⟩
 | panic ch=>exact ⟨s',β',κ',q,r'⟩
 | outgrown=>exact ⟨s',β',κ',q,r'⟩
def x9:Code→Option (Oper×List Oper×Code)
 | .loop (.seq (.region _ ops false) y)=>match ops.toList with
  | o::rest=>some (o,rest,y)
  | []=>none
 | _=>none
theorem Bz {o:Oper} {rest:List Oper} {y:Code} (h:x9 c=some (o,rest,y)):∃ id,c = .loop (.seq (.region id (o::rest).toArray false) y):=by
 unfold x9 at h;split at h
 ·rename_i id ops y';split at h
  ·rename_i o' rest' e;cases h;refine ⟨id,?_⟩;rw [← e]
  ·cases h
 ·cases h
def IU (ops:Array Oper) (s:AS) (o:Oper) (k:Nat):Bool:=yb true (gd ops s o)&&(match o.op with
 | .next it false=>(match s.op it with | .hptr k' 0=>Nat.beq k' k | _=>false)
 | _=>false)
theorem EZ {ops:Array Oper} {o:Oper} {k:Nat} (h:IU ops s o k=true):gd ops s o=some true∧∃ it,o.op = .next it false∧s.op it = .hptr k 0:=by
 unfold IU at h;rw [Mm] at h;refine ⟨cm h.1,?_⟩;have h:=h.2;split at h
 ·rename_i it e;refine ⟨it,e,?_⟩;split at h
  ·rename_i k' e2;rw [dW.1 h] at e2;exact e2
  ·cases h
 ·cases h
def zf (P:Program) (ops:Array Oper) (rest:List Oper) (ds:List tj) (dst:Option Tmp) (v:AV) (s:AS):Option (List Prop×AS):=match s.put dst v with
 | some s'=>match z6 P ops rest ds s' with
  | some (ps,s2,[])=>some (ps,s2)
  | _=>none
 | none=>none
def Mf {K V:Type} [MapKey K] (c:V→List AV) (e:K×V):AV:=.tup [.bool true,(MapKey.k e.1).av,F5 (c e.2)]
def Lw {σ ε ρ:Type} (S:σ→AS):fE σ ε ρ→AS
 | .go x=>S x
 | _=>dead
theorem yR {K V:Type} [MapKey K] {cc:V→List AV} {m:List (K×V)} {i:Nat} (h:i<m.length):(m.map (lV cc)).getD i default=lV cc m[i]:=by simp [Mk,Ml h]
theorem KP {K V σ ε β:Type} [MapKey K] {cc:V→List AV} {m:List (K×V)} {body:K×V→σ→Option (fE σ ε β)} {k:σ→Option β} {st0:σ} {v:β} (kk:Nat) (S:List Nat→σ→AS) {o:Oper} {rest:List Oper} {y:Code} (hc:x9 c=some (o,rest,y))
 (H:lg m body st0 k=some v) (ds:List tj)
 (hn:∀ seen st,IU (o::rest).toArray (S seen st) o kk=true∧lk .gone (S seen st).h kk = .iter (m.map (lV cc)) seen)
 (S0:List Nat→σ→AS) (h0:∀ seen st,zf P (o::rest).toArray rest ds o.dst (.tup [.bool false]) (S seen st)=some ([],S0 seen st))
 (S1:List Nat→σ→Nat→K×V→AS) (h1:∀ seen st i e,zf P (o::rest).toArray rest ds o.dst (Mf cc e) ⟨(S seen st).n,(S seen st).t,ins kk (.iter (m.map (lV cc)) (seen++[i])) (S seen st).h⟩=some ([],S1 seen st i e))
 (done:∀ seen st,k st=some v→eS P y (cg P (.bar dead::fs) Q) (S0 seen st))
 (step:∀ seen st i e,(∃ h:i<m.length,m[i]=e)→∀ q,body e st=some q→uY q (.ret v)→eS P y (cg P (.bar (Lw (S (seen++[i])) q)::fs) Q) (S1 seen st i e)):eS P c (cg P fs Q) (S [] st0):=by
 obtain ⟨id,rfl⟩:=Bz hc;refine C4 (ι:=Nat×List Nat×σ) (fun x=>S x.2.1 x.2.2) (fun x=>MR m body (fun s=>k s=some v) (· = v) x.1 x.2.1 x.2.2) (fun x=>x.1) (m.length,[],st0) (CF H) ?_;rintro ⟨n,seen,st⟩ hi;have hi:MR m body (fun s=>k s=some v) (· = v) n seen st:=hi;obtain ⟨hnx,hlk⟩:=hn seen st;obtain ⟨hg,it,hop,hit⟩:=EZ hnx;refine D3 ?_;have h0':=h0 seen st;unfold zf at h0';split at h0';case h_2=>cases h0'
 rename_i s0 hs0;split at h0';case h_2=>cases h0'
 rename_i ps0 s02 hr0;simp only [Mv,Prod.mk.injEq] at h0';obtain ⟨rfl,e0⟩:=h0';have h1':∀ i (hi:i<m.length),∃ s1,AS.put ⟨(S seen st).n,(S seen st).t,ins kk (.iter (m.map (lV cc)) (seen++[i])) (S seen st).h⟩ o.dst (.tup [.bool true,((m.map (lV cc)).getD i default).1.av,((m.map (lV cc)).getD i default).2])=some s1∧z6 P (o::rest).toArray rest ds s1=some ([],S1 seen st i m[i],[]):=by
  intro i hi;have h:=h1 seen st i m[i];unfold zf at h;rw [yR hi];split at h;case h_2=>cases h
  rename_i s1 hs1;split at h;case h_2=>cases h
  rename_i ps1 s12 hr1;simp only [Mv,Prod.mk.injEq] at h;obtain ⟨rfl,rfl⟩:=h;exact ⟨s1,hs1,hr1⟩
 refine sW (zz (IY hg hop hit hlk (fun hall=>⟨s0,hs0,kH ds hr0 trivial (Bl ?_)⟩) (fun i hi2 hns => ?_)))
 ·
  have hall:∀ i,i<m.length→i∈seen:=fun i hi=>hall i (by simpa using hi);cases n with
  | succ n =>
   obtain ⟨⟨i,hi2,hns⟩,_⟩:=hi;exact absurd (hall i hi2) hns
  | zero =>
   rw [e0];refine eS.mono (done seen st hi.2) fun e s hq => ?_;cases e with
   | normal=>exact .inl hq
   | _=>exact hq
 ·have hi2:i<m.length:=by simpa using hi2
  obtain ⟨s1,hs1,hr1⟩:=h1' i hi2;refine ⟨s1,hs1,kH ds hr1 trivial (Bl ?_)⟩;cases n with
  | zero=>exact absurd (hi.1 i hi2) hns
  | succ n =>
   obtain ⟨_,hi⟩:=hi;obtain ⟨q,hq,hK⟩:=hi i hi2 hns;have ho:uY q (.ret v):=by
    cases q with
    | go s'=>trivial
    | brk e=>exact hK.elim
    | ret x=>exact congrArg Out.ret hK.symm
   refine eS.mono (step seen st i m[i] ⟨hi2,rfl⟩ q hq ho) fun e s hs => ?_;cases e with
   | normal =>
    cases q with
    | go s'=>exact .inr ⟨(n,seen++[i],s'),hK,Nat.lt_succ_self n,hs⟩
    | brk e=>exact .inl hs
    | ret x=>exact .inl hs
   | _=>exact hs
theorem fK (seen:List Nat) (i:Nat):(seen++[i]).getLast? = some i:=by simp
theorem rz {K V:Type} [MapKey K] {cc:V→List AV} {m:List (K×V)} {i:Nat} {e:K×V} (h:∃ h:i<m.length,m[i]=e):AV.tup [((m.map (lV cc)).getD i default).1.av,((m.map (lV cc)).getD i default).2] = .tup [(MapKey.k e.1).av,F5 (cc e.2)]:=by obtain ⟨hi,rfl⟩:=h;rw [yR hi];rfl
end
theorem KJ {l:List AV} (h:l.all (fun v=>v.one&&v.fl)=true):AV.fl (F5 l)=true:=by
 cases l with
 | nil=>rfl
 | cons v l=>simp only [List.all_cons,Mm] at h;exact h.1.2
theorem rV {K V:Type} [MapKey K] {c:V→List AV} {sz:Nat} (h:∀ x,(c x).length=sz∧(c x).all (fun v=>v.one&&v.fl)=true) (m:List (K×V)):Kk (m.map (lV c)):=by intro p hp;obtain ⟨x,_,rfl⟩:=List.mem_map.1 hp;exact KJ (h x.2).2
theorem Gp:∀ {l:List AV},l.all (fun v=>v.one&&v.fl)=true→AV.flL l=true
 | [],_=>rfl
 | v::l,h=>by simp only [List.all_cons,Mm] at h;simp only [AV.flL,Mm];exact ⟨h.1.2,Gp (by simpa using h.2)⟩
theorem GG {K V:Type} [MapKey K] {c:V→List AV} {sz:Nat} (h:∀ x,(c x).length=sz∧(c x).all (fun v=>v.one&&v.fl)=true) (m:List (K×V)):Kk (m.map (lV (iY c))):=by intro p hp;obtain ⟨x,_,rfl⟩:=List.mem_map.1 hp;show AV.fl (.agg (c x.2))=true;exact Gp (h x.2).2
theorem L1 {V:Type} {c:V→List AV} {sz:Nat} (h:∀ x,(c x).length=sz∧(c x).all (fun v=>v.one&&v.fl)=true) (x:Int) (v:V) (m:List (Int×V)):Kk (lK (.i x) (F5 (c v)) (m.map (dR c)))∧(lK (.i x) (F5 (c v)) (m.map (dR c))).Perm ((ksort (bH x v m)).map (dR c)):=by have e:lK (.i x) (F5 (c v)) (m.map (dR c))=(bH x v m).map (dR c):=fJ x v m;rw [e];exact ⟨rV h _,yU c _⟩
section
variable {P:Program}
def AV.vwT (h:List (Nat×AO)):AV→AV
 | .tup cs=>.tup (cs.map (AV.vw1 h))
 | v=>AV.vw h v
theorem G.vwT {c:Cx P} {h:List (Nat×AO)} {w:World} {β:Nat→Nat} {κ:Nat→Nat×Nat} (r:fV c h w β κ) {v:AV} {V:Value} (hg:G w (c.XX h β) β κ v V):D w c.X (AV.vwT h v) V:=by
 unfold AV.vwT;split
 ·obtain ⟨vs,rfl,hl,hgs⟩:=hg.tup_inv;refine .tup _ _ (by simpa using hl) fun i hi => ?_;have e:∀ cs:List AV,(cs.map (AV.vw1 h)).getD i .any=AV.vw1 h (cs.getD i .any):=fun cs=>getD_map (AV.vw1 h) cs i .any .any rfl;rw [e];exact (hgs i (by simpa using hi)).vw1 r
 ·exact hg.vw r
theorem bg.frz {f:FuncId} {args:List AV} {h0 h1:List (Nat×AO)} {v u:AV} (h:bg P f args h0 fun r h'=>r=v∧h'=h1) (hu:AV.vwT h1 v=u):bg P f args h0 fun r h'=>r=u∧h'=[]:=by subst hu;intro c vs hl hr hg;refine (h c vs hl hr hg).mono fun e w' ⟨V,v',h',β',κ',e1,⟨e2,e3⟩,hr',hG⟩ => ?_;subst e2;subst e3;refine ⟨V,_,[],β',κ',e1,⟨rfl,rfl⟩,fV.nilA hr'.kp hr'.fix,.d ((hG.vwT hr').mono (fun _ _ _=>rfl) fun b hb _ hb2=>hb (hb2.resolve_right fun ⟨_,h,_⟩=>oG h))⟩
end
section
variable {P:Program} {Q:Exit→AS→Prop} {c:Code} {fs:List Fr} {s:AS}
def Mh:Oper×List Oper×Code:=(⟨none,.panic (.const .nilIface),0, "", #[],none⟩,[],.skip)
def nx (c:Code):Oper×List Oper×Code:=(x9 c).getD Mh
theorem mj {K V σ ε β:Type} [MapKey K] {cc:V→List AV} {m:List (K×V)} {body:K×V→σ→Option (fE σ ε β)} {k:σ→Option β} {st0:σ} {v:β} (kk:Nat) (S:List Nat→σ→AS) (hc:(x9 c).isSome=true)
 (H:lg m body st0 k=some v) (ds:List tj)
 (hn:∀ seen st,IU ((nx c).1::(nx c).2.1).toArray (S seen st) (nx c).1 kk=true∧lk .gone (S seen st).h kk = .iter (m.map (lV cc)) seen)
 (S0:List Nat→σ→AS) (h0:∀ seen st,zf P ((nx c).1::(nx c).2.1).toArray (nx c).2.1 ds (nx c).1.dst (.tup [.bool false]) (S seen st)=some ([],S0 seen st))
 (S1:List Nat→σ→Nat→K×V→AS) (h1:∀ seen st i e,zf P ((nx c).1::(nx c).2.1).toArray (nx c).2.1 ds (nx c).1.dst (Mf cc e) ⟨(S seen st).n,(S seen st).t,ins kk (.iter (m.map (lV cc)) (seen++[i])) (S seen st).h⟩=some ([],S1 seen st i e))
 (done:∀ seen st,k st=some v→eS P (nx c).2.2 (cg P (.bar dead::fs) Q) (S0 seen st))
 (step:∀ seen st i e,(∃ h:i<m.length,m[i]=e)→∀ q,body e st=some q→uY q (.ret v)→eS P (nx c).2.2 (cg P (.bar (Lw (S (seen++[i])) q)::fs) Q) (S1 seen st i e)):eS P c (cg P fs Q) (S [] st0):=by
 obtain ⟨x,hx⟩:=Option.isSome_iff_exists.1 hc;have e:nx c=x:=by unfold nx;rw [hx];rfl
 refine KP (o:=(nx c).1) (rest:=(nx c).2.1) (y:=(nx c).2.2) kk S (by rw [e,hx]) H ds hn S0 h0 S1 h1 done step
end
theorem KS (l:List ak) (i:Nat) (h:i<l.length):(l.map AV.str).getD i .any = .str (l.getD i []):=by simp [Mk,Ml h]
open Go.Proofs Go.Sort
section
variable {P:Program} {ρ:Go.Shelf.Ren}
def Lx {α:Type} (le:α→α→Bool):List α→Bool
 | []=>true
 | x::l=>l.all (le x)&&Lx le l
theorem Hs {α:Type} {le:α→α→Bool}:∀ {l:List α},Lx le l=true→l.Pairwise (fun a b=>le a b=true)
 | [],_=>.nil
 | x::l,h=>by unfold Lx at h;simp only [Mm,My] at h;exact .cons h.1 (Hs h.2)
def wB {α:Type} (xs:List α) (le:α→α→Bool):List α:=bif Lx le xs then xs else xs.mergeSort le
theorem tr {α:Type} (xs:List α) (le:α→α→Bool):wB xs le=xs.mergeSort le:=by
 unfold wB;cases h:Lx le xs with
 | false=>rfl
 | true=>exact (List.mergeSort_of_pairwise (Hs h)).symm
theorem msort_perm {α:Type} (xs:List α) (le:α→α→Bool):(wB xs le).Perm xs:=tr xs le ▸ List.mergeSort_perm xs le
theorem za {α:Type} (xs:List α) (le:α→α→Bool):(wB xs le).length=xs.length:=(msort_perm xs le).length_eq
theorem msort_pw {α:Type} {le:α→α→Bool} (h1:∀ a b c,le a b=true→le b c=true→le a c=true) (h2:∀ a b,(le a b||le b a)=true) (xs:List α):(wB xs le).Pairwise (fun a b=>le a b=true):=tr xs le ▸ List.pairwise_mergeSort h1 h2 xs
def sortS (xs:List ak):List ak:=wB xs fun x y=>decide (x≤y)
def iT (xs:List ak):Option (List ak):=bX (xs.length<4611686018427387904) <| some (sortS xs)
theorem Dg (L:Lays.n190 P ρ) (xs r:List ak) (H:iT xs=some r) :
 bg P (ρ.f 190) [.rslice 1000] [(1000,.row (ρ.t 9) 1 (xs.map iU))] (fun v h=>v = .tup []∧h=[(1000,.row (ρ.t 9) 1 (r.map iU))]):=by
 unfold iT at H;refine aP H fun hn H => ?_;refine bc H fun e => ?_;subst e;have hlen:(sortS xs).length=xs.length:=za ..;intro c vs hl hr hg;have hv:vs=[vs.getD 0 undef]:=L7 (by simpa using hl);have h0:G c.W (c.XX [(1000,.row (ρ.t 9) 1 (xs.map iU))] c.β) c.β c.κ (.rslice 1000) (vs.getD 0 undef):=hg 0 (by simp);have ho:HO c.W (c.XX [(1000,.row (ρ.t 9) 1 (xs.map iU))] c.β) c.β c.κ 1000 (.row (ρ.t 9) 1 (xs.map iU)):=hr.ob 1000;have hk2:(c.κ 1000).2=xs.length:=by simpa using ho.1
 have hlk:∀ (ys:List ak) k,lk AO.gone [(1000,AO.row (ρ.t 9) 1 (ys.map iU))] k=if k=1000 then .row (ρ.t 9) 1 (ys.map iU) else .gone:=by
  intro ys k;simp only [lk];by_cases e:k=1000
  ·subst e;simp
  ·rw [cW e];simp [e]
 have hlive:∀ (ys:List ak) k,lv [(1000,AO.row (ρ.t 9) 1 (ys.map iU))] k→k=1000∧ys≠[]:=by
  rintro ys k (h | ⟨m,i,_,h⟩)
  ·rw [hlk] at h;by_cases e:k=1000
   ·subst e;rw [if_pos rfl] at h;exact ⟨rfl,fun e=>by subst e;exact h rfl⟩
   ·rw [if_neg e] at h;exact h.elim
  ·rw [hlk] at h;by_cases e:m=1000
   ·rw [if_pos e] at h;exact h.elim
   ·rw [if_neg e] at h;exact h.elim
 rcases h0.rslice_inv with ⟨hpos,hV⟩ | ⟨hz,ad,hV⟩
 ·
  have hne:xs≠[]:=by intro e;subst e;rw [hk2] at hpos;simp at hpos
  obtain ⟨cur,h1,h2,h3,h4,h5,h6,h7⟩:=ho.2 (by simpa using hne);simp only [Mt,Nat.mul_one] at h2 h3 h6 h7;have hcur:∀ j (hj:j<xs.length),cur.getD j undef=encStr xs[j]∧xs[j].length≤maxLen:=by
   intro j hj;have:=h7 j 0 hj (by omega);rw [Nat.add_zero,fj (d:=([]:ak)) hj] at this;have e1:(iU (xs.getD j [])).getD 0 .any = .str xs[j]:=by show AV.str (xs.getD j [])=_;rw [Mk,Ml hj];rfl
   rw [e1] at this;have:=this.str_inv;exact ⟨this.1,this.2⟩
  have hsz:c.β 1000<c.W.heap.size:=(Array.getElem?_eq_some_iff.1 h1).1;have hH:Holds encStr c.W (c.β 1000) 0 xs.toArray:=by
   intro j hj;have hj:j<xs.length:=by simpa using hj
   rw [Nat.zero_add];refine ⟨?_,?_⟩
   ·rw [cJ h1 (by omega),(hcur j hj).1];simp [hj]
   ·simp [World.frozen?,h1]
  rw [hv,hV,hk2];refine (Any.slices_Sort_string L (c.β 1000) 0 (c.κ 1000).1 xs c.W hH hsz hn).mono fun e w' ⟨e1,n,os,e2⟩ => ?_;have hsortE:(xs.mergeSort fun x y=>decide (x≤y))=sortS xs:=(tr ..).symm;rw [hsortE] at e2;subst e2;let cur':=putCells encStr 0 (sortS xs).toArray cur
  have hblk:(grow (putRow encStr (Sort.ahead c.W n) (c.β 1000) 0 (sortS xs).toArray) os).heap[c.β 1000]? = some (.cells cur' (ρ.t 9) (0,0)):=by simp only [grow,putRow,mapBlock,Sort.ahead];rw [Array.getElem?_append_left (by simpa using hsz),Array.getElem?_modify,if_pos rfl,h1];rfl
  have hoth:∀ b,b≠c.β 1000→b<c.W.heap.size→(grow (putRow encStr (Sort.ahead c.W n) (c.β 1000) 0 (sortS xs).toArray) os).heap[b]? = c.W.heap[b]? := by intro b hb hlt;simp only [grow,putRow,mapBlock,Sort.ahead];rw [Array.getElem?_append_left (by simpa using hlt),Array.getElem?_modify,if_neg (Ne.symm hb)]
  have hcs:cur'.size=cur.size:=by simp [cur',putCells]
  have hnK:¬ c.K (c.β 1000):=hr.nk 1000 (.inl (by rw [hlk,if_pos rfl];simpa [AO.live] using hne));refine ⟨_,.tup [],[(1000,.row (ρ.t 9) 1 ((sortS xs).map iU))],c.β,c.κ,e1,⟨rfl,rfl⟩,⟨fun k => ?_,fun i j hi hj _ => ?_,⟨rfl,rfl,rfl,?_,fun b hb=>hoth b (fun e=>hnK (e ▸ hb)) (c.hK b hb)⟩,fun k hk => ?_,fun k hk => ?_,fun k hk _=>⟨rfl,rfl⟩,fun k hk => ?_⟩,.d (.tup _ _ rfl (fun i hi=>by simp at hi))⟩
  ·rw [hlk];by_cases ek:k=1000
   ·subst ek;rw [if_pos rfl];refine ⟨by simp [hk2,hlen],fun _=>⟨cur',hblk,by rw [hcs,h2];simp,by simpa [hlen] using h3,h4,by omega,fun i hi => ?_,fun i j hi hj => ?_⟩⟩
    ·have hi:i<(sortS xs).length:=by simpa using hi
     rw [fj (d:=([]:ak)) hi];rfl
    ·have hi:i<(sortS xs).length:=by simpa using hi
     have ej:j=0:=by omega
     subst ej;rw [Nat.mul_one,Nat.add_zero,fj (d:=([]:ak)) hi];have e1:(iU ((sortS xs).getD i [])).getD 0 .any = .str (sortS xs)[i]:=by show AV.str ((sortS xs).getD i [])=_;rw [Mk,Ml hi];rfl
     have e2:cur'.getD i undef=encStr (sortS xs)[i]:=by
      have hic:i<cur.size:=by omega
      simp [cur',putCells,Mn,hic,hi]
     rw [e1,e2];refine .str _ ?_;have hm:(sortS xs)[i]∈xs:=(msort_perm ..).mem_iff.1 (List.getElem_mem hi);obtain ⟨j,hj,e3⟩:=List.getElem_of_mem hm;rw [← e3];exact (hcur j hj).2
   ·rw [if_neg ek];trivial
  ·rw [(hlive _ _ hi).1,(hlive _ _ hj).1]
  ·simp [grow,Sort.ahead]
  ·obtain ⟨rfl,_⟩:=hlive _ _ hk;exact hnK
  ·obtain ⟨rfl,_⟩:=hlive _ _ hk;exact hr.nx 1000 (.inl (by rw [hlk,if_pos rfl];simpa [AO.live] using hne))
  ·rw [hlk] at hk;by_cases ek:k=1000
   ·omega
   ·rw [if_neg ek] at hk;exact absurd rfl hk
 ·
  have hx:xs=[]:=List.eq_nil_of_length_eq_zero (by omega);subst hx;rw [hv,hV];refine (Any.slices_Sort_string_none L ad 0 c.W).mono fun e w' ⟨e1,e2⟩ => ?_;subst e2;exact ⟨_,.tup [],[(1000,.row (ρ.t 9) 1 (([]:List ak).map iU))],c.β,c.κ,e1,⟨rfl,rfl⟩,hr,.d (.tup _ _ rfl (fun i hi=>by simp at hi))⟩
end
end Go.Ab
namespace Go.Proofs
open Go.Shelf
def Tryz.lays156_ren:Go.Shelf.Ren:=⟨fun | 156=>179 | 165=>219 | 166=>220 | 169=>221 | 240=>251 | 241=>252 | 276=>274 | 277=>275 | n=>n,fun | 31=>112 | 9=>9 | 3=>3 | 4=>4 | 0=>0 | 20=>20 | 72=>252 | 76=>187 | 70=>250 | 37=>137 | 75=>186 | 127=>278 | 164=>298 | 5=>5 | 80=>254 | n=>n,fun | n=>n⟩
theorem Tryz.lays156:Go.Proofs.Lays.n156 Tryz.prog Tryz.lays156_ren:={
 mixed:=by kernel_rfl
 f156:=Tryz.func179.trans (congrArg some (by kernel_rfl))
 f165:=Tryz.func219.trans (congrArg some (by kernel_rfl))
 f166:=Tryz.func220.trans (congrArg some (by kernel_rfl))
 f169:=Tryz.func221.trans (congrArg some (by kernel_rfl))
 f240:=Tryz.func251.trans (congrArg some (by kernel_rfl))
 f241:=Tryz.func252.trans (congrArg some (by kernel_rfl))
 f276:=Tryz.func274.trans (congrArg some (by kernel_rfl))
 f277:=Tryz.func275.trans (congrArg some (by kernel_rfl))
 t0:=Tryz.underlying0
 a0:=Tryz.isAgg0
 z0:=Tryz.sizeOf0
 v0:=Tryz.zeroValue0
 t3:=Tryz.underlying3
 a3:=Tryz.isAgg3
 z3:=Tryz.sizeOf3
 v3:=Tryz.zeroValue3
 t4:=Tryz.underlying4
 a4:=Tryz.isAgg4
 z4:=Tryz.sizeOf4
 v4:=Tryz.zeroValue4
 t9:=Tryz.underlying9
 a9:=Tryz.isAgg9
 z9:=Tryz.sizeOf9
 v9:=Tryz.zeroValue9
 t20:=Tryz.underlying20
 a20:=Tryz.isAgg20
 z20:=Tryz.sizeOf20
 v20:=Tryz.zeroValue20
 t31:=Tryz.underlying112
 a31:=Tryz.isAgg112
 z31:=Tryz.sizeOf112
 v31:=Tryz.zeroValue112
 t37:=Tryz.underlying137
 a37:=Tryz.isAgg137
 z37:=Tryz.sizeOf137
 v37:=Tryz.zeroValue137
 t70:=Tryz.underlying250
 a70:=Tryz.isAgg250
 z70:=Tryz.sizeOf250
 v70:=Tryz.zeroValue250
 t72:=Tryz.underlying252
 a72:=Tryz.isAgg252
 z72:=Tryz.sizeOf252
 v72:=Tryz.zeroValue252
 t75:=Tryz.underlying186
 a75:=Tryz.isAgg186
 z75:=Tryz.sizeOf186
 v75:=Tryz.zeroValue186
 t76:=Tryz.underlying187
 a76:=Tryz.isAgg187
 z76:=Tryz.sizeOf187
 v76:=Tryz.zeroValue187
 t127:=Tryz.underlying278
 a127:=Tryz.isAgg278
 z127:=Tryz.sizeOf278
 v127:=Tryz.zeroValue278
 t164:=Tryz.underlying298
 a164:=Tryz.isAgg298
 z164:=Tryz.sizeOf298
 v164:=Tryz.zeroValue298 }
theorem Tryz.Builder_Extra_156:Builder.Extra Tryz.prog Tryz.lays156_ren:={
 sizeBuilder:=by kernel_rfl
 liesBuilder:=by kernel_rfl
 t5:=Tryz.underlying5
 a5:=Tryz.isAgg5
 z5:=Tryz.sizeOf5
 v5:=Tryz.zeroValue5
 infoByte:=by kernel_rfl
 cellsByte:=by kernel_rfl
 sizeByte:=by kernel_rfl
 neB5:=by decide }
def Tryz.lays160_ren:Go.Shelf.Ren:=⟨fun | 160=>139 | 232=>181 | 231=>180 | 227=>182 | 234=>184 | 233=>183 | 236=>186 | 235=>185 | 228=>222 | 271=>225 | 151=>224 | 197=>223 | 120=>255 | 152=>254 | 260=>253 | 137=>71 | 119=>276 | 224=>272 | 225=>271 | 217=>132 | 266=>172 | n=>n,fun | 9=>9 | 4=>4 | 3=>3 | 5=>5 | 117=>224 | 116=>223 | 0=>0 | 124=>227 | 21=>21 | 105=>255 | 46=>123 | 119=>301 | 139=>304 | 138=>303 | n=>n,fun | 3=>3 | 4=>4 | n=>n⟩
theorem Tryz.lays160:Go.Proofs.Lays.n160 Tryz.prog Tryz.lays160_ren:={
 mixed:=by kernel_rfl
 f119:=Tryz.func276.trans (congrArg some (by kernel_rfl))
 f120:=Tryz.func255.trans (congrArg some (by kernel_rfl))
 f137:=Tryz.func71.trans (congrArg some (by kernel_rfl))
 f151:=Tryz.func224.trans (congrArg some (by kernel_rfl))
 f152:=Tryz.func254.trans (congrArg some (by kernel_rfl))
 f160:=Tryz.func139.trans (congrArg some (by kernel_rfl))
 f197:=Tryz.func223.trans (congrArg some (by kernel_rfl))
 f217:=Tryz.func132.trans (congrArg some (by kernel_rfl))
 f224:=Tryz.func272.trans (congrArg some (by kernel_rfl))
 f225:=Tryz.func271.trans (congrArg some (by kernel_rfl))
 f227:=Tryz.func182.trans (congrArg some (by kernel_rfl))
 f228:=Tryz.func222.trans (congrArg some (by kernel_rfl))
 f231:=Tryz.func180.trans (congrArg some (by kernel_rfl))
 f232:=Tryz.func181.trans (congrArg some (by kernel_rfl))
 f233:=Tryz.func183.trans (congrArg some (by kernel_rfl))
 f234:=Tryz.func184.trans (congrArg some (by kernel_rfl))
 f235:=Tryz.func185.trans (congrArg some (by kernel_rfl))
 f236:=Tryz.func186.trans (congrArg some (by kernel_rfl))
 f260:=Tryz.func253.trans (congrArg some (by kernel_rfl))
 f266:=Tryz.func172.trans (congrArg some (by kernel_rfl))
 f271:=Tryz.func225.trans (congrArg some (by kernel_rfl))
 t0:=Tryz.underlying0
 a0:=Tryz.isAgg0
 z0:=Tryz.sizeOf0
 v0:=Tryz.zeroValue0
 t3:=Tryz.underlying3
 a3:=Tryz.isAgg3
 z3:=Tryz.sizeOf3
 v3:=Tryz.zeroValue3
 t4:=Tryz.underlying4
 a4:=Tryz.isAgg4
 z4:=Tryz.sizeOf4
 v4:=Tryz.zeroValue4
 t5:=Tryz.underlying5
 a5:=Tryz.isAgg5
 z5:=Tryz.sizeOf5
 v5:=Tryz.zeroValue5
 t9:=Tryz.underlying9
 a9:=Tryz.isAgg9
 z9:=Tryz.sizeOf9
 v9:=Tryz.zeroValue9
 t21:=Tryz.underlying21
 a21:=Tryz.isAgg21
 z21:=Tryz.sizeOf21
 v21:=Tryz.zeroValue21
 t46:=Tryz.underlying123
 a46:=Tryz.isAgg123
 z46:=Tryz.sizeOf123
 v46:=Tryz.zeroValue123
 t105:=Tryz.underlying255
 a105:=Tryz.isAgg255
 z105:=Tryz.sizeOf255
 v105:=Tryz.zeroValue255
 t116:=Tryz.underlying223
 a116:=Tryz.isAgg223
 z116:=Tryz.sizeOf223
 t117:=Tryz.underlying224
 a117:=Tryz.isAgg224
 z117:=Tryz.sizeOf224
 v117:=Tryz.zeroValue224
 t119:=Tryz.underlying301
 a119:=Tryz.isAgg301
 z119:=Tryz.sizeOf301
 t124:=Tryz.underlying227
 a124:=Tryz.isAgg227
 z124:=Tryz.sizeOf227
 v124:=Tryz.zeroValue227
 t138:=Tryz.underlying303
 a138:=Tryz.isAgg303
 z138:=Tryz.sizeOf303
 v138:=Tryz.zeroValue303
 t139:=Tryz.underlying304
 a139:=Tryz.isAgg304
 z139:=Tryz.sizeOf304
 v139:=Tryz.zeroValue304
 g3:=by kernel_rfl
 g4:=by kernel_rfl }
def Tryz.laysM171_ren:Go.Shelf.Ren:=⟨fun | 171=>151 | 243=>191 | 246=>231 | 283=>259 | 284=>260 | 285=>261 | 286=>262 | 129=>120 | 317=>279 | 318=>280 | 319=>281 | 320=>282 | 337=>285 | 338=>286 | n=>n,fun | 3=>3 | 9=>9 | 2=>2 | 4=>4 | 171=>285 | 0=>0 | 53=>171 | 37=>137 | 5=>5 | 173=>287 | 212=>311 | 51=>169 | 20=>20 | 213=>312 | 46=>123 | 232=>316 | 233=>317 | n=>n,fun | 17=>5 | 18=>6 | 19=>7 | n=>n⟩
theorem Tryz.laysM171:Go.Proofs.LaysM.n171 Tryz.prog Tryz.laysM171_ren:={
 mixed:=by kernel_rfl
 f129:=Tryz.func120.trans (congrArg some (by kernel_rfl))
 f171:=Tryz.func151.trans (congrArg some (by kernel_rfl))
 f243:=Tryz.func191.trans (congrArg some (by kernel_rfl))
 f246:=Tryz.func231.trans (congrArg some (by kernel_rfl))
 f283:=Tryz.func259.trans (congrArg some (by kernel_rfl))
 f284:=Tryz.func260.trans (congrArg some (by kernel_rfl))
 f285:=Tryz.func261.trans (congrArg some (by kernel_rfl))
 f286:=Tryz.func262.trans (congrArg some (by kernel_rfl))
 f317:=Tryz.func279.trans (congrArg some (by kernel_rfl))
 f318:=Tryz.func280.trans (congrArg some (by kernel_rfl))
 f319:=Tryz.func281.trans (congrArg some (by kernel_rfl))
 f320:=Tryz.func282.trans (congrArg some (by kernel_rfl))
 f337:=Tryz.func285.trans (congrArg some (by kernel_rfl))
 f338:=Tryz.func286.trans (congrArg some (by kernel_rfl))
 t0:=Tryz.underlying0
 a0:=Tryz.isAgg0
 z0:=Tryz.sizeOf0
 v0:=Tryz.zeroValue0
 t2:=Tryz.underlying2
 a2:=Tryz.isAgg2
 z2:=Tryz.sizeOf2
 v2:=Tryz.zeroValue2
 t3:=Tryz.underlying3
 a3:=Tryz.isAgg3
 z3:=Tryz.sizeOf3
 v3:=Tryz.zeroValue3
 t4:=Tryz.underlying4
 a4:=Tryz.isAgg4
 z4:=Tryz.sizeOf4
 v4:=Tryz.zeroValue4
 t5:=Tryz.underlying5
 a5:=Tryz.isAgg5
 z5:=Tryz.sizeOf5
 v5:=Tryz.zeroValue5
 t9:=Tryz.underlying9
 a9:=Tryz.isAgg9
 z9:=Tryz.sizeOf9
 v9:=Tryz.zeroValue9
 t20:=Tryz.underlying20
 a20:=Tryz.isAgg20
 z20:=Tryz.sizeOf20
 v20:=Tryz.zeroValue20
 t37:=Tryz.underlying137
 a37:=Tryz.isAgg137
 z37:=Tryz.sizeOf137
 v37:=Tryz.zeroValue137
 t46:=Tryz.underlying123
 a46:=Tryz.isAgg123
 z46:=Tryz.sizeOf123
 v46:=Tryz.zeroValue123
 t51:=Tryz.underlying169
 a51:=Tryz.isAgg169
 z51:=Tryz.sizeOf169
 v51:=Tryz.zeroValue169
 t53:=Tryz.underlying171
 a53:=Tryz.isAgg171
 z53:=Tryz.sizeOf171
 v53:=Tryz.zeroValue171
 t171:=Tryz.underlying285
 a171:=Tryz.isAgg285
 z171:=Tryz.sizeOf285
 v171:=Tryz.zeroValue285
 t173:=Tryz.underlying287
 a173:=Tryz.isAgg287
 z173:=Tryz.sizeOf287
 v173:=Tryz.zeroValue287
 t212:=Tryz.underlying311
 a212:=Tryz.isAgg311
 z212:=Tryz.sizeOf311
 v212:=Tryz.zeroValue311
 t213:=Tryz.underlying312
 a213:=Tryz.isAgg312
 z213:=Tryz.sizeOf312
 t232:=Tryz.underlying316
 a232:=Tryz.isAgg316
 z232:=Tryz.sizeOf316
 v232:=Tryz.zeroValue316
 t233:=Tryz.underlying317
 a233:=Tryz.isAgg317
 z233:=Tryz.sizeOf317
 v233:=Tryz.zeroValue317
 g17:=by kernel_rfl
 g18:=by kernel_rfl
 g19:=by kernel_rfl
 i0:=by kernel_rfl
 i2:=by kernel_rfl
 i3:=by kernel_rfl
 i4:=by kernel_rfl
 i5:=by kernel_rfl
 i9:=by kernel_rfl
 i20:=by kernel_rfl
 i37:=by kernel_rfl
 i46:=by kernel_rfl
 i51:=by kernel_rfl
 i53:=by kernel_rfl
 i171:=by kernel_rfl
 i173:=by kernel_rfl
 i212:=by kernel_rfl
 i232:=by kernel_rfl
 i233:=by kernel_rfl
 m17:=by kernel_rfl
 m18:=by kernel_rfl
 m19:=by kernel_rfl }
def Tryz.laysC172_ren:Go.Shelf.Ren:=⟨fun | 172=>145 | 244=>189 | 245=>190 | 247=>226 | 279=>227 | 280=>228 | 281=>229 | 282=>230 | 287=>256 | 316=>257 | 171=>151 | 205=>258 | 321=>277 | 322=>278 | 243=>191 | 246=>231 | 283=>259 | 284=>260 | 285=>261 | 286=>262 | 129=>120 | 317=>279 | 318=>280 | 319=>281 | 320=>282 | 337=>285 | 338=>286 | n=>n,fun | 9=>9 | 3=>3 | 75=>186 | 76=>187 | 4=>4 | 5=>5 | 167=>258 | 37=>137 | 0=>0 | 85=>259 | 2=>2 | 168=>261 | 53=>171 | 175=>280 | 46=>123 | 210=>283 | 127=>278 | 145=>309 | 143=>307 | 21=>21 | 171=>285 | 173=>287 | 212=>311 | 51=>169 | 20=>20 | 213=>312 | 232=>316 | 233=>317 | 80=>254 | n=>n,fun | 15=>1 | 16=>2 | 17=>5 | 18=>6 | 19=>7 | n=>n⟩
theorem Tryz.laysC172:Go.Proofs.LaysC.n172 Tryz.prog Tryz.laysC172_ren:={
 mixed:=by kernel_rfl
 f129:=Tryz.func120.trans (congrArg some (by kernel_rfl))
 f171:=Tryz.func151.trans (congrArg some (by kernel_rfl))
 f172:=Tryz.func145.trans (congrArg some (by kernel_rfl))
 f205:=Tryz.func258.trans (congrArg some (by kernel_rfl))
 f243:=Tryz.func191.trans (congrArg some (by kernel_rfl))
 f244:=Tryz.func189.trans (congrArg some (by kernel_rfl))
 f245:=Tryz.func190.trans (congrArg some (by kernel_rfl))
 f246:=Tryz.func231.trans (congrArg some (by kernel_rfl))
 f247:=Tryz.func226.trans (congrArg some (by kernel_rfl))
 f279:=Tryz.func227.trans (congrArg some (by kernel_rfl))
 f280:=Tryz.func228.trans (congrArg some (by kernel_rfl))
 f281:=Tryz.func229.trans (congrArg some (by kernel_rfl))
 f282:=Tryz.func230.trans (congrArg some (by kernel_rfl))
 f283:=Tryz.func259.trans (congrArg some (by kernel_rfl))
 f284:=Tryz.func260.trans (congrArg some (by kernel_rfl))
 f285:=Tryz.func261.trans (congrArg some (by kernel_rfl))
 f286:=Tryz.func262.trans (congrArg some (by kernel_rfl))
 f287:=Tryz.func256.trans (congrArg some (by kernel_rfl))
 f316:=Tryz.func257.trans (congrArg some (by kernel_rfl))
 f317:=Tryz.func279.trans (congrArg some (by kernel_rfl))
 f318:=Tryz.func280.trans (congrArg some (by kernel_rfl))
 f319:=Tryz.func281.trans (congrArg some (by kernel_rfl))
 f320:=Tryz.func282.trans (congrArg some (by kernel_rfl))
 f321:=Tryz.func277.trans (congrArg some (by kernel_rfl))
 f322:=Tryz.func278.trans (congrArg some (by kernel_rfl))
 f337:=Tryz.func285.trans (congrArg some (by kernel_rfl))
 f338:=Tryz.func286.trans (congrArg some (by kernel_rfl))
 t0:=Tryz.underlying0
 a0:=Tryz.isAgg0
 z0:=Tryz.sizeOf0
 v0:=Tryz.zeroValue0
 t2:=Tryz.underlying2
 a2:=Tryz.isAgg2
 z2:=Tryz.sizeOf2
 v2:=Tryz.zeroValue2
 t3:=Tryz.underlying3
 a3:=Tryz.isAgg3
 z3:=Tryz.sizeOf3
 v3:=Tryz.zeroValue3
 t4:=Tryz.underlying4
 a4:=Tryz.isAgg4
 z4:=Tryz.sizeOf4
 v4:=Tryz.zeroValue4
 t5:=Tryz.underlying5
 a5:=Tryz.isAgg5
 z5:=Tryz.sizeOf5
 v5:=Tryz.zeroValue5
 t9:=Tryz.underlying9
 a9:=Tryz.isAgg9
 z9:=Tryz.sizeOf9
 v9:=Tryz.zeroValue9
 t20:=Tryz.underlying20
 a20:=Tryz.isAgg20
 z20:=Tryz.sizeOf20
 v20:=Tryz.zeroValue20
 t21:=Tryz.underlying21
 a21:=Tryz.isAgg21
 z21:=Tryz.sizeOf21
 v21:=Tryz.zeroValue21
 t37:=Tryz.underlying137
 a37:=Tryz.isAgg137
 z37:=Tryz.sizeOf137
 v37:=Tryz.zeroValue137
 t46:=Tryz.underlying123
 a46:=Tryz.isAgg123
 z46:=Tryz.sizeOf123
 v46:=Tryz.zeroValue123
 t51:=Tryz.underlying169
 a51:=Tryz.isAgg169
 z51:=Tryz.sizeOf169
 v51:=Tryz.zeroValue169
 t53:=Tryz.underlying171
 a53:=Tryz.isAgg171
 z53:=Tryz.sizeOf171
 v53:=Tryz.zeroValue171
 t75:=Tryz.underlying186
 a75:=Tryz.isAgg186
 z75:=Tryz.sizeOf186
 v75:=Tryz.zeroValue186
 t76:=Tryz.underlying187
 a76:=Tryz.isAgg187
 z76:=Tryz.sizeOf187
 v76:=Tryz.zeroValue187
 t85:=Tryz.underlying259
 a85:=Tryz.isAgg259
 z85:=Tryz.sizeOf259
 v85:=Tryz.zeroValue259
 t127:=Tryz.underlying278
 a127:=Tryz.isAgg278
 z127:=Tryz.sizeOf278
 v127:=Tryz.zeroValue278
 t143:=Tryz.underlying307
 a143:=Tryz.isAgg307
 z143:=Tryz.sizeOf307
 v143:=Tryz.zeroValue307
 t145:=Tryz.underlying309
 a145:=Tryz.isAgg309
 z145:=Tryz.sizeOf309
 v145:=Tryz.zeroValue309
 t167:=Tryz.underlying258
 a167:=Tryz.isAgg258
 z167:=Tryz.sizeOf258
 v167:=Tryz.zeroValue258
 t168:=Tryz.underlying261
 a168:=Tryz.isAgg261
 z168:=Tryz.sizeOf261
 v168:=Tryz.zeroValue261
 t171:=Tryz.underlying285
 a171:=Tryz.isAgg285
 z171:=Tryz.sizeOf285
 v171:=Tryz.zeroValue285
 t173:=Tryz.underlying287
 a173:=Tryz.isAgg287
 z173:=Tryz.sizeOf287
 v173:=Tryz.zeroValue287
 t175:=Tryz.underlying280
 a175:=Tryz.isAgg280
 z175:=Tryz.sizeOf280
 v175:=Tryz.zeroValue280
 t210:=Tryz.underlying283
 a210:=Tryz.isAgg283
 z210:=Tryz.sizeOf283
 v210:=Tryz.zeroValue283
 t212:=Tryz.underlying311
 a212:=Tryz.isAgg311
 z212:=Tryz.sizeOf311
 v212:=Tryz.zeroValue311
 t213:=Tryz.underlying312
 a213:=Tryz.isAgg312
 z213:=Tryz.sizeOf312
 t232:=Tryz.underlying316
 a232:=Tryz.isAgg316
 z232:=Tryz.sizeOf316
 v232:=Tryz.zeroValue316
 t233:=Tryz.underlying317
 a233:=Tryz.isAgg317
 z233:=Tryz.sizeOf317
 v233:=Tryz.zeroValue317
 g15:=by kernel_rfl
 g16:=by kernel_rfl
 g17:=by kernel_rfl
 g18:=by kernel_rfl
 g19:=by kernel_rfl
 t80:=Tryz.underlying254
 a80:=Tryz.isAgg254
 z80:=Tryz.sizeOf254
 v80:=Tryz.zeroValue254
 i0:=by kernel_rfl
 i2:=by kernel_rfl
 i3:=by kernel_rfl
 i4:=by kernel_rfl
 i5:=by kernel_rfl
 i9:=by kernel_rfl
 i20:=by kernel_rfl
 i21:=by kernel_rfl
 i37:=by kernel_rfl
 i46:=by kernel_rfl
 i51:=by kernel_rfl
 i53:=by kernel_rfl
 i75:=by kernel_rfl
 i76:=by kernel_rfl
 i80:=by kernel_rfl
 i85:=by kernel_rfl
 i127:=by kernel_rfl
 i143:=by kernel_rfl
 i145:=by kernel_rfl
 i167:=by kernel_rfl
 i168:=by kernel_rfl
 i171:=by kernel_rfl
 i173:=by kernel_rfl
 i175:=by kernel_rfl
 i210:=by kernel_rfl
 i212:=by kernel_rfl
 i232:=by kernel_rfl
 i233:=by kernel_rfl
 m15:=by kernel_rfl
 m16:=by kernel_rfl
 m17:=by kernel_rfl
 m18:=by kernel_rfl
 m19:=by kernel_rfl
 c0:=by kernel_rfl
 c2:=by kernel_rfl
 c3:=by kernel_rfl
 c4:=by kernel_rfl
 c5:=by kernel_rfl
 c9:=by kernel_rfl
 c20:=by kernel_rfl
 c21:=by kernel_rfl
 c37:=by kernel_rfl
 c46:=by kernel_rfl
 c51:=by kernel_rfl
 c53:=by kernel_rfl
 c75:=by kernel_rfl
 c76:=by kernel_rfl
 c80:=by kernel_rfl
 c85:=by kernel_rfl
 c127:=by kernel_rfl
 c143:=by kernel_rfl
 c145:=by kernel_rfl
 c167:=by kernel_rfl
 c168:=by kernel_rfl
 c171:=by kernel_rfl
 c173:=by kernel_rfl
 c175:=by kernel_rfl
 c210:=by kernel_rfl
 c212:=by kernel_rfl
 c213:=by kernel_rfl
 c232:=by kernel_rfl
 c233:=by kernel_rfl }
def Tryz.lays190_ren:Go.Shelf.Ren:=⟨fun | 190=>99 | 125=>59 | 258=>159 | 128=>119 | 129=>120 | 302=>198 | 303=>199 | 304=>200 | 305=>201 | 306=>202 | 307=>203 | 308=>100 | 309=>204 | 310=>205 | 333=>243 | 329=>163 | 330=>164 | 334=>244 | 335=>245 | 336=>160 | 344=>270 | n=>n,fun | 31=>112 | 9=>9 | 3=>3 | 46=>123 | 0=>0 | 51=>169 | 53=>171 | 4=>4 | 183=>163 | 182=>162 | 131=>114 | 5=>5 | 218=>202 | 222=>206 | 228=>243 | 229=>232 | n=>n,fun | n=>n⟩
theorem Tryz.lays190:Go.Proofs.Lays.n190 Tryz.prog Tryz.lays190_ren:={
 mixed:=by kernel_rfl
 f125:=Tryz.func59.trans (congrArg some (by kernel_rfl))
 f128:=Tryz.func119.trans (congrArg some (by kernel_rfl))
 f129:=Tryz.func120.trans (congrArg some (by kernel_rfl))
 f190:=Tryz.func99.trans (congrArg some (by kernel_rfl))
 f258:=Tryz.func159.trans (congrArg some (by kernel_rfl))
 f302:=Tryz.func198.trans (congrArg some (by kernel_rfl))
 f303:=Tryz.func199.trans (congrArg some (by kernel_rfl))
 f304:=Tryz.func200.trans (congrArg some (by kernel_rfl))
 f305:=Tryz.func201.trans (congrArg some (by kernel_rfl))
 f306:=Tryz.func202.trans (congrArg some (by kernel_rfl))
 f307:=Tryz.func203.trans (congrArg some (by kernel_rfl))
 f308:=Tryz.func100.trans (congrArg some (by kernel_rfl))
 f309:=Tryz.func204.trans (congrArg some (by kernel_rfl))
 f310:=Tryz.func205.trans (congrArg some (by kernel_rfl))
 f329:=Tryz.func163.trans (congrArg some (by kernel_rfl))
 f330:=Tryz.func164.trans (congrArg some (by kernel_rfl))
 f333:=Tryz.func243.trans (congrArg some (by kernel_rfl))
 f334:=Tryz.func244.trans (congrArg some (by kernel_rfl))
 f335:=Tryz.func245.trans (congrArg some (by kernel_rfl))
 f336:=Tryz.func160.trans (congrArg some (by kernel_rfl))
 f344:=Tryz.func270.trans (congrArg some (by kernel_rfl))
 t0:=Tryz.underlying0
 a0:=Tryz.isAgg0
 z0:=Tryz.sizeOf0
 v0:=Tryz.zeroValue0
 t3:=Tryz.underlying3
 a3:=Tryz.isAgg3
 z3:=Tryz.sizeOf3
 v3:=Tryz.zeroValue3
 t4:=Tryz.underlying4
 a4:=Tryz.isAgg4
 z4:=Tryz.sizeOf4
 v4:=Tryz.zeroValue4
 t5:=Tryz.underlying5
 a5:=Tryz.isAgg5
 z5:=Tryz.sizeOf5
 v5:=Tryz.zeroValue5
 t9:=Tryz.underlying9
 a9:=Tryz.isAgg9
 z9:=Tryz.sizeOf9
 v9:=Tryz.zeroValue9
 t31:=Tryz.underlying112
 a31:=Tryz.isAgg112
 z31:=Tryz.sizeOf112
 v31:=Tryz.zeroValue112
 t46:=Tryz.underlying123
 a46:=Tryz.isAgg123
 z46:=Tryz.sizeOf123
 v46:=Tryz.zeroValue123
 t51:=Tryz.underlying169
 a51:=Tryz.isAgg169
 z51:=Tryz.sizeOf169
 v51:=Tryz.zeroValue169
 t53:=Tryz.underlying171
 a53:=Tryz.isAgg171
 z53:=Tryz.sizeOf171
 v53:=Tryz.zeroValue171
 t131:=Tryz.underlying114
 a131:=Tryz.isAgg114
 z131:=Tryz.sizeOf114
 v131:=Tryz.zeroValue114
 t182:=Tryz.underlying162
 a182:=Tryz.isAgg162
 z182:=Tryz.sizeOf162
 v182:=Tryz.zeroValue162
 t183:=Tryz.underlying163
 a183:=Tryz.isAgg163
 z183:=Tryz.sizeOf163
 v183:=Tryz.zeroValue163
 t218:=Tryz.underlying202
 a218:=Tryz.isAgg202
 z218:=Tryz.sizeOf202
 v218:=Tryz.zeroValue202
 t222:=Tryz.underlying206
 a222:=Tryz.isAgg206
 z222:=Tryz.sizeOf206
 v222:=Tryz.zeroValue206
 t228:=Tryz.underlying243
 a228:=Tryz.isAgg243
 z228:=Tryz.sizeOf243
 v228:=Tryz.zeroValue243
 t229:=Tryz.underlying232
 a229:=Tryz.isAgg232
 z229:=Tryz.sizeOf232
 v229:=Tryz.zeroValue232 }
def Tryz.lays146_ren:Go.Shelf.Ren:=⟨fun | 146=>134 | 221=>174 | 268=>209 | 138=>210 | 143=>211 | 195=>246 | 197=>223 | 218=>247 | 219=>248 | 260=>253 | 217=>132 | 225=>271 | 224=>272 | 267=>273 | 266=>172 | 314=>284 | n=>n,fun | 9=>9 | 31=>112 | 3=>3 | 4=>4 | 0=>0 | 105=>255 | 21=>21 | 5=>5 | 46=>123 | 119=>301 | 139=>304 | 138=>303 | 146=>314 | 51=>169 | n=>n,fun | 1=>0 | 3=>3 | 4=>4 | n=>n⟩
theorem Tryz.lays146:Go.Proofs.Lays.n146 Tryz.prog Tryz.lays146_ren:={
 mixed:=by kernel_rfl
 f138:=Tryz.func210.trans (congrArg some (by kernel_rfl))
 f143:=Tryz.func211.trans (congrArg some (by kernel_rfl))
 f146:=Tryz.func134.trans (congrArg some (by kernel_rfl))
 f195:=Tryz.func246.trans (congrArg some (by kernel_rfl))
 f197:=Tryz.func223.trans (congrArg some (by kernel_rfl))
 f217:=Tryz.func132.trans (congrArg some (by kernel_rfl))
 f218:=Tryz.func247.trans (congrArg some (by kernel_rfl))
 f219:=Tryz.func248.trans (congrArg some (by kernel_rfl))
 f221:=Tryz.func174.trans (congrArg some (by kernel_rfl))
 f224:=Tryz.func272.trans (congrArg some (by kernel_rfl))
 f225:=Tryz.func271.trans (congrArg some (by kernel_rfl))
 f260:=Tryz.func253.trans (congrArg some (by kernel_rfl))
 f266:=Tryz.func172.trans (congrArg some (by kernel_rfl))
 f267:=Tryz.func273.trans (congrArg some (by kernel_rfl))
 f268:=Tryz.func209.trans (congrArg some (by kernel_rfl))
 f314:=Tryz.func284.trans (congrArg some (by kernel_rfl))
 t0:=Tryz.underlying0
 a0:=Tryz.isAgg0
 z0:=Tryz.sizeOf0
 v0:=Tryz.zeroValue0
 t3:=Tryz.underlying3
 a3:=Tryz.isAgg3
 z3:=Tryz.sizeOf3
 v3:=Tryz.zeroValue3
 t4:=Tryz.underlying4
 a4:=Tryz.isAgg4
 z4:=Tryz.sizeOf4
 v4:=Tryz.zeroValue4
 t5:=Tryz.underlying5
 a5:=Tryz.isAgg5
 z5:=Tryz.sizeOf5
 v5:=Tryz.zeroValue5
 t9:=Tryz.underlying9
 a9:=Tryz.isAgg9
 z9:=Tryz.sizeOf9
 v9:=Tryz.zeroValue9
 t21:=Tryz.underlying21
 a21:=Tryz.isAgg21
 z21:=Tryz.sizeOf21
 v21:=Tryz.zeroValue21
 t31:=Tryz.underlying112
 a31:=Tryz.isAgg112
 z31:=Tryz.sizeOf112
 v31:=Tryz.zeroValue112
 t46:=Tryz.underlying123
 a46:=Tryz.isAgg123
 z46:=Tryz.sizeOf123
 v46:=Tryz.zeroValue123
 t51:=Tryz.underlying169
 a51:=Tryz.isAgg169
 z51:=Tryz.sizeOf169
 v51:=Tryz.zeroValue169
 t105:=Tryz.underlying255
 a105:=Tryz.isAgg255
 z105:=Tryz.sizeOf255
 v105:=Tryz.zeroValue255
 t119:=Tryz.underlying301
 a119:=Tryz.isAgg301
 z119:=Tryz.sizeOf301
 t138:=Tryz.underlying303
 a138:=Tryz.isAgg303
 z138:=Tryz.sizeOf303
 v138:=Tryz.zeroValue303
 t139:=Tryz.underlying304
 a139:=Tryz.isAgg304
 z139:=Tryz.sizeOf304
 v139:=Tryz.zeroValue304
 t146:=Tryz.underlying314
 a146:=Tryz.isAgg314
 z146:=Tryz.sizeOf314
 v146:=Tryz.zeroValue314
 g1:=by kernel_rfl
 g3:=by kernel_rfl
 g4:=by kernel_rfl }
def Tryz.lays8_186_ren:Go.Shelf.Ren:=⟨fun | 4=>188 | n=>n,fun | 22=>32 | 25=>29 | 3=>3 | 4=>4 | 9=>9 | 20=>20 | 0=>0 | n=>n,fun | n=>n⟩
theorem Tryz.lays8_186:Go.Proofs.Lays8.n4 Tryz.prog Tryz.lays8_186_ren:={
 mixed:=by kernel_rfl
 f4:=⟨Tryz.f188.name,by decide,Tryz.func188.trans (congrArg some (by kernel_rfl))⟩
 t0:=Tryz.underlying0
 a0:=Tryz.isAgg0
 z0:=Tryz.sizeOf0
 v0:=Tryz.zeroValue0
 t3:=Tryz.underlying3
 a3:=Tryz.isAgg3
 z3:=Tryz.sizeOf3
 v3:=Tryz.zeroValue3
 t4:=Tryz.underlying4
 a4:=Tryz.isAgg4
 z4:=Tryz.sizeOf4
 v4:=Tryz.zeroValue4
 t9:=Tryz.underlying9
 a9:=Tryz.isAgg9
 z9:=Tryz.sizeOf9
 v9:=Tryz.zeroValue9
 t20:=Tryz.underlying20
 a20:=Tryz.isAgg20
 z20:=Tryz.sizeOf20
 v20:=Tryz.zeroValue20
 t22:=Tryz.underlying32
 a22:=Tryz.isAgg32
 z22:=Tryz.sizeOf32
 v22:=Tryz.zeroValue32 }
end Go.Proofs
namespace Go.Proofs.YtoebmibmmlcfiaaGreatDoor
open Go.RowKit Go.Ab Go.Sh Go.Proofs
theorem Tryz.mo:Tryz.prog.follows .mixedOrders=true:=by kernel_rfl
theorem named {s:String} (h:(Tryz.prog.globalNamed s).isSome=true):Tryz.prog.globalNamed s≠none:=fun e=>by rw [e] at h;cases h
theorem sZ (n:Int) (r:ak) (H:iw n=some r):br Tryz.prog 151 [.int .i64 n] (.str r):=IC Tryz.laysM171 (named (by kernel_rfl)) n r H
theorem s9 (s:ak) (r:Int×Bool) (H:lr s=some r):br Tryz.prog 145 [.str s] (.tup [.int .i64 r.1,ua (Tryz.laysC172_ren.t 168) r.2]):=Gg Tryz.laysC172 (named (by kernel_rfl)) (named (by kernel_rfl)) s r H
theorem CU (xs:List ak) (sep:ak) (r:ak) (H:tH xs sep=some r):br Tryz.prog 179 [.dslice (xs.map iU),.str sep] (.str r):=HS Tryz.lays156 Tryz.Builder_Extra_156 xs sep r H
theorem BS (s sep:ak) (r:List ak) (H:rZ s sep=some r):br Tryz.prog 134 [.str s,.str sep] (.dslice (r.map iU)):=Fy Tryz.lays146 (by kernel_rfl) (by kernel_rfl) s sep r H
theorem C3 (s cut:ak) (r:ak) (H:qx s cut=some r):br Tryz.prog 139 [.str s,.str cut] (.str r):=Gu Tryz.lays160 (fun w=>nQ (show zeroOf Tryz.prog 223=some (.agg (Array.replicate 256 (.bool false))) from by kernel_rfl)) (by kernel_rfl) s cut r H
theorem s5 (xs r:List ak) (H:iT xs=some r):bg Tryz.prog 99 [.rslice 1000] [(1000,.row 9 1 (xs.map iU))] (fun v h=>v = .tup []∧h=[(1000,.row 9 1 (r.map iU))]):=Dg Tryz.lays190 xs r H
end Go.Proofs.YtoebmibmmlcfiaaGreatDoor
namespace Go.Sh
open Go.Sort Go.Proofs
theorem ur:∀ x:ak,Op.bytesLess x x=false
 | []=>rfl
 | a::x=>by simp [Op.bytesLess,ur x]
theorem yS:∀ x y:ak,x<y↔Op.bytesLess x y=true
 | x,[]=>by simp [Op.bytesLess]
 | [],b::y=>by simp [Op.bytesLess]
 | a::x,b::y=>by rw [List.cons_lt_cons_iff,yS x y];simp only [Op.bytesLess,Bool.or_eq_true,Mm,decide_eq_true_eq,beq_iff_eq]
theorem tN {x y z:ak} (h1:Op.bytesLess x y=true) (h2:Op.bytesLess y z=true):Op.bytesLess x z=true :=
 (yS x z).1 (List.lt_trans ((yS x y).2 h1) ((yS y z).2 h2))
theorem zN (x y:ak):Op.bytesLess x y=true∨x=y∨Op.bytesLess y x=true:=by
 rcases Bool.eq_false_or_eq_true (Op.bytesLess x y) with h | h
 ·exact .inl h
 ·rcases Bool.eq_false_or_eq_true (Op.bytesLess y x) with h' | h'
  ·exact .inr (.inr h')
  ·refine .inr (.inl ?_);have h1:¬ x<y:=fun e=>by rw [yS,h] at e;cases e
   have h2:¬ y<x:=fun e=>by rw [yS,h'] at e;cases e
   exact List.le_antisymm (List.not_lt.1 h2) (List.not_lt.1 h1)
def mf (x y:ak):Int:=if Op.bytesLess x y=true then -1 else if Op.bytesLess y x=true then 1 else 0
theorem xn {x y:ak}:mf x y<0↔Op.bytesLess x y=true:=by
 unfold mf;repeat' split
 all_goals simp_all
end Go.Sh
namespace Go.Ab
open Go.RowKit Go.Sh Go.Proofs Go.Sort Go.Shelf
section
variable {P:Program} {α:Type}
def om (cf:α→α→Int) (xs:List α):List α:=wB xs fun x y => !(ltOf cf y x)
theorem E5 (cf:α→α→Int) (xs:List α):(om cf xs).length=xs.length:=za ..
theorem qy {β:Type} {cf:α→α→Int} (h:SWO (ltOf cf)) (f:β→α):SWO (ltOf fun x y=>cf (f x) (f y)) where
 irrefl x:=h.irrefl (f x)
 trans x y z:=h.trans (f x) (f y) (f z)
 ntrans x y z:=h.ntrans (f x) (f y) (f z)
theorem DX (enc:α→List Value) (k:Nat) (w:World) (blk off m:Nat) (dk:Array α) (os:Array Obj) {b:Nat} (hb:b≠blk) (hlt:b<w.heap.size) [Inhabited α]:(sortWorldK enc k w blk off m dk os).heap[b]? = w.heap[b]? := by simp only [sortWorldK,grow,putRowK,putRow,mapBlock,Sort.ahead];rw [Array.getElem?_append_left (by simpa using hlt),Array.getElem?_modify,if_neg (Ne.symm hb)]
theorem K5 (enc:α→List Value) (k:Nat) (w:World) (blk off m:Nat) (dk:Array α) (os:Array Obj) {cur:Array Value} {e:TypeId} (h:w.heap[blk]? = some (.cells cur e (0,0))) [Inhabited α] :
 (sortWorldK enc k w blk off m dk os).heap[blk]? = some (.cells (putCells id off (flatK enc k dk) cur) e (0,0)):=by
 have hlt:blk<w.heap.size:=(Array.getElem?_eq_some_iff.1 h).1;simp only [sortWorldK,grow,putRowK,putRow,mapBlock,Sort.ahead];rw [Array.getElem?_append_left (by simpa using hlt),Array.getElem?_modify,if_pos rfl,h];rfl
theorem pN (e:TypeId) (sz:Nat) (zs:List (List AV)) (k:Nat):lk AO.gone [(1000,AO.row e sz zs)] k=if k=1000 then .row e sz zs else .gone:=by
 simp only [lk];by_cases e:k=1000
 ·subst e;simp
 ·rw [cW e];simp [e]
theorem oZ {e:TypeId} {sz:Nat} {zs:List (List AV)} {k:Nat} (h:lv [(1000,AO.row e sz zs)] k):k=1000∧zs≠[]:=by
 rcases h with h | ⟨m,i,_,h⟩
 ·rw [pN] at h;by_cases e:k=1000
  ·subst e;rw [if_pos rfl] at h;exact ⟨rfl,h⟩
  ·rw [if_neg e] at h;exact h.elim
 ·rw [pN] at h;by_cases e:m=1000
  ·rw [if_pos e] at h;exact h.elim
  ·rw [if_neg e] at h;exact h.elim
set_option maxHeartbeats 1000000 in
theorem qV {f:FuncId} {et:TypeId} {sz:Nat} (c:α→List AV) (hc:∀ x,(c x).length=sz) (h1c:∀ x,∀ v∈c x,v.one=true) (cf:α→α→Int) (hO:SWO (ltOf cf))
 (g:FuncId)
 (hS:∀ {β:Type} [Inhabited β] (enc:β→List Value),(∀ x,(enc x).length=sz)→(∀ x,∀ v∈enc x,v.oneCell'=true)→∀ (cf:β→β→Int),SWO (ltOf cf)→∀ (blk cap:Nat) (d:Array β) (w:World),CmpLays P g #[] enc sz cf blk 0 d.size w→HoldsK enc sz w blk 0 d→blk<w.heap.size→d.size<4611686018427387904 →
  Calls P f #[.slice (some ⟨blk,0,none⟩) d.size cap,.func (.func g) #[] #[]] w fun e w'=>e = .returned (.tuple #[])∧∃ d' n os,PermIn 0 d.size d d'∧SortedIn (ltOf cf) 0 d.size d'∧w'=sortWorldK enc sz w blk 0 n d' os)
 (hS0:∀ (ad:Option Addr) (w:World),Calls P f #[.slice ad 0 0,.func (.func g) #[] #[]] w fun e w'=>e = .returned (.tuple #[])∧w'=w)
 (hgc:∀ (W:World) (X:Nat→Prop) (x y:α) (A B:Array Value),D W X (.agg (c x)) (.agg A)→D W X (.agg (c y)) (.agg B)→Calls P g #[.agg A,.agg B] W fun e w'=>e = .returned (.int .i64 (cf x y))∧∃ q os',w'=grow (W.drewN q) os')
 (xs:List α) (hn:xs.length<4611686018427387904) (hnd:∀ i j (hi:i<xs.length) (hj:j<xs.length),ltOf cf xs[i] xs[j]=false→ltOf cf xs[j] xs[i]=false→i=j) :
 bg P f [.rslice 1000,.fn g []] [(1000,.row et sz (xs.map c))] (fun v h=>v = .tup []∧h=[(1000,.row et sz ((om cf xs).map c))]):=by
 have hlen:(om cf xs).length=xs.length:=E5 cf xs;intro cx vs hl hr hg;have hv:vs=[vs.getD 0 undef,vs.getD 1 undef]:=IJ (by simpa using hl);have h0:G cx.W (cx.XX [(1000,.row et sz (xs.map c))] cx.β) cx.β cx.κ (.rslice 1000) (vs.getD 0 undef):=hg 0 (by simp);have h9:G cx.W (cx.XX [(1000,.row et sz (xs.map c))] cx.β) cx.β cx.κ (.fn g []) (vs.getD 1 undef):=hg 1 (by simp);obtain ⟨Vs,eV,hVl,_⟩:=h9.fn_inv;have eVs:Vs = #[]:=Array.size_eq_zero_iff.1 (by simpa using hVl.symm);subst eVs;have ho:HO cx.W (cx.XX [(1000,.row et sz (xs.map c))] cx.β) cx.β cx.κ 1000 (.row et sz (xs.map c)):=hr.ob 1000;have hk2:(cx.κ 1000).2=xs.length:=by simpa using ho.1
 rw [hv,eV];rcases h0.rslice_inv with ⟨hpos,hV⟩ | ⟨hz,ad,hV⟩
 ·have hne:xs≠[]:=by intro e;subst e;rw [hk2] at hpos;simp at hpos
  have hpos:0<xs.length:=List.length_pos_iff.2 hne;obtain ⟨cur,q1,q2,q3,q4,q5,q6,q7⟩:=ho.2 (by simpa using hne);simp only [Mt] at q3 q7;have hblk:cx.β 1000<cx.W.heap.size:=(Array.getElem?_eq_some_iff.1 q1).1;have hcs:xs.length*sz≤cur.size:=by rw [q2];exact Nat.mul_le_mul_right _ q3
  have hXb:cx.XX [(1000,.row et sz (xs.map c))] cx.β (cx.β 1000):=.inr ⟨1000,.inl (by rw [pN,if_pos rfl];simpa [AO.live] using hne),rfl⟩
  letI:Inhabited (Fin xs.length):=⟨⟨0,hpos⟩⟩
  obtain ⟨enc,henc⟩:∃ enc:Fin xs.length→List Value,enc=fun i=>(List.range sz).map fun j=>cur.getD (i.1*sz+j) undef:=⟨_,rfl⟩;have hk:∀ x,(enc x).length=sz:=fun x=>by rw [henc];simp
  have hget:∀ x j,j<sz→(enc x)[j]! = cur.getD (x.1*sz+j) undef:=fun x j hj=>by rw [henc];simp [hj]
  have hgetD:∀ x j,j<sz→(enc x).getD j undef=cur.getD (x.1*sz+j) undef:=fun x j hj=>by rw [henc];simp [Mk,hj]
  have hq7:∀ (x:Fin xs.length) j,j<sz→D cx.W (cx.XX [(1000,.row et sz (xs.map c))] cx.β) ((c xs[x.1]).getD j .any) ((enc x).getD j undef):=fun x j hj=>by
   have:=q7 x.1 j x.2 hj;rw [fj (d:=xs[x.1]) x.2] at this;rw [hgetD x j hj];have e:xs.getD x.1 xs[x.1]=xs[x.1]:=by simp [Mk]
   rwa [e] at this
  obtain ⟨d,hd⟩:∃ d:Array (Fin xs.length),d=(List.finRange xs.length).toArray:=⟨_,rfl⟩;have hds:d.size=xs.length:=by rw [hd];simp
  have hdg:∀ i (h:i<xs.length),d[i]! = ⟨i,h⟩:=fun i h=>by rw [hd];simp [h]
  have hflat:∀ (dk:Array (Fin xs.length)) i j,i<dk.size→j<sz→(flatK enc sz dk)[i*sz+j]! = cur.getD (dk[i]!.1*sz+j) undef:=fun dk i j hi hj=>by
   have h2:(i+1)*sz≤dk.size*sz:=Nat.mul_le_mul_right _ hi;rw [Nat.add_mul] at h2;rw [get_flatK _ _ _ _ (by omega)];have e1:(i*sz+j) / sz=i:=by rw [Nat.mul_comm,Nat.mul_add_div q5,Nat.div_eq_of_lt hj];rfl
   have e2:(i*sz+j) % sz=j:=by rw [Nat.mul_comm,Nat.mul_add_mod,Nat.mod_eq_of_lt hj]
   rw [e1,e2,hget _ _ hj]
  have hH:HoldsK enc sz cx.W (cx.β 1000) 0 d:=by intro t ht;rw [size_flatK,hds] at ht;have h2:=Nat.div_add_mod t sz;have hj:t % sz<sz:=Nat.mod_lt _ q5;have hi:t / sz<xs.length:=Nat.div_lt_of_lt_mul (by rw [Nat.mul_comm];exact ht);refine ⟨?_,by simp [World.frozen?,q1]⟩;rw [Nat.zero_add,cJ q1 (by omega)];have:=hflat d (t / sz) (t % sz) (by rw [hds];exact hi) hj;rw [hdg _ hi,show t / sz*sz+t % sz=t by rw [Nat.mul_comm];exact h2] at this;rw [this];rfl
  have hone:∀ x,∀ v∈enc x,v.oneCell'=true:=fun x v hv=>by
   obtain ⟨j,hj,e⟩:=List.getElem_of_mem hv;have hj':j<sz:=by rw [hk] at hj;exact hj
   have:=hq7 x j hj';have e2:(enc x).getD j undef=v:=by rw [Mk,Ml hj,e];rfl
   rw [e2] at this;refine this.one (h1c xs[x.1] _ ?_);rw [Mk,Ml (by rw [hc];exact hj')];exact List.getElem_mem _
  have hmono:∀ m dk os {v:AV} {V:Value},D cx.W (cx.XX [(1000,.row et sz (xs.map c))] cx.β) v V→D (sortWorldK enc sz cx.W (cx.β 1000) 0 m dk os) (cx.XX [(1000,.row et sz (xs.map c))] cx.β) v V:=fun m dk os v V h =>
   h.mono (fun b hb hlt=>DX enc sz cx.W (cx.β 1000) 0 m dk os (fun e=>hb (e ▸ hXb)) hlt) (fun b hb _=>hb)
  have hcmp:CmpLays P g #[] enc sz (fun i j=>cf xs[i.1] xs[j.1]) (cx.β 1000) 0 d.size cx.W:=by
   intro m os dk _ x y;rw [Array.append_empty];refine hgc _ (cx.XX [(1000,.row et sz (xs.map c))] cx.β) _ _ _ _ ?_ ?_
   ·refine .agg _ _ (by simp [hc,hk]) fun j hj=>hmono m dk os ?_;rw [hc] at hj;simpa [Mn,Mk] using hq7 x j hj
   ·refine .agg _ _ (by simp [hc,hk]) fun j hj=>hmono m dk os ?_;rw [hc] at hj;simpa [Mn,Mk] using hq7 y j hj
  have hkey:=hS enc hk hone (fun i j=>cf xs[i.1] xs[j.1]) (qy hO fun i:Fin xs.length=>xs[i.1]) (cx.β 1000) (cx.κ 1000).1 d cx.W hcmp hH hblk (by omega);have hT:∀ x y:Fin xs.length,ltOf (fun i j:Fin xs.length=>cf xs[i.1] xs[j.1]) x y=false→ltOf (fun i j:Fin xs.length=>cf xs[i.1] xs[j.1]) y x=false→x=y:=fun x y h h'=>Fin.ext (hnd x.1 y.1 x.2 y.2 h h');rw [hds] at hkey;rw [hV,hk2];refine hkey.mono fun e w' ⟨e1,d',n',os,hp,hs,e2⟩ => ?_;have hu:=sorted_unique_holds (qy hO fun i:Fin xs.length=>xs[i.1]) hT d d' (by rw [hds];exact hp) (by rw [hds];exact hs);obtain ⟨ds,hds0⟩:∃ ds,ds=d'.toList:=⟨_,rfl⟩;have e3:d'=ds.toArray:=by rw [hds0]
  rw [e3] at e2;have hds2:ds=d.toList.mergeSort fun x y => !(ltOf (fun i j:Fin xs.length=>cf xs[i.1] xs[j.1])) y x:=by rw [hds0];exact hu
  have hdl:ds.length=xs.length:=by rw [hds2,List.length_mergeSort,Array.length_toList,hds]
  have hmap:ds.map (fun i:Fin xs.length=>xs[i.1]'i.2)=om cf xs:=by have hm:=List.map_mergeSort (r:=fun x y => !(ltOf (fun i j:Fin xs.length=>cf (xs[i.1]'i.2) (xs[j.1]'j.2)) y x)) (s:=fun x y => !(ltOf cf y x)) (f:=fun i:Fin xs.length=>xs[i.1]'i.2) (l:=d.toList) (fun a _ b _=>rfl);rw [hds2,hm];unfold om;rw [tr];congr 1;rw [hd];refine List.ext_getElem (by simp) fun i h1 h2=>by simp
  subst e2;have hblk2:=K5 enc sz cx.W (cx.β 1000) 0 n' ds.toArray os q1;obtain ⟨cur',hcur'⟩:∃ cur',cur'=putCells id 0 (flatK enc sz ds.toArray) cur:=⟨_,rfl⟩;rw [← hcur'] at hblk2;have hcs':cur'.size=cur.size:=by rw [hcur'];simp [putCells]
  have hnK:¬ cx.K (cx.β 1000):=hr.nk 1000 (.inl (by rw [pN,if_pos rfl];simpa [AO.live] using hne));have hX2:∀ b,¬ cx.XX [(1000,.row et sz (xs.map c))] cx.β b→¬ cx.XX [(1000,.row et sz ((om cf xs).map c))] cx.β b:=by
   rintro b hb (hx | ⟨k,hk,rfl⟩)
   ·exact hb (.inl hx)
   ·obtain ⟨rfl,_⟩:=oZ hk;exact hb hXb
  refine ⟨_,.tup [],[(1000,.row et sz ((om cf xs).map c))],cx.β,cx.κ,e1,⟨rfl,rfl⟩,⟨fun k => ?_,fun i j hi hj _ => ?_,⟨rfl,rfl,rfl,?_,fun b hb=>DX enc sz cx.W (cx.β 1000) 0 n' ds.toArray os (fun e=>hnK (e ▸ hb)) (cx.hK b hb)⟩,fun k hk => ?_,fun k hk => ?_,fun k hk _=>⟨rfl,rfl⟩,fun k hk => ?_⟩,.d (.tup _ _ rfl (fun i hi=>by simp at hi))⟩
  ·rw [pN];by_cases ek:k=1000
   ·subst ek;rw [if_pos rfl];refine ⟨by simp [hk2,hlen],fun _=>⟨cur',hblk2,by rw [hcs',q2],by simpa [hlen] using q3,q4,q5,fun i hi => ?_,fun i j hi hj => ?_⟩⟩
    ·have hi:i<(om cf xs).length:=by simpa using hi
     rw [fj (d:=xs[0]) hi,hc]
    ·have hi:i<(om cf xs).length:=by simpa using hi
     rw [fj (d:=xs[0]) hi];have hi':i<ds.length:=by omega
     have e3:(om cf xs).getD i xs[0]=xs[ds[i].1]:=by rw [Mk,← hmap];simp [hi']
     have e4:cur'.getD (i*sz+j) undef=cur.getD (ds[i].1*sz+j) undef:=by
      have h2:(i+1)*sz≤xs.length*sz:=Nat.mul_le_mul_right _ (by omega);rw [Nat.add_mul] at h2;have hlt:i*sz+j<cur.size:=by omega
      have h3:=hflat ds.toArray i j (by simpa using hi') hj;have h4:(ds.toArray[i]! : Fin xs.length)=ds[i]:=by simp [hi']
      rw [h4] at h3;rw [← h3,hcur'];simp [putCells,Mn,hlt,hdl];omega
     rw [e3,e4,← hgetD _ _ hj];exact (hmono n' ds.toArray os (hq7 ds[i] j hj)).mono (fun _ _ _=>rfl) fun b hb _=>hX2 b hb
   ·rw [if_neg ek];trivial
  ·rw [(oZ hi).1,(oZ hj).1]
  ·simp [sortWorldK,putRowK,putRow,mapBlock,grow,Sort.ahead]
  ·obtain ⟨rfl,_⟩:=oZ hk;exact hnK
  ·obtain ⟨rfl,_⟩:=oZ hk;exact hr.nx 1000 (.inl (by rw [pN,if_pos rfl];simpa [AO.live] using hne))
  ·rw [pN] at hk;by_cases ek:k=1000
   ·omega
   ·rw [if_neg ek] at hk;exact absurd rfl hk
 ·have hx:xs=[]:=List.eq_nil_of_length_eq_zero (by omega);subst hx;rw [hV];refine (hS0 ad cx.W).mono fun e w' ⟨e1,e2⟩ => ?_;subst e2;exact ⟨_,.tup [],[(1000,.row et sz (([]:List α).map c))],cx.β,cx.κ,e1,⟨rfl,rfl⟩,hr,.d (.tup _ _ rfl (fun i hi=>by simp at hi))⟩
end
end Go.Ab
namespace Go.Proofs
open Go.Shelf
def Tryz.lays106_ren:Go.Shelf.Ren:=⟨fun | 106=>52 | 213=>102 | 265=>161 | n=>n,fun | 9=>9 | 3=>3 | n=>n,fun | n=>n⟩
theorem Tryz.lays106:Go.Proofs.Lays.n106 Tryz.prog Tryz.lays106_ren:={
 mixed:=by kernel_rfl
 f106:=Tryz.func52.trans (congrArg some (by kernel_rfl))
 f213:=Tryz.func102.trans (congrArg some (by kernel_rfl))
 f265:=Tryz.func161.trans (congrArg some (by kernel_rfl))
 t3:=Tryz.underlying3
 a3:=Tryz.isAgg3
 z3:=Tryz.sizeOf3
 v3:=Tryz.zeroValue3
 t9:=Tryz.underlying9
 a9:=Tryz.isAgg9
 z9:=Tryz.sizeOf9
 v9:=Tryz.zeroValue9 }
def Tryz.lays2_26_ren:Go.Shelf.Ren:=⟨fun | 26=>50 | 33=>100 | 34=>101 | 38=>160 | n=>n,fun | 24=>112 | 9=>9 | 3=>3 | 4=>4 | 40=>123 | 0=>0 | n=>n,fun | n=>n⟩
theorem Tryz.lays2_26:Go.Proofs.Lays2.n26 Tryz.prog Tryz.lays2_26_ren:={
 mixed:=by kernel_rfl
 f26:=Tryz.func50.trans (congrArg some (by kernel_rfl))
 f33:=Tryz.func100.trans (congrArg some (by kernel_rfl))
 f34:=Tryz.func101.trans (congrArg some (by kernel_rfl))
 f38:=Tryz.func160.trans (congrArg some (by kernel_rfl))
 t0:=Tryz.underlying0
 a0:=Tryz.isAgg0
 z0:=Tryz.sizeOf0
 v0:=Tryz.zeroValue0
 t3:=Tryz.underlying3
 a3:=Tryz.isAgg3
 z3:=Tryz.sizeOf3
 v3:=Tryz.zeroValue3
 t4:=Tryz.underlying4
 a4:=Tryz.isAgg4
 z4:=Tryz.sizeOf4
 v4:=Tryz.zeroValue4
 t9:=Tryz.underlying9
 a9:=Tryz.isAgg9
 z9:=Tryz.sizeOf9
 v9:=Tryz.zeroValue9
 t24:=Tryz.underlying112
 a24:=Tryz.isAgg112
 z24:=Tryz.sizeOf112
 v24:=Tryz.zeroValue112
 t40:=Tryz.underlying123
 a40:=Tryz.isAgg123
 z40:=Tryz.sizeOf123
 v40:=Tryz.zeroValue123 }
def Tryz.lays125_ren:Go.Shelf.Ren:=⟨fun | 125=>59 | 128=>119 | 129=>120 | n=>n,fun | 46=>123 | 3=>3 | 51=>169 | 53=>171 | 4=>4 | 5=>5 | 9=>9 | n=>n,fun | n=>n⟩
theorem Tryz.lays125:Go.Proofs.Lays.n125 Tryz.prog Tryz.lays125_ren:={
 mixed:=by kernel_rfl
 f125:=Tryz.func59.trans (congrArg some (by kernel_rfl))
 f128:=Tryz.func119.trans (congrArg some (by kernel_rfl))
 f129:=Tryz.func120.trans (congrArg some (by kernel_rfl))
 t3:=Tryz.underlying3
 a3:=Tryz.isAgg3
 z3:=Tryz.sizeOf3
 v3:=Tryz.zeroValue3
 t4:=Tryz.underlying4
 a4:=Tryz.isAgg4
 z4:=Tryz.sizeOf4
 v4:=Tryz.zeroValue4
 t5:=Tryz.underlying5
 a5:=Tryz.isAgg5
 z5:=Tryz.sizeOf5
 v5:=Tryz.zeroValue5
 t9:=Tryz.underlying9
 a9:=Tryz.isAgg9
 z9:=Tryz.sizeOf9
 v9:=Tryz.zeroValue9
 t46:=Tryz.underlying123
 a46:=Tryz.isAgg123
 z46:=Tryz.sizeOf123
 v46:=Tryz.zeroValue123
 t51:=Tryz.underlying169
 a51:=Tryz.isAgg169
 z51:=Tryz.sizeOf169
 v51:=Tryz.zeroValue169
 t53:=Tryz.underlying171
 a53:=Tryz.isAgg171
 z53:=Tryz.sizeOf171
 v53:=Tryz.zeroValue171 }
def Tryz.pdqB_ren:Go.Shelf.Ren:=⟨fun | 14=>58 | 20=>111 | 21=>112 | 22=>113 | 23=>114 | 24=>115 | 25=>116 | 26=>117 | 27=>118 | 46=>162 | 47=>163 | 48=>164 | 49=>165 | 50=>166 | 15=>59 | 57=>206 | 28=>119 | 29=>120 | n=>n,fun | 24=>62 | 22=>45 | 3=>3 | 25=>80 | 4=>4 | 0=>0 | 46=>163 | 45=>162 | 50=>114 | 66=>202 | 39=>123 | 55=>171 | 70=>206 | 76=>243 | 77=>232 | 53=>169 | 5=>5 | 9=>9 | n=>n,fun | n=>n⟩
theorem Tryz.pdqB:Go.Proofs.SlLaysF0.n14 Tryz.prog Tryz.pdqB_ren:={
 mixed:=by kernel_rfl
 f14:=⟨Tryz.f58.name,by decide,Tryz.func58.trans (congrArg some (by kernel_rfl))⟩
 f15:=Tryz.func59.trans (congrArg some (by kernel_rfl))
 f20:=⟨Tryz.f111.name,by decide,Tryz.func111.trans (congrArg some (by kernel_rfl))⟩
 f21:=⟨Tryz.f112.name,by decide,Tryz.func112.trans (congrArg some (by kernel_rfl))⟩
 f22:=⟨Tryz.f113.name,by decide,Tryz.func113.trans (congrArg some (by kernel_rfl))⟩
 f23:=⟨Tryz.f114.name,by decide,Tryz.func114.trans (congrArg some (by kernel_rfl))⟩
 f24:=⟨Tryz.f115.name,by decide,Tryz.func115.trans (congrArg some (by kernel_rfl))⟩
 f25:=⟨Tryz.f116.name,by decide,Tryz.func116.trans (congrArg some (by kernel_rfl))⟩
 f26:=⟨Tryz.f117.name,by decide,Tryz.func117.trans (congrArg some (by kernel_rfl))⟩
 f27:=⟨Tryz.f118.name,by decide,Tryz.func118.trans (congrArg some (by kernel_rfl))⟩
 f28:=Tryz.func119.trans (congrArg some (by kernel_rfl))
 f29:=Tryz.func120.trans (congrArg some (by kernel_rfl))
 f46:=⟨Tryz.f162.name,by decide,Tryz.func162.trans (congrArg some (by kernel_rfl))⟩
 f47:=Tryz.func163.trans (congrArg some (by kernel_rfl))
 f48:=Tryz.func164.trans (congrArg some (by kernel_rfl))
 f49:=⟨Tryz.f165.name,by decide,Tryz.func165.trans (congrArg some (by kernel_rfl))⟩
 f50:=⟨Tryz.f166.name,by decide,Tryz.func166.trans (congrArg some (by kernel_rfl))⟩
 f57:=⟨Tryz.f206.name,by decide,Tryz.func206.trans (congrArg some (by kernel_rfl))⟩
 t0:=Tryz.underlying0
 a0:=Tryz.isAgg0
 z0:=Tryz.sizeOf0
 v0:=Tryz.zeroValue0
 t3:=Tryz.underlying3
 a3:=Tryz.isAgg3
 z3:=Tryz.sizeOf3
 v3:=Tryz.zeroValue3
 t4:=Tryz.underlying4
 a4:=Tryz.isAgg4
 z4:=Tryz.sizeOf4
 v4:=Tryz.zeroValue4
 t5:=Tryz.underlying5
 a5:=Tryz.isAgg5
 z5:=Tryz.sizeOf5
 v5:=Tryz.zeroValue5
 t9:=Tryz.underlying9
 a9:=Tryz.isAgg9
 z9:=Tryz.sizeOf9
 v9:=Tryz.zeroValue9
 t22:=Tryz.underlying45
 a22:=Tryz.isAgg45
 z22:=Tryz.sizeOf45
 v22:=Tryz.zeroValue45
 t25:=Tryz.underlying80
 a25:=Tryz.isAgg80
 z25:=Tryz.sizeOf80
 v25:=Tryz.zeroValue80
 t39:=Tryz.underlying123
 a39:=Tryz.isAgg123
 z39:=Tryz.sizeOf123
 v39:=Tryz.zeroValue123
 t45:=Tryz.underlying162
 a45:=Tryz.isAgg162
 z45:=Tryz.sizeOf162
 v45:=Tryz.zeroValue162
 t46:=Tryz.underlying163
 a46:=Tryz.isAgg163
 z46:=Tryz.sizeOf163
 v46:=Tryz.zeroValue163
 t50:=Tryz.underlying114
 a50:=Tryz.isAgg114
 z50:=Tryz.sizeOf114
 v50:=Tryz.zeroValue114
 t53:=Tryz.underlying169
 a53:=Tryz.isAgg169
 z53:=Tryz.sizeOf169
 v53:=Tryz.zeroValue169
 t55:=Tryz.underlying171
 a55:=Tryz.isAgg171
 z55:=Tryz.sizeOf171
 v55:=Tryz.zeroValue171
 t66:=Tryz.underlying202
 a66:=Tryz.isAgg202
 z66:=Tryz.sizeOf202
 v66:=Tryz.zeroValue202
 t70:=Tryz.underlying206
 a70:=Tryz.isAgg206
 z70:=Tryz.sizeOf206
 v70:=Tryz.zeroValue206
 t76:=Tryz.underlying243
 a76:=Tryz.isAgg243
 z76:=Tryz.sizeOf243
 v76:=Tryz.zeroValue243
 t77:=Tryz.underlying232
 a77:=Tryz.isAgg232
 z77:=Tryz.sizeOf232
 v77:=Tryz.zeroValue232 }
def Tryz.pdqC_ren:Go.Shelf.Ren:=⟨fun | 14=>194 | 20=>232 | 21=>233 | 22=>234 | 23=>235 | 24=>236 | 25=>237 | 26=>238 | 27=>239 | 46=>263 | 47=>163 | 48=>164 | 49=>264 | 50=>265 | 15=>59 | 57=>283 | 28=>119 | 29=>120 | n=>n,fun | 24=>31 | 22=>27 | 3=>3 | 25=>194 | 4=>4 | 0=>0 | 46=>163 | 45=>162 | 50=>114 | 66=>202 | 39=>123 | 55=>171 | 70=>206 | 76=>243 | 77=>232 | 53=>169 | 5=>5 | 9=>9 | n=>n,fun | n=>n⟩
theorem Tryz.pdqC:Go.Proofs.SlLaysF0.n14 Tryz.prog Tryz.pdqC_ren:={
 mixed:=by kernel_rfl
 f14:=⟨Tryz.f194.name,by decide,Tryz.func194.trans (congrArg some (by kernel_rfl))⟩
 f15:=Tryz.func59.trans (congrArg some (by kernel_rfl))
 f20:=⟨Tryz.f232.name,by decide,Tryz.func232.trans (congrArg some (by kernel_rfl))⟩
 f21:=⟨Tryz.f233.name,by decide,Tryz.func233.trans (congrArg some (by kernel_rfl))⟩
 f22:=⟨Tryz.f234.name,by decide,Tryz.func234.trans (congrArg some (by kernel_rfl))⟩
 f23:=⟨Tryz.f235.name,by decide,Tryz.func235.trans (congrArg some (by kernel_rfl))⟩
 f24:=⟨Tryz.f236.name,by decide,Tryz.func236.trans (congrArg some (by kernel_rfl))⟩
 f25:=⟨Tryz.f237.name,by decide,Tryz.func237.trans (congrArg some (by kernel_rfl))⟩
 f26:=⟨Tryz.f238.name,by decide,Tryz.func238.trans (congrArg some (by kernel_rfl))⟩
 f27:=⟨Tryz.f239.name,by decide,Tryz.func239.trans (congrArg some (by kernel_rfl))⟩
 f28:=Tryz.func119.trans (congrArg some (by kernel_rfl))
 f29:=Tryz.func120.trans (congrArg some (by kernel_rfl))
 f46:=⟨Tryz.f263.name,by decide,Tryz.func263.trans (congrArg some (by kernel_rfl))⟩
 f47:=Tryz.func163.trans (congrArg some (by kernel_rfl))
 f48:=Tryz.func164.trans (congrArg some (by kernel_rfl))
 f49:=⟨Tryz.f264.name,by decide,Tryz.func264.trans (congrArg some (by kernel_rfl))⟩
 f50:=⟨Tryz.f265.name,by decide,Tryz.func265.trans (congrArg some (by kernel_rfl))⟩
 f57:=⟨Tryz.f283.name,by decide,Tryz.func283.trans (congrArg some (by kernel_rfl))⟩
 t0:=Tryz.underlying0
 a0:=Tryz.isAgg0
 z0:=Tryz.sizeOf0
 v0:=Tryz.zeroValue0
 t3:=Tryz.underlying3
 a3:=Tryz.isAgg3
 z3:=Tryz.sizeOf3
 v3:=Tryz.zeroValue3
 t4:=Tryz.underlying4
 a4:=Tryz.isAgg4
 z4:=Tryz.sizeOf4
 v4:=Tryz.zeroValue4
 t5:=Tryz.underlying5
 a5:=Tryz.isAgg5
 z5:=Tryz.sizeOf5
 v5:=Tryz.zeroValue5
 t9:=Tryz.underlying9
 a9:=Tryz.isAgg9
 z9:=Tryz.sizeOf9
 v9:=Tryz.zeroValue9
 t22:=Tryz.underlying27
 a22:=Tryz.isAgg27
 z22:=Tryz.sizeOf27
 v22:=Tryz.zeroValue27
 t25:=Tryz.underlying194
 a25:=Tryz.isAgg194
 z25:=Tryz.sizeOf194
 v25:=Tryz.zeroValue194
 t39:=Tryz.underlying123
 a39:=Tryz.isAgg123
 z39:=Tryz.sizeOf123
 v39:=Tryz.zeroValue123
 t45:=Tryz.underlying162
 a45:=Tryz.isAgg162
 z45:=Tryz.sizeOf162
 v45:=Tryz.zeroValue162
 t46:=Tryz.underlying163
 a46:=Tryz.isAgg163
 z46:=Tryz.sizeOf163
 v46:=Tryz.zeroValue163
 t50:=Tryz.underlying114
 a50:=Tryz.isAgg114
 z50:=Tryz.sizeOf114
 v50:=Tryz.zeroValue114
 t53:=Tryz.underlying169
 a53:=Tryz.isAgg169
 z53:=Tryz.sizeOf169
 v53:=Tryz.zeroValue169
 t55:=Tryz.underlying171
 a55:=Tryz.isAgg171
 z55:=Tryz.sizeOf171
 v55:=Tryz.zeroValue171
 t66:=Tryz.underlying202
 a66:=Tryz.isAgg202
 z66:=Tryz.sizeOf202
 v66:=Tryz.zeroValue202
 t70:=Tryz.underlying206
 a70:=Tryz.isAgg206
 z70:=Tryz.sizeOf206
 v70:=Tryz.zeroValue206
 t76:=Tryz.underlying243
 a76:=Tryz.isAgg243
 z76:=Tryz.sizeOf243
 v76:=Tryz.zeroValue243
 t77:=Tryz.underlying232
 a77:=Tryz.isAgg232
 z77:=Tryz.sizeOf232
 v77:=Tryz.zeroValue232 }
end Go.Proofs
namespace Go.Proofs.YtoebmibmmlcfiaaGreatDoor
open Go.RowKit Go.Ab Go.Sh Go.Proofs Go.Shelf Go.Sort
theorem DS:∀ x y:ak,Lib.compareBytes x y=mf x y
 | [],[]=>rfl
 | [],_::_=>rfl
 | _::_,[]=>rfl
 | a::x,b::y=>by
  have ih:=DS x y;simp only [Lib.compareBytes,mf,Op.bytesLess] at ih ⊢;by_cases h1:a<b
  ·simp [h1]
  ·by_cases h2:b<a
   ·have:(a==b)=false:=by
     cases h:a==b with
     | false=>rfl
     | true=>exact absurd (eq_of_beq h ▸ h2) (UInt8.lt_irrefl _)
    simp [h1,h2,this]
   ·have e:a=b:=by apply UInt8.toNat_inj.1;have q1:¬ a.toNat<b.toNat:=h1;have q2:¬ b.toNat<a.toNat:=h2;omega
    subst e;simp [h1,ih]
theorem r4 (x y:ak) (w:World):Calls Tryz.prog 52 #[.string ⟨x.toArray⟩,.string ⟨y.toArray⟩] w fun e w'=>e = .returned (.int .i64 (mf x y))∧w'=w:=by
 have h:=Any.strings_Compare Tryz.lays106 ⟨x.toArray⟩ ⟨y.toArray⟩ w
 rwa [DS] at h
def ry (x y:ak):Option Int:=some (mf x y)
theorem yq (x y:ak) (r:Int) (H:ry x y=some r):br Tryz.prog 52 [.str x,.str y] (.int .i64 r):=by unfold ry at H;refine bc H fun e => ?_;subst e;refine py rfl fun w X vs hl hX hd _ => ?_;have d0:=(show D w X (.str x) (vs.getD 0 undef) from hd 0 (by simp)).str_inv;have d1:=(show D w X (.str y) (vs.getD 1 undef) from hd 1 (by simp)).str_inv;rw [IJ (vs:=vs) (by simpa using hl),d0.1,d1.1];exact (r4 x y w).mono fun e w' ⟨a,b⟩=>by subst b;exact ⟨_,a,.refl _ _,.int _ _⟩
def rG (xs:List ak) (x:ak):Nat:=Lib.bsGo (fun t=>Op.bytesLess (xs.getD t []) x) xs.length 0 xs.length
def jE (xs:List ak) (x:ak):Option (Int×Bool):=bX (xs.length<4611686018427387904) <| some ((rG xs x:Int),decide (rG xs x<xs.length)&&(xs.getD (rG xs x) []==x))
theorem Cp (w:World) (k:Nat):Below w.heap.size w (w.drewN k):=⟨rfl,rfl,rfl,Nat.le_refl _,fun b hb=>rfl⟩
def Ko (w:World) (p:Option Addr) (xs:List ak):Prop:=∀ k,k<xs.length→∃ b o,p=some ⟨b,o,none⟩∧w.cell? ⟨b,o+k,none⟩=some (.string ⟨(xs.getD k []).toArray⟩)
theorem D.texts {w:World} {X:Nat→Prop} {ks:List ak} {V:Value} (h:D w X (.dslice (ks.map iU)) V):∃ p cap,V = .slice p ks.length cap∧Ko w p ks∧ks.length≤9223372036854775807∧(∀ k,k<ks.length→(ks.getD k []).length≤maxLen):=by
 by_cases hx:ks=[]
 ·subst hx;generalize hL:([]:List ak).map iU=L at h;cases h with
  | dnil a c hc=>exact ⟨a,c,rfl,fun k hk=>absurd hk (Nat.not_lt_zero _),Nat.zero_le _,fun k hk=>absurd hk (Nat.not_lt_zero _)⟩
  | dslice _ b o c sz cv h1 h2 h3=>subst hL;exact ⟨_,_,rfl,fun k hk=>absurd hk (Nat.not_lt_zero _),Nat.zero_le _,fun k hk=>absurd hk (Nat.not_lt_zero _)⟩
 ·have hne:0<ks.length:=List.length_pos_iff.2 hx;generalize hL:ks.map iU=L at h;cases h with
  | dnil a c hc=>simp at hL;exact absurd hL hx
  | dslice _ b o c sz cv q1 q2 q0 q3 q4 q5 q6 =>
   subst hL;have hsz1:sz=1:=by
    have:=q4 0 (by simpa using hne);rw [← this];obtain ⟨x,ys,rfl⟩:∃ x ys,ks=x::ys:=by
     cases ks with
     | nil=>simp at hne
     | cons x ys=>exact ⟨x,ys,rfl⟩
    rfl
   subst hsz1;have hcell:∀ j,j<ks.length→w.cell? ⟨b,o+j,none⟩=some (.string ⟨(ks.getD j []).toArray⟩)∧(ks.getD j []).length≤maxLen:=by
    intro j hj;have a1:=q5 j 0 (by simpa using hj) (by omega);have a2:=q6 j 0 (by simpa using hj) (by omega);have e1:(ks.map iU).getD j []=iU (ks.getD j []):=by simp [Mk,Ml hj]
    rw [e1] at a2;have a3:=(show D w X (.str (ks.getD j [])) (cv j 0) from a2).str_inv;rw [show o+(j*1+0)=o+j by omega,a3.1] at a1;exact ⟨a1,a3.2⟩
   have hm:maxLen=9223372036854775807:=by decide
   rw [Mt] at q1;refine ⟨some ⟨b,o,none⟩,c,by rw [Mt],fun k hk=>⟨b,o,rfl,(hcell k hk).1⟩,by omega,fun k hk=>(hcell k hk).2⟩
theorem LJ (x y:ak):((⟨x.toArray⟩:ByteArray)=⟨y.toArray⟩)↔x=y:=by
 constructor
 ·intro h;have:=congrArg ByteArray.data h;simpa using this
 ·rintro rfl;rfl
theorem yo (xs:List ak) (x:ak) (r:Int×Bool) (H:jE xs x=some r):br Tryz.prog 50 [.dslice (xs.map iU),.str x] (.tup [.int .i64 r.1,.bool r.2]):=by
 unfold jE at H;refine aP H fun hn H => ?_;refine bc H fun e => ?_;subst e;refine py rfl fun w X vs hl hX hd _ => ?_;have d0:D w X (.dslice (xs.map iU)) (vs.getD 0 undef):=hd 0 (by simp);have d1:=(show D w X (.str x) (vs.getD 1 undef) from hd 1 (by simp)).str_inv;obtain ⟨p,cap,e1,e2,e3,e4⟩:=D.texts d0;rw [IJ (vs:=vs) (by simpa using hl),d1.1,e1];have key:∀ (b:Bool) (n:Nat),D w X (.tup [.int .i64 (n:Int),.bool b]) (.tuple #[.int .i64 (n:Int),.bool b]):=fun b n=>by
  refine .tup _ _ rfl fun j hj => ?_;match j,hj with
  | 0,_=>exact .int _ _
  | 1,_=>exact .bool _
  | (k+2),hj=>simp at hj;omega
 by_cases hx:xs=[]
 ·subst hx;exact (Any2.slices_BinarySearch_string_empty Tryz.lays2_26 p cap ⟨x.toArray⟩ w).mono fun e w' ⟨a,b⟩=>by subst b;exact ⟨_,a,.refl _ _,key false 0⟩
 ·have hne:0<xs.length:=List.length_pos_iff.2 hx;obtain ⟨b,o,rfl,_⟩:=e2 0 hne;have hc:∀ j,j<xs.length→w.cell? ⟨b,o+j,none⟩=some (.string ⟨(xs.getD j []).toArray⟩):=fun j hj=>by obtain ⟨b',o',h1,h2⟩:=e2 j hj;cases h1;exact h2
  refine (Any2.slices_BinarySearch_string Tryz.lays2_26 b o xs.length cap (fun j=>⟨(xs.getD j []).toArray⟩) ⟨x.toArray⟩ w hn hc).mono fun e w' ⟨a,q,h⟩ => ?_;subst h;refine ⟨_,a,Cp w q,?_⟩;have hb:=key (decide (rG xs x<xs.length)&&(xs.getD (rG xs x) []==x)) (rG xs x);have e5:(decide (rG xs x<xs.length∧(⟨(xs.getD (rG xs x) []).toArray⟩:ByteArray)=⟨x.toArray⟩))=(decide (rG xs x<xs.length)&&(xs.getD (rG xs x) []==x)):=by rw [Bool.eq_iff_iff];simp only [decide_eq_true_eq,Mm,beq_iff_eq,LJ]
  simp only [toList_mk];show D (w.drewN q) X _ (.tuple #[.int .i64 (rG xs x:Nat),.bool (decide (rG xs x<xs.length∧(⟨(xs.getD (rG xs x) []).toArray⟩:ByteArray)=⟨x.toArray⟩))]);rw [e5];exact D.mono (w:=w) (w':=w.drewN q) (fun b _ hb=>rfl) (fun b hb _=>hb) hb
set_option maxHeartbeats 2000000 in
set_option maxRecDepth 100000 in
theorem DA {β:Type} [Inhabited β] (enc:β→List Value) (hk:∀ x,(enc x).length=7) (h1:∀ x,∀ v∈enc x,v.oneCell'=true) (cf:β→β→Int) (hO:SWO (ltOf cf)) (blk cap:Nat) (d:Array β) (w:World)
 (hcmp:CmpLays Tryz.prog 51 #[] enc 7 cf blk 0 d.size w) (hH:HoldsK enc 7 w blk 0 d) (hblk:blk<w.heap.size) (hsz:d.size<4611686018427387904) :
 Calls Tryz.prog 26 #[.slice (some ⟨blk,0,none⟩) d.size cap,.func (.func 51) #[] #[]] w fun e w'=>e = .returned (.tuple #[])∧∃ d' n os,PermIn 0 d.size d d'∧SortedIn (ltOf cf) 0 d.size d'∧w'=sortWorldK enc 7 w blk 0 n d' os:=by
 have aE:∀ w,(isAgg 62).run Tryz.prog w = .ok true w:=fun w=>Go.Ab.run_isAgg (by kernel_rfl);have zE:∀ w,(Go.sizeOf 62).run Tryz.prog w = .ok 7 w:=fun w=>Go.Ab.run_sizeOf (by kernel_rfl);have eg:∀ args w,(callFunc 51 args).run Tryz.prog w = .ok (.enter 51 args) w:=enters_of Tryz.func51 (by kernel_rfl) rfl;have hlim:Lib.bitLen d.size<4611686018427387904:=Nat.lt_of_le_of_lt (Lib.bitLen_le d.size 62 (by omega) (by omega)) (by omega);have hp:=AnyQ.pdqsortCmpFunc_all Tryz.pdqB 7 aE zE enc cf 51 #[] hO blk 0 cap d w eg hcmp ⟨hk,h1,hH,hblk⟩ (d.size+1) 0 d.size (Lib.bitLen d.size) d w (by omega) rfl (SWK.start hH) (Nat.zero_le _) (Nat.le_refl _) hsz hlim (Or.inl rfl);change Calls Tryz.prog 58 _ _ _ at hp;have hl:Calls Tryz.prog 59 #[.int .u64 (d.size:Int)] w fun e w'=>e = .returned (.int .i64 (Lib.bitLen d.size:Nat))∧w'=w:=by
  have h:=Any.bits_Len Tryz.lays125 (d.size:Int) w (by omega) (by omega)
  rwa [Int.toNat_natCast] at h
 have wr:IntKind.u64.wrap (d.size:Int)=d.size:=by simp [IntKind.wrap,IntKind.bits,IntKind.signed];omega
 have hsrt:=pdq_sorts (ltOf cf) hO d 0 d.size (Lib.bitLen d.size) true true (Nat.zero_le _) (Nat.le_refl _) (Or.inl rfl);generalize pdq (ltOf cf) d 0 d.size (Lib.bitLen d.size) true true=d' at hp hsrt;clear hH hcmp hk h1
 go_enter Tryz.func26,Tryz.ntmps26
 go_wp2_with (first | (go_at_call 59;refine hl.mono ?_;rintro e w' ⟨rfl,rfl⟩) | (go_at_call 58;refine hp.mono ?_;rintro e w' ⟨rfl,n,os,rfl⟩))
 go_end0
 exact ⟨rfl,d',n,os,hsrt.1,hsrt.2,rfl⟩
set_option maxHeartbeats 2000000 in
theorem vK (p:Option Addr) (w:World):Calls Tryz.prog 26 #[.slice p 0 0,.func (.func 51) #[] #[]] w fun e w'=>e = .returned (.tuple #[])∧w'=w:=by
 have hp:=fun lim W=>AnyF.pdqsortCmpFunc_none Tryz.pdqB p 0 lim (.func (.func 51) #[] #[]) W;change ∀ lim W,Calls Tryz.prog 58 _ _ _ at hp;have hl:∀ W,Calls Tryz.prog 59 #[.int .u64 0] W fun e w'=>e = .returned (.int .i64 (Lib.bitLen 0:Nat))∧w'=W:=fun W=>Any.bits_Len Tryz.lays125 0 W (by omega) (by omega)
 go_enter Tryz.func26,Tryz.ntmps26
 go_wp2_with (first | (go_at_call 59;refine (hl _).mono ?_;rintro e w' ⟨rfl,rfl⟩) | (go_at_call 58;refine (hp _ _).mono ?_;rintro e w' ⟨rfl,rfl⟩))
 go_end0
 exact ⟨rfl,rfl⟩
set_option maxHeartbeats 2000000 in
set_option maxRecDepth 100000 in
theorem DD {β:Type} [Inhabited β] (enc:β→List Value) (hk:∀ x,(enc x).length=2) (h1:∀ x,∀ v∈enc x,v.oneCell'=true) (cf:β→β→Int) (hO:SWO (ltOf cf)) (blk cap:Nat) (d:Array β) (w:World)
 (hcmp:CmpLays Tryz.prog 155 #[] enc 2 cf blk 0 d.size w) (hH:HoldsK enc 2 w blk 0 d) (hblk:blk<w.heap.size) (hsz:d.size<4611686018427387904) :
 Calls Tryz.prog 154 #[.slice (some ⟨blk,0,none⟩) d.size cap,.func (.func 155) #[] #[]] w fun e w'=>e = .returned (.tuple #[])∧∃ d' n os,PermIn 0 d.size d d'∧SortedIn (ltOf cf) 0 d.size d'∧w'=sortWorldK enc 2 w blk 0 n d' os:=by
 have aE:∀ w,(isAgg 31).run Tryz.prog w = .ok true w:=fun w=>Go.Ab.run_isAgg (by kernel_rfl);have zE:∀ w,(Go.sizeOf 31).run Tryz.prog w = .ok 2 w:=fun w=>Go.Ab.run_sizeOf (by kernel_rfl);have eg:∀ args w,(callFunc 155 args).run Tryz.prog w = .ok (.enter 155 args) w:=enters_of Tryz.func155 (by kernel_rfl) rfl;have hlim:Lib.bitLen d.size<4611686018427387904:=Nat.lt_of_le_of_lt (Lib.bitLen_le d.size 62 (by omega) (by omega)) (by omega);have hp:=AnyQ.pdqsortCmpFunc_all Tryz.pdqC 2 aE zE enc cf 155 #[] hO blk 0 cap d w eg hcmp ⟨hk,h1,hH,hblk⟩ (d.size+1) 0 d.size (Lib.bitLen d.size) d w (by omega) rfl (SWK.start hH) (Nat.zero_le _) (Nat.le_refl _) hsz hlim (Or.inl rfl);change Calls Tryz.prog 194 _ _ _ at hp;have hl:Calls Tryz.prog 59 #[.int .u64 (d.size:Int)] w fun e w'=>e = .returned (.int .i64 (Lib.bitLen d.size:Nat))∧w'=w:=by
  have h:=Any.bits_Len Tryz.lays125 (d.size:Int) w (by omega) (by omega)
  rwa [Int.toNat_natCast] at h
 have wr:IntKind.u64.wrap (d.size:Int)=d.size:=by simp [IntKind.wrap,IntKind.bits,IntKind.signed];omega
 have hsrt:=pdq_sorts (ltOf cf) hO d 0 d.size (Lib.bitLen d.size) true true (Nat.zero_le _) (Nat.le_refl _) (Or.inl rfl);generalize pdq (ltOf cf) d 0 d.size (Lib.bitLen d.size) true true=d' at hp hsrt;clear hH hcmp hk h1
 go_enter Tryz.func154,Tryz.ntmps154
 go_wp2_with (first | (go_at_call 59;refine hl.mono ?_;rintro e w' ⟨rfl,rfl⟩) | (go_at_call 194;refine hp.mono ?_;rintro e w' ⟨rfl,n,os,rfl⟩))
 go_end0
 exact ⟨rfl,d',n,os,hsrt.1,hsrt.2,rfl⟩
set_option maxHeartbeats 2000000 in
theorem vx (p:Option Addr) (w:World):Calls Tryz.prog 154 #[.slice p 0 0,.func (.func 155) #[] #[]] w fun e w'=>e = .returned (.tuple #[])∧w'=w:=by
 have hp:=fun lim W=>AnyF.pdqsortCmpFunc_none Tryz.pdqC p 0 lim (.func (.func 155) #[] #[]) W;change ∀ lim W,Calls Tryz.prog 194 _ _ _ at hp;have hl:∀ W,Calls Tryz.prog 59 #[.int .u64 0] W fun e w'=>e = .returned (.int .i64 (Lib.bitLen 0:Nat))∧w'=W:=fun W=>Any.bits_Len Tryz.lays125 0 W (by omega) (by omega)
 go_enter Tryz.func154,Tryz.ntmps154
 go_wp2_with (first | (go_at_call 59;refine (hl _).mono ?_;rintro e w' ⟨rfl,rfl⟩) | (go_at_call 194;refine (hp _ _).mono ?_;rintro e w' ⟨rfl,rfl⟩))
 go_end0
 exact ⟨rfl,rfl⟩
set_option maxHeartbeats 1000000 in
theorem E1 (a0 a2 a3 a4 a5 a6 b0 b2 b3 b4 b5 b6:Value) (x y:ak) (W:World) :
 Calls Tryz.prog 51 #[.agg #[a0,.string ⟨x.toArray⟩,a2,a3,a4,a5,a6],.agg #[b0,.string ⟨y.toArray⟩,b2,b3,b4,b5,b6]] W fun e w'=>e = .returned (.int .i64 (mf x y))∧∃ q os',w'=grow (W.drewN q) os':=by
 have hcon:=fun W=>r4 x y W;generalize mf x y=r at hcon ⊢;generalize (⟨x.toArray⟩:ByteArray)=bx at hcon ⊢;generalize (⟨y.toArray⟩:ByteArray)=bz at hcon ⊢
 go_enter Tryz.func51,Tryz.ntmps51
 go_wp2_with (go_at_call 52;refine (hcon _).mono ?_;rintro e w' ⟨rfl,rfl⟩)
 go_ret
 exact ⟨rfl,0,_,by rw [alloc_eq_grow,alloc_eq_grow,grow_grow];rfl⟩
set_option maxHeartbeats 1000000 in
theorem FM (a1 b1:Value) (x y:ak) (W:World) :
 Calls Tryz.prog 155 #[.agg #[.string ⟨x.toArray⟩,a1],.agg #[.string ⟨y.toArray⟩,b1]] W fun e w'=>e = .returned (.int .i64 (mf x y))∧∃ q os',w'=grow (W.drewN q) os':=by
 have hcon:=fun W=>r4 x y W;generalize mf x y=r at hcon ⊢;generalize (⟨x.toArray⟩:ByteArray)=bx at hcon ⊢;generalize (⟨y.toArray⟩:ByteArray)=bz at hcon ⊢
 go_enter Tryz.func155,Tryz.ntmps155
 go_wp2_with (go_at_call 52;refine (hcon _).mono ?_;rintro e w' ⟨rfl,rfl⟩)
 go_ret
 exact ⟨rfl,0,_,by rw [alloc_eq_grow,alloc_eq_grow,grow_grow];rfl⟩
theorem Ck:SWO (ltOf mf):=by
 have hb:∀ x y,ltOf mf x y=Op.bytesLess x y:=fun x y=>by rw [Bool.eq_iff_iff];simp only [ltOf,decide_eq_true_eq,xn]
 refine ⟨fun x => ?_,fun x y z h1 h2 => ?_,fun x y z h1 h2 => ?_⟩<;>simp only [hb] at *
 ·exact ur x
 ·exact tN h1 h2
 ·rcases zN x y with h | h | h
  ·rw [h] at h1;cases h1
  ·subst h;exact h2
  ·cases hz:Op.bytesLess x z with
   | false=>rfl
   | true=>rw [tN h hz] at h2;cases h2
def jF {α:Type} (key:α→ak) (xs:List α):Option (List α):=bX (xs.length<4611686018427387904∧(xs.map key).Nodup) <| some (om (fun x y=>mf (key x) (key y)) xs)
theorem wj {α:Type} (key:α→ak) (xs:List α) (hnd:(xs.map key).Nodup) (i j:Nat) (hi:i<xs.length) (hj:j<xs.length) (h1:ltOf (fun x y=>mf (key x) (key y)) xs[i] xs[j]=false) (h2:ltOf (fun x y=>mf (key x) (key y)) xs[j] xs[i]=false):i=j:=by
 have hb:∀ x y,ltOf (fun x y=>mf (key x) (key y)) x y=Op.bytesLess (key x) (key y):=fun x y=>by rw [Bool.eq_iff_iff];simp only [ltOf,decide_eq_true_eq,xn]
 rw [hb] at h1 h2;have e:key xs[i]=key xs[j]:=by
  rcases zN (key xs[i]) (key xs[j]) with h | h | h
  ·rw [h] at h1;cases h1
  ·exact h
  ·rw [h] at h2;cases h2
 have hp:=List.pairwise_iff_getElem.1 hnd;rcases Nat.lt_trichotomy i j with h | h | h
 ·exact absurd (by rw [List.getElem_map,List.getElem_map];exact e) (hp i j (by simpa using hi) (by simpa using hj) h)
 ·exact h
 ·exact absurd (by rw [List.getElem_map,List.getElem_map];exact e.symm) (hp j i (by simpa using hj) (by simpa using hi) h)
theorem BA {α:Type} (c:α→List AV) (key:α→ak) (c0 c2 c3 c4 c5 c6:α→AV) (h1c:∀ x,(c x).all AV.one=true) (hc:∀ x,c x=[c0 x,.str (key x),c2 x,c3 x,c4 x,c5 x,c6 x]) (xs r:List α) (H:jF key xs=some r) :
 bg Tryz.prog 26 [.rslice 1000,.fn 51 []] [(1000,.row 62 7 (xs.map c))] (fun v h=>v = .tup []∧h=[(1000,.row 62 7 (r.map c))]):=by
 unfold jF at H;refine aP H fun hn H => ?_;refine bc H fun e => ?_;subst e;refine qV c (fun x=>by rw [hc];rfl) (fun x v hv=>My.1 (h1c x) v hv) (fun x y=>mf (key x) (key y)) (qy Ck key) 51
  (fun enc hk h1 cf hO blk cap d w=>DA enc hk h1 cf hO blk cap d w) vK (fun W X x y A B hA hB => ?_) xs hn.1 (fun i j hi hj=>wj key xs hn.2 i j hi hj)
 have key2:∀ {z:α} {A:Array Value},D W X (.agg (c z)) (.agg A)→∃ a0 a2 a3 a4 a5 a6,A = #[a0,.string ⟨(key z).toArray⟩,a2,a3,a4,a5,a6]:=by
  intro z A h;rw [hc] at h;generalize hL:[c0 z,AV.str (key z),c2 z,c3 z,c4 z,c5 z,c6 z]=L at h;cases h with
  | agg cs vs hl hd =>
   subst hL;have d1:=(show D W X (.str (key z)) (A.getD 1 undef) from hd 1 (by simp)).str_inv;have hs:A.size=7:=by simpa using hl.symm
   refine ⟨A.getD 0 undef,A.getD 2 undef,A.getD 3 undef,A.getD 4 undef,A.getD 5 undef,A.getD 6 undef,?_⟩;refine Array.ext (by simp [hs]) fun i hi h2 => ?_;match i,hi with
   | 0,_=>simp [Mn,hs]
   | 1,_=>simpa [Mn,hs] using d1.1
   | 2,_=>simp [Mn,hs]
   | 3,_=>simp [Mn,hs]
   | 4,_=>simp [Mn,hs]
   | 5,_=>simp [Mn,hs]
   | 6,_=>simp [Mn,hs]
   | (n+7),hi=>omega
 obtain ⟨a0,a2,a3,a4,a5,a6,rfl⟩:=key2 hA;obtain ⟨b0,b2,b3,b4,b5,b6,rfl⟩:=key2 hB;exact E1 _ _ _ _ _ _ _ _ _ _ _ _ (key x) (key y) W
theorem AL {α:Type} (c:α→List AV) (key:α→ak) (c1:α→AV) (h1c:∀ x,(c x).all AV.one=true) (hc:∀ x,c x=[.str (key x),c1 x]) (xs r:List α) (H:jF key xs=some r) :
 bg Tryz.prog 154 [.rslice 1000,.fn 155 []] [(1000,.row 31 2 (xs.map c))] (fun v h=>v = .tup []∧h=[(1000,.row 31 2 (r.map c))]):=by
 unfold jF at H;refine aP H fun hn H => ?_;refine bc H fun e => ?_;subst e;refine qV c (fun x=>by rw [hc];rfl) (fun x v hv=>My.1 (h1c x) v hv) (fun x y=>mf (key x) (key y)) (qy Ck key) 155
  (fun enc hk h1 cf hO blk cap d w=>DD enc hk h1 cf hO blk cap d w) vx (fun W X x y A B hA hB => ?_) xs hn.1 (fun i j hi hj=>wj key xs hn.2 i j hi hj)
 have key2:∀ {z:α} {A:Array Value},D W X (.agg (c z)) (.agg A)→∃ a1,A = #[.string ⟨(key z).toArray⟩,a1]:=by
  intro z A h;rw [hc] at h;generalize hL:[AV.str (key z),c1 z]=L at h;cases h with
  | agg cs vs hl hd =>
   subst hL;have d1:=(show D W X (.str (key z)) (A.getD 0 undef) from hd 0 (by simp)).str_inv;have hs:A.size=2:=by simpa using hl.symm
   refine ⟨A.getD 1 undef,?_⟩;refine Array.ext (by simp [hs]) fun i hi h2 => ?_;match i,hi with
   | 0,_=>simpa [Mn,hs] using d1.1
   | 1,_=>simp [Mn,hs]
   | (n+2),hi=>omega
 obtain ⟨a1,rfl⟩:=key2 hA;obtain ⟨b1,rfl⟩:=key2 hB;exact FM _ _ (key x) (key y) W
end Go.Proofs.YtoebmibmmlcfiaaGreatDoor
namespace Go.Ab
open Go.RowKit Go.Sh Go.Proofs
section
variable {P:Program} {ρ:Go.Shelf.Ren}
theorem G.intQ_inv {w:World} {X:Nat→Prop} {β:Nat→Nat} {κ:Nat→Nat×Nat} {k:IntKind} {n:Int} {V:Value} (h:G w X β κ (.int k n) V):V = .int k n:=by
 cases h with
 | d h=>exact h.int_inv
theorem B3 (L:Lays8.n4 P ρ):bg P (ρ.f 4) [.eslice,.int .i64 0] [] (fun r _=>r = .eslice):=by intro c vs hl hr hg;have h0:G c.W (c.XX [] c.β) c.β c.κ .eslice (vs.getD 0 undef):=hg 0 (by simp);have h1:G c.W (c.XX [] c.β) c.β c.κ (.int .i64 0) (vs.getD 1 undef):=hg 1 (by simp);obtain ⟨ad,e0⟩:=h0.eslice_inv;rw [IJ (vs:=vs) (by simpa using hl),e0,h1.intQ_inv];refine (Any8.slices_Grow_room L ad 0 0 0 c.W (Nat.le_refl _) (by omega) (by omega) (by omega)).mono fun e w' ⟨e2,e3⟩ => ?_;subst e3;exact ⟨_,.eslice,[],c.β,c.κ,e2,rfl,hr,.d (.eslice _)⟩
theorem De (L:Lays8.n4 P ρ) {sz by_:Nat} (he:gN P (ρ.t 22)=some (ρ.t 25,sz,by_)) (n:Nat) (h0:0<n) (hb:n*by_≤140737488355328) (h63:n≤4611686018427387904) :
 bg P (ρ.f 4) [.eslice,.int .i64 (n:Int)] [] (fun v h=>v = .gslice 0∧h=[(0,.room (ρ.t 25) sz)]):=by
 obtain ⟨hu,i,z,hi,hz,rfl,rfl,hzs,hsz⟩:=jB he;intro c vs hl hr hg;have g0:G c.W (c.XX [] c.β) c.β c.κ .eslice (vs.getD 0 undef):=hg 0 (by simp);have g1:G c.W (c.XX [] c.β) c.β c.κ (.int .i64 (n:Int)) (vs.getD 1 undef):=hg 1 (by simp);obtain ⟨ad,e0⟩:=g0.eslice_inv;rw [IJ (vs:=vs) (by simpa using hl),e0,g1.intQ_inv];refine (Any8.slices_Grow_grow L i z hi hz hsz ad 0 0 n [] c.W (Nat.le_refl _) (by omega) (by simpa using hb) (by omega) (by simp) (fun _=>rfl) (fun a _ j v hj=>by simp at hj)).mono fun e w' ⟨e2,e3⟩ => ?_;obtain ⟨C,hC⟩:∃ C,C=grownCap c.W (0+n) 0 (ρ.t 25):=⟨_,rfl⟩;have hCn:0+n≤C:=by rw [hC];exact grownCap_ge c.W _ _ _
 have hCm:C≤maxLen:=by rw [hC];exact grownCap_le_maxLen c.W _ _ _ (by unfold maxLen;omega)
 rw [← hC] at e2 e3;obtain ⟨arr,harr⟩:∃ arr,arr=(([]:List Value).toArray++Builtin.zeroCells z.cells (0+n-0)++Builtin.zeroCells z.cells (C-(0+n))):=⟨_,rfl⟩;rw [← harr] at e3;have hasz:arr.size=C*i.size:=by rw [harr];simp only [Array.size_append,List.size_toArray,List.length_nil,size_zeroCells,hzs,Nat.zero_add,Nat.sub_zero,← Nat.add_mul];congr 1;omega
 subst e3;have hr':=hr.drew;have hnew:(c.W.drew.alloc (.cells arr (ρ.t 25))).heap[c.W.heap.size]? = some (.cells arr (ρ.t 25) (0,0)):=lb c.W.drew _;obtain ⟨r1,_⟩:=hr'.anew (w':=c.W.drew.alloc (.cells arr (ρ.t 25))) (k:=0) (by decide) (fun j _=>rfl) c.W.heap.size (C,0) (Nat.le_refl _) (fun b hb2=>gw c.W.drew _ hb2) (fh _ c.W.drew _ c.hK) (o:=.room (ρ.t 25) i.size)
  ⟨arr,by rw [aA];exact hnew,by rw [aA];exact hasz,by rw [aA];exact hCm,hsz⟩
 refine ⟨_,.gslice 0,[(0,.room (ρ.t 25) i.size)],upd c.β 0 c.W.heap.size,upd c.κ 0 (C,0),e2,⟨rfl,rfl⟩,r1,?_⟩;have:=G.gslice (w:=c.W.drew.alloc (.cells arr (ρ.t 25))) (X:=c.XX [(0,.room (ρ.t 25) i.size)] (upd c.β 0 c.W.heap.size)) (β:=upd c.β 0 c.W.heap.size) (κ:=upd c.κ 0 (C,0)) 0;rw [aA,aA] at this;exact this
end
section
variable {P:Program} {Q:Exit→AS→Prop} {c:Code} {fs:List Fr}
theorem zy {ι:Type} (S:ι→AS) (hc:xX c=true) (φ:ι→Prop) (μ:ι→Nat) (i₀:ι) (h₀:φ i₀)
 (round:∀ i,φ i→∃ T,(T=dead∨∃ j,φ j∧μ j<μ i∧T=S j)∧eS P (nX c) (cg P (.bar T::fs) Q) (S i)):eS P c (cg P fs Q) (S i₀):=by
 rw [qW hc];exact uP S φ μ i₀ h₀ round
end
def vu {α:Type} (c:α→List AV) (x:List α):List AV:=[.dslice (x.map c)]
theorem JS {α:Type} (d:α):∀ (l:List α) (i:Nat),i<l.length→l.take (i+1)=l.take i++[l.getD i d]
 | [],i,h=>by simp at h
 | x::l,0,_=>rfl
 | x::l,i+1,h=>by rw [List.take_succ_cons,JS d l i (by simpa using h),List.take_succ_cons];rfl
theorem EU {α:Type} (ls:List (List α)) (i:Nat) (h:i<ls.length):(ls.take (i+1)).flatten=(ls.take i).flatten++ls.getD i []:=by rw [JS [] ls i h];simp
theorem IQ {α:Type} (ls:List (List α)) (i:Nat):(ls.take i).flatten.length≤ls.flatten.length:=by
 have:ls.flatten=(ls.take i).flatten++(ls.drop i).flatten:=by rw [← List.flatten_append,List.take_append_drop]
 rw [this,List.length_append];omega
end Go.Ab
namespace Go.Proofs.YtoebmibmmlcfiaaGreatDoor
open Go.RowKit Go.Ab Go.Sh Go.Proofs
def rJ {α:Type} (ls:List (List α)):Option (List α):=bX (ls.flatten.length*32≤140737488355328∧ls.length≤1000000) <| some ls.flatten
section
variable {α:Type} (c:α→List AV) (ls:List (List α))
def ph:AV:=.dslice (ls.map (vu c))
def vX (t i:Nat):AS:=⟨36,[(0,ph c ls),(2,.eslice),(3,.int .i64 ((t:Nat):Int)),(9,ph c ls),(10,.int .i64 ((ls.length:Nat):Int)),(11,.int .i64 ((i:Nat):Int))],[]⟩
def En (t:Nat):AS:=⟨36,[(0,ph c ls),(2,.eslice),(3,.int .i64 ((t:Nat):Int))],[]⟩
def te (a:List α) (i:Nat):AS:=⟨36,[(2,.eslice),(6,.rslice 33),(25,ph c ls),(26,.int .i64 ((ls.length:Nat):Int)),(27,.int .i64 ((i:Nat):Int))],[(33,.row 29 2 (a.map c))]⟩
def GI (i:Nat):AS:=⟨36,[(2,.eslice),(6,.gslice 24),(25,ph c ls),(26,.int .i64 ((ls.length:Nat):Int)),(27,.int .i64 ((i:Nat):Int))],[(24,.room 29 2)]⟩
def zF (a:List α) (i:Nat):AS:=match a with
 | []=>GI c ls i
 | x::xs=>te c ls (x::xs) i
def vY (a:List α):AS:=⟨36,[(2,.eslice),(6,.rslice 33)],[(33,.row 29 2 (a.map c))]⟩
theorem yz (hc:∀ x,(c x).length=2∧(c x).all (fun v=>v.one&&v.fl)=true) (r:List α) (H:rJ ls=some r):br Tryz.prog 141 [ph c ls] (.dslice (r.map c)):=by
 unfold rJ at H;refine aP H fun hn H => ?_;obtain ⟨hb,hN⟩:=hn;refine bc H fun e => ?_;subst e;have hle:∀ i,(ls.take i).flatten.length≤ls.flatten.length:=IQ ls;have hstep:∀ i,i<ls.length→(ls.take (i+1)).flatten=(ls.take i).flatten++ls.getD i []:=EU ls;have hall:(ls.take ls.length).flatten=ls.flatten:=by rw [List.take_length]
 have hix:∀ i,i<ls.length→cq [((0:Int)≤(i:Int)∧(i:Int)<((ls.map (vu c)).length:Int))∧(((ls.map (vu c)).getD (i:Int).toNat []).length=1∧0<1),AV.dptr ((ls.map (vu c)).getD (i:Int).toNat []) = .dptr (vu c (ls.getD i []))]:=fun i hi=>ix (f:=vu c) (l:=ls) (n:=i) [] (fun _=>rfl) (by decide) hi;have i64:∀ i,i<ls.length→vE (((i:Nat):Int)+1):=fun i hi=>by unfold vE;omega
 have c0:∀ i,i<ls.length→AV.bool (decide (((i:Nat):Int)<((ls.length:Nat):Int))) = .bool true:=fun i hi=>congrArg AV.bool (Mr (by omega));have c1:AV.bool (decide (((ls.length:Nat):Int)<((ls.length:Nat):Int))) = .bool false:=congrArg AV.bool (Mq (by omega));have hcap:∀ (a:List α) i,i<ls.length→a=(ls.take i).flatten→(a.length+(ls.getD i []).length)*32≤140737488355328:=fun a i hi ha=>by have h2:=hle (i+1);rw [hstep i hi,List.length_append,← ha] at h2;exact Nat.le_trans (Nat.mul_le_mul_right _ h2) hb
 refine Gn Tryz.func141 36 [.tmp 2] (by kernel_rfl) (by kernel_rfl) ?_;refine He Tryz.mo 8 [.rg 0 [] [.v],.rg 0 [] [.v],.rg 0 [] [.v,.e (.int .i64 ((ls.length:Nat):Int)),.v]] [.only [0,2,3,9,10,11] []] 8 [] (vX c ls 0 0) (all_cons trivial (all_cons (bo (vu c) ls) all_nil)) (by kernel_rfl) ?_;refine cC 1 (En c ls ls.flatten.length) (by kernel_rfl) ?_ ?_
 ·refine zy (ι:=Nat×Nat) (fun x=>vX c ls x.2 x.1) (by kernel_rfl) (fun x=>x.1≤ls.length∧x.2=(ls.take x.1).flatten.length) (fun x=>ls.length-x.1) (0,0) ⟨Nat.zero_le _,by simp⟩ ?_;rintro ⟨i,t⟩ ⟨hi,ht⟩;simp only at hi ht;by_cases hN:i=ls.length
  ·subst hN;rw [hall] at ht;subst ht;exact ⟨dead,.inl rfl,tJ Tryz.mo 5 [.rg 0 [] [.e (.bool false)]] [.only [0,2,3] []] (En c ls ls.flatten.length) (all_cons c1 all_nil) (by kernel_rfl)⟩
  ·have hlt:i<ls.length:=by omega
   have ht2:t+(ls.getD i []).length=(ls.take (i+1)).flatten.length:=by rw [hstep i hlt,List.length_append,ht]
   have hle2:=hle (i+1);have c2:decide ((((t+(ls.getD i []).length:Nat)):Int)<0)=false:=Mq (by omega);refine ⟨vX c ls (t+(ls.getD i []).length) (i+1),.inr ⟨(i+1,t+(ls.getD i []).length),⟨hlt,ht2⟩,by show ls.length-(i+1)<ls.length-i;omega,rfl⟩,?_⟩;exact tJ Tryz.mo 16 [.rg 0 [] [.e (.bool true)],.rg 0 [] [.e (.dptr (vu c (ls.getD i []))),.v,.v],.rg 0 [] [.v,.v,.e (.int .i64 (((ls.getD i []).length:Nat):Int)),.e (.int .i64 ((t+(ls.getD i []).length:Nat):Int)),.v],.rg 0 [] [.v,.e (.bool false)],.rg 0 [] [.v,.v]] [.only [0,2,3,9,10,11] []] (vX c ls (t+(ls.getD i []).length) (i+1))
    (all_cons (c0 i hlt) (a8 (hix i hlt) (all_cons trivial (all_cons (bo c (ls.getD i [])) (all_cons (show vE (((t:Nat):Int)+(((ls.getD i []).length:Nat):Int)) from by unfold vE;omega) (all_cons (congrArg (AV.int .i64) (Int.natCast_add t (ls.getD i []).length).symm) (all_cons (congrArg (AV.bool) c2) (all_cons (i64 i hlt) all_nil)))))))) (by kernel_rfl)
 ·by_cases h0:ls.flatten.length=0
  ·
   rw [h0];refine He Tryz.mo 8 [.rg 0 [] [.v,.c true .eslice,.v],.rg 0 [] [.v,.e (.int .i64 ((ls.length:Nat):Int)),.v]] [.er 6 33 29 2,.only [2,6,25,26,27] [33]] 6 [] (te c ls [] 0) (all_cons Tryz.call188 (all_cons (B3 Tryz.lays8_186) (all_cons trivial (all_cons (bo (vu c) ls) all_nil)))) (by kernel_rfl) ?_;refine cC 1 (vY c ls.flatten) (by kernel_rfl) ?_ ?_
   ·refine zy (ι:=Nat×List α) (fun x=>te c ls x.2 x.1) (by kernel_rfl) (fun x=>x.1≤ls.length∧x.2=(ls.take x.1).flatten) (fun x=>ls.length-x.1) (0,[]) ⟨Nat.zero_le _,by simp⟩ ?_;rintro ⟨i,a⟩ ⟨hi,ha⟩;simp only at hi ha;by_cases hN:i=ls.length
    ·subst hN;rw [hall] at ha;subst ha;exact ⟨dead,.inl rfl,tJ Tryz.mo 5 [.rg 0 [] [.e (.bool false)]] [.only [2,6] [33]] (vY c ls.flatten) (all_cons c1 all_nil) (by kernel_rfl)⟩
    ·have hlt:i<ls.length:=by omega
     refine ⟨te c ls (a++ls.getD i []) (i+1),.inr ⟨(i+1,a++ls.getD i []),⟨hlt,by simp only [hstep i hlt,← ha]⟩,by show ls.length-(i+1)<ls.length-i;omega,rfl⟩,?_⟩;exact tJ Tryz.mo 16 [.rg 0 [] [.e (.bool true)],.rg 0 [] [.e (.dptr (vu c (ls.getD i []))),.v,.v],.rg 0 [] [.v,.v,.ap,.rwH 33 (.row 29 2 ((a++ls.getD i []).map c)),.v],.rg 0 [] [.v,.v]] [.only [2,6,25,26,27] [33]] (te c ls (a++ls.getD i []) (i+1))
      (all_cons (c0 i hlt) (a8 (hix i hlt) (a8 (tg (c:=c) hc a (ls.getD i []) 32 (by decide) (hcap a i hlt ha)) (all_cons (vQ 29 2 c a (ls.getD i [])) (all_cons (i64 i hlt) all_nil))))) (by kernel_rfl)
   ·exact Il Tryz.mo 3 [.rg 0 [] [.v,.v]] [.fz 33] [] all_nil (by kernel_rfl)
  ·have hgrow:=De Tryz.lays8_186 (sz:=2) (by_:=32) (by kernel_rfl) ls.flatten.length (by omega) hb (by omega);refine He Tryz.mo 8 [.rg 0 [] [.v,.hR [] 24 (.gslice 0) [(0,.room 29 2)],.v],.rg 0 [] [.v,.e (.int .i64 ((ls.length:Nat):Int)),.v]] [.only [2,6,25,26,27] [24]] 6 [] (zF c ls [] 0) (all_cons Tryz.call188 (all_cons hgrow (all_cons trivial (all_cons (bo (vu c) ls) all_nil)))) (by kernel_rfl) ?_;refine cC 1 (vY c ls.flatten) (by kernel_rfl) ?_ ?_
   ·refine zy (ι:=Nat×List α) (fun x=>zF c ls x.2 x.1) (by kernel_rfl) (fun x=>x.1≤ls.length∧x.2=(ls.take x.1).flatten) (fun x=>ls.length-x.1) (0,[]) ⟨Nat.zero_le _,by simp⟩ ?_;rintro ⟨i,a⟩ ⟨hi,ha⟩;simp only at hi ha;by_cases hN:i=ls.length
    ·subst hN;rw [hall] at ha;cases a with
     | nil=>rw [← ha] at h0;exact absurd rfl h0
     | cons a0 al =>
      rw [← ha];exact ⟨dead,.inl rfl,tJ Tryz.mo 5 [.rg 0 [] [.e (.bool false)]] [.only [2,6] [33]] (vY c (a0::al)) (all_cons c1 all_nil) (by kernel_rfl)⟩
    ·have hlt:i<ls.length:=by omega
     refine ⟨zF c ls (a++ls.getD i []) (i+1),.inr ⟨(i+1,a++ls.getD i []),⟨hlt,by simp only [hstep i hlt,← ha]⟩,by show ls.length-(i+1)<ls.length-i;omega,rfl⟩,?_⟩;have hk:=hcap a i hlt ha;have hx:=hix i hlt;cases a with
     | nil =>
      generalize ls.getD i []=y at hk hx;cases y with
      | nil =>
       exact tJ Tryz.mo 16 [.rg 0 [] [.e (.bool true)],.rg 0 [] [.e (.dptr [.dslice []]),.v,.v],.rg 0 [] [.v,.v,.apg,.v],.rg 0 [] [.v,.v]] [.only [2,6,25,26,27] [24]] (GI c ls (i+1))
        (all_cons (c0 i hlt) (a8 hx (all_cons (i64 i hlt) all_nil))) (by kernel_rfl)
      | cons y0 ys =>
       exact tJ Tryz.mo 16 [.rg 0 [] [.e (.bool true)],.rg 0 [] [.e (.dptr [.dslice (c y0::ys.map c)]),.v,.v],.rg 0 [] [.v,.v,.apg,.v],.rg 0 [] [.v,.v]] [.only [2,6,25,26,27] [33]] (te c ls (y0::ys) (i+1))
        (all_cons (c0 i hlt) (a8 hx (a8 (Mj (c:=c) hc (y0::ys) 32 (by decide) (by simpa using hk)) (all_cons (i64 i hlt) all_nil)))) (by kernel_rfl)
     | cons a0 al =>
      exact tJ Tryz.mo 16 [.rg 0 [] [.e (.bool true)],.rg 0 [] [.e (.dptr (vu c (ls.getD i []))),.v,.v],.rg 0 [] [.v,.v,.ap,.rwH 33 (.row 29 2 (((a0::al)++ls.getD i []).map c)),.v],.rg 0 [] [.v,.v]] [.only [2,6,25,26,27] [33]] (te c ls ((a0::al)++ls.getD i []) (i+1))
       (all_cons (c0 i hlt) (a8 hx (a8 (tg (c:=c) hc (a0::al) (ls.getD i []) 32 (by decide) hk) (all_cons (vQ 29 2 c (a0::al) (ls.getD i [])) (all_cons (i64 i hlt) all_nil))))) (by kernel_rfl)
   ·exact Il Tryz.mo 3 [.rg 0 [] [.v,.v]] [.fz 33] [] all_nil (by kernel_rfl)
end
end Go.Proofs.YtoebmibmmlcfiaaGreatDoor
namespace Go.Proofs
open Go.Shelf
def Tryz.lays217_ren:Go.Shelf.Ren:=⟨fun | 217=>132 | 266=>172 | n=>n,fun | 9=>9 | 5=>5 | 3=>3 | n=>n,fun | n=>n⟩
theorem Tryz.lays217:Go.Proofs.Lays.n217 Tryz.prog Tryz.lays217_ren:={
 mixed:=by kernel_rfl
 f217:=Tryz.func132.trans (congrArg some (by kernel_rfl))
 f266:=Tryz.func172.trans (congrArg some (by kernel_rfl))
 t3:=Tryz.underlying3
 a3:=Tryz.isAgg3
 z3:=Tryz.sizeOf3
 v3:=Tryz.zeroValue3
 t5:=Tryz.underlying5
 a5:=Tryz.isAgg5
 z5:=Tryz.sizeOf5
 v5:=Tryz.zeroValue5
 t9:=Tryz.underlying9
 a9:=Tryz.isAgg9
 z9:=Tryz.sizeOf9
 v9:=Tryz.zeroValue9 }
def Tryz.lays122_ren:Go.Shelf.Ren:=⟨fun | 122=>61 | 215=>121 | n=>n,fun | 3=>3 | 4=>4 | n=>n,fun | n=>n⟩
theorem Tryz.lays122:Go.Proofs.Lays.n122 Tryz.prog Tryz.lays122_ren:={
 mixed:=by kernel_rfl
 f122:=Tryz.func61.trans (congrArg some (by kernel_rfl))
 f215:=Tryz.func121.trans (congrArg some (by kernel_rfl))
 t3:=Tryz.underlying3
 a3:=Tryz.isAgg3
 z3:=Tryz.sizeOf3
 v3:=Tryz.zeroValue3
 t4:=Tryz.underlying4
 a4:=Tryz.isAgg4
 z4:=Tryz.sizeOf4
 v4:=Tryz.zeroValue4 }
end Go.Proofs
namespace Go.Proofs.YtoebmibmmlcfiaaGreatDoor
open Go.RowKit Go.Ab Go.Sh Go.Proofs Go.Shelf Go.Sort
set_option maxHeartbeats 2000000 in
theorem Mi (b o cap:Nat) (x y:Int) (W:World) (h0:W.cell? ⟨b,o,none⟩=some (.int .i64 x)) (h1:W.cell? ⟨b,o+1,none⟩=some (.int .i64 y)) :
 Calls Tryz.prog 60 #[.slice (some ⟨b,o,none⟩) (2:Nat) cap] W fun e w'=>e = .returned (.int .i64 (if x=0 then y else x))∧w'=W:=by
 obtain ⟨r,hr⟩:∃ r,r=if x=0 then y else x:=⟨_,rfl⟩
 rw [← hr];have q0:x≠0→r=x:=fun h=>hr.trans (if_neg h);have q1:x=0→r=y:=fun h=>hr.trans (if_pos h);clear hr
 go_enter Tryz.func60,Tryz.ntmps60
 go_wp2
 go_loop [8] (fun vi=>∃ k:Nat,vi = .int .i64 k∧Hid (k=0∨(k=1∧x=0)∨(k=2∧x=0∧y=0))) (fun vi=>2-(RowKit.intOf vi).toNat)
 case atStart=>exact ⟨0,rfl,Or.inl rfl⟩
 case round =>
  obtain ⟨k,rfl,hh⟩:=hrel;rcases hh.out with hk | ⟨hk,hx⟩ | ⟨hk,hx,hy⟩
  ·subst hk;clear hh
   go_wp2
   ·have hn:¬ x=0:=by simpa using ‹(x != 0)=true›
    go_ret
    exact ⟨by first | rfl | (rw [q0 hn];rfl),rfl⟩
   ·have hn:x=0:=by simpa using ‹(x != 0)=false›
    go_round
    case rel=>exact ⟨1,rfl,Or.inr (Or.inl ⟨rfl,hn⟩)⟩
    case measure=>simp [RowKit.intOf]
  ·subst hk;clear hh
   go_wp2
   ·go_ret
    exact ⟨by first | rfl | (rw [q1 hx];rfl),rfl⟩
   ·have hn:y=0:=by simpa using ‹(y != 0)=false›
    go_round
    case rel=>exact ⟨2,rfl,Or.inr (Or.inr ⟨rfl,hx,hn⟩)⟩
    case measure=>simp [RowKit.intOf]
  ·subst hk;clear hh
   go_wp2
   go_ret
   exact ⟨by first | rfl | (rw [hy];rfl) | (rw [q1 hx,hy];rfl),rfl⟩
def Jg (a b:Int) (x y:ak):Int:=if Lib.compareInt a b=0 then mf x y else Lib.compareInt a b
theorem A3 {P:Program} {id:Nat} {Q:Exit→Act→World→Prop} {a:Act} {w:World} {l:List Oper} (n:Nat) (hm:P.follows .mixedOrders=true) (hB:Region.lexTailB .any l.toArray n=true)
 (h:∀ w2,w2=w.drew→wpStill P l.toArray w2 (fun a'=>wpList P l.toArray Q (l.drop n) a' w2) (l.take n) a):(Code.region id l.toArray true).wp P Q a w:=wp_region_still_tail n hm hB (h _ rfl)
set_option maxRecDepth 100000 in
set_option maxHeartbeats 2000000 in
theorem Ff (a b:Int) (a2 a3 a4 a5 a6 b2 b3 b4 b5 b6:Value) (x y:ak) (W:World) :
 Calls Tryz.prog 27 #[.agg #[.int .i64 a,.string ⟨x.toArray⟩,a2,a3,a4,a5,a6],.agg #[.int .i64 b,.string ⟨y.toArray⟩,b2,b3,b4,b5,b6]] W fun e w'=>e = .returned (.int .i64 (Jg a b x y))∧∃ q os',w'=grow (W.drewN q) os':=by
 have hcon:=fun W=>r4 x y W;have hcmp:=fun W=>Any.cmp_Compare_int Tryz.lays122 a b W;change ∀ W,Calls Tryz.prog 61 _ _ _ at hcmp;unfold Jg;generalize mf x y=r at hcon ⊢;generalize Lib.compareInt a b=s at hcmp ⊢;generalize (⟨x.toArray⟩:ByteArray)=bx at hcon ⊢;generalize (⟨y.toArray⟩:ByteArray)=bz at hcon ⊢;have hor:=fun bb cap W h0 h1=>Mi bb 0 cap s r W h0 h1;obtain ⟨t,ht⟩:∃ t,t=if s=0 then r else s:=⟨_,rfl⟩
 rw [← ht] at hor ⊢;clear ht
 go_enter Tryz.func27,Tryz.ntmps27
 go_wp2
 refine A3 10 (by kernel_rfl) (by kernel_rfl) (fun w2 hw2 => ?_);have f0:w2.cell? ⟨W.heap.size,0,none⟩=some (.int .i64 a):=by rw [hw2];go_simp
 have f1:w2.cell? ⟨W.heap.size,1,none⟩=some (.string bx):=by rw [hw2];go_simp
 have f2:w2.cell? ⟨W.heap.size+1,0,none⟩=some (.int .i64 b):=by rw [hw2];go_simp
 have f3:w2.cell? ⟨W.heap.size+1,1,none⟩=some (.string bz):=by rw [hw2];go_simp
 have hw3:Hid (w2=((W.alloc (Obj.cells #[Value.int IntKind.i64 a,Value.string bx,a2,a3,a4,a5,a6] 62)).alloc (Obj.cells #[Value.int IntKind.i64 b,Value.string bz,b2,b3,b4,b5,b6] 62)).drew):=hw2;clear hw2;simp only [List.take_succ_cons,List.take_zero,List.drop_succ_cons,List.drop_zero]
 iterate 4 still_step
 still_call (hcmp _)
 iterate 4 still_step
 still_call (hcon _)
 refine wpStill_nil ?_
 go_wp2_with (go_at_call 60;refine (hor _ _ _ (by go_simp) (by go_simp)).mono ?_;rintro e w' ⟨rfl,rfl⟩)
 go_ret
 refine ⟨rfl,1,#[Obj.cells #[Value.int IntKind.i64 a,Value.string bx,a2,a3,a4,a5,a6] 62,Obj.cells #[Value.int IntKind.i64 b,Value.string bz,b2,b3,b4,b5,b6] 62,Obj.cells #[Value.int IntKind.i64 s,Value.int IntKind.i64 r] 3],?_⟩;rw [hw3.out,alloc_eq_grow,alloc_eq_grow,alloc_eq_grow,grow_grow];exact grow_grow W.drew _ _
set_option maxHeartbeats 2000000 in
set_option maxRecDepth 100000 in
theorem C9 {β:Type} [Inhabited β] (enc:β→List Value) (hk:∀ x,(enc x).length=7) (h1:∀ x,∀ v∈enc x,v.oneCell'=true) (cf:β→β→Int) (hO:SWO (ltOf cf)) (blk cap:Nat) (d:Array β) (w:World)
 (hcmp:CmpLays Tryz.prog 27 #[] enc 7 cf blk 0 d.size w) (hH:HoldsK enc 7 w blk 0 d) (hblk:blk<w.heap.size) (hsz:d.size<4611686018427387904) :
 Calls Tryz.prog 26 #[.slice (some ⟨blk,0,none⟩) d.size cap,.func (.func 27) #[] #[]] w fun e w'=>e = .returned (.tuple #[])∧∃ d' n os,PermIn 0 d.size d d'∧SortedIn (ltOf cf) 0 d.size d'∧w'=sortWorldK enc 7 w blk 0 n d' os:=by
 have aE:∀ w,(isAgg 62).run Tryz.prog w = .ok true w:=fun w=>Go.Ab.run_isAgg (by kernel_rfl);have zE:∀ w,(Go.sizeOf 62).run Tryz.prog w = .ok 7 w:=fun w=>Go.Ab.run_sizeOf (by kernel_rfl);have eg:∀ args w,(callFunc 27 args).run Tryz.prog w = .ok (.enter 27 args) w:=enters_of Tryz.func27 (by kernel_rfl) rfl;have hlim:Lib.bitLen d.size<4611686018427387904:=Nat.lt_of_le_of_lt (Lib.bitLen_le d.size 62 (by omega) (by omega)) (by omega);have hp:=AnyQ.pdqsortCmpFunc_all Tryz.pdqB 7 aE zE enc cf 27 #[] hO blk 0 cap d w eg hcmp ⟨hk,h1,hH,hblk⟩ (d.size+1) 0 d.size (Lib.bitLen d.size) d w (by omega) rfl (SWK.start hH) (Nat.zero_le _) (Nat.le_refl _) hsz hlim (Or.inl rfl);change Calls Tryz.prog 58 _ _ _ at hp;have hl:Calls Tryz.prog 59 #[.int .u64 (d.size:Int)] w fun e w'=>e = .returned (.int .i64 (Lib.bitLen d.size:Nat))∧w'=w:=by
  have h:=Any.bits_Len Tryz.lays125 (d.size:Int) w (by omega) (by omega)
  rwa [Int.toNat_natCast] at h
 have wr:IntKind.u64.wrap (d.size:Int)=d.size:=by simp [IntKind.wrap,IntKind.bits,IntKind.signed];omega
 have hsrt:=pdq_sorts (ltOf cf) hO d 0 d.size (Lib.bitLen d.size) true true (Nat.zero_le _) (Nat.le_refl _) (Or.inl rfl);generalize pdq (ltOf cf) d 0 d.size (Lib.bitLen d.size) true true=d' at hp hsrt;clear hH hcmp hk h1
 go_enter Tryz.func26,Tryz.ntmps26
 go_wp2_with (first | (go_at_call 59;refine hl.mono ?_;rintro e w' ⟨rfl,rfl⟩) | (go_at_call 58;refine hp.mono ?_;rintro e w' ⟨rfl,n,os,rfl⟩))
 go_end0
 exact ⟨rfl,d',n,os,hsrt.1,hsrt.2,rfl⟩
set_option maxHeartbeats 2000000 in
theorem vD (p:Option Addr) (w:World):Calls Tryz.prog 26 #[.slice p 0 0,.func (.func 27) #[] #[]] w fun e w'=>e = .returned (.tuple #[])∧w'=w:=by
 have hp:=fun lim W=>AnyF.pdqsortCmpFunc_none Tryz.pdqB p 0 lim (.func (.func 27) #[] #[]) W;change ∀ lim W,Calls Tryz.prog 58 _ _ _ at hp;have hl:∀ W,Calls Tryz.prog 59 #[.int .u64 0] W fun e w'=>e = .returned (.int .i64 (Lib.bitLen 0:Nat))∧w'=W:=fun W=>Any.bits_Len Tryz.lays125 0 W (by omega) (by omega)
 go_enter Tryz.func26,Tryz.ntmps26
 go_wp2_with (first | (go_at_call 59;refine (hl _).mono ?_;rintro e w' ⟨rfl,rfl⟩) | (go_at_call 58;refine (hp _ _).mono ?_;rintro e w' ⟨rfl,rfl⟩))
 go_end0
 exact ⟨rfl,rfl⟩
def Cr (p q:Int×ak):Int:=if p.1<q.1 then -1 else if q.1<p.1 then 1 else mf p.2 q.2
def yH {α:Type} (k:α→Int) (v:α→ak) (x y:α):Int:=Cr (k x,v x) (k y,v y)
theorem I0 (a b:Int) (x y:ak):Jg a b x y=Cr (a,x) (b,y):=by
 unfold Jg Cr Lib.compareInt;by_cases h1:a<b
 ·simp [h1]
 ·by_cases h2:b<a
  ·simp [h1,h2]
  ·simp [h1,h2]
theorem Ci {p q:Int×ak}:Cr p q<0↔p.1<q.1∨p.1=q.1∧Op.bytesLess p.2 q.2=true:=by
 unfold Cr;by_cases h1:p.1<q.1
 ·simp [h1]
 ·by_cases h2:q.1<p.1
  ·rw [if_neg h1,if_pos h2];constructor
   ·intro h;omega
   ·rintro (h | ⟨h,_⟩)<;>omega
  ·rw [if_neg h1,if_neg h2,xn];constructor
   ·exact fun h=>.inr ⟨by omega,h⟩
   ·rintro (h | ⟨_,h⟩)
    ·omega
    ·exact h
theorem Hh:SWO (ltOf Cr):=by
 have hb:∀ x y,ltOf Cr x y=true↔x.1<y.1∨x.1=y.1∧Op.bytesLess x.2 y.2=true:=fun x y=>by simp only [ltOf,decide_eq_true_eq,Ci]
 have hf:∀ x y,ltOf Cr x y=false↔¬ (x.1<y.1∨x.1=y.1∧Op.bytesLess x.2 y.2=true):=fun x y=>by rw [← hb,Bool.not_eq_true]
 refine ⟨fun x => ?_,fun x y z h1 h2 => ?_,fun x y z h1 h2 => ?_⟩
 ·rw [hf,ur];rintro (h | ⟨_,h⟩)
  ·omega
  ·cases h
 ·rw [hb] at *;rcases h1 with h1 | ⟨h1,h1'⟩<;>rcases h2 with h2 | ⟨h2,h2'⟩
  ·exact .inl (by omega)
  ·exact .inl (by omega)
  ·exact .inl (by omega)
  ·exact .inr ⟨by omega,tN h1' h2'⟩
 ·rw [hf] at *;rintro (h | ⟨h,h'⟩)
  ·by_cases e1:x.1<y.1
   ·exact h1 (.inl e1)
   ·exact h2 (.inl (by omega))
  ·by_cases e1:x.1<y.1
   ·exact h1 (.inl e1)
   ·by_cases e2:y.1<z.1
    ·exact h2 (.inl e2)
    ·rcases zN x.2 y.2 with t | t | t
     ·exact h1 (.inr ⟨by omega,t⟩)
     ·rw [t] at h';exact h2 (.inr ⟨by omega,h'⟩)
     ·exact h2 (.inr ⟨by omega,tN t h'⟩)
def kK {α:Type} (k:α→Int) (v:α→ak) (xs:List α):Option (List α):=bX (xs.length<4611686018427387904∧(xs.map fun x=>(k x,v x)).Nodup) <| some (om (yH k v) xs)
theorem A8 {α:Type} (k:α→Int) (v:α→ak) (xs:List α) (hnd:(xs.map fun x=>(k x,v x)).Nodup) (i j:Nat) (hi:i<xs.length) (hj:j<xs.length) (h1:ltOf (yH k v) xs[i] xs[j]=false) (h2:ltOf (yH k v) xs[j] xs[i]=false):i=j:=by
 have hf:∀ x y,ltOf (yH k v) x y=false↔¬ (k x<k y∨k x=k y∧Op.bytesLess (v x) (v y)=true):=fun x y=>by rw [← Bool.not_eq_true];simp only [ltOf,decide_eq_true_eq,yH,Ci]
 rw [hf] at h1 h2;have e:(k xs[i],v xs[i])=(k xs[j],v xs[j]):=by
  have hk:k xs[i]=k xs[j]:=by
   by_cases a1:k xs[i]<k xs[j]
   ·exact absurd (.inl a1) h1
   ·by_cases a2:k xs[j]<k xs[i]
    ·exact absurd (.inl a2) h2
    ·omega
  rcases zN (v xs[i]) (v xs[j]) with t | t | t
  ·exact absurd (.inr ⟨hk,t⟩) h1
  ·rw [hk,t]
  ·exact absurd (.inr ⟨hk.symm,t⟩) h2
 have hp:=List.pairwise_iff_getElem.1 hnd;rcases Nat.lt_trichotomy i j with h | h | h
 ·exact absurd (by rw [List.getElem_map,List.getElem_map];exact e) (hp i j (by simpa using hi) (by simpa using hj) h)
 ·exact h
 ·exact absurd (by rw [List.getElem_map,List.getElem_map];exact e.symm) (hp j i (by simpa using hj) (by simpa using hi) h)
theorem tw {α:Type} (c:α→List AV) (kf:α→Int) (key:α→ak) (c2 c3 c4 c5 c6:α→AV) (h1c:∀ x,(c x).all AV.one=true) (hc:∀ x,c x=[.int .i64 (kf x),.str (key x),c2 x,c3 x,c4 x,c5 x,c6 x]) (xs r:List α) (H:kK kf key xs=some r) :
 bg Tryz.prog 26 [.rslice 1000,.fn 27 []] [(1000,.row 62 7 (xs.map c))] (fun v h=>v = .tup []∧h=[(1000,.row 62 7 (r.map c))]):=by
 unfold kK at H;refine aP H fun hn H => ?_;refine bc H fun e => ?_;subst e;refine qV c (fun x=>by rw [hc];rfl) (fun x v hv=>My.1 (h1c x) v hv) (yH kf key) (qy Hh fun x=>(kf x,key x)) 27
  (fun enc hk h1 cf hO blk cap d w=>C9 enc hk h1 cf hO blk cap d w) vD (fun W X x y A B hA hB => ?_) xs hn.1 (fun i j hi hj=>A8 kf key xs hn.2 i j hi hj)
 have key2:∀ {z:α} {A:Array Value},D W X (.agg (c z)) (.agg A)→∃ a2 a3 a4 a5 a6,A = #[.int .i64 (kf z),.string ⟨(key z).toArray⟩,a2,a3,a4,a5,a6]:=by
  intro z A h;rw [hc] at h;generalize hL:[AV.int .i64 (kf z),AV.str (key z),c2 z,c3 z,c4 z,c5 z,c6 z]=L at h;cases h with
  | agg cs vs hl hd =>
   subst hL;have d0:=(show D W X (.int .i64 (kf z)) (A.getD 0 undef) from hd 0 (by simp)).int_inv;have d1:=(show D W X (.str (key z)) (A.getD 1 undef) from hd 1 (by simp)).str_inv;have hs:A.size=7:=by simpa using hl.symm
   refine ⟨A.getD 2 undef,A.getD 3 undef,A.getD 4 undef,A.getD 5 undef,A.getD 6 undef,?_⟩;refine Array.ext (by simp [hs]) fun i hi h2 => ?_;match i,hi with
   | 0,_=>simpa [Mn,hs] using d0
   | 1,_=>simpa [Mn,hs] using d1.1
   | 2,_=>simp [Mn,hs]
   | 3,_=>simp [Mn,hs]
   | 4,_=>simp [Mn,hs]
   | 5,_=>simp [Mn,hs]
   | 6,_=>simp [Mn,hs]
   | (n+7),hi=>omega
 obtain ⟨a2,a3,a4,a5,a6,rfl⟩:=key2 hA;obtain ⟨b2,b3,b4,b5,b6,rfl⟩:=key2 hB;have hh:=Ff (kf x) (kf y) a2 a3 a4 a5 a6 b2 b3 b4 b5 b6 (key x) (key y) W
 rwa [I0] at hh
def Jf (x:ak) (b:UInt8):Int:=match x.findIdx? (· == b) with | some i=>(i:Int) | none => -1
theorem Eb (b:UInt8):∀ x:ak,Lib.indexByte x b=Jf x b
 | []=>rfl
 | a::x=>by
  have ih:=Eb b x;simp only [Lib.indexByte];rw [ih];unfold Jf;rw [List.findIdx?_cons];cases h:a==b with
  | true=>rfl
  | false =>
   cases hx:x.findIdx? (· == b) with
   | none=>rfl
   | some i =>
    simp only [Option.map_some];rw [if_neg (by simp),if_neg (by simp only [beq_iff_eq];omega)];simp
def oR (x:ak) (b:UInt8):Option Int:=some (Jf x b)
theorem vr (x:ak) (b:UInt8) (r:Int) (H:oR x b=some r):br Tryz.prog 132 [.str x,.int .u8 b.toNat] (.int .i64 r):=by
 unfold oR at H;refine bc H fun e => ?_;subst e;refine py rfl fun w X vs hl hX hd _ => ?_;have d0:=(show D w X (.str x) (vs.getD 0 undef) from hd 0 (by simp)).str_inv;have d1:=(show D w X (.int .u8 b.toNat) (vs.getD 1 undef) from hd 1 (by simp)).int_inv;rw [IJ (vs:=vs) (by simpa using hl),d0.1,d1];have h:=Any.stringslite_IndexByte Tryz.lays217 ⟨x.toArray⟩ b.toNat w;have e2:((b.toNat:Int)).toNat.toUInt8=b:=by simp
 rw [e2] at h;have e3:Lib.indexByte (⟨x.toArray⟩:ByteArray).data.toList b=Jf x b:=Eb b x;rw [e3] at h;exact h.mono fun e w' ⟨a,c⟩=>by subst c;exact ⟨_,a,.refl _ _,.int _ _⟩
end Go.Proofs.YtoebmibmmlcfiaaGreatDoor
namespace Go.Proofs
open Go.Shelf
def Tryz.lays264_ren:Go.Shelf.Ren:=⟨fun | 264=>147 | n=>n,fun | 53=>171 | 46=>123 | n=>n,fun | n=>n⟩
theorem Tryz.lays264:Go.Proofs.Lays.n264 Tryz.prog Tryz.lays264_ren:={
 mixed:=by kernel_rfl
 f264:=Tryz.func147.trans (congrArg some (by kernel_rfl))
 t46:=Tryz.underlying123
 a46:=Tryz.isAgg123
 z46:=Tryz.sizeOf123
 v46:=Tryz.zeroValue123
 t53:=Tryz.underlying171
 a53:=Tryz.isAgg171
 z53:=Tryz.sizeOf171
 v53:=Tryz.zeroValue171 }
end Go.Proofs
namespace Go.Proofs.YtoebmibmmlcfiaaGreatDoor
open Go.RowKit Go.Ab Go.Sh Go.Proofs
def eU (x y c:Int):Option (Int×Int):=bX ((0≤x∧x<18446744073709551616)∧(0≤y∧y<18446744073709551616)∧0≤c∧c≤1) <| some ((x+y+c) % 18446744073709551616,(x+y+c) / 18446744073709551616)
def my (x y c:Int):Option (Int×Int):=bX ((0≤x∧x<18446744073709551616)∧(0≤y∧y<18446744073709551616)∧0≤c∧c≤1) <| some ((x-y-c) % 18446744073709551616,if x<y+c then 1 else 0)
def mA (x y:Int):Option (Int×Int):=bX ((0≤x∧x<18446744073709551616)∧(0≤y∧y<18446744073709551616)) <| some (x*y / 18446744073709551616,x*y % 18446744073709551616)
theorem jv (x y c:Int) (r:Int×Int) (H:eU x y c=some r) (w:World):(callFunc 266 [.int .u64 x,.int .u64 y,.int .u64 c].toArray).run Tryz.prog w = .ok (.value (.tuple [.int .u64 r.1,.int .u64 r.2].toArray)) w:=by refine aP H fun g H => ?_;refine bc H fun e => ?_;subst e;obtain ⟨⟨a1,a2⟩,⟨b1,b2⟩,c1,c2⟩:=g;obtain ⟨X,rfl⟩:=Int.eq_ofNat_of_zero_le a1;obtain ⟨Y,rfl⟩:=Int.eq_ofNat_of_zero_le b1;obtain ⟨C,rfl⟩:=Int.eq_ofNat_of_zero_le c1;show (callFunc 266 #[.int .u64 X,.int .u64 Y,.int .u64 C]).run Tryz.prog w=_;rw [run_callFunc_extern Tryz.func266 (by kernel_rfl) (by kernel_rfl) (by kernel_rfl) (e:=add64Entry) (by kernel_rfl),run_add64 X Y C (by omega) (by omega) (by omega) (by omega)];rfl
theorem rq (x y c:Int) (r:Int×Int) (H:my x y c=some r) (w:World):(callFunc 268 [.int .u64 x,.int .u64 y,.int .u64 c].toArray).run Tryz.prog w = .ok (.value (.tuple [.int .u64 r.1,.int .u64 r.2].toArray)) w:=by
 refine aP H fun g H => ?_;refine bc H fun e => ?_;subst e;obtain ⟨⟨a1,a2⟩,⟨b1,b2⟩,c1,c2⟩:=g;obtain ⟨X,rfl⟩:=Int.eq_ofNat_of_zero_le a1;obtain ⟨Y,rfl⟩:=Int.eq_ofNat_of_zero_le b1;obtain ⟨C,rfl⟩:=Int.eq_ofNat_of_zero_le c1;show (callFunc 268 #[.int .u64 X,.int .u64 Y,.int .u64 C]).run Tryz.prog w=_;rw [run_callFunc_extern Tryz.func268 (by kernel_rfl) (by kernel_rfl) (by kernel_rfl) (e:=sub64Entry) (by kernel_rfl),run_sub64 X Y C (by omega)];simp only [Result.andThen];have e1:(((X+18446744073709551616-Y-C) % 18446744073709551616:Nat):Int)=((X:Int)-Y-C) % 18446744073709551616:=by omega
 have e2:((if X<Y+C then 1 else 0:Nat):Int)=if (X:Int)<Y+C then 1 else 0:=by
  by_cases h:X<Y+C
  ·rw [if_pos h,if_pos (by omega)];rfl
  ·rw [if_neg h,if_neg (by omega)];rfl
 rw [e1,e2]
theorem qw (x y:Int) (r:Int×Int) (H:mA x y=some r):br Tryz.prog 147 [.int .u64 x,.int .u64 y] (.tup [.int .u64 r.1,.int .u64 r.2]):=by refine aP H fun g H => ?_;refine bc H fun e => ?_;subst e;obtain ⟨⟨a1,a2⟩,b1,b2⟩:=g;obtain ⟨X,rfl⟩:=Int.eq_ofNat_of_zero_le a1;obtain ⟨Y,rfl⟩:=Int.eq_ofNat_of_zero_le b1;refine py rfl fun w Z vs hl _ hd gp => ?_;have h0:=(hd 0 (by simp)).int_inv;have h1:=(hd 1 (by simp)).int_inv;rw [IJ (vs:=vs) (by simpa using hl),h0,h1];refine (Any.bits_Mul64 Tryz.lays264 X Y (by omega) (by omega) w).mono fun e w' ⟨e1,e2⟩ => ?_;exact ⟨_,e1,by rw [e2];exact .refl _ _,.pair (.int _ _) (.int _ _)⟩
end Go.Proofs.YtoebmibmmlcfiaaGreatDoor
namespace Go.Ab
open Go.RowKit Go.Sh
theorem bg.es {P:Program} {f:FuncId} {args:List AV} {h0:List (Nat×AO)} {Q:AV→List (Nat×AO)→Prop} (i:Nat) (h:bg P f (args.set i (.dslice [])) h0 Q) (hi:args.getD i .any = .eslice):bg P f args h0 Q :=
 fun c vs hl hr hg=>h c vs (by simpa using hl) hr fun j hj=>by
  have hj':j<args.length:=by simpa using hj
  by_cases e:j=i
  ·subst e;have h1:=hg j hj';rw [hi] at h1;obtain ⟨ad,e1⟩:=h1.eslice_inv;rw [e1];have h2:(args.set j (.dslice [])).getD j .any = .dslice []:=by simp [Mk,hj']
   rw [h2];exact .d (.dnil _ _ (Nat.zero_le _))
  ·have h2:(args.set i (.dslice [])).getD j .any=args.getD j .any:=by simp [Mk,List.getElem?_set,Ne.symm e]
   rw [h2];exact hg j hj'
end Go.Ab
