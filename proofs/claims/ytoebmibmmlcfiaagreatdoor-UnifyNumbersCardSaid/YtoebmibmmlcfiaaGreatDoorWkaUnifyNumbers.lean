/- What functions of the program compute, walked: each as a plain function, with the theorem that the code computes it wherever that answers. Printed by a program, part 1. -/
import Derived.Test.YtoebmibmmlcfiaaGreatDoorFrcUnifyNumbers
import Derived.KernelRfl
import Derived.Test.YtoebmibmmlcfiaaGreatDoorProg
set_option linter.unusedSimpArgs false
set_option linter.unusedVariables false
namespace Go.Proofs.YtoebmibmmlcfiaaGreatDoor
open Go.RowKit Go.Ab Go.Sh
theorem cB {a b:Bool} (h:a=b):AV.bool a=AV.bool b:=congrArg AV.bool h
theorem cN {a b:Bool} (h:a=b):AV.bool (!a)=AV.bool (!b):=congrArg (fun x=>AV.bool (!x)) h
theorem aC {p:Prop} {ps:List Prop} (h:p) (h2:cq ps):cq (p::ps):=all_cons h h2
theorem aN:cq []:=all_nil
theorem aT {ps:List Prop} (h2:cq ps):cq (True::ps):=all_cons trivial h2
theorem aB {a b:Bool} {ps:List Prop} (h:a=b) (h2:cq ps):cq ((AV.bool a=AV.bool b)::ps):=all_cons (cB h) h2
theorem aM {a b:Bool} {ps:List Prop} (h:a=b) (h2:cq ps):cq ((AV.bool (!a)=AV.bool (!b))::ps):=all_cons (cN h) h2
theorem aF {P:Program} {f:FuncId} {args:List AV} {v:AV} {ps:List Prop} (h:br P f args v) (h2:cq ps):cq (bg P f args [] (fun r _=>r=v)::ps):=all_cons (br.is h) h2
theorem pI (n:Nat) (h:n<9223372036854775807):vE (((n:Nat):Int)+1):=by unfold vE;omega
theorem lF (i n:Nat) (h:¬ i<n):decide (((i:Nat):Int)<((n:Nat):Int))=false:=Mq (by omega)
theorem lT (i n:Nat) (h:i<n):decide (((i:Nat):Int)<((n:Nat):Int))=true:=Mr (by omega)
def nI (n:Nat):AV:=.int .i64 ((n:Nat):Int)
def iI (n:Int):AV:=.int .i64 n
def dS {α:Type} (c:α→List AV) (x:List α):AV:=.dslice (x.map c)
def r0 (d:List tj):Sg:=.rg 0 [] d
abbrev bT:AV:=.bool true
abbrev bF:AV:=.bool false
section
variable {c:Code} {fs:List Fr} {s:AS} {Q:Exit→AS→Prop}
theorem pR (n:Nat) (sg:List Sg) (cs:List Cd) (ks:List Nat) {rs:List ResultVar} {v:AV} {h1:List (Nat×AO)} {ps:List Prop} (hp:cq ps) (h:K8 Tryz.prog rs cs ks (path Tryz.prog n sg c fs s)=some (ps,v,h1):=by kernel_rfl):eS Tryz.prog c (cg Tryz.prog fs (Jv Tryz.prog rs v h1)) s:=Il Tryz.mo n sg cs ks hp h
theorem pB (n:Nat) (sg:List Sg) (cs:List Cd) (S:AS) {ps:List Prop} (hp:cq ps) (h:KA cs (path Tryz.prog n sg c fs s)=some (ps,S,S):=by kernel_rfl):eS Tryz.prog c (cg Tryz.prog fs Q) s:=tJ Tryz.mo n sg cs S hp h
theorem pA (n:Nat) (sg:List Sg) (cs:List Cd) (m:Nat) (bs:List Bool) (S:AS) {ps:List Prop} (hp:cq ps) (ht:eS Tryz.prog (np m bs c fs).1 (cg Tryz.prog (np m bs c fs).2 Q) S)
 (h:Le cs (path Tryz.prog n sg c fs s)=some (ps,(np m bs c fs).1,(np m bs c fs).2,S):=by kernel_rfl):eS Tryz.prog c (cg Tryz.prog fs Q) s:=He Tryz.mo n sg cs m bs S hp h ht
def kS (x:Option (List Prop×Code×List Fr×AS)):AS:=match x with | some r=>r.2.2.2 | none=>⟨0,[],[]⟩
theorem pD (n:Nat) (sg:List Sg) (cs:List Cd) (m:Nat) (bs:List Bool) {ps:List Prop} (hp:cq ps) (ht:eS Tryz.prog (np m bs c fs).1 (cg Tryz.prog (np m bs c fs).2 Q) (kS (Le cs (path Tryz.prog n sg c fs s))))
 (h:Le cs (path Tryz.prog n sg c fs s)=some (ps,(np m bs c fs).1,(np m bs c fs).2,kS (Le cs (path Tryz.prog n sg c fs s))):=by kernel_rfl):eS Tryz.prog c (cg Tryz.prog fs Q) s:=He Tryz.mo n sg cs m bs _ hp h ht
theorem aX {f:FuncId} {fn:Func} {args:List AV} {h h1:List (Nat×AO)} {v:AV} (hf:Tryz.prog.funcs[f]? = some fn) (n:Nat) (rs:List ResultVar) (ht:eS Tryz.prog (xM fn) (cg Tryz.prog [] (Jv Tryz.prog rs v h1)) ⟨n,oL args 0,h⟩)
 (hok:(tA fn&&Nat.beq fn.ntmps n&&Nat.ble args.length n)=true:=by kernel_rfl) (hrs:fn.results.toList=rs:=by kernel_rfl):bg Tryz.prog f args h (fun r h'=>r=v∧h'=h1):=Gn hf n rs hok hrs ht
theorem pJ {ε ρ:Type} (k:Nat) (S:ε→AS) (R:Out ε ρ) (h1:eS Tryz.prog c (cg Tryz.prog (Cs k (LQ S R) fs) Q) s) (h2:∀ e,R = .brk e→eS Tryz.prog (xD k fs) (cg Tryz.prog (fs.drop (k+1)) Q) (S e)) (hk:tz k fs=true:=by kernel_rfl):eS Tryz.prog c (cg Tryz.prog fs Q) s:=Jn k S R hk h1 h2
theorem pC {σ ε ρ:Type} {body:Nat→σ→Option (fE σ ε ρ)} {fin:Nat→σ→ε} {N i0:Nat} {st0:σ} {R:Out ε ρ} (S:Nat→σ→AS) (H:fA body fin (N-i0) i0 st0=some R)
 (zero:∀ i st,N≤i→R = .brk (fin i st)→eS Tryz.prog (nX c) (cg Tryz.prog (.bar dead::fs) Q) (S i st))
 (succ:∀ i st,i<N→∀ q,body i st=some q→uY q R→eS Tryz.prog (nX c) (cg Tryz.prog (.bar (Ma (S (i+1)) q)::fs) Q) (S i st)) (hc:xX c=true:=by kernel_rfl):eS Tryz.prog c (cg Tryz.prog fs Q) (S i0 st0):=LL S hc H zero succ
end
theorem aO (n:Int) {ps:List Prop} (h2:cq ps) (h:vE n:=by unfold vE;omega):cq (vE n::ps):=all_cons h h2
theorem aI {α:Type} {f:α→List AV} {sz:Nat} (hf:∀ x,(f x).length=sz) (l:List α) (n:Nat) (d:α) {ps:List Prop} (h2:cq ps) (h:n<l.length:=by omega) (h0:0<sz:=by decide) :
 cq ((((0:Int)≤(n:Int)∧(n:Int)<((l.map f).length:Int))∧(((l.map f).getD (n:Int).toNat []).length=sz∧0<sz))::(AV.dptr ((l.map f).getD (n:Int).toNat []) = .dptr (f (l.getD n d)))::ps):=a8 (ix d hf h0 h) h2
theorem aH (n:Nat) {ps:List Prop} (h2:cq ps) (h:n<9223372036854775807:=by omega):cq (vE (((n:Nat):Int)+1)::ps):=all_cons (pI n h) h2
def V:Nat→List tj→List tj
 | 0,l=>l
 | n+1,l=>.v::V n l
def V1:Sg:=r0 [.v]
def V2:Sg:=r0 [.v,.v]
def V3:Sg:=r0 [.v,.v,.v]
def V4:Sg:=r0 (V 4 [])
def V5:Sg:=r0 (V 5 [])
def V6:Sg:=r0 (V 6 [])
theorem sI {α:Type} {x r:α} (h:some x=some r):x=r:=Mx h
theorem mo:Tryz.prog.follows .mixedOrders=true:=Tryz.mo
structure au where
 Var:ak
 C:Int
 deriving DecidableEq
def aw (x:au):List AV:=[.str x.Var,.int .i64 x.C]
theorem cy (x:au):(aw x).length=2:=rfl
theorem mV (x:au):(aw x).length=2∧(aw x).all (fun v=>v.one&&v.fl)=true:=⟨rfl,rfl⟩
structure Linear where
 Const:Int
 Terms:(List au)
 deriving DecidableEq
def ah (x:Linear):List AV:=[.int .i64 x.Const,.dslice (x.Terms.map aw)]
theorem cP (x:Linear):(ah x).length=2:=rfl
theorem kz (x:Linear):(ah x).length=2∧(ah x).all (fun v=>v.one&&v.fl)=true:=⟨rfl,rfl⟩
structure Shape where
 Row:ak
 Dims:(List Linear)
 deriving DecidableEq
def aV (x:Shape):List AV:=[.str x.Row,.dslice (x.Dims.map ah)]
theorem KX (x:Shape):(aV x).length=2:=rfl
theorem FZ (x:Shape):(aV x).length=2∧(aV x).all (fun v=>v.one&&v.fl)=true:=⟨rfl,rfl⟩
structure eh where
 Elem:ak
 Shape:Shape
 deriving DecidableEq
def yu (x:eh):List AV:=[.str x.Elem,.str x.Shape.Row,.dslice (x.Shape.Dims.map ah)]
theorem GD (x:eh):(yu x).length=3:=rfl
theorem LU (x:eh):(yu x).length=3∧(yu x).all (fun v=>v.one&&v.fl)=true:=⟨rfl,rfl⟩
def aZ (x:ak):List AV:=[.str x]
theorem tG (x:ak):(aZ x).length=1:=rfl
theorem pY (x:ak):(aZ x).length=1∧(aZ x).all (fun v=>v.one&&v.fl)=true:=⟨rfl,rfl⟩
def ai (x:Int):List AV:=[.int .i64 x]
theorem jJ (x:Int):(ai x).length=1:=rfl
theorem ou (x:Int):(ai x).length=1∧(ai x).all (fun v=>v.one&&v.fl)=true:=⟨rfl,rfl⟩
def tC (x:UInt8):List AV:=[.int .u8 ((x).toNat:Int)]
theorem sd (x:UInt8):(tC x).length=1:=rfl
theorem Lo (x:UInt8):(tC x).length=1∧(tC x).all (fun v=>v.one&&v.fl)=true:=⟨rfl,rfl⟩
abbrev aJ:au:=⟨[],0⟩
abbrev aD:Linear:=⟨0,[]⟩
structure aG where
 A:eh
 B:eh
 deriving DecidableEq
def az (x:aG):List AV:=[.str x.A.Elem,.str x.A.Shape.Row,.dslice (x.A.Shape.Dims.map ah),.str x.B.Elem,.str x.B.Shape.Row,.dslice (x.B.Shape.Dims.map ah)]
theorem gv (x:aG):(az x).length=6:=rfl
theorem ya (x:aG):(az x).length=6∧(az x).all (fun v=>v.one&&v.fl)=true:=⟨rfl,rfl⟩
structure Bind where
 Kind:Int
 Var:ak
 Dim:Linear
 Row:Shape
 Elem:ak
 deriving DecidableEq
def aq (x:Bind):List AV:=[.int .i64 x.Kind,.str x.Var,.int .i64 x.Dim.Const,.dslice (x.Dim.Terms.map aw),.str x.Row.Row,.dslice (x.Row.Dims.map ah),.str x.Elem]
theorem cF (x:Bind):(aq x).length=7:=rfl
theorem iV (x:Bind):(aq x).length=7∧(aq x).all (fun v=>v.one&&v.fl)=true:=⟨rfl,rfl⟩
abbrev nu:Shape:=⟨[],[]⟩
abbrev CN:eh:=⟨[],nu⟩
abbrev ag:aG:=⟨CN,CN⟩
abbrev ao:Bind:=⟨0,[],aD,nu,[]⟩
def ay (x:(Linear×Linear)):List AV:=[.int .i64 x.1.Const,.dslice (x.1.Terms.map aw),.int .i64 x.2.Const,.dslice (x.2.Terms.map aw)]
theorem vz (x:(Linear×Linear)):(ay x).length=4:=rfl
theorem wX (x:(Linear×Linear)):(ay x).length=4∧(ay x).all (fun v=>v.one&&v.fl)=true:=⟨rfl,rfl⟩
def sS (x:(List Linear)):List AV:=[.dslice (x.map ah)]
theorem Hp (x:(List Linear)):(sS x).length=1:=rfl
theorem IH (x:(List Linear)):(sS x).length=1∧(sS x).all (fun v=>v.one&&v.fl)=true:=⟨rfl,rfl⟩
structure aj where
 Mults:(List Int)
 Mod:Int
 deriving DecidableEq
def gZ (x:aj):List AV:=[.dslice (x.Mults.map ai),.int .i64 x.Mod]
theorem yc (x:aj):(gZ x).length=2:=rfl
theorem yh (x:aj):(gZ x).length=2∧(gZ x).all (fun v=>v.one&&v.fl)=true:=⟨rfl,rfl⟩
def oo (x:Bool):List AV:=[.bool x]
theorem Lm (x:Bool):(oo x).length=1:=rfl
theorem G8 (x:Bool):(oo x).length=1∧(oo x).all (fun v=>v.one&&v.fl)=true:=⟨rfl,rfl⟩
structure ae where
 q:Linear
 mults:(List (Int×Int))
 scale:Int
 lost:Bool
 deriving DecidableEq
def ab (x:ae):List AV:=[.int .i64 x.q.Const,.dslice (x.q.Terms.map aw),.dmap (x.mults.map (dR ai)),.int .i64 x.scale,.bool x.lost]
theorem CD (x:ae):(ab x).length=5:=rfl
theorem tV (x:ae):(ab x).length=5∧(ab x).all (fun v=>v.one&&v.fl)=true:=⟨rfl,rfl⟩
abbrev aa:ae:=⟨aD,[],0,false⟩
def zV (x:Int):List AV:=[.int .i8 x]
theorem JQ (x:Int):(zV x).length=1:=rfl
theorem KE (x:Int):(zV x).length=1∧(zV x).all (fun v=>v.one&&v.fl)=true:=⟨rfl,rfl⟩
def dU (x:(Int×Int)):List AV:=[.int .i8 x.1,.int .i8 x.2]
theorem vA (x:(Int×Int)):(dU x).length=2:=rfl
theorem Hn (x:(Int×Int)):(dU x).length=2∧(dU x).all (fun v=>v.one&&v.fl)=true:=⟨rfl,rfl⟩
structure Value where
 Var:ak
 N:Int
 deriving DecidableEq
def iM (x:Value):List AV:=[.str x.Var,.int .i64 x.N]
theorem ti (x:Value):(iM x).length=2:=rfl
theorem Li (x:Value):(iM x).length=2∧(iM x).all (fun v=>v.one&&v.fl)=true:=⟨rfl,rfl⟩
abbrev nF:Value:=⟨[],0⟩
def strings_IndexByte (x0:ak) (x1:UInt8):Option Int :=
 (oR x0 x1).bind fun y0 =>
 some y0
theorem sj (x0:ak) (x1:UInt8) (r:Int) (H:strings_IndexByte x0 x1=some r):br Tryz.prog 71 [.str x0,.int .u8 ((x1).toNat:Int)] (iI r):=by unfold strings_IndexByte at H;refine aX Tryz.func71 8 [.tmp 4] ?_;refine aL H fun y0 h0 H0 => ?_;refine bc H0 fun e0 => ?_;subst e0;exact pR 5 [V1,r0 [.v,.v,.c true (iI y0),.v]] [] [] (aC Tryz.call132 (aF (vr x0 x1 y0 h0) aN))
def bQ (x0 x1:ak):Option Bool :=
 bif decide (((x0.length:Nat):Int)≥((x1.length:Nat):Int)) then (
  bX (x1.length≤x0.length) <|
  some ((x0.take x1.length)==x1)
 ) else (
  some false
 )
theorem cZ (x0 x1:ak) (r:Bool) (H:bQ x0 x1=some r):br Tryz.prog 187 [.str x0,.str x1] (.bool r):=by
 unfold bQ at H;refine aX Tryz.func187 18 [.tmp 4] ?_;refine aU H (fun c0 H0 => ?_) (fun c1 H1 => ?_)
 ·have c0p:=Mp c0;refine aP H0 fun g0 H2 => ?_;obtain rfl:=sI H2;exact pR 5 [V1,r0 (V 4 [.e bT,.v,.v,.v,.v,.e (.str (x0.take x1.length)),.v,.v,.v,.v])] [] [] (aT (aT (aB c0 (aT (aC (show (0:Int)≤0∧0≤((x1.length:Nat):Int)∧((x1.length:Nat):Int)≤(x0.length:Int) from by omega) (aC (sf x0 x1.length) aN))))))
 ·obtain rfl:=sI H1;exact pR 5 [V1,r0 (V 4 [.e bF,.v,.s,.s,.s,.s,.s,.s,.v,.v])] [] [] (aT (aT (aB c1 aN)))
def dC (x0 x1:ak):Option (ak×Bool) :=
 (bQ x0 x1).bind fun y0 =>
 bif y0 then (
  bX (x1.length≤x0.length) <|
  some ((x0.drop x1.length),true)
 ) else (
  some (x0,false)
 )
theorem jV (x0 x1:ak) (r:ak×Bool) (H:dC x0 x1=some r):br Tryz.prog 140 [.str x0,.str x1] (.tup [.str r.1,.bool r.2]):=by
 unfold dC at H;refine aX Tryz.func140 15 [.tmp 4,.tmp 5] ?_;refine aL H fun y0 h0 H0 => ?_;refine aU H0 (fun c0 H1 => ?_) (fun c1 H2 => ?_)
 ·refine aP H1 fun g0 H3 => ?_;obtain rfl:=sI H3;exact pR 11 [V2,r0 [.v,.v,.c true (.bool y0),.v],.eqT 9 bF,r0 [.v,.v,.v,.e (.str (x0.drop x1.length)),.v,.v]] [] [] (aC Tryz.call187 (aF (cZ _ _ _ h0) (aT (aM c0 (aT (aC (show (0:Int)≤((x1.length:Nat):Int)∧((x1.length:Nat):Int)≤(x0.length:Int)∧(x0.length:Int)≤(x0.length:Int) from by omega) (aC (kR x0 x1.length) aN)))))))
 ·obtain rfl:=sI H2;exact pR 10 [V2,r0 [.v,.v,.c true (.bool y0),.v],.eqT 9 bT,V3] [] [] (aC Tryz.call187 (aF (cZ _ _ _ h0) (aT (aM c1 aN))))
def strings_CutPrefix (x0 x1:ak):Option (ak×Bool) :=
 (dC x0 x1).bind fun y0 =>
 some (y0.1,y0.2)
theorem iK (x0 x1:ak) (r:ak×Bool) (H:strings_CutPrefix x0 x1=some r):br Tryz.prog 80 [.str x0,.str x1] (.tup [.str r.1,.bool r.2]):=by unfold strings_CutPrefix at H;refine aX Tryz.func80 11 [.tmp 4,.tmp 5] ?_;refine aL H fun y0 h0 H0 => ?_;obtain rfl:=sI H0;exact pR 5 [V2,r0 [.v,.v,.c true (.tup [.str y0.1,.bool y0.2]),.v,.v,.v,.v]] [] [] (aC Tryz.call140 (aF (jV _ _ _ h0) aN))
def cr (x0 x1:ak):Option Bool :=
 bif decide (((x0.length:Nat):Int)≥((x1.length:Nat):Int)) then (
  bX (0≤(aS (((x0.length:Nat):Int)-((x1.length:Nat):Int)))∧(aS (((x0.length:Nat):Int)-((x1.length:Nat):Int)))≤(x0.length:Int)) <|
  some ((x0.drop ((aS (((x0.length:Nat):Int)-((x1.length:Nat):Int))).toNat))==x1)
 ) else (
  some false
 )
theorem dc (x0 x1:ak) (r:Bool) (H:cr x0 x1=some r):br Tryz.prog 208 [.str x0,.str x1] (.bool r):=by
 unfold cr at H;refine aX Tryz.func208 21 [.tmp 4] ?_;refine aU H (fun c0 H0 => ?_) (fun c1 H1 => ?_)
 ·have c0p:=Mp c0;refine aP H0 fun g0 H2 => ?_;obtain rfl:=sI H2;exact pR 5 [V1,r0 (V 4 [.e bT,.v,.v,.v,.v,.v,.v,.w,.e (.str (x0.drop ((aS (((x0.length:Nat):Int)-((x1.length:Nat):Int))).toNat))),.v,.v,.v,.v])] [] [] (aT (aT (aB c0 (aT (aT (aC (show (0:Int)≤(aS (((x0.length:Nat):Int)-((x1.length:Nat):Int)))∧(aS (((x0.length:Nat):Int)-((x1.length:Nat):Int)))≤(x0.length:Int)∧(x0.length:Int)≤(x0.length:Int) from by omega) (aC (kR x0 ((aS (((x0.length:Nat):Int)-((x1.length:Nat):Int))).toNat)) aN)))))))
 ·obtain rfl:=sI H1;exact pR 5 [V1,r0 (V 4 [.e bF,.v,.s,.s,.s,.s,.s,.s,.s,.s,.s,.v,.v])] [] [] (aT (aT (aB c1 aN)))
def dA (x0 x1:ak):Option (ak×Bool) :=
 (cr x0 x1).bind fun y0 =>
 bif y0 then (
  bX (0≤(aS (((x0.length:Nat):Int)-((x1.length:Nat):Int)))∧(aS (((x0.length:Nat):Int)-((x1.length:Nat):Int)))≤(x0.length:Int)) <|
  some ((x0.take ((aS (((x0.length:Nat):Int)-((x1.length:Nat):Int))).toNat)),true)
 ) else (
  some (x0,false)
 )
theorem kj (x0 x1:ak) (r:ak×Bool) (H:dA x0 x1=some r):br Tryz.prog 173 [.str x0,.str x1] (.tup [.str r.1,.bool r.2]):=by
 unfold dA at H;refine aX Tryz.func173 18 [.tmp 4,.tmp 5] ?_;refine aL H fun y0 h0 H0 => ?_;refine aU H0 (fun c0 H1 => ?_) (fun c1 H2 => ?_)
 ·refine aP H1 fun g0 H3 => ?_;obtain rfl:=sI H3;exact pR 11 [V2,r0 [.v,.v,.c true (.bool y0),.v],.eqT 9 bF,r0 (V 5 [.w,.e (.str (x0.take ((aS (((x0.length:Nat):Int)-((x1.length:Nat):Int))).toNat))),.v,.v])] [] [] (aC Tryz.call208 (aF (dc _ _ _ h0) (aT (aM c0 (aT (aT (aC (show (0:Int)≤0∧0≤(aS (((x0.length:Nat):Int)-((x1.length:Nat):Int)))∧(aS (((x0.length:Nat):Int)-((x1.length:Nat):Int)))≤(x0.length:Int) from by omega) (aC (sf x0 ((aS (((x0.length:Nat):Int)-((x1.length:Nat):Int))).toNat)) aN))))))))
 ·obtain rfl:=sI H2;exact pR 10 [V2,r0 [.v,.v,.c true (.bool y0),.v],.eqT 9 bT,V3] [] [] (aC Tryz.call208 (aF (dc _ _ _ h0) (aT (aM c1 aN))))
def strings_CutSuffix (x0 x1:ak):Option (ak×Bool) :=
 (dA x0 x1).bind fun y0 =>
 some (y0.1,y0.2)
theorem l6 (x0 x1:ak) (r:ak×Bool) (H:strings_CutSuffix x0 x1=some r):br Tryz.prog 133 [.str x0,.str x1] (.tup [.str r.1,.bool r.2]):=by unfold strings_CutSuffix at H;refine aX Tryz.func133 11 [.tmp 4,.tmp 5] ?_;refine aL H fun y0 h0 H0 => ?_;obtain rfl:=sI H0;exact pR 5 [V2,r0 [.v,.v,.c true (.tup [.str y0.1,.bool y0.2]),.v,.v,.v,.v]] [] [] (aC Tryz.call173 (aF (kj _ _ _ h0) aN))
def strings_trimLeftByte (x0:ak) (x1:UInt8):Option ak :=
 (oa (σ:=ak) (ε:=ak) (ρ:=Empty) (fun s0 =>
  bif decide (((s0.length:Nat):Int)>0) then (
   bif (((s0.getD 0 0).toNat:Int)==((x1).toNat:Int)) then (
    bX (1≤s0.length) <|
    some (.go (s0.drop 1))
   ) else (
    some (.brk s0)
   )
  ) else (
   some (.brk s0)
  )
 ) 4294967296 x0).bind <| dL fun u0 =>
 some u0
def fS (x1:UInt8) (s0:ak):AS:=⟨17,[(0,.str s0),(1,.int .u8 ((x1).toNat:Int)),(4,.str [])],[]⟩
def fI (u1:ak):AS:=⟨17,[(0,.str u1),(4,.str [])],[]⟩
theorem pO (x0:ak) (x1:UInt8) (r:ak) (H:strings_trimLeftByte x0 x1=some r):br Tryz.prog 180 [.str x0,.int .u8 ((x1).toNat:Int)] (.str r):=by
 unfold strings_trimLeftByte at H;refine aX Tryz.func180 17 [.tmp 4] ?_;refine pA 4 [V1] [.only [0,1,4] []] 4 [] (fS x1 x0) aN ?_;refine aL H fun R0 h0 H0 => ?_;refine pJ 1 (fI) R0 ?_ (fun u0 e0 => ?_)
 ·refine qL (fS x1) (by kernel_rfl) h0 (fun s0 q0 h1 h2 => ?_)
  ·refine aU h1 (fun c0 H1 => ?_) (fun c1 H2 => ?_)
   ·have c0p:=Mp c0;refine aU H1 (fun c2 H3 => ?_) (fun c3 H4 => ?_)
    ·refine aP H3 fun g0 H5 => ?_;obtain rfl:=sI H5;exact pB 8 [r0 [.v,.v,.e bT,.v,.v,.v,.v,.v,.v],.eqT 13 bT,r0 [.v,.e (.str (s0.drop 1)),.v]] [.only [0,1,4] []] (fS x1 (s0.drop 1)) (aT (aB c0 (aC (show (0:Int)≤0∧0<(s0.length:Int) from by omega) (aB c2 (aC (show (0:Int)≤1∧1≤(s0.length:Int)∧(s0.length:Int)≤(s0.length:Int) from by omega) (aC (kR s0 1) aN))))))
    ·obtain rfl:=sI H4;obtain rfl:=ja h2;exact pB 6 [r0 [.v,.v,.e bT,.v,.v,.v,.v,.v,.v],.eqT 13 bF] [.only [0,4] []] (fI s0) (aT (aB c0 (aC (show (0:Int)≤0∧0<(s0.length:Int) from by omega) (aB c3 aN))))
   ·obtain rfl:=sI H2;obtain rfl:=ja h2;exact pB 5 [r0 [.v,.v,.e bF,.v,.s,.s,.s,.s,.v]] [.only [0,4] []] (fI s0) (aT (aB c1 aN))
 ·subst e0;have H6:=bu H0;refine bc H6 fun e1 => ?_;subst e1;exact pR 3 [V2] [] [] aN
def iF (x0 x1:ak):Option ak :=
 bif (x0==[]) then (
  some x0
 ) else (
  bif (x1==[]) then (
   none
  ) else (
   bif (((x1.length:Nat):Int)==1) then (
    bX (0<x1.length) <|
    bif decide (((x1.getD 0 0).toNat:Int)<128) then (
     (strings_trimLeftByte x0 (x1.getD 0 0)).bind fun y0 =>
     some y0
    ) else (
     none
    )
   ) else (
    none
   )
  )
 )
theorem mJ (x0 x1 r:ak) (H:iF x0 x1=some r):br Tryz.prog 215 [.str x0,.str x1] (.str r):=by
 unfold iF at H;refine aX Tryz.func215 37 [.tmp 4] ?_;refine aU H (fun c0 H0 => ?_) (fun c1 H1 => ?_)
 ·refine bc H0 fun e0 => ?_;subst e0;exact pR 9 [V1,r0 [.v,.e bT,.v,.s,.s,.v],V2] [] [] (aB c0 aN)
 ·refine aU H1 (fun c2 H2 => ?_) (fun c3 H3 => ?_)
  ·cases H2
  ·refine aU H3 (fun c4 H4 => ?_) (fun c5 H5 => ?_)
   ·refine aP H4 fun g0 H6 => ?_;refine aU H6 (fun c6 H7 => ?_) (fun c7 H8 => ?_)
    ·have c6p:=Mp c6;refine aL H7 fun y0 h0 H9 => ?_;refine bc H9 fun e1 => ?_;subst e1;exact pR 16 [V1,r0 [.v,.e bF,.v,.v,.v,.v],.eqT 12 bF,r0 [.v,.v,.e bT,.v,.v,.v,.v,.v],.eqT 21 bT,r0 [.v,.v,.v,.c true (.str y0),.v]] [] [] (aB c1 (aB c3 (aT (aB c4 (aC (show (0:Int)≤0∧0<(x1.length:Int) from by omega) (aB c6 (aC (show (0:Int)≤0∧0<(x1.length:Int) from by omega) (aC Tryz.call180 (aF (pO _ _ _ h0) aN)))))))))
    ·cases H8
   ·cases H5
def dG (x0:ak) (x1:Int) (x2:List (ak×Int)):Option ak :=
 (iF x0 [32]).bind fun y0 =>
 some y0
theorem ga (x0:ak) (x1:Int) (x2:List (ak×Int)) (r:ak) (H:dG x0 x1 x2=some r):bg Tryz.prog 176 [.hptr 1000 0] [(1000,.cells 217 [.str x0,iI x1,.amap 1001]),(1001,.smap 0 3 (x2.map (aQ ai)))] (fun r2 h0=>r2=(.tup [])∧h0=[(1000,.cells 217 [.str r,iI x1,.amap 1001]),(1001,.smap 0 3 (x2.map (aQ ai)))]):=by unfold dG at H;refine aX Tryz.func176 10 [] ?_;refine aL H fun y0 h1 H0 => ?_;refine bc H0 fun e0 => ?_;subst e0;exact pR 1 [r0 (V 5 [.c true (.str y0),.v,.v,.m])] [] [1000,1001] (aC Tryz.call215 (aF (mJ _ _ _ h1) aN))
def strings_HasPrefix (x0 x1:ak):Option Bool :=
 (bQ x0 x1).bind fun y0 =>
 some y0
theorem de (x0 x1:ak) (r:Bool) (H:strings_HasPrefix x0 x1=some r):br Tryz.prog 144 [.str x0,.str x1] (.bool r):=by unfold strings_HasPrefix at H;refine aX Tryz.func144 8 [.tmp 4] ?_;refine aL H fun y0 h0 H0 => ?_;refine bc H0 fun e0 => ?_;subst e0;exact pR 5 [V1,r0 [.v,.v,.c true (.bool y0),.v]] [] [] (aC Tryz.call187 (aF (cZ _ _ _ h0) aN))
def jd (x0:ak) (x1:Int) (x2:List (ak×Int)):Option (Int×Bool) :=
 (fA (σ:=Unit) (ε:=Unit) (ρ:=Empty) (fun i0 s0 =>
  (strings_HasPrefix x0 ([[43],[45]].getD i0 [])).bind fun y0 =>
  bif y0 then (
   none
  ) else (
   some (.go ())
  )
 ) (fun i0 s0=>()) (2-0) 0 ()).bind <| dL fun u0 =>
 some (1,false)
def gO (x0:ak) (x1:Int) (x2:List (ak×Int)) (i0:Nat) (s0:Unit):AS:=⟨29,[(0,.hptr 1000 0),(2,iI 0),(3,.bool false),(6,.agg [.str [43],.str [45]]),(7,nI i0)],[(1000,.cells 217 [.str x0,iI x1,.amap 1001]),(1001,.smap 0 3 (x2.map (aQ ai)))]⟩
def ko (x0:ak) (x1:Int) (x2:List (ak×Int)) (u1:Unit):AS:=⟨29,[(2,iI 0),(3,.bool false)],[(1000,.cells 217 [.str x0,iI x1,.amap 1001]),(1001,.smap 0 3 (x2.map (aQ ai)))]⟩
theorem qZ (x0:ak) (x1:Int) (x2:List (ak×Int)) (r:Int×Bool) (H:jd x0 x1 x2=some r):bg Tryz.prog 177 [.hptr 1000 0] [(1000,.cells 217 [.str x0,iI x1,.amap 1001]),(1001,.smap 0 3 (x2.map (aQ ai)))] (fun r2 h0=>r2=(.tup [iI r.1,.bool r.2])∧h0=[(1000,.cells 217 [.str x0,iI x1,.amap 1001]),(1001,.smap 0 3 (x2.map (aQ ai)))]):=by
 unfold jd at H;refine aX Tryz.func177 29 [.tmp 2,.tmp 3] ?_;refine pA 6 [V2,r0 [.b,.v]] [.only [0,2,3,6,7] [1000,1001]] 6 [] (gO x0 x1 x2 0 ()) aN ?_;refine aL H fun R0 h1 H0 => ?_;refine pJ 1 (ko x0 x1 x2) R0 ?_ (fun u0 e0 => ?_)
 ·refine pC (gO x0 x1 x2) h1 (fun i0 s0 h2 e1 => ?_) (fun i0 s0 h3 q0 h4 h5 => ?_)
  ·have c0:decide (((i0:Nat):Int)<2)=false:=Mq (by omega);subst e1;exact pB 5 [r0 [.e bF]] [.only [2,3] [1000,1001]] (ko x0 x1 x2 ()) (aB c0 aN)
  ·have c1:decide (((i0:Nat):Int)<2)=true:=Mr (by omega);refine aL h4 fun y0 h6 H1 => ?_;refine pD 11 [r0 [.e bT],r0 [.v,.we (.str ([[43],[45]].getD i0 [])),.v,.v],r0 (V 5 [.c true (.bool y0)])] [.only [0,2,3,4,6,7,16] [1000,1001]] 11 [true] (aB c1 (aC (show (0:Int)≤((i0:Nat):Int)∧((i0:Nat):Int)<(2:Int)∧((i0:Nat):Int)<(2:Int) from by omega) (aC (KS [[43],[45]] i0 (by omega)) (aC Tryz.call144 (aF (de _ _ _ h6) aN))))) ?_;refine aU H1 (fun c2 H2 => ?_) (fun c3 H3 => ?_)
   ·cases H2
   ·obtain rfl:=sI H3;exact pB 4 [.eqT 16 bF,V2] [.only [0,2,3,6,7] [1000,1001]] (gO x0 x1 x2 (i0+1) ()) (aB c3 (aH i0 aN))
 ·subst e0;have H4:=bu H0;obtain rfl:=sI H4;exact pR 3 [V2] [] [1000,1001] aN
def mc (x0:UInt8):Option Bool :=
 bif decide (((x0).toNat:Int)≥48) then (
  some (decide (((x0).toNat:Int)≤57))
 ) else (
  none
 )
theorem mU (x0:UInt8) (r:Bool) (H:mc x0=some r):br Tryz.prog 212 [.int .u8 ((x0).toNat:Int)] (.bool r):=by
 unfold mc at H;refine aX Tryz.func212 9 [.tmp 2] ?_;refine aU H (fun c0 H0 => ?_) (fun c1 H1 => ?_)
 ·obtain rfl:=sI H0;exact pR 5 [V1,r0 [.v,.e bT,.v,.v,.v,.v,.v]] [] [] (aB c0 aN)
 ·cases H1
def oU (x0:UInt8):Option Bool :=
 bif decide (((x0).toNat:Int)≥97) then (
  bif decide (((x0).toNat:Int)≤122) then (
   some true
  ) else (
   none
  )
 ) else (
  none
 )
theorem vC (x0:UInt8) (r:Bool) (H:oU x0=some r):br Tryz.prog 216 [.int .u8 ((x0).toNat:Int)] (.bool r):=by
 unfold oU at H;refine aX Tryz.func216 17 [.tmp 2] ?_;refine aU H (fun c0 H0 => ?_) (fun c1 H1 => ?_)
 ·refine aU H0 (fun c2 H2 => ?_) (fun c3 H3 => ?_)
  ·obtain rfl:=sI H2;exact pR 5 [V1,r0 [.v,.e bT,.v,.v,.e bT,.v,.v,.s,.s,.v,.v,.s,.s,.v,.v]] [] [] (aB c0 (aB c2 aN))
  ·cases H3
 ·cases H1
def jg (x0:ak) (x1:Int) (x2:List (ak×Int)):Option (ak×ak) :=
 (fA (σ:=Unit) (ε:=Nat) (ρ:=Empty) (fun i0 s0 =>
  (oU (x0.getD i0 0)).bind fun y0 =>
  bif y0 then (
   some (.go ())
  ) else (
   none
  )
 ) (fun i0 s0=>i0) (x0.length-0) 0 ()).bind <| dL fun u0 =>
 bX (u0≤x0.length) <|
 some ((x0.take u0),(x0.drop u0))
def gS (x0:ak) (x1:Int) (x2:List (ak×Int)) (i0:Nat) (s0:Unit):AS:=⟨42,[(0,.hptr 1000 0),(1,.fn 216 []),(4,.str []),(5,nI i0)],[(1000,.cells 217 [.str x0,iI x1,.amap 1001]),(1001,.smap 0 3 (x2.map (aQ ai)))]⟩
def kx (x0:ak) (x1:Int) (x2:List (ak×Int)) (u1:Nat):AS:=⟨42,[(0,.hptr 1000 0),(4,.str []),(5,nI u1)],[(1000,.cells 217 [.str x0,iI x1,.amap 1001]),(1001,.smap 0 3 (x2.map (aQ ai)))]⟩
theorem rC (x0:ak) (x1:Int) (x2:List (ak×Int)) (r:ak×ak) (H:jg x0 x1 x2=some r):bg Tryz.prog 249 [.hptr 1000 0,.fn 216 []] [(1000,.cells 217 [.str x0,iI x1,.amap 1001]),(1001,.smap 0 3 (x2.map (aQ ai)))] (fun r2 h0=>r2=(.str r.1)∧h0=[(1000,.cells 217 [.str r.2,iI x1,.amap 1001]),(1001,.smap 0 3 (x2.map (aQ ai)))]):=by
 unfold jg at H;refine aX Tryz.func249 42 [.tmp 4] ?_;refine pA 6 [V1,V1] [.only [0,1,4,5] [1000,1001]] 6 [] (gS x0 x1 x2 0 ()) aN ?_;refine aL H fun R0 h1 H0 => ?_;refine pJ 1 (kx x0 x1 x2) R0 ?_ (fun u0 e0 => ?_)
 ·refine pC (gS x0 x1 x2) h1 (fun i0 s0 h2 e1 => ?_) (fun i0 s0 h3 q0 h4 h5 => ?_)
  ·have c0:=lF i0 x0.length (by omega);subst e1;exact pB 5 [r0 (V 6 [.e bF,.v,.s,.s,.s,.s,.s,.s,.s,.s,.v])] [.only [0,4,5] [1000,1001]] (kx x0 x1 x2 i0) (aT (aB c0 aN))
  ·have c1:=lT i0 x0.length (by omega);refine aL h4 fun y0 h6 H1 => ?_;refine aU H1 (fun c2 H2 => ?_) (fun c3 H3 => ?_)
   ·refine wg 1000 0 (ps:=[x0.length≤9223372036854775807]) (by kernel_rfl) (fun l0 => ?_);have l1:x0.length≤9223372036854775807:=by simpa only [cq,Mt] using l0
    clear l0;obtain rfl:=sI H2;exact pB 8 [r0 (V 6 [.e bT,.v,.v,.v,.v,.v,.v,.v,.v,.c true (.bool y0),.v]),.eqT 23 bT,V3] [.only [0,1,4,5] [1000,1001]] (gS x0 x1 x2 (i0+1) ()) (aT (aB c1 (aC (show (0:Int)≤((i0:Nat):Int)∧((i0:Nat):Int)<(x0.length:Int) from by omega) (aC Tryz.call216 (aF (vC _ _ h6) (aB c2 (aH i0 aN)))))))
   ·cases H3
 ·subst e0;have H4:=bu H0;refine aP H4 fun g0 H5 => ?_;obtain rfl:=sI H5;exact pR 7 [r0 (V 5 [.e (.str (x0.take u0)),.v]),r0 (V 6 [.e (.str (x0.drop u0)),.v,.v,.m]),V2] [] [1000,1001] (aC (show (0:Int)≤0∧0≤((u0:Nat):Int)∧((u0:Nat):Int)≤(x0.length:Int) from by omega) (aC (sf x0 u0) (aC (show (0:Int)≤((u0:Nat):Int)∧((u0:Nat):Int)≤(x0.length:Int)∧(x0.length:Int)≤(x0.length:Int) from by omega) (aC (kR x0 u0) aN))))
def fg (x0:ak):Option Bool :=
 (strings_HasPrefix x0 [95]).bind fun y0 =>
 bif y0 then (
  bX (1≤x0.length) <|
  (lr (x0.drop 1)).bind fun y1 =>
  bif y1.2 then (
   bif decide (y1.1>0) then (
    bif decide (((x0.length:Nat):Int)≤10) then (
     (iw y1.1).bind fun y2 =>
     some (y2==(x0.drop 1))
    ) else (
     some false
    )
   ) else (
    some false
   )
  ) else (
   some false
  )
 ) else (
  (fA (σ:=Unit) (ε:=Unit) (ρ:=Bool) (fun i0 s0 =>
   ((
    bif decide ((((x0.getD i0 0)).toNat:Int)<97) then (
     bif (((i0:Nat):Int)==0) then (
      some (.ret (.ret false))
     ) else (
      bif decide ((((x0.getD i0 0)).toNat:Int)<48) then (
       some (.ret (.ret false))
      ) else (
       bif decide ((((x0.getD i0 0)).toNat:Int)>57) then (
        some (.ret (.ret false))
       ) else (
        some (.brk ())
       )
      )
     )
    ) else (
     bif decide ((((x0.getD i0 0)).toNat:Int)>122) then (
      bif (((i0:Nat):Int)==0) then (
       some (.ret (.ret false))
      ) else (
       bif decide ((((x0.getD i0 0)).toNat:Int)<48) then (
        some (.ret (.ret false))
       ) else (
        bif decide ((((x0.getD i0 0)).toNat:Int)>57) then (
         some (.ret (.ret false))
        ) else (
         some (.brk ())
        )
       )
      )
     ) else (
      some (.brk ())
     )
    )
   ):Option (Out Unit (fE Unit Unit Bool))).bind (aft fun u0 =>
    some (.go ())
   )
  ) (fun i0 s0=>()) (x0.length-0) 0 ()).bind <| aft fun u1 =>
  bif (x0==[]) then (
   some false
  ) else (
   some (decide (((x0.length:Nat):Int)≤30))
  )
 )
def nD (x0:ak) (i0:Nat) (s0:Unit):AS:=⟨67,[(0,.str x0),(2,.bool false),(34,dS tC x0),(35,nI x0.length),(36,nI i0)],[]⟩
def qF (x0:ak) (u2:Unit):AS:=⟨67,[(0,.str x0),(2,.bool false)],[]⟩
def j9 (x0:ak) (i0:Nat) (u0:Unit):AS:=⟨67,[(0,.str x0),(2,.bool false),(34,dS tC x0),(35,nI x0.length),(36,nI i0)],[]⟩
theorem bt (x0:ak) (r:Bool) (H:fg x0=some r):br Tryz.prog 103 [.str x0] (.bool r):=by
 unfold fg at H;refine aX Tryz.func103 67 [.tmp 2] ?_;refine aL H fun y0 h0 H0 => ?_;refine aU H0 (fun c0 H1 => ?_) (fun c1 H2 => ?_)
 ·refine aP H1 fun g0 H3 => ?_;refine aL H3 fun y1 h1 H4 => ?_;refine pD 10 [V1,r0 [.v,.c true (.bool y0)],.eqT 8 bT,r0 [.v,.e (.str (x0.drop 1)),.cf true (.tup [iI y1.1,ua 261 y1.2]),.v,.v,.v,.v,.v]] [.only [0,2,3,4] []] 9 [true] (aC Tryz.call144 (aF (de _ _ _ h0) (aB c0 (aC (show (0:Int)≤1∧1≤(x0.length:Int)∧(x0.length:Int)≤(x0.length:Int) from by omega) (aC (kR x0 1) (aC Tryz.call145 (aF (s9 (x0.drop 1) y1 h1) (aC (show xg true (.tup [iI y1.1,ua 261 y1.2])=true from by cases h2:y1.2<;>rfl) aN)))))))) ?_;refine aU H4 (fun c2 H5 => ?_) (fun c3 H6 => ?_)
  ·refine aU H5 (fun c4 H7 => ?_) (fun c5 H8 => ?_)
   ·have c4p:=Mp c4;refine aU H7 (fun c6 H9 => ?_) (fun c7 H10 => ?_)
    ·have c6p:=Mp c6;refine aL H9 fun y2 h3 H11 => ?_;obtain rfl:=sI H11;exact pR 3 [.eqT 4 (.nilI),.rg 16 (V 4 [.e bT,.v,.v,.v,.v,.e bT,.v,.v,.v,.c true (.str y2),.v,.e (.str (x0.drop 1))]) [.v,.v,.v]] [] [] (aC (congrArg (ua 261) c2) (aB c4 (aT (aB c6 (aC Tryz.call151 (aF (sZ y1.1 y2 h3) (aC (show (0:Int)≤1∧1≤(x0.length:Int)∧(x0.length:Int)≤(x0.length:Int) from by omega) (aC (kR x0 1) aN))))))))
    ·obtain rfl:=sI H10;exact pR 3 [.eqT 4 (.nilI),.rg 16 (V 4 [.e bT,.v,.v,.v,.v,.e bF,.v,.v,.s,.s,.s,.s]) [.s,.v,.v]] [] [] (aC (congrArg (ua 261) c2) (aB c4 (aT (aB c7 aN))))
   ·obtain rfl:=sI H8;exact pR 3 [.eqT 4 (.nilI),.rg 16 (V 4 [.e bF,.v,.v,.s,.s,.s,.v,.v,.s,.s,.s,.s]) [.s,.v,.v]] [] [] (aC (congrArg (ua 261) c2) (aB c5 aN))
  ·obtain rfl:=sI H6;exact pR 3 [.eqT 4 (.iface 261 (.any)),.rg 16 [.v,.v,.v,.s,.s,.v,.v,.s,.s,.s,.v,.v,.s,.s,.s,.s] [.s,.v,.v]] [] [] (aC (congrArg (ua 261) c3) aN)
 ·refine pA 12 [.rg 0 [] [.v],.rg 0 [] [.v,.c true (.bool y0)],.eqT 8 bF,.rg 0 [] [.v,.m,.e (.int .i64 ((x0.length:Nat):Int)),.v]] [.only [0,2,34,35,36] []] 11 [false] (nD x0 0 ()) (aC Tryz.call144 (aF (de _ _ _ h0) (aB c1 (aT (aC (bo tC x0) aN))))) ?_;refine aL H2 fun R0 h4 H12 => ?_;refine pJ 1 (qF x0) R0 ?_ (fun u1 e0 => ?_)
  ·refine pC (nD x0) h4 (fun i0 s0 h5 e1 => ?_) (fun i0 s0 h6 q0 h7 h8 => ?_)
   ·have c8:=lF i0 x0.length (by omega);subst e1;exact pB 5 [r0 [.e bF]] [.only [0,2] []] (qF x0 ()) (aB c8 aN)
   ·have c9:=lT i0 x0.length (by omega);refine pD 10 [r0 [.e bT],r0 [.v,.e (.dptr [.int .u8 (((x0.getD i0 0)).toNat:Int)]),.v,.v,.v]] [.only [0,2,5,6,34,35,36] []] 10 [true] (aB c9 (aI sd x0 i0 0 aN)) ?_;refine aL h7 fun v0 h9 H13 => ?_;refine pJ 2 (j9 x0 i0) v0 ?_ (fun u0 e2 => ?_)
    ·refine aU h9 (fun c10 H14 => ?_) (fun c11 H15 => ?_)
     ·refine aU H14 (fun c12 H16 => ?_) (fun c13 H17 => ?_)
      ·obtain rfl:=sI H16;obtain rfl:=sI (aR H13);obtain rfl:=ba h8;obtain rfl:=sI (aR H12);exact pR 5 [r0 [.v,.e bT,.v,.s,.s,.v,.v,.v,.e bT,.v,.s,.s,.v,.v,.s,.s,.v,.v],V1] [] [] (aB c10 (aB c12 aN))
      ·refine aU H17 (fun c14 H18 => ?_) (fun c15 H19 => ?_)
       ·obtain rfl:=sI H18;obtain rfl:=sI (aR H13);obtain rfl:=ba h8;obtain rfl:=sI (aR H12);exact pR 5 [r0 [.v,.e bT,.v,.s,.s,.v,.v,.v,.e bF,.v,.v,.e bT,.v,.v,.s,.s,.v,.v],V1] [] [] (aB c10 (aB c13 (aB c14 aN)))
       ·refine aU H19 (fun c16 H20 => ?_) (fun c17 H21 => ?_)
        ·obtain rfl:=sI H20;obtain rfl:=sI (aR H13);obtain rfl:=ba h8;obtain rfl:=sI (aR H12);exact pR 6 [r0 [.v,.e bT,.v,.s,.s,.v,.v,.v,.e bF,.v,.v,.e bF,.v,.v,.v,.v,.v,.v],.eqT 58 bT,V1] [] [] (aB c10 (aB c13 (aB c15 (aB c16 aN))))
        ·obtain rfl:=sI H21;exact pB 4 [r0 [.v,.e bT,.v,.s,.s,.v,.v,.v,.e bF,.v,.v,.e bF,.v,.v,.v,.v,.v,.v],.eqT 58 bF] [.only [0,2,34,35,36] []] (j9 x0 i0 ()) (aB c10 (aB c13 (aB c15 (aB c17 aN))))
     ·refine aU H15 (fun c18 H22 => ?_) (fun c19 H23 => ?_)
      ·refine aU H22 (fun c20 H24 => ?_) (fun c21 H25 => ?_)
       ·obtain rfl:=sI H24;obtain rfl:=sI (aR H13);obtain rfl:=ba h8;obtain rfl:=sI (aR H12);exact pR 5 [r0 [.v,.e bF,.v,.v,.e bT,.v,.v,.v,.e bT,.v,.s,.s,.v,.v,.s,.s,.v,.v],V1] [] [] (aB c11 (aB c18 (aB c20 aN)))
       ·refine aU H25 (fun c22 H26 => ?_) (fun c23 H27 => ?_)
        ·obtain rfl:=sI H26;obtain rfl:=sI (aR H13);obtain rfl:=ba h8;obtain rfl:=sI (aR H12);exact pR 5 [r0 [.v,.e bF,.v,.v,.e bT,.v,.v,.v,.e bF,.v,.v,.e bT,.v,.v,.s,.s,.v,.v],V1] [] [] (aB c11 (aB c18 (aB c21 (aB c22 aN))))
        ·refine aU H27 (fun c24 H28 => ?_) (fun c25 H29 => ?_)
         ·obtain rfl:=sI H28;obtain rfl:=sI (aR H13);obtain rfl:=ba h8;obtain rfl:=sI (aR H12);exact pR 6 [r0 [.v,.e bF,.v,.v,.e bT,.v,.v,.v,.e bF,.v,.v,.e bF,.v,.v,.v,.v,.v,.v],.eqT 58 bT,V1] [] [] (aB c11 (aB c18 (aB c21 (aB c23 (aB c24 aN)))))
         ·obtain rfl:=sI H29;exact pB 4 [r0 [.v,.e bF,.v,.v,.e bT,.v,.v,.v,.e bF,.v,.v,.e bF,.v,.v,.v,.v,.v,.v],.eqT 58 bF] [.only [0,2,34,35,36] []] (j9 x0 i0 ()) (aB c11 (aB c18 (aB c21 (aB c23 (aB c25 aN)))))
      ·obtain rfl:=sI H23;exact pB 3 [r0 [.v,.e bF,.v,.v,.e bF,.v,.v,.s,.s,.s,.s,.s,.s,.s,.s,.s,.s,.v]] [.only [0,2,34,35,36] []] (j9 x0 i0 ()) (aB c11 (aB c19 aN))
    ·subst e2;have H30:=bB H13;refine bK 0 (ps:=[x0.length≤9223372036854775807]) (by kernel_rfl) (fun l0 => ?_);have l1:x0.length≤9223372036854775807:=by simpa only [cq,Mt] using l0
     clear l0;obtain rfl:=sI H30;exact pB 1 [V2] [.only [0,2,34,35,36] []] (nD x0 (i0+1) ()) (aH i0 aN)
  ·subst e0;have H31:=bB H12;refine aU H31 (fun c26 H32 => ?_) (fun c27 H33 => ?_)
   ·obtain rfl:=sI H32;exact pR 3 [r0 [.v,.e bF,.v,.s,.s,.s,.v,.v]] [] [] (aM c26 aN)
   ·obtain rfl:=sI H33;exact pR 3 [r0 [.v,.e bT,.v,.v,.v,.v,.v,.v]] [] [] (aM c27 (aT aN))
def gj (x0:ak) (x1:Int) (x2:List (ak×Int)):Option ((ak×Bool)×ak) :=
 (jg x0 x1 x2).bind fun y0 =>
 (fg y0.1).bind fun y1 =>
 some ((y0.1,y1),y0.2)
theorem oH (x0:ak) (x1:Int) (x2:List (ak×Int)) (r:(ak×Bool)×ak) (H:gj x0 x1 x2=some r):bg Tryz.prog 213 [.hptr 1000 0] [(1000,.cells 217 [.str x0,iI x1,.amap 1001]),(1001,.smap 0 3 (x2.map (aQ ai)))] (fun r2 h0=>r2=(.tup [.str r.1.1,.bool r.1.2])∧h0=[(1000,.cells 217 [.str r.2,iI x1,.amap 1001]),(1001,.smap 0 3 (x2.map (aQ ai)))]):=by unfold gj at H;refine aX Tryz.func213 10 [.tmp 2,.tmp 3] ?_;refine aL H fun y0 h1 H0 => ?_;refine aL H0 fun y1 h2 H1 => ?_;obtain rfl:=sI H1;exact pR 7 [V2,r0 [.v,.hR [(1000,1000),(1001,1001)] 6 (.str y0.1) [(1000,.cells 217 [.str y0.2,iI x1,.amap 1001]),(1001,.smap 0 3 (x2.map (aQ ai)))],.v],r0 [.v,.v,.c true (.bool y1),.v,.v]] [] [1000,1001] (aC Tryz.call249 (aC (rC _ _ _ _ h1) (aC Tryz.call103 (aF (bt _ _ h2) aN))))
def iz (x0:ak) (x1:Int) (x2:List (ak×Int)):Option (ak×ak) :=
 (fA (σ:=Unit) (ε:=Nat) (ρ:=Empty) (fun i0 s0 =>
  (mc (x0.getD i0 0)).bind fun y0 =>
  bif y0 then (
   some (.go ())
  ) else (
   none
  )
 ) (fun i0 s0=>i0) (x0.length-0) 0 ()).bind <| dL fun u0 =>
 bX (u0≤x0.length) <|
 some ((x0.take u0),(x0.drop u0))
def fQ (x0:ak) (x1:Int) (x2:List (ak×Int)) (i0:Nat) (s0:Unit):AS:=⟨42,[(0,.hptr 1000 0),(1,.fn 212 []),(4,.str []),(5,nI i0)],[(1000,.cells 217 [.str x0,iI x1,.amap 1001]),(1001,.smap 0 3 (x2.map (aQ ai)))]⟩
def jt (x0:ak) (x1:Int) (x2:List (ak×Int)) (u1:Nat):AS:=⟨42,[(0,.hptr 1000 0),(4,.str []),(5,nI u1)],[(1000,.cells 217 [.str x0,iI x1,.amap 1001]),(1001,.smap 0 3 (x2.map (aQ ai)))]⟩
theorem p7 (x0:ak) (x1:Int) (x2:List (ak×Int)) (r:ak×ak) (H:iz x0 x1 x2=some r):bg Tryz.prog 249 [.hptr 1000 0,.fn 212 []] [(1000,.cells 217 [.str x0,iI x1,.amap 1001]),(1001,.smap 0 3 (x2.map (aQ ai)))] (fun r2 h0=>r2=(.str r.1)∧h0=[(1000,.cells 217 [.str r.2,iI x1,.amap 1001]),(1001,.smap 0 3 (x2.map (aQ ai)))]):=by
 unfold iz at H;refine aX Tryz.func249 42 [.tmp 4] ?_;refine pA 6 [V1,V1] [.only [0,1,4,5] [1000,1001]] 6 [] (fQ x0 x1 x2 0 ()) aN ?_;refine aL H fun R0 h1 H0 => ?_;refine pJ 1 (jt x0 x1 x2) R0 ?_ (fun u0 e0 => ?_)
 ·refine pC (fQ x0 x1 x2) h1 (fun i0 s0 h2 e1 => ?_) (fun i0 s0 h3 q0 h4 h5 => ?_)
  ·have c0:=lF i0 x0.length (by omega);subst e1;exact pB 5 [r0 (V 6 [.e bF,.v,.s,.s,.s,.s,.s,.s,.s,.s,.v])] [.only [0,4,5] [1000,1001]] (jt x0 x1 x2 i0) (aT (aB c0 aN))
  ·have c1:=lT i0 x0.length (by omega);refine aL h4 fun y0 h6 H1 => ?_;refine aU H1 (fun c2 H2 => ?_) (fun c3 H3 => ?_)
   ·refine wg 1000 0 (ps:=[x0.length≤9223372036854775807]) (by kernel_rfl) (fun l0 => ?_);have l1:x0.length≤9223372036854775807:=by simpa only [cq,Mt] using l0
    clear l0;obtain rfl:=sI H2;exact pB 8 [r0 (V 6 [.e bT,.v,.v,.v,.v,.v,.v,.v,.v,.c true (.bool y0),.v]),.eqT 23 bT,V3] [.only [0,1,4,5] [1000,1001]] (fQ x0 x1 x2 (i0+1) ()) (aT (aB c1 (aC (show (0:Int)≤((i0:Nat):Int)∧((i0:Nat):Int)<(x0.length:Int) from by omega) (aC Tryz.call212 (aF (mU _ _ h6) (aB c2 (aH i0 aN)))))))
   ·cases H3
 ·subst e0;have H4:=bu H0;refine aP H4 fun g0 H5 => ?_;obtain rfl:=sI H5;exact pR 7 [r0 (V 5 [.e (.str (x0.take u0)),.v]),r0 (V 6 [.e (.str (x0.drop u0)),.v,.v,.m]),V2] [] [1000,1001] (aC (show (0:Int)≤0∧0≤((u0:Nat):Int)∧((u0:Nat):Int)≤(x0.length:Int) from by omega) (aC (sf x0 u0) (aC (show (0:Int)≤((u0:Nat):Int)∧((u0:Nat):Int)≤(x0.length:Int)∧(x0.length:Int)≤(x0.length:Int) from by omega) (aC (kR x0 u0) aN))))
def ik (x0:ak) (x1:Int) (x2:List (ak×Int)):Option ((Int×Bool)×ak) :=
 (iz x0 x1 x2).bind fun y0 =>
 (lr y0.1).bind fun y1 =>
 bif y1.2 then (
  bif decide (((y0.1.length:Nat):Int)≤7) then (
   bX (0<y0.1.length) <|
   bif (((y0.1.getD 0 0).toNat:Int)==48) then (
    none
   ) else (
    some ((y1.1,true),y0.2)
   )
  ) else (
   none
  )
 ) else (
  none
 )
theorem pT (x0:ak) (x1:Int) (x2:List (ak×Int)) (r:(Int×Bool)×ak) (H:ik x0 x1 x2=some r):bg Tryz.prog 214 [.hptr 1000 0] [(1000,.cells 217 [.str x0,iI x1,.amap 1001]),(1001,.smap 0 3 (x2.map (aQ ai)))] (fun r2 h0=>r2=(.tup [iI r.1.1,.bool r.1.2])∧h0=[(1000,.cells 217 [.str r.2,iI x1,.amap 1001]),(1001,.smap 0 3 (x2.map (aQ ai)))]):=by
 unfold ik at H;refine aX Tryz.func214 31 [.tmp 2,.tmp 3] ?_;refine aL H fun y0 h1 H0 => ?_;refine aL H0 fun y1 h2 H1 => ?_;refine pD 7 [V2,r0 [.v,.hR [(1000,1000),(1001,1001)] 8 (.str y0.1) [(1000,.cells 217 [.str y0.2,iI x1,.amap 1001]),(1001,.smap 0 3 (x2.map (aQ ai)))],.v],r0 [.v,.cf true (.tup [iI y1.1,ua 261 y1.2]),.v,.v,.v,.v,.v]] [.only [2,3,4,5,6] [1000,1001]] 7 [] (aC Tryz.call249 (aC (p7 _ _ _ _ h1) (aC Tryz.call145 (aF (s9 y0.1 y1 h2) (aC (show xg true (.tup [iI y1.1,ua 261 y1.2])=true from by cases h3:y1.2<;>rfl) aN))))) ?_;refine aU H1 (fun c0 H2 => ?_) (fun c1 H3 => ?_)
 ·refine aU H2 (fun c2 H4 => ?_) (fun c3 H5 => ?_)
  ·have c2p:=Mp c2;refine aP H4 fun g0 H6 => ?_;refine aU H6 (fun c4 H7 => ?_) (fun c5 H8 => ?_)
   ·cases H7
   ·obtain rfl:=sI H8;exact pR 3 [.eqT 6 (.nilI),r0 (V 6 [.e bT,.v,.v,.v,.v,.e bT,.v,.s,.s,.v,.v,.v,.v])] [] [1000,1001] (aC (congrArg (ua 261) c0) (aT (aB c2 (aC (show (0:Int)≤0∧0<(y0.1.length:Int) from by omega) (aM c5 aN)))))
  ·cases H5
 ·cases H3
def jc (x0:Int) (x1:ak) (x2:Int) (x3:List (ak×Int)):Option (Bool×ak×Int×(List (ak×Int))) :=
 bif (x1==[]) then (
  none
 ) else (
  bX (0<x1.length) <|
  (mc (x1.getD 0 0)).bind fun y0 =>
  bif y0 then (
   (ik x1 x2 x3).bind fun y1 =>
   bif y1.1.2 then (
    (iF y1.2 [32]).bind fun y2 =>
    (strings_HasPrefix y2 [42]).bind fun y3 =>
    bif y3 then (
     none
    ) else (
     bif (y1.2==[]) then (
      some (true,y1.2,(aS (x2+(aS (x0*y1.1.1)))),x3)
     ) else (
      none
     )
    )
   ) else (
    none
   )
  ) else (
   (gj x1 x2 x3).bind fun y4 =>
   some (y4.1.2,y4.2,x2,(bH y4.1.1 (aS ((be 0 y4.1.1 x3)+x0)) x3))
  )
 )
theorem qR (x0:Int) (x1:ak) (x2:Int) (x3:List (ak×Int)) (r:Bool×ak×Int×(List (ak×Int))) (H:jc x0 x1 x2 x3=some r):bg Tryz.prog 175 [.hptr 1000 0,iI x0] [(1000,.cells 217 [.str x1,iI x2,.amap 1001]),(1001,.smap 0 3 (x3.map (aQ ai)))] (fun r2 h0=>r2=(.bool r.1)∧h0=[(1000,.cells 217 [.str r.2.1,iI r.2.2.1,.amap 1001]),(1001,.smap 0 3 (r.2.2.2.map (aQ ai)))]):=by
 unfold jc at H;refine aX Tryz.func175 104 [.tmp 4] ?_;refine aU H (fun c0 H0 => ?_) (fun c1 H1 => ?_)
 ·cases H0
 ·refine aP H1 fun g0 H2 => ?_;refine aL H2 fun y0 h1 H3 => ?_;refine aU H3 (fun c2 H4 => ?_) (fun c3 H5 => ?_)
  ·refine aL H4 fun y1 h2 H6 => ?_;refine pD 19 [V1,V5,.eqT 15 bF,r0 (V 5 [.c true (.bool y0),.v]),.eqT 22 bF,r0 [.v,.hR [(1000,1000),(1001,1001)] 40 (.tup [iI y1.1.1,.bool y1.1.2]) [(1000,.cells 217 [.str y1.2,iI x2,.amap 1001]),(1001,.smap 0 3 (x3.map (aQ ai)))],.v,.v,.v,.v,.v],V2] [.only [0,1,4,7,44] [1000,1001]] 17 [false,false] (aB c1 (aC (show (0:Int)≤0∧0<(x1.length:Int) from by omega) (aC Tryz.call212 (aF (mU _ _ h1) (aT (aM c2 (aC Tryz.call214 (aC (pT _ _ _ _ h2) (aT aN))))))))) ?_;refine aU H6 (fun c4 H7 => ?_) (fun c5 H8 => ?_)
   ·refine aL H7 fun y2 h3 H9 => ?_;refine aL H9 fun y3 h4 H10 => ?_;refine aU H10 (fun c6 H11 => ?_) (fun c7 H12 => ?_)
    ·cases H11
    ·refine aU H12 (fun c8 H13 => ?_) (fun c9 H14 => ?_)
     ·obtain rfl:=sI H13;exact pR 19 [.eqT 44 bF,r0 (V 4 [.c true (.str y2),.v]),r0 [.v,.c true (.bool y3),.v],.eqT 50 bF,r0 (V 4 [.e bT,.v,.s,.s,.s,.s,.s,.s,.s,.v,.v]),r0 (V 7 [.w,.w,.v,.v,.v,.m]),V1] [] [1000,1001] (aM c4 (aC Tryz.call215 (aF (mJ _ _ _ h3) (aC Tryz.call144 (aF (de _ _ _ h4) (aB c7 (aB c8 aN)))))))
     ·cases H14
   ·cases H8
  ·refine aL H5 fun y4 h5 H15 => ?_;obtain rfl:=sI H15;exact pR 20 [V1,V5,.eqT 15 bF,r0 (V 5 [.c true (.bool y0),.v]),.eqT 22 bT,r0 [.v,.hR [(1000,1000),(1001,1001)] 25 (.tup [.str y4.1.1,.bool y4.1.2]) [(1000,.cells 217 [.str y4.2,iI x2,.amap 1001]),(1001,.smap 0 3 (x3.map (aQ ai)))],.v,.v,.v,.v,.v],r0 (V 6 [.l (iI (be 0 y4.1.1 x3)),.v,.w,.m,.rwH 1001 (.smap 0 3 ((bH y4.1.1 (aS ((be 0 y4.1.1 x3)+x0)) x3).map (aQ ai)))]),V2] [] [1000,1001] (aB c1 (aC (show (0:Int)≤0∧0<(x1.length:Int) from by omega) (aC Tryz.call212 (aF (mU _ _ h1) (aT (aM c3 (aC Tryz.call213 (aC (oH _ _ _ _ h5) (aC (jy (c:=ai) y4.1.1 0 x3) (aC (congrArg (AO.smap 0 3) (fJ (c:=ai) y4.1.1 (aS ((be 0 y4.1.1 x3)+x0)) x3)) aN))))))))))
def mx (x0:Int):Option Bool :=
 bif decide (x0≥(-1000000)) then (
  some (decide (x0≤1000000))
 ) else (
  some false
 )
theorem lJ (x0:Int) (r:Bool) (H:mx x0=some r):br Tryz.prog 143 [iI x0] (.bool r):=by
 unfold mx at H;refine aX Tryz.func143 9 [.tmp 2] ?_;refine aU H (fun c0 H0 => ?_) (fun c1 H1 => ?_)
 ·obtain rfl:=sI H0;exact pR 5 [V1,r0 [.v,.e bT,.v,.v,.v,.v,.v]] [] [] (aB c0 aN)
 ·obtain rfl:=sI H1;exact pR 5 [V1,r0 [.v,.e bF,.v,.s,.s,.v,.v]] [] [] (aB c1 aN)
def bE (x0:Linear):Option Bool :=
 (fA (σ:=Unit) (ε:=Unit) (ρ:=Bool) (fun i0 s0 =>
  (fg ((x0.Terms.getD i0 aJ).Var)).bind fun y0 =>
  ((
   bif y0 then (
    bif (((x0.Terms.getD i0 aJ).C)==0) then (
     some (.ret (.ret false))
    ) else (
     (mx ((x0.Terms.getD i0 aJ).C)).bind fun y1 =>
     bif y1 then (
      bif decide (((i0:Nat):Int)>0) then (
       bX (0≤(aS (((i0:Nat):Int)-1))∧(aS (((i0:Nat):Int)-1))<(x0.Terms.length:Int)) <|
       bif (Op.bytesLess ((x0.Terms.getD (aS (((i0:Nat):Int)-1)).toNat aJ).Var) ((x0.Terms.getD i0 aJ).Var)) then (
        some (.brk ())
       ) else (
        some (.ret (.ret false))
       )
      ) else (
       some (.brk ())
      )
     ) else (
      some (.ret (.ret false))
     )
    )
   ) else (
    some (.ret (.ret false))
   )
  ):Option (Out Unit (fE Unit Unit Bool))).bind (aft fun u0 =>
   some (.go ())
  )
 ) (fun i0 s0=>()) (x0.Terms.length-0) 0 ()).bind <| aft fun u1 =>
 (mx x0.Const).bind fun y2 =>
 bif y2 then (
  some (decide (((x0.Terms.length:Nat):Int)≤12))
 ) else (
  some false
 )
def lQ (x0:Linear) (i0:Nat) (s0:Unit):AS:=⟨54,[(1,.hptr 1 0),(2,.bool false),(6,dS aw x0.Terms),(7,nI x0.Terms.length),(8,nI i0)],[(1,.cells 29 [iI x0.Const,dS aw x0.Terms])]⟩
def qk (x0:Linear) (u2:Unit):AS:=⟨54,[(1,.hptr 1 0),(2,.bool false)],[(1,.cells 29 [iI x0.Const,dS aw x0.Terms])]⟩
def lN (x0:Linear) (i0:Nat) (u0:Unit):AS:=⟨54,[(1,.hptr 1 0),(2,.bool false),(6,dS aw x0.Terms),(7,nI x0.Terms.length),(8,nI i0)],[(1,.cells 29 [iI x0.Const,dS aw x0.Terms])]⟩
theorem aW (x0:Linear) (r:Bool) (H:bE x0=some r):br Tryz.prog 90 [.agg [iI x0.Const,dS aw x0.Terms]] (.bool r):=by
 unfold bE at H;refine aX Tryz.func90 54 [.tmp 2] ?_;refine pA 6 [r0 [.m,.v],r0 [.v,.v,.e (nI x0.Terms.length),.v]] [.only [1,2,6,7,8] [1]] 6 [] (lQ x0 0 ()) (aT (aC (bo aw x0.Terms) aN)) ?_;refine aL H fun R0 h0 H0 => ?_;refine pJ 1 (qk x0) R0 ?_ (fun u1 e0 => ?_)
 ·refine pC (lQ x0) h0 (fun i0 s0 h1 e1 => ?_) (fun i0 s0 h2 q0 h3 h4 => ?_)
  ·have c0:=lF i0 x0.Terms.length (by omega);subst e1;exact pB 5 [r0 [.e bF]] [.only [1,2] [1]] (qk x0 ()) (aB c0 aN)
  ·have c1:=lT i0 x0.Terms.length (by omega);refine aL h3 fun y0 h5 H1 => ?_;refine pD 10 [r0 [.e bT],r0 [.v,.e (.dptr (aw (x0.Terms.getD i0 aJ))),.v,.m,.v,.m]] [.only [1,2,3,4,6,7,8] [1,4]] 10 [true] (aB c1 (aI cy x0.Terms i0 aJ aN)) ?_;refine aL H1 fun v0 h6 H2 => ?_;refine pJ 2 (lN x0 i0) v0 ?_ (fun u0 e2 => ?_)
   ·refine aU h6 (fun c2 H3 => ?_) (fun c3 H4 => ?_)
    ·refine aU H3 (fun c4 H5 => ?_) (fun c5 H6 => ?_)
     ·obtain rfl:=sI H5;obtain rfl:=sI (aR H2);obtain rfl:=ba h4;obtain rfl:=sI (aR H0);exact pR 5 [.rg 28 [.v,.v,.c true bT,.v,.v,.v,.v,.e bT,.v,.v,.s,.s,.s,.s,.v,.v,.s,.s,.s,.s,.s,.s,.s,.s,.s,.s,.s,.s] [.s,.s,.v],V1] [] [] (aC Tryz.call103 (aC (br.eq (bt _ _ h5) (cB c2)) (aT (aB c4 aN))))
     ·refine aL H6 fun y1 h7 H7 => ?_;refine aU H7 (fun c6 H8 => ?_) (fun c7 H9 => ?_)
      ·refine aU H8 (fun c8 H10 => ?_) (fun c9 H11 => ?_)
       ·refine aP H10 fun g0 H12 => ?_;refine pD 1 [.rg 28 [.v,.v,.c true bT,.v,.v,.v,.v,.e bF,.v,.v,.v,.v,.c true bT,.v,.v,.v,.v,.e bT,.v,.v,.v,.v,.w,.e (.dptr (aw (x0.Terms.getD (aS (((i0:Nat):Int)-1)).toNat aJ))),.v,.v,.v,.v] [.v,.v,.v]] [.only [1,2,6,7,8,43] [1]] 1 [] (aC Tryz.call103 (aC (br.eq (bt _ _ h5) (cB c2)) (aT (aB c5 (aC Tryz.call143 (aC (br.eq (lJ _ _ h7) (cB c6)) (aT (aB c8 (a8 (Jd (f:=aw) (l:=x0.Terms) (n:=(aS (((i0:Nat):Int)-1))) aJ cy (by decide) (by exact g0)) aN))))))))) ?_;refine aU H12 (fun c10 H13 => ?_) (fun c11 H14 => ?_)
        ·obtain rfl:=sI H13;exact pB 3 [.eqT 43 bF] [.only [1,2,6,7,8] [1]] (lN x0 i0 ()) (aM c10 aN)
        ·obtain rfl:=sI H14;obtain rfl:=sI (aR H2);obtain rfl:=ba h4;obtain rfl:=sI (aR H0);exact pR 5 [.eqT 43 bT,V1] [] [] (aM c11 aN)
       ·obtain rfl:=sI H11;exact pB 3 [.rg 28 [.v,.v,.c true bT,.v,.v,.v,.v,.e bF,.v,.v,.v,.v,.c true bT,.v,.v,.v,.v,.e bF,.v,.s,.s,.s,.s,.s,.s,.s,.s,.s] [.s,.v,.v]] [.only [1,2,6,7,8] [1]] (lN x0 i0 ()) (aC Tryz.call103 (aC (br.eq (bt _ _ h5) (cB c2)) (aT (aB c5 (aC Tryz.call143 (aC (br.eq (lJ _ _ h7) (cB c6)) (aT (aB c9 aN))))))))
      ·obtain rfl:=sI H9;obtain rfl:=sI (aR H2);obtain rfl:=ba h4;obtain rfl:=sI (aR H0);exact pR 5 [.rg 28 [.v,.v,.c true bT,.v,.v,.v,.v,.e bF,.v,.v,.v,.v,.c true bF,.v,.v,.v,.s,.s,.s,.s,.s,.s,.s,.s,.s,.s,.s,.s] [.s,.s,.v],V1] [] [] (aC Tryz.call103 (aC (br.eq (bt _ _ h5) (cB c2)) (aT (aB c5 (aC Tryz.call143 (aC (br.eq (lJ _ _ h7) (cB c7)) (aT aN)))))))
    ·obtain rfl:=sI H4;obtain rfl:=sI (aR H2);obtain rfl:=ba h4;obtain rfl:=sI (aR H0);exact pR 5 [.rg 28 [.v,.v,.c true bF,.v,.v,.s,.s,.s,.v,.v,.s,.s,.s,.s,.v,.v,.s,.s,.s,.s,.s,.s,.s,.s,.s,.s,.s,.s] [.s,.s,.v],V1] [] [] (aC Tryz.call103 (aC (br.eq (bt _ _ h5) (cB c3)) (aT aN)))
   ·subst e2;have H15:=bB H2;refine bK 6 (ps:=[(x0.Terms.map aw).length≤9223372036854775807]) (by kernel_rfl) (fun l0 => ?_);have l1:x0.Terms.length≤9223372036854775807:=by simpa only [cq,Mt] using l0
    clear l0;obtain rfl:=sI H15;exact pB 1 [V2] [.only [1,2,6,7,8] [1]] (lQ x0 (i0+1) ()) (aH i0 aN)
 ·subst e0;have H16:=bB H0;refine aL H16 fun y2 h8 H17 => ?_;refine aU H17 (fun c12 H18 => ?_) (fun c13 H19 => ?_)
  ·obtain rfl:=sI H18;exact pR 3 [r0 [.v,.v,.c true bT,.v,.v,.v,.e (nI x0.Terms.length),.v,.v,.v]] [] [] (aC Tryz.call143 (aC (br.eq (lJ _ _ h8) (cB c12)) (aT (aC (bo aw x0.Terms) aN))))
  ·obtain rfl:=sI H19;exact pR 3 [r0 [.v,.v,.c true bF,.v,.s,.s,.s,.s,.v,.v]] [] [] (aC Tryz.call143 (aC (br.eq (lJ _ _ h8) (cB c13)) aN))
noncomputable def jO (x0:ak) (x1:Int) (x2:List (ak×Int)):Option (Linear×Int) :=
 lg (σ:=(List ak)) (ε:=Empty) (β:=(Linear×Int)) x2 (fun e0 s0 =>
  bif (e0.2==0) then (
   some (.go s0)
  ) else (
   bX ((s0.length+1)*16≤140737488355328) <|
   some (.go (s0++[e0.1]))
  )
 ) [] (fun s0 =>
  (iT s0).bind fun y0 =>
  (fA (σ:=(List au)) (ε:=(List au)) (ρ:=Empty) (fun i0 s1 =>
   bX ((s1.length+1)*24≤140737488355328) <|
   some (.go (s1++[(au.mk (y0.getD i0 []) (be 0 (y0.getD i0 []) x2))]))
  ) (fun i0 s1=>s1) (y0.length-0) 0 []).bind <| dL fun u0 =>
  (bE (Linear.mk x1 u0)).bind fun y1 =>
  bif y1 then (
   some ((Linear.mk x1 u0),0)
  ) else (
   some ((Linear.mk 0 []),3)
  )
 )
def eZ (x0:ak) (x1:Int) (x2:List (ak×Int)) (i1:List Nat) (s0:List ak):AS:=⟨58,[(0,.hptr 1000 1),(2,.hptr 2 0),(3,iI 0),(4,.hptr 4 0),(5,.rslice 30),(19,.hptr 19 0)],[(2,.cells 29 [iI 0,.eslice]),(4,.cells 29 [iI x1,.eslice]),(19,.iter (x2.map (aQ ai)) i1),(30,.row 9 1 (s0.map aZ)),(1000,.cells 217 [.str x0,iI x1,.dmap (x2.map (aQ ai))])]⟩
def ir (x0:ak) (x1:Int) (x2:List (ak×Int)) (y0:List ak) (i0:Nat) (s1:List au):AS:=⟨58,[(0,.hptr 1000 1),(2,.hptr 2 0),(3,iI 0),(4,.hptr 4 0),(33,.rslice 30),(34,nI y0.length),(35,nI i0)],[(2,.cells 29 [iI 0,.eslice]),(4,.cells 29 [iI x1,.rslice 50]),(30,.row 9 1 (y0.map aZ)),(50,.row 31 2 (s1.map aw)),(1000,.cells 217 [.str x0,iI x1,.dmap (x2.map (aQ ai))])]⟩
def lh (x0:ak) (x1:Int) (x2:List (ak×Int)) (u1:List au):AS:=⟨58,[(2,.hptr 2 0),(3,iI 0),(4,.hptr 4 0)],[(2,.cells 29 [iI 0,.eslice]),(4,.cells 29 [iI x1,.rslice 50]),(50,.row 31 2 (u1.map aw)),(1000,.cells 217 [.str x0,iI x1,.dmap (x2.map (aQ ai))])]⟩
theorem sk (x0:ak) (x1:Int) (x2:List (ak×Int)) (r:Linear×Int) (H:jO x0 x1 x2=some r):bg Tryz.prog 110 [.hptr 1000 1] [(1000,.cells 217 [.str x0,iI x1,.amap 1001]),(1001,.smap 0 3 (x2.map (aQ ai)))] (fun r2 h0=>r2=(.tup [.agg [iI r.1.Const,dS aw r.1.Terms],iI r.2])∧h0=[]):=by
 unfold jO at H;refine aX Tryz.func110 58 [.cell 2 29,.tmp 3] ?_;refine pA 10 [r0 [.m,.v],r0 (V 4 [.b,.m,.m]),V1,r0 (V 4 [.fm 1001,.m])] [.er 5 30 9 1,.only [0,2,3,4,5,19] [2,4,19,30,1000]] 10 [] (eZ x0 x1 x2 [] []) (aC (rV ou x2) aN) ?_;refine mj (cc:=ai) 19 (eZ x0 x1 x2) (by kernel_rfl) H [.v] (fun i1 s0=>⟨by kernel_rfl,by kernel_rfl⟩) (fun i1 s0=>⟨58,[(0,.hptr 1000 1),(2,.hptr 2 0),(3,iI 0),(4,.hptr 4 0),(5,.rslice 30),(19,.hptr 19 0),(20,.tup [.bool false]),(21,.bool false)],[(2,.cells 29 [iI 0,.eslice]),(4,.cells 29 [iI x1,.eslice]),(19,.iter (x2.map (aQ ai)) i1),(30,.row 9 1 (s0.map aZ)),(1000,.cells 217 [.str x0,iI x1,.dmap (x2.map (aQ ai))])]⟩) (fun i1 s0=>by kernel_rfl) (fun i1 s0 n0 e0=>⟨58,[(0,.hptr 1000 1),(2,.hptr 2 0),(3,iI 0),(4,.hptr 4 0),(5,.rslice 30),(19,.hptr 19 0),(20,.tup [.bool true,.str e0.1,iI e0.2]),(21,.bool true)],[(2,.cells 29 [iI 0,.eslice]),(4,.cells 29 [iI x1,.eslice]),(19,.iter (x2.map (aQ ai)) (i1++[n0])),(30,.row 9 1 (s0.map aZ)),(1000,.cells 217 [.str x0,iI x1,.dmap (x2.map (aQ ai))])]⟩) (fun i1 s0 n0 e0=>by kernel_rfl) (fun i1 s0 H0 => ?_) (fun i1 s0 n0 e0 h1 q0 h2 h3 => ?_)
 ·refine aL H0 fun y0 h4 H1 => ?_;refine pA 9 [r0 [.v,.hR [(30,1000)] 32 (.tup []) [(1000,.row 9 1 (y0.map aZ))]],r0 [.v,.e (nI y0.length),.v]] [.erH 4 1 50 31 2,.only [0,2,3,4,33,34,35] [2,4,30,50,1000]] 9 [false] (ir x0 x1 x2 y0 0 []) (aC Tryz.call99 (aC (s5 s0 y0 h4) (aT (aC (bo aZ y0) aN)))) ?_;refine aL H1 fun R0 h5 H2 => ?_;refine pJ 1 (lh x0 x1 x2) R0 ?_ (fun u0 e1 => ?_)
  ·refine pC (ir x0 x1 x2 y0) h5 (fun i0 s1 h6 e2 => ?_) (fun i0 s1 h7 q1 h8 h9 => ?_)
   ·have c0:=lF i0 y0.length (by omega);subst e2;exact pB 5 [r0 [.e bF]] [.only [2,3,4] [2,4,50,1000]] (lh x0 x1 x2 s1) (aB c0 aN)
   ·have c1:=lT i0 y0.length (by omega);refine aP h8 fun g0 H3 => ?_;refine wh 30 (n:=(y0.map aZ).length) (by kernel_rfl) (fun l0 => ?_);have l1:y0.length≤9223372036854775807:=by simpa only [Mt] using l0
    clear l0;obtain rfl:=sI H3;exact pB 11 [r0 [.e bT],r0 [.v,.rl i0 0 (.str (y0.getD i0 [])),.v],.rg 11 (V 8 [.l (iI (be 0 (y0.getD i0 []) x2)),.b,.b]) [.ap,.rwH 50 (.row 31 2 ((s1++[(au.mk (y0.getD i0 []) (be 0 (y0.getD i0 []) x2))]).map aw)),.v,.m],V2] [.only [0,2,3,4,33,34,35] [2,4,30,50,1000]] (ir x0 x1 x2 y0 (i0+1) (s1++[(au.mk (y0.getD i0 []) (be 0 (y0.getD i0 []) x2))])) (aB c1 (aC (show (0:Int)≤((i0:Nat):Int)∧((i0:Nat):Int)<((y0.map aZ).length:Int) from by rw [Mt];omega) (aC (lA (f:=aZ) (l:=y0) (n:=i0) 1 0 1 (by omega) (by decide)) (aC (vR (f:=aZ) (l:=y0) (n:=i0) [] 0 (by omega)) (aC (yM ai (y0.getD i0 []) x2) (aC (jy (c:=ai) (y0.getD i0 []) 0 x2) (a8 (tg (c:=aw) mV s1 [(au.mk (y0.getD i0 []) (be 0 (y0.getD i0 []) x2))] 24 (by decide) (by first | (simp;done) | simpa using g0)) (aC (vQ 31 2 aw s1 [(au.mk (y0.getD i0 []) (be 0 (y0.getD i0 []) x2))]) (aH i0 aN)))))))))
  ·subst e1;have H4:=bu H2;refine aL H4 fun y1 h10 H5 => ?_;refine aU H5 (fun c2 H6 => ?_) (fun c3 H7 => ?_)
   ·obtain rfl:=sI H6;exact pR 9 [r0 [.v,.c false (.bool y1),.v],.eqT 55 bF,r0 [.v,.m,.v]] [.fz 50] [] (aC Tryz.call90 (aF (aW _ _ h10) (aT (aM c2 aN))))
   ·obtain rfl:=sI H7;exact pR 8 [r0 [.v,.c false (.bool y1),.v],.eqT 55 bT,r0 [.b,.m,.v]] [.wkH 2 1 []] [] (aC Tryz.call90 (aF (aW _ _ h10) (aT (aM c3 aN))))
 ·refine aU h2 (fun c4 H8 => ?_) (fun c5 H9 => ?_)
  ·obtain rfl:=sI H8;exact pB 11 [r0 [.en n0 (.tup [.str e0.1,iI e0.2]),.v,.v,.v,.v],V2,.eqT 26 bF] [.only [0,2,3,4,5,19] [2,4,19,30,1000]] (eZ x0 x1 x2 (i1++[n0]) s0) (aC (fK i1 n0) (aC (rz (cc:=ai) h1) (aM c4 aN)))
  ·refine aP H9 fun g1 H10 => ?_;obtain rfl:=sI H10;exact pB 11 [r0 [.en n0 (.tup [.str e0.1,iI e0.2]),.v,.v,.v,.v],V2,.eqT 26 bT,r0 [.v,.v,.b,.ap,.rwH 30 (.row 9 1 ((s0++[e0.1]).map aZ)),.v]] [.only [0,2,3,4,5,19] [2,4,19,30,1000]] (eZ x0 x1 x2 (i1++[n0]) (s0++[e0.1])) (aC (fK i1 n0) (aC (rz (cc:=ai) h1) (aM c5 (a8 (tg (c:=aZ) pY s0 [e0.1] 16 (by decide) (by first | (simp;done) | simpa using g1)) (aC (vQ 9 1 aZ s0 [e0.1]) aN)))))
noncomputable def px (x0:ak):Option (Linear×Int) :=
 (dG x0 0 []).bind fun y0 =>
 (jd y0 0 []).bind fun y1 =>
 (oa (σ:=Unit) (ε:=(Linear×Int)) (ρ:=(Linear×Int)) (fun s0 =>
  (dG y0 0 []).bind fun y2 =>
  (jc y1.1 y2 0 []).bind fun y3 =>
  bif y3.1 then (
   (dG y3.2.1 y3.2.2.1 y3.2.2.2).bind fun y4 =>
   bif (y4==[]) then (
    (jO y4 y3.2.2.1 y3.2.2.2).bind fun y5 =>
    some (.ret (y5.1,y5.2))
   ) else (
    none
   )
  ) else (
   none
  )
 ) 4294967296 ()).bind <| aft some
def qj (y0:ak) (y1:Int×Bool) (s0:Unit):AS:=⟨51,[(2,.hptr 2 0),(3,iI 0),(4,.hptr 13 0),(5,.bm 175 13 0),(6,iI y1.1)],[(2,.cells 29 [iI 0,.eslice]),(10,.smap 0 3 ([].map (aQ ai))),(13,.cells 217 [.str y0,iI 0,.amap 10])]⟩
theorem xo (x0:ak) (r:Linear×Int) (H:px x0=some r):br Tryz.prog 135 [.str x0] (.tup [.agg [iI r.1.Const,dS aw r.1.Terms],iI r.2]):=by
 unfold px at H;refine aX Tryz.func135 51 [.cell 2 29,.tmp 3] ?_;refine aL H fun y0 h0 H0 => ?_;refine aL H0 fun y1 h1 H1 => ?_;refine pA 11 [r0 [.m,.v],r0 [.v,.m,.b,.b,.m,.v],V3,r0 [.v,.hR [(13,1000),(10,1001)] 17 (.tup []) [(1000,.cells 217 [.str y0,iI 0,.amap 1001]),(1001,.smap 0 3 ([].map (aQ ai)))]],r0 [.v,.hR [(13,1000),(10,1001)] 20 (.tup [iI y1.1,.bool y1.2]) [(1000,.cells 217 [.str y0,iI 0,.amap 1001]),(1001,.smap 0 3 ([].map (aQ ai)))],.v,.v,.v,.v,.v]] [.only [2,3,4,5,6] [2,10,13]] 11 [] (qj y0 y1 ()) (aC Tryz.call176 (aC (ga _ _ _ _ h0) (aC Tryz.call177 (aC (qZ _ _ _ _ h1) aN)))) ?_;refine aL H1 fun R0 h2 H2 => ?_;refine qL (qj y0 y1) (by kernel_rfl) h2 (fun s0 q0 h3 h4 => ?_)
 ·refine aL h3 fun y2 h5 H3 => ?_;refine aL H3 fun y3 h6 H4 => ?_;refine pD 6 [r0 [.v,.hR [(13,1000),(10,1001)] 24 (.tup []) [(1000,.cells 217 [.str y2,iI 0,.amap 1001]),(1001,.smap 0 3 ([].map (aQ ai)))]],r0 [.v,.v,.hR [(13,1000),(10,1001)] 27 (.bool y3.1) [(1000,.cells 217 [.str y3.2.1,iI y3.2.2.1,.amap 1001]),(1001,.smap 0 3 (y3.2.2.2.map (aQ ai)))],.v]] [.only [2,3,4,5,6,28] [2,10,13]] 6 [] (aC Tryz.call176 (aC (ga _ _ _ _ h5) (aC Tryz.call175 (aC (qR _ _ _ _ _ h6) (aT aN))))) ?_;refine aU H4 (fun c0 H5 => ?_) (fun c1 H6 => ?_)
  ·refine aL H5 fun y4 h7 H7 => ?_;refine aU H7 (fun c2 H8 => ?_) (fun c3 H9 => ?_)
   ·refine aL H8 fun y5 h8 H10 => ?_;obtain rfl:=sI H10;obtain rfl:=ba h4;obtain rfl:=sI (aR H2);exact pR 13 [.eqT 28 bF,r0 [.v,.hR [(13,1000),(10,1001)] 31 (.tup []) [(1000,.cells 217 [.str y4,iI y3.2.2.1,.amap 1001]),(1001,.smap 0 3 (y3.2.2.2.map (aQ ai)))]],V5,.eqT 36 bT,r0 [.v,.v,.v,.hR [(13,1000),(10,1001)] 40 (.tup [.agg [iI y5.1.Const,dS aw y5.1.Terms],iI y5.2]) [],.v,.v,.m,.v]] [] [] (aM c0 (aC Tryz.call176 (aC (ga _ _ _ _ h7) (aB c2 (aC Tryz.call110 (aC (sk _ _ _ _ h8) aN))))))
   ·cases H9
  ·cases H6
def kU (x0:Linear):Option Bool :=
 (bE x0).bind fun y0 =>
 some (!y0)
theorem vt (x0:Linear) (r:Bool) (H:kU x0=some r):br Tryz.prog 104 [.agg [iI x0.Const,dS aw x0.Terms]] (.bool r):=by unfold kU at H;refine aX Tryz.func104 6 [.tmp 2] ?_;refine aL H fun y0 h0 H0 => ?_;obtain rfl:=sI H0;exact pR 5 [r0 [.m,.v],r0 [.v,.c true (.bool y0),.v,.v]] [] [] (aC Tryz.call90 (aF (aW _ _ h0) (aT aN)))
def cT (x0:List Linear):Option Int :=
 (fA (σ:=Unit) (ε:=Unit) (ρ:=Int) (fun i0 s0 =>
  (kU (Linear.mk ((x0.getD i0 aD).Const) ((x0.getD i0 aD).Terms))).bind fun y0 =>
  bif y0 then (
   some (.ret ((i0:Nat):Int))
  ) else (
   some (.go ())
  )
 ) (fun i0 s0=>()) (x0.length-0) 0 ()).bind <| aft fun u0 =>
 some (-1)
def dz (x0:List Linear) (i0:Nat) (s0:Unit):AS:=⟨19,[(0,dS ah x0),(1,.fn 104 []),(4,iI 0),(7,nI x0.length),(8,nI i0)],[]⟩
def fF (u1:Unit):AS:=⟨19,[(4,iI 0)],[]⟩
theorem lu (x0:List Linear) (r:Int) (H:cT x0=some r):br Tryz.prog 142 [dS ah x0,.fn 104 []] (iI r):=by
 unfold cT at H;refine aX Tryz.func142 19 [.tmp 4] ?_;refine pA 6 [V1,r0 [.v,.e (nI x0.length),.v]] [.only [0,1,4,7,8] []] 6 [] (dz x0 0 ()) (aT (aC (bo ah x0) aN)) ?_;refine aL H fun R0 h0 H0 => ?_;refine pJ 1 (fF) R0 ?_ (fun u0 e0 => ?_)
 ·refine pC (dz x0) h0 (fun i0 s0 h1 e1 => ?_) (fun i0 s0 h2 q0 h3 h4 => ?_)
  ·have c0:=lF i0 x0.length (by omega);subst e1;exact pB 5 [r0 [.e bF]] [.only [4] []] (fF ()) (aB c0 aN)
  ·have c1:=lT i0 x0.length (by omega);refine aL h3 fun y0 h5 H1 => ?_;refine pD 11 [r0 [.e bT],V2,r0 [.v,.v,.v,.e (.dptr (ah (x0.getD i0 aD))),.v,.c true (.bool y0)]] [.only [0,1,4,5,7,8,16] []] 11 [true] (aB c1 (aI cP x0 i0 aD (aC Tryz.call104 (aF (vt _ _ h5) aN)))) ?_;refine aU H1 (fun c2 H2 => ?_) (fun c3 H3 => ?_)
   ·obtain rfl:=sI H2;obtain rfl:=ba h4;obtain rfl:=sI (aR H0);exact pR 5 [.eqT 16 bT,V2] [] [] (aB c2 aN)
   ·refine bK 0 (ps:=[(x0.map ah).length≤9223372036854775807]) (by kernel_rfl) (fun l0 => ?_);have l1:x0.length≤9223372036854775807:=by simpa only [cq,Mt] using l0
    clear l0;obtain rfl:=sI H3;exact pB 4 [.eqT 16 bF,V2] [.only [0,1,4,7,8] []] (dz x0 (i0+1) ()) (aB c3 (aH i0 aN))
 ·subst e0;have H4:=bB H0;obtain rfl:=sI H4;exact pR 3 [V1] [] [] aN
def bw (x0:List Linear):Option Bool :=
 (cT x0).bind fun y0 =>
 some (decide (y0≥0))
theorem fi (x0:List Linear) (r:Bool) (H:bw x0=some r):br Tryz.prog 88 [dS ah x0,.fn 104 []] (.bool r):=by unfold bw at H;refine aX Tryz.func88 9 [.tmp 4] ?_;refine aL H fun y0 h0 H0 => ?_;obtain rfl:=sI H0;exact pR 5 [V1,r0 [.v,.v,.c true (iI y0),.v,.v]] [] [] (aC Tryz.call142 (aF (lu _ _ h0) aN))
def dj (x0:Shape):Option Bool :=
 bif (x0.Row==[]) then (
  bif decide (((x0.Dims.length:Nat):Int)≤6) then (
   (bw x0.Dims).bind fun y0 =>
   some (!y0)
  ) else (
   some false
  )
 ) else (
  (fg x0.Row).bind fun y1 =>
  bif y1 then (
   bif decide (((x0.Dims.length:Nat):Int)≤6) then (
    (bw x0.Dims).bind fun y2 =>
    some (!y2)
   ) else (
    some false
   )
  ) else (
   some false
  )
 )
theorem bY (x0:Shape) (r:Bool) (H:dj x0=some r):br Tryz.prog 53 [.agg [.str x0.Row,dS ah x0.Dims]] (.bool r):=by
 unfold dj at H;refine aX Tryz.func53 23 [.tmp 2] ?_;refine aU H (fun c0 H0 => ?_) (fun c1 H1 => ?_)
 ·refine aU H0 (fun c2 H2 => ?_) (fun c3 H3 => ?_)
  ·refine aL H2 fun y0 h0 H4 => ?_;obtain rfl:=sI H4;exact pR 5 [r0 [.m,.v],r0 [.v,.v,.e bT,.v,.s,.s,.s,.v,.v,.v,.v,.e (nI x0.Dims.length),.e bT,.v,.v,.v,.v,.c true (.bool y0),.v,.v,.v]] [] [] (aB c0 (aT (aC (bo ah x0.Dims) (aB c2 (aC Tryz.call88 (aF (fi _ _ h0) (aT aN)))))))
  ·obtain rfl:=sI H3;exact pR 5 [r0 [.m,.v],r0 [.v,.v,.e bT,.v,.s,.s,.s,.v,.v,.v,.v,.e (nI x0.Dims.length),.e bF,.v,.v,.s,.s,.s,.s,.v,.v]] [] [] (aB c0 (aT (aC (bo ah x0.Dims) (aB c3 aN))))
 ·refine aL H1 fun y1 h1 H5 => ?_;refine aU H5 (fun c4 H6 => ?_) (fun c5 H7 => ?_)
  ·refine aU H6 (fun c6 H8 => ?_) (fun c7 H9 => ?_)
   ·refine aL H8 fun y2 h2 H10 => ?_;obtain rfl:=sI H10;exact pR 5 [r0 [.m,.v],r0 [.v,.v,.e bF,.v,.v,.v,.c true bT,.v,.v,.v,.v,.e (nI x0.Dims.length),.e bT,.v,.v,.v,.v,.c true (.bool y2),.v,.v,.v]] [] [] (aB c1 (aC Tryz.call103 (aC (br.eq (bt _ _ h1) (cB c4)) (aT (aC (bo ah x0.Dims) (aB c6 (aC Tryz.call88 (aF (fi _ _ h2) (aT aN)))))))))
   ·obtain rfl:=sI H9;exact pR 5 [r0 [.m,.v],r0 [.v,.v,.e bF,.v,.v,.v,.c true bT,.v,.v,.v,.v,.e (nI x0.Dims.length),.e bF,.v,.v,.s,.s,.s,.s,.v,.v]] [] [] (aB c1 (aC Tryz.call103 (aC (br.eq (bt _ _ h1) (cB c4)) (aT (aC (bo ah x0.Dims) (aB c7 aN))))))
  ·obtain rfl:=sI H7;exact pR 5 [r0 [.m,.v],r0 [.v,.v,.e bF,.v,.v,.v,.c true bF,.v,.v,.s,.s,.s,.s,.v,.v,.s,.s,.s,.s,.v,.v]] [] [] (aB c1 (aC Tryz.call103 (aC (br.eq (bt _ _ h1) (cB c5)) aN)))
def dp (x0 x1:ak):Option ak :=
 (cr x0 x1).bind fun y0 =>
 bif y0 then (
  bX (0≤(aS (((x0.length:Nat):Int)-((x1.length:Nat):Int)))∧(aS (((x0.length:Nat):Int)-((x1.length:Nat):Int)))≤(x0.length:Int)) <|
  some (x0.take ((aS (((x0.length:Nat):Int)-((x1.length:Nat):Int))).toNat))
 ) else (
  none
 )
theorem jH (x0 x1 r:ak) (H:dp x0 x1=some r):br Tryz.prog 250 [.str x0,.str x1] (.str r):=by
 unfold dp at H;refine aX Tryz.func250 16 [.tmp 4] ?_;refine aL H fun y0 h0 H0 => ?_;refine aU H0 (fun c0 H1 => ?_) (fun c1 H2 => ?_)
 ·refine aP H1 fun g0 H3 => ?_;obtain rfl:=sI H3;exact pR 10 [V1,r0 [.v,.v,.c true (.bool y0)],.eqT 7 bT,r0 (V 5 [.w,.e (.str (x0.take ((aS (((x0.length:Nat):Int)-((x1.length:Nat):Int))).toNat))),.v])] [] [] (aC Tryz.call208 (aF (dc _ _ _ h0) (aB c0 (aT (aT (aC (show (0:Int)≤0∧0≤(aS (((x0.length:Nat):Int)-((x1.length:Nat):Int)))∧(aS (((x0.length:Nat):Int)-((x1.length:Nat):Int)))≤(x0.length:Int) from by omega) (aC (sf x0 ((aS (((x0.length:Nat):Int)-((x1.length:Nat):Int))).toNat)) aN)))))))
 ·cases H2
def strings_TrimSuffix (x0 x1:ak):Option ak :=
 (dp x0 x1).bind fun y0 =>
 some y0
theorem qQ (x0 x1 r:ak) (H:strings_TrimSuffix x0 x1=some r):br Tryz.prog 218 [.str x0,.str x1] (.str r):=by unfold strings_TrimSuffix at H;refine aX Tryz.func218 8 [.tmp 4] ?_;refine aL H fun y0 h0 H0 => ?_;refine bc H0 fun e0 => ?_;subst e0;exact pR 5 [V1,r0 [.v,.v,.c true (.str y0),.v]] [] [] (aC Tryz.call250 (aF (jH _ _ _ h0) aN))
def ki (x0:Int) (x1 x2:ak):Option ak :=
 (iw x0).bind fun y0 =>
 ((
  bif (x1==[]) then (
   some false
  ) else (
   bif (x0==1) then (
    some true
   ) else (
    none
   )
  )
 ):Option Bool).bind fun v0 =>
 ((
  bif v0 then (
   (strings_TrimSuffix y0 [49]).bind fun y1 =>
   some y1
  ) else (
   some y0
  )
 ):Option ak).bind fun v1 =>
 bif decide (x0≥0) then (
  ((
   bif (x2==[]) then (
    some x2
   ) else (
    bX (x2.length+[43].length≤9223372036854775807) <|
    some (x2++[43])
   )
  ):Option ak).bind fun v2 =>
  bX (v1.length+x1.length≤9223372036854775807) <|
  bX (v2.length+(v1++x1).length≤9223372036854775807) <|
  some (v2++(v1++x1))
 ) else (
  none
 )
def jW (x0:Int) (x1 x2 y0:ak) (v0:Bool):AS:=⟨33,[(0,iI x0),(1,.str x1),(2,.hptr 1000 0),(5,.str y0),(17,.bool v0)],[(1000,.cells 9 [.str x2])]⟩
def jN (x0:Int) (x1 x2 v1:ak):AS:=⟨33,[(0,iI x0),(1,.str x1),(2,.hptr 1000 0),(5,.str v1)],[(1000,.cells 9 [.str x2])]⟩
def jS (x1 v1 v2:ak):AS:=⟨33,[(1,.str x1),(2,.hptr 1000 0),(5,.str v1)],[(1000,.cells 9 [.str v2])]⟩
theorem o7 (x0:Int) (x1 x2 r:ak) (H:ki x0 x1 x2=some r):bg Tryz.prog 217 [iI x0,.str x1,.hptr 1000 0] [(1000,.cells 9 [.str x2])] (fun r2 h0=>r2=(.tup [])∧h0=[(1000,.cells 9 [.str r])]):=by
 unfold ki at H;refine aX Tryz.func217 33 [] ?_;refine aL H fun y0 h1 H0 => ?_;refine pD 4 [r0 [.v,.c true (.str y0),.v]] [.only [0,1,2,5] [1000]] 4 [] (aC Tryz.call151 (aF (sZ x0 y0 h1) aN)) ?_;refine aL H0 fun v0 h2 H1 => ?_;refine cC 0 (jW x0 x1 x2 y0 v0) (by kernel_rfl) ?_ ?_
 ·refine aU h2 (fun c0 H2 => ?_) (fun c1 H3 => ?_)
  ·obtain rfl:=sI H2;exact pB 1 [r0 [.v,.e bF,.v,.s,.s,.s,.s,.s,.s,.v]] [.only [0,1,2,5,17] [1000]] (jW x0 x1 x2 y0 false) (aM c0 aN)
  ·refine aU H3 (fun c2 H4 => ?_) (fun c3 H5 => ?_)
   ·obtain rfl:=sI H4;exact pB 1 [r0 [.v,.e bT,.v,.v,.e bT,.v,.s,.s,.v,.v]] [.only [0,1,2,5,17] [1000]] (jW x0 x1 x2 y0 true) (aM c1 (aB c2 aN))
   ·cases H5
 ·refine aL H1 fun v1 h3 H6 => ?_;refine cC 0 (jN x0 x1 x2 v1) (by kernel_rfl) ?_ ?_
  ·refine aU h3 (fun c4 H7 => ?_) (fun c5 H8 => ?_)
   ·refine aL H7 fun y1 h4 H9 => ?_;refine bc H9 fun e0 => ?_;subst e0;exact pB 3 [.eqT 17 bT,r0 [.v,.c true (.str y1),.v]] [.only [0,1,2,5] [1000]] (jN x0 x1 x2 y1) (aB c4 (aC Tryz.call218 (aF (qQ _ _ _ h4) aN)))
   ·refine bc H8 fun e1 => ?_;subst e1;exact pB 3 [.eqT 17 bF] [.only [0,1,2,5] [1000]] (jN x0 x1 x2 y0) (aB c5 aN)
  ·refine aU H6 (fun c6 H10 => ?_) (fun c7 H11 => ?_)
   ·refine pD 3 [.rg 0 [] [.v,.e bT,.v,.v,.v,.v]] [.only [1,2,5,25] [1000]] 3 [] (aB c6 aN) ?_;refine aL H10 fun v2 h5 H12 => ?_;refine cC 0 (jS x1 v1 v2) (by kernel_rfl) ?_ ?_
    ·refine aU h5 (fun c8 H13 => ?_) (fun c9 H14 => ?_)
     ·refine bc H13 fun e2 => ?_;subst e2;exact pB 3 [.eqT 25 bF] [.only [1,2,5] [1000]] (jS x1 v1 x2) (aM c8 aN)
     ·refine aP H14 fun g0 H15 => ?_;obtain rfl:=sI H15;exact pB 3 [.eqT 25 bT,r0 [.v,.v,.m]] [.only [1,2,5] [1000]] (jS x1 v1 (x2++[43])) (aM c9 (aC (show x2.length+[43].length≤9223372036854775807 from g0) aN))
    ·refine aP H12 fun g1 H16 => ?_;refine aP H16 fun g2 H17 => ?_;obtain rfl:=sI H17;exact pR 1 [r0 (V 5 [.m])] [] [1000] (aC (show v1.length+x1.length≤9223372036854775807 from g1) (aC (show v2.length+(v1++x1).length≤9223372036854775807 from g2) aN))
   ·cases H11
def pM (x0:Linear):Option ak :=
 (bE x0).bind fun y0 =>
 bif y0 then (
  (fA (σ:=ak) (ε:=ak) (ρ:=Empty) (fun i0 s0 =>
   (ki ((x0.Terms.getD i0 aJ).C) ((x0.Terms.getD i0 aJ).Var) s0).bind fun y1 =>
   some (.go y1)
  ) (fun i0 s0=>s0) (x0.Terms.length-0) 0 []).bind <| dL fun u0 =>
  ((
   bif (x0.Const==0) then (
    some (u0==[])
   ) else (
    some true
   )
  ):Option Bool).bind fun v0 =>
  bif v0 then (
   (ki x0.Const [] u0).bind fun y2 =>
   some y2
  ) else (
   some u0
  )
 ) else (
  none
 )
def lU (x0:Linear) (i0:Nat) (s0:ak):AS:=⟨37,[(1,.hptr 1 0),(2,.str []),(3,.hptr 3 0),(4,.fn 217 [.hptr 3 0]),(12,dS aw x0.Terms),(13,nI x0.Terms.length),(14,nI i0)],[(1,.cells 29 [iI x0.Const,dS aw x0.Terms]),(3,.cells 9 [.str s0])]⟩
def qo (x0:Linear) (u1:ak):AS:=⟨37,[(1,.hptr 1 0),(2,.str []),(3,.hptr 3 0),(4,.fn 217 [.hptr 3 0])],[(1,.cells 29 [iI x0.Const,dS aw x0.Terms]),(3,.cells 9 [.str u1])]⟩
def lM (x0:Linear) (u0:ak) (v0:Bool):AS:=⟨37,[(1,.hptr 1 0),(2,.str []),(3,.hptr 3 0),(4,.fn 217 [.hptr 3 0]),(31,.bool v0)],[(1,.cells 29 [iI x0.Const,dS aw x0.Terms]),(3,.cells 9 [.str u0])]⟩
theorem w9 (x0:Linear) (r:ak) (H:pM x0=some r):br Tryz.prog 178 [.agg [iI x0.Const,dS aw x0.Terms]] (.str r):=by
 unfold pM at H;refine aX Tryz.func178 37 [.tmp 2] ?_;refine aL H fun y0 h0 H0 => ?_;refine aU H0 (fun c0 H1 => ?_) (fun c1 H2 => ?_)
 ·refine pA 16 [.rg 0 [] [.m,.v],.rg 0 [] [.v,.c true (.bool y0),.v],.eqT 9 bF,.rg 0 [] [.m,.m],.rg 0 [] [.v,.v],.rg 0 [] [.v,.v,.e (.int .i64 ((x0.Terms.length:Nat):Int)),.v]] [.only [1,2,3,4,12,13,14] [1,3]] 15 [false] (lU x0 0 []) (aC Tryz.call90 (aF (aW _ _ h0) (aT (aM c0 (aT (aC (bo aw x0.Terms) aN)))))) ?_;refine aL H1 fun R0 h1 H3 => ?_;refine pJ 1 (qo x0) R0 ?_ (fun u0 e0 => ?_)
  ·refine pC (lU x0) h1 (fun i0 s0 h2 e1 => ?_) (fun i0 s0 h3 q0 h4 h5 => ?_)
   ·have c2:=lF i0 x0.Terms.length (by omega);subst e1;exact pB 5 [r0 [.e bF]] [.only [1,2,3,4] [1,3]] (qo x0 s0) (aB c2 aN)
   ·have c3:=lT i0 x0.Terms.length (by omega);refine aL h4 fun y1 h6 H4 => ?_;refine bK 12 (ps:=[(x0.Terms.map aw).length≤9223372036854775807]) (by kernel_rfl) (fun l0 => ?_);have l1:x0.Terms.length≤9223372036854775807:=by simpa only [cq,Mt] using l0
    clear l0;obtain rfl:=sI H4;exact pB 11 [r0 [.e bT],r0 [.e (.dptr (aw (x0.Terms.getD i0 aJ))),.v,.m,.m],r0 (V 5 [.hR [(3,1000)] 23 (.tup []) [(1000,.cells 9 [.str y1])]]),V2] [.only [1,2,3,4,12,13,14] [1,3]] (lU x0 (i0+1) y1) (aB c3 (aI cy x0.Terms i0 aJ (aC Tryz.call217 (aC (o7 _ _ _ _ h6) (aH i0 aN)))))
  ·subst e0;have H5:=bu H3;refine pD 2 [] [.only [1,2,3,4] [1,3]] 2 [] aN ?_;refine aL H5 fun v0 h7 H6 => ?_;refine cC 0 (lM x0 u0 v0) (by kernel_rfl) ?_ ?_
   ·refine aU h7 (fun c4 H7 => ?_) (fun c5 H8 => ?_)
    ·obtain rfl:=sI H7;exact pB 1 [r0 [.v,.v,.e bF,.v,.v,.v,.v]] [.only [1,2,3,4,31] [1,3]] (lM x0 u0 (u0==[])) (aM c4 aN)
    ·obtain rfl:=sI H8;exact pB 1 [r0 [.v,.v,.e bT,.v,.s,.s,.v]] [.only [1,2,3,4,31] [1,3]] (lM x0 u0 true) (aM c5 aN)
   ·refine aU H6 (fun c6 H9 => ?_) (fun c7 H10 => ?_)
    ·refine aL H9 fun y2 h8 H11 => ?_;refine bc H11 fun e2 => ?_;subst e2;exact pR 6 [.eqT 31 bT,r0 [.v,.v,.v,.hR [(3,1000)] 35 (.tup []) [(1000,.cells 9 [.str y2])]],V2] [] [] (aB c6 (aC Tryz.call217 (aC (o7 _ _ _ _ h8) aN)))
    ·refine bc H10 fun e3 => ?_;subst e3;exact pR 6 [.eqT 31 bF,V2] [] [] (aB c7 aN)
 ·cases H2
def qc (x0:Shape):Option ak :=
 ((
  bif (x0.Row==[]) then (
   some []
  ) else (
   bX (x0.Row.length+[46,46].length≤9223372036854775807) <|
   some [(x0.Row++[46,46])]
  )
 ):Option (List ak)).bind fun v0 =>
 (fA (σ:=(List ak)) (ε:=(List ak)) (ρ:=Empty) (fun i0 s0 =>
  (pM (Linear.mk ((x0.Dims.getD i0 aD).Const) ((x0.Dims.getD i0 aD).Terms))).bind fun y0 =>
  bX ((s0.length+1)*16≤140737488355328) <|
  some (.go (s0++[y0]))
 ) (fun i0 s0=>s0) (x0.Dims.length-0) 0 v0).bind <| dL fun u0 =>
 (tH u0 [44,32]).bind fun y1 =>
 bX ([91].length+y1.length≤9223372036854775807) <|
 bX (([91]++y1).length+[93].length≤9223372036854775807) <|
 some (([91]++y1)++[93])
def oP (x0:Shape) (v0:List ak):AS:=⟨32,[(1,.hptr 1 0),(2,.str []),(3,.rslice 14)],[(1,.cells 34 [.str x0.Row,dS ah x0.Dims]),(14,.row 9 1 (v0.map aZ))]⟩
def oJ (x0:Shape) (i0:Nat) (s0:List ak):AS:=⟨32,[(2,.str []),(3,.rslice 26),(16,dS ah x0.Dims),(17,nI x0.Dims.length),(18,nI i0)],[(26,.row 9 1 (s0.map aZ))]⟩
def sH (u1:List ak):AS:=⟨32,[(2,.str []),(3,.rslice 26)],[(26,.row 9 1 (u1.map aZ))]⟩
theorem tR (x0:Shape) (r:ak) (H:qc x0=some r):br Tryz.prog 136 [.agg [.str x0.Row,dS ah x0.Dims]] (.str r):=by
 unfold qc at H;refine aX Tryz.func136 32 [.tmp 2] ?_;refine pD 7 [r0 [.m,.v],V1,V3] [.only [1,2,3,8] [1]] 7 [] aN ?_;refine aL H fun v0 h0 H0 => ?_;refine cC 0 (oP x0 v0) (by kernel_rfl) ?_ ?_
 ·refine aU h0 (fun c0 H1 => ?_) (fun c1 H2 => ?_)
  ·obtain rfl:=sI H1;exact pB 3 [.eqT 8 bF] [.er 3 14 9 1,.only [1,2,3] [1,14]] (oP x0 []) (aM c0 aN)
  ·refine aP H2 fun g0 H3 => ?_;obtain rfl:=sI H3;exact pB 3 [.eqT 8 bT,r0 (V 4 [.b,.er 9 14 9 1,.ap,.rwH 14 (.row 9 1 ([(x0.Row++[46,46])].map aZ)),.v])] [.only [1,2,3] [1,14]] (oP x0 [(x0.Row++[46,46])]) (aM c1 (aC (show x0.Row.length+[46,46].length≤9223372036854775807 from g0) (a8 (tg (c:=aZ) pY [] [(x0.Row++[46,46])] 16 (by decide) (by simp)) (aC (Fv 9 1 aZ [(x0.Row++[46,46])]) aN))))
 ·refine pA 4 [.rg 0 [] [.v,.v,.e (.int .i64 ((x0.Dims.length:Nat):Int)),.v]] [.ren [(14,26)],.only [2,3,16,17,18] [26]] 4 [] (oJ x0 0 v0) (aT (aC (bo ah x0.Dims) aN)) ?_;refine aL H0 fun R0 h1 H4 => ?_;refine pJ 1 (sH) R0 ?_ (fun u0 e0 => ?_)
  ·refine pC (oJ x0) h1 (fun i0 s0 h2 e1 => ?_) (fun i0 s0 h3 q0 h4 h5 => ?_)
   ·have c2:=lF i0 x0.Dims.length (by omega);subst e1;exact pB 5 [r0 [.e bF]] [.only [2,3] [26]] (sH s0) (aB c2 aN)
   ·have c3:=lT i0 x0.Dims.length (by omega);refine aL h4 fun y0 h6 H5 => ?_;refine aP H5 fun g1 H6 => ?_;refine bK 16 (ps:=[(x0.Dims.map ah).length≤9223372036854775807]) (by kernel_rfl) (fun l0 => ?_);have l1:x0.Dims.length≤9223372036854775807:=by simpa only [cq,Mt] using l0
    clear l0;obtain rfl:=sI H6;exact pB 11 [r0 [.e bT],r0 [.e (.dptr (ah (x0.Dims.getD i0 aD))),.v,.m,.m],r0 [.v,.v,.c true (.str y0),.b,.ap,.rwH 26 (.row 9 1 ((s0++[y0]).map aZ)),.v],V2] [.only [2,3,16,17,18] [26]] (oJ x0 (i0+1) (s0++[y0])) (aB c3 (aI cP x0.Dims i0 aD (aC Tryz.call178 (aF (w9 _ _ h6) (a8 (tg (c:=aZ) pY s0 [y0] 16 (by decide) (by first | (simp;done) | simpa using g1)) (aC (vQ 9 1 aZ s0 [y0]) (aH i0 aN)))))))
  ·subst e0;have H7:=bu H4;refine aL H7 fun y1 h7 H8 => ?_;refine aP H8 fun g2 H9 => ?_;refine aP H9 fun g3 H10 => ?_;obtain rfl:=sI H10;exact pR 3 [r0 [.v,.c false (.str y1),.v,.v,.v]] [] [] (aC Tryz.call179 (aF (CU u0 [44,32] y1 h7) (aC (show [91].length+y1.length≤9223372036854775807 from g2) (aC (show ([91]++y1).length+[93].length≤9223372036854775807 from g3) aN))))
noncomputable def rK (x0:ak):Option (Shape×Int) :=
 (strings_CutPrefix x0 [91]).bind fun y0 =>
 (strings_CutSuffix y0.1 [93]).bind fun y1 =>
 bif y0.2 then (
  bif y1.2 then (
   (rZ y1.1 [44,32]).bind fun y2 =>
   (fA (σ:=(ak×(List Linear))) (ε:=(ak×(List Linear))) (ρ:=Empty) (fun i0 s0 =>
    (strings_CutSuffix (y2.getD i0 []) [46,46]).bind fun y3 =>
    ((
     bif y3.2 then (
      bif (((i0:Nat):Int)==0) then (
       some (y3.1,s0.2)
      ) else (
       none
      )
     ) else (
      (px (y2.getD i0 [])).bind fun y4 =>
      bif (y4.2==0) then (
       bif (y1.1==[]) then (
        none
       ) else (
        bX ((s0.2.length+1)*32≤140737488355328) <|
        some (s0.1,(s0.2++[y4.1]))
       )
      ) else (
       none
      )
     )
    ):Option (ak×(List Linear))).bind fun v0 =>
    some (.go (v0.1,v0.2))
   ) (fun i0 s0=>(s0.1,s0.2)) (y2.length-0) 0 ([],[])).bind <| dL fun u0 =>
   (dj (Shape.mk u0.1 u0.2)).bind fun y5 =>
   bif y5 then (
    (qc (Shape.mk u0.1 u0.2)).bind fun y6 =>
    bif (y6==x0) then (
     some ((Shape.mk u0.1 u0.2),0)
    ) else (
     none
    )
   ) else (
    none
   )
  ) else (
   none
  )
 ) else (
  none
 )
def nH (x0:ak) (y1:ak×Bool) (y2:List ak) (i0:Nat) (s0:ak×(List Linear)):AS:=⟨83,[(0,.str x0),(2,.hptr 2 0),(3,iI 0),(4,.str y1.1),(7,.hptr 7 0),(32,dS aZ y2),(33,nI y2.length),(34,nI i0)],[(2,.cells 34 [.str [],.eslice]),(7,.cells 34 [.str s0.1,.rslice 69]),(69,.row 29 2 (s0.2.map ah))]⟩
def rT (x0:ak) (u1:ak×(List Linear)):AS:=⟨83,[(0,.str x0),(2,.hptr 2 0),(3,iI 0),(7,.hptr 7 0)],[(2,.cells 34 [.str [],.eslice]),(7,.cells 34 [.str u1.1,.rslice 69]),(69,.row 29 2 (u1.2.map ah))]⟩
def nE (x0:ak) (y1:ak×Bool) (y2:List ak) (i0:Nat) (v0:ak×(List Linear)):AS:=⟨83,[(0,.str x0),(2,.hptr 2 0),(3,iI 0),(4,.str y1.1),(7,.hptr 7 0),(32,dS aZ y2),(33,nI y2.length),(34,nI i0)],[(2,.cells 34 [.str [],.eslice]),(7,.cells 34 [.str v0.1,.rslice 69]),(69,.row 29 2 (v0.2.map ah))]⟩
theorem yp (x0:ak) (r:Shape×Int) (H:rK x0=some r):br Tryz.prog 72 [.str x0] (.tup [.agg [.str r.1.Row,dS ah r.1.Dims],iI r.2]):=by
 unfold rK at H;refine aX Tryz.func72 83 [.cell 2 34,.tmp 3] ?_;refine aL H fun y0 h0 H0 => ?_;refine aL H0 fun y1 h1 H1 => ?_;refine aU H1 (fun c0 H2 => ?_) (fun c1 H3 => ?_)
 ·refine pD 10 [.rg 0 [] [.m,.v],.rg 0 [] [.v,.c true (.tup [.str y0.1,.bool y0.2]),.v,.v,.v,.v,.v],.rg 0 [] [.v,.c true (.tup [.str y1.1,.bool y1.2]),.v,.v,.v,.v,.v],.eqT 5 bT,.rg 0 [] (V 6 [])] [.only [0,2,3,4,29] [2]] 9 [] (aC Tryz.call80 (aF (iK _ _ _ h0) (aC Tryz.call133 (aF (l6 _ _ _ h1) (aB c0 (aT (aT aN))))))) ?_;refine aU H2 (fun c2 H4 => ?_) (fun c3 H5 => ?_)
  ·refine aL H4 fun y2 h2 H6 => ?_;refine pA 9 [.eqT 29 bF,r0 [.m],r0 [.v,.c true (dS aZ y2),.e (nI y2.length),.v]] [.erH 7 1 69 29 2,.only [0,2,3,4,7,32,33,34] [2,7,69]] 8 [false] (nH x0 y1 y2 0 ([],[])) (aM c2 (aC Tryz.call134 (aF (BS y1.1 [44,32] y2 h2) (aT (aC (bo aZ y2) aN))))) ?_;refine aL H6 fun R0 h3 H7 => ?_;refine pJ 1 (rT x0) R0 ?_ (fun u0 e0 => ?_)
   ·refine pC (nH x0 y1 y2) h3 (fun i0 s0 h4 e1 => ?_) (fun i0 s0 h5 q0 h6 h7 => ?_)
    ·have c4:=lF i0 y2.length (by omega);subst e1;exact pB 5 [r0 [.e bF]] [.only [0,2,3,7] [2,7,69]] (rT x0 (s0.1,s0.2)) (aB c4 aN)
    ·have c5:=lT i0 y2.length (by omega);refine aL h6 fun y3 h8 H8 => ?_;refine pD 13 [r0 [.e bT],r0 [.v,.e (.dptr [.str (y2.getD i0 [])]),.v,.v,.v],r0 [.v,.c true (.tup [.str y3.1,.bool y3.2]),.v,.v,.v,.v,.v]] [.only [0,2,3,4,7,8,9,10,11,32,33,34] [2,7,69]] 13 [true] (aB c5 (aI tG y2 i0 [] (aC Tryz.call133 (aF (l6 _ _ _ h8) aN)))) ?_;refine aL H8 fun v0 h9 H9 => ?_;refine cC 3 (nE x0 y1 y2 i0 v0) (by kernel_rfl) ?_ ?_
     ·refine aU h9 (fun c6 H10 => ?_) (fun c7 H11 => ?_)
      ·refine aU H10 (fun c8 H12 => ?_) (fun c9 H13 => ?_)
       ·obtain rfl:=sI H12;exact pB 7 [.eqT 11 bT,V5,.eqT 48 bT,r0 [.v,.v,.m]] [.only [0,2,3,4,7,32,33,34] [2,7,69]] (nE x0 y1 y2 i0 (y3.1,s0.2)) (aB c6 (aB c8 aN))
       ·cases H13
      ·refine aL H11 fun y4 h10 H14 => ?_;refine aU H14 (fun c10 H15 => ?_) (fun c11 H16 => ?_)
       ·refine pD 13 [.eqT 11 bF,.rg 0 [] [.v,.v,.s,.s,.v],.rg 0 [] [.v,.c true (.tup [.agg [.int .i64 y4.1.Const,.dslice (y4.1.Terms.map aw)],.int .i64 y4.2]),.v,.v,.v,.m,.m,.v],.rg 0 [] [.v,.e bF,.v,.s,.s,.v],.rg 0 [] [.v,.v]] [.only [0,2,3,4,7,12,32,33,34,64] [2,7,12,69]] 12 [false,false] (aB c7 (aC Tryz.call135 (aF (xo _ _ h10) (aM c10 aN)))) ?_;refine aU H15 (fun c12 H17 => ?_) (fun c13 H18 => ?_)
        ·cases H17
        ·refine aP H18 fun g0 H19 => ?_;obtain rfl:=sI H19;exact pB 3 [.eqT 64 bT,r0 [.v,.v,.v,.b,.ap,.rwH 69 (.row 29 2 ((s0.2++[y4.1]).map ah)),.v,.m]] [.only [0,2,3,4,7,32,33,34] [2,7,69]] (nE x0 y1 y2 i0 (s0.1,(s0.2++[y4.1]))) (aM c13 (a8 (tg (c:=ah) kz s0.2 [y4.1] 32 (by decide) (by first | (simp;done) | simpa using g0)) (aC (vQ 29 2 ah s0.2 [y4.1]) aN)))
       ·cases H16
     ·refine bK 32 (ps:=[(y2.map aZ).length≤9223372036854775807]) (by kernel_rfl) (fun l0 => ?_);have l1:y2.length≤9223372036854775807:=by simpa only [cq,Mt] using l0
      clear l0;obtain rfl:=sI H9;exact pB 1 [V2] [.only [0,2,3,4,7,32,33,34] [2,7,69]] (nH x0 y1 y2 (i0+1) (v0.1,v0.2)) (aH i0 aN)
   ·subst e0;have H20:=bu H7;refine aL H20 fun y5 h11 H21 => ?_;refine aU H21 (fun c14 H22 => ?_) (fun c15 H23 => ?_)
    ·refine aL H22 fun y6 h12 H24 => ?_;refine aU H24 (fun c16 H25 => ?_) (fun c17 H26 => ?_)
     ·obtain rfl:=sI H25;exact pR 9 [r0 [.v,.c false bT,.v,.v,.v,.c false (.str y6),.v,.v,.v],.eqT 80 bF,r0 [.v,.m,.v]] [.fz 69] [] (aC Tryz.call53 (aC (br.eq (bY _ _ h11) (cB c14)) (aT (aC Tryz.call136 (aF (tR _ _ h12) (aM c16 aN))))))
     ·cases H26
    ·cases H23
  ·cases H5
 ·cases H3
def cX (x0:ak):Option Bool :=
 bif decide (((x0.length:Nat):Int)<1) then (
  some false
 ) else (
  bif decide (((x0.length:Nat):Int)>30) then (
   some false
  ) else (
   bX (0<x0.length) <|
   bif decide (((x0.getD 0 0).toNat:Int)<65) then (
    some false
   ) else (
    bif decide (((x0.getD 0 0).toNat:Int)>90) then (
     some false
    ) else (
     bX (1≤x0.length) <|
     (qx (x0.drop 1) [48,49,50,51,52,53,54,55,56,57]).bind fun y0 =>
     some (y0==[])
    )
   )
  )
 )
theorem bl (x0:ak) (r:Bool) (H:cX x0=some r):br Tryz.prog 79 [.str x0] (.bool r):=by
 unfold cX at H;refine aX Tryz.func79 25 [.tmp 2] ?_;refine aU H (fun c0 H0 => ?_) (fun c1 H1 => ?_)
 ·obtain rfl:=sI H0;exact pR 9 [V1,r0 [.v,.v,.e bT,.v,.s,.s,.s,.v,.v,.s,.s,.s,.v,.v,.s,.s,.s,.v],V1] [] [] (aT (aB c0 aN))
 ·have c1p:=Mo c1;refine aU H1 (fun c2 H2 => ?_) (fun c3 H3 => ?_)
  ·obtain rfl:=sI H2;exact pR 9 [V1,r0 [.v,.v,.e bF,.v,.v,.v,.e bT,.v,.v,.s,.s,.s,.v,.v,.s,.s,.s,.v],V1] [] [] (aT (aB c1 (aT (aB c2 aN))))
  ·have c3p:=Mo c3;refine aP H3 fun g0 H4 => ?_;refine aU H4 (fun c4 H5 => ?_) (fun c5 H6 => ?_)
   ·have c4p:=Mp c4;obtain rfl:=sI H5;exact pR 9 [V1,r0 [.v,.v,.e bF,.v,.v,.v,.e bF,.v,.v,.v,.v,.e bT,.v,.v,.s,.s,.s,.v],V1] [] [] (aT (aB c1 (aT (aB c3 (aC (show (0:Int)≤0∧0<(x0.length:Int) from by omega) (aB c4 aN))))))
   ·have c5p:=Mo c5;refine pD 5 [V1,r0 [.v,.v,.e bF,.v,.v,.v,.e bF,.v,.v,.v,.v,.e bF,.v,.v,.v,.v,.v,.v]] [.only [0,2,20] []] 5 [] (aT (aB c1 (aT (aB c3 (aC (show (0:Int)≤0∧0<(x0.length:Int) from by omega) (aB c5 (aC (show (0:Int)≤0∧0<(x0.length:Int) from by omega) aN))))))) ?_;refine aU H6 (fun c6 H7 => ?_) (fun c7 H8 => ?_)
    ·obtain rfl:=sI H7;exact pR 5 [.eqT 20 bT,V1] [] [] (aB c6 aN)
    ·have c7p:=Mo c7;refine aP H8 fun g1 H9 => ?_;refine aL H9 fun y0 h0 H10 => ?_;obtain rfl:=sI H10;exact pR 6 [.eqT 20 bF,r0 [.v,.e (.str (x0.drop 1)),.c true (.str y0),.v,.v]] [] [] (aB c7 (aC (show (0:Int)≤1∧1≤(x0.length:Int)∧(x0.length:Int)≤(x0.length:Int) from by omega) (aC (kR x0 1) (aC Tryz.call139 (aF (C3 (x0.drop 1) [48,49,50,51,52,53,54,55,56,57] y0 h0) aN)))))
def cQ (x0:eh):Option Bool :=
 bif (x0.Elem==[105,110,116]) then (
  (dj x0.Shape).bind fun y0 =>
  some y0
 ) else (
  bif (x0.Elem==[98,111,111,108]) then (
   (dj x0.Shape).bind fun y1 =>
   some y1
  ) else (
   (cX x0.Elem).bind fun y2 =>
   bif y2 then (
    (dj x0.Shape).bind fun y3 =>
    some y3
   ) else (
    some false
   )
  )
 )
theorem dD (x0:eh) (r:Bool) (H:cQ x0=some r):br Tryz.prog 62 [.agg [.str x0.Elem,.str x0.Shape.Row,dS ah x0.Shape.Dims]] (.bool r):=by
 unfold cQ at H;refine aX Tryz.func62 21 [.tmp 2] ?_;refine aU H (fun c0 H0 => ?_) (fun c1 H1 => ?_)
 ·refine aL H0 fun y0 h0 H2 => ?_;refine bc H2 fun e0 => ?_;subst e0;exact pR 5 [r0 [.m,.v],r0 [.v,.v,.e bT,.v,.s,.s,.s,.v,.v,.s,.s,.s,.v,.v,.v,.v,.c true (.bool y0),.v,.v]] [] [] (aB c0 (aC Tryz.call53 (aF (bY _ _ h0) aN)))
 ·refine aU H1 (fun c2 H3 => ?_) (fun c3 H4 => ?_)
  ·refine aL H3 fun y1 h1 H5 => ?_;refine bc H5 fun e1 => ?_;subst e1;exact pR 5 [r0 [.m,.v],r0 [.v,.v,.e bF,.v,.v,.v,.e bT,.v,.v,.s,.s,.s,.v,.v,.v,.v,.c true (.bool y1),.v,.v]] [] [] (aB c1 (aB c2 (aC Tryz.call53 (aF (bY _ _ h1) aN))))
  ·refine aL H4 fun y2 h2 H6 => ?_;refine aU H6 (fun c4 H7 => ?_) (fun c5 H8 => ?_)
   ·refine aL H7 fun y3 h3 H9 => ?_;refine bc H9 fun e2 => ?_;subst e2;exact pR 5 [r0 [.m,.v],r0 [.v,.v,.e bF,.v,.v,.v,.e bF,.v,.v,.v,.v,.c true bT,.v,.v,.v,.v,.c true (.bool y3),.v,.v]] [] [] (aB c1 (aB c3 (aC Tryz.call79 (aC (br.eq (bl _ _ h2) (cB c4)) (aC Tryz.call53 (aF (bY _ _ h3) aN))))))
   ·obtain rfl:=sI H8;exact pR 5 [r0 [.m,.v],r0 [.v,.v,.e bF,.v,.v,.v,.e bF,.v,.v,.v,.v,.c true bF,.v,.v,.s,.s,.s,.v,.v]] [] [] (aB c1 (aB c3 (aC Tryz.call79 (aC (br.eq (bl _ _ h2) (cB c5)) aN))))
def qD (x0:Shape):Option (ak×Int) :=
 (dj x0).bind fun y0 =>
 bif y0 then (
  (qc x0).bind fun y1 =>
  some (y1,0)
 ) else (
  none
 )
theorem sJ (x0:Shape) (r:ak×Int) (H:qD x0=some r):br Tryz.prog 137 [.agg [.str x0.Row,dS ah x0.Dims]] (.tup [.str r.1,iI r.2]):=by
 unfold qD at H;refine aX Tryz.func137 9 [.tmp 2,.tmp 3] ?_;refine aL H fun y0 h0 H0 => ?_;refine aU H0 (fun c0 H1 => ?_) (fun c1 H2 => ?_)
 ·refine aL H1 fun y1 h1 H3 => ?_;obtain rfl:=sI H3;exact pR 11 [r0 [.m,.v,.v],r0 [.v,.c true (.bool y0),.v],.eqT 6 bF,r0 [.v,.c true (.str y1),.v,.v]] [] [] (aC Tryz.call53 (aF (bY _ _ h0) (aT (aM c0 (aC Tryz.call136 (aF (tR _ _ h1) aN))))))
 ·cases H2
def s7 (x0:eh):Option ak :=
 (qD x0.Shape).bind fun y0 =>
 bif (y0.1==[91,93]) then (
  some x0.Elem
 ) else (
  bX (y0.1.length+x0.Elem.length≤9223372036854775807) <|
  some (y0.1++x0.Elem)
 )
theorem zO (x0:eh) (r:ak) (H:s7 x0=some r):br Tryz.prog 73 [.agg [.str x0.Elem,.str x0.Shape.Row,dS ah x0.Shape.Dims]] (.str r):=by
 unfold s7 at H;refine aX Tryz.func73 19 [.tmp 2] ?_;refine aL H fun y0 h0 H0 => ?_;refine aU H0 (fun c0 H1 => ?_) (fun c1 H2 => ?_)
 ·obtain rfl:=sI H1;exact pR 12 [r0 [.m,.v],r0 [.v,.v,.c true (.tup [.str y0.1,iI y0.2]),.v,.v,.v,.v,.v],V2,.eqT 12 bT,V3] [] [] (aC Tryz.call137 (aF (sJ _ _ h0) (aB c0 aN)))
 ·refine aP H2 fun g0 H3 => ?_;obtain rfl:=sI H3;exact pR 13 [r0 [.m,.v],r0 [.v,.v,.c true (.tup [.str y0.1,iI y0.2]),.v,.v,.v,.v,.v],V2,.eqT 12 bF,V5] [] [] (aC Tryz.call137 (aF (sJ _ _ h0) (aB c1 (aC (show y0.1.length+x0.Elem.length≤9223372036854775807 from g0) aN))))
noncomputable def rE (x0:ak):Option (eh×Int) :=
 (strings_IndexByte x0 93).bind fun y0 =>
 ((
  bif decide (y0≥0) then (
   bX (0≤(aS (y0+1))∧(aS (y0+1))≤(x0.length:Int)) <|
   (rK (x0.take ((aS (y0+1)).toNat))).bind fun y1 =>
   bif (y1.2==0) then (
    some ((x0.drop ((aS (y0+1)).toNat)),y1.1.Row,y1.1.Dims)
   ) else (
    none
   )
  ) else (
   some (x0,[],[])
  )
 ):Option (ak×ak×(List Linear))).bind fun v0 =>
 (cQ (eh.mk v0.1 (Shape.mk v0.2.1 v0.2.2))).bind fun y2 =>
 bif y2 then (
  (s7 (eh.mk v0.1 (Shape.mk v0.2.1 v0.2.2))).bind fun y3 =>
  bif (y3==x0) then (
   some ((eh.mk v0.1 (Shape.mk v0.2.1 v0.2.2)),0)
  ) else (
   none
  )
 ) else (
  none
 )
def nZ (x0:ak) (v0:ak×ak×(List Linear)):AS:=⟨42,[(0,.str x0),(2,.hptr 2 0),(3,iI 0),(4,.hptr 4 0)],[(2,.cells 36 [.str [],.str [],.eslice]),(4,.cells 36 [.str v0.1,.str v0.2.1,dS ah v0.2.2])]⟩
theorem ye (x0:ak) (r:eh×Int) (H:rE x0=some r):br Tryz.prog 36 [.str x0] (.tup [.agg [.str r.1.Elem,.str r.1.Shape.Row,dS ah r.1.Shape.Dims],iI r.2]):=by
 unfold rE at H;refine aX Tryz.func36 42 [.cell 2 36,.tmp 3] ?_;refine aL H fun y0 h0 H0 => ?_;refine pD 9 [r0 [.m,.v],r0 [.v,.b,.m,.m],r0 [.v,.c true (iI y0),.v],V2] [.only [0,2,3,4,5,13] [2,4]] 9 [] (aC Tryz.call71 (aF (sj _ _ _ h0) aN)) ?_;refine aL H0 fun v0 h1 H1 => ?_;refine cC 0 (nZ x0 v0) (by kernel_rfl) ?_ ?_
 ·refine aU h1 (fun c0 H2 => ?_) (fun c1 H3 => ?_)
  ·have c0p:=Mp c0;refine aP H2 fun g0 H4 => ?_;refine aL H4 fun y1 h2 H5 => ?_;refine pD 7 [.eqT 13 bT,r0 [.v,.v,.w,.e (.str (x0.take ((aS (y0+1)).toNat))),.c true (.tup [.agg [.str y1.1.Row,dS ah y1.1.Dims],iI y1.2]),.v,.v,.v,.m,.m,.v],V2] [.only [0,2,3,4,5,6,23] [2,4,6]] 6 [true] (aB c0 (aC (show (0:Int)≤0∧0≤(aS (y0+1))∧(aS (y0+1))≤(x0.length:Int) from by omega) (aC (sf x0 ((aS (y0+1)).toNat)) (aC Tryz.call72 (aF (yp _ _ h2) aN))))) ?_;refine aU H5 (fun c2 H6 => ?_) (fun c3 H7 => ?_)
   ·obtain rfl:=sI H6;exact pB 4 [.eqT 23 bF,.rg 5 [.v,.v,.w,.e (.str (x0.drop ((aS (y0+1)).toNat))),.v] [.b,.m]] [.only [0,2,3,4] [2,4]] (nZ x0 ((x0.drop ((aS (y0+1)).toNat)),y1.1.Row,y1.1.Dims)) (aM c2 (aC (show (0:Int)≤(aS (y0+1))∧(aS (y0+1))≤(x0.length:Int)∧(x0.length:Int)≤(x0.length:Int) from by omega) (aC (kR x0 ((aS (y0+1)).toNat)) aN)))
   ·cases H7
  ·obtain rfl:=sI H3;exact pB 3 [.eqT 13 bF] [.wkH 4 2 [],.only [0,2,3,4] [2,4]] (nZ x0 (x0,[],[])) (aB c1 aN)
 ·refine aL H1 fun y2 h3 H8 => ?_;refine aU H8 (fun c4 H9 => ?_) (fun c5 H10 => ?_)
  ·refine aL H9 fun y3 h4 H11 => ?_;refine aU H11 (fun c6 H12 => ?_) (fun c7 H13 => ?_)
   ·obtain rfl:=sI H12;exact pR 9 [r0 [.v,.c true bT,.v,.v,.v,.c true (.str y3),.v,.v,.v],.eqT 39 bF,r0 [.v,.m,.v]] [] [] (aC Tryz.call62 (aC (br.eq (dD _ _ h3) (cB c4)) (aT (aC Tryz.call73 (aF (zO _ _ h4) (aM c6 aN))))))
   ·cases H13
  ·cases H10
noncomputable def jC (x0:ak):Option eh :=
 (rE x0).bind fun y0 =>
 some y0.1
theorem kQ (x0:ak) (r:eh) (H:jC x0=some r):br Tryz.prog 17 [.str x0] (.agg [.str r.Elem,.str r.Shape.Row,dS ah r.Shape.Dims]):=by unfold jC at H;refine aX Tryz.func17 11 [.cell 2 36] ?_;refine aL H fun y0 h0 H0 => ?_;obtain rfl:=sI H0;exact pR 7 [r0 [.m],r0 [.v,.c true (.tup [.agg [.str y0.1.Elem,.str y0.1.Shape.Row,dS ah y0.1.Shape.Dims],iI y0.2]),.v,.v,.v,.m,.m,.v],r0 [.v,.m]] [] [] (aC Tryz.call36 (aF (ye _ _ h0) aN))
def fw (x0:aG):Option Bool :=
 (cQ x0.A).bind fun y0 =>
 bif y0 then (
  (cQ x0.B).bind fun y1 =>
  some (!y1)
 ) else (
  some true
 )
theorem vG (x0:aG) (r:Bool) (H:fw x0=some r):br Tryz.prog 77 [.agg [.str x0.A.Elem,.str x0.A.Shape.Row,dS ah x0.A.Shape.Dims,.str x0.B.Elem,.str x0.B.Shape.Row,dS ah x0.B.Shape.Dims]] (.bool r):=by
 unfold fw at H;refine aX Tryz.func77 13 [.tmp 2] ?_;refine aL H fun y0 h0 H0 => ?_;refine aU H0 (fun c0 H1 => ?_) (fun c1 H2 => ?_)
 ·refine aL H1 fun y1 h1 H3 => ?_;obtain rfl:=sI H3;exact pR 5 [r0 [.m,.v],r0 [.v,.v,.c true bT,.v,.v,.v,.v,.c true (.bool y1),.v,.v,.v]] [] [] (aC Tryz.call62 (aC (br.eq (dD _ _ h0) (cB c0)) (aT (aC Tryz.call62 (aF (dD _ _ h1) (aT aN))))))
 ·obtain rfl:=sI H2;exact pR 5 [r0 [.m,.v],r0 [.v,.v,.c true bF,.v,.v,.s,.s,.s,.s,.v,.v]] [] [] (aC Tryz.call62 (aC (br.eq (dD _ _ h0) (cB c1)) (aT aN)))
def cS (x0:List aG):Option Int :=
 (fA (σ:=Unit) (ε:=Unit) (ρ:=Int) (fun i0 s0 =>
  (fw (aG.mk (eh.mk (((x0.getD i0 ag).A).Elem) (Shape.mk ((((x0.getD i0 ag).A).Shape).Row) ((((x0.getD i0 ag).A).Shape).Dims))) (eh.mk (((x0.getD i0 ag).B).Elem) (Shape.mk ((((x0.getD i0 ag).B).Shape).Row) ((((x0.getD i0 ag).B).Shape).Dims))))).bind fun y0 =>
  bif y0 then (
   some (.ret ((i0:Nat):Int))
  ) else (
   some (.go ())
  )
 ) (fun i0 s0=>()) (x0.length-0) 0 ()).bind <| aft fun u0 =>
 some (-1)
def dx (x0:List aG) (i0:Nat) (s0:Unit):AS:=⟨19,[(0,dS az x0),(1,.fn 77 []),(4,iI 0),(7,nI x0.length),(8,nI i0)],[]⟩
def fM (u1:Unit):AS:=⟨19,[(4,iI 0)],[]⟩
theorem lH (x0:List aG) (r:Int) (H:cS x0=some r):br Tryz.prog 138 [dS az x0,.fn 77 []] (iI r):=by
 unfold cS at H;refine aX Tryz.func138 19 [.tmp 4] ?_;refine pA 6 [V1,r0 [.v,.e (nI x0.length),.v]] [.only [0,1,4,7,8] []] 6 [] (dx x0 0 ()) (aT (aC (bo az x0) aN)) ?_;refine aL H fun R0 h0 H0 => ?_;refine pJ 1 (fM) R0 ?_ (fun u0 e0 => ?_)
 ·refine pC (dx x0) h0 (fun i0 s0 h1 e1 => ?_) (fun i0 s0 h2 q0 h3 h4 => ?_)
  ·have c0:=lF i0 x0.length (by omega);subst e1;exact pB 5 [r0 [.e bF]] [.only [4] []] (fM ()) (aB c0 aN)
  ·have c1:=lT i0 x0.length (by omega);refine aL h3 fun y0 h5 H1 => ?_;refine pD 11 [r0 [.e bT],V2,r0 [.v,.v,.v,.e (.dptr [.str (((x0.getD i0 ag).A).Elem),.str ((((x0.getD i0 ag).A).Shape).Row),.dslice (((((x0.getD i0 ag).A).Shape).Dims).map ah),.str (((x0.getD i0 ag).B).Elem),.str ((((x0.getD i0 ag).B).Shape).Row),.dslice (((((x0.getD i0 ag).B).Shape).Dims).map ah)]),.v,.c true (.bool y0)]] [.only [0,1,4,5,7,8,16] []] 11 [true] (aB c1 (aI gv x0 i0 ag (aC Tryz.call77 (aF (vG _ _ h5) aN)))) ?_;refine aU H1 (fun c2 H2 => ?_) (fun c3 H3 => ?_)
   ·obtain rfl:=sI H2;obtain rfl:=ba h4;obtain rfl:=sI (aR H0);exact pR 5 [.eqT 16 bT,V2] [] [] (aB c2 aN)
   ·refine bK 0 (ps:=[(x0.map az).length≤9223372036854775807]) (by kernel_rfl) (fun l0 => ?_);have l1:x0.length≤9223372036854775807:=by simpa only [cq,Mt] using l0
    clear l0;obtain rfl:=sI H3;exact pB 4 [.eqT 16 bF,V2] [.only [0,1,4,7,8] []] (dx x0 (i0+1) ()) (aB c3 (aH i0 aN))
 ·subst e0;have H4:=bB H0;obtain rfl:=sI H4;exact pR 3 [V1] [] [] aN
def ct (x0:List aG):Option Bool :=
 (cS x0).bind fun y0 =>
 some (decide (y0≥0))
theorem jZ (x0:List aG) (r:Bool) (H:ct x0=some r):br Tryz.prog 76 [dS az x0,.fn 77 []] (.bool r):=by unfold ct at H;refine aX Tryz.func76 9 [.tmp 4] ?_;refine aL H fun y0 h0 H0 => ?_;obtain rfl:=sI H0;exact pR 5 [V1,r0 [.v,.v,.c true (iI y0),.v,.v]] [] [] (aC Tryz.call138 (aF (lH _ _ h0) aN))
def lq (x0:List aG):Option Bool :=
 bif decide (((x0.length:Nat):Int)≤6000) then (
  (ct x0).bind fun y0 =>
  some (!y0)
 ) else (
  some false
 )
theorem kV (x0:List aG) (r:Bool) (H:lq x0=some r):br Tryz.prog 39 [dS az x0] (.bool r):=by
 unfold lq at H;refine aX Tryz.func39 11 [.tmp 2] ?_;refine aU H (fun c0 H0 => ?_) (fun c1 H1 => ?_)
 ·refine aL H0 fun y0 h0 H2 => ?_;obtain rfl:=sI H2;exact pR 5 [V1,r0 [.v,.e (nI x0.length),.e bT,.v,.v,.c true (.bool y0),.v,.v,.v]] [] [] (aT (aC (bo az x0) (aB c0 (aC Tryz.call76 (aF (jZ _ _ h0) (aT aN))))))
 ·obtain rfl:=sI H1;exact pR 5 [V1,r0 [.v,.e (nI x0.length),.e bF,.v,.s,.s,.s,.v,.v]] [] [] (aT (aC (bo az x0) (aB c1 aN)))
def il (x0:Linear):Option (List ak) :=
 (fA (σ:=(List ak)) (ε:=(List ak)) (ρ:=Empty) (fun i0 s0 =>
  bX ((s0.length+1)*16≤140737488355328) <|
  some (.go (s0++[((x0.Terms.getD i0 aJ).Var)]))
 ) (fun i0 s0=>s0) (x0.Terms.length-0) 0 []).bind <| dL fun u0 =>
 some u0
def mS (x0:Linear) (i0:Nat) (s0:List ak):AS:=⟨20,[(2,.eslice),(3,.rslice 17),(7,dS aw x0.Terms),(8,nI x0.Terms.length),(9,nI i0)],[(17,.row 9 1 (s0.map aZ))]⟩
def qA (u1:List ak):AS:=⟨20,[(2,.eslice),(3,.rslice 17)],[(17,.row 9 1 (u1.map aZ))]⟩
theorem sx (x0:Linear) (r:List ak) (H:il x0=some r):br Tryz.prog 98 [.agg [iI x0.Const,dS aw x0.Terms]] (dS aZ r):=by
 unfold il at H;refine aX Tryz.func98 20 [.tmp 2] ?_;refine pA 8 [r0 [.m,.v],V1,r0 [.v,.v,.e (nI x0.Terms.length),.v]] [.er 3 17 9 1,.only [2,3,7,8,9] [17]] 8 [] (mS x0 0 []) (aT (aC (bo aw x0.Terms) aN)) ?_;refine aL H fun R0 h0 H0 => ?_;refine pJ 1 (qA) R0 ?_ (fun u0 e0 => ?_)
 ·refine pC (mS x0) h0 (fun i0 s0 h1 e1 => ?_) (fun i0 s0 h2 q0 h3 h4 => ?_)
  ·have c0:=lF i0 x0.Terms.length (by omega);subst e1;exact pB 5 [r0 [.e bF]] [.only [2,3] [17]] (qA s0) (aB c0 aN)
  ·have c1:=lT i0 x0.Terms.length (by omega);refine aP h3 fun g0 H1 => ?_;refine bK 7 (ps:=[(x0.Terms.map aw).length≤9223372036854775807]) (by kernel_rfl) (fun l0 => ?_);have l1:x0.Terms.length≤9223372036854775807:=by simpa only [cq,Mt] using l0
   clear l0;obtain rfl:=sI H1;exact pB 11 [r0 [.e bT],r0 [.e (.dptr (aw (x0.Terms.getD i0 aJ))),.v,.m,.m],r0 [.v,.v,.v,.b,.ap,.rwH 17 (.row 9 1 ((s0++[((x0.Terms.getD i0 aJ).Var)]).map aZ)),.v],V2] [.only [2,3,7,8,9] [17]] (mS x0 (i0+1) (s0++[((x0.Terms.getD i0 aJ).Var)])) (aB c1 (aI cy x0.Terms i0 aJ (a8 (tg (c:=aZ) pY s0 [((x0.Terms.getD i0 aJ).Var)] 16 (by decide) (by first | (simp;done) | simpa using g0)) (aC (vQ 9 1 aZ s0 [((x0.Terms.getD i0 aJ).Var)]) (aH i0 aN)))))
 ·subst e0;have H2:=bu H0;refine bc H2 fun e2 => ?_;subst e2;exact pR 3 [V2] [.fz 17] [] aN
def mq (x0:Bind) (x1:Int) (x2:ak):Option Bool :=
 bif (x0.Kind==x1) then (
  some (x0.Var==x2)
 ) else (
  some false
 )
theorem wC (x0:Bind) (x1:Int) (x2:ak) (r:Bool) (H:mq x0 x1 x2=some r):br Tryz.prog 106 [.agg [iI x0.Kind,.str x0.Var,iI x0.Dim.Const,dS aw x0.Dim.Terms,.str x0.Row.Row,dS ah x0.Row.Dims,.str x0.Elem],.dptr [iI x1],.dptr [.str x2]] (.bool r):=by
 unfold mq at H;refine aX Tryz.func106 15 [.tmp 4] ?_;refine aU H (fun c0 H0 => ?_) (fun c1 H1 => ?_)
 ·obtain rfl:=sI H0;exact pR 5 [r0 [.m,.v],r0 [.v,.v,.v,.e bT,.v,.v,.v,.v,.v,.v,.v]] [] [] (aB c0 aN)
 ·obtain rfl:=sI H1;exact pR 5 [r0 [.m,.v],r0 [.v,.v,.v,.e bF,.v,.s,.s,.s,.s,.v,.v]] [] [] (aB c1 aN)
def dq (x0:List Bind) (x1:Int) (x2:ak):Option Int :=
 (fA (σ:=Unit) (ε:=Unit) (ρ:=Int) (fun i0 s0 =>
  (mq (Bind.mk ((x0.getD i0 ao).Kind) ((x0.getD i0 ao).Var) (Linear.mk (((x0.getD i0 ao).Dim).Const) (((x0.getD i0 ao).Dim).Terms)) (Shape.mk (((x0.getD i0 ao).Row).Row) (((x0.getD i0 ao).Row).Dims)) ((x0.getD i0 ao).Elem)) x1 x2).bind fun y0 =>
  bif y0 then (
   some (.ret ((i0:Nat):Int))
  ) else (
   some (.go ())
  )
 ) (fun i0 s0=>()) (x0.length-0) 0 ()).bind <| aft fun u0 =>
 some (-1)
def dN (x0:List Bind) (x1:Int) (x2:ak) (i0:Nat) (s0:Unit):AS:=⟨19,[(0,dS aq x0),(1,.fn 106 [.hptr 1000 0,.hptr 1001 0]),(4,iI 0),(7,nI x0.length),(8,nI i0)],[(1000,.cells 3 [iI x1]),(1001,.cells 9 [.str x2])]⟩
def gC (x1:Int) (x2:ak) (u1:Unit):AS:=⟨19,[(4,iI 0)],[(1000,.cells 3 [iI x1]),(1001,.cells 9 [.str x2])]⟩
theorem ml (x0:List Bind) (x1:Int) (x2:ak) (r:Int) (H:dq x0 x1 x2=some r):bg Tryz.prog 105 [dS aq x0,.fn 106 [.hptr 1000 0,.hptr 1001 0]] [(1000,.cells 3 [iI x1]),(1001,.cells 9 [.str x2])] (fun r2 h0=>r2=(iI r)∧h0=[(1000,.cells 3 [iI x1]),(1001,.cells 9 [.str x2])]):=by
 unfold dq at H;refine aX Tryz.func105 19 [.tmp 4] ?_;refine pA 6 [V1,r0 [.v,.e (nI x0.length),.v]] [.only [0,1,4,7,8] [1000,1001]] 6 [] (dN x0 x1 x2 0 ()) (aT (aC (bo aq x0) aN)) ?_;refine aL H fun R0 h1 H0 => ?_;refine pJ 1 (gC x1 x2) R0 ?_ (fun u0 e0 => ?_)
 ·refine pC (dN x0 x1 x2) h1 (fun i0 s0 h2 e1 => ?_) (fun i0 s0 h3 q0 h4 h5 => ?_)
  ·have c0:=lF i0 x0.length (by omega);subst e1;exact pB 5 [r0 [.e bF]] [.only [4] [1000,1001]] (gC x1 x2 ()) (aB c0 aN)
  ·have c1:=lT i0 x0.length (by omega);refine aL h4 fun y0 h6 H1 => ?_;refine pD 11 [r0 [.e bT],V2,r0 [.v,.v,.v,.e (.dptr (aq (x0.getD i0 ao))),.v,.c false (.bool y0)]] [.only [0,1,4,5,7,8,16] [1000,1001]] 11 [true] (aB c1 (aI cF x0 i0 ao (aC Tryz.call106 (aF (wC _ _ _ _ h6) aN)))) ?_;refine aU H1 (fun c2 H2 => ?_) (fun c3 H3 => ?_)
   ·obtain rfl:=sI H2;obtain rfl:=ba h5;obtain rfl:=sI (aR H0);exact pR 5 [.eqT 16 bT,V2] [] [1000,1001] (aB c2 aN)
   ·refine bK 0 (ps:=[(x0.map aq).length≤9223372036854775807]) (by kernel_rfl) (fun l0 => ?_);have l1:x0.length≤9223372036854775807:=by simpa only [cq,Mt] using l0
    clear l0;obtain rfl:=sI H3;exact pB 4 [.eqT 16 bF,V2] [.only [0,1,4,7,8] [1000,1001]] (dN x0 x1 x2 (i0+1) ()) (aB c3 (aH i0 aN))
 ·subst e0;have H4:=bB H0;obtain rfl:=sI H4;exact pR 3 [V1] [] [1000,1001] aN
def jf (x0:List Bind) (x1:Int) (x2:ak):Option Int :=
 (dq x0 x1 x2).bind fun y0 =>
 some y0
theorem pG (x0:List Bind) (x1:Int) (x2:ak) (r:Int) (H:jf x0 x1 x2=some r):br Tryz.prog 54 [dS aq x0,iI x1,.str x2] (iI r):=by unfold jf at H;refine aX Tryz.func54 10 [.tmp 6] ?_;refine aL H fun y0 h0 H0 => ?_;refine bc H0 fun e0 => ?_;subst e0;exact pR 5 [r0 [.m,.m,.v],r0 [.v,.v,.hR [(4,1000),(5,1001)] 9 (iI y0) [(1000,.cells 3 [iI x1]),(1001,.cells 9 [.str x2])],.v]] [] [] (aC Tryz.call105 (aC (ml _ _ _ _ h0) aN))
def ng (x0:Shape):Option (List Bind) :=
 (dj x0).bind fun y0 =>
 bif y0 then (
  ((
   bif (x0.Row==[]) then (
    some []
   ) else (
    some [(Bind.mk 2 x0.Row (Linear.mk 0 []) (Shape.mk [] []) [])]
   )
  ):Option (List Bind)).bind fun v0 =>
  (fA (σ:=(List Bind)) (ε:=(List Bind)) (ρ:=Empty) (fun i0 s0 =>
   (il (Linear.mk ((x0.Dims.getD i0 aD).Const) ((x0.Dims.getD i0 aD).Terms))).bind fun y1 =>
   (fA (σ:=(List Bind)) (ε:=(List Bind)) (ρ:=Empty) (fun i1 s1 =>
    (jf s1 1 (y1.getD i1 [])).bind fun y2 =>
    ((
     bif decide (y2<0) then (
      bX ((s1.length+1)*112≤140737488355328) <|
      some (s1++[(Bind.mk 1 (y1.getD i1 []) (Linear.mk 0 []) (Shape.mk [] []) [])])
     ) else (
      some s1
     )
    ):Option (List Bind)).bind fun v1 =>
    some (.go v1)
   ) (fun i1 s1=>s1) (y1.length-0) 0 s0).bind <| dL fun u0 =>
   some (.go u0)
  ) (fun i0 s0=>s0) (x0.Dims.length-0) 0 v0).bind <| dL fun u1 =>
  some u1
 ) else (
  some []
 )
def oI (x0:Shape) (v0:List Bind):AS:=⟨46,[(1,.hptr 1 0),(2,.eslice),(3,.rslice 19)],[(1,.cells 34 [.str x0.Row,dS ah x0.Dims]),(19,.row 62 7 (v0.map aq))]⟩
def oC (x0:Shape) (i0:Nat) (s0:List Bind):AS:=⟨46,[(2,.eslice),(3,.rslice 19),(21,dS ah x0.Dims),(22,nI x0.Dims.length),(23,nI i0)],[(19,.row 62 7 (s0.map aq))]⟩
def sG (u2:List Bind):AS:=⟨46,[(2,.eslice),(3,.rslice 19)],[(19,.row 62 7 (u2.map aq))]⟩
def oB (x0:Shape) (i0:Nat) (y1:List ak) (i1:Nat) (s1:List Bind):AS:=⟨46,[(2,.eslice),(3,.rslice 19),(21,dS ah x0.Dims),(22,nI x0.Dims.length),(23,nI i0),(28,dS aZ y1),(29,nI y1.length),(30,nI i1)],[(19,.row 62 7 (s1.map aq))]⟩
def sP (x0:Shape) (i0:Nat) (u3:List Bind):AS:=⟨46,[(2,.eslice),(3,.rslice 19),(21,dS ah x0.Dims),(22,nI x0.Dims.length),(23,nI i0)],[(19,.row 62 7 (u3.map aq))]⟩
def oV (x0:Shape) (i0:Nat) (y1:List ak) (i1:Nat) (v1:List Bind):AS:=⟨46,[(2,.eslice),(3,.rslice 19),(21,dS ah x0.Dims),(22,nI x0.Dims.length),(23,nI i0),(28,dS aZ y1),(29,nI y1.length),(30,nI i1)],[(19,.row 62 7 (v1.map aq))]⟩
theorem Am (x0:Shape) (r:List Bind) (H:ng x0=some r):bg Tryz.prog 78 [.agg [.str x0.Row,dS ah x0.Dims]] [] (fun r2 h0=>r2=(.rslice 0)∧h0=[(0,.row 62 7 (r.map aq))]):=by
 unfold ng at H;refine aX Tryz.func78 46 [.tmp 2] ?_;refine aL H fun y0 h1 H0 => ?_;refine aU H0 (fun c0 H1 => ?_) (fun c1 H2 => ?_)
 ·refine pD 13 [.rg 0 [] [.m,.v],.rg 0 [] [.v,.c true (.bool y0),.v],.eqT 10 bF,.rg 0 [] [.v],.rg 0 [] [.v,.v,.v]] [.only [1,2,3,13] [1]] 12 [false] (aC Tryz.call53 (aF (bY _ _ h1) (aT (aM c0 aN)))) ?_;refine aL H1 fun v0 h2 H3 => ?_;refine cC 0 (oI x0 v0) (by kernel_rfl) ?_ ?_
  ·refine aU h2 (fun c2 H4 => ?_) (fun c3 H5 => ?_)
   ·obtain rfl:=sI H4;exact pB 3 [.eqT 13 bF] [.er 3 19 62 7,.only [1,2,3] [1,19]] (oI x0 []) (aM c2 aN)
   ·obtain rfl:=sI H5;exact pB 3 [.eqT 13 bT,r0 [.v,.v,.v,.b,.b,.wk 18 [(0,3)],.wk 18 [(0,5)],.er 14 19 62 7,.ap,.rwH 19 (.row 62 7 ([(Bind.mk 2 x0.Row (Linear.mk 0 []) (Shape.mk [] []) [])].map aq)),.v]] [.only [1,2,3] [1,19]] (oI x0 [(Bind.mk 2 x0.Row (Linear.mk 0 []) (Shape.mk [] []) [])]) (aM c3 (a8 (tg (c:=aq) iV [] [(Bind.mk 2 x0.Row (Linear.mk 0 []) (Shape.mk [] []) [])] 112 (by decide) (by simp)) (aC (Fv 62 7 aq [(Bind.mk 2 x0.Row (Linear.mk 0 []) (Shape.mk [] []) [])]) aN)))
  ·refine pA 4 [.rg 0 [] [.v,.v,.e (.int .i64 ((x0.Dims.length:Nat):Int)),.v]] [.only [2,3,21,22,23] [19]] 4 [] (oC x0 0 v0) (aT (aC (bo ah x0.Dims) aN)) ?_;refine aL H3 fun R0 h3 H6 => ?_;refine pJ 1 (sG) R0 ?_ (fun u1 e0 => ?_)
   ·refine pC (oC x0) h3 (fun i0 s0 h4 e1 => ?_) (fun i0 s0 h5 q0 h6 h7 => ?_)
    ·have c4:=lF i0 x0.Dims.length (by omega);subst e1;exact pB 5 [r0 [.e bF]] [.only [2,3] [19]] (sG s0) (aB c4 aN)
    ·have c5:=lT i0 x0.Dims.length (by omega);refine aL h6 fun y1 h8 H7 => ?_;refine pA 12 [r0 [.e bT],r0 [.e (.dptr (ah (x0.Dims.getD i0 aD))),.v,.m,.m],r0 [.v,.c true (dS aZ y1),.e (nI y1.length),.v]] [.only [2,3,21,22,23,28,29,30] [19]] 12 [true] (oB x0 i0 y1 0 s0) (aB c5 (aI cP x0.Dims i0 aD (aC Tryz.call98 (aF (sx _ _ h8) (aT (aC (bo aZ y1) aN)))))) ?_;refine aL H7 fun R1 h9 H8 => ?_;refine pJ 2 (sP x0 i0) R1 ?_ (fun u0 e2 => ?_)
     ·refine pC (oB x0 i0 y1) h9 (fun i1 s1 h10 e3 => ?_) (fun i1 s1 h11 q1 h12 h13 => ?_)
      ·have c6:=lF i1 y1.length (by omega);subst e3;exact pB 5 [r0 [.e bF]] [.only [2,3,21,22,23] [19]] (sP x0 i0 s1) (aB c6 aN)
      ·have c7:=lT i1 y1.length (by omega);refine aL h12 fun y2 h14 H9 => ?_;refine pD 11 [r0 [.e bT],r0 [.e (.dptr [.str (y1.getD i1 [])]),.v,.v],r0 [.v,.v,.c false (iI y2),.v]] [.only [2,3,7,21,22,23,28,29,30,37] [19]] 11 [true] (aB c7 (aI tG y1 i1 [] (aC Tryz.call54 (aF (pG _ _ _ _ h14) aN)))) ?_;refine aL H9 fun v1 h15 H10 => ?_;refine cC 1 (oV x0 i0 y1 i1 v1) (by kernel_rfl) ?_ ?_
       ·refine aU h15 (fun c8 H11 => ?_) (fun c9 H12 => ?_)
        ·refine aP H11 fun g0 H13 => ?_;obtain rfl:=sI H13;exact pB 3 [.eqT 37 bT,r0 [.v,.v,.b,.b,.wk 41 [(0,3)],.wk 41 [(0,5)],.ap,.rwH 42 (.row 62 7 ((s1++[(Bind.mk 1 (y1.getD i1 []) (Linear.mk 0 []) (Shape.mk [] []) [])]).map aq)),.v]] [.ren [(42,19)],.only [2,3,21,22,23,28,29,30] [19]] (oV x0 i0 y1 i1 (s1++[(Bind.mk 1 (y1.getD i1 []) (Linear.mk 0 []) (Shape.mk [] []) [])])) (aB c8 (a8 (tg (c:=aq) iV s1 [(Bind.mk 1 (y1.getD i1 []) (Linear.mk 0 []) (Shape.mk [] []) [])] 112 (by decide) (by first | (simp;done) | simpa using g0)) (aC (vQ 62 7 aq s1 [(Bind.mk 1 (y1.getD i1 []) (Linear.mk 0 []) (Shape.mk [] []) [])]) aN)))
        ·refine bc H12 fun e4 => ?_;subst e4;exact pB 3 [.eqT 37 bF] [.only [2,3,21,22,23,28,29,30] [19]] (oV x0 i0 y1 i1 s1) (aB c9 aN)
       ·refine bK 28 (ps:=[(y1.map aZ).length≤9223372036854775807]) (by kernel_rfl) (fun l0 => ?_);have l1:y1.length≤9223372036854775807:=by simpa only [cq,Mt] using l0
        clear l0;obtain rfl:=sI H10;exact pB 1 [V2] [.only [2,3,21,22,23,28,29,30] [19]] (oB x0 i0 y1 (i1+1) v1) (aH i1 aN)
     ·subst e2;have H14:=bu H8;refine bK 21 (ps:=[(x0.Dims.map ah).length≤9223372036854775807]) (by kernel_rfl) (fun l2 => ?_);have l3:x0.Dims.length≤9223372036854775807:=by simpa only [cq,Mt] using l2
      clear l2;obtain rfl:=sI H14;exact pB 1 [V2] [.only [2,3,21,22,23] [19]] (oC x0 (i0+1) u0) (aH i0 aN)
   ·subst e0;have H15:=bu H6;refine bc H15 fun e5 => ?_;subst e5;exact pR 3 [V2] [.ren [(19,0)]] [0] aN
 ·obtain rfl:=sI H2;exact pR 10 [r0 [.m,.v],r0 [.v,.c true (.bool y0),.v],.eqT 10 bT,V1] [.er 2 997 62 7,.ren [(997,0)]] [0] (aC Tryz.call53 (aF (bY _ _ h1) (aT (aM c1 aN))))
def eA (x0:eh):Option (List Bind) :=
 (cQ x0).bind fun y0 =>
 bif y0 then (
  (ng x0.Shape).bind fun y1 =>
  (cX x0.Elem).bind fun y2 =>
  bif y2 then (
   bX ((y1.length+1)*112≤140737488355328) <|
   some (y1++[(Bind.mk 3 x0.Elem (Linear.mk 0 []) (Shape.mk [] []) [])])
  ) else (
   some y1
  )
 ) else (
  some []
 )
theorem uF (x0:eh) (r:List Bind) (H:eA x0=some r):br Tryz.prog 40 [.agg [.str x0.Elem,.str x0.Shape.Row,dS ah x0.Shape.Dims]] (dS aq r):=by
 unfold eA at H;refine aX Tryz.func40 20 [.tmp 2] ?_;refine aL H fun y0 h0 H0 => ?_;refine aU H0 (fun c0 H1 => ?_) (fun c1 H2 => ?_)
 ·refine aL H1 fun y1 h1 H3 => ?_;refine aL H3 fun y2 h2 H4 => ?_;refine pD 13 [r0 [.m,.v],r0 [.v,.c true (.bool y0),.v],.eqT 6 bF,r0 [.v,.v,.hR [] 9 (.rslice 0) [(0,.row 62 7 (y1.map aq))],.v],r0 [.v,.v,.c true (.bool y2)]] [.only [1,2,3,12] [1,9]] 12 [false] (aC Tryz.call62 (aF (dD _ _ h0) (aT (aM c0 (aC Tryz.call78 (aC (Am _ _ h1) (aC Tryz.call79 (aF (bl _ _ h2) aN)))))))) ?_;refine aU H4 (fun c2 H5 => ?_) (fun c3 H6 => ?_)
  ·refine aP H5 fun g0 H7 => ?_;obtain rfl:=sI H7;exact pR 6 [.eqT 12 bT,r0 [.v,.v,.v,.b,.b,.wk 17 [(0,3)],.wk 17 [(0,5)],.ap,.rwH 18 (.row 62 7 ((y1++[(Bind.mk 3 x0.Elem (Linear.mk 0 []) (Shape.mk [] []) [])]).map aq)),.v],V2] [.fz 18] [] (aB c2 (a8 (tg (c:=aq) iV y1 [(Bind.mk 3 x0.Elem (Linear.mk 0 []) (Shape.mk [] []) [])] 112 (by decide) (by first | (simp;done) | simpa using g0)) (aC (vQ 62 7 aq y1 [(Bind.mk 3 x0.Elem (Linear.mk 0 []) (Shape.mk [] []) [])]) aN)))
  ·refine bc H6 fun e0 => ?_;subst e0;exact pR 6 [.eqT 12 bF,V2] [.fz 9] [] (aB c3 aN)
 ·obtain rfl:=sI H2;exact pR 10 [r0 [.m,.v],r0 [.v,.c true (.bool y0),.v],.eqT 6 bT,V1] [.wk 2 []] [] (aC Tryz.call62 (aF (dD _ _ h0) (aT (aM c1 aN))))
def mr (x0:ak):Option Int :=
 (strings_CutPrefix x0 [95]).bind fun y0 =>
 bif y0.2 then (
  (fA (σ:=Int) (ε:=Int) (ρ:=Int) (fun i0 s0 =>
   bif decide ((((y0.1.getD i0 0)).toNat:Int)<48) then (
    some (.ret 0)
   ) else (
    bif decide ((((y0.1.getD i0 0)).toNat:Int)>57) then (
     some (.ret 0)
    ) else (
     some (.go (if 1000001<(aS ((aS (10*s0))+((((y0.1.getD i0 0)-48)).toNat:Int))) then 1000001 else (aS ((aS (10*s0))+((((y0.1.getD i0 0)-48)).toNat:Int)))))
    )
   )
  ) (fun i0 s0=>s0) (y0.1.length-0) 0 0).bind <| aft fun u0 =>
  some u0
 ) else (
  some 0
 )
def lS (y0:ak×Bool) (i0:Nat) (s0:Int):AS:=⟨37,[(2,iI 0),(5,iI s0),(16,dS tC y0.1),(17,nI y0.1.length),(18,nI i0)],[]⟩
def qg (u1:Int):AS:=⟨37,[(2,iI 0),(5,iI u1)],[]⟩
theorem ru (x0:ak) (r:Int) (H:mr x0=some r):br Tryz.prog 41 [.str x0] (iI r):=by
 unfold mr at H;refine aX Tryz.func41 37 [.tmp 2] ?_;refine aL H fun y0 h0 H0 => ?_;refine aU H0 (fun c0 H1 => ?_) (fun c1 H2 => ?_)
 ·refine pA 16 [.rg 0 [] [.v],.rg 0 [] [.v,.c true (.tup [.str y0.1,.bool y0.2]),.v,.v,.v,.v,.v],.rg 0 [] [.v,.v],.eqT 14 bF,.rg 0 [] [.v],.rg 0 [] [.v,.m,.e (.int .i64 ((y0.1.length:Nat):Int)),.v]] [.only [2,5,16,17,18] []] 15 [false] (lS y0 0 0) (aC Tryz.call80 (aF (iK _ _ _ h0) (aT (aM c0 (aT (aC (bo tC y0.1) aN)))))) ?_;refine aL H1 fun R0 h1 H3 => ?_;refine pJ 1 (qg) R0 ?_ (fun u0 e0 => ?_)
  ·refine pC (lS y0) h1 (fun i0 s0 h2 e1 => ?_) (fun i0 s0 h3 q0 h4 h5 => ?_)
   ·have c2:=lF i0 y0.1.length (by omega);subst e1;exact pB 5 [r0 [.e bF]] [.only [2,5] []] (qg s0) (aB c2 aN)
   ·have c3:=lT i0 y0.1.length (by omega);refine aU h4 (fun c4 H4 => ?_) (fun c5 H5 => ?_)
    ·have c4p:=Mp c4;obtain rfl:=sI H4;obtain rfl:=ba h5;obtain rfl:=sI (aR H3);exact pR 16 [r0 [.e bT],r0 [.e (.dptr [.int .u8 (((y0.1.getD i0 0)).toNat:Int)]),.v,.v],r0 [.v,.e bT,.v,.s,.s,.v],V1] [] [] (aB c3 (aI sd y0.1 i0 0 (aB c4 aN)))
    ·have c5p:=Mo c5;refine aU H5 (fun c6 H6 => ?_) (fun c7 H7 => ?_)
     ·have c6p:=Mp c6;obtain rfl:=sI H6;obtain rfl:=ba h5;obtain rfl:=sI (aR H3);exact pR 17 [r0 [.e bT],r0 [.e (.dptr [.int .u8 (((y0.1.getD i0 0)).toNat:Int)]),.v,.v],r0 [.v,.e bF,.v,.v,.v,.v],.eqT 27 bT,V1] [] [] (aB c3 (aI sd y0.1 i0 0 (aB c5 (aB c6 aN))))
     ·have c7p:=Mo c7;refine bK 16 (ps:=[(y0.1.map tC).length≤9223372036854775807]) (by kernel_rfl) (fun l0 => ?_);have l1:y0.1.length≤9223372036854775807:=by simpa only [cq,Mt] using l0
      clear l0;obtain rfl:=sI H7;exact pB 17 [r0 [.e bT],r0 [.e (.dptr [.int .u8 (((y0.1.getD i0 0)).toNat:Int)]),.v,.v],r0 [.v,.e bF,.v,.v,.v,.v],.eqT 27 bF,r0 [.v,.w,.v,.e (.int .u8 ((((y0.1.getD i0 0)-48)).toNat:Int)),.e (iI ((((y0.1.getD i0 0)-48)).toNat:Int)),.w,.v,.v],V2] [.only [2,5,16,17,18] []] (lS y0 (i0+1) (if 1000001<(aS ((aS (10*s0))+((((y0.1.getD i0 0)-48)).toNat:Int))) then 1000001 else (aS ((aS (10*s0))+((((y0.1.getD i0 0)-48)).toNat:Int))))) (aB c3 (aI sd y0.1 i0 0 (aB c5 (aB c7 (aT (aC (KY (y0.1.getD i0 0) 48) (aT (aC (congrArg (AV.int .i64) (wrap_u8 ((y0.1.getD i0 0)-48))) (aT (aH i0 aN))))))))))
  ·subst e0;have H8:=bB H3;refine bc H8 fun e2 => ?_;subst e2;exact pR 3 [V2] [] [] aN
 ·obtain rfl:=sI H2;exact pR 12 [V1,r0 [.v,.c true (.tup [.str y0.1,.bool y0.2]),.v,.v,.v,.v,.v],V2,.eqT 14 bT,V1] [] [] (aC Tryz.call80 (aF (iK _ _ _ h0) (aT (aM c1 aN))))
def lB (x0:List aG) (x1:Int):Option Bool :=
 (lq x0).bind fun y0 =>
 bif y0 then (
  bif decide (x1<1) then (
   some false
  ) else (
   bif decide (x1>1000000) then (
    some false
   ) else (
    (fA (σ:=Unit) (ε:=Unit) (ρ:=Bool) (fun i0 s0 =>
     (fA (σ:=Unit) (ε:=Unit) (ρ:=(fE Unit Unit Bool)) (fun i1 s1 =>
      (eA (eh.mk (([(eh.mk (((x0.getD i0 ag).A).Elem) (Shape.mk ((((x0.getD i0 ag).A).Shape).Row) ((((x0.getD i0 ag).A).Shape).Dims))),(eh.mk (((x0.getD i0 ag).B).Elem) (Shape.mk ((((x0.getD i0 ag).B).Shape).Row) ((((x0.getD i0 ag).B).Shape).Dims)))].getD i1 CN).Elem) (Shape.mk ((([(eh.mk (((x0.getD i0 ag).A).Elem) (Shape.mk ((((x0.getD i0 ag).A).Shape).Row) ((((x0.getD i0 ag).A).Shape).Dims))),(eh.mk (((x0.getD i0 ag).B).Elem) (Shape.mk ((((x0.getD i0 ag).B).Shape).Row) ((((x0.getD i0 ag).B).Shape).Dims)))].getD i1 CN).Shape).Row) ((([(eh.mk (((x0.getD i0 ag).A).Elem) (Shape.mk ((((x0.getD i0 ag).A).Shape).Row) ((((x0.getD i0 ag).A).Shape).Dims))),(eh.mk (((x0.getD i0 ag).B).Elem) (Shape.mk ((((x0.getD i0 ag).B).Shape).Row) ((((x0.getD i0 ag).B).Shape).Dims)))].getD i1 CN).Shape).Dims)))).bind fun y1 =>
      (fA (σ:=Unit) (ε:=Unit) (ρ:=(fE Unit Unit (fE Unit Unit Bool))) (fun i2 s2 =>
       ((
        bif (((y1.getD i2 ao).Kind)==3) then (
         some (.brk ())
        ) else (
         (mr ((y1.getD i2 ao).Var)).bind fun y2 =>
         bif decide (y2≥x1) then (
          some (.ret (.ret (.ret (.ret false))))
         ) else (
          some (.brk ())
         )
        )
       ):Option (Out Unit (fE Unit Unit (fE Unit Unit (fE Unit Unit Bool))))).bind (aft fun u0 =>
        some (.go ())
       )
      ) (fun i2 s2=>()) (y1.length-0) 0 ()).bind <| aft fun u1 =>
      some (.go ())
     ) (fun i1 s1=>()) ([(eh.mk (((x0.getD i0 ag).A).Elem) (Shape.mk ((((x0.getD i0 ag).A).Shape).Row) ((((x0.getD i0 ag).A).Shape).Dims))),(eh.mk (((x0.getD i0 ag).B).Elem) (Shape.mk ((((x0.getD i0 ag).B).Shape).Row) ((((x0.getD i0 ag).B).Shape).Dims)))].length-0) 0 ()).bind <| aft fun u2 =>
     some (.go ())
    ) (fun i0 s0=>()) (x0.length-0) 0 ()).bind <| aft fun u3 =>
    some true
   )
  )
 ) else (
  some false
 )
def ny (x0:List aG) (x1:Int) (i0:Nat) (s0:Unit):AS:=⟨58,[(1,iI x1),(4,.bool false),(22,dS az x0),(23,nI x0.length),(24,nI i0)],[]⟩
def rM (u4:Unit):AS:=⟨58,[(4,.bool false)],[]⟩
def nM (x0:List aG) (x1:Int) (i0 i1:Nat) (s1:Unit):AS:=⟨58,[(1,iI x1),(4,.bool false),(22,dS az x0),(23,nI x0.length),(24,nI i0),(32,.dslice ([(eh.mk (((x0.getD i0 ag).A).Elem) (Shape.mk ((((x0.getD i0 ag).A).Shape).Row) ((((x0.getD i0 ag).A).Shape).Dims))),(eh.mk (((x0.getD i0 ag).B).Elem) (Shape.mk ((((x0.getD i0 ag).B).Shape).Row) ((((x0.getD i0 ag).B).Shape).Dims)))].map yu)),(33,iI (([(eh.mk (((x0.getD i0 ag).A).Elem) (Shape.mk ((((x0.getD i0 ag).A).Shape).Row) ((((x0.getD i0 ag).A).Shape).Dims))),(eh.mk (((x0.getD i0 ag).B).Elem) (Shape.mk ((((x0.getD i0 ag).B).Shape).Row) ((((x0.getD i0 ag).B).Shape).Dims)))].length:Nat):Int)),(34,nI i1)],[]⟩
def qG (x0:List aG) (x1:Int) (i0:Nat) (u5:Unit):AS:=⟨58,[(1,iI x1),(4,.bool false),(22,dS az x0),(23,nI x0.length),(24,nI i0)],[]⟩
def ns (x0:List aG) (x1:Int) (i0 i1:Nat) (y1:List Bind) (i2:Nat) (s2:Unit):AS:=⟨58,[(1,iI x1),(4,.bool false),(22,dS az x0),(23,nI x0.length),(24,nI i0),(32,.dslice ([(eh.mk (((x0.getD i0 ag).A).Elem) (Shape.mk ((((x0.getD i0 ag).A).Shape).Row) ((((x0.getD i0 ag).A).Shape).Dims))),(eh.mk (((x0.getD i0 ag).B).Elem) (Shape.mk ((((x0.getD i0 ag).B).Shape).Row) ((((x0.getD i0 ag).B).Shape).Dims)))].map yu)),(33,iI (([(eh.mk (((x0.getD i0 ag).A).Elem) (Shape.mk ((((x0.getD i0 ag).A).Shape).Row) ((((x0.getD i0 ag).A).Shape).Dims))),(eh.mk (((x0.getD i0 ag).B).Elem) (Shape.mk ((((x0.getD i0 ag).B).Shape).Row) ((((x0.getD i0 ag).B).Shape).Dims)))].length:Nat):Int)),(34,nI i1),(39,dS aq y1),(40,nI y1.length),(41,nI i2)],[]⟩
def q9 (x0:List aG) (x1:Int) (i0 i1:Nat) (u6:Unit):AS:=⟨58,[(1,iI x1),(4,.bool false),(22,dS az x0),(23,nI x0.length),(24,nI i0),(32,.dslice ([(eh.mk (((x0.getD i0 ag).A).Elem) (Shape.mk ((((x0.getD i0 ag).A).Shape).Row) ((((x0.getD i0 ag).A).Shape).Dims))),(eh.mk (((x0.getD i0 ag).B).Elem) (Shape.mk ((((x0.getD i0 ag).B).Shape).Row) ((((x0.getD i0 ag).B).Shape).Dims)))].map yu)),(33,iI (([(eh.mk (((x0.getD i0 ag).A).Elem) (Shape.mk ((((x0.getD i0 ag).A).Shape).Row) ((((x0.getD i0 ag).A).Shape).Dims))),(eh.mk (((x0.getD i0 ag).B).Elem) (Shape.mk ((((x0.getD i0 ag).B).Shape).Row) ((((x0.getD i0 ag).B).Shape).Dims)))].length:Nat):Int)),(34,nI i1)],[]⟩
def nL (x0:List aG) (x1:Int) (i0 i1:Nat) (y1:List Bind) (i2:Nat) (u0:Unit):AS:=⟨58,[(1,iI x1),(4,.bool false),(22,dS az x0),(23,nI x0.length),(24,nI i0),(32,.dslice ([(eh.mk (((x0.getD i0 ag).A).Elem) (Shape.mk ((((x0.getD i0 ag).A).Shape).Row) ((((x0.getD i0 ag).A).Shape).Dims))),(eh.mk (((x0.getD i0 ag).B).Elem) (Shape.mk ((((x0.getD i0 ag).B).Shape).Row) ((((x0.getD i0 ag).B).Shape).Dims)))].map yu)),(33,iI (([(eh.mk (((x0.getD i0 ag).A).Elem) (Shape.mk ((((x0.getD i0 ag).A).Shape).Row) ((((x0.getD i0 ag).A).Shape).Dims))),(eh.mk (((x0.getD i0 ag).B).Elem) (Shape.mk ((((x0.getD i0 ag).B).Shape).Row) ((((x0.getD i0 ag).B).Shape).Dims)))].length:Nat):Int)),(34,nI i1),(39,dS aq y1),(40,nI y1.length),(41,nI i2)],[]⟩
theorem oM (x0:List aG) (x1:Int) (r:Bool) (H:lB x0 x1=some r):br Tryz.prog 19 [dS az x0,iI x1] (.bool r):=by
 unfold lB at H;refine aX Tryz.func19 58 [.tmp 4] ?_;refine aL H fun y0 h0 H0 => ?_;refine aU H0 (fun c0 H1 => ?_) (fun c1 H2 => ?_)
 ·refine aU H1 (fun c2 H3 => ?_) (fun c3 H4 => ?_)
  ·obtain rfl:=sI H3;exact pR 9 [V1,r0 [.v,.c true bT,.v,.v,.v,.e bT,.v,.v,.s,.s,.v],V1] [] [] (aC Tryz.call39 (aC (br.eq (kV _ _ h0) (cB c0)) (aT (aB c2 aN))))
  ·have c3p:=Mo c3;refine aU H4 (fun c4 H5 => ?_) (fun c5 H6 => ?_)
   ·obtain rfl:=sI H5;exact pR 10 [V1,r0 [.v,.c true bT,.v,.v,.v,.e bF,.v,.v,.v,.v,.v],.eqT 21 bT,V1] [] [] (aC Tryz.call39 (aC (br.eq (kV _ _ h0) (cB c0)) (aT (aB c3 (aB c4 aN)))))
   ·have c5p:=Mo c5;refine pA 12 [V1,r0 [.v,.c true bT,.v,.v,.v,.e bF,.v,.v,.v,.v,.v],.eqT 21 bF,r0 [.v,.e (nI x0.length),.v]] [.only [1,4,22,23,24] []] 11 [false] (ny x0 x1 0 ()) (aC Tryz.call39 (aC (br.eq (kV _ _ h0) (cB c0)) (aT (aB c3 (aB c5 (aT (aC (bo az x0) aN))))))) ?_;refine aL H6 fun R0 h1 H7 => ?_;refine pJ 1 (rM) R0 ?_ (fun u3 e0 => ?_)
    ·refine pC (ny x0 x1) h1 (fun i0 s0 h2 e1 => ?_) (fun i0 s0 h3 q0 h4 h5 => ?_)
     ·have c6:=lF i0 x0.length (by omega);subst e1;exact pB 5 [r0 [.e bF]] [.only [4] []] (rM ()) (aB c6 aN)
     ·have c7:=lT i0 x0.length (by omega);refine pA 12 [r0 [.e bT],r0 [.e (.dptr [.str (((x0.getD i0 ag).A).Elem),.str ((((x0.getD i0 ag).A).Shape).Row),.dslice (((((x0.getD i0 ag).A).Shape).Dims).map ah),.str (((x0.getD i0 ag).B).Elem),.str ((((x0.getD i0 ag).B).Shape).Row),.dslice (((((x0.getD i0 ag).B).Shape).Dims).map ah)]),.v,.m,.m],r0 (V 4 [.b,.e (iI (([(eh.mk (((x0.getD i0 ag).A).Elem) (Shape.mk ((((x0.getD i0 ag).A).Shape).Row) ((((x0.getD i0 ag).A).Shape).Dims))),(eh.mk (((x0.getD i0 ag).B).Elem) (Shape.mk ((((x0.getD i0 ag).B).Shape).Row) ((((x0.getD i0 ag).B).Shape).Dims)))].length:Nat):Int)),.v])] [.only [1,4,22,23,24,32,33,34] []] 12 [true] (nM x0 x1 i0 0 ()) (aB c7 (aI gv x0 i0 ag (aT (aC (bo yu [(eh.mk (((x0.getD i0 ag).A).Elem) (Shape.mk ((((x0.getD i0 ag).A).Shape).Row) ((((x0.getD i0 ag).A).Shape).Dims))),(eh.mk (((x0.getD i0 ag).B).Elem) (Shape.mk ((((x0.getD i0 ag).B).Shape).Row) ((((x0.getD i0 ag).B).Shape).Dims)))]) aN)))) ?_;refine aL h4 fun R1 h6 H8 => ?_;refine pJ 2 (qG x0 x1 i0) R1 ?_ (fun u2 e2 => ?_)
      ·refine pC (nM x0 x1 i0) h6 (fun i1 s1 h7 e3 => ?_) (fun i1 s1 h8 q1 h9 h10 => ?_)
       ·have c8:=lF i1 ([(eh.mk (((x0.getD i0 ag).A).Elem) (Shape.mk ((((x0.getD i0 ag).A).Shape).Row) ((((x0.getD i0 ag).A).Shape).Dims))),(eh.mk (((x0.getD i0 ag).B).Elem) (Shape.mk ((((x0.getD i0 ag).B).Shape).Row) ((((x0.getD i0 ag).B).Shape).Dims)))].length) (by omega);subst e3;exact pB 5 [r0 [.e bF]] [.only [1,4,22,23,24] []] (qG x0 x1 i0 ()) (aB c8 aN)
       ·have c9:=lT i1 ([(eh.mk (((x0.getD i0 ag).A).Elem) (Shape.mk ((((x0.getD i0 ag).A).Shape).Row) ((((x0.getD i0 ag).A).Shape).Dims))),(eh.mk (((x0.getD i0 ag).B).Elem) (Shape.mk ((((x0.getD i0 ag).B).Shape).Row) ((((x0.getD i0 ag).B).Shape).Dims)))].length) (by omega);refine aL h9 fun y1 h11 H9 => ?_;refine pA 12 [r0 [.e bT],r0 [.e (.dptr (yu ([(eh.mk (((x0.getD i0 ag).A).Elem) (Shape.mk ((((x0.getD i0 ag).A).Shape).Row) ((((x0.getD i0 ag).A).Shape).Dims))),(eh.mk (((x0.getD i0 ag).B).Elem) (Shape.mk ((((x0.getD i0 ag).B).Shape).Row) ((((x0.getD i0 ag).B).Shape).Dims)))].getD i1 CN))),.v,.m,.m],r0 [.v,.c true (dS aq y1),.e (nI y1.length),.v]] [.only [1,4,22,23,24,32,33,34,39,40,41] []] 12 [true] (ns x0 x1 i0 i1 y1 0 ()) (aB c9 (aI GD ([(eh.mk (((x0.getD i0 ag).A).Elem) (Shape.mk ((((x0.getD i0 ag).A).Shape).Row) ((((x0.getD i0 ag).A).Shape).Dims))),(eh.mk (((x0.getD i0 ag).B).Elem) (Shape.mk ((((x0.getD i0 ag).B).Shape).Row) ((((x0.getD i0 ag).B).Shape).Dims)))]) i1 CN (aC Tryz.call40 (aF (uF _ _ h11) (aT (aC (bo aq y1) aN)))))) ?_;refine aL H9 fun R2 h12 H10 => ?_;refine pJ 2 (q9 x0 x1 i0 i1) R2 ?_ (fun u1 e4 => ?_)
        ·refine pC (ns x0 x1 i0 i1 y1) h12 (fun i2 s2 h13 e5 => ?_) (fun i2 s2 h14 q2 h15 h16 => ?_)
         ·have c10:=lF i2 y1.length (by omega);subst e5;exact pB 5 [r0 [.e bF]] [.only [1,4,22,23,24,32,33,34] []] (q9 x0 x1 i0 i1 ()) (aB c10 aN)
         ·have c11:=lT i2 y1.length (by omega);refine pD 10 [r0 [.e bT],r0 [.e (.dptr (aq (y1.getD i2 ao))),.v,.m,.m]] [.only [1,4,10,22,23,24,32,33,34,39,40,41] [10]] 10 [true] (aB c11 (aI cF y1 i2 ao aN)) ?_;refine aL h15 fun v0 h17 H11 => ?_;refine pJ 2 (nL x0 x1 i0 i1 y1 i2) v0 ?_ (fun u0 e6 => ?_)
          ·refine aU h17 (fun c12 H12 => ?_) (fun c13 H13 => ?_)
           ·obtain rfl:=sI H12;exact pB 3 [r0 [.v,.v,.e bF,.v,.s,.s,.s,.s,.s,.v]] [.only [1,4,22,23,24,32,33,34,39,40,41] []] (nL x0 x1 i0 i1 y1 i2 ()) (aM c12 aN)
           ·refine aL H13 fun y2 h18 H14 => ?_;refine aU H14 (fun c14 H15 => ?_) (fun c15 H16 => ?_)
            ·obtain rfl:=sI H15;obtain rfl:=sI (aR H11);obtain rfl:=ba h16;obtain rfl:=sI (aR H10);obtain rfl:=ba h10;obtain rfl:=sI (aR H8);obtain rfl:=ba h5;obtain rfl:=sI (aR H7);exact pR 6 [r0 [.v,.v,.e bT,.v,.v,.v,.c true (iI y2),.v,.v,.v],.eqT 54 bT,V1] [] [] (aM c13 (aC Tryz.call41 (aF (ru _ _ h18) (aB c14 aN))))
            ·obtain rfl:=sI H16;exact pB 4 [r0 [.v,.v,.e bT,.v,.v,.v,.c true (iI y2),.v,.v,.v],.eqT 54 bF] [.only [1,4,22,23,24,32,33,34,39,40,41] []] (nL x0 x1 i0 i1 y1 i2 ()) (aM c13 (aC Tryz.call41 (aF (ru _ _ h18) (aB c15 aN))))
          ·subst e6;have H17:=bB H11;refine bK 39 (ps:=[(y1.map aq).length≤9223372036854775807]) (by kernel_rfl) (fun l0 => ?_);have l1:y1.length≤9223372036854775807:=by simpa only [cq,Mt] using l0
           clear l0;obtain rfl:=sI H17;exact pB 1 [V2] [.only [1,4,22,23,24,32,33,34,39,40,41] []] (ns x0 x1 i0 i1 y1 (i2+1) ()) (aH i2 aN)
        ·subst e4;have H18:=bB H10;refine bK 32 (ps:=[([(eh.mk (((x0.getD i0 ag).A).Elem) (Shape.mk ((((x0.getD i0 ag).A).Shape).Row) ((((x0.getD i0 ag).A).Shape).Dims))),(eh.mk (((x0.getD i0 ag).B).Elem) (Shape.mk ((((x0.getD i0 ag).B).Shape).Row) ((((x0.getD i0 ag).B).Shape).Dims)))].map yu).length≤9223372036854775807]) (by kernel_rfl) (fun l2 => ?_);have l3:[(eh.mk (((x0.getD i0 ag).A).Elem) (Shape.mk ((((x0.getD i0 ag).A).Shape).Row) ((((x0.getD i0 ag).A).Shape).Dims))),(eh.mk (((x0.getD i0 ag).B).Elem) (Shape.mk ((((x0.getD i0 ag).B).Shape).Row) ((((x0.getD i0 ag).B).Shape).Dims)))].length≤9223372036854775807:=by simpa only [cq,Mt] using l2
         clear l2;obtain rfl:=sI H18;exact pB 1 [V2] [.only [1,4,22,23,24,32,33,34] []] (nM x0 x1 i0 (i1+1) ()) (aH i1 aN)
      ·subst e2;have H19:=bB H8;refine bK 22 (ps:=[(x0.map az).length≤9223372036854775807]) (by kernel_rfl) (fun l4 => ?_);have l5:x0.length≤9223372036854775807:=by simpa only [cq,Mt] using l4
       clear l4;obtain rfl:=sI H19;exact pB 1 [V2] [.only [1,4,22,23,24] []] (ny x0 x1 (i0+1) ()) (aH i0 aN)
    ·subst e0;have H20:=bB H7;obtain rfl:=sI H20;exact pR 3 [V1] [] [] aN
 ·obtain rfl:=sI H2;exact pR 9 [V1,r0 [.v,.c true bF,.v,.v,.s,.s,.v,.v,.s,.s,.v],V1] [] [] (aC Tryz.call39 (aC (br.eq (kV _ _ h0) (cB c1)) (aT aN)))
def fa (x0:ak) (x1:List (ak×ak)) (x2:List (ak×Shape)) (x3:List (Linear×Linear)):Option ak :=
 bif (xJ x0 x1) then (
  some (be [] x0 x1)
 ) else (
  some x0
 )
theorem l9 (x0:ak) (x1:List (ak×ak)) (x2:List (ak×Shape)) (x3:List (Linear×Linear)) (r:ak) (H:fa x0 x1 x2 x3=some r):bg Tryz.prog 81 [.hptr 1000 0,.str x0] [(1000,.cells 95 [.amap 1001,.amap 1002,.rslice 1003]),(1001,.smap 0 9 (x1.map (aQ aZ))),(1002,.smap 0 34 (x2.map (aQ (iY aV)))),(1003,.row 98 4 (x3.map ay))] (fun r2 h0=>r2=(.str r)∧h0=[(1000,.cells 95 [.amap 1001,.amap 1002,.rslice 1003]),(1001,.smap 0 9 (x1.map (aQ aZ))),(1002,.smap 0 34 (x2.map (aQ (iY aV)))),(1003,.row 98 4 (x3.map ay))]):=by
 unfold fa at H;refine aX Tryz.func81 19 [.tmp 4] ?_;refine aU H (fun c0 H0 => ?_) (fun c1 H1 => ?_)
 ·obtain rfl:=sI H0;exact pR 12 [V1,r0 (V 5 [.l (.tup [.str (be [] x0 x1),.bool (xJ x0 x1)]),.v,.v,.v,.v,.v]),V1,.eqT 16 bT,V2] [] [1000,1001,1002,1003] (aC (rf (c:=aZ) x0 [] x1) (aB c0 aN))
 ·refine bc H1 fun e0 => ?_;subst e0;exact pR 13 [V1,r0 (V 5 [.l (.tup [.str (be [] x0 x1),.bool (xJ x0 x1)]),.v,.v,.v,.v,.v]),V1,.eqT 16 bF,V2] [] [1000,1001,1002,1003] (aC (rf (c:=aZ) x0 [] x1) (aB c1 aN))
def eP (x0 x1:ak) (x2:List (ak×ak)) (x3:List (ak×Shape)) (x4:List (Linear×Linear)):Option (List (ak×ak)) :=
 bX (x2=[]) <|
 some (bH x0 x1 [])
theorem jw (x0 x1:ak) (x2:List (ak×ak)) (x3:List (ak×Shape)) (x4:List (Linear×Linear)) (r:List (ak×ak)) (H:eP x0 x1 x2 x3 x4=some r):bg Tryz.prog 82 [.hptr 1000 0,.str x0,.str x1] [(1000,.cells 95 [.amap 1001,.amap 1002,.rslice 1003]),(1001,.smap 0 9 (x2.map (aQ aZ))),(1002,.smap 0 34 (x3.map (aQ (iY aV)))),(1003,.row 98 4 (x4.map ay))] (fun r2 h0=>r2=(.tup [])∧h0=[(1000,.cells 95 [.amap 1001,.amap 1002,.rslice 1003]),(1001,.smap 0 9 (r.map (aQ aZ))),(1002,.smap 0 34 (x3.map (aQ (iY aV)))),(1003,.row 98 4 (x4.map ay))]):=by unfold eP at H;refine aX Tryz.func82 33 [] ?_;refine aP H fun g0 H0 => ?_;obtain rfl:=sI H0;exact pR 11 [r0 (V 4 [.rwH 1001 (.smap 0 9 ([].map (aQ aZ))),.m]),.un,r0 [.m,.v],r0 (V 6 [.m,.rwH 1001 (.smap 0 9 ((bH x0 x1 []).map (aQ aZ)))])] [] [1000,1001,1002,1003] (aC (congrArg (fun l=>AO.smap 0 9 (List.map (aQ aZ) l)) g0) (aC (congrArg (AO.smap 0 9) (fJ (c:=aZ) x0 x1 [])) aN))
def bL (x0 x1:ak) (x2:List (ak×ak)) (x3:List (ak×Shape)) (x4:List (Linear×Linear)):Option (Int×(List (ak×ak))) :=
 (fa x0 x2 x3 x4).bind fun y0 =>
 (fa x1 x2 x3 x4).bind fun y1 =>
 (cX y0).bind fun y2 =>
 (cX y1).bind fun y3 =>
 bif (y0==y1) then (
  some (0,x2)
 ) else (
  ((
   bif y2 then (
    some (true,y3)
   ) else (
    some (false,false)
   )
  ):Option (Bool×Bool)).bind fun v0 =>
  bif v0.2 then (
   none
  ) else (
   bif v0.1 then (
    (eP y0 y1 x2 x3 x4).bind fun y4 =>
    some (0,y4)
   ) else (
    bif y3 then (
     (eP y1 y0 x2 x3 x4).bind fun y5 =>
     some (0,y5)
    ) else (
     some (12,x2)
    )
   )
  )
 )
def eR (x2:List (ak×ak)) (x3:List (ak×Shape)) (x4:List (Linear×Linear)) (y0 y1:ak) (y3:Bool) (v0:Bool×Bool):AS:=⟨48,[(0,.hptr 1000 0),(1,.str y0),(2,.str y1),(6,iI 0),(7,.bool v0.1),(8,.bool y3),(23,.bool v0.2)],[(1000,.cells 95 [.amap 1001,.amap 1002,.rslice 1003]),(1001,.smap 0 9 (x2.map (aQ aZ))),(1002,.smap 0 34 (x3.map (aQ (iY aV)))),(1003,.row 98 4 (x4.map ay))]⟩
theorem iW (x0 x1:ak) (x2:List (ak×ak)) (x3:List (ak×Shape)) (x4:List (Linear×Linear)) (r:Int×(List (ak×ak))) (H:bL x0 x1 x2 x3 x4=some r):bg Tryz.prog 42 [.hptr 1000 0,.str x0,.str x1] [(1000,.cells 95 [.amap 1001,.amap 1002,.rslice 1003]),(1001,.smap 0 9 (x2.map (aQ aZ))),(1002,.smap 0 34 (x3.map (aQ (iY aV)))),(1003,.row 98 4 (x4.map ay))] (fun r2 h0=>r2=(iI r.1)∧h0=[(1000,.cells 95 [.amap 1001,.amap 1002,.rslice 1003]),(1001,.smap 0 9 (r.2.map (aQ aZ))),(1002,.smap 0 34 (x3.map (aQ (iY aV)))),(1003,.row 98 4 (x4.map ay))]):=by
 unfold bL at H;refine aX Tryz.func42 48 [.tmp 6] ?_;refine aL H fun y0 h1 H0 => ?_;refine aL H0 fun y1 h2 H1 => ?_;refine aL H1 fun y2 h3 H2 => ?_;refine aL H2 fun y3 h4 H3 => ?_;refine pD 10 [V1,r0 [.v,.v,.hM [(1000,1000),(1001,1001),(1002,1002),(1003,1003)] [] (.str y0) [(1000,.cells 95 [.amap 1001,.amap 1002,.rslice 1003]),(1001,.smap 0 9 (x2.map (aQ aZ))),(1002,.smap 0 34 (x3.map (aQ (iY aV)))),(1003,.row 98 4 (x4.map ay))],.v,.v,.hM [(1000,1000),(1001,1001),(1002,1002),(1003,1003)] [] (.str y1) [(1000,.cells 95 [.amap 1001,.amap 1002,.rslice 1003]),(1001,.smap 0 9 (x2.map (aQ aZ))),(1002,.smap 0 34 (x3.map (aQ (iY aV)))),(1003,.row 98 4 (x4.map ay))],.v,.v],r0 [.v,.c true (.bool y2),.v,.c true (.bool y3),.v,.v],V4] [.only [0,1,2,6,7,8,19] [1000,1001,1002,1003]] 10 [] (aC Tryz.call81 (aC (l9 _ _ _ _ _ h1) (aC Tryz.call81 (aC (l9 _ _ _ _ _ h2) (aC Tryz.call79 (aF (bl _ _ h3) (aC Tryz.call79 (aF (bl _ _ h4) aN)))))))) ?_;refine aU H3 (fun c0 H4 => ?_) (fun c1 H5 => ?_)
 ·obtain rfl:=sI H4;exact pR 6 [.eqT 19 bT,V1] [] [1000,1001,1002,1003] (aB c0 aN)
 ·refine pD 3 [.eqT 19 bF] [.only [0,1,2,6,7,8] [1000,1001,1002,1003]] 2 [false] (aB c1 aN) ?_;refine aL H5 fun v0 h5 H6 => ?_;refine cC 0 (eR x2 x3 x4 y0 y1 y3 v0) (by kernel_rfl) ?_ ?_
  ·refine aU h5 (fun c2 H7 => ?_) (fun c3 H8 => ?_)
   ·obtain rfl:=sI H7;exact pB 2 [.eqT 7 bT,V5] [.only [0,1,2,6,7,8,23] [1000,1001,1002,1003]] (eR x2 x3 x4 y0 y1 y3 (true,y3)) (aB c2 aN)
   ·obtain rfl:=sI H8;exact pB 2 [.eqT 7 bF,r0 [.v,.v,.s,.v,.v]] [.only [0,1,2,6,7,8,23] [1000,1001,1002,1003]] (eR x2 x3 x4 y0 y1 y3 (false,false)) (aB c3 aN)
  ·refine aU H6 (fun c4 H9 => ?_) (fun c5 H10 => ?_)
   ·cases H9
   ·refine aU H10 (fun c6 H11 => ?_) (fun c7 H12 => ?_)
    ·refine aL H11 fun y4 h6 H13 => ?_;obtain rfl:=sI H13;exact pR 10 [.eqT 23 bF,V2,.eqT 36 bT,r0 [.v,.v,.v,.hM [(1000,1000),(1001,1001),(1002,1002),(1003,1003)] [] (.tup []) [(1000,.cells 95 [.amap 1001,.amap 1002,.rslice 1003]),(1001,.smap 0 9 (y4.map (aQ aZ))),(1002,.smap 0 34 (x3.map (aQ (iY aV)))),(1003,.row 98 4 (x4.map ay))]],V1] [] [1000,1001,1002,1003] (aB c5 (aB c6 (aC Tryz.call82 (aC (jw _ _ _ _ _ _ h6) aN))))
    ·refine aU H12 (fun c8 H14 => ?_) (fun c9 H15 => ?_)
     ·refine aL H14 fun y5 h7 H16 => ?_;obtain rfl:=sI H16;exact pR 14 [.eqT 23 bF,V2,.eqT 36 bF,V2,.eqT 42 bT,r0 [.v,.v,.v,.hM [(1000,1000),(1001,1001),(1002,1002),(1003,1003)] [] (.tup []) [(1000,.cells 95 [.amap 1001,.amap 1002,.rslice 1003]),(1001,.smap 0 9 (y5.map (aQ aZ))),(1002,.smap 0 34 (x3.map (aQ (iY aV)))),(1003,.row 98 4 (x4.map ay))]],V1] [] [1000,1001,1002,1003] (aB c5 (aB c7 (aB c8 (aC Tryz.call82 (aC (jw _ _ _ _ _ _ h7) aN)))))
     ·obtain rfl:=sI H15;exact pR 13 [.eqT 23 bF,V2,.eqT 36 bF,V2,.eqT 42 bF,V1] [] [1000,1001,1002,1003] (aB c5 (aB c7 (aB c9 aN)))
def ef (x0:Shape) (x1:List (ak×ak)) (x2:List (ak×Shape)) (x3:List (Linear×Linear)):Option (Shape×Int) :=
 bif (x0.Row==[]) then (
  some (x0,0)
 ) else (
  bif (xJ x0.Row x2) then (
   (rJ [((be nu x0.Row x2).Dims),x0.Dims]).bind fun y0 =>
   bif decide (((y0.length:Nat):Int)>6) then (
    some ((Shape.mk [] []),3)
   ) else (
    some ((Shape.mk ((be nu x0.Row x2).Row) y0),0)
   )
  ) else (
   some (x0,0)
  )
 )
theorem lG (x0:Shape) (x1:List (ak×ak)) (x2:List (ak×Shape)) (x3:List (Linear×Linear)) (r:Shape×Int) (H:ef x0 x1 x2 x3=some r):bg Tryz.prog 83 [.hptr 1000 0,.agg [.str x0.Row,dS ah x0.Dims]] [(1000,.cells 95 [.amap 1001,.amap 1002,.rslice 1003]),(1001,.smap 0 9 (x1.map (aQ aZ))),(1002,.smap 0 34 (x2.map (aQ (iY aV)))),(1003,.row 98 4 (x3.map ay))] (fun r2 h0=>r2=(.tup [.agg [.str r.1.Row,dS ah r.1.Dims],iI r.2])∧h0=[(1000,.cells 95 [.amap 1001,.amap 1002,.rslice 1003]),(1001,.smap 0 9 (x1.map (aQ aZ))),(1002,.smap 0 34 (x2.map (aQ (iY aV)))),(1003,.row 98 4 (x3.map ay))]):=by
 unfold ef at H;refine aX Tryz.func83 42 [.cell 4 34,.tmp 5] ?_;refine aU H (fun c0 H0 => ?_) (fun c1 H1 => ?_)
 ·obtain rfl:=sI H0;exact pR 11 [r0 [.m,.m,.v],.rg 12 (V 6 [.l (.tup [.agg (aV (be nu x0.Row x2)),.bool (xJ x0.Row x2)]),.v,.v,.v,.m,.m]) [.v],r0 [.v,.v,.e bT,.v,.s,.s,.v],r0 [.v,.m,.v]] [] [1000,1001,1002,1003] (aC (rf (c:=(iY aV)) x0.Row nu x2) (aB c0 aN))
 ·refine aU H1 (fun c2 H2 => ?_) (fun c3 H3 => ?_)
  ·refine aL H2 fun y0 h1 H4 => ?_;refine pD 15 [r0 [.m,.m,.v],.rg 12 (V 6 [.l (.tup [.agg (aV (be nu x0.Row x2)),.bool (xJ x0.Row x2)]),.v,.v,.v,.m,.m]) [.v],r0 [.v,.v,.e bF,.v,.v,.v,.v],.eqT 25 bF,.rg 10 (V 6 [.b,.c true (dS ah y0),.b,.m]) [.m],r0 [.v,.v,.e (nI y0.length),.v]] [.only [4,5,8,39] [4,8,1000,1001,1002,1003]] 14 [false] (aC (rf (c:=(iY aV)) x0.Row nu x2) (aB c1 (aT (aM c2 (aC Tryz.call141 (aF (yz ah [((be nu x0.Row x2).Dims),x0.Dims] kz y0 h1) (aT (aC (bo ah y0) aN)))))))) ?_;refine aU H4 (fun c4 H5 => ?_) (fun c5 H6 => ?_)
   ·obtain rfl:=sI H5;exact pR 5 [.eqT 39 bT,r0 [.b,.m,.v]] [.wkH 4 1 []] [1000,1001,1002,1003] (aB c4 aN)
   ·obtain rfl:=sI H6;exact pR 6 [.eqT 39 bF,r0 [.v,.m,.v]] [] [1000,1001,1002,1003] (aB c5 aN)
  ·obtain rfl:=sI H3;exact pR 12 [r0 [.m,.m,.v],.rg 12 (V 6 [.l (.tup [.agg (aV (be nu x0.Row x2)),.bool (xJ x0.Row x2)]),.v,.v,.v,.m,.m]) [.v],r0 [.v,.v,.e bF,.v,.v,.v,.v],.eqT 25 bT,r0 [.v,.m,.v]] [] [1000,1001,1002,1003] (aC (rf (c:=(iY aV)) x0.Row nu x2) (aB c1 (aT (aM c3 aN))))
def iq (x0:ak) (x1:Shape) (x2:List (ak×ak)) (x3:List (ak×Shape)) (x4:List (Linear×Linear)):Option (Int×(List (ak×Shape))) :=
 bX (x3=[]) <|
 some (0,(bH x0 x1 []))
theorem pP (x0:ak) (x1:Shape) (x2:List (ak×ak)) (x3:List (ak×Shape)) (x4:List (Linear×Linear)) (r:Int×(List (ak×Shape))) (H:iq x0 x1 x2 x3 x4=some r):bg Tryz.prog 85 [.hptr 1000 0,.str x0,.agg [.str x1.Row,dS ah x1.Dims]] [(1000,.cells 95 [.amap 1001,.amap 1002,.rslice 1003]),(1001,.smap 0 9 (x2.map (aQ aZ))),(1002,.smap 0 34 (x3.map (aQ (iY aV)))),(1003,.row 98 4 (x4.map ay))] (fun r2 h0=>r2=(iI r.1)∧h0=[(0,.smap 0 34 (r.2.map (aQ (iY aV)))),(1000,.cells 95 [.amap 1001,.amap 0,.rslice 1003]),(1001,.smap 0 9 (x2.map (aQ aZ))),(1003,.row 98 4 (x4.map ay))]):=by unfold iq at H;refine aX Tryz.func85 53 [.tmp 6] ?_;refine aP H fun g0 H0 => ?_;obtain rfl:=sI H0;exact pR 25 [r0 [.m,.v],V5,r0 [.v,.m,.v,.v,.m,.rwH 19 (.smap 0 34 ((bH x0 x1 []).map (aQ (iY aV)))),.v,.v,.v,.m],V1,r0 [.m,.v,.v,.m,.rwH 25 (.smap 0 34 ((bH x0 x1 []).map (aQ (iY aV)))),.v,.v],r0 [.v,.rwH 1002 (.smap 0 34 ([].map (aQ (iY aV)))),.m],.un,r0 [.m,.v],r0 (V 4 [.m]),V2] [.ren [(25,0),(1000,1000),(1001,1001),(1003,1003)]] [0,1000,1001,1003] (aC (congrArg (AO.smap 0 34) (fJ (c:=(iY aV)) x0 x1 [])) (aC (congrArg (AO.smap 0 34) (fJ (c:=(iY aV)) x0 x1 [])) (aC (congrArg (fun l=>AO.smap 0 34 (List.map (aQ (iY aV)) l)) g0) aN)))
def gV (x0 x1:ak) (x2:List (ak×ak)) (x3:List (ak×Shape)) (x4:List (Linear×Linear)):Option Int :=
 bif (x0==x1) then (
  some 0
 ) else (
  ((
   bif (x0==[]) then (
    some false
   ) else (
    some (!(x1==[]))
   )
  ):Option Bool).bind fun v0 =>
  bif v0 then (
   none
  ) else (
   none
  )
 )
def fC (x0 x1:ak) (x2:List (ak×ak)) (x3:List (ak×Shape)) (x4:List (Linear×Linear)) (v0:Bool):AS:=⟨33,[(0,.hptr 1000 0),(1,.str x0),(2,.str x1),(6,iI 0),(11,.bool v0)],[(1000,.cells 95 [.amap 1001,.amap 1002,.rslice 1003]),(1001,.smap 0 9 (x2.map (aQ aZ))),(1002,.smap 0 34 (x3.map (aQ (iY aV)))),(1003,.row 98 4 (x4.map ay))]⟩
theorem pj (x0 x1:ak) (x2:List (ak×ak)) (x3:List (ak×Shape)) (x4:List (Linear×Linear)) (r:Int) (H:gV x0 x1 x2 x3 x4=some r):bg Tryz.prog 84 [.hptr 1000 0,.str x0,.str x1] [(1000,.cells 95 [.amap 1001,.amap 1002,.rslice 1003]),(1001,.smap 0 9 (x2.map (aQ aZ))),(1002,.smap 0 34 (x3.map (aQ (iY aV)))),(1003,.row 98 4 (x4.map ay))] (fun r2 h0=>r2=(iI r)∧h0=[(1000,.cells 95 [.amap 1001,.amap 1002,.rslice 1003]),(1001,.smap 0 9 (x2.map (aQ aZ))),(1002,.smap 0 34 (x3.map (aQ (iY aV)))),(1003,.row 98 4 (x4.map ay))]):=by
 unfold gV at H;refine aX Tryz.func84 33 [.tmp 6] ?_;refine aU H (fun c0 H0 => ?_) (fun c1 H1 => ?_)
 ·obtain rfl:=sI H0;exact pR 11 [V1,V4,.eqT 7 bT,V1] [] [1000,1001,1002,1003] (aB c0 aN)
 ·refine pD 9 [.rg 0 [] [.v],.rg 0 [] (V 4 []),.eqT 7 bF] [.only [0,1,2,6] [1000,1001,1002,1003]] 8 [false] (aB c1 aN) ?_;refine aL H1 fun v0 h1 H2 => ?_;refine cC 0 (fC x0 x1 x2 x3 x4 v0) (by kernel_rfl) ?_ ?_
  ·refine aU h1 (fun c2 H3 => ?_) (fun c3 H4 => ?_)
   ·obtain rfl:=sI H3;exact pB 1 [r0 [.v,.e bF,.v,.s,.s,.v,.v]] [.only [0,1,2,6,11] [1000,1001,1002,1003]] (fC x0 x1 x2 x3 x4 false) (aM c2 aN)
   ·obtain rfl:=sI H4;exact pB 1 [r0 [.v,.e bT,.v,.v,.v,.v,.v]] [.only [0,1,2,6,11] [1000,1001,1002,1003]] (fC x0 x1 x2 x3 x4 (!(x1==[]))) (aM c3 aN)
  ·refine aU H2 (fun c4 H5 => ?_) (fun c5 H6 => ?_)
   ·cases H5
   ·cases H6
noncomputable def fL (x0:List Linear):Option (List Linear) :=
 F0 (α:=Linear) x0 (
  some []
 ) (
  bX (x0.length*32≤140737488355328) <|
  some x0
 )
theorem oc (x0 r:List Linear) (H:fL x0=some r):br Tryz.prog 86 [dS ah x0] (dS ah r):=by
 unfold fL at H;refine aX Tryz.func86 8 [.tmp 2] ?_;refine pD 4 [V1] [.only [0,2] []] 4 [] aN ?_;refine Dp H (fun H0 H1 => ?_);refine zQ [.v] (l:=(x0.map ah)) (k:=4) (q:=true) (S:=⟨8,[(0,dS ah x0),(2,.eslice),(3,dS ah x0)],[]⟩) aN (by kernel_rfl) (fun b0 h0 => ?_);cases b0 with
 | true =>
  have H2:=H0 (List.map_eq_nil_iff.1 (h0 rfl));obtain rfl:=sI H2;exact pR 4 [V1] [.wk 2 []] [] aN
 | false =>
  refine aP H1 fun g0 H3 => ?_;refine bc H3 fun e0 => ?_;subst e0;exact pR 5 [r0 [.b,.v,.er 5 7 29 2,.ap,.rwH 7 (.row 29 2 (x0.map ah)),.v]] [.fz 7] [] (a8 (tg (c:=ah) kz [] x0 32 (by decide) (by first | (simp;done) | simpa using g0)) (aC (Fv 29 2 ah x0) aN))
noncomputable def bG (x0 x1:Shape) (x2:List (ak×ak)) (x3:List (ak×Shape)) (x4:List (Linear×Linear)):Option (Int×(List (Linear×Linear))×(List (ak×Shape))) :=
 (ef x0 x2 x3 x4).bind fun y0 =>
 bif (y0.2==0) then (
  (ef x1 x2 x3 x4).bind fun y1 =>
  bif (y1.2==0) then (
   (oa (σ:=(Int×(List (Linear×Linear)))) (ε:=(List (Linear×Linear))) (ρ:=Empty) (fun s0 =>
    bif decide (s0.1≤(if ((y1.1.Dims.length:Nat):Int)<((y0.1.Dims.length:Nat):Int) then ((y1.1.Dims.length:Nat):Int) else ((y0.1.Dims.length:Nat):Int))) then (
     bX (0≤(aS (((y0.1.Dims.length:Nat):Int)-s0.1))∧(aS (((y0.1.Dims.length:Nat):Int)-s0.1))<(y0.1.Dims.length:Int)) <|
     bX (0≤(aS (((y1.1.Dims.length:Nat):Int)-s0.1))∧(aS (((y1.1.Dims.length:Nat):Int)-s0.1))<(y1.1.Dims.length:Int)) <|
     bX ((s0.2.length+1)*64≤140737488355328) <|
     some (.go ((aS (s0.1+1)),(s0.2++[((Linear.mk ((y0.1.Dims.getD (aS (((y0.1.Dims.length:Nat):Int)-s0.1)).toNat aD).Const) ((y0.1.Dims.getD (aS (((y0.1.Dims.length:Nat):Int)-s0.1)).toNat aD).Terms)),(Linear.mk ((y1.1.Dims.getD (aS (((y1.1.Dims.length:Nat):Int)-s0.1)).toNat aD).Const) ((y1.1.Dims.getD (aS (((y1.1.Dims.length:Nat):Int)-s0.1)).toNat aD).Terms)))])))
    ) else (
     some (.brk s0.2)
    )
   ) 4294967296 (1,x4)).bind <| dL fun u0 =>
   bX (0≤(aS (((y0.1.Dims.length:Nat):Int)-(if ((y1.1.Dims.length:Nat):Int)<((y0.1.Dims.length:Nat):Int) then ((y1.1.Dims.length:Nat):Int) else ((y0.1.Dims.length:Nat):Int))))∧(aS (((y0.1.Dims.length:Nat):Int)-(if ((y1.1.Dims.length:Nat):Int)<((y0.1.Dims.length:Nat):Int) then ((y1.1.Dims.length:Nat):Int) else ((y0.1.Dims.length:Nat):Int))))≤(y0.1.Dims.length:Int)) <|
   bX (0≤(aS (((y1.1.Dims.length:Nat):Int)-(if ((y1.1.Dims.length:Nat):Int)<((y0.1.Dims.length:Nat):Int) then ((y1.1.Dims.length:Nat):Int) else ((y0.1.Dims.length:Nat):Int))))∧(aS (((y1.1.Dims.length:Nat):Int)-(if ((y1.1.Dims.length:Nat):Int)<((y0.1.Dims.length:Nat):Int) then ((y1.1.Dims.length:Nat):Int) else ((y0.1.Dims.length:Nat):Int))))≤(y1.1.Dims.length:Int)) <|
   ((
    bif ((((y0.1.Dims.take ((aS (((y0.1.Dims.length:Nat):Int)-(if ((y1.1.Dims.length:Nat):Int)<((y0.1.Dims.length:Nat):Int) then ((y1.1.Dims.length:Nat):Int) else ((y0.1.Dims.length:Nat):Int)))).toNat)).length:Nat):Int)==0) then (
     some ((((y1.1.Dims.take ((aS (((y1.1.Dims.length:Nat):Int)-(if ((y1.1.Dims.length:Nat):Int)<((y0.1.Dims.length:Nat):Int) then ((y1.1.Dims.length:Nat):Int) else ((y0.1.Dims.length:Nat):Int)))).toNat)).length:Nat):Int)==0)
    ) else (
     some false
    )
   ):Option Bool).bind fun v0 =>
   bif v0 then (
    (gV y0.1.Row y1.1.Row x2 x3 u0).bind fun y2 =>
    some (y2,u0,x3)
   ) else (
    ((
     bif ((((y0.1.Dims.take ((aS (((y0.1.Dims.length:Nat):Int)-(if ((y1.1.Dims.length:Nat):Int)<((y0.1.Dims.length:Nat):Int) then ((y1.1.Dims.length:Nat):Int) else ((y0.1.Dims.length:Nat):Int)))).toNat)).length:Nat):Int)==0) then (
      some (y1.1.Row,(y1.1.Dims.take ((aS (((y1.1.Dims.length:Nat):Int)-(if ((y1.1.Dims.length:Nat):Int)<((y0.1.Dims.length:Nat):Int) then ((y1.1.Dims.length:Nat):Int) else ((y0.1.Dims.length:Nat):Int)))).toNat)),y0.1.Row,(y0.1.Dims.take ((aS (((y0.1.Dims.length:Nat):Int)-(if ((y1.1.Dims.length:Nat):Int)<((y0.1.Dims.length:Nat):Int) then ((y1.1.Dims.length:Nat):Int) else ((y0.1.Dims.length:Nat):Int)))).toNat)))
     ) else (
      some (y0.1.Row,(y0.1.Dims.take ((aS (((y0.1.Dims.length:Nat):Int)-(if ((y1.1.Dims.length:Nat):Int)<((y0.1.Dims.length:Nat):Int) then ((y1.1.Dims.length:Nat):Int) else ((y0.1.Dims.length:Nat):Int)))).toNat)),y1.1.Row,(y1.1.Dims.take ((aS (((y1.1.Dims.length:Nat):Int)-(if ((y1.1.Dims.length:Nat):Int)<((y0.1.Dims.length:Nat):Int) then ((y1.1.Dims.length:Nat):Int) else ((y0.1.Dims.length:Nat):Int)))).toNat)))
     )
    ):Option (ak×(List Linear)×ak×(List Linear))).bind fun v1 =>
    bif (v1.2.2.1==[]) then (
     some (13,u0,x3)
    ) else (
     bif (v1.2.2.1==v1.1) then (
      some (13,u0,x3)
     ) else (
      (fL v1.2.1).bind fun y3 =>
      (iq v1.2.2.1 (Shape.mk v1.1 y3) x2 x3 u0).bind fun y4 =>
      some (y4.1,u0,y4.2)
     )
    )
   )
  ) else (
   some (y1.2,x4,x3)
  )
 ) else (
  some (y0.2,x4,x3)
 )
def ep (x2:List (ak×ak)) (x3:List (ak×Shape)) (y0 y1:Shape×Int) (s0:Int×(List (Linear×Linear))):AS:=⟨128,[(0,.hptr 1000 0),(4,.hptr 4 0),(5,.hptr 5 0),(6,iI 0),(8,iI (if ((y1.1.Dims.length:Nat):Int)<((y0.1.Dims.length:Nat):Int) then ((y1.1.Dims.length:Nat):Int) else ((y0.1.Dims.length:Nat):Int))),(9,iI s0.1)],[(4,.cells 34 [.str y0.1.Row,dS ah y0.1.Dims]),(5,.cells 34 [.str y1.1.Row,dS ah y1.1.Dims]),(65,.row 98 4 (s0.2.map ay)),(1000,.cells 95 [.amap 1001,.amap 1002,.rslice 65]),(1001,.smap 0 9 (x2.map (aQ aZ))),(1002,.smap 0 34 (x3.map (aQ (iY aV))))]⟩
def iB (x2:List (ak×ak)) (x3:List (ak×Shape)) (y0 y1:Shape×Int) (u1:List (Linear×Linear)):AS:=⟨128,[(0,.hptr 1000 0),(4,.hptr 4 0),(5,.hptr 5 0),(6,iI 0),(8,iI (if ((y1.1.Dims.length:Nat):Int)<((y0.1.Dims.length:Nat):Int) then ((y1.1.Dims.length:Nat):Int) else ((y0.1.Dims.length:Nat):Int)))],[(4,.cells 34 [.str y0.1.Row,dS ah y0.1.Dims]),(5,.cells 34 [.str y1.1.Row,dS ah y1.1.Dims]),(65,.row 98 4 (u1.map ay)),(1000,.cells 95 [.amap 1001,.amap 1002,.rslice 65]),(1001,.smap 0 9 (x2.map (aQ aZ))),(1002,.smap 0 34 (x3.map (aQ (iY aV))))]⟩
def eF (x2:List (ak×ak)) (x3:List (ak×Shape)) (y0 y1:Shape×Int) (u0:List (Linear×Linear)) (v0:Bool):AS:=⟨128,[(0,.hptr 1000 0),(4,.hptr 4 0),(5,.hptr 5 0),(6,iI 0),(95,.bool v0)],[(4,.cells 34 [.str y0.1.Row,.dslice ((y0.1.Dims.take ((aS (((y0.1.Dims.length:Nat):Int)-(if ((y1.1.Dims.length:Nat):Int)<((y0.1.Dims.length:Nat):Int) then ((y1.1.Dims.length:Nat):Int) else ((y0.1.Dims.length:Nat):Int)))).toNat)).map ah)]),(5,.cells 34 [.str y1.1.Row,.dslice ((y1.1.Dims.take ((aS (((y1.1.Dims.length:Nat):Int)-(if ((y1.1.Dims.length:Nat):Int)<((y0.1.Dims.length:Nat):Int) then ((y1.1.Dims.length:Nat):Int) else ((y0.1.Dims.length:Nat):Int)))).toNat)).map ah)]),(65,.row 98 4 (u0.map ay)),(1000,.cells 95 [.amap 1001,.amap 1002,.rslice 65]),(1001,.smap 0 9 (x2.map (aQ aZ))),(1002,.smap 0 34 (x3.map (aQ (iY aV))))]⟩
def eK (x2:List (ak×ak)) (x3:List (ak×Shape)) (u0:List (Linear×Linear)) (v1:ak×(List Linear)×ak×(List Linear)):AS:=⟨128,[(0,.hptr 1000 0),(4,.hptr 4 0),(5,.hptr 5 0),(6,iI 0)],[(4,.cells 34 [.str v1.1,dS ah v1.2.1]),(5,.cells 34 [.str v1.2.2.1,dS ah v1.2.2.2]),(65,.row 98 4 (u0.map ay)),(1000,.cells 95 [.amap 1001,.amap 1002,.rslice 65]),(1001,.smap 0 9 (x2.map (aQ aZ))),(1002,.smap 0 34 (x3.map (aQ (iY aV))))]⟩
theorem iH (x0 x1:Shape) (x2:List (ak×ak)) (x3:List (ak×Shape)) (x4:List (Linear×Linear)) (r:Int×(List (Linear×Linear))×(List (ak×Shape))) (H:bG x0 x1 x2 x3 x4=some r):bg Tryz.prog 43 [.hptr 1000 0,.agg [.str x0.Row,dS ah x0.Dims],.agg [.str x1.Row,dS ah x1.Dims]] [(1000,.cells 95 [.amap 1001,.amap 1002,.rslice 1003]),(1001,.smap 0 9 (x2.map (aQ aZ))),(1002,.smap 0 34 (x3.map (aQ (iY aV)))),(1003,.row 98 4 (x4.map ay))] (fun r2 h0=>r2=(iI r.1)∧h0=[(0,.row 98 4 (r.2.1.map ay)),(1,.smap 0 34 (r.2.2.map (aQ (iY aV)))),(1000,.cells 95 [.amap 1001,.amap 1,.rslice 0]),(1001,.smap 0 9 (x2.map (aQ aZ)))]):=by
 unfold bG at H;refine aX Tryz.func43 128 [.tmp 6] ?_;refine aL H fun y0 h1 H0 => ?_;refine pD 7 [r0 [.m,.m,.v],r0 [.v,.v,.hM [(1000,1000),(1001,1001),(1002,1002),(1003,1003)] [] (.tup [.agg [.str y0.1.Row,dS ah y0.1.Dims],iI y0.2]) [(1000,.cells 95 [.amap 1001,.amap 1002,.rslice 1003]),(1001,.smap 0 9 (x2.map (aQ aZ))),(1002,.smap 0 34 (x3.map (aQ (iY aV)))),(1003,.row 98 4 (x4.map ay))],.v,.v,.v,.m,.v],V2] [.only [0,4,5,6,7,17] [4,5,1000,1001,1002,1003]] 7 [] (aC Tryz.call83 (aC (lG _ _ _ _ _ h1) aN)) ?_;refine aU H0 (fun c0 H1 => ?_) (fun c1 H2 => ?_)
 ·refine aL H1 fun y1 h2 H3 => ?_;refine pD 8 [.eqT 17 bF,r0 [.v,.v,.hM [(1000,1000),(1001,1001),(1002,1002),(1003,1003)] [] (.tup [.agg [.str y1.1.Row,dS ah y1.1.Dims],iI y1.2]) [(1000,.cells 95 [.amap 1001,.amap 1002,.rslice 1003]),(1001,.smap 0 9 (x2.map (aQ aZ))),(1002,.smap 0 34 (x3.map (aQ (iY aV)))),(1003,.row 98 4 (x4.map ay))],.v,.v,.v,.m,.v],V2] [.only [0,4,5,6,7,26] [4,5,1000,1001,1002,1003]] 7 [false] (aM c0 (aC Tryz.call83 (aC (lG _ _ _ _ _ h2) aN))) ?_;refine aU H3 (fun c2 H4 => ?_) (fun c3 H5 => ?_)
  ·refine pA 9 [.eqT 26 bF,.rg 0 [] [.v,.v,.e (.int .i64 ((y0.1.Dims.length:Nat):Int)),.v,.v,.e (.int .i64 ((y1.1.Dims.length:Nat):Int)),.v,.v],.rg 0 [] [.v]] [.ren [(4,4),(5,5),(1003,65),(1000,1000),(1001,1001),(1002,1002)],.only [0,4,5,6,8,9] [4,5,65,1000,1001,1002]] 8 [false] (ep x2 x3 y0 y1 (1,x4)) (aM c2 (aT (aC (bo ah y0.1.Dims) (aT (aC (bo ah y1.1.Dims) (aT aN)))))) ?_;refine aL H4 fun R0 h3 H6 => ?_;refine pJ 1 (iB x2 x3 y0 y1) R0 ?_ (fun u0 e0 => ?_)
   ·refine qL (ep x2 x3 y0 y1) (by kernel_rfl) h3 (fun s0 q0 h4 h5 => ?_)
    ·refine aU h4 (fun c4 H7 => ?_) (fun c5 H8 => ?_)
     ·refine aP H7 fun g0 H9 => ?_;refine aP H9 fun g1 H10 => ?_;refine aP H10 fun g2 H11 => ?_;obtain rfl:=sI H11;exact pB 11 [V3,.eqT 37 bT,.cv [.ren [(4,4),(5,5),(65,900),(1000,1000),(1001,1001),(1002,1002)]],.rg 26 (V 4 [.lt,.v,.v,.v,.v,.e (nI y0.1.Dims.length),.v,.w,.e (.dptr (ah (y0.1.Dims.getD (aS (((y0.1.Dims.length:Nat):Int)-s0.1)).toNat aD))),.v,.v,.v,.v,.v,.e (nI y1.1.Dims.length),.v,.w,.e (.dptr (ah (y1.1.Dims.getD (aS (((y1.1.Dims.length:Nat):Int)-s0.1)).toNat aD))),.v,.b,.b,.apx ((s0.2++[((Linear.mk ((y0.1.Dims.getD (aS (((y0.1.Dims.length:Nat):Int)-s0.1)).toNat aD).Const) ((y0.1.Dims.getD (aS (((y0.1.Dims.length:Nat):Int)-s0.1)).toNat aD).Terms)),(Linear.mk ((y1.1.Dims.getD (aS (((y1.1.Dims.length:Nat):Int)-s0.1)).toNat aD).Const) ((y1.1.Dims.getD (aS (((y1.1.Dims.length:Nat):Int)-s0.1)).toNat aD).Terms)))]).map ay)]) [.v,.v,.m],r0 [.v,.w,.v]] [.only [0,4,5,6,8,9] [4,5,65,1000,1001,1002]] (ep x2 x3 y0 y1 ((aS (s0.1+1)),(s0.2++[((Linear.mk ((y0.1.Dims.getD (aS (((y0.1.Dims.length:Nat):Int)-s0.1)).toNat aD).Const) ((y0.1.Dims.getD (aS (((y0.1.Dims.length:Nat):Int)-s0.1)).toNat aD).Terms)),(Linear.mk ((y1.1.Dims.getD (aS (((y1.1.Dims.length:Nat):Int)-s0.1)).toNat aD).Const) ((y1.1.Dims.getD (aS (((y1.1.Dims.length:Nat):Int)-s0.1)).toNat aD).Terms)))]))) (aB c4 (aT (aC (bo ah y0.1.Dims) (a8 (Jd (f:=ah) (l:=y0.1.Dims) (n:=(aS (((y0.1.Dims.length:Nat):Int)-s0.1))) aD cP (by decide) (by exact g0)) (aT (aC (bo ah y1.1.Dims) (a8 (Jd (f:=ah) (l:=y1.1.Dims) (n:=(aS (((y1.1.Dims.length:Nat):Int)-s0.1))) aD cP (by decide) (by exact g1)) (a8 (Ku (c:=ay) wX s0.2 [((Linear.mk ((y0.1.Dims.getD (aS (((y0.1.Dims.length:Nat):Int)-s0.1)).toNat aD).Const) ((y0.1.Dims.getD (aS (((y0.1.Dims.length:Nat):Int)-s0.1)).toNat aD).Terms)),(Linear.mk ((y1.1.Dims.getD (aS (((y1.1.Dims.length:Nat):Int)-s0.1)).toNat aD).Const) ((y1.1.Dims.getD (aS (((y1.1.Dims.length:Nat):Int)-s0.1)).toNat aD).Terms)))] 64 (by decide) (by first | (simp;done) | simpa using g2) List.map_append.symm) aN))))))))
     ·obtain rfl:=sI H8;obtain rfl:=ja h5;exact pB 6 [V3,.eqT 37 bF] [.only [0,4,5,6,8] [4,5,65,1000,1001,1002]] (iB x2 x3 y0 y1 s0.2) (aB c5 aN)
   ·subst e0;have H12:=bu H6;refine aP H12 fun g3 H13 => ?_;refine aP H13 fun g4 H14 => ?_;refine pD 4 [.rg 18 (V 4 [.e (nI y0.1.Dims.length),.v,.w,.e (.dslice ((y0.1.Dims.take ((aS (((y0.1.Dims.length:Nat):Int)-(if ((y1.1.Dims.length:Nat):Int)<((y0.1.Dims.length:Nat):Int) then ((y1.1.Dims.length:Nat):Int) else ((y0.1.Dims.length:Nat):Int)))).toNat)).map ah)),.v,.v,.v,.v,.e (nI y1.1.Dims.length),.v,.w,.e (.dslice ((y1.1.Dims.take ((aS (((y1.1.Dims.length:Nat):Int)-(if ((y1.1.Dims.length:Nat):Int)<((y0.1.Dims.length:Nat):Int) then ((y1.1.Dims.length:Nat):Int) else ((y0.1.Dims.length:Nat):Int)))).toNat)).map ah)),.v,.m]) [.v,.m]] [.only [0,4,5,6] [4,5,65,1000,1001,1002]] 4 [] (aT (aC (bo ah y0.1.Dims) (aC (show ((0:Int)≤0∧0≤(aS (((y0.1.Dims.length:Nat):Int)-(if ((y1.1.Dims.length:Nat):Int)<((y0.1.Dims.length:Nat):Int) then ((y1.1.Dims.length:Nat):Int) else ((y0.1.Dims.length:Nat):Int))))∧(aS (((y0.1.Dims.length:Nat):Int)-(if ((y1.1.Dims.length:Nat):Int)<((y0.1.Dims.length:Nat):Int) then ((y1.1.Dims.length:Nat):Int) else ((y0.1.Dims.length:Nat):Int))))≤((y0.1.Dims.map ah).length:Int))∧UL 2 (y0.1.Dims.map ah) from ⟨by first | omega | (simp only [Mt];omega),UL.map cP _⟩) (aC (wQ ah y0.1.Dims ((aS (((y0.1.Dims.length:Nat):Int)-(if ((y1.1.Dims.length:Nat):Int)<((y0.1.Dims.length:Nat):Int) then ((y1.1.Dims.length:Nat):Int) else ((y0.1.Dims.length:Nat):Int)))).toNat)) (aT (aC (bo ah y1.1.Dims) (aC (show ((0:Int)≤0∧0≤(aS (((y1.1.Dims.length:Nat):Int)-(if ((y1.1.Dims.length:Nat):Int)<((y0.1.Dims.length:Nat):Int) then ((y1.1.Dims.length:Nat):Int) else ((y0.1.Dims.length:Nat):Int))))∧(aS (((y1.1.Dims.length:Nat):Int)-(if ((y1.1.Dims.length:Nat):Int)<((y0.1.Dims.length:Nat):Int) then ((y1.1.Dims.length:Nat):Int) else ((y0.1.Dims.length:Nat):Int))))≤((y1.1.Dims.map ah).length:Int))∧UL 2 (y1.1.Dims.map ah) from ⟨by first | omega | (simp only [Mt];omega),UL.map cP _⟩) (aC (wQ ah y1.1.Dims ((aS (((y1.1.Dims.length:Nat):Int)-(if ((y1.1.Dims.length:Nat):Int)<((y0.1.Dims.length:Nat):Int) then ((y1.1.Dims.length:Nat):Int) else ((y0.1.Dims.length:Nat):Int)))).toNat)) aN)))))))) ?_;refine aL H14 fun v0 h6 H15 => ?_;refine cC 0 (eF x2 x3 y0 y1 u0 v0) (by kernel_rfl) ?_ ?_
    ·refine aU h6 (fun c6 H16 => ?_) (fun c7 H17 => ?_)
     ·obtain rfl:=sI H16;exact pB 1 [r0 [.v,.v,.e (iI (((y0.1.Dims.take ((aS (((y0.1.Dims.length:Nat):Int)-(if ((y1.1.Dims.length:Nat):Int)<((y0.1.Dims.length:Nat):Int) then ((y1.1.Dims.length:Nat):Int) else ((y0.1.Dims.length:Nat):Int)))).toNat)).length:Nat):Int)),.e bT,.v,.v,.v,.e (iI (((y1.1.Dims.take ((aS (((y1.1.Dims.length:Nat):Int)-(if ((y1.1.Dims.length:Nat):Int)<((y0.1.Dims.length:Nat):Int) then ((y1.1.Dims.length:Nat):Int) else ((y0.1.Dims.length:Nat):Int)))).toNat)).length:Nat):Int)),.v,.v]] [.only [0,4,5,6,95] [4,5,65,1000,1001,1002]] (eF x2 x3 y0 y1 u0 ((((y1.1.Dims.take ((aS (((y1.1.Dims.length:Nat):Int)-(if ((y1.1.Dims.length:Nat):Int)<((y0.1.Dims.length:Nat):Int) then ((y1.1.Dims.length:Nat):Int) else ((y0.1.Dims.length:Nat):Int)))).toNat)).length:Nat):Int)==0)) (aT (aC (bo ah (y0.1.Dims.take ((aS (((y0.1.Dims.length:Nat):Int)-(if ((y1.1.Dims.length:Nat):Int)<((y0.1.Dims.length:Nat):Int) then ((y1.1.Dims.length:Nat):Int) else ((y0.1.Dims.length:Nat):Int)))).toNat))) (aB c6 (aT (aC (bo ah (y1.1.Dims.take ((aS (((y1.1.Dims.length:Nat):Int)-(if ((y1.1.Dims.length:Nat):Int)<((y0.1.Dims.length:Nat):Int) then ((y1.1.Dims.length:Nat):Int) else ((y0.1.Dims.length:Nat):Int)))).toNat))) aN)))))
     ·obtain rfl:=sI H17;exact pB 1 [r0 [.v,.v,.e (iI (((y0.1.Dims.take ((aS (((y0.1.Dims.length:Nat):Int)-(if ((y1.1.Dims.length:Nat):Int)<((y0.1.Dims.length:Nat):Int) then ((y1.1.Dims.length:Nat):Int) else ((y0.1.Dims.length:Nat):Int)))).toNat)).length:Nat):Int)),.e bF,.v,.s,.s,.s,.s,.v]] [.only [0,4,5,6,95] [4,5,65,1000,1001,1002]] (eF x2 x3 y0 y1 u0 false) (aT (aC (bo ah (y0.1.Dims.take ((aS (((y0.1.Dims.length:Nat):Int)-(if ((y1.1.Dims.length:Nat):Int)<((y0.1.Dims.length:Nat):Int) then ((y1.1.Dims.length:Nat):Int) else ((y0.1.Dims.length:Nat):Int)))).toNat))) (aB c7 aN)))
    ·refine aU H15 (fun c8 H18 => ?_) (fun c9 H19 => ?_)
     ·refine aL H18 fun y2 h7 H20 => ?_;obtain rfl:=sI H20;exact pR 5 [.eqT 95 bT,r0 (V 5 [.hM [(1000,1000),(1001,1001),(1002,1002),(65,1003)] [] (iI y2) [(1000,.cells 95 [.amap 1001,.amap 1002,.rslice 1003]),(1001,.smap 0 9 (x2.map (aQ aZ))),(1002,.smap 0 34 (x3.map (aQ (iY aV)))),(1003,.row 98 4 (u0.map ay))],.v])] [.ren [(65,0),(1002,1),(1000,1000),(1001,1001)]] [0,1,1000,1001] (aB c8 (aC Tryz.call84 (aC (pj _ _ _ _ _ _ h7) aN)))
     ·refine pD 6 [.eqT 95 bF,.rg 0 [] [.v,.v,.e (.int .i64 (((y0.1.Dims.take ((aS (((y0.1.Dims.length:Nat):Int)-(if ((y1.1.Dims.length:Nat):Int)<((y0.1.Dims.length:Nat):Int) then ((y1.1.Dims.length:Nat):Int) else ((y0.1.Dims.length:Nat):Int)))).toNat)).length:Nat):Int)),.v]] [.only [0,4,5,6,105] [4,5,65,1000,1001,1002]] 5 [false] (aB c9 (aT (aC (bo ah (y0.1.Dims.take ((aS (((y0.1.Dims.length:Nat):Int)-(if ((y1.1.Dims.length:Nat):Int)<((y0.1.Dims.length:Nat):Int) then ((y1.1.Dims.length:Nat):Int) else ((y0.1.Dims.length:Nat):Int)))).toNat))) aN))) ?_;refine aL H19 fun v1 h8 H21 => ?_;refine cC 0 (eK x2 x3 u0 v1) (by kernel_rfl) ?_ ?_
      ·refine aU h8 (fun c10 H22 => ?_) (fun c11 H23 => ?_)
       ·obtain rfl:=sI H22;exact pB 3 [.eqT 105 bT,r0 [.v,.v,.m,.m]] [.only [0,4,5,6] [4,5,65,1000,1001,1002]] (eK x2 x3 u0 (y1.1.Row,(y1.1.Dims.take ((aS (((y1.1.Dims.length:Nat):Int)-(if ((y1.1.Dims.length:Nat):Int)<((y0.1.Dims.length:Nat):Int) then ((y1.1.Dims.length:Nat):Int) else ((y0.1.Dims.length:Nat):Int)))).toNat)),y0.1.Row,(y0.1.Dims.take ((aS (((y0.1.Dims.length:Nat):Int)-(if ((y1.1.Dims.length:Nat):Int)<((y0.1.Dims.length:Nat):Int) then ((y1.1.Dims.length:Nat):Int) else ((y0.1.Dims.length:Nat):Int)))).toNat)))) (aB c10 aN)
       ·obtain rfl:=sI H23;exact pB 3 [.eqT 105 bF] [.only [0,4,5,6] [4,5,65,1000,1001,1002]] (eK x2 x3 u0 (y0.1.Row,(y0.1.Dims.take ((aS (((y0.1.Dims.length:Nat):Int)-(if ((y1.1.Dims.length:Nat):Int)<((y0.1.Dims.length:Nat):Int) then ((y1.1.Dims.length:Nat):Int) else ((y0.1.Dims.length:Nat):Int)))).toNat)),y1.1.Row,(y1.1.Dims.take ((aS (((y1.1.Dims.length:Nat):Int)-(if ((y1.1.Dims.length:Nat):Int)<((y0.1.Dims.length:Nat):Int) then ((y1.1.Dims.length:Nat):Int) else ((y0.1.Dims.length:Nat):Int)))).toNat)))) (aB c11 aN)
      ·refine aU H21 (fun c12 H24 => ?_) (fun c13 H25 => ?_)
       ·obtain rfl:=sI H24;exact pR 7 [r0 [.v,.v,.e bT,.v,.s,.s,.s,.s,.s,.v],V1] [.ren [(65,0),(1002,1),(1000,1000),(1001,1001)]] [0,1,1000,1001] (aB c12 aN)
       ·refine aU H25 (fun c14 H26 => ?_) (fun c15 H27 => ?_)
        ·obtain rfl:=sI H26;exact pR 8 [r0 [.v,.v,.e bF,.v,.v,.v,.v,.v,.v,.v],.eqT 117 bT,V1] [.ren [(65,0),(1002,1),(1000,1000),(1001,1001)]] [0,1,1000,1001] (aB c13 (aB c14 aN))
        ·refine aL H27 fun y3 h9 H28 => ?_;refine aL H28 fun y4 h10 H29 => ?_;obtain rfl:=sI H29;exact pR 9 [r0 [.v,.v,.e bF,.v,.v,.v,.v,.v,.v,.v],.eqT 117 bF,.rg 9 (V 7 [.c true (dS ah y3),.b]) [.hM [(1000,1000),(1001,1001),(1002,1002),(65,1003)] [(0,900)] (iI y4.1) [(0,.smap 0 34 (y4.2.map (aQ (iY aV)))),(1000,.cells 95 [.amap 1001,.amap 0,.rslice 1003]),(1001,.smap 0 9 (x2.map (aQ aZ))),(1003,.row 98 4 (u0.map ay))],.v]] [.ren [(65,0),(900,1),(1000,1000),(1001,1001)]] [0,1,1000,1001] (aB c13 (aB c15 (aC Tryz.call86 (aF (oc _ _ h9) (aC Tryz.call85 (aC (pP _ _ _ _ _ _ h10) aN))))))
  ·obtain rfl:=sI H5;exact pR 5 [.eqT 26 bT,V2] [.ren [(1003,0),(1002,1),(1000,1000),(1001,1001)]] [0,1,1000,1001] (aM c3 aN)
 ·obtain rfl:=sI H2;exact pR 5 [.eqT 17 bT,V2] [.ren [(1003,0),(1002,1),(1000,1000),(1001,1001)]] [0,1,1000,1001] (aM c1 aN)
noncomputable def jr (x0:List aG):Option ((List (ak×ak))×(List (ak×Shape))×(List (Linear×Linear))×Int) :=
 (fA (σ:=((List (ak×Shape))×(List (Linear×Linear))×(List (ak×ak)))) (ε:=((List (Linear×Linear))×(List (ak×Shape))×(List (ak×ak)))) (ρ:=((List (ak×ak))×(List (ak×Shape))×(List (Linear×Linear))×Int)) (fun i0 s0 =>
  (bL (((x0.getD i0 ag).A).Elem) (((x0.getD i0 ag).B).Elem) s0.2.2 s0.1 s0.2.1).bind fun y0 =>
  bif (y0.1==0) then (
   (bG (Shape.mk ((((x0.getD i0 ag).A).Shape).Row) ((((x0.getD i0 ag).A).Shape).Dims)) (Shape.mk ((((x0.getD i0 ag).B).Shape).Row) ((((x0.getD i0 ag).B).Shape).Dims)) y0.2 s0.1 s0.2.1).bind fun y1 =>
   bif (y1.1==0) then (
    some (.go (y1.2.2,y1.2.1,y0.2))
   ) else (
    none
   )
  ) else (
   none
  )
 ) (fun i0 s0=>(s0.2.1,s0.1,s0.2.2)) (x0.length-0) 0 ([],[],[])).bind <| aft fun u0 =>
 some (u0.2.2,u0.2.1,u0.1,0)
def mW (x0:List aG) (i0:Nat) (s0:(List (ak×Shape))×(List (Linear×Linear))×(List (ak×ak))):AS:=⟨43,[(2,.lit (.pointer none)),(3,iI 0),(4,.hptr 12 0),(13,dS az x0),(14,nI x0.length),(15,nI i0)],[(9,.smap 0 9 (s0.2.2.map (aQ aZ))),(12,.cells 95 [.amap 9,.amap 902,.rslice 901]),(901,.row 98 4 (s0.2.1.map ay)),(902,.smap 0 34 (s0.1.map (aQ (iY aV))))]⟩
def ra (u1:(List (Linear×Linear))×(List (ak×Shape))×(List (ak×ak))):AS:=⟨43,[(2,.lit (.pointer none)),(3,iI 0),(4,.hptr 12 0)],[(9,.smap 0 9 (u1.2.2.map (aQ aZ))),(12,.cells 95 [.amap 9,.amap 902,.rslice 901]),(901,.row 98 4 (u1.1.map ay)),(902,.smap 0 34 (u1.2.1.map (aQ (iY aV))))]⟩
theorem yE (x0:List aG) (r:(List (ak×ak))×(List (ak×Shape))×(List (Linear×Linear))×Int) (H:jr x0=some r):bg Tryz.prog 20 [dS az x0] [] (fun r2 h0=>r2=(.tup [.hptr 12 0,iI r.2.2.2])∧h0=[(9,.smap 0 9 (r.1.map (aQ aZ))),(12,.cells 95 [.amap 9,.amap 902,.rslice 901]),(901,.row 98 4 (r.2.2.1.map ay)),(902,.smap 0 34 (r.2.1.map (aQ (iY aV))))]):=by
 unfold jr at H;refine aX Tryz.func20 43 [.tmp 2,.tmp 3] ?_;refine pA 8 [V2,r0 [.m,.m,.b,.m,.v],r0 [.v,.e (nI x0.length),.v]] [.erH 12 2 901 98 4,.ren [(9,9),(12,12),(901,901),(10,902)],.only [2,3,4,13,14,15] [9,12,901,902]] 8 [] (mW x0 0 ([],[],[])) (aT (aC (bo az x0) aN)) ?_;refine aL H fun R0 h1 H0 => ?_;refine pJ 1 (ra) R0 ?_ (fun u0 e0 => ?_)
 ·refine pC (mW x0) h1 (fun i0 s0 h2 e1 => ?_) (fun i0 s0 h3 q0 h4 h5 => ?_)
  ·have c0:=lF i0 x0.length (by omega);subst e1;exact pB 5 [r0 [.e bF]] [.only [2,3,4] [9,12,901,902]] (ra (s0.2.1,s0.1,s0.2.2)) (aB c0 aN)
  ·have c1:=lT i0 x0.length (by omega);refine aL h4 fun y0 h6 H1 => ?_;refine pD 14 [r0 [.e bT],r0 [.e (.dptr [.str (((x0.getD i0 ag).A).Elem),.str ((((x0.getD i0 ag).A).Shape).Row),.dslice (((((x0.getD i0 ag).A).Shape).Dims).map ah),.str (((x0.getD i0 ag).B).Elem),.str ((((x0.getD i0 ag).B).Shape).Row),.dslice (((((x0.getD i0 ag).B).Shape).Dims).map ah)]),.v,.m,.m],r0 (V 7 [.hM [(12,1000),(9,1001),(902,1002),(901,1003)] [] (iI y0.1) [(1000,.cells 95 [.amap 1001,.amap 1002,.rslice 1003]),(1001,.smap 0 9 (y0.2.map (aQ aZ))),(1002,.smap 0 34 (s0.1.map (aQ (iY aV)))),(1003,.row 98 4 (s0.2.1.map ay))],.v]),V2] [.only [2,3,4,6,7,13,14,15,28] [6,9,12,901,902]] 14 [true] (aB c1 (aI gv x0 i0 ag (aC Tryz.call42 (aC (iW _ _ _ _ _ _ h6) aN)))) ?_;refine aU H1 (fun c2 H2 => ?_) (fun c3 H3 => ?_)
   ·refine aL H2 fun y1 h7 H4 => ?_;refine pD 7 [.eqT 28 bF,r0 (V 7 [.hM [(12,1000),(9,1001),(902,1002),(901,1003)] [(0,900),(1,903)] (iI y1.1) [(0,.row 98 4 (y1.2.1.map ay)),(1,.smap 0 34 (y1.2.2.map (aQ (iY aV)))),(1000,.cells 95 [.amap 1001,.amap 1,.rslice 0]),(1001,.smap 0 9 (y0.2.map (aQ aZ)))],.v]),V2] [.only [2,3,4,8,13,14,15,39] [9,12,900,903]] 6 [false] (aM c2 (aC Tryz.call43 (aC (iH _ _ _ _ _ _ h7) aN))) ?_;refine aU H4 (fun c4 H5 => ?_) (fun c5 H6 => ?_)
    ·refine bK 13 (ps:=[(x0.map az).length≤9223372036854775807]) (by kernel_rfl) (fun l0 => ?_);have l1:x0.length≤9223372036854775807:=by simpa only [cq,Mt] using l0
     clear l0;obtain rfl:=sI H5;exact pB 4 [.eqT 39 bF,V2] [.ren [(9,9),(12,12),(900,901),(903,902)],.only [2,3,4,13,14,15] [9,12,901,902]] (mW x0 (i0+1) (y1.2.2,y1.2.1,y0.2)) (aM c4 (aH i0 aN))
    ·cases H6
   ·cases H3
 ·subst e0;have H7:=bB H0;obtain rfl:=sI H7;exact pR 3 [V3] [] [9,12,901,902] aN
end Go.Proofs.YtoebmibmmlcfiaaGreatDoor
