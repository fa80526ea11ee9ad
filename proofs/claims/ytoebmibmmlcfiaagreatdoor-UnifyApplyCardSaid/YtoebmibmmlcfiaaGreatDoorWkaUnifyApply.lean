/- What functions of the program compute, walked: each as a plain function, with the theorem that the code computes it wherever that answers. Printed by a program, part 1. -/
import Derived.Test.YtoebmibmmlcfiaaGreatDoorFrcUnifyApply
import Derived.KernelRfl
import Derived.Test.YtoebmibmmlcfiaaGreatDoorProg
set_option linter.unusedSimpArgs false
set_option linter.unusedVariables false
namespace Go.Proofs.YtoebmibmmlcfiaaGreatDoor
open Go.RowKit Go.Ab Go.Sh
theorem cB {a b:Bool} (h:a=b):AV.bool a=AV.bool b:=congrArg AV.bool h
theorem cN {a b:Bool} (h:a=b):AV.bool (!a)=AV.bool (!b):=congrArg (fun x=>AV.bool (!x)) h
theorem aC {p:Prop} {ps:List Prop} (h:p) (h2:bI ps):bI (p::ps):=all_cons h h2
theorem aN:bI []:=all_nil
theorem aT {ps:List Prop} (h2:bI ps):bI (True::ps):=all_cons trivial h2
theorem aB {a b:Bool} {ps:List Prop} (h:a=b) (h2:bI ps):bI ((AV.bool a=AV.bool b)::ps):=all_cons (cB h) h2
theorem aM {a b:Bool} {ps:List Prop} (h:a=b) (h2:bI ps):bI ((AV.bool (!a)=AV.bool (!b))::ps):=all_cons (cN h) h2
theorem aF {P:Program} {f:FuncId} {args:List AV} {v:AV} {ps:List Prop} (h:aW P f args v) (h2:bI ps):bI (bn P f args [] (fun r _=>r=v)::ps):=all_cons (aW.is h) h2
theorem pI (n:Nat) (h:n<9223372036854775807):tu (((n:Nat):Int)+1):=by unfold tu;omega
theorem lF (i n:Nat) (h:¬ i<n):decide (((i:Nat):Int)<((n:Nat):Int))=false:=Hn (by omega)
theorem lT (i n:Nat) (h:i<n):decide (((i:Nat):Int)<((n:Nat):Int))=true:=Ho (by omega)
def nI (n:Nat):AV:=.int .i64 ((n:Nat):Int)
def iI (n:Int):AV:=.int .i64 n
def dS {α:Type} (c:α→List AV) (x:List α):AV:=.dslice (x.map c)
def r0 (d:List rF):Sg:=.rg 0 [] d
abbrev bT:AV:=.bool true
abbrev bF:AV:=.bool false
section
variable {c:Code} {fs:List Fr} {s:AS} {Q:Exit→AS→Prop}
theorem pR (n:Nat) (sg:List Sg) (cs:List Cd) (ks:List Nat) {rs:List ResultVar} {v:AV} {h1:List (Nat×AO)} {ps:List Prop} (hp:bI ps) (h:FY Tryz.prog rs cs ks (path Tryz.prog n sg c fs s)=some (ps,v,h1):=by kernel_rfl):dP Tryz.prog c (bP Tryz.prog fs (EY Tryz.prog rs v h1)) s:=GO Tryz.mo n sg cs ks hp h
theorem pB (n:Nat) (sg:List Sg) (cs:List Cd) (S:AS) {ps:List Prop} (hp:bI ps) (h:Gb cs (path Tryz.prog n sg c fs s)=some (ps,S,S):=by kernel_rfl):dP Tryz.prog c (bP Tryz.prog fs Q) s:=GG Tryz.mo n sg cs S hp h
theorem pA (n:Nat) (sg:List Sg) (cs:List Cd) (m:Nat) (bs:List Bool) (S:AS) {ps:List Prop} (hp:bI ps) (ht:dP Tryz.prog (kQ m bs c fs).1 (bP Tryz.prog (kQ m bs c fs).2 Q) S)
 (h:Gi cs (path Tryz.prog n sg c fs s)=some (ps,(kQ m bs c fs).1,(kQ m bs c fs).2,S):=by kernel_rfl):dP Tryz.prog c (bP Tryz.prog fs Q) s:=GV Tryz.mo n sg cs m bs S hp h ht
def kS (x:Option (List Prop×Code×List Fr×AS)):AS:=match x with | some r=>r.2.2.2 | none=>⟨0,[],[]⟩
theorem pD (n:Nat) (sg:List Sg) (cs:List Cd) (m:Nat) (bs:List Bool) {ps:List Prop} (hp:bI ps) (ht:dP Tryz.prog (kQ m bs c fs).1 (bP Tryz.prog (kQ m bs c fs).2 Q) (kS (Gi cs (path Tryz.prog n sg c fs s))))
 (h:Gi cs (path Tryz.prog n sg c fs s)=some (ps,(kQ m bs c fs).1,(kQ m bs c fs).2,kS (Gi cs (path Tryz.prog n sg c fs s))):=by kernel_rfl):dP Tryz.prog c (bP Tryz.prog fs Q) s:=GV Tryz.mo n sg cs m bs _ hp h ht
theorem aX {f:FuncId} {fn:Func} {args:List AV} {h h1:List (Nat×AO)} {v:AV} (hf:Tryz.prog.funcs[f]? = some fn) (n:Nat) (rs:List ResultVar) (ht:dP Tryz.prog (vF fn) (bP Tryz.prog [] (EY Tryz.prog rs v h1)) ⟨n,nt args 0,h⟩)
 (hok:(sa fn&&Nat.beq fn.ntmps n&&Nat.ble args.length n)=true:=by kernel_rfl) (hrs:fn.results.toList=rs:=by kernel_rfl):bn Tryz.prog f args h (fun r h'=>r=v∧h'=h1):=FW hf n rs hok hrs ht
theorem pJ {ε ρ:Type} (k:Nat) (S:ε→AS) (R:Out ε ρ) (h1:dP Tryz.prog c (bP Tryz.prog (yU k (Gv S R) fs) Q) s) (h2:∀ e,R = .brk e→dP Tryz.prog (uN k fs) (bP Tryz.prog (fs.drop (k+1)) Q) (S e)) (hk:sj k fs=true:=by kernel_rfl):dP Tryz.prog c (bP Tryz.prog fs Q) s:=E4 k S R hk h1 h2
theorem pC {σ ε ρ:Type} {body:Nat→σ→Option (kg σ ε ρ)} {fin:Nat→σ→ε} {N i0:Nat} {st0:σ} {R:Out ε ρ} (S:Nat→σ→AS) (H:dF body fin (N-i0) i0 st0=some R)
 (zero:∀ i st,N≤i→R = .brk (fin i st)→dP Tryz.prog (nH c) (bP Tryz.prog (.bar dead::fs) Q) (S i st))
 (succ:∀ i st,i<N→∀ q,body i st=some q→tr q R→dP Tryz.prog (nH c) (bP Tryz.prog (.bar (Hc (S (i+1)) q)::fs) Q) (S i st)) (hc:xM c=true:=by kernel_rfl):dP Tryz.prog c (bP Tryz.prog fs Q) (S i0 st0):=GH S hc H zero succ
end
theorem aO (n:Int) {ps:List Prop} (h2:bI ps) (h:tu n:=by unfold tu;omega):bI (tu n::ps):=all_cons h h2
theorem aI {α:Type} {f:α→List AV} {sz:Nat} (hf:∀ x,(f x).length=sz) (l:List α) (n:Nat) (d:α) {ps:List Prop} (h2:bI ps) (h:n<l.length:=by omega) (h0:0<sz:=by decide) :
 bI ((((0:Int)≤(n:Int)∧(n:Int)<((l.map f).length:Int))∧(((l.map f).getD (n:Int).toNat []).length=sz∧0<sz))::(AV.dptr ((l.map f).getD (n:Int).toNat []) = .dptr (f (l.getD n d)))::ps):=a8 (ix d hf h0 h) h2
theorem aH (n:Nat) {ps:List Prop} (h2:bI ps) (h:n<9223372036854775807:=by omega):bI (tu (((n:Nat):Int)+1)::ps):=all_cons (pI n h) h2
def V:Nat→List rF→List rF
 | 0,l=>l
 | n+1,l=>.v::V n l
def V1:Sg:=r0 [.v]
def V2:Sg:=r0 [.v,.v]
def V3:Sg:=r0 [.v,.v,.v]
def V4:Sg:=r0 (V 4 [])
def V5:Sg:=r0 (V 5 [])
def V6:Sg:=r0 (V 6 [])
theorem sI {α:Type} {x r:α} (h:some x=some r):x=r:=Ht h
theorem mo:Tryz.prog.follows .mixedOrders=true:=Tryz.mo
structure ay where
 Var:aq
 C:Int
 deriving DecidableEq
def ai (x:ay):List AV:=[.str x.Var,.int .i64 x.C]
theorem bE (x:ay):(ai x).length=2:=rfl
theorem iG (x:ay):(ai x).length=2∧(ai x).all (fun v=>v.one&&v.fl)=true:=⟨rfl,rfl⟩
structure Linear where
 Const:Int
 Terms:(List ay)
 deriving DecidableEq
def ae (x:Linear):List AV:=[.int .i64 x.Const,.dslice (x.Terms.map ai)]
theorem bA (x:Linear):(ae x).length=2:=rfl
theorem fF (x:Linear):(ae x).length=2∧(ae x).all (fun v=>v.one&&v.fl)=true:=⟨rfl,rfl⟩
structure Shape where
 Row:aq
 Dims:(List Linear)
 deriving DecidableEq
def aY (x:Shape):List AV:=[.str x.Row,.dslice (x.Dims.map ae)]
theorem F6 (x:Shape):(aY x).length=2:=rfl
theorem CD (x:Shape):(aY x).length=2∧(aY x).all (fun v=>v.one&&v.fl)=true:=⟨rfl,rfl⟩
structure bQ where
 Elem:aq
 Shape:Shape
 deriving DecidableEq
def vn (x:bQ):List AV:=[.str x.Elem,.str x.Shape.Row,.dslice (x.Shape.Dims.map ae)]
theorem Dw (x:bQ):(vn x).length=3:=rfl
theorem G2 (x:bQ):(vn x).length=3∧(vn x).all (fun v=>v.one&&v.fl)=true:=⟨rfl,rfl⟩
structure ah where
 A:bQ
 B:bQ
 deriving DecidableEq
def ag (x:ah):List AV:=[.str x.A.Elem,.str x.A.Shape.Row,.dslice (x.A.Shape.Dims.map ae),.str x.B.Elem,.str x.B.Shape.Row,.dslice (x.B.Shape.Dims.map ae)]
theorem aS (x:ah):(ag x).length=6:=rfl
theorem nE (x:ah):(ag x).length=6∧(ag x).all (fun v=>v.one&&v.fl)=true:=⟨rfl,rfl⟩
structure Bind where
 Kind:Int
 Var:aq
 Dim:Linear
 Row:Shape
 Elem:aq
 deriving DecidableEq
def al (x:Bind):List AV:=[.int .i64 x.Kind,.str x.Var,.int .i64 x.Dim.Const,.dslice (x.Dim.Terms.map ai),.str x.Row.Row,.dslice (x.Row.Dims.map ae),.str x.Elem]
theorem aQ (x:Bind):(al x).length=7:=rfl
theorem gw (x:Bind):(al x).length=7∧(al x).all (fun v=>v.one&&v.fl)=true:=⟨rfl,rfl⟩
def aZ (x:aq):List AV:=[.str x]
theorem rR (x:aq):(aZ x).length=1:=rfl
theorem oo (x:aq):(aZ x).length=1∧(aZ x).all (fun v=>v.one&&v.fl)=true:=⟨rfl,rfl⟩
def au (x:Int):List AV:=[.int .i64 x]
theorem yg (x:Int):(au x).length=1:=rfl
theorem qh (x:Int):(au x).length=1∧(au x).all (fun v=>v.one&&v.fl)=true:=⟨rfl,rfl⟩
def xx (x:UInt8):List AV:=[.int .u8 ((x).toNat:Int)]
theorem CJ (x:UInt8):(xx x).length=1:=rfl
theorem GX (x:UInt8):(xx x).length=1∧(xx x).all (fun v=>v.one&&v.fl)=true:=⟨rfl,rfl⟩
abbrev aw:ay:=⟨[],0⟩
abbrev ax:Linear:=⟨0,[]⟩
abbrev sH:Shape:=⟨[],[]⟩
abbrev AG:bQ:=⟨[],sH⟩
abbrev aa:ah:=⟨AG,AG⟩
abbrev ak:Bind:=⟨0,[],ax,sH,[]⟩
def az (x:(Linear×Linear)):List AV:=[.int .i64 x.1.Const,.dslice (x.1.Terms.map ai),.int .i64 x.2.Const,.dslice (x.2.Terms.map ai)]
theorem tV (x:(Linear×Linear)):(az x).length=4:=rfl
theorem vo (x:(Linear×Linear)):(az x).length=4∧(az x).all (fun v=>v.one&&v.fl)=true:=⟨rfl,rfl⟩
structure aV where
 Mults:(List Int)
 Mod:Int
 deriving DecidableEq
def fg (x:aV):List AV:=[.dslice (x.Mults.map au),.int .i64 x.Mod]
theorem wg (x:aV):(fg x).length=2:=rfl
theorem wh (x:aV):(fg x).length=2∧(fg x).all (fun v=>v.one&&v.fl)=true:=⟨rfl,rfl⟩
def mC (x:Bool):List AV:=[.bool x]
theorem Gn (x:Bool):(mC x).length=1:=rfl
theorem Ek (x:Bool):(mC x).length=1∧(mC x).all (fun v=>v.one&&v.fl)=true:=⟨rfl,rfl⟩
structure ao where
 q:Linear
 mults:(List (Int×Int))
 scale:Int
 lost:Bool
 deriving DecidableEq
def aj (x:ao):List AV:=[.int .i64 x.q.Const,.dslice (x.q.Terms.map ai),.dmap (x.mults.map (r7 au)),.int .i64 x.scale,.bool x.lost]
theorem AM (x:ao):(aj x).length=5:=rfl
theorem rK (x:ao):(aj x).length=5∧(aj x).all (fun v=>v.one&&v.fl)=true:=⟨rfl,rfl⟩
abbrev ab:ao:=⟨ax,[],0,false⟩
def strings_IndexByte (x0:aq) (x1:UInt8):Option Int :=
 (ng x0 x1).bind fun y0 =>
 some y0
theorem qA (x0:aq) (x1:UInt8) (r:Int) (H:strings_IndexByte x0 x1=some r):aW Tryz.prog 71 [.str x0,.int .u8 ((x1).toNat:Int)] (iI r):=by unfold strings_IndexByte at H;refine aX Tryz.func71 8 [.tmp 4] ?_;refine aD H fun y0 h0 H0 => ?_;refine bc H0 fun e0 => ?_;subst e0;exact pR 5 [V1,r0 [.v,.v,.c true (iI y0),.v]] [] [] (aC Tryz.call132 (aF (tP x0 x1 y0 h0) aN))
def bG (x0 x1:aq):Option Bool :=
 bif decide (((x0.length:Nat):Int)≥((x1.length:Nat):Int)) then (
  cb (x1.length≤x0.length) <|
  some ((x0.take x1.length)==x1)
 ) else (
  some false
 )
theorem cm (x0 x1:aq) (r:Bool) (H:bG x0 x1=some r):aW Tryz.prog 187 [.str x0,.str x1] (.bool r):=by
 unfold bG at H;refine aX Tryz.func187 18 [.tmp 4] ?_;refine aK H (fun c0 H0 => ?_) (fun c1 H1 => ?_)
 ·have c0p:=Hm c0;refine aP H0 fun g0 H2 => ?_;obtain rfl:=sI H2;exact pR 5 [V1,r0 (V 4 [.e bT,.v,.v,.v,.v,.e (.str (x0.take x1.length)),.v,.v,.v,.v])] [] [] (aT (aT (aB c0 (aT (aC (show (0:Int)≤0∧0≤((x1.length:Nat):Int)∧((x1.length:Nat):Int)≤(x0.length:Int) from by omega) (aC (qq x0 x1.length) aN))))))
 ·obtain rfl:=sI H1;exact pR 5 [V1,r0 (V 4 [.e bF,.v,.s,.s,.s,.s,.s,.s,.v,.v])] [] [] (aT (aT (aB c1 aN)))
def cK (x0 x1:aq):Option (aq×Bool) :=
 (bG x0 x1).bind fun y0 =>
 bif y0 then (
  cb (x1.length≤x0.length) <|
  some ((x0.drop x1.length),true)
 ) else (
  some (x0,false)
 )
theorem iC (x0 x1:aq) (r:aq×Bool) (H:cK x0 x1=some r):aW Tryz.prog 140 [.str x0,.str x1] (.tup [.str r.1,.bool r.2]):=by
 unfold cK at H;refine aX Tryz.func140 15 [.tmp 4,.tmp 5] ?_;refine aD H fun y0 h0 H0 => ?_;refine aK H0 (fun c0 H1 => ?_) (fun c1 H2 => ?_)
 ·refine aP H1 fun g0 H3 => ?_;obtain rfl:=sI H3;exact pR 11 [V2,r0 [.v,.v,.c true (.bool y0),.v],.eqT 9 bF,r0 [.v,.v,.v,.e (.str (x0.drop x1.length)),.v,.v]] [] [] (aC Tryz.call187 (aF (cm _ _ _ h0) (aT (aM c0 (aT (aC (show (0:Int)≤((x1.length:Nat):Int)∧((x1.length:Nat):Int)≤(x0.length:Int)∧(x0.length:Int)≤(x0.length:Int) from by omega) (aC (kz x0 x1.length) aN)))))))
 ·obtain rfl:=sI H2;exact pR 10 [V2,r0 [.v,.v,.c true (.bool y0),.v],.eqT 9 bT,V3] [] [] (aC Tryz.call187 (aF (cm _ _ _ h0) (aT (aM c1 aN))))
def strings_CutPrefix (x0 x1:aq):Option (aq×Bool) :=
 (cK x0 x1).bind fun y0 =>
 some (y0.1,y0.2)
theorem kl (x0 x1:aq) (r:aq×Bool) (H:strings_CutPrefix x0 x1=some r):aW Tryz.prog 80 [.str x0,.str x1] (.tup [.str r.1,.bool r.2]):=by unfold strings_CutPrefix at H;refine aX Tryz.func80 11 [.tmp 4,.tmp 5] ?_;refine aD H fun y0 h0 H0 => ?_;obtain rfl:=sI H0;exact pR 5 [V2,r0 [.v,.v,.c true (.tup [.str y0.1,.bool y0.2]),.v,.v,.v,.v]] [] [] (aC Tryz.call140 (aF (iC _ _ _ h0) aN))
def bO (x0 x1:aq):Option Bool :=
 bif decide (((x0.length:Nat):Int)≥((x1.length:Nat):Int)) then (
  cb (0≤(bg (((x0.length:Nat):Int)-((x1.length:Nat):Int)))∧(bg (((x0.length:Nat):Int)-((x1.length:Nat):Int)))≤(x0.length:Int)) <|
  some ((x0.drop ((bg (((x0.length:Nat):Int)-((x1.length:Nat):Int))).toNat))==x1)
 ) else (
  some false
 )
theorem ck (x0 x1:aq) (r:Bool) (H:bO x0 x1=some r):aW Tryz.prog 208 [.str x0,.str x1] (.bool r):=by
 unfold bO at H;refine aX Tryz.func208 21 [.tmp 4] ?_;refine aK H (fun c0 H0 => ?_) (fun c1 H1 => ?_)
 ·have c0p:=Hm c0;refine aP H0 fun g0 H2 => ?_;obtain rfl:=sI H2;exact pR 5 [V1,r0 (V 4 [.e bT,.v,.v,.v,.v,.v,.v,.w,.e (.str (x0.drop ((bg (((x0.length:Nat):Int)-((x1.length:Nat):Int))).toNat))),.v,.v,.v,.v])] [] [] (aT (aT (aB c0 (aT (aT (aC (show (0:Int)≤(bg (((x0.length:Nat):Int)-((x1.length:Nat):Int)))∧(bg (((x0.length:Nat):Int)-((x1.length:Nat):Int)))≤(x0.length:Int)∧(x0.length:Int)≤(x0.length:Int) from by omega) (aC (kz x0 ((bg (((x0.length:Nat):Int)-((x1.length:Nat):Int))).toNat)) aN)))))))
 ·obtain rfl:=sI H1;exact pR 5 [V1,r0 (V 4 [.e bF,.v,.s,.s,.s,.s,.s,.s,.s,.s,.s,.v,.v])] [] [] (aT (aT (aB c1 aN)))
def cF (x0 x1:aq):Option (aq×Bool) :=
 (bO x0 x1).bind fun y0 =>
 bif y0 then (
  cb (0≤(bg (((x0.length:Nat):Int)-((x1.length:Nat):Int)))∧(bg (((x0.length:Nat):Int)-((x1.length:Nat):Int)))≤(x0.length:Int)) <|
  some ((x0.take ((bg (((x0.length:Nat):Int)-((x1.length:Nat):Int))).toNat)),true)
 ) else (
  some (x0,false)
 )
theorem iw (x0 x1:aq) (r:aq×Bool) (H:cF x0 x1=some r):aW Tryz.prog 173 [.str x0,.str x1] (.tup [.str r.1,.bool r.2]):=by
 unfold cF at H;refine aX Tryz.func173 18 [.tmp 4,.tmp 5] ?_;refine aD H fun y0 h0 H0 => ?_;refine aK H0 (fun c0 H1 => ?_) (fun c1 H2 => ?_)
 ·refine aP H1 fun g0 H3 => ?_;obtain rfl:=sI H3;exact pR 11 [V2,r0 [.v,.v,.c true (.bool y0),.v],.eqT 9 bF,r0 (V 5 [.w,.e (.str (x0.take ((bg (((x0.length:Nat):Int)-((x1.length:Nat):Int))).toNat))),.v,.v])] [] [] (aC Tryz.call208 (aF (ck _ _ _ h0) (aT (aM c0 (aT (aT (aC (show (0:Int)≤0∧0≤(bg (((x0.length:Nat):Int)-((x1.length:Nat):Int)))∧(bg (((x0.length:Nat):Int)-((x1.length:Nat):Int)))≤(x0.length:Int) from by omega) (aC (qq x0 ((bg (((x0.length:Nat):Int)-((x1.length:Nat):Int))).toNat)) aN))))))))
 ·obtain rfl:=sI H2;exact pR 10 [V2,r0 [.v,.v,.c true (.bool y0),.v],.eqT 9 bT,V3] [] [] (aC Tryz.call208 (aF (ck _ _ _ h0) (aT (aM c1 aN))))
def strings_CutSuffix (x0 x1:aq):Option (aq×Bool) :=
 (cF x0 x1).bind fun y0 =>
 some (y0.1,y0.2)
theorem kh (x0 x1:aq) (r:aq×Bool) (H:strings_CutSuffix x0 x1=some r):aW Tryz.prog 133 [.str x0,.str x1] (.tup [.str r.1,.bool r.2]):=by unfold strings_CutSuffix at H;refine aX Tryz.func133 11 [.tmp 4,.tmp 5] ?_;refine aD H fun y0 h0 H0 => ?_;obtain rfl:=sI H0;exact pR 5 [V2,r0 [.v,.v,.c true (.tup [.str y0.1,.bool y0.2]),.v,.v,.v,.v]] [] [] (aC Tryz.call173 (aF (iw _ _ _ h0) aN))
def strings_trimLeftByte (x0:aq) (x1:UInt8):Option aq :=
 (xv (σ:=aq) (ε:=aq) (ρ:=Empty) (fun s0 =>
  bif decide (((s0.length:Nat):Int)>0) then (
   bif (((s0.getD 0 0).toNat:Int)==((x1).toNat:Int)) then (
    cb (1≤s0.length) <|
    some (.go (s0.drop 1))
   ) else (
    some (.brk s0)
   )
  ) else (
   some (.brk s0)
  )
 ) 4294967296 x0).bind <| dq fun u0 =>
 some u0
def eF (x1:UInt8) (s0:aq):AS:=⟨17,[(0,.str s0),(1,.int .u8 ((x1).toNat:Int)),(4,.str [])],[]⟩
def eD (u1:aq):AS:=⟨17,[(0,.str u1),(4,.str [])],[]⟩
theorem oE (x0:aq) (x1:UInt8) (r:aq) (H:strings_trimLeftByte x0 x1=some r):aW Tryz.prog 180 [.str x0,.int .u8 ((x1).toNat:Int)] (.str r):=by
 unfold strings_trimLeftByte at H;refine aX Tryz.func180 17 [.tmp 4] ?_;refine pA 4 [V1] [.only [0,1,4] []] 4 [] (eF x1 x0) aN ?_;refine aD H fun R0 h0 H0 => ?_;refine pJ 1 (eD) R0 ?_ (fun u0 e0 => ?_)
 ·refine nG (eF x1) (by kernel_rfl) h0 (fun s0 q0 h1 h2 => ?_)
  ·refine aK h1 (fun c0 H1 => ?_) (fun c1 H2 => ?_)
   ·have c0p:=Hm c0;refine aK H1 (fun c2 H3 => ?_) (fun c3 H4 => ?_)
    ·refine aP H3 fun g0 H5 => ?_;obtain rfl:=sI H5;exact pB 8 [r0 [.v,.v,.e bT,.v,.v,.v,.v,.v,.v],.eqT 13 bT,r0 [.v,.e (.str (s0.drop 1)),.v]] [.only [0,1,4] []] (eF x1 (s0.drop 1)) (aT (aB c0 (aC (show (0:Int)≤0∧0<(s0.length:Int) from by omega) (aB c2 (aC (show (0:Int)≤1∧1≤(s0.length:Int)∧(s0.length:Int)≤(s0.length:Int) from by omega) (aC (kz s0 1) aN))))))
    ·obtain rfl:=sI H4;obtain rfl:=fy h2;exact pB 6 [r0 [.v,.v,.e bT,.v,.v,.v,.v,.v,.v],.eqT 13 bF] [.only [0,4] []] (eD s0) (aT (aB c0 (aC (show (0:Int)≤0∧0<(s0.length:Int) from by omega) (aB c3 aN))))
   ·obtain rfl:=sI H2;obtain rfl:=fy h2;exact pB 5 [r0 [.v,.v,.e bF,.v,.s,.s,.s,.s,.v]] [.only [0,4] []] (eD s0) (aT (aB c1 aN))
 ·subst e0;have H6:=a7 H0;refine bc H6 fun e1 => ?_;subst e1;exact pR 3 [V2] [] [] aN
def fT (x0 x1:aq):Option aq :=
 bif (x0==[]) then (
  some x0
 ) else (
  bif (x1==[]) then (
   none
  ) else (
   bif (((x1.length:Nat):Int)==1) then (
    cb (0<x1.length) <|
    bif decide (((x1.getD 0 0).toNat:Int)<128) then (
     (strings_trimLeftByte x0 (x1.getD 0 0)).bind fun y0 =>
     some y0
    ) else (
     none
    )
   ) else (
    none
   )
  )
 )
theorem lS (x0 x1 r:aq) (H:fT x0 x1=some r):aW Tryz.prog 215 [.str x0,.str x1] (.str r):=by
 unfold fT at H;refine aX Tryz.func215 37 [.tmp 4] ?_;refine aK H (fun c0 H0 => ?_) (fun c1 H1 => ?_)
 ·refine bc H0 fun e0 => ?_;subst e0;exact pR 9 [V1,r0 [.v,.e bT,.v,.s,.s,.v],V2] [] [] (aB c0 aN)
 ·refine aK H1 (fun c2 H2 => ?_) (fun c3 H3 => ?_)
  ·cases H2
  ·refine aK H3 (fun c4 H4 => ?_) (fun c5 H5 => ?_)
   ·refine aP H4 fun g0 H6 => ?_;refine aK H6 (fun c6 H7 => ?_) (fun c7 H8 => ?_)
    ·have c6p:=Hm c6;refine aD H7 fun y0 h0 H9 => ?_;refine bc H9 fun e1 => ?_;subst e1;exact pR 16 [V1,r0 [.v,.e bF,.v,.v,.v,.v],.eqT 12 bF,r0 [.v,.v,.e bT,.v,.v,.v,.v,.v],.eqT 21 bT,r0 [.v,.v,.v,.c true (.str y0),.v]] [] [] (aB c1 (aB c3 (aT (aB c4 (aC (show (0:Int)≤0∧0<(x1.length:Int) from by omega) (aB c6 (aC (show (0:Int)≤0∧0<(x1.length:Int) from by omega) (aC Tryz.call180 (aF (oE _ _ _ h0) aN)))))))))
    ·cases H8
   ·cases H5
def cU (x0:aq) (x1:Int) (x2:List (aq×Int)):Option aq :=
 (fT x0 [32]).bind fun y0 =>
 some y0
theorem eT (x0:aq) (x1:Int) (x2:List (aq×Int)) (r:aq) (H:cU x0 x1 x2=some r):bn Tryz.prog 176 [.hptr 1000 0] [(1000,.cells 217 [.str x0,iI x1,.amap 1001]),(1001,.smap 0 3 (x2.map (aJ au)))] (fun r2 h0=>r2=(.tup [])∧h0=[(1000,.cells 217 [.str r,iI x1,.amap 1001]),(1001,.smap 0 3 (x2.map (aJ au)))]):=by unfold cU at H;refine aX Tryz.func176 10 [] ?_;refine aD H fun y0 h1 H0 => ?_;refine bc H0 fun e0 => ?_;subst e0;exact pR 1 [r0 (V 5 [.c true (.str y0),.v,.v,.m])] [] [1000,1001] (aC Tryz.call215 (aF (lS _ _ _ h1) aN))
def strings_HasPrefix (x0 x1:aq):Option Bool :=
 (bG x0 x1).bind fun y0 =>
 some y0
theorem da (x0 x1:aq) (r:Bool) (H:strings_HasPrefix x0 x1=some r):aW Tryz.prog 144 [.str x0,.str x1] (.bool r):=by unfold strings_HasPrefix at H;refine aX Tryz.func144 8 [.tmp 4] ?_;refine aD H fun y0 h0 H0 => ?_;refine bc H0 fun e0 => ?_;subst e0;exact pR 5 [V1,r0 [.v,.v,.c true (.bool y0),.v]] [] [] (aC Tryz.call187 (aF (cm _ _ _ h0) aN))
def gN (x0:aq) (x1:Int) (x2:List (aq×Int)):Option (Int×Bool) :=
 (dF (σ:=Unit) (ε:=Unit) (ρ:=Empty) (fun i0 s0 =>
  (strings_HasPrefix x0 ([[43],[45]].getD i0 [])).bind fun y0 =>
  bif y0 then (
   none
  ) else (
   some (.go ())
  )
 ) (fun i0 s0=>()) (2-0) 0 ()).bind <| dq fun u0 =>
 some (1,false)
def fp (x0:aq) (x1:Int) (x2:List (aq×Int)) (i0:Nat) (s0:Unit):AS:=⟨29,[(0,.hptr 1000 0),(2,iI 0),(3,.bool false),(6,.agg [.str [43],.str [45]]),(7,nI i0)],[(1000,.cells 217 [.str x0,iI x1,.amap 1001]),(1001,.smap 0 3 (x2.map (aJ au)))]⟩
def iP (x0:aq) (x1:Int) (x2:List (aq×Int)) (u1:Unit):AS:=⟨29,[(2,iI 0),(3,.bool false)],[(1000,.cells 217 [.str x0,iI x1,.amap 1001]),(1001,.smap 0 3 (x2.map (aJ au)))]⟩
theorem o2 (x0:aq) (x1:Int) (x2:List (aq×Int)) (r:Int×Bool) (H:gN x0 x1 x2=some r):bn Tryz.prog 177 [.hptr 1000 0] [(1000,.cells 217 [.str x0,iI x1,.amap 1001]),(1001,.smap 0 3 (x2.map (aJ au)))] (fun r2 h0=>r2=(.tup [iI r.1,.bool r.2])∧h0=[(1000,.cells 217 [.str x0,iI x1,.amap 1001]),(1001,.smap 0 3 (x2.map (aJ au)))]):=by
 unfold gN at H;refine aX Tryz.func177 29 [.tmp 2,.tmp 3] ?_;refine pA 6 [V2,r0 [.b,.v]] [.only [0,2,3,6,7] [1000,1001]] 6 [] (fp x0 x1 x2 0 ()) aN ?_;refine aD H fun R0 h1 H0 => ?_;refine pJ 1 (iP x0 x1 x2) R0 ?_ (fun u0 e0 => ?_)
 ·refine pC (fp x0 x1 x2) h1 (fun i0 s0 h2 e1 => ?_) (fun i0 s0 h3 q0 h4 h5 => ?_)
  ·have c0:decide (((i0:Nat):Int)<2)=false:=Hn (by omega);subst e1;exact pB 5 [r0 [.e bF]] [.only [2,3] [1000,1001]] (iP x0 x1 x2 ()) (aB c0 aN)
  ·have c1:decide (((i0:Nat):Int)<2)=true:=Ho (by omega);refine aD h4 fun y0 h6 H1 => ?_;refine pD 11 [r0 [.e bT],r0 [.v,.we (.str ([[43],[45]].getD i0 [])),.v,.v],r0 (V 5 [.c true (.bool y0)])] [.only [0,2,3,4,6,7,16] [1000,1001]] 11 [true] (aB c1 (aC (show (0:Int)≤((i0:Nat):Int)∧((i0:Nat):Int)<(2:Int)∧((i0:Nat):Int)<(2:Int) from by omega) (aC (Ge [[43],[45]] i0 (by omega)) (aC Tryz.call144 (aF (da _ _ _ h6) aN))))) ?_;refine aK H1 (fun c2 H2 => ?_) (fun c3 H3 => ?_)
   ·cases H2
   ·obtain rfl:=sI H3;exact pB 4 [.eqT 16 bF,V2] [.only [0,2,3,6,7] [1000,1001]] (fp x0 x1 x2 (i0+1) ()) (aB c3 (aH i0 aN))
 ·subst e0;have H4:=a7 H0;obtain rfl:=sI H4;exact pR 3 [V2] [] [1000,1001] aN
def kx (x0:UInt8):Option Bool :=
 bif decide (((x0).toNat:Int)≥48) then (
  some (decide (((x0).toNat:Int)≤57))
 ) else (
  none
 )
theorem mc (x0:UInt8) (r:Bool) (H:kx x0=some r):aW Tryz.prog 212 [.int .u8 ((x0).toNat:Int)] (.bool r):=by
 unfold kx at H;refine aX Tryz.func212 9 [.tmp 2] ?_;refine aK H (fun c0 H0 => ?_) (fun c1 H1 => ?_)
 ·obtain rfl:=sI H0;exact pR 5 [V1,r0 [.v,.e bT,.v,.v,.v,.v,.v]] [] [] (aB c0 aN)
 ·cases H1
def nh (x0:UInt8):Option Bool :=
 bif decide (((x0).toNat:Int)≥97) then (
  bif decide (((x0).toNat:Int)≤122) then (
   some true
  ) else (
   none
  )
 ) else (
  none
 )
theorem ui (x0:UInt8) (r:Bool) (H:nh x0=some r):aW Tryz.prog 216 [.int .u8 ((x0).toNat:Int)] (.bool r):=by
 unfold nh at H;refine aX Tryz.func216 17 [.tmp 2] ?_;refine aK H (fun c0 H0 => ?_) (fun c1 H1 => ?_)
 ·refine aK H0 (fun c2 H2 => ?_) (fun c3 H3 => ?_)
  ·obtain rfl:=sI H2;exact pR 5 [V1,r0 [.v,.e bT,.v,.v,.e bT,.v,.v,.s,.s,.v,.v,.s,.s,.v,.v]] [] [] (aB c0 (aB c2 aN))
  ·cases H3
 ·cases H1
def gR (x0:aq) (x1:Int) (x2:List (aq×Int)):Option (aq×aq) :=
 (dF (σ:=Unit) (ε:=Nat) (ρ:=Empty) (fun i0 s0 =>
  (nh (x0.getD i0 0)).bind fun y0 =>
  bif y0 then (
   some (.go ())
  ) else (
   none
  )
 ) (fun i0 s0=>i0) (x0.length-0) 0 ()).bind <| dq fun u0 =>
 cb (u0≤x0.length) <|
 some ((x0.take u0),(x0.drop u0))
def fk (x0:aq) (x1:Int) (x2:List (aq×Int)) (i0:Nat) (s0:Unit):AS:=⟨42,[(0,.hptr 1000 0),(1,.fn 216 []),(4,.str []),(5,nI i0)],[(1000,.cells 217 [.str x0,iI x1,.amap 1001]),(1001,.smap 0 3 (x2.map (aJ au)))]⟩
def iR (x0:aq) (x1:Int) (x2:List (aq×Int)) (u1:Nat):AS:=⟨42,[(0,.hptr 1000 0),(4,.str []),(5,nI u1)],[(1000,.cells 217 [.str x0,iI x1,.amap 1001]),(1001,.smap 0 3 (x2.map (aJ au)))]⟩
theorem qm (x0:aq) (x1:Int) (x2:List (aq×Int)) (r:aq×aq) (H:gR x0 x1 x2=some r):bn Tryz.prog 249 [.hptr 1000 0,.fn 216 []] [(1000,.cells 217 [.str x0,iI x1,.amap 1001]),(1001,.smap 0 3 (x2.map (aJ au)))] (fun r2 h0=>r2=(.str r.1)∧h0=[(1000,.cells 217 [.str r.2,iI x1,.amap 1001]),(1001,.smap 0 3 (x2.map (aJ au)))]):=by
 unfold gR at H;refine aX Tryz.func249 42 [.tmp 4] ?_;refine pA 6 [V1,V1] [.only [0,1,4,5] [1000,1001]] 6 [] (fk x0 x1 x2 0 ()) aN ?_;refine aD H fun R0 h1 H0 => ?_;refine pJ 1 (iR x0 x1 x2) R0 ?_ (fun u0 e0 => ?_)
 ·refine pC (fk x0 x1 x2) h1 (fun i0 s0 h2 e1 => ?_) (fun i0 s0 h3 q0 h4 h5 => ?_)
  ·have c0:=lF i0 x0.length (by omega);subst e1;exact pB 5 [r0 (V 6 [.e bF,.v,.s,.s,.s,.s,.s,.s,.s,.s,.v])] [.only [0,4,5] [1000,1001]] (iR x0 x1 x2 i0) (aT (aB c0 aN))
  ·have c1:=lT i0 x0.length (by omega);refine aD h4 fun y0 h6 H1 => ?_;refine aK H1 (fun c2 H2 => ?_) (fun c3 H3 => ?_)
   ·refine gB 1000 0 (ps:=[x0.length≤9223372036854775807]) (by kernel_rfl) (fun l0 => ?_);have l1:x0.length≤9223372036854775807:=by simpa only [bI,Hp] using l0
    clear l0;obtain rfl:=sI H2;exact pB 8 [r0 (V 6 [.e bT,.v,.v,.v,.v,.v,.v,.v,.v,.c true (.bool y0),.v]),.eqT 23 bT,V3] [.only [0,1,4,5] [1000,1001]] (fk x0 x1 x2 (i0+1) ()) (aT (aB c1 (aC (show (0:Int)≤((i0:Nat):Int)∧((i0:Nat):Int)<(x0.length:Int) from by omega) (aC Tryz.call216 (aF (ui _ _ h6) (aB c2 (aH i0 aN)))))))
   ·cases H3
 ·subst e0;have H4:=a7 H0;refine aP H4 fun g0 H5 => ?_;obtain rfl:=sI H5;exact pR 7 [r0 (V 5 [.e (.str (x0.take u0)),.v]),r0 (V 6 [.e (.str (x0.drop u0)),.v,.v,.m]),V2] [] [1000,1001] (aC (show (0:Int)≤0∧0≤((u0:Nat):Int)∧((u0:Nat):Int)≤(x0.length:Int) from by omega) (aC (qq x0 u0) (aC (show (0:Int)≤((u0:Nat):Int)∧((u0:Nat):Int)≤(x0.length:Int)∧(x0.length:Int)≤(x0.length:Int) from by omega) (aC (kz x0 u0) aN))))
def dL (x0:aq):Option Bool :=
 (strings_HasPrefix x0 [95]).bind fun y0 =>
 bif y0 then (
  cb (1≤x0.length) <|
  (nS (x0.drop 1)).bind fun y1 =>
  bif y1.2 then (
   bif decide (y1.1>0) then (
    bif decide (((x0.length:Nat):Int)≤10) then (
     (il y1.1).bind fun y2 =>
     some (y2==(x0.drop 1))
    ) else (
     some false
    )
   ) else (
    some false
   )
  ) else (
   some false
  )
 ) else (
  (dF (σ:=Unit) (ε:=Unit) (ρ:=Bool) (fun i0 s0 =>
   ((
    bif decide ((((x0.getD i0 0)).toNat:Int)<97) then (
     bif (((i0:Nat):Int)==0) then (
      some (.ret (.ret false))
     ) else (
      bif decide ((((x0.getD i0 0)).toNat:Int)<48) then (
       some (.ret (.ret false))
      ) else (
       bif decide ((((x0.getD i0 0)).toNat:Int)>57) then (
        some (.ret (.ret false))
       ) else (
        some (.brk ())
       )
      )
     )
    ) else (
     bif decide ((((x0.getD i0 0)).toNat:Int)>122) then (
      bif (((i0:Nat):Int)==0) then (
       some (.ret (.ret false))
      ) else (
       bif decide ((((x0.getD i0 0)).toNat:Int)<48) then (
        some (.ret (.ret false))
       ) else (
        bif decide ((((x0.getD i0 0)).toNat:Int)>57) then (
         some (.ret (.ret false))
        ) else (
         some (.brk ())
        )
       )
      )
     ) else (
      some (.brk ())
     )
    )
   ):Option (Out Unit (kg Unit Unit Bool))).bind (aft fun u0 =>
    some (.go ())
   )
  ) (fun i0 s0=>()) (x0.length-0) 0 ()).bind <| aft fun u1 =>
  bif (x0==[]) then (
   some false
  ) else (
   some (decide (((x0.length:Nat):Int)≤30))
  )
 )
def lU (x0:aq) (i0:Nat) (s0:Unit):AS:=⟨67,[(0,.str x0),(2,.bool false),(34,dS xx x0),(35,nI x0.length),(36,nI i0)],[]⟩
def p5 (x0:aq) (u2:Unit):AS:=⟨67,[(0,.str x0),(2,.bool false)],[]⟩
def iL (x0:aq) (i0:Nat) (u0:Unit):AS:=⟨67,[(0,.str x0),(2,.bool false),(34,dS xx x0),(35,nI x0.length),(36,nI i0)],[]⟩
theorem bp (x0:aq) (r:Bool) (H:dL x0=some r):aW Tryz.prog 103 [.str x0] (.bool r):=by
 unfold dL at H;refine aX Tryz.func103 67 [.tmp 2] ?_;refine aD H fun y0 h0 H0 => ?_;refine aK H0 (fun c0 H1 => ?_) (fun c1 H2 => ?_)
 ·refine aP H1 fun g0 H3 => ?_;refine aD H3 fun y1 h1 H4 => ?_;refine pD 10 [V1,r0 [.v,.c true (.bool y0)],.eqT 8 bT,r0 [.v,.e (.str (x0.drop 1)),.cf true (.tup [iI y1.1,vS 261 y1.2]),.v,.v,.v,.v,.v]] [.only [0,2,3,4] []] 9 [true] (aC Tryz.call144 (aF (da _ _ _ h0) (aB c0 (aC (show (0:Int)≤1∧1≤(x0.length:Int)∧(x0.length:Int)≤(x0.length:Int) from by omega) (aC (kz x0 1) (aC Tryz.call145 (aF (uH (x0.drop 1) y1 h1) (aC (show uO true (.tup [iI y1.1,vS 261 y1.2])=true from by cases h2:y1.2<;>rfl) aN)))))))) ?_;refine aK H4 (fun c2 H5 => ?_) (fun c3 H6 => ?_)
  ·refine aK H5 (fun c4 H7 => ?_) (fun c5 H8 => ?_)
   ·have c4p:=Hm c4;refine aK H7 (fun c6 H9 => ?_) (fun c7 H10 => ?_)
    ·have c6p:=Hm c6;refine aD H9 fun y2 h3 H11 => ?_;obtain rfl:=sI H11;exact pR 3 [.eqT 4 (.nilI),.rg 16 (V 4 [.e bT,.v,.v,.v,.v,.e bT,.v,.v,.v,.c true (.str y2),.v,.e (.str (x0.drop 1))]) [.v,.v,.v]] [] [] (aC (congrArg (vS 261) c2) (aB c4 (aT (aB c6 (aC Tryz.call151 (aF (vz y1.1 y2 h3) (aC (show (0:Int)≤1∧1≤(x0.length:Int)∧(x0.length:Int)≤(x0.length:Int) from by omega) (aC (kz x0 1) aN))))))))
    ·obtain rfl:=sI H10;exact pR 3 [.eqT 4 (.nilI),.rg 16 (V 4 [.e bT,.v,.v,.v,.v,.e bF,.v,.v,.s,.s,.s,.s]) [.s,.v,.v]] [] [] (aC (congrArg (vS 261) c2) (aB c4 (aT (aB c7 aN))))
   ·obtain rfl:=sI H8;exact pR 3 [.eqT 4 (.nilI),.rg 16 (V 4 [.e bF,.v,.v,.s,.s,.s,.v,.v,.s,.s,.s,.s]) [.s,.v,.v]] [] [] (aC (congrArg (vS 261) c2) (aB c5 aN))
  ·obtain rfl:=sI H6;exact pR 3 [.eqT 4 (.iface 261 (.any)),.rg 16 [.v,.v,.v,.s,.s,.v,.v,.s,.s,.s,.v,.v,.s,.s,.s,.s] [.s,.v,.v]] [] [] (aC (congrArg (vS 261) c3) aN)
 ·refine pA 12 [.rg 0 [] [.v],.rg 0 [] [.v,.c true (.bool y0)],.eqT 8 bF,.rg 0 [] [.v,.m,.e (.int .i64 ((x0.length:Nat):Int)),.v]] [.only [0,2,34,35,36] []] 11 [false] (lU x0 0 ()) (aC Tryz.call144 (aF (da _ _ _ h0) (aB c1 (aT (aC (aG xx x0) aN))))) ?_;refine aD H2 fun R0 h4 H12 => ?_;refine pJ 1 (p5 x0) R0 ?_ (fun u1 e0 => ?_)
  ·refine pC (lU x0) h4 (fun i0 s0 h5 e1 => ?_) (fun i0 s0 h6 q0 h7 h8 => ?_)
   ·have c8:=lF i0 x0.length (by omega);subst e1;exact pB 5 [r0 [.e bF]] [.only [0,2] []] (p5 x0 ()) (aB c8 aN)
   ·have c9:=lT i0 x0.length (by omega);refine pD 10 [r0 [.e bT],r0 [.v,.e (.dptr [.int .u8 (((x0.getD i0 0)).toNat:Int)]),.v,.v,.v]] [.only [0,2,5,6,34,35,36] []] 10 [true] (aB c9 (aI CJ x0 i0 0 aN)) ?_;refine aD h7 fun v0 h9 H13 => ?_;refine pJ 2 (iL x0 i0) v0 ?_ (fun u0 e2 => ?_)
    ·refine aK h9 (fun c10 H14 => ?_) (fun c11 H15 => ?_)
     ·refine aK H14 (fun c12 H16 => ?_) (fun c13 H17 => ?_)
      ·obtain rfl:=sI H16;obtain rfl:=sI (aA H13);obtain rfl:=aR h8;obtain rfl:=sI (aA H12);exact pR 5 [r0 [.v,.e bT,.v,.s,.s,.v,.v,.v,.e bT,.v,.s,.s,.v,.v,.s,.s,.v,.v],V1] [] [] (aB c10 (aB c12 aN))
      ·refine aK H17 (fun c14 H18 => ?_) (fun c15 H19 => ?_)
       ·obtain rfl:=sI H18;obtain rfl:=sI (aA H13);obtain rfl:=aR h8;obtain rfl:=sI (aA H12);exact pR 5 [r0 [.v,.e bT,.v,.s,.s,.v,.v,.v,.e bF,.v,.v,.e bT,.v,.v,.s,.s,.v,.v],V1] [] [] (aB c10 (aB c13 (aB c14 aN)))
       ·refine aK H19 (fun c16 H20 => ?_) (fun c17 H21 => ?_)
        ·obtain rfl:=sI H20;obtain rfl:=sI (aA H13);obtain rfl:=aR h8;obtain rfl:=sI (aA H12);exact pR 6 [r0 [.v,.e bT,.v,.s,.s,.v,.v,.v,.e bF,.v,.v,.e bF,.v,.v,.v,.v,.v,.v],.eqT 58 bT,V1] [] [] (aB c10 (aB c13 (aB c15 (aB c16 aN))))
        ·obtain rfl:=sI H21;exact pB 4 [r0 [.v,.e bT,.v,.s,.s,.v,.v,.v,.e bF,.v,.v,.e bF,.v,.v,.v,.v,.v,.v],.eqT 58 bF] [.only [0,2,34,35,36] []] (iL x0 i0 ()) (aB c10 (aB c13 (aB c15 (aB c17 aN))))
     ·refine aK H15 (fun c18 H22 => ?_) (fun c19 H23 => ?_)
      ·refine aK H22 (fun c20 H24 => ?_) (fun c21 H25 => ?_)
       ·obtain rfl:=sI H24;obtain rfl:=sI (aA H13);obtain rfl:=aR h8;obtain rfl:=sI (aA H12);exact pR 5 [r0 [.v,.e bF,.v,.v,.e bT,.v,.v,.v,.e bT,.v,.s,.s,.v,.v,.s,.s,.v,.v],V1] [] [] (aB c11 (aB c18 (aB c20 aN)))
       ·refine aK H25 (fun c22 H26 => ?_) (fun c23 H27 => ?_)
        ·obtain rfl:=sI H26;obtain rfl:=sI (aA H13);obtain rfl:=aR h8;obtain rfl:=sI (aA H12);exact pR 5 [r0 [.v,.e bF,.v,.v,.e bT,.v,.v,.v,.e bF,.v,.v,.e bT,.v,.v,.s,.s,.v,.v],V1] [] [] (aB c11 (aB c18 (aB c21 (aB c22 aN))))
        ·refine aK H27 (fun c24 H28 => ?_) (fun c25 H29 => ?_)
         ·obtain rfl:=sI H28;obtain rfl:=sI (aA H13);obtain rfl:=aR h8;obtain rfl:=sI (aA H12);exact pR 6 [r0 [.v,.e bF,.v,.v,.e bT,.v,.v,.v,.e bF,.v,.v,.e bF,.v,.v,.v,.v,.v,.v],.eqT 58 bT,V1] [] [] (aB c11 (aB c18 (aB c21 (aB c23 (aB c24 aN)))))
         ·obtain rfl:=sI H29;exact pB 4 [r0 [.v,.e bF,.v,.v,.e bT,.v,.v,.v,.e bF,.v,.v,.e bF,.v,.v,.v,.v,.v,.v],.eqT 58 bF] [.only [0,2,34,35,36] []] (iL x0 i0 ()) (aB c11 (aB c18 (aB c21 (aB c23 (aB c25 aN)))))
      ·obtain rfl:=sI H23;exact pB 3 [r0 [.v,.e bF,.v,.v,.e bF,.v,.v,.s,.s,.s,.s,.s,.s,.s,.s,.s,.s,.v]] [.only [0,2,34,35,36] []] (iL x0 i0 ()) (aB c11 (aB c19 aN))
    ·subst e2;have H30:=bl H13;refine bt 0 (ps:=[x0.length≤9223372036854775807]) (by kernel_rfl) (fun l0 => ?_);have l1:x0.length≤9223372036854775807:=by simpa only [bI,Hp] using l0
     clear l0;obtain rfl:=sI H30;exact pB 1 [V2] [.only [0,2,34,35,36] []] (lU x0 (i0+1) ()) (aH i0 aN)
  ·subst e0;have H31:=bl H12;refine aK H31 (fun c26 H32 => ?_) (fun c27 H33 => ?_)
   ·obtain rfl:=sI H32;exact pR 3 [r0 [.v,.e bF,.v,.s,.s,.s,.v,.v]] [] [] (aM c26 aN)
   ·obtain rfl:=sI H33;exact pR 3 [r0 [.v,.e bT,.v,.v,.v,.v,.v,.v]] [] [] (aM c27 (aT aN))
def eQ (x0:aq) (x1:Int) (x2:List (aq×Int)):Option ((aq×Bool)×aq) :=
 (gR x0 x1 x2).bind fun y0 =>
 (dL y0.1).bind fun y1 =>
 some ((y0.1,y1),y0.2)
theorem ns (x0:aq) (x1:Int) (x2:List (aq×Int)) (r:(aq×Bool)×aq) (H:eQ x0 x1 x2=some r):bn Tryz.prog 213 [.hptr 1000 0] [(1000,.cells 217 [.str x0,iI x1,.amap 1001]),(1001,.smap 0 3 (x2.map (aJ au)))] (fun r2 h0=>r2=(.tup [.str r.1.1,.bool r.1.2])∧h0=[(1000,.cells 217 [.str r.2,iI x1,.amap 1001]),(1001,.smap 0 3 (x2.map (aJ au)))]):=by unfold eQ at H;refine aX Tryz.func213 10 [.tmp 2,.tmp 3] ?_;refine aD H fun y0 h1 H0 => ?_;refine aD H0 fun y1 h2 H1 => ?_;obtain rfl:=sI H1;exact pR 7 [V2,r0 [.v,.hR [(1000,1000),(1001,1001)] 6 (.str y0.1) [(1000,.cells 217 [.str y0.2,iI x1,.amap 1001]),(1001,.smap 0 3 (x2.map (aJ au)))],.v],r0 [.v,.v,.c true (.bool y1),.v,.v]] [] [1000,1001] (aC Tryz.call249 (aC (qm _ _ _ _ h1) (aC Tryz.call103 (aF (bp _ _ h2) aN))))
def fN (x0:aq) (x1:Int) (x2:List (aq×Int)):Option (aq×aq) :=
 (dF (σ:=Unit) (ε:=Nat) (ρ:=Empty) (fun i0 s0 =>
  (kx (x0.getD i0 0)).bind fun y0 =>
  bif y0 then (
   some (.go ())
  ) else (
   none
  )
 ) (fun i0 s0=>i0) (x0.length-0) 0 ()).bind <| dq fun u0 =>
 cb (u0≤x0.length) <|
 some ((x0.take u0),(x0.drop u0))
def eE (x0:aq) (x1:Int) (x2:List (aq×Int)) (i0:Nat) (s0:Unit):AS:=⟨42,[(0,.hptr 1000 0),(1,.fn 212 []),(4,.str []),(5,nI i0)],[(1000,.cells 217 [.str x0,iI x1,.amap 1001]),(1001,.smap 0 3 (x2.map (aJ au)))]⟩
def gU (x0:aq) (x1:Int) (x2:List (aq×Int)) (u1:Nat):AS:=⟨42,[(0,.hptr 1000 0),(4,.str []),(5,nI u1)],[(1000,.cells 217 [.str x0,iI x1,.amap 1001]),(1001,.smap 0 3 (x2.map (aJ au)))]⟩
theorem ou (x0:aq) (x1:Int) (x2:List (aq×Int)) (r:aq×aq) (H:fN x0 x1 x2=some r):bn Tryz.prog 249 [.hptr 1000 0,.fn 212 []] [(1000,.cells 217 [.str x0,iI x1,.amap 1001]),(1001,.smap 0 3 (x2.map (aJ au)))] (fun r2 h0=>r2=(.str r.1)∧h0=[(1000,.cells 217 [.str r.2,iI x1,.amap 1001]),(1001,.smap 0 3 (x2.map (aJ au)))]):=by
 unfold fN at H;refine aX Tryz.func249 42 [.tmp 4] ?_;refine pA 6 [V1,V1] [.only [0,1,4,5] [1000,1001]] 6 [] (eE x0 x1 x2 0 ()) aN ?_;refine aD H fun R0 h1 H0 => ?_;refine pJ 1 (gU x0 x1 x2) R0 ?_ (fun u0 e0 => ?_)
 ·refine pC (eE x0 x1 x2) h1 (fun i0 s0 h2 e1 => ?_) (fun i0 s0 h3 q0 h4 h5 => ?_)
  ·have c0:=lF i0 x0.length (by omega);subst e1;exact pB 5 [r0 (V 6 [.e bF,.v,.s,.s,.s,.s,.s,.s,.s,.s,.v])] [.only [0,4,5] [1000,1001]] (gU x0 x1 x2 i0) (aT (aB c0 aN))
  ·have c1:=lT i0 x0.length (by omega);refine aD h4 fun y0 h6 H1 => ?_;refine aK H1 (fun c2 H2 => ?_) (fun c3 H3 => ?_)
   ·refine gB 1000 0 (ps:=[x0.length≤9223372036854775807]) (by kernel_rfl) (fun l0 => ?_);have l1:x0.length≤9223372036854775807:=by simpa only [bI,Hp] using l0
    clear l0;obtain rfl:=sI H2;exact pB 8 [r0 (V 6 [.e bT,.v,.v,.v,.v,.v,.v,.v,.v,.c true (.bool y0),.v]),.eqT 23 bT,V3] [.only [0,1,4,5] [1000,1001]] (eE x0 x1 x2 (i0+1) ()) (aT (aB c1 (aC (show (0:Int)≤((i0:Nat):Int)∧((i0:Nat):Int)<(x0.length:Int) from by omega) (aC Tryz.call212 (aF (mc _ _ h6) (aB c2 (aH i0 aN)))))))
   ·cases H3
 ·subst e0;have H4:=a7 H0;refine aP H4 fun g0 H5 => ?_;obtain rfl:=sI H5;exact pR 7 [r0 (V 5 [.e (.str (x0.take u0)),.v]),r0 (V 6 [.e (.str (x0.drop u0)),.v,.v,.m]),V2] [] [1000,1001] (aC (show (0:Int)≤0∧0≤((u0:Nat):Int)∧((u0:Nat):Int)≤(x0.length:Int) from by omega) (aC (qq x0 u0) (aC (show (0:Int)≤((u0:Nat):Int)∧((u0:Nat):Int)≤(x0.length:Int)∧(x0.length:Int)≤(x0.length:Int) from by omega) (aC (kz x0 u0) aN))))
def fH (x0:aq) (x1:Int) (x2:List (aq×Int)):Option ((Int×Bool)×aq) :=
 (fN x0 x1 x2).bind fun y0 =>
 (nS y0.1).bind fun y1 =>
 bif y1.2 then (
  bif decide (((y0.1.length:Nat):Int)≤7) then (
   cb (0<y0.1.length) <|
   bif (((y0.1.getD 0 0).toNat:Int)==48) then (
    none
   ) else (
    some ((y1.1,true),y0.2)
   )
  ) else (
   none
  )
 ) else (
  none
 )
theorem oH (x0:aq) (x1:Int) (x2:List (aq×Int)) (r:(Int×Bool)×aq) (H:fH x0 x1 x2=some r):bn Tryz.prog 214 [.hptr 1000 0] [(1000,.cells 217 [.str x0,iI x1,.amap 1001]),(1001,.smap 0 3 (x2.map (aJ au)))] (fun r2 h0=>r2=(.tup [iI r.1.1,.bool r.1.2])∧h0=[(1000,.cells 217 [.str r.2,iI x1,.amap 1001]),(1001,.smap 0 3 (x2.map (aJ au)))]):=by
 unfold fH at H;refine aX Tryz.func214 31 [.tmp 2,.tmp 3] ?_;refine aD H fun y0 h1 H0 => ?_;refine aD H0 fun y1 h2 H1 => ?_;refine pD 7 [V2,r0 [.v,.hR [(1000,1000),(1001,1001)] 8 (.str y0.1) [(1000,.cells 217 [.str y0.2,iI x1,.amap 1001]),(1001,.smap 0 3 (x2.map (aJ au)))],.v],r0 [.v,.cf true (.tup [iI y1.1,vS 261 y1.2]),.v,.v,.v,.v,.v]] [.only [2,3,4,5,6] [1000,1001]] 7 [] (aC Tryz.call249 (aC (ou _ _ _ _ h1) (aC Tryz.call145 (aF (uH y0.1 y1 h2) (aC (show uO true (.tup [iI y1.1,vS 261 y1.2])=true from by cases h3:y1.2<;>rfl) aN))))) ?_;refine aK H1 (fun c0 H2 => ?_) (fun c1 H3 => ?_)
 ·refine aK H2 (fun c2 H4 => ?_) (fun c3 H5 => ?_)
  ·have c2p:=Hm c2;refine aP H4 fun g0 H6 => ?_;refine aK H6 (fun c4 H7 => ?_) (fun c5 H8 => ?_)
   ·cases H7
   ·obtain rfl:=sI H8;exact pR 3 [.eqT 6 (.nilI),r0 (V 6 [.e bT,.v,.v,.v,.v,.e bT,.v,.s,.s,.v,.v,.v,.v])] [] [1000,1001] (aC (congrArg (vS 261) c0) (aT (aB c2 (aC (show (0:Int)≤0∧0<(y0.1.length:Int) from by omega) (aM c5 aN)))))
  ·cases H5
 ·cases H3
def gO (x0:Int) (x1:aq) (x2:Int) (x3:List (aq×Int)):Option (Bool×aq×Int×(List (aq×Int))) :=
 bif (x1==[]) then (
  none
 ) else (
  cb (0<x1.length) <|
  (kx (x1.getD 0 0)).bind fun y0 =>
  bif y0 then (
   (fH x1 x2 x3).bind fun y1 =>
   bif y1.1.2 then (
    (fT y1.2 [32]).bind fun y2 =>
    (strings_HasPrefix y2 [42]).bind fun y3 =>
    bif y3 then (
     none
    ) else (
     bif (y1.2==[]) then (
      some (true,y1.2,(bg (x2+(bg (x0*y1.1.1)))),x3)
     ) else (
      none
     )
    )
   ) else (
    none
   )
  ) else (
   (eQ x1 x2 x3).bind fun y4 =>
   some (y4.1.2,y4.2,x2,(dE y4.1.1 (bg ((bC 0 y4.1.1 x3)+x0)) x3))
  )
 )
theorem o9 (x0:Int) (x1:aq) (x2:Int) (x3:List (aq×Int)) (r:Bool×aq×Int×(List (aq×Int))) (H:gO x0 x1 x2 x3=some r):bn Tryz.prog 175 [.hptr 1000 0,iI x0] [(1000,.cells 217 [.str x1,iI x2,.amap 1001]),(1001,.smap 0 3 (x3.map (aJ au)))] (fun r2 h0=>r2=(.bool r.1)∧h0=[(1000,.cells 217 [.str r.2.1,iI r.2.2.1,.amap 1001]),(1001,.smap 0 3 (r.2.2.2.map (aJ au)))]):=by
 unfold gO at H;refine aX Tryz.func175 104 [.tmp 4] ?_;refine aK H (fun c0 H0 => ?_) (fun c1 H1 => ?_)
 ·cases H0
 ·refine aP H1 fun g0 H2 => ?_;refine aD H2 fun y0 h1 H3 => ?_;refine aK H3 (fun c2 H4 => ?_) (fun c3 H5 => ?_)
  ·refine aD H4 fun y1 h2 H6 => ?_;refine pD 19 [V1,V5,.eqT 15 bF,r0 (V 5 [.c true (.bool y0),.v]),.eqT 22 bF,r0 [.v,.hR [(1000,1000),(1001,1001)] 40 (.tup [iI y1.1.1,.bool y1.1.2]) [(1000,.cells 217 [.str y1.2,iI x2,.amap 1001]),(1001,.smap 0 3 (x3.map (aJ au)))],.v,.v,.v,.v,.v],V2] [.only [0,1,4,7,44] [1000,1001]] 17 [false,false] (aB c1 (aC (show (0:Int)≤0∧0<(x1.length:Int) from by omega) (aC Tryz.call212 (aF (mc _ _ h1) (aT (aM c2 (aC Tryz.call214 (aC (oH _ _ _ _ h2) (aT aN))))))))) ?_;refine aK H6 (fun c4 H7 => ?_) (fun c5 H8 => ?_)
   ·refine aD H7 fun y2 h3 H9 => ?_;refine aD H9 fun y3 h4 H10 => ?_;refine aK H10 (fun c6 H11 => ?_) (fun c7 H12 => ?_)
    ·cases H11
    ·refine aK H12 (fun c8 H13 => ?_) (fun c9 H14 => ?_)
     ·obtain rfl:=sI H13;exact pR 19 [.eqT 44 bF,r0 (V 4 [.c true (.str y2),.v]),r0 [.v,.c true (.bool y3),.v],.eqT 50 bF,r0 (V 4 [.e bT,.v,.s,.s,.s,.s,.s,.s,.s,.v,.v]),r0 (V 7 [.w,.w,.v,.v,.v,.m]),V1] [] [1000,1001] (aM c4 (aC Tryz.call215 (aF (lS _ _ _ h3) (aC Tryz.call144 (aF (da _ _ _ h4) (aB c7 (aB c8 aN)))))))
     ·cases H14
   ·cases H8
  ·refine aD H5 fun y4 h5 H15 => ?_;obtain rfl:=sI H15;exact pR 20 [V1,V5,.eqT 15 bF,r0 (V 5 [.c true (.bool y0),.v]),.eqT 22 bT,r0 [.v,.hR [(1000,1000),(1001,1001)] 25 (.tup [.str y4.1.1,.bool y4.1.2]) [(1000,.cells 217 [.str y4.2,iI x2,.amap 1001]),(1001,.smap 0 3 (x3.map (aJ au)))],.v,.v,.v,.v,.v],r0 (V 6 [.l (iI (bC 0 y4.1.1 x3)),.v,.w,.m,.rwH 1001 (.smap 0 3 ((dE y4.1.1 (bg ((bC 0 y4.1.1 x3)+x0)) x3).map (aJ au)))]),V2] [] [1000,1001] (aB c1 (aC (show (0:Int)≤0∧0<(x1.length:Int) from by omega) (aC Tryz.call212 (aF (mc _ _ h1) (aT (aM c3 (aC Tryz.call213 (aC (ns _ _ _ _ h5) (aC (jm (c:=au) y4.1.1 0 x3) (aC (congrArg (AO.smap 0 3) (fV (c:=au) y4.1.1 (bg ((bC 0 y4.1.1 x3)+x0)) x3)) aN))))))))))
def kE (x0:Int):Option Bool :=
 bif decide (x0≥(-1000000)) then (
  some (decide (x0≤1000000))
 ) else (
  some false
 )
theorem jF (x0:Int) (r:Bool) (H:kE x0=some r):aW Tryz.prog 143 [iI x0] (.bool r):=by
 unfold kE at H;refine aX Tryz.func143 9 [.tmp 2] ?_;refine aK H (fun c0 H0 => ?_) (fun c1 H1 => ?_)
 ·obtain rfl:=sI H0;exact pR 5 [V1,r0 [.v,.e bT,.v,.v,.v,.v,.v]] [] [] (aB c0 aN)
 ·obtain rfl:=sI H1;exact pR 5 [V1,r0 [.v,.e bF,.v,.s,.s,.v,.v]] [] [] (aB c1 aN)
def bw (x0:Linear):Option Bool :=
 (dF (σ:=Unit) (ε:=Unit) (ρ:=Bool) (fun i0 s0 =>
  (dL ((x0.Terms.getD i0 aw).Var)).bind fun y0 =>
  ((
   bif y0 then (
    bif (((x0.Terms.getD i0 aw).C)==0) then (
     some (.ret (.ret false))
    ) else (
     (kE ((x0.Terms.getD i0 aw).C)).bind fun y1 =>
     bif y1 then (
      bif decide (((i0:Nat):Int)>0) then (
       cb (0≤(bg (((i0:Nat):Int)-1))∧(bg (((i0:Nat):Int)-1))<(x0.Terms.length:Int)) <|
       bif (Op.bytesLess ((x0.Terms.getD (bg (((i0:Nat):Int)-1)).toNat aw).Var) ((x0.Terms.getD i0 aw).Var)) then (
        some (.brk ())
       ) else (
        some (.ret (.ret false))
       )
      ) else (
       some (.brk ())
      )
     ) else (
      some (.ret (.ret false))
     )
    )
   ) else (
    some (.ret (.ret false))
   )
  ):Option (Out Unit (kg Unit Unit Bool))).bind (aft fun u0 =>
   some (.go ())
  )
 ) (fun i0 s0=>()) (x0.Terms.length-0) 0 ()).bind <| aft fun u1 =>
 (kE x0.Const).bind fun y2 =>
 bif y2 then (
  some (decide (((x0.Terms.length:Nat):Int)≤12))
 ) else (
  some false
 )
def jY (x0:Linear) (i0:Nat) (s0:Unit):AS:=⟨54,[(1,.hptr 1 0),(2,.bool false),(6,dS ai x0.Terms),(7,nI x0.Terms.length),(8,nI i0)],[(1,.cells 29 [iI x0.Const,dS ai x0.Terms])]⟩
def oV (x0:Linear) (u2:Unit):AS:=⟨54,[(1,.hptr 1 0),(2,.bool false)],[(1,.cells 29 [iI x0.Const,dS ai x0.Terms])]⟩
def jW (x0:Linear) (i0:Nat) (u0:Unit):AS:=⟨54,[(1,.hptr 1 0),(2,.bool false),(6,dS ai x0.Terms),(7,nI x0.Terms.length),(8,nI i0)],[(1,.cells 29 [iI x0.Const,dS ai x0.Terms])]⟩
theorem bj (x0:Linear) (r:Bool) (H:bw x0=some r):aW Tryz.prog 90 [.agg [iI x0.Const,dS ai x0.Terms]] (.bool r):=by
 unfold bw at H;refine aX Tryz.func90 54 [.tmp 2] ?_;refine pA 6 [r0 [.m,.v],r0 [.v,.v,.e (nI x0.Terms.length),.v]] [.only [1,2,6,7,8] [1]] 6 [] (jY x0 0 ()) (aT (aC (aG ai x0.Terms) aN)) ?_;refine aD H fun R0 h0 H0 => ?_;refine pJ 1 (oV x0) R0 ?_ (fun u1 e0 => ?_)
 ·refine pC (jY x0) h0 (fun i0 s0 h1 e1 => ?_) (fun i0 s0 h2 q0 h3 h4 => ?_)
  ·have c0:=lF i0 x0.Terms.length (by omega);subst e1;exact pB 5 [r0 [.e bF]] [.only [1,2] [1]] (oV x0 ()) (aB c0 aN)
  ·have c1:=lT i0 x0.Terms.length (by omega);refine aD h3 fun y0 h5 H1 => ?_;refine pD 10 [r0 [.e bT],r0 [.v,.e (.dptr (ai (x0.Terms.getD i0 aw))),.v,.m,.v,.m]] [.only [1,2,3,4,6,7,8] [1,4]] 10 [true] (aB c1 (aI bE x0.Terms i0 aw aN)) ?_;refine aD H1 fun v0 h6 H2 => ?_;refine pJ 2 (jW x0 i0) v0 ?_ (fun u0 e2 => ?_)
   ·refine aK h6 (fun c2 H3 => ?_) (fun c3 H4 => ?_)
    ·refine aK H3 (fun c4 H5 => ?_) (fun c5 H6 => ?_)
     ·obtain rfl:=sI H5;obtain rfl:=sI (aA H2);obtain rfl:=aR h4;obtain rfl:=sI (aA H0);exact pR 5 [.rg 28 [.v,.v,.c true bT,.v,.v,.v,.v,.e bT,.v,.v,.s,.s,.s,.s,.v,.v,.s,.s,.s,.s,.s,.s,.s,.s,.s,.s,.s,.s] [.s,.s,.v],V1] [] [] (aC Tryz.call103 (aC (aW.eq (bp _ _ h5) (cB c2)) (aT (aB c4 aN))))
     ·refine aD H6 fun y1 h7 H7 => ?_;refine aK H7 (fun c6 H8 => ?_) (fun c7 H9 => ?_)
      ·refine aK H8 (fun c8 H10 => ?_) (fun c9 H11 => ?_)
       ·refine aP H10 fun g0 H12 => ?_;refine pD 1 [.rg 28 [.v,.v,.c true bT,.v,.v,.v,.v,.e bF,.v,.v,.v,.v,.c true bT,.v,.v,.v,.v,.e bT,.v,.v,.v,.v,.w,.e (.dptr (ai (x0.Terms.getD (bg (((i0:Nat):Int)-1)).toNat aw))),.v,.v,.v,.v] [.v,.v,.v]] [.only [1,2,6,7,8,43] [1]] 1 [] (aC Tryz.call103 (aC (aW.eq (bp _ _ h5) (cB c2)) (aT (aB c5 (aC Tryz.call143 (aC (aW.eq (jF _ _ h7) (cB c6)) (aT (aB c8 (a8 (Dc (f:=ai) (l:=x0.Terms) (n:=(bg (((i0:Nat):Int)-1))) aw bE (by decide) (by exact g0)) aN))))))))) ?_;refine aK H12 (fun c10 H13 => ?_) (fun c11 H14 => ?_)
        ·obtain rfl:=sI H13;exact pB 3 [.eqT 43 bF] [.only [1,2,6,7,8] [1]] (jW x0 i0 ()) (aM c10 aN)
        ·obtain rfl:=sI H14;obtain rfl:=sI (aA H2);obtain rfl:=aR h4;obtain rfl:=sI (aA H0);exact pR 5 [.eqT 43 bT,V1] [] [] (aM c11 aN)
       ·obtain rfl:=sI H11;exact pB 3 [.rg 28 [.v,.v,.c true bT,.v,.v,.v,.v,.e bF,.v,.v,.v,.v,.c true bT,.v,.v,.v,.v,.e bF,.v,.s,.s,.s,.s,.s,.s,.s,.s,.s] [.s,.v,.v]] [.only [1,2,6,7,8] [1]] (jW x0 i0 ()) (aC Tryz.call103 (aC (aW.eq (bp _ _ h5) (cB c2)) (aT (aB c5 (aC Tryz.call143 (aC (aW.eq (jF _ _ h7) (cB c6)) (aT (aB c9 aN))))))))
      ·obtain rfl:=sI H9;obtain rfl:=sI (aA H2);obtain rfl:=aR h4;obtain rfl:=sI (aA H0);exact pR 5 [.rg 28 [.v,.v,.c true bT,.v,.v,.v,.v,.e bF,.v,.v,.v,.v,.c true bF,.v,.v,.v,.s,.s,.s,.s,.s,.s,.s,.s,.s,.s,.s,.s] [.s,.s,.v],V1] [] [] (aC Tryz.call103 (aC (aW.eq (bp _ _ h5) (cB c2)) (aT (aB c5 (aC Tryz.call143 (aC (aW.eq (jF _ _ h7) (cB c7)) (aT aN)))))))
    ·obtain rfl:=sI H4;obtain rfl:=sI (aA H2);obtain rfl:=aR h4;obtain rfl:=sI (aA H0);exact pR 5 [.rg 28 [.v,.v,.c true bF,.v,.v,.s,.s,.s,.v,.v,.s,.s,.s,.s,.v,.v,.s,.s,.s,.s,.s,.s,.s,.s,.s,.s,.s,.s] [.s,.s,.v],V1] [] [] (aC Tryz.call103 (aC (aW.eq (bp _ _ h5) (cB c3)) (aT aN)))
   ·subst e2;have H15:=bl H2;refine bt 6 (ps:=[(x0.Terms.map ai).length≤9223372036854775807]) (by kernel_rfl) (fun l0 => ?_);have l1:x0.Terms.length≤9223372036854775807:=by simpa only [bI,Hp] using l0
    clear l0;obtain rfl:=sI H15;exact pB 1 [V2] [.only [1,2,6,7,8] [1]] (jY x0 (i0+1) ()) (aH i0 aN)
 ·subst e0;have H16:=bl H0;refine aD H16 fun y2 h8 H17 => ?_;refine aK H17 (fun c12 H18 => ?_) (fun c13 H19 => ?_)
  ·obtain rfl:=sI H18;exact pR 3 [r0 [.v,.v,.c true bT,.v,.v,.v,.e (nI x0.Terms.length),.v,.v,.v]] [] [] (aC Tryz.call143 (aC (aW.eq (jF _ _ h8) (cB c12)) (aT (aC (aG ai x0.Terms) aN))))
  ·obtain rfl:=sI H19;exact pR 3 [r0 [.v,.v,.c true bF,.v,.s,.s,.s,.s,.v,.v]] [] [] (aC Tryz.call143 (aC (aW.eq (jF _ _ h8) (cB c13)) aN))
noncomputable def iD (x0:aq) (x1:Int) (x2:List (aq×Int)):Option (Linear×Int) :=
 qX (σ:=(List aq)) (ε:=Empty) (β:=(Linear×Int)) x2 (fun e0 s0 =>
  bif (e0.2==0) then (
   some (.go s0)
  ) else (
   cb ((s0.length+1)*16≤140737488355328) <|
   some (.go (s0++[e0.1]))
  )
 ) [] (fun s0 =>
  (jO s0).bind fun y0 =>
  (dF (σ:=(List ay)) (ε:=(List ay)) (ρ:=Empty) (fun i0 s1 =>
   cb ((s1.length+1)*24≤140737488355328) <|
   some (.go (s1++[(ay.mk (y0.getD i0 []) (bC 0 (y0.getD i0 []) x2))]))
  ) (fun i0 s1=>s1) (y0.length-0) 0 []).bind <| dq fun u0 =>
  (bw (Linear.mk x1 u0)).bind fun y1 =>
  bif y1 then (
   some ((Linear.mk x1 u0),0)
  ) else (
   some ((Linear.mk 0 []),3)
  )
 )
def dQ (x0:aq) (x1:Int) (x2:List (aq×Int)) (i1:List Nat) (s0:List aq):AS:=⟨58,[(0,.hptr 1000 1),(2,.hptr 2 0),(3,iI 0),(4,.hptr 4 0),(5,.rslice 30),(19,.hptr 19 0)],[(2,.cells 29 [iI 0,.eslice]),(4,.cells 29 [iI x1,.eslice]),(19,.iter (x2.map (aJ au)) i1),(30,.row 9 1 (s0.map aZ)),(1000,.cells 217 [.str x0,iI x1,.dmap (x2.map (aJ au))])]⟩
def fD (x0:aq) (x1:Int) (x2:List (aq×Int)) (y0:List aq) (i0:Nat) (s1:List ay):AS:=⟨58,[(0,.hptr 1000 1),(2,.hptr 2 0),(3,iI 0),(4,.hptr 4 0),(33,.rslice 30),(34,nI y0.length),(35,nI i0)],[(2,.cells 29 [iI 0,.eslice]),(4,.cells 29 [iI x1,.rslice 50]),(30,.row 9 1 (y0.map aZ)),(50,.row 31 2 (s1.map ai)),(1000,.cells 217 [.str x0,iI x1,.dmap (x2.map (aJ au))])]⟩
def jL (x0:aq) (x1:Int) (x2:List (aq×Int)) (u1:List ay):AS:=⟨58,[(2,.hptr 2 0),(3,iI 0),(4,.hptr 4 0)],[(2,.cells 29 [iI 0,.eslice]),(4,.cells 29 [iI x1,.rslice 50]),(50,.row 31 2 (u1.map ai)),(1000,.cells 217 [.str x0,iI x1,.dmap (x2.map (aJ au))])]⟩
theorem qC (x0:aq) (x1:Int) (x2:List (aq×Int)) (r:Linear×Int) (H:iD x0 x1 x2=some r):bn Tryz.prog 110 [.hptr 1000 1] [(1000,.cells 217 [.str x0,iI x1,.amap 1001]),(1001,.smap 0 3 (x2.map (aJ au)))] (fun r2 h0=>r2=(.tup [.agg [iI r.1.Const,dS ai r.1.Terms],iI r.2])∧h0=[]):=by
 unfold iD at H;refine aX Tryz.func110 58 [.cell 2 29,.tmp 3] ?_;refine pA 10 [r0 [.m,.v],r0 (V 4 [.b,.m,.m]),V1,r0 (V 4 [.fm 1001,.m])] [.er 5 30 9 1,.only [0,2,3,4,5,19] [2,4,19,30,1000]] 10 [] (dQ x0 x1 x2 [] []) (aC (sy qh x2) aN) ?_;refine sl (cc:=au) 19 (dQ x0 x1 x2) (by kernel_rfl) H [.v] (fun i1 s0=>⟨by kernel_rfl,by kernel_rfl⟩) (fun i1 s0=>⟨58,[(0,.hptr 1000 1),(2,.hptr 2 0),(3,iI 0),(4,.hptr 4 0),(5,.rslice 30),(19,.hptr 19 0),(20,.tup [.bool false]),(21,.bool false)],[(2,.cells 29 [iI 0,.eslice]),(4,.cells 29 [iI x1,.eslice]),(19,.iter (x2.map (aJ au)) i1),(30,.row 9 1 (s0.map aZ)),(1000,.cells 217 [.str x0,iI x1,.dmap (x2.map (aJ au))])]⟩) (fun i1 s0=>by kernel_rfl) (fun i1 s0 n0 e0=>⟨58,[(0,.hptr 1000 1),(2,.hptr 2 0),(3,iI 0),(4,.hptr 4 0),(5,.rslice 30),(19,.hptr 19 0),(20,.tup [.bool true,.str e0.1,iI e0.2]),(21,.bool true)],[(2,.cells 29 [iI 0,.eslice]),(4,.cells 29 [iI x1,.eslice]),(19,.iter (x2.map (aJ au)) (i1++[n0])),(30,.row 9 1 (s0.map aZ)),(1000,.cells 217 [.str x0,iI x1,.dmap (x2.map (aJ au))])]⟩) (fun i1 s0 n0 e0=>by kernel_rfl) (fun i1 s0 H0 => ?_) (fun i1 s0 n0 e0 h1 q0 h2 h3 => ?_)
 ·refine aD H0 fun y0 h4 H1 => ?_;refine pA 9 [r0 [.v,.hR [(30,1000)] 32 (.tup []) [(1000,.row 9 1 (y0.map aZ))]],r0 [.v,.e (nI y0.length),.v]] [.erH 4 1 50 31 2,.only [0,2,3,4,33,34,35] [2,4,30,50,1000]] 9 [false] (fD x0 x1 x2 y0 0 []) (aC Tryz.call99 (aC (re s0 y0 h4) (aT (aC (aG aZ y0) aN)))) ?_;refine aD H1 fun R0 h5 H2 => ?_;refine pJ 1 (jL x0 x1 x2) R0 ?_ (fun u0 e1 => ?_)
  ·refine pC (fD x0 x1 x2 y0) h5 (fun i0 s1 h6 e2 => ?_) (fun i0 s1 h7 q1 h8 h9 => ?_)
   ·have c0:=lF i0 y0.length (by omega);subst e2;exact pB 5 [r0 [.e bF]] [.only [2,3,4] [2,4,50,1000]] (jL x0 x1 x2 s1) (aB c0 aN)
   ·have c1:=lT i0 y0.length (by omega);refine aP h8 fun g0 H3 => ?_;refine ya 30 (n:=(y0.map aZ).length) (by kernel_rfl) (fun l0 => ?_);have l1:y0.length≤9223372036854775807:=by simpa only [Hp] using l0
    clear l0;obtain rfl:=sI H3;exact pB 11 [r0 [.e bT],r0 [.v,.rl i0 0 (.str (y0.getD i0 [])),.v],.rg 11 (V 8 [.l (iI (bC 0 (y0.getD i0 []) x2)),.b,.b]) [.ap,.rwH 50 (.row 31 2 ((s1++[(ay.mk (y0.getD i0 []) (bC 0 (y0.getD i0 []) x2))]).map ai)),.v,.m],V2] [.only [0,2,3,4,33,34,35] [2,4,30,50,1000]] (fD x0 x1 x2 y0 (i0+1) (s1++[(ay.mk (y0.getD i0 []) (bC 0 (y0.getD i0 []) x2))])) (aB c1 (aC (show (0:Int)≤((i0:Nat):Int)∧((i0:Nat):Int)<((y0.map aZ).length:Int) from by rw [Hp];omega) (aC (yC (f:=aZ) (l:=y0) (n:=i0) 1 0 1 (by omega) (by decide)) (aC (FP (f:=aZ) (l:=y0) (n:=i0) [] 0 (by omega)) (aC (wZ au (y0.getD i0 []) x2) (aC (jm (c:=au) (y0.getD i0 []) 0 x2) (a8 (qB (c:=ai) iG s1 [(ay.mk (y0.getD i0 []) (bC 0 (y0.getD i0 []) x2))] 24 (by decide) (by first | (simp;done) | simpa using g0)) (aC (tI 31 2 ai s1 [(ay.mk (y0.getD i0 []) (bC 0 (y0.getD i0 []) x2))]) (aH i0 aN)))))))))
  ·subst e1;have H4:=a7 H2;refine aD H4 fun y1 h10 H5 => ?_;refine aK H5 (fun c2 H6 => ?_) (fun c3 H7 => ?_)
   ·obtain rfl:=sI H6;exact pR 9 [r0 [.v,.c false (.bool y1),.v],.eqT 55 bF,r0 [.v,.m,.v]] [.fz 50] [] (aC Tryz.call90 (aF (bj _ _ h10) (aT (aM c2 aN))))
   ·obtain rfl:=sI H7;exact pR 8 [r0 [.v,.c false (.bool y1),.v],.eqT 55 bT,r0 [.b,.m,.v]] [.wkH 2 1 []] [] (aC Tryz.call90 (aF (bj _ _ h10) (aT (aM c3 aN))))
 ·refine aK h2 (fun c4 H8 => ?_) (fun c5 H9 => ?_)
  ·obtain rfl:=sI H8;exact pB 11 [r0 [.en n0 (.tup [.str e0.1,iI e0.2]),.v,.v,.v,.v],V2,.eqT 26 bF] [.only [0,2,3,4,5,19] [2,4,19,30,1000]] (dQ x0 x1 x2 (i1++[n0]) s0) (aC (jk i1 n0) (aC (uB (cc:=au) h1) (aM c4 aN)))
  ·refine aP H9 fun g1 H10 => ?_;obtain rfl:=sI H10;exact pB 11 [r0 [.en n0 (.tup [.str e0.1,iI e0.2]),.v,.v,.v,.v],V2,.eqT 26 bT,r0 [.v,.v,.b,.ap,.rwH 30 (.row 9 1 ((s0++[e0.1]).map aZ)),.v]] [.only [0,2,3,4,5,19] [2,4,19,30,1000]] (dQ x0 x1 x2 (i1++[n0]) (s0++[e0.1])) (aC (jk i1 n0) (aC (uB (cc:=au) h1) (aM c5 (a8 (qB (c:=aZ) oo s0 [e0.1] 16 (by decide) (by first | (simp;done) | simpa using g1)) (aC (tI 9 1 aZ s0 [e0.1]) aN)))))
noncomputable def ot (x0:aq):Option (Linear×Int) :=
 (cU x0 0 []).bind fun y0 =>
 (gN y0 0 []).bind fun y1 =>
 (xv (σ:=Unit) (ε:=(Linear×Int)) (ρ:=(Linear×Int)) (fun s0 =>
  (cU y0 0 []).bind fun y2 =>
  (gO y1.1 y2 0 []).bind fun y3 =>
  bif y3.1 then (
   (cU y3.2.1 y3.2.2.1 y3.2.2.2).bind fun y4 =>
   bif (y4==[]) then (
    (iD y4 y3.2.2.1 y3.2.2.2).bind fun y5 =>
    some (.ret (y5.1,y5.2))
   ) else (
    none
   )
  ) else (
   none
  )
 ) 4294967296 ()).bind <| aft some
def oQ (y0:aq) (y1:Int×Bool) (s0:Unit):AS:=⟨51,[(2,.hptr 2 0),(3,iI 0),(4,.hptr 13 0),(5,.bm 175 13 0),(6,iI y1.1)],[(2,.cells 29 [iI 0,.eslice]),(10,.smap 0 3 ([].map (aJ au))),(13,.cells 217 [.str y0,iI 0,.amap 10])]⟩
theorem vP (x0:aq) (r:Linear×Int) (H:ot x0=some r):aW Tryz.prog 135 [.str x0] (.tup [.agg [iI r.1.Const,dS ai r.1.Terms],iI r.2]):=by
 unfold ot at H;refine aX Tryz.func135 51 [.cell 2 29,.tmp 3] ?_;refine aD H fun y0 h0 H0 => ?_;refine aD H0 fun y1 h1 H1 => ?_;refine pA 11 [r0 [.m,.v],r0 [.v,.m,.b,.b,.m,.v],V3,r0 [.v,.hR [(13,1000),(10,1001)] 17 (.tup []) [(1000,.cells 217 [.str y0,iI 0,.amap 1001]),(1001,.smap 0 3 ([].map (aJ au)))]],r0 [.v,.hR [(13,1000),(10,1001)] 20 (.tup [iI y1.1,.bool y1.2]) [(1000,.cells 217 [.str y0,iI 0,.amap 1001]),(1001,.smap 0 3 ([].map (aJ au)))],.v,.v,.v,.v,.v]] [.only [2,3,4,5,6] [2,10,13]] 11 [] (oQ y0 y1 ()) (aC Tryz.call176 (aC (eT _ _ _ _ h0) (aC Tryz.call177 (aC (o2 _ _ _ _ h1) aN)))) ?_;refine aD H1 fun R0 h2 H2 => ?_;refine nG (oQ y0 y1) (by kernel_rfl) h2 (fun s0 q0 h3 h4 => ?_)
 ·refine aD h3 fun y2 h5 H3 => ?_;refine aD H3 fun y3 h6 H4 => ?_;refine pD 6 [r0 [.v,.hR [(13,1000),(10,1001)] 24 (.tup []) [(1000,.cells 217 [.str y2,iI 0,.amap 1001]),(1001,.smap 0 3 ([].map (aJ au)))]],r0 [.v,.v,.hR [(13,1000),(10,1001)] 27 (.bool y3.1) [(1000,.cells 217 [.str y3.2.1,iI y3.2.2.1,.amap 1001]),(1001,.smap 0 3 (y3.2.2.2.map (aJ au)))],.v]] [.only [2,3,4,5,6,28] [2,10,13]] 6 [] (aC Tryz.call176 (aC (eT _ _ _ _ h5) (aC Tryz.call175 (aC (o9 _ _ _ _ _ h6) (aT aN))))) ?_;refine aK H4 (fun c0 H5 => ?_) (fun c1 H6 => ?_)
  ·refine aD H5 fun y4 h7 H7 => ?_;refine aK H7 (fun c2 H8 => ?_) (fun c3 H9 => ?_)
   ·refine aD H8 fun y5 h8 H10 => ?_;obtain rfl:=sI H10;obtain rfl:=aR h4;obtain rfl:=sI (aA H2);exact pR 13 [.eqT 28 bF,r0 [.v,.hR [(13,1000),(10,1001)] 31 (.tup []) [(1000,.cells 217 [.str y4,iI y3.2.2.1,.amap 1001]),(1001,.smap 0 3 (y3.2.2.2.map (aJ au)))]],V5,.eqT 36 bT,r0 [.v,.v,.v,.hR [(13,1000),(10,1001)] 40 (.tup [.agg [iI y5.1.Const,dS ai y5.1.Terms],iI y5.2]) [],.v,.v,.m,.v]] [] [] (aM c0 (aC Tryz.call176 (aC (eT _ _ _ _ h7) (aB c2 (aC Tryz.call110 (aC (qC _ _ _ _ h8) aN))))))
   ·cases H9
  ·cases H6
def jx (x0:Linear):Option Bool :=
 (bw x0).bind fun y0 =>
 some (!y0)
theorem uf (x0:Linear) (r:Bool) (H:jx x0=some r):aW Tryz.prog 104 [.agg [iI x0.Const,dS ai x0.Terms]] (.bool r):=by unfold jx at H;refine aX Tryz.func104 6 [.tmp 2] ?_;refine aD H fun y0 h0 H0 => ?_;obtain rfl:=sI H0;exact pR 5 [r0 [.m,.v],r0 [.v,.c true (.bool y0),.v,.v]] [] [] (aC Tryz.call90 (aF (bj _ _ h0) (aT aN)))
def bY (x0:List Linear):Option Int :=
 (dF (σ:=Unit) (ε:=Unit) (ρ:=Int) (fun i0 s0 =>
  (jx (Linear.mk ((x0.getD i0 ax).Const) ((x0.getD i0 ax).Terms))).bind fun y0 =>
  bif y0 then (
   some (.ret ((i0:Nat):Int))
  ) else (
   some (.go ())
  )
 ) (fun i0 s0=>()) (x0.length-0) 0 ()).bind <| aft fun u0 =>
 some (-1)
def cI (x0:List Linear) (i0:Nat) (s0:Unit):AS:=⟨19,[(0,dS ae x0),(1,.fn 104 []),(4,iI 0),(7,nI x0.length),(8,nI i0)],[]⟩
def eB (u1:Unit):AS:=⟨19,[(4,iI 0)],[]⟩
theorem jR (x0:List Linear) (r:Int) (H:bY x0=some r):aW Tryz.prog 142 [dS ae x0,.fn 104 []] (iI r):=by
 unfold bY at H;refine aX Tryz.func142 19 [.tmp 4] ?_;refine pA 6 [V1,r0 [.v,.e (nI x0.length),.v]] [.only [0,1,4,7,8] []] 6 [] (cI x0 0 ()) (aT (aC (aG ae x0) aN)) ?_;refine aD H fun R0 h0 H0 => ?_;refine pJ 1 (eB) R0 ?_ (fun u0 e0 => ?_)
 ·refine pC (cI x0) h0 (fun i0 s0 h1 e1 => ?_) (fun i0 s0 h2 q0 h3 h4 => ?_)
  ·have c0:=lF i0 x0.length (by omega);subst e1;exact pB 5 [r0 [.e bF]] [.only [4] []] (eB ()) (aB c0 aN)
  ·have c1:=lT i0 x0.length (by omega);refine aD h3 fun y0 h5 H1 => ?_;refine pD 11 [r0 [.e bT],V2,r0 [.v,.v,.v,.e (.dptr (ae (x0.getD i0 ax))),.v,.c true (.bool y0)]] [.only [0,1,4,5,7,8,16] []] 11 [true] (aB c1 (aI bA x0 i0 ax (aC Tryz.call104 (aF (uf _ _ h5) aN)))) ?_;refine aK H1 (fun c2 H2 => ?_) (fun c3 H3 => ?_)
   ·obtain rfl:=sI H2;obtain rfl:=aR h4;obtain rfl:=sI (aA H0);exact pR 5 [.eqT 16 bT,V2] [] [] (aB c2 aN)
   ·refine bt 0 (ps:=[(x0.map ae).length≤9223372036854775807]) (by kernel_rfl) (fun l0 => ?_);have l1:x0.length≤9223372036854775807:=by simpa only [bI,Hp] using l0
    clear l0;obtain rfl:=sI H3;exact pB 4 [.eqT 16 bF,V2] [.only [0,1,4,7,8] []] (cI x0 (i0+1) ()) (aB c3 (aH i0 aN))
 ·subst e0;have H4:=bl H0;obtain rfl:=sI H4;exact pR 3 [V1] [] [] aN
def br (x0:List Linear):Option Bool :=
 (bY x0).bind fun y0 =>
 some (decide (y0≥0))
theorem dV (x0:List Linear) (r:Bool) (H:br x0=some r):aW Tryz.prog 88 [dS ae x0,.fn 104 []] (.bool r):=by unfold br at H;refine aX Tryz.func88 9 [.tmp 4] ?_;refine aD H fun y0 h0 H0 => ?_;obtain rfl:=sI H0;exact pR 5 [V1,r0 [.v,.v,.c true (iI y0),.v,.v]] [] [] (aC Tryz.call142 (aF (jR _ _ h0) aN))
def cz (x0:Shape):Option Bool :=
 bif (x0.Row==[]) then (
  bif decide (((x0.Dims.length:Nat):Int)≤6) then (
   (br x0.Dims).bind fun y0 =>
   some (!y0)
  ) else (
   some false
  )
 ) else (
  (dL x0.Row).bind fun y1 =>
  bif y1 then (
   bif decide (((x0.Dims.length:Nat):Int)≤6) then (
    (br x0.Dims).bind fun y2 =>
    some (!y2)
   ) else (
    some false
   )
  ) else (
   some false
  )
 )
theorem bN (x0:Shape) (r:Bool) (H:cz x0=some r):aW Tryz.prog 53 [.agg [.str x0.Row,dS ae x0.Dims]] (.bool r):=by
 unfold cz at H;refine aX Tryz.func53 23 [.tmp 2] ?_;refine aK H (fun c0 H0 => ?_) (fun c1 H1 => ?_)
 ·refine aK H0 (fun c2 H2 => ?_) (fun c3 H3 => ?_)
  ·refine aD H2 fun y0 h0 H4 => ?_;obtain rfl:=sI H4;exact pR 5 [r0 [.m,.v],r0 [.v,.v,.e bT,.v,.s,.s,.s,.v,.v,.v,.v,.e (nI x0.Dims.length),.e bT,.v,.v,.v,.v,.c true (.bool y0),.v,.v,.v]] [] [] (aB c0 (aT (aC (aG ae x0.Dims) (aB c2 (aC Tryz.call88 (aF (dV _ _ h0) (aT aN)))))))
  ·obtain rfl:=sI H3;exact pR 5 [r0 [.m,.v],r0 [.v,.v,.e bT,.v,.s,.s,.s,.v,.v,.v,.v,.e (nI x0.Dims.length),.e bF,.v,.v,.s,.s,.s,.s,.v,.v]] [] [] (aB c0 (aT (aC (aG ae x0.Dims) (aB c3 aN))))
 ·refine aD H1 fun y1 h1 H5 => ?_;refine aK H5 (fun c4 H6 => ?_) (fun c5 H7 => ?_)
  ·refine aK H6 (fun c6 H8 => ?_) (fun c7 H9 => ?_)
   ·refine aD H8 fun y2 h2 H10 => ?_;obtain rfl:=sI H10;exact pR 5 [r0 [.m,.v],r0 [.v,.v,.e bF,.v,.v,.v,.c true bT,.v,.v,.v,.v,.e (nI x0.Dims.length),.e bT,.v,.v,.v,.v,.c true (.bool y2),.v,.v,.v]] [] [] (aB c1 (aC Tryz.call103 (aC (aW.eq (bp _ _ h1) (cB c4)) (aT (aC (aG ae x0.Dims) (aB c6 (aC Tryz.call88 (aF (dV _ _ h2) (aT aN)))))))))
   ·obtain rfl:=sI H9;exact pR 5 [r0 [.m,.v],r0 [.v,.v,.e bF,.v,.v,.v,.c true bT,.v,.v,.v,.v,.e (nI x0.Dims.length),.e bF,.v,.v,.s,.s,.s,.s,.v,.v]] [] [] (aB c1 (aC Tryz.call103 (aC (aW.eq (bp _ _ h1) (cB c4)) (aT (aC (aG ae x0.Dims) (aB c7 aN))))))
  ·obtain rfl:=sI H7;exact pR 5 [r0 [.m,.v],r0 [.v,.v,.e bF,.v,.v,.v,.c true bF,.v,.v,.s,.s,.s,.s,.v,.v,.s,.s,.s,.s,.v,.v]] [] [] (aB c1 (aC Tryz.call103 (aC (aW.eq (bp _ _ h1) (cB c5)) aN)))
def cA (x0 x1:aq):Option aq :=
 (bO x0 x1).bind fun y0 =>
 bif y0 then (
  cb (0≤(bg (((x0.length:Nat):Int)-((x1.length:Nat):Int)))∧(bg (((x0.length:Nat):Int)-((x1.length:Nat):Int)))≤(x0.length:Int)) <|
  some (x0.take ((bg (((x0.length:Nat):Int)-((x1.length:Nat):Int))).toNat))
 ) else (
  none
 )
theorem hQ (x0 x1 r:aq) (H:cA x0 x1=some r):aW Tryz.prog 250 [.str x0,.str x1] (.str r):=by
 unfold cA at H;refine aX Tryz.func250 16 [.tmp 4] ?_;refine aD H fun y0 h0 H0 => ?_;refine aK H0 (fun c0 H1 => ?_) (fun c1 H2 => ?_)
 ·refine aP H1 fun g0 H3 => ?_;obtain rfl:=sI H3;exact pR 10 [V1,r0 [.v,.v,.c true (.bool y0)],.eqT 7 bT,r0 (V 5 [.w,.e (.str (x0.take ((bg (((x0.length:Nat):Int)-((x1.length:Nat):Int))).toNat))),.v])] [] [] (aC Tryz.call208 (aF (ck _ _ _ h0) (aB c0 (aT (aT (aC (show (0:Int)≤0∧0≤(bg (((x0.length:Nat):Int)-((x1.length:Nat):Int)))∧(bg (((x0.length:Nat):Int)-((x1.length:Nat):Int)))≤(x0.length:Int) from by omega) (aC (qq x0 ((bg (((x0.length:Nat):Int)-((x1.length:Nat):Int))).toNat)) aN)))))))
 ·cases H2
def strings_TrimSuffix (x0 x1:aq):Option aq :=
 (cA x0 x1).bind fun y0 =>
 some y0
theorem o5 (x0 x1 r:aq) (H:strings_TrimSuffix x0 x1=some r):aW Tryz.prog 218 [.str x0,.str x1] (.str r):=by unfold strings_TrimSuffix at H;refine aX Tryz.func218 8 [.tmp 4] ?_;refine aD H fun y0 h0 H0 => ?_;refine bc H0 fun e0 => ?_;subst e0;exact pR 5 [V1,r0 [.v,.v,.c true (.str y0),.v]] [] [] (aC Tryz.call250 (aF (hQ _ _ _ h0) aN))
def ir (x0:Int) (x1 x2:aq):Option aq :=
 (il x0).bind fun y0 =>
 ((
  bif (x1==[]) then (
   some false
  ) else (
   bif (x0==1) then (
    some true
   ) else (
    none
   )
  )
 ):Option Bool).bind fun v0 =>
 ((
  bif v0 then (
   (strings_TrimSuffix y0 [49]).bind fun y1 =>
   some y1
  ) else (
   some y0
  )
 ):Option aq).bind fun v1 =>
 bif decide (x0≥0) then (
  ((
   bif (x2==[]) then (
    some x2
   ) else (
    cb (x2.length+[43].length≤9223372036854775807) <|
    some (x2++[43])
   )
  ):Option aq).bind fun v2 =>
  cb (v1.length+x1.length≤9223372036854775807) <|
  cb (v2.length+(v1++x1).length≤9223372036854775807) <|
  some (v2++(v1++x1))
 ) else (
  none
 )
def hZ (x0:Int) (x1 x2 y0:aq) (v0:Bool):AS:=⟨33,[(0,iI x0),(1,.str x1),(2,.hptr 1000 0),(5,.str y0),(17,.bool v0)],[(1000,.cells 9 [.str x2])]⟩
def ib (x0:Int) (x1 x2 v1:aq):AS:=⟨33,[(0,iI x0),(1,.str x1),(2,.hptr 1000 0),(5,.str v1)],[(1000,.cells 9 [.str x2])]⟩
def hU (x1 v1 v2:aq):AS:=⟨33,[(1,.str x1),(2,.hptr 1000 0),(5,.str v1)],[(1000,.cells 9 [.str v2])]⟩
theorem nP (x0:Int) (x1 x2 r:aq) (H:ir x0 x1 x2=some r):bn Tryz.prog 217 [iI x0,.str x1,.hptr 1000 0] [(1000,.cells 9 [.str x2])] (fun r2 h0=>r2=(.tup [])∧h0=[(1000,.cells 9 [.str r])]):=by
 unfold ir at H;refine aX Tryz.func217 33 [] ?_;refine aD H fun y0 h1 H0 => ?_;refine pD 4 [r0 [.v,.c true (.str y0),.v]] [.only [0,1,2,5] [1000]] 4 [] (aC Tryz.call151 (aF (vz x0 y0 h1) aN)) ?_;refine aD H0 fun v0 h2 H1 => ?_;refine cS 0 (hZ x0 x1 x2 y0 v0) (by kernel_rfl) ?_ ?_
 ·refine aK h2 (fun c0 H2 => ?_) (fun c1 H3 => ?_)
  ·obtain rfl:=sI H2;exact pB 1 [r0 [.v,.e bF,.v,.s,.s,.s,.s,.s,.s,.v]] [.only [0,1,2,5,17] [1000]] (hZ x0 x1 x2 y0 false) (aM c0 aN)
  ·refine aK H3 (fun c2 H4 => ?_) (fun c3 H5 => ?_)
   ·obtain rfl:=sI H4;exact pB 1 [r0 [.v,.e bT,.v,.v,.e bT,.v,.s,.s,.v,.v]] [.only [0,1,2,5,17] [1000]] (hZ x0 x1 x2 y0 true) (aM c1 (aB c2 aN))
   ·cases H5
 ·refine aD H1 fun v1 h3 H6 => ?_;refine cS 0 (ib x0 x1 x2 v1) (by kernel_rfl) ?_ ?_
  ·refine aK h3 (fun c4 H7 => ?_) (fun c5 H8 => ?_)
   ·refine aD H7 fun y1 h4 H9 => ?_;refine bc H9 fun e0 => ?_;subst e0;exact pB 3 [.eqT 17 bT,r0 [.v,.c true (.str y1),.v]] [.only [0,1,2,5] [1000]] (ib x0 x1 x2 y1) (aB c4 (aC Tryz.call218 (aF (o5 _ _ _ h4) aN)))
   ·refine bc H8 fun e1 => ?_;subst e1;exact pB 3 [.eqT 17 bF] [.only [0,1,2,5] [1000]] (ib x0 x1 x2 y0) (aB c5 aN)
  ·refine aK H6 (fun c6 H10 => ?_) (fun c7 H11 => ?_)
   ·refine pD 3 [.rg 0 [] [.v,.e bT,.v,.v,.v,.v]] [.only [1,2,5,25] [1000]] 3 [] (aB c6 aN) ?_;refine aD H10 fun v2 h5 H12 => ?_;refine cS 0 (hU x1 v1 v2) (by kernel_rfl) ?_ ?_
    ·refine aK h5 (fun c8 H13 => ?_) (fun c9 H14 => ?_)
     ·refine bc H13 fun e2 => ?_;subst e2;exact pB 3 [.eqT 25 bF] [.only [1,2,5] [1000]] (hU x1 v1 x2) (aM c8 aN)
     ·refine aP H14 fun g0 H15 => ?_;obtain rfl:=sI H15;exact pB 3 [.eqT 25 bT,r0 [.v,.v,.m]] [.only [1,2,5] [1000]] (hU x1 v1 (x2++[43])) (aM c9 (aC (show x2.length+[43].length≤9223372036854775807 from g0) aN))
    ·refine aP H12 fun g1 H16 => ?_;refine aP H16 fun g2 H17 => ?_;obtain rfl:=sI H17;exact pR 1 [r0 (V 5 [.m])] [] [1000] (aC (show v1.length+x1.length≤9223372036854775807 from g1) (aC (show v2.length+(v1++x1).length≤9223372036854775807 from g2) aN))
   ·cases H11
def oK (x0:Linear):Option aq :=
 (bw x0).bind fun y0 =>
 bif y0 then (
  (dF (σ:=aq) (ε:=aq) (ρ:=Empty) (fun i0 s0 =>
   (ir ((x0.Terms.getD i0 aw).C) ((x0.Terms.getD i0 aw).Var) s0).bind fun y1 =>
   some (.go y1)
  ) (fun i0 s0=>s0) (x0.Terms.length-0) 0 []).bind <| dq fun u0 =>
  ((
   bif (x0.Const==0) then (
    some (u0==[])
   ) else (
    some true
   )
  ):Option Bool).bind fun v0 =>
  bif v0 then (
   (ir x0.Const [] u0).bind fun y2 =>
   some y2
  ) else (
   some u0
  )
 ) else (
  none
 )
def jU (x0:Linear) (i0:Nat) (s0:aq):AS:=⟨37,[(1,.hptr 1 0),(2,.str []),(3,.hptr 3 0),(4,.fn 217 [.hptr 3 0]),(12,dS ai x0.Terms),(13,nI x0.Terms.length),(14,nI i0)],[(1,.cells 29 [iI x0.Const,dS ai x0.Terms]),(3,.cells 9 [.str s0])]⟩
def oO (x0:Linear) (u1:aq):AS:=⟨37,[(1,.hptr 1 0),(2,.str []),(3,.hptr 3 0),(4,.fn 217 [.hptr 3 0])],[(1,.cells 29 [iI x0.Const,dS ai x0.Terms]),(3,.cells 9 [.str u1])]⟩
def j8 (x0:Linear) (u0:aq) (v0:Bool):AS:=⟨37,[(1,.hptr 1 0),(2,.str []),(3,.hptr 3 0),(4,.fn 217 [.hptr 3 0]),(31,.bool v0)],[(1,.cells 29 [iI x0.Const,dS ai x0.Terms]),(3,.cells 9 [.str u0])]⟩
theorem uQ (x0:Linear) (r:aq) (H:oK x0=some r):aW Tryz.prog 178 [.agg [iI x0.Const,dS ai x0.Terms]] (.str r):=by
 unfold oK at H;refine aX Tryz.func178 37 [.tmp 2] ?_;refine aD H fun y0 h0 H0 => ?_;refine aK H0 (fun c0 H1 => ?_) (fun c1 H2 => ?_)
 ·refine pA 16 [.rg 0 [] [.m,.v],.rg 0 [] [.v,.c true (.bool y0),.v],.eqT 9 bF,.rg 0 [] [.m,.m],.rg 0 [] [.v,.v],.rg 0 [] [.v,.v,.e (.int .i64 ((x0.Terms.length:Nat):Int)),.v]] [.only [1,2,3,4,12,13,14] [1,3]] 15 [false] (jU x0 0 []) (aC Tryz.call90 (aF (bj _ _ h0) (aT (aM c0 (aT (aC (aG ai x0.Terms) aN)))))) ?_;refine aD H1 fun R0 h1 H3 => ?_;refine pJ 1 (oO x0) R0 ?_ (fun u0 e0 => ?_)
  ·refine pC (jU x0) h1 (fun i0 s0 h2 e1 => ?_) (fun i0 s0 h3 q0 h4 h5 => ?_)
   ·have c2:=lF i0 x0.Terms.length (by omega);subst e1;exact pB 5 [r0 [.e bF]] [.only [1,2,3,4] [1,3]] (oO x0 s0) (aB c2 aN)
   ·have c3:=lT i0 x0.Terms.length (by omega);refine aD h4 fun y1 h6 H4 => ?_;refine bt 12 (ps:=[(x0.Terms.map ai).length≤9223372036854775807]) (by kernel_rfl) (fun l0 => ?_);have l1:x0.Terms.length≤9223372036854775807:=by simpa only [bI,Hp] using l0
    clear l0;obtain rfl:=sI H4;exact pB 11 [r0 [.e bT],r0 [.e (.dptr (ai (x0.Terms.getD i0 aw))),.v,.m,.m],r0 (V 5 [.hR [(3,1000)] 23 (.tup []) [(1000,.cells 9 [.str y1])]]),V2] [.only [1,2,3,4,12,13,14] [1,3]] (jU x0 (i0+1) y1) (aB c3 (aI bE x0.Terms i0 aw (aC Tryz.call217 (aC (nP _ _ _ _ h6) (aH i0 aN)))))
  ·subst e0;have H5:=a7 H3;refine pD 2 [] [.only [1,2,3,4] [1,3]] 2 [] aN ?_;refine aD H5 fun v0 h7 H6 => ?_;refine cS 0 (j8 x0 u0 v0) (by kernel_rfl) ?_ ?_
   ·refine aK h7 (fun c4 H7 => ?_) (fun c5 H8 => ?_)
    ·obtain rfl:=sI H7;exact pB 1 [r0 [.v,.v,.e bF,.v,.v,.v,.v]] [.only [1,2,3,4,31] [1,3]] (j8 x0 u0 (u0==[])) (aM c4 aN)
    ·obtain rfl:=sI H8;exact pB 1 [r0 [.v,.v,.e bT,.v,.s,.s,.v]] [.only [1,2,3,4,31] [1,3]] (j8 x0 u0 true) (aM c5 aN)
   ·refine aK H6 (fun c6 H9 => ?_) (fun c7 H10 => ?_)
    ·refine aD H9 fun y2 h8 H11 => ?_;refine bc H11 fun e2 => ?_;subst e2;exact pR 6 [.eqT 31 bT,r0 [.v,.v,.v,.hR [(3,1000)] 35 (.tup []) [(1000,.cells 9 [.str y2])]],V2] [] [] (aB c6 (aC Tryz.call217 (aC (nP _ _ _ _ h8) aN)))
    ·refine bc H10 fun e3 => ?_;subst e3;exact pR 6 [.eqT 31 bF,V2] [] [] (aB c7 aN)
 ·cases H2
def oe (x0:Shape):Option aq :=
 ((
  bif (x0.Row==[]) then (
   some []
  ) else (
   cb (x0.Row.length+[46,46].length≤9223372036854775807) <|
   some [(x0.Row++[46,46])]
  )
 ):Option (List aq)).bind fun v0 =>
 (dF (σ:=(List aq)) (ε:=(List aq)) (ρ:=Empty) (fun i0 s0 =>
  (oK (Linear.mk ((x0.Dims.getD i0 ax).Const) ((x0.Dims.getD i0 ax).Terms))).bind fun y0 =>
  cb ((s0.length+1)*16≤140737488355328) <|
  some (.go (s0++[y0]))
 ) (fun i0 s0=>s0) (x0.Dims.length-0) 0 v0).bind <| dq fun u0 =>
 (r6 u0 [44,32]).bind fun y1 =>
 cb ([91].length+y1.length≤9223372036854775807) <|
 cb (([91]++y1).length+[93].length≤9223372036854775807) <|
 some (([91]++y1)++[93])
def na (x0:Shape) (v0:List aq):AS:=⟨32,[(1,.hptr 1 0),(2,.str []),(3,.rslice 14)],[(1,.cells 34 [.str x0.Row,dS ae x0.Dims]),(14,.row 9 1 (v0.map aZ))]⟩
def nr (x0:Shape) (i0:Nat) (s0:List aq):AS:=⟨32,[(2,.str []),(3,.rslice 26),(16,dS ae x0.Dims),(17,nI x0.Dims.length),(18,nI i0)],[(26,.row 9 1 (s0.map aZ))]⟩
def q9 (u1:List aq):AS:=⟨32,[(2,.str []),(3,.rslice 26)],[(26,.row 9 1 (u1.map aZ))]⟩
theorem r8 (x0:Shape) (r:aq) (H:oe x0=some r):aW Tryz.prog 136 [.agg [.str x0.Row,dS ae x0.Dims]] (.str r):=by
 unfold oe at H;refine aX Tryz.func136 32 [.tmp 2] ?_;refine pD 7 [r0 [.m,.v],V1,V3] [.only [1,2,3,8] [1]] 7 [] aN ?_;refine aD H fun v0 h0 H0 => ?_;refine cS 0 (na x0 v0) (by kernel_rfl) ?_ ?_
 ·refine aK h0 (fun c0 H1 => ?_) (fun c1 H2 => ?_)
  ·obtain rfl:=sI H1;exact pB 3 [.eqT 8 bF] [.er 3 14 9 1,.only [1,2,3] [1,14]] (na x0 []) (aM c0 aN)
  ·refine aP H2 fun g0 H3 => ?_;obtain rfl:=sI H3;exact pB 3 [.eqT 8 bT,r0 (V 4 [.b,.er 9 14 9 1,.ap,.rwH 14 (.row 9 1 ([(x0.Row++[46,46])].map aZ)),.v])] [.only [1,2,3] [1,14]] (na x0 [(x0.Row++[46,46])]) (aM c1 (aC (show x0.Row.length+[46,46].length≤9223372036854775807 from g0) (a8 (qB (c:=aZ) oo [] [(x0.Row++[46,46])] 16 (by decide) (by simp)) (aC (CR 9 1 aZ [(x0.Row++[46,46])]) aN))))
 ·refine pA 4 [.rg 0 [] [.v,.v,.e (.int .i64 ((x0.Dims.length:Nat):Int)),.v]] [.ren [(14,26)],.only [2,3,16,17,18] [26]] 4 [] (nr x0 0 v0) (aT (aC (aG ae x0.Dims) aN)) ?_;refine aD H0 fun R0 h1 H4 => ?_;refine pJ 1 (q9) R0 ?_ (fun u0 e0 => ?_)
  ·refine pC (nr x0) h1 (fun i0 s0 h2 e1 => ?_) (fun i0 s0 h3 q0 h4 h5 => ?_)
   ·have c2:=lF i0 x0.Dims.length (by omega);subst e1;exact pB 5 [r0 [.e bF]] [.only [2,3] [26]] (q9 s0) (aB c2 aN)
   ·have c3:=lT i0 x0.Dims.length (by omega);refine aD h4 fun y0 h6 H5 => ?_;refine aP H5 fun g1 H6 => ?_;refine bt 16 (ps:=[(x0.Dims.map ae).length≤9223372036854775807]) (by kernel_rfl) (fun l0 => ?_);have l1:x0.Dims.length≤9223372036854775807:=by simpa only [bI,Hp] using l0
    clear l0;obtain rfl:=sI H6;exact pB 11 [r0 [.e bT],r0 [.e (.dptr (ae (x0.Dims.getD i0 ax))),.v,.m,.m],r0 [.v,.v,.c true (.str y0),.b,.ap,.rwH 26 (.row 9 1 ((s0++[y0]).map aZ)),.v],V2] [.only [2,3,16,17,18] [26]] (nr x0 (i0+1) (s0++[y0])) (aB c3 (aI bA x0.Dims i0 ax (aC Tryz.call178 (aF (uQ _ _ h6) (a8 (qB (c:=aZ) oo s0 [y0] 16 (by decide) (by first | (simp;done) | simpa using g1)) (aC (tI 9 1 aZ s0 [y0]) (aH i0 aN)))))))
  ·subst e0;have H7:=a7 H4;refine aD H7 fun y1 h7 H8 => ?_;refine aP H8 fun g2 H9 => ?_;refine aP H9 fun g3 H10 => ?_;obtain rfl:=sI H10;exact pR 3 [r0 [.v,.c false (.str y1),.v,.v,.v]] [] [] (aC Tryz.call179 (aF (Bq u0 [44,32] y1 h7) (aC (show [91].length+y1.length≤9223372036854775807 from g2) (aC (show ([91]++y1).length+[93].length≤9223372036854775807 from g3) aN))))
noncomputable def pO (x0:aq):Option (Shape×Int) :=
 (strings_CutPrefix x0 [91]).bind fun y0 =>
 (strings_CutSuffix y0.1 [93]).bind fun y1 =>
 bif y0.2 then (
  bif y1.2 then (
   (qv y1.1 [44,32]).bind fun y2 =>
   (dF (σ:=(aq×(List Linear))) (ε:=(aq×(List Linear))) (ρ:=Empty) (fun i0 s0 =>
    (strings_CutSuffix (y2.getD i0 []) [46,46]).bind fun y3 =>
    ((
     bif y3.2 then (
      bif (((i0:Nat):Int)==0) then (
       some (y3.1,s0.2)
      ) else (
       none
      )
     ) else (
      (ot (y2.getD i0 [])).bind fun y4 =>
      bif (y4.2==0) then (
       bif (y1.1==[]) then (
        none
       ) else (
        cb ((s0.2.length+1)*32≤140737488355328) <|
        some (s0.1,(s0.2++[y4.1]))
       )
      ) else (
       none
      )
     )
    ):Option (aq×(List Linear))).bind fun v0 =>
    some (.go (v0.1,v0.2))
   ) (fun i0 s0=>(s0.1,s0.2)) (y2.length-0) 0 ([],[])).bind <| dq fun u0 =>
   (cz (Shape.mk u0.1 u0.2)).bind fun y5 =>
   bif y5 then (
    (oe (Shape.mk u0.1 u0.2)).bind fun y6 =>
    bif (y6==x0) then (
     some ((Shape.mk u0.1 u0.2),0)
    ) else (
     none
    )
   ) else (
    none
   )
  ) else (
   none
  )
 ) else (
  none
 )
def lE (x0:aq) (y1:aq×Bool) (y2:List aq) (i0:Nat) (s0:aq×(List Linear)):AS:=⟨83,[(0,.str x0),(2,.hptr 2 0),(3,iI 0),(4,.str y1.1),(7,.hptr 7 0),(32,dS aZ y2),(33,nI y2.length),(34,nI i0)],[(2,.cells 34 [.str [],.eslice]),(7,.cells 34 [.str s0.1,.rslice 69]),(69,.row 29 2 (s0.2.map ae))]⟩
def o1 (x0:aq) (u1:aq×(List Linear)):AS:=⟨83,[(0,.str x0),(2,.hptr 2 0),(3,iI 0),(7,.hptr 7 0)],[(2,.cells 34 [.str [],.eslice]),(7,.cells 34 [.str u1.1,.rslice 69]),(69,.row 29 2 (u1.2.map ae))]⟩
def lY (x0:aq) (y1:aq×Bool) (y2:List aq) (i0:Nat) (v0:aq×(List Linear)):AS:=⟨83,[(0,.str x0),(2,.hptr 2 0),(3,iI 0),(4,.str y1.1),(7,.hptr 7 0),(32,dS aZ y2),(33,nI y2.length),(34,nI i0)],[(2,.cells 34 [.str [],.eslice]),(7,.cells 34 [.str v0.1,.rslice 69]),(69,.row 29 2 (v0.2.map ae))]⟩
theorem wq (x0:aq) (r:Shape×Int) (H:pO x0=some r):aW Tryz.prog 72 [.str x0] (.tup [.agg [.str r.1.Row,dS ae r.1.Dims],iI r.2]):=by
 unfold pO at H;refine aX Tryz.func72 83 [.cell 2 34,.tmp 3] ?_;refine aD H fun y0 h0 H0 => ?_;refine aD H0 fun y1 h1 H1 => ?_;refine aK H1 (fun c0 H2 => ?_) (fun c1 H3 => ?_)
 ·refine pD 10 [.rg 0 [] [.m,.v],.rg 0 [] [.v,.c true (.tup [.str y0.1,.bool y0.2]),.v,.v,.v,.v,.v],.rg 0 [] [.v,.c true (.tup [.str y1.1,.bool y1.2]),.v,.v,.v,.v,.v],.eqT 5 bT,.rg 0 [] (V 6 [])] [.only [0,2,3,4,29] [2]] 9 [] (aC Tryz.call80 (aF (kl _ _ _ h0) (aC Tryz.call133 (aF (kh _ _ _ h1) (aB c0 (aT (aT aN))))))) ?_;refine aK H2 (fun c2 H4 => ?_) (fun c3 H5 => ?_)
  ·refine aD H4 fun y2 h2 H6 => ?_;refine pA 9 [.eqT 29 bF,r0 [.m],r0 [.v,.c true (dS aZ y2),.e (nI y2.length),.v]] [.erH 7 1 69 29 2,.only [0,2,3,4,7,32,33,34] [2,7,69]] 8 [false] (lE x0 y1 y2 0 ([],[])) (aM c2 (aC Tryz.call134 (aF (zl y1.1 [44,32] y2 h2) (aT (aC (aG aZ y2) aN))))) ?_;refine aD H6 fun R0 h3 H7 => ?_;refine pJ 1 (o1 x0) R0 ?_ (fun u0 e0 => ?_)
   ·refine pC (lE x0 y1 y2) h3 (fun i0 s0 h4 e1 => ?_) (fun i0 s0 h5 q0 h6 h7 => ?_)
    ·have c4:=lF i0 y2.length (by omega);subst e1;exact pB 5 [r0 [.e bF]] [.only [0,2,3,7] [2,7,69]] (o1 x0 (s0.1,s0.2)) (aB c4 aN)
    ·have c5:=lT i0 y2.length (by omega);refine aD h6 fun y3 h8 H8 => ?_;refine pD 13 [r0 [.e bT],r0 [.v,.e (.dptr [.str (y2.getD i0 [])]),.v,.v,.v],r0 [.v,.c true (.tup [.str y3.1,.bool y3.2]),.v,.v,.v,.v,.v]] [.only [0,2,3,4,7,8,9,10,11,32,33,34] [2,7,69]] 13 [true] (aB c5 (aI rR y2 i0 [] (aC Tryz.call133 (aF (kh _ _ _ h8) aN)))) ?_;refine aD H8 fun v0 h9 H9 => ?_;refine cS 3 (lY x0 y1 y2 i0 v0) (by kernel_rfl) ?_ ?_
     ·refine aK h9 (fun c6 H10 => ?_) (fun c7 H11 => ?_)
      ·refine aK H10 (fun c8 H12 => ?_) (fun c9 H13 => ?_)
       ·obtain rfl:=sI H12;exact pB 7 [.eqT 11 bT,V5,.eqT 48 bT,r0 [.v,.v,.m]] [.only [0,2,3,4,7,32,33,34] [2,7,69]] (lY x0 y1 y2 i0 (y3.1,s0.2)) (aB c6 (aB c8 aN))
       ·cases H13
      ·refine aD H11 fun y4 h10 H14 => ?_;refine aK H14 (fun c10 H15 => ?_) (fun c11 H16 => ?_)
       ·refine pD 13 [.eqT 11 bF,.rg 0 [] [.v,.v,.s,.s,.v],.rg 0 [] [.v,.c true (.tup [.agg [.int .i64 y4.1.Const,.dslice (y4.1.Terms.map ai)],.int .i64 y4.2]),.v,.v,.v,.m,.m,.v],.rg 0 [] [.v,.e bF,.v,.s,.s,.v],.rg 0 [] [.v,.v]] [.only [0,2,3,4,7,12,32,33,34,64] [2,7,12,69]] 12 [false,false] (aB c7 (aC Tryz.call135 (aF (vP _ _ h10) (aM c10 aN)))) ?_;refine aK H15 (fun c12 H17 => ?_) (fun c13 H18 => ?_)
        ·cases H17
        ·refine aP H18 fun g0 H19 => ?_;obtain rfl:=sI H19;exact pB 3 [.eqT 64 bT,r0 [.v,.v,.v,.b,.ap,.rwH 69 (.row 29 2 ((s0.2++[y4.1]).map ae)),.v,.m]] [.only [0,2,3,4,7,32,33,34] [2,7,69]] (lY x0 y1 y2 i0 (s0.1,(s0.2++[y4.1]))) (aM c13 (a8 (qB (c:=ae) fF s0.2 [y4.1] 32 (by decide) (by first | (simp;done) | simpa using g0)) (aC (tI 29 2 ae s0.2 [y4.1]) aN)))
       ·cases H16
     ·refine bt 32 (ps:=[(y2.map aZ).length≤9223372036854775807]) (by kernel_rfl) (fun l0 => ?_);have l1:y2.length≤9223372036854775807:=by simpa only [bI,Hp] using l0
      clear l0;obtain rfl:=sI H9;exact pB 1 [V2] [.only [0,2,3,4,7,32,33,34] [2,7,69]] (lE x0 y1 y2 (i0+1) (v0.1,v0.2)) (aH i0 aN)
   ·subst e0;have H20:=a7 H7;refine aD H20 fun y5 h11 H21 => ?_;refine aK H21 (fun c14 H22 => ?_) (fun c15 H23 => ?_)
    ·refine aD H22 fun y6 h12 H24 => ?_;refine aK H24 (fun c16 H25 => ?_) (fun c17 H26 => ?_)
     ·obtain rfl:=sI H25;exact pR 9 [r0 [.v,.c false bT,.v,.v,.v,.c false (.str y6),.v,.v,.v],.eqT 80 bF,r0 [.v,.m,.v]] [.fz 69] [] (aC Tryz.call53 (aC (aW.eq (bN _ _ h11) (cB c14)) (aT (aC Tryz.call136 (aF (r8 _ _ h12) (aM c16 aN))))))
     ·cases H26
    ·cases H23
  ·cases H5
 ·cases H3
def ca (x0:aq):Option Bool :=
 bif decide (((x0.length:Nat):Int)<1) then (
  some false
 ) else (
  bif decide (((x0.length:Nat):Int)>30) then (
   some false
  ) else (
   cb (0<x0.length) <|
   bif decide (((x0.getD 0 0).toNat:Int)<65) then (
    some false
   ) else (
    bif decide (((x0.getD 0 0).toNat:Int)>90) then (
     some false
    ) else (
     cb (1≤x0.length) <|
     (pb (x0.drop 1) [48,49,50,51,52,53,54,55,56,57]).bind fun y0 =>
     some (y0==[])
    )
   )
  )
 )
theorem bh (x0:aq) (r:Bool) (H:ca x0=some r):aW Tryz.prog 79 [.str x0] (.bool r):=by
 unfold ca at H;refine aX Tryz.func79 25 [.tmp 2] ?_;refine aK H (fun c0 H0 => ?_) (fun c1 H1 => ?_)
 ·obtain rfl:=sI H0;exact pR 9 [V1,r0 [.v,.v,.e bT,.v,.s,.s,.s,.v,.v,.s,.s,.s,.v,.v,.s,.s,.s,.v],V1] [] [] (aT (aB c0 aN))
 ·have c1p:=Hl c1;refine aK H1 (fun c2 H2 => ?_) (fun c3 H3 => ?_)
  ·obtain rfl:=sI H2;exact pR 9 [V1,r0 [.v,.v,.e bF,.v,.v,.v,.e bT,.v,.v,.s,.s,.s,.v,.v,.s,.s,.s,.v],V1] [] [] (aT (aB c1 (aT (aB c2 aN))))
  ·have c3p:=Hl c3;refine aP H3 fun g0 H4 => ?_;refine aK H4 (fun c4 H5 => ?_) (fun c5 H6 => ?_)
   ·have c4p:=Hm c4;obtain rfl:=sI H5;exact pR 9 [V1,r0 [.v,.v,.e bF,.v,.v,.v,.e bF,.v,.v,.v,.v,.e bT,.v,.v,.s,.s,.s,.v],V1] [] [] (aT (aB c1 (aT (aB c3 (aC (show (0:Int)≤0∧0<(x0.length:Int) from by omega) (aB c4 aN))))))
   ·have c5p:=Hl c5;refine pD 5 [V1,r0 [.v,.v,.e bF,.v,.v,.v,.e bF,.v,.v,.v,.v,.e bF,.v,.v,.v,.v,.v,.v]] [.only [0,2,20] []] 5 [] (aT (aB c1 (aT (aB c3 (aC (show (0:Int)≤0∧0<(x0.length:Int) from by omega) (aB c5 (aC (show (0:Int)≤0∧0<(x0.length:Int) from by omega) aN))))))) ?_;refine aK H6 (fun c6 H7 => ?_) (fun c7 H8 => ?_)
    ·obtain rfl:=sI H7;exact pR 5 [.eqT 20 bT,V1] [] [] (aB c6 aN)
    ·have c7p:=Hl c7;refine aP H8 fun g1 H9 => ?_;refine aD H9 fun y0 h0 H10 => ?_;obtain rfl:=sI H10;exact pR 6 [.eqT 20 bF,r0 [.v,.e (.str (x0.drop 1)),.c true (.str y0),.v,.v]] [] [] (aB c7 (aC (show (0:Int)≤1∧1≤(x0.length:Int)∧(x0.length:Int)≤(x0.length:Int) from by omega) (aC (kz x0 1) (aC Tryz.call139 (aF (Be (x0.drop 1) [48,49,50,51,52,53,54,55,56,57] y0 h0) aN)))))
def dK (x0:bQ):Option Bool :=
 bif (x0.Elem==[105,110,116]) then (
  (cz x0.Shape).bind fun y0 =>
  some y0
 ) else (
  bif (x0.Elem==[98,111,111,108]) then (
   (cz x0.Shape).bind fun y1 =>
   some y1
  ) else (
   (ca x0.Elem).bind fun y2 =>
   bif y2 then (
    (cz x0.Shape).bind fun y3 =>
    some y3
   ) else (
    some false
   )
  )
 )
theorem ea (x0:bQ) (r:Bool) (H:dK x0=some r):aW Tryz.prog 62 [.agg [.str x0.Elem,.str x0.Shape.Row,dS ae x0.Shape.Dims]] (.bool r):=by
 unfold dK at H;refine aX Tryz.func62 21 [.tmp 2] ?_;refine aK H (fun c0 H0 => ?_) (fun c1 H1 => ?_)
 ·refine aD H0 fun y0 h0 H2 => ?_;refine bc H2 fun e0 => ?_;subst e0;exact pR 5 [r0 [.m,.v],r0 [.v,.v,.e bT,.v,.s,.s,.s,.v,.v,.s,.s,.s,.v,.v,.v,.v,.c true (.bool y0),.v,.v]] [] [] (aB c0 (aC Tryz.call53 (aF (bN _ _ h0) aN)))
 ·refine aK H1 (fun c2 H3 => ?_) (fun c3 H4 => ?_)
  ·refine aD H3 fun y1 h1 H5 => ?_;refine bc H5 fun e1 => ?_;subst e1;exact pR 5 [r0 [.m,.v],r0 [.v,.v,.e bF,.v,.v,.v,.e bT,.v,.v,.s,.s,.s,.v,.v,.v,.v,.c true (.bool y1),.v,.v]] [] [] (aB c1 (aB c2 (aC Tryz.call53 (aF (bN _ _ h1) aN))))
  ·refine aD H4 fun y2 h2 H6 => ?_;refine aK H6 (fun c4 H7 => ?_) (fun c5 H8 => ?_)
   ·refine aD H7 fun y3 h3 H9 => ?_;refine bc H9 fun e2 => ?_;subst e2;exact pR 5 [r0 [.m,.v],r0 [.v,.v,.e bF,.v,.v,.v,.e bF,.v,.v,.v,.v,.c true bT,.v,.v,.v,.v,.c true (.bool y3),.v,.v]] [] [] (aB c1 (aB c3 (aC Tryz.call79 (aC (aW.eq (bh _ _ h2) (cB c4)) (aC Tryz.call53 (aF (bN _ _ h3) aN))))))
   ·obtain rfl:=sI H8;exact pR 5 [r0 [.m,.v],r0 [.v,.v,.e bF,.v,.v,.v,.e bF,.v,.v,.v,.v,.c true bF,.v,.v,.s,.s,.s,.v,.v]] [] [] (aB c1 (aB c3 (aC Tryz.call79 (aC (aW.eq (bh _ _ h2) (cB c5)) aN))))
def pG (x0:Shape):Option (aq×Int) :=
 (cz x0).bind fun y0 =>
 bif y0 then (
  (oe x0).bind fun y1 =>
  some (y1,0)
 ) else (
  none
 )
theorem qT (x0:Shape) (r:aq×Int) (H:pG x0=some r):aW Tryz.prog 137 [.agg [.str x0.Row,dS ae x0.Dims]] (.tup [.str r.1,iI r.2]):=by
 unfold pG at H;refine aX Tryz.func137 9 [.tmp 2,.tmp 3] ?_;refine aD H fun y0 h0 H0 => ?_;refine aK H0 (fun c0 H1 => ?_) (fun c1 H2 => ?_)
 ·refine aD H1 fun y1 h1 H3 => ?_;obtain rfl:=sI H3;exact pR 11 [r0 [.m,.v,.v],r0 [.v,.c true (.bool y0),.v],.eqT 6 bF,r0 [.v,.c true (.str y1),.v,.v]] [] [] (aC Tryz.call53 (aF (bN _ _ h0) (aT (aM c0 (aC Tryz.call136 (aF (r8 _ _ h1) aN))))))
 ·cases H2
def ry (x0:bQ):Option aq :=
 (pG x0.Shape).bind fun y0 =>
 bif (y0.1==[91,93]) then (
  some x0.Elem
 ) else (
  cb (y0.1.length+x0.Elem.length≤9223372036854775807) <|
  some (y0.1++x0.Elem)
 )
theorem xS (x0:bQ) (r:aq) (H:ry x0=some r):aW Tryz.prog 73 [.agg [.str x0.Elem,.str x0.Shape.Row,dS ae x0.Shape.Dims]] (.str r):=by
 unfold ry at H;refine aX Tryz.func73 19 [.tmp 2] ?_;refine aD H fun y0 h0 H0 => ?_;refine aK H0 (fun c0 H1 => ?_) (fun c1 H2 => ?_)
 ·obtain rfl:=sI H1;exact pR 12 [r0 [.m,.v],r0 [.v,.v,.c true (.tup [.str y0.1,iI y0.2]),.v,.v,.v,.v,.v],V2,.eqT 12 bT,V3] [] [] (aC Tryz.call137 (aF (qT _ _ h0) (aB c0 aN)))
 ·refine aP H2 fun g0 H3 => ?_;obtain rfl:=sI H3;exact pR 13 [r0 [.m,.v],r0 [.v,.v,.c true (.tup [.str y0.1,iI y0.2]),.v,.v,.v,.v,.v],V2,.eqT 12 bF,V5] [] [] (aC Tryz.call137 (aF (qT _ _ h0) (aB c1 (aC (show y0.1.length+x0.Elem.length≤9223372036854775807 from g0) aN))))
noncomputable def pZ (x0:aq):Option (bQ×Int) :=
 (strings_IndexByte x0 93).bind fun y0 =>
 ((
  bif decide (y0≥0) then (
   cb (0≤(bg (y0+1))∧(bg (y0+1))≤(x0.length:Int)) <|
   (pO (x0.take ((bg (y0+1)).toNat))).bind fun y1 =>
   bif (y1.2==0) then (
    some ((x0.drop ((bg (y0+1)).toNat)),y1.1.Row,y1.1.Dims)
   ) else (
    none
   )
  ) else (
   some (x0,[],[])
  )
 ):Option (aq×aq×(List Linear))).bind fun v0 =>
 (dK (bQ.mk v0.1 (Shape.mk v0.2.1 v0.2.2))).bind fun y2 =>
 bif y2 then (
  (ry (bQ.mk v0.1 (Shape.mk v0.2.1 v0.2.2))).bind fun y3 =>
  bif (y3==x0) then (
   some ((bQ.mk v0.1 (Shape.mk v0.2.1 v0.2.2)),0)
  ) else (
   none
  )
 ) else (
  none
 )
def k8 (x0:aq) (v0:aq×aq×(List Linear)):AS:=⟨42,[(0,.str x0),(2,.hptr 2 0),(3,iI 0),(4,.hptr 4 0)],[(2,.cells 36 [.str [],.str [],.eslice]),(4,.cells 36 [.str v0.1,.str v0.2.1,dS ae v0.2.2])]⟩
theorem wy (x0:aq) (r:bQ×Int) (H:pZ x0=some r):aW Tryz.prog 36 [.str x0] (.tup [.agg [.str r.1.Elem,.str r.1.Shape.Row,dS ae r.1.Shape.Dims],iI r.2]):=by
 unfold pZ at H;refine aX Tryz.func36 42 [.cell 2 36,.tmp 3] ?_;refine aD H fun y0 h0 H0 => ?_;refine pD 9 [r0 [.m,.v],r0 [.v,.b,.m,.m],r0 [.v,.c true (iI y0),.v],V2] [.only [0,2,3,4,5,13] [2,4]] 9 [] (aC Tryz.call71 (aF (qA _ _ _ h0) aN)) ?_;refine aD H0 fun v0 h1 H1 => ?_;refine cS 0 (k8 x0 v0) (by kernel_rfl) ?_ ?_
 ·refine aK h1 (fun c0 H2 => ?_) (fun c1 H3 => ?_)
  ·have c0p:=Hm c0;refine aP H2 fun g0 H4 => ?_;refine aD H4 fun y1 h2 H5 => ?_;refine pD 7 [.eqT 13 bT,r0 [.v,.v,.w,.e (.str (x0.take ((bg (y0+1)).toNat))),.c true (.tup [.agg [.str y1.1.Row,dS ae y1.1.Dims],iI y1.2]),.v,.v,.v,.m,.m,.v],V2] [.only [0,2,3,4,5,6,23] [2,4,6]] 6 [true] (aB c0 (aC (show (0:Int)≤0∧0≤(bg (y0+1))∧(bg (y0+1))≤(x0.length:Int) from by omega) (aC (qq x0 ((bg (y0+1)).toNat)) (aC Tryz.call72 (aF (wq _ _ h2) aN))))) ?_;refine aK H5 (fun c2 H6 => ?_) (fun c3 H7 => ?_)
   ·obtain rfl:=sI H6;exact pB 4 [.eqT 23 bF,.rg 5 [.v,.v,.w,.e (.str (x0.drop ((bg (y0+1)).toNat))),.v] [.b,.m]] [.only [0,2,3,4] [2,4]] (k8 x0 ((x0.drop ((bg (y0+1)).toNat)),y1.1.Row,y1.1.Dims)) (aM c2 (aC (show (0:Int)≤(bg (y0+1))∧(bg (y0+1))≤(x0.length:Int)∧(x0.length:Int)≤(x0.length:Int) from by omega) (aC (kz x0 ((bg (y0+1)).toNat)) aN)))
   ·cases H7
  ·obtain rfl:=sI H3;exact pB 3 [.eqT 13 bF] [.wkH 4 2 [],.only [0,2,3,4] [2,4]] (k8 x0 (x0,[],[])) (aB c1 aN)
 ·refine aD H1 fun y2 h3 H8 => ?_;refine aK H8 (fun c4 H9 => ?_) (fun c5 H10 => ?_)
  ·refine aD H9 fun y3 h4 H11 => ?_;refine aK H11 (fun c6 H12 => ?_) (fun c7 H13 => ?_)
   ·obtain rfl:=sI H12;exact pR 9 [r0 [.v,.c true bT,.v,.v,.v,.c true (.str y3),.v,.v,.v],.eqT 39 bF,r0 [.v,.m,.v]] [] [] (aC Tryz.call62 (aC (aW.eq (ea _ _ h3) (cB c4)) (aT (aC Tryz.call73 (aF (xS _ _ h4) (aM c6 aN))))))
   ·cases H13
  ·cases H10
noncomputable def gZ (x0:aq):Option bQ :=
 (pZ x0).bind fun y0 =>
 some y0.1
theorem jv (x0:aq) (r:bQ) (H:gZ x0=some r):aW Tryz.prog 17 [.str x0] (.agg [.str r.Elem,.str r.Shape.Row,dS ae r.Shape.Dims]):=by unfold gZ at H;refine aX Tryz.func17 11 [.cell 2 36] ?_;refine aD H fun y0 h0 H0 => ?_;obtain rfl:=sI H0;exact pR 7 [r0 [.m],r0 [.v,.c true (.tup [.agg [.str y0.1.Elem,.str y0.1.Shape.Row,dS ae y0.1.Shape.Dims],iI y0.2]),.v,.v,.v,.m,.m,.v],r0 [.v,.m]] [] [] (aC Tryz.call36 (aF (wy _ _ h0) aN))
def mL (x0:ah):Option Bool :=
 (dK x0.A).bind fun y0 =>
 bif y0 then (
  (dK x0.B).bind fun y1 =>
  some (!y1)
 ) else (
  none
 )
theorem tZ (x0:ah) (r:Bool) (H:mL x0=some r):aW Tryz.prog 77 [.agg [.str x0.A.Elem,.str x0.A.Shape.Row,dS ae x0.A.Shape.Dims,.str x0.B.Elem,.str x0.B.Shape.Row,dS ae x0.B.Shape.Dims]] (.bool r):=by
 unfold mL at H;refine aX Tryz.func77 13 [.tmp 2] ?_;refine aD H fun y0 h0 H0 => ?_;refine aK H0 (fun c0 H1 => ?_) (fun c1 H2 => ?_)
 ·refine aD H1 fun y1 h1 H3 => ?_;obtain rfl:=sI H3;exact pR 5 [r0 [.m,.v],r0 [.v,.v,.c true bT,.v,.v,.v,.v,.c true (.bool y1),.v,.v,.v]] [] [] (aC Tryz.call62 (aC (aW.eq (ea _ _ h0) (cB c0)) (aT (aC Tryz.call62 (aF (ea _ _ h1) (aT aN))))))
 ·cases H2
def db (x0:List ah):Option Int :=
 (dF (σ:=Unit) (ε:=Unit) (ρ:=Empty) (fun i0 s0 =>
  (mL (ah.mk (bQ.mk (((x0.getD i0 aa).A).Elem) (Shape.mk ((((x0.getD i0 aa).A).Shape).Row) ((((x0.getD i0 aa).A).Shape).Dims))) (bQ.mk (((x0.getD i0 aa).B).Elem) (Shape.mk ((((x0.getD i0 aa).B).Shape).Row) ((((x0.getD i0 aa).B).Shape).Dims))))).bind fun y0 =>
  bif y0 then (
   none
  ) else (
   some (.go ())
  )
 ) (fun i0 s0=>()) (x0.length-0) 0 ()).bind <| dq fun u0 =>
 some (-1)
def cO (x0:List ah) (i0:Nat) (s0:Unit):AS:=⟨19,[(0,dS ag x0),(1,.fn 77 []),(4,iI 0),(7,nI x0.length),(8,nI i0)],[]⟩
def eK (u1:Unit):AS:=⟨19,[(4,iI 0)],[]⟩
theorem jG (x0:List ah) (r:Int) (H:db x0=some r):aW Tryz.prog 138 [dS ag x0,.fn 77 []] (iI r):=by
 unfold db at H;refine aX Tryz.func138 19 [.tmp 4] ?_;refine pA 6 [V1,r0 [.v,.e (nI x0.length),.v]] [.only [0,1,4,7,8] []] 6 [] (cO x0 0 ()) (aT (aC (aG ag x0) aN)) ?_;refine aD H fun R0 h0 H0 => ?_;refine pJ 1 (eK) R0 ?_ (fun u0 e0 => ?_)
 ·refine pC (cO x0) h0 (fun i0 s0 h1 e1 => ?_) (fun i0 s0 h2 q0 h3 h4 => ?_)
  ·have c0:=lF i0 x0.length (by omega);subst e1;exact pB 5 [r0 [.e bF]] [.only [4] []] (eK ()) (aB c0 aN)
  ·have c1:=lT i0 x0.length (by omega);refine aD h3 fun y0 h5 H1 => ?_;refine pD 11 [r0 [.e bT],V2,r0 [.v,.v,.v,.e (.dptr [.str (((x0.getD i0 aa).A).Elem),.str ((((x0.getD i0 aa).A).Shape).Row),.dslice (((((x0.getD i0 aa).A).Shape).Dims).map ae),.str (((x0.getD i0 aa).B).Elem),.str ((((x0.getD i0 aa).B).Shape).Row),.dslice (((((x0.getD i0 aa).B).Shape).Dims).map ae)]),.v,.c true (.bool y0)]] [.only [0,1,4,5,7,8,16] []] 11 [true] (aB c1 (aI aS x0 i0 aa (aC Tryz.call77 (aF (tZ _ _ h5) aN)))) ?_;refine aK H1 (fun c2 H2 => ?_) (fun c3 H3 => ?_)
   ·cases H2
   ·refine bt 0 (ps:=[(x0.map ag).length≤9223372036854775807]) (by kernel_rfl) (fun l0 => ?_);have l1:x0.length≤9223372036854775807:=by simpa only [bI,Hp] using l0
    clear l0;obtain rfl:=sI H3;exact pB 4 [.eqT 16 bF,V2] [.only [0,1,4,7,8] []] (cO x0 (i0+1) ()) (aB c3 (aH i0 aN))
 ·subst e0;have H4:=a7 H0;obtain rfl:=sI H4;exact pR 3 [V1] [] [] aN
def cM (x0:List ah):Option Bool :=
 (db x0).bind fun y0 =>
 some (decide (y0≥0))
theorem ia (x0:List ah) (r:Bool) (H:cM x0=some r):aW Tryz.prog 76 [dS ag x0,.fn 77 []] (.bool r):=by unfold cM at H;refine aX Tryz.func76 9 [.tmp 4] ?_;refine aD H fun y0 h0 H0 => ?_;obtain rfl:=sI H0;exact pR 5 [V1,r0 [.v,.v,.c true (iI y0),.v,.v]] [] [] (aC Tryz.call138 (aF (jG _ _ h0) aN))
def pe (x0:List ah):Option Bool :=
 bif decide (((x0.length:Nat):Int)≤6000) then (
  (cM x0).bind fun y0 =>
  some (!y0)
 ) else (
  none
 )
theorem wD (x0:List ah) (r:Bool) (H:pe x0=some r):aW Tryz.prog 39 [dS ag x0] (.bool r):=by
 unfold pe at H;refine aX Tryz.func39 11 [.tmp 2] ?_;refine aK H (fun c0 H0 => ?_) (fun c1 H1 => ?_)
 ·refine aD H0 fun y0 h0 H2 => ?_;obtain rfl:=sI H2;exact pR 5 [V1,r0 [.v,.e (nI x0.length),.e bT,.v,.v,.c true (.bool y0),.v,.v,.v]] [] [] (aT (aC (aG ag x0) (aB c0 (aC Tryz.call76 (aF (ia _ _ h0) (aT aN))))))
 ·cases H1
def mF (x0:Linear):Option (List aq) :=
 (dF (σ:=(List aq)) (ε:=(List aq)) (ρ:=Empty) (fun i0 s0 =>
  cb ((s0.length+1)*16≤140737488355328) <|
  some (.go (s0++[((x0.Terms.getD i0 aw).Var)]))
 ) (fun i0 s0=>s0) (x0.Terms.length-0) 0 []).bind <| dq fun u0 =>
 some u0
def lM (x0:Linear) (i0:Nat) (s0:List aq):AS:=⟨20,[(2,.eslice),(3,.rslice 17),(7,dS ai x0.Terms),(8,nI x0.Terms.length),(9,nI i0)],[(17,.row 9 1 (s0.map aZ))]⟩
def p7 (u1:List aq):AS:=⟨20,[(2,.eslice),(3,.rslice 17)],[(17,.row 9 1 (u1.map aZ))]⟩
theorem qN (x0:Linear) (r:List aq) (H:mF x0=some r):aW Tryz.prog 98 [.agg [iI x0.Const,dS ai x0.Terms]] (dS aZ r):=by
 unfold mF at H;refine aX Tryz.func98 20 [.tmp 2] ?_;refine pA 8 [r0 [.m,.v],V1,r0 [.v,.v,.e (nI x0.Terms.length),.v]] [.er 3 17 9 1,.only [2,3,7,8,9] [17]] 8 [] (lM x0 0 []) (aT (aC (aG ai x0.Terms) aN)) ?_;refine aD H fun R0 h0 H0 => ?_;refine pJ 1 (p7) R0 ?_ (fun u0 e0 => ?_)
 ·refine pC (lM x0) h0 (fun i0 s0 h1 e1 => ?_) (fun i0 s0 h2 q0 h3 h4 => ?_)
  ·have c0:=lF i0 x0.Terms.length (by omega);subst e1;exact pB 5 [r0 [.e bF]] [.only [2,3] [17]] (p7 s0) (aB c0 aN)
  ·have c1:=lT i0 x0.Terms.length (by omega);refine aP h3 fun g0 H1 => ?_;refine bt 7 (ps:=[(x0.Terms.map ai).length≤9223372036854775807]) (by kernel_rfl) (fun l0 => ?_);have l1:x0.Terms.length≤9223372036854775807:=by simpa only [bI,Hp] using l0
   clear l0;obtain rfl:=sI H1;exact pB 11 [r0 [.e bT],r0 [.e (.dptr (ai (x0.Terms.getD i0 aw))),.v,.m,.m],r0 [.v,.v,.v,.b,.ap,.rwH 17 (.row 9 1 ((s0++[((x0.Terms.getD i0 aw).Var)]).map aZ)),.v],V2] [.only [2,3,7,8,9] [17]] (lM x0 (i0+1) (s0++[((x0.Terms.getD i0 aw).Var)])) (aB c1 (aI bE x0.Terms i0 aw (a8 (qB (c:=aZ) oo s0 [((x0.Terms.getD i0 aw).Var)] 16 (by decide) (by first | (simp;done) | simpa using g0)) (aC (tI 9 1 aZ s0 [((x0.Terms.getD i0 aw).Var)]) (aH i0 aN)))))
 ·subst e0;have H2:=a7 H0;refine bc H2 fun e2 => ?_;subst e2;exact pR 3 [V2] [.fz 17] [] aN
def kq (x0:Bind) (x1:Int) (x2:aq):Option Bool :=
 bif (x0.Kind==x1) then (
  some (x0.Var==x2)
 ) else (
  some false
 )
theorem u9 (x0:Bind) (x1:Int) (x2:aq) (r:Bool) (H:kq x0 x1 x2=some r):aW Tryz.prog 106 [.agg [iI x0.Kind,.str x0.Var,iI x0.Dim.Const,dS ai x0.Dim.Terms,.str x0.Row.Row,dS ae x0.Row.Dims,.str x0.Elem],.dptr [iI x1],.dptr [.str x2]] (.bool r):=by
 unfold kq at H;refine aX Tryz.func106 15 [.tmp 4] ?_;refine aK H (fun c0 H0 => ?_) (fun c1 H1 => ?_)
 ·obtain rfl:=sI H0;exact pR 5 [r0 [.m,.v],r0 [.v,.v,.v,.e bT,.v,.v,.v,.v,.v,.v,.v]] [] [] (aB c0 aN)
 ·obtain rfl:=sI H1;exact pR 5 [r0 [.m,.v],r0 [.v,.v,.v,.e bF,.v,.s,.s,.s,.s,.v,.v]] [] [] (aB c1 aN)
def cC (x0:List Bind) (x1:Int) (x2:aq):Option Int :=
 (dF (σ:=Unit) (ε:=Unit) (ρ:=Int) (fun i0 s0 =>
  (kq (Bind.mk ((x0.getD i0 ak).Kind) ((x0.getD i0 ak).Var) (Linear.mk (((x0.getD i0 ak).Dim).Const) (((x0.getD i0 ak).Dim).Terms)) (Shape.mk (((x0.getD i0 ak).Row).Row) (((x0.getD i0 ak).Row).Dims)) ((x0.getD i0 ak).Elem)) x1 x2).bind fun y0 =>
  bif y0 then (
   some (.ret ((i0:Nat):Int))
  ) else (
   some (.go ())
  )
 ) (fun i0 s0=>()) (x0.length-0) 0 ()).bind <| aft fun u0 =>
 some (-1)
def cY (x0:List Bind) (x1:Int) (x2:aq) (i0:Nat) (s0:Unit):AS:=⟨19,[(0,dS al x0),(1,.fn 106 [.hptr 1000 0,.hptr 1001 0]),(4,iI 0),(7,nI x0.length),(8,nI i0)],[(1000,.cells 3 [iI x1]),(1001,.cells 9 [.str x2])]⟩
def e6 (x1:Int) (x2:aq) (u1:Unit):AS:=⟨19,[(4,iI 0)],[(1000,.cells 3 [iI x1]),(1001,.cells 9 [.str x2])]⟩
theorem ko (x0:List Bind) (x1:Int) (x2:aq) (r:Int) (H:cC x0 x1 x2=some r):bn Tryz.prog 105 [dS al x0,.fn 106 [.hptr 1000 0,.hptr 1001 0]] [(1000,.cells 3 [iI x1]),(1001,.cells 9 [.str x2])] (fun r2 h0=>r2=(iI r)∧h0=[(1000,.cells 3 [iI x1]),(1001,.cells 9 [.str x2])]):=by
 unfold cC at H;refine aX Tryz.func105 19 [.tmp 4] ?_;refine pA 6 [V1,r0 [.v,.e (nI x0.length),.v]] [.only [0,1,4,7,8] [1000,1001]] 6 [] (cY x0 x1 x2 0 ()) (aT (aC (aG al x0) aN)) ?_;refine aD H fun R0 h1 H0 => ?_;refine pJ 1 (e6 x1 x2) R0 ?_ (fun u0 e0 => ?_)
 ·refine pC (cY x0 x1 x2) h1 (fun i0 s0 h2 e1 => ?_) (fun i0 s0 h3 q0 h4 h5 => ?_)
  ·have c0:=lF i0 x0.length (by omega);subst e1;exact pB 5 [r0 [.e bF]] [.only [4] [1000,1001]] (e6 x1 x2 ()) (aB c0 aN)
  ·have c1:=lT i0 x0.length (by omega);refine aD h4 fun y0 h6 H1 => ?_;refine pD 11 [r0 [.e bT],V2,r0 [.v,.v,.v,.e (.dptr (al (x0.getD i0 ak))),.v,.c false (.bool y0)]] [.only [0,1,4,5,7,8,16] [1000,1001]] 11 [true] (aB c1 (aI aQ x0 i0 ak (aC Tryz.call106 (aF (u9 _ _ _ _ h6) aN)))) ?_;refine aK H1 (fun c2 H2 => ?_) (fun c3 H3 => ?_)
   ·obtain rfl:=sI H2;obtain rfl:=aR h5;obtain rfl:=sI (aA H0);exact pR 5 [.eqT 16 bT,V2] [] [1000,1001] (aB c2 aN)
   ·refine bt 0 (ps:=[(x0.map al).length≤9223372036854775807]) (by kernel_rfl) (fun l0 => ?_);have l1:x0.length≤9223372036854775807:=by simpa only [bI,Hp] using l0
    clear l0;obtain rfl:=sI H3;exact pB 4 [.eqT 16 bF,V2] [.only [0,1,4,7,8] [1000,1001]] (cY x0 x1 x2 (i0+1) ()) (aB c3 (aH i0 aN))
 ·subst e0;have H4:=bl H0;obtain rfl:=sI H4;exact pR 3 [V1] [] [1000,1001] aN
def gI (x0:List Bind) (x1:Int) (x2:aq):Option Int :=
 (cC x0 x1 x2).bind fun y0 =>
 some y0
theorem od (x0:List Bind) (x1:Int) (x2:aq) (r:Int) (H:gI x0 x1 x2=some r):aW Tryz.prog 54 [dS al x0,iI x1,.str x2] (iI r):=by unfold gI at H;refine aX Tryz.func54 10 [.tmp 6] ?_;refine aD H fun y0 h0 H0 => ?_;refine bc H0 fun e0 => ?_;subst e0;exact pR 5 [r0 [.m,.m,.v],r0 [.v,.v,.hR [(4,1000),(5,1001)] 9 (iI y0) [(1000,.cells 3 [iI x1]),(1001,.cells 9 [.str x2])],.v]] [] [] (aC Tryz.call105 (aC (ko _ _ _ _ h0) aN))
def rA (x0:Shape):Option (List Bind) :=
 (cz x0).bind fun y0 =>
 bif y0 then (
  ((
   bif (x0.Row==[]) then (
    some []
   ) else (
    some [(Bind.mk 2 x0.Row (Linear.mk 0 []) (Shape.mk [] []) [])]
   )
  ):Option (List Bind)).bind fun v0 =>
  (dF (σ:=(List Bind)) (ε:=(List Bind)) (ρ:=Empty) (fun i0 s0 =>
   (mF (Linear.mk ((x0.Dims.getD i0 ax).Const) ((x0.Dims.getD i0 ax).Terms))).bind fun y1 =>
   (dF (σ:=(List Bind)) (ε:=(List Bind)) (ρ:=Empty) (fun i1 s1 =>
    (gI s1 1 (y1.getD i1 [])).bind fun y2 =>
    bif decide (y2<0) then (
     cb ((s1.length+1)*112≤140737488355328) <|
     some (.go (s1++[(Bind.mk 1 (y1.getD i1 []) (Linear.mk 0 []) (Shape.mk [] []) [])]))
    ) else (
     none
    )
   ) (fun i1 s1=>s1) (y1.length-0) 0 s0).bind <| dq fun u0 =>
   some (.go u0)
  ) (fun i0 s0=>s0) (x0.Dims.length-0) 0 v0).bind <| dq fun u1 =>
  some u1
 ) else (
  none
 )
def mU (x0:Shape) (v0:List Bind):AS:=⟨46,[(1,.hptr 1 0),(2,.eslice),(3,.rslice 19)],[(1,.cells 34 [.str x0.Row,dS ae x0.Dims]),(19,.row 62 7 (v0.map al))]⟩
def mS (x0:Shape) (i0:Nat) (s0:List Bind):AS:=⟨46,[(2,.eslice),(3,.rslice 42),(21,dS ae x0.Dims),(22,nI x0.Dims.length),(23,nI i0)],[(42,.row 62 7 (s0.map al))]⟩
def qK (u2:List Bind):AS:=⟨46,[(2,.eslice),(3,.rslice 42)],[(42,.row 62 7 (u2.map al))]⟩
def mZ (x0:Shape) (i0:Nat) (y1:List aq) (i1:Nat) (s1:List Bind):AS:=⟨46,[(2,.eslice),(3,.rslice 42),(21,dS ae x0.Dims),(22,nI x0.Dims.length),(23,nI i0),(28,dS aZ y1),(29,nI y1.length),(30,nI i1)],[(42,.row 62 7 (s1.map al))]⟩
def qG (x0:Shape) (i0:Nat) (u3:List Bind):AS:=⟨46,[(2,.eslice),(3,.rslice 42),(21,dS ae x0.Dims),(22,nI x0.Dims.length),(23,nI i0)],[(42,.row 62 7 (u3.map al))]⟩
theorem x6 (x0:Shape) (r:List Bind) (H:rA x0=some r):bn Tryz.prog 78 [.agg [.str x0.Row,dS ae x0.Dims]] [] (fun r2 h0=>r2=(.rslice 0)∧h0=[(0,.row 62 7 (r.map al))]):=by
 unfold rA at H;refine aX Tryz.func78 46 [.tmp 2] ?_;refine aD H fun y0 h1 H0 => ?_;refine aK H0 (fun c0 H1 => ?_) (fun c1 H2 => ?_)
 ·refine pD 13 [.rg 0 [] [.m,.v],.rg 0 [] [.v,.c true (.bool y0),.v],.eqT 10 bF,.rg 0 [] [.v],.rg 0 [] [.v,.v,.v]] [.only [1,2,3,13] [1]] 12 [false] (aC Tryz.call53 (aF (bN _ _ h1) (aT (aM c0 aN)))) ?_;refine aD H1 fun v0 h2 H3 => ?_;refine cS 0 (mU x0 v0) (by kernel_rfl) ?_ ?_
  ·refine aK h2 (fun c2 H4 => ?_) (fun c3 H5 => ?_)
   ·obtain rfl:=sI H4;exact pB 3 [.eqT 13 bF] [.er 3 19 62 7,.only [1,2,3] [1,19]] (mU x0 []) (aM c2 aN)
   ·obtain rfl:=sI H5;exact pB 3 [.eqT 13 bT,r0 [.v,.v,.v,.b,.b,.wk 18 [(0,3)],.wk 18 [(0,5)],.er 14 19 62 7,.ap,.rwH 19 (.row 62 7 ([(Bind.mk 2 x0.Row (Linear.mk 0 []) (Shape.mk [] []) [])].map al)),.v]] [.only [1,2,3] [1,19]] (mU x0 [(Bind.mk 2 x0.Row (Linear.mk 0 []) (Shape.mk [] []) [])]) (aM c3 (a8 (qB (c:=al) gw [] [(Bind.mk 2 x0.Row (Linear.mk 0 []) (Shape.mk [] []) [])] 112 (by decide) (by simp)) (aC (CR 62 7 al [(Bind.mk 2 x0.Row (Linear.mk 0 []) (Shape.mk [] []) [])]) aN)))
  ·refine pA 4 [.rg 0 [] [.v,.v,.e (.int .i64 ((x0.Dims.length:Nat):Int)),.v]] [.ren [(19,42)],.only [2,3,21,22,23] [42]] 4 [] (mS x0 0 v0) (aT (aC (aG ae x0.Dims) aN)) ?_;refine aD H3 fun R0 h3 H6 => ?_;refine pJ 1 (qK) R0 ?_ (fun u1 e0 => ?_)
   ·refine pC (mS x0) h3 (fun i0 s0 h4 e1 => ?_) (fun i0 s0 h5 q0 h6 h7 => ?_)
    ·have c4:=lF i0 x0.Dims.length (by omega);subst e1;exact pB 5 [r0 [.e bF]] [.only [2,3] [42]] (qK s0) (aB c4 aN)
    ·have c5:=lT i0 x0.Dims.length (by omega);refine aD h6 fun y1 h8 H7 => ?_;refine pA 12 [r0 [.e bT],r0 [.e (.dptr (ae (x0.Dims.getD i0 ax))),.v,.m,.m],r0 [.v,.c true (dS aZ y1),.e (nI y1.length),.v]] [.only [2,3,21,22,23,28,29,30] [42]] 12 [true] (mZ x0 i0 y1 0 s0) (aB c5 (aI bA x0.Dims i0 ax (aC Tryz.call98 (aF (qN _ _ h8) (aT (aC (aG aZ y1) aN)))))) ?_;refine aD H7 fun R1 h9 H8 => ?_;refine pJ 2 (qG x0 i0) R1 ?_ (fun u0 e2 => ?_)
     ·refine pC (mZ x0 i0 y1) h9 (fun i1 s1 h10 e3 => ?_) (fun i1 s1 h11 q1 h12 h13 => ?_)
      ·have c6:=lF i1 y1.length (by omega);subst e3;exact pB 5 [r0 [.e bF]] [.only [2,3,21,22,23] [42]] (qG x0 i0 s1) (aB c6 aN)
      ·have c7:=lT i1 y1.length (by omega);refine aD h12 fun y2 h14 H9 => ?_;refine aK H9 (fun c8 H10 => ?_) (fun c9 H11 => ?_)
       ·have c8p:=Hm c8;refine aP H10 fun g0 H12 => ?_;refine bt 28 (ps:=[(y1.map aZ).length≤9223372036854775807]) (by kernel_rfl) (fun l0 => ?_);have l1:y1.length≤9223372036854775807:=by simpa only [bI,Hp] using l0
        clear l0;obtain rfl:=sI H12;exact pB 15 [r0 [.e bT],r0 [.e (.dptr [.str (y1.getD i1 [])]),.v,.v],r0 [.v,.v,.c false (iI y2),.v],.eqT 37 bT,r0 [.v,.v,.b,.b,.wk 41 [(0,3)],.wk 41 [(0,5)],.ap,.rwH 42 (.row 62 7 ((s1++[(Bind.mk 1 (y1.getD i1 []) (Linear.mk 0 []) (Shape.mk [] []) [])]).map al)),.v],V2] [.only [2,3,21,22,23,28,29,30] [42]] (mZ x0 i0 y1 (i1+1) (s1++[(Bind.mk 1 (y1.getD i1 []) (Linear.mk 0 []) (Shape.mk [] []) [])])) (aB c7 (aI rR y1 i1 [] (aC Tryz.call54 (aF (od _ _ _ _ h14) (aB c8 (a8 (qB (c:=al) gw s1 [(Bind.mk 1 (y1.getD i1 []) (Linear.mk 0 []) (Shape.mk [] []) [])] 112 (by decide) (by first | (simp;done) | simpa using g0)) (aC (tI 62 7 al s1 [(Bind.mk 1 (y1.getD i1 []) (Linear.mk 0 []) (Shape.mk [] []) [])]) (aH i1 aN))))))))
       ·cases H11
     ·subst e2;have H13:=a7 H8;refine bt 21 (ps:=[(x0.Dims.map ae).length≤9223372036854775807]) (by kernel_rfl) (fun l2 => ?_);have l3:x0.Dims.length≤9223372036854775807:=by simpa only [bI,Hp] using l2
      clear l2;obtain rfl:=sI H13;exact pB 1 [V2] [.only [2,3,21,22,23] [42]] (mS x0 (i0+1) u0) (aH i0 aN)
   ·subst e0;have H14:=a7 H6;refine bc H14 fun e4 => ?_;subst e4;exact pR 3 [V2] [.ren [(42,0)]] [0] aN
 ·cases H2
def k9 (x0:bQ):Option (List Bind) :=
 (dK x0).bind fun y0 =>
 bif y0 then (
  (rA x0.Shape).bind fun y1 =>
  (ca x0.Elem).bind fun y2 =>
  bif y2 then (
   cb ((y1.length+1)*112≤140737488355328) <|
   some (y1++[(Bind.mk 3 x0.Elem (Linear.mk 0 []) (Shape.mk [] []) [])])
  ) else (
   some y1
  )
 ) else (
  none
 )
theorem ta (x0:bQ) (r:List Bind) (H:k9 x0=some r):aW Tryz.prog 40 [.agg [.str x0.Elem,.str x0.Shape.Row,dS ae x0.Shape.Dims]] (dS al r):=by
 unfold k9 at H;refine aX Tryz.func40 20 [.tmp 2] ?_;refine aD H fun y0 h0 H0 => ?_;refine aK H0 (fun c0 H1 => ?_) (fun c1 H2 => ?_)
 ·refine aD H1 fun y1 h1 H3 => ?_;refine aD H3 fun y2 h2 H4 => ?_;refine pD 13 [r0 [.m,.v],r0 [.v,.c true (.bool y0),.v],.eqT 6 bF,r0 [.v,.v,.hR [] 9 (.rslice 0) [(0,.row 62 7 (y1.map al))],.v],r0 [.v,.v,.c true (.bool y2)]] [.only [1,2,3,12] [1,9]] 12 [false] (aC Tryz.call62 (aF (ea _ _ h0) (aT (aM c0 (aC Tryz.call78 (aC (x6 _ _ h1) (aC Tryz.call79 (aF (bh _ _ h2) aN)))))))) ?_;refine aK H4 (fun c2 H5 => ?_) (fun c3 H6 => ?_)
  ·refine aP H5 fun g0 H7 => ?_;obtain rfl:=sI H7;exact pR 6 [.eqT 12 bT,r0 [.v,.v,.v,.b,.b,.wk 17 [(0,3)],.wk 17 [(0,5)],.ap,.rwH 18 (.row 62 7 ((y1++[(Bind.mk 3 x0.Elem (Linear.mk 0 []) (Shape.mk [] []) [])]).map al)),.v],V2] [.fz 18] [] (aB c2 (a8 (qB (c:=al) gw y1 [(Bind.mk 3 x0.Elem (Linear.mk 0 []) (Shape.mk [] []) [])] 112 (by decide) (by first | (simp;done) | simpa using g0)) (aC (tI 62 7 al y1 [(Bind.mk 3 x0.Elem (Linear.mk 0 []) (Shape.mk [] []) [])]) aN)))
  ·refine bc H6 fun e0 => ?_;subst e0;exact pR 6 [.eqT 12 bF,V2] [.fz 9] [] (aB c3 aN)
 ·cases H2
def oy (x0:aq):Option Int :=
 (strings_CutPrefix x0 [95]).bind fun y0 =>
 bif y0.2 then (
  none
 ) else (
  some 0
 )
theorem uP (x0:aq) (r:Int) (H:oy x0=some r):aW Tryz.prog 41 [.str x0] (iI r):=by
 unfold oy at H;refine aX Tryz.func41 37 [.tmp 2] ?_;refine aD H fun y0 h0 H0 => ?_;refine aK H0 (fun c0 H1 => ?_) (fun c1 H2 => ?_)
 ·cases H1
 ·obtain rfl:=sI H2;exact pR 12 [V1,r0 [.v,.c true (.tup [.str y0.1,.bool y0.2]),.v,.v,.v,.v,.v],V2,.eqT 14 bT,V1] [] [] (aC Tryz.call80 (aF (kl _ _ _ h0) (aT (aM c1 aN))))
def py (x0:List ah) (x1:Int):Option Bool :=
 (pe x0).bind fun y0 =>
 bif y0 then (
  bif decide (x1<1) then (
   none
  ) else (
   bif decide (x1>1000000) then (
    none
   ) else (
    (dF (σ:=Unit) (ε:=Unit) (ρ:=Empty) (fun i0 s0 =>
     (dF (σ:=Unit) (ε:=Unit) (ρ:=Empty) (fun i1 s1 =>
      (k9 (bQ.mk (([(bQ.mk (((x0.getD i0 aa).A).Elem) (Shape.mk ((((x0.getD i0 aa).A).Shape).Row) ((((x0.getD i0 aa).A).Shape).Dims))),(bQ.mk (((x0.getD i0 aa).B).Elem) (Shape.mk ((((x0.getD i0 aa).B).Shape).Row) ((((x0.getD i0 aa).B).Shape).Dims)))].getD i1 AG).Elem) (Shape.mk ((([(bQ.mk (((x0.getD i0 aa).A).Elem) (Shape.mk ((((x0.getD i0 aa).A).Shape).Row) ((((x0.getD i0 aa).A).Shape).Dims))),(bQ.mk (((x0.getD i0 aa).B).Elem) (Shape.mk ((((x0.getD i0 aa).B).Shape).Row) ((((x0.getD i0 aa).B).Shape).Dims)))].getD i1 AG).Shape).Row) ((([(bQ.mk (((x0.getD i0 aa).A).Elem) (Shape.mk ((((x0.getD i0 aa).A).Shape).Row) ((((x0.getD i0 aa).A).Shape).Dims))),(bQ.mk (((x0.getD i0 aa).B).Elem) (Shape.mk ((((x0.getD i0 aa).B).Shape).Row) ((((x0.getD i0 aa).B).Shape).Dims)))].getD i1 AG).Shape).Dims)))).bind fun y1 =>
      (dF (σ:=Unit) (ε:=Unit) (ρ:=Empty) (fun i2 s2 =>
       ((
        bif (((y1.getD i2 ak).Kind)==3) then (
         some ()
        ) else (
         (oy ((y1.getD i2 ak).Var)).bind fun y2 =>
         bif decide (y2≥x1) then (
          none
         ) else (
          some ()
         )
        )
       ):Option Unit).bind fun v0 =>
       some (.go ())
      ) (fun i2 s2=>()) (y1.length-0) 0 ()).bind <| dq fun u0 =>
      some (.go ())
     ) (fun i1 s1=>()) ([(bQ.mk (((x0.getD i0 aa).A).Elem) (Shape.mk ((((x0.getD i0 aa).A).Shape).Row) ((((x0.getD i0 aa).A).Shape).Dims))),(bQ.mk (((x0.getD i0 aa).B).Elem) (Shape.mk ((((x0.getD i0 aa).B).Shape).Row) ((((x0.getD i0 aa).B).Shape).Dims)))].length-0) 0 ()).bind <| dq fun u1 =>
     some (.go ())
    ) (fun i0 s0=>()) (x0.length-0) 0 ()).bind <| dq fun u2 =>
    some true
   )
  )
 ) else (
  none
 )
def kU (x0:List ah) (x1:Int) (i0:Nat) (s0:Unit):AS:=⟨58,[(1,iI x1),(4,.bool false),(22,dS ag x0),(23,nI x0.length),(24,nI i0)],[]⟩
def po (u3:Unit):AS:=⟨58,[(4,.bool false)],[]⟩
def lp (x0:List ah) (x1:Int) (i0 i1:Nat) (s1:Unit):AS:=⟨58,[(1,iI x1),(4,.bool false),(22,dS ag x0),(23,nI x0.length),(24,nI i0),(32,.dslice ([(bQ.mk (((x0.getD i0 aa).A).Elem) (Shape.mk ((((x0.getD i0 aa).A).Shape).Row) ((((x0.getD i0 aa).A).Shape).Dims))),(bQ.mk (((x0.getD i0 aa).B).Elem) (Shape.mk ((((x0.getD i0 aa).B).Shape).Row) ((((x0.getD i0 aa).B).Shape).Dims)))].map vn)),(33,iI (([(bQ.mk (((x0.getD i0 aa).A).Elem) (Shape.mk ((((x0.getD i0 aa).A).Shape).Row) ((((x0.getD i0 aa).A).Shape).Dims))),(bQ.mk (((x0.getD i0 aa).B).Elem) (Shape.mk ((((x0.getD i0 aa).B).Shape).Row) ((((x0.getD i0 aa).B).Shape).Dims)))].length:Nat):Int)),(34,nI i1)],[]⟩
def pM (x0:List ah) (x1:Int) (i0:Nat) (u4:Unit):AS:=⟨58,[(1,iI x1),(4,.bool false),(22,dS ag x0),(23,nI x0.length),(24,nI i0)],[]⟩
def kN (x0:List ah) (x1:Int) (i0 i1:Nat) (y1:List Bind) (i2:Nat) (s2:Unit):AS:=⟨58,[(1,iI x1),(4,.bool false),(22,dS ag x0),(23,nI x0.length),(24,nI i0),(32,.dslice ([(bQ.mk (((x0.getD i0 aa).A).Elem) (Shape.mk ((((x0.getD i0 aa).A).Shape).Row) ((((x0.getD i0 aa).A).Shape).Dims))),(bQ.mk (((x0.getD i0 aa).B).Elem) (Shape.mk ((((x0.getD i0 aa).B).Shape).Row) ((((x0.getD i0 aa).B).Shape).Dims)))].map vn)),(33,iI (([(bQ.mk (((x0.getD i0 aa).A).Elem) (Shape.mk ((((x0.getD i0 aa).A).Shape).Row) ((((x0.getD i0 aa).A).Shape).Dims))),(bQ.mk (((x0.getD i0 aa).B).Elem) (Shape.mk ((((x0.getD i0 aa).B).Shape).Row) ((((x0.getD i0 aa).B).Shape).Dims)))].length:Nat):Int)),(34,nI i1),(39,dS al y1),(40,nI y1.length),(41,nI i2)],[]⟩
def pw (x0:List ah) (x1:Int) (i0 i1:Nat) (u5:Unit):AS:=⟨58,[(1,iI x1),(4,.bool false),(22,dS ag x0),(23,nI x0.length),(24,nI i0),(32,.dslice ([(bQ.mk (((x0.getD i0 aa).A).Elem) (Shape.mk ((((x0.getD i0 aa).A).Shape).Row) ((((x0.getD i0 aa).A).Shape).Dims))),(bQ.mk (((x0.getD i0 aa).B).Elem) (Shape.mk ((((x0.getD i0 aa).B).Shape).Row) ((((x0.getD i0 aa).B).Shape).Dims)))].map vn)),(33,iI (([(bQ.mk (((x0.getD i0 aa).A).Elem) (Shape.mk ((((x0.getD i0 aa).A).Shape).Row) ((((x0.getD i0 aa).A).Shape).Dims))),(bQ.mk (((x0.getD i0 aa).B).Elem) (Shape.mk ((((x0.getD i0 aa).B).Shape).Row) ((((x0.getD i0 aa).B).Shape).Dims)))].length:Nat):Int)),(34,nI i1)],[]⟩
def lV (x0:List ah) (x1:Int) (i0 i1:Nat) (y1:List Bind) (i2:Nat) (v0:Unit):AS:=⟨58,[(1,iI x1),(4,.bool false),(22,dS ag x0),(23,nI x0.length),(24,nI i0),(32,.dslice ([(bQ.mk (((x0.getD i0 aa).A).Elem) (Shape.mk ((((x0.getD i0 aa).A).Shape).Row) ((((x0.getD i0 aa).A).Shape).Dims))),(bQ.mk (((x0.getD i0 aa).B).Elem) (Shape.mk ((((x0.getD i0 aa).B).Shape).Row) ((((x0.getD i0 aa).B).Shape).Dims)))].map vn)),(33,iI (([(bQ.mk (((x0.getD i0 aa).A).Elem) (Shape.mk ((((x0.getD i0 aa).A).Shape).Row) ((((x0.getD i0 aa).A).Shape).Dims))),(bQ.mk (((x0.getD i0 aa).B).Elem) (Shape.mk ((((x0.getD i0 aa).B).Shape).Row) ((((x0.getD i0 aa).B).Shape).Dims)))].length:Nat):Int)),(34,nI i1),(39,dS al y1),(40,nI y1.length),(41,nI i2)],[]⟩
theorem qF (x0:List ah) (x1:Int) (r:Bool) (H:py x0 x1=some r):aW Tryz.prog 19 [dS ag x0,iI x1] (.bool r):=by
 unfold py at H;refine aX Tryz.func19 58 [.tmp 4] ?_;refine aD H fun y0 h0 H0 => ?_;refine aK H0 (fun c0 H1 => ?_) (fun c1 H2 => ?_)
 ·refine aK H1 (fun c2 H3 => ?_) (fun c3 H4 => ?_)
  ·cases H3
  ·have c3p:=Hl c3;refine aK H4 (fun c4 H5 => ?_) (fun c5 H6 => ?_)
   ·cases H5
   ·have c5p:=Hl c5;refine pA 12 [V1,r0 [.v,.c true bT,.v,.v,.v,.e bF,.v,.v,.v,.v,.v],.eqT 21 bF,r0 [.v,.e (nI x0.length),.v]] [.only [1,4,22,23,24] []] 11 [false] (kU x0 x1 0 ()) (aC Tryz.call39 (aC (aW.eq (wD _ _ h0) (cB c0)) (aT (aB c3 (aB c5 (aT (aC (aG ag x0) aN))))))) ?_;refine aD H6 fun R0 h1 H7 => ?_;refine pJ 1 (po) R0 ?_ (fun u2 e0 => ?_)
    ·refine pC (kU x0 x1) h1 (fun i0 s0 h2 e1 => ?_) (fun i0 s0 h3 q0 h4 h5 => ?_)
     ·have c6:=lF i0 x0.length (by omega);subst e1;exact pB 5 [r0 [.e bF]] [.only [4] []] (po ()) (aB c6 aN)
     ·have c7:=lT i0 x0.length (by omega);refine pA 12 [r0 [.e bT],r0 [.e (.dptr [.str (((x0.getD i0 aa).A).Elem),.str ((((x0.getD i0 aa).A).Shape).Row),.dslice (((((x0.getD i0 aa).A).Shape).Dims).map ae),.str (((x0.getD i0 aa).B).Elem),.str ((((x0.getD i0 aa).B).Shape).Row),.dslice (((((x0.getD i0 aa).B).Shape).Dims).map ae)]),.v,.m,.m],r0 (V 4 [.b,.e (iI (([(bQ.mk (((x0.getD i0 aa).A).Elem) (Shape.mk ((((x0.getD i0 aa).A).Shape).Row) ((((x0.getD i0 aa).A).Shape).Dims))),(bQ.mk (((x0.getD i0 aa).B).Elem) (Shape.mk ((((x0.getD i0 aa).B).Shape).Row) ((((x0.getD i0 aa).B).Shape).Dims)))].length:Nat):Int)),.v])] [.only [1,4,22,23,24,32,33,34] []] 12 [true] (lp x0 x1 i0 0 ()) (aB c7 (aI aS x0 i0 aa (aT (aC (aG vn [(bQ.mk (((x0.getD i0 aa).A).Elem) (Shape.mk ((((x0.getD i0 aa).A).Shape).Row) ((((x0.getD i0 aa).A).Shape).Dims))),(bQ.mk (((x0.getD i0 aa).B).Elem) (Shape.mk ((((x0.getD i0 aa).B).Shape).Row) ((((x0.getD i0 aa).B).Shape).Dims)))]) aN)))) ?_;refine aD h4 fun R1 h6 H8 => ?_;refine pJ 2 (pM x0 x1 i0) R1 ?_ (fun u1 e2 => ?_)
      ·refine pC (lp x0 x1 i0) h6 (fun i1 s1 h7 e3 => ?_) (fun i1 s1 h8 q1 h9 h10 => ?_)
       ·have c8:=lF i1 ([(bQ.mk (((x0.getD i0 aa).A).Elem) (Shape.mk ((((x0.getD i0 aa).A).Shape).Row) ((((x0.getD i0 aa).A).Shape).Dims))),(bQ.mk (((x0.getD i0 aa).B).Elem) (Shape.mk ((((x0.getD i0 aa).B).Shape).Row) ((((x0.getD i0 aa).B).Shape).Dims)))].length) (by omega);subst e3;exact pB 5 [r0 [.e bF]] [.only [1,4,22,23,24] []] (pM x0 x1 i0 ()) (aB c8 aN)
       ·have c9:=lT i1 ([(bQ.mk (((x0.getD i0 aa).A).Elem) (Shape.mk ((((x0.getD i0 aa).A).Shape).Row) ((((x0.getD i0 aa).A).Shape).Dims))),(bQ.mk (((x0.getD i0 aa).B).Elem) (Shape.mk ((((x0.getD i0 aa).B).Shape).Row) ((((x0.getD i0 aa).B).Shape).Dims)))].length) (by omega);refine aD h9 fun y1 h11 H9 => ?_;refine pA 12 [r0 [.e bT],r0 [.e (.dptr (vn ([(bQ.mk (((x0.getD i0 aa).A).Elem) (Shape.mk ((((x0.getD i0 aa).A).Shape).Row) ((((x0.getD i0 aa).A).Shape).Dims))),(bQ.mk (((x0.getD i0 aa).B).Elem) (Shape.mk ((((x0.getD i0 aa).B).Shape).Row) ((((x0.getD i0 aa).B).Shape).Dims)))].getD i1 AG))),.v,.m,.m],r0 [.v,.c true (dS al y1),.e (nI y1.length),.v]] [.only [1,4,22,23,24,32,33,34,39,40,41] []] 12 [true] (kN x0 x1 i0 i1 y1 0 ()) (aB c9 (aI Dw ([(bQ.mk (((x0.getD i0 aa).A).Elem) (Shape.mk ((((x0.getD i0 aa).A).Shape).Row) ((((x0.getD i0 aa).A).Shape).Dims))),(bQ.mk (((x0.getD i0 aa).B).Elem) (Shape.mk ((((x0.getD i0 aa).B).Shape).Row) ((((x0.getD i0 aa).B).Shape).Dims)))]) i1 AG (aC Tryz.call40 (aF (ta _ _ h11) (aT (aC (aG al y1) aN)))))) ?_;refine aD H9 fun R2 h12 H10 => ?_;refine pJ 2 (pw x0 x1 i0 i1) R2 ?_ (fun u0 e4 => ?_)
        ·refine pC (kN x0 x1 i0 i1 y1) h12 (fun i2 s2 h13 e5 => ?_) (fun i2 s2 h14 q2 h15 h16 => ?_)
         ·have c10:=lF i2 y1.length (by omega);subst e5;exact pB 5 [r0 [.e bF]] [.only [1,4,22,23,24,32,33,34] []] (pw x0 x1 i0 i1 ()) (aB c10 aN)
         ·have c11:=lT i2 y1.length (by omega);refine pD 10 [r0 [.e bT],r0 [.e (.dptr (al (y1.getD i2 ak))),.v,.m,.m]] [.only [1,4,10,22,23,24,32,33,34,39,40,41] [10]] 10 [true] (aB c11 (aI aQ y1 i2 ak aN)) ?_;refine aD h15 fun v0 h17 H11 => ?_;refine cS 2 (lV x0 x1 i0 i1 y1 i2 v0) (by kernel_rfl) ?_ ?_
          ·refine aK h17 (fun c12 H12 => ?_) (fun c13 H13 => ?_)
           ·obtain rfl:=sI H12;exact pB 3 [r0 [.v,.v,.e bF,.v,.s,.s,.s,.s,.s,.v]] [.only [1,4,22,23,24,32,33,34,39,40,41] []] (lV x0 x1 i0 i1 y1 i2 ()) (aM c12 aN)
           ·refine aD H13 fun y2 h18 H14 => ?_;refine aK H14 (fun c14 H15 => ?_) (fun c15 H16 => ?_)
            ·cases H15
            ·obtain rfl:=sI H16;exact pB 4 [r0 [.v,.v,.e bT,.v,.v,.v,.c true (iI y2),.v,.v,.v],.eqT 54 bF] [.only [1,4,22,23,24,32,33,34,39,40,41] []] (lV x0 x1 i0 i1 y1 i2 ()) (aM c13 (aC Tryz.call41 (aF (uP _ _ h18) (aB c15 aN))))
          ·refine bt 39 (ps:=[(y1.map al).length≤9223372036854775807]) (by kernel_rfl) (fun l0 => ?_);have l1:y1.length≤9223372036854775807:=by simpa only [bI,Hp] using l0
           clear l0;obtain rfl:=sI H11;exact pB 1 [V2] [.only [1,4,22,23,24,32,33,34,39,40,41] []] (kN x0 x1 i0 i1 y1 (i2+1) ()) (aH i2 aN)
        ·subst e4;have H17:=a7 H10;refine bt 32 (ps:=[([(bQ.mk (((x0.getD i0 aa).A).Elem) (Shape.mk ((((x0.getD i0 aa).A).Shape).Row) ((((x0.getD i0 aa).A).Shape).Dims))),(bQ.mk (((x0.getD i0 aa).B).Elem) (Shape.mk ((((x0.getD i0 aa).B).Shape).Row) ((((x0.getD i0 aa).B).Shape).Dims)))].map vn).length≤9223372036854775807]) (by kernel_rfl) (fun l2 => ?_);have l3:[(bQ.mk (((x0.getD i0 aa).A).Elem) (Shape.mk ((((x0.getD i0 aa).A).Shape).Row) ((((x0.getD i0 aa).A).Shape).Dims))),(bQ.mk (((x0.getD i0 aa).B).Elem) (Shape.mk ((((x0.getD i0 aa).B).Shape).Row) ((((x0.getD i0 aa).B).Shape).Dims)))].length≤9223372036854775807:=by simpa only [bI,Hp] using l2
         clear l2;obtain rfl:=sI H17;exact pB 1 [V2] [.only [1,4,22,23,24,32,33,34] []] (lp x0 x1 i0 (i1+1) ()) (aH i1 aN)
      ·subst e2;have H18:=a7 H8;refine bt 22 (ps:=[(x0.map ag).length≤9223372036854775807]) (by kernel_rfl) (fun l4 => ?_);have l5:x0.length≤9223372036854775807:=by simpa only [bI,Hp] using l4
       clear l4;obtain rfl:=sI H18;exact pB 1 [V2] [.only [1,4,22,23,24] []] (kU x0 x1 (i0+1) ()) (aH i0 aN)
    ·subst e0;have H19:=a7 H7;obtain rfl:=sI H19;exact pR 3 [V1] [] [] aN
 ·cases H2
def fA (x0:aq) (x1:List (aq×aq)) (x2:List (aq×Shape)) (x3:List (Linear×Linear)):Option aq :=
 bif (yB x0 x1) then (
  none
 ) else (
  some x0
 )
theorem kn (x0:aq) (x1:List (aq×aq)) (x2:List (aq×Shape)) (x3:List (Linear×Linear)) (r:aq) (H:fA x0 x1 x2 x3=some r):bn Tryz.prog 81 [.hptr 1000 0,.str x0] [(1000,.cells 95 [.amap 1001,.amap 1002,.rslice 1003]),(1001,.smap 0 9 (x1.map (aJ aZ))),(1002,.smap 0 34 (x2.map (aJ (iM aY)))),(1003,.row 98 4 (x3.map az))] (fun r2 h0=>r2=(.str r)∧h0=[(1000,.cells 95 [.amap 1001,.amap 1002,.rslice 1003]),(1001,.smap 0 9 (x1.map (aJ aZ))),(1002,.smap 0 34 (x2.map (aJ (iM aY)))),(1003,.row 98 4 (x3.map az))]):=by
 unfold fA at H;refine aX Tryz.func81 19 [.tmp 4] ?_;refine aK H (fun c0 H0 => ?_) (fun c1 H1 => ?_)
 ·cases H0
 ·refine bc H1 fun e0 => ?_;subst e0;exact pR 13 [V1,r0 (V 5 [.l (.tup [.str (bC [] x0 x1),.bool (yB x0 x1)]),.v,.v,.v,.v,.v]),V1,.eqT 16 bF,V2] [] [1000,1001,1002,1003] (aC (v8 (c:=aZ) x0 [] x1) (aB c1 aN))
def fv (x0 x1:aq) (x2:List (aq×aq)) (x3:List (aq×Shape)) (x4:List (Linear×Linear)):Option (List (aq×aq)) :=
 cb (x2=[]) <|
 some (dE x0 x1 [])
theorem nW (x0 x1:aq) (x2:List (aq×aq)) (x3:List (aq×Shape)) (x4:List (Linear×Linear)) (r:List (aq×aq)) (H:fv x0 x1 x2 x3 x4=some r):bn Tryz.prog 82 [.hptr 1000 0,.str x0,.str x1] [(1000,.cells 95 [.amap 1001,.amap 1002,.rslice 1003]),(1001,.smap 0 9 (x2.map (aJ aZ))),(1002,.smap 0 34 (x3.map (aJ (iM aY)))),(1003,.row 98 4 (x4.map az))] (fun r2 h0=>r2=(.tup [])∧h0=[(1000,.cells 95 [.amap 1001,.amap 1002,.rslice 1003]),(1001,.smap 0 9 (r.map (aJ aZ))),(1002,.smap 0 34 (x3.map (aJ (iM aY)))),(1003,.row 98 4 (x4.map az))]):=by unfold fv at H;refine aX Tryz.func82 33 [] ?_;refine aP H fun g0 H0 => ?_;obtain rfl:=sI H0;exact pR 11 [r0 (V 4 [.rwH 1001 (.smap 0 9 ([].map (aJ aZ))),.m]),.un,r0 [.m,.v],r0 (V 6 [.m,.rwH 1001 (.smap 0 9 ((dE x0 x1 []).map (aJ aZ)))])] [] [1000,1001,1002,1003] (aC (congrArg (fun l=>AO.smap 0 9 (List.map (aJ aZ) l)) g0) (aC (congrArg (AO.smap 0 9) (fV (c:=aZ) x0 x1 [])) aN))
def de (x0 x1:aq) (x2:List (aq×aq)) (x3:List (aq×Shape)) (x4:List (Linear×Linear)):Option (Int×(List (aq×aq))) :=
 (fA x0 x2 x3 x4).bind fun y0 =>
 (fA x1 x2 x3 x4).bind fun y1 =>
 (ca y0).bind fun y2 =>
 (ca y1).bind fun y3 =>
 bif (y0==y1) then (
  some (0,x2)
 ) else (
  bif y2 then (
   bif y3 then (
    none
   ) else (
    (fv y0 y1 x2 x3 x4).bind fun y4 =>
    some (0,y4)
   )
  ) else (
   none
  )
 )
theorem gr (x0 x1:aq) (x2:List (aq×aq)) (x3:List (aq×Shape)) (x4:List (Linear×Linear)) (r:Int×(List (aq×aq))) (H:de x0 x1 x2 x3 x4=some r):bn Tryz.prog 42 [.hptr 1000 0,.str x0,.str x1] [(1000,.cells 95 [.amap 1001,.amap 1002,.rslice 1003]),(1001,.smap 0 9 (x2.map (aJ aZ))),(1002,.smap 0 34 (x3.map (aJ (iM aY)))),(1003,.row 98 4 (x4.map az))] (fun r2 h0=>r2=(iI r.1)∧h0=[(1000,.cells 95 [.amap 1001,.amap 1002,.rslice 1003]),(1001,.smap 0 9 (r.2.map (aJ aZ))),(1002,.smap 0 34 (x3.map (aJ (iM aY)))),(1003,.row 98 4 (x4.map az))]):=by
 unfold de at H;refine aX Tryz.func42 48 [.tmp 6] ?_;refine aD H fun y0 h1 H0 => ?_;refine aD H0 fun y1 h2 H1 => ?_;refine aD H1 fun y2 h3 H2 => ?_;refine aD H2 fun y3 h4 H3 => ?_;refine pD 10 [V1,r0 [.v,.v,.hM [(1000,1000),(1001,1001),(1002,1002),(1003,1003)] [] (.str y0) [(1000,.cells 95 [.amap 1001,.amap 1002,.rslice 1003]),(1001,.smap 0 9 (x2.map (aJ aZ))),(1002,.smap 0 34 (x3.map (aJ (iM aY)))),(1003,.row 98 4 (x4.map az))],.v,.v,.hM [(1000,1000),(1001,1001),(1002,1002),(1003,1003)] [] (.str y1) [(1000,.cells 95 [.amap 1001,.amap 1002,.rslice 1003]),(1001,.smap 0 9 (x2.map (aJ aZ))),(1002,.smap 0 34 (x3.map (aJ (iM aY)))),(1003,.row 98 4 (x4.map az))],.v,.v],r0 [.v,.c true (.bool y2),.v,.c true (.bool y3),.v,.v],V4] [.only [0,1,2,6,7,8,19] [1000,1001,1002,1003]] 10 [] (aC Tryz.call81 (aC (kn _ _ _ _ _ h1) (aC Tryz.call81 (aC (kn _ _ _ _ _ h2) (aC Tryz.call79 (aF (bh _ _ h3) (aC Tryz.call79 (aF (bh _ _ h4) aN)))))))) ?_;refine aK H3 (fun c0 H4 => ?_) (fun c1 H5 => ?_)
 ·obtain rfl:=sI H4;exact pR 6 [.eqT 19 bT,V1] [] [1000,1001,1002,1003] (aB c0 aN)
 ·refine aK H5 (fun c2 H6 => ?_) (fun c3 H7 => ?_)
  ·refine aK H6 (fun c4 H8 => ?_) (fun c5 H9 => ?_)
   ·cases H8
   ·refine aD H9 fun y4 h5 H10 => ?_;obtain rfl:=sI H10;exact pR 14 [.eqT 19 bF,.eqT 7 bT,V5,.eqT 23 bF,V2,r0 [.v,.v,.v,.hM [(1000,1000),(1001,1001),(1002,1002),(1003,1003)] [] (.tup []) [(1000,.cells 95 [.amap 1001,.amap 1002,.rslice 1003]),(1001,.smap 0 9 (y4.map (aJ aZ))),(1002,.smap 0 34 (x3.map (aJ (iM aY)))),(1003,.row 98 4 (x4.map az))]],V1] [] [1000,1001,1002,1003] (aB c1 (aB c2 (aB c5 (aC Tryz.call82 (aC (nW _ _ _ _ _ _ h5) aN)))))
  ·cases H7
def eZ (x0:Shape) (x1:List (aq×aq)) (x2:List (aq×Shape)) (x3:List (Linear×Linear)):Option (Shape×Int) :=
 bif (x0.Row==[]) then (
  some (x0,0)
 ) else (
  bif (yB x0.Row x2) then (
   none
  ) else (
   some (x0,0)
  )
 )
theorem jE (x0:Shape) (x1:List (aq×aq)) (x2:List (aq×Shape)) (x3:List (Linear×Linear)) (r:Shape×Int) (H:eZ x0 x1 x2 x3=some r):bn Tryz.prog 83 [.hptr 1000 0,.agg [.str x0.Row,dS ae x0.Dims]] [(1000,.cells 95 [.amap 1001,.amap 1002,.rslice 1003]),(1001,.smap 0 9 (x1.map (aJ aZ))),(1002,.smap 0 34 (x2.map (aJ (iM aY)))),(1003,.row 98 4 (x3.map az))] (fun r2 h0=>r2=(.tup [.agg [.str r.1.Row,dS ae r.1.Dims],iI r.2])∧h0=[(1000,.cells 95 [.amap 1001,.amap 1002,.rslice 1003]),(1001,.smap 0 9 (x1.map (aJ aZ))),(1002,.smap 0 34 (x2.map (aJ (iM aY)))),(1003,.row 98 4 (x3.map az))]):=by
 unfold eZ at H;refine aX Tryz.func83 42 [.cell 4 34,.tmp 5] ?_;refine aK H (fun c0 H0 => ?_) (fun c1 H1 => ?_)
 ·obtain rfl:=sI H0;exact pR 11 [r0 [.m,.m,.v],.rg 12 (V 6 [.l (.tup [.agg (aY (bC sH x0.Row x2)),.bool (yB x0.Row x2)]),.v,.v,.v,.m,.m]) [.v],r0 [.v,.v,.e bT,.v,.s,.s,.v],r0 [.v,.m,.v]] [] [1000,1001,1002,1003] (aC (v8 (c:=(iM aY)) x0.Row sH x2) (aB c0 aN))
 ·refine aK H1 (fun c2 H2 => ?_) (fun c3 H3 => ?_)
  ·cases H2
  ·obtain rfl:=sI H3;exact pR 12 [r0 [.m,.m,.v],.rg 12 (V 6 [.l (.tup [.agg (aY (bC sH x0.Row x2)),.bool (yB x0.Row x2)]),.v,.v,.v,.m,.m]) [.v],r0 [.v,.v,.e bF,.v,.v,.v,.v],.eqT 25 bT,r0 [.v,.m,.v]] [] [1000,1001,1002,1003] (aC (v8 (c:=(iM aY)) x0.Row sH x2) (aB c1 (aT (aM c3 aN))))
noncomputable def eG (x0:List Linear):Option (List Linear) :=
 Cy (α:=Linear) x0 (
  some []
 ) (
  cb (x0.length*32≤140737488355328) <|
  some x0
 )
theorem mq (x0 r:List Linear) (H:eG x0=some r):aW Tryz.prog 86 [dS ae x0] (dS ae r):=by
 unfold eG at H;refine aX Tryz.func86 8 [.tmp 2] ?_;refine pD 4 [V1] [.only [0,2] []] 4 [] aN ?_;refine A9 H (fun H0 H1 => ?_);refine xZ [.v] (l:=(x0.map ae)) (k:=4) (q:=true) (S:=⟨8,[(0,dS ae x0),(2,.eslice),(3,dS ae x0)],[]⟩) aN (by kernel_rfl) (fun b0 h0 => ?_);cases b0 with
 | true =>
  have H2:=H0 (List.map_eq_nil_iff.1 (h0 rfl));obtain rfl:=sI H2;exact pR 4 [V1] [.wk 2 []] [] aN
 | false =>
  refine aP H1 fun g0 H3 => ?_;refine bc H3 fun e0 => ?_;subst e0;exact pR 5 [r0 [.b,.v,.er 5 7 29 2,.ap,.rwH 7 (.row 29 2 (x0.map ae)),.v]] [.fz 7] [] (a8 (qB (c:=ae) fF [] x0 32 (by decide) (by first | (simp;done) | simpa using g0)) (aC (CR 29 2 ae x0) aN))
def fG (x0:aq) (x1:Shape) (x2:List (aq×aq)) (x3:List (aq×Shape)) (x4:List (Linear×Linear)):Option (Int×(List (aq×Shape))) :=
 cb (x3=[]) <|
 some (0,(dE x0 x1 []))
theorem ow (x0:aq) (x1:Shape) (x2:List (aq×aq)) (x3:List (aq×Shape)) (x4:List (Linear×Linear)) (r:Int×(List (aq×Shape))) (H:fG x0 x1 x2 x3 x4=some r):bn Tryz.prog 85 [.hptr 1000 0,.str x0,.agg [.str x1.Row,dS ae x1.Dims]] [(1000,.cells 95 [.amap 1001,.amap 1002,.rslice 1003]),(1001,.smap 0 9 (x2.map (aJ aZ))),(1002,.smap 0 34 (x3.map (aJ (iM aY)))),(1003,.row 98 4 (x4.map az))] (fun r2 h0=>r2=(iI r.1)∧h0=[(0,.smap 0 34 (r.2.map (aJ (iM aY)))),(1000,.cells 95 [.amap 1001,.amap 0,.rslice 1003]),(1001,.smap 0 9 (x2.map (aJ aZ))),(1003,.row 98 4 (x4.map az))]):=by unfold fG at H;refine aX Tryz.func85 53 [.tmp 6] ?_;refine aP H fun g0 H0 => ?_;obtain rfl:=sI H0;exact pR 25 [r0 [.m,.v],V5,r0 [.v,.m,.v,.v,.m,.rwH 19 (.smap 0 34 ((dE x0 x1 []).map (aJ (iM aY)))),.v,.v,.v,.m],V1,r0 [.m,.v,.v,.m,.rwH 25 (.smap 0 34 ((dE x0 x1 []).map (aJ (iM aY)))),.v,.v],r0 [.v,.rwH 1002 (.smap 0 34 ([].map (aJ (iM aY)))),.m],.un,r0 [.m,.v],r0 (V 4 [.m]),V2] [.ren [(25,0),(1000,1000),(1001,1001),(1003,1003)]] [0,1000,1001,1003] (aC (congrArg (AO.smap 0 34) (fV (c:=(iM aY)) x0 x1 [])) (aC (congrArg (AO.smap 0 34) (fV (c:=(iM aY)) x0 x1 [])) (aC (congrArg (fun l=>AO.smap 0 34 (List.map (aJ (iM aY)) l)) g0) aN)))
noncomputable def cX (x0 x1:Shape) (x2:List (aq×aq)) (x3:List (aq×Shape)) (x4:List (Linear×Linear)):Option (Int×(List (Linear×Linear))×(List (aq×Shape))) :=
 (eZ x0 x2 x3 x4).bind fun y0 =>
 bif (y0.2==0) then (
  (eZ x1 x2 x3 x4).bind fun y1 =>
  bif (y1.2==0) then (
   (xv (σ:=(Int×(List (Linear×Linear)))) (ε:=(List (Linear×Linear))) (ρ:=Empty) (fun s0 =>
    bif decide (s0.1≤(if ((y1.1.Dims.length:Nat):Int)<((y0.1.Dims.length:Nat):Int) then ((y1.1.Dims.length:Nat):Int) else ((y0.1.Dims.length:Nat):Int))) then (
     cb (0≤(bg (((y0.1.Dims.length:Nat):Int)-s0.1))∧(bg (((y0.1.Dims.length:Nat):Int)-s0.1))<(y0.1.Dims.length:Int)) <|
     cb (0≤(bg (((y1.1.Dims.length:Nat):Int)-s0.1))∧(bg (((y1.1.Dims.length:Nat):Int)-s0.1))<(y1.1.Dims.length:Int)) <|
     cb ((s0.2.length+1)*64≤140737488355328) <|
     some (.go ((bg (s0.1+1)),(s0.2++[((Linear.mk ((y0.1.Dims.getD (bg (((y0.1.Dims.length:Nat):Int)-s0.1)).toNat ax).Const) ((y0.1.Dims.getD (bg (((y0.1.Dims.length:Nat):Int)-s0.1)).toNat ax).Terms)),(Linear.mk ((y1.1.Dims.getD (bg (((y1.1.Dims.length:Nat):Int)-s0.1)).toNat ax).Const) ((y1.1.Dims.getD (bg (((y1.1.Dims.length:Nat):Int)-s0.1)).toNat ax).Terms)))])))
    ) else (
     some (.brk s0.2)
    )
   ) 4294967296 (1,x4)).bind <| dq fun u0 =>
   cb (0≤(bg (((y0.1.Dims.length:Nat):Int)-(if ((y1.1.Dims.length:Nat):Int)<((y0.1.Dims.length:Nat):Int) then ((y1.1.Dims.length:Nat):Int) else ((y0.1.Dims.length:Nat):Int))))∧(bg (((y0.1.Dims.length:Nat):Int)-(if ((y1.1.Dims.length:Nat):Int)<((y0.1.Dims.length:Nat):Int) then ((y1.1.Dims.length:Nat):Int) else ((y0.1.Dims.length:Nat):Int))))≤(y0.1.Dims.length:Int)) <|
   cb (0≤(bg (((y1.1.Dims.length:Nat):Int)-(if ((y1.1.Dims.length:Nat):Int)<((y0.1.Dims.length:Nat):Int) then ((y1.1.Dims.length:Nat):Int) else ((y0.1.Dims.length:Nat):Int))))∧(bg (((y1.1.Dims.length:Nat):Int)-(if ((y1.1.Dims.length:Nat):Int)<((y0.1.Dims.length:Nat):Int) then ((y1.1.Dims.length:Nat):Int) else ((y0.1.Dims.length:Nat):Int))))≤(y1.1.Dims.length:Int)) <|
   ((
    bif ((((y0.1.Dims.take ((bg (((y0.1.Dims.length:Nat):Int)-(if ((y1.1.Dims.length:Nat):Int)<((y0.1.Dims.length:Nat):Int) then ((y1.1.Dims.length:Nat):Int) else ((y0.1.Dims.length:Nat):Int)))).toNat)).length:Nat):Int)==0) then (
     some ((((y1.1.Dims.take ((bg (((y1.1.Dims.length:Nat):Int)-(if ((y1.1.Dims.length:Nat):Int)<((y0.1.Dims.length:Nat):Int) then ((y1.1.Dims.length:Nat):Int) else ((y0.1.Dims.length:Nat):Int)))).toNat)).length:Nat):Int)==0)
    ) else (
     some false
    )
   ):Option Bool).bind fun v0 =>
   bif v0 then (
    none
   ) else (
    ((
     bif ((((y0.1.Dims.take ((bg (((y0.1.Dims.length:Nat):Int)-(if ((y1.1.Dims.length:Nat):Int)<((y0.1.Dims.length:Nat):Int) then ((y1.1.Dims.length:Nat):Int) else ((y0.1.Dims.length:Nat):Int)))).toNat)).length:Nat):Int)==0) then (
      some (y1.1.Row,(y1.1.Dims.take ((bg (((y1.1.Dims.length:Nat):Int)-(if ((y1.1.Dims.length:Nat):Int)<((y0.1.Dims.length:Nat):Int) then ((y1.1.Dims.length:Nat):Int) else ((y0.1.Dims.length:Nat):Int)))).toNat)),y0.1.Row,(y0.1.Dims.take ((bg (((y0.1.Dims.length:Nat):Int)-(if ((y1.1.Dims.length:Nat):Int)<((y0.1.Dims.length:Nat):Int) then ((y1.1.Dims.length:Nat):Int) else ((y0.1.Dims.length:Nat):Int)))).toNat)))
     ) else (
      some (y0.1.Row,(y0.1.Dims.take ((bg (((y0.1.Dims.length:Nat):Int)-(if ((y1.1.Dims.length:Nat):Int)<((y0.1.Dims.length:Nat):Int) then ((y1.1.Dims.length:Nat):Int) else ((y0.1.Dims.length:Nat):Int)))).toNat)),y1.1.Row,(y1.1.Dims.take ((bg (((y1.1.Dims.length:Nat):Int)-(if ((y1.1.Dims.length:Nat):Int)<((y0.1.Dims.length:Nat):Int) then ((y1.1.Dims.length:Nat):Int) else ((y0.1.Dims.length:Nat):Int)))).toNat)))
     )
    ):Option (aq×(List Linear)×aq×(List Linear))).bind fun v1 =>
    bif (v1.2.2.1==[]) then (
     some (13,u0,x3)
    ) else (
     bif (v1.2.2.1==v1.1) then (
      none
     ) else (
      (eG v1.2.1).bind fun y2 =>
      (fG v1.2.2.1 (Shape.mk v1.1 y2) x2 x3 u0).bind fun y3 =>
      some (y3.1,u0,y3.2)
     )
    )
   )
  ) else (
   none
  )
 ) else (
  none
 )
def dC (x2:List (aq×aq)) (x3:List (aq×Shape)) (y0 y1:Shape×Int) (s0:Int×(List (Linear×Linear))):AS:=⟨128,[(0,.hptr 1000 0),(4,.hptr 4 0),(5,.hptr 5 0),(6,iI 0),(8,iI (if ((y1.1.Dims.length:Nat):Int)<((y0.1.Dims.length:Nat):Int) then ((y1.1.Dims.length:Nat):Int) else ((y0.1.Dims.length:Nat):Int))),(9,iI s0.1)],[(4,.cells 34 [.str y0.1.Row,dS ae y0.1.Dims]),(5,.cells 34 [.str y1.1.Row,dS ae y1.1.Dims]),(65,.row 98 4 (s0.2.map az)),(1000,.cells 95 [.amap 1001,.amap 1002,.rslice 65]),(1001,.smap 0 9 (x2.map (aJ aZ))),(1002,.smap 0 34 (x3.map (aJ (iM aY))))]⟩
def fR (x2:List (aq×aq)) (x3:List (aq×Shape)) (y0 y1:Shape×Int) (u1:List (Linear×Linear)):AS:=⟨128,[(0,.hptr 1000 0),(4,.hptr 4 0),(5,.hptr 5 0),(6,iI 0),(8,iI (if ((y1.1.Dims.length:Nat):Int)<((y0.1.Dims.length:Nat):Int) then ((y1.1.Dims.length:Nat):Int) else ((y0.1.Dims.length:Nat):Int)))],[(4,.cells 34 [.str y0.1.Row,dS ae y0.1.Dims]),(5,.cells 34 [.str y1.1.Row,dS ae y1.1.Dims]),(65,.row 98 4 (u1.map az)),(1000,.cells 95 [.amap 1001,.amap 1002,.rslice 65]),(1001,.smap 0 9 (x2.map (aJ aZ))),(1002,.smap 0 34 (x3.map (aJ (iM aY))))]⟩
def dw (x2:List (aq×aq)) (x3:List (aq×Shape)) (y0 y1:Shape×Int) (u0:List (Linear×Linear)) (v0:Bool):AS:=⟨128,[(0,.hptr 1000 0),(4,.hptr 4 0),(5,.hptr 5 0),(6,iI 0),(95,.bool v0)],[(4,.cells 34 [.str y0.1.Row,.dslice ((y0.1.Dims.take ((bg (((y0.1.Dims.length:Nat):Int)-(if ((y1.1.Dims.length:Nat):Int)<((y0.1.Dims.length:Nat):Int) then ((y1.1.Dims.length:Nat):Int) else ((y0.1.Dims.length:Nat):Int)))).toNat)).map ae)]),(5,.cells 34 [.str y1.1.Row,.dslice ((y1.1.Dims.take ((bg (((y1.1.Dims.length:Nat):Int)-(if ((y1.1.Dims.length:Nat):Int)<((y0.1.Dims.length:Nat):Int) then ((y1.1.Dims.length:Nat):Int) else ((y0.1.Dims.length:Nat):Int)))).toNat)).map ae)]),(65,.row 98 4 (u0.map az)),(1000,.cells 95 [.amap 1001,.amap 1002,.rslice 65]),(1001,.smap 0 9 (x2.map (aJ aZ))),(1002,.smap 0 34 (x3.map (aJ (iM aY))))]⟩
def dy (x2:List (aq×aq)) (x3:List (aq×Shape)) (u0:List (Linear×Linear)) (v1:aq×(List Linear)×aq×(List Linear)):AS:=⟨128,[(0,.hptr 1000 0),(4,.hptr 4 0),(5,.hptr 5 0),(6,iI 0)],[(4,.cells 34 [.str v1.1,dS ae v1.2.1]),(5,.cells 34 [.str v1.2.2.1,dS ae v1.2.2.2]),(65,.row 98 4 (u0.map az)),(1000,.cells 95 [.amap 1001,.amap 1002,.rslice 65]),(1001,.smap 0 9 (x2.map (aJ aZ))),(1002,.smap 0 34 (x3.map (aJ (iM aY))))]⟩
theorem fZ (x0 x1:Shape) (x2:List (aq×aq)) (x3:List (aq×Shape)) (x4:List (Linear×Linear)) (r:Int×(List (Linear×Linear))×(List (aq×Shape))) (H:cX x0 x1 x2 x3 x4=some r):bn Tryz.prog 43 [.hptr 1000 0,.agg [.str x0.Row,dS ae x0.Dims],.agg [.str x1.Row,dS ae x1.Dims]] [(1000,.cells 95 [.amap 1001,.amap 1002,.rslice 1003]),(1001,.smap 0 9 (x2.map (aJ aZ))),(1002,.smap 0 34 (x3.map (aJ (iM aY)))),(1003,.row 98 4 (x4.map az))] (fun r2 h0=>r2=(iI r.1)∧h0=[(0,.row 98 4 (r.2.1.map az)),(1,.smap 0 34 (r.2.2.map (aJ (iM aY)))),(1000,.cells 95 [.amap 1001,.amap 1,.rslice 0]),(1001,.smap 0 9 (x2.map (aJ aZ)))]):=by
 unfold cX at H;refine aX Tryz.func43 128 [.tmp 6] ?_;refine aD H fun y0 h1 H0 => ?_;refine pD 7 [r0 [.m,.m,.v],r0 [.v,.v,.hM [(1000,1000),(1001,1001),(1002,1002),(1003,1003)] [] (.tup [.agg [.str y0.1.Row,dS ae y0.1.Dims],iI y0.2]) [(1000,.cells 95 [.amap 1001,.amap 1002,.rslice 1003]),(1001,.smap 0 9 (x2.map (aJ aZ))),(1002,.smap 0 34 (x3.map (aJ (iM aY)))),(1003,.row 98 4 (x4.map az))],.v,.v,.v,.m,.v],V2] [.only [0,4,5,6,7,17] [4,5,1000,1001,1002,1003]] 7 [] (aC Tryz.call83 (aC (jE _ _ _ _ _ h1) aN)) ?_;refine aK H0 (fun c0 H1 => ?_) (fun c1 H2 => ?_)
 ·refine aD H1 fun y1 h2 H3 => ?_;refine pD 8 [.eqT 17 bF,r0 [.v,.v,.hM [(1000,1000),(1001,1001),(1002,1002),(1003,1003)] [] (.tup [.agg [.str y1.1.Row,dS ae y1.1.Dims],iI y1.2]) [(1000,.cells 95 [.amap 1001,.amap 1002,.rslice 1003]),(1001,.smap 0 9 (x2.map (aJ aZ))),(1002,.smap 0 34 (x3.map (aJ (iM aY)))),(1003,.row 98 4 (x4.map az))],.v,.v,.v,.m,.v],V2] [.only [0,4,5,6,7,26] [4,5,1000,1001,1002,1003]] 7 [false] (aM c0 (aC Tryz.call83 (aC (jE _ _ _ _ _ h2) aN))) ?_;refine aK H3 (fun c2 H4 => ?_) (fun c3 H5 => ?_)
  ·refine pA 9 [.eqT 26 bF,.rg 0 [] [.v,.v,.e (.int .i64 ((y0.1.Dims.length:Nat):Int)),.v,.v,.e (.int .i64 ((y1.1.Dims.length:Nat):Int)),.v,.v],.rg 0 [] [.v]] [.ren [(4,4),(5,5),(1003,65),(1000,1000),(1001,1001),(1002,1002)],.only [0,4,5,6,8,9] [4,5,65,1000,1001,1002]] 8 [false] (dC x2 x3 y0 y1 (1,x4)) (aM c2 (aT (aC (aG ae y0.1.Dims) (aT (aC (aG ae y1.1.Dims) (aT aN)))))) ?_;refine aD H4 fun R0 h3 H6 => ?_;refine pJ 1 (fR x2 x3 y0 y1) R0 ?_ (fun u0 e0 => ?_)
   ·refine nG (dC x2 x3 y0 y1) (by kernel_rfl) h3 (fun s0 q0 h4 h5 => ?_)
    ·refine aK h4 (fun c4 H7 => ?_) (fun c5 H8 => ?_)
     ·refine aP H7 fun g0 H9 => ?_;refine aP H9 fun g1 H10 => ?_;refine aP H10 fun g2 H11 => ?_;obtain rfl:=sI H11;exact pB 11 [V3,.eqT 37 bT,.cv [.ren [(4,4),(5,5),(65,900),(1000,1000),(1001,1001),(1002,1002)]],.rg 26 (V 4 [.lt,.v,.v,.v,.v,.e (nI y0.1.Dims.length),.v,.w,.e (.dptr (ae (y0.1.Dims.getD (bg (((y0.1.Dims.length:Nat):Int)-s0.1)).toNat ax))),.v,.v,.v,.v,.v,.e (nI y1.1.Dims.length),.v,.w,.e (.dptr (ae (y1.1.Dims.getD (bg (((y1.1.Dims.length:Nat):Int)-s0.1)).toNat ax))),.v,.b,.b,.apx ((s0.2++[((Linear.mk ((y0.1.Dims.getD (bg (((y0.1.Dims.length:Nat):Int)-s0.1)).toNat ax).Const) ((y0.1.Dims.getD (bg (((y0.1.Dims.length:Nat):Int)-s0.1)).toNat ax).Terms)),(Linear.mk ((y1.1.Dims.getD (bg (((y1.1.Dims.length:Nat):Int)-s0.1)).toNat ax).Const) ((y1.1.Dims.getD (bg (((y1.1.Dims.length:Nat):Int)-s0.1)).toNat ax).Terms)))]).map az)]) [.v,.v,.m],r0 [.v,.w,.v]] [.only [0,4,5,6,8,9] [4,5,65,1000,1001,1002]] (dC x2 x3 y0 y1 ((bg (s0.1+1)),(s0.2++[((Linear.mk ((y0.1.Dims.getD (bg (((y0.1.Dims.length:Nat):Int)-s0.1)).toNat ax).Const) ((y0.1.Dims.getD (bg (((y0.1.Dims.length:Nat):Int)-s0.1)).toNat ax).Terms)),(Linear.mk ((y1.1.Dims.getD (bg (((y1.1.Dims.length:Nat):Int)-s0.1)).toNat ax).Const) ((y1.1.Dims.getD (bg (((y1.1.Dims.length:Nat):Int)-s0.1)).toNat ax).Terms)))]))) (aB c4 (aT (aC (aG ae y0.1.Dims) (a8 (Dc (f:=ae) (l:=y0.1.Dims) (n:=(bg (((y0.1.Dims.length:Nat):Int)-s0.1))) ax bA (by decide) (by exact g0)) (aT (aC (aG ae y1.1.Dims) (a8 (Dc (f:=ae) (l:=y1.1.Dims) (n:=(bg (((y1.1.Dims.length:Nat):Int)-s0.1))) ax bA (by decide) (by exact g1)) (a8 (ET (c:=az) vo s0.2 [((Linear.mk ((y0.1.Dims.getD (bg (((y0.1.Dims.length:Nat):Int)-s0.1)).toNat ax).Const) ((y0.1.Dims.getD (bg (((y0.1.Dims.length:Nat):Int)-s0.1)).toNat ax).Terms)),(Linear.mk ((y1.1.Dims.getD (bg (((y1.1.Dims.length:Nat):Int)-s0.1)).toNat ax).Const) ((y1.1.Dims.getD (bg (((y1.1.Dims.length:Nat):Int)-s0.1)).toNat ax).Terms)))] 64 (by decide) (by first | (simp;done) | simpa using g2) List.map_append.symm) aN))))))))
     ·obtain rfl:=sI H8;obtain rfl:=fy h5;exact pB 6 [V3,.eqT 37 bF] [.only [0,4,5,6,8] [4,5,65,1000,1001,1002]] (fR x2 x3 y0 y1 s0.2) (aB c5 aN)
   ·subst e0;have H12:=a7 H6;refine aP H12 fun g3 H13 => ?_;refine aP H13 fun g4 H14 => ?_;refine pD 4 [.rg 18 (V 4 [.e (nI y0.1.Dims.length),.v,.w,.e (.dslice ((y0.1.Dims.take ((bg (((y0.1.Dims.length:Nat):Int)-(if ((y1.1.Dims.length:Nat):Int)<((y0.1.Dims.length:Nat):Int) then ((y1.1.Dims.length:Nat):Int) else ((y0.1.Dims.length:Nat):Int)))).toNat)).map ae)),.v,.v,.v,.v,.e (nI y1.1.Dims.length),.v,.w,.e (.dslice ((y1.1.Dims.take ((bg (((y1.1.Dims.length:Nat):Int)-(if ((y1.1.Dims.length:Nat):Int)<((y0.1.Dims.length:Nat):Int) then ((y1.1.Dims.length:Nat):Int) else ((y0.1.Dims.length:Nat):Int)))).toNat)).map ae)),.v,.m]) [.v,.m]] [.only [0,4,5,6] [4,5,65,1000,1001,1002]] 4 [] (aT (aC (aG ae y0.1.Dims) (aC (show ((0:Int)≤0∧0≤(bg (((y0.1.Dims.length:Nat):Int)-(if ((y1.1.Dims.length:Nat):Int)<((y0.1.Dims.length:Nat):Int) then ((y1.1.Dims.length:Nat):Int) else ((y0.1.Dims.length:Nat):Int))))∧(bg (((y0.1.Dims.length:Nat):Int)-(if ((y1.1.Dims.length:Nat):Int)<((y0.1.Dims.length:Nat):Int) then ((y1.1.Dims.length:Nat):Int) else ((y0.1.Dims.length:Nat):Int))))≤((y0.1.Dims.map ae).length:Int))∧UL 2 (y0.1.Dims.map ae) from ⟨by first | omega | (simp only [Hp];omega),UL.map bA _⟩) (aC (p8 ae y0.1.Dims ((bg (((y0.1.Dims.length:Nat):Int)-(if ((y1.1.Dims.length:Nat):Int)<((y0.1.Dims.length:Nat):Int) then ((y1.1.Dims.length:Nat):Int) else ((y0.1.Dims.length:Nat):Int)))).toNat)) (aT (aC (aG ae y1.1.Dims) (aC (show ((0:Int)≤0∧0≤(bg (((y1.1.Dims.length:Nat):Int)-(if ((y1.1.Dims.length:Nat):Int)<((y0.1.Dims.length:Nat):Int) then ((y1.1.Dims.length:Nat):Int) else ((y0.1.Dims.length:Nat):Int))))∧(bg (((y1.1.Dims.length:Nat):Int)-(if ((y1.1.Dims.length:Nat):Int)<((y0.1.Dims.length:Nat):Int) then ((y1.1.Dims.length:Nat):Int) else ((y0.1.Dims.length:Nat):Int))))≤((y1.1.Dims.map ae).length:Int))∧UL 2 (y1.1.Dims.map ae) from ⟨by first | omega | (simp only [Hp];omega),UL.map bA _⟩) (aC (p8 ae y1.1.Dims ((bg (((y1.1.Dims.length:Nat):Int)-(if ((y1.1.Dims.length:Nat):Int)<((y0.1.Dims.length:Nat):Int) then ((y1.1.Dims.length:Nat):Int) else ((y0.1.Dims.length:Nat):Int)))).toNat)) aN)))))))) ?_;refine aD H14 fun v0 h6 H15 => ?_;refine cS 0 (dw x2 x3 y0 y1 u0 v0) (by kernel_rfl) ?_ ?_
    ·refine aK h6 (fun c6 H16 => ?_) (fun c7 H17 => ?_)
     ·obtain rfl:=sI H16;exact pB 1 [r0 [.v,.v,.e (iI (((y0.1.Dims.take ((bg (((y0.1.Dims.length:Nat):Int)-(if ((y1.1.Dims.length:Nat):Int)<((y0.1.Dims.length:Nat):Int) then ((y1.1.Dims.length:Nat):Int) else ((y0.1.Dims.length:Nat):Int)))).toNat)).length:Nat):Int)),.e bT,.v,.v,.v,.e (iI (((y1.1.Dims.take ((bg (((y1.1.Dims.length:Nat):Int)-(if ((y1.1.Dims.length:Nat):Int)<((y0.1.Dims.length:Nat):Int) then ((y1.1.Dims.length:Nat):Int) else ((y0.1.Dims.length:Nat):Int)))).toNat)).length:Nat):Int)),.v,.v]] [.only [0,4,5,6,95] [4,5,65,1000,1001,1002]] (dw x2 x3 y0 y1 u0 ((((y1.1.Dims.take ((bg (((y1.1.Dims.length:Nat):Int)-(if ((y1.1.Dims.length:Nat):Int)<((y0.1.Dims.length:Nat):Int) then ((y1.1.Dims.length:Nat):Int) else ((y0.1.Dims.length:Nat):Int)))).toNat)).length:Nat):Int)==0)) (aT (aC (aG ae (y0.1.Dims.take ((bg (((y0.1.Dims.length:Nat):Int)-(if ((y1.1.Dims.length:Nat):Int)<((y0.1.Dims.length:Nat):Int) then ((y1.1.Dims.length:Nat):Int) else ((y0.1.Dims.length:Nat):Int)))).toNat))) (aB c6 (aT (aC (aG ae (y1.1.Dims.take ((bg (((y1.1.Dims.length:Nat):Int)-(if ((y1.1.Dims.length:Nat):Int)<((y0.1.Dims.length:Nat):Int) then ((y1.1.Dims.length:Nat):Int) else ((y0.1.Dims.length:Nat):Int)))).toNat))) aN)))))
     ·obtain rfl:=sI H17;exact pB 1 [r0 [.v,.v,.e (iI (((y0.1.Dims.take ((bg (((y0.1.Dims.length:Nat):Int)-(if ((y1.1.Dims.length:Nat):Int)<((y0.1.Dims.length:Nat):Int) then ((y1.1.Dims.length:Nat):Int) else ((y0.1.Dims.length:Nat):Int)))).toNat)).length:Nat):Int)),.e bF,.v,.s,.s,.s,.s,.v]] [.only [0,4,5,6,95] [4,5,65,1000,1001,1002]] (dw x2 x3 y0 y1 u0 false) (aT (aC (aG ae (y0.1.Dims.take ((bg (((y0.1.Dims.length:Nat):Int)-(if ((y1.1.Dims.length:Nat):Int)<((y0.1.Dims.length:Nat):Int) then ((y1.1.Dims.length:Nat):Int) else ((y0.1.Dims.length:Nat):Int)))).toNat))) (aB c7 aN)))
    ·refine aK H15 (fun c8 H18 => ?_) (fun c9 H19 => ?_)
     ·cases H18
     ·refine pD 6 [.eqT 95 bF,.rg 0 [] [.v,.v,.e (.int .i64 (((y0.1.Dims.take ((bg (((y0.1.Dims.length:Nat):Int)-(if ((y1.1.Dims.length:Nat):Int)<((y0.1.Dims.length:Nat):Int) then ((y1.1.Dims.length:Nat):Int) else ((y0.1.Dims.length:Nat):Int)))).toNat)).length:Nat):Int)),.v]] [.only [0,4,5,6,105] [4,5,65,1000,1001,1002]] 5 [false] (aB c9 (aT (aC (aG ae (y0.1.Dims.take ((bg (((y0.1.Dims.length:Nat):Int)-(if ((y1.1.Dims.length:Nat):Int)<((y0.1.Dims.length:Nat):Int) then ((y1.1.Dims.length:Nat):Int) else ((y0.1.Dims.length:Nat):Int)))).toNat))) aN))) ?_;refine aD H19 fun v1 h7 H20 => ?_;refine cS 0 (dy x2 x3 u0 v1) (by kernel_rfl) ?_ ?_
      ·refine aK h7 (fun c10 H21 => ?_) (fun c11 H22 => ?_)
       ·obtain rfl:=sI H21;exact pB 3 [.eqT 105 bT,r0 [.v,.v,.m,.m]] [.only [0,4,5,6] [4,5,65,1000,1001,1002]] (dy x2 x3 u0 (y1.1.Row,(y1.1.Dims.take ((bg (((y1.1.Dims.length:Nat):Int)-(if ((y1.1.Dims.length:Nat):Int)<((y0.1.Dims.length:Nat):Int) then ((y1.1.Dims.length:Nat):Int) else ((y0.1.Dims.length:Nat):Int)))).toNat)),y0.1.Row,(y0.1.Dims.take ((bg (((y0.1.Dims.length:Nat):Int)-(if ((y1.1.Dims.length:Nat):Int)<((y0.1.Dims.length:Nat):Int) then ((y1.1.Dims.length:Nat):Int) else ((y0.1.Dims.length:Nat):Int)))).toNat)))) (aB c10 aN)
       ·obtain rfl:=sI H22;exact pB 3 [.eqT 105 bF] [.only [0,4,5,6] [4,5,65,1000,1001,1002]] (dy x2 x3 u0 (y0.1.Row,(y0.1.Dims.take ((bg (((y0.1.Dims.length:Nat):Int)-(if ((y1.1.Dims.length:Nat):Int)<((y0.1.Dims.length:Nat):Int) then ((y1.1.Dims.length:Nat):Int) else ((y0.1.Dims.length:Nat):Int)))).toNat)),y1.1.Row,(y1.1.Dims.take ((bg (((y1.1.Dims.length:Nat):Int)-(if ((y1.1.Dims.length:Nat):Int)<((y0.1.Dims.length:Nat):Int) then ((y1.1.Dims.length:Nat):Int) else ((y0.1.Dims.length:Nat):Int)))).toNat)))) (aB c11 aN)
      ·refine aK H20 (fun c12 H23 => ?_) (fun c13 H24 => ?_)
       ·obtain rfl:=sI H23;exact pR 7 [r0 [.v,.v,.e bT,.v,.s,.s,.s,.s,.s,.v],V1] [.ren [(65,0),(1002,1),(1000,1000),(1001,1001)]] [0,1,1000,1001] (aB c12 aN)
       ·refine aK H24 (fun c14 H25 => ?_) (fun c15 H26 => ?_)
        ·cases H25
        ·refine aD H26 fun y2 h8 H27 => ?_;refine aD H27 fun y3 h9 H28 => ?_;obtain rfl:=sI H28;exact pR 9 [r0 [.v,.v,.e bF,.v,.v,.v,.v,.v,.v,.v],.eqT 117 bF,.rg 9 (V 7 [.c true (dS ae y2),.b]) [.hM [(1000,1000),(1001,1001),(1002,1002),(65,1003)] [(0,900)] (iI y3.1) [(0,.smap 0 34 (y3.2.map (aJ (iM aY)))),(1000,.cells 95 [.amap 1001,.amap 0,.rslice 1003]),(1001,.smap 0 9 (x2.map (aJ aZ))),(1003,.row 98 4 (u0.map az))],.v]] [.ren [(65,0),(900,1),(1000,1000),(1001,1001)]] [0,1,1000,1001] (aB c13 (aB c15 (aC Tryz.call86 (aF (mq _ _ h8) (aC Tryz.call85 (aC (ow _ _ _ _ _ _ h9) aN))))))
  ·cases H5
 ·cases H2
noncomputable def mA (x0:List ah):Option ((List (aq×aq))×(List (aq×Shape))×(List (Linear×Linear))×Int) :=
 (dF (σ:=((List (aq×Shape))×(List (Linear×Linear))×(List (aq×aq)))) (ε:=((List (Linear×Linear))×(List (aq×Shape))×(List (aq×aq)))) (ρ:=((List (aq×aq))×(List (aq×Shape))×(List (Linear×Linear))×Int)) (fun i0 s0 =>
  (de (((x0.getD i0 aa).A).Elem) (((x0.getD i0 aa).B).Elem) s0.2.2 s0.1 s0.2.1).bind fun y0 =>
  bif (y0.1==0) then (
   (cX (Shape.mk ((((x0.getD i0 aa).A).Shape).Row) ((((x0.getD i0 aa).A).Shape).Dims)) (Shape.mk ((((x0.getD i0 aa).B).Shape).Row) ((((x0.getD i0 aa).B).Shape).Dims)) y0.2 s0.1 s0.2.1).bind fun y1 =>
   bif (y1.1==0) then (
    some (.go (y1.2.2,y1.2.1,y0.2))
   ) else (
    none
   )
  ) else (
   none
  )
 ) (fun i0 s0=>(s0.2.1,s0.1,s0.2.2)) (x0.length-0) 0 ([],[],[])).bind <| aft fun u0 =>
 some (u0.2.2,u0.2.1,u0.1,0)
def lP (x0:List ah) (i0:Nat) (s0:(List (aq×Shape))×(List (Linear×Linear))×(List (aq×aq))):AS:=⟨43,[(2,.lit (.pointer none)),(3,iI 0),(4,.hptr 12 0),(13,dS ag x0),(14,nI x0.length),(15,nI i0)],[(9,.smap 0 9 (s0.2.2.map (aJ aZ))),(12,.cells 95 [.amap 9,.amap 902,.rslice 901]),(901,.row 98 4 (s0.2.1.map az)),(902,.smap 0 34 (s0.1.map (aJ (iM aY))))]⟩
def qg (u1:(List (Linear×Linear))×(List (aq×Shape))×(List (aq×aq))):AS:=⟨43,[(2,.lit (.pointer none)),(3,iI 0),(4,.hptr 12 0)],[(9,.smap 0 9 (u1.2.2.map (aJ aZ))),(12,.cells 95 [.amap 9,.amap 902,.rslice 901]),(901,.row 98 4 (u1.1.map az)),(902,.smap 0 34 (u1.2.1.map (aJ (iM aY))))]⟩
theorem wF (x0:List ah) (r:(List (aq×aq))×(List (aq×Shape))×(List (Linear×Linear))×Int) (H:mA x0=some r):bn Tryz.prog 20 [dS ag x0] [] (fun r2 h0=>r2=(.tup [.hptr 12 0,iI r.2.2.2])∧h0=[(9,.smap 0 9 (r.1.map (aJ aZ))),(12,.cells 95 [.amap 9,.amap 902,.rslice 901]),(901,.row 98 4 (r.2.2.1.map az)),(902,.smap 0 34 (r.2.1.map (aJ (iM aY))))]):=by
 unfold mA at H;refine aX Tryz.func20 43 [.tmp 2,.tmp 3] ?_;refine pA 8 [V2,r0 [.m,.m,.b,.m,.v],r0 [.v,.e (nI x0.length),.v]] [.erH 12 2 901 98 4,.ren [(9,9),(12,12),(901,901),(10,902)],.only [2,3,4,13,14,15] [9,12,901,902]] 8 [] (lP x0 0 ([],[],[])) (aT (aC (aG ag x0) aN)) ?_;refine aD H fun R0 h1 H0 => ?_;refine pJ 1 (qg) R0 ?_ (fun u0 e0 => ?_)
 ·refine pC (lP x0) h1 (fun i0 s0 h2 e1 => ?_) (fun i0 s0 h3 q0 h4 h5 => ?_)
  ·have c0:=lF i0 x0.length (by omega);subst e1;exact pB 5 [r0 [.e bF]] [.only [2,3,4] [9,12,901,902]] (qg (s0.2.1,s0.1,s0.2.2)) (aB c0 aN)
  ·have c1:=lT i0 x0.length (by omega);refine aD h4 fun y0 h6 H1 => ?_;refine pD 14 [r0 [.e bT],r0 [.e (.dptr [.str (((x0.getD i0 aa).A).Elem),.str ((((x0.getD i0 aa).A).Shape).Row),.dslice (((((x0.getD i0 aa).A).Shape).Dims).map ae),.str (((x0.getD i0 aa).B).Elem),.str ((((x0.getD i0 aa).B).Shape).Row),.dslice (((((x0.getD i0 aa).B).Shape).Dims).map ae)]),.v,.m,.m],r0 (V 7 [.hM [(12,1000),(9,1001),(902,1002),(901,1003)] [] (iI y0.1) [(1000,.cells 95 [.amap 1001,.amap 1002,.rslice 1003]),(1001,.smap 0 9 (y0.2.map (aJ aZ))),(1002,.smap 0 34 (s0.1.map (aJ (iM aY)))),(1003,.row 98 4 (s0.2.1.map az))],.v]),V2] [.only [2,3,4,6,7,13,14,15,28] [6,9,12,901,902]] 14 [true] (aB c1 (aI aS x0 i0 aa (aC Tryz.call42 (aC (gr _ _ _ _ _ _ h6) aN)))) ?_;refine aK H1 (fun c2 H2 => ?_) (fun c3 H3 => ?_)
   ·refine aD H2 fun y1 h7 H4 => ?_;refine pD 7 [.eqT 28 bF,r0 (V 7 [.hM [(12,1000),(9,1001),(902,1002),(901,1003)] [(0,900),(1,903)] (iI y1.1) [(0,.row 98 4 (y1.2.1.map az)),(1,.smap 0 34 (y1.2.2.map (aJ (iM aY)))),(1000,.cells 95 [.amap 1001,.amap 1,.rslice 0]),(1001,.smap 0 9 (y0.2.map (aJ aZ)))],.v]),V2] [.only [2,3,4,8,13,14,15,39] [9,12,900,903]] 6 [false] (aM c2 (aC Tryz.call43 (aC (fZ _ _ _ _ _ _ h7) aN))) ?_;refine aK H4 (fun c4 H5 => ?_) (fun c5 H6 => ?_)
    ·refine bt 13 (ps:=[(x0.map ag).length≤9223372036854775807]) (by kernel_rfl) (fun l0 => ?_);have l1:x0.length≤9223372036854775807:=by simpa only [bI,Hp] using l0
     clear l0;obtain rfl:=sI H5;exact pB 4 [.eqT 39 bF,V2] [.ren [(9,9),(12,12),(900,901),(903,902)],.only [2,3,4,13,14,15] [9,12,901,902]] (lP x0 (i0+1) (y1.2.2,y1.2.1,y0.2)) (aM c4 (aH i0 aN))
    ·cases H6
   ·cases H3
 ·subst e0;have H7:=bl H0;obtain rfl:=sI H7;exact pR 3 [V3] [] [9,12,901,902] aN
noncomputable def nv (x0:List ah):Option Int :=
 (xv (σ:=Unit) (ε:=Unit) (ρ:=Int) (fun s0 =>
  bif decide (0<((x0.length:Nat):Int)) then (
   (de (((x0.getD 0 aa).A).Elem) (((x0.getD 0 aa).B).Elem) [] [] []).bind fun y0 =>
   bif (y0.1==0) then (
    (cX (Shape.mk ((((x0.getD 0 aa).A).Shape).Row) ((((x0.getD 0 aa).A).Shape).Dims)) (Shape.mk ((((x0.getD 0 aa).B).Shape).Row) ((((x0.getD 0 aa).B).Shape).Dims)) y0.2 [] []).bind fun y1 =>
    bif (y1.1==0) then (
     none
    ) else (
     some (.ret y1.1)
    )
   ) else (
    none
   )
  ) else (
   some (.brk ())
  )
 ) 4294967296 ()).bind <| aft fun u0 =>
 none
def nX (x0:List ah) (s0:Unit):AS:=⟨43,[(2,.lit (.pointer none)),(3,iI 0),(4,.hptr 12 0),(13,dS ag x0),(14,nI x0.length),(15,iI 0)],[(9,.smap 0 9 ([].map (aJ aZ))),(10,.smap 0 34 ([].map (aJ (iM aY)))),(12,.cells 95 [.amap 9,.amap 10,.eslice])]⟩
def nZ (u1:Unit):AS:=⟨43,[(2,.lit (.pointer none)),(3,iI 0),(4,.hptr 12 0)],[(9,.smap 0 9 ([].map (aJ aZ))),(10,.smap 0 34 ([].map (aJ (iM aY)))),(12,.cells 95 [.amap 9,.amap 10,.eslice])]⟩
theorem tY (x0:List ah) (r:Int) (H:nv x0=some r):aW Tryz.prog 20 [dS ag x0] (.tup [.lit (.pointer none),iI r]):=by
 unfold nv at H;refine aX Tryz.func20 43 [.tmp 2,.tmp 3] ?_;refine pA 8 [V2,r0 [.m,.m,.b,.m,.v],r0 [.v,.e (nI x0.length),.v]] [.only [2,3,4,13,14,15] [9,10,12]] 8 [] (nX x0 ()) (aT (aC (aG ag x0) aN)) ?_;refine aD H fun R0 h0 H0 => ?_;refine pJ 1 (nZ) R0 ?_ (fun u0 e0 => ?_)
 ·refine nG (nX x0) (by kernel_rfl) h0 (fun s0 q0 h1 h2 => ?_)
  ·refine aK h1 (fun c0 H1 => ?_) (fun c1 H2 => ?_)
   ·have c0p:=Hm c0;refine aD H1 fun y0 h3 H3 => ?_;refine pD 16 [V1,.eqT 16 bT,r0 [.e (.dptr [.str (((x0.getD 0 aa).A).Elem),.str ((((x0.getD 0 aa).A).Shape).Row),.dslice (((((x0.getD 0 aa).A).Shape).Dims).map ae),.str (((x0.getD 0 aa).B).Elem),.str ((((x0.getD 0 aa).B).Shape).Row),.dslice (((((x0.getD 0 aa).B).Shape).Dims).map ae)]),.v,.m,.m],.cv [.erH 12 2 900 98 4],r0 (V 7 [.hM [(12,1000),(9,1001),(10,1002),(900,1003)] [] (iI y0.1) [(1000,.cells 95 [.amap 1001,.amap 1002,.rslice 1003]),(1001,.smap 0 9 (y0.2.map (aJ aZ))),(1002,.smap 0 34 ([].map (aJ (iM aY)))),(1003,.row 98 4 ([].map az))],.v]),V2] [.only [2,3,4,6,7,13,14,15,28] [6,9,10,12,900]] 14 [true] (aB c0 (aI aS x0 0 aa (aC Tryz.call42 (aC (gr _ _ _ _ _ _ h3) aN)))) ?_;refine aK H3 (fun c2 H4 => ?_) (fun c3 H5 => ?_)
    ·refine aD H4 fun y1 h4 H6 => ?_;refine pD 7 [.eqT 28 bF,r0 (V 7 [.hM [(12,1000),(9,1001),(10,1002),(900,1003)] [(0,901),(1,902)] (iI y1.1) [(0,.row 98 4 (y1.2.1.map az)),(1,.smap 0 34 (y1.2.2.map (aJ (iM aY)))),(1000,.cells 95 [.amap 1001,.amap 1,.rslice 0]),(1001,.smap 0 9 (y0.2.map (aJ aZ)))],.v]),V2] [.only [2,3,4,8,13,14,15,39] [9,12,901,902]] 6 [false] (aM c2 (aC Tryz.call43 (aC (fZ _ _ _ _ _ _ h4) aN))) ?_;refine aK H6 (fun c4 H7 => ?_) (fun c5 H8 => ?_)
     ·cases H7
     ·obtain rfl:=sI H8;obtain rfl:=aR h2;obtain rfl:=sI (aA H0);exact pR 5 [.eqT 39 bT,V3] [] [] (aM c5 aN)
    ·cases H5
   ·obtain rfl:=sI H2;obtain rfl:=fy h2;exact pB 6 [V1,.eqT 16 bF] [.only [2,3,4] [9,10,12]] (nZ ()) (aB c1 aN)
 ·subst e0;have H9:=bl H0;cases H9
def dt (x0:Linear) (x1 x2:Int) (x3:List (aq×Int)):Option (Int×(List (aq×Int))) :=
 (dF (σ:=(List (aq×Int))) (ε:=(Int×(List (aq×Int)))) (ρ:=(Int×(List (aq×Int)))) (fun i0 s0 =>
  some (.go (dE ((x0.Terms.getD i0 aw).Var) (bg ((bC 0 ((x0.Terms.getD i0 aw).Var) s0)+(bg (x1*((x0.Terms.getD i0 aw).C))))) s0))
 ) (fun i0 s0=>((bg (x2+(bg (x1*x0.Const)))),s0)) (x0.Terms.length-0) 0 x3).bind <| aft some
def iq (x0:Linear) (x1 x2:Int) (i0:Nat) (s0:List (aq×Int)):AS:=⟨39,[(0,.hptr 1000 0),(2,iI x1),(20,dS ai x0.Terms),(21,nI x0.Terms.length),(22,nI i0)],[(1000,.cells 158 [iI (bg (x2+(bg (x1*x0.Const)))),.amap 1001]),(1001,.smap 0 3 (s0.map (aJ au)))]⟩
theorem je (x0:Linear) (x1 x2:Int) (x3:List (aq×Int)) (r:Int×(List (aq×Int))) (H:dt x0 x1 x2 x3=some r):bn Tryz.prog 109 [.hptr 1000 0,.agg [iI x0.Const,dS ai x0.Terms],iI x1] [(1000,.cells 158 [iI x2,.amap 1001]),(1001,.smap 0 3 (x3.map (aJ au)))] (fun r2 h0=>r2=(.tup [])∧h0=[(1000,.cells 158 [iI r.1,.amap 1001]),(1001,.smap 0 3 (r.2.map (aJ au)))]):=by
 unfold dt at H;refine aX Tryz.func109 39 [] ?_;refine pA 7 [r0 [.m],.rg 8 (V 7 [.w]) [.w,.v,.v,.m],r0 [.v,.v,.e (nI x0.Terms.length),.v]] [.only [0,2,20,21,22] [1000,1001]] 7 [] (iq x0 x1 x2 0 x3) (aT (aC (aG ai x0.Terms) aN)) ?_;refine aD H fun R0 h1 H0 => ?_;refine pC (iq x0 x1 x2) h1 (fun i0 s0 h2 e0 => ?_) (fun i0 s0 h3 q0 h4 h5 => ?_)
 ·have c0:=lF i0 x0.Terms.length (by omega);subst e0;obtain rfl:=sI (bl H0);exact pR 5 [r0 [.e bF]] [] [1000,1001] (aB c0 aN)
 ·have c1:=lT i0 x0.Terms.length (by omega);refine bt 20 (ps:=[(x0.Terms.map ai).length≤9223372036854775807]) (by kernel_rfl) (fun l0 => ?_);have l1:x0.Terms.length≤9223372036854775807:=by simpa only [bI,Hp] using l0
  clear l0;obtain rfl:=sI h4;exact pB 11 [r0 [.e bT],r0 [.e (.dptr (ai (x0.Terms.getD i0 aw))),.v,.m,.m],.rg 11 (V 6 [.l (iI (bC 0 ((x0.Terms.getD i0 aw).Var) s0)),.v,.v,.v,.w]) [.w,.m,.rwH 1001 (.smap 0 3 ((dE ((x0.Terms.getD i0 aw).Var) (bg ((bC 0 ((x0.Terms.getD i0 aw).Var) s0)+(bg (x1*((x0.Terms.getD i0 aw).C))))) s0).map (aJ au)))],V2] [.only [0,2,20,21,22] [1000,1001]] (iq x0 x1 x2 (i0+1) (dE ((x0.Terms.getD i0 aw).Var) (bg ((bC 0 ((x0.Terms.getD i0 aw).Var) s0)+(bg (x1*((x0.Terms.getD i0 aw).C))))) s0)) (aB c1 (aI bE x0.Terms i0 aw (aC (jm (c:=au) ((x0.Terms.getD i0 aw).Var) 0 s0) (aC (congrArg (AO.smap 0 3) (fV (c:=au) ((x0.Terms.getD i0 aw).Var) (bg ((bC 0 ((x0.Terms.getD i0 aw).Var) s0)+(bg (x1*((x0.Terms.getD i0 aw).C))))) s0)) (aH i0 aN)))))
noncomputable def cu (x0:Int) (x1:List (aq×Int)):Option (Linear×Int) :=
 qX (σ:=(List aq)) (ε:=Empty) (β:=(Linear×Int)) x1 (fun e0 s0 =>
  bif (e0.2==0) then (
   some (.go s0)
  ) else (
   cb ((s0.length+1)*16≤140737488355328) <|
   some (.go (s0++[e0.1]))
  )
 ) [] (fun s0 =>
  (jO s0).bind fun y0 =>
  (dF (σ:=(List ay)) (ε:=(List ay)) (ρ:=Empty) (fun i0 s1 =>
   cb ((s1.length+1)*24≤140737488355328) <|
   some (.go (s1++[(ay.mk (y0.getD i0 []) (bC 0 (y0.getD i0 []) x1))]))
  ) (fun i0 s1=>s1) (y0.length-0) 0 []).bind <| dq fun u0 =>
  (bw (Linear.mk x0 u0)).bind fun y1 =>
  bif y1 then (
   some ((Linear.mk x0 u0),0)
  ) else (
   some ((Linear.mk 0 []),3)
  )
 )
def di (x0:Int) (x1:List (aq×Int)) (i1:List Nat) (s0:List aq):AS:=⟨58,[(0,.hptr 1000 0),(2,.hptr 2 0),(3,iI 0),(4,.hptr 4 0),(5,.rslice 30),(19,.hptr 19 0)],[(2,.cells 29 [iI 0,.eslice]),(4,.cells 29 [iI x0,.eslice]),(19,.iter (x1.map (aJ au)) i1),(30,.row 9 1 (s0.map aZ)),(1000,.cells 158 [iI x0,.dmap (x1.map (aJ au))])]⟩
def eR (x0:Int) (x1:List (aq×Int)) (y0:List aq) (i0:Nat) (s1:List ay):AS:=⟨58,[(0,.hptr 1000 0),(2,.hptr 2 0),(3,iI 0),(4,.hptr 4 0),(33,.rslice 30),(34,nI y0.length),(35,nI i0)],[(2,.cells 29 [iI 0,.eslice]),(4,.cells 29 [iI x0,.rslice 50]),(30,.row 9 1 (y0.map aZ)),(50,.row 31 2 (s1.map ai)),(1000,.cells 158 [iI x0,.dmap (x1.map (aJ au))])]⟩
def ic (x0:Int) (x1:List (aq×Int)) (u1:List ay):AS:=⟨58,[(2,.hptr 2 0),(3,iI 0),(4,.hptr 4 0)],[(2,.cells 29 [iI 0,.eslice]),(4,.cells 29 [iI x0,.rslice 50]),(50,.row 31 2 (u1.map ai)),(1000,.cells 158 [iI x0,.dmap (x1.map (aJ au))])]⟩
theorem iQ (x0:Int) (x1:List (aq×Int)) (r:Linear×Int) (H:cu x0 x1=some r):bn Tryz.prog 110 [.hptr 1000 0] [(1000,.cells 158 [iI x0,.amap 1001]),(1001,.smap 0 3 (x1.map (aJ au)))] (fun r2 h0=>r2=(.tup [.agg [iI r.1.Const,dS ai r.1.Terms],iI r.2])∧h0=[]):=by
 unfold cu at H;refine aX Tryz.func110 58 [.cell 2 29,.tmp 3] ?_;refine pA 10 [r0 [.m,.v],r0 (V 4 [.b,.m,.m]),V1,r0 (V 4 [.fm 1001,.m])] [.er 5 30 9 1,.only [0,2,3,4,5,19] [2,4,19,30,1000]] 10 [] (di x0 x1 [] []) (aC (sy qh x1) aN) ?_;refine sl (cc:=au) 19 (di x0 x1) (by kernel_rfl) H [.v] (fun i1 s0=>⟨by kernel_rfl,by kernel_rfl⟩) (fun i1 s0=>⟨58,[(0,.hptr 1000 0),(2,.hptr 2 0),(3,iI 0),(4,.hptr 4 0),(5,.rslice 30),(19,.hptr 19 0),(20,.tup [.bool false]),(21,.bool false)],[(2,.cells 29 [iI 0,.eslice]),(4,.cells 29 [iI x0,.eslice]),(19,.iter (x1.map (aJ au)) i1),(30,.row 9 1 (s0.map aZ)),(1000,.cells 158 [iI x0,.dmap (x1.map (aJ au))])]⟩) (fun i1 s0=>by kernel_rfl) (fun i1 s0 n0 e0=>⟨58,[(0,.hptr 1000 0),(2,.hptr 2 0),(3,iI 0),(4,.hptr 4 0),(5,.rslice 30),(19,.hptr 19 0),(20,.tup [.bool true,.str e0.1,iI e0.2]),(21,.bool true)],[(2,.cells 29 [iI 0,.eslice]),(4,.cells 29 [iI x0,.eslice]),(19,.iter (x1.map (aJ au)) (i1++[n0])),(30,.row 9 1 (s0.map aZ)),(1000,.cells 158 [iI x0,.dmap (x1.map (aJ au))])]⟩) (fun i1 s0 n0 e0=>by kernel_rfl) (fun i1 s0 H0 => ?_) (fun i1 s0 n0 e0 h1 q0 h2 h3 => ?_)
 ·refine aD H0 fun y0 h4 H1 => ?_;refine pA 9 [r0 [.v,.hR [(30,1000)] 32 (.tup []) [(1000,.row 9 1 (y0.map aZ))]],r0 [.v,.e (nI y0.length),.v]] [.erH 4 1 50 31 2,.only [0,2,3,4,33,34,35] [2,4,30,50,1000]] 9 [false] (eR x0 x1 y0 0 []) (aC Tryz.call99 (aC (re s0 y0 h4) (aT (aC (aG aZ y0) aN)))) ?_;refine aD H1 fun R0 h5 H2 => ?_;refine pJ 1 (ic x0 x1) R0 ?_ (fun u0 e1 => ?_)
  ·refine pC (eR x0 x1 y0) h5 (fun i0 s1 h6 e2 => ?_) (fun i0 s1 h7 q1 h8 h9 => ?_)
   ·have c0:=lF i0 y0.length (by omega);subst e2;exact pB 5 [r0 [.e bF]] [.only [2,3,4] [2,4,50,1000]] (ic x0 x1 s1) (aB c0 aN)
   ·have c1:=lT i0 y0.length (by omega);refine aP h8 fun g0 H3 => ?_;refine ya 30 (n:=(y0.map aZ).length) (by kernel_rfl) (fun l0 => ?_);have l1:y0.length≤9223372036854775807:=by simpa only [Hp] using l0
    clear l0;obtain rfl:=sI H3;exact pB 11 [r0 [.e bT],r0 [.v,.rl i0 0 (.str (y0.getD i0 [])),.v],.rg 11 (V 8 [.l (iI (bC 0 (y0.getD i0 []) x1)),.b,.b]) [.ap,.rwH 50 (.row 31 2 ((s1++[(ay.mk (y0.getD i0 []) (bC 0 (y0.getD i0 []) x1))]).map ai)),.v,.m],V2] [.only [0,2,3,4,33,34,35] [2,4,30,50,1000]] (eR x0 x1 y0 (i0+1) (s1++[(ay.mk (y0.getD i0 []) (bC 0 (y0.getD i0 []) x1))])) (aB c1 (aC (show (0:Int)≤((i0:Nat):Int)∧((i0:Nat):Int)<((y0.map aZ).length:Int) from by rw [Hp];omega) (aC (yC (f:=aZ) (l:=y0) (n:=i0) 1 0 1 (by omega) (by decide)) (aC (FP (f:=aZ) (l:=y0) (n:=i0) [] 0 (by omega)) (aC (wZ au (y0.getD i0 []) x1) (aC (jm (c:=au) (y0.getD i0 []) 0 x1) (a8 (qB (c:=ai) iG s1 [(ay.mk (y0.getD i0 []) (bC 0 (y0.getD i0 []) x1))] 24 (by decide) (by first | (simp;done) | simpa using g0)) (aC (tI 31 2 ai s1 [(ay.mk (y0.getD i0 []) (bC 0 (y0.getD i0 []) x1))]) (aH i0 aN)))))))))
  ·subst e1;have H4:=a7 H2;refine aD H4 fun y1 h10 H5 => ?_;refine aK H5 (fun c2 H6 => ?_) (fun c3 H7 => ?_)
   ·obtain rfl:=sI H6;exact pR 9 [r0 [.v,.c false (.bool y1),.v],.eqT 55 bF,r0 [.v,.m,.v]] [.fz 50] [] (aC Tryz.call90 (aF (bj _ _ h10) (aT (aM c2 aN))))
   ·obtain rfl:=sI H7;exact pR 8 [r0 [.v,.c false (.bool y1),.v],.eqT 55 bT,r0 [.b,.m,.v]] [.wkH 2 1 []] [] (aC Tryz.call90 (aF (bj _ _ h10) (aT (aM c3 aN))))
 ·refine aK h2 (fun c4 H8 => ?_) (fun c5 H9 => ?_)
  ·obtain rfl:=sI H8;exact pB 11 [r0 [.en n0 (.tup [.str e0.1,iI e0.2]),.v,.v,.v,.v],V2,.eqT 26 bF] [.only [0,2,3,4,5,19] [2,4,19,30,1000]] (di x0 x1 (i1++[n0]) s0) (aC (jk i1 n0) (aC (uB (cc:=au) h1) (aM c4 aN)))
  ·refine aP H9 fun g1 H10 => ?_;obtain rfl:=sI H10;exact pB 11 [r0 [.en n0 (.tup [.str e0.1,iI e0.2]),.v,.v,.v,.v],V2,.eqT 26 bT,r0 [.v,.v,.b,.ap,.rwH 30 (.row 9 1 ((s0++[e0.1]).map aZ)),.v]] [.only [0,2,3,4,5,19] [2,4,19,30,1000]] (di x0 x1 (i1++[n0]) (s0++[e0.1])) (aC (jk i1 n0) (aC (uB (cc:=au) h1) (aM c5 (a8 (qB (c:=aZ) oo s0 [e0.1] 16 (by decide) (by first | (simp;done) | simpa using g1)) (aC (tI 9 1 aZ s0 [e0.1]) aN)))))
end Go.Proofs.YtoebmibmmlcfiaaGreatDoor
