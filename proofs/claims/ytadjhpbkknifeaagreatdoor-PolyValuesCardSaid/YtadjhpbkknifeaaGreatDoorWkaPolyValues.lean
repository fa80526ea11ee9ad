/- What functions of the program compute, walked: each as a plain function, with the theorem that the code computes it wherever that answers. Printed by a program, part 1. -/
import Derived.Test.YtadjhpbkknifeaaGreatDoorFrdPolyValues
import Derived.KernelRfl
import Derived.Test.YtadjhpbkknifeaaGreatDoorProg
set_option linter.unusedSimpArgs false
set_option linter.unusedVariables false
namespace Go.Proofs.YtadjhpbkknifeaaGreatDoor
open Go.RowKit Go.Ab Go.Sh
theorem cB {a b:Bool} (h:a=b):AV.bool a=AV.bool b:=congrArg AV.bool h
theorem cN {a b:Bool} (h:a=b):AV.bool (!a)=AV.bool (!b):=congrArg (fun x=>AV.bool (!x)) h
theorem aC {p:Prop} {ps:List Prop} (h:p) (h2:br ps):br (p::ps):=all_cons h h2
theorem aN:br []:=all_nil
theorem aT {ps:List Prop} (h2:br ps):br (True::ps):=all_cons trivial h2
theorem aB {a b:Bool} {ps:List Prop} (h:a=b) (h2:br ps):br ((AV.bool a=AV.bool b)::ps):=all_cons (cB h) h2
theorem aM {a b:Bool} {ps:List Prop} (h:a=b) (h2:br ps):br ((AV.bool (!a)=AV.bool (!b))::ps):=all_cons (cN h) h2
theorem aF {P:Program} {f:FuncId} {args:List AV} {v:AV} {ps:List Prop} (h:bF P f args v) (h2:br ps):br (bD P f args [] (fun r _=>r=v)::ps):=all_cons (bF.is h) h2
theorem pI (n:Nat) (h:n<9223372036854775807):wV (((n:Nat):Int)+1):=by unfold wV;omega
theorem lF (i n:Nat) (h:¬ i<n):decide (((i:Nat):Int)<((n:Nat):Int))=false:=KN (by omega)
theorem lT (i n:Nat) (h:i<n):decide (((i:Nat):Int)<((n:Nat):Int))=true:=KO (by omega)
def nI (n:Nat):AV:=.int .i64 ((n:Nat):Int)
def iI (n:Int):AV:=.int .i64 n
def dS {α:Type} (c:α→List AV) (x:List α):AV:=.dslice (x.map c)
def r0 (d:List pe):Sg:=.rg 0 [] d
section
variable {c:Code} {fs:List Fr} {s:AS} {Q:Exit→AS→Prop}
theorem pR (n:Nat) (sg:List Sg) (cs:List Cd) (ks:List Nat) {rs:List ResultVar} {v:AV} {h1:List (Nat×AO)} {ps:List Prop} (hp:br ps) (h:Jx Tryz.prog rs cs ks (path Tryz.prog n sg c fs s)=some (ps,v,h1):=by kernel_rfl):dL Tryz.prog c (cg Tryz.prog fs (Hh Tryz.prog rs v h1)) s:=Fm Tryz.mo n sg cs ks hp h
theorem pB (n:Nat) (sg:List Sg) (cs:List Cd) (S:AS) {ps:List Prop} (hp:br ps) (h:I5 cs (path Tryz.prog n sg c fs s)=some (ps,S,S):=by kernel_rfl):dL Tryz.prog c (cg Tryz.prog fs Q) s:=re Tryz.mo n sg cs S hp h
theorem pA (n:Nat) (sg:List Sg) (cs:List Cd) (m:Nat) (bs:List Bool) (S:AS) {ps:List Prop} (hp:br ps) (ht:dL Tryz.prog (qm m bs c fs).1 (cg Tryz.prog (qm m bs c fs).2 Q) S)
 (h:Ku cs (path Tryz.prog n sg c fs s)=some (ps,(qm m bs c fs).1,(qm m bs c fs).2,S):=by kernel_rfl):dL Tryz.prog c (cg Tryz.prog fs Q) s:=Ho Tryz.mo n sg cs m bs S hp h ht
theorem aX {f:FuncId} {fn:Func} {args:List AV} {h h1:List (Nat×AO)} {v:AV} (hf:Tryz.prog.funcs[f]? = some fn) (n:Nat) (rs:List ResultVar) (ht:dL Tryz.prog (vU fn) (cg Tryz.prog [] (Hh Tryz.prog rs v h1)) ⟨n,lI args 0,h⟩)
 (hok:(qZ fn&&Nat.beq fn.ntmps n&&Nat.ble args.length n)=true:=by kernel_rfl) (hrs:fn.results.toList=rs:=by kernel_rfl):bD Tryz.prog f args h (fun r h'=>r=v∧h'=h1):=GC hf n rs hok hrs ht
theorem pJ {ε ρ:Type} (k:Nat) (S:ε→AS) (R:Out ε ρ) (h1:dL Tryz.prog c (cg Tryz.prog (Ak k (J2 S R) fs) Q) s) (h2:∀ e,R = .brk e→dL Tryz.prog (uN k fs) (cg Tryz.prog (fs.drop (k+1)) Q) (S e)) (hk:rI k fs=true:=by kernel_rfl):dL Tryz.prog c (cg Tryz.prog fs Q) s:=Il k S R hk h1 h2
theorem pC {σ ε ρ:Type} {body:Nat→σ→Option (eM σ ε ρ)} {fin:Nat→σ→ε} {N i0:Nat} {st0:σ} {R:Out ε ρ} (S:Nat→σ→AS) (H:cV body fin (N-i0) i0 st0=some R)
 (zero:∀ i st,N≤i→R = .brk (fin i st)→dL Tryz.prog (kG c) (cg Tryz.prog (.bar dead::fs) Q) (S i st))
 (succ:∀ i st,i<N→∀ q,body i st=some q→ry q R→dL Tryz.prog (kG c) (cg Tryz.prog (.bar (Ky (S (i+1)) q)::fs) Q) (S i st)) (hc:vP c=true:=by kernel_rfl):dL Tryz.prog c (cg Tryz.prog fs Q) (S i0 st0):=Ke S hc H zero succ
end
theorem aO (n:Int) {ps:List Prop} (h2:br ps) (h:wV n:=by unfold wV;omega):br (wV n::ps):=all_cons h h2
theorem aI {α:Type} {f:α→List AV} {sz:Nat} (hf:∀ x,(f x).length=sz) (l:List α) (n:Nat) (d:α) {ps:List Prop} (h2:br ps) (h:n<l.length:=by omega) (h0:0<sz:=by decide) :
 br ((((0:Int)≤(n:Int)∧(n:Int)<((l.map f).length:Int))∧(((l.map f).getD (n:Int).toNat []).length=sz∧0<sz))::(AV.dptr ((l.map f).getD (n:Int).toNat []) = .dptr (f (l.getD n d)))::ps):=aJ (ix d hf h0 h) h2
theorem aH (n:Nat) {ps:List Prop} (h2:br ps) (h:n<9223372036854775807:=by omega):br (wV (((n:Nat):Int)+1)::ps):=all_cons (pI n h) h2
def V:Nat→List pe→List pe
 | 0,l=>l
 | n+1,l=>.v::V n l
def V1:Sg:=r0 [.v]
def V2:Sg:=r0 [.v,.v]
def V3:Sg:=r0 [.v,.v,.v]
def V4:Sg:=r0 (V 4 [])
def V5:Sg:=r0 (V 5 [])
def V6:Sg:=r0 (V 6 [])
theorem sI {α:Type} {x r:α} (h:some x=some r):x=r:=KT h
theorem mo:Tryz.prog.follows .mixedOrders=true:=Tryz.mo
structure aa where
 Coef:Int
 Vars:(List ai)
 deriving DecidableEq
def aj (x:ai):List AV:=[.str x]
theorem bb (x:ai):(aj x).length=1:=rfl
theorem dQ (x:ai):(aj x).length=1∧(aj x).all (fun v=>v.one&&v.fl)=true:=⟨rfl,rfl⟩
def ab (x:aa):List AV:=[.int .i64 x.Coef,.dslice (x.Vars.map aj)]
theorem aw (x:aa):(ab x).length=2:=rfl
theorem fK (x:aa):(ab x).length=2∧(ab x).all (fun v=>v.one&&v.fl)=true:=⟨rfl,rfl⟩
structure Coef where
 Var:ai
 C:Int
 deriving DecidableEq
def aY (x:Coef):List AV:=[.str x.Var,.int .i64 x.C]
theorem eG (x:Coef):(aY x).length=2:=rfl
theorem J7 (x:Coef):(aY x).length=2∧(aY x).all (fun v=>v.one&&v.fl)=true:=⟨rfl,rfl⟩
structure Linear where
 Const:Int
 Terms:(List Coef)
 deriving DecidableEq
def fW (x:Linear):List AV:=[.int .i64 x.Const,.dslice (x.Terms.map aY)]
theorem Au (x:Linear):(fW x).length=2:=rfl
theorem Jg (x:Linear):(fW x).length=2∧(fW x).all (fun v=>v.one&&v.fl)=true:=⟨rfl,rfl⟩
def uM (x:UInt8):List AV:=[.int .u8 ((x).toNat:Int)]
theorem Eg (x:UInt8):(uM x).length=1:=rfl
theorem JX (x:UInt8):(uM x).length=1∧(uM x).all (fun v=>v.one&&v.fl)=true:=⟨rfl,rfl⟩
def az (x:(List ai)):List AV:=[.dslice (x.map aj)]
theorem IG (x:(List ai)):(az x).length=1:=rfl
theorem wh (x:(List ai)):(az x).length=1∧(az x).all (fun v=>v.one&&v.fl)=true:=⟨rfl,rfl⟩
def ag (x:Int):List AV:=[.int .i64 x]
theorem bE (x:Int):(ag x).length=1:=rfl
theorem gw (x:Int):(ag x).length=1∧(ag x).all (fun v=>v.one&&v.fl)=true:=⟨rfl,rfl⟩
def ay (x:(List Int)):List AV:=[.dslice (x.map ag)]
theorem nJ (x:(List Int)):(ay x).length=1:=rfl
theorem vc (x:(List Int)):(ay x).length=1∧(ay x).all (fun v=>v.one&&v.fl)=true:=⟨rfl,rfl⟩
def aL (x:(List aa)):List AV:=[.dslice (x.map ab)]
theorem mJ (x:(List aa)):(aL x).length=1:=rfl
theorem tM (x:(List aa)):(aL x).length=1∧(aL x).all (fun v=>v.one&&v.fl)=true:=⟨rfl,rfl⟩
structure Value where
 Var:ai
 N:Int
 deriving DecidableEq
def aZ (x:Value):List AV:=[.str x.Var,.int .i64 x.N]
theorem ku (x:Value):(aZ x).length=2:=rfl
theorem iK (x:Value):(aZ x).length=2∧(aZ x).all (fun v=>v.one&&v.fl)=true:=⟨rfl,rfl⟩
structure Shape where
 Row:ai
 Dims:(List Linear)
 deriving DecidableEq
def Cr (x:Shape):List AV:=[.str x.Row,.dslice (x.Dims.map fW)]
theorem JD (x:Shape):(Cr x).length=2:=rfl
theorem JV (x:Shape):(Cr x).length=2∧(Cr x).all (fun v=>v.one&&v.fl)=true:=⟨rfl,rfl⟩
structure Bind where
 Kind:Int
 Var:ai
 Dim:Linear
 Row:Shape
 Elem:ai
 deriving DecidableEq
def ky (x:Bind):List AV:=[.int .i64 x.Kind,.str x.Var,.int .i64 x.Dim.Const,.dslice (x.Dim.Terms.map aY),.str x.Row.Row,.dslice (x.Row.Dims.map fW),.str x.Elem]
theorem xU (x:Bind):(ky x).length=7:=rfl
theorem Kl (x:Bind):(ky x).length=7∧(ky x).all (fun v=>v.one&&v.fl)=true:=⟨rfl,rfl⟩
def b8 (x0 x1:ai):Option Bool :=
 bif decide (((x0.length:Nat):Int)≥((x1.length:Nat):Int)) then (
  bR (x1.length≤x0.length) <|
  some ((x0.take x1.length)==x1)
 ) else (
  some false
 )
theorem gR (x0 x1:ai) (r:Bool) (H:b8 x0 x1=some r):bF Tryz.prog 127 [.str x0,.str x1] (.bool r):=by
 unfold b8 at H;refine aX Tryz.func127 18 [.tmp 4] ?_;refine a7 H (fun c0 H0 => ?_) (fun c1 H1 => ?_)
 ·have c0p:=KM c0;refine aR H0 fun g0 H2 => ?_;obtain rfl:=sI H2;exact pR 5 [V1,r0 (V 4 [.e (.bool true),.v,.v,.v,.v,.e (.str (x0.take x1.length)),.v,.v,.v,.v])] [] [] (aT (aT (aB c0 (aT (aC (show (0:Int)≤0∧0≤((x1.length:Nat):Int)∧((x1.length:Nat):Int)≤(x0.length:Int) from by omega) (aC (zc x0 x1.length) aN))))))
 ·obtain rfl:=sI H1;exact pR 5 [V1,r0 (V 4 [.e (.bool false),.v,.s,.s,.s,.s,.s,.s,.v,.v])] [] [] (aT (aT (aB c1 aN)))
def dW (x0 x1:ai):Option Bool :=
 (b8 x0 x1).bind fun y0 =>
 some y0
theorem jT (x0 x1:ai) (r:Bool) (H:dW x0 x1=some r):bF Tryz.prog 97 [.str x0,.str x1] (.bool r):=by unfold dW at H;refine aX Tryz.func97 8 [.tmp 4] ?_;refine aS H fun y0 h0 H0 => ?_;refine cC H0 fun e0 => ?_;subst e0;exact pR 5 [V1,r0 [.v,.v,.c true (.bool y0),.v]] [] [] (aC Tryz.call127 (aF (gR _ _ _ h0) aN))
def gH (x0:ai):Option Bool :=
 (dW x0 [95]).bind fun y0 =>
 bif y0 then (
  bR (1≤x0.length) <|
  (kD (x0.drop 1)).bind fun y1 =>
  bif y1.2 then (
   bif decide (y1.1>0) then (
    bif decide (((x0.length:Nat):Int)≤10) then (
     (gm y1.1).bind fun y2 =>
     some (y2==(x0.drop 1))
    ) else (
     some false
    )
   ) else (
    some false
   )
  ) else (
   some false
  )
 ) else (
  (cV (σ:=Unit) (ε:=Unit) (ρ:=Bool) (fun i0 s0 =>
   ((
    bif decide ((((x0.getD i0 0)).toNat:Int)<97) then (
     bif (((i0:Nat):Int)==0) then (
      some (.ret (.ret false))
     ) else (
      bif decide ((((x0.getD i0 0)).toNat:Int)<48) then (
       some (.ret (.ret false))
      ) else (
       bif decide ((((x0.getD i0 0)).toNat:Int)>57) then (
        some (.ret (.ret false))
       ) else (
        some (.brk ())
       )
      )
     )
    ) else (
     bif decide ((((x0.getD i0 0)).toNat:Int)>122) then (
      bif (((i0:Nat):Int)==0) then (
       some (.ret (.ret false))
      ) else (
       bif decide ((((x0.getD i0 0)).toNat:Int)<48) then (
        some (.ret (.ret false))
       ) else (
        bif decide ((((x0.getD i0 0)).toNat:Int)>57) then (
         some (.ret (.ret false))
        ) else (
         some (.brk ())
        )
       )
      )
     ) else (
      some (.brk ())
     )
    )
   ):Option (Out Unit (eM Unit Unit Bool))).bind (aft fun u0 =>
    some (.go ())
   )
  ) (fun i0 s0=>()) (x0.length-0) 0 ()).bind <| aft fun u1 =>
  bif (x0==[]) then (
   some false
  ) else (
   some (decide (((x0.length:Nat):Int)≤30))
  )
 )
def kn (x0:ai) (i0:Nat) (s0:Unit):AS:=⟨67,[(0,.str x0),(2,.bool false),(34,dS uM x0),(35,nI x0.length),(36,nI i0)],[]⟩
def og (x0:ai) (u2:Unit):AS:=⟨67,[(0,.str x0),(2,.bool false)],[]⟩
def ig (x0:ai) (i0:Nat) (u0:Unit):AS:=⟨67,[(0,.str x0),(2,.bool false),(34,dS uM x0),(35,nI x0.length),(36,nI i0)],[]⟩
theorem ff (x0:ai) (r:Bool) (H:gH x0=some r):bF Tryz.prog 61 [.str x0] (.bool r):=by
 unfold gH at H;refine aX Tryz.func61 67 [.tmp 2] ?_;refine aS H fun y0 h0 H0 => ?_;refine a7 H0 (fun c0 H1 => ?_) (fun c1 H2 => ?_)
 ·refine aR H1 fun g0 H3 => ?_;refine aS H3 fun y1 h1 H4 => ?_;refine pA 10 [V1,r0 [.v,.c true (.bool y0)],.eqT 8 (.bool true),r0 [.v,.e (.str (x0.drop 1)),.cf true (.tup [iI y1.1,lQ 191 y1.2]),.v,.v,.v,.v,.v]] [.only [0,2,3,4] []] 9 [true] ⟨67,[(0,.str x0),(2,.bool false),(3,iI y1.1),(4,lQ 191 y1.2)],[]⟩ (aC Tryz.call97 (aF (jT _ _ _ h0) (aB c0 (aC (show (0:Int)≤1∧1≤(x0.length:Int)∧(x0.length:Int)≤(x0.length:Int) from by omega) (aC (tZ x0 1) (aC Tryz.call92 (aF (nt (x0.drop 1) y1 h1) (aC (show qI true (.tup [iI y1.1,lQ 191 y1.2])=true from by cases h2:y1.2<;>rfl) aN)))))))) ?_;refine a7 H4 (fun c2 H5 => ?_) (fun c3 H6 => ?_)
  ·refine a7 H5 (fun c4 H7 => ?_) (fun c5 H8 => ?_)
   ·have c4p:=KM c4;refine a7 H7 (fun c6 H9 => ?_) (fun c7 H10 => ?_)
    ·have c6p:=KM c6;refine aS H9 fun y2 h3 H11 => ?_;obtain rfl:=sI H11;exact pR 3 [.eqT 4 (.nilI),.rg 16 (V 4 [.e (.bool true),.v,.v,.v,.v,.e (.bool true),.v,.v,.v,.c true (.str y2),.v,.e (.str (x0.drop 1))]) [.v,.v,.v]] [] [] (aC (congrArg (lQ 191) c2) (aB c4 (aT (aB c6 (aC Tryz.call94 (aF (p6 y1.1 y2 h3) (aC (show (0:Int)≤1∧1≤(x0.length:Int)∧(x0.length:Int)≤(x0.length:Int) from by omega) (aC (tZ x0 1) aN))))))))
    ·obtain rfl:=sI H10;exact pR 3 [.eqT 4 (.nilI),.rg 16 (V 4 [.e (.bool true),.v,.v,.v,.v,.e (.bool false),.v,.v,.s,.s,.s,.s]) [.s,.v,.v]] [] [] (aC (congrArg (lQ 191) c2) (aB c4 (aT (aB c7 aN))))
   ·obtain rfl:=sI H8;exact pR 3 [.eqT 4 (.nilI),.rg 16 (V 4 [.e (.bool false),.v,.v,.s,.s,.s,.v,.v,.s,.s,.s,.s]) [.s,.v,.v]] [] [] (aC (congrArg (lQ 191) c2) (aB c5 aN))
  ·obtain rfl:=sI H6;exact pR 3 [.eqT 4 (.iface 191 (.any)),.rg 16 [.v,.v,.v,.s,.s,.v,.v,.s,.s,.s,.v,.v,.s,.s,.s,.s] [.s,.v,.v]] [] [] (aC (congrArg (lQ 191) c3) aN)
 ·refine pA 12 [.rg 0 [] [.v],.rg 0 [] [.v,.c true (.bool y0)],.eqT 8 (.bool false),.rg 0 [] [.v,.m,.e (.int .i64 ((x0.length:Nat):Int)),.v]] [.only [0,2,34,35,36] []] 11 [false] (kn x0 0 ()) (aC Tryz.call97 (aF (jT _ _ _ h0) (aB c1 (aT (aC (aV uM x0) aN))))) ?_;refine aS H2 fun R0 h4 H12 => ?_;refine pJ 1 (og x0) R0 ?_ (fun u1 e0 => ?_)
  ·refine pC (kn x0) h4 (fun i0 s0 h5 e1 => ?_) (fun i0 s0 h6 q0 h7 h8 => ?_)
   ·have c8:=lF i0 x0.length (by omega);subst e1;exact pB 5 [r0 [.e (.bool false)]] [.only [0,2] []] (og x0 ()) (aB c8 aN)
   ·have c9:=lT i0 x0.length (by omega);refine pA 10 [r0 [.e (.bool true)],r0 [.v,.e (.dptr [.int .u8 (((x0.getD i0 0)).toNat:Int)]),.v,.v,.v]] [.only [0,2,5,6,34,35,36] []] 10 [true] ⟨67,[(0,.str x0),(2,.bool false),(5,nI i0),(6,.int .u8 (((x0.getD i0 0)).toNat:Int)),(34,dS uM x0),(35,nI x0.length),(36,nI i0)],[]⟩ (aB c9 (aI Eg x0 i0 0 aN)) ?_;refine aS h7 fun v0 h9 H13 => ?_;refine pJ 2 (ig x0 i0) v0 ?_ (fun u0 e2 => ?_)
    ·refine a7 h9 (fun c10 H14 => ?_) (fun c11 H15 => ?_)
     ·refine a7 H14 (fun c12 H16 => ?_) (fun c13 H17 => ?_)
      ·obtain rfl:=sI H16;obtain rfl:=sI (ao H13);obtain rfl:=aG h8;obtain rfl:=sI (ao H12);exact pR 5 [r0 [.v,.e (.bool true),.v,.s,.s,.v,.v,.v,.e (.bool true),.v,.s,.s,.v,.v,.s,.s,.v,.v],V1] [] [] (aB c10 (aB c12 aN))
      ·refine a7 H17 (fun c14 H18 => ?_) (fun c15 H19 => ?_)
       ·obtain rfl:=sI H18;obtain rfl:=sI (ao H13);obtain rfl:=aG h8;obtain rfl:=sI (ao H12);exact pR 5 [r0 [.v,.e (.bool true),.v,.s,.s,.v,.v,.v,.e (.bool false),.v,.v,.e (.bool true),.v,.v,.s,.s,.v,.v],V1] [] [] (aB c10 (aB c13 (aB c14 aN)))
       ·refine a7 H19 (fun c16 H20 => ?_) (fun c17 H21 => ?_)
        ·obtain rfl:=sI H20;obtain rfl:=sI (ao H13);obtain rfl:=aG h8;obtain rfl:=sI (ao H12);exact pR 6 [r0 [.v,.e (.bool true),.v,.s,.s,.v,.v,.v,.e (.bool false),.v,.v,.e (.bool false),.v,.v,.v,.v,.v,.v],.eqT 58 (.bool true),V1] [] [] (aB c10 (aB c13 (aB c15 (aB c16 aN))))
        ·obtain rfl:=sI H21;exact pB 4 [r0 [.v,.e (.bool true),.v,.s,.s,.v,.v,.v,.e (.bool false),.v,.v,.e (.bool false),.v,.v,.v,.v,.v,.v],.eqT 58 (.bool false)] [.only [0,2,34,35,36] []] (ig x0 i0 ()) (aB c10 (aB c13 (aB c15 (aB c17 aN))))
     ·refine a7 H15 (fun c18 H22 => ?_) (fun c19 H23 => ?_)
      ·refine a7 H22 (fun c20 H24 => ?_) (fun c21 H25 => ?_)
       ·obtain rfl:=sI H24;obtain rfl:=sI (ao H13);obtain rfl:=aG h8;obtain rfl:=sI (ao H12);exact pR 5 [r0 [.v,.e (.bool false),.v,.v,.e (.bool true),.v,.v,.v,.e (.bool true),.v,.s,.s,.v,.v,.s,.s,.v,.v],V1] [] [] (aB c11 (aB c18 (aB c20 aN)))
       ·refine a7 H25 (fun c22 H26 => ?_) (fun c23 H27 => ?_)
        ·obtain rfl:=sI H26;obtain rfl:=sI (ao H13);obtain rfl:=aG h8;obtain rfl:=sI (ao H12);exact pR 5 [r0 [.v,.e (.bool false),.v,.v,.e (.bool true),.v,.v,.v,.e (.bool false),.v,.v,.e (.bool true),.v,.v,.s,.s,.v,.v],V1] [] [] (aB c11 (aB c18 (aB c21 (aB c22 aN))))
        ·refine a7 H27 (fun c24 H28 => ?_) (fun c25 H29 => ?_)
         ·obtain rfl:=sI H28;obtain rfl:=sI (ao H13);obtain rfl:=aG h8;obtain rfl:=sI (ao H12);exact pR 6 [r0 [.v,.e (.bool false),.v,.v,.e (.bool true),.v,.v,.v,.e (.bool false),.v,.v,.e (.bool false),.v,.v,.v,.v,.v,.v],.eqT 58 (.bool true),V1] [] [] (aB c11 (aB c18 (aB c21 (aB c23 (aB c24 aN)))))
         ·obtain rfl:=sI H29;exact pB 4 [r0 [.v,.e (.bool false),.v,.v,.e (.bool true),.v,.v,.v,.e (.bool false),.v,.v,.e (.bool false),.v,.v,.v,.v,.v,.v],.eqT 58 (.bool false)] [.only [0,2,34,35,36] []] (ig x0 i0 ()) (aB c11 (aB c18 (aB c21 (aB c23 (aB c25 aN)))))
      ·obtain rfl:=sI H23;exact pB 3 [r0 [.v,.e (.bool false),.v,.v,.e (.bool false),.v,.v,.s,.s,.s,.s,.s,.s,.s,.s,.s,.s,.v]] [.only [0,2,34,35,36] []] (ig x0 i0 ()) (aB c11 (aB c19 aN))
    ·subst e2;have H30:=a8 H13;refine bB 0 (ps:=[x0.length≤9223372036854775807]) (by kernel_rfl) (fun l0 => ?_);have l1:x0.length≤9223372036854775807:=by simpa only [br,KP] using l0
     clear l0;obtain rfl:=sI H30;exact pB 1 [V2] [.only [0,2,34,35,36] []] (kn x0 (i0+1) ()) (aH i0 aN)
  ·subst e0;have H31:=a8 H12;refine a7 H31 (fun c26 H32 => ?_) (fun c27 H33 => ?_)
   ·obtain rfl:=sI H32;exact pR 3 [r0 [.v,.e (.bool false),.v,.s,.s,.s,.v,.v]] [] [] (aM c26 aN)
   ·obtain rfl:=sI H33;exact pR 3 [r0 [.v,.e (.bool true),.v,.v,.v,.v,.v,.v]] [] [] (aM c27 (aT aN))
def j9 (x0:Int):Option Bool :=
 bif decide (x0≥(-1000000)) then (
  some (decide (x0≤1000000))
 ) else (
  some false
 )
theorem jg (x0:Int) (r:Bool) (H:j9 x0=some r):bF Tryz.prog 80 [iI x0] (.bool r):=by
 unfold j9 at H;refine aX Tryz.func80 9 [.tmp 2] ?_;refine a7 H (fun c0 H0 => ?_) (fun c1 H1 => ?_)
 ·obtain rfl:=sI H0;exact pR 5 [V1,r0 [.v,.e (.bool true),.v,.v,.v,.v,.v]] [] [] (aB c0 aN)
 ·obtain rfl:=sI H1;exact pR 5 [V1,r0 [.v,.e (.bool false),.v,.s,.s,.v,.v]] [] [] (aB c1 aN)
def eS (x0:Linear):Option Bool :=
 (cV (σ:=Unit) (ε:=Unit) (ρ:=Bool) (fun i0 s0 =>
  (gH ((x0.Terms.getD i0 ⟨[],0⟩).Var)).bind fun y0 =>
  ((
   bif y0 then (
    bif (((x0.Terms.getD i0 ⟨[],0⟩).C)==0) then (
     some (.ret (.ret false))
    ) else (
     (j9 ((x0.Terms.getD i0 ⟨[],0⟩).C)).bind fun y1 =>
     bif y1 then (
      bif decide (((i0:Nat):Int)>0) then (
       bR (0≤(aW (((i0:Nat):Int)-1))∧(aW (((i0:Nat):Int)-1))<(x0.Terms.length:Int)) <|
       bif (Op.bytesLess ((x0.Terms.getD (aW (((i0:Nat):Int)-1)).toNat ⟨[],0⟩).Var) ((x0.Terms.getD i0 ⟨[],0⟩).Var)) then (
        some (.brk ())
       ) else (
        some (.ret (.ret false))
       )
      ) else (
       some (.brk ())
      )
     ) else (
      some (.ret (.ret false))
     )
    )
   ) else (
    some (.ret (.ret false))
   )
  ):Option (Out Unit (eM Unit Unit Bool))).bind (aft fun u0 =>
   some (.go ())
  )
 ) (fun i0 s0=>()) (x0.Terms.length-0) 0 ()).bind <| aft fun u1 =>
 (j9 x0.Const).bind fun y2 =>
 bif y2 then (
  some (decide (((x0.Terms.length:Nat):Int)≤12))
 ) else (
  some false
 )
def jG (x0:Linear) (i0:Nat) (s0:Unit):AS:=⟨54,[(1,.hptr 1 0),(2,.bool false),(6,dS aY x0.Terms),(7,nI x0.Terms.length),(8,nI i0)],[(1,.cells 32 [iI x0.Const,dS aY x0.Terms])]⟩
def nK (x0:Linear) (u2:Unit):AS:=⟨54,[(1,.hptr 1 0),(2,.bool false)],[(1,.cells 32 [iI x0.Const,dS aY x0.Terms])]⟩
def jD (x0:Linear) (i0:Nat) (u0:Unit):AS:=⟨54,[(1,.hptr 1 0),(2,.bool false),(6,dS aY x0.Terms),(7,nI x0.Terms.length),(8,nI i0)],[(1,.cells 32 [iI x0.Const,dS aY x0.Terms])]⟩
theorem n5 (x0:Linear) (r:Bool) (H:eS x0=some r):bF Tryz.prog 51 [.agg [iI x0.Const,dS aY x0.Terms]] (.bool r):=by
 unfold eS at H;refine aX Tryz.func51 54 [.tmp 2] ?_;refine pA 6 [r0 [.m,.v],r0 [.v,.v,.e (nI x0.Terms.length),.v]] [.only [1,2,6,7,8] [1]] 6 [] (jG x0 0 ()) (aT (aC (aV aY x0.Terms) aN)) ?_;refine aS H fun R0 h0 H0 => ?_;refine pJ 1 (nK x0) R0 ?_ (fun u1 e0 => ?_)
 ·refine pC (jG x0) h0 (fun i0 s0 h1 e1 => ?_) (fun i0 s0 h2 q0 h3 h4 => ?_)
  ·have c0:=lF i0 x0.Terms.length (by omega);subst e1;exact pB 5 [r0 [.e (.bool false)]] [.only [1,2] [1]] (nK x0 ()) (aB c0 aN)
  ·have c1:=lT i0 x0.Terms.length (by omega);refine aS h3 fun y0 h5 H1 => ?_;refine pA 10 [r0 [.e (.bool true)],r0 [.v,.e (.dptr (aY (x0.Terms.getD i0 ⟨[],0⟩))),.v,.m,.v,.m]] [.only [1,2,3,4,6,7,8] [1,4]] 10 [true] ⟨54,[(1,.hptr 1 0),(2,.bool false),(3,nI i0),(4,.hptr 4 0),(6,dS aY x0.Terms),(7,nI x0.Terms.length),(8,nI i0)],[(1,.cells 32 [iI x0.Const,dS aY x0.Terms]),(4,.cells 62 (aY (x0.Terms.getD i0 ⟨[],0⟩)))]⟩ (aB c1 (aI eG x0.Terms i0 ⟨[],0⟩ aN)) ?_;refine aS H1 fun v0 h6 H2 => ?_;refine pJ 2 (jD x0 i0) v0 ?_ (fun u0 e2 => ?_)
   ·refine a7 h6 (fun c2 H3 => ?_) (fun c3 H4 => ?_)
    ·refine a7 H3 (fun c4 H5 => ?_) (fun c5 H6 => ?_)
     ·obtain rfl:=sI H5;obtain rfl:=sI (ao H2);obtain rfl:=aG h4;obtain rfl:=sI (ao H0);exact pR 5 [.rg 28 [.v,.v,.c true (.bool true),.v,.v,.v,.v,.e (.bool true),.v,.v,.s,.s,.s,.s,.v,.v,.s,.s,.s,.s,.s,.s,.s,.s,.s,.s,.s,.s] [.s,.s,.v],V1] [] [] (aC Tryz.call61 (aC (bF.eq (ff _ _ h5) (cB c2)) (aT (aB c4 aN))))
     ·refine aS H6 fun y1 h7 H7 => ?_;refine a7 H7 (fun c6 H8 => ?_) (fun c7 H9 => ?_)
      ·refine a7 H8 (fun c8 H10 => ?_) (fun c9 H11 => ?_)
       ·refine aR H10 fun g0 H12 => ?_;refine pA 1 [.rg 28 [.v,.v,.c true (.bool true),.v,.v,.v,.v,.e (.bool false),.v,.v,.v,.v,.c true (.bool true),.v,.v,.v,.v,.e (.bool true),.v,.v,.v,.v,.w,.e (.dptr (aY (x0.Terms.getD (aW (((i0:Nat):Int)-1)).toNat ⟨[],0⟩))),.v,.v,.v,.v] [.v,.v,.v]] [.only [1,2,6,7,8,43] [1]] 1 [] ⟨54,[(1,.hptr 1 0),(2,.bool false),(6,dS aY x0.Terms),(7,nI x0.Terms.length),(8,nI i0),(43,.bool (!(Op.bytesLess ((x0.Terms.getD (aW (((i0:Nat):Int)-1)).toNat ⟨[],0⟩).Var) ((x0.Terms.getD i0 ⟨[],0⟩).Var))))],[(1,.cells 32 [iI x0.Const,dS aY x0.Terms])]⟩ (aC Tryz.call61 (aC (bF.eq (ff _ _ h5) (cB c2)) (aT (aB c5 (aC Tryz.call80 (aC (bF.eq (jg _ _ h7) (cB c6)) (aT (aB c8 (aJ (xv (f:=aY) (l:=x0.Terms) (n:=(aW (((i0:Nat):Int)-1))) ⟨[],0⟩ eG (by decide) (by exact g0)) aN))))))))) ?_;refine a7 H12 (fun c10 H13 => ?_) (fun c11 H14 => ?_)
        ·obtain rfl:=sI H13;exact pB 3 [.eqT 43 (.bool false)] [.only [1,2,6,7,8] [1]] (jD x0 i0 ()) (aM c10 aN)
        ·obtain rfl:=sI H14;obtain rfl:=sI (ao H2);obtain rfl:=aG h4;obtain rfl:=sI (ao H0);exact pR 5 [.eqT 43 (.bool true),V1] [] [] (aM c11 aN)
       ·obtain rfl:=sI H11;exact pB 3 [.rg 28 [.v,.v,.c true (.bool true),.v,.v,.v,.v,.e (.bool false),.v,.v,.v,.v,.c true (.bool true),.v,.v,.v,.v,.e (.bool false),.v,.s,.s,.s,.s,.s,.s,.s,.s,.s] [.s,.v,.v]] [.only [1,2,6,7,8] [1]] (jD x0 i0 ()) (aC Tryz.call61 (aC (bF.eq (ff _ _ h5) (cB c2)) (aT (aB c5 (aC Tryz.call80 (aC (bF.eq (jg _ _ h7) (cB c6)) (aT (aB c9 aN))))))))
      ·obtain rfl:=sI H9;obtain rfl:=sI (ao H2);obtain rfl:=aG h4;obtain rfl:=sI (ao H0);exact pR 5 [.rg 28 [.v,.v,.c true (.bool true),.v,.v,.v,.v,.e (.bool false),.v,.v,.v,.v,.c true (.bool false),.v,.v,.v,.s,.s,.s,.s,.s,.s,.s,.s,.s,.s,.s,.s] [.s,.s,.v],V1] [] [] (aC Tryz.call61 (aC (bF.eq (ff _ _ h5) (cB c2)) (aT (aB c5 (aC Tryz.call80 (aC (bF.eq (jg _ _ h7) (cB c7)) (aT aN)))))))
    ·obtain rfl:=sI H4;obtain rfl:=sI (ao H2);obtain rfl:=aG h4;obtain rfl:=sI (ao H0);exact pR 5 [.rg 28 [.v,.v,.c true (.bool false),.v,.v,.s,.s,.s,.v,.v,.s,.s,.s,.s,.v,.v,.s,.s,.s,.s,.s,.s,.s,.s,.s,.s,.s,.s] [.s,.s,.v],V1] [] [] (aC Tryz.call61 (aC (bF.eq (ff _ _ h5) (cB c3)) (aT aN)))
   ·subst e2;have H15:=a8 H2;refine bB 6 (ps:=[(x0.Terms.map aY).length≤9223372036854775807]) (by kernel_rfl) (fun l0 => ?_);have l1:x0.Terms.length≤9223372036854775807:=by simpa only [br,KP] using l0
    clear l0;obtain rfl:=sI H15;exact pB 1 [V2] [.only [1,2,6,7,8] [1]] (jG x0 (i0+1) ()) (aH i0 aN)
 ·subst e0;have H16:=a8 H0;refine aS H16 fun y2 h8 H17 => ?_;refine a7 H17 (fun c12 H18 => ?_) (fun c13 H19 => ?_)
  ·obtain rfl:=sI H18;exact pR 3 [r0 [.v,.v,.c true (.bool true),.v,.v,.v,.e (nI x0.Terms.length),.v,.v,.v]] [] [] (aC Tryz.call80 (aC (bF.eq (jg _ _ h8) (cB c12)) (aT (aC (aV aY x0.Terms) aN))))
  ·obtain rfl:=sI H19;exact pR 3 [r0 [.v,.v,.c true (.bool false),.v,.s,.s,.s,.s,.v,.v]] [] [] (aC Tryz.call80 (aC (bF.eq (jg _ _ h8) (cB c13)) aN))
def cX   : Option ((List (ai×(List ai)))×(List (ai×(List Int)))×(List (ai×(List Int)))) :=
 some ([],[],[])
theorem l9   (r:((List (ai×(List ai)))×(List (ai×(List Int)))×(List (ai×(List Int))))) (H:cX  = some r):bD Tryz.prog 52 [] [] (fun r2 h0=>r2=(.agg [.amap 1,.amap 2,.amap 3])∧h0=[(1,.smap 9 49 (r.1.map (bA az))),(2,.rmap 3 1 (dG ag r.2.1)),(3,.rmap 3 1 (dG ag r.2.2))]):=by unfold cX at H;refine aX Tryz.func52 5 [.cell 0 90] ?_;obtain rfl:=sI H;exact pR 5 [r0 [.m],r0 [.m,.m,.tr 2 3 1,.m,.tr 3 3 1,.b,.m]] [] [1,2,3] aN
def b7 (x0:List ai) (x1 x2:Int) (x3:List (ai×(List ai))) (x4 x5:List (ai×(List Int))):Option ((List (ai×(List ai)))×(List (ai×(List Int)))×(List (ai×(List Int)))) :=
 (jw x0).bind fun y0 =>
 (gE y0).bind fun y1 =>
 (jq y1 [42]).bind fun y2 =>
 bR (((dy [] y2 x4).length+[x1].length)*8≤140737488355328) <|
 bR (((dy [] y2 x5).length+[x2].length)*8≤140737488355328) <|
 bR (x4.length+1<1000000) <|
 bR (x5.length+1<1000000) <|
 some ((dn y2 y1 x3),(dn y2 ((dy [] y2 x4)++[x1]) x4),(dn y2 ((dy [] y2 x5)++[x2]) x5))
theorem ik (x0:List ai) (x1 x2:Int) (x3:List (ai×(List ai))) (x4 x5:List (ai×(List Int))) (r:(List (ai×(List ai)))×(List (ai×(List Int)))×(List (ai×(List Int)))) (H:b7 x0 x1 x2 x3 x4 x5=some r):bD Tryz.prog 53 [.agg [.amap 1000,.amap 1001,.amap 1002],dS aj x0,iI x1,iI x2] [(1000,.smap 9 49 (x3.map (bA az))),(1001,.rmap 3 1 (dG ag x4)),(1002,.rmap 3 1 (dG ag x5))] (fun r2 h0=>r2=(.tup [])∧h0=[(1000,.smap 9 49 (r.1.map (bA az))),(1001,.rmap 3 1 (dG ag r.2.1)),(1002,.rmap 3 1 (dG ag r.2.2))]):=by unfold b7 at H;refine aX Tryz.func53 40 [] ?_;refine aS H fun y0 h1 H0 => ?_;refine aS H0 fun y1 h2 H1 => ?_;refine aS H1 fun y2 h3 H2 => ?_;refine aR H2 fun g0 H3 => ?_;refine aR H3 fun g1 H4 => ?_;refine aR H4 fun g2 H5 => ?_;refine aR H5 fun g3 H6 => ?_;obtain rfl:=sI H6;exact pR 9 [r0 [.m],r0 [.v,.c true (.fn 112 [.dptr [dS aj y0]]),.c true (dS aj y1),.v],r0 [.v,.c true (.str y2),.v],r0 (V 4 [.m,.rwH 1000 (.smap 9 49 ((dn y2 y1 x3).map (bA az)))]),.rg 23 [.ent ⟨88,1001,y2,38,39,20,21,22⟩,.v,.v,.v,.v,.v,.v,.v,.v,.v,.lk ((dy [] y2 x4).map ag) (cM y2 (dG ag x4)),.v,.b,.apx (((dy [] y2 x4)++[x1]).map ag),.v,.v,.v,.lk ((dy [] y2 x5).map ag) (cM y2 (dG ag x5)),.v,.b,.apx (((dy [] y2 x5)++[x2]).map ag),.e1 (iA y2 (cM y2 (dG ag x4))),.e2,.e3 (dG ag (dn y2 ((dy [] y2 x4)++[x1]) x4))] [.ms (dG ag (dn y2 ((dy [] y2 x5)++[x2]) x5))]] [] [1000,1001,1002] (aC Tryz.call82 (aF (wK x0 y0 h1) (aC Tryz.call81 (aF (wI y0 y1 h2) (aC Tryz.call83 (aF (uW y1 [42] y2 h3) (aC (congrArg (AO.smap 9 49) (sH (c:=az) y2 y1 x3)) (aC (BD ag y2 x4) (aC (yp ag y2 x4) (aC (Eq.refl (cM y2 (dG ag x4))) (aJ (wW (c:=ag) gw (dy [] y2 x4) [x1] 8 (by decide) (by simpa using g0) List.map_append.symm) (aC (BD ag y2 x5) (aC (yp ag y2 x5) (aC (Eq.refl (cM y2 (dG ag x5))) (aJ (wW (c:=ag) gw (dy [] y2 x5) [x2] 8 (by decide) (by simpa using g1) List.map_append.symm) (aC (Eq.refl y2) (aC (zx ag y2 x4 g2) (aC (Eq.refl (iA y2 (cM y2 (dG ag x4)))) (aC (Gl ag y2 x4 g2) (aC (E1 ag y2 ((dy [] y2 x4)++[x1]) x4) (aC (zx ag y2 x5 g3) (aC (Gh ag y2 ((dy [] y2 x5)++[x2]) x5) aN))))))))))))))))))))))
def eW (x0:List Int):Option Bool :=
 (cV (σ:=Unit) (ε:=Unit) (ρ:=Bool) (fun i0 s0 =>
  bif decide ((x0.getD i0 0)<(-4611686018427387904)) then (
   some (.ret false)
  ) else (
   bif decide ((x0.getD i0 0)>4611686018427387904) then (
    some (.ret false)
   ) else (
    some (.go ())
   )
  )
 ) (fun i0 s0=>()) (x0.length-0) 0 ()).bind <| aft fun u0 =>
 some true
def lB (x0:List Int) (i0:Nat) (s0:Unit):AS:=⟨18,[(2,.bool false),(5,dS ag x0),(6,nI x0.length),(7,nI i0)],[]⟩
def pF (u1:Unit):AS:=⟨18,[(2,.bool false)],[]⟩
theorem cI (x0:List Int) (r:Bool) (H:eW x0=some r):bF Tryz.prog 75 [dS ag x0] (.bool r):=by
 unfold eW at H;refine aX Tryz.func75 18 [.tmp 2] ?_;refine pA 6 [V1,r0 [.v,.e (nI x0.length),.v]] [.only [2,5,6,7] []] 6 [] (lB x0 0 ()) (aT (aC (aV ag x0) aN)) ?_;refine aS H fun R0 h0 H0 => ?_;refine pJ 1 (pF) R0 ?_ (fun u0 e0 => ?_)
 ·refine pC (lB x0) h0 (fun i0 s0 h1 e1 => ?_) (fun i0 s0 h2 q0 h3 h4 => ?_)
  ·have c0:=lF i0 x0.length (by omega);subst e1;exact pB 5 [r0 [.e (.bool false)]] [.only [2] []] (pF ()) (aB c0 aN)
  ·have c1:=lT i0 x0.length (by omega);refine a7 h3 (fun c2 H1 => ?_) (fun c3 H2 => ?_)
   ·have c2p:=KM c2;obtain rfl:=sI H1;obtain rfl:=aG h4;obtain rfl:=sI (ao H0);exact pR 15 [r0 [.e (.bool true)],r0 [.e (.dptr [iI (x0.getD i0 0)]),.v,.v],r0 [.v,.e (.bool true),.v,.s,.s,.v],V1] [] [] (aB c1 (aI bE x0 i0 0 (aB c2 aN)))
   ·have c3p:=KL c3;refine a7 H2 (fun c4 H3 => ?_) (fun c5 H4 => ?_)
    ·have c4p:=KM c4;obtain rfl:=sI H3;obtain rfl:=aG h4;obtain rfl:=sI (ao H0);exact pR 16 [r0 [.e (.bool true)],r0 [.e (.dptr [iI (x0.getD i0 0)]),.v,.v],r0 [.v,.e (.bool false),.v,.v,.v,.v],.eqT 16 (.bool true),V1] [] [] (aB c1 (aI bE x0 i0 0 (aB c3 (aB c4 aN))))
    ·have c5p:=KL c5;refine bB 5 (ps:=[(x0.map ag).length≤9223372036854775807]) (by kernel_rfl) (fun l0 => ?_);have l1:x0.length≤9223372036854775807:=by simpa only [br,KP] using l0
     clear l0;obtain rfl:=sI H4;exact pB 15 [r0 [.e (.bool true)],r0 [.e (.dptr [iI (x0.getD i0 0)]),.v,.v],r0 [.v,.e (.bool false),.v,.v,.v,.v],.eqT 16 (.bool false),V2] [.only [2,5,6,7] []] (lB x0 (i0+1) ()) (aB c1 (aI bE x0 i0 0 (aB c3 (aB c5 (aH i0 aN)))))
 ·subst e0;have H5:=a8 H0;obtain rfl:=sI H5;exact pR 3 [V1] [] [] aN
def du (x0:Int):Option Int :=
 bif decide (x0<0) then (
  some (aW (0-x0))
 ) else (
  some x0
 )
theorem fh (x0 r:Int) (H:du x0=some r):bF Tryz.prog 106 [iI x0] (iI r):=by
 unfold du at H;refine aX Tryz.func106 8 [.tmp 2] ?_;refine a7 H (fun c0 H0 => ?_) (fun c1 H1 => ?_)
 ·obtain rfl:=sI H0;exact pR 10 [V1,V2,.eqT 4 (.bool true),r0 [.v,.w,.v]] [] [] (aB c0 aN)
 ·refine cC H1 fun e0 => ?_;subst e0;exact pR 11 [V1,V2,.eqT 4 (.bool false),V2] [] [] (aB c1 aN)
def bT (x0 x1 x2 x3 x4 x5 x6 x7:Int):Option (Int×Int×Int×Int×Int×Int) :=
 bif (decide (x0<0)==decide (x1<0)) then (
  (du x0).bind fun y0 =>
  (du x1).bind fun y1 =>
  (kc (IntKind.wrap .u64 y0) (IntKind.wrap .u64 y1)).bind fun y2 =>
  (dO x2 y2.2 0).bind fun y3 =>
  (dO x3 y2.1 y3.2).bind fun y4 =>
  (dO x4 0 y4.2).bind fun y5 =>
  some (y3.1,y4.1,y5.1,x5,x6,x7)
 ) else (
  (du x0).bind fun y6 =>
  (du x1).bind fun y7 =>
  (kc (IntKind.wrap .u64 y6) (IntKind.wrap .u64 y7)).bind fun y8 =>
  (dO x5 y8.2 0).bind fun y9 =>
  (dO x6 y8.1 y9.2).bind fun y10 =>
  (dO x7 0 y10.2).bind fun y11 =>
  some (x2,x3,x4,y9.1,y10.1,y11.1)
 )
theorem jR (x0 x1 x2 x3 x4 x5 x6 x7:Int) (r:Int×Int×Int×Int×Int×Int) (H:bT x0 x1 x2 x3 x4 x5 x6 x7=some r):bD Tryz.prog 76 [.hptr 1000 0,iI x0,iI x1] [(1000,.cells 115 [.int .u64 x2,.int .u64 x3,.int .u64 x4,.int .u64 x5,.int .u64 x6,.int .u64 x7])] (fun r2 h0=>r2=(.tup [])∧h0=[(1000,.cells 115 [.int .u64 r.1,.int .u64 r.2.1,.int .u64 r.2.2.1,.int .u64 r.2.2.2.1,.int .u64 r.2.2.2.2.1,.int .u64 r.2.2.2.2.2])]):=by
 unfold bT at H;refine aX Tryz.func76 54 [] ?_;refine a7 H (fun c0 H0 => ?_) (fun c1 H1 => ?_)
 ·refine aS H0 fun y0 h1 H2 => ?_;refine aS H2 fun y1 h2 H3 => ?_;refine aS H3 fun y2 h3 H4 => ?_;refine aS H4 fun y3 h4 H5 => ?_;refine aS H5 fun y4 h5 H6 => ?_;refine aS H6 fun y5 h6 H7 => ?_;obtain rfl:=sI H7;exact pR 57 [V1,V5,.eqT 16 (.bool false),r0 [.v,.c true (iI y0),.v,.v,.c true (iI y1),.v,.c true (.tup [.int .u64 y2.1,.int .u64 y2.2]),.v,.v,.v,.v,.v],V1,r0 [.v,.v,.b,.v],.un,V1,V4,.rg 20 (V 12 [.xc (.tup [.int .u64 y3.1,.int .u64 y3.2]),.v,.v,.v,.v,.v,.v,.m]) [.v],V2,.cv [.only [0,6,9,29,30] [1000]],V1,V4,.rg 20 (V 12 [.xc (.tup [.int .u64 y4.1,.int .u64 y4.2]),.v,.v,.v,.v,.v,.v,.m]) [.v],V2,.cv [.only [0,6,9,29,30] [1000]],V1,V4,.rg 20 (V 12 [.xc (.tup [.int .u64 y5.1,.int .u64 y5.2]),.v,.v,.v,.v,.v,.v,.m]) [.v],V2,.cv [.only [0,6,9,29,30] [1000]],V1] [] [1000] (aM c0 (aC Tryz.call106 (aF (fh _ _ h1) (aT (aC Tryz.call106 (aF (fh _ _ h2) (aT (aC Tryz.call105 (aF (n9 (IntKind.wrap .u64 y0) (IntKind.wrap .u64 y1) y2 h3) (aT (aT (aT (aC (gA x2 y2.2 0 y3 h4) (aT (aT (aO (0+1) (aT (aT (aT (aC (gA x3 y2.1 y3.2 y4 h5) (aT (aT (aO (1+1) (aT (aT (aT (aC (gA x4 0 y4.2 y5 h6) (aT (aT (aO (2+1) aN))))))))))))))))))))))))))))))
 ·refine aS H1 fun y6 h7 H8 => ?_;refine aS H8 fun y7 h8 H9 => ?_;refine aS H9 fun y8 h9 H10 => ?_;refine aS H10 fun y9 h10 H11 => ?_;refine aS H11 fun y10 h11 H12 => ?_;refine aS H12 fun y11 h12 H13 => ?_;obtain rfl:=sI H13;exact pR 57 [V1,V5,.eqT 16 (.bool true),V1,r0 [.v,.c true (iI y6),.v,.v,.c true (iI y7),.v,.c true (.tup [.int .u64 y8.1,.int .u64 y8.2]),.v,.v,.v,.v,.v],V1,r0 [.v,.v,.b,.v],.un,V1,V4,.rg 20 (V 12 [.xc (.tup [.int .u64 y9.1,.int .u64 y9.2]),.v,.v,.v,.v,.v,.v,.m]) [.v],V2,.cv [.only [0,6,9,29,30] [1000]],V1,V4,.rg 20 (V 12 [.xc (.tup [.int .u64 y10.1,.int .u64 y10.2]),.v,.v,.v,.v,.v,.v,.m]) [.v],V2,.cv [.only [0,6,9,29,30] [1000]],V1,V4,.rg 20 (V 12 [.xc (.tup [.int .u64 y11.1,.int .u64 y11.2]),.v,.v,.v,.v,.v,.v,.m]) [.v],V2,.cv [.only [0,6,9,29,30] [1000]],V1] [] [1000] (aM c1 (aC Tryz.call106 (aF (fh _ _ h7) (aT (aC Tryz.call106 (aF (fh _ _ h8) (aT (aC Tryz.call105 (aF (n9 (IntKind.wrap .u64 y6) (IntKind.wrap .u64 y7) y8 h9) (aT (aT (aT (aC (gA x5 y8.2 0 y9 h10) (aT (aT (aO (0+1) (aT (aT (aT (aC (gA x6 y8.1 y9.2 y10 h11) (aT (aT (aO (1+1) (aT (aT (aT (aC (gA x7 0 y10.2 y11 h12) (aT (aT (aO (2+1) aN))))))))))))))))))))))))))))))
def cn (x0 x1:Int×Int×Int):Option ((Int×Int×Int)×Bool) :=
 (j8 x0.1 x1.1 0).bind fun y0 =>
 (j8 x0.2.1 x1.2.1 y0.2).bind fun y1 =>
 (j8 x0.2.2 x1.2.2 y1.2).bind fun y2 =>
 some ((y0.1,y1.1,y2.1),(y2.2==0))
theorem gK (x0 x1:Int×Int×Int) (r:(Int×Int×Int)×Bool) (H:cn x0 x1=some r):bF Tryz.prog 108 [.agg [.int .u64 x0.1,.int .u64 x0.2.1,.int .u64 x0.2.2],.agg [.int .u64 x1.1,.int .u64 x1.2.1,.int .u64 x1.2.2]] (.tup [.agg [.int .u64 r.1.1,.int .u64 r.1.2.1,.int .u64 r.1.2.2],.bool r.2]):=by unfold cn at H;refine aX Tryz.func108 29 [.cell 4 113,.tmp 5] ?_;refine aS H fun y0 h0 H0 => ?_;refine aS H0 fun y1 h1 H1 => ?_;refine aS H1 fun y2 h2 H2 => ?_;obtain rfl:=sI H2;exact pR 55 [r0 [.m,.m,.m,.v],r0 [.m],V1,V1,.un,V1,V2,.rg 14 (V 8 [.xc (.tup [.int .u64 y0.1,.int .u64 y0.2]),.v,.v,.v,.v,.m]) [.v],V2,.cv [.only [2,3,4,5,6,7,9] [2,3,4,6]],V1,V2,.rg 14 (V 8 [.xc (.tup [.int .u64 y1.1,.int .u64 y1.2]),.v,.v,.v,.v,.m]) [.v],V2,.cv [.only [2,3,4,5,6,7,9] [2,3,4,6]],V1,V2,.rg 14 (V 8 [.xc (.tup [.int .u64 y2.1,.int .u64 y2.2]),.v,.v,.v,.v,.m]) [.v],V2,.cv [.only [2,3,4,5,6,7,9] [2,3,4,6]],V1,r0 [.v,.v,.v,.m,.v]] [] [] (aT (aT (aC (oW x0.1 x1.1 0 y0 h0) (aT (aO (0+1) (aT (aT (aC (oW x0.2.1 x1.2.1 y0.2 y1 h1) (aT (aO (1+1) (aT (aT (aC (oW x0.2.2 x1.2.2 y1.2 y2 h2) (aT (aO (2+1) aN)))))))))))))))
def dP (x0:Int):Option (Int×Int) :=
 (eW [x0]).bind fun y0 =>
 bif y0 then (
  some (x0,0)
 ) else (
  some (0,2)
 )
theorem k7 (x0:Int) (r:Int×Int) (H:dP x0=some r):bF Tryz.prog 110 [iI x0] (.tup [iI r.1,iI r.2]):=by
 unfold dP at H;refine aX Tryz.func110 9 [.tmp 2,.tmp 3] ?_;refine aS H fun y0 h0 H0 => ?_;refine a7 H0 (fun c0 H1 => ?_) (fun c1 H2 => ?_)
 ·obtain rfl:=sI H1;exact pR 11 [V2,r0 [.v,.b,.c true (.bool y0),.v],.eqT 7 (.bool false),V3] [] [] (aC Tryz.call75 (aF (cI _ _ h0) (aT (aM c0 aN))))
 ·obtain rfl:=sI H2;exact pR 10 [V2,r0 [.v,.b,.c true (.bool y0),.v],.eqT 7 (.bool true),V2] [] [] (aC Tryz.call75 (aF (cI _ _ h0) (aT (aM c1 aN))))
def bG (x0 x1 x2 x3 x4 x5:Int):Option (Int×Int) :=
 (cn (x0,x1,x2) (x3,x4,x5)).bind fun y0 =>
 bif y0.2 then (
  bif decide (y0.1.2.1>0) then (
   some (0,2)
  ) else (
   bif decide (y0.1.2.2>0) then (
    some (0,2)
   ) else (
    bif decide (y0.1.1>4611686018427387904) then (
     some (0,2)
    ) else (
     (dP (aW (1*(IntKind.wrap .i64 y0.1.1)))).bind fun y1 =>
     some (y1.1,y1.2)
    )
   )
  )
 ) else (
  (cn (x3,x4,x5) (x0,x1,x2)).bind fun y2 =>
  bif y2.2 then (
   bif decide (y2.1.2.1>0) then (
    some (0,2)
   ) else (
    bif decide (y2.1.2.2>0) then (
     some (0,2)
    ) else (
     bif decide (y2.1.1>4611686018427387904) then (
      some (0,2)
     ) else (
      (dP (aW ((-1)*(IntKind.wrap .i64 y2.1.1)))).bind fun y3 =>
      some (y3.1,y3.2)
     )
    )
   )
  ) else (
   some (0,2)
  )
 )
theorem ir (x0 x1 x2 x3 x4 x5:Int) (r:Int×Int) (H:bG x0 x1 x2 x3 x4 x5=some r):bD Tryz.prog 77 [.hptr 1000 0] [(1000,.cells 115 [.int .u64 x0,.int .u64 x1,.int .u64 x2,.int .u64 x3,.int .u64 x4,.int .u64 x5])] (fun r2 h0=>r2=(.tup [iI r.1,iI r.2])∧h0=[(1000,.cells 115 [.int .u64 x0,.int .u64 x1,.int .u64 x2,.int .u64 x3,.int .u64 x4,.int .u64 x5])]):=by
 unfold bG at H;refine aX Tryz.func77 53 [.tmp 2,.tmp 3] ?_;refine aS H fun y0 h1 H0 => ?_;refine pA 22 [V2,V1,r0 [.b,.v],.un,V1,V4,.rg 18 (V 12 [.c true (.tup [.agg [.int .u64 y0.1.1,.int .u64 y0.1.2.1,.int .u64 y0.1.2.2],.bool y0.2]),.v,.v,.v,.m,.m]) [.v],V1] [.only [0,2,3,4,6,7,9,10,30] [7,1000]] 22 [true] ⟨53,[(0,.hptr 1000 0),(2,iI 0),(3,iI 0),(4,.fn 108 []),(6,iI 1),(7,.hptr 7 0),(9,.agg [iI 1,iI (-1)]),(10,iI 0),(30,.bool y0.2)],[(7,.cells 113 [.int .u64 y0.1.1,.int .u64 y0.1.2.1,.int .u64 y0.1.2.2]),(1000,.cells 115 [.int .u64 x0,.int .u64 x1,.int .u64 x2,.int .u64 x3,.int .u64 x4,.int .u64 x5])]⟩ (aT (aT (aO (1-0) (aT (aC Tryz.call108 (aF (gK _ _ _ h1) aN)))))) ?_;refine a7 H0 (fun c0 H1 => ?_) (fun c1 H2 => ?_)
 ·refine a7 H1 (fun c2 H3 => ?_) (fun c3 H4 => ?_)
  ·obtain rfl:=sI H3;exact pR 9 [.eqT 30 (.bool true),r0 [.v,.v,.e (.bool true),.v,.s,.s,.s,.v,.v,.s,.s,.s,.v],V2] [] [1000] (aB c0 (aT (aB c2 aN)))
  ·refine a7 H4 (fun c4 H5 => ?_) (fun c5 H6 => ?_)
   ·obtain rfl:=sI H5;exact pR 9 [.eqT 30 (.bool true),r0 [.v,.v,.e (.bool false),.v,.v,.v,.e (.bool true),.v,.v,.s,.s,.s,.v],V2] [] [1000] (aB c0 (aT (aB c3 (aT (aB c4 aN)))))
   ·refine a7 H6 (fun c6 H7 => ?_) (fun c7 H8 => ?_)
    ·obtain rfl:=sI H7;exact pR 10 [.eqT 30 (.bool true),r0 [.v,.v,.e (.bool false),.v,.v,.v,.e (.bool false),.v,.v,.v,.v,.v,.v],.eqT 43 (.bool true),V2] [] [1000] (aB c0 (aT (aB c3 (aT (aB c5 (aT (aB c6 aN)))))))
    ·refine aS H8 fun y1 h2 H9 => ?_;obtain rfl:=sI H9;exact pR 11 [.eqT 30 (.bool true),r0 [.v,.v,.e (.bool false),.v,.v,.v,.e (.bool false),.v,.v,.v,.v,.v,.v],.eqT 43 (.bool false),r0 (V 4 [.w,.c true (.tup [iI y1.1,iI y1.2]),.v,.v,.v,.v])] [] [1000] (aB c0 (aT (aB c3 (aT (aB c5 (aT (aB c7 (aT (aT (aC Tryz.call110 (aF (k7 _ _ h2) aN)))))))))))
 ·refine aS H2 fun y2 h3 H10 => ?_;refine pA 18 [.eqT 30 (.bool false),V2,.cv [.only [0,2,3,4,9,10] [1000]],V1,V4,.rg 18 (V 12 [.c true (.tup [.agg [.int .u64 y2.1.1,.int .u64 y2.1.2.1,.int .u64 y2.1.2.2],.bool y2.2]),.v,.v,.v,.m,.m]) [.v],V1] [.only [0,2,3,4,6,7,9,10,30] [7,1000]] 16 [false,true] ⟨53,[(0,.hptr 1000 0),(2,iI 0),(3,iI 0),(4,.fn 108 []),(6,iI (-1)),(7,.hptr 7 0),(9,.agg [iI 1,iI (-1)]),(10,iI 1),(30,.bool y2.2)],[(7,.cells 113 [.int .u64 y2.1.1,.int .u64 y2.1.2.1,.int .u64 y2.1.2.2]),(1000,.cells 115 [.int .u64 x0,.int .u64 x1,.int .u64 x2,.int .u64 x3,.int .u64 x4,.int .u64 x5])]⟩ (aB c1 (aO (0+1) (aT (aT (aO (1-1) (aT (aC Tryz.call108 (aF (gK _ _ _ h3) aN)))))))) ?_;refine a7 H10 (fun c8 H11 => ?_) (fun c9 H12 => ?_)
  ·refine a7 H11 (fun c10 H13 => ?_) (fun c11 H14 => ?_)
   ·obtain rfl:=sI H13;exact pR 9 [.eqT 30 (.bool true),r0 [.v,.v,.e (.bool true),.v,.s,.s,.s,.v,.v,.s,.s,.s,.v],V2] [] [1000] (aB c8 (aT (aB c10 aN)))
   ·refine a7 H14 (fun c12 H15 => ?_) (fun c13 H16 => ?_)
    ·obtain rfl:=sI H15;exact pR 9 [.eqT 30 (.bool true),r0 [.v,.v,.e (.bool false),.v,.v,.v,.e (.bool true),.v,.v,.s,.s,.s,.v],V2] [] [1000] (aB c8 (aT (aB c11 (aT (aB c12 aN)))))
    ·refine a7 H16 (fun c14 H17 => ?_) (fun c15 H18 => ?_)
     ·obtain rfl:=sI H17;exact pR 10 [.eqT 30 (.bool true),r0 [.v,.v,.e (.bool false),.v,.v,.v,.e (.bool false),.v,.v,.v,.v,.v,.v],.eqT 43 (.bool true),V2] [] [1000] (aB c8 (aT (aB c11 (aT (aB c13 (aT (aB c14 aN)))))))
     ·refine aS H18 fun y3 h4 H19 => ?_;obtain rfl:=sI H19;exact pR 11 [.eqT 30 (.bool true),r0 [.v,.v,.e (.bool false),.v,.v,.v,.e (.bool false),.v,.v,.v,.v,.v,.v],.eqT 43 (.bool false),r0 (V 4 [.w,.c true (.tup [iI y3.1,iI y3.2]),.v,.v,.v,.v])] [] [1000] (aB c8 (aT (aB c11 (aT (aB c13 (aT (aB c15 (aT (aT (aC Tryz.call110 (aF (k7 _ _ h4) aN)))))))))))
  ·obtain rfl:=sI H12;exact pR 13 [.eqT 30 (.bool false),V2,.cv [.only [0,2,3,4,9,10] [1000]],V1,V2] [] [1000] (aB c9 (aO (1+1) aN))
def gv (x0 x1:List Int):Option (Int×Int) :=
 bif (((x0.length:Nat):Int)==((x1.length:Nat):Int)) then (
  bif decide (((x0.length:Nat):Int)>10000) then (
   some (0,3)
  ) else (
   (eW x0).bind fun y0 =>
   bif y0 then (
    (eW x1).bind fun y1 =>
    bif y1 then (
     (cV (σ:=(Int×Int×Int×Int×Int×Int)) (ε:=(Int×Int×Int×Int×Int×Int)) (ρ:=Empty) (fun i0 s0 =>
      bR (i0<x1.length) <|
      (bT (x0.getD i0 0) (x1.getD i0 0) s0.1 s0.2.1 s0.2.2.1 s0.2.2.2.1 s0.2.2.2.2.1 s0.2.2.2.2.2).bind fun y2 =>
      some (.go (y2.1,y2.2.1,y2.2.2.1,y2.2.2.2.1,y2.2.2.2.2.1,y2.2.2.2.2.2))
     ) (fun i0 s0=>(s0.1,s0.2.1,s0.2.2.1,s0.2.2.2.1,s0.2.2.2.2.1,s0.2.2.2.2.2)) (x0.length-0) 0 (0,0,0,0,0,0)).bind <| dJ fun u0 =>
     (bG u0.1 u0.2.1 u0.2.2.1 u0.2.2.2.1 u0.2.2.2.2.1 u0.2.2.2.2.2).bind fun y3 =>
     some (y3.1,y3.2)
    ) else (
     some (0,2)
    )
   ) else (
    some (0,2)
   )
  )
 ) else (
  some (0,1)
 )
def kf (x0 x1:List Int) (i0:Nat) (s0:Int×Int×Int×Int×Int×Int):AS:=⟨45,[(1,dS ag x1),(4,iI 0),(5,iI 0),(6,.hptr 6 0),(28,dS ag x0),(29,nI x0.length),(30,nI i0)],[(6,.cells 115 [.int .u64 s0.1,.int .u64 s0.2.1,.int .u64 s0.2.2.1,.int .u64 s0.2.2.2.1,.int .u64 s0.2.2.2.2.1,.int .u64 s0.2.2.2.2.2])]⟩
def oS (u1:Int×Int×Int×Int×Int×Int):AS:=⟨45,[(4,iI 0),(5,iI 0),(6,.hptr 6 0)],[(6,.cells 115 [.int .u64 u1.1,.int .u64 u1.2.1,.int .u64 u1.2.2.1,.int .u64 u1.2.2.2.1,.int .u64 u1.2.2.2.2.1,.int .u64 u1.2.2.2.2.2])]⟩
theorem wU (x0 x1:List Int) (r:Int×Int) (H:gv x0 x1=some r):bF Tryz.prog 84 [dS ag x0,dS ag x1] (.tup [iI r.1,iI r.2]):=by
 unfold gv at H;refine aX Tryz.func84 45 [.tmp 4,.tmp 5] ?_;refine a7 H (fun c0 H0 => ?_) (fun c1 H1 => ?_)
 ·refine pA 10 [.rg 0 [] [.v,.v],.rg 0 [] [.v,.e (.int .i64 ((x0.length:Nat):Int)),.v,.e (.int .i64 ((x1.length:Nat):Int)),.v,.v],.eqT 9 (.bool false),.rg 0 [] [.v,.e (.int .i64 ((x0.length:Nat):Int)),.v,.v]] [.only [0,1,4,5,15] []] 9 [false] ⟨45,[(0,.dslice (x0.map ag)),(1,.dslice (x1.map ag)),(4,.int .i64 0),(5,.int .i64 0),(15,.bool (decide (((x0.length:Nat):Int)>10000)))],[]⟩ (aT (aC (aV ag x0) (aT (aC (aV ag x1) (aM c0 (aT (aC (aV ag x0) aN))))))) ?_;refine a7 H0 (fun c2 H2 => ?_) (fun c3 H3 => ?_)
  ·obtain rfl:=sI H2;exact pR 5 [.eqT 15 (.bool true),V2] [] [] (aB c2 aN)
  ·have c3p:=KL c3;refine aS H3 fun y0 h0 H4 => ?_;refine a7 H4 (fun c4 H5 => ?_) (fun c5 H6 => ?_)
   ·refine aS H5 fun y1 h1 H7 => ?_;refine a7 H7 (fun c6 H8 => ?_) (fun c7 H9 => ?_)
    ·refine pA 13 [.eqT 15 (.bool false),.rg 0 [] [.v,.c true (.bool true),.v,.v,.v,.c true (.bool y1),.v,.v,.v],.eqT 19 (.bool false),.rg 0 [] [.m],.rg 0 [] [.v,.e (.int .i64 ((x0.length:Nat):Int)),.v]] [.only [1,4,5,6,28,29,30] [6]] 11 [false,false] (kf x0 x1 0 (0,0,0,0,0,0)) (aB c3 (aC Tryz.call75 (aC (bF.eq (cI _ _ h0) (cB c4)) (aT (aC Tryz.call75 (aF (cI _ _ h1) (aT (aM c6 (aT (aC (aV ag x0) aN)))))))))) ?_;refine aS H8 fun R0 h2 H10 => ?_;refine pJ 1 (oS) R0 ?_ (fun u0 e0 => ?_)
     ·refine pC (kf x0 x1) h2 (fun i0 s0 h3 e1 => ?_) (fun i0 s0 h4 q0 h5 h6 => ?_)
      ·have c8:=lF i0 x0.length (by omega);subst e1;exact pB 5 [r0 [.e (.bool false)]] [.only [4,5,6] [6]] (oS (s0.1,s0.2.1,s0.2.2.1,s0.2.2.2.1,s0.2.2.2.2.1,s0.2.2.2.2.2)) (aB c8 aN)
      ·have c9:=lT i0 x0.length (by omega);refine aR h5 fun g0 H11 => ?_;refine aS H11 fun y2 h7 H12 => ?_;refine bB 28 (ps:=[(x0.map ag).length≤9223372036854775807]) (by kernel_rfl) (fun l0 => ?_);have l1:x0.length≤9223372036854775807:=by simpa only [br,KP] using l0
       clear l0;obtain rfl:=sI H12;exact pB 11 [r0 [.e (.bool true)],r0 [.v,.e (.dptr [iI (x0.getD i0 0)]),.v,.v,.v],r0 [.v,.v,.v,.e (.dptr [iI (x1.getD i0 0)]),.v,.hR [(6,1000)] 40 (.tup []) [(1000,.cells 115 [.int .u64 y2.1,.int .u64 y2.2.1,.int .u64 y2.2.2.1,.int .u64 y2.2.2.2.1,.int .u64 y2.2.2.2.2.1,.int .u64 y2.2.2.2.2.2])]],V2] [.only [1,4,5,6,28,29,30] [6]] (kf x0 x1 (i0+1) (y2.1,y2.2.1,y2.2.2.1,y2.2.2.2.1,y2.2.2.2.2.1,y2.2.2.2.2.2)) (aB c9 (aI bE x0 i0 0 (aI bE x1 i0 0 (aC Tryz.call76 (aC (jR _ _ _ _ _ _ _ _ _ h7) (aH i0 aN))))))
     ·subst e0;have H13:=bI H10;refine aS H13 fun y3 h8 H14 => ?_;obtain rfl:=sI H14;exact pR 3 [r0 [.hR [(6,1000)] 42 (.tup [iI y3.1,iI y3.2]) [(1000,.cells 115 [.int .u64 u0.1,.int .u64 u0.2.1,.int .u64 u0.2.2.1,.int .u64 u0.2.2.2.1,.int .u64 u0.2.2.2.2.1,.int .u64 u0.2.2.2.2.2])],.v,.v,.v,.v]] [] [] (aC Tryz.call77 (aC (ir _ _ _ _ _ _ _ h8) aN))
    ·obtain rfl:=sI H9;exact pR 9 [.eqT 15 (.bool false),r0 [.v,.c true (.bool true),.v,.v,.v,.c true (.bool y1),.v,.v,.v],.eqT 19 (.bool true),V2] [] [] (aB c3 (aC Tryz.call75 (aC (bF.eq (cI _ _ h0) (cB c4)) (aT (aC Tryz.call75 (aF (cI _ _ h1) (aT (aM c7 aN))))))))
   ·obtain rfl:=sI H6;exact pR 8 [.eqT 15 (.bool false),r0 [.v,.c true (.bool false),.v,.v,.s,.s,.s,.v,.v],V2] [] [] (aB c3 (aC Tryz.call75 (aC (bF.eq (cI _ _ h0) (cB c5)) (aT aN))))
 ·obtain rfl:=sI H1;exact pR 11 [V2,r0 [.v,.e (nI x0.length),.v,.e (nI x1.length),.v,.v],.eqT 9 (.bool true),V2] [] [] (aT (aC (aV ag x0) (aT (aC (aV ag x1) (aM c1 aN)))))
def cmp_isNaN_string (x0:ai):Option Bool :=
 some (!(x0==x0))
theorem bf (x0:ai) (r:Bool) (H:cmp_isNaN_string x0=some r):bF Tryz.prog 126 [.str x0] (.bool r):=by unfold cmp_isNaN_string at H;refine aX Tryz.func126 6 [.tmp 2] ?_;obtain rfl:=sI H;exact pR 5 [V1,V4] [] [] aN
def cmp_Less_string (x0 x1:ai):Option Bool :=
 (cmp_isNaN_string x0).bind fun y0 =>
 bif y0 then (
  (cmp_isNaN_string x1).bind fun y1 =>
  bif y1 then (
   some (Op.bytesLess x0 x1)
  ) else (
   some true
  )
 ) else (
  some (Op.bytesLess x0 x1)
 )
theorem rj (x0 x1:ai) (r:Bool) (H:cmp_Less_string x0 x1=some r):bF Tryz.prog 95 [.str x0,.str x1] (.bool r):=by
 unfold cmp_Less_string at H;refine aX Tryz.func95 17 [.tmp 4] ?_;refine aS H fun y0 h0 H0 => ?_;refine a7 H0 (fun c0 H1 => ?_) (fun c1 H2 => ?_)
 ·refine aS H1 fun y1 h1 H3 => ?_;refine a7 H3 (fun c2 H4 => ?_) (fun c3 H5 => ?_)
  ·obtain rfl:=sI H4;exact pR 5 [V1,r0 [.v,.c true (.bool true),.v,.v,.c true (.bool true),.v,.v,.v,.v,.v,.v,.v,.v]] [] [] (aC Tryz.call126 (aC (bF.eq (bf _ _ h0) (cB c0)) (aC Tryz.call126 (aC (bF.eq (bf _ _ h1) (cB c2)) (aT aN)))))
  ·obtain rfl:=sI H5;exact pR 5 [V1,r0 [.v,.c true (.bool true),.v,.v,.c true (.bool false),.v,.v,.v,.s,.s,.s,.v,.v]] [] [] (aC Tryz.call126 (aC (bF.eq (bf _ _ h0) (cB c0)) (aC Tryz.call126 (aC (bF.eq (bf _ _ h1) (cB c3)) (aT aN)))))
 ·obtain rfl:=sI H2;exact pR 5 [V1,r0 [.v,.c true (.bool false),.v,.s,.s,.s,.v,.v,.v,.v,.v,.v,.v]] [] [] (aC Tryz.call126 (aC (bF.eq (bf _ _ h0) (cB c1)) aN))
def cG (x0:List ai):Option Bool :=
 (qG (σ:=Int) (ε:=Unit) (ρ:=Bool) (fun s0 =>
  bif decide (s0>0) then (
   bR (0≤s0∧s0<(x0.length:Int)) <|
   bR (0≤(aW (s0-1))∧(aW (s0-1))<(x0.length:Int)) <|
   (cmp_Less_string (x0.getD s0.toNat []) (x0.getD (aW (s0-1)).toNat [])).bind fun y0 =>
   bif y0 then (
    some (.ret false)
   ) else (
    some (.go (aW (s0-1)))
   )
  ) else (
   some (.brk ())
  )
 ) 4294967296 (aW (((x0.length:Nat):Int)-1))).bind <| aft fun u0 =>
 some true
def dI (x0:List ai) (s0:Int):AS:=⟨21,[(0,dS aj x0),(2,.bool false),(3,iI s0)],[]⟩
def fY (u1:Unit):AS:=⟨21,[(2,.bool false)],[]⟩
theorem lM (x0:List ai) (r:Bool) (H:cG x0=some r):bF Tryz.prog 58 [dS aj x0] (.bool r):=by
 unfold cG at H;refine aX Tryz.func58 21 [.tmp 2] ?_;refine pA 6 [V1,r0 [.v,.e (nI x0.length),.w,.v]] [.only [0,2,3] []] 6 [] (dI x0 (aW (((x0.length:Nat):Int)-1))) (aT (aC (aV aj x0) aN)) ?_;refine aS H fun R0 h0 H0 => ?_;refine pJ 1 (fY) R0 ?_ (fun u0 e0 => ?_)
 ·refine s7 (dI x0) (by kernel_rfl) h0 (fun s0 q0 h1 h2 => ?_)
  ·refine a7 h1 (fun c0 H1 => ?_) (fun c1 H2 => ?_)
   ·refine aR H1 fun g0 H3 => ?_;refine aR H3 fun g1 H4 => ?_;refine aS H4 fun y0 h3 H5 => ?_;refine pA 10 [V2,.eqT 8 (.bool true),.rg 9 [.v,.v,.e (.dptr [.str (x0.getD s0.toNat [])]),.v,.v,.v,.w,.e (.dptr [.str (x0.getD (aW (s0-1)).toNat [])]),.v] [.c true (.bool y0)]] [.only [0,2,3,20] []] 9 [true] ⟨21,[(0,dS aj x0),(2,.bool false),(3,iI s0),(20,.bool y0)],[]⟩ (aB c0 (aJ (xv (f:=aj) (l:=x0) (n:=s0) [] bb (by decide) (by exact g0)) (aJ (xv (f:=aj) (l:=x0) (n:=(aW (s0-1))) [] bb (by decide) (by exact g1)) (aC Tryz.call95 (aF (rj _ _ _ h3) aN))))) ?_;refine a7 H5 (fun c2 H6 => ?_) (fun c3 H7 => ?_)
    ·obtain rfl:=sI H6;obtain rfl:=aG h2;obtain rfl:=sI (ao H0);exact pR 5 [.eqT 20 (.bool true),V1] [] [] (aB c2 aN)
    ·obtain rfl:=sI H7;exact pB 4 [.eqT 20 (.bool false),r0 [.v,.w,.v]] [.only [0,2,3] []] (dI x0 (aW (s0-1))) (aB c3 aN)
   ·obtain rfl:=sI H2;obtain rfl:=eT h2;exact pB 6 [V2,.eqT 8 (.bool false)] [.only [2] []] (fY ()) (aB c1 aN)
 ·subst e0;have H8:=a8 H0;obtain rfl:=sI H8;exact pR 3 [V1] [] [] aN
def gO (x0:ai):Option Bool :=
 (gH x0).bind fun y0 =>
 some (!y0)
theorem oQ (x0:ai) (r:Bool) (H:gO x0=some r):bF Tryz.prog 60 [.str x0] (.bool r):=by unfold gO at H;refine aX Tryz.func60 6 [.tmp 2] ?_;refine aS H fun y0 h0 H0 => ?_;obtain rfl:=sI H0;exact pR 5 [V1,r0 [.v,.c true (.bool y0),.v,.v]] [] [] (aC Tryz.call61 (aF (ff _ _ h0) (aT aN)))
def dd (x0:List ai):Option Int :=
 (cV (σ:=Unit) (ε:=Unit) (ρ:=Int) (fun i0 s0 =>
  (gO (x0.getD i0 [])).bind fun y0 =>
  bif y0 then (
   some (.ret ((i0:Nat):Int))
  ) else (
   some (.go ())
  )
 ) (fun i0 s0=>()) (x0.length-0) 0 ()).bind <| aft fun u0 =>
 some (-1)
def dz (x0:List ai) (i0:Nat) (s0:Unit):AS:=⟨19,[(0,dS aj x0),(1,.fn 60 []),(4,iI 0),(7,nI x0.length),(8,nI i0)],[]⟩
def fx (u1:Unit):AS:=⟨19,[(4,iI 0)],[]⟩
theorem kR (x0:List ai) (r:Int) (H:dd x0=some r):bF Tryz.prog 96 [dS aj x0,.fn 60 []] (iI r):=by
 unfold dd at H;refine aX Tryz.func96 19 [.tmp 4] ?_;refine pA 6 [V1,r0 [.v,.e (nI x0.length),.v]] [.only [0,1,4,7,8] []] 6 [] (dz x0 0 ()) (aT (aC (aV aj x0) aN)) ?_;refine aS H fun R0 h0 H0 => ?_;refine pJ 1 (fx) R0 ?_ (fun u0 e0 => ?_)
 ·refine pC (dz x0) h0 (fun i0 s0 h1 e1 => ?_) (fun i0 s0 h2 q0 h3 h4 => ?_)
  ·have c0:=lF i0 x0.length (by omega);subst e1;exact pB 5 [r0 [.e (.bool false)]] [.only [4] []] (fx ()) (aB c0 aN)
  ·have c1:=lT i0 x0.length (by omega);refine aS h3 fun y0 h5 H1 => ?_;refine a7 H1 (fun c2 H2 => ?_) (fun c3 H3 => ?_)
   ·obtain rfl:=sI H2;obtain rfl:=aG h4;obtain rfl:=sI (ao H0);exact pR 16 [r0 [.e (.bool true)],V2,r0 [.v,.v,.v,.e (.dptr [.str (x0.getD i0 [])]),.v,.c true (.bool y0)],.eqT 16 (.bool true),V2] [] [] (aB c1 (aI bb x0 i0 [] (aC Tryz.call60 (aF (oQ _ _ h5) (aB c2 aN)))))
   ·refine bB 0 (ps:=[(x0.map aj).length≤9223372036854775807]) (by kernel_rfl) (fun l0 => ?_);have l1:x0.length≤9223372036854775807:=by simpa only [br,KP] using l0
    clear l0;obtain rfl:=sI H3;exact pB 15 [r0 [.e (.bool true)],V2,r0 [.v,.v,.v,.e (.dptr [.str (x0.getD i0 [])]),.v,.c true (.bool y0)],.eqT 16 (.bool false),V2] [.only [0,1,4,7,8] []] (dz x0 (i0+1) ()) (aB c1 (aI bb x0 i0 [] (aC Tryz.call60 (aF (oQ _ _ h5) (aB c3 (aH i0 aN))))))
 ·subst e0;have H4:=a8 H0;obtain rfl:=sI H4;exact pR 3 [V1] [] [] aN
def bW (x0:List ai):Option Bool :=
 (dd x0).bind fun y0 =>
 some (decide (y0≥0))
theorem fa (x0:List ai) (r:Bool) (H:bW x0=some r):bF Tryz.prog 59 [dS aj x0,.fn 60 []] (.bool r):=by unfold bW at H;refine aX Tryz.func59 9 [.tmp 4] ?_;refine aS H fun y0 h0 H0 => ?_;obtain rfl:=sI H0;exact pR 5 [V1,r0 [.v,.v,.c true (iI y0),.v,.v]] [] [] (aC Tryz.call96 (aF (kR _ _ h0) aN))
def cP (x0 x1:ai):Option Int :=
 (cmp_isNaN_string x0).bind fun y0 =>
 (cmp_isNaN_string x1).bind fun y1 =>
 bif y0 then (
  bif y1 then (
   some 0
  ) else (
   some (-1)
  )
 ) else (
  bif y1 then (
   some 1
  ) else (
   bif (Op.bytesLess x0 x1) then (
    some (-1)
   ) else (
    bif (Op.bytesLess x0 x1||x0==x1) then (
     some 0
    ) else (
     some 1
    )
   )
  )
 )
theorem oP (x0 x1:ai) (r:Int) (H:cP x0 x1=some r):bF Tryz.prog 98 [.str x0,.str x1] (iI r):=by
 unfold cP at H;refine aX Tryz.func98 20 [.tmp 4] ?_;refine aS H fun y0 h0 H0 => ?_;refine aS H0 fun y1 h1 H1 => ?_;refine a7 H1 (fun c0 H2 => ?_) (fun c1 H3 => ?_)
 ·refine a7 H2 (fun c2 H4 => ?_) (fun c3 H5 => ?_)
  ·obtain rfl:=sI H4;exact pR 19 [V1,r0 [.v,.c true (.bool y0),.v],r0 [.v,.c true (.bool y1),.v],V1,.eqT 11 (.bool true),V1,.eqT 12 (.bool true),V1] [] [] (aC Tryz.call126 (aF (bf _ _ h0) (aC Tryz.call126 (aF (bf _ _ h1) (aB c0 (aB c2 aN))))))
  ·obtain rfl:=sI H5;exact pR 20 [V1,r0 [.v,.c true (.bool y0),.v],r0 [.v,.c true (.bool y1),.v],V1,.eqT 11 (.bool true),V1,.eqT 12 (.bool false),V1] [] [] (aC Tryz.call126 (aF (bf _ _ h0) (aC Tryz.call126 (aF (bf _ _ h1) (aB c0 (aB c3 aN))))))
 ·refine a7 H3 (fun c4 H6 => ?_) (fun c5 H7 => ?_)
  ·obtain rfl:=sI H6;exact pR 20 [V1,r0 [.v,.c true (.bool y0),.v],r0 [.v,.c true (.bool y1),.v],V1,.eqT 11 (.bool false),V1,.eqT 13 (.bool true),V1] [] [] (aC Tryz.call126 (aF (bf _ _ h0) (aC Tryz.call126 (aF (bf _ _ h1) (aB c1 (aB c4 aN))))))
  ·refine pA 21 [.rg 0 [] [.v],.rg 0 [] [.v,.c true (.bool y0),.v],.rg 0 [] [.v,.c true (.bool y1),.v],.rg 0 [] [.v],.eqT 11 (.bool false),.rg 0 [] [.v],.eqT 13 (.bool false),.rg 0 [] [.v,.v,.v]] [.only [0,1,4,16] []] 19 [false,false] ⟨20,[(0,.str x0),(1,.str x1),(4,.int .i64 0),(16,.bool (Op.bytesLess x0 x1))],[]⟩ (aC Tryz.call126 (aF (bf _ _ h0) (aC Tryz.call126 (aF (bf _ _ h1) (aB c1 (aB c5 aN)))))) ?_;refine a7 H7 (fun c6 H8 => ?_) (fun c7 H9 => ?_)
   ·obtain rfl:=sI H8;exact pR 5 [.eqT 16 (.bool true),V1] [] [] (aB c6 aN)
   ·refine a7 H9 (fun c8 H10 => ?_) (fun c9 H11 => ?_)
    ·obtain rfl:=sI H10;exact pR 12 [.eqT 16 (.bool false),V3,.eqT 19 (.bool false),V1] [] [] (aB c7 (aM c8 aN))
    ·obtain rfl:=sI H11;exact pR 11 [.eqT 16 (.bool false),V3,.eqT 19 (.bool true),V1] [] [] (aB c7 (aM c9 aN))
def cO (x0 x1:List ai):Option Int :=
 (cV (σ:=Unit) (ε:=Unit) (ρ:=Int) (fun i0 s0 =>
  bif decide (((i0:Nat):Int)≥((x1.length:Nat):Int)) then (
   some (.ret 1)
  ) else (
   (cP (x0.getD i0 []) (x1.getD i0 [])).bind fun y0 =>
   bif (y0==0) then (
    some (.go ())
   ) else (
    some (.ret y0)
   )
  )
 ) (fun i0 s0=>()) (x0.length-0) 0 ()).bind <| aft fun u0 =>
 bif decide (((x0.length:Nat):Int)<((x1.length:Nat):Int)) then (
  some (-1)
 ) else (
  some 0
 )
def eh (x0 x1:List ai) (i0:Nat) (s0:Unit):AS:=⟨36,[(0,dS aj x0),(1,dS aj x1),(4,iI 0),(9,dS aj x0),(10,nI x0.length),(11,nI i0)],[]⟩
def gg (x0 x1:List ai) (u1:Unit):AS:=⟨36,[(0,dS aj x0),(1,dS aj x1),(4,iI 0)],[]⟩
theorem mG (x0 x1:List ai) (r:Int) (H:cO x0 x1=some r):bF Tryz.prog 62 [dS aj x0,dS aj x1] (iI r):=by
 unfold cO at H;refine aX Tryz.func62 36 [.tmp 4] ?_;refine pA 6 [V1,r0 [.v,.e (nI x0.length),.v]] [.only [0,1,4,9,10,11] []] 6 [] (eh x0 x1 0 ()) (aT (aC (aV aj x0) aN)) ?_;refine aS H fun R0 h0 H0 => ?_;refine pJ 1 (gg x0 x1) R0 ?_ (fun u0 e0 => ?_)
 ·refine pC (eh x0 x1) h0 (fun i0 s0 h1 e1 => ?_) (fun i0 s0 h2 q0 h3 h4 => ?_)
  ·have c0:=lF i0 x0.length (by omega);subst e1;exact pB 5 [r0 [.e (.bool false)]] [.only [0,1,4] []] (gg x0 x1 ()) (aB c0 aN)
  ·have c1:=lT i0 x0.length (by omega);refine a7 h3 (fun c2 H1 => ?_) (fun c3 H2 => ?_)
   ·have c2p:=KM c2;obtain rfl:=sI H1;obtain rfl:=aG h4;obtain rfl:=sI (ao H0);exact pR 17 [r0 [.e (.bool true)],r0 [.v,.e (.dptr [.str (x0.getD i0 [])]),.v,.v,.v],r0 [.v,.v,.e (nI x1.length),.v],.eqT 19 (.bool true),V1] [] [] (aB c1 (aI bb x0 i0 [] (aT (aC (aV aj x1) (aB c2 aN)))))
   ·have c3p:=KL c3;refine aS H2 fun y0 h5 H3 => ?_;refine pA 21 [r0 [.e (.bool true)],r0 [.v,.e (.dptr [.str (x0.getD i0 [])]),.v,.v,.v],r0 [.v,.v,.e (nI x1.length),.v],.eqT 19 (.bool false),r0 [.v,.v,.e (.dptr [.str (x1.getD i0 [])]),.v,.v],r0 [.v,.v,.c true (iI y0),.v],V2] [.only [0,1,4,8,9,10,11,28] []] 20 [true,false] ⟨36,[(0,dS aj x0),(1,dS aj x1),(4,iI 0),(8,iI y0),(9,dS aj x0),(10,nI x0.length),(11,nI i0),(28,.bool (y0 != 0))],[]⟩ (aB c1 (aI bb x0 i0 [] (aT (aC (aV aj x1) (aB c3 (aI bb x1 i0 [] (aC Tryz.call98 (aF (oP _ _ _ h5) aN)))))))) ?_;refine a7 H3 (fun c4 H4 => ?_) (fun c5 H5 => ?_)
    ·refine bB 0 (ps:=[(x0.map aj).length≤9223372036854775807]) (by kernel_rfl) (fun l0 => ?_);have l1:x0.length≤9223372036854775807:=by simpa only [br,KP] using l0
     clear l0;obtain rfl:=sI H4;exact pB 4 [.eqT 28 (.bool false),V2] [.only [0,1,4,9,10,11] []] (eh x0 x1 (i0+1) ()) (aM c4 (aH i0 aN))
    ·obtain rfl:=sI H5;obtain rfl:=aG h4;refine cC (ao H0) fun e2 => ?_;subst e2;exact pR 5 [.eqT 28 (.bool true),V2] [] [] (aM c5 aN)
 ·subst e0;have H6:=a8 H0;refine a7 H6 (fun c6 H7 => ?_) (fun c7 H8 => ?_)
  ·obtain rfl:=sI H7;exact pR 8 [r0 [.v,.e (nI x0.length),.v,.e (nI x1.length),.v],.eqT 35 (.bool true),V1] [] [] (aT (aC (aV aj x0) (aT (aC (aV aj x1) (aB c6 aN)))))
  ·obtain rfl:=sI H8;exact pR 9 [r0 [.v,.e (nI x0.length),.v,.e (nI x1.length),.v],.eqT 35 (.bool false),V1] [] [] (aT (aC (aV aj x0) (aT (aC (aV aj x1) (aB c7 aN)))))
def bp (x0:List aa):Option Bool :=
 (cV (σ:=Unit) (ε:=Unit) (ρ:=Bool) (fun i0 s0 =>
  bif (((x0.getD i0 ⟨0,[]⟩).Coef)==0) then (
   some (.ret false)
  ) else (
   bif decide (((x0.getD i0 ⟨0,[]⟩).Coef)<(-1099511627776)) then (
    some (.ret false)
   ) else (
    bif decide (((x0.getD i0 ⟨0,[]⟩).Coef)>1099511627776) then (
     some (.ret false)
    ) else (
     bif decide (((((x0.getD i0 ⟨0,[]⟩).Vars).length:Nat):Int)>8) then (
      some (.ret false)
     ) else (
      (cG ((x0.getD i0 ⟨0,[]⟩).Vars)).bind fun y0 =>
      bif y0 then (
       (bW ((x0.getD i0 ⟨0,[]⟩).Vars)).bind fun y1 =>
       bif y1 then (
        some (.ret false)
       ) else (
        ((
         bif decide (((i0:Nat):Int)>0) then (
          bR (0≤(aW (((i0:Nat):Int)-1))∧(aW (((i0:Nat):Int)-1))<(x0.length:Int)) <|
          (cO ((x0.getD (aW (((i0:Nat):Int)-1)).toNat ⟨0,[]⟩).Vars) ((x0.getD i0 ⟨0,[]⟩).Vars)).bind fun y2 =>
          bif decide (y2≥0) then (
           some (.ret (.ret false))
          ) else (
           some (.brk ())
          )
         ) else (
          some (.brk ())
         )
        ):Option (Out Unit (eM Unit Unit Bool))).bind (aft fun u0 =>
         some (.go ())
        )
       )
      ) else (
       some (.ret false)
      )
     )
    )
   )
  )
 ) (fun i0 s0=>()) (x0.length-0) 0 ()).bind <| aft fun u1 =>
 some (decide (((x0.length:Nat):Int)≤60))
def lJ (x0:List aa) (i0:Nat) (s0:Unit):AS:=⟨58,[(0,dS ab x0),(2,.bool false),(5,dS ab x0),(6,nI x0.length),(7,nI i0)],[]⟩
def pG (x0:List aa) (u2:Unit):AS:=⟨58,[(0,dS ab x0),(2,.bool false)],[]⟩
def mg (x0:List aa) (i0:Nat) (u0:Unit):AS:=⟨58,[(0,dS ab x0),(2,.bool false),(5,dS ab x0),(6,nI x0.length),(7,nI i0)],[]⟩
theorem ba (x0:List aa) (r:Bool) (H:bp x0=some r):bF Tryz.prog 27 [dS ab x0] (.bool r):=by
 unfold bp at H;refine aX Tryz.func27 58 [.tmp 2] ?_;refine pA 6 [V1,r0 [.v,.e (nI x0.length),.v]] [.only [0,2,5,6,7] []] 6 [] (lJ x0 0 ()) (aT (aC (aV ab x0) aN)) ?_;refine aS H fun R0 h0 H0 => ?_;refine pJ 1 (pG x0) R0 ?_ (fun u1 e0 => ?_)
 ·refine pC (lJ x0) h0 (fun i0 s0 h1 e1 => ?_) (fun i0 s0 h2 q0 h3 h4 => ?_)
  ·have c0:=lF i0 x0.length (by omega);subst e1;exact pB 5 [r0 [.e (.bool false)]] [.only [0,2] []] (pG x0 ()) (aB c0 aN)
  ·have c1:=lT i0 x0.length (by omega);refine a7 h3 (fun c2 H1 => ?_) (fun c3 H2 => ?_)
   ·obtain rfl:=sI H1;obtain rfl:=aG h4;obtain rfl:=sI (ao H0);exact pR 16 [r0 [.e (.bool true)],r0 [.v,.e (.dptr (ab (x0.getD i0 ⟨0,[]⟩))),.v,.m,.v,.m],r0 [.v,.v,.e (.bool true),.v,.s,.s,.s,.v,.v,.s,.s,.s,.v,.v,.s,.s,.s,.s,.v,.v,.s,.s,.s,.s,.v],V1] [] [] (aB c1 (aI aw x0 i0 ⟨0,[]⟩ (aB c2 aN)))
   ·refine a7 H2 (fun c4 H3 => ?_) (fun c5 H4 => ?_)
    ·have c4p:=KM c4;obtain rfl:=sI H3;obtain rfl:=aG h4;obtain rfl:=sI (ao H0);exact pR 16 [r0 [.e (.bool true)],r0 [.v,.e (.dptr (ab (x0.getD i0 ⟨0,[]⟩))),.v,.m,.v,.m],r0 [.v,.v,.e (.bool false),.v,.v,.v,.e (.bool true),.v,.v,.s,.s,.s,.v,.v,.s,.s,.s,.s,.v,.v,.s,.s,.s,.s,.v],V1] [] [] (aB c1 (aI aw x0 i0 ⟨0,[]⟩ (aB c3 (aB c4 aN))))
    ·have c5p:=KL c5;refine a7 H4 (fun c6 H5 => ?_) (fun c7 H6 => ?_)
     ·have c6p:=KM c6;obtain rfl:=sI H5;obtain rfl:=aG h4;obtain rfl:=sI (ao H0);exact pR 16 [r0 [.e (.bool true)],r0 [.v,.e (.dptr (ab (x0.getD i0 ⟨0,[]⟩))),.v,.m,.v,.m],r0 [.v,.v,.e (.bool false),.v,.v,.v,.e (.bool false),.v,.v,.v,.v,.e (.bool true),.v,.v,.s,.s,.s,.s,.v,.v,.s,.s,.s,.s,.v],V1] [] [] (aB c1 (aI aw x0 i0 ⟨0,[]⟩ (aB c3 (aB c5 (aB c6 aN)))))
     ·have c7p:=KL c7;refine a7 H6 (fun c8 H7 => ?_) (fun c9 H8 => ?_)
      ·have c8p:=KM c8;obtain rfl:=sI H7;obtain rfl:=aG h4;obtain rfl:=sI (ao H0);exact pR 16 [r0 [.e (.bool true)],r0 [.v,.e (.dptr (ab (x0.getD i0 ⟨0,[]⟩))),.v,.m,.v,.m],r0 [.v,.v,.e (.bool false),.v,.v,.v,.e (.bool false),.v,.v,.v,.v,.e (.bool false),.v,.v,.v,.v,.e (iI ((((x0.getD i0 ⟨0,[]⟩).Vars).length:Nat):Int)),.e (.bool true),.v,.v,.s,.s,.s,.s,.v],V1] [] [] (aB c1 (aI aw x0 i0 ⟨0,[]⟩ (aB c3 (aB c5 (aB c7 (aT (aC (aV aj ((x0.getD i0 ⟨0,[]⟩).Vars)) (aB c8 aN))))))))
      ·have c9p:=KL c9;refine aS H8 fun y0 h5 H9 => ?_;refine pA 12 [r0 [.e (.bool true)],r0 [.v,.e (.dptr (ab (x0.getD i0 ⟨0,[]⟩))),.v,.m,.v,.m],r0 [.v,.v,.e (.bool false),.v,.v,.v,.e (.bool false),.v,.v,.v,.v,.e (.bool false),.v,.v,.v,.v,.e (iI ((((x0.getD i0 ⟨0,[]⟩).Vars).length:Nat):Int)),.e (.bool false),.v,.v,.v,.v,.c true (.bool y0),.v,.v]] [.only [0,2,3,4,5,6,7,36] [4]] 12 [true] ⟨58,[(0,dS ab x0),(2,.bool false),(3,nI i0),(4,.hptr 4 0),(5,dS ab x0),(6,nI x0.length),(7,nI i0),(36,.bool (!y0))],[(4,.cells 67 (ab (x0.getD i0 ⟨0,[]⟩)))]⟩ (aB c1 (aI aw x0 i0 ⟨0,[]⟩ (aB c3 (aB c5 (aB c7 (aT (aC (aV aj ((x0.getD i0 ⟨0,[]⟩).Vars)) (aB c9 (aC Tryz.call58 (aF (lM _ _ h5) (aT aN))))))))))) ?_;refine a7 H9 (fun c10 H10 => ?_) (fun c11 H11 => ?_)
       ·refine aS H10 fun y1 h6 H12 => ?_;refine a7 H12 (fun c12 H13 => ?_) (fun c13 H14 => ?_)
        ·obtain rfl:=sI H13;obtain rfl:=aG h4;obtain rfl:=sI (ao H0);exact pR 11 [.eqT 36 (.bool false),r0 [.v,.v,.c true (.bool y1)],.eqT 39 (.bool true),V1] [] [] (aM c10 (aC Tryz.call59 (aF (fa _ _ h6) (aB c12 aN))))
        ·refine pA 10 [.eqT 36 (.bool false),.rg 0 [] [.v,.v,.c true (.bool y1)],.eqT 39 (.bool false)] [.only [0,2,3,4,5,6,7] [4]] 8 [false,false] ⟨58,[(0,.dslice (x0.map ab)),(2,.bool false),(3,.int .i64 ((i0:Nat):Int)),(4,.hptr 4 0),(5,.dslice (x0.map ab)),(6,.int .i64 ((x0.length:Nat):Int)),(7,.int .i64 ((i0:Nat):Int))],[(4,.cells 67 (ab (x0.getD i0 ⟨0,[]⟩)))]⟩ (aM c10 (aC Tryz.call59 (aF (fa _ _ h6) (aB c13 aN)))) ?_;refine aS H14 fun v0 h7 H15 => ?_;refine pJ 2 (mg x0 i0) v0 ?_ (fun u0 e2 => ?_)
         ·refine a7 h7 (fun c14 H16 => ?_) (fun c15 H17 => ?_)
          ·refine aR H16 fun g0 H18 => ?_;refine aS H18 fun y2 h8 H19 => ?_;refine pA 1 [.rg 11 [.v,.e (.bool true),.v,.v,.v,.w,.e (.dptr (ab (x0.getD (aW (((i0:Nat):Int)-1)).toNat ⟨0,[]⟩))),.v,.v,.v,.v] [.c true (iI y2),.v,.v]] [.only [0,2,5,6,7,53] []] 1 [] ⟨58,[(0,dS ab x0),(2,.bool false),(5,dS ab x0),(6,nI x0.length),(7,nI i0),(53,.bool (decide (y2≥0)))],[]⟩ (aB c14 (aJ (xv (f:=ab) (l:=x0) (n:=(aW (((i0:Nat):Int)-1))) ⟨0,[]⟩ aw (by decide) (by exact g0)) (aC Tryz.call62 (aF (mG _ _ _ h8) aN)))) ?_;refine a7 H19 (fun c16 H20 => ?_) (fun c17 H21 => ?_)
           ·obtain rfl:=sI H20;obtain rfl:=sI (ao H15);obtain rfl:=aG h4;obtain rfl:=sI (ao H0);exact pR 5 [.eqT 53 (.bool true),V1] [] [] (aB c16 aN)
           ·obtain rfl:=sI H21;exact pB 3 [.eqT 53 (.bool false)] [.only [0,2,5,6,7] []] (mg x0 i0 ()) (aB c17 aN)
          ·obtain rfl:=sI H17;exact pB 3 [.rg 11 [.v,.e (.bool false),.v,.s,.s,.s,.s,.s,.s,.s,.s] [.s,.s,.v]] [.only [0,2,5,6,7] []] (mg x0 i0 ()) (aB c15 aN)
         ·subst e2;have H22:=a8 H15;refine bB 0 (ps:=[(x0.map ab).length≤9223372036854775807]) (by kernel_rfl) (fun l0 => ?_);have l1:x0.length≤9223372036854775807:=by simpa only [br,KP] using l0
          clear l0;obtain rfl:=sI H22;exact pB 1 [V2] [.only [0,2,5,6,7] []] (lJ x0 (i0+1) ()) (aH i0 aN)
       ·obtain rfl:=sI H11;obtain rfl:=aG h4;obtain rfl:=sI (ao H0);exact pR 5 [.eqT 36 (.bool true),V1] [] [] (aM c11 aN)
 ·subst e0;have H23:=a8 H0;obtain rfl:=sI H23;exact pR 3 [r0 [.v,.e (nI x0.length),.v,.v]] [] [] (aT (aC (aV ab x0) aN))
noncomputable def cr (x0:List (ai×(List ai))) (x1 x2:List (ai×(List Int))):Option ((List aa)×Int) :=
 uC (σ:=(List aa)) (ε:=Empty) (β:=((List aa)×Int)) x0 (fun e0 s0 =>
  (gv (dy [] e0.1 x1) (dy [] e0.1 x2)).bind fun y0 =>
  bif (y0.2==0) then (
   bif (y0.1==0) then (
    some (.go s0)
   ) else (
    bR ((s0.length+1)*32≤140737488355328) <|
    some (.go (s0++[(aa.mk y0.1 e0.2)]))
   )
  ) else (
   some (.ret ([],3))
  )
 ) [] (fun s0 =>
  (ka (fun x=>x.Vars) s0).bind fun y1 =>
  (bp y1).bind fun y2 =>
  bif y2 then (
   some (y1,0)
  ) else (
   some ([],3)
  )
 )
def eU (x0:List (ai×(List ai))) (x1 x2:List (ai×(List Int))) (i0:List Nat) (s0:List aa):AS:=⟨45,[(1,.hptr 1 0),(2,.eslice),(3,iI 0),(4,.rslice 38),(11,.hptr 11 0)],[(1,.cells 90 [.dmap (x0.map (bA az)),.dmap (x1.map (bA ay)),.dmap (x2.map (bA ay))]),(11,.iter (x0.map (bA az)) i0),(38,.row 67 2 (s0.map ab))]⟩
theorem ij (x0:List (ai×(List ai))) (x1 x2:List (ai×(List Int))) (r:(List aa)×Int) (H:cr x0 x1 x2=some r):bD Tryz.prog 54 [.agg [.amap 1000,.amap 1001,.amap 1002]] [(1000,.smap 9 49 (x0.map (bA az))),(1001,.rmap 3 1 (dG ag x1)),(1002,.rmap 3 1 (dG ag x2))] (fun r2 h0=>r2=(.tup [dS ab r.1,iI r.2])∧h0=[]):=by
 unfold cr at H;refine aX Tryz.func54 45 [.tmp 2,.tmp 3] ?_;refine pA 8 [r0 [.m,.v,.v],V1,r0 [.v,.v,.fr 1001,.rwT 0 (.agg [.amap 1000,.dmap (x1.map (bA ay)),.amap 1002]),.rwH 1 (.cells 90 [.amap 1000,.dmap (x1.map (bA ay)),.amap 1002]),.fr 1002,.rwT 0 (.agg [.amap 1000,.dmap (x1.map (bA ay)),.dmap (x2.map (bA ay))]),.rwH 1 (.cells 90 [.amap 1000,.dmap (x1.map (bA ay)),.dmap (x2.map (bA ay))]),.fm 1000,.m]] [.er 4 38 67 2,.only [1,2,3,4,11] [1,11,38]] 8 [] (eU x0 x1 x2 [] []) (aC (DQ ag x1) (aC (congrArg (fun x:List (List UInt8×AV)=>AV.agg [.amap 1000,.dmap x,.amap 1002]) (tX ag x1)) (aC (congrArg (fun x:List (List UInt8×AV)=>AO.cells 90 [.amap 1000,.dmap x,.amap 1002]) (tX ag x1)) (aC (DQ ag x2) (aC (congrArg (fun x:List (List UInt8×AV)=>AV.agg [.amap 1000,.dmap (x1.map (bA ay)),.dmap x]) (tX ag x2)) (aC (congrArg (fun x:List (List UInt8×AV)=>AO.cells 90 [.amap 1000,.dmap (x1.map (bA ay)),.dmap x]) (tX ag x2)) (aC (Hd wh x0) aN))))))) ?_;refine Hq (cc:=az) 11 (eU x0 x1 x2) (by kernel_rfl) H [.v] (fun i0 s0=>⟨by kernel_rfl,by kernel_rfl⟩) (fun i0 s0=>⟨45,[(1,.hptr 1 0),(2,.eslice),(3,iI 0),(4,.rslice 38),(11,.hptr 11 0),(12,.tup [.bool false]),(13,.bool false)],[(1,.cells 90 [.dmap (x0.map (bA az)),.dmap (x1.map (bA ay)),.dmap (x2.map (bA ay))]),(11,.iter (x0.map (bA az)) i0),(38,.row 67 2 (s0.map ab))]⟩) (fun i0 s0=>by kernel_rfl) (fun i0 s0 n0 e0=>⟨45,[(1,.hptr 1 0),(2,.eslice),(3,iI 0),(4,.rslice 38),(11,.hptr 11 0),(12,.tup [.bool true,.str e0.1,dS aj e0.2]),(13,.bool true)],[(1,.cells 90 [.dmap (x0.map (bA az)),.dmap (x1.map (bA ay)),.dmap (x2.map (bA ay))]),(11,.iter (x0.map (bA az)) (i0++[n0])),(38,.row 67 2 (s0.map ab))]⟩) (fun i0 s0 n0 e0=>by kernel_rfl) (fun i0 s0 H0 => ?_) (fun i0 s0 n0 e0 h1 q0 h2 h3 => ?_)
 ·refine aS H0 fun y1 h4 H1 => ?_;refine aS H1 fun y2 h5 H2 => ?_;refine a7 H2 (fun c0 H3 => ?_) (fun c1 H4 => ?_)
  ·obtain rfl:=sI H3;exact pR 14 [r0 [.v,.hR [(38,1000)] 40 (.tup []) [(1000,.row 67 2 (y1.map ab))]],r0 [.v,.c false (.bool y2),.v],.eqT 43 (.bool false),V3] [.fz 38] [] (aC Tryz.call85 (aC (tt ab (fun x=>x.Vars) (fun x=>x.Coef) (fun _=>rfl) s0 y1 h4) (aC Tryz.call27 (aF (ba _ _ h5) (aT (aM c0 aN))))))
  ·obtain rfl:=sI H4;exact pR 13 [r0 [.v,.hR [(38,1000)] 40 (.tup []) [(1000,.row 67 2 (y1.map ab))]],r0 [.v,.c false (.bool y2),.v],.eqT 43 (.bool true),V2] [.wk 2 []] [] (aC Tryz.call85 (aC (tt ab (fun x=>x.Vars) (fun x=>x.Coef) (fun _=>rfl) s0 y1 h4) (aC Tryz.call27 (aF (ba _ _ h5) (aT (aM c1 aN))))))
 ·refine aS h2 fun y0 h6 H5 => ?_;refine pA 11 [r0 [.en n0 (.tup [.str e0.1,dS aj e0.2]),.v,.v,.v,.v],r0 [.v,.v,.v,.l (.dslice ((dy [] e0.1 x1).map ag)),.v,.v,.v,.l (.dslice ((dy [] e0.1 x2).map ag)),.c true (.tup [iI y0.1,iI y0.2]),.v,.v,.v,.v,.v],V2] [.only [1,2,3,4,6,7,11,30] [1,11,38]] 11 [true] ⟨45,[(1,.hptr 1 0),(2,.eslice),(3,iI 0),(4,.rslice 38),(6,dS aj e0.2),(7,iI y0.1),(11,.hptr 11 0),(30,.bool (y0.2 != 0))],[(1,.cells 90 [.dmap (x0.map (bA az)),.dmap (x1.map (bA ay)),.dmap (x2.map (bA ay))]),(11,.iter (x0.map (bA az)) (i0++[n0])),(38,.row 67 2 (s0.map ab))]⟩ (aC (Ec i0 n0) (aC (Kc (cc:=az) h1) (aC (pj (c:=ay) e0.1 [] x1) (aC (pj (c:=ay) e0.1 [] x2) (aC Tryz.call84 (aF (wU _ _ _ h6) aN)))))) ?_;refine a7 H5 (fun c2 H6 => ?_) (fun c3 H7 => ?_)
  ·refine a7 H6 (fun c4 H8 => ?_) (fun c5 H9 => ?_)
   ·obtain rfl:=sI H8;exact pB 8 [.eqT 30 (.bool false),V2,.eqT 32 (.bool false)] [.only [1,2,3,4,11] [1,11,38]] (eU x0 x1 x2 (i0++[n0]) s0) (aM c2 (aM c4 aN))
   ·refine aR H9 fun g0 H10 => ?_;obtain rfl:=sI H10;exact pB 8 [.eqT 30 (.bool false),V2,.eqT 32 (.bool true),r0 [.v,.v,.v,.b,.b,.ap,.rwH 38 (.row 67 2 ((s0++[(aa.mk y0.1 e0.2)]).map ab)),.v]] [.only [1,2,3,4,11] [1,11,38]] (eU x0 x1 x2 (i0++[n0]) (s0++[(aa.mk y0.1 e0.2)])) (aM c2 (aM c5 (aJ (qw (c:=ab) fK s0 [(aa.mk y0.1 e0.2)] 32 (by decide) (by simpa using g0)) (aC (rO 67 2 ab s0 [(aa.mk y0.1 e0.2)]) aN))))
  ·obtain rfl:=sI H7;obtain rfl:=sI (GS h3);exact pR 5 [.eqT 30 (.bool true),V2] [.wk 2 []] [] (aM c3 aN)
noncomputable def dT (x0:Linear):Option ((List aa)×Int) :=
 (eS x0).bind fun y0 =>
 bif y0 then (
  (cX).bind fun y1 =>
  (b7 [] x0.Const 1 y1.1 y1.2.1 y1.2.2).bind fun y2 =>
  (cV (σ:=((List (ai×(List Int)))×(List (ai×(List Int)))×(List (ai×(List ai))))) (ε:=((List (ai×(List Int)))×(List (ai×(List Int)))×(List (ai×(List ai))))) (ρ:=Empty) (fun i0 s0 =>
   (b7 [((x0.Terms.getD i0 ⟨[],0⟩).Var)] ((x0.Terms.getD i0 ⟨[],0⟩).C) 1 s0.2.2 s0.1 s0.2.1).bind fun y3 =>
   some (.go (y3.2.1,y3.2.2,y3.1))
  ) (fun i0 s0=>(s0.1,s0.2.1,s0.2.2)) (x0.Terms.length-0) 0 (y2.2.1,y2.2.2,y2.1)).bind <| dJ fun u0 =>
  (cr u0.2.2 u0.1 u0.2.1).bind fun y4 =>
  some (y4.1,y4.2)
 ) else (
  some ([],1)
 )
def qf (x0:Linear) (i0:Nat) (s0:(List (ai×(List Int)))×(List (ai×(List Int)))×(List (ai×(List ai)))):AS:=⟨34,[(2,.eslice),(3,iI 0),(4,.hptr 4 0),(16,dS aY x0.Terms),(17,nI x0.Terms.length),(18,nI i0)],[(4,.cells 90 [.amap 900,.amap 901,.amap 902]),(900,.smap 9 49 (s0.2.2.map (bA az))),(901,.rmap 3 1 (dG ag s0.1)),(902,.rmap 3 1 (dG ag s0.2.1))]⟩
def uY (u1:(List (ai×(List Int)))×(List (ai×(List Int)))×(List (ai×(List ai)))):AS:=⟨34,[(2,.eslice),(3,iI 0),(4,.hptr 4 0)],[(4,.cells 90 [.amap 900,.amap 901,.amap 902]),(900,.smap 9 49 (u1.2.2.map (bA az))),(901,.rmap 3 1 (dG ag u1.1)),(902,.rmap 3 1 (dG ag u1.2.1))]⟩
theorem ph (x0:Linear) (r:(List aa)×Int) (H:dT x0=some r):bF Tryz.prog 24 [.agg [iI x0.Const,dS aY x0.Terms]] (.tup [dS ab r.1,iI r.2]):=by
 unfold dT at H;refine aX Tryz.func24 34 [.tmp 2,.tmp 3] ?_;refine aS H fun y0 h0 H0 => ?_;refine a7 H0 (fun c0 H1 => ?_) (fun c1 H2 => ?_)
 ·refine aS H1 fun y1 h1 H3 => ?_;refine aS H3 fun y2 h2 H4 => ?_;refine pA 16 [r0 [.m,.v,.v],r0 [.v,.c true (.bool y0),.v],.eqT 9 (.bool false),r0 [.hM [] [(1,900),(2,901),(3,902)] (.agg [.amap 1,.amap 2,.amap 3]) [(1,.smap 9 49 (y1.1.map (bA az))),(2,.rmap 3 1 (dG ag y1.2.1)),(3,.rmap 3 1 (dG ag y1.2.2))],.m,.m],r0 [.v,.v,.v,.hR [(900,1000),(901,1001),(902,1002)] 14 (.tup []) [(1000,.smap 9 49 (y2.1.map (bA az))),(1001,.rmap 3 1 (dG ag y2.2.1)),(1002,.rmap 3 1 (dG ag y2.2.2))]],r0 [.v,.v,.e (nI x0.Terms.length),.v]] [.only [2,3,4,16,17,18] [4,900,901,902]] 15 [false] (qf x0 0 (y2.2.1,y2.2.2,y2.1)) (aC Tryz.call51 (aF (n5 _ _ h0) (aT (aM c0 (aC Tryz.call52 (aC (l9 _ h1) (aC Tryz.call53 (aC (bD.es (args:=[.agg [.amap 1000,.amap 1001,.amap 1002],.eslice,iI x0.Const,iI 1]) 1 (ik _ _ _ _ _ _ _ h2) rfl) (aT (aC (aV aY x0.Terms) aN)))))))))) ?_;refine aS H4 fun R0 h3 H5 => ?_;refine pJ 1 (uY) R0 ?_ (fun u0 e0 => ?_)
  ·refine pC (qf x0) h3 (fun i0 s0 h4 e1 => ?_) (fun i0 s0 h5 q0 h6 h7 => ?_)
   ·have c2:=lF i0 x0.Terms.length (by omega);subst e1;exact pB 5 [r0 [.e (.bool false)]] [.only [2,3,4] [4,900,901,902]] (uY (s0.1,s0.2.1,s0.2.2)) (aB c2 aN)
   ·have c3:=lT i0 x0.Terms.length (by omega);refine aS h6 fun y3 h8 H6 => ?_;refine bB 16 (ps:=[(x0.Terms.map aY).length≤9223372036854775807]) (by kernel_rfl) (fun l0 => ?_);have l1:x0.Terms.length≤9223372036854775807:=by simpa only [br,KP] using l0
    clear l0;obtain rfl:=sI H6;exact pB 11 [r0 [.e (.bool true)],r0 [.e (.dptr (aY (x0.Terms.getD i0 ⟨[],0⟩))),.v,.m,.m],r0 [.v,.v,.v,.b,.v,.v,.hR [(900,1000),(901,1001),(902,1002)] 28 (.tup []) [(1000,.smap 9 49 (y3.1.map (bA az))),(1001,.rmap 3 1 (dG ag y3.2.1)),(1002,.rmap 3 1 (dG ag y3.2.2))]],V2] [.only [2,3,4,16,17,18] [4,900,901,902]] (qf x0 (i0+1) (y3.2.1,y3.2.2,y3.1)) (aB c3 (aI eG x0.Terms i0 ⟨[],0⟩ (aC Tryz.call53 (aC (ik _ _ _ _ _ _ _ h8) (aH i0 aN)))))
  ·subst e0;have H7:=bI H5;refine aS H7 fun y4 h9 H8 => ?_;obtain rfl:=sI H8;exact pR 3 [r0 [.v,.hR [(900,1000),(901,1001),(902,1002)] 31 (.tup [dS ab y4.1,iI y4.2]) [],.v,.v,.v,.v]] [] [] (aC Tryz.call54 (aC (ij _ _ _ _ h9) aN))
 ·obtain rfl:=sI H2;exact pR 10 [r0 [.m,.v,.v],r0 [.v,.c true (.bool y0),.v],.eqT 9 (.bool true),V2] [.wk 2 []] [] (aC Tryz.call51 (aF (n5 _ _ h0) (aT (aM c1 aN))))
def ep (x0 x1:aa) (x2:List (ai×(List ai))) (x3 x4:List (ai×(List Int))):Option ((List (ai×(List ai)))×(List (ai×(List Int)))×(List (ai×(List Int)))) :=
 (gC [x0.Vars,x1.Vars]).bind fun y0 =>
 (b7 y0 x0.Coef x1.Coef x2 x3 x4).bind fun y1 =>
 some (y1.1,y1.2.1,y1.2.2)
theorem zf (x0 x1:aa) (x2:List (ai×(List ai))) (x3 x4:List (ai×(List Int))) (r:(List (ai×(List ai)))×(List (ai×(List Int)))×(List (ai×(List Int)))) (H:ep x0 x1 x2 x3 x4=some r):bD Tryz.prog 64 [.agg [iI x0.Coef,dS aj x0.Vars],.agg [iI x1.Coef,dS aj x1.Vars],.hptr 1000 0] [(1000,.cells 90 [.amap 1001,.amap 1002,.amap 1003]),(1001,.smap 9 49 (x2.map (bA az))),(1002,.rmap 3 1 (dG ag x3)),(1003,.rmap 3 1 (dG ag x4))] (fun r2 h0=>r2=(.tup [])∧h0=[(1000,.cells 90 [.amap 1001,.amap 1002,.amap 1003]),(1001,.smap 9 49 (r.1.map (bA az))),(1002,.rmap 3 1 (dG ag r.2.1)),(1003,.rmap 3 1 (dG ag r.2.2))]):=by unfold ep at H;refine aX Tryz.func64 17 [] ?_;refine aS H fun y0 h1 H0 => ?_;refine aS H0 fun y1 h2 H1 => ?_;obtain rfl:=sI H1;exact pR 3 [r0 [.m,.m],.rg 11 (V 5 [.b,.c true (dS aj y0),.v,.v,.v,.v]) [.hR [(1001,1000),(1002,1001),(1003,1002)] 16 (.tup []) [(1000,.smap 9 49 (y1.1.map (bA az))),(1001,.rmap 3 1 (dG ag y1.2.1)),(1002,.rmap 3 1 (dG ag y1.2.2))]]] [] [1000,1001,1002,1003] (aC Tryz.call65 (aF (wL aj [x0.Vars,x1.Vars] dQ y0 h1) (aC Tryz.call53 (aC (ik _ _ _ _ _ _ _ h2) aN))))
def bq (x0 x1:List aa) (x2:List (ai×(List ai))) (x3 x4:List (ai×(List Int))):Option ((List (ai×(List ai)))×(List (ai×(List Int)))×(List (ai×(List Int)))) :=
 (cV (σ:=((List (ai×(List ai)))×(List (ai×(List Int)))×(List (ai×(List Int))))) (ε:=((List (ai×(List ai)))×(List (ai×(List Int)))×(List (ai×(List Int))))) (ρ:=((List (ai×(List ai)))×(List (ai×(List Int)))×(List (ai×(List Int))))) (fun i0 s0 =>
  (cV (σ:=((List (ai×(List ai)))×(List (ai×(List Int)))×(List (ai×(List Int))))) (ε:=((List (ai×(List ai)))×(List (ai×(List Int)))×(List (ai×(List Int))))) (ρ:=Empty) (fun i1 s1 =>
   (ep (aa.mk ((x0.getD i0 ⟨0,[]⟩).Coef) ((x0.getD i0 ⟨0,[]⟩).Vars)) (aa.mk ((x1.getD i1 ⟨0,[]⟩).Coef) ((x1.getD i1 ⟨0,[]⟩).Vars)) s1.1 s1.2.1 s1.2.2).bind fun y0 =>
   some (.go (y0.1,y0.2.1,y0.2.2))
  ) (fun i1 s1=>(s1.1,s1.2.1,s1.2.2)) (x1.length-0) 0 (s0.1,s0.2.1,s0.2.2)).bind <| dJ fun u0 =>
  some (.go (u0.1,u0.2.1,u0.2.2))
 ) (fun i0 s0=>(s0.1,s0.2.1,s0.2.2)) (x0.length-0) 0 (x2,x3,x4)).bind <| aft some
def dE (x0 x1:List aa) (i0:Nat) (s0:(List (ai×(List ai)))×(List (ai×(List Int)))×(List (ai×(List Int)))):AS:=⟨28,[(1,dS ab x1),(2,.fn 64 [.hptr 1000 0]),(10,dS ab x0),(11,nI x0.length),(12,nI i0)],[(1000,.cells 90 [.amap 1001,.amap 1002,.amap 1003]),(1001,.smap 9 49 (s0.1.map (bA az))),(1002,.rmap 3 1 (dG ag s0.2.1)),(1003,.rmap 3 1 (dG ag s0.2.2))]⟩
def dF (x0 x1:List aa) (i0 i1:Nat) (s1:(List (ai×(List ai)))×(List (ai×(List Int)))×(List (ai×(List Int)))):AS:=⟨28,[(1,dS ab x1),(2,.fn 64 [.hptr 1000 0]),(7,.hptr 7 0),(10,dS ab x0),(11,nI x0.length),(12,nI i0),(16,dS ab x1),(17,nI x1.length),(18,nI i1)],[(7,.cells 67 [iI ((x0.getD i0 ⟨0,[]⟩).Coef),.dslice (((x0.getD i0 ⟨0,[]⟩).Vars).map aj)]),(1000,.cells 90 [.amap 1001,.amap 1002,.amap 1003]),(1001,.smap 9 49 (s1.1.map (bA az))),(1002,.rmap 3 1 (dG ag s1.2.1)),(1003,.rmap 3 1 (dG ag s1.2.2))]⟩
def fC (x0 x1:List aa) (i0:Nat) (u1:(List (ai×(List ai)))×(List (ai×(List Int)))×(List (ai×(List Int)))):AS:=⟨28,[(1,dS ab x1),(2,.fn 64 [.hptr 1000 0]),(10,dS ab x0),(11,nI x0.length),(12,nI i0)],[(1000,.cells 90 [.amap 1001,.amap 1002,.amap 1003]),(1001,.smap 9 49 (u1.1.map (bA az))),(1002,.rmap 3 1 (dG ag u1.2.1)),(1003,.rmap 3 1 (dG ag u1.2.2))]⟩
theorem kS (x0 x1:List aa) (x2:List (ai×(List ai))) (x3 x4:List (ai×(List Int))) (r:(List (ai×(List ai)))×(List (ai×(List Int)))×(List (ai×(List Int)))) (H:bq x0 x1 x2 x3 x4=some r):bD Tryz.prog 63 [dS ab x0,dS ab x1,.fn 64 [.hptr 1000 0]] [(1000,.cells 90 [.amap 1001,.amap 1002,.amap 1003]),(1001,.smap 9 49 (x2.map (bA az))),(1002,.rmap 3 1 (dG ag x3)),(1003,.rmap 3 1 (dG ag x4))] (fun r2 h0=>r2=(.tup [])∧h0=[(1000,.cells 90 [.amap 1001,.amap 1002,.amap 1003]),(1001,.smap 9 49 (r.1.map (bA az))),(1002,.rmap 3 1 (dG ag r.2.1)),(1003,.rmap 3 1 (dG ag r.2.2))]):=by
 unfold bq at H;refine aX Tryz.func63 28 [] ?_;refine pA 3 [r0 [.v,.e (nI x0.length),.v]] [.only [1,2,10,11,12] [1000,1001,1002,1003]] 3 [] (dE x0 x1 0 (x2,x3,x4)) (aT (aC (aV ab x0) aN)) ?_;refine aS H fun R0 h1 H0 => ?_;refine pC (dE x0 x1) h1 (fun i0 s0 h2 e0 => ?_) (fun i0 s0 h3 q0 h4 h5 => ?_)
 ·have c0:=lF i0 x0.length (by omega);subst e0;obtain rfl:=sI (a8 H0);exact pR 5 [r0 [.e (.bool false)]] [] [1000,1001,1002,1003] (aB c0 aN)
 ·have c1:=lT i0 x0.length (by omega);refine pA 12 [r0 [.e (.bool true)],r0 [.e (.dptr (ab (x0.getD i0 ⟨0,[]⟩))),.v,.m,.m],r0 [.v,.e (nI x1.length),.v]] [.only [1,2,7,10,11,12,16,17,18] [7,1000,1001,1002,1003]] 12 [true] (dF x0 x1 i0 0 (s0.1,s0.2.1,s0.2.2)) (aB c1 (aI aw x0 i0 ⟨0,[]⟩ (aT (aC (aV ab x1) aN)))) ?_;refine aS h4 fun R1 h6 H1 => ?_;refine pJ 2 (fC x0 x1 i0) R1 ?_ (fun u0 e1 => ?_)
  ·refine pC (dF x0 x1 i0) h6 (fun i1 s1 h7 e2 => ?_) (fun i1 s1 h8 q1 h9 h10 => ?_)
   ·have c2:=lF i1 x1.length (by omega);subst e2;exact pB 5 [r0 [.e (.bool false)]] [.only [1,2,10,11,12] [1000,1001,1002,1003]] (fC x0 x1 i0 (s1.1,s1.2.1,s1.2.2)) (aB c2 aN)
   ·have c3:=lT i1 x1.length (by omega);refine aS h9 fun y0 h11 H2 => ?_;refine bB 1 (ps:=[(x1.map ab).length≤9223372036854775807]) (by kernel_rfl) (fun l0 => ?_);have l1:x1.length≤9223372036854775807:=by simpa only [br,KP] using l0
    clear l0;obtain rfl:=sI H2;exact pB 11 [r0 [.e (.bool true)],r0 [.e (.dptr (ab (x1.getD i1 ⟨0,[]⟩))),.v,.m,.m],r0 [.v,.v,.v,.hR [(1000,1000),(1001,1001),(1002,1002),(1003,1003)] 25 (.tup []) [(1000,.cells 90 [.amap 1001,.amap 1002,.amap 1003]),(1001,.smap 9 49 (y0.1.map (bA az))),(1002,.rmap 3 1 (dG ag y0.2.1)),(1003,.rmap 3 1 (dG ag y0.2.2))]],V2] [.only [1,2,7,10,11,12,16,17,18] [7,1000,1001,1002,1003]] (dF x0 x1 i0 (i1+1) (y0.1,y0.2.1,y0.2.2)) (aB c3 (aI aw x1 i1 ⟨0,[]⟩ (aC Tryz.call64 (aC (zf _ _ _ _ _ _ h11) (aH i1 aN)))))
  ·subst e1;have H3:=bI H1;refine bB 10 (ps:=[(x0.map ab).length≤9223372036854775807]) (by kernel_rfl) (fun l2 => ?_);have l3:x0.length≤9223372036854775807:=by simpa only [br,KP] using l2
   clear l2;obtain rfl:=sI H3;exact pB 1 [V2] [.only [1,2,10,11,12] [1000,1001,1002,1003]] (dE x0 x1 (i0+1) (u0.1,u0.2.1,u0.2.2)) (aH i0 aN)
noncomputable def fc (x0 x1:List aa):Option ((List aa)×Int) :=
 (cX).bind fun y0 =>
 (bq x0 x1 y0.1 y0.2.1 y0.2.2).bind fun y1 =>
 (cr y1.1 y1.2.1 y1.2.2).bind fun y2 =>
 some (y2.1,y2.2)
theorem qv (x0 x1:List aa) (r:(List aa)×Int) (H:fc x0 x1=some r):bF Tryz.prog 29 [dS ab x0,dS ab x1] (.tup [dS ab r.1,iI r.2]):=by unfold fc at H;refine aX Tryz.func29 16 [.tmp 4,.tmp 5] ?_;refine aS H fun y0 h0 H0 => ?_;refine aS H0 fun y1 h1 H1 => ?_;refine aS H1 fun y2 h2 H2 => ?_;obtain rfl:=sI H2;exact pR 9 [V2,r0 [.hM [] [(1,900),(2,901),(3,902)] (.agg [.amap 1,.amap 2,.amap 3]) [(1,.smap 9 49 (y0.1.map (bA az))),(2,.rmap 3 1 (dG ag y0.2.1)),(3,.rmap 3 1 (dG ag y0.2.2))],.m,.m],r0 [.v,.v,.v,.hR [(6,1000),(900,1001),(901,1002),(902,1003)] 11 (.tup []) [(1000,.cells 90 [.amap 1001,.amap 1002,.amap 1003]),(1001,.smap 9 49 (y1.1.map (bA az))),(1002,.rmap 3 1 (dG ag y1.2.1)),(1003,.rmap 3 1 (dG ag y1.2.2))]],r0 [.v,.hR [(900,1000),(901,1001),(902,1002)] 13 (.tup [dS ab y2.1,iI y2.2]) [],.v,.v,.v,.v]] [] [] (aC Tryz.call52 (aC (l9 _ h0) (aC Tryz.call63 (aC (kS _ _ _ _ _ _ h1) (aC Tryz.call54 (aC (ij _ _ _ _ h2) aN))))))
noncomputable def gX (x0:List Linear):Option ((List aa)×Int) :=
 (cV (σ:=(List (List aa))) (ε:=(List (List aa))) (ρ:=((List aa)×Int)) (fun i0 s0 =>
  (dT (Linear.mk ((x0.getD i0 ⟨0,[]⟩).Const) ((x0.getD i0 ⟨0,[]⟩).Terms))).bind fun y0 =>
  bif (y0.2==0) then (
   bR ((s0.length+1)*24≤140737488355328) <|
   some (.go (s0++[y0.1]))
  ) else (
   some (.ret ([],y0.2))
  )
 ) (fun i0 s0=>s0) (x0.length-0) 0 []).bind <| aft fun u0 =>
 (cV (σ:=(List aa)) (ε:=(List aa)) (ρ:=((List aa)×Int)) (fun i1 s1 =>
  (fc s1 (u0.getD i1 [])).bind fun y1 =>
  bif (y1.2==0) then (
   some (.go y1.1)
  ) else (
   some (.ret ([],y1.2))
  )
 ) (fun i1 s1=>s1) (u0.length-0) 0 [(aa.mk 1 [])]).bind <| aft fun u1 =>
 some (u1,0)
def jI (x0:List Linear) (i0:Nat) (s0:List (List aa)):AS:=⟨53,[(2,.eslice),(3,iI 0),(4,.rslice 31),(14,dS fW x0),(15,nI x0.length),(16,nI i0)],[(31,.row 24 1 (s0.map aL))]⟩
def nM (u2:List (List aa)):AS:=⟨53,[(2,.eslice),(3,iI 0),(4,.rslice 31)],[(31,.row 24 1 (u2.map aL))]⟩
def jL (u0:List (List aa)) (i1:Nat) (s1:List aa):AS:=⟨53,[(2,.eslice),(3,iI 0),(9,dS ab s1),(35,.rslice 31),(36,nI u0.length),(37,nI i1)],[(31,.row 24 1 (u0.map aL))]⟩
def nP (u3:List aa):AS:=⟨53,[(2,.eslice),(3,iI 0),(9,dS ab u3)],[]⟩
theorem uA (x0:List Linear) (r:(List aa)×Int) (H:gX x0=some r):bF Tryz.prog 9 [dS fW x0] (.tup [dS ab r.1,iI r.2]):=by
 unfold gX at H;refine aX Tryz.func9 53 [.tmp 2,.tmp 3] ?_;refine pA 8 [V2,V1,r0 [.v,.e (nI x0.length),.v]] [.er 4 31 24 1,.only [2,3,4,14,15,16] [31]] 8 [] (jI x0 0 []) (aT (aC (aV fW x0) aN)) ?_;refine aS H fun R0 h0 H0 => ?_;refine pJ 1 (nM) R0 ?_ (fun u0 e0 => ?_)
 ·refine pC (jI x0) h0 (fun i0 s0 h1 e1 => ?_) (fun i0 s0 h2 q0 h3 h4 => ?_)
  ·have c0:=lF i0 x0.length (by omega);subst e1;exact pB 5 [r0 [.e (.bool false)]] [.only [2,3,4] [31]] (nM s0) (aB c0 aN)
  ·have c1:=lT i0 x0.length (by omega);refine aS h3 fun y0 h5 H1 => ?_;refine pA 14 [r0 [.e (.bool true)],r0 [.e (.dptr (fW (x0.getD i0 ⟨0,[]⟩))),.v,.m,.m],r0 [.v,.c true (.tup [dS ab y0.1,iI y0.2]),.v,.v,.v,.v,.v],V2] [.only [2,3,4,7,8,14,15,16,26] [31]] 14 [true] ⟨53,[(2,.eslice),(3,iI 0),(4,.rslice 31),(7,dS ab y0.1),(8,iI y0.2),(14,dS fW x0),(15,nI x0.length),(16,nI i0),(26,.bool (y0.2 != 0))],[(31,.row 24 1 (s0.map aL))]⟩ (aB c1 (aI Au x0 i0 ⟨0,[]⟩ (aC Tryz.call24 (aF (ph _ _ h5) aN)))) ?_;refine a7 H1 (fun c2 H2 => ?_) (fun c3 H3 => ?_)
   ·refine aR H2 fun g0 H4 => ?_;refine bB 14 (ps:=[(x0.map fW).length≤9223372036854775807]) (by kernel_rfl) (fun l0 => ?_);have l1:x0.length≤9223372036854775807:=by simpa only [br,KP] using l0
    clear l0;obtain rfl:=sI H4;exact pB 5 [.eqT 26 (.bool false),r0 [.v,.v,.b,.ap,.rwH 31 (.row 24 1 ((s0++[y0.1]).map aL)),.v],V2] [.only [2,3,4,14,15,16] [31]] (jI x0 (i0+1) (s0++[y0.1])) (aM c2 (aJ (qw (c:=aL) tM s0 [y0.1] 24 (by decide) (by simpa using g0)) (aC (rO 24 1 aL s0 [y0.1]) (aH i0 aN))))
   ·obtain rfl:=sI H3;obtain rfl:=aG h4;obtain rfl:=sI (ao H0);exact pR 5 [.eqT 26 (.bool true),V3] [.wk 2 []] [] (aM c3 aN)
 ·subst e0;have H5:=a8 H0;refine pA 6 [r0 [.b,.b,.wk 34 [(0,1)],.v],r0 [.v,.e (nI u0.length),.v]] [.only [2,3,9,35,36,37] [31]] 6 [] (jL u0 0 [(aa.mk 1 [])]) (aT (aC (aV aL u0) aN)) ?_;refine aS H5 fun R1 h6 H6 => ?_;refine pJ 1 (nP) R1 ?_ (fun u1 e2 => ?_)
  ·refine pC (jL u0) h6 (fun i1 s1 h7 e3 => ?_) (fun i1 s1 h8 q1 h9 h10 => ?_)
   ·have c4:=lF i1 u0.length (by omega);subst e3;exact pB 5 [r0 [.e (.bool false)]] [.only [2,3,9] []] (nP s1) (aB c4 aN)
   ·have c5:=lT i1 u0.length (by omega);refine aS h9 fun y1 h11 H7 => ?_;refine pA 14 [r0 [.e (.bool true)],r0 [.v,.rl i1 0 (.dslice ((u0.getD i1 []).map ab)),.v],r0 [.v,.v,.c true (.tup [dS ab y1.1,iI y1.2]),.v,.v,.v,.v,.v],V2] [.only [2,3,9,12,13,35,36,37,48] [31]] 14 [true] ⟨53,[(2,.eslice),(3,iI 0),(9,dS ab s1),(12,dS ab y1.1),(13,iI y1.2),(35,.rslice 31),(36,nI u0.length),(37,nI i1),(48,.bool (y1.2 != 0))],[(31,.row 24 1 (u0.map aL))]⟩ (aB c5 (aC (show (0:Int)≤((i1:Nat):Int)∧((i1:Nat):Int)<((u0.map aL).length:Int) from by rw [KP];omega) (aC (Bz (f:=aL) (l:=u0) (n:=i1) 1 0 1 (by omega) (by decide)) (aC (Bx (f:=aL) (l:=u0) (n:=i1) [] 0 (by omega)) (aC Tryz.call29 (aF (qv _ _ _ h11) aN)))))) ?_;refine a7 H7 (fun c6 H8 => ?_) (fun c7 H9 => ?_)
    ·refine nu 31 (n:=(u0.map aL).length) (by kernel_rfl) (fun l2 => ?_);have l3:u0.length≤9223372036854775807:=by simpa only [KP] using l2
     clear l2;obtain rfl:=sI H8;exact pB 5 [.eqT 48 (.bool false),V2,V2] [.only [2,3,9,35,36,37] [31]] (jL u0 (i1+1) y1.1) (aM c6 (aH i1 aN))
    ·obtain rfl:=sI H9;obtain rfl:=aG h10;obtain rfl:=sI (ao H6);exact pR 5 [.eqT 48 (.bool true),V3] [.wk 2 []] [] (aM c7 aN)
  ·subst e2;have H10:=a8 H6;obtain rfl:=sI H10;exact pR 3 [V3] [] [] aN
def gr (x0:ai):Option (aa×Bool) :=
 (oX x0 [42]).bind fun y0 =>
 (cV (σ:=(Int×(List ai))) (ε:=(Int×(List ai))) (ρ:=(aa×Bool)) (fun i0 s0 =>
  (kD (y0.getD i0 [])).bind fun y1 =>
  ((
   ((
    bif y1.2 then (
     bif (((i0:Nat):Int)==0) then (
      some (.ret (.brk (y1.1,s0.2)))
     ) else (
      some (.brk ())
     )
    ) else (
     some (.brk ())
    )
   ):Option (Out Unit (Out (Int×(List ai)) (eM (Int×(List ai)) (Int×(List ai)) (aa×Bool))))).bind (aft fun u0 =>
    (CX (y0.getD i0 []) [94]).bind fun y2 =>
    ((
     bif y2.2.2 then (
      (kD y2.2.1).bind fun y3 =>
      bif y3.2 then (
       bif decide (y3.1<2) then (
        some (.ret (.ret (.ret ((aa.mk s0.1 s0.2),false))))
       ) else (
        bif decide (y3.1>8) then (
         some (.ret (.ret (.ret ((aa.mk s0.1 s0.2),false))))
        ) else (
         some (.brk y3.1)
        )
       )
      ) else (
       some (.ret (.ret (.ret ((aa.mk s0.1 s0.2),false))))
      )
     ) else (
      some (.brk 1)
     )
    ):Option (Out Int (Out (Int×(List ai)) (eM (Int×(List ai)) (Int×(List ai)) (aa×Bool))))).bind (aft fun u1 =>
     (qG (σ:=(Int×(List ai))) (ε:=(Out (Int×(List ai)) (eM (Int×(List ai)) (Int×(List ai)) (aa×Bool)))) (ρ:=(Out (Int×(List ai)) (eM (Int×(List ai)) (Int×(List ai)) (aa×Bool)))) (fun s1 =>
      bif decide (s1.1<u1) then (
       bR ((s1.2.length+1)*16≤140737488355328) <|
       some (.go ((aW (s1.1+1)),(s1.2++[y2.1])))
      ) else (
       some (.brk (.brk (s0.1,s1.2)))
      )
     ) 4294967296 (0,s0.2)).bind <| aft some
    )
   )
  ):Option (Out (Int×(List ai)) (eM (Int×(List ai)) (Int×(List ai)) (aa×Bool)))).bind (aft fun u2 =>
   some (.go (u2.1,u2.2))
  )
 ) (fun i0 s0=>(s0.1,s0.2)) (y0.length-0) 0 (1,[])).bind <| aft fun u3 =>
 some ((aa.mk u3.1 u3.2),true)
def fj (y0:List ai) (i0:Nat) (s0:Int×(List ai)):AS:=⟨73,[(2,.hptr 2 0),(3,.bool false),(4,.hptr 4 0),(17,dS aj y0),(18,nI y0.length),(19,nI i0)],[(2,.cells 67 [iI 0,.eslice]),(4,.cells 67 [iI s0.1,.rslice 68]),(68,.row 9 1 (s0.2.map aj))]⟩
def iu (u4:Int×(List ai)):AS:=⟨73,[(2,.hptr 2 0),(3,.bool false),(4,.hptr 4 0)],[(2,.cells 67 [iI 0,.eslice]),(4,.cells 67 [iI u4.1,.rslice 68]),(68,.row 9 1 (u4.2.map aj))]⟩
def fi (y0:List ai) (i0:Nat) (u2:Int×(List ai)):AS:=⟨73,[(2,.hptr 2 0),(3,.bool false),(4,.hptr 4 0),(17,dS aj y0),(18,nI y0.length),(19,nI i0)],[(2,.cells 67 [iI 0,.eslice]),(4,.cells 67 [iI u2.1,.rslice 68]),(68,.row 9 1 (u2.2.map aj))]⟩
def fk (y0:List ai) (i0:Nat) (s0:Int×(List ai)) (u0:Unit):AS:=⟨73,[(2,.hptr 2 0),(3,.bool false),(4,.hptr 4 0),(6,.str (y0.getD i0 [])),(17,dS aj y0),(18,nI y0.length),(19,nI i0)],[(2,.cells 67 [iI 0,.eslice]),(4,.cells 67 [iI s0.1,.rslice 68]),(68,.row 9 1 (s0.2.map aj))]⟩
def fo (y0:List ai) (i0:Nat) (s0:Int×(List ai)) (y2:ai×ai×Bool) (u1:Int):AS:=⟨73,[(2,.hptr 2 0),(3,.bool false),(4,.hptr 4 0),(9,.str y2.1),(12,iI u1),(17,dS aj y0),(18,nI y0.length),(19,nI i0)],[(2,.cells 67 [iI 0,.eslice]),(4,.cells 67 [iI s0.1,.rslice 68]),(68,.row 9 1 (s0.2.map aj))]⟩
def fp (y0:List ai) (i0:Nat) (s0:Int×(List ai)) (y2:ai×ai×Bool) (u1:Int) (s1:Int×(List ai)):AS:=⟨73,[(2,.hptr 2 0),(3,.bool false),(4,.hptr 4 0),(9,.str y2.1),(17,dS aj y0),(18,nI y0.length),(19,nI i0),(61,iI u1),(62,iI s1.1)],[(2,.cells 67 [iI 0,.eslice]),(4,.cells 67 [iI s0.1,.rslice 68]),(68,.row 9 1 (s1.2.map aj))]⟩
theorem jv (x0:ai) (r:aa×Bool) (H:gr x0=some r):bF Tryz.prog 56 [.str x0] (.tup [.agg [iI r.1.Coef,dS aj r.1.Vars],.bool r.2]):=by
 unfold gr at H;refine aX Tryz.func56 73 [.cell 2 67,.tmp 3] ?_;refine aS H fun y0 h0 H0 => ?_;refine pA 8 [r0 [.m,.v],r0 [.b,.m,.m],r0 [.v,.c true (dS aj y0),.e (nI y0.length),.v]] [.erH 4 1 68 9 1,.only [2,3,4,17,18,19] [2,4,68]] 8 [] (fj y0 0 (1,[])) (aC Tryz.call91 (aF (AR x0 [42] y0 h0) (aT (aC (aV aj y0) aN)))) ?_;refine aS H0 fun R0 h1 H1 => ?_;refine pJ 1 (iu) R0 ?_ (fun u3 e0 => ?_)
 ·refine pC (fj y0) h1 (fun i0 s0 h2 e1 => ?_) (fun i0 s0 h3 q0 h4 h5 => ?_)
  ·have c0:=lF i0 y0.length (by omega);subst e1;exact pB 5 [r0 [.e (.bool false)]] [.only [2,3,4] [2,4,68]] (iu (s0.1,s0.2)) (aB c0 aN)
  ·have c1:=lT i0 y0.length (by omega);refine aS h4 fun y1 h6 H2 => ?_;refine pA 13 [r0 [.e (.bool true)],r0 [.v,.e (.dptr [.str (y0.getD i0 [])]),.v,.v,.v],r0 [.v,.cf true (.tup [iI y1.1,lQ 191 y1.2]),.v,.v,.v,.v,.v]] [.only [2,3,4,5,6,7,8,17,18,19] [2,4,68]] 13 [true] ⟨73,[(2,.hptr 2 0),(3,.bool false),(4,.hptr 4 0),(5,nI i0),(6,.str (y0.getD i0 [])),(7,iI y1.1),(8,lQ 191 y1.2),(17,dS aj y0),(18,nI y0.length),(19,nI i0)],[(2,.cells 67 [iI 0,.eslice]),(4,.cells 67 [iI s0.1,.rslice 68]),(68,.row 9 1 (s0.2.map aj))]⟩ (aB c1 (aI bb y0 i0 [] (aC Tryz.call92 (aF (nt (y0.getD i0 []) y1 h6) (aC (show qI true (.tup [iI y1.1,lQ 191 y1.2])=true from by cases h7:y1.2<;>rfl) aN))))) ?_;refine aS H2 fun v0 h8 H3 => ?_;refine pJ 3 (fi y0 i0) v0 ?_ (fun u2 e2 => ?_)
   ·refine aS h8 fun v1 h9 H4 => ?_;refine pJ 1 (fk y0 i0 s0) v1 ?_ (fun u0 e3 => ?_)
    ·refine a7 h9 (fun c2 H5 => ?_) (fun c3 H6 => ?_)
     ·refine a7 H5 (fun c4 H7 => ?_) (fun c5 H8 => ?_)
      ·obtain rfl:=sI H7;obtain rfl:=sI (ao H4);exact pB 7 [.eqT 8 (.nilI),V6,.eqT 34 (.bool true),r0 [.v,.v,.m]] [.only [2,3,4,17,18,19] [2,4,68]] (fi y0 i0 (y1.1,s0.2)) (aC (congrArg (lQ 191) c2) (aB c4 aN))
      ·obtain rfl:=sI H8;exact pB 5 [.eqT 8 (.nilI),V6,.eqT 34 (.bool false)] [.only [2,3,4,6,17,18,19] [2,4,68]] (fk y0 i0 s0 ()) (aC (congrArg (lQ 191) c2) (aB c5 aN))
     ·obtain rfl:=sI H6;exact pB 4 [.eqT 8 (.iface 191 (.any)),r0 [.v,.v,.v,.s,.s,.v]] [.only [2,3,4,6,17,18,19] [2,4,68]] (fk y0 i0 s0 ()) (aC (congrArg (lQ 191) c3) aN)
    ·subst e3;have H9:=a8 H4;refine aS H9 fun y2 h10 H10 => ?_;refine pA 7 [r0 [.v,.c true (.tup [.str y2.1,.str y2.2.1,.bool y2.2.2]),.v,.v,.v,.v,.v,.v,.v],V1,V1] [.only [2,3,4,9,10,12,17,18,19,43] [2,4,68]] 7 [] ⟨73,[(2,.hptr 2 0),(3,.bool false),(4,.hptr 4 0),(9,.str y2.1),(10,.str y2.2.1),(12,iI 1),(17,dS aj y0),(18,nI y0.length),(19,nI i0),(43,.bool y2.2.2)],[(2,.cells 67 [iI 0,.eslice]),(4,.cells 67 [iI s0.1,.rslice 68]),(68,.row 9 1 (s0.2.map aj))]⟩ (aC Tryz.call93 (aF (Eu (y0.getD i0 []) [94] y2 h10) aN)) ?_;refine aS H10 fun v2 h11 H11 => ?_;refine pJ 0 (fo y0 i0 s0 y2) v2 ?_ (fun u1 e4 => ?_)
     ·refine a7 h11 (fun c6 H12 => ?_) (fun c7 H13 => ?_)
      ·refine aS H12 fun y3 h12 H14 => ?_;refine a7 H14 (fun c8 H15 => ?_) (fun c9 H16 => ?_)
       ·refine pA 7 [.eqT 43 (.bool true),.rg 0 [] [.v,.cf true (.tup [.int .i64 y3.1,lQ 191 y3.2]),.v,.v,.v,.v,.v],.eqT 14 (.nilI)] [.only [2,3,4,9,12,13,14,17,18,19] [2,4,68]] 5 [true] ⟨73,[(2,.hptr 2 0),(3,.bool false),(4,.hptr 4 0),(9,.str y2.1),(12,.int .i64 1),(13,.int .i64 y3.1),(14,.nilI),(17,.dslice (y0.map aj)),(18,.int .i64 ((y0.length:Nat):Int)),(19,.int .i64 ((i0:Nat):Int))],[(2,.cells 67 [.int .i64 0,.eslice]),(4,.cells 67 [.int .i64 s0.1,.rslice 68]),(68,.row 9 1 (s0.2.map aj))]⟩ (aB c6 (aC Tryz.call92 (aF (nt y2.2.1 y3 h12) (aC (show qI true (.tup [.int .i64 y3.1,lQ 191 y3.2])=true from by cases h7:y3.2<;>rfl) (aC (congrArg (lQ 191) c8) aN))))) ?_;refine a7 H15 (fun c10 H17 => ?_) (fun c11 H18 => ?_)
        ·obtain rfl:=sI H17;obtain rfl:=sI (ao H11);obtain rfl:=sI (ao H3);obtain rfl:=aG h5;obtain rfl:=sI (ao H1);exact pR 5 [r0 (V 4 [.e (.bool true),.v,.v,.s,.s,.v]),r0 [.v,.m,.v]] [.fz 68] [] (aB c10 aN)
        ·refine a7 H18 (fun c12 H19 => ?_) (fun c13 H20 => ?_)
         ·obtain rfl:=sI H19;obtain rfl:=sI (ao H11);obtain rfl:=sI (ao H3);obtain rfl:=aG h5;obtain rfl:=sI (ao H1);exact pR 6 [r0 (V 4 [.e (.bool false),.v,.v,.v,.v,.v]),.eqT 58 (.bool true),r0 [.v,.m,.v]] [.fz 68] [] (aB c11 (aB c12 aN))
         ·obtain rfl:=sI H20;exact pB 5 [r0 (V 4 [.e (.bool false),.v,.v,.v,.v,.v]),.eqT 58 (.bool false),V2] [.only [2,3,4,9,12,17,18,19] [2,4,68]] (fo y0 i0 s0 y2 y3.1) (aB c11 (aB c13 aN))
       ·obtain rfl:=sI H16;obtain rfl:=sI (ao H11);obtain rfl:=sI (ao H3);obtain rfl:=aG h5;obtain rfl:=sI (ao H1);exact pR 12 [.eqT 43 (.bool true),r0 [.v,.cf true (.tup [iI y3.1,lQ 191 y3.2]),.v,.v,.v,.v,.v],.eqT 14 (.iface 191 (.any)),r0 [.v,.v,.v,.s,.s,.v,.v,.s,.s,.v],r0 [.v,.m,.v]] [.fz 68] [] (aB c6 (aC Tryz.call92 (aF (nt y2.2.1 y3 h12) (aC (show qI true (.tup [iI y3.1,lQ 191 y3.2])=true from by cases h7:y3.2<;>rfl) (aC (congrArg (lQ 191) c9) aN)))))
      ·obtain rfl:=sI H13;exact pB 3 [.eqT 43 (.bool false)] [.only [2,3,4,9,12,17,18,19] [2,4,68]] (fo y0 i0 s0 y2 1) (aB c7 aN)
     ·subst e4;have H21:=a8 H11;refine pA 3 [V2] [.only [2,3,4,9,17,18,19,61,62] [2,4,68]] 3 [] (fp y0 i0 s0 y2 u1 (0,s0.2)) aN ?_;refine aS H21 fun R1 h13 H22 => ?_;refine s7 (fp y0 i0 s0 y2 u1) (by kernel_rfl) h13 (fun s1 q1 h14 h15 => ?_)
      ·refine a7 h14 (fun c14 H23 => ?_) (fun c15 H24 => ?_)
       ·refine aR H23 fun g0 H25 => ?_;obtain rfl:=sI H25;exact pB 10 [V1,.eqT 63 (.bool true),r0 [.v,.v,.v,.b,.ap,.rwH 68 (.row 9 1 ((s1.2++[y2.1]).map aj)),.v,.m],r0 [.w,.v]] [.only [2,3,4,9,17,18,19,61,62] [2,4,68]] (fp y0 i0 s0 y2 u1 ((aW (s1.1+1)),(s1.2++[y2.1]))) (aB c14 (aJ (qw (c:=aj) dQ s1.2 [y2.1] 16 (by decide) (by simpa using g0)) (aC (rO 9 1 aj s1.2 [y2.1]) aN)))
       ·obtain rfl:=sI H24;obtain rfl:=eT h15;obtain rfl:=sI (a8 H22);exact pB 6 [V1,.eqT 63 (.bool false)] [.only [2,3,4,17,18,19] [2,4,68]] (fi y0 i0 (s0.1,s1.2)) (aB c15 aN)
   ·subst e2;have H26:=a8 H3;refine bB 17 (ps:=[(y0.map aj).length≤9223372036854775807]) (by kernel_rfl) (fun l0 => ?_);have l1:y0.length≤9223372036854775807:=by simpa only [br,KP] using l0
    clear l0;obtain rfl:=sI H26;exact pB 1 [V2] [.only [2,3,4,17,18,19] [2,4,68]] (fj y0 (i0+1) (u2.1,u2.2)) (aH i0 aN)
 ·subst e0;have H27:=a8 H1;obtain rfl:=sI H27;exact pR 3 [r0 [.v,.m,.v]] [.fz 68] [] aN
def lz (x0:aa):Option ai :=
 ((
  bif ((if (aW (0-x0.Coef))>x0.Coef then (aW (0-x0.Coef)) else x0.Coef)==1) then (
   some (((x0.Vars.length:Nat):Int)==0)
  ) else (
   some true
  )
 ):Option Bool).bind fun v0 =>
 ((
  bif v0 then (
   (gm (if (aW (0-x0.Coef))>x0.Coef then (aW (0-x0.Coef)) else x0.Coef)).bind fun y0 =>
   some [y0]
  ) else (
   some []
  )
 ):Option (List ai)).bind fun v1 =>
 (qG (σ:=((List ai)×Nat)) (ε:=(List ai)) (ρ:=Empty) (fun s0 =>
  bif decide (((s0.2:Nat):Int)<((x0.Vars.length:Nat):Int)) then (
   (cV (σ:=Unit) (ε:=Nat) (ρ:=Empty) (fun i0 s1 =>
    bif ((x0.Vars.getD i0 [])==(x0.Vars.getD s0.2 [])) then (
     some (.go ())
    ) else (
     some (.brk i0)
    )
   ) (fun i0 s1=>i0) (x0.Vars.length-s0.2) s0.2 ()).bind <| dJ fun u0 =>
   ((
    bif decide ((aW (((u0:Nat):Int)-((s0.2:Nat):Int)))>1) then (
     (gm (aW (((u0:Nat):Int)-((s0.2:Nat):Int)))).bind fun y1 =>
     bR ([94].length+y1.length≤9223372036854775807) <|
     bR ((x0.Vars.getD s0.2 []).length+([94]++y1).length≤9223372036854775807) <|
     some ((x0.Vars.getD s0.2 [])++([94]++y1))
    ) else (
     some (x0.Vars.getD s0.2 [])
    )
   ):Option ai).bind fun v2 =>
   bR ((s0.1.length+1)*16≤140737488355328) <|
   some (.go ((s0.1++[v2]),u0))
  ) else (
   some (.brk s0.1)
  )
 ) 4294967296 (v1,0)).bind <| dJ fun u1 =>
 (jq u1 [42]).bind fun y2 =>
 some y2
def iy (x0:aa) (v0:Bool):AS:=⟨76,[(1,.hptr 1 0),(2,.str []),(3,.eslice),(4,iI (if (aW (0-x0.Coef))>x0.Coef then (aW (0-x0.Coef)) else x0.Coef)),(21,.bool v0)],[(1,.cells 67 [iI x0.Coef,dS aj x0.Vars])]⟩
def iN (x0:aa) (v1:List ai):AS:=⟨76,[(1,.hptr 1 0),(2,.str []),(3,.rslice 26)],[(1,.cells 67 [iI x0.Coef,dS aj x0.Vars]),(26,.row 9 1 (v1.map aj))]⟩
def iz (x0:aa) (s0:(List ai)×Nat):AS:=⟨76,[(1,.hptr 1 0),(2,.str []),(3,.rslice 72),(5,nI s0.2)],[(1,.cells 67 [iI x0.Coef,dS aj x0.Vars]),(72,.row 9 1 (s0.1.map aj))]⟩
def mE (u2:List ai):AS:=⟨76,[(2,.str []),(3,.rslice 72)],[(72,.row 9 1 (u2.map aj))]⟩
def iC (x0:aa) (s0:(List ai)×Nat) (i0:Nat) (s1:Unit):AS:=⟨76,[(1,.hptr 1 0),(2,.str []),(3,.rslice 72),(5,nI s0.2),(6,nI i0)],[(1,.cells 67 [iI x0.Coef,dS aj x0.Vars]),(72,.row 9 1 (s0.1.map aj))]⟩
def iL (x0:aa) (s0:(List ai)×Nat) (u3:Nat):AS:=⟨76,[(1,.hptr 1 0),(2,.str []),(3,.rslice 72),(5,nI s0.2),(6,nI u3)],[(1,.cells 67 [iI x0.Coef,dS aj x0.Vars]),(72,.row 9 1 (s0.1.map aj))]⟩
def iv (x0:aa) (s0:(List ai)×Nat) (u0:Nat) (v2:ai):AS:=⟨76,[(1,.hptr 1 0),(2,.str []),(3,.rslice 72),(5,nI s0.2),(6,nI u0),(7,.str v2)],[(1,.cells 67 [iI x0.Coef,dS aj x0.Vars]),(72,.row 9 1 (s0.1.map aj))]⟩
theorem tP (x0:aa) (r:ai) (H:lz x0=some r):bF Tryz.prog 57 [.agg [iI x0.Coef,dS aj x0.Vars]] (.str r):=by
 unfold lz at H;refine aX Tryz.func57 76 [.tmp 2] ?_;refine pA 8 [r0 [.m,.v],V1,r0 (V 4 [.w,.v,.v])] [.only [1,2,3,4] [1]] 8 [] ⟨76,[(1,.hptr 1 0),(2,.str []),(3,.eslice),(4,iI (if (aW (0-x0.Coef))>x0.Coef then (aW (0-x0.Coef)) else x0.Coef))],[(1,.cells 67 [iI x0.Coef,dS aj x0.Vars])]⟩ (aT aN) ?_;refine aS H fun v0 h0 H0 => ?_;refine cQ 0 (iy x0 v0) (by kernel_rfl) ?_ ?_
 ·refine a7 h0 (fun c0 H1 => ?_) (fun c1 H2 => ?_)
  ·obtain rfl:=sI H1;exact pB 1 [r0 [.v,.e (.bool false),.v,.v,.v,.e (nI x0.Vars.length),.v,.v]] [.only [1,2,3,4,21] [1]] (iy x0 (((x0.Vars.length:Nat):Int)==0)) (aM c0 (aT (aC (aV aj x0.Vars) aN)))
  ·obtain rfl:=sI H2;exact pB 1 [r0 [.v,.e (.bool true),.v,.s,.s,.s,.s,.v]] [.only [1,2,3,4,21] [1]] (iy x0 true) (aM c1 aN)
 ·refine aS H0 fun v1 h1 H3 => ?_;refine cQ 0 (iN x0 v1) (by kernel_rfl) ?_ ?_
  ·refine a7 h1 (fun c2 H4 => ?_) (fun c3 H5 => ?_)
   ·refine aS H4 fun y0 h2 H6 => ?_;obtain rfl:=sI H6;exact pB 3 [.eqT 21 (.bool true),r0 [.v,.v,.c true (.str y0),.b,.er 22 26 9 1,.ap,.rwH 26 (.row 9 1 ([y0].map aj)),.v]] [.only [1,2,3] [1,26]] (iN x0 [y0]) (aB c2 (aC Tryz.call94 (aF (p6 (if (aW (0-x0.Coef))>x0.Coef then (aW (0-x0.Coef)) else x0.Coef) y0 h2) (aJ (qw (c:=aj) dQ [] [y0] 16 (by decide) (by simp)) (aC (Kd 9 1 aj [y0]) aN)))))
   ·obtain rfl:=sI H5;exact pB 3 [.eqT 21 (.bool false)] [.er 3 26 9 1,.only [1,2,3] [1,26]] (iN x0 []) (aB c3 aN)
  ·refine pA 4 [.rg 0 [] [.v]] [.ren [(1,1),(26,72)],.only [1,2,3,5] [1,72]] 4 [] (iz x0 (v1,0)) aN ?_;refine aS H3 fun R0 h3 H7 => ?_;refine pJ 1 (mE) R0 ?_ (fun u1 e0 => ?_)
   ·refine s7 (iz x0) (by kernel_rfl) h3 (fun s0 q0 h4 h5 => ?_)
    ·refine a7 h4 (fun c4 H8 => ?_) (fun c5 H9 => ?_)
     ·have c4p:=KM c4;refine pA 11 [r0 [.v,.v,.v,.e (nI x0.Vars.length),.v],.eqT 31 (.bool true),V2] [.only [1,2,3,5,6] [1,72]] 10 [true] (iC x0 s0 s0.2 ()) (aT (aC (aV aj x0.Vars) (aB c4 aN))) ?_;refine aS H8 fun R1 h6 H10 => ?_;refine pJ 1 (iL x0 s0) R1 ?_ (fun u0 e1 => ?_)
      ·refine pC (iC x0 s0) h6 (fun i0 s1 h7 e2 => ?_) (fun i0 s1 h8 q1 h9 h10 => ?_)
       ·have c6:=lF i0 x0.Vars.length (by omega);subst e2;exact pB 5 [.rg 16 [.v,.v,.v,.e (nI x0.Vars.length),.e (.bool false),.v,.s,.s,.s,.s,.s,.s,.s,.s,.s,.s] [.s,.v]] [.only [1,2,3,5,6] [1,72]] (iL x0 s0 i0) (aT (aC (aV aj x0.Vars) (aB c6 aN)))
       ·have c7:=lT i0 x0.Vars.length (by omega);refine pA 3 [.rg 16 [.v,.v,.v,.e (nI x0.Vars.length),.e (.bool true),.v,.v,.v,.v,.e (.dptr [.str (x0.Vars.getD i0 [])]),.v,.v,.v,.v,.e (.dptr [.str (x0.Vars.getD s0.2 [])]),.v] [.v,.v]] [.only [1,2,3,5,6,50] [1,72]] 3 [] ⟨76,[(1,.hptr 1 0),(2,.str []),(3,.rslice 72),(5,nI s0.2),(6,nI i0),(50,.bool ((x0.Vars.getD i0 [])==(x0.Vars.getD s0.2 [])))],[(1,.cells 67 [iI x0.Coef,dS aj x0.Vars]),(72,.row 9 1 (s0.1.map aj))]⟩ (aT (aC (aV aj x0.Vars) (aB c7 (aI bb x0.Vars i0 [] (aJ (ix (f:=aj) (l:=x0.Vars) (n:=s0.2) [] bb (by decide) (by omega)) aN))))) ?_;refine a7 h9 (fun c8 H11 => ?_) (fun c9 H12 => ?_)
        ·refine nc 1 1 (ps:=[(x0.Vars.map aj).length≤9223372036854775807]) (by kernel_rfl) (fun l0 => ?_);have l1:x0.Vars.length≤9223372036854775807:=by simpa only [br,KP] using l0
         clear l0;obtain rfl:=sI H11;exact pB 5 [.eqT 50 (.bool true),V3] [.only [1,2,3,5,6] [1,72]] (iC x0 s0 (i0+1) ()) (aB c8 (aH i0 aN))
        ·obtain rfl:=sI H12;obtain rfl:=eT h10;exact pB 3 [.eqT 50 (.bool false)] [.only [1,2,3,5,6] [1,72]] (iL x0 s0 i0) (aB c9 aN)
      ·subst e1;have H13:=bI H10;refine pA 5 [r0 [.v,.v,.v,.e (.dptr [.str (x0.Vars.getD s0.2 [])]),.v,.v],r0 [.v,.v,.w,.v]] [.only [1,2,3,5,6,7,61] [1,72]] 5 [] ⟨76,[(1,.hptr 1 0),(2,.str []),(3,.rslice 72),(5,nI s0.2),(6,nI u0),(7,.str (x0.Vars.getD s0.2 [])),(61,.bool (decide ((aW (((u0:Nat):Int)-((s0.2:Nat):Int)))>1)))],[(1,.cells 67 [iI x0.Coef,dS aj x0.Vars]),(72,.row 9 1 (s0.1.map aj))]⟩ (aJ (ix (f:=aj) (l:=x0.Vars) (n:=s0.2) [] bb (by decide) (by omega)) aN) ?_;refine aS H13 fun v2 h11 H14 => ?_;refine cQ 0 (iv x0 s0 u0 v2) (by kernel_rfl) ?_ ?_
       ·refine a7 h11 (fun c10 H15 => ?_) (fun c11 H16 => ?_)
        ·refine aS H15 fun y1 h12 H17 => ?_;refine aR H17 fun g0 H18 => ?_;refine aR H18 fun g1 H19 => ?_;obtain rfl:=sI H19;exact pB 3 [.eqT 61 (.bool true),r0 [.v,.v,.v,.w,.c true (.str y1),.v,.v,.v]] [.only [1,2,3,5,6,7] [1,72]] (iv x0 s0 u0 ((x0.Vars.getD s0.2 [])++([94]++y1))) (aB c10 (aC Tryz.call94 (aF (p6 (aW (((u0:Nat):Int)-((s0.2:Nat):Int))) y1 h12) (aC (show [94].length+y1.length≤9223372036854775807 from g0) (aC (show (x0.Vars.getD s0.2 []).length+([94]++y1).length≤9223372036854775807 from g1) aN)))))
        ·obtain rfl:=sI H16;exact pB 3 [.eqT 61 (.bool false)] [.only [1,2,3,5,6,7] [1,72]] (iv x0 s0 u0 (x0.Vars.getD s0.2 [])) (aB c11 aN)
       ·refine aR H14 fun g2 H20 => ?_;obtain rfl:=sI H20;exact pB 3 [r0 [.v,.v,.b,.ap,.rwH 72 (.row 9 1 ((s0.1++[v2]).map aj)),.v],V2] [.only [1,2,3,5] [1,72]] (iz x0 ((s0.1++[v2]),u0)) (aJ (qw (c:=aj) dQ s0.1 [v2] 16 (by decide) (by simpa using g2)) (aC (rO 9 1 aj s0.1 [v2]) aN))
     ·obtain rfl:=sI H9;obtain rfl:=eT h5;exact pB 6 [r0 [.v,.v,.v,.e (nI x0.Vars.length),.v],.eqT 31 (.bool false)] [.only [2,3] [72]] (mE s0.1) (aT (aC (aV aj x0.Vars) (aB c5 aN)))
   ·subst e0;have H21:=bI H7;refine aS H21 fun y2 h13 H22 => ?_;refine cC H22 fun e3 => ?_;subst e3;exact pR 3 [r0 [.v,.c false (.str y2),.v]] [] [] (aC Tryz.call83 (aF (uW u1 [42] y2 h13) aN))
def ke (x0:List aa):Option ai :=
 (bp x0).bind fun y0 =>
 bif y0 then (
  (cV (σ:=ai) (ε:=ai) (ρ:=Empty) (fun i0 s0 =>
   ((
    bif decide (((x0.getD i0 ⟨0,[]⟩).Coef)<0) then (
     bR (s0.length+[45].length≤9223372036854775807) <|
     some (s0++[45])
    ) else (
     bif (s0==[]) then (
      some s0
     ) else (
      bR (s0.length+[43].length≤9223372036854775807) <|
      some (s0++[43])
     )
    )
   ):Option ai).bind fun v0 =>
   (lz (aa.mk ((x0.getD i0 ⟨0,[]⟩).Coef) ((x0.getD i0 ⟨0,[]⟩).Vars))).bind fun y1 =>
   bR (v0.length+y1.length≤9223372036854775807) <|
   some (.go (v0++y1))
  ) (fun i0 s0=>s0) (x0.length-0) 0 []).bind <| dJ fun u0 =>
  bif (u0==[]) then (
   some [48]
  ) else (
   some u0
  )
 ) else (
  some []
 )
def lU (x0:List aa) (i0:Nat) (s0:ai):AS:=⟨34,[(2,.str []),(3,.str s0),(9,dS ab x0),(10,nI x0.length),(11,nI i0)],[]⟩
def pT (u1:ai):AS:=⟨34,[(2,.str []),(3,.str u1)],[]⟩
def iS (x0:List aa) (i0:Nat) (v0:ai):AS:=⟨34,[(2,.str []),(3,.str v0),(5,.hptr 5 0),(9,dS ab x0),(10,nI x0.length),(11,nI i0)],[(5,.cells 67 [iI ((x0.getD i0 ⟨0,[]⟩).Coef),.dslice (((x0.getD i0 ⟨0,[]⟩).Vars).map aj)])]⟩
theorem gV (x0:List aa) (r:ai) (H:ke x0=some r):bF Tryz.prog 26 [dS ab x0] (.str r):=by
 unfold ke at H;refine aX Tryz.func26 34 [.tmp 2] ?_;refine aS H fun y0 h0 H0 => ?_;refine a7 H0 (fun c0 H1 => ?_) (fun c1 H2 => ?_)
 ·refine pA 14 [.rg 0 [] [.v],.rg 0 [] [.v,.c true (.bool y0),.v],.eqT 8 (.bool false),.rg 0 [] [.v],.rg 0 [] [.v,.e (.int .i64 ((x0.length:Nat):Int)),.v]] [.only [2,3,9,10,11] []] 13 [false] (lU x0 0 []) (aC Tryz.call27 (aF (ba _ _ h0) (aT (aM c0 (aT (aC (aV ab x0) aN)))))) ?_;refine aS H1 fun R0 h1 H3 => ?_;refine pJ 1 (pT) R0 ?_ (fun u0 e0 => ?_)
  ·refine pC (lU x0) h1 (fun i0 s0 h2 e1 => ?_) (fun i0 s0 h3 q0 h4 h5 => ?_)
   ·have c2:=lF i0 x0.length (by omega);subst e1;exact pB 5 [r0 [.e (.bool false)]] [.only [2,3] []] (pT s0) (aB c2 aN)
   ·have c3:=lT i0 x0.length (by omega);refine pA 13 [r0 [.e (.bool true)],r0 [.e (.dptr (ab (x0.getD i0 ⟨0,[]⟩))),.v,.m,.m],V4] [.only [2,3,5,9,10,11,15] [5]] 13 [true] ⟨34,[(2,.str []),(3,.str s0),(5,.hptr 5 0),(9,dS ab x0),(10,nI x0.length),(11,nI i0),(15,.bool (decide (((x0.getD i0 ⟨0,[]⟩).Coef)<0)))],[(5,.cells 67 (ab (x0.getD i0 ⟨0,[]⟩)))]⟩ (aB c3 (aI aw x0 i0 ⟨0,[]⟩ aN)) ?_;refine aS h4 fun v0 h6 H4 => ?_;refine cQ 1 (iS x0 i0 v0) (by kernel_rfl) ?_ ?_
    ·refine a7 h6 (fun c4 H5 => ?_) (fun c5 H6 => ?_)
     ·refine aR H5 fun g0 H7 => ?_;obtain rfl:=sI H7;exact pB 3 [.eqT 15 (.bool true),V3] [.only [2,3,5,9,10,11] [5]] (iS x0 i0 (s0++[45])) (aB c4 (aC (show s0.length+[45].length≤9223372036854775807 from g0) aN))
     ·refine a7 H6 (fun c6 H8 => ?_) (fun c7 H9 => ?_)
      ·refine cC H8 fun e2 => ?_;subst e2;exact pB 7 [.eqT 15 (.bool false),V3,.eqT 21 (.bool false)] [.only [2,3,5,9,10,11] [5]] (iS x0 i0 s0) (aB c5 (aM c6 aN))
      ·refine aR H9 fun g1 H10 => ?_;obtain rfl:=sI H10;exact pB 7 [.eqT 15 (.bool false),V3,.eqT 21 (.bool true),V3] [.only [2,3,5,9,10,11] [5]] (iS x0 i0 (s0++[43])) (aB c5 (aM c7 (aC (show s0.length+[43].length≤9223372036854775807 from g1) aN)))
    ·refine aS H4 fun y1 h7 H11 => ?_;refine aR H11 fun g2 H12 => ?_;refine bB 9 (ps:=[(x0.map ab).length≤9223372036854775807]) (by kernel_rfl) (fun l0 => ?_);have l1:x0.length≤9223372036854775807:=by simpa only [br,KP] using l0
     clear l0;obtain rfl:=sI H12;exact pB 2 [r0 [.v,.v,.c true (.str y1),.v,.v],V2] [.only [2,3,9,10,11] []] (lU x0 (i0+1) (v0++y1)) (aC Tryz.call57 (aF (tP _ _ h7) (aC (show v0.length+y1.length≤9223372036854775807 from g2) (aH i0 aN))))
  ·subst e0;have H13:=bI H3;refine a7 H13 (fun c8 H14 => ?_) (fun c9 H15 => ?_)
   ·obtain rfl:=sI H14;exact pR 8 [V2,.eqT 32 (.bool true),V1] [] [] (aB c8 aN)
   ·refine cC H15 fun e3 => ?_;subst e3;exact pR 9 [V2,.eqT 32 (.bool false),V2] [] [] (aB c9 aN)
 ·obtain rfl:=sI H2;exact pR 10 [V1,r0 [.v,.c true (.bool y0),.v],.eqT 8 (.bool true),V1] [] [] (aC Tryz.call27 (aF (ba _ _ h0) (aT (aM c1 aN))))
def nb (x0:ai):Option ((List aa)×Int) :=
 (qG (σ:=((List aa)×ai)) (ε:=(List aa)) (ρ:=((List aa)×Int)) (fun s0 =>
  bif (s0.2==[]) then (
   some (.brk s0.1)
  ) else (
   bif (x0==[48]) then (
    some (.brk s0.1)
   ) else (
    bR (0<s0.2.length) <|
    ((
     bif (((s0.2.getD 0 0).toNat:Int)==45) then (
      some (-1)
     ) else (
      some 1
     )
    ):Option Int).bind fun v0 =>
    ((
     bif (((s0.2.getD 0 0).toNat:Int)==45) then (
      some true
     ) else (
      some (((s0.2.getD 0 0).toNat:Int)==43)
     )
    ):Option Bool).bind fun v1 =>
    ((
     bif v1 then (
      bR (1≤s0.2.length) <|
      some (s0.2.drop 1)
     ) else (
      some s0.2
     )
    ):Option ai).bind fun v2 =>
    (rL v2 [43,45]).bind fun y0 =>
    ((
     bif decide (y0<0) then (
      some ((v2.length:Nat):Int)
     ) else (
      some y0
     )
    ):Option Int).bind fun v3 =>
    bR (0≤v3∧v3≤(v2.length:Int)) <|
    (gr (v2.take v3.toNat)).bind fun y1 =>
    bif y1.2 then (
     bif decide (((s0.1.length:Nat):Int)>60) then (
      some (.ret ([],6))
     ) else (
      bR ((s0.1.length+1)*32≤140737488355328) <|
      some (.go ((s0.1++[(aa.mk (aW (y1.1.Coef*v0)) y1.1.Vars)]),(v2.drop v3.toNat)))
     )
    ) else (
     some (.ret ([],6))
    )
   )
  )
 ) 4294967296 ([],x0)).bind <| aft fun u0 =>
 (bp u0).bind fun y2 =>
 bif y2 then (
  (ke u0).bind fun y3 =>
  bif (y3==x0) then (
   some (u0,0)
  ) else (
   some ([],6)
  )
 ) else (
  some ([],6)
 )
def lG (x0:ai) (s0:(List aa)×ai):AS:=⟨72,[(0,.str x0),(2,.eslice),(3,iI 0),(4,.rslice 58),(5,.str s0.2)],[(58,.row 67 2 (s0.1.map ab))]⟩
def lZ (x0:ai) (u1:List aa):AS:=⟨72,[(0,.str x0),(2,.eslice),(3,iI 0),(4,.rslice 58)],[(58,.row 67 2 (u1.map ab))]⟩
def k9 (x0:ai) (s0:(List aa)×ai) (v0:Int):AS:=⟨72,[(0,.str x0),(2,.eslice),(3,iI 0),(4,.rslice 58),(5,.str s0.2),(6,iI v0)],[(58,.row 67 2 (s0.1.map ab))]⟩
def lN (x0:ai) (s0:(List aa)×ai) (v0:Int) (v1:Bool):AS:=⟨72,[(0,.str x0),(2,.eslice),(3,iI 0),(4,.rslice 58),(5,.str s0.2),(6,iI v0),(27,.bool v1)],[(58,.row 67 2 (s0.1.map ab))]⟩
def lg (x0:ai) (s0:(List aa)×ai) (v0:Int) (v2:ai):AS:=⟨72,[(0,.str x0),(2,.eslice),(3,iI 0),(4,.rslice 58),(5,.str v2),(6,iI v0)],[(58,.row 67 2 (s0.1.map ab))]⟩
def mh (x0:ai) (s0:(List aa)×ai) (v0:Int) (v2:ai) (v3:Int):AS:=⟨72,[(0,.str x0),(2,.eslice),(3,iI 0),(4,.rslice 58),(5,.str v2),(6,iI v0),(7,iI v3)],[(58,.row 67 2 (s0.1.map ab))]⟩
theorem yN (x0:ai) (r:(List aa)×Int) (H:nb x0=some r):bF Tryz.prog 25 [.str x0] (.tup [dS ab r.1,iI r.2]):=by
 unfold nb at H;refine aX Tryz.func25 72 [.tmp 2,.tmp 3] ?_;refine pA 8 [V2,V1,V2] [.er 4 58 67 2,.only [0,2,3,4,5] [58]] 8 [] (lG x0 ([],x0)) aN ?_;refine aS H fun R0 h0 H0 => ?_;refine pJ 1 (lZ x0) R0 ?_ (fun u0 e0 => ?_)
 ·refine s7 (lG x0) (by kernel_rfl) h0 (fun s0 q0 h1 h2 => ?_)
  ·refine a7 h1 (fun c0 H1 => ?_) (fun c1 H2 => ?_)
   ·obtain rfl:=sI H1;obtain rfl:=eT h2;exact pB 5 [r0 [.v,.e (.bool false),.v,.s,.s,.v]] [.only [0,2,3,4] [58]] (lZ x0 s0.1) (aM c0 aN)
   ·refine a7 H2 (fun c2 H3 => ?_) (fun c3 H4 => ?_)
    ·obtain rfl:=sI H3;obtain rfl:=eT h2;exact pB 6 [r0 [.v,.e (.bool true),.v,.v,.v,.v],.eqT 16 (.bool false)] [.only [0,2,3,4] [58]] (lZ x0 s0.1) (aM c1 (aM c2 aN))
    ·refine aR H4 fun g0 H5 => ?_;refine pA 12 [r0 [.v,.e (.bool true),.v,.v,.v,.v],.eqT 16 (.bool true),V1,V3] [.only [0,2,3,4,5,6,19] [58]] 11 [true] ⟨72,[(0,.str x0),(2,.eslice),(3,iI 0),(4,.rslice 58),(5,.str s0.2),(6,iI 1),(19,.bool (((s0.2.getD 0 0).toNat:Int)==45))],[(58,.row 67 2 (s0.1.map ab))]⟩ (aM c1 (aM c3 (aC (show (0:Int)≤0∧0<(s0.2.length:Int) from by omega) aN))) ?_;refine aS H5 fun v0 h3 H6 => ?_;refine cQ 0 (k9 x0 s0 v0) (by kernel_rfl) ?_ ?_
     ·refine a7 h3 (fun c4 H7 => ?_) (fun c5 H8 => ?_)
      ·obtain rfl:=sI H7;exact pB 3 [.eqT 19 (.bool true),V1] [.only [0,2,3,4,5,6] [58]] (k9 x0 s0 (-1)) (aB c4 aN)
      ·obtain rfl:=sI H8;exact pB 3 [.eqT 19 (.bool false)] [.only [0,2,3,4,5,6] [58]] (k9 x0 s0 1) (aB c5 aN)
     ·refine pA 2 [] [.only [0,2,3,4,5,6] [58]] 2 [] ⟨72,[(0,.str x0),(2,.eslice),(3,.int .i64 0),(4,.rslice 58),(5,.str s0.2),(6,.int .i64 v0)],[(58,.row 67 2 (s0.1.map ab))]⟩ aN ?_;refine aS H6 fun v1 h4 H9 => ?_;refine cQ 0 (lN x0 s0 v0 v1) (by kernel_rfl) ?_ ?_
      ·refine a7 h4 (fun c6 H10 => ?_) (fun c7 H11 => ?_)
       ·obtain rfl:=sI H10;exact pB 1 [r0 [.v,.v,.e (.bool true),.v,.s,.s,.s,.v]] [.only [0,2,3,4,5,6,27] [58]] (lN x0 s0 v0 true) (aC (show (0:Int)≤0∧0<(s0.2.length:Int) from by omega) (aB c6 aN))
       ·obtain rfl:=sI H11;exact pB 1 [r0 [.v,.v,.e (.bool false),.v,.v,.v,.v,.v]] [.only [0,2,3,4,5,6,27] [58]] (lN x0 s0 v0 (((s0.2.getD 0 0).toNat:Int)==43)) (aC (show (0:Int)≤0∧0<(s0.2.length:Int) from by omega) (aB c7 (aC (show (0:Int)≤0∧0<(s0.2.length:Int) from by omega) aN)))
      ·refine aS H9 fun v2 h5 H12 => ?_;refine cQ 0 (lg x0 s0 v0 v2) (by kernel_rfl) ?_ ?_
       ·refine a7 h5 (fun c8 H13 => ?_) (fun c9 H14 => ?_)
        ·refine aR H13 fun g1 H15 => ?_;obtain rfl:=sI H15;exact pB 3 [.eqT 27 (.bool true),r0 [.v,.e (.str (s0.2.drop 1)),.v]] [.only [0,2,3,4,5,6] [58]] (lg x0 s0 v0 (s0.2.drop 1)) (aB c8 (aC (show (0:Int)≤1∧1≤(s0.2.length:Int)∧(s0.2.length:Int)≤(s0.2.length:Int) from by omega) (aC (tZ s0.2 1) aN)))
        ·obtain rfl:=sI H14;exact pB 3 [.eqT 27 (.bool false)] [.only [0,2,3,4,5,6] [58]] (lg x0 s0 v0 s0.2) (aB c9 aN)
       ·refine aS H12 fun y0 h6 H16 => ?_;refine pA 5 [r0 [.v,.c true (iI y0),.v],V2] [.only [0,2,3,4,5,6,7,33] [58]] 5 [] ⟨72,[(0,.str x0),(2,.eslice),(3,iI 0),(4,.rslice 58),(5,.str v2),(6,iI v0),(7,iI y0),(33,.bool (decide (y0<0)))],[(58,.row 67 2 (s0.1.map ab))]⟩ (aC Tryz.call55 (aF (uF v2 [43,45] y0 h6) aN)) ?_;refine aS H16 fun v3 h7 H17 => ?_;refine cQ 0 (mh x0 s0 v0 v2 v3) (by kernel_rfl) ?_ ?_
        ·refine a7 h7 (fun c10 H18 => ?_) (fun c11 H19 => ?_)
         ·obtain rfl:=sI H18;exact pB 3 [.eqT 33 (.bool true),V3] [.only [0,2,3,4,5,6,7] [58]] (mh x0 s0 v0 v2 ((v2.length:Nat):Int)) (aB c10 (aT aN))
         ·refine cC H19 fun e1 => ?_;subst e1;exact pB 3 [.eqT 33 (.bool false)] [.only [0,2,3,4,5,6,7] [58]] (mh x0 s0 v0 v2 y0) (aB c11 aN)
        ·refine aR H17 fun g2 H20 => ?_;refine aS H20 fun y1 h8 H21 => ?_;refine a7 H21 (fun c12 H22 => ?_) (fun c13 H23 => ?_)
         ·refine pA 6 [.rg 0 [] [.v,.v,.e (.str (v2.take v3.toNat)),.c true (.tup [.agg [.int .i64 y1.1.Coef,.dslice (y1.1.Vars.map aj)],.bool y1.2]),.v,.v,.v,.m,.m,.v],.eqT 9 (.bool true),.rg 0 [] (V 4 [.e (.int .i64 ((s0.1.length:Nat):Int)),.v,.v])] [.only [0,2,3,4,5,6,7,8,49] [8,58]] 5 [] ⟨72,[(0,.str x0),(2,.eslice),(3,.int .i64 0),(4,.rslice 58),(5,.str v2),(6,.int .i64 v0),(7,.int .i64 v3),(8,.hptr 8 0),(49,.bool (decide (((s0.1.length:Nat):Int)>60)))],[(8,.cells 67 [.int .i64 y1.1.Coef,.dslice (y1.1.Vars.map aj)]),(58,.row 67 2 (s0.1.map ab))]⟩ (aC (show (0:Int)≤0∧0≤v3∧v3≤(v2.length:Int) from by omega) (aC (zc v2 v3.toNat) (aC Tryz.call56 (aF (jv _ _ h8) (aB c12 (aT (aT (aC (aV ab s0.1) aN)))))))) ?_;refine a7 H22 (fun c14 H24 => ?_) (fun c15 H25 => ?_)
          ·obtain rfl:=sI H24;obtain rfl:=aG h2;obtain rfl:=sI (ao H0);exact pR 5 [.eqT 49 (.bool true),V2] [.wk 2 []] [] (aB c14 aN)
          ·have c15p:=KL c15;refine aR H25 fun g3 H26 => ?_;obtain rfl:=sI H26;exact pB 8 [.eqT 49 (.bool false),r0 [.v,.v,.v,.w,.v,.m],r0 [.v,.v,.b,.ap,.rwH 58 (.row 67 2 ((s0.1++[(aa.mk (aW (y1.1.Coef*v0)) y1.1.Vars)]).map ab)),.v],r0 [.v,.v,.e (.str (v2.drop v3.toNat)),.v]] [.only [0,2,3,4,5] [58]] (lG x0 ((s0.1++[(aa.mk (aW (y1.1.Coef*v0)) y1.1.Vars)]),(v2.drop v3.toNat))) (aB c15 (aJ (qw (c:=ab) fK s0.1 [(aa.mk (aW (y1.1.Coef*v0)) y1.1.Vars)] 32 (by decide) (by simpa using g3)) (aC (rO 67 2 ab s0.1 [(aa.mk (aW (y1.1.Coef*v0)) y1.1.Vars)]) (aC (show (0:Int)≤v3∧v3≤(v2.length:Int)∧(v2.length:Int)≤(v2.length:Int) from by omega) (aC (tZ v2 v3.toNat) aN)))))
         ·obtain rfl:=sI H23;obtain rfl:=aG h2;obtain rfl:=sI (ao H0);exact pR 10 [r0 [.v,.v,.e (.str (v2.take v3.toNat)),.c true (.tup [.agg [iI y1.1.Coef,dS aj y1.1.Vars],.bool y1.2]),.v,.v,.v,.m,.m,.v],.eqT 9 (.bool false),r0 [.v,.v,.v,.s,.s,.s,.v],V2] [.wk 2 []] [] (aC (show (0:Int)≤0∧0≤v3∧v3≤(v2.length:Int) from by omega) (aC (zc v2 v3.toNat) (aC Tryz.call56 (aF (jv _ _ h8) (aB c13 (aT aN))))))
 ·subst e0;have H27:=a8 H0;refine aS H27 fun y2 h9 H28 => ?_;refine a7 H28 (fun c16 H29 => ?_) (fun c17 H30 => ?_)
  ·refine aS H29 fun y3 h10 H31 => ?_;refine a7 H31 (fun c18 H32 => ?_) (fun c19 H33 => ?_)
   ·obtain rfl:=sI H32;exact pR 9 [r0 [.v,.c false (.bool true),.v,.v,.v,.c false (.str y3),.v,.v,.v],.eqT 70 (.bool false),V3] [.fz 58] [] (aC Tryz.call27 (aC (bF.eq (ba _ _ h9) (cB c16)) (aT (aC Tryz.call26 (aF (gV _ _ h10) (aM c18 aN))))))
   ·obtain rfl:=sI H33;exact pR 8 [r0 [.v,.c false (.bool true),.v,.v,.v,.c false (.str y3),.v,.v,.v],.eqT 70 (.bool true),V2] [.wk 2 []] [] (aC Tryz.call27 (aC (bF.eq (ba _ _ h9) (cB c16)) (aT (aC Tryz.call26 (aF (gV _ _ h10) (aM c19 aN))))))
  ·obtain rfl:=sI H30;exact pR 7 [r0 [.v,.c false (.bool false),.v,.v,.s,.s,.s,.s,.v],V2] [.wk 2 []] [] (aC Tryz.call27 (aC (bF.eq (ba _ _ h9) (cB c17)) (aT aN)))
def kZ (x0:Value) (x1:ai):Option Bool :=
 some (x0.Var==x1)
theorem wX (x0:Value) (x1:ai) (r:Bool) (H:kZ x0 x1=some r):bF Tryz.prog 45 [.agg [.str x0.Var,iI x0.N],.dptr [.str x1]] (.bool r):=by unfold kZ at H;refine aX Tryz.func45 8 [.tmp 3] ?_;obtain rfl:=sI H;exact pR 5 [r0 [.m,.v],V5] [] [] aN
def bY (x0:List Value) (x1:ai):Option Int :=
 (cV (σ:=Unit) (ε:=Unit) (ρ:=Int) (fun i0 s0 =>
  (kZ (Value.mk ((x0.getD i0 ⟨[],0⟩).Var) ((x0.getD i0 ⟨[],0⟩).N)) x1).bind fun y0 =>
  bif y0 then (
   some (.ret ((i0:Nat):Int))
  ) else (
   some (.go ())
  )
 ) (fun i0 s0=>()) (x0.length-0) 0 ()).bind <| aft fun u0 =>
 some (-1)
def cY (x0:List Value) (x1:ai) (i0:Nat) (s0:Unit):AS:=⟨19,[(0,dS aZ x0),(1,.fn 45 [.hptr 1000 0]),(4,iI 0),(7,nI x0.length),(8,nI i0)],[(1000,.cells 9 [.str x1])]⟩
def eO (x1:ai) (u1:Unit):AS:=⟨19,[(4,iI 0)],[(1000,.cells 9 [.str x1])]⟩
theorem jM (x0:List Value) (x1:ai) (r:Int) (H:bY x0 x1=some r):bD Tryz.prog 44 [dS aZ x0,.fn 45 [.hptr 1000 0]] [(1000,.cells 9 [.str x1])] (fun r2 h0=>r2=(iI r)∧h0=[(1000,.cells 9 [.str x1])]):=by
 unfold bY at H;refine aX Tryz.func44 19 [.tmp 4] ?_;refine pA 6 [V1,r0 [.v,.e (nI x0.length),.v]] [.only [0,1,4,7,8] [1000]] 6 [] (cY x0 x1 0 ()) (aT (aC (aV aZ x0) aN)) ?_;refine aS H fun R0 h1 H0 => ?_;refine pJ 1 (eO x1) R0 ?_ (fun u0 e0 => ?_)
 ·refine pC (cY x0 x1) h1 (fun i0 s0 h2 e1 => ?_) (fun i0 s0 h3 q0 h4 h5 => ?_)
  ·have c0:=lF i0 x0.length (by omega);subst e1;exact pB 5 [r0 [.e (.bool false)]] [.only [4] [1000]] (eO x1 ()) (aB c0 aN)
  ·have c1:=lT i0 x0.length (by omega);refine aS h4 fun y0 h6 H1 => ?_;refine pA 11 [r0 [.e (.bool true)],V2,r0 [.v,.v,.v,.e (.dptr (aZ (x0.getD i0 ⟨[],0⟩))),.v,.c false (.bool y0)]] [.only [0,1,4,5,7,8,16] [1000]] 11 [true] ⟨19,[(0,dS aZ x0),(1,.fn 45 [.hptr 1000 0]),(4,iI 0),(5,nI i0),(7,nI x0.length),(8,nI i0),(16,.bool y0)],[(1000,.cells 9 [.str x1])]⟩ (aB c1 (aI ku x0 i0 ⟨[],0⟩ (aC Tryz.call45 (aF (wX _ _ _ h6) aN)))) ?_;refine a7 H1 (fun c2 H2 => ?_) (fun c3 H3 => ?_)
   ·obtain rfl:=sI H2;obtain rfl:=aG h5;obtain rfl:=sI (ao H0);exact pR 5 [.eqT 16 (.bool true),V2] [] [1000] (aB c2 aN)
   ·refine bB 0 (ps:=[(x0.map aZ).length≤9223372036854775807]) (by kernel_rfl) (fun l0 => ?_);have l1:x0.length≤9223372036854775807:=by simpa only [br,KP] using l0
    clear l0;obtain rfl:=sI H3;exact pB 4 [.eqT 16 (.bool false),V2] [.only [0,1,4,7,8] [1000]] (cY x0 x1 (i0+1) ()) (aB c3 (aH i0 aN))
 ·subst e0;have H4:=a8 H0;obtain rfl:=sI H4;exact pR 3 [V1] [] [1000] aN
def fJ (x0:List Int) (x1:Int):Option Int :=
 (cV (σ:=Unit) (ε:=Unit) (ρ:=Int) (fun i0 s0 =>
  bif (x1==(x0.getD i0 0)) then (
   some (.ret ((i0:Nat):Int))
  ) else (
   some (.go ())
  )
 ) (fun i0 s0=>()) (x0.length-0) 0 ()).bind <| aft fun u0 =>
 some (-1)
def ga (x0:List Int) (x1:Int) (i0:Nat) (s0:Unit):AS:=⟨19,[(0,dS ag x0),(1,iI x1),(4,iI 0),(7,nI x0.length),(8,nI i0)],[]⟩
def jQ (u1:Unit):AS:=⟨19,[(4,iI 0)],[]⟩
theorem qq (x0:List Int) (x1 r:Int) (H:fJ x0 x1=some r):bF Tryz.prog 104 [dS ag x0,iI x1] (iI r):=by
 unfold fJ at H;refine aX Tryz.func104 19 [.tmp 4] ?_;refine pA 6 [V1,r0 [.v,.e (nI x0.length),.v]] [.only [0,1,4,7,8] []] 6 [] (ga x0 x1 0 ()) (aT (aC (aV ag x0) aN)) ?_;refine aS H fun R0 h0 H0 => ?_;refine pJ 1 (jQ) R0 ?_ (fun u0 e0 => ?_)
 ·refine pC (ga x0 x1) h0 (fun i0 s0 h1 e1 => ?_) (fun i0 s0 h2 q0 h3 h4 => ?_)
  ·have c0:=lF i0 x0.length (by omega);subst e1;exact pB 5 [r0 [.e (.bool false)]] [.only [4] []] (jQ ()) (aB c0 aN)
  ·have c1:=lT i0 x0.length (by omega);refine a7 h3 (fun c2 H1 => ?_) (fun c3 H2 => ?_)
   ·obtain rfl:=sI H1;obtain rfl:=aG h4;obtain rfl:=sI (ao H0);exact pR 16 [r0 [.e (.bool true)],V2,r0 [.v,.v,.v,.e (.dptr [iI (x0.getD i0 0)]),.v,.v],.eqT 16 (.bool true),V2] [] [] (aB c1 (aI bE x0 i0 0 (aB c2 aN)))
   ·refine bB 0 (ps:=[(x0.map ag).length≤9223372036854775807]) (by kernel_rfl) (fun l0 => ?_);have l1:x0.length≤9223372036854775807:=by simpa only [br,KP] using l0
    clear l0;obtain rfl:=sI H2;exact pB 15 [r0 [.e (.bool true)],V2,r0 [.v,.v,.v,.e (.dptr [iI (x0.getD i0 0)]),.v,.v],.eqT 16 (.bool false),V2] [.only [0,1,4,7,8] []] (ga x0 x1 (i0+1) ()) (aB c1 (aI bE x0 i0 0 (aB c3 (aH i0 aN))))
 ·subst e0;have H3:=a8 H0;obtain rfl:=sI H3;exact pR 3 [V1] [] [] aN
def dp (x0:List Int) (x1:Int):Option Bool :=
 (fJ x0 x1).bind fun y0 =>
 some (decide (y0≥0))
theorem iq (x0:List Int) (x1:Int) (r:Bool) (H:dp x0 x1=some r):bF Tryz.prog 73 [dS ag x0,iI x1] (.bool r):=by unfold dp at H;refine aX Tryz.func73 9 [.tmp 4] ?_;refine aS H fun y0 h0 H0 => ?_;obtain rfl:=sI H0;exact pR 5 [V1,r0 [.v,.v,.c true (iI y0),.v,.v]] [] [] (aC Tryz.call104 (aF (qq _ _ _ h0) aN))
def jo (x0 x1:Int):Option (Int×Int) :=
 (eW [x0,x1]).bind fun y0 =>
 bif y0 then (
  (du x0).bind fun y1 =>
  (du x1).bind fun y2 =>
  (kc (IntKind.wrap .u64 y1) (IntKind.wrap .u64 y2)).bind fun y3 =>
  bif decide (y3.1>0) then (
   some (0,2)
  ) else (
   bif decide (y3.2>4611686018427387904) then (
    some (0,2)
   ) else (
    bif (decide (x0<0)==decide (x1<0)) then (
     some ((IntKind.wrap .i64 y3.2),0)
    ) else (
     some ((aW (0-(IntKind.wrap .i64 y3.2))),0)
    )
   )
  )
 ) else (
  some (0,2)
 )
theorem wS (x0 x1:Int) (r:Int×Int) (H:jo x0 x1=some r):bF Tryz.prog 74 [iI x0,iI x1] (.tup [iI r.1,iI r.2]):=by
 unfold jo at H;refine aX Tryz.func74 39 [.tmp 4,.tmp 5] ?_;refine aS H fun y0 h0 H0 => ?_;refine a7 H0 (fun c0 H1 => ?_) (fun c1 H2 => ?_)
 ·refine aS H1 fun y1 h1 H3 => ?_;refine aS H3 fun y2 h2 H4 => ?_;refine aS H4 fun y3 h3 H5 => ?_;refine pA 12 [V2,r0 [.v,.v,.b,.c true (.bool y0),.v],.eqT 12 (.bool false),r0 [.v,.c true (iI y1),.v,.v,.c true (iI y2),.v,.c true (.tup [.int .u64 y3.1,.int .u64 y3.2]),.v,.v,.v,.v,.v]] [.only [0,1,4,5,6,7] []] 11 [false] ⟨39,[(0,iI x0),(1,iI x1),(4,iI 0),(5,iI 0),(6,.int .u64 y3.1),(7,.int .u64 y3.2)],[]⟩ (aC Tryz.call75 (aF (cI _ _ h0) (aT (aM c0 (aC Tryz.call106 (aF (fh _ _ h1) (aT (aC Tryz.call106 (aF (fh _ _ h2) (aT (aC Tryz.call105 (aF (n9 (IntKind.wrap .u64 y1) (IntKind.wrap .u64 y2) y3 h3) aN)))))))))))) ?_;refine a7 H5 (fun c2 H6 => ?_) (fun c3 H7 => ?_)
  ·obtain rfl:=sI H6;exact pR 5 [r0 [.v,.e (.bool true),.v,.s,.s,.v],V2] [] [] (aB c2 aN)
  ·refine a7 H7 (fun c4 H8 => ?_) (fun c5 H9 => ?_)
   ·obtain rfl:=sI H8;exact pR 6 [r0 [.v,.e (.bool false),.v,.v,.v,.v],.eqT 28 (.bool true),V2] [] [] (aB c3 (aB c4 aN))
   ·refine a7 H9 (fun c6 H10 => ?_) (fun c7 H11 => ?_)
    ·obtain rfl:=sI H10;exact pR 13 [r0 [.v,.e (.bool false),.v,.v,.v,.v],.eqT 28 (.bool false),V5,.eqT 33 (.bool false),V4] [] [] (aB c3 (aB c5 (aM c6 (aT aN))))
    ·obtain rfl:=sI H11;exact pR 12 [r0 [.v,.e (.bool false),.v,.v,.v,.v],.eqT 28 (.bool false),V5,.eqT 33 (.bool true),r0 [.v,.v,.w,.v,.v]] [] [] (aB c3 (aB c5 (aM c7 (aT aN))))
 ·obtain rfl:=sI H2;exact pR 10 [V2,r0 [.v,.v,.b,.c true (.bool y0),.v],.eqT 12 (.bool true),V2] [] [] (aC Tryz.call75 (aF (cI _ _ h0) (aT (aM c1 aN))))
def gT (x0:List Int):Option (Int×Int) :=
 (dp x0 0).bind fun y0 =>
 bif y0 then (
  some (0,0)
 ) else (
  (cV (σ:=Int) (ε:=Int) (ρ:=(Int×Int)) (fun i0 s0 =>
   (jo s0 (x0.getD i0 0)).bind fun y1 =>
   bif (y1.2==0) then (
    some (.go y1.1)
   ) else (
    some (.ret (0,y1.2))
   )
  ) (fun i0 s0=>s0) (x0.length-0) 0 1).bind <| aft fun u0 =>
  some (u0,0)
 )
def jH (x0:List Int) (i0:Nat) (s0:Int):AS:=⟨29,[(2,iI 0),(3,iI 0),(4,iI s0),(11,dS ag x0),(12,nI x0.length),(13,nI i0)],[]⟩
def nN (u1:Int):AS:=⟨29,[(2,iI 0),(3,iI 0),(4,iI u1)],[]⟩
theorem v7 (x0:List Int) (r:Int×Int) (H:gT x0=some r):bF Tryz.prog 46 [dS ag x0] (.tup [iI r.1,iI r.2]):=by
 unfold gT at H;refine aX Tryz.func46 29 [.tmp 2,.tmp 3] ?_;refine aS H fun y0 h0 H0 => ?_;refine a7 H0 (fun c0 H1 => ?_) (fun c1 H2 => ?_)
 ·obtain rfl:=sI H1;exact pR 10 [V2,r0 [.v,.c true (.bool y0)],.eqT 10 (.bool true),V2] [] [] (aC Tryz.call73 (aF (iq _ _ _ h0) (aB c0 aN)))
 ·refine pA 14 [.rg 0 [] [.v,.v],.rg 0 [] [.v,.c true (.bool y0)],.eqT 10 (.bool false),.rg 0 [] [.v],.rg 0 [] [.v,.e (.int .i64 ((x0.length:Nat):Int)),.v]] [.only [2,3,4,11,12,13] []] 13 [false] (jH x0 0 1) (aC Tryz.call73 (aF (iq _ _ _ h0) (aB c1 (aT (aC (aV ag x0) aN))))) ?_;refine aS H2 fun R0 h1 H3 => ?_;refine pJ 1 (nN) R0 ?_ (fun u0 e0 => ?_)
  ·refine pC (jH x0) h1 (fun i0 s0 h2 e1 => ?_) (fun i0 s0 h3 q0 h4 h5 => ?_)
   ·have c2:=lF i0 x0.length (by omega);subst e1;exact pB 5 [r0 [.e (.bool false)]] [.only [2,3,4] []] (nN s0) (aB c2 aN)
   ·have c3:=lT i0 x0.length (by omega);refine aS h4 fun y1 h6 H4 => ?_;refine pA 14 [r0 [.e (.bool true)],r0 [.e (.dptr [iI (x0.getD i0 0)]),.v,.v],r0 [.v,.v,.c true (.tup [iI y1.1,iI y1.2]),.v,.v,.v,.v,.v],V2] [.only [2,3,4,7,8,11,12,13,24] []] 14 [true] ⟨29,[(2,iI 0),(3,iI 0),(4,iI s0),(7,iI y1.1),(8,iI y1.2),(11,dS ag x0),(12,nI x0.length),(13,nI i0),(24,.bool (y1.2 != 0))],[]⟩ (aB c3 (aI bE x0 i0 0 (aC Tryz.call74 (aF (wS _ _ _ h6) aN)))) ?_;refine a7 H4 (fun c4 H5 => ?_) (fun c5 H6 => ?_)
    ·refine bB 11 (ps:=[(x0.map ag).length≤9223372036854775807]) (by kernel_rfl) (fun l0 => ?_);have l1:x0.length≤9223372036854775807:=by simpa only [br,KP] using l0
     clear l0;obtain rfl:=sI H5;exact pB 5 [.eqT 24 (.bool false),V2,V2] [.only [2,3,4,11,12,13] []] (jH x0 (i0+1) y1.1) (aM c4 (aH i0 aN))
    ·obtain rfl:=sI H6;obtain rfl:=aG h5;obtain rfl:=sI (ao H3);exact pR 5 [.eqT 24 (.bool true),V3] [] [] (aM c5 aN)
  ·subst e0;have H7:=a8 H3;obtain rfl:=sI H7;exact pR 3 [V3] [] [] aN
def jc (x0:List Int):Option (Int×Int) :=
 bif decide (((x0.length:Nat):Int)>10000) then (
  some (0,3)
 ) else (
  (eW x0).bind fun y0 =>
  bif y0 then (
   (cV (σ:=(Int×Int×Int×Int×Int×Int)) (ε:=(Int×Int×Int×Int×Int×Int)) (ρ:=Empty) (fun i0 s0 =>
    (bT (x0.getD i0 0) 1 s0.1 s0.2.1 s0.2.2.1 s0.2.2.2.1 s0.2.2.2.2.1 s0.2.2.2.2.2).bind fun y1 =>
    some (.go (y1.1,y1.2.1,y1.2.2.1,y1.2.2.2.1,y1.2.2.2.2.1,y1.2.2.2.2.2))
   ) (fun i0 s0=>(s0.1,s0.2.1,s0.2.2.1,s0.2.2.2.1,s0.2.2.2.2.1,s0.2.2.2.2.2)) (x0.length-0) 0 (0,0,0,0,0,0)).bind <| dJ fun u0 =>
   (bG u0.1 u0.2.1 u0.2.2.1 u0.2.2.2.1 u0.2.2.2.2.1 u0.2.2.2.2.2).bind fun y2 =>
   some (y2.1,y2.2)
  ) else (
   some (0,2)
  )
 )
def kI (x0:List Int) (i0:Nat) (s0:Int×Int×Int×Int×Int×Int):AS:=⟨25,[(2,iI 0),(3,iI 0),(4,.hptr 4 0),(13,dS ag x0),(14,nI x0.length),(15,nI i0)],[(4,.cells 115 [.int .u64 s0.1,.int .u64 s0.2.1,.int .u64 s0.2.2.1,.int .u64 s0.2.2.2.1,.int .u64 s0.2.2.2.2.1,.int .u64 s0.2.2.2.2.2])]⟩
def oJ (u1:Int×Int×Int×Int×Int×Int):AS:=⟨25,[(2,iI 0),(3,iI 0),(4,.hptr 4 0)],[(4,.cells 115 [.int .u64 u1.1,.int .u64 u1.2.1,.int .u64 u1.2.2.1,.int .u64 u1.2.2.2.1,.int .u64 u1.2.2.2.2.1,.int .u64 u1.2.2.2.2.2])]⟩
theorem wZ (x0:List Int) (r:Int×Int) (H:jc x0=some r):bF Tryz.prog 47 [dS ag x0] (.tup [iI r.1,iI r.2]):=by
 unfold jc at H;refine aX Tryz.func47 25 [.tmp 2,.tmp 3] ?_;refine a7 H (fun c0 H0 => ?_) (fun c1 H1 => ?_)
 ·obtain rfl:=sI H0;exact pR 10 [V2,r0 [.v,.e (nI x0.length),.v],.eqT 9 (.bool true),V2] [] [] (aT (aC (aV ag x0) (aB c0 aN)))
 ·have c1p:=KL c1;refine aS H1 fun y0 h0 H2 => ?_;refine a7 H2 (fun c2 H3 => ?_) (fun c3 H4 => ?_)
  ·refine pA 20 [.rg 0 [] [.v,.v],.rg 0 [] [.v,.e (.int .i64 ((x0.length:Nat):Int)),.v],.eqT 9 (.bool false),.rg 0 [] [.v,.c true (.bool y0),.v],.eqT 12 (.bool false),.rg 0 [] [.m],.rg 0 [] [.v,.e (.int .i64 ((x0.length:Nat):Int)),.v]] [.only [2,3,4,13,14,15] [4]] 18 [false,false] (kI x0 0 (0,0,0,0,0,0)) (aT (aC (aV ag x0) (aB c1 (aC Tryz.call75 (aF (cI _ _ h0) (aT (aM c2 (aT (aC (aV ag x0) aN))))))))) ?_;refine aS H3 fun R0 h1 H5 => ?_;refine pJ 1 (oJ) R0 ?_ (fun u0 e0 => ?_)
   ·refine pC (kI x0) h1 (fun i0 s0 h2 e1 => ?_) (fun i0 s0 h3 q0 h4 h5 => ?_)
    ·have c4:=lF i0 x0.length (by omega);subst e1;exact pB 5 [r0 [.e (.bool false)]] [.only [2,3,4] [4]] (oJ (s0.1,s0.2.1,s0.2.2.1,s0.2.2.2.1,s0.2.2.2.2.1,s0.2.2.2.2.2)) (aB c4 aN)
    ·have c5:=lT i0 x0.length (by omega);refine aS h4 fun y1 h6 H6 => ?_;refine bB 13 (ps:=[(x0.map ag).length≤9223372036854775807]) (by kernel_rfl) (fun l0 => ?_);have l1:x0.length≤9223372036854775807:=by simpa only [br,KP] using l0
     clear l0;obtain rfl:=sI H6;exact pB 11 [r0 [.e (.bool true)],r0 [.e (.dptr [iI (x0.getD i0 0)]),.v,.v],r0 [.v,.hR [(4,1000)] 20 (.tup []) [(1000,.cells 115 [.int .u64 y1.1,.int .u64 y1.2.1,.int .u64 y1.2.2.1,.int .u64 y1.2.2.2.1,.int .u64 y1.2.2.2.2.1,.int .u64 y1.2.2.2.2.2])]],V2] [.only [2,3,4,13,14,15] [4]] (kI x0 (i0+1) (y1.1,y1.2.1,y1.2.2.1,y1.2.2.2.1,y1.2.2.2.2.1,y1.2.2.2.2.2)) (aB c5 (aI bE x0 i0 0 (aC Tryz.call76 (aC (jR _ _ _ _ _ _ _ _ _ h6) (aH i0 aN)))))
   ·subst e0;have H7:=bI H5;refine aS H7 fun y2 h7 H8 => ?_;obtain rfl:=sI H8;exact pR 3 [r0 [.hR [(4,1000)] 22 (.tup [iI y2.1,iI y2.2]) [(1000,.cells 115 [.int .u64 u0.1,.int .u64 u0.2.1,.int .u64 u0.2.2.1,.int .u64 u0.2.2.2.1,.int .u64 u0.2.2.2.2.1,.int .u64 u0.2.2.2.2.2])],.v,.v,.v,.v]] [] [] (aC Tryz.call77 (aC (ir _ _ _ _ _ _ _ h7) aN))
  ·obtain rfl:=sI H4;exact pR 16 [V2,r0 [.v,.e (nI x0.length),.v],.eqT 9 (.bool false),r0 [.v,.c true (.bool y0),.v],.eqT 12 (.bool true),V2] [] [] (aT (aC (aV ag x0) (aB c1 (aC Tryz.call75 (aF (cI _ _ h0) (aT (aM c3 aN)))))))
def dx (x0:List aa) (x1:List Value):Option (Int×Int) :=
 (bp x0).bind fun y0 =>
 bif y0 then (
  (cV (σ:=((List (List Int))×Bool)) (ε:=((List (List Int))×Bool)) (ρ:=(Int×Int)) (fun i0 s0 =>
   (cV (σ:=(Bool×(List Int))) (ε:=(Bool×(List Int))) (ρ:=(eM ((List (List Int))×Bool) ((List (List Int))×Bool) (Int×Int))) (fun i1 s1 =>
    (bY x1 (((x0.getD i0 ⟨0,[]⟩).Vars).getD i1 [])).bind fun y1 =>
    bif decide (y1<0) then (
     some (.ret (.ret (0,7)))
    ) else (
     bR (0≤y1∧y1<(x1.length:Int)) <|
     ((
      bif s1.1 then (
       some true
      ) else (
       bif decide (((x1.getD y1.toNat ⟨[],0⟩).N)<(-4611686018427387904)) then (
        some true
       ) else (
        some (decide (((x1.getD y1.toNat ⟨[],0⟩).N)>4611686018427387904))
       )
      )
     ):Option Bool).bind fun v0 =>
     bR ((s1.2.length+1)*8≤140737488355328) <|
     some (.go (v0,(s1.2++[((x1.getD y1.toNat ⟨[],0⟩).N)])))
    )
   ) (fun i1 s1=>(s1.1,s1.2)) (((x0.getD i0 ⟨0,[]⟩).Vars).length-0) 0 (s0.2,[((x0.getD i0 ⟨0,[]⟩).Coef)])).bind <| aft fun u0 =>
   bR ((s0.1.length+1)*24≤140737488355328) <|
   some (.go ((s0.1++[u0.2]),u0.1))
  ) (fun i0 s0=>(s0.1,s0.2)) (x0.length-0) 0 ([],false)).bind <| aft fun u1 =>
  bif u1.2 then (
   some (0,2)
  ) else (
   (cV (σ:=(List Int)) (ε:=(List Int)) (ρ:=(Int×Int)) (fun i2 s2 =>
    (gT (u1.1.getD i2 [])).bind fun y2 =>
    bif (y2.2==0) then (
     bR ((s2.length+1)*8≤140737488355328) <|
     some (.go (s2++[y2.1]))
    ) else (
     some (.ret (0,2))
    )
   ) (fun i2 s2=>s2) (u1.1.length-0) 0 []).bind <| aft fun u2 =>
   (jc u2).bind fun y3 =>
   some (y3.1,y3.2)
  )
 ) else (
  some (0,1)
 )
def nr (x0:List aa) (x1:List Value) (i0:Nat) (s0:(List (List Int))×Bool):AS:=⟨91,[(1,dS aZ x1),(4,iI 0),(5,iI 0),(6,.rslice 66),(7,.bool s0.2),(23,dS ab x0),(24,nI x0.length),(25,nI i0)],[(66,.row 81 1 (s0.1.map ay))]⟩
def qU (u3:(List (List Int))×Bool):AS:=⟨91,[(4,iI 0),(5,iI 0),(6,.rslice 66),(7,.bool u3.2)],[(66,.row 81 1 (u3.1.map ay))]⟩
def ns (x0:List aa) (x1:List Value) (i0:Nat) (s0:(List (List Int))×Bool) (i1:Nat) (s1:Bool×(List Int)):AS:=⟨91,[(1,dS aZ x1),(4,iI 0),(5,iI 0),(6,.rslice 66),(7,.bool s1.1),(10,.rslice 61),(23,dS ab x0),(24,nI x0.length),(25,nI i0),(33,.dslice (((x0.getD i0 ⟨0,[]⟩).Vars).map aj)),(34,iI ((((x0.getD i0 ⟨0,[]⟩).Vars).length:Nat):Int)),(35,nI i1)],[(61,.row 3 1 (s1.2.map ag)),(66,.row 81 1 (s0.1.map ay))]⟩
def rH (x0:List aa) (x1:List Value) (i0:Nat) (s0:(List (List Int))×Bool) (u4:Bool×(List Int)):AS:=⟨91,[(1,dS aZ x1),(4,iI 0),(5,iI 0),(6,.rslice 66),(7,.bool u4.1),(10,.rslice 61),(23,dS ab x0),(24,nI x0.length),(25,nI i0)],[(61,.row 3 1 (u4.2.map ag)),(66,.row 81 1 (s0.1.map ay))]⟩
def jX (x0:List aa) (x1:List Value) (i0:Nat) (s0:(List (List Int))×Bool) (i1:Nat) (s1:Bool×(List Int)) (y1:Int) (v0:Bool):AS:=⟨91,[(1,dS aZ x1),(4,iI 0),(5,iI 0),(6,.rslice 66),(7,.bool v0),(10,.rslice 61),(14,iI ((x1.getD y1.toNat ⟨[],0⟩).N)),(23,dS ab x0),(24,nI x0.length),(25,nI i0),(33,.dslice (((x0.getD i0 ⟨0,[]⟩).Vars).map aj)),(34,iI ((((x0.getD i0 ⟨0,[]⟩).Vars).length:Nat):Int)),(35,nI i1)],[(61,.row 3 1 (s1.2.map ag)),(66,.row 81 1 (s0.1.map ay))]⟩
def np (u1:(List (List Int))×Bool) (i2:Nat) (s2:List Int):AS:=⟨91,[(4,iI 0),(5,iI 0),(15,.rslice 85),(69,.rslice 66),(70,nI u1.1.length),(71,nI i2)],[(66,.row 81 1 (u1.1.map ay)),(85,.row 3 1 (s2.map ag))]⟩
def rJ (u5:List Int):AS:=⟨91,[(4,iI 0),(5,iI 0),(15,.rslice 85)],[(85,.row 3 1 (u5.map ag))]⟩
theorem eP (x0:List aa) (x1:List Value) (r:Int×Int) (H:dx x0 x1=some r):bF Tryz.prog 19 [dS ab x0,dS aZ x1] (.tup [iI r.1,iI r.2]):=by
 unfold dx at H;refine aX Tryz.func19 91 [.tmp 4,.tmp 5] ?_;refine aS H fun y0 h0 H0 => ?_;refine a7 H0 (fun c0 H1 => ?_) (fun c1 H2 => ?_)
 ·refine pA 16 [.rg 0 [] [.v,.v],.rg 0 [] [.v,.c true (.bool y0),.v],.eqT 22 (.bool false),.rg 0 [] [.v],.rg 0 [] [.v],.rg 0 [] [.v,.e (.int .i64 ((x0.length:Nat):Int)),.v]] [.er 6 66 81 1,.only [1,4,5,6,7,23,24,25] [66]] 15 [false] (nr x0 x1 0 ([],false)) (aC Tryz.call27 (aF (ba _ _ h0) (aT (aM c0 (aT (aC (aV ab x0) aN)))))) ?_;refine aS H1 fun R0 h1 H3 => ?_;refine pJ 1 (qU) R0 ?_ (fun u1 e0 => ?_)
  ·refine pC (nr x0 x1) h1 (fun i0 s0 h2 e1 => ?_) (fun i0 s0 h3 q0 h4 h5 => ?_)
   ·have c2:=lF i0 x0.length (by omega);subst e1;exact pB 5 [r0 [.e (.bool false)]] [.only [4,5,6,7] [66]] (qU (s0.1,s0.2)) (aB c2 aN)
   ·have c3:=lT i0 x0.length (by omega);refine pA 15 [r0 [.e (.bool true)],r0 [.e (.dptr (ab (x0.getD i0 ⟨0,[]⟩))),.v,.m,.m],r0 [.v,.v,.ap,.rwH 31 (.row 3 1 ([((x0.getD i0 ⟨0,[]⟩).Coef)].map ag)),.v],r0 [.v,.v,.e (iI ((((x0.getD i0 ⟨0,[]⟩).Vars).length:Nat):Int)),.v]] [.ren [(31,61),(66,66)],.only [1,4,5,6,7,10,23,24,25,33,34,35] [61,66]] 15 [true] (ns x0 x1 i0 s0 0 (s0.2,[((x0.getD i0 ⟨0,[]⟩).Coef)])) (aB c3 (aI aw x0 i0 ⟨0,[]⟩ (aC (Eq.refl (AO.row 3 1 ([((x0.getD i0 ⟨0,[]⟩).Coef)].map ag))) (aT (aC (aV aj ((x0.getD i0 ⟨0,[]⟩).Vars)) aN))))) ?_;refine aS h4 fun R1 h6 H4 => ?_;refine pJ 1 (rH x0 x1 i0 s0) R1 ?_ (fun u0 e2 => ?_)
    ·refine pC (ns x0 x1 i0 s0) h6 (fun i1 s1 h7 e3 => ?_) (fun i1 s1 h8 q1 h9 h10 => ?_)
     ·have c4:=lF i1 (((x0.getD i0 ⟨0,[]⟩).Vars).length) (by omega);subst e3;exact pB 5 [r0 [.e (.bool false)]] [.only [1,4,5,6,7,10,23,24,25] [61,66]] (rH x0 x1 i0 s0 (s1.1,s1.2)) (aB c4 aN)
     ·have c5:=lT i1 (((x0.getD i0 ⟨0,[]⟩).Vars).length) (by omega);refine aS h9 fun y1 h11 H5 => ?_;refine pA 14 [r0 [.e (.bool true)],r0 [.e (.dptr [.str (((x0.getD i0 ⟨0,[]⟩).Vars).getD i1 [])]),.v,.m,.m],r0 [.v,.v,.hR [(12,1000)] 41 (iI y1) [(1000,.cells 9 [.str (((x0.getD i0 ⟨0,[]⟩).Vars).getD i1 [])])],.v],V2] [.only [1,4,5,6,7,10,13,23,24,25,33,34,35,43] [61,66]] 14 [true] ⟨91,[(1,dS aZ x1),(4,iI 0),(5,iI 0),(6,.rslice 66),(7,.bool s1.1),(10,.rslice 61),(13,iI y1),(23,dS ab x0),(24,nI x0.length),(25,nI i0),(33,.dslice (((x0.getD i0 ⟨0,[]⟩).Vars).map aj)),(34,iI ((((x0.getD i0 ⟨0,[]⟩).Vars).length:Nat):Int)),(35,nI i1),(43,.bool (decide (y1<0)))],[(61,.row 3 1 (s1.2.map ag)),(66,.row 81 1 (s0.1.map ay))]⟩ (aB c5 (aI bb (((x0.getD i0 ⟨0,[]⟩).Vars)) i1 [] (aC Tryz.call44 (aC (jM _ _ _ h11) aN)))) ?_;refine a7 H5 (fun c6 H6 => ?_) (fun c7 H7 => ?_)
      ·obtain rfl:=sI H6;obtain rfl:=aG h10;obtain rfl:=sI (ao H4);obtain rfl:=aG h5;obtain rfl:=sI (ao H3);exact pR 5 [.eqT 43 (.bool true),V2] [] [] (aB c6 aN)
      ·have c7p:=KL c7;refine aR H7 fun g0 H8 => ?_;refine pA 6 [.eqT 43 (.bool false),r0 [.v,.v,.e (.dptr (aZ (x1.getD y1.toNat ⟨[],0⟩))),.v,.v,.v]] [.only [1,4,5,6,7,10,14,23,24,25,33,34,35] [61,66]] 5 [false] ⟨91,[(1,dS aZ x1),(4,iI 0),(5,iI 0),(6,.rslice 66),(7,.bool s1.1),(10,.rslice 61),(14,iI ((x1.getD y1.toNat ⟨[],0⟩).N)),(23,dS ab x0),(24,nI x0.length),(25,nI i0),(33,.dslice (((x0.getD i0 ⟨0,[]⟩).Vars).map aj)),(34,iI ((((x0.getD i0 ⟨0,[]⟩).Vars).length:Nat):Int)),(35,nI i1)],[(61,.row 3 1 (s1.2.map ag)),(66,.row 81 1 (s0.1.map ay))]⟩ (aB c7 (aJ (xv (f:=aZ) (l:=x1) (n:=y1) ⟨[],0⟩ ku (by decide) (by exact g0)) aN)) ?_;refine aS H8 fun v0 h12 H9 => ?_;refine cQ 0 (jX x0 x1 i0 s0 i1 s1 y1 v0) (by kernel_rfl) ?_ ?_
       ·refine a7 h12 (fun c8 H10 => ?_) (fun c9 H11 => ?_)
        ·obtain rfl:=sI H10;exact pB 2 [.eqT 7 (.bool true),r0 [.v,.v,.s,.s,.v,.v,.s,.s,.v,.v]] [.only [1,4,5,6,7,10,14,23,24,25,33,34,35] [61,66]] (jX x0 x1 i0 s0 i1 s1 y1 true) (aB c8 aN)
        ·refine a7 H11 (fun c10 H12 => ?_) (fun c11 H13 => ?_)
         ·obtain rfl:=sI H12;exact pB 2 [.eqT 7 (.bool false),r0 [.v,.v,.v,.e (.bool true),.v,.v,.s,.s,.v,.v]] [.only [1,4,5,6,7,10,14,23,24,25,33,34,35] [61,66]] (jX x0 x1 i0 s0 i1 s1 y1 true) (aB c9 (aB c10 aN))
         ·obtain rfl:=sI H13;exact pB 2 [.eqT 7 (.bool false),r0 [.v,.v,.v,.e (.bool false),.v,.v,.v,.v,.v,.v]] [.only [1,4,5,6,7,10,14,23,24,25,33,34,35] [61,66]] (jX x0 x1 i0 s0 i1 s1 y1 (decide (((x1.getD y1.toNat ⟨[],0⟩).N)>4611686018427387904))) (aB c9 (aB c11 aN))
       ·refine aR H9 fun g1 H14 => ?_;refine bB 33 (ps:=[(((x0.getD i0 ⟨0,[]⟩).Vars).map aj).length≤9223372036854775807]) (by kernel_rfl) (fun l0 => ?_);have l1:((x0.getD i0 ⟨0,[]⟩).Vars).length≤9223372036854775807:=by simpa only [br,KP] using l0
        clear l0;obtain rfl:=sI H14;exact pB 2 [r0 [.v,.v,.b,.ap,.rwH 61 (.row 3 1 ((s1.2++[((x1.getD y1.toNat ⟨[],0⟩).N)]).map ag)),.v],V2] [.only [1,4,5,6,7,10,23,24,25,33,34,35] [61,66]] (ns x0 x1 i0 s0 (i1+1) (v0,(s1.2++[((x1.getD y1.toNat ⟨[],0⟩).N)]))) (aJ (qw (c:=ag) gw s1.2 [((x1.getD y1.toNat ⟨[],0⟩).N)] 8 (by decide) (by simpa using g1)) (aC (rO 3 1 ag s1.2 [((x1.getD y1.toNat ⟨[],0⟩).N)]) (aH i1 aN)))
    ·subst e2;have H15:=a8 H4;refine aR H15 fun g2 H16 => ?_;refine bB 23 (ps:=[(x0.map ab).length≤9223372036854775807]) (by kernel_rfl) (fun l2 => ?_);have l3:x0.length≤9223372036854775807:=by simpa only [br,KP] using l2
     clear l2;obtain rfl:=sI H16;exact pB 2 [r0 [.v,.v,.fz 61,.b,.ap,.rwH 66 (.row 81 1 ((s0.1++[u0.2]).map ay)),.v],V2] [.only [1,4,5,6,7,23,24,25] [66]] (nr x0 x1 (i0+1) ((s0.1++[u0.2]),u0.1)) (aJ (qw (c:=ay) vc s0.1 [u0.2] 24 (by decide) (by simpa using g2)) (aC (rO 81 1 ay s0.1 [u0.2]) (aH i0 aN)))
  ·subst e0;have H17:=a8 H3;refine a7 H17 (fun c12 H18 => ?_) (fun c13 H19 => ?_)
   ·obtain rfl:=sI H18;exact pR 8 [V1,.eqT 68 (.bool true),V2] [] [] (aB c12 aN)
   ·refine pA 12 [.rg 0 [] [.v],.eqT 68 (.bool false),.rg 0 [] [.v],.rg 0 [] [.v,.e (.int .i64 ((u1.1.length:Nat):Int)),.v]] [.er 15 85 3 1,.only [4,5,15,69,70,71] [66,85]] 11 [false] (np u1 0 []) (aB c13 (aT (aC (aV ay u1.1) aN))) ?_;refine aS H19 fun R2 h13 H20 => ?_;refine pJ 1 (rJ) R2 ?_ (fun u2 e4 => ?_)
    ·refine pC (np u1) h13 (fun i2 s2 h14 e5 => ?_) (fun i2 s2 h15 q2 h16 h17 => ?_)
     ·have c14:=lF i2 u1.1.length (by omega);subst e5;exact pB 5 [r0 [.e (.bool false)]] [.only [4,5,15] [85]] (rJ s2) (aB c14 aN)
     ·have c15:=lT i2 u1.1.length (by omega);refine aS h16 fun y2 h18 H21 => ?_;refine pA 14 [r0 [.e (.bool true)],r0 [.v,.rl i2 0 (.dslice ((u1.1.getD i2 []).map ag)),.v],r0 [.v,.c true (.tup [iI y2.1,iI y2.2]),.v,.v,.v,.v,.v],V2] [.only [4,5,15,18,69,70,71,81] [66,85]] 14 [true] ⟨91,[(4,iI 0),(5,iI 0),(15,.rslice 85),(18,iI y2.1),(69,.rslice 66),(70,nI u1.1.length),(71,nI i2),(81,.bool (y2.2 != 0))],[(66,.row 81 1 (u1.1.map ay)),(85,.row 3 1 (s2.map ag))]⟩ (aB c15 (aC (show (0:Int)≤((i2:Nat):Int)∧((i2:Nat):Int)<((u1.1.map ay).length:Int) from by rw [KP];omega) (aC (Bz (f:=ay) (l:=u1.1) (n:=i2) 1 0 1 (by omega) (by decide)) (aC (Bx (f:=ay) (l:=u1.1) (n:=i2) [] 0 (by omega)) (aC Tryz.call46 (aF (v7 _ _ h18) aN)))))) ?_;refine a7 H21 (fun c16 H22 => ?_) (fun c17 H23 => ?_)
      ·refine aR H22 fun g3 H24 => ?_;refine nu 66 (n:=(u1.1.map ay).length) (by kernel_rfl) (fun l4 => ?_);have l5:u1.1.length≤9223372036854775807:=by simpa only [KP] using l4
       clear l4;obtain rfl:=sI H24;exact pB 5 [.eqT 81 (.bool false),r0 [.v,.v,.b,.ap,.rwH 85 (.row 3 1 ((s2++[y2.1]).map ag)),.v],V2] [.only [4,5,15,69,70,71] [66,85]] (np u1 (i2+1) (s2++[y2.1])) (aM c16 (aJ (qw (c:=ag) gw s2 [y2.1] 8 (by decide) (by simpa using g3)) (aC (rO 3 1 ag s2 [y2.1]) (aH i2 aN))))
      ·obtain rfl:=sI H23;obtain rfl:=aG h17;obtain rfl:=sI (ao H20);exact pR 5 [.eqT 81 (.bool true),V2] [] [] (aM c17 aN)
    ·subst e4;have H25:=a8 H20;refine aS H25 fun y3 h19 H26 => ?_;obtain rfl:=sI H26;exact pR 3 [r0 [.v,.c false (.tup [iI y3.1,iI y3.2]),.v,.v,.v,.v]] [] [] (aC Tryz.call47 (aF (wZ _ _ h19) aN))
 ·obtain rfl:=sI H2;exact pR 10 [V2,r0 [.v,.c true (.bool y0),.v],.eqT 22 (.bool true),V2] [] [] (aC Tryz.call27 (aF (ba _ _ h0) (aT (aM c1 aN))))
def kX (x0:List aa):Option Int :=
 (cV (σ:=Int) (ε:=Int) (ρ:=Empty) (fun i0 s0 =>
  some (.go (if ((((x0.getD i0 ⟨0,[]⟩).Vars).length:Nat):Int)>s0 then ((((x0.getD i0 ⟨0,[]⟩).Vars).length:Nat):Int) else s0))
 ) (fun i0 s0=>s0) (x0.length-0) 0 0).bind <| dJ fun u0 =>
 (bp x0).bind fun y0 =>
 bif y0 then (
  some u0
 ) else (
  some 0
 )
def kK (x0:List aa) (i0:Nat) (s0:Int):AS:=⟨22,[(0,dS ab x0),(2,iI 0),(3,iI s0),(6,dS ab x0),(7,nI x0.length),(8,nI i0)],[]⟩
def ov (x0:List aa) (u1:Int):AS:=⟨22,[(0,dS ab x0),(2,iI 0),(3,iI u1)],[]⟩
theorem xd (x0:List aa) (r:Int) (H:kX x0=some r):bF Tryz.prog 28 [dS ab x0] (iI r):=by
 unfold kX at H;refine aX Tryz.func28 22 [.tmp 2] ?_;refine pA 8 [V1,V1,r0 [.v,.e (nI x0.length),.v]] [.only [0,2,3,6,7,8] []] 8 [] (kK x0 0 0) (aT (aC (aV ab x0) aN)) ?_;refine aS H fun R0 h0 H0 => ?_;refine pJ 1 (ov x0) R0 ?_ (fun u0 e0 => ?_)
 ·refine pC (kK x0) h0 (fun i0 s0 h1 e1 => ?_) (fun i0 s0 h2 q0 h3 h4 => ?_)
  ·have c0:=lF i0 x0.length (by omega);subst e1;exact pB 5 [r0 [.e (.bool false)]] [.only [0,2,3] []] (ov x0 s0) (aB c0 aN)
  ·have c1:=lT i0 x0.length (by omega);refine bB 0 (ps:=[(x0.map ab).length≤9223372036854775807]) (by kernel_rfl) (fun l0 => ?_);have l1:x0.length≤9223372036854775807:=by simpa only [br,KP] using l0
   clear l0;obtain rfl:=sI h3;exact pB 11 [r0 [.e (.bool true)],r0 [.e (.dptr (ab (x0.getD i0 ⟨0,[]⟩))),.v,.m,.m],r0 [.v,.v,.v,.e (iI ((((x0.getD i0 ⟨0,[]⟩).Vars).length:Nat):Int)),.v,.v],V2] [.only [0,2,3,6,7,8] []] (kK x0 (i0+1) (if ((((x0.getD i0 ⟨0,[]⟩).Vars).length:Nat):Int)>s0 then ((((x0.getD i0 ⟨0,[]⟩).Vars).length:Nat):Int) else s0)) (aB c1 (aI aw x0 i0 ⟨0,[]⟩ (aT (aC (aV aj ((x0.getD i0 ⟨0,[]⟩).Vars)) (aT (aH i0 aN))))))
 ·subst e0;have H1:=bI H0;refine aS H1 fun y0 h5 H2 => ?_;refine a7 H2 (fun c2 H3 => ?_) (fun c3 H4 => ?_)
  ·refine cC H3 fun e2 => ?_;subst e2;exact pR 9 [r0 [.v,.c true (.bool y0),.v],.eqT 20 (.bool false),V2] [] [] (aC Tryz.call27 (aF (ba _ _ h5) (aT (aM c2 aN))))
  ·obtain rfl:=sI H4;exact pR 8 [r0 [.v,.c true (.bool y0),.v],.eqT 20 (.bool true),V1] [] [] (aC Tryz.call27 (aF (ba _ _ h5) (aT (aM c3 aN))))
noncomputable def jb   : Option Bool :=
 (gX [(Linear.mk (-1) [(Coef.mk [110] 1)]),(Linear.mk 1 [(Coef.mk [110] 1)])]).bind fun y0 =>
 (nb [50,42,109,42,110,94,50]).bind fun y1 =>
 (dx y1.1 [(Value.mk [109] 3),(Value.mk [110] (-1))]).bind fun y2 =>
 bif (y0.2==0) then (
  bif (y1.2==0) then (
   bif (y2.2==0) then (
    bif (y2.1==6) then (
     (ke y0.1).bind fun y3 =>
     bif (y3==[45,49,43,110,94,50]) then (
      (bp y1.1).bind fun y4 =>
      bif y4 then (
       (kX y1.1).bind fun y5 =>
       some (y5==3)
      ) else (
       some false
      )
     ) else (
      some false
     )
    ) else (
     some false
    )
   ) else (
    some false
   )
  ) else (
   some false
  )
 ) else (
  some false
 )
theorem eA   (r:Bool) (H:jb  = some r):bF Tryz.prog 5 [] (.bool r):=by
 unfold jb at H;refine aX Tryz.func5 59 [.tmp 0] ?_;refine aS H fun y0 h0 H0 => ?_;refine aS H0 fun y1 h1 H1 => ?_;refine aS H1 fun y2 h2 H2 => ?_;refine pA 11 [V1,r0 [.b,.b,.v],r0 [.v,.b,.v,.b,.b,.c true (.tup [dS ab y0.1,iI y0.2]),.v,.v,.v,.v,.v],r0 [.c true (.tup [dS ab y1.1,iI y1.2]),.v,.v,.v,.v,.v],r0 [.v,.b,.b,.b,.c true (.tup [iI y2.1,iI y2.2]),.v,.v,.v,.v,.v]] [.only [0,2,3,4,5,6,7] []] 11 [] ⟨59,[(0,.bool false),(2,dS ab y0.1),(3,iI y0.2),(4,dS ab y1.1),(5,iI y1.2),(6,iI y2.1),(7,iI y2.2)],[]⟩ (aC Tryz.call9 (aF (uA _ _ h0) (aC Tryz.call25 (aF (yN _ _ h1) (aC Tryz.call19 (aF (eP _ _ _ h2) aN)))))) ?_;refine a7 H2 (fun c0 H3 => ?_) (fun c1 H4 => ?_)
 ·refine a7 H3 (fun c2 H5 => ?_) (fun c3 H6 => ?_)
  ·refine a7 H5 (fun c4 H7 => ?_) (fun c5 H8 => ?_)
   ·refine a7 H7 (fun c6 H9 => ?_) (fun c7 H10 => ?_)
    ·refine aS H9 fun y3 h3 H11 => ?_;refine a7 H11 (fun c8 H12 => ?_) (fun c9 H13 => ?_)
     ·refine aS H12 fun y4 h4 H14 => ?_;refine a7 H14 (fun c10 H15 => ?_) (fun c11 H16 => ?_)
      ·refine aS H15 fun y5 h5 H17 => ?_;obtain rfl:=sI H17;exact pR 2 [r0 [.v,.e (.bool true),.v,.v,.e (.bool true),.v,.v,.v,.e (.bool true),.v,.v,.v,.e (.bool true),.v,.v,.v,.c true (.str y3),.e (.bool true),.v,.v,.v,.c true (.bool true),.v,.v,.v,.c true (iI y5),.v,.v,.v]] [] [] (aB c0 (aB c2 (aB c4 (aB c6 (aC Tryz.call26 (aF (gV _ _ h3) (aB c8 (aC Tryz.call27 (aC (bF.eq (ba _ _ h4) (cB c10)) (aC Tryz.call28 (aF (xd _ _ h5) aN)))))))))))
      ·obtain rfl:=sI H16;exact pR 2 [r0 [.v,.e (.bool true),.v,.v,.e (.bool true),.v,.v,.v,.e (.bool true),.v,.v,.v,.e (.bool true),.v,.v,.v,.c true (.str y3),.e (.bool true),.v,.v,.v,.c true (.bool false),.v,.v,.s,.s,.s,.v,.v]] [] [] (aB c0 (aB c2 (aB c4 (aB c6 (aC Tryz.call26 (aF (gV _ _ h3) (aB c8 (aC Tryz.call27 (aC (bF.eq (ba _ _ h4) (cB c11)) aN)))))))))
     ·obtain rfl:=sI H13;exact pR 2 [r0 [.v,.e (.bool true),.v,.v,.e (.bool true),.v,.v,.v,.e (.bool true),.v,.v,.v,.e (.bool true),.v,.v,.v,.c true (.str y3),.e (.bool false),.v,.v,.s,.s,.v,.v,.s,.s,.s,.v,.v]] [] [] (aB c0 (aB c2 (aB c4 (aB c6 (aC Tryz.call26 (aF (gV _ _ h3) (aB c9 aN)))))))
    ·obtain rfl:=sI H10;exact pR 2 [r0 [.v,.e (.bool true),.v,.v,.e (.bool true),.v,.v,.v,.e (.bool true),.v,.v,.v,.e (.bool false),.v,.v,.s,.s,.s,.v,.v,.s,.s,.v,.v,.s,.s,.s,.v,.v]] [] [] (aB c0 (aB c2 (aB c4 (aB c7 aN))))
   ·obtain rfl:=sI H8;exact pR 2 [r0 [.v,.e (.bool true),.v,.v,.e (.bool true),.v,.v,.v,.e (.bool false),.v,.v,.s,.s,.v,.v,.s,.s,.s,.v,.v,.s,.s,.v,.v,.s,.s,.s,.v,.v]] [] [] (aB c0 (aB c2 (aB c5 aN)))
  ·obtain rfl:=sI H6;exact pR 2 [r0 [.v,.e (.bool true),.v,.v,.e (.bool false),.v,.v,.s,.s,.v,.v,.s,.s,.v,.v,.s,.s,.s,.v,.v,.s,.s,.v,.v,.s,.s,.s,.v,.v]] [] [] (aB c0 (aB c3 aN))
 ·obtain rfl:=sI H4;exact pR 2 [r0 [.v,.e (.bool false),.v,.s,.s,.v,.v,.s,.s,.v,.v,.s,.s,.v,.v,.s,.s,.s,.v,.v,.s,.s,.v,.v,.s,.s,.s,.v,.v]] [] [] (aB c1 aN)
def kb (x0:List aa) (x1:Int):Option Bool :=
 (cV (σ:=Unit) (ε:=Unit) (ρ:=Bool) (fun i0 s0 =>
  bif decide (((((x0.getD i0 ⟨0,[]⟩).Vars).length:Nat):Int)>10) then (
   some (.ret false)
  ) else (
   (qG (σ:=Int) (ε:=Unit) (ρ:=(eM Unit Unit Bool)) (fun s1 =>
    bif decide (s1<((((x0.getD i0 ⟨0,[]⟩).Vars).length:Nat):Int)) then (
     bR (0≤s1∧s1<(((x0.getD i0 ⟨0,[]⟩).Vars).length:Int)) <|
     bif decide ((((((x0.getD i0 ⟨0,[]⟩).Vars).getD s1.toNat []).length:Nat):Int)>40) then (
      some (.ret (.ret false))
     ) else (
      some (.go (aW (s1+1)))
     )
    ) else (
     some (.brk ())
    )
   ) 4294967296 0).bind <| aft fun u0 =>
   some (.go ())
  )
 ) (fun i0 s0=>()) (x0.length-0) 0 ()).bind <| aft fun u1 =>
 some (decide (((x0.length:Nat):Int)≤x1))
def nE (x0:List aa) (x1:Int) (i0:Nat) (s0:Unit):AS:=⟨44,[(0,dS ab x0),(1,iI x1),(4,.bool false),(5,nI i0)],[]⟩
def rb (x0:List aa) (x1:Int) (u2:Unit):AS:=⟨44,[(0,dS ab x0),(1,iI x1),(4,.bool false)],[]⟩
def mN (x0:List aa) (x1:Int) (i0:Nat) (s1:Int):AS:=⟨44,[(0,dS ab x0),(1,iI x1),(4,.bool false),(5,nI i0),(6,iI s1)],[]⟩
def qV (x0:List aa) (x1:Int) (i0:Nat) (u3:Unit):AS:=⟨44,[(0,dS ab x0),(1,iI x1),(4,.bool false),(5,nI i0)],[]⟩
theorem cW (x0:List aa) (x1:Int) (r:Bool) (H:kb x0 x1=some r):bF Tryz.prog 7 [dS ab x0,iI x1] (.bool r):=by
 unfold kb at H;refine aX Tryz.func7 44 [.tmp 4] ?_;refine pA 6 [V1,V1] [.only [0,1,4,5] []] 6 [] (nE x0 x1 0 ()) aN ?_;refine aS H fun R0 h0 H0 => ?_;refine pJ 1 (rb x0 x1) R0 ?_ (fun u1 e0 => ?_)
 ·refine pC (nE x0 x1) h0 (fun i0 s0 h1 e1 => ?_) (fun i0 s0 h2 q0 h3 h4 => ?_)
  ·have c0:=lF i0 x0.length (by omega);subst e1;exact pB 5 [r0 [.v,.v,.e (nI x0.length),.e (.bool false)]] [.only [0,1,4] []] (rb x0 x1 ()) (aT (aC (aV ab x0) (aB c0 aN)))
  ·have c1:=lT i0 x0.length (by omega);refine pA 10 [r0 [.v,.v,.e (nI x0.length),.e (.bool true)],r0 [.v,.v,.e (.dptr (ab (x0.getD i0 ⟨0,[]⟩))),.v,.v,.e (iI ((((x0.getD i0 ⟨0,[]⟩).Vars).length:Nat):Int)),.v]] [.only [0,1,4,5,19] []] 10 [true] ⟨44,[(0,dS ab x0),(1,iI x1),(4,.bool false),(5,nI i0),(19,.bool (decide (((((x0.getD i0 ⟨0,[]⟩).Vars).length:Nat):Int)>10)))],[]⟩ (aT (aC (aV ab x0) (aB c1 (aI aw x0 i0 ⟨0,[]⟩ (aT (aC (aV aj ((x0.getD i0 ⟨0,[]⟩).Vars)) aN)))))) ?_;refine a7 h3 (fun c2 H1 => ?_) (fun c3 H2 => ?_)
   ·obtain rfl:=sI H1;obtain rfl:=aG h4;obtain rfl:=sI (ao H0);exact pR 5 [.eqT 19 (.bool true),V1] [] [] (aB c2 aN)
   ·have c3p:=KL c3;refine pA 6 [.eqT 19 (.bool false),V1] [.only [0,1,4,5,6] []] 5 [false] (mN x0 x1 i0 0) (aB c3 aN) ?_;refine aS H2 fun R1 h5 H3 => ?_;refine pJ 2 (qV x0 x1 i0) R1 ?_ (fun u0 e2 => ?_)
    ·refine s7 (mN x0 x1 i0) (by kernel_rfl) h5 (fun s1 q1 h6 h7 => ?_)
     ·refine a7 h6 (fun c4 H4 => ?_) (fun c5 H5 => ?_)
      ·have c4p:=KM c4;refine aR H4 fun g0 H6 => ?_;refine pA 10 [r0 [.v,.v,.v,.e (.dptr (ab (x0.getD i0 ⟨0,[]⟩))),.v,.v,.e (iI ((((x0.getD i0 ⟨0,[]⟩).Vars).length:Nat):Int)),.v],.eqT 27 (.bool true),r0 [.v,.v,.e (.dptr (ab (x0.getD i0 ⟨0,[]⟩))),.v,.v,.v,.e (.dptr [.str (((x0.getD i0 ⟨0,[]⟩).Vars).getD s1.toNat [])]),.v,.v,.v]] [.only [0,1,4,5,6,39] []] 9 [true] ⟨44,[(0,dS ab x0),(1,iI x1),(4,.bool false),(5,nI i0),(6,iI s1),(39,.bool (decide ((((((x0.getD i0 ⟨0,[]⟩).Vars).getD s1.toNat []).length:Nat):Int)>40)))],[]⟩ (aI aw x0 i0 ⟨0,[]⟩ (aT (aC (aV aj ((x0.getD i0 ⟨0,[]⟩).Vars)) (aB c4 (aI aw x0 i0 ⟨0,[]⟩ (aJ (xv (f:=aj) (l:=((x0.getD i0 ⟨0,[]⟩).Vars)) (n:=s1) [] bb (by decide) (by exact g0)) (aT aN))))))) ?_;refine a7 H6 (fun c6 H7 => ?_) (fun c7 H8 => ?_)
       ·obtain rfl:=sI H7;obtain rfl:=aG h7;obtain rfl:=sI (ao H3);obtain rfl:=aG h4;obtain rfl:=sI (ao H0);exact pR 5 [.eqT 39 (.bool true),V1] [] [] (aB c6 aN)
       ·obtain rfl:=sI H8;exact pB 4 [.eqT 39 (.bool false),r0 [.v,.w,.v]] [.only [0,1,4,5,6] []] (mN x0 x1 i0 (aW (s1+1))) (aB c7 aN)
      ·have c5p:=KL c5;obtain rfl:=sI H5;obtain rfl:=eT h7;exact pB 6 [r0 [.v,.v,.v,.e (.dptr (ab (x0.getD i0 ⟨0,[]⟩))),.v,.v,.e (iI ((((x0.getD i0 ⟨0,[]⟩).Vars).length:Nat):Int)),.v],.eqT 27 (.bool false)] [.only [0,1,4,5] []] (qV x0 x1 i0 ()) (aI aw x0 i0 ⟨0,[]⟩ (aT (aC (aV aj ((x0.getD i0 ⟨0,[]⟩).Vars)) (aB c5 aN))))
    ·subst e2;have H9:=a8 H3;refine bB 0 (ps:=[(x0.map ab).length≤9223372036854775807]) (by kernel_rfl) (fun l0 => ?_);have l1:x0.length≤9223372036854775807:=by simpa only [br,KP] using l0
     clear l0;obtain rfl:=sI H9;exact pB 1 [V3] [.only [0,1,4,5] []] (nE x0 x1 (i0+1) ()) (aH i0 aN)
 ·subst e0;have H10:=a8 H0;obtain rfl:=sI H10;exact pR 3 [r0 [.v,.e (nI x0.length),.v,.v,.v]] [] [] (aT (aC (aV ab x0) aN))
def gG (x0:UInt8):Option Bool :=
 bif decide (((x0).toNat:Int)≥48) then (
  some (decide (((x0).toNat:Int)≤57))
 ) else (
  some false
 )
theorem lS (x0:UInt8) (r:Bool) (H:gG x0=some r):bF Tryz.prog 71 [.int .u8 ((x0).toNat:Int)] (.bool r):=by
 unfold gG at H;refine aX Tryz.func71 9 [.tmp 2] ?_;refine a7 H (fun c0 H0 => ?_) (fun c1 H1 => ?_)
 ·obtain rfl:=sI H0;exact pR 5 [V1,r0 [.v,.e (.bool true),.v,.v,.v,.v,.v]] [] [] (aB c0 aN)
 ·obtain rfl:=sI H1;exact pR 5 [V1,r0 [.v,.e (.bool false),.v,.s,.s,.v,.v]] [] [] (aB c1 aN)
def gW (x0:UInt8):Option Bool :=
 bif decide (((x0).toNat:Int)≥97) then (
  some (decide (((x0).toNat:Int)≤122))
 ) else (
  some false
 )
theorem kE (x0:UInt8) (r:Bool) (H:gW x0=some r):bF Tryz.prog 72 [.int .u8 ((x0).toNat:Int)] (.bool r):=by
 unfold gW at H;refine aX Tryz.func72 9 [.tmp 2] ?_;refine a7 H (fun c0 H0 => ?_) (fun c1 H1 => ?_)
 ·obtain rfl:=sI H0;exact pR 5 [V1,r0 [.v,.e (.bool true),.v,.v,.v,.v,.v]] [] [] (aB c0 aN)
 ·obtain rfl:=sI H1;exact pR 5 [V1,r0 [.v,.e (.bool false),.v,.s,.s,.v,.v]] [] [] (aB c1 aN)
end Go.Proofs.YtadjhpbkknifeaaGreatDoor
